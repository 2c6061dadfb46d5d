/-
  The seat's functions by their names, and facts of their types.
-/
import Derived.Test.YtnaodjnimkndbabSwLib7
import Derived.Test.YtnaodjnimkndbabRows
namespace Go.Sw
noncomputable section
noncomputable abbrev Prog : Program := Go.Proofs.Try.prog
namespace F
abbrev swashtop_WholeTotals : Nat := 21
abbrev view_Try : Nat := 35
abbrev view_Of : Nat := 38
abbrev place_New : Nat := 43
abbrev place_Places_All : Nat := 46
abbrev place_Places_Len : Nat := 58
abbrev pair_Read : Nat := 82
abbrev swashlaw22_Write : Nat := 83
abbrev pair_Table_Get : Nat := 84
abbrev place_Places_Along : Nat := 85
abbrev swashref02_Put : Nat := 89
abbrev slices_Clone_of_api_Glyph_api_Glyph : Nat := 104
abbrev view_View_U32 : Nat := 107
abbrev view_View_Rest : Nat := 108
abbrev view_View_Cut : Nat := 110
abbrev view_View_Bytes : Nat := 111
abbrev place_Clamp : Nat := 113
abbrev slices_Clone_of_api_Place_api_Place : Nat := 118
abbrev view_View_U16 : Nat := 133
abbrev view_View_Rows : Nat := 149
abbrev pair_Read_in1 : Nat := 150
abbrev pair_Take : Nat := 151
abbrev seek_Place : Nat := 152
abbrev pair_Table_value : Nat := 153
abbrev lookup_Table_Get : Nat := 154
abbrev place_Places_at : Nat := 155
abbrev place_Add : Nat := 156
abbrev slices_Clone_of_sfnt_Part_sfnt_Part : Nat := 159
abbrev view_Need : Nat := 175
abbrev lookup_Take : Nat := 176
abbrev view_View_piece : Nat := 179
abbrev view_View_I16 : Nat := 182
abbrev pair_list : Nat := 199
abbrev pair_table : Nat := 200
abbrev view_Fail : Nat := 201
abbrev seek_First : Nat := 202
abbrev seek_Place_in1 : Nat := 203
abbrev view_View_I32 : Nat := 204
abbrev lookup_Table_Get_in1 : Nat := 205
abbrev lookup_part_at : Nat := 206
abbrev lookup_list : Nat := 222
abbrev lookup_reader_segments : Nat := 223
abbrev lookup_reader_single : Nat := 224
abbrev lookup_reader_trimmed : Nat := 225
abbrev lookup_Table_Most : Nat := 235
abbrev lookup_number : Nat := 242
abbrev seek_Take : Nat := 243
abbrev view_View_U8 : Nat := 246
abbrev seek_none : Nat := 247
end F
def kp2 : List (Nat × List Nat) := [(0, [])]
def kp3 : List (Nat × List Nat) := []
def kp4 : List (Nat × List Nat) := []
def kp5 : List (Nat × List Nat) := []
def kp6 : List (Nat × List Nat) := []
def kp7 : List (Nat × List Nat) := []
def kp8 : List (Nat × List Nat) := []
def kp9 : List (Nat × List Nat) := []
def kp10 : List (Nat × List Nat) := []
def kp11 : List (Nat × List Nat) := []
def kp12 : List (Nat × List Nat) := []
def kp13 : List (Nat × List Nat) := []
def kp14 : List (Nat × List Nat) := []
def kp15 : List (Nat × List Nat) := []
def kp16 : List (Nat × List Nat) := []
def kp17 : List (Nat × List Nat) := []
def kp18 : List (Nat × List Nat) := []
def kp19 : List (Nat × List Nat) := []
def kp20 : List (Nat × List Nat) := []
def kp21 : List (Nat × List Nat) := [(0, [0, 1, 2]), (1, [0, 1, 2, 7, 8]), (2, [0, 1, 2, 36]), (3, [6]), (4, [0, 1, 2, 44]), (5, [6]), (6, [1, 2, 7, 8]), (7, [1, 2, 7, 8, 56]), (8, [6]), (9, [1, 2, 7, 9]), (10, [1, 2, 7, 9, 10]), (11, [1, 2, 7, 9, 10, 60, 61]), (12, [1, 2, 7, 9, 10, 60, 61, 62]), (13, [1, 2, 7, 9, 10, 11, 60, 61]), (14, [1, 2, 7, 9, 10, 11, 12, 60, 61]), (15, [1, 2, 7, 9, 10, 11, 12, 60, 61, 67]), (16, [1, 2, 7, 9, 10, 12, 60, 61]), (17, [1, 2, 7, 9, 10, 12, 60, 61]), (18, [1, 2, 7, 9, 10, 60, 61]), (19, [1, 2, 7, 9, 10, 60, 61]), (20, [1, 7, 10, 13]), (21, [1, 7, 10, 13, 14]), (22, [1, 7, 10, 13, 14, 86]), (23, [1, 7, 10, 13, 14]), (24, [1, 7, 10, 13, 14, 15]), (25, [1, 7, 10, 13, 14, 15]), (26, [1, 7, 10, 13, 14]), (27, [1, 10, 13, 16]), (28, [1, 10, 13, 16, 111, 112, 113]), (29, [1, 10, 13, 16, 111, 112, 113, 114]), (30, [1, 10, 13, 16, 18, 111, 112, 113]), (31, [1, 10, 13, 16, 18, 111, 112, 113, 124]), (32, [6]), (33, [1, 10, 13, 16, 111, 112, 113]), (34, [1, 10, 13, 16, 111, 112, 113]), (35, [6]), (1000012, [1, 2, 7, 9, 10, 60, 61]), (1000022, [1, 7, 10, 13, 14]), (1000029, [1, 10, 13, 16, 111, 112, 113])]
def kp22 : List (Nat × List Nat) := []
def kp23 : List (Nat × List Nat) := []
def kp24 : List (Nat × List Nat) := []
def kp25 : List (Nat × List Nat) := [(0, []), (1, [1]), (2, [2, 3]), (3, [2, 25]), (4, [0]), (5, [2, 4]), (6, [0])]
def kp26 : List (Nat × List Nat) := []
def kp27 : List (Nat × List Nat) := []
def kp28 : List (Nat × List Nat) := []
def kp29 : List (Nat × List Nat) := []
def kp30 : List (Nat × List Nat) := []
def kp31 : List (Nat × List Nat) := []
def kp32 : List (Nat × List Nat) := []
def kp33 : List (Nat × List Nat) := []
def kp34 : List (Nat × List Nat) := []
def kp35 : List (Nat × List Nat) := [(0, [0, 2]), (1, [0, 2]), (2, [2]), (3, [2])]
def kp36 : List (Nat × List Nat) := []
def kp37 : List (Nat × List Nat) := []
def kp38 : List (Nat × List Nat) := [(0, [0, 2]), (1, [2])]
def kp39 : List (Nat × List Nat) := [(0, []), (1, [1]), (2, [2, 3]), (3, [2, 3, 4]), (4, [2, 4, 34]), (5, [0]), (6, [4, 5]), (7, [0])]
def kp40 : List (Nat × List Nat) := []
def kp41 : List (Nat × List Nat) := []
def kp42 : List (Nat × List Nat) := []
def kp43 : List (Nat × List Nat) := [(0, [0, 1]), (1, [1, 5]), (2, [5, 12, 13, 14]), (3, [5, 12, 13, 14, 15]), (4, [5, 7, 12, 13, 14]), (5, [5, 12, 13, 14]), (6, [5, 12, 13, 14]), (7, [4]), (1000003, [5, 12, 13, 14])]
def kp44 : List (Nat × List Nat) := []
def kp45 : List (Nat × List Nat) := []
def kp46 : List (Nat × List Nat) := [(0, [0]), (1, [2])]
def kp47 : List (Nat × List Nat) := [(0, []), (1, [1]), (2, [2, 3]), (3, [2, 3, 4]), (4, [2, 4, 34]), (5, [0]), (6, [4, 5]), (7, [0])]
def kp48 : List (Nat × List Nat) := []
def kp49 : List (Nat × List Nat) := []
def kp50 : List (Nat × List Nat) := []
def kp51 : List (Nat × List Nat) := []
def kp52 : List (Nat × List Nat) := []
def kp53 : List (Nat × List Nat) := []
def kp54 : List (Nat × List Nat) := []
def kp55 : List (Nat × List Nat) := []
def kp56 : List (Nat × List Nat) := []
def kp57 : List (Nat × List Nat) := []
def kp58 : List (Nat × List Nat) := [(0, [0]), (1, [2])]
def kp59 : List (Nat × List Nat) := [(0, []), (1, [1, 2]), (2, [1, 15]), (3, [0]), (4, [1, 3]), (5, [0])]
def kp60 : List (Nat × List Nat) := []
def kp61 : List (Nat × List Nat) := []
def kp62 : List (Nat × List Nat) := []
def kp63 : List (Nat × List Nat) := []
def kp64 : List (Nat × List Nat) := []
def kp65 : List (Nat × List Nat) := []
def kp66 : List (Nat × List Nat) := []
def kp67 : List (Nat × List Nat) := []
def kp68 : List (Nat × List Nat) := []
def kp69 : List (Nat × List Nat) := []
def kp70 : List (Nat × List Nat) := []
def kp71 : List (Nat × List Nat) := []
def kp72 : List (Nat × List Nat) := []
def kp73 : List (Nat × List Nat) := []
def kp74 : List (Nat × List Nat) := [(0, []), (1, [1]), (2, [2, 3]), (3, [2, 26]), (4, [0]), (5, [2, 4]), (6, [4, 5, 6]), (7, [0])]
def kp75 : List (Nat × List Nat) := []
def kp76 : List (Nat × List Nat) := []
def kp77 : List (Nat × List Nat) := []
def kp78 : List (Nat × List Nat) := []
def kp79 : List (Nat × List Nat) := []
def kp80 : List (Nat × List Nat) := []
def kp81 : List (Nat × List Nat) := []
def kp82 : List (Nat × List Nat) := [(0, [1, 3, 5, 6]), (1, [1, 3, 5, 6, 26]), (2, [6, 7]), (3, [3, 5, 6, 8]), (4, [6, 33]), (5, [6, 7]), (6, [6, 7])]
def kp83 : List (Nat × List Nat) := [(0, [0]), (1, [0, 3]), (2, [3, 10, 11, 12]), (3, [3, 10, 11, 12, 13]), (4, [3, 5, 10, 11, 12]), (5, [3, 10, 11, 12]), (6, [3, 10, 11, 12]), (7, [2]), (1000003, [3, 10, 11, 12])]
def kp84 : List (Nat × List Nat) := [(0, [0, 1, 2]), (1, [0, 1, 2, 17]), (2, [0, 1, 2, 31]), (3, [6]), (4, [0, 7, 8]), (5, [0, 7, 45]), (6, [6]), (7, [6]), (8, [0, 2, 9]), (9, [0, 9, 11]), (10, [6])]
def kp85 : List (Nat × List Nat) := [(0, [2, 6]), (1, [])]
def kp86 : List (Nat × List Nat) := []
def kp87 : List (Nat × List Nat) := []
def kp88 : List (Nat × List Nat) := []
def kp89 : List (Nat × List Nat) := [(0, [0, 1, 2]), (1, [0, 1, 7]), (2, [0, 1, 7, 13]), (3, [0, 1, 7]), (4, [0, 1, 7, 8]), (5, [0, 1, 7, 8, 9]), (6, [0, 1, 7, 8, 9, 19]), (7, [0, 1, 7, 8, 9]), (8, [0, 1, 7, 8, 9]), (9, [0, 1, 7]), (10, [6]), (1000002, [0, 1, 7]), (1000006, [0, 1, 7, 8, 9])]
def kp90 : List (Nat × List Nat) := []
def kp91 : List (Nat × List Nat) := []
def kp92 : List (Nat × List Nat) := []
def kp93 : List (Nat × List Nat) := []
def kp94 : List (Nat × List Nat) := []
def kp95 : List (Nat × List Nat) := []
def kp96 : List (Nat × List Nat) := []
def kp97 : List (Nat × List Nat) := []
def kp98 : List (Nat × List Nat) := []
def kp99 : List (Nat × List Nat) := []
def kp100 : List (Nat × List Nat) := []
def kp101 : List (Nat × List Nat) := []
def kp102 : List (Nat × List Nat) := []
def kp103 : List (Nat × List Nat) := []
def kp104 : List (Nat × List Nat) := [(0, [0]), (1, [0, 4]), (2, [2]), (3, [2])]
def kp105 : List (Nat × List Nat) := [(0, [0, 4]), (1, [3]), (2, []), (3, [0, 4, 6]), (4, []), (5, [0, 4, 8, 9]), (6, [0]), (7, [])]
def kp106 : List (Nat × List Nat) := []
def kp107 : List (Nat × List Nat) := [(0, [1, 2]), (1, [5]), (2, [4])]
def kp108 : List (Nat × List Nat) := [(0, [1, 2, 4]), (1, [4])]
def kp109 : List (Nat × List Nat) := []
def kp110 : List (Nat × List Nat) := [(0, [1, 2, 3, 6]), (1, [6])]
def kp111 : List (Nat × List Nat) := [(0, [1]), (1, [2])]
def kp112 : List (Nat × List Nat) := []
def kp113 : List (Nat × List Nat) := [(0, [0]), (1, [2])]
def kp114 : List (Nat × List Nat) := []
def kp115 : List (Nat × List Nat) := []
def kp116 : List (Nat × List Nat) := []
def kp117 : List (Nat × List Nat) := []
def kp118 : List (Nat × List Nat) := [(0, [0]), (1, [0, 4]), (2, [2]), (3, [2])]
def kp119 : List (Nat × List Nat) := []
def kp120 : List (Nat × List Nat) := []
def kp121 : List (Nat × List Nat) := []
def kp122 : List (Nat × List Nat) := []
def kp123 : List (Nat × List Nat) := []
def kp124 : List (Nat × List Nat) := []
def kp125 : List (Nat × List Nat) := []
def kp126 : List (Nat × List Nat) := []
def kp127 : List (Nat × List Nat) := []
def kp128 : List (Nat × List Nat) := []
def kp129 : List (Nat × List Nat) := []
def kp130 : List (Nat × List Nat) := []
def kp131 : List (Nat × List Nat) := []
def kp132 : List (Nat × List Nat) := []
def kp133 : List (Nat × List Nat) := [(0, [1, 2]), (1, [5]), (2, [4])]
def kp134 : List (Nat × List Nat) := []
def kp135 : List (Nat × List Nat) := []
def kp136 : List (Nat × List Nat) := []
def kp137 : List (Nat × List Nat) := []
def kp138 : List (Nat × List Nat) := []
def kp139 : List (Nat × List Nat) := []
def kp140 : List (Nat × List Nat) := []
def kp141 : List (Nat × List Nat) := []
def kp142 : List (Nat × List Nat) := []
def kp143 : List (Nat × List Nat) := []
def kp144 : List (Nat × List Nat) := []
def kp145 : List (Nat × List Nat) := []
def kp146 : List (Nat × List Nat) := []
def kp147 : List (Nat × List Nat) := []
def kp148 : List (Nat × List Nat) := []
def kp149 : List (Nat × List Nat) := [(0, [1, 2, 3, 4, 8]), (1, [1, 2, 3, 4, 8]), (2, [8])]
def kp150 : List (Nat × List Nat) := [(0, [])]
def kp151 : List (Nat × List Nat) := [(0, [0, 2, 4]), (1, [2, 4, 7]), (2, [2, 4, 7, 8]), (3, [6]), (4, [2, 4, 7, 12]), (5, [6]), (6, [2, 4, 17]), (7, [2, 4, 22]), (8, [6]), (9, [6]), (10, []), (11, [6])]
def kp152 : List (Nat × List Nat) := [(0, [2, 3]), (1, [2, 3, 6]), (2, [6, 22]), (3, [4, 5]), (4, [4, 5])]
def kp153 : List (Nat × List Nat) := [(0, [0, 1]), (1, [0, 1, 9]), (2, [4]), (3, [4])]
def kp154 : List (Nat × List Nat) := [(0, [2, 3]), (1, [2, 3, 6]), (2, [2, 3, 6, 32]), (3, [4, 5]), (4, [4, 5])]
def kp155 : List (Nat × List Nat) := [(0, [0, 1]), (1, [0, 1, 15]), (2, [4]), (3, [4])]
def kp156 : List (Nat × List Nat) := [(0, [0, 1]), (1, [4])]
def kp157 : List (Nat × List Nat) := []
def kp158 : List (Nat × List Nat) := []
def kp159 : List (Nat × List Nat) := [(0, [0]), (1, [0, 4]), (2, [2]), (3, [2])]
def kp160 : List (Nat × List Nat) := []
def kp161 : List (Nat × List Nat) := []
def kp162 : List (Nat × List Nat) := []
def kp163 : List (Nat × List Nat) := []
def kp164 : List (Nat × List Nat) := []
def kp165 : List (Nat × List Nat) := []
def kp166 : List (Nat × List Nat) := []
def kp167 : List (Nat × List Nat) := []
def kp168 : List (Nat × List Nat) := []
def kp169 : List (Nat × List Nat) := []
def kp170 : List (Nat × List Nat) := []
def kp171 : List (Nat × List Nat) := []
def kp172 : List (Nat × List Nat) := []
def kp173 : List (Nat × List Nat) := []
def kp174 : List (Nat × List Nat) := []
def kp175 : List (Nat × List Nat) := [(0, [3]), (1, [])]
def kp176 : List (Nat × List Nat) := [(0, [1, 2, 3]), (1, [1, 2, 3, 7]), (2, [1, 2, 3, 7, 8]), (3, [1, 2, 3, 7, 8, 22]), (4, [8]), (5, [1, 2, 3, 7, 8, 22, 24]), (6, [8]), (7, [2, 3, 7, 8, 22, 37]), (8, [8]), (9, [2, 3, 7, 8, 22, 44]), (10, [8]), (11, [2, 3, 7, 8, 22, 51]), (12, [8]), (13, [2, 3, 7, 8, 22, 58]), (14, [8]), (15, [3, 7, 8, 66]), (16, [7, 8, 9]), (17, [7, 8, 9]), (18, [8]), (19, [8, 10]), (20, [8, 10, 93]), (21, [8, 10]), (22, [8, 10]), (23, [6]), (1000020, [8, 10])]
def kp177 : List (Nat × List Nat) := []
def kp178 : List (Nat × List Nat) := []
def kp179 : List (Nat × List Nat) := [(0, [1, 2, 3]), (1, [1, 2, 3]), (2, [6])]
def kp180 : List (Nat × List Nat) := []
def kp181 : List (Nat × List Nat) := []
def kp182 : List (Nat × List Nat) := [(0, [1, 2]), (1, [4])]
def kp183 : List (Nat × List Nat) := []
def kp184 : List (Nat × List Nat) := []
def kp185 : List (Nat × List Nat) := []
def kp186 : List (Nat × List Nat) := []
def kp187 : List (Nat × List Nat) := []
def kp188 : List (Nat × List Nat) := []
def kp189 : List (Nat × List Nat) := []
def kp190 : List (Nat × List Nat) := []
def kp191 : List (Nat × List Nat) := []
def kp192 : List (Nat × List Nat) := []
def kp193 : List (Nat × List Nat) := []
def kp194 : List (Nat × List Nat) := []
def kp195 : List (Nat × List Nat) := []
def kp196 : List (Nat × List Nat) := []
def kp197 : List (Nat × List Nat) := []
def kp198 : List (Nat × List Nat) := []
def kp199 : List (Nat × List Nat) := [(0, [1]), (1, [1, 3]), (2, [1, 3]), (3, [3, 4]), (4, [4, 15, 16]), (5, [4, 15, 16, 17]), (6, [4, 5, 15, 16]), (7, [4, 5, 15, 16]), (8, [4, 15, 16]), (9, [4, 15, 16]), (10, [2]), (1000005, [4, 15, 16])]
def kp200 : List (Nat × List Nat) := [(0, [1, 2, 3, 4, 5]), (1, [1, 2, 3, 4, 5, 11]), (2, [1, 2, 3, 4, 5, 11]), (3, [1, 3, 4, 5, 11]), (4, [3, 4, 11]), (5, [3, 4, 11, 12]), (6, [11]), (7, [10])]
def kp201 : List (Nat × List Nat) := [(0, [])]
def kp202 : List (Nat × List Nat) := [(0, [0, 1]), (1, [1, 5, 6]), (2, [1, 5, 6, 11]), (3, [1, 5, 6, 7]), (4, [1, 5, 6, 7, 20]), (5, [1, 5, 6]), (6, [1, 5, 6]), (7, [4]), (1000002, [1, 5, 6])]
def kp203 : List (Nat × List Nat) := [(0, [0, 1, 2]), (1, [4])]
def kp204 : List (Nat × List Nat) := [(0, [1, 2]), (1, [4])]
def kp205 : List (Nat × List Nat) := [(0, [0, 1, 2]), (1, [4])]
def kp206 : List (Nat × List Nat) := [(0, [1, 2]), (1, [4])]
def kp207 : List (Nat × List Nat) := []
def kp208 : List (Nat × List Nat) := []
def kp209 : List (Nat × List Nat) := []
def kp210 : List (Nat × List Nat) := []
def kp211 : List (Nat × List Nat) := []
def kp212 : List (Nat × List Nat) := []
def kp213 : List (Nat × List Nat) := []
def kp214 : List (Nat × List Nat) := []
def kp215 : List (Nat × List Nat) := []
def kp216 : List (Nat × List Nat) := []
def kp217 : List (Nat × List Nat) := []
def kp218 : List (Nat × List Nat) := []
def kp219 : List (Nat × List Nat) := []
def kp220 : List (Nat × List Nat) := []
def kp221 : List (Nat × List Nat) := []
def kp222 : List (Nat × List Nat) := [(0, [1, 2, 3, 4]), (1, [2, 3, 9]), (2, [3, 9, 10]), (3, [3, 9, 10, 20, 21]), (4, [3, 9, 10, 20, 21, 22]), (5, [3, 9, 10, 11, 20, 21]), (6, [3, 9, 10, 20, 21]), (7, [3, 9, 10, 20, 21]), (8, [8]), (1000004, [3, 9, 10, 20, 21])]
def kp223 : List (Nat × List Nat) := [(0, [1, 2]), (1, [1, 2, 5]), (2, [1, 2, 5, 13]), (3, [1, 2, 5]), (4, [1, 2, 5, 6]), (5, [1, 2, 6, 17, 18, 19]), (6, [1, 2, 6, 17, 18, 19, 20]), (7, [1, 2, 6, 8, 17, 18, 19]), (8, [1, 2, 6, 8, 9, 17, 18, 19]), (9, [1, 2, 6, 8, 9, 17, 18, 19]), (10, [1, 2, 6, 8, 9, 17, 18, 19, 34]), (11, [1, 2, 6, 9, 17, 18, 19]), (12, [1, 2, 6, 9, 17, 18, 19]), (13, [1, 2, 6, 17, 18, 19]), (14, [1, 2, 6, 17, 18, 19]), (15, [4]), (1000006, [1, 2, 6, 17, 18, 19])]
def kp224 : List (Nat × List Nat) := [(0, [1]), (1, [1, 3]), (2, [1, 3, 12, 13, 14]), (3, [1, 3, 12, 13, 14, 15]), (4, [1, 3, 5, 12, 13, 14]), (5, [1, 3, 5, 6, 12, 13, 14]), (6, [1, 3, 12, 13, 14]), (7, [1, 3, 12, 13, 14]), (8, [2]), (1000003, [1, 3, 12, 13, 14])]
def kp225 : List (Nat × List Nat) := [(0, [1, 2, 3]), (1, [1, 2, 3, 7, 8]), (2, [1, 2, 3, 7, 8]), (3, [7, 8, 9]), (4, [7, 8, 9, 32]), (5, [6]), (6, [6])]
def kp226 : List (Nat × List Nat) := []
def kp227 : List (Nat × List Nat) := []
def kp228 : List (Nat × List Nat) := []
def kp229 : List (Nat × List Nat) := []
def kp230 : List (Nat × List Nat) := []
def kp231 : List (Nat × List Nat) := []
def kp232 : List (Nat × List Nat) := []
def kp233 : List (Nat × List Nat) := []
def kp234 : List (Nat × List Nat) := []
def kp235 : List (Nat × List Nat) := [(0, [0]), (1, [0, 3]), (2, [3, 11, 12, 13]), (3, [3, 11, 12, 13, 14]), (4, [3, 5, 11, 12, 13]), (5, [3, 11, 12, 13, 18, 19, 20]), (6, [3, 11, 12, 13, 18, 19, 20, 21]), (7, [3, 7, 11, 12, 13, 18, 19, 20]), (8, [3, 11, 12, 13, 18, 19, 20]), (9, [3, 11, 12, 13, 18, 19, 20]), (10, [3, 11, 12, 13]), (11, [2]), (1000003, [3, 11, 12, 13]), (1000006, [3, 11, 12, 13, 18, 19, 20])]
def kp236 : List (Nat × List Nat) := []
def kp237 : List (Nat × List Nat) := []
def kp238 : List (Nat × List Nat) := []
def kp239 : List (Nat × List Nat) := []
def kp240 : List (Nat × List Nat) := []
def kp241 : List (Nat × List Nat) := []
def kp242 : List (Nat × List Nat) := [(0, [1, 2, 3]), (1, [1, 3, 7]), (2, [1, 3, 7, 8]), (3, [6]), (4, [1, 3, 13]), (5, [6]), (6, [6])]
def kp243 : List (Nat × List Nat) := [(0, [1, 2, 3, 4]), (1, [1, 2, 3, 4, 9, 10]), (2, [1, 2, 3, 4, 9, 10]), (3, [1, 3, 4, 9, 10]), (4, [3, 9, 10, 11]), (5, [3, 9, 10, 11, 12]), (6, [3, 9, 10, 11, 12, 34, 35]), (7, [3, 9, 10, 11, 12, 34, 35, 36]), (8, [3, 9, 10, 11, 12, 13, 34, 35]), (9, [3, 9, 10, 11, 12, 34, 35]), (10, [3, 9, 10, 11, 12, 34, 35]), (11, [10, 12, 58]), (12, [8]), (13, [8]), (1000007, [3, 9, 10, 11, 12, 34, 35])]
def kp244 : List (Nat × List Nat) := [(0, [0, 1, 2]), (1, [0, 1, 2]), (2, [0, 1, 2, 7]), (3, [0, 1, 2, 7, 16]), (4, [6]), (5, [0, 1, 2, 7, 8]), (6, [0, 1, 2, 7, 8, 22]), (7, [6]), (8, [0, 1, 2, 7, 8, 31]), (9, [0, 1, 2, 7, 9]), (10, [0, 1, 7, 9]), (11, [9]), (12, [6]), (13, [0, 1, 2, 7, 8]), (14, [0, 1, 2, 7, 8, 68]), (15, [0, 1, 2]), (16, [0]), (17, [6]), (18, [0, 1, 7]), (19, [0]), (20, [6])]
def kp245 : List (Nat × List Nat) := [(0, [0, 2, 3, 4, 10]), (1, [0, 2, 4, 10, 11]), (2, [0, 2, 4, 10, 11, 20]), (3, [0, 2, 4, 10, 11, 23]), (4, [0, 2, 4, 10, 11]), (5, [0, 2, 4, 10, 11]), (6, [0, 2, 4, 10, 11]), (7, [0, 2, 4, 10, 11]), (8, []), (1000002, [0, 2, 4, 10, 11])]
def kp246 : List (Nat × List Nat) := [(0, [1, 2]), (1, [4])]
def kp247 : List (Nat × List Nat) := [(0, [1, 2]), (1, [2, 6, 7]), (2, [2, 6, 7, 8]), (3, [2, 5, 6, 7]), (4, [2, 6, 7, 14]), (5, [4]), (6, [2, 6, 7]), (7, [4]), (1000002, [2, 6, 7])]
def kp249 : List (Nat × List Nat) := [(0, [])]
def kp250 : List (Nat × List Nat) := []
def kp251 : List (Nat × List Nat) := [(0, [0, 1]), (1, [0]), (2, [])]
def kp252 : List (Nat × List Nat) := []
def kpT (f : Nat) : List (Nat × List Nat) :=
 bif Nat.blt f 136 then (bif Nat.blt f 68 then (bif Nat.blt f 34 then (bif Nat.blt f 17 then (bif Nat.blt f 8 then (bif Nat.blt f 4 then (bif Nat.blt f 2 then ([]) else (bif Nat.blt f 3 then (kp2) else (kp3))) else (bif Nat.blt f 6 then (bif Nat.blt f 5 then (kp4) else (kp5)) else (bif Nat.blt f 7 then (kp6) else (kp7)))) else (bif Nat.blt f 12 then (bif Nat.blt f 10 then (bif Nat.blt f 9 then (kp8) else (kp9)) else (bif Nat.blt f 11 then (kp10) else (kp11))) else (bif Nat.blt f 14 then (bif Nat.blt f 13 then (kp12) else (kp13)) else (bif Nat.blt f 15 then (kp14) else (bif Nat.blt f 16 then (kp15) else (kp16)))))) else (bif Nat.blt f 25 then (bif Nat.blt f 21 then (bif Nat.blt f 19 then (bif Nat.blt f 18 then (kp17) else (kp18)) else (bif Nat.blt f 20 then (kp19) else (kp20))) else (bif Nat.blt f 23 then (bif Nat.blt f 22 then (kp21) else (kp22)) else (bif Nat.blt f 24 then (kp23) else (kp24)))) else (bif Nat.blt f 29 then (bif Nat.blt f 27 then (bif Nat.blt f 26 then (kp25) else (kp26)) else (bif Nat.blt f 28 then (kp27) else (kp28))) else (bif Nat.blt f 31 then (bif Nat.blt f 30 then (kp29) else (kp30)) else (bif Nat.blt f 32 then (kp31) else (bif Nat.blt f 33 then (kp32) else (kp33))))))) else (bif Nat.blt f 51 then (bif Nat.blt f 42 then (bif Nat.blt f 38 then (bif Nat.blt f 36 then (bif Nat.blt f 35 then (kp34) else (kp35)) else (bif Nat.blt f 37 then (kp36) else (kp37))) else (bif Nat.blt f 40 then (bif Nat.blt f 39 then (kp38) else (kp39)) else (bif Nat.blt f 41 then (kp40) else (kp41)))) else (bif Nat.blt f 46 then (bif Nat.blt f 44 then (bif Nat.blt f 43 then (kp42) else (kp43)) else (bif Nat.blt f 45 then (kp44) else (kp45))) else (bif Nat.blt f 48 then (bif Nat.blt f 47 then (kp46) else (kp47)) else (bif Nat.blt f 49 then (kp48) else (bif Nat.blt f 50 then (kp49) else (kp50)))))) else (bif Nat.blt f 59 then (bif Nat.blt f 55 then (bif Nat.blt f 53 then (bif Nat.blt f 52 then (kp51) else (kp52)) else (bif Nat.blt f 54 then (kp53) else (kp54))) else (bif Nat.blt f 57 then (bif Nat.blt f 56 then (kp55) else (kp56)) else (bif Nat.blt f 58 then (kp57) else (kp58)))) else (bif Nat.blt f 63 then (bif Nat.blt f 61 then (bif Nat.blt f 60 then (kp59) else (kp60)) else (bif Nat.blt f 62 then (kp61) else (kp62))) else (bif Nat.blt f 65 then (bif Nat.blt f 64 then (kp63) else (kp64)) else (bif Nat.blt f 66 then (kp65) else (bif Nat.blt f 67 then (kp66) else (kp67)))))))) else (bif Nat.blt f 102 then (bif Nat.blt f 85 then (bif Nat.blt f 76 then (bif Nat.blt f 72 then (bif Nat.blt f 70 then (bif Nat.blt f 69 then (kp68) else (kp69)) else (bif Nat.blt f 71 then (kp70) else (kp71))) else (bif Nat.blt f 74 then (bif Nat.blt f 73 then (kp72) else (kp73)) else (bif Nat.blt f 75 then (kp74) else (kp75)))) else (bif Nat.blt f 80 then (bif Nat.blt f 78 then (bif Nat.blt f 77 then (kp76) else (kp77)) else (bif Nat.blt f 79 then (kp78) else (kp79))) else (bif Nat.blt f 82 then (bif Nat.blt f 81 then (kp80) else (kp81)) else (bif Nat.blt f 83 then (kp82) else (bif Nat.blt f 84 then (kp83) else (kp84)))))) else (bif Nat.blt f 93 then (bif Nat.blt f 89 then (bif Nat.blt f 87 then (bif Nat.blt f 86 then (kp85) else (kp86)) else (bif Nat.blt f 88 then (kp87) else (kp88))) else (bif Nat.blt f 91 then (bif Nat.blt f 90 then (kp89) else (kp90)) else (bif Nat.blt f 92 then (kp91) else (kp92)))) else (bif Nat.blt f 97 then (bif Nat.blt f 95 then (bif Nat.blt f 94 then (kp93) else (kp94)) else (bif Nat.blt f 96 then (kp95) else (kp96))) else (bif Nat.blt f 99 then (bif Nat.blt f 98 then (kp97) else (kp98)) else (bif Nat.blt f 100 then (kp99) else (bif Nat.blt f 101 then (kp100) else (kp101))))))) else (bif Nat.blt f 119 then (bif Nat.blt f 110 then (bif Nat.blt f 106 then (bif Nat.blt f 104 then (bif Nat.blt f 103 then (kp102) else (kp103)) else (bif Nat.blt f 105 then (kp104) else (kp105))) else (bif Nat.blt f 108 then (bif Nat.blt f 107 then (kp106) else (kp107)) else (bif Nat.blt f 109 then (kp108) else (kp109)))) else (bif Nat.blt f 114 then (bif Nat.blt f 112 then (bif Nat.blt f 111 then (kp110) else (kp111)) else (bif Nat.blt f 113 then (kp112) else (kp113))) else (bif Nat.blt f 116 then (bif Nat.blt f 115 then (kp114) else (kp115)) else (bif Nat.blt f 117 then (kp116) else (bif Nat.blt f 118 then (kp117) else (kp118)))))) else (bif Nat.blt f 127 then (bif Nat.blt f 123 then (bif Nat.blt f 121 then (bif Nat.blt f 120 then (kp119) else (kp120)) else (bif Nat.blt f 122 then (kp121) else (kp122))) else (bif Nat.blt f 125 then (bif Nat.blt f 124 then (kp123) else (kp124)) else (bif Nat.blt f 126 then (kp125) else (kp126)))) else (bif Nat.blt f 131 then (bif Nat.blt f 129 then (bif Nat.blt f 128 then (kp127) else (kp128)) else (bif Nat.blt f 130 then (kp129) else (kp130))) else (bif Nat.blt f 133 then (bif Nat.blt f 132 then (kp131) else (kp132)) else (bif Nat.blt f 134 then (kp133) else (bif Nat.blt f 135 then (kp134) else (kp135))))))))) else (bif Nat.blt f 204 then (bif Nat.blt f 170 then (bif Nat.blt f 153 then (bif Nat.blt f 144 then (bif Nat.blt f 140 then (bif Nat.blt f 138 then (bif Nat.blt f 137 then (kp136) else (kp137)) else (bif Nat.blt f 139 then (kp138) else (kp139))) else (bif Nat.blt f 142 then (bif Nat.blt f 141 then (kp140) else (kp141)) else (bif Nat.blt f 143 then (kp142) else (kp143)))) else (bif Nat.blt f 148 then (bif Nat.blt f 146 then (bif Nat.blt f 145 then (kp144) else (kp145)) else (bif Nat.blt f 147 then (kp146) else (kp147))) else (bif Nat.blt f 150 then (bif Nat.blt f 149 then (kp148) else (kp149)) else (bif Nat.blt f 151 then (kp150) else (bif Nat.blt f 152 then (kp151) else (kp152)))))) else (bif Nat.blt f 161 then (bif Nat.blt f 157 then (bif Nat.blt f 155 then (bif Nat.blt f 154 then (kp153) else (kp154)) else (bif Nat.blt f 156 then (kp155) else (kp156))) else (bif Nat.blt f 159 then (bif Nat.blt f 158 then (kp157) else (kp158)) else (bif Nat.blt f 160 then (kp159) else (kp160)))) else (bif Nat.blt f 165 then (bif Nat.blt f 163 then (bif Nat.blt f 162 then (kp161) else (kp162)) else (bif Nat.blt f 164 then (kp163) else (kp164))) else (bif Nat.blt f 167 then (bif Nat.blt f 166 then (kp165) else (kp166)) else (bif Nat.blt f 168 then (kp167) else (bif Nat.blt f 169 then (kp168) else (kp169))))))) else (bif Nat.blt f 187 then (bif Nat.blt f 178 then (bif Nat.blt f 174 then (bif Nat.blt f 172 then (bif Nat.blt f 171 then (kp170) else (kp171)) else (bif Nat.blt f 173 then (kp172) else (kp173))) else (bif Nat.blt f 176 then (bif Nat.blt f 175 then (kp174) else (kp175)) else (bif Nat.blt f 177 then (kp176) else (kp177)))) else (bif Nat.blt f 182 then (bif Nat.blt f 180 then (bif Nat.blt f 179 then (kp178) else (kp179)) else (bif Nat.blt f 181 then (kp180) else (kp181))) else (bif Nat.blt f 184 then (bif Nat.blt f 183 then (kp182) else (kp183)) else (bif Nat.blt f 185 then (kp184) else (bif Nat.blt f 186 then (kp185) else (kp186)))))) else (bif Nat.blt f 195 then (bif Nat.blt f 191 then (bif Nat.blt f 189 then (bif Nat.blt f 188 then (kp187) else (kp188)) else (bif Nat.blt f 190 then (kp189) else (kp190))) else (bif Nat.blt f 193 then (bif Nat.blt f 192 then (kp191) else (kp192)) else (bif Nat.blt f 194 then (kp193) else (kp194)))) else (bif Nat.blt f 199 then (bif Nat.blt f 197 then (bif Nat.blt f 196 then (kp195) else (kp196)) else (bif Nat.blt f 198 then (kp197) else (kp198))) else (bif Nat.blt f 201 then (bif Nat.blt f 200 then (kp199) else (kp200)) else (bif Nat.blt f 202 then (kp201) else (bif Nat.blt f 203 then (kp202) else (kp203)))))))) else (bif Nat.blt f 238 then (bif Nat.blt f 221 then (bif Nat.blt f 212 then (bif Nat.blt f 208 then (bif Nat.blt f 206 then (bif Nat.blt f 205 then (kp204) else (kp205)) else (bif Nat.blt f 207 then (kp206) else (kp207))) else (bif Nat.blt f 210 then (bif Nat.blt f 209 then (kp208) else (kp209)) else (bif Nat.blt f 211 then (kp210) else (kp211)))) else (bif Nat.blt f 216 then (bif Nat.blt f 214 then (bif Nat.blt f 213 then (kp212) else (kp213)) else (bif Nat.blt f 215 then (kp214) else (kp215))) else (bif Nat.blt f 218 then (bif Nat.blt f 217 then (kp216) else (kp217)) else (bif Nat.blt f 219 then (kp218) else (bif Nat.blt f 220 then (kp219) else (kp220)))))) else (bif Nat.blt f 229 then (bif Nat.blt f 225 then (bif Nat.blt f 223 then (bif Nat.blt f 222 then (kp221) else (kp222)) else (bif Nat.blt f 224 then (kp223) else (kp224))) else (bif Nat.blt f 227 then (bif Nat.blt f 226 then (kp225) else (kp226)) else (bif Nat.blt f 228 then (kp227) else (kp228)))) else (bif Nat.blt f 233 then (bif Nat.blt f 231 then (bif Nat.blt f 230 then (kp229) else (kp230)) else (bif Nat.blt f 232 then (kp231) else (kp232))) else (bif Nat.blt f 235 then (bif Nat.blt f 234 then (kp233) else (kp234)) else (bif Nat.blt f 236 then (kp235) else (bif Nat.blt f 237 then (kp236) else (kp237))))))) else (bif Nat.blt f 255 then (bif Nat.blt f 246 then (bif Nat.blt f 242 then (bif Nat.blt f 240 then (bif Nat.blt f 239 then (kp238) else (kp239)) else (bif Nat.blt f 241 then (kp240) else (kp241))) else (bif Nat.blt f 244 then (bif Nat.blt f 243 then (kp242) else (kp243)) else (bif Nat.blt f 245 then (kp244) else (kp245)))) else (bif Nat.blt f 250 then (bif Nat.blt f 248 then (bif Nat.blt f 247 then (kp246) else (kp247)) else (bif Nat.blt f 249 then ([]) else (kp249))) else (bif Nat.blt f 252 then (bif Nat.blt f 251 then (kp250) else (kp251)) else (bif Nat.blt f 253 then (kp252) else ([]))))) else ([]))))
def kpLook (id : Nat) : List (Nat × List Nat) → List Nat
 | [] => []
 | (i, l) :: r => bif Nat.beq i id then l else kpLook id r
def kpS (f id : Nat) : List Nat := kpLook id (kpT f)
def speaksT : List Nat := [25, 39, 47, 59, 74]
abbrev shortT : Nat := 200
def moreS (f : Nat) : Option Sp := bif Nat.beq f 35 then some (tryV 200) else bif Nat.beq f 104 then some (fun _ args H => cloneV 2 16 args H) else bif Nat.beq f 118 then some (fun _ args H => cloneV 3 12 args H) else bif Nat.beq f 159 then some (fun _ args H => cloneV 2 40 args H) else bif Nat.beq f 244 then some stuckSp else none
def ownersW : List Nat := [999999, 39, 47, 59, 74]
def ownW (k : Nat) : Mode := bif ownersW.contains (k % 1000000) then .no else .fz
def mdS (k f : Nat) : Mode := bif Nat.blt f 136 then (bif Nat.blt f 68 then (bif Nat.blt f 34 then (bif Nat.blt f 17 then (bif Nat.blt f 8 then (bif Nat.blt f 4 then (bif Nat.blt f 2 then (.gc) else (bif Nat.blt f 3 then (.no) else (.gc))) else (.gc)) else (.gc)) else (bif Nat.blt f 25 then (.gc) else (bif Nat.blt f 29 then (bif Nat.blt f 27 then (.gc) else (bif Nat.blt f 28 then (ownW k) else (.fz))) else (bif Nat.blt f 31 then (bif Nat.blt f 30 then (.fz) else (.no)) else (bif Nat.blt f 32 then (.no) else (bif Nat.blt f 33 then (.fz) else (own k))))))) else (bif Nat.blt f 51 then (bif Nat.blt f 42 then (bif Nat.blt f 38 then (bif Nat.blt f 36 then (bif Nat.blt f 35 then (.fz) else (.no)) else (bif Nat.blt f 37 then (.no) else (.fz))) else (bif Nat.blt f 40 then (.gc) else (bif Nat.blt f 41 then (.no) else (.fz)))) else (bif Nat.blt f 46 then (bif Nat.blt f 44 then (bif Nat.blt f 43 then (.fz) else (.no)) else (bif Nat.blt f 45 then (.no) else (.gc))) else (bif Nat.blt f 48 then (bif Nat.blt f 47 then (own k) else (.gc)) else (.fz)))) else (bif Nat.blt f 59 then (bif Nat.blt f 55 then (bif Nat.blt f 53 then (bif Nat.blt f 52 then (.no) else (.fz)) else (bif Nat.blt f 54 then (.fz) else (own k))) else (bif Nat.blt f 57 then (bif Nat.blt f 56 then (.no) else (.fz)) else (.gc))) else (bif Nat.blt f 63 then (bif Nat.blt f 61 then (bif Nat.blt f 60 then (.gc) else (.fz)) else (bif Nat.blt f 62 then (.fz) else (.no))) else (bif Nat.blt f 65 then (bif Nat.blt f 64 then (.fz) else (.gc)) else (bif Nat.blt f 66 then (own k) else (bif Nat.blt f 67 then (.fz) else (.no)))))))) else (bif Nat.blt f 102 then (bif Nat.blt f 85 then (bif Nat.blt f 76 then (bif Nat.blt f 72 then (bif Nat.blt f 70 then (bif Nat.blt f 69 then (.fz) else (.gc)) else (bif Nat.blt f 71 then (own k) else (.fz))) else (bif Nat.blt f 74 then (.fz) else (.gc))) else (bif Nat.blt f 80 then (bif Nat.blt f 78 then (.fz) else (bif Nat.blt f 79 then (.no) else (.fz))) else (bif Nat.blt f 82 then (bif Nat.blt f 81 then (.no) else (.fz)) else (bif Nat.blt f 83 then (.fz) else (bif Nat.blt f 84 then (.fz) else (.gc)))))) else (bif Nat.blt f 93 then (bif Nat.blt f 89 then (bif Nat.blt f 87 then (bif Nat.blt f 86 then (.no) else (.fz)) else (.gc)) else (bif Nat.blt f 91 then (bif Nat.blt f 90 then (.no) else (.gc)) else (.gc))) else (bif Nat.blt f 97 then (bif Nat.blt f 95 then (bif Nat.blt f 94 then (.gc) else (.no)) else (bif Nat.blt f 96 then (.fz) else (.gc))) else (bif Nat.blt f 99 then (bif Nat.blt f 98 then (.fz) else (.gc)) else (bif Nat.blt f 100 then (.gc) else (bif Nat.blt f 101 then (.no) else (.gc))))))) else (bif Nat.blt f 119 then (bif Nat.blt f 110 then (bif Nat.blt f 106 then (.no) else (bif Nat.blt f 108 then (bif Nat.blt f 107 then (.fz) else (.gc)) else (bif Nat.blt f 109 then (.gc) else (own k)))) else (bif Nat.blt f 114 then (bif Nat.blt f 112 then (bif Nat.blt f 111 then (.gc) else (.fz)) else (bif Nat.blt f 113 then (.no) else (.gc))) else (bif Nat.blt f 116 then (bif Nat.blt f 115 then (.no) else (.gc)) else (bif Nat.blt f 117 then (.gc) else (.no))))) else (bif Nat.blt f 127 then (bif Nat.blt f 123 then (bif Nat.blt f 121 then (bif Nat.blt f 120 then (.no) else (.fz)) else (bif Nat.blt f 122 then (.gc) else (.no))) else (bif Nat.blt f 125 then (.no) else (.gc))) else (bif Nat.blt f 131 then (bif Nat.blt f 129 then (bif Nat.blt f 128 then (.gc) else (.fz)) else (.fz)) else (bif Nat.blt f 133 then (.gc) else (bif Nat.blt f 134 then (.gc) else (bif Nat.blt f 135 then (.no) else (.gc))))))))) else (bif Nat.blt f 204 then (bif Nat.blt f 170 then (bif Nat.blt f 153 then (bif Nat.blt f 144 then (bif Nat.blt f 140 then (bif Nat.blt f 138 then (.no) else (bif Nat.blt f 139 then (.no) else (.fz))) else (bif Nat.blt f 142 then (bif Nat.blt f 141 then (.fz) else (.gc)) else (bif Nat.blt f 143 then (.no) else (.fz)))) else (bif Nat.blt f 148 then (bif Nat.blt f 146 then (.no) else (.gc)) else (bif Nat.blt f 150 then (.gc) else (bif Nat.blt f 151 then (.no) else (bif Nat.blt f 152 then (.fz) else (.gc)))))) else (bif Nat.blt f 161 then (bif Nat.blt f 157 then (bif Nat.blt f 155 then (.gc) else (bif Nat.blt f 156 then (.no) else (.gc))) else (bif Nat.blt f 159 then (bif Nat.blt f 158 then (.gc) else (.no)) else (.no))) else (bif Nat.blt f 165 then (.gc) else (bif Nat.blt f 167 then (.gc) else (bif Nat.blt f 168 then (.gc) else (.no)))))) else (bif Nat.blt f 187 then (bif Nat.blt f 178 then (bif Nat.blt f 174 then (bif Nat.blt f 172 then (.no) else (bif Nat.blt f 173 then (.fz) else (.no))) else (bif Nat.blt f 176 then (bif Nat.blt f 175 then (.no) else (.gc)) else (bif Nat.blt f 177 then (.fz) else (.no)))) else (bif Nat.blt f 182 then (bif Nat.blt f 180 then (bif Nat.blt f 179 then (.no) else (.gc)) else (.gc)) else (bif Nat.blt f 184 then (bif Nat.blt f 183 then (.gc) else (.no)) else (bif Nat.blt f 185 then (.no) else (bif Nat.blt f 186 then (.no) else (.gc)))))) else (bif Nat.blt f 195 then (bif Nat.blt f 191 then (bif Nat.blt f 189 then (.gc) else (bif Nat.blt f 190 then (.no) else (.gc))) else (bif Nat.blt f 193 then (bif Nat.blt f 192 then (.gc) else (.no)) else (.gc))) else (bif Nat.blt f 199 then (bif Nat.blt f 197 then (.fz) else (bif Nat.blt f 198 then (.gc) else (.no))) else (bif Nat.blt f 201 then (.fz) else (.gc)))))) else (bif Nat.blt f 238 then (bif Nat.blt f 221 then (bif Nat.blt f 212 then (bif Nat.blt f 208 then (bif Nat.blt f 206 then (.gc) else (bif Nat.blt f 207 then (.gc) else (.no))) else (bif Nat.blt f 210 then (.gc) else (bif Nat.blt f 211 then (.gc) else (.no)))) else (bif Nat.blt f 216 then (bif Nat.blt f 214 then (.gc) else (bif Nat.blt f 215 then (.no) else (.gc))) else (bif Nat.blt f 218 then (bif Nat.blt f 217 then (.no) else (.fz)) else (bif Nat.blt f 219 then (.fz) else (bif Nat.blt f 220 then (.fz) else (.gc)))))) else (bif Nat.blt f 229 then (bif Nat.blt f 225 then (bif Nat.blt f 223 then (bif Nat.blt f 222 then (.gc) else (.fz)) else (.fz)) else (bif Nat.blt f 227 then (bif Nat.blt f 226 then (.fz) else (.gc)) else (bif Nat.blt f 228 then (.no) else (.gc)))) else (bif Nat.blt f 233 then (bif Nat.blt f 231 then (bif Nat.blt f 230 then (.gc) else (.no)) else (.no)) else (bif Nat.blt f 235 then (bif Nat.blt f 234 then (.no) else (.fz)) else (bif Nat.blt f 236 then (.gc) else (.no)))))) else (bif Nat.blt f 255 then (bif Nat.blt f 246 then (bif Nat.blt f 242 then (bif Nat.blt f 240 then (bif Nat.blt f 239 then (.gc) else (.no)) else (.gc)) else (bif Nat.blt f 244 then (bif Nat.blt f 243 then (.gc) else (.fz)) else (.no))) else (bif Nat.blt f 250 then (bif Nat.blt f 248 then (.gc) else (.no)) else (bif Nat.blt f 252 then (.no) else (bif Nat.blt f 253 then (.no) else (.gc))))) else (bif Nat.blt f 264 then (.gc) else (bif Nat.blt f 268 then (.gc) else (bif Nat.blt f 270 then (bif Nat.blt f 269 then (.gc) else (.no)) else (.gc)))))))
def arS (f : Nat) : Bool := [49, 71].any (Nat.beq f)
noncomputable def C (k : Nat) : Cfg := { P := Prog, kp := kpS, sp := spOf speaksT moreS (k % 1000000) }
noncomputable def T (k : Nat) : Told := { c := C k, md := mdS k, ar := arS }
theorem more_scott (f : FuncId) (s : Sp) (h : moreS f = some s) : ∀ args H, Scott fun call => s call args H := by
 unfold moreS at h
 cases h35 : Nat.beq f 35 with
 | true => rw [h35, cond_true] at h; injection h with h; subst h; first | exact fun args H => Scott.const _ | exact Scott.tryV _ | exact Scott.told _
 | false =>
 rw [h35, cond_false] at h
 cases h104 : Nat.beq f 104 with
 | true => rw [h104, cond_true] at h; injection h with h; subst h; first | exact fun args H => Scott.const _ | exact Scott.tryV _ | exact Scott.told _
 | false =>
 rw [h104, cond_false] at h
 cases h118 : Nat.beq f 118 with
 | true => rw [h118, cond_true] at h; injection h with h; subst h; first | exact fun args H => Scott.const _ | exact Scott.tryV _ | exact Scott.told _
 | false =>
 rw [h118, cond_false] at h
 cases h159 : Nat.beq f 159 with
 | true => rw [h159, cond_true] at h; injection h with h; subst h; first | exact fun args H => Scott.const _ | exact Scott.tryV _ | exact Scott.told _
 | false =>
 rw [h159, cond_false] at h
 cases h244 : Nat.beq f 244 with
 | true => rw [h244, cond_true] at h; injection h with h; subst h; first | exact fun args H => Scott.const _ | exact Scott.tryV _ | exact Scott.told _
 | false =>
 rw [h244, cond_false] at h
 cases h
theorem T_scott (k : Nat) : SpScott (T k).c := SpScott.of more_scott
@[simp] theorem ld_3 (a : Value) (h : Heap) : loadR Prog 3 a h = ld1 a h := ld1_eq (by kernel_rfl) a h
@[simp] theorem st_3 (a v : Value) (h : Heap) : storeR Prog 3 a v h = stR 1 a v h := st_eq (by kernel_rfl) a v h
@[simp] theorem ld_22 (a : Value) (h : Heap) : loadR Prog 22 a h = ld1 a h := ld1_eq (by kernel_rfl) a h
@[simp] theorem len_22 (x : Value) (h : Heap) : builtinV Prog .len [22] [x] h = lnS x h := lnS_eq (e := 5) (by kernel_rfl) x h
@[simp] theorem len_27 (x : Value) (h : Heap) : builtinV Prog .len [27] [x] h = lnS x h := lnS_eq (e := 3) (by kernel_rfl) x h
@[simp] theorem mk_27 (l c : Value) (h : Heap) : makeSliceV Prog 27 l c h = mkR 1 8 [.int .i64 0] l c h := mk_is (e := 3) (z := .int .i64 0) (by kernel_rfl) (by kernel_rfl) (by kernel_rfl) (by kernel_rfl) (by kernel_rfl) l c h
@[simp] theorem cv_5_3 (x : Value) (H : Heap) : convR Prog 5 3 x H = cvK .i64 x H := convR_int (by kernel_rfl) (by kernel_rfl) x H
@[simp] theorem cv_3_88 (x : Value) (H : Heap) : convR Prog 3 88 x H = cvK .i16 x H := convR_int (by kernel_rfl) (by kernel_rfl) x H
@[simp] theorem ix_27 (x i : Value) (h : Heap) : indexAddrR Prog 27 x i h = ixS 1 x i h := ixS_eq (e := 3) (by kernel_rfl) (by kernel_rfl) x i h
@[simp] theorem len_70 (x : Value) (h : Heap) : builtinV Prog .len [70] [x] h = lnS x h := lnS_eq (e := 91) (by kernel_rfl) x h
@[simp] theorem ix_70 (x i : Value) (h : Heap) : indexAddrR Prog 70 x i h = ixS 3 x i h := ixS_eq (e := 91) (by kernel_rfl) (by kernel_rfl) x i h
@[simp] theorem ld_91 (a : Value) (h : Heap) : loadR Prog 91 a h = ldA 3 a h := ldA_eq (by kernel_rfl) (by kernel_rfl) a h
@[simp] theorem al_91 (h : Heap) : allocR Prog 91 h = newP [.int .i32 0, .int .i32 0, .int .i32 0] h := al_eq (z := .agg #[.int .i32 0, .int .i32 0, .int .i32 0]) (by kernel_rfl) h
@[simp] theorem st_91 (a v : Value) (h : Heap) : storeR Prog 91 a v h = stR 3 a v h := st_eq (by kernel_rfl) a v h
@[simp] theorem cv_3_21 (x : Value) (H : Heap) : convR Prog 3 21 x H = cvK .i32 x H := convR_int (by kernel_rfl) (by kernel_rfl) x H
@[simp] theorem bd_91 (ps : List (Nat × Value)) (h : Heap) : buildR Prog 91 ps h = bdR [(0, 1), (1, 1), (2, 1)] ps [.int .i32 0, .int .i32 0, .int .i32 0] h := bd_is (z := .agg #[.int .i32 0, .int .i32 0, .int .i32 0]) (by kernel_rfl) (by kernel_rfl) (by kernel_rfl) ps h
@[simp] theorem fa_91_0 (a : Value) (h : Heap) : fieldAddrR Prog 91 a 0 h = faR 0 1 a h := fa_is (ft := 21) (by kernel_rfl) (by kernel_rfl) a h
@[simp] theorem ld_21 (a : Value) (h : Heap) : loadR Prog 21 a h = ld1 a h := ld1_eq (by kernel_rfl) a h
@[simp] theorem cv_21_3 (x : Value) (H : Heap) : convR Prog 21 3 x H = cvK .i64 x H := convR_int (by kernel_rfl) (by kernel_rfl) x H
@[simp] theorem fa_91_1 (a : Value) (h : Heap) : fieldAddrR Prog 91 a 1 h = faR 1 1 a h := fa_is (ft := 21) (by kernel_rfl) (by kernel_rfl) a h
@[simp] theorem fa_91_2 (a : Value) (h : Heap) : fieldAddrR Prog 91 a 2 h = faR 2 1 a h := fa_is (ft := 21) (by kernel_rfl) (by kernel_rfl) a h
@[simp] theorem ix_22 (x i : Value) (h : Heap) : indexAddrR Prog 22 x i h = ixS 1 x i h := ixS_eq (e := 5) (by kernel_rfl) (by kernel_rfl) x i h
@[simp] theorem ld_27 (a : Value) (h : Heap) : loadR Prog 27 a h = ld1 a h := ld1_eq (by kernel_rfl) a h
@[simp] theorem be_27_1 (ps : List (Nat × Value)) (h : Heap) : buildSliceR Prog 27 1 ps h = beR 1 1 ps [.int .i64 0] h := be_eq (e := 3) (by kernel_rfl) (by kernel_rfl) (by kernel_rfl) (by kernel_rfl) ps h
@[simp] theorem ap_27 (a b : Value) (h : Heap) : builtinV Prog .append [27, 27] [a, b] h = apR 1 8 a b h := ap_is (e := 3) (z := .int .i64 0) (by kernel_rfl) (by kernel_rfl) (by kernel_rfl) (by kernel_rfl) (by kernel_rfl) a b h
@[simp] theorem bd_156 (ps : List (Nat × Value)) (h : Heap) : buildR Prog 156 ps h = bdR [(0, 1), (1, 1), (2, 1)] ps [.int .u16 0, .int .u16 0, .int .i16 0] h := bd_is (z := .agg #[.int .u16 0, .int .u16 0, .int .i16 0]) (by kernel_rfl) (by kernel_rfl) (by kernel_rfl) ps h
@[simp] theorem be_149_1 (ps : List (Nat × Value)) (h : Heap) : buildSliceR Prog 149 1 ps h = beR 3 1 ps [.int .u16 0, .int .u16 0, .int .i16 0] h := be_eq (e := 156) (by kernel_rfl) (by kernel_rfl) (by kernel_rfl) (by kernel_rfl) ps h
@[simp] theorem eqp_150 (cs : Array Value) (h : Heap) : binR Prog .eql 150 (boxV cs) (.pointer none) h = .ok (.bool false) h := by kernel_rfl
@[simp] theorem len_149 (x : Value) (h : Heap) : builtinV Prog .len [149] [x] h = lnS x h := lnS_eq (e := 156) (by kernel_rfl) x h
@[simp] theorem len_109 (x : Value) (h : Heap) : builtinV Prog .len [109] [x] h = lnS x h := lnS_eq (e := 154) (by kernel_rfl) x h
@[simp] theorem ix_109 (x i : Value) (h : Heap) : indexAddrR Prog 109 x i h = ixS 1 x i h := ixS_eq (e := 154) (by kernel_rfl) (by kernel_rfl) x i h
@[simp] theorem ld_154 (a : Value) (h : Heap) : loadR Prog 154 a h = ld1 a h := ld1_eq (by kernel_rfl) a h
@[simp] theorem cv_154_3 (x : Value) (H : Heap) : convR Prog 154 3 x H = cvK .i64 x H := convR_int (by kernel_rfl) (by kernel_rfl) x H
@[simp] theorem ld_5 (a : Value) (h : Heap) : loadR Prog 5 a h = ld1 a h := ld1_eq (by kernel_rfl) a h
@[simp] theorem ap_167 (a b : Value) (h : Heap) : builtinV Prog .append [167, 167] [a, b] h = apR 2 40 a b h := ap_is (e := 165) (z := .agg #[.string ⟨#[]⟩, .slice none 0 0]) (by kernel_rfl) (by kernel_rfl) (by kernel_rfl) (by kernel_rfl) (by kernel_rfl) a b h
@[simp] theorem az_22_3 (a b : Value) (h : Heap) : builtinV Prog .append [22, 3] [a, b] h = azR 1 1 [.int .u8 0] a b h := az_is (kt := .i64) (e := 5) (z := .int .u8 0) (by kernel_rfl) (by kernel_rfl) (by kernel_rfl) (by kernel_rfl) (by kernel_rfl) (by kernel_rfl) a b h
@[simp] theorem ap_22 (a b : Value) (h : Heap) : builtinV Prog .append [22, 22] [a, b] h = apR 1 1 a b h := ap_is (e := 5) (z := .int .u8 0) (by kernel_rfl) (by kernel_rfl) (by kernel_rfl) (by kernel_rfl) (by kernel_rfl) a b h
@[simp] theorem sl_22 (x : Value) (lo hi mx : Option Value) (h : Heap) : sliceR Prog 22 x lo hi mx h = slS 1 x lo hi mx h := slS_eq (e := 5) (by kernel_rfl) (by kernel_rfl) x lo hi mx h
@[simp] theorem ap_48 (a b : Value) (h : Heap) : builtinV Prog .append [48, 48] [a, b] h = apR 2 16 a b h := ap_is (e := 115) (z := .agg #[.int .i64 0, .int .i64 0]) (by kernel_rfl) (by kernel_rfl) (by kernel_rfl) (by kernel_rfl) (by kernel_rfl) a b h
@[simp] theorem be_48_0 (ps : List (Nat × Value)) (h : Heap) : buildSliceR Prog 48 0 ps h = beR 2 0 ps [] h := be_eq (e := 115) (by kernel_rfl) (by kernel_rfl) (by kernel_rfl) (by kernel_rfl) ps h
@[simp] theorem ld_55 (a : Value) (h : Heap) : loadR Prog 55 a h = ldA 1 a h := ldA_eq (by kernel_rfl) (by kernel_rfl) a h
@[simp] theorem al_55 (h : Heap) : allocR Prog 55 h = newP [.slice none 0 0] h := al_eq (z := .agg #[.slice none 0 0]) (by kernel_rfl) h
@[simp] theorem bd_55 (ps : List (Nat × Value)) (h : Heap) : buildR Prog 55 ps h = bdR [(0, 1)] ps [.slice none 0 0] h := bd_is (z := .agg #[.slice none 0 0]) (by kernel_rfl) (by kernel_rfl) (by kernel_rfl) ps h
@[simp] theorem st_55 (a v : Value) (h : Heap) : storeR Prog 55 a v h = stR 1 a v h := st_eq (by kernel_rfl) a v h
@[simp] theorem bd_210 (ps : List (Nat × Value)) (h : Heap) : buildR Prog 210 ps h = bdR [(0, 1), (1, 1)] ps [.bool false, .slice none 0 0] h := bd_is (z := .agg #[.bool false, .slice none 0 0]) (by kernel_rfl) (by kernel_rfl) (by kernel_rfl) ps h
@[simp] theorem fa_210_1 (a : Value) (h : Heap) : fieldAddrR Prog 210 a 1 h = faR 1 1 a h := fa_is (ft := 70) (by kernel_rfl) (by kernel_rfl) a h
@[simp] theorem ld_70 (a : Value) (h : Heap) : loadR Prog 70 a h = ld1 a h := ld1_eq (by kernel_rfl) a h
@[simp] theorem be_70_1 (ps : List (Nat × Value)) (h : Heap) : buildSliceR Prog 70 1 ps h = beR 3 1 ps [.int .i32 0, .int .i32 0, .int .i32 0] h := be_eq (e := 91) (by kernel_rfl) (by kernel_rfl) (by kernel_rfl) (by kernel_rfl) ps h
@[simp] theorem ap_70 (a b : Value) (h : Heap) : builtinV Prog .append [70, 70] [a, b] h = apR 3 12 a b h := ap_is (e := 91) (z := .agg #[.int .i32 0, .int .i32 0, .int .i32 0]) (by kernel_rfl) (by kernel_rfl) (by kernel_rfl) (by kernel_rfl) (by kernel_rfl) a b h
@[simp] theorem st_70 (a v : Value) (h : Heap) : storeR Prog 70 a v h = stR 1 a v h := st_eq (by kernel_rfl) a v h
@[simp] theorem be_70_0 (ps : List (Nat × Value)) (h : Heap) : buildSliceR Prog 70 0 ps h = beR 3 0 ps [] h := be_eq (e := 91) (by kernel_rfl) (by kernel_rfl) (by kernel_rfl) (by kernel_rfl) ps h
@[simp] theorem ld_88 (a : Value) (h : Heap) : loadR Prog 88 a h = ld1 a h := ld1_eq (by kernel_rfl) a h
@[simp] theorem cv_88_154 (x : Value) (H : Heap) : convR Prog 88 154 x H = cvK .u16 x H := convR_int (by kernel_rfl) (by kernel_rfl) x H
@[simp] theorem be_22_1 (ps : List (Nat × Value)) (h : Heap) : buildSliceR Prog 22 1 ps h = beR 1 1 ps [.int .u8 0] h := be_eq (e := 5) (by kernel_rfl) (by kernel_rfl) (by kernel_rfl) (by kernel_rfl) ps h
@[simp] theorem ld_150 (a : Value) (h : Heap) : loadR Prog 150 a h = ld1 a h := ld1_eq (by kernel_rfl) a h
@[simp] theorem al_150 (h : Heap) : allocR Prog 150 h = newP [.pointer none] h := al_eq (z := .pointer none) (by kernel_rfl) h
@[simp] theorem st_150 (a v : Value) (h : Heap) : storeR Prog 150 a v h = stR 1 a v h := st_eq (by kernel_rfl) a v h
@[simp] theorem ix_149 (x i : Value) (h : Heap) : indexAddrR Prog 149 x i h = ixS 3 x i h := ixS_eq (e := 156) (by kernel_rfl) (by kernel_rfl) x i h
@[simp] theorem ld_156 (a : Value) (h : Heap) : loadR Prog 156 a h = ldA 3 a h := ldA_eq (by kernel_rfl) (by kernel_rfl) a h
@[simp] theorem al_156 (h : Heap) : allocR Prog 156 h = newP [.int .u16 0, .int .u16 0, .int .i16 0] h := al_eq (z := .agg #[.int .u16 0, .int .u16 0, .int .i16 0]) (by kernel_rfl) h
@[simp] theorem st_156 (a v : Value) (h : Heap) : storeR Prog 156 a v h = stR 3 a v h := st_eq (by kernel_rfl) a v h
@[simp] theorem fa_156_0 (a : Value) (h : Heap) : fieldAddrR Prog 156 a 0 h = faR 0 1 a h := fa_is (ft := 154) (by kernel_rfl) (by kernel_rfl) a h
@[simp] theorem fa_156_1 (a : Value) (h : Heap) : fieldAddrR Prog 156 a 1 h = faR 1 1 a h := fa_is (ft := 154) (by kernel_rfl) (by kernel_rfl) a h
@[simp] theorem fa_156_2 (a : Value) (h : Heap) : fieldAddrR Prog 156 a 2 h = faR 2 1 a h := fa_is (ft := 88) (by kernel_rfl) (by kernel_rfl) a h
@[simp] theorem fa_266_2 (a : Value) (h : Heap) : fieldAddrR Prog 266 a 2 h = faR 2 1 a h := fa_is (ft := 66) (by kernel_rfl) (by kernel_rfl) a h
@[simp] theorem ld_66 (a : Value) (h : Heap) : loadR Prog 66 a h = ld1 a h := ld1_eq (by kernel_rfl) a h
@[simp] theorem eqp_66 (cs : Array Value) (h : Heap) : binR Prog .eql 66 (boxV cs) (.pointer none) h = .ok (.bool false) h := by kernel_rfl
@[simp] theorem eqn_66 (h : Heap) : binR Prog .eql 66 (.pointer none) (.pointer none) h = .ok (.bool true) h := by kernel_rfl
@[simp] theorem fa_266_0 (a : Value) (h : Heap) : fieldAddrR Prog 266 a 0 h = faR 0 1 a h := fa_is (ft := 27) (by kernel_rfl) (by kernel_rfl) a h
@[simp] theorem fa_266_3 (a : Value) (h : Heap) : fieldAddrR Prog 266 a 3 h = faR 3 1 a h := fa_is (ft := 66) (by kernel_rfl) (by kernel_rfl) a h
@[simp] theorem fa_266_4 (a : Value) (h : Heap) : fieldAddrR Prog 266 a 4 h = faR 4 1 a h := fa_is (ft := 3) (by kernel_rfl) (by kernel_rfl) a h
@[simp] theorem st_21 (a v : Value) (h : Heap) : storeR Prog 21 a v h = stR 1 a v h := st_eq (by kernel_rfl) a v h
@[simp] theorem cv_3_5 (x : Value) (H : Heap) : convR Prog 3 5 x H = cvK .u8 x H := convR_int (by kernel_rfl) (by kernel_rfl) x H
@[simp] theorem fa_55_0 (a : Value) (h : Heap) : fieldAddrR Prog 55 a 0 h = faR 0 1 a h := fa_is (ft := 22) (by kernel_rfl) (by kernel_rfl) a h
@[simp] theorem be_22_0 (ps : List (Nat × Value)) (h : Heap) : buildSliceR Prog 22 0 ps h = beR 1 0 ps [] h := be_eq (e := 5) (by kernel_rfl) (by kernel_rfl) (by kernel_rfl) (by kernel_rfl) ps h
@[simp] theorem st_27 (a v : Value) (h : Heap) : storeR Prog 27 a v h = stR 1 a v h := st_eq (by kernel_rfl) a v h
@[simp] theorem fa_266_5 (a : Value) (h : Heap) : fieldAddrR Prog 266 a 5 h = faR 5 1 a h := fa_is (ft := 3) (by kernel_rfl) (by kernel_rfl) a h
@[simp] theorem fa_266_1 (a : Value) (h : Heap) : fieldAddrR Prog 266 a 1 h = faR 1 1 a h := fa_is (ft := 55) (by kernel_rfl) (by kernel_rfl) a h
@[simp] theorem fa_329_1 (a : Value) (h : Heap) : fieldAddrR Prog 329 a 1 h = faR 1 1 a h := fa_is (ft := 327) (by kernel_rfl) (by kernel_rfl) a h
@[simp] theorem ld_327 (a : Value) (h : Heap) : loadR Prog 327 a h = ld1 a h := ld1_eq (by kernel_rfl) a h
@[simp] theorem len_327 (x : Value) (h : Heap) : builtinV Prog .len [327] [x] h = lnS x h := lnS_eq (e := 331) (by kernel_rfl) x h
@[simp] theorem ix_327 (x i : Value) (h : Heap) : indexAddrR Prog 327 x i h = ixS 3 x i h := ixS_eq (e := 331) (by kernel_rfl) (by kernel_rfl) x i h
@[simp] theorem fa_331_0 (a : Value) (h : Heap) : fieldAddrR Prog 331 a 0 h = faR 0 1 a h := fa_is (ft := 3) (by kernel_rfl) (by kernel_rfl) a h
@[simp] theorem ld_331 (a : Value) (h : Heap) : loadR Prog 331 a h = ldA 3 a h := ldA_eq (by kernel_rfl) (by kernel_rfl) a h
@[simp] theorem be_167_0 (ps : List (Nat × Value)) (h : Heap) : buildSliceR Prog 167 0 ps h = beR 2 0 ps [] h := be_eq (e := 165) (by kernel_rfl) (by kernel_rfl) (by kernel_rfl) (by kernel_rfl) ps h
@[simp] theorem bd_352 (ps : List (Nat × Value)) (h : Heap) : buildR Prog 352 ps h = bdR [(0, 1), (1, 1), (2, 1)] ps [.slice none 0 0, .int .i64 0, .int .i64 0] h := bd_is (z := .agg #[.slice none 0 0, .int .i64 0, .int .i64 0]) (by kernel_rfl) (by kernel_rfl) (by kernel_rfl) ps h
@[simp] theorem al_352 (h : Heap) : allocR Prog 352 h = newP [.slice none 0 0, .int .i64 0, .int .i64 0] h := al_eq (z := .agg #[.slice none 0 0, .int .i64 0, .int .i64 0]) (by kernel_rfl) h
@[simp] theorem st_352 (a v : Value) (h : Heap) : storeR Prog 352 a v h = stR 3 a v h := st_eq (by kernel_rfl) a v h
@[simp] theorem bd_329 (ps : List (Nat × Value)) (h : Heap) : buildR Prog 329 ps h = bdR [(0, 1), (1, 1)] ps [.int .i64 0, .slice none 0 0] h := bd_is (z := .agg #[.int .i64 0, .slice none 0 0]) (by kernel_rfl) (by kernel_rfl) (by kernel_rfl) ps h
@[simp] theorem fa_329_0 (a : Value) (h : Heap) : fieldAddrR Prog 329 a 0 h = faR 0 1 a h := fa_is (ft := 3) (by kernel_rfl) (by kernel_rfl) a h
@[simp] theorem bd_331 (ps : List (Nat × Value)) (h : Heap) : buildR Prog 331 ps h = bdR [(0, 1), (1, 1), (2, 1)] ps [.int .i64 0, .int .i64 0, .slice none 0 0] h := bd_is (z := .agg #[.int .i64 0, .int .i64 0, .slice none 0 0]) (by kernel_rfl) (by kernel_rfl) (by kernel_rfl) ps h
@[simp] theorem be_327_1 (ps : List (Nat × Value)) (h : Heap) : buildSliceR Prog 327 1 ps h = beR 3 1 ps [.int .i64 0, .int .i64 0, .slice none 0 0] h := be_eq (e := 331) (by kernel_rfl) (by kernel_rfl) (by kernel_rfl) (by kernel_rfl) ps h
@[simp] theorem st_327 (a v : Value) (h : Heap) : storeR Prog 327 a v h = stR 1 a v h := st_eq (by kernel_rfl) a v h
@[simp] theorem ld_352 (a : Value) (h : Heap) : loadR Prog 352 a h = ldA 3 a h := ldA_eq (by kernel_rfl) (by kernel_rfl) a h
@[simp] theorem fa_331_1 (a : Value) (h : Heap) : fieldAddrR Prog 331 a 1 h = faR 1 1 a h := fa_is (ft := 3) (by kernel_rfl) (by kernel_rfl) a h
@[simp] theorem cv_88_3 (x : Value) (H : Heap) : convR Prog 88 3 x H = cvK .i64 x H := convR_int (by kernel_rfl) (by kernel_rfl) x H
@[simp] theorem bd_266 (ps : List (Nat × Value)) (h : Heap) : buildR Prog 266 ps h = bdR [(0, 1), (1, 1), (2, 1), (3, 1), (4, 1), (5, 1)] ps [.slice none 0 0, .slice none 0 0, .pointer none, .pointer none, .int .i64 0, .int .i64 0] h := bd_is (z := .agg #[.slice none 0 0, .slice none 0 0, .pointer none, .pointer none, .int .i64 0, .int .i64 0]) (by kernel_rfl) (by kernel_rfl) (by kernel_rfl) ps h
@[simp] theorem st_66 (a v : Value) (h : Heap) : storeR Prog 66 a v h = stR 1 a v h := st_eq (by kernel_rfl) a v h
@[simp] theorem bd_200 (ps : List (Nat × Value)) (h : Heap) : buildR Prog 200 ps h = bdR [] ps [] h := bd_is (z := .agg #[]) (by kernel_rfl) (by kernel_rfl) (by kernel_rfl) ps h
@[simp] theorem if_200 (x : Value) (h : Heap) : ifaceR Prog 200 x h = .ok (.iface 200 x) h := by kernel_rfl
@[simp] theorem fa_331_2 (a : Value) (h : Heap) : fieldAddrR Prog 331 a 2 h = faR 2 1 a h := fa_is (ft := 27) (by kernel_rfl) (by kernel_rfl) a h
@[simp] theorem fa_352_2 (a : Value) (h : Heap) : fieldAddrR Prog 352 a 2 h = faR 2 1 a h := fa_is (ft := 3) (by kernel_rfl) (by kernel_rfl) a h
@[simp] theorem fa_352_0 (a : Value) (h : Heap) : fieldAddrR Prog 352 a 0 h = faR 0 1 a h := fa_is (ft := 55) (by kernel_rfl) (by kernel_rfl) a h
@[simp] theorem len_368 (x : Value) (h : Heap) : builtinV Prog .len [368] [x] h = lnS x h := lnS_eq (e := 55) (by kernel_rfl) x h
@[simp] theorem ix_368 (x i : Value) (h : Heap) : indexAddrR Prog 368 x i h = ixS 1 x i h := ixS_eq (e := 55) (by kernel_rfl) (by kernel_rfl) x i h
@[simp] theorem al_331 (h : Heap) : allocR Prog 331 h = newP [.int .i64 0, .int .i64 0, .slice none 0 0] h := al_eq (z := .agg #[.int .i64 0, .int .i64 0, .slice none 0 0]) (by kernel_rfl) h
@[simp] theorem st_331 (a v : Value) (h : Heap) : storeR Prog 331 a v h = stR 3 a v h := st_eq (by kernel_rfl) a v h
@[simp] theorem ap_327 (a b : Value) (h : Heap) : builtinV Prog .append [327, 327] [a, b] h = apR 3 40 a b h := ap_is (e := 331) (z := .agg #[.int .i64 0, .int .i64 0, .slice none 0 0]) (by kernel_rfl) (by kernel_rfl) (by kernel_rfl) (by kernel_rfl) (by kernel_rfl) a b h
@[simp] theorem be_368_1 (ps : List (Nat × Value)) (h : Heap) : buildSliceR Prog 368 1 ps h = beR 1 1 ps [.slice none 0 0] h := be_eq (e := 55) (by kernel_rfl) (by kernel_rfl) (by kernel_rfl) (by kernel_rfl) ps h
@[simp] theorem ap_368 (a b : Value) (h : Heap) : builtinV Prog .append [368, 368] [a, b] h = apR 1 24 a b h := ap_is (e := 55) (z := .agg #[.slice none 0 0]) (by kernel_rfl) (by kernel_rfl) (by kernel_rfl) (by kernel_rfl) (by kernel_rfl) a b h
@[simp] theorem sl_368 (x : Value) (lo hi mx : Option Value) (h : Heap) : sliceR Prog 368 x lo hi mx h = slS 1 x lo hi mx h := slS_eq (e := 55) (by kernel_rfl) (by kernel_rfl) x lo hi mx h
end
end Go.Sw
