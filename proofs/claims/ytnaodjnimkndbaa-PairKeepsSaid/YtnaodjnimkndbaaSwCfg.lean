/-
  The seat's functions by their names, and facts of their types.
-/
import Derived.Test.YtnaodjnimkndbaaSwLib7
import Derived.Test.YtnaodjnimkndbaaRows
namespace Go.Sw
noncomputable section
noncomputable abbrev Prog : Program := Go.Proofs.Try.prog
namespace F
abbrev swashlaw22_PairKeeps : Nat := 33
abbrev lookup_Table_Get : Nat := 73
abbrev swashref02_Put : Nat := 75
abbrev lookup_Table_Most : Nat := 76
abbrev view_Try : Nat := 77
abbrev lookup_Take : Nat := 79
abbrev view_Of : Nat := 80
abbrev swashref06_Read : Nat := 82
abbrev swashref06_Get : Nat := 93
abbrev swashlaw22_speaks : Nat := 119
abbrev pair_Read : Nat := 120
abbrev swashref22_Read : Nat := 121
abbrev pair_Table_Get : Nat := 122
abbrev swashref22_Get : Nat := 123
abbrev swashlaw22_WriteGrid : Nat := 125
abbrev pair_Take : Nat := 127
abbrev slices_Clone_of_api_Place_api_Place : Nat := 147
abbrev slices_Clone_of_api_Glyph_api_Glyph : Nat := 151
abbrev seek_First : Nat := 157
abbrev lookup_Table_Get_in1 : Nat := 158
abbrev lookup_part_at : Nat := 159
abbrev view_View_U16 : Nat := 161
abbrev lookup_list : Nat := 162
abbrev lookup_reader_segments : Nat := 163
abbrev lookup_reader_single : Nat := 164
abbrev lookup_reader_trimmed : Nat := 165
abbrev view_Need : Nat := 166
abbrev view_Fail : Nat := 167
abbrev swashref06_parts : Nat := 168
abbrev swashref01_U : Nat := 181
abbrev view_View_Bytes : Nat := 182
abbrev view_View_U32 : Nat := 184
abbrev view_View_I16 : Nat := 185
abbrev view_View_Rest : Nat := 186
abbrev view_View_Rows : Nat := 187
abbrev swashref01_Rows : Nat := 189
abbrev pair_Read_in1 : Nat := 195
abbrev swashref01_From : Nat := 196
abbrev swashref01_In : Nat := 197
abbrev swashref22_most : Nat := 198
abbrev seek_Place : Nat := 199
abbrev pair_Table_value : Nat := 200
abbrev swashref22_signed : Nat := 201
abbrev swashlaw22_of : Nat := 202
abbrev pair_list : Nat := 203
abbrev pair_table : Nat := 204
abbrev view_View_piece : Nat := 220
abbrev lookup_number : Nat := 221
abbrev seek_Take : Nat := 222
abbrev swashref06_segments : Nat := 223
abbrev swashref05_Rows : Nat := 224
abbrev swashref06_trimmed : Nat := 225
abbrev view_View_Cut : Nat := 226
abbrev seek_Place_in1 : Nat := 227
abbrev view_View_I32 : Nat := 228
abbrev swashref01_S32 : Nat := 229
abbrev swashref01_S16 : Nat := 230
abbrev view_View_U8 : Nat := 235
abbrev seek_none : Nat := 236
end F
def kp2 : List (Nat × List Nat) := [(0, [])]
def kp3 : List (Nat × List Nat) := []
def kp4 : List (Nat × List Nat) := []
def kp5 : List (Nat × List Nat) := []
def kp6 : List (Nat × List Nat) := []
def kp7 : List (Nat × List Nat) := []
def kp8 : List (Nat × List Nat) := []
def kp9 : List (Nat × List Nat) := []
def kp10 : List (Nat × List Nat) := []
def kp11 : List (Nat × List Nat) := []
def kp12 : List (Nat × List Nat) := []
def kp13 : List (Nat × List Nat) := []
def kp14 : List (Nat × List Nat) := []
def kp15 : List (Nat × List Nat) := []
def kp16 : List (Nat × List Nat) := []
def kp17 : List (Nat × List Nat) := []
def kp18 : List (Nat × List Nat) := []
def kp19 : List (Nat × List Nat) := []
def kp20 : List (Nat × List Nat) := []
def kp21 : List (Nat × List Nat) := []
def kp22 : List (Nat × List Nat) := []
def kp23 : List (Nat × List Nat) := []
def kp24 : List (Nat × List Nat) := []
def kp25 : List (Nat × List Nat) := []
def kp26 : List (Nat × List Nat) := []
def kp27 : List (Nat × List Nat) := []
def kp28 : List (Nat × List Nat) := []
def kp29 : List (Nat × List Nat) := []
def kp30 : List (Nat × List Nat) := []
def kp31 : List (Nat × List Nat) := []
def kp32 : List (Nat × List Nat) := []
def kp33 : List (Nat × List Nat) := [(0, [1, 2, 3]), (1, [1, 2, 3, 18]), (2, [6]), (3, [1, 2, 3, 34]), (4, [6]), (5, [2, 3, 7]), (6, [2, 3, 7, 8]), (7, [2, 3, 7, 8, 39]), (8, [2, 3, 7, 8]), (9, [2, 3, 7, 8, 9]), (10, [2, 3, 7, 8, 9, 10]), (11, [2, 9, 10, 12, 13]), (12, [2, 9, 10, 12, 13, 62]), (13, [6]), (14, [2, 9, 10, 12, 70, 71]), (15, [2, 9, 10, 12, 70, 71, 72]), (16, [2, 9, 10, 12, 14, 70, 71]), (17, [2, 9, 10, 12, 70, 71]), (18, [2, 9, 10, 12, 70, 71]), (19, [10, 12, 79]), (20, [10, 12, 79, 80]), (21, [10, 12, 15, 79]), (22, [10, 12, 15, 79, 82]), (23, [10, 12, 15, 79, 82, 83]), (24, [10, 12, 15, 16, 79, 82]), (25, [10, 12, 15, 79, 82, 93]), (26, [6]), (27, [10, 12, 15, 79, 82]), (28, [10, 12, 79]), (29, [6]), (1000015, [2, 9, 10, 12, 70, 71]), (1000020, [10, 12, 79]), (1000023, [10, 12, 15, 79, 82])]
def kp34 : List (Nat × List Nat) := []
def kp35 : List (Nat × List Nat) := []
def kp36 : List (Nat × List Nat) := []
def kp37 : List (Nat × List Nat) := []
def kp38 : List (Nat × List Nat) := []
def kp39 : List (Nat × List Nat) := []
def kp40 : List (Nat × List Nat) := []
def kp41 : List (Nat × List Nat) := []
def kp42 : List (Nat × List Nat) := []
def kp43 : List (Nat × List Nat) := [(0, []), (1, [1]), (2, [1, 11]), (3, [0]), (4, [1]), (5, [1]), (6, [2]), (7, [0])]
def kp44 : List (Nat × List Nat) := []
def kp45 : List (Nat × List Nat) := []
def kp46 : List (Nat × List Nat) := []
def kp47 : List (Nat × List Nat) := []
def kp48 : List (Nat × List Nat) := []
def kp49 : List (Nat × List Nat) := []
def kp50 : List (Nat × List Nat) := []
def kp51 : List (Nat × List Nat) := []
def kp52 : List (Nat × List Nat) := []
def kp53 : List (Nat × List Nat) := []
def kp54 : List (Nat × List Nat) := []
def kp55 : List (Nat × List Nat) := []
def kp56 : List (Nat × List Nat) := []
def kp57 : List (Nat × List Nat) := []
def kp58 : List (Nat × List Nat) := []
def kp59 : List (Nat × List Nat) := []
def kp60 : List (Nat × List Nat) := []
def kp61 : List (Nat × List Nat) := []
def kp62 : List (Nat × List Nat) := [(0, []), (1, [1]), (2, [1, 18]), (3, [0]), (4, [1, 2, 3]), (5, [0])]
def kp63 : List (Nat × List Nat) := []
def kp64 : List (Nat × List Nat) := []
def kp65 : List (Nat × List Nat) := []
def kp66 : List (Nat × List Nat) := []
def kp67 : List (Nat × List Nat) := []
def kp68 : List (Nat × List Nat) := []
def kp69 : List (Nat × List Nat) := [(0, []), (1, [1, 2]), (2, [1, 17]), (3, [0]), (4, [1, 3, 4]), (5, [1, 3, 4, 6]), (6, [0])]
def kp70 : List (Nat × List Nat) := []
def kp71 : List (Nat × List Nat) := []
def kp72 : List (Nat × List Nat) := []
def kp73 : List (Nat × List Nat) := [(0, [2, 3]), (1, [2, 3, 6]), (2, [2, 3, 6, 32]), (3, [4, 5]), (4, [4, 5])]
def kp74 : List (Nat × List Nat) := []
def kp75 : List (Nat × List Nat) := [(0, [0, 1, 2]), (1, [0, 1, 7]), (2, [0, 1, 7, 13]), (3, [0, 1, 7]), (4, [0, 1, 7, 8]), (5, [0, 1, 7, 8, 9]), (6, [0, 1, 7, 8, 9, 19]), (7, [0, 1, 7, 8, 9]), (8, [0, 1, 7, 8, 9]), (9, [0, 1, 7]), (10, [6]), (1000002, [0, 1, 7]), (1000006, [0, 1, 7, 8, 9])]
def kp76 : List (Nat × List Nat) := [(0, [0]), (1, [0, 3]), (2, [3, 11, 12, 13]), (3, [3, 11, 12, 13, 14]), (4, [3, 5, 11, 12, 13]), (5, [3, 11, 12, 13, 18, 19, 20]), (6, [3, 11, 12, 13, 18, 19, 20, 21]), (7, [3, 7, 11, 12, 13, 18, 19, 20]), (8, [3, 11, 12, 13, 18, 19, 20]), (9, [3, 11, 12, 13, 18, 19, 20]), (10, [3, 11, 12, 13]), (11, [2]), (1000003, [3, 11, 12, 13]), (1000006, [3, 11, 12, 13, 18, 19, 20])]
def kp77 : List (Nat × List Nat) := [(0, [0, 2]), (1, [0, 2]), (2, [2]), (3, [2])]
def kp78 : List (Nat × List Nat) := []
def kp79 : List (Nat × List Nat) := [(0, [1, 2, 3]), (1, [1, 2, 3, 7]), (2, [1, 2, 3, 7, 8]), (3, [1, 2, 3, 7, 8, 22]), (4, [8]), (5, [1, 2, 3, 7, 8, 22, 24]), (6, [8]), (7, [2, 3, 7, 8, 22, 37]), (8, [8]), (9, [2, 3, 7, 8, 22, 44]), (10, [8]), (11, [2, 3, 7, 8, 22, 51]), (12, [8]), (13, [2, 3, 7, 8, 22, 58]), (14, [8]), (15, [3, 7, 8, 66]), (16, [7, 8, 9]), (17, [7, 8, 9]), (18, [8]), (19, [8, 10]), (20, [8, 10, 93]), (21, [8, 10]), (22, [8, 10]), (23, [6]), (1000020, [8, 10])]
def kp80 : List (Nat × List Nat) := [(0, [0, 2]), (1, [2])]
def kp81 : List (Nat × List Nat) := []
def kp82 : List (Nat × List Nat) := [(0, [0, 1, 2, 6]), (1, [0, 6, 8, 9]), (2, [0, 6, 8, 9, 10]), (3, [0, 6, 8, 9, 10, 21]), (4, [0, 6, 8, 9, 10]), (5, [0, 6, 8, 9, 10, 52]), (6, [0, 6, 8, 9, 10]), (7, [0, 6, 8, 54]), (8, [6, 7]), (9, [6, 7]), (1000003, [0, 6, 8, 9, 10])]
def kp83 : List (Nat × List Nat) := []
def kp84 : List (Nat × List Nat) := []
def kp85 : List (Nat × List Nat) := []
def kp86 : List (Nat × List Nat) := []
def kp87 : List (Nat × List Nat) := []
def kp88 : List (Nat × List Nat) := []
def kp89 : List (Nat × List Nat) := []
def kp90 : List (Nat × List Nat) := [(0, []), (1, [1, 2]), (2, [1, 14]), (3, [0]), (4, [1, 3]), (5, [0])]
def kp91 : List (Nat × List Nat) := []
def kp92 : List (Nat × List Nat) := []
def kp93 : List (Nat × List Nat) := [(0, [1, 2]), (1, [1, 2, 6]), (2, [1, 2, 6, 12]), (3, [1, 2, 6]), (4, [1, 2, 6, 7]), (5, [1, 2, 6, 7, 29]), (6, [4, 5]), (7, [4, 5]), (1000002, [1, 2, 6])]
def kp94 : List (Nat × List Nat) := []
def kp95 : List (Nat × List Nat) := []
def kp96 : List (Nat × List Nat) := []
def kp97 : List (Nat × List Nat) := [(0, []), (1, [1, 2]), (2, [1, 19]), (3, [0]), (4, [1, 3, 4]), (5, [0])]
def kp98 : List (Nat × List Nat) := []
def kp99 : List (Nat × List Nat) := []
def kp100 : List (Nat × List Nat) := []
def kp101 : List (Nat × List Nat) := []
def kp102 : List (Nat × List Nat) := []
def kp103 : List (Nat × List Nat) := []
def kp104 : List (Nat × List Nat) := [(0, []), (1, [1]), (2, [2, 3]), (3, [2, 24]), (4, [0]), (5, [2, 4, 5]), (6, [0])]
def kp105 : List (Nat × List Nat) := []
def kp106 : List (Nat × List Nat) := []
def kp107 : List (Nat × List Nat) := []
def kp108 : List (Nat × List Nat) := []
def kp109 : List (Nat × List Nat) := []
def kp110 : List (Nat × List Nat) := []
def kp111 : List (Nat × List Nat) := []
def kp112 : List (Nat × List Nat) := []
def kp113 : List (Nat × List Nat) := []
def kp114 : List (Nat × List Nat) := []
def kp115 : List (Nat × List Nat) := []
def kp116 : List (Nat × List Nat) := []
def kp117 : List (Nat × List Nat) := []
def kp118 : List (Nat × List Nat) := []
def kp119 : List (Nat × List Nat) := [(0, []), (1, [1, 2]), (2, [0])]
def kp120 : List (Nat × List Nat) := [(0, [1, 3, 5, 6]), (1, [1, 3, 5, 6, 26]), (2, [6, 7]), (3, [3, 5, 6, 8]), (4, [6, 33]), (5, [6, 7]), (6, [6, 7])]
def kp121 : List (Nat × List Nat) := [(0, [0, 1, 2, 6]), (1, [0, 1, 2, 6, 8]), (2, [0, 1, 2, 6, 8, 23]), (3, [1, 6, 8]), (4, [1, 6, 8, 9]), (5, [1, 6, 8, 9, 10]), (6, [1, 6, 8, 9, 10, 38]), (7, [1, 6, 8, 9, 10]), (8, [1, 6, 8, 9, 10]), (9, [6, 7]), (10, [0, 1, 2, 6, 8, 11]), (11, [1, 2, 6, 8, 11, 56]), (12, [1, 2, 6, 8, 11]), (13, [1, 2, 6, 8, 11]), (14, [1, 2, 6, 8, 11, 12]), (15, [1, 2, 6, 8, 11, 12, 61]), (16, [6, 7]), (17, [1, 2, 6, 8, 11, 65]), (18, [1, 2, 6, 8, 11]), (19, [1, 2, 6, 8, 11]), (20, [1, 2, 6, 8, 11, 13, 14]), (21, [1, 2, 6, 8, 11, 13, 14, 15, 16]), (22, [2, 6, 8, 13, 14, 15, 16, 17, 18]), (23, [2, 6, 8, 13, 15, 17, 103]), (24, [6, 7]), (25, [2, 6, 8, 14, 15, 17]), (26, [6, 8, 14, 16, 17]), (27, [6, 8, 14, 16, 17]), (28, [6, 7]), (1000006, [1, 6, 8, 9, 10])]
def kp122 : List (Nat × List Nat) := [(0, [0, 1, 2]), (1, [0, 1, 2, 17]), (2, [0, 1, 2, 31]), (3, [6]), (4, [0, 7, 8]), (5, [0, 7, 45]), (6, [6]), (7, [6]), (8, [0, 2, 9]), (9, [0, 9, 11]), (10, [6])]
def kp123 : List (Nat × List Nat) := [(0, [1, 2, 3]), (1, [1, 2, 3, 14]), (2, [1, 2, 3, 7]), (3, [1, 2, 3, 7, 18]), (4, [1, 2, 3, 7]), (5, [1, 2, 3, 7, 38]), (6, [6]), (7, [6]), (8, [2, 3, 8]), (9, [3, 8, 10]), (10, [6]), (1000003, [1, 2, 3, 7])]
def kp124 : List (Nat × List Nat) := [(0, [0]), (1, [0, 3]), (2, [3, 10, 11, 12]), (3, [3, 10, 11, 12, 13]), (4, [3, 5, 10, 11, 12]), (5, [3, 10, 11, 12]), (6, [3, 10, 11, 12]), (7, [2]), (1000003, [3, 10, 11, 12])]
def kp125 : List (Nat × List Nat) := [(0, [1, 2]), (1, [1, 2, 5, 6, 7]), (2, [1, 2, 5, 6, 7]), (3, [2, 5, 6, 7, 14]), (4, [2, 5, 6, 7, 8]), (5, [2, 5, 6, 7, 14, 18]), (6, [2, 5, 6, 7, 8]), (7, [2, 6, 21]), (8, [2, 5, 6, 7, 8]), (9, [2, 5, 6, 8, 9, 10]), (10, [2, 6, 8, 9, 10]), (11, [2, 6, 8]), (12, [6, 8, 56, 57, 58]), (13, [6, 8, 56, 57, 58, 59]), (14, [6, 8, 12, 56, 57, 58]), (15, [6, 8, 12, 13, 56, 57, 58]), (16, [6, 8, 12, 13, 56, 57, 58, 66]), (17, [6, 8, 13, 56, 57, 58]), (18, [6, 8, 56, 57, 58]), (19, [6, 8, 56, 57, 58]), (20, [4]), (1000013, [6, 8, 56, 57, 58])]
def kp126 : List (Nat × List Nat) := []
def kp127 : List (Nat × List Nat) := [(0, [0, 2, 4]), (1, [2, 4, 7]), (2, [2, 4, 7, 8]), (3, [6]), (4, [2, 4, 7, 12]), (5, [6]), (6, [2, 4, 17]), (7, [2, 4, 22]), (8, [6]), (9, [6]), (10, []), (11, [6])]
def kp128 : List (Nat × List Nat) := [(0, []), (1, [1]), (2, [0])]
def kp129 : List (Nat × List Nat) := []
def kp130 : List (Nat × List Nat) := []
def kp131 : List (Nat × List Nat) := []
def kp132 : List (Nat × List Nat) := []
def kp133 : List (Nat × List Nat) := [(0, []), (1, [1]), (2, [2, 3]), (3, [2, 27]), (4, [0]), (5, [2, 4]), (6, [0])]
def kp134 : List (Nat × List Nat) := []
def kp135 : List (Nat × List Nat) := []
def kp136 : List (Nat × List Nat) := []
def kp137 : List (Nat × List Nat) := []
def kp138 : List (Nat × List Nat) := []
def kp139 : List (Nat × List Nat) := []
def kp140 : List (Nat × List Nat) := []
def kp141 : List (Nat × List Nat) := []
def kp142 : List (Nat × List Nat) := [(0, []), (1, [1]), (2, [2, 3]), (3, [2, 25]), (4, [0]), (5, [2, 4]), (6, [0])]
def kp143 : List (Nat × List Nat) := []
def kp144 : List (Nat × List Nat) := []
def kp145 : List (Nat × List Nat) := []
def kp146 : List (Nat × List Nat) := []
def kp147 : List (Nat × List Nat) := [(0, [0]), (1, [0, 4]), (2, [2]), (3, [2])]
def kp148 : List (Nat × List Nat) := []
def kp149 : List (Nat × List Nat) := []
def kp150 : List (Nat × List Nat) := []
def kp151 : List (Nat × List Nat) := [(0, [0]), (1, [0, 4]), (2, [2]), (3, [2])]
def kp152 : List (Nat × List Nat) := [(0, [0, 1, 2]), (1, [0, 1, 2]), (2, [0, 1, 2, 7]), (3, [0, 1, 2, 7, 16]), (4, [6]), (5, [0, 1, 2, 7, 8]), (6, [0, 1, 2, 7, 8, 22]), (7, [6]), (8, [0, 1, 2, 7, 8, 31]), (9, [0, 1, 2, 7, 9]), (10, [0, 1, 7, 9]), (11, [9]), (12, [6]), (13, [0, 1, 2, 7, 8]), (14, [0, 1, 2, 7, 8, 68]), (15, [0, 1, 2]), (16, [0]), (17, [6]), (18, [0, 1, 7]), (19, [0]), (20, [6])]
def kp153 : List (Nat × List Nat) := []
def kp154 : List (Nat × List Nat) := []
def kp155 : List (Nat × List Nat) := []
def kp156 : List (Nat × List Nat) := []
def kp157 : List (Nat × List Nat) := [(0, [0, 1]), (1, [1, 5, 6]), (2, [1, 5, 6, 11]), (3, [1, 5, 6, 7]), (4, [1, 5, 6, 7, 20]), (5, [1, 5, 6]), (6, [1, 5, 6]), (7, [4]), (1000002, [1, 5, 6])]
def kp158 : List (Nat × List Nat) := [(0, [0, 1, 2]), (1, [4])]
def kp159 : List (Nat × List Nat) := [(0, [1, 2]), (1, [4])]
def kp160 : List (Nat × List Nat) := [(0, [0, 4]), (1, [3]), (2, []), (3, [0, 4, 6]), (4, []), (5, [0, 4, 8, 9]), (6, [0]), (7, [])]
def kp161 : List (Nat × List Nat) := [(0, [1, 2]), (1, [5]), (2, [4])]
def kp162 : List (Nat × List Nat) := [(0, [1, 2, 3, 4]), (1, [2, 3, 9]), (2, [3, 9, 10]), (3, [3, 9, 10, 20, 21]), (4, [3, 9, 10, 20, 21, 22]), (5, [3, 9, 10, 11, 20, 21]), (6, [3, 9, 10, 20, 21]), (7, [3, 9, 10, 20, 21]), (8, [8]), (1000004, [3, 9, 10, 20, 21])]
def kp163 : List (Nat × List Nat) := [(0, [1, 2]), (1, [1, 2, 5]), (2, [1, 2, 5, 13]), (3, [1, 2, 5]), (4, [1, 2, 5, 6]), (5, [1, 2, 6, 17, 18, 19]), (6, [1, 2, 6, 17, 18, 19, 20]), (7, [1, 2, 6, 8, 17, 18, 19]), (8, [1, 2, 6, 8, 9, 17, 18, 19]), (9, [1, 2, 6, 8, 9, 17, 18, 19]), (10, [1, 2, 6, 8, 9, 17, 18, 19, 34]), (11, [1, 2, 6, 9, 17, 18, 19]), (12, [1, 2, 6, 9, 17, 18, 19]), (13, [1, 2, 6, 17, 18, 19]), (14, [1, 2, 6, 17, 18, 19]), (15, [4]), (1000006, [1, 2, 6, 17, 18, 19])]
def kp164 : List (Nat × List Nat) := [(0, [1]), (1, [1, 3]), (2, [1, 3, 12, 13, 14]), (3, [1, 3, 12, 13, 14, 15]), (4, [1, 3, 5, 12, 13, 14]), (5, [1, 3, 5, 6, 12, 13, 14]), (6, [1, 3, 12, 13, 14]), (7, [1, 3, 12, 13, 14]), (8, [2]), (1000003, [1, 3, 12, 13, 14])]
def kp165 : List (Nat × List Nat) := [(0, [1, 2, 3]), (1, [1, 2, 3, 7, 8]), (2, [1, 2, 3, 7, 8]), (3, [7, 8, 9]), (4, [7, 8, 9, 32]), (5, [6]), (6, [6])]
def kp166 : List (Nat × List Nat) := [(0, [3]), (1, [])]
def kp167 : List (Nat × List Nat) := [(0, [])]
def kp168 : List (Nat × List Nat) := [(0, [0, 1, 2]), (1, [0, 1, 2, 16]), (2, [0, 1, 2, 16, 17]), (3, [6, 7]), (4, [0, 2, 16, 30]), (5, [6, 7]), (6, [0, 2, 16, 37]), (7, [6, 7]), (8, [0, 2, 16, 44]), (9, [0, 2, 8, 10]), (10, [0, 2, 8, 10, 11]), (11, [0, 2, 8, 10, 11, 12]), (12, [0, 2, 8, 10, 11, 12, 58]), (13, [0, 2, 8, 10, 11, 12]), (14, [0, 2, 8, 10, 11, 12, 13]), (15, [0, 2, 8, 10, 11, 12]), (16, [6, 7]), (17, [0, 2, 16, 81]), (18, [6, 7]), (19, [0, 88]), (20, [0, 14]), (21, [0, 14, 101]), (22, [6, 7]), (23, [6, 7]), (24, [6, 7]), (1000012, [0, 2, 8, 10, 11, 12])]
def kp169 : List (Nat × List Nat) := []
def kp170 : List (Nat × List Nat) := []
def kp171 : List (Nat × List Nat) := []
def kp172 : List (Nat × List Nat) := []
def kp173 : List (Nat × List Nat) := []
def kp174 : List (Nat × List Nat) := []
def kp175 : List (Nat × List Nat) := []
def kp176 : List (Nat × List Nat) := []
def kp177 : List (Nat × List Nat) := []
def kp178 : List (Nat × List Nat) := []
def kp179 : List (Nat × List Nat) := []
def kp180 : List (Nat × List Nat) := []
def kp181 : List (Nat × List Nat) := [(0, [0, 1, 2]), (1, [0, 1, 2, 14]), (2, [6]), (3, [0, 1, 2, 7]), (4, [0, 1, 2, 7, 8]), (5, [0, 1, 2, 7, 8, 17]), (6, [0, 1, 2, 7, 8]), (7, [0, 1, 2, 7, 8]), (8, [6]), (1000005, [0, 1, 2, 7, 8])]
def kp182 : List (Nat × List Nat) := [(0, [1]), (1, [2])]
def kp183 : List (Nat × List Nat) := []
def kp184 : List (Nat × List Nat) := [(0, [1, 2]), (1, [5]), (2, [4])]
def kp185 : List (Nat × List Nat) := [(0, [1, 2]), (1, [4])]
def kp186 : List (Nat × List Nat) := [(0, [1, 2, 4]), (1, [4])]
def kp187 : List (Nat × List Nat) := [(0, [1, 2, 3, 4, 8]), (1, [1, 2, 3, 4, 8]), (2, [8])]
def kp188 : List (Nat × List Nat) := []
def kp189 : List (Nat × List Nat) := [(0, [0, 1, 2, 3]), (1, [0, 1, 2, 3, 23]), (2, [8]), (3, [8])]
def kp190 : List (Nat × List Nat) := []
def kp191 : List (Nat × List Nat) := []
def kp192 : List (Nat × List Nat) := []
def kp193 : List (Nat × List Nat) := []
def kp194 : List (Nat × List Nat) := []
def kp195 : List (Nat × List Nat) := [(0, [])]
def kp196 : List (Nat × List Nat) := [(0, [0, 1]), (1, [0, 1, 13]), (2, [4, 5]), (3, [4, 5])]
def kp197 : List (Nat × List Nat) := [(0, [0, 1, 2]), (1, [6])]
def kp198 : List (Nat × List Nat) := [(0, [1]), (1, [1, 3]), (2, [1, 3, 4]), (3, [1, 3, 4, 13]), (4, [1, 3, 4]), (5, [1, 3, 4, 5]), (6, [1, 3, 4, 5, 6]), (7, [1, 3, 4, 5, 6, 26]), (8, [1, 3, 4, 5, 6]), (9, [1, 3, 4, 5, 6, 7]), (10, [1, 3, 4, 5, 6]), (11, [1, 3, 4, 5, 6, 40]), (12, [1, 3, 4, 5, 6]), (13, [2]), (1000003, [1, 3, 4]), (1000007, [1, 3, 4, 5, 6])]
def kp199 : List (Nat × List Nat) := [(0, [2, 3]), (1, [2, 3, 6]), (2, [6, 22]), (3, [4, 5]), (4, [4, 5])]
def kp200 : List (Nat × List Nat) := [(0, [0, 1]), (1, [0, 1, 9]), (2, [4]), (3, [4])]
def kp201 : List (Nat × List Nat) := [(0, [0, 1, 2]), (1, [0, 1, 8]), (2, [6]), (3, [6])]
def kp202 : List (Nat × List Nat) := [(0, [0, 1, 2]), (1, [0, 1, 2, 7]), (2, [1, 2, 7, 15, 16, 17]), (3, [1, 2, 7, 15, 16, 17, 18]), (4, [1, 2, 7, 9, 15, 16, 17]), (5, [1, 2, 7, 15, 16, 17]), (6, [1, 2, 7, 15, 16, 17]), (7, [6]), (1000003, [1, 2, 7, 15, 16, 17])]
def kp203 : List (Nat × List Nat) := [(0, [1]), (1, [1, 3]), (2, [1, 3]), (3, [3, 4]), (4, [4, 15, 16]), (5, [4, 15, 16, 17]), (6, [4, 5, 15, 16]), (7, [4, 5, 15, 16]), (8, [4, 15, 16]), (9, [4, 15, 16]), (10, [2]), (1000005, [4, 15, 16])]
def kp204 : List (Nat × List Nat) := [(0, [1, 2, 3, 4, 5]), (1, [1, 2, 3, 4, 5, 11]), (2, [1, 2, 3, 4, 5, 11]), (3, [1, 3, 4, 5, 11]), (4, [3, 4, 11]), (5, [3, 4, 11, 12]), (6, [11]), (7, [10])]
def kp205 : List (Nat × List Nat) := []
def kp206 : List (Nat × List Nat) := []
def kp207 : List (Nat × List Nat) := []
def kp208 : List (Nat × List Nat) := []
def kp209 : List (Nat × List Nat) := []
def kp210 : List (Nat × List Nat) := []
def kp211 : List (Nat × List Nat) := []
def kp212 : List (Nat × List Nat) := []
def kp213 : List (Nat × List Nat) := []
def kp214 : List (Nat × List Nat) := []
def kp215 : List (Nat × List Nat) := []
def kp216 : List (Nat × List Nat) := []
def kp218 : List (Nat × List Nat) := [(0, [])]
def kp219 : List (Nat × List Nat) := []
def kp220 : List (Nat × List Nat) := [(0, [1, 2, 3]), (1, [1, 2, 3]), (2, [6])]
def kp221 : List (Nat × List Nat) := [(0, [1, 2, 3]), (1, [1, 3, 7]), (2, [1, 3, 7, 8]), (3, [6]), (4, [1, 3, 13]), (5, [6]), (6, [6])]
def kp222 : List (Nat × List Nat) := [(0, [1, 2, 3, 4]), (1, [1, 2, 3, 4, 9, 10]), (2, [1, 2, 3, 4, 9, 10]), (3, [1, 3, 4, 9, 10]), (4, [3, 9, 10, 11]), (5, [3, 9, 10, 11, 12]), (6, [3, 9, 10, 11, 12, 34, 35]), (7, [3, 9, 10, 11, 12, 34, 35, 36]), (8, [3, 9, 10, 11, 12, 13, 34, 35]), (9, [3, 9, 10, 11, 12, 34, 35]), (10, [3, 9, 10, 11, 12, 34, 35]), (11, [10, 12, 58]), (12, [8]), (13, [8]), (1000007, [3, 9, 10, 11, 12, 34, 35])]
def kp223 : List (Nat × List Nat) := [(0, [0, 1, 2]), (1, [0, 1, 2, 8]), (2, [0, 1, 2, 8, 17]), (3, [0, 1, 2, 8]), (4, [0, 1, 2, 9, 11]), (5, [0, 1, 2, 9, 11, 12]), (6, [0, 1, 2, 9, 11, 12, 13]), (7, [0, 1, 2, 9, 11, 12, 13, 32]), (8, [0, 1, 2, 9, 11, 12, 13]), (9, [0, 1, 2, 9, 11, 12, 13, 14]), (10, [0, 1, 2, 9, 11, 12, 13, 14, 55]), (11, [0, 1, 2, 9, 12, 13, 14]), (12, [0, 1, 2, 9, 12, 13, 14]), (13, [0, 1, 2, 9, 11, 12, 13, 14]), (14, [0, 1, 2, 9, 11, 12, 13]), (15, [6, 7]), (1000007, [0, 1, 2, 9, 11, 12, 13])]
def kp224 : List (Nat × List Nat) := [(0, [0, 1, 2, 3]), (1, [0, 1, 2, 3, 11, 12]), (2, [0, 1, 3, 11, 12, 43]), (3, [8, 9, 10]), (4, [0, 1, 3, 11, 12, 13]), (5, [0, 1, 3, 11, 12, 13, 14]), (6, [0, 1, 3, 11, 12, 13, 14, 47]), (7, [0, 1, 3, 11, 12, 13, 14]), (8, [0, 1, 3, 11, 12, 13, 14]), (9, [0, 3, 11, 12, 13, 60]), (10, [0, 3, 11, 12, 13, 15]), (11, [0, 3, 11, 12, 13, 15, 16]), (12, [0, 3, 11, 12, 13, 15, 16, 63]), (13, [0, 3, 11, 12, 13, 15, 16]), (14, [0, 3, 11, 12, 13, 15, 16]), (15, [11, 12, 13, 80]), (16, [11, 13]), (17, [8, 9, 10]), (1000006, [0, 1, 3, 11, 12, 13, 14]), (1000012, [0, 3, 11, 12, 13, 15, 16])]
def kp225 : List (Nat × List Nat) := [(0, [0, 1, 2]), (1, [0, 1, 2, 8, 9]), (2, [1, 2, 8, 9, 38]), (3, [6, 7]), (4, [1, 2, 8, 9, 40]), (5, [6, 7]), (6, [6, 7])]
def kp226 : List (Nat × List Nat) := [(0, [1, 2, 3, 6]), (1, [6])]
def kp227 : List (Nat × List Nat) := [(0, [0, 1, 2]), (1, [4])]
def kp228 : List (Nat × List Nat) := [(0, [1, 2]), (1, [4])]
def kp229 : List (Nat × List Nat) := [(0, [0]), (1, [0, 4]), (2, [2]), (3, [2])]
def kp230 : List (Nat × List Nat) := [(0, [0]), (1, [0, 4]), (2, [2]), (3, [2])]
def kp231 : List (Nat × List Nat) := []
def kp232 : List (Nat × List Nat) := []
def kp233 : List (Nat × List Nat) := [(0, [0, 1, 2]), (1, [0, 1, 2, 7]), (2, [0, 1, 2, 7, 11, 12]), (3, [0, 1, 2, 7, 11, 12, 13]), (4, [0, 1, 2, 7, 8, 11, 12]), (5, [0, 1, 2, 7, 8, 11, 12, 15]), (6, [0, 1, 2, 7, 11, 12]), (7, [0, 1, 2, 7, 11, 12]), (8, [0, 1, 2, 7, 11, 12]), (9, [6]), (1000003, [0, 1, 2, 7, 11, 12])]
def kp234 : List (Nat × List Nat) := [(0, [0, 1]), (1, [0]), (2, [])]
def kp235 : List (Nat × List Nat) := [(0, [1, 2]), (1, [4])]
def kp236 : List (Nat × List Nat) := [(0, [1, 2]), (1, [2, 6, 7]), (2, [2, 6, 7, 8]), (3, [2, 5, 6, 7]), (4, [2, 6, 7, 14]), (5, [4]), (6, [2, 6, 7]), (7, [4]), (1000002, [2, 6, 7])]
def kpT (f : Nat) : List (Nat × List Nat) :=
 bif Nat.blt f 127 then (bif Nat.blt f 63 then (bif Nat.blt f 31 then (bif Nat.blt f 15 then (bif Nat.blt f 7 then (bif Nat.blt f 3 then (bif Nat.blt f 1 then ([]) else (bif Nat.blt f 2 then ([]) else (kp2))) else (bif Nat.blt f 5 then (bif Nat.blt f 4 then (kp3) else (kp4)) else (bif Nat.blt f 6 then (kp5) else (kp6)))) else (bif Nat.blt f 11 then (bif Nat.blt f 9 then (bif Nat.blt f 8 then (kp7) else (kp8)) else (bif Nat.blt f 10 then (kp9) else (kp10))) else (bif Nat.blt f 13 then (bif Nat.blt f 12 then (kp11) else (kp12)) else (bif Nat.blt f 14 then (kp13) else (kp14))))) else (bif Nat.blt f 23 then (bif Nat.blt f 19 then (bif Nat.blt f 17 then (bif Nat.blt f 16 then (kp15) else (kp16)) else (bif Nat.blt f 18 then (kp17) else (kp18))) else (bif Nat.blt f 21 then (bif Nat.blt f 20 then (kp19) else (kp20)) else (bif Nat.blt f 22 then (kp21) else (kp22)))) else (bif Nat.blt f 27 then (bif Nat.blt f 25 then (bif Nat.blt f 24 then (kp23) else (kp24)) else (bif Nat.blt f 26 then (kp25) else (kp26))) else (bif Nat.blt f 29 then (bif Nat.blt f 28 then (kp27) else (kp28)) else (bif Nat.blt f 30 then (kp29) else (kp30)))))) else (bif Nat.blt f 47 then (bif Nat.blt f 39 then (bif Nat.blt f 35 then (bif Nat.blt f 33 then (bif Nat.blt f 32 then (kp31) else (kp32)) else (bif Nat.blt f 34 then (kp33) else (kp34))) else (bif Nat.blt f 37 then (bif Nat.blt f 36 then (kp35) else (kp36)) else (bif Nat.blt f 38 then (kp37) else (kp38)))) else (bif Nat.blt f 43 then (bif Nat.blt f 41 then (bif Nat.blt f 40 then (kp39) else (kp40)) else (bif Nat.blt f 42 then (kp41) else (kp42))) else (bif Nat.blt f 45 then (bif Nat.blt f 44 then (kp43) else (kp44)) else (bif Nat.blt f 46 then (kp45) else (kp46))))) else (bif Nat.blt f 55 then (bif Nat.blt f 51 then (bif Nat.blt f 49 then (bif Nat.blt f 48 then (kp47) else (kp48)) else (bif Nat.blt f 50 then (kp49) else (kp50))) else (bif Nat.blt f 53 then (bif Nat.blt f 52 then (kp51) else (kp52)) else (bif Nat.blt f 54 then (kp53) else (kp54)))) else (bif Nat.blt f 59 then (bif Nat.blt f 57 then (bif Nat.blt f 56 then (kp55) else (kp56)) else (bif Nat.blt f 58 then (kp57) else (kp58))) else (bif Nat.blt f 61 then (bif Nat.blt f 60 then (kp59) else (kp60)) else (bif Nat.blt f 62 then (kp61) else (kp62))))))) else (bif Nat.blt f 95 then (bif Nat.blt f 79 then (bif Nat.blt f 71 then (bif Nat.blt f 67 then (bif Nat.blt f 65 then (bif Nat.blt f 64 then (kp63) else (kp64)) else (bif Nat.blt f 66 then (kp65) else (kp66))) else (bif Nat.blt f 69 then (bif Nat.blt f 68 then (kp67) else (kp68)) else (bif Nat.blt f 70 then (kp69) else (kp70)))) else (bif Nat.blt f 75 then (bif Nat.blt f 73 then (bif Nat.blt f 72 then (kp71) else (kp72)) else (bif Nat.blt f 74 then (kp73) else (kp74))) else (bif Nat.blt f 77 then (bif Nat.blt f 76 then (kp75) else (kp76)) else (bif Nat.blt f 78 then (kp77) else (kp78))))) else (bif Nat.blt f 87 then (bif Nat.blt f 83 then (bif Nat.blt f 81 then (bif Nat.blt f 80 then (kp79) else (kp80)) else (bif Nat.blt f 82 then (kp81) else (kp82))) else (bif Nat.blt f 85 then (bif Nat.blt f 84 then (kp83) else (kp84)) else (bif Nat.blt f 86 then (kp85) else (kp86)))) else (bif Nat.blt f 91 then (bif Nat.blt f 89 then (bif Nat.blt f 88 then (kp87) else (kp88)) else (bif Nat.blt f 90 then (kp89) else (kp90))) else (bif Nat.blt f 93 then (bif Nat.blt f 92 then (kp91) else (kp92)) else (bif Nat.blt f 94 then (kp93) else (kp94)))))) else (bif Nat.blt f 111 then (bif Nat.blt f 103 then (bif Nat.blt f 99 then (bif Nat.blt f 97 then (bif Nat.blt f 96 then (kp95) else (kp96)) else (bif Nat.blt f 98 then (kp97) else (kp98))) else (bif Nat.blt f 101 then (bif Nat.blt f 100 then (kp99) else (kp100)) else (bif Nat.blt f 102 then (kp101) else (kp102)))) else (bif Nat.blt f 107 then (bif Nat.blt f 105 then (bif Nat.blt f 104 then (kp103) else (kp104)) else (bif Nat.blt f 106 then (kp105) else (kp106))) else (bif Nat.blt f 109 then (bif Nat.blt f 108 then (kp107) else (kp108)) else (bif Nat.blt f 110 then (kp109) else (kp110))))) else (bif Nat.blt f 119 then (bif Nat.blt f 115 then (bif Nat.blt f 113 then (bif Nat.blt f 112 then (kp111) else (kp112)) else (bif Nat.blt f 114 then (kp113) else (kp114))) else (bif Nat.blt f 117 then (bif Nat.blt f 116 then (kp115) else (kp116)) else (bif Nat.blt f 118 then (kp117) else (kp118)))) else (bif Nat.blt f 123 then (bif Nat.blt f 121 then (bif Nat.blt f 120 then (kp119) else (kp120)) else (bif Nat.blt f 122 then (kp121) else (kp122))) else (bif Nat.blt f 125 then (bif Nat.blt f 124 then (kp123) else (kp124)) else (bif Nat.blt f 126 then (kp125) else (kp126)))))))) else (bif Nat.blt f 191 then (bif Nat.blt f 159 then (bif Nat.blt f 143 then (bif Nat.blt f 135 then (bif Nat.blt f 131 then (bif Nat.blt f 129 then (bif Nat.blt f 128 then (kp127) else (kp128)) else (bif Nat.blt f 130 then (kp129) else (kp130))) else (bif Nat.blt f 133 then (bif Nat.blt f 132 then (kp131) else (kp132)) else (bif Nat.blt f 134 then (kp133) else (kp134)))) else (bif Nat.blt f 139 then (bif Nat.blt f 137 then (bif Nat.blt f 136 then (kp135) else (kp136)) else (bif Nat.blt f 138 then (kp137) else (kp138))) else (bif Nat.blt f 141 then (bif Nat.blt f 140 then (kp139) else (kp140)) else (bif Nat.blt f 142 then (kp141) else (kp142))))) else (bif Nat.blt f 151 then (bif Nat.blt f 147 then (bif Nat.blt f 145 then (bif Nat.blt f 144 then (kp143) else (kp144)) else (bif Nat.blt f 146 then (kp145) else (kp146))) else (bif Nat.blt f 149 then (bif Nat.blt f 148 then (kp147) else (kp148)) else (bif Nat.blt f 150 then (kp149) else (kp150)))) else (bif Nat.blt f 155 then (bif Nat.blt f 153 then (bif Nat.blt f 152 then (kp151) else (kp152)) else (bif Nat.blt f 154 then (kp153) else (kp154))) else (bif Nat.blt f 157 then (bif Nat.blt f 156 then (kp155) else (kp156)) else (bif Nat.blt f 158 then (kp157) else (kp158)))))) else (bif Nat.blt f 175 then (bif Nat.blt f 167 then (bif Nat.blt f 163 then (bif Nat.blt f 161 then (bif Nat.blt f 160 then (kp159) else (kp160)) else (bif Nat.blt f 162 then (kp161) else (kp162))) else (bif Nat.blt f 165 then (bif Nat.blt f 164 then (kp163) else (kp164)) else (bif Nat.blt f 166 then (kp165) else (kp166)))) else (bif Nat.blt f 171 then (bif Nat.blt f 169 then (bif Nat.blt f 168 then (kp167) else (kp168)) else (bif Nat.blt f 170 then (kp169) else (kp170))) else (bif Nat.blt f 173 then (bif Nat.blt f 172 then (kp171) else (kp172)) else (bif Nat.blt f 174 then (kp173) else (kp174))))) else (bif Nat.blt f 183 then (bif Nat.blt f 179 then (bif Nat.blt f 177 then (bif Nat.blt f 176 then (kp175) else (kp176)) else (bif Nat.blt f 178 then (kp177) else (kp178))) else (bif Nat.blt f 181 then (bif Nat.blt f 180 then (kp179) else (kp180)) else (bif Nat.blt f 182 then (kp181) else (kp182)))) else (bif Nat.blt f 187 then (bif Nat.blt f 185 then (bif Nat.blt f 184 then (kp183) else (kp184)) else (bif Nat.blt f 186 then (kp185) else (kp186))) else (bif Nat.blt f 189 then (bif Nat.blt f 188 then (kp187) else (kp188)) else (bif Nat.blt f 190 then (kp189) else (kp190))))))) else (bif Nat.blt f 223 then (bif Nat.blt f 207 then (bif Nat.blt f 199 then (bif Nat.blt f 195 then (bif Nat.blt f 193 then (bif Nat.blt f 192 then (kp191) else (kp192)) else (bif Nat.blt f 194 then (kp193) else (kp194))) else (bif Nat.blt f 197 then (bif Nat.blt f 196 then (kp195) else (kp196)) else (bif Nat.blt f 198 then (kp197) else (kp198)))) else (bif Nat.blt f 203 then (bif Nat.blt f 201 then (bif Nat.blt f 200 then (kp199) else (kp200)) else (bif Nat.blt f 202 then (kp201) else (kp202))) else (bif Nat.blt f 205 then (bif Nat.blt f 204 then (kp203) else (kp204)) else (bif Nat.blt f 206 then (kp205) else (kp206))))) else (bif Nat.blt f 215 then (bif Nat.blt f 211 then (bif Nat.blt f 209 then (bif Nat.blt f 208 then (kp207) else (kp208)) else (bif Nat.blt f 210 then (kp209) else (kp210))) else (bif Nat.blt f 213 then (bif Nat.blt f 212 then (kp211) else (kp212)) else (bif Nat.blt f 214 then (kp213) else (kp214)))) else (bif Nat.blt f 219 then (bif Nat.blt f 217 then (bif Nat.blt f 216 then (kp215) else (kp216)) else (bif Nat.blt f 218 then ([]) else (kp218))) else (bif Nat.blt f 221 then (bif Nat.blt f 220 then (kp219) else (kp220)) else (bif Nat.blt f 222 then (kp221) else (kp222)))))) else (bif Nat.blt f 239 then (bif Nat.blt f 231 then (bif Nat.blt f 227 then (bif Nat.blt f 225 then (bif Nat.blt f 224 then (kp223) else (kp224)) else (bif Nat.blt f 226 then (kp225) else (kp226))) else (bif Nat.blt f 229 then (bif Nat.blt f 228 then (kp227) else (kp228)) else (bif Nat.blt f 230 then (kp229) else (kp230)))) else (bif Nat.blt f 235 then (bif Nat.blt f 233 then (bif Nat.blt f 232 then (kp231) else (kp232)) else (bif Nat.blt f 234 then (kp233) else (kp234))) else (bif Nat.blt f 237 then (bif Nat.blt f 236 then (kp235) else (kp236)) else ([])))) else ([]))))
def kpLook (id : Nat) : List (Nat × List Nat) → List Nat
 | [] => []
 | (i, l) :: r => bif Nat.beq i id then l else kpLook id r
def kpS (f id : Nat) : List Nat := kpLook id (kpT f)
def speaksT : List Nat := [43, 62, 69, 90, 97, 104, 119, 128, 133, 142]
abbrev shortT : Nat := 233
def moreS (f : Nat) : Option Sp := bif Nat.beq f 77 then some (tryV 233) else bif Nat.beq f 147 then some (fun _ args H => cloneV 3 12 args H) else bif Nat.beq f 151 then some (fun _ args H => cloneV 2 16 args H) else bif Nat.beq f 152 then some stuckSp else none
def ownersW : List Nat := [999999, 133]
def ownW (k : Nat) : Mode := bif ownersW.contains (k % 1000000) then .no else .fz
def mdS (k f : Nat) : Mode := bif Nat.blt f 127 then (bif Nat.blt f 63 then (bif Nat.blt f 31 then (bif Nat.blt f 15 then (bif Nat.blt f 7 then (bif Nat.blt f 3 then (bif Nat.blt f 1 then (.gc) else (bif Nat.blt f 2 then (.gc) else (.no))) else (.gc)) else (.gc)) else (.gc)) else (bif Nat.blt f 47 then (.gc) else (bif Nat.blt f 55 then (bif Nat.blt f 51 then (bif Nat.blt f 49 then (bif Nat.blt f 48 then (.gc) else (.no)) else (bif Nat.blt f 50 then (own k) else (.gc))) else (bif Nat.blt f 53 then (bif Nat.blt f 52 then (.fz) else (.no)) else (bif Nat.blt f 54 then (.fz) else (.no)))) else (bif Nat.blt f 59 then (bif Nat.blt f 57 then (bif Nat.blt f 56 then (.fz) else (.no)) else (bif Nat.blt f 58 then (.fz) else (.no))) else (bif Nat.blt f 61 then (bif Nat.blt f 60 then (.no) else (.fz)) else (.gc)))))) else (bif Nat.blt f 95 then (bif Nat.blt f 79 then (bif Nat.blt f 71 then (bif Nat.blt f 67 then (bif Nat.blt f 65 then (bif Nat.blt f 64 then (.no) else (own k)) else (bif Nat.blt f 66 then (.fz) else (.no))) else (bif Nat.blt f 69 then (.no) else (bif Nat.blt f 70 then (.gc) else (.fz)))) else (bif Nat.blt f 75 then (bif Nat.blt f 73 then (.fz) else (bif Nat.blt f 74 then (.gc) else (.no))) else (bif Nat.blt f 77 then (bif Nat.blt f 76 then (.no) else (.gc)) else (.no)))) else (bif Nat.blt f 87 then (bif Nat.blt f 83 then (bif Nat.blt f 81 then (bif Nat.blt f 80 then (.fz) else (.gc)) else (bif Nat.blt f 82 then (.gc) else (.fz))) else (bif Nat.blt f 85 then (.gc) else (bif Nat.blt f 86 then (.no) else (.fz)))) else (bif Nat.blt f 91 then (bif Nat.blt f 89 then (bif Nat.blt f 88 then (.no) else (.gc)) else (.gc)) else (bif Nat.blt f 93 then (bif Nat.blt f 92 then (.gc) else (.fz)) else (bif Nat.blt f 94 then (.gc) else (.no)))))) else (bif Nat.blt f 111 then (bif Nat.blt f 103 then (bif Nat.blt f 99 then (bif Nat.blt f 97 then (bif Nat.blt f 96 then (.no) else (.fz)) else (bif Nat.blt f 98 then (.gc) else (.fz))) else (bif Nat.blt f 101 then (bif Nat.blt f 100 then (.fz) else (.gc)) else (bif Nat.blt f 102 then (.gc) else (.no)))) else (bif Nat.blt f 107 then (bif Nat.blt f 105 then (bif Nat.blt f 104 then (.fz) else (.gc)) else (.fz)) else (.gc))) else (bif Nat.blt f 119 then (bif Nat.blt f 115 then (bif Nat.blt f 113 then (bif Nat.blt f 112 then (ownW k) else (.gc)) else (.gc)) else (bif Nat.blt f 117 then (bif Nat.blt f 116 then (own k) else (.gc)) else (bif Nat.blt f 118 then (.no) else (.fz)))) else (bif Nat.blt f 123 then (bif Nat.blt f 121 then (bif Nat.blt f 120 then (.gc) else (.fz)) else (bif Nat.blt f 122 then (.fz) else (.gc))) else (bif Nat.blt f 125 then (bif Nat.blt f 124 then (.gc) else (.fz)) else (bif Nat.blt f 126 then (own k) else (.no)))))))) else (bif Nat.blt f 191 then (bif Nat.blt f 159 then (bif Nat.blt f 143 then (bif Nat.blt f 135 then (bif Nat.blt f 131 then (bif Nat.blt f 129 then (bif Nat.blt f 128 then (.fz) else (.gc)) else (bif Nat.blt f 130 then (.gc) else (.no))) else (bif Nat.blt f 133 then (bif Nat.blt f 132 then (.gc) else (.no)) else (.gc))) else (bif Nat.blt f 139 then (bif Nat.blt f 137 then (.fz) else (bif Nat.blt f 138 then (.fz) else (.no))) else (bif Nat.blt f 141 then (bif Nat.blt f 140 then (.fz) else (.no)) else (bif Nat.blt f 142 then (.fz) else (.gc))))) else (bif Nat.blt f 151 then (bif Nat.blt f 147 then (bif Nat.blt f 145 then (bif Nat.blt f 144 then (.gc) else (.fz)) else (bif Nat.blt f 146 then (.no) else (.fz))) else (.no)) else (bif Nat.blt f 155 then (.no) else (bif Nat.blt f 157 then (.no) else (.gc))))) else (bif Nat.blt f 175 then (bif Nat.blt f 167 then (bif Nat.blt f 163 then (bif Nat.blt f 161 then (bif Nat.blt f 160 then (.gc) else (.no)) else (bif Nat.blt f 162 then (.gc) else (.fz))) else (bif Nat.blt f 165 then (.fz) else (bif Nat.blt f 166 then (.fz) else (.gc)))) else (bif Nat.blt f 171 then (bif Nat.blt f 169 then (bif Nat.blt f 168 then (.gc) else (.fz)) else (.no)) else (bif Nat.blt f 173 then (bif Nat.blt f 172 then (.gc) else (.fz)) else (bif Nat.blt f 174 then (.fz) else (.no))))) else (bif Nat.blt f 183 then (bif Nat.blt f 179 then (bif Nat.blt f 177 then (bif Nat.blt f 176 then (.fz) else (.no)) else (.fz)) else (bif Nat.blt f 181 then (bif Nat.blt f 180 then (.fz) else (.gc)) else (bif Nat.blt f 182 then (.gc) else (.fz)))) else (bif Nat.blt f 187 then (bif Nat.blt f 185 then (bif Nat.blt f 184 then (.no) else (.gc)) else (.gc)) else (bif Nat.blt f 189 then (bif Nat.blt f 188 then (.gc) else (.no)) else (.gc)))))) else (bif Nat.blt f 223 then (bif Nat.blt f 207 then (bif Nat.blt f 199 then (bif Nat.blt f 195 then (bif Nat.blt f 193 then (.gc) else (.no)) else (bif Nat.blt f 197 then (bif Nat.blt f 196 then (.no) else (.fz)) else (.gc))) else (bif Nat.blt f 203 then (bif Nat.blt f 201 then (.gc) else (bif Nat.blt f 202 then (.gc) else (.fz))) else (bif Nat.blt f 205 then (.fz) else (.no)))) else (bif Nat.blt f 215 then (bif Nat.blt f 211 then (bif Nat.blt f 209 then (.no) else (bif Nat.blt f 210 then (.no) else (.gc))) else (bif Nat.blt f 213 then (bif Nat.blt f 212 then (.gc) else (.fz)) else (bif Nat.blt f 214 then (.gc) else (.no)))) else (bif Nat.blt f 219 then (bif Nat.blt f 217 then (.fz) else (.no)) else (bif Nat.blt f 221 then (bif Nat.blt f 220 then (.no) else (.gc)) else (bif Nat.blt f 222 then (.gc) else (.fz)))))) else (bif Nat.blt f 239 then (bif Nat.blt f 231 then (bif Nat.blt f 227 then (bif Nat.blt f 225 then (.fz) else (bif Nat.blt f 226 then (.fz) else (.gc))) else (.gc)) else (bif Nat.blt f 235 then (bif Nat.blt f 233 then (.gc) else (.no)) else (.gc))) else (.gc))))
def arS (f : Nat) : Bool := [121].any (Nat.beq f)
noncomputable def C (k : Nat) : Cfg := { P := Prog, kp := kpS, sp := spOf speaksT moreS (k % 1000000) }
noncomputable def T (k : Nat) : Told := { c := C k, md := mdS k, ar := arS }
theorem more_scott (f : FuncId) (s : Sp) (h : moreS f = some s) : ∀ args H, Scott fun call => s call args H := by
 unfold moreS at h
 cases h77 : Nat.beq f 77 with
 | true => rw [h77, cond_true] at h; injection h with h; subst h; first | exact fun args H => Scott.const _ | exact Scott.tryV _ | exact Scott.told _
 | false =>
 rw [h77, cond_false] at h
 cases h147 : Nat.beq f 147 with
 | true => rw [h147, cond_true] at h; injection h with h; subst h; first | exact fun args H => Scott.const _ | exact Scott.tryV _ | exact Scott.told _
 | false =>
 rw [h147, cond_false] at h
 cases h151 : Nat.beq f 151 with
 | true => rw [h151, cond_true] at h; injection h with h; subst h; first | exact fun args H => Scott.const _ | exact Scott.tryV _ | exact Scott.told _
 | false =>
 rw [h151, cond_false] at h
 cases h152 : Nat.beq f 152 with
 | true => rw [h152, cond_true] at h; injection h with h; subst h; first | exact fun args H => Scott.const _ | exact Scott.tryV _ | exact Scott.told _
 | false =>
 rw [h152, cond_false] at h
 cases h
theorem T_scott (k : Nat) : SpScott (T k).c := SpScott.of more_scott
@[simp] theorem cv_21_3 (x : Value) (H : Heap) : convR Prog 21 3 x H = cvK .i64 x H := convR_int (by kernel_rfl) (by kernel_rfl) x H
@[simp] theorem len_28 (x : Value) (h : Heap) : builtinV Prog .len [28] [x] h = lnS x h := lnS_eq (e := 3) (by kernel_rfl) x h
@[simp] theorem ld_3 (a : Value) (h : Heap) : loadR Prog 3 a h = ld1 a h := ld1_eq (by kernel_rfl) a h
@[simp] theorem be_50_0 (ps : List (Nat × Value)) (h : Heap) : buildSliceR Prog 50 0 ps h = beR 2 0 ps [] h := be_eq (e := 55) (by kernel_rfl) (by kernel_rfl) (by kernel_rfl) (by kernel_rfl) ps h
@[simp] theorem ap_50 (a b : Value) (h : Heap) : builtinV Prog .append [50, 50] [a, b] h = apR 2 16 a b h := ap_is (e := 55) (z := .agg #[.int .i64 0, .int .i64 0]) (by kernel_rfl) (by kernel_rfl) (by kernel_rfl) (by kernel_rfl) (by kernel_rfl) a b h
@[simp] theorem st_3 (a v : Value) (h : Heap) : storeR Prog 3 a v h = stR 1 a v h := st_eq (by kernel_rfl) a v h
@[simp] theorem ix_28 (x i : Value) (h : Heap) : indexAddrR Prog 28 x i h = ixS 1 x i h := ixS_eq (e := 3) (by kernel_rfl) (by kernel_rfl) x i h
@[simp] theorem be_28_1 (ps : List (Nat × Value)) (h : Heap) : buildSliceR Prog 28 1 ps h = beR 1 1 ps [.int .i64 0] h := be_eq (e := 3) (by kernel_rfl) (by kernel_rfl) (by kernel_rfl) (by kernel_rfl) ps h
@[simp] theorem ap_28 (a b : Value) (h : Heap) : builtinV Prog .append [28, 28] [a, b] h = apR 1 8 a b h := ap_is (e := 3) (z := .int .i64 0) (by kernel_rfl) (by kernel_rfl) (by kernel_rfl) (by kernel_rfl) (by kernel_rfl) a b h
@[simp] theorem cv_62_3 (x : Value) (H : Heap) : convR Prog 62 3 x H = cvK .i64 x H := convR_int (by kernel_rfl) (by kernel_rfl) x H
@[simp] theorem eqp_68 (cs : Array Value) (h : Heap) : binR Prog .eql 68 (boxV cs) (.pointer none) h = .ok (.bool false) h := by kernel_rfl
@[simp] theorem eqn_68 (h : Heap) : binR Prog .eql 68 (.pointer none) (.pointer none) h = .ok (.bool true) h := by kernel_rfl
@[simp] theorem len_65 (x : Value) (h : Heap) : builtinV Prog .len [65] [x] h = lnS x h := lnS_eq (e := 5) (by kernel_rfl) x h
@[simp] theorem be_65_0 (ps : List (Nat × Value)) (h : Heap) : buildSliceR Prog 65 0 ps h = beR 1 0 ps [] h := be_eq (e := 5) (by kernel_rfl) (by kernel_rfl) (by kernel_rfl) (by kernel_rfl) ps h
@[simp] theorem ap_65 (a b : Value) (h : Heap) : builtinV Prog .append [65, 65] [a, b] h = apR 1 1 a b h := ap_is (e := 5) (z := .int .u8 0) (by kernel_rfl) (by kernel_rfl) (by kernel_rfl) (by kernel_rfl) (by kernel_rfl) a b h
@[simp] theorem ix_65 (x i : Value) (h : Heap) : indexAddrR Prog 65 x i h = ixS 1 x i h := ixS_eq (e := 5) (by kernel_rfl) (by kernel_rfl) x i h
@[simp] theorem st_5 (a v : Value) (h : Heap) : storeR Prog 5 a v h = stR 1 a v h := st_eq (by kernel_rfl) a v h
@[simp] theorem ld_65 (a : Value) (h : Heap) : loadR Prog 65 a h = ld1 a h := ld1_eq (by kernel_rfl) a h
@[simp] theorem ld_68 (a : Value) (h : Heap) : loadR Prog 68 a h = ld1 a h := ld1_eq (by kernel_rfl) a h
@[simp] theorem st_68 (a v : Value) (h : Heap) : storeR Prog 68 a v h = stR 1 a v h := st_eq (by kernel_rfl) a v h
@[simp] theorem al_88 (h : Heap) : allocR Prog 88 h = newP [.slice none 0 0, .slice none 0 0] h := al_eq (z := .agg #[.slice none 0 0, .slice none 0 0]) (by kernel_rfl) h
@[simp] theorem st_88 (a v : Value) (h : Heap) : storeR Prog 88 a v h = stR 2 a v h := st_eq (by kernel_rfl) a v h
@[simp] theorem ld_5 (a : Value) (h : Heap) : loadR Prog 5 a h = ld1 a h := ld1_eq (by kernel_rfl) a h
@[simp] theorem cv_5_3 (x : Value) (H : Heap) : convR Prog 5 3 x H = cvK .i64 x H := convR_int (by kernel_rfl) (by kernel_rfl) x H
@[simp] theorem ld_88 (a : Value) (h : Heap) : loadR Prog 88 a h = ldA 2 a h := ldA_eq (by kernel_rfl) (by kernel_rfl) a h
@[simp] theorem ld_120 (a : Value) (h : Heap) : loadR Prog 120 a h = ld1 a h := ld1_eq (by kernel_rfl) a h
@[simp] theorem cv_120_3 (x : Value) (H : Heap) : convR Prog 120 3 x H = cvK .i64 x H := convR_int (by kernel_rfl) (by kernel_rfl) x H
@[simp] theorem sl_65 (x : Value) (lo hi mx : Option Value) (h : Heap) : sliceR Prog 65 x lo hi mx h = slS 1 x lo hi mx h := slS_eq (e := 5) (by kernel_rfl) (by kernel_rfl) x lo hi mx h
@[simp] theorem eqp_160 (cs : Array Value) (h : Heap) : binR Prog .eql 160 (boxV cs) (.pointer none) h = .ok (.bool false) h := by kernel_rfl
@[simp] theorem eqn_160 (h : Heap) : binR Prog .eql 160 (.pointer none) (.pointer none) h = .ok (.bool true) h := by kernel_rfl
@[simp] theorem al_164 (h : Heap) : allocR Prog 164 h = newP [.int .i64 0, .int .i64 0, .int .i64 0, .int .i64 0, .slice none 0 0, .slice none 0 0, .slice none 0 0, .slice none 0 0, .slice none 0 0, .slice none 0 0] h := al_eq (z := .agg #[.int .i64 0, .int .i64 0, .int .i64 0, .int .i64 0, .slice none 0 0, .slice none 0 0, .slice none 0 0, .slice none 0 0, .slice none 0 0, .slice none 0 0]) (by kernel_rfl) h
@[simp] theorem st_164 (a v : Value) (h : Heap) : storeR Prog 164 a v h = stR 10 a v h := st_eq (by kernel_rfl) a v h
@[simp] theorem ld_164 (a : Value) (h : Heap) : loadR Prog 164 a h = ldA 10 a h := ldA_eq (by kernel_rfl) (by kernel_rfl) a h
@[simp] theorem fa_177_0 (a : Value) (h : Heap) : fieldAddrR Prog 177 a 0 h = faR 0 1 a h := fa_is (ft := 65) (by kernel_rfl) (by kernel_rfl) a h
@[simp] theorem fa_177_1 (a : Value) (h : Heap) : fieldAddrR Prog 177 a 1 h = faR 1 1 a h := fa_is (ft := 65) (by kernel_rfl) (by kernel_rfl) a h
@[simp] theorem fa_177_2 (a : Value) (h : Heap) : fieldAddrR Prog 177 a 2 h = faR 2 1 a h := fa_is (ft := 175) (by kernel_rfl) (by kernel_rfl) a h
@[simp] theorem ld_175 (a : Value) (h : Heap) : loadR Prog 175 a h = ld1 a h := ld1_eq (by kernel_rfl) a h
@[simp] theorem len_175 (x : Value) (h : Heap) : builtinV Prog .len [175] [x] h = lnS x h := lnS_eq (e := 120) (by kernel_rfl) x h
@[simp] theorem ld_177 (a : Value) (h : Heap) : loadR Prog 177 a h = ldA 3 a h := ldA_eq (by kernel_rfl) (by kernel_rfl) a h
@[simp] theorem ix_175 (x i : Value) (h : Heap) : indexAddrR Prog 175 x i h = ixS 1 x i h := ixS_eq (e := 120) (by kernel_rfl) (by kernel_rfl) x i h
@[simp] theorem al_160 (h : Heap) : allocR Prog 160 h = newP [.pointer none] h := al_eq (z := .pointer none) (by kernel_rfl) h
@[simp] theorem ld_160 (a : Value) (h : Heap) : loadR Prog 160 a h = ld1 a h := ld1_eq (by kernel_rfl) a h
@[simp] theorem be_65_1 (ps : List (Nat × Value)) (h : Heap) : buildSliceR Prog 65 1 ps h = beR 1 1 ps [.int .u8 0] h := be_eq (e := 5) (by kernel_rfl) (by kernel_rfl) (by kernel_rfl) (by kernel_rfl) ps h
@[simp] theorem cv_3_5 (x : Value) (H : Heap) : convR Prog 3 5 x H = cvK .u8 x H := convR_int (by kernel_rfl) (by kernel_rfl) x H
@[simp] theorem st_65 (a v : Value) (h : Heap) : storeR Prog 65 a v h = stR 1 a v h := st_eq (by kernel_rfl) a v h
@[simp] theorem cv_3_21 (x : Value) (H : Heap) : convR Prog 3 21 x H = cvK .i32 x H := convR_int (by kernel_rfl) (by kernel_rfl) x H
@[simp] theorem ap_31 (a b : Value) (h : Heap) : builtinV Prog .append [31, 31] [a, b] h = apR 3 12 a b h := ap_is (e := 34) (z := .agg #[.int .i32 0, .int .i32 0, .int .i32 0]) (by kernel_rfl) (by kernel_rfl) (by kernel_rfl) (by kernel_rfl) (by kernel_rfl) a b h
@[simp] theorem be_31_0 (ps : List (Nat × Value)) (h : Heap) : buildSliceR Prog 31 0 ps h = beR 3 0 ps [] h := be_eq (e := 34) (by kernel_rfl) (by kernel_rfl) (by kernel_rfl) (by kernel_rfl) ps h
@[simp] theorem fa_228_1 (a : Value) (h : Heap) : fieldAddrR Prog 228 a 1 h = faR 1 1 a h := fa_is (ft := 226) (by kernel_rfl) (by kernel_rfl) a h
@[simp] theorem ld_226 (a : Value) (h : Heap) : loadR Prog 226 a h = ld1 a h := ld1_eq (by kernel_rfl) a h
@[simp] theorem len_226 (x : Value) (h : Heap) : builtinV Prog .len [226] [x] h = lnS x h := lnS_eq (e := 230) (by kernel_rfl) x h
@[simp] theorem ix_226 (x i : Value) (h : Heap) : indexAddrR Prog 226 x i h = ixS 3 x i h := ixS_eq (e := 230) (by kernel_rfl) (by kernel_rfl) x i h
@[simp] theorem fa_230_0 (a : Value) (h : Heap) : fieldAddrR Prog 230 a 0 h = faR 0 1 a h := fa_is (ft := 3) (by kernel_rfl) (by kernel_rfl) a h
@[simp] theorem ld_230 (a : Value) (h : Heap) : loadR Prog 230 a h = ldA 3 a h := ldA_eq (by kernel_rfl) (by kernel_rfl) a h
@[simp] theorem al_230 (h : Heap) : allocR Prog 230 h = newP [.int .i64 0, .int .i64 0, .slice none 0 0] h := al_eq (z := .agg #[.int .i64 0, .int .i64 0, .slice none 0 0]) (by kernel_rfl) h
@[simp] theorem st_230 (a v : Value) (h : Heap) : storeR Prog 230 a v h = stR 3 a v h := st_eq (by kernel_rfl) a v h
@[simp] theorem fa_230_2 (a : Value) (h : Heap) : fieldAddrR Prog 230 a 2 h = faR 2 1 a h := fa_is (ft := 28) (by kernel_rfl) (by kernel_rfl) a h
@[simp] theorem ld_28 (a : Value) (h : Heap) : loadR Prog 28 a h = ld1 a h := ld1_eq (by kernel_rfl) a h
@[simp] theorem ld_83 (a : Value) (h : Heap) : loadR Prog 83 a h = ldA 1 a h := ldA_eq (by kernel_rfl) (by kernel_rfl) a h
@[simp] theorem bd_235 (ps : List (Nat × Value)) (h : Heap) : buildR Prog 235 ps h = bdR [(0, 1), (1, 1), (2, 1)] ps [.slice none 0 0, .int .i64 0, .int .i64 0] h := bd_is (z := .agg #[.slice none 0 0, .int .i64 0, .int .i64 0]) (by kernel_rfl) (by kernel_rfl) (by kernel_rfl) ps h
@[simp] theorem al_235 (h : Heap) : allocR Prog 235 h = newP [.slice none 0 0, .int .i64 0, .int .i64 0] h := al_eq (z := .agg #[.slice none 0 0, .int .i64 0, .int .i64 0]) (by kernel_rfl) h
@[simp] theorem st_235 (a v : Value) (h : Heap) : storeR Prog 235 a v h = stR 3 a v h := st_eq (by kernel_rfl) a v h
@[simp] theorem bd_228 (ps : List (Nat × Value)) (h : Heap) : buildR Prog 228 ps h = bdR [(0, 1), (1, 1)] ps [.int .i64 0, .slice none 0 0] h := bd_is (z := .agg #[.int .i64 0, .slice none 0 0]) (by kernel_rfl) (by kernel_rfl) (by kernel_rfl) ps h
@[simp] theorem fa_228_0 (a : Value) (h : Heap) : fieldAddrR Prog 228 a 0 h = faR 0 1 a h := fa_is (ft := 3) (by kernel_rfl) (by kernel_rfl) a h
@[simp] theorem bd_230 (ps : List (Nat × Value)) (h : Heap) : buildR Prog 230 ps h = bdR [(0, 1), (1, 1), (2, 1)] ps [.int .i64 0, .int .i64 0, .slice none 0 0] h := bd_is (z := .agg #[.int .i64 0, .int .i64 0, .slice none 0 0]) (by kernel_rfl) (by kernel_rfl) (by kernel_rfl) ps h
@[simp] theorem be_226_1 (ps : List (Nat × Value)) (h : Heap) : buildSliceR Prog 226 1 ps h = beR 3 1 ps [.int .i64 0, .int .i64 0, .slice none 0 0] h := be_eq (e := 230) (by kernel_rfl) (by kernel_rfl) (by kernel_rfl) (by kernel_rfl) ps h
@[simp] theorem st_226 (a v : Value) (h : Heap) : storeR Prog 226 a v h = stR 1 a v h := st_eq (by kernel_rfl) a v h
@[simp] theorem ld_235 (a : Value) (h : Heap) : loadR Prog 235 a h = ldA 3 a h := ldA_eq (by kernel_rfl) (by kernel_rfl) a h
@[simp] theorem fa_230_1 (a : Value) (h : Heap) : fieldAddrR Prog 230 a 1 h = faR 1 1 a h := fa_is (ft := 3) (by kernel_rfl) (by kernel_rfl) a h
@[simp] theorem al_83 (h : Heap) : allocR Prog 83 h = newP [.slice none 0 0] h := al_eq (z := .agg #[.slice none 0 0]) (by kernel_rfl) h
@[simp] theorem bd_83 (ps : List (Nat × Value)) (h : Heap) : buildR Prog 83 ps h = bdR [(0, 1)] ps [.slice none 0 0] h := bd_is (z := .agg #[.slice none 0 0]) (by kernel_rfl) (by kernel_rfl) (by kernel_rfl) ps h
@[simp] theorem st_83 (a v : Value) (h : Heap) : storeR Prog 83 a v h = stR 1 a v h := st_eq (by kernel_rfl) a v h
@[simp] theorem len_86 (x : Value) (h : Heap) : builtinV Prog .len [86] [x] h = lnS x h := lnS_eq (e := 244) (by kernel_rfl) x h
@[simp] theorem ix_86 (x i : Value) (h : Heap) : indexAddrR Prog 86 x i h = ixS 5 x i h := ixS_eq (e := 244) (by kernel_rfl) (by kernel_rfl) x i h
@[simp] theorem fa_244_0 (a : Value) (h : Heap) : fieldAddrR Prog 244 a 0 h = faR 0 1 a h := fa_is (ft := 3) (by kernel_rfl) (by kernel_rfl) a h
@[simp] theorem fa_244_1 (a : Value) (h : Heap) : fieldAddrR Prog 244 a 1 h = faR 1 1 a h := fa_is (ft := 3) (by kernel_rfl) (by kernel_rfl) a h
@[simp] theorem bd_88 (ps : List (Nat × Value)) (h : Heap) : buildR Prog 88 ps h = bdR [(0, 1), (1, 1)] ps [.slice none 0 0, .slice none 0 0] h := bd_is (z := .agg #[.slice none 0 0, .slice none 0 0]) (by kernel_rfl) (by kernel_rfl) (by kernel_rfl) ps h
@[simp] theorem fa_88_1 (a : Value) (h : Heap) : fieldAddrR Prog 88 a 1 h = faR 1 1 a h := fa_is (ft := 86) (by kernel_rfl) (by kernel_rfl) a h
@[simp] theorem ld_86 (a : Value) (h : Heap) : loadR Prog 86 a h = ld1 a h := ld1_eq (by kernel_rfl) a h
@[simp] theorem ld_244 (a : Value) (h : Heap) : loadR Prog 244 a h = ldA 5 a h := ldA_eq (by kernel_rfl) (by kernel_rfl) a h
@[simp] theorem al_244 (h : Heap) : allocR Prog 244 h = newP [.int .i64 0, .int .i64 0, .int .i64 0, .int .i64 0, .int .i64 0] h := al_eq (z := .agg #[.int .i64 0, .int .i64 0, .int .i64 0, .int .i64 0, .int .i64 0]) (by kernel_rfl) h
@[simp] theorem st_244 (a v : Value) (h : Heap) : storeR Prog 244 a v h = stR 5 a v h := st_eq (by kernel_rfl) a v h
@[simp] theorem fa_88_0 (a : Value) (h : Heap) : fieldAddrR Prog 88 a 0 h = faR 0 1 a h := fa_is (ft := 65) (by kernel_rfl) (by kernel_rfl) a h
@[simp] theorem fa_244_2 (a : Value) (h : Heap) : fieldAddrR Prog 244 a 2 h = faR 2 1 a h := fa_is (ft := 3) (by kernel_rfl) (by kernel_rfl) a h
@[simp] theorem fa_244_4 (a : Value) (h : Heap) : fieldAddrR Prog 244 a 4 h = faR 4 1 a h := fa_is (ft := 3) (by kernel_rfl) (by kernel_rfl) a h
@[simp] theorem fa_244_3 (a : Value) (h : Heap) : fieldAddrR Prog 244 a 3 h = faR 3 1 a h := fa_is (ft := 3) (by kernel_rfl) (by kernel_rfl) a h
@[simp] theorem be_65_4 (ps : List (Nat × Value)) (h : Heap) : buildSliceR Prog 65 4 ps h = beR 1 4 ps [.int .u8 0, .int .u8 0, .int .u8 0, .int .u8 0] h := be_eq (e := 5) (by kernel_rfl) (by kernel_rfl) (by kernel_rfl) (by kernel_rfl) ps h
@[simp] theorem cv_120_62 (x : Value) (H : Heap) : convR Prog 120 62 x H = cvK .u16 x H := convR_int (by kernel_rfl) (by kernel_rfl) x H
@[simp] theorem st_160 (a v : Value) (h : Heap) : storeR Prog 160 a v h = stR 1 a v h := st_eq (by kernel_rfl) a v h
@[simp] theorem bd_164 (ps : List (Nat × Value)) (h : Heap) : buildR Prog 164 ps h = bdR [(0, 1), (1, 1), (2, 1), (3, 1), (4, 1), (5, 1), (6, 2), (8, 2)] ps [.int .i64 0, .int .i64 0, .int .i64 0, .int .i64 0, .slice none 0 0, .slice none 0 0, .slice none 0 0, .slice none 0 0, .slice none 0 0, .slice none 0 0] h := bd_is (z := .agg #[.int .i64 0, .int .i64 0, .int .i64 0, .int .i64 0, .slice none 0 0, .slice none 0 0, .slice none 0 0, .slice none 0 0, .slice none 0 0, .slice none 0 0]) (by kernel_rfl) (by kernel_rfl) (by kernel_rfl) ps h
@[simp] theorem fa_164_1 (a : Value) (h : Heap) : fieldAddrR Prog 164 a 1 h = faR 1 1 a h := fa_is (ft := 3) (by kernel_rfl) (by kernel_rfl) a h
@[simp] theorem fa_164_3 (a : Value) (h : Heap) : fieldAddrR Prog 164 a 3 h = faR 3 1 a h := fa_is (ft := 3) (by kernel_rfl) (by kernel_rfl) a h
@[simp] theorem fa_164_2 (a : Value) (h : Heap) : fieldAddrR Prog 164 a 2 h = faR 2 1 a h := fa_is (ft := 3) (by kernel_rfl) (by kernel_rfl) a h
@[simp] theorem fa_164_6 (a : Value) (h : Heap) : fieldAddrR Prog 164 a 6 h = faR 6 2 a h := fa_is (ft := 88) (by kernel_rfl) (by kernel_rfl) a h
@[simp] theorem fa_164_7 (a : Value) (h : Heap) : fieldAddrR Prog 164 a 7 h = faR 8 2 a h := fa_is (ft := 88) (by kernel_rfl) (by kernel_rfl) a h
@[simp] theorem fa_164_5 (a : Value) (h : Heap) : fieldAddrR Prog 164 a 5 h = faR 5 1 a h := fa_is (ft := 65) (by kernel_rfl) (by kernel_rfl) a h
@[simp] theorem fa_273_2 (a : Value) (h : Heap) : fieldAddrR Prog 273 a 2 h = faR 2 1 a h := fa_is (ft := 68) (by kernel_rfl) (by kernel_rfl) a h
@[simp] theorem fa_273_0 (a : Value) (h : Heap) : fieldAddrR Prog 273 a 0 h = faR 0 1 a h := fa_is (ft := 28) (by kernel_rfl) (by kernel_rfl) a h
@[simp] theorem fa_273_3 (a : Value) (h : Heap) : fieldAddrR Prog 273 a 3 h = faR 3 1 a h := fa_is (ft := 68) (by kernel_rfl) (by kernel_rfl) a h
@[simp] theorem fa_273_4 (a : Value) (h : Heap) : fieldAddrR Prog 273 a 4 h = faR 4 1 a h := fa_is (ft := 3) (by kernel_rfl) (by kernel_rfl) a h
@[simp] theorem fa_164_0 (a : Value) (h : Heap) : fieldAddrR Prog 164 a 0 h = faR 0 1 a h := fa_is (ft := 3) (by kernel_rfl) (by kernel_rfl) a h
@[simp] theorem fa_164_4 (a : Value) (h : Heap) : fieldAddrR Prog 164 a 4 h = faR 4 1 a h := fa_is (ft := 65) (by kernel_rfl) (by kernel_rfl) a h
@[simp] theorem mk_65 (l c : Value) (h : Heap) : makeSliceV Prog 65 l c h = mkR 1 1 [.int .u8 0] l c h := mk_is (e := 5) (z := .int .u8 0) (by kernel_rfl) (by kernel_rfl) (by kernel_rfl) (by kernel_rfl) (by kernel_rfl) l c h
@[simp] theorem cv_120_21 (x : Value) (H : Heap) : convR Prog 120 21 x H = cvK .i32 x H := convR_int (by kernel_rfl) (by kernel_rfl) x H
@[simp] theorem cv_21_276 (x : Value) (H : Heap) : convR Prog 21 276 x H = cvK .u32 x H := convR_int (by kernel_rfl) (by kernel_rfl) x H
@[simp] theorem cv_276_3 (x : Value) (H : Heap) : convR Prog 276 3 x H = cvK .i64 x H := convR_int (by kernel_rfl) (by kernel_rfl) x H
@[simp] theorem mk_28 (l c : Value) (h : Heap) : makeSliceV Prog 28 l c h = mkR 1 8 [.int .i64 0] l c h := mk_is (e := 3) (z := .int .i64 0) (by kernel_rfl) (by kernel_rfl) (by kernel_rfl) (by kernel_rfl) (by kernel_rfl) l c h
@[simp] theorem fa_235_2 (a : Value) (h : Heap) : fieldAddrR Prog 235 a 2 h = faR 2 1 a h := fa_is (ft := 3) (by kernel_rfl) (by kernel_rfl) a h
@[simp] theorem fa_235_0 (a : Value) (h : Heap) : fieldAddrR Prog 235 a 0 h = faR 0 1 a h := fa_is (ft := 83) (by kernel_rfl) (by kernel_rfl) a h
@[simp] theorem len_301 (x : Value) (h : Heap) : builtinV Prog .len [301] [x] h = lnS x h := lnS_eq (e := 83) (by kernel_rfl) x h
@[simp] theorem ix_301 (x i : Value) (h : Heap) : indexAddrR Prog 301 x i h = ixS 1 x i h := ixS_eq (e := 83) (by kernel_rfl) (by kernel_rfl) x i h
@[simp] theorem st_28 (a v : Value) (h : Heap) : storeR Prog 28 a v h = stR 1 a v h := st_eq (by kernel_rfl) a v h
@[simp] theorem ap_226 (a b : Value) (h : Heap) : builtinV Prog .append [226, 226] [a, b] h = apR 3 40 a b h := ap_is (e := 230) (z := .agg #[.int .i64 0, .int .i64 0, .slice none 0 0]) (by kernel_rfl) (by kernel_rfl) (by kernel_rfl) (by kernel_rfl) (by kernel_rfl) a b h
@[simp] theorem bd_233 (ps : List (Nat × Value)) (h : Heap) : buildR Prog 233 ps h = bdR [] ps [] h := bd_is (z := .agg #[]) (by kernel_rfl) (by kernel_rfl) (by kernel_rfl) ps h
@[simp] theorem if_233 (x : Value) (h : Heap) : ifaceR Prog 233 x h = .ok (.iface 233 x) h := by kernel_rfl
@[simp] theorem bd_244 (ps : List (Nat × Value)) (h : Heap) : buildR Prog 244 ps h = bdR [(0, 1), (1, 1), (2, 1), (3, 1), (4, 1)] ps [.int .i64 0, .int .i64 0, .int .i64 0, .int .i64 0, .int .i64 0] h := bd_is (z := .agg #[.int .i64 0, .int .i64 0, .int .i64 0, .int .i64 0, .int .i64 0]) (by kernel_rfl) (by kernel_rfl) (by kernel_rfl) ps h
@[simp] theorem be_86_1 (ps : List (Nat × Value)) (h : Heap) : buildSliceR Prog 86 1 ps h = beR 5 1 ps [.int .i64 0, .int .i64 0, .int .i64 0, .int .i64 0, .int .i64 0] h := be_eq (e := 244) (by kernel_rfl) (by kernel_rfl) (by kernel_rfl) (by kernel_rfl) ps h
@[simp] theorem be_86_0 (ps : List (Nat × Value)) (h : Heap) : buildSliceR Prog 86 0 ps h = beR 5 0 ps [] h := be_eq (e := 244) (by kernel_rfl) (by kernel_rfl) (by kernel_rfl) (by kernel_rfl) ps h
@[simp] theorem ap_86 (a b : Value) (h : Heap) : builtinV Prog .append [86, 86] [a, b] h = apR 5 40 a b h := ap_is (e := 244) (z := .agg #[.int .i64 0, .int .i64 0, .int .i64 0, .int .i64 0, .int .i64 0]) (by kernel_rfl) (by kernel_rfl) (by kernel_rfl) (by kernel_rfl) (by kernel_rfl) a b h
@[simp] theorem fa_83_0 (a : Value) (h : Heap) : fieldAddrR Prog 83 a 0 h = faR 0 1 a h := fa_is (ft := 65) (by kernel_rfl) (by kernel_rfl) a h
@[simp] theorem cv_3_120 (x : Value) (H : Heap) : convR Prog 3 120 x H = cvK .i16 x H := convR_int (by kernel_rfl) (by kernel_rfl) x H
@[simp] theorem fa_273_5 (a : Value) (h : Heap) : fieldAddrR Prog 273 a 5 h = faR 5 1 a h := fa_is (ft := 3) (by kernel_rfl) (by kernel_rfl) a h
@[simp] theorem fa_273_1 (a : Value) (h : Heap) : fieldAddrR Prog 273 a 1 h = faR 1 1 a h := fa_is (ft := 83) (by kernel_rfl) (by kernel_rfl) a h
@[simp] theorem bd_273 (ps : List (Nat × Value)) (h : Heap) : buildR Prog 273 ps h = bdR [(0, 1), (1, 1), (2, 1), (3, 1), (4, 1), (5, 1)] ps [.slice none 0 0, .slice none 0 0, .pointer none, .pointer none, .int .i64 0, .int .i64 0] h := bd_is (z := .agg #[.slice none 0 0, .slice none 0 0, .pointer none, .pointer none, .int .i64 0, .int .i64 0]) (by kernel_rfl) (by kernel_rfl) (by kernel_rfl) ps h
@[simp] theorem be_28_0 (ps : List (Nat × Value)) (h : Heap) : buildSliceR Prog 28 0 ps h = beR 1 0 ps [] h := be_eq (e := 3) (by kernel_rfl) (by kernel_rfl) (by kernel_rfl) (by kernel_rfl) ps h
@[simp] theorem be_301_1 (ps : List (Nat × Value)) (h : Heap) : buildSliceR Prog 301 1 ps h = beR 1 1 ps [.slice none 0 0] h := be_eq (e := 83) (by kernel_rfl) (by kernel_rfl) (by kernel_rfl) (by kernel_rfl) ps h
@[simp] theorem ap_301 (a b : Value) (h : Heap) : builtinV Prog .append [301, 301] [a, b] h = apR 1 24 a b h := ap_is (e := 83) (z := .agg #[.slice none 0 0]) (by kernel_rfl) (by kernel_rfl) (by kernel_rfl) (by kernel_rfl) (by kernel_rfl) a b h
@[simp] theorem sl_301 (x : Value) (lo hi mx : Option Value) (h : Heap) : sliceR Prog 301 x lo hi mx h = slS 1 x lo hi mx h := slS_eq (e := 83) (by kernel_rfl) (by kernel_rfl) x lo hi mx h
@[simp] theorem sl_28 (x : Value) (lo hi mx : Option Value) (h : Heap) : sliceR Prog 28 x lo hi mx h = slS 1 x lo hi mx h := slS_eq (e := 3) (by kernel_rfl) (by kernel_rfl) x lo hi mx h
end
end Go.Sw
