/-
  The seat's functions by their names, and facts of their types.
-/
import Derived.Test.YtnaodjnimkndbaaSwLib7
import Derived.Test.YtnaodjnimkndbaaRows
namespace Go.Sw
noncomputable section
noncomputable abbrev Prog : Program := Go.Proofs.Try.prog
namespace F
abbrev swashlaw11_LineOwn : Nat := 7
abbrev swashlaw11_LineInserts : Nat := 8
abbrev swashlaw11_speaks : Nat := 62
abbrev line_Of : Nat := 63
abbrev line_Line_Glyphs : Nat := 64
abbrev swashref11_Same : Nat := 65
abbrev line_Line_Insert : Nat := 66
abbrev line_Line_At : Nat := 89
abbrev slices_Clone_of_api_Place_api_Place : Nat := 147
abbrev slices_Clone_of_api_Glyph_api_Glyph : Nat := 151
abbrev slices_Insert_of_api_Glyph_api_Glyph : Nat := 152
abbrev view_Need : Nat := 166
abbrev view_Fail : Nat := 167
abbrev line_Line_in : Nat := 180
end F
def kp2 : List (Nat × List Nat) := [(0, [])]
def kp3 : List (Nat × List Nat) := []
def kp4 : List (Nat × List Nat) := []
def kp5 : List (Nat × List Nat) := []
def kp6 : List (Nat × List Nat) := []
def kp7 : List (Nat × List Nat) := [(0, [0]), (1, [0, 9]), (2, [2]), (3, [0, 12]), (4, [2]), (5, [0, 3]), (6, [0, 3, 4]), (7, [0, 3, 4, 5]), (8, [0, 3, 4, 5, 21, 22]), (9, [0, 3, 4, 5, 21, 22, 23]), (10, [0, 3, 4, 5, 6, 21, 22]), (11, [0, 3, 4, 5, 21, 22]), (12, [0, 3, 4, 5, 21, 22]), (13, [0, 4, 5, 35, 36]), (14, [0, 4, 5, 35, 36, 37]), (15, [0, 4, 5, 7, 35, 36]), (16, [0, 4, 5, 35, 36]), (17, [0, 4, 5, 35, 36]), (18, [2]), (1000009, [0, 3, 4, 5, 21, 22]), (1000014, [0, 4, 5, 35, 36])]
def kp8 : List (Nat × List Nat) := [(0, [0, 1, 2]), (1, [0, 1, 2, 12]), (2, [6]), (3, [0, 1, 2, 20]), (4, [6]), (5, [0, 1, 2, 7]), (6, [0, 1, 2, 7, 30]), (7, [6]), (8, [0, 1, 2, 7, 46]), (9, [6]), (10, [0, 1, 2, 8]), (11, [1, 2, 8, 79]), (12, [6]), (13, [1, 8, 80, 81, 82]), (14, [1, 8, 80, 81, 82, 83]), (15, [1, 8, 9, 10, 80, 81, 82]), (16, [1, 8, 80, 81, 82, 110]), (17, [6]), (18, [1, 8, 80, 81, 82]), (19, [6]), (1000014, [1, 8, 80, 81, 82])]
def kp9 : List (Nat × List Nat) := []
def kp10 : List (Nat × List Nat) := []
def kp11 : List (Nat × List Nat) := []
def kp12 : List (Nat × List Nat) := []
def kp13 : List (Nat × List Nat) := []
def kp14 : List (Nat × List Nat) := []
def kp15 : List (Nat × List Nat) := []
def kp16 : List (Nat × List Nat) := []
def kp17 : List (Nat × List Nat) := []
def kp18 : List (Nat × List Nat) := []
def kp19 : List (Nat × List Nat) := []
def kp20 : List (Nat × List Nat) := []
def kp21 : List (Nat × List Nat) := []
def kp22 : List (Nat × List Nat) := []
def kp23 : List (Nat × List Nat) := []
def kp24 : List (Nat × List Nat) := []
def kp25 : List (Nat × List Nat) := []
def kp26 : List (Nat × List Nat) := []
def kp27 : List (Nat × List Nat) := []
def kp28 : List (Nat × List Nat) := []
def kp29 : List (Nat × List Nat) := []
def kp30 : List (Nat × List Nat) := []
def kp31 : List (Nat × List Nat) := []
def kp32 : List (Nat × List Nat) := []
def kp33 : List (Nat × List Nat) := []
def kp34 : List (Nat × List Nat) := []
def kp35 : List (Nat × List Nat) := []
def kp36 : List (Nat × List Nat) := []
def kp37 : List (Nat × List Nat) := []
def kp38 : List (Nat × List Nat) := []
def kp39 : List (Nat × List Nat) := []
def kp40 : List (Nat × List Nat) := []
def kp41 : List (Nat × List Nat) := []
def kp42 : List (Nat × List Nat) := []
def kp43 : List (Nat × List Nat) := [(0, []), (1, [1]), (2, [1, 11]), (3, [0]), (4, [1]), (5, [1]), (6, [2]), (7, [0])]
def kp44 : List (Nat × List Nat) := []
def kp45 : List (Nat × List Nat) := []
def kp46 : List (Nat × List Nat) := []
def kp47 : List (Nat × List Nat) := []
def kp48 : List (Nat × List Nat) := []
def kp49 : List (Nat × List Nat) := []
def kp50 : List (Nat × List Nat) := []
def kp51 : List (Nat × List Nat) := []
def kp52 : List (Nat × List Nat) := []
def kp53 : List (Nat × List Nat) := []
def kp54 : List (Nat × List Nat) := []
def kp55 : List (Nat × List Nat) := []
def kp56 : List (Nat × List Nat) := []
def kp57 : List (Nat × List Nat) := []
def kp58 : List (Nat × List Nat) := []
def kp59 : List (Nat × List Nat) := []
def kp60 : List (Nat × List Nat) := []
def kp61 : List (Nat × List Nat) := []
def kp62 : List (Nat × List Nat) := [(0, []), (1, [1]), (2, [1, 18]), (3, [0]), (4, [1, 2, 3]), (5, [0])]
def kp63 : List (Nat × List Nat) := [(0, [0]), (1, [2])]
def kp64 : List (Nat × List Nat) := [(0, [0]), (1, [2])]
def kp65 : List (Nat × List Nat) := [(0, [0, 1]), (1, [0, 1, 10]), (2, [4]), (3, [0, 1, 5]), (4, [0, 1, 5, 14]), (5, [0, 1, 5]), (6, [0, 1, 5, 25]), (7, [4]), (8, [4]), (1000004, [0, 1, 5])]
def kp66 : List (Nat × List Nat) := [(0, [0, 1, 2]), (1, [0, 1, 2, 22]), (2, [6]), (3, [0, 1, 2, 7, 8]), (4, [0, 1, 2, 7, 30]), (5, [0, 1, 2, 7]), (6, [0, 1, 2, 7, 9]), (7, [0, 1, 7, 9, 38, 39, 40]), (8, [0, 1, 7, 9, 38, 39, 40, 41]), (9, [0, 1, 7, 9, 11, 38, 39, 40]), (10, [0, 1, 7, 9, 38, 39, 40]), (11, [0, 1, 7, 9, 38, 39, 40]), (12, []), (13, [6]), (1000008, [0, 1, 7, 9, 38, 39, 40])]
def kp67 : List (Nat × List Nat) := []
def kp68 : List (Nat × List Nat) := []
def kp69 : List (Nat × List Nat) := [(0, []), (1, [1, 2]), (2, [1, 17]), (3, [0]), (4, [1, 3, 4]), (5, [1, 3, 4, 6]), (6, [0])]
def kp70 : List (Nat × List Nat) := []
def kp71 : List (Nat × List Nat) := []
def kp72 : List (Nat × List Nat) := []
def kp73 : List (Nat × List Nat) := []
def kp74 : List (Nat × List Nat) := []
def kp75 : List (Nat × List Nat) := []
def kp76 : List (Nat × List Nat) := []
def kp77 : List (Nat × List Nat) := [(0, [0, 2]), (1, [0, 2]), (2, [2]), (3, [2])]
def kp78 : List (Nat × List Nat) := []
def kp79 : List (Nat × List Nat) := []
def kp80 : List (Nat × List Nat) := []
def kp81 : List (Nat × List Nat) := []
def kp82 : List (Nat × List Nat) := []
def kp83 : List (Nat × List Nat) := []
def kp84 : List (Nat × List Nat) := []
def kp85 : List (Nat × List Nat) := [(0, [0]), (1, [0, 3]), (2, [3, 8, 9, 10]), (3, [3, 8, 9, 10, 11]), (4, [3, 4, 5, 8, 9, 10]), (5, [3, 8, 9, 10]), (6, [3, 8, 9, 10]), (7, [2]), (1000003, [3, 8, 9, 10])]
def kp86 : List (Nat × List Nat) := []
def kp87 : List (Nat × List Nat) := []
def kp88 : List (Nat × List Nat) := [(0, [0]), (1, [2])]
def kp89 : List (Nat × List Nat) := [(0, [0, 1, 4]), (1, [0, 1, 4, 9]), (2, [4, 5]), (3, [4, 5])]
def kp90 : List (Nat × List Nat) := [(0, []), (1, [1, 2]), (2, [1, 14]), (3, [0]), (4, [1, 3]), (5, [0])]
def kp91 : List (Nat × List Nat) := []
def kp92 : List (Nat × List Nat) := []
def kp93 : List (Nat × List Nat) := []
def kp94 : List (Nat × List Nat) := []
def kp95 : List (Nat × List Nat) := []
def kp96 : List (Nat × List Nat) := []
def kp97 : List (Nat × List Nat) := [(0, []), (1, [1, 2]), (2, [1, 19]), (3, [0]), (4, [1, 3, 4]), (5, [0])]
def kp98 : List (Nat × List Nat) := []
def kp99 : List (Nat × List Nat) := []
def kp100 : List (Nat × List Nat) := []
def kp101 : List (Nat × List Nat) := []
def kp102 : List (Nat × List Nat) := []
def kp103 : List (Nat × List Nat) := []
def kp104 : List (Nat × List Nat) := [(0, []), (1, [1]), (2, [2, 3]), (3, [2, 24]), (4, [0]), (5, [2, 4, 5]), (6, [0])]
def kp105 : List (Nat × List Nat) := []
def kp106 : List (Nat × List Nat) := []
def kp107 : List (Nat × List Nat) := []
def kp108 : List (Nat × List Nat) := []
def kp109 : List (Nat × List Nat) := []
def kp110 : List (Nat × List Nat) := []
def kp111 : List (Nat × List Nat) := []
def kp112 : List (Nat × List Nat) := []
def kp113 : List (Nat × List Nat) := []
def kp114 : List (Nat × List Nat) := []
def kp115 : List (Nat × List Nat) := []
def kp116 : List (Nat × List Nat) := []
def kp117 : List (Nat × List Nat) := []
def kp118 : List (Nat × List Nat) := []
def kp119 : List (Nat × List Nat) := [(0, []), (1, [1, 2]), (2, [0])]
def kp120 : List (Nat × List Nat) := []
def kp121 : List (Nat × List Nat) := []
def kp122 : List (Nat × List Nat) := []
def kp123 : List (Nat × List Nat) := []
def kp124 : List (Nat × List Nat) := []
def kp125 : List (Nat × List Nat) := []
def kp126 : List (Nat × List Nat) := []
def kp127 : List (Nat × List Nat) := []
def kp128 : List (Nat × List Nat) := [(0, []), (1, [1]), (2, [0])]
def kp129 : List (Nat × List Nat) := []
def kp130 : List (Nat × List Nat) := []
def kp131 : List (Nat × List Nat) := []
def kp132 : List (Nat × List Nat) := []
def kp133 : List (Nat × List Nat) := [(0, []), (1, [1]), (2, [2, 3]), (3, [2, 27]), (4, [0]), (5, [2, 4]), (6, [0])]
def kp134 : List (Nat × List Nat) := []
def kp135 : List (Nat × List Nat) := []
def kp136 : List (Nat × List Nat) := []
def kp137 : List (Nat × List Nat) := []
def kp138 : List (Nat × List Nat) := []
def kp139 : List (Nat × List Nat) := []
def kp140 : List (Nat × List Nat) := []
def kp141 : List (Nat × List Nat) := []
def kp142 : List (Nat × List Nat) := [(0, []), (1, [1]), (2, [2, 3]), (3, [2, 25]), (4, [0]), (5, [2, 4]), (6, [0])]
def kp143 : List (Nat × List Nat) := []
def kp144 : List (Nat × List Nat) := []
def kp145 : List (Nat × List Nat) := []
def kp146 : List (Nat × List Nat) := []
def kp147 : List (Nat × List Nat) := [(0, [0]), (1, [0, 4]), (2, [2]), (3, [2])]
def kp148 : List (Nat × List Nat) := []
def kp149 : List (Nat × List Nat) := []
def kp150 : List (Nat × List Nat) := []
def kp151 : List (Nat × List Nat) := [(0, [0]), (1, [0, 4]), (2, [2]), (3, [2])]
def kp152 : List (Nat × List Nat) := [(0, [0, 1, 2]), (1, [0, 1, 2]), (2, [0, 1, 2, 7]), (3, [0, 1, 2, 7, 16]), (4, [6]), (5, [0, 1, 2, 7, 8]), (6, [0, 1, 2, 7, 8, 22]), (7, [6]), (8, [0, 1, 2, 7, 8, 31]), (9, [0, 1, 2, 7, 9]), (10, [0, 1, 7, 9]), (11, [9]), (12, [6]), (13, [0, 1, 2, 7, 8]), (14, [0, 1, 2, 7, 8, 68]), (15, [0, 1, 2]), (16, [0]), (17, [6]), (18, [0, 1, 7]), (19, [0]), (20, [6])]
def kp153 : List (Nat × List Nat) := []
def kp154 : List (Nat × List Nat) := []
def kp155 : List (Nat × List Nat) := []
def kp156 : List (Nat × List Nat) := []
def kp157 : List (Nat × List Nat) := []
def kp158 : List (Nat × List Nat) := []
def kp159 : List (Nat × List Nat) := []
def kp160 : List (Nat × List Nat) := [(0, [0, 4]), (1, [3]), (2, []), (3, [0, 4, 6]), (4, []), (5, [0, 4, 8, 9]), (6, [0]), (7, [])]
def kp161 : List (Nat × List Nat) := []
def kp162 : List (Nat × List Nat) := []
def kp163 : List (Nat × List Nat) := []
def kp164 : List (Nat × List Nat) := []
def kp165 : List (Nat × List Nat) := []
def kp166 : List (Nat × List Nat) := [(0, [3]), (1, [])]
def kp167 : List (Nat × List Nat) := [(0, [])]
def kp168 : List (Nat × List Nat) := []
def kp169 : List (Nat × List Nat) := []
def kp170 : List (Nat × List Nat) := []
def kp171 : List (Nat × List Nat) := []
def kp172 : List (Nat × List Nat) := []
def kp173 : List (Nat × List Nat) := []
def kp174 : List (Nat × List Nat) := []
def kp175 : List (Nat × List Nat) := []
def kp176 : List (Nat × List Nat) := []
def kp177 : List (Nat × List Nat) := []
def kp178 : List (Nat × List Nat) := []
def kp179 : List (Nat × List Nat) := []
def kp180 : List (Nat × List Nat) := [(0, [0, 1]), (1, [4])]
def kp181 : List (Nat × List Nat) := []
def kp182 : List (Nat × List Nat) := []
def kp183 : List (Nat × List Nat) := []
def kp184 : List (Nat × List Nat) := []
def kp185 : List (Nat × List Nat) := []
def kp186 : List (Nat × List Nat) := []
def kp187 : List (Nat × List Nat) := []
def kp188 : List (Nat × List Nat) := []
def kp189 : List (Nat × List Nat) := []
def kp190 : List (Nat × List Nat) := []
def kp191 : List (Nat × List Nat) := []
def kp192 : List (Nat × List Nat) := []
def kp193 : List (Nat × List Nat) := []
def kp194 : List (Nat × List Nat) := []
def kp195 : List (Nat × List Nat) := []
def kp196 : List (Nat × List Nat) := []
def kp197 : List (Nat × List Nat) := []
def kp198 : List (Nat × List Nat) := []
def kp199 : List (Nat × List Nat) := []
def kp200 : List (Nat × List Nat) := []
def kp201 : List (Nat × List Nat) := []
def kp202 : List (Nat × List Nat) := []
def kp203 : List (Nat × List Nat) := []
def kp204 : List (Nat × List Nat) := []
def kp205 : List (Nat × List Nat) := []
def kp206 : List (Nat × List Nat) := []
def kp207 : List (Nat × List Nat) := []
def kp208 : List (Nat × List Nat) := []
def kp209 : List (Nat × List Nat) := []
def kp210 : List (Nat × List Nat) := []
def kp211 : List (Nat × List Nat) := []
def kp212 : List (Nat × List Nat) := []
def kp213 : List (Nat × List Nat) := []
def kp214 : List (Nat × List Nat) := []
def kp215 : List (Nat × List Nat) := []
def kp216 : List (Nat × List Nat) := []
def kp218 : List (Nat × List Nat) := [(0, [])]
def kp219 : List (Nat × List Nat) := []
def kp220 : List (Nat × List Nat) := []
def kp221 : List (Nat × List Nat) := []
def kp222 : List (Nat × List Nat) := []
def kp223 : List (Nat × List Nat) := []
def kp224 : List (Nat × List Nat) := []
def kp225 : List (Nat × List Nat) := []
def kp226 : List (Nat × List Nat) := []
def kp227 : List (Nat × List Nat) := []
def kp228 : List (Nat × List Nat) := []
def kp229 : List (Nat × List Nat) := []
def kp230 : List (Nat × List Nat) := []
def kp231 : List (Nat × List Nat) := []
def kp232 : List (Nat × List Nat) := []
def kp233 : List (Nat × List Nat) := [(0, [0, 1, 2]), (1, [0, 1, 2, 7]), (2, [0, 1, 2, 7, 11, 12]), (3, [0, 1, 2, 7, 11, 12, 13]), (4, [0, 1, 2, 7, 8, 11, 12]), (5, [0, 1, 2, 7, 8, 11, 12, 15]), (6, [0, 1, 2, 7, 11, 12]), (7, [0, 1, 2, 7, 11, 12]), (8, [0, 1, 2, 7, 11, 12]), (9, [6]), (1000003, [0, 1, 2, 7, 11, 12])]
def kp234 : List (Nat × List Nat) := [(0, [0, 1]), (1, [0]), (2, [])]
def kp235 : List (Nat × List Nat) := []
def kp236 : List (Nat × List Nat) := []
def kpT (f : Nat) : List (Nat × List Nat) :=
 bif Nat.blt f 127 then (bif Nat.blt f 63 then (bif Nat.blt f 31 then (bif Nat.blt f 15 then (bif Nat.blt f 7 then (bif Nat.blt f 3 then (bif Nat.blt f 1 then ([]) else (bif Nat.blt f 2 then ([]) else (kp2))) else (bif Nat.blt f 5 then (bif Nat.blt f 4 then (kp3) else (kp4)) else (bif Nat.blt f 6 then (kp5) else (kp6)))) else (bif Nat.blt f 11 then (bif Nat.blt f 9 then (bif Nat.blt f 8 then (kp7) else (kp8)) else (bif Nat.blt f 10 then (kp9) else (kp10))) else (bif Nat.blt f 13 then (bif Nat.blt f 12 then (kp11) else (kp12)) else (bif Nat.blt f 14 then (kp13) else (kp14))))) else (bif Nat.blt f 23 then (bif Nat.blt f 19 then (bif Nat.blt f 17 then (bif Nat.blt f 16 then (kp15) else (kp16)) else (bif Nat.blt f 18 then (kp17) else (kp18))) else (bif Nat.blt f 21 then (bif Nat.blt f 20 then (kp19) else (kp20)) else (bif Nat.blt f 22 then (kp21) else (kp22)))) else (bif Nat.blt f 27 then (bif Nat.blt f 25 then (bif Nat.blt f 24 then (kp23) else (kp24)) else (bif Nat.blt f 26 then (kp25) else (kp26))) else (bif Nat.blt f 29 then (bif Nat.blt f 28 then (kp27) else (kp28)) else (bif Nat.blt f 30 then (kp29) else (kp30)))))) else (bif Nat.blt f 47 then (bif Nat.blt f 39 then (bif Nat.blt f 35 then (bif Nat.blt f 33 then (bif Nat.blt f 32 then (kp31) else (kp32)) else (bif Nat.blt f 34 then (kp33) else (kp34))) else (bif Nat.blt f 37 then (bif Nat.blt f 36 then (kp35) else (kp36)) else (bif Nat.blt f 38 then (kp37) else (kp38)))) else (bif Nat.blt f 43 then (bif Nat.blt f 41 then (bif Nat.blt f 40 then (kp39) else (kp40)) else (bif Nat.blt f 42 then (kp41) else (kp42))) else (bif Nat.blt f 45 then (bif Nat.blt f 44 then (kp43) else (kp44)) else (bif Nat.blt f 46 then (kp45) else (kp46))))) else (bif Nat.blt f 55 then (bif Nat.blt f 51 then (bif Nat.blt f 49 then (bif Nat.blt f 48 then (kp47) else (kp48)) else (bif Nat.blt f 50 then (kp49) else (kp50))) else (bif Nat.blt f 53 then (bif Nat.blt f 52 then (kp51) else (kp52)) else (bif Nat.blt f 54 then (kp53) else (kp54)))) else (bif Nat.blt f 59 then (bif Nat.blt f 57 then (bif Nat.blt f 56 then (kp55) else (kp56)) else (bif Nat.blt f 58 then (kp57) else (kp58))) else (bif Nat.blt f 61 then (bif Nat.blt f 60 then (kp59) else (kp60)) else (bif Nat.blt f 62 then (kp61) else (kp62))))))) else (bif Nat.blt f 95 then (bif Nat.blt f 79 then (bif Nat.blt f 71 then (bif Nat.blt f 67 then (bif Nat.blt f 65 then (bif Nat.blt f 64 then (kp63) else (kp64)) else (bif Nat.blt f 66 then (kp65) else (kp66))) else (bif Nat.blt f 69 then (bif Nat.blt f 68 then (kp67) else (kp68)) else (bif Nat.blt f 70 then (kp69) else (kp70)))) else (bif Nat.blt f 75 then (bif Nat.blt f 73 then (bif Nat.blt f 72 then (kp71) else (kp72)) else (bif Nat.blt f 74 then (kp73) else (kp74))) else (bif Nat.blt f 77 then (bif Nat.blt f 76 then (kp75) else (kp76)) else (bif Nat.blt f 78 then (kp77) else (kp78))))) else (bif Nat.blt f 87 then (bif Nat.blt f 83 then (bif Nat.blt f 81 then (bif Nat.blt f 80 then (kp79) else (kp80)) else (bif Nat.blt f 82 then (kp81) else (kp82))) else (bif Nat.blt f 85 then (bif Nat.blt f 84 then (kp83) else (kp84)) else (bif Nat.blt f 86 then (kp85) else (kp86)))) else (bif Nat.blt f 91 then (bif Nat.blt f 89 then (bif Nat.blt f 88 then (kp87) else (kp88)) else (bif Nat.blt f 90 then (kp89) else (kp90))) else (bif Nat.blt f 93 then (bif Nat.blt f 92 then (kp91) else (kp92)) else (bif Nat.blt f 94 then (kp93) else (kp94)))))) else (bif Nat.blt f 111 then (bif Nat.blt f 103 then (bif Nat.blt f 99 then (bif Nat.blt f 97 then (bif Nat.blt f 96 then (kp95) else (kp96)) else (bif Nat.blt f 98 then (kp97) else (kp98))) else (bif Nat.blt f 101 then (bif Nat.blt f 100 then (kp99) else (kp100)) else (bif Nat.blt f 102 then (kp101) else (kp102)))) else (bif Nat.blt f 107 then (bif Nat.blt f 105 then (bif Nat.blt f 104 then (kp103) else (kp104)) else (bif Nat.blt f 106 then (kp105) else (kp106))) else (bif Nat.blt f 109 then (bif Nat.blt f 108 then (kp107) else (kp108)) else (bif Nat.blt f 110 then (kp109) else (kp110))))) else (bif Nat.blt f 119 then (bif Nat.blt f 115 then (bif Nat.blt f 113 then (bif Nat.blt f 112 then (kp111) else (kp112)) else (bif Nat.blt f 114 then (kp113) else (kp114))) else (bif Nat.blt f 117 then (bif Nat.blt f 116 then (kp115) else (kp116)) else (bif Nat.blt f 118 then (kp117) else (kp118)))) else (bif Nat.blt f 123 then (bif Nat.blt f 121 then (bif Nat.blt f 120 then (kp119) else (kp120)) else (bif Nat.blt f 122 then (kp121) else (kp122))) else (bif Nat.blt f 125 then (bif Nat.blt f 124 then (kp123) else (kp124)) else (bif Nat.blt f 126 then (kp125) else (kp126)))))))) else (bif Nat.blt f 191 then (bif Nat.blt f 159 then (bif Nat.blt f 143 then (bif Nat.blt f 135 then (bif Nat.blt f 131 then (bif Nat.blt f 129 then (bif Nat.blt f 128 then (kp127) else (kp128)) else (bif Nat.blt f 130 then (kp129) else (kp130))) else (bif Nat.blt f 133 then (bif Nat.blt f 132 then (kp131) else (kp132)) else (bif Nat.blt f 134 then (kp133) else (kp134)))) else (bif Nat.blt f 139 then (bif Nat.blt f 137 then (bif Nat.blt f 136 then (kp135) else (kp136)) else (bif Nat.blt f 138 then (kp137) else (kp138))) else (bif Nat.blt f 141 then (bif Nat.blt f 140 then (kp139) else (kp140)) else (bif Nat.blt f 142 then (kp141) else (kp142))))) else (bif Nat.blt f 151 then (bif Nat.blt f 147 then (bif Nat.blt f 145 then (bif Nat.blt f 144 then (kp143) else (kp144)) else (bif Nat.blt f 146 then (kp145) else (kp146))) else (bif Nat.blt f 149 then (bif Nat.blt f 148 then (kp147) else (kp148)) else (bif Nat.blt f 150 then (kp149) else (kp150)))) else (bif Nat.blt f 155 then (bif Nat.blt f 153 then (bif Nat.blt f 152 then (kp151) else (kp152)) else (bif Nat.blt f 154 then (kp153) else (kp154))) else (bif Nat.blt f 157 then (bif Nat.blt f 156 then (kp155) else (kp156)) else (bif Nat.blt f 158 then (kp157) else (kp158)))))) else (bif Nat.blt f 175 then (bif Nat.blt f 167 then (bif Nat.blt f 163 then (bif Nat.blt f 161 then (bif Nat.blt f 160 then (kp159) else (kp160)) else (bif Nat.blt f 162 then (kp161) else (kp162))) else (bif Nat.blt f 165 then (bif Nat.blt f 164 then (kp163) else (kp164)) else (bif Nat.blt f 166 then (kp165) else (kp166)))) else (bif Nat.blt f 171 then (bif Nat.blt f 169 then (bif Nat.blt f 168 then (kp167) else (kp168)) else (bif Nat.blt f 170 then (kp169) else (kp170))) else (bif Nat.blt f 173 then (bif Nat.blt f 172 then (kp171) else (kp172)) else (bif Nat.blt f 174 then (kp173) else (kp174))))) else (bif Nat.blt f 183 then (bif Nat.blt f 179 then (bif Nat.blt f 177 then (bif Nat.blt f 176 then (kp175) else (kp176)) else (bif Nat.blt f 178 then (kp177) else (kp178))) else (bif Nat.blt f 181 then (bif Nat.blt f 180 then (kp179) else (kp180)) else (bif Nat.blt f 182 then (kp181) else (kp182)))) else (bif Nat.blt f 187 then (bif Nat.blt f 185 then (bif Nat.blt f 184 then (kp183) else (kp184)) else (bif Nat.blt f 186 then (kp185) else (kp186))) else (bif Nat.blt f 189 then (bif Nat.blt f 188 then (kp187) else (kp188)) else (bif Nat.blt f 190 then (kp189) else (kp190))))))) else (bif Nat.blt f 223 then (bif Nat.blt f 207 then (bif Nat.blt f 199 then (bif Nat.blt f 195 then (bif Nat.blt f 193 then (bif Nat.blt f 192 then (kp191) else (kp192)) else (bif Nat.blt f 194 then (kp193) else (kp194))) else (bif Nat.blt f 197 then (bif Nat.blt f 196 then (kp195) else (kp196)) else (bif Nat.blt f 198 then (kp197) else (kp198)))) else (bif Nat.blt f 203 then (bif Nat.blt f 201 then (bif Nat.blt f 200 then (kp199) else (kp200)) else (bif Nat.blt f 202 then (kp201) else (kp202))) else (bif Nat.blt f 205 then (bif Nat.blt f 204 then (kp203) else (kp204)) else (bif Nat.blt f 206 then (kp205) else (kp206))))) else (bif Nat.blt f 215 then (bif Nat.blt f 211 then (bif Nat.blt f 209 then (bif Nat.blt f 208 then (kp207) else (kp208)) else (bif Nat.blt f 210 then (kp209) else (kp210))) else (bif Nat.blt f 213 then (bif Nat.blt f 212 then (kp211) else (kp212)) else (bif Nat.blt f 214 then (kp213) else (kp214)))) else (bif Nat.blt f 219 then (bif Nat.blt f 217 then (bif Nat.blt f 216 then (kp215) else (kp216)) else (bif Nat.blt f 218 then ([]) else (kp218))) else (bif Nat.blt f 221 then (bif Nat.blt f 220 then (kp219) else (kp220)) else (bif Nat.blt f 222 then (kp221) else (kp222)))))) else (bif Nat.blt f 239 then (bif Nat.blt f 231 then (bif Nat.blt f 227 then (bif Nat.blt f 225 then (bif Nat.blt f 224 then (kp223) else (kp224)) else (bif Nat.blt f 226 then (kp225) else (kp226))) else (bif Nat.blt f 229 then (bif Nat.blt f 228 then (kp227) else (kp228)) else (bif Nat.blt f 230 then (kp229) else (kp230)))) else (bif Nat.blt f 235 then (bif Nat.blt f 233 then (bif Nat.blt f 232 then (kp231) else (kp232)) else (bif Nat.blt f 234 then (kp233) else (kp234))) else (bif Nat.blt f 237 then (bif Nat.blt f 236 then (kp235) else (kp236)) else ([])))) else ([]))))
def kpLook (id : Nat) : List (Nat × List Nat) → List Nat
 | [] => []
 | (i, l) :: r => bif Nat.beq i id then l else kpLook id r
def kpS (f id : Nat) : List Nat := kpLook id (kpT f)
def speaksT : List Nat := [43, 62, 69, 90, 97, 104, 119, 128, 133, 142]
abbrev shortT : Nat := 233
def moreS (f : Nat) : Option Sp := bif Nat.beq f 77 then some (tryV 233) else bif Nat.beq f 147 then some (fun _ args H => cloneV 3 12 args H) else bif Nat.beq f 151 then some (fun _ args H => cloneV 2 16 args H) else bif Nat.beq f 152 then some (fun _ args H => insertV 2 16 args H) else none
def ownersW : List Nat := [999999, 133]
def ownW (k : Nat) : Mode := bif ownersW.contains (k % 1000000) then .no else .fz
def mdS (k f : Nat) : Mode := bif Nat.blt f 127 then (bif Nat.blt f 63 then (bif Nat.blt f 31 then (bif Nat.blt f 15 then (bif Nat.blt f 7 then (bif Nat.blt f 3 then (bif Nat.blt f 1 then (.gc) else (bif Nat.blt f 2 then (.gc) else (.no))) else (.gc)) else (.gc)) else (.gc)) else (bif Nat.blt f 47 then (.gc) else (bif Nat.blt f 55 then (bif Nat.blt f 51 then (bif Nat.blt f 49 then (bif Nat.blt f 48 then (.gc) else (.no)) else (bif Nat.blt f 50 then (own k) else (.gc))) else (bif Nat.blt f 53 then (bif Nat.blt f 52 then (.fz) else (.no)) else (bif Nat.blt f 54 then (.fz) else (.no)))) else (bif Nat.blt f 59 then (bif Nat.blt f 57 then (bif Nat.blt f 56 then (.fz) else (.no)) else (bif Nat.blt f 58 then (.fz) else (.no))) else (bif Nat.blt f 61 then (bif Nat.blt f 60 then (.no) else (.fz)) else (.gc)))))) else (bif Nat.blt f 95 then (bif Nat.blt f 79 then (bif Nat.blt f 71 then (bif Nat.blt f 67 then (bif Nat.blt f 65 then (bif Nat.blt f 64 then (.no) else (own k)) else (bif Nat.blt f 66 then (.fz) else (.no))) else (bif Nat.blt f 69 then (.no) else (bif Nat.blt f 70 then (.gc) else (.fz)))) else (bif Nat.blt f 75 then (bif Nat.blt f 73 then (.fz) else (bif Nat.blt f 74 then (.gc) else (.no))) else (bif Nat.blt f 77 then (bif Nat.blt f 76 then (.no) else (.gc)) else (.no)))) else (bif Nat.blt f 87 then (bif Nat.blt f 83 then (bif Nat.blt f 81 then (bif Nat.blt f 80 then (.fz) else (.gc)) else (bif Nat.blt f 82 then (.gc) else (.fz))) else (bif Nat.blt f 85 then (.gc) else (bif Nat.blt f 86 then (.no) else (.fz)))) else (bif Nat.blt f 91 then (bif Nat.blt f 89 then (bif Nat.blt f 88 then (.no) else (.gc)) else (.gc)) else (bif Nat.blt f 93 then (bif Nat.blt f 92 then (.gc) else (.fz)) else (bif Nat.blt f 94 then (.gc) else (.no)))))) else (bif Nat.blt f 111 then (bif Nat.blt f 103 then (bif Nat.blt f 99 then (bif Nat.blt f 97 then (bif Nat.blt f 96 then (.no) else (.fz)) else (bif Nat.blt f 98 then (.gc) else (.fz))) else (bif Nat.blt f 101 then (bif Nat.blt f 100 then (.fz) else (.gc)) else (bif Nat.blt f 102 then (.gc) else (.no)))) else (bif Nat.blt f 107 then (bif Nat.blt f 105 then (bif Nat.blt f 104 then (.fz) else (.gc)) else (.fz)) else (.gc))) else (bif Nat.blt f 119 then (bif Nat.blt f 115 then (bif Nat.blt f 113 then (bif Nat.blt f 112 then (ownW k) else (.gc)) else (.gc)) else (bif Nat.blt f 117 then (bif Nat.blt f 116 then (own k) else (.gc)) else (bif Nat.blt f 118 then (.no) else (.fz)))) else (bif Nat.blt f 123 then (bif Nat.blt f 121 then (bif Nat.blt f 120 then (.gc) else (.fz)) else (bif Nat.blt f 122 then (.fz) else (.gc))) else (bif Nat.blt f 125 then (bif Nat.blt f 124 then (.gc) else (.fz)) else (bif Nat.blt f 126 then (own k) else (.no)))))))) else (bif Nat.blt f 191 then (bif Nat.blt f 159 then (bif Nat.blt f 143 then (bif Nat.blt f 135 then (bif Nat.blt f 131 then (bif Nat.blt f 129 then (bif Nat.blt f 128 then (.fz) else (.gc)) else (bif Nat.blt f 130 then (.gc) else (.no))) else (bif Nat.blt f 133 then (bif Nat.blt f 132 then (.gc) else (.no)) else (.gc))) else (bif Nat.blt f 139 then (bif Nat.blt f 137 then (.fz) else (bif Nat.blt f 138 then (.fz) else (.no))) else (bif Nat.blt f 141 then (bif Nat.blt f 140 then (.fz) else (.no)) else (bif Nat.blt f 142 then (.fz) else (.gc))))) else (bif Nat.blt f 151 then (bif Nat.blt f 147 then (bif Nat.blt f 145 then (bif Nat.blt f 144 then (.gc) else (.fz)) else (bif Nat.blt f 146 then (.no) else (.fz))) else (.no)) else (bif Nat.blt f 155 then (.no) else (bif Nat.blt f 157 then (.no) else (.gc))))) else (bif Nat.blt f 175 then (bif Nat.blt f 167 then (bif Nat.blt f 163 then (bif Nat.blt f 161 then (bif Nat.blt f 160 then (.gc) else (.no)) else (bif Nat.blt f 162 then (.gc) else (.fz))) else (bif Nat.blt f 165 then (.fz) else (bif Nat.blt f 166 then (.fz) else (.gc)))) else (bif Nat.blt f 171 then (bif Nat.blt f 169 then (bif Nat.blt f 168 then (.gc) else (.fz)) else (.no)) else (bif Nat.blt f 173 then (bif Nat.blt f 172 then (.gc) else (.fz)) else (bif Nat.blt f 174 then (.fz) else (.no))))) else (bif Nat.blt f 183 then (bif Nat.blt f 179 then (bif Nat.blt f 177 then (bif Nat.blt f 176 then (.fz) else (.no)) else (.fz)) else (bif Nat.blt f 181 then (bif Nat.blt f 180 then (.fz) else (.gc)) else (bif Nat.blt f 182 then (.gc) else (.fz)))) else (bif Nat.blt f 187 then (bif Nat.blt f 185 then (bif Nat.blt f 184 then (.no) else (.gc)) else (.gc)) else (bif Nat.blt f 189 then (bif Nat.blt f 188 then (.gc) else (.no)) else (.gc)))))) else (bif Nat.blt f 223 then (bif Nat.blt f 207 then (bif Nat.blt f 199 then (bif Nat.blt f 195 then (bif Nat.blt f 193 then (.gc) else (.no)) else (bif Nat.blt f 197 then (bif Nat.blt f 196 then (.no) else (.fz)) else (.gc))) else (bif Nat.blt f 203 then (bif Nat.blt f 201 then (.gc) else (bif Nat.blt f 202 then (.gc) else (.fz))) else (bif Nat.blt f 205 then (.fz) else (.no)))) else (bif Nat.blt f 215 then (bif Nat.blt f 211 then (bif Nat.blt f 209 then (.no) else (bif Nat.blt f 210 then (.no) else (.gc))) else (bif Nat.blt f 213 then (bif Nat.blt f 212 then (.gc) else (.fz)) else (bif Nat.blt f 214 then (.gc) else (.no)))) else (bif Nat.blt f 219 then (bif Nat.blt f 217 then (.fz) else (.no)) else (bif Nat.blt f 221 then (bif Nat.blt f 220 then (.no) else (.gc)) else (bif Nat.blt f 222 then (.gc) else (.fz)))))) else (bif Nat.blt f 239 then (bif Nat.blt f 231 then (bif Nat.blt f 227 then (bif Nat.blt f 225 then (.fz) else (bif Nat.blt f 226 then (.fz) else (.gc))) else (.gc)) else (bif Nat.blt f 235 then (bif Nat.blt f 233 then (.gc) else (.no)) else (.gc))) else (.gc))))
def arS (f : Nat) : Bool := [121].any (Nat.beq f)
noncomputable def C (k : Nat) : Cfg := { P := Prog, kp := kpS, sp := spOf speaksT moreS (k % 1000000) }
noncomputable def T (k : Nat) : Told := { c := C k, md := mdS k, ar := arS }
theorem more_scott (f : FuncId) (s : Sp) (h : moreS f = some s) : ∀ args H, Scott fun call => s call args H := by
 unfold moreS at h
 cases h77 : Nat.beq f 77 with
 | true => rw [h77, cond_true] at h; injection h with h; subst h; first | exact fun args H => Scott.const _ | exact Scott.tryV _ | exact Scott.told _
 | false =>
 rw [h77, cond_false] at h
 cases h147 : Nat.beq f 147 with
 | true => rw [h147, cond_true] at h; injection h with h; subst h; first | exact fun args H => Scott.const _ | exact Scott.tryV _ | exact Scott.told _
 | false =>
 rw [h147, cond_false] at h
 cases h151 : Nat.beq f 151 with
 | true => rw [h151, cond_true] at h; injection h with h; subst h; first | exact fun args H => Scott.const _ | exact Scott.tryV _ | exact Scott.told _
 | false =>
 rw [h151, cond_false] at h
 cases h152 : Nat.beq f 152 with
 | true => rw [h152, cond_true] at h; injection h with h; subst h; first | exact fun args H => Scott.const _ | exact Scott.tryV _ | exact Scott.told _
 | false =>
 rw [h152, cond_false] at h
 cases h
theorem T_scott (k : Nat) : SpScott (T k).c := SpScott.of more_scott
@[simp] theorem len_28 (x : Value) (h : Heap) : builtinV Prog .len [28] [x] h = lnS x h := lnS_eq (e := 3) (by kernel_rfl) x h
@[simp] theorem ld_3 (a : Value) (h : Heap) : loadR Prog 3 a h = ld1 a h := ld1_eq (by kernel_rfl) a h
@[simp] theorem len_50 (x : Value) (h : Heap) : builtinV Prog .len [50] [x] h = lnS x h := lnS_eq (e := 55) (by kernel_rfl) x h
@[simp] theorem be_50_0 (ps : List (Nat × Value)) (h : Heap) : buildSliceR Prog 50 0 ps h = beR 2 0 ps [] h := be_eq (e := 55) (by kernel_rfl) (by kernel_rfl) (by kernel_rfl) (by kernel_rfl) ps h
@[simp] theorem ap_50 (a b : Value) (h : Heap) : builtinV Prog .append [50, 50] [a, b] h = apR 2 16 a b h := ap_is (e := 55) (z := .agg #[.int .i64 0, .int .i64 0]) (by kernel_rfl) (by kernel_rfl) (by kernel_rfl) (by kernel_rfl) (by kernel_rfl) a b h
@[simp] theorem ix_50 (x i : Value) (h : Heap) : indexAddrR Prog 50 x i h = ixS 2 x i h := ixS_eq (e := 55) (by kernel_rfl) (by kernel_rfl) x i h
@[simp] theorem fa_55_0 (a : Value) (h : Heap) : fieldAddrR Prog 55 a 0 h = faR 0 1 a h := fa_is (ft := 3) (by kernel_rfl) (by kernel_rfl) a h
@[simp] theorem st_3 (a v : Value) (h : Heap) : storeR Prog 3 a v h = stR 1 a v h := st_eq (by kernel_rfl) a v h
@[simp] theorem fa_55_1 (a : Value) (h : Heap) : fieldAddrR Prog 55 a 1 h = faR 1 1 a h := fa_is (ft := 3) (by kernel_rfl) (by kernel_rfl) a h
@[simp] theorem sl_50 (x : Value) (lo hi mx : Option Value) (h : Heap) : sliceR Prog 50 x lo hi mx h = slS 2 x lo hi mx h := slS_eq (e := 55) (by kernel_rfl) (by kernel_rfl) x lo hi mx h
@[simp] theorem ix_28 (x i : Value) (h : Heap) : indexAddrR Prog 28 x i h = ixS 1 x i h := ixS_eq (e := 3) (by kernel_rfl) (by kernel_rfl) x i h
@[simp] theorem al_55 (h : Heap) : allocR Prog 55 h = newP [.int .i64 0, .int .i64 0] h := al_eq (z := .agg #[.int .i64 0, .int .i64 0]) (by kernel_rfl) h
@[simp] theorem st_55 (a v : Value) (h : Heap) : storeR Prog 55 a v h = stR 2 a v h := st_eq (by kernel_rfl) a v h
@[simp] theorem ld_55 (a : Value) (h : Heap) : loadR Prog 55 a h = ldA 2 a h := ldA_eq (by kernel_rfl) (by kernel_rfl) a h
@[simp] theorem bd_55 (ps : List (Nat × Value)) (h : Heap) : buildR Prog 55 ps h = bdR [(0, 1), (1, 1)] ps [.int .i64 0, .int .i64 0] h := bd_is (z := .agg #[.int .i64 0, .int .i64 0]) (by kernel_rfl) (by kernel_rfl) (by kernel_rfl) ps h
@[simp] theorem neI_55 (a0 a1 b0 b1 : Int) (h : Heap) : binR Prog .neq 55 (.agg #[.int .i64 a0, .int .i64 a1]) (.agg #[.int .i64 b0, .int .i64 b1]) h = .ok (.bool (!([a0, a1] == [b0, b1]))) h := neI_is (ks := [.i64, .i64]) (by kernel_rfl) [a0, a1] [b0, b1] rfl rfl h
@[simp] theorem ap_31 (a b : Value) (h : Heap) : builtinV Prog .append [31, 31] [a, b] h = apR 3 12 a b h := ap_is (e := 34) (z := .agg #[.int .i32 0, .int .i32 0, .int .i32 0]) (by kernel_rfl) (by kernel_rfl) (by kernel_rfl) (by kernel_rfl) (by kernel_rfl) a b h
@[simp] theorem be_31_0 (ps : List (Nat × Value)) (h : Heap) : buildSliceR Prog 31 0 ps h = beR 3 0 ps [] h := be_eq (e := 34) (by kernel_rfl) (by kernel_rfl) (by kernel_rfl) (by kernel_rfl) ps h
@[simp] theorem bd_220 (ps : List (Nat × Value)) (h : Heap) : buildR Prog 220 ps h = bdR [(0, 1)] ps [.slice none 0 0] h := bd_is (z := .agg #[.slice none 0 0]) (by kernel_rfl) (by kernel_rfl) (by kernel_rfl) ps h
@[simp] theorem fa_220_0 (a : Value) (h : Heap) : fieldAddrR Prog 220 a 0 h = faR 0 1 a h := fa_is (ft := 50) (by kernel_rfl) (by kernel_rfl) a h
@[simp] theorem ld_50 (a : Value) (h : Heap) : loadR Prog 50 a h = ld1 a h := ld1_eq (by kernel_rfl) a h
@[simp] theorem be_50_1 (ps : List (Nat × Value)) (h : Heap) : buildSliceR Prog 50 1 ps h = beR 2 1 ps [.int .i64 0, .int .i64 0] h := be_eq (e := 55) (by kernel_rfl) (by kernel_rfl) (by kernel_rfl) (by kernel_rfl) ps h
@[simp] theorem st_50 (a v : Value) (h : Heap) : storeR Prog 50 a v h = stR 1 a v h := st_eq (by kernel_rfl) a v h
@[simp] theorem bd_233 (ps : List (Nat × Value)) (h : Heap) : buildR Prog 233 ps h = bdR [] ps [] h := bd_is (z := .agg #[]) (by kernel_rfl) (by kernel_rfl) (by kernel_rfl) ps h
@[simp] theorem if_233 (x : Value) (h : Heap) : ifaceR Prog 233 x h = .ok (.iface 233 x) h := by kernel_rfl
end
end Go.Sw
