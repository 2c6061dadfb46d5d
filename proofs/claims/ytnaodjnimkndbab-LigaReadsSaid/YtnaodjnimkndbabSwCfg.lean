/-
  The seat's functions by their names, and facts of their types.
-/
import Derived.Test.YtnaodjnimkndbabSwLib7
import Derived.Test.YtnaodjnimkndbabRows
namespace Go.Sw
noncomputable section
noncomputable abbrev Prog : Program := Go.Proofs.Try.prog
namespace F
abbrev ζj : Nat := 10
abbrev ζ4 : Nat := 29
abbrev line_New : Nat := 30
abbrev ζ1o : Nat := 32
abbrev ζ31 : Nat := 33
abbrev ζ2b : Nat := 34
abbrev view_Try : Nat := 35
abbrev view_Of : Nat := 38
abbrev ζ2k : Nat := 59
abbrev ζ6s : Nat := 60
abbrev ζ9 : Nat := 61
abbrev ζ3s : Nat := 62
abbrev ζp : Nat := 63
abbrev ζ2i : Nat := 68
abbrev ζ39 : Nat := 87
abbrev ζ1 : Nat := 96
abbrev ζs : Nat := 97
abbrev ζk : Nat := 98
abbrev ζ1b : Nat := 99
abbrev ζ4k : Nat := 100
abbrev ζ5a : Nat := 101
abbrev ζ6 : Nat := 104
abbrev ζ2n : Nat := 106
abbrev ζ16 : Nat := 107
abbrev ζ1g : Nat := 108
abbrev ζ1w : Nat := 109
abbrev ζ2f : Nat := 110
abbrev ζ3g : Nat := 111
abbrev ζ3b : Nat := 115
abbrev ζl : Nat := 118
abbrev ζ2d : Nat := 120
abbrev ζf : Nat := 121
abbrev ζ37 : Nat := 125
abbrev ζ1p : Nat := 126
abbrev ζa : Nat := 131
abbrev ζc : Nat := 133
abbrev ζ2m : Nat := 134
abbrev ζ1c : Nat := 135
abbrev ζg : Nat := 136
abbrev ζ19 : Nat := 137
abbrev ζ7 : Nat := 138
abbrev ζd : Nat := 139
abbrev ζ0 : Nat := 140
abbrev ζ2e : Nat := 141
abbrev ζ18 : Nat := 149
abbrev ζ25 : Nat := 154
abbrev ζm : Nat := 159
abbrev ζe : Nat := 172
abbrev ζ29 : Nat := 173
abbrev ζ1z : Nat := 174
abbrev ζ2q : Nat := 175
abbrev ζ32 : Nat := 176
abbrev ζ1a : Nat := 177
abbrev ζ8 : Nat := 178
abbrev ζu : Nat := 179
abbrev ζ3c : Nat := 180
abbrev ζ1u : Nat := 186
abbrev ζ1n : Nat := 187
abbrev ζ2r : Nat := 189
abbrev ζ4r : Nat := 190
abbrev ζ6w : Nat := 191
abbrev ζ1m : Nat := 192
abbrev ζ26 : Nat := 193
abbrev ζ1x : Nat := 194
abbrev ζ1v : Nat := 195
abbrev ζt : Nat := 196
abbrev ζ9f : Nat := 201
abbrev ζ4v : Nat := 202
abbrev ζ1q : Nat := 205
abbrev ζ3t : Nat := 206
abbrev ζ2 : Nat := 217
abbrev ζ5 : Nat := 218
abbrev ζo : Nat := 219
abbrev ζ1y : Nat := 220
abbrev ζ15 : Nat := 221
abbrev ζ33 : Nat := 222
abbrev ζ3 : Nat := 223
abbrev ζ13 : Nat := 224
abbrev ζ1h : Nat := 225
abbrev ζ22 : Nat := 228
abbrev ζ4j : Nat := 229
abbrev ζ3a : Nat := 230
abbrev ζ1e : Nat := 231
abbrev ζ17 : Nat := 241
abbrev ζ2c : Nat := 242
abbrev ζ2j : Nat := 243
abbrev ζ4b : Nat := 246
abbrev ζ6u : Nat := 247
end F
def kp2 : List (Nat × List Nat) := [(0, [])]
def kp10 : List (Nat × List Nat) := [(0, [0, 1, 2]), (1, [0, 1, 2, 16]), (2, [6]), (3, [0, 1, 2, 24]), (4, [6]), (5, [0, 1, 2, 7, 8]), (6, [0, 1, 2, 7, 8, 36]), (7, [6]), (8, [2, 7, 8, 9, 10]), (9, [2, 7, 8, 9, 50]), (10, [6]), (11, [2, 7, 9, 62]), (12, [6]), (13, [2, 7, 9, 11]), (14, [2, 9, 11, 12]), (15, [11, 12, 13, 14]), (16, [6])]
def kp25 : List (Nat × List Nat) := [(0, []), (1, [1]), (2, [2, 3]), (3, [2, 25]), (4, [0]), (5, [2, 4]), (6, [0])]
def kp27 : List (Nat × List Nat) := [(0, [1, 2, 3]), (1, [1, 2, 3, 7]), (2, [1, 2, 3, 7, 8]), (3, [1, 2, 3, 7, 8, 9]), (4, [1, 2, 3, 7, 8, 9, 35, 36, 37]), (5, [1, 2, 3, 7, 8, 9, 35, 36, 37, 38]), (6, [1, 2, 3, 7, 8, 9, 11, 35, 36, 37]), (7, [1, 2, 3, 7, 8, 9, 35, 36, 37]), (8, [1, 2, 3, 7, 8, 9, 35, 36, 37]), (9, [1, 2, 3, 7, 8, 9, 12, 13]), (10, [1, 2, 3, 7, 8, 9, 12, 13, 47, 48, 49]), (11, [1, 2, 3, 7, 8, 9, 12, 13, 47, 48, 49, 50]), (12, [1, 2, 3, 7, 8, 9, 12, 13, 15, 47, 48, 49]), (13, [1, 2, 3, 7, 8, 9, 12, 13, 15, 47, 48, 49, 53, 54]), (14, [1, 2, 3, 7, 8, 9, 12, 13, 15, 47, 48, 49, 53, 54, 55]), (15, [1, 2, 3, 7, 8, 9, 12, 13, 15, 16, 47, 48, 49, 53, 54]), (16, [1, 2, 3, 7, 8, 9, 12, 13, 15, 16, 17, 47, 48, 49, 53, 54]), (17, [1, 2, 3, 7, 8, 9, 12, 13, 15, 16, 17, 47, 48, 49, 53, 54, 60]), (18, [1, 2, 3, 7, 8, 9, 12, 13, 15, 17, 47, 48, 49, 53, 54]), (19, [1, 2, 3, 7, 8, 9, 12, 13, 15, 47, 48, 49, 53, 54]), (20, [1, 2, 3, 7, 8, 9, 12, 13, 15, 47, 48, 49, 53, 54]), (21, [1, 2, 3, 7, 8, 9, 12, 13, 47, 48, 49]), (22, [1, 2, 7, 8, 9, 12, 13, 72, 73, 74]), (23, [1, 2, 7, 8, 9, 12, 13, 72, 73, 74, 75]), (24, [1, 2, 7, 8, 9, 12, 13, 19, 72, 73, 74]), (25, [1, 2, 7, 8, 9, 12, 13, 19, 72, 73, 74]), (26, [1, 2, 7, 8, 9, 12, 13, 19, 72, 73, 74, 88]), (27, [1, 2, 7, 8, 9, 12, 13, 19, 72, 73, 74]), (28, [1, 2, 7, 8, 9, 12, 13, 19, 72, 73, 74, 95]), (29, [1, 2, 7, 8, 9, 12, 13, 72, 73, 74]), (30, [1, 2, 7, 8, 9, 12, 13, 72, 73, 74]), (31, [2, 8, 9, 12, 13, 20]), (32, [2, 9, 12, 13, 20]), (33, [9, 12, 13, 20]), (34, [6]), (1000005, [1, 2, 3, 7, 8, 9, 35, 36, 37]), (1000011, [1, 2, 3, 7, 8, 9, 12, 13, 47, 48, 49]), (1000014, [1, 2, 3, 7, 8, 9, 12, 13, 15, 47, 48, 49, 53, 54]), (1000023, [1, 2, 7, 8, 9, 12, 13, 72, 73, 74])]
def kp29 : List (Nat × List Nat) := [(0, [0, 1, 2, 6]), (1, [0, 1, 2, 6, 8]), (2, [0, 1, 2, 6, 8, 9]), (3, [0, 1, 2, 6, 8, 9, 66]), (4, [6, 7]), (5, [0, 2, 6, 8, 10, 11]), (6, [0, 2, 6, 8, 11]), (7, [0, 6, 8, 11, 12]), (8, [0, 6, 8, 12, 81]), (9, [0, 6, 8, 12, 13]), (10, [0, 6, 8, 11, 12, 13]), (11, [0, 6, 8, 11, 12, 13, 93]), (12, [0, 6, 8, 12, 13]), (13, [0, 6, 8, 11, 12, 13]), (14, [0, 6, 8, 11, 12, 13, 115]), (15, [0, 6, 8, 11, 12, 13]), (16, [0, 6, 8, 11, 12, 141]), (17, [6, 7]), (18, [6, 7]), (1000008, [0, 6, 8, 11, 12])]
def kp30 : List (Nat × List Nat) := [(0, [0]), (1, [0, 3]), (2, [3, 8, 9, 10]), (3, [3, 8, 9, 10, 11]), (4, [3, 4, 5, 8, 9, 10]), (5, [3, 8, 9, 10]), (6, [3, 8, 9, 10]), (7, [2]), (1000003, [3, 8, 9, 10])]
def kp32 : List (Nat × List Nat) := [(0, [0, 1]), (1, [0, 1, 10]), (2, [4]), (3, [0, 1, 5]), (4, [0, 1, 5, 14]), (5, [0, 1, 5]), (6, [0, 1, 5, 25]), (7, [4]), (8, [4]), (1000004, [0, 1, 5])]
def kp33 : List (Nat × List Nat) := [(0, [0]), (1, [2])]
def kp34 : List (Nat × List Nat) := [(0, [0]), (1, [0, 3]), (2, [0, 3, 4]), (3, [0, 3, 4, 9]), (4, [0, 3, 4]), (5, [0, 3, 4]), (6, [2]), (1000003, [0, 3, 4])]
def kp35 : List (Nat × List Nat) := [(0, [0, 2]), (1, [0, 2]), (2, [2]), (3, [2])]
def kp38 : List (Nat × List Nat) := [(0, [0, 2]), (1, [2])]
def kp39 : List (Nat × List Nat) := [(0, []), (1, [1]), (2, [2, 3]), (3, [2, 3, 4]), (4, [2, 4, 34]), (5, [0]), (6, [4, 5]), (7, [0])]
def kp47 : List (Nat × List Nat) := [(0, []), (1, [1]), (2, [2, 3]), (3, [2, 3, 4]), (4, [2, 4, 34]), (5, [0]), (6, [4, 5]), (7, [0])]
def kp59 : List (Nat × List Nat) := [(0, []), (1, [1, 2]), (2, [1, 15]), (3, [0]), (4, [1, 3]), (5, [0])]
def kp60 : List (Nat × List Nat) := [(0, [0, 3, 4]), (1, [0, 3, 4, 12]), (2, [4, 5]), (3, [3, 4, 6]), (4, [4, 19]), (5, [4, 5]), (6, [4, 5])]
def kp61 : List (Nat × List Nat) := [(0, [0, 1, 4]), (1, [0, 4, 6, 7]), (2, [0, 4, 6, 7, 8]), (3, [0, 4, 6, 7, 8, 9]), (4, [0, 4, 6, 7, 8, 9, 10]), (5, [0, 4, 6, 7, 8, 9, 10, 29]), (6, [0, 4, 6, 7, 8, 9, 10]), (7, [0, 4, 6, 8, 9, 10, 11, 12]), (8, [0, 4, 6, 7, 8, 9, 10, 11]), (9, [0, 4, 6, 7, 8, 9, 10]), (10, [4, 6, 8, 9, 48]), (11, [4, 5]), (12, [4, 6, 8, 9]), (13, [4, 6, 8, 9]), (14, [4, 6, 8]), (15, [4, 6, 8, 13]), (16, [4, 6, 8, 13, 65]), (17, [4, 6, 8, 13]), (18, [4, 6, 8, 13, 14]), (19, [4, 6, 8, 13, 14, 75]), (20, [4, 6, 8, 13, 15]), (21, [4, 6, 8, 13, 15, 84]), (22, [4, 6, 8, 13, 15, 90]), (23, [4, 5]), (24, [4, 6, 8, 13, 15]), (25, [4, 5]), (1000005, [0, 4, 6, 7, 8, 9, 10]), (1000016, [4, 6, 8, 13]), (1000021, [4, 6, 8, 13, 15])]
def kp62 : List (Nat × List Nat) := [(0, [2, 3]), (1, [2, 3, 5]), (2, [7]), (3, [4])]
def kp63 : List (Nat × List Nat) := [(0, [1, 2]), (1, [1, 2, 6]), (2, [2, 6, 7]), (3, [2, 6, 7, 17]), (4, [2, 6, 7, 8]), (5, [2, 6, 7, 8, 37]), (6, [2, 6, 7, 8]), (7, [2, 6, 7, 8, 46]), (8, [2, 6, 7, 8]), (9, [2, 6, 7]), (10, [4, 5]), (1000003, [2, 6, 7])]
def kp65 : List (Nat × List Nat) := [(0, [1]), (1, [1, 3]), (2, [1, 3, 4]), (3, [1, 3, 38, 39]), (4, [1, 3, 38, 39, 40]), (5, [1, 3, 5, 6, 38, 39]), (6, [1, 3, 38, 39]), (7, [1, 3, 38, 39]), (8, [1, 3, 56, 57, 58]), (9, [1, 3, 56, 57, 58, 59]), (10, [1, 3, 8, 56, 57, 58]), (11, [1, 3, 56, 57, 58]), (12, [1, 3, 56, 57, 58]), (13, [1, 3, 68, 69, 70]), (14, [1, 3, 68, 69, 70, 71]), (15, [1, 3, 10, 68, 69, 70]), (16, [1, 3, 68, 69, 70]), (17, [1, 3, 68, 69, 70]), (18, [3, 80, 81, 82]), (19, [3, 80, 81, 82, 83]), (20, [3, 12, 80, 81, 82]), (21, [3, 80, 81, 82]), (22, [3, 80, 81, 82]), (23, [2]), (1000004, [1, 3, 38, 39]), (1000009, [1, 3, 56, 57, 58]), (1000014, [1, 3, 68, 69, 70]), (1000019, [3, 80, 81, 82])]
def kp66 : List (Nat × List Nat) := [(0, [0]), (1, [0, 1]), (2, [0, 2]), (3, [0])]
def kp68 : List (Nat × List Nat) := [(0, [1, 2]), (1, [5]), (2, [5, 30, 31, 32]), (3, [5, 30, 31, 32, 33]), (4, [5, 7, 30, 31, 32]), (5, [5, 7, 30, 31, 32, 39]), (6, [5, 8, 30, 31, 32]), (7, [5, 8, 30, 31, 32, 50]), (8, [5, 8, 30, 31, 32]), (9, [5, 30, 31, 32]), (10, [4]), (1000003, [5, 30, 31, 32]), (1000007, [5, 8, 30, 31, 32])]
def kp74 : List (Nat × List Nat) := [(0, []), (1, [1]), (2, [2, 3]), (3, [2, 26]), (4, [0]), (5, [2, 4]), (6, [4, 5, 6]), (7, [0])]
def kp87 : List (Nat × List Nat) := [(0, [0]), (1, [2])]
def kp89 : List (Nat × List Nat) := [(0, [0, 1, 2]), (1, [0, 1, 7]), (2, [0, 1, 7, 13]), (3, [0, 1, 7]), (4, [0, 1, 7, 8]), (5, [0, 1, 7, 8, 9]), (6, [0, 1, 7, 8, 9, 19]), (7, [0, 1, 7, 8, 9]), (8, [0, 1, 7, 8, 9]), (9, [0, 1, 7]), (10, [6]), (1000002, [0, 1, 7]), (1000006, [0, 1, 7, 8, 9])]
def kp96 : List (Nat × List Nat) := [(0, [0, 1, 2]), (1, [0, 1, 2, 14]), (2, [6]), (3, [0, 1, 2, 7]), (4, [0, 1, 2, 7, 8]), (5, [0, 1, 2, 7, 8, 17]), (6, [0, 1, 2, 7, 8]), (7, [0, 1, 2, 7, 8]), (8, [6]), (1000005, [0, 1, 2, 7, 8])]
def kp97 : List (Nat × List Nat) := [(0, [0, 1, 2, 6]), (1, [0, 6, 8, 9]), (2, [0, 6, 8, 9, 10]), (3, [0, 6, 8, 9, 10, 21]), (4, [0, 6, 8, 9, 10]), (5, [0, 6, 8, 9, 10, 52]), (6, [0, 6, 8, 9, 10]), (7, [0, 6, 8, 54]), (8, [6, 7]), (9, [6, 7]), (1000003, [0, 6, 8, 9, 10])]
def kp98 : List (Nat × List Nat) := [(0, [0, 1, 2, 3]), (1, [0, 1, 2, 3, 23]), (2, [8]), (3, [8])]
def kp99 : List (Nat × List Nat) := [(0, [0, 1, 2, 3]), (1, [0, 1, 2, 3, 9]), (2, [0, 1, 2, 3, 9, 10]), (3, [0, 1, 2, 3, 9, 10, 13]), (4, [0, 1, 2, 3, 9, 10]), (5, [0, 1, 2, 3, 9, 10]), (6, [8]), (1000003, [0, 1, 2, 3, 9, 10])]
def kp100 : List (Nat × List Nat) := [(0, [0, 1, 2]), (1, [1, 2, 8]), (2, [2, 8, 9]), (3, [2, 8, 9, 23]), (4, [2, 8, 9, 26]), (5, [6, 7]), (6, [2, 8, 9, 35]), (7, [6, 7]), (1000003, [2, 8, 9])]
def kp101 : List (Nat × List Nat) := [(0, [1]), (1, [2])]
def kp104 : List (Nat × List Nat) := [(0, [0]), (1, [0, 4]), (2, [2]), (3, [2])]
def kp105 : List (Nat × List Nat) := [(0, [0, 4]), (1, [3]), (2, []), (3, [0, 4, 6]), (4, []), (5, [0, 4, 8, 9]), (6, [0]), (7, [])]
def kp106 : List (Nat × List Nat) := [(0, [1, 2, 3]), (1, [1, 2, 3, 7]), (2, [1, 2, 3, 7]), (3, [2, 3, 8]), (4, [8, 9]), (5, [8, 9, 10, 11]), (6, [8, 9, 10, 11, 56]), (7, [8, 9, 10, 11, 63]), (8, [8, 9, 10, 11]), (9, [8, 9, 10, 11, 74]), (10, [8, 9, 10, 11]), (11, [6]), (1000006, [8, 9, 10, 11]), (1000007, [8, 9, 10, 11]), (1000009, [8, 9, 10, 11])]
def kp107 : List (Nat × List Nat) := [(0, [1, 2]), (1, [5]), (2, [4])]
def kp108 : List (Nat × List Nat) := [(0, [1, 2, 4]), (1, [4])]
def kp109 : List (Nat × List Nat) := [(0, [0]), (1, [2])]
def kp110 : List (Nat × List Nat) := [(0, [1, 2, 3, 6]), (1, [6])]
def kp111 : List (Nat × List Nat) := [(0, [1]), (1, [2])]
def kp115 : List (Nat × List Nat) := [(0, [0, 1, 4]), (1, [0, 1, 4, 9]), (2, [4, 5]), (3, [4, 5])]
def kp118 : List (Nat × List Nat) := [(0, [0]), (1, [0, 4]), (2, [2]), (3, [2])]
def kp120 : List (Nat × List Nat) := [(0, [0, 1]), (1, [0, 1, 13]), (2, [4, 5]), (3, [4, 5])]
def kp121 : List (Nat × List Nat) := [(0, [1, 2, 4]), (1, [2, 4, 5]), (2, [2, 4, 5, 6]), (3, [2, 4, 5, 6, 28]), (4, [2, 4, 5, 6]), (5, [2, 4, 5, 6, 37]), (6, [4, 6]), (7, [4])]
def kp125 : List (Nat × List Nat) := [(0, [0, 2]), (1, [2])]
def kp126 : List (Nat × List Nat) := [(0, [2, 3, 4, 6]), (1, [2, 3, 4, 6, 12]), (2, [6, 7]), (3, [2, 3, 4, 6, 8]), (4, [2, 3, 4, 6, 8, 18]), (5, [3, 4, 6, 8]), (6, [6, 9, 10]), (7, [6, 7])]
def kp131 : List (Nat × List Nat) := [(0, [2, 3, 4, 5, 6, 10]), (1, [3, 4, 5, 6, 10, 11]), (2, [3, 4, 5, 6, 10, 11]), (3, [3, 4, 5, 6, 10, 11]), (4, [3, 4, 5, 10, 11, 27]), (5, [3, 5, 10]), (6, [5, 10]), (7, [5, 10, 11]), (8, [4, 5, 10, 11]), (9, [5, 10, 11]), (10, [5, 10, 11, 39]), (11, [5, 10, 11]), (12, [5, 10, 41]), (13, [5, 10]), (14, [5, 10, 52]), (15, [5, 10]), (16, [5, 10]), (17, [10])]
def kp133 : List (Nat × List Nat) := [(0, [1, 2]), (1, [5]), (2, [4])]
def kp134 : List (Nat × List Nat) := [(0, [])]
def kp135 : List (Nat × List Nat) := [(0, [0]), (1, [2])]
def kp136 : List (Nat × List Nat) := [(0, [0, 2, 3, 4, 6]), (1, [0, 2, 3, 4, 6, 16]), (2, [2, 3, 4, 6]), (3, [2, 3, 4, 6, 22]), (4, [])]
def kp137 : List (Nat × List Nat) := [(0, [0, 1, 4]), (1, [0, 1, 21]), (2, [0]), (3, [0, 34]), (4, [])]
def kp138 : List (Nat × List Nat) := [(0, [0, 1, 2, 3, 8]), (1, [0, 1, 2, 3, 8, 9]), (2, [0, 1, 2, 3, 8, 9]), (3, [0, 1, 2, 3, 8, 9, 10, 11]), (4, [0, 1, 2, 3, 8, 9, 10, 24]), (5, [0, 1, 2, 3, 8, 9, 10, 12]), (6, [0, 1, 2, 3, 8, 9, 10, 12, 13]), (7, [0, 1, 2, 3, 8, 9, 10, 11, 12, 15]), (8, [0, 1, 2, 3, 8, 9, 10, 12, 15, 52]), (9, [0, 1, 2, 3, 8, 9, 10, 12]), (10, [0, 1, 2, 3, 8, 9, 10, 12, 58]), (11, [0, 1, 2, 3, 8, 10, 12, 65]), (12, [0, 1, 2, 3, 8, 9, 10, 12]), (13, [0, 1, 2, 3, 8, 9, 10, 68]), (14, []), (15, [0, 1, 2, 3, 8, 9]), (1000003, [0, 1, 2, 3, 8, 9])]
def kp139 : List (Nat × List Nat) := [(0, [1, 2, 4]), (1, [1, 2, 4, 5]), (2, [1, 2, 4, 20]), (3, [4]), (4, [2, 4]), (5, [2, 4, 33]), (6, [2, 4]), (7, [4])]
def kp140 : List (Nat × List Nat) := [(0, [2, 3, 4, 6]), (1, [2, 3, 4, 6, 7]), (2, [2, 3, 4, 6, 7, 8]), (3, [2, 3, 4, 6, 7, 8, 20]), (4, [2, 3, 4, 6, 7, 8, 9]), (5, [2, 3, 4, 6, 7, 8, 9, 10]), (6, [2, 3, 4, 6, 7, 8, 10]), (7, [2, 3, 4, 6, 7, 8, 10, 11]), (8, [2, 3, 4, 6, 7, 8, 10, 11]), (9, [2, 3, 4, 6, 7, 8, 10, 11, 12]), (10, [2, 3, 4, 6, 7, 8, 10, 11, 12, 56]), (11, [6]), (12, [2, 3, 4, 6, 7, 8, 10, 11]), (13, [2, 3, 4, 6, 7, 8, 10, 11, 13]), (14, [2, 3, 4, 6, 7, 8, 10, 11, 69]), (15, [2, 3, 4, 6, 7, 8, 10, 11, 14]), (16, [2, 3, 4, 6, 7, 8, 10, 11, 14, 75]), (17, [6]), (18, [2, 3, 4, 6, 7, 8, 10, 11]), (19, [2, 3, 4, 6, 7, 8, 10, 11]), (20, [2, 3, 4, 6, 7, 8, 10, 11, 15]), (21, [2, 3, 4, 6, 7, 8, 10, 11, 15, 95]), (22, [2, 3, 4, 6, 7, 8, 10, 11, 15]), (23, [2, 3, 4, 6, 7, 8, 10, 11, 15]), (24, [2, 3, 4, 6, 7, 8, 10, 11]), (25, [2, 3, 4, 6, 7, 8, 10, 111]), (26, [6]), (27, [2, 3, 4, 6, 7, 8]), (28, [6]), (1000003, [2, 3, 4, 6, 7, 8]), (1000021, [2, 3, 4, 6, 7, 8, 10, 11, 15])]
def kp141 : List (Nat × List Nat) := [(0, [0, 1, 2]), (1, [6])]
def kp149 : List (Nat × List Nat) := [(0, [1, 2, 3, 4, 8]), (1, [1, 2, 3, 4, 8]), (2, [8])]
def kp154 : List (Nat × List Nat) := [(0, [2, 3]), (1, [2, 3, 6]), (2, [2, 3, 6, 32]), (3, [4, 5]), (4, [4, 5])]
def kp159 : List (Nat × List Nat) := [(0, [0]), (1, [0, 4]), (2, [2]), (3, [2])]
def kp172 : List (Nat × List Nat) := [(0, [0, 1, 2]), (1, [0, 1, 2, 16]), (2, [0, 1, 2, 16, 17]), (3, [6, 7]), (4, [0, 2, 16, 30]), (5, [6, 7]), (6, [0, 2, 16, 37]), (7, [6, 7]), (8, [0, 2, 16, 44]), (9, [0, 2, 8, 10]), (10, [0, 2, 8, 10, 11]), (11, [0, 2, 8, 10, 11, 12]), (12, [0, 2, 8, 10, 11, 12, 58]), (13, [0, 2, 8, 10, 11, 12]), (14, [0, 2, 8, 10, 11, 12, 13]), (15, [0, 2, 8, 10, 11, 12]), (16, [6, 7]), (17, [0, 2, 16, 81]), (18, [6, 7]), (19, [0, 88]), (20, [0, 14]), (21, [0, 14, 101]), (22, [6, 7]), (23, [6, 7]), (24, [6, 7]), (1000012, [0, 2, 8, 10, 11, 12])]
def kp173 : List (Nat × List Nat) := [(0, [0, 1]), (1, [0, 1, 5, 6]), (2, [0, 1, 6, 7]), (3, [0, 1, 6, 7]), (4, [0, 1, 6, 7]), (5, [0, 6, 7, 9, 10]), (6, [0, 6, 9, 10, 54]), (7, [0]), (8, []), (9, [4]), (10, [6]), (11, [4])]
def kp174 : List (Nat × List Nat) := [(0, [0, 2, 4]), (1, [0]), (2, [5, 6])]
def kp175 : List (Nat × List Nat) := [(0, [3]), (1, [])]
def kp176 : List (Nat × List Nat) := [(0, [1, 2, 3]), (1, [1, 2, 3, 7]), (2, [1, 2, 3, 7, 8]), (3, [1, 2, 3, 7, 8, 22]), (4, [8]), (5, [1, 2, 3, 7, 8, 22, 24]), (6, [8]), (7, [2, 3, 7, 8, 22, 37]), (8, [8]), (9, [2, 3, 7, 8, 22, 44]), (10, [8]), (11, [2, 3, 7, 8, 22, 51]), (12, [8]), (13, [2, 3, 7, 8, 22, 58]), (14, [8]), (15, [3, 7, 8, 66]), (16, [7, 8, 9]), (17, [7, 8, 9]), (18, [8]), (19, [8, 10]), (20, [8, 10, 93]), (21, [8, 10]), (22, [8, 10]), (23, [6]), (1000020, [8, 10])]
def kp177 : List (Nat × List Nat) := [(0, [1]), (1, [1, 3]), (2, [1, 3, 4]), (3, [1, 4, 5]), (4, [1, 4, 5, 6]), (5, [1, 4, 5, 6, 29, 30]), (6, [1, 4, 5, 6, 29, 30, 31]), (7, [1, 4, 5, 6, 7, 29, 30]), (8, [1, 4, 5, 6, 7, 29, 30]), (9, [1, 4, 5, 6, 29, 30]), (10, [1, 4, 5, 6, 29, 30]), (11, [6]), (12, [2]), (1000006, [1, 4, 5, 6, 29, 30])]
def kp178 : List (Nat × List Nat) := [(0, [1]), (1, [1, 3]), (2, [1, 4]), (3, [1, 4, 5]), (4, [1, 4, 5, 29]), (5, [1, 4, 5]), (6, [1, 4, 5, 35]), (7, [1, 5]), (8, [5]), (9, [2])]
def kp179 : List (Nat × List Nat) := [(0, [1, 2, 3]), (1, [1, 2, 3]), (2, [6])]
def kp180 : List (Nat × List Nat) := [(0, [0, 1]), (1, [4])]
def kp186 : List (Nat × List Nat) := [(0, [1, 2]), (1, [1, 2, 8]), (2, [4]), (3, [2, 5, 6]), (4, [5, 23]), (5, [4]), (6, [4])]
def kp187 : List (Nat × List Nat) := [(0, [1, 2, 3, 6]), (1, [1, 2, 3, 6, 25]), (2, [6, 7]), (3, [6, 7])]
def kp189 : List (Nat × List Nat) := [(0, [0]), (1, [0, 4]), (2, [0, 4, 11]), (3, [2, 3]), (4, [0, 4, 5]), (5, [5]), (6, [2, 3])]
def kp190 : List (Nat × List Nat) := [(0, [1, 2]), (1, [1, 2, 14]), (2, [4, 5]), (3, [4, 5])]
def kp191 : List (Nat × List Nat) := [(0, [0]), (1, [2])]
def kp192 : List (Nat × List Nat) := [(0, [0, 1, 2, 3, 4]), (1, [1, 2, 4, 11, 12]), (2, [1, 2, 4, 11, 25]), (3, [10]), (4, [1, 2, 4]), (5, [1, 4]), (6, [1, 34, 35, 36]), (7, [1, 34, 35, 36, 37]), (8, [1, 14, 34, 35, 36]), (9, [1, 34, 35, 36]), (10, [1, 34, 35, 36]), (11, [10]), (1000007, [1, 34, 35, 36])]
def kp193 : List (Nat × List Nat) := [(0, [0, 1]), (1, [0, 1, 12]), (2, [4]), (3, [4])]
def kp194 : List (Nat × List Nat) := [(0, [0]), (1, [3]), (2, [3, 7]), (3, [2]), (4, [2])]
def kp195 : List (Nat × List Nat) := [(0, [0, 1, 2]), (1, [0, 1, 2, 16]), (2, [6, 7]), (3, [1, 2, 8]), (4, [8]), (5, [6, 7])]
def kp196 : List (Nat × List Nat) := [(0, [0, 1, 2]), (1, [0, 1, 2, 7]), (2, [0, 1, 2, 7, 8]), (3, [0, 1, 2, 7, 8, 26]), (4, [0, 1, 2, 7, 8]), (5, [0, 1, 2, 7, 8, 9]), (6, [0, 1, 2, 7, 8, 9, 53]), (7, [0, 1, 2, 7, 8]), (8, [6]), (1000003, [0, 1, 2, 7, 8])]
def kp200 : List (Nat × List Nat) := [(0, [1, 2, 3, 4, 5]), (1, [1, 2, 3, 4, 5, 11]), (2, [1, 2, 3, 4, 5, 11]), (3, [1, 3, 4, 5, 11]), (4, [3, 4, 11]), (5, [3, 4, 11, 12]), (6, [11]), (7, [10])]
def kp201 : List (Nat × List Nat) := [(0, [])]
def kp202 : List (Nat × List Nat) := [(0, [0, 1]), (1, [1, 5, 6]), (2, [1, 5, 6, 11]), (3, [1, 5, 6, 7]), (4, [1, 5, 6, 7, 20]), (5, [1, 5, 6]), (6, [1, 5, 6]), (7, [4]), (1000002, [1, 5, 6])]
def kp205 : List (Nat × List Nat) := [(0, [0, 1, 2]), (1, [4])]
def kp206 : List (Nat × List Nat) := [(0, [1, 2]), (1, [4])]
def kp217 : List (Nat × List Nat) := [(0, [0, 1, 2]), (1, [0, 1, 2, 8]), (2, [0, 1, 2, 8, 17]), (3, [0, 1, 2, 8]), (4, [0, 1, 2, 9, 11]), (5, [0, 1, 2, 9, 11, 12]), (6, [0, 1, 2, 9, 11, 12, 13]), (7, [0, 1, 2, 9, 11, 12, 13, 32]), (8, [0, 1, 2, 9, 11, 12, 13]), (9, [0, 1, 2, 9, 11, 12, 13, 14]), (10, [0, 1, 2, 9, 11, 12, 13, 14, 55]), (11, [0, 1, 2, 9, 12, 13, 14]), (12, [0, 1, 2, 9, 12, 13, 14]), (13, [0, 1, 2, 9, 11, 12, 13, 14]), (14, [0, 1, 2, 9, 11, 12, 13]), (15, [6, 7]), (1000007, [0, 1, 2, 9, 11, 12, 13])]
def kp218 : List (Nat × List Nat) := [(0, [0, 1, 2, 3]), (1, [0, 1, 2, 3, 11, 12]), (2, [0, 1, 3, 11, 12, 43]), (3, [8, 9, 10]), (4, [0, 1, 3, 11, 12, 13]), (5, [0, 1, 3, 11, 12, 13, 14]), (6, [0, 1, 3, 11, 12, 13, 14, 47]), (7, [0, 1, 3, 11, 12, 13, 14]), (8, [0, 1, 3, 11, 12, 13, 14]), (9, [0, 3, 11, 12, 13, 60]), (10, [0, 3, 11, 12, 13, 15]), (11, [0, 3, 11, 12, 13, 15, 16]), (12, [0, 3, 11, 12, 13, 15, 16, 63]), (13, [0, 3, 11, 12, 13, 15, 16]), (14, [0, 3, 11, 12, 13, 15, 16]), (15, [11, 12, 13, 80]), (16, [11, 13]), (17, [8, 9, 10]), (1000006, [0, 1, 3, 11, 12, 13, 14]), (1000012, [0, 3, 11, 12, 13, 15, 16])]
def kp219 : List (Nat × List Nat) := [(0, [0, 1, 2]), (1, [0, 1, 2, 8, 9]), (2, [1, 2, 8, 9, 38]), (3, [6, 7]), (4, [1, 2, 8, 9, 40]), (5, [6, 7]), (6, [6, 7])]
def kp220 : List (Nat × List Nat) := [(0, [0]), (1, [0, 4, 5]), (2, [0, 4, 19]), (3, [2, 3]), (4, [2, 3])]
def kp221 : List (Nat × List Nat) := [(0, [0, 1, 2, 6]), (1, [0, 1, 2, 6, 30]), (2, [6, 7]), (3, [6, 7])]
def kp222 : List (Nat × List Nat) := [(0, [1, 2, 3, 4]), (1, [2, 3, 9]), (2, [3, 9, 10]), (3, [3, 9, 10, 20, 21]), (4, [3, 9, 10, 20, 21, 22]), (5, [3, 9, 10, 11, 20, 21]), (6, [3, 9, 10, 20, 21]), (7, [3, 9, 10, 20, 21]), (8, [8]), (1000004, [3, 9, 10, 20, 21])]
def kp223 : List (Nat × List Nat) := [(0, [1, 2]), (1, [1, 2, 5]), (2, [1, 2, 5, 13]), (3, [1, 2, 5]), (4, [1, 2, 5, 6]), (5, [1, 2, 6, 17, 18, 19]), (6, [1, 2, 6, 17, 18, 19, 20]), (7, [1, 2, 6, 8, 17, 18, 19]), (8, [1, 2, 6, 8, 9, 17, 18, 19]), (9, [1, 2, 6, 8, 9, 17, 18, 19]), (10, [1, 2, 6, 8, 9, 17, 18, 19, 34]), (11, [1, 2, 6, 9, 17, 18, 19]), (12, [1, 2, 6, 9, 17, 18, 19]), (13, [1, 2, 6, 17, 18, 19]), (14, [1, 2, 6, 17, 18, 19]), (15, [4]), (1000006, [1, 2, 6, 17, 18, 19])]
def kp224 : List (Nat × List Nat) := [(0, [1]), (1, [1, 3]), (2, [1, 3, 12, 13, 14]), (3, [1, 3, 12, 13, 14, 15]), (4, [1, 3, 5, 12, 13, 14]), (5, [1, 3, 5, 6, 12, 13, 14]), (6, [1, 3, 12, 13, 14]), (7, [1, 3, 12, 13, 14]), (8, [2]), (1000003, [1, 3, 12, 13, 14])]
def kp225 : List (Nat × List Nat) := [(0, [1, 2, 3]), (1, [1, 2, 3, 7, 8]), (2, [1, 2, 3, 7, 8]), (3, [7, 8, 9]), (4, [7, 8, 9, 32]), (5, [6]), (6, [6])]
def kp228 : List (Nat × List Nat) := [(0, [1, 2]), (1, [1, 2, 6]), (2, [1, 2, 6, 12]), (3, [1, 2, 6]), (4, [1, 2, 6, 7]), (5, [1, 2, 6, 7, 29]), (6, [4, 5]), (7, [4, 5]), (1000002, [1, 2, 6])]
def kp229 : List (Nat × List Nat) := [(0, [1]), (1, [2])]
def kp230 : List (Nat × List Nat) := [(0, [0, 1, 2]), (1, [0, 1, 2, 10]), (2, [6]), (3, []), (4, [6])]
def kp231 : List (Nat × List Nat) := [(0, [0, 1, 2, 13]), (1, [0, 1, 14, 15, 16]), (2, [0, 1, 14, 15, 16, 17]), (3, [0, 1, 7, 14, 15, 16]), (4, [0, 1, 8, 9, 14, 15, 16]), (5, [0, 1, 8, 14, 15, 16, 26]), (6, [0, 1, 14, 15, 16]), (7, [0, 1, 14, 15, 16]), (1000002, [0, 1, 14, 15, 16])]
def kp241 : List (Nat × List Nat) := [(0, [0, 1]), (1, [0, 1, 8]), (2, [4]), (3, [0, 5, 6]), (4, [5, 26]), (5, [4]), (6, [4])]
def kp242 : List (Nat × List Nat) := [(0, [1, 2, 3]), (1, [1, 3, 7]), (2, [1, 3, 7, 8]), (3, [6]), (4, [1, 3, 13]), (5, [6]), (6, [6])]
def kp243 : List (Nat × List Nat) := [(0, [1, 2, 3, 4]), (1, [1, 2, 3, 4, 9, 10]), (2, [1, 2, 3, 4, 9, 10]), (3, [1, 3, 4, 9, 10]), (4, [3, 9, 10, 11]), (5, [3, 9, 10, 11, 12]), (6, [3, 9, 10, 11, 12, 34, 35]), (7, [3, 9, 10, 11, 12, 34, 35, 36]), (8, [3, 9, 10, 11, 12, 13, 34, 35]), (9, [3, 9, 10, 11, 12, 34, 35]), (10, [3, 9, 10, 11, 12, 34, 35]), (11, [10, 12, 58]), (12, [8]), (13, [8]), (1000007, [3, 9, 10, 11, 12, 34, 35])]
def kp244 : List (Nat × List Nat) := [(0, [0, 1, 2]), (1, [0, 1, 2]), (2, [0, 1, 2, 7]), (3, [0, 1, 2, 7, 16]), (4, [6]), (5, [0, 1, 2, 7, 8]), (6, [0, 1, 2, 7, 8, 22]), (7, [6]), (8, [0, 1, 2, 7, 8, 31]), (9, [0, 1, 2, 7, 9]), (10, [0, 1, 7, 9]), (11, [9]), (12, [6]), (13, [0, 1, 2, 7, 8]), (14, [0, 1, 2, 7, 8, 68]), (15, [0, 1, 2]), (16, [0]), (17, [6]), (18, [0, 1, 7]), (19, [0]), (20, [6])]
def kp245 : List (Nat × List Nat) := [(0, [0, 2, 3, 4, 10]), (1, [0, 2, 4, 10, 11]), (2, [0, 2, 4, 10, 11, 20]), (3, [0, 2, 4, 10, 11, 23]), (4, [0, 2, 4, 10, 11]), (5, [0, 2, 4, 10, 11]), (6, [0, 2, 4, 10, 11]), (7, [0, 2, 4, 10, 11]), (8, []), (1000002, [0, 2, 4, 10, 11])]
def kp246 : List (Nat × List Nat) := [(0, [1, 2]), (1, [4])]
def kp247 : List (Nat × List Nat) := [(0, [1, 2]), (1, [2, 6, 7]), (2, [2, 6, 7, 8]), (3, [2, 5, 6, 7]), (4, [2, 6, 7, 14]), (5, [4]), (6, [2, 6, 7]), (7, [4]), (1000002, [2, 6, 7])]
def kp249 : List (Nat × List Nat) := [(0, [])]
def kp251 : List (Nat × List Nat) := [(0, [0, 1]), (1, [0]), (2, [])]
def kpT (f : Nat) : List (Nat × List Nat) :=
 bif Nat.blt f 136 then (bif Nat.blt f 68 then (bif Nat.blt f 34 then (bif Nat.blt f 17 then (bif Nat.blt f 8 then (bif Nat.blt f 4 then (bif Nat.blt f 2 then ([]) else (bif Nat.blt f 3 then (kp2) else ([]))) else (bif Nat.blt f 6 then (bif Nat.blt f 5 then ([]) else ([])) else (bif Nat.blt f 7 then ([]) else ([])))) else (bif Nat.blt f 12 then (bif Nat.blt f 10 then (bif Nat.blt f 9 then ([]) else ([])) else (bif Nat.blt f 11 then (kp10) else ([]))) else (bif Nat.blt f 14 then (bif Nat.blt f 13 then ([]) else ([])) else (bif Nat.blt f 15 then ([]) else (bif Nat.blt f 16 then ([]) else ([])))))) else (bif Nat.blt f 25 then (bif Nat.blt f 21 then (bif Nat.blt f 19 then (bif Nat.blt f 18 then ([]) else ([])) else (bif Nat.blt f 20 then ([]) else ([]))) else (bif Nat.blt f 23 then (bif Nat.blt f 22 then ([]) else ([])) else (bif Nat.blt f 24 then ([]) else ([])))) else (bif Nat.blt f 29 then (bif Nat.blt f 27 then (bif Nat.blt f 26 then (kp25) else ([])) else (bif Nat.blt f 28 then (kp27) else ([]))) else (bif Nat.blt f 31 then (bif Nat.blt f 30 then (kp29) else (kp30)) else (bif Nat.blt f 32 then ([]) else (bif Nat.blt f 33 then (kp32) else (kp33))))))) else (bif Nat.blt f 51 then (bif Nat.blt f 42 then (bif Nat.blt f 38 then (bif Nat.blt f 36 then (bif Nat.blt f 35 then (kp34) else (kp35)) else (bif Nat.blt f 37 then ([]) else ([]))) else (bif Nat.blt f 40 then (bif Nat.blt f 39 then (kp38) else (kp39)) else (bif Nat.blt f 41 then ([]) else ([])))) else (bif Nat.blt f 46 then (bif Nat.blt f 44 then (bif Nat.blt f 43 then ([]) else ([])) else (bif Nat.blt f 45 then ([]) else ([]))) else (bif Nat.blt f 48 then (bif Nat.blt f 47 then ([]) else (kp47)) else (bif Nat.blt f 49 then ([]) else (bif Nat.blt f 50 then ([]) else ([])))))) else (bif Nat.blt f 59 then (bif Nat.blt f 55 then (bif Nat.blt f 53 then (bif Nat.blt f 52 then ([]) else ([])) else (bif Nat.blt f 54 then ([]) else ([]))) else (bif Nat.blt f 57 then (bif Nat.blt f 56 then ([]) else ([])) else (bif Nat.blt f 58 then ([]) else ([])))) else (bif Nat.blt f 63 then (bif Nat.blt f 61 then (bif Nat.blt f 60 then (kp59) else (kp60)) else (bif Nat.blt f 62 then (kp61) else (kp62))) else (bif Nat.blt f 65 then (bif Nat.blt f 64 then (kp63) else ([])) else (bif Nat.blt f 66 then (kp65) else (bif Nat.blt f 67 then (kp66) else ([])))))))) else (bif Nat.blt f 102 then (bif Nat.blt f 85 then (bif Nat.blt f 76 then (bif Nat.blt f 72 then (bif Nat.blt f 70 then (bif Nat.blt f 69 then (kp68) else ([])) else (bif Nat.blt f 71 then ([]) else ([]))) else (bif Nat.blt f 74 then (bif Nat.blt f 73 then ([]) else ([])) else (bif Nat.blt f 75 then (kp74) else ([])))) else (bif Nat.blt f 80 then (bif Nat.blt f 78 then (bif Nat.blt f 77 then ([]) else ([])) else (bif Nat.blt f 79 then ([]) else ([]))) else (bif Nat.blt f 82 then (bif Nat.blt f 81 then ([]) else ([])) else (bif Nat.blt f 83 then ([]) else (bif Nat.blt f 84 then ([]) else ([])))))) else (bif Nat.blt f 93 then (bif Nat.blt f 89 then (bif Nat.blt f 87 then (bif Nat.blt f 86 then ([]) else ([])) else (bif Nat.blt f 88 then (kp87) else ([]))) else (bif Nat.blt f 91 then (bif Nat.blt f 90 then (kp89) else ([])) else (bif Nat.blt f 92 then ([]) else ([])))) else (bif Nat.blt f 97 then (bif Nat.blt f 95 then (bif Nat.blt f 94 then ([]) else ([])) else (bif Nat.blt f 96 then ([]) else (kp96))) else (bif Nat.blt f 99 then (bif Nat.blt f 98 then (kp97) else (kp98)) else (bif Nat.blt f 100 then (kp99) else (bif Nat.blt f 101 then (kp100) else (kp101))))))) else (bif Nat.blt f 119 then (bif Nat.blt f 110 then (bif Nat.blt f 106 then (bif Nat.blt f 104 then (bif Nat.blt f 103 then ([]) else ([])) else (bif Nat.blt f 105 then (kp104) else (kp105))) else (bif Nat.blt f 108 then (bif Nat.blt f 107 then (kp106) else (kp107)) else (bif Nat.blt f 109 then (kp108) else (kp109)))) else (bif Nat.blt f 114 then (bif Nat.blt f 112 then (bif Nat.blt f 111 then (kp110) else (kp111)) else (bif Nat.blt f 113 then ([]) else ([]))) else (bif Nat.blt f 116 then (bif Nat.blt f 115 then ([]) else (kp115)) else (bif Nat.blt f 117 then ([]) else (bif Nat.blt f 118 then ([]) else (kp118)))))) else (bif Nat.blt f 127 then (bif Nat.blt f 123 then (bif Nat.blt f 121 then (bif Nat.blt f 120 then ([]) else (kp120)) else (bif Nat.blt f 122 then (kp121) else ([]))) else (bif Nat.blt f 125 then (bif Nat.blt f 124 then ([]) else ([])) else (bif Nat.blt f 126 then (kp125) else (kp126)))) else (bif Nat.blt f 131 then (bif Nat.blt f 129 then (bif Nat.blt f 128 then ([]) else ([])) else (bif Nat.blt f 130 then ([]) else ([]))) else (bif Nat.blt f 133 then (bif Nat.blt f 132 then (kp131) else ([])) else (bif Nat.blt f 134 then (kp133) else (bif Nat.blt f 135 then (kp134) else (kp135))))))))) else (bif Nat.blt f 204 then (bif Nat.blt f 170 then (bif Nat.blt f 153 then (bif Nat.blt f 144 then (bif Nat.blt f 140 then (bif Nat.blt f 138 then (bif Nat.blt f 137 then (kp136) else (kp137)) else (bif Nat.blt f 139 then (kp138) else (kp139))) else (bif Nat.blt f 142 then (bif Nat.blt f 141 then (kp140) else (kp141)) else (bif Nat.blt f 143 then ([]) else ([])))) else (bif Nat.blt f 148 then (bif Nat.blt f 146 then (bif Nat.blt f 145 then ([]) else ([])) else (bif Nat.blt f 147 then ([]) else ([]))) else (bif Nat.blt f 150 then (bif Nat.blt f 149 then ([]) else (kp149)) else (bif Nat.blt f 151 then ([]) else (bif Nat.blt f 152 then ([]) else ([])))))) else (bif Nat.blt f 161 then (bif Nat.blt f 157 then (bif Nat.blt f 155 then (bif Nat.blt f 154 then ([]) else (kp154)) else (bif Nat.blt f 156 then ([]) else ([]))) else (bif Nat.blt f 159 then (bif Nat.blt f 158 then ([]) else ([])) else (bif Nat.blt f 160 then (kp159) else ([])))) else (bif Nat.blt f 165 then (bif Nat.blt f 163 then (bif Nat.blt f 162 then ([]) else ([])) else (bif Nat.blt f 164 then ([]) else ([]))) else (bif Nat.blt f 167 then (bif Nat.blt f 166 then ([]) else ([])) else (bif Nat.blt f 168 then ([]) else (bif Nat.blt f 169 then ([]) else ([]))))))) else (bif Nat.blt f 187 then (bif Nat.blt f 178 then (bif Nat.blt f 174 then (bif Nat.blt f 172 then (bif Nat.blt f 171 then ([]) else ([])) else (bif Nat.blt f 173 then (kp172) else (kp173))) else (bif Nat.blt f 176 then (bif Nat.blt f 175 then (kp174) else (kp175)) else (bif Nat.blt f 177 then (kp176) else (kp177)))) else (bif Nat.blt f 182 then (bif Nat.blt f 180 then (bif Nat.blt f 179 then (kp178) else (kp179)) else (bif Nat.blt f 181 then (kp180) else ([]))) else (bif Nat.blt f 184 then (bif Nat.blt f 183 then ([]) else ([])) else (bif Nat.blt f 185 then ([]) else (bif Nat.blt f 186 then ([]) else (kp186)))))) else (bif Nat.blt f 195 then (bif Nat.blt f 191 then (bif Nat.blt f 189 then (bif Nat.blt f 188 then (kp187) else ([])) else (bif Nat.blt f 190 then (kp189) else (kp190))) else (bif Nat.blt f 193 then (bif Nat.blt f 192 then (kp191) else (kp192)) else (bif Nat.blt f 194 then (kp193) else (kp194)))) else (bif Nat.blt f 199 then (bif Nat.blt f 197 then (bif Nat.blt f 196 then (kp195) else (kp196)) else (bif Nat.blt f 198 then ([]) else ([]))) else (bif Nat.blt f 201 then (bif Nat.blt f 200 then ([]) else (kp200)) else (bif Nat.blt f 202 then (kp201) else (bif Nat.blt f 203 then (kp202) else ([])))))))) else (bif Nat.blt f 238 then (bif Nat.blt f 221 then (bif Nat.blt f 212 then (bif Nat.blt f 208 then (bif Nat.blt f 206 then (bif Nat.blt f 205 then ([]) else (kp205)) else (bif Nat.blt f 207 then (kp206) else ([]))) else (bif Nat.blt f 210 then (bif Nat.blt f 209 then ([]) else ([])) else (bif Nat.blt f 211 then ([]) else ([])))) else (bif Nat.blt f 216 then (bif Nat.blt f 214 then (bif Nat.blt f 213 then ([]) else ([])) else (bif Nat.blt f 215 then ([]) else ([]))) else (bif Nat.blt f 218 then (bif Nat.blt f 217 then ([]) else (kp217)) else (bif Nat.blt f 219 then (kp218) else (bif Nat.blt f 220 then (kp219) else (kp220)))))) else (bif Nat.blt f 229 then (bif Nat.blt f 225 then (bif Nat.blt f 223 then (bif Nat.blt f 222 then (kp221) else (kp222)) else (bif Nat.blt f 224 then (kp223) else (kp224))) else (bif Nat.blt f 227 then (bif Nat.blt f 226 then (kp225) else ([])) else (bif Nat.blt f 228 then ([]) else (kp228)))) else (bif Nat.blt f 233 then (bif Nat.blt f 231 then (bif Nat.blt f 230 then (kp229) else (kp230)) else (bif Nat.blt f 232 then (kp231) else ([]))) else (bif Nat.blt f 235 then (bif Nat.blt f 234 then ([]) else ([])) else (bif Nat.blt f 236 then ([]) else (bif Nat.blt f 237 then ([]) else ([]))))))) else (bif Nat.blt f 255 then (bif Nat.blt f 246 then (bif Nat.blt f 242 then (bif Nat.blt f 240 then (bif Nat.blt f 239 then ([]) else ([])) else (bif Nat.blt f 241 then ([]) else (kp241))) else (bif Nat.blt f 244 then (bif Nat.blt f 243 then (kp242) else (kp243)) else (bif Nat.blt f 245 then (kp244) else (kp245)))) else (bif Nat.blt f 250 then (bif Nat.blt f 248 then (bif Nat.blt f 247 then (kp246) else (kp247)) else (bif Nat.blt f 249 then ([]) else (kp249))) else (bif Nat.blt f 252 then (bif Nat.blt f 251 then ([]) else (kp251)) else (bif Nat.blt f 253 then ([]) else ([]))))) else ([]))))
def kpLook (id : Nat) : List (Nat × List Nat) → List Nat
 | [] => []
 | (i, l) :: r => bif Nat.beq i id then l else kpLook id r
def kpS (f id : Nat) : List Nat := kpLook id (kpT f)
def speaksT : List Nat := [25, 39, 47, 59, 74]
abbrev shortT : Nat := 200
def moreS (f : Nat) : Option Sp := bif Nat.beq f 35 then some (tryV 200) else bif Nat.beq f 104 then some (fun _ args H => cloneV 2 16 args H) else bif Nat.beq f 118 then some (fun _ args H => cloneV 3 12 args H) else bif Nat.beq f 159 then some (fun _ args H => cloneV 2 40 args H) else bif Nat.beq f 244 then some stuckSp else none
def ownersW : List Nat := [999999, 39, 47, 59, 74]
def ownW (k : Nat) : Mode := bif ownersW.contains (k % 1000000) then .no else .fz
def mdS (k f : Nat) : Mode := bif Nat.blt f 136 then (bif Nat.blt f 68 then (bif Nat.blt f 34 then (bif Nat.blt f 17 then (bif Nat.blt f 8 then (bif Nat.blt f 4 then (bif Nat.blt f 2 then (.gc) else (bif Nat.blt f 3 then (.no) else (.gc))) else (.gc)) else (.gc)) else (bif Nat.blt f 25 then (.gc) else (bif Nat.blt f 29 then (bif Nat.blt f 27 then (.gc) else (bif Nat.blt f 28 then (ownW k) else (.fz))) else (bif Nat.blt f 31 then (bif Nat.blt f 30 then (.fz) else (.no)) else (bif Nat.blt f 32 then (.no) else (bif Nat.blt f 33 then (.fz) else (own k))))))) else (bif Nat.blt f 51 then (bif Nat.blt f 42 then (bif Nat.blt f 38 then (bif Nat.blt f 36 then (bif Nat.blt f 35 then (.fz) else (.no)) else (bif Nat.blt f 37 then (.no) else (.fz))) else (bif Nat.blt f 40 then (.gc) else (bif Nat.blt f 41 then (.no) else (.fz)))) else (bif Nat.blt f 46 then (bif Nat.blt f 44 then (bif Nat.blt f 43 then (.fz) else (.no)) else (bif Nat.blt f 45 then (.no) else (.gc))) else (bif Nat.blt f 48 then (bif Nat.blt f 47 then (own k) else (.gc)) else (.fz)))) else (bif Nat.blt f 59 then (bif Nat.blt f 55 then (bif Nat.blt f 53 then (bif Nat.blt f 52 then (.no) else (.fz)) else (bif Nat.blt f 54 then (.fz) else (own k))) else (bif Nat.blt f 57 then (bif Nat.blt f 56 then (.no) else (.fz)) else (.gc))) else (bif Nat.blt f 63 then (bif Nat.blt f 61 then (bif Nat.blt f 60 then (.gc) else (.fz)) else (bif Nat.blt f 62 then (.fz) else (.no))) else (bif Nat.blt f 65 then (bif Nat.blt f 64 then (.fz) else (.gc)) else (bif Nat.blt f 66 then (own k) else (bif Nat.blt f 67 then (.fz) else (.no)))))))) else (bif Nat.blt f 102 then (bif Nat.blt f 85 then (bif Nat.blt f 76 then (bif Nat.blt f 72 then (bif Nat.blt f 70 then (bif Nat.blt f 69 then (.fz) else (.gc)) else (bif Nat.blt f 71 then (own k) else (.fz))) else (bif Nat.blt f 74 then (.fz) else (.gc))) else (bif Nat.blt f 80 then (bif Nat.blt f 78 then (.fz) else (bif Nat.blt f 79 then (.no) else (.fz))) else (bif Nat.blt f 82 then (bif Nat.blt f 81 then (.no) else (.fz)) else (bif Nat.blt f 83 then (.fz) else (bif Nat.blt f 84 then (.fz) else (.gc)))))) else (bif Nat.blt f 93 then (bif Nat.blt f 89 then (bif Nat.blt f 87 then (bif Nat.blt f 86 then (.no) else (.fz)) else (.gc)) else (bif Nat.blt f 91 then (bif Nat.blt f 90 then (.no) else (.gc)) else (.gc))) else (bif Nat.blt f 97 then (bif Nat.blt f 95 then (bif Nat.blt f 94 then (.gc) else (.no)) else (bif Nat.blt f 96 then (.fz) else (.gc))) else (bif Nat.blt f 99 then (bif Nat.blt f 98 then (.fz) else (.gc)) else (bif Nat.blt f 100 then (.gc) else (bif Nat.blt f 101 then (.no) else (.gc))))))) else (bif Nat.blt f 119 then (bif Nat.blt f 110 then (bif Nat.blt f 106 then (.no) else (bif Nat.blt f 108 then (bif Nat.blt f 107 then (.fz) else (.gc)) else (bif Nat.blt f 109 then (.gc) else (own k)))) else (bif Nat.blt f 114 then (bif Nat.blt f 112 then (bif Nat.blt f 111 then (.gc) else (.fz)) else (bif Nat.blt f 113 then (.no) else (.gc))) else (bif Nat.blt f 116 then (bif Nat.blt f 115 then (.no) else (.gc)) else (bif Nat.blt f 117 then (.gc) else (.no))))) else (bif Nat.blt f 127 then (bif Nat.blt f 123 then (bif Nat.blt f 121 then (bif Nat.blt f 120 then (.no) else (.fz)) else (bif Nat.blt f 122 then (.gc) else (.no))) else (bif Nat.blt f 125 then (.no) else (.gc))) else (bif Nat.blt f 131 then (bif Nat.blt f 129 then (bif Nat.blt f 128 then (.gc) else (.fz)) else (.fz)) else (bif Nat.blt f 133 then (.gc) else (bif Nat.blt f 134 then (.gc) else (bif Nat.blt f 135 then (.no) else (.gc))))))))) else (bif Nat.blt f 204 then (bif Nat.blt f 170 then (bif Nat.blt f 153 then (bif Nat.blt f 144 then (bif Nat.blt f 140 then (bif Nat.blt f 138 then (.no) else (bif Nat.blt f 139 then (.no) else (.fz))) else (bif Nat.blt f 142 then (bif Nat.blt f 141 then (.fz) else (.gc)) else (bif Nat.blt f 143 then (.no) else (.fz)))) else (bif Nat.blt f 148 then (bif Nat.blt f 146 then (.no) else (.gc)) else (bif Nat.blt f 150 then (.gc) else (bif Nat.blt f 151 then (.no) else (bif Nat.blt f 152 then (.fz) else (.gc)))))) else (bif Nat.blt f 161 then (bif Nat.blt f 157 then (bif Nat.blt f 155 then (.gc) else (bif Nat.blt f 156 then (.no) else (.gc))) else (bif Nat.blt f 159 then (bif Nat.blt f 158 then (.gc) else (.no)) else (.no))) else (bif Nat.blt f 165 then (.gc) else (bif Nat.blt f 167 then (.gc) else (bif Nat.blt f 168 then (.gc) else (.no)))))) else (bif Nat.blt f 187 then (bif Nat.blt f 178 then (bif Nat.blt f 174 then (bif Nat.blt f 172 then (.no) else (bif Nat.blt f 173 then (.fz) else (.no))) else (bif Nat.blt f 176 then (bif Nat.blt f 175 then (.no) else (.gc)) else (bif Nat.blt f 177 then (.fz) else (.no)))) else (bif Nat.blt f 182 then (bif Nat.blt f 180 then (bif Nat.blt f 179 then (.no) else (.gc)) else (.gc)) else (bif Nat.blt f 184 then (bif Nat.blt f 183 then (.gc) else (.no)) else (bif Nat.blt f 185 then (.no) else (bif Nat.blt f 186 then (.no) else (.gc)))))) else (bif Nat.blt f 195 then (bif Nat.blt f 191 then (bif Nat.blt f 189 then (.gc) else (bif Nat.blt f 190 then (.no) else (.gc))) else (bif Nat.blt f 193 then (bif Nat.blt f 192 then (.gc) else (.no)) else (.gc))) else (bif Nat.blt f 199 then (bif Nat.blt f 197 then (.fz) else (bif Nat.blt f 198 then (.gc) else (.no))) else (bif Nat.blt f 201 then (.fz) else (.gc)))))) else (bif Nat.blt f 238 then (bif Nat.blt f 221 then (bif Nat.blt f 212 then (bif Nat.blt f 208 then (bif Nat.blt f 206 then (.gc) else (bif Nat.blt f 207 then (.gc) else (.no))) else (bif Nat.blt f 210 then (.gc) else (bif Nat.blt f 211 then (.gc) else (.no)))) else (bif Nat.blt f 216 then (bif Nat.blt f 214 then (.gc) else (bif Nat.blt f 215 then (.no) else (.gc))) else (bif Nat.blt f 218 then (bif Nat.blt f 217 then (.no) else (.fz)) else (bif Nat.blt f 219 then (.fz) else (bif Nat.blt f 220 then (.fz) else (.gc)))))) else (bif Nat.blt f 229 then (bif Nat.blt f 225 then (bif Nat.blt f 223 then (bif Nat.blt f 222 then (.gc) else (.fz)) else (.fz)) else (bif Nat.blt f 227 then (bif Nat.blt f 226 then (.fz) else (.gc)) else (bif Nat.blt f 228 then (.no) else (.gc)))) else (bif Nat.blt f 233 then (bif Nat.blt f 231 then (bif Nat.blt f 230 then (.gc) else (.no)) else (.no)) else (bif Nat.blt f 235 then (bif Nat.blt f 234 then (.no) else (.fz)) else (bif Nat.blt f 236 then (.gc) else (.no)))))) else (bif Nat.blt f 255 then (bif Nat.blt f 246 then (bif Nat.blt f 242 then (bif Nat.blt f 240 then (bif Nat.blt f 239 then (.gc) else (.no)) else (.gc)) else (bif Nat.blt f 244 then (bif Nat.blt f 243 then (.gc) else (.fz)) else (.no))) else (bif Nat.blt f 250 then (bif Nat.blt f 248 then (.gc) else (.no)) else (bif Nat.blt f 252 then (.no) else (bif Nat.blt f 253 then (.no) else (.gc))))) else (bif Nat.blt f 264 then (.gc) else (bif Nat.blt f 268 then (.gc) else (bif Nat.blt f 270 then (bif Nat.blt f 269 then (.gc) else (.no)) else (.gc)))))))
def arS (f : Nat) : Bool := [49, 61, 71].any (Nat.beq f)
noncomputable def C (k : Nat) : Cfg := { P := Prog, kp := kpS, sp := spOf speaksT moreS (k % 1000000) }
noncomputable def T (k : Nat) : Told := { c := C k, md := mdS k, ar := arS }
theorem ζof (f : FuncId) (s : Sp) (h : moreS f = some s) : ∀ args H, Scott fun call => s call args H := by
 unfold moreS at h;cases h35 : Nat.beq f 35 with
 | true => rw [h35, cond_true] at h; injection h with h; subst h; first | exact fun args H => Scott.const _ | exact Scott.tryV _ | exact Scott.told _
 | false =>
 rw [h35, cond_false] at h;cases h104 : Nat.beq f 104 with
 | true => rw [h104, cond_true] at h; injection h with h; subst h; first | exact fun args H => Scott.const _ | exact Scott.tryV _ | exact Scott.told _
 | false =>
 rw [h104, cond_false] at h;cases h118 : Nat.beq f 118 with
 | true => rw [h118, cond_true] at h; injection h with h; subst h; first | exact fun args H => Scott.const _ | exact Scott.tryV _ | exact Scott.told _
 | false =>
 rw [h118, cond_false] at h;cases h159 : Nat.beq f 159 with
 | true => rw [h159, cond_true] at h; injection h with h; subst h; first | exact fun args H => Scott.const _ | exact Scott.tryV _ | exact Scott.told _
 | false =>
 rw [h159, cond_false] at h;cases h244 : Nat.beq f 244 with
 | true => rw [h244, cond_true] at h; injection h with h; subst h; first | exact fun args H => Scott.const _ | exact Scott.tryV _ | exact Scott.told _
 | false =>
 rw [h244, cond_false] at h;cases h
theorem T_scott (k : Nat) : SpScott (T k).c := SpScott.of ζof
@[simp] theorem be_24_0 (ps : List (Nat × Value)) (h : Heap) : buildSliceR Prog 24 0 ps h = beR 4 0 ps [] h := be_eq (e := 31) (by kernel_rfl) (by kernel_rfl) (by kernel_rfl) (by kernel_rfl) ps h
@[simp] theorem ld_24 (a : Value) (h : Heap) : loadR Prog 24 a h = ld1 a h := ld1_eq (by kernel_rfl) a h
@[simp] theorem ap_24 (a b : Value) (h : Heap) : builtinV Prog .append [24, 24] [a, b] h = apR 4 32 a b h := ap_is (e := 31) (z := .agg #[.int .i64 0, .int .i64 0, .int .i64 0, .int .i64 0]) (by kernel_rfl) (by kernel_rfl) (by kernel_rfl) (by kernel_rfl) (by kernel_rfl) a b h
@[simp] theorem st_24 (a v : Value) (h : Heap) : storeR Prog 24 a v h = stR 1 a v h := st_eq (by kernel_rfl) a v h
@[simp] theorem len_24 (x : Value) (h : Heap) : builtinV Prog .len [24] [x] h = lnS x h := lnS_eq (e := 31) (by kernel_rfl) x h
@[simp] theorem ix_24 (x i : Value) (h : Heap) : indexAddrR Prog 24 x i h = ixS 4 x i h := ixS_eq (e := 31) (by kernel_rfl) (by kernel_rfl) x i h
@[simp] theorem fa_31_1 (a : Value) (h : Heap) : fieldAddrR Prog 31 a 1 h = faR 1 1 a h := fa_is (ft := 3) (by kernel_rfl) (by kernel_rfl) a h
@[simp] theorem ld_3 (a : Value) (h : Heap) : loadR Prog 3 a h = ld1 a h := ld1_eq (by kernel_rfl) a h
@[simp] theorem st_3 (a v : Value) (h : Heap) : storeR Prog 3 a v h = stR 1 a v h := st_eq (by kernel_rfl) a v h
@[simp] theorem al_41 (h : Heap) : allocR Prog 41 h = newP [.slice none 0 0, .int .i64 0, .int .i64 0, .int .i64 0, .int .i64 0, .int .i64 0, .int .i64 0, .slice none 0 0, .slice none 0 0] h := al_eq (z := .agg #[.slice none 0 0, .int .i64 0, .int .i64 0, .int .i64 0, .int .i64 0, .int .i64 0, .int .i64 0, .slice none 0 0, .slice none 0 0]) (by kernel_rfl) h
@[simp] theorem st_41 (a v : Value) (h : Heap) : storeR Prog 41 a v h = stR 9 a v h := st_eq (by kernel_rfl) a v h
@[simp] theorem fa_41_5 (a : Value) (h : Heap) : fieldAddrR Prog 41 a 5 h = faR 5 1 a h := fa_is (ft := 3) (by kernel_rfl) (by kernel_rfl) a h
@[simp] theorem fa_41_4 (a : Value) (h : Heap) : fieldAddrR Prog 41 a 4 h = faR 4 1 a h := fa_is (ft := 3) (by kernel_rfl) (by kernel_rfl) a h
@[simp] theorem ld_22 (a : Value) (h : Heap) : loadR Prog 22 a h = ld1 a h := ld1_eq (by kernel_rfl) a h
@[simp] theorem len_22 (x : Value) (h : Heap) : builtinV Prog .len [22] [x] h = lnS x h := lnS_eq (e := 5) (by kernel_rfl) x h
@[simp] theorem len_27 (x : Value) (h : Heap) : builtinV Prog .len [27] [x] h = lnS x h := lnS_eq (e := 3) (by kernel_rfl) x h
@[simp] theorem mk_27 (l c : Value) (h : Heap) : makeSliceV Prog 27 l c h = mkR 1 8 [.int .i64 0] l c h := mk_is (e := 3) (z := .int .i64 0) (by kernel_rfl) (by kernel_rfl) (by kernel_rfl) (by kernel_rfl) (by kernel_rfl) l c h
@[simp] theorem cv_5_3 (x : Value) (H : Heap) : convR Prog 5 3 x H = cvK .i64 x H := ζgp (by kernel_rfl) (by kernel_rfl) x H
@[simp] theorem bd_31 (ps : List (Nat × Value)) (h : Heap) : buildR Prog 31 ps h = bdR [(0, 1), (1, 1), (2, 1), (3, 1)] ps [.int .i64 0, .int .i64 0, .int .i64 0, .int .i64 0] h := bd_is (z := .agg #[.int .i64 0, .int .i64 0, .int .i64 0, .int .i64 0]) (by kernel_rfl) (by kernel_rfl) (by kernel_rfl) ps h
@[simp] theorem ix_27 (x i : Value) (h : Heap) : indexAddrR Prog 27 x i h = ixS 1 x i h := ixS_eq (e := 3) (by kernel_rfl) (by kernel_rfl) x i h
@[simp] theorem ld_4 (a : Value) (h : Heap) : loadR Prog 4 a h = ld1 a h := ld1_eq (by kernel_rfl) a h
@[simp] theorem cv_21_3 (x : Value) (H : Heap) : convR Prog 21 3 x H = cvK .i64 x H := ζgp (by kernel_rfl) (by kernel_rfl) x H
@[simp] theorem eqp_99 (cs : Array Value) (h : Heap) : binR Prog .eql 99 (boxV cs) (.pointer none) h = .ok (.bool false) h := by kernel_rfl
@[simp] theorem eqn_99 (h : Heap) : binR Prog .eql 99 (.pointer none) (.pointer none) h = .ok (.bool true) h := by kernel_rfl
@[simp] theorem al_103 (h : Heap) : allocR Prog 103 h = newP [.slice none 0 0, .int .i64 0, .int .i64 0, .int .i64 0, .int .i64 0, .int .i64 0, .int .i64 0, .slice none 0 0, .slice none 0 0, .slice none 0 0, .slice none 0 0, .slice none 0 0] h := al_eq (z := .agg #[.slice none 0 0, .int .i64 0, .int .i64 0, .int .i64 0, .int .i64 0, .int .i64 0, .int .i64 0, .slice none 0 0, .slice none 0 0, .slice none 0 0, .slice none 0 0, .slice none 0 0]) (by kernel_rfl) h
@[simp] theorem st_103 (a v : Value) (h : Heap) : storeR Prog 103 a v h = stR 12 a v h := st_eq (by kernel_rfl) a v h
@[simp] theorem ld_103 (a : Value) (h : Heap) : loadR Prog 103 a h = ldA 12 a h := ldA_eq (by kernel_rfl) (by kernel_rfl) a h
@[simp] theorem ix_22 (x i : Value) (h : Heap) : indexAddrR Prog 22 x i h = ixS 1 x i h := ixS_eq (e := 5) (by kernel_rfl) (by kernel_rfl) x i h
@[simp] theorem len_48 (x : Value) (h : Heap) : builtinV Prog .len [48] [x] h = lnS x h := lnS_eq (e := 115) (by kernel_rfl) x h
@[simp] theorem ix_48 (x i : Value) (h : Heap) : indexAddrR Prog 48 x i h = ixS 2 x i h := ixS_eq (e := 115) (by kernel_rfl) (by kernel_rfl) x i h
@[simp] theorem ld_115 (a : Value) (h : Heap) : loadR Prog 115 a h = ldA 2 a h := ldA_eq (by kernel_rfl) (by kernel_rfl) a h
@[simp] theorem al_115 (h : Heap) : allocR Prog 115 h = newP [.int .i64 0, .int .i64 0] h := al_eq (z := .agg #[.int .i64 0, .int .i64 0]) (by kernel_rfl) h
@[simp] theorem st_115 (a v : Value) (h : Heap) : storeR Prog 115 a v h = stR 2 a v h := st_eq (by kernel_rfl) a v h
@[simp] theorem fa_115_1 (a : Value) (h : Heap) : fieldAddrR Prog 115 a 1 h = faR 1 1 a h := fa_is (ft := 3) (by kernel_rfl) (by kernel_rfl) a h
@[simp] theorem bd_115 (ps : List (Nat × Value)) (h : Heap) : buildR Prog 115 ps h = bdR [(0, 1), (1, 1)] ps [.int .i64 0, .int .i64 0] h := bd_is (z := .agg #[.int .i64 0, .int .i64 0]) (by kernel_rfl) (by kernel_rfl) (by kernel_rfl) ps h
@[simp] theorem fa_115_0 (a : Value) (h : Heap) : fieldAddrR Prog 115 a 0 h = faR 0 1 a h := fa_is (ft := 3) (by kernel_rfl) (by kernel_rfl) a h
@[simp] theorem neI_115 (a0 a1 b0 b1 : Int) (h : Heap) : binR Prog .neq 115 (.agg #[.int .i64 a0, .int .i64 a1]) (.agg #[.int .i64 b0, .int .i64 b1]) h = .ok (.bool (!([a0, a1] == [b0, b1]))) h := neI_is (ks := [.i64, .i64]) (by kernel_rfl) [a0, a1] [b0, b1] rfl rfl h
@[simp] theorem fa_103_0 (a : Value) (h : Heap) : fieldAddrR Prog 103 a 0 h = faR 0 9 a h := fa_is (ft := 41) (by kernel_rfl) (by kernel_rfl) a h
@[simp] theorem al_99 (h : Heap) : allocR Prog 99 h = newP [.pointer none] h := al_eq (z := .pointer none) (by kernel_rfl) h
@[simp] theorem ld_99 (a : Value) (h : Heap) : loadR Prog 99 a h = ld1 a h := ld1_eq (by kernel_rfl) a h
@[simp] theorem ld_27 (a : Value) (h : Heap) : loadR Prog 27 a h = ld1 a h := ld1_eq (by kernel_rfl) a h
@[simp] theorem be_27_1 (ps : List (Nat × Value)) (h : Heap) : buildSliceR Prog 27 1 ps h = beR 1 1 ps [.int .i64 0] h := be_eq (e := 3) (by kernel_rfl) (by kernel_rfl) (by kernel_rfl) (by kernel_rfl) ps h
@[simp] theorem ap_27 (a b : Value) (h : Heap) : builtinV Prog .append [27, 27] [a, b] h = apR 1 8 a b h := ap_is (e := 3) (z := .int .i64 0) (by kernel_rfl) (by kernel_rfl) (by kernel_rfl) (by kernel_rfl) (by kernel_rfl) a b h
@[simp] theorem fa_31_2 (a : Value) (h : Heap) : fieldAddrR Prog 31 a 2 h = faR 2 1 a h := fa_is (ft := 3) (by kernel_rfl) (by kernel_rfl) a h
@[simp] theorem fa_31_3 (a : Value) (h : Heap) : fieldAddrR Prog 31 a 3 h = faR 3 1 a h := fa_is (ft := 3) (by kernel_rfl) (by kernel_rfl) a h
@[simp] theorem ld_5 (a : Value) (h : Heap) : loadR Prog 5 a h = ld1 a h := ld1_eq (by kernel_rfl) a h
@[simp] theorem ap_167 (a b : Value) (h : Heap) : builtinV Prog .append [167, 167] [a, b] h = apR 2 40 a b h := ap_is (e := 165) (z := .agg #[.string ⟨#[]⟩, .slice none 0 0]) (by kernel_rfl) (by kernel_rfl) (by kernel_rfl) (by kernel_rfl) (by kernel_rfl) a b h
@[simp] theorem ix_23 (x i : Value) (h : Heap) : indexAddrR Prog 23 x i h = ixS 1 x i h := ixS_eq (e := 22) (by kernel_rfl) (by kernel_rfl) x i h
@[simp] theorem ld_31 (a : Value) (h : Heap) : loadR Prog 31 a h = ldA 4 a h := ldA_eq (by kernel_rfl) (by kernel_rfl) a h
@[simp] theorem al_31 (h : Heap) : allocR Prog 31 h = newP [.int .i64 0, .int .i64 0, .int .i64 0, .int .i64 0] h := al_eq (z := .agg #[.int .i64 0, .int .i64 0, .int .i64 0, .int .i64 0]) (by kernel_rfl) h
@[simp] theorem st_31 (a v : Value) (h : Heap) : storeR Prog 31 a v h = stR 4 a v h := st_eq (by kernel_rfl) a v h
@[simp] theorem fa_31_0 (a : Value) (h : Heap) : fieldAddrR Prog 31 a 0 h = faR 0 1 a h := fa_is (ft := 3) (by kernel_rfl) (by kernel_rfl) a h
@[simp] theorem ap_22 (a b : Value) (h : Heap) : builtinV Prog .append [22, 22] [a, b] h = apR 1 1 a b h := ap_is (e := 5) (z := .int .u8 0) (by kernel_rfl) (by kernel_rfl) (by kernel_rfl) (by kernel_rfl) (by kernel_rfl) a b h
@[simp] theorem ld_41 (a : Value) (h : Heap) : loadR Prog 41 a h = ldA 9 a h := ldA_eq (by kernel_rfl) (by kernel_rfl) a h
@[simp] theorem bd_41 (ps : List (Nat × Value)) (h : Heap) : buildR Prog 41 ps h = bdR [(0, 1), (1, 1), (2, 1), (3, 1), (4, 1), (5, 1), (6, 1), (7, 2)] ps [.slice none 0 0, .int .i64 0, .int .i64 0, .int .i64 0, .int .i64 0, .int .i64 0, .int .i64 0, .slice none 0 0, .slice none 0 0] h := bd_is (z := .agg #[.slice none 0 0, .int .i64 0, .int .i64 0, .int .i64 0, .int .i64 0, .int .i64 0, .int .i64 0, .slice none 0 0, .slice none 0 0]) (by kernel_rfl) (by kernel_rfl) (by kernel_rfl) ps h
@[simp] theorem fa_41_1 (a : Value) (h : Heap) : fieldAddrR Prog 41 a 1 h = faR 1 1 a h := fa_is (ft := 3) (by kernel_rfl) (by kernel_rfl) a h
@[simp] theorem fa_41_2 (a : Value) (h : Heap) : fieldAddrR Prog 41 a 2 h = faR 2 1 a h := fa_is (ft := 3) (by kernel_rfl) (by kernel_rfl) a h
@[simp] theorem fa_41_3 (a : Value) (h : Heap) : fieldAddrR Prog 41 a 3 h = faR 3 1 a h := fa_is (ft := 3) (by kernel_rfl) (by kernel_rfl) a h
@[simp] theorem sl_22 (x : Value) (lo hi mx : Option Value) (h : Heap) : sliceR Prog 22 x lo hi mx h = slS 1 x lo hi mx h := slS_eq (e := 5) (by kernel_rfl) (by kernel_rfl) x lo hi mx h
@[simp] theorem al_39 (h : Heap) : allocR Prog 39 h = newP [.slice none 0 0, .slice none 0 0] h := al_eq (z := .agg #[.slice none 0 0, .slice none 0 0]) (by kernel_rfl) h
@[simp] theorem st_39 (a v : Value) (h : Heap) : storeR Prog 39 a v h = stR 2 a v h := st_eq (by kernel_rfl) a v h
@[simp] theorem ld_39 (a : Value) (h : Heap) : loadR Prog 39 a h = ldA 2 a h := ldA_eq (by kernel_rfl) (by kernel_rfl) a h
@[simp] theorem fa_41_7 (a : Value) (h : Heap) : fieldAddrR Prog 41 a 7 h = faR 7 2 a h := fa_is (ft := 39) (by kernel_rfl) (by kernel_rfl) a h
@[simp] theorem bd_191 (ps : List (Nat × Value)) (h : Heap) : buildR Prog 191 ps h = bdR [(0, 1)] ps [.slice none 0 0] h := bd_is (z := .agg #[.slice none 0 0]) (by kernel_rfl) (by kernel_rfl) (by kernel_rfl) ps h
@[simp] theorem fa_191_0 (a : Value) (h : Heap) : fieldAddrR Prog 191 a 0 h = faR 0 1 a h := fa_is (ft := 48) (by kernel_rfl) (by kernel_rfl) a h
@[simp] theorem ld_48 (a : Value) (h : Heap) : loadR Prog 48 a h = ld1 a h := ld1_eq (by kernel_rfl) a h
@[simp] theorem be_48_1 (ps : List (Nat × Value)) (h : Heap) : buildSliceR Prog 48 1 ps h = beR 2 1 ps [.int .i64 0, .int .i64 0] h := be_eq (e := 115) (by kernel_rfl) (by kernel_rfl) (by kernel_rfl) (by kernel_rfl) ps h
@[simp] theorem ap_48 (a b : Value) (h : Heap) : builtinV Prog .append [48, 48] [a, b] h = apR 2 16 a b h := ap_is (e := 115) (z := .agg #[.int .i64 0, .int .i64 0]) (by kernel_rfl) (by kernel_rfl) (by kernel_rfl) (by kernel_rfl) (by kernel_rfl) a b h
@[simp] theorem st_48 (a v : Value) (h : Heap) : storeR Prog 48 a v h = stR 1 a v h := st_eq (by kernel_rfl) a v h
@[simp] theorem ld_180 (a : Value) (h : Heap) : loadR Prog 180 a h = ld1 a h := ld1_eq (by kernel_rfl) a h
@[simp] theorem ld_44 (a : Value) (h : Heap) : loadR Prog 44 a h = ld1 a h := ld1_eq (by kernel_rfl) a h
@[simp] theorem be_48_0 (ps : List (Nat × Value)) (h : Heap) : buildSliceR Prog 48 0 ps h = beR 2 0 ps [] h := be_eq (e := 115) (by kernel_rfl) (by kernel_rfl) (by kernel_rfl) (by kernel_rfl) ps h
@[simp] theorem st_4 (a v : Value) (h : Heap) : storeR Prog 4 a v h = stR 1 a v h := st_eq (by kernel_rfl) a v h
@[simp] theorem ld_55 (a : Value) (h : Heap) : loadR Prog 55 a h = ldA 1 a h := ldA_eq (by kernel_rfl) (by kernel_rfl) a h
@[simp] theorem al_55 (h : Heap) : allocR Prog 55 h = newP [.slice none 0 0] h := al_eq (z := .agg #[.slice none 0 0]) (by kernel_rfl) h
@[simp] theorem bd_55 (ps : List (Nat × Value)) (h : Heap) : buildR Prog 55 ps h = bdR [(0, 1)] ps [.slice none 0 0] h := bd_is (z := .agg #[.slice none 0 0]) (by kernel_rfl) (by kernel_rfl) (by kernel_rfl) ps h
@[simp] theorem st_55 (a v : Value) (h : Heap) : storeR Prog 55 a v h = stR 1 a v h := st_eq (by kernel_rfl) a v h
@[simp] theorem ap_70 (a b : Value) (h : Heap) : builtinV Prog .append [70, 70] [a, b] h = apR 3 12 a b h := ap_is (e := 91) (z := .agg #[.int .i32 0, .int .i32 0, .int .i32 0]) (by kernel_rfl) (by kernel_rfl) (by kernel_rfl) (by kernel_rfl) (by kernel_rfl) a b h
@[simp] theorem al_232 (h : Heap) : allocR Prog 232 h = newP [.int .i64 0, .int .i64 0, .int .i64 0, .int .i64 0, .int .i64 0, .bool false, .int .i64 0] h := al_eq (z := .agg #[.int .i64 0, .int .i64 0, .int .i64 0, .int .i64 0, .int .i64 0, .bool false, .int .i64 0]) (by kernel_rfl) h
@[simp] theorem st_232 (a v : Value) (h : Heap) : storeR Prog 232 a v h = stR 7 a v h := st_eq (by kernel_rfl) a v h
@[simp] theorem be_27_0 (ps : List (Nat × Value)) (h : Heap) : buildSliceR Prog 27 0 ps h = beR 1 0 ps [] h := be_eq (e := 3) (by kernel_rfl) (by kernel_rfl) (by kernel_rfl) (by kernel_rfl) ps h
@[simp] theorem fa_232_5 (a : Value) (h : Heap) : fieldAddrR Prog 232 a 5 h = faR 5 1 a h := fa_is (ft := 4) (by kernel_rfl) (by kernel_rfl) a h
@[simp] theorem ld_232 (a : Value) (h : Heap) : loadR Prog 232 a h = ldA 7 a h := ldA_eq (by kernel_rfl) (by kernel_rfl) a h
@[simp] theorem fa_232_1 (a : Value) (h : Heap) : fieldAddrR Prog 232 a 1 h = faR 1 1 a h := fa_is (ft := 3) (by kernel_rfl) (by kernel_rfl) a h
@[simp] theorem sl_27 (x : Value) (lo hi mx : Option Value) (h : Heap) : sliceR Prog 27 x lo hi mx h = slS 1 x lo hi mx h := slS_eq (e := 3) (by kernel_rfl) (by kernel_rfl) x lo hi mx h
@[simp] theorem fa_232_6 (a : Value) (h : Heap) : fieldAddrR Prog 232 a 6 h = faR 6 1 a h := fa_is (ft := 3) (by kernel_rfl) (by kernel_rfl) a h
@[simp] theorem be_70_0 (ps : List (Nat × Value)) (h : Heap) : buildSliceR Prog 70 0 ps h = beR 3 0 ps [] h := be_eq (e := 91) (by kernel_rfl) (by kernel_rfl) (by kernel_rfl) (by kernel_rfl) ps h
@[simp] theorem st_99 (a v : Value) (h : Heap) : storeR Prog 99 a v h = stR 1 a v h := st_eq (by kernel_rfl) a v h
@[simp] theorem bd_103 (ps : List (Nat × Value)) (h : Heap) : buildR Prog 103 ps h = bdR [(0, 9), (9, 1), (10, 1), (11, 1)] ps [.slice none 0 0, .int .i64 0, .int .i64 0, .int .i64 0, .int .i64 0, .int .i64 0, .int .i64 0, .slice none 0 0, .slice none 0 0, .slice none 0 0, .slice none 0 0, .slice none 0 0] h := bd_is (z := .agg #[.slice none 0 0, .int .i64 0, .int .i64 0, .int .i64 0, .int .i64 0, .int .i64 0, .int .i64 0, .slice none 0 0, .slice none 0 0, .slice none 0 0, .slice none 0 0, .slice none 0 0]) (by kernel_rfl) (by kernel_rfl) (by kernel_rfl) ps h
@[simp] theorem be_23_0 (ps : List (Nat × Value)) (h : Heap) : buildSliceR Prog 23 0 ps h = beR 1 0 ps [] h := be_eq (e := 22) (by kernel_rfl) (by kernel_rfl) (by kernel_rfl) (by kernel_rfl) ps h
@[simp] theorem be_23_1 (ps : List (Nat × Value)) (h : Heap) : buildSliceR Prog 23 1 ps h = beR 1 1 ps [.slice none 0 0] h := be_eq (e := 22) (by kernel_rfl) (by kernel_rfl) (by kernel_rfl) (by kernel_rfl) ps h
@[simp] theorem ap_23 (a b : Value) (h : Heap) : builtinV Prog .append [23, 23] [a, b] h = apR 1 24 a b h := ap_is (e := 22) (z := .slice none 0 0) (by kernel_rfl) (by kernel_rfl) (by kernel_rfl) (by kernel_rfl) (by kernel_rfl) a b h
@[simp] theorem fa_103_1 (a : Value) (h : Heap) : fieldAddrR Prog 103 a 1 h = faR 9 1 a h := fa_is (ft := 22) (by kernel_rfl) (by kernel_rfl) a h
@[simp] theorem st_22 (a v : Value) (h : Heap) : storeR Prog 22 a v h = stR 1 a v h := st_eq (by kernel_rfl) a v h
@[simp] theorem fa_103_2 (a : Value) (h : Heap) : fieldAddrR Prog 103 a 2 h = faR 10 1 a h := fa_is (ft := 22) (by kernel_rfl) (by kernel_rfl) a h
@[simp] theorem fa_103_3 (a : Value) (h : Heap) : fieldAddrR Prog 103 a 3 h = faR 11 1 a h := fa_is (ft := 22) (by kernel_rfl) (by kernel_rfl) a h
@[simp] theorem al_241 (h : Heap) : allocR Prog 241 h = newP [.slice none 0 0] h := al_eq (z := .slice none 0 0) (by kernel_rfl) h
@[simp] theorem fa_243_0 (a : Value) (h : Heap) : fieldAddrR Prog 243 a 0 h = faR 0 1 a h := fa_is (ft := 180) (by kernel_rfl) (by kernel_rfl) a h
@[simp] theorem bd_247 (ps : List (Nat × Value)) (h : Heap) : buildR Prog 247 ps h = bdR [(0, 1), (1, 1)] ps [.slice none 0 0, .slice none 0 0] h := bd_is (z := .agg #[.slice none 0 0, .slice none 0 0]) (by kernel_rfl) (by kernel_rfl) (by kernel_rfl) ps h
@[simp] theorem al_247 (h : Heap) : allocR Prog 247 h = newP [.slice none 0 0, .slice none 0 0] h := al_eq (z := .agg #[.slice none 0 0, .slice none 0 0]) (by kernel_rfl) h
@[simp] theorem st_247 (a v : Value) (h : Heap) : storeR Prog 247 a v h = stR 2 a v h := st_eq (by kernel_rfl) a v h
@[simp] theorem fa_247_0 (a : Value) (h : Heap) : fieldAddrR Prog 247 a 0 h = faR 0 1 a h := fa_is (ft := 48) (by kernel_rfl) (by kernel_rfl) a h
@[simp] theorem ld_247 (a : Value) (h : Heap) : loadR Prog 247 a h = ldA 2 a h := ldA_eq (by kernel_rfl) (by kernel_rfl) a h
@[simp] theorem bd_243 (ps : List (Nat × Value)) (h : Heap) : buildR Prog 243 ps h = bdR [(0, 1), (1, 1), (2, 1), (3, 1)] ps [.pointer none, .slice none 0 0, .slice none 0 0, .slice none 0 0] h := bd_is (z := .agg #[.pointer none, .slice none 0 0, .slice none 0 0, .slice none 0 0]) (by kernel_rfl) (by kernel_rfl) (by kernel_rfl) ps h
@[simp] theorem fa_243_1 (a : Value) (h : Heap) : fieldAddrR Prog 243 a 1 h = faR 1 1 a h := fa_is (ft := 55) (by kernel_rfl) (by kernel_rfl) a h
@[simp] theorem be_24_1 (ps : List (Nat × Value)) (h : Heap) : buildSliceR Prog 24 1 ps h = beR 4 1 ps [.int .i64 0, .int .i64 0, .int .i64 0, .int .i64 0] h := be_eq (e := 31) (by kernel_rfl) (by kernel_rfl) (by kernel_rfl) (by kernel_rfl) ps h
@[simp] theorem ld_66 (a : Value) (h : Heap) : loadR Prog 66 a h = ld1 a h := ld1_eq (by kernel_rfl) a h
@[simp] theorem len_37 (x : Value) (h : Heap) : builtinV Prog .len [37] [x] h = lnS x h := lnS_eq (e := 294) (by kernel_rfl) x h
@[simp] theorem ix_37 (x i : Value) (h : Heap) : indexAddrR Prog 37 x i h = ixS 5 x i h := ixS_eq (e := 294) (by kernel_rfl) (by kernel_rfl) x i h
@[simp] theorem fa_294_0 (a : Value) (h : Heap) : fieldAddrR Prog 294 a 0 h = faR 0 1 a h := fa_is (ft := 3) (by kernel_rfl) (by kernel_rfl) a h
@[simp] theorem fa_294_1 (a : Value) (h : Heap) : fieldAddrR Prog 294 a 1 h = faR 1 1 a h := fa_is (ft := 3) (by kernel_rfl) (by kernel_rfl) a h
@[simp] theorem bd_39 (ps : List (Nat × Value)) (h : Heap) : buildR Prog 39 ps h = bdR [(0, 1), (1, 1)] ps [.slice none 0 0, .slice none 0 0] h := bd_is (z := .agg #[.slice none 0 0, .slice none 0 0]) (by kernel_rfl) (by kernel_rfl) (by kernel_rfl) ps h
@[simp] theorem bd_297 (ps : List (Nat × Value)) (h : Heap) : buildR Prog 297 ps h = bdR [(0, 1), (1, 1), (2, 1), (3, 1), (4, 1), (5, 1)] ps [.pointer none, .pointer none, .int .i64 0, .int .i64 0, .int .i64 0, .int .i64 0] h := bd_is (z := .agg #[.pointer none, .pointer none, .int .i64 0, .int .i64 0, .int .i64 0, .int .i64 0]) (by kernel_rfl) (by kernel_rfl) (by kernel_rfl) ps h
@[simp] theorem fa_297_4 (a : Value) (h : Heap) : fieldAddrR Prog 297 a 4 h = faR 4 1 a h := fa_is (ft := 3) (by kernel_rfl) (by kernel_rfl) a h
@[simp] theorem fa_297_5 (a : Value) (h : Heap) : fieldAddrR Prog 297 a 5 h = faR 5 1 a h := fa_is (ft := 3) (by kernel_rfl) (by kernel_rfl) a h
@[simp] theorem bd_304 (ps : List (Nat × Value)) (h : Heap) : buildR Prog 304 ps h = bdR [(0, 1), (1, 1), (2, 1), (3, 1)] ps [.int .i64 0, .pointer none, .slice none 0 0, .slice none 0 0] h := bd_is (z := .agg #[.int .i64 0, .pointer none, .slice none 0 0, .slice none 0 0]) (by kernel_rfl) (by kernel_rfl) (by kernel_rfl) ps h
@[simp] theorem bd_306 (ps : List (Nat × Value)) (h : Heap) : buildR Prog 306 ps h = bdR [(0, 1), (1, 1), (2, 1), (3, 1)] ps [.pointer none, .slice none 0 0, .slice none 0 0, .int .i64 0] h := bd_is (z := .agg #[.pointer none, .slice none 0 0, .slice none 0 0, .int .i64 0]) (by kernel_rfl) (by kernel_rfl) (by kernel_rfl) ps h
@[simp] theorem al_306 (h : Heap) : allocR Prog 306 h = newP [.pointer none, .slice none 0 0, .slice none 0 0, .int .i64 0] h := al_eq (z := .agg #[.pointer none, .slice none 0 0, .slice none 0 0, .int .i64 0]) (by kernel_rfl) h
@[simp] theorem st_306 (a v : Value) (h : Heap) : storeR Prog 306 a v h = stR 4 a v h := st_eq (by kernel_rfl) a v h
@[simp] theorem fa_304_2 (a : Value) (h : Heap) : fieldAddrR Prog 304 a 2 h = faR 2 1 a h := fa_is (ft := 302) (by kernel_rfl) (by kernel_rfl) a h
@[simp] theorem ld_302 (a : Value) (h : Heap) : loadR Prog 302 a h = ld1 a h := ld1_eq (by kernel_rfl) a h
@[simp] theorem len_302 (x : Value) (h : Heap) : builtinV Prog .len [302] [x] h = lnS x h := lnS_eq (e := 27) (by kernel_rfl) x h
@[simp] theorem fa_304_3 (a : Value) (h : Heap) : fieldAddrR Prog 304 a 3 h = faR 3 1 a h := fa_is (ft := 24) (by kernel_rfl) (by kernel_rfl) a h
@[simp] theorem ld_306 (a : Value) (h : Heap) : loadR Prog 306 a h = ldA 4 a h := ldA_eq (by kernel_rfl) (by kernel_rfl) a h
@[simp] theorem fa_55_0 (a : Value) (h : Heap) : fieldAddrR Prog 55 a 0 h = faR 0 1 a h := fa_is (ft := 22) (by kernel_rfl) (by kernel_rfl) a h
@[simp] theorem be_22_0 (ps : List (Nat × Value)) (h : Heap) : buildSliceR Prog 22 0 ps h = beR 1 0 ps [] h := be_eq (e := 5) (by kernel_rfl) (by kernel_rfl) (by kernel_rfl) (by kernel_rfl) ps h
@[simp] theorem fa_41_6 (a : Value) (h : Heap) : fieldAddrR Prog 41 a 6 h = faR 6 1 a h := fa_is (ft := 3) (by kernel_rfl) (by kernel_rfl) a h
@[simp] theorem fa_41_0 (a : Value) (h : Heap) : fieldAddrR Prog 41 a 0 h = faR 0 1 a h := fa_is (ft := 22) (by kernel_rfl) (by kernel_rfl) a h
@[simp] theorem bd_232 (ps : List (Nat × Value)) (h : Heap) : buildR Prog 232 ps h = bdR [(0, 1), (1, 1), (2, 1), (3, 1), (4, 1), (5, 1), (6, 1)] ps [.int .i64 0, .int .i64 0, .int .i64 0, .int .i64 0, .int .i64 0, .bool false, .int .i64 0] h := bd_is (z := .agg #[.int .i64 0, .int .i64 0, .int .i64 0, .int .i64 0, .int .i64 0, .bool false, .int .i64 0]) (by kernel_rfl) (by kernel_rfl) (by kernel_rfl) ps h
@[simp] theorem fa_232_0 (a : Value) (h : Heap) : fieldAddrR Prog 232 a 0 h = faR 0 1 a h := fa_is (ft := 3) (by kernel_rfl) (by kernel_rfl) a h
@[simp] theorem fa_232_2 (a : Value) (h : Heap) : fieldAddrR Prog 232 a 2 h = faR 2 1 a h := fa_is (ft := 3) (by kernel_rfl) (by kernel_rfl) a h
@[simp] theorem fa_232_3 (a : Value) (h : Heap) : fieldAddrR Prog 232 a 3 h = faR 3 1 a h := fa_is (ft := 3) (by kernel_rfl) (by kernel_rfl) a h
@[simp] theorem fa_232_4 (a : Value) (h : Heap) : fieldAddrR Prog 232 a 4 h = faR 4 1 a h := fa_is (ft := 3) (by kernel_rfl) (by kernel_rfl) a h
@[simp] theorem ld_241 (a : Value) (h : Heap) : loadR Prog 241 a h = ld1 a h := ld1_eq (by kernel_rfl) a h
@[simp] theorem len_241 (x : Value) (h : Heap) : builtinV Prog .len [241] [x] h = lnS x h := lnS_eq (e := 3) (by kernel_rfl) x h
@[simp] theorem ix_241 (x i : Value) (h : Heap) : indexAddrR Prog 241 x i h = ixS 1 x i h := ixS_eq (e := 3) (by kernel_rfl) (by kernel_rfl) x i h
@[simp] theorem be_241_1 (ps : List (Nat × Value)) (h : Heap) : buildSliceR Prog 241 1 ps h = beR 1 1 ps [.int .i64 0] h := be_eq (e := 3) (by kernel_rfl) (by kernel_rfl) (by kernel_rfl) (by kernel_rfl) ps h
@[simp] theorem ap_241 (a b : Value) (h : Heap) : builtinV Prog .append [241, 241] [a, b] h = apR 1 8 a b h := ap_is (e := 3) (z := .int .i64 0) (by kernel_rfl) (by kernel_rfl) (by kernel_rfl) (by kernel_rfl) (by kernel_rfl) a b h
@[simp] theorem st_241 (a v : Value) (h : Heap) : storeR Prog 241 a v h = stR 1 a v h := st_eq (by kernel_rfl) a v h
@[simp] theorem sl_241 (x : Value) (lo hi mx : Option Value) (h : Heap) : sliceR Prog 241 x lo hi mx h = slS 1 x lo hi mx h := slS_eq (e := 3) (by kernel_rfl) (by kernel_rfl) x lo hi mx h
@[simp] theorem fa_243_2 (a : Value) (h : Heap) : fieldAddrR Prog 243 a 2 h = faR 2 1 a h := fa_is (ft := 55) (by kernel_rfl) (by kernel_rfl) a h
@[simp] theorem fa_247_1 (a : Value) (h : Heap) : fieldAddrR Prog 247 a 1 h = faR 1 1 a h := fa_is (ft := 27) (by kernel_rfl) (by kernel_rfl) a h
@[simp] theorem st_27 (a v : Value) (h : Heap) : storeR Prog 27 a v h = stR 1 a v h := st_eq (by kernel_rfl) a v h
@[simp] theorem fa_329_1 (a : Value) (h : Heap) : fieldAddrR Prog 329 a 1 h = faR 1 1 a h := fa_is (ft := 327) (by kernel_rfl) (by kernel_rfl) a h
@[simp] theorem ld_327 (a : Value) (h : Heap) : loadR Prog 327 a h = ld1 a h := ld1_eq (by kernel_rfl) a h
@[simp] theorem len_327 (x : Value) (h : Heap) : builtinV Prog .len [327] [x] h = lnS x h := lnS_eq (e := 331) (by kernel_rfl) x h
@[simp] theorem ix_327 (x i : Value) (h : Heap) : indexAddrR Prog 327 x i h = ixS 3 x i h := ixS_eq (e := 331) (by kernel_rfl) (by kernel_rfl) x i h
@[simp] theorem fa_331_0 (a : Value) (h : Heap) : fieldAddrR Prog 331 a 0 h = faR 0 1 a h := fa_is (ft := 3) (by kernel_rfl) (by kernel_rfl) a h
@[simp] theorem ld_331 (a : Value) (h : Heap) : loadR Prog 331 a h = ldA 3 a h := ldA_eq (by kernel_rfl) (by kernel_rfl) a h
@[simp] theorem be_167_0 (ps : List (Nat × Value)) (h : Heap) : buildSliceR Prog 167 0 ps h = beR 2 0 ps [] h := be_eq (e := 165) (by kernel_rfl) (by kernel_rfl) (by kernel_rfl) (by kernel_rfl) ps h
@[simp] theorem bd_294 (ps : List (Nat × Value)) (h : Heap) : buildR Prog 294 ps h = bdR [(0, 1), (1, 1), (2, 1), (3, 1), (4, 1)] ps [.int .i64 0, .int .i64 0, .int .i64 0, .int .i64 0, .int .i64 0] h := bd_is (z := .agg #[.int .i64 0, .int .i64 0, .int .i64 0, .int .i64 0, .int .i64 0]) (by kernel_rfl) (by kernel_rfl) (by kernel_rfl) ps h
@[simp] theorem be_37_1 (ps : List (Nat × Value)) (h : Heap) : buildSliceR Prog 37 1 ps h = beR 5 1 ps [.int .i64 0, .int .i64 0, .int .i64 0, .int .i64 0, .int .i64 0] h := be_eq (e := 294) (by kernel_rfl) (by kernel_rfl) (by kernel_rfl) (by kernel_rfl) ps h
@[simp] theorem be_37_0 (ps : List (Nat × Value)) (h : Heap) : buildSliceR Prog 37 0 ps h = beR 5 0 ps [] h := be_eq (e := 294) (by kernel_rfl) (by kernel_rfl) (by kernel_rfl) (by kernel_rfl) ps h
@[simp] theorem ap_37 (a b : Value) (h : Heap) : builtinV Prog .append [37, 37] [a, b] h = apR 5 40 a b h := ap_is (e := 294) (z := .agg #[.int .i64 0, .int .i64 0, .int .i64 0, .int .i64 0, .int .i64 0]) (by kernel_rfl) (by kernel_rfl) (by kernel_rfl) (by kernel_rfl) (by kernel_rfl) a b h
@[simp] theorem fa_297_0 (a : Value) (h : Heap) : fieldAddrR Prog 297 a 0 h = faR 0 1 a h := fa_is (ft := 180) (by kernel_rfl) (by kernel_rfl) a h
@[simp] theorem fa_297_2 (a : Value) (h : Heap) : fieldAddrR Prog 297 a 2 h = faR 2 1 a h := fa_is (ft := 3) (by kernel_rfl) (by kernel_rfl) a h
@[simp] theorem fa_297_3 (a : Value) (h : Heap) : fieldAddrR Prog 297 a 3 h = faR 3 1 a h := fa_is (ft := 3) (by kernel_rfl) (by kernel_rfl) a h
@[simp] theorem ld_197 (a : Value) (h : Heap) : loadR Prog 197 a h = ld1 a h := ld1_eq (by kernel_rfl) a h
@[simp] theorem bd_352 (ps : List (Nat × Value)) (h : Heap) : buildR Prog 352 ps h = bdR [(0, 1), (1, 1), (2, 1)] ps [.slice none 0 0, .int .i64 0, .int .i64 0] h := bd_is (z := .agg #[.slice none 0 0, .int .i64 0, .int .i64 0]) (by kernel_rfl) (by kernel_rfl) (by kernel_rfl) ps h
@[simp] theorem al_352 (h : Heap) : allocR Prog 352 h = newP [.slice none 0 0, .int .i64 0, .int .i64 0] h := al_eq (z := .agg #[.slice none 0 0, .int .i64 0, .int .i64 0]) (by kernel_rfl) h
@[simp] theorem st_352 (a v : Value) (h : Heap) : storeR Prog 352 a v h = stR 3 a v h := st_eq (by kernel_rfl) a v h
@[simp] theorem bd_329 (ps : List (Nat × Value)) (h : Heap) : buildR Prog 329 ps h = bdR [(0, 1), (1, 1)] ps [.int .i64 0, .slice none 0 0] h := bd_is (z := .agg #[.int .i64 0, .slice none 0 0]) (by kernel_rfl) (by kernel_rfl) (by kernel_rfl) ps h
@[simp] theorem fa_329_0 (a : Value) (h : Heap) : fieldAddrR Prog 329 a 0 h = faR 0 1 a h := fa_is (ft := 3) (by kernel_rfl) (by kernel_rfl) a h
@[simp] theorem bd_331 (ps : List (Nat × Value)) (h : Heap) : buildR Prog 331 ps h = bdR [(0, 1), (1, 1), (2, 1)] ps [.int .i64 0, .int .i64 0, .slice none 0 0] h := bd_is (z := .agg #[.int .i64 0, .int .i64 0, .slice none 0 0]) (by kernel_rfl) (by kernel_rfl) (by kernel_rfl) ps h
@[simp] theorem be_327_1 (ps : List (Nat × Value)) (h : Heap) : buildSliceR Prog 327 1 ps h = beR 3 1 ps [.int .i64 0, .int .i64 0, .slice none 0 0] h := be_eq (e := 331) (by kernel_rfl) (by kernel_rfl) (by kernel_rfl) (by kernel_rfl) ps h
@[simp] theorem st_327 (a v : Value) (h : Heap) : storeR Prog 327 a v h = stR 1 a v h := st_eq (by kernel_rfl) a v h
@[simp] theorem ld_352 (a : Value) (h : Heap) : loadR Prog 352 a h = ldA 3 a h := ldA_eq (by kernel_rfl) (by kernel_rfl) a h
@[simp] theorem fa_331_1 (a : Value) (h : Heap) : fieldAddrR Prog 331 a 1 h = faR 1 1 a h := fa_is (ft := 3) (by kernel_rfl) (by kernel_rfl) a h
@[simp] theorem fa_306_0 (a : Value) (h : Heap) : fieldAddrR Prog 306 a 0 h = faR 0 1 a h := fa_is (ft := 180) (by kernel_rfl) (by kernel_rfl) a h
@[simp] theorem fa_304_0 (a : Value) (h : Heap) : fieldAddrR Prog 304 a 0 h = faR 0 1 a h := fa_is (ft := 3) (by kernel_rfl) (by kernel_rfl) a h
@[simp] theorem fa_306_1 (a : Value) (h : Heap) : fieldAddrR Prog 306 a 1 h = faR 1 1 a h := fa_is (ft := 55) (by kernel_rfl) (by kernel_rfl) a h
@[simp] theorem be_302_1 (ps : List (Nat × Value)) (h : Heap) : buildSliceR Prog 302 1 ps h = beR 1 1 ps [.slice none 0 0] h := be_eq (e := 27) (by kernel_rfl) (by kernel_rfl) (by kernel_rfl) (by kernel_rfl) ps h
@[simp] theorem ap_302 (a b : Value) (h : Heap) : builtinV Prog .append [302, 302] [a, b] h = apR 1 24 a b h := ap_is (e := 27) (z := .slice none 0 0) (by kernel_rfl) (by kernel_rfl) (by kernel_rfl) (by kernel_rfl) (by kernel_rfl) a b h
@[simp] theorem st_302 (a v : Value) (h : Heap) : storeR Prog 302 a v h = stR 1 a v h := st_eq (by kernel_rfl) a v h
@[simp] theorem fa_306_3 (a : Value) (h : Heap) : fieldAddrR Prog 306 a 3 h = faR 3 1 a h := fa_is (ft := 3) (by kernel_rfl) (by kernel_rfl) a h
@[simp] theorem fa_306_2 (a : Value) (h : Heap) : fieldAddrR Prog 306 a 2 h = faR 2 1 a h := fa_is (ft := 55) (by kernel_rfl) (by kernel_rfl) a h
@[simp] theorem cv_3_117 (x : Value) (H : Heap) : convR Prog 3 117 x H = cvK .u32 x H := ζgp (by kernel_rfl) (by kernel_rfl) x H
@[simp] theorem ζrq (x : Value) (H : Heap) : convR Prog 117 21 x H = cvK .i32 x H := ζgp (by kernel_rfl) (by kernel_rfl) x H
@[simp] theorem fa_243_3 (a : Value) (h : Heap) : fieldAddrR Prog 243 a 3 h = faR 3 1 a h := fa_is (ft := 55) (by kernel_rfl) (by kernel_rfl) a h
@[simp] theorem bd_200 (ps : List (Nat × Value)) (h : Heap) : buildR Prog 200 ps h = bdR [] ps [] h := bd_is (z := .agg #[]) (by kernel_rfl) (by kernel_rfl) (by kernel_rfl) ps h
@[simp] theorem if_200 (x : Value) (h : Heap) : ifaceR Prog 200 x h = .ok (.iface 200 x) h := by kernel_rfl
@[simp] theorem fa_331_2 (a : Value) (h : Heap) : fieldAddrR Prog 331 a 2 h = faR 2 1 a h := fa_is (ft := 27) (by kernel_rfl) (by kernel_rfl) a h
@[simp] theorem al_294 (h : Heap) : allocR Prog 294 h = newP [.int .i64 0, .int .i64 0, .int .i64 0, .int .i64 0, .int .i64 0] h := al_eq (z := .agg #[.int .i64 0, .int .i64 0, .int .i64 0, .int .i64 0, .int .i64 0]) (by kernel_rfl) h
@[simp] theorem st_294 (a v : Value) (h : Heap) : storeR Prog 294 a v h = stR 5 a v h := st_eq (by kernel_rfl) a v h
@[simp] theorem fa_294_2 (a : Value) (h : Heap) : fieldAddrR Prog 294 a 2 h = faR 2 1 a h := fa_is (ft := 3) (by kernel_rfl) (by kernel_rfl) a h
@[simp] theorem fa_294_4 (a : Value) (h : Heap) : fieldAddrR Prog 294 a 4 h = faR 4 1 a h := fa_is (ft := 3) (by kernel_rfl) (by kernel_rfl) a h
@[simp] theorem ld_294 (a : Value) (h : Heap) : loadR Prog 294 a h = ldA 5 a h := ldA_eq (by kernel_rfl) (by kernel_rfl) a h
@[simp] theorem fa_297_1 (a : Value) (h : Heap) : fieldAddrR Prog 297 a 1 h = faR 1 1 a h := fa_is (ft := 44) (by kernel_rfl) (by kernel_rfl) a h
@[simp] theorem ix_302 (x i : Value) (h : Heap) : indexAddrR Prog 302 x i h = ixS 1 x i h := ixS_eq (e := 27) (by kernel_rfl) (by kernel_rfl) x i h
@[simp] theorem fa_352_2 (a : Value) (h : Heap) : fieldAddrR Prog 352 a 2 h = faR 2 1 a h := fa_is (ft := 3) (by kernel_rfl) (by kernel_rfl) a h
@[simp] theorem fa_352_0 (a : Value) (h : Heap) : fieldAddrR Prog 352 a 0 h = faR 0 1 a h := fa_is (ft := 55) (by kernel_rfl) (by kernel_rfl) a h
@[simp] theorem len_368 (x : Value) (h : Heap) : builtinV Prog .len [368] [x] h = lnS x h := lnS_eq (e := 55) (by kernel_rfl) x h
@[simp] theorem ix_368 (x i : Value) (h : Heap) : indexAddrR Prog 368 x i h = ixS 1 x i h := ixS_eq (e := 55) (by kernel_rfl) (by kernel_rfl) x i h
@[simp] theorem al_331 (h : Heap) : allocR Prog 331 h = newP [.int .i64 0, .int .i64 0, .slice none 0 0] h := al_eq (z := .agg #[.int .i64 0, .int .i64 0, .slice none 0 0]) (by kernel_rfl) h
@[simp] theorem st_331 (a v : Value) (h : Heap) : storeR Prog 331 a v h = stR 3 a v h := st_eq (by kernel_rfl) a v h
@[simp] theorem ap_327 (a b : Value) (h : Heap) : builtinV Prog .append [327, 327] [a, b] h = apR 3 40 a b h := ap_is (e := 331) (z := .agg #[.int .i64 0, .int .i64 0, .slice none 0 0]) (by kernel_rfl) (by kernel_rfl) (by kernel_rfl) (by kernel_rfl) (by kernel_rfl) a b h
@[simp] theorem fa_39_1 (a : Value) (h : Heap) : fieldAddrR Prog 39 a 1 h = faR 1 1 a h := fa_is (ft := 37) (by kernel_rfl) (by kernel_rfl) a h
@[simp] theorem ld_37 (a : Value) (h : Heap) : loadR Prog 37 a h = ld1 a h := ld1_eq (by kernel_rfl) a h
@[simp] theorem fa_39_0 (a : Value) (h : Heap) : fieldAddrR Prog 39 a 0 h = faR 0 1 a h := fa_is (ft := 22) (by kernel_rfl) (by kernel_rfl) a h
@[simp] theorem fa_294_3 (a : Value) (h : Heap) : fieldAddrR Prog 294 a 3 h = faR 3 1 a h := fa_is (ft := 3) (by kernel_rfl) (by kernel_rfl) a h
@[simp] theorem fa_304_1 (a : Value) (h : Heap) : fieldAddrR Prog 304 a 1 h = faR 1 1 a h := fa_is (ft := 66) (by kernel_rfl) (by kernel_rfl) a h
@[simp] theorem be_368_1 (ps : List (Nat × Value)) (h : Heap) : buildSliceR Prog 368 1 ps h = beR 1 1 ps [.slice none 0 0] h := be_eq (e := 55) (by kernel_rfl) (by kernel_rfl) (by kernel_rfl) (by kernel_rfl) ps h
@[simp] theorem ap_368 (a b : Value) (h : Heap) : builtinV Prog .append [368, 368] [a, b] h = apR 1 24 a b h := ap_is (e := 55) (z := .agg #[.slice none 0 0]) (by kernel_rfl) (by kernel_rfl) (by kernel_rfl) (by kernel_rfl) (by kernel_rfl) a b h
@[simp] theorem sl_368 (x : Value) (lo hi mx : Option Value) (h : Heap) : sliceR Prog 368 x lo hi mx h = slS 1 x lo hi mx h := slS_eq (e := 55) (by kernel_rfl) (by kernel_rfl) x lo hi mx h
end
end Go.Sw
