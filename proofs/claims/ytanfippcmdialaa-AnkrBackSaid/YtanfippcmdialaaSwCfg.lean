/-
  The seat's functions by their names, and facts of their types.
-/
import Derived.Test.YtanfippcmdialaaSwLib7
import Derived.Test.YtanfippcmdialaaRows
namespace Go.Sw
noncomputable section
noncomputable abbrev Prog : Program := Go.Proofs.Try.prog
namespace F
abbrev swashlaw24_AnkrBack : Nat := 6
abbrev swashlaw24_AnkrCuts : Nat := 8
abbrev swashlaw24_AnkrTakes : Nat := 9
abbrev lookup_Table_All : Nat := 25
abbrev lookup_Table_Get : Nat := 26
abbrev swashlaw24_speaks : Nat := 33
abbrev swashlaw24_Write : Nat := 34
abbrev ankr_Read : Nat := 35
abbrev ankr_Table_Count : Nat := 36
abbrev ankr_Table_Get : Nat := 37
abbrev view_Try : Nat := 40
abbrev swashlaw24_AnkrTakes_in1 : Nat := 41
abbrev ankr_Take : Nat := 42
abbrev view_Of : Nat := 43
abbrev swashref02_Put : Nat := 63
abbrev slices_Clone_of_api_Glyph_api_Glyph : Nat := 71
abbrev slices_Insert_of_api_Glyph_api_Glyph : Nat := 75
abbrev lookup_Take : Nat := 78
abbrev lookup_Table_All_in1 : Nat := 80
abbrev lookup_part_at : Nat := 81
abbrev seek_First : Nat := 82
abbrev lookup_Table_Get_in1 : Nat := 83
abbrev view_View_Bytes : Nat := 95
abbrev ankr_Read_in1 : Nat := 96
abbrev view_View_U32 : Nat := 97
abbrev view_View_I16 : Nat := 98
abbrev view_Need : Nat := 101
abbrev view_View_U16 : Nat := 102
abbrev view_View_Rest : Nat := 103
abbrev view_View_Rows : Nat := 104
abbrev view_View_Cut : Nat := 107
abbrev slices_Clone_of_api_Place_api_Place : Nat := 115
abbrev slices_Clone_of_sfnt_Part_sfnt_Part : Nat := 134
abbrev lookup_list : Nat := 150
abbrev lookup_reader_segments : Nat := 151
abbrev lookup_reader_single : Nat := 152
abbrev lookup_reader_trimmed : Nat := 153
abbrev view_Fail : Nat := 154
abbrev view_View_piece : Nat := 159
abbrev lookup_number : Nat := 187
abbrev seek_Take : Nat := 188
abbrev view_View_U8 : Nat := 199
abbrev seek_none : Nat := 200
end F
def kp2 : List (Nat × List Nat) := [(0, [])]
def kp6 : List (Nat × List Nat) := [(0, [0, 1]), (1, [0, 1, 21]), (2, [4]), (3, [0, 1, 24]), (4, [4]), (5, [0, 1, 25, 26, 27]), (6, [0, 1, 25, 26, 27, 28]), (7, [0, 1, 6, 25, 26, 27]), (8, [0, 1, 25, 26, 27, 33]), (9, [4]), (10, [0, 1, 25, 26, 27]), (11, [0, 1, 7]), (12, [0, 1, 7, 8, 9]), (13, [0, 1, 7, 8, 47]), (14, [4]), (15, [0, 1, 7, 8, 49, 50]), (16, [0, 1, 7, 8, 49, 50, 51]), (17, [0, 1, 7, 8, 10, 49, 50]), (18, [0, 1, 7, 8, 49, 50]), (19, [0, 1, 7, 8, 49, 50]), (20, [0, 8, 58, 59, 60]), (21, [0, 8, 58, 59, 60, 61]), (22, [0, 8, 11, 12, 58, 59, 60]), (23, [0, 8, 11, 12, 58, 59, 60, 70]), (24, [4]), (25, [0, 8, 11, 12, 58, 59, 60, 71, 72, 73]), (26, [0, 8, 11, 12, 58, 59, 60, 71, 72, 73, 74]), (27, [0, 8, 11, 12, 13, 14, 58, 59, 60, 71, 72, 73]), (28, [0, 8, 11, 12, 14, 15, 16, 58, 59, 60, 71, 72, 73]), (29, [0, 8, 11, 12, 58, 59, 60, 71, 72, 73, 102]), (30, [4]), (31, [0, 8, 11, 12, 58, 59, 60, 71, 72, 73]), (32, [0, 8, 18, 58, 59, 60]), (33, [0, 8, 58, 59, 60, 112]), (34, [4]), (35, [0, 8, 58, 59, 60]), (36, [0, 8, 19]), (37, [4]), (1000006, [0, 1, 25, 26, 27]), (1000016, [0, 1, 7, 8, 49, 50]), (1000021, [0, 8, 58, 59, 60]), (1000026, [0, 8, 11, 12, 58, 59, 60, 71, 72, 73])]
def kp8 : List (Nat × List Nat) := [(0, [0, 1]), (1, [0, 1, 11]), (2, [4]), (3, [0, 1, 19]), (4, [4]), (5, [0, 1, 20, 21, 22]), (6, [0, 1, 20, 21, 22, 23]), (7, [0, 1, 6, 20, 21, 22]), (8, [0, 1, 20, 21, 22, 28]), (9, [4]), (10, [0, 1, 20, 21, 22]), (11, [1, 7]), (12, [9]), (13, [4]), (1000006, [0, 1, 20, 21, 22])]
def kp9 : List (Nat × List Nat) := [(0, [1]), (1, [1, 14]), (2, [2]), (3, [1, 17]), (4, [2]), (5, [1, 3]), (6, [1, 3, 4]), (7, [3, 4, 5, 6]), (8, [3, 4, 5, 40]), (9, [2]), (10, [3, 4, 5, 7]), (11, [3, 4, 5, 7, 45]), (12, [3, 4, 5, 7]), (13, [3, 4, 5, 7, 8]), (14, [3, 4, 5, 7, 8, 49]), (15, [3, 4, 5, 7, 8]), (16, [3, 4, 5, 7, 8, 9, 10]), (17, [3, 4, 5, 7, 8, 9, 10, 11, 12]), (18, [3, 4, 5, 7, 8, 82]), (19, [2]), (20, [2]), (1000011, [3, 4, 5, 7]), (1000014, [3, 4, 5, 7, 8])]
def kp15 : List (Nat × List Nat) := [(0, []), (1, [1]), (2, [1, 18]), (3, [0]), (4, [1, 2, 3]), (5, [0])]
def kp22 : List (Nat × List Nat) := [(0, []), (1, [1, 2]), (2, [1, 17]), (3, [0]), (4, [1, 3, 4]), (5, [1, 3, 4, 6]), (6, [0])]
def kp25 : List (Nat × List Nat) := [(0, [1]), (1, [2])]
def kp26 : List (Nat × List Nat) := [(0, [2, 3]), (1, [2, 3, 6]), (2, [2, 3, 6, 32]), (3, [4, 5]), (4, [4, 5])]
def kp33 : List (Nat × List Nat) := [(0, []), (1, [1, 2]), (2, [1, 19]), (3, [0]), (4, [1, 3, 4]), (5, [0])]
def kp34 : List (Nat × List Nat) := [(0, [0]), (1, [0, 3]), (2, [0, 3, 4]), (3, [0, 3, 4, 5]), (4, [3, 4, 5, 18, 19, 20]), (5, [3, 4, 5, 18, 19, 20, 21]), (6, [3, 4, 5, 7, 18, 19, 20]), (7, [3, 4, 5, 7, 18, 19, 20]), (8, [3, 4, 5, 7, 18, 19, 20]), (9, [3, 4, 5, 18, 19, 20, 32, 33, 34]), (10, [3, 4, 5, 18, 19, 20, 32, 33, 34, 35]), (11, [3, 4, 5, 9, 18, 19, 20, 32, 33, 34]), (12, [3, 4, 5, 18, 19, 20, 32, 33, 34]), (13, [3, 4, 5, 18, 19, 20, 32, 33, 34]), (14, [3, 4, 5, 18, 19, 20]), (15, [2]), (1000005, [3, 4, 5, 18, 19, 20]), (1000010, [3, 4, 5, 18, 19, 20, 32, 33, 34])]
def kp35 : List (Nat × List Nat) := [(0, [0, 3, 4]), (1, [0, 3, 4, 12]), (2, [4, 5]), (3, [3, 4, 6]), (4, [4, 19]), (5, [4, 5]), (6, [4, 5])]
def kp36 : List (Nat × List Nat) := [(0, [0, 1]), (1, [0, 1, 11]), (2, [4]), (3, [0, 5, 6]), (4, [0, 5, 22]), (5, [4]), (6, [4])]
def kp37 : List (Nat × List Nat) := [(0, [0, 1, 2, 6]), (1, [0, 1, 2, 6, 18]), (2, [6, 7]), (3, [0, 2, 6, 8]), (4, [6, 7])]
def kp40 : List (Nat × List Nat) := [(0, [0, 2]), (1, [0, 2]), (2, [2]), (3, [2])]
def kp41 : List (Nat × List Nat) := [(0, [])]
def kp42 : List (Nat × List Nat) := [(0, [1, 2, 4]), (1, [1, 2, 4]), (2, [4, 5]), (3, [4, 5, 6]), (4, [4, 5, 6, 32]), (5, [5, 6, 8]), (6, [5, 6, 8, 10]), (7, [5, 6, 8, 41]), (8, [5, 8]), (9, []), (10, [4]), (1000006, [4, 5, 6])]
def kp43 : List (Nat × List Nat) := [(0, [0, 2]), (1, [2])]
def kp44 : List (Nat × List Nat) := [(0, []), (1, [1]), (2, [2, 3]), (3, [2, 3, 4]), (4, [2, 4, 34]), (5, [0]), (6, [4, 5]), (7, [0])]
def kp52 : List (Nat × List Nat) := [(0, []), (1, [1, 2]), (2, [1, 15]), (3, [0]), (4, [1, 3]), (5, [0])]
def kp63 : List (Nat × List Nat) := [(0, [0, 1, 2]), (1, [0, 1, 7]), (2, [0, 1, 7, 13]), (3, [0, 1, 7]), (4, [0, 1, 7, 8]), (5, [0, 1, 7, 8, 9]), (6, [0, 1, 7, 8, 9, 19]), (7, [0, 1, 7, 8, 9]), (8, [0, 1, 7, 8, 9]), (9, [0, 1, 7]), (10, [6]), (1000002, [0, 1, 7]), (1000006, [0, 1, 7, 8, 9])]
def kp71 : List (Nat × List Nat) := [(0, [0]), (1, [0, 4]), (2, [2]), (3, [2])]
def kp75 : List (Nat × List Nat) := [(0, [0, 1, 2]), (1, [0, 1, 2]), (2, [0, 1, 2, 7]), (3, [0, 1, 2, 7, 16]), (4, [6]), (5, [0, 1, 2, 7, 8]), (6, [0, 1, 2, 7, 8, 22]), (7, [6]), (8, [0, 1, 2, 7, 8, 31]), (9, [0, 1, 2, 7, 9]), (10, [0, 1, 7, 9]), (11, [9]), (12, [6]), (13, [0, 1, 2, 7, 8]), (14, [0, 1, 2, 7, 8, 68]), (15, [0, 1, 2]), (16, [0]), (17, [6]), (18, [0, 1, 7]), (19, [0]), (20, [6])]
def kp78 : List (Nat × List Nat) := [(0, [1, 2, 3]), (1, [1, 2, 3, 7]), (2, [1, 2, 3, 7, 8]), (3, [1, 2, 3, 7, 8, 22]), (4, [8]), (5, [1, 2, 3, 7, 8, 22, 24]), (6, [8]), (7, [2, 3, 7, 8, 22, 37]), (8, [8]), (9, [2, 3, 7, 8, 22, 44]), (10, [8]), (11, [2, 3, 7, 8, 22, 51]), (12, [8]), (13, [2, 3, 7, 8, 22, 58]), (14, [8]), (15, [3, 7, 8, 66]), (16, [7, 8, 9]), (17, [7, 8, 9]), (18, [8]), (19, [8, 10]), (20, [8, 10, 93]), (21, [8, 10]), (22, [8, 10]), (23, [6]), (1000020, [8, 10])]
def kp80 : List (Nat × List Nat) := [(0, [0, 9, 10, 11]), (1, [0, 9, 10, 11, 12]), (2, [0, 4, 9, 10, 11]), (3, [0, 4, 5, 9, 10, 11]), (4, [0, 4, 5, 9, 10, 11, 20]), (5, [0, 4, 5, 9, 10, 11]), (6, [0, 4, 5, 9, 10, 11, 29]), (7, [0, 9, 10, 11]), (1000001, [0, 9, 10, 11]), (1000004, [0, 4, 5, 9, 10, 11])]
def kp81 : List (Nat × List Nat) := [(0, [1, 2]), (1, [4])]
def kp82 : List (Nat × List Nat) := [(0, [0, 1]), (1, [1, 5, 6]), (2, [1, 5, 6, 11]), (3, [1, 5, 6, 7]), (4, [1, 5, 6, 7, 20]), (5, [1, 5, 6]), (6, [1, 5, 6]), (7, [4]), (1000002, [1, 5, 6])]
def kp83 : List (Nat × List Nat) := [(0, [0, 1, 2]), (1, [4])]
def kp95 : List (Nat × List Nat) := [(0, [1]), (1, [2])]
def kp96 : List (Nat × List Nat) := [(0, [])]
def kp97 : List (Nat × List Nat) := [(0, [1, 2]), (1, [5]), (2, [4])]
def kp98 : List (Nat × List Nat) := [(0, [1, 2]), (1, [4])]
def kp100 : List (Nat × List Nat) := [(0, [0, 4]), (1, [3]), (2, []), (3, [0, 4, 6]), (4, []), (5, [0, 4, 8, 9]), (6, [0]), (7, [])]
def kp101 : List (Nat × List Nat) := [(0, [3]), (1, [])]
def kp102 : List (Nat × List Nat) := [(0, [1, 2]), (1, [5]), (2, [4])]
def kp103 : List (Nat × List Nat) := [(0, [1, 2, 4]), (1, [4])]
def kp104 : List (Nat × List Nat) := [(0, [1, 2, 3, 4, 8]), (1, [1, 2, 3, 4, 8]), (2, [8])]
def kp107 : List (Nat × List Nat) := [(0, [1, 2, 3, 6]), (1, [6])]
def kp115 : List (Nat × List Nat) := [(0, [0]), (1, [0, 4]), (2, [2]), (3, [2])]
def kp134 : List (Nat × List Nat) := [(0, [0]), (1, [0, 4]), (2, [2]), (3, [2])]
def kp149 : List (Nat × List Nat) := [(0, [])]
def kp150 : List (Nat × List Nat) := [(0, [1, 2, 3, 4]), (1, [2, 3, 9]), (2, [3, 9, 10]), (3, [3, 9, 10, 20, 21]), (4, [3, 9, 10, 20, 21, 22]), (5, [3, 9, 10, 11, 20, 21]), (6, [3, 9, 10, 20, 21]), (7, [3, 9, 10, 20, 21]), (8, [8]), (1000004, [3, 9, 10, 20, 21])]
def kp151 : List (Nat × List Nat) := [(0, [1, 2]), (1, [1, 2, 5]), (2, [1, 2, 5, 13]), (3, [1, 2, 5]), (4, [1, 2, 5, 6]), (5, [1, 2, 6, 17, 18, 19]), (6, [1, 2, 6, 17, 18, 19, 20]), (7, [1, 2, 6, 8, 17, 18, 19]), (8, [1, 2, 6, 8, 9, 17, 18, 19]), (9, [1, 2, 6, 8, 9, 17, 18, 19]), (10, [1, 2, 6, 8, 9, 17, 18, 19, 34]), (11, [1, 2, 6, 9, 17, 18, 19]), (12, [1, 2, 6, 9, 17, 18, 19]), (13, [1, 2, 6, 17, 18, 19]), (14, [1, 2, 6, 17, 18, 19]), (15, [4]), (1000006, [1, 2, 6, 17, 18, 19])]
def kp152 : List (Nat × List Nat) := [(0, [1]), (1, [1, 3]), (2, [1, 3, 12, 13, 14]), (3, [1, 3, 12, 13, 14, 15]), (4, [1, 3, 5, 12, 13, 14]), (5, [1, 3, 5, 6, 12, 13, 14]), (6, [1, 3, 12, 13, 14]), (7, [1, 3, 12, 13, 14]), (8, [2]), (1000003, [1, 3, 12, 13, 14])]
def kp153 : List (Nat × List Nat) := [(0, [1, 2, 3]), (1, [1, 2, 3, 7, 8]), (2, [1, 2, 3, 7, 8]), (3, [7, 8, 9]), (4, [7, 8, 9, 32]), (5, [6]), (6, [6])]
def kp154 : List (Nat × List Nat) := [(0, [])]
def kp159 : List (Nat × List Nat) := [(0, [1, 2, 3]), (1, [1, 2, 3]), (2, [6])]
def kp186 : List (Nat × List Nat) := [(0, [0, 1]), (1, [0]), (2, [])]
def kp187 : List (Nat × List Nat) := [(0, [1, 2, 3]), (1, [1, 3, 7]), (2, [1, 3, 7, 8]), (3, [6]), (4, [1, 3, 13]), (5, [6]), (6, [6])]
def kp188 : List (Nat × List Nat) := [(0, [1, 2, 3, 4]), (1, [1, 2, 3, 4, 9, 10]), (2, [1, 2, 3, 4, 9, 10]), (3, [1, 3, 4, 9, 10]), (4, [3, 9, 10, 11]), (5, [3, 9, 10, 11, 12]), (6, [3, 9, 10, 11, 12, 34, 35]), (7, [3, 9, 10, 11, 12, 34, 35, 36]), (8, [3, 9, 10, 11, 12, 13, 34, 35]), (9, [3, 9, 10, 11, 12, 34, 35]), (10, [3, 9, 10, 11, 12, 34, 35]), (11, [10, 12, 58]), (12, [8]), (13, [8]), (1000007, [3, 9, 10, 11, 12, 34, 35])]
def kp190 : List (Nat × List Nat) := [(0, [0, 1, 2, 6]), (1, [0, 1, 2, 6, 30]), (2, [6, 7]), (3, [6, 7])]
def kp199 : List (Nat × List Nat) := [(0, [1, 2]), (1, [4])]
def kp200 : List (Nat × List Nat) := [(0, [1, 2]), (1, [2, 6, 7]), (2, [2, 6, 7, 8]), (3, [2, 5, 6, 7]), (4, [2, 6, 7, 14]), (5, [4]), (6, [2, 6, 7]), (7, [4]), (1000002, [2, 6, 7])]
def kp202 : List (Nat × List Nat) := [(0, [0, 2, 3, 4, 10]), (1, [0, 2, 4, 10, 11]), (2, [0, 2, 4, 10, 11, 20]), (3, [0, 2, 4, 10, 11, 23]), (4, [0, 2, 4, 10, 11]), (5, [0, 2, 4, 10, 11]), (6, [0, 2, 4, 10, 11]), (7, [0, 2, 4, 10, 11]), (8, []), (1000002, [0, 2, 4, 10, 11])]
def kpT (f : Nat) : List (Nat × List Nat) :=
 bif Nat.blt f 111 then (bif Nat.blt f 55 then (bif Nat.blt f 27 then (bif Nat.blt f 13 then (bif Nat.blt f 6 then (bif Nat.blt f 3 then (bif Nat.blt f 1 then ([]) else (bif Nat.blt f 2 then ([]) else (kp2))) else (bif Nat.blt f 4 then ([]) else (bif Nat.blt f 5 then ([]) else ([])))) else (bif Nat.blt f 9 then (bif Nat.blt f 7 then (kp6) else (bif Nat.blt f 8 then ([]) else (kp8))) else (bif Nat.blt f 11 then (bif Nat.blt f 10 then (kp9) else ([])) else (bif Nat.blt f 12 then ([]) else ([]))))) else (bif Nat.blt f 20 then (bif Nat.blt f 16 then (bif Nat.blt f 14 then ([]) else (bif Nat.blt f 15 then ([]) else (kp15))) else (bif Nat.blt f 18 then (bif Nat.blt f 17 then ([]) else ([])) else (bif Nat.blt f 19 then ([]) else ([])))) else (bif Nat.blt f 23 then (bif Nat.blt f 21 then ([]) else (bif Nat.blt f 22 then ([]) else (kp22))) else (bif Nat.blt f 25 then (bif Nat.blt f 24 then ([]) else ([])) else (bif Nat.blt f 26 then (kp25) else (kp26)))))) else (bif Nat.blt f 41 then (bif Nat.blt f 34 then (bif Nat.blt f 30 then (bif Nat.blt f 28 then ([]) else (bif Nat.blt f 29 then ([]) else ([]))) else (bif Nat.blt f 32 then (bif Nat.blt f 31 then ([]) else ([])) else (bif Nat.blt f 33 then ([]) else (kp33)))) else (bif Nat.blt f 37 then (bif Nat.blt f 35 then (kp34) else (bif Nat.blt f 36 then (kp35) else (kp36))) else (bif Nat.blt f 39 then (bif Nat.blt f 38 then (kp37) else ([])) else (bif Nat.blt f 40 then ([]) else (kp40))))) else (bif Nat.blt f 48 then (bif Nat.blt f 44 then (bif Nat.blt f 42 then (kp41) else (bif Nat.blt f 43 then (kp42) else (kp43))) else (bif Nat.blt f 46 then (bif Nat.blt f 45 then (kp44) else ([])) else (bif Nat.blt f 47 then ([]) else ([])))) else (bif Nat.blt f 51 then (bif Nat.blt f 49 then ([]) else (bif Nat.blt f 50 then ([]) else ([]))) else (bif Nat.blt f 53 then (bif Nat.blt f 52 then ([]) else (kp52)) else (bif Nat.blt f 54 then ([]) else ([]))))))) else (bif Nat.blt f 83 then (bif Nat.blt f 69 then (bif Nat.blt f 62 then (bif Nat.blt f 58 then (bif Nat.blt f 56 then ([]) else (bif Nat.blt f 57 then ([]) else ([]))) else (bif Nat.blt f 60 then (bif Nat.blt f 59 then ([]) else ([])) else (bif Nat.blt f 61 then ([]) else ([])))) else (bif Nat.blt f 65 then (bif Nat.blt f 63 then ([]) else (bif Nat.blt f 64 then (kp63) else ([]))) else (bif Nat.blt f 67 then (bif Nat.blt f 66 then ([]) else ([])) else (bif Nat.blt f 68 then ([]) else ([]))))) else (bif Nat.blt f 76 then (bif Nat.blt f 72 then (bif Nat.blt f 70 then ([]) else (bif Nat.blt f 71 then ([]) else (kp71))) else (bif Nat.blt f 74 then (bif Nat.blt f 73 then ([]) else ([])) else (bif Nat.blt f 75 then ([]) else (kp75)))) else (bif Nat.blt f 79 then (bif Nat.blt f 77 then ([]) else (bif Nat.blt f 78 then ([]) else (kp78))) else (bif Nat.blt f 81 then (bif Nat.blt f 80 then ([]) else (kp80)) else (bif Nat.blt f 82 then (kp81) else (kp82)))))) else (bif Nat.blt f 97 then (bif Nat.blt f 90 then (bif Nat.blt f 86 then (bif Nat.blt f 84 then (kp83) else (bif Nat.blt f 85 then ([]) else ([]))) else (bif Nat.blt f 88 then (bif Nat.blt f 87 then ([]) else ([])) else (bif Nat.blt f 89 then ([]) else ([])))) else (bif Nat.blt f 93 then (bif Nat.blt f 91 then ([]) else (bif Nat.blt f 92 then ([]) else ([]))) else (bif Nat.blt f 95 then (bif Nat.blt f 94 then ([]) else ([])) else (bif Nat.blt f 96 then (kp95) else (kp96))))) else (bif Nat.blt f 104 then (bif Nat.blt f 100 then (bif Nat.blt f 98 then (kp97) else (bif Nat.blt f 99 then (kp98) else ([]))) else (bif Nat.blt f 102 then (bif Nat.blt f 101 then (kp100) else (kp101)) else (bif Nat.blt f 103 then (kp102) else (kp103)))) else (bif Nat.blt f 107 then (bif Nat.blt f 105 then (kp104) else (bif Nat.blt f 106 then ([]) else ([]))) else (bif Nat.blt f 109 then (bif Nat.blt f 108 then (kp107) else ([])) else (bif Nat.blt f 110 then ([]) else ([])))))))) else (bif Nat.blt f 167 then (bif Nat.blt f 139 then (bif Nat.blt f 125 then (bif Nat.blt f 118 then (bif Nat.blt f 114 then (bif Nat.blt f 112 then ([]) else (bif Nat.blt f 113 then ([]) else ([]))) else (bif Nat.blt f 116 then (bif Nat.blt f 115 then ([]) else (kp115)) else (bif Nat.blt f 117 then ([]) else ([])))) else (bif Nat.blt f 121 then (bif Nat.blt f 119 then ([]) else (bif Nat.blt f 120 then ([]) else ([]))) else (bif Nat.blt f 123 then (bif Nat.blt f 122 then ([]) else ([])) else (bif Nat.blt f 124 then ([]) else ([]))))) else (bif Nat.blt f 132 then (bif Nat.blt f 128 then (bif Nat.blt f 126 then ([]) else (bif Nat.blt f 127 then ([]) else ([]))) else (bif Nat.blt f 130 then (bif Nat.blt f 129 then ([]) else ([])) else (bif Nat.blt f 131 then ([]) else ([])))) else (bif Nat.blt f 135 then (bif Nat.blt f 133 then ([]) else (bif Nat.blt f 134 then ([]) else (kp134))) else (bif Nat.blt f 137 then (bif Nat.blt f 136 then ([]) else ([])) else (bif Nat.blt f 138 then ([]) else ([])))))) else (bif Nat.blt f 153 then (bif Nat.blt f 146 then (bif Nat.blt f 142 then (bif Nat.blt f 140 then ([]) else (bif Nat.blt f 141 then ([]) else ([]))) else (bif Nat.blt f 144 then (bif Nat.blt f 143 then ([]) else ([])) else (bif Nat.blt f 145 then ([]) else ([])))) else (bif Nat.blt f 149 then (bif Nat.blt f 147 then ([]) else (bif Nat.blt f 148 then ([]) else ([]))) else (bif Nat.blt f 151 then (bif Nat.blt f 150 then (kp149) else (kp150)) else (bif Nat.blt f 152 then (kp151) else (kp152))))) else (bif Nat.blt f 160 then (bif Nat.blt f 156 then (bif Nat.blt f 154 then (kp153) else (bif Nat.blt f 155 then (kp154) else ([]))) else (bif Nat.blt f 158 then (bif Nat.blt f 157 then ([]) else ([])) else (bif Nat.blt f 159 then ([]) else (kp159)))) else (bif Nat.blt f 163 then (bif Nat.blt f 161 then ([]) else (bif Nat.blt f 162 then ([]) else ([]))) else (bif Nat.blt f 165 then (bif Nat.blt f 164 then ([]) else ([])) else (bif Nat.blt f 166 then ([]) else ([]))))))) else (bif Nat.blt f 195 then (bif Nat.blt f 181 then (bif Nat.blt f 174 then (bif Nat.blt f 170 then (bif Nat.blt f 168 then ([]) else (bif Nat.blt f 169 then ([]) else ([]))) else (bif Nat.blt f 172 then (bif Nat.blt f 171 then ([]) else ([])) else (bif Nat.blt f 173 then ([]) else ([])))) else (bif Nat.blt f 177 then (bif Nat.blt f 175 then ([]) else (bif Nat.blt f 176 then ([]) else ([]))) else (bif Nat.blt f 179 then (bif Nat.blt f 178 then ([]) else ([])) else (bif Nat.blt f 180 then ([]) else ([]))))) else (bif Nat.blt f 188 then (bif Nat.blt f 184 then (bif Nat.blt f 182 then ([]) else (bif Nat.blt f 183 then ([]) else ([]))) else (bif Nat.blt f 186 then (bif Nat.blt f 185 then ([]) else ([])) else (bif Nat.blt f 187 then (kp186) else (kp187)))) else (bif Nat.blt f 191 then (bif Nat.blt f 189 then (kp188) else (bif Nat.blt f 190 then ([]) else (kp190))) else (bif Nat.blt f 193 then (bif Nat.blt f 192 then ([]) else ([])) else (bif Nat.blt f 194 then ([]) else ([])))))) else (bif Nat.blt f 209 then (bif Nat.blt f 202 then (bif Nat.blt f 198 then (bif Nat.blt f 196 then ([]) else (bif Nat.blt f 197 then ([]) else ([]))) else (bif Nat.blt f 200 then (bif Nat.blt f 199 then ([]) else (kp199)) else (bif Nat.blt f 201 then (kp200) else ([])))) else (bif Nat.blt f 205 then (bif Nat.blt f 203 then (kp202) else (bif Nat.blt f 204 then ([]) else ([]))) else ([]))) else ([]))))
def kpLook (id : Nat) : List (Nat × List Nat) → List Nat
 | [] => []
 | (i, l) :: r => bif Nat.beq i id then l else kpLook id r
def kpS (f id : Nat) : List Nat := kpLook id (kpT f)
def speaksT : List Nat := [15, 22, 33, 44, 52]
abbrev shortT : Nat := 190
def itS : Value → Heap → Option (List (List Int)) := itAll 80
noncomputable abbrev CI : Cfg := { P := Prog, kp := kpS, sp := fun _ => none, it := itS }
def moreS (f : Nat) : Option Sp := bif Nat.beq f 4 then some (fun call args H => bodyK { P := Prog, kp := kpS, sp := fun _ => none, it := itS } call 4 args H) else bif Nat.beq f 7 then some (fun call args H => bodyK { P := Prog, kp := kpS, sp := fun _ => none, it := itS } call 7 args H) else bif Nat.beq f 40 then some (tryV 190) else bif Nat.beq f 42 then some (fun call args H => bodyF { P := Prog, kp := kpS, sp := fun _ => none, it := itS } call 42 args H) else bif Nat.beq f 71 then some (fun _ args H => cloneV 2 16 args H) else bif Nat.beq f 73 then some (fun call args H => (bodyK { P := Prog, kp := kpS, sp := fun _ => none } call 73 args H).bind (trimR 2)) else bif Nat.beq f 75 then some (fun _ args H => insertV 2 16 args H) else bif Nat.beq f 115 then some (fun _ args H => cloneV 3 12 args H) else bif Nat.beq f 134 then some (fun _ args H => cloneV 2 40 args H) else none
def ownersW : List Nat := [999999, 44, 52]
def ownW (k : Nat) : Mode := bif ownersW.contains (k % 1000000) then .no else .fz
def mdS (k f : Nat) : Mode := bif Nat.blt f 111 then (bif Nat.blt f 55 then (bif Nat.blt f 27 then (bif Nat.blt f 13 then (bif Nat.blt f 6 then (bif Nat.blt f 3 then (bif Nat.blt f 1 then (.gc) else (bif Nat.blt f 2 then (.gc) else (.no))) else (.gc)) else (.gc)) else (bif Nat.blt f 20 then (bif Nat.blt f 16 then (.gc) else (bif Nat.blt f 18 then (.no) else (bif Nat.blt f 19 then (.fz) else (own k)))) else (bif Nat.blt f 23 then (bif Nat.blt f 21 then (.no) else (bif Nat.blt f 22 then (.no) else (.gc))) else (bif Nat.blt f 25 then (.fz) else (bif Nat.blt f 26 then (.no) else (.gc)))))) else (bif Nat.blt f 41 then (bif Nat.blt f 34 then (bif Nat.blt f 30 then (bif Nat.blt f 28 then (.gc) else (bif Nat.blt f 29 then (.no) else (.fz))) else (bif Nat.blt f 32 then (bif Nat.blt f 31 then (.no) else (.gc)) else (.gc))) else (bif Nat.blt f 37 then (bif Nat.blt f 35 then (own k) else (bif Nat.blt f 36 then (.fz) else (.gc))) else (bif Nat.blt f 39 then (.gc) else (bif Nat.blt f 40 then (.fz) else (.no))))) else (bif Nat.blt f 48 then (bif Nat.blt f 44 then (bif Nat.blt f 42 then (.no) else (bif Nat.blt f 43 then (.fz) else (.gc))) else (bif Nat.blt f 46 then (bif Nat.blt f 45 then (.gc) else (.no)) else (.fz))) else (bif Nat.blt f 51 then (bif Nat.blt f 49 then (.no) else (bif Nat.blt f 50 then (.no) else (.gc))) else (bif Nat.blt f 53 then (bif Nat.blt f 52 then (own k) else (.gc)) else (bif Nat.blt f 54 then (.gc) else (own k))))))) else (bif Nat.blt f 83 then (bif Nat.blt f 69 then (bif Nat.blt f 62 then (bif Nat.blt f 58 then (bif Nat.blt f 56 then (.fz) else (bif Nat.blt f 57 then (.fz) else (.no))) else (bif Nat.blt f 60 then (bif Nat.blt f 59 then (.fz) else (.gc)) else (bif Nat.blt f 61 then (own k) else (.fz)))) else (bif Nat.blt f 65 then (bif Nat.blt f 63 then (.gc) else (bif Nat.blt f 64 then (.no) else (.gc))) else (bif Nat.blt f 67 then (.gc) else (bif Nat.blt f 68 then (.gc) else (.fz))))) else (bif Nat.blt f 76 then (bif Nat.blt f 72 then (bif Nat.blt f 70 then (.fz) else (.no)) else (.no)) else (bif Nat.blt f 79 then (bif Nat.blt f 77 then (.gc) else (bif Nat.blt f 78 then (.no) else (.fz))) else (bif Nat.blt f 81 then (bif Nat.blt f 80 then (.fz) else (.no)) else (.gc))))) else (bif Nat.blt f 97 then (bif Nat.blt f 90 then (bif Nat.blt f 86 then (bif Nat.blt f 84 then (.gc) else (bif Nat.blt f 85 then (.no) else (.gc))) else (bif Nat.blt f 88 then (.fz) else (bif Nat.blt f 89 then (.no) else (.fz)))) else (bif Nat.blt f 93 then (bif Nat.blt f 91 then (.no) else (.fz)) else (bif Nat.blt f 95 then (bif Nat.blt f 94 then (.fz) else (.gc)) else (bif Nat.blt f 96 then (.fz) else (.no))))) else (bif Nat.blt f 104 then (bif Nat.blt f 100 then (bif Nat.blt f 98 then (.gc) else (bif Nat.blt f 99 then (.gc) else (.no))) else (bif Nat.blt f 102 then (bif Nat.blt f 101 then (.no) else (.gc)) else (.gc))) else (bif Nat.blt f 107 then (bif Nat.blt f 105 then (.gc) else (bif Nat.blt f 106 then (.fz) else (own k))) else (bif Nat.blt f 109 then (bif Nat.blt f 108 then (.gc) else (.no)) else (bif Nat.blt f 110 then (.gc) else (.no)))))))) else (bif Nat.blt f 167 then (bif Nat.blt f 139 then (bif Nat.blt f 125 then (bif Nat.blt f 118 then (bif Nat.blt f 114 then (bif Nat.blt f 112 then (.gc) else (bif Nat.blt f 113 then (.no) else (.gc))) else (bif Nat.blt f 116 then (.no) else (bif Nat.blt f 117 then (.fz) else (ownW k)))) else (bif Nat.blt f 121 then (bif Nat.blt f 119 then (.no) else (.fz)) else (bif Nat.blt f 123 then (bif Nat.blt f 122 then (.fz) else (.gc)) else (.gc)))) else (bif Nat.blt f 132 then (bif Nat.blt f 128 then (.no) else (bif Nat.blt f 130 then (.gc) else (.fz))) else (bif Nat.blt f 135 then (bif Nat.blt f 133 then (.gc) else (bif Nat.blt f 134 then (.gc) else (.no))) else (bif Nat.blt f 137 then (bif Nat.blt f 136 then (.no) else (.gc)) else (.gc))))) else (bif Nat.blt f 153 then (bif Nat.blt f 146 then (bif Nat.blt f 142 then (.gc) else (bif Nat.blt f 144 then (bif Nat.blt f 143 then (.gc) else (.no)) else (bif Nat.blt f 145 then (.no) else (.fz)))) else (bif Nat.blt f 149 then (.no) else (bif Nat.blt f 151 then (bif Nat.blt f 150 then (.no) else (.fz)) else (.fz)))) else (bif Nat.blt f 160 then (bif Nat.blt f 156 then (bif Nat.blt f 154 then (.fz) else (.gc)) else (bif Nat.blt f 158 then (.fz) else (bif Nat.blt f 159 then (.fz) else (.gc)))) else (bif Nat.blt f 163 then (.no) else (bif Nat.blt f 165 then (.no) else (.gc)))))) else (bif Nat.blt f 195 then (bif Nat.blt f 181 then (bif Nat.blt f 174 then (bif Nat.blt f 170 then (bif Nat.blt f 168 then (.no) else (.gc)) else (bif Nat.blt f 172 then (bif Nat.blt f 171 then (.no) else (.gc)) else (.gc))) else (bif Nat.blt f 177 then (bif Nat.blt f 175 then (.gc) else (bif Nat.blt f 176 then (.no) else (.gc))) else (bif Nat.blt f 179 then (.gc) else (bif Nat.blt f 180 then (.no) else (.gc))))) else (bif Nat.blt f 188 then (bif Nat.blt f 184 then (bif Nat.blt f 182 then (.gc) else (bif Nat.blt f 183 then (.no) else (.gc))) else (bif Nat.blt f 186 then (bif Nat.blt f 185 then (.gc) else (.no)) else (bif Nat.blt f 187 then (.no) else (.gc)))) else (bif Nat.blt f 191 then (bif Nat.blt f 189 then (.fz) else (.gc)) else (bif Nat.blt f 193 then (.gc) else (.no))))) else (bif Nat.blt f 209 then (bif Nat.blt f 202 then (bif Nat.blt f 198 then (bif Nat.blt f 196 then (.gc) else (bif Nat.blt f 197 then (.no) else (.gc))) else (bif Nat.blt f 200 then (bif Nat.blt f 199 then (.fz) else (.gc)) else (.gc))) else (bif Nat.blt f 205 then (bif Nat.blt f 203 then (.no) else (bif Nat.blt f 204 then (.no) else (.gc))) else (.gc))) else (bif Nat.blt f 216 then (.gc) else (bif Nat.blt f 219 then (.gc) else (bif Nat.blt f 221 then (bif Nat.blt f 220 then (.gc) else (.no)) else (.gc)))))))
def arS (f : Nat) : Bool := [56, 61].any (Nat.beq f)
noncomputable def C (k : Nat) : Cfg := { P := Prog, kp := kpS, sp := spOf speaksT moreS (k % 1000000) }
noncomputable def T (k : Nat) : Told := { c := C k, md := mdS k, ar := arS }
theorem more_scott (f : FuncId) (s : Sp) (h : moreS f = some s) : ∀ args H, Scott fun call => s call args H := by
 unfold moreS at h;cases h4 : Nat.beq f 4 with
 | true => rw [h4, cond_true] at h; injection h with h; subst h; exact Scott.bodyK _ _
 | false =>
 rw [h4, cond_false] at h;cases h7 : Nat.beq f 7 with
 | true => rw [h7, cond_true] at h; injection h with h; subst h; exact Scott.bodyK _ _
 | false =>
 rw [h7, cond_false] at h;cases h40 : Nat.beq f 40 with
 | true => rw [h40, cond_true] at h; injection h with h; subst h; first | exact fun args H => Scott.const _ | exact Scott.tryV _ | exact Scott.told _
 | false =>
 rw [h40, cond_false] at h;cases h42 : Nat.beq f 42 with
 | true => rw [h42, cond_true] at h; injection h with h; subst h; exact Scott.bodyF _ _
 | false =>
 rw [h42, cond_false] at h;cases h71 : Nat.beq f 71 with
 | true => rw [h71, cond_true] at h; injection h with h; subst h; first | exact fun args H => Scott.const _ | exact Scott.tryV _ | exact Scott.told _
 | false =>
 rw [h71, cond_false] at h;cases h73 : Nat.beq f 73 with
 | true => rw [h73, cond_true] at h; injection h with h; subst h; exact Scott.trim _ _ _
 | false =>
 rw [h73, cond_false] at h;cases h75 : Nat.beq f 75 with
 | true => rw [h75, cond_true] at h; injection h with h; subst h; first | exact fun args H => Scott.const _ | exact Scott.tryV _ | exact Scott.told _
 | false =>
 rw [h75, cond_false] at h;cases h115 : Nat.beq f 115 with
 | true => rw [h115, cond_true] at h; injection h with h; subst h; first | exact fun args H => Scott.const _ | exact Scott.tryV _ | exact Scott.told _
 | false =>
 rw [h115, cond_false] at h;cases h134 : Nat.beq f 134 with
 | true => rw [h134, cond_true] at h; injection h with h; subst h; first | exact fun args H => Scott.const _ | exact Scott.tryV _ | exact Scott.told _
 | false =>
 rw [h134, cond_false] at h;cases h
theorem T_scott (k : Nat) : SpScott (T k).c := SpScott.of more_scott
@[simp] theorem len_23 (x : Value) (h : Heap) : builtinV Prog .len [23] [x] h = lnS x h := lnS_eq (e := 3) (by kernel_rfl) x h
@[simp] theorem be_23_1 (ps : List (Nat × Value)) (h : Heap) : buildSliceR Prog 23 1 ps h = beR 1 1 ps [.int .i64 0] h := be_eq (e := 3) (by kernel_rfl) (by kernel_rfl) (by kernel_rfl) (by kernel_rfl) ps h
@[simp] theorem len_31 (x : Value) (h : Heap) : builtinV Prog .len [31] [x] h = lnS x h := lnS_eq (e := 5) (by kernel_rfl) x h
@[simp] theorem ld_32 (a : Value) (h : Heap) : loadR Prog 32 a h = ld1 a h := ld1_eq (by kernel_rfl) a h
@[simp] theorem eqp_32 (cs : Array Value) (h : Heap) : binR Prog .eql 32 (boxV cs) (.pointer none) h = .ok (.bool false) h := by kernel_rfl
@[simp] theorem eqn_32 (h : Heap) : binR Prog .eql 32 (.pointer none) (.pointer none) h = .ok (.bool true) h := by kernel_rfl
@[simp] theorem st_3 (a v : Value) (h : Heap) : storeR Prog 3 a v h = stR 1 a v h := st_eq (by kernel_rfl) a v h
@[simp] theorem ld_3 (a : Value) (h : Heap) : loadR Prog 3 a h = ld1 a h := ld1_eq (by kernel_rfl) a h
@[simp] theorem ld_5 (a : Value) (h : Heap) : loadR Prog 5 a h = ld1 a h := ld1_eq (by kernel_rfl) a h
@[simp] theorem cv_5_3 (x : Value) (H : Heap) : convR Prog 5 3 x H = cvK .i64 x H := convR_int (by kernel_rfl) (by kernel_rfl) x H
@[simp] theorem len_61 (x : Value) (h : Heap) : builtinV Prog .len [61] [x] h = lnS x h := lnS_eq (e := 62) (by kernel_rfl) x h
@[simp] theorem ix_61 (x i : Value) (h : Heap) : indexAddrR Prog 61 x i h = ixS 1 x i h := ixS_eq (e := 62) (by kernel_rfl) (by kernel_rfl) x i h
@[simp] theorem ld_62 (a : Value) (h : Heap) : loadR Prog 62 a h = ld1 a h := ld1_eq (by kernel_rfl) a h
@[simp] theorem len_62 (x : Value) (h : Heap) : builtinV Prog .len [62] [x] h = lnS x h := lnS_eq (e := 69) (by kernel_rfl) x h
@[simp] theorem eqp_64 (cs : Array Value) (h : Heap) : binR Prog .eql 64 (boxV cs) (.pointer none) h = .ok (.bool false) h := by kernel_rfl
@[simp] theorem ix_31 (x i : Value) (h : Heap) : indexAddrR Prog 31 x i h = ixS 1 x i h := ixS_eq (e := 5) (by kernel_rfl) (by kernel_rfl) x i h
@[simp] theorem st_5 (a v : Value) (h : Heap) : storeR Prog 5 a v h = stR 1 a v h := st_eq (by kernel_rfl) a v h
@[simp] theorem ix_62 (x i : Value) (h : Heap) : indexAddrR Prog 62 x i h = ixS 2 x i h := ixS_eq (e := 69) (by kernel_rfl) (by kernel_rfl) x i h
@[simp] theorem ld_69 (a : Value) (h : Heap) : loadR Prog 69 a h = ldA 2 a h := ldA_eq (by kernel_rfl) (by kernel_rfl) a h
@[simp] theorem al_69 (h : Heap) : allocR Prog 69 h = newP [.int .i16 0, .int .i16 0] h := al_eq (z := .agg #[.int .i16 0, .int .i16 0]) (by kernel_rfl) h
@[simp] theorem st_69 (a v : Value) (h : Heap) : storeR Prog 69 a v h = stR 2 a v h := st_eq (by kernel_rfl) a v h
@[simp] theorem al_71 (h : Heap) : allocR Prog 71 h = newP [.int .i64 0, .int .i64 0] h := al_eq (z := .agg #[.int .i64 0, .int .i64 0]) (by kernel_rfl) h
@[simp] theorem st_71 (a v : Value) (h : Heap) : storeR Prog 71 a v h = stR 2 a v h := st_eq (by kernel_rfl) a v h
@[simp] theorem fa_71_0 (a : Value) (h : Heap) : fieldAddrR Prog 71 a 0 h = faR 0 1 a h := fa_is (ft := 3) (by kernel_rfl) (by kernel_rfl) a h
@[simp] theorem ix_69 (x i : Value) (h : Heap) : indexAddrR Prog 69 x i h = ixA 2 1 x i h := ixA_eq (e := 68) (by kernel_rfl) (by kernel_rfl) x i h
@[simp] theorem ld_68 (a : Value) (h : Heap) : loadR Prog 68 a h = ld1 a h := ld1_eq (by kernel_rfl) a h
@[simp] theorem cv_68_3 (x : Value) (H : Heap) : convR Prog 68 3 x H = cvK .i64 x H := convR_int (by kernel_rfl) (by kernel_rfl) x H
@[simp] theorem fa_71_1 (a : Value) (h : Heap) : fieldAddrR Prog 71 a 1 h = faR 1 1 a h := fa_is (ft := 3) (by kernel_rfl) (by kernel_rfl) a h
@[simp] theorem al_77 (h : Heap) : allocR Prog 77 h = newP [.pointer none, .slice none 0 0] h := al_eq (z := .agg #[.pointer none, .slice none 0 0]) (by kernel_rfl) h
@[simp] theorem sl_31 (x : Value) (lo hi mx : Option Value) (h : Heap) : sliceR Prog 31 x lo hi mx h = slS 1 x lo hi mx h := slS_eq (e := 5) (by kernel_rfl) (by kernel_rfl) x lo hi mx h
@[simp] theorem ld_31 (a : Value) (h : Heap) : loadR Prog 31 a h = ld1 a h := ld1_eq (by kernel_rfl) a h
@[simp] theorem al_64 (h : Heap) : allocR Prog 64 h = newP [.pointer none] h := al_eq (z := .pointer none) (by kernel_rfl) h
@[simp] theorem ld_64 (a : Value) (h : Heap) : loadR Prog 64 a h = ld1 a h := ld1_eq (by kernel_rfl) a h
@[simp] theorem nep_64 (cs : Array Value) (h : Heap) : binR Prog .neq 64 (boxV cs) (.pointer none) h = .ok (.bool true) h := by kernel_rfl
@[simp] theorem nen_64 (h : Heap) : binR Prog .neq 64 (.pointer none) (.pointer none) h = .ok (.bool false) h := by kernel_rfl
@[simp] theorem ld_71 (a : Value) (h : Heap) : loadR Prog 71 a h = ldA 2 a h := ldA_eq (by kernel_rfl) (by kernel_rfl) a h
@[simp] theorem neI_71 (a0 a1 b0 b1 : Int) (h : Heap) : binR Prog .neq 71 (.agg #[.int .i64 a0, .int .i64 a1]) (.agg #[.int .i64 b0, .int .i64 b1]) h = .ok (.bool (!([a0, a1] == [b0, b1]))) h := neI_is (ks := [.i64, .i64]) (by kernel_rfl) [a0, a1] [b0, b1] rfl rfl h
@[simp] theorem mk_23 (l c : Value) (h : Heap) : makeSliceV Prog 23 l c h = mkR 1 8 [.int .i64 0] l c h := mk_is (e := 3) (z := .int .i64 0) (by kernel_rfl) (by kernel_rfl) (by kernel_rfl) (by kernel_rfl) (by kernel_rfl) l c h
@[simp] theorem bd_77 (ps : List (Nat × Value)) (h : Heap) : buildR Prog 77 ps h = bdR [(0, 1), (1, 1)] ps [.pointer none, .slice none 0 0] h := bd_is (z := .agg #[.pointer none, .slice none 0 0]) (by kernel_rfl) (by kernel_rfl) (by kernel_rfl) ps h
@[simp] theorem ld_23 (a : Value) (h : Heap) : loadR Prog 23 a h = ld1 a h := ld1_eq (by kernel_rfl) a h
@[simp] theorem cv_80_3 (x : Value) (H : Heap) : convR Prog 80 3 x H = cvK .i64 x H := convR_int (by kernel_rfl) (by kernel_rfl) x H
@[simp] theorem ap_142 (a b : Value) (h : Heap) : builtinV Prog .append [142, 142] [a, b] h = apR 2 40 a b h := ap_is (e := 140) (z := .agg #[.string ⟨#[]⟩, .slice none 0 0]) (by kernel_rfl) (by kernel_rfl) (by kernel_rfl) (by kernel_rfl) (by kernel_rfl) a b h
@[simp] theorem ix_23 (x i : Value) (h : Heap) : indexAddrR Prog 23 x i h = ixS 1 x i h := ixS_eq (e := 3) (by kernel_rfl) (by kernel_rfl) x i h
@[simp] theorem ap_22 (a b : Value) (h : Heap) : builtinV Prog .append [22, 22] [a, b] h = apR 2 16 a b h := ap_is (e := 57) (z := .agg #[.int .i64 0, .int .i64 0]) (by kernel_rfl) (by kernel_rfl) (by kernel_rfl) (by kernel_rfl) (by kernel_rfl) a b h
@[simp] theorem fa_177_1 (a : Value) (h : Heap) : fieldAddrR Prog 177 a 1 h = faR 1 1 a h := fa_is (ft := 175) (by kernel_rfl) (by kernel_rfl) a h
@[simp] theorem ld_175 (a : Value) (h : Heap) : loadR Prog 175 a h = ld1 a h := ld1_eq (by kernel_rfl) a h
@[simp] theorem len_175 (x : Value) (h : Heap) : builtinV Prog .len [175] [x] h = lnS x h := lnS_eq (e := 179) (by kernel_rfl) x h
@[simp] theorem ix_175 (x i : Value) (h : Heap) : indexAddrR Prog 175 x i h = ixS 3 x i h := ixS_eq (e := 179) (by kernel_rfl) (by kernel_rfl) x i h
@[simp] theorem fa_179_0 (a : Value) (h : Heap) : fieldAddrR Prog 179 a 0 h = faR 0 1 a h := fa_is (ft := 3) (by kernel_rfl) (by kernel_rfl) a h
@[simp] theorem ld_179 (a : Value) (h : Heap) : loadR Prog 179 a h = ldA 3 a h := ldA_eq (by kernel_rfl) (by kernel_rfl) a h
@[simp] theorem be_22_0 (ps : List (Nat × Value)) (h : Heap) : buildSliceR Prog 22 0 ps h = beR 2 0 ps [] h := be_eq (e := 57) (by kernel_rfl) (by kernel_rfl) (by kernel_rfl) (by kernel_rfl) ps h
@[simp] theorem bd_71 (ps : List (Nat × Value)) (h : Heap) : buildR Prog 71 ps h = bdR [(0, 1), (1, 1)] ps [.int .i64 0, .int .i64 0] h := bd_is (z := .agg #[.int .i64 0, .int .i64 0]) (by kernel_rfl) (by kernel_rfl) (by kernel_rfl) ps h
@[simp] theorem be_31_4 (ps : List (Nat × Value)) (h : Heap) : buildSliceR Prog 31 4 ps h = beR 1 4 ps [.int .u8 0, .int .u8 0, .int .u8 0, .int .u8 0] h := be_eq (e := 5) (by kernel_rfl) (by kernel_rfl) (by kernel_rfl) (by kernel_rfl) ps h
@[simp] theorem ap_31 (a b : Value) (h : Heap) : builtinV Prog .append [31, 31] [a, b] h = apR 1 1 a b h := ap_is (e := 5) (z := .int .u8 0) (by kernel_rfl) (by kernel_rfl) (by kernel_rfl) (by kernel_rfl) (by kernel_rfl) a b h
@[simp] theorem cv_68_80 (x : Value) (H : Heap) : convR Prog 68 80 x H = cvK .u16 x H := convR_int (by kernel_rfl) (by kernel_rfl) x H
@[simp] theorem st_64 (a v : Value) (h : Heap) : storeR Prog 64 a v h = stR 1 a v h := st_eq (by kernel_rfl) a v h
@[simp] theorem al_75 (h : Heap) : allocR Prog 75 h = newP [.slice none 0 0] h := al_eq (z := .agg #[.slice none 0 0]) (by kernel_rfl) h
@[simp] theorem st_75 (a v : Value) (h : Heap) : storeR Prog 75 a v h = stR 1 a v h := st_eq (by kernel_rfl) a v h
@[simp] theorem fa_77_0 (a : Value) (h : Heap) : fieldAddrR Prog 77 a 0 h = faR 0 1 a h := fa_is (ft := 32) (by kernel_rfl) (by kernel_rfl) a h
@[simp] theorem fa_77_1 (a : Value) (h : Heap) : fieldAddrR Prog 77 a 1 h = faR 1 1 a h := fa_is (ft := 75) (by kernel_rfl) (by kernel_rfl) a h
@[simp] theorem ld_75 (a : Value) (h : Heap) : loadR Prog 75 a h = ldA 1 a h := ldA_eq (by kernel_rfl) (by kernel_rfl) a h
@[simp] theorem al_179 (h : Heap) : allocR Prog 179 h = newP [.int .i64 0, .int .i64 0, .slice none 0 0] h := al_eq (z := .agg #[.int .i64 0, .int .i64 0, .slice none 0 0]) (by kernel_rfl) h
@[simp] theorem st_179 (a v : Value) (h : Heap) : storeR Prog 179 a v h = stR 3 a v h := st_eq (by kernel_rfl) a v h
@[simp] theorem fa_179_2 (a : Value) (h : Heap) : fieldAddrR Prog 179 a 2 h = faR 2 1 a h := fa_is (ft := 23) (by kernel_rfl) (by kernel_rfl) a h
@[simp] theorem be_31_0 (ps : List (Nat × Value)) (h : Heap) : buildSliceR Prog 31 0 ps h = beR 1 0 ps [] h := be_eq (e := 5) (by kernel_rfl) (by kernel_rfl) (by kernel_rfl) (by kernel_rfl) ps h
@[simp] theorem bd_75 (ps : List (Nat × Value)) (h : Heap) : buildR Prog 75 ps h = bdR [(0, 1)] ps [.slice none 0 0] h := bd_is (z := .agg #[.slice none 0 0]) (by kernel_rfl) (by kernel_rfl) (by kernel_rfl) ps h
@[simp] theorem ap_98 (a b : Value) (h : Heap) : builtinV Prog .append [98, 98] [a, b] h = apR 3 12 a b h := ap_is (e := 137) (z := .agg #[.int .i32 0, .int .i32 0, .int .i32 0]) (by kernel_rfl) (by kernel_rfl) (by kernel_rfl) (by kernel_rfl) (by kernel_rfl) a b h
@[simp] theorem be_31_1 (ps : List (Nat × Value)) (h : Heap) : buildSliceR Prog 31 1 ps h = beR 1 1 ps [.int .u8 0] h := be_eq (e := 5) (by kernel_rfl) (by kernel_rfl) (by kernel_rfl) (by kernel_rfl) ps h
@[simp] theorem cv_3_5 (x : Value) (H : Heap) : convR Prog 3 5 x H = cvK .u8 x H := convR_int (by kernel_rfl) (by kernel_rfl) x H
@[simp] theorem fa_177_0 (a : Value) (h : Heap) : fieldAddrR Prog 177 a 0 h = faR 0 1 a h := fa_is (ft := 3) (by kernel_rfl) (by kernel_rfl) a h
@[simp] theorem bd_263 (ps : List (Nat × Value)) (h : Heap) : buildR Prog 263 ps h = bdR [(0, 1), (1, 1), (2, 1)] ps [.slice none 0 0, .int .i64 0, .int .i64 0] h := bd_is (z := .agg #[.slice none 0 0, .int .i64 0, .int .i64 0]) (by kernel_rfl) (by kernel_rfl) (by kernel_rfl) ps h
@[simp] theorem al_263 (h : Heap) : allocR Prog 263 h = newP [.slice none 0 0, .int .i64 0, .int .i64 0] h := al_eq (z := .agg #[.slice none 0 0, .int .i64 0, .int .i64 0]) (by kernel_rfl) h
@[simp] theorem st_263 (a v : Value) (h : Heap) : storeR Prog 263 a v h = stR 3 a v h := st_eq (by kernel_rfl) a v h
@[simp] theorem bd_177 (ps : List (Nat × Value)) (h : Heap) : buildR Prog 177 ps h = bdR [(0, 1), (1, 1)] ps [.int .i64 0, .slice none 0 0] h := bd_is (z := .agg #[.int .i64 0, .slice none 0 0]) (by kernel_rfl) (by kernel_rfl) (by kernel_rfl) ps h
@[simp] theorem bd_179 (ps : List (Nat × Value)) (h : Heap) : buildR Prog 179 ps h = bdR [(0, 1), (1, 1), (2, 1)] ps [.int .i64 0, .int .i64 0, .slice none 0 0] h := bd_is (z := .agg #[.int .i64 0, .int .i64 0, .slice none 0 0]) (by kernel_rfl) (by kernel_rfl) (by kernel_rfl) ps h
@[simp] theorem be_175_1 (ps : List (Nat × Value)) (h : Heap) : buildSliceR Prog 175 1 ps h = beR 3 1 ps [.int .i64 0, .int .i64 0, .slice none 0 0] h := be_eq (e := 179) (by kernel_rfl) (by kernel_rfl) (by kernel_rfl) (by kernel_rfl) ps h
@[simp] theorem st_175 (a v : Value) (h : Heap) : storeR Prog 175 a v h = stR 1 a v h := st_eq (by kernel_rfl) a v h
@[simp] theorem ld_263 (a : Value) (h : Heap) : loadR Prog 263 a h = ldA 3 a h := ldA_eq (by kernel_rfl) (by kernel_rfl) a h
@[simp] theorem fa_179_1 (a : Value) (h : Heap) : fieldAddrR Prog 179 a 1 h = faR 1 1 a h := fa_is (ft := 3) (by kernel_rfl) (by kernel_rfl) a h
@[simp] theorem fa_75_0 (a : Value) (h : Heap) : fieldAddrR Prog 75 a 0 h = faR 0 1 a h := fa_is (ft := 31) (by kernel_rfl) (by kernel_rfl) a h
@[simp] theorem cv_3_68 (x : Value) (H : Heap) : convR Prog 3 68 x H = cvK .i16 x H := convR_int (by kernel_rfl) (by kernel_rfl) x H
@[simp] theorem be_98_0 (ps : List (Nat × Value)) (h : Heap) : buildSliceR Prog 98 0 ps h = beR 3 0 ps [] h := be_eq (e := 137) (by kernel_rfl) (by kernel_rfl) (by kernel_rfl) (by kernel_rfl) ps h
@[simp] theorem st_23 (a v : Value) (h : Heap) : storeR Prog 23 a v h = stR 1 a v h := st_eq (by kernel_rfl) a v h
@[simp] theorem be_142_0 (ps : List (Nat × Value)) (h : Heap) : buildSliceR Prog 142 0 ps h = beR 2 0 ps [] h := be_eq (e := 140) (by kernel_rfl) (by kernel_rfl) (by kernel_rfl) (by kernel_rfl) ps h
@[simp] theorem fa_263_2 (a : Value) (h : Heap) : fieldAddrR Prog 263 a 2 h = faR 2 1 a h := fa_is (ft := 3) (by kernel_rfl) (by kernel_rfl) a h
@[simp] theorem fa_263_0 (a : Value) (h : Heap) : fieldAddrR Prog 263 a 0 h = faR 0 1 a h := fa_is (ft := 75) (by kernel_rfl) (by kernel_rfl) a h
@[simp] theorem len_309 (x : Value) (h : Heap) : builtinV Prog .len [309] [x] h = lnS x h := lnS_eq (e := 75) (by kernel_rfl) x h
@[simp] theorem ix_309 (x i : Value) (h : Heap) : indexAddrR Prog 309 x i h = ixS 1 x i h := ixS_eq (e := 75) (by kernel_rfl) (by kernel_rfl) x i h
@[simp] theorem ap_175 (a b : Value) (h : Heap) : builtinV Prog .append [175, 175] [a, b] h = apR 3 40 a b h := ap_is (e := 179) (z := .agg #[.int .i64 0, .int .i64 0, .slice none 0 0]) (by kernel_rfl) (by kernel_rfl) (by kernel_rfl) (by kernel_rfl) (by kernel_rfl) a b h
@[simp] theorem bd_190 (ps : List (Nat × Value)) (h : Heap) : buildR Prog 190 ps h = bdR [] ps [] h := bd_is (z := .agg #[]) (by kernel_rfl) (by kernel_rfl) (by kernel_rfl) ps h
@[simp] theorem if_190 (x : Value) (h : Heap) : ifaceR Prog 190 x h = .ok (.iface 190 x) h := by kernel_rfl
@[simp] theorem be_309_1 (ps : List (Nat × Value)) (h : Heap) : buildSliceR Prog 309 1 ps h = beR 1 1 ps [.slice none 0 0] h := be_eq (e := 75) (by kernel_rfl) (by kernel_rfl) (by kernel_rfl) (by kernel_rfl) ps h
@[simp] theorem ap_309 (a b : Value) (h : Heap) : builtinV Prog .append [309, 309] [a, b] h = apR 1 24 a b h := ap_is (e := 75) (z := .agg #[.slice none 0 0]) (by kernel_rfl) (by kernel_rfl) (by kernel_rfl) (by kernel_rfl) (by kernel_rfl) a b h
@[simp] theorem sl_309 (x : Value) (lo hi mx : Option Value) (h : Heap) : sliceR Prog 309 x lo hi mx h = slS 1 x lo hi mx h := slS_eq (e := 75) (by kernel_rfl) (by kernel_rfl) x lo hi mx h
end
end Go.Sw
