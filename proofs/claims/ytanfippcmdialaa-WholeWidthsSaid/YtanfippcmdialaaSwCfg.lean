/-
  The seat's functions by their names, and facts of their types.
-/
import Derived.Test.YtanfippcmdialaaSwLib7
import Derived.Test.YtanfippcmdialaaRows
namespace Go.Sw
noncomputable section
noncomputable abbrev Prog:Program:=Go.Proofs.Try.prog
namespace F
abbrev swashtop_WholeWidths:Nat:=13
abbrev view_Try:Nat:=40
abbrev view_Of:Nat:=43
abbrev swashlaw17_speaks:Nat:=52
abbrev sfnt_Make:Nat:=62
abbrev swashref02_Put:Nat:=63
abbrev swashlaw03_Plain:Nat:=64
abbrev width_Read:Nat:=65
abbrev width_Width_Face:Nat:=66
abbrev width_Width_Advance:Nat:=67
abbrev slices_Clone_of_api_Glyph_api_Glyph:Nat:=71
abbrev view_View_Bytes:Nat:=95
abbrev view_View_U32:Nat:=97
abbrev view_Need:Nat:=101
abbrev view_View_U16:Nat:=102
abbrev view_View_Rows:Nat:=104
abbrev view_View_Cut:Nat:=107
abbrev slices_Clone_of_api_Place_api_Place:Nat:=115
abbrev slices_Clone_of_sfnt_Part_sfnt_Part:Nat:=134
abbrev slices_SortStableFunc_of_sfnt_Part_sfnt_Part:Nat:=135
abbrev sfnt_Make_in1:Nat:=136
abbrev cmp_Compare_of_string:Nat:=137
abbrev math_bits_Len:Nat:=138
abbrev sfnt_put:Nat:=139
abbrev sfnt_sum:Nat:=140
abbrev face_Read:Nat:=141
abbrev sfnt_Find:Nat:=142
abbrev width_Read_in1:Nat:=143
abbrev view_Fail:Nat:=154
abbrev view_View_piece:Nat:=159
abbrev slices_stableCmpFunc_of_sfnt_Part:Nat:=175
abbrev cmp_isNaN_of_string:Nat:=176
abbrev math_bits_Len32:Nat:=177
abbrev math_bits_Len64:Nat:=178
abbrev face_Read_in1:Nat:=179
abbrev face_take:Nat:=180
abbrev sfnt_Tables:Nat:=181
abbrev slices_BinarySearchFunc_of_sfnt_Table_sfnt_Table_string:Nat:=182
abbrev sfnt_Find_in1:Nat:=183
abbrev slices_insertionSortCmpFunc_of_sfnt_Part:Nat:=193
abbrev face_table:Nat:=195
abbrev sfnt_Tables_in1:Nat:=196
abbrev sfnt_take:Nat:=197
end F
def kp2:List (Nat × List Nat):=[(0,[])]
def kp3:List (Nat × List Nat):=[]
def kp4:List (Nat × List Nat):=[]
def kp5:List (Nat × List Nat):=[]
def kp6:List (Nat × List Nat):=[]
def kp7:List (Nat × List Nat):=[]
def kp8:List (Nat × List Nat):=[]
def kp9:List (Nat × List Nat):=[]
def kp10:List (Nat × List Nat):=[]
def kp11:List (Nat × List Nat):=[]
def kp12:List (Nat × List Nat):=[]
def kp13:List (Nat × List Nat):=[(0,[0,1,2]),(1,[0,1,2,7]),(2,[0,1,2,25]),(3,[6]),(4,[0,1,2,33]),(5,[6]),(6,[0,2,8]),(7,[0,2,8,9]),(8,[0,2,8,9,38,39,40]),(9,[0,2,8,9,38,39,40,41]),(10,[0,2,8,9,11,38,39,40]),(11,[0,2,8,9,38,39,40]),(12,[0,2,8,9,38,39,40]),(13,[0,2,8,12]),(14,[0,2,8,12,58,59,60]),(15,[0,2,8,12,58,59,60,61]),(16,[0,2,8,12,14,58,59,60]),(17,[0,2,8,12,15,58,59,60]),(18,[0,2,8,12,15,58,59,60,69]),(19,[0,2,8,12,58,59,60]),(20,[0,2,8,12,58,59,60]),(21,[0,2,8,12,58,59,60]),(22,[0,8,16,17]),(23,[0,16,105]),(24,[6]),(25,[16,106,107,108]),(26,[16,106,107,108,109]),(27,[16,18,19,106,107,108]),(28,[16,106,107,108,118]),(29,[6]),(30,[16,106,107,108]),(31,[6]),(1000009,[0,2,8,9,38,39,40]),(1000015,[0,2,8,12,58,59,60]),(1000026,[16,106,107,108])]
def kp14:List (Nat × List Nat):=[]
def kp15:List (Nat × List Nat):=[(0,[]),(1,[1]),(2,[1,18]),(3,[0]),(4,[1,2,3]),(5,[0])]
def kp16:List (Nat × List Nat):=[]
def kp17:List (Nat × List Nat):=[]
def kp18:List (Nat × List Nat):=[]
def kp19:List (Nat × List Nat):=[]
def kp20:List (Nat × List Nat):=[]
def kp21:List (Nat × List Nat):=[]
def kp22:List (Nat × List Nat):=[(0,[]),(1,[1,2]),(2,[1,17]),(3,[0]),(4,[1,3,4]),(5,[1,3,4,6]),(6,[0])]
def kp23:List (Nat × List Nat):=[]
def kp24:List (Nat × List Nat):=[]
def kp25:List (Nat × List Nat):=[]
def kp26:List (Nat × List Nat):=[]
def kp27:List (Nat × List Nat):=[]
def kp28:List (Nat × List Nat):=[]
def kp29:List (Nat × List Nat):=[]
def kp30:List (Nat × List Nat):=[]
def kp31:List (Nat × List Nat):=[]
def kp32:List (Nat × List Nat):=[]
def kp33:List (Nat × List Nat):=[(0,[]),(1,[1,2]),(2,[1,19]),(3,[0]),(4,[1,3,4]),(5,[0])]
def kp34:List (Nat × List Nat):=[]
def kp35:List (Nat × List Nat):=[]
def kp36:List (Nat × List Nat):=[]
def kp37:List (Nat × List Nat):=[]
def kp38:List (Nat × List Nat):=[]
def kp39:List (Nat × List Nat):=[]
def kp40:List (Nat × List Nat):=[(0,[0,2]),(1,[0,2]),(2,[2]),(3,[2])]
def kp41:List (Nat × List Nat):=[]
def kp42:List (Nat × List Nat):=[]
def kp43:List (Nat × List Nat):=[(0,[0,2]),(1,[2])]
def kp44:List (Nat × List Nat):=[(0,[]),(1,[1]),(2,[2,3]),(3,[2,3,4]),(4,[2,4,34]),(5,[0]),(6,[4,5]),(7,[0])]
def kp45:List (Nat × List Nat):=[]
def kp46:List (Nat × List Nat):=[]
def kp47:List (Nat × List Nat):=[]
def kp48:List (Nat × List Nat):=[]
def kp49:List (Nat × List Nat):=[]
def kp50:List (Nat × List Nat):=[]
def kp51:List (Nat × List Nat):=[]
def kp52:List (Nat × List Nat):=[(0,[]),(1,[1,2]),(2,[1,15]),(3,[0]),(4,[1,3]),(5,[0])]
def kp53:List (Nat × List Nat):=[]
def kp54:List (Nat × List Nat):=[]
def kp55:List (Nat × List Nat):=[]
def kp56:List (Nat × List Nat):=[]
def kp57:List (Nat × List Nat):=[]
def kp58:List (Nat × List Nat):=[]
def kp59:List (Nat × List Nat):=[]
def kp60:List (Nat × List Nat):=[]
def kp61:List (Nat × List Nat):=[]
def kp62:List (Nat × List Nat):=[(0,[0]),(1,[0]),(2,[0]),(3,[0,18,19,20]),(4,[0,18,19,20,21]),(5,[0,3,4,18,19,20]),(6,[0,18,19,20,43]),(7,[2]),(8,[0,18,19,20]),(9,[0,5]),(10,[0,5,48]),(11,[2]),(12,[0,5,6]),(13,[0,5,6,54]),(14,[0,5,6]),(15,[0,5,6,7]),(16,[0,5,6,7,56]),(17,[0,5,6,7]),(18,[0,5,8]),(19,[0,8,9]),(20,[0,8,9,74,75,76]),(21,[0,8,9,74,75,76,77]),(22,[0,8,9,11,74,75,76]),(23,[0,8,9,11,74,75,76]),(24,[0,8,9,11,74,75,76]),(25,[0,8,9,74,75,76]),(26,[0,8,9,74,75,76]),(27,[8,104,105,106]),(28,[8,104,105,106,107]),(29,[8,13,104,105,106]),(30,[8,104,105,106]),(31,[8,104,105,106,117]),(32,[8,104,105,106]),(33,[8,104,105,106]),(34,[2]),(1000004,[0,18,19,20]),(1000021,[0,8,9,74,75,76]),(1000028,[8,104,105,106]),(1000031,[8,104,105,106])]
def kp63:List (Nat × List Nat):=[(0,[0,1,2]),(1,[0,1,7]),(2,[0,1,7,13]),(3,[0,1,7]),(4,[0,1,7,8]),(5,[0,1,7,8,9]),(6,[0,1,7,8,9,19]),(7,[0,1,7,8,9]),(8,[0,1,7,8,9]),(9,[0,1,7]),(10,[6]),(1000002,[0,1,7]),(1000006,[0,1,7,8,9])]
def kp64:List (Nat × List Nat):=[(0,[0,1,2]),(1,[1,2,7]),(2,[1,2,7,8]),(3,[2,7,8]),(4,[2,7,8]),(5,[7,8,9]),(6,[6])]
def kp65:List (Nat × List Nat):=[(0,[0]),(1,[0,4,5]),(2,[0,4,5,14]),(3,[2,3]),(4,[4,6]),(5,[4,6,23]),(6,[2,3]),(7,[2,3])]
def kp66:List (Nat × List Nat):=[(0,[0,2]),(1,[2])]
def kp67:List (Nat × List Nat):=[(0,[0,1]),(1,[0,1,15]),(2,[4]),(3,[4])]
def kp68:List (Nat × List Nat):=[]
def kp69:List (Nat × List Nat):=[]
def kp70:List (Nat × List Nat):=[]
def kp71:List (Nat × List Nat):=[(0,[0]),(1,[0,4]),(2,[2]),(3,[2])]
def kp72:List (Nat × List Nat):=[]
def kp73:List (Nat × List Nat):=[]
def kp74:List (Nat × List Nat):=[]
def kp75:List (Nat × List Nat):=[(0,[0,1,2]),(1,[0,1,2]),(2,[0,1,2,7]),(3,[0,1,2,7,16]),(4,[6]),(5,[0,1,2,7,8]),(6,[0,1,2,7,8,22]),(7,[6]),(8,[0,1,2,7,8,31]),(9,[0,1,2,7,9]),(10,[0,1,7,9]),(11,[9]),(12,[6]),(13,[0,1,2,7,8]),(14,[0,1,2,7,8,68]),(15,[0,1,2]),(16,[0]),(17,[6]),(18,[0,1,7]),(19,[0]),(20,[6])]
def kp76:List (Nat × List Nat):=[]
def kp77:List (Nat × List Nat):=[]
def kp78:List (Nat × List Nat):=[]
def kp79:List (Nat × List Nat):=[]
def kp80:List (Nat × List Nat):=[(0,[0,9,10,11]),(1,[0,9,10,11,12]),(2,[0,4,9,10,11]),(3,[0,4,5,9,10,11]),(4,[0,4,5,9,10,11,20]),(5,[0,4,5,9,10,11]),(6,[0,4,5,9,10,11,29]),(7,[0,9,10,11]),(1000001,[0,9,10,11]),(1000004,[0,4,5,9,10,11])]
def kp81:List (Nat × List Nat):=[]
def kp82:List (Nat × List Nat):=[]
def kp83:List (Nat × List Nat):=[]
def kp84:List (Nat × List Nat):=[]
def kp85:List (Nat × List Nat):=[]
def kp86:List (Nat × List Nat):=[]
def kp87:List (Nat × List Nat):=[]
def kp88:List (Nat × List Nat):=[]
def kp89:List (Nat × List Nat):=[]
def kp90:List (Nat × List Nat):=[]
def kp91:List (Nat × List Nat):=[]
def kp92:List (Nat × List Nat):=[]
def kp93:List (Nat × List Nat):=[]
def kp94:List (Nat × List Nat):=[]
def kp95:List (Nat × List Nat):=[(0,[1]),(1,[2])]
def kp96:List (Nat × List Nat):=[]
def kp97:List (Nat × List Nat):=[(0,[1,2]),(1,[5]),(2,[4])]
def kp98:List (Nat × List Nat):=[]
def kp99:List (Nat × List Nat):=[]
def kp100:List (Nat × List Nat):=[(0,[0,4]),(1,[3]),(2,[]),(3,[0,4,6]),(4,[]),(5,[0,4,8,9]),(6,[0]),(7,[])]
def kp101:List (Nat × List Nat):=[(0,[3]),(1,[])]
def kp102:List (Nat × List Nat):=[(0,[1,2]),(1,[5]),(2,[4])]
def kp103:List (Nat × List Nat):=[]
def kp104:List (Nat × List Nat):=[(0,[1,2,3,4,8]),(1,[1,2,3,4,8]),(2,[8])]
def kp105:List (Nat × List Nat):=[]
def kp106:List (Nat × List Nat):=[]
def kp107:List (Nat × List Nat):=[(0,[1,2,3,6]),(1,[6])]
def kp108:List (Nat × List Nat):=[]
def kp109:List (Nat × List Nat):=[]
def kp110:List (Nat × List Nat):=[]
def kp111:List (Nat × List Nat):=[]
def kp112:List (Nat × List Nat):=[]
def kp113:List (Nat × List Nat):=[]
def kp114:List (Nat × List Nat):=[]
def kp115:List (Nat × List Nat):=[(0,[0]),(1,[0,4]),(2,[2]),(3,[2])]
def kp116:List (Nat × List Nat):=[]
def kp117:List (Nat × List Nat):=[]
def kp118:List (Nat × List Nat):=[]
def kp119:List (Nat × List Nat):=[]
def kp120:List (Nat × List Nat):=[]
def kp121:List (Nat × List Nat):=[]
def kp122:List (Nat × List Nat):=[]
def kp123:List (Nat × List Nat):=[]
def kp124:List (Nat × List Nat):=[]
def kp125:List (Nat × List Nat):=[]
def kp126:List (Nat × List Nat):=[]
def kp127:List (Nat × List Nat):=[]
def kp128:List (Nat × List Nat):=[]
def kp129:List (Nat × List Nat):=[]
def kp130:List (Nat × List Nat):=[]
def kp131:List (Nat × List Nat):=[]
def kp132:List (Nat × List Nat):=[]
def kp133:List (Nat × List Nat):=[]
def kp134:List (Nat × List Nat):=[(0,[0]),(1,[0,4]),(2,[2]),(3,[2])]
def kp135:List (Nat × List Nat):=[(0,[])]
def kp136:List (Nat × List Nat):=[(0,[2,3]),(1,[4])]
def kp137:List (Nat × List Nat):=[(0,[0,1]),(1,[0,1,5]),(2,[0,1,5,6]),(3,[0,1,6,11]),(4,[12]),(5,[4]),(6,[4]),(7,[0,1,13]),(8,[4]),(9,[0,1,16]),(10,[4]),(11,[19]),(12,[4]),(13,[4])]
def kp138:List (Nat × List Nat):=[(0,[0]),(1,[2]),(2,[2])]
def kp139:List (Nat × List Nat):=[(0,[0,1,2]),(1,[0,1,7]),(2,[0,1,7,11]),(3,[0,1,7]),(4,[0,1,7]),(5,[6]),(1000002,[0,1,7])]
def kp140:List (Nat × List Nat):=[(0,[0]),(1,[0,3]),(2,[3,6,7,8]),(3,[3,6,7,8,9]),(4,[3,4,5,6,7,8]),(5,[3,6,7,8]),(6,[3,6,7,8]),(7,[2]),(1000003,[3,6,7,8])]
def kp141:List (Nat × List Nat):=[(0,[1,2]),(1,[2,6]),(2,[2,3]),(3,[2,3])]
def kp142:List (Nat × List Nat):=[(0,[0,1,4]),(1,[0,1,4,6]),(2,[0,4,6,8,9]),(3,[0,4,6,8,22]),(4,[4,5]),(5,[4,5])]
def kp143:List (Nat × List Nat):=[(0,[])]
def kp144:List (Nat × List Nat):=[]
def kp145:List (Nat × List Nat):=[]
def kp146:List (Nat × List Nat):=[]
def kp147:List (Nat × List Nat):=[]
def kp149:List (Nat × List Nat):=[(0,[])]
def kp150:List (Nat × List Nat):=[]
def kp151:List (Nat × List Nat):=[]
def kp152:List (Nat × List Nat):=[]
def kp153:List (Nat × List Nat):=[]
def kp154:List (Nat × List Nat):=[(0,[])]
def kp155:List (Nat × List Nat):=[]
def kp156:List (Nat × List Nat):=[]
def kp157:List (Nat × List Nat):=[]
def kp158:List (Nat × List Nat):=[]
def kp159:List (Nat × List Nat):=[(0,[1,2,3]),(1,[1,2,3]),(2,[6])]
def kp160:List (Nat × List Nat):=[]
def kp161:List (Nat × List Nat):=[]
def kp162:List (Nat × List Nat):=[]
def kp163:List (Nat × List Nat):=[]
def kp164:List (Nat × List Nat):=[]
def kp165:List (Nat × List Nat):=[]
def kp166:List (Nat × List Nat):=[]
def kp167:List (Nat × List Nat):=[]
def kp168:List (Nat × List Nat):=[]
def kp169:List (Nat × List Nat):=[]
def kp170:List (Nat × List Nat):=[]
def kp171:List (Nat × List Nat):=[]
def kp172:List (Nat × List Nat):=[]
def kp173:List (Nat × List Nat):=[]
def kp174:List (Nat × List Nat):=[]
def kp175:List (Nat × List Nat):=[(0,[0,1,2,6]),(1,[0,1,2,6,7,8]),(2,[0,1,2,6,7,8,13]),(3,[0,1,2,6,8]),(4,[0,1,2,6,7,8]),(5,[0,1,2,6,7,8]),(6,[0,1,2,6]),(7,[0,1,2,6,30]),(8,[0,1,2,6,7,8]),(9,[0,1,2,6,7,8,35]),(10,[0,1,2,6,8]),(11,[0,1,2,6,7,8]),(12,[0,1,2,6,7,8]),(13,[0,1,2,6,7,9]),(14,[0,1,2,6,7,9,54]),(15,[0,1,2,6]),(16,[0,1,2,6]),(1000002,[0,1,2,6,7,8]),(1000007,[0,1,2,6]),(1000009,[0,1,2,6,7,8])]
def kp176:List (Nat × List Nat):=[(0,[0]),(1,[2])]
def kp177:List (Nat × List Nat):=[(0,[0,2]),(1,[0,2,4]),(2,[0]),(3,[0,2]),(4,[0,2,8]),(5,[0,2]),(6,[0,2]),(7,[2])]
def kp178:List (Nat × List Nat):=[(0,[0,2]),(1,[0,2,4]),(2,[0]),(3,[0,2]),(4,[0,2,8]),(5,[0,2]),(6,[0,2]),(7,[0,2,14]),(8,[0,2]),(9,[0,2]),(10,[2])]
def kp179:List (Nat × List Nat):=[(0,[])]
def kp180:List (Nat × List Nat):=[(0,[0,2]),(1,[2,3,4,5]),(2,[2,3,4,5,6]),(3,[2,3,4,5]),(4,[2,3,4,5]),(5,[2,3,4,5]),(6,[2,3,4,5]),(7,[2,7]),(8,[2,7]),(9,[2])]
def kp181:List (Nat × List Nat):=[(0,[1,2]),(1,[2,6]),(2,[2,3]),(3,[2,3])]
def kp182:List (Nat × List Nat):=[(0,[0,1,2]),(1,[0,1,2,8]),(2,[0,1,2,8,9,10]),(3,[0,1,2,8,9,10,17]),(4,[0,1,2,8,9,10,11]),(5,[0,1,2,8,9,10,11,31]),(6,[0,1,2,8,9,10]),(7,[0,1,2,8,9,10]),(8,[6,7]),(1000003,[0,1,2,8,9,10])]
def kp183:List (Nat × List Nat):=[(0,[1,2]),(1,[4])]
def kp184:List (Nat × List Nat):=[]
def kp185:List (Nat × List Nat):=[]
def kp186:List (Nat × List Nat):=[(0,[0,1]),(1,[0]),(2,[])]
def kp187:List (Nat × List Nat):=[]
def kp188:List (Nat × List Nat):=[]
def kp189:List (Nat × List Nat):=[]
def kp190:List (Nat × List Nat):=[(0,[0,1,2,6]),(1,[0,1,2,6,30]),(2,[6,7]),(3,[6,7])]
def kp191:List (Nat × List Nat):=[]
def kp192:List (Nat × List Nat):=[]
def kp193:List (Nat × List Nat):=[(0,[0,1,2,3,8]),(1,[0,1,2,3,8,14]),(2,[0,1,2,3,8]),(3,[0,1,2,3,8,9]),(4,[0,1,2,3,8,9,34]),(5,[0,1,2,3,8,9]),(6,[0,1,2,3,8,9]),(1000001,[0,1,2,3,8]),(1000004,[0,1,2,3,8,9])]
def kp194:List (Nat × List Nat):=[]
def kp195:List (Nat × List Nat):=[(0,[0,1,4]),(1,[4,5,6]),(2,[4,5]),(3,[4])]
def kp196:List (Nat × List Nat):=[(0,[])]
def kp197:List (Nat × List Nat):=[(0,[1]),(1,[1,3]),(2,[1]),(3,[1,4]),(4,[1,4,5]),(5,[1,4,5,6]),(6,[1,5,6,24,25]),(7,[1,5,6,24,25,26]),(8,[1,5,6,7,24,25]),(9,[1,5,6,7,8,24,25]),(10,[1,5,6,7,9,24,25]),(11,[1,5,6,7,9,24,25]),(12,[1,5,6,9,24,25]),(13,[1,5,6,24,25]),(14,[1,5,6,24,25]),(15,[2]),(1000007,[1,5,6,24,25])]
def kp198:List (Nat × List Nat):=[]
def kp199:List (Nat × List Nat):=[]
def kp200:List (Nat × List Nat):=[]
def kp201:List (Nat × List Nat):=[]
def kp202:List (Nat × List Nat):=[(0,[0,2,3,4,10]),(1,[0,2,4,10,11]),(2,[0,2,4,10,11,20]),(3,[0,2,4,10,11,23]),(4,[0,2,4,10,11]),(5,[0,2,4,10,11]),(6,[0,2,4,10,11]),(7,[0,2,4,10,11]),(8,[]),(1000002,[0,2,4,10,11])]
def kp203:List (Nat × List Nat):=[]
def kpT (f:Nat):List (Nat × List Nat) :=
 bif Nat.blt f 111 then (bif Nat.blt f 55 then (bif Nat.blt f 27 then (bif Nat.blt f 13 then (bif Nat.blt f 6 then (bif Nat.blt f 3 then (bif Nat.blt f 1 then ([]) else (bif Nat.blt f 2 then ([]) else (kp2))) else (bif Nat.blt f 4 then (kp3) else (bif Nat.blt f 5 then (kp4) else (kp5)))) else (bif Nat.blt f 9 then (bif Nat.blt f 7 then (kp6) else (bif Nat.blt f 8 then (kp7) else (kp8))) else (bif Nat.blt f 11 then (bif Nat.blt f 10 then (kp9) else (kp10)) else (bif Nat.blt f 12 then (kp11) else (kp12))))) else (bif Nat.blt f 20 then (bif Nat.blt f 16 then (bif Nat.blt f 14 then (kp13) else (bif Nat.blt f 15 then (kp14) else (kp15))) else (bif Nat.blt f 18 then (bif Nat.blt f 17 then (kp16) else (kp17)) else (bif Nat.blt f 19 then (kp18) else (kp19)))) else (bif Nat.blt f 23 then (bif Nat.blt f 21 then (kp20) else (bif Nat.blt f 22 then (kp21) else (kp22))) else (bif Nat.blt f 25 then (bif Nat.blt f 24 then (kp23) else (kp24)) else (bif Nat.blt f 26 then (kp25) else (kp26)))))) else (bif Nat.blt f 41 then (bif Nat.blt f 34 then (bif Nat.blt f 30 then (bif Nat.blt f 28 then (kp27) else (bif Nat.blt f 29 then (kp28) else (kp29))) else (bif Nat.blt f 32 then (bif Nat.blt f 31 then (kp30) else (kp31)) else (bif Nat.blt f 33 then (kp32) else (kp33)))) else (bif Nat.blt f 37 then (bif Nat.blt f 35 then (kp34) else (bif Nat.blt f 36 then (kp35) else (kp36))) else (bif Nat.blt f 39 then (bif Nat.blt f 38 then (kp37) else (kp38)) else (bif Nat.blt f 40 then (kp39) else (kp40))))) else (bif Nat.blt f 48 then (bif Nat.blt f 44 then (bif Nat.blt f 42 then (kp41) else (bif Nat.blt f 43 then (kp42) else (kp43))) else (bif Nat.blt f 46 then (bif Nat.blt f 45 then (kp44) else (kp45)) else (bif Nat.blt f 47 then (kp46) else (kp47)))) else (bif Nat.blt f 51 then (bif Nat.blt f 49 then (kp48) else (bif Nat.blt f 50 then (kp49) else (kp50))) else (bif Nat.blt f 53 then (bif Nat.blt f 52 then (kp51) else (kp52)) else (bif Nat.blt f 54 then (kp53) else (kp54))))))) else (bif Nat.blt f 83 then (bif Nat.blt f 69 then (bif Nat.blt f 62 then (bif Nat.blt f 58 then (bif Nat.blt f 56 then (kp55) else (bif Nat.blt f 57 then (kp56) else (kp57))) else (bif Nat.blt f 60 then (bif Nat.blt f 59 then (kp58) else (kp59)) else (bif Nat.blt f 61 then (kp60) else (kp61)))) else (bif Nat.blt f 65 then (bif Nat.blt f 63 then (kp62) else (bif Nat.blt f 64 then (kp63) else (kp64))) else (bif Nat.blt f 67 then (bif Nat.blt f 66 then (kp65) else (kp66)) else (bif Nat.blt f 68 then (kp67) else (kp68))))) else (bif Nat.blt f 76 then (bif Nat.blt f 72 then (bif Nat.blt f 70 then (kp69) else (bif Nat.blt f 71 then (kp70) else (kp71))) else (bif Nat.blt f 74 then (bif Nat.blt f 73 then (kp72) else (kp73)) else (bif Nat.blt f 75 then (kp74) else (kp75)))) else (bif Nat.blt f 79 then (bif Nat.blt f 77 then (kp76) else (bif Nat.blt f 78 then (kp77) else (kp78))) else (bif Nat.blt f 81 then (bif Nat.blt f 80 then (kp79) else (kp80)) else (bif Nat.blt f 82 then (kp81) else (kp82)))))) else (bif Nat.blt f 97 then (bif Nat.blt f 90 then (bif Nat.blt f 86 then (bif Nat.blt f 84 then (kp83) else (bif Nat.blt f 85 then (kp84) else (kp85))) else (bif Nat.blt f 88 then (bif Nat.blt f 87 then (kp86) else (kp87)) else (bif Nat.blt f 89 then (kp88) else (kp89)))) else (bif Nat.blt f 93 then (bif Nat.blt f 91 then (kp90) else (bif Nat.blt f 92 then (kp91) else (kp92))) else (bif Nat.blt f 95 then (bif Nat.blt f 94 then (kp93) else (kp94)) else (bif Nat.blt f 96 then (kp95) else (kp96))))) else (bif Nat.blt f 104 then (bif Nat.blt f 100 then (bif Nat.blt f 98 then (kp97) else (bif Nat.blt f 99 then (kp98) else (kp99))) else (bif Nat.blt f 102 then (bif Nat.blt f 101 then (kp100) else (kp101)) else (bif Nat.blt f 103 then (kp102) else (kp103)))) else (bif Nat.blt f 107 then (bif Nat.blt f 105 then (kp104) else (bif Nat.blt f 106 then (kp105) else (kp106))) else (bif Nat.blt f 109 then (bif Nat.blt f 108 then (kp107) else (kp108)) else (bif Nat.blt f 110 then (kp109) else (kp110)))))))) else (bif Nat.blt f 167 then (bif Nat.blt f 139 then (bif Nat.blt f 125 then (bif Nat.blt f 118 then (bif Nat.blt f 114 then (bif Nat.blt f 112 then (kp111) else (bif Nat.blt f 113 then (kp112) else (kp113))) else (bif Nat.blt f 116 then (bif Nat.blt f 115 then (kp114) else (kp115)) else (bif Nat.blt f 117 then (kp116) else (kp117)))) else (bif Nat.blt f 121 then (bif Nat.blt f 119 then (kp118) else (bif Nat.blt f 120 then (kp119) else (kp120))) else (bif Nat.blt f 123 then (bif Nat.blt f 122 then (kp121) else (kp122)) else (bif Nat.blt f 124 then (kp123) else (kp124))))) else (bif Nat.blt f 132 then (bif Nat.blt f 128 then (bif Nat.blt f 126 then (kp125) else (bif Nat.blt f 127 then (kp126) else (kp127))) else (bif Nat.blt f 130 then (bif Nat.blt f 129 then (kp128) else (kp129)) else (bif Nat.blt f 131 then (kp130) else (kp131)))) else (bif Nat.blt f 135 then (bif Nat.blt f 133 then (kp132) else (bif Nat.blt f 134 then (kp133) else (kp134))) else (bif Nat.blt f 137 then (bif Nat.blt f 136 then (kp135) else (kp136)) else (bif Nat.blt f 138 then (kp137) else (kp138)))))) else (bif Nat.blt f 153 then (bif Nat.blt f 146 then (bif Nat.blt f 142 then (bif Nat.blt f 140 then (kp139) else (bif Nat.blt f 141 then (kp140) else (kp141))) else (bif Nat.blt f 144 then (bif Nat.blt f 143 then (kp142) else (kp143)) else (bif Nat.blt f 145 then (kp144) else (kp145)))) else (bif Nat.blt f 149 then (bif Nat.blt f 147 then (kp146) else (bif Nat.blt f 148 then (kp147) else ([]))) else (bif Nat.blt f 151 then (bif Nat.blt f 150 then (kp149) else (kp150)) else (bif Nat.blt f 152 then (kp151) else (kp152))))) else (bif Nat.blt f 160 then (bif Nat.blt f 156 then (bif Nat.blt f 154 then (kp153) else (bif Nat.blt f 155 then (kp154) else (kp155))) else (bif Nat.blt f 158 then (bif Nat.blt f 157 then (kp156) else (kp157)) else (bif Nat.blt f 159 then (kp158) else (kp159)))) else (bif Nat.blt f 163 then (bif Nat.blt f 161 then (kp160) else (bif Nat.blt f 162 then (kp161) else (kp162))) else (bif Nat.blt f 165 then (bif Nat.blt f 164 then (kp163) else (kp164)) else (bif Nat.blt f 166 then (kp165) else (kp166))))))) else (bif Nat.blt f 195 then (bif Nat.blt f 181 then (bif Nat.blt f 174 then (bif Nat.blt f 170 then (bif Nat.blt f 168 then (kp167) else (bif Nat.blt f 169 then (kp168) else (kp169))) else (bif Nat.blt f 172 then (bif Nat.blt f 171 then (kp170) else (kp171)) else (bif Nat.blt f 173 then (kp172) else (kp173)))) else (bif Nat.blt f 177 then (bif Nat.blt f 175 then (kp174) else (bif Nat.blt f 176 then (kp175) else (kp176))) else (bif Nat.blt f 179 then (bif Nat.blt f 178 then (kp177) else (kp178)) else (bif Nat.blt f 180 then (kp179) else (kp180))))) else (bif Nat.blt f 188 then (bif Nat.blt f 184 then (bif Nat.blt f 182 then (kp181) else (bif Nat.blt f 183 then (kp182) else (kp183))) else (bif Nat.blt f 186 then (bif Nat.blt f 185 then (kp184) else (kp185)) else (bif Nat.blt f 187 then (kp186) else (kp187)))) else (bif Nat.blt f 191 then (bif Nat.blt f 189 then (kp188) else (bif Nat.blt f 190 then (kp189) else (kp190))) else (bif Nat.blt f 193 then (bif Nat.blt f 192 then (kp191) else (kp192)) else (bif Nat.blt f 194 then (kp193) else (kp194)))))) else (bif Nat.blt f 209 then (bif Nat.blt f 202 then (bif Nat.blt f 198 then (bif Nat.blt f 196 then (kp195) else (bif Nat.blt f 197 then (kp196) else (kp197))) else (bif Nat.blt f 200 then (bif Nat.blt f 199 then (kp198) else (kp199)) else (bif Nat.blt f 201 then (kp200) else (kp201)))) else (bif Nat.blt f 205 then (bif Nat.blt f 203 then (kp202) else (bif Nat.blt f 204 then (kp203) else ([]))) else ([]))) else ([]))))
def kpLook (id:Nat):List (Nat × List Nat) → List Nat
 | [] => []
 | (i,l) :: r => bif Nat.beq i id then l else kpLook id r
def kpS (f id:Nat):List Nat:=kpLook id (kpT f)
def speaksT:List Nat:=[15,22,33,44,52]
abbrev shortT:Nat:=190
def moreS (f:Nat):Option Sp:=bif Nat.beq f 4 then some stuckSp else bif Nat.beq f 7 then some stuckSp else bif Nat.beq f 40 then some (tryV 190) else bif Nat.beq f 42 then some stuckSp else bif Nat.beq f 71 then some (fun _ args H => cloneV 2 16 args H) else bif Nat.beq f 73 then some stuckSp else bif Nat.beq f 75 then some stuckSp else bif Nat.beq f 115 then some (fun _ args H => cloneV 3 12 args H) else bif Nat.beq f 134 then some (fun _ args H => cloneV 2 40 args H) else none
def ownersW:List Nat:=[999999,44,52]
def ownW (k:Nat):Mode:=bif ownersW.contains (k % 1000000) then .no else .fz
abbrev sP17:Nat:=F.swashlaw17_speaks
abbrev sP25:Nat:=999998
def ownP (s k n:Nat):Mode:=bif Nat.beq k s && Nat.ble n 2 then .no else own k
def mdS (k f n:Nat):Mode:=bif Nat.blt f 111 then (bif Nat.blt f 55 then (bif Nat.blt f 27 then (bif Nat.blt f 13 then (bif Nat.blt f 6 then (bif Nat.blt f 3 then (bif Nat.blt f 1 then (.gc) else (bif Nat.blt f 2 then (.gc) else (.no))) else (.gc)) else (.gc)) else (bif Nat.blt f 20 then (bif Nat.blt f 16 then (.gc) else (bif Nat.blt f 18 then (.no) else (bif Nat.blt f 19 then (.fz) else (own k)))) else (bif Nat.blt f 23 then (bif Nat.blt f 21 then (.no) else (bif Nat.blt f 22 then (.no) else (.gc))) else (bif Nat.blt f 25 then (.fz) else (bif Nat.blt f 26 then (.no) else (.gc)))))) else (bif Nat.blt f 41 then (bif Nat.blt f 34 then (bif Nat.blt f 30 then (bif Nat.blt f 28 then (.gc) else (bif Nat.blt f 29 then (.no) else (.fz))) else (bif Nat.blt f 32 then (bif Nat.blt f 31 then (.no) else (.gc)) else (.gc))) else (bif Nat.blt f 37 then (bif Nat.blt f 35 then (own k) else (bif Nat.blt f 36 then (.fz) else (.gc))) else (bif Nat.blt f 39 then (.gc) else (bif Nat.blt f 40 then (.fz) else (.no))))) else (bif Nat.blt f 48 then (bif Nat.blt f 44 then (bif Nat.blt f 42 then (.no) else (bif Nat.blt f 43 then (.fz) else (.gc))) else (bif Nat.blt f 46 then (bif Nat.blt f 45 then (.gc) else (.no)) else (.fz))) else (bif Nat.blt f 51 then (bif Nat.blt f 49 then (.no) else (bif Nat.blt f 50 then (.no) else (.gc))) else (bif Nat.blt f 53 then (bif Nat.blt f 52 then (own k) else (.gc)) else (bif Nat.blt f 54 then (.gc) else (ownP sP17 k n))))))) else (bif Nat.blt f 83 then (bif Nat.blt f 69 then (bif Nat.blt f 62 then (bif Nat.blt f 58 then (bif Nat.blt f 56 then (.fz) else (bif Nat.blt f 57 then (.fz) else (.no))) else (bif Nat.blt f 60 then (bif Nat.blt f 59 then (.fz) else (.gc)) else (bif Nat.blt f 61 then (ownP sP25 k n) else (.fz)))) else (bif Nat.blt f 65 then (bif Nat.blt f 63 then (.fz) else (bif Nat.blt f 64 then (.no) else (.fz))) else (bif Nat.blt f 67 then (bif Nat.blt f 66 then (.fz) else (.gc)) else (bif Nat.blt f 68 then (.gc) else (.fz))))) else (bif Nat.blt f 76 then (bif Nat.blt f 72 then (bif Nat.blt f 70 then (.fz) else (.no)) else (.no)) else (bif Nat.blt f 79 then (bif Nat.blt f 77 then (.gc) else (bif Nat.blt f 78 then (.no) else (.fz))) else (bif Nat.blt f 81 then (bif Nat.blt f 80 then (.fz) else (.no)) else (.gc))))) else (bif Nat.blt f 97 then (bif Nat.blt f 90 then (bif Nat.blt f 86 then (bif Nat.blt f 84 then (.gc) else (bif Nat.blt f 85 then (.no) else (.gc))) else (bif Nat.blt f 88 then (.fz) else (bif Nat.blt f 89 then (.no) else (.fz)))) else (bif Nat.blt f 93 then (bif Nat.blt f 91 then (.no) else (.fz)) else (bif Nat.blt f 95 then (bif Nat.blt f 94 then (.fz) else (.gc)) else (bif Nat.blt f 96 then (.fz) else (.no))))) else (bif Nat.blt f 104 then (bif Nat.blt f 100 then (bif Nat.blt f 98 then (.gc) else (bif Nat.blt f 99 then (.gc) else (.no))) else (bif Nat.blt f 102 then (bif Nat.blt f 101 then (.no) else (.gc)) else (.gc))) else (bif Nat.blt f 107 then (bif Nat.blt f 105 then (.gc) else (bif Nat.blt f 106 then (.fz) else (own k))) else (bif Nat.blt f 109 then (bif Nat.blt f 108 then (.gc) else (.no)) else (bif Nat.blt f 110 then (.gc) else (.no)))))))) else (bif Nat.blt f 167 then (bif Nat.blt f 139 then (bif Nat.blt f 125 then (bif Nat.blt f 118 then (bif Nat.blt f 114 then (bif Nat.blt f 112 then (.gc) else (bif Nat.blt f 113 then (.no) else (.gc))) else (bif Nat.blt f 116 then (.no) else (bif Nat.blt f 117 then (.fz) else (ownW k)))) else (bif Nat.blt f 121 then (bif Nat.blt f 119 then (.no) else (.fz)) else (bif Nat.blt f 123 then (bif Nat.blt f 122 then (.fz) else (.gc)) else (.gc)))) else (bif Nat.blt f 132 then (bif Nat.blt f 128 then (.no) else (bif Nat.blt f 130 then (.gc) else (.fz))) else (bif Nat.blt f 135 then (bif Nat.blt f 133 then (.gc) else (bif Nat.blt f 134 then (.gc) else (.no))) else (bif Nat.blt f 137 then (bif Nat.blt f 136 then (.no) else (.gc)) else (.gc))))) else (bif Nat.blt f 153 then (bif Nat.blt f 146 then (bif Nat.blt f 142 then (bif Nat.blt f 140 then (.no) else (.gc)) else (bif Nat.blt f 144 then (bif Nat.blt f 143 then (.gc) else (.no)) else (bif Nat.blt f 145 then (.no) else (.fz)))) else (bif Nat.blt f 149 then (.no) else (bif Nat.blt f 151 then (bif Nat.blt f 150 then (.no) else (.fz)) else (.fz)))) else (bif Nat.blt f 160 then (bif Nat.blt f 156 then (bif Nat.blt f 154 then (.fz) else (.gc)) else (bif Nat.blt f 158 then (.fz) else (bif Nat.blt f 159 then (.fz) else (.gc)))) else (bif Nat.blt f 163 then (.no) else (bif Nat.blt f 165 then (.no) else (.gc)))))) else (bif Nat.blt f 195 then (bif Nat.blt f 181 then (bif Nat.blt f 174 then (bif Nat.blt f 170 then (bif Nat.blt f 168 then (.no) else (.gc)) else (bif Nat.blt f 172 then (bif Nat.blt f 171 then (.no) else (.gc)) else (.gc))) else (bif Nat.blt f 177 then (bif Nat.blt f 175 then (.gc) else (bif Nat.blt f 176 then (.no) else (.gc))) else (bif Nat.blt f 179 then (.gc) else (bif Nat.blt f 180 then (.no) else (.gc))))) else (bif Nat.blt f 188 then (bif Nat.blt f 184 then (bif Nat.blt f 182 then (.fz) else (bif Nat.blt f 183 then (.no) else (.gc))) else (bif Nat.blt f 186 then (bif Nat.blt f 185 then (.gc) else (.no)) else (bif Nat.blt f 187 then (.no) else (.gc)))) else (bif Nat.blt f 191 then (bif Nat.blt f 189 then (.fz) else (.gc)) else (bif Nat.blt f 193 then (.gc) else (.no))))) else (bif Nat.blt f 209 then (bif Nat.blt f 202 then (bif Nat.blt f 198 then (bif Nat.blt f 196 then (.gc) else (bif Nat.blt f 197 then (.no) else (.fz))) else (bif Nat.blt f 200 then (bif Nat.blt f 199 then (.fz) else (.gc)) else (.gc))) else (bif Nat.blt f 205 then (bif Nat.blt f 203 then (.no) else (bif Nat.blt f 204 then (.no) else (.gc))) else (.gc))) else (bif Nat.blt f 216 then (.gc) else (bif Nat.blt f 219 then (.gc) else (bif Nat.blt f 221 then (bif Nat.blt f 220 then (.gc) else (.no)) else (.gc)))))))
def arS (f:Nat):Bool:=[56,61,62].any (Nat.beq f)
def pkS (f:Nat):Bool:=Nat.beq f 56
noncomputable def C (k:Nat):Cfg:={ P:=Prog,kp:=kpS,sp:=spOf speaksT moreS (k % 1000000) }
noncomputable def T (k:Nat):Told:={ c:=C k,md:=mdS k,ar:=arS,pk:=pkS }
theorem more_scott (f:FuncId) (s:Sp) (h:moreS f = some s):∀ args H,Scott fun call => s call args H:=by
 unfold moreS at h;cases h4:Nat.beq f 4 with
 | true => rw [h4,cond_true] at h; injection h with h; subst h; exact fun args H => Scott.const _
 | false =>
 rw [h4,cond_false] at h;cases h7:Nat.beq f 7 with
 | true => rw [h7,cond_true] at h; injection h with h; subst h; exact fun args H => Scott.const _
 | false =>
 rw [h7,cond_false] at h;cases h40:Nat.beq f 40 with
 | true => rw [h40,cond_true] at h; injection h with h; subst h; first | exact fun args H => Scott.const _ | exact Scott.tryV _ | exact Scott.told _
 | false =>
 rw [h40,cond_false] at h;cases h42:Nat.beq f 42 with
 | true => rw [h42,cond_true] at h; injection h with h; subst h; exact fun args H => Scott.const _
 | false =>
 rw [h42,cond_false] at h;cases h71:Nat.beq f 71 with
 | true => rw [h71,cond_true] at h; injection h with h; subst h; first | exact fun args H => Scott.const _ | exact Scott.tryV _ | exact Scott.told _
 | false =>
 rw [h71,cond_false] at h;cases h73:Nat.beq f 73 with
 | true => rw [h73,cond_true] at h; injection h with h; subst h; exact fun args H => Scott.const _
 | false =>
 rw [h73,cond_false] at h;cases h75:Nat.beq f 75 with
 | true => rw [h75,cond_true] at h; injection h with h; subst h; exact fun args H => Scott.const _
 | false =>
 rw [h75,cond_false] at h;cases h115:Nat.beq f 115 with
 | true => rw [h115,cond_true] at h; injection h with h; subst h; first | exact fun args H => Scott.const _ | exact Scott.tryV _ | exact Scott.told _
 | false =>
 rw [h115,cond_false] at h;cases h134:Nat.beq f 134 with
 | true => rw [h134,cond_true] at h; injection h with h; subst h; first | exact fun args H => Scott.const _ | exact Scott.tryV _ | exact Scott.told _
 | false =>
 rw [h134,cond_false] at h;cases h
theorem T_scott (k:Nat):SpScott (T k).c:=SpScott.of more_scott
@[simp] theorem len_31 (x:Value) (h:Heap):builtinV Prog .len [31] [x] h = lnS x h:=lnS_eq (e:=5) (by kernel_rfl) x h
@[simp] theorem ld_3 (a:Value) (h:Heap):loadR Prog 3 a h = ld1 a h:=ld1_eq (by kernel_rfl) a h
@[simp] theorem ld_5 (a:Value) (h:Heap):loadR Prog 5 a h = ld1 a h:=ld1_eq (by kernel_rfl) a h
@[simp] theorem cv_5_3 (x:Value) (H:Heap):convR Prog 5 3 x H = cvK .i64 x H:=convR_int (by kernel_rfl) (by kernel_rfl) x H
@[simp] theorem ix_31 (x i:Value) (h:Heap):indexAddrR Prog 31 x i h = ixS 1 x i h:=ixS_eq (e:=5) (by kernel_rfl) (by kernel_rfl) x i h
@[simp] theorem sl_31 (x:Value) (lo hi mx:Option Value) (h:Heap):sliceR Prog 31 x lo hi mx h = slS 1 x lo hi mx h:=slS_eq (e:=5) (by kernel_rfl) (by kernel_rfl) x lo hi mx h
@[simp] theorem ld_31 (a:Value) (h:Heap):loadR Prog 31 a h = ld1 a h:=ld1_eq (by kernel_rfl) a h
@[simp] theorem bd_140 (ps:List (Nat × Value)) (h:Heap):buildR Prog 140 ps h = bdR [(0,1),(1,1)] ps [.string ⟨#[]⟩,.slice none 0 0] h:=bd_is (z:=.agg #[.string ⟨#[]⟩,.slice none 0 0]) (by kernel_rfl) (by kernel_rfl) (by kernel_rfl) ps h
@[simp] theorem be_142_1 (ps:List (Nat × Value)) (h:Heap):buildSliceR Prog 142 1 ps h = beR 2 1 ps [.string ⟨#[]⟩,.slice none 0 0] h:=be_eq (e:=140) (by kernel_rfl) (by kernel_rfl) (by kernel_rfl) (by kernel_rfl) ps h
@[simp] theorem len_106 (x:Value) (h:Heap):builtinV Prog .len [106] [x] h = lnS x h:=lnS_eq (e:=80) (by kernel_rfl) x h
@[simp] theorem cv_80_3 (x:Value) (H:Heap):convR Prog 80 3 x H = cvK .i64 x H:=convR_int (by kernel_rfl) (by kernel_rfl) x H
@[simp] theorem ix_106 (x i:Value) (h:Heap):indexAddrR Prog 106 x i h = ixS 1 x i h:=ixS_eq (e:=80) (by kernel_rfl) (by kernel_rfl) x i h
@[simp] theorem ld_80 (a:Value) (h:Heap):loadR Prog 80 a h = ld1 a h:=ld1_eq (by kernel_rfl) a h
@[simp] theorem len_143 (x:Value) (h:Heap):builtinV Prog .len [143] [x] h = lnS x h:=lnS_eq (e:=145) (by kernel_rfl) x h
@[simp] theorem ix_143 (x i:Value) (h:Heap):indexAddrR Prog 143 x i h = ixS 2 x i h:=ixS_eq (e:=145) (by kernel_rfl) (by kernel_rfl) x i h
@[simp] theorem ld_145 (a:Value) (h:Heap):loadR Prog 145 a h = ldA 2 a h:=ldA_eq (by kernel_rfl) (by kernel_rfl) a h
@[simp] theorem al_145 (h:Heap):allocR Prog 145 h = newP [.string ⟨#[]⟩,.slice none 0 0] h:=al_eq (z:=.agg #[.string ⟨#[]⟩,.slice none 0 0]) (by kernel_rfl) h
@[simp] theorem st_145 (a v:Value) (h:Heap):storeR Prog 145 a v h = stR 2 a v h:=st_eq (by kernel_rfl) a v h
@[simp] theorem fa_145_0 (a:Value) (h:Heap):fieldAddrR Prog 145 a 0 h = faR 0 1 a h:=fa_is (ft:=9) (by kernel_rfl) (by kernel_rfl) a h
@[simp] theorem ld_9 (a:Value) (h:Heap):loadR Prog 9 a h = ld1 a h:=ld1_eq (by kernel_rfl) a h
@[simp] theorem fa_145_1 (a:Value) (h:Heap):fieldAddrR Prog 145 a 1 h = faR 1 1 a h:=fa_is (ft:=31) (by kernel_rfl) (by kernel_rfl) a h
@[simp] theorem al_140 (h:Heap):allocR Prog 140 h = newP [.string ⟨#[]⟩,.slice none 0 0] h:=al_eq (z:=.agg #[.string ⟨#[]⟩,.slice none 0 0]) (by kernel_rfl) h
@[simp] theorem st_140 (a v:Value) (h:Heap):storeR Prog 140 a v h = stR 2 a v h:=st_eq (by kernel_rfl) a v h
@[simp] theorem ld_140 (a:Value) (h:Heap):loadR Prog 140 a h = ldA 2 a h:=ldA_eq (by kernel_rfl) (by kernel_rfl) a h
@[simp] theorem ap_142 (a b:Value) (h:Heap):builtinV Prog .append [142,142] [a,b] h = apR 2 40 a b h:=ap_is (e:=140) (z:=.agg #[.string ⟨#[]⟩,.slice none 0 0]) (by kernel_rfl) (by kernel_rfl) (by kernel_rfl) (by kernel_rfl) (by kernel_rfl) a b h
@[simp] theorem eqp_146 (cs:Array Value) (h:Heap):binR Prog .eql 146 (boxV cs) (.pointer none) h = .ok (.bool false) h:=by kernel_rfl
@[simp] theorem fv_150_1 (x:Value) (h:Heap):fieldR Prog 150 x 1 h = fv1 1 x h:=fv1_is (ft:=3) (by kernel_rfl) (by kernel_rfl) x h
@[simp] theorem fv_150_0 (x:Value) (h:Heap):fieldR Prog 150 x 0 h = fv1 0 x h:=fv1_is (ft:=3) (by kernel_rfl) (by kernel_rfl) x h
@[simp] theorem be_31_2 (ps:List (Nat × Value)) (h:Heap):buildSliceR Prog 31 2 ps h = beR 1 2 ps [.int .u8 0,.int .u8 0] h:=be_eq (e:=5) (by kernel_rfl) (by kernel_rfl) (by kernel_rfl) (by kernel_rfl) ps h
@[simp] theorem ap_22 (a b:Value) (h:Heap):builtinV Prog .append [22,22] [a,b] h = apR 2 16 a b h:=ap_is (e:=57) (z:=.agg #[.int .i64 0,.int .i64 0]) (by kernel_rfl) (by kernel_rfl) (by kernel_rfl) (by kernel_rfl) (by kernel_rfl) a b h
@[simp] theorem be_22_0 (ps:List (Nat × Value)) (h:Heap):buildSliceR Prog 22 0 ps h = beR 2 0 ps [] h:=be_eq (e:=57) (by kernel_rfl) (by kernel_rfl) (by kernel_rfl) (by kernel_rfl) ps h
@[simp] theorem ap_31 (a b:Value) (h:Heap):builtinV Prog .append [31,31] [a,b] h = apR 1 1 a b h:=ap_is (e:=5) (z:=.int .u8 0) (by kernel_rfl) (by kernel_rfl) (by kernel_rfl) (by kernel_rfl) (by kernel_rfl) a b h
@[simp] theorem al_75 (h:Heap):allocR Prog 75 h = newP [.slice none 0 0] h:=al_eq (z:=.agg #[.slice none 0 0]) (by kernel_rfl) h
@[simp] theorem st_75 (a v:Value) (h:Heap):storeR Prog 75 a v h = stR 1 a v h:=st_eq (by kernel_rfl) a v h
@[simp] theorem ld_75 (a:Value) (h:Heap):loadR Prog 75 a h = ldA 1 a h:=ldA_eq (by kernel_rfl) (by kernel_rfl) a h
@[simp] theorem be_31_0 (ps:List (Nat × Value)) (h:Heap):buildSliceR Prog 31 0 ps h = beR 1 0 ps [] h:=be_eq (e:=5) (by kernel_rfl) (by kernel_rfl) (by kernel_rfl) (by kernel_rfl) ps h
@[simp] theorem bd_75 (ps:List (Nat × Value)) (h:Heap):buildR Prog 75 ps h = bdR [(0,1)] ps [.slice none 0 0] h:=bd_is (z:=.agg #[.slice none 0 0]) (by kernel_rfl) (by kernel_rfl) (by kernel_rfl) ps h
@[simp] theorem ap_98 (a b:Value) (h:Heap):builtinV Prog .append [98,98] [a,b] h = apR 3 12 a b h:=ap_is (e:=137) (z:=.agg #[.int .i32 0,.int .i32 0,.int .i32 0]) (by kernel_rfl) (by kernel_rfl) (by kernel_rfl) (by kernel_rfl) (by kernel_rfl) a b h
@[simp] theorem cv_159_3 (x:Value) (H:Heap):convR Prog 159 3 x H = cvK .i64 x H:=convR_int (by kernel_rfl) (by kernel_rfl) x H
@[simp] theorem len_142 (x:Value) (h:Heap):builtinV Prog .len [142] [x] h = lnS x h:=lnS_eq (e:=140) (by kernel_rfl) x h
@[simp] theorem ix_142 (x i:Value) (h:Heap):indexAddrR Prog 142 x i h = ixS 2 x i h:=ixS_eq (e:=140) (by kernel_rfl) (by kernel_rfl) x i h
@[simp] theorem fa_140_0 (a:Value) (h:Heap):fieldAddrR Prog 140 a 0 h = faR 0 1 a h:=fa_is (ft:=9) (by kernel_rfl) (by kernel_rfl) a h
@[simp] theorem len_9 (x:Value) (h:Heap):builtinV Prog .len [9] [x] h = lnStr x h:=lnStr_is (by kernel_rfl) x h
@[simp] theorem cv_3_200 (x:Value) (H:Heap):convR Prog 3 200 x H = cvK .u64 x H:=convR_int (by kernel_rfl) (by kernel_rfl) x H
@[simp] theorem as_31_9 (a b:Value) (h:Heap):builtinV Prog .append [31,9] [a,b] h = apR 1 1 a b h:=aps_is (e:=5) (z:=.int .u8 0) (by kernel_rfl) (by kernel_rfl) (by kernel_rfl) (by kernel_rfl) (by kernel_rfl) (by kernel_rfl) a b h
@[simp] theorem fa_140_1 (a:Value) (h:Heap):fieldAddrR Prog 140 a 1 h = faR 1 1 a h:=fa_is (ft:=31) (by kernel_rfl) (by kernel_rfl) a h
@[simp] theorem be_31_1 (ps:List (Nat × Value)) (h:Heap):buildSliceR Prog 31 1 ps h = beR 1 1 ps [.int .u8 0] h:=be_eq (e:=5) (by kernel_rfl) (by kernel_rfl) (by kernel_rfl) (by kernel_rfl) ps h
@[simp] theorem cv_3_5 (x:Value) (H:Heap):convR Prog 3 5 x H = cvK .u8 x H:=convR_int (by kernel_rfl) (by kernel_rfl) x H
@[simp] theorem mk_31 (l c:Value) (h:Heap):makeSliceV Prog 31 l c h = mkR 1 1 [.int .u8 0] l c h:=mk_is (e:=5) (z:=.int .u8 0) (by kernel_rfl) (by kernel_rfl) (by kernel_rfl) (by kernel_rfl) (by kernel_rfl) l c h
@[simp] theorem az_31_3 (a b:Value) (h:Heap):builtinV Prog .append [31,3] [a,b] h = azR 1 1 [.int .u8 0] a b h:=az_is (kt:=.i64) (e:=5) (z:=.int .u8 0) (by kernel_rfl) (by kernel_rfl) (by kernel_rfl) (by kernel_rfl) (by kernel_rfl) (by kernel_rfl) a b h
@[simp] theorem bd_145 (ps:List (Nat × Value)) (h:Heap):buildR Prog 145 ps h = bdR [(0,1),(1,1)] ps [.string ⟨#[]⟩,.slice none 0 0] h:=bd_is (z:=.agg #[.string ⟨#[]⟩,.slice none 0 0]) (by kernel_rfl) (by kernel_rfl) (by kernel_rfl) ps h
@[simp] theorem be_143_3 (ps:List (Nat × Value)) (h:Heap):buildSliceR Prog 143 3 ps h = beR 2 3 ps [.string ⟨#[]⟩,.slice none 0 0,.string ⟨#[]⟩,.slice none 0 0,.string ⟨#[]⟩,.slice none 0 0] h:=be_eq (e:=145) (by kernel_rfl) (by kernel_rfl) (by kernel_rfl) (by kernel_rfl) ps h
@[simp] theorem al_150 (h:Heap):allocR Prog 150 h = newP [.int .i64 0,.int .i64 0,.int .i64 0] h:=al_eq (z:=.agg #[.int .i64 0,.int .i64 0,.int .i64 0]) (by kernel_rfl) h
@[simp] theorem st_150 (a v:Value) (h:Heap):storeR Prog 150 a v h = stR 3 a v h:=st_eq (by kernel_rfl) a v h
@[simp] theorem ld_150 (a:Value) (h:Heap):loadR Prog 150 a h = ldA 3 a h:=ldA_eq (by kernel_rfl) (by kernel_rfl) a h
@[simp] theorem bd_253 (ps:List (Nat × Value)) (h:Heap):buildR Prog 253 ps h = bdR [(0,3),(3,1)] ps [.int .i64 0,.int .i64 0,.int .i64 0,.slice none 0 0] h:=bd_is (z:=.agg #[.int .i64 0,.int .i64 0,.int .i64 0,.slice none 0 0]) (by kernel_rfl) (by kernel_rfl) (by kernel_rfl) ps h
@[simp] theorem fa_253_0 (a:Value) (h:Heap):fieldAddrR Prog 253 a 0 h = faR 0 3 a h:=fa_is (ft:=150) (by kernel_rfl) (by kernel_rfl) a h
@[simp] theorem fa_150_0 (a:Value) (h:Heap):fieldAddrR Prog 150 a 0 h = faR 0 1 a h:=fa_is (ft:=3) (by kernel_rfl) (by kernel_rfl) a h
@[simp] theorem fa_253_1 (a:Value) (h:Heap):fieldAddrR Prog 253 a 1 h = faR 3 1 a h:=fa_is (ft:=75) (by kernel_rfl) (by kernel_rfl) a h
@[simp] theorem fa_150_2 (a:Value) (h:Heap):fieldAddrR Prog 150 a 2 h = faR 2 1 a h:=fa_is (ft:=3) (by kernel_rfl) (by kernel_rfl) a h
@[simp] theorem fa_75_0 (a:Value) (h:Heap):fieldAddrR Prog 75 a 0 h = faR 0 1 a h:=fa_is (ft:=31) (by kernel_rfl) (by kernel_rfl) a h
@[simp] theorem be_98_0 (ps:List (Nat × Value)) (h:Heap):buildSliceR Prog 98 0 ps h = beR 3 0 ps [] h:=be_eq (e:=137) (by kernel_rfl) (by kernel_rfl) (by kernel_rfl) (by kernel_rfl) ps h
@[simp] theorem be_142_0 (ps:List (Nat × Value)) (h:Heap):buildSliceR Prog 142 0 ps h = beR 2 0 ps [] h:=be_eq (e:=140) (by kernel_rfl) (by kernel_rfl) (by kernel_rfl) (by kernel_rfl) ps h
@[simp] theorem cv_5_159 (x:Value) (H:Heap):convR Prog 5 159 x H = cvK .u32 x H:=convR_int (by kernel_rfl) (by kernel_rfl) x H
@[simp] theorem bd_150 (ps:List (Nat × Value)) (h:Heap):buildR Prog 150 ps h = bdR [(0,1),(1,1),(2,1)] ps [.int .i64 0,.int .i64 0,.int .i64 0] h:=bd_is (z:=.agg #[.int .i64 0,.int .i64 0,.int .i64 0]) (by kernel_rfl) (by kernel_rfl) (by kernel_rfl) ps h
@[simp] theorem ix_299 (x i:Value) (h:Heap):indexAddrR Prog 299 x i h = ixS 3 x i h:=ixS_eq (e:=304) (by kernel_rfl) (by kernel_rfl) x i h
@[simp] theorem fa_304_1 (a:Value) (h:Heap):fieldAddrR Prog 304 a 1 h = faR 1 1 a h:=fa_is (ft:=3) (by kernel_rfl) (by kernel_rfl) a h
@[simp] theorem fa_304_2 (a:Value) (h:Heap):fieldAddrR Prog 304 a 2 h = faR 2 1 a h:=fa_is (ft:=3) (by kernel_rfl) (by kernel_rfl) a h
@[simp] theorem bd_190 (ps:List (Nat × Value)) (h:Heap):buildR Prog 190 ps h = bdR [] ps [] h:=bd_is (z:=.agg #[]) (by kernel_rfl) (by kernel_rfl) (by kernel_rfl) ps h
@[simp] theorem if_190 (x:Value) (h:Heap):ifaceR Prog 190 x h = .ok (.iface 190 x) h:=by kernel_rfl
@[simp] theorem fa_150_1 (a:Value) (h:Heap):fieldAddrR Prog 150 a 1 h = faR 1 1 a h:=fa_is (ft:=3) (by kernel_rfl) (by kernel_rfl) a h
@[simp] theorem ld_299 (a:Value) (h:Heap):loadR Prog 299 a h = ld1 a h:=ld1_eq (by kernel_rfl) a h
@[simp] theorem al_299 (h:Heap):allocR Prog 299 h = newP [.slice none 0 0] h:=al_eq (z:=.slice none 0 0) (by kernel_rfl) h
@[simp] theorem st_299 (a v:Value) (h:Heap):storeR Prog 299 a v h = stR 1 a v h:=st_eq (by kernel_rfl) a v h
@[simp] theorem len_299 (x:Value) (h:Heap):builtinV Prog .len [299] [x] h = lnS x h:=lnS_eq (e:=304) (by kernel_rfl) x h
@[simp] theorem cv_200_3 (x:Value) (H:Heap):convR Prog 200 3 x H = cvK .i64 x H:=convR_int (by kernel_rfl) (by kernel_rfl) x H
@[simp] theorem ld_304 (a:Value) (h:Heap):loadR Prog 304 a h = ldA 3 a h:=ldA_eq (by kernel_rfl) (by kernel_rfl) a h
@[simp] theorem fa_304_0 (a:Value) (h:Heap):fieldAddrR Prog 304 a 0 h = faR 0 1 a h:=fa_is (ft:=9) (by kernel_rfl) (by kernel_rfl) a h
@[simp] theorem cs_31_9 (x:Value) (H:Heap):convR Prog 31 9 x H = csR x H:=convR_str (e:=5) (by kernel_rfl) (by kernel_rfl) (by kernel_rfl) x H
@[simp] theorem bd_304 (ps:List (Nat × Value)) (h:Heap):buildR Prog 304 ps h = bdR [(0,1),(1,1),(2,1)] ps [.string ⟨#[]⟩,.int .i64 0,.int .i64 0] h:=bd_is (z:=.agg #[.string ⟨#[]⟩,.int .i64 0,.int .i64 0]) (by kernel_rfl) (by kernel_rfl) (by kernel_rfl) ps h
@[simp] theorem al_304 (h:Heap):allocR Prog 304 h = newP [.string ⟨#[]⟩,.int .i64 0,.int .i64 0] h:=al_eq (z:=.agg #[.string ⟨#[]⟩,.int .i64 0,.int .i64 0]) (by kernel_rfl) h
@[simp] theorem st_304 (a v:Value) (h:Heap):storeR Prog 304 a v h = stR 3 a v h:=st_eq (by kernel_rfl) a v h
@[simp] theorem be_299_1 (ps:List (Nat × Value)) (h:Heap):buildSliceR Prog 299 1 ps h = beR 3 1 ps [.string ⟨#[]⟩,.int .i64 0,.int .i64 0] h:=be_eq (e:=304) (by kernel_rfl) (by kernel_rfl) (by kernel_rfl) (by kernel_rfl) ps h
@[simp] theorem ap_299 (a b:Value) (h:Heap):builtinV Prog .append [299,299] [a,b] h = apR 3 32 a b h:=ap_is (e:=304) (z:=.agg #[.string ⟨#[]⟩,.int .i64 0,.int .i64 0]) (by kernel_rfl) (by kernel_rfl) (by kernel_rfl) (by kernel_rfl) (by kernel_rfl) a b h
end
end Go.Sw
