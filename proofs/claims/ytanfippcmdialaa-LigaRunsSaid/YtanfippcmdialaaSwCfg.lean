/-
  The seat's functions by their names, and facts of their types.
-/
import Derived.Test.YtanfippcmdialaaSwLib7
import Derived.Test.YtanfippcmdialaaRows
namespace Go.Sw
noncomputable section
noncomputable abbrev Prog:Program:=Go.Proofs.Try.prog
namespace F
abbrev ζr:Nat:=11
abbrev ζ1t:Nat:=18
abbrev ζ38:Nat:=19
abbrev ζx:Nat:=24
abbrev ζ2b:Nat:=26
abbrev line_New:Nat:=28
abbrev ζ2i:Nat:=29
abbrev ζ3g:Nat:=31
abbrev ζ3i:Nat:=32
abbrev view_Try:Nat:=40
abbrev view_Of:Nat:=43
abbrev ζ2g:Nat:=52
abbrev ζv:Nat:=53
abbrev ζc:Nat:=54
abbrev ζ7m:Nat:=55
abbrev ζ9:Nat:=56
abbrev ζ46:Nat:=57
abbrev ζs:Nat:=58
abbrev ζ7:Nat:=63
abbrev ζ8:Nat:=71
abbrev ζ39:Nat:=78
abbrev ζh:Nat:=79
abbrev ζ47:Nat:=81
abbrev ζ5b:Nat:=82
abbrev ζ1w:Nat:=83
abbrev ζ3h:Nat:=84
abbrev ζ21:Nat:=86
abbrev ζ1b:Nat:=90
abbrev ζy:Nat:=91
abbrev ζ3j:Nat:=94
abbrev ζ3o:Nat:=95
abbrev ζ1a:Nat:=97
abbrev ζ2x:Nat:=101
abbrev ζf:Nat:=102
abbrev ζ1k:Nat:=103
abbrev ζ1d:Nat:=104
abbrev ζ2t:Nat:=105
abbrev ζ22:Nat:=106
abbrev ζ2m:Nat:=107
abbrev ζ51:Nat:=110
abbrev ζ5v:Nat:=111
abbrev ζo:Nat:=115
abbrev ζ1:Nat:=117
abbrev ζ2s:Nat:=118
abbrev ζ2p:Nat:=119
abbrev ζ5:Nat:=120
abbrev ζ2k:Nat:=121
abbrev ζ2:Nat:=122
abbrev ζi:Nat:=123
abbrev ζ1h:Nat:=124
abbrev ζj:Nat:=125
abbrev ζ1e:Nat:=126
abbrev ζa:Nat:=127
abbrev ζ3e:Nat:=128
abbrev ζ1u:Nat:=129
abbrev ζg:Nat:=130
abbrev ζ0:Nat:=131
abbrev ζd:Nat:=132
abbrev ζ2l:Nat:=133
abbrev ζp:Nat:=134
abbrev ζ3a:Nat:=150
abbrev ζ4:Nat:=151
abbrev ζ18:Nat:=152
abbrev ζ1l:Nat:=153
abbrev ζat:Nat:=154
abbrev ζn:Nat:=155
abbrev ζ3:Nat:=156
abbrev ζ6:Nat:=157
abbrev ζq:Nat:=158
abbrev ζz:Nat:=159
abbrev ζ1f:Nat:=160
abbrev ζb:Nat:=161
abbrev ζ2f:Nat:=162
abbrev ζ25:Nat:=163
abbrev ζ1g:Nat:=166
abbrev ζ2y:Nat:=167
abbrev ζ58:Nat:=168
abbrev ζ7q:Nat:=169
abbrev ζ1r:Nat:=170
abbrev ζ20:Nat:=171
abbrev ζ1s:Nat:=172
abbrev ζ2c:Nat:=173
abbrev ζ23:Nat:=174
abbrev ζ2j:Nat:=187
abbrev ζ2q:Nat:=188
abbrev ζ24:Nat:=189
abbrev ζ19:Nat:=190
abbrev ζ50:Nat:=191
abbrev ζ28:Nat:=192
abbrev ζ4r:Nat:=199
abbrev ζ7o:Nat:=200
abbrev ζ1c:Nat:=201
end F
def kp2:List (Nat × List Nat):=[(0,[])]
def kp3:List (Nat × List Nat):=[]
def kp4:List (Nat × List Nat):=[]
def kp5:List (Nat × List Nat):=[]
def kp6:List (Nat × List Nat):=[]
def kp7:List (Nat × List Nat):=[]
def kp8:List (Nat × List Nat):=[]
def kp9:List (Nat × List Nat):=[]
def kp10:List (Nat × List Nat):=[]
def kp11:List (Nat × List Nat):=[(0,[1,2]),(1,[1,2,16]),(2,[4]),(3,[1,2,20]),(4,[4]),(5,[1,2,5]),(6,[1,2,5,6,7]),(7,[1,2,5,6,7,8,9]),(8,[1,2,5,6,7,8,34]),(9,[4]),(10,[1,2,5,6,8,46]),(11,[4]),(12,[1,2,5,6,8,48,49]),(13,[1,2,5,6,8,48,49,50]),(14,[1,2,5,6,8,10,48,49]),(15,[1,2,5,6,8,48,49]),(16,[1,2,5,6,8,48,49]),(17,[1,2,6,8,11]),(18,[1,2,8,11,12]),(19,[1,8,11,12]),(20,[11,12,13,14]),(21,[4]),(1000013,[1,2,5,6,8,48,49])]
def kp12:List (Nat × List Nat):=[]
def kp13:List (Nat × List Nat):=[]
def kp14:List (Nat × List Nat):=[]
def kp15:List (Nat × List Nat):=[(0,[]),(1,[1]),(2,[1,18]),(3,[0]),(4,[1,2,3]),(5,[0])]
def kp16:List (Nat × List Nat):=[]
def kp17:List (Nat × List Nat):=[]
def kp18:List (Nat × List Nat):=[(0,[0,1]),(1,[0,1,10]),(2,[4]),(3,[0,1,5]),(4,[0,1,5,14]),(5,[0,1,5]),(6,[0,1,5,25]),(7,[4]),(8,[4]),(1000004,[0,1,5])]
def kp19:List (Nat × List Nat):=[(0,[0]),(1,[2])]
def kp20:List (Nat × List Nat):=[]
def kp21:List (Nat × List Nat):=[]
def kp22:List (Nat × List Nat):=[(0,[]),(1,[1,2]),(2,[1,17]),(3,[0]),(4,[1,3,4]),(5,[1,3,4,6]),(6,[0])]
def kp23:List (Nat × List Nat):=[]
def kp24:List (Nat × List Nat):=[(0,[0,1,2,6]),(1,[0,6,8,9]),(2,[0,6,8,9,10]),(3,[0,6,8,9,10,21]),(4,[0,6,8,9,10]),(5,[0,6,8,9,10,52]),(6,[0,6,8,9,10]),(7,[0,6,8,54]),(8,[6,7]),(9,[6,7]),(1000003,[0,6,8,9,10])]
def kp25:List (Nat × List Nat):=[]
def kp26:List (Nat × List Nat):=[(0,[2,3]),(1,[2,3,6]),(2,[2,3,6,32]),(3,[4,5]),(4,[4,5])]
def kp27:List (Nat × List Nat):=[]
def kp28:List (Nat × List Nat):=[(0,[0]),(1,[0,3]),(2,[3,8,9,10]),(3,[3,8,9,10,11]),(4,[3,4,5,8,9,10]),(5,[3,8,9,10]),(6,[3,8,9,10]),(7,[2]),(1000003,[3,8,9,10])]
def kp29:List (Nat × List Nat):=[(0,[0]),(1,[0,3]),(2,[0,3,4]),(3,[0,3,4,9]),(4,[0,3,4]),(5,[0,3,4]),(6,[2]),(1000003,[0,3,4])]
def kp30:List (Nat × List Nat):=[]
def kp31:List (Nat × List Nat):=[(0,[0]),(1,[2])]
def kp32:List (Nat × List Nat):=[(0,[0,1,4]),(1,[0,1,4,9]),(2,[4,5]),(3,[4,5])]
def kp33:List (Nat × List Nat):=[(0,[]),(1,[1,2]),(2,[1,19]),(3,[0]),(4,[1,3,4]),(5,[0])]
def kp34:List (Nat × List Nat):=[]
def kp35:List (Nat × List Nat):=[]
def kp36:List (Nat × List Nat):=[]
def kp37:List (Nat × List Nat):=[]
def kp38:List (Nat × List Nat):=[]
def kp39:List (Nat × List Nat):=[]
def kp40:List (Nat × List Nat):=[(0,[0,2]),(1,[0,2]),(2,[2]),(3,[2])]
def kp41:List (Nat × List Nat):=[]
def kp42:List (Nat × List Nat):=[]
def kp43:List (Nat × List Nat):=[(0,[0,2]),(1,[2])]
def kp44:List (Nat × List Nat):=[(0,[]),(1,[1]),(2,[2,3]),(3,[2,3,4]),(4,[2,4,34]),(5,[0]),(6,[4,5]),(7,[0])]
def kp45:List (Nat × List Nat):=[]
def kp46:List (Nat × List Nat):=[]
def kp47:List (Nat × List Nat):=[]
def kp48:List (Nat × List Nat):=[]
def kp49:List (Nat × List Nat):=[]
def kp50:List (Nat × List Nat):=[]
def kp51:List (Nat × List Nat):=[]
def kp52:List (Nat × List Nat):=[(0,[]),(1,[1,2]),(2,[1,15]),(3,[0]),(4,[1,3]),(5,[0])]
def kp53:List (Nat × List Nat):=[(0,[1,2]),(1,[4])]
def kp54:List (Nat × List Nat):=[(0,[1]),(1,[1,3]),(2,[1,3,4]),(3,[1,3,38,39]),(4,[1,3,38,39,40]),(5,[1,3,5,6,38,39]),(6,[1,3,38,39]),(7,[1,3,38,39]),(8,[1,3,56,57,58]),(9,[1,3,56,57,58,59]),(10,[1,3,8,56,57,58]),(11,[1,3,56,57,58]),(12,[1,3,56,57,58]),(13,[1,3,68,69,70]),(14,[1,3,68,69,70,71]),(15,[1,3,10,68,69,70]),(16,[1,3,68,69,70]),(17,[1,3,68,69,70]),(18,[3,80,81,82]),(19,[3,80,81,82,83]),(20,[3,12,80,81,82]),(21,[3,80,81,82]),(22,[3,80,81,82]),(23,[2]),(1000004,[1,3,38,39]),(1000009,[1,3,56,57,58]),(1000014,[1,3,68,69,70]),(1000019,[3,80,81,82])]
def kp55:List (Nat × List Nat):=[(0,[0,3,4]),(1,[0,3,4,12]),(2,[4,5]),(3,[3,4,6]),(4,[4,19]),(5,[4,5]),(6,[4,5])]
def kp56:List (Nat × List Nat):=[(0,[0,1,4]),(1,[0,4,6,7]),(2,[0,4,6,7,8]),(3,[0,4,6,7,8,9]),(4,[0,4,6,7,8,9,10]),(5,[0,4,6,7,8,9,10,29]),(6,[0,4,6,7,8,9,10]),(7,[0,4,6,8,9,10,11,12]),(8,[0,4,6,7,8,9,10,11]),(9,[0,4,6,7,8,9,10]),(10,[4,6,8,9,48]),(11,[4,5]),(12,[4,6,8,9]),(13,[4,6,8,9]),(14,[4,6,8]),(15,[4,6,8,13]),(16,[4,6,8,13,65]),(17,[4,6,8,13]),(18,[4,6,8,13,14]),(19,[4,6,8,13,14,75]),(20,[4,6,8,13,15]),(21,[4,6,8,13,15,84]),(22,[4,6,8,13,15,90]),(23,[4,5]),(24,[4,6,8,13,15]),(25,[4,5]),(1000005,[0,4,6,7,8,9,10]),(1000016,[4,6,8,13]),(1000021,[4,6,8,13,15])]
def kp57:List (Nat × List Nat):=[(0,[2,3]),(1,[2,3,5]),(2,[7]),(3,[4])]
def kp58:List (Nat × List Nat):=[(0,[1,2]),(1,[1,2,6]),(2,[2,6,7]),(3,[2,6,7,17]),(4,[2,6,7,8]),(5,[2,6,7,8,37]),(6,[2,6,7,8]),(7,[2,6,7,8,46]),(8,[2,6,7,8]),(9,[2,6,7]),(10,[4,5]),(1000003,[2,6,7])]
def kp59:List (Nat × List Nat):=[]
def kp60:List (Nat × List Nat):=[]
def kp61:List (Nat × List Nat):=[]
def kp62:List (Nat × List Nat):=[]
def kp63:List (Nat × List Nat):=[(0,[0,1,2]),(1,[0,1,7]),(2,[0,1,7,13]),(3,[0,1,7]),(4,[0,1,7,8]),(5,[0,1,7,8,9]),(6,[0,1,7,8,9,19]),(7,[0,1,7,8,9]),(8,[0,1,7,8,9]),(9,[0,1,7]),(10,[6]),(1000002,[0,1,7]),(1000006,[0,1,7,8,9])]
def kp64:List (Nat × List Nat):=[]
def kp65:List (Nat × List Nat):=[]
def kp66:List (Nat × List Nat):=[]
def kp67:List (Nat × List Nat):=[]
def kp68:List (Nat × List Nat):=[]
def kp69:List (Nat × List Nat):=[]
def kp70:List (Nat × List Nat):=[]
def kp71:List (Nat × List Nat):=[(0,[0]),(1,[0,4]),(2,[2]),(3,[2])]
def kp72:List (Nat × List Nat):=[]
def kp73:List (Nat × List Nat):=[]
def kp74:List (Nat × List Nat):=[]
def kp75:List (Nat × List Nat):=[(0,[0,1,2]),(1,[0,1,2]),(2,[0,1,2,7]),(3,[0,1,2,7,16]),(4,[6]),(5,[0,1,2,7,8]),(6,[0,1,2,7,8,22]),(7,[6]),(8,[0,1,2,7,8,31]),(9,[0,1,2,7,9]),(10,[0,1,7,9]),(11,[9]),(12,[6]),(13,[0,1,2,7,8]),(14,[0,1,2,7,8,68]),(15,[0,1,2]),(16,[0]),(17,[6]),(18,[0,1,7]),(19,[0]),(20,[6])]
def kp76:List (Nat × List Nat):=[]
def kp77:List (Nat × List Nat):=[]
def kp78:List (Nat × List Nat):=[(0,[1,2,3]),(1,[1,2,3,7]),(2,[1,2,3,7,8]),(3,[1,2,3,7,8,22]),(4,[8]),(5,[1,2,3,7,8,22,24]),(6,[8]),(7,[2,3,7,8,22,37]),(8,[8]),(9,[2,3,7,8,22,44]),(10,[8]),(11,[2,3,7,8,22,51]),(12,[8]),(13,[2,3,7,8,22,58]),(14,[8]),(15,[3,7,8,66]),(16,[7,8,9]),(17,[7,8,9]),(18,[8]),(19,[8,10]),(20,[8,10,93]),(21,[8,10]),(22,[8,10]),(23,[6]),(1000020,[8,10])]
def kp79:List (Nat × List Nat):=[(0,[0,1,2]),(1,[0,1,2,16]),(2,[0,1,2,16,17]),(3,[6,7]),(4,[0,2,16,30]),(5,[6,7]),(6,[0,2,16,37]),(7,[6,7]),(8,[0,2,16,44]),(9,[0,2,8,10]),(10,[0,2,8,10,11]),(11,[0,2,8,10,11,12]),(12,[0,2,8,10,11,12,58]),(13,[0,2,8,10,11,12]),(14,[0,2,8,10,11,12,13]),(15,[0,2,8,10,11,12]),(16,[6,7]),(17,[0,2,16,81]),(18,[6,7]),(19,[0,88]),(20,[0,14]),(21,[0,14,101]),(22,[6,7]),(23,[6,7]),(24,[6,7]),(1000012,[0,2,8,10,11,12])]
def kp80:List (Nat × List Nat):=[(0,[0,9,10,11]),(1,[0,9,10,11,12]),(2,[0,4,9,10,11]),(3,[0,4,5,9,10,11]),(4,[0,4,5,9,10,11,20]),(5,[0,4,5,9,10,11]),(6,[0,4,5,9,10,11,29]),(7,[0,9,10,11]),(1000001,[0,9,10,11]),(1000004,[0,4,5,9,10,11])]
def kp81:List (Nat × List Nat):=[(0,[1,2]),(1,[4])]
def kp82:List (Nat × List Nat):=[(0,[0,1]),(1,[1,5,6]),(2,[1,5,6,11]),(3,[1,5,6,7]),(4,[1,5,6,7,20]),(5,[1,5,6]),(6,[1,5,6]),(7,[4]),(1000002,[1,5,6])]
def kp83:List (Nat × List Nat):=[(0,[0,1,2]),(1,[4])]
def kp84:List (Nat × List Nat):=[(0,[0,1,2]),(1,[0,1,2,10]),(2,[6]),(3,[]),(4,[6])]
def kp85:List (Nat × List Nat):=[]
def kp86:List (Nat × List Nat):=[(0,[0,1,2]),(1,[0,1,2,16]),(2,[6,7]),(3,[1,2,8]),(4,[8]),(5,[6,7])]
def kp87:List (Nat × List Nat):=[]
def kp88:List (Nat × List Nat):=[]
def kp89:List (Nat × List Nat):=[]
def kp90:List (Nat × List Nat):=[(0,[0,1,2,13]),(1,[0,1,14,15,16]),(2,[0,1,14,15,16,17]),(3,[0,1,7,14,15,16]),(4,[0,1,8,9,14,15,16]),(5,[0,1,8,14,15,16,26]),(6,[0,1,14,15,16]),(7,[0,1,14,15,16]),(1000002,[0,1,14,15,16])]
def kp91:List (Nat × List Nat):=[(0,[0,1,2]),(1,[0,1,2,7]),(2,[0,1,2,7,8]),(3,[0,1,2,7,8,26]),(4,[0,1,2,7,8]),(5,[0,1,2,7,8,9]),(6,[0,1,2,7,8,9,53]),(7,[0,1,2,7,8]),(8,[6]),(1000003,[0,1,2,7,8])]
def kp92:List (Nat × List Nat):=[]
def kp93:List (Nat × List Nat):=[]
def kp94:List (Nat × List Nat):=[(0,[0,1]),(1,[4])]
def kp95:List (Nat × List Nat):=[(0,[1]),(1,[2])]
def kp96:List (Nat × List Nat):=[]
def kp97:List (Nat × List Nat):=[(0,[1,2]),(1,[5]),(2,[4])]
def kp98:List (Nat × List Nat):=[]
def kp99:List (Nat × List Nat):=[]
def kp100:List (Nat × List Nat):=[(0,[0,4]),(1,[3]),(2,[]),(3,[0,4,6]),(4,[]),(5,[0,4,8,9]),(6,[0]),(7,[])]
def kp101:List (Nat × List Nat):=[(0,[3]),(1,[])]
def kp102:List (Nat × List Nat):=[(0,[1,2]),(1,[5]),(2,[4])]
def kp103:List (Nat × List Nat):=[(0,[1,2,4]),(1,[4])]
def kp104:List (Nat × List Nat):=[(0,[1,2,3,4,8]),(1,[1,2,3,4,8]),(2,[8])]
def kp105:List (Nat × List Nat):=[(0,[1,2,3]),(1,[1,2,3,7]),(2,[1,2,3,7]),(3,[2,3,8]),(4,[8,9]),(5,[8,9,10,11]),(6,[8,9,10,11,56]),(7,[8,9,10,11,63]),(8,[8,9,10,11]),(9,[8,9,10,11,74]),(10,[8,9,10,11]),(11,[6]),(1000006,[8,9,10,11]),(1000007,[8,9,10,11]),(1000009,[8,9,10,11])]
def kp106:List (Nat × List Nat):=[(0,[0]),(1,[2])]
def kp107:List (Nat × List Nat):=[(0,[1,2,3,6]),(1,[6])]
def kp108:List (Nat × List Nat):=[]
def kp109:List (Nat × List Nat):=[]
def kp110:List (Nat × List Nat):=[(0,[0,1,2]),(1,[1,2,8]),(2,[2,8,9]),(3,[2,8,9,23]),(4,[2,8,9,26]),(5,[6,7]),(6,[2,8,9,35]),(7,[6,7]),(1000003,[2,8,9])]
def kp111:List (Nat × List Nat):=[(0,[1]),(1,[2])]
def kp112:List (Nat × List Nat):=[]
def kp113:List (Nat × List Nat):=[]
def kp114:List (Nat × List Nat):=[]
def kp115:List (Nat × List Nat):=[(0,[0]),(1,[0,4]),(2,[2]),(3,[2])]
def kp116:List (Nat × List Nat):=[(0,[0]),(1,[0,1]),(2,[0,2]),(3,[0])]
def kp117:List (Nat × List Nat):=[(0,[1,2,3]),(1,[1,2,3,7]),(2,[1,2,3,7,8]),(3,[1,2,3,7,8,9]),(4,[1,2,3,7,8,9,35,36,37]),(5,[1,2,3,7,8,9,35,36,37,38]),(6,[1,2,3,7,8,9,11,35,36,37]),(7,[1,2,3,7,8,9,35,36,37]),(8,[1,2,3,7,8,9,35,36,37]),(9,[1,2,3,7,8,9,12,13]),(10,[1,2,3,7,8,9,12,13,47,48,49]),(11,[1,2,3,7,8,9,12,13,47,48,49,50]),(12,[1,2,3,7,8,9,12,13,15,47,48,49]),(13,[1,2,3,7,8,9,12,13,15,47,48,49,53,54]),(14,[1,2,3,7,8,9,12,13,15,47,48,49,53,54,55]),(15,[1,2,3,7,8,9,12,13,15,16,47,48,49,53,54]),(16,[1,2,3,7,8,9,12,13,15,16,17,47,48,49,53,54]),(17,[1,2,3,7,8,9,12,13,15,16,17,47,48,49,53,54,60]),(18,[1,2,3,7,8,9,12,13,15,17,47,48,49,53,54]),(19,[1,2,3,7,8,9,12,13,15,47,48,49,53,54]),(20,[1,2,3,7,8,9,12,13,15,47,48,49,53,54]),(21,[1,2,3,7,8,9,12,13,47,48,49]),(22,[1,2,7,8,9,12,13,72,73,74]),(23,[1,2,7,8,9,12,13,72,73,74,75]),(24,[1,2,7,8,9,12,13,19,72,73,74]),(25,[1,2,7,8,9,12,13,19,72,73,74]),(26,[1,2,7,8,9,12,13,19,72,73,74,88]),(27,[1,2,7,8,9,12,13,19,72,73,74]),(28,[1,2,7,8,9,12,13,19,72,73,74,95]),(29,[1,2,7,8,9,12,13,72,73,74]),(30,[1,2,7,8,9,12,13,72,73,74]),(31,[2,8,9,12,13,20]),(32,[2,9,12,13,20]),(33,[9,12,13,20]),(34,[6]),(1000005,[1,2,3,7,8,9,35,36,37]),(1000011,[1,2,3,7,8,9,12,13,47,48,49]),(1000014,[1,2,3,7,8,9,12,13,15,47,48,49,53,54]),(1000023,[1,2,7,8,9,12,13,72,73,74])]
def kp118:List (Nat × List Nat):=[(0,[])]
def kp119:List (Nat × List Nat):=[(0,[1,2]),(1,[5]),(2,[5,30,31,32]),(3,[5,30,31,32,33]),(4,[5,7,30,31,32]),(5,[5,7,30,31,32,39]),(6,[5,8,30,31,32]),(7,[5,8,30,31,32,50]),(8,[5,8,30,31,32]),(9,[5,30,31,32]),(10,[4]),(1000003,[5,30,31,32]),(1000007,[5,8,30,31,32])]
def kp120:List (Nat × List Nat):=[(0,[0,1,2,6]),(1,[0,1,2,6,8]),(2,[0,1,2,6,8,9]),(3,[0,1,2,6,8,9,66]),(4,[6,7]),(5,[0,2,6,8,10,11]),(6,[0,2,6,8,11]),(7,[0,6,8,11,12]),(8,[0,6,8,12,81]),(9,[0,6,8,12,13]),(10,[0,6,8,11,12,13]),(11,[0,6,8,11,12,13,93]),(12,[0,6,8,12,13]),(13,[0,6,8,11,12,13]),(14,[0,6,8,11,12,13,115]),(15,[0,6,8,11,12,13]),(16,[0,6,8,11,12,141]),(17,[6,7]),(18,[6,7]),(1000008,[0,6,8,11,12])]
def kp121:List (Nat × List Nat):=[(0,[0,1]),(1,[0,1,13]),(2,[4,5]),(3,[4,5])]
def kp122:List (Nat × List Nat):=[(0,[0,1,2]),(1,[0,1,2,14]),(2,[6]),(3,[0,1,2,7]),(4,[0,1,2,7,8]),(5,[0,1,2,7,8,17]),(6,[0,1,2,7,8]),(7,[0,1,2,7,8]),(8,[6]),(1000005,[0,1,2,7,8])]
def kp123:List (Nat × List Nat):=[(0,[1,2,4]),(1,[2,4,5]),(2,[2,4,5,6]),(3,[2,4,5,6,28]),(4,[2,4,5,6]),(5,[2,4,5,6,37]),(6,[4,6]),(7,[4])]
def kp124:List (Nat × List Nat):=[(0,[0]),(1,[2])]
def kp125:List (Nat × List Nat):=[(0,[0,2,3,4,6]),(1,[0,2,3,4,6,16]),(2,[2,3,4,6]),(3,[2,3,4,6,22]),(4,[])]
def kp126:List (Nat × List Nat):=[(0,[0,1,4]),(1,[0,1,21]),(2,[0]),(3,[0,34]),(4,[])]
def kp127:List (Nat × List Nat):=[(0,[0,1,2,3,8]),(1,[0,1,2,3,8,9]),(2,[0,1,2,3,8,9]),(3,[0,1,2,3,8,9,10,11]),(4,[0,1,2,3,8,9,10,24]),(5,[0,1,2,3,8,9,10,12]),(6,[0,1,2,3,8,9,10,12,13]),(7,[0,1,2,3,8,9,10,11,12,15]),(8,[0,1,2,3,8,9,10,12,15,52]),(9,[0,1,2,3,8,9,10,12]),(10,[0,1,2,3,8,9,10,12,58]),(11,[0,1,2,3,8,10,12,65]),(12,[0,1,2,3,8,9,10,12]),(13,[0,1,2,3,8,9,10,68]),(14,[]),(15,[0,1,2,3,8,9]),(1000003,[0,1,2,3,8,9])]
def kp128:List (Nat × List Nat):=[(0,[0,2]),(1,[2])]
def kp129:List (Nat × List Nat):=[(0,[2,3,4,6]),(1,[2,3,4,6,12]),(2,[6,7]),(3,[2,3,4,6,8]),(4,[2,3,4,6,8,18]),(5,[3,4,6,8]),(6,[6,9,10]),(7,[6,7])]
def kp130:List (Nat × List Nat):=[(0,[1,2,4]),(1,[1,2,4,5]),(2,[1,2,4,20]),(3,[4]),(4,[2,4]),(5,[2,4,33]),(6,[2,4]),(7,[4])]
def kp131:List (Nat × List Nat):=[(0,[2,3,4,6]),(1,[2,3,4,6,7]),(2,[2,3,4,6,7,8]),(3,[2,3,4,6,7,8,20]),(4,[2,3,4,6,7,8,9]),(5,[2,3,4,6,7,8,9,10]),(6,[2,3,4,6,7,8,10]),(7,[2,3,4,6,7,8,10,11]),(8,[2,3,4,6,7,8,10,11]),(9,[2,3,4,6,7,8,10,11,12]),(10,[2,3,4,6,7,8,10,11,12,56]),(11,[6]),(12,[2,3,4,6,7,8,10,11]),(13,[2,3,4,6,7,8,10,11,13]),(14,[2,3,4,6,7,8,10,11,69]),(15,[2,3,4,6,7,8,10,11,14]),(16,[2,3,4,6,7,8,10,11,14,75]),(17,[6]),(18,[2,3,4,6,7,8,10,11]),(19,[2,3,4,6,7,8,10,11]),(20,[2,3,4,6,7,8,10,11,15]),(21,[2,3,4,6,7,8,10,11,15,95]),(22,[2,3,4,6,7,8,10,11,15]),(23,[2,3,4,6,7,8,10,11,15]),(24,[2,3,4,6,7,8,10,11]),(25,[2,3,4,6,7,8,10,111]),(26,[6]),(27,[2,3,4,6,7,8]),(28,[6]),(1000003,[2,3,4,6,7,8]),(1000021,[2,3,4,6,7,8,10,11,15])]
def kp132:List (Nat × List Nat):=[(0,[2,3,4,5,6,10]),(1,[3,4,5,6,10,11]),(2,[3,4,5,6,10,11]),(3,[3,4,5,6,10,11]),(4,[3,4,5,10,11,27]),(5,[3,5,10]),(6,[5,10]),(7,[5,10,11]),(8,[4,5,10,11]),(9,[5,10,11]),(10,[5,10,11,39]),(11,[5,10,11]),(12,[5,10,41]),(13,[5,10]),(14,[5,10,52]),(15,[5,10]),(16,[5,10]),(17,[10])]
def kp133:List (Nat × List Nat):=[(0,[0,1,2]),(1,[6])]
def kp134:List (Nat × List Nat):=[(0,[0]),(1,[0,4]),(2,[2]),(3,[2])]
def kp135:List (Nat × List Nat):=[]
def kp136:List (Nat × List Nat):=[]
def kp137:List (Nat × List Nat):=[]
def kp138:List (Nat × List Nat):=[]
def kp139:List (Nat × List Nat):=[]
def kp140:List (Nat × List Nat):=[]
def kp141:List (Nat × List Nat):=[]
def kp142:List (Nat × List Nat):=[]
def kp143:List (Nat × List Nat):=[]
def kp144:List (Nat × List Nat):=[]
def kp145:List (Nat × List Nat):=[]
def kp146:List (Nat × List Nat):=[]
def kp147:List (Nat × List Nat):=[]
def kp149:List (Nat × List Nat):=[(0,[])]
def kp150:List (Nat × List Nat):=[(0,[1,2,3,4]),(1,[2,3,9]),(2,[3,9,10]),(3,[3,9,10,20,21]),(4,[3,9,10,20,21,22]),(5,[3,9,10,11,20,21]),(6,[3,9,10,20,21]),(7,[3,9,10,20,21]),(8,[8]),(1000004,[3,9,10,20,21])]
def kp151:List (Nat × List Nat):=[(0,[1,2]),(1,[1,2,5]),(2,[1,2,5,13]),(3,[1,2,5]),(4,[1,2,5,6]),(5,[1,2,6,17,18,19]),(6,[1,2,6,17,18,19,20]),(7,[1,2,6,8,17,18,19]),(8,[1,2,6,8,9,17,18,19]),(9,[1,2,6,8,9,17,18,19]),(10,[1,2,6,8,9,17,18,19,34]),(11,[1,2,6,9,17,18,19]),(12,[1,2,6,9,17,18,19]),(13,[1,2,6,17,18,19]),(14,[1,2,6,17,18,19]),(15,[4]),(1000006,[1,2,6,17,18,19])]
def kp152:List (Nat × List Nat):=[(0,[1]),(1,[1,3]),(2,[1,3,12,13,14]),(3,[1,3,12,13,14,15]),(4,[1,3,5,12,13,14]),(5,[1,3,5,6,12,13,14]),(6,[1,3,12,13,14]),(7,[1,3,12,13,14]),(8,[2]),(1000003,[1,3,12,13,14])]
def kp153:List (Nat × List Nat):=[(0,[1,2,3]),(1,[1,2,3,7,8]),(2,[1,2,3,7,8]),(3,[7,8,9]),(4,[7,8,9,32]),(5,[6]),(6,[6])]
def kp154:List (Nat × List Nat):=[(0,[])]
def kp155:List (Nat × List Nat):=[(0,[0,1,2,3]),(1,[0,1,2,3,23]),(2,[8]),(3,[8])]
def kp156:List (Nat × List Nat):=[(0,[0,1,2]),(1,[0,1,2,8]),(2,[0,1,2,8,17]),(3,[0,1,2,8]),(4,[0,1,2,9,11]),(5,[0,1,2,9,11,12]),(6,[0,1,2,9,11,12,13]),(7,[0,1,2,9,11,12,13,32]),(8,[0,1,2,9,11,12,13]),(9,[0,1,2,9,11,12,13,14]),(10,[0,1,2,9,11,12,13,14,55]),(11,[0,1,2,9,12,13,14]),(12,[0,1,2,9,12,13,14]),(13,[0,1,2,9,11,12,13,14]),(14,[0,1,2,9,11,12,13]),(15,[6,7]),(1000007,[0,1,2,9,11,12,13])]
def kp157:List (Nat × List Nat):=[(0,[0,1,2,3]),(1,[0,1,2,3,11,12]),(2,[0,1,3,11,12,43]),(3,[8,9,10]),(4,[0,1,3,11,12,13]),(5,[0,1,3,11,12,13,14]),(6,[0,1,3,11,12,13,14,47]),(7,[0,1,3,11,12,13,14]),(8,[0,1,3,11,12,13,14]),(9,[0,3,11,12,13,60]),(10,[0,3,11,12,13,15]),(11,[0,3,11,12,13,15,16]),(12,[0,3,11,12,13,15,16,63]),(13,[0,3,11,12,13,15,16]),(14,[0,3,11,12,13,15,16]),(15,[11,12,13,80]),(16,[11,13]),(17,[8,9,10]),(1000006,[0,1,3,11,12,13,14]),(1000012,[0,3,11,12,13,15,16])]
def kp158:List (Nat × List Nat):=[(0,[0,1,2]),(1,[0,1,2,8,9]),(2,[1,2,8,9,38]),(3,[6,7]),(4,[1,2,8,9,40]),(5,[6,7]),(6,[6,7])]
def kp159:List (Nat × List Nat):=[(0,[1,2,3]),(1,[1,2,3]),(2,[6])]
def kp160:List (Nat × List Nat):=[(0,[1]),(1,[1,3]),(2,[1,3,4]),(3,[1,4,5]),(4,[1,4,5,6]),(5,[1,4,5,6,29,30]),(6,[1,4,5,6,29,30,31]),(7,[1,4,5,6,7,29,30]),(8,[1,4,5,6,7,29,30]),(9,[1,4,5,6,29,30]),(10,[1,4,5,6,29,30]),(11,[6]),(12,[2]),(1000006,[1,4,5,6,29,30])]
def kp161:List (Nat × List Nat):=[(0,[1]),(1,[1,3]),(2,[1,4]),(3,[1,4,5]),(4,[1,4,5,29]),(5,[1,4,5]),(6,[1,4,5,35]),(7,[1,5]),(8,[5]),(9,[2])]
def kp162:List (Nat × List Nat):=[(0,[0,1]),(1,[0,1,5,6]),(2,[0,1,6,7]),(3,[0,1,6,7]),(4,[0,1,6,7]),(5,[0,6,7,9,10]),(6,[0,6,9,10,54]),(7,[0]),(8,[]),(9,[4]),(10,[6]),(11,[4])]
def kp163:List (Nat × List Nat):=[(0,[0,2,4]),(1,[0]),(2,[5,6])]
def kp164:List (Nat × List Nat):=[]
def kp165:List (Nat × List Nat):=[]
def kp166:List (Nat × List Nat):=[(0,[0,1,2,3]),(1,[0,1,2,3,9]),(2,[0,1,2,3,9,10]),(3,[0,1,2,3,9,10,13]),(4,[0,1,2,3,9,10]),(5,[0,1,2,3,9,10]),(6,[8]),(1000003,[0,1,2,3,9,10])]
def kp167:List (Nat × List Nat):=[(0,[0]),(1,[0,4]),(2,[0,4,11]),(3,[2,3]),(4,[0,4,5]),(5,[5]),(6,[2,3])]
def kp168:List (Nat × List Nat):=[(0,[1,2]),(1,[1,2,14]),(2,[4,5]),(3,[4,5])]
def kp169:List (Nat × List Nat):=[(0,[0]),(1,[2])]
def kp170:List (Nat × List Nat):=[(0,[0,1,2,3,4]),(1,[1,2,4,11,12]),(2,[1,2,4,11,25]),(3,[10]),(4,[1,2,4]),(5,[1,4]),(6,[1,34,35,36]),(7,[1,34,35,36,37]),(8,[1,14,34,35,36]),(9,[1,34,35,36]),(10,[1,34,35,36]),(11,[10]),(1000007,[1,34,35,36])]
def kp171:List (Nat × List Nat):=[(0,[1,2]),(1,[1,2,8]),(2,[4]),(3,[2,5,6]),(4,[5,23]),(5,[4]),(6,[4])]
def kp172:List (Nat × List Nat):=[(0,[1,2,3,6]),(1,[1,2,3,6,25]),(2,[6,7]),(3,[6,7])]
def kp173:List (Nat × List Nat):=[(0,[0,1]),(1,[0,1,12]),(2,[4]),(3,[4])]
def kp174:List (Nat × List Nat):=[(0,[0]),(1,[3]),(2,[3,7]),(3,[2]),(4,[2])]
def kp175:List (Nat × List Nat):=[]
def kp176:List (Nat × List Nat):=[]
def kp177:List (Nat × List Nat):=[]
def kp178:List (Nat × List Nat):=[]
def kp179:List (Nat × List Nat):=[]
def kp180:List (Nat × List Nat):=[]
def kp181:List (Nat × List Nat):=[]
def kp182:List (Nat × List Nat):=[]
def kp183:List (Nat × List Nat):=[]
def kp184:List (Nat × List Nat):=[]
def kp185:List (Nat × List Nat):=[]
def kp186:List (Nat × List Nat):=[(0,[0,1]),(1,[0]),(2,[])]
def kp187:List (Nat × List Nat):=[(0,[1,2,3]),(1,[1,3,7]),(2,[1,3,7,8]),(3,[6]),(4,[1,3,13]),(5,[6]),(6,[6])]
def kp188:List (Nat × List Nat):=[(0,[1,2,3,4]),(1,[1,2,3,4,9,10]),(2,[1,2,3,4,9,10]),(3,[1,3,4,9,10]),(4,[3,9,10,11]),(5,[3,9,10,11,12]),(6,[3,9,10,11,12,34,35]),(7,[3,9,10,11,12,34,35,36]),(8,[3,9,10,11,12,13,34,35]),(9,[3,9,10,11,12,34,35]),(10,[3,9,10,11,12,34,35]),(11,[10,12,58]),(12,[8]),(13,[8]),(1000007,[3,9,10,11,12,34,35])]
def kp189:List (Nat × List Nat):=[(0,[0]),(1,[0,4,5]),(2,[0,4,19]),(3,[2,3]),(4,[2,3])]
def kp190:List (Nat × List Nat):=[(0,[0,1,2,6]),(1,[0,1,2,6,30]),(2,[6,7]),(3,[6,7])]
def kp191:List (Nat × List Nat):=[(0,[1]),(1,[2])]
def kp192:List (Nat × List Nat):=[(0,[1,2]),(1,[1,2,6]),(2,[1,2,6,12]),(3,[1,2,6]),(4,[1,2,6,7]),(5,[1,2,6,7,29]),(6,[4,5]),(7,[4,5]),(1000002,[1,2,6])]
def kp193:List (Nat × List Nat):=[]
def kp194:List (Nat × List Nat):=[]
def kp195:List (Nat × List Nat):=[]
def kp196:List (Nat × List Nat):=[]
def kp197:List (Nat × List Nat):=[]
def kp198:List (Nat × List Nat):=[]
def kp199:List (Nat × List Nat):=[(0,[1,2]),(1,[4])]
def kp200:List (Nat × List Nat):=[(0,[1,2]),(1,[2,6,7]),(2,[2,6,7,8]),(3,[2,5,6,7]),(4,[2,6,7,14]),(5,[4]),(6,[2,6,7]),(7,[4]),(1000002,[2,6,7])]
def kp201:List (Nat × List Nat):=[(0,[0,1]),(1,[0,1,8]),(2,[4]),(3,[0,5,6]),(4,[5,26]),(5,[4]),(6,[4])]
def kp202:List (Nat × List Nat):=[(0,[0,2,3,4,10]),(1,[0,2,4,10,11]),(2,[0,2,4,10,11,20]),(3,[0,2,4,10,11,23]),(4,[0,2,4,10,11]),(5,[0,2,4,10,11]),(6,[0,2,4,10,11]),(7,[0,2,4,10,11]),(8,[]),(1000002,[0,2,4,10,11])]
def kp203:List (Nat × List Nat):=[]
def kpT (f:Nat):List (Nat × List Nat) :=
 bif Nat.blt f 111 then (bif Nat.blt f 55 then (bif Nat.blt f 27 then (bif Nat.blt f 13 then (bif Nat.blt f 6 then (bif Nat.blt f 3 then (bif Nat.blt f 1 then ([]) else (bif Nat.blt f 2 then ([]) else (kp2))) else (bif Nat.blt f 4 then (kp3) else (bif Nat.blt f 5 then (kp4) else (kp5)))) else (bif Nat.blt f 9 then (bif Nat.blt f 7 then (kp6) else (bif Nat.blt f 8 then (kp7) else (kp8))) else (bif Nat.blt f 11 then (bif Nat.blt f 10 then (kp9) else (kp10)) else (bif Nat.blt f 12 then (kp11) else (kp12))))) else (bif Nat.blt f 20 then (bif Nat.blt f 16 then (bif Nat.blt f 14 then (kp13) else (bif Nat.blt f 15 then (kp14) else (kp15))) else (bif Nat.blt f 18 then (bif Nat.blt f 17 then (kp16) else (kp17)) else (bif Nat.blt f 19 then (kp18) else (kp19)))) else (bif Nat.blt f 23 then (bif Nat.blt f 21 then (kp20) else (bif Nat.blt f 22 then (kp21) else (kp22))) else (bif Nat.blt f 25 then (bif Nat.blt f 24 then (kp23) else (kp24)) else (bif Nat.blt f 26 then (kp25) else (kp26)))))) else (bif Nat.blt f 41 then (bif Nat.blt f 34 then (bif Nat.blt f 30 then (bif Nat.blt f 28 then (kp27) else (bif Nat.blt f 29 then (kp28) else (kp29))) else (bif Nat.blt f 32 then (bif Nat.blt f 31 then (kp30) else (kp31)) else (bif Nat.blt f 33 then (kp32) else (kp33)))) else (bif Nat.blt f 37 then (bif Nat.blt f 35 then (kp34) else (bif Nat.blt f 36 then (kp35) else (kp36))) else (bif Nat.blt f 39 then (bif Nat.blt f 38 then (kp37) else (kp38)) else (bif Nat.blt f 40 then (kp39) else (kp40))))) else (bif Nat.blt f 48 then (bif Nat.blt f 44 then (bif Nat.blt f 42 then (kp41) else (bif Nat.blt f 43 then (kp42) else (kp43))) else (bif Nat.blt f 46 then (bif Nat.blt f 45 then (kp44) else (kp45)) else (bif Nat.blt f 47 then (kp46) else (kp47)))) else (bif Nat.blt f 51 then (bif Nat.blt f 49 then (kp48) else (bif Nat.blt f 50 then (kp49) else (kp50))) else (bif Nat.blt f 53 then (bif Nat.blt f 52 then (kp51) else (kp52)) else (bif Nat.blt f 54 then (kp53) else (kp54))))))) else (bif Nat.blt f 83 then (bif Nat.blt f 69 then (bif Nat.blt f 62 then (bif Nat.blt f 58 then (bif Nat.blt f 56 then (kp55) else (bif Nat.blt f 57 then (kp56) else (kp57))) else (bif Nat.blt f 60 then (bif Nat.blt f 59 then (kp58) else (kp59)) else (bif Nat.blt f 61 then (kp60) else (kp61)))) else (bif Nat.blt f 65 then (bif Nat.blt f 63 then (kp62) else (bif Nat.blt f 64 then (kp63) else (kp64))) else (bif Nat.blt f 67 then (bif Nat.blt f 66 then (kp65) else (kp66)) else (bif Nat.blt f 68 then (kp67) else (kp68))))) else (bif Nat.blt f 76 then (bif Nat.blt f 72 then (bif Nat.blt f 70 then (kp69) else (bif Nat.blt f 71 then (kp70) else (kp71))) else (bif Nat.blt f 74 then (bif Nat.blt f 73 then (kp72) else (kp73)) else (bif Nat.blt f 75 then (kp74) else (kp75)))) else (bif Nat.blt f 79 then (bif Nat.blt f 77 then (kp76) else (bif Nat.blt f 78 then (kp77) else (kp78))) else (bif Nat.blt f 81 then (bif Nat.blt f 80 then (kp79) else (kp80)) else (bif Nat.blt f 82 then (kp81) else (kp82)))))) else (bif Nat.blt f 97 then (bif Nat.blt f 90 then (bif Nat.blt f 86 then (bif Nat.blt f 84 then (kp83) else (bif Nat.blt f 85 then (kp84) else (kp85))) else (bif Nat.blt f 88 then (bif Nat.blt f 87 then (kp86) else (kp87)) else (bif Nat.blt f 89 then (kp88) else (kp89)))) else (bif Nat.blt f 93 then (bif Nat.blt f 91 then (kp90) else (bif Nat.blt f 92 then (kp91) else (kp92))) else (bif Nat.blt f 95 then (bif Nat.blt f 94 then (kp93) else (kp94)) else (bif Nat.blt f 96 then (kp95) else (kp96))))) else (bif Nat.blt f 104 then (bif Nat.blt f 100 then (bif Nat.blt f 98 then (kp97) else (bif Nat.blt f 99 then (kp98) else (kp99))) else (bif Nat.blt f 102 then (bif Nat.blt f 101 then (kp100) else (kp101)) else (bif Nat.blt f 103 then (kp102) else (kp103)))) else (bif Nat.blt f 107 then (bif Nat.blt f 105 then (kp104) else (bif Nat.blt f 106 then (kp105) else (kp106))) else (bif Nat.blt f 109 then (bif Nat.blt f 108 then (kp107) else (kp108)) else (bif Nat.blt f 110 then (kp109) else (kp110)))))))) else (bif Nat.blt f 167 then (bif Nat.blt f 139 then (bif Nat.blt f 125 then (bif Nat.blt f 118 then (bif Nat.blt f 114 then (bif Nat.blt f 112 then (kp111) else (bif Nat.blt f 113 then (kp112) else (kp113))) else (bif Nat.blt f 116 then (bif Nat.blt f 115 then (kp114) else (kp115)) else (bif Nat.blt f 117 then (kp116) else (kp117)))) else (bif Nat.blt f 121 then (bif Nat.blt f 119 then (kp118) else (bif Nat.blt f 120 then (kp119) else (kp120))) else (bif Nat.blt f 123 then (bif Nat.blt f 122 then (kp121) else (kp122)) else (bif Nat.blt f 124 then (kp123) else (kp124))))) else (bif Nat.blt f 132 then (bif Nat.blt f 128 then (bif Nat.blt f 126 then (kp125) else (bif Nat.blt f 127 then (kp126) else (kp127))) else (bif Nat.blt f 130 then (bif Nat.blt f 129 then (kp128) else (kp129)) else (bif Nat.blt f 131 then (kp130) else (kp131)))) else (bif Nat.blt f 135 then (bif Nat.blt f 133 then (kp132) else (bif Nat.blt f 134 then (kp133) else (kp134))) else (bif Nat.blt f 137 then (bif Nat.blt f 136 then (kp135) else (kp136)) else (bif Nat.blt f 138 then (kp137) else (kp138)))))) else (bif Nat.blt f 153 then (bif Nat.blt f 146 then (bif Nat.blt f 142 then (bif Nat.blt f 140 then (kp139) else (bif Nat.blt f 141 then (kp140) else (kp141))) else (bif Nat.blt f 144 then (bif Nat.blt f 143 then (kp142) else (kp143)) else (bif Nat.blt f 145 then (kp144) else (kp145)))) else (bif Nat.blt f 149 then (bif Nat.blt f 147 then (kp146) else (bif Nat.blt f 148 then (kp147) else ([]))) else (bif Nat.blt f 151 then (bif Nat.blt f 150 then (kp149) else (kp150)) else (bif Nat.blt f 152 then (kp151) else (kp152))))) else (bif Nat.blt f 160 then (bif Nat.blt f 156 then (bif Nat.blt f 154 then (kp153) else (bif Nat.blt f 155 then (kp154) else (kp155))) else (bif Nat.blt f 158 then (bif Nat.blt f 157 then (kp156) else (kp157)) else (bif Nat.blt f 159 then (kp158) else (kp159)))) else (bif Nat.blt f 163 then (bif Nat.blt f 161 then (kp160) else (bif Nat.blt f 162 then (kp161) else (kp162))) else (bif Nat.blt f 165 then (bif Nat.blt f 164 then (kp163) else (kp164)) else (bif Nat.blt f 166 then (kp165) else (kp166))))))) else (bif Nat.blt f 195 then (bif Nat.blt f 181 then (bif Nat.blt f 174 then (bif Nat.blt f 170 then (bif Nat.blt f 168 then (kp167) else (bif Nat.blt f 169 then (kp168) else (kp169))) else (bif Nat.blt f 172 then (bif Nat.blt f 171 then (kp170) else (kp171)) else (bif Nat.blt f 173 then (kp172) else (kp173)))) else (bif Nat.blt f 177 then (bif Nat.blt f 175 then (kp174) else (bif Nat.blt f 176 then (kp175) else (kp176))) else (bif Nat.blt f 179 then (bif Nat.blt f 178 then (kp177) else (kp178)) else (bif Nat.blt f 180 then (kp179) else (kp180))))) else (bif Nat.blt f 188 then (bif Nat.blt f 184 then (bif Nat.blt f 182 then (kp181) else (bif Nat.blt f 183 then (kp182) else (kp183))) else (bif Nat.blt f 186 then (bif Nat.blt f 185 then (kp184) else (kp185)) else (bif Nat.blt f 187 then (kp186) else (kp187)))) else (bif Nat.blt f 191 then (bif Nat.blt f 189 then (kp188) else (bif Nat.blt f 190 then (kp189) else (kp190))) else (bif Nat.blt f 193 then (bif Nat.blt f 192 then (kp191) else (kp192)) else (bif Nat.blt f 194 then (kp193) else (kp194)))))) else (bif Nat.blt f 209 then (bif Nat.blt f 202 then (bif Nat.blt f 198 then (bif Nat.blt f 196 then (kp195) else (bif Nat.blt f 197 then (kp196) else (kp197))) else (bif Nat.blt f 200 then (bif Nat.blt f 199 then (kp198) else (kp199)) else (bif Nat.blt f 201 then (kp200) else (kp201)))) else (bif Nat.blt f 205 then (bif Nat.blt f 203 then (kp202) else (bif Nat.blt f 204 then (kp203) else ([]))) else ([]))) else ([]))))
def kpLook (id:Nat):List (Nat × List Nat) → List Nat
 | [] => []
 | (i,l) :: r => bif Nat.beq i id then l else kpLook id r
def kpS (f id:Nat):List Nat:=kpLook id (kpT f)
def speaksT:List Nat:=[15,22,33,44,52]
abbrev shortT:Nat:=190
def moreS (f:Nat):Option Sp:=bif Nat.beq f 4 then some stuckSp else bif Nat.beq f 7 then some stuckSp else bif Nat.beq f 40 then some (tryV 190) else bif Nat.beq f 42 then some stuckSp else bif Nat.beq f 71 then some (fun _ args H => cloneV 2 16 args H) else bif Nat.beq f 73 then some stuckSp else bif Nat.beq f 75 then some stuckSp else bif Nat.beq f 115 then some (fun _ args H => cloneV 3 12 args H) else bif Nat.beq f 134 then some (fun _ args H => cloneV 2 40 args H) else none
def ownersW:List Nat:=[999999,44,52]
def ownW (k:Nat):Mode:=bif ownersW.contains (k % 1000000) then .no else .fz
abbrev sP17:Nat:=F.ζ2g
abbrev sP25:Nat:=999998
def ownP (s k n:Nat):Mode:=bif Nat.beq k s && Nat.ble n 2 then .no else own k
def mdS (k f n:Nat):Mode:=bif Nat.blt f 111 then (bif Nat.blt f 55 then (bif Nat.blt f 27 then (bif Nat.blt f 13 then (bif Nat.blt f 6 then (bif Nat.blt f 3 then (bif Nat.blt f 1 then (.gc) else (bif Nat.blt f 2 then (.gc) else (.no))) else (.gc)) else (.gc)) else (bif Nat.blt f 20 then (bif Nat.blt f 16 then (.gc) else (bif Nat.blt f 18 then (.no) else (bif Nat.blt f 19 then (.fz) else (own k)))) else (bif Nat.blt f 23 then (bif Nat.blt f 21 then (.no) else (bif Nat.blt f 22 then (.no) else (.gc))) else (bif Nat.blt f 25 then (.fz) else (bif Nat.blt f 26 then (.no) else (.gc)))))) else (bif Nat.blt f 41 then (bif Nat.blt f 34 then (bif Nat.blt f 30 then (bif Nat.blt f 28 then (.gc) else (bif Nat.blt f 29 then (.no) else (.fz))) else (bif Nat.blt f 32 then (bif Nat.blt f 31 then (.no) else (.gc)) else (.gc))) else (bif Nat.blt f 37 then (bif Nat.blt f 35 then (own k) else (bif Nat.blt f 36 then (.fz) else (.gc))) else (bif Nat.blt f 39 then (.gc) else (bif Nat.blt f 40 then (.fz) else (.no))))) else (bif Nat.blt f 48 then (bif Nat.blt f 44 then (bif Nat.blt f 42 then (.no) else (bif Nat.blt f 43 then (.fz) else (.gc))) else (bif Nat.blt f 46 then (bif Nat.blt f 45 then (.gc) else (.no)) else (.fz))) else (bif Nat.blt f 51 then (bif Nat.blt f 49 then (.no) else (bif Nat.blt f 50 then (.no) else (.gc))) else (bif Nat.blt f 53 then (bif Nat.blt f 52 then (own k) else (.gc)) else (bif Nat.blt f 54 then (.gc) else (ownP sP17 k n))))))) else (bif Nat.blt f 83 then (bif Nat.blt f 69 then (bif Nat.blt f 62 then (bif Nat.blt f 58 then (bif Nat.blt f 56 then (.fz) else (bif Nat.blt f 57 then (.fz) else (.no))) else (bif Nat.blt f 60 then (bif Nat.blt f 59 then (.fz) else (.gc)) else (bif Nat.blt f 61 then (ownP sP25 k n) else (.fz)))) else (bif Nat.blt f 65 then (bif Nat.blt f 63 then (.gc) else (bif Nat.blt f 64 then (.no) else (.gc))) else (bif Nat.blt f 67 then (.gc) else (bif Nat.blt f 68 then (.gc) else (.fz))))) else (bif Nat.blt f 76 then (bif Nat.blt f 72 then (bif Nat.blt f 70 then (.fz) else (.no)) else (.no)) else (bif Nat.blt f 79 then (bif Nat.blt f 77 then (.gc) else (bif Nat.blt f 78 then (.no) else (.fz))) else (bif Nat.blt f 81 then (bif Nat.blt f 80 then (.fz) else (.no)) else (.gc))))) else (bif Nat.blt f 97 then (bif Nat.blt f 90 then (bif Nat.blt f 86 then (bif Nat.blt f 84 then (.gc) else (bif Nat.blt f 85 then (.no) else (.gc))) else (bif Nat.blt f 88 then (.fz) else (bif Nat.blt f 89 then (.no) else (.fz)))) else (bif Nat.blt f 93 then (bif Nat.blt f 91 then (.no) else (.fz)) else (bif Nat.blt f 95 then (bif Nat.blt f 94 then (.fz) else (.gc)) else (bif Nat.blt f 96 then (.fz) else (.no))))) else (bif Nat.blt f 104 then (bif Nat.blt f 100 then (bif Nat.blt f 98 then (.gc) else (bif Nat.blt f 99 then (.gc) else (.no))) else (bif Nat.blt f 102 then (bif Nat.blt f 101 then (.no) else (.gc)) else (.gc))) else (bif Nat.blt f 107 then (bif Nat.blt f 105 then (.gc) else (bif Nat.blt f 106 then (.fz) else (own k))) else (bif Nat.blt f 109 then (bif Nat.blt f 108 then (.gc) else (.no)) else (bif Nat.blt f 110 then (.gc) else (.no)))))))) else (bif Nat.blt f 167 then (bif Nat.blt f 139 then (bif Nat.blt f 125 then (bif Nat.blt f 118 then (bif Nat.blt f 114 then (bif Nat.blt f 112 then (.gc) else (bif Nat.blt f 113 then (.no) else (.gc))) else (bif Nat.blt f 116 then (.no) else (bif Nat.blt f 117 then (.fz) else (ownW k)))) else (bif Nat.blt f 121 then (bif Nat.blt f 119 then (.no) else (.fz)) else (bif Nat.blt f 123 then (bif Nat.blt f 122 then (.fz) else (.gc)) else (.gc)))) else (bif Nat.blt f 132 then (bif Nat.blt f 128 then (.no) else (bif Nat.blt f 130 then (.gc) else (.fz))) else (bif Nat.blt f 135 then (bif Nat.blt f 133 then (.gc) else (bif Nat.blt f 134 then (.gc) else (.no))) else (bif Nat.blt f 137 then (bif Nat.blt f 136 then (.no) else (.gc)) else (.gc))))) else (bif Nat.blt f 153 then (bif Nat.blt f 146 then (bif Nat.blt f 142 then (.gc) else (bif Nat.blt f 144 then (bif Nat.blt f 143 then (.gc) else (.no)) else (bif Nat.blt f 145 then (.no) else (.fz)))) else (bif Nat.blt f 149 then (.no) else (bif Nat.blt f 151 then (bif Nat.blt f 150 then (.no) else (.fz)) else (.fz)))) else (bif Nat.blt f 160 then (bif Nat.blt f 156 then (bif Nat.blt f 154 then (.fz) else (.gc)) else (bif Nat.blt f 158 then (.fz) else (bif Nat.blt f 159 then (.fz) else (.gc)))) else (bif Nat.blt f 163 then (.no) else (bif Nat.blt f 165 then (.no) else (.gc)))))) else (bif Nat.blt f 195 then (bif Nat.blt f 181 then (bif Nat.blt f 174 then (bif Nat.blt f 170 then (bif Nat.blt f 168 then (.no) else (.gc)) else (bif Nat.blt f 172 then (bif Nat.blt f 171 then (.no) else (.gc)) else (.gc))) else (bif Nat.blt f 177 then (bif Nat.blt f 175 then (.gc) else (bif Nat.blt f 176 then (.no) else (.gc))) else (bif Nat.blt f 179 then (.gc) else (bif Nat.blt f 180 then (.no) else (.gc))))) else (bif Nat.blt f 188 then (bif Nat.blt f 184 then (bif Nat.blt f 182 then (.gc) else (bif Nat.blt f 183 then (.no) else (.gc))) else (bif Nat.blt f 186 then (bif Nat.blt f 185 then (.gc) else (.no)) else (bif Nat.blt f 187 then (.no) else (.gc)))) else (bif Nat.blt f 191 then (bif Nat.blt f 189 then (.fz) else (.gc)) else (bif Nat.blt f 193 then (.gc) else (.no))))) else (bif Nat.blt f 209 then (bif Nat.blt f 202 then (bif Nat.blt f 198 then (bif Nat.blt f 196 then (.gc) else (bif Nat.blt f 197 then (.no) else (.gc))) else (bif Nat.blt f 200 then (bif Nat.blt f 199 then (.fz) else (.gc)) else (.gc))) else (bif Nat.blt f 205 then (bif Nat.blt f 203 then (.no) else (bif Nat.blt f 204 then (.no) else (.gc))) else (.gc))) else (bif Nat.blt f 216 then (.gc) else (bif Nat.blt f 219 then (.gc) else (bif Nat.blt f 221 then (bif Nat.blt f 220 then (.gc) else (.no)) else (.gc)))))))
def arS (f:Nat):Bool:=[56,61].any (Nat.beq f)
def pkS (f:Nat):Bool:=Nat.beq f 56
noncomputable def C (k:Nat):Cfg:={ P:=Prog,kp:=kpS,sp:=spOf speaksT moreS (k % 1000000) }
noncomputable def T (k:Nat):Told:={ c:=C k,md:=mdS k,ar:=arS,pk:=pkS }
theorem ζr5 (f:FuncId) (s:Sp) (h:moreS f = some s):∀ args H,Scott fun call => s call args H:=by
 unfold moreS at h;cases h4:Nat.beq f 4 with
 | true => rw [h4,cond_true] at h; injection h with h; subst h; exact fun args H => Scott.const _
 | false =>
 rw [h4,cond_false] at h;cases h7:Nat.beq f 7 with
 | true => rw [h7,cond_true] at h; injection h with h; subst h; exact fun args H => Scott.const _
 | false =>
 rw [h7,cond_false] at h;cases h40:Nat.beq f 40 with
 | true => rw [h40,cond_true] at h; injection h with h; subst h; first | exact fun args H => Scott.const _ | exact Scott.tryV _ | exact Scott.told _
 | false =>
 rw [h40,cond_false] at h;cases h42:Nat.beq f 42 with
 | true => rw [h42,cond_true] at h; injection h with h; subst h; exact fun args H => Scott.const _
 | false =>
 rw [h42,cond_false] at h;cases h71:Nat.beq f 71 with
 | true => rw [h71,cond_true] at h; injection h with h; subst h; first | exact fun args H => Scott.const _ | exact Scott.tryV _ | exact Scott.told _
 | false =>
 rw [h71,cond_false] at h;cases h73:Nat.beq f 73 with
 | true => rw [h73,cond_true] at h; injection h with h; subst h; exact fun args H => Scott.const _
 | false =>
 rw [h73,cond_false] at h;cases h75:Nat.beq f 75 with
 | true => rw [h75,cond_true] at h; injection h with h; subst h; exact fun args H => Scott.const _
 | false =>
 rw [h75,cond_false] at h;cases h115:Nat.beq f 115 with
 | true => rw [h115,cond_true] at h; injection h with h; subst h; first | exact fun args H => Scott.const _ | exact Scott.tryV _ | exact Scott.told _
 | false =>
 rw [h115,cond_false] at h;cases h134:Nat.beq f 134 with
 | true => rw [h134,cond_true] at h; injection h with h; subst h; first | exact fun args H => Scott.const _ | exact Scott.tryV _ | exact Scott.told _
 | false =>
 rw [h134,cond_false] at h;cases h
theorem T_scott (k:Nat):SpScott (T k).c:=SpScott.of ζr5
@[simp] theorem len_22 (x:Value) (h:Heap):builtinV Prog .len [22] [x] h = lnS x h:=lnS_eq (e:=57) (by kernel_rfl) x h
@[simp] theorem len_23 (x:Value) (h:Heap):builtinV Prog .len [23] [x] h = lnS x h:=lnS_eq (e:=3) (by kernel_rfl) x h
@[simp] theorem be_23_1 (ps:List (Nat × Value)) (h:Heap):buildSliceR Prog 23 1 ps h = beR 1 1 ps [.int .i64 0] h:=be_eq (e:=3) (by kernel_rfl) (by kernel_rfl) (by kernel_rfl) (by kernel_rfl) ps h
@[simp] theorem ap_23 (a b:Value) (h:Heap):builtinV Prog .append [23,23] [a,b] h = apR 1 8 a b h:=ap_is (e:=3) (z:=.int .i64 0) (by kernel_rfl) (by kernel_rfl) (by kernel_rfl) (by kernel_rfl) (by kernel_rfl) a b h
@[simp] theorem ld_4 (a:Value) (h:Heap):loadR Prog 4 a h = ld1 a h:=ld1_eq (by kernel_rfl) a h
@[simp] theorem st_4 (a v:Value) (h:Heap):storeR Prog 4 a v h = stR 1 a v h:=st_eq (by kernel_rfl) a v h
@[simp] theorem len_31 (x:Value) (h:Heap):builtinV Prog .len [31] [x] h = lnS x h:=lnS_eq (e:=5) (by kernel_rfl) x h
@[simp] theorem ld_32 (a:Value) (h:Heap):loadR Prog 32 a h = ld1 a h:=ld1_eq (by kernel_rfl) a h
@[simp] theorem al_38 (h:Heap):allocR Prog 38 h = newP [.slice none 0 0,.slice none 0 0] h:=al_eq (z:=.agg #[.slice none 0 0,.slice none 0 0]) (by kernel_rfl) h
@[simp] theorem st_38 (a v:Value) (h:Heap):storeR Prog 38 a v h = stR 2 a v h:=st_eq (by kernel_rfl) a v h
@[simp] theorem st_3 (a v:Value) (h:Heap):storeR Prog 3 a v h = stR 1 a v h:=st_eq (by kernel_rfl) a v h
@[simp] theorem ld_3 (a:Value) (h:Heap):loadR Prog 3 a h = ld1 a h:=ld1_eq (by kernel_rfl) a h
@[simp] theorem ld_5 (a:Value) (h:Heap):loadR Prog 5 a h = ld1 a h:=ld1_eq (by kernel_rfl) a h
@[simp] theorem cv_5_3 (x:Value) (H:Heap):convR Prog 5 3 x H = cvK .i64 x H:=ζac (by kernel_rfl) (by kernel_rfl) x H
@[simp] theorem al_57 (h:Heap):allocR Prog 57 h = newP [.int .i64 0,.int .i64 0] h:=al_eq (z:=.agg #[.int .i64 0,.int .i64 0]) (by kernel_rfl) h
@[simp] theorem st_57 (a v:Value) (h:Heap):storeR Prog 57 a v h = stR 2 a v h:=st_eq (by kernel_rfl) a v h
@[simp] theorem ld_57 (a:Value) (h:Heap):loadR Prog 57 a h = ldA 2 a h:=ldA_eq (by kernel_rfl) (by kernel_rfl) a h
@[simp] theorem ix_22 (x i:Value) (h:Heap):indexAddrR Prog 22 x i h = ixS 2 x i h:=ixS_eq (e:=57) (by kernel_rfl) (by kernel_rfl) x i h
@[simp] theorem bd_57 (ps:List (Nat × Value)) (h:Heap):buildR Prog 57 ps h = bdR [(0,1),(1,1)] ps [.int .i64 0,.int .i64 0] h:=bd_is (z:=.agg #[.int .i64 0,.int .i64 0]) (by kernel_rfl) (by kernel_rfl) (by kernel_rfl) ps h
@[simp] theorem ix_31 (x i:Value) (h:Heap):indexAddrR Prog 31 x i h = ixS 1 x i h:=ixS_eq (e:=5) (by kernel_rfl) (by kernel_rfl) x i h
@[simp] theorem st_5 (a v:Value) (h:Heap):storeR Prog 5 a v h = stR 1 a v h:=st_eq (by kernel_rfl) a v h
@[simp] theorem sl_31 (x:Value) (lo hi mx:Option Value) (h:Heap):sliceR Prog 31 x lo hi mx h = slS 1 x lo hi mx h:=slS_eq (e:=5) (by kernel_rfl) (by kernel_rfl) x lo hi mx h
@[simp] theorem ld_31 (a:Value) (h:Heap):loadR Prog 31 a h = ld1 a h:=ld1_eq (by kernel_rfl) a h
@[simp] theorem mk_23 (l c:Value) (h:Heap):makeSliceV Prog 23 l c h = mkR 1 8 [.int .i64 0] l c h:=mk_is (e:=3) (z:=.int .i64 0) (by kernel_rfl) (by kernel_rfl) (by kernel_rfl) (by kernel_rfl) (by kernel_rfl) l c h
@[simp] theorem ld_108 (a:Value) (h:Heap):loadR Prog 108 a h = ldA 7 a h:=ldA_eq (by kernel_rfl) (by kernel_rfl) a h
@[simp] theorem al_117 (h:Heap):allocR Prog 117 h = newP [.slice none 0 0,.int .i64 0,.int .i64 0,.int .i64 0,.int .i64 0,.int .i64 0,.int .i64 0,.slice none 0 0,.slice none 0 0,.slice none 0 0,.slice none 0 0,.slice none 0 0] h:=al_eq (z:=.agg #[.slice none 0 0,.int .i64 0,.int .i64 0,.int .i64 0,.int .i64 0,.int .i64 0,.int .i64 0,.slice none 0 0,.slice none 0 0,.slice none 0 0,.slice none 0 0,.slice none 0 0]) (by kernel_rfl) h
@[simp] theorem st_117 (a v:Value) (h:Heap):storeR Prog 117 a v h = stR 12 a v h:=st_eq (by kernel_rfl) a v h
@[simp] theorem eqp_111 (cs:Array Value) (h:Heap):binR Prog .eql 111 (boxV cs) (.pointer none) h = .ok (.bool false) h:=by kernel_rfl
@[simp] theorem eqn_111 (h:Heap):binR Prog .eql 111 (.pointer none) (.pointer none) h = .ok (.bool true) h:=by kernel_rfl
@[simp] theorem ld_117 (a:Value) (h:Heap):loadR Prog 117 a h = ldA 12 a h:=ldA_eq (by kernel_rfl) (by kernel_rfl) a h
@[simp] theorem be_102_0 (ps:List (Nat × Value)) (h:Heap):buildSliceR Prog 102 0 ps h = beR 4 0 ps [] h:=be_eq (e:=130) (by kernel_rfl) (by kernel_rfl) (by kernel_rfl) (by kernel_rfl) ps h
@[simp] theorem fa_104_2 (a:Value) (h:Heap):fieldAddrR Prog 104 a 2 h = faR 2 1 a h:=fa_is (ft:=102) (by kernel_rfl) (by kernel_rfl) a h
@[simp] theorem ld_102 (a:Value) (h:Heap):loadR Prog 102 a h = ld1 a h:=ld1_eq (by kernel_rfl) a h
@[simp] theorem ap_102 (a b:Value) (h:Heap):builtinV Prog .append [102,102] [a,b] h = apR 4 32 a b h:=ap_is (e:=130) (z:=.agg #[.int .i64 0,.int .i64 0,.int .i64 0,.int .i64 0]) (by kernel_rfl) (by kernel_rfl) (by kernel_rfl) (by kernel_rfl) (by kernel_rfl) a b h
@[simp] theorem st_102 (a v:Value) (h:Heap):storeR Prog 102 a v h = stR 1 a v h:=st_eq (by kernel_rfl) a v h
@[simp] theorem len_102 (x:Value) (h:Heap):builtinV Prog .len [102] [x] h = lnS x h:=lnS_eq (e:=130) (by kernel_rfl) x h
@[simp] theorem ix_102 (x i:Value) (h:Heap):indexAddrR Prog 102 x i h = ixS 4 x i h:=ixS_eq (e:=130) (by kernel_rfl) (by kernel_rfl) x i h
@[simp] theorem fa_130_1 (a:Value) (h:Heap):fieldAddrR Prog 130 a 1 h = faR 1 1 a h:=fa_is (ft:=3) (by kernel_rfl) (by kernel_rfl) a h
@[simp] theorem fa_115_5 (a:Value) (h:Heap):fieldAddrR Prog 115 a 5 h = faR 5 1 a h:=fa_is (ft:=3) (by kernel_rfl) (by kernel_rfl) a h
@[simp] theorem fa_115_4 (a:Value) (h:Heap):fieldAddrR Prog 115 a 4 h = faR 4 1 a h:=fa_is (ft:=3) (by kernel_rfl) (by kernel_rfl) a h
@[simp] theorem fa_104_1 (a:Value) (h:Heap):fieldAddrR Prog 104 a 1 h = faR 1 1 a h:=fa_is (ft:=101) (by kernel_rfl) (by kernel_rfl) a h
@[simp] theorem ld_101 (a:Value) (h:Heap):loadR Prog 101 a h = ld1 a h:=ld1_eq (by kernel_rfl) a h
@[simp] theorem len_101 (x:Value) (h:Heap):builtinV Prog .len [101] [x] h = lnS x h:=lnS_eq (e:=31) (by kernel_rfl) x h
@[simp] theorem ld_23 (a:Value) (h:Heap):loadR Prog 23 a h = ld1 a h:=ld1_eq (by kernel_rfl) a h
@[simp] theorem len_106 (x:Value) (h:Heap):builtinV Prog .len [106] [x] h = lnS x h:=lnS_eq (e:=80) (by kernel_rfl) x h
@[simp] theorem cv_80_3 (x:Value) (H:Heap):convR Prog 80 3 x H = cvK .i64 x H:=ζac (by kernel_rfl) (by kernel_rfl) x H
@[simp] theorem ix_106 (x i:Value) (h:Heap):indexAddrR Prog 106 x i h = ixS 1 x i h:=ixS_eq (e:=80) (by kernel_rfl) (by kernel_rfl) x i h
@[simp] theorem ld_80 (a:Value) (h:Heap):loadR Prog 80 a h = ld1 a h:=ld1_eq (by kernel_rfl) a h
@[simp] theorem ap_142 (a b:Value) (h:Heap):builtinV Prog .append [142,142] [a,b] h = apR 2 40 a b h:=ap_is (e:=140) (z:=.agg #[.string ⟨#[]⟩,.slice none 0 0]) (by kernel_rfl) (by kernel_rfl) (by kernel_rfl) (by kernel_rfl) (by kernel_rfl) a b h
@[simp] theorem bd_130 (ps:List (Nat × Value)) (h:Heap):buildR Prog 130 ps h = bdR [(0,1),(1,1),(2,1),(3,1)] ps [.int .i64 0,.int .i64 0,.int .i64 0,.int .i64 0] h:=bd_is (z:=.agg #[.int .i64 0,.int .i64 0,.int .i64 0,.int .i64 0]) (by kernel_rfl) (by kernel_rfl) (by kernel_rfl) ps h
@[simp] theorem fa_108_2 (a:Value) (h:Heap):fieldAddrR Prog 108 a 2 h = faR 5 1 a h:=fa_is (ft:=106) (by kernel_rfl) (by kernel_rfl) a h
@[simp] theorem ld_106 (a:Value) (h:Heap):loadR Prog 106 a h = ld1 a h:=ld1_eq (by kernel_rfl) a h
@[simp] theorem fa_108_3 (a:Value) (h:Heap):fieldAddrR Prog 108 a 3 h = faR 6 1 a h:=fa_is (ft:=106) (by kernel_rfl) (by kernel_rfl) a h
@[simp] theorem fa_57_0 (a:Value) (h:Heap):fieldAddrR Prog 57 a 0 h = faR 0 1 a h:=fa_is (ft:=3) (by kernel_rfl) (by kernel_rfl) a h
@[simp] theorem ix_23 (x i:Value) (h:Heap):indexAddrR Prog 23 x i h = ixS 1 x i h:=ixS_eq (e:=3) (by kernel_rfl) (by kernel_rfl) x i h
@[simp] theorem fa_57_1 (a:Value) (h:Heap):fieldAddrR Prog 57 a 1 h = faR 1 1 a h:=fa_is (ft:=3) (by kernel_rfl) (by kernel_rfl) a h
@[simp] theorem bd_164 (ps:List (Nat × Value)) (h:Heap):buildR Prog 164 ps h = bdR [(0,1)] ps [.slice none 0 0] h:=bd_is (z:=.agg #[.slice none 0 0]) (by kernel_rfl) (by kernel_rfl) (by kernel_rfl) ps h
@[simp] theorem fa_164_0 (a:Value) (h:Heap):fieldAddrR Prog 164 a 0 h = faR 0 1 a h:=fa_is (ft:=22) (by kernel_rfl) (by kernel_rfl) a h
@[simp] theorem ld_22 (a:Value) (h:Heap):loadR Prog 22 a h = ld1 a h:=ld1_eq (by kernel_rfl) a h
@[simp] theorem neI_57 (a0 a1 b0 b1:Int) (h:Heap):binR Prog .neq 57 (.agg #[.int .i64 a0,.int .i64 a1]) (.agg #[.int .i64 b0,.int .i64 b1]) h = .ok (.bool (!([a0,a1] == [b0,b1]))) h:=neI_is (ks:=[.i64,.i64]) (by kernel_rfl) [a0,a1] [b0,b1] rfl rfl h
@[simp] theorem st_22 (a v:Value) (h:Heap):storeR Prog 22 a v h = stR 1 a v h:=st_eq (by kernel_rfl) a v h
@[simp] theorem be_22_1 (ps:List (Nat × Value)) (h:Heap):buildSliceR Prog 22 1 ps h = beR 2 1 ps [.int .i64 0,.int .i64 0] h:=be_eq (e:=57) (by kernel_rfl) (by kernel_rfl) (by kernel_rfl) (by kernel_rfl) ps h
@[simp] theorem ap_22 (a b:Value) (h:Heap):builtinV Prog .append [22,22] [a,b] h = apR 2 16 a b h:=ap_is (e:=57) (z:=.agg #[.int .i64 0,.int .i64 0]) (by kernel_rfl) (by kernel_rfl) (by kernel_rfl) (by kernel_rfl) (by kernel_rfl) a b h
@[simp] theorem ld_38 (a:Value) (h:Heap):loadR Prog 38 a h = ldA 2 a h:=ldA_eq (by kernel_rfl) (by kernel_rfl) a h
@[simp] theorem len_36 (x:Value) (h:Heap):builtinV Prog .len [36] [x] h = lnS x h:=lnS_eq (e:=173) (by kernel_rfl) x h
@[simp] theorem ix_36 (x i:Value) (h:Heap):indexAddrR Prog 36 x i h = ixS 5 x i h:=ixS_eq (e:=173) (by kernel_rfl) (by kernel_rfl) x i h
@[simp] theorem fa_173_0 (a:Value) (h:Heap):fieldAddrR Prog 173 a 0 h = faR 0 1 a h:=fa_is (ft:=3) (by kernel_rfl) (by kernel_rfl) a h
@[simp] theorem fa_173_1 (a:Value) (h:Heap):fieldAddrR Prog 173 a 1 h = faR 1 1 a h:=fa_is (ft:=3) (by kernel_rfl) (by kernel_rfl) a h
@[simp] theorem bd_38 (ps:List (Nat × Value)) (h:Heap):buildR Prog 38 ps h = bdR [(0,1),(1,1)] ps [.slice none 0 0,.slice none 0 0] h:=bd_is (z:=.agg #[.slice none 0 0,.slice none 0 0]) (by kernel_rfl) (by kernel_rfl) (by kernel_rfl) ps h
@[simp] theorem fa_177_1 (a:Value) (h:Heap):fieldAddrR Prog 177 a 1 h = faR 1 1 a h:=fa_is (ft:=175) (by kernel_rfl) (by kernel_rfl) a h
@[simp] theorem ld_175 (a:Value) (h:Heap):loadR Prog 175 a h = ld1 a h:=ld1_eq (by kernel_rfl) a h
@[simp] theorem len_175 (x:Value) (h:Heap):builtinV Prog .len [175] [x] h = lnS x h:=lnS_eq (e:=179) (by kernel_rfl) x h
@[simp] theorem ix_175 (x i:Value) (h:Heap):indexAddrR Prog 175 x i h = ixS 3 x i h:=ixS_eq (e:=179) (by kernel_rfl) (by kernel_rfl) x i h
@[simp] theorem fa_179_0 (a:Value) (h:Heap):fieldAddrR Prog 179 a 0 h = faR 0 1 a h:=fa_is (ft:=3) (by kernel_rfl) (by kernel_rfl) a h
@[simp] theorem ld_179 (a:Value) (h:Heap):loadR Prog 179 a h = ldA 3 a h:=ldA_eq (by kernel_rfl) (by kernel_rfl) a h
@[simp] theorem be_22_0 (ps:List (Nat × Value)) (h:Heap):buildSliceR Prog 22 0 ps h = beR 2 0 ps [] h:=be_eq (e:=57) (by kernel_rfl) (by kernel_rfl) (by kernel_rfl) (by kernel_rfl) ps h
@[simp] theorem ap_31 (a b:Value) (h:Heap):builtinV Prog .append [31,31] [a,b] h = apR 1 1 a b h:=ap_is (e:=5) (z:=.int .u8 0) (by kernel_rfl) (by kernel_rfl) (by kernel_rfl) (by kernel_rfl) (by kernel_rfl) a b h
@[simp] theorem al_75 (h:Heap):allocR Prog 75 h = newP [.slice none 0 0] h:=al_eq (z:=.agg #[.slice none 0 0]) (by kernel_rfl) h
@[simp] theorem st_75 (a v:Value) (h:Heap):storeR Prog 75 a v h = stR 1 a v h:=st_eq (by kernel_rfl) a v h
@[simp] theorem ld_75 (a:Value) (h:Heap):loadR Prog 75 a h = ldA 1 a h:=ldA_eq (by kernel_rfl) (by kernel_rfl) a h
@[simp] theorem al_179 (h:Heap):allocR Prog 179 h = newP [.int .i64 0,.int .i64 0,.slice none 0 0] h:=al_eq (z:=.agg #[.int .i64 0,.int .i64 0,.slice none 0 0]) (by kernel_rfl) h
@[simp] theorem st_179 (a v:Value) (h:Heap):storeR Prog 179 a v h = stR 3 a v h:=st_eq (by kernel_rfl) a v h
@[simp] theorem fa_179_2 (a:Value) (h:Heap):fieldAddrR Prog 179 a 2 h = faR 2 1 a h:=fa_is (ft:=23) (by kernel_rfl) (by kernel_rfl) a h
@[simp] theorem be_31_0 (ps:List (Nat × Value)) (h:Heap):buildSliceR Prog 31 0 ps h = beR 1 0 ps [] h:=be_eq (e:=5) (by kernel_rfl) (by kernel_rfl) (by kernel_rfl) (by kernel_rfl) ps h
@[simp] theorem bd_75 (ps:List (Nat × Value)) (h:Heap):buildR Prog 75 ps h = bdR [(0,1)] ps [.slice none 0 0] h:=bd_is (z:=.agg #[.slice none 0 0]) (by kernel_rfl) (by kernel_rfl) (by kernel_rfl) ps h
@[simp] theorem ld_104 (a:Value) (h:Heap):loadR Prog 104 a h = ldA 4 a h:=ldA_eq (by kernel_rfl) (by kernel_rfl) a h
@[simp] theorem ld_196 (a:Value) (h:Heap):loadR Prog 196 a h = ld1 a h:=ld1_eq (by kernel_rfl) a h
@[simp] theorem ld_130 (a:Value) (h:Heap):loadR Prog 130 a h = ldA 4 a h:=ldA_eq (by kernel_rfl) (by kernel_rfl) a h
@[simp] theorem al_130 (h:Heap):allocR Prog 130 h = newP [.int .i64 0,.int .i64 0,.int .i64 0,.int .i64 0] h:=al_eq (z:=.agg #[.int .i64 0,.int .i64 0,.int .i64 0,.int .i64 0]) (by kernel_rfl) h
@[simp] theorem st_130 (a v:Value) (h:Heap):storeR Prog 130 a v h = stR 4 a v h:=st_eq (by kernel_rfl) a v h
@[simp] theorem fa_130_2 (a:Value) (h:Heap):fieldAddrR Prog 130 a 2 h = faR 2 1 a h:=fa_is (ft:=3) (by kernel_rfl) (by kernel_rfl) a h
@[simp] theorem ap_98 (a b:Value) (h:Heap):builtinV Prog .append [98,98] [a,b] h = apR 3 12 a b h:=ap_is (e:=137) (z:=.agg #[.int .i32 0,.int .i32 0,.int .i32 0]) (by kernel_rfl) (by kernel_rfl) (by kernel_rfl) (by kernel_rfl) (by kernel_rfl) a b h
@[simp] theorem ld_25 (a:Value) (h:Heap):loadR Prog 25 a h = ld1 a h:=ld1_eq (by kernel_rfl) a h
@[simp] theorem fa_108_0 (a:Value) (h:Heap):fieldAddrR Prog 108 a 0 h = faR 0 4 a h:=fa_is (ft:=104) (by kernel_rfl) (by kernel_rfl) a h
@[simp] theorem fa_104_0 (a:Value) (h:Heap):fieldAddrR Prog 104 a 0 h = faR 0 1 a h:=fa_is (ft:=31) (by kernel_rfl) (by kernel_rfl) a h
@[simp] theorem fa_108_1 (a:Value) (h:Heap):fieldAddrR Prog 108 a 1 h = faR 4 1 a h:=fa_is (ft:=105) (by kernel_rfl) (by kernel_rfl) a h
@[simp] theorem ld_105 (a:Value) (h:Heap):loadR Prog 105 a h = ld1 a h:=ld1_eq (by kernel_rfl) a h
@[simp] theorem len_105 (x:Value) (h:Heap):builtinV Prog .len [105] [x] h = lnS x h:=lnS_eq (e:=159) (by kernel_rfl) x h
@[simp] theorem bd_217 (ps:List (Nat × Value)) (h:Heap):buildR Prog 217 ps h = baR 1 ps [.int .i64 0,.int .i64 0,.int .i64 0] h:=ba_eq (n:=3) (e:=3) (z:=.agg #[.int .i64 0,.int .i64 0,.int .i64 0]) (by kernel_rfl) (by kernel_rfl) (by kernel_rfl) ps h
@[simp] theorem al_217 (h:Heap):allocR Prog 217 h = newP [.int .i64 0,.int .i64 0,.int .i64 0] h:=al_eq (z:=.agg #[.int .i64 0,.int .i64 0,.int .i64 0]) (by kernel_rfl) h
@[simp] theorem st_217 (a v:Value) (h:Heap):storeR Prog 217 a v h = stR 3 a v h:=st_eq (by kernel_rfl) a v h
@[simp] theorem ld_217 (a:Value) (h:Heap):loadR Prog 217 a h = ldA 3 a h:=ldA_eq (by kernel_rfl) (by kernel_rfl) a h
@[simp] theorem iv_217 (x i:Value) (h:Heap):indexR Prog 217 x i h = iv1 3 1 x i h:=iv1_eq (e:=3) (by kernel_rfl) (by kernel_rfl) (by kernel_rfl) x i h
@[simp] theorem cp_31_31 (d s:Value) (h:Heap):builtinV Prog .copy [31,31] [d,s] h = cpR 1 d s h:=cp_is (e:=5) (by kernel_rfl) (by kernel_rfl) d s h
@[simp] theorem ix_105 (x i:Value) (h:Heap):indexAddrR Prog 105 x i h = ixS 1 x i h:=ixS_eq (e:=159) (by kernel_rfl) (by kernel_rfl) x i h
@[simp] theorem ld_159 (a:Value) (h:Heap):loadR Prog 159 a h = ld1 a h:=ld1_eq (by kernel_rfl) a h
@[simp] theorem cv_159_3 (x:Value) (H:Heap):convR Prog 159 3 x H = cvK .i64 x H:=ζac (by kernel_rfl) (by kernel_rfl) x H
@[simp] theorem ld_111 (a:Value) (h:Heap):loadR Prog 111 a h = ld1 a h:=ld1_eq (by kernel_rfl) a h
@[simp] theorem al_111 (h:Heap):allocR Prog 111 h = newP [.pointer none] h:=al_eq (z:=.pointer none) (by kernel_rfl) h
@[simp] theorem st_111 (a v:Value) (h:Heap):storeR Prog 111 a v h = stR 1 a v h:=st_eq (by kernel_rfl) a v h
@[simp] theorem al_115 (h:Heap):allocR Prog 115 h = newP [.slice none 0 0,.int .i64 0,.int .i64 0,.int .i64 0,.int .i64 0,.int .i64 0,.int .i64 0,.slice none 0 0,.slice none 0 0] h:=al_eq (z:=.agg #[.slice none 0 0,.int .i64 0,.int .i64 0,.int .i64 0,.int .i64 0,.int .i64 0,.int .i64 0,.slice none 0 0,.slice none 0 0]) (by kernel_rfl) h
@[simp] theorem st_115 (a v:Value) (h:Heap):storeR Prog 115 a v h = stR 9 a v h:=st_eq (by kernel_rfl) a v h
@[simp] theorem ld_115 (a:Value) (h:Heap):loadR Prog 115 a h = ldA 9 a h:=ldA_eq (by kernel_rfl) (by kernel_rfl) a h
@[simp] theorem bd_117 (ps:List (Nat × Value)) (h:Heap):buildR Prog 117 ps h = bdR [(0,9),(9,1),(10,1),(11,1)] ps [.slice none 0 0,.int .i64 0,.int .i64 0,.int .i64 0,.int .i64 0,.int .i64 0,.int .i64 0,.slice none 0 0,.slice none 0 0,.slice none 0 0,.slice none 0 0,.slice none 0 0] h:=bd_is (z:=.agg #[.slice none 0 0,.int .i64 0,.int .i64 0,.int .i64 0,.int .i64 0,.int .i64 0,.int .i64 0,.slice none 0 0,.slice none 0 0,.slice none 0 0,.slice none 0 0,.slice none 0 0]) (by kernel_rfl) (by kernel_rfl) (by kernel_rfl) ps h
@[simp] theorem be_101_0 (ps:List (Nat × Value)) (h:Heap):buildSliceR Prog 101 0 ps h = beR 1 0 ps [] h:=be_eq (e:=31) (by kernel_rfl) (by kernel_rfl) (by kernel_rfl) (by kernel_rfl) ps h
@[simp] theorem be_101_1 (ps:List (Nat × Value)) (h:Heap):buildSliceR Prog 101 1 ps h = beR 1 1 ps [.slice none 0 0] h:=be_eq (e:=31) (by kernel_rfl) (by kernel_rfl) (by kernel_rfl) (by kernel_rfl) ps h
@[simp] theorem ap_101 (a b:Value) (h:Heap):builtinV Prog .append [101,101] [a,b] h = apR 1 24 a b h:=ap_is (e:=31) (z:=.slice none 0 0) (by kernel_rfl) (by kernel_rfl) (by kernel_rfl) (by kernel_rfl) (by kernel_rfl) a b h
@[simp] theorem ix_101 (x i:Value) (h:Heap):indexAddrR Prog 101 x i h = ixS 1 x i h:=ixS_eq (e:=31) (by kernel_rfl) (by kernel_rfl) x i h
@[simp] theorem fa_117_1 (a:Value) (h:Heap):fieldAddrR Prog 117 a 1 h = faR 9 1 a h:=fa_is (ft:=31) (by kernel_rfl) (by kernel_rfl) a h
@[simp] theorem st_31 (a v:Value) (h:Heap):storeR Prog 31 a v h = stR 1 a v h:=st_eq (by kernel_rfl) a v h
@[simp] theorem fa_117_2 (a:Value) (h:Heap):fieldAddrR Prog 117 a 2 h = faR 10 1 a h:=fa_is (ft:=31) (by kernel_rfl) (by kernel_rfl) a h
@[simp] theorem fa_117_3 (a:Value) (h:Heap):fieldAddrR Prog 117 a 3 h = faR 11 1 a h:=fa_is (ft:=31) (by kernel_rfl) (by kernel_rfl) a h
@[simp] theorem al_225 (h:Heap):allocR Prog 225 h = newP [.slice none 0 0] h:=al_eq (z:=.slice none 0 0) (by kernel_rfl) h
@[simp] theorem fa_227_0 (a:Value) (h:Heap):fieldAddrR Prog 227 a 0 h = faR 0 1 a h:=fa_is (ft:=196) (by kernel_rfl) (by kernel_rfl) a h
@[simp] theorem al_232 (h:Heap):allocR Prog 232 h = newP [.int .i64 0,.int .i64 0,.int .i64 0,.int .i64 0,.int .i64 0,.bool false,.int .i64 0] h:=al_eq (z:=.agg #[.int .i64 0,.int .i64 0,.int .i64 0,.int .i64 0,.int .i64 0,.bool false,.int .i64 0]) (by kernel_rfl) h
@[simp] theorem st_232 (a v:Value) (h:Heap):storeR Prog 232 a v h = stR 7 a v h:=st_eq (by kernel_rfl) a v h
@[simp] theorem bd_235 (ps:List (Nat × Value)) (h:Heap):buildR Prog 235 ps h = bdR [(0,1),(1,1)] ps [.slice none 0 0,.slice none 0 0] h:=bd_is (z:=.agg #[.slice none 0 0,.slice none 0 0]) (by kernel_rfl) (by kernel_rfl) (by kernel_rfl) ps h
@[simp] theorem al_235 (h:Heap):allocR Prog 235 h = newP [.slice none 0 0,.slice none 0 0] h:=al_eq (z:=.agg #[.slice none 0 0,.slice none 0 0]) (by kernel_rfl) h
@[simp] theorem st_235 (a v:Value) (h:Heap):storeR Prog 235 a v h = stR 2 a v h:=st_eq (by kernel_rfl) a v h
@[simp] theorem fa_232_5 (a:Value) (h:Heap):fieldAddrR Prog 232 a 5 h = faR 5 1 a h:=fa_is (ft:=4) (by kernel_rfl) (by kernel_rfl) a h
@[simp] theorem fa_117_0 (a:Value) (h:Heap):fieldAddrR Prog 117 a 0 h = faR 0 9 a h:=fa_is (ft:=115) (by kernel_rfl) (by kernel_rfl) a h
@[simp] theorem ld_232 (a:Value) (h:Heap):loadR Prog 232 a h = ldA 7 a h:=ldA_eq (by kernel_rfl) (by kernel_rfl) a h
@[simp] theorem fa_235_0 (a:Value) (h:Heap):fieldAddrR Prog 235 a 0 h = faR 0 1 a h:=fa_is (ft:=22) (by kernel_rfl) (by kernel_rfl) a h
@[simp] theorem fa_232_1 (a:Value) (h:Heap):fieldAddrR Prog 232 a 1 h = faR 1 1 a h:=fa_is (ft:=3) (by kernel_rfl) (by kernel_rfl) a h
@[simp] theorem ld_235 (a:Value) (h:Heap):loadR Prog 235 a h = ldA 2 a h:=ldA_eq (by kernel_rfl) (by kernel_rfl) a h
@[simp] theorem fa_232_6 (a:Value) (h:Heap):fieldAddrR Prog 232 a 6 h = faR 6 1 a h:=fa_is (ft:=3) (by kernel_rfl) (by kernel_rfl) a h
@[simp] theorem be_31_1 (ps:List (Nat × Value)) (h:Heap):buildSliceR Prog 31 1 ps h = beR 1 1 ps [.int .u8 0] h:=be_eq (e:=5) (by kernel_rfl) (by kernel_rfl) (by kernel_rfl) (by kernel_rfl) ps h
@[simp] theorem cv_3_5 (x:Value) (H:Heap):convR Prog 3 5 x H = cvK .u8 x H:=ζac (by kernel_rfl) (by kernel_rfl) x H
@[simp] theorem az_31_3 (a b:Value) (h:Heap):builtinV Prog .append [31,3] [a,b] h = azR 1 1 [.int .u8 0] a b h:=az_is (kt:=.i64) (e:=5) (z:=.int .u8 0) (by kernel_rfl) (by kernel_rfl) (by kernel_rfl) (by kernel_rfl) (by kernel_rfl) (by kernel_rfl) a b h
@[simp] theorem fa_177_0 (a:Value) (h:Heap):fieldAddrR Prog 177 a 0 h = faR 0 1 a h:=fa_is (ft:=3) (by kernel_rfl) (by kernel_rfl) a h
@[simp] theorem bd_263 (ps:List (Nat × Value)) (h:Heap):buildR Prog 263 ps h = bdR [(0,1),(1,1),(2,1)] ps [.slice none 0 0,.int .i64 0,.int .i64 0] h:=bd_is (z:=.agg #[.slice none 0 0,.int .i64 0,.int .i64 0]) (by kernel_rfl) (by kernel_rfl) (by kernel_rfl) ps h
@[simp] theorem al_263 (h:Heap):allocR Prog 263 h = newP [.slice none 0 0,.int .i64 0,.int .i64 0] h:=al_eq (z:=.agg #[.slice none 0 0,.int .i64 0,.int .i64 0]) (by kernel_rfl) h
@[simp] theorem st_263 (a v:Value) (h:Heap):storeR Prog 263 a v h = stR 3 a v h:=st_eq (by kernel_rfl) a v h
@[simp] theorem bd_177 (ps:List (Nat × Value)) (h:Heap):buildR Prog 177 ps h = bdR [(0,1),(1,1)] ps [.int .i64 0,.slice none 0 0] h:=bd_is (z:=.agg #[.int .i64 0,.slice none 0 0]) (by kernel_rfl) (by kernel_rfl) (by kernel_rfl) ps h
@[simp] theorem bd_179 (ps:List (Nat × Value)) (h:Heap):buildR Prog 179 ps h = bdR [(0,1),(1,1),(2,1)] ps [.int .i64 0,.int .i64 0,.slice none 0 0] h:=bd_is (z:=.agg #[.int .i64 0,.int .i64 0,.slice none 0 0]) (by kernel_rfl) (by kernel_rfl) (by kernel_rfl) ps h
@[simp] theorem be_175_1 (ps:List (Nat × Value)) (h:Heap):buildSliceR Prog 175 1 ps h = beR 3 1 ps [.int .i64 0,.int .i64 0,.slice none 0 0] h:=be_eq (e:=179) (by kernel_rfl) (by kernel_rfl) (by kernel_rfl) (by kernel_rfl) ps h
@[simp] theorem st_175 (a v:Value) (h:Heap):storeR Prog 175 a v h = stR 1 a v h:=st_eq (by kernel_rfl) a v h
@[simp] theorem ld_263 (a:Value) (h:Heap):loadR Prog 263 a h = ldA 3 a h:=ldA_eq (by kernel_rfl) (by kernel_rfl) a h
@[simp] theorem fa_179_1 (a:Value) (h:Heap):fieldAddrR Prog 179 a 1 h = faR 1 1 a h:=fa_is (ft:=3) (by kernel_rfl) (by kernel_rfl) a h
@[simp] theorem bd_173 (ps:List (Nat × Value)) (h:Heap):buildR Prog 173 ps h = bdR [(0,1),(1,1),(2,1),(3,1),(4,1)] ps [.int .i64 0,.int .i64 0,.int .i64 0,.int .i64 0,.int .i64 0] h:=bd_is (z:=.agg #[.int .i64 0,.int .i64 0,.int .i64 0,.int .i64 0,.int .i64 0]) (by kernel_rfl) (by kernel_rfl) (by kernel_rfl) ps h
@[simp] theorem be_36_1 (ps:List (Nat × Value)) (h:Heap):buildSliceR Prog 36 1 ps h = beR 5 1 ps [.int .i64 0,.int .i64 0,.int .i64 0,.int .i64 0,.int .i64 0] h:=be_eq (e:=173) (by kernel_rfl) (by kernel_rfl) (by kernel_rfl) (by kernel_rfl) ps h
@[simp] theorem be_36_0 (ps:List (Nat × Value)) (h:Heap):buildSliceR Prog 36 0 ps h = beR 5 0 ps [] h:=be_eq (e:=173) (by kernel_rfl) (by kernel_rfl) (by kernel_rfl) (by kernel_rfl) ps h
@[simp] theorem ap_36 (a b:Value) (h:Heap):builtinV Prog .append [36,36] [a,b] h = apR 5 40 a b h:=ap_is (e:=173) (z:=.agg #[.int .i64 0,.int .i64 0,.int .i64 0,.int .i64 0,.int .i64 0]) (by kernel_rfl) (by kernel_rfl) (by kernel_rfl) (by kernel_rfl) (by kernel_rfl) a b h
@[simp] theorem fa_75_0 (a:Value) (h:Heap):fieldAddrR Prog 75 a 0 h = faR 0 1 a h:=fa_is (ft:=31) (by kernel_rfl) (by kernel_rfl) a h
@[simp] theorem bd_276 (ps:List (Nat × Value)) (h:Heap):buildR Prog 276 ps h = bdR [(0,1),(1,1),(2,1),(3,1)] ps [.int .i64 0,.pointer none,.slice none 0 0,.slice none 0 0] h:=bd_is (z:=.agg #[.int .i64 0,.pointer none,.slice none 0 0,.slice none 0 0]) (by kernel_rfl) (by kernel_rfl) (by kernel_rfl) ps h
@[simp] theorem bd_278 (ps:List (Nat × Value)) (h:Heap):buildR Prog 278 ps h = bdR [(0,1),(1,1),(2,1),(3,1)] ps [.pointer none,.slice none 0 0,.slice none 0 0,.int .i64 0] h:=bd_is (z:=.agg #[.pointer none,.slice none 0 0,.slice none 0 0,.int .i64 0]) (by kernel_rfl) (by kernel_rfl) (by kernel_rfl) ps h
@[simp] theorem al_278 (h:Heap):allocR Prog 278 h = newP [.pointer none,.slice none 0 0,.slice none 0 0,.int .i64 0] h:=al_eq (z:=.agg #[.pointer none,.slice none 0 0,.slice none 0 0,.int .i64 0]) (by kernel_rfl) h
@[simp] theorem st_278 (a v:Value) (h:Heap):storeR Prog 278 a v h = stR 4 a v h:=st_eq (by kernel_rfl) a v h
@[simp] theorem fa_276_2 (a:Value) (h:Heap):fieldAddrR Prog 276 a 2 h = faR 2 1 a h:=fa_is (ft:=274) (by kernel_rfl) (by kernel_rfl) a h
@[simp] theorem ld_274 (a:Value) (h:Heap):loadR Prog 274 a h = ld1 a h:=ld1_eq (by kernel_rfl) a h
@[simp] theorem len_274 (x:Value) (h:Heap):builtinV Prog .len [274] [x] h = lnS x h:=lnS_eq (e:=23) (by kernel_rfl) x h
@[simp] theorem fa_276_3 (a:Value) (h:Heap):fieldAddrR Prog 276 a 3 h = faR 3 1 a h:=fa_is (ft:=102) (by kernel_rfl) (by kernel_rfl) a h
@[simp] theorem ld_278 (a:Value) (h:Heap):loadR Prog 278 a h = ldA 4 a h:=ldA_eq (by kernel_rfl) (by kernel_rfl) a h
@[simp] theorem bd_281 (ps:List (Nat × Value)) (h:Heap):buildR Prog 281 ps h = bdR [(0,1),(1,1),(2,1),(3,1),(4,1),(5,1)] ps [.pointer none,.pointer none,.int .i64 0,.int .i64 0,.int .i64 0,.int .i64 0] h:=bd_is (z:=.agg #[.pointer none,.pointer none,.int .i64 0,.int .i64 0,.int .i64 0,.int .i64 0]) (by kernel_rfl) (by kernel_rfl) (by kernel_rfl) ps h
@[simp] theorem fa_281_4 (a:Value) (h:Heap):fieldAddrR Prog 281 a 4 h = faR 4 1 a h:=fa_is (ft:=3) (by kernel_rfl) (by kernel_rfl) a h
@[simp] theorem fa_281_5 (a:Value) (h:Heap):fieldAddrR Prog 281 a 5 h = faR 5 1 a h:=fa_is (ft:=3) (by kernel_rfl) (by kernel_rfl) a h
@[simp] theorem be_98_0 (ps:List (Nat × Value)) (h:Heap):buildSliceR Prog 98 0 ps h = beR 3 0 ps [] h:=be_eq (e:=137) (by kernel_rfl) (by kernel_rfl) (by kernel_rfl) (by kernel_rfl) ps h
@[simp] theorem fa_104_3 (a:Value) (h:Heap):fieldAddrR Prog 104 a 3 h = faR 3 1 a h:=fa_is (ft:=5) (by kernel_rfl) (by kernel_rfl) a h
@[simp] theorem fa_130_0 (a:Value) (h:Heap):fieldAddrR Prog 130 a 0 h = faR 0 1 a h:=fa_is (ft:=3) (by kernel_rfl) (by kernel_rfl) a h
@[simp] theorem fa_130_3 (a:Value) (h:Heap):fieldAddrR Prog 130 a 3 h = faR 3 1 a h:=fa_is (ft:=3) (by kernel_rfl) (by kernel_rfl) a h
@[simp] theorem bd_227 (ps:List (Nat × Value)) (h:Heap):buildR Prog 227 ps h = bdR [(0,1),(1,1),(2,1),(3,1)] ps [.pointer none,.slice none 0 0,.slice none 0 0,.slice none 0 0] h:=bd_is (z:=.agg #[.pointer none,.slice none 0 0,.slice none 0 0,.slice none 0 0]) (by kernel_rfl) (by kernel_rfl) (by kernel_rfl) ps h
@[simp] theorem fa_227_1 (a:Value) (h:Heap):fieldAddrR Prog 227 a 1 h = faR 1 1 a h:=fa_is (ft:=75) (by kernel_rfl) (by kernel_rfl) a h
@[simp] theorem bd_115 (ps:List (Nat × Value)) (h:Heap):buildR Prog 115 ps h = bdR [(0,1),(1,1),(2,1),(3,1),(4,1),(5,1),(6,1),(7,2)] ps [.slice none 0 0,.int .i64 0,.int .i64 0,.int .i64 0,.int .i64 0,.int .i64 0,.int .i64 0,.slice none 0 0,.slice none 0 0] h:=bd_is (z:=.agg #[.slice none 0 0,.int .i64 0,.int .i64 0,.int .i64 0,.int .i64 0,.int .i64 0,.int .i64 0,.slice none 0 0,.slice none 0 0]) (by kernel_rfl) (by kernel_rfl) (by kernel_rfl) ps h
@[simp] theorem fa_115_1 (a:Value) (h:Heap):fieldAddrR Prog 115 a 1 h = faR 1 1 a h:=fa_is (ft:=3) (by kernel_rfl) (by kernel_rfl) a h
@[simp] theorem fa_115_2 (a:Value) (h:Heap):fieldAddrR Prog 115 a 2 h = faR 2 1 a h:=fa_is (ft:=3) (by kernel_rfl) (by kernel_rfl) a h
@[simp] theorem fa_115_3 (a:Value) (h:Heap):fieldAddrR Prog 115 a 3 h = faR 3 1 a h:=fa_is (ft:=3) (by kernel_rfl) (by kernel_rfl) a h
@[simp] theorem fa_115_7 (a:Value) (h:Heap):fieldAddrR Prog 115 a 7 h = faR 7 2 a h:=fa_is (ft:=38) (by kernel_rfl) (by kernel_rfl) a h
@[simp] theorem fa_115_6 (a:Value) (h:Heap):fieldAddrR Prog 115 a 6 h = faR 6 1 a h:=fa_is (ft:=3) (by kernel_rfl) (by kernel_rfl) a h
@[simp] theorem fa_115_0 (a:Value) (h:Heap):fieldAddrR Prog 115 a 0 h = faR 0 1 a h:=fa_is (ft:=31) (by kernel_rfl) (by kernel_rfl) a h
@[simp] theorem ld_225 (a:Value) (h:Heap):loadR Prog 225 a h = ld1 a h:=ld1_eq (by kernel_rfl) a h
@[simp] theorem len_225 (x:Value) (h:Heap):builtinV Prog .len [225] [x] h = lnS x h:=lnS_eq (e:=3) (by kernel_rfl) x h
@[simp] theorem ix_225 (x i:Value) (h:Heap):indexAddrR Prog 225 x i h = ixS 1 x i h:=ixS_eq (e:=3) (by kernel_rfl) (by kernel_rfl) x i h
@[simp] theorem be_225_1 (ps:List (Nat × Value)) (h:Heap):buildSliceR Prog 225 1 ps h = beR 1 1 ps [.int .i64 0] h:=be_eq (e:=3) (by kernel_rfl) (by kernel_rfl) (by kernel_rfl) (by kernel_rfl) ps h
@[simp] theorem ap_225 (a b:Value) (h:Heap):builtinV Prog .append [225,225] [a,b] h = apR 1 8 a b h:=ap_is (e:=3) (z:=.int .i64 0) (by kernel_rfl) (by kernel_rfl) (by kernel_rfl) (by kernel_rfl) (by kernel_rfl) a b h
@[simp] theorem st_225 (a v:Value) (h:Heap):storeR Prog 225 a v h = stR 1 a v h:=st_eq (by kernel_rfl) a v h
@[simp] theorem sl_225 (x:Value) (lo hi mx:Option Value) (h:Heap):sliceR Prog 225 x lo hi mx h = slS 1 x lo hi mx h:=slS_eq (e:=3) (by kernel_rfl) (by kernel_rfl) x lo hi mx h
@[simp] theorem fa_227_2 (a:Value) (h:Heap):fieldAddrR Prog 227 a 2 h = faR 2 1 a h:=fa_is (ft:=75) (by kernel_rfl) (by kernel_rfl) a h
@[simp] theorem bd_232 (ps:List (Nat × Value)) (h:Heap):buildR Prog 232 ps h = bdR [(0,1),(1,1),(2,1),(3,1),(4,1),(5,1),(6,1)] ps [.int .i64 0,.int .i64 0,.int .i64 0,.int .i64 0,.int .i64 0,.bool false,.int .i64 0] h:=bd_is (z:=.agg #[.int .i64 0,.int .i64 0,.int .i64 0,.int .i64 0,.int .i64 0,.bool false,.int .i64 0]) (by kernel_rfl) (by kernel_rfl) (by kernel_rfl) ps h
@[simp] theorem fa_232_0 (a:Value) (h:Heap):fieldAddrR Prog 232 a 0 h = faR 0 1 a h:=fa_is (ft:=3) (by kernel_rfl) (by kernel_rfl) a h
@[simp] theorem fa_235_1 (a:Value) (h:Heap):fieldAddrR Prog 235 a 1 h = faR 1 1 a h:=fa_is (ft:=23) (by kernel_rfl) (by kernel_rfl) a h
@[simp] theorem be_23_0 (ps:List (Nat × Value)) (h:Heap):buildSliceR Prog 23 0 ps h = beR 1 0 ps [] h:=be_eq (e:=3) (by kernel_rfl) (by kernel_rfl) (by kernel_rfl) (by kernel_rfl) ps h
@[simp] theorem st_23 (a v:Value) (h:Heap):storeR Prog 23 a v h = stR 1 a v h:=st_eq (by kernel_rfl) a v h
@[simp] theorem sl_23 (x:Value) (lo hi mx:Option Value) (h:Heap):sliceR Prog 23 x lo hi mx h = slS 1 x lo hi mx h:=slS_eq (e:=3) (by kernel_rfl) (by kernel_rfl) x lo hi mx h
@[simp] theorem fa_232_2 (a:Value) (h:Heap):fieldAddrR Prog 232 a 2 h = faR 2 1 a h:=fa_is (ft:=3) (by kernel_rfl) (by kernel_rfl) a h
@[simp] theorem fa_232_3 (a:Value) (h:Heap):fieldAddrR Prog 232 a 3 h = faR 3 1 a h:=fa_is (ft:=3) (by kernel_rfl) (by kernel_rfl) a h
@[simp] theorem fa_232_4 (a:Value) (h:Heap):fieldAddrR Prog 232 a 4 h = faR 4 1 a h:=fa_is (ft:=3) (by kernel_rfl) (by kernel_rfl) a h
@[simp] theorem be_142_0 (ps:List (Nat × Value)) (h:Heap):buildSliceR Prog 142 0 ps h = beR 2 0 ps [] h:=be_eq (e:=140) (by kernel_rfl) (by kernel_rfl) (by kernel_rfl) (by kernel_rfl) ps h
@[simp] theorem fa_263_2 (a:Value) (h:Heap):fieldAddrR Prog 263 a 2 h = faR 2 1 a h:=fa_is (ft:=3) (by kernel_rfl) (by kernel_rfl) a h
@[simp] theorem fa_263_0 (a:Value) (h:Heap):fieldAddrR Prog 263 a 0 h = faR 0 1 a h:=fa_is (ft:=75) (by kernel_rfl) (by kernel_rfl) a h
@[simp] theorem len_309 (x:Value) (h:Heap):builtinV Prog .len [309] [x] h = lnS x h:=lnS_eq (e:=75) (by kernel_rfl) x h
@[simp] theorem ix_309 (x i:Value) (h:Heap):indexAddrR Prog 309 x i h = ixS 1 x i h:=ixS_eq (e:=75) (by kernel_rfl) (by kernel_rfl) x i h
@[simp] theorem ap_175 (a b:Value) (h:Heap):builtinV Prog .append [175,175] [a,b] h = apR 3 40 a b h:=ap_is (e:=179) (z:=.agg #[.int .i64 0,.int .i64 0,.slice none 0 0]) (by kernel_rfl) (by kernel_rfl) (by kernel_rfl) (by kernel_rfl) (by kernel_rfl) a b h
@[simp] theorem bd_190 (ps:List (Nat × Value)) (h:Heap):buildR Prog 190 ps h = bdR [] ps [] h:=bd_is (z:=.agg #[]) (by kernel_rfl) (by kernel_rfl) (by kernel_rfl) ps h
@[simp] theorem if_190 (x:Value) (h:Heap):ifaceR Prog 190 x h = .ok (.iface 190 x) h:=by kernel_rfl
@[simp] theorem al_173 (h:Heap):allocR Prog 173 h = newP [.int .i64 0,.int .i64 0,.int .i64 0,.int .i64 0,.int .i64 0] h:=al_eq (z:=.agg #[.int .i64 0,.int .i64 0,.int .i64 0,.int .i64 0,.int .i64 0]) (by kernel_rfl) h
@[simp] theorem st_173 (a v:Value) (h:Heap):storeR Prog 173 a v h = stR 5 a v h:=st_eq (by kernel_rfl) a v h
@[simp] theorem fa_173_2 (a:Value) (h:Heap):fieldAddrR Prog 173 a 2 h = faR 2 1 a h:=fa_is (ft:=3) (by kernel_rfl) (by kernel_rfl) a h
@[simp] theorem fa_173_4 (a:Value) (h:Heap):fieldAddrR Prog 173 a 4 h = faR 4 1 a h:=fa_is (ft:=3) (by kernel_rfl) (by kernel_rfl) a h
@[simp] theorem ld_173 (a:Value) (h:Heap):loadR Prog 173 a h = ldA 5 a h:=ldA_eq (by kernel_rfl) (by kernel_rfl) a h
@[simp] theorem fa_278_0 (a:Value) (h:Heap):fieldAddrR Prog 278 a 0 h = faR 0 1 a h:=fa_is (ft:=196) (by kernel_rfl) (by kernel_rfl) a h
@[simp] theorem fa_276_0 (a:Value) (h:Heap):fieldAddrR Prog 276 a 0 h = faR 0 1 a h:=fa_is (ft:=3) (by kernel_rfl) (by kernel_rfl) a h
@[simp] theorem fa_278_1 (a:Value) (h:Heap):fieldAddrR Prog 278 a 1 h = faR 1 1 a h:=fa_is (ft:=75) (by kernel_rfl) (by kernel_rfl) a h
@[simp] theorem be_274_1 (ps:List (Nat × Value)) (h:Heap):buildSliceR Prog 274 1 ps h = beR 1 1 ps [.slice none 0 0] h:=be_eq (e:=23) (by kernel_rfl) (by kernel_rfl) (by kernel_rfl) (by kernel_rfl) ps h
@[simp] theorem ap_274 (a b:Value) (h:Heap):builtinV Prog .append [274,274] [a,b] h = apR 1 24 a b h:=ap_is (e:=23) (z:=.slice none 0 0) (by kernel_rfl) (by kernel_rfl) (by kernel_rfl) (by kernel_rfl) (by kernel_rfl) a b h
@[simp] theorem st_274 (a v:Value) (h:Heap):storeR Prog 274 a v h = stR 1 a v h:=st_eq (by kernel_rfl) a v h
@[simp] theorem fa_278_3 (a:Value) (h:Heap):fieldAddrR Prog 278 a 3 h = faR 3 1 a h:=fa_is (ft:=3) (by kernel_rfl) (by kernel_rfl) a h
@[simp] theorem fa_278_2 (a:Value) (h:Heap):fieldAddrR Prog 278 a 2 h = faR 2 1 a h:=fa_is (ft:=75) (by kernel_rfl) (by kernel_rfl) a h
@[simp] theorem be_102_1 (ps:List (Nat × Value)) (h:Heap):buildSliceR Prog 102 1 ps h = beR 4 1 ps [.int .i64 0,.int .i64 0,.int .i64 0,.int .i64 0] h:=be_eq (e:=130) (by kernel_rfl) (by kernel_rfl) (by kernel_rfl) (by kernel_rfl) ps h
@[simp] theorem fa_281_0 (a:Value) (h:Heap):fieldAddrR Prog 281 a 0 h = faR 0 1 a h:=fa_is (ft:=196) (by kernel_rfl) (by kernel_rfl) a h
@[simp] theorem fa_281_2 (a:Value) (h:Heap):fieldAddrR Prog 281 a 2 h = faR 2 1 a h:=fa_is (ft:=3) (by kernel_rfl) (by kernel_rfl) a h
@[simp] theorem fa_281_3 (a:Value) (h:Heap):fieldAddrR Prog 281 a 3 h = faR 3 1 a h:=fa_is (ft:=3) (by kernel_rfl) (by kernel_rfl) a h
@[simp] theorem ld_213 (a:Value) (h:Heap):loadR Prog 213 a h = ld1 a h:=ld1_eq (by kernel_rfl) a h
@[simp] theorem cv_21_3 (x:Value) (H:Heap):convR Prog 21 3 x H = cvK .i64 x H:=ζac (by kernel_rfl) (by kernel_rfl) x H
@[simp] theorem cv_3_159 (x:Value) (H:Heap):convR Prog 3 159 x H = cvK .u32 x H:=ζac (by kernel_rfl) (by kernel_rfl) x H
@[simp] theorem ζum (x:Value) (H:Heap):convR Prog 159 21 x H = cvK .i32 x H:=ζac (by kernel_rfl) (by kernel_rfl) x H
@[simp] theorem fa_227_3 (a:Value) (h:Heap):fieldAddrR Prog 227 a 3 h = faR 3 1 a h:=fa_is (ft:=75) (by kernel_rfl) (by kernel_rfl) a h
@[simp] theorem be_309_1 (ps:List (Nat × Value)) (h:Heap):buildSliceR Prog 309 1 ps h = beR 1 1 ps [.slice none 0 0] h:=be_eq (e:=75) (by kernel_rfl) (by kernel_rfl) (by kernel_rfl) (by kernel_rfl) ps h
@[simp] theorem ap_309 (a b:Value) (h:Heap):builtinV Prog .append [309,309] [a,b] h = apR 1 24 a b h:=ap_is (e:=75) (z:=.agg #[.slice none 0 0]) (by kernel_rfl) (by kernel_rfl) (by kernel_rfl) (by kernel_rfl) (by kernel_rfl) a b h
@[simp] theorem sl_309 (x:Value) (lo hi mx:Option Value) (h:Heap):sliceR Prog 309 x lo hi mx h = slS 1 x lo hi mx h:=slS_eq (e:=75) (by kernel_rfl) (by kernel_rfl) x lo hi mx h
@[simp] theorem fa_281_1 (a:Value) (h:Heap):fieldAddrR Prog 281 a 1 h = faR 1 1 a h:=fa_is (ft:=25) (by kernel_rfl) (by kernel_rfl) a h
@[simp] theorem ix_274 (x i:Value) (h:Heap):indexAddrR Prog 274 x i h = ixS 1 x i h:=ixS_eq (e:=23) (by kernel_rfl) (by kernel_rfl) x i h
@[simp] theorem fa_38_1 (a:Value) (h:Heap):fieldAddrR Prog 38 a 1 h = faR 1 1 a h:=fa_is (ft:=36) (by kernel_rfl) (by kernel_rfl) a h
@[simp] theorem ld_36 (a:Value) (h:Heap):loadR Prog 36 a h = ld1 a h:=ld1_eq (by kernel_rfl) a h
@[simp] theorem fa_38_0 (a:Value) (h:Heap):fieldAddrR Prog 38 a 0 h = faR 0 1 a h:=fa_is (ft:=31) (by kernel_rfl) (by kernel_rfl) a h
@[simp] theorem fa_173_3 (a:Value) (h:Heap):fieldAddrR Prog 173 a 3 h = faR 3 1 a h:=fa_is (ft:=3) (by kernel_rfl) (by kernel_rfl) a h
@[simp] theorem fa_276_1 (a:Value) (h:Heap):fieldAddrR Prog 276 a 1 h = faR 1 1 a h:=fa_is (ft:=32) (by kernel_rfl) (by kernel_rfl) a h
end
end Go.Sw
