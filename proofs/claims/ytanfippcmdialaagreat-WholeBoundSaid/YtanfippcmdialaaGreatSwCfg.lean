/-
  The seat's functions by their names, and facts of their types.
-/
import Derived.Test.YtanfippcmdialaaGreatSwLib7
import Derived.Test.YtanfippcmdialaaGreatSwLib11
import Derived.Test.YtanfippcmdialaaGreatRows
namespace Go.Sw
noncomputable section
noncomputable abbrev Prog:Program:=Go.Proofs.Tryz.prog
namespace F
abbrev ζ4:Nat:=9
abbrev ζ4k:Nat:=15
abbrev line_New:Nat:=17
abbrev ζ1h:Nat:=18
abbrev ζ1w:Nat:=25
abbrev ζx:Nat:=30
abbrev ζ57:Nat:=33
abbrev ζm:Nat:=34
abbrev ζ31:Nat:=36
abbrev ζ59:Nat:=40
abbrev ζ1e:Nat:=41
abbrev ζt:Nat:=44
abbrev view_Try:Nat:=47
abbrev ζ3d:Nat:=49
abbrev view_Of:Nat:=50
abbrev ζ2d:Nat:=51
abbrev ζ2:Nat:=52
abbrev ζ3:Nat:=53
abbrev ζ28:Nat:=54
abbrev ζ84:Nat:=56
abbrev ζ3o:Nat:=61
abbrev ζ1u:Nat:=62
abbrev ζ73:Nat:=63
abbrev ζ3w:Nat:=64
abbrev ζ4c:Nat:=65
abbrev ζ3l:Nat:=67
abbrev ζc:Nat:=78
abbrev ζh:Nat:=79
abbrev ζ32:Nat:=81
abbrev ζ21:Nat:=83
abbrev ζ0:Nat:=84
abbrev ζ9:Nat:=88
abbrev ζ2i:Nat:=89
abbrev ζf:Nat:=90
abbrev ζ22:Nat:=94
abbrev ζ26:Nat:=96
abbrev ζ1:Nat:=97
abbrev ζ8:Nat:=99
abbrev ζb:Nat:=100
abbrev ζ1n:Nat:=101
abbrev ζy:Nat:=102
abbrev ζ4b:Nat:=103
abbrev ζ2h:Nat:=104
abbrev ζg:Nat:=105
abbrev ζ1x:Nat:=106
abbrev ζ11:Nat:=107
abbrev ζ1q:Nat:=109
abbrev ζ1k:Nat:=110
abbrev ζ13:Nat:=112
abbrev ζ1g:Nat:=118
abbrev ζ1v:Nat:=119
abbrev ζl:Nat:=120
abbrev ζ3g:Nat:=122
abbrev ζz:Nat:=123
abbrev ζ2f:Nat:=125
abbrev ζ15:Nat:=126
abbrev ζ16:Nat:=127
abbrev ζi:Nat:=128
abbrev ζn:Nat:=129
abbrev ζ6e:Nat:=130
abbrev ζio:Nat:=131
abbrev ζw:Nat:=132
abbrev ζa:Nat:=133
abbrev ζ1f:Nat:=134
abbrev ζs:Nat:=135
abbrev ζ2b:Nat:=137
abbrev ζ5:Nat:=138
abbrev ζp:Nat:=139
abbrev ζ10:Nat:=140
abbrev ζ3h:Nat:=141
abbrev ζ33:Nat:=142
abbrev ζ1a:Nat:=146
abbrev ζ14:Nat:=147
abbrev cover_Is:Nat:=148
abbrev ζ6:Nat:=149
abbrev ζ7:Nat:=150
abbrev ζ9w:Nat:=151
abbrev ζ9x:Nat:=152
abbrev ζu:Nat:=153
abbrev ζ1t:Nat:=154
abbrev ζ1y:Nat:=155
abbrev ζ3z:Nat:=156
abbrev ζ17:Nat:=157
abbrev ζ1z:Nat:=158
abbrev ζ3j:Nat:=159
abbrev ζ5b:Nat:=160
abbrev ζ3a:Nat:=189
end F
def kp2:List (Nat × List Nat):=[(0,[])]
def kp3:List (Nat × List Nat):=[]
def kp4:List (Nat × List Nat):=[]
def kp5:List (Nat × List Nat):=[]
def kp6:List (Nat × List Nat):=[]
def kp7:List (Nat × List Nat):=[]
def kp8:List (Nat × List Nat):=[]
def kp9:List (Nat × List Nat):=[(0,[2,3,4]),(1,[2,3,4,7]),(2,[2,3,4,8]),(3,[2,3,4,9,10]),(4,[2,3,4,9,10,11,12]),(5,[2,3,4,9,11,67]),(6,[6]),(7,[2,3,4,9,11,70]),(8,[6]),(9,[2,3,4,9,11,13]),(10,[2,3,4,9,11,13,71,72,73]),(11,[2,3,4,9,11,13,71,72,73,74]),(12,[2,3,4,9,11,13,15,71,72,73]),(13,[2,3,4,9,11,13,15,16,71,72,73]),(14,[2,3,4,9,11,13,16,71,72,73,77]),(15,[2,3,4,9,11,13,16,71,72,73]),(16,[2,3,4,9,11,13,71,72,73]),(17,[2,3,4,9,11,13,71,72,73]),(18,[2,3,4,9,11,13,17]),(19,[2,3,4,13,17,18]),(20,[2,3,4,13,17,95]),(21,[6]),(22,[2,3,4,13,17,19]),(23,[2,3,4,13,17,19,97,98,99]),(24,[2,3,4,13,17,19,97,98,99,100]),(25,[2,3,4,13,17,19,20,21,97,98,99]),(26,[2,3,4,13,17,19,20,21,22,97,98,99]),(27,[2,3,4,13,17,19,20,21,22,97,98,99,110]),(28,[2,3,4,13,17,19,20,21,22,97,98,99]),(29,[2,3,4,13,17,19,20,97,98,99,129]),(30,[6]),(31,[2,3,4,13,17,19,97,98,99]),(32,[2,3,4,13,17,19,97,98,99]),(33,[6]),(1000011,[2,3,4,9,11,13,71,72,73]),(1000024,[2,3,4,13,17,19,97,98,99])]
def kp10:List (Nat × List Nat):=[(0,[]),(1,[1]),(2,[2,3]),(3,[2,3,4]),(4,[2,4,34]),(5,[0]),(6,[4,5]),(7,[0])]
def kp11:List (Nat × List Nat):=[]
def kp12:List (Nat × List Nat):=[]
def kp13:List (Nat × List Nat):=[]
def kp14:List (Nat × List Nat):=[]
def kp15:List (Nat × List Nat):=[(0,[0,1]),(1,[1,5]),(2,[5,12,13,14]),(3,[5,12,13,14,15]),(4,[5,7,12,13,14]),(5,[5,12,13,14]),(6,[5,12,13,14]),(7,[4]),(1000003,[5,12,13,14])]
def kp16:List (Nat × List Nat):=[]
def kp17:List (Nat × List Nat):=[(0,[0]),(1,[0,3]),(2,[3,8,9,10]),(3,[3,8,9,10,11]),(4,[3,4,5,8,9,10]),(5,[3,8,9,10]),(6,[3,8,9,10]),(7,[2]),(1000003,[3,8,9,10])]
def kp18:List (Nat × List Nat):=[(0,[2,3,8]),(1,[])]
def kp19:List (Nat × List Nat):=[]
def kp20:List (Nat × List Nat):=[]
def kp21:List (Nat × List Nat):=[]
def kp22:List (Nat × List Nat):=[]
def kp23:List (Nat × List Nat):=[]
def kp24:List (Nat × List Nat):=[]
def kp25:List (Nat × List Nat):=[(0,[0]),(1,[2])]
def kp26:List (Nat × List Nat):=[]
def kp27:List (Nat × List Nat):=[]
def kp28:List (Nat × List Nat):=[(0,[]),(1,[1]),(2,[2,3]),(3,[2,3,4]),(4,[2,4,34]),(5,[0]),(6,[4,5]),(7,[0])]
def kp29:List (Nat × List Nat):=[]
def kp30:List (Nat × List Nat):=[(0,[1]),(1,[1,3]),(2,[1,3]),(3,[3,22,23,24]),(4,[3,22,23,24,25]),(5,[3,5,22,23,24]),(6,[3,22,23,24]),(7,[3,22,23,24]),(8,[2]),(1000004,[3,22,23,24])]
def kp31:List (Nat × List Nat):=[]
def kp32:List (Nat × List Nat):=[]
def kp33:List (Nat × List Nat):=[(0,[0,3,4]),(1,[0,3,4,12]),(2,[4,5]),(3,[3,4,6]),(4,[4,19]),(5,[4,5]),(6,[4,5])]
def kp34:List (Nat × List Nat):=[(0,[0]),(1,[0,3]),(2,[0,3,4]),(3,[0,3,4,5]),(4,[3,4,5,18,19,20]),(5,[3,4,5,18,19,20,21]),(6,[3,4,5,7,18,19,20]),(7,[3,4,5,7,18,19,20]),(8,[3,4,5,7,18,19,20]),(9,[3,4,5,18,19,20,32,33,34]),(10,[3,4,5,18,19,20,32,33,34,35]),(11,[3,4,5,9,18,19,20,32,33,34]),(12,[3,4,5,18,19,20,32,33,34]),(13,[3,4,5,18,19,20,32,33,34]),(14,[3,4,5,18,19,20]),(15,[2]),(1000005,[3,4,5,18,19,20]),(1000010,[3,4,5,18,19,20,32,33,34])]
def kp35:List (Nat × List Nat):=[]
def kp36:List (Nat × List Nat):=[(0,[4,5,6,7]),(1,[4,5,6,7,9]),(2,[11]),(3,[8])]
def kp37:List (Nat × List Nat):=[]
def kp38:List (Nat × List Nat):=[(0,[]),(1,[1,2]),(2,[1,2,3]),(3,[1,3,31]),(4,[0]),(5,[3,4]),(6,[0])]
def kp39:List (Nat × List Nat):=[]
def kp40:List (Nat × List Nat):=[(0,[0,3,4]),(1,[0,3,4,12]),(2,[4,5]),(3,[3,4,6]),(4,[4,19]),(5,[4,5]),(6,[4,5])]
def kp41:List (Nat × List Nat):=[(0,[0]),(1,[0,3]),(2,[3,11,12,13]),(3,[3,11,12,13,14]),(4,[3,5,11,12,13]),(5,[3,5,11,12,13]),(6,[3,11,12,13]),(7,[3,11,12,13]),(8,[2]),(1000003,[3,11,12,13])]
def kp42:List (Nat × List Nat):=[]
def kp43:List (Nat × List Nat):=[]
def kp44:List (Nat × List Nat):=[(0,[0,1,2,3,4,10]),(1,[1,2,3,4,10,17,18,19]),(2,[1,2,3,4,10,17,18,19,20]),(3,[1,2,3,4,10,11,12,17,18,19]),(4,[1,2,3,4,10,11,12,17,18,19,28]),(5,[1,2,3,4,10,11,13,17,18,19]),(6,[1,2,3,4,10,11,13,17,18,19,36]),(7,[10]),(8,[1,2,3,4,10,17,18,19]),(9,[10]),(1000002,[1,2,3,4,10,17,18,19])]
def kp45:List (Nat × List Nat):=[]
def kp46:List (Nat × List Nat):=[]
def kp47:List (Nat × List Nat):=[(0,[0,2]),(1,[0,2]),(2,[2]),(3,[2])]
def kp48:List (Nat × List Nat):=[]
def kp49:List (Nat × List Nat):=[(0,[1,2]),(1,[1,2,5,6]),(2,[1,2,6]),(3,[1,2,6,7]),(4,[1,2,6,7,8]),(5,[1,2,7,8,25,26]),(6,[1,2,7,8,25,26,27]),(7,[1,2,7,8,9,25,26]),(8,[1,2,7,8,9,25,26]),(9,[1,2,7,8,9,10,25,26]),(10,[1,2,7,8,9,10,11,25,26]),(11,[1,2,7,8,9,25,26]),(12,[1,2,7,8,25,26]),(13,[1,2,7,8,25,26]),(14,[4]),(1000006,[1,2,7,8,25,26])]
def kp50:List (Nat × List Nat):=[(0,[0,2]),(1,[2])]
def kp51:List (Nat × List Nat):=[(0,[0]),(1,[2])]
def kp52:List (Nat × List Nat):=[(0,[1,2,3]),(1,[1,2,3,7]),(2,[1,2,3,7,8]),(3,[1,2,3,7,8,9]),(4,[1,2,3,7,8,9,35,36,37]),(5,[1,2,3,7,8,9,35,36,37,38]),(6,[1,2,3,7,8,9,11,35,36,37]),(7,[1,2,3,7,8,9,35,36,37]),(8,[1,2,3,7,8,9,35,36,37]),(9,[1,2,3,7,8,9,12,13]),(10,[1,2,3,7,8,9,12,13,47,48,49]),(11,[1,2,3,7,8,9,12,13,47,48,49,50]),(12,[1,2,3,7,8,9,12,13,15,47,48,49]),(13,[1,2,3,7,8,9,12,13,15,47,48,49,53,54]),(14,[1,2,3,7,8,9,12,13,15,47,48,49,53,54,55]),(15,[1,2,3,7,8,9,12,13,15,16,47,48,49,53,54]),(16,[1,2,3,7,8,9,12,13,15,16,17,47,48,49,53,54]),(17,[1,2,3,7,8,9,12,13,15,16,17,47,48,49,53,54,60]),(18,[1,2,3,7,8,9,12,13,15,17,47,48,49,53,54]),(19,[1,2,3,7,8,9,12,13,15,47,48,49,53,54]),(20,[1,2,3,7,8,9,12,13,15,47,48,49,53,54]),(21,[1,2,3,7,8,9,12,13,47,48,49]),(22,[1,2,7,8,9,12,13,72,73,74]),(23,[1,2,7,8,9,12,13,72,73,74,75]),(24,[1,2,7,8,9,12,13,19,72,73,74]),(25,[1,2,7,8,9,12,13,19,72,73,74]),(26,[1,2,7,8,9,12,13,19,72,73,74,88]),(27,[1,2,7,8,9,12,13,19,72,73,74]),(28,[1,2,7,8,9,12,13,19,72,73,74,95]),(29,[1,2,7,8,9,12,13,72,73,74]),(30,[1,2,7,8,9,12,13,72,73,74]),(31,[2,8,9,12,13,20]),(32,[2,9,12,13,20]),(33,[9,12,13,20]),(34,[6]),(1000005,[1,2,3,7,8,9,35,36,37]),(1000011,[1,2,3,7,8,9,12,13,47,48,49]),(1000014,[1,2,3,7,8,9,12,13,15,47,48,49,53,54]),(1000023,[1,2,7,8,9,12,13,72,73,74])]
def kp53:List (Nat × List Nat):=[(0,[0,1,2]),(1,[0,1,7]),(2,[0,1,7,13]),(3,[0,1,7]),(4,[0,1,7,8]),(5,[0,1,7,8,9]),(6,[0,1,7,8,9,19]),(7,[0,1,7,8,9]),(8,[0,1,7,8,9]),(9,[0,1,7]),(10,[6]),(1000002,[0,1,7]),(1000006,[0,1,7,8,9])]
def kp54:List (Nat × List Nat):=[(0,[1]),(1,[2])]
def kp55:List (Nat × List Nat):=[]
def kp56:List (Nat × List Nat):=[(0,[1,2]),(1,[5]),(2,[5,22,23,24]),(3,[5,22,23,24,25]),(4,[5,7,22,23,24]),(5,[5,7,8,22,23,24]),(6,[5,7,8,22,23,24,43]),(7,[5,7,8,22,23,24]),(8,[5,22,23,24]),(9,[4]),(1000003,[5,22,23,24]),(1000006,[5,7,8,22,23,24])]
def kp57:List (Nat × List Nat):=[]
def kp58:List (Nat × List Nat):=[]
def kp59:List (Nat × List Nat):=[]
def kp60:List (Nat × List Nat):=[]
def kp61:List (Nat × List Nat):=[(0,[0]),(1,[2])]
def kp62:List (Nat × List Nat):=[(0,[0,1]),(1,[0,1,15]),(2,[4]),(3,[4])]
def kp63:List (Nat × List Nat):=[(0,[0,1]),(1,[4])]
def kp64:List (Nat × List Nat):=[(0,[0,1,2]),(1,[1,2,8]),(2,[2,8,9]),(3,[2,8,9,23]),(4,[2,8,9,26]),(5,[6,7]),(6,[2,8,9,35]),(7,[6,7]),(1000003,[2,8,9])]
def kp65:List (Nat × List Nat):=[(0,[1]),(1,[2])]
def kp66:List (Nat × List Nat):=[]
def kp67:List (Nat × List Nat):=[(0,[0]),(1,[2])]
def kp68:List (Nat × List Nat):=[]
def kp69:List (Nat × List Nat):=[]
def kp70:List (Nat × List Nat):=[]
def kp71:List (Nat × List Nat):=[]
def kp72:List (Nat × List Nat):=[]
def kp73:List (Nat × List Nat):=[]
def kp74:List (Nat × List Nat):=[]
def kp75:List (Nat × List Nat):=[]
def kp76:List (Nat × List Nat):=[]
def kp77:List (Nat × List Nat):=[]
def kp78:List (Nat × List Nat):=[(0,[0]),(1,[0,4]),(2,[2]),(3,[2])]
def kp79:List (Nat × List Nat):=[(0,[0]),(1,[0,4]),(2,[2]),(3,[2])]
def kp80:List (Nat × List Nat):=[]
def kp81:List (Nat × List Nat):=[(0,[1,2]),(1,[2,5]),(2,[2,5,6]),(3,[2,5,6]),(4,[2,5,6,33]),(5,[4]),(6,[5]),(7,[5,7]),(8,[5,7,51,52,53]),(9,[5,7,51,52,53,54]),(10,[5,7,9,51,52,53]),(11,[5,7,9,51,52,53,59]),(12,[5,7,51,52,53]),(13,[5,7,51,52,53]),(14,[4]),(1000009,[5,7,51,52,53])]
def kp82:List (Nat × List Nat):=[]
def kp83:List (Nat × List Nat):=[(0,[])]
def kp84:List (Nat × List Nat):=[(0,[1,2,4]),(1,[1,2,4]),(2,[4,5]),(3,[4,5,6]),(4,[4,5,6,32]),(5,[5,6,8]),(6,[5,6,8,10]),(7,[5,6,8,41]),(8,[5,8]),(9,[]),(10,[4]),(1000006,[4,5,6])]
def kp85:List (Nat × List Nat):=[]
def kp86:List (Nat × List Nat):=[]
def kp87:List (Nat × List Nat):=[]
def kp88:List (Nat × List Nat):=[(0,[0,2,3,4,5,6,8]),(1,[0,2,3,4,5,6,8,9,10]),(2,[0,3,4,5,6,8,9,10,11,12]),(3,[0,3,4,5,6,8,9,10,11,36]),(4,[0,3,6,8,10,13,14,15]),(5,[0,3,6,8,10,13,14,48]),(6,[0,3,8,10]),(7,[0,3,68]),(8,[])]
def kp89:List (Nat × List Nat):=[(0,[0,1,4]),(1,[0,1,4,9]),(2,[4,5]),(3,[4,5])]
def kp90:List (Nat × List Nat):=[(0,[0,1,4,7,8,10,11,12]),(1,[0,1,4,7,8,10,11,12,13]),(2,[1,4,7,8,10,11,12,13,21]),(3,[1,4,7,8,10,11,12,13,21,22]),(4,[1,4,8,10,11,12,13]),(5,[1,4,8,10,11,12,13,35]),(6,[10,11,12]),(7,[1,10,11,12,13,48]),(8,[1,10,11,13]),(9,[10,11,12]),(10,[10,11,12])]
def kp91:List (Nat × List Nat):=[]
def kp92:List (Nat × List Nat):=[]
def kp93:List (Nat × List Nat):=[]
def kp94:List (Nat × List Nat):=[(0,[])]
def kp95:List (Nat × List Nat):=[]
def kp96:List (Nat × List Nat):=[(0,[1,2]),(1,[4])]
def kp97:List (Nat × List Nat):=[(0,[1,2,3,4,5]),(1,[1,2,4,5,14]),(2,[1,2,4,5]),(3,[1,2,4,5]),(4,[1,2,4,5]),(5,[1,2,4,5]),(6,[10])]
def kp98:List (Nat × List Nat):=[(0,[0,4]),(1,[3]),(2,[]),(3,[0,4,6]),(4,[]),(5,[0,4,8,9]),(6,[0]),(7,[])]
def kp99:List (Nat × List Nat):=[(0,[1,2]),(1,[5]),(2,[4])]
def kp100:List (Nat × List Nat):=[(0,[1,2]),(1,[5]),(2,[4])]
def kp101:List (Nat × List Nat):=[(0,[3]),(1,[])]
def kp102:List (Nat × List Nat):=[(0,[1,2,3,6]),(1,[6])]
def kp103:List (Nat × List Nat):=[(0,[0,2]),(1,[2])]
def kp104:List (Nat × List Nat):=[(0,[2,3,4]),(1,[2,3,4,7]),(2,[6]),(3,[2,3,4,12]),(4,[6]),(5,[2,3,4,37]),(6,[6]),(7,[2,4,47]),(8,[6]),(9,[6])]
def kp105:List (Nat × List Nat):=[(0,[1,2,4]),(1,[4])]
def kp106:List (Nat × List Nat):=[(0,[1,2,3]),(1,[1,2,3,7]),(2,[1,2,3,7]),(3,[2,3,8]),(4,[8,9]),(5,[8,9,10,11]),(6,[8,9,10,11,56]),(7,[8,9,10,11,63]),(8,[8,9,10,11]),(9,[8,9,10,11,74]),(10,[8,9,10,11]),(11,[6]),(1000006,[8,9,10,11]),(1000007,[8,9,10,11]),(1000009,[8,9,10,11])]
def kp107:List (Nat × List Nat):=[(0,[0]),(1,[2])]
def kp108:List (Nat × List Nat):=[]
def kp109:List (Nat × List Nat):=[(0,[0,1]),(1,[0,1,5,6]),(2,[0,1,6,7]),(3,[0,1,6,7]),(4,[0,1,6,7]),(5,[0,6,7,9,10]),(6,[0,6,9,10,54]),(7,[0]),(8,[]),(9,[4]),(10,[6]),(11,[4])]
def kp110:List (Nat × List Nat):=[(0,[0,2,4]),(1,[0]),(2,[5,6])]
def kp111:List (Nat × List Nat):=[]
def kp112:List (Nat × List Nat):=[(0,[1,2]),(1,[4])]
def kp113:List (Nat × List Nat):=[]
def kp114:List (Nat × List Nat):=[]
def kp115:List (Nat × List Nat):=[]
def kp116:List (Nat × List Nat):=[]
def kp117:List (Nat × List Nat):=[]
def kp118:List (Nat × List Nat):=[(0,[1,2,3]),(1,[1,2,3,7]),(2,[1,2,3,7,8]),(3,[1,2,3,7,8,22]),(4,[8]),(5,[1,2,3,7,8,22,24]),(6,[8]),(7,[2,3,7,8,22,37]),(8,[8]),(9,[2,3,7,8,22,44]),(10,[8]),(11,[2,3,7,8,22,51]),(12,[8]),(13,[2,3,7,8,22,58]),(14,[8]),(15,[3,7,8,66]),(16,[7,8,9]),(17,[7,8,9]),(18,[8]),(19,[8,10]),(20,[8,10,93]),(21,[8,10]),(22,[8,10]),(23,[6]),(1000020,[8,10])]
def kp119:List (Nat × List Nat):=[(0,[1]),(1,[2])]
def kp120:List (Nat × List Nat):=[(0,[1,2,3,4,8]),(1,[1,2,3,4,8]),(2,[8])]
def kp121:List (Nat × List Nat):=[]
def kp122:List (Nat × List Nat):=[(0,[0,1]),(1,[4])]
def kp123:List (Nat × List Nat):=[(0,[0,1,2,6]),(1,[0,1,2,6,18]),(2,[6,7]),(3,[0,2,6,8]),(4,[6,7])]
def kp124:List (Nat × List Nat):=[]
def kp125:List (Nat × List Nat):=[(0,[1,2]),(1,[4])]
def kp126:List (Nat × List Nat):=[(0,[1,2]),(1,[4])]
def kp127:List (Nat × List Nat):=[(0,[])]
def kp128:List (Nat × List Nat):=[(0,[])]
def kp129:List (Nat × List Nat):=[(0,[1,2,3]),(1,[1,2,3]),(2,[6])]
def kp130:List (Nat × List Nat):=[(0,[])]
def kp131:List (Nat × List Nat):=[(0,[0,2,4]),(1,[2,4,7]),(2,[2,4,7,8]),(3,[6]),(4,[2,4,7,12]),(5,[6]),(6,[2,4,17]),(7,[2,4,22]),(8,[6]),(9,[6]),(10,[]),(11,[6])]
def kp132:List (Nat × List Nat):=[(0,[1]),(1,[1,3]),(2,[1,3,4]),(3,[1,4,5]),(4,[1,4,5,6]),(5,[1,4,5,6,29,30]),(6,[1,4,5,6,29,30,31]),(7,[1,4,5,6,7,29,30]),(8,[1,4,5,6,7,29,30]),(9,[1,4,5,6,29,30]),(10,[1,4,5,6,29,30]),(11,[6]),(12,[2]),(1000006,[1,4,5,6,29,30])]
def kp133:List (Nat × List Nat):=[(0,[1]),(1,[1,3]),(2,[1,4]),(3,[1,4,5]),(4,[1,4,5,29]),(5,[1,4,5]),(6,[1,4,5,35]),(7,[1,5]),(8,[5]),(9,[2])]
def kp134:List (Nat × List Nat):=[(0,[0]),(1,[0,4,5]),(2,[0,4,19]),(3,[2,3]),(4,[2,3])]
def kp135:List (Nat × List Nat):=[(0,[0,1,2,6]),(1,[0,1,2,6,30]),(2,[6,7]),(3,[6,7])]
def kp136:List (Nat × List Nat):=[]
def kp137:List (Nat × List Nat):=[(0,[1,2,3,4]),(1,[2,3,9]),(2,[3,9,10]),(3,[3,9,10,20,21]),(4,[3,9,10,20,21,22]),(5,[3,9,10,11,20,21]),(6,[3,9,10,20,21]),(7,[3,9,10,20,21]),(8,[8]),(1000004,[3,9,10,20,21])]
def kp138:List (Nat × List Nat):=[(0,[1,2]),(1,[1,2,5]),(2,[1,2,5,13]),(3,[1,2,5]),(4,[1,2,5,6]),(5,[1,2,6,17,18,19]),(6,[1,2,6,17,18,19,20]),(7,[1,2,6,8,17,18,19]),(8,[1,2,6,8,9,17,18,19]),(9,[1,2,6,8,9,17,18,19]),(10,[1,2,6,8,9,17,18,19,34]),(11,[1,2,6,9,17,18,19]),(12,[1,2,6,9,17,18,19]),(13,[1,2,6,17,18,19]),(14,[1,2,6,17,18,19]),(15,[4]),(1000006,[1,2,6,17,18,19])]
def kp139:List (Nat × List Nat):=[(0,[1]),(1,[1,3]),(2,[1,3,12,13,14]),(3,[1,3,12,13,14,15]),(4,[1,3,5,12,13,14]),(5,[1,3,5,6,12,13,14]),(6,[1,3,12,13,14]),(7,[1,3,12,13,14]),(8,[2]),(1000003,[1,3,12,13,14])]
def kp140:List (Nat × List Nat):=[(0,[1,2,3]),(1,[1,2,3,7,8]),(2,[1,2,3,7,8]),(3,[7,8,9]),(4,[7,8,9,32]),(5,[6]),(6,[6])]
def kp141:List (Nat × List Nat):=[(0,[0,9,10,11]),(1,[0,9,10,11,12]),(2,[0,4,9,10,11]),(3,[0,4,5,9,10,11]),(4,[0,4,5,9,10,11,20]),(5,[0,4,5,9,10,11]),(6,[0,4,5,9,10,11,29]),(7,[0,9,10,11]),(1000001,[0,9,10,11]),(1000004,[0,4,5,9,10,11])]
def kp142:List (Nat × List Nat):=[(0,[1,2]),(1,[4])]
def kp143:List (Nat × List Nat):=[]
def kp144:List (Nat × List Nat):=[]
def kp145:List (Nat × List Nat):=[]
def kp146:List (Nat × List Nat):=[(0,[0,1]),(1,[0,1,11]),(2,[4]),(3,[0,5,6]),(4,[0,5,22]),(5,[4]),(6,[4])]
def kp147:List (Nat × List Nat):=[(0,[2,3]),(1,[2,3,6]),(2,[2,3,6,32]),(3,[4,5]),(4,[4,5])]
def kp148:List (Nat × List Nat):=[(0,[0]),(1,[2])]
def kp149:List (Nat × List Nat):=[(0,[0,2,3]),(1,[0,2,3,9]),(2,[0,2,3]),(3,[0,2,3]),(1000001,[0,2,3])]
def kp150:List (Nat × List Nat):=[(0,[0,2,3]),(1,[0,2,3,9]),(2,[0,2,3]),(3,[0,2,3]),(1000001,[0,2,3])]
def kp151:List (Nat × List Nat):=[(0,[1]),(1,[1,3]),(2,[1,3]),(3,[3,4]),(4,[4,15,16]),(5,[4,15,16,17]),(6,[4,5,15,16]),(7,[4,5,15,16]),(8,[4,15,16]),(9,[4,15,16]),(10,[2]),(1000005,[4,15,16])]
def kp152:List (Nat × List Nat):=[(0,[1,2,3,4,5]),(1,[1,2,3,4,5,11]),(2,[1,2,3,4,5,11]),(3,[1,3,4,5,11]),(4,[3,4,11]),(5,[3,4,11,12]),(6,[11]),(7,[10])]
def kp153:List (Nat × List Nat):=[(0,[0,1]),(1,[0,1,8]),(2,[4]),(3,[0,5,6]),(4,[5,26]),(5,[4]),(6,[4])]
def kp154:List (Nat × List Nat):=[(0,[1,2,3]),(1,[1,3,7]),(2,[1,3,7,8]),(3,[6]),(4,[1,3,13]),(5,[6]),(6,[6])]
def kp155:List (Nat × List Nat):=[(0,[1,2,3,4]),(1,[1,2,3,4,9,10]),(2,[1,2,3,4,9,10]),(3,[1,3,4,9,10]),(4,[3,9,10,11]),(5,[3,9,10,11,12]),(6,[3,9,10,11,12,34,35]),(7,[3,9,10,11,12,34,35,36]),(8,[3,9,10,11,12,13,34,35]),(9,[3,9,10,11,12,34,35]),(10,[3,9,10,11,12,34,35]),(11,[10,12,58]),(12,[8]),(13,[8]),(1000007,[3,9,10,11,12,34,35])]
def kp156:List (Nat × List Nat):=[(0,[0,1]),(1,[1,5,6]),(2,[1,5,6,11]),(3,[1,5,6,7]),(4,[1,5,6,7,20]),(5,[1,5,6]),(6,[1,5,6]),(7,[4]),(1000002,[1,5,6])]
def kp157:List (Nat × List Nat):=[(0,[0,1,2]),(1,[4])]
def kp158:List (Nat × List Nat):=[(0,[0]),(1,[0,3]),(2,[3,11,12,13]),(3,[3,11,12,13,14]),(4,[3,5,11,12,13]),(5,[3,11,12,13,18,19,20]),(6,[3,11,12,13,18,19,20,21]),(7,[3,7,11,12,13,18,19,20]),(8,[3,11,12,13,18,19,20]),(9,[3,11,12,13,18,19,20]),(10,[3,11,12,13]),(11,[2]),(1000003,[3,11,12,13]),(1000006,[3,11,12,13,18,19,20])]
def kp159:List (Nat × List Nat):=[(0,[1,2]),(1,[4])]
def kp160:List (Nat × List Nat):=[(0,[1,2]),(1,[2,6,7]),(2,[2,6,7,8]),(3,[2,5,6,7]),(4,[2,6,7,14]),(5,[4]),(6,[2,6,7]),(7,[4]),(1000002,[2,6,7])]
def kp181:List (Nat × List Nat):=[]
def kp182:List (Nat × List Nat):=[]
def kp183:List (Nat × List Nat):=[]
def kp184:List (Nat × List Nat):=[]
def kp185:List (Nat × List Nat):=[]
def kp186:List (Nat × List Nat):=[]
def kp187:List (Nat × List Nat):=[]
def kp188:List (Nat × List Nat):=[]
def kp189:List (Nat × List Nat):=[(0,[1,2,3,5]),(1,[10])]
def kpT (f:Nat):List (Nat × List Nat) :=
 bif Nat.blt f 95 then (bif Nat.blt f 47 then (bif Nat.blt f 23 then (bif Nat.blt f 11 then (bif Nat.blt f 5 then (bif Nat.blt f 2 then ([]) else (bif Nat.blt f 3 then (kp2) else (bif Nat.blt f 4 then (kp3) else (kp4)))) else (bif Nat.blt f 8 then (bif Nat.blt f 6 then (kp5) else (bif Nat.blt f 7 then (kp6) else (kp7))) else (bif Nat.blt f 9 then (kp8) else (bif Nat.blt f 10 then (kp9) else (kp10))))) else (bif Nat.blt f 17 then (bif Nat.blt f 14 then (bif Nat.blt f 12 then (kp11) else (bif Nat.blt f 13 then (kp12) else (kp13))) else (bif Nat.blt f 15 then (kp14) else (bif Nat.blt f 16 then (kp15) else (kp16)))) else (bif Nat.blt f 20 then (bif Nat.blt f 18 then (kp17) else (bif Nat.blt f 19 then (kp18) else (kp19))) else (bif Nat.blt f 21 then (kp20) else (bif Nat.blt f 22 then (kp21) else (kp22)))))) else (bif Nat.blt f 35 then (bif Nat.blt f 29 then (bif Nat.blt f 26 then (bif Nat.blt f 24 then (kp23) else (bif Nat.blt f 25 then (kp24) else (kp25))) else (bif Nat.blt f 27 then (kp26) else (bif Nat.blt f 28 then (kp27) else (kp28)))) else (bif Nat.blt f 32 then (bif Nat.blt f 30 then (kp29) else (bif Nat.blt f 31 then (kp30) else (kp31))) else (bif Nat.blt f 33 then (kp32) else (bif Nat.blt f 34 then (kp33) else (kp34))))) else (bif Nat.blt f 41 then (bif Nat.blt f 38 then (bif Nat.blt f 36 then (kp35) else (bif Nat.blt f 37 then (kp36) else (kp37))) else (bif Nat.blt f 39 then (kp38) else (bif Nat.blt f 40 then (kp39) else (kp40)))) else (bif Nat.blt f 44 then (bif Nat.blt f 42 then (kp41) else (bif Nat.blt f 43 then (kp42) else (kp43))) else (bif Nat.blt f 45 then (kp44) else (bif Nat.blt f 46 then (kp45) else (kp46))))))) else (bif Nat.blt f 71 then (bif Nat.blt f 59 then (bif Nat.blt f 53 then (bif Nat.blt f 50 then (bif Nat.blt f 48 then (kp47) else (bif Nat.blt f 49 then (kp48) else (kp49))) else (bif Nat.blt f 51 then (kp50) else (bif Nat.blt f 52 then (kp51) else (kp52)))) else (bif Nat.blt f 56 then (bif Nat.blt f 54 then (kp53) else (bif Nat.blt f 55 then (kp54) else (kp55))) else (bif Nat.blt f 57 then (kp56) else (bif Nat.blt f 58 then (kp57) else (kp58))))) else (bif Nat.blt f 65 then (bif Nat.blt f 62 then (bif Nat.blt f 60 then (kp59) else (bif Nat.blt f 61 then (kp60) else (kp61))) else (bif Nat.blt f 63 then (kp62) else (bif Nat.blt f 64 then (kp63) else (kp64)))) else (bif Nat.blt f 68 then (bif Nat.blt f 66 then (kp65) else (bif Nat.blt f 67 then (kp66) else (kp67))) else (bif Nat.blt f 69 then (kp68) else (bif Nat.blt f 70 then (kp69) else (kp70)))))) else (bif Nat.blt f 83 then (bif Nat.blt f 77 then (bif Nat.blt f 74 then (bif Nat.blt f 72 then (kp71) else (bif Nat.blt f 73 then (kp72) else (kp73))) else (bif Nat.blt f 75 then (kp74) else (bif Nat.blt f 76 then (kp75) else (kp76)))) else (bif Nat.blt f 80 then (bif Nat.blt f 78 then (kp77) else (bif Nat.blt f 79 then (kp78) else (kp79))) else (bif Nat.blt f 81 then (kp80) else (bif Nat.blt f 82 then (kp81) else (kp82))))) else (bif Nat.blt f 89 then (bif Nat.blt f 86 then (bif Nat.blt f 84 then (kp83) else (bif Nat.blt f 85 then (kp84) else (kp85))) else (bif Nat.blt f 87 then (kp86) else (bif Nat.blt f 88 then (kp87) else (kp88)))) else (bif Nat.blt f 92 then (bif Nat.blt f 90 then (kp89) else (bif Nat.blt f 91 then (kp90) else (kp91))) else (bif Nat.blt f 93 then (kp92) else (bif Nat.blt f 94 then (kp93) else (kp94)))))))) else (bif Nat.blt f 143 then (bif Nat.blt f 119 then (bif Nat.blt f 107 then (bif Nat.blt f 101 then (bif Nat.blt f 98 then (bif Nat.blt f 96 then (kp95) else (bif Nat.blt f 97 then (kp96) else (kp97))) else (bif Nat.blt f 99 then (kp98) else (bif Nat.blt f 100 then (kp99) else (kp100)))) else (bif Nat.blt f 104 then (bif Nat.blt f 102 then (kp101) else (bif Nat.blt f 103 then (kp102) else (kp103))) else (bif Nat.blt f 105 then (kp104) else (bif Nat.blt f 106 then (kp105) else (kp106))))) else (bif Nat.blt f 113 then (bif Nat.blt f 110 then (bif Nat.blt f 108 then (kp107) else (bif Nat.blt f 109 then (kp108) else (kp109))) else (bif Nat.blt f 111 then (kp110) else (bif Nat.blt f 112 then (kp111) else (kp112)))) else (bif Nat.blt f 116 then (bif Nat.blt f 114 then (kp113) else (bif Nat.blt f 115 then (kp114) else (kp115))) else (bif Nat.blt f 117 then (kp116) else (bif Nat.blt f 118 then (kp117) else (kp118)))))) else (bif Nat.blt f 131 then (bif Nat.blt f 125 then (bif Nat.blt f 122 then (bif Nat.blt f 120 then (kp119) else (bif Nat.blt f 121 then (kp120) else (kp121))) else (bif Nat.blt f 123 then (kp122) else (bif Nat.blt f 124 then (kp123) else (kp124)))) else (bif Nat.blt f 128 then (bif Nat.blt f 126 then (kp125) else (bif Nat.blt f 127 then (kp126) else (kp127))) else (bif Nat.blt f 129 then (kp128) else (bif Nat.blt f 130 then (kp129) else (kp130))))) else (bif Nat.blt f 137 then (bif Nat.blt f 134 then (bif Nat.blt f 132 then (kp131) else (bif Nat.blt f 133 then (kp132) else (kp133))) else (bif Nat.blt f 135 then (kp134) else (bif Nat.blt f 136 then (kp135) else (kp136)))) else (bif Nat.blt f 140 then (bif Nat.blt f 138 then (kp137) else (bif Nat.blt f 139 then (kp138) else (kp139))) else (bif Nat.blt f 141 then (kp140) else (bif Nat.blt f 142 then (kp141) else (kp142))))))) else (bif Nat.blt f 167 then (bif Nat.blt f 155 then (bif Nat.blt f 149 then (bif Nat.blt f 146 then (bif Nat.blt f 144 then (kp143) else (bif Nat.blt f 145 then (kp144) else (kp145))) else (bif Nat.blt f 147 then (kp146) else (bif Nat.blt f 148 then (kp147) else (kp148)))) else (bif Nat.blt f 152 then (bif Nat.blt f 150 then (kp149) else (bif Nat.blt f 151 then (kp150) else (kp151))) else (bif Nat.blt f 153 then (kp152) else (bif Nat.blt f 154 then (kp153) else (kp154))))) else (bif Nat.blt f 161 then (bif Nat.blt f 158 then (bif Nat.blt f 156 then (kp155) else (bif Nat.blt f 157 then (kp156) else (kp157))) else (bif Nat.blt f 159 then (kp158) else (bif Nat.blt f 160 then (kp159) else (kp160)))) else ([]))) else (bif Nat.blt f 179 then ([]) else (bif Nat.blt f 185 then (bif Nat.blt f 182 then (bif Nat.blt f 180 then ([]) else (bif Nat.blt f 181 then ([]) else (kp181))) else (bif Nat.blt f 183 then (kp182) else (bif Nat.blt f 184 then (kp183) else (kp184)))) else (bif Nat.blt f 188 then (bif Nat.blt f 186 then (kp185) else (bif Nat.blt f 187 then (kp186) else (kp187))) else (bif Nat.blt f 189 then (kp188) else (bif Nat.blt f 190 then (kp189) else ([]))))))))
def kpLook (id:Nat):List (Nat × List Nat) → List Nat
 | [] => []
 | (i,l) :: r => bif Nat.beq i id then l else kpLook id r
def kpS (f id:Nat):List Nat:=kpLook id (kpT f)
def speaksT:List Nat:=[10,28,38]
abbrev shortT:Nat:=217
def itS:Value → Heap → Option (List (List Int)):=itAll 141
noncomputable abbrev CI:Cfg:={ P:=Prog,kp:=kpS,sp:=fun _ => none,it:=itS }
noncomputable abbrev CD:Cfg:={ P:=Prog,kp:=kpS,sp:=fun _ => none }
def moreS (f:Nat):Option Sp:=bif Nat.beq f 47 then some (tryV 217) else bif Nat.beq f 78 then some (fun _ args H => cloneV 3 12 args H) else bif Nat.beq f 79 then some (fun _ args H => cloneV 2 16 args H) else bif Nat.beq f 84 then some (fun call args H => bodyF { P:=Prog,kp:=kpS,sp:=fun _ => none,it:=itS } call 84 args H) else bif Nat.beq f 97 then some (fun call args H => bodyD CD call 97 args H) else none
def ownersW:List Nat:=[999999,10,28,38]
def ownW (k:Nat):Mode:=bif ownersW.contains (k % 1000000) then .no else .fz
def mdS (k f:Nat):Mode:=bif Nat.blt f 95 then (bif Nat.blt f 47 then (bif Nat.blt f 23 then (bif Nat.blt f 11 then (bif Nat.blt f 5 then (bif Nat.blt f 2 then (.gc) else (bif Nat.blt f 3 then (.no) else (.gc))) else (.gc)) else (bif Nat.blt f 17 then (bif Nat.blt f 14 then (bif Nat.blt f 12 then (.gc) else (bif Nat.blt f 13 then (own k) else (.fz))) else (bif Nat.blt f 15 then (.fz) else (bif Nat.blt f 16 then (.no) else (.fz)))) else (bif Nat.blt f 20 then (.no) else (.fz)))) else (bif Nat.blt f 35 then (bif Nat.blt f 29 then (bif Nat.blt f 26 then (bif Nat.blt f 24 then (.fz) else (bif Nat.blt f 25 then (.gc) else (own k))) else (bif Nat.blt f 27 then (.fz) else (bif Nat.blt f 28 then (own k) else (.gc)))) else (bif Nat.blt f 32 then (bif Nat.blt f 30 then (.gc) else (bif Nat.blt f 31 then (own k) else (.fz))) else (bif Nat.blt f 33 then (.fz) else (bif Nat.blt f 34 then (.fz) else (own k))))) else (bif Nat.blt f 41 then (bif Nat.blt f 38 then (bif Nat.blt f 36 then (.fz) else (bif Nat.blt f 37 then (.no) else (.fz))) else (bif Nat.blt f 39 then (.gc) else (bif Nat.blt f 40 then (.gc) else (.fz)))) else (bif Nat.blt f 44 then (bif Nat.blt f 42 then (.fz) else (.gc)) else (bif Nat.blt f 45 then (.no) else (.fz)))))) else (bif Nat.blt f 71 then (bif Nat.blt f 59 then (bif Nat.blt f 53 then (bif Nat.blt f 50 then (bif Nat.blt f 48 then (.no) else (bif Nat.blt f 49 then (.no) else (.fz))) else (bif Nat.blt f 51 then (.gc) else (bif Nat.blt f 52 then (.gc) else (ownW k)))) else (bif Nat.blt f 56 then (bif Nat.blt f 54 then (.no) else (bif Nat.blt f 55 then (.fz) else (.no))) else (.fz))) else (bif Nat.blt f 65 then (bif Nat.blt f 62 then (.gc) else (bif Nat.blt f 63 then (.no) else (bif Nat.blt f 64 then (.gc) else (.no)))) else (bif Nat.blt f 68 then (bif Nat.blt f 66 then (.gc) else (bif Nat.blt f 67 then (.no) else (.gc))) else (bif Nat.blt f 69 then (.no) else (bif Nat.blt f 70 then (.no) else (.gc)))))) else (bif Nat.blt f 83 then (bif Nat.blt f 77 then (bif Nat.blt f 74 then (.gc) else (bif Nat.blt f 75 then (.gc) else (.fz))) else (bif Nat.blt f 80 then (bif Nat.blt f 78 then (.gc) else (.no)) else (bif Nat.blt f 81 then (.no) else (bif Nat.blt f 82 then (.fz) else (.gc))))) else (bif Nat.blt f 89 then (bif Nat.blt f 86 then (bif Nat.blt f 84 then (.no) else (.fz)) else (bif Nat.blt f 87 then (.gc) else (bif Nat.blt f 88 then (.gc) else (.no)))) else (bif Nat.blt f 92 then (.gc) else (bif Nat.blt f 93 then (.gc) else (bif Nat.blt f 94 then (.gc) else (.no)))))))) else (bif Nat.blt f 143 then (bif Nat.blt f 119 then (bif Nat.blt f 107 then (bif Nat.blt f 101 then (bif Nat.blt f 98 then (bif Nat.blt f 96 then (.gc) else (bif Nat.blt f 97 then (.gc) else (.no))) else (bif Nat.blt f 99 then (.no) else (.gc))) else (bif Nat.blt f 104 then (.gc) else (bif Nat.blt f 105 then (.gc) else (bif Nat.blt f 106 then (.gc) else (.fz))))) else (bif Nat.blt f 113 then (bif Nat.blt f 110 then (bif Nat.blt f 108 then (own k) else (bif Nat.blt f 109 then (.gc) else (.no))) else (bif Nat.blt f 111 then (.no) else (bif Nat.blt f 112 then (.no) else (.gc)))) else (bif Nat.blt f 116 then (.no) else (bif Nat.blt f 117 then (.gc) else (bif Nat.blt f 118 then (.gc) else (.fz)))))) else (bif Nat.blt f 131 then (bif Nat.blt f 125 then (bif Nat.blt f 122 then (bif Nat.blt f 120 then (.no) else (bif Nat.blt f 121 then (.gc) else (.fz))) else (.gc)) else (bif Nat.blt f 128 then (bif Nat.blt f 126 then (.gc) else (bif Nat.blt f 127 then (.gc) else (.no))) else (bif Nat.blt f 129 then (.no) else (.gc)))) else (bif Nat.blt f 137 then (bif Nat.blt f 134 then (bif Nat.blt f 132 then (.fz) else (.no)) else (bif Nat.blt f 135 then (.gc) else (bif Nat.blt f 136 then (.gc) else (.no)))) else (bif Nat.blt f 140 then (.fz) else (bif Nat.blt f 141 then (.fz) else (bif Nat.blt f 142 then (.no) else (.gc))))))) else (bif Nat.blt f 167 then (bif Nat.blt f 155 then (bif Nat.blt f 149 then (bif Nat.blt f 146 then (.fz) else (.gc)) else (bif Nat.blt f 152 then (bif Nat.blt f 150 then (.no) else (bif Nat.blt f 151 then (.no) else (.fz))) else (bif Nat.blt f 153 then (.fz) else (.gc)))) else (bif Nat.blt f 161 then (bif Nat.blt f 158 then (bif Nat.blt f 156 then (.fz) else (.gc)) else (.gc)) else (.gc))) else (bif Nat.blt f 179 then (bif Nat.blt f 173 then (.gc) else (bif Nat.blt f 176 then (.gc) else (bif Nat.blt f 177 then (.gc) else (bif Nat.blt f 178 then (.no) else (.gc))))) else (bif Nat.blt f 185 then (bif Nat.blt f 182 then (bif Nat.blt f 180 then (.gc) else (bif Nat.blt f 181 then (.gc) else (.no))) else (bif Nat.blt f 183 then (.gc) else (bif Nat.blt f 184 then (.no) else (.gc)))) else (bif Nat.blt f 188 then (.gc) else (bif Nat.blt f 189 then (.no) else (bif Nat.blt f 190 then (.no) else (.gc))))))))
def arS (f:Nat):Bool:=[14,32].any (Nat.beq f)
noncomputable def C (k:Nat):Cfg:={ P:=Prog,kp:=kpS,sp:=spOf speaksT moreS (k % 1000000) }
noncomputable def T (k:Nat):Told:={ c:=C k,md:=mdS k,ar:=arS }
theorem ζl5 (f:FuncId) (s:Sp) (h:moreS f = some s):∀ args H,Scott fun call => s call args H:=by
 unfold moreS at h;cases h47:Nat.beq f 47 with
 | true => rw [h47,cond_true] at h; injection h with h; subst h; first | exact fun args H => Scott.const _ | exact Scott.tryV _ | exact Scott.told _
 | false =>
 rw [h47,cond_false] at h;cases h78:Nat.beq f 78 with
 | true => rw [h78,cond_true] at h; injection h with h; subst h; first | exact fun args H => Scott.const _ | exact Scott.tryV _ | exact Scott.told _
 | false =>
 rw [h78,cond_false] at h;cases h79:Nat.beq f 79 with
 | true => rw [h79,cond_true] at h; injection h with h; subst h; first | exact fun args H => Scott.const _ | exact Scott.tryV _ | exact Scott.told _
 | false =>
 rw [h79,cond_false] at h;cases h84:Nat.beq f 84 with
 | true => rw [h84,cond_true] at h; injection h with h; subst h; exact Scott.bodyF _ _
 | false =>
 rw [h84,cond_false] at h;cases h97:Nat.beq f 97 with
 | true => rw [h97,cond_true] at h; injection h with h; subst h; exact Scott.bodyD _ _
 | false =>
 rw [h97,cond_false] at h;cases h
theorem T_scott (k:Nat):SpScott (T k).c:=SpScott.of ζl5
@[simp] theorem len_22 (x:Value) (h:Heap):builtinV Prog .len [22] [x] h = lnS x h:=lnS_eq (e:=5) (by kernel_rfl) x h
@[simp] theorem ix_22 (x i:Value) (h:Heap):indexAddrR Prog 22 x i h = ixS 1 x i h:=ixS_eq (e:=5) (by kernel_rfl) (by kernel_rfl) x i h
@[simp] theorem ld_3 (a:Value) (h:Heap):loadR Prog 3 a h = ld1 a h:=ld1_eq (by kernel_rfl) a h
@[simp] theorem len_30 (x:Value) (h:Heap):builtinV Prog .len [30] [x] h = lnS x h:=lnS_eq (e:=3) (by kernel_rfl) x h
@[simp] theorem ld_4 (a:Value) (h:Heap):loadR Prog 4 a h = ld1 a h:=ld1_eq (by kernel_rfl) a h
@[simp] theorem eqp_82 (cs:Array Value) (h:Heap):binR Prog .eql 82 (boxV cs) (.pointer none) h = .ok (.bool false) h:=by kernel_rfl
@[simp] theorem ld_30 (a:Value) (h:Heap):loadR Prog 30 a h = ld1 a h:=ld1_eq (by kernel_rfl) a h
@[simp] theorem mk_30 (l c:Value) (h:Heap):makeSliceV Prog 30 l c h = mkR 1 8 [.int .i64 0] l c h:=mk_is (e:=3) (z:=.int .i64 0) (by kernel_rfl) (by kernel_rfl) (by kernel_rfl) (by kernel_rfl) (by kernel_rfl) l c h
@[simp] theorem len_56 (x:Value) (h:Heap):builtinV Prog .len [56] [x] h = lnS x h:=lnS_eq (e:=93) (by kernel_rfl) x h
@[simp] theorem ix_56 (x i:Value) (h:Heap):indexAddrR Prog 56 x i h = ixS 3 x i h:=ixS_eq (e:=93) (by kernel_rfl) (by kernel_rfl) x i h
@[simp] theorem ld_93 (a:Value) (h:Heap):loadR Prog 93 a h = ldA 3 a h:=ldA_eq (by kernel_rfl) (by kernel_rfl) a h
@[simp] theorem al_93 (h:Heap):allocR Prog 93 h = newP [.int .i32 0,.int .i32 0,.int .i32 0] h:=al_eq (z:=.agg #[.int .i32 0,.int .i32 0,.int .i32 0]) (by kernel_rfl) h
@[simp] theorem st_93 (a v:Value) (h:Heap):storeR Prog 93 a v h = stR 3 a v h:=st_eq (by kernel_rfl) a v h
@[simp] theorem ld_21 (a:Value) (h:Heap):loadR Prog 21 a h = ld1 a h:=ld1_eq (by kernel_rfl) a h
@[simp] theorem eqp_98 (cs:Array Value) (h:Heap):binR Prog .eql 98 (boxV cs) (.pointer none) h = .ok (.bool false) h:=by kernel_rfl
@[simp] theorem len_94 (x:Value) (h:Heap):builtinV Prog .len [94] [x] h = lnS x h:=lnS_eq (e:=104) (by kernel_rfl) x h
@[simp] theorem ix_94 (x i:Value) (h:Heap):indexAddrR Prog 94 x i h = ixS 2 x i h:=ixS_eq (e:=104) (by kernel_rfl) (by kernel_rfl) x i h
@[simp] theorem ld_104 (a:Value) (h:Heap):loadR Prog 104 a h = ldA 2 a h:=ldA_eq (by kernel_rfl) (by kernel_rfl) a h
@[simp] theorem al_104 (h:Heap):allocR Prog 104 h = newP [.int .u32 0,.slice none 0 0] h:=al_eq (z:=.agg #[.int .u32 0,.slice none 0 0]) (by kernel_rfl) h
@[simp] theorem st_104 (a v:Value) (h:Heap):storeR Prog 104 a v h = stR 2 a v h:=st_eq (by kernel_rfl) a v h
@[simp] theorem fa_104_0 (a:Value) (h:Heap):fieldAddrR Prog 104 a 0 h = faR 0 1 a h:=fa_is (ft:=102) (by kernel_rfl) (by kernel_rfl) a h
@[simp] theorem ld_102 (a:Value) (h:Heap):loadR Prog 102 a h = ld1 a h:=ld1_eq (by kernel_rfl) a h
@[simp] theorem bd_115 (ps:List (Nat × Value)) (h:Heap):buildR Prog 115 ps h = bdR [(0,1),(1,1)] ps [.pointer none,.slice none 0 0] h:=bd_is (z:=.agg #[.pointer none,.slice none 0 0]) (by kernel_rfl) (by kernel_rfl) (by kernel_rfl) ps h
@[simp] theorem al_109 (h:Heap):allocR Prog 109 h = newP [.int .i64 0,.int .i64 0,.int .i64 0] h:=al_eq (z:=.agg #[.int .i64 0,.int .i64 0,.int .i64 0]) (by kernel_rfl) h
@[simp] theorem st_109 (a v:Value) (h:Heap):storeR Prog 109 a v h = stR 3 a v h:=st_eq (by kernel_rfl) a v h
@[simp] theorem ld_109 (a:Value) (h:Heap):loadR Prog 109 a h = ldA 3 a h:=ldA_eq (by kernel_rfl) (by kernel_rfl) a h
@[simp] theorem bd_109 (ps:List (Nat × Value)) (h:Heap):buildR Prog 109 ps h = bdR [(0,1),(1,1),(2,1)] ps [.int .i64 0,.int .i64 0,.int .i64 0] h:=bd_is (z:=.agg #[.int .i64 0,.int .i64 0,.int .i64 0]) (by kernel_rfl) (by kernel_rfl) (by kernel_rfl) ps h
@[simp] theorem bd_104 (ps:List (Nat × Value)) (h:Heap):buildR Prog 104 ps h = bdR [(0,1),(1,1)] ps [.int .u32 0,.slice none 0 0] h:=bd_is (z:=.agg #[.int .u32 0,.slice none 0 0]) (by kernel_rfl) (by kernel_rfl) (by kernel_rfl) ps h
@[simp] theorem be_94_1 (ps:List (Nat × Value)) (h:Heap):buildSliceR Prog 94 1 ps h = beR 2 1 ps [.int .u32 0,.slice none 0 0] h:=be_eq (e:=104) (by kernel_rfl) (by kernel_rfl) (by kernel_rfl) (by kernel_rfl) ps h
@[simp] theorem ix_30 (x i:Value) (h:Heap):indexAddrR Prog 30 x i h = ixS 1 x i h:=ixS_eq (e:=3) (by kernel_rfl) (by kernel_rfl) x i h
@[simp] theorem be_30_1 (ps:List (Nat × Value)) (h:Heap):buildSliceR Prog 30 1 ps h = beR 1 1 ps [.int .i64 0] h:=be_eq (e:=3) (by kernel_rfl) (by kernel_rfl) (by kernel_rfl) (by kernel_rfl) ps h
@[simp] theorem ap_30 (a b:Value) (h:Heap):builtinV Prog .append [30,30] [a,b] h = apR 1 8 a b h:=ap_is (e:=3) (z:=.int .i64 0) (by kernel_rfl) (by kernel_rfl) (by kernel_rfl) (by kernel_rfl) (by kernel_rfl) a b h
@[simp] theorem ld_22 (a:Value) (h:Heap):loadR Prog 22 a h = ld1 a h:=ld1_eq (by kernel_rfl) a h
@[simp] theorem al_98 (h:Heap):allocR Prog 98 h = newP [.pointer none] h:=al_eq (z:=.pointer none) (by kernel_rfl) h
@[simp] theorem ld_98 (a:Value) (h:Heap):loadR Prog 98 a h = ld1 a h:=ld1_eq (by kernel_rfl) a h
@[simp] theorem be_22_2 (ps:List (Nat × Value)) (h:Heap):buildSliceR Prog 22 2 ps h = beR 1 2 ps [.int .u8 0,.int .u8 0] h:=be_eq (e:=5) (by kernel_rfl) (by kernel_rfl) (by kernel_rfl) (by kernel_rfl) ps h
@[simp] theorem be_22_6 (ps:List (Nat × Value)) (h:Heap):buildSliceR Prog 22 6 ps h = beR 1 6 ps [.int .u8 0,.int .u8 0,.int .u8 0,.int .u8 0,.int .u8 0,.int .u8 0] h:=be_eq (e:=5) (by kernel_rfl) (by kernel_rfl) (by kernel_rfl) (by kernel_rfl) ps h
@[simp] theorem be_23_2 (ps:List (Nat × Value)) (h:Heap):buildSliceR Prog 23 2 ps h = beR 1 2 ps [.slice none 0 0,.slice none 0 0] h:=be_eq (e:=22) (by kernel_rfl) (by kernel_rfl) (by kernel_rfl) (by kernel_rfl) ps h
@[simp] theorem bd_129 (ps:List (Nat × Value)) (h:Heap):buildR Prog 129 ps h = bdR [(0,1),(1,1),(2,1),(3,1)] ps [.int .i64 0,.int .i64 0,.int .i64 0,.int .i64 0] h:=bd_is (z:=.agg #[.int .i64 0,.int .i64 0,.int .i64 0,.int .i64 0]) (by kernel_rfl) (by kernel_rfl) (by kernel_rfl) ps h
@[simp] theorem be_24_3 (ps:List (Nat × Value)) (h:Heap):buildSliceR Prog 24 3 ps h = beR 4 3 ps [.int .i64 0,.int .i64 0,.int .i64 0,.int .i64 0,.int .i64 0,.int .i64 0,.int .i64 0,.int .i64 0,.int .i64 0,.int .i64 0,.int .i64 0,.int .i64 0] h:=be_eq (e:=129) (by kernel_rfl) (by kernel_rfl) (by kernel_rfl) (by kernel_rfl) ps h
@[simp] theorem bd_26 (ps:List (Nat × Value)) (h:Heap):buildR Prog 26 ps h = bdR [(0,1),(1,1),(2,1),(3,1)] ps [.slice none 0 0,.slice none 0 0,.slice none 0 0,.int .u8 0] h:=bd_is (z:=.agg #[.slice none 0 0,.slice none 0 0,.slice none 0 0,.int .u8 0]) (by kernel_rfl) (by kernel_rfl) (by kernel_rfl) ps h
@[simp] theorem al_26 (h:Heap):allocR Prog 26 h = newP [.slice none 0 0,.slice none 0 0,.slice none 0 0,.int .u8 0] h:=al_eq (z:=.agg #[.slice none 0 0,.slice none 0 0,.slice none 0 0,.int .u8 0]) (by kernel_rfl) h
@[simp] theorem st_26 (a v:Value) (h:Heap):storeR Prog 26 a v h = stR 4 a v h:=st_eq (by kernel_rfl) a v h
@[simp] theorem ld_26 (a:Value) (h:Heap):loadR Prog 26 a h = ldA 4 a h:=ldA_eq (by kernel_rfl) (by kernel_rfl) a h
@[simp] theorem be_27_2 (ps:List (Nat × Value)) (h:Heap):buildSliceR Prog 27 2 ps h = beR 1 2 ps [.int .i16 0,.int .i16 0] h:=be_eq (e:=125) (by kernel_rfl) (by kernel_rfl) (by kernel_rfl) (by kernel_rfl) ps h
@[simp] theorem bd_69 (ps:List (Nat × Value)) (h:Heap):buildR Prog 69 ps h = bdR [(0,4),(4,1),(5,1)] ps [.slice none 0 0,.slice none 0 0,.slice none 0 0,.int .u8 0,.int .u8 0,.slice none 0 0] h:=bd_is (z:=.agg #[.slice none 0 0,.slice none 0 0,.slice none 0 0,.int .u8 0,.int .u8 0,.slice none 0 0]) (by kernel_rfl) (by kernel_rfl) (by kernel_rfl) ps h
@[simp] theorem ld_126 (a:Value) (h:Heap):loadR Prog 126 a h = ldA 2 a h:=ldA_eq (by kernel_rfl) (by kernel_rfl) a h
@[simp] theorem be_130_1 (ps:List (Nat × Value)) (h:Heap):buildSliceR Prog 130 1 ps h = beR 2 1 ps [.int .i16 0,.int .i16 0] h:=be_eq (e:=126) (by kernel_rfl) (by kernel_rfl) (by kernel_rfl) (by kernel_rfl) ps h
@[simp] theorem be_70_2 (ps:List (Nat × Value)) (h:Heap):buildSliceR Prog 70 2 ps h = beR 1 2 ps [.slice none 0 0,.slice none 0 0] h:=be_eq (e:=130) (by kernel_rfl) (by kernel_rfl) (by kernel_rfl) (by kernel_rfl) ps h
@[simp] theorem len_127 (x:Value) (h:Heap):builtinV Prog .len [127] [x] h = lnS x h:=lnS_eq (e:=4) (by kernel_rfl) x h
@[simp] theorem ix_127 (x i:Value) (h:Heap):indexAddrR Prog 127 x i h = ixS 1 x i h:=ixS_eq (e:=4) (by kernel_rfl) (by kernel_rfl) x i h
@[simp] theorem neI_109 (a0 a1 a2 b0 b1 b2:Int) (h:Heap):binR Prog .neq 109 (.agg #[.int .i64 a0,.int .i64 a1,.int .i64 a2]) (.agg #[.int .i64 b0,.int .i64 b1,.int .i64 b2]) h = .ok (.bool (!([a0,a1,a2] == [b0,b1,b2]))) h:=neI_is (ks:=[.i64,.i64,.i64]) (by kernel_rfl) [a0,a1,a2] [b0,b1,b2] rfl rfl h
@[simp] theorem ix_126 (x i:Value) (h:Heap):indexAddrR Prog 126 x i h = ixA 2 1 x i h:=ixA_eq (e:=125) (by kernel_rfl) (by kernel_rfl) x i h
@[simp] theorem ld_125 (a:Value) (h:Heap):loadR Prog 125 a h = ld1 a h:=ld1_eq (by kernel_rfl) a h
@[simp] theorem ζou (x:Value) (H:Heap):convR Prog 125 21 x H = cvK .i32 x H:=ζ3v (by kernel_rfl) (by kernel_rfl) x H
@[simp] theorem fa_93_1 (a:Value) (h:Heap):fieldAddrR Prog 93 a 1 h = faR 1 1 a h:=fa_is (ft:=21) (by kernel_rfl) (by kernel_rfl) a h
@[simp] theorem st_21 (a v:Value) (h:Heap):storeR Prog 21 a v h = stR 1 a v h:=st_eq (by kernel_rfl) a v h
@[simp] theorem fa_93_2 (a:Value) (h:Heap):fieldAddrR Prog 93 a 2 h = faR 2 1 a h:=fa_is (ft:=21) (by kernel_rfl) (by kernel_rfl) a h
@[simp] theorem neI_93 (a0 a1 a2 b0 b1 b2:Int) (h:Heap):binR Prog .neq 93 (.agg #[.int .i32 a0,.int .i32 a1,.int .i32 a2]) (.agg #[.int .i32 b0,.int .i32 b1,.int .i32 b2]) h = .ok (.bool (!([a0,a1,a2] == [b0,b1,b2]))) h:=neI_is (ks:=[.i32,.i32,.i32]) (by kernel_rfl) [a0,a1,a2] [b0,b1,b2] rfl rfl h
@[simp] theorem bd_93 (ps:List (Nat × Value)) (h:Heap):buildR Prog 93 ps h = bdR [(0,1),(1,1),(2,1)] ps [.int .i32 0,.int .i32 0,.int .i32 0] h:=bd_is (z:=.agg #[.int .i32 0,.int .i32 0,.int .i32 0]) (by kernel_rfl) (by kernel_rfl) (by kernel_rfl) ps h
@[simp] theorem fa_26_0 (a:Value) (h:Heap):fieldAddrR Prog 26 a 0 h = faR 0 1 a h:=fa_is (ft:=22) (by kernel_rfl) (by kernel_rfl) a h
@[simp] theorem fa_26_1 (a:Value) (h:Heap):fieldAddrR Prog 26 a 1 h = faR 1 1 a h:=fa_is (ft:=23) (by kernel_rfl) (by kernel_rfl) a h
@[simp] theorem ld_23 (a:Value) (h:Heap):loadR Prog 23 a h = ld1 a h:=ld1_eq (by kernel_rfl) a h
@[simp] theorem len_23 (x:Value) (h:Heap):builtinV Prog .len [23] [x] h = lnS x h:=lnS_eq (e:=22) (by kernel_rfl) x h
@[simp] theorem fa_26_2 (a:Value) (h:Heap):fieldAddrR Prog 26 a 2 h = faR 2 1 a h:=fa_is (ft:=24) (by kernel_rfl) (by kernel_rfl) a h
@[simp] theorem ld_24 (a:Value) (h:Heap):loadR Prog 24 a h = ld1 a h:=ld1_eq (by kernel_rfl) a h
@[simp] theorem len_24 (x:Value) (h:Heap):builtinV Prog .len [24] [x] h = lnS x h:=lnS_eq (e:=129) (by kernel_rfl) x h
@[simp] theorem ld_27 (a:Value) (h:Heap):loadR Prog 27 a h = ld1 a h:=ld1_eq (by kernel_rfl) a h
@[simp] theorem len_27 (x:Value) (h:Heap):builtinV Prog .len [27] [x] h = lnS x h:=lnS_eq (e:=125) (by kernel_rfl) x h
@[simp] theorem sl_22 (x:Value) (lo hi mx:Option Value) (h:Heap):sliceR Prog 22 x lo hi mx h = slS 1 x lo hi mx h:=slS_eq (e:=5) (by kernel_rfl) (by kernel_rfl) x lo hi mx h
@[simp] theorem cp_22_22 (d s:Value) (h:Heap):builtinV Prog .copy [22,22] [d,s] h = cpR 1 d s h:=cp_is (e:=5) (by kernel_rfl) (by kernel_rfl) d s h
@[simp] theorem ix_27 (x i:Value) (h:Heap):indexAddrR Prog 27 x i h = ixS 1 x i h:=ixS_eq (e:=125) (by kernel_rfl) (by kernel_rfl) x i h
@[simp] theorem ζok (x:Value) (H:Heap):convR Prog 125 135 x H = cvK .u16 x H:=ζ3v (by kernel_rfl) (by kernel_rfl) x H
@[simp] theorem cv_135_3 (x:Value) (H:Heap):convR Prog 135 3 x H = cvK .i64 x H:=ζ3v (by kernel_rfl) (by kernel_rfl) x H
@[simp] theorem al_113 (h:Heap):allocR Prog 113 h = newP [.slice none 0 0] h:=al_eq (z:=.agg #[.slice none 0 0]) (by kernel_rfl) h
@[simp] theorem st_113 (a v:Value) (h:Heap):storeR Prog 113 a v h = stR 1 a v h:=st_eq (by kernel_rfl) a v h
@[simp] theorem al_129 (h:Heap):allocR Prog 129 h = newP [.int .i64 0,.int .i64 0,.int .i64 0,.int .i64 0] h:=al_eq (z:=.agg #[.int .i64 0,.int .i64 0,.int .i64 0,.int .i64 0]) (by kernel_rfl) h
@[simp] theorem st_129 (a v:Value) (h:Heap):storeR Prog 129 a v h = stR 4 a v h:=st_eq (by kernel_rfl) a v h
@[simp] theorem fa_129_2 (a:Value) (h:Heap):fieldAddrR Prog 129 a 2 h = faR 2 1 a h:=fa_is (ft:=3) (by kernel_rfl) (by kernel_rfl) a h
@[simp] theorem bd_145 (ps:List (Nat × Value)) (h:Heap):buildR Prog 145 ps h = bdR [(0,1),(1,1)] ps [.bool false,.slice none 0 0] h:=bd_is (z:=.agg #[.bool false,.slice none 0 0]) (by kernel_rfl) (by kernel_rfl) (by kernel_rfl) ps h
@[simp] theorem fa_145_1 (a:Value) (h:Heap):fieldAddrR Prog 145 a 1 h = faR 1 1 a h:=fa_is (ft:=56) (by kernel_rfl) (by kernel_rfl) a h
@[simp] theorem ld_56 (a:Value) (h:Heap):loadR Prog 56 a h = ld1 a h:=ld1_eq (by kernel_rfl) a h
@[simp] theorem be_56_1 (ps:List (Nat × Value)) (h:Heap):buildSliceR Prog 56 1 ps h = beR 3 1 ps [.int .i32 0,.int .i32 0,.int .i32 0] h:=be_eq (e:=93) (by kernel_rfl) (by kernel_rfl) (by kernel_rfl) (by kernel_rfl) ps h
@[simp] theorem ap_56 (a b:Value) (h:Heap):builtinV Prog .append [56,56] [a,b] h = apR 3 12 a b h:=ap_is (e:=93) (z:=.agg #[.int .i32 0,.int .i32 0,.int .i32 0]) (by kernel_rfl) (by kernel_rfl) (by kernel_rfl) (by kernel_rfl) (by kernel_rfl) a b h
@[simp] theorem st_56 (a v:Value) (h:Heap):storeR Prog 56 a v h = stR 1 a v h:=st_eq (by kernel_rfl) a v h
@[simp] theorem bd_148 (ps:List (Nat × Value)) (h:Heap):buildR Prog 148 ps h = bdR [(0,1)] ps [.slice none 0 0] h:=bd_is (z:=.agg #[.slice none 0 0]) (by kernel_rfl) (by kernel_rfl) (by kernel_rfl) ps h
@[simp] theorem fa_148_0 (a:Value) (h:Heap):fieldAddrR Prog 148 a 0 h = faR 0 1 a h:=fa_is (ft:=61) (by kernel_rfl) (by kernel_rfl) a h
@[simp] theorem ld_61 (a:Value) (h:Heap):loadR Prog 61 a h = ld1 a h:=ld1_eq (by kernel_rfl) a h
@[simp] theorem bd_150 (ps:List (Nat × Value)) (h:Heap):buildR Prog 150 ps h = bdR [(0,1),(1,1)] ps [.int .i64 0,.int .i64 0] h:=bd_is (z:=.agg #[.int .i64 0,.int .i64 0]) (by kernel_rfl) (by kernel_rfl) (by kernel_rfl) ps h
@[simp] theorem be_61_1 (ps:List (Nat × Value)) (h:Heap):buildSliceR Prog 61 1 ps h = beR 2 1 ps [.int .i64 0,.int .i64 0] h:=be_eq (e:=150) (by kernel_rfl) (by kernel_rfl) (by kernel_rfl) (by kernel_rfl) ps h
@[simp] theorem ap_61 (a b:Value) (h:Heap):builtinV Prog .append [61,61] [a,b] h = apR 2 16 a b h:=ap_is (e:=150) (z:=.agg #[.int .i64 0,.int .i64 0]) (by kernel_rfl) (by kernel_rfl) (by kernel_rfl) (by kernel_rfl) (by kernel_rfl) a b h
@[simp] theorem st_61 (a v:Value) (h:Heap):storeR Prog 61 a v h = stR 1 a v h:=st_eq (by kernel_rfl) a v h
@[simp] theorem ld_159 (a:Value) (h:Heap):loadR Prog 159 a h = ld1 a h:=ld1_eq (by kernel_rfl) a h
@[simp] theorem ld_52 (a:Value) (h:Heap):loadR Prog 52 a h = ld1 a h:=ld1_eq (by kernel_rfl) a h
@[simp] theorem be_56_0 (ps:List (Nat × Value)) (h:Heap):buildSliceR Prog 56 0 ps h = beR 3 0 ps [] h:=be_eq (e:=93) (by kernel_rfl) (by kernel_rfl) (by kernel_rfl) (by kernel_rfl) ps h
@[simp] theorem cv_3_21 (x:Value) (H:Heap):convR Prog 3 21 x H = cvK .i32 x H:=ζ3v (by kernel_rfl) (by kernel_rfl) x H
@[simp] theorem len_61 (x:Value) (h:Heap):builtinV Prog .len [61] [x] h = lnS x h:=lnS_eq (e:=150) (by kernel_rfl) x h
@[simp] theorem fa_129_1 (a:Value) (h:Heap):fieldAddrR Prog 129 a 1 h = faR 1 1 a h:=fa_is (ft:=3) (by kernel_rfl) (by kernel_rfl) a h
@[simp] theorem ld_129 (a:Value) (h:Heap):loadR Prog 129 a h = ldA 4 a h:=ldA_eq (by kernel_rfl) (by kernel_rfl) a h
@[simp] theorem be_61_0 (ps:List (Nat × Value)) (h:Heap):buildSliceR Prog 61 0 ps h = beR 2 0 ps [] h:=be_eq (e:=150) (by kernel_rfl) (by kernel_rfl) (by kernel_rfl) (by kernel_rfl) ps h
@[simp] theorem ix_61 (x i:Value) (h:Heap):indexAddrR Prog 61 x i h = ixS 2 x i h:=ixS_eq (e:=150) (by kernel_rfl) (by kernel_rfl) x i h
@[simp] theorem ld_150 (a:Value) (h:Heap):loadR Prog 150 a h = ldA 2 a h:=ldA_eq (by kernel_rfl) (by kernel_rfl) a h
@[simp] theorem len_70 (x:Value) (h:Heap):builtinV Prog .len [70] [x] h = lnS x h:=lnS_eq (e:=130) (by kernel_rfl) x h
@[simp] theorem ix_70 (x i:Value) (h:Heap):indexAddrR Prog 70 x i h = ixS 1 x i h:=ixS_eq (e:=130) (by kernel_rfl) (by kernel_rfl) x i h
@[simp] theorem ld_130 (a:Value) (h:Heap):loadR Prog 130 a h = ld1 a h:=ld1_eq (by kernel_rfl) a h
@[simp] theorem len_130 (x:Value) (h:Heap):builtinV Prog .len [130] [x] h = lnS x h:=lnS_eq (e:=126) (by kernel_rfl) x h
@[simp] theorem fa_69_0 (a:Value) (h:Heap):fieldAddrR Prog 69 a 0 h = faR 0 4 a h:=fa_is (ft:=26) (by kernel_rfl) (by kernel_rfl) a h
@[simp] theorem fa_69_2 (a:Value) (h:Heap):fieldAddrR Prog 69 a 2 h = faR 5 1 a h:=fa_is (ft:=27) (by kernel_rfl) (by kernel_rfl) a h
@[simp] theorem fa_69_1 (a:Value) (h:Heap):fieldAddrR Prog 69 a 1 h = faR 4 1 a h:=fa_is (ft:=5) (by kernel_rfl) (by kernel_rfl) a h
@[simp] theorem ld_5 (a:Value) (h:Heap):loadR Prog 5 a h = ld1 a h:=ld1_eq (by kernel_rfl) a h
@[simp] theorem cv_5_3 (x:Value) (H:Heap):convR Prog 5 3 x H = cvK .i64 x H:=ζ3v (by kernel_rfl) (by kernel_rfl) x H
@[simp] theorem ld_75 (a:Value) (h:Heap):loadR Prog 75 a h = ld1 a h:=ld1_eq (by kernel_rfl) a h
@[simp] theorem ld_82 (a:Value) (h:Heap):loadR Prog 82 a h = ld1 a h:=ld1_eq (by kernel_rfl) a h
@[simp] theorem al_82 (h:Heap):allocR Prog 82 h = newP [.pointer none] h:=al_eq (z:=.pointer none) (by kernel_rfl) h
@[simp] theorem st_82 (a v:Value) (h:Heap):storeR Prog 82 a v h = stR 1 a v h:=st_eq (by kernel_rfl) a v h
@[simp] theorem be_22_4 (ps:List (Nat × Value)) (h:Heap):buildSliceR Prog 22 4 ps h = beR 1 4 ps [.int .u8 0,.int .u8 0,.int .u8 0,.int .u8 0] h:=be_eq (e:=5) (by kernel_rfl) (by kernel_rfl) (by kernel_rfl) (by kernel_rfl) ps h
@[simp] theorem ap_22 (a b:Value) (h:Heap):builtinV Prog .append [22,22] [a,b] h = apR 1 1 a b h:=ap_is (e:=5) (z:=.int .u8 0) (by kernel_rfl) (by kernel_rfl) (by kernel_rfl) (by kernel_rfl) (by kernel_rfl) a b h
@[simp] theorem ix_130 (x i:Value) (h:Heap):indexAddrR Prog 130 x i h = ixS 2 x i h:=ixS_eq (e:=126) (by kernel_rfl) (by kernel_rfl) x i h
@[simp] theorem al_126 (h:Heap):allocR Prog 126 h = newP [.int .i16 0,.int .i16 0] h:=al_eq (z:=.agg #[.int .i16 0,.int .i16 0]) (by kernel_rfl) h
@[simp] theorem st_126 (a v:Value) (h:Heap):storeR Prog 126 a v h = stR 2 a v h:=st_eq (by kernel_rfl) a v h
@[simp] theorem al_3 (h:Heap):allocR Prog 3 h = newP [.int .i64 0] h:=al_eq (z:=.int .i64 0) (by kernel_rfl) h
@[simp] theorem st_3 (a v:Value) (h:Heap):storeR Prog 3 a v h = stR 1 a v h:=st_eq (by kernel_rfl) a v h
@[simp] theorem fa_191_0 (a:Value) (h:Heap):fieldAddrR Prog 191 a 0 h = faR 0 1 a h:=fa_is (ft:=159) (by kernel_rfl) (by kernel_rfl) a h
@[simp] theorem fa_150_0 (a:Value) (h:Heap):fieldAddrR Prog 150 a 0 h = faR 0 1 a h:=fa_is (ft:=3) (by kernel_rfl) (by kernel_rfl) a h
@[simp] theorem fa_104_1 (a:Value) (h:Heap):fieldAddrR Prog 104 a 1 h = faR 1 1 a h:=fa_is (ft:=22) (by kernel_rfl) (by kernel_rfl) a h
@[simp] theorem st_98 (a v:Value) (h:Heap):storeR Prog 98 a v h = stR 1 a v h:=st_eq (by kernel_rfl) a v h
@[simp] theorem cv_102_3 (x:Value) (H:Heap):convR Prog 102 3 x H = cvK .i64 x H:=ζ3v (by kernel_rfl) (by kernel_rfl) x H
@[simp] theorem fa_205_0 (a:Value) (h:Heap):fieldAddrR Prog 205 a 0 h = faR 0 1 a h:=fa_is (ft:=203) (by kernel_rfl) (by kernel_rfl) a h
@[simp] theorem ld_203 (a:Value) (h:Heap):loadR Prog 203 a h = ld1 a h:=ld1_eq (by kernel_rfl) a h
@[simp] theorem len_203 (x:Value) (h:Heap):builtinV Prog .len [203] [x] h = lnS x h:=lnS_eq (e:=213) (by kernel_rfl) x h
@[simp] theorem ix_203 (x i:Value) (h:Heap):indexAddrR Prog 203 x i h = ixS 6 x i h:=ixS_eq (e:=213) (by kernel_rfl) (by kernel_rfl) x i h
@[simp] theorem ld_213 (a:Value) (h:Heap):loadR Prog 213 a h = ldA 6 a h:=ldA_eq (by kernel_rfl) (by kernel_rfl) a h
@[simp] theorem al_213 (h:Heap):allocR Prog 213 h = newP [.int .i64 0,.bool false,.bool false,.bool false,.bool false,.nilIface] h:=al_eq (z:=.agg #[.int .i64 0,.bool false,.bool false,.bool false,.bool false,.nilIface]) (by kernel_rfl) h
@[simp] theorem st_213 (a v:Value) (h:Heap):storeR Prog 213 a v h = stR 6 a v h:=st_eq (by kernel_rfl) a v h
@[simp] theorem fa_213_0 (a:Value) (h:Heap):fieldAddrR Prog 213 a 0 h = faR 0 5 a h:=fa_is (ft:=209) (by kernel_rfl) (by kernel_rfl) a h
@[simp] theorem ld_209 (a:Value) (h:Heap):loadR Prog 209 a h = ldA 5 a h:=ldA_eq (by kernel_rfl) (by kernel_rfl) a h
@[simp] theorem az_22_3 (a b:Value) (h:Heap):builtinV Prog .append [22,3] [a,b] h = azR 1 1 [.int .u8 0] a b h:=az_is (kt:=.i64) (e:=5) (z:=.int .u8 0) (by kernel_rfl) (by kernel_rfl) (by kernel_rfl) (by kernel_rfl) (by kernel_rfl) (by kernel_rfl) a b h
@[simp] theorem ld_113 (a:Value) (h:Heap):loadR Prog 113 a h = ldA 1 a h:=ldA_eq (by kernel_rfl) (by kernel_rfl) a h
@[simp] theorem bd_205 (ps:List (Nat × Value)) (h:Heap):buildR Prog 205 ps h = bdR [(0,1)] ps [.slice none 0 0] h:=bd_is (z:=.agg #[.slice none 0 0]) (by kernel_rfl) (by kernel_rfl) (by kernel_rfl) ps h
@[simp] theorem cv_3_102 (x:Value) (H:Heap):convR Prog 3 102 x H = cvK .u32 x H:=ζ3v (by kernel_rfl) (by kernel_rfl) x H
@[simp] theorem al_209 (h:Heap):allocR Prog 209 h = newP [.int .i64 0,.bool false,.bool false,.bool false,.bool false] h:=al_eq (z:=.agg #[.int .i64 0,.bool false,.bool false,.bool false,.bool false]) (by kernel_rfl) h
@[simp] theorem st_209 (a v:Value) (h:Heap):storeR Prog 209 a v h = stR 5 a v h:=st_eq (by kernel_rfl) a v h
@[simp] theorem bd_213 (ps:List (Nat × Value)) (h:Heap):buildR Prog 213 ps h = bdR [(0,5),(5,1)] ps [.int .i64 0,.bool false,.bool false,.bool false,.bool false,.nilIface] h:=bd_is (z:=.agg #[.int .i64 0,.bool false,.bool false,.bool false,.bool false,.nilIface]) (by kernel_rfl) (by kernel_rfl) (by kernel_rfl) ps h
@[simp] theorem be_203_1 (ps:List (Nat × Value)) (h:Heap):buildSliceR Prog 203 1 ps h = beR 6 1 ps [.int .i64 0,.bool false,.bool false,.bool false,.bool false,.nilIface] h:=be_eq (e:=213) (by kernel_rfl) (by kernel_rfl) (by kernel_rfl) (by kernel_rfl) ps h
@[simp] theorem ap_203 (a b:Value) (h:Heap):builtinV Prog .append [203,203] [a,b] h = apR 6 40 a b h:=ap_is (e:=213) (z:=.agg #[.int .i64 0,.bool false,.bool false,.bool false,.bool false,.nilIface]) (by kernel_rfl) (by kernel_rfl) (by kernel_rfl) (by kernel_rfl) (by kernel_rfl) a b h
@[simp] theorem st_203 (a v:Value) (h:Heap):storeR Prog 203 a v h = stR 1 a v h:=st_eq (by kernel_rfl) a v h
@[simp] theorem bd_113 (ps:List (Nat × Value)) (h:Heap):buildR Prog 113 ps h = bdR [(0,1)] ps [.slice none 0 0] h:=bd_is (z:=.agg #[.slice none 0 0]) (by kernel_rfl) (by kernel_rfl) (by kernel_rfl) ps h
@[simp] theorem fa_26_3 (a:Value) (h:Heap):fieldAddrR Prog 26 a 3 h = faR 3 1 a h:=fa_is (ft:=5) (by kernel_rfl) (by kernel_rfl) a h
@[simp] theorem ix_23 (x i:Value) (h:Heap):indexAddrR Prog 23 x i h = ixS 1 x i h:=ixS_eq (e:=22) (by kernel_rfl) (by kernel_rfl) x i h
@[simp] theorem ix_24 (x i:Value) (h:Heap):indexAddrR Prog 24 x i h = ixS 4 x i h:=ixS_eq (e:=129) (by kernel_rfl) (by kernel_rfl) x i h
@[simp] theorem fa_129_0 (a:Value) (h:Heap):fieldAddrR Prog 129 a 0 h = faR 0 1 a h:=fa_is (ft:=3) (by kernel_rfl) (by kernel_rfl) a h
@[simp] theorem fa_129_3 (a:Value) (h:Heap):fieldAddrR Prog 129 a 3 h = faR 3 1 a h:=fa_is (ft:=3) (by kernel_rfl) (by kernel_rfl) a h
@[simp] theorem cv_3_5 (x:Value) (H:Heap):convR Prog 3 5 x H = cvK .u8 x H:=ζ3v (by kernel_rfl) (by kernel_rfl) x H
@[simp] theorem be_22_1 (ps:List (Nat × Value)) (h:Heap):buildSliceR Prog 22 1 ps h = beR 1 1 ps [.int .u8 0] h:=be_eq (e:=5) (by kernel_rfl) (by kernel_rfl) (by kernel_rfl) (by kernel_rfl) ps h
@[simp] theorem be_22_0 (ps:List (Nat × Value)) (h:Heap):buildSliceR Prog 22 0 ps h = beR 1 0 ps [] h:=be_eq (e:=5) (by kernel_rfl) (by kernel_rfl) (by kernel_rfl) (by kernel_rfl) ps h
@[simp] theorem fa_113_0 (a:Value) (h:Heap):fieldAddrR Prog 113 a 0 h = faR 0 1 a h:=fa_is (ft:=22) (by kernel_rfl) (by kernel_rfl) a h
@[simp] theorem cv_21_3 (x:Value) (H:Heap):convR Prog 21 3 x H = cvK .i64 x H:=ζ3v (by kernel_rfl) (by kernel_rfl) x H
@[simp] theorem bd_228 (ps:List (Nat × Value)) (h:Heap):buildR Prog 228 ps h = bdR [(0,1),(1,1),(2,1),(3,1),(4,1),(5,1)] ps [.pointer none,.pointer none,.int .i64 0,.int .i64 0,.int .i64 0,.int .i64 0] h:=bd_is (z:=.agg #[.pointer none,.pointer none,.int .i64 0,.int .i64 0,.int .i64 0,.int .i64 0]) (by kernel_rfl) (by kernel_rfl) (by kernel_rfl) ps h
@[simp] theorem fa_228_4 (a:Value) (h:Heap):fieldAddrR Prog 228 a 4 h = faR 4 1 a h:=fa_is (ft:=3) (by kernel_rfl) (by kernel_rfl) a h
@[simp] theorem fa_228_5 (a:Value) (h:Heap):fieldAddrR Prog 228 a 5 h = faR 5 1 a h:=fa_is (ft:=3) (by kernel_rfl) (by kernel_rfl) a h
@[simp] theorem ld_49 (a:Value) (h:Heap):loadR Prog 49 a h = ld1 a h:=ld1_eq (by kernel_rfl) a h
@[simp] theorem bd_191 (ps:List (Nat × Value)) (h:Heap):buildR Prog 191 ps h = bdR [(0,1),(1,1),(2,1)] ps [.pointer none,.int .i64 0,.slice none 0 0] h:=bd_is (z:=.agg #[.pointer none,.int .i64 0,.slice none 0 0]) (by kernel_rfl) (by kernel_rfl) (by kernel_rfl) ps h
@[simp] theorem fa_191_1 (a:Value) (h:Heap):fieldAddrR Prog 191 a 1 h = faR 1 1 a h:=fa_is (ft:=3) (by kernel_rfl) (by kernel_rfl) a h
@[simp] theorem fa_191_2 (a:Value) (h:Heap):fieldAddrR Prog 191 a 2 h = faR 2 1 a h:=fa_is (ft:=113) (by kernel_rfl) (by kernel_rfl) a h
@[simp] theorem fa_115_0 (a:Value) (h:Heap):fieldAddrR Prog 115 a 0 h = faR 0 1 a h:=fa_is (ft:=111) (by kernel_rfl) (by kernel_rfl) a h
@[simp] theorem ld_111 (a:Value) (h:Heap):loadR Prog 111 a h = ld1 a h:=ld1_eq (by kernel_rfl) a h
@[simp] theorem fa_115_1 (a:Value) (h:Heap):fieldAddrR Prog 115 a 1 h = faR 1 1 a h:=fa_is (ft:=113) (by kernel_rfl) (by kernel_rfl) a h
@[simp] theorem al_150 (h:Heap):allocR Prog 150 h = newP [.int .i64 0,.int .i64 0] h:=al_eq (z:=.agg #[.int .i64 0,.int .i64 0]) (by kernel_rfl) h
@[simp] theorem st_150 (a v:Value) (h:Heap):storeR Prog 150 a v h = stR 2 a v h:=st_eq (by kernel_rfl) a v h
@[simp] theorem al_195 (h:Heap):allocR Prog 195 h = newP [.int .i64 0,.int .i64 0] h:=al_eq (z:=.agg #[.int .i64 0,.int .i64 0]) (by kernel_rfl) h
@[simp] theorem st_195 (a v:Value) (h:Heap):storeR Prog 195 a v h = stR 2 a v h:=st_eq (by kernel_rfl) a v h
@[simp] theorem fa_195_0 (a:Value) (h:Heap):fieldAddrR Prog 195 a 0 h = faR 0 1 a h:=fa_is (ft:=3) (by kernel_rfl) (by kernel_rfl) a h
@[simp] theorem fa_195_1 (a:Value) (h:Heap):fieldAddrR Prog 195 a 1 h = faR 1 1 a h:=fa_is (ft:=3) (by kernel_rfl) (by kernel_rfl) a h
@[simp] theorem ld_195 (a:Value) (h:Heap):loadR Prog 195 a h = ldA 2 a h:=ldA_eq (by kernel_rfl) (by kernel_rfl) a h
@[simp] theorem bd_195 (ps:List (Nat × Value)) (h:Heap):buildR Prog 195 ps h = bdR [(0,1),(1,1)] ps [.int .i64 0,.int .i64 0] h:=bd_is (z:=.agg #[.int .i64 0,.int .i64 0]) (by kernel_rfl) (by kernel_rfl) (by kernel_rfl) ps h
@[simp] theorem fa_209_0 (a:Value) (h:Heap):fieldAddrR Prog 209 a 0 h = faR 0 3 a h:=fa_is (ft:=207) (by kernel_rfl) (by kernel_rfl) a h
@[simp] theorem ld_207 (a:Value) (h:Heap):loadR Prog 207 a h = ldA 3 a h:=ldA_eq (by kernel_rfl) (by kernel_rfl) a h
@[simp] theorem fa_209_2 (a:Value) (h:Heap):fieldAddrR Prog 209 a 2 h = faR 4 1 a h:=fa_is (ft:=4) (by kernel_rfl) (by kernel_rfl) a h
@[simp] theorem fa_213_1 (a:Value) (h:Heap):fieldAddrR Prog 213 a 1 h = faR 5 1 a h:=fa_is (ft:=211) (by kernel_rfl) (by kernel_rfl) a h
@[simp] theorem ld_211 (a:Value) (h:Heap):loadR Prog 211 a h = ld1 a h:=ld1_eq (by kernel_rfl) a h
@[simp] theorem fa_209_1 (a:Value) (h:Heap):fieldAddrR Prog 209 a 1 h = faR 3 1 a h:=fa_is (ft:=4) (by kernel_rfl) (by kernel_rfl) a h
@[simp] theorem bd_207 (ps:List (Nat × Value)) (h:Heap):buildR Prog 207 ps h = bdR [(0,1),(1,1),(2,1)] ps [.int .i64 0,.bool false,.bool false] h:=bd_is (z:=.agg #[.int .i64 0,.bool false,.bool false]) (by kernel_rfl) (by kernel_rfl) (by kernel_rfl) ps h
@[simp] theorem bd_209 (ps:List (Nat × Value)) (h:Heap):buildR Prog 209 ps h = bdR [(0,3),(3,1),(4,1)] ps [.int .i64 0,.bool false,.bool false,.bool false,.bool false] h:=bd_is (z:=.agg #[.int .i64 0,.bool false,.bool false,.bool false,.bool false]) (by kernel_rfl) (by kernel_rfl) (by kernel_rfl) ps h
@[simp] theorem fa_207_0 (a:Value) (h:Heap):fieldAddrR Prog 207 a 0 h = faR 0 1 a h:=fa_is (ft:=3) (by kernel_rfl) (by kernel_rfl) a h
@[simp] theorem bd_256 (ps:List (Nat × Value)) (h:Heap):buildR Prog 256 ps h = bdR [(0,1)] ps [.pointer none] h:=bd_is (z:=.agg #[.pointer none]) (by kernel_rfl) (by kernel_rfl) (by kernel_rfl) ps h
@[simp] theorem if_256 (x:Value) (h:Heap):ifaceR Prog 256 x h = .ok (.iface 256 x) h:=by kernel_rfl
@[simp] theorem bd_259 (ps:List (Nat × Value)) (h:Heap):buildR Prog 259 ps h = bdR [(0,1),(1,1),(2,1),(3,1)] ps [.int .i64 0,.pointer none,.slice none 0 0,.slice none 0 0] h:=bd_is (z:=.agg #[.int .i64 0,.pointer none,.slice none 0 0,.slice none 0 0]) (by kernel_rfl) (by kernel_rfl) (by kernel_rfl) ps h
@[simp] theorem bd_261 (ps:List (Nat × Value)) (h:Heap):buildR Prog 261 ps h = bdR [(0,1),(1,1),(2,1),(3,1)] ps [.pointer none,.slice none 0 0,.slice none 0 0,.int .i64 0] h:=bd_is (z:=.agg #[.pointer none,.slice none 0 0,.slice none 0 0,.int .i64 0]) (by kernel_rfl) (by kernel_rfl) (by kernel_rfl) ps h
@[simp] theorem al_261 (h:Heap):allocR Prog 261 h = newP [.pointer none,.slice none 0 0,.slice none 0 0,.int .i64 0] h:=al_eq (z:=.agg #[.pointer none,.slice none 0 0,.slice none 0 0,.int .i64 0]) (by kernel_rfl) h
@[simp] theorem st_261 (a v:Value) (h:Heap):storeR Prog 261 a v h = stR 4 a v h:=st_eq (by kernel_rfl) a v h
@[simp] theorem fa_259_2 (a:Value) (h:Heap):fieldAddrR Prog 259 a 2 h = faR 2 1 a h:=fa_is (ft:=257) (by kernel_rfl) (by kernel_rfl) a h
@[simp] theorem ld_257 (a:Value) (h:Heap):loadR Prog 257 a h = ld1 a h:=ld1_eq (by kernel_rfl) a h
@[simp] theorem len_257 (x:Value) (h:Heap):builtinV Prog .len [257] [x] h = lnS x h:=lnS_eq (e:=30) (by kernel_rfl) x h
@[simp] theorem fa_259_3 (a:Value) (h:Heap):fieldAddrR Prog 259 a 3 h = faR 3 1 a h:=fa_is (ft:=24) (by kernel_rfl) (by kernel_rfl) a h
@[simp] theorem ld_261 (a:Value) (h:Heap):loadR Prog 261 a h = ldA 4 a h:=ldA_eq (by kernel_rfl) (by kernel_rfl) a h
@[simp] theorem be_24_0 (ps:List (Nat × Value)) (h:Heap):buildSliceR Prog 24 0 ps h = beR 4 0 ps [] h:=be_eq (e:=129) (by kernel_rfl) (by kernel_rfl) (by kernel_rfl) (by kernel_rfl) ps h
@[simp] theorem ap_24 (a b:Value) (h:Heap):builtinV Prog .append [24,24] [a,b] h = apR 4 32 a b h:=ap_is (e:=129) (z:=.agg #[.int .i64 0,.int .i64 0,.int .i64 0,.int .i64 0]) (by kernel_rfl) (by kernel_rfl) (by kernel_rfl) (by kernel_rfl) (by kernel_rfl) a b h
@[simp] theorem fa_228_0 (a:Value) (h:Heap):fieldAddrR Prog 228 a 0 h = faR 0 1 a h:=fa_is (ft:=159) (by kernel_rfl) (by kernel_rfl) a h
@[simp] theorem fa_228_2 (a:Value) (h:Heap):fieldAddrR Prog 228 a 2 h = faR 2 1 a h:=fa_is (ft:=3) (by kernel_rfl) (by kernel_rfl) a h
@[simp] theorem fa_228_3 (a:Value) (h:Heap):fieldAddrR Prog 228 a 3 h = faR 3 1 a h:=fa_is (ft:=3) (by kernel_rfl) (by kernel_rfl) a h
@[simp] theorem ld_168 (a:Value) (h:Heap):loadR Prog 168 a h = ld1 a h:=ld1_eq (by kernel_rfl) a h
@[simp] theorem cv_3_125 (x:Value) (H:Heap):convR Prog 3 125 x H = cvK .i16 x H:=ζ3v (by kernel_rfl) (by kernel_rfl) x H
@[simp] theorem cv_125_3 (x:Value) (H:Heap):convR Prog 125 3 x H = cvK .i64 x H:=ζ3v (by kernel_rfl) (by kernel_rfl) x H
@[simp] theorem bd_267 (ps:List (Nat × Value)) (h:Heap):buildR Prog 267 ps h = bdR [(0,1),(1,1),(2,1)] ps [.slice none 0 0,.int .i64 0,.int .i64 0] h:=bd_is (z:=.agg #[.slice none 0 0,.int .i64 0,.int .i64 0]) (by kernel_rfl) (by kernel_rfl) (by kernel_rfl) ps h
@[simp] theorem al_267 (h:Heap):allocR Prog 267 h = newP [.slice none 0 0,.int .i64 0,.int .i64 0] h:=al_eq (z:=.agg #[.slice none 0 0,.int .i64 0,.int .i64 0]) (by kernel_rfl) h
@[simp] theorem st_267 (a v:Value) (h:Heap):storeR Prog 267 a v h = stR 3 a v h:=st_eq (by kernel_rfl) a v h
@[simp] theorem bd_270 (ps:List (Nat × Value)) (h:Heap):buildR Prog 270 ps h = bdR [(0,1),(1,1)] ps [.int .i64 0,.slice none 0 0] h:=bd_is (z:=.agg #[.int .i64 0,.slice none 0 0]) (by kernel_rfl) (by kernel_rfl) (by kernel_rfl) ps h
@[simp] theorem fa_270_0 (a:Value) (h:Heap):fieldAddrR Prog 270 a 0 h = faR 0 1 a h:=fa_is (ft:=3) (by kernel_rfl) (by kernel_rfl) a h
@[simp] theorem bd_273 (ps:List (Nat × Value)) (h:Heap):buildR Prog 273 ps h = bdR [(0,1),(1,1),(2,1)] ps [.int .i64 0,.int .i64 0,.slice none 0 0] h:=bd_is (z:=.agg #[.int .i64 0,.int .i64 0,.slice none 0 0]) (by kernel_rfl) (by kernel_rfl) (by kernel_rfl) ps h
@[simp] theorem be_268_1 (ps:List (Nat × Value)) (h:Heap):buildSliceR Prog 268 1 ps h = beR 3 1 ps [.int .i64 0,.int .i64 0,.slice none 0 0] h:=be_eq (e:=273) (by kernel_rfl) (by kernel_rfl) (by kernel_rfl) (by kernel_rfl) ps h
@[simp] theorem fa_270_1 (a:Value) (h:Heap):fieldAddrR Prog 270 a 1 h = faR 1 1 a h:=fa_is (ft:=268) (by kernel_rfl) (by kernel_rfl) a h
@[simp] theorem st_268 (a v:Value) (h:Heap):storeR Prog 268 a v h = stR 1 a v h:=st_eq (by kernel_rfl) a v h
@[simp] theorem ld_267 (a:Value) (h:Heap):loadR Prog 267 a h = ldA 3 a h:=ldA_eq (by kernel_rfl) (by kernel_rfl) a h
@[simp] theorem ld_268 (a:Value) (h:Heap):loadR Prog 268 a h = ld1 a h:=ld1_eq (by kernel_rfl) a h
@[simp] theorem len_268 (x:Value) (h:Heap):builtinV Prog .len [268] [x] h = lnS x h:=lnS_eq (e:=273) (by kernel_rfl) x h
@[simp] theorem ix_268 (x i:Value) (h:Heap):indexAddrR Prog 268 x i h = ixS 3 x i h:=ixS_eq (e:=273) (by kernel_rfl) (by kernel_rfl) x i h
@[simp] theorem fa_273_1 (a:Value) (h:Heap):fieldAddrR Prog 273 a 1 h = faR 1 1 a h:=fa_is (ft:=3) (by kernel_rfl) (by kernel_rfl) a h
@[simp] theorem fa_273_0 (a:Value) (h:Heap):fieldAddrR Prog 273 a 0 h = faR 0 1 a h:=fa_is (ft:=3) (by kernel_rfl) (by kernel_rfl) a h
@[simp] theorem fa_207_1 (a:Value) (h:Heap):fieldAddrR Prog 207 a 1 h = faR 1 1 a h:=fa_is (ft:=4) (by kernel_rfl) (by kernel_rfl) a h
@[simp] theorem fa_207_2 (a:Value) (h:Heap):fieldAddrR Prog 207 a 2 h = faR 2 1 a h:=fa_is (ft:=4) (by kernel_rfl) (by kernel_rfl) a h
@[simp] theorem bd_217 (ps:List (Nat × Value)) (h:Heap):buildR Prog 217 ps h = bdR [] ps [] h:=bd_is (z:=.agg #[]) (by kernel_rfl) (by kernel_rfl) (by kernel_rfl) ps h
@[simp] theorem if_217 (x:Value) (h:Heap):ifaceR Prog 217 x h = .ok (.iface 217 x) h:=by kernel_rfl
@[simp] theorem fa_261_0 (a:Value) (h:Heap):fieldAddrR Prog 261 a 0 h = faR 0 1 a h:=fa_is (ft:=159) (by kernel_rfl) (by kernel_rfl) a h
@[simp] theorem fa_259_0 (a:Value) (h:Heap):fieldAddrR Prog 259 a 0 h = faR 0 1 a h:=fa_is (ft:=3) (by kernel_rfl) (by kernel_rfl) a h
@[simp] theorem fa_261_1 (a:Value) (h:Heap):fieldAddrR Prog 261 a 1 h = faR 1 1 a h:=fa_is (ft:=113) (by kernel_rfl) (by kernel_rfl) a h
@[simp] theorem be_257_1 (ps:List (Nat × Value)) (h:Heap):buildSliceR Prog 257 1 ps h = beR 1 1 ps [.slice none 0 0] h:=be_eq (e:=30) (by kernel_rfl) (by kernel_rfl) (by kernel_rfl) (by kernel_rfl) ps h
@[simp] theorem ap_257 (a b:Value) (h:Heap):builtinV Prog .append [257,257] [a,b] h = apR 1 24 a b h:=ap_is (e:=30) (z:=.slice none 0 0) (by kernel_rfl) (by kernel_rfl) (by kernel_rfl) (by kernel_rfl) (by kernel_rfl) a b h
@[simp] theorem st_257 (a v:Value) (h:Heap):storeR Prog 257 a v h = stR 1 a v h:=st_eq (by kernel_rfl) a v h
@[simp] theorem fa_261_3 (a:Value) (h:Heap):fieldAddrR Prog 261 a 3 h = faR 3 1 a h:=fa_is (ft:=3) (by kernel_rfl) (by kernel_rfl) a h
@[simp] theorem fa_261_2 (a:Value) (h:Heap):fieldAddrR Prog 261 a 2 h = faR 2 1 a h:=fa_is (ft:=113) (by kernel_rfl) (by kernel_rfl) a h
@[simp] theorem be_24_1 (ps:List (Nat × Value)) (h:Heap):buildSliceR Prog 24 1 ps h = beR 4 1 ps [.int .i64 0,.int .i64 0,.int .i64 0,.int .i64 0] h:=be_eq (e:=129) (by kernel_rfl) (by kernel_rfl) (by kernel_rfl) (by kernel_rfl) ps h
@[simp] theorem st_24 (a v:Value) (h:Heap):storeR Prog 24 a v h = stR 1 a v h:=st_eq (by kernel_rfl) a v h
@[simp] theorem fa_228_1 (a:Value) (h:Heap):fieldAddrR Prog 228 a 1 h = faR 1 1 a h:=fa_is (ft:=52) (by kernel_rfl) (by kernel_rfl) a h
@[simp] theorem ix_257 (x i:Value) (h:Heap):indexAddrR Prog 257 x i h = ixS 1 x i h:=ixS_eq (e:=30) (by kernel_rfl) (by kernel_rfl) x i h
@[simp] theorem fa_267_2 (a:Value) (h:Heap):fieldAddrR Prog 267 a 2 h = faR 2 1 a h:=fa_is (ft:=3) (by kernel_rfl) (by kernel_rfl) a h
@[simp] theorem fa_267_0 (a:Value) (h:Heap):fieldAddrR Prog 267 a 0 h = faR 0 1 a h:=fa_is (ft:=113) (by kernel_rfl) (by kernel_rfl) a h
@[simp] theorem len_287 (x:Value) (h:Heap):builtinV Prog .len [287] [x] h = lnS x h:=lnS_eq (e:=113) (by kernel_rfl) x h
@[simp] theorem ix_287 (x i:Value) (h:Heap):indexAddrR Prog 287 x i h = ixS 1 x i h:=ixS_eq (e:=113) (by kernel_rfl) (by kernel_rfl) x i h
@[simp] theorem al_273 (h:Heap):allocR Prog 273 h = newP [.int .i64 0,.int .i64 0,.slice none 0 0] h:=al_eq (z:=.agg #[.int .i64 0,.int .i64 0,.slice none 0 0]) (by kernel_rfl) h
@[simp] theorem st_273 (a v:Value) (h:Heap):storeR Prog 273 a v h = stR 3 a v h:=st_eq (by kernel_rfl) a v h
@[simp] theorem fa_273_2 (a:Value) (h:Heap):fieldAddrR Prog 273 a 2 h = faR 2 1 a h:=fa_is (ft:=30) (by kernel_rfl) (by kernel_rfl) a h
@[simp] theorem st_30 (a v:Value) (h:Heap):storeR Prog 30 a v h = stR 1 a v h:=st_eq (by kernel_rfl) a v h
@[simp] theorem ld_273 (a:Value) (h:Heap):loadR Prog 273 a h = ldA 3 a h:=ldA_eq (by kernel_rfl) (by kernel_rfl) a h
@[simp] theorem ap_268 (a b:Value) (h:Heap):builtinV Prog .append [268,268] [a,b] h = apR 3 40 a b h:=ap_is (e:=273) (z:=.agg #[.int .i64 0,.int .i64 0,.slice none 0 0]) (by kernel_rfl) (by kernel_rfl) (by kernel_rfl) (by kernel_rfl) (by kernel_rfl) a b h
@[simp] theorem eqp_111 (cs:Array Value) (h:Heap):binR Prog .eql 111 (boxV cs) (.pointer none) h = .ok (.bool false) h:=by kernel_rfl
@[simp] theorem eqn_111 (h:Heap):binR Prog .eql 111 (.pointer none) (.pointer none) h = .ok (.bool true) h:=by kernel_rfl
@[simp] theorem fa_259_1 (a:Value) (h:Heap):fieldAddrR Prog 259 a 1 h = faR 1 1 a h:=fa_is (ft:=111) (by kernel_rfl) (by kernel_rfl) a h
@[simp] theorem be_287_1 (ps:List (Nat × Value)) (h:Heap):buildSliceR Prog 287 1 ps h = beR 1 1 ps [.slice none 0 0] h:=be_eq (e:=113) (by kernel_rfl) (by kernel_rfl) (by kernel_rfl) (by kernel_rfl) ps h
@[simp] theorem ap_287 (a b:Value) (h:Heap):builtinV Prog .append [287,287] [a,b] h = apR 1 24 a b h:=ap_is (e:=113) (z:=.agg #[.slice none 0 0]) (by kernel_rfl) (by kernel_rfl) (by kernel_rfl) (by kernel_rfl) (by kernel_rfl) a b h
@[simp] theorem sl_287 (x:Value) (lo hi mx:Option Value) (h:Heap):sliceR Prog 287 x lo hi mx h = slS 1 x lo hi mx h:=slS_eq (e:=113) (by kernel_rfl) (by kernel_rfl) x lo hi mx h
@[simp] theorem fa_256_0 (a:Value) (h:Heap):fieldAddrR Prog 256 a 0 h = faR 0 1 a h:=fa_is (ft:=75) (by kernel_rfl) (by kernel_rfl) a h
end
end Go.Sw
