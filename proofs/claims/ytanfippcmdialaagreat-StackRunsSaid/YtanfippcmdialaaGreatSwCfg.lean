/-
  The seat's functions by their names, and facts of their types.
-/
import Derived.Test.YtanfippcmdialaaGreatSwLib7
import Derived.Test.YtanfippcmdialaaGreatSwLib11
import Derived.Test.YtanfippcmdialaaGreatRows
namespace Go.Sw
noncomputable section
noncomputable abbrev Prog:Program:=Go.Proofs.Tryz.prog
namespace F
abbrev ζ9:Nat:=3
abbrev ζ2q:Nat:=10
abbrev ζ1i:Nat:=11
abbrev ζ1c:Nat:=12
abbrev ζ5t:Nat:=13
abbrev ζy:Nat:=14
abbrev ζ5r:Nat:=15
abbrev ζ18:Nat:=16
abbrev line_New:Nat:=17
abbrev ζ28:Nat:=18
abbrev ζ45:Nat:=19
abbrev ζ2u:Nat:=20
abbrev ζg:Nat:=21
abbrev ζ0:Nat:=22
abbrev ζ2f:Nat:=23
abbrev ζ1m:Nat:=24
abbrev ζ31:Nat:=25
abbrev ζ1t:Nat:=26
abbrev ζ3n:Nat:=27
abbrev ζig:Nat:=28
abbrev view_Try:Nat:=47
abbrev view_Of:Nat:=50
abbrev ζ1:Nat:=52
abbrev ζ8:Nat:=53
abbrev ζ46:Nat:=54
abbrev ζ2t:Nat:=55
abbrev ζ3a:Nat:=56
abbrev ζ6:Nat:=57
abbrev ζ2w:Nat:=58
abbrev ζ2:Nat:=59
abbrev ζi:Nat:=60
abbrev ζ5f:Nat:=61
abbrev ζ1z:Nat:=62
abbrev ζ7z:Nat:=63
abbrev ζ5o:Nat:=64
abbrev ζ6g:Nat:=65
abbrev ζa:Nat:=66
abbrev ζ39:Nat:=67
abbrev ζ1k:Nat:=68
abbrev ζ16:Nat:=69
abbrev ζ2j:Nat:=70
abbrev ζ3f:Nat:=71
abbrev ζ32:Nat:=72
abbrev ζ1l:Nat:=73
abbrev ζ3d:Nat:=74
abbrev ζj:Nat:=75
abbrev ζ14:Nat:=76
abbrev ζc:Nat:=77
abbrev ζe:Nat:=78
abbrev ζ7:Nat:=79
abbrev ζ2x:Nat:=82
abbrev ζ19:Nat:=85
abbrev ζ2e:Nat:=86
abbrev ζ12:Nat:=87
abbrev ζ55:Nat:=89
abbrev ζd:Nat:=99
abbrev ζ25:Nat:=100
abbrev ζ3g:Nat:=101
abbrev ζ2y:Nat:=102
abbrev ζ21:Nat:=105
abbrev ζ3b:Nat:=106
abbrev ζ22:Nat:=107
abbrev ζ1j:Nat:=108
abbrev ζ2o:Nat:=109
abbrev ζ2b:Nat:=110
abbrev ζ3x:Nat:=111
abbrev ζ3w:Nat:=112
abbrev ζ1w:Nat:=113
abbrev ζ1o:Nat:=114
abbrev ζ1e:Nat:=115
abbrev ζ20:Nat:=116
abbrev ζ1s:Nat:=117
abbrev ζ3o:Nat:=118
abbrev ζ1g:Nat:=120
abbrev ζh:Nat:=121
abbrev ζ56:Nat:=122
abbrev ζ1a:Nat:=129
abbrev ζas:Nat:=130
abbrev ζ1h:Nat:=132
abbrev ζb:Nat:=133
abbrev ζ27:Nat:=134
abbrev ζ1d:Nat:=135
abbrev ζ2p:Nat:=136
abbrev ζ3p:Nat:=137
abbrev ζ4:Nat:=138
abbrev ζ1b:Nat:=139
abbrev ζ1p:Nat:=140
abbrev ζ4q:Nat:=142
abbrev ζ3:Nat:=143
abbrev ζ5:Nat:=144
abbrev ζ13:Nat:=145
abbrev ζ2g:Nat:=147
abbrev ζ1f:Nat:=153
abbrev ζ2v:Nat:=154
abbrev ζ33:Nat:=155
abbrev ζ5s:Nat:=156
abbrev ζ1u:Nat:=157
abbrev ζ5c:Nat:=159
abbrev ζ80:Nat:=160
end F
def kp2:List (Nat × List Nat):=[(0,[])]
def kp3:List (Nat × List Nat):=[(0,[1,3,5]),(1,[1,3,5,21]),(2,[6]),(3,[1,3,5,25]),(4,[6]),(5,[1,3,5,7]),(6,[1,3,5,7,8,9]),(7,[1,5,7,8,9,10,11]),(8,[1,5,7,8,9,10,40]),(9,[6]),(10,[1,5,7,8,10,52]),(11,[6]),(12,[1,5,7,8,10,54,55]),(13,[1,5,7,8,10,54,55,56]),(14,[1,5,7,8,10,12,54,55]),(15,[1,5,7,8,10,54,55]),(16,[1,5,7,8,10,54,55]),(17,[1,5,8,10,13,14]),(18,[1,5,8,10,13,14,70,71]),(19,[1,5,8,10,13,14,70,71,72]),(20,[1,5,8,10,13,14,15,70,71]),(21,[1,5,8,10,13,14,70,71]),(22,[1,5,8,10,13,14,70,71]),(23,[1,5,10,13,14,16]),(24,[1,5,10,13,14,16,17]),(25,[1,5,10,13,14,16,17,91,92]),(26,[1,5,10,13,14,16,17,91,92,93]),(27,[1,5,10,13,14,16,17,18,91,92]),(28,[1,5,10,13,14,16,17,91,92]),(29,[1,5,10,13,14,16,17,91,92]),(30,[1,13,14,16,17,19]),(31,[6]),(1000013,[1,5,7,8,10,54,55]),(1000019,[1,5,8,10,13,14,70,71]),(1000026,[1,5,10,13,14,16,17,91,92])]
def kp4:List (Nat × List Nat):=[]
def kp5:List (Nat × List Nat):=[]
def kp6:List (Nat × List Nat):=[]
def kp7:List (Nat × List Nat):=[]
def kp8:List (Nat × List Nat):=[]
def kp9:List (Nat × List Nat):=[]
def kp10:List (Nat × List Nat):=[(0,[]),(1,[1]),(2,[2,3]),(3,[2,3,4]),(4,[2,4,34]),(5,[0]),(6,[4,5]),(7,[0])]
def kp11:List (Nat × List Nat):=[(0,[1,2]),(1,[4])]
def kp12:List (Nat × List Nat):=[(0,[1]),(1,[1,3]),(2,[1,3]),(3,[3,16,17,18]),(4,[3,16,17,18,19]),(5,[3,5,16,17,18]),(6,[3,16,17,18]),(7,[3,16,17,18]),(8,[2]),(1000004,[3,16,17,18])]
def kp13:List (Nat × List Nat):=[(0,[0,3,4]),(1,[0,3,4,12]),(2,[4,5]),(3,[3,4,6]),(4,[4,19]),(5,[4,5]),(6,[4,5])]
def kp14:List (Nat × List Nat):=[(0,[0,1,4]),(1,[0,4,6,7]),(2,[4,6,7,8,9]),(3,[4,6,8,32]),(4,[4,5]),(5,[4,6,8,10]),(6,[4,6,8,10,37]),(7,[4,6,8,10]),(8,[4,6,8,10,11]),(9,[4,6,8,10,11,12]),(10,[4,6,8,10,11,12,47]),(11,[4,6,8,10,11,12]),(12,[4,6,8,10,11,12,13]),(13,[4,6,8,10,11,12,13,55]),(14,[4,5]),(15,[4,6,8,10,11,12,59]),(16,[4,5]),(1000006,[4,6,8,10]),(1000010,[4,6,8,10,11,12])]
def kp15:List (Nat × List Nat):=[(0,[0,1]),(1,[1,5]),(2,[5,12,13,14]),(3,[5,12,13,14,15]),(4,[5,7,12,13,14]),(5,[5,12,13,14]),(6,[5,12,13,14]),(7,[4]),(1000003,[5,12,13,14])]
def kp16:List (Nat × List Nat):=[(0,[0]),(1,[0,3]),(2,[3,6,7]),(3,[3,6,7,8]),(4,[3,4,6,7]),(5,[3,6,7]),(6,[3,6,7]),(7,[2]),(1000003,[3,6,7])]
def kp17:List (Nat × List Nat):=[(0,[0]),(1,[0,3]),(2,[3,8,9,10]),(3,[3,8,9,10,11]),(4,[3,4,5,8,9,10]),(5,[3,8,9,10]),(6,[3,8,9,10]),(7,[2]),(1000003,[3,8,9,10])]
def kp18:List (Nat × List Nat):=[(0,[2,3,8]),(1,[])]
def kp19:List (Nat × List Nat):=[(0,[4,5,6,7]),(1,[4,5,6,7,9]),(2,[11]),(3,[8])]
def kp20:List (Nat × List Nat):=[(0,[0]),(1,[0,3]),(2,[0,3,4]),(3,[0,3,4,9]),(4,[0,3,4]),(5,[0,3,4]),(6,[2]),(1000003,[0,3,4])]
def kp21:List (Nat × List Nat):=[(0,[0,1,2,3,4]),(1,[1,2,3,4,11]),(2,[1,2,3,4,11,22]),(3,[1,3,4,11]),(4,[1,4,11]),(5,[11]),(6,[10])]
def kp22:List (Nat × List Nat):=[(0,[1,2,3,4,5]),(1,[1,2,3,4,5,12]),(2,[1,2,3,4,5,12,13]),(3,[1,2,3,4,5,12,13,26]),(4,[1,2,3,4,5,12,13,14]),(5,[1,2,3,4,5,12,13,14,39]),(6,[1,2,3,4,5,12,13,14]),(7,[1,2,3,4,5,12,13,14,50]),(8,[1,2,3,4,5,12,13,14]),(9,[1,2,3,4,5,12,13,14,60]),(10,[1,2,3,4,5,12,13,14]),(11,[1,2,3,4,5,12,13,14,16]),(12,[1,2,3,4,5,12,13,14,16,17]),(13,[1,2,3,4,5,12,13,14,17,74]),(14,[1,2,3,4,5,12,13,14,16,17]),(15,[1,2,3,4,5,12,13,14,17,18]),(16,[1,2,3,4,5,12,13,14,17,18]),(17,[1,2,3,4,5,12,13,14,17,18,19]),(18,[1,2,3,4,5,12,13,14,16,17,18,19]),(19,[1,2,3,4,5,12,13,14,16,17,18,19,101]),(20,[1,2,3,4,5,12,13,14,16,17,18,19]),(21,[1,2,3,4,5,12,13,14,16,17,18,19,105]),(22,[1,2,3,4,5,12,13,14,16,17]),(23,[1,2,3,4,5,12,13,14,16,17,18,19,111]),(24,[1,2,3,4,5,12,13,14,16,17]),(25,[1,2,3,4,5,12,13,14,16,17]),(26,[1,2,3,4,5,12,13]),(27,[10,11]),(1000003,[1,2,3,4,5,12,13]),(1000013,[1,2,3,4,5,12,13,14,16,17])]
def kp23:List (Nat × List Nat):=[(0,[0]),(1,[0,3]),(2,[0,3,4]),(3,[0,3,4,9]),(4,[0,3,4]),(5,[0,3,4]),(6,[2]),(1000003,[0,3,4])]
def kp24:List (Nat × List Nat):=[(0,[0,1]),(1,[0,1,10]),(2,[4]),(3,[0,1,5]),(4,[0,1,5,14]),(5,[0,1,5]),(6,[0,1,5,25]),(7,[4]),(8,[4]),(1000004,[0,1,5])]
def kp25:List (Nat × List Nat):=[(0,[0]),(1,[2])]
def kp26:List (Nat × List Nat):=[(0,[0,1]),(1,[0,1,10]),(2,[4]),(3,[0,1,5]),(4,[0,1,5,14]),(5,[0,1,5]),(6,[0,1,5,25]),(7,[4]),(8,[4]),(1000004,[0,1,5])]
def kp27:List (Nat × List Nat):=[(0,[0]),(1,[2])]
def kp28:List (Nat × List Nat):=[(0,[]),(1,[1]),(2,[2,3]),(3,[2,3,4]),(4,[2,4,34]),(5,[0]),(6,[4,5]),(7,[0])]
def kp29:List (Nat × List Nat):=[]
def kp30:List (Nat × List Nat):=[]
def kp31:List (Nat × List Nat):=[]
def kp32:List (Nat × List Nat):=[]
def kp33:List (Nat × List Nat):=[]
def kp34:List (Nat × List Nat):=[]
def kp35:List (Nat × List Nat):=[]
def kp36:List (Nat × List Nat):=[]
def kp37:List (Nat × List Nat):=[]
def kp38:List (Nat × List Nat):=[(0,[]),(1,[1,2]),(2,[1,2,3]),(3,[1,3,31]),(4,[0]),(5,[3,4]),(6,[0])]
def kp39:List (Nat × List Nat):=[]
def kp40:List (Nat × List Nat):=[]
def kp41:List (Nat × List Nat):=[]
def kp42:List (Nat × List Nat):=[]
def kp43:List (Nat × List Nat):=[]
def kp44:List (Nat × List Nat):=[]
def kp45:List (Nat × List Nat):=[]
def kp46:List (Nat × List Nat):=[]
def kp47:List (Nat × List Nat):=[(0,[0,2]),(1,[0,2]),(2,[2]),(3,[2])]
def kp48:List (Nat × List Nat):=[]
def kp49:List (Nat × List Nat):=[]
def kp50:List (Nat × List Nat):=[(0,[0,2]),(1,[2])]
def kp51:List (Nat × List Nat):=[]
def kp52:List (Nat × List Nat):=[(0,[1,2,3]),(1,[1,2,3,7]),(2,[1,2,3,7,8]),(3,[1,2,3,7,8,9]),(4,[1,2,3,7,8,9,35,36,37]),(5,[1,2,3,7,8,9,35,36,37,38]),(6,[1,2,3,7,8,9,11,35,36,37]),(7,[1,2,3,7,8,9,35,36,37]),(8,[1,2,3,7,8,9,35,36,37]),(9,[1,2,3,7,8,9,12,13]),(10,[1,2,3,7,8,9,12,13,47,48,49]),(11,[1,2,3,7,8,9,12,13,47,48,49,50]),(12,[1,2,3,7,8,9,12,13,15,47,48,49]),(13,[1,2,3,7,8,9,12,13,15,47,48,49,53,54]),(14,[1,2,3,7,8,9,12,13,15,47,48,49,53,54,55]),(15,[1,2,3,7,8,9,12,13,15,16,47,48,49,53,54]),(16,[1,2,3,7,8,9,12,13,15,16,17,47,48,49,53,54]),(17,[1,2,3,7,8,9,12,13,15,16,17,47,48,49,53,54,60]),(18,[1,2,3,7,8,9,12,13,15,17,47,48,49,53,54]),(19,[1,2,3,7,8,9,12,13,15,47,48,49,53,54]),(20,[1,2,3,7,8,9,12,13,15,47,48,49,53,54]),(21,[1,2,3,7,8,9,12,13,47,48,49]),(22,[1,2,7,8,9,12,13,72,73,74]),(23,[1,2,7,8,9,12,13,72,73,74,75]),(24,[1,2,7,8,9,12,13,19,72,73,74]),(25,[1,2,7,8,9,12,13,19,72,73,74]),(26,[1,2,7,8,9,12,13,19,72,73,74,88]),(27,[1,2,7,8,9,12,13,19,72,73,74]),(28,[1,2,7,8,9,12,13,19,72,73,74,95]),(29,[1,2,7,8,9,12,13,72,73,74]),(30,[1,2,7,8,9,12,13,72,73,74]),(31,[2,8,9,12,13,20]),(32,[2,9,12,13,20]),(33,[9,12,13,20]),(34,[6]),(1000005,[1,2,3,7,8,9,35,36,37]),(1000011,[1,2,3,7,8,9,12,13,47,48,49]),(1000014,[1,2,3,7,8,9,12,13,15,47,48,49,53,54]),(1000023,[1,2,7,8,9,12,13,72,73,74])]
def kp53:List (Nat × List Nat):=[(0,[0,1,2]),(1,[0,1,7]),(2,[0,1,7,13]),(3,[0,1,7]),(4,[0,1,7,8]),(5,[0,1,7,8,9]),(6,[0,1,7,8,9,19]),(7,[0,1,7,8,9]),(8,[0,1,7,8,9]),(9,[0,1,7]),(10,[6]),(1000002,[0,1,7]),(1000006,[0,1,7,8,9])]
def kp54:List (Nat × List Nat):=[(0,[1]),(1,[2])]
def kp55:List (Nat × List Nat):=[(0,[])]
def kp56:List (Nat × List Nat):=[(0,[1,2]),(1,[5]),(2,[5,22,23,24]),(3,[5,22,23,24,25]),(4,[5,7,22,23,24]),(5,[5,7,8,22,23,24]),(6,[5,7,8,22,23,24,43]),(7,[5,7,8,22,23,24]),(8,[5,22,23,24]),(9,[4]),(1000003,[5,22,23,24]),(1000006,[5,7,8,22,23,24])]
def kp57:List (Nat × List Nat):=[(0,[0,1,2,6]),(1,[0,1,2,6,8]),(2,[0,1,2,6,8,9]),(3,[0,1,2,6,8,9,66]),(4,[6,7]),(5,[0,2,6,8,10,11]),(6,[0,2,6,8,11]),(7,[0,6,8,11,12]),(8,[0,6,8,12,81]),(9,[0,6,8,12,13]),(10,[0,6,8,11,12,13]),(11,[0,6,8,11,12,13,93]),(12,[0,6,8,12,13]),(13,[0,6,8,11,12,13]),(14,[0,6,8,11,12,13,115]),(15,[0,6,8,11,12,13]),(16,[0,6,8,11,12,141]),(17,[6,7]),(18,[6,7]),(1000008,[0,6,8,11,12])]
def kp58:List (Nat × List Nat):=[(0,[0,1]),(1,[0,1,13]),(2,[4,5]),(3,[4,5])]
def kp59:List (Nat × List Nat):=[(0,[0,1,2]),(1,[0,1,2,14]),(2,[6]),(3,[0,1,2,7]),(4,[0,1,2,7,8]),(5,[0,1,2,7,8,17]),(6,[0,1,2,7,8]),(7,[0,1,2,7,8]),(8,[6]),(1000005,[0,1,2,7,8])]
def kp60:List (Nat × List Nat):=[(0,[1,2,4]),(1,[2,4,5]),(2,[2,4,5,6]),(3,[2,4,5,6,28]),(4,[2,4,5,6]),(5,[2,4,5,6,37]),(6,[4,6]),(7,[4])]
def kp61:List (Nat × List Nat):=[(0,[0]),(1,[2])]
def kp62:List (Nat × List Nat):=[(0,[0,1]),(1,[0,1,15]),(2,[4]),(3,[4])]
def kp63:List (Nat × List Nat):=[(0,[0,1]),(1,[4])]
def kp64:List (Nat × List Nat):=[(0,[0,1,2]),(1,[1,2,8]),(2,[2,8,9]),(3,[2,8,9,23]),(4,[2,8,9,26]),(5,[6,7]),(6,[2,8,9,35]),(7,[6,7]),(1000003,[2,8,9])]
def kp65:List (Nat × List Nat):=[(0,[1]),(1,[2])]
def kp66:List (Nat × List Nat):=[(0,[0,2,3,4,5,6,8]),(1,[0,2,3,4,5,6,8,12]),(2,[0,2,3,4,5,6,8]),(3,[0,2,4,5,6,8,23]),(4,[2,4,5,6,8]),(5,[2,4,5,6,8,28]),(6,[])]
def kp67:List (Nat × List Nat):=[(0,[0]),(1,[2])]
def kp68:List (Nat × List Nat):=[(0,[0,1,8]),(1,[0,1]),(2,[0,1]),(3,[0]),(4,[])]
def kp69:List (Nat × List Nat):=[(0,[0,1,2,3,4]),(1,[0,1,2,3,4,10,11]),(2,[0,1,2,3,4,10,22]),(3,[0,1,2,3,4,10,12]),(4,[0,1,2,3,4,10,12,13]),(5,[0,1,2,3,4,12]),(6,[0,1,2,3,4,10,12,13,36]),(7,[0,1,2,3,4,12]),(8,[0,1,2,3,4,10,12,13,43]),(9,[0,1,2,3,4,12]),(10,[0,1,2,3,4,51]),(1000001,[0,1,2,3,4])]
def kp70:List (Nat × List Nat):=[(0,[0]),(1,[0,4]),(2,[2]),(3,[0,6]),(4,[2]),(5,[2])]
def kp71:List (Nat × List Nat):=[(0,[0,1]),(1,[4])]
def kp72:List (Nat × List Nat):=[(0,[0,2]),(1,[2])]
def kp73:List (Nat × List Nat):=[(0,[2,3,4,6]),(1,[2,3,4,6,12]),(2,[6,7]),(3,[2,3,4,6,8]),(4,[2,3,4,6,8,18]),(5,[3,4,6,8]),(6,[6,9,10]),(7,[6,7])]
def kp74:List (Nat × List Nat):=[(0,[0]),(1,[0,4]),(2,[2]),(3,[2])]
def kp75:List (Nat × List Nat):=[(0,[0,1,2]),(1,[1,2,7]),(2,[2,7,21]),(3,[7]),(4,[2,7,33]),(5,[7]),(6,[6])]
def kp76:List (Nat × List Nat):=[(0,[0,1,2,3]),(1,[0,2,3,9]),(2,[8]),(3,[8])]
def kp77:List (Nat × List Nat):=[(0,[2,3,4,5,6,10]),(1,[3,4,5,6,10,11]),(2,[3,4,5,6,10,11]),(3,[3,4,5,6,10,11]),(4,[3,4,5,10,11,27]),(5,[3,5,10]),(6,[5,10]),(7,[5,10,11]),(8,[4,5,10,11]),(9,[5,10,11]),(10,[5,10,11,39]),(11,[5,10,11]),(12,[5,10,41]),(13,[5,10]),(14,[5,10,52]),(15,[5,10]),(16,[5,10]),(17,[10])]
def kp78:List (Nat × List Nat):=[(0,[0]),(1,[0,4]),(2,[2]),(3,[2])]
def kp79:List (Nat × List Nat):=[(0,[0]),(1,[0,4]),(2,[2]),(3,[2])]
def kp80:List (Nat × List Nat):=[]
def kp81:List (Nat × List Nat):=[]
def kp82:List (Nat × List Nat):=[(0,[0,1,2]),(1,[6])]
def kp83:List (Nat × List Nat):=[]
def kp84:List (Nat × List Nat):=[]
def kp85:List (Nat × List Nat):=[(0,[0,1,2,6]),(1,[0,6,8,9]),(2,[0,6,8,9,10]),(3,[0,6,8,9,10,21]),(4,[0,6,8,9,10]),(5,[0,6,8,9,10,52]),(6,[0,6,8,9,10]),(7,[0,6,8,54]),(8,[6,7]),(9,[6,7]),(1000003,[0,6,8,9,10])]
def kp86:List (Nat × List Nat):=[(0,[1,2]),(1,[1,2,6]),(2,[1,2,6,12]),(3,[1,2,6]),(4,[1,2,6,7]),(5,[1,2,6,7,29]),(6,[4,5]),(7,[4,5]),(1000002,[1,2,6])]
def kp87:List (Nat × List Nat):=[(0,[0,1,2,3]),(1,[0,1,2,3,23]),(2,[8]),(3,[8])]
def kp88:List (Nat × List Nat):=[]
def kp89:List (Nat × List Nat):=[(0,[0,1,4]),(1,[0,1,4,9]),(2,[4,5]),(3,[4,5])]
def kp90:List (Nat × List Nat):=[]
def kp91:List (Nat × List Nat):=[]
def kp92:List (Nat × List Nat):=[]
def kp93:List (Nat × List Nat):=[]
def kp94:List (Nat × List Nat):=[]
def kp95:List (Nat × List Nat):=[]
def kp96:List (Nat × List Nat):=[]
def kp97:List (Nat × List Nat):=[]
def kp98:List (Nat × List Nat):=[(0,[0,4]),(1,[3]),(2,[]),(3,[0,4,6]),(4,[]),(5,[0,4,8,9]),(6,[0]),(7,[])]
def kp99:List (Nat × List Nat):=[(0,[1,2]),(1,[5]),(2,[4])]
def kp100:List (Nat × List Nat):=[(0,[1,2]),(1,[5]),(2,[4])]
def kp101:List (Nat × List Nat):=[(0,[3]),(1,[])]
def kp102:List (Nat × List Nat):=[(0,[1,2,3,6]),(1,[6])]
def kp103:List (Nat × List Nat):=[]
def kp104:List (Nat × List Nat):=[]
def kp105:List (Nat × List Nat):=[(0,[1,2,4]),(1,[4])]
def kp106:List (Nat × List Nat):=[(0,[1,2,3]),(1,[1,2,3,7]),(2,[1,2,3,7]),(3,[2,3,8]),(4,[8,9]),(5,[8,9,10,11]),(6,[8,9,10,11,56]),(7,[8,9,10,11,63]),(8,[8,9,10,11]),(9,[8,9,10,11,74]),(10,[8,9,10,11]),(11,[6]),(1000006,[8,9,10,11]),(1000007,[8,9,10,11]),(1000009,[8,9,10,11])]
def kp107:List (Nat × List Nat):=[(0,[0]),(1,[2])]
def kp108:List (Nat × List Nat):=[(0,[0,1,2,3]),(1,[0,1,2,3,9]),(2,[0,1,2,3,9,10]),(3,[0,1,2,3,9,10,13]),(4,[0,1,2,3,9,10]),(5,[0,1,2,3,9,10]),(6,[8]),(1000003,[0,1,2,3,9,10])]
def kp109:List (Nat × List Nat):=[(0,[0,1]),(1,[0,1,5,6]),(2,[0,1,6,7]),(3,[0,1,6,7]),(4,[0,1,6,7]),(5,[0,6,7,9,10]),(6,[0,6,9,10,54]),(7,[0]),(8,[]),(9,[4]),(10,[6]),(11,[4])]
def kp110:List (Nat × List Nat):=[(0,[0,2,4]),(1,[0]),(2,[5,6])]
def kp111:List (Nat × List Nat):=[(0,[0]),(1,[0,8]),(2,[2,3]),(3,[0]),(4,[2,3])]
def kp112:List (Nat × List Nat):=[(0,[1,2]),(1,[4])]
def kp113:List (Nat × List Nat):=[(0,[2,6]),(1,[])]
def kp114:List (Nat × List Nat):=[(0,[])]
def kp115:List (Nat × List Nat):=[(0,[2,6]),(1,[])]
def kp116:List (Nat × List Nat):=[(0,[1,2]),(1,[1,2,8]),(2,[4]),(3,[2,5,6]),(4,[5,23]),(5,[4]),(6,[4])]
def kp117:List (Nat × List Nat):=[(0,[1,2,3,6]),(1,[1,2,3,6,25]),(2,[6,7]),(3,[6,7])]
def kp118:List (Nat × List Nat):=[(0,[1,2,3]),(1,[1,2,3,7]),(2,[1,2,3,7,8]),(3,[1,2,3,7,8,22]),(4,[8]),(5,[1,2,3,7,8,22,24]),(6,[8]),(7,[2,3,7,8,22,37]),(8,[8]),(9,[2,3,7,8,22,44]),(10,[8]),(11,[2,3,7,8,22,51]),(12,[8]),(13,[2,3,7,8,22,58]),(14,[8]),(15,[3,7,8,66]),(16,[7,8,9]),(17,[7,8,9]),(18,[8]),(19,[8,10]),(20,[8,10,93]),(21,[8,10]),(22,[8,10]),(23,[6]),(1000020,[8,10])]
def kp119:List (Nat × List Nat):=[]
def kp120:List (Nat × List Nat):=[(0,[1,2,3,4,8]),(1,[1,2,3,4,8]),(2,[8])]
def kp121:List (Nat × List Nat):=[(0,[0,1,2]),(1,[0,1,2,16]),(2,[0,1,2,16,17]),(3,[6,7]),(4,[0,2,16,30]),(5,[6,7]),(6,[0,2,16,37]),(7,[6,7]),(8,[0,2,16,44]),(9,[0,2,8,10]),(10,[0,2,8,10,11]),(11,[0,2,8,10,11,12]),(12,[0,2,8,10,11,12,58]),(13,[0,2,8,10,11,12]),(14,[0,2,8,10,11,12,13]),(15,[0,2,8,10,11,12]),(16,[6,7]),(17,[0,2,16,81]),(18,[6,7]),(19,[0,88]),(20,[0,14]),(21,[0,14,101]),(22,[6,7]),(23,[6,7]),(24,[6,7]),(1000012,[0,2,8,10,11,12])]
def kp122:List (Nat × List Nat):=[(0,[0,1]),(1,[4])]
def kp123:List (Nat × List Nat):=[]
def kp124:List (Nat × List Nat):=[]
def kp125:List (Nat × List Nat):=[]
def kp126:List (Nat × List Nat):=[]
def kp127:List (Nat × List Nat):=[]
def kp128:List (Nat × List Nat):=[]
def kp129:List (Nat × List Nat):=[(0,[1,2,3]),(1,[1,2,3]),(2,[6])]
def kp130:List (Nat × List Nat):=[(0,[])]
def kp131:List (Nat × List Nat):=[]
def kp132:List (Nat × List Nat):=[(0,[1]),(1,[1,3]),(2,[1,3,4]),(3,[1,4,5]),(4,[1,4,5,6]),(5,[1,4,5,6,29,30]),(6,[1,4,5,6,29,30,31]),(7,[1,4,5,6,7,29,30]),(8,[1,4,5,6,7,29,30]),(9,[1,4,5,6,29,30]),(10,[1,4,5,6,29,30]),(11,[6]),(12,[2]),(1000006,[1,4,5,6,29,30])]
def kp133:List (Nat × List Nat):=[(0,[1]),(1,[1,3]),(2,[1,4]),(3,[1,4,5]),(4,[1,4,5,29]),(5,[1,4,5]),(6,[1,4,5,35]),(7,[1,5]),(8,[5]),(9,[2])]
def kp134:List (Nat × List Nat):=[(0,[0]),(1,[0,4,5]),(2,[0,4,19]),(3,[2,3]),(4,[2,3])]
def kp135:List (Nat × List Nat):=[(0,[0,1,2,6]),(1,[0,1,2,6,30]),(2,[6,7]),(3,[6,7])]
def kp136:List (Nat × List Nat):=[(0,[0,1]),(1,[0,5]),(2,[5,12]),(3,[4]),(4,[4])]
def kp137:List (Nat × List Nat):=[(0,[1,2,3,4]),(1,[2,3,9]),(2,[3,9,10]),(3,[3,9,10,20,21]),(4,[3,9,10,20,21,22]),(5,[3,9,10,11,20,21]),(6,[3,9,10,20,21]),(7,[3,9,10,20,21]),(8,[8]),(1000004,[3,9,10,20,21])]
def kp138:List (Nat × List Nat):=[(0,[1,2]),(1,[1,2,5]),(2,[1,2,5,13]),(3,[1,2,5]),(4,[1,2,5,6]),(5,[1,2,6,17,18,19]),(6,[1,2,6,17,18,19,20]),(7,[1,2,6,8,17,18,19]),(8,[1,2,6,8,9,17,18,19]),(9,[1,2,6,8,9,17,18,19]),(10,[1,2,6,8,9,17,18,19,34]),(11,[1,2,6,9,17,18,19]),(12,[1,2,6,9,17,18,19]),(13,[1,2,6,17,18,19]),(14,[1,2,6,17,18,19]),(15,[4]),(1000006,[1,2,6,17,18,19])]
def kp139:List (Nat × List Nat):=[(0,[1]),(1,[1,3]),(2,[1,3,12,13,14]),(3,[1,3,12,13,14,15]),(4,[1,3,5,12,13,14]),(5,[1,3,5,6,12,13,14]),(6,[1,3,12,13,14]),(7,[1,3,12,13,14]),(8,[2]),(1000003,[1,3,12,13,14])]
def kp140:List (Nat × List Nat):=[(0,[1,2,3]),(1,[1,2,3,7,8]),(2,[1,2,3,7,8]),(3,[7,8,9]),(4,[7,8,9,32]),(5,[6]),(6,[6])]
def kp141:List (Nat × List Nat):=[(0,[0,9,10,11]),(1,[0,9,10,11,12]),(2,[0,4,9,10,11]),(3,[0,4,5,9,10,11]),(4,[0,4,5,9,10,11,20]),(5,[0,4,5,9,10,11]),(6,[0,4,5,9,10,11,29]),(7,[0,9,10,11]),(1000001,[0,9,10,11]),(1000004,[0,4,5,9,10,11])]
def kp142:List (Nat × List Nat):=[(0,[1,2]),(1,[4])]
def kp143:List (Nat × List Nat):=[(0,[0,1,2]),(1,[0,1,2,8]),(2,[0,1,2,8,17]),(3,[0,1,2,8]),(4,[0,1,2,9,11]),(5,[0,1,2,9,11,12]),(6,[0,1,2,9,11,12,13]),(7,[0,1,2,9,11,12,13,32]),(8,[0,1,2,9,11,12,13]),(9,[0,1,2,9,11,12,13,14]),(10,[0,1,2,9,11,12,13,14,55]),(11,[0,1,2,9,12,13,14]),(12,[0,1,2,9,12,13,14]),(13,[0,1,2,9,11,12,13,14]),(14,[0,1,2,9,11,12,13]),(15,[6,7]),(1000007,[0,1,2,9,11,12,13])]
def kp144:List (Nat × List Nat):=[(0,[0,1,2,3]),(1,[0,1,2,3,11,12]),(2,[0,1,3,11,12,43]),(3,[8,9,10]),(4,[0,1,3,11,12,13]),(5,[0,1,3,11,12,13,14]),(6,[0,1,3,11,12,13,14,47]),(7,[0,1,3,11,12,13,14]),(8,[0,1,3,11,12,13,14]),(9,[0,3,11,12,13,60]),(10,[0,3,11,12,13,15]),(11,[0,3,11,12,13,15,16]),(12,[0,3,11,12,13,15,16,63]),(13,[0,3,11,12,13,15,16]),(14,[0,3,11,12,13,15,16]),(15,[11,12,13,80]),(16,[11,13]),(17,[8,9,10]),(1000006,[0,1,3,11,12,13,14]),(1000012,[0,3,11,12,13,15,16])]
def kp145:List (Nat × List Nat):=[(0,[0,1,2]),(1,[0,1,2,8,9]),(2,[1,2,8,9,38]),(3,[6,7]),(4,[1,2,8,9,40]),(5,[6,7]),(6,[6,7])]
def kp146:List (Nat × List Nat):=[]
def kp147:List (Nat × List Nat):=[(0,[2,3]),(1,[2,3,6]),(2,[2,3,6,32]),(3,[4,5]),(4,[4,5])]
def kp148:List (Nat × List Nat):=[]
def kp149:List (Nat × List Nat):=[]
def kp150:List (Nat × List Nat):=[]
def kp151:List (Nat × List Nat):=[]
def kp152:List (Nat × List Nat):=[]
def kp153:List (Nat × List Nat):=[(0,[0,1]),(1,[0,1,8]),(2,[4]),(3,[0,5,6]),(4,[5,26]),(5,[4]),(6,[4])]
def kp154:List (Nat × List Nat):=[(0,[1,2,3]),(1,[1,3,7]),(2,[1,3,7,8]),(3,[6]),(4,[1,3,13]),(5,[6]),(6,[6])]
def kp155:List (Nat × List Nat):=[(0,[1,2,3,4]),(1,[1,2,3,4,9,10]),(2,[1,2,3,4,9,10]),(3,[1,3,4,9,10]),(4,[3,9,10,11]),(5,[3,9,10,11,12]),(6,[3,9,10,11,12,34,35]),(7,[3,9,10,11,12,34,35,36]),(8,[3,9,10,11,12,13,34,35]),(9,[3,9,10,11,12,34,35]),(10,[3,9,10,11,12,34,35]),(11,[10,12,58]),(12,[8]),(13,[8]),(1000007,[3,9,10,11,12,34,35])]
def kp156:List (Nat × List Nat):=[(0,[0,1]),(1,[1,5,6]),(2,[1,5,6,11]),(3,[1,5,6,7]),(4,[1,5,6,7,20]),(5,[1,5,6]),(6,[1,5,6]),(7,[4]),(1000002,[1,5,6])]
def kp157:List (Nat × List Nat):=[(0,[0,1,2]),(1,[4])]
def kp158:List (Nat × List Nat):=[]
def kp159:List (Nat × List Nat):=[(0,[1,2]),(1,[4])]
def kp160:List (Nat × List Nat):=[(0,[1,2]),(1,[2,6,7]),(2,[2,6,7,8]),(3,[2,5,6,7]),(4,[2,6,7,14]),(5,[4]),(6,[2,6,7]),(7,[4]),(1000002,[2,6,7])]
def kp181:List (Nat × List Nat):=[]
def kp182:List (Nat × List Nat):=[]
def kp183:List (Nat × List Nat):=[]
def kp184:List (Nat × List Nat):=[]
def kp185:List (Nat × List Nat):=[]
def kp186:List (Nat × List Nat):=[]
def kp187:List (Nat × List Nat):=[]
def kp188:List (Nat × List Nat):=[]
def kp189:List (Nat × List Nat):=[]
def kpT (f:Nat):List (Nat × List Nat) :=
 bif Nat.blt f 95 then (bif Nat.blt f 47 then (bif Nat.blt f 23 then (bif Nat.blt f 11 then (bif Nat.blt f 5 then (bif Nat.blt f 2 then ([]) else (bif Nat.blt f 3 then (kp2) else (bif Nat.blt f 4 then (kp3) else (kp4)))) else (bif Nat.blt f 8 then (bif Nat.blt f 6 then (kp5) else (bif Nat.blt f 7 then (kp6) else (kp7))) else (bif Nat.blt f 9 then (kp8) else (bif Nat.blt f 10 then (kp9) else (kp10))))) else (bif Nat.blt f 17 then (bif Nat.blt f 14 then (bif Nat.blt f 12 then (kp11) else (bif Nat.blt f 13 then (kp12) else (kp13))) else (bif Nat.blt f 15 then (kp14) else (bif Nat.blt f 16 then (kp15) else (kp16)))) else (bif Nat.blt f 20 then (bif Nat.blt f 18 then (kp17) else (bif Nat.blt f 19 then (kp18) else (kp19))) else (bif Nat.blt f 21 then (kp20) else (bif Nat.blt f 22 then (kp21) else (kp22)))))) else (bif Nat.blt f 35 then (bif Nat.blt f 29 then (bif Nat.blt f 26 then (bif Nat.blt f 24 then (kp23) else (bif Nat.blt f 25 then (kp24) else (kp25))) else (bif Nat.blt f 27 then (kp26) else (bif Nat.blt f 28 then (kp27) else (kp28)))) else (bif Nat.blt f 32 then (bif Nat.blt f 30 then (kp29) else (bif Nat.blt f 31 then (kp30) else (kp31))) else (bif Nat.blt f 33 then (kp32) else (bif Nat.blt f 34 then (kp33) else (kp34))))) else (bif Nat.blt f 41 then (bif Nat.blt f 38 then (bif Nat.blt f 36 then (kp35) else (bif Nat.blt f 37 then (kp36) else (kp37))) else (bif Nat.blt f 39 then (kp38) else (bif Nat.blt f 40 then (kp39) else (kp40)))) else (bif Nat.blt f 44 then (bif Nat.blt f 42 then (kp41) else (bif Nat.blt f 43 then (kp42) else (kp43))) else (bif Nat.blt f 45 then (kp44) else (bif Nat.blt f 46 then (kp45) else (kp46))))))) else (bif Nat.blt f 71 then (bif Nat.blt f 59 then (bif Nat.blt f 53 then (bif Nat.blt f 50 then (bif Nat.blt f 48 then (kp47) else (bif Nat.blt f 49 then (kp48) else (kp49))) else (bif Nat.blt f 51 then (kp50) else (bif Nat.blt f 52 then (kp51) else (kp52)))) else (bif Nat.blt f 56 then (bif Nat.blt f 54 then (kp53) else (bif Nat.blt f 55 then (kp54) else (kp55))) else (bif Nat.blt f 57 then (kp56) else (bif Nat.blt f 58 then (kp57) else (kp58))))) else (bif Nat.blt f 65 then (bif Nat.blt f 62 then (bif Nat.blt f 60 then (kp59) else (bif Nat.blt f 61 then (kp60) else (kp61))) else (bif Nat.blt f 63 then (kp62) else (bif Nat.blt f 64 then (kp63) else (kp64)))) else (bif Nat.blt f 68 then (bif Nat.blt f 66 then (kp65) else (bif Nat.blt f 67 then (kp66) else (kp67))) else (bif Nat.blt f 69 then (kp68) else (bif Nat.blt f 70 then (kp69) else (kp70)))))) else (bif Nat.blt f 83 then (bif Nat.blt f 77 then (bif Nat.blt f 74 then (bif Nat.blt f 72 then (kp71) else (bif Nat.blt f 73 then (kp72) else (kp73))) else (bif Nat.blt f 75 then (kp74) else (bif Nat.blt f 76 then (kp75) else (kp76)))) else (bif Nat.blt f 80 then (bif Nat.blt f 78 then (kp77) else (bif Nat.blt f 79 then (kp78) else (kp79))) else (bif Nat.blt f 81 then (kp80) else (bif Nat.blt f 82 then (kp81) else (kp82))))) else (bif Nat.blt f 89 then (bif Nat.blt f 86 then (bif Nat.blt f 84 then (kp83) else (bif Nat.blt f 85 then (kp84) else (kp85))) else (bif Nat.blt f 87 then (kp86) else (bif Nat.blt f 88 then (kp87) else (kp88)))) else (bif Nat.blt f 92 then (bif Nat.blt f 90 then (kp89) else (bif Nat.blt f 91 then (kp90) else (kp91))) else (bif Nat.blt f 93 then (kp92) else (bif Nat.blt f 94 then (kp93) else (kp94)))))))) else (bif Nat.blt f 143 then (bif Nat.blt f 119 then (bif Nat.blt f 107 then (bif Nat.blt f 101 then (bif Nat.blt f 98 then (bif Nat.blt f 96 then (kp95) else (bif Nat.blt f 97 then (kp96) else (kp97))) else (bif Nat.blt f 99 then (kp98) else (bif Nat.blt f 100 then (kp99) else (kp100)))) else (bif Nat.blt f 104 then (bif Nat.blt f 102 then (kp101) else (bif Nat.blt f 103 then (kp102) else (kp103))) else (bif Nat.blt f 105 then (kp104) else (bif Nat.blt f 106 then (kp105) else (kp106))))) else (bif Nat.blt f 113 then (bif Nat.blt f 110 then (bif Nat.blt f 108 then (kp107) else (bif Nat.blt f 109 then (kp108) else (kp109))) else (bif Nat.blt f 111 then (kp110) else (bif Nat.blt f 112 then (kp111) else (kp112)))) else (bif Nat.blt f 116 then (bif Nat.blt f 114 then (kp113) else (bif Nat.blt f 115 then (kp114) else (kp115))) else (bif Nat.blt f 117 then (kp116) else (bif Nat.blt f 118 then (kp117) else (kp118)))))) else (bif Nat.blt f 131 then (bif Nat.blt f 125 then (bif Nat.blt f 122 then (bif Nat.blt f 120 then (kp119) else (bif Nat.blt f 121 then (kp120) else (kp121))) else (bif Nat.blt f 123 then (kp122) else (bif Nat.blt f 124 then (kp123) else (kp124)))) else (bif Nat.blt f 128 then (bif Nat.blt f 126 then (kp125) else (bif Nat.blt f 127 then (kp126) else (kp127))) else (bif Nat.blt f 129 then (kp128) else (bif Nat.blt f 130 then (kp129) else (kp130))))) else (bif Nat.blt f 137 then (bif Nat.blt f 134 then (bif Nat.blt f 132 then (kp131) else (bif Nat.blt f 133 then (kp132) else (kp133))) else (bif Nat.blt f 135 then (kp134) else (bif Nat.blt f 136 then (kp135) else (kp136)))) else (bif Nat.blt f 140 then (bif Nat.blt f 138 then (kp137) else (bif Nat.blt f 139 then (kp138) else (kp139))) else (bif Nat.blt f 141 then (kp140) else (bif Nat.blt f 142 then (kp141) else (kp142))))))) else (bif Nat.blt f 167 then (bif Nat.blt f 155 then (bif Nat.blt f 149 then (bif Nat.blt f 146 then (bif Nat.blt f 144 then (kp143) else (bif Nat.blt f 145 then (kp144) else (kp145))) else (bif Nat.blt f 147 then (kp146) else (bif Nat.blt f 148 then (kp147) else (kp148)))) else (bif Nat.blt f 152 then (bif Nat.blt f 150 then (kp149) else (bif Nat.blt f 151 then (kp150) else (kp151))) else (bif Nat.blt f 153 then (kp152) else (bif Nat.blt f 154 then (kp153) else (kp154))))) else (bif Nat.blt f 161 then (bif Nat.blt f 158 then (bif Nat.blt f 156 then (kp155) else (bif Nat.blt f 157 then (kp156) else (kp157))) else (bif Nat.blt f 159 then (kp158) else (bif Nat.blt f 160 then (kp159) else (kp160)))) else ([]))) else (bif Nat.blt f 179 then ([]) else (bif Nat.blt f 185 then (bif Nat.blt f 182 then (bif Nat.blt f 180 then ([]) else (bif Nat.blt f 181 then ([]) else (kp181))) else (bif Nat.blt f 183 then (kp182) else (bif Nat.blt f 184 then (kp183) else (kp184)))) else (bif Nat.blt f 188 then (bif Nat.blt f 186 then (kp185) else (bif Nat.blt f 187 then (kp186) else (kp187))) else (bif Nat.blt f 189 then (kp188) else (bif Nat.blt f 190 then (kp189) else ([]))))))))
def kpLook (id:Nat):List (Nat × List Nat) → List Nat
 | [] => []
 | (i,l) :: r => bif Nat.beq i id then l else kpLook id r
def kpS (f id:Nat):List Nat:=kpLook id (kpT f)
def speaksT:List Nat:=[10,28,38]
abbrev shortT:Nat:=217
def moreS (f:Nat):Option Sp:=bif Nat.beq f 47 then some (tryV 217) else bif Nat.beq f 78 then some (fun _ args H => cloneV 3 12 args H) else bif Nat.beq f 79 then some (fun _ args H => cloneV 2 16 args H) else bif Nat.beq f 84 then some stuckSp else bif Nat.beq f 97 then some stuckSp else none
def ownersW:List Nat:=[999999,10,28,38]
def ownW (k:Nat):Mode:=bif ownersW.contains (k % 1000000) then .no else .fz
abbrev sP23:Nat:=F.ζ2q
abbrev sP25:Nat:=F.ζig
def ownP (s k n:Nat):Mode:=bif Nat.beq k s && Nat.ble n 2 then .no else own k
def mdS (k f n:Nat):Mode:=bif Nat.blt f 95 then (bif Nat.blt f 47 then (bif Nat.blt f 23 then (bif Nat.blt f 11 then (bif Nat.blt f 5 then (bif Nat.blt f 2 then (.gc) else (bif Nat.blt f 3 then (.no) else (.gc))) else (.gc)) else (bif Nat.blt f 17 then (bif Nat.blt f 14 then (bif Nat.blt f 12 then (.gc) else (bif Nat.blt f 13 then (ownP sP23 k n) else (.fz))) else (bif Nat.blt f 15 then (.fz) else (bif Nat.blt f 16 then (.no) else (.fz)))) else (bif Nat.blt f 20 then (.no) else (.fz)))) else (bif Nat.blt f 35 then (bif Nat.blt f 29 then (bif Nat.blt f 26 then (bif Nat.blt f 24 then (.fz) else (bif Nat.blt f 25 then (.gc) else (own k))) else (bif Nat.blt f 27 then (.fz) else (bif Nat.blt f 28 then (own k) else (.gc)))) else (bif Nat.blt f 32 then (bif Nat.blt f 30 then (.gc) else (bif Nat.blt f 31 then (ownP sP25 k n) else (.fz))) else (bif Nat.blt f 33 then (.fz) else (bif Nat.blt f 34 then (.fz) else (own k))))) else (bif Nat.blt f 41 then (bif Nat.blt f 38 then (bif Nat.blt f 36 then (.fz) else (bif Nat.blt f 37 then (.no) else (.fz))) else (bif Nat.blt f 39 then (.gc) else (bif Nat.blt f 40 then (.gc) else (.fz)))) else (bif Nat.blt f 44 then (bif Nat.blt f 42 then (.fz) else (.gc)) else (bif Nat.blt f 45 then (.no) else (.fz)))))) else (bif Nat.blt f 71 then (bif Nat.blt f 59 then (bif Nat.blt f 53 then (bif Nat.blt f 50 then (bif Nat.blt f 48 then (.no) else (bif Nat.blt f 49 then (.no) else (.fz))) else (bif Nat.blt f 51 then (.gc) else (bif Nat.blt f 52 then (.gc) else (ownW k)))) else (bif Nat.blt f 56 then (bif Nat.blt f 54 then (.no) else (bif Nat.blt f 55 then (.fz) else (.no))) else (.fz))) else (bif Nat.blt f 65 then (bif Nat.blt f 62 then (.gc) else (bif Nat.blt f 63 then (.no) else (bif Nat.blt f 64 then (.gc) else (.no)))) else (bif Nat.blt f 68 then (bif Nat.blt f 66 then (.gc) else (bif Nat.blt f 67 then (.no) else (.gc))) else (bif Nat.blt f 69 then (.no) else (bif Nat.blt f 70 then (.no) else (.gc)))))) else (bif Nat.blt f 83 then (bif Nat.blt f 77 then (bif Nat.blt f 74 then (.gc) else (bif Nat.blt f 75 then (.gc) else (.fz))) else (bif Nat.blt f 80 then (bif Nat.blt f 78 then (.gc) else (.no)) else (bif Nat.blt f 81 then (.no) else (bif Nat.blt f 82 then (.fz) else (.gc))))) else (bif Nat.blt f 89 then (bif Nat.blt f 86 then (bif Nat.blt f 84 then (.no) else (.fz)) else (bif Nat.blt f 87 then (.gc) else (bif Nat.blt f 88 then (.gc) else (.no)))) else (bif Nat.blt f 92 then (.gc) else (bif Nat.blt f 93 then (.gc) else (bif Nat.blt f 94 then (.gc) else (.no)))))))) else (bif Nat.blt f 143 then (bif Nat.blt f 119 then (bif Nat.blt f 107 then (bif Nat.blt f 101 then (bif Nat.blt f 98 then (bif Nat.blt f 96 then (.gc) else (bif Nat.blt f 97 then (.gc) else (.no))) else (bif Nat.blt f 99 then (.no) else (.gc))) else (bif Nat.blt f 104 then (.gc) else (bif Nat.blt f 105 then (.gc) else (bif Nat.blt f 106 then (.gc) else (.fz))))) else (bif Nat.blt f 113 then (bif Nat.blt f 110 then (bif Nat.blt f 108 then (own k) else (bif Nat.blt f 109 then (.gc) else (.no))) else (bif Nat.blt f 111 then (.no) else (bif Nat.blt f 112 then (.no) else (.gc)))) else (bif Nat.blt f 116 then (.no) else (bif Nat.blt f 117 then (.gc) else (bif Nat.blt f 118 then (.gc) else (.fz)))))) else (bif Nat.blt f 131 then (bif Nat.blt f 125 then (bif Nat.blt f 122 then (bif Nat.blt f 120 then (.no) else (bif Nat.blt f 121 then (.gc) else (.fz))) else (.gc)) else (bif Nat.blt f 128 then (bif Nat.blt f 126 then (.gc) else (bif Nat.blt f 127 then (.gc) else (.no))) else (bif Nat.blt f 129 then (.no) else (.gc)))) else (bif Nat.blt f 137 then (bif Nat.blt f 134 then (bif Nat.blt f 132 then (.fz) else (.no)) else (bif Nat.blt f 135 then (.gc) else (bif Nat.blt f 136 then (.gc) else (.no)))) else (bif Nat.blt f 140 then (.fz) else (bif Nat.blt f 141 then (.fz) else (bif Nat.blt f 142 then (.no) else (.gc))))))) else (bif Nat.blt f 167 then (bif Nat.blt f 155 then (bif Nat.blt f 149 then (bif Nat.blt f 146 then (.fz) else (.gc)) else (bif Nat.blt f 152 then (bif Nat.blt f 150 then (.no) else (bif Nat.blt f 151 then (.no) else (.fz))) else (bif Nat.blt f 153 then (.fz) else (.gc)))) else (bif Nat.blt f 161 then (bif Nat.blt f 158 then (bif Nat.blt f 156 then (.fz) else (.gc)) else (.gc)) else (.gc))) else (bif Nat.blt f 179 then (bif Nat.blt f 173 then (.gc) else (bif Nat.blt f 176 then (.gc) else (bif Nat.blt f 177 then (.gc) else (bif Nat.blt f 178 then (.no) else (.gc))))) else (bif Nat.blt f 185 then (bif Nat.blt f 182 then (bif Nat.blt f 180 then (.gc) else (bif Nat.blt f 181 then (.gc) else (.no))) else (bif Nat.blt f 183 then (.gc) else (bif Nat.blt f 184 then (.no) else (.gc)))) else (bif Nat.blt f 188 then (.gc) else (bif Nat.blt f 189 then (.no) else (bif Nat.blt f 190 then (.no) else (.gc))))))))
def arS (f:Nat):Bool:=[14,32].any (Nat.beq f)
def pkS (f:Nat):Bool:=Nat.beq f 999999
noncomputable def C (k:Nat):Cfg:={ P:=Prog,kp:=kpS,sp:=spOf speaksT moreS (k % 1000000) }
noncomputable def T (k:Nat):Told:={ c:=C k,md:=mdS k,ar:=arS,pk:=pkS }
theorem ζrc (f:FuncId) (s:Sp) (h:moreS f = some s):∀ args H,Scott fun call => s call args H:=by
 unfold moreS at h;cases h47:Nat.beq f 47 with
 | true => rw [h47,cond_true] at h; injection h with h; subst h; first | exact fun args H => Scott.const _ | exact Scott.tryV _ | exact Scott.told _
 | false =>
 rw [h47,cond_false] at h;cases h78:Nat.beq f 78 with
 | true => rw [h78,cond_true] at h; injection h with h; subst h; first | exact fun args H => Scott.const _ | exact Scott.tryV _ | exact Scott.told _
 | false =>
 rw [h78,cond_false] at h;cases h79:Nat.beq f 79 with
 | true => rw [h79,cond_true] at h; injection h with h; subst h; first | exact fun args H => Scott.const _ | exact Scott.tryV _ | exact Scott.told _
 | false =>
 rw [h79,cond_false] at h;cases h84:Nat.beq f 84 with
 | true => rw [h84,cond_true] at h; injection h with h; subst h; exact fun args H => Scott.const _
 | false =>
 rw [h84,cond_false] at h;cases h97:Nat.beq f 97 with
 | true => rw [h97,cond_true] at h; injection h with h; subst h; exact fun args H => Scott.const _
 | false =>
 rw [h97,cond_false] at h;cases h
theorem T_scott (k:Nat):SpScott (T k).c:=SpScott.of ζrc
@[simp] theorem ld_29 (a:Value) (h:Heap):loadR Prog 29 a h = ldA 5 a h:=ldA_eq (by kernel_rfl) (by kernel_rfl) a h
@[simp] theorem al_46 (h:Heap):allocR Prog 46 h = newP [.slice none 0 0,.int .i64 0,.int .i64 0,.int .i64 0,.int .i64 0,.int .i64 0,.int .i64 0,.slice none 0 0,.slice none 0 0,.slice none 0 0] h:=al_eq (z:=.agg #[.slice none 0 0,.int .i64 0,.int .i64 0,.int .i64 0,.int .i64 0,.int .i64 0,.int .i64 0,.slice none 0 0,.slice none 0 0,.slice none 0 0]) (by kernel_rfl) h
@[simp] theorem st_46 (a v:Value) (h:Heap):storeR Prog 46 a v h = stR 10 a v h:=st_eq (by kernel_rfl) a v h
@[simp] theorem eqp_36 (cs:Array Value) (h:Heap):binR Prog .eql 36 (boxV cs) (.pointer none) h = .ok (.bool false) h:=by kernel_rfl
@[simp] theorem eqn_36 (h:Heap):binR Prog .eql 36 (.pointer none) (.pointer none) h = .ok (.bool true) h:=by kernel_rfl
@[simp] theorem len_22 (x:Value) (h:Heap):builtinV Prog .len [22] [x] h = lnS x h:=lnS_eq (e:=5) (by kernel_rfl) x h
@[simp] theorem ix_22 (x i:Value) (h:Heap):indexAddrR Prog 22 x i h = ixS 1 x i h:=ixS_eq (e:=5) (by kernel_rfl) (by kernel_rfl) x i h
@[simp] theorem st_5 (a v:Value) (h:Heap):storeR Prog 5 a v h = stR 1 a v h:=st_eq (by kernel_rfl) a v h
@[simp] theorem fa_32_0 (a:Value) (h:Heap):fieldAddrR Prog 32 a 0 h = faR 0 1 a h:=fa_is (ft:=3) (by kernel_rfl) (by kernel_rfl) a h
@[simp] theorem ld_3 (a:Value) (h:Heap):loadR Prog 3 a h = ld1 a h:=ld1_eq (by kernel_rfl) a h
@[simp] theorem len_30 (x:Value) (h:Heap):builtinV Prog .len [30] [x] h = lnS x h:=lnS_eq (e:=3) (by kernel_rfl) x h
@[simp] theorem fa_32_1 (a:Value) (h:Heap):fieldAddrR Prog 32 a 1 h = faR 1 1 a h:=fa_is (ft:=4) (by kernel_rfl) (by kernel_rfl) a h
@[simp] theorem ld_4 (a:Value) (h:Heap):loadR Prog 4 a h = ld1 a h:=ld1_eq (by kernel_rfl) a h
@[simp] theorem ld_46 (a:Value) (h:Heap):loadR Prog 46 a h = ldA 10 a h:=ldA_eq (by kernel_rfl) (by kernel_rfl) a h
@[simp] theorem ld_30 (a:Value) (h:Heap):loadR Prog 30 a h = ld1 a h:=ld1_eq (by kernel_rfl) a h
@[simp] theorem mk_30 (l c:Value) (h:Heap):makeSliceV Prog 30 l c h = mkR 1 8 [.int .i64 0] l c h:=mk_is (e:=3) (z:=.int .i64 0) (by kernel_rfl) (by kernel_rfl) (by kernel_rfl) (by kernel_rfl) (by kernel_rfl) l c h
@[simp] theorem len_56 (x:Value) (h:Heap):builtinV Prog .len [56] [x] h = lnS x h:=lnS_eq (e:=93) (by kernel_rfl) x h
@[simp] theorem ix_56 (x i:Value) (h:Heap):indexAddrR Prog 56 x i h = ixS 3 x i h:=ixS_eq (e:=93) (by kernel_rfl) (by kernel_rfl) x i h
@[simp] theorem ld_93 (a:Value) (h:Heap):loadR Prog 93 a h = ldA 3 a h:=ldA_eq (by kernel_rfl) (by kernel_rfl) a h
@[simp] theorem al_93 (h:Heap):allocR Prog 93 h = newP [.int .i32 0,.int .i32 0,.int .i32 0] h:=al_eq (z:=.agg #[.int .i32 0,.int .i32 0,.int .i32 0]) (by kernel_rfl) h
@[simp] theorem fa_93_0 (a:Value) (h:Heap):fieldAddrR Prog 93 a 0 h = faR 0 1 a h:=fa_is (ft:=21) (by kernel_rfl) (by kernel_rfl) a h
@[simp] theorem ld_21 (a:Value) (h:Heap):loadR Prog 21 a h = ld1 a h:=ld1_eq (by kernel_rfl) a h
@[simp] theorem ix_30 (x i:Value) (h:Heap):indexAddrR Prog 30 x i h = ixS 1 x i h:=ixS_eq (e:=3) (by kernel_rfl) (by kernel_rfl) x i h
@[simp] theorem be_30_1 (ps:List (Nat × Value)) (h:Heap):buildSliceR Prog 30 1 ps h = beR 1 1 ps [.int .i64 0] h:=be_eq (e:=3) (by kernel_rfl) (by kernel_rfl) (by kernel_rfl) (by kernel_rfl) ps h
@[simp] theorem ap_30 (a b:Value) (h:Heap):builtinV Prog .append [30,30] [a,b] h = apR 1 8 a b h:=ap_is (e:=3) (z:=.int .i64 0) (by kernel_rfl) (by kernel_rfl) (by kernel_rfl) (by kernel_rfl) (by kernel_rfl) a b h
@[simp] theorem ld_22 (a:Value) (h:Heap):loadR Prog 22 a h = ld1 a h:=ld1_eq (by kernel_rfl) a h
@[simp] theorem bd_129 (ps:List (Nat × Value)) (h:Heap):buildR Prog 129 ps h = bdR [(0,1),(1,1),(2,1),(3,1)] ps [.int .i64 0,.int .i64 0,.int .i64 0,.int .i64 0] h:=bd_is (z:=.agg #[.int .i64 0,.int .i64 0,.int .i64 0,.int .i64 0]) (by kernel_rfl) (by kernel_rfl) (by kernel_rfl) ps h
@[simp] theorem ld_26 (a:Value) (h:Heap):loadR Prog 26 a h = ldA 4 a h:=ldA_eq (by kernel_rfl) (by kernel_rfl) a h
@[simp] theorem ld_125 (a:Value) (h:Heap):loadR Prog 125 a h = ld1 a h:=ld1_eq (by kernel_rfl) a h
@[simp] theorem fa_93_1 (a:Value) (h:Heap):fieldAddrR Prog 93 a 1 h = faR 1 1 a h:=fa_is (ft:=21) (by kernel_rfl) (by kernel_rfl) a h
@[simp] theorem st_21 (a v:Value) (h:Heap):storeR Prog 21 a v h = stR 1 a v h:=st_eq (by kernel_rfl) a v h
@[simp] theorem fa_93_2 (a:Value) (h:Heap):fieldAddrR Prog 93 a 2 h = faR 2 1 a h:=fa_is (ft:=21) (by kernel_rfl) (by kernel_rfl) a h
@[simp] theorem neI_93 (a0 a1 a2 b0 b1 b2:Int) (h:Heap):binR Prog .neq 93 (.agg #[.int .i32 a0,.int .i32 a1,.int .i32 a2]) (.agg #[.int .i32 b0,.int .i32 b1,.int .i32 b2]) h = .ok (.bool (!([a0,a1,a2] == [b0,b1,b2]))) h:=neI_is (ks:=[.i32,.i32,.i32]) (by kernel_rfl) [a0,a1,a2] [b0,b1,b2] rfl rfl h
@[simp] theorem bd_93 (ps:List (Nat × Value)) (h:Heap):buildR Prog 93 ps h = bdR [(0,1),(1,1),(2,1)] ps [.int .i32 0,.int .i32 0,.int .i32 0] h:=bd_is (z:=.agg #[.int .i32 0,.int .i32 0,.int .i32 0]) (by kernel_rfl) (by kernel_rfl) (by kernel_rfl) ps h
@[simp] theorem fa_29_0 (a:Value) (h:Heap):fieldAddrR Prog 29 a 0 h = faR 0 4 a h:=fa_is (ft:=26) (by kernel_rfl) (by kernel_rfl) a h
@[simp] theorem fa_26_0 (a:Value) (h:Heap):fieldAddrR Prog 26 a 0 h = faR 0 1 a h:=fa_is (ft:=22) (by kernel_rfl) (by kernel_rfl) a h
@[simp] theorem fa_26_1 (a:Value) (h:Heap):fieldAddrR Prog 26 a 1 h = faR 1 1 a h:=fa_is (ft:=23) (by kernel_rfl) (by kernel_rfl) a h
@[simp] theorem ld_23 (a:Value) (h:Heap):loadR Prog 23 a h = ld1 a h:=ld1_eq (by kernel_rfl) a h
@[simp] theorem len_23 (x:Value) (h:Heap):builtinV Prog .len [23] [x] h = lnS x h:=lnS_eq (e:=22) (by kernel_rfl) x h
@[simp] theorem fa_26_2 (a:Value) (h:Heap):fieldAddrR Prog 26 a 2 h = faR 2 1 a h:=fa_is (ft:=24) (by kernel_rfl) (by kernel_rfl) a h
@[simp] theorem ld_24 (a:Value) (h:Heap):loadR Prog 24 a h = ld1 a h:=ld1_eq (by kernel_rfl) a h
@[simp] theorem len_24 (x:Value) (h:Heap):builtinV Prog .len [24] [x] h = lnS x h:=lnS_eq (e:=129) (by kernel_rfl) x h
@[simp] theorem fa_29_1 (a:Value) (h:Heap):fieldAddrR Prog 29 a 1 h = faR 4 1 a h:=fa_is (ft:=27) (by kernel_rfl) (by kernel_rfl) a h
@[simp] theorem ld_27 (a:Value) (h:Heap):loadR Prog 27 a h = ld1 a h:=ld1_eq (by kernel_rfl) a h
@[simp] theorem len_27 (x:Value) (h:Heap):builtinV Prog .len [27] [x] h = lnS x h:=lnS_eq (e:=125) (by kernel_rfl) x h
@[simp] theorem sl_22 (x:Value) (lo hi mx:Option Value) (h:Heap):sliceR Prog 22 x lo hi mx h = slS 1 x lo hi mx h:=slS_eq (e:=5) (by kernel_rfl) (by kernel_rfl) x lo hi mx h
@[simp] theorem cp_22_22 (d s:Value) (h:Heap):builtinV Prog .copy [22,22] [d,s] h = cpR 1 d s h:=cp_is (e:=5) (by kernel_rfl) (by kernel_rfl) d s h
@[simp] theorem ix_27 (x i:Value) (h:Heap):indexAddrR Prog 27 x i h = ixS 1 x i h:=ixS_eq (e:=125) (by kernel_rfl) (by kernel_rfl) x i h
@[simp] theorem ζv1 (x:Value) (H:Heap):convR Prog 125 135 x H = cvK .u16 x H:=ζ8w (by kernel_rfl) (by kernel_rfl) x H
@[simp] theorem cv_135_3 (x:Value) (H:Heap):convR Prog 135 3 x H = cvK .i64 x H:=ζ8w (by kernel_rfl) (by kernel_rfl) x H
@[simp] theorem ld_36 (a:Value) (h:Heap):loadR Prog 36 a h = ld1 a h:=ld1_eq (by kernel_rfl) a h
@[simp] theorem al_36 (h:Heap):allocR Prog 36 h = newP [.pointer none] h:=al_eq (z:=.pointer none) (by kernel_rfl) h
@[simp] theorem st_36 (a v:Value) (h:Heap):storeR Prog 36 a v h = stR 1 a v h:=st_eq (by kernel_rfl) a v h
@[simp] theorem al_113 (h:Heap):allocR Prog 113 h = newP [.slice none 0 0] h:=al_eq (z:=.agg #[.slice none 0 0]) (by kernel_rfl) h
@[simp] theorem st_113 (a v:Value) (h:Heap):storeR Prog 113 a v h = stR 1 a v h:=st_eq (by kernel_rfl) a v h
@[simp] theorem al_44 (h:Heap):allocR Prog 44 h = newP [.slice none 0 0,.int .i64 0,.int .i64 0,.int .i64 0,.int .i64 0,.int .i64 0,.int .i64 0,.slice none 0 0,.slice none 0 0] h:=al_eq (z:=.agg #[.slice none 0 0,.int .i64 0,.int .i64 0,.int .i64 0,.int .i64 0,.int .i64 0,.int .i64 0,.slice none 0 0,.slice none 0 0]) (by kernel_rfl) h
@[simp] theorem st_44 (a v:Value) (h:Heap):storeR Prog 44 a v h = stR 9 a v h:=st_eq (by kernel_rfl) a v h
@[simp] theorem bd_46 (ps:List (Nat × Value)) (h:Heap):buildR Prog 46 ps h = bdR [(0,9),(9,1)] ps [.slice none 0 0,.int .i64 0,.int .i64 0,.int .i64 0,.int .i64 0,.int .i64 0,.int .i64 0,.slice none 0 0,.slice none 0 0,.slice none 0 0] h:=bd_is (z:=.agg #[.slice none 0 0,.int .i64 0,.int .i64 0,.int .i64 0,.int .i64 0,.int .i64 0,.int .i64 0,.slice none 0 0,.slice none 0 0,.slice none 0 0]) (by kernel_rfl) (by kernel_rfl) (by kernel_rfl) ps h
@[simp] theorem fa_44_5 (a:Value) (h:Heap):fieldAddrR Prog 44 a 5 h = faR 5 1 a h:=fa_is (ft:=3) (by kernel_rfl) (by kernel_rfl) a h
@[simp] theorem ld_44 (a:Value) (h:Heap):loadR Prog 44 a h = ldA 9 a h:=ldA_eq (by kernel_rfl) (by kernel_rfl) a h
@[simp] theorem al_129 (h:Heap):allocR Prog 129 h = newP [.int .i64 0,.int .i64 0,.int .i64 0,.int .i64 0] h:=al_eq (z:=.agg #[.int .i64 0,.int .i64 0,.int .i64 0,.int .i64 0]) (by kernel_rfl) h
@[simp] theorem st_129 (a v:Value) (h:Heap):storeR Prog 129 a v h = stR 4 a v h:=st_eq (by kernel_rfl) a v h
@[simp] theorem fa_129_2 (a:Value) (h:Heap):fieldAddrR Prog 129 a 2 h = faR 2 1 a h:=fa_is (ft:=3) (by kernel_rfl) (by kernel_rfl) a h
@[simp] theorem bd_145 (ps:List (Nat × Value)) (h:Heap):buildR Prog 145 ps h = bdR [(0,1),(1,1)] ps [.bool false,.slice none 0 0] h:=bd_is (z:=.agg #[.bool false,.slice none 0 0]) (by kernel_rfl) (by kernel_rfl) (by kernel_rfl) ps h
@[simp] theorem fa_145_1 (a:Value) (h:Heap):fieldAddrR Prog 145 a 1 h = faR 1 1 a h:=fa_is (ft:=56) (by kernel_rfl) (by kernel_rfl) a h
@[simp] theorem ld_56 (a:Value) (h:Heap):loadR Prog 56 a h = ld1 a h:=ld1_eq (by kernel_rfl) a h
@[simp] theorem be_56_1 (ps:List (Nat × Value)) (h:Heap):buildSliceR Prog 56 1 ps h = beR 3 1 ps [.int .i32 0,.int .i32 0,.int .i32 0] h:=be_eq (e:=93) (by kernel_rfl) (by kernel_rfl) (by kernel_rfl) (by kernel_rfl) ps h
@[simp] theorem ap_56 (a b:Value) (h:Heap):builtinV Prog .append [56,56] [a,b] h = apR 3 12 a b h:=ap_is (e:=93) (z:=.agg #[.int .i32 0,.int .i32 0,.int .i32 0]) (by kernel_rfl) (by kernel_rfl) (by kernel_rfl) (by kernel_rfl) (by kernel_rfl) a b h
@[simp] theorem st_56 (a v:Value) (h:Heap):storeR Prog 56 a v h = stR 1 a v h:=st_eq (by kernel_rfl) a v h
@[simp] theorem bd_148 (ps:List (Nat × Value)) (h:Heap):buildR Prog 148 ps h = bdR [(0,1)] ps [.slice none 0 0] h:=bd_is (z:=.agg #[.slice none 0 0]) (by kernel_rfl) (by kernel_rfl) (by kernel_rfl) ps h
@[simp] theorem fa_148_0 (a:Value) (h:Heap):fieldAddrR Prog 148 a 0 h = faR 0 1 a h:=fa_is (ft:=61) (by kernel_rfl) (by kernel_rfl) a h
@[simp] theorem ld_61 (a:Value) (h:Heap):loadR Prog 61 a h = ld1 a h:=ld1_eq (by kernel_rfl) a h
@[simp] theorem bd_150 (ps:List (Nat × Value)) (h:Heap):buildR Prog 150 ps h = bdR [(0,1),(1,1)] ps [.int .i64 0,.int .i64 0] h:=bd_is (z:=.agg #[.int .i64 0,.int .i64 0]) (by kernel_rfl) (by kernel_rfl) (by kernel_rfl) ps h
@[simp] theorem be_61_1 (ps:List (Nat × Value)) (h:Heap):buildSliceR Prog 61 1 ps h = beR 2 1 ps [.int .i64 0,.int .i64 0] h:=be_eq (e:=150) (by kernel_rfl) (by kernel_rfl) (by kernel_rfl) (by kernel_rfl) ps h
@[simp] theorem ap_61 (a b:Value) (h:Heap):builtinV Prog .append [61,61] [a,b] h = apR 2 16 a b h:=ap_is (e:=150) (z:=.agg #[.int .i64 0,.int .i64 0]) (by kernel_rfl) (by kernel_rfl) (by kernel_rfl) (by kernel_rfl) (by kernel_rfl) a b h
@[simp] theorem st_61 (a v:Value) (h:Heap):storeR Prog 61 a v h = stR 1 a v h:=st_eq (by kernel_rfl) a v h
@[simp] theorem al_156 (h:Heap):allocR Prog 156 h = newP [.int .i64 0,.int .i64 0,.int .i64 0,.int .i64 0,.int .i64 0,.int .i64 0,.int .i64 0,.int .i64 0,.int .i64 0] h:=al_eq (z:=.agg #[.int .i64 0,.int .i64 0,.int .i64 0,.int .i64 0,.int .i64 0,.int .i64 0,.int .i64 0,.int .i64 0,.int .i64 0]) (by kernel_rfl) h
@[simp] theorem fa_161_0 (a:Value) (h:Heap):fieldAddrR Prog 161 a 0 h = faR 0 1 a h:=fa_is (ft:=159) (by kernel_rfl) (by kernel_rfl) a h
@[simp] theorem ld_159 (a:Value) (h:Heap):loadR Prog 159 a h = ld1 a h:=ld1_eq (by kernel_rfl) a h
@[simp] theorem ld_52 (a:Value) (h:Heap):loadR Prog 52 a h = ld1 a h:=ld1_eq (by kernel_rfl) a h
@[simp] theorem be_56_0 (ps:List (Nat × Value)) (h:Heap):buildSliceR Prog 56 0 ps h = beR 3 0 ps [] h:=be_eq (e:=93) (by kernel_rfl) (by kernel_rfl) (by kernel_rfl) (by kernel_rfl) ps h
@[simp] theorem cv_3_21 (x:Value) (H:Heap):convR Prog 3 21 x H = cvK .i32 x H:=ζ8w (by kernel_rfl) (by kernel_rfl) x H
@[simp] theorem len_61 (x:Value) (h:Heap):builtinV Prog .len [61] [x] h = lnS x h:=lnS_eq (e:=150) (by kernel_rfl) x h
@[simp] theorem al_171 (h:Heap):allocR Prog 171 h = newP [.int .i64 0,.int .i64 0,.int .i64 0,.int .i64 0,.int .i64 0,.bool false,.int .i64 0] h:=al_eq (z:=.agg #[.int .i64 0,.int .i64 0,.int .i64 0,.int .i64 0,.int .i64 0,.bool false,.int .i64 0]) (by kernel_rfl) h
@[simp] theorem st_171 (a v:Value) (h:Heap):storeR Prog 171 a v h = stR 7 a v h:=st_eq (by kernel_rfl) a v h
@[simp] theorem be_30_0 (ps:List (Nat × Value)) (h:Heap):buildSliceR Prog 30 0 ps h = beR 1 0 ps [] h:=be_eq (e:=3) (by kernel_rfl) (by kernel_rfl) (by kernel_rfl) (by kernel_rfl) ps h
@[simp] theorem fa_171_5 (a:Value) (h:Heap):fieldAddrR Prog 171 a 5 h = faR 5 1 a h:=fa_is (ft:=4) (by kernel_rfl) (by kernel_rfl) a h
@[simp] theorem fa_46_0 (a:Value) (h:Heap):fieldAddrR Prog 46 a 0 h = faR 0 9 a h:=fa_is (ft:=44) (by kernel_rfl) (by kernel_rfl) a h
@[simp] theorem ld_171 (a:Value) (h:Heap):loadR Prog 171 a h = ldA 7 a h:=ldA_eq (by kernel_rfl) (by kernel_rfl) a h
@[simp] theorem fa_129_1 (a:Value) (h:Heap):fieldAddrR Prog 129 a 1 h = faR 1 1 a h:=fa_is (ft:=3) (by kernel_rfl) (by kernel_rfl) a h
@[simp] theorem fa_171_1 (a:Value) (h:Heap):fieldAddrR Prog 171 a 1 h = faR 1 1 a h:=fa_is (ft:=3) (by kernel_rfl) (by kernel_rfl) a h
@[simp] theorem sl_30 (x:Value) (lo hi mx:Option Value) (h:Heap):sliceR Prog 30 x lo hi mx h = slS 1 x lo hi mx h:=slS_eq (e:=3) (by kernel_rfl) (by kernel_rfl) x lo hi mx h
@[simp] theorem fa_46_1 (a:Value) (h:Heap):fieldAddrR Prog 46 a 1 h = faR 9 1 a h:=fa_is (ft:=22) (by kernel_rfl) (by kernel_rfl) a h
@[simp] theorem ld_129 (a:Value) (h:Heap):loadR Prog 129 a h = ldA 4 a h:=ldA_eq (by kernel_rfl) (by kernel_rfl) a h
@[simp] theorem fa_171_6 (a:Value) (h:Heap):fieldAddrR Prog 171 a 6 h = faR 6 1 a h:=fa_is (ft:=3) (by kernel_rfl) (by kernel_rfl) a h
@[simp] theorem be_61_0 (ps:List (Nat × Value)) (h:Heap):buildSliceR Prog 61 0 ps h = beR 2 0 ps [] h:=be_eq (e:=150) (by kernel_rfl) (by kernel_rfl) (by kernel_rfl) (by kernel_rfl) ps h
@[simp] theorem ix_61 (x i:Value) (h:Heap):indexAddrR Prog 61 x i h = ixS 2 x i h:=ixS_eq (e:=150) (by kernel_rfl) (by kernel_rfl) x i h
@[simp] theorem ld_150 (a:Value) (h:Heap):loadR Prog 150 a h = ldA 2 a h:=ldA_eq (by kernel_rfl) (by kernel_rfl) a h
@[simp] theorem neI_150 (a0 a1 b0 b1:Int) (h:Heap):binR Prog .neq 150 (.agg #[.int .i64 a0,.int .i64 a1]) (.agg #[.int .i64 b0,.int .i64 b1]) h = .ok (.bool (!([a0,a1] == [b0,b1]))) h:=neI_is (ks:=[.i64,.i64]) (by kernel_rfl) [a0,a1] [b0,b1] rfl rfl h
@[simp] theorem ld_5 (a:Value) (h:Heap):loadR Prog 5 a h = ld1 a h:=ld1_eq (by kernel_rfl) a h
@[simp] theorem cv_5_3 (x:Value) (H:Heap):convR Prog 5 3 x H = cvK .i64 x H:=ζ8w (by kernel_rfl) (by kernel_rfl) x H
@[simp] theorem ap_22 (a b:Value) (h:Heap):builtinV Prog .append [22,22] [a,b] h = apR 1 1 a b h:=ap_is (e:=5) (z:=.int .u8 0) (by kernel_rfl) (by kernel_rfl) (by kernel_rfl) (by kernel_rfl) (by kernel_rfl) a b h
@[simp] theorem al_42 (h:Heap):allocR Prog 42 h = newP [.slice none 0 0,.slice none 0 0] h:=al_eq (z:=.agg #[.slice none 0 0,.slice none 0 0]) (by kernel_rfl) h
@[simp] theorem st_42 (a v:Value) (h:Heap):storeR Prog 42 a v h = stR 2 a v h:=st_eq (by kernel_rfl) a v h
@[simp] theorem ld_42 (a:Value) (h:Heap):loadR Prog 42 a h = ldA 2 a h:=ldA_eq (by kernel_rfl) (by kernel_rfl) a h
@[simp] theorem fa_42_1 (a:Value) (h:Heap):fieldAddrR Prog 42 a 1 h = faR 1 1 a h:=fa_is (ft:=40) (by kernel_rfl) (by kernel_rfl) a h
@[simp] theorem ld_40 (a:Value) (h:Heap):loadR Prog 40 a h = ld1 a h:=ld1_eq (by kernel_rfl) a h
@[simp] theorem len_40 (x:Value) (h:Heap):builtinV Prog .len [40] [x] h = lnS x h:=lnS_eq (e:=186) (by kernel_rfl) x h
@[simp] theorem ix_40 (x i:Value) (h:Heap):indexAddrR Prog 40 x i h = ixS 5 x i h:=ixS_eq (e:=186) (by kernel_rfl) (by kernel_rfl) x i h
@[simp] theorem fa_186_0 (a:Value) (h:Heap):fieldAddrR Prog 186 a 0 h = faR 0 1 a h:=fa_is (ft:=3) (by kernel_rfl) (by kernel_rfl) a h
@[simp] theorem fa_186_1 (a:Value) (h:Heap):fieldAddrR Prog 186 a 1 h = faR 1 1 a h:=fa_is (ft:=3) (by kernel_rfl) (by kernel_rfl) a h
@[simp] theorem fa_186_4 (a:Value) (h:Heap):fieldAddrR Prog 186 a 4 h = faR 4 1 a h:=fa_is (ft:=3) (by kernel_rfl) (by kernel_rfl) a h
@[simp] theorem st_3 (a v:Value) (h:Heap):storeR Prog 3 a v h = stR 1 a v h:=st_eq (by kernel_rfl) a v h
@[simp] theorem fa_150_0 (a:Value) (h:Heap):fieldAddrR Prog 150 a 0 h = faR 0 1 a h:=fa_is (ft:=3) (by kernel_rfl) (by kernel_rfl) a h
@[simp] theorem az_22_3 (a b:Value) (h:Heap):builtinV Prog .append [22,3] [a,b] h = azR 1 1 [.int .u8 0] a b h:=az_is (kt:=.i64) (e:=5) (z:=.int .u8 0) (by kernel_rfl) (by kernel_rfl) (by kernel_rfl) (by kernel_rfl) (by kernel_rfl) (by kernel_rfl) a b h
@[simp] theorem st_4 (a v:Value) (h:Heap):storeR Prog 4 a v h = stR 1 a v h:=st_eq (by kernel_rfl) a v h
@[simp] theorem ld_113 (a:Value) (h:Heap):loadR Prog 113 a h = ldA 1 a h:=ldA_eq (by kernel_rfl) (by kernel_rfl) a h
@[simp] theorem bd_113 (ps:List (Nat × Value)) (h:Heap):buildR Prog 113 ps h = bdR [(0,1)] ps [.slice none 0 0] h:=bd_is (z:=.agg #[.slice none 0 0]) (by kernel_rfl) (by kernel_rfl) (by kernel_rfl) ps h
@[simp] theorem fa_26_3 (a:Value) (h:Heap):fieldAddrR Prog 26 a 3 h = faR 3 1 a h:=fa_is (ft:=5) (by kernel_rfl) (by kernel_rfl) a h
@[simp] theorem ix_23 (x i:Value) (h:Heap):indexAddrR Prog 23 x i h = ixS 1 x i h:=ixS_eq (e:=22) (by kernel_rfl) (by kernel_rfl) x i h
@[simp] theorem ix_24 (x i:Value) (h:Heap):indexAddrR Prog 24 x i h = ixS 4 x i h:=ixS_eq (e:=129) (by kernel_rfl) (by kernel_rfl) x i h
@[simp] theorem fa_129_0 (a:Value) (h:Heap):fieldAddrR Prog 129 a 0 h = faR 0 1 a h:=fa_is (ft:=3) (by kernel_rfl) (by kernel_rfl) a h
@[simp] theorem fa_129_3 (a:Value) (h:Heap):fieldAddrR Prog 129 a 3 h = faR 3 1 a h:=fa_is (ft:=3) (by kernel_rfl) (by kernel_rfl) a h
@[simp] theorem cv_3_5 (x:Value) (H:Heap):convR Prog 3 5 x H = cvK .u8 x H:=ζ8w (by kernel_rfl) (by kernel_rfl) x H
@[simp] theorem be_22_1 (ps:List (Nat × Value)) (h:Heap):buildSliceR Prog 22 1 ps h = beR 1 1 ps [.int .u8 0] h:=be_eq (e:=5) (by kernel_rfl) (by kernel_rfl) (by kernel_rfl) (by kernel_rfl) ps h
@[simp] theorem be_22_0 (ps:List (Nat × Value)) (h:Heap):buildSliceR Prog 22 0 ps h = beR 1 0 ps [] h:=be_eq (e:=5) (by kernel_rfl) (by kernel_rfl) (by kernel_rfl) (by kernel_rfl) ps h
@[simp] theorem fa_113_0 (a:Value) (h:Heap):fieldAddrR Prog 113 a 0 h = faR 0 1 a h:=fa_is (ft:=22) (by kernel_rfl) (by kernel_rfl) a h
@[simp] theorem bd_161 (ps:List (Nat × Value)) (h:Heap):buildR Prog 161 ps h = bdR [(0,1),(1,1)] ps [.pointer none,.slice none 0 0] h:=bd_is (z:=.agg #[.pointer none,.slice none 0 0]) (by kernel_rfl) (by kernel_rfl) (by kernel_rfl) ps h
@[simp] theorem fa_161_1 (a:Value) (h:Heap):fieldAddrR Prog 161 a 1 h = faR 1 1 a h:=fa_is (ft:=113) (by kernel_rfl) (by kernel_rfl) a h
@[simp] theorem bd_44 (ps:List (Nat × Value)) (h:Heap):buildR Prog 44 ps h = bdR [(0,1),(1,1),(2,1),(3,1),(4,1),(5,1),(6,1),(7,2)] ps [.slice none 0 0,.int .i64 0,.int .i64 0,.int .i64 0,.int .i64 0,.int .i64 0,.int .i64 0,.slice none 0 0,.slice none 0 0] h:=bd_is (z:=.agg #[.slice none 0 0,.int .i64 0,.int .i64 0,.int .i64 0,.int .i64 0,.int .i64 0,.int .i64 0,.slice none 0 0,.slice none 0 0]) (by kernel_rfl) (by kernel_rfl) (by kernel_rfl) ps h
@[simp] theorem fa_44_1 (a:Value) (h:Heap):fieldAddrR Prog 44 a 1 h = faR 1 1 a h:=fa_is (ft:=3) (by kernel_rfl) (by kernel_rfl) a h
@[simp] theorem fa_44_2 (a:Value) (h:Heap):fieldAddrR Prog 44 a 2 h = faR 2 1 a h:=fa_is (ft:=3) (by kernel_rfl) (by kernel_rfl) a h
@[simp] theorem fa_44_3 (a:Value) (h:Heap):fieldAddrR Prog 44 a 3 h = faR 3 1 a h:=fa_is (ft:=3) (by kernel_rfl) (by kernel_rfl) a h
@[simp] theorem fa_44_7 (a:Value) (h:Heap):fieldAddrR Prog 44 a 7 h = faR 7 2 a h:=fa_is (ft:=42) (by kernel_rfl) (by kernel_rfl) a h
@[simp] theorem fa_44_4 (a:Value) (h:Heap):fieldAddrR Prog 44 a 4 h = faR 4 1 a h:=fa_is (ft:=3) (by kernel_rfl) (by kernel_rfl) a h
@[simp] theorem fa_44_6 (a:Value) (h:Heap):fieldAddrR Prog 44 a 6 h = faR 6 1 a h:=fa_is (ft:=3) (by kernel_rfl) (by kernel_rfl) a h
@[simp] theorem fa_44_0 (a:Value) (h:Heap):fieldAddrR Prog 44 a 0 h = faR 0 1 a h:=fa_is (ft:=22) (by kernel_rfl) (by kernel_rfl) a h
@[simp] theorem cv_21_3 (x:Value) (H:Heap):convR Prog 21 3 x H = cvK .i64 x H:=ζ8w (by kernel_rfl) (by kernel_rfl) x H
@[simp] theorem bd_228 (ps:List (Nat × Value)) (h:Heap):buildR Prog 228 ps h = bdR [(0,1),(1,1),(2,1),(3,1),(4,1),(5,1)] ps [.pointer none,.pointer none,.int .i64 0,.int .i64 0,.int .i64 0,.int .i64 0] h:=bd_is (z:=.agg #[.pointer none,.pointer none,.int .i64 0,.int .i64 0,.int .i64 0,.int .i64 0]) (by kernel_rfl) (by kernel_rfl) (by kernel_rfl) ps h
@[simp] theorem fa_228_4 (a:Value) (h:Heap):fieldAddrR Prog 228 a 4 h = faR 4 1 a h:=fa_is (ft:=3) (by kernel_rfl) (by kernel_rfl) a h
@[simp] theorem fa_228_5 (a:Value) (h:Heap):fieldAddrR Prog 228 a 5 h = faR 5 1 a h:=fa_is (ft:=3) (by kernel_rfl) (by kernel_rfl) a h
@[simp] theorem bd_156 (ps:List (Nat × Value)) (h:Heap):buildR Prog 156 ps h = bdR [(0,8),(8,1)] ps [.int .i64 0,.int .i64 0,.int .i64 0,.int .i64 0,.int .i64 0,.int .i64 0,.int .i64 0,.int .i64 0,.int .i64 0] h:=bd_is (z:=.agg #[.int .i64 0,.int .i64 0,.int .i64 0,.int .i64 0,.int .i64 0,.int .i64 0,.int .i64 0,.int .i64 0,.int .i64 0]) (by kernel_rfl) (by kernel_rfl) (by kernel_rfl) ps h
@[simp] theorem st_156 (a v:Value) (h:Heap):storeR Prog 156 a v h = stR 9 a v h:=st_eq (by kernel_rfl) a v h
@[simp] theorem ld_49 (a:Value) (h:Heap):loadR Prog 49 a h = ld1 a h:=ld1_eq (by kernel_rfl) a h
@[simp] theorem fa_156_1 (a:Value) (h:Heap):fieldAddrR Prog 156 a 1 h = faR 8 1 a h:=fa_is (ft:=3) (by kernel_rfl) (by kernel_rfl) a h
@[simp] theorem fa_156_0 (a:Value) (h:Heap):fieldAddrR Prog 156 a 0 h = faR 0 8 a h:=fa_is (ft:=154) (by kernel_rfl) (by kernel_rfl) a h
@[simp] theorem sl_154 (x:Value) (lo hi mx:Option Value) (h:Heap):sliceR Prog 154 x lo hi mx h = slA 8 1 x lo hi mx h:=slA_eq (e:=3) (by kernel_rfl) (by kernel_rfl) x lo hi mx h
@[simp] theorem cp_30_30 (d s:Value) (h:Heap):builtinV Prog .copy [30,30] [d,s] h = cpR 1 d s h:=cp_is (e:=3) (by kernel_rfl) (by kernel_rfl) d s h
@[simp] theorem ix_154 (x i:Value) (h:Heap):indexAddrR Prog 154 x i h = ixA 8 1 x i h:=ixA_eq (e:=3) (by kernel_rfl) (by kernel_rfl) x i h
@[simp] theorem bd_171 (ps:List (Nat × Value)) (h:Heap):buildR Prog 171 ps h = bdR [(0,1),(1,1),(2,1),(3,1),(4,1),(5,1),(6,1)] ps [.int .i64 0,.int .i64 0,.int .i64 0,.int .i64 0,.int .i64 0,.bool false,.int .i64 0] h:=bd_is (z:=.agg #[.int .i64 0,.int .i64 0,.int .i64 0,.int .i64 0,.int .i64 0,.bool false,.int .i64 0]) (by kernel_rfl) (by kernel_rfl) (by kernel_rfl) ps h
@[simp] theorem fa_171_0 (a:Value) (h:Heap):fieldAddrR Prog 171 a 0 h = faR 0 1 a h:=fa_is (ft:=3) (by kernel_rfl) (by kernel_rfl) a h
@[simp] theorem fa_171_2 (a:Value) (h:Heap):fieldAddrR Prog 171 a 2 h = faR 2 1 a h:=fa_is (ft:=3) (by kernel_rfl) (by kernel_rfl) a h
@[simp] theorem fa_171_3 (a:Value) (h:Heap):fieldAddrR Prog 171 a 3 h = faR 3 1 a h:=fa_is (ft:=3) (by kernel_rfl) (by kernel_rfl) a h
@[simp] theorem fa_171_4 (a:Value) (h:Heap):fieldAddrR Prog 171 a 4 h = faR 4 1 a h:=fa_is (ft:=3) (by kernel_rfl) (by kernel_rfl) a h
@[simp] theorem ld_111 (a:Value) (h:Heap):loadR Prog 111 a h = ld1 a h:=ld1_eq (by kernel_rfl) a h
@[simp] theorem bd_42 (ps:List (Nat × Value)) (h:Heap):buildR Prog 42 ps h = bdR [(0,1),(1,1)] ps [.slice none 0 0,.slice none 0 0] h:=bd_is (z:=.agg #[.slice none 0 0,.slice none 0 0]) (by kernel_rfl) (by kernel_rfl) (by kernel_rfl) ps h
@[simp] theorem ld_186 (a:Value) (h:Heap):loadR Prog 186 a h = ldA 5 a h:=ldA_eq (by kernel_rfl) (by kernel_rfl) a h
@[simp] theorem al_186 (h:Heap):allocR Prog 186 h = newP [.int .i64 0,.int .i64 0,.int .i64 0,.int .i64 0,.int .i64 0] h:=al_eq (z:=.agg #[.int .i64 0,.int .i64 0,.int .i64 0,.int .i64 0,.int .i64 0]) (by kernel_rfl) h
@[simp] theorem st_186 (a v:Value) (h:Heap):storeR Prog 186 a v h = stR 5 a v h:=st_eq (by kernel_rfl) a v h
@[simp] theorem fa_42_0 (a:Value) (h:Heap):fieldAddrR Prog 42 a 0 h = faR 0 1 a h:=fa_is (ft:=22) (by kernel_rfl) (by kernel_rfl) a h
@[simp] theorem fa_186_2 (a:Value) (h:Heap):fieldAddrR Prog 186 a 2 h = faR 2 1 a h:=fa_is (ft:=3) (by kernel_rfl) (by kernel_rfl) a h
@[simp] theorem fa_186_3 (a:Value) (h:Heap):fieldAddrR Prog 186 a 3 h = faR 3 1 a h:=fa_is (ft:=3) (by kernel_rfl) (by kernel_rfl) a h
@[simp] theorem al_150 (h:Heap):allocR Prog 150 h = newP [.int .i64 0,.int .i64 0] h:=al_eq (z:=.agg #[.int .i64 0,.int .i64 0]) (by kernel_rfl) h
@[simp] theorem st_150 (a v:Value) (h:Heap):storeR Prog 150 a v h = stR 2 a v h:=st_eq (by kernel_rfl) a v h
@[simp] theorem bd_259 (ps:List (Nat × Value)) (h:Heap):buildR Prog 259 ps h = bdR [(0,1),(1,1),(2,1),(3,1)] ps [.int .i64 0,.pointer none,.slice none 0 0,.slice none 0 0] h:=bd_is (z:=.agg #[.int .i64 0,.pointer none,.slice none 0 0,.slice none 0 0]) (by kernel_rfl) (by kernel_rfl) (by kernel_rfl) ps h
@[simp] theorem bd_261 (ps:List (Nat × Value)) (h:Heap):buildR Prog 261 ps h = bdR [(0,1),(1,1),(2,1),(3,1)] ps [.pointer none,.slice none 0 0,.slice none 0 0,.int .i64 0] h:=bd_is (z:=.agg #[.pointer none,.slice none 0 0,.slice none 0 0,.int .i64 0]) (by kernel_rfl) (by kernel_rfl) (by kernel_rfl) ps h
@[simp] theorem al_261 (h:Heap):allocR Prog 261 h = newP [.pointer none,.slice none 0 0,.slice none 0 0,.int .i64 0] h:=al_eq (z:=.agg #[.pointer none,.slice none 0 0,.slice none 0 0,.int .i64 0]) (by kernel_rfl) h
@[simp] theorem st_261 (a v:Value) (h:Heap):storeR Prog 261 a v h = stR 4 a v h:=st_eq (by kernel_rfl) a v h
@[simp] theorem fa_259_2 (a:Value) (h:Heap):fieldAddrR Prog 259 a 2 h = faR 2 1 a h:=fa_is (ft:=257) (by kernel_rfl) (by kernel_rfl) a h
@[simp] theorem ld_257 (a:Value) (h:Heap):loadR Prog 257 a h = ld1 a h:=ld1_eq (by kernel_rfl) a h
@[simp] theorem len_257 (x:Value) (h:Heap):builtinV Prog .len [257] [x] h = lnS x h:=lnS_eq (e:=30) (by kernel_rfl) x h
@[simp] theorem fa_259_3 (a:Value) (h:Heap):fieldAddrR Prog 259 a 3 h = faR 3 1 a h:=fa_is (ft:=24) (by kernel_rfl) (by kernel_rfl) a h
@[simp] theorem ld_261 (a:Value) (h:Heap):loadR Prog 261 a h = ldA 4 a h:=ldA_eq (by kernel_rfl) (by kernel_rfl) a h
@[simp] theorem be_24_0 (ps:List (Nat × Value)) (h:Heap):buildSliceR Prog 24 0 ps h = beR 4 0 ps [] h:=be_eq (e:=129) (by kernel_rfl) (by kernel_rfl) (by kernel_rfl) (by kernel_rfl) ps h
@[simp] theorem ap_24 (a b:Value) (h:Heap):builtinV Prog .append [24,24] [a,b] h = apR 4 32 a b h:=ap_is (e:=129) (z:=.agg #[.int .i64 0,.int .i64 0,.int .i64 0,.int .i64 0]) (by kernel_rfl) (by kernel_rfl) (by kernel_rfl) (by kernel_rfl) (by kernel_rfl) a b h
@[simp] theorem fa_228_0 (a:Value) (h:Heap):fieldAddrR Prog 228 a 0 h = faR 0 1 a h:=fa_is (ft:=159) (by kernel_rfl) (by kernel_rfl) a h
@[simp] theorem fa_228_2 (a:Value) (h:Heap):fieldAddrR Prog 228 a 2 h = faR 2 1 a h:=fa_is (ft:=3) (by kernel_rfl) (by kernel_rfl) a h
@[simp] theorem fa_228_3 (a:Value) (h:Heap):fieldAddrR Prog 228 a 3 h = faR 3 1 a h:=fa_is (ft:=3) (by kernel_rfl) (by kernel_rfl) a h
@[simp] theorem ld_168 (a:Value) (h:Heap):loadR Prog 168 a h = ld1 a h:=ld1_eq (by kernel_rfl) a h
@[simp] theorem cv_3_125 (x:Value) (H:Heap):convR Prog 3 125 x H = cvK .i16 x H:=ζ8w (by kernel_rfl) (by kernel_rfl) x H
@[simp] theorem cv_125_3 (x:Value) (H:Heap):convR Prog 125 3 x H = cvK .i64 x H:=ζ8w (by kernel_rfl) (by kernel_rfl) x H
@[simp] theorem bd_267 (ps:List (Nat × Value)) (h:Heap):buildR Prog 267 ps h = bdR [(0,1),(1,1),(2,1)] ps [.slice none 0 0,.int .i64 0,.int .i64 0] h:=bd_is (z:=.agg #[.slice none 0 0,.int .i64 0,.int .i64 0]) (by kernel_rfl) (by kernel_rfl) (by kernel_rfl) ps h
@[simp] theorem al_267 (h:Heap):allocR Prog 267 h = newP [.slice none 0 0,.int .i64 0,.int .i64 0] h:=al_eq (z:=.agg #[.slice none 0 0,.int .i64 0,.int .i64 0]) (by kernel_rfl) h
@[simp] theorem st_267 (a v:Value) (h:Heap):storeR Prog 267 a v h = stR 3 a v h:=st_eq (by kernel_rfl) a v h
@[simp] theorem bd_270 (ps:List (Nat × Value)) (h:Heap):buildR Prog 270 ps h = bdR [(0,1),(1,1)] ps [.int .i64 0,.slice none 0 0] h:=bd_is (z:=.agg #[.int .i64 0,.slice none 0 0]) (by kernel_rfl) (by kernel_rfl) (by kernel_rfl) ps h
@[simp] theorem fa_270_0 (a:Value) (h:Heap):fieldAddrR Prog 270 a 0 h = faR 0 1 a h:=fa_is (ft:=3) (by kernel_rfl) (by kernel_rfl) a h
@[simp] theorem bd_273 (ps:List (Nat × Value)) (h:Heap):buildR Prog 273 ps h = bdR [(0,1),(1,1),(2,1)] ps [.int .i64 0,.int .i64 0,.slice none 0 0] h:=bd_is (z:=.agg #[.int .i64 0,.int .i64 0,.slice none 0 0]) (by kernel_rfl) (by kernel_rfl) (by kernel_rfl) ps h
@[simp] theorem be_268_1 (ps:List (Nat × Value)) (h:Heap):buildSliceR Prog 268 1 ps h = beR 3 1 ps [.int .i64 0,.int .i64 0,.slice none 0 0] h:=be_eq (e:=273) (by kernel_rfl) (by kernel_rfl) (by kernel_rfl) (by kernel_rfl) ps h
@[simp] theorem fa_270_1 (a:Value) (h:Heap):fieldAddrR Prog 270 a 1 h = faR 1 1 a h:=fa_is (ft:=268) (by kernel_rfl) (by kernel_rfl) a h
@[simp] theorem st_268 (a v:Value) (h:Heap):storeR Prog 268 a v h = stR 1 a v h:=st_eq (by kernel_rfl) a v h
@[simp] theorem ld_267 (a:Value) (h:Heap):loadR Prog 267 a h = ldA 3 a h:=ldA_eq (by kernel_rfl) (by kernel_rfl) a h
@[simp] theorem ld_268 (a:Value) (h:Heap):loadR Prog 268 a h = ld1 a h:=ld1_eq (by kernel_rfl) a h
@[simp] theorem len_268 (x:Value) (h:Heap):builtinV Prog .len [268] [x] h = lnS x h:=lnS_eq (e:=273) (by kernel_rfl) x h
@[simp] theorem ix_268 (x i:Value) (h:Heap):indexAddrR Prog 268 x i h = ixS 3 x i h:=ixS_eq (e:=273) (by kernel_rfl) (by kernel_rfl) x i h
@[simp] theorem fa_273_1 (a:Value) (h:Heap):fieldAddrR Prog 273 a 1 h = faR 1 1 a h:=fa_is (ft:=3) (by kernel_rfl) (by kernel_rfl) a h
@[simp] theorem fa_273_0 (a:Value) (h:Heap):fieldAddrR Prog 273 a 0 h = faR 0 1 a h:=fa_is (ft:=3) (by kernel_rfl) (by kernel_rfl) a h
@[simp] theorem bd_186 (ps:List (Nat × Value)) (h:Heap):buildR Prog 186 ps h = bdR [(0,1),(1,1),(2,1),(3,1),(4,1)] ps [.int .i64 0,.int .i64 0,.int .i64 0,.int .i64 0,.int .i64 0] h:=bd_is (z:=.agg #[.int .i64 0,.int .i64 0,.int .i64 0,.int .i64 0,.int .i64 0]) (by kernel_rfl) (by kernel_rfl) (by kernel_rfl) ps h
@[simp] theorem be_40_1 (ps:List (Nat × Value)) (h:Heap):buildSliceR Prog 40 1 ps h = beR 5 1 ps [.int .i64 0,.int .i64 0,.int .i64 0,.int .i64 0,.int .i64 0] h:=be_eq (e:=186) (by kernel_rfl) (by kernel_rfl) (by kernel_rfl) (by kernel_rfl) ps h
@[simp] theorem be_40_0 (ps:List (Nat × Value)) (h:Heap):buildSliceR Prog 40 0 ps h = beR 5 0 ps [] h:=be_eq (e:=186) (by kernel_rfl) (by kernel_rfl) (by kernel_rfl) (by kernel_rfl) ps h
@[simp] theorem ap_40 (a b:Value) (h:Heap):builtinV Prog .append [40,40] [a,b] h = apR 5 40 a b h:=ap_is (e:=186) (z:=.agg #[.int .i64 0,.int .i64 0,.int .i64 0,.int .i64 0,.int .i64 0]) (by kernel_rfl) (by kernel_rfl) (by kernel_rfl) (by kernel_rfl) (by kernel_rfl) a b h
@[simp] theorem bd_217 (ps:List (Nat × Value)) (h:Heap):buildR Prog 217 ps h = bdR [] ps [] h:=bd_is (z:=.agg #[]) (by kernel_rfl) (by kernel_rfl) (by kernel_rfl) ps h
@[simp] theorem if_217 (x:Value) (h:Heap):ifaceR Prog 217 x h = .ok (.iface 217 x) h:=by kernel_rfl
@[simp] theorem fa_261_0 (a:Value) (h:Heap):fieldAddrR Prog 261 a 0 h = faR 0 1 a h:=fa_is (ft:=159) (by kernel_rfl) (by kernel_rfl) a h
@[simp] theorem fa_259_0 (a:Value) (h:Heap):fieldAddrR Prog 259 a 0 h = faR 0 1 a h:=fa_is (ft:=3) (by kernel_rfl) (by kernel_rfl) a h
@[simp] theorem fa_261_1 (a:Value) (h:Heap):fieldAddrR Prog 261 a 1 h = faR 1 1 a h:=fa_is (ft:=113) (by kernel_rfl) (by kernel_rfl) a h
@[simp] theorem be_257_1 (ps:List (Nat × Value)) (h:Heap):buildSliceR Prog 257 1 ps h = beR 1 1 ps [.slice none 0 0] h:=be_eq (e:=30) (by kernel_rfl) (by kernel_rfl) (by kernel_rfl) (by kernel_rfl) ps h
@[simp] theorem ap_257 (a b:Value) (h:Heap):builtinV Prog .append [257,257] [a,b] h = apR 1 24 a b h:=ap_is (e:=30) (z:=.slice none 0 0) (by kernel_rfl) (by kernel_rfl) (by kernel_rfl) (by kernel_rfl) (by kernel_rfl) a b h
@[simp] theorem st_257 (a v:Value) (h:Heap):storeR Prog 257 a v h = stR 1 a v h:=st_eq (by kernel_rfl) a v h
@[simp] theorem fa_261_3 (a:Value) (h:Heap):fieldAddrR Prog 261 a 3 h = faR 3 1 a h:=fa_is (ft:=3) (by kernel_rfl) (by kernel_rfl) a h
@[simp] theorem fa_261_2 (a:Value) (h:Heap):fieldAddrR Prog 261 a 2 h = faR 2 1 a h:=fa_is (ft:=113) (by kernel_rfl) (by kernel_rfl) a h
@[simp] theorem be_24_1 (ps:List (Nat × Value)) (h:Heap):buildSliceR Prog 24 1 ps h = beR 4 1 ps [.int .i64 0,.int .i64 0,.int .i64 0,.int .i64 0] h:=be_eq (e:=129) (by kernel_rfl) (by kernel_rfl) (by kernel_rfl) (by kernel_rfl) ps h
@[simp] theorem st_24 (a v:Value) (h:Heap):storeR Prog 24 a v h = stR 1 a v h:=st_eq (by kernel_rfl) a v h
@[simp] theorem fa_228_1 (a:Value) (h:Heap):fieldAddrR Prog 228 a 1 h = faR 1 1 a h:=fa_is (ft:=52) (by kernel_rfl) (by kernel_rfl) a h
@[simp] theorem ix_257 (x i:Value) (h:Heap):indexAddrR Prog 257 x i h = ixS 1 x i h:=ixS_eq (e:=30) (by kernel_rfl) (by kernel_rfl) x i h
@[simp] theorem fa_145_0 (a:Value) (h:Heap):fieldAddrR Prog 145 a 0 h = faR 0 1 a h:=fa_is (ft:=4) (by kernel_rfl) (by kernel_rfl) a h
@[simp] theorem fa_267_2 (a:Value) (h:Heap):fieldAddrR Prog 267 a 2 h = faR 2 1 a h:=fa_is (ft:=3) (by kernel_rfl) (by kernel_rfl) a h
@[simp] theorem fa_267_0 (a:Value) (h:Heap):fieldAddrR Prog 267 a 0 h = faR 0 1 a h:=fa_is (ft:=113) (by kernel_rfl) (by kernel_rfl) a h
@[simp] theorem len_287 (x:Value) (h:Heap):builtinV Prog .len [287] [x] h = lnS x h:=lnS_eq (e:=113) (by kernel_rfl) x h
@[simp] theorem ix_287 (x i:Value) (h:Heap):indexAddrR Prog 287 x i h = ixS 1 x i h:=ixS_eq (e:=113) (by kernel_rfl) (by kernel_rfl) x i h
@[simp] theorem al_273 (h:Heap):allocR Prog 273 h = newP [.int .i64 0,.int .i64 0,.slice none 0 0] h:=al_eq (z:=.agg #[.int .i64 0,.int .i64 0,.slice none 0 0]) (by kernel_rfl) h
@[simp] theorem st_273 (a v:Value) (h:Heap):storeR Prog 273 a v h = stR 3 a v h:=st_eq (by kernel_rfl) a v h
@[simp] theorem fa_273_2 (a:Value) (h:Heap):fieldAddrR Prog 273 a 2 h = faR 2 1 a h:=fa_is (ft:=30) (by kernel_rfl) (by kernel_rfl) a h
@[simp] theorem st_30 (a v:Value) (h:Heap):storeR Prog 30 a v h = stR 1 a v h:=st_eq (by kernel_rfl) a v h
@[simp] theorem ld_273 (a:Value) (h:Heap):loadR Prog 273 a h = ldA 3 a h:=ldA_eq (by kernel_rfl) (by kernel_rfl) a h
@[simp] theorem ap_268 (a b:Value) (h:Heap):builtinV Prog .append [268,268] [a,b] h = apR 3 40 a b h:=ap_is (e:=273) (z:=.agg #[.int .i64 0,.int .i64 0,.slice none 0 0]) (by kernel_rfl) (by kernel_rfl) (by kernel_rfl) (by kernel_rfl) (by kernel_rfl) a b h
@[simp] theorem fa_259_1 (a:Value) (h:Heap):fieldAddrR Prog 259 a 1 h = faR 1 1 a h:=fa_is (ft:=111) (by kernel_rfl) (by kernel_rfl) a h
@[simp] theorem be_287_1 (ps:List (Nat × Value)) (h:Heap):buildSliceR Prog 287 1 ps h = beR 1 1 ps [.slice none 0 0] h:=be_eq (e:=113) (by kernel_rfl) (by kernel_rfl) (by kernel_rfl) (by kernel_rfl) ps h
@[simp] theorem ap_287 (a b:Value) (h:Heap):builtinV Prog .append [287,287] [a,b] h = apR 1 24 a b h:=ap_is (e:=113) (z:=.agg #[.slice none 0 0]) (by kernel_rfl) (by kernel_rfl) (by kernel_rfl) (by kernel_rfl) (by kernel_rfl) a b h
@[simp] theorem sl_287 (x:Value) (lo hi mx:Option Value) (h:Heap):sliceR Prog 287 x lo hi mx h = slS 1 x lo hi mx h:=slS_eq (e:=113) (by kernel_rfl) (by kernel_rfl) x lo hi mx h
end
end Go.Sw
