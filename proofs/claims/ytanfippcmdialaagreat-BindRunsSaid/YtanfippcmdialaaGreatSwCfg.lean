/-
  The seat's functions by their names, and facts of their types.
-/
import Derived.Test.YtanfippcmdialaaGreatSwLib7
import Derived.Test.YtanfippcmdialaaGreatSwLib11
import Derived.Test.YtanfippcmdialaaGreatRows
namespace Go.Sw
noncomputable section
noncomputable abbrev A0:Program:=Go.Proofs.Tryz.prog
@[simp] def wV(v:Value)(b:Bool)(x:Res Value)(h:A2):Res Value:=bif A4e v b then x else Res.ok undef h
namespace F
abbrev ζj:Nat:=4
abbrev G32:Nat:=10
abbrev A9a:Nat:=15
abbrev A0j:Nat:=17
abbrev B2x:Nat:=18
abbrev B0e:Nat:=20
abbrev ζp:Nat:=21
abbrev A95:Nat:=23
abbrev A6y:Nat:=24
abbrev B21:Nat:=25
abbrev A8q:Nat:=26
abbrev B4w:Nat:=27
abbrev B2z:Nat:=28
abbrev ζm:Nat:=29
abbrev A6w:Nat:=30
abbrev B0n:Nat:=31
abbrev ζu:Nat:=32
abbrev B0m:Nat:=33
abbrev ζs:Nat:=34
abbrev ζq:Nat:=35
abbrev B4y:Nat:=36
abbrev ζ0:Nat:=37
abbrev A46:Nat:=47
abbrev A11:Nat:=50
abbrev ζ3:Nat:=52
abbrev ζ4:Nat:=53
abbrev B34:Nat:=54
abbrev ζ8:Nat:=57
abbrev A92:Nat:=58
abbrev ζ2:Nat:=59
abbrev ζi:Nat:=60
abbrev B26:Nat:=61
abbrev B23:Nat:=62
abbrev B3f:Nat:=63
abbrev A8u:Nat:=64
abbrev B38:Nat:=65
abbrev B50:Nat:=67
abbrev B22:Nat:=70
abbrev B24:Nat:=71
abbrev B4x:Nat:=72
abbrev A6x:Nat:=73
abbrev B0d:Nat:=74
abbrev ζf:Nat:=77
abbrev ζg:Nat:=78
abbrev ζ9:Nat:=79
abbrev B0g:Nat:=80
abbrev A4w:Nat:=81
abbrev A8r:Nat:=82
abbrev B0f:Nat:=83
abbrev ζ1:Nat:=84
abbrev ζt:Nat:=85
abbrev A6h:Nat:=86
abbrev ζn:Nat:=87
abbrev ζb:Nat:=88
abbrev B0h:Nat:=89
abbrev ζl:Nat:=90
abbrev A6z:Nat:=91
abbrev ζa:Nat:=92
abbrev ζc:Nat:=99
abbrev ζv:Nat:=100
abbrev A37:Nat:=101
abbrev A70:Nat:=102
abbrev A4v:Nat:=105
abbrev A66:Nat:=106
abbrev B4r:Nat:=107
abbrev A8o:Nat:=108
abbrev B2y:Nat:=109
abbrev B0c:Nat:=110
abbrev A64:Nat:=112
abbrev B0b:Nat:=116
abbrev A8p:Nat:=117
abbrev A6i:Nat:=118
abbrev B31:Nat:=119
abbrev ζw:Nat:=120
abbrev ζh:Nat:=121
abbrev B35:Nat:=122
abbrev A93:Nat:=123
abbrev B32:Nat:=124
abbrev ζx:Nat:=129
abbrev B3h:Nat:=130
abbrev A8n:Nat:=132
abbrev ζe:Nat:=133
abbrev B2w:Nat:=134
abbrev A90:Nat:=135
abbrev A8s:Nat:=137
abbrev ζ6:Nat:=138
abbrev ζz:Nat:=139
abbrev B2t:Nat:=140
abbrev D4e:Nat:=141
abbrev B4z:Nat:=142
abbrev ζ5:Nat:=143
abbrev ζ7:Nat:=144
abbrev ζr:Nat:=145
abbrev B30:Nat:=146
abbrev A91:Nat:=147
abbrev B0a:Nat:=153
abbrev A96:Nat:=154
abbrev A3i:Nat:=155
abbrev B0k:Nat:=156
abbrev B2v:Nat:=157
abbrev B37:Nat:=159
abbrev B0o:Nat:=160
end F
def kp2:List (Nat × List Nat):=[(0,[])]
def kp3:List (Nat × List Nat):=[]
def kp4:List (Nat × List Nat):=[(0,[1]),(1,[1,22]),(2,[2]),(3,[1,25]),(4,[2]),(5,[1,3]),(6,[1,3,4,5]),(7,[1,3,4,5,6,7]),(8,[1,3,4,5,6,42]),(9,[2]),(10,[1,3,4,5,6,8,9]),(11,[1,3,4,5,6,8,9,10,11]),(12,[1,3,4,6,8,10,80]),(13,[2]),(14,[1,3,4,6,8,10,82,83]),(15,[1,3,4,6,8,10,82,83,84]),(16,[1,3,4,6,8,10,12,82,83]),(17,[1,3,4,6,8,10,82,83]),(18,[1,3,4,6,8,10,82,83]),(19,[1,4,6,8,10,13]),(20,[1,4,6,8,10,13,14,15]),(21,[1,6,10,13,14,15,16]),(22,[1,14,15,16,17,18]),(23,[1,14,15,16,17,18,116,117,118]),(24,[1,14,15,16,17,18,116,117,118,119]),(25,[1,14,15,16,17,18,20,116,117,118]),(26,[1,14,15,16,17,18,116,117,118,124]),(27,[2]),(28,[1,14,15,16,17,18,116,117,118]),(29,[2]),(1000015,[1,3,4,6,8,10,82,83]),(1000024,[1,14,15,16,17,18,116,117,118])]
def kp5:List (Nat × List Nat):=[]
def kp6:List (Nat × List Nat):=[]
def kp7:List (Nat × List Nat):=[]
def kp8:List (Nat × List Nat):=[]
def kp9:List (Nat × List Nat):=[]
def E6q:List (Nat × List Nat):=[(0,[]),(1,[1]),(2,[2,3]),(3,[2,3,4]),(4,[2,4,34]),(5,[0]),(6,[4,5]),(7,[0])]
def E6r:List (Nat × List Nat):=[]
def E6s:List (Nat × List Nat):=[]
def E6t:List (Nat × List Nat):=[]
def E6u:List (Nat × List Nat):=[]
def E6v:List (Nat × List Nat):=[(0,[0,1]),(1,[1,5]),(2,[5,12,13,14]),(3,[5,12,13,14,15]),(4,[5,7,12,13,14]),(5,[5,12,13,14]),(6,[5,12,13,14]),(7,[4]),(1000003,[5,12,13,14])]
def E6w:List (Nat × List Nat):=[]
def E6x:List (Nat × List Nat):=[(0,[0]),(1,[0,3]),(2,[3,8,9,10]),(3,[3,8,9,10,11]),(4,[3,4,5,8,9,10]),(5,[3,8,9,10]),(6,[3,8,9,10]),(7,[2]),(1000003,[3,8,9,10])]
def E6y:List (Nat × List Nat):=[(0,[2,3,8]),(1,[])]
def E6z:List (Nat × List Nat):=[]
def E70:List (Nat × List Nat):=[(0,[0]),(1,[0,3]),(2,[0,3,4]),(3,[0,3,4,9]),(4,[0,3,4]),(5,[0,3,4]),(6,[2]),(1000003,[0,3,4])]
def E71:List (Nat × List Nat):=[(0,[0,1,2,3,4]),(1,[1,2,3,4,11]),(2,[1,2,3,4,11,22]),(3,[1,3,4,11]),(4,[1,4,11]),(5,[11]),(6,[10])]
def E72:List (Nat × List Nat):=[]
def E73:List (Nat × List Nat):=[(0,[0]),(1,[0,3]),(2,[0,3,4]),(3,[0,3,4,9]),(4,[0,3,4]),(5,[0,3,4]),(6,[2]),(1000003,[0,3,4])]
def E74:List (Nat × List Nat):=[(0,[0,1]),(1,[0,1,10]),(2,[4]),(3,[0,1,5]),(4,[0,1,5,14]),(5,[0,1,5]),(6,[0,1,5,25]),(7,[4]),(8,[4]),(1000004,[0,1,5])]
def E75:List (Nat × List Nat):=[(0,[0]),(1,[2])]
def E76:List (Nat × List Nat):=[(0,[0,1]),(1,[0,1,10]),(2,[4]),(3,[0,1,5]),(4,[0,1,5,14]),(5,[0,1,5]),(6,[0,1,5,25]),(7,[4]),(8,[4]),(1000004,[0,1,5])]
def E77:List (Nat × List Nat):=[(0,[0]),(1,[2])]
def E78:List (Nat × List Nat):=[(0,[]),(1,[1]),(2,[2,3]),(3,[2,3,4]),(4,[2,4,34]),(5,[0]),(6,[4,5]),(7,[0])]
def E79:List (Nat × List Nat):=[(0,[1]),(1,[1,6,7,8]),(2,[1,6,7,8,9]),(3,[1,4,6,7,8]),(4,[1,6,7,8,14]),(5,[2]),(6,[1,6,7,8]),(7,[2]),(1000002,[1,6,7,8])]
def E7a:List (Nat × List Nat):=[(0,[1]),(1,[1,3]),(2,[1,3]),(3,[3,22,23,24]),(4,[3,22,23,24,25]),(5,[3,5,22,23,24]),(6,[3,22,23,24]),(7,[3,22,23,24]),(8,[2]),(1000004,[3,22,23,24])]
def E7b:List (Nat × List Nat):=[(0,[0,3,4]),(1,[0,3,4,12]),(2,[4,5]),(3,[3,4,6]),(4,[4,19]),(5,[4,5]),(6,[4,5])]
def E7c:List (Nat × List Nat):=[(0,[0,1,4]),(1,[0,4,6,7]),(2,[0,4,6,7,8]),(3,[0,4,6,8,27]),(4,[4,5]),(5,[0,4,6,8,9]),(6,[0,4,6,8,9,40]),(7,[4,5]),(8,[4,6,9,10,11]),(9,[4,6,9,10,11]),(10,[4,6,9,10,11,12]),(11,[4,6,9,10,11,12,57]),(12,[4,6,9,10,11,12]),(13,[4,6,9,10,12,13]),(14,[4,6,9,10,11,12]),(15,[4,5]),(1000011,[4,6,9,10,11,12])]
def E7d:List (Nat × List Nat):=[(0,[0,3,4]),(1,[0,3,4,12]),(2,[4,5]),(3,[3,4,6]),(4,[4,19]),(5,[4,5]),(6,[4,5])]
def E7e:List (Nat × List Nat):=[(0,[0]),(1,[0,3]),(2,[0,3,4]),(3,[0,3,4,5]),(4,[3,4,5,18,19,20]),(5,[3,4,5,18,19,20,21]),(6,[3,4,5,7,18,19,20]),(7,[3,4,5,7,18,19,20]),(8,[3,4,5,7,18,19,20]),(9,[3,4,5,18,19,20,32,33,34]),(10,[3,4,5,18,19,20,32,33,34,35]),(11,[3,4,5,9,18,19,20,32,33,34]),(12,[3,4,5,18,19,20,32,33,34]),(13,[3,4,5,18,19,20,32,33,34]),(14,[3,4,5,18,19,20]),(15,[2]),(1000005,[3,4,5,18,19,20]),(1000010,[3,4,5,18,19,20,32,33,34])]
def E7f:List (Nat × List Nat):=[(0,[0,1,4]),(1,[0,1,4,20]),(2,[4,5]),(3,[0,1,4,6,7]),(4,[1,4,6,7,8,9]),(5,[1,4,6,8,41]),(6,[4,5]),(7,[4,8,10,11]),(8,[4,8,10,11,12]),(9,[4,8,10,11,12,13]),(10,[4,8,10,11,12,13,59]),(11,[4,8,10,11,12,13]),(12,[4,8,10,11,12,13,14]),(13,[4,8,10,11,12,13,14,78]),(14,[4,8,10,11,12,13,14]),(15,[4,8,10,12,13,14,15]),(16,[4,8,10,12,13,14,15,17]),(17,[4,8,10,11,12,13,14]),(18,[4,8,10,11,12,13,14,106]),(19,[4,8,10,11,12,13,14]),(20,[4,5]),(1000010,[4,8,10,11,12,13]),(1000013,[4,8,10,11,12,13,14])]
def E7g:List (Nat × List Nat):=[(0,[4,5,6,7]),(1,[4,5,6,7,9]),(2,[11]),(3,[8])]
def E7h:List (Nat × List Nat):=[(0,[1,2,4,7]),(1,[1,2,4,7,10]),(2,[1,2,4,7,10,11]),(3,[1,2,4,7,10,11,26]),(4,[1,2,4,7,10,11,12]),(5,[1,2,4,7,10,11,12,14]),(6,[1,2,4,7,10,11,12,14,54]),(7,[1,2,4,7,10,11,12,14,15,16,17]),(8,[1,2,4,7,10,11,12,14,15,16,17,18,19,20]),(9,[1,2,4,7,10,11,12,14,15,16,18,19,94]),(10,[1,2,4,7,10,11,12,14]),(11,[1,2,4,7,10,11,12,14,119]),(12,[1,2,4,7,10,11,12,14]),(13,[1,2,4,7,10,11,12,147]),(14,[1,2,4,7,10,11,12]),(15,[1,2,4,7,10,11]),(16,[8,9]),(1000003,[1,2,4,7,10,11])]
def E7i:List (Nat × List Nat):=[(0,[]),(1,[1,2]),(2,[1,2,3]),(3,[1,3,31]),(4,[0]),(5,[3,4]),(6,[0])]
def E7j:List (Nat × List Nat):=[]
def E7k:List (Nat × List Nat):=[]
def E7l:List (Nat × List Nat):=[]
def E7m:List (Nat × List Nat):=[]
def E7n:List (Nat × List Nat):=[]
def E7o:List (Nat × List Nat):=[]
def E7p:List (Nat × List Nat):=[]
def E7q:List (Nat × List Nat):=[]
def E7r:List (Nat × List Nat):=[(0,[0,2]),(1,[0,2]),(2,[2]),(3,[2])]
def E7s:List (Nat × List Nat):=[]
def E7t:List (Nat × List Nat):=[]
def E7u:List (Nat × List Nat):=[(0,[0,2]),(1,[2])]
def E7v:List (Nat × List Nat):=[]
def E7w:List (Nat × List Nat):=[(0,[1,2,3]),(1,[1,2,3,7]),(2,[1,2,3,7,8]),(3,[1,2,3,7,8,9]),(4,[1,2,3,7,8,9,35,36,37]),(5,[1,2,3,7,8,9,35,36,37,38]),(6,[1,2,3,7,8,9,11,35,36,37]),(7,[1,2,3,7,8,9,35,36,37]),(8,[1,2,3,7,8,9,35,36,37]),(9,[1,2,3,7,8,9,12,13]),(10,[1,2,3,7,8,9,12,13,47,48,49]),(11,[1,2,3,7,8,9,12,13,47,48,49,50]),(12,[1,2,3,7,8,9,12,13,15,47,48,49]),(13,[1,2,3,7,8,9,12,13,15,47,48,49,53,54]),(14,[1,2,3,7,8,9,12,13,15,47,48,49,53,54,55]),(15,[1,2,3,7,8,9,12,13,15,16,47,48,49,53,54]),(16,[1,2,3,7,8,9,12,13,15,16,17,47,48,49,53,54]),(17,[1,2,3,7,8,9,12,13,15,16,17,47,48,49,53,54,60]),(18,[1,2,3,7,8,9,12,13,15,17,47,48,49,53,54]),(19,[1,2,3,7,8,9,12,13,15,47,48,49,53,54]),(20,[1,2,3,7,8,9,12,13,15,47,48,49,53,54]),(21,[1,2,3,7,8,9,12,13,47,48,49]),(22,[1,2,7,8,9,12,13,72,73,74]),(23,[1,2,7,8,9,12,13,72,73,74,75]),(24,[1,2,7,8,9,12,13,19,72,73,74]),(25,[1,2,7,8,9,12,13,19,72,73,74]),(26,[1,2,7,8,9,12,13,19,72,73,74,88]),(27,[1,2,7,8,9,12,13,19,72,73,74]),(28,[1,2,7,8,9,12,13,19,72,73,74,95]),(29,[1,2,7,8,9,12,13,72,73,74]),(30,[1,2,7,8,9,12,13,72,73,74]),(31,[2,8,9,12,13,20]),(32,[2,9,12,13,20]),(33,[9,12,13,20]),(34,[6]),(1000005,[1,2,3,7,8,9,35,36,37]),(1000011,[1,2,3,7,8,9,12,13,47,48,49]),(1000014,[1,2,3,7,8,9,12,13,15,47,48,49,53,54]),(1000023,[1,2,7,8,9,12,13,72,73,74])]
def E7x:List (Nat × List Nat):=[(0,[0,1,2]),(1,[0,1,7]),(2,[0,1,7,13]),(3,[0,1,7]),(4,[0,1,7,8]),(5,[0,1,7,8,9]),(6,[0,1,7,8,9,19]),(7,[0,1,7,8,9]),(8,[0,1,7,8,9]),(9,[0,1,7]),(10,[6]),(1000002,[0,1,7]),(1000006,[0,1,7,8,9])]
def E7y:List (Nat × List Nat):=[(0,[1]),(1,[2])]
def E7z:List (Nat × List Nat):=[]
def E80:List (Nat × List Nat):=[]
def E81:List (Nat × List Nat):=[(0,[0,1,2,6]),(1,[0,1,2,6,8]),(2,[0,1,2,6,8,9]),(3,[0,1,2,6,8,9,66]),(4,[6,7]),(5,[0,2,6,8,10,11]),(6,[0,2,6,8,11]),(7,[0,6,8,11,12]),(8,[0,6,8,12,81]),(9,[0,6,8,12,13]),(10,[0,6,8,11,12,13]),(11,[0,6,8,11,12,13,93]),(12,[0,6,8,12,13]),(13,[0,6,8,11,12,13]),(14,[0,6,8,11,12,13,115]),(15,[0,6,8,11,12,13]),(16,[0,6,8,11,12,141]),(17,[6,7]),(18,[6,7]),(1000008,[0,6,8,11,12])]
def E82:List (Nat × List Nat):=[(0,[0,1]),(1,[0,1,13]),(2,[4,5]),(3,[4,5])]
def E83:List (Nat × List Nat):=[(0,[0,1,2]),(1,[0,1,2,14]),(2,[6]),(3,[0,1,2,7]),(4,[0,1,2,7,8]),(5,[0,1,2,7,8,17]),(6,[0,1,2,7,8]),(7,[0,1,2,7,8]),(8,[6]),(1000005,[0,1,2,7,8])]
def E84:List (Nat × List Nat):=[(0,[1,2,4]),(1,[2,4,5]),(2,[2,4,5,6]),(3,[2,4,5,6,28]),(4,[2,4,5,6]),(5,[2,4,5,6,37]),(6,[4,6]),(7,[4])]
def E85:List (Nat × List Nat):=[(0,[0]),(1,[2])]
def E86:List (Nat × List Nat):=[(0,[0,1]),(1,[0,1,15]),(2,[4]),(3,[4])]
def E87:List (Nat × List Nat):=[(0,[0,1]),(1,[4])]
def E88:List (Nat × List Nat):=[(0,[0,1,2]),(1,[1,2,8]),(2,[2,8,9]),(3,[2,8,9,23]),(4,[2,8,9,26]),(5,[6,7]),(6,[2,8,9,35]),(7,[6,7]),(1000003,[2,8,9])]
def E89:List (Nat × List Nat):=[(0,[1]),(1,[2])]
def E8a:List (Nat × List Nat):=[]
def E8b:List (Nat × List Nat):=[(0,[0]),(1,[2])]
def E8c:List (Nat × List Nat):=[]
def E8d:List (Nat × List Nat):=[]
def E8e:List (Nat × List Nat):=[(0,[0]),(1,[0,4]),(2,[2]),(3,[0,6]),(4,[2]),(5,[2])]
def E8f:List (Nat × List Nat):=[(0,[0,1]),(1,[4])]
def E8g:List (Nat × List Nat):=[(0,[0,2]),(1,[2])]
def E8h:List (Nat × List Nat):=[(0,[2,3,4,6]),(1,[2,3,4,6,12]),(2,[6,7]),(3,[2,3,4,6,8]),(4,[2,3,4,6,8,18]),(5,[3,4,6,8]),(6,[6,9,10]),(7,[6,7])]
def E8i:List (Nat × List Nat):=[(0,[0]),(1,[0,4]),(2,[2]),(3,[2])]
def E8j:List (Nat × List Nat):=[]
def E8k:List (Nat × List Nat):=[]
def E8l:List (Nat × List Nat):=[(0,[2,3,4,5,6,10]),(1,[3,4,5,6,10,11]),(2,[3,4,5,6,10,11]),(3,[3,4,5,6,10,11]),(4,[3,4,5,10,11,27]),(5,[3,5,10]),(6,[5,10]),(7,[5,10,11]),(8,[4,5,10,11]),(9,[5,10,11]),(10,[5,10,11,39]),(11,[5,10,11]),(12,[5,10,41]),(13,[5,10]),(14,[5,10,52]),(15,[5,10]),(16,[5,10]),(17,[10])]
def E8m:List (Nat × List Nat):=[(0,[0]),(1,[0,4]),(2,[2]),(3,[2])]
def E8n:List (Nat × List Nat):=[(0,[0]),(1,[0,4]),(2,[2]),(3,[2])]
def E8o:List (Nat × List Nat):=[(0,[])]
def E8p:List (Nat × List Nat):=[(0,[1,2]),(1,[2,5]),(2,[2,5,6]),(3,[2,5,6]),(4,[2,5,6,33]),(5,[4]),(6,[5]),(7,[5,7]),(8,[5,7,51,52,53]),(9,[5,7,51,52,53,54]),(10,[5,7,9,51,52,53]),(11,[5,7,9,51,52,53,59]),(12,[5,7,51,52,53]),(13,[5,7,51,52,53]),(14,[4]),(1000009,[5,7,51,52,53])]
def E8q:List (Nat × List Nat):=[(0,[0,1,2]),(1,[6])]
def E8r:List (Nat × List Nat):=[(0,[])]
def E8s:List (Nat × List Nat):=[(0,[1,2,4]),(1,[1,2,4]),(2,[4,5]),(3,[4,5,6]),(4,[4,5,6,32]),(5,[5,6,8]),(6,[5,6,8,10]),(7,[5,6,8,41]),(8,[5,8]),(9,[]),(10,[4]),(1000006,[4,5,6])]
def E8t:List (Nat × List Nat):=[(0,[0,1,2,6]),(1,[0,6,8,9]),(2,[0,6,8,9,10]),(3,[0,6,8,9,10,21]),(4,[0,6,8,9,10]),(5,[0,6,8,9,10,52]),(6,[0,6,8,9,10]),(7,[0,6,8,54]),(8,[6,7]),(9,[6,7]),(1000003,[0,6,8,9,10])]
def E8u:List (Nat × List Nat):=[(0,[1,2]),(1,[1,2,6]),(2,[1,2,6,12]),(3,[1,2,6]),(4,[1,2,6,7]),(5,[1,2,6,7,29]),(6,[4,5]),(7,[4,5]),(1000002,[1,2,6])]
def E8v:List (Nat × List Nat):=[(0,[0,1,2,3]),(1,[0,1,2,3,23]),(2,[8]),(3,[8])]
def E8w:List (Nat × List Nat):=[(0,[0,2,3,4,5,6,8]),(1,[0,2,3,4,5,6,8,9,10]),(2,[0,3,4,5,6,8,9,10,11,12]),(3,[0,3,4,5,6,8,9,10,11,36]),(4,[0,3,6,8,10,13,14,15]),(5,[0,3,6,8,10,13,14,48]),(6,[0,3,8,10]),(7,[0,3,68]),(8,[])]
def E8x:List (Nat × List Nat):=[(0,[0,1,4]),(1,[0,1,4,9]),(2,[4,5]),(3,[4,5])]
def E8y:List (Nat × List Nat):=[(0,[0,1,4,7,8,10,11,12]),(1,[0,1,4,7,8,10,11,12,13]),(2,[1,4,7,8,10,11,12,13,21]),(3,[1,4,7,8,10,11,12,13,21,22]),(4,[1,4,8,10,11,12,13]),(5,[1,4,8,10,11,12,13,35]),(6,[10,11,12]),(7,[1,10,11,12,13,48]),(8,[1,10,11,13]),(9,[10,11,12]),(10,[10,11,12])]
def E8z:List (Nat × List Nat):=[(0,[1,2,3]),(1,[1,2,3,19]),(2,[6,7,8]),(3,[2,3,9]),(4,[6,7,8])]
def E90:List (Nat × List Nat):=[(0,[1,2,3]),(1,[6])]
def E91:List (Nat × List Nat):=[]
def E92:List (Nat × List Nat):=[]
def E93:List (Nat × List Nat):=[]
def E94:List (Nat × List Nat):=[]
def E95:List (Nat × List Nat):=[]
def E96:List (Nat × List Nat):=[(0,[0,4]),(1,[3]),(2,[]),(3,[0,4,6]),(4,[]),(5,[0,4,8,9]),(6,[0]),(7,[])]
def E97:List (Nat × List Nat):=[(0,[1,2]),(1,[5]),(2,[4])]
def D7v:List (Nat × List Nat):=[(0,[1,2]),(1,[5]),(2,[4])]
def D7w:List (Nat × List Nat):=[(0,[3]),(1,[])]
def D7x:List (Nat × List Nat):=[(0,[1,2,3,6]),(1,[6])]
def D7y:List (Nat × List Nat):=[]
def D7z:List (Nat × List Nat):=[]
def D80:List (Nat × List Nat):=[(0,[1,2,4]),(1,[4])]
def D81:List (Nat × List Nat):=[(0,[1,2,3]),(1,[1,2,3,7]),(2,[1,2,3,7]),(3,[2,3,8]),(4,[8,9]),(5,[8,9,10,11]),(6,[8,9,10,11,56]),(7,[8,9,10,11,63]),(8,[8,9,10,11]),(9,[8,9,10,11,74]),(10,[8,9,10,11]),(11,[6]),(1000006,[8,9,10,11]),(1000007,[8,9,10,11]),(1000009,[8,9,10,11])]
def D82:List (Nat × List Nat):=[(0,[0]),(1,[2])]
def D83:List (Nat × List Nat):=[(0,[0,1,2,3]),(1,[0,1,2,3,9]),(2,[0,1,2,3,9,10]),(3,[0,1,2,3,9,10,13]),(4,[0,1,2,3,9,10]),(5,[0,1,2,3,9,10]),(6,[8]),(1000003,[0,1,2,3,9,10])]
def D84:List (Nat × List Nat):=[(0,[0,1]),(1,[0,1,5,6]),(2,[0,1,6,7]),(3,[0,1,6,7]),(4,[0,1,6,7]),(5,[0,6,7,9,10]),(6,[0,6,9,10,54]),(7,[0]),(8,[]),(9,[4]),(10,[6]),(11,[4])]
def D85:List (Nat × List Nat):=[(0,[0,2,4]),(1,[0]),(2,[5,6])]
def D86:List (Nat × List Nat):=[]
def D87:List (Nat × List Nat):=[(0,[1,2]),(1,[4])]
def D88:List (Nat × List Nat):=[]
def D89:List (Nat × List Nat):=[]
def D8a:List (Nat × List Nat):=[]
def D8b:List (Nat × List Nat):=[(0,[1,2]),(1,[1,2,8]),(2,[4]),(3,[2,5,6]),(4,[5,23]),(5,[4]),(6,[4])]
def D8c:List (Nat × List Nat):=[(0,[1,2,3,6]),(1,[1,2,3,6,25]),(2,[6,7]),(3,[6,7])]
def D8d:List (Nat × List Nat):=[(0,[1,2,3]),(1,[1,2,3,7]),(2,[1,2,3,7,8]),(3,[1,2,3,7,8,22]),(4,[8]),(5,[1,2,3,7,8,22,24]),(6,[8]),(7,[2,3,7,8,22,37]),(8,[8]),(9,[2,3,7,8,22,44]),(10,[8]),(11,[2,3,7,8,22,51]),(12,[8]),(13,[2,3,7,8,22,58]),(14,[8]),(15,[3,7,8,66]),(16,[7,8,9]),(17,[7,8,9]),(18,[8]),(19,[8,10]),(20,[8,10,93]),(21,[8,10]),(22,[8,10]),(23,[6]),(1000020,[8,10])]
def D8e:List (Nat × List Nat):=[(0,[1]),(1,[2])]
def D8f:List (Nat × List Nat):=[(0,[1,2,3,4,8]),(1,[1,2,3,4,8]),(2,[8])]
def D8g:List (Nat × List Nat):=[(0,[0,1,2]),(1,[0,1,2,16]),(2,[0,1,2,16,17]),(3,[6,7]),(4,[0,2,16,30]),(5,[6,7]),(6,[0,2,16,37]),(7,[6,7]),(8,[0,2,16,44]),(9,[0,2,8,10]),(10,[0,2,8,10,11]),(11,[0,2,8,10,11,12]),(12,[0,2,8,10,11,12,58]),(13,[0,2,8,10,11,12]),(14,[0,2,8,10,11,12,13]),(15,[0,2,8,10,11,12]),(16,[6,7]),(17,[0,2,16,81]),(18,[6,7]),(19,[0,88]),(20,[0,14]),(21,[0,14,101]),(22,[6,7]),(23,[6,7]),(24,[6,7]),(1000012,[0,2,8,10,11,12])]
def D8h:List (Nat × List Nat):=[(0,[0,1]),(1,[4])]
def D8i:List (Nat × List Nat):=[(0,[0,1,2,6]),(1,[0,1,2,6,18]),(2,[6,7]),(3,[0,2,6,8]),(4,[6,7])]
def D8j:List (Nat × List Nat):=[(0,[1,2]),(1,[1,2,9]),(2,[4]),(3,[2,5,6]),(4,[2,5,18]),(5,[4]),(6,[4])]
def D8k:List (Nat × List Nat):=[]
def D8l:List (Nat × List Nat):=[]
def D8m:List (Nat × List Nat):=[]
def D8n:List (Nat × List Nat):=[]
def D8o:List (Nat × List Nat):=[(0,[1,2,3]),(1,[1,2,3]),(2,[6])]
def D8p:List (Nat × List Nat):=[(0,[])]
def D8q:List (Nat × List Nat):=[]
def D8r:List (Nat × List Nat):=[(0,[1]),(1,[1,3]),(2,[1,3,4]),(3,[1,4,5]),(4,[1,4,5,6]),(5,[1,4,5,6,29,30]),(6,[1,4,5,6,29,30,31]),(7,[1,4,5,6,7,29,30]),(8,[1,4,5,6,7,29,30]),(9,[1,4,5,6,29,30]),(10,[1,4,5,6,29,30]),(11,[6]),(12,[2]),(1000006,[1,4,5,6,29,30])]
def D8s:List (Nat × List Nat):=[(0,[1]),(1,[1,3]),(2,[1,4]),(3,[1,4,5]),(4,[1,4,5,29]),(5,[1,4,5]),(6,[1,4,5,35]),(7,[1,5]),(8,[5]),(9,[2])]
def D8t:List (Nat × List Nat):=[(0,[0]),(1,[0,4,5]),(2,[0,4,19]),(3,[2,3]),(4,[2,3])]
def D8u:List (Nat × List Nat):=[(0,[0,1,2,6]),(1,[0,1,2,6,30]),(2,[6,7]),(3,[6,7])]
def D8v:List (Nat × List Nat):=[]
def D8w:List (Nat × List Nat):=[(0,[1,2,3,4]),(1,[2,3,9]),(2,[3,9,10]),(3,[3,9,10,20,21]),(4,[3,9,10,20,21,22]),(5,[3,9,10,11,20,21]),(6,[3,9,10,20,21]),(7,[3,9,10,20,21]),(8,[8]),(1000004,[3,9,10,20,21])]
def D8x:List (Nat × List Nat):=[(0,[1,2]),(1,[1,2,5]),(2,[1,2,5,13]),(3,[1,2,5]),(4,[1,2,5,6]),(5,[1,2,6,17,18,19]),(6,[1,2,6,17,18,19,20]),(7,[1,2,6,8,17,18,19]),(8,[1,2,6,8,9,17,18,19]),(9,[1,2,6,8,9,17,18,19]),(10,[1,2,6,8,9,17,18,19,34]),(11,[1,2,6,9,17,18,19]),(12,[1,2,6,9,17,18,19]),(13,[1,2,6,17,18,19]),(14,[1,2,6,17,18,19]),(15,[4]),(1000006,[1,2,6,17,18,19])]
def D8y:List (Nat × List Nat):=[(0,[1]),(1,[1,3]),(2,[1,3,12,13,14]),(3,[1,3,12,13,14,15]),(4,[1,3,5,12,13,14]),(5,[1,3,5,6,12,13,14]),(6,[1,3,12,13,14]),(7,[1,3,12,13,14]),(8,[2]),(1000003,[1,3,12,13,14])]
def D8z:List (Nat × List Nat):=[(0,[1,2,3]),(1,[1,2,3,7,8]),(2,[1,2,3,7,8]),(3,[7,8,9]),(4,[7,8,9,32]),(5,[6]),(6,[6])]
def D90:List (Nat × List Nat):=[(0,[0,9,10,11]),(1,[0,9,10,11,12]),(2,[0,4,9,10,11]),(3,[0,4,5,9,10,11]),(4,[0,4,5,9,10,11,20]),(5,[0,4,5,9,10,11]),(6,[0,4,5,9,10,11,29]),(7,[0,9,10,11]),(1000001,[0,9,10,11]),(1000004,[0,4,5,9,10,11])]
def D91:List (Nat × List Nat):=[(0,[1,2]),(1,[4])]
def D92:List (Nat × List Nat):=[(0,[0,1,2]),(1,[0,1,2,8]),(2,[0,1,2,8,17]),(3,[0,1,2,8]),(4,[0,1,2,9,11]),(5,[0,1,2,9,11,12]),(6,[0,1,2,9,11,12,13]),(7,[0,1,2,9,11,12,13,32]),(8,[0,1,2,9,11,12,13]),(9,[0,1,2,9,11,12,13,14]),(10,[0,1,2,9,11,12,13,14,55]),(11,[0,1,2,9,12,13,14]),(12,[0,1,2,9,12,13,14]),(13,[0,1,2,9,11,12,13,14]),(14,[0,1,2,9,11,12,13]),(15,[6,7]),(1000007,[0,1,2,9,11,12,13])]
def D93:List (Nat × List Nat):=[(0,[0,1,2,3]),(1,[0,1,2,3,11,12]),(2,[0,1,3,11,12,43]),(3,[8,9,10]),(4,[0,1,3,11,12,13]),(5,[0,1,3,11,12,13,14]),(6,[0,1,3,11,12,13,14,47]),(7,[0,1,3,11,12,13,14]),(8,[0,1,3,11,12,13,14]),(9,[0,3,11,12,13,60]),(10,[0,3,11,12,13,15]),(11,[0,3,11,12,13,15,16]),(12,[0,3,11,12,13,15,16,63]),(13,[0,3,11,12,13,15,16]),(14,[0,3,11,12,13,15,16]),(15,[11,12,13,80]),(16,[11,13]),(17,[8,9,10]),(1000006,[0,1,3,11,12,13,14]),(1000012,[0,3,11,12,13,15,16])]
def D94:List (Nat × List Nat):=[(0,[0,1,2]),(1,[0,1,2,8,9]),(2,[1,2,8,9,38]),(3,[6,7]),(4,[1,2,8,9,40]),(5,[6,7]),(6,[6,7])]
def D95:List (Nat × List Nat):=[(0,[0,1]),(1,[0,1,11]),(2,[4]),(3,[0,5,6]),(4,[0,5,22]),(5,[4]),(6,[4])]
def D96:List (Nat × List Nat):=[(0,[2,3]),(1,[2,3,6]),(2,[2,3,6,32]),(3,[4,5]),(4,[4,5])]
def D97:List (Nat × List Nat):=[]
def D98:List (Nat × List Nat):=[]
def D99:List (Nat × List Nat):=[]
def D9a:List (Nat × List Nat):=[]
def D9b:List (Nat × List Nat):=[]
def D9c:List (Nat × List Nat):=[(0,[0,1]),(1,[0,1,8]),(2,[4]),(3,[0,5,6]),(4,[5,26]),(5,[4]),(6,[4])]
def D9d:List (Nat × List Nat):=[(0,[1,2,3]),(1,[1,3,7]),(2,[1,3,7,8]),(3,[6]),(4,[1,3,13]),(5,[6]),(6,[6])]
def D9e:List (Nat × List Nat):=[(0,[1,2,3,4]),(1,[1,2,3,4,9,10]),(2,[1,2,3,4,9,10]),(3,[1,3,4,9,10]),(4,[3,9,10,11]),(5,[3,9,10,11,12]),(6,[3,9,10,11,12,34,35]),(7,[3,9,10,11,12,34,35,36]),(8,[3,9,10,11,12,13,34,35]),(9,[3,9,10,11,12,34,35]),(10,[3,9,10,11,12,34,35]),(11,[10,12,58]),(12,[8]),(13,[8]),(1000007,[3,9,10,11,12,34,35])]
def D9f:List (Nat × List Nat):=[(0,[0,1]),(1,[1,5,6]),(2,[1,5,6,11]),(3,[1,5,6,7]),(4,[1,5,6,7,20]),(5,[1,5,6]),(6,[1,5,6]),(7,[4]),(1000002,[1,5,6])]
def D9g:List (Nat × List Nat):=[(0,[0,1,2]),(1,[4])]
def D9h:List (Nat × List Nat):=[]
def D9i:List (Nat × List Nat):=[(0,[1,2]),(1,[4])]
def D9j:List (Nat × List Nat):=[(0,[1,2]),(1,[2,6,7]),(2,[2,6,7,8]),(3,[2,5,6,7]),(4,[2,6,7,14]),(5,[4]),(6,[2,6,7]),(7,[4]),(1000002,[2,6,7])]
def D9k:List (Nat × List Nat):=[]
def D9l:List (Nat × List Nat):=[]
def D9m:List (Nat × List Nat):=[]
def D9n:List (Nat × List Nat):=[]
def D9o:List (Nat × List Nat):=[]
def D9p:List (Nat × List Nat):=[]
def D9q:List (Nat × List Nat):=[]
def D9r:List (Nat × List Nat):=[]
def D9s:List (Nat × List Nat):=[]
def kpT(f:Nat):List (Nat × List Nat) :=
 bif Nat.blt f 95 then (bif Nat.blt f 47 then (bif Nat.blt f 23 then (bif Nat.blt f 11 then (bif Nat.blt f 5 then (bif Nat.blt f 2 then ([]) else (bif Nat.blt f 3 then (kp2) else (bif Nat.blt f 4 then (kp3) else (kp4)))) else (bif Nat.blt f 8 then (bif Nat.blt f 6 then (kp5) else (bif Nat.blt f 7 then (kp6) else (kp7))) else (bif Nat.blt f 9 then (kp8) else (bif Nat.blt f 10 then (kp9) else (E6q))))) else (bif Nat.blt f 17 then (bif Nat.blt f 14 then (bif Nat.blt f 12 then (E6r) else (bif Nat.blt f 13 then (E6s) else (E6t))) else (bif Nat.blt f 15 then (E6u) else (bif Nat.blt f 16 then (E6v) else (E6w)))) else (bif Nat.blt f 20 then (bif Nat.blt f 18 then (E6x) else (bif Nat.blt f 19 then (E6y) else (E6z))) else (bif Nat.blt f 21 then (E70) else (bif Nat.blt f 22 then (E71) else (E72)))))) else (bif Nat.blt f 35 then (bif Nat.blt f 29 then (bif Nat.blt f 26 then (bif Nat.blt f 24 then (E73) else (bif Nat.blt f 25 then (E74) else (E75))) else (bif Nat.blt f 27 then (E76) else (bif Nat.blt f 28 then (E77) else (E78)))) else (bif Nat.blt f 32 then (bif Nat.blt f 30 then (E79) else (bif Nat.blt f 31 then (E7a) else (E7b))) else (bif Nat.blt f 33 then (E7c) else (bif Nat.blt f 34 then (E7d) else (E7e))))) else (bif Nat.blt f 41 then (bif Nat.blt f 38 then (bif Nat.blt f 36 then (E7f) else (bif Nat.blt f 37 then (E7g) else (E7h))) else (bif Nat.blt f 39 then (E7i) else (bif Nat.blt f 40 then (E7j) else (E7k)))) else (bif Nat.blt f 44 then (bif Nat.blt f 42 then (E7l) else (bif Nat.blt f 43 then (E7m) else (E7n))) else (bif Nat.blt f 45 then (E7o) else (bif Nat.blt f 46 then (E7p) else (E7q))))))) else (bif Nat.blt f 71 then (bif Nat.blt f 59 then (bif Nat.blt f 53 then (bif Nat.blt f 50 then (bif Nat.blt f 48 then (E7r) else (bif Nat.blt f 49 then (E7s) else (E7t))) else (bif Nat.blt f 51 then (E7u) else (bif Nat.blt f 52 then (E7v) else (E7w)))) else (bif Nat.blt f 56 then (bif Nat.blt f 54 then (E7x) else (bif Nat.blt f 55 then (E7y) else (E7z))) else (bif Nat.blt f 57 then (E80) else (bif Nat.blt f 58 then (E81) else (E82))))) else (bif Nat.blt f 65 then (bif Nat.blt f 62 then (bif Nat.blt f 60 then (E83) else (bif Nat.blt f 61 then (E84) else (E85))) else (bif Nat.blt f 63 then (E86) else (bif Nat.blt f 64 then (E87) else (E88)))) else (bif Nat.blt f 68 then (bif Nat.blt f 66 then (E89) else (bif Nat.blt f 67 then (E8a) else (E8b))) else (bif Nat.blt f 69 then (E8c) else (bif Nat.blt f 70 then (E8d) else (E8e)))))) else (bif Nat.blt f 83 then (bif Nat.blt f 77 then (bif Nat.blt f 74 then (bif Nat.blt f 72 then (E8f) else (bif Nat.blt f 73 then (E8g) else (E8h))) else (bif Nat.blt f 75 then (E8i) else (bif Nat.blt f 76 then (E8j) else (E8k)))) else (bif Nat.blt f 80 then (bif Nat.blt f 78 then (E8l) else (bif Nat.blt f 79 then (E8m) else (E8n))) else (bif Nat.blt f 81 then (E8o) else (bif Nat.blt f 82 then (E8p) else (E8q))))) else (bif Nat.blt f 89 then (bif Nat.blt f 86 then (bif Nat.blt f 84 then (E8r) else (bif Nat.blt f 85 then (E8s) else (E8t))) else (bif Nat.blt f 87 then (E8u) else (bif Nat.blt f 88 then (E8v) else (E8w)))) else (bif Nat.blt f 92 then (bif Nat.blt f 90 then (E8x) else (bif Nat.blt f 91 then (E8y) else (E8z))) else (bif Nat.blt f 93 then (E90) else (bif Nat.blt f 94 then (E91) else (E92)))))))) else (bif Nat.blt f 143 then (bif Nat.blt f 119 then (bif Nat.blt f 107 then (bif Nat.blt f 101 then (bif Nat.blt f 98 then (bif Nat.blt f 96 then (E93) else (bif Nat.blt f 97 then (E94) else (E95))) else (bif Nat.blt f 99 then (E96) else (bif Nat.blt f 100 then (E97) else (D7v)))) else (bif Nat.blt f 104 then (bif Nat.blt f 102 then (D7w) else (bif Nat.blt f 103 then (D7x) else (D7y))) else (bif Nat.blt f 105 then (D7z) else (bif Nat.blt f 106 then (D80) else (D81))))) else (bif Nat.blt f 113 then (bif Nat.blt f 110 then (bif Nat.blt f 108 then (D82) else (bif Nat.blt f 109 then (D83) else (D84))) else (bif Nat.blt f 111 then (D85) else (bif Nat.blt f 112 then (D86) else (D87)))) else (bif Nat.blt f 116 then (bif Nat.blt f 114 then (D88) else (bif Nat.blt f 115 then (D89) else (D8a))) else (bif Nat.blt f 117 then (D8b) else (bif Nat.blt f 118 then (D8c) else (D8d)))))) else (bif Nat.blt f 131 then (bif Nat.blt f 125 then (bif Nat.blt f 122 then (bif Nat.blt f 120 then (D8e) else (bif Nat.blt f 121 then (D8f) else (D8g))) else (bif Nat.blt f 123 then (D8h) else (bif Nat.blt f 124 then (D8i) else (D8j)))) else (bif Nat.blt f 128 then (bif Nat.blt f 126 then (D8k) else (bif Nat.blt f 127 then (D8l) else (D8m))) else (bif Nat.blt f 129 then (D8n) else (bif Nat.blt f 130 then (D8o) else (D8p))))) else (bif Nat.blt f 137 then (bif Nat.blt f 134 then (bif Nat.blt f 132 then (D8q) else (bif Nat.blt f 133 then (D8r) else (D8s))) else (bif Nat.blt f 135 then (D8t) else (bif Nat.blt f 136 then (D8u) else (D8v)))) else (bif Nat.blt f 140 then (bif Nat.blt f 138 then (D8w) else (bif Nat.blt f 139 then (D8x) else (D8y))) else (bif Nat.blt f 141 then (D8z) else (bif Nat.blt f 142 then (D90) else (D91))))))) else (bif Nat.blt f 167 then (bif Nat.blt f 155 then (bif Nat.blt f 149 then (bif Nat.blt f 146 then (bif Nat.blt f 144 then (D92) else (bif Nat.blt f 145 then (D93) else (D94))) else (bif Nat.blt f 147 then (D95) else (bif Nat.blt f 148 then (D96) else (D97)))) else (bif Nat.blt f 152 then (bif Nat.blt f 150 then (D98) else (bif Nat.blt f 151 then (D99) else (D9a))) else (bif Nat.blt f 153 then (D9b) else (bif Nat.blt f 154 then (D9c) else (D9d))))) else (bif Nat.blt f 161 then (bif Nat.blt f 158 then (bif Nat.blt f 156 then (D9e) else (bif Nat.blt f 157 then (D9f) else (D9g))) else (bif Nat.blt f 159 then (D9h) else (bif Nat.blt f 160 then (D9i) else (D9j)))) else ([]))) else (bif Nat.blt f 179 then ([]) else (bif Nat.blt f 185 then (bif Nat.blt f 182 then (bif Nat.blt f 180 then ([]) else (bif Nat.blt f 181 then ([]) else (D9k))) else (bif Nat.blt f 183 then (D9l) else (bif Nat.blt f 184 then (D9m) else (D9n)))) else (bif Nat.blt f 188 then (bif Nat.blt f 186 then (D9o) else (bif Nat.blt f 187 then (D9p) else (D9q))) else (bif Nat.blt f 189 then (D9r) else (bif Nat.blt f 190 then (D9s) else ([]))))))))
def B6w(id:Nat):List (Nat × List Nat)→List Nat
 | []=>[]
 | (i,l) :: r=>bif Nat.beq i id then l else B6w id r
def kpS(f id:Nat):List Nat:=B6w id (kpT f)
def B4f:List Nat:=[10,28,38]
abbrev B03:Nat:=217
def itS:Value→A2→Option (List (List Int)):=B6t 141
noncomputable abbrev CI:Cfg:={ P:=A0,kp:=kpS,sp:=fun _=>none,it:=itS }
def A4j(f:Nat):Option Sp:=bif Nat.beq f 47 then some (tryV 217) else bif Nat.beq f 78 then some (fun _ args H=>A0f 3 12 args H) else bif Nat.beq f 79 then some (fun _ args H=>A0f 2 16 args H) else bif Nat.beq f 84 then some (fun call args H=>bodyF { P:=A0,kp:=kpS,sp:=fun _=>none,it:=itS } call 84 args H) else bif Nat.beq f 97 then some B07 else none
def D0i:List Nat:=[999999,10,28,38]
def B2h(k:Nat):Mode:=bif D0i.contains (k % 1000000) then .no else .fz
abbrev E99:Nat:=F.G32
abbrev B7o:Nat:=F.B2z
def B00(s k n:Nat):Mode:=bif Nat.beq k s && Nat.ble n 2 then .no else own k
def mdS(k f n:Nat):Mode:=bif Nat.blt f 95 then (bif Nat.blt f 47 then (bif Nat.blt f 23 then (bif Nat.blt f 11 then (bif Nat.blt f 5 then (bif Nat.blt f 2 then (.gc) else (bif Nat.blt f 3 then (.no) else (.gc))) else (.gc)) else (bif Nat.blt f 17 then (bif Nat.blt f 14 then (bif Nat.blt f 12 then (.gc) else (bif Nat.blt f 13 then (B00 E99 k n) else (.fz))) else (bif Nat.blt f 15 then (.fz) else (bif Nat.blt f 16 then (.no) else (.fz)))) else (bif Nat.blt f 20 then (.no) else (.fz)))) else (bif Nat.blt f 35 then (bif Nat.blt f 29 then (bif Nat.blt f 26 then (bif Nat.blt f 24 then (.fz) else (bif Nat.blt f 25 then (.gc) else (own k))) else (bif Nat.blt f 27 then (.fz) else (bif Nat.blt f 28 then (own k) else (.gc)))) else (bif Nat.blt f 32 then (bif Nat.blt f 30 then (.gc) else (bif Nat.blt f 31 then (B00 B7o k n) else (.fz))) else (bif Nat.blt f 33 then (.fz) else (bif Nat.blt f 34 then (.fz) else (own k))))) else (bif Nat.blt f 41 then (bif Nat.blt f 38 then (bif Nat.blt f 36 then (.fz) else (bif Nat.blt f 37 then (.no) else (.fz))) else (bif Nat.blt f 39 then (.gc) else (bif Nat.blt f 40 then (.gc) else (.fz)))) else (bif Nat.blt f 44 then (bif Nat.blt f 42 then (.fz) else (.gc)) else (bif Nat.blt f 45 then (.no) else (.fz)))))) else (bif Nat.blt f 71 then (bif Nat.blt f 59 then (bif Nat.blt f 53 then (bif Nat.blt f 50 then (bif Nat.blt f 48 then (.no) else (bif Nat.blt f 49 then (.no) else (.fz))) else (bif Nat.blt f 51 then (.gc) else (bif Nat.blt f 52 then (.gc) else (B2h k)))) else (bif Nat.blt f 56 then (bif Nat.blt f 54 then (.no) else (bif Nat.blt f 55 then (.fz) else (.no))) else (.fz))) else (bif Nat.blt f 65 then (bif Nat.blt f 62 then (.gc) else (bif Nat.blt f 63 then (.no) else (bif Nat.blt f 64 then (.gc) else (.no)))) else (bif Nat.blt f 68 then (bif Nat.blt f 66 then (.gc) else (bif Nat.blt f 67 then (.no) else (.gc))) else (bif Nat.blt f 69 then (.no) else (bif Nat.blt f 70 then (.no) else (.gc)))))) else (bif Nat.blt f 83 then (bif Nat.blt f 77 then (bif Nat.blt f 74 then (.gc) else (bif Nat.blt f 75 then (.gc) else (.fz))) else (bif Nat.blt f 80 then (bif Nat.blt f 78 then (.gc) else (.no)) else (bif Nat.blt f 81 then (.no) else (bif Nat.blt f 82 then (.fz) else (.gc))))) else (bif Nat.blt f 89 then (bif Nat.blt f 86 then (bif Nat.blt f 84 then (.no) else (.fz)) else (bif Nat.blt f 87 then (.gc) else (bif Nat.blt f 88 then (.gc) else (.no)))) else (bif Nat.blt f 92 then (.gc) else (bif Nat.blt f 93 then (.gc) else (bif Nat.blt f 94 then (.gc) else (.no)))))))) else (bif Nat.blt f 143 then (bif Nat.blt f 119 then (bif Nat.blt f 107 then (bif Nat.blt f 101 then (bif Nat.blt f 98 then (bif Nat.blt f 96 then (.gc) else (bif Nat.blt f 97 then (.gc) else (.no))) else (bif Nat.blt f 99 then (.no) else (.gc))) else (bif Nat.blt f 104 then (.gc) else (bif Nat.blt f 105 then (.gc) else (bif Nat.blt f 106 then (.gc) else (.fz))))) else (bif Nat.blt f 113 then (bif Nat.blt f 110 then (bif Nat.blt f 108 then (own k) else (bif Nat.blt f 109 then (.gc) else (.no))) else (bif Nat.blt f 111 then (.no) else (bif Nat.blt f 112 then (.no) else (.gc)))) else (bif Nat.blt f 116 then (.no) else (bif Nat.blt f 117 then (.gc) else (bif Nat.blt f 118 then (.gc) else (.fz)))))) else (bif Nat.blt f 131 then (bif Nat.blt f 125 then (bif Nat.blt f 122 then (bif Nat.blt f 120 then (.no) else (bif Nat.blt f 121 then (.gc) else (.fz))) else (.gc)) else (bif Nat.blt f 128 then (bif Nat.blt f 126 then (.gc) else (bif Nat.blt f 127 then (.gc) else (.no))) else (bif Nat.blt f 129 then (.no) else (.gc)))) else (bif Nat.blt f 137 then (bif Nat.blt f 134 then (bif Nat.blt f 132 then (.fz) else (.no)) else (bif Nat.blt f 135 then (.gc) else (bif Nat.blt f 136 then (.gc) else (.no)))) else (bif Nat.blt f 140 then (.fz) else (bif Nat.blt f 141 then (.fz) else (bif Nat.blt f 142 then (.no) else (.gc))))))) else (bif Nat.blt f 167 then (bif Nat.blt f 155 then (bif Nat.blt f 149 then (bif Nat.blt f 146 then (.fz) else (.gc)) else (bif Nat.blt f 152 then (bif Nat.blt f 150 then (.no) else (bif Nat.blt f 151 then (.no) else (.fz))) else (bif Nat.blt f 153 then (.fz) else (.gc)))) else (bif Nat.blt f 161 then (bif Nat.blt f 158 then (bif Nat.blt f 156 then (.fz) else (.gc)) else (.gc)) else (.gc))) else (bif Nat.blt f 179 then (bif Nat.blt f 173 then (.gc) else (bif Nat.blt f 176 then (.gc) else (bif Nat.blt f 177 then (.gc) else (bif Nat.blt f 178 then (.no) else (.gc))))) else (bif Nat.blt f 185 then (bif Nat.blt f 182 then (bif Nat.blt f 180 then (.gc) else (bif Nat.blt f 181 then (.gc) else (.no))) else (bif Nat.blt f 183 then (.gc) else (bif Nat.blt f 184 then (.no) else (.gc)))) else (bif Nat.blt f 188 then (.gc) else (bif Nat.blt f 189 then (.no) else (bif Nat.blt f 190 then (.no) else (.gc))))))))
def arS(f:Nat):Bool:=[14,32].any (Nat.beq f)
def pkS(f:Nat):Bool:=Nat.beq f 999999
noncomputable def C(k:Nat):Cfg:={ P:=A0,kp:=kpS,sp:=B7t B4f A4j (k % 1000000) }
noncomputable def T(k:Nat):A3c:={ c:=C k,md:=mdS k,ar:=arS,pk:=pkS }
theorem G8j(f:FuncId)(s:Sp)(h:A4j f=some s):∀ args H,A7 fun call=>s call args H:=by
 unfold A4j at h;cases h47:Nat.beq f 47 with
 | true=>rw[h47,cond_true] at h; injection h with h; subst h; first | exact fun args H=>A7.const _ | exact A7.tryV _ | exact A7.told _
 | false=>
 rw[h47,cond_false] at h;cases h78:Nat.beq f 78 with
 | true=>rw[h78,cond_true] at h; injection h with h; subst h; first | exact fun args H=>A7.const _ | exact A7.tryV _ | exact A7.told _
 | false=>
 rw[h78,cond_false] at h;cases h79:Nat.beq f 79 with
 | true=>rw[h79,cond_true] at h; injection h with h; subst h; first | exact fun args H=>A7.const _ | exact A7.tryV _ | exact A7.told _
 | false=>
 rw[h79,cond_false] at h;cases h84:Nat.beq f 84 with
 | true=>rw[h84,cond_true] at h; injection h with h; subst h; exact A7.bodyF _ _
 | false=>
 rw[h84,cond_false] at h;cases h97:Nat.beq f 97 with
 | true=>rw[h97,cond_true] at h; injection h with h; subst h; exact fun args H=>A7.const _
 | false=>
 rw[h97,cond_false] at h;cases h
theorem A1g(k:Nat):V3 (T k).c:=V3.of G8j
@[simp] theorem len_22(x:Value)(h:A2):A6 A0 .len [22] [x] h=lnS x h:=A0x (e:=5) (by kernel_rfl) x h
@[simp] theorem ix_22(x i:Value)(h:A2):A9 A0 22 x i h=ixS 1 x i h:=A0w (e:=5) (by kernel_rfl) (by kernel_rfl) x i h
@[simp] theorem st_5(a v:Value)(h:A2):B4 A0 5 a v h=stR 1 a v h:=S9 (by kernel_rfl) a v h
@[simp] theorem ld_3(a:Value)(h:A2):A3 A0 3 a h=ld1 a h:=Q4 (by kernel_rfl) a h
@[simp] theorem len_30(x:Value)(h:A2):A6 A0 .len [30] [x] h=lnS x h:=A0x (e:=3) (by kernel_rfl) x h
@[simp] theorem ld_4(a:Value)(h:A2):A3 A0 4 a h=ld1 a h:=Q4 (by kernel_rfl) a h
@[simp] theorem ld_72(a:Value)(h:A2):A3 A0 72 a h=ldA 8 a h:=X8 (by kernel_rfl) (by kernel_rfl) a h
@[simp] theorem fa_72_0(a:Value)(h:A2):A1 A0 72 a 0 h=faR 0 6 a h:=G1 (ft:=69) (by kernel_rfl) (by kernel_rfl) a h
@[simp] theorem ld_69(a:Value)(h:A2):A3 A0 69 a h=ldA 6 a h:=X8 (by kernel_rfl) (by kernel_rfl) a h
@[simp] theorem al_79(h:A2):D1 A0 79 h=V1 [.slice none 0 0,.int .i64 0,.int .i64 0,.int .i64 0,.int .i64 0,.int .i64 0,.int .i64 0,.slice none 0 0,.slice none 0 0,.int .i64 0,.slice none 0 0] h:=A07 (z:=.agg #[.slice none 0 0,.int .i64 0,.int .i64 0,.int .i64 0,.int .i64 0,.int .i64 0,.int .i64 0,.slice none 0 0,.slice none 0 0,.int .i64 0,.slice none 0 0]) (by kernel_rfl) h
@[simp] theorem st_79(a v:Value)(h:A2):B4 A0 79 a v h=stR 11 a v h:=S9 (by kernel_rfl) a v h
@[simp] theorem eqp_75(cs:Array Value)(h:A2):A5 A0 .eql 75 (boxV cs) (.pointer none) h=.ok (.bool false) h:=by kernel_rfl
@[simp] theorem eqn_75(h:A2):A5 A0 .eql 75 (.pointer none) (.pointer none) h=.ok (.bool true) h:=by kernel_rfl
@[simp] theorem fa_72_1(a:Value)(h:A2):A1 A0 72 a 1 h=faR 6 1 a h:=G1 (ft:=70) (by kernel_rfl) (by kernel_rfl) a h
@[simp] theorem ld_70(a:Value)(h:A2):A3 A0 70 a h=ld1 a h:=Q4 (by kernel_rfl) a h
@[simp] theorem al_87(h:A2):D1 A0 87 h=V1 [.bool false,.slice none 0 0,.slice none 0 0,.slice none 0 0] h:=A07 (z:=.agg #[.bool false,.slice none 0 0,.slice none 0 0,.slice none 0 0]) (by kernel_rfl) h
@[simp] theorem st_87(a v:Value)(h:A2):B4 A0 87 a v h=stR 4 a v h:=S9 (by kernel_rfl) a v h
@[simp] theorem eqp_82(cs:Array Value)(h:A2):A5 A0 .eql 82 (boxV cs) (.pointer none) h=.ok (.bool false) h:=by kernel_rfl
@[simp] theorem fa_72_2(a:Value)(h:A2):A1 A0 72 a 2 h=faR 7 1 a h:=G1 (ft:=30) (by kernel_rfl) (by kernel_rfl) a h
@[simp] theorem ld_30(a:Value)(h:A2):A3 A0 30 a h=ld1 a h:=Q4 (by kernel_rfl) a h
@[simp] theorem mk_30(l c:Value)(h:A2):Q5 A0 30 l c h=mkR 1 8 [.int .i64 0] l c h:=D9u (e:=3) (z:=.int .i64 0) (by kernel_rfl) (by kernel_rfl) (by kernel_rfl) (by kernel_rfl) (by kernel_rfl) l c h
@[simp] theorem ld_79(a:Value)(h:A2):A3 A0 79 a h=ldA 11 a h:=X8 (by kernel_rfl) (by kernel_rfl) a h
@[simp] theorem ld_87(a:Value)(h:A2):A3 A0 87 a h=ldA 4 a h:=X8 (by kernel_rfl) (by kernel_rfl) a h
@[simp] theorem len_56(x:Value)(h:A2):A6 A0 .len [56] [x] h=lnS x h:=A0x (e:=93) (by kernel_rfl) x h
@[simp] theorem ix_56(x i:Value)(h:A2):A9 A0 56 x i h=ixS 3 x i h:=A0w (e:=93) (by kernel_rfl) (by kernel_rfl) x i h
@[simp] theorem ld_93(a:Value)(h:A2):A3 A0 93 a h=ldA 3 a h:=X8 (by kernel_rfl) (by kernel_rfl) a h
@[simp] theorem al_93(h:A2):D1 A0 93 h=V1 [.int .i32 0,.int .i32 0,.int .i32 0] h:=A07 (z:=.agg #[.int .i32 0,.int .i32 0,.int .i32 0]) (by kernel_rfl) h
@[simp] theorem st_93(a v:Value)(h:A2):B4 A0 93 a v h=stR 3 a v h:=S9 (by kernel_rfl) a v h
@[simp] theorem fa_93_0(a:Value)(h:A2):A1 A0 93 a 0 h=faR 0 1 a h:=G1 (ft:=21) (by kernel_rfl) (by kernel_rfl) a h
@[simp] theorem ld_21(a:Value)(h:A2):A3 A0 21 a h=ld1 a h:=Q4 (by kernel_rfl) a h
@[simp] theorem bd_115(ps:List (Nat × Value))(h:A2):E0 A0 115 ps h=bdR [(0,1),(1,1)] ps [.pointer none,.slice none 0 0] h:=Z4 (z:=.agg #[.pointer none,.slice none 0 0]) (by kernel_rfl) (by kernel_rfl) (by kernel_rfl) ps h
@[simp] theorem ix_30(x i:Value)(h:A2):A9 A0 30 x i h=ixS 1 x i h:=A0w (e:=3) (by kernel_rfl) (by kernel_rfl) x i h
@[simp] theorem be_30_1(ps:List (Nat × Value))(h:A2):B9 A0 30 1 ps h=beR 1 1 ps [.int .i64 0] h:=A1e (e:=3) (by kernel_rfl) (by kernel_rfl) (by kernel_rfl) (by kernel_rfl) ps h
@[simp] theorem ap_30(a b:Value)(h:A2):A6 A0 .append [30,30] [a,b] h=apR 1 8 a b h:=A54 (e:=3) (z:=.int .i64 0) (by kernel_rfl) (by kernel_rfl) (by kernel_rfl) (by kernel_rfl) (by kernel_rfl) a b h
@[simp] theorem ld_22(a:Value)(h:A2):A3 A0 22 a h=ld1 a h:=Q4 (by kernel_rfl) a h
@[simp] theorem bd_129(ps:List (Nat × Value))(h:A2):E0 A0 129 ps h=bdR [(0,1),(1,1),(2,1),(3,1)] ps [.int .i64 0,.int .i64 0,.int .i64 0,.int .i64 0] h:=Z4 (z:=.agg #[.int .i64 0,.int .i64 0,.int .i64 0,.int .i64 0]) (by kernel_rfl) (by kernel_rfl) (by kernel_rfl) ps h
@[simp] theorem ld_26(a:Value)(h:A2):A3 A0 26 a h=ldA 4 a h:=X8 (by kernel_rfl) (by kernel_rfl) a h
@[simp] theorem ld_126(a:Value)(h:A2):A3 A0 126 a h=ldA 2 a h:=X8 (by kernel_rfl) (by kernel_rfl) a h
@[simp] theorem ix_126(x i:Value)(h:A2):A9 A0 126 x i h=ixA 2 1 x i h:=D38 (e:=125) (by kernel_rfl) (by kernel_rfl) x i h
@[simp] theorem ld_125(a:Value)(h:A2):A3 A0 125 a h=ld1 a h:=Q4 (by kernel_rfl) a h
@[simp] theorem fa_93_1(a:Value)(h:A2):A1 A0 93 a 1 h=faR 1 1 a h:=G1 (ft:=21) (by kernel_rfl) (by kernel_rfl) a h
@[simp] theorem st_21(a v:Value)(h:A2):B4 A0 21 a v h=stR 1 a v h:=S9 (by kernel_rfl) a v h
@[simp] theorem fa_93_2(a:Value)(h:A2):A1 A0 93 a 2 h=faR 2 1 a h:=G1 (ft:=21) (by kernel_rfl) (by kernel_rfl) a h
@[simp] theorem neI_93(a0 a1 a2 b0 b1 b2:Int)(h:A2):A5 A0 .neq 93 (.agg #[.int .i32 a0,.int .i32 a1,.int .i32 a2]) (.agg #[.int .i32 b0,.int .i32 b1,.int .i32 b2]) h=.ok (.bool (!([a0,a1,a2] == [b0,b1,b2]))) h:=B74 (ks:=[.i32,.i32,.i32]) (by kernel_rfl) [a0,a1,a2] [b0,b1,b2] rfl rfl h
@[simp] theorem bd_93(ps:List (Nat × Value))(h:A2):E0 A0 93 ps h=bdR [(0,1),(1,1),(2,1)] ps [.int .i32 0,.int .i32 0,.int .i32 0] h:=Z4 (z:=.agg #[.int .i32 0,.int .i32 0,.int .i32 0]) (by kernel_rfl) (by kernel_rfl) (by kernel_rfl) ps h
@[simp] theorem fa_26_0(a:Value)(h:A2):A1 A0 26 a 0 h=faR 0 1 a h:=G1 (ft:=22) (by kernel_rfl) (by kernel_rfl) a h
@[simp] theorem fa_26_1(a:Value)(h:A2):A1 A0 26 a 1 h=faR 1 1 a h:=G1 (ft:=23) (by kernel_rfl) (by kernel_rfl) a h
@[simp] theorem ld_23(a:Value)(h:A2):A3 A0 23 a h=ld1 a h:=Q4 (by kernel_rfl) a h
@[simp] theorem len_23(x:Value)(h:A2):A6 A0 .len [23] [x] h=lnS x h:=A0x (e:=22) (by kernel_rfl) x h
@[simp] theorem fa_26_2(a:Value)(h:A2):A1 A0 26 a 2 h=faR 2 1 a h:=G1 (ft:=24) (by kernel_rfl) (by kernel_rfl) a h
@[simp] theorem ld_24(a:Value)(h:A2):A3 A0 24 a h=ld1 a h:=Q4 (by kernel_rfl) a h
@[simp] theorem len_24(x:Value)(h:A2):A6 A0 .len [24] [x] h=lnS x h:=A0x (e:=129) (by kernel_rfl) x h
@[simp] theorem ld_27(a:Value)(h:A2):A3 A0 27 a h=ld1 a h:=Q4 (by kernel_rfl) a h
@[simp] theorem len_27(x:Value)(h:A2):A6 A0 .len [27] [x] h=lnS x h:=A0x (e:=125) (by kernel_rfl) x h
@[simp] theorem sl_22(x:Value)(lo hi mx:Option Value)(h:A2):A06 A0 22 x lo hi mx h=slS 1 x lo hi mx h:=B2l (e:=5) (by kernel_rfl) (by kernel_rfl) x lo hi mx h
@[simp] theorem cp_22_22(d s:Value)(h:A2):A6 A0 .copy [22,22] [d,s] h=cpR 1 d s h:=D7s (e:=5) (by kernel_rfl) (by kernel_rfl) d s h
@[simp] theorem ix_27(x i:Value)(h:A2):A9 A0 27 x i h=ixS 1 x i h:=A0w (e:=125) (by kernel_rfl) (by kernel_rfl) x i h
@[simp] theorem ζud(x:Value)(H:A2):M9 A0 125 135 x H=cvK .u16 x H:=B27 (by kernel_rfl) (by kernel_rfl) x H
@[simp] theorem cv_135_3(x:Value)(H:A2):M9 A0 135 3 x H=cvK .i64 x H:=B27 (by kernel_rfl) (by kernel_rfl) x H
@[simp] theorem al_113(h:A2):D1 A0 113 h=V1 [.slice none 0 0] h:=A07 (z:=.agg #[.slice none 0 0]) (by kernel_rfl) h
@[simp] theorem st_113(a v:Value)(h:A2):B4 A0 113 a v h=stR 1 a v h:=S9 (by kernel_rfl) a v h
@[simp] theorem al_44(h:A2):D1 A0 44 h=V1 [.slice none 0 0,.int .i64 0,.int .i64 0,.int .i64 0,.int .i64 0,.int .i64 0,.int .i64 0,.slice none 0 0,.slice none 0 0] h:=A07 (z:=.agg #[.slice none 0 0,.int .i64 0,.int .i64 0,.int .i64 0,.int .i64 0,.int .i64 0,.int .i64 0,.slice none 0 0,.slice none 0 0]) (by kernel_rfl) h
@[simp] theorem st_44(a v:Value)(h:A2):B4 A0 44 a v h=stR 9 a v h:=S9 (by kernel_rfl) a v h
@[simp] theorem fa_44_5(a:Value)(h:A2):A1 A0 44 a 5 h=faR 5 1 a h:=G1 (ft:=3) (by kernel_rfl) (by kernel_rfl) a h
@[simp] theorem ld_44(a:Value)(h:A2):A3 A0 44 a h=ldA 9 a h:=X8 (by kernel_rfl) (by kernel_rfl) a h
@[simp] theorem al_129(h:A2):D1 A0 129 h=V1 [.int .i64 0,.int .i64 0,.int .i64 0,.int .i64 0] h:=A07 (z:=.agg #[.int .i64 0,.int .i64 0,.int .i64 0,.int .i64 0]) (by kernel_rfl) h
@[simp] theorem st_129(a v:Value)(h:A2):B4 A0 129 a v h=stR 4 a v h:=S9 (by kernel_rfl) a v h
@[simp] theorem fa_129_2(a:Value)(h:A2):A1 A0 129 a 2 h=faR 2 1 a h:=G1 (ft:=3) (by kernel_rfl) (by kernel_rfl) a h
@[simp] theorem bd_145(ps:List (Nat × Value))(h:A2):E0 A0 145 ps h=bdR [(0,1),(1,1)] ps [.bool false,.slice none 0 0] h:=Z4 (z:=.agg #[.bool false,.slice none 0 0]) (by kernel_rfl) (by kernel_rfl) (by kernel_rfl) ps h
@[simp] theorem fa_145_1(a:Value)(h:A2):A1 A0 145 a 1 h=faR 1 1 a h:=G1 (ft:=56) (by kernel_rfl) (by kernel_rfl) a h
@[simp] theorem ld_56(a:Value)(h:A2):A3 A0 56 a h=ld1 a h:=Q4 (by kernel_rfl) a h
@[simp] theorem be_56_1(ps:List (Nat × Value))(h:A2):B9 A0 56 1 ps h=beR 3 1 ps [.int .i32 0,.int .i32 0,.int .i32 0] h:=A1e (e:=93) (by kernel_rfl) (by kernel_rfl) (by kernel_rfl) (by kernel_rfl) ps h
@[simp] theorem D7l(a b:Value)(h:A2):A6 A0 .append [56,56] [a,b] h=apR 3 12 a b h:=A54 (e:=93) (z:=.agg #[.int .i32 0,.int .i32 0,.int .i32 0]) (by kernel_rfl) (by kernel_rfl) (by kernel_rfl) (by kernel_rfl) (by kernel_rfl) a b h
@[simp] theorem st_56(a v:Value)(h:A2):B4 A0 56 a v h=stR 1 a v h:=S9 (by kernel_rfl) a v h
@[simp] theorem bd_148(ps:List (Nat × Value))(h:A2):E0 A0 148 ps h=bdR [(0,1)] ps [.slice none 0 0] h:=Z4 (z:=.agg #[.slice none 0 0]) (by kernel_rfl) (by kernel_rfl) (by kernel_rfl) ps h
@[simp] theorem fa_148_0(a:Value)(h:A2):A1 A0 148 a 0 h=faR 0 1 a h:=G1 (ft:=61) (by kernel_rfl) (by kernel_rfl) a h
@[simp] theorem ld_61(a:Value)(h:A2):A3 A0 61 a h=ld1 a h:=Q4 (by kernel_rfl) a h
@[simp] theorem bd_150(ps:List (Nat × Value))(h:A2):E0 A0 150 ps h=bdR [(0,1),(1,1)] ps [.int .i64 0,.int .i64 0] h:=Z4 (z:=.agg #[.int .i64 0,.int .i64 0]) (by kernel_rfl) (by kernel_rfl) (by kernel_rfl) ps h
@[simp] theorem be_61_1(ps:List (Nat × Value))(h:A2):B9 A0 61 1 ps h=beR 2 1 ps [.int .i64 0,.int .i64 0] h:=A1e (e:=150) (by kernel_rfl) (by kernel_rfl) (by kernel_rfl) (by kernel_rfl) ps h
@[simp] theorem D7m(a b:Value)(h:A2):A6 A0 .append [61,61] [a,b] h=apR 2 16 a b h:=A54 (e:=150) (z:=.agg #[.int .i64 0,.int .i64 0]) (by kernel_rfl) (by kernel_rfl) (by kernel_rfl) (by kernel_rfl) (by kernel_rfl) a b h
@[simp] theorem st_61(a v:Value)(h:A2):B4 A0 61 a v h=stR 1 a v h:=S9 (by kernel_rfl) a v h
@[simp] theorem ld_159(a:Value)(h:A2):A3 A0 159 a h=ld1 a h:=Q4 (by kernel_rfl) a h
@[simp] theorem ld_52(a:Value)(h:A2):A3 A0 52 a h=ld1 a h:=Q4 (by kernel_rfl) a h
@[simp] theorem B9k(ps:List (Nat × Value))(h:A2):B9 A0 56 0 ps h=beR 3 0 ps [] h:=A1e (e:=93) (by kernel_rfl) (by kernel_rfl) (by kernel_rfl) (by kernel_rfl) ps h
@[simp] theorem B9t(x:Value)(H:A2):M9 A0 3 21 x H=cvK .i32 x H:=B27 (by kernel_rfl) (by kernel_rfl) x H
@[simp] theorem len_61(x:Value)(h:A2):A6 A0 .len [61] [x] h=lnS x h:=A0x (e:=150) (by kernel_rfl) x h
@[simp] theorem al_171(h:A2):D1 A0 171 h=V1 [.int .i64 0,.int .i64 0,.int .i64 0,.int .i64 0,.int .i64 0,.bool false,.int .i64 0] h:=A07 (z:=.agg #[.int .i64 0,.int .i64 0,.int .i64 0,.int .i64 0,.int .i64 0,.bool false,.int .i64 0]) (by kernel_rfl) h
@[simp] theorem st_171(a v:Value)(h:A2):B4 A0 171 a v h=stR 7 a v h:=S9 (by kernel_rfl) a v h
@[simp] theorem be_30_0(ps:List (Nat × Value))(h:A2):B9 A0 30 0 ps h=beR 1 0 ps [] h:=A1e (e:=3) (by kernel_rfl) (by kernel_rfl) (by kernel_rfl) (by kernel_rfl) ps h
@[simp] theorem fa_171_5(a:Value)(h:A2):A1 A0 171 a 5 h=faR 5 1 a h:=G1 (ft:=4) (by kernel_rfl) (by kernel_rfl) a h
@[simp] theorem ld_171(a:Value)(h:A2):A3 A0 171 a h=ldA 7 a h:=X8 (by kernel_rfl) (by kernel_rfl) a h
@[simp] theorem fa_129_1(a:Value)(h:A2):A1 A0 129 a 1 h=faR 1 1 a h:=G1 (ft:=3) (by kernel_rfl) (by kernel_rfl) a h
@[simp] theorem fa_171_1(a:Value)(h:A2):A1 A0 171 a 1 h=faR 1 1 a h:=G1 (ft:=3) (by kernel_rfl) (by kernel_rfl) a h
@[simp] theorem sl_30(x:Value)(lo hi mx:Option Value)(h:A2):A06 A0 30 x lo hi mx h=slS 1 x lo hi mx h:=B2l (e:=3) (by kernel_rfl) (by kernel_rfl) x lo hi mx h
@[simp] theorem ld_129(a:Value)(h:A2):A3 A0 129 a h=ldA 4 a h:=X8 (by kernel_rfl) (by kernel_rfl) a h
@[simp] theorem fa_171_6(a:Value)(h:A2):A1 A0 171 a 6 h=faR 6 1 a h:=G1 (ft:=3) (by kernel_rfl) (by kernel_rfl) a h
@[simp] theorem B9l(ps:List (Nat × Value))(h:A2):B9 A0 61 0 ps h=beR 2 0 ps [] h:=A1e (e:=150) (by kernel_rfl) (by kernel_rfl) (by kernel_rfl) (by kernel_rfl) ps h
@[simp] theorem ix_61(x i:Value)(h:A2):A9 A0 61 x i h=ixS 2 x i h:=A0w (e:=150) (by kernel_rfl) (by kernel_rfl) x i h
@[simp] theorem ld_150(a:Value)(h:A2):A3 A0 150 a h=ldA 2 a h:=X8 (by kernel_rfl) (by kernel_rfl) a h
@[simp] theorem neI_150(a0 a1 b0 b1:Int)(h:A2):A5 A0 .neq 150 (.agg #[.int .i64 a0,.int .i64 a1]) (.agg #[.int .i64 b0,.int .i64 b1]) h=.ok (.bool (!([a0,a1] == [b0,b1]))) h:=B74 (ks:=[.i64,.i64]) (by kernel_rfl) [a0,a1] [b0,b1] rfl rfl h
@[simp] theorem len_70(x:Value)(h:A2):A6 A0 .len [70] [x] h=lnS x h:=A0x (e:=130) (by kernel_rfl) x h
@[simp] theorem ix_70(x i:Value)(h:A2):A9 A0 70 x i h=ixS 1 x i h:=A0w (e:=130) (by kernel_rfl) (by kernel_rfl) x i h
@[simp] theorem ld_130(a:Value)(h:A2):A3 A0 130 a h=ld1 a h:=Q4 (by kernel_rfl) a h
@[simp] theorem len_130(x:Value)(h:A2):A6 A0 .len [130] [x] h=lnS x h:=A0x (e:=126) (by kernel_rfl) x h
@[simp] theorem fa_69_0(a:Value)(h:A2):A1 A0 69 a 0 h=faR 0 4 a h:=G1 (ft:=26) (by kernel_rfl) (by kernel_rfl) a h
@[simp] theorem fa_69_2(a:Value)(h:A2):A1 A0 69 a 2 h=faR 5 1 a h:=G1 (ft:=27) (by kernel_rfl) (by kernel_rfl) a h
@[simp] theorem fa_69_1(a:Value)(h:A2):A1 A0 69 a 1 h=faR 4 1 a h:=G1 (ft:=5) (by kernel_rfl) (by kernel_rfl) a h
@[simp] theorem ld_5(a:Value)(h:A2):A3 A0 5 a h=ld1 a h:=Q4 (by kernel_rfl) a h
@[simp] theorem cv_5_3(x:Value)(H:A2):M9 A0 5 3 x H=cvK .i64 x H:=B27 (by kernel_rfl) (by kernel_rfl) x H
@[simp] theorem ld_75(a:Value)(h:A2):A3 A0 75 a h=ld1 a h:=Q4 (by kernel_rfl) a h
@[simp] theorem al_75(h:A2):D1 A0 75 h=V1 [.pointer none] h:=A07 (z:=.pointer none) (by kernel_rfl) h
@[simp] theorem st_75(a v:Value)(h:A2):B4 A0 75 a v h=stR 1 a v h:=S9 (by kernel_rfl) a v h
@[simp] theorem bd_79(ps:List (Nat × Value))(h:A2):E0 A0 79 ps h=bdR [(0,9),(9,1),(10,1)] ps [.slice none 0 0,.int .i64 0,.int .i64 0,.int .i64 0,.int .i64 0,.int .i64 0,.int .i64 0,.slice none 0 0,.slice none 0 0,.int .i64 0,.slice none 0 0] h:=Z4 (z:=.agg #[.slice none 0 0,.int .i64 0,.int .i64 0,.int .i64 0,.int .i64 0,.int .i64 0,.int .i64 0,.slice none 0 0,.slice none 0 0,.int .i64 0,.slice none 0 0]) (by kernel_rfl) (by kernel_rfl) (by kernel_rfl) ps h
@[simp] theorem fa_79_1(a:Value)(h:A2):A1 A0 79 a 1 h=faR 9 1 a h:=G1 (ft:=3) (by kernel_rfl) (by kernel_rfl) a h
@[simp] theorem fa_79_2(a:Value)(h:A2):A1 A0 79 a 2 h=faR 10 1 a h:=G1 (ft:=22) (by kernel_rfl) (by kernel_rfl) a h
@[simp] theorem st_22(a v:Value)(h:A2):B4 A0 22 a v h=stR 1 a v h:=S9 (by kernel_rfl) a v h
@[simp] theorem fv_129_2(x:Value)(h:A2):A31 A0 129 x 2 h=fv1 2 x h:=D33 (ft:=3) (by kernel_rfl) (by kernel_rfl) x h
@[simp] theorem ld_82(a:Value)(h:A2):A3 A0 82 a h=ld1 a h:=Q4 (by kernel_rfl) a h
@[simp] theorem al_82(h:A2):D1 A0 82 h=V1 [.pointer none] h:=A07 (z:=.pointer none) (by kernel_rfl) h
@[simp] theorem st_82(a v:Value)(h:A2):B4 A0 82 a v h=stR 1 a v h:=S9 (by kernel_rfl) a v h
@[simp] theorem be_22_4(ps:List (Nat × Value))(h:A2):B9 A0 22 4 ps h=beR 1 4 ps [.int .u8 0,.int .u8 0,.int .u8 0,.int .u8 0] h:=A1e (e:=5) (by kernel_rfl) (by kernel_rfl) (by kernel_rfl) (by kernel_rfl) ps h
@[simp] theorem ap_22(a b:Value)(h:A2):A6 A0 .append [22,22] [a,b] h=apR 1 1 a b h:=A54 (e:=5) (z:=.int .u8 0) (by kernel_rfl) (by kernel_rfl) (by kernel_rfl) (by kernel_rfl) (by kernel_rfl) a b h
@[simp] theorem ix_130(x i:Value)(h:A2):A9 A0 130 x i h=ixS 2 x i h:=A0w (e:=126) (by kernel_rfl) (by kernel_rfl) x i h
@[simp] theorem al_126(h:A2):D1 A0 126 h=V1 [.int .i16 0,.int .i16 0] h:=A07 (z:=.agg #[.int .i16 0,.int .i16 0]) (by kernel_rfl) h
@[simp] theorem st_126(a v:Value)(h:A2):B4 A0 126 a v h=stR 2 a v h:=S9 (by kernel_rfl) a v h
@[simp] theorem bd_87(ps:List (Nat × Value))(h:A2):E0 A0 87 ps h=bdR [(0,1),(1,2),(3,1)] ps [.bool false,.slice none 0 0,.slice none 0 0,.slice none 0 0] h:=Z4 (z:=.agg #[.bool false,.slice none 0 0,.slice none 0 0,.slice none 0 0]) (by kernel_rfl) (by kernel_rfl) (by kernel_rfl) ps h
@[simp] theorem al_42(h:A2):D1 A0 42 h=V1 [.slice none 0 0,.slice none 0 0] h:=A07 (z:=.agg #[.slice none 0 0,.slice none 0 0]) (by kernel_rfl) h
@[simp] theorem st_42(a v:Value)(h:A2):B4 A0 42 a v h=stR 2 a v h:=S9 (by kernel_rfl) a v h
@[simp] theorem ld_42(a:Value)(h:A2):A3 A0 42 a h=ldA 2 a h:=X8 (by kernel_rfl) (by kernel_rfl) a h
@[simp] theorem fa_42_1(a:Value)(h:A2):A1 A0 42 a 1 h=faR 1 1 a h:=G1 (ft:=40) (by kernel_rfl) (by kernel_rfl) a h
@[simp] theorem ld_40(a:Value)(h:A2):A3 A0 40 a h=ld1 a h:=Q4 (by kernel_rfl) a h
@[simp] theorem len_40(x:Value)(h:A2):A6 A0 .len [40] [x] h=lnS x h:=A0x (e:=186) (by kernel_rfl) x h
@[simp] theorem ix_40(x i:Value)(h:A2):A9 A0 40 x i h=ixS 5 x i h:=A0w (e:=186) (by kernel_rfl) (by kernel_rfl) x i h
@[simp] theorem fa_186_0(a:Value)(h:A2):A1 A0 186 a 0 h=faR 0 1 a h:=G1 (ft:=3) (by kernel_rfl) (by kernel_rfl) a h
@[simp] theorem fa_186_1(a:Value)(h:A2):A1 A0 186 a 1 h=faR 1 1 a h:=G1 (ft:=3) (by kernel_rfl) (by kernel_rfl) a h
@[simp] theorem fa_186_4(a:Value)(h:A2):A1 A0 186 a 4 h=faR 4 1 a h:=G1 (ft:=3) (by kernel_rfl) (by kernel_rfl) a h
@[simp] theorem al_3(h:A2):D1 A0 3 h=V1 [.int .i64 0] h:=A07 (z:=.int .i64 0) (by kernel_rfl) h
@[simp] theorem st_3(a v:Value)(h:A2):B4 A0 3 a v h=stR 1 a v h:=S9 (by kernel_rfl) a v h
@[simp] theorem fa_191_0(a:Value)(h:A2):A1 A0 191 a 0 h=faR 0 1 a h:=G1 (ft:=159) (by kernel_rfl) (by kernel_rfl) a h
@[simp] theorem fa_79_0(a:Value)(h:A2):A1 A0 79 a 0 h=faR 0 9 a h:=G1 (ft:=44) (by kernel_rfl) (by kernel_rfl) a h
@[simp] theorem fa_150_0(a:Value)(h:A2):A1 A0 150 a 0 h=faR 0 1 a h:=G1 (ft:=3) (by kernel_rfl) (by kernel_rfl) a h
@[simp] theorem az_22_3(a b:Value)(h:A2):A6 A0 .append [22,3] [a,b] h=azR 1 1 [.int .u8 0] a b h:=D7p (kt:=.i64) (e:=5) (z:=.int .u8 0) (by kernel_rfl) (by kernel_rfl) (by kernel_rfl) (by kernel_rfl) (by kernel_rfl) (by kernel_rfl) a b h
@[simp] theorem st_4(a v:Value)(h:A2):B4 A0 4 a v h=stR 1 a v h:=S9 (by kernel_rfl) a v h
@[simp] theorem ld_113(a:Value)(h:A2):A3 A0 113 a h=ldA 1 a h:=X8 (by kernel_rfl) (by kernel_rfl) a h
@[simp] theorem bd_113(ps:List (Nat × Value))(h:A2):E0 A0 113 ps h=bdR [(0,1)] ps [.slice none 0 0] h:=Z4 (z:=.agg #[.slice none 0 0]) (by kernel_rfl) (by kernel_rfl) (by kernel_rfl) ps h
@[simp] theorem fa_26_3(a:Value)(h:A2):A1 A0 26 a 3 h=faR 3 1 a h:=G1 (ft:=5) (by kernel_rfl) (by kernel_rfl) a h
@[simp] theorem ix_23(x i:Value)(h:A2):A9 A0 23 x i h=ixS 1 x i h:=A0w (e:=22) (by kernel_rfl) (by kernel_rfl) x i h
@[simp] theorem ix_24(x i:Value)(h:A2):A9 A0 24 x i h=ixS 4 x i h:=A0w (e:=129) (by kernel_rfl) (by kernel_rfl) x i h
@[simp] theorem fa_129_0(a:Value)(h:A2):A1 A0 129 a 0 h=faR 0 1 a h:=G1 (ft:=3) (by kernel_rfl) (by kernel_rfl) a h
@[simp] theorem fa_129_3(a:Value)(h:A2):A1 A0 129 a 3 h=faR 3 1 a h:=G1 (ft:=3) (by kernel_rfl) (by kernel_rfl) a h
@[simp] theorem cv_3_5(x:Value)(H:A2):M9 A0 3 5 x H=cvK .u8 x H:=B27 (by kernel_rfl) (by kernel_rfl) x H
@[simp] theorem be_22_1(ps:List (Nat × Value))(h:A2):B9 A0 22 1 ps h=beR 1 1 ps [.int .u8 0] h:=A1e (e:=5) (by kernel_rfl) (by kernel_rfl) (by kernel_rfl) (by kernel_rfl) ps h
@[simp] theorem be_22_0(ps:List (Nat × Value))(h:A2):B9 A0 22 0 ps h=beR 1 0 ps [] h:=A1e (e:=5) (by kernel_rfl) (by kernel_rfl) (by kernel_rfl) (by kernel_rfl) ps h
@[simp] theorem fa_113_0(a:Value)(h:A2):A1 A0 113 a 0 h=faR 0 1 a h:=G1 (ft:=22) (by kernel_rfl) (by kernel_rfl) a h
@[simp] theorem bd_44(ps:List (Nat × Value))(h:A2):E0 A0 44 ps h=bdR [(0,1),(1,1),(2,1),(3,1),(4,1),(5,1),(6,1),(7,2)] ps [.slice none 0 0,.int .i64 0,.int .i64 0,.int .i64 0,.int .i64 0,.int .i64 0,.int .i64 0,.slice none 0 0,.slice none 0 0] h:=Z4 (z:=.agg #[.slice none 0 0,.int .i64 0,.int .i64 0,.int .i64 0,.int .i64 0,.int .i64 0,.int .i64 0,.slice none 0 0,.slice none 0 0]) (by kernel_rfl) (by kernel_rfl) (by kernel_rfl) ps h
@[simp] theorem fa_44_1(a:Value)(h:A2):A1 A0 44 a 1 h=faR 1 1 a h:=G1 (ft:=3) (by kernel_rfl) (by kernel_rfl) a h
@[simp] theorem fa_44_2(a:Value)(h:A2):A1 A0 44 a 2 h=faR 2 1 a h:=G1 (ft:=3) (by kernel_rfl) (by kernel_rfl) a h
@[simp] theorem fa_44_3(a:Value)(h:A2):A1 A0 44 a 3 h=faR 3 1 a h:=G1 (ft:=3) (by kernel_rfl) (by kernel_rfl) a h
@[simp] theorem fa_44_7(a:Value)(h:A2):A1 A0 44 a 7 h=faR 7 2 a h:=G1 (ft:=42) (by kernel_rfl) (by kernel_rfl) a h
@[simp] theorem fa_44_4(a:Value)(h:A2):A1 A0 44 a 4 h=faR 4 1 a h:=G1 (ft:=3) (by kernel_rfl) (by kernel_rfl) a h
@[simp] theorem fa_44_6(a:Value)(h:A2):A1 A0 44 a 6 h=faR 6 1 a h:=G1 (ft:=3) (by kernel_rfl) (by kernel_rfl) a h
@[simp] theorem fa_44_0(a:Value)(h:A2):A1 A0 44 a 0 h=faR 0 1 a h:=G1 (ft:=22) (by kernel_rfl) (by kernel_rfl) a h
@[simp] theorem cv_21_3(x:Value)(H:A2):M9 A0 21 3 x H=cvK .i64 x H:=B27 (by kernel_rfl) (by kernel_rfl) x H
@[simp] theorem bd_228(ps:List (Nat × Value))(h:A2):E0 A0 228 ps h=bdR [(0,1),(1,1),(2,1),(3,1),(4,1),(5,1)] ps [.pointer none,.pointer none,.int .i64 0,.int .i64 0,.int .i64 0,.int .i64 0] h:=Z4 (z:=.agg #[.pointer none,.pointer none,.int .i64 0,.int .i64 0,.int .i64 0,.int .i64 0]) (by kernel_rfl) (by kernel_rfl) (by kernel_rfl) ps h
@[simp] theorem fa_228_4(a:Value)(h:A2):A1 A0 228 a 4 h=faR 4 1 a h:=G1 (ft:=3) (by kernel_rfl) (by kernel_rfl) a h
@[simp] theorem fa_228_5(a:Value)(h:A2):A1 A0 228 a 5 h=faR 5 1 a h:=G1 (ft:=3) (by kernel_rfl) (by kernel_rfl) a h
@[simp] theorem ld_49(a:Value)(h:A2):A3 A0 49 a h=ld1 a h:=Q4 (by kernel_rfl) a h
@[simp] theorem bd_171(ps:List (Nat × Value))(h:A2):E0 A0 171 ps h=bdR [(0,1),(1,1),(2,1),(3,1),(4,1),(5,1),(6,1)] ps [.int .i64 0,.int .i64 0,.int .i64 0,.int .i64 0,.int .i64 0,.bool false,.int .i64 0] h:=Z4 (z:=.agg #[.int .i64 0,.int .i64 0,.int .i64 0,.int .i64 0,.int .i64 0,.bool false,.int .i64 0]) (by kernel_rfl) (by kernel_rfl) (by kernel_rfl) ps h
@[simp] theorem fa_171_0(a:Value)(h:A2):A1 A0 171 a 0 h=faR 0 1 a h:=G1 (ft:=3) (by kernel_rfl) (by kernel_rfl) a h
@[simp] theorem fa_171_2(a:Value)(h:A2):A1 A0 171 a 2 h=faR 2 1 a h:=G1 (ft:=3) (by kernel_rfl) (by kernel_rfl) a h
@[simp] theorem fa_171_3(a:Value)(h:A2):A1 A0 171 a 3 h=faR 3 1 a h:=G1 (ft:=3) (by kernel_rfl) (by kernel_rfl) a h
@[simp] theorem fa_171_4(a:Value)(h:A2):A1 A0 171 a 4 h=faR 4 1 a h:=G1 (ft:=3) (by kernel_rfl) (by kernel_rfl) a h
@[simp] theorem bd_191(ps:List (Nat × Value))(h:A2):E0 A0 191 ps h=bdR [(0,1),(1,1),(2,1)] ps [.pointer none,.int .i64 0,.slice none 0 0] h:=Z4 (z:=.agg #[.pointer none,.int .i64 0,.slice none 0 0]) (by kernel_rfl) (by kernel_rfl) (by kernel_rfl) ps h
@[simp] theorem fa_191_1(a:Value)(h:A2):A1 A0 191 a 1 h=faR 1 1 a h:=G1 (ft:=3) (by kernel_rfl) (by kernel_rfl) a h
@[simp] theorem fa_191_2(a:Value)(h:A2):A1 A0 191 a 2 h=faR 2 1 a h:=G1 (ft:=113) (by kernel_rfl) (by kernel_rfl) a h
@[simp] theorem fa_115_0(a:Value)(h:A2):A1 A0 115 a 0 h=faR 0 1 a h:=G1 (ft:=111) (by kernel_rfl) (by kernel_rfl) a h
@[simp] theorem ld_111(a:Value)(h:A2):A3 A0 111 a h=ld1 a h:=Q4 (by kernel_rfl) a h
@[simp] theorem fa_115_1(a:Value)(h:A2):A1 A0 115 a 1 h=faR 1 1 a h:=G1 (ft:=113) (by kernel_rfl) (by kernel_rfl) a h
@[simp] theorem bd_42(ps:List (Nat × Value))(h:A2):E0 A0 42 ps h=bdR [(0,1),(1,1)] ps [.slice none 0 0,.slice none 0 0] h:=Z4 (z:=.agg #[.slice none 0 0,.slice none 0 0]) (by kernel_rfl) (by kernel_rfl) (by kernel_rfl) ps h
@[simp] theorem ld_186(a:Value)(h:A2):A3 A0 186 a h=ldA 5 a h:=X8 (by kernel_rfl) (by kernel_rfl) a h
@[simp] theorem al_186(h:A2):D1 A0 186 h=V1 [.int .i64 0,.int .i64 0,.int .i64 0,.int .i64 0,.int .i64 0] h:=A07 (z:=.agg #[.int .i64 0,.int .i64 0,.int .i64 0,.int .i64 0,.int .i64 0]) (by kernel_rfl) h
@[simp] theorem st_186(a v:Value)(h:A2):B4 A0 186 a v h=stR 5 a v h:=S9 (by kernel_rfl) a v h
@[simp] theorem fa_42_0(a:Value)(h:A2):A1 A0 42 a 0 h=faR 0 1 a h:=G1 (ft:=22) (by kernel_rfl) (by kernel_rfl) a h
@[simp] theorem fa_186_2(a:Value)(h:A2):A1 A0 186 a 2 h=faR 2 1 a h:=G1 (ft:=3) (by kernel_rfl) (by kernel_rfl) a h
@[simp] theorem fa_186_3(a:Value)(h:A2):A1 A0 186 a 3 h=faR 3 1 a h:=G1 (ft:=3) (by kernel_rfl) (by kernel_rfl) a h
@[simp] theorem al_150(h:A2):D1 A0 150 h=V1 [.int .i64 0,.int .i64 0] h:=A07 (z:=.agg #[.int .i64 0,.int .i64 0]) (by kernel_rfl) h
@[simp] theorem st_150(a v:Value)(h:A2):B4 A0 150 a v h=stR 2 a v h:=S9 (by kernel_rfl) a v h
@[simp] theorem al_195(h:A2):D1 A0 195 h=V1 [.int .i64 0,.int .i64 0] h:=A07 (z:=.agg #[.int .i64 0,.int .i64 0]) (by kernel_rfl) h
@[simp] theorem st_195(a v:Value)(h:A2):B4 A0 195 a v h=stR 2 a v h:=S9 (by kernel_rfl) a v h
@[simp] theorem fa_195_0(a:Value)(h:A2):A1 A0 195 a 0 h=faR 0 1 a h:=G1 (ft:=3) (by kernel_rfl) (by kernel_rfl) a h
@[simp] theorem fa_195_1(a:Value)(h:A2):A1 A0 195 a 1 h=faR 1 1 a h:=G1 (ft:=3) (by kernel_rfl) (by kernel_rfl) a h
@[simp] theorem ld_195(a:Value)(h:A2):A3 A0 195 a h=ldA 2 a h:=X8 (by kernel_rfl) (by kernel_rfl) a h
@[simp] theorem bd_195(ps:List (Nat × Value))(h:A2):E0 A0 195 ps h=bdR [(0,1),(1,1)] ps [.int .i64 0,.int .i64 0] h:=Z4 (z:=.agg #[.int .i64 0,.int .i64 0]) (by kernel_rfl) (by kernel_rfl) (by kernel_rfl) ps h
@[simp] theorem fa_87_1(a:Value)(h:A2):A1 A0 87 a 1 h=faR 1 2 a h:=G1 (ft:=42) (by kernel_rfl) (by kernel_rfl) a h
@[simp] theorem fa_87_2(a:Value)(h:A2):A1 A0 87 a 2 h=faR 3 1 a h:=G1 (ft:=22) (by kernel_rfl) (by kernel_rfl) a h
@[simp] theorem bd_259(ps:List (Nat × Value))(h:A2):E0 A0 259 ps h=bdR [(0,1),(1,1),(2,1),(3,1)] ps [.int .i64 0,.pointer none,.slice none 0 0,.slice none 0 0] h:=Z4 (z:=.agg #[.int .i64 0,.pointer none,.slice none 0 0,.slice none 0 0]) (by kernel_rfl) (by kernel_rfl) (by kernel_rfl) ps h
@[simp] theorem bd_261(ps:List (Nat × Value))(h:A2):E0 A0 261 ps h=bdR [(0,1),(1,1),(2,1),(3,1)] ps [.pointer none,.slice none 0 0,.slice none 0 0,.int .i64 0] h:=Z4 (z:=.agg #[.pointer none,.slice none 0 0,.slice none 0 0,.int .i64 0]) (by kernel_rfl) (by kernel_rfl) (by kernel_rfl) ps h
@[simp] theorem al_261(h:A2):D1 A0 261 h=V1 [.pointer none,.slice none 0 0,.slice none 0 0,.int .i64 0] h:=A07 (z:=.agg #[.pointer none,.slice none 0 0,.slice none 0 0,.int .i64 0]) (by kernel_rfl) h
@[simp] theorem st_261(a v:Value)(h:A2):B4 A0 261 a v h=stR 4 a v h:=S9 (by kernel_rfl) a v h
@[simp] theorem fa_259_2(a:Value)(h:A2):A1 A0 259 a 2 h=faR 2 1 a h:=G1 (ft:=257) (by kernel_rfl) (by kernel_rfl) a h
@[simp] theorem ld_257(a:Value)(h:A2):A3 A0 257 a h=ld1 a h:=Q4 (by kernel_rfl) a h
@[simp] theorem len_257(x:Value)(h:A2):A6 A0 .len [257] [x] h=lnS x h:=A0x (e:=30) (by kernel_rfl) x h
@[simp] theorem fa_259_3(a:Value)(h:A2):A1 A0 259 a 3 h=faR 3 1 a h:=G1 (ft:=24) (by kernel_rfl) (by kernel_rfl) a h
@[simp] theorem ld_261(a:Value)(h:A2):A3 A0 261 a h=ldA 4 a h:=X8 (by kernel_rfl) (by kernel_rfl) a h
@[simp] theorem be_24_0(ps:List (Nat × Value))(h:A2):B9 A0 24 0 ps h=beR 4 0 ps [] h:=A1e (e:=129) (by kernel_rfl) (by kernel_rfl) (by kernel_rfl) (by kernel_rfl) ps h
@[simp] theorem ap_24(a b:Value)(h:A2):A6 A0 .append [24,24] [a,b] h=apR 4 32 a b h:=A54 (e:=129) (z:=.agg #[.int .i64 0,.int .i64 0,.int .i64 0,.int .i64 0]) (by kernel_rfl) (by kernel_rfl) (by kernel_rfl) (by kernel_rfl) (by kernel_rfl) a b h
@[simp] theorem fa_228_0(a:Value)(h:A2):A1 A0 228 a 0 h=faR 0 1 a h:=G1 (ft:=159) (by kernel_rfl) (by kernel_rfl) a h
@[simp] theorem fa_228_2(a:Value)(h:A2):A1 A0 228 a 2 h=faR 2 1 a h:=G1 (ft:=3) (by kernel_rfl) (by kernel_rfl) a h
@[simp] theorem fa_228_3(a:Value)(h:A2):A1 A0 228 a 3 h=faR 3 1 a h:=G1 (ft:=3) (by kernel_rfl) (by kernel_rfl) a h
@[simp] theorem ld_168(a:Value)(h:A2):A3 A0 168 a h=ld1 a h:=Q4 (by kernel_rfl) a h
@[simp] theorem cv_3_125(x:Value)(H:A2):M9 A0 3 125 x H=cvK .i16 x H:=B27 (by kernel_rfl) (by kernel_rfl) x H
@[simp] theorem cv_125_3(x:Value)(H:A2):M9 A0 125 3 x H=cvK .i64 x H:=B27 (by kernel_rfl) (by kernel_rfl) x H
@[simp] theorem bd_267(ps:List (Nat × Value))(h:A2):E0 A0 267 ps h=bdR [(0,1),(1,1),(2,1)] ps [.slice none 0 0,.int .i64 0,.int .i64 0] h:=Z4 (z:=.agg #[.slice none 0 0,.int .i64 0,.int .i64 0]) (by kernel_rfl) (by kernel_rfl) (by kernel_rfl) ps h
@[simp] theorem al_267(h:A2):D1 A0 267 h=V1 [.slice none 0 0,.int .i64 0,.int .i64 0] h:=A07 (z:=.agg #[.slice none 0 0,.int .i64 0,.int .i64 0]) (by kernel_rfl) h
@[simp] theorem st_267(a v:Value)(h:A2):B4 A0 267 a v h=stR 3 a v h:=S9 (by kernel_rfl) a v h
@[simp] theorem bd_270(ps:List (Nat × Value))(h:A2):E0 A0 270 ps h=bdR [(0,1),(1,1)] ps [.int .i64 0,.slice none 0 0] h:=Z4 (z:=.agg #[.int .i64 0,.slice none 0 0]) (by kernel_rfl) (by kernel_rfl) (by kernel_rfl) ps h
@[simp] theorem fa_270_0(a:Value)(h:A2):A1 A0 270 a 0 h=faR 0 1 a h:=G1 (ft:=3) (by kernel_rfl) (by kernel_rfl) a h
@[simp] theorem bd_273(ps:List (Nat × Value))(h:A2):E0 A0 273 ps h=bdR [(0,1),(1,1),(2,1)] ps [.int .i64 0,.int .i64 0,.slice none 0 0] h:=Z4 (z:=.agg #[.int .i64 0,.int .i64 0,.slice none 0 0]) (by kernel_rfl) (by kernel_rfl) (by kernel_rfl) ps h
@[simp] theorem be_268_1(ps:List (Nat × Value))(h:A2):B9 A0 268 1 ps h=beR 3 1 ps [.int .i64 0,.int .i64 0,.slice none 0 0] h:=A1e (e:=273) (by kernel_rfl) (by kernel_rfl) (by kernel_rfl) (by kernel_rfl) ps h
@[simp] theorem fa_270_1(a:Value)(h:A2):A1 A0 270 a 1 h=faR 1 1 a h:=G1 (ft:=268) (by kernel_rfl) (by kernel_rfl) a h
@[simp] theorem st_268(a v:Value)(h:A2):B4 A0 268 a v h=stR 1 a v h:=S9 (by kernel_rfl) a v h
@[simp] theorem ld_267(a:Value)(h:A2):A3 A0 267 a h=ldA 3 a h:=X8 (by kernel_rfl) (by kernel_rfl) a h
@[simp] theorem ld_268(a:Value)(h:A2):A3 A0 268 a h=ld1 a h:=Q4 (by kernel_rfl) a h
@[simp] theorem len_268(x:Value)(h:A2):A6 A0 .len [268] [x] h=lnS x h:=A0x (e:=273) (by kernel_rfl) x h
@[simp] theorem ix_268(x i:Value)(h:A2):A9 A0 268 x i h=ixS 3 x i h:=A0w (e:=273) (by kernel_rfl) (by kernel_rfl) x i h
@[simp] theorem fa_273_1(a:Value)(h:A2):A1 A0 273 a 1 h=faR 1 1 a h:=G1 (ft:=3) (by kernel_rfl) (by kernel_rfl) a h
@[simp] theorem fa_273_0(a:Value)(h:A2):A1 A0 273 a 0 h=faR 0 1 a h:=G1 (ft:=3) (by kernel_rfl) (by kernel_rfl) a h
@[simp] theorem bd_186(ps:List (Nat × Value))(h:A2):E0 A0 186 ps h=bdR [(0,1),(1,1),(2,1),(3,1),(4,1)] ps [.int .i64 0,.int .i64 0,.int .i64 0,.int .i64 0,.int .i64 0] h:=Z4 (z:=.agg #[.int .i64 0,.int .i64 0,.int .i64 0,.int .i64 0,.int .i64 0]) (by kernel_rfl) (by kernel_rfl) (by kernel_rfl) ps h
@[simp] theorem be_40_1(ps:List (Nat × Value))(h:A2):B9 A0 40 1 ps h=beR 5 1 ps [.int .i64 0,.int .i64 0,.int .i64 0,.int .i64 0,.int .i64 0] h:=A1e (e:=186) (by kernel_rfl) (by kernel_rfl) (by kernel_rfl) (by kernel_rfl) ps h
@[simp] theorem be_40_0(ps:List (Nat × Value))(h:A2):B9 A0 40 0 ps h=beR 5 0 ps [] h:=A1e (e:=186) (by kernel_rfl) (by kernel_rfl) (by kernel_rfl) (by kernel_rfl) ps h
@[simp] theorem ap_40(a b:Value)(h:A2):A6 A0 .append [40,40] [a,b] h=apR 5 40 a b h:=A54 (e:=186) (z:=.agg #[.int .i64 0,.int .i64 0,.int .i64 0,.int .i64 0,.int .i64 0]) (by kernel_rfl) (by kernel_rfl) (by kernel_rfl) (by kernel_rfl) (by kernel_rfl) a b h
@[simp] theorem fa_87_0(a:Value)(h:A2):A1 A0 87 a 0 h=faR 0 1 a h:=G1 (ft:=4) (by kernel_rfl) (by kernel_rfl) a h
@[simp] theorem bd_217(ps:List (Nat × Value))(h:A2):E0 A0 217 ps h=bdR [] ps [] h:=Z4 (z:=.agg #[]) (by kernel_rfl) (by kernel_rfl) (by kernel_rfl) ps h
@[simp] theorem if_217(x:Value)(h:A2):A6b A0 217 x h=.ok (.iface 217 x) h:=by kernel_rfl
@[simp] theorem fa_261_0(a:Value)(h:A2):A1 A0 261 a 0 h=faR 0 1 a h:=G1 (ft:=159) (by kernel_rfl) (by kernel_rfl) a h
@[simp] theorem fa_259_0(a:Value)(h:A2):A1 A0 259 a 0 h=faR 0 1 a h:=G1 (ft:=3) (by kernel_rfl) (by kernel_rfl) a h
@[simp] theorem fa_261_1(a:Value)(h:A2):A1 A0 261 a 1 h=faR 1 1 a h:=G1 (ft:=113) (by kernel_rfl) (by kernel_rfl) a h
@[simp] theorem be_257_1(ps:List (Nat × Value))(h:A2):B9 A0 257 1 ps h=beR 1 1 ps [.slice none 0 0] h:=A1e (e:=30) (by kernel_rfl) (by kernel_rfl) (by kernel_rfl) (by kernel_rfl) ps h
@[simp] theorem ap_257(a b:Value)(h:A2):A6 A0 .append [257,257] [a,b] h=apR 1 24 a b h:=A54 (e:=30) (z:=.slice none 0 0) (by kernel_rfl) (by kernel_rfl) (by kernel_rfl) (by kernel_rfl) (by kernel_rfl) a b h
@[simp] theorem st_257(a v:Value)(h:A2):B4 A0 257 a v h=stR 1 a v h:=S9 (by kernel_rfl) a v h
@[simp] theorem fa_261_3(a:Value)(h:A2):A1 A0 261 a 3 h=faR 3 1 a h:=G1 (ft:=3) (by kernel_rfl) (by kernel_rfl) a h
@[simp] theorem fa_261_2(a:Value)(h:A2):A1 A0 261 a 2 h=faR 2 1 a h:=G1 (ft:=113) (by kernel_rfl) (by kernel_rfl) a h
@[simp] theorem be_24_1(ps:List (Nat × Value))(h:A2):B9 A0 24 1 ps h=beR 4 1 ps [.int .i64 0,.int .i64 0,.int .i64 0,.int .i64 0] h:=A1e (e:=129) (by kernel_rfl) (by kernel_rfl) (by kernel_rfl) (by kernel_rfl) ps h
@[simp] theorem st_24(a v:Value)(h:A2):B4 A0 24 a v h=stR 1 a v h:=S9 (by kernel_rfl) a v h
@[simp] theorem fa_228_1(a:Value)(h:A2):A1 A0 228 a 1 h=faR 1 1 a h:=G1 (ft:=52) (by kernel_rfl) (by kernel_rfl) a h
@[simp] theorem ix_257(x i:Value)(h:A2):A9 A0 257 x i h=ixS 1 x i h:=A0w (e:=30) (by kernel_rfl) (by kernel_rfl) x i h
@[simp] theorem fa_267_2(a:Value)(h:A2):A1 A0 267 a 2 h=faR 2 1 a h:=G1 (ft:=3) (by kernel_rfl) (by kernel_rfl) a h
@[simp] theorem fa_267_0(a:Value)(h:A2):A1 A0 267 a 0 h=faR 0 1 a h:=G1 (ft:=113) (by kernel_rfl) (by kernel_rfl) a h
@[simp] theorem len_287(x:Value)(h:A2):A6 A0 .len [287] [x] h=lnS x h:=A0x (e:=113) (by kernel_rfl) x h
@[simp] theorem ix_287(x i:Value)(h:A2):A9 A0 287 x i h=ixS 1 x i h:=A0w (e:=113) (by kernel_rfl) (by kernel_rfl) x i h
@[simp] theorem al_273(h:A2):D1 A0 273 h=V1 [.int .i64 0,.int .i64 0,.slice none 0 0] h:=A07 (z:=.agg #[.int .i64 0,.int .i64 0,.slice none 0 0]) (by kernel_rfl) h
@[simp] theorem st_273(a v:Value)(h:A2):B4 A0 273 a v h=stR 3 a v h:=S9 (by kernel_rfl) a v h
@[simp] theorem fa_273_2(a:Value)(h:A2):A1 A0 273 a 2 h=faR 2 1 a h:=G1 (ft:=30) (by kernel_rfl) (by kernel_rfl) a h
@[simp] theorem st_30(a v:Value)(h:A2):B4 A0 30 a v h=stR 1 a v h:=S9 (by kernel_rfl) a v h
@[simp] theorem ld_273(a:Value)(h:A2):A3 A0 273 a h=ldA 3 a h:=X8 (by kernel_rfl) (by kernel_rfl) a h
@[simp] theorem ap_268(a b:Value)(h:A2):A6 A0 .append [268,268] [a,b] h=apR 3 40 a b h:=A54 (e:=273) (z:=.agg #[.int .i64 0,.int .i64 0,.slice none 0 0]) (by kernel_rfl) (by kernel_rfl) (by kernel_rfl) (by kernel_rfl) (by kernel_rfl) a b h
@[simp] theorem eqp_111(cs:Array Value)(h:A2):A5 A0 .eql 111 (boxV cs) (.pointer none) h=.ok (.bool false) h:=by kernel_rfl
@[simp] theorem fa_259_1(a:Value)(h:A2):A1 A0 259 a 1 h=faR 1 1 a h:=G1 (ft:=111) (by kernel_rfl) (by kernel_rfl) a h
@[simp] theorem be_287_1(ps:List (Nat × Value))(h:A2):B9 A0 287 1 ps h=beR 1 1 ps [.slice none 0 0] h:=A1e (e:=113) (by kernel_rfl) (by kernel_rfl) (by kernel_rfl) (by kernel_rfl) ps h
@[simp] theorem ap_287(a b:Value)(h:A2):A6 A0 .append [287,287] [a,b] h=apR 1 24 a b h:=A54 (e:=113) (z:=.agg #[.slice none 0 0]) (by kernel_rfl) (by kernel_rfl) (by kernel_rfl) (by kernel_rfl) (by kernel_rfl) a b h
@[simp] theorem sl_287(x:Value)(lo hi mx:Option Value)(h:A2):A06 A0 287 x lo hi mx h=slS 1 x lo hi mx h:=B2l (e:=113) (by kernel_rfl) (by kernel_rfl) x lo hi mx h
theorem G9{k f:Nat}{args:List Value}{H:A2}{r:Res Value}(h1:(T k).c.sp f=none:=by kernel_rfl)(h2:(T k).ar f=false:=by kernel_rfl)(h3:nrm ((T k).md f H.n) H (bodyK (T k).c (R (T k)) f args H)=r:=by kernel_rfl):R (T k) f args H=r:=(B5s (A1g k) h1 h2 _ _).trans h3
end
end Go.Sw
