import Derived.Test.YtelpjfihadaomaaGreatDoorBmF
import Derived.Test.YtelpjfihadaomaaGreatDoorProg
import Derived.KernelRfl
namespace Go.Proofs.YtelpjfihadaomaaGreatDoor.R
noncomputable section
open Go Go.Bm Go.Proofs
set_option linter.unusedVariables false
set_option linter.unusedSimpArgs false
set_option maxRecDepth 100000
abbrev XPm:Type:=List UInt8 × Int
abbrev p8:CT:=(.prod .str (.int .i64))
abbrev XN:Type:=Int × Int × Int × Int × Int × List UInt8
abbrev XNc:CT:=(.prod (.int .i64) (.prod (.int .i64) (.prod (.int .i64) (.prod (.int .i64) (.prod (.int .i64) .str)))))
abbrev XK:Type:=Int × XPm
abbrev XKc:CT:=(.prod (.int .i64) p8)
abbrev XEq:Type:=List UInt8 × List XN
abbrev R3:CT:=(.prod .str (.list XNc))
abbrev XIt:Type:=Int × List UInt8 × Int × List XN × List XN × List (List XN)
abbrev o9:CT:=(.prod (.int .i64) (.prod .str (.prod (.int .i64) (.prod (.list XNc) (.prod (.list XNc) (.list (.list XNc)))))))
abbrev XUn:Type:=Bool × List UInt8 × List XPm × List UInt8 × Int × List XPm × List XEq × List XIt
abbrev n6:CT:=(.prod .bool (.prod .str (.prod (.list p8) (.prod .str (.prod (.int .i64) (.prod (.list p8) (.prod (.list R3) (.list o9))))))))
abbrev XPg:Type:=List XUn × List UInt8 × List UInt8
abbrev a6Y:CT:=(.prod (.list n6) (.prod .str .str))
def sq:List Nat → OrdT → OrdT
 | [],t => t
 | n :: r,t => bif Nat.beq (n % 2) 0 then .take (n / 2) (sq r t) else .only (n / 2) (sq r t)
def d3c:OrdT:=(.only 35 .done)
def d3d:OrdT:=(.take 34 d3c)
def d3e:OrdT:=(.take 33 d3d)
def d3f:OrdT:=(.only 32 d3e)
def d3g:OrdT:=(.take 31 d3f)
def d3h:OrdT:=(.take 30 d3g)
def d3i:OrdT:=(.only 29 d3h)
def d3j:OrdT:=(.take 28 d3i)
def d3k:OrdT:=(.take 27 d3j)
def d3l:OrdT:=(.only 26 d3k)
def d3m:OrdT:=(.take 25 d3l)
def d3n:OrdT:=(.take 24 d3m)
def c5Y:OrdT:=(.only 23 d3n)
def b0w:OrdT:=(.only 18 c5Y)
def X3:OrdT:=(.only 13 b0w)
def b6b:OrdT:=(.alt 18 (.only 22 c5Y) (.only 22 b0w))
def a1y:OrdT:=(.alt 13 (.only 17 b0w) (.only 17 X3))
def d3o:OrdT:=(.take 25 (.only 26 .done))
def d3p:OrdT:=(.only 23 (.take 24 d3o))
def d3q:OrdT:=(.take 21 (.take 22 d3p))
def d3r:OrdT:=(.take 19 (.only 20 d3q))
def X4:OrdT:=(.only 17 (.take 18 d3r))
def a1z:OrdT:=(.alt 13 b6b (.only 22 X3))
def a6j:OrdT:=(sq [28,30,33] .done)
def c5Z:OrdT:=(sq [22,24,26,29] .done)
def b6c:OrdT:=(sq [10,12,14,16,18,21,23] .done)
def c0i:OrdT:=(sq [8,12,14,16] (.alt 5 (.only 9 (.only 10 c5Z)) (sq [19,11,21] c5Z)))
def H2:OrdT:=(.only 8 X3)
def c0j:OrdT:=(sq [6,8,10,12,14,16,18,21,23,24] .done)
def c6a:OrdT:=(sq [3,4,6,8,10,12,16,18,20] (.alt 7 (sq [23,24,26,28] .done) (sq [23,24,15,26,28] .done)))
def c6b:OrdT:=(.take 20 (.take 21 (.alt 18 (sq [45,46,48,50,52,54,56] .done) (sq [45,37,46,48,50,52,54,56] .done))))
abbrev d0x:List SlT:=[.one (.pl (.list (.list XNc))),.one (.fn 154 [] [some 0])]
abbrev d9d:Tm:=⟨[],[.agg [.pl XNc],.one (.pl (.list (.int .i64)))]⟩
abbrev d9c:Tm:=⟨[],[.one (.pl (.list XKc)),.one (.pl (.int .i64))]⟩
abbrev oz2:List LT:=[.pl (.prod (.list XKc) (.prod (.int .i64) (.prod (.int .i64) (.int .i64))))]
abbrev d9b:Tm:=⟨[(true,.box oz2),(true,.arr p8)],[.one (.sl 1)]⟩
abbrev d9a:Tm:=⟨[],[.one (.pl (.list p8)),.one (.pl (.list p8))]⟩
abbrev d8Z:List SlT:=[.one (.ptr 0 0),.one (.pl (.int .i64)),.one (.pl (.int .i64))]
abbrev d8Y:Tm:=⟨[],[.one (.pl (.list (.list XNc))),.one (.fn 128 [] [])]⟩
abbrev d8X:Tm:=⟨[(true,.arr XNc)],[.one (.sl 0),.one (.pl (.list XNc))]⟩
abbrev oz9:List LT:=[.pl (.prod (.int .i64) (.int .i64))]
abbrev d2F:Tm:=⟨[],[.agg [.pl a6Y],.agg oz9]⟩
abbrev d8W:Tm:=⟨[(true,.gone),(true,.gone),(true,.arr XNc)],[.one (.sl 2)]⟩
abbrev d2E:List SlT:=[.one (.sl 0),.one (.pl (.int .i64))]
abbrev d8V:Tm:=⟨[(true,.box oz9),(true,.gone),(true,.arr XKc)],[.one (.sl 2)]⟩
abbrev d8U:List SlT:=[.one (.sl 0),.one (.pl (.int .i64)),.one (.sl 1),.one (.pl (.int .i64))]
abbrev d8T:Tm:=⟨[(true,.box oz2),(true,.gone),(true,.arr p8)],[.one (.sl 2)]⟩
abbrev d2D:Tm:=⟨[(true,.arr p8)],[.one (.sl 0)]⟩
abbrev d8S:List LT:=[.pl .bool,.pl .str,.sl 2,.pl .str,.pl (.int .i64),.sl 3,.sl 4,.sl 5]
abbrev d8R:List (Bool × ObT):=[(true,.box [.sl 2]),(true,.box [.sl 3]),(true,.arr .str),(true,.arr (.list XNc))]
abbrev d2C:Tm:=⟨[],[.agg [.pl a6Y],.one (.pl .str)]⟩
abbrev d8Q:Tm:=⟨[],[.one (.pl (.list XNc)),.one (.pl (.int .i64)),.one (.pl (.int .i64))]⟩
abbrev d8P:List SlT:=[.one (.sl 0),.one (.pl (.list XNc)),.one (.pl (.int .i64)),.one (.pl (.int .i64))]
abbrev c1D:Tm:=⟨[],[.agg [.pl n6]]⟩
abbrev d2B:List (Bool × ObT):=[(true,.box [.pl a6Y]),(true,.box [.pl n6])]
abbrev d2A:List (Bool × ObT):=[(true,.box [.pl XNc]),(true,.arr (.int .i64))]
abbrev b1S:List LT:=[.sl 3,.pl .str,.pl .str]
abbrev d8O:List (Bool × ObT):=[(true,.box b1S),(true,.box [.pl n6]),(true,.gone),(true,.arr n6),(true,.arr o9)]
abbrev c1C:List LT:=[.sl 5,.pl .str,.pl .str]
abbrev c1B:List LT:=[.sl 0,.pl .str,.pl .str]
abbrev d2z:Tm:=⟨[],[.one (.pl (.list .str)),.one (.pl .str)]⟩
abbrev b8j:List (Bool × ObT):=[(true,.box [.pl o9])]
abbrev b3E:List (Bool × ObT):=[(true,.arr .str)]
abbrev b3D:List (Bool × ObT):=[(true,.arr o9)]
abbrev d8N:Tm:=⟨[(true,.arr XNc),(true,.gone),(true,.arr (.int .i64)),(true,.arr XNc)],[.one (.sl 3)]⟩
abbrev d8M:Tm:=⟨[],[.one (.pl (.list .str)),.one (.pl .str),.one (.pl (.int .i64)),.one (.pl (.int .i64))]⟩
abbrev b3C:List LT:=[.pl (.list .str)]
abbrev c4G:List SlT:=[.one (.sl 1),.one (.pl (.int .i64))]
abbrev d8L:List (Bool × ObT):=[(true,.box b1S),(true,.box oz9),(true,.box [.sl 4,.pl .str,.pl .str]),(true,.arr n6),(true,.arr n6)]
abbrev d8K:Tm:=⟨[],[.one (.pl (.int .i64)),.one (.pl (.int .i64)),.one (.pl .str),.one (.pl (.list (.list XNc)))]⟩
abbrev b8i:List LT:=[.pl (.list (.list XNc))]
abbrev d2y:List SlT:=[.one (.pl (.list XNc)),.one (.ptr 0 0),.one (.ptr 1 0)]
abbrev d2x:List SlT:=[.one (.pl (.list XNc)),.one (.sl 0),.one (.pl (.int .i64))]
abbrev b5m:List (Bool × ObT):=[(true,.box [.pl .str])]
abbrev d2w:List (Bool × ObT):=[(true,.arr .bool),(true,.box [.pl XNc]),(true,.arr (.int .i64))]
abbrev d2v:List SlT:=[.one (.eptr 0 0),.one (.pl (.int .i64)),.one (.pl (.int .i64))]
abbrev a9Y:List (Bool × ObT):=[(true,.arr n6)]
abbrev oz1:List LT:=[.pl (.prod (.list XKc) (.prod (.int .i64) (.prod (.int .i64) (.prod (.int .i64) (.int .i64)))))]
abbrev a8N:List (Bool × ObT):=[(true,.box oz1)]
abbrev c1A:Tm:=⟨[(true,.box oz2),(true,.gone)],[]⟩
abbrev c1z:List (Bool × ObT):=[(true,.arr o9),(true,.box [.pl o9])]
abbrev c1y:List SlT:=[.one (.pl (.list XNc)),.one (.pl .bool)]
abbrev d2u:List (Bool × ObT):=[(true,.box [.sl 2,.pl .str,.pl .str]),(true,.box [.pl n6]),(true,.arr n6)]
abbrev d2t:Tm:=⟨a9Y,[.agg c1B,.one (.pl (.int .i64))]⟩
abbrev b5l:List SlT:=[.one (.ptr 0 0),.one (.sl 1)]
abbrev a9X:Tm:=⟨[],[.agg [.pl XNc]]⟩
abbrev d2s:Tm:=⟨[],[.one (.pl (.list XNc)),.one (.pl (.list .str)),.one (.pl (.list (.list XNc)))]⟩
abbrev a9W:Tm:=⟨[],[.agg [.pl a6Y]]⟩
abbrev d2r:List (Bool × ObT):=[(true,.box b1S),(true,.box [.pl (.int .i64)]),(true,.map .str n6 true),(true,.arr n6)]
abbrev d8J:List (Bool × ObT):=[(true,.box [.pl .bool,.pl .str,.pl (.list p8),.pl .str,.pl (.int .i64),.pl (.list p8),.sl 3,.sl 4]),(true,.box [.pl n6]),(true,.arr p8),(true,.arr R3),(true,.arr o9)]
abbrev d2q:List LT:=[.pl .bool,.pl .str,.pl (.list p8),.pl .str,.pl (.int .i64),.pl (.list p8),.sl 9,.sl 10]
abbrev b1Y:List (Bool × ObT):=[(true,.box [.fn 90 [] []])]
abbrev b1X:List (Bool × ObT):=[(true,.box [.fn 88 [] []])]
abbrev b1W:List (Bool × ObT):=[(true,.box [.fn 86 [] []])]
abbrev b1V:List (Bool × ObT):=[(true,.box [.fn 45 [] []])]
abbrev b1U:List (Bool × ObT):=[(true,.box [.fn 119 [] []])]
abbrev b3B:List SlT:=[.one (.ptr 0 0),.one (.pl .str)]
abbrev d2p:List LT:=[.pl .bool,.pl .str,.pl (.list p8),.pl .str,.pl (.int .i64),.pl (.list p8),.pl (.list R3),.sl 11]
abbrev c1x:List (Bool × ObT):=[(true,.box [.sl 1,.pl .str,.pl .str]),(true,.arr n6)]
abbrev b8h:List (Bool × ObT):=[(true,.box [.pl n6]),(true,.box [.pl n6])]
abbrev b8g:List (Bool × ObT):=[(true,.box [.pl a6Y]),(true,.box [.pl a6Y])]
abbrev b8f:Tm:=⟨[],[.one (.pl .str),.one (.pl (.int .i64))]⟩
abbrev a7c:List (Bool × ObT):=[(true,.box [.pl n6])]
abbrev a5M:Tm:=⟨[],[.one (.pl .str)]⟩
abbrev a9V:Tm:=⟨[],[.one (.pl (.list XNc))]⟩
abbrev b8e:Tm:=⟨[(true,.gone),(true,.arr XNc)],[.one (.sl 1)]⟩
abbrev a1n:List (Bool × ObT):=[(true,.box oz2)]
abbrev d8I:List (Bool × ObT):=[(true,.box [.mp 4,.mp 5,.mp 6,.sl 8]),(true,.box [.pl o9]),(true,.box b3C),(true,.box b8i),(true,.map .str n6 true),(true,.map .str .bool false),(true,.map .str .bool false),(true,.gone),(true,.arr o9)]
abbrev a5L:List (Bool × ObT):=[(true,.arr (.int .i64))]
abbrev b1T:Tm:=⟨[(true,.arr XNc)],[.one (.sl 0)]⟩
abbrev b5k:List SlT:=[.one (.pl (.list XNc)),.one (.pl (.int .i64))]
abbrev c1w:Tm:=⟨[(true,.box oz1),(true,.gone),(true,.arr XNc)],[.one (.sl 2)]⟩
abbrev c1v:Tm:=⟨[(true,.box oz1),(false,.arr XNc)],b5l⟩
abbrev a3R:List (Bool × ObT):=[(true,.box [.pl a6Y])]
abbrev a1m:List SlT:=[.one (.pan 27 .i64)]
abbrev b5j:List SlT:=[.one (.ptr 0 0),.one (.ptr 1 0),.one (.pl (.int .i64))]
abbrev d8H:List (Bool × ObT):=[(true,.box [.mp 5,.mp 6,.mp 7,.sl 8]),(true,.box [.pl n6]),(true,.box d2q),(true,.map .str .bool false),(true,.arr p8),(true,.map .str n6 true),(true,.map .str .bool false),(true,.map .str .bool false),(true,.arr o9),(true,.arr R3),(true,.arr o9)]
abbrev b1R:List (Bool × ObT):=[(true,.arr (.int .i64)),(true,.arr (.int .i64))]
abbrev a7b:Tm:=⟨a8N,[.one (.ptr 0 0)]⟩
abbrev d2o:List (Bool × ObT):=[(true,.box [.mp 3,.mp 4,.mp 5,.sl 6]),(true,.map .str .bool false),(true,.map .str .bool false),(true,.map .str n6 true),(true,.map .str .bool false),(true,.map .str .bool false),(true,.arr o9)]
abbrev c4F:List (Bool × ObT):=[(true,.zip o9 [.pl (.int .i64),.pl .str,.pl (.int .i64),.sl 1,.sl 2,.sl 3]),(true,.arr XNc),(true,.arr XNc),(true,.arr (.list XNc))]
abbrev a5K:Tm:=⟨a1n,[.one (.ptr 0 0)]⟩
abbrev b8d:List (Bool × ObT):=[(true,.box [.sl 1,.pl (.int .i64),.pl (.int .i64),.pl (.int .i64)]),(true,.arr XKc)]
abbrev d2n:List (Bool × ObT):=[(true,.box [.mp 4,.mp 5,.mp 6,.sl 7]),(true,.box [.pl n6]),(true,.map .str .bool false),(true,.arr p8),(true,.map .str n6 true),(true,.map .str .bool false),(true,.map .str .bool false),(true,.arr o9)]
abbrev a3Q:List SlT:=[.one (.ptr 0 0),.one (.pl (.int .i64))]
abbrev oz8:Tm:=⟨[(true,.box oz1),(true,.arr XNc)],[.one (.sl 1)]⟩
abbrev oz7:List (Bool × ObT):=[(true,.box [.mp 1,.mp 2,.mp 3,.sl 5]),(true,.map .str n6 true),(true,.map .str .bool false),(true,.map .str .bool false),(true,.gone),(true,.arr o9)]
abbrev oz6:List (Bool × ObT):=[(true,.zip n6 [.pl .bool,.pl .str,.sl 1,.pl .str,.pl (.int .i64),.sl 2,.sl 3,.sl 4]),(true,.arr p8),(true,.arr p8),(true,.arr R3),(true,.arr o9)]
abbrev oz5:List SlT:=[.one (.pl (.int .i64))]
abbrev oz4:List SlT:=[.one (.pl .bool)]
abbrev oz3:List (Bool × ObT):=[(true,.box [.mp 1,.mp 2,.mp 3,.sl 4]),(true,.map .str n6 true),(true,.map .str .bool false),(true,.map .str .bool false),(true,.arr o9)]
def b8D:Tabs:={
 tabL:=[(3,.leaf (.int .i64 0)),
 (4,.leaf (.bool false)),
 (5,.leaf (.int .u8 0)),
 (9,.leaf (.str [])),
 (21,.leaf (.int .i32 0)),
 (22,.slice n6 41),
 (24,.struct [(0,1,false),(1,1,false),(2,1,false)] [.nils,.str [],.str []]),
 (27,.leaf (.int .i64 0)),
 (29,.struct [(0,1,false),(1,1,false)] [.int .i64 0,.int .i64 0]),
 (35,.slice p8 37),
 (37,.struct [(0,1,false),(1,1,false)] [.str [],.int .i64 0]),
 (38,.slice R3 49),
 (39,.slice o9 46),
 (41,.struct [(0,1,false),(1,1,false),(2,1,false),(3,2,true),(5,1,false),(6,1,false),(7,1,false)] [.bool false,.str [],.nils,.str [],.int .i64 0,.nils,.nils,.nils]),
 (43,.slice XNc 55),
 (44,.slice (.list XNc) 43),
 (46,.struct [(0,1,false),(1,1,false),(2,1,false),(3,1,false),(4,1,false),(5,1,false)] [.int .i64 0,.str [],.int .i64 0,.nils,.nils,.nils]),
 (49,.struct [(0,1,false),(1,1,false)] [.str [],.nils]),
 (55,.struct [(0,1,false),(1,1,false),(2,1,false),(3,1,false),(4,1,false),(5,1,false)] [.int .i64 0,.int .i64 0,.int .i64 0,.int .i64 0,.int .i64 0,.str []]),
 (57,.map .str n6 true),
 (59,.map .str .bool false),
 (61,.struct [(0,1,false),(1,1,false),(2,1,false),(3,1,false)] [.nilm,.nilm,.nilm,.nils]),
 (70,.leaf (.nilf)),
 (72,.slice XKc 108),
 (77,.struct [(0,1,false),(1,1,false),(2,2,true)] [.nils,.int .i64 0,.int .i64 0,.int .i64 0]),
 (104,.leaf (.nilf)),
 (105,.leaf (.nilf)),
 (106,.leaf (.nilf)),
 (108,.struct [(0,1,false),(1,1,false),(2,1,false)] [.int .i64 0,.str [],.int .i64 0]),
 (120,.leaf (.nilf)),
 (123,.slice .str 9),
 (145,.slice (.int .i64) 3),
 (150,.slice .bool 4),
 (165,.leaf (.int .u64 0)),
 (171,.leaf (.nilp)),
 (172,.slice .unit 171),
 (182,.struct [(0,1,false),(1,1,false),(2,1,false),(3,2,true)] [.nils,.int .i64 0,.int .i64 0,.int .i64 0,.int .i64 0])]
 eqtL:=[29,37,55]
 keysL:=[(3,[0]),(4,[184]),(5,[185]),(6,[187]),(7,[188]),(8,[1]),(9,[2]),(10,[66]),(11,[144]),(12,[179]),(13,[141]),(14,[161,183]),(15,[166,169]),(16,[186]),(17,[155]),(18,[145]),(19,[3]),(20,[68]),(21,[113]),(23,[122]),(24,[123]),(25,[140]),(26,[160]),(27,[178]),(28,[180]),(29,[79,142]),(30,[143]),(31,[156]),(32,[12]),(33,[146]),(34,[4]),(35,[15,22]),(36,[17,29]),(37,[20]),(38,[28]),(39,[24]),(40,[21]),(41,[16,23]),(42,[18,26]),(43,[69]),(44,[77]),(45,[81]),(46,[114]),(47,[115]),(48,[116]),(49,[117]),(50,[118]),(51,[121]),(52,[124]),(53,[125]),(54,[134]),(55,[137]),(56,[138]),(57,[162]),(58,[163]),(59,[164]),(60,[175]),(61,[181]),(62,[182]),(63,[157]),(64,[8]),(65,[10]),(66,[6]),(67,[147]),(68,[148]),(69,[149]),(70,[154]),(71,[5]),(72,[27]),(73,[31]),(74,[30]),(75,[64]),(76,[65]),(77,[25]),(78,[19]),(79,[70]),(81,[71]),(82,[72]),(83,[78]),(84,[80]),(85,[82]),(86,[86]),(87,[87]),(88,[91]),(89,[104]),(90,[108]),(91,[119]),(92,[126]),(93,[128,135,136]),(94,[129]),(95,[93]),(97,[139]),(98,[165]),(99,[168]),(100,[174]),(101,[176]),(102,[158]),(103,[11]),(104,[150]),(105,[7]),(106,[9]),(107,[13]),(108,[32]),(109,[33]),(110,[34]),(114,[73]),(115,[83]),(116,[85]),(117,[88]),(118,[90]),(119,[92]),(120,[105]),(121,[107]),(122,[109]),(123,[120]),(124,[95]),(125,[127]),(126,[96]),(127,[110,130]),(128,[132]),(129,[133]),(130,[94]),(131,[97]),(132,[99]),(133,[167]),(134,[47]),(135,[170]),(136,[177]),(137,[159]),(138,[151]),(139,[152]),(140,[49]),(141,[153]),(142,[62]),(143,[14]),(144,[63]),(145,[35]),(147,[74]),(148,[76]),(149,[84]),(150,[89]),(151,[103]),(152,[101]),(153,[106]),(154,[112]),(155,[111,131]),(156,[98]),(157,[100]),(158,[48]),(159,[50]),(160,[52]),(161,[171]),(162,[36]),(163,[75]),(164,[102]),(165,[51]),(166,[172]),(167,[37]),(168,[54]),(169,[61]),(170,[173]),(171,[38]),(172,[55]),(173,[39]),(174,[40]),(175,[41]),(176,[42]),(177,[43]),(178,[44]),(179,[45]),(180,[46]),(181,[53]),(182,[58]),(183,[59]),(184,[57]),(185,[60]),(186,[56])]
 a7X:=[70,137]
 dfL:=[(66,(19,[2,3],67))]
 gp:=c2N 0
 gvL:=[(0,⟨(.list .str),s6⟩)]
 lendL:=[163,167]
 kinL:=[d2C,
 a9W,
 ⟨[],[]⟩,
 a5M,
 a5M,
 b8f,
 ⟨[],[.one (.pl (.int .u8))]⟩,
 a5M,
 ⟨[],[.one (.pl (.int .u8))]⟩,
 b8f,
 a5M,
 ⟨[],[]⟩,
 a5M,
 a5M,
 ⟨[],[]⟩,
 ⟨b8d,b3B⟩,
 ⟨b8d,[.one (.ptr 0 0)]⟩,
 ⟨b8d,a3Q⟩,
 ⟨b8d,a3Q⟩,
 d9c,
 a5K,
 ⟨a1n,b3B⟩,
 ⟨a1n,b3B⟩,
 a5K,
 a5K,
 a5K,
 ⟨a1n,a3Q⟩,
 a5K,
 ⟨a1n,b3B⟩,
 ⟨a1n,a3Q⟩,
 a5K,
 a5K,
 a5K,
 a5K,
 a5K,
 d9c,
 a7b,
 a7b,
 a7b,
 a7b,
 a7b,
 a7b,
 a7b,
 a7b,
 a7b,
 ⟨a8N,a3Q⟩,
 ⟨a8N,[.one (.ptr 0 0),.agg [.pl XKc]]⟩,
 d8K,
 ⟨[],[.one (.pl (.int .i64)),.one (.pl (.int .i64)),.one (.pl .str)]⟩,
 a9X,
 d8X,
 ⟨[],[.agg [.pl XNc],.one (.pl (.int .i64))]⟩,
 d9d,
 ⟨a8N,b3B⟩,
 ⟨a8N,b3B⟩,
 ⟨a8N,b3B⟩,
 a7b,
 ⟨a8N,b3B⟩,
 a5M,
 a7b,
 a7b,
 ⟨a8N,[.one (.ptr 0 0),.one (.pl (.int .i64)),.one (.pl (.list XNc)),.one (.pl (.list XNc))]⟩,
 a9V,
 a5K,
 a5K,
 a5K,
 a9W,
 ⟨[],[.one (.nilp),.one (.nilp),.one (.nilp)]⟩,
 a9W,
 a5M,
 ⟨[],[.one (.pl .str),.one (.fn 80 [] [])]⟩,
 ⟨[],[.one (.pl (.int .i32))]⟩,
 a5M,
 d2z,
 ⟨[],[.one (.pl .str),.one (.pl .str)]⟩,
 a5M,
 a5M,
 ⟨[],[.one (.pl (.list n6)),.one (.fn 45 [] [])]⟩,
 ⟨b1V,[.one (.pl (.list n6)),.one (.fn 84 [] [some 0])]⟩,
 ⟨b1V,[.one (.pl (.list n6)),.one (.fn 84 [] [some 0])]⟩,
 ⟨b1V,[.agg [.pl n6],.one (.ptr 0 0)]⟩,
 c1D,
 ⟨[],[.one (.pl (.list p8)),.one (.fn 86 [] [])]⟩,
 ⟨b1W,[.one (.pl (.list p8)),.one (.fn 116 [] [some 0])]⟩,
 ⟨b1W,[.one (.pl (.list p8)),.one (.fn 116 [] [some 0])]⟩,
 ⟨b1W,[.agg [.pl p8],.one (.ptr 0 0)]⟩,
 ⟨[],[.agg [.pl p8]]⟩,
 ⟨[],[.one (.pl (.list R3)),.one (.fn 88 [] [])]⟩,
 ⟨b1X,[.one (.pl (.list R3)),.one (.fn 118 [] [some 0])]⟩,
 ⟨b1X,[.one (.pl (.list R3)),.one (.fn 118 [] [some 0])]⟩,
 ⟨b1X,[.agg [.pl R3],.one (.ptr 0 0)]⟩,
 ⟨[],[.agg [.pl R3]]⟩,
 a9V,
 a9V,
 a9X,
 a9X,
 d9d,
 ⟨[],[.one (.pl (.list .bool)),.one (.pl .bool)]⟩,
 ⟨[],[.one (.pl (.list .bool)),.one (.pl .bool)]⟩,
 a9V,
 a9V,
 ⟨[],[.one (.pl (.list XNc)),.one (.fn 151 [] [])]⟩,
 ⟨[],[.one (.pl (.list XNc)),.one (.fn 151 [] [])]⟩,
 a9X,
 ⟨[],[.one (.pl (.list o9)),.one (.fn 90 [] [])]⟩,
 ⟨b1Y,[.one (.pl (.list o9)),.one (.fn 121 [] [some 0])]⟩,
 ⟨b1Y,[.one (.pl (.list o9)),.one (.fn 121 [] [some 0])]⟩,
 ⟨b1Y,[.agg [.pl o9],.one (.ptr 0 0)]⟩,
 ⟨[],[.agg [.pl o9]]⟩,
 ⟨[],[.one (.pl (.list (.list XNc))),.one (.fn 119 [] [])]⟩,
 ⟨b1U,d0x⟩,
 ⟨b1U,d0x⟩,
 ⟨b1U,[.one (.pl (.list XNc)),.one (.ptr 0 0)]⟩,
 a9W,
 ⟨[],[.one (.pl (.list n6))]⟩,
 ⟨[],[.one (.pl (.list p8))]⟩,
 ⟨[],[.one (.pl (.list R3))]⟩,
 ⟨[],[.one (.pl (.list o9))]⟩,
 a9V,
 ⟨[],b5k⟩,
 ⟨[(true,.arr XNc)],[.one (.sl 0),.one (.pl (.list XNc)),.one (.pl (.int .i64))]⟩,
 ⟨[],[.one (.pl (.list (.list XNc)))]⟩,
 ⟨oz3,[.one (.ptr 0 0),.agg [.pl n6]]⟩,
 ⟨[],[.one (.pl .bool),.one (.pl (.int .i64))]⟩,
 ⟨oz3,[.one (.ptr 0 0),.one (.pl (.list XNc))]⟩,
 ⟨oz3,[.one (.ptr 0 0),.agg [.pl o9]]⟩,
 d8K,
 d8X,
 ⟨d8R,d2y⟩,
 d2s,
 d8Y,
 d8Y,
 a9V,
 d2z,
 ⟨oz3,[.one (.ptr 0 0),.agg [.pl o9]]⟩,
 ⟨[(true,.box b3C),(true,.box [.sl 2]),(true,.arr (.list XNc))],d2y⟩,
 ⟨[(true,.box b3C),(true,.box b8i)],d2y⟩,
 ⟨[(true,.map .str .bool false)],[.one (.mp 0)]⟩,
 ⟨oz3,[.one (.ptr 0 0),.one (.pl (.list XNc))]⟩,
 ⟨[],[.one (.pl (.list XNc)),.agg [.pl XNc]]⟩,
 d9a,
 d2C,
 ⟨b5m,[.one (.pl (.list n6)),.one (.fn 30 [] [some 0])]⟩,
 ⟨b5m,[.agg [.pl n6],.one (.ptr 0 0)]⟩,
 a9W,
 a9W,
 c1D,
 ⟨[],[.one (.pl (.list p8))]⟩,
 ⟨[],[.agg [.pl p8]]⟩,
 a9V,
 a9V,
 a9X,
 a9X,
 ⟨[],b5k⟩,
 ⟨[],[.agg [.pl o9]]⟩,
 a9W,
 c1D,
 a9V,
 ⟨[],b5k⟩,
 ⟨[(true,.arr XNc)],[.one (.pl (.list XNc)),.one (.pl (.int .i64)),.one (.sl 0)]⟩,
 d2t,
 ⟨a9Y,[.agg c1B,.one (.pl .str)]⟩,
 c1D,
 ⟨[],[.one (.pl (.list p8)),.one (.pl .str)]⟩,
 d2t,
 ⟨b3D,[.agg [.pl o9],.one (.pl (.list p8)),.one (.sl 0)]⟩,
 ⟨b3D,[.one (.sl 0)]⟩,
 ⟨[],[.one (.pl (.list XNc)),.one (.pl (.list p8)),.one (.pl (.list p8))]⟩,
 ⟨b3D,[.agg [.pl n6],.agg [.pl o9],.one (.pl (.list p8)),.one (.sl 0)]⟩,
 ⟨[],[.one (.pl (.list o9))]⟩,
 ⟨[],[.agg [.pl o9],.one (.pl .str),.one (.pl (.list .str)),.one (.pl (.list (.list XNc)))]⟩,
 d2s,
 d2s,
 d2z,
 ⟨b3D,[.one (.pl (.list p8)),.one (.sl 0),.agg [.pl o9]]⟩,
 d2t,
 ⟨a9Y,[.agg c1B,.one (.pl (.int .i64)),.one (.pl (.list XNc))]⟩,
 ⟨[],b5k⟩,
 d9a,
 ⟨[],[.agg [.pl a6Y],.agg [.pl a6Y]]⟩,
 ⟨[],[.agg [.pl n6],.agg [.pl n6]]⟩,
 ⟨[],[.one (.pl (.list XNc)),.one (.pl (.list XNc))]⟩,
 ⟨[],[.one (.pl (.list (.list XNc))),.one (.pl (.list (.list XNc)))]⟩,
 d2C,
 a9W,
 a9W,
 ⟨[],[.one (.pl (.list XNc)),.one (.pl (.list p8))]⟩,
 a9W,
 ⟨[],[.agg [.pl a6Y],.one (.pl (.int .i64))]⟩]
 koutsL:=[[⟨[],oz4⟩],
 [⟨[],oz4⟩],
 [⟨[],oz4⟩],
 [d2F],
 [⟨[(true,.arr XKc)],[.one (.sl 0),.agg oz9]⟩],
 [⟨[],[.agg [.pl XKc],.one (.pl (.int .i64))]⟩],
 [⟨[],oz4⟩],
 [⟨[],oz5⟩],
 [⟨[],oz4⟩],
 [⟨[],[.agg [.pl XKc],.one (.pl (.int .i64))]⟩],
 [⟨[],oz4⟩],
 [⟨b3E,[.one (.sl 0)]⟩],
 [⟨[],oz4⟩],
 [a5M],
 [⟨b3E,[.one (.sl 0)]⟩],
 [⟨b8d,oz4⟩],
 [⟨b8d,oz4⟩],
 [c1A],
 [c1A],
 [⟨[],oz5⟩],
 [⟨a1n,[.agg [.pl n6]]⟩],
 [⟨a1n,oz4⟩],
 [⟨a1n,oz4⟩],
 [⟨a1n,oz4⟩],
 [⟨a1n,[.one (.pl .str)]⟩],
 [⟨a1n,oz4⟩],
 [⟨a1n,[]⟩],
 [d9b],
 [⟨a1n,[]⟩],
 [⟨a1n,[]⟩],
 [⟨a1n,[.agg [.pl p8]]⟩],
 [⟨[(true,.box oz2),(true,.arr o9)],[.one (.sl 1)]⟩],
 [⟨a1n,oz4⟩],
 [⟨a1n,[.agg [.pl o9],.one (.pl .bool)]⟩],
 [⟨a1n,[.one (.pl (.list XNc))]⟩],
 [⟨[],[.one (.pl (.list XNc)),.one (.pl (.int .i64)),.agg oz9]⟩],
 [oz8],
 [oz8],
 [oz8],
 [oz8],
 [oz8],
 [oz8],
 [oz8],
 [oz8],
 [oz8],
 [oz8],
 [oz8],
 [b1T],
 [a9X],
 [⟨a5L,[.one (.sl 0)]⟩],
 [b8e],
 [a9X],
 [a9X],
 [oz8],
 [⟨a8N,oz4⟩],
 [⟨a8N,oz4⟩],
 [⟨[(true,.box oz1),(true,.arr (.list XNc))],[.one (.sl 1)]⟩],
 [⟨a8N,[]⟩],
 [⟨[],oz5⟩],
 [oz8],
 [oz8],
 [oz8],
 [⟨[],oz5⟩],
 [⟨[(true,.box oz2),(true,.arr (.list XNc))],[.one (.sl 1)]⟩],
 [d9b],
 [⟨[(true,.box oz2),(true,.arr R3)],[.one (.sl 1)]⟩],
 [d2F],
 [],
 [⟨[],oz4⟩],
 [⟨[],oz4⟩],
 [a5M],
 [⟨[],oz4⟩],
 [⟨[],oz4⟩],
 [⟨[],[.one (.pl (.int .i64)),.one (.pl .bool)]⟩],
 [⟨[],oz4⟩],
 [⟨[],oz4⟩],
 [⟨[],oz4⟩],
 [⟨[],oz4⟩],
 [⟨b1V,oz4⟩],
 [⟨b1V,oz5⟩],
 [⟨b1V,oz4⟩],
 [⟨[],oz4⟩],
 [⟨[],oz4⟩],
 [⟨b1W,oz4⟩],
 [⟨b1W,oz5⟩],
 [⟨b1W,oz4⟩],
 [⟨[],oz4⟩],
 [⟨[],oz4⟩],
 [⟨b1X,oz4⟩],
 [⟨b1X,oz5⟩],
 [⟨b1X,oz4⟩],
 [⟨[],oz4⟩],
 [⟨[],oz4⟩],
 [⟨[],oz4⟩],
 [⟨[],oz4⟩],
 [⟨a5L,[.one (.sl 0)]⟩],
 [a9X],
 [⟨[],oz4⟩],
 [⟨[],oz5⟩],
 [⟨[],oz5⟩],
 [⟨a5L,[.one (.sl 0)]⟩],
 [⟨[],oz4⟩],
 [⟨[],oz5⟩],
 [⟨[],oz4⟩],
 [⟨[],oz4⟩],
 [⟨b1Y,oz4⟩],
 [⟨b1Y,oz5⟩],
 [⟨b1Y,oz4⟩],
 [⟨[],oz4⟩],
 [⟨[],oz4⟩],
 [⟨b1U,oz4⟩],
 [⟨b1U,oz5⟩],
 [⟨b1U,oz4⟩],
 [⟨a9Y,[.agg c1B]⟩],
 [⟨a9Y,[.one (.sl 0)]⟩],
 [d2D],
 [⟨[(true,.arr R3)],[.one (.sl 0)]⟩],
 [⟨b3D,[.one (.sl 0)]⟩],
 [b1T],
 [b1T],
 [b8e],
 [⟨[(true,.arr (.list XNc))],[.one (.sl 0)]⟩],
 [⟨oz3,a1m⟩,⟨oz7,a1m⟩,⟨[(true,.box [.mp 1,.mp 2,.mp 3,.pl (.list o9)]),(true,.map .str n6 true),(true,.map .str .bool false),(true,.map .str .bool false),(true,.gone)],[.agg [.pl n6]]⟩],
 [⟨[],a1m⟩,⟨[],[]⟩],
 [⟨oz3,a1m⟩,⟨oz3,[]⟩],
 [⟨oz3,a1m⟩,⟨oz7,a1m⟩,⟨oz7,[]⟩],
 [b1T],
 [b8e],
 [⟨d8R,c1y⟩,⟨[(true,.box b3C),(true,.box b8i),(true,.gone),(true,.gone)],c1y⟩],
 [b1T],
 [⟨[],oz4⟩],
 [⟨[],oz5⟩],
 [⟨[],oz4⟩],
 [⟨[],oz5⟩],
 [⟨oz3,a1m⟩,⟨oz7,[]⟩],
 [⟨[(true,.box b3C),(true,.box [.sl 2]),(true,.arr (.list XNc))],c1y⟩,⟨[(true,.box b3C),(true,.box b8i),(true,.gone)],c1y⟩],
 [⟨[(true,.box b3C),(true,.box b8i)],c1y⟩],
 [⟨[(true,.map .str .bool false),(true,.map .str .bool false)],[.one (.mp 1)]⟩],
 [⟨oz3,a1m⟩,⟨oz3,[]⟩],
 [⟨[],oz5⟩],
 [⟨[],oz4⟩],
 [⟨[],oz5⟩],
 [⟨b5m,oz5⟩],
 [⟨b5m,oz4⟩],
 [d2F],
 [⟨[],oz4⟩],
 [⟨[],oz4⟩],
 [⟨[],oz4⟩],
 [⟨[],oz4⟩],
 [⟨[],oz4⟩],
 [⟨[],oz4⟩],
 [⟨[],oz4⟩],
 [⟨[],oz4⟩],
 [⟨[],oz4⟩],
 [⟨[],oz4⟩],
 [⟨a9Y,[.agg c1B]⟩],
 [c1D],
 [b1T],
 [b1T],
 [b8e],
 [⟨a9Y,[.agg [.pl n6],.one (.pl (.int .i64))]⟩],
 [⟨a9Y,oz5⟩],
 [d2D],
 [⟨[],oz4⟩],
 [⟨[(true,.arr n6),(true,.arr o9)],c4G⟩],
 [⟨b3D,oz5⟩],
 [⟨[(true,.arr o9),(true,.arr p8)],[.one (.sl 1)]⟩],
 [⟨[],oz5⟩],
 [⟨b3D,d2E⟩,⟨[(true,.gone),(true,.arr o9)],c4G⟩],
 [d2D],
 [⟨[],[.agg [.pl o9],.one (.pl (.int .i64))]⟩],
 [⟨[],b5k⟩],
 [b1T],
 [⟨[],oz5⟩],
 [⟨b3D,d2E⟩,⟨[(true,.gone),(true,.arr o9)],c4G⟩],
 [⟨a9Y,oz5⟩],
 [⟨a9Y,oz5⟩],
 [⟨[],oz5⟩],
 [⟨[],oz4⟩],
 [⟨[],oz4⟩],
 [⟨[],oz4⟩],
 [⟨[],oz4⟩],
 [⟨[],oz4⟩],
 [⟨[],oz5⟩],
 [⟨[],oz4⟩],
 [⟨[],oz4⟩],
 [⟨[],oz4⟩],
 [⟨[],oz4⟩],
 [⟨[],oz4⟩]]
 bkL:=[⟨[1,3],⟨a3R,a3Q⟩,[],[(.ret,[2],⟨a3R,oz4⟩),(.norm,[],⟨a3R,[]⟩)]⟩,
 ⟨[4,5],⟨a7c,a3Q⟩,[1,3,4],[(.ret,[2],⟨a7c,oz4⟩),(.norm,[],⟨a7c,[]⟩)]⟩,
 ⟨[4,6],⟨a7c,a3Q⟩,[1,3],[(.ret,[2],⟨a7c,oz4⟩),(.norm,[],⟨a7c,[]⟩)]⟩,
 ⟨[7,8],⟨b8j,a3Q⟩,[4,6],[(.ret,[2],⟨b8j,oz4⟩),(.norm,[],⟨b8j,[]⟩)]⟩,
 a7,
 a7,
 ⟨[0,6],b8f,[0,1,4,5],[(.norm,[6],⟨[],oz5⟩)]⟩,
 ⟨[0,3,4],⟨[],[.one (.pl .str),.one (.pl (.int .i64)),.one (.pl (.int .i64))]⟩,[2],[(.norm,[3],⟨[],oz5⟩)]⟩,
 ⟨[0,6],b8f,[0,1,4,5],[(.norm,[6],⟨[],oz5⟩)]⟩,
 ⟨[0,3,4],⟨b3E,[.one (.pl .str),.one (.sl 0),.one (.pl (.int .i64))]⟩,[],[(.ret,[2],⟨b3E,oz4⟩),(.norm,[],⟨b3E,[]⟩)]⟩,
 ⟨[0,3],b8f,[],[(.ret,[2],⟨[],oz4⟩),(.norm,[],⟨[],[]⟩)]⟩,
 ⟨[0,3,4],⟨b3E,[.one (.pl .str),.one (.sl 0),.one (.pl (.int .i64))]⟩,[],[(.ret,[2],⟨b3E,[.one (.pl .str)]⟩),(.norm,[],⟨b3E,[]⟩)]⟩,
 ⟨[0,3,4,5],⟨[(true,.box oz9),(false,.arr XKc)],[.one (.pl .str),.one (.ptr 0 0),.one (.sl 1),.one (.pl (.int .i64))]⟩,[3],[(.ret,[2],d8V),(.norm,[4],d8V)]⟩,
 ⟨[0,5],b8f,[0,2,3,4],[(.norm,[5],⟨[],oz5⟩)]⟩,
 a7,
 a7,
 a7,
 ⟨[0,3],⟨[(true,.box oz2),(false,.arr p8)],b5l⟩,[],[(.ret,[2],d8T),(.norm,[],c1A)]⟩,
 a7,
 a7,
 a7,
 a7,
 ⟨[0,1,5,6],⟨[(false,.arr XNc)],d8P⟩,[4],[(.norm,[0],b8e)]⟩,
 ⟨[0,3,11,12,13,14],⟨[(false,.arr XNc),(false,.arr (.int .i64))],[.one (.pl (.int .i64)),.one (.pl (.list (.list XNc))),.one (.sl 0),.one (.sl 1),.one (.pl (.int .i64)),.one (.pl (.int .i64))]⟩,[0,9],[(.ret,[8],d8W),(.norm,[11,12,13],⟨[(true,.gone),(true,.gone),(true,.arr XNc),(true,.arr (.int .i64))],[.one (.sl 2),.one (.sl 3),.one (.pl (.int .i64))]⟩)]⟩,
 a7,
 ⟨[0,3],⟨[(true,.box oz1),(false,.arr (.list XNc))],b5l⟩,[],[(.ret,[2],⟨[(true,.box oz1),(true,.gone),(true,.arr (.list XNc))],[.one (.sl 2)]⟩),(.norm,[],⟨[(true,.box oz1),(true,.gone)],[]⟩)]⟩,
 a7,
 ⟨[0,3],c1v,[2],[(.norm,[3],c1w)]⟩,
 a7,
 ⟨[0,3],c1v,[2],[(.norm,[3],c1w)]⟩,
 a7,
 ⟨[0,3],c1v,[2],[(.norm,[3],c1w)]⟩,
 a7,
 ⟨[0,3],c1v,[2],[(.norm,[3],c1w)]⟩,
 a7,
 ⟨[0,3],c1v,[2],[(.norm,[3],c1w)]⟩,
 a7,
 a7,
 a7,
 a7,
 a7,
 a7,
 a7,
 ⟨[0,3,4],⟨a5L,d2x⟩,[0,2,3],[(.norm,[],⟨a5L,[]⟩)]⟩,
 ⟨[3,4,5,6],⟨b1R,d8U⟩,[0,3,4],[(.norm,[],⟨b1R,[]⟩)]⟩,
 a7,
 ⟨[0,1,6],⟨[(true,.box oz9)],[.one (.pl (.list XKc)),.one (.pl (.int .i64)),.one (.ptr 0 0)]⟩,[6],[(.ret,[4,5],⟨[(true,.box oz9),(true,.arr XNc)],c4G⟩),(.ret,[4,5],⟨[(true,.box oz9)],b5k⟩)]⟩,
 ⟨[0,3,4,5],⟨[(true,.box oz2),(true,.box oz9)],[.one (.ptr 0 0),.one (.pl (.list XNc)),.one (.pl (.int .i64)),.one (.ptr 1 0)]⟩,[],[(.ret,[2],⟨[(true,.box oz2),(true,.box oz9)],[.one (.pl (.list XNc))]⟩)]⟩,
 a7,
 ⟨[0,3],⟨[(true,.box oz2),(false,.arr (.list XNc))],b5l⟩,[],[(.ret,[2],⟨[(true,.box oz2),(true,.gone),(true,.arr (.list XNc))],[.one (.sl 2)]⟩),(.norm,[],c1A)]⟩,
 ⟨[0,3],⟨[(true,.box oz2),(false,.arr o9)],b5l⟩,[0,2],[(.norm,[3],⟨[(true,.box oz2),(true,.gone),(true,.arr o9)],[.one (.sl 2)]⟩)]⟩,
 a7,
 ⟨[0,3],⟨[(true,.box oz2),(false,.arr p8)],b5l⟩,[],[(.ret,[2],d8T),(.norm,[],c1A)]⟩,
 a7,
 ⟨[0,3],⟨[(true,.box oz2),(false,.arr R3)],b5l⟩,[0,2],[(.norm,[3],⟨[(true,.box oz2),(true,.gone),(true,.arr R3)],[.one (.sl 2)]⟩)]⟩,
 a7,
 a7,
 a7,
 a7,
 a7,
 a7,
 a7,
 a7,
 a7,
 a7,
 a7,
 a7,
 a7,
 a7,
 ⟨[6,7],⟨[(true,.box oz2),(true,.box [.sl 2,.pl .str,.pl .str]),(false,.arr n6)],[.one (.ptr 0 0),.one (.ptr 1 0)]⟩,[2,3,6,7],[(.norm,[],⟨[(true,.box oz2),(true,.box b1S),(true,.gone),(true,.arr n6)],[]⟩)]⟩,
 ⟨[2,3,6,7],⟨[(true,.box [.sl 4,.pl .str,.pl .str]),(true,.box oz9),(true,.box oz2),(true,.box c1C),(true,.arr n6),(true,.arr n6)],[.one (.ptr 0 0),.one (.ptr 1 0),.one (.ptr 2 0),.one (.ptr 3 0)]⟩,[2,3],[(.ret,[],⟨[(true,.box [.sl 6,.pl .str,.pl .str]),(true,.box oz9),(true,.box oz2),(true,.box c1C),(true,.arr n6),(true,.arr n6),(true,.arr n6)],[]⟩),(.ret,[],⟨[(true,.box c1C),(true,.box oz9),(true,.box oz2),(true,.box c1C),(true,.arr n6),(true,.arr n6)],[]⟩)]⟩,
 ⟨[0,1,7,8],d8M,[0,1,4,5,6],[(.norm,[7],⟨[],oz5⟩)]⟩,
 ⟨[0,1,7,8],⟨b1V,[.one (.pl (.list n6)),.one (.fn 84 [] [some 0]),.one (.pl (.int .i64)),.one (.pl (.int .i64))]⟩,[],[(.ret,[4],⟨b1V,oz5⟩),(.norm,[],⟨b1V,[]⟩)]⟩,
 ⟨[0,1,7,8],⟨b1W,[.one (.pl (.list p8)),.one (.fn 116 [] [some 0]),.one (.pl (.int .i64)),.one (.pl (.int .i64))]⟩,[],[(.ret,[4],⟨b1W,oz5⟩),(.norm,[],⟨b1W,[]⟩)]⟩,
 ⟨[0,1,7,8],⟨b1X,[.one (.pl (.list R3)),.one (.fn 118 [] [some 0]),.one (.pl (.int .i64)),.one (.pl (.int .i64))]⟩,[],[(.ret,[4],⟨b1X,oz5⟩),(.norm,[],⟨b1X,[]⟩)]⟩,
 ⟨[0,3,30,31,32],⟨[(true,.arr .bool)],[.one (.pl (.list XNc)),.one (.sl 0),.one (.pl (.list XNc)),.one (.pl (.int .i64)),.one (.pl (.int .i64))]⟩,[0,3],[(.ret,[2],⟨[(true,.arr .bool)],oz4⟩),(.norm,[],⟨[(true,.arr .bool)],[]⟩)]⟩,
 ⟨[1,3],⟨[(true,.box [.pl XNc])],a3Q⟩,[],[(.ret,[2],⟨[(true,.box [.pl XNc])],oz4⟩)]⟩,
 ⟨[1,3,4],⟨[(true,.box [.pl XNc]),(true,.box [.pl XNc])],[.one (.ptr 0 0),.one (.pl (.int .i64)),.one (.ptr 1 0)]⟩,[],[(.ret,[2],⟨[(true,.box [.pl XNc]),(true,.box [.pl XNc])],oz4⟩)]⟩,
 ⟨[0,3,4,5,41,42,43],⟨d2w,[.one (.pl (.list XNc)),.one (.sl 0),.one (.pl (.int .i64)),.one (.ptr 1 0),.one (.sl 2),.one (.pl (.int .i64)),.one (.pl (.int .i64))]⟩,[0,3,30,31,32],[(.ret,[2],⟨d2w,oz4⟩),(.norm,[],⟨d2w,[]⟩)]⟩,
 ⟨[0,1,7,8],⟨[],[.one (.pl (.list .bool)),.one (.pl .bool),.one (.pl (.int .i64)),.one (.pl (.int .i64))]⟩,[],[(.ret,[4],⟨[],oz5⟩),(.norm,[],⟨[],[]⟩)]⟩,
 a7,
 a7,
 a7,
 a7,
 a7,
 a7,
 ⟨[3,11,12,13],⟨a5L,d8P⟩,[2,3],[(.norm,[],⟨a5L,[]⟩)]⟩,
 ⟨[3,4,19,20,21],⟨b1R,[.one (.sl 0),.one (.pl (.int .i64)),.one (.sl 1),.one (.pl (.int .i64)),.one (.pl (.int .i64))]⟩,[3,4,11,12,13],[(.norm,[],⟨b1R,[]⟩)]⟩,
 ⟨[0,1,7,8],⟨[],[.one (.pl (.list XNc)),.one (.fn 151 [] []),.one (.pl (.int .i64)),.one (.pl (.int .i64))]⟩,[],[(.ret,[4],⟨[],oz5⟩),(.norm,[],⟨[],[]⟩)]⟩,
 ⟨[0,1,7,8],⟨b1Y,[.one (.pl (.list o9)),.one (.fn 121 [] [some 0]),.one (.pl (.int .i64)),.one (.pl (.int .i64))]⟩,[],[(.ret,[4],⟨b1Y,oz5⟩),(.norm,[],⟨b1Y,[]⟩)]⟩,
 ⟨[0,1,7,8],⟨b1U,[.one (.pl (.list (.list XNc))),.one (.fn 154 [] [some 0]),.one (.pl (.int .i64)),.one (.pl (.int .i64))]⟩,[],[(.ret,[4],⟨b1U,oz5⟩),(.norm,[],⟨b1U,[]⟩)]⟩,
 a7,
 a7,
 a7,
 a7,
 a7,
 a7,
 a7,
 a7,
 a7,
 ⟨[0,1,7,15,16,17],⟨[(false,.arr XNc),(true,.arr (.int .i64))],[.one (.sl 0),.one (.pl (.list XNc)),.one (.sl 1),.one (.sl 1),.one (.pl (.int .i64)),.one (.pl (.int .i64))]⟩,[1,2,6,7],[(.norm,[0],⟨[(true,.gone),(true,.arr (.int .i64)),(true,.arr XNc)],[.one (.sl 2)]⟩)]⟩,
 a7,
 a7,
 a7,
 a7,
 a7,
 a7,
 a7,
 a7,
 a7,
 a7,
 a7,
 a7,
 a7,
 a7,
 a7,
 a7,
 a7,
 a7,
 a7,
 a7,
 a7,
 a7,
 a7,
 a7,
 a7,
 a7,
 a7,
 a7,
 a7,
 a7,
 a7,
 a7,
 a7,
 a7,
 a7,
 a7,
 a7,
 a7,
 a7,
 a7,
 a7,
 a7,
 a7,
 a7,
 a7,
 a7,
 a7,
 a7,
 a7,
 ⟨[1,15,16],⟨c1x,d8Z⟩,[1,2],[(.norm,[],⟨c1x,[]⟩)]⟩,
 ⟨[4],⟨oz6,[.one (.eptr 0 0)]⟩,[1,15,16],[(.norm,[],⟨oz6,[]⟩)]⟩,
 ⟨[4,59,60],⟨oz6,d2v⟩,[4],[(.norm,[],⟨oz6,[]⟩)]⟩,
 ⟨[4,84,85],⟨oz6,d2v⟩,[],[(.norm,[],⟨oz6,[]⟩)]⟩,
 ⟨[7],⟨c4F,[.one (.eptr 0 0)]⟩,[4,84,85],[(.norm,[],⟨c4F,[]⟩)]⟩,
 ⟨[7,122,123],⟨c4F,d2v⟩,[],[(.norm,[],⟨c4F,[]⟩)]⟩,
 a7,
 a7,
 a7,
 a7,
 a7,
 a7,
 ⟨[0,6,7,8],⟨oz3,[.one (.ptr 0 0),.one (.pl (.list XNc)),.one (.pl (.int .i64)),.one (.pl (.int .i64))]⟩,[],[(.pan 27 .i64 0,[],⟨oz3,a1m⟩),(.norm,[],⟨oz3,[]⟩)]⟩,
 a7,
 a7,
 a7,
 a7,
 a7,
 a7,
 ⟨[0,5,12,13,14],⟨[(false,.arr XNc)],[.one (.sl 0),.one (.pl (.int .i64)),.one (.pl (.list XNc)),.one (.pl (.int .i64)),.one (.pl (.int .i64))]⟩,[4],[(.norm,[0],b8e)]⟩,
 ⟨[0,10,11,33,34,35],⟨[(false,.arr XNc),(false,.arr (.int .i64))],[.one (.pl (.int .i64)),.one (.sl 0),.one (.sl 1),.one (.pl (.list (.list XNc))),.one (.pl (.int .i64)),.one (.pl (.int .i64))]⟩,[9],[(.ret,[8],d8W),(.norm,[10,11],⟨[(true,.gone),(true,.gone),(true,.arr XNc),(true,.arr (.int .i64))],[.one (.sl 2),.one (.sl 3)]⟩)]⟩,
 a7,
 a7,
 a7,
 a7,
 a7,
 a7,
 a7,
 ⟨[0,1,7,8],⟨[],[.one (.pl (.list (.list XNc))),.one (.fn 128 [] []),.one (.pl (.int .i64)),.one (.pl (.int .i64))]⟩,[],[(.ret,[4],⟨[],oz5⟩),(.norm,[],⟨[],[]⟩)]⟩,
 a7,
 ⟨[0,1,7,8],d8M,[],[(.ret,[4],⟨[],oz5⟩),(.norm,[],⟨[],[]⟩)]⟩,
 a7,
 ⟨[1,2,7,8,33,34,35],⟨[(false,.arr XNc),(false,.arr (.int .i64)),(true,.arr XNc)],[.one (.pl (.list .str)),.one (.pl (.list (.list XNc))),.one (.sl 0),.one (.sl 1),.one (.sl 2),.one (.pl (.int .i64)),.one (.pl (.int .i64))]⟩,[6],[(.norm,[7],⟨[(true,.gone),(true,.gone),(true,.arr XNc),(true,.arr XNc)],[.one (.sl 3)]⟩)]⟩,
 ⟨[8,12,65,66,67],⟨b1R,[.one (.sl 0),.one (.sl 1),.one (.sl 1),.one (.pl (.int .i64)),.one (.pl (.int .i64))]⟩,[1,2,7,8,10,12,33,34,35],[(.norm,[],⟨b1R,[]⟩)]⟩,
 a7,
 a7,
 a7,
 a7,
 a7,
 a7,
 ⟨[6,47,48,49],⟨[(true,.box [.sl 1]),(false,.arr .str)],[.one (.ptr 0 0),.one (.pl (.list p8)),.one (.pl (.int .i64)),.one (.pl (.int .i64))]⟩,[0,3,4,6,7],[(.norm,[],⟨[(true,.box [.sl 2]),(true,.gone),(true,.arr .str)],[]⟩)]⟩,
 ⟨[3,6,7,60,61,62],⟨[(true,.box [.pl o9]),(true,.box [.sl 3]),(true,.box [.sl 4]),(false,.arr .str),(false,.arr (.list XNc))],[.one (.ptr 0 0),.one (.ptr 1 0),.one (.ptr 2 0),.one (.pl (.list o9)),.one (.pl (.int .i64)),.one (.pl (.int .i64))]⟩,[0,3,4,6,7],[(.norm,[],⟨[(true,.box [.pl o9]),(true,.box [.sl 5]),(true,.box [.sl 6]),(true,.gone),(true,.gone),(true,.arr .str),(true,.arr (.list XNc))],[]⟩)]⟩,
 ⟨[0,3,12,87,88,89],⟨[(true,.box [.mp 4,.mp 5,.mp 6,.sl 7]),(true,.box [.pl o9]),(true,.box b3C),(true,.box b8i),(true,.map .str n6 true),(true,.map .str .bool false),(true,.map .str .bool false),(false,.arr o9)],[.one (.ptr 0 0),.one (.ptr 1 0),.one (.fn 93 [] [some 2,some 3]),.one (.pl (.list o9)),.one (.pl (.int .i64)),.one (.pl (.int .i64))]⟩,[],[(.pan 27 .i64 0,[],⟨d8I,a1m⟩),(.norm,[],⟨d8I,[]⟩)]⟩,
 ⟨[0,3,4,7,8],⟨d8H,[.one (.ptr 0 0),.one (.ptr 1 0),.one (.ptr 2 0),.one (.mp 3),.one (.sl 4)]⟩,[4],[(.pan 27 .i64 0,[],⟨d8H,a1m⟩),(.pan 27 .i64 0,[],⟨[(true,.box [.mp 5,.mp 6,.mp 7,.sl 11]),(true,.box [.pl n6]),(true,.box d2q),(true,.map .str .bool false),(true,.arr p8),(true,.map .str n6 true),(true,.map .str .bool false),(true,.map .str .bool false),(true,.gone),(true,.arr R3),(true,.arr o9),(true,.arr o9)],a1m⟩),(.pan 27 .i64 0,[],⟨[(true,.box [.mp 5,.mp 6,.mp 7,.sl 11]),(true,.box d2p),(true,.box d2q),(true,.map .str .bool false),(true,.arr p8),(true,.map .str n6 true),(true,.map .str .bool false),(true,.map .str .bool false),(true,.gone),(true,.arr R3),(true,.arr o9),(true,.arr o9)],a1m⟩),(.ret,[],⟨[(true,.box [.mp 5,.mp 6,.mp 7,.sl 11]),(true,.box d2p),(true,.box d2p),(true,.map .str .bool false),(true,.arr p8),(true,.map .str n6 true),(true,.map .str .bool false),(true,.map .str .bool false),(true,.gone),(true,.arr R3),(true,.arr o9),(true,.arr o9)],[]⟩)]⟩,
 ⟨[0,3,7,46,47,48],⟨d2n,[.one (.ptr 0 0),.one (.ptr 1 0),.one (.mp 2),.one (.sl 3),.one (.pl (.int .i64)),.one (.pl (.int .i64))]⟩,[0,3,4,7],[(.pan 27 .i64 0,[],⟨d2n,a1m⟩),(.norm,[],⟨d2n,[]⟩)]⟩,
 ⟨[0,78,79,80],⟨[(true,.box [.mp 1,.mp 2,.mp 3,.sl 4]),(true,.map .str n6 true),(true,.map .str .bool false),(true,.map .str .bool false),(false,.arr o9)],[.one (.ptr 0 0),.one (.pl (.list o9)),.one (.pl (.int .i64)),.one (.pl (.int .i64))]⟩,[0,3,4,7],[(.pan 27 .i64 0,[],⟨oz7,a1m⟩),(.norm,[],⟨oz7,[]⟩)]⟩,
 ⟨[0,93,94,95],⟨oz3,[.one (.ptr 0 0),.one (.pl (.list (.list XNc))),.one (.pl (.int .i64)),.one (.pl (.int .i64))]⟩,[0,12,78,79,80],[(.pan 27 .i64 0,[],⟨oz3,a1m⟩),(.norm,[],⟨oz3,[]⟩)]⟩,
 ⟨[0,7,15,121,122,123],⟨d2o,[.one (.ptr 0 0),.one (.mp 1),.one (.mp 2),.one (.pl (.list R3)),.one (.pl (.int .i64)),.one (.pl (.int .i64))]⟩,[3,4,7],[(.pan 27 .i64 0,[],⟨d2o,a1m⟩),(.norm,[],⟨d2o,[]⟩)]⟩,
 ⟨[0,1,8,9,10],⟨oz3,[.one (.ptr 0 0),.one (.pl (.list XNc)),.one (.pl (.list XNc)),.one (.pl (.int .i64)),.one (.pl (.int .i64))]⟩,[],[(.pan 27 .i64 0,[],⟨oz3,a1m⟩),(.norm,[],⟨oz3,[]⟩)]⟩,
 ⟨[0,5,6],d8Q,[4],[(.norm,[5],⟨[],oz5⟩)]⟩,
 a7,
 ⟨[2,4,5],⟨d2r,[.one (.ptr 0 0),.one (.ptr 1 0),.one (.mp 2)]⟩,[1,2,3,4,5,19],[(.pan 27 .i64 0,[],⟨d2r,a1m⟩),(.norm,[],⟨d2r,[]⟩)]⟩,
 ⟨[0,1,12,13],⟨[],[.one (.pl (.list p8)),.one (.pl (.list p8)),.one (.pl (.int .i64)),.one (.pl (.int .i64))]⟩,[],[(.ret,[4],⟨[],oz4⟩),(.norm,[],⟨[],[]⟩)]⟩,
 ⟨[0,1,7,8],⟨b5m,[.one (.pl (.list n6)),.one (.fn 30 [] [some 0]),.one (.pl (.int .i64)),.one (.pl (.int .i64))]⟩,[],[(.ret,[4],⟨b5m,oz5⟩),(.norm,[],⟨b5m,[]⟩)]⟩,
 ⟨[1,3],⟨a3R,a3Q⟩,[],[(.ret,[2],⟨a3R,oz4⟩),(.norm,[],⟨a3R,[]⟩)]⟩,
 ⟨[0,3],⟨[],[.one (.pl (.list p8)),.one (.pl (.int .i64))]⟩,[0],[(.ret,[2],⟨[],oz4⟩),(.norm,[],⟨[],[]⟩)]⟩,
 ⟨[1,3],⟨a7c,a3Q⟩,[1],[(.ret,[2],⟨a7c,oz4⟩),(.norm,[],⟨a7c,[]⟩)]⟩,
 ⟨[0,3,4],⟨a5L,d2x⟩,[0,3],[(.ret,[2],⟨a5L,oz4⟩),(.norm,[],⟨a5L,[]⟩)]⟩,
 ⟨[3,4,5,6],⟨b1R,d8U⟩,[0,3,4],[(.ret,[2],⟨b1R,oz4⟩),(.norm,[],⟨b1R,[]⟩)]⟩,
 ⟨[0,5,6,7],⟨d2A,[.one (.pl (.list XNc)),.one (.ptr 0 0),.one (.sl 1),.one (.pl (.int .i64))]⟩,[],[(.ret,[4],⟨d2A,oz4⟩),(.norm,[],⟨d2A,[]⟩)]⟩,
 ⟨[0,3,7],⟨a5L,d2x⟩,[0],[(.ret,[2],⟨a5L,oz4⟩),(.norm,[],⟨a5L,[]⟩)]⟩,
 ⟨[0,3],⟨[],b5k⟩,[],[(.ret,[2],⟨[],oz4⟩),(.norm,[],⟨[],[]⟩)]⟩,
 ⟨[1,4],⟨a7c,a3Q⟩,[],[(.ret,[2],⟨a7c,oz4⟩),(.norm,[],⟨a7c,[]⟩)]⟩,
 ⟨[1,4],⟨b8j,a3Q⟩,[1],[(.ret,[2],⟨b8j,oz4⟩),(.norm,[],⟨b8j,[]⟩)]⟩,
 a7,
 a7,
 a7,
 ⟨[0,2,7,8,9],⟨[(false,.arr XNc),(true,.arr (.int .i64)),(false,.arr (.int .i64))],[.one (.pl (.list XNc)),.one (.sl 0),.one (.sl 1),.one (.sl 2),.one (.pl (.int .i64))]⟩,[0,1,6],[(.norm,[2,8],⟨[(true,.gone),(true,.arr (.int .i64)),(true,.gone),(true,.arr XNc),(true,.arr (.int .i64))],[.one (.sl 3),.one (.sl 4)]⟩)]⟩,
 a7,
 a7,
 a7,
 a7,
 a7,
 a7,
 a7,
 a7,
 a7,
 a7,
 a7,
 a7,
 a7,
 a7,
 ⟨[1,3,4],⟨[(true,.box [.pl n6]),(true,.box d8S),(true,.arr p8),(true,.arr p8),(false,.arr R3),(true,.arr o9)],b5j⟩,[1,2,3],[(.norm,[],⟨[(true,.box [.pl n6]),(true,.box [.pl .bool,.pl .str,.sl 2,.pl .str,.pl (.int .i64),.sl 3,.sl 6,.sl 5]),(true,.arr p8),(true,.arr p8),(true,.gone),(true,.arr o9),(true,.arr R3)],[]⟩)]⟩,
 ⟨[1,3,5],⟨[(true,.box [.pl n6]),(true,.box d8S),(true,.arr p8),(true,.arr p8),(true,.arr R3),(false,.arr o9)],b5j⟩,[2,3],[(.norm,[],⟨[(true,.box [.pl n6]),(true,.box [.pl .bool,.pl .str,.sl 2,.pl .str,.pl (.int .i64),.sl 3,.sl 4,.sl 6]),(true,.arr p8),(true,.arr p8),(true,.arr R3),(true,.gone),(true,.arr o9)],[]⟩)]⟩,
 ⟨[1,5,6,7],⟨[(true,.box [.pl n6]),(true,.box [.pl (.int .i64),.pl .str,.pl (.int .i64),.sl 2,.sl 3,.sl 4]),(true,.arr XNc),(true,.arr XNc),(false,.arr (.list XNc))],[.one (.ptr 0 0),.one (.pl (.int .i64)),.one (.ptr 1 0),.one (.pl (.int .i64))]⟩,[1,3,5,6],[(.norm,[],⟨[(true,.box [.pl n6]),(true,.box [.pl (.int .i64),.pl .str,.pl (.int .i64),.sl 2,.sl 3,.sl 5]),(true,.arr XNc),(true,.arr XNc),(true,.gone),(true,.arr (.list XNc))],[]⟩)]⟩,
 a7,
 a7,
 ⟨[1,3,4],⟨[(true,.box [.pl a6Y]),(true,.box [.sl 2,.pl .str,.pl .str]),(false,.arr n6)],b5j⟩,[2,3],[(.norm,[],⟨[(true,.box [.pl a6Y]),(true,.box b1S),(true,.gone),(true,.arr n6)],[]⟩)]⟩,
 ⟨[2,3,4,5],⟨d8L,[.one (.ptr 0 0),.one (.ptr 1 0),.one (.ptr 2 0),.one (.pl (.int .i64))]⟩,[2,3,4],[(.ret,[],⟨[(true,.box c1C),(true,.box oz9),(true,.box [.sl 4,.pl .str,.pl .str]),(true,.arr n6),(true,.arr n6),(true,.arr n6)],[]⟩),(.norm,[],⟨d8L,[]⟩)]⟩,
 ⟨[1,2,5],⟨c1x,[.one (.pl .str),.one (.ptr 0 0),.one (.pl (.int .i64))]⟩,[],[(.ret,[4],⟨c1x,oz5⟩),(.norm,[],⟨c1x,[]⟩)]⟩,
 a7,
 a7,
 a7,
 ⟨[0,1,5],⟨[],[.one (.pl (.list p8)),.one (.pl .str),.one (.pl (.int .i64))]⟩,[],[(.ret,[4],⟨[],oz4⟩),(.norm,[],⟨[],[]⟩)]⟩,
 a7,
 a7,
 a7,
 ⟨[0,3,4],⟨[(true,.arr o9),(false,.arr p8)],[.one (.sl 0),.one (.sl 1),.one (.pl (.int .i64))]⟩,[2],[(.norm,[3],⟨[(true,.arr o9),(true,.gone),(true,.arr p8)],[.one (.sl 2)]⟩)]⟩,
 ⟨[0,1,2,7],⟨[],[.one (.pl (.list XNc)),.one (.pl (.list p8)),.one (.pl (.list p8)),.one (.pl (.int .i64))]⟩,[],[(.ret,[6],⟨[],oz5⟩),(.norm,[],⟨[],[]⟩)]⟩,
 a7,
 ⟨[1,2,3,7,8],⟨c1z,[.one (.pl (.list p8)),.one (.sl 0),.one (.ptr 1 0),.one (.pl (.int .i64)),.one (.pl (.int .i64))]⟩,[6],[(.norm,[7],⟨c1z,oz5⟩)]⟩,
 a7,
 a7,
 a7,
 a7,
 a7,
 ⟨[0,3,4],⟨[(false,.arr p8)],[.one (.pl (.list o9)),.one (.sl 0),.one (.pl (.int .i64))]⟩,[2],[(.norm,[3],⟨[(true,.gone),(true,.arr p8)],[.one (.sl 1)]⟩)]⟩,
 a7,
 a7,
 a7,
 a7,
 a7,
 a7,
 a7,
 a7,
 a7,
 a7,
 a7,
 a7,
 a7,
 a7,
 ⟨[0,1,5],⟨[],[.one (.pl (.list .str)),.one (.pl .str),.one (.pl (.int .i64))]⟩,[],[(.ret,[4],⟨[],oz5⟩),(.norm,[],⟨[],[]⟩)]⟩,
 a7,
 a7,
 a7,
 a7,
 a7,
 a7,
 ⟨[2,7],⟨[],[.one (.pl (.list (.list XNc))),.one (.pl (.int .i64))]⟩,[0,1,2],[(.ret,[6],b1T),(.norm,[],⟨[],[]⟩)]⟩,
 ⟨[0,1,2,8,9,10],⟨[(true,.arr XNc),(false,.arr XNc),(true,.arr (.int .i64))],[.one (.sl 0),.one (.pl (.list .str)),.one (.pl (.list (.list XNc))),.one (.sl 1),.one (.sl 2),.one (.pl (.int .i64))]⟩,[6],[(.norm,[8],d8N)]⟩,
 ⟨[0,2,8,9,10,11],⟨[(true,.arr XNc),(true,.arr XNc),(true,.arr (.int .i64))],[.one (.sl 0),.one (.pl (.list (.list XNc))),.one (.sl 1),.one (.sl 2),.one (.pl (.int .i64)),.one (.pl (.int .i64))]⟩,[0,1,2,9,10],[(.norm,[8],d8N)]⟩,
 ⟨[9,12,13,14],⟨[(true,.arr (.int .i64)),(true,.arr (.int .i64)),(false,.arr (.int .i64))],[.one (.sl 0),.one (.sl 1),.one (.sl 2),.one (.pl (.int .i64))]⟩,[0,8,9,10],[(.norm,[13],⟨[(true,.arr (.int .i64)),(true,.arr (.int .i64)),(true,.gone),(true,.arr (.int .i64))],[.one (.sl 3)]⟩)]⟩,
 a7,
 a7,
 a7,
 a7,
 a7,
 a7,
 a7,
 a7,
 a7,
 ⟨[4,5,10,11,12],⟨[(true,.box [.pl n6]),(true,.box [.pl o9]),(false,.arr .str),(false,.arr (.list XNc))],[.one (.ptr 0 0),.one (.ptr 1 0),.one (.sl 2),.one (.sl 3),.one (.pl (.int .i64))]⟩,[2,3,4,5,8,9],[(.norm,[10,11],⟨[(true,.box [.pl n6]),(true,.box [.pl o9]),(true,.gone),(true,.gone),(true,.arr .str),(true,.arr (.list XNc))],[.one (.sl 4),.one (.sl 5)]⟩)]⟩,
 ⟨[5,10,11,13,14],⟨[(true,.box [.pl o9]),(false,.arr .str),(false,.arr (.list XNc)),(true,.arr p8)],[.one (.ptr 0 0),.one (.sl 1),.one (.sl 2),.one (.sl 3),.one (.pl (.int .i64))]⟩,[2,3,4,5,8,9],[(.norm,[10,11],⟨[(true,.box [.pl o9]),(true,.gone),(true,.gone),(true,.arr p8),(true,.arr .str),(true,.arr (.list XNc))],[.one (.sl 4),.one (.sl 5)]⟩)]⟩,
 ⟨[2,3,4,5,10,11,15],⟨[(false,.arr o9),(true,.box [.pl n6]),(true,.box [.pl o9])],[.one (.pl (.list p8)),.one (.sl 0),.one (.ptr 1 0),.one (.ptr 2 0),.one (.pl (.list .str)),.one (.pl (.list (.list XNc))),.one (.pl (.int .i64))]⟩,[],[(.ret,[8,9],⟨[(true,.gone),(true,.box [.pl n6]),(true,.box [.pl o9]),(true,.arr o9)],[.one (.sl 3),.one (.pl (.int .i64))]⟩),(.norm,[3],⟨[(true,.gone),(true,.box [.pl n6]),(true,.box [.pl o9]),(true,.arr o9)],[.one (.sl 3)]⟩)]⟩,
 ⟨[2,3,16,17],⟨c1z,[.one (.pl (.list p8)),.one (.sl 0),.one (.ptr 1 0),.one (.pl (.int .i64))]⟩,[2,4,5,10,11,15],[(.ret,[8,9],⟨c1z,d2E⟩),(.norm,[3],⟨c1z,[.one (.sl 0)]⟩),(.norm,[3],⟨[(true,.gone),(true,.box [.pl o9]),(true,.arr o9)],[.one (.sl 2)]⟩)]⟩,
 a7,
 ⟨[1,2,6,7,8,9],⟨[(true,.box b1S),(true,.box [.pl n6]),(false,.arr o9),(true,.arr n6)],[.one (.pl (.int .i64)),.one (.ptr 0 0),.one (.ptr 1 0),.one (.pl (.list p8)),.one (.sl 2),.one (.pl (.int .i64))]⟩,[],[(.ret,[4,5],⟨d8O,[.one (.sl 4),.one (.pl (.int .i64))]⟩),(.norm,[8],⟨d8O,[.one (.sl 4)]⟩)]⟩,
 a7,
 a7,
 a7,
 a7,
 ⟨[1,2,3,7,8],⟨d2u,[.one (.pl (.int .i64)),.one (.pl (.list XNc)),.one (.ptr 0 0),.one (.ptr 1 0),.one (.pl (.int .i64))]⟩,[],[(.ret,[6],⟨d2u,oz5⟩),(.norm,[],⟨d2u,[]⟩)]⟩,
 ⟨[0,5,6],d8Q,[4],[(.norm,[5],⟨[],oz5⟩)]⟩,
 ⟨[1,2,5,6,7],⟨[(true,.box b1S),(true,.box [.pl n6]),(false,.arr p8),(true,.arr n6)],[.one (.pl (.int .i64)),.one (.ptr 0 0),.one (.ptr 1 0),.one (.sl 2),.one (.pl (.int .i64))]⟩,[5],[(.ret,[4],⟨[(true,.box b1S),(true,.box [.pl n6]),(true,.gone),(true,.arr n6)],oz5⟩),(.norm,[6],⟨[(true,.box b1S),(true,.box [.pl n6]),(true,.gone),(true,.arr n6),(true,.arr p8)],[.one (.sl 4)]⟩)]⟩,
 ⟨[4,6,7,8],⟨d8J,[.one (.ptr 0 0),.one (.ptr 1 0),.one (.sl 2),.one (.pl (.int .i64))]⟩,[1,2,4,6],[(.ret,[5],⟨[(true,.box [.pl n6]),(true,.box [.pl n6]),(true,.arr p8),(true,.arr R3),(true,.arr o9)],oz5⟩),(.norm,[],⟨d8J,[]⟩)]⟩,
 ⟨[0,1,5],⟨[],[.one (.pl (.list p8)),.one (.pl (.list p8)),.one (.pl (.int .i64))]⟩,[],[(.ret,[4],⟨[],oz4⟩),(.norm,[],⟨[],[]⟩)]⟩,
 ⟨[2,3,5],⟨b8g,b5j⟩,[],[(.ret,[4],⟨b8g,oz4⟩),(.norm,[],⟨b8g,[]⟩)]⟩,
 ⟨[2,3,5],⟨b8h,b5j⟩,[2,3],[(.ret,[4],⟨b8h,oz4⟩),(.norm,[],⟨b8h,[]⟩)]⟩,
 ⟨[0,1,5],⟨[],[.one (.pl (.list XNc)),.one (.pl (.list XNc)),.one (.pl (.int .i64))]⟩,[],[(.ret,[4],⟨[],oz4⟩),(.norm,[],⟨[],[]⟩)]⟩,
 ⟨[2,3,6],⟨b8h,b5j⟩,[],[(.ret,[4],⟨b8h,oz4⟩),(.norm,[],⟨b8h,[]⟩)]⟩,
 ⟨[0,1,5],⟨[],[.one (.pl (.list (.list XNc))),.one (.pl (.list (.list XNc))),.one (.pl (.int .i64))]⟩,[],[(.ret,[4],⟨[],oz4⟩),(.norm,[],⟨[],[]⟩)]⟩,
 ⟨[1,2,5],⟨a3R,[.one (.pl .str),.one (.ptr 0 0),.one (.pl (.int .i64))]⟩,[],[(.ret,[4],⟨a3R,oz5⟩),(.norm,[],⟨a3R,[]⟩)]⟩,
 ⟨[3,5],⟨a3R,a3Q⟩,[3],[(.ret,[2],⟨a3R,oz4⟩),(.norm,[],⟨a3R,[]⟩)]⟩,
 ⟨[3,5,6],⟨a3R,d8Z⟩,[3,5],[(.ret,[2],⟨a3R,oz4⟩),(.norm,[],⟨a3R,[]⟩)]⟩,
 a7,
 a7,
 a7,
 a7,
 ⟨[0,1,5],⟨[],[.one (.pl (.list XNc)),.one (.pl (.list p8)),.one (.pl (.int .i64))]⟩,[],[(.ret,[4],⟨[],oz4⟩),(.norm,[],⟨[],[]⟩)]⟩,
 ⟨[0,1,5,6],⟨[],[.one (.pl (.list XNc)),.one (.pl (.list p8)),.one (.pl (.int .i64)),.one (.pl (.int .i64))]⟩,[0,1,5],[(.ret,[4],⟨[],oz4⟩),(.norm,[],⟨[],[]⟩)]⟩,
 ⟨[1,3,5],⟨b8g,b5j⟩,[],[(.ret,[2],⟨b8g,oz4⟩),(.norm,[],⟨b8g,[]⟩)]⟩,
 ⟨[1,5,6,7,8],⟨d2B,[.one (.ptr 0 0),.one (.pl (.int .i64)),.one (.ptr 1 0),.one (.pl (.list p8)),.one (.pl (.int .i64))]⟩,[1,3,5],[(.ret,[2],⟨d2B,oz4⟩),(.norm,[],⟨d2B,[]⟩)]⟩]
 lkL:=[(1,[(0,0),(2,1),(4,2),(6,3)]),(3,[(0,69)]),(4,[(0,12),(2,13)]),(5,[(0,6),(2,8)]),(7,[(0,7)]),(10,[(0,9)]),(12,[(0,10)]),(13,[(0,11)]),(27,[(0,17)]),(31,[(0,50)]),(38,[(0,35)]),(39,[(0,33)]),(40,[(0,31)]),(42,[(0,29)]),(43,[(0,27)]),(47,[(0,23)]),(50,[(0,22)]),(56,[(0,25)]),(62,[(0,43),(2,44)]),(63,[(0,49)]),(64,[(0,52)]),(65,[(0,54)]),(66,[(0,201)]),(73,[(0,71)]),(79,[(0,72)]),(84,[(0,73)]),(89,[(0,74)]),(93,[(0,75),(2,78)]),(98,[(0,79)]),(100,[(0,86),(2,87)]),(102,[(0,88)]),(106,[(0,89)]),(111,[(0,90)]),(113,[(0,150),(2,152),(4,153),(6,155)]),(120,[(0,100)]),(122,[(0,194),(2,195),(4,196),(6,197)]),(124,[(0,162)]),(125,[(0,190),(2,191),(4,192)]),(126,[(0,170)]),(127,[(0,169)]),(129,[(0,182),(2,183)]),(131,[(0,178)]),(133,[(0,180)]),(138,[(0,198)]),(139,[(0,199)]),(140,[(0,202)]),(142,[(0,203)]),(144,[(0,238)]),(145,[(0,204)]),(146,[(0,206),(2,212)]),(147,[(0,205)]),(149,[(0,211)]),(150,[(0,207),(2,208),(4,210)]),(153,[(0,209)]),(154,[(1,213)]),(155,[(0,237)]),(156,[(0,232),(2,233),(4,234)]),(159,[(0,217)]),(160,[(0,304)]),(161,[(0,239)]),(163,[(0,243)]),(164,[(0,296)]),(165,[(0,250)]),(166,[(0,247)]),(167,[(0,248)]),(168,[(0,291),(2,292),(4,293)]),(169,[(0,256)]),(172,[(0,278),(2,279),(4,281)]),(173,[(0,271)]),(175,[(0,303)]),(176,[(0,301)]),(177,[(0,302)]),(178,[(0,305)]),(179,[(0,306)]),(180,[(0,307),(2,309)]),(181,[(0,308)]),(182,[(0,310)]),(183,[(0,311)]),(184,[(0,312),(2,313)]),(185,[(0,320),(2,321)]),(186,[(0,318),(2,319)])]
 tkL:=[(3,[(15,70)]),(34,[(4,47)]),(35,[(3,46)]),(94,[(9,76),(10,77)]),(113,[(7,151),(17,154)]),(122,[(7,193)]),(168,[(20,294)]),(172,[(17,280)])]
 dkL:=[(0,[(5,([],(sq [0,2,5,6,8,10,12,14,16,18,20,24,26,23,29,30,32,34,37,38,40] .done)))]),
 (3,[(3,([2,3],(sq [0,2,5,7] .done))),(8,([6,7,30],(.take 0 (.take 2 (.alt 1 (sq [7,9,11,12,15] .done) (.only 3 (.alt 1 (sq [9,11,12,15] .done) (sq [9,3,11,12,15] .done)))))))),(15,([6],(sq [0,3,4,6,8,10,14,16,18] (.alt 6 (sq [21,22,24,26] .done) (sq [21,22,13,24,26] .done))))),(18,([2,3],(sq [0,2,4,6,8,11,13] .done)))]),
 (13,[(5,([],(sq [0,2,4,6,8,10,12,14,16,18,20,22,24,26,28,30,32,34,36,38,40,42] .done)))]),
 (15,[(1,([0],(.take 0 c6a))),(3,([],(sq [0,2,4,6,8] b6c)))]),
 (18,[(1,([0],(sq [0,2,4,6] c0i)))]),
 (22,[(1,([0],(.take 0 c6a))),(3,([],(sq [0,2,4,6,8] b6c)))]),
 (24,[(5,([],(sq [0,2,4,6,8,10,12,14,16,18,20,22,24] .done)))]),
 (25,[(1,([0],(sq [0,3,4,6,8,10,14,16,18] (.alt 6 (sq [21,22,24,26,28,30,32,34,38] c6b) (sq [21,22,13,24,26,28,30,32,34,38] c6b)))))]),
 (26,[(1,([0],(sq [0,2,4,6] c0i)))]),
 (34,[(3,([],(sq [0,2,4,6,8,10,12,14] (.alt 8 (sq [18,20,22,24,27] a6j) (sq [27,17,18,20,22,24] a6j)))))]),
 (35,[(6,([6],(sq [0,2,4,6,8,10,13] .done))),(11,([6],(sq [0,2,4,6,8,10,12,14,17] .done)))]),
 (44,[(5,([],(sq [0,2,4,6,8,10,12,14,16,18] .done))),(8,([],(sq [0,2,4,6,8] b6c)))]),
 (45,[(2,([0],(sq [0,2,4,6] c0i)))]),
 (55,[(1,([],(sq [0,2,4,6,8,10,12,14,16,18,20,22,24,26,28,30,32,34] .done))),(3,([],(sq [0,2,4,6,8] b6c)))]),
 (59,[(2,([],(sq [0,2,4,6,8,10,12,14,16,18,20,22,24,26,28,30,32,34,36,38,40,42,44,46,48,50,52,54,56,58,60,62,64,66,68,70,73,74,76] .done))),(4,([],(sq [0,2,4,6,8,10,12,14,16,18,20,23,24] .done)))]),
 (62,[(11,([3],(sq [0,2,4,6,8,12,14,16,18,20,22] (.alt 5 (.only 12 (.take 13 a6j)) (sq [25,26,11] a6j)))))]),
 (66,[(11,([5,23],(sq [0,2,4,6,8,10,12,14,16,19,21] .done)))]),
 (94,[(9,([],(sq [0,2,4,6,8,10,12,14] (.alt 8 (.alt 9 (.only 10 (.only 11 .done)) (sq [21,19,23] .done)) (sq [21,17,19,23] .done)))))]),
 (96,[(2,([2],(sq [0,2,4,6,8,10,12,15,16,19] .done)))]),
 (100,[(9,([3],(sq [0,2,4,6,8,12,14,16] (.alt 5 (sq [19,20,22,25] .done) (sq [19,11,20,22,25] .done)))))]),
 (113,[(6,([20],(sq [0,2,4,6,8,10,12,18,20,22,28,30,32,38,40,42] (.alt 7 (.alt 8 (.alt 12 (.alt 13 (.alt 17 b6b (.only 22 (.only 17 b0w))) (.alt 17 a1z (.only 22 a1y))) (.alt 17 (.alt 12 a1z (.only 22 (.only 12 X3))) (.only 22 (.alt 12 a1y (.only 17 (.only 12 X3)))))) (.alt 12 (.alt 8 (.alt 13 (.alt 17 b6b (.only 22 (.only 17 b0w))) (.alt 17 a1z (.only 22 a1y))) (.alt 17 (.alt 8 a1z (.only 22 H2)) (.only 22 (.alt 8 a1y (.only 17 H2))))) (.alt 17 (.alt 8 (.alt 12 a1z (.only 22 (.only 12 X3))) (.alt 12 (.alt 8 a1z (.only 22 H2)) (.only 22 (.alt 8 (.only 12 X3) (.only 12 H2))))) (.only 22 (.alt 8 (.alt 12 a1y (.only 17 (.only 12 X3))) (.alt 12 (.alt 8 a1y (.only 17 H2)) (.only 17 (.alt 8 (.only 12 X3) (.only 12 H2))))))))) (.alt 12 (.alt 7 (.alt 8 (.alt 13 (.alt 17 b6b (.only 22 (.only 17 b0w))) (.alt 17 a1z (.only 22 a1y))) (.alt 17 (.alt 8 a1z (.only 22 H2)) (.only 22 (.alt 8 a1y (.only 17 H2))))) (.alt 17 (.alt 7 (.alt 8 a1z (.only 22 H2)) (.only 22 (.only 7 H2))) (.only 22 (.alt 7 (.alt 8 a1y (.only 17 H2)) (.only 17 (.only 7 H2)))))) (.alt 17 (.alt 7 (.alt 8 (.alt 12 a1z (.only 22 (.only 12 X3))) (.alt 12 (.alt 8 a1z (.only 22 H2)) (.only 22 (.alt 8 (.only 12 X3) (.only 12 H2))))) (.alt 12 (.alt 7 (.alt 8 a1z (.only 22 H2)) (.only 22 (.only 7 H2))) (.only 22 (.alt 7 (.alt 8 (.only 12 X3) (.only 12 H2)) (.only 12 (.only 7 H2)))))) (.only 22 (.alt 7 (.alt 8 (.alt 12 a1y (.only 17 (.only 12 X3))) (.alt 12 (.alt 8 a1y (.only 17 H2)) (.only 17 (.alt 8 (.only 12 X3) (.only 12 H2))))) (.alt 12 (.alt 7 (.alt 8 a1y (.only 17 H2)) (.only 17 (.only 7 H2))) (.only 17 (.alt 7 (.alt 8 (.only 12 X3) (.only 12 H2)) (.only 12 (.only 7 H2))))))))))))),(10,([4],(sq [0,2,4,8,10,12,14,18] (.alt 3 (sq [17,20,22,25,27] a6j) (sq [17,20,22] (.alt 3 (.only 12 (.only 13 a6j)) (.only 12 (.alt 3 (.only 13 a6j) (.only 13 (.only 3 a6j)))))))))),(16,([91],(sq [0,2,4,6,8,10,16,18,20,26,28,30] (.alt 6 (.alt 7 (.alt 11 (.alt 12 (.only 16 X4) (.only 16 (.only 12 X4))) (sq [33,23,25] X4)) (.alt 11 (.alt 7 (.alt 12 (.only 16 X4) (.only 16 (.only 12 X4))) (sq [33,15,25] X4)) (.only 16 (.alt 7 (.only 11 (.only 12 X4)) (sq [23,15,25] X4))))) (.alt 11 (.alt 6 (.alt 7 (.alt 12 (.only 16 X4) (.only 16 (.only 12 X4))) (sq [33,15,25] X4)) (sq [33,13,15,25] X4)) (.only 16 (.alt 6 (.alt 7 (.only 11 (.only 12 X4)) (sq [23,15,25] X4)) (sq [23,13,15,25] X4)))))))),(20,([7],(sq [0,2,4,8,10,12,14,18] (.alt 3 (sq [17,20,23,25,26,29] .done) (.only 8 (.take 10 (.alt 3 (sq [23,25,26,29] .done) (.only 11 (.alt 3 (sq [25,26,29] .done) (sq [25,7,26,29] .done))))))))))]),
 (122,[(1,([],(sq [0,2,4] c0j))),(6,([34],(sq [0,2,4,10,12,7,9,15,16] .done))),(10,([],(sq [0,2,4,6,8,10,12,14,17] .done))),(11,([56],(sq [0,2,4,6,8,10,13] .done)))]),
 (124,[(3,([],(sq [0,2,4,6,8,10,12,14,16,18,20,22,24,26,28,30,32,34,36,38,40,43] .done)))]),
 (125,[(1,([],(sq [0,2,4] c0j))),(16,([7],(sq [2,4,6,8,10,12] (.alt 0 (sq [15,17,19,21] .done) (.only 7 (.alt 0 (sq [17,19,21] .done) (sq [17,1,19,21] .done)))))))]),
 (129,[(10,([7],(sq [0,2,4,6,8,10,12,14,16,18,20,23,25,26] .done)))]),
 (134,[(2,([],(sq [0,2,4,6,8,10,12,14,16,18,20,22,24,26,28,30,32,34,37] .done))),(5,([0,19],(sq [0,2,4,8,10,7,13] .done))),(6,([0,29],(sq [0,2,4,6,10] (.alt 4 (sq [13,15,16,18,21] .done) (sq [13,9,15,16,18,21] .done)))))]),
 (138,[(5,([],(sq [0,2,4,6,8,10,12,14,17] .done))),(6,([],(sq [0,2,4,6,8,10,12,15] .done))),(8,([],(sq [0,2,4] c0j))),(9,([],(sq [0,2,4,6,8,10,12,14,16,18,20,22,25,26,28,31] .done)))]),
 (140,[(6,([],(sq [0,2,4,6,8,10,12,14,16] .done)))]),
 (144,[(16,([],(sq [0,2,4,6,8,10,12,14,16,18,20,22,24,26,28,30,32,34,36,38,40,42,44,47,48,50,52,54,56,58,60,62,64,66,68,70,72,74,76,78,80] .done)))]),
 (155,[(5,([3],(sq [0,4,6,8,10,12] (.alt 1 (sq [15,17,19,20,23] .done) (.only 7 (.alt 1 (sq [17,19,20,23] .done) (sq [17,3,19,20,23] .done)))))))]),
 (156,[(9,([3],(sq [0,4,6,8,10,12,14,16,18,20,22,24,26] (.alt 1 (sq [29,30,33,35,36,39] .done) (.only 14 (.take 15 (.alt 1 (sq [33,35,36,39] .done) (sq [33,3,35,36,39] .done)))))))),(20,([6],(sq [0,4,6,8,10,12,14,16,18,20] (.alt 1 (sq [23,25,27,28,31] .done) (.only 11 (.alt 1 (sq [25,27,28,31] .done) (sq [25,3,27,28,31] .done)))))))]),
 (160,[(8,([7],(sq [0,2,4,6,8,10,12,15,17] .done))),(17,([4,42],(sq [0,2,4,7,9,10] .done)))]),
 (164,[(16,([8],(sq [0,2,4,6,8,10,12,14,17,18,20,22,24,26] .done)))]),
 (165,[(1,([2],(sq [0,2,4,6,9,11,12] .done))),(3,([2],(sq [0,2,4,6,9,11,12] .done))),(7,([2],(sq [0,2,4,6,8,10,12,15,17,18] .done)))]),
 (166,[(6,([3],(sq [0,2,4,6,8,10,12,14,16,18,20,22,25,27,28] .done)))]),
 (168,[(15,([11],(sq [0,2,4,6,8,10,12,14,16,18,21,23,25,26] .done))),(19,([10,11],(sq [0,2,4,6,8,10,12,14,16] (.alt 9 (sq [20,22,24,27,29,30] .done) (sq [27,19,20,22,24,29,30] .done)))))]),
 (169,[(6,([3],(sq [0,2,4,6,8,10,12,14,16,18,20,22,25,27,28] .done)))]),
 (174,[(1,([1],(sq [0,2,4,6,8,10,12,15,16,18,22,24,21,27,28,30] .done)))]),
 (176,[(5,([],(sq [0,2,4,6,8,10,12,14,16,20,22,24,26,28,19,31,32] .done))),(7,([],(sq [0,2,4,6,8,10,12,14,18,20,22,24,26,17,29,30,32] .done))),(10,([3],(sq [2,4,6,8,10,1,13,14] .done))),(11,([],(sq [0,2,4,6,8,10,12,14,16,18,20,22,24,26,28,30,32,34,36,38,40,42,44,46,48,51,52,54] .done)))]),
 (178,[(6,([],(sq [0,2,4,6,8,10,12,14,16] .done)))]),
 (179,[(6,([],(sq [0,2,4,6,8,10,12,14,16,18,21,22] .done)))]),
 (180,[(6,([],(sq [0,2,4,6,8,10,12,14,16,18,20,22,24,26,28,30,32,34,36,38,40,42,44,46,48,50,53,54,56] .done)))]),
 (181,[(6,([],(sq [0,2,4,6,8,10,12,14,16] .done)))]),
 (182,[(6,([],(sq [0,2,4,6,8,10,12,14,17,18] .done)))]),
 (185,[(13,([],(sq [0,2,4,6,8,10,12,14,16,18,20] .done))),(18,([7],(sq [0,2,4,6,8,10,12,14,16,18,20,22,24,26,28,30,32,34,36,38,40,42,44,46,48,50,52,54,56,58,60,62,64,66,68,70,72,74,76,78,80,82,84,86,88,90,93,94] .done)))]),
 (186,[(7,([],(sq [0,2,4,6,8,10,12,14,16,18,20,22,24,26,28,30,32,34,36] .done)))]),
 (188,[(12,([],(sq [0,2,4,6,8,10,12,14,16,19,21] .done)))])]
 fnumL:=[3,8,9,19,34,71,66,105,64,106,65,103,32,107,143,35,41,36,42,78,37,40,35,41,39,77,42,72,38,36,74,73,108,109,110,145,162,167,171,173,174,175,176,177,178,179,180,134,158,140,159,165,160,181,168,172,186,184,182,183,185,169,142,144,75,76,10,22,20,43,79,81,82,114,147,163,148,44,83,29,84,45,85,115,149,116,86,87,117,150,118,88,119,95,130,124,126,131,156,132,157,152,164,151,89,120,153,121,90,122,127,155,154,21,46,47,48,49,50,91,123,51,23,24,52,53,92,125,93,94,127,155,128,129,54,93,93,55,56,97,25,13,29,30,11,18,33,67,68,69,104,138,139,141,70,17,31,63,102,137,26,14,57,58,59,98,15,133,99,15,135,161,166,170,100,60,101,136,27,12,28,61,62,14,4,5,16,6,7]
 fnL:=[Tryz.f3,Tryz.f8,Tryz.f9,Tryz.f19,Tryz.f34,Tryz.f71,Tryz.f66,Tryz.f105,Tryz.f64,Tryz.f106,Tryz.f65,Tryz.f103,Tryz.f32,Tryz.f107,Tryz.f143,Tryz.f35,Tryz.f41,Tryz.f36,Tryz.f42,Tryz.f78,Tryz.f37,Tryz.f40,Tryz.f35,Tryz.f41,Tryz.f39,Tryz.f77,Tryz.f42,Tryz.f72,Tryz.f38,Tryz.f36,Tryz.f74,Tryz.f73,Tryz.f108,Tryz.f109,Tryz.f110,Tryz.f145,Tryz.f162,Tryz.f167,Tryz.f171,Tryz.f173,Tryz.f174,Tryz.f175,Tryz.f176,Tryz.f177,Tryz.f178,Tryz.f179,Tryz.f180,Tryz.f134,Tryz.f158,Tryz.f140,Tryz.f159,Tryz.f165,Tryz.f160,Tryz.f181,Tryz.f168,Tryz.f172,Tryz.f186,Tryz.f184,Tryz.f182,Tryz.f183,Tryz.f185,Tryz.f169,Tryz.f142,Tryz.f144,Tryz.f75,Tryz.f76,Tryz.f10,Tryz.f22,Tryz.f20,Tryz.f43,Tryz.f79,Tryz.f81,Tryz.f82,Tryz.f114,Tryz.f147,Tryz.f163,Tryz.f148,Tryz.f44,Tryz.f83,Tryz.f29,Tryz.f84,Tryz.f45,Tryz.f85,Tryz.f115,Tryz.f149,Tryz.f116,Tryz.f86,Tryz.f87,Tryz.f117,Tryz.f150,Tryz.f118,Tryz.f88,Tryz.f119,Tryz.f95,Tryz.f130,Tryz.f124,Tryz.f126,Tryz.f131,Tryz.f156,Tryz.f132,Tryz.f157,Tryz.f152,Tryz.f164,Tryz.f151,Tryz.f89,Tryz.f120,Tryz.f153,Tryz.f121,Tryz.f90,Tryz.f122,Tryz.f127,Tryz.f155,Tryz.f154,Tryz.f21,Tryz.f46,Tryz.f47,Tryz.f48,Tryz.f49,Tryz.f50,Tryz.f91,Tryz.f123,Tryz.f51,Tryz.f23,Tryz.f24,Tryz.f52,Tryz.f53,Tryz.f92,Tryz.f125,Tryz.f93,Tryz.f94,Tryz.f127,Tryz.f155,Tryz.f128,Tryz.f129,Tryz.f54,Tryz.f93,Tryz.f93,Tryz.f55,Tryz.f56,Tryz.f97,Tryz.f25,Tryz.f13,Tryz.f29,Tryz.f30,Tryz.f11,Tryz.f18,Tryz.f33,Tryz.f67,Tryz.f68,Tryz.f69,Tryz.f104,Tryz.f138,Tryz.f139,Tryz.f141,Tryz.f70,Tryz.f17,Tryz.f31,Tryz.f63,Tryz.f102,Tryz.f137,Tryz.f26,Tryz.f14,Tryz.f57,Tryz.f58,Tryz.f59,Tryz.f98,Tryz.f15,Tryz.f133,Tryz.f99,Tryz.f15,Tryz.f135,Tryz.f161,Tryz.f166,Tryz.f170,Tryz.f100,Tryz.f60,Tryz.f101,Tryz.f136,Tryz.f27,Tryz.f12,Tryz.f28,Tryz.f61,Tryz.f62,Tryz.f14,Tryz.f4,Tryz.f5,Tryz.f16,Tryz.f6,Tryz.f7]
 placeL:=[(1,[true,true,false,true]),(1,[true,true,false,true,false,false,true,false,false,true,true,false,true]),(1,[true,true,false,true,false,false,true,false,false,true,true,true,true]),(1,[true,true,false,true,false,false,true,false,false,true,true,true,true,false,false,true,false,false,true,true,true]),(0,[]),(0,[]),(5,[true,true,false,true,false,false]),(7,[true,true,false,true]),(5,[true,true,true,false,true,false,false]),(10,[true,true,false,true]),(12,[true,true,false,true]),(13,[true,true,false,true]),(4,[true,true,true,true,false]),(4,[true,true,true,true,false,false,false,true,false,true,false,true,false,false]),(0,[]),(0,[]),(0,[]),(27,[true,true,true,true,false]),(0,[]),(0,[]),(0,[]),(0,[]),(50,[true,true,false,true]),(47,[true,true,true,true,true,true,true,false,true]),(0,[]),(56,[true,true,true,false]),(0,[]),(43,[true,true,false]),(0,[]),(42,[true,true,false]),(0,[]),(40,[true,true,false]),(0,[]),(39,[true,true,false]),(0,[]),(38,[true,true,false]),(0,[]),(0,[]),(0,[]),(0,[]),(0,[]),(0,[]),(0,[]),(62,[true,true,false,true]),(62,[true,true,false,true,false,false,true,false,false,true,true,true]),(0,[]),(35,[true,true]),(34,[true,true,true]),(0,[]),(63,[true,true,true,true,false]),(31,[true,true,false]),(0,[]),(64,[true,true,false]),(0,[]),(65,[true,true,false]),(0,[]),(0,[]),(0,[]),(0,[]),(0,[]),(0,[]),(0,[]),(0,[]),(0,[]),(0,[]),(0,[]),(0,[]),(0,[]),(0,[]),(3,[true,true,true,true,true,false]),(3,[true,true,true,true,true,true,true,true,true,true]),(73,[true,true,true,false]),(79,[true,false,true]),(84,[true,false,true]),(89,[true,false,true]),(93,[true,true,true,false,true]),(94,[true,true,true]),(94,[true,true,true,true]),(93,[true,true,true,false,true,false,false,true,true,false,false,true,true,true]),(98,[true,false,true]),(0,[]),(0,[]),(0,[]),(0,[]),(0,[]),(0,[]),(100,[true,true,false,true]),(100,[true,true,false,true,false,false,true,true,false,false,true,false,true]),(102,[true,false,true]),(106,[true,false,true]),(111,[true,false,true]),(0,[]),(0,[]),(0,[]),(0,[]),(0,[]),(0,[]),(0,[]),(0,[]),(0,[]),(120,[true,true,false,true]),(0,[]),(0,[]),(0,[]),(0,[]),(0,[]),(0,[]),(0,[]),(0,[]),(0,[]),(0,[]),(0,[]),(0,[]),(0,[]),(0,[]),(0,[]),(0,[]),(0,[]),(0,[]),(0,[]),(0,[]),(0,[]),(0,[]),(0,[]),(0,[]),(0,[]),(0,[]),(0,[]),(0,[]),(0,[]),(0,[]),(0,[]),(0,[]),(0,[]),(0,[]),(0,[]),(0,[]),(0,[]),(0,[]),(0,[]),(0,[]),(0,[]),(0,[]),(0,[]),(0,[]),(0,[]),(0,[]),(0,[]),(0,[]),(0,[]),(113,[true,true,false,true]),(113,[true,true,false,true,false,false,true,true,false,false,true,true,true]),(113,[true,true,false,true,false,false,true,true,false,false,true,true,true,false,true]),(113,[true,true,false,true,false,false,true,true,false,false,true,true,true,true,true]),(113,[true,true,false,true,false,false,true,true,false,false,true,true,true,true,true,false,false,true,true,false,false,true,true,true]),(113,[true,true,false,true,false,false,true,true,false,false,true,true,true,true,true,false,false,true,true,false,false,true,true,true,true]),(0,[]),(0,[]),(0,[]),(0,[]),(0,[]),(0,[]),(124,[true]),(0,[]),(0,[]),(0,[]),(0,[]),(0,[]),(0,[]),(127,[true,true,false,true]),(126,[true,true,true,true,true,false,true]),(0,[]),(0,[]),(0,[]),(0,[]),(0,[]),(0,[]),(0,[]),(131,[true,false,true]),(0,[]),(133,[true,false,true]),(0,[]),(129,[true,true,true,true,false,true]),(129,[true,true,true,true,false,true,false,false,true,true,false,false,true,false,true,true,true,true,false,true]),(0,[]),(0,[]),(0,[]),(0,[]),(0,[]),(0,[]),(125,[true,true,true,true,true,true,false,true]),(125,[true,true,true,true,true,true,true,false,true]),(125,[true,true,true,true,true,true,true,true,true,true]),(122,[true,true,true,true,true,true]),(122,[true,true,true,true,true,true,false,true]),(122,[true,true,true,true,true,true,true,false,true]),(122,[true,true,true,true,true,true,true,false,true,false,false,true,true,false,false,true,true,true,false,true]),(122,[true,true,true,true,true,true,true,true,true,true,false,true]),(138,[true]),(139,[true,true,false,true]),(0,[]),(66,[true,true,true,true,true,true,false]),(140,[true,true,false,true]),(142,[true,false,true]),(145,[true,true,false,true]),(147,[true,false,true]),(146,[true,true,true,true,false,true]),(150,[true,true,true,false,true]),(150,[true,true,true,false,true,false,false,true,false,false,true,true,false,true]),(153,[true,true,true,false,true]),(150,[true,true,true,true,false,true]),(149,[true,true,false,true]),(146,[true,true,true,true,true,false,true]),(154,[true,true,false,true,false,true,true,true,true,true,true,true,false,false,true]),(0,[]),(0,[]),(0,[]),(159,[true,true,true,false,true]),(0,[]),(0,[]),(0,[]),(0,[]),(0,[]),(0,[]),(0,[]),(0,[]),(0,[]),(0,[]),(0,[]),(0,[]),(0,[]),(0,[]),(156,[true,true,true,true,true,true,false,true]),(156,[true,true,true,true,true,true,true,false,true]),(156,[true,true,true,true,true,true,true,false,true,false,false,true,false,false,true,true,true,true,false,true]),(0,[]),(0,[]),(155,[true,true,false,true]),(144,[true,true,true,false,true]),(161,[true,false,true]),(0,[]),(0,[]),(0,[]),(163,[true,false,true]),(0,[]),(0,[]),(0,[]),(166,[true,true,false,true]),(167,[true,false,true]),(0,[]),(165,[true,true,true,false,true]),(0,[]),(0,[]),(0,[]),(0,[]),(0,[]),(169,[true,true,false,true]),(0,[]),(0,[]),(0,[]),(0,[]),(0,[]),(0,[]),(0,[]),(0,[]),(0,[]),(0,[]),(0,[]),(0,[]),(0,[]),(0,[]),(173,[true,false,true]),(0,[]),(0,[]),(0,[]),(0,[]),(0,[]),(0,[]),(172,[true,true,false,true]),(172,[true,true,true,true,true,true,false,true]),(172,[true,true,true,true,true,true,false,true,false,false,true,false,false,true,true]),(172,[true,true,true,true,true,true,false,true,false,false,true,false,false,true,true,false,true,true,true,true,false,true]),(0,[]),(0,[]),(0,[]),(0,[]),(0,[]),(0,[]),(0,[]),(0,[]),(0,[]),(168,[true,true,true,true,false,true]),(168,[true,true,true,true,true,true,false,true]),(168,[true,true,true,true,true,true,true,false,true]),(168,[true,true,true,true,true,true,true,false,true,false,false,true,false,false,true]),(0,[]),(164,[true,true,true,true,false,true]),(0,[]),(0,[]),(0,[]),(0,[]),(176,[true,true,false,true]),(177,[true,true,false,true]),(175,[true,true,true,false,true]),(160,[true,true,true,true,false,true]),(178,[true,true,false,true]),(179,[true,true,false,true]),(180,[true,true,false,true]),(181,[true,true,false,true]),(180,[true,true,true,false,true]),(182,[true,true,false,true]),(183,[true,false,true]),(184,[true,true,true,true,false,true]),(184,[true,true,true,true,false,true,false,false,true,false,false,true]),(0,[]),(0,[]),(0,[]),(0,[]),(186,[true,false,true]),(186,[true,false,true,false,false,true,false,false,true]),(185,[true,true,true,true,true,false,true]),(185,[true,true,true,true,true,false,true,false,false,true,false,false,true,true,true,true])] }
def xf:b8D.tb.RF:=fun φ => match φ with
 | 70 => fun (d:List UInt8) => (fun (d1:List UInt8) => (
    some (a2B d1):Option (List UInt8))) d
 | 137 => fun (d:List (List UInt8 × Bool)) => (fun (d1:List (List UInt8 × Bool)) => (
    some (d1,d1):Option (List (List UInt8 × Bool) × List (List UInt8 × Bool)))) d
 | _ => fun _ => none
def T:Tbl:=b8D.tbl xf
def U0 {A:Type} (f:A) (_:Unit):A:=f
def U2 {A B R:Type} (f:A → B → R) (d:A × B):R:=f d.1 d.2
def U3 {A0 A1 A2 R:Type} (f:A0 → A1 → A2 → R) (d:A0 × A1 × A2):R:=U2 (f d.1) d.2
def U4 {A0 A1 A2 A3 R:Type} (f:A0 → A1 → A2 → A3 → R) (d:A0 × A1 × A2 × A3):R:=U3 (f d.1) d.2
def U5 {A0 A1 A2 A3 A4 R:Type} (f:A0 → A1 → A2 → A3 → A4 → R) (d:A0 × A1 × A2 × A3 × A4):R:=U4 (f d.1) d.2
def U6 {A0 A1 A2 A3 A4 A5 R:Type} (f:A0 → A1 → A2 → A3 → A4 → A5 → R) (d:A0 × A1 × A2 × A3 × A4 × A5):R:=U5 (f d.1) d.2
def U7 {A0 A1 A2 A3 A4 A5 A6 R:Type} (f:A0 → A1 → A2 → A3 → A4 → A5 → A6 → R) (d:A0 × A1 × A2 × A3 × A4 × A5 × A6):R:=U6 (f d.1) d.2
def U8 {A0 A1 A2 A3 A4 A5 A6 A7 R:Type} (f:A0 → A1 → A2 → A3 → A4 → A5 → A6 → A7 → R) (d:A0 × A1 × A2 × A3 × A4 × A5 × A6 × A7):R:=U7 (f d.1) d.2
def U9 {A0 A1 A2 A3 A4 A5 A6 A7 A8 R:Type} (f:A0 → A1 → A2 → A3 → A4 → A5 → A6 → A7 → A8 → R) (d:A0 × A1 × A2 × A3 × A4 × A5 × A6 × A7 × A8):R:=U8 (f d.1) d.2
def U10 {A0 A1 A2 A3 A4 A5 A6 A7 A8 A9 R:Type} (f:A0 → A1 → A2 → A3 → A4 → A5 → A6 → A7 → A8 → A9 → R) (d:A0 × A1 × A2 × A3 × A4 × A5 × A6 × A7 × A8 × A9):R:=U9 (f d.1) d.2
def U11 {A0 A1 A2 A3 A4 A5 A6 A7 A8 A9 A10 R:Type} (f:A0 → A1 → A2 → A3 → A4 → A5 → A6 → A7 → A8 → A9 → A10 → R) (d:A0 × A1 × A2 × A3 × A4 × A5 × A6 × A7 × A8 × A9 × A10):R:=U10 (f d.1) d.2
def U12 {A0 A1 A2 A3 A4 A5 A6 A7 A8 A9 A10 A11 R:Type} (f:A0 → A1 → A2 → A3 → A4 → A5 → A6 → A7 → A8 → A9 → A10 → A11 → R) (d:A0 × A1 × A2 × A3 × A4 × A5 × A6 × A7 × A8 × A9 × A10 × A11):R:=U11 (f d.1) d.2
def U13 {A0 A1 A2 A3 A4 A5 A6 A7 A8 A9 A10 A11 A12 R:Type} (f:A0 → A1 → A2 → A3 → A4 → A5 → A6 → A7 → A8 → A9 → A10 → A11 → A12 → R) (d:A0 × A1 × A2 × A3 × A4 × A5 × A6 × A7 × A8 × A9 × A10 × A11 × A12):R:=U12 (f d.1) d.2
def U14 {A0 A1 A2 A3 A4 A5 A6 A7 A8 A9 A10 A11 A12 A13 R:Type} (f:A0 → A1 → A2 → A3 → A4 → A5 → A6 → A7 → A8 → A9 → A10 → A11 → A12 → A13 → R) (d:A0 × A1 × A2 × A3 × A4 × A5 × A6 × A7 × A8 × A9 × A10 × A11 × A12 × A13):R:=U13 (f d.1) d.2
def U15 {A0 A1 A2 A3 A4 A5 A6 A7 A8 A9 A10 A11 A12 A13 A14 R:Type} (f:A0 → A1 → A2 → A3 → A4 → A5 → A6 → A7 → A8 → A9 → A10 → A11 → A12 → A13 → A14 → R) (d:A0 × A1 × A2 × A3 × A4 × A5 × A6 × A7 × A8 × A9 × A10 × A11 × A12 × A13 × A14):R:=U14 (f d.1) d.2
abbrev EqF (f:Nat) (X:T.RF → T.RB → (T.kin f).ct.denote → Option (H4 (T.kouts f)).denote):Prop:=∀ rf rb d,X rf rb d = T.a2H rf rb f d
abbrev EqB (f:Nat) (X:T.RF → T.RB → (T.bk f).ins.ct.denote → Option (H0 (T.bk f).exits).denote):Prop:=∀ rf rb d,X rf rb d = T.a0R rf rb f d
abbrev W0 {P Q R:Type} (f:P → Q → R):=fun (a:P) (b:Q) => U0 (f a b)
abbrev W2 {P Q A0 A1 R:Type} (f:P → Q → A0 → A1 → R):=fun (a:P) (b:Q) => U2 (f a b)
abbrev W3 {P Q A0 A1 A2 R:Type} (f:P → Q → A0 → A1 → A2 → R):=fun (a:P) (b:Q) => U3 (f a b)
abbrev W4 {P Q A0 A1 A2 A3 R:Type} (f:P → Q → A0 → A1 → A2 → A3 → R):=fun (a:P) (b:Q) => U4 (f a b)
abbrev W5 {P Q A0 A1 A2 A3 A4 R:Type} (f:P → Q → A0 → A1 → A2 → A3 → A4 → R):=fun (a:P) (b:Q) => U5 (f a b)
abbrev W6 {P Q A0 A1 A2 A3 A4 A5 R:Type} (f:P → Q → A0 → A1 → A2 → A3 → A4 → A5 → R):=fun (a:P) (b:Q) => U6 (f a b)
abbrev W7 {P Q A0 A1 A2 A3 A4 A5 A6 R:Type} (f:P → Q → A0 → A1 → A2 → A3 → A4 → A5 → A6 → R):=fun (a:P) (b:Q) => U7 (f a b)
abbrev W8 {P Q A0 A1 A2 A3 A4 A5 A6 A7 R:Type} (f:P → Q → A0 → A1 → A2 → A3 → A4 → A5 → A6 → A7 → R):=fun (a:P) (b:Q) => U8 (f a b)
abbrev W9 {P Q A0 A1 A2 A3 A4 A5 A6 A7 A8 R:Type} (f:P → Q → A0 → A1 → A2 → A3 → A4 → A5 → A6 → A7 → A8 → R):=fun (a:P) (b:Q) => U9 (f a b)
abbrev W10 {P Q A0 A1 A2 A3 A4 A5 A6 A7 A8 A9 R:Type} (f:P → Q → A0 → A1 → A2 → A3 → A4 → A5 → A6 → A7 → A8 → A9 → R):=fun (a:P) (b:Q) => U10 (f a b)
abbrev W11 {P Q A0 A1 A2 A3 A4 A5 A6 A7 A8 A9 A10 R:Type} (f:P → Q → A0 → A1 → A2 → A3 → A4 → A5 → A6 → A7 → A8 → A9 → A10 → R):=fun (a:P) (b:Q) => U11 (f a b)
abbrev W13 {P Q A0 A1 A2 A3 A4 A5 A6 A7 A8 A9 A10 A11 A12 R:Type} (f:P → Q → A0 → A1 → A2 → A3 → A4 → A5 → A6 → A7 → A8 → A9 → A10 → A11 → A12 → R):=fun (a:P) (b:Q) => U13 (f a b)
abbrev W15 {P Q A0 A1 A2 A3 A4 A5 A6 A7 A8 A9 A10 A11 A12 A13 A14 R:Type} (f:P → Q → A0 → A1 → A2 → A3 → A4 → A5 → A6 → A7 → A8 → A9 → A10 → A11 → A12 → A13 → A14 → R):=fun (a:P) (b:Q) => U15 (f a b)
abbrev IF0 {R:Type} (X:T.RF → T.RB → Option R) (C:T.RF → Option R):Prop:=∀ {y},X T.rf T.rb = some y → C T.rf = some y
abbrev IF1 {A0 R:Type} (X:T.RF → T.RB → A0 → Option R) (C:T.RF → A0 → Option R):Prop:=∀ {d1 y},X T.rf T.rb d1 = some y → C T.rf d1 = some y
abbrev IF2 {A0 A1 R:Type} (X:T.RF → T.RB → A0 → A1 → Option R) (C:T.RF → A0 → A1 → Option R):Prop:=∀ {d1 d2 y},X T.rf T.rb d1 d2 = some y → C T.rf d1 d2 = some y
abbrev IB2 {A0 A1 R:Type} (X:T.RF → T.RB → A0 → A1 → Option R) (C:T.RB → A0 → A1 → Option R):Prop:=∀ {d1 d2 y},X T.rf T.rb d1 d2 = some y → C T.rb d1 d2 = some y
abbrev IF3 {A0 A1 A2 R:Type} (X:T.RF → T.RB → A0 → A1 → A2 → Option R) (C:T.RF → A0 → A1 → A2 → Option R):Prop:=∀ {d1 d2 d3 y},X T.rf T.rb d1 d2 d3 = some y → C T.rf d1 d2 d3 = some y
abbrev IB3 {A0 A1 A2 R:Type} (X:T.RF → T.RB → A0 → A1 → A2 → Option R) (C:T.RB → A0 → A1 → A2 → Option R):Prop:=∀ {d1 d2 d3 y},X T.rf T.rb d1 d2 d3 = some y → C T.rb d1 d2 d3 = some y
abbrev IF4 {A0 A1 A2 A3 R:Type} (X:T.RF → T.RB → A0 → A1 → A2 → A3 → Option R) (C:T.RF → A0 → A1 → A2 → A3 → Option R):Prop:=∀ {d1 d2 d3 d4 y},X T.rf T.rb d1 d2 d3 d4 = some y → C T.rf d1 d2 d3 d4 = some y
abbrev IB4 {A0 A1 A2 A3 R:Type} (X:T.RF → T.RB → A0 → A1 → A2 → A3 → Option R) (C:T.RB → A0 → A1 → A2 → A3 → Option R):Prop:=∀ {d1 d2 d3 d4 y},X T.rf T.rb d1 d2 d3 d4 = some y → C T.rb d1 d2 d3 d4 = some y
abbrev IF5 {A0 A1 A2 A3 A4 R:Type} (X:T.RF → T.RB → A0 → A1 → A2 → A3 → A4 → Option R) (C:T.RF → A0 → A1 → A2 → A3 → A4 → Option R):Prop:=∀ {d1 d2 d3 d4 d5 y},X T.rf T.rb d1 d2 d3 d4 d5 = some y → C T.rf d1 d2 d3 d4 d5 = some y
abbrev IB5 {A0 A1 A2 A3 A4 R:Type} (X:T.RF → T.RB → A0 → A1 → A2 → A3 → A4 → Option R) (C:T.RB → A0 → A1 → A2 → A3 → A4 → Option R):Prop:=∀ {d1 d2 d3 d4 d5 y},X T.rf T.rb d1 d2 d3 d4 d5 = some y → C T.rb d1 d2 d3 d4 d5 = some y
abbrev IB6 {A0 A1 A2 A3 A4 A5 R:Type} (X:T.RF → T.RB → A0 → A1 → A2 → A3 → A4 → A5 → Option R) (C:T.RB → A0 → A1 → A2 → A3 → A4 → A5 → Option R):Prop:=∀ {d1 d2 d3 d4 d5 d6 y},X T.rf T.rb d1 d2 d3 d4 d5 d6 = some y → C T.rb d1 d2 d3 d4 d5 d6 = some y
abbrev IB7 {A0 A1 A2 A3 A4 A5 A6 R:Type} (X:T.RF → T.RB → A0 → A1 → A2 → A3 → A4 → A5 → A6 → Option R) (C:T.RB → A0 → A1 → A2 → A3 → A4 → A5 → A6 → Option R):Prop:=∀ {d1 d2 d3 d4 d5 d6 d7 y},X T.rf T.rb d1 d2 d3 d4 d5 d6 d7 = some y → C T.rb d1 d2 d3 d4 d5 d6 d7 = some y
abbrev IB8 {A0 A1 A2 A3 A4 A5 A6 A7 R:Type} (X:T.RF → T.RB → A0 → A1 → A2 → A3 → A4 → A5 → A6 → A7 → Option R) (C:T.RB → A0 → A1 → A2 → A3 → A4 → A5 → A6 → A7 → Option R):Prop:=∀ {d1 d2 d3 d4 d5 d6 d7 d8 y},X T.rf T.rb d1 d2 d3 d4 d5 d6 d7 d8 = some y → C T.rb d1 d2 d3 d4 d5 d6 d7 d8 = some y
abbrev IB9 {A0 A1 A2 A3 A4 A5 A6 A7 A8 R:Type} (X:T.RF → T.RB → A0 → A1 → A2 → A3 → A4 → A5 → A6 → A7 → A8 → Option R) (C:T.RB → A0 → A1 → A2 → A3 → A4 → A5 → A6 → A7 → A8 → Option R):Prop:=∀ {d1 d2 d3 d4 d5 d6 d7 d8 d9 y},X T.rf T.rb d1 d2 d3 d4 d5 d6 d7 d8 d9 = some y → C T.rb d1 d2 d3 d4 d5 d6 d7 d8 d9 = some y
abbrev d2U {A0 A1 A2 A3 A4 A5 A6 A7 A8 A9 R:Type} (X:T.RF → T.RB → A0 → A1 → A2 → A3 → A4 → A5 → A6 → A7 → A8 → A9 → Option R) (C:T.RB → A0 → A1 → A2 → A3 → A4 → A5 → A6 → A7 → A8 → A9 → Option R):Prop:=∀ {d1 d2 d3 d4 d5 d6 d7 d8 d9 d10 y},X T.rf T.rb d1 d2 d3 d4 d5 d6 d7 d8 d9 d10 = some y → C T.rb d1 d2 d3 d4 d5 d6 d7 d8 d9 d10 = some y
abbrev d2V {A0 A1 A2 A3 A4 A5 A6 A7 A8 A9 A10 R:Type} (X:T.RF → T.RB → A0 → A1 → A2 → A3 → A4 → A5 → A6 → A7 → A8 → A9 → A10 → Option R) (C:T.RB → A0 → A1 → A2 → A3 → A4 → A5 → A6 → A7 → A8 → A9 → A10 → Option R):Prop:=∀ {d1 d2 d3 d4 d5 d6 d7 d8 d9 d10 d11 y},X T.rf T.rb d1 d2 d3 d4 d5 d6 d7 d8 d9 d10 d11 = some y → C T.rb d1 d2 d3 d4 d5 d6 d7 d8 d9 d10 d11 = some y
abbrev d9r {A0 A1 A2 A3 A4 A5 A6 A7 A8 A9 A10 A11 A12 A13 A14 R:Type} (X:T.RF → T.RB → A0 → A1 → A2 → A3 → A4 → A5 → A6 → A7 → A8 → A9 → A10 → A11 → A12 → A13 → A14 → Option R) (C:T.RB → A0 → A1 → A2 → A3 → A4 → A5 → A6 → A7 → A8 → A9 → A10 → A11 → A12 → A13 → A14 → Option R):Prop:=∀ {d1 d2 d3 d4 d5 d6 d7 d8 d9 d10 d11 d12 d13 d14 d15 y},X T.rf T.rb d1 d2 d3 d4 d5 d6 d7 d8 d9 d10 d11 d12 d13 d14 d15 = some y → C T.rb d1 d2 d3 d4 d5 d6 d7 d8 d9 d10 d11 d12 d13 d14 d15 = some y
theorem EqF.g {f X} (e:EqF f X) {rf rb}:∀ d y,X rf rb d = some y → T.a2H rf rb f d = some y:=fun d _ h => (e _ _ d).symm.trans h
theorem EqB.g {f X} (e:EqB f X) {rf rb}:∀ d y,X rf rb d = some y → T.a0R rf rb f d = some y:=fun d _ h => (e _ _ d).symm.trans h
theorem EqF.o {f X} (e:EqF f X) {d y} (h:X T.rf T.rb d = some y):T.rf f d = some y:=T.d0G ((e _ _ d).symm.trans h)
theorem EqB.o {f X} (e:EqB f X) {d y} (h:X T.rf T.rb d = some y):T.rb f d = some y:=T.d0z ((e _ _ d).symm.trans h)
def c0 (rf:T.RF) (d1:XPg) (d2:List UInt8):Option Bool:=rf 0 (d1,d2)
def c1 (rf:T.RF) (d1:XPg):Option Bool:=rf 1 d1
def c2 (rf:T.RF):Option Bool:=rf 2 ()
def c3 (rf:T.RF) (d1:List UInt8):Option (XPg × Int × Int):=rf 3 d1
def c4 (rf:T.RF) (d1:List UInt8):Option (List XK × Int × Int):=rf 4 d1
def c5 (rf:T.RF) (d1:List UInt8) (d2:Int):Option (XK × Int):=rf 5 (d1,d2)
def c6 (rf:T.RF) (d1:Int):Option Bool:=rf 6 d1
def c7 (rf:T.RF) (d1:List UInt8):Option Int:=rf 7 d1
def c8 (rf:T.RF) (d1:Int):Option Bool:=rf 8 d1
def c9 (rf:T.RF) (d1:List UInt8) (d2:Int):Option (XK × Int):=rf 9 (d1,d2)
def c10 (rf:T.RF) (d1:List UInt8):Option Bool:=rf 10 d1
def c11 (rf:T.RF):Option (List (List UInt8)):=rf 11 ()
def c12 (rf:T.RF) (d1:List UInt8):Option Bool:=rf 12 d1
def c13 (rf:T.RF) (d1:List UInt8):Option (List UInt8):=rf 13 d1
def c14 (rf:T.RF):Option (List (List UInt8)):=rf 14 ()
def c16 (rf:T.RF) (d1 d2 d3:Int) (d4:List XK):Option (Int × Int × Int × List XK × Bool):=rf 16 (d1,d2,d3,d4)
def c18 (rf:T.RF) (d1 d2 d3:Int) (d4:List XK) (d5:Int):Option (List XK × Int × Int × Int):=rf 18 (d1,d2,d3,d4,d5)
def c19 (rf:T.RF) (d1:List XK) (d2:Int):Option Int:=rf 19 (d1,d2)
def c20 (rf:T.RF) (d1:List XK × Int × Int × Int):Option ((List XK × Int × Int × Int) × XUn):=rf 20 d1
def c21 (rf:T.RF) (d1:List XK × Int × Int × Int) (d2:List UInt8):Option ((List XK × Int × Int × Int) × Bool):=rf 21 (d1,d2)
def c22 (rf:T.RF) (d1:List XK × Int × Int × Int) (d2:List UInt8):Option ((List XK × Int × Int × Int) × Bool):=rf 22 (d1,d2)
def c23 (rf:T.RF) (d1:List XK × Int × Int × Int):Option ((List XK × Int × Int × Int) × Bool):=rf 23 d1
def c24 (rf:T.RF) (d1:List XK × Int × Int × Int):Option ((List XK × Int × Int × Int) × List UInt8):=rf 24 d1
def c25 (rf:T.RF) (d1:List XK × Int × Int × Int):Option ((List XK × Int × Int × Int) × Bool):=rf 25 d1
def c26 (rf:T.RF) (d1:List XK × Int × Int × Int) (d2:Int):Option (List XK × Int × Int × Int):=rf 26 (d1,d2)
def c27 (rf:T.RF) (d1:List XK × Int × Int × Int):Option ((List XK × Int × Int × Int) × List XPm):=rf 27 d1
def c28 (rf:T.RF) (d1:List XK × Int × Int × Int) (d2:List UInt8):Option (List XK × Int × Int × Int):=rf 28 (d1,d2)
def c29 (rf:T.RF) (d1:List XK × Int × Int × Int) (d2:Int):Option (List XK × Int × Int × Int):=rf 29 (d1,d2)
def c30 (rf:T.RF) (d1:List XK × Int × Int × Int):Option ((List XK × Int × Int × Int) × XPm):=rf 30 d1
def c31 (rf:T.RF) (d1:List XK × Int × Int × Int):Option ((List XK × Int × Int × Int) × List XIt):=rf 31 d1
def c32 (rf:T.RF) (d1:List XK × Int × Int × Int):Option ((List XK × Int × Int × Int) × Bool):=rf 32 d1
def c33 (rf:T.RF) (d1:List XK × Int × Int × Int):Option ((List XK × Int × Int × Int) × XIt × Bool):=rf 33 d1
def c34 (rf:T.RF) (d1:List XK × Int × Int × Int):Option ((List XK × Int × Int × Int) × List XN):=rf 34 d1
def c35 (rf:T.RF) (d1:List XK) (d2:Int):Option (List XN × Int × Int × Int):=rf 35 (d1,d2)
def c36 (rf:T.RF) (d1:List XK × Int × Int × Int × Int):Option ((List XK × Int × Int × Int × Int) × List XN):=rf 36 d1
def c37 (rf:T.RF) (d1:List XK × Int × Int × Int × Int):Option ((List XK × Int × Int × Int × Int) × List XN):=rf 37 d1
def c38 (rf:T.RF) (d1:List XK × Int × Int × Int × Int):Option ((List XK × Int × Int × Int × Int) × List XN):=rf 38 d1
def c39 (rf:T.RF) (d1:List XK × Int × Int × Int × Int):Option ((List XK × Int × Int × Int × Int) × List XN):=rf 39 d1
def c40 (rf:T.RF) (d1:List XK × Int × Int × Int × Int):Option ((List XK × Int × Int × Int × Int) × List XN):=rf 40 d1
def c41 (rf:T.RF) (d1:List XK × Int × Int × Int × Int):Option ((List XK × Int × Int × Int × Int) × List XN):=rf 41 d1
def c42 (rf:T.RF) (d1:List XK × Int × Int × Int × Int):Option ((List XK × Int × Int × Int × Int) × List XN):=rf 42 d1
def c43 (rf:T.RF) (d1:List XK × Int × Int × Int × Int):Option ((List XK × Int × Int × Int × Int) × List XN):=rf 43 d1
def c44 (rf:T.RF) (d1:List XK × Int × Int × Int × Int):Option ((List XK × Int × Int × Int × Int) × List XN):=rf 44 d1
def c45 (rf:T.RF) (d1:List XK × Int × Int × Int × Int) (d2:Int):Option ((List XK × Int × Int × Int × Int) × List XN):=rf 45 (d1,d2)
def c46 (rf:T.RF) (d1:List XK × Int × Int × Int × Int) (d2:XK):Option ((List XK × Int × Int × Int × Int) × List XN):=rf 46 (d1,d2)
def c47 (rf:T.RF) (d1 d2:Int) (d3:List UInt8) (d4:List (List XN)):Option (List XN):=rf 47 (d1,d2,d3,d4)
def c48 (rf:T.RF) (d1 d2:Int) (d3:List UInt8):Option XN:=rf 48 (d1,d2,d3)
def c49 (rf:T.RF) (d1:XN):Option (List Int):=rf 49 d1
def c50 (rf:T.RF) (d1 d2:List XN):Option (List XN):=rf 50 (d1,d2)
def c51 (rf:T.RF) (d1:XN) (d2:Int):Option XN:=rf 51 (d1,d2)
def c52 (rf:T.RF) (d1:XN) (d2:List Int):Option XN:=rf 52 (d1,d2)
def c53 (rf:T.RF) (d1:List XK × Int × Int × Int × Int) (d2:List UInt8):Option ((List XK × Int × Int × Int × Int) × List XN):=rf 53 (d1,d2)
def c54 (rf:T.RF) (d1:List XK × Int × Int × Int × Int) (d2:List UInt8):Option ((List XK × Int × Int × Int × Int) × Bool):=rf 54 (d1,d2)
def c55 (rf:T.RF) (d1:List XK × Int × Int × Int × Int) (d2:List UInt8):Option ((List XK × Int × Int × Int × Int) × Bool):=rf 55 (d1,d2)
def c56 (rf:T.RF) (d1:List XK × Int × Int × Int × Int):Option ((List XK × Int × Int × Int × Int) × List (List XN)):=rf 56 d1
def c57 (rf:T.RF) (d1:List XK × Int × Int × Int × Int) (d2:List UInt8):Option (List XK × Int × Int × Int × Int):=rf 57 (d1,d2)
def c58 (rf:T.RF) (d1:List UInt8):Option Int:=rf 58 d1
def c59 (rf:T.RF) (d1:List XK × Int × Int × Int × Int):Option ((List XK × Int × Int × Int × Int) × List XN):=rf 59 d1
def c60 (rf:T.RF) (d1:List XK × Int × Int × Int × Int):Option ((List XK × Int × Int × Int × Int) × List XN):=rf 60 d1
def c61 (rf:T.RF) (d1:List XK × Int × Int × Int × Int) (d2:Int) (d3 d4:List XN):Option ((List XK × Int × Int × Int × Int) × List XN):=rf 61 (d1,d2,d3,d4)
def c62 (rf:T.RF) (d1:List XN):Option Int:=rf 62 d1
def c63 (rf:T.RF) (d1:List XK × Int × Int × Int):Option ((List XK × Int × Int × Int) × List (List XN)):=rf 63 d1
def c64 (rf:T.RF) (d1:List XK × Int × Int × Int):Option ((List XK × Int × Int × Int) × List XPm):=rf 64 d1
def c65 (rf:T.RF) (d1:List XK × Int × Int × Int):Option ((List XK × Int × Int × Int) × List XEq):=rf 65 d1
def c66 (rf:T.RF) (d1:XPg):Option (XPg × Int × Int):=rf 66 d1
def c68 (rf:T.RF) (d1:XPg):Option Bool:=rf 68 d1
def c69 (rf:T.RF) (d1:List UInt8):Option Bool:=rf 69 d1
def c70 (rf:T.RF) (d1:List UInt8):Option (List UInt8):=rf 70 d1
def c71 (rf:T.RF) (d1:Int):Option Bool:=rf 71 d1
def c72 (rf:T.RF) (d1:List UInt8):Option Bool:=rf 72 d1
def c73 (rf:T.RF) (d1:List (List UInt8)) (d2:List UInt8):Option (Int × Bool):=rf 73 (d1,d2)
def c74 (rf:T.RF) (d1 d2:List UInt8):Option Bool:=rf 74 (d1,d2)
def c75 (rf:T.RF) (d1:List UInt8):Option Bool:=rf 75 d1
def c76 (rf:T.RF) (d1:List UInt8):Option Bool:=rf 76 d1
def c77 (rf:T.RF) (d1:List XUn):Option Bool:=rf 77 d1
def c78 (rf:T.RF) (d1:List XUn):Option Bool:=rf 78 d1
def c79 (rf:T.RF) (d1:List XUn):Option Int:=rf 79 d1
def c80 (rf:T.RF) (d1:XUn):Option Bool:=rf 80 d1
def c81 (rf:T.RF) (d1:XUn):Option Bool:=rf 81 d1
def c82 (rf:T.RF) (d1:List XPm):Option Bool:=rf 82 d1
def c83 (rf:T.RF) (d1:List XPm):Option Bool:=rf 83 d1
def c84 (rf:T.RF) (d1:List XPm):Option Int:=rf 84 d1
def c85 (rf:T.RF) (d1:XPm):Option Bool:=rf 85 d1
def c86 (rf:T.RF) (d1:XPm):Option Bool:=rf 86 d1
def c87 (rf:T.RF) (d1:List XEq):Option Bool:=rf 87 d1
def c88 (rf:T.RF) (d1:List XEq):Option Bool:=rf 88 d1
def c89 (rf:T.RF) (d1:List XEq):Option Int:=rf 89 d1
def c90 (rf:T.RF) (d1:XEq):Option Bool:=rf 90 d1
def c91 (rf:T.RF) (d1:XEq):Option Bool:=rf 91 d1
def c92 (rf:T.RF) (d1:List XN):Option Bool:=rf 92 d1
def c93 (rf:T.RF) (d1:List XN):Option Bool:=rf 93 d1
def c94 (rf:T.RF) (d1:XN):Option Bool:=rf 94 d1
def c95 (rf:T.RF) (d1:XN):Option (List Int):=rf 95 d1
def c96 (rf:T.RF) (d1:XN) (d2:List Int):Option XN:=rf 96 (d1,d2)
def c97 (rf:T.RF) (d1:List Bool) (d2:Bool):Option Bool:=rf 97 (d1,d2)
def c98 (rf:T.RF) (d1:List Bool) (d2:Bool):Option Int:=rf 98 (d1,d2)
def c99 (rf:T.RF) (d1:List XN):Option Int:=rf 99 d1
def d1n (rf:T.RF) (d1:List XN):Option (List Int):=rf 100 d1
def d1o (rf:T.RF) (d1:List XN):Option Bool:=rf 101 d1
def c3e (rf:T.RF) (d1:List XN):Option Int:=rf 102 d1
def d1p (rf:T.RF) (d1:XN):Option Bool:=rf 103 d1
def d1q (rf:T.RF) (d1:List XIt):Option Bool:=rf 104 d1
def d1r (rf:T.RF) (d1:List XIt):Option Bool:=rf 105 d1
def c3f (rf:T.RF) (d1:List XIt):Option Int:=rf 106 d1
def d1s (rf:T.RF) (d1:XIt):Option Bool:=rf 107 d1
def b9S (rf:T.RF) (d1:XIt):Option Bool:=rf 108 d1
def b7r (rf:T.RF) (d1:List (List XN)):Option Bool:=rf 109 d1
def d1t (rf:T.RF) (d1:List (List XN)):Option Bool:=rf 110 d1
def c3g (rf:T.RF) (d1:List (List XN)):Option Int:=rf 111 d1
def d1u (rf:T.RF) (d1:List XN):Option Bool:=rf 112 d1
def d1v (rf:T.RF) (d1:XPg):Option XPg:=rf 113 d1
def d1w (rf:T.RF) (d1:List XUn):Option (List XUn):=rf 114 d1
def N1 (rf:T.RF) (d1:List XPm):Option (List XPm):=rf 115 d1
def a7M (rf:T.RF) (d1:List XEq):Option (List XEq):=rf 116 d1
def c3h (rf:T.RF) (d1:List XIt):Option (List XIt):=rf 117 d1
def N2 (rf:T.RF) (d1:List XN):Option (List XN):=rf 118 d1
def b9T (rf:T.RF) (d1:List XN) (d2:Int):Option (List XN):=rf 119 (d1,d2)
def c3i (rf:T.RF) (d1 d2:List XN) (d3:Int):Option (List XN):=rf 120 (d1,d2,d3)
def b7s (rf:T.RF) (d1:List (List XN)):Option (List (List XN)):=rf 121 d1
def b9U (rf:T.RF) (d1:List (List UInt8 × XUn)) (d2 d3:List (List UInt8 × Bool)) (d4:List XIt) (d5:XUn):Option ((List (List UInt8 × XUn) × List (List UInt8 × Bool) × List (List UInt8 × Bool) × List XIt × Int) ⊕ (List (List UInt8 × XUn) × List (List UInt8 × Bool) × List (List UInt8 × Bool) × List XIt × Int) ⊕ (List XIt × List (List UInt8 × XUn) × List (List UInt8 × Bool) × List (List UInt8 × Bool) × XUn)):=rf 122 (d1,d2,d3,d4,d5)
def C5 (rf:T.RF) (d1:Bool) (d2:Int):Option (Int ⊕ Unit):=rf 123 (d1,d2)
def b9V (rf:T.RF) (d1:List (List UInt8 × XUn)) (d2 d3:List (List UInt8 × Bool)) (d4:List XIt) (d5:List XN):Option ((List (List UInt8 × XUn) × List (List UInt8 × Bool) × List (List UInt8 × Bool) × List XIt × Int) ⊕ (List (List UInt8 × XUn) × List (List UInt8 × Bool) × List (List UInt8 × Bool) × List XIt)):=rf 124 (d1,d2,d3,d4,d5)
def c3j (rf:T.RF) (d1:List (List UInt8 × XUn)) (d2 d3:List (List UInt8 × Bool)) (d4:List XIt) (d5:XIt):Option ((List (List UInt8 × XUn) × List (List UInt8 × Bool) × List (List UInt8 × Bool) × List XIt × Int) ⊕ (List (List UInt8 × XUn) × List (List UInt8 × Bool) × List (List UInt8 × Bool) × List XIt × Int) ⊕ (List (List UInt8 × XUn) × List (List UInt8 × Bool) × List (List UInt8 × Bool) × List XIt)):=rf 125 (d1,d2,d3,d4,d5)
def b7t (rf:T.RF) (d1 d2:Int) (d3:List UInt8) (d4:List (List XN)):Option (List XN):=rf 126 (d1,d2,d3,d4)
def c3k (rf:T.RF) (d1 d2:List XN):Option (List XN):=rf 127 (d1,d2)
def b9W (rf:T.RF) (d1:List XN) (d2:List (List UInt8)) (d3:List (List XN)):Option (List XN):=rf 129 (d1,d2,d3)
def d1x (rf:T.RF) (d1:List (List XN)):Option Bool:=rf 130 d1
def d1y (rf:T.RF) (d1:List (List XN)):Option Int:=rf 131 d1
def d1z (rf:T.RF) (d1:List XN):Option Bool:=rf 132 d1
def d1A (rf:T.RF) (d1:List (List UInt8)) (d2:List UInt8):Option Int:=rf 133 (d1,d2)
def b2M (rf:T.RF) (d1:List (List UInt8 × XUn)) (d2 d3:List (List UInt8 × Bool)) (d4:List XIt) (d5:XIt):Option ((List (List UInt8 × XUn) × List (List UInt8 × Bool) × List (List UInt8 × Bool) × List XIt × Int) ⊕ (List (List UInt8 × XUn) × List (List UInt8 × Bool) × List (List UInt8 × Bool) × List XIt)):=rf 134 (d1,d2,d3,d4,d5)
def c3l (rf:T.RF) (d1:List (List UInt8)) (d2:List (List XN)) (d3:List XN):Option (List (List UInt8) × List (List XN) × List XN × Bool):=rf 136 (d1,d2,d3)
def d1B (rf:T.RF) (d1:List (List UInt8 × Bool)):Option (List (List UInt8 × Bool) × List (List UInt8 × Bool)):=rf 137 d1
def d1C (rf:T.RF) (d1:List (List UInt8 × XUn)) (d2 d3:List (List UInt8 × Bool)) (d4:List XIt) (d5:List XN):Option ((List (List UInt8 × XUn) × List (List UInt8 × Bool) × List (List UInt8 × Bool) × List XIt × Int) ⊕ (List (List UInt8 × XUn) × List (List UInt8 × Bool) × List (List UInt8 × Bool) × List XIt)):=rf 138 (d1,d2,d3,d4,d5)
def d1D (rf:T.RF) (d1:List XN) (d2:XN):Option Int:=rf 139 (d1,d2)
def c3m (rf:T.RF) (d1 d2:List XPm):Option Bool:=rf 140 (d1,d2)
def b9X (rf:T.RF) (d1:XPg) (d2:List UInt8):Option Int:=rf 141 (d1,d2)
def d1E (rf:T.RF) (d1:List UInt8) (d2:List XUn):Option XPm:=rf 142 (d1,d2)
def d1F (rf:T.RF) (d1:List UInt8) (d2:XUn):Option (List UInt8 × Bool):=rf 143 (d1,d2)
def d1G (rf:T.RF) (d1:XPg):Option (XPg × Int × Int):=rf 144 d1
def c3n (rf:T.RF) (d1:XPg):Option Bool:=rf 145 d1
def d1H (rf:T.RF) (d1:XUn):Option Bool:=rf 146 d1
def c3o (rf:T.RF) (d1:List XPm):Option Bool:=rf 147 d1
def a5p (rf:T.RF) (d1:XPm):Option Bool:=rf 148 d1
def M1 (rf:T.RF) (d1:List XN):Option Bool:=rf 149 d1
def b4F (rf:T.RF) (d1:List XN):Option Bool:=rf 150 d1
def d1I (rf:T.RF) (d1:XN):Option Bool:=rf 151 d1
def d1J (rf:T.RF) (d1:XN):Option Bool:=rf 152 d1
def c3p (rf:T.RF) (d1:List XN) (d2:Int):Option Bool:=rf 153 (d1,d2)
def d1K (rf:T.RF) (d1:XIt):Option Bool:=rf 154 d1
def c3q (rf:T.RF) (d1:XPg):Option XPg:=rf 155 d1
def b9Y (rf:T.RF) (d1:XUn):Option XUn:=rf 156 d1
def a6Z (rf:T.RF) (d1:List XN):Option (List XN):=rf 157 d1
def d1L (rf:T.RF) (d1:List XN) (d2:Int):Option (List XN):=rf 158 (d1,d2)
def c3r (rf:T.RF) (d1 d2:List XN) (d3:Int):Option (List XN):=rf 159 (d1,d2,d3)
def c3s (rf:T.RF) (d1:List XUn) (d2 d3:List UInt8) (d4:Int):Option (List XUn × XUn × Int):=rf 160 (d1,d2,d3,d4)
def a9O (rf:T.RF) (d1:List XUn) (d2 d3 d4:List UInt8):Option (List XUn × Int):=rf 161 (d1,d2,d3,d4)
def b7u (rf:T.RF) (d1:XUn):Option (List XPm):=rf 162 d1
def a5q (rf:T.RF) (d1:List XPm) (d2:List UInt8):Option Bool:=rf 163 (d1,d2)
def c3t (rf:T.RF) (d1:List XUn) (d2 d3:List UInt8) (d4:Int):Option (List XUn × List XIt × Int):=rf 164 (d1,d2,d3,d4)
def d1M (rf:T.RF) (d1:List XIt) (d2:XIt) (d3:List XPm):Option (List XIt × Int):=rf 165 (d1,d2,d3)
def b7v (rf:T.RF) (d1:List XIt):Option (List XIt × List XPm):=rf 166 d1
def b9Z (rf:T.RF) (d1:List XN) (d2 d3:List XPm):Option Int:=rf 167 (d1,d2,d3)
def c3u (rf:T.RF) (d1:List XIt) (d2:XUn) (d3:XIt) (d4:List XPm):Option ((List XIt × Int) ⊕ (List XIt × Int)):=rf 168 (d1,d2,d3,d4)
def c0a (rf:T.RF) (d1:List XIt):Option (List XPm):=rf 169 d1
def c0b (rf:T.RF) (d1:XIt) (d2:List UInt8) (d3:List (List UInt8)) (d4:List (List XN)):Option (XIt × Int):=rf 170 (d1,d2,d3,d4)
def c3v (rf:T.RF) (d1:List XN) (d2:List (List UInt8)) (d3:List (List XN)):Option (List XN × Int):=rf 171 (d1,d2,d3)
def d1N (rf:T.RF) (d1:List XN) (d2:List (List UInt8)) (d3:List (List XN)):Option (List XN):=rf 172 (d1,d2,d3)
def d1O (rf:T.RF) (d1:List (List UInt8)) (d2:List UInt8):Option Int:=rf 173 (d1,d2)
def c3w (rf:T.RF) (d1:List XIt) (d2:List XPm) (d3:XIt):Option ((List XIt × Int) ⊕ (List XIt × Int)):=rf 174 (d1,d2,d3)
def c3x (rf:T.RF) (d1:List XUn) (d2 d3:List UInt8) (d4:Int):Option (List XUn × Int):=rf 175 (d1,d2,d3,d4)
def c3y (rf:T.RF) (d1:List XUn) (d2 d3:List UInt8) (d4:Int) (d5:List XN):Option (List XUn × Int):=rf 176 (d1,d2,d3,d4,d5)
def b7w (rf:T.RF) (d1:List XN) (d2:Int):Option Int:=rf 177 (d1,d2)
def c0c (rf:T.RF) (d1 d2:List XPm):Option Bool:=rf 178 (d1,d2)
def a7N (rf:T.RF) (d1 d2:XPg):Option Bool:=rf 179 (d1,d2)
def c3z (rf:T.RF) (d1 d2:XUn):Option Bool:=rf 180 (d1,d2)
def b7x (rf:T.RF) (d1 d2:List XN):Option Bool:=rf 181 (d1,d2)
def d1P (rf:T.RF) (d1 d2:List (List XN)):Option Bool:=rf 182 (d1,d2)
def d1Q (rf:T.RF) (d1:XPg) (d2:List UInt8):Option Int:=rf 183 (d1,d2)
def d2Y (rf:T.RF) (d1:XPg):Option Bool:=rf 184 d1
def d2Z (rf:T.RF) (d1:XPg):Option Bool:=rf 185 d1
def c3A (rf:T.RF) (d1:List XN) (d2:List XPm):Option Bool:=rf 186 (d1,d2)
def d3a (rf:T.RF) (d1:XPg):Option Bool:=rf 187 d1
def d3b (rf:T.RF) (d1:XPg) (d2:Int):Option Bool:=rf 188 (d1,d2)
def k0 (rb:T.RB) (d1:XPg) (d2:Int):Option ((XPg × Bool) ⊕ XPg):=rb 0 (d1,d2)
def k1 (rb:T.RB) (d1:XUn) (d2:Int):Option ((XUn × Bool) ⊕ XUn):=rb 1 (d1,d2)
def k2 (rb:T.RB) (d1:XUn) (d2:Int):Option ((XUn × Bool) ⊕ XUn):=rb 2 (d1,d2)
def k3 (rb:T.RB) (d1:XIt) (d2:Int):Option ((XIt × Bool) ⊕ XIt):=rb 3 (d1,d2)
def k6 (rb:T.RB) (d1:List UInt8) (d2:Int):Option Int:=rb 6 (d1,d2)
def k7 (rb:T.RB) (d1:List UInt8) (d2 d3:Int):Option Int:=rb 7 (d1,d2,d3)
def k8 (rb:T.RB) (d1:List UInt8) (d2:Int):Option Int:=rb 8 (d1,d2)
def k9 (rb:T.RB) (d1:List (List UInt8)) (d2:List UInt8) (d3:Int):Option ((List (List UInt8) × Bool) ⊕ (List (List UInt8))):=rb 9 (d1,d2,d3)
def k10 (rb:T.RB) (d1:List UInt8) (d2:Int):Option (Bool ⊕ Unit):=rb 10 (d1,d2)
def k11 (rb:T.RB) (d1:List (List UInt8)) (d2:List UInt8) (d3:Int):Option ((List (List UInt8) × List UInt8) ⊕ (List (List UInt8))):=rb 11 (d1,d2,d3)
def k12 (rb:T.RB) (d1:Int × Int) (d2:List XK) (d3:List UInt8) (d4:Int):Option (((Int × Int) × List XK) ⊕ ((Int × Int) × List XK)):=rb 12 (d1,d2,d3,d4)
def k13 (rb:T.RB) (d1:List UInt8) (d2:Int):Option Int:=rb 13 (d1,d2)
def k17 (rb:T.RB) (d1:List XK × Int × Int × Int) (d2:List XPm):Option (((List XK × Int × Int × Int) × List XPm) ⊕ (List XK × Int × Int × Int)):=rb 17 (d1,d2)
def k22 (rb:T.RB) (d1 d2:List XN) (d3 d4:Int):Option (List XN):=rb 22 (d1,d2,d3,d4)
def k23 (rb:T.RB) (d1:List XN) (d2:List Int) (d3:Int) (d4:List (List XN)) (d5 d6:Int):Option ((List XN) ⊕ (List XN × List Int × Int)):=rb 23 (d1,d2,d3,d4,d5,d6)
def k25 (rb:T.RB) (d1:List XK × Int × Int × Int × Int) (d2:List (List XN)):Option (((List XK × Int × Int × Int × Int) × List (List XN)) ⊕ (List XK × Int × Int × Int × Int)):=rb 25 (d1,d2)
def k27 (rb:T.RB) (d1:List XK × Int × Int × Int × Int) (d2:List XN):Option ((List XK × Int × Int × Int × Int) × List XN):=rb 27 (d1,d2)
def k29 (rb:T.RB) (d1:List XK × Int × Int × Int × Int) (d2:List XN):Option ((List XK × Int × Int × Int × Int) × List XN):=rb 29 (d1,d2)
def k31 (rb:T.RB) (d1:List XK × Int × Int × Int × Int) (d2:List XN):Option ((List XK × Int × Int × Int × Int) × List XN):=rb 31 (d1,d2)
def k33 (rb:T.RB) (d1:List XK × Int × Int × Int × Int) (d2:List XN):Option ((List XK × Int × Int × Int × Int) × List XN):=rb 33 (d1,d2)
def k35 (rb:T.RB) (d1:List XK × Int × Int × Int × Int) (d2:List XN):Option ((List XK × Int × Int × Int × Int) × List XN):=rb 35 (d1,d2)
def k43 (rb:T.RB) (d1:List Int) (d2:List XN) (d3:Int):Option (List Int):=rb 43 (d1,d2,d3)
def k44 (rb:T.RB) (d1 d2:List Int) (d3 d4:Int):Option (List Int × List Int):=rb 44 (d1,d2,d3,d4)
def k46 (rb:T.RB) (d1:Int × Int) (d2:List XK) (d3:Int):Option (((Int × Int) × List XN × Int) ⊕ ((Int × Int) × List XN × Int)):=rb 46 (d1,d2,d3)
def k47 (rb:T.RB) (d1:List XK × Int × Int × Int) (d2:Int × Int) (d3:List XN) (d4:Int):Option ((List XK × Int × Int × Int) × (Int × Int) × List XN):=rb 47 (d1,d2,d3,d4)
def k49 (rb:T.RB) (d1:List XK × Int × Int × Int) (d2:List (List XN)):Option (((List XK × Int × Int × Int) × List (List XN)) ⊕ (List XK × Int × Int × Int)):=rb 49 (d1,d2)
def k50 (rb:T.RB) (d1:List XK × Int × Int × Int) (d2:List XIt):Option ((List XK × Int × Int × Int) × List XIt):=rb 50 (d1,d2)
def k52 (rb:T.RB) (d1:List XK × Int × Int × Int) (d2:List XPm):Option (((List XK × Int × Int × Int) × List XPm) ⊕ (List XK × Int × Int × Int)):=rb 52 (d1,d2)
def k54 (rb:T.RB) (d1:List XK × Int × Int × Int) (d2:List XEq):Option ((List XK × Int × Int × Int) × List XEq):=rb 54 (d1,d2)
def k69 (rb:T.RB) (d1:List XK × Int × Int × Int) (d2 d3:List UInt8) (d4:List XUn):Option ((List XK × Int × Int × Int) × List UInt8 × List UInt8 × List XUn):=rb 69 (d1,d2,d3,d4)
def k70 (rb:T.RB) (d1 d2:List UInt8) (d3:Int × Int) (d4:List XK × Int × Int × Int) (d5 d6:List UInt8) (d7 d8:List XUn):Option ((List UInt8 × List UInt8 × (Int × Int) × (List XK × Int × Int × Int) × List UInt8 × List UInt8 × List XUn × List XUn × List XUn) ⊕ (List UInt8 × List UInt8 × (Int × Int) × (List XK × Int × Int × Int) × List UInt8 × List UInt8 × List XUn × List XUn)):=rb 70 (d1,d2,d3,d4,d5,d6,d7,d8)
def k71 (rb:T.RB) (d1:List (List UInt8)) (d2:List UInt8) (d3 d4:Int):Option Int:=rb 71 (d1,d2,d3,d4)
def k72 (rb:T.RB) (d1:List XUn) (d2 d3:Int):Option (Int ⊕ Unit):=rb 72 (d1,d2,d3)
def k73 (rb:T.RB) (d1:List XPm) (d2 d3:Int):Option (Int ⊕ Unit):=rb 73 (d1,d2,d3)
def k74 (rb:T.RB) (d1:List XEq) (d2 d3:Int):Option (Int ⊕ Unit):=rb 74 (d1,d2,d3)
def k75 (rb:T.RB) (d1:List Bool) (d2 d3:List XN) (d4 d5:Int):Option ((List Bool × Bool) ⊕ (List Bool)):=rb 75 (d1,d2,d3,d4,d5)
def k76 (rb:T.RB) (d1:XN) (d2:Int):Option (XN × Bool):=rb 76 (d1,d2)
def k77 (rb:T.RB) (d1 d2:XN) (d3:Int):Option (XN × XN × Bool):=rb 77 (d1,d2,d3)
def k78 (rb:T.RB) (d1:List Bool) (d2:XN) (d3:List Int) (d4:List XN) (d5 d6 d7:Int):Option ((List Bool × XN × List Int × Bool) ⊕ (List Bool × XN × List Int)):=rb 78 (d1,d2,d3,d4,d5,d6,d7)
def k79 (rb:T.RB) (d1:List Bool) (d2:Bool) (d3 d4:Int):Option (Int ⊕ Unit):=rb 79 (d1,d2,d3,d4)
def k86 (rb:T.RB) (d1:List Int) (d2:List XN) (d3 d4:Int):Option (List Int):=rb 86 (d1,d2,d3,d4)
def k87 (rb:T.RB) (d1 d2:List Int) (d3 d4 d5:Int):Option (List Int × List Int):=rb 87 (d1,d2,d3,d4,d5)
def k88 (rb:T.RB) (d1:List XN) (d2 d3:Int):Option (Int ⊕ Unit):=rb 88 (d1,d2,d3)
def k89 (rb:T.RB) (d1:List XIt) (d2 d3:Int):Option (Int ⊕ Unit):=rb 89 (d1,d2,d3)
def k90 (rb:T.RB) (d1:List (List XN)) (d2 d3:Int):Option (Int ⊕ Unit):=rb 90 (d1,d2,d3)
def c3O (rb:T.RB) (d1:List XN) (d2:List Int) (d3:List XN) (d4 d5:Int):Option (List Int × List XN):=rb 100 (d1,d2,d3,d4,d5)
def c0y (rb:T.RB) (d1 d2:List UInt8) (d3:List XUn) (d4 d5:Int):Option (List UInt8 × List UInt8 × List XUn):=rb 150 (d1,d2,d3,d4,d5)
def c3P (rb:T.RB) (d1:List XUn) (d2:Bool) (d3 d4:List UInt8) (d5:Int) (d6:List XUn) (d7 d8:List XPm) (d9:List XEq) (d10:List XIt) (d11:Int):Option (List XUn × Bool × List UInt8 × List UInt8 × Int × List XUn × List XPm × List XPm × List XEq × List XIt):=rb 151 (d1,d2,d3,d4,d5,d6,d7,d8,d9,d10,d11)
def c0z (rb:T.RB) (d1:List XUn) (d2:Bool) (d3 d4:List UInt8) (d5:Int) (d6:List XUn) (d7 d8:List XPm) (d9:List XEq) (d10:List XIt) (d11 d12 d13:Int):Option (List XUn × Bool × List UInt8 × List UInt8 × Int × List XUn × List XPm × List XPm × List XEq × List XIt):=rb 152 (d1,d2,d3,d4,d5,d6,d7,d8,d9,d10,d11,d12,d13)
def c0A (rb:T.RB) (d1:List XUn) (d2:Bool) (d3 d4:List UInt8) (d5:Int) (d6:List XUn) (d7 d8:List XPm) (d9:List XEq) (d10:List XIt) (d11 d12 d13:Int):Option (List XUn × Bool × List UInt8 × List UInt8 × Int × List XUn × List XPm × List XPm × List XEq × List XIt):=rb 153 (d1,d2,d3,d4,d5,d6,d7,d8,d9,d10,d11,d12,d13)
def c3Q (rb:T.RB) (d1:List XIt) (d2:Int) (d3:List UInt8) (d4:Int) (d5:List XIt) (d6 d7:List XN) (d8:List (List XN)) (d9:Int):Option (List XIt × Int × List UInt8 × Int × List XIt × List XN × List XN × List (List XN)):=rb 154 (d1,d2,d3,d4,d5,d6,d7,d8,d9)
def b3h (rb:T.RB) (d1:List XIt) (d2:Int) (d3:List UInt8) (d4:Int) (d5:List XIt) (d6 d7:List XN) (d8:List (List XN)) (d9 d10 d11:Int):Option (List XIt × Int × List UInt8 × Int × List XIt × List XN × List XN × List (List XN)):=rb 155 (d1,d2,d3,d4,d5,d6,d7,d8,d9,d10,d11)
def b7M (rb:T.RB) (d1:List (List UInt8 × XUn)) (d2 d3:List (List UInt8 × Bool)) (d4:List XIt) (d5:List XN) (d6 d7:Int):Option ((List (List UInt8 × XUn) × List (List UInt8 × Bool) × List (List UInt8 × Bool) × List XIt × Int) ⊕ (List (List UInt8 × XUn) × List (List UInt8 × Bool) × List (List UInt8 × Bool) × List XIt)):=rb 162 (d1,d2,d3,d4,d5,d6,d7)
def a8n (rb:T.RB) (d1:List XN) (d2:Int) (d3:List XN) (d4 d5:Int):Option (List XN):=rb 169 (d1,d2,d3,d4,d5)
def b3i (rb:T.RB) (d1:List XN) (d2:List Int) (d3:Int) (d4:List (List XN)) (d5 d6:Int):Option ((List XN) ⊕ (List XN × List Int)):=rb 170 (d1,d2,d3,d4,d5,d6)
def c0B (rb:T.RB) (d1:List (List XN)) (d2 d3:Int):Option (Int ⊕ Unit):=rb 178 (d1,d2,d3)
def c3R (rb:T.RB) (d1:List (List UInt8)) (d2:List UInt8) (d3 d4:Int):Option (Int ⊕ Unit):=rb 180 (d1,d2,d3,d4)
def b4T (rb:T.RB) (d1:List XN) (d2:List Int) (d3:List XN) (d4:List (List UInt8)) (d5:List (List XN)) (d6 d7:Int):Option (List XN × List XN):=rb 182 (d1,d2,d3,d4,d5,d6,d7)
def c0C (rb:T.RB) (d1 d2:List Int) (d3 d4:Int):Option (List Int × List Int):=rb 183 (d1,d2,d3,d4)
def c0D (rb:T.RB) (d1:List (List UInt8)) (d2:List XPm) (d3 d4:Int):Option (List (List UInt8)):=rb 190 (d1,d2,d3,d4)
def b1J (rb:T.RB) (d1:XIt) (d2:List (List UInt8)) (d3:List (List XN)) (d4:List XIt) (d5 d6:Int):Option (XIt × List (List UInt8) × List (List XN)):=rb 191 (d1,d2,d3,d4,d5,d6)
def a8o (rb:T.RB) (d1:XIt) (d2:List (List UInt8)) (d3:List (List XN)) (d4:List (List UInt8 × XUn)) (d5 d6:List (List UInt8 × Bool)) (d7 d8:List XIt) (d9 d10:Int):Option ((XIt × List (List UInt8) × List (List XN) × List (List UInt8 × XUn) × List (List UInt8 × Bool) × List (List UInt8 × Bool) × List XIt × Int) ⊕ (XIt × List (List UInt8) × List (List XN) × List (List UInt8 × XUn) × List (List UInt8 × Bool) × List (List UInt8 × Bool) × List XIt)):=rb 192 (d1,d2,d3,d4,d5,d6,d7,d8,d9,d10)
def c0E (rb:T.RB) (d1:XUn) (d2:Bool) (d3:List UInt8) (d4:List XPm) (d5:List UInt8) (d6:Int) (d7:List XPm) (d8:List (List UInt8 × Bool)) (d9:List XPm) (d10:List (List UInt8 × XUn)) (d11 d12:List (List UInt8 × Bool)) (d13:List XIt) (d14:List XEq) (d15:List XIt):Option ((XUn × Bool × List UInt8 × List XPm × List UInt8 × Int × List XPm × List (List UInt8 × Bool) × List XPm × List (List UInt8 × XUn) × List (List UInt8 × Bool) × List (List UInt8 × Bool) × List XIt × List XEq × List XIt × Int) ⊕ (XUn × Bool × List UInt8 × List XPm × List UInt8 × Int × List XPm × List (List UInt8 × Bool) × List XPm × List (List UInt8 × XUn) × List (List UInt8 × Bool) × List (List UInt8 × Bool) × List XEq × List XIt × List XIt × Int) ⊕ (Bool × List UInt8 × List XPm × List UInt8 × Int × List XPm × List XEq × Bool × List UInt8 × List XPm × List UInt8 × Int × List XPm × List (List UInt8 × Bool) × List XPm × List (List UInt8 × XUn) × List (List UInt8 × Bool) × List (List UInt8 × Bool) × List XEq × List XIt × List XIt × Int) ⊕ (Bool × List UInt8 × List XPm × List UInt8 × Int × List XPm × List XEq × Bool × List UInt8 × List XPm × List UInt8 × Int × List XPm × List XEq × List (List UInt8 × Bool) × List XPm × List (List UInt8 × XUn) × List (List UInt8 × Bool) × List (List UInt8 × Bool) × List XEq × List XIt × List XIt)):=rb 193 (d1,d2,d3,d4,d5,d6,d7,d8,d9,d10,d11,d12,d13,d14,d15)
def b7N (rb:T.RB) (d1:XUn) (d2:List (List UInt8 × Bool)) (d3:List XPm) (d4:List (List UInt8 × XUn)) (d5 d6:List (List UInt8 × Bool)) (d7:List XIt) (d8 d9:Int):Option ((XUn × List (List UInt8 × Bool) × List XPm × List (List UInt8 × XUn) × List (List UInt8 × Bool) × List (List UInt8 × Bool) × List XIt × Int) ⊕ (XUn × List (List UInt8 × Bool) × List XPm × List (List UInt8 × XUn) × List (List UInt8 × Bool) × List (List UInt8 × Bool) × List XIt)):=rb 194 (d1,d2,d3,d4,d5,d6,d7,d8,d9)
def b4U (rb:T.RB) (d1:List (List UInt8 × XUn)) (d2 d3:List (List UInt8 × Bool)) (d4 d5:List XIt) (d6 d7:Int):Option ((List (List UInt8 × XUn) × List (List UInt8 × Bool) × List (List UInt8 × Bool) × List XIt × Int) ⊕ (List (List UInt8 × XUn) × List (List UInt8 × Bool) × List (List UInt8 × Bool) × List XIt)):=rb 195 (d1,d2,d3,d4,d5,d6,d7)
def c3S (rb:T.RB) (d1:List (List UInt8 × XUn)) (d2 d3:List (List UInt8 × Bool)) (d4:List XIt) (d5:List (List XN)) (d6 d7:Int):Option ((List (List UInt8 × XUn) × List (List UInt8 × Bool) × List (List UInt8 × Bool) × List XIt × Int) ⊕ (List (List UInt8 × XUn) × List (List UInt8 × Bool) × List (List UInt8 × Bool) × List XIt)):=rb 196 (d1,d2,d3,d4,d5,d6,d7)
def c0F (rb:T.RB) (d1 d2:List (List UInt8 × Bool)) (d3:List (List UInt8 × XUn)) (d4 d5:List (List UInt8 × Bool)) (d6:List XIt) (d7:List XEq) (d8 d9:Int):Option ((List (List UInt8 × Bool) × List (List UInt8 × Bool) × List (List UInt8 × XUn) × List (List UInt8 × Bool) × List (List UInt8 × Bool) × List XIt × Int) ⊕ (List (List UInt8 × Bool) × List (List UInt8 × Bool) × List (List UInt8 × XUn) × List (List UInt8 × Bool) × List (List UInt8 × Bool) × List XIt)):=rb 197 (d1,d2,d3,d4,d5,d6,d7,d8,d9)
def b3j (rb:T.RB) (d1:List (List UInt8 × XUn)) (d2 d3:List (List UInt8 × Bool)) (d4:List XIt) (d5 d6:List XN) (d7 d8:Int):Option ((List (List UInt8 × XUn) × List (List UInt8 × Bool) × List (List UInt8 × Bool) × List XIt × Int) ⊕ (List (List UInt8 × XUn) × List (List UInt8 × Bool) × List (List UInt8 × Bool) × List XIt)):=rb 198 (d1,d2,d3,d4,d5,d6,d7,d8)
def c3T (rb:T.RB) (d1:List XN) (d2 d3:Int):Option Int:=rb 199 (d1,d2,d3)
def b7O (rb:T.RB) (d1 d2:List UInt8) (d3:Int) (d4:List (List UInt8 × XUn)) (d5:List XUn):Option ((List UInt8 × List UInt8 × Int × List (List UInt8 × XUn) × List XUn × Int) ⊕ (List UInt8 × List UInt8 × Int × List (List UInt8 × XUn) × List XUn)):=rb 201 (d1,d2,d3,d4,d5)
def c3U (rb:T.RB) (d1 d2:List XPm) (d3 d4:Int):Option (Bool ⊕ Unit):=rb 202 (d1,d2,d3,d4)
def c3V (rb:T.RB) (d1:List UInt8) (d2:List XUn) (d3 d4:Int):Option (XPm ⊕ (List UInt8)):=rb 203 (d1,d2,d3,d4)
def c0G (rb:T.RB) (d1:XPg) (d2:Int):Option ((XPg × Bool) ⊕ XPg):=rb 204 (d1,d2)
def c3W (rb:T.RB) (d1:List XPm) (d2:Int):Option (Bool ⊕ Unit):=rb 205 (d1,d2)
def b4V (rb:T.RB) (d1:XUn) (d2:Int):Option ((XUn × Bool) ⊕ XUn):=rb 206 (d1,d2)
def b4W (rb:T.RB) (d1:List Int) (d2:List XN) (d3:Int):Option ((List Int × Bool) ⊕ (List Int)):=rb 207 (d1,d2,d3)
def b4X (rb:T.RB) (d1 d2:List Int) (d3 d4:Int):Option ((List Int × List Int × Bool) ⊕ (List Int × List Int)):=rb 208 (d1,d2,d3,d4)
def b1K (rb:T.RB) (d1:XN) (d2:List Int) (d3:List XN) (d4:Int):Option ((XN × List Int × Bool) ⊕ (XN × List Int)):=rb 209 (d1,d2,d3,d4)
def b7P (rb:T.RB) (d1:List Int) (d2:List XN) (d3:Int):Option ((List Int × Bool) ⊕ (List Int)):=rb 210 (d1,d2,d3)
def c0H (rb:T.RB) (d1:List XN) (d2:Int):Option (Bool ⊕ Unit):=rb 211 (d1,d2)
def b4Y (rb:T.RB) (d1:XUn) (d2:Int):Option ((XUn × Bool) ⊕ XUn):=rb 212 (d1,d2)
def a8p (rb:T.RB) (d1:XIt) (d2:Int):Option ((XIt × Bool) ⊕ XIt):=rb 213 (d1,d2)
def c3X (rb:T.RB) (d1:List XN) (d2 d3:List Int) (d4:List XN) (d5:Int):Option (List Int × List XN × List Int):=rb 217 (d1,d2,d3,d4,d5)
def b7Q (rb:T.RB) (d1:XUn) (d2:Bool) (d3 d4:List UInt8) (d5:Int) (d6 d7:List XPm) (d8:List XEq) (d9:List XIt) (d10:Int):Option (XUn × Bool × List UInt8 × List UInt8 × Int × List XPm × List XPm × List XIt × List XEq):=rb 232 (d1,d2,d3,d4,d5,d6,d7,d8,d9,d10)
def c3Y (rb:T.RB) (d1:XUn) (d2:Bool) (d3 d4:List UInt8) (d5:Int) (d6 d7:List XPm) (d8:List XEq) (d9:List XIt) (d10:Int):Option (XUn × Bool × List UInt8 × List UInt8 × Int × List XPm × List XPm × List XEq × List XIt):=rb 233 (d1,d2,d3,d4,d5,d6,d7,d8,d9,d10)
def b7R (rb:T.RB) (d1:XUn) (d2:Int) (d3:List UInt8) (d4:Int) (d5 d6:List XN) (d7:List (List XN)) (d8 d9:Int):Option (XUn × XIt):=rb 234 (d1,d2,d3,d4,d5,d6,d7,d8,d9)
def b7S (rb:T.RB) (d1:XPg) (d2 d3:List UInt8) (d4:List XUn) (d5:Int):Option (XPg × List UInt8 × List UInt8 × List XUn):=rb 237 (d1,d2,d3,d4,d5)
def b7T (rb:T.RB) (d1 d2:List UInt8) (d3:Int × Int) (d4 d5:List UInt8) (d6 d7:List XUn) (d8:Int):Option ((List UInt8 × List UInt8 × (Int × Int) × List UInt8 × List UInt8 × List XUn × List XUn × List XUn) ⊕ (List UInt8 × List UInt8 × (Int × Int) × List UInt8 × List UInt8 × List XUn × List XUn)):=rb 238 (d1,d2,d3,d4,d5,d6,d7,d8)
def c3Z (rb:T.RB) (d1 d2:List UInt8) (d3:List XUn) (d4:List UInt8) (d5:Int):Option ((List UInt8 × List UInt8 × List XUn × Int) ⊕ (List UInt8 × List UInt8 × List XUn)):=rb 239 (d1,d2,d3,d4,d5)
def c4a (rb:T.RB) (d1:List XPm) (d2:List UInt8) (d3:Int):Option (Bool ⊕ Unit):=rb 243 (d1,d2,d3)
def c0I (rb:T.RB) (d1:List XIt) (d2:List XPm) (d3:Int):Option (List XIt × List XPm):=rb 247 (d1,d2,d3)
def b7U (rb:T.RB) (d1:List XN) (d2 d3:List XPm) (d4:Int):Option (Int ⊕ Unit):=rb 248 (d1,d2,d3,d4)
def b7V (rb:T.RB) (d1:List XIt) (d2:XIt) (d3:List XPm) (d4 d5:Int):Option (List XIt × XIt × Int):=rb 250 (d1,d2,d3,d4,d5)
def c0J (rb:T.RB) (d1:List XPm) (d2:List XIt) (d3:Int):Option (List XPm):=rb 256 (d1,d2,d3)
def c4b (rb:T.RB) (d1:List (List UInt8)) (d2:List UInt8) (d3:Int):Option (Int ⊕ Unit):=rb 271 (d1,d2,d3)
def c4c (rb:T.RB) (d1:List (List XN)) (d2:Int):Option ((List XN) ⊕ Unit):=rb 278 (d1,d2)
def b4Z (rb:T.RB) (d1 d2:List XN) (d3:List Int) (d4:List (List UInt8)) (d5:List (List XN)) (d6:Int):Option (List XN × List Int × List XN):=rb 279 (d1,d2,d3,d4,d5,d6)
def c0K (rb:T.RB) (d1 d2:List XN) (d3:List Int) (d4:List (List XN)) (d5 d6:Int):Option (List XN × List Int × List XN):=rb 280 (d1,d2,d3,d4,d5,d6)
def c4d (rb:T.RB) (d1 d2 d3:List Int) (d4:Int):Option (List Int × List Int × List Int):=rb 281 (d1,d2,d3,d4)
def c4e (rb:T.RB) (d1:XUn) (d2:XIt) (d3:List (List UInt8)) (d4:List (List XN)) (d5:Int):Option (XUn × XIt × List (List UInt8) × List (List XN)):=rb 291 (d1,d2,d3,d4,d5)
def c4f (rb:T.RB) (d1:XIt) (d2:List (List UInt8)) (d3:List (List XN)) (d4:List XPm) (d5:Int):Option (XIt × List XPm × List (List UInt8) × List (List XN)):=rb 292 (d1,d2,d3,d4,d5)
def b1L (rb:T.RB) (d1:List XIt) (d2:XUn) (d3:XIt) (d4:List XPm) (d5:List (List UInt8)) (d6:List (List XN)) (d7:Int):Option ((XUn × XIt × List XIt × Int) ⊕ (XUn × XIt × List XIt)):=rb 293 (d1,d2,d3,d4,d5,d6,d7)
def c4g (rb:T.RB) (d1:List XIt) (d2:XIt) (d3:List XPm) (d4:Int):Option ((List XIt × XIt × Int) ⊕ (List XIt × XIt) ⊕ (XIt × List XIt)):=rb 294 (d1,d2,d3,d4)
def a9T (rb:T.RB) (d1 d2:List UInt8) (d3:XUn) (d4:List XIt) (d5:List XUn) (d6:Int) (d7:List XPm) (d8:Int):Option ((List UInt8 × List UInt8 × XUn × List XUn × List XIt × Int) ⊕ (List UInt8 × List UInt8 × XUn × List XUn × List XIt)):=rb 296 (d1,d2,d3,d4,d5,d6,d7,d8)
def a8q (rb:T.RB) (d1 d2:List UInt8) (d3:XUn) (d4:List XUn) (d5:Int) (d6:List XN) (d7:Int):Option ((List UInt8 × List UInt8 × XUn × List XUn × Int) ⊕ (List UInt8 × List UInt8 × XUn × List XUn)):=rb 301 (d1,d2,d3,d4,d5,d6,d7)
def c4h (rb:T.RB) (d1:List XN) (d2 d3:Int):Option Int:=rb 302 (d1,d2,d3)
def b3k (rb:T.RB) (d1 d2:List UInt8) (d3:XUn) (d4:List XPm) (d5:List XUn) (d6 d7:Int):Option ((List UInt8 × List UInt8 × XUn × List XUn × Int) ⊕ (List UInt8 × List UInt8 × XUn × List XUn × List XPm)):=rb 303 (d1,d2,d3,d4,d5,d6,d7)
def c4i (rb:T.RB) (d1:Bool) (d2:List UInt8) (d3:List XPm) (d4:List UInt8) (d5:Int) (d6:List XPm) (d7:XUn) (d8:List XPm) (d9:List XEq) (d10:List XIt) (d11:Int):Option ((XUn × XUn × List XPm × List XEq × List XIt × Int) ⊕ (Bool × List UInt8 × List XPm × List UInt8 × Int × List XPm × XUn × List XPm × List XEq × List XIt)):=rb 304 (d1,d2,d3,d4,d5,d6,d7,d8,d9,d10,d11)
def c4j (rb:T.RB) (d1 d2:List XPm) (d3:Int):Option (Bool ⊕ Unit):=rb 305 (d1,d2,d3)
def c4k (rb:T.RB) (d1 d2:XPg) (d3:Int):Option ((XPg × XPg × Bool) ⊕ (XPg × XPg)):=rb 306 (d1,d2,d3)
def c0L (rb:T.RB) (d1 d2:XUn) (d3:Int):Option ((XUn × XUn × Bool) ⊕ (XUn × XUn)):=rb 307 (d1,d2,d3)
def c4l (rb:T.RB) (d1 d2:List XN) (d3:Int):Option (Bool ⊕ Unit):=rb 308 (d1,d2,d3)
def c0M (rb:T.RB) (d1 d2:XUn) (d3:Int):Option ((XUn × XUn × Bool) ⊕ (XUn × XUn)):=rb 309 (d1,d2,d3)
def c4m (rb:T.RB) (d1 d2:List (List XN)) (d3:Int):Option (Bool ⊕ Unit):=rb 310 (d1,d2,d3)
def c4n (rb:T.RB) (d1:XPg) (d2:List UInt8) (d3:Int):Option ((XPg × Int) ⊕ XPg):=rb 311 (d1,d2,d3)
def c4o (rb:T.RB) (d1:XPg) (d2:Int):Option ((XPg × Bool) ⊕ XPg):=rb 312 (d1,d2)
def c4p (rb:T.RB) (d1:XPg) (d2 d3:Int):Option ((XPg × Bool) ⊕ XPg):=rb 313 (d1,d2,d3)
def c4q (rb:T.RB) (d1:List XN) (d2:List XPm) (d3:Int):Option (Bool ⊕ Unit):=rb 318 (d1,d2,d3)
def c0N (rb:T.RB) (d1:List XN) (d2:List XPm) (d3 d4:Int):Option (Bool ⊕ Unit):=rb 319 (d1,d2,d3,d4)
def c4r (rb:T.RB) (d1 d2:XPg) (d3:Int):Option ((XPg × XPg × Bool) ⊕ (XPg × XPg)):=rb 320 (d1,d2,d3)
def c4s (rb:T.RB) (d1:XPg) (d2:XUn) (d3:Int) (d4:List XPm) (d5:Int):Option ((XPg × XUn × Bool) ⊕ (XPg × XUn)):=rb 321 (d1,d2,d3,d4,d5)
def b0 (rf:T.RF) (rb:T.RB) (d1:XPg) (d2:Int):Option ((XPg × Bool) ⊕ XPg) :=
 bif decide (d2 < (d1.1.length:Int)) then
  bif inb d2 d1.1.length then
   (nth d1.1 d2.toNat).bind fun x1 =>
   bif decide ((x1.2.2.1.length:Int) > 30) then
    some (.inl (d1,false))
   else
   bif decide ((x1.2.2.2.2.2.1.length:Int) > 30) then
    some (.inl (d1,false))
   else
   bif decide ((x1.2.2.2.2.2.2.1.length:Int) > 30) then
    some (.inl (d1,false))
   else
   bif decide ((x1.2.2.2.2.2.2.2.length:Int) > 30) then
    some (.inl (d1,false))
   else
    (k1 rb x1 0).bind fun z2 =>
    match z2 with
    | .inl u3 =>
      some (.inl (d1,u3.2))
    | .inr w4 =>
      (k2 rb w4 0).bind fun z5 =>
      match z5 with
      | .inl u6 =>
        some (.inl (d1,u6.2))
      | .inr w7 =>
        k0 rb d1 (IntKind.i64.wrap (d2 + 1))
  else
   none
 else
  some (.inr d1)
theorem eb0:EqB 0 (W2 b0):=fun _ _ _ => by kernel_rfl
theorem ob0:IB2 b0 k0:=fun h => eb0.o h
def b1 (rf:T.RF) (rb:T.RB) (d1:XUn) (d2:Int):Option ((XUn × Bool) ⊕ XUn) :=
 bif decide (d2 < (d1.2.2.2.2.2.2.1.length:Int)) then
  bif inb d2 d1.2.2.2.2.2.2.1.length then
   (nth d1.2.2.2.2.2.2.1 d2.toNat).bind fun x1 =>
   bif decide ((x1.2.length:Int) > 200) then
   some (.inl (d1,false))
   else
   k1 rb d1 (IntKind.i64.wrap (d2 + 1))
  else
   none
 else
  some (.inr d1)
theorem eb1:EqB 1 (W2 b1):=fun _ _ _ => by kernel_rfl
theorem ob1:IB2 b1 k1:=fun h => eb1.o h
def b2 (rf:T.RF) (rb:T.RB) (d1:XUn) (d2:Int):Option ((XUn × Bool) ⊕ XUn) :=
 bif decide (d2 < (d1.2.2.2.2.2.2.2.length:Int)) then
  bif inb d2 d1.2.2.2.2.2.2.2.length then
   (nth d1.2.2.2.2.2.2.2 d2.toNat).bind fun x1 =>
   bif decide ((x1.2.2.2.1.length:Int) > 200) then
    some (.inl (d1,false))
   else
   bif decide ((x1.2.2.2.2.1.length:Int) > 200) then
    some (.inl (d1,false))
   else
   bif decide ((x1.2.2.2.2.2.length:Int) > 30) then
    some (.inl (d1,false))
   else
    (k3 rb x1 0).bind fun z2 =>
    match z2 with
    | .inl u3 =>
      some (.inl (d1,u3.2))
    | .inr w4 =>
      k2 rb d1 (IntKind.i64.wrap (d2 + 1))
  else
   none
 else
  some (.inr d1)
theorem eb2:EqB 2 (W2 b2):=fun _ _ _ => by kernel_rfl
theorem ob2:IB2 b2 k2:=fun h => eb2.o h
def b3 (rf:T.RF) (rb:T.RB) (d1:XIt) (d2:Int):Option ((XIt × Bool) ⊕ XIt) :=
 bif decide (d2 < (d1.2.2.2.2.2.length:Int)) then
  bif inb d2 d1.2.2.2.2.2.length then
   (nth d1.2.2.2.2.2 d2.toNat).bind fun x1 =>
   bif decide ((x1.length:Int) > 200) then
   some (.inl (d1,false))
   else
   k3 rb d1 (IntKind.i64.wrap (d2 + 1))
  else
   none
 else
  some (.inr d1)
theorem eb3:EqB 3 (W2 b3):=fun _ _ _ => by kernel_rfl
theorem ob3:IB2 b3 k3:=fun h => eb3.o h
def r1 (rf:T.RF) (rb:T.RB) (d1:XPg):Option Bool :=
 bif decide ((d1.1.length:Int) > 30) then
  some false
 else
  (k0 rb d1 0).bind fun z1 =>
  match z1 with
  | .inl u2 =>
    some u2.2
  | .inr w3 =>
    some true
theorem er1:EqF 1 fun a b => r1 a b:=fun _ _ _ => by kernel_rfl
theorem or1:IF1 r1 c1:=fun h => er1.o h
def r6 (rf:T.RF) (rb:T.RB) (d1:Int):Option Bool :=
 bif decide (d1 ≥ 48) then
  some (decide (d1 ≤ 57))
 else
  some false
theorem er6:EqF 6 fun a b => r6 a b:=fun _ _ _ => by kernel_rfl
theorem or6:IF1 r6 c6:=fun h => er6.o h
def b7 (rf:T.RF) (rb:T.RB) (d1:List UInt8) (d2 d3:Int):Option Int :=
 bif decide (d3 < (d1.length:Int)) then
  bif decide (d2 ≤ 2147483647) then
   bif inb d3 d1.length then
   (nth d1 d3.toNat).bind fun b1 =>
   k7 rb d1 (IntKind.i64.wrap ((IntKind.i64.wrap (10 * d2)) + (IntKind.i64.wrap (IntKind.u8.wrap ((((b1.toNat:Nat):Int)) - 48))))) (IntKind.i64.wrap (d3 + 1))
   else
   none
  else
   some d2
 else
  some d2
theorem eb7:EqB 7 (W3 b7):=fun _ _ _ => by kernel_rfl
def r7 (rf:T.RF) (rb:T.RB) (d1:List UInt8):Option Int :=
 (k7 rb d1 0 0).bind fun z1 =>
 some z1
theorem er7:EqF 7 fun a b => r7 a b:=fun _ _ _ => by kernel_rfl
def r8 (rf:T.RF) (rb:T.RB) (d1:Int):Option Bool :=
 bif decide (d1 ≥ 97) then
  bif decide (d1 ≤ 122) then
   some true
  else
   some (d1 == 95)
 else
  some (d1 == 95)
theorem er8:EqF 8 fun a b => r8 a b:=fun _ _ _ => by kernel_rfl
theorem or8:IF1 r8 c8:=fun h => er8.o h
def r11 (rf:T.RF) (rb:T.RB):Option (List (List UInt8)) :=
 some [([97,110,100]:List UInt8),([97,115,115,117,109,101]:List UInt8),([98,111,111,108]:List UInt8),([99,111,110,116,114,97,99,116]:List UInt8),([100,105,118]:List UInt8),([101,108,115,101]:List UInt8),([101,110,100]:List UInt8),([101,110,115,117,114,101]:List UInt8),([102,97,108,108,98,97,99,107]:List UInt8),([102,97,108,115,101]:List UInt8),([103,104,111,115,116]:List UInt8),([103,117,97,114,97,110,116,101,101]:List UInt8),([104,105,115,116]:List UInt8),([105,102]:List UInt8),([105,109,112,111,114,116]:List UInt8),([105,110,116]:List UInt8),([108,101,116]:List UInt8),([109,97,105,110]:List UInt8),([109,111,100]:List UInt8),([109,111,100,101]:List UInt8),([110,111,100,101]:List UInt8),([110,111,116]:List UInt8),([111,110,99,101]:List UInt8),([111,114]:List UInt8),([112,114,101]:List UInt8),([112,114,101,118]:List UInt8),([114,101,113,117,105,114,101]:List UInt8),([114,101,116,117,114,110,115]:List UInt8),([115,105,110,99,101]:List UInt8),([116,101,108]:List UInt8),([116,104,101,110]:List UInt8),([116,114,117,101]:List UInt8),([118,97,114]:List UInt8),([119,105,116,104,105,110]:List UInt8),([120,111,114]:List UInt8)]
theorem d3O:EqF 11 (W0 r11):=fun _ _ _ => by kernel_rfl
theorem e2z:IF0 r11 c11:=fun h => d3O.o h
def b9 (rf:T.RF) (rb:T.RB) (d1:List (List UInt8)) (d2:List UInt8) (d3:Int):Option ((List (List UInt8) × Bool) ⊕ (List (List UInt8))) :=
 bif decide (d3 < (d1.length:Int)) then
  bif inb d3 d1.length then
   (nth d1 d3.toNat).bind fun x1 =>
   bif x1 == d2 then
   some (.inl (d1,true))
   else
   k9 rb d1 d2 (IntKind.i64.wrap (d3 + 1))
  else
   none
 else
  some (.inr d1)
theorem eb9:EqB 9 (W3 b9):=fun _ _ _ => by kernel_rfl
theorem ob9:IB3 b9 k9:=fun h => eb9.o h
def r10 (rf:T.RF) (rb:T.RB) (d1:List UInt8):Option Bool :=
 (c11 rf).bind fun y1 =>
 (k9 rb y1 d1 0).bind fun z2 =>
 match z2 with
 | .inl u3 =>
   some u3.2
 | .inr w4 =>
   some false
theorem d3N:EqF 10 fun a b => r10 a b:=fun _ _ _ => by kernel_rfl
theorem e2y:IF1 r10 c10:=fun h => d3N.o h
def b10 (rf:T.RF) (rb:T.RB) (d1:List UInt8) (d2:Int):Option (Bool ⊕ Unit) :=
 bif decide (d2 < (d1.length:Int)) then
  bif inb d2 d1.length then
   (nth d1 d2.toNat).bind fun b1 =>
   (c8 rf (((b1.toNat:Nat):Int))).bind fun y2 =>
   bif !y2 then
   bif inb d2 d1.length then
   (nth d1 d2.toNat).bind fun b3 =>
   (c6 rf (((b3.toNat:Nat):Int))).bind fun y4 =>
   bif !y4 then
   some (.inl false)
   else
   k10 rb d1 (IntKind.i64.wrap (d2 + 1))
   else
   none
   else
   k10 rb d1 (IntKind.i64.wrap (d2 + 1))
  else
   none
 else
  some (.inr ())
theorem d3s:EqB 10 (W2 b10):=fun _ _ _ => by kernel_rfl
theorem d6L:IB2 b10 k10:=fun h => d3s.o h
def r12 (rf:T.RF) (rb:T.RB) (d1:List UInt8):Option Bool :=
 bif d1 == ([]:List UInt8) then
  some false
 else
 bif decide ((d1.length:Int) > 40) then
  some false
 else
 bif inb 0 d1.length then
  (nth d1 0).bind fun b1 =>
  (c8 rf (((b1.toNat:Nat):Int))).bind fun y2 =>
  bif !y2 then
   some false
  else
   (c10 rf d1).bind fun y3 =>
   bif y3 then
    some false
   else
    (k10 rb d1 0).bind fun z4 =>
    match z4 with
    | .inl u5 =>
      some u5
    | .inr w6 =>
      some true
 else
  none
theorem d3P:EqF 12 fun a b => r12 a b:=fun _ _ _ => by kernel_rfl
theorem e2A:IF1 r12 c12:=fun h => d3P.o h
def r9 (rf:T.RF) (rb:T.RB) (d1:List UInt8) (d2:Int):Option (XK × Int) :=
 (c10 rf d1).bind fun y1 =>
 bif y1 then
  some ((3,d1,d2),0)
 else
  (c12 rf d1).bind fun y2 =>
  bif !y2 then
   some ((0,([]:List UInt8),0),5)
  else
   some ((1,d1,d2),0)
theorem er9:EqF 9 (W2 r9):=fun _ _ _ => by kernel_rfl
def r14 (rf:T.RF) (rb:T.RB):Option (List (List UInt8)) :=
 some [([45,62]:List UInt8),([61,62]:List UInt8),([60,61]:List UInt8),([62,61]:List UInt8),([60,62]:List UInt8),([61]:List UInt8),([60]:List UInt8),([62]:List UInt8),([43]:List UInt8),([45]:List UInt8),([42]:List UInt8),([40]:List UInt8),([41]:List UInt8),([44]:List UInt8),([59]:List UInt8),([58]:List UInt8)]
theorem d9O:EqF 14 (W0 r14):=fun _ _ _ => by kernel_rfl
def b11 (rf:T.RF) (rb:T.RB) (d1:List (List UInt8)) (d2:List UInt8) (d3:Int):Option ((List (List UInt8) × List UInt8) ⊕ (List (List UInt8))) :=
 bif decide (d3 < (d1.length:Int)) then
  bif inb d3 d1.length then
   (nth d1 d3.toNat).bind fun x1 =>
   bif decide ((d2.length:Int) ≥ (x1.length:Int)) then
   bif inb d3 d1.length then
   (nth d1 d3.toNat).bind fun x2 =>
   bif E3 (x2.length:Int) d2.length then
   bif inb d3 d1.length then
   (nth d1 d3.toNat).bind fun x3 =>
   bif (sub d2 (some (0,(x2.length - 0)))) == x3 then
   bif inb d3 d1.length then
   (nth d1 d3.toNat).bind fun x4 =>
   some (.inl (d1,x4))
   else
   none
   else
   k11 rb d1 d2 (IntKind.i64.wrap (d3 + 1))
   else
   none
   else
   none
   else
   none
   else
   k11 rb d1 d2 (IntKind.i64.wrap (d3 + 1))
  else
   none
 else
  some (.inr d1)
theorem d9u:EqB 11 (W3 b11):=fun _ _ _ => by kernel_rfl
def r13 (rf:T.RF) (rb:T.RB) (d1:List UInt8):Option (List UInt8) :=
 (c14 rf).bind fun y1 =>
 (k11 rb y1 d1 0).bind fun z2 =>
 match z2 with
 | .inl u3 =>
   some u3.2
 | .inr w4 =>
   some ([]:List UInt8)
theorem d9N:EqF 13 fun a b => r13 a b:=fun _ _ _ => by kernel_rfl
def b6 (rf:T.RF) (rb:T.RB) (d1:List UInt8) (d2:Int):Option Int :=
 bif decide (d2 < (d1.length:Int)) then
  bif inb d2 d1.length then
   (nth d1 d2.toNat).bind fun b1 =>
   (c6 rf (((b1.toNat:Nat):Int))).bind fun y2 =>
   bif y2 then
   k6 rb d1 (IntKind.i64.wrap (d2 + 1))
   else
   some d2
  else
   none
 else
  some d2
theorem eb6:EqB 6 (W2 b6):=fun _ _ _ => by kernel_rfl
def b8 (rf:T.RF) (rb:T.RB) (d1:List UInt8) (d2:Int):Option Int :=
 bif decide (d2 < (d1.length:Int)) then
  bif inb d2 d1.length then
   (nth d1 d2.toNat).bind fun b1 =>
   (c8 rf (((b1.toNat:Nat):Int))).bind fun y2 =>
   bif y2 then
   k8 rb d1 (IntKind.i64.wrap (d2 + 1))
   else
   bif inb d2 d1.length then
   (nth d1 d2.toNat).bind fun b3 =>
   (c6 rf (((b3.toNat:Nat):Int))).bind fun y4 =>
   bif y4 then
   k8 rb d1 (IntKind.i64.wrap (d2 + 1))
   else
   some d2
   else
   none
  else
   none
 else
  some d2
theorem eb8:EqB 8 (W2 b8):=fun _ _ _ => by kernel_rfl
def r5 (rf:T.RF) (rb:T.RB) (d1:List UInt8) (d2:Int):Option (XK × Int) :=
 bif inb 0 d1.length then
  (nth d1 0).bind fun b1 =>
  (c6 rf (((b1.toNat:Nat):Int))).bind fun y2 =>
  bif y2 then
   (k6 rb d1 0).bind fun z3 =>
   bif decide (z3 > 1) then
   bif inb 0 d1.length then
   (nth d1 0).bind fun b4 =>
   bif (((b4.toNat:Nat):Int)) == 48 then
   some ((0,([]:List UInt8),0),2)
   else
   bif E3 z3 d1.length then
   (c7 rf (sub d1 (some (0,(z3.toNat - 0))))).bind fun y5 =>
   bif decide (y5 > 2147483647) then
   some ((0,([]:List UInt8),0),2)
   else
   bif E3 z3 d1.length then
   some ((2,sub d1 (some (0,(z3.toNat - 0))),d2),0)
   else
   none
   else
   none
   else
   none
   else
   bif E3 z3 d1.length then
   (c7 rf (sub d1 (some (0,(z3.toNat - 0))))).bind fun y6 =>
   bif decide (y6 > 2147483647) then
   some ((0,([]:List UInt8),0),2)
   else
   bif E3 z3 d1.length then
   some ((2,sub d1 (some (0,(z3.toNat - 0))),d2),0)
   else
   none
   else
   none
  else
  bif inb 0 d1.length then
   (nth d1 0).bind fun b7 =>
   (c8 rf (((b7.toNat:Nat):Int))).bind fun y8 =>
   bif y8 then
   (k8 rb d1 0).bind fun z9 =>
   bif E3 z9 d1.length then
   (c9 rf (sub d1 (some (0,(z9.toNat - 0)))) d2).bind fun y10 =>
   some y10
   else
   none
   else
   (c13 rf d1).bind fun y11 =>
   bif y11 == ([]:List UInt8) then
   some ((0,([]:List UInt8),0),5)
   else
   some ((4,y11,d2),0)
  else
   none
 else
  none
theorem er5:EqF 5 (W2 r5):=fun _ _ _ => by kernel_rfl
def b12 (rf:T.RF) (rb:T.RB) (d1:Int × Int) (d2:List XK) (d3:List UInt8) (d4:Int):Option (((Int × Int) × List XK) ⊕ ((Int × Int) × List XK)) :=
 bif decide (d4 < (d3.length:Int)) then
  bif inb d4 d3.length then
   (nth d3 d4.toNat).bind fun b1 =>
   bif (((b1.toNat:Nat):Int)) == 32 then
   k12 rb d1 d2 d3 (IntKind.i64.wrap (d4 + 1))
   else
   bif inb d4 d3.length then
   (nth d3 d4.toNat).bind fun b2 =>
   bif (((b2.toNat:Nat):Int)) == 9 then
   k12 rb d1 d2 d3 (IntKind.i64.wrap (d4 + 1))
   else
   bif inb d4 d3.length then
   (nth d3 d4.toNat).bind fun b3 =>
   bif (((b3.toNat:Nat):Int)) == 10 then
   k12 rb d1 d2 d3 (IntKind.i64.wrap (d4 + 1))
   else
   bif inb d4 d3.length then
   (nth d3 d4.toNat).bind fun b4 =>
   bif (((b4.toNat:Nat):Int)) == 13 then
   k12 rb d1 d2 d3 (IntKind.i64.wrap (d4 + 1))
   else
   bif decide ((IntKind.i64.wrap (d4 + 1)) < (d3.length:Int)) then
   bif inb d4 d3.length then
   (nth d3 d4.toNat).bind fun b5 =>
   bif (((b5.toNat:Nat):Int)) == 45 then
   bif inb (IntKind.i64.wrap (d4 + 1)) d3.length then
   (nth d3 (IntKind.i64.wrap (d4 + 1)).toNat).bind fun b6 =>
   bif (((b6.toNat:Nat):Int)) == 45 then
   (k13 rb d3 d4).bind fun z7 =>
   k12 rb d1 d2 d3 z7
   else
   bif E3 d4 d3.length then
   (c5 rf (sub d3 (some (d4.toNat,(d3.length - d4.toNat)))) d4).bind fun y8 =>
   bif y8.2 != 0 then
   some (.inl ((y8.2,d4),[]))
   else
   bif (Nat.ble (d2.length + 1) j8) && true then
   k12 rb d1 (d2 ++ [y8.1]) d3 (IntKind.i64.wrap (d4 + (y8.1.2.1.length:Int)))
   else
   none
   else
   none
   else
   none
   else
   bif E3 d4 d3.length then
   (c5 rf (sub d3 (some (d4.toNat,(d3.length - d4.toNat)))) d4).bind fun y9 =>
   bif y9.2 != 0 then
   some (.inl ((y9.2,d4),[]))
   else
   bif (Nat.ble (d2.length + 1) j8) && true then
   k12 rb d1 (d2 ++ [y9.1]) d3 (IntKind.i64.wrap (d4 + (y9.1.2.1.length:Int)))
   else
   none
   else
   none
   else
   none
   else
   bif E3 d4 d3.length then
   (c5 rf (sub d3 (some (d4.toNat,(d3.length - d4.toNat)))) d4).bind fun y10 =>
   bif y10.2 != 0 then
   some (.inl ((y10.2,d4),[]))
   else
   bif (Nat.ble (d2.length + 1) j8) && true then
   k12 rb d1 (d2 ++ [y10.1]) d3 (IntKind.i64.wrap (d4 + (y10.1.2.1.length:Int)))
   else
   none
   else
   none
   else
   none
   else
   none
   else
   none
  else
   none
 else
  some (.inr (d1,d2))
theorem d9v:EqB 12 (W4 b12):=fun _ _ _ => by kernel_rfl
def b13 (rf:T.RF) (rb:T.RB) (d1:List UInt8) (d2:Int):Option Int :=
 bif decide (d2 < (d1.length:Int)) then
  bif inb d2 d1.length then
   (nth d1 d2.toNat).bind fun b1 =>
   bif (((b1.toNat:Nat):Int)) != 10 then
   k13 rb d1 (IntKind.i64.wrap (d2 + 1))
   else
   some d2
  else
   none
 else
  some d2
theorem d9w:EqB 13 (W2 b13):=fun _ _ _ => by kernel_rfl
def r4 (rf:T.RF) (rb:T.RB) (d1:List UInt8):Option (List XK × Int × Int) :=
 bif decide ((d1.length:Int) > 100000) then
  some ([],7,(-1))
 else
  (k12 rb (0,0) [] d1 0).bind fun z1 =>
  match z1 with
  | .inl u2 =>
    some (u2.2,u2.1)
  | .inr w3 =>
    some (w3.2,0,0)
theorem er4:EqF 4 fun a b => r4 a b:=fun _ _ _ => by kernel_rfl
def r16 (rf:T.RF) (rb:T.RB) (d1 d2 d3:Int) (d4:List XK):Option (Int × Int × Int × List XK × Bool) :=
 some (d1,d2,d3,d4,d2 == 0)
theorem d9Q:EqF 16 (W4 r16):=fun _ _ _ => by kernel_rfl
def d2I (rf:T.RF) (rb:T.RB) (d1 d2 d3:Int) (d4:List XK) (d5:List UInt8):Option (Int × Int × Int × List XK × Bool) :=
 (c16 rf d1 d2 d3 d4).bind fun y1 =>
 bif !y1.2.2.2.2 then
  agN 1 (
   some (y1.1,y1.2.1,y1.2.2.1,y1.2.2.2.1,false)
  )
 else
  agN 1 (
   bif decide (y1.1 ≥ (y1.2.2.2.1.length:Int)) then
   some (y1.1,y1.2.1,y1.2.2.1,y1.2.2.2.1,false)
   else
   bif inb y1.1 y1.2.2.2.1.length then
   (nth y1.2.2.2.1 y1.1.toNat).bind fun x2 =>
   bif x2.1 == 4 then
   some (y1.1,y1.2.1,y1.2.2.1,y1.2.2.2.1,x2.2.1 == d5)
   else
   bif x2.1 == 3 then
   some (y1.1,y1.2.1,y1.2.2.1,y1.2.2.2.1,x2.2.1 == d5)
   else
   some (y1.1,y1.2.1,y1.2.2.1,y1.2.2.2.1,false)
   else
   none
  )
def r15 (rf:T.RF) (rb:T.RB) (d1 d2 d3:Int) (d4:List XK) (d5:List UInt8):Option (Int × Int × Int × List XK × Bool) :=
 (c16 rf d1 d2 d3 d4).bind fun y1 =>
 bif !y1.2.2.2.2 then
  some (y1.1,y1.2.1,y1.2.2.1,y1.2.2.2.1,false)
 else
 bif decide (y1.1 ≥ (y1.2.2.2.1.length:Int)) then
  some (y1.1,y1.2.1,y1.2.2.1,y1.2.2.2.1,false)
 else
 bif inb y1.1 y1.2.2.2.1.length then
  (nth y1.2.2.2.1 y1.1.toNat).bind fun x2 =>
  bif x2.1 == 4 then
   some (y1.1,y1.2.1,y1.2.2.1,y1.2.2.2.1,x2.2.1 == d5)
  else
  bif x2.1 == 3 then
   some (y1.1,y1.2.1,y1.2.2.1,y1.2.2.2.1,x2.2.1 == d5)
  else
   some (y1.1,y1.2.1,y1.2.2.1,y1.2.2.2.1,false)
 else
  none
theorem d9P:EqF 15 (W5 d2I):=fun _ _ _ => by kernel_rfl
theorem e3n (rf rb d1 d2 d3 d4 d5):d2I rf rb d1 d2 d3 d4 d5 = r15 rf rb d1 d2 d3 d4 d5:=by
 unfold d2I r15; simp only [C9,l5,p9]
def r19 (rf:T.RF) (rb:T.RB) (d1:List XK) (d2:Int):Option Int :=
 bif decide (d2 < 0) then
  some (-1)
 else
 bif decide (d2 ≥ (d1.length:Int)) then
  some (-1)
 else
 bif inb d2 d1.length then
  (nth d1 d2.toNat).bind fun x1 =>
  some x1.2.2
 else
  none
theorem d9T:EqF 19 (W2 r19):=fun _ _ _ => by kernel_rfl
def d2J (rf:T.RF) (rb:T.RB) (d1 d2 d3:Int) (d4:List XK) (d5:Int):Option (List XK × Int × Int × Int) :=
 (c16 rf d1 d2 d3 d4).bind fun y1 =>
 bif y1.2.2.2.2 then
  agN 1 (
   (c19 rf y1.2.2.2.1 y1.1).bind fun y2 =>
   some (y1.2.2.2.1,y1.1,d5,y2)
  )
 else
  some (y1.2.2.2.1,y1.1,y1.2.1,y1.2.2.1)
def r18 (rf:T.RF) (rb:T.RB) (d1 d2 d3:Int) (d4:List XK) (d5:Int):Option (List XK × Int × Int × Int) :=
 (c16 rf d1 d2 d3 d4).bind fun y1 =>
 bif y1.2.2.2.2 then
  (c19 rf y1.2.2.2.1 y1.1).bind fun y2 =>
  some (y1.2.2.2.1,y1.1,d5,y2)
 else
  some (y1.2.2.2.1,y1.1,y1.2.1,y1.2.2.1)
theorem d9S:EqF 18 (W5 d2J):=fun _ _ _ => by kernel_rfl
theorem e3o (rf rb d1 d2 d3 d4 d5):d2J rf rb d1 d2 d3 d4 d5 = r18 rf rb d1 d2 d3 d4 d5:=by
 unfold d2J r18; simp only [C9,l5,p9]
end
end Go.Proofs.YtelpjfihadaomaaGreatDoor.R
