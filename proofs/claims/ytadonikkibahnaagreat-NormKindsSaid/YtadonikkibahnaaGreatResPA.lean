import Derived.Test.YtadonikkibahnaaGreatBmF
import Derived.Test.YtadonikkibahnaaGreatProg
import Derived.KernelRfl
namespace Go.Proofs.YtadonikkibahnaaGreat.R
noncomputable section
open Go Go.Bm Go.Proofs
set_option linter.unusedVariables false
set_option linter.unusedSimpArgs false
set_option maxRecDepth 100000
abbrev XO:Type:=Int × Int × Int × Int × Int
abbrev XOc:CT:=(.prod (.int .i64) (.prod (.int .i64) (.prod (.int .i64) (.prod (.int .i64) (.int .i64)))))
abbrev XT:Type:=List XO × List Int × List Int
abbrev XTc:CT:=(.prod (.list XOc) (.prod (.list (.int .i64)) (.list (.int .i64))))
abbrev XN:Type:=Int × Int × Int × Int × Int × List UInt8
abbrev XNc:CT:=(.prod (.int .i64) (.prod (.int .i64) (.prod (.int .i64) (.prod (.int .i64) (.prod (.int .i64) .str)))))
abbrev XL:Type:=List XN
abbrev XLc:CT:=(.list XNc)
abbrev XS:Type:=List UInt8 × Int × XL
abbrev XSc:CT:=(.prod .str (.prod (.int .i64) XLc))
abbrev XR:Type:=List (Int × List UInt8 × Int) × Int × Int × Int × Int
abbrev XRc:CT:=(.prod (.list (.prod (.int .i64) (.prod .str (.int .i64)))) (.prod (.int .i64) (.prod (.int .i64) (.prod (.int .i64) (.int .i64)))))
def sq:List Nat → OrdT → OrdT
 | [],t => t
 | n :: r,t => bif Nat.beq (n % 2) 0 then .take (n / 2) (sq r t) else .only (n / 2) (sq r t)
def dk14:OrdT:=(.only 10 .done)
def dk24:OrdT:=(.take 12 (.only 13 .done))
def dk25:OrdT:=(.only 17 .done)
def dk35:OrdT:=(.take 9 dk14)
def dk38:OrdT:=(.take 13 (.only 14 .done))
def dk40:OrdT:=(.only 10 (.take 11 dk24))
def dk41:OrdT:=(sq [30,32,34,36,38,40,42,7,44,47] .done)
def dk42:OrdT:=(sq [40,42,44,47] .done)
def dk48:OrdT:=(sq [32,34,36,38] dk42)
def dk50:OrdT:=(sq [24,26,28,30] dk48)
def dk51:OrdT:=(.only 15 dk25)
def dk52:OrdT:=(.take 14 (.alt 15 (.only 16 dk25) (.only 16 dk51)))
def dk53:OrdT:=(.only 7 (.take 8 dk35))
abbrev oz76:Tm:=⟨[],[.one (.pl (.list XSc)),.one (.pl (.int .i64))]⟩
abbrev oz75:Tm:=⟨[],[.agg [.pl XNc],.one (.pl (.list (.int .i64)))]⟩
abbrev oz74:List SlT:=[.one (.sl 0),.one (.pl (.int .i64)),.one (.pl (.int .i64))]
abbrev oz73:List SlT:=[.one (.pl (.list XSc)),.one (.ptr 0 0),.one (.pl (.int .i64))]
abbrev oz72:Tm:=⟨[],[.one (.pl (.list (.int .i64))),.one (.fn 62 [] [])]⟩
abbrev oz71:List SlT:=[.one (.ifp 165 0 0),.one (.pl (.int .i64)),.one (.pl (.int .i64))]
abbrev oz70:List SlT:=[.one (.sl 0),.one (.pl (.int .i64))]
abbrev oz69:List SlT:=[.one (.sl 0),.one (.pl (.int .i64)),.one (.sl 1),.one (.pl (.int .i64))]
abbrev oz68:Tm:=⟨[],[.one (.pl (.list (.int .i64))),.one (.pl (.list (.int .i64)))]⟩
abbrev oz67:List SlT:=[.one (.sl 0),.one (.pl XLc),.one (.pl (.int .i64)),.one (.pl (.int .i64))]
abbrev oz66:List SlT:=[.one (.pl (.int .i64)),.one (.ptr 0 0)]
abbrev oz65:List (Bool × ObT):=[(true,.arr (.list .str)),(true,.arr .bool),(true,.gone),(true,.arr (.int .i64))]
abbrev oz64:List (Bool × ObT):=[(true,.box [.pl XTc]),(true,.box [.pl XTc])]
abbrev oz63:List LT:=[.pl .str,.pl (.int .i64),.pl XLc,.sl 10,.sl 11,.pl (.list (.int .i64)),.sl 12]
abbrev oz62:List (Bool × ObT):=[(true,.box [.pl XNc]),(true,.arr (.int .i64))]
abbrev oz61:List (Bool × ObT):=[(true,.box [.pl XTc]),(true,.arr (.int .i64))]
abbrev oz60:List (Bool × ObT):=[(true,.map .str (.list (.int .i64)) false),(true,.arr (.int .i64)),(true,.rows (.int .i64))]
abbrev oz59:Tm:=⟨[],[.agg [.pl XTc],.one (.pl (.int .i64))]⟩
abbrev oz58:List SlT:=[.one (.ptr 0 0),.one (.pl .str)]
abbrev oz57:List LT:=[.pl (.prod (.int .i64) (.prod .str (.int .i64)))]
abbrev oz56:Tm:=⟨[],[.one (.pl (.list (.prod (.int .i64) (.prod .str (.int .i64))))),.one (.pl (.int .i64))]⟩
abbrev oz55:List SlT:=[.one (.pl (.list XSc)),.one (.ptr 0 0),.one (.pl (.list (.list (.int .i64)))),.one (.pl (.int .i64))]
abbrev oz54:Tm:=⟨[(true,.arr XNc)],[.one (.sl 0)]⟩
abbrev oz53:List LT:=[.sl 2,.pl (.list (.int .i64)),.pl (.list (.int .i64))]
abbrev oz52:List SlT:=[.one (.ptr 0 0),.one (.ptr 1 0),.one (.pl (.int .i64))]
abbrev oz15:List LT:=[.pl (.prod (.int .i64) (.int .i64))]
abbrev oz51:Tm:=⟨[(true,.box oz15),(true,.gone),(true,.arr (.prod (.int .i64) (.prod .str (.int .i64))))],[.one (.sl 2)]⟩
abbrev oz50:List (Bool × ObT):=[(true,.arr .bool),(true,.arr (.int .i64))]
abbrev oz49:List SlT:=[.one (.ptr 0 0),.one (.ptr 1 0),.one (.ptr 2 0),.one (.pl (.list XSc)),.one (.pl (.int .i64)),.one (.pl (.int .i64))]
abbrev oz48:List (Bool × ObT):=[(true,.box [.sl 3]),(true,.box [.sl 4]),(true,.box [.fn 118 [] [some 0,some 1,some 2]]),(true,.arr XNc),(true,.arr .str)]
abbrev oz47:List (Bool × ObT):=[(true,.arr .bool),(true,.box [.pl XNc]),(true,.arr (.int .i64))]
abbrev oz46:Tm:=⟨[(true,.box [.sl 4,.sl 2,.sl 3]),(true,.gone),(true,.arr (.int .i64)),(true,.arr (.int .i64)),(true,.arr XOc)],[]⟩
abbrev oz45:List SlT:=[.one (.ptr 0 0),.one (.ptr 1 0),.one (.ptr 2 0),.one (.sl 3),.one (.sl 4),.one (.pl (.int .i64)),.one (.ptr 5 0),.one (.ptr 6 0)]
abbrev oz44:Tm:=⟨[],[.one (.pl (.list XSc)),.one (.pl (.list (.list (.int .i64)))),.one (.pl XLc),.one (.pl (.int .i64)),.one (.pl (.int .i64))]⟩
abbrev oz43:Tm:=⟨[(true,.box [.pl XTc]),(true,.box [.sl 3,.pl (.list (.int .i64)),.pl (.list (.int .i64))]),(true,.gone),(true,.arr XOc)],[]⟩
abbrev oz42:Tm:=⟨[],[.one (.pl .str)]⟩
abbrev oz41:List SlT:=[.one (.pl XLc),.one (.pl (.int .i64))]
abbrev oz40:Tm:=⟨[(true,.gone),(true,.arr XNc)],[.one (.sl 1)]⟩
abbrev oz39:List SlT:=[.one (.ptr 0 0),.one (.sl 1),.one (.pl (.int .i64)),.one (.pl (.int .i64))]
abbrev oz38:List SlT:=[.one (.pl XLc),.one (.sl 0),.one (.pl (.int .i64))]
abbrev oz37:List (Bool × ObT):=[(true,.arr .bool)]
abbrev oz36:List LT:=[.pl (.int .i64)]
abbrev oz35:Tm:=⟨[],[.one (.pl (.list XSc))]⟩
abbrev oz26:List LT:=[.pl (.list (.list (.int .i64)))]
abbrev oz34:List (Bool × ObT):=[(true,.box [.sl 4]),(true,.box [.mp 5]),(true,.box [.fn 25 [] [some 0,some 1,some 2,some 3]]),(true,.box oz26),(true,.arr XLc),(true,.map .str (.int .i64) false)]
abbrev oz33:List (Bool × ObT):=[(true,.box [.sl 2]),(true,.gone),(true,.arr (.int .i64))]
abbrev oz32:Tm:=⟨[(true,.box [.pl XTc]),(true,.box oz53),(false,.arr XOc)],oz52⟩
abbrev oz31:List SlT:=[.one (.ptr 0 0),.one (.pl (.int .i64))]
abbrev oz30:Tm:=⟨[],[.agg [.pl XTc]]⟩
abbrev oz29:Tm:=⟨[],[.agg [.pl XNc]]⟩
abbrev oz28:List (Bool × ObT):=[(true,.box [.pl XRc])]
abbrev oz27:List (Bool × ObT):=[(true,.box [.sl 1,.sl 2,.sl 3]),(true,.arr XOc),(true,.arr (.int .i64)),(true,.arr (.int .i64))]
abbrev oz25:Tm:=⟨[],[.one (.pl XLc)]⟩
abbrev oz24:List (Bool × ObT):=[(true,.box [.ptr 2 0]),(true,.box [.pl XNc]),(true,.box [.pl .str,.pl (.int .i64),.pl XLc,.sl 3,.sl 4,.pl (.list (.int .i64)),.sl 5]),(true,.arr .bool),(true,.arr (.int .i64)),(true,.arr (.any false))]
abbrev oz23:Tm:=⟨[],[.one (.pl .str),.one (.pl (.int .i64))]⟩
abbrev oz22:List (Bool × ObT):=[(true,.box [.ptr 3 0]),(true,.box [.pl XNc]),(true,.arr (.int .i64)),(true,.box [.pl .str,.pl (.int .i64),.pl XLc,.sl 4,.sl 5,.pl (.list (.int .i64)),.sl 6]),(true,.arr .bool),(true,.arr (.int .i64)),(true,.arr (.any false))]
abbrev oz21:List LT:=[.pl .str,.pl (.int .i64),.pl XLc,.sl 12,.sl 13,.pl (.list (.int .i64)),.sl 14]
abbrev oz20:List (Bool × ObT):=[(true,.box [.sl 2]),(true,.box [.sl 3]),(true,.arr XLc),(true,.rows (.int .i64))]
abbrev oz19:List (Bool × ObT):=[(true,.arr (.int .i64)),(true,.arr (.int .i64))]
abbrev oz18:List (Bool × ObT):=[(true,.box [.fn 25 [] [some 3,some 4,some 0,some 5]]),(true,.cells [.ptr 6 1,.ptr 6 2,.ptr 6 3]),(true,.arr (.int .i64)),(true,.box [.sl 7]),(true,.box [.mp 8]),(true,.box oz26),(true,.box [.pl XOc]),(true,.arr XLc),(true,.map .str (.int .i64) false)]
abbrev oz17:Tm:=⟨[(true,.box [.pl XRc]),(true,.gone),(true,.arr XNc)],[.one (.sl 2)]⟩
abbrev oz16:List (Bool × ObT):=[(true,.arr .str)]
abbrev oz14:Tm:=⟨[(true,.box [.pl XRc]),(false,.arr XNc)],[.one (.ptr 0 0),.one (.sl 1)]⟩
abbrev oz13:Tm:=⟨[(true,.box [.sl 10,.sl 3,.sl 4]),(true,.box [.fn 25 [] [some 5,some 6,some 1,some 7]]),(true,.gone),(true,.arr (.int .i64)),(true,.arr (.int .i64)),(true,.box [.sl 8]),(true,.box [.mp 9]),(true,.box oz26),(true,.arr XLc),(true,.map .str (.int .i64) false),(true,.arr XOc)],[]⟩
abbrev oz12:List (Bool × ObT):=[(true,.box [.nilp]),(true,.box oz36),(true,.box [.ptr 3 0]),(true,.box [.sl 4,.mp 5,.sl 6,.pl .bool,.pl (.int .i64)]),(true,.arr (.any true)),(true,.map .str (.int .i64) false),(true,.arr (.int .i64))]
abbrev oz11:Tm:=⟨oz28,[.one (.ptr 0 0)]⟩
abbrev oz10:List (Bool × ObT):=[(true,.arr (.int .i64))]
abbrev oz9:List (Bool × ObT):=[(true,.box [.sl 1]),(true,.arr (.int .i64))]
abbrev oz8:List (Bool × ObT):=[(true,.box [.nilp]),(true,.box oz36),(true,.box [.ptr 7 0]),(true,.arr (.prod .str XLc)),(true,.arr (.int .i64)),(true,.box [.pl XSc]),(true,.box [.ptr 8 0]),(true,.box [.sl 15,.mp 10,.sl 11,.pl .bool,.pl (.int .i64)]),(true,.box oz21),(true,.gone),(true,.map .str (.int .i64) false),(true,.arr (.int .i64)),(true,.arr .bool),(true,.arr (.int .i64)),(true,.arr (.any false)),(true,.arr (.any true))]
abbrev oz7:List (Bool × ObT):=[(true,.box [.pl XTc])]
abbrev oz6:Tm:=⟨[(true,.box [.pl XRc]),(true,.arr XNc)],[.one (.sl 1)]⟩
abbrev oz5:List (Bool × ObT):=[(true,.box [.nilp]),(true,.box oz36),(true,.box [.ptr 5 0]),(true,.box [.ptr 6 0]),(true,.box [.pl XNc]),(true,.box [.sl 7,.mp 8,.sl 9,.pl .bool,.pl (.int .i64)]),(true,.box oz63),(true,.arr (.any true)),(true,.map .str (.int .i64) false),(true,.arr (.int .i64)),(true,.arr .bool),(true,.arr (.int .i64)),(true,.arr (.any false))]
abbrev oz4:List (Bool × ObT):=[(true,.box [.nilp]),(true,.box oz36),(true,.box [.ptr 5 0]),(true,.box [.ptr 6 0]),(true,.box [.pl XLc]),(true,.box [.sl 7,.mp 8,.sl 9,.pl .bool,.pl (.int .i64)]),(true,.box oz63),(true,.arr (.any true)),(true,.map .str (.int .i64) false),(true,.arr (.int .i64)),(true,.arr .bool),(true,.arr (.int .i64)),(true,.arr (.any false))]
abbrev oz3:List SlT:=[.one (.pl (.int .i64))]
abbrev oz2:List SlT:=[.one (.pl .bool)]
abbrev oz1:List (Bool × ObT):=[(true,.box [.nilp]),(true,.box oz36),(true,.box [.ptr 7 0]),(true,.arr (.prod .str XLc)),(true,.arr (.int .i64)),(true,.box [.pl XSc]),(true,.box [.ptr 8 0]),(true,.box [.sl 9,.mp 10,.sl 11,.pl .bool,.pl (.int .i64)]),(true,.box oz21),(true,.arr (.any true)),(true,.map .str (.int .i64) false),(true,.arr (.int .i64)),(true,.arr .bool),(true,.arr (.int .i64)),(true,.arr (.any false))]
def tabs:Tabs:={
 tabL:=[(3,.leaf (.int .i64 0)),
 (4,.leaf (.bool false)),
 (5,.leaf (.int .u8 0)),
 (9,.leaf (.str [])),
 (21,.leaf (.int .i32 0)),
 (22,.slice XSc 47),
 (25,.slice XOc 51),
 (26,.slice (.int .i64) 3),
 (28,.struct [(0,1,false),(1,1,false),(2,1,false)] [.nils,.nils,.nils]),
 (29,.leaf (.int .i64 0)),
 (32,.slice XOc 59),
 (34,.struct [(0,1,false),(1,1,false),(2,1,false)] [.nils,.nils,.nils]),
 (45,.slice XNc 49),
 (47,.struct [(0,1,false),(1,1,false),(2,1,false)] [.str [],.int .i64 0,.nils]),
 (49,.struct [(0,1,false),(1,1,false),(2,1,false),(3,1,false),(4,1,false),(5,1,false)] [.int .i64 0,.int .i64 0,.int .i64 0,.int .i64 0,.int .i64 0,.str []]),
 (51,.struct [(0,1,false),(1,1,false),(2,1,false),(3,1,false),(4,1,false)] [.int .i64 0,.int .i64 0,.int .i64 0,.int .i64 0,.int .i64 0]),
 (54,.slice (.list (.int .i64)) 26),
 (56,.struct [(0,1,false),(1,1,false)] [.int .i64 0,.int .i64 0]),
 (59,.struct [(0,1,false),(1,1,false),(2,1,false),(3,1,false),(4,1,false)] [.int .i64 0,.int .i64 0,.int .i64 0,.int .i64 0,.int .i64 0]),
 (65,.map .str (.int .i64) false),
 (66,.slice XLc 45),
 (68,.leaf (.nilf)),
 (69,.leaf (.nilp)),
 (70,.slice .unit 69),
 (83,.slice (.prod (.int .i64) (.prod .str (.int .i64))) 89),
 (89,.struct [(0,1,false),(1,1,false),(2,1,false)] [.int .i64 0,.str [],.int .i64 0]),
 (90,.leaf (.nilp)),
 (99,.slice (.prod .str XLc) 103),
 (103,.struct [(0,1,false),(1,1,false)] [.str [],.nils]),
 (112,.slice .bool 4),
 (118,.struct [(0,1,false),(1,1,false),(2,1,false),(3,2,true)] [.nils,.int .i64 0,.int .i64 0,.int .i64 0,.int .i64 0]),
 (122,.slice (.any true) 126),
 (124,.struct [(0,1,false),(1,1,false),(2,1,false),(3,1,false),(4,1,false)] [.nils,.nilm,.nils,.bool false,.int .i64 0]),
 (126,.leaf (.nilp)),
 (127,.slice (.any false) 134),
 (129,.struct [(0,3,true),(3,1,false),(4,1,false),(5,1,false),(6,1,false)] [.str [],.int .i64 0,.nils,.nils,.nils,.nils,.nils]),
 (134,.leaf (.nili)),
 (142,.slice (.list .str) 143),
 (143,.slice .str 9),
 (153,.leaf (.nilp)),
 (155,.struct [(0,1,false)] [.int .i64 0]),
 (156,.leaf (.nilp)),
 (158,.struct [(0,1,false)] [.int .i64 0]),
 (159,.leaf (.nilp)),
 (161,.struct [(0,1,false),(1,1,false)] [.int .i64 0,.int .i64 0]),
 (162,.leaf (.nilp)),
 (163,.struct [(0,1,false)] [.int .i64 0]),
 (164,.map .str (.list (.int .i64)) false),
 (165,.leaf (.nilp)),
 (166,.slice (.int .i64) 3),
 (168,.struct [(0,1,false)] [.nils]),
 (180,.leaf (.nilf))]
 eqtL:=[49,59]
 keysL:=[(3,[0]),(4,[125]),(5,[137]),(6,[138]),(7,[139]),(8,[1]),(9,[2]),(10,[44]),(11,[102]),(12,[100]),(13,[99]),(14,[126]),(15,[82]),(16,[81,127]),(17,[128]),(18,[130]),(19,[3]),(20,[45]),(21,[73]),(22,[75]),(23,[76]),(24,[59]),(25,[80]),(26,[49]),(27,[103]),(28,[119]),(29,[121]),(30,[122]),(31,[112]),(32,[124]),(33,[101]),(34,[85]),(35,[86]),(36,[97]),(37,[83]),(38,[91,95]),(39,[98]),(40,[129]),(41,[135]),(42,[131]),(43,[4]),(44,[15]),(45,[46]),(47,[74]),(48,[77]),(49,[79]),(50,[47]),(51,[60]),(52,[104]),(53,[105]),(54,[110]),(55,[120]),(56,[123]),(57,[113]),(58,[30]),(59,[90]),(60,[87]),(61,[88]),(62,[93]),(63,[94]),(64,[84]),(65,[92,96]),(66,[132]),(67,[134]),(68,[136]),(69,[5]),(70,[16]),(71,[26]),(72,[43]),(73,[55]),(74,[56]),(75,[57]),(79,[78]),(80,[48]),(81,[51]),(82,[53]),(83,[50]),(84,[106]),(85,[111]),(86,[117]),(87,[114]),(88,[89]),(89,[133]),(90,[6]),(91,[7]),(92,[8]),(93,[9]),(94,[13]),(95,[17]),(96,[35]),(97,[42]),(99,[58]),(100,[64]),(101,[66]),(102,[70]),(104,[52]),(105,[54]),(106,[107]),(107,[108]),(108,[109]),(109,[115]),(110,[116,118]),(111,[33]),(112,[10]),(113,[12]),(114,[14]),(115,[18]),(116,[36]),(117,[28]),(118,[61]),(119,[62]),(120,[67]),(121,[71]),(125,[11]),(126,[19]),(127,[29]),(128,[31]),(129,[63]),(132,[20]),(133,[32]),(134,[21]),(135,[22]),(136,[23]),(137,[24]),(138,[25]),(139,[27]),(140,[34]),(141,[39]),(142,[40]),(143,[38]),(144,[41]),(145,[37]),(166,[68]),(167,[72]),(168,[65]),(170,[69])]
 mkrL:=[54,164]
 mtL := [(165, [("Len", (101, some (166, 0))), ("Less", (166, some (166, 0))), ("Pop", (167, none)), ("Push", (168, none)), ("Swap", (170, some (166, 0)))])]
 itL:=[(98,(XNc,true))]
 kinL:=[oz35,
 ⟨[],[.one (.pl (.list XSc)),.one (.pl (.list (.list (.int .i64))))]⟩,
 ⟨[],[]⟩,
 oz42,
 oz42,
 oz23,
 ⟨[],[.one (.pl (.int .u8))]⟩,
 oz42,
 ⟨[],[.one (.pl (.int .u8))]⟩,
 oz23,
 oz42,
 ⟨[],[]⟩,
 oz42,
 oz42,
 ⟨[],[]⟩,
 oz56,
 oz11,
 oz11,
 oz11,
 oz11,
 oz11,
 oz11,
 oz11,
 oz11,
 oz11,
 ⟨oz28,oz31⟩,
 oz56,
 ⟨oz28,[.one (.ptr 0 0),.agg oz57]⟩,
 ⟨[],[.one (.pl (.int .i64)),.one (.pl (.int .i64)),.one (.pl .str),.one (.pl (.list XLc))]⟩,
 ⟨[],[.one (.pl (.int .i64)),.one (.pl (.int .i64)),.one (.pl .str)]⟩,
 oz29,
 ⟨[(true,.arr XNc)],[.one (.sl 0),.one (.pl XLc)]⟩,
 ⟨[],[.agg [.pl XNc],.one (.pl (.int .i64))]⟩,
 oz75,
 ⟨oz28,oz58⟩,
 ⟨oz28,oz58⟩,
 ⟨oz28,oz58⟩,
 oz11,
 ⟨oz28,oz58⟩,
 oz42,
 oz11,
 oz11,
 ⟨oz28,[.one (.ptr 0 0),.one (.pl (.int .i64)),.one (.pl XLc),.one (.pl XLc)]⟩,
 oz25,
 oz35,
 ⟨[],[.one (.pl (.list XSc)),.one (.nils)]⟩,
 oz35,
 oz25,
 oz29,
 oz29,
 oz75,
 ⟨[],[.one (.pl (.list .bool)),.one (.pl .bool)]⟩,
 ⟨[],[.one (.pl (.list .bool)),.one (.pl .bool)]⟩,
 oz25,
 oz25,
 oz25,
 oz29,
 ⟨[],[.one (.pl (.list (.prod .str XLc)))]⟩,
 oz25,
 ⟨[],oz41⟩,
 ⟨[(true,.arr XNc)],[.one (.sl 0),.one (.pl XLc),.one (.pl (.int .i64))]⟩,
 ⟨oz48,[.one (.pl (.int .i64)),.one (.ptr 0 0),.one (.ptr 1 0),.one (.ptr 2 0)]⟩,
 ⟨oz16,[.one (.sl 0),.one (.pl .str)]⟩,
 ⟨oz16,[.one (.sl 0),.one (.pl .str)]⟩,
 ⟨oz9,[.one (.ifp 165 0 0),.one (.ifi 3 .i64)]⟩,
 ⟨oz9,[.one (.ptr 0 0),.one (.ifi 3 .i64)]⟩,
 ⟨oz10,[.one (.sl 0)]⟩,
 ⟨oz9,[.one (.ifp 165 0 0),.one (.pl (.int .i64))]⟩,
 ⟨oz10,oz74⟩,
 ⟨oz10,oz74⟩,
 ⟨oz9,[.one (.ifp 165 0 0)]⟩,
 ⟨oz9,oz71⟩,
 ⟨oz9,[.one (.ptr 0 0)]⟩,
 ⟨[],[.one (.pl (.list XSc)),.one (.fn 22 [] [])]⟩,
 ⟨[],[.one (.pl (.list XSc)),.one (.fn 22 [] [])]⟩,
 ⟨[],[.agg [.pl XSc]]⟩,
 oz25,
 ⟨[],[.one (.pl XLc),.one (.fn 49 [] [])]⟩,
 ⟨[],[.one (.pl XLc),.one (.fn 49 [] [])]⟩,
 oz29,
 ⟨oz34,[.one (.pl (.int .i64)),.one (.pl (.int .i64)),.one (.ptr 0 0),.one (.ptr 1 0),.one (.ptr 2 0),.one (.ptr 3 0)]⟩,
 ⟨[(true,.arr XOc)],[.agg [.sl 0,.pl (.list (.int .i64)),.pl (.list (.int .i64))]]⟩,
 oz30,
 ⟨oz7,[.one (.pl (.list XOc)),.one (.fn 34 [] [some 0])]⟩,
 ⟨oz7,[.one (.pl (.list XOc)),.one (.fn 34 [] [some 0])]⟩,
 ⟨oz7,[.agg [.pl XOc],.one (.ptr 0 0)]⟩,
 ⟨[],[.agg [.pl XTc],.agg [.pl XOc]]⟩,
 ⟨[],[.agg [.pl XOc]]⟩,
 ⟨[],oz3⟩,
 ⟨[],oz3⟩,
 ⟨oz7,oz66⟩,
 oz72,
 oz72,
 ⟨[],oz3⟩,
 ⟨[],oz3⟩,
 ⟨oz7,[.one (.pl (.list (.int .i64))),.one (.fn 36 [] [some 0])]⟩,
 ⟨oz7,[.one (.pl (.list (.int .i64))),.one (.fn 36 [] [some 0])]⟩,
 ⟨oz7,oz66⟩,
 oz30,
 oz30,
 ⟨[],[.agg [.pl XTc],.agg [.pl XTc]]⟩,
 oz68,
 oz35,
 oz35,
 ⟨[],[.one (.pl (.list XSc)),.one (.pl .str)]⟩,
 ⟨[],[.one (.pl (.list XSc)),.one (.pl XLc)]⟩,
 oz25,
 oz29,
 oz29,
 ⟨[],oz41⟩,
 ⟨[],[.one (.pl (.list (.prod .str XLc)))]⟩,
 oz25,
 oz25,
 ⟨[],oz41⟩,
 ⟨[(true,.arr XNc)],[.one (.pl XLc),.one (.pl (.int .i64)),.one (.sl 0)]⟩,
 oz25,
 ⟨oz16,[.one (.sl 0),.one (.pl .str)]⟩,
 ⟨oz37,[.one (.pl (.list (.prod .str XLc))),.one (.sl 0),.one (.pl (.list .str))]⟩,
 ⟨[],[.one (.pl (.list .str)),.one (.pl .str)]⟩,
 oz25,
 ⟨[],oz3⟩,
 oz76,
 ⟨[],[.one (.pl (.list XSc)),.one (.pl (.list (.list (.int .i64)))),.one (.pl (.int .i64))]⟩,
 oz44,
 oz44,
 oz30,
 oz30,
 oz30,
 oz30,
 oz30,
 ⟨[],oz3⟩,
 ⟨[],oz3⟩,
 ⟨[],[.agg [.pl XTc],.agg [.pl XOc]]⟩,
 ⟨[],oz3⟩,
 ⟨[],[.agg [.pl XTc],.one (.pl (.int .i64)),.one (.pl (.int .i64)),.one (.pl (.int .i64))]⟩,
 oz30,
 ⟨[],[.agg [.pl XOc]]⟩,
 oz35,
 oz35,
 oz59]
 koutsL:=[[⟨[],oz2⟩],
 [⟨[],oz2⟩],
 [⟨[],oz2⟩],
 [⟨[],[.one (.pl XLc),.agg oz15]⟩],
 [⟨[(true,.arr (.prod (.int .i64) (.prod .str (.int .i64))))],[.one (.sl 0),.agg oz15]⟩],
 [⟨[],[.agg oz57,.one (.pl (.int .i64))]⟩],
 [⟨[],oz2⟩],
 [⟨[],oz3⟩],
 [⟨[],oz2⟩],
 [⟨[],[.agg oz57,.one (.pl (.int .i64))]⟩],
 [⟨[],oz2⟩],
 [⟨oz16,[.one (.sl 0)]⟩],
 [⟨[],oz2⟩],
 [oz42],
 [⟨oz16,[.one (.sl 0)]⟩],
 [⟨[],[.one (.pl XLc),.one (.pl (.int .i64)),.agg oz15]⟩],
 [oz6],
 [oz6],
 [oz6],
 [oz6],
 [oz6],
 [oz6],
 [oz6],
 [oz6],
 [oz6],
 [oz6],
 [⟨[],oz3⟩],
 [oz6],
 [oz54],
 [oz29],
 [⟨oz10,[.one (.sl 0)]⟩],
 [oz40],
 [oz29],
 [oz29],
 [oz6],
 [⟨oz28,oz2⟩],
 [⟨oz28,oz2⟩],
 [⟨[(true,.box [.pl XRc]),(true,.arr XLc)],[.one (.sl 1)]⟩],
 [⟨oz28,[]⟩],
 [⟨[],oz3⟩],
 [oz6],
 [oz6],
 [oz6],
 [⟨[],oz3⟩],
 [oz59],
 [⟨[(true,.arr (.list (.int .i64)))],oz70⟩],
 [⟨[],[.one (.nilp),.one (.pl (.int .i64))]⟩,⟨[(true,.box [.sl 1,.mp 2,.sl 3,.pl .bool,.pl (.int .i64)]),(true,.arr (.any true)),(true,.map .str (.int .i64) false),(true,.arr (.int .i64))],oz31⟩],
 [⟨[],oz2⟩],
 [⟨[],oz2⟩],
 [⟨oz10,[.one (.sl 0)]⟩],
 [oz29],
 [⟨[],oz2⟩],
 [⟨[],oz3⟩],
 [⟨[],oz3⟩],
 [⟨oz10,[.one (.sl 0)]⟩],
 [⟨[(true,.box [.pl XLc])],[.one (.fn 98 [] [some 0])]⟩],
 [⟨[(true,.box oz36)],[.one (.ifp 153 0 0)]⟩,⟨[(true,.box oz36)],[.one (.ifp 156 0 0)]⟩,⟨[(true,.box oz15)],[.one (.ifp 159 0 0)]⟩,⟨[(true,.box oz36)],[.one (.ifp 162 0 0)]⟩,⟨[],[.one (.nili)]⟩],
 [⟨oz10,oz70⟩],
 [⟨[],[.one (.pl (.list .str))]⟩],
 [oz54],
 [oz40],
 [⟨oz48,[]⟩,⟨[(true,.box [.sl 3]),(true,.box [.sl 5]),(true,.box [.fn 118 [] [some 0,some 1,some 2]]),(true,.arr XNc),(true,.gone),(true,.arr .str)],[]⟩],
 [⟨oz16,oz2⟩],
 [⟨oz16,oz3⟩],
 [⟨oz33,[]⟩],
 [⟨oz33,[]⟩],
 [⟨oz10,oz3⟩],
 [⟨oz9,[]⟩],
 [⟨oz10,oz2⟩],
 [⟨oz10,[]⟩],
 [⟨oz33,[.one (.ifi 3 .i64)]⟩],
 [⟨oz9,oz2⟩],
 [⟨oz33,[.one (.ifi 3 .i64)]⟩],
 [⟨[],oz2⟩],
 [⟨[],oz3⟩],
 [⟨[],oz2⟩],
 [⟨[],oz2⟩],
 [⟨[],oz2⟩],
 [⟨[],oz3⟩],
 [⟨[],oz2⟩],
 [⟨oz34,oz3⟩],
 [⟨[(true,.arr XOc)],[.agg [.pl XTc]]⟩],
 [⟨[],oz3⟩],
 [⟨oz7,oz2⟩],
 [⟨oz7,oz3⟩],
 [⟨oz7,oz2⟩],
 [⟨[],oz2⟩],
 [oz68],
 [⟨[],oz3⟩],
 [⟨[],oz3⟩],
 [⟨oz7,oz2⟩],
 [⟨[],oz2⟩],
 [⟨[],oz3⟩],
 [⟨[],oz2⟩],
 [⟨[],oz2⟩],
 [⟨oz7,oz2⟩],
 [⟨oz7,oz3⟩],
 [⟨oz7,oz2⟩],
 [⟨[],oz2⟩],
 [oz30],
 [⟨[],oz2⟩],
 [⟨[],oz2⟩],
 [oz59],
 [⟨[],oz3⟩],
 [⟨[],oz3⟩],
 [⟨[],oz2⟩],
 [⟨[],oz2⟩],
 [⟨[],oz2⟩],
 [⟨[],oz2⟩],
 [⟨[],oz2⟩],
 [⟨oz10,oz70⟩],
 [⟨oz16,[.one (.sl 0)]⟩],
 [oz54],
 [oz54],
 [oz40],
 [⟨oz37,[.one (.sl 0)]⟩],
 [⟨oz16,oz2⟩],
 [⟨oz37,oz2⟩],
 [⟨[],oz2⟩],
 [⟨[],oz2⟩],
 [⟨[],oz2⟩],
 [⟨[(true,.arr (.list (.int .i64)))],[.one (.sl 0)]⟩],
 [⟨[],oz3⟩],
 [⟨[],oz3⟩],
 [⟨[],[.agg [.pl XOc]]⟩],
 [⟨[],oz2⟩],
 [⟨[],oz2⟩],
 [oz30],
 [⟨[],oz3⟩],
 [⟨[],oz2⟩],
 [⟨[],oz3⟩],
 [⟨[],oz3⟩],
 [⟨[],oz2⟩],
 [⟨[],oz2⟩],
 [⟨[],oz2⟩],
 [⟨oz10,[.one (.sl 0)]⟩],
 [⟨oz10,[.one (.sl 0)]⟩],
 [⟨[],oz2⟩],
 [⟨[],oz2⟩],
 [⟨[],oz2⟩]]
 bkL:=[⟨[0,5],oz76,[1],[(.ret,[4],⟨[],oz2⟩),(.norm,[],⟨[],[]⟩)]⟩,
 ⟨[1,6],⟨[],[.one (.pl (.list (.list (.int .i64)))),.one (.pl (.int .i64))]⟩,[],[(.ret,[4],⟨[],oz2⟩),(.norm,[],⟨[],[]⟩)]⟩,
 noBlk,
 noBlk,
 ⟨[0,6],oz23,[0,1,4,5],[(.norm,[6],⟨[],oz3⟩)]⟩,
 ⟨[0,3,4],⟨[],[.one (.pl .str),.one (.pl (.int .i64)),.one (.pl (.int .i64))]⟩,[2],[(.norm,[3],⟨[],oz3⟩)]⟩,
 ⟨[0,6],oz23,[0,1,4,5],[(.norm,[6],⟨[],oz3⟩)]⟩,
 ⟨[0,3,4],⟨oz16,[.one (.pl .str),.one (.sl 0),.one (.pl (.int .i64))]⟩,[],[(.ret,[2],⟨oz16,oz2⟩),(.norm,[],⟨oz16,[]⟩)]⟩,
 ⟨[0,3],oz23,[],[(.ret,[2],⟨[],oz2⟩),(.norm,[],⟨[],[]⟩)]⟩,
 ⟨[0,3,4],⟨oz16,[.one (.pl .str),.one (.sl 0),.one (.pl (.int .i64))]⟩,[],[(.ret,[2],⟨oz16,[.one (.pl .str)]⟩),(.norm,[],⟨oz16,[]⟩)]⟩,
 ⟨[0,3,4,5],⟨[(true,.box oz15),(false,.arr (.prod (.int .i64) (.prod .str (.int .i64))))],[.one (.pl .str),.one (.ptr 0 0),.one (.sl 1),.one (.pl (.int .i64))]⟩,[3],[(.ret,[2],oz51),(.norm,[4],oz51)]⟩,
 ⟨[0,5],oz23,[0,2,3,4],[(.norm,[5],⟨[],oz3⟩)]⟩,
 noBlk,
 noBlk,
 noBlk,
 ⟨[0,1,5,6],⟨[(false,.arr XNc)],oz67⟩,[4],[(.norm,[0],oz40)]⟩,
 ⟨[0,3,11,12,13,14],⟨[(false,.arr XNc),(false,.arr (.int .i64))],[.one (.pl (.int .i64)),.one (.pl (.list XLc)),.one (.sl 0),.one (.sl 1),.one (.pl (.int .i64)),.one (.pl (.int .i64))]⟩,[0,9],[(.ret,[8],⟨[(true,.gone),(true,.gone),(true,.arr XNc)],[.one (.sl 2)]⟩),(.norm,[11,12,13],⟨[(true,.gone),(true,.gone),(true,.arr XNc),(true,.arr (.int .i64))],[.one (.sl 2),.one (.sl 3),.one (.pl (.int .i64))]⟩)]⟩,
 noBlk,
 ⟨[0,3],⟨[(true,.box [.pl XRc]),(false,.arr XLc)],[.one (.ptr 0 0),.one (.sl 1)]⟩,[],[(.ret,[2],⟨[(true,.box [.pl XRc]),(true,.gone),(true,.arr XLc)],[.one (.sl 2)]⟩),(.norm,[],⟨[(true,.box [.pl XRc]),(true,.gone)],[]⟩)]⟩,
 noBlk,
 ⟨[0,3],oz14,[2],[(.norm,[3],oz17)]⟩,
 noBlk,
 ⟨[0,3],oz14,[2],[(.norm,[3],oz17)]⟩,
 noBlk,
 ⟨[0,3],oz14,[2],[(.norm,[3],oz17)]⟩,
 noBlk,
 ⟨[0,3],oz14,[2],[(.norm,[3],oz17)]⟩,
 noBlk,
 ⟨[0,3],oz14,[2],[(.norm,[3],oz17)]⟩,
 noBlk,
 noBlk,
 noBlk,
 noBlk,
 noBlk,
 noBlk,
 noBlk,
 ⟨[0,3,4],⟨oz10,oz38⟩,[0,2,3],[(.norm,[],⟨oz10,[]⟩)]⟩,
 ⟨[3,4,5,6],⟨oz19,oz69⟩,[0,3,4],[(.norm,[],⟨oz19,[]⟩)]⟩,
 noBlk,
 ⟨[0,1,6],⟨[(true,.box oz15)],[.one (.pl (.list (.prod (.int .i64) (.prod .str (.int .i64))))),.one (.pl (.int .i64)),.one (.ptr 0 0)]⟩,[6],[(.ret,[4,5],⟨[(true,.box oz15),(true,.arr XNc)],[.one (.sl 1),.one (.pl (.int .i64))]⟩),(.ret,[4,5],⟨[(true,.box oz15)],oz41⟩)]⟩,
 noBlk,
 noBlk,
 noBlk,
 noBlk,
 noBlk,
 noBlk,
 noBlk,
 noBlk,
 noBlk,
 noBlk,
 noBlk,
 noBlk,
 noBlk,
 noBlk,
 noBlk,
 noBlk,
 noBlk,
 ⟨[0,3,30,31,32],⟨oz37,[.one (.pl XLc),.one (.sl 0),.one (.pl XLc),.one (.pl (.int .i64)),.one (.pl (.int .i64))]⟩,[0,3],[(.ret,[2],⟨oz37,oz2⟩),(.norm,[],⟨oz37,[]⟩)]⟩,
 ⟨[1,3],⟨[(true,.box [.pl XNc])],oz31⟩,[],[(.ret,[2],⟨[(true,.box [.pl XNc])],oz2⟩)]⟩,
 ⟨[1,3,4],⟨[(true,.box [.pl XNc]),(true,.box [.pl XNc])],[.one (.ptr 0 0),.one (.pl (.int .i64)),.one (.ptr 1 0)]⟩,[],[(.ret,[2],⟨[(true,.box [.pl XNc]),(true,.box [.pl XNc])],oz2⟩)]⟩,
 ⟨[0,3,4,5,41,42,43],⟨oz47,[.one (.pl XLc),.one (.sl 0),.one (.pl (.int .i64)),.one (.ptr 1 0),.one (.sl 2),.one (.pl (.int .i64)),.one (.pl (.int .i64))]⟩,[0,3,30,31,32],[(.ret,[2],⟨oz47,oz2⟩),(.norm,[],⟨oz47,[]⟩)]⟩,
 ⟨[0,1,7,8],⟨[],[.one (.pl (.list .bool)),.one (.pl .bool),.one (.pl (.int .i64)),.one (.pl (.int .i64))]⟩,[],[(.ret,[4],⟨[],oz3⟩),(.norm,[],⟨[],[]⟩)]⟩,
 noBlk,
 noBlk,
 noBlk,
 noBlk,
 noBlk,
 noBlk,
 ⟨[3,11,12,13],⟨oz10,oz67⟩,[2,3],[(.norm,[],⟨oz10,[]⟩)]⟩,
 ⟨[3,4,19,20,21],⟨oz19,[.one (.sl 0),.one (.pl (.int .i64)),.one (.sl 1),.one (.pl (.int .i64)),.one (.pl (.int .i64))]⟩,[3,4,11,12,13],[(.norm,[],⟨oz19,[]⟩)]⟩,
 noBlk,
 noBlk,
 noBlk,
 noBlk,
 noBlk,
 noBlk,
 noBlk,
 noBlk,
 noBlk,
 noBlk,
 noBlk,
 noBlk,
 noBlk,
 noBlk,
 noBlk,
 noBlk,
 noBlk,
 noBlk,
 noBlk,
 noBlk,
 noBlk,
 noBlk,
 noBlk,
 noBlk,
 noBlk,
 noBlk,
 noBlk,
 noBlk,
 noBlk,
 noBlk,
 noBlk,
 noBlk,
 noBlk,
 noBlk,
 noBlk,
 noBlk,
 noBlk,
 noBlk,
 noBlk,
 noBlk,
 noBlk,
 noBlk,
 noBlk,
 noBlk,
 noBlk,
 noBlk,
 noBlk,
 noBlk,
 noBlk,
 noBlk,
 noBlk,
 noBlk,
 noBlk,
 noBlk,
 noBlk,
 noBlk,
 noBlk,
 noBlk,
 noBlk,
 noBlk,
 noBlk,
 noBlk,
 noBlk,
 noBlk,
 noBlk,
 noBlk,
 noBlk,
 noBlk,
 noBlk,
 noBlk,
 noBlk,
 noBlk,
 noBlk,
 noBlk,
 noBlk,
 noBlk,
 noBlk,
 noBlk,
 noBlk,
 noBlk,
 noBlk,
 noBlk,
 noBlk,
 noBlk,
 noBlk,
 noBlk,
 noBlk,
 noBlk,
 noBlk,
 noBlk,
 noBlk,
 ⟨[0,1,7,15,16,17],⟨[(false,.arr XNc),(true,.arr (.int .i64))],[.one (.sl 0),.one (.pl XLc),.one (.sl 1),.one (.sl 1),.one (.pl (.int .i64)),.one (.pl (.int .i64))]⟩,[1,2,6,7],[(.norm,[0],⟨[(true,.gone),(true,.arr (.int .i64)),(true,.arr XNc)],[.one (.sl 2)]⟩)]⟩,
 ⟨[0,1,7,8],⟨oz16,[.one (.sl 0),.one (.pl .str),.one (.pl (.int .i64)),.one (.pl (.int .i64))]⟩,[],[(.ret,[4],⟨oz16,oz3⟩),(.norm,[],⟨oz16,[]⟩)]⟩,
 noBlk,
 ⟨[3,15,16,17],⟨[(true,.box [.fn 118 [] [some 2,some 3,some 0]]),(true,.arr (.int .i64)),(true,.box [.sl 4]),(true,.box [.sl 5]),(true,.arr XNc),(false,.arr .str)],oz39⟩,[],[(.norm,[],⟨[(true,.box [.fn 118 [] [some 2,some 3,some 0]]),(true,.arr (.int .i64)),(true,.box [.sl 4]),(true,.box [.sl 6]),(true,.arr XNc),(true,.gone),(true,.arr .str)],[]⟩)]⟩,
 noBlk,
 noBlk,
 noBlk,
 noBlk,
 noBlk,
 noBlk,
 ⟨[0,1],⟨oz9,[.one (.ifp 165 0 0),.one (.pl (.int .i64))]⟩,[],[(.norm,[],⟨oz9,[]⟩)]⟩,
 noBlk,
 noBlk,
 noBlk,
 noBlk,
 noBlk,
 noBlk,
 noBlk,
 noBlk,
 noBlk,
 ⟨[0,2,7],⟨oz9,oz71⟩,[1,6],[(.norm,[7],⟨oz9,oz3⟩)]⟩,
 noBlk,
 noBlk,
 noBlk,
 noBlk,
 noBlk,
 noBlk,
 noBlk,
 noBlk,
 noBlk,
 noBlk,
 noBlk,
 noBlk,
 noBlk,
 noBlk,
 noBlk,
 noBlk,
 noBlk,
 noBlk,
 noBlk,
 ⟨[4,24,25,26],⟨[(true,.mrows .str (.int .i64))],[.one (.mp 0),.one (.pl (.list (.prod .str XLc))),.one (.pl (.int .i64)),.one (.pl (.int .i64))]⟩,[0,2,3,4],[(.norm,[],⟨[(true,.mrows .str (.int .i64))],[]⟩)]⟩,
 ⟨[4,7,8,9,50,51,52],⟨[(true,.map .str (.list (.int .i64)) false),(true,.arr (.int .i64)),(true,.rows (.int .i64)),(true,.box [.sl 4]),(false,.arr (.int .i64))],[.one (.mp 0),.one (.sl 1),.one (.sl 2),.one (.ptr 3 0),.one (.pl (.list (.prod .str XLc))),.one (.pl (.int .i64)),.one (.pl (.int .i64))]⟩,[0,2,3,7,8,9],[(.norm,[],⟨[(true,.map .str (.list (.int .i64)) false),(true,.arr (.int .i64)),(true,.rows (.int .i64)),(true,.box [.sl 5]),(true,.gone),(true,.arr (.int .i64))],[]⟩)]⟩,
 ⟨[4,7,8,10,59,60,61],⟨oz60,[.one (.mp 0),.one (.sl 1),.one (.sl 2),.one (.pl (.int .i64)),.one (.pl (.list .str)),.one (.pl (.int .i64)),.one (.pl (.int .i64))]⟩,[4,7,8,9,10,50,51,52],[(.norm,[],⟨oz60,[]⟩)]⟩,
 ⟨[7,8,10,67,68,69],⟨[(true,.arr (.int .i64)),(true,.rows (.int .i64))],[.one (.sl 0),.one (.sl 1),.one (.pl (.int .i64)),.one (.pl (.list (.int .i64))),.one (.pl (.int .i64)),.one (.pl (.int .i64))]⟩,[4,7,8,10,59,60,61],[(.norm,[],⟨[(true,.arr (.int .i64)),(true,.rows (.int .i64))],[]⟩)]⟩,
 ⟨[7,8,9,16],⟨[(true,.arr (.int .i64)),(true,.box [.sl 3]),(false,.arr (.int .i64)),(false,.arr (.int .i64))],[.one (.sl 0),.one (.pl (.list (.list (.int .i64)))),.one (.ptr 1 0),.one (.sl 2)]⟩,[0,2,3],[(.norm,[16],⟨[(true,.arr (.int .i64)),(true,.box [.sl 5]),(true,.gone),(true,.gone),(true,.arr (.int .i64)),(true,.arr (.int .i64))],[.one (.sl 4)]⟩)]⟩,
 ⟨[7,9,119,120,121],⟨[(true,.arr (.int .i64)),(true,.box [.sl 2]),(false,.arr (.int .i64))],[.one (.sl 0),.one (.ptr 1 0),.one (.pl (.list (.int .i64))),.one (.pl (.int .i64)),.one (.pl (.int .i64))]⟩,[7,8,9,16],[(.norm,[],⟨[(true,.arr (.int .i64)),(true,.box [.sl 3]),(true,.gone),(true,.arr (.int .i64))],[]⟩)]⟩,
 noBlk,
 noBlk,
 noBlk,
 noBlk,
 noBlk,
 noBlk,
 noBlk,
 noBlk,
 noBlk,
 noBlk,
 noBlk,
 noBlk,
 noBlk,
 noBlk,
 noBlk,
 noBlk,
 noBlk,
 noBlk,
 noBlk,
 noBlk,
 noBlk,
 noBlk,
 noBlk,
 noBlk,
 noBlk,
 noBlk,
 noBlk,
 noBlk,
 noBlk,
 noBlk,
 noBlk,
 noBlk,
 noBlk,
 noBlk,
 noBlk,
 noBlk,
 noBlk,
 ⟨[2,3,4,30,31,32],⟨oz12,oz49⟩,[0,2,3,4],[(.ret,[],⟨oz12,[]⟩),(.norm,[],⟨oz12,[]⟩)]⟩,
 ⟨[2,3,4,9,10,56,57,58],⟨[(true,.box [.nilp]),(true,.box oz36),(true,.box [.ptr 5 0]),(false,.arr (.prod .str XLc)),(false,.arr (.int .i64)),(true,.box [.sl 6,.mp 7,.sl 8,.pl .bool,.pl (.int .i64)]),(false,.arr (.any true)),(true,.map .str (.int .i64) false),(true,.arr (.int .i64))],[.one (.ptr 0 0),.one (.ptr 1 0),.one (.ptr 2 0),.one (.sl 3),.one (.sl 4),.one (.pl (.list XSc)),.one (.pl (.int .i64)),.one (.pl (.int .i64))]⟩,[2,3,4],[(.ret,[],⟨[(true,.box [.nilp]),(true,.box oz36),(true,.box [.ptr 5 0]),(true,.gone),(true,.gone),(true,.box [.sl 9,.mp 7,.sl 8,.pl .bool,.pl (.int .i64)]),(true,.gone),(true,.map .str (.int .i64) false),(true,.arr (.int .i64)),(true,.arr (.any true))],[]⟩),(.norm,[9,10],⟨[(true,.box [.nilp]),(true,.box oz36),(true,.box [.ptr 5 0]),(true,.gone),(true,.gone),(true,.box [.sl 11,.mp 7,.sl 8,.pl .bool,.pl (.int .i64)]),(true,.gone),(true,.map .str (.int .i64) false),(true,.arr (.int .i64)),(true,.arr (.prod .str XLc)),(true,.arr (.int .i64)),(true,.arr (.any true))],[.one (.sl 9),.one (.sl 10)]⟩)]⟩,
 ⟨[2,3,4,9,10,11,12,13],⟨oz1,oz45⟩,[2,3,4,56,57,58],[(.out 3,[9,10],⟨oz8,[.one (.sl 3),.one (.sl 4)]⟩),(.ret,[],⟨oz8,[]⟩),(.norm,[9,10],⟨[(true,.box [.nilp]),(true,.box oz36),(true,.box [.ptr 7 0]),(true,.gone),(true,.gone),(true,.box [.pl XSc]),(true,.box [.ptr 8 0]),(true,.box [.sl 17,.mp 10,.sl 11,.pl .bool,.pl (.int .i64)]),(true,.box oz21),(true,.gone),(true,.map .str (.int .i64) false),(true,.arr (.int .i64)),(true,.arr .bool),(true,.arr (.int .i64)),(true,.arr (.any false)),(true,.arr (.prod .str XLc)),(true,.arr (.int .i64)),(true,.arr (.any true))],[.one (.sl 15),.one (.sl 16)]⟩)]⟩,
 ⟨[2,3,4,9,10,11,12,13],⟨oz1,oz45⟩,[],[(.out 3,[9,10],⟨oz1,[.one (.sl 3),.one (.sl 4)]⟩),(.ret,[],⟨oz1,[]⟩),(.norm,[9,10],⟨[(true,.box [.nilp]),(true,.box oz36),(true,.box [.ptr 7 0]),(true,.gone),(true,.gone),(true,.box [.pl XSc]),(true,.box [.ptr 8 0]),(true,.box [.sl 9,.mp 10,.sl 11,.pl .bool,.pl (.int .i64)]),(true,.box oz21),(true,.arr (.any true)),(true,.map .str (.int .i64) false),(true,.arr (.int .i64)),(true,.arr .bool),(true,.arr (.int .i64)),(true,.arr (.any false)),(true,.arr (.prod .str XLc)),(true,.arr (.int .i64))],[.one (.sl 15),.one (.sl 16)]⟩)]⟩,
 ⟨[2,3,4,13,99,100,101],⟨oz4,[.one (.ptr 0 0),.one (.ptr 1 0),.one (.ptr 2 0),.one (.ptr 3 0),.one (.fn 98 [] [some 4]),.one (.pl (.int .i64)),.agg [.pl XNc]]⟩,[9,10,11,12],[(.ret,[],⟨oz4,[]⟩),(.norm,[],⟨oz4,[]⟩)]⟩,
 ⟨[2,3,4,13,14,15],⟨oz5,[.one (.ptr 0 0),.one (.ptr 1 0),.one (.ptr 2 0),.one (.ptr 3 0),.one (.pl (.int .i64)),.one (.ptr 4 0)]⟩,[2,3,4,13,99,100,101],[(.ret,[],⟨oz5,[]⟩),(.norm,[],⟨oz5,[]⟩)]⟩,
 ⟨[13,14,15],⟨oz24,[.one (.ptr 0 0),.one (.pl (.int .i64)),.one (.ptr 1 0)]⟩,[],[(.norm,[],⟨oz24,[]⟩)]⟩,
 ⟨[13,14,15,133,134,135],⟨oz22,[.one (.ptr 0 0),.one (.pl (.int .i64)),.one (.ptr 1 0),.one (.sl 2),.one (.pl (.int .i64)),.one (.pl (.int .i64))]⟩,[],[(.norm,[],⟨oz22,[]⟩)]⟩,
 ⟨[4,10,181,182,183],⟨[(true,.box [.ptr 3 0]),(true,.arr (.int .i64)),(true,.arr (.int .i64)),(true,.box [.sl 4,.mp 5,.sl 6,.pl .bool,.pl (.int .i64)]),(true,.arr (.any true)),(true,.map .str (.int .i64) false),(false,.arr (.int .i64))],[.one (.ptr 0 0),.one (.sl 1),.one (.sl 2),.one (.pl (.int .i64)),.one (.pl (.int .i64))]⟩,[2,3,4,21],[(.norm,[],⟨[(true,.box [.ptr 3 0]),(true,.arr (.int .i64)),(true,.arr (.int .i64)),(true,.box [.sl 4,.mp 5,.sl 7,.pl .bool,.pl (.int .i64)]),(true,.arr (.any true)),(true,.map .str (.int .i64) false),(true,.gone),(true,.arr (.int .i64))],[]⟩)]⟩,
 ⟨[0,1,7,8],⟨[],[.one (.pl (.list XSc)),.one (.fn 22 [] []),.one (.pl (.int .i64)),.one (.pl (.int .i64))]⟩,[],[(.ret,[4],⟨[],oz3⟩),(.norm,[],⟨[],[]⟩)]⟩,
 ⟨[0,1,7,8],⟨[],[.one (.pl XLc),.one (.fn 49 [] []),.one (.pl (.int .i64)),.one (.pl (.int .i64))]⟩,[],[(.ret,[4],⟨[],oz3⟩),(.norm,[],⟨[],[]⟩)]⟩,
 noBlk,
 noBlk,
 noBlk,
 noBlk,
 noBlk,
 noBlk,
 noBlk,
 noBlk,
 noBlk,
 noBlk,
 noBlk,
 noBlk,
 noBlk,
 noBlk,
 noBlk,
 noBlk,
 noBlk,
 noBlk,
 noBlk,
 noBlk,
 noBlk,
 noBlk,
 noBlk,
 noBlk,
 noBlk,
 noBlk,
 noBlk,
 noBlk,
 noBlk,
 noBlk,
 noBlk,
 noBlk,
 noBlk,
 noBlk,
 noBlk,
 noBlk,
 noBlk,
 noBlk,
 noBlk,
 noBlk,
 noBlk,
 noBlk,
 noBlk,
 noBlk,
 noBlk,
 noBlk,
 noBlk,
 noBlk,
 noBlk,
 noBlk,
 noBlk,
 noBlk,
 noBlk,
 noBlk,
 noBlk,
 noBlk,
 noBlk,
 noBlk,
 noBlk,
 noBlk,
 noBlk,
 noBlk,
 noBlk,
 noBlk,
 noBlk,
 noBlk,
 noBlk,
 noBlk,
 noBlk,
 noBlk,
 noBlk,
 noBlk,
 noBlk,
 noBlk,
 noBlk,
 noBlk,
 noBlk,
 noBlk,
 noBlk,
 noBlk,
 noBlk,
 noBlk,
 noBlk,
 noBlk,
 noBlk,
 noBlk,
 noBlk,
 noBlk,
 noBlk,
 noBlk,
 noBlk,
 noBlk,
 noBlk,
 noBlk,
 noBlk,
 noBlk,
 noBlk,
 noBlk,
 noBlk,
 noBlk,
 noBlk,
 noBlk,
 noBlk,
 noBlk,
 noBlk,
 noBlk,
 noBlk,
 ⟨[6,7,9,49,50,51],⟨[(true,.box [.sl 3,.sl 4,.sl 5]),(true,.box [.mp 6]),(true,.box [.sl 7]),(false,.arr XOc),(true,.arr (.int .i64)),(false,.arr (.int .i64)),(true,.map .str (.int .i64) false),(true,.rows (.int .i64))],oz49⟩,[0,2,3,6,7,8,9],[(.norm,[],⟨[(true,.box [.sl 8,.sl 4,.sl 9]),(true,.box [.mp 6]),(true,.box [.sl 7]),(true,.gone),(true,.arr (.int .i64)),(true,.gone),(true,.map .str (.int .i64) false),(true,.rows (.int .i64)),(true,.arr XOc),(true,.arr (.int .i64))],[]⟩)]⟩,
 ⟨[8,9,12,91,92,93],⟨oz20,[.one (.ptr 0 0),.one (.ptr 1 0),.one (.pl (.int .i64)),.one (.pl (.list XSc)),.one (.pl (.int .i64)),.one (.pl (.int .i64))]⟩,[2,3,6,7,8,9],[(.norm,[],⟨oz20,[]⟩)]⟩,
 ⟨[8,9,12,13],⟨oz20,[.one (.ptr 0 0),.one (.ptr 1 0),.one (.pl (.int .i64)),.one (.pl (.int .i64))]⟩,[8,9,91,92,93],[(.norm,[12],⟨oz20,oz3⟩)]⟩,
 ⟨[9,12,13,111,112,113],⟨[(true,.box [.sl 1]),(true,.rows (.int .i64))],[.one (.ptr 0 0),.one (.pl (.int .i64)),.one (.pl (.int .i64)),.one (.pl XLc),.one (.pl (.int .i64)),.one (.pl (.int .i64))]⟩,[],[(.norm,[12],⟨[(true,.box [.sl 1]),(true,.rows (.int .i64))],oz3⟩)]⟩,
 ⟨[12,16],⟨[(true,.box [.pl XNc])],oz66⟩,[9,13,111,112,113],[(.norm,[12],⟨[(true,.box [.pl XNc])],oz3⟩)]⟩,
 ⟨[6,9,17,135,136,137],⟨[(true,.box [.sl 4,.sl 5,.sl 6]),(true,.box oz26),(true,.box [.fn 25 [] [some 7,some 8,some 2,some 1]]),(true,.arr XLc),(false,.arr XOc),(false,.arr (.int .i64)),(true,.arr (.int .i64)),(true,.box [.sl 3]),(true,.box [.mp 9]),(true,.map .str (.int .i64) false)],[.one (.ptr 0 0),.one (.ptr 1 0),.one (.ptr 2 0),.one (.sl 3),.one (.pl (.int .i64)),.one (.pl (.int .i64))]⟩,[2,3,6],[(.norm,[],⟨[(true,.box [.sl 10,.sl 11,.sl 6]),(true,.box oz26),(true,.box [.fn 25 [] [some 7,some 8,some 2,some 1]]),(true,.arr XLc),(true,.gone),(true,.gone),(true,.arr (.int .i64)),(true,.box [.sl 3]),(true,.box [.mp 9]),(true,.map .str (.int .i64) false),(true,.arr XOc),(true,.arr (.int .i64))],[]⟩)]⟩,
 ⟨[6,17,18,19],⟨[(true,.box [.sl 2,.sl 3,.sl 4]),(true,.box [.fn 25 [] [some 5,some 6,some 1,some 7]]),(true,.arr XOc),(true,.arr (.int .i64)),(true,.arr (.int .i64)),(true,.box [.sl 8]),(true,.box [.mp 9]),(true,.box oz26),(true,.arr XLc),(true,.map .str (.int .i64) false)],[.one (.ptr 0 0),.one (.ptr 1 0),.one (.pl (.int .i64)),.one (.pl XLc)]⟩,[6,9,17,135,136,137],[(.norm,[],oz13)]⟩,
 ⟨[6,17,18,156,157,158],⟨[(true,.box [.sl 2,.sl 3,.sl 4]),(true,.box [.fn 25 [] [some 5,some 6,some 1,some 7]]),(false,.arr XOc),(true,.arr (.int .i64)),(true,.arr (.int .i64)),(true,.box [.sl 8]),(true,.box [.mp 9]),(true,.box oz26),(true,.arr XLc),(true,.map .str (.int .i64) false)],[.one (.ptr 0 0),.one (.ptr 1 0),.one (.pl (.int .i64)),.one (.pl XLc),.one (.pl (.int .i64)),.one (.pl (.int .i64))]⟩,[],[(.norm,[],oz13)]⟩,
 ⟨[17,18,23,175,176,177],⟨oz18,[.one (.ptr 0 0),.one (.pl (.int .i64)),.one (.sl 1),.one (.sl 2),.one (.pl (.int .i64)),.one (.pl (.int .i64))]⟩,[6,17,18,22,156,157,158],[(.norm,[],⟨oz18,[]⟩)]⟩,
 noBlk,
 ⟨[1,3,4],⟨[(true,.box oz53),(true,.box [.sl 3,.pl (.list (.int .i64)),.pl (.list (.int .i64))]),(true,.arr XOc),(false,.arr XOc)],oz52⟩,[2,3],[(.norm,[],⟨[(true,.box oz53),(true,.box [.sl 4,.pl (.list (.int .i64)),.pl (.list (.int .i64))]),(true,.arr XOc),(true,.gone),(true,.arr XOc)],[]⟩)]⟩,
 ⟨[0,1,7,8],⟨oz7,[.one (.pl (.list XOc)),.one (.fn 34 [] [some 0]),.one (.pl (.int .i64)),.one (.pl (.int .i64))]⟩,[],[(.ret,[4],⟨oz7,oz3⟩),(.norm,[],⟨oz7,[]⟩)]⟩,
 ⟨[5,16,17,18],⟨oz7,[.one (.fn 59 [] [some 0]),.one (.pl (.list (.int .i64))),.one (.pl (.int .i64)),.one (.pl (.int .i64))]⟩,[2,3,7],[(.ret,[4],⟨oz7,oz2⟩),(.norm,[],⟨oz7,[]⟩)]⟩,
 ⟨[0,1,7,8],⟨[],[.one (.pl (.list (.int .i64))),.one (.fn 62 [] []),.one (.pl (.int .i64)),.one (.pl (.int .i64))]⟩,[],[(.ret,[4],⟨[],oz3⟩),(.norm,[],⟨[],[]⟩)]⟩,
 ⟨[0,1,7,8],⟨oz7,[.one (.pl (.list (.int .i64))),.one (.fn 36 [] [some 0]),.one (.pl (.int .i64)),.one (.pl (.int .i64))]⟩,[],[(.ret,[4],⟨oz7,oz3⟩),(.norm,[],⟨oz7,[]⟩)]⟩,
 noBlk,
 noBlk,
 noBlk,
 noBlk,
 noBlk,
 ⟨[1,3,17,18],⟨oz61,oz39⟩,[],[(.ret,[2],⟨oz61,oz2⟩),(.norm,[],⟨oz61,[]⟩)]⟩,
 ⟨[1,3,5],⟨[(true,.box [.pl XTc]),(true,.arr (.int .i64)),(false,.arr (.int .i64))],[.one (.ptr 0 0),.one (.sl 1),.one (.sl 2)]⟩,[1,3,17,18],[(.ret,[2],⟨[(true,.box [.pl XTc]),(true,.arr (.int .i64)),(true,.gone)],oz2⟩),(.norm,[],⟨[(true,.box [.pl XTc]),(true,.arr (.int .i64)),(true,.gone)],[]⟩)]⟩,
 ⟨[3,5,64,65,66],⟨[(true,.arr (.int .i64)),(false,.arr (.int .i64))],[.one (.sl 0),.one (.sl 1),.one (.pl (.list (.int .i64))),.one (.pl (.int .i64)),.one (.pl (.int .i64))]⟩,[1,3],[(.ret,[2],⟨[(true,.arr (.int .i64)),(true,.gone)],oz2⟩),(.norm,[5],⟨[(true,.arr (.int .i64)),(true,.gone),(true,.arr (.int .i64))],[.one (.sl 2)]⟩)]⟩,
 noBlk,
 ⟨[1,3,4],oz32,[2,3],[(.norm,[],oz43)]⟩,
 ⟨[0,1,5],⟨[],[.one (.pl (.list (.int .i64))),.one (.pl (.list (.int .i64))),.one (.pl (.int .i64))]⟩,[],[(.ret,[4],⟨[],oz2⟩),(.norm,[],⟨[],[]⟩)]⟩,
 ⟨[2,3,5],⟨oz64,oz52⟩,[],[(.ret,[4],⟨oz64,oz2⟩),(.norm,[],⟨oz64,[]⟩)]⟩,
 noBlk,
 ⟨[0,1,5],⟨[],[.one (.pl (.list XSc)),.one (.pl .str),.one (.pl (.int .i64))]⟩,[],[(.ret,[4],⟨[],oz3⟩),(.norm,[],⟨[],[]⟩)]⟩,
 ⟨[0,3,4],⟨oz10,oz38⟩,[0,3],[(.ret,[2],⟨oz10,oz2⟩),(.norm,[],⟨oz10,[]⟩)]⟩,
 ⟨[3,4,5,6],⟨oz19,oz69⟩,[0,3,4],[(.ret,[2],⟨oz19,oz2⟩),(.norm,[],⟨oz19,[]⟩)]⟩,
 ⟨[0,5,6,7],⟨oz62,[.one (.pl XLc),.one (.ptr 0 0),.one (.sl 1),.one (.pl (.int .i64))]⟩,[],[(.ret,[4],⟨oz62,oz2⟩),(.norm,[],⟨oz62,[]⟩)]⟩,
 ⟨[0,3,7],⟨oz10,oz38⟩,[0],[(.ret,[2],⟨oz10,oz2⟩),(.norm,[],⟨oz10,[]⟩)]⟩,
 ⟨[0,1,5],⟨[],[.one (.pl (.list XSc)),.one (.pl XLc),.one (.pl (.int .i64))]⟩,[],[(.ret,[4],⟨[],oz2⟩),(.norm,[],⟨[],[]⟩)]⟩,
 noBlk,
 ⟨[0,3,4],⟨[(false,.arr (.prod .str XLc))],[.one (.pl (.list XSc)),.one (.sl 0),.one (.pl (.int .i64))]⟩,[],[(.ret,[2],⟨[(true,.gone)],oz3⟩),(.norm,[3],⟨[(true,.gone),(true,.arr (.prod .str XLc))],[.one (.sl 1)]⟩)]⟩,
 noBlk,
 noBlk,
 ⟨[0,2,7,8,9],⟨[(false,.arr XNc),(true,.arr (.int .i64)),(false,.arr (.int .i64))],[.one (.pl XLc),.one (.sl 0),.one (.sl 1),.one (.sl 2),.one (.pl (.int .i64))]⟩,[0,1,6],[(.norm,[2,8],⟨[(true,.gone),(true,.arr (.int .i64)),(true,.gone),(true,.arr XNc),(true,.arr (.int .i64))],[.one (.sl 3),.one (.sl 4)]⟩)]⟩,
 noBlk,
 noBlk,
 noBlk,
 noBlk,
 ⟨[0,3,4],⟨oz37,oz38⟩,[2,3],[(.norm,[],⟨oz37,[]⟩)]⟩,
 ⟨[0,3,4,5,6],⟨oz50,[.one (.pl XLc),.one (.sl 0),.one (.pl (.int .i64)),.one (.sl 1),.one (.pl (.int .i64))]⟩,[0,3,4],[(.norm,[],⟨oz50,[]⟩)]⟩,
 noBlk,
 ⟨[0,1,5],⟨oz16,[.one (.sl 0),.one (.pl .str),.one (.pl (.int .i64))]⟩,[],[(.ret,[4],⟨oz16,oz2⟩),(.norm,[],⟨oz16,[]⟩)]⟩,
 ⟨[0,3,4,5],⟨[(true,.arr .bool),(false,.arr .str)],[.one (.pl XLc),.one (.sl 0),.one (.sl 1),.one (.pl (.int .i64))]⟩,[2],[(.norm,[4],⟨[(true,.arr .bool),(true,.gone),(true,.arr .str)],[.one (.sl 2)]⟩)]⟩,
 noBlk,
 noBlk,
 noBlk,
 ⟨[0,1,2,7],⟨oz37,[.one (.pl (.list (.prod .str XLc))),.one (.sl 0),.one (.pl (.list .str)),.one (.pl (.int .i64))]⟩,[],[(.ret,[6],⟨oz37,oz2⟩),(.norm,[],⟨oz37,[]⟩)]⟩,
 ⟨[0,1,5],⟨[],[.one (.pl (.list .str)),.one (.pl .str),.one (.pl (.int .i64))]⟩,[],[(.ret,[4],⟨[],oz2⟩),(.norm,[],⟨[],[]⟩)]⟩,
 ⟨[0,4,5],⟨[(false,.arr (.list .str))],[.one (.pl (.list (.prod .str XLc))),.one (.sl 0),.one (.pl (.int .i64))]⟩,[0,2,3],[(.norm,[4],⟨[(true,.gone),(true,.arr (.list .str))],[.one (.sl 1)]⟩)]⟩,
 ⟨[0,4,6,7],⟨[(true,.arr (.list .str)),(true,.arr .bool),(false,.arr (.int .i64))],[.one (.pl (.list (.prod .str XLc))),.one (.sl 0),.one (.sl 1),.one (.sl 2)]⟩,[],[(.ret,[2,3],⟨oz65,[.one (.sl 3),.one (.pl (.int .i64))]⟩),(.norm,[7],⟨oz65,[.one (.sl 3)]⟩)]⟩,
 ⟨[0,4,6,8,9],⟨[(true,.arr (.list .str)),(true,.arr .bool)],[.one (.pl (.list (.prod .str XLc))),.one (.sl 0),.one (.sl 1),.one (.pl (.int .i64)),.one (.pl (.int .i64))]⟩,[0,2,3,4,6,7],[(.norm,[8],⟨[(true,.arr (.list .str)),(true,.arr .bool)],oz3⟩)]⟩,
 noBlk,
 ⟨[0,3],⟨[],oz41⟩,[],[(.ret,[2],⟨[],oz2⟩),(.norm,[],⟨[],[]⟩)]⟩,
 noBlk,
 noBlk,
 noBlk,
 noBlk,
 noBlk,
 noBlk,
 noBlk,
 noBlk,
 noBlk,
 noBlk,
 noBlk,
 noBlk,
 ⟨[0,1,5,6,7],⟨[(false,.arr (.list (.int .i64)))],[.one (.pl (.list XSc)),.one (.pl (.int .i64)),.one (.sl 0),.one (.pl (.int .i64)),.one (.pl (.int .i64))]⟩,[4],[(.norm,[5],⟨[(true,.gone),(true,.arr (.list (.int .i64)))],[.one (.sl 1)]⟩)]⟩,
 ⟨[1,8,9,10],⟨[(true,.arr XNc),(false,.arr (.int .i64))],[.one (.pl (.int .i64)),.one (.sl 0),.one (.sl 1),.one (.pl (.int .i64))]⟩,[0,5,6,7],[(.norm,[1,9],⟨[(true,.arr XNc),(true,.gone),(true,.arr (.int .i64))],[.one (.pl (.int .i64)),.one (.sl 2)]⟩)]⟩,
 noBlk,
 noBlk,
 noBlk,
 noBlk,
 noBlk,
 noBlk,
 noBlk,
 noBlk,
 noBlk,
 noBlk,
 noBlk,
 noBlk,
 noBlk,
 noBlk,
 noBlk,
 noBlk,
 noBlk,
 ⟨[0,1,2,3,11,12,13],⟨[(true,.box [.pl XOc]),(true,.arr (.int .i64))],[.one (.pl (.list XSc)),.one (.pl (.list (.list (.int .i64)))),.one (.pl XLc),.one (.pl (.int .i64)),.one (.ptr 0 0),.one (.sl 1),.one (.pl (.int .i64))]⟩,[10,11],[(.norm,[],⟨[(true,.box [.pl XOc]),(true,.arr (.int .i64))],[]⟩)]⟩,
 noBlk,
 noBlk,
 noBlk,
 noBlk,
 noBlk,
 noBlk,
 noBlk,
 noBlk,
 noBlk,
 noBlk,
 noBlk,
 noBlk,
 noBlk,
 noBlk,
 noBlk,
 noBlk,
 noBlk,
 noBlk,
 noBlk,
 noBlk,
 noBlk,
 noBlk,
 noBlk,
 noBlk,
 noBlk,
 ⟨[0,2,5],⟨oz27,oz73⟩,[0,2,4],[(.ret,[3],⟨[(true,.box [.sl 4,.sl 5,.sl 6]),(true,.arr XOc),(true,.arr (.int .i64)),(true,.arr (.int .i64)),(true,.arr XOc),(true,.arr (.int .i64)),(true,.arr (.int .i64))],oz3⟩),(.norm,[],⟨oz27,[]⟩)]⟩,
 ⟨[0,6,7],⟨[(true,.box [.sl 1,.sl 2,.sl 3]),(false,.arr XOc),(true,.arr (.int .i64)),(false,.arr (.int .i64))],oz73⟩,[0,2,3,6],[(.norm,[],⟨[(true,.box [.sl 4,.sl 2,.sl 5]),(true,.gone),(true,.arr (.int .i64)),(true,.gone),(true,.arr XOc),(true,.arr (.int .i64))],[]⟩)]⟩,
 ⟨[0,6,8,9],⟨[(true,.box [.sl 1,.sl 2,.sl 3]),(false,.arr XOc),(false,.arr (.int .i64)),(true,.arr (.int .i64))],oz55⟩,[2,3,6],[(.norm,[],⟨[(true,.box [.sl 4,.sl 5,.sl 3]),(true,.gone),(true,.gone),(true,.arr (.int .i64)),(true,.arr XOc),(true,.arr (.int .i64))],[]⟩)]⟩,
 ⟨[0,6,8,9],⟨oz27,oz55⟩,[0,6,8,9],[(.norm,[],oz46)]⟩,
 ⟨[0,6,8,9,10,11],⟨[(true,.box [.sl 1,.sl 2,.sl 3]),(false,.arr XOc),(true,.arr (.int .i64)),(true,.arr (.int .i64))],[.one (.pl (.list XSc)),.one (.ptr 0 0),.one (.pl (.list (.list (.int .i64)))),.one (.pl (.int .i64)),.one (.pl XLc),.one (.pl (.int .i64))]⟩,[],[(.norm,[],oz46)]⟩,
 noBlk,
 ⟨[1,3,4],oz32,[2,3],[(.norm,[],oz43)]⟩,
 ⟨[1,3],⟨oz7,oz31⟩,[1],[(.ret,[2],⟨oz7,oz2⟩),(.norm,[],⟨oz7,[]⟩)]⟩,
 ⟨[1,6],⟨oz7,oz31⟩,[],[(.ret,[2],⟨oz7,oz2⟩),(.norm,[],⟨oz7,[]⟩)]⟩,
 noBlk,
 noBlk,
 noBlk,
 ⟨[1,3,4],⟨[(true,.box [.pl XTc]),(true,.arr .bool),(false,.arr (.int .i64))],[.one (.ptr 0 0),.one (.sl 1),.one (.sl 2)]⟩,[],[(.ret,[2],⟨[(true,.box [.pl XTc]),(true,.arr .bool),(true,.gone),(true,.arr (.int .i64))],[.one (.sl 3)]⟩)]⟩,
 ⟨[1,3,5,6],⟨[(true,.box [.pl XTc]),(true,.arr .bool)],oz39⟩,[1,2,3,4],[(.norm,[5],⟨[(true,.box [.pl XTc]),(true,.arr .bool)],oz3⟩)]⟩,
 ⟨[3,7,8,9],⟨oz50,[.one (.sl 0),.one (.pl .bool),.one (.sl 1),.one (.pl (.int .i64))]⟩,[1,3,5,6],[(.norm,[7],⟨oz50,oz2⟩)]⟩,
 ⟨[0,5,6],⟨[],[.one (.pl (.list XSc)),.one (.pl (.int .i64)),.one (.pl (.int .i64))]⟩,[0,2,3],[(.norm,[5],⟨[],oz3⟩)]⟩,
 ⟨[0,5,6,7],⟨[],[.one (.pl (.list XSc)),.one (.pl (.int .i64)),.one (.pl (.int .i64)),.one (.pl (.int .i64))]⟩,[0,6],[(.norm,[5],⟨[],oz3⟩)]⟩,
 ⟨[3,5],⟨oz7,oz31⟩,[],[(.ret,[2],⟨oz7,oz2⟩),(.norm,[],⟨oz7,[]⟩)]⟩]
 lkL:=[(1,[(0,0),(2,1)]),(4,[(0,10),(2,11)]),(5,[(0,4),(2,6)]),(7,[(0,5)]),(10,[(0,7)]),(12,[(0,8)]),(13,[(0,9)]),(18,[(0,28)]),(19,[(0,26)]),(20,[(0,24)]),(22,[(0,22)]),(23,[(0,20)]),(28,[(0,16)]),(31,[(0,15)]),(37,[(0,18)]),(43,[(0,36),(2,37)]),(44,[(0,362),(2,363),(4,365),(6,367),(8,369),(10,370)]),(46,[(0,244),(2,245),(4,248),(5,249),(6,251),(8,252)]),(47,[(0,57),(2,60)]),(52,[(0,61)]),(54,[(0,68),(2,69)]),(57,[(0,201),(2,202),(4,203),(6,204),(8,205),(10,206)]),(60,[(0,161)]),(61,[(1,164)]),(63,[(0,162)]),(67,[(0,171)]),(71,[(0,181)]),(74,[(0,253)]),(78,[(0,254)]),(81,[(0,372)]),(84,[(0,373)]),(86,[(0,374)]),(92,[(0,375)]),(96,[(0,376)]),(98,[(0,382),(2,383),(4,384)]),(99,[(0,386)]),(100,[(0,388)]),(101,[(0,387)]),(102,[(0,477),(2,478),(4,479),(6,481)]),(103,[(0,397)]),(104,[(0,390)]),(105,[(0,395)]),(106,[(0,391),(2,392),(4,394)]),(109,[(0,393)]),(110,[(0,415),(2,416),(4,417)]),(111,[(0,409)]),(114,[(0,400)]),(115,[(0,405),(2,406)]),(116,[(0,408)]),(117,[(0,413)]),(118,[(0,414)]),(119,[(0,419)]),(121,[(0,432),(2,433)]),(124,[(0,451)]),(127,[(0,483)]),(129,[(0,484),(2,485)]),(135,[(0,489),(2,490),(4,491)]),(137,[(0,492),(2,493)]),(138,[(0,494)])]
 tkL:=[(15,[(3,39)]),(44,[(24,364),(28,366),(38,368)]),(46,[(18,246),(19,247),(29,250)]),(48,[(9,58),(10,59)]),(102,[(23,480)])]
 dkL:=[(0,[(5,([],(sq [0,4,3,7,8,10,12,14,16,18,21,22,24] .done)))]),
 (2,[(9,([32],(sq [0,2,4,6,10,9,13,14,16,18,20,22,24,26,28,30,32,35,36,39,40,42,44] .done)))]),
 (3,[(3,([3],(sq [0,2,5] .done))),(6,([3],(sq [0,2,5] .done))),(8,([3],(sq [0,2,4,6,8,10,12,15] .done)))]),
 (13,[(5,([],(sq [0,2,4,6,8,10,12,14,16,18,20,22,24,26,28,30,32,34,36,38,40,42] .done)))]),
 (15,[(6,([6],(sq [0,2,4,6,8,10,13] .done))),(11,([6],(sq [0,2,4,6,8,10,12,14,17] .done)))]),
 (24,[(5,([],(sq [0,2,4,6,8,10,12,14,16,18] .done))),(8,([],(sq [0,2,4,6,8,10,12,14,16,18,21,23] .done)))]),
 (25,[(2,([0],(sq [0,2,4,6,8,12,14,16] (.alt 5 (sq [19,21,22,24] dk38) (sq [19,11,21,22,24] dk38)))))]),
 (36,[(1,([],(sq [0,2,4,6,8,10,12,14,16,18,20,22,24,26,28,30,32,34] .done))),(3,([],(sq [0,2,4,6,8,10,12,14,16,18,21,23] .done)))]),
 (40,[(2,([],(sq [0,2,4,6,8,10,12,14,16,18,20,22,24,26,28,30,32,34,36,38,40,42,44,46,48,50,52,54,56,58,60,62,64,66,68,70,73,74,76] .done))),(4,([],(sq [0,2,4,6,8,10,12,14,16,18,20,23,24] .done)))]),
 (43,[(11,([3],(sq [0,2,4,6,8,12,14,16,18,20,22] (.alt 5 (sq [25,26,28,30,33] .done) (sq [25,26,11,28,30,33] .done)))))]),
 (44,[(23,([8,9],(sq [2,4,6,8,10,12,14] (.alt 0 (.only 8 dk35) (.only 8 (.only 0 dk35)))))),(27,([9],(sq [2,6,12] (.alt 0 (.alt 2 (.take 4 (.alt 5 (.only 7 (.only 8 dk35)) (sq [15,11,17] dk35))) (sq [15,5,8,11,17] dk35)) (.alt 2 (.take 4 (.alt 0 (.alt 5 (.only 7 (.only 8 dk35)) (sq [15,11,17] dk35)) (.alt 5 (.alt 0 (.only 7 (.only 8 dk35)) (.only 7 (.alt 0 (.only 8 dk35) (.only 8 (.only 0 dk35))))) (.only 7 (.alt 0 (.only 5 (.only 8 dk35)) (.only 5 (.alt 0 (.only 8 dk35) (.only 8 (.only 0 dk35))))))))) (.only 7 (.alt 0 (sq [5,8,11,17] dk35) (.only 2 (.take 4 (.alt 0 (.only 5 (.only 8 dk35)) (.only 5 (.alt 0 (.only 8 dk35) (.only 8 (.only 0 dk35)))))))))))))),(37,([6,17],(sq [0,6,10] (.alt 1 (.alt 2 (sq [9,12,14,16,18,21,23,25] dk38) (sq [9,12,14,16,18,5,21,23,25] dk38)) (.alt 2 (.alt 1 (sq [9,12,14,16,18,21,23,25] dk38) (sq [9,12,14,16,18] (.alt 1 (sq [21,23,25] dk38) (.only 10 (.alt 1 (.only 11 (.only 12 dk38)) (sq [23,3,25] dk38)))))) (sq [9,12,14,16,18] (.alt 1 (sq [5,21,23,25] dk38) (.only 2 (.alt 1 (sq [21,23,25] dk38) (.only 10 (.alt 1 (.only 11 (.only 12 dk38)) (sq [23,3,25] dk38)))))))))))),(47,([17,23],(sq [0,2,4,10,12] (.alt 3 (sq [9,15,16,19] .done) (.only 4 (.alt 3 (sq [15,16,19] .done) (sq [15,7,16,19] .done)))))))]),
 (46,[(7,([],(sq [0,2,4,6,8,10,12,14,16,18,20,22] .done))),(10,([41],(sq [0,2,4,6,8,10,12,15] .done))),(17,([],(sq [0,2,4,6,10,12,14,18,20,22,24] (.alt 4 (.alt 8 (.alt 13 dk52 (sq [33,27,28] dk51)) (.alt 13 (.alt 8 dk52 (sq [33,17,28] dk51)) (.only 16 (.alt 8 (.only 13 (.take 14 dk51)) (sq [27,17,28] dk51))))) (.alt 8 (.alt 4 (.alt 13 dk52 (sq [33,27,28] dk51)) (.alt 13 (.alt 4 dk52 (sq [33,9,28] dk51)) (.only 16 (.alt 4 (.only 13 (.take 14 dk51)) (sq [27,9,28] dk51))))) (.alt 13 (.alt 4 (.alt 8 dk52 (sq [33,17,28] dk51)) (.alt 8 (.alt 4 dk52 (sq [33,9,28] dk51)) (.only 16 (.alt 4 (.only 8 (.take 14 dk51)) (sq [17,9,28] dk51))))) (.only 16 (.alt 4 (.alt 8 (.only 13 (.take 14 dk51)) (sq [27,17,28] dk51)) (.alt 8 (.alt 4 (.only 13 (.take 14 dk51)) (sq [27,9,28] dk51)) (.only 13 (.alt 4 (.only 8 (.take 14 dk51)) (sq [17,9,28] dk51)))))))))))),(18,([4],(.take 5 (.alt 0 (.alt 1 (.take 2 (.take 3 (.alt 4 (.only 6 dk53) (.only 6 (.only 4 dk53))))) (sq [13,3,4,6,9] dk53)) (.alt 1 (.take 2 (.take 3 (.alt 0 (.alt 4 (.only 6 dk53) (.only 6 (.only 4 dk53))) (.alt 4 (.alt 0 (.only 6 dk53) (.only 6 (.alt 0 dk53 (sq [15,1,16] dk35)))) (.only 6 (.alt 0 (.only 4 dk53) (.only 4 (.alt 0 dk53 (sq [15,1,16] dk35))))))))) (.only 6 (.alt 0 (sq [3,4,6,9] dk53) (sq [3,4,6] (.alt 0 (.only 4 dk53) (.only 4 (.alt 0 dk53 (sq [15,1,16] dk35)))))))))))),(25,([],(sq [0,2,4,6,8,10,12,14,16,18,20,22] .done))),(28,([13],(.take 4 (.take 5 (.alt 0 (.take 1 (.take 2 (.alt 3 (sq [13,14,17] .done) (sq [13,7,14,17] .done)))) (sq [13,1,2,4,7,14,17] .done)))))),(32,([13],(.take 4 (.take 9 (.alt 0 (.take 1 (.take 2 (.alt 3 (sq [11,12,14,17,20,23] dk50) (sq [11,12,14] (.alt 3 (sq [17,20,23] dk50) (.only 8 (.take 10 (.alt 3 (.only 11 dk50) (sq [23,24,26,28] dk41))))))))) (sq [11,12,14] (.alt 0 (.take 1 (.take 2 (.alt 3 (sq [17,20,23] dk50) (.only 8 (.take 10 (.alt 3 (.only 11 dk50) (sq [23,24,26,28] dk41))))))) (.only 8 (.take 10 (.alt 0 (.take 1 (.take 2 (.alt 3 (.only 11 dk50) (sq [23,24,26,28] dk41)))) (sq [23,24,26,28,30,32,34,36,38,40,42,1,2,4,7,44,47] .done))))))))))),(41,([4],(sq [10,12,14,16] (.alt 0 (.alt 1 (.take 2 (.take 3 (.alt 4 (.only 9 dk40) (.only 9 (.only 4 dk40))))) (sq [19,3,4,6,9] dk40)) (.alt 1 (.take 2 (.take 3 (.alt 0 (.alt 4 (.only 9 dk40) (.only 9 (.only 4 dk40))) (.alt 4 (.alt 0 (.only 9 dk40) (.only 9 (.alt 0 dk40 (sq [21,1,22] dk24)))) (.only 9 (.alt 0 (.only 4 dk40) (.only 4 (.alt 0 dk40 (sq [21,1,22] dk24))))))))) (.only 9 (.alt 0 (sq [3,4,6,9] dk40) (sq [3,4,6] (.alt 0 (.only 4 dk40) (.only 4 (.alt 0 dk40 (sq [21,1,22] dk24))))))))))))]),
 (48,[(9,([],(sq [0,2,4,6,8,10,12,14] (.alt 8 (.alt 9 (.only 10 (.only 11 .done)) (sq [21,19,23] .done)) (sq [21,17,19,23] .done)))))]),
 (50,[(2,([2],(sq [0,2,4,6,8,10,12,15,16,19] .done)))]),
 (54,[(9,([3],(sq [0,2,4,6,8,12,14,16] (.alt 5 (sq [19,20,22,25] .done) (sq [19,11,20,22,25] .done)))))]),
 (57,[(7,([4],(sq [0,2,4,6,8,10,14] (.alt 6 (.only 8 (.only 9 dk14)) (sq [17,13,19] dk14)))))]),
 (65,[(0,([0],(sq [0,2,4,6,10] (.alt 4 (sq [13,15,17,18,20,23] .done) (.only 6 (.alt 4 (sq [15,17,18,20,23] .done) (sq [15,9,17,18,20,23] .done)))))))]),
 (68,[(1,([],(sq [0,2,4,6,8,10,12,14,16,18] .done)))]),
 (69,[(0,([0],(sq [0,2,4,6,8,10,12,16,18,20] (.alt 7 (sq [23,24,27,28,31] .done) (sq [23,15,24,27,28,31] .done)))))]),
 (80,[(3,([],(sq [0,2,4,6,8,10,12,14] .done))),(4,([2,3,4],(.take 1 (.take 3 (.alt 0 (sq [5,8,10,12,14,17,18] .done) (sq [5,8,10,12,14,1,17,18] .done))))))]),
 (87,[(3,([],(sq [0,2,4,6,8,10,12,14] .done)))]),
 (100,[(6,([],(sq [0,2,4,6,8,10,12,14,16,18,20] .done)))]),
 (101,[(6,([],(sq [0,2,4,6,8,10,12,14,16] .done)))]),
 (102,[(17,([6,52],(sq [0,4,6,8,10,12] (.alt 1 (.only 7 (.only 8 dk35)) (sq [15,3,17] dk35))))),(22,([6,8],(sq [0,4,6,8] (.alt 1 (sq [11,13,15,16,19] .done) (.only 5 (.alt 1 (sq [13,15,16,19] .done) (sq [13,3,15,16,19] .done))))))),(28,([6,10],(sq [0,4,6,8,10,12] (.alt 1 (sq [15,17,19,20,23] .done) (.only 7 (.alt 1 (sq [17,19,20,23] .done) (sq [17,3,19,20,23] .done)))))))]),
 (103,[(10,([3],(sq [0,2,4,6,8,10,12,14,16,18,20,22,25,27,28] .done)))]),
 (115,[(9,([3],(sq [0,2,4,6,8,10,12,14,17,18,20,22,24,26,28,30,32,34,36,38,40,42,44,46,48,50,53] .done)))]),
 (124,[(1,([],(sq [0,2,4,6,8,10,12,14,16,18,20,23,25] .done)))]),
 (125,[(3,([],(sq [0,6,3,5,9,10,12,15,16,18] .done)))]),
 (128,[(3,([],(sq [0,6,8,10,3,4,12] .done)))]),
 (129,[(13,([],(sq [0,2,4,6,8,10,12,14,16,18,20,22,24,26,28,30,32] .done)))])]
 fnumL:=[3,8,9,19,43,69,90,91,92,93,112,125,113,94,114,44,70,95,115,126,132,134,135,136,137,138,71,139,117,127,58,128,133,111,140,96,116,145,143,141,142,144,97,72,10,20,45,50,80,26,83,81,104,82,105,73,74,75,99,24,51,118,119,129,100,168,101,120,166,170,102,121,167,21,47,22,23,48,79,49,25,16,15,37,64,34,35,60,61,88,59,38,65,62,63,38,65,36,39,13,12,33,11,27,52,53,84,106,107,108,54,85,31,57,87,109,110,86,110,28,55,29,30,56,32,4,14,16,17,40,18,42,66,89,67,41,68,5,6,7]
 fnL:=[Tryz.f3,Tryz.f8,Tryz.f9,Tryz.f19,Tryz.f43,Tryz.f69,Tryz.f90,Tryz.f91,Tryz.f92,Tryz.f93,Tryz.f112,Tryz.f125,Tryz.f113,Tryz.f94,Tryz.f114,Tryz.f44,Tryz.f70,Tryz.f95,Tryz.f115,Tryz.f126,Tryz.f132,Tryz.f134,Tryz.f135,Tryz.f136,Tryz.f137,Tryz.f138,Tryz.f71,Tryz.f139,Tryz.f117,Tryz.f127,Tryz.f58,Tryz.f128,Tryz.f133,Tryz.f111,Tryz.f140,Tryz.f96,Tryz.f116,Tryz.f145,Tryz.f143,Tryz.f141,Tryz.f142,Tryz.f144,Tryz.f97,Tryz.f72,Tryz.f10,Tryz.f20,Tryz.f45,Tryz.f50,Tryz.f80,Tryz.f26,Tryz.f83,Tryz.f81,Tryz.f104,Tryz.f82,Tryz.f105,Tryz.f73,Tryz.f74,Tryz.f75,Tryz.f99,Tryz.f24,Tryz.f51,Tryz.f118,Tryz.f119,Tryz.f129,Tryz.f100,Tryz.f168,Tryz.f101,Tryz.f120,Tryz.f166,Tryz.f170,Tryz.f102,Tryz.f121,Tryz.f167,Tryz.f21,Tryz.f47,Tryz.f22,Tryz.f23,Tryz.f48,Tryz.f79,Tryz.f49,Tryz.f25,Tryz.f16,Tryz.f15,Tryz.f37,Tryz.f64,Tryz.f34,Tryz.f35,Tryz.f60,Tryz.f61,Tryz.f88,Tryz.f59,Tryz.f38,Tryz.f65,Tryz.f62,Tryz.f63,Tryz.f38,Tryz.f65,Tryz.f36,Tryz.f39,Tryz.f13,Tryz.f12,Tryz.f33,Tryz.f11,Tryz.f27,Tryz.f52,Tryz.f53,Tryz.f84,Tryz.f106,Tryz.f107,Tryz.f108,Tryz.f54,Tryz.f85,Tryz.f31,Tryz.f57,Tryz.f87,Tryz.f109,Tryz.f110,Tryz.f86,Tryz.f110,Tryz.f28,Tryz.f55,Tryz.f29,Tryz.f30,Tryz.f56,Tryz.f32,Tryz.f4,Tryz.f14,Tryz.f16,Tryz.f17,Tryz.f40,Tryz.f18,Tryz.f42,Tryz.f66,Tryz.f89,Tryz.f67,Tryz.f41,Tryz.f68,Tryz.f5,Tryz.f6,Tryz.f7]
 placeL:=[(1,[true,true,false,true]),(1,[true,true,true,false,true]),(0,[]),(0,[]),(5,[true,true,false,true,false,false]),(7,[true,true,false,true]),(5,[true,true,true,false,true,false,false]),(10,[true,true,false,true]),(12,[true,true,false,true]),(13,[true,true,false,true]),(4,[true,true,true,true,false]),(4,[true,true,true,true,false,false,false,true,false,true,false,true,false,false]),(0,[]),(0,[]),(0,[]),(31,[true,true,false,true]),(28,[true,true,true,true,true,true,true,false,true]),(0,[]),(37,[true,true,true,false]),(0,[]),(23,[true,true,false]),(0,[]),(22,[true,true,false]),(0,[]),(20,[true,true,false]),(0,[]),(19,[true,true,false]),(0,[]),(18,[true,true,false]),(0,[]),(0,[]),(0,[]),(0,[]),(0,[]),(0,[]),(0,[]),(43,[true,true,false,true]),(43,[true,true,false,true,false,false,true,false,false,true,true,true]),(0,[]),(15,[true,true]),(0,[]),(0,[]),(0,[]),(0,[]),(0,[]),(0,[]),(0,[]),(0,[]),(0,[]),(0,[]),(0,[]),(0,[]),(0,[]),(0,[]),(0,[]),(0,[]),(0,[]),(47,[true,true,true,false,true]),(48,[true,true,true]),(48,[true,true,true,true]),(47,[true,true,true,false,true,false,false,true,true,false,false,true,true,true]),(52,[true,false,true]),(0,[]),(0,[]),(0,[]),(0,[]),(0,[]),(0,[]),(54,[true,true,false,true]),(54,[true,true,false,true,false,false,true,true,false,false,true,false,true]),(0,[]),(0,[]),(0,[]),(0,[]),(0,[]),(0,[]),(0,[]),(0,[]),(0,[]),(0,[]),(0,[]),(0,[]),(0,[]),(0,[]),(0,[]),(0,[]),(0,[]),(0,[]),(0,[]),(0,[]),(0,[]),(0,[]),(0,[]),(0,[]),(0,[]),(0,[]),(0,[]),(0,[]),(0,[]),(0,[]),(0,[]),(0,[]),(0,[]),(0,[]),(0,[]),(0,[]),(0,[]),(0,[]),(0,[]),(0,[]),(0,[]),(0,[]),(0,[]),(0,[]),(0,[]),(0,[]),(0,[]),(0,[]),(0,[]),(0,[]),(0,[]),(0,[]),(0,[]),(0,[]),(0,[]),(0,[]),(0,[]),(0,[]),(0,[]),(0,[]),(0,[]),(0,[]),(0,[]),(0,[]),(0,[]),(0,[]),(0,[]),(0,[]),(0,[]),(0,[]),(0,[]),(0,[]),(0,[]),(0,[]),(0,[]),(0,[]),(0,[]),(0,[]),(0,[]),(0,[]),(0,[]),(0,[]),(0,[]),(0,[]),(0,[]),(0,[]),(0,[]),(0,[]),(0,[]),(0,[]),(0,[]),(60,[true,true,false,true]),(63,[true,false,true]),(0,[]),(61,[true,true,false,true,true,true,true,true]),(0,[]),(0,[]),(0,[]),(0,[]),(0,[]),(0,[]),(67,[]),(0,[]),(0,[]),(0,[]),(0,[]),(0,[]),(0,[]),(0,[]),(0,[]),(0,[]),(71,[true,true,false]),(0,[]),(0,[]),(0,[]),(0,[]),(0,[]),(0,[]),(0,[]),(0,[]),(0,[]),(0,[]),(0,[]),(0,[]),(0,[]),(0,[]),(0,[]),(0,[]),(0,[]),(0,[]),(0,[]),(57,[true,true,true,false,true]),(57,[true,true,true,true,true,true,true,false,true]),(57,[true,true,true,true,true,true,true,false,true,false,false,true,true,false,false,true,false,true]),(57,[true,true,true,true,true,true,true,false,true,false,false,true,true,false,false,true,false,true,false,false,true,true,false,false,true,true]),(57,[true,true,true,true,true,true,true,true,true,false]),(57,[true,true,true,true,true,true,true,true,true,false,false,false,true,false,true,true,true]),(0,[]),(0,[]),(0,[]),(0,[]),(0,[]),(0,[]),(0,[]),(0,[]),(0,[]),(0,[]),(0,[]),(0,[]),(0,[]),(0,[]),(0,[]),(0,[]),(0,[]),(0,[]),(0,[]),(0,[]),(0,[]),(0,[]),(0,[]),(0,[]),(0,[]),(0,[]),(0,[]),(0,[]),(0,[]),(0,[]),(0,[]),(0,[]),(0,[]),(0,[]),(0,[]),(0,[]),(0,[]),(46,[true,true,true,false,true]),(46,[true,true,true,true,true,true,false,true]),(46,[true,true,true,true,true,true,false,true,false,false,true,true,false,false,true,true]),(46,[true,true,true,true,true,true,false,true,false,false,true,true,false,false,true,true,true]),(46,[true,true,true,true,true,true,false,true,false,false,true,true,false,false,true,true,true,true,true,false,true]),(46,[true,true,true,true,true,true,false,true,false,false,true,true,false,false,true,true,true,true,true,false,true,false,true,false]),(46,[true,true,true,true,true,true,false,true,false,false,true,true,false,false,true,true,true,true,true,false,true,false,true,false,true,true]),(46,[true,true,true,true,true,true,false,true,false,false,true,true,false,false,true,true,true,true,true,false,true,false,true,false,true,true,true]),(46,[true,true,true,true,true,true,true,true,false,true]),(74,[true,false,true]),(78,[true,false,true]),(0,[]),(0,[]),(0,[]),(0,[]),(0,[]),(0,[]),(0,[]),(0,[]),(0,[]),(0,[]),(0,[]),(0,[]),(0,[]),(0,[]),(0,[]),(0,[]),(0,[]),(0,[]),(0,[]),(0,[]),(0,[]),(0,[]),(0,[]),(0,[]),(0,[]),(0,[]),(0,[]),(0,[]),(0,[]),(0,[]),(0,[]),(0,[]),(0,[]),(0,[]),(0,[]),(0,[]),(0,[]),(0,[]),(0,[]),(0,[]),(0,[]),(0,[]),(0,[]),(0,[]),(0,[]),(0,[]),(0,[]),(0,[]),(0,[]),(0,[]),(0,[]),(0,[]),(0,[]),(0,[]),(0,[]),(0,[]),(0,[]),(0,[]),(0,[]),(0,[]),(0,[]),(0,[]),(0,[]),(0,[]),(0,[]),(0,[]),(0,[]),(0,[]),(0,[]),(0,[]),(0,[]),(0,[]),(0,[]),(0,[]),(0,[]),(0,[]),(0,[]),(0,[]),(0,[]),(0,[]),(0,[]),(0,[]),(0,[]),(0,[]),(0,[]),(0,[]),(0,[]),(0,[]),(0,[]),(0,[]),(0,[]),(0,[]),(0,[]),(0,[]),(0,[]),(0,[]),(0,[]),(0,[]),(0,[]),(0,[]),(0,[]),(0,[]),(0,[]),(0,[]),(0,[]),(0,[]),(0,[]),(44,[true,true,true,true,true,true,true,true,false,true]),(44,[true,true,true,true,true,true,true,true,true,true,false,true]),(44,[true,true,true,true,true,true,true,true,true,true,false,true,false,false,true,true,false,false,true,true]),(44,[true,true,true,true,true,true,true,true,true,true,false,true,false,false,true,true,false,false,true,true,true]),(44,[true,true,true,true,true,true,true,true,true,true,false,true,false,false,true,true,false,false,true,true,true,false,false,true,true,false,false,true,true]),(44,[true,true,true,true,true,true,true,true,true,true,true,true,true,false,true]),(44,[true,true,true,true,true,true,true,true,true,true,true,true,true,false,true,false,false,true,true,false,false,true,true]),(44,[true,true,true,true,true,true,true,true,true,true,true,true,true,false,true,false,false,true,true,false,false,true,true,true]),(44,[true,true,true,true,true,true,true,true,true,true,true,true,true,false,true,false,false,true,true,false,false,true,true,true,false,false,true,true,false,false,true,true,true,true,false,true]),(0,[]),(81,[true,true,false,true]),(84,[true,false,true]),(86,[true,true,true,false,true]),(92,[true,false,true]),(96,[true,false,true]),(0,[]),(0,[]),(0,[]),(0,[]),(0,[]),(98,[true,true,false,true]),(98,[true,true,false,true,false,false,true,true,false,false,true,true]),(98,[true,true,false,true,false,false,true,true,false,false,true,true,false,false,true,false,true,true,true,true,true,true]),(0,[]),(99,[true,true,false,true]),(101,[true,true,false,true]),(100,[true,true,false,true]),(0,[]),(104,[true,false,true]),(106,[true,true,true,false,true]),(106,[true,true,true,false,true,false,false,true,false,false,true,true,false,true]),(109,[true,true,true,false,true]),(106,[true,true,true,true,false,true]),(105,[true,true,false,true]),(0,[]),(103,[true,true,true,false,true]),(0,[]),(0,[]),(114,[true,true,true,false,true]),(0,[]),(0,[]),(0,[]),(0,[]),(115,[true,true,false,true]),(115,[true,true,false,true,false,false,true,false,false,true,true]),(0,[]),(116,[true,false,true]),(111,[true,true,true,true,false,true]),(0,[]),(0,[]),(0,[]),(117,[true,false,true]),(118,[true,false,true]),(110,[true,true,true,false,true]),(110,[true,true,true,true,true,true,false]),(110,[true,true,true,true,true,true,false,false,false,true,false,true,false,true]),(0,[]),(119,[true,false,true]),(0,[]),(0,[]),(0,[]),(0,[]),(0,[]),(0,[]),(0,[]),(0,[]),(0,[]),(0,[]),(0,[]),(0,[]),(121,[true,true,true,false,true]),(121,[true,true,true,false,true,false,false,true,false,false,true,true,true,false,true]),(0,[]),(0,[]),(0,[]),(0,[]),(0,[]),(0,[]),(0,[]),(0,[]),(0,[]),(0,[]),(0,[]),(0,[]),(0,[]),(0,[]),(0,[]),(0,[]),(0,[]),(124,[true,true,true,false,true]),(0,[]),(0,[]),(0,[]),(0,[]),(0,[]),(0,[]),(0,[]),(0,[]),(0,[]),(0,[]),(0,[]),(0,[]),(0,[]),(0,[]),(0,[]),(0,[]),(0,[]),(0,[]),(0,[]),(0,[]),(0,[]),(0,[]),(0,[]),(0,[]),(0,[]),(102,[true,true,true,false,true]),(102,[true,true,true,true,true,true,false,true]),(102,[true,true,true,true,true,true,true,true,false,true]),(102,[true,true,true,true,true,true,true,true,false,true,false,false,true,false,false,true]),(102,[true,true,true,true,true,true,true,true,false,true,false,false,true,false,false,true,true,true]),(0,[]),(127,[true,true,false,true]),(129,[true,true,false,true]),(129,[true,true,true,false,true]),(0,[]),(0,[]),(0,[]),(135,[true,true,true]),(135,[true,true,true,false,false,false,true,false,true]),(135,[true,true,true,false,false,false,true,false,true,false,false,true,false,false,true,true,false,true]),(137,[true,true,true,true,true,false,true]),(137,[true,true,true,true,true,false,true,false,false,true,false,false,true,true]),(138,[true,true,true,true,true,false,true])] }
def xf:tabs.tb.RF:=fun φ => match φ with
 | _ => fun _ => none
def T:Tbl:=tabs.tbl xf
def U0 {A:Type} (f:A) (_:Unit):A:=f
def U2 {A B R:Type} (f:A → B → R) (d:A × B):R:=f d.1 d.2
def U3 {A0 A1 A2 R:Type} (f:A0 → A1 → A2 → R) (d:A0 × A1 × A2):R:=U2 (f d.1) d.2
def U4 {A0 A1 A2 A3 R:Type} (f:A0 → A1 → A2 → A3 → R) (d:A0 × A1 × A2 × A3):R:=U3 (f d.1) d.2
def U5 {A0 A1 A2 A3 A4 R:Type} (f:A0 → A1 → A2 → A3 → A4 → R) (d:A0 × A1 × A2 × A3 × A4):R:=U4 (f d.1) d.2
def U6 {A0 A1 A2 A3 A4 A5 R:Type} (f:A0 → A1 → A2 → A3 → A4 → A5 → R) (d:A0 × A1 × A2 × A3 × A4 × A5):R:=U5 (f d.1) d.2
def U7 {A0 A1 A2 A3 A4 A5 A6 R:Type} (f:A0 → A1 → A2 → A3 → A4 → A5 → A6 → R) (d:A0 × A1 × A2 × A3 × A4 × A5 × A6):R:=U6 (f d.1) d.2
def U8 {A0 A1 A2 A3 A4 A5 A6 A7 R:Type} (f:A0 → A1 → A2 → A3 → A4 → A5 → A6 → A7 → R) (d:A0 × A1 × A2 × A3 × A4 × A5 × A6 × A7):R:=U7 (f d.1) d.2
def U9 {A0 A1 A2 A3 A4 A5 A6 A7 A8 R:Type} (f:A0 → A1 → A2 → A3 → A4 → A5 → A6 → A7 → A8 → R) (d:A0 × A1 × A2 × A3 × A4 × A5 × A6 × A7 × A8):R:=U8 (f d.1) d.2
def U10 {A0 A1 A2 A3 A4 A5 A6 A7 A8 A9 R:Type} (f:A0 → A1 → A2 → A3 → A4 → A5 → A6 → A7 → A8 → A9 → R) (d:A0 × A1 × A2 × A3 × A4 × A5 × A6 × A7 × A8 × A9):R:=U9 (f d.1) d.2
def U11 {A0 A1 A2 A3 A4 A5 A6 A7 A8 A9 A10 R:Type} (f:A0 → A1 → A2 → A3 → A4 → A5 → A6 → A7 → A8 → A9 → A10 → R) (d:A0 × A1 × A2 × A3 × A4 × A5 × A6 × A7 × A8 × A9 × A10):R:=U10 (f d.1) d.2
def U12 {A0 A1 A2 A3 A4 A5 A6 A7 A8 A9 A10 A11 R:Type} (f:A0 → A1 → A2 → A3 → A4 → A5 → A6 → A7 → A8 → A9 → A10 → A11 → R) (d:A0 × A1 × A2 × A3 × A4 × A5 × A6 × A7 × A8 × A9 × A10 × A11):R:=U11 (f d.1) d.2
def U13 {A0 A1 A2 A3 A4 A5 A6 A7 A8 A9 A10 A11 A12 R:Type} (f:A0 → A1 → A2 → A3 → A4 → A5 → A6 → A7 → A8 → A9 → A10 → A11 → A12 → R) (d:A0 × A1 × A2 × A3 × A4 × A5 × A6 × A7 × A8 × A9 × A10 × A11 × A12):R:=U12 (f d.1) d.2
def U14 {A0 A1 A2 A3 A4 A5 A6 A7 A8 A9 A10 A11 A12 A13 R:Type} (f:A0 → A1 → A2 → A3 → A4 → A5 → A6 → A7 → A8 → A9 → A10 → A11 → A12 → A13 → R) (d:A0 × A1 × A2 × A3 × A4 × A5 × A6 × A7 × A8 × A9 × A10 × A11 × A12 × A13):R:=U13 (f d.1) d.2
def U15 {A0 A1 A2 A3 A4 A5 A6 A7 A8 A9 A10 A11 A12 A13 A14 R:Type} (f:A0 → A1 → A2 → A3 → A4 → A5 → A6 → A7 → A8 → A9 → A10 → A11 → A12 → A13 → A14 → R) (d:A0 × A1 × A2 × A3 × A4 × A5 × A6 × A7 × A8 × A9 × A10 × A11 × A12 × A13 × A14):R:=U14 (f d.1) d.2
def U16 {A0 A1 A2 A3 A4 A5 A6 A7 A8 A9 A10 A11 A12 A13 A14 A15 R:Type} (f:A0 → A1 → A2 → A3 → A4 → A5 → A6 → A7 → A8 → A9 → A10 → A11 → A12 → A13 → A14 → A15 → R) (d:A0 × A1 × A2 × A3 × A4 × A5 × A6 × A7 × A8 × A9 × A10 × A11 × A12 × A13 × A14 × A15):R:=U15 (f d.1) d.2
def U17 {A0 A1 A2 A3 A4 A5 A6 A7 A8 A9 A10 A11 A12 A13 A14 A15 A16 R:Type} (f:A0 → A1 → A2 → A3 → A4 → A5 → A6 → A7 → A8 → A9 → A10 → A11 → A12 → A13 → A14 → A15 → A16 → R) (d:A0 × A1 × A2 × A3 × A4 × A5 × A6 × A7 × A8 × A9 × A10 × A11 × A12 × A13 × A14 × A15 × A16):R:=U16 (f d.1) d.2
abbrev EqF (f:Nat) (X:T.RF → T.RB → (T.kin f).ct.denote → Option (outsT (T.kouts f)).denote):Prop:=∀ rf rb d,X rf rb d = T.stepF rf rb f d
abbrev EqB (f:Nat) (X:T.RF → T.RB → (T.bk f).ins.ct.denote → Option (exitsT (T.bk f).exits).denote):Prop:=∀ rf rb d,X rf rb d = T.stepB rf rb f d
abbrev W0 {P Q R:Type} (f:P → Q → R):=fun (a:P) (b:Q) => U0 (f a b)
abbrev W2 {P Q A0 A1 R:Type} (f:P → Q → A0 → A1 → R):=fun (a:P) (b:Q) => U2 (f a b)
abbrev W3 {P Q A0 A1 A2 R:Type} (f:P → Q → A0 → A1 → A2 → R):=fun (a:P) (b:Q) => U3 (f a b)
abbrev W4 {P Q A0 A1 A2 A3 R:Type} (f:P → Q → A0 → A1 → A2 → A3 → R):=fun (a:P) (b:Q) => U4 (f a b)
abbrev W5 {P Q A0 A1 A2 A3 A4 R:Type} (f:P → Q → A0 → A1 → A2 → A3 → A4 → R):=fun (a:P) (b:Q) => U5 (f a b)
abbrev W6 {P Q A0 A1 A2 A3 A4 A5 R:Type} (f:P → Q → A0 → A1 → A2 → A3 → A4 → A5 → R):=fun (a:P) (b:Q) => U6 (f a b)
abbrev W7 {P Q A0 A1 A2 A3 A4 A5 A6 R:Type} (f:P → Q → A0 → A1 → A2 → A3 → A4 → A5 → A6 → R):=fun (a:P) (b:Q) => U7 (f a b)
abbrev W8 {P Q A0 A1 A2 A3 A4 A5 A6 A7 R:Type} (f:P → Q → A0 → A1 → A2 → A3 → A4 → A5 → A6 → A7 → R):=fun (a:P) (b:Q) => U8 (f a b)
abbrev W9 {P Q A0 A1 A2 A3 A4 A5 A6 A7 A8 R:Type} (f:P → Q → A0 → A1 → A2 → A3 → A4 → A5 → A6 → A7 → A8 → R):=fun (a:P) (b:Q) => U9 (f a b)
abbrev W10 {P Q A0 A1 A2 A3 A4 A5 A6 A7 A8 A9 R:Type} (f:P → Q → A0 → A1 → A2 → A3 → A4 → A5 → A6 → A7 → A8 → A9 → R):=fun (a:P) (b:Q) => U10 (f a b)
abbrev W11 {P Q A0 A1 A2 A3 A4 A5 A6 A7 A8 A9 A10 R:Type} (f:P → Q → A0 → A1 → A2 → A3 → A4 → A5 → A6 → A7 → A8 → A9 → A10 → R):=fun (a:P) (b:Q) => U11 (f a b)
abbrev W12 {P Q A0 A1 A2 A3 A4 A5 A6 A7 A8 A9 A10 A11 R:Type} (f:P → Q → A0 → A1 → A2 → A3 → A4 → A5 → A6 → A7 → A8 → A9 → A10 → A11 → R):=fun (a:P) (b:Q) => U12 (f a b)
abbrev W15 {P Q A0 A1 A2 A3 A4 A5 A6 A7 A8 A9 A10 A11 A12 A13 A14 R:Type} (f:P → Q → A0 → A1 → A2 → A3 → A4 → A5 → A6 → A7 → A8 → A9 → A10 → A11 → A12 → A13 → A14 → R):=fun (a:P) (b:Q) => U15 (f a b)
abbrev W16 {P Q A0 A1 A2 A3 A4 A5 A6 A7 A8 A9 A10 A11 A12 A13 A14 A15 R:Type} (f:P → Q → A0 → A1 → A2 → A3 → A4 → A5 → A6 → A7 → A8 → A9 → A10 → A11 → A12 → A13 → A14 → A15 → R):=fun (a:P) (b:Q) => U16 (f a b)
abbrev W17 {P Q A0 A1 A2 A3 A4 A5 A6 A7 A8 A9 A10 A11 A12 A13 A14 A15 A16 R:Type} (f:P → Q → A0 → A1 → A2 → A3 → A4 → A5 → A6 → A7 → A8 → A9 → A10 → A11 → A12 → A13 → A14 → A15 → A16 → R):=fun (a:P) (b:Q) => U17 (f a b)
abbrev IF1 {A0 R:Type} (X:T.RF → T.RB → A0 → Option R) (C:T.RF → A0 → Option R):Prop:=∀ {d1 y},X T.rf T.rb d1 = some y → C T.rf d1 = some y
abbrev IF2 {A0 A1 R:Type} (X:T.RF → T.RB → A0 → A1 → Option R) (C:T.RF → A0 → A1 → Option R):Prop:=∀ {d1 d2 y},X T.rf T.rb d1 d2 = some y → C T.rf d1 d2 = some y
abbrev IB2 {A0 A1 R:Type} (X:T.RF → T.RB → A0 → A1 → Option R) (C:T.RB → A0 → A1 → Option R):Prop:=∀ {d1 d2 y},X T.rf T.rb d1 d2 = some y → C T.rb d1 d2 = some y
abbrev IF3 {A0 A1 A2 R:Type} (X:T.RF → T.RB → A0 → A1 → A2 → Option R) (C:T.RF → A0 → A1 → A2 → Option R):Prop:=∀ {d1 d2 d3 y},X T.rf T.rb d1 d2 d3 = some y → C T.rf d1 d2 d3 = some y
abbrev IB3 {A0 A1 A2 R:Type} (X:T.RF → T.RB → A0 → A1 → A2 → Option R) (C:T.RB → A0 → A1 → A2 → Option R):Prop:=∀ {d1 d2 d3 y},X T.rf T.rb d1 d2 d3 = some y → C T.rb d1 d2 d3 = some y
abbrev IB4 {A0 A1 A2 A3 R:Type} (X:T.RF → T.RB → A0 → A1 → A2 → A3 → Option R) (C:T.RB → A0 → A1 → A2 → A3 → Option R):Prop:=∀ {d1 d2 d3 d4 y},X T.rf T.rb d1 d2 d3 d4 = some y → C T.rb d1 d2 d3 d4 = some y
abbrev IF5 {A0 A1 A2 A3 A4 R:Type} (X:T.RF → T.RB → A0 → A1 → A2 → A3 → A4 → Option R) (C:T.RF → A0 → A1 → A2 → A3 → A4 → Option R):Prop:=∀ {d1 d2 d3 d4 d5 y},X T.rf T.rb d1 d2 d3 d4 d5 = some y → C T.rf d1 d2 d3 d4 d5 = some y
abbrev IB5 {A0 A1 A2 A3 A4 R:Type} (X:T.RF → T.RB → A0 → A1 → A2 → A3 → A4 → Option R) (C:T.RB → A0 → A1 → A2 → A3 → A4 → Option R):Prop:=∀ {d1 d2 d3 d4 d5 y},X T.rf T.rb d1 d2 d3 d4 d5 = some y → C T.rb d1 d2 d3 d4 d5 = some y
abbrev IB6 {A0 A1 A2 A3 A4 A5 R:Type} (X:T.RF → T.RB → A0 → A1 → A2 → A3 → A4 → A5 → Option R) (C:T.RB → A0 → A1 → A2 → A3 → A4 → A5 → Option R):Prop:=∀ {d1 d2 d3 d4 d5 d6 y},X T.rf T.rb d1 d2 d3 d4 d5 d6 = some y → C T.rb d1 d2 d3 d4 d5 d6 = some y
abbrev IB7 {A0 A1 A2 A3 A4 A5 A6 R:Type} (X:T.RF → T.RB → A0 → A1 → A2 → A3 → A4 → A5 → A6 → Option R) (C:T.RB → A0 → A1 → A2 → A3 → A4 → A5 → A6 → Option R):Prop:=∀ {d1 d2 d3 d4 d5 d6 d7 y},X T.rf T.rb d1 d2 d3 d4 d5 d6 d7 = some y → C T.rb d1 d2 d3 d4 d5 d6 d7 = some y
abbrev IB8 {A0 A1 A2 A3 A4 A5 A6 A7 R:Type} (X:T.RF → T.RB → A0 → A1 → A2 → A3 → A4 → A5 → A6 → A7 → Option R) (C:T.RB → A0 → A1 → A2 → A3 → A4 → A5 → A6 → A7 → Option R):Prop:=∀ {d1 d2 d3 d4 d5 d6 d7 d8 y},X T.rf T.rb d1 d2 d3 d4 d5 d6 d7 d8 = some y → C T.rb d1 d2 d3 d4 d5 d6 d7 d8 = some y
abbrev IB9 {A0 A1 A2 A3 A4 A5 A6 A7 A8 R:Type} (X:T.RF → T.RB → A0 → A1 → A2 → A3 → A4 → A5 → A6 → A7 → A8 → Option R) (C:T.RB → A0 → A1 → A2 → A3 → A4 → A5 → A6 → A7 → A8 → Option R):Prop:=∀ {d1 d2 d3 d4 d5 d6 d7 d8 d9 y},X T.rf T.rb d1 d2 d3 d4 d5 d6 d7 d8 d9 = some y → C T.rb d1 d2 d3 d4 d5 d6 d7 d8 d9 = some y
abbrev IB10 {A0 A1 A2 A3 A4 A5 A6 A7 A8 A9 R:Type} (X:T.RF → T.RB → A0 → A1 → A2 → A3 → A4 → A5 → A6 → A7 → A8 → A9 → Option R) (C:T.RB → A0 → A1 → A2 → A3 → A4 → A5 → A6 → A7 → A8 → A9 → Option R):Prop:=∀ {d1 d2 d3 d4 d5 d6 d7 d8 d9 d10 y},X T.rf T.rb d1 d2 d3 d4 d5 d6 d7 d8 d9 d10 = some y → C T.rb d1 d2 d3 d4 d5 d6 d7 d8 d9 d10 = some y
abbrev IB16 {A0 A1 A2 A3 A4 A5 A6 A7 A8 A9 A10 A11 A12 A13 A14 A15 R:Type} (X:T.RF → T.RB → A0 → A1 → A2 → A3 → A4 → A5 → A6 → A7 → A8 → A9 → A10 → A11 → A12 → A13 → A14 → A15 → Option R) (C:T.RB → A0 → A1 → A2 → A3 → A4 → A5 → A6 → A7 → A8 → A9 → A10 → A11 → A12 → A13 → A14 → A15 → Option R):Prop:=∀ {d1 d2 d3 d4 d5 d6 d7 d8 d9 d10 d11 d12 d13 d14 d15 d16 y},X T.rf T.rb d1 d2 d3 d4 d5 d6 d7 d8 d9 d10 d11 d12 d13 d14 d15 d16 = some y → C T.rb d1 d2 d3 d4 d5 d6 d7 d8 d9 d10 d11 d12 d13 d14 d15 d16 = some y
abbrev IB17 {A0 A1 A2 A3 A4 A5 A6 A7 A8 A9 A10 A11 A12 A13 A14 A15 A16 R:Type} (X:T.RF → T.RB → A0 → A1 → A2 → A3 → A4 → A5 → A6 → A7 → A8 → A9 → A10 → A11 → A12 → A13 → A14 → A15 → A16 → Option R) (C:T.RB → A0 → A1 → A2 → A3 → A4 → A5 → A6 → A7 → A8 → A9 → A10 → A11 → A12 → A13 → A14 → A15 → A16 → Option R):Prop:=∀ {d1 d2 d3 d4 d5 d6 d7 d8 d9 d10 d11 d12 d13 d14 d15 d16 d17 y},X T.rf T.rb d1 d2 d3 d4 d5 d6 d7 d8 d9 d10 d11 d12 d13 d14 d15 d16 d17 = some y → C T.rb d1 d2 d3 d4 d5 d6 d7 d8 d9 d10 d11 d12 d13 d14 d15 d16 d17 = some y
theorem EqF.g {f X} (e:EqF f X) {rf rb}:∀ d y,X rf rb d = some y → T.stepF rf rb f d = some y:=fun d _ h => (e _ _ d).symm.trans h
theorem EqB.g {f X} (e:EqB f X) {rf rb}:∀ d y,X rf rb d = some y → T.stepB rf rb f d = some y:=fun d _ h => (e _ _ d).symm.trans h
theorem EqF.o {f X} (e:EqF f X) {d y} (h:X T.rf T.rb d = some y):T.rf f d = some y:=T.rf_of ((e _ _ d).symm.trans h)
theorem EqB.o {f X} (e:EqB f X) {d y} (h:X T.rf T.rb d = some y):T.rb f d = some y:=T.rb_of ((e _ _ d).symm.trans h)
def c0 (rf:T.RF) (d1:List XS):Option Bool:=rf 0 d1
def c1 (rf:T.RF) (d1:List XS) (d2:List (List Int)):Option Bool:=rf 1 (d1,d2)
def c2 (rf:T.RF):Option Bool:=rf 2 ()
def c3 (rf:T.RF) (d1:List UInt8):Option (XL × Int × Int):=rf 3 d1
def c4 (rf:T.RF) (d1:List UInt8):Option (List (Int × List UInt8 × Int) × Int × Int):=rf 4 d1
def c5 (rf:T.RF) (d1:List UInt8) (d2:Int):Option ((Int × List UInt8 × Int) × Int):=rf 5 (d1,d2)
def c6 (rf:T.RF) (d1:Int):Option Bool:=rf 6 d1
def c7 (rf:T.RF) (d1:List UInt8):Option Int:=rf 7 d1
def c8 (rf:T.RF) (d1:Int):Option Bool:=rf 8 d1
def c9 (rf:T.RF) (d1:List UInt8) (d2:Int):Option ((Int × List UInt8 × Int) × Int):=rf 9 (d1,d2)
def c10 (rf:T.RF) (d1:List UInt8):Option Bool:=rf 10 d1
def c11 (rf:T.RF):Option (List (List UInt8)):=rf 11 ()
def c12 (rf:T.RF) (d1:List UInt8):Option Bool:=rf 12 d1
def c13 (rf:T.RF) (d1:List UInt8):Option (List UInt8):=rf 13 d1
def c14 (rf:T.RF):Option (List (List UInt8)):=rf 14 ()
def c15 (rf:T.RF) (d1:List (Int × List UInt8 × Int)) (d2:Int):Option (XL × Int × Int × Int):=rf 15 (d1,d2)
def c16 (rf:T.RF) (d1:XR):Option (XR × XL):=rf 16 d1
def c17 (rf:T.RF) (d1:XR):Option (XR × XL):=rf 17 d1
def c18 (rf:T.RF) (d1:XR):Option (XR × XL):=rf 18 d1
def c19 (rf:T.RF) (d1:XR):Option (XR × XL):=rf 19 d1
def c20 (rf:T.RF) (d1:XR):Option (XR × XL):=rf 20 d1
def c21 (rf:T.RF) (d1:XR):Option (XR × XL):=rf 21 d1
def c22 (rf:T.RF) (d1:XR):Option (XR × XL):=rf 22 d1
def c23 (rf:T.RF) (d1:XR):Option (XR × XL):=rf 23 d1
def c24 (rf:T.RF) (d1:XR):Option (XR × XL):=rf 24 d1
def c25 (rf:T.RF) (d1:XR) (d2:Int):Option (XR × XL):=rf 25 (d1,d2)
def c26 (rf:T.RF) (d1:List (Int × List UInt8 × Int)) (d2:Int):Option Int:=rf 26 (d1,d2)
def c27 (rf:T.RF) (d1:XR) (d2:Int × List UInt8 × Int):Option (XR × XL):=rf 27 (d1,d2)
def c28 (rf:T.RF) (d1 d2:Int) (d3:List UInt8) (d4:List XL):Option XL:=rf 28 (d1,d2,d3,d4)
def c29 (rf:T.RF) (d1 d2:Int) (d3:List UInt8):Option XN:=rf 29 (d1,d2,d3)
def c30 (rf:T.RF) (d1:XN):Option (List Int):=rf 30 d1
def c31 (rf:T.RF) (d1 d2:XL):Option XL:=rf 31 (d1,d2)
def c32 (rf:T.RF) (d1:XN) (d2:Int):Option XN:=rf 32 (d1,d2)
def c33 (rf:T.RF) (d1:XN) (d2:List Int):Option XN:=rf 33 (d1,d2)
def c34 (rf:T.RF) (d1:XR) (d2:List UInt8):Option (XR × XL):=rf 34 (d1,d2)
def c35 (rf:T.RF) (d1:XR) (d2:List UInt8):Option (XR × Bool):=rf 35 (d1,d2)
def c36 (rf:T.RF) (d1:XR) (d2:List UInt8):Option (XR × Bool):=rf 36 (d1,d2)
def c37 (rf:T.RF) (d1:XR):Option (XR × List XL):=rf 37 d1
def c38 (rf:T.RF) (d1:XR) (d2:List UInt8):Option XR:=rf 38 (d1,d2)
def c39 (rf:T.RF) (d1:List UInt8):Option Int:=rf 39 d1
def c40 (rf:T.RF) (d1:XR):Option (XR × XL):=rf 40 d1
def c41 (rf:T.RF) (d1:XR):Option (XR × XL):=rf 41 d1
def c42 (rf:T.RF) (d1:XR) (d2:Int) (d3 d4:XL):Option (XR × XL):=rf 42 (d1,d2,d3,d4)
def c43 (rf:T.RF) (d1:XL):Option Int:=rf 43 d1
def c44 (rf:T.RF) (d1:List XS):Option (XT × Int):=rf 44 d1
def c45 (rf:T.RF) (d1:List XS):Option (List (List Int) × Int):=rf 45 d1
def c46 (rf:T.RF) (d1:List XS):Option (Int ⊕ (Bool × Int × List Unit × List (List UInt8 × Int) × List Int × Int)):=rf 46 d1
def c47 (rf:T.RF) (d1:XL):Option Bool:=rf 47 d1
def c48 (rf:T.RF) (d1:XN):Option Bool:=rf 48 d1
def c49 (rf:T.RF) (d1:XN):Option (List Int):=rf 49 d1
def c50 (rf:T.RF) (d1:XN) (d2:List Int):Option XN:=rf 50 (d1,d2)
def c51 (rf:T.RF) (d1:List Bool) (d2:Bool):Option Bool:=rf 51 (d1,d2)
def c52 (rf:T.RF) (d1:List Bool) (d2:Bool):Option Int:=rf 52 (d1,d2)
def c53 (rf:T.RF) (d1:XL):Option Int:=rf 53 d1
def c54 (rf:T.RF) (d1:XL):Option (List Int):=rf 54 d1
def c55 (rf:T.RF) (d1:XL):Option XL:=rf 55 d1
def c56 (rf:T.RF) (d1:XN):Option (Int ⊕ Int ⊕ (Int × Int) ⊕ Int ⊕ Unit):=rf 56 d1
def c57 (rf:T.RF) (d1:List (List UInt8 × XL)):Option (List Int × Int):=rf 57 d1
def c58 (rf:T.RF) (d1:XL):Option (List (List UInt8)):=rf 58 d1
def c59 (rf:T.RF) (d1:XL) (d2:Int):Option XL:=rf 59 (d1,d2)
def c60 (rf:T.RF) (d1 d2:XL) (d3:Int):Option XL:=rf 60 (d1,d2,d3)
def c61 (rf:T.RF) (d1:XL) (d2:List (List UInt8)) (d3:Int):Option ((XL × List (List UInt8)) ⊕ (XL × List (List UInt8))):=rf 61 (d1,d2,d3)
def c62 (rf:T.RF) (d1:List (List UInt8)) (d2:List UInt8):Option (List (List UInt8) × Bool):=rf 62 (d1,d2)
def c63 (rf:T.RF) (d1:List (List UInt8)) (d2:List UInt8):Option (List (List UInt8) × Int):=rf 63 (d1,d2)
def c64 (rf:T.RF) (d1:List Int) (d2:Int):Option (List Int):=rf 64 (d1,d2)
def c65 (rf:T.RF) (d1:List Int) (d2:Int):Option (List Int):=rf 65 (d1,d2)
def c66 (rf:T.RF) (d1:List Int):Option (List Int × Int):=rf 66 d1
def c67 (rf:T.RF) (d1:List Int) (d2:Int):Option (List Int):=rf 67 (d1,d2)
def c68 (rf:T.RF) (d1:List Int) (d2 d3:Int):Option (List Int × Bool):=rf 68 (d1,d2,d3)
def c69 (rf:T.RF) (d1:List Int) (d2 d3:Int):Option (List Int):=rf 69 (d1,d2,d3)
def c70 (rf:T.RF) (d1:List Int):Option (List Int × Int):=rf 70 d1
def c71 (rf:T.RF) (d1:List Int) (d2 d3:Int):Option (List Int × Bool):=rf 71 (d1,d2,d3)
def c72 (rf:T.RF) (d1:List Int):Option (List Int × Int):=rf 72 d1
def c73 (rf:T.RF) (d1:List XS):Option Bool:=rf 73 d1
def c74 (rf:T.RF) (d1:List XS):Option Int:=rf 74 d1
def c75 (rf:T.RF) (d1:XS):Option Bool:=rf 75 d1
def c76 (rf:T.RF) (d1:XL):Option Bool:=rf 76 d1
def c77 (rf:T.RF) (d1:XL):Option Bool:=rf 77 d1
def c78 (rf:T.RF) (d1:XL):Option Int:=rf 78 d1
def c79 (rf:T.RF) (d1:XN):Option Bool:=rf 79 d1
def c80 (rf:T.RF) (d1:List (List Int)) (d2:List XL) (d3:List (List UInt8 × Int)) (d4 d5:Int):Option (List (List Int) × List XL × List (List UInt8 × Int) × Int):=rf 80 (d1,d2,d3,d4,d5)
def c81 (rf:T.RF) (d1:List XO) (d2 d3:List Int):Option (List XO × XT):=rf 81 (d1,d2,d3)
def c82 (rf:T.RF) (d1:XT):Option Int:=rf 82 d1
def c83 (rf:T.RF) (d1:XT) (d2:List XO):Option (XT × Bool):=rf 83 (d1,d2)
def c84 (rf:T.RF) (d1:XT) (d2:List XO):Option (XT × Int):=rf 84 (d1,d2)
def c85 (rf:T.RF) (d1:XT) (d2:XO):Option (XT × Bool):=rf 85 (d1,d2)
def c86 (rf:T.RF) (d1:XT) (d2:XO):Option Bool:=rf 86 (d1,d2)
def c87 (rf:T.RF) (d1:XO):Option (List Int × List Int):=rf 87 d1
def c88 (rf:T.RF) (d1:Int):Option Int:=rf 88 d1
def c89 (rf:T.RF) (d1:Int):Option Int:=rf 89 d1
def c90 (rf:T.RF) (d1:XT) (d2:Int):Option (XT × Bool):=rf 90 (d1,d2)
def c91 (rf:T.RF) (d1:List Int):Option Bool:=rf 91 d1
def c92 (rf:T.RF) (d1:List Int):Option Int:=rf 92 d1
def c93 (rf:T.RF) (d1:Int):Option Bool:=rf 93 d1
def c94 (rf:T.RF) (d1:Int):Option Bool:=rf 94 d1
def c95 (rf:T.RF) (d1:XT) (d2:List Int):Option (XT × Bool):=rf 95 (d1,d2)
def c96 (rf:T.RF) (d1:XT) (d2:List Int):Option (XT × Int):=rf 96 (d1,d2)
def c97 (rf:T.RF) (d1:XT) (d2:Int):Option (XT × Bool):=rf 97 (d1,d2)
def c98 (rf:T.RF) (d1:XT):Option Bool:=rf 98 d1
def c99 (rf:T.RF) (d1:XT):Option XT:=rf 99 d1
def c100 (rf:T.RF) (d1 d2:XT):Option Bool:=rf 100 (d1,d2)
def c101 (rf:T.RF) (d1 d2:List Int):Option Bool:=rf 101 (d1,d2)
def c102 (rf:T.RF) (d1:List XS):Option (XT × Int):=rf 102 d1
def c103 (rf:T.RF) (d1:List XS):Option Int:=rf 103 d1
def c104 (rf:T.RF) (d1:List XS) (d2:List UInt8):Option Int:=rf 104 (d1,d2)
def c105 (rf:T.RF) (d1:List XS) (d2:XL):Option Bool:=rf 105 (d1,d2)
def c106 (rf:T.RF) (d1:XL):Option Bool:=rf 106 d1
def c107 (rf:T.RF) (d1:XN):Option Bool:=rf 107 d1
def c108 (rf:T.RF) (d1:XN):Option Bool:=rf 108 d1
def c109 (rf:T.RF) (d1:XL) (d2:Int):Option Bool:=rf 109 (d1,d2)
def c110 (rf:T.RF) (d1:List (List UInt8 × XL)):Option (List Int × Int):=rf 110 d1
def c111 (rf:T.RF) (d1:XL):Option (List (List UInt8)):=rf 111 d1
def c112 (rf:T.RF) (d1:XL):Option XL:=rf 112 d1
def c113 (rf:T.RF) (d1:XL) (d2:Int):Option XL:=rf 113 (d1,d2)
def c114 (rf:T.RF) (d1 d2:XL) (d3:Int):Option XL:=rf 114 (d1,d2,d3)
def c115 (rf:T.RF) (d1:XL):Option (List Bool):=rf 115 d1
def c116 (rf:T.RF) (d1:List (List UInt8)) (d2:List UInt8):Option (List (List UInt8) × Bool):=rf 116 (d1,d2)
def c117 (rf:T.RF) (d1:List Bool) (d2:List (List UInt8 × XL)) (d3:List (List UInt8)):Option (List Bool × Bool):=rf 117 (d1,d2,d3)
def c118 (rf:T.RF) (d1:List (List UInt8)) (d2:List UInt8):Option Bool:=rf 118 (d1,d2)
def c119 (rf:T.RF) (d1:XL):Option Bool:=rf 119 d1
def c120 (rf:T.RF) (d1:Int):Option Bool:=rf 120 d1
def c121 (rf:T.RF) (d1:List XS) (d2:Int):Option (List (List Int)):=rf 121 (d1,d2)
def c122 (rf:T.RF) (d1:List XS) (d2:List (List Int)) (d3:Int):Option Int:=rf 122 (d1,d2,d3)
def c123 (rf:T.RF) (d1:List XS) (d2:List (List Int)) (d3:XL) (d4 d5:Int):Option Int:=rf 123 (d1,d2,d3,d4,d5)
def c124 (rf:T.RF) (d1:List XS) (d2:List (List Int)) (d3:XL) (d4 d5:Int):Option XO:=rf 124 (d1,d2,d3,d4,d5)
def c126 (rf:T.RF) (d1:XT):Option Bool:=rf 126 d1
def c127 (rf:T.RF) (d1:XT):Option XT:=rf 127 d1
def c128 (rf:T.RF) (d1:XT):Option Int:=rf 128 d1
def c129 (rf:T.RF) (d1:XT):Option Bool:=rf 129 d1
def c130 (rf:T.RF) (d1:Int):Option Int:=rf 130 d1
def c131 (rf:T.RF) (d1:Int):Option Int:=rf 131 d1
def c132 (rf:T.RF) (d1:XT) (d2:XO):Option Bool:=rf 132 (d1,d2)
def c133 (rf:T.RF) (d1:Int):Option Bool:=rf 133 d1
def c134 (rf:T.RF) (d1:XT) (d2 d3 d4:Int):Option Bool:=rf 134 (d1,d2,d3,d4)
def c135 (rf:T.RF) (d1:XT):Option (List Int):=rf 135 d1
def c136 (rf:T.RF) (d1:XO):Option (List Int):=rf 136 d1
def c137 (rf:T.RF) (d1:List XS):Option Bool:=rf 137 d1
def c138 (rf:T.RF) (d1:List XS):Option Bool:=rf 138 d1
def k0 (rb:T.RB) (d1:List XS) (d2:Int):Option (Bool ⊕ Unit):=rb 0 (d1,d2)
def k1 (rb:T.RB) (d1:List (List Int)) (d2:Int):Option (Bool ⊕ Unit):=rb 1 (d1,d2)
def k4 (rb:T.RB) (d1:List UInt8) (d2:Int):Option Int:=rb 4 (d1,d2)
def k5 (rb:T.RB) (d1:List UInt8) (d2 d3:Int):Option Int:=rb 5 (d1,d2,d3)
def k6 (rb:T.RB) (d1:List UInt8) (d2:Int):Option Int:=rb 6 (d1,d2)
def k7 (rb:T.RB) (d1:List (List UInt8)) (d2:List UInt8) (d3:Int):Option ((List (List UInt8) × Bool) ⊕ (List (List UInt8))):=rb 7 (d1,d2,d3)
def k8 (rb:T.RB) (d1:List UInt8) (d2:Int):Option (Bool ⊕ Unit):=rb 8 (d1,d2)
def k9 (rb:T.RB) (d1:List (List UInt8)) (d2:List UInt8) (d3:Int):Option ((List (List UInt8) × List UInt8) ⊕ (List (List UInt8))):=rb 9 (d1,d2,d3)
def k10 (rb:T.RB) (d1:Int × Int) (d2:List (Int × List UInt8 × Int)) (d3:List UInt8) (d4:Int):Option (((Int × Int) × List (Int × List UInt8 × Int)) ⊕ ((Int × Int) × List (Int × List UInt8 × Int))):=rb 10 (d1,d2,d3,d4)
def k11 (rb:T.RB) (d1:List UInt8) (d2:Int):Option Int:=rb 11 (d1,d2)
def k15 (rb:T.RB) (d1 d2:XL) (d3 d4:Int):Option XL:=rb 15 (d1,d2,d3,d4)
def k16 (rb:T.RB) (d1:XL) (d2:List Int) (d3:Int) (d4:List XL) (d5 d6:Int):Option (XL ⊕ (XL × List Int × Int)):=rb 16 (d1,d2,d3,d4,d5,d6)
def k18 (rb:T.RB) (d1:XR) (d2:List XL):Option ((XR × List XL) ⊕ XR):=rb 18 (d1,d2)
def k20 (rb:T.RB) (d1:XR) (d2:XL):Option (XR × XL):=rb 20 (d1,d2)
def k22 (rb:T.RB) (d1:XR) (d2:XL):Option (XR × XL):=rb 22 (d1,d2)
def k24 (rb:T.RB) (d1:XR) (d2:XL):Option (XR × XL):=rb 24 (d1,d2)
def k26 (rb:T.RB) (d1:XR) (d2:XL):Option (XR × XL):=rb 26 (d1,d2)
def k28 (rb:T.RB) (d1:XR) (d2:XL):Option (XR × XL):=rb 28 (d1,d2)
def k36 (rb:T.RB) (d1:List Int) (d2:XL) (d3:Int):Option (List Int):=rb 36 (d1,d2,d3)
def k37 (rb:T.RB) (d1 d2:List Int) (d3 d4:Int):Option (List Int × List Int):=rb 37 (d1,d2,d3,d4)
def k39 (rb:T.RB) (d1:Int × Int) (d2:List (Int × List UInt8 × Int)) (d3:Int):Option (((Int × Int) × XL × Int) ⊕ ((Int × Int) × XL × Int)):=rb 39 (d1,d2,d3)
def k57 (rb:T.RB) (d1:List Bool) (d2 d3:XL) (d4 d5:Int):Option ((List Bool × Bool) ⊕ (List Bool)):=rb 57 (d1,d2,d3,d4,d5)
def k58 (rb:T.RB) (d1:XN) (d2:Int):Option (XN × Bool):=rb 58 (d1,d2)
def k59 (rb:T.RB) (d1 d2:XN) (d3:Int):Option (XN × XN × Bool):=rb 59 (d1,d2,d3)
def k60 (rb:T.RB) (d1:List Bool) (d2:XN) (d3:List Int) (d4:XL) (d5 d6 d7:Int):Option ((List Bool × XN × List Int × Bool) ⊕ (List Bool × XN × List Int)):=rb 60 (d1,d2,d3,d4,d5,d6,d7)
def k61 (rb:T.RB) (d1:List Bool) (d2:Bool) (d3 d4:Int):Option (Int ⊕ Unit):=rb 61 (d1,d2,d3,d4)
def k68 (rb:T.RB) (d1:List Int) (d2:XL) (d3 d4:Int):Option (List Int):=rb 68 (d1,d2,d3,d4)
def k69 (rb:T.RB) (d1 d2:List Int) (d3 d4 d5:Int):Option (List Int × List Int):=rb 69 (d1,d2,d3,d4,d5)
def k161 (rb:T.RB) (d1:XL) (d2:List Int) (d3:XL) (d4 d5:Int):Option (List Int × XL):=rb 161 (d1,d2,d3,d4,d5)
def k162 (rb:T.RB) (d1:List (List UInt8)) (d2:List UInt8) (d3 d4:Int):Option ((List (List UInt8) × Int) ⊕ (List (List UInt8))):=rb 162 (d1,d2,d3,d4)
def k164 (rb:T.RB) (d1:List Int) (d2:XL) (d3:List (List UInt8)) (d4 d5:Int):Option (List Int × XL × List (List UInt8)):=rb 164 (d1,d2,d3,d4,d5)
def k171 (rb:T.RB) (d1:List Int) (d2:Int):Option (List Int):=rb 171 (d1,d2)
def k181 (rb:T.RB) (d1:List Int) (d2 d3:Int):Option (List Int × Int):=rb 181 (d1,d2,d3)
def k201 (rb:T.RB) (d1:List (List UInt8 × List Int)) (d2:List (List UInt8 × XL)) (d3 d4:Int):Option (List (List UInt8 × List Int)):=rb 201 (d1,d2,d3,d4)
def k202 (rb:T.RB) (d1:List (List UInt8 × List Int)) (d2:List Int) (d3:List (List Int)) (d4:List Int) (d5:List (List UInt8 × XL)) (d6 d7:Int):Option (List (List UInt8 × List Int) × List Int × List (List Int) × List Int):=rb 202 (d1,d2,d3,d4,d5,d6,d7)
def k203 (rb:T.RB) (d1:List (List UInt8 × List Int)) (d2:List Int) (d3:List (List Int)) (d4:Int) (d5:List (List UInt8)) (d6 d7:Int):Option (List (List UInt8 × List Int) × List Int × List (List Int)):=rb 203 (d1,d2,d3,d4,d5,d6,d7)
def k204 (rb:T.RB) (d1:List Int) (d2:List (List Int)) (d3:Int) (d4:List Int) (d5 d6:Int):Option (List Int × List (List Int)):=rb 204 (d1,d2,d3,d4,d5,d6)
def k205 (rb:T.RB) (d1 d2 d3:List Int) (d4:List (List Int)):Option (List Int × List Int × List Int):=rb 205 (d1,d2,d3,d4)
def k206 (rb:T.RB) (d1 d2 d3:List Int) (d4 d5:Int):Option (List Int × List Int):=rb 206 (d1,d2,d3,d4,d5)
def k244 (rb:T.RB) (d1:Int) (d2:Bool) (d3:Int) (d4:List Unit) (d5:List (List UInt8 × Int)) (d6:List Int) (d7:List XS) (d8 d9:Int):Option ((Int × Bool × Int × List Unit × List (List UInt8 × Int) × List Int) ⊕ (Int × Bool × Int × List Unit × List (List UInt8 × Int) × List Int)):=rb 244 (d1,d2,d3,d4,d5,d6,d7,d8,d9)
def k245 (rb:T.RB) (d1:Int) (d2:List (List UInt8 × XL)) (d3:List Int) (d4:Bool) (d5:Int) (d6:List Unit) (d7:List (List UInt8 × Int)) (d8:List Int) (d9:List XS) (d10 d11:Int):Option ((Int × Bool × Int × List (List UInt8 × Int) × List Int × List Unit) ⊕ (Int × Bool × Int × List (List UInt8 × Int) × List Int × List (List UInt8 × XL) × List Int × List Unit)):=rb 245 (d1,d2,d3,d4,d5,d6,d7,d8,d9,d10,d11)
def k246 (rb:T.RB) (d1:Int) (d2:List (List UInt8 × XL)) (d3:List Int) (d4:XS) (d5:Bool) (d6:Int) (d7:List UInt8) (d8:Int) (d9:XL) (d10:List Int) (d11:List Unit) (d12:List (List UInt8 × Int)) (d13:List Int) (d14:List Bool) (d15:List Int) (d16:List Unit) (d17:Int):Option ((Int × List (List UInt8 × XL) × List Int × XS × Bool × Int × List UInt8 × Int × XL × List Int × List (List UInt8 × Int) × List Int × List Bool × List Int × List Unit × List Unit) ⊕ (Int × List (List UInt8 × XL) × List Int × XS × Bool × Int × List UInt8 × Int × XL × List Int × List (List UInt8 × Int) × List Int × List Bool × List Int × List Unit × List Unit) ⊕ (Int × XS × Bool × Int × List UInt8 × Int × XL × List Int × List (List UInt8 × Int) × List Int × List Bool × List Int × List Unit × List (List UInt8 × XL) × List Int × List Unit)):=rb 246 (d1,d2,d3,d4,d5,d6,d7,d8,d9,d10,d11,d12,d13,d14,d15,d16,d17)
def k247 (rb:T.RB) (d1:Int) (d2:List (List UInt8 × XL)) (d3:List Int) (d4:XS) (d5:Bool) (d6:Int) (d7:List UInt8) (d8:Int) (d9:XL) (d10:List Int) (d11:List Unit) (d12:List (List UInt8 × Int)) (d13:List Int) (d14:List Bool) (d15:List Int) (d16:List Unit) (d17:Int):Option ((Int × List (List UInt8 × XL) × List Int × XS × Bool × Int × List UInt8 × Int × XL × List Int × List Unit × List (List UInt8 × Int) × List Int × List Bool × List Int × List Unit) ⊕ (Int × List (List UInt8 × XL) × List Int × XS × Bool × Int × List UInt8 × Int × XL × List Int × List Unit × List (List UInt8 × Int) × List Int × List Bool × List Int × List Unit) ⊕ (Int × XS × Bool × Int × List UInt8 × Int × XL × List Int × List Unit × List (List UInt8 × Int) × List Int × List Bool × List Int × List Unit × List (List UInt8 × XL) × List Int)):=rb 247 (d1,d2,d3,d4,d5,d6,d7,d8,d9,d10,d11,d12,d13,d14,d15,d16,d17)
def k248 (rb:T.RB) (d1:Int) (d2:XL) (d3:Bool) (d4:Int) (d5:List UInt8) (d6:Int) (d7:XL) (d8:List Int) (d9:List Unit) (d10:List (List UInt8 × Int)) (d11:List Int) (d12:List Bool) (d13:List Int) (d14:List Unit) (d15:Int) (d16:XN):Option ((Int × XL × Bool × Int × List UInt8 × Int × XL × List Int × List Unit × List (List UInt8 × Int) × List Int × List Bool × List Int × List Unit) ⊕ (Int × XL × Bool × Int × List UInt8 × Int × XL × List Int × List Unit × List (List UInt8 × Int) × List Int × List Bool × List Int × List Unit)):=rb 248 (d1,d2,d3,d4,d5,d6,d7,d8,d9,d10,d11,d12,d13,d14,d15,d16)
def k249 (rb:T.RB) (d1:Int) (d2:XN) (d3:Bool) (d4:Int) (d5:List UInt8) (d6:Int) (d7:XL) (d8:List Int) (d9:List Unit) (d10:List (List UInt8 × Int)) (d11:List Int) (d12:List Bool) (d13:List Int) (d14:List Unit) (d15:Int):Option ((Int × XN × Bool × Int × List UInt8 × Int × XL × List Int × List Unit × List (List UInt8 × Int) × List Int × List Bool × List Int × List Unit) ⊕ (Int × XN × Bool × Int × List UInt8 × Int × XL × List Int × List Unit × List (List UInt8 × Int) × List Int × List Bool × List Int × List Unit)):=rb 249 (d1,d2,d3,d4,d5,d6,d7,d8,d9,d10,d11,d12,d13,d14,d15)
def k250 (rb:T.RB) (d1:XN) (d2:List UInt8) (d3:Int) (d4:XL) (d5:List Int) (d6:List Bool) (d7:List Int) (d8:List Unit) (d9:Int):Option (XN × List UInt8 × Int × XL × List Int × List Bool × List Int × List Unit):=rb 250 (d1,d2,d3,d4,d5,d6,d7,d8,d9)
def k251 (rb:T.RB) (d1:XN) (d2:List Int) (d3:List UInt8) (d4:Int) (d5:XL) (d6:List Int) (d7:List Bool) (d8:List Int) (d9:List Unit) (d10 d11 d12:Int):Option (XN × List Int × List UInt8 × Int × XL × List Int × List Bool × List Int × List Unit):=rb 251 (d1,d2,d3,d4,d5,d6,d7,d8,d9,d10,d11,d12)
def k252 (rb:T.RB) (d1 d2:List Int) (d3:Bool) (d4:Int) (d5:List Unit) (d6:List (List UInt8 × Int)) (d7:List Int) (d8 d9:Int):Option (List Int × List Int × Bool × Int × List Unit × List (List UInt8 × Int) × List Int):=rb 252 (d1,d2,d3,d4,d5,d6,d7,d8,d9)
def k253 (rb:T.RB) (d1:List XS) (d2 d3:Int):Option (Int ⊕ Unit):=rb 253 (d1,d2,d3)
def k254 (rb:T.RB) (d1:XL) (d2 d3:Int):Option (Int ⊕ Unit):=rb 254 (d1,d2,d3)
def k362 (rb:T.RB) (d1:List XO) (d2 d3:List Int) (d4:List (List UInt8 × Int)) (d5:List (List Int)) (d6:List XS) (d7 d8:Int):Option (List Int × List (List UInt8 × Int) × List (List Int) × List XO × List Int):=rb 362 (d1,d2,d3,d4,d5,d6,d7,d8)
def k363 (rb:T.RB) (d1:List XL) (d2:List (List Int)) (d3:Int) (d4:List XS) (d5 d6:Int):Option (List XL × List (List Int)):=rb 363 (d1,d2,d3,d4,d5,d6)
def k364 (rb:T.RB) (d1:List XL) (d2:List (List Int)) (d3 d4:Int):Option (List XL × List (List Int) × Int):=rb 364 (d1,d2,d3,d4)
def k365 (rb:T.RB) (d1:List (List Int)) (d2 d3:Int) (d4:XL) (d5 d6:Int):Option (List (List Int) × Int):=rb 365 (d1,d2,d3,d4,d5,d6)
def k366 (rb:T.RB) (d1:XN) (d2:Int):Option (XN × Int):=rb 366 (d1,d2)
def k367 (rb:T.RB) (d1:List (List Int)) (d2:List XL) (d3:List XO) (d4 d5:List Int) (d6:List (List UInt8 × Int)) (d7 d8:Int):Option (List (List Int) × List XL × List Int × List (List UInt8 × Int) × List XO × List Int):=rb 367 (d1,d2,d3,d4,d5,d6,d7,d8)
def k368 (rb:T.RB) (d1:List XO) (d2 d3:List Int) (d4:List (List Int)) (d5:List XL) (d6:List (List UInt8 × Int)) (d7:Int) (d8:XL):Option (List Int × List Int × List (List Int) × List XL × List (List UInt8 × Int) × List XO):=rb 368 (d1,d2,d3,d4,d5,d6,d7,d8)
def k369 (rb:T.RB) (d1:List XO) (d2 d3:List Int) (d4:List (List Int)) (d5:List XL) (d6:List (List UInt8 × Int)) (d7:Int) (d8:XL) (d9 d10:Int):Option (List Int × List Int × List (List Int) × List XL × List (List UInt8 × Int) × List XO):=rb 369 (d1,d2,d3,d4,d5,d6,d7,d8,d9,d10)
def k370 (rb:T.RB) (d1:List Int) (d2:List (List Int)) (d3:XO) (d4:List XL) (d5:List (List UInt8 × Int)) (d6 d7 d8:Int):Option (List Int × List (List Int) × XO × List XL × List (List UInt8 × Int)):=rb 370 (d1,d2,d3,d4,d5,d6,d7,d8)
def k372 (rb:T.RB) (d1 d2 d3 d4:List Int) (d5 d6:List XO) (d7:Int):Option (List Int × List Int × List Int × List Int × List XO × List XO):=rb 372 (d1,d2,d3,d4,d5,d6,d7)
def k373 (rb:T.RB) (d1:XT) (d2:List XO) (d3 d4:Int):Option ((XT × Int) ⊕ XT):=rb 373 (d1,d2,d3,d4)
def k374 (rb:T.RB) (d1:XT) (d2:List Int) (d3 d4:Int):Option ((XT × Bool) ⊕ XT):=rb 374 (d1,d2,d3,d4)
def k375 (rb:T.RB) (d1:List Int) (d2 d3:Int):Option (Int ⊕ Unit):=rb 375 (d1,d2,d3)
def k376 (rb:T.RB) (d1:XT) (d2:List Int) (d3 d4:Int):Option ((XT × Int) ⊕ XT):=rb 376 (d1,d2,d3,d4)
def k382 (rb:T.RB) (d1:XT) (d2:List Int) (d3 d4:Int):Option ((XT × List Int × Bool) ⊕ (XT × List Int)):=rb 382 (d1,d2,d3,d4)
def k383 (rb:T.RB) (d1:XT) (d2 d3:List Int):Option ((XT × List Int × Bool) ⊕ (XT × List Int)):=rb 383 (d1,d2,d3)
def k384 (rb:T.RB) (d1 d2 d3:List Int) (d4 d5:Int):Option ((List Int × Bool) ⊕ (List Int × List Int)):=rb 384 (d1,d2,d3,d4,d5)
def k386 (rb:T.RB) (d1:XT) (d2 d3:List Int) (d4:List XO) (d5:Int):Option (XT × List Int × List Int × List XO):=rb 386 (d1,d2,d3,d4,d5)
def k387 (rb:T.RB) (d1 d2:List Int) (d3:Int):Option (Bool ⊕ Unit):=rb 387 (d1,d2,d3)
def k388 (rb:T.RB) (d1 d2:XT) (d3:Int):Option ((XT × XT × Bool) ⊕ (XT × XT)):=rb 388 (d1,d2,d3)
def k390 (rb:T.RB) (d1:List XS) (d2:List UInt8) (d3:Int):Option (Int ⊕ Unit):=rb 390 (d1,d2,d3)
def k391 (rb:T.RB) (d1:List Int) (d2:XL) (d3:Int):Option ((List Int × Bool) ⊕ (List Int)):=rb 391 (d1,d2,d3)
def k392 (rb:T.RB) (d1 d2:List Int) (d3 d4:Int):Option ((List Int × List Int × Bool) ⊕ (List Int × List Int)):=rb 392 (d1,d2,d3,d4)
def k393 (rb:T.RB) (d1:XN) (d2:List Int) (d3:XL) (d4:Int):Option ((XN × List Int × Bool) ⊕ (XN × List Int)):=rb 393 (d1,d2,d3,d4)
def k394 (rb:T.RB) (d1:List Int) (d2:XL) (d3:Int):Option ((List Int × Bool) ⊕ (List Int)):=rb 394 (d1,d2,d3)
def k395 (rb:T.RB) (d1:List XS) (d2:XL) (d3:Int):Option (Bool ⊕ Unit):=rb 395 (d1,d2,d3)
def k397 (rb:T.RB) (d1:List (List UInt8 × XL)) (d2:List XS) (d3:Int):Option (Int ⊕ (List (List UInt8 × XL))):=rb 397 (d1,d2,d3)
def k400 (rb:T.RB) (d1:XL) (d2 d3:List Int) (d4:XL) (d5:Int):Option (List Int × XL × List Int):=rb 400 (d1,d2,d3,d4,d5)
def k405 (rb:T.RB) (d1:List Bool) (d2:XL) (d3:Int):Option (List Bool):=rb 405 (d1,d2,d3)
def k406 (rb:T.RB) (d1:List Bool) (d2:List Int) (d3:XL) (d4 d5:Int):Option (List Bool × List Int):=rb 406 (d1,d2,d3,d4,d5)
def k408 (rb:T.RB) (d1:List (List UInt8)) (d2:List UInt8) (d3:Int):Option ((List (List UInt8) × Bool) ⊕ (List (List UInt8))):=rb 408 (d1,d2,d3)
def k409 (rb:T.RB) (d1:List Bool) (d2:List (List UInt8)) (d3:XL) (d4:Int):Option (List Bool × List (List UInt8)):=rb 409 (d1,d2,d3,d4)
def k413 (rb:T.RB) (d1:List Bool) (d2:List (List UInt8 × XL)) (d3:List (List UInt8)) (d4:Int):Option ((List Bool × Bool) ⊕ (List Bool)):=rb 413 (d1,d2,d3,d4)
def k414 (rb:T.RB) (d1:List (List UInt8)) (d2:List UInt8) (d3:Int):Option (Bool ⊕ Unit):=rb 414 (d1,d2,d3)
def k415 (rb:T.RB) (d1:List (List (List UInt8))) (d2:List (List UInt8 × XL)) (d3:Int):Option (List (List (List UInt8))):=rb 415 (d1,d2,d3)
def k416 (rb:T.RB) (d1:List (List (List UInt8))) (d2:List Bool) (d3:List Int) (d4:List (List UInt8 × XL)):Option ((List (List (List UInt8)) × List Bool × List Int × Int) ⊕ (List (List (List UInt8)) × List Bool × List Int)):=rb 416 (d1,d2,d3,d4)
def k417 (rb:T.RB) (d1:List (List (List UInt8))) (d2:List Bool) (d3:List (List UInt8 × XL)) (d4 d5:Int):Option (List (List (List UInt8)) × List Bool × Int):=rb 417 (d1,d2,d3,d4,d5)
def k419 (rb:T.RB) (d1:XL) (d2:Int):Option (Bool ⊕ Unit):=rb 419 (d1,d2)
def k432 (rb:T.RB) (d1:List (List Int)) (d2:List XS) (d3 d4 d5:Int):Option (List (List Int)):=rb 432 (d1,d2,d3,d4,d5)
def k433 (rb:T.RB) (d1:XL) (d2:List Int) (d3 d4:Int):Option (XL × List Int × Int):=rb 433 (d1,d2,d3,d4)
def k451 (rb:T.RB) (d1:XO) (d2:List Int) (d3:List XS) (d4:List (List Int)) (d5:XL) (d6 d7:Int):Option (XO × List Int):=rb 451 (d1,d2,d3,d4,d5,d6,d7)
def k477 (rb:T.RB) (d1:List XO) (d2 d3:List Int) (d4:List XS) (d5:Int):Option ((List XO × List Int × List Int × List XO × List Int × List Int × Int) ⊕ XT):=rb 477 (d1,d2,d3,d4,d5)
def k478 (rb:T.RB) (d1:List XO) (d2 d3:List Int) (d4:List XS) (d5:Int):Option (List Int × List XO × List Int):=rb 478 (d1,d2,d3,d4,d5)
def k479 (rb:T.RB) (d1:List XO) (d2 d3:List Int) (d4:List XS) (d5:List (List Int)) (d6:Int):Option (List Int × List XO × List Int):=rb 479 (d1,d2,d3,d4,d5,d6)
def k480 (rb:T.RB) (d1:List XO) (d2 d3:List Int) (d4:List XS) (d5:List (List Int)) (d6:Int):Option (List Int × List Int × List XO):=rb 480 (d1,d2,d3,d4,d5,d6)
def k481 (rb:T.RB) (d1:List XO) (d2 d3:List Int) (d4:List XS) (d5:List (List Int)) (d6:Int) (d7:XL) (d8:Int):Option (List Int × List Int × List XO):=rb 481 (d1,d2,d3,d4,d5,d6,d7,d8)
def k483 (rb:T.RB) (d1:XT) (d2 d3:List Int) (d4:List XO) (d5:Int):Option (XT × List Int × List Int × List XO):=rb 483 (d1,d2,d3,d4,d5)
def k484 (rb:T.RB) (d1:XT) (d2:Int):Option ((XT × Bool) ⊕ XT):=rb 484 (d1,d2)
def k485 (rb:T.RB) (d1:XT) (d2:Int):Option ((XT × Bool) ⊕ XT):=rb 485 (d1,d2)
def k489 (rb:T.RB) (d1:XT) (d2:List Bool) (d3:List Int):Option (XT × List Bool × List Int):=rb 489 (d1,d2,d3)
def k490 (rb:T.RB) (d1:XT) (d2:List Bool) (d3 d4:Int):Option (XT × List Bool × Int):=rb 490 (d1,d2,d3,d4)
def k491 (rb:T.RB) (d1:List Bool) (d2:List Int) (d3:Bool) (d4:Int):Option (List Bool × List Int × Bool):=rb 491 (d1,d2,d3,d4)
def k492 (rb:T.RB) (d1:List XS) (d2 d3:Int):Option Int:=rb 492 (d1,d2,d3)
def k493 (rb:T.RB) (d1:List XS) (d2 d3 d4:Int):Option Int:=rb 493 (d1,d2,d3,d4)
def k494 (rb:T.RB) (d1:XT) (d2:Int):Option ((XT × Bool) ⊕ XT):=rb 494 (d1,d2)
def b0 (rf:T.RF) (rb:T.RB) (d1:List XS) (d2:Int):Option (Bool ⊕ Unit) :=
 bif decide (d2 < (d1.length:Int)) then
  bif inb d2 d1.length then
   (nth d1 d2.toNat).bind fun x1 =>
   bif decide ((x1.2.2.length:Int) > 100) then
   some (.inl false)
   else
   bif inb d2 d1.length then
   (nth d1 d2.toNat).bind fun x2 =>
   bif decide ((x2.1.length:Int) > 100) then
   some (.inl false)
   else
   k0 rb d1 (IntKind.i64.wrap (d2 + 1))
   else
   none
  else
   none
 else
  some (.inr ())
theorem eb0:EqB 0 (W2 b0):=fun _ _ _ => by kernel_rfl
theorem ob0:IB2 b0 k0:=fun h => eb0.o h
def b1 (rf:T.RF) (rb:T.RB) (d1:List (List Int)) (d2:Int):Option (Bool ⊕ Unit) :=
 bif decide (d2 < (d1.length:Int)) then
  bif inb d2 d1.length then
   (nth d1 d2.toNat).bind fun x1 =>
   bif decide ((x1.length:Int) > 60) then
   some (.inl false)
   else
   k1 rb d1 (IntKind.i64.wrap (d2 + 1))
  else
   none
 else
  some (.inr ())
theorem eb1:EqB 1 (W2 b1):=fun _ _ _ => by kernel_rfl
theorem ob1:IB2 b1 k1:=fun h => eb1.o h
def r1 (rf:T.RF) (rb:T.RB) (d1:List XS) (d2:List (List Int)):Option Bool :=
 bif decide ((d1.length:Int) > 60) then
  some false
 else
 bif decide ((d2.length:Int) > 20) then
  some false
 else
  (k0 rb d1 0).bind fun z1 =>
  match z1 with
  | .inl u2 =>
    some u2
  | .inr w3 =>
    (k1 rb d2 0).bind fun z4 =>
    match z4 with
    | .inl u5 =>
      some u5
    | .inr w6 =>
      some true
theorem er1:EqF 1 (W2 r1):=fun _ _ _ => by kernel_rfl
theorem or1:IF2 r1 c1:=fun h => er1.o h
def r6 (rf:T.RF) (rb:T.RB) (d1:Int):Option Bool :=
 bif decide (d1 ≥ 48) then
  some (decide (d1 ≤ 57))
 else
  some false
theorem er6:EqF 6 fun a b => r6 a b:=fun _ _ _ => by kernel_rfl
def b5 (rf:T.RF) (rb:T.RB) (d1:List UInt8) (d2 d3:Int):Option Int :=
 bif decide (d3 < (d1.length:Int)) then
  bif decide (d2 ≤ 2147483647) then
   bif inb d3 d1.length then
   (nth d1 d3.toNat).bind fun b1 =>
   k5 rb d1 (IntKind.i64.wrap ((IntKind.i64.wrap (10 * d2)) + (IntKind.i64.wrap (IntKind.u8.wrap ((((b1.toNat:Nat):Int)) - 48))))) (IntKind.i64.wrap (d3 + 1))
   else
   none
  else
   some d2
 else
  some d2
theorem eb5:EqB 5 (W3 b5):=fun _ _ _ => by kernel_rfl
def r7 (rf:T.RF) (rb:T.RB) (d1:List UInt8):Option Int :=
 (k5 rb d1 0 0).bind fun z1 =>
 some z1
theorem er7:EqF 7 fun a b => r7 a b:=fun _ _ _ => by kernel_rfl
def r8 (rf:T.RF) (rb:T.RB) (d1:Int):Option Bool :=
 bif decide (d1 ≥ 97) then
  bif decide (d1 ≤ 122) then
   some true
  else
   some (d1 == 95)
 else
  some (d1 == 95)
theorem er8:EqF 8 fun a b => r8 a b:=fun _ _ _ => by kernel_rfl
def r11 (rf:T.RF) (rb:T.RB):Option (List (List UInt8)) :=
 some [([97,110,100]:List UInt8),([97,115,115,117,109,101]:List UInt8),([98,111,111,108]:List UInt8),([99,111,110,116,114,97,99,116]:List UInt8),([100,105,118]:List UInt8),([101,108,115,101]:List UInt8),([101,110,100]:List UInt8),([101,110,115,117,114,101]:List UInt8),([102,97,108,108,98,97,99,107]:List UInt8),([102,97,108,115,101]:List UInt8),([103,104,111,115,116]:List UInt8),([103,117,97,114,97,110,116,101,101]:List UInt8),([104,105,115,116]:List UInt8),([105,102]:List UInt8),([105,109,112,111,114,116]:List UInt8),([105,110,116]:List UInt8),([108,101,116]:List UInt8),([109,97,105,110]:List UInt8),([109,111,100]:List UInt8),([109,111,100,101]:List UInt8),([110,111,100,101]:List UInt8),([110,111,116]:List UInt8),([111,110,99,101]:List UInt8),([111,114]:List UInt8),([112,114,101]:List UInt8),([112,114,101,118]:List UInt8),([114,101,113,117,105,114,101]:List UInt8),([114,101,116,117,114,110,115]:List UInt8),([115,105,110,99,101]:List UInt8),([116,101,108]:List UInt8),([116,104,101,110]:List UInt8),([116,114,117,101]:List UInt8),([118,97,114]:List UInt8),([119,105,116,104,105,110]:List UInt8),([120,111,114]:List UInt8)]
theorem er11:EqF 11 (W0 r11):=fun _ _ _ => by kernel_rfl
def b7 (rf:T.RF) (rb:T.RB) (d1:List (List UInt8)) (d2:List UInt8) (d3:Int):Option ((List (List UInt8) × Bool) ⊕ (List (List UInt8))) :=
 bif decide (d3 < (d1.length:Int)) then
  bif inb d3 d1.length then
   (nth d1 d3.toNat).bind fun x1 =>
   bif x1 == d2 then
   some (.inl (d1,true))
   else
   k7 rb d1 d2 (IntKind.i64.wrap (d3 + 1))
  else
   none
 else
  some (.inr d1)
theorem eb7:EqB 7 (W3 b7):=fun _ _ _ => by kernel_rfl
def r10 (rf:T.RF) (rb:T.RB) (d1:List UInt8):Option Bool :=
 (c11 rf).bind fun y1 =>
 (k7 rb y1 d1 0).bind fun z2 =>
 match z2 with
 | .inl u3 =>
   some u3.2
 | .inr w4 =>
   some false
theorem er10:EqF 10 fun a b => r10 a b:=fun _ _ _ => by kernel_rfl
def b8 (rf:T.RF) (rb:T.RB) (d1:List UInt8) (d2:Int):Option (Bool ⊕ Unit) :=
 bif decide (d2 < (d1.length:Int)) then
  bif inb d2 d1.length then
   (nth d1 d2.toNat).bind fun b1 =>
   (c8 rf (((b1.toNat:Nat):Int))).bind fun y2 =>
   bif !y2 then
   bif inb d2 d1.length then
   (nth d1 d2.toNat).bind fun b3 =>
   (c6 rf (((b3.toNat:Nat):Int))).bind fun y4 =>
   bif !y4 then
   some (.inl false)
   else
   k8 rb d1 (IntKind.i64.wrap (d2 + 1))
   else
   none
   else
   k8 rb d1 (IntKind.i64.wrap (d2 + 1))
  else
   none
 else
  some (.inr ())
theorem eb8:EqB 8 (W2 b8):=fun _ _ _ => by kernel_rfl
def r12 (rf:T.RF) (rb:T.RB) (d1:List UInt8):Option Bool :=
 bif d1 == ([]:List UInt8) then
  some false
 else
 bif decide ((d1.length:Int) > 40) then
  some false
 else
 bif inb 0 d1.length then
  (nth d1 0).bind fun b1 =>
  (c8 rf (((b1.toNat:Nat):Int))).bind fun y2 =>
  bif !y2 then
   some false
  else
   (c10 rf d1).bind fun y3 =>
   bif y3 then
    some false
   else
    (k8 rb d1 0).bind fun z4 =>
    match z4 with
    | .inl u5 =>
      some u5
    | .inr w6 =>
      some true
 else
  none
theorem er12:EqF 12 fun a b => r12 a b:=fun _ _ _ => by kernel_rfl
def r9 (rf:T.RF) (rb:T.RB) (d1:List UInt8) (d2:Int):Option ((Int × List UInt8 × Int) × Int) :=
 (c10 rf d1).bind fun y1 =>
 bif y1 then
  some ((3,d1,d2),0)
 else
  (c12 rf d1).bind fun y2 =>
  bif !y2 then
   some ((0,([]:List UInt8),0),5)
  else
   some ((1,d1,d2),0)
theorem er9:EqF 9 (W2 r9):=fun _ _ _ => by kernel_rfl
def r14 (rf:T.RF) (rb:T.RB):Option (List (List UInt8)) :=
 some [([45,62]:List UInt8),([61,62]:List UInt8),([60,61]:List UInt8),([62,61]:List UInt8),([60,62]:List UInt8),([61]:List UInt8),([60]:List UInt8),([62]:List UInt8),([43]:List UInt8),([45]:List UInt8),([42]:List UInt8),([40]:List UInt8),([41]:List UInt8),([44]:List UInt8),([59]:List UInt8),([58]:List UInt8)]
theorem er14:EqF 14 (W0 r14):=fun _ _ _ => by kernel_rfl
def b9 (rf:T.RF) (rb:T.RB) (d1:List (List UInt8)) (d2:List UInt8) (d3:Int):Option ((List (List UInt8) × List UInt8) ⊕ (List (List UInt8))) :=
 bif decide (d3 < (d1.length:Int)) then
  bif inb d3 d1.length then
   (nth d1 d3.toNat).bind fun x1 =>
   bif decide ((d2.length:Int) ≥ (x1.length:Int)) then
   bif inb d3 d1.length then
   (nth d1 d3.toNat).bind fun x2 =>
   bif inb' (x2.length:Int) d2.length then
   bif inb d3 d1.length then
   (nth d1 d3.toNat).bind fun x3 =>
   bif (sub d2 (some (0,(x2.length - 0)))) == x3 then
   bif inb d3 d1.length then
   (nth d1 d3.toNat).bind fun x4 =>
   some (.inl (d1,x4))
   else
   none
   else
   k9 rb d1 d2 (IntKind.i64.wrap (d3 + 1))
   else
   none
   else
   none
   else
   none
   else
   k9 rb d1 d2 (IntKind.i64.wrap (d3 + 1))
  else
   none
 else
  some (.inr d1)
theorem eb9:EqB 9 (W3 b9):=fun _ _ _ => by kernel_rfl
def r13 (rf:T.RF) (rb:T.RB) (d1:List UInt8):Option (List UInt8) :=
 (c14 rf).bind fun y1 =>
 (k9 rb y1 d1 0).bind fun z2 =>
 match z2 with
 | .inl u3 =>
   some u3.2
 | .inr w4 =>
   some ([]:List UInt8)
theorem er13:EqF 13 fun a b => r13 a b:=fun _ _ _ => by kernel_rfl
def b4 (rf:T.RF) (rb:T.RB) (d1:List UInt8) (d2:Int):Option Int :=
 bif decide (d2 < (d1.length:Int)) then
  bif inb d2 d1.length then
   (nth d1 d2.toNat).bind fun b1 =>
   (c6 rf (((b1.toNat:Nat):Int))).bind fun y2 =>
   bif y2 then
   k4 rb d1 (IntKind.i64.wrap (d2 + 1))
   else
   some d2
  else
   none
 else
  some d2
theorem eb4:EqB 4 (W2 b4):=fun _ _ _ => by kernel_rfl
def b6 (rf:T.RF) (rb:T.RB) (d1:List UInt8) (d2:Int):Option Int :=
 bif decide (d2 < (d1.length:Int)) then
  bif inb d2 d1.length then
   (nth d1 d2.toNat).bind fun b1 =>
   (c8 rf (((b1.toNat:Nat):Int))).bind fun y2 =>
   bif y2 then
   k6 rb d1 (IntKind.i64.wrap (d2 + 1))
   else
   bif inb d2 d1.length then
   (nth d1 d2.toNat).bind fun b3 =>
   (c6 rf (((b3.toNat:Nat):Int))).bind fun y4 =>
   bif y4 then
   k6 rb d1 (IntKind.i64.wrap (d2 + 1))
   else
   some d2
   else
   none
  else
   none
 else
  some d2
theorem eb6:EqB 6 (W2 b6):=fun _ _ _ => by kernel_rfl
def r5 (rf:T.RF) (rb:T.RB) (d1:List UInt8) (d2:Int):Option ((Int × List UInt8 × Int) × Int) :=
 bif inb 0 d1.length then
  (nth d1 0).bind fun b1 =>
  (c6 rf (((b1.toNat:Nat):Int))).bind fun y2 =>
  bif y2 then
   (k4 rb d1 0).bind fun z3 =>
   bif decide (z3 > 1) then
   bif inb 0 d1.length then
   (nth d1 0).bind fun b4 =>
   bif (((b4.toNat:Nat):Int)) == 48 then
   some ((0,([]:List UInt8),0),2)
   else
   bif inb' z3 d1.length then
   (c7 rf (sub d1 (some (0,(z3.toNat - 0))))).bind fun y5 =>
   bif decide (y5 > 2147483647) then
   some ((0,([]:List UInt8),0),2)
   else
   bif inb' z3 d1.length then
   some ((2,sub d1 (some (0,(z3.toNat - 0))),d2),0)
   else
   none
   else
   none
   else
   none
   else
   bif inb' z3 d1.length then
   (c7 rf (sub d1 (some (0,(z3.toNat - 0))))).bind fun y6 =>
   bif decide (y6 > 2147483647) then
   some ((0,([]:List UInt8),0),2)
   else
   bif inb' z3 d1.length then
   some ((2,sub d1 (some (0,(z3.toNat - 0))),d2),0)
   else
   none
   else
   none
  else
  bif inb 0 d1.length then
   (nth d1 0).bind fun b7 =>
   (c8 rf (((b7.toNat:Nat):Int))).bind fun y8 =>
   bif y8 then
   (k6 rb d1 0).bind fun z9 =>
   bif inb' z9 d1.length then
   (c9 rf (sub d1 (some (0,(z9.toNat - 0)))) d2).bind fun y10 =>
   some y10
   else
   none
   else
   (c13 rf d1).bind fun y11 =>
   bif y11 == ([]:List UInt8) then
   some ((0,([]:List UInt8),0),5)
   else
   some ((4,y11,d2),0)
  else
   none
 else
  none
theorem er5:EqF 5 (W2 r5):=fun _ _ _ => by kernel_rfl
def b10 (rf:T.RF) (rb:T.RB) (d1:Int × Int) (d2:List (Int × List UInt8 × Int)) (d3:List UInt8) (d4:Int):Option (((Int × Int) × List (Int × List UInt8 × Int)) ⊕ ((Int × Int) × List (Int × List UInt8 × Int))) :=
 bif decide (d4 < (d3.length:Int)) then
  bif inb d4 d3.length then
   (nth d3 d4.toNat).bind fun b1 =>
   bif (((b1.toNat:Nat):Int)) == 32 then
   k10 rb d1 d2 d3 (IntKind.i64.wrap (d4 + 1))
   else
   bif inb d4 d3.length then
   (nth d3 d4.toNat).bind fun b2 =>
   bif (((b2.toNat:Nat):Int)) == 9 then
   k10 rb d1 d2 d3 (IntKind.i64.wrap (d4 + 1))
   else
   bif inb d4 d3.length then
   (nth d3 d4.toNat).bind fun b3 =>
   bif (((b3.toNat:Nat):Int)) == 10 then
   k10 rb d1 d2 d3 (IntKind.i64.wrap (d4 + 1))
   else
   bif inb d4 d3.length then
   (nth d3 d4.toNat).bind fun b4 =>
   bif (((b4.toNat:Nat):Int)) == 13 then
   k10 rb d1 d2 d3 (IntKind.i64.wrap (d4 + 1))
   else
   bif decide ((IntKind.i64.wrap (d4 + 1)) < (d3.length:Int)) then
   bif inb d4 d3.length then
   (nth d3 d4.toNat).bind fun b5 =>
   bif (((b5.toNat:Nat):Int)) == 45 then
   bif inb (IntKind.i64.wrap (d4 + 1)) d3.length then
   (nth d3 (IntKind.i64.wrap (d4 + 1)).toNat).bind fun b6 =>
   bif (((b6.toNat:Nat):Int)) == 45 then
   (k11 rb d3 d4).bind fun z7 =>
   k10 rb d1 d2 d3 z7
   else
   bif inb' d4 d3.length then
   (c5 rf (sub d3 (some (d4.toNat,(d3.length - d4.toNat)))) d4).bind fun y8 =>
   bif y8.2 != 0 then
   some (.inl ((y8.2,d4),[]))
   else
   bif (Nat.ble (d2.length + 1) most) && true then
   k10 rb d1 (d2 ++ [y8.1]) d3 (IntKind.i64.wrap (d4 + (y8.1.2.1.length:Int)))
   else
   none
   else
   none
   else
   none
   else
   bif inb' d4 d3.length then
   (c5 rf (sub d3 (some (d4.toNat,(d3.length - d4.toNat)))) d4).bind fun y9 =>
   bif y9.2 != 0 then
   some (.inl ((y9.2,d4),[]))
   else
   bif (Nat.ble (d2.length + 1) most) && true then
   k10 rb d1 (d2 ++ [y9.1]) d3 (IntKind.i64.wrap (d4 + (y9.1.2.1.length:Int)))
   else
   none
   else
   none
   else
   none
   else
   bif inb' d4 d3.length then
   (c5 rf (sub d3 (some (d4.toNat,(d3.length - d4.toNat)))) d4).bind fun y10 =>
   bif y10.2 != 0 then
   some (.inl ((y10.2,d4),[]))
   else
   bif (Nat.ble (d2.length + 1) most) && true then
   k10 rb d1 (d2 ++ [y10.1]) d3 (IntKind.i64.wrap (d4 + (y10.1.2.1.length:Int)))
   else
   none
   else
   none
   else
   none
   else
   none
   else
   none
  else
   none
 else
  some (.inr (d1,d2))
theorem eb10:EqB 10 (W4 b10):=fun _ _ _ => by kernel_rfl
def b11 (rf:T.RF) (rb:T.RB) (d1:List UInt8) (d2:Int):Option Int :=
 bif decide (d2 < (d1.length:Int)) then
  bif inb d2 d1.length then
   (nth d1 d2.toNat).bind fun b1 =>
   bif (((b1.toNat:Nat):Int)) != 10 then
   k11 rb d1 (IntKind.i64.wrap (d2 + 1))
   else
   some d2
  else
   none
 else
  some d2
theorem eb11:EqB 11 (W2 b11):=fun _ _ _ => by kernel_rfl
def r4 (rf:T.RF) (rb:T.RB) (d1:List UInt8):Option (List (Int × List UInt8 × Int) × Int × Int) :=
 bif decide ((d1.length:Int) > 100000) then
  some ([],7,(-1))
 else
  (k10 rb (0,0) [] d1 0).bind fun z1 =>
  match z1 with
  | .inl u2 =>
    some (u2.2,u2.1)
  | .inr w3 =>
    some (w3.2,0,0)
theorem er4:EqF 4 fun a b => r4 a b:=fun _ _ _ => by kernel_rfl
def r26 (rf:T.RF) (rb:T.RB) (d1:List (Int × List UInt8 × Int)) (d2:Int):Option Int :=
 bif decide (d2 < 0) then
  some (-1)
 else
 bif decide (d2 ≥ (d1.length:Int)) then
  some (-1)
 else
 bif inb d2 d1.length then
  (nth d1 d2.toNat).bind fun x1 =>
  some x1.2.2
 else
  none
theorem er26:EqF 26 (W2 r26):=fun _ _ _ => by kernel_rfl
def r25q (rf:T.RF) (rb:T.RB) (d1:XR) (d2:Int):Option (XR × XL) :=
 bif d1.2.2.2.1 == 0 then
  agN 1 (
   (c26 rf d1.1 d1.2.1).bind fun y1 =>
   some ((d1.1,d1.2.1,d1.2.2.1,d2,y1),[])
  )
 else
  some (d1,[])
def r25 (rf:T.RF) (rb:T.RB) (d1:XR) (d2:Int):Option (XR × XL) :=
 bif d1.2.2.2.1 == 0 then
  (c26 rf d1.1 d1.2.1).bind fun y1 =>
  some ((d1.1,d1.2.1,d1.2.2.1,d2,y1),[])
 else
  some (d1,[])
theorem er25:EqF 25 (W2 r25q):=fun _ _ _ => by kernel_rfl
theorem sr25 (rf rb d1 d2):r25q rf rb d1 d2 = r25 rf rb d1 d2:=by
 unfold r25q r25; simp only [agN_eq,agree_self,agree_swap]
def r29 (rf:T.RF) (rb:T.RB) (d1 d2:Int) (d3:List UInt8):Option XN :=
 some (d1,(-1),(-1),(-1),d2,d3)
theorem er29:EqF 29 (W3 r29):=fun _ _ _ => by kernel_rfl
def r30 (rf:T.RF) (rb:T.RB) (d1:XN):Option (List Int) :=
 bif d1.1 == 4 then
  bif d1.1 == 4 then
   some [d1.2.1]
  else
  bif d1.1 == 26 then
   some [d1.2.1,d1.2.2.1,d1.2.2.2.1]
  else
  bif d1.1 == 27 then
   bif d1.2.1 != (-1) then
   some [d1.2.1]
   else
   some []
  else
  bif d1.1 == 28 then
   bif d1.2.2.1 != (-1) then
   some [d1.2.2.1,d1.2.1]
   else
   some [d1.2.1]
  else
  bif decide (d1.1 ≥ 6) then
   bif decide (d1.1 ≤ 20) then
   some [d1.2.1,d1.2.2.1]
   else
   some []
  else
   some []
 else
 bif d1.1 == 5 then
  bif d1.1 == 5 then
   some [d1.2.1]
  else
  bif d1.1 == 26 then
   some [d1.2.1,d1.2.2.1,d1.2.2.2.1]
  else
  bif d1.1 == 27 then
   bif d1.2.1 != (-1) then
   some [d1.2.1]
   else
   some []
  else
  bif d1.1 == 28 then
   bif d1.2.2.1 != (-1) then
   some [d1.2.2.1,d1.2.1]
   else
   some [d1.2.1]
  else
  bif decide (d1.1 ≥ 6) then
   bif decide (d1.1 ≤ 20) then
   some [d1.2.1,d1.2.2.1]
   else
   some []
  else
   some []
 else
 bif d1.1 == 21 then
  bif d1.1 == 21 then
   some [d1.2.1]
  else
  bif d1.1 == 26 then
   some [d1.2.1,d1.2.2.1,d1.2.2.2.1]
  else
  bif d1.1 == 27 then
   bif d1.2.1 != (-1) then
   some [d1.2.1]
   else
   some []
  else
  bif d1.1 == 28 then
   bif d1.2.2.1 != (-1) then
   some [d1.2.2.1,d1.2.1]
   else
   some [d1.2.1]
  else
  bif decide (d1.1 ≥ 6) then
   bif decide (d1.1 ≤ 20) then
   some [d1.2.1,d1.2.2.1]
   else
   some []
  else
   some []
 else
 bif d1.1 == 22 then
  bif d1.1 == 22 then
   some [d1.2.1]
  else
  bif d1.1 == 26 then
   some [d1.2.1,d1.2.2.1,d1.2.2.2.1]
  else
  bif d1.1 == 27 then
   bif d1.2.1 != (-1) then
   some [d1.2.1]
   else
   some []
  else
  bif d1.1 == 28 then
   bif d1.2.2.1 != (-1) then
   some [d1.2.2.1,d1.2.1]
   else
   some [d1.2.1]
  else
  bif decide (d1.1 ≥ 6) then
   bif decide (d1.1 ≤ 20) then
   some [d1.2.1,d1.2.2.1]
   else
   some []
  else
   some []
 else
 bif d1.1 == 23 then
  bif d1.1 == 23 then
   some [d1.2.1]
  else
  bif d1.1 == 26 then
   some [d1.2.1,d1.2.2.1,d1.2.2.2.1]
  else
  bif d1.1 == 27 then
   bif d1.2.1 != (-1) then
   some [d1.2.1]
   else
   some []
  else
  bif d1.1 == 28 then
   bif d1.2.2.1 != (-1) then
   some [d1.2.2.1,d1.2.1]
   else
   some [d1.2.1]
  else
  bif decide (d1.1 ≥ 6) then
   bif decide (d1.1 ≤ 20) then
   some [d1.2.1,d1.2.2.1]
   else
   some []
  else
   some []
 else
 bif d1.1 == 24 then
  bif d1.1 == 24 then
   some [d1.2.1]
  else
  bif d1.1 == 26 then
   some [d1.2.1,d1.2.2.1,d1.2.2.2.1]
  else
  bif d1.1 == 27 then
   bif d1.2.1 != (-1) then
   some [d1.2.1]
   else
   some []
  else
  bif d1.1 == 28 then
   bif d1.2.2.1 != (-1) then
   some [d1.2.2.1,d1.2.1]
   else
   some [d1.2.1]
  else
  bif decide (d1.1 ≥ 6) then
   bif decide (d1.1 ≤ 20) then
   some [d1.2.1,d1.2.2.1]
   else
   some []
  else
   some []
 else
 bif d1.1 == 25 then
  some [d1.2.1]
 else
 bif d1.1 == 26 then
  some [d1.2.1,d1.2.2.1,d1.2.2.2.1]
 else
 bif d1.1 == 27 then
  bif d1.2.1 != (-1) then
   some [d1.2.1]
  else
   some []
 else
 bif d1.1 == 28 then
  bif d1.2.2.1 != (-1) then
   some [d1.2.2.1,d1.2.1]
  else
   some [d1.2.1]
 else
 bif decide (d1.1 ≥ 6) then
  bif decide (d1.1 ≤ 20) then
   some [d1.2.1,d1.2.2.1]
  else
   some []
 else
  some []
theorem er30:EqF 30 fun a b => r30 a b:=fun _ _ _ => by kernel_rfl
theorem or30:IF1 r30 c30:=fun h => er30.o h
def r32 (rf:T.RF) (rb:T.RB) (d1:XN) (d2:Int):Option XN :=
 bif decide (d1.2.1 ≥ 0) then
  bif decide (d1.2.2.1 ≥ 0) then
   bif decide (d1.2.2.2.1 ≥ 0) then
   some (d1.1,IntKind.i64.wrap (d1.2.1 + d2),IntKind.i64.wrap (d1.2.2.1 + d2),IntKind.i64.wrap (d1.2.2.2.1 + d2),d1.2.2.2.2)
   else
   some (d1.1,IntKind.i64.wrap (d1.2.1 + d2),IntKind.i64.wrap (d1.2.2.1 + d2),d1.2.2.2)
  else
  bif decide (d1.2.2.2.1 ≥ 0) then
   some (d1.1,IntKind.i64.wrap (d1.2.1 + d2),d1.2.2.1,IntKind.i64.wrap (d1.2.2.2.1 + d2),d1.2.2.2.2)
  else
   some (d1.1,IntKind.i64.wrap (d1.2.1 + d2),d1.2.2)
 else
 bif decide (d1.2.2.1 ≥ 0) then
  bif decide (d1.2.2.2.1 ≥ 0) then
   some (d1.1,d1.2.1,IntKind.i64.wrap (d1.2.2.1 + d2),IntKind.i64.wrap (d1.2.2.2.1 + d2),d1.2.2.2.2)
  else
   some (d1.1,d1.2.1,IntKind.i64.wrap (d1.2.2.1 + d2),d1.2.2.2)
 else
 bif decide (d1.2.2.2.1 ≥ 0) then
  some (d1.1,d1.2.1,d1.2.2.1,IntKind.i64.wrap (d1.2.2.2.1 + d2),d1.2.2.2.2)
 else
  some d1
theorem er32:EqF 32 (W2 r32):=fun _ _ _ => by kernel_rfl
def b15 (rf:T.RF) (rb:T.RB) (d1 d2:XL) (d3 d4:Int):Option XL :=
 bif decide (d4 < (d2.length:Int)) then
  bif inb d4 d2.length then
   (nth d2 d4.toNat).bind fun x1 =>
   (c32 rf x1 d3).bind fun y2 =>
   bif (Nat.ble (d1.length + 1) most) && true then
   k15 rb (d1 ++ [y2]) d2 d3 (IntKind.i64.wrap (d4 + 1))
   else
   none
  else
   none
 else
  some d1
theorem eb15:EqB 15 (W4 b15):=fun _ _ _ => by kernel_rfl
def r31 (rf:T.RF) (rb:T.RB) (d1 d2:XL):Option XL :=
 (k15 rb d1 d2 (d1.length:Int) 0).bind fun z1 =>
 some z1
theorem er31:EqF 31 (W2 r31):=fun _ _ _ => by kernel_rfl
def r33 (rf:T.RF) (rb:T.RB) (d1:XN) (d2:List Int):Option XN :=
 bif d1.1 == 28 then
  bif (d2.length:Int) == 2 then
   bif inb 0 d2.length then
   (nth d2 0).bind fun x1 =>
   bif inb 1 d2.length then
   (nth d2 1).bind fun x2 =>
   some (d1.1,x2,x1,d1.2.2.2)
   else
   none
   else
   none
  else
  bif decide ((d2.length:Int) > 0) then
   bif inb 0 d2.length then
   (nth d2 0).bind fun x3 =>
   bif decide ((d2.length:Int) > 1) then
   bif inb 1 d2.length then
   (nth d2 1).bind fun x4 =>
   bif decide ((d2.length:Int) > 2) then
   bif inb 2 d2.length then
   (nth d2 2).bind fun x5 =>
   some (d1.1,x3,x4,x5,d1.2.2.2.2)
   else
   none
   else
   some (d1.1,x3,x4,d1.2.2.2)
   else
   none
   else
   bif decide ((d2.length:Int) > 2) then
   bif inb 2 d2.length then
   (nth d2 2).bind fun x6 =>
   some (d1.1,x3,d1.2.2.1,x6,d1.2.2.2.2)
   else
   none
   else
   some (d1.1,x3,d1.2.2)
   else
   none
  else
  bif decide ((d2.length:Int) > 1) then
   bif inb 1 d2.length then
   (nth d2 1).bind fun x7 =>
   bif decide ((d2.length:Int) > 2) then
   bif inb 2 d2.length then
   (nth d2 2).bind fun x8 =>
   some (d1.1,d1.2.1,x7,x8,d1.2.2.2.2)
   else
   none
   else
   some (d1.1,d1.2.1,x7,d1.2.2.2)
   else
   none
  else
  bif decide ((d2.length:Int) > 2) then
   bif inb 2 d2.length then
   (nth d2 2).bind fun x9 =>
   some (d1.1,d1.2.1,d1.2.2.1,x9,d1.2.2.2.2)
   else
   none
  else
   some d1
 else
 bif decide ((d2.length:Int) > 0) then
  bif inb 0 d2.length then
   (nth d2 0).bind fun x10 =>
   bif decide ((d2.length:Int) > 1) then
   bif inb 1 d2.length then
   (nth d2 1).bind fun x11 =>
   bif decide ((d2.length:Int) > 2) then
   bif inb 2 d2.length then
   (nth d2 2).bind fun x12 =>
   some (d1.1,x10,x11,x12,d1.2.2.2.2)
   else
   none
   else
   some (d1.1,x10,x11,d1.2.2.2)
   else
   none
   else
   bif decide ((d2.length:Int) > 2) then
   bif inb 2 d2.length then
   (nth d2 2).bind fun x13 =>
   some (d1.1,x10,d1.2.2.1,x13,d1.2.2.2.2)
   else
   none
   else
   some (d1.1,x10,d1.2.2)
  else
   none
 else
 bif decide ((d2.length:Int) > 1) then
  bif inb 1 d2.length then
   (nth d2 1).bind fun x14 =>
   bif decide ((d2.length:Int) > 2) then
   bif inb 2 d2.length then
   (nth d2 2).bind fun x15 =>
   some (d1.1,d1.2.1,x14,x15,d1.2.2.2.2)
   else
   none
   else
   some (d1.1,d1.2.1,x14,d1.2.2.2)
  else
   none
 else
 bif decide ((d2.length:Int) > 2) then
  bif inb 2 d2.length then
   (nth d2 2).bind fun x16 =>
   some (d1.1,d1.2.1,d1.2.2.1,x16,d1.2.2.2.2)
  else
   none
 else
  some d1
theorem er33:EqF 33 (W2 r33):=fun _ _ _ => by kernel_rfl
theorem or33:IF2 r33 c33:=fun h => er33.o h
def b16 (rf:T.RF) (rb:T.RB) (d1:XL) (d2:List Int) (d3:Int) (d4:List XL) (d5 d6:Int):Option (XL ⊕ (XL × List Int × Int)) :=
 bif decide (d6 < (d4.length:Int)) then
  bif inb d6 d4.length then
   (nth d4 d6.toNat).bind fun x1 =>
   bif (x1.length:Int) == 0 then
   some (.inl [])
   else
   bif inb d6 d4.length then
   (nth d4 d6.toNat).bind fun x2 =>
   (c31 rf d1 x2).bind fun y3 =>
   bif (Nat.ble (d2.length + 1) most) && true then
   bif d3 == 27 then
   (c29 rf 28 0 ([]:List UInt8)).bind fun y4 =>
   bif (Nat.ble (y3.length + 1) most) && true then
   k16 rb (y3 ++ [(y4.1,IntKind.i64.wrap ((y3.length:Int) - 1),d5,y4.2.2.2)]) (d2 ++ [IntKind.i64.wrap ((y3.length:Int) - 1)]) d3 d4 (y3.length:Int) (IntKind.i64.wrap (d6 + 1))
   else
   none
   else
   k16 rb y3 (d2 ++ [IntKind.i64.wrap ((y3.length:Int) - 1)]) d3 d4 d5 (IntKind.i64.wrap (d6 + 1))
   else
   none
   else
   none
  else
   none
 else
  some (.inr (d1,d2,d5))
theorem eb16:EqB 16 (W6 b16):=fun _ _ _ => by kernel_rfl
def r28 (rf:T.RF) (rb:T.RB) (d1 d2:Int) (d3:List UInt8) (d4:List XL):Option XL :=
 (c29 rf d1 d2 d3).bind fun y1 =>
 (c30 rf y1).bind fun y2 =>
 bif d1 == 28 then
  some []
 else
 bif d1 != 27 then
  bif (y2.length:Int) != (d4.length:Int) then
   some []
  else
   (k16 rb [] [] d1 d4 (-1) 0).bind fun z3 =>
   match z3 with
   | .inl u4 =>
     some u4
   | .inr w5 =>
     bif d1 == 27 then
      bif (Nat.ble (w5.1.length + 1) most) && true then
       some (w5.1 ++ [(y1.1,w5.2.2,y1.2.2)])
      else
       none
     else
      (c33 rf y1 w5.2.1).bind fun y6 =>
      bif (Nat.ble (w5.1.length + 1) most) && true then
       some (w5.1 ++ [y6])
      else
       none
 else
  (k16 rb [] [] d1 d4 (-1) 0).bind fun z7 =>
  match z7 with
  | .inl u8 =>
    some u8
  | .inr w9 =>
    bif d1 == 27 then
     bif (Nat.ble (w9.1.length + 1) most) && true then
      some (w9.1 ++ [(y1.1,w9.2.2,y1.2.2)])
     else
      none
    else
     (c33 rf y1 w9.2.1).bind fun y10 =>
     bif (Nat.ble (w9.1.length + 1) most) && true then
      some (w9.1 ++ [y10])
     else
      none
theorem er28:EqF 28 (W4 r28):=fun _ _ _ => by kernel_rfl
def r36 (rf:T.RF) (rb:T.RB) (d1:XR) (d2:List UInt8):Option (XR × Bool) :=
 bif d1.2.2.2.1 != 0 then
  some (d1,false)
 else
 bif decide (d1.2.1 ≥ (d1.1.length:Int)) then
  some (d1,false)
 else
 bif inb d1.2.1 d1.1.length then
  (nth d1.1 d1.2.1.toNat).bind fun x1 =>
  bif x1.1 == 4 then
   some (d1,x1.2.1 == d2)
  else
  bif x1.1 == 3 then
   some (d1,x1.2.1 == d2)
  else
   some (d1,false)
 else
  none
theorem er36:EqF 36 (W2 r36):=fun _ _ _ => by kernel_rfl
def r35 (rf:T.RF) (rb:T.RB) (d1:XR) (d2:List UInt8):Option (XR × Bool) :=
 (c36 rf d1 d2).bind fun y1 =>
 bif !y1.2 then
  some (y1.1,false)
 else
  some ((y1.1.1,IntKind.i64.wrap (y1.1.2.1 + 1),y1.1.2.2),true)
theorem er35:EqF 35 (W2 r35):=fun _ _ _ => by kernel_rfl
def r38 (rf:T.RF) (rb:T.RB) (d1:XR) (d2:List UInt8):Option XR :=
 (c35 rf d1 d2).bind fun y1 =>
 bif !y1.2 then
  (c25 rf y1.1 5).bind fun y2 =>
  some y2.1
 else
  some y1.1
theorem er38:EqF 38 (W2 r38):=fun _ _ _ => by kernel_rfl
def b18 (rf:T.RF) (rb:T.RB) (d1:XR) (d2:List XL):Option ((XR × List XL) ⊕ XR) :=
 bif d1.2.2.2.1 == 0 then
  (c16 rf d1).bind fun y1 =>
  bif (Nat.ble (d2.length + 1) most) && true then
   (c35 rf y1.1 ([41]:List UInt8)).bind fun y2 =>
   bif y2.2 then
   some (.inl (y2.1,d2 ++ [y1.2]))
   else
   (c38 rf y2.1 ([44]:List UInt8)).bind fun y3 =>
   k18 rb y3 (d2 ++ [y1.2])
  else
   none
 else
  some (.inr d1)
theorem eb18:EqB 18 (W2 b18):=fun _ _ _ => by kernel_rfl
def r37 (rf:T.RF) (rb:T.RB) (d1:XR):Option (XR × List XL) :=
 (c35 rf d1 ([41]:List UInt8)).bind fun y1 =>
 bif y1.2 then
  some (y1.1,[])
 else
  (k18 rb y1.1 []).bind fun z2 =>
  match z2 with
  | .inl u3 =>
    some u3
  | .inr w4 =>
    some (w4,[])
theorem er37:EqF 37 fun a b => r37 a b:=fun _ _ _ => by kernel_rfl
def r34 (rf:T.RF) (rb:T.RB) (d1:XR) (d2:List UInt8):Option (XR × XL) :=
 (c35 rf (d1.1,IntKind.i64.wrap (d1.2.1 + 1),d1.2.2) ([40]:List UInt8)).bind fun y1 =>
 bif !y1.2 then
  (c28 rf 3 0 d2 []).bind fun y2 =>
  some (y1.1,y2)
 else
  (c37 rf y1.1).bind fun y3 =>
  bif y3.1.2.2.2.1 != 0 then
   some (y3.1,[])
  else
   (c28 rf 27 0 d2 y3.2).bind fun y4 =>
   some (y3.1,y4)
theorem er34:EqF 34 (W2 r34):=fun _ _ _ => by kernel_rfl
def r39 (rf:T.RF) (rb:T.RB) (d1:List UInt8):Option Int :=
 bif d1 == ([110,111,116]:List UInt8) then
  some 4
 else
 bif d1 == ([45]:List UInt8) then
  some 5
 else
 bif d1 == ([112,114,101]:List UInt8) then
  some 21
 else
 bif d1 == ([111,110,99,101]:List UInt8) then
  some 22
 else
 bif d1 == ([104,105,115,116]:List UInt8) then
  some 23
 else
 bif d1 == ([112,114,101,118]:List UInt8) then
  some 24
 else
 bif d1 == ([119,105,116,104,105,110]:List UInt8) then
  some 25
 else
  some 0
theorem er39:EqF 39 fun a b => r39 a b:=fun _ _ _ => by kernel_rfl
def r40 (rf:T.RF) (rb:T.RB) (d1:XR):Option (XR × XL) :=
 bif decide ((IntKind.i64.wrap (d1.2.1 + 1)) ≥ (d1.1.length:Int)) then
  (c25 rf (d1.1,IntKind.i64.wrap (d1.2.1 + 1),d1.2.2) 5).bind fun y1 =>
  some y1
 else
 bif inb (IntKind.i64.wrap (d1.2.1 + 1)) d1.1.length then
  (nth d1.1 (IntKind.i64.wrap (d1.2.1 + 1)).toNat).bind fun x2 =>
  bif x2.1 != 2 then
   (c25 rf (d1.1,IntKind.i64.wrap (d1.2.1 + 1),d1.2.2) 5).bind fun y3 =>
   some y3
  else
  bif inb (IntKind.i64.wrap (d1.2.1 + 1)) d1.1.length then
   (nth d1.1 (IntKind.i64.wrap (d1.2.1 + 1)).toNat).bind fun x4 =>
   (c7 rf x4.2.1).bind fun y5 =>
   bif decide (y5 > 1000) then
   (c25 rf (d1.1,IntKind.i64.wrap (d1.2.1 + 1),d1.2.2) 5).bind fun y6 =>
   some y6
   else
   bif inb (IntKind.i64.wrap (d1.2.1 + 1)) d1.1.length then
   (nth d1.1 (IntKind.i64.wrap (d1.2.1 + 1)).toNat).bind fun x7 =>
   (c7 rf x7.2.1).bind fun y8 =>
   (c24 rf (d1.1,IntKind.i64.wrap ((IntKind.i64.wrap (d1.2.1 + 1)) + 1),d1.2.2)).bind fun y9 =>
   bif y9.1.2.2.2.1 != 0 then
   some (y9.1,[])
   else
   (c28 rf 25 y8 ([]:List UInt8) [y9.2]).bind fun y10 =>
   some (y9.1,y10)
   else
   none
  else
   none
 else
  none
theorem er40:EqF 40 fun a b => r40 a b:=fun _ _ _ => by kernel_rfl
def r41 (rf:T.RF) (rb:T.RB) (d1:XR):Option (XR × XL) :=
 (c16 rf d1).bind fun y1 =>
 (c38 rf y1.1 ([116,104,101,110]:List UInt8)).bind fun y2 =>
 (c16 rf y2).bind fun y3 =>
 (c38 rf y3.1 ([101,108,115,101]:List UInt8)).bind fun y4 =>
 (c16 rf y4).bind fun y5 =>
 bif y5.1.2.2.2.1 != 0 then
  some (y5.1,[])
 else
  (c28 rf 26 0 ([]:List UInt8) [y1.2,y3.2,y5.2]).bind fun y6 =>
  some (y5.1,y6)
theorem er41:EqF 41 fun a b => r41 a b:=fun _ _ _ => by kernel_rfl
def r27 (rf:T.RF) (rb:T.RB) (d1:XR) (d2:Int × List UInt8 × Int):Option (XR × XL) :=
 bif d2.1 == 2 then
  (c7 rf d2.2.1).bind fun y1 =>
  (c28 rf 1 y1 ([]:List UInt8) []).bind fun y2 =>
  some ((d1.1,IntKind.i64.wrap (d1.2.1 + 1),d1.2.2),y2)
 else
 bif d2.1 == 1 then
  (c34 rf d1 d2.2.1).bind fun y3 =>
  some y3
 else
 bif d2.1 != 4 then
  bif d2.1 != 3 then
   (c25 rf d1 5).bind fun y4 =>
   some y4
  else
   (c39 rf d2.2.1).bind fun y5 =>
   bif y5 == 25 then
   (c40 rf d1).bind fun y6 =>
   some y6
   else
   bif decide (y5 > 0) then
   (c24 rf (d1.1,IntKind.i64.wrap (d1.2.1 + 1),d1.2.2)).bind fun y7 =>
   bif y7.1.2.2.2.1 != 0 then
   some (y7.1,[])
   else
   (c28 rf y5 0 ([]:List UInt8) [y7.2]).bind fun y8 =>
   some (y7.1,y8)
   else
   (c35 rf d1 ([116,114,117,101]:List UInt8)).bind fun y9 =>
   bif y9.2 then
   (c28 rf 2 1 ([]:List UInt8) []).bind fun y10 =>
   some (y9.1,y10)
   else
   (c35 rf y9.1 ([102,97,108,115,101]:List UInt8)).bind fun y11 =>
   bif y11.2 then
   (c28 rf 2 0 ([]:List UInt8) []).bind fun y12 =>
   some (y11.1,y12)
   else
   (c35 rf y11.1 ([40]:List UInt8)).bind fun y13 =>
   bif y13.2 then
   (c16 rf y13.1).bind fun y14 =>
   (c38 rf y14.1 ([41]:List UInt8)).bind fun y15 =>
   some (y15,y14.2)
   else
   (c35 rf y13.1 ([105,102]:List UInt8)).bind fun y16 =>
   bif y16.2 then
   (c41 rf y16.1).bind fun y17 =>
   some y17
   else
   (c25 rf y16.1 5).bind fun y18 =>
   some y18
 else
  (c39 rf d2.2.1).bind fun y19 =>
  bif y19 == 25 then
   (c40 rf d1).bind fun y20 =>
   some y20
  else
  bif decide (y19 > 0) then
   (c24 rf (d1.1,IntKind.i64.wrap (d1.2.1 + 1),d1.2.2)).bind fun y21 =>
   bif y21.1.2.2.2.1 != 0 then
   some (y21.1,[])
   else
   (c28 rf y19 0 ([]:List UInt8) [y21.2]).bind fun y22 =>
   some (y21.1,y22)
  else
   (c35 rf d1 ([116,114,117,101]:List UInt8)).bind fun y23 =>
   bif y23.2 then
   (c28 rf 2 1 ([]:List UInt8) []).bind fun y24 =>
   some (y23.1,y24)
   else
   (c35 rf y23.1 ([102,97,108,115,101]:List UInt8)).bind fun y25 =>
   bif y25.2 then
   (c28 rf 2 0 ([]:List UInt8) []).bind fun y26 =>
   some (y25.1,y26)
   else
   (c35 rf y25.1 ([40]:List UInt8)).bind fun y27 =>
   bif y27.2 then
   (c16 rf y27.1).bind fun y28 =>
   (c38 rf y28.1 ([41]:List UInt8)).bind fun y29 =>
   some (y29,y28.2)
   else
   (c35 rf y27.1 ([105,102]:List UInt8)).bind fun y30 =>
   bif y30.2 then
   (c41 rf y30.1).bind fun y31 =>
   some y31
   else
   (c25 rf y30.1 5).bind fun y32 =>
   some y32
theorem er27:EqF 27 (W2 r27):=fun _ _ _ => by kernel_rfl
def r24 (rf:T.RF) (rb:T.RB) (d1:XR):Option (XR × XL) :=
 bif d1.2.2.2.1 != 0 then
  some (d1,[])
 else
 bif decide (d1.2.2.1 ≥ 200) then
  (c25 rf d1 6).bind fun y1 =>
  some y1
 else
 bif decide (d1.2.1 ≥ (d1.1.length:Int)) then
  (c25 rf d1 5).bind fun y2 =>
  some y2
 else
 bif inb d1.2.1 d1.1.length then
  (nth d1.1 d1.2.1.toNat).bind fun x3 =>
  (c27 rf (d1.1,d1.2.1,IntKind.i64.wrap (d1.2.2.1 + 1),d1.2.2.2) x3).bind fun y4 =>
  some ((y4.1.1,y4.1.2.1,IntKind.i64.wrap (y4.1.2.2.1 - 1),y4.1.2.2.2),y4.2)
 else
  none
theorem er24:EqF 24 fun a b => r24 a b:=fun _ _ _ => by kernel_rfl
def r42 (rf:T.RF) (rb:T.RB) (d1:XR) (d2:Int) (d3 d4:XL):Option (XR × XL) :=
 bif d1.2.2.2.1 != 0 then
  some (d1,[])
 else
  (c28 rf d2 0 ([]:List UInt8) [d3,d4]).bind fun y1 =>
  some (d1,y1)
theorem er42:EqF 42 (W4 r42):=fun _ _ _ => by kernel_rfl
def b20 (rf:T.RF) (rb:T.RB) (d1:XR) (d2:XL):Option (XR × XL) :=
 (c36 rf d1 ([42]:List UInt8)).bind fun y1 =>
 bif y1.2 then
  (c36 rf y1.1 ([100,105,118]:List UInt8)).bind fun y2 =>
  bif y2.2 then
   (c36 rf y2.1 ([109,111,100]:List UInt8)).bind fun y3 =>
   bif y3.2 then
   (c24 rf (y3.1.1,IntKind.i64.wrap (y3.1.2.1 + 1),y3.1.2.2)).bind fun y4 =>
   (c42 rf y4.1 18 d2 y4.2).bind fun y5 =>
   k20 rb y5.1 y5.2
   else
   (c24 rf (y3.1.1,IntKind.i64.wrap (y3.1.2.1 + 1),y3.1.2.2)).bind fun y6 =>
   (c42 rf y6.1 17 d2 y6.2).bind fun y7 =>
   k20 rb y7.1 y7.2
  else
   (c36 rf y2.1 ([109,111,100]:List UInt8)).bind fun y8 =>
   bif y8.2 then
   (c24 rf (y8.1.1,IntKind.i64.wrap (y8.1.2.1 + 1),y8.1.2.2)).bind fun y9 =>
   (c42 rf y9.1 18 d2 y9.2).bind fun y10 =>
   k20 rb y10.1 y10.2
   else
   (c24 rf (y8.1.1,IntKind.i64.wrap (y8.1.2.1 + 1),y8.1.2.2)).bind fun y11 =>
   (c42 rf y11.1 16 d2 y11.2).bind fun y12 =>
   k20 rb y12.1 y12.2
 else
  (c36 rf y1.1 ([100,105,118]:List UInt8)).bind fun y13 =>
  bif y13.2 then
   (c36 rf y13.1 ([100,105,118]:List UInt8)).bind fun y14 =>
   bif y14.2 then
   (c36 rf y14.1 ([109,111,100]:List UInt8)).bind fun y15 =>
   bif y15.2 then
   (c24 rf (y15.1.1,IntKind.i64.wrap (y15.1.2.1 + 1),y15.1.2.2)).bind fun y16 =>
   (c42 rf y16.1 18 d2 y16.2).bind fun y17 =>
   k20 rb y17.1 y17.2
   else
   (c24 rf (y15.1.1,IntKind.i64.wrap (y15.1.2.1 + 1),y15.1.2.2)).bind fun y18 =>
   (c42 rf y18.1 17 d2 y18.2).bind fun y19 =>
   k20 rb y19.1 y19.2
   else
   (c36 rf y14.1 ([109,111,100]:List UInt8)).bind fun y20 =>
   bif y20.2 then
   (c24 rf (y20.1.1,IntKind.i64.wrap (y20.1.2.1 + 1),y20.1.2.2)).bind fun y21 =>
   (c42 rf y21.1 18 d2 y21.2).bind fun y22 =>
   k20 rb y22.1 y22.2
   else
   (c24 rf (y20.1.1,IntKind.i64.wrap (y20.1.2.1 + 1),y20.1.2.2)).bind fun y23 =>
   (c42 rf y23.1 16 d2 y23.2).bind fun y24 =>
   k20 rb y24.1 y24.2
  else
   (c36 rf y13.1 ([109,111,100]:List UInt8)).bind fun y25 =>
   bif y25.2 then
   (c36 rf y25.1 ([100,105,118]:List UInt8)).bind fun y26 =>
   bif y26.2 then
   (c36 rf y26.1 ([109,111,100]:List UInt8)).bind fun y27 =>
   bif y27.2 then
   (c24 rf (y27.1.1,IntKind.i64.wrap (y27.1.2.1 + 1),y27.1.2.2)).bind fun y28 =>
   (c42 rf y28.1 18 d2 y28.2).bind fun y29 =>
   k20 rb y29.1 y29.2
   else
   (c24 rf (y27.1.1,IntKind.i64.wrap (y27.1.2.1 + 1),y27.1.2.2)).bind fun y30 =>
   (c42 rf y30.1 17 d2 y30.2).bind fun y31 =>
   k20 rb y31.1 y31.2
   else
   (c36 rf y26.1 ([109,111,100]:List UInt8)).bind fun y32 =>
   bif y32.2 then
   (c24 rf (y32.1.1,IntKind.i64.wrap (y32.1.2.1 + 1),y32.1.2.2)).bind fun y33 =>
   (c42 rf y33.1 18 d2 y33.2).bind fun y34 =>
   k20 rb y34.1 y34.2
   else
   (c24 rf (y32.1.1,IntKind.i64.wrap (y32.1.2.1 + 1),y32.1.2.2)).bind fun y35 =>
   (c42 rf y35.1 16 d2 y35.2).bind fun y36 =>
   k20 rb y36.1 y36.2
   else
   some (y25.1,d2)
theorem eb20:EqB 20 (W2 b20):=fun _ _ _ => by kernel_rfl
def r23 (rf:T.RF) (rb:T.RB) (d1:XR):Option (XR × XL) :=
 (c24 rf d1).bind fun y1 =>
 (k20 rb y1.1 y1.2).bind fun z2 =>
 some z2
theorem er23:EqF 23 fun a b => r23 a b:=fun _ _ _ => by kernel_rfl
def b22 (rf:T.RF) (rb:T.RB) (d1:XR) (d2:XL):Option (XR × XL) :=
 (c36 rf d1 ([43]:List UInt8)).bind fun y1 =>
 bif y1.2 then
  (c36 rf y1.1 ([45]:List UInt8)).bind fun y2 =>
  bif y2.2 then
   (c23 rf (y2.1.1,IntKind.i64.wrap (y2.1.2.1 + 1),y2.1.2.2)).bind fun y3 =>
   (c42 rf y3.1 15 d2 y3.2).bind fun y4 =>
   k22 rb y4.1 y4.2
  else
   (c23 rf (y2.1.1,IntKind.i64.wrap (y2.1.2.1 + 1),y2.1.2.2)).bind fun y5 =>
   (c42 rf y5.1 14 d2 y5.2).bind fun y6 =>
   k22 rb y6.1 y6.2
 else
  (c36 rf y1.1 ([45]:List UInt8)).bind fun y7 =>
  bif y7.2 then
   (c36 rf y7.1 ([45]:List UInt8)).bind fun y8 =>
   bif y8.2 then
   (c23 rf (y8.1.1,IntKind.i64.wrap (y8.1.2.1 + 1),y8.1.2.2)).bind fun y9 =>
   (c42 rf y9.1 15 d2 y9.2).bind fun y10 =>
   k22 rb y10.1 y10.2
   else
   (c23 rf (y8.1.1,IntKind.i64.wrap (y8.1.2.1 + 1),y8.1.2.2)).bind fun y11 =>
   (c42 rf y11.1 14 d2 y11.2).bind fun y12 =>
   k22 rb y12.1 y12.2
  else
   some (y7.1,d2)
theorem eb22:EqB 22 (W2 b22):=fun _ _ _ => by kernel_rfl
def r22 (rf:T.RF) (rb:T.RB) (d1:XR):Option (XR × XL) :=
 (c23 rf d1).bind fun y1 =>
 (k22 rb y1.1 y1.2).bind fun z2 =>
 some z2
theorem er22:EqF 22 fun a b => r22 a b:=fun _ _ _ => by kernel_rfl
def r21 (rf:T.RF) (rb:T.RB) (d1:XR):Option (XR × XL) :=
 (c22 rf d1).bind fun y1 =>
 (c35 rf y1.1 ([61]:List UInt8)).bind fun y2 =>
 bif y2.2 then
  (c22 rf y2.1).bind fun y3 =>
  (c42 rf y3.1 10 y1.2 y3.2).bind fun y4 =>
  some y4
 else
  (c35 rf y2.1 ([60,62]:List UInt8)).bind fun y5 =>
  bif y5.2 then
   (c22 rf y5.1).bind fun y6 =>
   (c42 rf y6.1 11 y1.2 y6.2).bind fun y7 =>
   some y7
  else
   (c35 rf y5.1 ([60]:List UInt8)).bind fun y8 =>
   bif y8.2 then
   (c22 rf y8.1).bind fun y9 =>
   (c42 rf y9.1 12 y1.2 y9.2).bind fun y10 =>
   some y10
   else
   (c35 rf y8.1 ([60,61]:List UInt8)).bind fun y11 =>
   bif y11.2 then
   (c22 rf y11.1).bind fun y12 =>
   (c42 rf y12.1 13 y1.2 y12.2).bind fun y13 =>
   some y13
   else
   (c35 rf y11.1 ([62]:List UInt8)).bind fun y14 =>
   bif y14.2 then
   (c22 rf y14.1).bind fun y15 =>
   (c42 rf y15.1 12 y15.2 y1.2).bind fun y16 =>
   some y16
   else
   (c35 rf y14.1 ([62,61]:List UInt8)).bind fun y17 =>
   bif y17.2 then
   (c22 rf y17.1).bind fun y18 =>
   (c42 rf y18.1 13 y18.2 y1.2).bind fun y19 =>
   some y19
   else
   some (y17.1,y1.2)
theorem er21:EqF 21 fun a b => r21 a b:=fun _ _ _ => by kernel_rfl
def b24 (rf:T.RF) (rb:T.RB) (d1:XR) (d2:XL):Option (XR × XL) :=
 (c35 rf d1 ([97,110,100]:List UInt8)).bind fun y1 =>
 bif y1.2 then
  (c21 rf y1.1).bind fun y2 =>
  (c42 rf y2.1 6 d2 y2.2).bind fun y3 =>
  k24 rb y3.1 y3.2
 else
  some (y1.1,d2)
theorem eb24:EqB 24 (W2 b24):=fun _ _ _ => by kernel_rfl
def r20 (rf:T.RF) (rb:T.RB) (d1:XR):Option (XR × XL) :=
 (c21 rf d1).bind fun y1 =>
 (k24 rb y1.1 y1.2).bind fun z2 =>
 some z2
theorem er20:EqF 20 fun a b => r20 a b:=fun _ _ _ => by kernel_rfl
def b26 (rf:T.RF) (rb:T.RB) (d1:XR) (d2:XL):Option (XR × XL) :=
 (c36 rf d1 ([111,114]:List UInt8)).bind fun y1 =>
 bif y1.2 then
  (c36 rf y1.1 ([120,111,114]:List UInt8)).bind fun y2 =>
  bif y2.2 then
   (c20 rf (y2.1.1,IntKind.i64.wrap (y2.1.2.1 + 1),y2.1.2.2)).bind fun y3 =>
   (c42 rf y3.1 8 d2 y3.2).bind fun y4 =>
   k26 rb y4.1 y4.2
  else
   (c20 rf (y2.1.1,IntKind.i64.wrap (y2.1.2.1 + 1),y2.1.2.2)).bind fun y5 =>
   (c42 rf y5.1 7 d2 y5.2).bind fun y6 =>
   k26 rb y6.1 y6.2
 else
  (c36 rf y1.1 ([120,111,114]:List UInt8)).bind fun y7 =>
  bif y7.2 then
   (c36 rf y7.1 ([120,111,114]:List UInt8)).bind fun y8 =>
   bif y8.2 then
   (c20 rf (y8.1.1,IntKind.i64.wrap (y8.1.2.1 + 1),y8.1.2.2)).bind fun y9 =>
   (c42 rf y9.1 8 d2 y9.2).bind fun y10 =>
   k26 rb y10.1 y10.2
   else
   (c20 rf (y8.1.1,IntKind.i64.wrap (y8.1.2.1 + 1),y8.1.2.2)).bind fun y11 =>
   (c42 rf y11.1 7 d2 y11.2).bind fun y12 =>
   k26 rb y12.1 y12.2
  else
   some (y7.1,d2)
theorem eb26:EqB 26 (W2 b26):=fun _ _ _ => by kernel_rfl
def r19 (rf:T.RF) (rb:T.RB) (d1:XR):Option (XR × XL) :=
 (c20 rf d1).bind fun y1 =>
 (k26 rb y1.1 y1.2).bind fun z2 =>
 some z2
theorem er19:EqF 19 fun a b => r19 a b:=fun _ _ _ => by kernel_rfl
def b28 (rf:T.RF) (rb:T.RB) (d1:XR) (d2:XL):Option (XR × XL) :=
 (c35 rf d1 ([115,105,110,99,101]:List UInt8)).bind fun y1 =>
 bif y1.2 then
  (c19 rf y1.1).bind fun y2 =>
  (c42 rf y2.1 20 d2 y2.2).bind fun y3 =>
  k28 rb y3.1 y3.2
 else
  some (y1.1,d2)
theorem eb28:EqB 28 (W2 b28):=fun _ _ _ => by kernel_rfl
def r18 (rf:T.RF) (rb:T.RB) (d1:XR):Option (XR × XL) :=
 (c19 rf d1).bind fun y1 =>
 (k28 rb y1.1 y1.2).bind fun z2 =>
 some z2
theorem er18:EqF 18 fun a b => r18 a b:=fun _ _ _ => by kernel_rfl
def r17 (rf:T.RF) (rb:T.RB) (d1:XR):Option (XR × XL) :=
 (c18 rf d1).bind fun y1 =>
 (c35 rf y1.1 ([61,62]:List UInt8)).bind fun y2 =>
 bif y2.2 then
  (c17 rf y2.1).bind fun y3 =>
  (c42 rf y3.1 9 y1.2 y3.2).bind fun y4 =>
  some y4
 else
  some (y2.1,y1.2)
theorem er17:EqF 17 fun a b => r17 a b:=fun _ _ _ => by kernel_rfl
def r16 (rf:T.RF) (rb:T.RB) (d1:XR):Option (XR × XL) :=
 (c17 rf d1).bind fun y1 =>
 (c35 rf y1.1 ([45,62]:List UInt8)).bind fun y2 =>
 bif y2.2 then
  (c16 rf y2.1).bind fun y3 =>
  (c42 rf y3.1 19 y1.2 y3.2).bind fun y4 =>
  some y4
 else
  some (y2.1,y1.2)
theorem er16:EqF 16 fun a b => r16 a b:=fun _ _ _ => by kernel_rfl
def b36 (rf:T.RF) (rb:T.RB) (d1:List Int) (d2:XL) (d3:Int):Option (List Int) :=
 bif decide (d3 < (d2.length:Int)) then
  bif inb d3 d1.length then
   bif Nat.blt d3.toNat d1.length then
   bif inb d3 d2.length then
   (nth d2 d3.toNat).bind fun x1 =>
   (c30 rf x1).bind fun y2 =>
   (k37 rb (setNth d1 d3.toNat 1) y2 d3 0).bind fun z3 =>
   k36 rb z3.1 d2 (IntKind.i64.wrap (d3 + 1))
   else
   none
   else
   none
  else
   none
 else
  some d1
theorem eb36:EqB 36 (W3 b36):=fun _ _ _ => by kernel_rfl
theorem ob36:IB3 b36 k36:=fun h => eb36.o h
def b37q (rf:T.RF) (rb:T.RB) (d1 d2:List Int) (d3 d4:Int):Option (List Int × List Int) :=
 bif decide (d4 < (d2.length:Int)) then
  bif inb d4 d2.length then
   (nth d2 d4.toNat).bind fun x1 =>
   bif decide (x1 ≥ 0) then
   bif inb d4 d2.length then
   (nth d2 d4.toNat).bind fun x2 =>
   bif decide (x2 < d3) then
   bif inb d3 d1.length then
   bif inb d4 d2.length then
   (nth d2 d4.toNat).bind fun x3 =>
   bif inb x3 d1.length then
   agree (
   (nth d1 d3.toNat).bind fun x4 =>
   (nth d1 x3.toNat).bind fun x5 =>
   bif inb d3 d1.length then
   bif Nat.blt d3.toNat d1.length then
   k37 rb (setNth d1 d3.toNat (if (IntKind.i64.wrap (x5 + 1)) > x4 then (IntKind.i64.wrap (x5 + 1)) else x4)) d2 d3 (IntKind.i64.wrap (d4 + 1))
   else
   none
   else
   none
   ) (
   (nth d1 x3.toNat).bind fun x4 =>
   (nth d1 d3.toNat).bind fun x5 =>
   bif inb d3 d1.length then
   bif Nat.blt d3.toNat d1.length then
   k37 rb (setNth d1 d3.toNat (if (IntKind.i64.wrap (x4 + 1)) > x5 then (IntKind.i64.wrap (x4 + 1)) else x5)) d2 d3 (IntKind.i64.wrap (d4 + 1))
   else
   none
   else
   none
   )
   else
   none
   else
   none
   else
   none
   else
   k37 rb d1 d2 d3 (IntKind.i64.wrap (d4 + 1))
   else
   none
   else
   k37 rb d1 d2 d3 (IntKind.i64.wrap (d4 + 1))
  else
   none
 else
  some (d1,d2)
def b37 (rf:T.RF) (rb:T.RB) (d1 d2:List Int) (d3 d4:Int):Option (List Int × List Int) :=
 bif decide (d4 < (d2.length:Int)) then
  bif inb d4 d2.length then
   (nth d2 d4.toNat).bind fun x1 =>
   bif decide (x1 ≥ 0) then
   bif inb d4 d2.length then
   (nth d2 d4.toNat).bind fun x2 =>
   bif decide (x2 < d3) then
   bif inb d3 d1.length then
   bif inb d4 d2.length then
   (nth d2 d4.toNat).bind fun x3 =>
   bif inb x3 d1.length then
   (nth d1 d3.toNat).bind fun x4 =>
   (nth d1 x3.toNat).bind fun x5 =>
   bif inb d3 d1.length then
   bif Nat.blt d3.toNat d1.length then
   k37 rb (setNth d1 d3.toNat (if (IntKind.i64.wrap (x5 + 1)) > x4 then (IntKind.i64.wrap (x5 + 1)) else x4)) d2 d3 (IntKind.i64.wrap (d4 + 1))
   else
   none
   else
   none
   else
   none
   else
   none
   else
   none
   else
   k37 rb d1 d2 d3 (IntKind.i64.wrap (d4 + 1))
   else
   none
   else
   k37 rb d1 d2 d3 (IntKind.i64.wrap (d4 + 1))
  else
   none
 else
  some (d1,d2)
theorem eb37:EqB 37 (W4 b37q):=fun _ _ _ => by kernel_rfl
theorem sb37 (rf rb d1 d2 d3 d4):b37q rf rb d1 d2 d3 d4 = b37 rf rb d1 d2 d3 d4:=by
 unfold b37q b37; simp only [agN_eq,agree_self,agree_swap]
theorem ob37 {d1 d2 d3 d4 y} (h:b37 T.rf T.rb d1 d2 d3 d4 = some y):k37 T.rb d1 d2 d3 d4 = some y:=eb37.o ((sb37 _ _ _ _ _ _).trans h)
def r43 (rf:T.RF) (rb:T.RB) (d1:XL):Option Int :=
 bif inb' (d1.length:Int) most then
  bif inb' (d1.length:Int) d1.length then
   (k36 rb (List.replicate d1.length (0:Int)) d1 0).bind fun z1 =>
   bif (d1.length:Int) == 0 then
   some 0
   else
   bif inb (IntKind.i64.wrap ((d1.length:Int) - 1)) z1.length then
   (nth z1 (IntKind.i64.wrap ((d1.length:Int) - 1)).toNat).bind fun x2 =>
   some x2
   else
   none
  else
   none
 else
  none
theorem er43:EqF 43 fun a b => r43 a b:=fun _ _ _ => by kernel_rfl
theorem or43:IF1 r43 c43:=fun h => er43.o h
def b39 (rf:T.RF) (rb:T.RB) (d1:Int × Int) (d2:List (Int × List UInt8 × Int)) (d3:Int):Option (((Int × Int) × XL × Int) ⊕ ((Int × Int) × XL × Int)) :=
 (c16 rf (d2,d3,0,0,0)).bind fun y1 =>
 bif y1.1.2.2.2.1 != 0 then
  some (.inl (y1.1.2.2.2,[],0))
 else
 bif decide ((y1.2.length:Int) > 5000) then
  (c26 rf d2 d3).bind fun y2 =>
  some (.inl ((7,y2),[],0))
 else
  (c43 rf y1.2).bind fun y3 =>
  bif decide (y3 > 40) then
   (c26 rf d2 d3).bind fun y4 =>
   some (.inl ((6,y4),[],0))
  else
   some (.inr ((0,0),y1.2,y1.1.2.1))
theorem eb39:EqB 39 (W3 b39):=fun _ _ _ => by kernel_rfl
def r15 (rf:T.RF) (rb:T.RB) (d1:List (Int × List UInt8 × Int)) (d2:Int):Option (XL × Int × Int × Int) :=
 bif decide (d2 < 0) then
  (k39 rb (0,0) d1 (d1.length:Int)).bind fun z1 =>
  match z1 with
  | .inl u2 =>
    some (u2.2.1,u2.2.2,u2.1)
  | .inr w3 =>
    some (w3.2.1,w3.2.2,w3.1)
 else
 bif decide (d2 > (d1.length:Int)) then
  (k39 rb (0,0) d1 (d1.length:Int)).bind fun z4 =>
  match z4 with
  | .inl u5 =>
    some (u5.2.1,u5.2.2,u5.1)
  | .inr w6 =>
    some (w6.2.1,w6.2.2,w6.1)
 else
  (k39 rb (0,0) d1 d2).bind fun z7 =>
  match z7 with
  | .inl u8 =>
    some (u8.2.1,u8.2.2,u8.1)
  | .inr w9 =>
    some (w9.2.1,w9.2.2,w9.1)
theorem er15:EqF 15 (W2 r15):=fun _ _ _ => by kernel_rfl
def r3 (rf:T.RF) (rb:T.RB) (d1:List UInt8):Option (XL × Int × Int) :=
 (c4 rf d1).bind fun y1 =>
 bif y1.2.1 != 0 then
  some ([],y1.2)
 else
  (c15 rf y1.1 0).bind fun y2 =>
  bif y2.2.2.1 != 0 then
   some ([],y2.2.2)
  else
  bif decide (y2.2.1 < (y1.1.length:Int)) then
   bif inb y2.2.1 y1.1.length then
   (nth y1.1 y2.2.1.toNat).bind fun x3 =>
   some ([],5,x3.2.2)
   else
   none
  else
   some (y2.1,0,0)
theorem er3:EqF 3 fun a b => r3 a b:=fun _ _ _ => by kernel_rfl
def r49 (rf:T.RF) (rb:T.RB) (d1:XN):Option (List Int) :=
 bif d1.1 == 26 then
  some [d1.2.1,d1.2.2.1,d1.2.2.2.1]
 else
 bif d1.1 == 28 then
  bif d1.2.2.1 != (-1) then
   some [d1.2.2.1,d1.2.1]
  else
  bif d1.1 == 27 then
   bif d1.2.1 == (-1) then
   some []
   else
   bif decide (d1.1 ≥ 6) then
   bif decide (d1.1 ≤ 20) then
   some [d1.2.1,d1.2.2.1]
   else
   bif d1.1 == 4 then
   some [d1.2.1]
   else
   bif d1.1 == 5 then
   some [d1.2.1]
   else
   bif decide (d1.1 ≥ 21) then
   bif decide (d1.1 ≤ 28) then
   some [d1.2.1]
   else
   some []
   else
   some []
   else
   bif d1.1 == 4 then
   some [d1.2.1]
   else
   bif d1.1 == 5 then
   some [d1.2.1]
   else
   bif decide (d1.1 ≥ 21) then
   bif decide (d1.1 ≤ 28) then
   some [d1.2.1]
   else
   some []
   else
   some []
  else
  bif decide (d1.1 ≥ 6) then
   bif decide (d1.1 ≤ 20) then
   some [d1.2.1,d1.2.2.1]
   else
   bif d1.1 == 4 then
   some [d1.2.1]
   else
   bif d1.1 == 5 then
   some [d1.2.1]
   else
   bif decide (d1.1 ≥ 21) then
   bif decide (d1.1 ≤ 28) then
   some [d1.2.1]
   else
   some []
   else
   some []
  else
  bif d1.1 == 4 then
   some [d1.2.1]
  else
  bif d1.1 == 5 then
   some [d1.2.1]
  else
  bif decide (d1.1 ≥ 21) then
   bif decide (d1.1 ≤ 28) then
   some [d1.2.1]
   else
   some []
  else
   some []
 else
 bif d1.1 == 27 then
  bif d1.2.1 == (-1) then
   some []
  else
  bif decide (d1.1 ≥ 6) then
   bif decide (d1.1 ≤ 20) then
   some [d1.2.1,d1.2.2.1]
   else
   bif d1.1 == 4 then
   some [d1.2.1]
   else
   bif d1.1 == 5 then
   some [d1.2.1]
   else
   bif decide (d1.1 ≥ 21) then
   bif decide (d1.1 ≤ 28) then
   some [d1.2.1]
   else
   some []
   else
   some []
  else
  bif d1.1 == 4 then
   some [d1.2.1]
  else
  bif d1.1 == 5 then
   some [d1.2.1]
  else
  bif decide (d1.1 ≥ 21) then
   bif decide (d1.1 ≤ 28) then
   some [d1.2.1]
   else
   some []
  else
   some []
 else
 bif decide (d1.1 ≥ 6) then
  bif decide (d1.1 ≤ 20) then
   some [d1.2.1,d1.2.2.1]
  else
  bif d1.1 == 4 then
   some [d1.2.1]
  else
  bif d1.1 == 5 then
   some [d1.2.1]
  else
  bif decide (d1.1 ≥ 21) then
   bif decide (d1.1 ≤ 28) then
   some [d1.2.1]
   else
   some []
  else
   some []
 else
 bif d1.1 == 4 then
  some [d1.2.1]
 else
 bif d1.1 == 5 then
  some [d1.2.1]
 else
 bif decide (d1.1 ≥ 21) then
  bif decide (d1.1 ≤ 28) then
   some [d1.2.1]
  else
   some []
 else
  some []
theorem er49:EqF 49 fun a b => r49 a b:=fun _ _ _ => by kernel_rfl
theorem or49:IF1 r49 c49:=fun h => er49.o h
def r50 (rf:T.RF) (rb:T.RB) (d1:XN) (d2:List Int):Option XN :=
 bif d1.1 == 28 then
  bif (d2.length:Int) == 2 then
   bif inb 0 d2.length then
   (nth d2 0).bind fun x1 =>
   bif inb 1 d2.length then
   (nth d2 1).bind fun x2 =>
   some (d1.1,x2,x1,d1.2.2.2)
   else
   none
   else
   none
  else
  bif decide (0 < (d2.length:Int)) then
   bif inb 0 d2.length then
   (nth d2 0).bind fun x3 =>
   bif decide (1 < (d2.length:Int)) then
   bif inb 1 d2.length then
   (nth d2 1).bind fun x4 =>
   bif decide (2 < (d2.length:Int)) then
   bif inb 2 d2.length then
   (nth d2 2).bind fun x5 =>
   some (d1.1,x3,x4,x5,d1.2.2.2.2)
   else
   none
   else
   some (d1.1,x3,x4,d1.2.2.2)
   else
   none
   else
   bif decide (2 < (d2.length:Int)) then
   bif inb 2 d2.length then
   (nth d2 2).bind fun x6 =>
   some (d1.1,x3,d1.2.2.1,x6,d1.2.2.2.2)
   else
   none
   else
   some (d1.1,x3,d1.2.2)
   else
   none
  else
  bif decide (1 < (d2.length:Int)) then
   bif inb 1 d2.length then
   (nth d2 1).bind fun x7 =>
   bif decide (2 < (d2.length:Int)) then
   bif inb 2 d2.length then
   (nth d2 2).bind fun x8 =>
   some (d1.1,d1.2.1,x7,x8,d1.2.2.2.2)
   else
   none
   else
   some (d1.1,d1.2.1,x7,d1.2.2.2)
   else
   none
  else
  bif decide (2 < (d2.length:Int)) then
   bif inb 2 d2.length then
   (nth d2 2).bind fun x9 =>
   some (d1.1,d1.2.1,d1.2.2.1,x9,d1.2.2.2.2)
   else
   none
  else
   some d1
 else
 bif decide (0 < (d2.length:Int)) then
  bif inb 0 d2.length then
   (nth d2 0).bind fun x10 =>
   bif decide (1 < (d2.length:Int)) then
   bif inb 1 d2.length then
   (nth d2 1).bind fun x11 =>
   bif decide (2 < (d2.length:Int)) then
   bif inb 2 d2.length then
   (nth d2 2).bind fun x12 =>
   some (d1.1,x10,x11,x12,d1.2.2.2.2)
   else
   none
   else
   some (d1.1,x10,x11,d1.2.2.2)
   else
   none
   else
   bif decide (2 < (d2.length:Int)) then
   bif inb 2 d2.length then
   (nth d2 2).bind fun x13 =>
   some (d1.1,x10,d1.2.2.1,x13,d1.2.2.2.2)
   else
   none
   else
   some (d1.1,x10,d1.2.2)
  else
   none
 else
 bif decide (1 < (d2.length:Int)) then
  bif inb 1 d2.length then
   (nth d2 1).bind fun x14 =>
   bif decide (2 < (d2.length:Int)) then
   bif inb 2 d2.length then
   (nth d2 2).bind fun x15 =>
   some (d1.1,d1.2.1,x14,x15,d1.2.2.2.2)
   else
   none
   else
   some (d1.1,d1.2.1,x14,d1.2.2.2)
  else
   none
 else
 bif decide (2 < (d2.length:Int)) then
  bif inb 2 d2.length then
   (nth d2 2).bind fun x16 =>
   some (d1.1,d1.2.1,d1.2.2.1,x16,d1.2.2.2.2)
  else
   none
 else
  some d1
theorem er50:EqF 50 (W2 r50):=fun _ _ _ => by kernel_rfl
theorem or50:IF2 r50 c50:=fun h => er50.o h
def b58q (rf:T.RF) (rb:T.RB) (d1:XN) (d2:Int):Option (XN × Bool) :=
 agree (
  (c49 rf d1).bind fun y1 =>
  agN 1 (
   (c50 rf (d1.1,(-1),(-1),(-1),d1.2.2.2.2) y1).bind fun y2 =>
   (k59 rb d1 y2 d2).bind fun z3 =>
   some (z3.1,z3.2.2)
  )
 ) (
  (c49 rf d1).bind fun y1 =>
  (c50 rf (d1.1,(-1),(-1),(-1),d1.2.2.2.2) y1).bind fun y2 =>
  (k59 rb d1 y2 d2).bind fun z3 =>
  some (z3.1,z3.2.2)
 )
def b58 (rf:T.RF) (rb:T.RB) (d1:XN) (d2:Int):Option (XN × Bool) :=
 (c49 rf d1).bind fun y1 =>
 (c50 rf (d1.1,(-1),(-1),(-1),d1.2.2.2.2) y1).bind fun y2 =>
 (k59 rb d1 y2 d2).bind fun z3 =>
 some (z3.1,z3.2.2)
theorem eb58:EqB 58 (W2 b58q):=fun _ _ _ => by kernel_rfl
theorem sb58 (rf rb d1 d2):b58q rf rb d1 d2 = b58 rf rb d1 d2:=by
 unfold b58q b58; simp only [agN_eq,agree_self,agree_swap]
theorem ob58 {d1 d2 y} (h:b58 T.rf T.rb d1 d2 = some y):k58 T.rb d1 d2 = some y:=eb58.o ((sb58 _ _ _ _).trans h)
def b59 (rf:T.RF) (rb:T.RB) (d1 d2:XN) (d3:Int):Option (XN × XN × Bool) :=
 bif d1.1 == 3 then
  bif decide (d1.1 ≥ 1) then
   bif decide (d1.1 ≤ 28) then
   bif (d1.1 == d2.1) && ((d1.2.1 == d2.2.1) && ((d1.2.2.1 == d2.2.2.1) && ((d1.2.2.2.1 == d2.2.2.2.1) && ((d1.2.2.2.2.1 == d2.2.2.2.2.1) && (d1.2.2.2.2.2 == d2.2.2.2.2.2))))) then
   bif decide (d1.2.2.2.2.1 ≥ 0) then
   bif decide (d1.2.2.2.2.1 ≤ d3) then
   some (d1,d2,(!(d1.2.2.2.2.2 == ([]:List UInt8))) == true)
   else
   some (d1,d2,false)
   else
   some (d1,d2,false)
   else
   some (d1,d2,false)
   else
   some (d1,d2,false)
  else
   some (d1,d2,false)
 else
 bif decide (d1.1 ≥ 1) then
  bif decide (d1.1 ≤ 28) then
   bif (d1.1 == d2.1) && ((d1.2.1 == d2.2.1) && ((d1.2.2.1 == d2.2.2.1) && ((d1.2.2.2.1 == d2.2.2.2.1) && ((d1.2.2.2.2.1 == d2.2.2.2.2.1) && (d1.2.2.2.2.2 == d2.2.2.2.2.2))))) then
   bif decide (d1.2.2.2.2.1 ≥ 0) then
   bif decide (d1.2.2.2.2.1 ≤ d3) then
   some (d1,d2,(!(d1.2.2.2.2.2 == ([]:List UInt8))) == (d1.1 == 27))
   else
   some (d1,d2,false)
   else
   some (d1,d2,false)
   else
   some (d1,d2,false)
  else
   some (d1,d2,false)
 else
  some (d1,d2,false)
theorem eb59:EqB 59 (W3 b59):=fun _ _ _ => by kernel_rfl
theorem ob59:IB3 b59 k59:=fun h => eb59.o h
def r48 (rf:T.RF) (rb:T.RB) (d1:XN):Option Bool :=
 bif d1.1 == 1 then
  (k58 rb d1 2147483647).bind fun z1 =>
  some z1.2
 else
 bif d1.1 == 2 then
  (k58 rb d1 1).bind fun z2 =>
  some z2.2
 else
 bif d1.1 == 25 then
  (k58 rb d1 1000).bind fun z3 =>
  some z3.2
 else
  (k58 rb d1 0).bind fun z4 =>
  some z4.2
theorem er48:EqF 48 fun a b => r48 a b:=fun _ _ _ => by kernel_rfl
theorem or48:IF1 r48 c48:=fun h => er48.o h
def b61 (rf:T.RF) (rb:T.RB) (d1:List Bool) (d2:Bool) (d3 d4:Int):Option (Int ⊕ Unit) :=
 bif decide (d4 < d3) then
  bif inb d4 d1.length then
   (nth d1 d4.toNat).bind fun x1 =>
   bif d2 == x1 then
   some (.inl d4)
   else
   k61 rb d1 d2 d3 (IntKind.i64.wrap (d4 + 1))
  else
   none
 else
  some (.inr ())
theorem eb61:EqB 61 (W4 b61):=fun _ _ _ => by kernel_rfl
theorem ob61:IB4 b61 k61:=fun h => eb61.o h
def r52 (rf:T.RF) (rb:T.RB) (d1:List Bool) (d2:Bool):Option Int :=
 (k61 rb d1 d2 (d1.length:Int) 0).bind fun z1 =>
 match z1 with
 | .inl u2 =>
   some u2
 | .inr w3 =>
   some (-1)
theorem er52:EqF 52 (W2 r52):=fun _ _ _ => by kernel_rfl
theorem or52:IF2 r52 c52:=fun h => er52.o h
def r51 (rf:T.RF) (rb:T.RB) (d1:List Bool) (d2:Bool):Option Bool :=
 (c52 rf d1 d2).bind fun y1 =>
 some (decide (y1 ≥ 0))
theorem er51:EqF 51 (W2 r51):=fun _ _ _ => by kernel_rfl
theorem or51:IF2 r51 c51:=fun h => er51.o h
def b68 (rf:T.RF) (rb:T.RB) (d1:List Int) (d2:XL) (d3 d4:Int):Option (List Int) :=
 bif decide (d4 < d3) then
  bif inb d4 d2.length then
   (nth d2 d4.toNat).bind fun x1 =>
   (c49 rf x1).bind fun y2 =>
   (k69 rb d1 y2 d4 (y2.length:Int) 0).bind fun z3 =>
   bif inb d4 z3.1.length then
   (nth z3.1 d4.toNat).bind fun x4 =>
   bif inb d4 z3.1.length then
   bif Nat.blt d4.toNat z3.1.length then
   k68 rb (setNth z3.1 d4.toNat (IntKind.i64.wrap (x4 + 1))) d2 d3 (IntKind.i64.wrap (d4 + 1))
   else
   none
   else
   none
   else
   none
  else
   none
 else
  some d1
theorem eb68:EqB 68 (W4 b68):=fun _ _ _ => by kernel_rfl
theorem ob68:IB4 b68 k68:=fun h => eb68.o h
def b69q (rf:T.RF) (rb:T.RB) (d1 d2:List Int) (d3 d4 d5:Int):Option (List Int × List Int) :=
 bif decide (d5 < d4) then
  bif inb d5 d2.length then
   (nth d2 d5.toNat).bind fun x1 =>
   bif decide (x1 ≥ 0) then
   bif decide (x1 < d3) then
   bif inb d3 d1.length then
   bif inb x1 d1.length then
   agree (
   (nth d1 d3.toNat).bind fun x2 =>
   (nth d1 x1.toNat).bind fun x3 =>
   bif inb d3 d1.length then
   bif Nat.blt d3.toNat d1.length then
   k69 rb (setNth d1 d3.toNat (if x3 > x2 then x3 else x2)) d2 d3 d4 (IntKind.i64.wrap (d5 + 1))
   else
   none
   else
   none
   ) (
   (nth d1 x1.toNat).bind fun x2 =>
   (nth d1 d3.toNat).bind fun x3 =>
   bif inb d3 d1.length then
   bif Nat.blt d3.toNat d1.length then
   k69 rb (setNth d1 d3.toNat (if x2 > x3 then x2 else x3)) d2 d3 d4 (IntKind.i64.wrap (d5 + 1))
   else
   none
   else
   none
   )
   else
   none
   else
   none
   else
   k69 rb d1 d2 d3 d4 (IntKind.i64.wrap (d5 + 1))
   else
   k69 rb d1 d2 d3 d4 (IntKind.i64.wrap (d5 + 1))
  else
   none
 else
  some (d1,d2)
def b69 (rf:T.RF) (rb:T.RB) (d1 d2:List Int) (d3 d4 d5:Int):Option (List Int × List Int) :=
 bif decide (d5 < d4) then
  bif inb d5 d2.length then
   (nth d2 d5.toNat).bind fun x1 =>
   bif decide (x1 ≥ 0) then
   bif decide (x1 < d3) then
   bif inb d3 d1.length then
   bif inb x1 d1.length then
   (nth d1 d3.toNat).bind fun x2 =>
   (nth d1 x1.toNat).bind fun x3 =>
   bif inb d3 d1.length then
   bif Nat.blt d3.toNat d1.length then
   k69 rb (setNth d1 d3.toNat (if x3 > x2 then x3 else x2)) d2 d3 d4 (IntKind.i64.wrap (d5 + 1))
   else
   none
   else
   none
   else
   none
   else
   none
   else
   k69 rb d1 d2 d3 d4 (IntKind.i64.wrap (d5 + 1))
   else
   k69 rb d1 d2 d3 d4 (IntKind.i64.wrap (d5 + 1))
  else
   none
 else
  some (d1,d2)
theorem eb69:EqB 69 (W5 b69q):=fun _ _ _ => by kernel_rfl
theorem sb69 (rf rb d1 d2 d3 d4 d5):b69q rf rb d1 d2 d3 d4 d5 = b69 rf rb d1 d2 d3 d4 d5:=by
 unfold b69q b69; simp only [agN_eq,agree_self,agree_swap]
theorem ob69 {d1 d2 d3 d4 d5 y} (h:b69 T.rf T.rb d1 d2 d3 d4 d5 = some y):k69 T.rb d1 d2 d3 d4 d5 = some y:=eb69.o ((sb69 _ _ _ _ _ _ _).trans h)
def r54 (rf:T.RF) (rb:T.RB) (d1:XL):Option (List Int) :=
 bif inb' (d1.length:Int) most then
  bif inb' (d1.length:Int) d1.length then
   (k68 rb (List.replicate d1.length (0:Int)) d1 (d1.length:Int) 0).bind fun z1 =>
   some z1
  else
   none
 else
  none
theorem er54:EqF 54 fun a b => r54 a b:=fun _ _ _ => by kernel_rfl
theorem or54:IF1 r54 c54:=fun h => er54.o h
def r53 (rf:T.RF) (rb:T.RB) (d1:XL):Option Int :=
 bif (d1.length:Int) == 0 then
  some 0
 else
  (c54 rf d1).bind fun y1 =>
  bif inb (IntKind.i64.wrap ((d1.length:Int) - 1)) y1.length then
   (nth y1 (IntKind.i64.wrap ((d1.length:Int) - 1)).toNat).bind fun x2 =>
   some x2
  else
   none
theorem er53:EqF 53 fun a b => r53 a b:=fun _ _ _ => by kernel_rfl
theorem or53:IF1 r53 c53:=fun h => er53.o h
def b57 (rf:T.RF) (rb:T.RB) (d1:List Bool) (d2 d3:XL) (d4 d5:Int):Option ((List Bool × Bool) ⊕ (List Bool)) :=
 bif decide (d5 < d4) then
  bif inb d5 d3.length then
   (nth d3 d5.toNat).bind fun x1 =>
   (c48 rf x1).bind fun y2 =>
   bif !y2 then
    some (.inl (d1,false))
   else
    (c49 rf x1).bind fun y3 =>
    (k60 rb d1 x1 y3 d2 d5 (y3.length:Int) 0).bind fun z4 =>
    match z4 with
    | .inl u5 =>
      some (.inl (u5.1,u5.2.2.2))
    | .inr w6 =>
      k57 rb w6.1 d2 d3 d4 (IntKind.i64.wrap (d5 + 1))
  else
   none
 else
  some (.inr d1)
theorem eb57:EqB 57 (W5 b57):=fun _ _ _ => by kernel_rfl
theorem ob57:IB5 b57 k57:=fun h => eb57.o h
def b60 (rf:T.RF) (rb:T.RB) (d1:List Bool) (d2:XN) (d3:List Int) (d4:XL) (d5 d6 d7:Int):Option ((List Bool × XN × List Int × Bool) ⊕ (List Bool × XN × List Int)) :=
 bif decide (d7 < d6) then
  bif inb d7 d3.length then
   (nth d3 d7.toNat).bind fun x1 =>
   bif decide (x1 < 0) then
   some (.inl (d1,d2,d3,false))
   else
   bif decide (x1 ≥ d5) then
   some (.inl (d1,d2,d3,false))
   else
   bif inb x1 d1.length then
   (nth d1 x1.toNat).bind fun x2 =>
   bif x2 then
   some (.inl (d1,d2,d3,false))
   else
   bif inb x1 d1.length then
   bif Nat.blt x1.toNat d1.length then
   bif d2.1 == 27 then
   bif inb x1 d4.length then
   (nth d4 x1.toNat).bind fun x3 =>
   bif !((x3.1 == 28) == true) then
   some (.inl (setNth d1 x1.toNat true,d2,d3,false))
   else
   k60 rb (setNth d1 x1.toNat true) d2 d3 d4 d5 d6 (IntKind.i64.wrap (d7 + 1))
   else
   none
   else
   bif d2.1 == 28 then
   bif d2.2.2.1 != (-1) then
   bif inb x1 d4.length then
   (nth d4 x1.toNat).bind fun x4 =>
   bif !((x4.1 == 28) == (d7 == 0)) then
   some (.inl (setNth d1 x1.toNat true,d2,d3,false))
   else
   k60 rb (setNth d1 x1.toNat true) d2 d3 d4 d5 d6 (IntKind.i64.wrap (d7 + 1))
   else
   none
   else
   bif inb x1 d4.length then
   (nth d4 x1.toNat).bind fun x5 =>
   bif !((x5.1 == 28) == false) then
   some (.inl (setNth d1 x1.toNat true,d2,d3,false))
   else
   k60 rb (setNth d1 x1.toNat true) d2 d3 d4 d5 d6 (IntKind.i64.wrap (d7 + 1))
   else
   none
   else
   bif inb x1 d4.length then
   (nth d4 x1.toNat).bind fun x6 =>
   bif !((x6.1 == 28) == false) then
   some (.inl (setNth d1 x1.toNat true,d2,d3,false))
   else
   k60 rb (setNth d1 x1.toNat true) d2 d3 d4 d5 d6 (IntKind.i64.wrap (d7 + 1))
   else
   none
   else
   none
   else
   none
   else
   none
  else
   none
 else
  some (.inr (d1,d2,d3))
theorem eb60:EqB 60 (W7 b60):=fun _ _ _ => by kernel_rfl
theorem ob60:IB7 b60 k60:=fun h => eb60.o h
def r47 (rf:T.RF) (rb:T.RB) (d1:XL):Option Bool :=
 bif (d1.length:Int) == 0 then
  some false
 else
 bif decide ((d1.length:Int) > 5000) then
  some false
 else
 bif inb (IntKind.i64.wrap ((d1.length:Int) - 1)) d1.length then
  (nth d1 (IntKind.i64.wrap ((d1.length:Int) - 1)).toNat).bind fun x1 =>
  bif x1.1 == 28 then
   some false
  else
  bif inb' (d1.length:Int) most then
   bif inb' (d1.length:Int) d1.length then
    (k57 rb (List.replicate d1.length false) d1 d1 (d1.length:Int) 0).bind fun z2 =>
    match z2 with
    | .inl u3 =>
      some u3.2
    | .inr w4 =>
      bif inb' (IntKind.i64.wrap ((d1.length:Int) - 1)) w4.length then
       (c51 rf (sub w4 (some (0,((IntKind.i64.wrap ((d1.length:Int) - 1)).toNat - 0)))) false).bind fun y5 =>
       bif !y5 then
        (c53 rf d1).bind fun y6 =>
        some (decide (y6 ≤ 40))
       else
        some false
      else
       none
   else
    none
  else
   none
 else
  none
theorem er47:EqF 47 fun a b => r47 a b:=fun _ _ _ => by kernel_rfl
theorem or47:IF1 r47 c47:=fun h => er47.o h
def r55 (rf:T.RF) (rb:T.RB) (d1:XL):Option XL :=
 some d1
theorem er55:EqF 55 fun a b => r55 a b:=fun _ _ _ => by kernel_rfl
theorem or55:IF1 r55 c55:=fun h => er55.o h
def r56 (rf:T.RF) (rb:T.RB) (d1:XN):Option (Int ⊕ Int ⊕ (Int × Int) ⊕ Int ⊕ Unit) :=
 bif d1.1 == 22 then
  some (.inl 0)
 else
 bif d1.1 == 23 then
  some (.inr (.inl 0))
 else
 bif d1.1 == 25 then
  some (.inr (.inr (.inl (0,d1.2.2.2.2.1))))
 else
 bif d1.1 == 20 then
  some (.inr (.inr (.inr (.inl 0))))
 else
  some (.inr (.inr (.inr (.inr ()))))
theorem er56:EqF 56 fun a b => r56 a b:=fun _ _ _ => by kernel_rfl
theorem or56:IF1 r56 c56:=fun h => er56.o h
def b161 (rf:T.RF) (rb:T.RB) (d1:XL) (d2:List Int) (d3:XL) (d4 d5:Int):Option (List Int × XL) :=
 bif decide (d5 < d4) then
  bif inb d5 d2.length then
   (nth d2 d5.toNat).bind fun x1 =>
   (c60 rf d1 d3 x1).bind fun y2 =>
   bif inb d5 d2.length then
   bif Nat.blt d5.toNat d2.length then
   k161 rb y2 (setNth d2 d5.toNat (IntKind.i64.wrap ((y2.length:Int) - 1))) d3 d4 (IntKind.i64.wrap (d5 + 1))
   else
   none
   else
   none
  else
   none
 else
  some (d2,d1)
theorem eb161:EqB 161 (W5 b161):=fun _ _ _ => by kernel_rfl
theorem ob161:IB5 b161 k161:=fun h => eb161.o h
def r60 (rf:T.RF) (rb:T.RB) (d1 d2:XL) (d3:Int):Option XL :=
 bif inb d3 d2.length then
  (nth d2 d3.toNat).bind fun x1 =>
  (c49 rf x1).bind fun y2 =>
  (k161 rb d1 y2 d2 (y2.length:Int) 0).bind fun z3 =>
  bif inb d3 d2.length then
   (nth d2 d3.toNat).bind fun x4 =>
   (c50 rf x4 z3.1).bind fun y5 =>
   bif (Nat.ble (z3.2.length + 1) most) && true then
   some (z3.2 ++ [y5])
   else
   none
  else
   none
 else
  none
theorem er60:EqF 60 (W3 r60):=fun _ _ _ => by kernel_rfl
theorem or60:IF3 r60 c60:=fun h => er60.o h
def r59 (rf:T.RF) (rb:T.RB) (d1:XL) (d2:Int):Option XL :=
 bif decide (d2 < 0) then
  some []
 else
 bif decide (d2 ≥ (d1.length:Int)) then
  some []
 else
  (c47 rf d1).bind fun y1 =>
  bif !y1 then
   some []
  else
   (c60 rf [] d1 d2).bind fun y2 =>
   some y2
theorem er59:EqF 59 (W2 r59):=fun _ _ _ => by kernel_rfl
theorem or59:IF2 r59 c59:=fun h => er59.o h
def b162 (rf:T.RF) (rb:T.RB) (d1:List (List UInt8)) (d2:List UInt8) (d3 d4:Int):Option ((List (List UInt8) × Int) ⊕ (List (List UInt8))) :=
 bif decide (d4 < d3) then
  bif inb d4 d1.length then
   (nth d1 d4.toNat).bind fun x1 =>
   bif d2 == x1 then
   some (.inl (d1,d4))
   else
   k162 rb d1 d2 d3 (IntKind.i64.wrap (d4 + 1))
  else
   none
 else
  some (.inr d1)
theorem eb162:EqB 162 (W4 b162):=fun _ _ _ => by kernel_rfl
theorem ob162:IB4 b162 k162:=fun h => eb162.o h
def r63 (rf:T.RF) (rb:T.RB) (d1:List (List UInt8)) (d2:List UInt8):Option (List (List UInt8) × Int) :=
 (k162 rb d1 d2 (d1.length:Int) 0).bind fun z1 =>
 match z1 with
 | .inl u2 =>
   some u2
 | .inr w3 =>
   some (w3,(-1))
theorem er63:EqF 63 (W2 r63):=fun _ _ _ => by kernel_rfl
theorem or63:IF2 r63 c63:=fun h => er63.o h
def r62 (rf:T.RF) (rb:T.RB) (d1:List (List UInt8)) (d2:List UInt8):Option (List (List UInt8) × Bool) :=
 (c63 rf d1 d2).bind fun y1 =>
 some (y1.1,decide (y1.2 ≥ 0))
theorem er62:EqF 62 (W2 r62):=fun _ _ _ => by kernel_rfl
theorem or62:IF2 r62 c62:=fun h => er62.o h
def b164 (rf:T.RF) (rb:T.RB) (d1:List Int) (d2:XL) (d3:List (List UInt8)) (d4 d5:Int):Option (List Int × XL × List (List UInt8)) :=
 bif decide (d5 < d4) then
  bif inb d5 d1.length then
   (nth d1 d5.toNat).bind fun x1 =>
   (c61 rf d2 d3 x1).bind fun y2 =>
   match y2 with
   | .inl u3 =>
     k164 rb d1 u3.1 u3.2 d4 (IntKind.i64.wrap (d5 + 1))
   | .inr w4 =>
     k164 rb d1 w4.1 w4.2 d4 (IntKind.i64.wrap (d5 + 1))
  else
   none
 else
  some (d1,d2,d3)
theorem eb164:EqB 164 (W5 b164):=fun _ _ _ => by kernel_rfl
theorem ob164:IB5 b164 k164:=fun h => eb164.o h
def r61 (rf:T.RF) (rb:T.RB) (d1:XL) (d2:List (List UInt8)) (d3:Int):Option ((XL × List (List UInt8)) ⊕ (XL × List (List UInt8))) :=
 bif inb d3 d1.length then
  (nth d1 d3.toNat).bind fun x1 =>
  bif x1.1 == 21 then
   bif x1.1 == 21 then
   some (.inl (d1,d2))
   else
   bif x1.1 == 3 then
   (c62 rf d2 x1.2.2.2.2.2).bind fun y2 =>
   bif !y2.2 then
   bif (Nat.ble (y2.1.length + 1) most) && true then
   some (.inr (d1,y2.1 ++ [x1.2.2.2.2.2]))
   else
   none
   else
   some (.inl (d1,y2.1))
   else
   (c49 rf x1).bind fun y3 =>
   (k164 rb y3 d1 d2 (y3.length:Int) 0).bind fun z4 =>
   some (.inr z4.2)
  else
  bif x1.1 == 24 then
   some (.inl (d1,d2))
  else
  bif x1.1 == 3 then
   (c62 rf d2 x1.2.2.2.2.2).bind fun y5 =>
   bif !y5.2 then
   bif (Nat.ble (y5.1.length + 1) most) && true then
   some (.inr (d1,y5.1 ++ [x1.2.2.2.2.2]))
   else
   none
   else
   some (.inl (d1,y5.1))
  else
   (c49 rf x1).bind fun y6 =>
   (k164 rb y6 d1 d2 (y6.length:Int) 0).bind fun z7 =>
   some (.inr z7.2)
 else
  none
theorem er61:EqF 61 (W3 r61):=fun _ _ _ => by kernel_rfl
theorem or61:IF3 r61 c61:=fun h => er61.o h
def r58 (rf:T.RF) (rb:T.RB) (d1:XL):Option (List (List UInt8)) :=
 (c59 rf d1 (IntKind.i64.wrap ((d1.length:Int) - 1))).bind fun y1 =>
 bif decide ((y1.length:Int) > 0) then
  (c61 rf y1 [] (IntKind.i64.wrap ((y1.length:Int) - 1))).bind fun y2 =>
  match y2 with
  | .inl u3 =>
    some u3.2
  | .inr w4 =>
    some w4.2
 else
  some []
theorem er58:EqF 58 fun a b => r58 a b:=fun _ _ _ => by kernel_rfl
theorem or58:IF1 r58 c58:=fun h => er58.o h
def r65q (rf:T.RF) (rb:T.RB) (d1:List Int) (d2:Int):Option (List Int) :=
 agN 2 (
  bif (Nat.ble (d1.length + 1) most) && true then
   some (d1 ++ [d2])
  else
   none
 )
def r65 (rf:T.RF) (rb:T.RB) (d1:List Int) (d2:Int):Option (List Int) :=
 bif (Nat.ble (d1.length + 1) most) && true then
  some (d1 ++ [d2])
 else
  none
theorem er65:EqF 65 (W2 r65q):=fun _ _ _ => by kernel_rfl
theorem sr65 (rf rb d1 d2):r65q rf rb d1 d2 = r65 rf rb d1 d2:=by
 unfold r65q r65; simp only [agN_eq,agree_self,agree_swap]
theorem or65 {d1 d2 y} (h:r65 T.rf T.rb d1 d2 = some y):c65 T.rf d1 d2 = some y:=er65.o ((sr65 _ _ _ _).trans h)
def r66 (rf:T.RF) (rb:T.RB) (d1:List Int):Option (List Int × Int) :=
 some (d1,((d1.length:Nat):Int))
theorem er66:EqF 66 fun a b => r66 a b:=fun _ _ _ => by kernel_rfl
theorem or66:IF1 r66 c66:=fun h => er66.o h
def r68 (rf:T.RF) (rb:T.RB) (d1:List Int) (d2 d3:Int):Option (List Int × Bool) :=
 bif inb d2 d1.length then
  (nth d1 d2.toNat).bind fun x1 =>
  bif inb d3 d1.length then
   (nth d1 d3.toNat).bind fun x2 =>
   some (d1,decide (x1 < x2))
  else
   none
 else
  none
theorem er68:EqF 68 (W3 r68):=fun _ _ _ => by kernel_rfl
theorem or68:IF3 r68 c68:=fun h => er68.o h
def r69q (rf:T.RF) (rb:T.RB) (d1:List Int) (d2 d3:Int):Option (List Int) :=
 bif inb d3 d1.length then
  bif inb d2 d1.length then
   agree (
   (nth d1 d3.toNat).bind fun x1 =>
   (nth d1 d2.toNat).bind fun x2 =>
   bif inb d2 d1.length then
   bif Nat.blt d2.toNat d1.length then
   bif inb d3 (setNth d1 d2.toNat x1).length then
   bif Nat.blt d3.toNat (setNth d1 d2.toNat x1).length then
   some (setNth (setNth d1 d2.toNat x1) d3.toNat x2)
   else
   none
   else
   none
   else
   none
   else
   none
   ) (
   (nth d1 d2.toNat).bind fun x1 =>
   (nth d1 d3.toNat).bind fun x2 =>
   bif inb d2 d1.length then
   bif Nat.blt d2.toNat d1.length then
   bif inb d3 (setNth d1 d2.toNat x2).length then
   bif Nat.blt d3.toNat (setNth d1 d2.toNat x2).length then
   some (setNth (setNth d1 d2.toNat x2) d3.toNat x1)
   else
   none
   else
   none
   else
   none
   else
   none
   )
  else
   none
 else
  none
def r69 (rf:T.RF) (rb:T.RB) (d1:List Int) (d2 d3:Int):Option (List Int) :=
 bif inb d3 d1.length then
  bif inb d2 d1.length then
   (nth d1 d3.toNat).bind fun x1 =>
   (nth d1 d2.toNat).bind fun x2 =>
   bif inb d2 d1.length then
   bif Nat.blt d2.toNat d1.length then
   bif inb d3 (setNth d1 d2.toNat x1).length then
   bif Nat.blt d3.toNat (setNth d1 d2.toNat x1).length then
   some (setNth (setNth d1 d2.toNat x1) d3.toNat x2)
   else
   none
   else
   none
   else
   none
   else
   none
  else
   none
 else
  none
theorem er69:EqF 69 (W3 r69q):=fun _ _ _ => by kernel_rfl
theorem sr69 (rf rb d1 d2 d3):r69q rf rb d1 d2 d3 = r69 rf rb d1 d2 d3:=by
 unfold r69q r69; simp only [agN_eq,agree_self,agree_swap]
theorem or69 {d1 d2 d3 y} (h:r69 T.rf T.rb d1 d2 d3 = some y):c69 T.rf d1 d2 d3 = some y:=er69.o ((sr69 _ _ _ _ _).trans h)
def b171 (rf:T.RF) (rb:T.RB) (d1:List Int) (d2:Int):Option (List Int) :=
 bif (IntKind.i64.wrap (Int.tdiv (IntKind.i64.wrap (d2 - 1)) 2)) == d2 then
  some d1
 else
  (c68 rf d1 d2 (IntKind.i64.wrap (Int.tdiv (IntKind.i64.wrap (d2 - 1)) 2))).bind fun y1 =>
  bif !y1.2 then
   some y1.1
  else
   (c69 rf y1.1 (IntKind.i64.wrap (Int.tdiv (IntKind.i64.wrap (d2 - 1)) 2)) d2).bind fun y2 =>
   k171 rb y2 (IntKind.i64.wrap (Int.tdiv (IntKind.i64.wrap (d2 - 1)) 2))
theorem eb171:EqB 171 (W2 b171):=fun _ _ _ => by kernel_rfl
theorem ob171:IB2 b171 k171:=fun h => eb171.o h
def r67 (rf:T.RF) (rb:T.RB) (d1:List Int) (d2:Int):Option (List Int) :=
 (k171 rb d1 d2).bind fun z1 =>
 some z1
theorem er67:EqF 67 (W2 r67):=fun _ _ _ => by kernel_rfl
theorem or67:IF2 r67 c67:=fun h => er67.o h
def r64 (rf:T.RF) (rb:T.RB) (d1:List Int) (d2:Int):Option (List Int) :=
 (c65 rf d1 d2).bind fun y1 =>
 (c66 rf y1).bind fun y2 =>
 (c67 rf y2.1 (IntKind.i64.wrap (y2.2 - 1))).bind fun y3 =>
 some y3
theorem er64:EqF 64 (W2 r64):=fun _ _ _ => by kernel_rfl
theorem or64:IF2 r64 c64:=fun h => er64.o h
def b181 (rf:T.RF) (rb:T.RB) (d1:List Int) (d2 d3:Int):Option (List Int × Int) :=
 bif decide ((IntKind.i64.wrap ((IntKind.i64.wrap (2 * d3)) + 1)) ≥ d2) then
  some (d1,d3)
 else
 bif decide ((IntKind.i64.wrap ((IntKind.i64.wrap (2 * d3)) + 1)) < 0) then
  some (d1,d3)
 else
 bif decide ((IntKind.i64.wrap ((IntKind.i64.wrap ((IntKind.i64.wrap (2 * d3)) + 1)) + 1)) < d2) then
  (c68 rf d1 (IntKind.i64.wrap ((IntKind.i64.wrap ((IntKind.i64.wrap (2 * d3)) + 1)) + 1)) (IntKind.i64.wrap ((IntKind.i64.wrap (2 * d3)) + 1))).bind fun y1 =>
  bif y1.2 then
   (c68 rf y1.1 (IntKind.i64.wrap ((IntKind.i64.wrap ((IntKind.i64.wrap (2 * d3)) + 1)) + 1)) d3).bind fun y2 =>
   bif !y2.2 then
   some (y2.1,d3)
   else
   (c69 rf y2.1 d3 (IntKind.i64.wrap ((IntKind.i64.wrap ((IntKind.i64.wrap (2 * d3)) + 1)) + 1))).bind fun y3 =>
   k181 rb y3 d2 (IntKind.i64.wrap ((IntKind.i64.wrap ((IntKind.i64.wrap (2 * d3)) + 1)) + 1))
  else
   (c68 rf y1.1 (IntKind.i64.wrap ((IntKind.i64.wrap (2 * d3)) + 1)) d3).bind fun y4 =>
   bif !y4.2 then
   some (y4.1,d3)
   else
   (c69 rf y4.1 d3 (IntKind.i64.wrap ((IntKind.i64.wrap (2 * d3)) + 1))).bind fun y5 =>
   k181 rb y5 d2 (IntKind.i64.wrap ((IntKind.i64.wrap (2 * d3)) + 1))
 else
  (c68 rf d1 (IntKind.i64.wrap ((IntKind.i64.wrap (2 * d3)) + 1)) d3).bind fun y6 =>
  bif !y6.2 then
   some (y6.1,d3)
  else
   (c69 rf y6.1 d3 (IntKind.i64.wrap ((IntKind.i64.wrap (2 * d3)) + 1))).bind fun y7 =>
   k181 rb y7 d2 (IntKind.i64.wrap ((IntKind.i64.wrap (2 * d3)) + 1))
theorem eb181:EqB 181 (W3 b181):=fun _ _ _ => by kernel_rfl
theorem ob181:IB3 b181 k181:=fun h => eb181.o h
def r71 (rf:T.RF) (rb:T.RB) (d1:List Int) (d2 d3:Int):Option (List Int × Bool) :=
 (k181 rb d1 d3 d2).bind fun z1 =>
 some (z1.1,decide (z1.2 > d2))
theorem er71:EqF 71 (W3 r71):=fun _ _ _ => by kernel_rfl
theorem or71:IF3 r71 c71:=fun h => er71.o h
def r72 (rf:T.RF) (rb:T.RB) (d1:List Int):Option (List Int × Int) :=
 bif inb (IntKind.i64.wrap ((d1.length:Int) - 1)) d1.length then
  (nth d1 (IntKind.i64.wrap ((d1.length:Int) - 1)).toNat).bind fun x1 =>
  bif inb' (IntKind.i64.wrap ((d1.length:Int) - 1)) d1.length then
   some (sub d1 (some (0,((IntKind.i64.wrap ((d1.length:Int) - 1)).toNat - 0))),x1)
  else
   none
 else
  none
theorem er72:EqF 72 fun a b => r72 a b:=fun _ _ _ => by kernel_rfl
theorem or72:IF1 r72 c72:=fun h => er72.o h
def r70 (rf:T.RF) (rb:T.RB) (d1:List Int):Option (List Int × Int) :=
 (c66 rf d1).bind fun y1 =>
 (c69 rf y1.1 0 (IntKind.i64.wrap (y1.2 - 1))).bind fun y2 =>
 (c71 rf y2 0 (IntKind.i64.wrap (y1.2 - 1))).bind fun y3 =>
 (c72 rf y3.1).bind fun y4 =>
 some y4
theorem er70:EqF 70 fun a b => r70 a b:=fun _ _ _ => by kernel_rfl
theorem or70:IF1 r70 c70:=fun h => er70.o h
def b201q (rf:T.RF) (rb:T.RB) (d1:List (List UInt8 × List Int)) (d2:List (List UInt8 × XL)) (d3 d4:Int):Option (List (List UInt8 × List Int)) :=
 bif decide (d4 < d3) then
  bif inb d4 d2.length then
   (nth d2 d4.toNat).bind fun x1 =>
   agN 1 (
   bif (Nat.ble ((assocGet (CT.eqK .str) [] d1 x1.1).length + 1) most) && true then
   bif outI (assocIx (CT.eqK .str) d1 x1.1 0) (assocIx (CT.eqK .str) d1 x1.1 0) && true then
   k201 rb (assocSet (CT.eqK .str) d1 x1.1 ((assocGet (CT.eqK .str) [] d1 x1.1) ++ [d4])) d2 d3 (IntKind.i64.wrap (d4 + 1))
   else
   none
   else
   none
   )
  else
   none
 else
  some d1
def b201 (rf:T.RF) (rb:T.RB) (d1:List (List UInt8 × List Int)) (d2:List (List UInt8 × XL)) (d3 d4:Int):Option (List (List UInt8 × List Int)) :=
 bif decide (d4 < d3) then
  bif inb d4 d2.length then
   (nth d2 d4.toNat).bind fun x1 =>
   bif (Nat.ble ((assocGet (CT.eqK .str) [] d1 x1.1).length + 1) most) && true then
   bif outI (assocIx (CT.eqK .str) d1 x1.1 0) (assocIx (CT.eqK .str) d1 x1.1 0) && true then
   k201 rb (assocSet (CT.eqK .str) d1 x1.1 ((assocGet (CT.eqK .str) [] d1 x1.1) ++ [d4])) d2 d3 (IntKind.i64.wrap (d4 + 1))
   else
   none
   else
   none
  else
   none
 else
  some d1
theorem eb201:EqB 201 (W4 b201q):=fun _ _ _ => by kernel_rfl
theorem sb201 (rf rb d1 d2 d3 d4):b201q rf rb d1 d2 d3 d4 = b201 rf rb d1 d2 d3 d4:=by
 unfold b201q b201; simp only [agN_eq,agree_self,agree_swap]
theorem ob201 {d1 d2 d3 d4 y} (h:b201 T.rf T.rb d1 d2 d3 d4 = some y):k201 T.rb d1 d2 d3 d4 = some y:=eb201.o ((sb201 _ _ _ _ _ _).trans h)
def b202 (rf:T.RF) (rb:T.RB) (d1:List (List UInt8 × List Int)) (d2:List Int) (d3:List (List Int)) (d4:List Int) (d5:List (List UInt8 × XL)) (d6 d7:Int):Option (List (List UInt8 × List Int) × List Int × List (List Int) × List Int) :=
 bif decide (d7 < d6) then
  bif inb d7 d5.length then
   (nth d5 d7.toNat).bind fun x1 =>
   (c58 rf x1.2).bind fun y2 =>
   (k203 rb d1 d2 d3 d7 y2 (y2.length:Int) 0).bind fun z3 =>
   bif inb d7 z3.2.1.length then
   (nth z3.2.1 d7.toNat).bind fun x4 =>
   bif x4 == 0 then
   (c64 rf d4 d7).bind fun y5 =>
   k202 rb z3.1 z3.2.1 z3.2.2 y5 d5 d6 (IntKind.i64.wrap (d7 + 1))
   else
   k202 rb z3.1 z3.2.1 z3.2.2 d4 d5 d6 (IntKind.i64.wrap (d7 + 1))
   else
   none
  else
   none
 else
  some (d1,d2,d3,d4)
theorem eb202:EqB 202 (W7 b202):=fun _ _ _ => by kernel_rfl
theorem ob202:IB7 b202 k202:=fun h => eb202.o h
def b203 (rf:T.RF) (rb:T.RB) (d1:List (List UInt8 × List Int)) (d2:List Int) (d3:List (List Int)) (d4:Int) (d5:List (List UInt8)) (d6 d7:Int):Option (List (List UInt8 × List Int) × List Int × List (List Int)) :=
 bif decide (d7 < d6) then
  bif inb d7 d5.length then
   (nth d5 d7.toNat).bind fun x1 =>
   (k204 rb d2 d3 d4 (assocGet (CT.eqK .str) [] d1 x1) ((((assocGet (CT.eqK .str) [] d1 x1).length:Nat):Int)) 0).bind fun z2 =>
   k203 rb d1 z2.1 z2.2 d4 d5 d6 (IntKind.i64.wrap (d7 + 1))
  else
   none
 else
  some (d1,d2,d3)
theorem eb203:EqB 203 (W7 b203):=fun _ _ _ => by kernel_rfl
theorem ob203:IB7 b203 k203:=fun h => eb203.o h
def b204 (rf:T.RF) (rb:T.RB) (d1:List Int) (d2:List (List Int)) (d3:Int) (d4:List Int) (d5 d6:Int):Option (List Int × List (List Int)) :=
 bif decide (d6 < d5) then
  bif inb d6 d4.length then
   (nth d4 d6.toNat).bind fun x1 =>
   bif inb x1 d2.length then
   (nth d2 x1.toNat).bind fun x2 =>
   bif (Nat.ble (x2.length + 1) most) && true then
   bif inb x1 d2.length then
   bif Nat.beq x1.toNat x1.toNat && ((Nat.blt x1.toNat d2.length) && true) then
   bif inb d3 d1.length then
   (nth d1 d3.toNat).bind fun x3 =>
   bif inb d3 d1.length then
   bif Nat.blt d3.toNat d1.length then
   k204 rb (setNth d1 d3.toNat (IntKind.i64.wrap (x3 + 1))) (setNth d2 x1.toNat (x2 ++ [d3])) d3 d4 d5 (IntKind.i64.wrap (d6 + 1))
   else
   none
   else
   none
   else
   none
   else
   none
   else
   none
   else
   none
   else
   none
  else
   none
 else
  some (d1,d2)
theorem eb204:EqB 204 (W6 b204):=fun _ _ _ => by kernel_rfl
theorem ob204:IB6 b204 k204:=fun h => eb204.o h
def b205 (rf:T.RF) (rb:T.RB) (d1 d2 d3:List Int) (d4:List (List Int)):Option (List Int × List Int × List Int) :=
 (c66 rf d3).bind fun y1 =>
 bif decide (y1.2 > 0) then
  (c70 rf y1.1).bind fun y2 =>
  bif (Nat.ble (d2.length + 1) most) && true then
   bif inb y2.2 d4.length then
   (nth d4 y2.2.toNat).bind fun x3 =>
   (k206 rb d1 y2.1 x3 (x3.length:Int) 0).bind fun z4 =>
   k205 rb z4.1 (d2 ++ [y2.2]) z4.2 d4
   else
   none
  else
   none
 else
  some (d1,d2,y1.1)
theorem eb205:EqB 205 (W4 b205):=fun _ _ _ => by kernel_rfl
theorem ob205:IB4 b205 k205:=fun h => eb205.o h
end
end Go.Proofs.YtadonikkibahnaaGreat.R
