/- A part of the proof: see the row's text. -/
import Derived.Test.YtehaoepopklboaaGreatDoorZh25
import Derived.Lib.ItoaLen
import Derived.Test.YtehaoepopklboaaGreatDoorZh24
import Derived.Test.YtehaoepopklboaaGreatDoorZh18
set_option linter.unusedVariables false
set_option linter.unusedSimpArgs false
noncomputable section
namespace Go.Sx.Tryz
open Go Go.Sx Go.Proofs
set_option maxRecDepth 100000
structure Wn where
 ws:List UInt8→WR
 fail:Int→WR
 lead:YF bP
 name:YF bB
 kind:YF ig
 klass:YF bP
 member:YF cz
 typed:YF b4
 params:YF [tL]
 block:YF cz
 stat:YF cz
 line:YF b4
 args:YF [tL]
 value:YF cz
 bare:YF b4
 made:YF b4
 asked:YF b4
 literal:YF b4
abbrev cI(c:UInt8):Int:=(c.toNat:Int)
def lqB(c:UInt8):List UInt8:=bif cI c==10 then [92,110]else bif cI c==9 then [92,116]else bif cI c==34 then [92,c]else bif cI c==92 then [92,c]else [c]
def kS(c:UInt8):Bool:=cI c==10||(cI c==9||(cI c==34||(cI c==92||(!decide (cI c<32)&& !decide (cI c>126)))))
def lqS(s:List UInt8):List UInt8:=bif s.all kS then [34]++s.flatMap lqB++[34]else []
def lqE(s:List UInt8):Int:=bif s.all kS then 0 else 60
def lqX(x:ai bB):ai fg:=(lqS x.1,lqE x.1,())
def Lj:List (Nat×aQ):=[(14,bg 14 bB cd cW xY),(22,ofT 22 nf),(45,bg 45 bP cd (fun _=>true) fun x=>(AO x.1,())),(48,bg 48 bP cd (fun _=>true) fun x=>(zh x.1,())),(79,bg 79 b4 bP (fun _=>true) fun x=>(zW x.1,())),
 (103,bg 103 bB bP (fun _=>true) fun x=>(dN x.1,())),(105,bg 105 bP bB (fun _=>true) fun x=>(cE x.1,())),(109,bg 109 ig bB eK HZ),(119,ofT 119 ns),(126,bg 126 ig cd eK fun x=>(CI x.1.2.2.2.1,())),(127,bg 127 bB zk gD II),(128,bg 128 bB fg gD lqX)]
def ij(p:Wn):List (Nat×aQ):=(28,wrI 28 bB xL fun _ x=>p.ws x.1)::(64,wrI 64 bP bO fun _ x=>p.fail x.1)::(81,wrI 81 bP bO p.lead)::(65,wrI 65 bB bO p.name)::(84,wrI 84 ig bO p.kind)::(29,wrI 29 bP bO p.klass)::(50,wrI 50 cz bO p.member)::
 (83,wrI 83 b4 bO p.typed)::(85,wrI 85 [tL] bO p.params)::(47,wrI 47 cz bO p.block)::(49,wrI 49 cz bO p.stat)::(82,wrI 82 b4 bO p.line)::(108,wrI 108 [tL] bO p.args)::(46,wrI 46 cz bO p.value)::(80,wrI 80 b4 bO p.bare)::(104,wrI 104 b4 bO p.made)::
 (106,wrI 106 b4 bO p.asked)::(107,wrI 107 b4 bO p.literal)::Lj
abbrev bW1(L:List Nd)(r:Int)(s:List Int)(e:Int):List (Nat×Blk):=[(0,.cells 67 [.bself 0,.own 1 1,.sl aB L,.int .i64 r,.int .i64 e]),(1,.list 5 (.int .u8) 1 false s)]
def KB:Cut:=⟨[true,false,true,false,false],some ⟨[(0,[]),(10,[.sl (.int .i64)]),(11,[]),(12,[])],[[],[]]⟩⟩
def Cs:List Cut:=[KB]
def G1(L:List Nd)(r:Int)(s:List Int)(e:Int)(K:List Int)(l k:Int):St:={tmps:=[(0,.ref 0 0),(10,.sl (.int .i64) K),(11,.int .i64 l),(12,.int .i64 k)],blks:=bW1 L r s e,next:=2}
def Ml:Cut:=⟨[true,true,true,true,false,true,false,false],some ⟨[(0,[]),(2,[]),(35,[.sl (.int .i64)]),(36,[]),(37,[])],[[],[]]⟩⟩
def Ky:List Cut:=[Ml]
def L5(L:List Nd)(r:Int)(s:List Int)(e:Int)(K:List Int)(l k d:Int):St:={tmps:=[(0,.ref 0 0),(2,.int .i64 d),(35,.sl (.int .i64) K),(36,.int .i64 l),(37,.int .i64 k)],blks:=bW1 L r s e,next:=2}
def MR:Cut:=⟨[true,true,true,true,true,true,true,false,true,false,false],some ⟨[(0,[]),(71,[.sl (.int .i64)]),(72,[]),(73,[])],[[],[]]⟩⟩
def Jj:List Cut:=[MR]
def Ng(L:List Nd)(r:Int)(s:List Int)(e:Int)(K:List Int)(l k:Int):St:={tmps:=[(0,.ref 0 0),(71,.sl (.int .i64) K),(72,.int .i64 l),(73,.int .i64 k)],blks:=bW1 L r s e,next:=2}
end Go.Sx.Tryz
namespace Go.Sx.Tryz
open Go Go.Sx Go.Proofs
set_option maxRecDepth 100000
variable{G:Nat→Obj→Prop}{p:Wn}
def w81(p:Wn)(L:List Nd)(x1:Int):WT Unit:=
 WT.C (decide (0≤x1)&&(decide (x1≤9223372036854775807)&&Nat.ble (List.length ([32,32]:List UInt8)*Int.toNat x1) 140737488355328)) (WT.B (Wn.ws p (Lib.repeatL [32,32] (Int.toNat x1))) (WT.O 1)) (WT.V 1000022)
theorem o81(hl:aT Tryz.prog G (ij p)):cp G 81 bP bO fun L x=>(w81 p L x.1).run2 ca:=df (ts:=bP) Ln hl (fun L x=>w81 p L x.1) fun L r x s e=>by
 obtain⟨x1,⟨⟩⟩:=x
 kernel_rfl
def w65(p:Wn)(L:List Nd)(x1:List UInt8):WT Unit:=
 WT.C (cW (x1,())) (WT.C (!bT x1) (WT.B (Wn.fail p 5) (WT.B (Wn.ws p x1) (WT.O 2))) (WT.B (Wn.ws p x1) (WT.O 1))) (WT.V 3000014)
theorem o65(hl:aT Tryz.prog G (ij p)):cp G 65 bB bO fun L x=>(w65 p L x.1).run2 ca:=df (ts:=bB) Ly hl (fun L x=>w65 p L x.1) fun L r x s e=>by
 obtain⟨x1,⟨⟩⟩:=x
 kernel_rfl
def w84(p:Wn)(L:List Nd)(b:Int)(n:List UInt8)(d:Int)(m:List UInt8):WT Unit:=
 let y1:WT Unit:=WT.C (eK ((b,n,d,m,()),())) (WT.B (Wn.ws p (bif bV b n d m then qO b n d m else [])) (WT.O 1)) (WT.V 3000109)
 WT.C (b==5) (WT.C (cW (n,())) (WT.C (!bT n) (WT.B (Wn.fail p 5) (WT.C (eK ((b,n,d,m,()),())) (WT.B (Wn.ws p (bif bV b n d m then qO b n d m else [])) (WT.O 2)) (WT.V 3000109))) y1) (WT.V 3000014)) y1
theorem o84(hl:aT Tryz.prog G (ij p)):cp G 84 ig bO fun L x=>(w84 p L x.1.1 x.1.2.1 x.1.2.2.1 x.1.2.2.2.1).run2 ca:=df (ts:=ig) MB hl (fun L x=>w84 p L x.1.1 x.1.2.1 x.1.2.2.1 x.1.2.2.2.1) fun L r x s e=>by
 obtain⟨⟨b,n,d,m,⟨⟩⟩,⟨⟩⟩:=x
 kernel_rfl
def w50(p:Wn)(L:List Nd)(x1:Int)(x2:Int):WT Unit:=
 let y1:WT Unit:=WT.B (Wn.lead p L (x2,())) (WT.C (ae (aj L (Int.toNat x1))==5) (WT.B (Wn.ws p [105,110,105,116]) (WT.C (inB 0 (IntKind.wrap IntKind.i64 (((List.length (aa (aj L (Int.toNat x1)))):Int)-1)) (List.length (aa (aj L (Int.toNat x1))))) (WT.B (Wn.params p L (List.drop (Int.toNat 0) (List.take (Int.toNat (IntKind.wrap IntKind.i64 (((List.length (aa (aj L (Int.toNat x1)))):Int)-1))) (aa (aj L (Int.toNat x1)))),())) (WT.B (Wn.ws p [32]) (WT.C (inI (IntKind.wrap IntKind.i64 (((List.length (aa (aj L (Int.toNat x1)))):Int)-1)) (List.length (aa (aj L (Int.toNat x1))))) (WT.B (Wn.block p L (aU (aa (aj L (Int.toNat x1))) (Int.toNat (IntKind.wrap IntKind.i64 (((List.length (aa (aj L (Int.toNat x1)))):Int)-1))),x2,())) (WT.B (Wn.ws p [10]) (WT.O 6))) (WT.V 1907)))) (WT.V 1707))) (WT.B (Wn.kind p L ((ax (aj L (Int.toNat x1)),aA (aj L (Int.toNat x1)),ak (aj L (Int.toNat x1)),ah (aj L (Int.toNat x1)),()),())) (WT.B (Wn.ws p [32]) (WT.B (Wn.name p L (aw (aj L (Int.toNat x1)),())) (WT.C (inB 0 (IntKind.wrap IntKind.i64 (((List.length (aa (aj L (Int.toNat x1)))):Int)-1)) (List.length (aa (aj L (Int.toNat x1))))) (WT.B (Wn.params p L (List.drop (Int.toNat 0) (List.take (Int.toNat (IntKind.wrap IntKind.i64 (((List.length (aa (aj L (Int.toNat x1)))):Int)-1))) (aa (aj L (Int.toNat x1)))),())) (WT.B (Wn.ws p [32]) (WT.C (inI (IntKind.wrap IntKind.i64 (((List.length (aa (aj L (Int.toNat x1)))):Int)-1)) (List.length (aa (aj L (Int.toNat x1))))) (WT.B (Wn.block p L (aU (aa (aj L (Int.toNat x1))) (Int.toNat (IntKind.wrap IntKind.i64 (((List.length (aa (aj L (Int.toNat x1)))):Int)-1))),x2,())) (WT.B (Wn.ws p [10]) (WT.O 8))) (WT.V 1907)))) (WT.V 1707))))))
 WT.C (inI x1 (List.length L)) (WT.C (ae (aj L (Int.toNat x1))==4) (WT.B (Wn.lead p L (x2,())) (WT.B (Wn.typed p L (aj L (Int.toNat x1),())) (WT.B (Wn.ws p [59,10]) (WT.O 3)))) (WT.C (ae (aj L (Int.toNat x1))==7) (WT.B (Wn.typed p L (aj L (Int.toNat x1),())) (WT.O 1)) (WT.C (ae (aj L (Int.toNat x1))==5) (WT.C (ae (aj L (Int.toNat x1))==5) y1 (WT.B (Wn.fail p 132) (WT.O 1))) (WT.C (ae (aj L (Int.toNat x1))==6) y1 (WT.B (Wn.fail p 132) (WT.O 1)))))) (WT.V 6)
theorem o50(hl:aT Tryz.prog G (ij p)):cp G 50 cz bO fun L x=>(w50 p L x.1 x.2.1).run2 ca:=df (ts:=cz) MY hl (fun L x=>w50 p L x.1 x.2.1) fun L r x s e=>by
 obtain⟨x1,x2,⟨⟩⟩:=x
 kernel_rfl
def w83(p:Wn)(L:List Nd)(x:Nd):WT Unit:=
 WT.C (ax x==6) (WT.B (Wn.fail p 132) (WT.B (Wn.kind p L ((ax x,aA x,ak x,ah x,()),())) (WT.B (Wn.ws p [32]) (WT.B (Wn.name p L (aw x,())) (WT.O 4))))) (WT.B (Wn.kind p L ((ax x,aA x,ak x,ah x,()),())) (WT.B (Wn.ws p [32]) (WT.B (Wn.name p L (aw x,())) (WT.O 3))))
theorem o83(hl:aT Tryz.prog G (ij p)):cp G 83 b4 bO fun L x=>(w83 p L x.1).run2 ca:=df (ts:=b4) LQ hl (fun L x=>w83 p L x.1) fun L r x s e=>by
 obtain⟨x,⟨⟩⟩:=x
 kernel_rfl
def w49(p:Wn)(L:List Nd)(x1:Int)(x2:Int):WT Unit:=
 WT.C (inI x1 (List.length L)) (WT.C (ae (aj L (Int.toNat x1))==8) (WT.B (Wn.block p L (x1,x2,())) (WT.O 1)) (WT.C (ae (aj L (Int.toNat x1))==11) (WT.B (Wn.ws p [105,102,32,40]) (WT.C (inI 0 (List.length (aa (aj L (Int.toNat x1))))) (WT.B (Wn.value p L (aU (aa (aj L (Int.toNat x1))) (Int.toNat 0),0,())) (WT.B (Wn.ws p [41,32]) (WT.C (inI 1 (List.length (aa (aj L (Int.toNat x1))))) (WT.B (Wn.block p L (aU (aa (aj L (Int.toNat x1))) (Int.toNat 1),x2,())) (WT.C (decide (((List.length (aa (aj L (Int.toNat x1)))):Int)>2)) (WT.B (Wn.ws p [32,101,108,115,101,32]) (WT.C (inI 2 (List.length (aa (aj L (Int.toNat x1))))) (WT.B (Wn.block p L (aU (aa (aj L (Int.toNat x1))) (Int.toNat 2),x2,())) (WT.O 6)) (WT.V 1103))) (WT.O 4))) (WT.V 803)))) (WT.V 603))) (WT.C (ae (aj L (Int.toNat x1))==12) (WT.B (Wn.ws p [119,104,105,108,101,32,40]) (WT.C (inI 0 (List.length (aa (aj L (Int.toNat x1))))) (WT.B (Wn.value p L (aU (aa (aj L (Int.toNat x1))) (Int.toNat 0),0,())) (WT.B (Wn.ws p [41,32]) (WT.C (inI 1 (List.length (aa (aj L (Int.toNat x1))))) (WT.B (Wn.block p L (aU (aa (aj L (Int.toNat x1))) (Int.toNat 1),x2,())) (WT.O 4)) (WT.V 1603)))) (WT.V 1403))) (WT.B (Wn.line p L (aj L (Int.toNat x1),())) (WT.B (Wn.ws p [59]) (WT.O 2)))))) (WT.V 6)
theorem o49(hl:aT Tryz.prog G (ij p)):cp G 49 cz bO fun L x=>(w49 p L x.1 x.2.1).run2 ca:=df (ts:=cz) Mp hl (fun L x=>w49 p L x.1 x.2.1) fun L r x s e=>by
 obtain⟨x1,x2,⟨⟩⟩:=x
 kernel_rfl
def w82(p:Wn)(L:List Nd)(x:Nd):WT Unit:=
 let y1:WT Unit:=WT.B (Wn.value p L (aU (aa x) (Int.toNat 0),0,())) (WT.O 3)
 let y2:WT Unit:=WT.C (inI 0 (List.length (aa x))) (WT.B (Wn.value p L (aU (aa x) (Int.toNat 0),0,())) (WT.B (Wn.ws p [32,61,32]) (WT.C (inI 1 (List.length (aa x))) (WT.B (Wn.value p L (aU (aa x) (Int.toNat 1),0,())) (WT.O 3)) (WT.V 1403)))) (WT.V 1203)
 let y3:WT Unit:=WT.C (inI 0 (List.length (aa x))) (WT.B (Wn.value p L (aU (aa x) (Int.toNat 0),0,())) (WT.O 1)) (WT.V 3503)
 WT.C (ae x==9) (WT.B (Wn.typed p L (x,())) (WT.C (decide (((List.length (aa x)):Int)>0)) (WT.B (Wn.ws p [32,61,32]) (WT.C (inI 0 (List.length (aa x))) y1 (WT.V 703))) (WT.O 1))) (WT.C (ae x==10) (WT.C (inI 0 (List.length (aa x))) (WT.C (inI (aU (aa x) (Int.toNat 0)) (List.length L)) (WT.C (ae (aj L (Int.toNat (aU (aa x) (Int.toNat 0)))) !=25) (WT.C (ae (aj L (Int.toNat (aU (aa x) (Int.toNat 0)))) !=26) (WT.C (ae (aj L (Int.toNat (aU (aa x) (Int.toNat 0)))) !=27) (WT.B (Wn.fail p 132) (WT.C (inI 0 (List.length (aa x))) (WT.B (Wn.value p L (aU (aa x) (Int.toNat 0),0,())) (WT.B (Wn.ws p [32,61,32]) (WT.C (inI 1 (List.length (aa x))) (WT.B (Wn.value p L (aU (aa x) (Int.toNat 1),0,())) (WT.O 4)) (WT.V 1403)))) (WT.V 1203))) y2) y2) y2) (WT.V 909)) (WT.V 907)) (WT.C (ae x==13) (WT.B (Wn.ws p [98,114,101,97,107]) (WT.O 1)) (WT.C (ae x==14) (WT.B (Wn.ws p [99,111,110,116,105,110,117,101]) (WT.O 1)) (WT.C (ae x==15) (WT.B (Wn.ws p [114,101,116,117,114,110]) (WT.C (decide (((List.length (aa x)):Int)>0)) (WT.B (Wn.ws p [32]) (WT.C (inI 0 (List.length (aa x))) y1 (WT.V 2303))) (WT.O 1))) (WT.C (ae x==16) (WT.B (Wn.ws p [112,114,105,110,116,40]) (WT.C (inI 0 (List.length (aa x))) (WT.B (Wn.value p L (aU (aa x) (Int.toNat 0),0,())) (WT.B (Wn.ws p [41]) (WT.O 3))) (WT.V 2603))) (WT.C (ae x==17) (WT.B (Wn.ws p [115,117,112,101,114]) (WT.B (Wn.args p L (aa x,())) (WT.O 2))) (WT.C (ae x==18) (WT.C (inI 0 (List.length (aa x))) (WT.C (inI (aU (aa x) (Int.toNat 0)) (List.length L)) (WT.C (ae (aj L (Int.toNat (aU (aa x) (Int.toNat 0)))) !=29) (WT.C (ae (aj L (Int.toNat (aU (aa x) (Int.toNat 0)))) !=30) (WT.B (Wn.fail p 132) (WT.C (inI 0 (List.length (aa x))) (WT.B (Wn.value p L (aU (aa x) (Int.toNat 0),0,())) (WT.O 2)) (WT.V 3503))) y3) y3) (WT.V 3209)) (WT.V 3207)) (WT.B (Wn.fail p 132) (WT.O 1)))))))))
theorem o82(hl:aT Tryz.prog G (ij p)):cp G 82 b4 bO fun L x=>(w82 p L x.1).run2 ca:=df (ts:=b4) M5 hl (fun L x=>w82 p L x.1) fun L r x s e=>by
 obtain⟨x,⟨⟩⟩:=x
 kernel_rfl
def w46(p:Wn)(L:List Nd)(x1:Int)(x2:Int):WT Unit:=
 WT.C (inI x1 (List.length L)) (WT.C (!AO (ae (aj L (Int.toNat x1)))) (WT.B (Wn.fail p 132) (WT.O 1)) (WT.C (decide (zW (aj L (Int.toNat x1))<x2)) (WT.B (Wn.ws p [40]) (WT.B (Wn.bare p L (aj L (Int.toNat x1),())) (WT.B (Wn.ws p [41]) (WT.O 3)))) (WT.B (Wn.bare p L (aj L (Int.toNat x1),())) (WT.O 1)))) (WT.V 6)
theorem o46(hl:aT Tryz.prog G (ij p)):cp G 46 cz bO fun L x=>(w46 p L x.1 x.2.1).run2 ca:=df (ts:=cz) K1 hl (fun L x=>w46 p L x.1 x.2.1) fun L r x s e=>by
 obtain⟨x1,x2,⟨⟩⟩:=x
 kernel_rfl
def w80(p:Wn)(L:List Nd)(x:Nd):WT Unit:=
 let y1:WT Unit:=WT.C (inI 0 (List.length (aa x))) (WT.B (Wn.value p L (aU (aa x) (Int.toNat 0),4,())) (WT.C (ae x==43) (WT.B (Wn.ws p [32,105,115,32,115,111,109,101]) (WT.O 2)) (WT.B (Wn.ws p [32,105,115,32,110,111,110,101]) (WT.O 2)))) (WT.V 1203)
 let y2:WT Unit:=WT.B (Wn.value p L (aU (aa x) (Int.toNat 0),7,())) (WT.O 2)
 let y3:WT Unit:=WT.B (Wn.made p L (x,())) (WT.O 1)
 let y4:WT Unit:=WT.C (decide (List.length (cE (ae x))+List.length ([40]:List UInt8)<2^62)) (WT.B (Wn.ws p (cE (ae x)++[40])) (WT.C (inI 0 (List.length (aa x))) (WT.B (Wn.value p L (aU (aa x) (Int.toNat 0),0,())) (WT.B (Wn.ws p [41]) (WT.O 3))) (WT.V 3803))) (WT.V 3706)
 let y5:WT Unit:=WT.B (Wn.asked p L (x,())) (WT.O 1)
 let y6:WT Unit:=WT.B (Wn.literal p L (x,())) (WT.O 1)
 let y7:WT Unit:=WT.C (ae x==26) (WT.C (ae x==26) y5 y6) (WT.C (ae x==27) (WT.C (ae x==27) y5 y6) (WT.C (ae x==28) (WT.C (ae x==28) y5 y6) (WT.C (ae x==29) (WT.C (ae x==29) y5 y6) (WT.C (ae x==40) (WT.C (ae x==40) y5 y6) (WT.C (ae x==45) y5 y6)))))
 let y8:WT Unit:=WT.C (ae x==36) (WT.C (ae x==36) y4 y7) (WT.C (ae x==37) (WT.C (ae x==37) y4 y7) (WT.C (ae x==39) (WT.C (ae x==39) y4 y7) (WT.C (ae x==41) y4 y7)))
 let y9:WT Unit:=WT.C (ae x==32) (WT.B (Wn.ws p [45]) (WT.C (inI 0 (List.length (aa x))) y2 (WT.V 1803))) (WT.C (ae x==33) (WT.B (Wn.ws p [33]) (WT.C (inI 0 (List.length (aa x))) y2 (WT.V 2103))) (WT.C (ae x==35) (WT.B (Wn.ws p [99,97,115,116,60]) (WT.C (ax x==6) (WT.B (Wn.fail p 132) (WT.B (Wn.kind p L ((ax x,aA x,ak x,ah x,()),())) (WT.B (Wn.ws p [62,40]) (WT.C (inI 0 (List.length (aa x))) (WT.B (Wn.value p L (aU (aa x) (Int.toNat 0),0,())) (WT.B (Wn.ws p [41]) (WT.O 6))) (WT.V 2803))))) (WT.B (Wn.kind p L ((ax x,aA x,ak x,ah x,()),())) (WT.B (Wn.ws p [62,40]) (WT.C (inI 0 (List.length (aa x))) (WT.B (Wn.value p L (aU (aa x) (Int.toNat 0),0,())) (WT.B (Wn.ws p [41]) (WT.O 5))) (WT.V 2803)))))) (WT.C (ae x==30) (WT.C (ae x==30) y3 y8) (WT.C (ae x==31) y3 y8))))
 WT.C (ae x==34) (WT.C (dN (aw x)==0) (WT.B (Wn.fail p 5) (WT.C (inI 0 (List.length (aa x))) (WT.B (Wn.value p L (aU (aa x) (Int.toNat 0),dN (aw x),())) (WT.C (decide (List.length ([32]:List UInt8)+List.length (aw x)<2^62)) (WT.C (decide (List.length ([32]++aw x)+List.length ([32]:List UInt8)<2^62)) (WT.B (Wn.ws p ([32]++aw x++[32])) (WT.C (inI 1 (List.length (aa x))) (WT.B (Wn.value p L (aU (aa x) (Int.toNat 1),IntKind.wrap IntKind.i64 (dN (aw x)+1),())) (WT.O 4)) (WT.V 903))) (WT.V 806)) (WT.V 805))) (WT.V 703))) (WT.C (inI 0 (List.length (aa x))) (WT.B (Wn.value p L (aU (aa x) (Int.toNat 0),dN (aw x),())) (WT.C (decide (List.length ([32]:List UInt8)+List.length (aw x)<2^62)) (WT.C (decide (List.length ([32]++aw x)+List.length ([32]:List UInt8)<2^62)) (WT.B (Wn.ws p ([32]++aw x++[32])) (WT.C (inI 1 (List.length (aa x))) (WT.B (Wn.value p L (aU (aa x) (Int.toNat 1),IntKind.wrap IntKind.i64 (dN (aw x)+1),())) (WT.O 3)) (WT.V 903))) (WT.V 806)) (WT.V 805))) (WT.V 703))) (WT.C (ae x==43) (WT.C (ae x==43) y1 y9) (WT.C (ae x==44) y1 y9))
theorem o80(hl:aT Tryz.prog G (ij p)):cp G 80 b4 bO fun L x=>(w80 p L x.1).run2 ca:=df (ts:=b4) Ns hl (fun L x=>w80 p L x.1) fun L r x s e=>by
 obtain⟨x,⟨⟩⟩:=x
 kernel_rfl
def Fx(p:Wn)(L:List Nd)(x:Nd):WT Unit:=
 let y1:WT Unit:=WT.B (Wn.fail p 5) (WT.B (Wn.kind p L ((ax x,aA x,ak x,ah x,()),())) (WT.C (ae x==30) (WT.B (Wn.args p L (aa x,())) (WT.O 4)) (WT.B (Wn.ws p [91]) (WT.C (inI 0 (List.length (aa x))) (WT.B (Wn.value p L (aU (aa x) (Int.toNat 0),0,())) (WT.B (Wn.ws p [93]) (WT.O 6))) (WT.V 903)))))
 let y2:WT Unit:=WT.B (Wn.kind p L ((ax x,aA x,ak x,ah x,()),())) (WT.C (ae x==30) (WT.B (Wn.args p L (aa x,())) (WT.O 3)) (WT.B (Wn.ws p [91]) (WT.C (inI 0 (List.length (aa x))) (WT.B (Wn.value p L (aU (aa x) (Int.toNat 0),0,())) (WT.B (Wn.ws p [93]) (WT.O 5))) (WT.V 903))))
 WT.B (Wn.ws p [110,101,119,32]) (WT.C (inI (ak x) (List.length (ah x))) (WT.C (ax x==6) y1 (WT.C ((↑(UInt8.toNat (List.getD (ah x) (Int.toNat (ak x)) 0)):Int)==111) y1 (WT.C (ae x==30) (WT.C (ax x !=5) y1 (WT.C (decide (ak x>0)) y1 (WT.C (eK ((ax x,aA x,ak x,ah x,()),())) (WT.C (!CI (ah x)) y1 y2) (WT.V 3000126)))) y2))) (WT.V 206))
theorem o104(hl:aT Tryz.prog G (ij p)):cp G 104 b4 bO fun L x=>(Fx p L x.1).run2 ca:=df (ts:=b4) GY hl (fun L x=>Fx p L x.1) fun L r x s e=>by
 obtain⟨x,⟨⟩⟩:=x
 kernel_rfl
def Gk(p:Wn)(L:List Nd)(x:Nd):WT Unit:=
 WT.C (inI 0 (List.length (aa x))) (WT.B (Wn.value p L (aU (aa x) (Int.toNat 0),8,())) (WT.C (ae x==27) (WT.B (Wn.ws p [91]) (WT.C (inI 1 (List.length (aa x))) (WT.B (Wn.value p L (aU (aa x) (Int.toNat 1),0,())) (WT.B (Wn.ws p [93]) (WT.O 4))) (WT.V 903))) (WT.C (ae x==28) (WT.B (Wn.ws p [46,108,101,110,103,116,104]) (WT.O 2)) (WT.C (ae x==45) (WT.B (Wn.ws p [46,118,97,108]) (WT.O 2)) (WT.C (ae x==40) (WT.B (Wn.ws p [33]) (WT.O 2)) (WT.B (Wn.ws p [46]) (WT.B (Wn.name p L (aw x,())) (WT.C (ae x==29) (WT.C (inB 1 ((List.length (aa x)):Int) (List.length (aa x))) (WT.B (Wn.args p L (List.drop (Int.toNat 1) (List.take (Int.toNat ((List.length (aa x)):Int)) (aa x)),())) (WT.O 4)) (WT.V 603)) (WT.O 3))))))))) (WT.V 103)
theorem o106(hl:aT Tryz.prog G (ij p)):cp G 106 b4 bO fun L x=>(Gk p L x.1).run2 ca:=df (ts:=b4) Gx hl (fun L x=>Gk p L x.1) fun L r x s e=>by
 obtain⟨x,⟨⟩⟩:=x
 kernel_rfl
def Gj(p:Wn)(L:List Nd)(x:Nd):WT Unit:=
 WT.C (ae x==19) (WT.C (decide (nN x<0)) (WT.B (Wn.fail p 1) (WT.C (decide (10=10)&&(decide (-9223372036854775808≤nN x)&&decide (nN x≤9223372036854775807))) (WT.B (Wn.ws p (Lib.itoa (nN x))) (WT.O 2)) (WT.V 1000119))) (WT.C (decide (10=10)&&(decide (-9223372036854775808≤nN x)&&decide (nN x≤9223372036854775807))) (WT.B (Wn.ws p (Lib.itoa (nN x))) (WT.O 1)) (WT.V 1000119))) (WT.C (ae x==20) (WT.C (gD (aw x,())) (WT.C (Prod.snd (lj (aw x)) !=0) (WT.B (Wn.fail p (Prod.snd (lj (aw x)))) (WT.B (Wn.ws p (aw x)) (WT.O 2))) (WT.B (Wn.ws p (aw x)) (WT.O 1))) (WT.V 3000127)) (WT.C (ae x==22) (WT.C (gD (aw x,())) (WT.C (lqE (aw x) !=0) (WT.B (Wn.fail p (lqE (aw x))) (WT.B (Wn.ws p (lqS (aw x))) (WT.O 2))) (WT.B (Wn.ws p (lqS (aw x))) (WT.O 1))) (WT.V 3000128)) (WT.C (ae x==21) (WT.C (nN x==0) (WT.B (Wn.ws p [102,97,108,115,101]) (WT.O 1)) (WT.C (nN x==1) (WT.B (Wn.ws p [116,114,117,101]) (WT.O 1)) (WT.B (Wn.fail p 1) (WT.O 1)))) (WT.C (ae x==25) (WT.B (Wn.name p L (aw x,())) (WT.O 1)) (WT.C (ae x==38) (WT.B (Wn.ws p [105,110,112,117,116,40,41]) (WT.O 1)) (WT.B (Wn.ws p (cE (ae x))) (WT.O 1)))))))
theorem o107(hl:aT Tryz.prog G (ij p)):cp G 107 b4 bO fun L x=>(Gj p L x.1).run2 ca:=df (ts:=b4) Hf hl (fun L x=>Gj p L x.1) fun L r x s e=>by
 obtain⟨x,⟨⟩⟩:=x
 kernel_rfl
def w85(p:Wn)(L:List Nd)(x:List Int):WT (List Int×Int×Int):=
 WT.B (Wn.ws p [40]) (WT.J (x,((List.length x):Int),0))
def v85(p:Wn)(L:List Nd)(z:List Int×Int×Int):WT (List Int×Int×Int):=
 let K:=z.1
 let l:=z.2.1
 let k:=z.2.2
 let y1:WT (List Int×Int×Int):=WT.J (K,l,IntKind.wrap IntKind.i64 (k+1))
 let y2:WT (List Int×Int×Int):=WT.C (inI (aU K (Int.toNat k)) (List.length L)) (WT.C (ae (aj L (Int.toNat (aU K (Int.toNat k)))) !=7) (WT.B (Wn.fail p 132) y1) (WT.B (Wn.member p L (aU K (Int.toNat k),0,())) y1)) (WT.V 606)
 WT.C (decide (k<l)) (WT.C (inI k (List.length K)) (WT.C (decide (k>0)) (WT.B (Wn.ws p [44,32]) y2) y2) (WT.V 301)) (WT.B (Wn.ws p [41]) (WT.O 2))
theorem o85(hl:aT Tryz.prog G (ij p)):cp G 85 [tL] bO fun L x=>(w85 p L x.1).run2 (lpW (v85 p L) (x.1.length+1)):=nv (ts:=[tL]) (σ:=(List Int×Int×Int)) (cs:=Cs) (c:=KB) (mk:=fun L r=>fun x s e=>G1 L r s e x.1 x.2.1 x.2.2) No hl (fun L x=>w85 p L x.1) (v85 p) (fun L x=>x.1.length+1) (fun J L r x s e=>by
 obtain⟨x,⟨⟩⟩:=x
 kernel_rfl) (fun J L r z s e=>by
 obtain⟨K,l,k⟩:=z
 kernel_rfl) rfl
def Bf(p:Wn)(L:List Nd)(x:List Int):WT (List Int×Int×Int):=
 WT.B (Wn.ws p [40]) (WT.J (x,((List.length x):Int),0))
def tC(p:Wn)(L:List Nd)(z:List Int×Int×Int):WT (List Int×Int×Int):=
 let K:=z.1
 let l:=z.2.1
 let k:=z.2.2
 let y1:WT (List Int×Int×Int):=WT.B (Wn.value p L (aU K (Int.toNat k),0,())) (WT.J (K,l,IntKind.wrap IntKind.i64 (k+1)))
 WT.C (decide (k<l)) (WT.C (inI k (List.length K)) (WT.C (decide (k>0)) (WT.B (Wn.ws p [44,32]) y1) y1) (WT.V 301)) (WT.B (Wn.ws p [41]) (WT.O 2))
theorem o108(hl:aT Tryz.prog G (ij p)):cp G 108 [tL] bO fun L x=>(Bf p L x.1).run2 (lpW (tC p L) (x.1.length+1)):=nv (ts:=[tL]) (σ:=(List Int×Int×Int)) (cs:=Cs) (c:=KB) (mk:=fun L r=>fun x s e=>G1 L r s e x.1 x.2.1 x.2.2) Hp hl (fun L x=>Bf p L x.1) (tC p) (fun L x=>x.1.length+1) (fun J L r x s e=>by
 obtain⟨x,⟨⟩⟩:=x
 kernel_rfl) (fun J L r z s e=>by
 obtain⟨K,l,k⟩:=z
 kernel_rfl) rfl
def w47(p:Wn)(L:List Nd)(x1:Int)(x2:Int):WT (List Int×Int×Int×Int):=
 WT.C (inI x1 (List.length L)) (WT.C (ae (aj L (Int.toNat x1)) !=8) (WT.B (Wn.fail p 132) (WT.O 1)) (WT.C (((List.length (aa (aj L (Int.toNat x1)))):Int)==0) (WT.B (Wn.ws p [123,125]) (WT.O 1)) (WT.B (Wn.ws p [123,10]) (WT.J (aa (aj L (Int.toNat x1)),((List.length (aa (aj L (Int.toNat x1)))):Int),0,x2))))) (WT.V 6)
def v47(p:Wn)(L:List Nd)(z:List Int×Int×Int×Int):WT (List Int×Int×Int×Int):=
 let K:=z.1
 let l:=z.2.1
 let k:=z.2.2.1
 let d:=z.2.2.2
 WT.C (decide (k<l)) (WT.C (inI k (List.length K)) (WT.B (Wn.lead p L (IntKind.wrap IntKind.i64 (d+1),())) (WT.B (Wn.stat p L (aU K (Int.toNat k),IntKind.wrap IntKind.i64 (d+1),())) (WT.B (Wn.ws p [10]) (WT.J (K,l,IntKind.wrap IntKind.i64 (k+1),d))))) (WT.V 800)) (WT.B (Wn.lead p L (d,())) (WT.B (Wn.ws p [125]) (WT.O 3)))
theorem o47(hl:aT Tryz.prog G (ij p)):cp G 47 cz bO fun L x=>(w47 p L x.1 x.2.1).run2 (lpW (v47 p L) ((aa (aj L x.1.toNat)).length+1)):=nv (ts:=cz) (σ:=(List Int×Int×Int×Int)) (cs:=Ky) (c:=Ml) (mk:=fun L r=>fun x s e=>L5 L r s e x.1 x.2.1 x.2.2.1 x.2.2.2) Lt hl (fun L x=>w47 p L x.1 x.2.1) (v47 p) (fun L x=>(aa (aj L x.1.toNat)).length+1) (fun J L r x s e=>by
 obtain⟨x1,x2,⟨⟩⟩:=x
 kernel_rfl) (fun J L r z s e=>by
 obtain⟨K,l,k,d⟩:=z
 kernel_rfl) rfl
def w29(p:Wn)(L:List Nd)(x1:Int):WT (List Int×Int×Int):=
 let y1:WT (List Int×Int×Int):=WT.B (Wn.ws p [32,123,10]) (WT.J (aa (aj L (Int.toNat x1)),((List.length (aa (aj L (Int.toNat x1)))):Int),0))
 WT.C (inI x1 (List.length L)) (WT.C (ae (aj L (Int.toNat x1)) !=2) (WT.B (Wn.fail p 132) (WT.O 1)) (WT.B (Wn.ws p [99,108,97,115,115,32]) (WT.B (Wn.name p L (aw (aj L (Int.toNat x1)),())) (WT.C (decide (((List.length (aa (aj L (Int.toNat x1)))):Int)>0)) (WT.C (inI 0 (List.length (aa (aj L (Int.toNat x1))))) (WT.C (inI (aU (aa (aj L (Int.toNat x1))) (Int.toNat 0)) (List.length L)) (WT.C (ae (aj L (Int.toNat (aU (aa (aj L (Int.toNat x1))) (Int.toNat 0))))==3) (WT.B (Wn.ws p [32,101,120,116,101,110,100,115,32]) (WT.C (inI 0 (List.length (aa (aj L (Int.toNat x1))))) (WT.C (inI (aU (aa (aj L (Int.toNat x1))) (Int.toNat 0)) (List.length L)) (WT.B (Wn.name p L (aw (aj L (Int.toNat (aU (aa (aj L (Int.toNat x1))) (Int.toNat 0)))),())) (WT.C (inB 1 ((List.length (aa (aj L (Int.toNat x1)))):Int) (List.length (aa (aj L (Int.toNat x1))))) (WT.B (Wn.ws p [32,123,10]) (WT.J (List.drop (Int.toNat 1) (List.take (Int.toNat ((List.length (aa (aj L (Int.toNat x1)))):Int)) (aa (aj L (Int.toNat x1)))),((List.length (List.drop (Int.toNat 1) (List.take (Int.toNat ((List.length (aa (aj L (Int.toNat x1)))):Int)) (aa (aj L (Int.toNat x1)))))):Int),0))) (WT.V 901))) (WT.V 809)) (WT.V 807))) y1) (WT.V 612)) (WT.V 610)) y1)))) (WT.V 6)
def v29(p:Wn)(L:List Nd)(z:List Int×Int×Int):WT (List Int×Int×Int):=
 let K:=z.1
 let l:=z.2.1
 let k:=z.2.2
 let y1:WT (List Int×Int×Int):=WT.B (Wn.member p L (aU K (Int.toNat k),1,())) (WT.J (K,l,IntKind.wrap IntKind.i64 (k+1)))
 WT.C (decide (k<l)) (WT.C (inI k (List.length K)) (WT.C (inI (aU K (Int.toNat k)) (List.length L)) (WT.C (ae (aj L (Int.toNat (aU K (Int.toNat k))))==7) (WT.B (Wn.fail p 132) y1) y1) (WT.V 1406)) (WT.V 1300)) (WT.B (Wn.ws p [125,10]) (WT.O 2))
theorem o29(hl:aT Tryz.prog G (ij p)):cp G 29 bP bO fun L x=>(w29 p L x.1).run2 (lpW (v29 p L) ((aa (aj L x.1.toNat)).length+1)):=nv (ts:=bP) (σ:=(List Int×Int×Int)) (cs:=Jj) (c:=MR) (mk:=fun L r=>fun x s e=>Ng L r s e x.1 x.2.1 x.2.2) Nh hl (fun L x=>w29 p L x.1) (v29 p) (fun L x=>(aa (aj L x.1.toNat)).length+1) (fun J L r x s e=>by
 obtain⟨x1,⟨⟩⟩:=x
 kernel_rfl) (fun J L r z s e=>by
 obtain⟨K,l,k⟩:=z
 kernel_rfl) rfl
end Go.Sx.Tryz
namespace Go.Sx.Tryz
open Go Go.Sx Go.Proofs
set_option maxRecDepth 100000
theorem Gt(s:List Int)(t:List UInt8)(h:s.length+(bo t).length<ar):body (R:=R0) E (an jD) BR [.ref 0 0,.str t] (bsB s) .ok=
  .ok (.ret (.tup [.int .i64 t.length,.nili]),[.cells 65 [.bself 0,.own 1 1],.list 5 (.int .u8) 1 false (s++bo t)]):=by
 have h1:body (R:=R0) E (an jD) BR [.ref 0 0,.str t] (bsB s) .ok=(bif decide (s.length+(bo t).length<ar)then .ok (.ret (.tup [.int .i64 t.length,.nili]),[.cells 65 [.bself 0,.own 1 1],.list 5 (.int .u8) 1 false (s++bo t)])else .err 206):=by kernel_rfl
 rw[h1]
 simp only[h,decide_true,cond_true]
def wsC:aQ:=fun R args bs k=>match args,bs with
 |[.ref 0 0,.str t],[.cells 65 [.bself 0,.own 1 0],.list 5 (.int .u8) 0 false s]=>(match decide (List.length s+(bo t).length<ar)with
  |true=>k (.ret (.tup [.int .i64 t.length,.nili]),[.cells 65 [.bself 0,.own 1 1],.list 5 (.int .u8) 1 false (app s (bo t))])
  |false=>.err 51)
 |_,_=>.err 51
theorem I2{w0:World}(t:TabsW w0):aK Tryz.prog (GW w0) 28 wsC:=fun R args bs k r hr=>by
 unfold wsC at hr
 split at hr
 ·split at hr
  ·rename_i hd
   exact⟨_,hr,bb (aS []) (Co t) Ib (Gt _ _ (of_decide_eq_true hd))⟩
  ·cases hr
 ·cases hr
end Go.Sx.Tryz
namespace Go.Sx.Tryz
open Go Go.Sx Go.Proofs
set_option maxRecDepth 100000
def sY:List (Nat×aQ):=[(120,pD 120 [[.bself,.own 5 (.int .u8)]] (l6 120 wbC)),(28,l6 28 wsC),(30,ofT 30 (fx 65 5))]
def tl:List Cut:=[⟨[true,true,true,false,true,false,false],some ⟨[(0,[]),(4,[]),(9,[]),(10,[])],[[.bself,.own 5 (.int .u8)]]⟩⟩]
def oa(s:List UInt8)(o:List Int)(l k:Int):St:={tmps:=[(0,.str s),(4,.ref 0 0),(9,.int .i64 l),(10,.int .i64 k)],blks:=[(0,.cells 65 [.bself 0,.own 1 0]),(1,.list 5 (.int .u8) 0 false o)],next:=2}
theorem DA(J:Jump R0)(s:List UInt8):start (R:=R0) E (an sY) qH tl J [.str s] [] .ok=J 0 (oa s [34] s.length 0):=by kernel_rfl
def r7:R0:=(.ret (.tup [.str [],.int .i64 60]),[])
def mE(J:Jump R0)(s:List UInt8)(o:List Int)(l k:Int):Rs R0:=J 0 (oa s o l (IntKind.wrap .i64 (k+1)))
def Ds(J:Jump R0)(s:List UInt8)(o:List Int)(l k:Int)(c:Int):Rs R0:=
 bif c==10 then bif decide (o.length+(bo [92,110]).length<ar)then mE J s (app o (bo [92,110])) l k else .err 51 else
 bif c==9 then bif decide (o.length+(bo [92,116]).length<ar)then mE J s (app o (bo [92,116])) l k else .err 51 else
 bif c==34 then bif decide (o.length+1<ar)then bif decide ((app o [92]).length+1<ar)then mE J s (app (app o [92]) [c]) l k else .err 17 else .err 17 else
 bif c==92 then bif decide (o.length+1<ar)then bif decide ((app o [92]).length+1<ar)then mE J s (app (app o [92]) [c]) l k else .err 17 else .err 17 else
 bif decide (c<32)then .ok r7 else bif decide (c>126)then .ok r7 else
 bif decide (o.length+1<ar)then mE J s (app o [c]) l k else .err 17
theorem yf(J:Jump R0)(s:List UInt8)(o:List Int)(l k:Int):resume (R:=R0) E (an sY) (aR 0 tl 0) J [true,true,true,false,true,false,false] qH.code 1 (oa s o l k) (bX E 0 qH.results .ok)=bif decide (k<l)then bif inI k s.length then Ds J s o l k (cI (List.getD s k.toNat 0))else .err 602 else bif decide (o.length+1<ar)then bif List.all (app o [34]) isByte&&Nat.ble (app o [34]).length 9223372036854775807 then .ok (.ret (.tup [.str (cC (app o [34])),.int .i64 0]),[])else .err 1000030 else .err 17:=by kernel_rfl
def lqR(o r:List UInt8):R0:=bif r.all kS then(.ret (.tup [.str (o++r.flatMap lqB++[34]),.int .i64 0]),[])else r7
abbrev mB(n:Nat):Jump R0:=pieces (R:=R0) E (an sY) qH tl 0 .ok n
theorem ye{s:List UInt8}(hs:s.length≤1099511627776):∀(r pre o:List UInt8),s=pre++r→o.length+2*r.length+1<ar→∃n,mB n 0 (oa s (bo o) s.length pre.length)= .ok (lqR o r)
 |[],pre,o,hp,hr=>by
  refine⟨1,((aW rfl).trans (yf (mB 0) s (bo o) s.length pre.length)).trans ?_⟩
  have h1:decide ((pre.length:Int)<(s.length:Int))=false:=decide_eq_false (by rw[hp,List.append_nil];omega)
  have h2:decide ((bo o).length+1<ar)=true:=decide_eq_true (by rw[bI];simp only[List.length_nil]at hr;omega)
  have e1:app (bo o) [34]=bo (o++[34]):=(lg o [34]).symm
  have hmr:ar=68719476736:=rfl
  have h3:(List.all (app (bo o) [34]) isByte&&Nat.ble (app (bo o) [34]).length 9223372036854775807)=true:=by
   rw[e1,l8,bI,Bool.true_and]
   simp only[List.length_nil]at hr
   exact Nat.ble_eq_true_of_le (by simp only[List.length_append,List.length_singleton];omega)
  rw[h1,h2,h3,e1,jT]
  simp only[cond_true,cond_false,lqR,List.all_nil,List.flatMap_nil,List.append_nil]
 |c::r,pre,o,hp,hr=>by
  have hlen:pre.length+1+r.length=s.length:=by rw[hp];simp;omega
  have h1:decide ((pre.length:Int)<(s.length:Int))=true:=decide_eq_true (by omega)
  have h2:inI (pre.length:Int) s.length=true:=cq (by omega) (by omega)
  have h3:List.getD s ((pre.length:Int)).toNat 0=c:=by rw[Int.toNat_natCast,hp];simp
  have h4:IntKind.wrap .i64 ((pre.length:Int)+1)=((pre++[c]).length:Nat):=by
   rw[wrap64 (by omega) (by omega)];simp
  have hmr:ar=68719476736:=rfl
  have next:∀(b:List UInt8),lqB c=b→b.length≤2→kS c=true→∃n,mE (mB n) s (app (bo o) (bo b)) s.length pre.length= .ok (lqR o (c::r)):=fun b hb hb2 hok=>by
   obtain⟨n,hn⟩:=ye hs r (pre++[c]) (o++b) (by rw[hp];simp) (by simp only[List.length_append,List.length_cons]at hr⊢;omega)
   refine⟨n,?_⟩
   unfold mE
   rw[h4,show app (bo o) (bo b)=bo (o++b)from(lg o b).symm,hn]
   unfold lqR
   rw[List.all_cons,hok,Bool.true_and,List.flatMap_cons,hb,List.append_assoc,List.append_assoc,List.append_assoc,List.append_assoc]
  have fin:∀x,(∃n,Ds (mB n) s (bo o) s.length pre.length (cI c)=x)→∃n,mB n 0 (oa s (bo o) s.length pre.length)=x:=fun x ⟨n,hn⟩=>by
   refine⟨n+1,((aW rfl).trans (yf (mB n) s (bo o) s.length pre.length)).trans ?_⟩
   rw[h1,h2,h3]
   exact hn
  refine fin _ ?_
  simp only[List.length_cons]at hr
  have hbad:kS c=false→lqR o (c::r)=r7:=fun h=>by unfold lqR;rw[List.all_cons,h];rfl
  unfold Ds
  cases e1:cI c==10 with
  |true=>
   obtain⟨n,hn⟩:=next [92,110] (by unfold lqB;rw[e1];rfl) (by simp) (by unfold kS;rw[e1];rfl)
   refine⟨n,Eq.trans (eL ?_) hn⟩
   rw[bI,bI];simp only[List.length_cons,List.length_nil];omega
  |false=>
  cases e2:cI c==9 with
  |true=>
   obtain⟨n,hn⟩:=next [92,116] (by unfold lqB;rw[e1,e2];rfl) (by simp) (by unfold kS;rw[e1,e2];rfl)
   refine⟨n,Eq.trans (eL ?_) hn⟩
   rw[bI,bI];simp only[List.length_cons,List.length_nil];omega
  |false=>
  have two:lqB c=[92,c]→kS c=true→∃n,(bif decide ((bo o).length+1<ar)then bif decide ((app (bo o) [92]).length+1<ar)then mE (mB n) s (app (app (bo o) [92]) [cI c]) s.length pre.length else .err 17 else .err 17)= .ok (lqR o (c::r)):=fun hb hok=>by
   obtain⟨n,hn⟩:=next [92,c] hb (by simp) hok
   refine⟨n,Eq.trans (eL ?_) (Eq.trans (eL ?_) ?_)⟩
   ·rw[bI];omega
   ·simp only[app,List.length_append,bI,List.length_singleton];omega
   ·rw[show app (app (bo o) [92]) [cI c]=app (bo o) (bo [92,c]) by simp[app,bo]]
    exact hn
  cases e3:cI c==34 with
  |true=>exact two (by unfold lqB;rw[e1,e2,e3];rfl) (by unfold kS;rw[e1,e2,e3];rfl)
  |false=>
  cases e4:cI c==92 with
  |true=>exact two (by unfold lqB;rw[e1,e2,e3,e4];rfl) (by unfold kS;rw[e1,e2,e3,e4];rfl)
  |false=>
  cases e5:decide (cI c<32)with
  |true=>
   rw[hbad (by unfold kS;rw[e1,e2,e3,e4,e5];rfl)]
   exact⟨0,rfl⟩
  |false=>
  cases e6:decide (cI c>126)with
  |true=>
   rw[hbad (by unfold kS;rw[e1,e2,e3,e4,e5,e6];rfl)]
   exact⟨0,rfl⟩
  |false=>
   obtain⟨n,hn⟩:=next [c] (by unfold lqB;rw[e1,e2,e3,e4];rfl) (by simp) (by unfold kS;rw[e1,e2,e3,e4,e5,e6];rfl)
   refine⟨n,Eq.trans (eL ?_) hn⟩
   rw[bI];omega
theorem zM{w0:World}(t:TabsW w0):aT Tryz.prog (GW w0) sY:=.cons (iK (jl Bm)) (.cons (jl (I2 t)) (.cons Ek .nil))
theorem Na{w0:World}(t:TabsW w0)(x:ai bB)(h:gD x=true):SAD Tryz.prog (GW w0) 128 bB fg x (lqX x):=by
 obtain⟨s,⟨⟩⟩:=x
 have hl:s.length≤1048576:=by
  have:okU s=true:=h
  simp only[okU,decide_eq_true_eq]at this
  omega
 have hmr:ar=68719476736:=rfl
 obtain⟨n,hn⟩:=ye (s:=s) (by omega) s [] [34] rfl (by simp only[List.length_singleton];omega)
 refine bh (aS []) (aE (zM t)) HI (.inl cb) ((DA (mB n) s).trans (hn.trans ?_))
 show _=(Rs.ok (.ret (.tup [.str (lqS s),.int .i64 (lqE s)]),[]):Rs R0)
 unfold lqR lqS lqE
 cases s.all kS<;>rfl
end Go.Sx.Tryz
namespace Go.Sx.Tryz
open Go Go.Sx Go.Proofs
set_option maxRecDepth 100000
def wn:Nat→Wn
 |0=>⟨fun t=>.ok t 0,fun e=>.ok [] e,fun _ _=>.bad,fun _ _=>.bad,fun _ _=>.bad,fun _ _=>.bad,fun _ _=>.bad,fun _ _=>.bad,fun _ _=>.bad,fun _ _=>.bad,fun _ _=>.bad,fun _ _=>.bad,fun _ _=>.bad,fun _ _=>.bad,fun _ _=>.bad,fun _ _=>.bad,fun _ _=>.bad,fun _ _=>.bad⟩
 |n+1=>{
  ws:=fun t=>.ok t 0
  fail:=fun e=>.ok [] e
  lead:=fun L x=>(w81 (wn n) L x.1).run2 ca
  name:=fun L x=>(w65 (wn n) L x.1).run2 ca
  kind:=fun L x=>(w84 (wn n) L x.1.1 x.1.2.1 x.1.2.2.1 x.1.2.2.2.1).run2 ca
  klass:=fun L x=>(w29 (wn n) L x.1).run2 (lpW (v29 (wn n) L) ((aa (aj L x.1.toNat)).length+1))
  member:=fun L x=>(w50 (wn n) L x.1 x.2.1).run2 ca
  typed:=fun L x=>(w83 (wn n) L x.1).run2 ca
  params:=fun L x=>(w85 (wn n) L x.1).run2 (lpW (v85 (wn n) L) (x.1.length+1))
  block:=fun L x=>(w47 (wn n) L x.1 x.2.1).run2 (lpW (v47 (wn n) L) ((aa (aj L x.1.toNat)).length+1))
  stat:=fun L x=>(w49 (wn n) L x.1 x.2.1).run2 ca
  line:=fun L x=>(w82 (wn n) L x.1).run2 ca
  args:=fun L x=>(Bf (wn n) L x.1).run2 (lpW (tC (wn n) L) (x.1.length+1))
  value:=fun L x=>(w46 (wn n) L x.1 x.2.1).run2 ca
  bare:=fun L x=>(w80 (wn n) L x.1).run2 ca
  made:=fun L x=>(Fx (wn n) L x.1).run2 ca
  asked:=fun L x=>(Gk (wn n) L x.1).run2 ca
  literal:=fun L x=>(Gj (wn n) L x.1).run2 ca}
structure WnOK(G:Nat→Obj→Prop)(p:Wn):Prop where
 q28:cp G 28 bB xL fun _ x=>p.ws x.1
 q64:cp G 64 bP bO fun _ x=>p.fail x.1
 q81:cp G 81 bP bO p.lead
 q65:cp G 65 bB bO p.name
 q84:cp G 84 ig bO p.kind
 q29:cp G 29 bP bO p.klass
 q50:cp G 50 cz bO p.member
 q83:cp G 83 b4 bO p.typed
 q85:cp G 85 [tL] bO p.params
 q47:cp G 47 cz bO p.block
 q49:cp G 49 cz bO p.stat
 q82:cp G 82 b4 bO p.line
 q108:cp G 108 [tL] bO p.args
 q46:cp G 46 cz bO p.value
 q80:cp G 80 b4 bO p.bare
 q104:cp G 104 b4 bO p.made
 q106:cp G 106 b4 bO p.asked
 q107:cp G 107 b4 bO p.literal
theorem F9{w0:World}(t:TabsW w0):aT Tryz.prog (GW w0) Lj:=
 .cons (aD fun x h=>sH t.tabs x h) (.cons (Ku t) (.cons (aD fun x _=>F5 x) (.cons (aD fun x _=>Dt x) (.cons (aD fun x _=>IZ x)
 (.cons (aD fun x _=>D8 x) (.cons (aD fun x _=>Jk t x) (.cons (aD fun x h=>Es t x h) (.cons (I9 t) (.cons (aD fun x h=>IA x h) (.cons (aD t.flt) (.cons (aD fun x h=>Na t x h) .nil)))))))))))
theorem zb{w0:World}(t:TabsW w0){p:Wn}(h:WnOK (GW w0) p):aT Tryz.prog (GW w0) (ij p):=
 .cons (cg h.q28) (.cons (cg h.q64) (.cons (cg h.q81) (.cons (cg h.q65) (.cons (cg h.q84) (.cons (cg h.q29) (.cons (cg h.q50) (.cons (cg h.q83) (.cons (cg h.q85) (.cons (cg h.q47) (.cons (cg h.q49)
 (.cons (cg h.q82) (.cons (cg h.q108) (.cons (cg h.q46) (.cons (cg h.q80) (.cons (cg h.q104) (.cons (cg h.q106) (.cons (cg h.q107) (F9 t))))))))))))))))))
theorem cT{G:Nat→Obj→Prop}{f:Nat}{ts:Sig}{ret:ai ts→AV}:cp G f ts ret fun _ _=>.bad:=fun L r s e x t e1 h=>by cases h
theorem ru{w0:World}(t:TabsW w0):∀n,WnOK (GW w0) (wn n)
 |0=>⟨DZ,yB,cT,cT,cT,cT,cT,cT,cT,cT,cT,cT,cT,cT,cT,cT,cT,cT⟩
 |n+1=>by
  have h:=zb t (ru t n)
  exact⟨DZ,yB,o81 h,o65 h,o84 h,o29 h,o50 h,o83 h,o85 h,o47 h,o49 h,o82 h,o108 h,o46 h,o80 h,o104 h,o106 h,o107 h⟩
end Go.Sx.Tryz
namespace Go.Sx.Tryz
open Go Go.Sx Go.Proofs
set_option maxRecDepth 100000
def tyS(x:Nd):List UInt8:=bif bV (ax x) (aA x) (ak x) (ah x)then qO (ax x) (aA x) (ak x) (ah x)else []
end Go.Sx.Tryz
namespace Go.Sx.Tryz
open Go Go.Sx Go.Proofs
set_option maxRecDepth 100000
def Hm(x:Nd):Bool:=decide (-9223372036854775808≤nN x)&&decide (nN x≤9223372036854775807)
end Go.Sx.Tryz
namespace Go.Sx.Tryz
open Go Go.Sx Go.Proofs
set_option maxRecDepth 100000
end Go.Sx.Tryz
namespace Go.Sx.Tryz
open Go Go.Sx Go.Proofs
set_option maxRecDepth 100000
end Go.Sx.Tryz
namespace Go.Sx.Tryz
open Go Go.Sx Go.Proofs
set_option maxRecDepth 100000
end Go.Sx.Tryz
namespace Go.Sx.Tryz
open Go Go.Sx Go.Proofs
set_option maxRecDepth 100000
end Go.Sx.Tryz
namespace Go.Sx.Tryz
open Go Go.Sx Go.Proofs
set_option maxRecDepth 100000
end Go.Sx.Tryz
namespace Go.Sx.Tryz
open Go Go.Sx Go.Proofs
set_option maxRecDepth 100000
end Go.Sx.Tryz
namespace Go.Sx.Tryz
open Go Go.Sx Go.Proofs
set_option maxRecDepth 100000
end Go.Sx.Tryz
namespace Go.Sx.Tryz
open Go Go.Sx Go.Proofs
set_option maxRecDepth 100000
def jc(p:Wn):List (Nat×aQ):=(27,bg 27 bS bP lu wx)::(30,ofT 30 (fx 67 5 3))::ij p
theorem yr{G:Nat→Obj→Prop}:aK Tryz.prog G 30 (ofT 30 (fx 67 5 3)):=by
 refine ja ?_ (rE 67 5 3)
 exact nE NC (fun b g o cap l w h0 hcap h63 cur fz hbk hg hsz hcell=>mH Tryz.lays169 Tryz.Builder_Extra_169 b g o cap l w h0 hcap h63 cur fz hbk hg hsz hcell)
   (fun b w h=>mA Tryz.lays169 Tryz.Builder_Extra_169 b w h) (fun b g o cur w h fz hg=>jQ Tryz.lays169 Tryz.Builder_Extra_169 b g o cur w h fz hg)
   (fun b g o cap w hc h=>mo Tryz.lays169 Tryz.Builder_Extra_169 b g o cap w hc h)
theorem Aj{w0:World}(t:TabsW w0){p:Wn}(h:WnOK (GW w0) p):aT Tryz.prog (GW w0) (jc p):=.cons (aD fun x h=>nC t x h) (.cons yr (zb t h))
def Ma:Cut:=⟨[true,true,true,false,true,false,false],some ⟨[(5,[]),(22,[.sl (.int .i64)]),(23,[]),(24,[])],[[.bself,.own 5 (.int .u8),.sl aB,.keep,.keep]]⟩⟩
def kb:List Cut:=[Ma]
abbrev K3:Type:=List Int×Int×Int
def uK(L:List Nd)(r:Int)(s:List Int)(e:Int)(z:K3):St:={tmps:=[(5,.ref 0 0),(22,.sl (.int .i64) z.1),(23,.int .i64 z.2.1),(24,.int .i64 z.2.2)],blks:=[(0,.cells 67 [.bself 0,.own 1 0,.sl aB L,.int .i64 r,.int .i64 e]),(1,.list 5 (.int .u8) 0 false s)],next:=2}
def nQ:SF:=fun s e=>bif e !=0 then .ok (.ret (.tup [.str [],.int .i64 e]),[])else bif List.all s isByte&&Nat.ble s.length 9223372036854775807 then .ok (.ret (.tup [.str (cC s),.int .i64 0]),[])else .err 1000030
def v10(p:Wn)(L:List Nd)(z:K3):WT (Option K3):=
 let y:WT (Option K3):=.B (p.klass L (aU z.1 z.2.2.toNat,())) (.J (some (z.1,z.2.1,IntKind.wrap .i64 (z.2.2+1))))
 .C (decide (z.2.2<z.2.1)) (.C (inI z.2.2 z.1.length) (.C (decide (z.2.2>0)) (.B (p.ws [10]) y) y) (.V 701)) (.J none)
def j10(J:Jump R0)(L:List Nd)(r:Int):Option K3→SF
 |some z=>fun s e=>J 0 (uK L r s e z)
 |none=>nQ
theorem tU(p:Wn)(J:Jump R0)(L:List Nd)(r:Int):start (R:=R0) E (an (jc p)) pG kb J [.agg (trC L r)] [] .ok=bif lu ((L,r,()),())then bif cx L r !=0 then .ok (.ret (.tup [.str [],.int .i64 (cx L r)]),[])else bif inI r L.length then J 0 (uK L r [] 0 (aa (aj L r.toNat),((aa (aj L r.toNat)).length:Nat),0))else .err 504 else .err 3000027:=by kernel_rfl
theorem EA(p:Wn)(J:Jump R0)(L:List Nd)(r:Int)(s:List Int)(e:Int)(z:K3):resume (R:=R0) E (an (jc p)) (aR 0 kb 0) J Ma.path pG.code 1 (uK L r s e z) (bX E 0 pG.results .ok)=(v10 p L z).runO (fun _=>nQ) (j10 J L r) s e:=by kernel_rfl
def Df(p:Wn)(L:List Nd):Nat→K3→WR
 |0,_=>.bad
 |n+1,z=>(v10 p L z).run2 fun z=>match z with
  |some z=>Df p L n z
  |none=>.ok [] 0
def n7(p:Wn)(L:List Nd)(r:Int):WR:=Df p L ((aa (aj L r.toNat)).length+1) (aa (aj L r.toNat),((aa (aj L r.toNat)).length:Nat),0)
theorem Bi(p:Wn)(L:List Nd)(r:Int):∀(n:Nat) (z:K3),WAP (fun s e y=>y=nQ s e) (fun m s e=>pieces (R:=R0) E (an (jc p)) pG kb 0 .ok m 0 (uK L r s e z)) (Df p L n z)
 |0,z=>WAP.bad
 |n+1,z=>by
  refine WAP.step ?_
  have e:(fun m s e=>pieces (R:=R0) E (an (jc p)) pG kb 0 .ok (m+1) 0 (uK L r s e z))=fun m=>(v10 p L z).runO (fun _=>nQ) (j10 (pieces (R:=R0) E (an (jc p)) pG kb 0 .ok m) L r):=by
   funext m s e
   exact(aW rfl).trans (EA p _ L r s e z)
  rw[e]
  refine WAP.run (o:=fun _=>nQ) (P:=fun s e y=>y=nQ s e) (fun _ _ _=>rfl) (fun z=>?_) (v10 p L z)
  cases z with
  |some z=>exact Bi p L r n z
  |none=>
   intro s e t e1 h hb
   cases h
   rw[tA,nh]
   exact⟨0,rfl⟩
def dY(n:Nat)(x:ai bS):Bool:=lu x&&(cx x.1.1 x.1.2.1 !=0||(inI x.1.2.1 x.1.1.length&&match n7 (wn n) x.1.1 x.1.2.1 with
 | .ok t _=>decide (t.length<ar)
 | .bad=>false))
def oc(n:Nat)(x:ai bS):ai fg:=bif cx x.1.1 x.1.2.1 !=0 then([],cx x.1.1 x.1.2.1,())else match n7 (wn n) x.1.1 x.1.2.1 with
 | .ok t e=>bif e !=0 then([],e,())else(t,0,())
 | .bad=>([],0,())
theorem yc{w0:World}(t:TabsW w0)(n:Nat)(x:ai bS)(h:dY n x=true):SAD Tryz.prog (GW w0) 10 bS fg x (oc n x):=by
 obtain⟨⟨L,r,⟨⟩⟩,⟨⟩⟩:=x
 simp only[dY,Bool.and_eq_true,Bool.or_eq_true]at h
 obtain⟨h1,h2⟩:=h
 have hs:∃m,start (R:=R0) E (an (jc (wn n))) pG kb (pieces (R:=R0) E (an (jc (wn n))) pG kb 0 .ok m) [.agg (trC L r)] [] .ok= .ok (.ret (.tup [.str (oc n ((L,r,()),())).1,.int .i64 (oc n ((L,r,()),())).2.1]),[]):=by
  unfold oc
  cases hc:cx L r !=0 with
  |true=>
   refine⟨0,(tU (wn n) _ L r).trans ?_⟩
   rw[h1,hc]
   rfl
  |false=>
   rw[hc]at h2
   simp only[Bool.false_eq_true,false_or]at h2
   obtain⟨h2,h3⟩:=h2
   cases hq:n7 (wn n) L r with
   |bad=>rw[hq]at h3;cases h3
   |ok u e1=>
    rw[hq]at h3
    have h3:u.length<ar:=of_decide_eq_true h3
    obtain⟨m,hm⟩:=Bi (wn n) L r _ _ [] 0 u e1 hq (by rw[bI];simpa using h3)
    refine⟨m,(tU (wn n) _ L r).trans ?_⟩
    rw[h1,hc,h2]
    have e1':ec 0 e1=e1:=rfl
    have e2:app [] (bo u)=bo u:=rfl
    rw[e1',e2]at hm
    refine Eq.trans hm ?_
    show _=(Rs.ok (.ret (.tup [.str (bif e1 !=0 then(([],e1,()):ai fg)else(u,0,())).1,.int .i64 (bif e1 !=0 then(([],e1,()):ai fg)else(u,0,())).2.1]),[]):Rs R0)
    unfold nQ
    cases he:e1 !=0 with
    |true=>rfl
    |false=>
     have hmr:ar=68719476736:=rfl
     have h4:(List.all (bo u) isByte&&Nat.ble (bo u).length 9223372036854775807)=true:=by
      rw[l8,bI,Bool.true_and]
      exact Nat.ble_eq_true_of_le (by omega)
     rw[h4,jT]
     rfl
 obtain⟨m,hm⟩:=hs
 exact bh (aS []) (aE (Aj t (ru t n))) Lw (.inl cb) hm
end Go.Sx.Tryz
namespace Go.Sx.Tryz
open Go Go.Sx Go.Proofs
set_option maxRecDepth 100000
def yh:List (List Sh):=[[.bself,.own 5 (.int .u8),.sl aB,.keep,.keep]]
def HT:List (Nat×aQ):=[(26,bg 26 iJ cd (fun _=>true) hpX),(15,B5),(10,bg 10 bS fg (dY 60) (oc 60)),(27,bg 27 bS bP lu wx),(30,ofT 30 (fx 67 5 3)),(46,pD 46 yh (wrI 46 cz bO (wn 60).value)),(47,pD 47 yh (wrI 47 cz bO (wn 60).block)),(49,pD 49 yh (wrI 49 cz bO (wn 60).stat)),(50,pD 50 yh (wrI 50 cz bO (wn 60).member))]
theorem Bw{w0:World}(t:TabsW w0):aT Tryz.prog (GW w0) HT:=.cons (aD fun x _=>HR x) (.cons (It t) (.cons (aD fun x h=>yc t 60 x h) (.cons (aD fun x h=>nC t x h) (.cons yr (.cons (iK (cg (ru t 60).q46)) (.cons (iK (cg (ru t 60).q47)) (.cons (iK (cg (ru t 60).q49)) (.cons (iK (cg (ru t 60).q50)) .nil))))))))
theorem vZ:vp E (ff 140 HT) cl 10000 60 (Out×List Blk) 9 [] [] .ok= .ok (.ret (.bool true),[]):=by kernel_rfl
theorem zB{w0:World}(t:TabsW w0):SA Tryz.prog (GW w0) 9 [] [] (.ret (.bool true),[]):=by
 obtain⟨o,h1,h2⟩:=lp (G:=GW w0) (aS []) (Bw t).ok Gd 60 _ _ _ _ _ _ vZ
 cases h1
 exact h2
end Go.Sx.Tryz
namespace Go.Sx.Tryz
open Go Go.Sx Go.Proofs
set_option maxRecDepth 100000
def clA(k:Int):Nd:=mkN 2 0 0 [k] [65] 0 [] 0 [] 0 0 0 []
def prA(k:Int):Nd:=mkN 1 0 0 [k] [] 0 [] 0 [] 0 0 0 []
def nO(s:List UInt8):List Nd:=[mkN 4 0 0 [] s 1 [] 0 [32] 0 0 0 [],clA 0,prA 1]
def vC(x:ai bB):ai bS:=((nO x.1,2,()),())
def mW(n:Int):List Nd:=[mkN 19 0 0 [] [] 0 [] 0 [] n 0 0 [],mkN 16 0 0 [0] [] 0 [] 0 [] 0 0 0 [],mkN 8 0 0 [1] [] 0 [] 0 [] 0 0 0 [],mkN 5 0 0 [2] [] 0 [] 0 [] 0 0 0 [],clA 3,prA 4]
def uo(x:ai bP):ai bS:=((mW x.1,5,()),())
def rZ(k:Int):Nat:=bif cE k==[]then 0 else(bC k).toNat
def Lg(k:Int):Nd:=bif cE k==[]then mkN k 0 0 [] [] 0 [] 0 [] 0 0 0 []else mkN k 0 0 ((List.range (rZ k)).map fun i:Nat=>(i:Int)) (bif AK k then [120]else []) (bif xu k then 1 else 0) [] 0 (bif xu k then [32]else []) 0 0 0 []
def Jc(k:Int):List Nd:=List.replicate (rZ k) (mkN 8 0 0 [] [] 0 [] 0 [] 0 0 0 [])++[Lg k,clA (rZ k),prA (rZ k+1)]
def J7(k:Int):Int:=rZ k+2
def ka(x:ai bP):ai bS:=((Jc x.1,J7 x.1,()),())
def Hs:List (Nat×aQ):=[(66,ofT 66 (ki 3))]
abbrev zc(f:Nat)(a:List AV):Rs R0:=vp E (ff 140 Hs) cl 10000 60 (Out×List Blk) f a [] .ok
abbrev tX(L:List Nd)(r:Int)(g:Nat):Rs R0:=.ok (.ret (.agg [.own 0 g,.int .i64 r]),[.list 52 aB g false L])
theorem FR(s:List UInt8):zc 11 [.str s]=tX (nO s) 2 2:=by kernel_rfl
theorem FO(n:Int):zc 12 [.int .i64 n]=tX (mW n) 5 5:=by kernel_rfl
theorem D6:(List.range 46).map (fun k:Nat=>zc 13 [.int .i64 (k:Int)])=(List.range 46).map fun k:Nat=>tX (Jc (k:Int)) (J7 (k:Int)) (rZ (k:Int)+2):=by kernel_rfl
def Hh:List (Nat×aQ):=[(33,bg 33 bP bB (fun _=>true) fun x=>(cE x.1,())),(34,fun _ _ _ _=>.err 9),(66,ofT 66 (ki 3))]
theorem BP(k:Int):body (R:=R0) E (vp E (ff 140 Hh) cl 10000 60) Jw [.int .i64 k] [] .ok=bif !(cE k==[])then .err 9 else tX [mkN k 0 0 [] [] 0 [] 0 [] 0 0 0 [],clA 0,prA 1] 2 2:=by kernel_rfl
def KN(k:Int):Rs R0:=bif decide (k<1)then .ok (.ret (.str []),[])else bif decide (k≥46)then .ok (.ret (.str []),[])else bif inI k 46 then .ok (.ret (.str (CJ.getD k.toNat [])),[])else .err 402
theorem DK(k:Int):body (R:=R0) E (an []) Jz [.int .i64 k] [] .ok=KN k:=by kernel_rfl
end Go.Sx.Tryz
namespace Go.Sx.Tryz
open Go Go.Sx
set_option maxRecDepth 100000
inductive Tn where
 |mk (x:Nd) (ks:List Tn)
def Cx(x:Nd)(l:List Int):Nd:=mkN (ae x) (nAt x) (nTo x) l (aw x) (ax x) (aA x) (ak x) (ah x) (nN x) (nW1 x) (nW2 x) (aF x)
mutual
def Tn.size:Tn→Nat
 | .mk _ ks=>Tn.sizes ks+1
def Tn.sizes:List Tn→Nat
 |[]=>0
 |t::ts=>t.size+Tn.sizes ts
end
def roots:Nat→List Tn→List Int
 |_,[]=>[]
 |o,t::ts=>(((o+t.size:Nat):Int)-1)::roots (o+t.size) ts
mutual
def Tn.flat:Nat→Tn→List Nd
 |o,.mk x ks=>Tn.flats o ks++[Cx x (roots o ks)]
def Tn.flats:Nat→List Tn→List Nd
 |_,[]=>[]
 |o,t::ts=>t.flat o++Tn.flats (o+t.size) ts
end
inductive TR(α:Type)where
 |ok (y:α) (a d:Int) (n:Nat)
 |fault (c p:Int)
 |bad
abbrev Tm(α:Type):Type:=Int→Int→Nat→TR α
def Sf(A:List Nd)(ks:List Tn):List Nd:=A++Tn.flats A.length ks
def RX{α γ:Type}(A:List Nd)(e:Nat→γ→α)(g:γ→List Tn)(r:PR α)(s:TR γ):Prop:=match s with
 | .ok y a d n=>n=(Sf A (g y)).length∧r= .ok (e A.length y) a d (Sf A (g y))
 | .fault c p=>r= .fault c p
 | .bad=>r= .bad
def gT:Tn→List Tn:=fun t=>[t]
def H{α γ:Type}(e:Nat→γ→α)(g:γ→List Tn)(c:Pm α)(t:Tm γ):Prop:=∀a d A n,n=A.length→RX A e g (c a d A) (t a d n)
section
variable{α β γ δ:Type}{A:List Nd}{ks:List Tn}{e:Nat→γ→α}{g:γ→List Tn}{e':Nat→δ→β}{g':δ→List Tn}
end
section
variable(T:List UInt8)(K:List Tok)
variable{K}
end
end Go.Sx.Tryz
namespace Go.Sx.Tryz
open Go Go.Sx Go.Proofs
set_option maxRecDepth 100000
abbrev Wt:Type:=List UInt8×Int
def wok(a:Wt):WR:=.ok a.1 a.2
def wj(a b:Wt):Wt:=(a.1++b.1,ec a.2 b.2)
def wc:List Wt→Wt
 |[]=>([],0)
 |a::l=>wj a (wc l)
def wS(s:List UInt8):Wt:=(s,0)
def wE(e:Int):Wt:=([],e)
def wIf(c:Bool)(e:Int):Wt:=bif c then wE e else([],0)
theorem eh(a:Wt):wj a ([],0)=a:=by
 obtain⟨s,e⟩:=a
 show(s++[],ec e 0)=(s,e)
 rw[List.append_nil,nh]
theorem nj(a:Wt):wj ([],0) a=a:=rfl
theorem c7(a b c:Wt):wj (wj a b) c=wj a (wj b c):=by
 show(a.1++b.1++c.1,ec (ec a.2 b.2) c.2)=(a.1++(b.1++c.1),ec a.2 (ec b.2 c.2))
 rw[List.append_assoc,vy]
structure Tx where
 x:Nd
 b:Wt
 bl:Nat→Wt
 s:Nat→Wt
 m:Nat→Wt
def nmT(s:List UInt8):Wt:=wj (wIf (!bT s) 5) (wS s)
def kdT(x:Nd):Wt:=wj (wIf (ax x==5&& !bT (aA x)) 5) (wS (tyS x))
def tyT(x:Nd):Wt:=wc [wIf (ax x==6) 132,kdT x,wS [32],nmT (aw x)]
def dJ(d:Nat):Wt:=wS (Lib.repeatL [32,32] d)
def fN(x:Nd)(b:Wt)(least:Int):Wt:=bif !AO (ae x)then wE 132 else bif decide (zW x<least)then wc [wS [40],b,wS [41]]else b
def x0T:Tx:=⟨nd0,([],0),fun _=>([],0),fun _=>([],0),fun _=>([],0)⟩
def vl(l:List Tx)(i:Nat)(least:Int):Wt:=fN (l.getD i x0T).x (l.getD i x0T).b least
def bk(l:List Tx)(i:Nat)(d:Nat):Wt:=(l.getD i x0T).bl d
def j7(s:List UInt8):List Wt→Wt
 |[]=>([],0)
 |a::r=>wc [wS s,a,j7 s r]
def nZ(s:List UInt8):List Wt→Wt
 |[]=>([],0)
 |a::r=>wj a (j7 s r)
def ry(l:List Tx):Wt:=wc [wS [40],nZ [44,32] (l.map fun t=>fN t.x t.b 0),wS [41]]
def JI(x:Nd):Wt:=
 bif ae x==19 then wj (wIf (decide (nN x<0)) 1) (wS (Lib.itoa (nN x)))
 else bif ae x==20 then wj (wIf ((lj (aw x)).2 !=0) (lj (aw x)).2) (wS (aw x))
 else bif ae x==22 then wj (wIf (lqE (aw x) !=0) (lqE (aw x))) (wS (lqS (aw x)))
 else bif ae x==21 then bif nN x==0 then wS [102,97,108,115,101]else bif nN x==1 then wS [116,114,117,101]else wE 1
 else bif ae x==25 then nmT (aw x)else bif ae x==38 then wS [105,110,112,117,116,40,41]else wS (cE (ae x))
def Jh(x:Nd)(l:List Tx):Wt:=wj (vl l 0 8) (
 bif ae x==27 then wc [wS [91],vl l 1 0,wS [93]]
 else bif ae x==28 then wS [46,108,101,110,103,116,104]
 else bif ae x==45 then wS [46,118,97,108]
 else bif ae x==40 then wS [33]
 else bif ae x==29 then wc [wS [46],nmT (aw x),ry (l.drop 1)]else wc [wS [46],nmT (aw x)])
def LO(x:Nd):Bool:=ax x==6||(((List.getD (ah x) (ak x).toNat 0).toNat:Int)==111||(ae x==30&&(ax x !=5||(decide (ak x>0)|| !CI (ah x)))))
def FL(x:Nd)(l:List Tx):Wt:=wc [wS [110,101,119,32],wIf (LO x) 5,kdT x,bif ae x==30 then ry l else wc [wS [91],vl l 0 0,wS [93]]]
def dy(x:Nd)(l:List Tx):Wt:=
 bif ae x==34 then wc [wIf (dN (aw x)==0) 5,vl l 0 (dN (aw x)),wS ([32]++aw x++[32]),vl l 1 (dN (aw x)+1)]
 else bif ae x==43 then wc [vl l 0 4,wS [32,105,115,32,115,111,109,101]]
 else bif ae x==44 then wc [vl l 0 4,wS [32,105,115,32,110,111,110,101]]
 else bif ae x==32 then wc [wS [45],vl l 0 7]
 else bif ae x==33 then wc [wS [33],vl l 0 7]
 else bif ae x==35 then wc [wS [99,97,115,116,60],wIf (ax x==6) 132,kdT x,wS [62,40],vl l 0 0,wS [41]]
 else bif ae x==30||ae x==31 then FL x l
 else bif ae x==36||(ae x==37||(ae x==39||ae x==41))then wc [wS (cE (ae x)++[40]),vl l 0 0,wS [41]]
 else bif ae x==26||(ae x==27||(ae x==28||(ae x==29||(ae x==40||ae x==45))))then Jh x l
 else JI x
def IT(x:Nd)(l:List Tx)(d:Nat):Wt:=bif ae x !=8 then wE 132 else match l with
 |[]=>wS [123,125]
 |_=>wc [wS [123,10],wc (l.map fun t=>wc [dJ (d+1),t.s (d+1),wS [10]]),dJ d,wS [125]]
def k0T(l:List Tx):Int:=ae (l.getD 0 x0T).x
def NM(x:Nd)(l:List Tx):Wt:=
 bif ae x==9 then wj (tyT x) (bif l.isEmpty then([],0)else wc [wS [32,61,32],vl l 0 0])
 else bif ae x==10 then wc [wIf (k0T l !=25&&(k0T l !=26&&k0T l !=27)) 132,vl l 0 0,wS [32,61,32],vl l 1 0]
 else bif ae x==13 then wS [98,114,101,97,107]
 else bif ae x==14 then wS [99,111,110,116,105,110,117,101]
 else bif ae x==15 then wj (wS [114,101,116,117,114,110]) (bif l.isEmpty then([],0)else wc [wS [32],vl l 0 0])
 else bif ae x==16 then wc [wS [112,114,105,110,116,40],vl l 0 0,wS [41]]
 else bif ae x==17 then wc [wS [115,117,112,101,114],ry l]
 else bif ae x==18 then wc [wIf (k0T l !=29&&k0T l !=30) 132,vl l 0 0]
 else wE 132
def M9(x:Nd)(l:List Tx)(d:Nat):Wt:=
 bif ae x==8 then IT x l d
 else bif ae x==11 then wc [wS [105,102,32,40],vl l 0 0,wS [41,32],bk l 1 d,bif decide ((l.length:Int)>2)then wc [wS [32,101,108,115,101,32],bk l 2 d]else([],0)]
 else bif ae x==12 then wc [wS [119,104,105,108,101,32,40],vl l 0 0,wS [41,32],bk l 1 d]
 else wc [NM x l,wS [59]]
def AP(l:List Tx):Wt:=wc [wS [40],nZ [44,32] (l.map fun t=>bif ae t.x !=7 then wE 132 else t.m 0),wS [41]]
def mU(x:Nd)(l:List Tx)(d:Nat):Wt:=
 bif ae x==4 then wc [dJ d,tyT x,wS [59,10]]
 else bif ae x==7 then tyT x
 else bif ae x==5 then wc [dJ d,wS [105,110,105,116],AP (l.take (l.length-1)),wS [32],bk l (l.length-1) d,wS [10]]
 else bif ae x==6 then wc [dJ d,kdT x,wS [32],nmT (aw x),AP (l.take (l.length-1)),wS [32],bk l (l.length-1) d,wS [10]]
 else wE 132
def LX(x:Nd)(l:List Tx):Tx:=⟨x,dy x l,IT x l,M9 x l,mU x l⟩
def BO(l:List Tx):Wt:=bif !l.isEmpty&&k0T l==3 then wc [wS [32,101,120,116,101,110,100,115,32],nmT (aw (l.getD 0 x0T).x)]else([],0)
def uE(l:List Tx):List Tx:=bif !l.isEmpty&&k0T l==3 then l.drop 1 else l
def Lq(x:Nd)(l:List Tx):Wt:=bif ae x !=2 then wE 132 else
 wc [wS [99,108,97,115,115,32],nmT (aw x),BO l,wS [32,123,10],wc ((uE l).map fun t=>wc [wIf (ae t.x==7) 132,t.m 1]),wS [125,10]]
mutual
def Tn.tx:Tn→Tx
 | .mk x ks=>LX x (Tn.txs ks)
def Tn.txs:List Tn→List Tx
 |[]=>[]
 |t::ts=>t.tx::Tn.txs ts
end
def Tn.cls:Tn→Wt
 | .mk x ks=>Lq x (Tn.txs ks)
def Tn.prog:Tn→Wt
 | .mk _ ks=>nZ [10] (ks.map Tn.cls)
end Go.Sx.Tryz
namespace Go.Sx.Tryz
open Go Go.Sx Go.Proofs
set_option maxRecDepth 100000
section
variable{σ:Type}{j:σ→WR}{c:Bool}{a b k:WT σ}{q m:WR}{r s:Wt}{e:Int}{g:Nat}
theorem q_t(h:c=true)(h2:a.run2 j=q):(WT.C c a b).run2 j=q:=by subst h;exact h2
theorem q_f(h:c=false)(h2:b.run2 j=q):(WT.C c a b).run2 j=q:=by subst h;exact h2
theorem q_B(h:m=wok s)(h2:k.run2 j=wok r):(WT.B m k).run2 j=wok (wj s r):=by
 show WR.bind m (k.run2 j)=_
 rw[h,h2]
 rfl
theorem q_L(h:m=wok s):(WT.B m (WT.O g)).run2 j=wok s:=by
 have:=q_B (j:=j) (k:=WT.O g) (r:=([],0)) h rfl
 rw[eh]at this
 exact this
theorem q_E(hf:m=wok (wE e))(h1:a.run2 j=wok r)(h2:b.run2 j=wok r):(WT.C c (WT.B m a) b).run2 j=wok (wj (wIf c e) r):=by
 cases c
 ·exact h2
 ·exact q_B hf h1
end
theorem aO(n:Nat)(s:List UInt8):(wn n).ws s=wok (wS s):=by cases n<;>rfl
theorem bN(n:Nat)(e:Int):(wn n).fail e=wok (wE e):=by cases n<;>rfl
structure Okx(x:Nd):Prop where
 txt:(aw x).length≤70000
 nam:(aA x).length≤200
 mar:(ah x).length≤50
 lo: -9223372036854775808≤nN x
 hi:nN x≤9223372036854775807
 node:gh x=0
variable{L:List Nd}{b n:Nat}{x:Nd}{l:List Tx}
theorem xg{s:List UInt8}(h:s.length≤70000):cW (s,())=true:=decide_eq_true (by have h:List.length s≤70000:=h;show(List.length s:Int)≤_;omega)
theorem EH{s:List UInt8}(h:s.length≤70000):gD (s,())=true:=decide_eq_true (by have h:List.length s≤70000:=h;show(List.length s:Int)≤_;omega)
theorem vS(h:Okx x):eK ((ax x,aA x,ak x,ah x,()),())=true:=by
 have h1:=h.nam
 have h2:=h.mar
 simp only[eK,Bool.and_eq_true,decide_eq_true_eq]
 exact⟨by omega,by omega⟩
theorem fD{s:List UInt8}(h:s.length≤70000):(wn (n+1)).name L (s,())=wok (nmT s):=by
 show(w65 (wn n) L s).run2 ca=_
 exact q_t (xg h) (q_E (bN n 5) (q_L (aO n s)) (q_L (aO n s)))
theorem kT(h:Okx x):(wn (n+1)).kind L ((ax x,aA x,ak x,ah x,()),())=wok (kdT x):=by
 show(w84 (wn n) L (ax x) (aA x) (ak x) (ah x)).run2 ca=_
 have h1:=xg (s:=aA x) (by have:=h.nam;omega)
 have h2:=vS h
 unfold kdT
 cases hb:ax x==5 with
 |true=>
  refine q_t hb (q_t h1 ?_)
  exact q_E (bN n 5) (q_t h2 (q_L (aO n _))) (q_t h2 (q_L (aO n _)))
 |false=>exact q_f hb (q_t h2 (q_L (aO n _)))
theorem oz(h:Okx x):(wn (n+2)).typed L (x,())=wok (tyT x):=by
 show(w83 (wn (n+1)) L x).run2 ca=_
 have h1:(w83 (wn (n+1)) L x).run2 ca=wok (wj (wIf (ax x==6) 132) (wj (kdT x) (wj (wS [32]) (nmT (aw x))))):=
  q_E (bN _ 132) (q_B (kT h) (q_B (aO _ _) (q_L (fD h.txt)))) (q_B (kT h) (q_B (aO _ _) (q_L (fD h.txt))))
 rw[h1]
 show _=wok (wj _ (wj _ (wj _ (wj _ ([],0)))))
 rw[eh]
theorem sr{d:Nat}(h:d≤500000):(wn (n+1)).lead L ((d:Int),())=wok (dJ d):=by
 show(w81 (wn n) L d).run2 ca=_
 have h1:(decide (0≤(d:Int))&&(decide ((d:Int)≤9223372036854775807)&&Nat.ble (List.length ([32,32]:List UInt8)*Int.toNat (d:Int)) 140737488355328))=true:=by
  simp only[Bool.and_eq_true,decide_eq_true_eq,Int.toNat_natCast]
  refine⟨by omega,by omega,Nat.ble_eq_true_of_le ?_⟩
  show 2*d≤_
  omega
 exact q_t h1 (q_L (aO n _))
structure Sp(L:List Nd)(b:Nat)(k:Int)(t:Tx):Prop where
 inr:inI k L.length=true
 dat:∃K,aj L k.toNat=Cx t.x K
 ok:Okx (aj L k.toNat)
 v:∀m,b≤m→∀least,(wn m).value L (k,least,())=wok (fN t.x t.b least)
 bl:∀m d:Nat,b≤m→d+b≤500000→(wn m).block L (k,(d:Int),())=wok (t.bl d)
 s:∀m d:Nat,b≤m→d+b≤500000→(wn m).stat L (k,(d:Int),())=wok (t.s d)
 m:∀m d:Nat,b≤m→d+b≤500000→(wn m).member L (k,(d:Int),())=wok (t.m d)
def Al(L:List Nd)(b:Nat):List Int→List Tx→Prop
 |[],[]=>True
 |k::K,t::l=>Sp L b k t∧Al L b K l
 |_,_=>False
theorem Al.len:∀{K:List Int} {l:List Tx},Al L b K l→K.length=l.length
 |[],[],_=>rfl
 |_::_,_::_,h=>by rw[List.length_cons,List.length_cons,Al.len h.2]
 |[],_::_,h=>h.elim
 |_::_,[],h=>h.elim
theorem Al.get:∀{K:List Int} {l:List Tx} {i:Nat},Al L b K l→i<l.length→Sp L b (aU K i) (l.getD i x0T)
 |_::_,_::_,0,h,_=>h.1
 |_::_,_::_,i+1,h,hi=>Al.get (i:=i) h.2 (by simpa using hi)
 |[],_::_,_,h,_=>h.elim
 |_::_,[],_,h,_=>h.elim
 |[],[],_,_,hi=>absurd hi (Nat.not_lt_zero _)
theorem Al.drop:∀{K:List Int} {l:List Tx} (i:Nat),Al L b K l→Al L b (K.drop i) (l.drop i)
 |_,_,0,h=>h
 |[],[],_+1,h=>h
 |_::_,_::_,i+1,h=>Al.drop i h.2
 |[],_::_,_+1,h=>h.elim
 |_::_,[],_+1,h=>h.elim
theorem Al.take:∀{K:List Int} {l:List Tx} (i:Nat),Al L b K l→Al L b (K.take i) (l.take i)
 |_,_,0,_=>trivial
 |[],[],_+1,h=>h
 |_::_,_::_,i+1,h=>⟨h.1,Al.take i h.2⟩
 |[],_::_,_+1,h=>h.elim
 |_::_,[],_+1,h=>h.elim
theorem lP{K:List Int}{i:Nat}(hA:Al L b K l)(hi:i<l.length)(hn:b≤n)(least:Int):(wn n).value L (aU K i,least,())=wok (vl l i least):=(hA.get hi).v n hn least
theorem cB{K:List Int}{i:Nat}(hA:Al L b K l)(hi:i<l.length):inI (i:Int) K.length=true:=cq (by omega) (by have:=hA.len;omega)
theorem kZ{k:Nat}(h:k≤100000):IntKind.wrap .i64 ((k:Int)+1)=((k+1:Nat):Int):=by rw[wrap64 (by omega) (by omega)];rfl
theorem rk{K:List Int}(hK:K.length≤20000)(hn:b≤n):∀(r:List Tx) (R P:List Int) (f:Nat),K=P++R→Al L b R r→R.length<f→
  lpW (tC (wn n) L) f (K,(K.length:Int),(P.length:Int))=wok (wj (bif P.isEmpty then nZ [44,32] (r.map fun t=>fN t.x t.b 0)else j7 [44,32] (r.map fun t=>fN t.x t.b 0)) (wS [41]))
 |[],[],P,f+1,hp,hA,hf=>by
  rw[List.append_nil]at hp
  subst hp
  show(tC (wn n) L (K,(K.length:Int),(K.length:Int))).run2 _=_
  have h1:decide ((K.length:Int)<(K.length:Int))=false:=decide_eq_false (by omega)
  refine q_f h1 ?_
  rw[show(bif K.isEmpty then nZ [44,32] (([]:List Tx).map fun t=>fN t.x t.b 0)else j7 [44,32] (([]:List Tx).map fun t=>fN t.x t.b 0))=([],0) by cases K.isEmpty<;>rfl,nj]
  exact q_L (aO n _)
 |t::r,k::R,P,f+1,hp,hA,hf=>by
  have hl:P.length+1+R.length=K.length:=by rw[hp];simp;omega
  have h1:decide ((P.length:Int)<(K.length:Int))=true:=decide_eq_true (by omega)
  have h2:inI (P.length:Int) K.length=true:=by rw[hp];exact gi _ _ _
  have h3:aU K (P.length:Int).toNat=k:=by rw[Int.toNat_natCast,hp];exact fS _ _ _
  have ih:=rk hK hn r R (P++[k]) f (by rw[hp];simp) hA.2 (by simp only[List.length_cons]at hf;omega)
  rw[show(P++[k]).isEmpty=false by cases P<;>rfl,List.length_append]at ih
  have h4:IntKind.wrap .i64 ((P.length:Int)+1)=((P.length+[k].length:Nat):Int):=kZ (by omega)
  have hv:=hA.1.v n hn 0
  show(tC (wn n) L (K,(K.length:Int),(P.length:Int))).run2 _=_
  refine q_t h1 (q_t h2 ?_)
  have hrest:(WT.B ((wn n).value L (aU K (P.length:Int).toNat,0,())) (WT.J (K,(K.length:Int),IntKind.wrap .i64 ((P.length:Int)+1)))).run2 (lpW (tC (wn n) L) f)=
    wok (wj (fN t.x t.b 0) (wj (j7 [44,32] (r.map fun t=>fN t.x t.b 0)) (wS [41]))):=by
   rw[h3,h4]
   exact q_B hv ih
  cases hP:P with
  |nil=>
   subst hP
   refine q_f rfl ?_
   refine hrest.trans ?_
   rw[←c7]
   rfl
  |cons p0 P0=>
   rw[←hP]
   have h5:decide ((P.length:Int)>0)=true:=decide_eq_true (by rw[hP];simp only[List.length_cons];omega)
   refine q_t h5 ?_
   rw[show P.isEmpty=false by rw[hP];rfl]
   refine(q_B (aO n _) hrest).trans ?_
   show _=wok (wj (wj (wS [44,32]) (wj (fN t.x t.b 0) (wj (j7 [44,32] (r.map fun t=>fN t.x t.b 0)) ([],0)))) (wS [41]))
   rw[eh,c7,c7]
 |[],_::_,_,_,_,hA,_=>hA.elim
 |_::_,[],_,_,_,hA,_=>hA.elim
 |_,_,_,0,_,_,hf=>absurd hf (Nat.not_lt_zero _)
theorem tP{K:List Int}(hK:K.length≤20000)(hA:Al L b K l)(hn:b≤n):(wn (n+1)).args L (K,())=wok (ry l):=by
 show(Bf (wn n) L K).run2 (lpW (tC (wn n) L) (K.length+1))=_
 have h:=rk hK hn l K [] (K.length+1) rfl hA (Nat.lt_succ_self _)
 have h2:(Bf (wn n) L K).run2 (lpW (tC (wn n) L) (K.length+1))=wok (wj (wS [40]) (wj (nZ [44,32] (l.map fun t=>fN t.x t.b 0)) (wS [41]))):=q_B (aO n _) h
 rw[h2]
 show _=wok (wj _ (wj _ (wj _ ([],0))))
 rw[eh]
end Go.Sx.Tryz
