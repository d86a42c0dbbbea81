/- A part of the proof: see the row's text. -/
import Derived.Test.YtehaoepopklboaaGreatDoorZh14
set_option linter.unusedVariables false
set_option linter.unusedSimpArgs false
noncomputable section
namespace Go.Sx.Tryz
open Go Go.Sx
set_option maxRecDepth 100000
abbrev Str:Type:=List UInt8
abbrev Pm(α:Type):Type:=Int→Int→List Nd→PR α
def Pm.bind{α β:Type}(m:Pm α)(k:α→Pm β):Pm β:=fun a d A=>(m a d A).bind fun y a d A=>k y a d A
def Pm.ret{α:Type}(y:α):Pm α:=fun a d A=>.ok y a d A
def Pm.flt{α:Type}(c p:Int):Pm α:=fun _ _ _=>.fault c p
def Pm.bad{α:Type}:Pm α:=fun _ _ _=>.bad
def nod(kind:Int)(kids:List Int)(text:Str):Nd:=mkN kind 0 0 kids text 0 [] 0 [] 0 0 0 []
def mY(kind n:Int)(text:Str):Nd:=mkN kind 0 0 [] text 0 [] 0 [] n 0 0 []
def cw(x:Nd)(kind:Int)(kids:List Int)(text:Str):Nd:=mkN kind (nAt x) (nTo x) kids text (ax x) (aA x) (ak x) (ah x) (nN x) (nW1 x) (nW2 x) (aF x)
def pK(base:Int)(name:Str)(w1 w2 e:Int):Nd:=mkN 0 0 0 [] [] base name 0 [32] 0 w1 w2 [e]
def dA(x:Nd)(f t:Int):Nd:=mkN (ae x) f t (aa x) (aw x) (ax x) (aA x) (ak x) (ah x) (nN x) (nW1 x) (nW2 x) (aF x)
def fG(x:Nd)(i:Int):Int:=((ah x).getD i.toNat 0).toNat
def fw(x:Nd)(c:UInt8)(w1 w2:Int):Nd:=mkN (ae x) (nAt x) (nTo x) (aa x) (aw x) (ax x) (aA x) (ak x) ((ah x).take (ak x).toNat++[c]) (nN x) w1 w2 (aF x)
def wC(x:Nd)(to_:Int):Nd:=mkN (ae x) (nAt x) (nTo x) (aa x) (aw x) (ax x) (aA x) (ak x+1) (ah x++[32]) (nN x) (nW1 x) to_ (aF x++[to_])
section
variable(T:List UInt8)(K:List Tok)
def say(t:Tok):Str:=List.drop (Int.toNat (ag t)) (List.take (Int.toNat (tTo t)) T)
def cM:Pm (Tok×Str):=fun a d A=>.ok (af K a,say T (af K a)) a d A
def lK(n:Int):Pm (Int×Str):=fun a d A=>bif decide (a+n≥(K.length:Int))then .ok (0,[]) a d A else .ok (az (af K (a+n)),say T (af K (a+n))) a d A
def bM:Pm Int:=fun a d A=>bif az (af K a) !=0 then .ok (tTo (af K a)) (a+1) d A else .ok (tTo (af K a)) a d A
def cIs(s:Str):Pm Bool:=(cM T K).bind fun t=>.ret ((az t.1==1||az t.1==5)&&t.2==s)
def cJ(s:Str):Pm Bool:=(cIs T K s).bind fun b=>bif b then(bM K).bind fun _=>.ret true else .ret false
def bd(s:Str):Pm Int:=(cIs T K s).bind fun b=>bif b then bM K else(cM T K).bind fun t=>.flt 80 (ag t.1)
def fE:Pm Str:=(cM T K).bind fun t=>bif az t.1==1&&bT t.2 then(bM K).bind fun _=>.ret t.2 else .flt 80 (ag t.1)
def iv(a f:Int):Int:=bif decide (a>0)then(bif decide (f<tTo (af K (a-1)))then tTo (af K (a-1))else f)else f
def bQ(x:Nd)(f:Int):Pm Int:=fun a d A=>bif decide ((A.length:Int)≥8192)then .fault 2 f else .ok (A.length:Int) a d (A++[dA x f (iv K a f)])
def qN:Pm Unit:=fun a d A=>bif decide (d+1>60)then .fault 6 (ag (af K a))else .ok () a (d+1) A
def FF:Pm Unit:=fun a d A=>.ok () a (d-1) A
def uM(n:Int):Pm Unit:=fun a d A=>bif decide (n>64)then .fault 2 (ag (af K a))else .ok () a d A
def Dd:Pm Nd:=(cM T K).bind fun t=>bif az t.1==1 then
  (bif t.2==[105,110,116]then(bM K).bind fun e=>.ret (pK 1 [] (ag t.1) (tTo t.1) e)
  else bif t.2==[98,111,111,108]then(bM K).bind fun e=>.ret (pK 2 [] (ag t.1) (tTo t.1) e)
  else bif t.2==[100,111,117,98,108,101]then(bM K).bind fun e=>.ret (pK 3 [] (ag t.1) (tTo t.1) e)
  else bif t.2==[115,116,114]then(bM K).bind fun e=>.ret (pK 4 [] (ag t.1) (tTo t.1) e)
  else bif bT t.2 then(bM K).bind fun e=>.ret (pK 5 t.2 (ag t.1) (tTo t.1) e)else .flt 80 (ag t.1))
 else .flt 80 (ag t.1)
def gL:Nat→Nd→Pm Nd
 |0,_=>.bad
 |n+1,x=>(cM T K).bind fun t=>(cIs T K [63]).bind fun b=>bif b then
   (bif (ax x !=5&&ak x==0)||fG x (ak x) !=32 then .flt 81 (ag t.1)else(bM K).bind fun e=>gL n (fw x 63 (nW1 x) e))
  else(lK T K 1).bind fun z=>(cIs T K [91]).bind fun b=>bif b&&z.2==[93]then
    (bif ak x==4 then .flt 2 (ag t.1)else(bM K).bind fun _=>(bM K).bind fun e=>gL n (wC x e))
   else .ret x
def jU:Pm Nd:=(Dd T K).bind fun x=>gL T K (K.length+2) x
def ef(v:Bool):Pm Nd:=(cM T K).bind fun t=>bif t.2==[79,112,116,105,111,110]&&az t.1==1 then
  ((bM K).bind fun _=>(bd T K [60]).bind fun _=>(jU T K).bind fun x=>(bd T K [62]).bind fun e=>
   bif (ax x !=5&&ak x==0)||fG x (ak x) !=32 then .flt 5 (ag t.1)else .ret (fw x 111 (ag t.1) e))
 else bif v&&(az t.1==1&&t.2==[118,111,105,100])then(bM K).bind fun e=>.ret (pK 6 [] (ag t.1) (tTo t.1) e)
 else jU T K
def fO:Pm Bool:=(lK T K 0).bind fun x=>bif x.1 !=1 then .ret false
 else bif bT x.2 then((lK T K 1).bind fun y=>(lK T K 2).bind fun z=>
   .ret ((y.1==1&&bT y.2)||(y.1==5&&(y.2==[63]||(y.2==[91]&&z.2==[93])))))
  else .ret (Lib.contains [32,105,110,116,32,98,111,111,108,32,100,111,117,98,108,101,32,115,116,114,32,79,112,116,105,111,110,32] ([32]++x.2++[32]))
structure Kn where
 val:Pm Int
 blk:Pm Int
 un:Pm Int
variable(q:Kn)
def dH:Pm Int:=(bd T K [40]).bind fun _=>q.val.bind fun x=>(bd T K [41]).bind fun _=>.ret x
def px:Nat→List Int→Pm (List Int)
 |0,_=>.bad
 |n+1,L=>(cJ T K [41]).bind fun b=>bif b then .ret L
  else(bif decide ((L.length:Int)>0)then(bd T K [44]).bind fun _=>.ret ()else .ret ()).bind fun _=>(uM K ((L.length:Int)+1)).bind fun _=>q.val.bind fun x=>px n (L++[x])
def uW:Pm (List Int):=(bd T K [40]).bind fun _=>px T K q (K.length+2) []
def mP(x:Nd)(e:Int):Pm Int:=(cM T K).bind fun t=>bif e !=0 then .flt e (ag t.1)else(bM K).bind fun _=>bQ K x (ag t.1)
def Cn:Pm Nd:=(jU T K).bind fun x=>(cIs T K [40]).bind fun b=>bif b then
  (bif ax x !=5||(decide (ak x>0)|| !Lib.trimB (ah x) 32==[])then .flt 5 (nW1 x)else(uW T K q).bind fun l=>.ret (cw x 30 l (aw x)))
 else(bd T K [91]).bind fun _=>q.val.bind fun y=>(bd T K [93]).bind fun _=>.ret (cw x 31 [y] (aw x))
def GU(s:Str):Int:=bif s==[97,115,107]then 39 else bif s==[116,111,105,110,116]then 36 else bif s==[116,111,100,111,117,98,108,101]then 37 else 41
def isWrap(s:Str):Bool:=s==[115,111,109,101]||(s==[97,115,107]||(s==[116,111,105,110,116]||s==[116,111,100,111,117,98,108,101]))
def Di(t:Tok)(s:Str):Pm Int:=
 bif s==[116,114,117,101]then mP T K (mY 21 1 []) 0
 else bif s==[102,97,108,115,101]then mP T K (mY 21 0 []) 0
 else bif s==[110,117,108,108]then mP T K (mY 23 0 []) 0
 else bif s==[110,111,110,101]then mP T K (mY 42 0 []) 0
 else bif s==[116,104,105,115]then mP T K (mY 24 0 []) 0
 else bif s==[105,110,112,117,116]then(bM K).bind fun _=>(bd T K [40]).bind fun _=>(bd T K [41]).bind fun _=>bQ K (nod 38 [] []) (ag t)
 else bif isWrap s then(bM K).bind fun _=>(dH T K q).bind fun x=>bQ K (nod (GU s) [x] []) (ag t)
 else bif s==[99,97,115,116]then(bM K).bind fun _=>(bd T K [60]).bind fun _=>(ef T K false).bind fun x=>(bd T K [62]).bind fun _=>(dH T K q).bind fun y=>bQ K (cw x 35 [y] (aw x)) (ag t)
 else bif s==[110,101,119]then(bM K).bind fun _=>(Cn T K q).bind fun x=>bQ K x (ag t)
 else .flt 80 (ag t)
def pA:Pm Int:=(cM T K).bind fun t=>
 bif az t.1==2 then mP T K (mY 19 (sV t.2).1 []) (sV t.2).2
 else bif az t.1==3 then mP T K (mY 20 (IntKind.wrap .i64 (lj t.2).1) t.2) (lj t.2).2
 else bif az t.1==4 then mP T K (mY 22 0 (r8 t.2).1) (r8 t.2).2
 else bif az t.1==5 then(bif t.2==[40]then dH T K q else .flt 80 (ag t.1))
 else bif az t.1==1 then(bif bT t.2 then mP T K (mY 25 0 t.2) 0 else Di T K q t.1 t.2)
 else .flt 80 (ag t.1)
def BW(x f:Int):Pm Int:=(cJ T K [108,101,110,103,116,104]).bind fun b=>bif b then bQ K (nod 28 [x] []) f
 else(cJ T K [118,97,108]).bind fun b=>bif b then bQ K (nod 45 [x] []) f
 else(fE T K).bind fun s=>(cIs T K [40]).bind fun b=>bif b then(uW T K q).bind fun l=>bQ K (nod 29 ([x]++l) s) f else bQ K (nod 26 [x] s) f
def eH(f:Int):Nat→Int→Pm Int
 |0,_=>.bad
 |n+1,x=>(cJ T K [33]).bind fun b=>bif b then(bQ K (nod 40 [x] []) f).bind fun y=>eH f n y
  else(cJ T K [91]).bind fun b=>bif b then q.val.bind fun y=>(bd T K [93]).bind fun _=>(bQ K (nod 27 [x,y] []) f).bind fun y=>eH f n y
  else(cJ T K [46]).bind fun b=>bif b then(BW T K q x f).bind fun y=>eH f n y
  else .ret x
def nw:Pm Int:=(cM T K).bind fun t=>(pA T K q).bind fun x=>eH T K q (ag t.1) (K.length+2) x
def xp:Pm Int:=(cM T K).bind fun t=>bif az t.1==5&&(t.2==[33]||t.2==[45])then
  ((qN K).bind fun _=>(bM K).bind fun _=>q.un.bind fun x=>FF.bind fun _=>bQ K (nod (bif t.2==[45]then 32 else 33) [x] []) (ag t.1))
 else nw T K q
def eC(least f:Int)(sub:Pm Int):Nat→Int→Pm Int
 |0,_=>.bad
 |n+1,x=>(cM T K).bind fun t=>bif az t.1==5&&eY t.2==least then
   ((bM K).bind fun _=>sub.bind fun y=>(bQ K (nod 34 [x,y] t.2) f).bind fun z=>eC least f sub n z)
  else bif least==3 then((cJ T K [105,115]).bind fun b=>bif b then
    ((cJ T K [115,111,109,101]).bind fun b=>bif b then(bQ K (nod 43 [x] []) f).bind fun z=>eC least f sub n z
     else(bd T K [110,111,110,101]).bind fun _=>(bQ K (nod 44 [x] []) f).bind fun z=>eC least f sub n z)
    else .ret x)
  else .ret x
def kl:Nat→Pm Int
 |0=>(cM T K).bind fun _=>q.un
 |j+1=>(cM T K).bind fun t=>(kl j).bind fun x=>eC T K (5-(j:Int)) (ag t.1) (kl j) (K.length+2) x
def xv:Pm Int:=(qN K).bind fun _=>(kl T K q 6).bind fun x=>FF.bind fun _=>.ret x
def ph(s:Str):Pm (Nd×Bool):=
 bif s==[105,102]then(bM K).bind fun _=>(dH T K q).bind fun x=>q.blk.bind fun y=>(cJ T K [101,108,115,101]).bind fun b=>bif b then q.blk.bind fun z=>.ret (nod 11 ([x,y]++[z]) [],true)else .ret (nod 11 [x,y] [],true)
 else bif s==[119,104,105,108,101]then(bM K).bind fun _=>(dH T K q).bind fun x=>q.blk.bind fun y=>.ret (nod 12 [x,y] [],true)
 else bif s==[98,114,101,97,107]then(bM K).bind fun _=>(bd T K [59]).bind fun _=>.ret (nod 13 [] [],true)
 else bif s==[99,111,110,116,105,110,117,101]then(bM K).bind fun _=>(bd T K [59]).bind fun _=>.ret (nod 14 [] [],true)
 else bif s==[114,101,116,117,114,110]then(bM K).bind fun _=>(cIs T K [59]).bind fun b=>bif b then(bd T K [59]).bind fun _=>.ret (nod 15 [] [],true)else q.val.bind fun x=>(bd T K [59]).bind fun _=>.ret (nod 15 [x] [],true)
 else bif s==[112,114,105,110,116]then(bM K).bind fun _=>(dH T K q).bind fun x=>(bd T K [59]).bind fun _=>.ret (nod 16 [x] [],true)
 else bif s==[115,117,112,101,114]then(bM K).bind fun _=>(uW T K q).bind fun l=>(bd T K [59]).bind fun _=>.ret (nod 17 l [],true)
 else .ret (nod 0 [] [],false)
def Fe(x:Int):Pm Int:=fun a d A=>.ok (ae (aj A x.toNat)) a d A
def dZ(f:Int):Pm Int:=q.val.bind fun x=>(cM T K).bind fun t=>(Fe x).bind fun k=>(cJ T K [61]).bind fun b=>bif b then
  (bif k==25||(k==26||k==27)then q.val.bind fun y=>(bd T K [59]).bind fun _=>bQ K (nod 10 [x,y] []) f else .flt 132 (ag t.1))
 else bif k==29||k==30 then(bd T K [59]).bind fun _=>bQ K (nod 18 [x] []) f else .flt 132 f
def Dj:Pm Int:=(cM T K).bind fun t=>bif az t.1==5&&t.2==[123]then q.blk
 else(fO T K).bind fun b=>bif b then
  ((ef T K false).bind fun x=>(fE T K).bind fun s=>(cJ T K [61]).bind fun b=>bif b then q.val.bind fun y=>(bd T K [59]).bind fun _=>bQ K (cw x 9 [y] s) (ag t.1)
   else(bd T K [59]).bind fun _=>bQ K (cw x 9 (aa x) s) (ag t.1))
 else bif az t.1==1 then(ph T K q t.2).bind fun w=>bif w.2 then bQ K w.1 (ag t.1)else dZ T K q (ag t.1)
 else dZ T K q (ag t.1)
def nc(f:Int):Nat→List Int→Pm Int
 |0,_=>.bad
 |n+1,L=>(cIs T K [125]).bind fun b=>bif b then(bd T K [125]).bind fun _=>FF.bind fun _=>bQ K (nod 8 L []) f
  else(Dj T K q).bind fun x=>nc f n (L++[x])
def vW:Pm Int:=(cM T K).bind fun t=>(qN K).bind fun _=>(bd T K [123]).bind fun _=>nc T K q (ag t.1) (K.length+2) []
end
def kns(T:List UInt8)(K:List Tok):Nat→Kn
 |0=>⟨.bad,.bad,.bad⟩
 |n+1=>⟨xv T K (kns T K n),vW T K (kns T K n),xp T K (kns T K n)⟩
section
variable(T:List UInt8)(K:List Tok)(q:Kn)
def jb:Nat→List Int→Pm (List Int)
 |0,_=>.bad
 |n+1,L=>(cJ T K [41]).bind fun b=>bif b then .ret L
  else(bif decide ((L.length:Int)>0)then(bd T K [44]).bind fun _=>.ret ()else .ret ()).bind fun _=>(uM K ((L.length:Int)+1)).bind fun _=>(cM T K).bind fun t=>(ef T K false).bind fun x=>(fE T K).bind fun s=>(bQ K (cw x 7 (aa x) s) (ag t.1)).bind fun y=>jb n (L++[y])
def kA:Pm (List Int):=(bd T K [40]).bind fun _=>jb T K (K.length+2) []
def sQ:Pm Int:=(cM T K).bind fun t=>bif az t.1==1&&t.2==[105,110,105,116]then
  ((bM K).bind fun _=>(kA T K).bind fun l=>q.blk.bind fun b=>bQ K (nod 5 (l++[b]) []) (ag t.1))
 else(ef T K true).bind fun x=>(fE T K).bind fun s=>(cIs T K [40]).bind fun b=>bif b then
   ((kA T K).bind fun l=>q.blk.bind fun b=>bQ K (cw x 6 (l++[b]) s) (ag t.1))
  else bif ax x==6 then .flt 80 (ag t.1)else(bd T K [59]).bind fun _=>bQ K (cw x 4 (aa x) s) (ag t.1)
def kM(f:Int)(s:Str):Nat→List Int→Pm Int
 |0,_=>.bad
 |n+1,L=>(cIs T K [125]).bind fun b=>bif b then(bd T K [125]).bind fun _=>bQ K (nod 2 L s) f
  else(uM K ((L.length:Int)+1)).bind fun _=>(sQ T K q).bind fun x=>kM f s n (L++[x])
def w6:Pm Int:=(cM T K).bind fun t=>(bd T K [99,108,97,115,115]).bind fun _=>(fE T K).bind fun s=>(cM T K).bind fun u=>(cJ T K [101,120,116,101,110,100,115]).bind fun b=>bif b then
  ((fE T K).bind fun e=>(bQ K (nod 3 [] e) (ag u.1)).bind fun y=>(bd T K [123]).bind fun _=>kM T K q (ag t.1) s (K.length+2) [y])
 else(bd T K [123]).bind fun _=>kM T K q (ag t.1) s (K.length+2) []
def jr:Nat→List Int→Pm Unit
 |0,_=>.bad
 |n+1,L=>(cM T K).bind fun t=>bif az t.1==0 then(bQ K (nod 1 L []) 0).bind fun _=>.ret ()
  else(uM K ((L.length:Int)+1)).bind fun _=>(w6 T K q).bind fun x=>jr n (L++[x])
def nV:Pm Unit:=jr T K q (K.length+2) []
end
end Go.Sx.Tryz
namespace Go.Sx.Tryz
open Go Go.Sx
set_option maxRecDepth 100000
def EqH{α β:Type}(inj:β→α)(Q:β→Int→Int→List Nd→Prop)(r:PR α)(r':PR β):Prop:=match r' with
 | .ok y a d A=>r= .ok (inj y) a d A∧Q y a d A
 | .fault c p=>r= .fault c p
 | .bad=>False
section
variable{α β γ δ:Type}{inj:β→α}{Q:β→Int→Int→List Nd→Prop}
theorem EqH.flt{c p:Int}:EqH inj Q (.fault c p) (.fault c p):=rfl
theorem EqH.bind{inj1:δ→γ}{Q1:δ→Int→Int→List Nd→Prop}{r:PR γ}{r':PR δ}{k:γ→Int→Int→List Nd→PR α}{k':δ→Int→Int→List Nd→PR β}
  (h1:EqH inj1 Q1 r r') (h2:∀y a d A,Q1 y a d A→EqH inj Q (k (inj1 y) a d A) (k' y a d A)):EqH inj Q (r.bind k) (r'.bind k'):=by
 cases r' with
 |ok y a d A=>
  obtain⟨e,q⟩:=h1
  rw[e]
  exact h2 y a d A q
 |fault c p=>
  have e:r= .fault c p:=h1
  rw[e]
  exact rfl
 |bad=>exact h1.elim
theorem EqH.tail{inj1:δ→γ}{Q1:δ→Int→Int→List Nd→Prop}{injd:δ→α}{Qd:δ→Int→Int→List Nd→Prop}{r:PR γ}{r':PR δ}{k:γ→Int→Int→List Nd→PR α}
  (h1:EqH inj1 Q1 r r') (h2:∀y a d A,Q1 y a d A→k (inj1 y) a d A= .ok (injd y) a d A∧Qd y a d A):EqH injd Qd (r.bind k) r':=by
 cases r' with
 |ok y a d A=>
  obtain⟨e,q⟩:=h1
  rw[e]
  exact h2 y a d A q
 |fault c p=>
  have e:r= .fault c p:=h1
  rw[e]
  exact rfl
 |bad=>exact h1.elim
theorem EqH.bif{c:Bool}{r s:PR α}{r' s':PR β}(h:c=true→EqH inj Q r r')(h':c=false→EqH inj Q s s'):EqH inj Q (bif c then r else s) (bif c then r' else s'):=by
 cases c
 ·exact h' rfl
 ·exact h rfl
theorem EqH.of_eq{r r1:PR α}{r':PR β}(e:r=r1)(h:EqH inj Q r1 r'):EqH inj Q r r':=e▸h
theorem EqH.mono{Q':β→Int→Int→List Nd→Prop}{r:PR α}{r':PR β}(h:EqH inj Q r r')(hq:∀y a d A,Q y a d A→Q' y a d A):EqH inj Q' r r':=by
 cases r' with
 |ok y a d A=>exact⟨h.1,hq _ _ _ _ h.2⟩
 |fault c p=>exact h
 |bad=>exact h
end
structure WF(T:List UInt8)(K:List Tok):Prop where
 len:T.length≤65536
 pos:0<K.length
 most:K.length≤16385
 span:∀a:Int,0≤a→a<K.length→0≤ag (af K a)∧ag (af K a)≤tTo (af K a)∧tTo (af K a)≤T.length
 last:∀a:Int,0≤a→a<K.length→(az (af K a)=0↔a=K.length-1)
 fin:∀a:Int,0≤a→a<K.length→az (af K a)=0→say T (af K a)=[]
structure Inv(K:List Tok)(a d:Int)(A:List Nd):Prop where
 a0:0≤a
 a1:a<K.length
 d0:0≤d
 d1:d≤60
 len:A.length≤8192
 nd:∀x∈A,(aa x).length≤20000∧(aF x).length≤20000
structure Post(K:List Tok)(a d:Int)(A:List Nd)(c:Int)(a' d':Int)(A':List Nd):Prop where
 inv:Inv K a' d' A'
 le:a+c≤a'
 eq:d'=d
 pre:∃B,A'=A++B
theorem Post.refl{K:List Tok}{a d:Int}{A:List Nd}(h:Inv K a d A):Post K a d A 0 a d A:=⟨h,by omega,rfl,[],by simp⟩
theorem Post.trans{K:List Tok}{a d a1 d1 a2 d2 c1 c2 c:Int}{A A1 A2:List Nd}(h:Post K a d A c1 a1 d1 A1)(k:Post K a1 d1 A1 c2 a2 d2 A2)(hc:c≤c1+c2):Post K a d A c a2 d2 A2:=by
 obtain⟨B1,e1⟩:=h.pre
 obtain⟨B2,e2⟩:=k.pre
 exact⟨k.inv,by have:=h.le;have:=k.le;omega,k.eq.trans h.eq,B1++B2,by rw[e2,e1,List.append_assoc]⟩
abbrev iI:Int→ai [tI]:=fun y=>(y,())
abbrev iS:Str→ai [tS]:=fun y=>(y,())
abbrev iB:Bool→ai [tB]:=fun y=>(y,())
abbrev iN:Nd→ai [tN]:=fun y=>(y,())
abbrev iL:List Int→ai [tL]:=fun y=>(y,())
abbrev iU:Unit→ai []:=fun _=>()
abbrev iTS:Tok×Str→ai [tT,tS]:=fun y=>(y.1,y.2,())
abbrev iIS:Int×Str→ai [tI,tS]:=fun y=>(y.1,y.2,())
abbrev iNB:Nd×Bool→ai [tN,tB]:=fun y=>(y.1,y.2,())
theorem kU{K:List Tok}{a:Int}(h0:0≤a)(h1:a<K.length):inI a K.length=true:=by
 simp only[inI,Bool.and_eq_true,decide_eq_true_eq]
 omega
theorem aZ{n k:Nat}(h:k+1≤n):∃m,n=m+1∧k≤m:=⟨n-1,by omega,by omega⟩
theorem ju{T:List UInt8}{t:Tok}:(say T t).length≤T.length:=by
 unfold say
 rw[List.length_drop,List.length_take]
 omega
section
variable{T:List UInt8}{K:List Tok}{n:Nat}{a d:Int}{A:List Nd}
theorem wf_wrap(wf:WF T K){x:Int}(h0: -100000≤x)(h1:x≤100000):IntKind.wrap .i64 x=x:=wrap64 (by omega) (by omega)
theorem b7(wf:WF T K)(hn:1≤n)(h0:0≤a)(h1:a<K.length):EqH iTS (fun y a' d' A'=>y=(af K a,say T (af K a))∧a=a'∧d=d'∧A=A') ((fns n).next T K a d A ()) (cM T K a d A):=by
 obtain⟨m,rfl,_⟩:=aZ (k:=0) hn
 obtain⟨s0,s1,s2⟩:=wf.span a h0 h1
 show EqH iTS _ (z6 (fns m) T K a d A) _
 unfold z6 yK
 rw[kU h0 h1,iR s0 s1 s2]
 exact⟨rfl,rfl,rfl,rfl,rfl⟩
theorem nA(wf:WF T K)(hn:1≤n)(h0:0≤a)(h1:a<K.length){j:Int}(j0:0≤j)(j1:j≤2):EqH iIS (fun y a' d' A'=>(y.2.length≤T.length∧(y.2≠[]→a+j<K.length∧y.2=say T (af K (a+j))))∧a=a'∧d=d'∧A=A') ((fns n).ahead T K a d A (j,())) (lK T K j a d A):=by
 obtain⟨m,rfl,_⟩:=aZ (k:=0) hn
 have hm:=wf.most
 show EqH iIS _ (qa (fns m) T K a d A j) _
 unfold qa r9 lK
 rw[wf_wrap wf (by omega) (by omega)]
 refine EqH.bif (fun h=>⟨rfl,⟨Nat.zero_le _,fun e=>absurd rfl e⟩,rfl,rfl,rfl⟩) fun h=>?_
 have hlt:a+j<K.length:=by
  have:=of_decide_eq_false h
  omega
 obtain⟨s0,s1,s2⟩:=wf.span (a+j) (by omega) hlt
 rw[kU (by omega) hlt,iR s0 s1 s2]
 exact⟨rfl,⟨ju,fun _=>⟨hlt,rfl⟩⟩,rfl,rfl,rfl⟩
theorem cF(wf:WF T K)(hn:1≤n)(h0:0≤a)(h1:a<K.length)(hk:az (af K a)≠0):EqH iI (fun y a' d' A'=>y=tTo (af K a)∧a'=a+1∧d=d'∧A=A') ((fns n).skip T K a d A ()) (bM K a d A):=by
 obtain⟨m,rfl,_⟩:=aZ (k:=0) hn
 have hm:=wf.most
 show EqH iI _ (Ay (fns m) T K a d A) _
 unfold Ay zo bM
 rw[kU h0 h1,wf_wrap wf (x:=a+1) (by omega) (by omega)]
 have:(az (af K a) !=0)=true:=by simpa using hk
 rw[this]
 exact⟨rfl,rfl,rfl,rfl,rfl⟩
theorem Jd{a d:Int}{A:List Nd}(x y z:Bool):(bif x then PR.ok (z,()) a d A else bif y then PR.ok (z,()) a d A else PR.ok (false,()) a d A:PR (ai [tB]))= .ok ((x||y)&&z,()) a d A:=by
 cases x<;>cases y<;>cases z<;>rfl
theorem pE(wf:WF T K)(hn:2≤n)(h0:0≤a)(h1:a<K.length){s:Str}:EqH iB (fun y a' d' A'=>y=((az (af K a)==1||az (af K a)==5)&&say T (af K a)==s)∧a=a'∧d=d'∧A=A') ((fns n).isS T K a d A (s,())) (cIs T K s a d A):=by
 obtain⟨m,rfl,hm⟩:=aZ (k:=1) hn
 show EqH iB _ (AJ (fns m) T K a d A s) _
 unfold AJ yH cIs Pm.bind
 refine EqH.bind (b7 wf hm h0 h1) ?_
 rintro _ _ _ _ ⟨rfl,rfl,rfl,rfl⟩
 exact⟨Jd _ _ _,rfl,rfl,rfl,rfl⟩
theorem cD(wf:WF T K)(h0:0≤a)(h1:a<K.length)(hk:az (af K a)≠0):a+1<K.length:=by
 have h:=wf.last a h0 h1
 have h2:a≠K.length-1:=fun e=>hk (h.2 e)
 omega
theorem jf{s:Str}(h:((az (af K a)==1||az (af K a)==5)&&say T (af K a)==s)=true):az (af K a)≠0:=fun e=>by
 rw[e]at h
 exact absurd h (by simp)
theorem dK(wf:WF T K)(hn:3≤n)(h0:0≤a)(h1:a<K.length){s:Str}:EqH iB (fun y a' d' A'=>((y=true∧a'=a+1∧a+1<K.length)∨(y=false∧a=a'))∧d=d'∧A=A') ((fns n).take T K a d A (s,())) (cJ T K s a d A):=by
 obtain⟨m,rfl,hm⟩:=aZ (k:=2) hn
 show EqH iB _ (zN (fns m) T K a d A s) _
 unfold zN yZ cJ Pm.bind
 refine EqH.bind (pE wf hm h0 h1) ?_
 rintro _ _ _ _ ⟨rfl,rfl,rfl,rfl⟩
 cases hb:((az (af K a)==1||az (af K a)==5)&&say T (af K a)==s)with
 |true=>
  refine EqH.bind (cF wf (by omega) h0 h1 (jf hb)) ?_
  rintro _ _ _ _ ⟨rfl,rfl,rfl,rfl⟩
  exact⟨rfl,.inl ⟨rfl,rfl,cD wf h0 h1 (jf hb)⟩,rfl,rfl⟩
 |false=>exact⟨rfl,.inr ⟨rfl,rfl⟩,rfl,rfl⟩
theorem bE(wf:WF T K)(hn:3≤n)(h0:0≤a)(h1:a<K.length){s:Str}:EqH iI (fun y a' d' A'=>y=tTo (af K a)∧a'=a+1∧a+1<K.length∧d=d'∧A=A') ((fns n).want T K a d A (s,())) (bd T K s a d A):=by
 obtain⟨m,rfl,hm⟩:=aZ (k:=2) hn
 show EqH iI _ (zz (fns m) T K a d A s) _
 unfold zz yi bd Pm.bind
 refine EqH.bind (pE wf hm h0 h1) ?_
 rintro _ _ _ _ ⟨rfl,rfl,rfl,rfl⟩
 cases hb:((az (af K a)==1||az (af K a)==5)&&say T (af K a)==s)with
 |true=>
  refine EqH.tail (cF wf (by omega) h0 h1 (jf hb)) ?_
  rintro _ _ _ _ ⟨rfl,rfl,rfl,rfl⟩
  exact⟨rfl,rfl,rfl,cD wf h0 h1 (jf hb),rfl,rfl⟩
 |false=>
  have e:(fns m).next T K a d A ()= .ok (af K a,say T (af K a),()) a d A:=(b7 wf (n:=m) (by omega) h0 h1).1
  show EqH iI _ (PR.bind ((fns m).next T K a d A ()) _) _
  rw[e]
  exact EqH.flt
theorem iV(wf:WF T K){s:Str}(h:s.length≤T.length):cW (s,())=true:=by
 have:=wf.len
 show decide ((s.length:Int)≤1099511627776)=true
 exact decide_eq_true (by omega)
theorem Dn(wf:WF T K){s:Str}(h:s.length≤T.length):gD (s,())=true:=by
 have:=wf.len
 show decide ((s.length:Int)≤1048576)=true
 exact decide_eq_true (by omega)
theorem lW(wf:WF T K)(hn:2≤n)(h0:0≤a)(h1:a<K.length):EqH iS (fun y a' d' A'=>y.length≤T.length∧a'=a+1∧a+1<K.length∧d=d'∧A=A') ((fns n).name T K a d A ()) (fE T K a d A):=by
 obtain⟨m,rfl,hm⟩:=aZ (k:=1) hn
 show EqH iS _ (zJ (fns m) T K a d A) _
 unfold zJ yj fE Pm.bind
 refine EqH.bind (b7 wf hm h0 h1) ?_
 rintro _ _ _ _ ⟨rfl,rfl,rfl,rfl⟩
 show EqH iS _ (bif az (af K a) !=1 then _ else bif cW (say T (af K a),())then bif !bT (say T (af K a))then _ else _ else _) _
 rw[iV wf ju]
 show EqH iS _ _ ((bif az (af K a)==1&&bT (say T (af K a))then _ else _:Pm Str) a d A)
 cases hk:az (af K a)==1 with
 |false=>
  rw[show(az (af K a) !=1)=true by simp[bne,hk]]
  exact EqH.flt
 |true=>
  rw[show(az (af K a) !=1)=false by simp[bne,hk]]
  have hk0:az (af K a)≠0:=fun e=>by rw[e]at hk;exact absurd hk (by decide)
  cases hs:bT (say T (af K a))with
  |false=>exact EqH.flt
  |true=>
   refine EqH.bind (cF wf (by omega) h0 h1 hk0) ?_
   rintro _ _ _ _ ⟨rfl,rfl,rfl,rfl⟩
   exact⟨rfl,ju,rfl,cD wf h0 h1 hk0,rfl,rfl⟩
theorem wG(wf:WF T K)(hn:2≤n)(h0:0≤a)(h1:a<K.length)(d0:0≤d)(d1:d≤60):EqH iU (fun _ a' d' A'=>a=a'∧d'=d+1∧d+1≤60∧A=A') ((fns n).goIn T K a d A ()) (qN K a d A):=by
 obtain⟨m,rfl,hm⟩:=aZ (k:=1) hn
 show EqH iU _ (re (fns m) T K a d A) _
 unfold re rT qN
 rw[wf_wrap wf (x:=d+1) (by omega) (by omega)]
 cases h:decide (d+1>60)with
 |true=>
  have e:(fns m).next T K a (d+1) A ()= .ok (af K a,say T (af K a),()) a (d+1) A:=(b7 wf hm h0 h1).1
  rw[e]
  exact EqH.flt
 |false=>exact⟨rfl,rfl,rfl,by have:=of_decide_eq_false h;omega,rfl⟩
theorem x4(wf:WF T K)(hn:2≤n)(h0:0≤a)(h1:a<K.length){x:Int}:EqH iU (fun _ a' d' A'=>a=a'∧d=d'∧A=A'∧x≤64) ((fns n).few T K a d A (x,())) (uM K x a d A):=by
 obtain⟨m,rfl,hm⟩:=aZ (k:=1) hn
 show EqH iU _ (AQ (fns m) T K a d A x) _
 unfold AQ xV uM
 cases h:decide (x>64)with
 |true=>
  have e:(fns m).next T K a d A ()= .ok (af K a,say T (af K a),()) a d A:=(b7 wf hm h0 h1).1
  rw[e]
  exact EqH.flt
 |false=>exact⟨rfl,rfl,rfl,rfl,by have:=of_decide_eq_false h;omega⟩
def Small(x:Nd):Prop:=(aa x).length≤20000∧(aF x).length≤20000
theorem Gy(wf:WF T K)(hn:1≤n)(hi:Inv K a d A){x:Nd}(hx:Small x){f:Int}:EqH iI (fun y a' d' A'=>(y=A.length∧A'=A++[dA x f (iv K a f)])∧(0≤y∧y<A'.length)∧Post K a d A 0 a' d' A'∧a=a'∧d=d') ((fns n).add T K a d A (x,f,())) (bQ K x f a d A):=by
 obtain⟨m,rfl,hm⟩:=aZ (k:=0) hn
 have h0:=hi.a0
 have h1:=hi.a1
 have hmost:=wf.most
 have hl:=hi.len
 have key:∀t:Int,(bif decide ((A.length:Int)≥16384)then PR.fault 2 f
   else bif Nat.ble (aa x).length 17592186044416 then bif Nat.ble (aF x).length 17592186044416 then
    bif decide (A.length+[dA x f t].length<ar)then
     bif decide (IntKind.wrap .i64 (((A++[dA x f t]).length:Int)-1)≥8192)then PR.fault 2 f
     else PR.ok (IntKind.wrap .i64 (((A++[dA x f t]).length:Int)-1),()) a d (A++[dA x f t])
    else .bad else .bad else .bad:PR (ai [tI]))=bif decide ((A.length:Int)≥8192)then .fault 2 f else .ok ((A.length:Int),()) a d (A++[dA x f t]):=fun t=>by
  have e1:decide ((A.length:Int)≥16384)=false:=decide_eq_false (by omega)
  have e2:Nat.ble (aa x).length 17592186044416=true:=Nat.ble_eq_true_of_le (by have:=hx.1;omega)
  have e3:Nat.ble (aF x).length 17592186044416=true:=Nat.ble_eq_true_of_le (by have:=hx.2;omega)
  have e4:decide (A.length+[dA x f t].length<ar)=true:=decide_eq_true (by unfold ar;simp only[List.length_singleton];omega)
  have e5:IntKind.wrap .i64 (((A++[dA x f t]).length:Int)-1)=A.length:=by
   rw[List.length_append,List.length_singleton]
   rw[wf_wrap wf (by omega) (by omega)]
   omega
  rw[e1,e2,e3,e4,e5]
  rfl
 have fin:EqH iI (fun y a' d' A'=>(y=A.length∧A'=A++[dA x f (iv K a f)])∧(0≤y∧y<A'.length)∧Post K a d A 0 a' d' A'∧a=a'∧d=d') (bif decide ((A.length:Int)≥8192)then .fault 2 f else .ok ((A.length:Int),()) a d (A++[dA x f (iv K a f)])) (bQ K x f a d A):=by
  unfold bQ
  refine EqH.bif (fun _=>EqH.flt) fun h=>?_
  have h:=of_decide_eq_false h
  refine⟨rfl,⟨rfl,rfl⟩,⟨by omega,by rw[List.length_append,List.length_singleton];omega⟩,⟨⟨h0,h1,hi.d0,hi.d1,by rw[List.length_append,List.length_singleton];omega,fun y hy=>?_⟩,by omega,rfl,_,rfl⟩,rfl,rfl⟩
  rcases List.mem_append.1 hy with hy|hy
  ·exact hi.nd y hy
  ·rw[List.mem_singleton.1 hy]
   exact hx
 show EqH iI _ (zX (fns m) T K a d A x f) _
 unfold zX yU
 cases ha:decide (a>0)with
 |true=>
  have ha':=of_decide_eq_true ha
  have hw:IntKind.wrap .i64 (a-1)=a-1:=wf_wrap wf (by omega) (by omega)
  have hlt:iv K a f=bif decide (f<tTo (af K (a-1)))then tTo (af K (a-1))else f:=by
   unfold iv
   rw[ha]
   rfl
  rw[hw,kU (a:=a-1) (K:=K) (by omega) (by omega)]
  exact EqH.of_eq ((key _).trans (by rw[hlt])) fin
 |false=>
  have hlt:iv K a f=f:=by
   unfold iv
   rw[ha]
   rfl
  exact EqH.of_eq ((key _).trans (by rw[hlt])) fin
end
end Go.Sx.Tryz
namespace Go.Sx.Tryz
open Go Go.Sx
set_option maxRecDepth 100000
structure TyN(x:Nd):Prop where
 d0:0≤ak x
 d1:ak x≤4
 mks:((ah x).length:Int)=ak x+1
 en:((aF x).length:Int)=ak x+1
 kids:aa x=[]
theorem TyN.small{x:Nd}(h:TyN x):Small x:=by
 have h1:=h.d1
 have h2:=h.en
 exact⟨by rw[h.kids];simp,by omega⟩
section
variable{T:List UInt8}{K:List Tok}{n:Nat}{a d:Int}{A:List Nd}
theorem Jg(wf:WF T K)(hn:1≤n)(h0:0≤a)(h1:a<K.length):(fns n).next T K a d A ()= .ok (af K a,say T (af K a),()) a d A:=(b7 wf hn h0 h1).1
theorem KE(wf:WF T K)(hn:3≤n)(h0:0≤a)(h1:a<K.length):EqH iN (fun y a' d' A'=>(TyN y∧ak y=0)∧a'=a+1∧a+1<K.length∧d=d'∧A=A') ((fns n).base T K a d A ()) (Dd T K a d A):=by
 obtain⟨m,rfl,hm⟩:=aZ (k:=2) hn
 show EqH iN _ (p9 (fns m) T K a d A) _
 unfold p9 sM Dd Pm.bind
 refine EqH.bind (b7 wf (by omega) h0 h1) ?_
 rintro _ _ _ _ ⟨rfl,rfl,rfl,rfl⟩
 show EqH iN _ (bif az (af K a) !=1 then _ else _) ((bif az (af K a)==1 then _ else _:Pm Nd) a d A)
 cases hk:az (af K a)==1 with
 |false=>
  rw[show(az (af K a) !=1)=true by simp[bne,hk]]
  exact EqH.flt
 |true=>
  rw[show(az (af K a) !=1)=false by simp[bne,hk]]
  have hk0:az (af K a)≠0:=fun e=>by rw[e]at hk;exact absurd hk (by decide)
  have fin:∀(b:Int) (nm:Str),EqH iN (fun y a' d' A'=>(TyN y∧ak y=0)∧a'=a+1∧a+1<K.length∧d=d'∧A=A')
    (((fns m).skip T K a d A ()).bind fun y10 a10 d10 A10=>.ok (pK b nm (ag (af K a)) (tTo (af K a)) y10.1,()) a10 d10 A10)
    ((bM K).bind (fun e=>.ret (pK b nm (ag (af K a)) (tTo (af K a)) e)) a d A):=fun b nm=>by
   refine EqH.bind (cF wf (by omega) h0 h1 hk0) ?_
   rintro _ _ _ _ ⟨rfl,rfl,rfl,rfl⟩
   exact⟨rfl,⟨⟨Int.le_refl 0,show(0:Int)≤4 by decide,rfl,rfl,rfl⟩,rfl⟩,rfl,cD wf h0 h1 hk0,rfl,rfl⟩
  show EqH iN _ (bif say T (af K a)==[105,110,116]then _ else _) ((bif say T (af K a)==[105,110,116]then _ else _:Pm Nd) a d A)
  cases say T (af K a)==[105,110,116]with
  |true=>exact fin 1 []
  |false=>
  show EqH iN _ (bif say T (af K a)==[98,111,111,108]then _ else _) ((bif say T (af K a)==[98,111,111,108]then _ else _:Pm Nd) a d A)
  cases say T (af K a)==[98,111,111,108]with
  |true=>exact fin 2 []
  |false=>
  show EqH iN _ (bif say T (af K a)==[100,111,117,98,108,101]then _ else _) ((bif say T (af K a)==[100,111,117,98,108,101]then _ else _:Pm Nd) a d A)
  cases say T (af K a)==[100,111,117,98,108,101]with
  |true=>exact fin 3 []
  |false=>
  show EqH iN _ (bif say T (af K a)==[115,116,114]then _ else _) ((bif say T (af K a)==[115,116,114]then _ else _:Pm Nd) a d A)
  cases say T (af K a)==[115,116,114]with
  |true=>exact fin 4 []
  |false=>
  show EqH iN _ (bif cW (say T (af K a),())then bif !bT (say T (af K a))then _ else _ else _) ((bif bT (say T (af K a))then _ else _:Pm Nd) a d A)
  rw[iV wf ju]
  cases bT (say T (af K a))with
  |true=>exact fin 5 _
  |false=>exact EqH.flt
theorem yn{x:Nd}(h:TyN x):inI (ak x) (ah x).length=true∧inB 0 (ak x) (ah x).length=true:=by
 have h1:=h.d0
 have h2:=h.mks
 exact⟨by simp only[inI,Bool.and_eq_true,decide_eq_true_eq];omega,iR (by omega) (by omega) (by omega)⟩
theorem pf{x:Nd}(h:TyN x)(c:UInt8)(w1 w2:Int):TyN (fw x c w1 w2):=by
 have h1:=h.d0
 have h2:=h.mks
 refine⟨h.d0,h.d1,?_,h.en,h.kids⟩
 show(((ah x).take (ak x).toNat++[c]).length:Int)=ak x+1
 rw[List.length_append,List.length_take,List.length_singleton]
 omega
theorem AR{x:Nd}(h:TyN x)(h4:ak x≠4)(e:Int):TyN (wC x e):=by
 have h1:=h.d0
 have h2:=h.mks
 have h3:=h.en
 have h5:=h.d1
 refine⟨?_,?_,?_,?_,h.kids⟩
 ·show 0≤ak x+1
  omega
 ·show ak x+1≤4
  omega
 ·show((ah x++[32]).length:Int)=ak x+1+1
  rw[List.length_append,List.length_singleton]
  omega
 ·show((aF x++[e]).length:Int)=ak x+1+1
  rw[List.length_append,List.length_singleton]
  omega
theorem ou(wf:WF T K){m:Nat}(hm:3≤m):∀(N:Nat) (a d:Int) (A:List Nd) (x:Nd),0≤a→a<K.length→(K.length:Int)-a+1≤N→TyN x→
  EqH iN (fun y a' d' A'=>TyN y∧(a≤a'∧a'<K.length)∧d=d'∧A=A') (mw (fns m) T K N a d A (ae x) (nAt x) (nTo x) (aw x) (ax x) (aA x) (ak x) (ah x) (nN x) (nW1 x) (nW2 x) (aF x)) (gL T K N x a d A)
 |0,a,d,A,x,h0,h1,hN,hx=>by omega
 |N+1,a,d,A,x,h0,h1,hN,hx=>by
  obtain⟨i1,i2⟩:=yn hx
  have hmost:=wf.most
  have hxe:x=mkN (ae x) (nAt x) (nTo x) [] (aw x) (ax x) (aA x) (ak x) (ah x) (nN x) (nW1 x) (nW2 x) (aF x):=by
   have:=hx.kids
   obtain⟨k,f,t,ks,r⟩:=x
   have e:ks=[]:=this
   subst e
   rfl
  have hmk:=hx.mks
  have hen:=hx.en
  have hd1:=hx.d1
  show EqH iN _ (vw (fns m) T K (mw (fns m) T K N) a d A (ae x) (nAt x) (nTo x) (aw x) (ax x) (aA x) (ak x) (ah x) (nN x) (nW1 x) (nW2 x) (aF x)) _
  unfold vw rK gL Pm.bind
  refine EqH.bind (b7 wf (by omega) h0 h1) ?_
  rintro _ _ _ _ ⟨rfl,rfl,rfl,rfl⟩
  refine EqH.bind (pE wf (by omega) h0 h1) ?_
  rintro _ _ _ _ ⟨rfl,rfl,rfl,rfl⟩
  cases hb:((az (af K a)==1||az (af K a)==5)&&say T (af K a)==[63])with
  |true=>
   have hk0:=jf hb
   have hlt:=cD wf h0 h1 hk0
   have ih:=ou wf hm N (a+1) d A (fw x 63 (nW1 x) (tTo (af K a))) (by omega) hlt (by omega) (pf hx _ _ _)
   have e62:decide ((List.drop (Int.toNat 0) (List.take (Int.toNat (ak x)) (ah x))).length+[(63:UInt8)].length<2^62)=true:=decide_eq_true (by
    show((List.take (Int.toNat (ak x)) (ah x))).length+1<2^62
    rw[List.length_take]
    omega)
   have go:EqH iN (fun y a' d' A'=>TyN y∧(a≤a'∧a'<K.length)∧d=d'∧A=A')
     (bif inI (ak x) (ah x).length then bif fG x (ak x) !=32 then PR.fault 81 (ag (af K a))else bif inB 0 (ak x) (ah x).length then
      bif decide ((List.drop (Int.toNat 0) (List.take (Int.toNat (ak x)) (ah x))).length+[(63:UInt8)].length<2^62)then
       ((fns m).skip T K a d A ()).bind fun y27 a27 d27 A27=>mw (fns m) T K N a27 d27 A27 (ae x) (nAt x) (nTo x) (aw x) (ax x) (aA x) (ak x) (List.drop (Int.toNat 0) (List.take (Int.toNat (ak x)) (ah x))++[63]) (nN x) (nW1 x) y27.1 (aF x)
      else .bad else .bad else .bad)
     ((bif fG x (ak x) !=32 then .flt 81 (ag (af K a))else(bM K).bind fun e=>gL T K N (fw x 63 (nW1 x) e)) a d A):=by
    rw[i1,i2,e62]
    cases hmk:fG x (ak x) !=32 with
    |true=>exact EqH.flt
    |false=>
     refine EqH.bind (cF wf (by omega) h0 h1 hk0) ?_
     rintro _ _ _ _ ⟨rfl,rfl,rfl,rfl⟩
     exact EqH.mono ih fun y a' d' A' h=>⟨h.1,⟨by have:=h.2.1.1;omega,h.2.1.2⟩,h.2.2⟩
   show EqH iN _ (bif ax x !=5 then bif ak x==0 then _ else _ else _) ((bif (ax x !=5&&ak x==0)||fG x (ak x) !=32 then .flt 81 (ag (af K a))else(bM K).bind fun e=>gL T K N (fw x 63 (nW1 x) e)) a d A)
   cases h5:ax x !=5 with
   |true=>
    cases hz:ak x==0 with
    |true=>exact EqH.flt
    |false=>exact go
   |false=>exact go
  |false=>
   show EqH iN _ (PR.bind ((fns m).next T K a d A ()) _) _
   rw[Jg wf (by omega) h0 h1]
   show EqH iN _ (PR.bind ((fns m).ahead T K a d A (1,())) _) _
   refine EqH.bind (nA wf (n:=m) (j:=1) (by omega) h0 h1 (by decide) (by decide)) ?_
   rintro z _ _ _ ⟨⟨_,hz⟩,rfl,rfl,rfl⟩
   refine EqH.bind (pE wf (by omega) h0 h1) ?_
   rintro _ _ _ _ ⟨rfl,rfl,rfl,rfl⟩
   have done:EqH iN (fun y a' d' A'=>TyN y∧(a≤a'∧a'<K.length)∧d=d'∧A=A') (.ok (mkN (ae x) (nAt x) (nTo x) [] (aw x) (ax x) (aA x) (ak x) (ah x) (nN x) (nW1 x) (nW2 x) (aF x),()) a d A) ((Pm.ret x:Pm Nd) a d A):=by
    rw[←hxe]
    exact⟨rfl,hx,⟨Int.le_refl _,h1⟩,rfl,rfl⟩
   cases hb2:((az (af K a)==1||az (af K a)==5)&&say T (af K a)==[91])with
   |false=>exact done
   |true=>
    have hk0:=jf hb2
    have hlt:=cD wf h0 h1 hk0
    show EqH iN _ (bif !z.2==[93]then _ else _) ((bif z.2==[93]then _ else _:Pm Nd) a d A)
    cases hz2:z.2==[93]with
    |false=>exact done
    |true=>
     show EqH iN _ (bif ak x==4 then _ else _) ((bif ak x==4 then _ else _:Pm Nd) a d A)
     cases h4:ak x==4 with
     |true=>exact EqH.flt
     |false=>
      have h4:ak x≠4:=fun e=>by rw[e]at h4;exact absurd h4 (by decide)
      refine EqH.bind (cF wf (n:=m) (by omega) h0 h1 hk0) ?_
      rintro _ _ _ _ ⟨rfl,rfl,rfl,rfl⟩
      have hz2:z.2=[93]:=by simpa using hz2
      obtain⟨z1,z2⟩:=hz (by rw[hz2];simp)
      have hk1:az (af K (a+1))≠0:=fun e=>by
       have:=wf.fin (a+1) (by omega) hlt e
       rw[←z2,hz2]at this
       cases this
      refine EqH.bind (cF wf (n:=m) (by omega) (by omega) hlt hk1) ?_
      rintro _ _ _ _ ⟨rfl,rfl,rfl,rfl⟩
      have hlt2:=cD wf (by omega) hlt hk1
      have ih:=ou wf hm N (a+1+1) d A (wC x (tTo (af K (a+1)))) (by omega) hlt2 (by omega) (AR hx h4 _)
      have e62:decide ((ah x).length+[(32:UInt8)].length<2^62)=true:=decide_eq_true (by
       show(ah x).length+1<2^62
       omega)
      have emr:decide ((aF x).length+[tTo (af K (a+1))].length<ar)=true:=decide_eq_true (by
       show(aF x).length+1<ar
       unfold ar
       omega)
      have ew:IntKind.wrap .i64 (ak x+1)=ak x+1:=wf_wrap wf (by have:=hx.d0;omega) (by omega)
      show EqH iN _ (bif decide ((ah x).length+[(32:UInt8)].length<2^62)then bif decide ((aF x).length+[tTo (af K (a+1))].length<ar)then mw (fns m) T K N (a+1+1) d A (ae x) (nAt x) (nTo x) (aw x) (ax x) (aA x) (IntKind.wrap .i64 (ak x+1)) (ah x++[32]) (nN x) (nW1 x) (tTo (af K (a+1))) (aF x++[tTo (af K (a+1))])else .bad else .bad) _
      rw[e62,emr,ew]
      exact EqH.mono ih fun y a' d' A' h=>⟨h.1,⟨by have:=h.2.1.1;omega,h.2.1.2⟩,h.2.2⟩
theorem rL(wf:WF T K)(hn:4≤n)(h0:0≤a)(h1:a<K.length):EqH iN (fun y a' d' A'=>TyN y∧(a+1≤a'∧a'<K.length)∧d=d'∧A=A') ((fns n).inner T K a d A ()) (jU T K a d A):=by
 obtain⟨m,rfl,hm⟩:=aZ (k:=3) hn
 show EqH iN _ (ue (fns m) T K (mw (fns m) T K (K.length+2)) a d A) _
 unfold ue rW jU Pm.bind
 refine EqH.bind (KE wf (by omega) h0 h1) ?_
 rintro x _ _ _ ⟨⟨hx,_⟩,rfl,hlt,rfl,rfl⟩
 exact EqH.mono (ou wf hm (K.length+2) (a+1) d A x (by omega) hlt (by omega) hx) fun y a' d' A' h=>⟨h.1,h.2.1,h.2.2⟩
end
end Go.Sx.Tryz
namespace Go.Sx.Tryz
open Go Go.Sx
set_option maxRecDepth 100000
section
variable{T:List UInt8}{K:List Tok}{n:Nat}{a d:Int}{A:List Nd}
def QT(K:List Tok)(a d:Int)(A:List Nd)(y:Nd)(a' d':Int)(A':List Nd):Prop:=TyN y∧(a+1≤a'∧a'<K.length)∧d=d'∧A=A'
theorem nn(wf:WF T K)(hn:5≤n)(h0:0≤a)(h1:a<K.length)(v:Bool):EqH iN (QT K a d A) ((fns n).typed T K a d A (v,())) (ef T K v a d A):=by
 obtain⟨m,rfl,hm⟩:=aZ (k:=4) hn
 have hmost:=wf.most
 show EqH iN _ (Ah (fns m) T K a d A v) _
 unfold Ah yO ef Pm.bind
 refine EqH.bind (b7 wf (by omega) h0 h1) ?_
 rintro _ _ _ _ ⟨rfl,rfl,rfl,rfl⟩
 have hI:EqH iN (QT K a d A) (((fns m).inner T K a d A ()).bind fun y a d A=>.ok (mkN (ae y.1) (nAt y.1) (nTo y.1) (aa y.1) (aw y.1) (ax y.1) (aA y.1) (ak y.1) (ah y.1) (nN y.1) (nW1 y.1) (nW2 y.1) (aF y.1),()) a d A) (jU T K a d A):=
  EqH.tail (rL wf (by omega) h0 h1) fun y a' d' A' h=>⟨rfl,h⟩
 have hY:EqH iN (QT K a d A) (bif v then bif az (af K a)==1 then bif say T (af K a)==[118,111,105,100]then
    ((fns m).skip T K a d A ()).bind fun y11 a11 d11 A11=>.ok (pK 6 [] (ag (af K a)) (tTo (af K a)) y11.1,()) a11 d11 A11
   else((fns m).inner T K a d A ()).bind fun y a d A=>.ok (mkN (ae y.1) (nAt y.1) (nTo y.1) (aa y.1) (aw y.1) (ax y.1) (aA y.1) (ak y.1) (ah y.1) (nN y.1) (nW1 y.1) (nW2 y.1) (aF y.1),()) a d A
   else((fns m).inner T K a d A ()).bind fun y a d A=>.ok (mkN (ae y.1) (nAt y.1) (nTo y.1) (aa y.1) (aw y.1) (ax y.1) (aA y.1) (ak y.1) (ah y.1) (nN y.1) (nW1 y.1) (nW2 y.1) (aF y.1),()) a d A
   else((fns m).inner T K a d A ()).bind fun y a d A=>.ok (mkN (ae y.1) (nAt y.1) (nTo y.1) (aa y.1) (aw y.1) (ax y.1) (aA y.1) (ak y.1) (ah y.1) (nN y.1) (nW1 y.1) (nW2 y.1) (aF y.1),()) a d A)
   ((bif v&&(az (af K a)==1&&say T (af K a)==[118,111,105,100])then(bM K).bind fun e=>.ret (pK 6 [] (ag (af K a)) (tTo (af K a)) e)else jU T K) a d A):=by
  cases v with
  |false=>exact hI
  |true=>
   cases hk:az (af K a)==1 with
   |false=>exact hI
   |true=>
    cases say T (af K a)==[118,111,105,100]with
    |false=>exact hI
    |true=>
     have hk0:az (af K a)≠0:=fun e=>by rw[e]at hk;exact absurd hk (by decide)
     refine EqH.bind (cF wf (n:=m) (by omega) h0 h1 hk0) ?_
     rintro _ _ _ _ ⟨rfl,rfl,rfl,rfl⟩
     exact⟨rfl,⟨Int.le_refl 0,show(0:Int)≤4 by decide,rfl,rfl,rfl⟩,⟨Int.le_refl _,cD wf h0 h1 hk0⟩,rfl,rfl⟩
 show EqH iN _ (bif say T (af K a)==[79,112,116,105,111,110]then bif az (af K a)==1 then _ else _ else _) ((bif say T (af K a)==[79,112,116,105,111,110]&&az (af K a)==1 then _ else _:Pm Nd) a d A)
 cases say T (af K a)==[79,112,116,105,111,110]with
 |false=>exact hY
 |true=>
  cases hk:az (af K a)==1 with
  |false=>
   rw[hk]at hY
   exact hY
  |true=>
   have hk0:az (af K a)≠0:=fun e=>by rw[e]at hk;exact absurd hk (by decide)
   have hlt:=cD wf h0 h1 hk0
   refine EqH.bind (cF wf (n:=m) (by omega) h0 h1 hk0) ?_
   rintro _ _ _ _ ⟨rfl,rfl,rfl,rfl⟩
   refine EqH.bind (bE wf (n:=m) (by omega) (by omega) hlt) ?_
   rintro _ _ _ _ ⟨rfl,rfl,hlt2,rfl,rfl⟩
   refine EqH.bind (rL wf (n:=m) (by omega) (by omega) hlt2) ?_
   rintro x a3 _ _ ⟨hx,⟨g1,g2⟩,rfl,rfl⟩
   refine EqH.bind (bE wf (n:=m) (by omega) (by omega) g2) ?_
   rintro _ _ _ _ ⟨rfl,rfl,hlt3,rfl,rfl⟩
   obtain⟨i1,i2⟩:=yn hx
   have hmk:=hx.mks
   have hd1:=hx.d1
   have e62:decide ((List.drop (Int.toNat 0) (List.take (Int.toNat (ak x)) (ah x))).length+[(111:UInt8)].length<2^62)=true:=decide_eq_true (by
    show((List.take (Int.toNat (ak x)) (ah x))).length+1<2^62
    rw[List.length_take]
    omega)
   have ew:IntKind.wrap .i64 (a3+1-1)=a3:=by rw[wf_wrap wf (by omega) (by omega)];omega
   have go:EqH iN (QT K a d A)
     (bif inI (ak x) (ah x).length then bif fG x (ak x) !=32 then PR.fault 5 (ag (af K a))else bif inB 0 (ak x) (ah x).length then
      bif decide ((List.drop (Int.toNat 0) (List.take (Int.toNat (ak x)) (ah x))).length+[(111:UInt8)].length<2^62)then
       bif inI (IntKind.wrap .i64 (a3+1-1)) K.length then .ok (mkN (ae x) (nAt x) (nTo x) (aa x) (aw x) (ax x) (aA x) (ak x) (List.drop (Int.toNat 0) (List.take (Int.toNat (ak x)) (ah x))++[111]) (nN x) (ag (af K a)) (tTo (af K (IntKind.wrap .i64 (a3+1-1)))) (aF x),()) (a3+1) d A
       else .bad
      else .bad else .bad else .bad)
     ((bif fG x (ak x) !=32 then .flt 5 (ag (af K a))else .ret (fw x 111 (ag (af K a)) (tTo (af K a3))):Pm Nd) (a3+1) d A):=by
    rw[i1,i2,e62,ew,kU (by omega) g2]
    cases hmk:fG x (ak x) !=32 with
    |true=>exact EqH.flt
    |false=>exact⟨rfl,pf hx _ _ _,⟨by omega,hlt3⟩,rfl,rfl⟩
   show EqH iN _ (bif ax x !=5 then bif ak x==0 then _ else _ else _) ((bif (ax x !=5&&ak x==0)||fG x (ak x) !=32 then .flt 5 (ag (af K a))else .ret (fw x 111 (ag (af K a)) (tTo (af K a3))):Pm Nd) (a3+1) d A)
   cases h5:ax x !=5 with
   |true=>
    cases hz:ak x==0 with
    |true=>exact EqH.flt
    |false=>exact go
   |false=>exact go
theorem wQ(wf:WF T K)(hn:2≤n)(h0:0≤a)(h1:a<K.length):EqH iB (fun _ a' d' A'=>a=a'∧d=d'∧A=A') ((fns n).declares T K a d A ()) (fO T K a d A):=by
 obtain⟨m,rfl,hm⟩:=aZ (k:=1) hn
 have hT:=wf.len
 show EqH iB _ (qg (fns m) T K a d A) _
 unfold qg r5 fO Pm.bind
 refine EqH.bind (nA wf (n:=m) (j:=0) (by omega) h0 h1 (by decide) (by decide)) ?_
 rintro x _ _ _ ⟨⟨xl,_⟩,rfl,rfl,rfl⟩
 show EqH iB _ (bif x.1 !=1 then _ else bif cW (x.2,())then bif !bT x.2 then _ else _ else _) ((bif x.1 !=1 then _ else bif bT x.2 then _ else _:Pm Bool) a d A)
 rw[iV wf xl]
 cases x.1 !=1 with
 |true=>exact⟨rfl,rfl,rfl,rfl⟩
 |false=>
  cases bT x.2 with
  |false=>
   have e1:decide ([(32:UInt8)].length+x.2.length<2^62)=true:=decide_eq_true (by
    show 1+x.2.length<2^62
    omega)
   have e2:decide (([(32:UInt8)]++x.2).length+[(32:UInt8)].length<2^62)=true:=decide_eq_true (by
    rw[List.length_append]
    show 1+x.2.length+1<2^62
    omega)
   show EqH iB _ (bif decide ([(32:UInt8)].length+x.2.length<2^62)then bif decide (([(32:UInt8)]++x.2).length+[(32:UInt8)].length<2^62)then _ else _ else _) _
   rw[e1,e2]
   exact⟨rfl,rfl,rfl,rfl⟩
  |true=>
   refine EqH.bind (nA wf (n:=m) (j:=1) (by omega) h0 h1 (by decide) (by decide)) ?_
   rintro y _ _ _ ⟨⟨yl,_⟩,rfl,rfl,rfl⟩
   refine EqH.bind (nA wf (n:=m) (j:=2) (by omega) h0 h1 (by decide) (by decide)) ?_
   rintro z _ _ _ ⟨⟨zl,_⟩,rfl,rfl,rfl⟩
   show EqH iB _ (bif y.1==1 then bif cW (y.2,())then bif bT y.2 then .ok (true,()) a d A else bif y.1==5 then bif y.2==[63]then .ok (true,()) a d A else bif y.2==[91]then .ok (z.2==[93],()) a d A else .ok (false,()) a d A else .ok (false,()) a d A else .bad
    else bif y.1==5 then bif y.2==[63]then .ok (true,()) a d A else bif y.2==[91]then .ok (z.2==[93],()) a d A else .ok (false,()) a d A else .ok (false,()) a d A)
    (.ok ((y.1==1&&bT y.2)||(y.1==5&&(y.2==[63]||(y.2==[91]&&z.2==[93])))) a d A)
   rw[iV wf yl]
   cases y.1==1<;>cases bT y.2<;>cases y.1==5<;>cases y.2==[63]<;>cases y.2==[91]<;>cases z.2==[93]<;>exact⟨rfl,rfl,rfl,rfl⟩
end
end Go.Sx.Tryz
namespace Go.Sx.Tryz
open Go Go.Sx
set_option maxRecDepth 100000
theorem Inv.step{K:List Tok}{a d:Int}{A:List Nd}(h:Inv K a d A)(h1:a+1<K.length):Inv K (a+1) d A:=⟨by have:=h.a0;omega,h1,h.d0,h.d1,h.len,h.nd⟩
theorem Inv.at{K:List Tok}{a b d:Int}{A:List Nd}(h:Inv K a d A)(h0:0≤b)(h1:b<K.length):Inv K b d A:=⟨h0,h1,h.d0,h.d1,h.len,h.nd⟩
theorem Post.up{K:List Tok}{a a1 d a2 d2 c c1:Int}{A A2:List Nd}(h:Post K a1 d A c1 a2 d2 A2)(hle:a+c≤a1+c1):Post K a d A c a2 d2 A2:=⟨h.inv,by have:=h.le;omega,h.eq,h.pre⟩
theorem Post.step{K:List Tok}{a d a2 d2 c:Int}{A A2:List Nd}(h:Post K a d A c a2 d2 A2)(h1:a2+1<K.length):Post K a d A (c+1) (a2+1) d2 A2:=⟨h.inv.step h1,by have:=h.le;omega,h.eq,h.pre⟩
def QI(K:List Tok)(a d:Int)(A:List Nd)(c:Int)(y:Int)(a' d':Int)(A':List Nd):Prop:=(0≤y∧y<A'.length)∧Post K a d A c a' d' A'
def QL(K:List Tok)(a d:Int)(A:List Nd)(c:Int)(y:List Int)(a' d':Int)(A':List Nd):Prop:=y.length≤64∧Post K a d A c a' d' A'
def QN(K:List Tok)(a d:Int)(A:List Nd)(c:Int)(y:Nd)(a' d':Int)(A':List Nd):Prop:=Small y∧Post K a d A c a' d' A'
structure KEq(T:List UInt8)(K:List Tok)(m:Nat):Prop where
 val:∀(n:Nat) (a d:Int) (A:List Nd),40*m+4≤n→2*((K.length:Int)-a)+2≤m→Inv K a d A→EqH iI (QI K a d A 1) ((fns n).value T K a d A ()) ((kns T K m).val a d A)
 blk:∀(n:Nat) (a d:Int) (A:List Nd),40*m+4≤n→2*((K.length:Int)-a)+1≤m→Inv K a d A→EqH iI (QI K a d A 1) ((fns n).block T K a d A ()) ((kns T K m).blk a d A)
 un:∀(n:Nat) (a d:Int) (A:List Nd),40*m+4≤n→2*((K.length:Int)-a)+1≤m→Inv K a d A→EqH iI (QI K a d A 1) ((fns n).unary T K a d A ()) ((kns T K m).un a d A)
section
variable{T:List UInt8}{K:List Tok}{n m:Nat}{a d:Int}{A:List Nd}
theorem iq(wf:WF T K)(hn:1≤n){a0 d0 c:Int}{A0:List Nd}(hp:Post K a0 d0 A0 c a d A){x:Nd}(hx:Small x){f:Int}:EqH iI (QI K a0 d0 A0 c) ((fns n).add T K a d A (x,f,())) (bQ K x f a d A):=
 EqH.mono (Gy wf hn hp.inv hx) fun _ _ _ _ h=>⟨h.2.1,(hp.trans h.2.2.1 (by omega))⟩
theorem b8(wf:WF T K)(hn:1≤n){a0 d0 c:Int}{A0:List Nd}(hp:Post K a0 d0 A0 c a d A){x:Nd}(hx:Small x){f:Int}:EqH iI (QI K a0 d0 A0 c) (((fns n).add T K a d A (x,f,())).bind fun y a d A=>.ok (y.1,()) a d A) (bQ K x f a d A):=
 EqH.tail (iq wf hn hp hx) fun _ _ _ _ h=>⟨rfl,h⟩
theorem EqH.same{Q:Int→Int→Int→List Nd→Prop}{r:PR (ai [tI])}{r':PR Int}(h:EqH iI Q r r'):EqH iI Q (r.bind fun y a d A=>.ok (y.1,()) a d A) r':=EqH.tail h fun _ _ _ _ h=>⟨rfl,h⟩
theorem aL{k:Int}{l:List Int}{s:Str}(h:l.length≤20000):Small (nod k l s):=⟨h,Nat.zero_le _⟩
theorem fe{k v:Int}{s:Str}:Small (mY k v s):=⟨Nat.zero_le _,Nat.zero_le _⟩
theorem cN{x:Nd}(hx:Small x){k:Int}{l:List Int}{s:Str}(h:l.length≤20000):Small (cw x k l s):=⟨h,hx.2⟩
theorem eF(wf:WF T K)(hK:KEq T K m)(hn:40*m+5≤n)(hm:2*((K.length:Int)-a)≤m)(hi:Inv K a d A):EqH iI (QI K a d A 2) ((fns n).bracket T K a d A ()) (dH T K (kns T K m) a d A):=by
 obtain⟨n,rfl,hn'⟩:=aZ (k:=40*m+4) hn
 show EqH iI _ (qv (fns n) T K a d A) _
 unfold qv rV dH Pm.bind
 refine EqH.bind (bE wf (n:=n) (by omega) hi.a0 hi.a1) ?_
 rintro _ _ _ _ ⟨rfl,rfl,hlt,rfl,rfl⟩
 refine EqH.bind (hK.val n _ _ _ (by omega) (by omega) (hi.step hlt)) ?_
 rintro x a1 d1 A1 ⟨hx,hp⟩
 refine EqH.bind (bE wf (n:=n) (by omega) hp.inv.a0 hp.inv.a1) ?_
 rintro _ _ _ _ ⟨rfl,rfl,hlt2,rfl,rfl⟩
 exact⟨rfl,hx,(hp.up (a:=a) (c:=1) (by omega)).step hlt2⟩
theorem eN{l:List Int}(h:l.length≤20000)(x:Int):decide (l.length+[x].length<ar)=true:=decide_eq_true (by
 unfold ar
 show l.length+1<2^36
 omega)
theorem ym(wf:WF T K)(hK:KEq T K m)(hn:40*m+5≤n+1):∀(N:Nat) (a d:Int) (A:List Nd) (L:List Int),(K.length:Int)-a+1≤N→2*((K.length:Int)-a)+2≤m→Inv K a d A→L.length≤64→
  EqH iL (QL K a d A 1) (ow (fns n) T K N a d A L) (px T K (kns T K m) N L a d A)
 |0,a,d,A,L,hN,hm,hi,hL=>by have:=hi.a1;omega
 |N+1,a,d,A,L,hN,hm,hi,hL=>by
  show EqH iL _ (uy (fns n) T K (ow (fns n) T K N) a d A L) _
  unfold uy rU px Pm.bind
  refine EqH.bind (dK wf (n:=n) (by omega) hi.a0 hi.a1) ?_
  rintro b _ _ _ ⟨hb,rfl,rfl⟩
  rcases hb with⟨rfl,rfl,hlt⟩|⟨rfl,rfl⟩
  ·exact⟨rfl,hL,⟨hi.step hlt,by omega,rfl,[],by simp⟩⟩
  ·have hl1:IntKind.wrap .i64 ((L.length:Int)+1)=(L.length:Int)+1:=wf_wrap wf (by omega) (by omega)
   have go:∀(a1:Int),a≤a1→a1<K.length→EqH iL (QL K a d A 1) (((fns n).few T K a1 d A (IntKind.wrap .i64 ((L.length:Int)+1),())).bind fun _ a16 d16 A16=>((fns n).value T K a16 d16 A16 ()).bind fun y20 a20 d20 A20=>bif decide (L.length+[y20.1].length<ar)then ow (fns n) T K N a20 d20 A20 (L++([y20.1]:List Int))else .bad)
     ((uM K ((L.length:Int)+1)).bind (fun _=>(kns T K m).val.bind fun x=>px T K (kns T K m) N (L++[x])) a1 d A):=fun a1 g0 g1=>by
    have hi1:Inv K a1 d A:=hi.at (by have:=hi.a0;omega) g1
    rw[hl1]
    unfold Pm.bind
    refine EqH.bind (x4 wf (n:=n) (by omega) hi1.a0 hi1.a1) ?_
    rintro _ _ _ _ ⟨rfl,rfl,rfl,h64⟩
    refine EqH.bind (hK.val n _ _ _ (by omega) (by omega) hi1) ?_
    rintro x a2 d2 A2 ⟨hx,hp⟩
    have hle:=hp.le
    show EqH iL _ (bif decide (L.length+[x].length<ar)then _ else _) _
    rw[eN (by omega)]
    have ih:=ym wf hK hn N a2 d2 A2 (L++[x]) (by omega) (by omega) hp.inv (by rw[List.length_append,List.length_singleton];omega)
    exact EqH.mono ih fun y a' d' A' h=>⟨h.1,(hp.up (a:=a) (c:=0) (by omega)).trans h.2 (by omega)⟩
   show EqH iL _ (bif decide ((L.length:Int)>0)then _ else _) (PR.bind ((bif decide ((L.length:Int)>0)then(bd T K [44]).bind fun _=>.ret ()else .ret ():Pm Unit) a d A) _)
   cases decide ((L.length:Int)>0)with
   |false=>exact go a (Int.le_refl _) hi.a1
   |true=>
    show EqH iL _ (PR.bind ((fns n).want T K a d A ([44],())) _) (PR.bind (PR.bind (bd T K [44] a d A) _) _)
    have hw:=bE wf (n:=n) (a:=a) (d:=d) (A:=A) (s:=[44]) (by omega) hi.a0 hi.a1
    cases e:bd T K [44] a d A with
    |bad=>rw[e]at hw;exact hw.elim
    |fault c p=>
     rw[e]at hw
     have hw:(fns n).want T K a d A ([44],())= .fault c p:=hw
     rw[hw]
     exact EqH.flt
    |ok y a1 d1 A1=>
     rw[e]at hw
     obtain⟨e1,rfl,rfl,hlt,rfl,rfl⟩:=hw
     rw[e1]
     exact go (a+1) (by omega) hlt
theorem vX(wf:WF T K)(hK:KEq T K m)(hn:40*m+6≤n)(hm:2*((K.length:Int)-a)≤m)(hi:Inv K a d A):EqH iL (QL K a d A 2) ((fns n).args T K a d A ()) (uW T K (kns T K m) a d A):=by
 obtain⟨n,rfl,hn'⟩:=aZ (k:=40*m+5) hn
 show EqH iL _ (um (fns n) T K (ow (fns n) T K (K.length+2)) a d A) _
 unfold um rR uW Pm.bind
 refine EqH.bind (bE wf (n:=n) (by omega) hi.a0 hi.a1) ?_
 rintro _ _ _ _ ⟨rfl,rfl,hlt,rfl,rfl⟩
 have:=hi.a0
 exact EqH.mono (ym wf hK (by omega) (K.length+2) (a+1) d A [] (by omega) (by omega) (hi.step hlt) (by simp)) fun y a' d' A' h=>⟨h.1,h.2.up (by omega)⟩
theorem vL(wf:WF T K)(hn:2≤n)(hi:Inv K a d A)(hk:az (af K a)≠0){x:Nd}(hx:Small x){e:Int}:EqH iI (QI K a d A 1) ((fns n).literal T K a d A (x,e,())) (mP T K x e a d A):=by
 obtain⟨n,rfl,hn'⟩:=aZ (k:=1) hn
 show EqH iI _ (qS (fns n) T K a d A x e) _
 unfold qS su mP Pm.bind
 refine EqH.bind (b7 wf (n:=n) (by omega) hi.a0 hi.a1) ?_
 rintro _ _ _ _ ⟨rfl,rfl,rfl,rfl⟩
 show EqH iI _ (bif e !=0 then _ else _) ((bif e !=0 then _ else _:Pm Int) a d A)
 cases e !=0 with
 |true=>exact EqH.flt
 |false=>
  refine EqH.bind (cF wf (n:=n) (by omega) hi.a0 hi.a1 hk) ?_
  rintro _ _ _ _ ⟨rfl,rfl,rfl,rfl⟩
  exact b8 wf hn' ((Post.refl hi).step (cD wf hi.a0 hi.a1 hk)) hx
end
end Go.Sx.Tryz
namespace Go.Sx.Tryz
open Go Go.Sx
set_option maxRecDepth 100000
section
variable{T:List UInt8}{K:List Tok}{n m:Nat}{a d:Int}{A:List Nd}
theorem Im(wf:WF T K)(hK:KEq T K m)(hn:40*m+7≤n)(hm:2*((K.length:Int)-a)≤m)(hi:Inv K a d A):EqH iN (QN K a d A 1) ((fns n).made T K a d A ()) (Cn T K (kns T K m) a d A):=by
 obtain⟨n,rfl,hn'⟩:=aZ (k:=40*m+6) hn
 show EqH iN _ (rh (fns n) T K a d A) _
 unfold rh sw Cn Pm.bind
 refine EqH.bind (rL wf (n:=n) (by omega) hi.a0 hi.a1) ?_
 rintro x a1 _ _ ⟨hx,⟨g1,g2⟩,rfl,rfl⟩
 have hi1:Inv K a1 d A:=hi.at (by have:=hi.a0;omega) g2
 have hp1:Post K a d A 1 a1 d A:=⟨hi1,g1,rfl,[],by simp⟩
 refine EqH.bind (pE wf (n:=n) (by omega) hi1.a0 hi1.a1) ?_
 rintro b _ _ _ ⟨_,rfl,rfl,rfl⟩
 show EqH iN _ (bif b then _ else _) ((bif b then _ else _:Pm Nd) a1 d A)
 cases b with
 |true=>
  have hmk:=hx.mks
  have hd1:=hx.d1
  have e1:(decide (UInt8.toNat 32<128)&&Nat.ble (List.length (ah x)) 9223372036854775807)=true:=by
   rw[show decide (UInt8.toNat 32<128)=true from rfl,Bool.true_and]
   exact Nat.ble_eq_true_of_le (by omega)
  show EqH iN _ (bif ax x !=5 then _ else bif decide (ak x>0)then _ else bif (decide (UInt8.toNat 32<128)&&Nat.ble (List.length (ah x)) 9223372036854775807)then bif !Lib.trimB (ah x) 32==[]then _ else _ else _)
   ((bif ax x !=5||(decide (ak x>0)|| !Lib.trimB (ah x) 32==[])then _ else _:Pm Nd) a1 d A)
  rw[e1]
  cases ax x !=5 with
  |true=>exact EqH.flt
  |false=>
   cases decide (ak x>0)with
   |true=>exact EqH.flt
   |false=>
    cases !Lib.trimB (ah x) 32==[]with
    |true=>exact EqH.flt
    |false=>
     refine EqH.bind (vX wf hK (n:=n) (by omega) (by omega) hi1) ?_
     rintro l a2 d2 A2 ⟨hl,hp⟩
     exact⟨rfl,cN hx.small (by omega),hp1.trans hp (by omega)⟩
 |false=>
  refine EqH.bind (bE wf (n:=n) (by omega) hi1.a0 hi1.a1) ?_
  rintro _ _ _ _ ⟨rfl,rfl,hlt,rfl,rfl⟩
  refine EqH.bind (hK.val n _ _ _ (by omega) (by omega) (hi1.step hlt)) ?_
  rintro y a2 d2 A2 ⟨hy,hp⟩
  refine EqH.bind (bE wf (n:=n) (by omega) hp.inv.a0 hp.inv.a1) ?_
  rintro _ _ _ _ ⟨rfl,rfl,hlt2,rfl,rfl⟩
  exact⟨rfl,cN hx.small (by simp),((hp1.step hlt).trans (hp.step hlt2) (by omega))⟩
theorem H9(wf:WF T K)(hK:KEq T K m)(hn:40*m+8≤n)(hm:2*((K.length:Int)-a)≤m)(hi:Inv K a d A)(hk:az (af K a)≠0)(t:Tok)(s:Str):EqH iI (QI K a d A 1) ((fns n).kept T K a d A (t,s,())) (Di T K (kns T K m) t s a d A):=by
 obtain⟨n,rfl,hn'⟩:=aZ (k:=40*m+7) hn
 have hlt:=cD wf hi.a0 hi.a1 hk
 have hi1:=hi.step hlt
 have hp1:Post K a d A 1 (a+1) d A:=(Post.refl hi).step hlt
 have hlit:∀(k v:Int),EqH iI (QI K a d A 1) (((fns n).literal T K a d A (mY k v [],0,())).bind fun y a d A=>.ok (y.1,()) a d A) (mP T K (mY k v []) 0 a d A):=fun k v=>(vL wf (n:=n) (by omega) hi hk fe).same
 have hW:∀b1 b2 b3:Bool,EqH iI (QI K a d A 1) (((fns n).skip T K a d A ()).bind fun _ a8 d8 A8=>((fns n).bracket T K a8 d8 A8 ()).bind fun y12 a12 d12 A12=>
   bif b1 then((fns n).add T K a12 d12 A12 (nod 39 [y12.1] [],ag t,())).bind fun y a d A=>.ok (y.1,()) a d A
   else bif b2 then((fns n).add T K a12 d12 A12 (nod 36 [y12.1] [],ag t,())).bind fun y a d A=>.ok (y.1,()) a d A
   else bif b3 then((fns n).add T K a12 d12 A12 (nod 37 [y12.1] [],ag t,())).bind fun y a d A=>.ok (y.1,()) a d A
   else((fns n).add T K a12 d12 A12 (nod 41 [y12.1] [],ag t,())).bind fun y a d A=>.ok (y.1,()) a d A)
   ((bM K).bind (fun _=>(dH T K (kns T K m)).bind fun x=>bQ K (nod (bif b1 then 39 else bif b2 then 36 else bif b3 then 37 else 41) [x] []) (ag t)) a d A):=fun b1 b2 b3=>by
  unfold Pm.bind
  refine EqH.bind (cF wf (n:=n) (by omega) hi.a0 hi.a1 hk) ?_
  rintro _ _ _ _ ⟨rfl,rfl,rfl,rfl⟩
  refine EqH.bind (eF wf hK (n:=n) (by omega) (by omega) hi1) ?_
  rintro x a2 d2 A2 ⟨hx,hp⟩
  have hp2:=hp1.trans (c:=1) hp (by omega)
  cases b1 with
  |true=>exact b8 wf (by omega) hp2 (aL (by simp))
  |false=>
   cases b2 with
   |true=>exact b8 wf (by omega) hp2 (aL (by simp))
   |false=>
    cases b3 with
    |true=>exact b8 wf (by omega) hp2 (aL (by simp))
    |false=>exact b8 wf (by omega) hp2 (aL (by simp))
 show EqH iI _ (rm (fns n) T K a d A t s) _
 unfold rm tG Di
 cases s==[116,114,117,101]with
 |true=>exact hlit 21 1
 |false=>
 cases s==[102,97,108,115,101]with
 |true=>exact hlit 21 0
 |false=>
 cases s==[110,117,108,108]with
 |true=>exact hlit 23 0
 |false=>
 cases s==[110,111,110,101]with
 |true=>exact hlit 42 0
 |false=>
 cases s==[116,104,105,115]with
 |true=>exact hlit 24 0
 |false=>
 cases s==[105,110,112,117,116]with
 |true=>
  show EqH iI _ _ (Pm.bind (bM K) _ a d A)
  unfold Pm.bind
  refine EqH.bind (cF wf (n:=n) (by omega) hi.a0 hi.a1 hk) ?_
  rintro _ _ _ _ ⟨rfl,rfl,rfl,rfl⟩
  refine EqH.bind (bE wf (n:=n) (by omega) hi1.a0 hi1.a1) ?_
  rintro _ _ _ _ ⟨rfl,rfl,hlt2,rfl,rfl⟩
  refine EqH.bind (bE wf (n:=n) (by omega) (by have:=hi1.a0;omega) hlt2) ?_
  rintro _ _ _ _ ⟨rfl,rfl,hlt3,rfl,rfl⟩
  exact b8 wf (by omega) (((hp1.step hlt2).step hlt3).up (by omega)) (aL (by simp))
 |false=>
 unfold isWrap GU
 cases s==[115,111,109,101]with
 |true=>exact hW _ _ _
 |false=>
 cases s==[97,115,107]with
 |true=>exact hW true _ _
 |false=>
 cases s==[116,111,105,110,116]with
 |true=>exact hW false true _
 |false=>
 cases s==[116,111,100,111,117,98,108,101]with
 |true=>exact hW false false true
 |false=>
 cases s==[99,97,115,116]with
 |true=>
  show EqH iI _ _ (Pm.bind (bM K) _ a d A)
  unfold Pm.bind
  refine EqH.bind (cF wf (n:=n) (by omega) hi.a0 hi.a1 hk) ?_
  rintro _ _ _ _ ⟨rfl,rfl,rfl,rfl⟩
  refine EqH.bind (bE wf (n:=n) (by omega) hi1.a0 hi1.a1) ?_
  rintro _ _ _ _ ⟨rfl,rfl,hlt2,rfl,rfl⟩
  refine EqH.bind (nn wf (n:=n) (by omega) (by have:=hi1.a0;omega) hlt2 false) ?_
  rintro x a3 _ _ ⟨hx,⟨g1,g2⟩,rfl,rfl⟩
  have h0:=hi.a0
  refine EqH.bind (bE wf (n:=n) (by omega) (by omega) g2) ?_
  rintro _ _ _ _ ⟨rfl,rfl,hlt4,rfl,rfl⟩
  refine EqH.bind (eF wf hK (n:=n) (by omega) (by omega) (hi.at (by omega) hlt4)) ?_
  rintro y a5 d5 A5 ⟨hy,hp⟩
  exact b8 wf (by omega) (hp.up (by omega)) (cN hx.small (by simp))
 |false=>
 cases s==[110,101,119]with
 |true=>
  show EqH iI _ _ (Pm.bind (bM K) _ a d A)
  unfold Pm.bind
  refine EqH.bind (cF wf (n:=n) (by omega) hi.a0 hi.a1 hk) ?_
  rintro _ _ _ _ ⟨rfl,rfl,rfl,rfl⟩
  refine EqH.bind (Im wf hK (n:=n) (by omega) (by omega) hi1) ?_
  rintro x a3 d3 A3 ⟨hx,hp⟩
  exact b8 wf (by omega) (hp.up (by omega)) hx
 |false=>exact EqH.flt
theorem AF(wf:WF T K)(hK:KEq T K m)(hn:40*m+9≤n)(hm:2*((K.length:Int)-a)≤m)(hi:Inv K a d A):EqH iI (QI K a d A 1) ((fns n).primary T K a d A ()) (pA T K (kns T K m) a d A):=by
 obtain⟨n,rfl,hn'⟩:=aZ (k:=40*m+8) hn
 show EqH iI _ (qZ (fns n) T K a d A) _
 unfold qZ sT pA Pm.bind
 refine EqH.bind (b7 wf (n:=n) (by omega) hi.a0 hi.a1) ?_
 rintro _ _ _ _ ⟨rfl,rfl,rfl,rfl⟩
 have kne:∀k:Int,k≠0→(az (af K a)==k)=true→az (af K a)≠0:=fun k h e e2=>by
  rw[e2]at e
  have e3:(0:Int)=k:=by simpa using e
  exact h e3.symm
 show EqH iI _ (bif az (af K a)==2 then bif gD (say T (af K a),())then _ else _ else bif az (af K a)==3 then bif gD (say T (af K a),())then _ else _ else bif az (af K a)==4 then bif gD (say T (af K a),())then _ else _ else
  bif az (af K a)==5 then bif say T (af K a)==[40]then _ else _ else bif az (af K a)==1 then bif cW (say T (af K a),())then bif bT (say T (af K a))then _ else _ else _ else _)
  ((bif az (af K a)==2 then _ else bif az (af K a)==3 then _ else bif az (af K a)==4 then _ else bif az (af K a)==5 then(bif say T (af K a)==[40]then _ else _)else bif az (af K a)==1 then(bif bT (say T (af K a))then _ else _)else _:Pm Int) a d A)
 rw[iV wf ju,Dn wf ju]
 cases h2:az (af K a)==2 with
 |true=>exact(vL wf (n:=n) (by omega) hi (kne 2 (by decide) h2) fe).same
 |false=>
 cases h3:az (af K a)==3 with
 |true=>exact(vL wf (n:=n) (by omega) hi (kne 3 (by decide) h3) fe).same
 |false=>
 cases h4:az (af K a)==4 with
 |true=>exact(vL wf (n:=n) (by omega) hi (kne 4 (by decide) h4) fe).same
 |false=>
 cases h5:az (af K a)==5 with
 |true=>
  cases say T (af K a)==[40]with
  |true=>exact(EqH.mono (eF wf hK (n:=n) (by omega) hm hi) fun _ _ _ _ h=>⟨h.1,h.2.up (by omega)⟩).same
  |false=>exact EqH.flt
 |false=>
 cases h1:az (af K a)==1 with
 |true=>
  have hk:=kne 1 (by decide) h1
  cases bT (say T (af K a))with
  |true=>exact(vL wf (n:=n) (by omega) hi hk fe).same
  |false=>exact(H9 wf hK (n:=n) (by omega) hm hi hk _ _).same
 |false=>exact EqH.flt
end
end Go.Sx.Tryz
