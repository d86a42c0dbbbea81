/- A part of the proof: see the row's text. -/
import Derived.Test.YtehaoepopklboaaGreatDoorZh14
import Derived.Test.YtehaoepopklboaaGreatDoorZh12
import Derived.Test.YtehaoepopklboaaGreatDoorZh11
import Derived.Defers
import Derived.Recover
set_option linter.unusedVariables false
set_option linter.unusedSimpArgs false
noncomputable section
namespace Go.Sx.Tryz
open Go Go.Sx Go.Proofs
set_option maxRecDepth 100000
variable{G:Nat→Obj→Prop}{p:Fns}
theorem CY:aK Tryz.prog G 97 vM:=fun R args bs k r hr=>by
 unfold vM at hr
 split at hr
 ·rename_i c q
  have h1:body (R:=R0) E (an []) Ii [.int .i64 c,.int .i64 q] [] .ok= .ok (.panic (.iface 35 (.agg [.int .i64 c,.int .i64 q])),[]):=by kernel_rfl
  exact⟨_,hr,bb (aS []) (aE .nil) Nf h1⟩
 ·cases hr
theorem FA(s:List UInt8):body (R:=R0) E (an []) xS [.str s] [] .ok=bif s==[124,124]then Rs.ok (Out.ret (AV.int IntKind.i64 0),[])else bif s==[38,38]then Rs.ok (Out.ret (AV.int IntKind.i64 ((1:Int))),[])else bif s==[61,61]then bif s==[61,61]then Rs.ok (Out.ret (AV.int IntKind.i64 ((2:Int))),[])else bif s==[60]then bif s==[60]then Rs.ok (Out.ret (AV.int IntKind.i64 ((3:Int))),[])else bif s==[43]then bif s==[43]then Rs.ok (Out.ret (AV.int IntKind.i64 ((4:Int))),[])else bif s==[42]then bif s==[42]then Rs.ok (Out.ret (AV.int IntKind.i64 ((5:Int))),[])else Rs.ok (Out.ret (AV.int IntKind.i64 ((-1:Int))),[])else bif s==[47]then bif s==[47]then Rs.ok (Out.ret (AV.int IntKind.i64 ((5:Int))),[])else Rs.ok (Out.ret (AV.int IntKind.i64 ((-1:Int))),[])else bif s==[37]then Rs.ok (Out.ret (AV.int IntKind.i64 ((5:Int))),[])else Rs.ok (Out.ret (AV.int IntKind.i64 ((-1:Int))),[])else bif s==[45]then Rs.ok (Out.ret (AV.int IntKind.i64 ((4:Int))),[])else bif s==[42]then bif s==[42]then Rs.ok (Out.ret (AV.int IntKind.i64 ((5:Int))),[])else Rs.ok (Out.ret (AV.int IntKind.i64 ((-1:Int))),[])else bif s==[47]then bif s==[47]then Rs.ok (Out.ret (AV.int IntKind.i64 ((5:Int))),[])else Rs.ok (Out.ret (AV.int IntKind.i64 ((-1:Int))),[])else bif s==[37]then Rs.ok (Out.ret (AV.int IntKind.i64 ((5:Int))),[])else Rs.ok (Out.ret (AV.int IntKind.i64 ((-1:Int))),[])else bif s==[60,61]then bif s==[60,61]then Rs.ok (Out.ret (AV.int IntKind.i64 ((3:Int))),[])else bif s==[43]then bif s==[43]then Rs.ok (Out.ret (AV.int IntKind.i64 ((4:Int))),[])else bif s==[42]then bif s==[42]then Rs.ok (Out.ret (AV.int IntKind.i64 ((5:Int))),[])else Rs.ok (Out.ret (AV.int IntKind.i64 ((-1:Int))),[])else bif s==[47]then bif s==[47]then Rs.ok (Out.ret (AV.int IntKind.i64 ((5:Int))),[])else Rs.ok (Out.ret (AV.int IntKind.i64 ((-1:Int))),[])else bif s==[37]then Rs.ok (Out.ret (AV.int IntKind.i64 ((5:Int))),[])else Rs.ok (Out.ret (AV.int IntKind.i64 ((-1:Int))),[])else bif s==[45]then Rs.ok (Out.ret (AV.int IntKind.i64 ((4:Int))),[])else bif s==[42]then bif s==[42]then Rs.ok (Out.ret (AV.int IntKind.i64 ((5:Int))),[])else Rs.ok (Out.ret (AV.int IntKind.i64 ((-1:Int))),[])else bif s==[47]then bif s==[47]then Rs.ok (Out.ret (AV.int IntKind.i64 ((5:Int))),[])else Rs.ok (Out.ret (AV.int IntKind.i64 ((-1:Int))),[])else bif s==[37]then Rs.ok (Out.ret (AV.int IntKind.i64 ((5:Int))),[])else Rs.ok (Out.ret (AV.int IntKind.i64 ((-1:Int))),[])else bif s==[62]then bif s==[62]then Rs.ok (Out.ret (AV.int IntKind.i64 ((3:Int))),[])else bif s==[43]then bif s==[43]then Rs.ok (Out.ret (AV.int IntKind.i64 ((4:Int))),[])else bif s==[42]then bif s==[42]then Rs.ok (Out.ret (AV.int IntKind.i64 ((5:Int))),[])else Rs.ok (Out.ret (AV.int IntKind.i64 ((-1:Int))),[])else bif s==[47]then bif s==[47]then Rs.ok (Out.ret (AV.int IntKind.i64 ((5:Int))),[])else Rs.ok (Out.ret (AV.int IntKind.i64 ((-1:Int))),[])else bif s==[37]then Rs.ok (Out.ret (AV.int IntKind.i64 ((5:Int))),[])else Rs.ok (Out.ret (AV.int IntKind.i64 ((-1:Int))),[])else bif s==[45]then Rs.ok (Out.ret (AV.int IntKind.i64 ((4:Int))),[])else bif s==[42]then bif s==[42]then Rs.ok (Out.ret (AV.int IntKind.i64 ((5:Int))),[])else Rs.ok (Out.ret (AV.int IntKind.i64 ((-1:Int))),[])else bif s==[47]then bif s==[47]then Rs.ok (Out.ret (AV.int IntKind.i64 ((5:Int))),[])else Rs.ok (Out.ret (AV.int IntKind.i64 ((-1:Int))),[])else bif s==[37]then Rs.ok (Out.ret (AV.int IntKind.i64 ((5:Int))),[])else Rs.ok (Out.ret (AV.int IntKind.i64 ((-1:Int))),[])else bif s==[62,61]then Rs.ok (Out.ret (AV.int IntKind.i64 ((3:Int))),[])else bif s==[43]then bif s==[43]then Rs.ok (Out.ret (AV.int IntKind.i64 ((4:Int))),[])else bif s==[42]then bif s==[42]then Rs.ok (Out.ret (AV.int IntKind.i64 ((5:Int))),[])else Rs.ok (Out.ret (AV.int IntKind.i64 ((-1:Int))),[])else bif s==[47]then bif s==[47]then Rs.ok (Out.ret (AV.int IntKind.i64 ((5:Int))),[])else Rs.ok (Out.ret (AV.int IntKind.i64 ((-1:Int))),[])else bif s==[37]then Rs.ok (Out.ret (AV.int IntKind.i64 ((5:Int))),[])else Rs.ok (Out.ret (AV.int IntKind.i64 ((-1:Int))),[])else bif s==[45]then Rs.ok (Out.ret (AV.int IntKind.i64 ((4:Int))),[])else bif s==[42]then bif s==[42]then Rs.ok (Out.ret (AV.int IntKind.i64 ((5:Int))),[])else Rs.ok (Out.ret (AV.int IntKind.i64 ((-1:Int))),[])else bif s==[47]then bif s==[47]then Rs.ok (Out.ret (AV.int IntKind.i64 ((5:Int))),[])else Rs.ok (Out.ret (AV.int IntKind.i64 ((-1:Int))),[])else bif s==[37]then Rs.ok (Out.ret (AV.int IntKind.i64 ((5:Int))),[])else Rs.ok (Out.ret (AV.int IntKind.i64 ((-1:Int))),[])else bif s==[33,61]then Rs.ok (Out.ret (AV.int IntKind.i64 ((2:Int))),[])else bif s==[60]then bif s==[60]then Rs.ok (Out.ret (AV.int IntKind.i64 ((3:Int))),[])else bif s==[43]then bif s==[43]then Rs.ok (Out.ret (AV.int IntKind.i64 ((4:Int))),[])else bif s==[42]then bif s==[42]then Rs.ok (Out.ret (AV.int IntKind.i64 ((5:Int))),[])else Rs.ok (Out.ret (AV.int IntKind.i64 ((-1:Int))),[])else bif s==[47]then bif s==[47]then Rs.ok (Out.ret (AV.int IntKind.i64 ((5:Int))),[])else Rs.ok (Out.ret (AV.int IntKind.i64 ((-1:Int))),[])else bif s==[37]then Rs.ok (Out.ret (AV.int IntKind.i64 ((5:Int))),[])else Rs.ok (Out.ret (AV.int IntKind.i64 ((-1:Int))),[])else bif s==[45]then Rs.ok (Out.ret (AV.int IntKind.i64 ((4:Int))),[])else bif s==[42]then bif s==[42]then Rs.ok (Out.ret (AV.int IntKind.i64 ((5:Int))),[])else Rs.ok (Out.ret (AV.int IntKind.i64 ((-1:Int))),[])else bif s==[47]then bif s==[47]then Rs.ok (Out.ret (AV.int IntKind.i64 ((5:Int))),[])else Rs.ok (Out.ret (AV.int IntKind.i64 ((-1:Int))),[])else bif s==[37]then Rs.ok (Out.ret (AV.int IntKind.i64 ((5:Int))),[])else Rs.ok (Out.ret (AV.int IntKind.i64 ((-1:Int))),[])else bif s==[60,61]then bif s==[60,61]then Rs.ok (Out.ret (AV.int IntKind.i64 ((3:Int))),[])else bif s==[43]then bif s==[43]then Rs.ok (Out.ret (AV.int IntKind.i64 ((4:Int))),[])else bif s==[42]then bif s==[42]then Rs.ok (Out.ret (AV.int IntKind.i64 ((5:Int))),[])else Rs.ok (Out.ret (AV.int IntKind.i64 ((-1:Int))),[])else bif s==[47]then bif s==[47]then Rs.ok (Out.ret (AV.int IntKind.i64 ((5:Int))),[])else Rs.ok (Out.ret (AV.int IntKind.i64 ((-1:Int))),[])else bif s==[37]then Rs.ok (Out.ret (AV.int IntKind.i64 ((5:Int))),[])else Rs.ok (Out.ret (AV.int IntKind.i64 ((-1:Int))),[])else bif s==[45]then Rs.ok (Out.ret (AV.int IntKind.i64 ((4:Int))),[])else bif s==[42]then bif s==[42]then Rs.ok (Out.ret (AV.int IntKind.i64 ((5:Int))),[])else Rs.ok (Out.ret (AV.int IntKind.i64 ((-1:Int))),[])else bif s==[47]then bif s==[47]then Rs.ok (Out.ret (AV.int IntKind.i64 ((5:Int))),[])else Rs.ok (Out.ret (AV.int IntKind.i64 ((-1:Int))),[])else bif s==[37]then Rs.ok (Out.ret (AV.int IntKind.i64 ((5:Int))),[])else Rs.ok (Out.ret (AV.int IntKind.i64 ((-1:Int))),[])else bif s==[62]then bif s==[62]then Rs.ok (Out.ret (AV.int IntKind.i64 ((3:Int))),[])else bif s==[43]then bif s==[43]then Rs.ok (Out.ret (AV.int IntKind.i64 ((4:Int))),[])else bif s==[42]then bif s==[42]then Rs.ok (Out.ret (AV.int IntKind.i64 ((5:Int))),[])else Rs.ok (Out.ret (AV.int IntKind.i64 ((-1:Int))),[])else bif s==[47]then bif s==[47]then Rs.ok (Out.ret (AV.int IntKind.i64 ((5:Int))),[])else Rs.ok (Out.ret (AV.int IntKind.i64 ((-1:Int))),[])else bif s==[37]then Rs.ok (Out.ret (AV.int IntKind.i64 ((5:Int))),[])else Rs.ok (Out.ret (AV.int IntKind.i64 ((-1:Int))),[])else bif s==[45]then Rs.ok (Out.ret (AV.int IntKind.i64 ((4:Int))),[])else bif s==[42]then bif s==[42]then Rs.ok (Out.ret (AV.int IntKind.i64 ((5:Int))),[])else Rs.ok (Out.ret (AV.int IntKind.i64 ((-1:Int))),[])else bif s==[47]then bif s==[47]then Rs.ok (Out.ret (AV.int IntKind.i64 ((5:Int))),[])else Rs.ok (Out.ret (AV.int IntKind.i64 ((-1:Int))),[])else bif s==[37]then Rs.ok (Out.ret (AV.int IntKind.i64 ((5:Int))),[])else Rs.ok (Out.ret (AV.int IntKind.i64 ((-1:Int))),[])else bif s==[62,61]then Rs.ok (Out.ret (AV.int IntKind.i64 ((3:Int))),[])else bif s==[43]then bif s==[43]then Rs.ok (Out.ret (AV.int IntKind.i64 ((4:Int))),[])else bif s==[42]then bif s==[42]then Rs.ok (Out.ret (AV.int IntKind.i64 ((5:Int))),[])else Rs.ok (Out.ret (AV.int IntKind.i64 ((-1:Int))),[])else bif s==[47]then bif s==[47]then Rs.ok (Out.ret (AV.int IntKind.i64 ((5:Int))),[])else Rs.ok (Out.ret (AV.int IntKind.i64 ((-1:Int))),[])else bif s==[37]then Rs.ok (Out.ret (AV.int IntKind.i64 ((5:Int))),[])else Rs.ok (Out.ret (AV.int IntKind.i64 ((-1:Int))),[])else bif s==[45]then Rs.ok (Out.ret (AV.int IntKind.i64 ((4:Int))),[])else bif s==[42]then bif s==[42]then Rs.ok (Out.ret (AV.int IntKind.i64 ((5:Int))),[])else Rs.ok (Out.ret (AV.int IntKind.i64 ((-1:Int))),[])else bif s==[47]then bif s==[47]then Rs.ok (Out.ret (AV.int IntKind.i64 ((5:Int))),[])else Rs.ok (Out.ret (AV.int IntKind.i64 ((-1:Int))),[])else bif s==[37]then Rs.ok (Out.ret (AV.int IntKind.i64 ((5:Int))),[])else Rs.ok (Out.ret (AV.int IntKind.i64 ((-1:Int))),[]):=by kernel_rfl
theorem C5(x:ai bB):SAD Tryz.prog G 189 bB bP x (Dk x):=by
 obtain⟨s,⟨⟩⟩:=x
 have key:∀s:List UInt8,body (R:=R0) E (an []) xS [.str s] [] .ok= .ok (.ret (.int .i64 (eY s)),[]):=fun s=>by
  rw[FA]
  unfold eY
  cases (s==([124,124]:List UInt8))with
  |true=>rfl
  |false=>
  cases (s==([38,38]:List UInt8))with
  |true=>rfl
  |false=>
  cases (s==([61,61]:List UInt8))with
  |true=>rfl
  |false=>
  cases (s==([33,61]:List UInt8))with
  |true=>rfl
  |false=>
  cases (s==([60]:List UInt8))with
  |true=>rfl
  |false=>
  cases (s==([60,61]:List UInt8))with
  |true=>rfl
  |false=>
  cases (s==([62]:List UInt8))with
  |true=>rfl
  |false=>
  cases (s==([62,61]:List UInt8))with
  |true=>rfl
  |false=>
  cases (s==([43]:List UInt8))with
  |true=>rfl
  |false=>
  cases (s==([45]:List UInt8))with
  |true=>rfl
  |false=>
  cases (s==([42]:List UInt8))with
  |true=>rfl
  |false=>
  cases (s==([47]:List UInt8))with
  |true=>rfl
  |false=>
  cases (s==([37]:List UInt8))with
  |true=>rfl
  |false=>
  rfl
 exact bb (aS []) (aE .nil) G8 (key s)
theorem fc66:FIOK Tryz.prog 66 fi66:=⟨⟨Tryz.f66,Tryz.func66,rfl,rfl,rfl,by kernel_rfl⟩,by kernel_rfl⟩
theorem Nc:FIOK Tryz.prog 135 KQ:=⟨⟨Tryz.f135,Tryz.func135,rfl,rfl,rfl,by kernel_rfl⟩,by kernel_rfl⟩
theorem uw:aK Tryz.prog G 66 (ofT 66 (ki 3)):=by
 refine ja ?_ (Bn 3)
 exact zC fc66 (fun b off n c zs w hz hbig hc=>Any.slices_Clone_int Tryz.laysNm215 b off n c zs w hz hbig hc) (fun n c w=>Any.slices_Clone_int_nil Tryz.laysNm215 n c w) (fun a c w=>Any.slices_Clone_int_zero Tryz.laysNm215 a c w)
theorem EX:aK Tryz.prog G 135 (ofT 135 zg):=by
 refine ja ?_ (EP)
 exact Bh Nc fun w s c hc hs=>Any.strings_Trim_one Tryz.lays160 s c hc w hs
theorem Ew{f:Nat}{ts rs:Sig}{F:PF ts rs}:INt (wZ f ts rs F):=fun R args bs k r hr=>by
 unfold wZ at hr
 split at hr
 ·rename_i xs T tK K a d z nT A
  split at hr
  ·rename_i K' A' x hz hK hA ht
   cases e:F T K' a d A' x with
   |ok y a' d' A''=>
    rw[e]at hr
    refine⟨_,hr,fun R' k' r' hk=>?_⟩
    unfold wZ
    simp only[hz,hK,hA,ht,e]
    exact hk
   |fault c p=>
    rw[e]at hr
    refine⟨_,hr,fun R' k' r' hk=>?_⟩
    unfold wZ
    simp only[hz,hK,hA,ht,e]
    exact hk
   |bad=>
    rw[e]at hr
    cases hr
  ·cases hr
 ·cases hr
theorem Bo{f:Nat}{ts rs:Sig}{F:PF ts rs}{ret:ai rs→AV}{more:ai rs→List Blk}:INt (oh f ts rs F ret more):=fun R args bs k r hr=>by
 unfold oh at hr
 split at hr
 ·rename_i xs T tK K a d z nT A
  split at hr
  ·rename_i K' A' x hz hK hA ht
   cases e:F T K' a d A' x with
   |ok y a' d' A''=>
    rw[e]at hr
    refine⟨_,hr,fun R' k' r' hk=>?_⟩
    unfold oh
    simp only[hz,hK,hA,ht,e]
    exact hk
   |fault c p=>
    rw[e]at hr
    refine⟨_,hr,fun R' k' r' hk=>?_⟩
    unfold oh
    simp only[hz,hK,hA,ht,e]
    exact hk
   |bad=>
    rw[e]at hr
    cases hr
  ·cases hr
 ·cases hr
theorem bp{f:Nat}{ts rs:Sig}{F:PF ts rs}:INt (dj f ts rs F):=uq (yX (qb Ew))
theorem nU{f:Nat}{ts rs:Sig}{F:PF ts rs}{ret:ai rs→AV}{more:ai rs→List Blk}:INt (vc f ts rs F ret more):=uq (yX (qb Bo))
theorem DU:INt vM:=fun R args bs k r hr=>by
 unfold vM at hr⊢
 split at hr
 ·exact⟨_,hr,fun _ _ _ h=>h⟩
 ·cases hr
def kO(G:Nat→Obj→Prop):Prop:=∀x:ai bB,gD x=true→SAD Tryz.prog G 127 bB zk x (II x)
theorem zf:pR (w8 p):=by
 unfold w8
 refine .cons DU (.cons bp (.cons bp (.cons bp (.cons bp (.cons bp (.cons bp (.cons bp (.cons bp (.cons bp (.cons bp ?_))))))))))
 refine .cons bp (.cons bp (.cons nU (.cons bp (.cons bp (.cons nU (.cons bp (.cons bp (.cons bp (.cons bp (.cons bp (.cons bp ?_)))))))))))
 refine .cons nU (.cons bp (.cons bp (.cons bp (.cons bp (.cons bp (.cons bp (.cons bp (.cons bp (.cons bp ?_)))))))))
 exact .cons fR (.cons fR (.cons fR (.cons fR (.cons fR (.cons fR (.cons wD .nil))))))
theorem vA:pR jd:=.cons wD .nil
theorem AH:pR sj:=.cons wD .nil
theorem iX:aT Tryz.prog G jd:=.cons uw .nil
theorem qT:aT Tryz.prog G sj:=.cons EX .nil
theorem sG(ht:fX G)(hf:kO G)(h:FnsOK G p):aT Tryz.prog G (w8 p):=by
 unfold w8
 refine .cons CY (.cons (bu h.o45) (.cons (bu h.o125) (.cons (bu h.o90) (.cons (bu h.o75) (.cons (bu h.o74) (.cons (bu h.o72) (.cons (bu h.o73) (.cons (bu h.o48) (.cons (bu h.o104) (.cons (bu h.o46) ?_))))))))))
 refine .cons (bu h.o47) (.cons (bu h.o76) (.cons (n9 h.o92) (.cons (bu h.o94) (.cons (bu h.o106) (.cons (n9 h.o117) (.cons (bu h.o93) (.cons (bu h.o113) (.cons (bu h.o105) (.cons (bu h.o115) (.cons (bu h.o116) (.cons (bu h.o127) ?_)))))))))))
 refine .cons (n9 h.o128) (.cons (bu h.o114) (.cons (bu h.o126) (.cons (bu h.o133) (.cons (bu h.o135) (.cons (bu h.o136) (.cons (bu h.o137) (.cons (bu h.o139) (.cons (bu h.o142) (.cons (bu h.o148) ?_)))))))))
 exact .cons (aD fun x hx=>sH ht x hx) (.cons (aD fun x hx=>C6 ht x hx) (.cons (aD fun x hx=>JK ht x hx) (.cons (aD fun x hx=>IX ht x hx) (.cons (aD fun x _=>C5 x) (.cons (aD hf) (.cons uw .nil))))))
theorem yF(ht:fX G)(hf:kO G)(h:FnsOK G p):aT Tryz.prog G (aY p):=
 .cons (kP (aS []) vA iX KX) (.cons (kP (aS []) vA iX Hr) (.cons (kP (aS []) zf (sG ht hf h) HE) (.cons (kP (aS []) zf (sG ht hf h) HA) (.cons (kP (aS []) AH qT DL) (sG ht hf h)))))
theorem Bz(ht:fX G)(hf:kO G):∀n,FnsOK G (fns n)
 |0=>Fb
 |n+1=>Eh (yF ht hf (Bz ht hf n))
theorem wa(ht:fX G)(hf:kO G)(n:Nat):bG G 41 [] [] (fun T K a d A _=>pU (fns n) T K a d A):=ok26 (yF ht hf (Bz ht hf n))
end Go.Sx.Tryz
namespace Go.Sx.Tryz
open Go Go.Sx Go.Proofs
set_option maxRecDepth 100000
def Ki:aQ:=fun R args bs k=>match args,bs with
 |[.int .u8 c],[]=>(match c==46 with
  |true=>k (.ret (.int .u8 46),[])
  |false=>.err 162)
 |_,_=>.err 162
def gJ:List (Nat×aQ):=[(220,Ki)]
def M7:List Bool:=[true,false,true,true,true,true,true,true,true,true,true,true,true,true,true,false,false,false]
def gx:List Cut:=[⟨M7,some ⟨[(0,[]),(2,[]),(3,[]),(4,[]),(5,[]),(6,[]),(7,[]),(8,[]),(9,[]),(10,[]),(11,[]),(12,[]),(13,[]),(14,[]),(15,[]),(16,[]),(17,[])],[]⟩⟩]
def mL(s:List UInt8)(mt i:Int)(sd sg:Bool)(nd nm dp:Int):St:=⟨[(0,.str s),(2,.int .u64 mt),(3,.int .i64 0),(4,.bool false),(5,.bool false),(6,.bool false),(7,.int .i64 i),(8,.bool false),(9,.bool false),(10,.int .u64 10),(11,.int .i64 19),(12,.int .u8 101),(13,.bool sd),(14,.bool sg),(15,.int .i64 nd),(16,.int .i64 nm),(17,.int .i64 dp)],[],0⟩
end Go.Sx.Tryz
namespace Go.Sx.Tryz
open Go Go.Sx
set_option maxRecDepth 100000
theorem rM(J:Jump R0)(s:List UInt8)(mt i:Int)(sd sg:Bool)(nd nm dp:Int):resume (R:=R0) E (an gJ) (aR 0 gx 0) J M7 hH.code 1 (mL s mt i sd sg nd nm dp) (bX E 0 hH.results .ok)=bif decide (i<(↑(List.length s):Int))then bif inI i (List.length s)then bif true==((↑(UInt8.toNat (List.getD s (Int.toNat i) 0)):Int)==95)then J 0 {tmps:=[(0,AV.str s),(2,AV.int IntKind.u64 mt),(3,Iz 0),(4,AV.bool false),(5,AV.bool false),(6,AV.bool false),(7,Iz (IntKind.wrap IntKind.i64 (i+1))),(8,AV.bool false),(9,AV.bool true),(10,AV.int IntKind.u64 ((10:Int))),(11,Iz ((19:Int))),(12,AV.int IntKind.u8 ((101:Int))),(13,AV.bool sd),(14,AV.bool sg),(15,Iz nd),(16,Iz nm),(17,Iz dp)],blks:=[],next:=0}else bif true==((↑(UInt8.toNat (List.getD s (Int.toNat i) 0)):Int)==46)then bif sd then bif !sg then Rs.ok (Out.ret (AV.tup [AV.int IntKind.u64 mt,Iz 0,AV.bool false,AV.bool false,AV.bool false,Iz i,AV.bool false]),[])else bif !sd then bif decide (i<(↑(List.length s):Int))then bif inI i (List.length s)then bif (↑(UInt8.toNat (List.getD s (Int.toNat i) 0)):Int)==46 then bif mt !=0 then Rs.ok (Out.ret (AV.tup [AV.int IntKind.u64 mt,Iz (IntKind.wrap IntKind.i64 (nd-nm)),AV.bool false,AV.bool false,AV.bool false,Iz i,AV.bool true]),[])else Rs.ok (Out.ret (AV.tup [AV.int IntKind.u64 mt,Iz 0,AV.bool false,AV.bool false,AV.bool false,Iz i,AV.bool true]),[])else Rs.err 162 else Rs.err 5707 else bif mt !=0 then Rs.ok (Out.ret (AV.tup [AV.int IntKind.u64 mt,Iz (IntKind.wrap IntKind.i64 (nd-nm)),AV.bool false,AV.bool false,AV.bool false,Iz i,AV.bool true]),[])else Rs.ok (Out.ret (AV.tup [AV.int IntKind.u64 mt,Iz 0,AV.bool false,AV.bool false,AV.bool false,Iz i,AV.bool true]),[])else bif decide (i<(↑(List.length s):Int))then bif inI i (List.length s)then bif (↑(UInt8.toNat (List.getD s (Int.toNat i) 0)):Int)==46 then bif mt !=0 then Rs.ok (Out.ret (AV.tup [AV.int IntKind.u64 mt,Iz (IntKind.wrap IntKind.i64 (dp-nm)),AV.bool false,AV.bool false,AV.bool false,Iz i,AV.bool true]),[])else Rs.ok (Out.ret (AV.tup [AV.int IntKind.u64 mt,Iz 0,AV.bool false,AV.bool false,AV.bool false,Iz i,AV.bool true]),[])else Rs.err 162 else Rs.err 5707 else bif mt !=0 then Rs.ok (Out.ret (AV.tup [AV.int IntKind.u64 mt,Iz (IntKind.wrap IntKind.i64 (dp-nm)),AV.bool false,AV.bool false,AV.bool false,Iz i,AV.bool true]),[])else Rs.ok (Out.ret (AV.tup [AV.int IntKind.u64 mt,Iz 0,AV.bool false,AV.bool false,AV.bool false,Iz i,AV.bool true]),[])else J 0 {tmps:=[(0,AV.str s),(2,AV.int IntKind.u64 mt),(3,Iz 0),(4,AV.bool false),(5,AV.bool false),(6,AV.bool false),(7,Iz (IntKind.wrap IntKind.i64 (i+1))),(8,AV.bool false),(9,AV.bool false),(10,AV.int IntKind.u64 ((10:Int))),(11,Iz ((19:Int))),(12,AV.int IntKind.u8 ((101:Int))),(13,AV.bool true),(14,AV.bool sg),(15,Iz nd),(16,Iz nm),(17,Iz nd)],blks:=[],next:=0}else bif decide (48≤(↑(UInt8.toNat (List.getD s (Int.toNat i) 0)):Int))then bif true==decide ((↑(UInt8.toNat (List.getD s (Int.toNat i) 0)):Int)≤57)then bif (↑(UInt8.toNat (List.getD s (Int.toNat i) 0)):Int)==48 then bif nd==0 then J 0 {tmps:=[(0,AV.str s),(2,AV.int IntKind.u64 mt),(3,Iz 0),(4,AV.bool false),(5,AV.bool false),(6,AV.bool false),(7,Iz (IntKind.wrap IntKind.i64 (i+1))),(8,AV.bool false),(9,AV.bool false),(10,AV.int IntKind.u64 ((10:Int))),(11,Iz ((19:Int))),(12,AV.int IntKind.u8 ((101:Int))),(13,AV.bool sd),(14,AV.bool true),(15,Iz nd),(16,Iz nm),(17,Iz (IntKind.wrap IntKind.i64 (dp-1)))],blks:=[],next:=0}else bif decide (nm<19)then J 0 {tmps:=[(0,AV.str s),(2,AV.int IntKind.u64 (IntKind.wrap IntKind.u64 (IntKind.wrap IntKind.u64 (mt*10)+IntKind.wrap IntKind.u64 (IntKind.wrap IntKind.u8 ((↑(UInt8.toNat (List.getD s (Int.toNat i) 0)):Int)-48))))),(3,Iz 0),(4,AV.bool false),(5,AV.bool false),(6,AV.bool false),(7,Iz (IntKind.wrap IntKind.i64 (i+1))),(8,AV.bool false),(9,AV.bool false),(10,AV.int IntKind.u64 ((10:Int))),(11,Iz ((19:Int))),(12,AV.int IntKind.u8 ((101:Int))),(13,AV.bool sd),(14,AV.bool true),(15,Iz (IntKind.wrap IntKind.i64 (nd+1))),(16,Iz (IntKind.wrap IntKind.i64 (nm+1))),(17,Iz dp)],blks:=[],next:=0}else bif (↑(UInt8.toNat (List.getD s (Int.toNat i) 0)):Int) !=48 then J 0 {tmps:=[(0,AV.str s),(2,AV.int IntKind.u64 mt),(3,Iz 0),(4,AV.bool false),(5,AV.bool true),(6,AV.bool false),(7,Iz (IntKind.wrap IntKind.i64 (i+1))),(8,AV.bool false),(9,AV.bool false),(10,AV.int IntKind.u64 ((10:Int))),(11,Iz ((19:Int))),(12,AV.int IntKind.u8 ((101:Int))),(13,AV.bool sd),(14,AV.bool true),(15,Iz (IntKind.wrap IntKind.i64 (nd+1))),(16,Iz nm),(17,Iz dp)],blks:=[],next:=0}else J 0 {tmps:=[(0,AV.str s),(2,AV.int IntKind.u64 mt),(3,Iz 0),(4,AV.bool false),(5,AV.bool false),(6,AV.bool false),(7,Iz (IntKind.wrap IntKind.i64 (i+1))),(8,AV.bool false),(9,AV.bool false),(10,AV.int IntKind.u64 ((10:Int))),(11,Iz ((19:Int))),(12,AV.int IntKind.u8 ((101:Int))),(13,AV.bool sd),(14,AV.bool true),(15,Iz (IntKind.wrap IntKind.i64 (nd+1))),(16,Iz nm),(17,Iz dp)],blks:=[],next:=0}else bif decide (nm<19)then J 0 {tmps:=[(0,AV.str s),(2,AV.int IntKind.u64 (IntKind.wrap IntKind.u64 (IntKind.wrap IntKind.u64 (mt*10)+IntKind.wrap IntKind.u64 (IntKind.wrap IntKind.u8 ((↑(UInt8.toNat (List.getD s (Int.toNat i) 0)):Int)-48))))),(3,Iz 0),(4,AV.bool false),(5,AV.bool false),(6,AV.bool false),(7,Iz (IntKind.wrap IntKind.i64 (i+1))),(8,AV.bool false),(9,AV.bool false),(10,AV.int IntKind.u64 ((10:Int))),(11,Iz ((19:Int))),(12,AV.int IntKind.u8 ((101:Int))),(13,AV.bool sd),(14,AV.bool true),(15,Iz (IntKind.wrap IntKind.i64 (nd+1))),(16,Iz (IntKind.wrap IntKind.i64 (nm+1))),(17,Iz dp)],blks:=[],next:=0}else bif (↑(UInt8.toNat (List.getD s (Int.toNat i) 0)):Int) !=48 then J 0 {tmps:=[(0,AV.str s),(2,AV.int IntKind.u64 mt),(3,Iz 0),(4,AV.bool false),(5,AV.bool true),(6,AV.bool false),(7,Iz (IntKind.wrap IntKind.i64 (i+1))),(8,AV.bool false),(9,AV.bool false),(10,AV.int IntKind.u64 ((10:Int))),(11,Iz ((19:Int))),(12,AV.int IntKind.u8 ((101:Int))),(13,AV.bool sd),(14,AV.bool true),(15,Iz (IntKind.wrap IntKind.i64 (nd+1))),(16,Iz nm),(17,Iz dp)],blks:=[],next:=0}else J 0 {tmps:=[(0,AV.str s),(2,AV.int IntKind.u64 mt),(3,Iz 0),(4,AV.bool false),(5,AV.bool false),(6,AV.bool false),(7,Iz (IntKind.wrap IntKind.i64 (i+1))),(8,AV.bool false),(9,AV.bool false),(10,AV.int IntKind.u64 ((10:Int))),(11,Iz ((19:Int))),(12,AV.int IntKind.u8 ((101:Int))),(13,AV.bool sd),(14,AV.bool true),(15,Iz (IntKind.wrap IntKind.i64 (nd+1))),(16,Iz nm),(17,Iz dp)],blks:=[],next:=0}else bif !sg then Rs.ok (Out.ret (AV.tup [AV.int IntKind.u64 mt,Iz 0,AV.bool false,AV.bool false,AV.bool false,Iz i,AV.bool false]),[])else bif !sd then bif decide (i<(↑(List.length s):Int))then bif inI i (List.length s)then bif (↑(UInt8.toNat (List.getD s (Int.toNat i) 0)):Int)==46 then bif mt !=0 then Rs.ok (Out.ret (AV.tup [AV.int IntKind.u64 mt,Iz (IntKind.wrap IntKind.i64 (nd-nm)),AV.bool false,AV.bool false,AV.bool false,Iz i,AV.bool true]),[])else Rs.ok (Out.ret (AV.tup [AV.int IntKind.u64 mt,Iz 0,AV.bool false,AV.bool false,AV.bool false,Iz i,AV.bool true]),[])else Rs.err 162 else Rs.err 5707 else bif mt !=0 then Rs.ok (Out.ret (AV.tup [AV.int IntKind.u64 mt,Iz (IntKind.wrap IntKind.i64 (nd-nm)),AV.bool false,AV.bool false,AV.bool false,Iz i,AV.bool true]),[])else Rs.ok (Out.ret (AV.tup [AV.int IntKind.u64 mt,Iz 0,AV.bool false,AV.bool false,AV.bool false,Iz i,AV.bool true]),[])else bif decide (i<(↑(List.length s):Int))then bif inI i (List.length s)then bif (↑(UInt8.toNat (List.getD s (Int.toNat i) 0)):Int)==46 then bif mt !=0 then Rs.ok (Out.ret (AV.tup [AV.int IntKind.u64 mt,Iz (IntKind.wrap IntKind.i64 (dp-nm)),AV.bool false,AV.bool false,AV.bool false,Iz i,AV.bool true]),[])else Rs.ok (Out.ret (AV.tup [AV.int IntKind.u64 mt,Iz 0,AV.bool false,AV.bool false,AV.bool false,Iz i,AV.bool true]),[])else Rs.err 162 else Rs.err 5707 else bif mt !=0 then Rs.ok (Out.ret (AV.tup [AV.int IntKind.u64 mt,Iz (IntKind.wrap IntKind.i64 (dp-nm)),AV.bool false,AV.bool false,AV.bool false,Iz i,AV.bool true]),[])else Rs.ok (Out.ret (AV.tup [AV.int IntKind.u64 mt,Iz 0,AV.bool false,AV.bool false,AV.bool false,Iz i,AV.bool true]),[])else bif !sg then Rs.ok (Out.ret (AV.tup [AV.int IntKind.u64 mt,Iz 0,AV.bool false,AV.bool false,AV.bool false,Iz i,AV.bool false]),[])else bif !sd then bif decide (i<(↑(List.length s):Int))then bif inI i (List.length s)then bif (↑(UInt8.toNat (List.getD s (Int.toNat i) 0)):Int)==46 then bif mt !=0 then Rs.ok (Out.ret (AV.tup [AV.int IntKind.u64 mt,Iz (IntKind.wrap IntKind.i64 (nd-nm)),AV.bool false,AV.bool false,AV.bool false,Iz i,AV.bool true]),[])else Rs.ok (Out.ret (AV.tup [AV.int IntKind.u64 mt,Iz 0,AV.bool false,AV.bool false,AV.bool false,Iz i,AV.bool true]),[])else Rs.err 162 else Rs.err 5707 else bif mt !=0 then Rs.ok (Out.ret (AV.tup [AV.int IntKind.u64 mt,Iz (IntKind.wrap IntKind.i64 (nd-nm)),AV.bool false,AV.bool false,AV.bool false,Iz i,AV.bool true]),[])else Rs.ok (Out.ret (AV.tup [AV.int IntKind.u64 mt,Iz 0,AV.bool false,AV.bool false,AV.bool false,Iz i,AV.bool true]),[])else bif decide (i<(↑(List.length s):Int))then bif inI i (List.length s)then bif (↑(UInt8.toNat (List.getD s (Int.toNat i) 0)):Int)==46 then bif mt !=0 then Rs.ok (Out.ret (AV.tup [AV.int IntKind.u64 mt,Iz (IntKind.wrap IntKind.i64 (dp-nm)),AV.bool false,AV.bool false,AV.bool false,Iz i,AV.bool true]),[])else Rs.ok (Out.ret (AV.tup [AV.int IntKind.u64 mt,Iz 0,AV.bool false,AV.bool false,AV.bool false,Iz i,AV.bool true]),[])else Rs.err 162 else Rs.err 5707 else bif mt !=0 then Rs.ok (Out.ret (AV.tup [AV.int IntKind.u64 mt,Iz (IntKind.wrap IntKind.i64 (dp-nm)),AV.bool false,AV.bool false,AV.bool false,Iz i,AV.bool true]),[])else Rs.ok (Out.ret (AV.tup [AV.int IntKind.u64 mt,Iz 0,AV.bool false,AV.bool false,AV.bool false,Iz i,AV.bool true]),[])else Rs.err 2502 else bif !sg then Rs.ok (Out.ret (AV.tup [AV.int IntKind.u64 mt,Iz 0,AV.bool false,AV.bool false,AV.bool false,Iz i,AV.bool false]),[])else bif !sd then bif decide (i<(↑(List.length s):Int))then bif inI i (List.length s)then bif (↑(UInt8.toNat (List.getD s (Int.toNat i) 0)):Int)==46 then bif mt !=0 then Rs.ok (Out.ret (AV.tup [AV.int IntKind.u64 mt,Iz (IntKind.wrap IntKind.i64 (nd-nm)),AV.bool false,AV.bool false,AV.bool false,Iz i,AV.bool true]),[])else Rs.ok (Out.ret (AV.tup [AV.int IntKind.u64 mt,Iz 0,AV.bool false,AV.bool false,AV.bool false,Iz i,AV.bool true]),[])else Rs.err 162 else Rs.err 5707 else bif mt !=0 then Rs.ok (Out.ret (AV.tup [AV.int IntKind.u64 mt,Iz (IntKind.wrap IntKind.i64 (nd-nm)),AV.bool false,AV.bool false,AV.bool false,Iz i,AV.bool true]),[])else Rs.ok (Out.ret (AV.tup [AV.int IntKind.u64 mt,Iz 0,AV.bool false,AV.bool false,AV.bool false,Iz i,AV.bool true]),[])else bif decide (i<(↑(List.length s):Int))then bif inI i (List.length s)then bif (↑(UInt8.toNat (List.getD s (Int.toNat i) 0)):Int)==46 then bif mt !=0 then Rs.ok (Out.ret (AV.tup [AV.int IntKind.u64 mt,Iz (IntKind.wrap IntKind.i64 (dp-nm)),AV.bool false,AV.bool false,AV.bool false,Iz i,AV.bool true]),[])else Rs.ok (Out.ret (AV.tup [AV.int IntKind.u64 mt,Iz 0,AV.bool false,AV.bool false,AV.bool false,Iz i,AV.bool true]),[])else Rs.err 162 else Rs.err 5707 else bif mt !=0 then Rs.ok (Out.ret (AV.tup [AV.int IntKind.u64 mt,Iz (IntKind.wrap IntKind.i64 (dp-nm)),AV.bool false,AV.bool false,AV.bool false,Iz i,AV.bool true]),[])else Rs.ok (Out.ret (AV.tup [AV.int IntKind.u64 mt,Iz 0,AV.bool false,AV.bool false,AV.bool false,Iz i,AV.bool true]),[]):=by kernel_rfl
theorem DO(J:Jump R0)(s:List UInt8):start (R:=R0) E (an gJ) hH gx J [.str s] [] .ok=bif decide (0≥(↑(List.length s):Int))then Rs.ok (Out.ret (AV.tup [AV.int IntKind.u64 0,Iz 0,AV.bool false,AV.bool false,AV.bool false,Iz 0,AV.bool false]),[])else bif inI 0 (List.length s)then bif (↑(UInt8.toNat (List.getD s (Int.toNat 0) 0)):Int)==43 then bif decide (IntKind.wrap IntKind.i64 (IntKind.wrap IntKind.i64 (0+1)+2)<(↑(List.length s):Int))then bif inI (IntKind.wrap IntKind.i64 (0+1)) (List.length s)then bif (↑(UInt8.toNat (List.getD s (Int.toNat (IntKind.wrap IntKind.i64 (0+1))) 0)):Int)==48 then bif inI (IntKind.wrap IntKind.i64 (IntKind.wrap IntKind.i64 (0+1)+1)) (List.length s)then bif (↑(UInt8.toNat (List.getD s (Int.toNat (IntKind.wrap IntKind.i64 (IntKind.wrap IntKind.i64 (0+1)+1))) 0)):Int)==46 then J 0 {tmps:=[(0,AV.str s),(2,AV.int IntKind.u64 0),(3,Iz 0),(4,AV.bool false),(5,AV.bool false),(6,AV.bool false),(7,Iz ((1:Int))),(8,AV.bool false),(9,AV.bool false),(10,AV.int IntKind.u64 ((10:Int))),(11,Iz ((19:Int))),(12,AV.int IntKind.u8 ((101:Int))),(13,AV.bool false),(14,AV.bool false),(15,Iz 0),(16,Iz 0),(17,Iz 0)],blks:=[],next:=0}else Rs.err 162 else Rs.err 1215 else J 0 {tmps:=[(0,AV.str s),(2,AV.int IntKind.u64 0),(3,Iz 0),(4,AV.bool false),(5,AV.bool false),(6,AV.bool false),(7,Iz ((1:Int))),(8,AV.bool false),(9,AV.bool false),(10,AV.int IntKind.u64 ((10:Int))),(11,Iz ((19:Int))),(12,AV.int IntKind.u8 ((101:Int))),(13,AV.bool false),(14,AV.bool false),(15,Iz 0),(16,Iz 0),(17,Iz 0)],blks:=[],next:=0}else Rs.err 1208 else J 0 {tmps:=[(0,AV.str s),(2,AV.int IntKind.u64 0),(3,Iz 0),(4,AV.bool false),(5,AV.bool false),(6,AV.bool false),(7,Iz ((1:Int))),(8,AV.bool false),(9,AV.bool false),(10,AV.int IntKind.u64 ((10:Int))),(11,Iz ((19:Int))),(12,AV.int IntKind.u8 ((101:Int))),(13,AV.bool false),(14,AV.bool false),(15,Iz 0),(16,Iz 0),(17,Iz 0)],blks:=[],next:=0}else bif (↑(UInt8.toNat (List.getD s (Int.toNat 0) 0)):Int)==45 then bif decide (IntKind.wrap IntKind.i64 (IntKind.wrap IntKind.i64 (0+1)+2)<(↑(List.length s):Int))then bif inI (IntKind.wrap IntKind.i64 (0+1)) (List.length s)then bif (↑(UInt8.toNat (List.getD s (Int.toNat (IntKind.wrap IntKind.i64 (0+1))) 0)):Int)==48 then bif inI (IntKind.wrap IntKind.i64 (IntKind.wrap IntKind.i64 (0+1)+1)) (List.length s)then bif (↑(UInt8.toNat (List.getD s (Int.toNat (IntKind.wrap IntKind.i64 (IntKind.wrap IntKind.i64 (0+1)+1))) 0)):Int)==46 then J 0 {tmps:=[(0,AV.str s),(2,AV.int IntKind.u64 0),(3,Iz 0),(4,AV.bool true),(5,AV.bool false),(6,AV.bool false),(7,Iz ((1:Int))),(8,AV.bool false),(9,AV.bool false),(10,AV.int IntKind.u64 ((10:Int))),(11,Iz ((19:Int))),(12,AV.int IntKind.u8 ((101:Int))),(13,AV.bool false),(14,AV.bool false),(15,Iz 0),(16,Iz 0),(17,Iz 0)],blks:=[],next:=0}else Rs.err 162 else Rs.err 1215 else J 0 {tmps:=[(0,AV.str s),(2,AV.int IntKind.u64 0),(3,Iz 0),(4,AV.bool true),(5,AV.bool false),(6,AV.bool false),(7,Iz ((1:Int))),(8,AV.bool false),(9,AV.bool false),(10,AV.int IntKind.u64 ((10:Int))),(11,Iz ((19:Int))),(12,AV.int IntKind.u8 ((101:Int))),(13,AV.bool false),(14,AV.bool false),(15,Iz 0),(16,Iz 0),(17,Iz 0)],blks:=[],next:=0}else Rs.err 1208 else J 0 {tmps:=[(0,AV.str s),(2,AV.int IntKind.u64 0),(3,Iz 0),(4,AV.bool true),(5,AV.bool false),(6,AV.bool false),(7,Iz ((1:Int))),(8,AV.bool false),(9,AV.bool false),(10,AV.int IntKind.u64 ((10:Int))),(11,Iz ((19:Int))),(12,AV.int IntKind.u8 ((101:Int))),(13,AV.bool false),(14,AV.bool false),(15,Iz 0),(16,Iz 0),(17,Iz 0)],blks:=[],next:=0}else bif decide (IntKind.wrap IntKind.i64 (0+2)<(↑(List.length s):Int))then bif inI 0 (List.length s)then bif (↑(UInt8.toNat (List.getD s (Int.toNat 0) 0)):Int)==48 then bif inI (IntKind.wrap IntKind.i64 (0+1)) (List.length s)then bif (↑(UInt8.toNat (List.getD s (Int.toNat (IntKind.wrap IntKind.i64 (0+1))) 0)):Int)==46 then J 0 {tmps:=[(0,AV.str s),(2,AV.int IntKind.u64 0),(3,Iz 0),(4,AV.bool false),(5,AV.bool false),(6,AV.bool false),(7,Iz 0),(8,AV.bool false),(9,AV.bool false),(10,AV.int IntKind.u64 ((10:Int))),(11,Iz ((19:Int))),(12,AV.int IntKind.u8 ((101:Int))),(13,AV.bool false),(14,AV.bool false),(15,Iz 0),(16,Iz 0),(17,Iz 0)],blks:=[],next:=0}else Rs.err 162 else Rs.err 1215 else J 0 {tmps:=[(0,AV.str s),(2,AV.int IntKind.u64 0),(3,Iz 0),(4,AV.bool false),(5,AV.bool false),(6,AV.bool false),(7,Iz 0),(8,AV.bool false),(9,AV.bool false),(10,AV.int IntKind.u64 ((10:Int))),(11,Iz ((19:Int))),(12,AV.int IntKind.u8 ((101:Int))),(13,AV.bool false),(14,AV.bool false),(15,Iz 0),(16,Iz 0),(17,Iz 0)],blks:=[],next:=0}else Rs.err 1208 else J 0 {tmps:=[(0,AV.str s),(2,AV.int IntKind.u64 0),(3,Iz 0),(4,AV.bool false),(5,AV.bool false),(6,AV.bool false),(7,Iz 0),(8,AV.bool false),(9,AV.bool false),(10,AV.int IntKind.u64 ((10:Int))),(11,Iz ((19:Int))),(12,AV.int IntKind.u8 ((101:Int))),(13,AV.bool false),(14,AV.bool false),(15,Iz 0),(16,Iz 0),(17,Iz 0)],blks:=[],next:=0}else Rs.err 302:=by kernel_rfl
end Go.Sx.Tryz
namespace Go.Sx.Tryz
open Go Go.Sx Go.Proofs
set_option maxRecDepth 100000
variable{G:Nat→Obj→Prop}
abbrev hU(n:Nat):Jump R0:=pieces (R:=R0) E (an gJ) hH gx 0 .ok n
theorem tn{n:Int}(h0:0≤n)(h1:n<18446744073709551616):IntKind.wrap .u64 n=n:=by
 unfold IntKind.wrap
 have hb:IntKind.bits .u64=64:=rfl
 have hs:IntKind.signed .u64=false:=rfl
 simp only[hb,hs,Bool.false_and]
 simp only[Bool.false_eq_true,if_false]
 omega
theorem Ih{n:Int}(h0:0≤n)(h1:n<256):IntKind.wrap .u8 n=n:=by
 unfold IntKind.wrap
 have hb:IntKind.bits .u8=8:=rfl
 have hs:IntKind.signed .u8=false:=rfl
 simp only[hb,hs,Bool.false_and]
 simp only[Bool.false_eq_true,if_false]
 omega
theorem getD_at{s pre q:List UInt8}{c:UInt8}(h:s=pre++c::q):s.getD (Int.toNat (pre.length:Int)) 0=c:=by
 rw[h,Int.toNat_natCast]
 simp[List.getD_eq_getElem?_getD]
theorem eG{c:UInt8}(h:aM (c.toNat:Int)=true):48≤c.toNat∧c.toNat≤57:=by
 unfold aM at h
 simp only[Bool.and_eq_true,decide_eq_true_eq]at h
 omega
theorem nu{s:List UInt8}(hs:s.length≤1048576)(sd:Bool):∀(r pre q:List UInt8) (fuel mt:Nat) (sg:Bool) (nd dp:Int),s=pre++(r++q)→(r.all fun c=>aM c.toNat)=true→0≤nd→nd+r.length≤15→ -20+r.length≤dp→dp≤20→mt<10^(16-r.length)→r.length≤15→(mt≠0→nd≠0)→
  ∃(nd' dp':Int),hU (fuel+r.length) 0 (mL s mt pre.length sd sg nd nd dp)=hU fuel 0 (mL s (r.foldl (fun m c=>m*10+(c.toNat-48)) mt:Nat) ((pre.length:Int)+r.length) sd (sg|| !r.isEmpty) nd' nd' dp')∧
   nd'-dp'=nd-dp+r.length∧0≤nd'∧nd'≤nd+r.length∧((r.foldl (fun m c=>m*10+(c.toNat-48)) mt)≠0→nd'≠0)
 |[],pre,q,fuel,mt,sg,nd,dp,hp,hd,h0,h1,h2,h3,h4,h5,h6=>by
  refine⟨nd,dp,?_,by simp,h0,by simp,h6⟩
  simp only[List.length_nil,Nat.add_zero,List.foldl_nil,List.isEmpty_nil,Bool.not_true,Bool.or_false]
  rw[show(pre.length:Int)+((0:Nat):Int)=pre.length by omega]
 |c::r,pre,q,fuel,mt,sg,nd,dp,hp,hd,h0,h1,h2,h3,h4,h5,h6=>by
  rw[List.all_cons,Bool.and_eq_true]at hd
  obtain⟨c0,c1⟩:=eG hd.1
  have hlen:pre.length+(r.length+1+q.length)=s.length:=by rw[hp];simp;omega
  have hc:s.getD (Int.toNat (pre.length:Int)) 0=c:=getD_at (q:=r++q) (by rw[hp];rfl)
  have hlt:(pre.length:Int)<s.length:=by omega
  have e1:decide ((pre.length:Int)<s.length)=true:=decide_eq_true hlt
  have e2:inI (pre.length:Int) s.length=true:=by
   simp only[inI,Bool.and_eq_true,decide_eq_true_eq]
   omega
  have e3:(true==((c.toNat:Int)==95))=false:=by
   have:¬((c.toNat:Int)=95):=by omega
   simp[this]
  have e4:(true==((c.toNat:Int)==46))=false:=by
   have:¬((c.toNat:Int)=46):=by omega
   simp[this]
  have e5:decide (48≤(c.toNat:Int))=true:=decide_eq_true (by omega)
  have e6:(true==decide ((c.toNat:Int)≤57))=true:=by
   have:decide ((c.toNat:Int)≤57)=true:=decide_eq_true (by omega)
   rw[this];rfl
  have e7:decide (nd<19)=true:=decide_eq_true (by simp only[List.length_cons]at h1;omega)
  have wi:IntKind.wrap .i64 ((pre.length:Int)+1)=(pre.length:Int)+1:=wrap64 (by omega) (by omega)
  have hpos:10^(16-(r.length+1))≤10^15:=Nat.pow_le_pow_right (by decide) (by omega)
  simp only[List.length_cons]at h1 h2 h4 h5
  have hmt:mt<10^15:=Nat.lt_of_lt_of_le h4 hpos
  have wn:IntKind.wrap .i64 (nd+1)=nd+1:=wrap64 (by omega) (by omega)
  have wd:IntKind.wrap .i64 (dp-1)=dp-1:=wrap64 (by omega) (by omega)
  have wm:IntKind.wrap .u64 (IntKind.wrap .u64 ((mt:Int)*10)+IntKind.wrap .u64 (IntKind.wrap .u8 ((c.toNat:Int)-48)))=((mt*10+(c.toNat-48):Nat):Int):=by
   have w1:IntKind.wrap .u8 ((c.toNat:Int)-48)=(c.toNat:Int)-48:=Ih (by omega) (by omega)
   have w2:IntKind.wrap .u64 ((c.toNat:Int)-48)=(c.toNat:Int)-48:=tn (by omega) (by omega)
   have w3:IntKind.wrap .u64 ((mt:Int)*10)=(mt:Int)*10:=tn (by omega) (by omega)
   rw[w1,w2,w3,tn (by omega) (by omega)]
   omega
  have hmt2:mt*10+(c.toNat-48)<10^(16-r.length):=by
   have:16-r.length=(16-(r.length+1))+1:=by omega
   rw[this,Nat.pow_succ]
   omega
  have hfu:fuel+(r.length+1)=(fuel+r.length)+1:=by omega
  have hpl:(((pre++[c]).length:Nat):Int)=(pre.length:Int)+1:=by simp
  have hpc:s=(pre++[c])++(r++q):=by rw[hp];simp
  have hsg:(sg|| !(c::r).isEmpty)=true:=by simp
  have hstep:=(aW (n:=fuel+r.length) (st:=mL s mt pre.length sd sg nd nd dp) (cs:=gx) (E:=E) (K:=an gJ) (fi:=hH) (np:=0) (k:=Rs.ok) (j:=0) rfl).trans (rM (hU (fuel+r.length)) s mt pre.length sd sg nd nd dp)
  rw[hc,e1,e2,e3,e4,e5,e6,e7,wi,wn,wd,wm]at hstep
  simp only[cond_true,cond_false]at hstep
  show ∃nd' dp',hU (fuel+(r.length+1)) 0 _=_∧_
  rw[hfu,hsg]
  by_cases hz:(c.toNat:Int)=48∧nd=0
  ·have hm0:mt=0:=by
    rcases Nat.eq_zero_or_pos mt with h|h
    ·exact h
    ·exact absurd hz.2 (h6 (by omega))
   have hc48:c.toNat=48:=by omega
   obtain⟨nd',dp',g1,g2,g3,g4,g5⟩:=nu hs sd r (pre++[c]) q fuel mt true nd (dp-1) hpc hd.2 h0 (by omega) (by omega) (by omega) (by rw[hm0];exact Nat.pos_of_ne_zero (by simp)) (by omega) h6
   refine⟨nd',dp',?_,by rw[g2];simp only[List.length_cons];omega,g3,by simp only[List.length_cons];omega,?_⟩
   ·refine Eq.trans ?_ (Eq.trans g1 ?_)
    ·rw[hpl]
     refine hstep.trans ?_
     rw[show((c.toNat:Int)==48)=true by simp[hc48],show(nd==0)=true by simp[hz.2]]
     exact congrArg _ rfl
    ·have:mt*10+(c.toNat-48)=mt:=by omega
     simp only[List.foldl_cons,this,List.length_cons,hpl,Bool.true_or]
     rw[show(pre.length:Int)+1+(r.length:Int)=(pre.length:Int)+((r.length+1:Nat):Int) by omega]
   ·have:mt*10+(c.toNat-48)=mt:=by omega
    simp only[List.foldl_cons,this]
    exact g5
  ·obtain⟨nd',dp',g1,g2,g3,g4,g5⟩:=nu hs sd r (pre++[c]) q fuel (mt*10+(c.toNat-48)) true (nd+1) dp hpc hd.2 (by omega) (by omega) (by omega) h3 hmt2 (by omega) (fun _=>by omega)
   refine⟨nd',dp',?_,by rw[g2];simp only[List.length_cons];omega,g3,by simp only[List.length_cons];omega,g5⟩
   refine Eq.trans ?_ (Eq.trans g1 ?_)
   ·rw[hpl]
    refine hstep.trans ?_
    cases h48:((c.toNat:Int)==48)with
    |true=>
     have:(nd==0)=false:=by
      have h48:(c.toNat:Int)=48:=by simpa using h48
      simp
      intro e
      exact hz ⟨h48,e⟩
     rw[this]
     exact congrArg _ rfl
    |false=>exact congrArg _ rfl
   ·simp only[List.foldl_cons,List.length_cons,hpl,Bool.true_or]
    rw[show(pre.length:Int)+1+(r.length:Int)=(pre.length:Int)+((r.length+1:Nat):Int) by omega]
theorem rdFloat{a b:List UInt8}(ha:(a.all fun c=>aM c.toNat)=true)(hb:(b.all fun c=>aM c.toNat)=true)(a1:1≤a.length)(b1:1≤b.length)(hab:a.length+b.length≤15)(hz:1<a.length→at8 a 0≠48):
  start (R:=R0) E (an gJ) hH gx (hU (((1+b.length)+1)+a.length)) [.str (a++46::b)] [] .ok=
   .ok (.ret (.tup [.int .u64 (bq (a++b):Nat),.int .i64 (bif bq (a++b)==0 then 0 else-(b.length:Int)),.bool false,.bool false,.bool false,.int .i64 (a++46::b).length,.bool true]),[]):=by
 obtain⟨c,a',rfl⟩:∃c a',a=c::a':=by
  cases a with
  |nil=>simp at a1
  |cons c a'=>exact⟨c,a',rfl⟩
 generalize hs:(c::a')++46::b=s
 have hlen:s.length=a'.length+1+(b.length+1):=by rw[←hs];simp;omega
 have ha0:=ha
 rw[List.all_cons,Bool.and_eq_true]at ha
 obtain⟨c0,c1⟩:=eG ha.1
 simp only[List.length_cons]at hab a1
 have hs0:s.getD (Int.toNat 0) 0=c:=by rw[←hs];rfl
 have hst:start (R:=R0) E (an gJ) hH gx (hU (((1+b.length)+1)+(a'.length+1))) [.str s] [] .ok=hU (((1+b.length)+1)+(a'.length+1)) 0 (mL s 0 0 false false 0 0 0):=by
  refine(DO (hU _) s).trans ?_
  have e0:decide ((0:Int)≥(s.length:Int))=false:=decide_eq_false (by omega)
  have e1:inI 0 s.length=true:=by
   simp only[inI,Bool.and_eq_true,decide_eq_true_eq]
   omega
  have e2:((c.toNat:Int)==43)=false:=by
   have:¬((c.toNat:Int)=43):=by omega
   simp[this]
  have e3:((c.toNat:Int)==45)=false:=by
   have:¬((c.toNat:Int)=45):=by omega
   simp[this]
  have w2:IntKind.wrap .i64 (0+2)=2:=wrap64 (by decide) (by decide)
  have w1:IntKind.wrap .i64 (0+1)=1:=wrap64 (by decide) (by decide)
  have e4:decide ((2:Int)<(s.length:Int))=true:=decide_eq_true (by omega)
  have e5:inI 1 s.length=true:=by
   simp only[inI,Bool.and_eq_true,decide_eq_true_eq]
   omega
  rw[hs0,e0,e1,e2,e3,w2,w1,e4,e5]
  simp only[cond_true,cond_false]
  cases h48:((c.toNat:Int)==48)with
  |false=>exact congrArg _ rfl
  |true=>
   have h48:(c.toNat:Int)=48:=by simpa using h48
   have ha':a'=[]:=by
    cases a' with
    |nil=>rfl
    |cons x r=>
     exact absurd h48 (hz (by simp))
   subst ha'
   have hs1:s.getD (Int.toNat 1) 0=46:=by rw[←hs];rfl
   rw[hs1]
   exact congrArg _ rfl
 have hbig:s.length≤1048576:=by omega
 show start (R:=R0) E (an gJ) hH gx (hU (((1+b.length)+1)+(a'.length+1))) [.str s] [] .ok=_
 rw[hst]
 obtain⟨nd,dp,g1,g2,g3,g4,g5⟩:=nu hbig false (c::a') [] (46::b) ((1+b.length)+1) 0 false 0 0 (by rw[←hs];rfl) ha0 (Int.le_refl 0) (by simp only[List.length_cons];omega) (by simp only[List.length_cons];omega) (by decide) (Nat.pos_of_ne_zero (by simp)) (by simp only[List.length_cons];omega) (fun h=>absurd rfl h)
 simp only[List.length_cons]at g2 g4
 refine Eq.trans g1 ?_
 have hm1:(c::a').foldl (fun m c=>m*10+(c.toNat-48)) 0=bq (c::a'):=rfl
 rw[hm1]at g5
 rw[hm1]
 have hmb:bq ((c::a')++b)=b.foldl (fun m c=>m*10+(c.toNat-48)) (bq (c::a')):=by
  unfold bq
  rw[List.foldl_append]
 have hdot:s.getD (Int.toNat ((((c::a').length:Nat):Int))) 0=46:=getD_at (pre:=c::a') (q:=b) (by rw[←hs])
 have hlt:(((c::a').length:Nat):Int)<s.length:=by simp only[List.length_cons];omega
 have hstep:=(aW (n:=1+b.length) (st:=mL s (bq (c::a'):Nat) (((c::a').length:Nat):Int) false true nd nd dp) (cs:=gx) (E:=E) (K:=an gJ) (fi:=hH) (np:=0) (k:=Rs.ok) (j:=0) rfl).trans (rM (hU (1+b.length)) s (bq (c::a'):Nat) (((c::a').length:Nat):Int) false true nd nd dp)
 have e1:decide ((((c::a').length:Nat):Int)<s.length)=true:=decide_eq_true hlt
 have e2:inI (((c::a').length:Nat):Int) s.length=true:=by
  simp only[inI,Bool.and_eq_true,decide_eq_true_eq]
  omega
 have wi:IntKind.wrap .i64 ((((c::a').length:Nat):Int)+1)=(((c::a').length:Nat):Int)+1:=wrap64 (by omega) (by omega)
 rw[hdot,e1,e2,wi]at hstep
 have hz0:([]:List UInt8).length=0:=rfl
 rw[show((([]:List UInt8).length:Nat):Int)+(((c::a').length:Nat):Int)=(((c::a').length:Nat):Int) by simp]
 rw[show(false|| !(c::a').isEmpty)=true from rfl]
 refine Eq.trans hstep ?_
 have hmid:hU (1+b.length) 0 (mL s (bq (c::a'):Nat) ((((c::a')++[46]).length:Nat):Int) true true nd nd nd)= .ok (.ret (.tup [.int .u64 (bq (c::a'++b):Nat),.int .i64 (bif bq (c::a'++b)==0 then 0 else-(b.length:Int)),.bool false,.bool false,.bool false,.int .i64 s.length,.bool true]),[]):=by
  have hmant:bq (c::a')<10^(16-b.length):=by
   have key:∀(l:List UInt8) (m:Nat),(l.all fun c=>aM c.toNat)=true→l.foldl (fun m c=>m*10+(c.toNat-48)) m<(m+1)*10^l.length:=by
    intro l
    induction l with
    |nil=>intro m _;simp
    |cons x l ih=>
     intro m h
     rw[List.all_cons,Bool.and_eq_true]at h
     obtain⟨x0,x1⟩:=eG h.1
     have:=ih (m*10+(x.toNat-48)) h.2
     rw[List.foldl_cons,List.length_cons,Nat.pow_succ]
     refine Nat.lt_of_lt_of_le this ?_
     have h2:m*10+(x.toNat-48)+1≤(m+1)*10:=by omega
     calc(m*10+(x.toNat-48)+1)*10^l.length≤((m+1)*10)*10^l.length:=Nat.mul_le_mul_right _ h2
      _=(m+1)*(10^l.length*10):=by rw[Nat.mul_assoc,Nat.mul_comm 10]
   have h1:=key (c::a') 0 ha0
   rw[Nat.zero_add,Nat.one_mul]at h1
   exact Nat.lt_of_lt_of_le h1 (Nat.pow_le_pow_right (by decide) (by simp only[List.length_cons];omega))
  obtain⟨nd',dp',f1,f2,f3,f4,f5⟩:=nu hbig true b ((c::a')++[46]) [] 1 (bq (c::a')) true nd nd (by rw[←hs];simp) hb g3 (by omega) (by omega) (by omega) hmant (by omega) g5
  refine Eq.trans f1 ?_
  have hend:((((c::a')++[46]).length:Nat):Int)+(b.length:Int)=s.length:=by
   rw[List.length_append,List.length_singleton,List.length_cons,hlen]
   omega
  rw[hend,←hmb,show(true|| !b.isEmpty)=true from rfl]
  have hfin:=(aW (n:=0) (st:=mL s (bq (c::a'++b):Nat) (s.length:Int) true true nd' nd' dp') (cs:=gx) (E:=E) (K:=an gJ) (fi:=hH) (np:=0) (k:=Rs.ok) (j:=0) rfl).trans (rM (hU 0) s (bq (c::a'++b):Nat) (s.length:Int) true true nd' nd' dp')
  have e9:decide ((s.length:Int)<s.length)=false:=decide_eq_false (by omega)
  have w9:IntKind.wrap .i64 (dp'-nd')= -(b.length:Int):=by rw[wrap64 (by omega) (by omega)];omega
  rw[e9,w9]at hfin
  refine Eq.trans hfin ?_
  cases hm:bq (c::a'++b)==0 with
  |true=>
   have hm:bq (c::a'++b)=0:=by simpa using hm
   rw[hm]
   rfl
  |false=>
   have:(((bq (c::a'++b):Nat):Int) !=0)=true:=by
    have hm:bq (c::a'++b)≠0:=by simpa using hm
    simp only[bne_iff_ne,ne_eq]
    omega
   rw[this]
   rfl
 refine Eq.trans ?_ hmid
 have:((((c::a')++[46]).length:Nat):Int)=(((c::a').length:Nat):Int)+1:=by simp
 rw[this]
 exact congrArg _ rfl
end Go.Sx.Tryz
namespace Go.Sx.Tryz
open Go Go.Sx Go.Proofs
set_option maxRecDepth 100000
variable{G:Nat→Obj→Prop}
abbrev GH:Ty:=.pair (.int .i64) (.pair (.int .i64) .unit)
abbrev BD:Ty:=.pair (.slice aB) (.pair (.int .i64) .unit)
abbrev om:Sig:=[(false,.slice aH),(true,GH)]
def km(x:ai bB):ai om:=bif (fk x.1).1==0 then((fk x.1).2.2,((0:Int),(0:Int),()),())else(([]:List Tok),((fk x.1).1,(fk x.1).2.1,()),())
theorem Gm(ht:fX G)(x:ai bB):SAD Tryz.prog G 17 bB om x (km x):=by
 obtain⟨T,⟨⟩⟩:=x
 have h:=Iu (G:=G) (tO ht) T
 show SA Tryz.prog G 17 [.str T] [] (.ret (cr om (km (T,()))),[])
 unfold km
 unfold zL at h
 show SA Tryz.prog G 17 [.str T] [] (.ret (cr om (bif (fk T).1==0 then((fk T).2.2,((0:Int),(0:Int),()),())else(([]:List Tok),((fk T).1,(fk T).2.1,()),()))),[])
 cases e:(fk T).1==0 with
 |true=>
  rw[e]at h
  exact SA.data (rs:=om) h (y:=((fk T).2.2,((0:Int),(0:Int),()),())) (m:=[0]) rfl
 |false=>
  rw[e]at h
  exact SA.data (rs:=om) h (y:=(([]:List Tok),((fk T).1,(fk T).2.1,()),())) (m:=[]) rfl
def qt:List (Nat×aQ):=[(17,bg 17 bB om (fun _=>true) km)]
def qu:List Cut:=[⟨[true,true,true,true],some ⟨[(2,[]),(3,[]),(5,[])],[[],[],[.keep,.sl aH,.keep,.keep,.own 52 aB,.keep]]⟩⟩]
end Go.Sx.Tryz
namespace Go.Sx.Tryz
open Go Go.Sx Go.Proofs
set_option maxRecDepth 100000
variable{G:Nat→Obj→Prop}
abbrev bS:Sig:=[(true,BD)]
def trC(L:List Nd)(r:Int):List AV:=[.sl aB L,.int .i64 r]
def lQ(x:Nd):Bool:=decide ((aa x).length≤17592186044416)&&decide ((aF x).length≤17592186044416)
def jw(x:ai bS):Bool:=decide (x.1.1.length≤20000)&&x.1.1.all lQ
def xr(x:ai bS):ai bS:=((x.1.1,x.1.2.1,()),())
def oG:List Cut:=[⟨[true,true,false,true,false,false],some ⟨[(2,[]),(3,[]),(10,[.sl aB]),(11,[]),(12,[])],[[],[.own 52 aB]]⟩⟩]
def Mm(L O:List Nd)(r l k:Int):St:={tmps:=[(2,.ref 0 0),(3,.ref 1 0),(10,.sl aB L),(11,.int .i64 l),(12,.int .i64 k)],blks:=[(0,.cells 28 [.nils,.int .i64 0]),(1,.cells 28 [.own 2 0,.int .i64 r]),(2,.list 52 aB 0 false O)],next:=3}
def NS:List (Nat×aQ):=[(67,bg 67 bS bS jw xr)]
end Go.Sx.Tryz
namespace Go.Sx.Tryz
open Go Go.Sx
set_option maxRecDepth 100000
theorem ER(J:Jump R0)(L:List Nd)(r:Int):start (R:=R0) E (an jd) pS oG J [.agg (trC L r)] [] .ok=J 0 {tmps:=[(2,AV.ref 0 0),(3,AV.ref 1 0),(10,AV.sl aB L),(11,Iz (↑(List.length L):Int)),(12,Iz 0)],blks:=[(0,Blk.cells 28 [AV.nils,Iz 0]),(1,Blk.cells 28 [AV.own 2 0,Iz r]),(2,Blk.list 52 aB 0 false [])],next:=3}:=by kernel_rfl
theorem CH(J:Jump R0)(L O:List Nd)(r l k:Int):resume (R:=R0) E (an jd) (aR 0 oG 0) J [true,true,false,true,false,false] pS.code 1 (Mm L O r l k) (bX E 0 pS.results .ok)=bif decide (k<l)then bif inI k (List.length L)then bif Nat.ble (List.length (aa (aj L (Int.toNat k)))) 17592186044416 then bif Nat.ble (List.length (aF (aj L (Int.toNat k)))) 17592186044416 then bif decide (List.length O+List.length [(mkN (ae (aj L (Int.toNat k))) (nAt (aj L (Int.toNat k))) (nTo (aj L (Int.toNat k))) (aa (aj L (Int.toNat k))) (aw (aj L (Int.toNat k))) (ax (aj L (Int.toNat k))) (aA (aj L (Int.toNat k))) (ak (aj L (Int.toNat k))) (ah (aj L (Int.toNat k))) (nN (aj L (Int.toNat k))) (nW1 (aj L (Int.toNat k))) (nW2 (aj L (Int.toNat k))) (aF (aj L (Int.toNat k))))]<ar)then J 0 {tmps:=[(2,AV.ref 0 0),(3,AV.ref 1 0),(10,AV.sl aB L),(11,Iz l),(12,Iz (IntKind.wrap IntKind.i64 (k+1)))],blks:=[(0,Blk.cells 28 [AV.nils,Iz 0]),(1,Blk.cells 28 [AV.own 2 0,Iz r]),(2,Blk.list 52 aB 0 false (O++[(mkN (ae (aj L (Int.toNat k))) (nAt (aj L (Int.toNat k))) (nTo (aj L (Int.toNat k))) (aa (aj L (Int.toNat k))) (aw (aj L (Int.toNat k))) (ax (aj L (Int.toNat k))) (aA (aj L (Int.toNat k))) (ak (aj L (Int.toNat k))) (ah (aj L (Int.toNat k))) (nN (aj L (Int.toNat k))) (nW1 (aj L (Int.toNat k))) (nW2 (aj L (Int.toNat k))) (aF (aj L (Int.toNat k))))]))],next:=3}else Rs.err 604 else Rs.err 1000066 else Rs.err 1000066 else Rs.err 400 else Rs.ok (Out.ret (AV.agg [AV.own 0 0,Iz r]),[Blk.list 52 aB 0 false O]):=by kernel_rfl
theorem J3(T:List UInt8)(K:List Tok)(a d:Int)(A:List Nd):body (R:=R0) E (an NS) Km [.ref 0 4] (mc T K a d A) .ok=bif jw ((A,(0:Int),()),())then Rs.ok (Out.ret (AV.agg [AV.sl aB A,Iz (IntKind.wrap IntKind.i64 ((↑(List.length A):Int)-1))]),[Blk.cells 85 [AV.str T,AV.sl aH K,Iz a,Iz d,AV.own 1 1,Iz 0],Blk.list 52 aB 1 true A])else Rs.err 3000067:=by kernel_rfl
theorem Gc(J:Jump R0)(T:List UInt8):start (R:=R0) E (an qt) jZ qu J [.str T] [] .ok=bif Prod.fst (Prod.fst (Prod.snd (km (T,())))) !=0 then Rs.ok (Out.ret (AV.tup [AV.agg [AV.nils,Iz 0],AV.agg [Iz (Prod.fst (Prod.fst (Prod.snd (km (T,()))))),Iz (Prod.fst (Prod.snd (Prod.fst (Prod.snd (km (T,()))))))]]),[])else J 0 {tmps:=[(2,AV.ref 0 0),(3,AV.ref 1 0),(5,AV.ref 2 0)],blks:=[(0,Blk.cells 28 [AV.nils,Iz 0]),(1,Blk.cells 35 [Iz (Prod.fst (Prod.fst (Prod.snd (km (T,()))))),Iz (Prod.fst (Prod.snd (Prod.fst (Prod.snd (km (T,()))))))]),(2,Blk.cells 85 [AV.str T,AV.sl aH (Prod.fst (km (T,()))),Iz 0,Iz 0,AV.own 3 0,Iz 0]),(3,Blk.list 52 aB 0 false [])],next:=4}:=by kernel_rfl
end Go.Sx.Tryz
namespace Go.Sx.Tryz
open Go Go.Sx Go.Proofs
set_option maxRecDepth 100000
variable{G:Nat→Obj→Prop}
theorem uv(pre:List Nd)(c:Nd)(r:List Nd):inI (pre.length:Int) (pre++c::r).length=true:=by
 simp only[inI,List.length_append,List.length_cons,Bool.and_eq_true,decide_eq_true_eq]
 omega
theorem uU(pre:List Nd)(c:Nd)(r:List Nd):aj (pre++c::r) pre.length=c:=by
 simp[aj,List.getD]
abbrev Mg(L:List Nd)(r:Int):R0:=(.ret (.agg [.own 0 0,.int .i64 r]),[.list 52 aB 0 false L])
theorem oA{L:List Nd}{r:Int}(hL:L.length≤20000)(hc:L.all lQ=true):∀(xs pre:List Nd) (fuel:Nat),L=pre++xs→xs.length<fuel→
  pieces (R:=R0) E (an jd) pS oG 0 .ok fuel 0 (Mm L pre r L.length pre.length)= .ok (Mg L r)
 |xs,pre,0,_,hf=>by omega
 |[],pre,fuel+1,hp,_=>by
  refine((aW rfl).trans (CH (pieces (R:=R0) E (an jd) pS oG 0 .ok fuel) L pre r L.length pre.length)).trans ?_
  have h1:¬((pre.length:Int)<L.length):=by rw[hp,List.append_nil];omega
  rw[List.append_nil]at hp
  simp only[h1,decide_false,cond_false]
  rw[←hp]
 |x::xs,pre,fuel+1,hp,hf=>by
  have ih:=oA (r:=r) hL hc xs (pre++[x]) fuel (by simp[hp]) (by simpa using hf)
  refine((aW rfl).trans (CH (pieces (R:=R0) E (an jd) pS oG 0 .ok fuel) L pre r L.length pre.length)).trans ?_
  have hlen:pre.length+1+xs.length=L.length:=by rw[hp];simp;omega
  have h1:(pre.length:Int)<L.length:=by omega
  have h2:inI (pre.length:Int) L.length=true:=by rw[hp];exact uv _ _ _
  have h3:aj L pre.length=x:=by rw[hp];exact uU _ _ _
  have h4:IntKind.wrap .i64 ((pre.length:Int)+1)=(pre.length:Int)+1:=wrap64 (by omega) (by omega)
  have h5:(((pre++[x]).length:Nat):Int)=(pre.length:Int)+1:=by simp
  have hx:=List.all_eq_true.1 hc x (by rw[hp];simp)
  simp only[lQ,Bool.and_eq_true,decide_eq_true_eq]at hx
  have h6:Nat.ble (aa x).length 17592186044416=true:=Nat.ble_eq_true_of_le hx.1
  have h7:Nat.ble (aF x).length 17592186044416=true:=Nat.ble_eq_true_of_le hx.2
  have hmr:ar=68719476736:=rfl
  rw[h5]at ih
  simp only[h1,h2,h3,h4,h6,h7,Int.toNat_natCast,decide_true,cond_true]
  refine Eq.trans (eL (by simp only[List.length_singleton];omega)) ?_
  exact(congrArg _ rfl).trans ih
theorem CW(x:ai bS)(h:jw x=true):SAD Tryz.prog G 67 bS bS x (xr x):=by
 obtain⟨⟨L,r,⟨⟩⟩,⟨⟩⟩:=x
 have h:(decide (List.length L≤20000)&&List.all L lQ)=true:=h
 simp only[Bool.and_eq_true,decide_eq_true_eq]at h
 have hs:start (R:=R0) E (an jd) pS oG (pieces (R:=R0) E (an jd) pS oG 0 .ok (List.length L+1)) [.agg (trC L r)] [] .ok= .ok (Mg L r):=
  (ER _ L r).trans ((congrArg _ rfl).trans (oA h.1 h.2 L [] (List.length L+1) rfl (by omega)))
 exact SA.data (rs:=bS) (bh (aS []) (aE iX) Mw (.inl cb) hs) (y:=xr ((L,r,()),())) (m:=[0]) rfl
def bsT(T:List UInt8)(K:List Tok)(a d:Int)(A:List Nd):List Blk:=[.cells 85 [.str T,.sl aH K,.int .i64 a,.int .i64 d,.own 1 1,.int .i64 0],.list 52 aB 1 true A]
theorem zD(T:List UInt8)(K:List Tok)(a d:Int)(A:List Nd)(h:jw ((A,(0:Int),()),())=true):SA Tryz.prog G 32 [.ref 0 4] (mc T K a d A) (.ret (.agg [.sl aB A,.int .i64 (IntKind.wrap .i64 ((A.length:Int)-1))]),bsT T K a d A):=by
 have e:=J3 T K a d A
 rw[h]at e
 exact bb (aS []) (aE (.cons (aD fun x h=>CW x h) .nil)) H0 e
end Go.Sx.Tryz
namespace Go.Sx
open Go
def gv:List Bool→Code→Code
 |[],c=>c
 |d::r,c=>match c with
  | .seq a b=>(match d with|false=>gv r a|true=>gv r b)
  | .cond _ a b=>(match d with|false=>gv r a|true=>gv r b)
  | .block _ c=>gv r c
  | .loop c=>gv r c
  | .scope c=>gv r c
  |c=>c
def qW:Ex→St→Rs St:=fun ex st=>match ex with
 | .normal=>.ok st
 |_=>.err 0
end Go.Sx
namespace Go.Sx.Tryz
open Go Go.Sx Go.Proofs
open Go.RowKit
set_option maxRecDepth 100000
def Bl:Code:=gv [true,true,false,true,true] JH.code
def xB(x y c p:Int):St:=⟨[(0,.ref 0 0),(1,.ref 1 0),(3,.ref 2 0)],[(0,.cells 28 [.nils,.int .i64 0]),(1,.cells 35 [.int .i64 x,.int .i64 y]),(2,.cells 35 [.int .i64 c,.int .i64 p])],3⟩
end Go.Sx.Tryz
namespace Go.Sx.Tryz
open Go Go.Sx Go.Proofs
open Go.RowKit
set_option maxRecDepth 100000
theorem lB{C:Ctx}{c p:Int}{vs:List Value}(h:au C [.int .i64 c,.int .i64 p] vs):vs=[.int .i64 c,.int .i64 p]:=by
 obtain⟨v,r,rfl,h1,v2,r2,rfl,h2,h3⟩:=h
 simp only[ay]at h1 h2
 simp only[au]at h3
 rw[h1,h2,h3]
theorem uL{C:Ctx}{vs:List Value}(h:au C [.nils,.int .i64 0] vs):vs=[.slice none 0 0,.int .i64 0]:=by
 obtain⟨v,r,rfl,h1,v2,r2,rfl,h2,h3⟩:=h
 simp only[ay]at h1 h2
 simp only[au]at h3
 rw[h1,h2,h3]
theorem ev25(x y c p:Int):ev (R:=St) E (an []) b6 bY Bl 1 (xB x y c p) qW=Rs.ok {tmps:=[(17,AV.agg [AV.int IntKind.i64 c,AV.int IntKind.i64 p]),(16,AV.agg [AV.nils,AV.int IntKind.i64 0]),(0,AV.ref 0 0),(1,AV.ref 1 0),(3,AV.ref 2 0)],blks:=[(1,Blk.cells 35 [AV.int IntKind.i64 c,AV.int IntKind.i64 p]),(0,Blk.cells 28 [AV.nils,AV.int IntKind.i64 0]),(0,Blk.cells 28 [AV.nils,AV.int IntKind.i64 0]),(1,Blk.cells 35 [AV.int IntKind.i64 x,AV.int IntKind.i64 y]),(2,Blk.cells 35 [AV.int IntKind.i64 c,AV.int IntKind.i64 p])],next:=67}:=by kernel_rfl
def phi3(r0 r1 r3:Nat):Nat→Go.Sx.G:=fun|0=>.cells r0|1=>.cells r1|_=>.cells r3
theorem Da{r0 r1 r3:Nat}{x y c p:Int}{w:World}{a:Act}{Q:Exit→Act→World→Prop}(h0:w.heap[r0]? =some (.cells #[.slice none 0 0,.int .i64 0] 28 (0,0)))(h1:w.heap[r1]? =some (.cells #[.int .i64 x,.int .i64 y] 35 (0,0)))
  (h3:w.heap[r3]? =some (.cells #[.int .i64 c,.int .i64 p] 35 (0,0))) (n01:r0≠r1) (n03:r0≠r3) (n13:r1≠r3)
  (e0:a.eval (.tmp 0)= .pointer (some ⟨r0,0,none⟩)) (e1:a.eval (.tmp 1)= .pointer (some ⟨r1,0,none⟩)) (e3:a.eval (.tmp 3)= .pointer (some ⟨r3,0,none⟩)) (hsz:a.tmps.size=18) (hd:a.defers=[])
  (hQ:∀(a':Act) (w':World),a'.defers=[]→a'.tmps.size=18→w'.heap[r0]? =some (.cells #[.slice none 0 0,.int .i64 0] 28 (0,0))→w'.heap[r1]? =some (.cells #[.int .i64 c,.int .i64 p] 35 (0,0))→
   w.heap.size≤w'.heap.size→(∀k,k<w.heap.size→k≠r0→k≠r1→k≠r3→w'.heap[k]? =w.heap[k]?)→w'.os=w.os→w'.tape=w.tape→w'.output=w.output→Q .normal a' w'):Bl.wp Tryz.prog Q a w:=by
 let C:Ctx:=⟨w,aC (xB x y c p).blks,phi3 r0 r1 r3,fun _ _=>False,fun _ _=>False⟩
 have hlies:∀(id:Nat) (b:Blk) (k:Nat),C.m id=some b→cH (C.φ id) k→(id=0∧k=r0)∨(id=1∧k=r1)∨(id=2∧k=r3):=fun id b k hb hk=>by
  match id,hb,hk with
  |0,_,hk=>exact .inl ⟨rfl,hk⟩
  |1,_,hk=>exact .inr (.inl ⟨rfl,hk⟩)
  |2,_,hk=>exact .inr (.inr ⟨rfl,hk⟩)
  |_+3,hb,_=>cases hb
 have hs:SRel C:={
  ok:=fun id b hb=>by
   match id,hb with
   |0,hb=>cases hb;exact⟨r0,_,rfl,h0,⟨_,_,rfl,rfl,_,_,rfl,rfl,rfl⟩,rfl⟩
   |1,hb=>cases hb;exact⟨r1,_,rfl,h1,⟨_,_,rfl,rfl,_,_,rfl,rfl,rfl⟩,rfl⟩
   |2,hb=>cases hb;exact⟨r3,_,rfl,h3,⟨_,_,rfl,rfl,_,_,rfl,rfl,rfl⟩,rfl⟩
   |_+3,hb=>cases hb
  apart:=fun id b id' b' k hb hb' hne hk hk'=>by
   rcases hlies id b k hb hk with⟨i1,k1⟩|⟨i1,k1⟩|⟨i1,k1⟩<;>rcases hlies id' b' k hb' hk' with⟨i2,k2⟩|⟨i2,k2⟩|⟨i2,k2⟩<;>omega
  frApart:=fun k o h=>h.elim
  frOld:=fun k o h=>h.elim
  gl:=fun k o h=>h.elim}
 have ht:lH C (look (xB x y c p).tmps) a:=fun z=>by
  cases z with
  |tmp t=>
   by_cases t0:t=0
   ·subst t0;rw[e0];exact⟨r0,_,_,rfl,rfl,rfl⟩
   ·by_cases t1:t=1
    ·subst t1;rw[e1];exact⟨r1,_,_,rfl,rfl,rfl⟩
    ·by_cases t3:t=3
     ·subst t3;rw[e3];exact⟨r3,_,_,rfl,rfl,rfl⟩
     ·have:look (xB x y c p).tmps t= .undef:=by
       have b0:Nat.beq 0 t=false:=by cases h:Nat.beq 0 t with|false=>rfl|true=>exact absurd (beq_eq h).symm t0
       have b1:Nat.beq 1 t=false:=by cases h:Nat.beq 1 t with|false=>rfl|true=>exact absurd (beq_eq h).symm t1
       have b3:Nat.beq 3 t=false:=by cases h:Nat.beq 3 t with|false=>rfl|true=>exact absurd (beq_eq h).symm t3
       simp only[xB,look,b0,b1,b3]
      simp only[al,this]
      trivial
  |const k=>exact fm k
  |global g=>exact trivial
  |func f=>exact⟨#[],rfl,rfl⟩
 refine ga (E:=E) (K:=an []) (aS []) (aE .nil) (D:=C) (G:=fun _ _=>False) (N:=18) (ds:=[]) (cuts:=b6) (J:=bY) rfl yY Bl 1 Q qW (xB x y c p) C a (by kernel_rfl) (vt _ _ _ fun d r c' Q' hp=>fun j f hc=>by cases hc) ?_ (ev25 x y c p) ⟨⟨rfl,hs,ht⟩,fun k hk=>?_,hsz,hd⟩ (Ext.refl C)
 ·refine{normal:=fun st C' a' hk hr hX=>?_,exit:=fun id st C' a' hk=>by simp[qW]at hk,ret:=fun st C' a' hk=>by simp[qW]at hk,panic:=fun v st a' w' ch hk=>by simp[qW]at hk}
  simp only[qW,Rs.ok.injEq]at hk
  subst hk
  have hm:=hr.r.m
  have hs':=hr.r.s
  obtain⟨k0,_⟩:=hX.cells 0 28 _ rfl
  obtain⟨k1,_⟩:=hX.cells 1 35 _ rfl
  obtain⟨rb,cs,g1,g2,g3,_⟩:=hs'.ok 0 (.cells 28 [.nils,.int .i64 0]) (by rw[hm];rfl)
  obtain⟨rb',cs',g1',g2',g3',_⟩:=hs'.ok 1 (.cells 35 [.int .i64 c,.int .i64 p]) (by rw[hm];rfl)
  rw[k0]at g1
  rw[k1]at g1'
  cases g1
  cases g1'
  refine hQ a' C'.w hr.defers hr.size ?_ ?_ hX.size (fun k hk n0 n1 n3=>hX.old k hk ?_) hX.os hX.tape hX.output
  ·rw[g2,show cs= #[.slice none 0 0,.int .i64 0]from by have:=uL g3;rw[←Array.toList_inj];exact this]
  ·rw[g2',show cs'= #[.int .i64 c,.int .i64 p]from by have:=lB g3';rw[←Array.toList_inj];exact this]
  ·rintro ⟨id,b,hb,hk'⟩
   rcases hlies id b k hb hk' with⟨_,h⟩|⟨_,h⟩|⟨_,h⟩
   ·exact n0 h
   ·exact n1 h
   ·exact n3 h
 ·show aC (xB x y c p).blks k=none
  have:3≤k:=hk
  match k,this with
  |_+3,_=>rfl
end Go.Sx.Tryz
