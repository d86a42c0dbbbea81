/- A part of the proof: see the row's text. -/
import Derived.Test.YtaklpoiaicepoaaGreatDoorZa28
import Derived.Test.YtaklpoiaicepoaaGreatDoorZa25
import Derived.Test.YtaklpoiaicepoaaGreatDoorZa26
import Derived.Test.YtaklpoiaicepoaaGreatDoorZa08
set_option linter.unusedVariables false
set_option linter.unusedSimpArgs false
noncomputable section
namespace Go.Sx.Tryz
open Go Go.Sx
set_option maxRecDepth 100000
theorem ET{p:Int→Bool}:∀(s y:List UInt8),ax p s=s.length→ax p (s++y)=s.length+ax p y
 |[],y,_=>by simp
 |c::s,y,h=>by
  show ax p (c::(s++y))=_
  rw[bS]at h⊢
  cases hp:p c.toNat with
  |false=>rw[hp]at h;simp at h
  |true=>
   rw[hp]at h
   simp only[cond_true,List.length_cons]at h⊢
   rw[ET s y (by omega)]
   omega
theorem GS{s:List UInt8}(h:Lib.hasPrefix s [47,47]=true):1≤ax nl s:=by
 obtain⟨r',e⟩:=rO h
 rw[e,bS]
 have e2:nl (((47:UInt8).toNat:Nat):Int)=true:=by decide
 rw[e2]
 simp
theorem Pn{s:List UInt8}(h:Lib.hasPrefix s [47,47]=true):s≠[]:=by
 obtain⟨r',e⟩:=rO h
 rw[e]
 simp
theorem wP:∀(n m:Nat) (s:List UInt8),s.length<n→s.length<m→jm n s=jm m s
 |0,_,_,h,_=>absurd h (by omega)
 |_+1,0,_,_,h=>absurd h (by omega)
 |n+1,m+1,s,h1,h2=>by
  rw[cn,cn]
  cases hc:Lib.hasPrefix (s.drop (ax aG s)) [47,47]with
  |false=>rfl
  |true=>
   simp only[cond_true]
   have:=GS hc
   have h3:1≤s.length:=by
    cases s with
    |nil=>exact absurd (List.drop_nil) (Pn hc)
    |cons _ _=>simp
   rw[wP n m _ (by rw[List.length_drop];omega) (by rw[List.length_drop];omega)]
theorem O7(s r:List UInt8)(h:s≠[]):Lib.hasPrefix (s++10::r) [47,47]=Lib.hasPrefix s [47,47]:=by
 match s,h with
 |[c],_=>simp[Lib.hasPrefix,List.isPrefixOf]
 |c::d::s,_=>simp[Lib.hasPrefix,List.isPrefixOf]
theorem AX(r:List UInt8):∀(n m:Nat) (s:List UInt8),s.length<n→s.length+r.length+1<m→jm m (s++10::r)=if jm n s<s.length then jm n s else s.length+1+cz r
 |0,_,_,h,_=>absurd h (by omega)
 |_+1,0,_,_,h=>absurd h (by omega)
 |n+1,m+1,s,h1,h2=>by
  have hb:=ou aG s
  have e10:aG (((10:UInt8).toNat:Nat):Int)=true:=by decide
  have n10:nl (((10:UInt8).toNat:Nat):Int)=false:=by decide
  by_cases hl:ax aG s<s.length
  ·have hr:ax aG (s++10::r)=ax aG s:=by
    have:=px s [] (10::r) (p:=aG) (by rw[List.append_nil];exact hl)
    rw[List.append_nil]at this
    exact this
   have hd:(s++10::r).drop (ax aG s)=s.drop (ax aG s)++10::r:=List.drop_append_of_le_length hb
   have hne:s.drop (ax aG s)≠[]:=by
    intro h
    have:=congrArg List.length h
    rw[List.length_drop]at this
    simp at this
    omega
   rw[cn,cn,hr,hd,O7 _ _ hne]
   cases hc:Lib.hasPrefix (s.drop (ax aG s)) [47,47]with
   |false=>
    simp only[cond_false]
    rw[if_pos hl]
   |true=>
    simp only[cond_true]
    have h3:=GS hc
    have h4:=ou nl (s.drop (ax aG s))
    rw[List.length_drop]at h4
    rw[nS n10]
    generalize ax nl (s.drop (ax aG s))=c at h3 h4
    rw[List.drop_append_of_le_length (by omega),AX r n m (s.drop (ax aG s+c)) (by rw[List.length_drop];omega) (by rw[List.length_drop];omega)]
    have hdl:(s.drop (ax aG s+c)).length=s.length-(ax aG s+c):=List.length_drop
    rw[hdl]
    by_cases h5:jm n (s.drop (ax aG s+c))<s.length-(ax aG s+c)
    ·rw[if_pos h5,if_pos (by omega)]
    ·rw[if_neg h5,if_neg (by omega)]
     omega
  ·have hbe:ax aG s=s.length:=by omega
   have hr:ax aG (s++10::r)=s.length+(ax aG r+1):=by
    rw[ET s _ hbe,bS,e10]
    rfl
   have hS:jm (n+1) s=s.length:=by
    rw[cn,hbe,List.drop_length]
    rfl
   have hd:∀i,(s++10::r).drop (s.length+(i+1))=r.drop i:=fun i=>by
    rw[←List.drop_drop,List.drop_left]
    rfl
   have hg:cz r=jm (m+1) r:=wP _ _ _ (by omega) (by omega)
   rw[hS,if_neg (by omega),hg,cn,cn,hr,hd]
   cases hc:Lib.hasPrefix (r.drop (ax aG r)) [47,47]with
   |false=>
    simp only[cond_false]
    omega
   |true=>
    simp only[cond_true]
    rw[show s.length+(ax aG r+1)+ax nl (r.drop (ax aG r))=s.length+(ax aG r+ax nl (r.drop (ax aG r))+1) by omega,hd]
    omega
theorem D5(s r:List UInt8):cz (s++10::r)=if cz s<s.length then cz s else s.length+1+cz r:=
 AX r (s.length+1) ((s++10::r).length+1) s (by omega) (by rw[List.length_append,List.length_cons];omega)
theorem KE{B:List UInt8}{tb:List Tk}(hB:Lx (B.drop (cz B)) tb){s:List UInt8}{ta:List Tk}(h:Lx s ta):s≠[]→Lx (s++10::B) (ta++tb):=by
 induction h with
 |nil=>intro h;exact absurd rfl h
 | @cons w r k ts h hw ht ih=>
  intro _
  rw[List.append_assoc]
  refine Lx.cons (LZ h hw (by decide) B) hw ?_
  rw[D5]
  by_cases hg:cz r<r.length
  ·rw[if_pos hg,List.drop_append_of_le_length (by omega)]
   refine ih ?_
   intro he
   have:=congrArg List.length he
   rw[List.length_drop]at this
   simp at this
   omega
  ·rw[if_neg hg]
   have hle:cz r≤r.length:=rQ _ _
   have he:r.drop (cz r)=[]:=List.drop_eq_nil_of_le (by omega)
   have hd:(r++10::B).drop (r.length+1+cz B)=B.drop (cz B):=by
    rw[Nat.add_assoc,←List.drop_drop,List.drop_left,Nat.add_comm]
    rfl
   rw[hd]
   have hts:ts=[]:=by
    rw[he]at ht
    generalize hz:([]:List UInt8)=z at ht
    cases ht with
    |nil=>rfl
    |cons h1 h2 h3=>
     exfalso
     have:=congrArg List.length hz
     rw[List.length_append]at this
     simp at this
     omega
   rw[hts]
   exact hB
end Go.Sx.Tryz
namespace Go.Sx.Tryz
open Go Go.Sx
set_option maxRecDepth 100000
def RM(x y:Nd×List Tn):Prop:=Rn x.1 y.1∧EtL x.2 y.2
def RW(x y:(Nd×List Tn)×Bool):Prop:=RM x.1 y.1∧x.2=y.2
theorem dP{k:Int}{w w':Str}(e:w=w'):Rn (nod k [] w) (nod k [] w'):=⟨rfl,e,rfl,rfl,rfl,rfl,rfl⟩
theorem gu{k n n':Int}{w w':Str}(e:n=n')(e':w=w'):Rn (dA k n w) (dA k n' w'):=⟨rfl,e',rfl,rfl,rfl,rfl,e⟩
theorem yp{x y:Nd}(h:Rn x y)(k:Int){w w':Str}(e:w=w'):Rn (bQ x k [] w) (bQ y k [] w'):=⟨rfl,e,h.b,h.nm,h.d,h.m,h.n⟩
theorem TN{x y:Nd}{ks ls:List Tn}(h:Rn x y)(h':EtL ks ls):Et (.mk x ks) (.mk y ls):=by
 unfold Et
 exact⟨h,h'⟩
theorem EtL.two{a b c d:Tn}(h:Et a c)(h':Et b d):EtL [a,b] [c,d]:=.cons h (.one h')
section
variable{T T':List UInt8}{K K':List Tok}{p p':Kt}
end
end Go.Sx.Tryz
namespace Go.Sx.Tryz
open Go Go.Sx
set_option maxRecDepth 100000
class Rf {α:Type} (R:α→α→Prop):Prop where
 rf:∀y,R y y
theorem Rn.rfl'(x:Nd):Rn x x:=⟨rfl,rfl,rfl,rfl,rfl,rfl,rfl⟩
mutual
theorem Et.rfl':∀t:Tn,Et t t
 | .mk x ks=>by
  unfold Et
  exact⟨Rn.rfl' x,EtL.rfl' ks⟩
theorem EtL.rfl':∀l:List Tn,EtL l l
 |[]=>.nil
 |t::ts=>.cons (Et.rfl' t) (EtL.rfl' ts)
end
def Re{α:Type}:α→α→Prop:=fun x y=>x=y
def Ru{α:Type}:α→α→Prop:=fun _ _=>True
instance rf1{α:Type}:Rf (Re (α:=α)):=⟨fun _=>rfl⟩
instance rf2{α:Type}:Rf (Ru (α:=α)):=⟨fun _=>trivial⟩
instance rf3:Rf Rn:=⟨Rn.rfl'⟩
instance rf4:Rf Et:=⟨Et.rfl'⟩
instance rf5:Rf EtL:=⟨EtL.rfl'⟩
instance rf6:Rf Rq:=⟨fun _=>⟨rfl,rfl⟩⟩
instance rf7:Rf RM:=⟨fun _=>⟨Rn.rfl' _,EtL.rfl' _⟩⟩
instance rf8:Rf RW:=⟨fun _=>⟨⟨Rn.rfl' _,EtL.rfl' _⟩,rfl⟩⟩
section
variable{s L:Int}{N:Nat}
variable{T T':List UInt8}{K K':List Tok}
end
end Go.Sx.Tryz
namespace Go.Sx.Tryz
open Go Go.Sx
set_option maxRecDepth 100000
section
variable{s L:Int}{N:Nat}{T T':List UInt8}{K K':List Tok}{p p':Kt}
end
end Go.Sx.Tryz
namespace Go.Sx.Tryz
open Go Go.Sx
set_option maxRecDepth 100000
section
variable{s L:Int}{N:Nat}{T T':List UInt8}{K K':List Tok}{p p':Kt}
end
end Go.Sx.Tryz
namespace Go.Sx.Tryz
open Go Go.Sx
set_option maxRecDepth 100000
section
variable{s L:Int}{N:Nat}{T T':List UInt8}{K K':List Tok}{p p':Kt}
end
end Go.Sx.Tryz
namespace Go.Sx.Tryz
open Go Go.Sx
set_option maxRecDepth 100000
theorem Dk(T:List UInt8):∀(n:Nat) (a:Int) (k:Nat),0≤a→a≤T.length→(T.length:Int)-a<n→(gp n T a k).1=0→
  ∃L,(gp n T a k).2.2=L++[tkn 0 T.length T.length]∧Lx (aA T a) (bH T L)∧(L.length:Int)≤T.length-a
 |0,a,k,h0,h1,hn,h=>by omega
 |n+1,a,k,h0,h1,hn,h=>by
  unfold gp at h⊢
  cases hlt:decide (a<(T.length:Int))with
  |false=>
   have:=of_decide_eq_false hlt
   refine⟨[],rfl,?_,by show(0:Int)≤_;omega⟩
   have hr:aA T a=[]:=by
    unfold aA
    exact List.drop_eq_nil_of_le (by omega)
   rw[hr]
   exact Lx.nil
  |true=>
   rw[hlt]at h
   have hlt:=of_decide_eq_true hlt
   simp only[cond_true]at h⊢
   cases h16:decide ((k:Int)≥16384)with
   |true=>rw[h16]at h;simp at h
   |false=>
    rw[h16]at h
    simp only[cond_false]at h⊢
    cases he:fM T a !=0 with
    |true=>
     rw[he]at h
     simp only[cond_true]at h
     rw[h]at he
     exact absurd he (by decide)
    |false=>
     rw[he]at h
     simp only[cond_false]at h⊢
     have he0:fM T a=0:=by simpa [bne]using he
     obtain⟨o1,o2⟩:=oK h0 hlt
     have o3:=o2 he0
     obtain⟨g1,g2⟩:=dI (T:=T) (a:=aL T a) (by omega) o1
     obtain⟨L,e1,e2,e4⟩:=Dk T n (cQ T (aL T a)) (k+1) (by omega) g2 (by omega) h
     have hl:=gY h0 (Int.le_of_lt hlt)
     have hn':(ed (aA T a)).2.2≤(aA T a).length:=by
      unfold aL at o1
      omega
     have hsay:say T (tkn (gx T a) a (aL T a))=(aA T a).take (ed (aA T a)).2.2:=by
      show List.drop a.toNat (List.take (aL T a).toNat T)=(T.drop a.toNat).take _
      rw[List.drop_take]
      congr 1
      unfold aL
      omega
     have hsl:(say T (tkn (gx T a) a (aL T a))).length=(ed (aA T a)).2.2:=by
      rw[hsay,List.length_take]
      omega
     have hsp:aA T a=say T (tkn (gx T a) a (aL T a))++aA T (aL T a):=by
      have:aA T (aL T a)=(aA T a).drop (ed (aA T a)).2.2:=by
       unfold aA
       rw[List.drop_drop]
       congr 1
       unfold aL aA
       omega
      rw[this,hsay,List.take_append_drop]
     refine⟨tkn (gx T a) a (aL T a)::L,by rw[e1];rfl,?_,?_⟩
     ·rw[hsp]
      show Lx _ ((gx T a,say T (tkn (gx T a) a (aL T a)))::bH T L)
      refine Lx.cons ?_ ?_ ?_
      ·rw[←hsp,hsl]
       unfold fM at he0
       exact Prod.ext rfl (Prod.ext he0 rfl)
      ·rw[hsl]
       unfold aL at o3
       omega
      ·have hg:aA T (cQ T (aL T a))=(aA T (aL T a)).drop (cz (aA T (aL T a))):=by
        conv=>lhs;unfold aA cQ
        conv=>rhs;unfold aA
        rw[List.drop_drop]
        congr 1
        unfold aA
        omega
       rw[←hg]
       exact e2
     ·rw[List.length_cons]
      unfold aL at g1 e4
      unfold aL at o3
      omega
theorem QC{T:List UInt8}(h:de T=0):∃L,bL T=L++[tkn 0 T.length T.length]∧Lx (T.drop (cz T)) (bH T L)∧L.length≤T.length:=by
 obtain⟨hT,_⟩:=k9 h
 rw[oH h]
 rw[lE]at h
 unfold fD at h⊢
 rw[show decide ((T.length:Int)>65536)=false from decide_eq_false (by omega)]at h⊢
 obtain⟨g1,g2⟩:=dI (T:=T) (a:=0) (by omega) (by omega)
 obtain⟨L,e1,e2,e4⟩:=Dk T (T.length+1) (cQ T 0) 0 (by omega) g2 (by omega) h
 refine⟨L,e1,?_,by omega⟩
 have hg:aA T (cQ T 0)=T.drop (cz T):=by
  unfold aA cQ
  unfold aA
  show List.drop (Int.toNat (0+((cz (List.drop 0 T):Nat):Int))) T=_
  rw[List.drop_zero]
  congr 1
  omega
 rw[←hg]
 exact e2
end Go.Sx.Tryz
namespace Go.Sx.Tryz
open Go Go.Sx Go.Proofs
set_option maxRecDepth 100000
end Go.Sx.Tryz
namespace Go.Sx.Tryz
open Go Go.Sx Go.Proofs
set_option maxRecDepth 100000
variable{G:Nat→Obj→Prop}
def mk5(T:List UInt8)(g:List Int)(K:List Tok)(o:List Int)(l i:Int):St:={tmps:=[(0,.str T),(1,.sl (.int .i64) g),(7,.ref 0 0),(32,.sl aK K),(33,.int .i64 l),(34,.int .i64 i)],blks:=[(0,.cells 48 [.bself 0,.own 1 0]),(1,.list 5 (.int .u8) 0 false o)],next:=2}
end Go.Sx.Tryz
namespace Go.Sx.Tryz
open Go Go.Sx
set_option maxRecDepth 100000
def Fp{α:Type}(m:Pm α):Prop:=∀a d A,match m a d A with
 | .fault c _=>c≠0
 |_=>True
def Fz{α:Type}(m:Tm α):Prop:=∀a d n,match m a d n with
 | .fault c _=>c≠0
 |_=>True
theorem Fp.bind{α β:Type}{m:Pm α}{k:α→Pm β}(h:Fp m)(hk:∀y,Fp (k y)):Fp (m.bind k):=fun a d A=>by
 have:=h a d A
 unfold Pm.bind
 cases e:m a d A with
 |ok y a' d' A'=>exact hk y a' d' A'
 |fault c p=>rw[e]at this;exact this
 |bad=>trivial
theorem Fz.bind{α β:Type}{m:Tm α}{k:α→Tm β}(h:Fz m)(hk:∀y,Fz (k y)):Fz (m.bind k):=fun a d n=>by
 have:=h a d n
 unfold Tm.bind
 cases e:m a d n with
 |ok y a' d' n'=>exact hk y a' d' n'
 |fault c p=>rw[e]at this;exact this
 |bad=>trivial
theorem Fp.ret{α:Type}{y:α}:Fp (.ret y:Pm α):=fun _ _ _=>trivial
theorem Fz.ret{α:Type}{y:α}:Fz (.ret y:Tm α):=fun _ _ _=>trivial
theorem Fp.flt{α:Type}{c p:Int}(h:c≠0):Fp (.flt c p:Pm α):=fun _ _ _=>h
theorem Fz.flt{α:Type}{c p:Int}(h:c≠0):Fz (.flt c p:Tm α):=fun _ _ _=>h
theorem Fp.bad{α:Type}:Fp (.bad:Pm α):=fun _ _ _=>trivial
theorem Fz.bad{α:Type}:Fz (.bad:Tm α):=fun _ _ _=>trivial
theorem Fp.bif{α:Type}{c:Bool}{m m':Pm α}(h:Fp m)(h':Fp m'):Fp (bif c then m else m'):=by cases c<;>assumption
theorem Fz.bif{α:Type}{c:Bool}{m m':Tm α}(h:Fz m)(h':Fz m'):Fz (bif c then m else m'):=by cases c<;>assumption
theorem Fp.l{α:Type}{m:Pm α}(h:Fp m):Fz (lft m):=fun a d n=>by
 have:=h a d []
 unfold lft
 cases e:m a d []with
 |ok y a' d' A'=>trivial
 |fault c p=>rw[e]at this;exact this
 |bad=>trivial
section
variable{T:List UInt8}{K:List Tok}{p:Kt}
theorem n80:(80:Int)≠0:=by decide
theorem n2:(2:Int)≠0:=by decide
theorem n5:(5:Int)≠0:=by decide
theorem dc:Fp (bc T K):=fun _ _ _=>trivial
theorem rM{n:Int}:Fp (cO T K n):=fun a d A=>by
 unfold cO
 cases decide (a+n≥(K.length:Int))<;>trivial
theorem cj:Fp (aJ K):=fun a d A=>by
 unfold aJ
 cases ak (aa K a) !=0<;>trivial
theorem uJ{s:Str}:Fp (cIs T K s):=dc.bind fun _=>.ret
theorem fH{s:Str}:Fp (bp T K s):=uJ.bind fun _=>.bif (cj.bind fun _=>.ret) .ret
theorem bT{s:Str}:Fp (aE T K s):=uJ.bind fun _=>.bif cj (dc.bind fun _=>.flt n80)
theorem qd:Fp (cY T K):=dc.bind fun _=>.bif (cj.bind fun _=>.ret) (.flt n80)
theorem BJ:Fp (dq K):=fun a d A=>by
 unfold dq
 cases decide (d+1>60)
 ·trivial
 ·show(6:Int)≠0
  decide
theorem IT:Fp mV:=fun _ _ _=>trivial
theorem Dr{n:Int}:Fp (fF K n):=fun a d A=>by
 unfold fF
 cases decide (n>64)
 ·trivial
 ·exact n2
theorem De{l:Nat}:Fp (comma T K l):=.bif (bT.bind fun _=>.ret) .ret
theorem CM:Fp (dr T K):=rM.bind fun _=>.bif .ret (.bif (rM.bind fun _=>rM.bind fun _=>.ret) .ret)
theorem OL:Fp (jD T K):=dc.bind fun _=>.bif (.bif (cj.bind fun _=>.ret) (.bif (cj.bind fun _=>.ret) (.bif (cj.bind fun _=>.ret) (.bif (cj.bind fun _=>.ret) (.bif (cj.bind fun _=>.ret) (.flt n80)))))) (.flt n80)
theorem r8:∀(n:Nat) (x:Nd),Fp (cP T K n x)
 |0,_=>.bad
 |n+1,x=>dc.bind fun _=>uJ.bind fun _=>.bif (.bif (.flt (by decide)) (cj.bind fun _=>r8 n _)) (rM.bind fun _=>uJ.bind fun _=>.bif (.bif (.flt n2) (cj.bind fun _=>cj.bind fun _=>r8 n _)) .ret)
theorem yj:Fp (dB T K):=OL.bind fun _=>r8 _ _
theorem rX{v:Bool}:Fp (cC T K v):=dc.bind fun _=>.bif (cj.bind fun _=>bT.bind fun _=>yj.bind fun _=>bT.bind fun _=>.bif (.flt n5) .ret) (.bif (cj.bind fun _=>.ret) yj)
theorem df{x:Nd}{f:Int}{ks:List Tn}:Fz (bK K x f ks):=fun a d n=>by
 unfold bK
 cases decide ((n:Int)≥8192)
 ·trivial
 ·exact n2
structure ZK(p:Kt):Prop where
 val:Fz p.val
 blk:Fz p.blk
 un:Fz p.un
theorem gy(h:ZK p):Fz (cF T K p):=bT.l.bind fun _=>h.val.bind fun _=>bT.l.bind fun _=>.ret
theorem DN(h:ZK p):∀(n:Nat) (L:List Tn),Fz (fW T K p n L)
 |0,_=>.bad
 |n+1,L=>fH.l.bind fun _=>.bif .ret (De.l.bind fun _=>Dr.l.bind fun _=>h.val.bind fun _=>DN h n _)
theorem Ch(h:ZK p):Fz (oe T K p):=bT.l.bind fun _=>DN h _ _
theorem oO{x:Nd}{e:Int}:Fz (gq T K x e):=dc.l.bind fun _=>by
 cases he:e !=0
 ·exact cj.l.bind fun _=>df
 ·exact .flt (by simpa [bne]using he)
theorem Qg(h:ZK p):Fz (ur T K p):=yj.l.bind fun _=>uJ.l.bind fun _=>.bif (.bif (.flt n5) ((Ch h).bind fun _=>.ret)) (bT.l.bind fun _=>h.val.bind fun _=>bT.l.bind fun _=>.ret)
theorem P1(h:ZK p)(t:Tok)(s:Str):Fz (nM T K p t s):=.bif oO (.bif oO (.bif oO (.bif oO (.bif oO (.bif (cj.l.bind fun _=>bT.l.bind fun _=>bT.l.bind fun _=>df) (.bif (cj.l.bind fun _=>(gy h).bind fun _=>df)
 (.bif (cj.l.bind fun _=>bT.l.bind fun _=>rX.l.bind fun _=>bT.l.bind fun _=>(gy h).bind fun _=>df) (.bif (cj.l.bind fun _=>(Qg h).bind fun _=>df) (.flt n80)))))))))
theorem Fo(h:ZK p):Fz (cm T K p):=dc.l.bind fun _=>.bif oO (.bif oO (.bif oO (.bif (.bif (gy h) (.flt n80)) (.bif (.bif oO (P1 h _ _)) (.flt n80)))))
theorem QU(h:ZK p)(x:Tn)(f:Int):Fz (qK T K p x f):=fH.l.bind fun _=>.bif df (fH.l.bind fun _=>.bif df (qd.l.bind fun _=>uJ.l.bind fun _=>.bif ((Ch h).bind fun _=>df) df))
theorem lV(h:ZK p)(f:Int):∀(n:Nat) (x:Tn),Fz (aV T K p f n x)
 |0,_=>.bad
 |n+1,x=>fH.l.bind fun _=>.bif (df.bind fun _=>lV h f n _) (fH.l.bind fun _=>.bif (h.val.bind fun _=>bT.l.bind fun _=>df.bind fun _=>lV h f n _) (fH.l.bind fun _=>.bif ((QU h _ _).bind fun _=>lV h f n _) .ret))
theorem JP(h:ZK p):Fz (dY T K p):=dc.l.bind fun _=>(Fo h).bind fun _=>lV h _ _ _
theorem Lk(h:ZK p):Fz (ja T K p):=dc.l.bind fun _=>.bif (BJ.l.bind fun _=>cj.l.bind fun _=>h.un.bind fun _=>IT.l.bind fun _=>df) (JP h)
theorem oc{sub:Tm Tn}(hs:Fz sub)(least f:Int):∀(n:Nat) (x:Tn),Fz (bG T K least f sub n x)
 |0,_=>.bad
 |n+1,x=>dc.l.bind fun _=>.bif (cj.l.bind fun _=>hs.bind fun _=>df.bind fun _=>oc hs least f n _) (.bif (fH.l.bind fun _=>.bif (fH.l.bind fun _=>.bif (df.bind fun _=>oc hs least f n _) (bT.l.bind fun _=>df.bind fun _=>oc hs least f n _)) .ret) .ret)
theorem yL(h:ZK p):∀j:Nat,Fz (bD T K p j)
 |0=>dc.l.bind fun _=>h.un
 |j+1=>dc.l.bind fun _=>(yL h j).bind fun _=>oc (yL h j) _ _ _ _
theorem LH(h:ZK p):Fz (dd T K p):=BJ.l.bind fun _=>(yL h 6).bind fun _=>IT.l.bind fun _=>.ret
theorem O9(h:ZK p)(s:Str):Fz (sK T K p s):=
 .bif (cj.l.bind fun _=>(gy h).bind fun _=>h.blk.bind fun _=>fH.l.bind fun _=>.bif (h.blk.bind fun _=>.ret) .ret) (.bif (cj.l.bind fun _=>(gy h).bind fun _=>h.blk.bind fun _=>.ret) (.bif (cj.l.bind fun _=>bT.l.bind fun _=>.ret) (.bif (cj.l.bind fun _=>bT.l.bind fun _=>.ret)
 (.bif (cj.l.bind fun _=>uJ.l.bind fun _=>.bif (bT.l.bind fun _=>.ret) (h.val.bind fun _=>bT.l.bind fun _=>.ret)) (.bif (cj.l.bind fun _=>(gy h).bind fun _=>bT.l.bind fun _=>.ret) (.bif (cj.l.bind fun _=>(Ch h).bind fun _=>bT.l.bind fun _=>.ret) .ret))))))
theorem DV(h:ZK p)(f:Int):Fz (ny T K p f):=h.val.bind fun _=>dc.l.bind fun _=>fH.l.bind fun _=>.bif (.bif (h.val.bind fun _=>bT.l.bind fun _=>df) (.flt (by decide))) (.bif (bT.l.bind fun _=>df) (.flt (by decide)))
theorem OI(h:ZK p):Fz (wH T K p):=dc.l.bind fun _=>.bif h.blk (CM.l.bind fun _=>.bif (rX.l.bind fun _=>qd.l.bind fun _=>fH.l.bind fun _=>.bif (h.val.bind fun _=>bT.l.bind fun _=>df) (bT.l.bind fun _=>df)) (.bif ((O9 h _).bind fun _=>.bif df (DV h _)) (DV h _)))
theorem Az(h:ZK p)(f:Int):∀(n:Nat) (L:List Tn),Fz (ix T K p f n L)
 |0,_=>.bad
 |n+1,L=>uJ.l.bind fun _=>.bif (bT.l.bind fun _=>IT.l.bind fun _=>df) ((OI h).bind fun _=>Az h f n _)
theorem L3(h:ZK p):Fz (nw T K p):=dc.l.bind fun _=>BJ.l.bind fun _=>bT.l.bind fun _=>Az h _ _ _
theorem xD:∀n,ZK (knt T K n)
 |0=>⟨.bad,.bad,.bad⟩
 |n+1=>⟨LH (xD n),L3 (xD n),Lk (xD n)⟩
theorem vm:∀(n:Nat) (L:List Tn),Fz (gH T K n L)
 |0,_=>.bad
 |n+1,L=>fH.l.bind fun _=>.bif .ret (De.l.bind fun _=>Dr.l.bind fun _=>dc.l.bind fun _=>rX.l.bind fun _=>qd.l.bind fun _=>df.bind fun _=>vm n _)
theorem Bm:Fz (ka T K):=bT.l.bind fun _=>vm _ _
theorem Hg(h:ZK p):Fz (lO T K p):=dc.l.bind fun _=>.bif (cj.l.bind fun _=>Bm.bind fun _=>h.blk.bind fun _=>df) (rX.l.bind fun _=>qd.l.bind fun _=>uJ.l.bind fun _=>.bif (Bm.bind fun _=>h.blk.bind fun _=>df) (.bif (.flt n80) (bT.l.bind fun _=>df)))
theorem sB(h:ZK p)(f:Int)(s:Str):∀(n:Nat) (L:List Tn),Fz (gv T K p f s n L)
 |0,_=>.bad
 |n+1,L=>uJ.l.bind fun _=>.bif (bT.l.bind fun _=>df) (Dr.l.bind fun _=>(Hg h).bind fun _=>sB h f s n _)
theorem Lz(h:ZK p):Fz (qc T K p):=dc.l.bind fun _=>bT.l.bind fun _=>qd.l.bind fun _=>dc.l.bind fun _=>fH.l.bind fun _=>.bif (qd.l.bind fun _=>df.bind fun _=>bT.l.bind fun _=>sB h _ _ _ _) (bT.l.bind fun _=>sB h _ _ _ _)
theorem tA(h:ZK p):∀(n:Nat) (L:List Tn),Fz (dk T K p n L)
 |0,_=>.bad
 |n+1,L=>dc.l.bind fun _=>.bif df (Dr.l.bind fun _=>(Lz h).bind fun _=>tA h n _)
end
theorem HJ{T:List UInt8}{c p:Int}(h:gR T= .fault c p):c≠0:=by
 have:=tA (T:=T) (K:=bL T) (xD (T:=T) (K:=bL T) ke) ((bL T).length+2) [] 0 0 0
 have e:dk T (bL T) (knt T (bL T) ke) ((bL T).length+2) [] 0 0 0= .fault c p:=h
 rw[e]at this
 exact this
end Go.Sx.Tryz
namespace Go.Sx.Tryz
open Go Go.Sx Go.Proofs
set_option maxRecDepth 100000
theorem qB{T:List UInt8}(hl:de T=0):(∃t a d n,gR T= .ok t a d n∧fX T=((t.flat 0,((t.flat 0).length:Int)-1,()),((0:Int),(0:Int),()),())∧Gk t∧aj t.data=1∧t.size≤8192∧jg (t.flat 0)=true)∨
  (∃c p,gR T= .fault c p∧c≠0∧fX T=((([]:List Nd),(0:Int),()),(c,p,()),())):=by
 have hR:=CF T
 have hc:(de T !=0)=false:=by rw[hl];rfl
 cases et:gR T with
 |ok t a d n=>
  rw[et]at hR
  obtain⟨_,h2⟩:=hR
  have e:Sf [] (gT t)=t.flat 0:=by
   show []++Tn.flats 0 [t]=_
   rw[List.nil_append,Tn.flats_one]
  rw[e]at h2
  have hi:=EY hl h2
  obtain⟨g1,g2⟩:=Is hl et
  have hs:t.size≤8192:=by
   have:=hi.len
   rwa [Tn.flat_len]at this
  refine .inl ⟨t,a,d,n,rfl,?_,g1,g2,hs,IK g1 hs fun x hx=>(hi.nd x hx).1⟩
  unfold fX
  rw[hc,h2]
  rfl
 |fault c p=>
  rw[et]at hR
  have hR:nk T= .fault c p:=hR
  refine .inr ⟨c,p,rfl,HJ et,?_⟩
  unfold fX
  rw[hc,hR]
  rfl
 |bad=>
  exfalso
  rw[et]at hR
  have hR:nk T= .bad:=hR
  have hE:=qk hl
  rw[hR]at hE
  exact hE.elim
end Go.Sx.Tryz
namespace Go.Sx.Tryz
open Go Go.Sx Go.Proofs
set_option maxRecDepth 100000
structure Pd(t:Tn)(L:List Nd)(r:Int):Prop where
 l:L=t.flat 0
 r:r=(L.length:Int)-1
 g:Gk t
 k:aj t.data=1
 s:t.size≤8192
 m:jg L=true
theorem Pd.inr{t:Tn}{L:List Nd}{r:Int}(h:Pd t L r):inI r L.length=true:=by
 have:=size_pos t
 rw[h.r,h.l,Tn.flat_len]
 exact bZ (by omega) (by omega)
theorem Pd.ok{t:Tn}{L:List Nd}{r:Int}(h:Pd t L r)(a:Int):Bu ((L,r,()),a,())=true:=by
 show(jg L&&L.all eD)=true
 rw[h.m,h.l,Ge h.g]
 rfl
theorem TH{T:List UInt8}(hl:de T=0)(h:ndE T=0):∃t a d n,gR T= .ok t a d n∧Pd t (ndL T) (ndR T):=by
 rcases qB hl with⟨t,a,d,n,e1,e2,e3,e4,e5,e6⟩|⟨c,p,e1,e2,e3⟩
 ·refine⟨t,a,d,n,e1,?_⟩
  have p2:ndL T=t.flat 0:=by unfold ndL;rw[e2]
  have p3:ndR T=((t.flat 0).length:Int)-1:=by unfold ndR;rw[e2]
  rw[p2,p3]
  exact⟨rfl,rfl,e3,e4,e5,e6⟩
 ·unfold ndE at h
  rw[e3]at h
  exact absurd h e2
theorem S6{T:List UInt8}(h:ndE T=0):de T=0:=by
 cases hc:de T !=0 with
 |true=>
  unfold ndE fX at h
  rw[hc]at h
  have h:de T=0:=h
  rw[h]at hc
  exact absurd hc (by decide)
 |false=>simpa [bne]using hc
end Go.Sx.Tryz
namespace Go.Sx.Tryz
open Go Go.Sx Go.Proofs
set_option maxRecDepth 100000
abbrev Lg:List Sh:=[.own 3 (.int .i64)]
def iM:List Cut:=[⟨[true,true,true,false,false,false],some ⟨[(2,[]),(5,Lg),(6,Lg)],[[],[],[]]⟩⟩,
 ⟨[true,true,true,false,false,false,true,false,true,true,true,true,true,false,false],some ⟨[(2,[]),(5,Lg),(6,Lg),(7,[]),(8,[])],[[],[],[]]⟩⟩]
def DW(L:List Nd)(r:Int)(o t:List Int):St:={tmps:=[(2,.ref 0 0),(5,.own 1 0),(6,.own 2 0)],blks:=[(0,.cells 25 (trC L r)),(1,.list 3 (.int .i64) 0 false o),(2,.list 3 (.int .i64) 0 false t)],next:=3}
def Bh(L:List Nd)(r:Int)(o t:List Int)(i k:Int):St:={tmps:=[(2,.ref 0 0),(5,.own 1 0),(6,.own 2 0),(7,.int .i64 i),(8,.int .i64 k)],blks:=[(0,.cells 25 (trC L r)),(1,.list 3 (.int .i64) 0 false o),(2,.list 3 (.int .i64) 0 false t)],next:=3}
end Go.Sx.Tryz
namespace Go.Sx.Tryz
open Go Go.Sx Go.Proofs
set_option maxRecDepth 100000
theorem Dw(J:Jump R0)(L:List Nd)(r at0:Int):start (R:=R0) E (au []) kv iM J [.agg (trC L r),.int .i64 at0] [] .ok=J 0 {tmps:=[(2,AV.ref 0 0),(5,AV.own 1 0),(6,AV.own 2 0)],blks:=[(0,Blk.cells 25 [AV.sl aD L,AV.int IntKind.i64 r]),(1,Blk.list 3 (Ty.int IntKind.i64) 0 false []),(2,Blk.list 3 (Ty.int IntKind.i64) 0 false [at0])],next:=3}:=by kernel_rfl
theorem nH(J:Jump R0)(L:List Nd)(r:Int)(o t:List Int):resume (R:=R0) E (au []) (aT 0 iM 0) J [true,true,true,false,false,false] kv.code 1 (DW L r o t) (cv E 0 kv.results .ok)=bif decide ((↑(List.length t):Int)>0)then bif inI (IntKind.wrap IntKind.i64 ((↑(List.length t):Int)-1)) (List.length t)then bif inB 0 (IntKind.wrap IntKind.i64 ((↑(List.length t):Int)-1)) (List.length t)then bif decide (bE t (Int.toNat (IntKind.wrap IntKind.i64 ((↑(List.length t):Int)-1)))<0)then J 0 {tmps:=[(2,AV.ref 0 0),(5,AV.own 1 0),(6,AV.own 2 0)],blks:=[(0,Blk.cells 25 [AV.sl aD L,AV.int IntKind.i64 r]),(1,Blk.list 3 (Ty.int IntKind.i64) 0 false o),(2,Blk.list 3 (Ty.int IntKind.i64) 0 false (List.take (Int.toNat (IntKind.wrap IntKind.i64 ((↑(List.length t):Int)-1))) t))],next:=3}else bif decide (bE t (Int.toNat (IntKind.wrap IntKind.i64 ((↑(List.length t):Int)-1)))≥(↑(List.length L):Int))then J 0 {tmps:=[(2,AV.ref 0 0),(5,AV.own 1 0),(6,AV.own 2 0)],blks:=[(0,Blk.cells 25 [AV.sl aD L,AV.int IntKind.i64 r]),(1,Blk.list 3 (Ty.int IntKind.i64) 0 false o),(2,Blk.list 3 (Ty.int IntKind.i64) 0 false (List.take (Int.toNat (IntKind.wrap IntKind.i64 ((↑(List.length t):Int)-1))) t))],next:=3}else bif decide ((↑(List.length o):Int)≥16384)then J 0 {tmps:=[(2,AV.ref 0 0),(5,AV.own 1 0),(6,AV.own 2 0)],blks:=[(0,Blk.cells 25 [AV.sl aD L,AV.int IntKind.i64 r]),(1,Blk.list 3 (Ty.int IntKind.i64) 0 false o),(2,Blk.list 3 (Ty.int IntKind.i64) 0 false (List.take (Int.toNat (IntKind.wrap IntKind.i64 ((↑(List.length t):Int)-1))) t))],next:=3}else bif decide (List.length o+List.length [bE t (Int.toNat (IntKind.wrap IntKind.i64 ((↑(List.length t):Int)-1)))]<ao)then bif inI (bE t (Int.toNat (IntKind.wrap IntKind.i64 ((↑(List.length t):Int)-1)))) (List.length L)then J 1 {tmps:=[(2,AV.ref 0 0),(5,AV.own 1 0),(6,AV.own 2 0),(7,AV.int IntKind.i64 (bE t (Int.toNat (IntKind.wrap IntKind.i64 ((↑(List.length t):Int)-1))))),(8,AV.int IntKind.i64 (IntKind.wrap IntKind.i64 ((↑(List.length (ai (af L (Int.toNat (bE t (Int.toNat (IntKind.wrap IntKind.i64 ((↑(List.length t):Int)-1)))))))):Int)-1)))],blks:=[(0,Blk.cells 25 [AV.sl aD L,AV.int IntKind.i64 r]),(1,Blk.list 3 (Ty.int IntKind.i64) 0 false (o++[bE t (Int.toNat (IntKind.wrap IntKind.i64 ((↑(List.length t):Int)-1)))])),(2,Blk.list 3 (Ty.int IntKind.i64) 0 false (List.take (Int.toNat (IntKind.wrap IntKind.i64 ((↑(List.length t):Int)-1))) t))],next:=3}else Rs.err 803 else Rs.err 703 else Rs.err 504 else Rs.err 404 else Rs.ok (Out.ret (AV.own 0 0),[Blk.list 3 (Ty.int IntKind.i64) 0 false o]):=by kernel_rfl
theorem Ey(J:Jump R0)(L:List Nd)(r:Int)(o t:List Int)(i k:Int):resume (R:=R0) E (au []) (aT 0 iM 0) J [true,true,true,false,false,false,true,false,true,true,true,true,true,false,false] kv.code 1 (Bh L r o t i k) (cv E 0 kv.results .ok)=bif decide (k≥0)then bif inI i (List.length L)then bif inI k (List.length (ai (af L (Int.toNat i))))then bif decide (bE (ai (af L (Int.toNat i))) (Int.toNat k)<i)then bif decide (List.length t+List.length [bE (ai (af L (Int.toNat i))) (Int.toNat k)]<ao)then J 1 {tmps:=[(2,AV.ref 0 0),(5,AV.own 1 0),(6,AV.own 2 0),(7,AV.int IntKind.i64 i),(8,AV.int IntKind.i64 (IntKind.wrap IntKind.i64 (k-1)))],blks:=[(0,Blk.cells 25 [AV.sl aD L,AV.int IntKind.i64 r]),(1,Blk.list 3 (Ty.int IntKind.i64) 0 false o),(2,Blk.list 3 (Ty.int IntKind.i64) 0 false (t++[bE (ai (af L (Int.toNat i))) (Int.toNat k)]))],next:=3}else Rs.err 1303 else J 1 {tmps:=[(2,AV.ref 0 0),(5,AV.own 1 0),(6,AV.own 2 0),(7,AV.int IntKind.i64 i),(8,AV.int IntKind.i64 (IntKind.wrap IntKind.i64 (k-1)))],blks:=[(0,Blk.cells 25 [AV.sl aD L,AV.int IntKind.i64 r]),(1,Blk.list 3 (Ty.int IntKind.i64) 0 false o),(2,Blk.list 3 (Ty.int IntKind.i64) 0 false t)],next:=3}else Rs.err 1107 else Rs.err 1103 else J 0 {tmps:=[(2,AV.ref 0 0),(5,AV.own 1 0),(6,AV.own 2 0)],blks:=[(0,Blk.cells 25 [AV.sl aD L,AV.int IntKind.i64 r]),(1,Blk.list 3 (Ty.int IntKind.i64) 0 false o),(2,Blk.list 3 (Ty.int IntKind.i64) 0 false t)],next:=3}:=by kernel_rfl
def Ko(j:Nat)(st:St)(o:R0):Prop:=∃fuel,pieces (R:=R0) E (au []) kv iM 0 .ok fuel j st= .ok o
abbrev LM(l:List Int):R0:=(.ret (.own 0 0),[.list 3 (.int .i64) 0 false l])
theorem Fl(K:List Int)(m:Nat)(h:m<K.length):K.take (m+1)=K.take m++[bE K m]:=by
 rw[List.take_add_one,List.getElem?_eq_getElem h]
 simp[bE,List.getD,h]
theorem Hb{L:List Nd}{r:Int}{o:List Int}{i:Nat}{w:R0}(hi:i<L.length)(hL:L.length≤9000)(hkid:∀k∈ai (af L i),0≤k∧k<(i:Int)):∀(m:Nat) (t:List Int),m≤(ai (af L i)).length→(ai (af L i)).length≤20000→t.length+m≤100000→
  Ko 0 (DW L r o (t++((ai (af L i)).take m).reverse)) w→Ko 1 (Bh L r o t i ((m:Int)-1)) w
 |0,t,_,_,_,⟨fuel,h⟩=>by
  refine⟨fuel+1,(aU rfl).trans ((Ey (pieces (R:=R0) E (au []) kv iM 0 .ok fuel) L r o t i (((0:Nat):Int)-1)).trans ?_)⟩
  have h1:decide ((((0:Nat):Int)-1)≥0)=false:=rfl
  rw[h1]
  simp only[List.take_zero,List.reverse_nil,List.append_nil]at h
  exact h
 |m+1,t,hm,hK,ht,h=>by
  rw[Fl _ _ (by omega),List.reverse_append,List.reverse_singleton,List.singleton_append]at h
  obtain⟨fuel,ih⟩:=Hb hi hL hkid m (t++[bE (ai (af L i)) m]) (by omega) hK (by simp;omega) (by simpa using h)
  refine⟨fuel+1,(aU rfl).trans ((Ey (pieces (R:=R0) E (au []) kv iM 0 .ok fuel) L r o t i (((m+1:Nat):Int)-1)).trans ?_)⟩
  have e0:(((m+1:Nat):Int)-1)=(m:Int):=by omega
  have h1:decide ((m:Int)≥0)=true:=decide_eq_true (by omega)
  have h2:inI (i:Int) L.length=true:=bZ (by omega) (by omega)
  have h3:inI (m:Int) (ai (af L i)).length=true:=bZ (by omega) (by omega)
  have h4:IntKind.wrap .i64 ((m:Int)-1)=(m:Int)-1:=wrap64 (by omega) (by omega)
  have hlt:bE (ai (af L i)) m<(i:Int):=by
   refine(hkid _ ?_).2
   rw[bE,List.getD,List.getElem?_eq_getElem (show m<_ by omega)]
   exact List.getElem_mem _
  have h6:List.length t+1<ao:=by simp only[ao];omega
  simp only[e0,h1,h2,Int.toNat_natCast,h3,h4,hlt,List.length_cons,List.length_nil,Nat.zero_add,h6,decide_true,cond_true]
  exact ih
def gP(L:List Nd)(t:List Int):List Int:=t.reverse.flatMap fun k=>fx L k.toNat
theorem p6{L:List Nd}:∀(t:List Int),t.length≤(gP L t).length
 |t=>by
  unfold gP
  have:∀l:List Int,l.length≤(l.flatMap fun k=>fx L k.toNat).length:=by
   intro l
   induction l with
   |nil=>simp
   |cons a l ih=>
    rw[List.flatMap_cons,List.length_append,List.length_cons]
    have:1≤(fx L a.toNat).length:=by simp[fx,Fk]
    omega
  have:=this t.reverse
  rwa [List.length_reverse]at this
theorem Pb{L:List Nd}{r:Int}(g:GoodT L r)(hL:L.length≤9000)(hK:∀i:Nat,i<L.length→(ai (af L i)).length≤20000):∀(n:Nat) (o t:List Int),(gP L t).length≤n→o.length+(gP L t).length≤9000→(∀k∈t,0≤k∧k<(L.length:Int))→Ko 0 (DW L r o t) (LM (o++gP L t)):=by
 intro n
 induction n with
 |zero=>
  intro o t hn hb hv
  have:t=[]:=List.eq_nil_of_length_eq_zero (by have:=p6 (L:=L) t;omega)
  subst this
  refine⟨1,(aU rfl).trans ((nH (pieces (R:=R0) E (au []) kv iM 0 .ok 0) L r o []).trans ?_)⟩
  simp[gP]
 |succ n ih=>
  intro o t hn hb hv
  rcases List.eq_nil_or_concat t with rfl|⟨t0,k,rfl⟩
  ·refine⟨1,(aU rfl).trans ((nH (pieces (R:=R0) E (au []) kv iM 0 .ok 0) L r o []).trans ?_)⟩
   simp[gP]
  ·rw[List.concat_eq_append]at*
   obtain⟨k0,k1⟩:=hv k (by simp)
   obtain⟨i,rfl⟩:∃i:Nat,k=(i:Int):=⟨k.toNat,by omega⟩
   have hi:i<L.length:=by omega
   have hkid:∀x∈ai (af L i),0≤x∧x<(i:Int):=fun x hx=>⟨(g.kid hi hx).1,(g.kid hi hx).2.1⟩
   have er:gP L (t0++[(i:Int)])=(i:Int)::gP L (t0++(ai (af L i)).reverse):=by
    simp only[gP,List.reverse_append,List.reverse_singleton,List.singleton_append,List.flatMap_cons,Int.toNat_natCast,List.reverse_reverse,List.flatMap_append]
    rw[iC g hi,List.cons_append]
   have hrl:=p6 (L:=L) (t0++[(i:Int)])
   rw[List.length_append,List.length_singleton]at hrl
   rw[er]at hn hb hrl⊢
   simp only[List.length_cons]at hn hb hrl
   have hrl2:=p6 (L:=L) (t0++(ai (af L i)).reverse)
   have key:=ih (o++[(i:Int)]) (t0++(ai (af L i)).reverse) (by omega) (by simp;omega) (fun x hx=>by
    rcases List.mem_append.1 hx with hx|hx
    ·exact hv x (by simp[hx])
    ·have:=hkid x (by simpa using hx)
     omega)
   have key2:Ko 1 (Bh L r (o++[(i:Int)]) t0 i (((ai (af L i)).length:Int)-1)) (LM ((o++[(i:Int)])++gP L (t0++(ai (af L i)).reverse))):=
    Hb hi hL hkid (ai (af L i)).length t0 (Nat.le_refl _) (hK i hi) (by have:=hK i hi;omega) (by rw[List.take_length];exact key)
   obtain⟨fuel,hf⟩:=key2
   refine⟨fuel+1,(aU rfl).trans ((nH (pieces (R:=R0) E (au []) kv iM 0 .ok fuel) L r o (t0++[(i:Int)])).trans ?_)⟩
   have hlen:(((t0++[(i:Int)]).length:Nat):Int)=(t0.length:Int)+1:=by simp
   have hw:IntKind.wrap .i64 ((t0.length:Int)+1-1)=(t0.length:Int):=by rw[wrap64 (by omega) (by omega)];omega
   have h1:((t0.length:Int)+1>0):=by omega
   have h2:inI (t0.length:Int) (t0++[(i:Int)]).length=true:=bZ (by omega) (by rw[hlen];omega)
   have h3:inB 0 (t0.length:Int) (t0++[(i:Int)]).length=true:=by
    simp only[inB,Bool.and_eq_true,decide_eq_true_eq,hlen]
    omega
   have h4:bE (t0++[(i:Int)]) t0.length=(i:Int):=sU t0 i []
   have h5:¬((i:Int)<0):=by omega
   have h6:¬((i:Int)≥(L.length:Int)):=by omega
   have h7:¬((o.length:Int)≥16384):=by omega
   have h8:List.length o+1<ao:=by simp only[ao];omega
   have h9:inI (i:Int) L.length=true:=bZ (by omega) (by omega)
   have h10:List.take t0.length (t0++[(i:Int)])=t0:=by simp
   have h11:IntKind.wrap .i64 (((ai (af L i)).length:Int)-1)=((ai (af L i)).length:Int)-1:=by
    have:=hK i hi
    exact wrap64 (by omega) (by omega)
   simp only[hlen,hw,h1,h2,h3,Int.toNat_natCast,h4,h5,h6,h7,List.length_cons,List.length_nil,Nat.zero_add,h8,h9,h10,h11,decide_true,decide_false,cond_true,cond_false]
   rw[show o++(i:Int)::gP L (t0++(ai (af L i)).reverse)=(o++[(i:Int)])++gP L (t0++(ai (af L i)).reverse) by simp]
   have e:Bh L r (o++[(i:Int)]) t0 i (((ai (af L i)).length:Int)-1)=Bh L r (o++[(i:Int)]) (List.take t0.length (t0++[(i:Int)])) i (((ai (af L i)).length:Int)-1):=by rw[h10]
   rw[e]at hf
   exact hf
def kj(L:List Nd)(a:Int):List Int:=bif inI a L.length then fx L a.toNat else []
abbrev QM:Sig:=[(false,.slice (.int .i64))]
def Jx(x:an mE):Bool:=jg x.1.1&&dC x.1.1 x.1.2.1==0
def HX(x:an mE):an QM:=(kj x.1.1 x.2.1,())
theorem B0(L:List Nd)(r a:Int)(h:Jx ((L,r,()),a,())=true):∃fuel,start (R:=R0) E (au []) kv iM (pieces (R:=R0) E (au []) kv iM 0 .ok fuel) [.agg (trC L r),.int .i64 a] [] .ok= .ok (LM (kj L a)):=by
 simp only[Jx,Bool.and_eq_true,beq_iff_eq]at h
 obtain⟨hs,hc⟩:=h
 have g:=rE hc
 obtain⟨hL,hK⟩:=lM hs
 unfold kj
 cases e:inI a L.length
 ·refine⟨2,?_⟩
  rw[Dw]
  refine(aU rfl).trans ((nH (pieces (R:=R0) E (au []) kv iM 0 .ok 1) L r [] [a]).trans ?_)
  have h1:IntKind.wrap .i64 ((([a]:List Int).length:Int)-1)=0:=rfl
  have h2:bE [a] (Int.toNat 0)=a:=rfl
  have h3:inI 0 ([a]:List Int).length=true:=rfl
  have h4:inB 0 0 ([a]:List Int).length=true:=rfl
  have h5:decide ((([a]:List Int).length:Int)>0)=true:=rfl
  have fin:pieces (R:=R0) E (au []) kv iM 0 .ok 1 0 (DW L r [] [])= .ok (LM []):=(aU rfl).trans (nH (pieces (R:=R0) E (au []) kv iM 0 .ok 0) L r [] [])
  rw[h5,h1,h2,h3,h4]
  simp only[cond_true]
  by_cases n1:a<0
  ·simp only[n1,decide_true,cond_true]
   exact fin
  ·have n2:a≥(L.length:Int):=by
    simp only[inI,Bool.and_eq_false_iff,decide_eq_false_iff_not]at e
    omega
   simp only[n1,n2,decide_true,decide_false,cond_true,cond_false]
   exact fin
 ·simp only[inI,Bool.and_eq_true,decide_eq_true_eq]at e
  have hr:gP L [a]=fx L a.toNat:=by simp[gP]
  have hlen:=na g (i:=a.toNat) (by omega)
  obtain⟨fuel,hf⟩:=Pb g hL hK L.length [] [a] (by rw[hr];exact hlen) (by rw[hr];simp;omega) (fun k hk=>by simp at hk;omega)
  refine⟨fuel,?_⟩
  rw[Dw]
  rw[hr,List.nil_append]at hf
  exact hf
theorem KI{G:Nat→Obj→Prop}(x:an mE)(h:Jx x=true):SAD Tryz.prog G 23 mE QM x (HX x):=by
 obtain⟨⟨L,r,⟨⟩⟩,a,⟨⟩⟩:=x
 obtain⟨fuel,hf⟩:=B0 L r a h
 exact SA.data (bu (bb []) (aQ .nil) SB (.inl cN) hf) (y:=HX ((L,r,()),a,())) (m:=[0]) rfl
end Go.Sx.Tryz
namespace Go.Sx.Tryz
open Go Go.Sx Go.Proofs
set_option maxRecDepth 100000
def FD(k:Int):Bool:=decide (k≥19)&&decide (k≤45)
def RR(x:an iu):an dt:=(FD x.1,())
def Gf:List (Nat×aX):=[(9,mf 9 g9),(10,Cw),(11,cq 11 mE cZ Bu MN),(21,cq 21 iu dt (fun _=>true) RR),(23,cq 23 mE QM Jx HX)]
def JX:List Cut:=[⟨[true,true,true,true,true,true,true,true,true,true,false,true,false,false],some ⟨[(1,[]),(5,[]),(9,[]),(89,[.sl (.int .i64)]),(90,[]),(91,[])],[[],[]]⟩⟩]
def mk6(at0:Int)(LA LB:List Nd)(rA rB:Int)(K:List Int)(l i:Int):St:={tmps:=[(1,.int .i64 at0),(5,.ref 0 0),(9,.ref 1 0),(89,.sl (.int .i64) K),(90,.int .i64 l),(91,.int .i64 i)],blks:=[(0,.cells 25 (trA LA rA)),(1,.cells 25 (trA LB rB))],next:=2}
def nd6(A:List UInt8)(at0:Int):Nd:=af (ndL A) at0.toNat
def pc6(A:List UInt8)(at0:Int):List UInt8:=List.drop (nAt (nd6 A at0)).toNat (List.take (nTo (nd6 A at0)).toNat A)
def pre6:List UInt8:=[99,108,97,115,115,32,65,123,105,110,116,32,102,40,41,123,120,61,40]
def tx6(A:List UInt8)(at0:Int):List UInt8:=pre6++pc6 A at0++[10,41,59,125,125]
theorem PZ(k:Int):body (R:=R0) E (au []) Pk [.int .i64 k] [] .ok=bif decide (k≥19)then Rs.ok (Out.ret (AV.bool (decide (k≤45))),[])else Rs.ok (Out.ret (AV.bool false),[]):=by kernel_rfl
theorem pZ(J:Jump R0)(A:List UInt8)(at0:Int):start (R:=R0) E (au Gf) fi6 JX J [.str A,.int .i64 at0] [] .ok=bif decide ((A.length:Int)>800)then .ok (.ret (.bool true),[])else bif ndE A !=0 then .ok (.ret (.bool true),[])else bif decide (at0<0)then .ok (.ret (.bool true),[])else bif decide (at0≥((ndL A).length:Int))then .ok (.ret (.bool true),[])else bif inI at0 (ndL A).length then bif !FD (aj (nd6 A at0))then .ok (.ret (.bool true),[])else bif inI at0 (ndL A).length then bif inB (nAt (nd6 A at0)) (nTo (nd6 A at0)) A.length then bif decide (pre6.length+(pc6 A at0).length<2^62)then bif decide ((pre6++pc6 A at0).length+List.length [(10:UInt8),41,59,125,125]<2^62)then bif ndE (tx6 A at0)==80 then .err 4000022 else bif ndE (tx6 A at0) !=0 then bif ndE (tx6 A at0)==6 then .ok (.ret (.bool true),[])else .ok (.ret (.bool (ndE (tx6 A at0)==2)),[])else bif Jx ((ndL (tx6 A at0),ndR (tx6 A at0),()),ndR (tx6 A at0),())then J 0 (mk6 at0 (ndL A) (ndL (tx6 A at0)) (ndR A) (ndR (tx6 A at0)) (kj (ndL (tx6 A at0)) (ndR (tx6 A at0))) (kj (ndL (tx6 A at0)) (ndR (tx6 A at0))).length 0)else .err 3000023 else .err 1002 else .err 1001 else .err 907 else .err 803 else .err 618:=by kernel_rfl
theorem MT(J:Jump R0)(at0:Int)(LA LB:List Nd)(rA rB:Int)(K:List Int)(l i:Int):resume (R:=R0) E (au Gf) (aT 0 JX 0) J [true,true,true,true,true,true,true,true,true,true,false,true,false,false] fi6.code 1 (mk6 at0 LA LB rA rB K l i) (cv E 0 fi6.results .ok)=bif decide (i<l)then bif inI i K.length then bif inI (bE K i.toNat) LB.length then bif aj (af LB (bE K i.toNat).toNat)==10 then bif inI (bE K i.toNat) LB.length then bif inI 1 (ai (af LB (bE K i.toNat).toNat)).length then bif Bu ((LB,rB,()),bE (ai (af LB (bE K i.toNat).toNat)) (Int.toNat 1),())then bif Bu ((LA,rA,()),at0,())then .ok (.ret (.bool (kO LB rB (bE (ai (af LB (bE K i.toNat).toNat)) (Int.toNat 1))==kO LA rA at0)),[])else .err 3000011 else .err 3000011 else .err 1907 else .err 1904 else J 0 (mk6 at0 LA LB rA rB K l (IntKind.wrap .i64 (i+1)))else .err 1803 else .err 1700 else .ok (.ret (.bool false),[]):=by kernel_rfl
end Go.Sx.Tryz
namespace Go.Sx.Tryz
open Go Go.Sx
set_option maxRecDepth 100000
structure Al(T:List UInt8)(K:List Tok)(T':List UInt8)(K':List Tok)(s a0 L:Int):Prop where
 len:L<(K.length:Int)
 len':L+s<(K'.length:Int)
 nz:∀a:Int,a0≤a→a≤L→ak (aa K a)≠0
 tok:∀a:Int,a0≤a→a<L→ak (aa K a)=ak (aa K' (a+s))∧say T (aa K a)=say T' (aa K' (a+s))
 sk:ak (aa K' (L+s))=5
 sy:say T' (aa K' (L+s))=[41]
def Qx{α:Type}(r:PR α)(Q:α→Int→Prop):Prop:=match r with
 | .ok y b _ _=>Q y b
 | .fault c _=>c=2∨c=6
 | .bad=>True
def dy{α:Type}(r:TR α)(Q:α→Int→Prop):Prop:=match r with
 | .ok y b _ _=>Q y b
 | .fault c _=>c=2∨c=6
 | .bad=>True
section
variable{s a0 L:Int}
def Yp(s a0 L k sl:Int){α:Type}(R:α→α→Prop)(m m':Pm α):Prop:=∀a d A y a1 d1 A1,a0≤a→m a d A= .ok y a1 d1 A1→a≤a1∧(a1≤L→a+k≤a1)∧(a1+sl≤L→∀d' A',Qx (m' (a+s) d' A') fun y' b=>b=a1+s∧R y y')
def Yl(s a0 L k sl:Int){α:Type}(R:α→α→Prop)(m m':Tm α):Prop:=∀a d n y a1 d1 n1,a0≤a→m a d n= .ok y a1 d1 n1→a≤a1∧(a1≤L→a+k≤a1)∧(a1+sl≤L→∀d' n',dy (m' (a+s) d' n') fun y' b=>b=a1+s∧R y y')
theorem Yp.bind{α γ:Type}{R:α→α→Prop} [r:Rf R]{R':γ→γ→Prop}{k1 sl1 k sl:Int}{m m':Pm α}{f f':α→Pm γ}(h:Yp s a0 L k1 sl1 R m m')(hk:∀y y',R y y'→Yp s a0 L k sl R' (f y) (f' y'))(e0:0≤sl:=by decide)(e':sl1≤sl+k:=by decide):Yp s a0 L k sl R' (m.bind f) (m'.bind f'):=fun a d A z a2 d2 A2 ha e2=>by
 unfold Pm.bind at e2
 cases e1:m a d A with
 |ok y a1 d1 A1=>
  rw[e1]at e2
  obtain⟨h1,h2,h3⟩:=h a d A y a1 d1 A1 ha e1
  replace e2:f y a1 d1 A1= .ok z a2 d2 A2:=e2
  obtain⟨h4,h5,_⟩:=hk y y (r.rf y) a1 d1 A1 z a2 d2 A2 (by omega) e2
  refine⟨by omega,fun hl=>by have:=h5 hl;omega,fun hl d' A'=>?_⟩
  have h6:=h5 (by omega)
  have g3:=h3 (by omega) d' A'
  unfold Pm.bind
  cases e3:m' (a+s) d' A' with
  |ok y' b d'' A''=>
   rw[e3]at g3
   obtain⟨rfl,hy⟩:=g3
   exact(hk y y' hy a1 d1 A1 z a2 d2 A2 (by omega) e2).2.2 hl d'' A''
  |fault c p=>rw[e3]at g3;exact g3
  |bad=>trivial
 |fault c p=>rw[e1]at e2;cases e2
 |bad=>rw[e1]at e2;cases e2
theorem Yl.bind{α γ:Type}{R:α→α→Prop} [r:Rf R]{R':γ→γ→Prop}{k1 sl1 k sl:Int}{m m':Tm α}{f f':α→Tm γ}(h:Yl s a0 L k1 sl1 R m m')(hk:∀y y',R y y'→Yl s a0 L k sl R' (f y) (f' y'))(e0:0≤sl:=by decide)(e':sl1≤sl+k:=by decide):Yl s a0 L k sl R' (m.bind f) (m'.bind f'):=fun a d A z a2 d2 A2 ha e2=>by
 unfold Tm.bind at e2
 cases e1:m a d A with
 |ok y a1 d1 A1=>
  rw[e1]at e2
  obtain⟨h1,h2,h3⟩:=h a d A y a1 d1 A1 ha e1
  replace e2:f y a1 d1 A1= .ok z a2 d2 A2:=e2
  obtain⟨h4,h5,_⟩:=hk y y (r.rf y) a1 d1 A1 z a2 d2 A2 (by omega) e2
  refine⟨by omega,fun hl=>by have:=h5 hl;omega,fun hl d' A'=>?_⟩
  have h6:=h5 (by omega)
  have g3:=h3 (by omega) d' A'
  unfold Tm.bind
  cases e3:m' (a+s) d' A' with
  |ok y' b d'' A''=>
   rw[e3]at g3
   obtain⟨rfl,hy⟩:=g3
   exact(hk y y' hy a1 d1 A1 z a2 d2 A2 (by omega) e2).2.2 hl d'' A''
  |fault c p=>rw[e3]at g3;exact g3
  |bad=>trivial
 |fault c p=>rw[e1]at e2;cases e2
 |bad=>rw[e1]at e2;cases e2
theorem Yl.bindS{α γ:Type}{R:α→α→Prop} [r:Rf R]{R':γ→γ→Prop}{k1 sl1 k sl k2:Int}{m m':Tm α}{f f':α→Tm γ}(h:Yl s a0 L k1 sl1 R m m')(hk:∀y y',R y y'→Yl s a0 L k sl R' (f y) (f' y'))(e:k2≤k1+k:=by decide)(e0:0≤sl:=by decide)(e':sl1≤sl+k:=by decide):Yl s a0 L k2 sl R' (m.bind f) (m'.bind f'):=fun a d A z a2 d2 A2 ha e2=>by
 obtain⟨h1,h2,h3⟩:=Yl.bind h hk e0 e' a d A z a2 d2 A2 ha e2
 refine⟨h1,fun hl=>?_,h3⟩
 unfold Tm.bind at e2
 cases e1:m a d A with
 |ok y a1 d1 A1=>
  rw[e1]at e2
  obtain⟨g1,g2,_⟩:=h a d A y a1 d1 A1 ha e1
  obtain⟨h4,h5,_⟩:=hk y y (r.rf y) a1 d1 A1 z a2 d2 A2 (by omega) e2
  have:=h5 hl
  have:=g2 (by omega)
  omega
 |fault c p=>rw[e1]at e2;cases e2
 |bad=>rw[e1]at e2;cases e2
theorem Yp.bindS{α γ:Type}{R:α→α→Prop} [r:Rf R]{R':γ→γ→Prop}{k1 sl1 k sl k2:Int}{m m':Pm α}{f f':α→Pm γ}(h:Yp s a0 L k1 sl1 R m m')(hk:∀y y',R y y'→Yp s a0 L k sl R' (f y) (f' y'))(e:k2≤k1+k:=by decide)(e0:0≤sl:=by decide)(e':sl1≤sl+k:=by decide):Yp s a0 L k2 sl R' (m.bind f) (m'.bind f'):=fun a d A z a2 d2 A2 ha e2=>by
 obtain⟨h1,h2,h3⟩:=Yp.bind h hk e0 e' a d A z a2 d2 A2 ha e2
 refine⟨h1,fun hl=>?_,h3⟩
 unfold Pm.bind at e2
 cases e1:m a d A with
 |ok y a1 d1 A1=>
  rw[e1]at e2
  obtain⟨g1,g2,_⟩:=h a d A y a1 d1 A1 ha e1
  obtain⟨h4,h5,_⟩:=hk y y (r.rf y) a1 d1 A1 z a2 d2 A2 (by omega) e2
  have:=h5 hl
  have:=g2 (by omega)
  omega
 |fault c p=>rw[e1]at e2;cases e2
 |bad=>rw[e1]at e2;cases e2
theorem Yl.bindL{α γ:Type}{R:α→α→Prop} [r:Rf R]{R':γ→γ→Prop}{k1 sl1 k sl:Int}{m m':Tm α}{f f':α→Tm γ}(h:Yl s a0 L k1 sl1 R m m')(hk:∀y y',R y y'→Yl s a0 L 0 sl R' (f y) (f' y'))(e:k≤k1:=by decide)(e':sl1≤sl:=by decide)(e0:0≤sl:=by decide):Yl s a0 L k sl R' (m.bind f) (m'.bind f'):=Yl.bindS h hk (by omega) e0 (by omega)
theorem Yp.bindL{α γ:Type}{R:α→α→Prop} [r:Rf R]{R':γ→γ→Prop}{k1 sl1 k sl:Int}{m m':Pm α}{f f':α→Pm γ}(h:Yp s a0 L k1 sl1 R m m')(hk:∀y y',R y y'→Yp s a0 L 0 sl R' (f y) (f' y'))(e:k≤k1:=by decide)(e':sl1≤sl:=by decide)(e0:0≤sl:=by decide):Yp s a0 L k sl R' (m.bind f) (m'.bind f'):=Yp.bindS h hk (by omega) e0 (by omega)
theorem Yl.wk{α:Type}{R:α→α→Prop}{k1 sl1 k sl:Int}{m m':Tm α}(h:Yl s a0 L k1 sl1 R m m')(e:k≤k1:=by decide)(e':sl1≤sl:=by decide):Yl s a0 L k sl R m m':=fun a d n z a2 d2 n2 ha e2=>by
 obtain⟨h1,h2,h3⟩:=h a d n z a2 d2 n2 ha e2
 exact⟨h1,fun hl=>by have:=h2 hl;omega,fun hl=>h3 (by omega)⟩
theorem Yp.ret{α:Type}{R:α→α→Prop}{sl:Int}{y y':α}(h:R y y'):Yp s a0 L 0 sl R (.ret y) (.ret y'):=fun a d A z a2 d2 A2 ha e2=>by
 cases e2
 exact⟨by omega,fun _=>by omega,fun _ _ _=>⟨rfl,h⟩⟩
theorem Yl.ret{α:Type}{R:α→α→Prop}{sl:Int}{y y':α}(h:R y y'):Yl s a0 L 0 sl R (.ret y) (.ret y'):=fun a d A z a2 d2 A2 ha e2=>by
 cases e2
 exact⟨by omega,fun _=>by omega,fun _ _ _=>⟨rfl,h⟩⟩
theorem Yp.flt{α:Type}{R:α→α→Prop}{k sl c p:Int}{m':Pm α}:Yp s a0 L k sl R (.flt c p) m':=fun a d A z a2 d2 A2 ha e2=>by cases e2
theorem Yl.flt{α:Type}{R:α→α→Prop}{k sl c p:Int}{m':Tm α}:Yl s a0 L k sl R (.flt c p) m':=fun a d A z a2 d2 A2 ha e2=>by cases e2
theorem Yp.bad{α:Type}{R:α→α→Prop}{k sl:Int}{m':Pm α}:Yp s a0 L k sl R .bad m':=fun a d A z a2 d2 A2 ha e2=>by cases e2
theorem Yl.bad{α:Type}{R:α→α→Prop}{k sl:Int}{m':Tm α}:Yl s a0 L k sl R .bad m':=fun a d A z a2 d2 A2 ha e2=>by cases e2
theorem Yp.no{α:Type}{R:α→α→Prop}{k sl:Int}{m m':Pm α}(h:Yp s a0 L k sl R m m'):Yp s a0 L k sl R m .bad:=fun a d A z a2 d2 A2 ha e2=>⟨(h a d A z a2 d2 A2 ha e2).1,(h a d A z a2 d2 A2 ha e2).2.1,fun _ _ _=>trivial⟩
theorem Yl.no{α:Type}{R:α→α→Prop}{k sl:Int}{m m':Tm α}(h:Yl s a0 L k sl R m m'):Yl s a0 L k sl R m .bad:=fun a d A z a2 d2 A2 ha e2=>⟨(h a d A z a2 d2 A2 ha e2).1,(h a d A z a2 d2 A2 ha e2).2.1,fun _ _ _=>trivial⟩
theorem Yp.bif{α:Type}{R:α→α→Prop}{k sl:Int}{c c':Bool}{m n m' n':Pm α}(e:c=c')(h:Yp s a0 L k sl R m m')(h':Yp s a0 L k sl R n n'):Yp s a0 L k sl R (bif c then m else n) (bif c' then m' else n'):=by
 subst e
 cases c
 ·exact h'
 ·exact h
theorem Yl.bif{α:Type}{R:α→α→Prop}{k sl:Int}{c c':Bool}{m n m' n':Tm α}(e:c=c')(h:Yl s a0 L k sl R m m')(h':Yl s a0 L k sl R n n'):Yl s a0 L k sl R (bif c then m else n) (bif c' then m' else n'):=by
 subst e
 cases c
 ·exact h'
 ·exact h
theorem Yp.lft{α:Type}{R:α→α→Prop}{k sl:Int}{m m':Pm α}(h:Yp s a0 L k sl R m m'):Yl s a0 L k sl R (lft m) (lft m'):=fun a d n y a1 d1 n1 ha e=>by
 unfold Tryz.lft at e
 cases e1:m a d []with
 |ok y1 a2 d2 A2=>
  rw[e1]at e
  cases e
  obtain⟨h1,h2,h3⟩:=h a d [] y a1 d1 A2 ha e1
  refine⟨h1,h2,fun hl d' n'=>?_⟩
  have g:=h3 hl d' []
  unfold Tryz.lft
  cases e3:m' (a+s) d' []with
  |ok y' b d'' A''=>rw[e3]at g;exact g
  |fault c p=>rw[e3]at g;exact g
  |bad=>trivial
 |fault c p=>rw[e1]at e;cases e
 |bad=>rw[e1]at e;cases e
def Yb(s a0 L kT slT slF:Int)(m m':Pm Bool):Prop:=∀a d A y a1 d1 A1,a0≤a→m a d A= .ok y a1 d1 A1→a≤a1∧(a1≤L→y=true→a+kT≤a1)∧(a1+(bif y then slT else slF)≤L→∀d' A',Qx (m' (a+s) d' A') fun y' b=>b=a1+s∧y=y')
theorem Yl.ifb{α:Type}{R:α→α→Prop}{kT slT slF kA kB k sl:Int}{m m':Pm Bool}{A B A' B':Tm α}(h:Yb s a0 L kT slT slF m m')(hA:Yl s a0 L kA sl R A A')(hB:Yl s a0 L kB sl R B B')(e0:0≤sl:=by decide)(e1:slT≤kA+sl:=by decide)(e2:slF≤kB+sl:=by decide)(e3:k≤kT+kA:=by decide)(e4:k≤kB:=by decide):Yl s a0 L k sl R ((lft m).bind fun b=>bif b then A else B) ((lft m').bind fun b=>bif b then A' else B'):=fun a d n z a2 d2 n2 ha e=>by
 unfold Tm.bind Tryz.lft at e
 cases e5:m a d []with
 |ok y a1 d1 A1=>
  rw[e5]at e
  obtain⟨h1,h2,h3⟩:=h a d [] y a1 d1 A1 ha e5
  have hnew:∀d' n' (Q:α→Int→Prop),a1+(bif y then slT else slF)≤L→(∀d' n',dy ((bif y then A' else B') (a1+s) d' n') Q)→dy (((Tryz.lft m').bind fun b=>bif b then A' else B') (a+s) d' n') Q:=fun d' n' Q hl hQ=>by
   have g:=h3 hl d' []
   unfold Tm.bind Tryz.lft
   cases e6:m' (a+s) d' []with
   |ok y' b d'' A''=>
    rw[e6]at g
    obtain⟨rfl,rfl⟩:=g
    exact hQ d'' n'
   |fault c p=>rw[e6]at g;exact g
   |bad=>trivial
  cases y with
  |true=>
   replace e:A a1 d1 n= .ok z a2 d2 n2:=e
   obtain⟨g1,g2,g3⟩:=hA a1 d1 n z a2 d2 n2 (by omega) e
   refine⟨by omega,fun hl=>by have:=g2 hl;have:=h2 (by omega) rfl;omega,fun hl d' n'=>?_⟩
   have g2:=g2 (by omega)
   exact hnew d' n' _ (by show a1+slT≤L;omega) fun d' n'=>g3 hl d' n'
  |false=>
   replace e:B a1 d1 n= .ok z a2 d2 n2:=e
   obtain⟨g1,g2,g3⟩:=hB a1 d1 n z a2 d2 n2 (by omega) e
   refine⟨by omega,fun hl=>by have:=g2 hl;omega,fun hl d' n'=>?_⟩
   have g2:=g2 (by omega)
   exact hnew d' n' _ (by show a1+slF≤L;omega) fun d' n'=>g3 hl d' n'
 |fault c p=>rw[e5]at e;cases e
 |bad=>rw[e5]at e;cases e
variable{T T':List UInt8}{K K':List Tok}
def dD(T:List UInt8)(K:List Tok)(a:Int)(t:Str):Bool:=(ak (aa K a)==1||ak (aa K a)==5)&&say T (aa K a)==t
theorem jI{a:Int}{t:Str}(hc:dD T K a t=true):(ak (aa K a) !=0)=true:=by
 unfold dD at hc
 rw[Bool.and_eq_true,Bool.or_eq_true]at hc
 rcases hc.1 with h|h<;>rw[beq_iff_eq]at h<;>rw[h]<;>rfl
theorem jZ(T:List UInt8)(K:List Tok)(t:Str)(a d:Int)(A:List Nd):bp T K t a d A=bif dD T K a t then .ok true (a+1) d A else .ok false a d A:=by
 show((bif dD T K a t then(aJ K).bind fun _=>.ret true else .ret false):Pm Bool) a d A=_
 cases hc:dD T K a t with
 |false=>rfl
 |true=>
  have hk:=jI hc
  show((aJ K).bind fun _=>.ret true:Pm Bool) a d A= .ok true (a+1) d A
  unfold Pm.bind aJ
  rw[hk]
  rfl
theorem DX(T:List UInt8)(K:List Tok)(t:Str)(a d:Int)(A:List Nd):aE T K t a d A=bif dD T K a t then .ok (tTo (aa K a)) (a+1) d A else .fault 80 (ab (aa K a)):=by
 show((bif dD T K a t then aJ K else(bc T K).bind fun t=>.flt 80 (ab t.1)):Pm Int) a d A=_
 cases hc:dD T K a t with
 |false=>rfl
 |true=>
  have hk:=jI hc
  show aJ K a d A= .ok (tTo (aa K a)) (a+1) d A
  unfold aJ
  rw[hk]
  rfl
theorem ED(T:List UInt8)(K:List Tok)(a d:Int)(A:List Nd):cY T K a d A=bif ak (aa K a)==1&&bW (say T (aa K a))then .ok (say T (aa K a)) (a+1) d A else .fault 80 (ab (aa K a)):=by
 show((bif ak (aa K a)==1&&bW (say T (aa K a))then(aJ K).bind fun _=>.ret (say T (aa K a))else .flt 80 (ab (aa K a))):Pm Str) a d A=_
 cases hc:ak (aa K a)==1&&bW (say T (aa K a))with
 |false=>rfl
 |true=>
  have hk:(ak (aa K a) !=0)=true:=by
   rw[Bool.and_eq_true,beq_iff_eq]at hc
   rw[hc.1]
   rfl
  show((aJ K).bind fun _=>.ret (say T (aa K a)):Pm Str) a d A= .ok (say T (aa K a)) (a+1) d A
  unfold Pm.bind aJ
  rw[hk]
  rfl
theorem Al.is(h:Al T K T' K' s a0 L){a:Int}(h0:a0≤a)(h1:a<L)(t:Str):dD T' K' (a+s) t=dD T K a t:=by
 unfold dD
 rw[(h.tok a h0 h1).1,(h.tok a h0 h1).2]
theorem Al.no(h:Al T K T' K' s a0 L){t:Str}(ht:([41]==t)=false):dD T' K' (L+s) t=false:=by
 unfold dD
 rw[h.sy,ht,Bool.and_false]
theorem iW(h:Al T K T' K' s a0 L):Yp s a0 L 0 1 Rq (bc T K) (bc T' K'):=fun a d A y a1 d1 A1 ha e=>by
 cases e
 exact⟨by omega,fun _=>by omega,fun hl _ _=>⟨rfl,h.tok a ha (by omega)⟩⟩
theorem O2(h:Al T K T' K' s a0 L)(t:Str):Yp s a0 L 0 1 Re (cIs T K t) (cIs T' K' t):=.bind (iW h) fun u v e=>.ret (by rw[e.1,e.2];rfl)
theorem Tj(h:Al T K T' K' s a0 L)(t:Str)(ht:([41]==t)=false):Yb s a0 L 0 1 0 (cIs T K t) (cIs T' K' t):=fun a d A y a1 d1 A1 ha e=>by
 have e:(.ok (dD T K a t) a d A:PR Bool)= .ok y a1 d1 A1:=e
 cases e
 refine⟨by omega,fun _ _=>by omega,fun hl d' A'=>?_⟩
 show Qx (.ok (dD T' K' (a+s) t) (a+s) d' A') _
 refine⟨rfl,?_⟩
 by_cases hlt:a<L
 ·exact(h.is ha hlt t).symm
 ·cases hc:dD T K a t with
  |true=>
   rw[hc]at hl
   replace hl:a+1≤L:=hl
   omega
  |false=>
   rw[hc]at hl
   replace hl:a+0≤L:=hl
   rw[show a=L by omega,h.no ht]
theorem mN(h:Al T K T' K' s a0 L)(t:Str)(ht:([41]==t)=false:=by decide):Yp s a0 L 0 0 Re (bp T K t) (bp T' K' t):=fun a d A y a1 d1 A1 ha e=>by
 rw[jZ]at e
 cases hc:dD T K a t with
 |true=>
  rw[hc]at e
  cases e
  refine⟨by omega,fun _=>by omega,fun hl d' A'=>?_⟩
  rw[jZ,h.is ha (by omega),hc]
  exact⟨by omega,rfl⟩
 |false=>
  rw[hc]at e
  cases e
  refine⟨by omega,fun _=>by omega,fun hl d' A'=>?_⟩
  have:dD T' K' (a+s) t=false:=by
   by_cases hlt:a<L
   ·rw[h.is ha hlt,hc]
   ·rw[show a=L by omega,h.no ht]
  rw[jZ,this]
  exact⟨rfl,rfl⟩
theorem Mc(h:Al T K T' K' s a0 L)(t:Str):Yb s a0 L 1 0 1 (bp T K t) (bp T' K' t):=fun a d A y a1 d1 A1 ha e=>by
 rw[jZ]at e
 cases hc:dD T K a t with
 |true=>
  rw[hc]at e
  cases e
  refine⟨by omega,fun _ _=>by omega,fun hl d' A'=>?_⟩
  replace hl:a+1+0≤L:=hl
  rw[jZ,h.is ha (by omega),hc]
  exact⟨by omega,rfl⟩
 |false=>
  rw[hc]at e
  cases e
  refine⟨by omega,fun _ h=>(Bool.noConfusion h),fun hl d' A'=>?_⟩
  replace hl:a+1≤L:=hl
  rw[jZ,h.is ha (by omega),hc]
  exact⟨rfl,rfl⟩
theorem dG(h:Al T K T' K' s a0 L):Yp s a0 L 1 0 Ru (aJ K) (aJ K'):=fun a d A y a1 d1 A1 ha e=>by
 unfold aJ at e
 cases hc:ak (aa K a) !=0 with
 |true=>
  rw[hc]at e
  cases e
  refine⟨by omega,fun _=>by omega,fun hl d' A'=>?_⟩
  unfold aJ
  rw[←(h.tok a ha (by omega)).1,hc]
  exact⟨by omega,trivial⟩
 |false=>
  rw[hc]at e
  cases e
  have hn:ak (aa K a)=0:=by simpa [bne]using hc
  refine⟨by omega,fun hl=>absurd hn (h.nz a ha hl),fun hl=>absurd hn (h.nz a ha (by omega))⟩
theorem eh(h:Al T K T' K' s a0 L)(t:Str):Yp s a0 L 1 0 Ru (aE T K t) (aE T' K' t):=fun a d A y a1 d1 A1 ha e=>by
 rw[DX]at e
 cases hc:dD T K a t with
 |true=>
  rw[hc]at e
  cases e
  refine⟨by omega,fun _=>by omega,fun hl d' A'=>?_⟩
  rw[DX,h.is ha (by omega),hc]
  exact⟨by omega,trivial⟩
 |false=>rw[hc]at e;cases e
theorem Ox(h:Al T K T' K' s a0 L):Yp s a0 L 1 0 Re (cY T K) (cY T' K'):=fun a d A y a1 d1 A1 ha e=>by
 rw[ED]at e
 cases hc:ak (aa K a)==1&&bW (say T (aa K a))with
 |true=>
  rw[hc]at e
  cases e
  refine⟨by omega,fun _=>by omega,fun hl d' A'=>?_⟩
  have ht:=h.tok a ha (by omega)
  rw[ED,←ht.1,←ht.2,hc]
  exact⟨by omega,rfl⟩
 |false=>rw[hc]at e;cases e
theorem Kb(h:Al T K T' K' s a0 L)(n:Int)(hn:0≤n):Yp s a0 L 0 (n+1) Re (cO T K n) (cO T' K' n):=fun a d A y a1 d1 A1 ha e=>by
 unfold cO at e
 have h1:=h.len
 have h2:=h.len'
 have key:A1=A∧a1=a∧d1=d∧(a+n<(K.length:Int)→y=(ak (aa K (a+n)),say T (aa K (a+n)))):=by
  by_cases hc:a+n≥(K.length:Int)
  ·rw[decide_eq_true hc]at e
   cases e
   exact⟨rfl,rfl,rfl,fun h=>by omega⟩
  ·rw[decide_eq_false hc]at e
   cases e
   exact⟨rfl,rfl,rfl,fun _=>rfl⟩
 obtain⟨rfl,rfl,rfl,hy⟩:=key
 refine⟨by omega,fun _=>by omega,fun hl d' A'=>?_⟩
 have:=h.tok (a1+n) (by omega) (by omega)
 unfold cO
 rw[decide_eq_false (by omega),show a1+s+n=a1+n+s by omega,←this.1,←this.2]
 exact⟨rfl,hy (by omega)⟩
theorem SG{n n':Int}(e:n=n'):Yp s a0 L 0 0 Ru (fF K n) (fF K' n'):=fun a d A y a1 d1 A1 ha e1=>by
 subst e
 unfold fF at e1
 cases hc:decide (n>64)with
 |true=>rw[hc]at e1;cases e1
 |false=>
  rw[hc]at e1
  cases e1
  refine⟨by omega,fun _=>by omega,fun _ d' A'=>?_⟩
  unfold fF
  rw[hc]
  exact⟨rfl,trivial⟩
theorem JB:Yp s a0 L 0 0 Ru (dq K) (dq K'):=fun a d A y a1 d1 A1 ha e1=>by
 unfold dq at e1
 cases hc:decide (d+1>60)with
 |true=>rw[hc]at e1;cases e1
 |false=>
  rw[hc]at e1
  cases e1
  refine⟨by omega,fun _=>by omega,fun _ d' A'=>?_⟩
  unfold dq
  cases decide (d'+1>60)
  ·exact⟨rfl,trivial⟩
  ·exact .inr rfl
theorem Nr:Yp s a0 L 0 0 Ru mV mV:=fun a d A y a1 d1 A1 ha e1=>by
 cases e1
 exact⟨by omega,fun _=>by omega,fun _ _ _=>⟨rfl,trivial⟩⟩
theorem K4(h:Al T K T' K' s a0 L){l l':Nat}(e:l=l'):Yp s a0 L 0 0 Ru (comma T K l) (comma T' K' l'):=.bif (by rw[e]) (.bindS (eh h _) fun _ _ _=>.ret trivial) (.ret trivial)
theorem P9(h:Al T K T' K' s a0 L):Yp s a0 L 1 0 Rn (jD T K) (jD T' K'):=.bind (iW h) fun t u e=>.bif (by rw[e.1]) (.bif (by rw[e.2]) (.bindL (dG h) fun _ _ _=>.ret (lF rfl)) (.bif (by rw[e.2]) (.bindL (dG h) fun _ _ _=>.ret (lF rfl)) (.bif (by rw[e.2]) (.bindL (dG h) fun _ _ _=>.ret (lF rfl)) (.bif (by rw[e.2]) (.bindL (dG h) fun _ _ _=>.ret (lF rfl)) (.bif (by rw[e.2]) (.bindL (dG h) fun _ _ _=>.ret (lF e.2)) .flt))))) .flt
theorem zu(h:Al T K T' K' s a0 L)(n n':Nat)(ih:∀x y,Rn x y→Yp s a0 L 0 2 Rn (cP T K n x) (cP T' K' n' y))(x y:Nd)(e:Rn x y):Yp s a0 L 0 2 Rn (cP T K (n+1) x) (cP T' K' (n'+1) y):=.bind (iW h) fun _ _ _=>.bind (O2 h _) fun _ _ e1=>.bif e1 (.bif (by rw[mark_eq e,e.b,e.d]) .flt (.bind (dG h) fun _ _ _=>ih _ _ (EP e _)))
  (.bind (Kb h 1 (by decide)) fun _ _ e2=>.bind (O2 h _) fun _ _ e3=>.bif (by cases e2;cases e3;rfl) (.bif (by rw[e.d]) .flt (.bind (dG h) fun _ _ _=>.bind (dG h) fun _ _ _=>ih _ _ (PJ e))) (.ret e))
theorem se(h:Al T K T' K' s a0 L):∀(n n':Nat) (x y:Nd),Rn x y→Yp s a0 L 0 2 Rn (cP T K n x) (cP T' K' n' y)
 |0,_,_,_,_=>.bad
 |n+1,0,x,y,e=>.no (zu h n 0 (fun x y e=>se h n 0 x y e) x y e)
 |n+1,n'+1,x,y,e=>zu h n n' (fun x y e=>se h n n' x y e) x y e
theorem xA(h:Al T K T' K' s a0 L):Yp s a0 L 1 2 Rn (dB T K) (dB T' K'):=.bindL (P9 h) fun x y e=>se h _ _ x y e
theorem LN(h:Al T K T' K' s a0 L)(v:Bool):Yp s a0 L 1 2 Rn (cC T K v) (cC T' K' v):=.bind (iW h) fun t u e=>.bif (by rw[e.1,e.2]) (.bindS (k1:=1) (k:=0) (dG h) fun _ _ _=>.bind (eh h _) fun _ _ _=>.bind (xA h) fun x y e1=>.bind (eh h _) fun _ _ _=>.bif (by rw[mark_eq e1,e1.b,e1.d]) .flt (.ret (EP e1 _)))
 (.bif (by rw[e.1,e.2]) (.bindL (dG h) fun _ _ _=>.ret (lF rfl)) (xA h))
end
end Go.Sx.Tryz
