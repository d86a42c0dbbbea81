/- A part of the proof: see the row's text. -/
import Derived.Test.YtaklpoiaicepoaaGreatDoorZa06
import Derived.Lib.QuoteLoop
import Derived.Lib.PrintData
import Derived.Lib.ItoaNum
import Derived.Laws.BytesArg
import Derived.Lib.TrimByte
import Derived.Lib.Repeat
import Derived.Laws.AppendOwn
set_option linter.unusedVariables false
set_option linter.unusedSimpArgs false
noncomputable section
namespace Go.Sx
open Go
variable{G:Nat→Obj→Prop}{P:Program}{E:Env}
theorem pN{D:Ctx}(hs:SRel D){w':World}(hb:RowKit.Below D.w.heap.size D.w w'):SRel {D with w:=w'}∧Ext D {D with w:=w'}:=by
 have hcell:∀k o v,D.w.cell? ⟨k,o,none⟩=some v→w'.cell? ⟨k,o,none⟩=some v:=fun k o v hv=>by
  have hk:k<D.w.heap.size:=by
   unfold World.cell? at hv
   split at hv
   ·rename_i hh;exact(Array.getElem?_eq_some_iff.1 hh).1
   ·cases hv
  rw[hb.cell (p:=⟨k,o,none⟩) hk]
  exact hv
 have hE:Ext D {D with w:=w'}:={
  cells:=fun id ty cs h=>⟨rfl,cs,h⟩
  lists:=fun id ee t g sh L h=>⟨g,sh,L,h,Nat.le_refl _,fun _=>⟨rfl,rfl⟩⟩
  keep:=fun k o v h1 h2=>⟨hcell k o v h1,h2⟩
  frEq:=rfl
  glEq:=rfl
  frKeep:=fun k o v h1 _=>hcell k o v h1
  size:=hb.size
  old:=fun k hk _=>hb.block k hk
  held:=fun k h=>.inl h
  own:=fun k o h=>.inl h
  os:=hb.os
  tape:=hb.tape
  output:=hb.output}
 exact⟨{
  ok:=fun id b h=>(hs.ok id b h).mono hE fun k hk=>hb.block k ((hs.ok id b h).lt hk)
  apart:=hs.apart
  frApart:=hs.frApart
  frOld:=fun k o hf=>Nat.lt_of_lt_of_le (hs.frOld k o hf) hb.size
  gl:=hE.gl_ok hs.gl},hE⟩
theorem ji{f:Nat}{fi:FI}(hf:FIOK P f fi){vals:Array Value}{D:Ctx}{bs:List Blk}(hm:D.m=aH (aw 0 bs))(hs:SRel D){u:Value}{av:AV}(hok:bs.all bX=true)
  (hv:∀D',az D' av u) (hp:bN av=true) (hc:Calls P f vals D.w fun e w'=>e= .returned u∧RowKit.Below D.w.heap.size D.w w'):bJ P f vals D.w (cu D (.ret av,bs)):=by
 refine .inl ⟨eG hf _ _,Calls.mono hc fun e w' ⟨h1,h2⟩=>?_⟩
 subst h1
 obtain⟨h3,h4⟩:=pN hs h2
 exact⟨av,{D with w:=w'},rfl,rfl,hm,h3,h4,hv _,hp,hok⟩
def dx(s:List UInt8):List UInt8:=(Lib.quoteZ Lib.goPrintTabs ⟨⟨s⟩⟩).map fun n=>UInt8.ofNat n.toNat
def xB(args:List AV)(bs:List Blk):Rs (Out×List Blk):=
 match bs.all bX with
 |true=>match args with
  |[.str s]=>match Nat.ble s.length 1099511627776 with
   |true=>.ok (.ret (.str (dx s)),bs)
   |false=>.err 0
  |_=>.err 0
 |false=>.err 0
theorem vf{f:Nat}{fi:FI}(hf:FIOK P f fi)
  (hc:∀(D:Ctx),D.gl=G→SRel D→∀s:ByteArray,10*s.size+12≤140737488355328→Calls P f #[.string s] D.w fun e w'=>e= .returned (.string (strOfNums (Lib.quoteZ Lib.goPrintTabs s)))∧RowKit.Below D.w.heap.size D.w w')
  (args:List AV) (bs:List Blk) (r:Out×List Blk) (h:xB args bs= .ok r) (D:Ctx) (vals:List Value) (hG:D.gl=G) (hm:D.m=aH (aw 0 bs)) (hs:SRel D) (hv:ay D args vals):bJ P f vals.toArray D.w (cu D r):=by
 unfold xB at h
 split at h
 ·rename_i hok
  split at h
  ·rename_i s
   split at h
   ·rename_i hle
    have hle:s.length≤1099511627776:=Nat.le_of_ble_eq_true hle
    simp only[Rs.ok.injEq]at h
    subst h
    obtain⟨v,rr,rfl,h1,h2⟩:=hv
    simp only[ay]at h2
    subst h2
    simp only[az]at h1
    subst h1
    refine ji hf hm hs hok (u:=.string (strOfNums (Lib.quoteZ Lib.goPrintTabs ⟨⟨s⟩⟩))) (fun D'=>rfl) rfl (hc D hG hs _ ?_)
    show 10*s.toArray.size+12≤_
    simp only[List.size_toArray]
    omega
   ·cases h
  ·cases h
 ·cases h
def ru(args:List AV)(bs:List Blk):Rs (Out×List Blk):=
 match bs.all bX with
 |true=>match args with
  |[.int .i64 n,.int .i64 b]=>match decide (b=10)&&(decide (-9223372036854775808≤n)&&decide (n≤9223372036854775807))with
   |true=>.ok (.ret (.str (Lib.itoa n)),bs)
   |false=>.err 0
  |_=>.err 0
 |false=>.err 0
theorem uj{f:Nat}{fi:FI}(hf:FIOK P f fi)
  (hc:∀(D:Ctx),D.gl=G→SRel D→∀n:Int,-9223372036854775808≤n→n≤9223372036854775807→Calls P f #[.int .i64 n,.int .i64 10] D.w fun e w'=>e= .returned (.string ⟨(Lib.itoa n).toArray⟩)∧RowKit.Below D.w.heap.size D.w w')
  (args:List AV) (bs:List Blk) (r:Out×List Blk) (h:ru args bs= .ok r) (D:Ctx) (vals:List Value) (hG:D.gl=G) (hm:D.m=aH (aw 0 bs)) (hs:SRel D) (hv:ay D args vals):bJ P f vals.toArray D.w (cu D r):=by
 unfold ru at h
 split at h
 ·rename_i hok
  split at h
  ·rename_i n b
   split at h
   ·rename_i hck
    simp only[Bool.and_eq_true,decide_eq_true_eq]at hck
    obtain⟨rfl,h3,h4⟩:=hck
    simp only[Rs.ok.injEq]at h
    subst h
    obtain⟨v,rr,rfl,h1,v2,r2,rfl,h5,h2⟩:=hv
    simp only[ay]at h2
    subst h2
    simp only[az]at h1 h5
    subst h1 h5
    exact ji hf hm hs hok (u:=.string ⟨(Lib.itoa n).toArray⟩) (fun D'=>rfl) rfl (hc D hG hs n h3 h4)
   ·cases h
  ·cases h
 ·cases h
def Dp(args:List AV)(bs:List Blk):Rs (Out×List Blk):=
 match bs.all bX with
 |true=>match args with
  |[.str s,.str [c]]=>match decide (c.toNat<128)&&Nat.ble s.length 9223372036854775807 with
   |true=>.ok (.ret (.str (Lib.trimB s c)),bs)
   |false=>.err 0
  |_=>.err 0
 |false=>.err 0
theorem Ii{f:Nat}{fi:FI}(hf:FIOK P f fi)
  (hc:∀(w:World) (s:ByteArray) (c:UInt8),c.toNat<128→s.size≤9223372036854775807→Calls P f #[.string s,.string ⟨#[c]⟩] w fun e w'=>e= .returned (.string ⟨(Lib.trimB s.data.toList c).toArray⟩)∧(w'=w∨w'=w.drew))
  (args:List AV) (bs:List Blk) (r:Out×List Blk) (h:Dp args bs= .ok r) (D:Ctx) (vals:List Value) (hG:D.gl=G) (hm:D.m=aH (aw 0 bs)) (hs:SRel D) (hv:ay D args vals):bJ P f vals.toArray D.w (cu D r):=by
 unfold Dp at h
 split at h
 ·rename_i hok
  split at h
  ·rename_i s c
   split at h
   ·rename_i hck
    simp only[Bool.and_eq_true,decide_eq_true_eq]at hck
    obtain⟨h3,h4⟩:=hck
    have h4:s.length≤9223372036854775807:=Nat.le_of_ble_eq_true h4
    simp only[Rs.ok.injEq]at h
    subst h
    obtain⟨v,rr,rfl,h1,v2,r2,rfl,h5,h2⟩:=hv
    simp only[ay]at h2
    subst h2
    simp only[az]at h1 h5
    subst h1 h5
    refine ji hf hm hs hok (u:=.string ⟨(Lib.trimB s c).toArray⟩) (fun D'=>rfl) rfl (Calls.mono (hc D.w ⟨⟨s⟩⟩ c h3 h4) fun e w' ⟨e1,e2⟩=>⟨e1,?_⟩)
    rcases e2 with rfl|rfl
    ·exact RowKit.Below.refl _ _
    ·exact(RowKit.Below.refl _ _).drew
   ·cases h
  ·cases h
 ·cases h
end Go.Sx
namespace Go.Sx
open Go
variable{G:Nat→Obj→Prop}{P:Program}{E:Env}
theorem w7(bs:List Blk)(b:Blk):aH (aw 0 (bs++[b]))=bM (aH (aw 0 bs)) bs.length (some b):=by
 funext j
 simp only[aN,Nat.zero_le,if_true,Nat.sub_zero,bM]
 by_cases h:j=bs.length
 ·subst h;simp
 ·rw[if_neg h]
  by_cases h2:j<bs.length
  ·rw[List.getElem?_append_left h2]
  ·rw[List.getElem?_eq_none (by simp;omega),List.getElem?_eq_none (by omega)]
theorem yH(bs:List Blk):aH (aw 0 bs) bs.length=none:=by
 simp[aN]
theorem BV{D:Ctx}(hs:SRel D){bs:List Blk}(hm:D.m=aH (aw 0 bs)){w':World}(hb:RowKit.Below D.w.heap.size D.w w'){e:TypeId}{L:List Int}{u:Value}
  (hr:w'.ownsRow D.w.heap.size e 1 u L.length (L.map (Value.int .i64))):
  ∃D':Ctx,D'.w=w'∧D'.m=aH (aw 0 (bs++[.list e (.int .i64) 0 false L]))∧SRel D'∧Ext D D'∧az D' (.own bs.length 0) u:=by
 have hnone:D.m bs.length=none:=by rw[hm];exact yH bs
 obtain⟨g',a,cap,rfl,hg',hlies⟩:∃g' a cap,u= .slice a L.length cap∧g'=G.list a cap∧∀k,dJ g' k→D.w.heap.size≤k:=by
  rcases hr.2 with⟨rfl,hn⟩|⟨g,cap,cur,rfl,hg,_⟩
  ·exact⟨_,none,0,by rw[hn],rfl,fun k hk=>hk.elim⟩
  ·exact⟨_,some ⟨g,0,none⟩,cap,rfl,rfl,fun k hk=>by rw[show k=g from hk];exact hg⟩
 obtain⟨hE,hok⟩:=pF hs (id:=bs.length) (b':=.list e (.int .i64) 0 false L) (g':=g') (w':=w') hb.size (fun k hk _=>hb.block k hk) (fun k hk=>.inr (hlies k hk)) (fun k o hk=>.inr (hlies k (c7 hk)))
  (fun _ cs h=>by rw[hnone]at h;cases h) (fun _ _ _ _ _ h=>by rw[hnone]at h;cases h)
  (fun k o v hv _=>by
   have hk:k<D.w.heap.size:=by
    unfold World.cell? at hv
    split at hv
    ·rename_i hh;exact(Array.getElem?_eq_some_iff.1 hh).1
    ·cases hv
   rw[hb.cell (p:=⟨k,o,none⟩) hk]
   exact hv) hb.os hb.tape hb.output
 refine⟨⟨w',bM D.m bs.length (some (.list e (.int .i64) 0 false L)),bM D.φ bs.length g',D.fr,D.gl⟩,rfl,by rw[w7,←hm],hok ?_,hE,e,.int .i64,0,false,L,by simp[bM],Nat.le_refl _,a,_,cap,rfl,fun _=>⟨by simp[bM,hg'],rfl⟩⟩
 refine⟨a,cap,hg',by simp[Ty.size],?_,?_⟩
 ·rcases hr.2 with⟨h,hn⟩|⟨g,cap',cur,h,_,_,hn,_⟩
  ·exact Nat.le_trans (Nat.le_of_eq hn) (Nat.zero_le _)
  ·simp only[Value.slice.injEq]at h
   obtain⟨_,_,rfl⟩:=h
   exact hn
 ·rcases hr.2 with⟨h,hn⟩|⟨g,cap',cur,h,hg,hh,hn,hcm,hcs,ht⟩
  ·simp only[Value.slice.injEq]at h
   obtain⟨rfl,_,rfl⟩:=h
   rfl
  ·simp only[Value.slice.injEq]at h
   obtain⟨rfl,_,rfl⟩:=h
   refine⟨rfl,cur,0,0,hh,by simp[hcs,Ty.size],by simp,fun h=>(by cases h),fun i x hi=>?_⟩
   show seg cur.toList (0+i*1) 1=[.int .i64 x]
   have h2:cur.toList[i]? =some (.int .i64 x):=by
    have h3:(cur.toList.take (L.length*1))[i]? =some (.int .i64 x):=by
     rw[ht,List.getElem?_map]
     have:(L:List Int)[i]? =some x:=hi
     rw[this];rfl
    rw[List.getElem?_take]at h3
    split at h3
    ·exact h3
    ·cases h3
   apply List.ext_getElem?
   intro j
   rw[cd]
   cases j with
   |zero=>simpa using h2
   |succ j=>simp
def xH(e:TypeId)(args:List AV)(bs:List Blk):Rs (Out×List Blk):=
 match bs.all bX with
 |true=>match args with
  |[a]=>match a with
   | .nils=>.ok (.ret .nils,bs)
   |a=>match eK (aH (aw 0 bs)) a with
    |some (.mk t L _)=>match ey t (.int .i64) L with
     |some L'=>match Nat.ble (List.length L') 17592186044416 with
      |true=>.ok (.ret (.own bs.length 0),bs++[.list e (.int .i64) 0 false L'])
      |false=>.err 0
     |none=>.err 0
    |none=>.err 0
  |_=>.err 0
 |false=>.err 0
theorem Gx{f:Nat}{fi:FI}(hf:FIOK P f fi){e:TypeId}
  (hc:∀(b off n c:Nat) (zs:List Int) (w:World),n≤zs.length→n*8≤140737488355328→(∀j,j<zs.length→w.cell? ⟨b,off+j,none⟩=some (.int .i64 (zs.getD j 0)))→
   Calls P f #[.slice (some ⟨b,off,none⟩) n c] w fun en w'=>∃v',en= .returned v'∧w'.ownsRow w.heap.size e 1 v' n ((zs.take n).map (Value.int .i64))∧v'≠ .slice none 0 0∧RowKit.Below w.heap.size w w')
  (hn:∀(n c:Nat) (w:World),Calls P f #[.slice none n c] w fun en w'=>en= .returned (.slice none 0 0)∧w'=w)
  (hz:∀(a:Addr) (c:Nat) (w:World),Calls P f #[.slice (some a) 0 c] w fun en w'=>∃v',en= .returned v'∧w'.ownsRow w.heap.size e 1 v' 0 []∧v'≠ .slice none 0 0∧RowKit.Below w.heap.size w w')
  (args:List AV) (bs:List Blk) (r:Out×List Blk) (h:xH e args bs= .ok r) (D:Ctx) (vals:List Value) (hG:D.gl=G) (hm:D.m=aH (aw 0 bs)) (hs:SRel D) (hv:ay D args vals):bJ P f vals.toArray D.w (cu D r):=by
 unfold xH at h
 split at h
 ·rename_i hok
  split at h
  ·rename_i a
   obtain⟨v,rr,rfl,h1,h2⟩:=hv
   simp only[ay]at h2
   subst h2
   split at h
   ·simp only[Rs.ok.injEq]at h
    subst h
    simp only[az]at h1
    subst h1
    exact ji hf hm hs hok (u:=.slice none 0 0) (fun D'=>by simp[az]) rfl (Calls.mono (hn 0 0 D.w) fun en w' ⟨e1,e2⟩=>⟨e1,by rw[e2];exact RowKit.Below.refl _ _⟩)
   ·split at h
    ·rename_i t L m hsl
     split at h
     ·rename_i L' hcL
      obtain⟨ht,hL⟩:=eS hcL
      subst ht
      obtain rfl:L=L':=hL.symm
      split at h
      ·rename_i hlen
       have hlen:List.length L≤17592186044416:=Nat.le_of_ble_eq_true hlen
       simp only[Rs.ok.injEq]at h
       subst h
       rw[←hm]at hsl
       obtain⟨ad,cap,rfl,hcap,hx⟩:=ly hs h1 hsl
       refine .inl ⟨eG hf _ _,?_⟩
       have fin:∀en w',(∃v',en= .returned v'∧w'.ownsRow D.w.heap.size e 1 v' (List.length L) (List.map (Value.int .i64) L)∧RowKit.Below D.w.heap.size D.w w')→cu D (.ret (.own bs.length 0),bs++[.list e (.int .i64) 0 false L]) en w':=by
        rintro en w' ⟨v',rfl,hr,hb⟩
        obtain⟨D',k1,k2,k3,k4,k5⟩:=BV hs hm hb hr
        exact⟨_,D',rfl,k1,k2,k3,k4,k5,rfl,by rw[List.all_append,hok];rfl⟩
       cases L with
       |nil=>
        cases ad with
        |none=>exact Calls.mono (hn _ _ D.w) fun en w' ⟨e1,e2⟩=>fin en w' ⟨_,e1,⟨rfl,.inl ⟨rfl,rfl⟩⟩,by rw[e2];exact RowKit.Below.refl _ _⟩
        |some ad=>exact Calls.mono (hz ad cap D.w) fun en w' ⟨v',e1,e2,_,e3⟩=>fin en w' ⟨v',e1,e2,e3⟩
       |cons x L=>
        obtain⟨ad',cs0,rfl,hsp,_⟩:=hx 0 x (by simp)
        obtain⟨k,o,sp⟩:=ad'
        simp only at hsp
        subst hsp
        refine Calls.mono (hc k o (List.length (x::L)) cap (x::L) D.w (Nat.le_refl _) (by omega) (fun j hj=>?_)) fun en w' ⟨v',e1,e2,_,e3⟩=>fin en w' ⟨v',e1,by{have h:(x::L).take (List.length (x::L))=x::L:=List.take_length;exact Eq.mp (congrArg (fun Z:List Int=>w'.ownsRow D.w.heap.size e 1 v' (List.length (x::L)) (List.map (Value.int .i64) Z)) h) e2},e3⟩
        obtain⟨ad2,cs,e1,_,hcell,hrep⟩:=hx j (x::L)[j] (List.getElem?_eq_getElem hj)
        cases e1
        have:cs=[.int .i64 ((x::L)[j])]:=hrep
        subst this
        have:=hcell 0 _ rfl
        have hg:∀(Z:List Int) (hj:j<Z.length),Z.getD j 0=Z[j]:=fun Z hj=>by simp[List.getD,hj]
        have hg2:=hg (x::L) hj
        simp only[Ty.size,Nat.mul_one,Nat.add_zero]at this
        exact Eq.trans this (congrArg (fun z:Int=>some (Value.int .i64 z)) hg2.symm)
      ·cases h
     ·cases h
    ·cases h
  ·cases h
 ·cases h
end Go.Sx
namespace Go.Sx
open Go
variable{G:Nat→Obj→Prop}{P:Program}{E:Env}
theorem kx{bs:List Blk}{b:Nat}{x:Blk}(h:b<bs.length):aH (aw 0 (bs.set b x))=bM (aH (aw 0 bs)) b (some x):=by
 funext j
 simp only[aN,Nat.zero_le,if_true,Nat.sub_zero,bM,List.getElem?_set]
 by_cases hj:j=b
 ·subst hj;simp[h]
 ·rw[if_neg (Ne.symm hj),if_neg hj]
theorem xn{α:Type}{p:α→Bool}:∀{l:List α} {i:Nat} {x:α},l.all p=true→p x=true→(l.set i x).all p=true
 |[],_,_,h,_=>h
 |a::l,0,x,h,hx=>by simp only[List.all_cons,Bool.and_eq_true,List.set_cons_zero]at *; exact⟨hx,h.2⟩
 |a::l,i+1,x,h,hx=>by simp only[List.all_cons,Bool.and_eq_true,List.set_cons_succ]at *; exact⟨h.1,xn h.2 hx⟩
theorem Ay{w:World}{rb off:Nat}{c:Array Value}{ty:TypeId}{fz:Nat×Nat}(hh:w.heap[rb]? =some (.cells c ty fz))(v:Value):w.setCell ⟨rb,off,none⟩ v=w.setRow rb (c.setIfInBounds off v):=by
 unfold World.setCell World.setRow
 congr 1
 apply Array.ext_getElem?
 intro i
 simp only[Array.getElem?_modify]
 by_cases hi:rb=i
 ·subst hi;simp[hh]
 ·simp[hi]
def isSelf(b:Nat):AV→Bool
 | .nilp=>true
 | .ref b' 0=>Nat.beq b b'
 | .bself b'=>Nat.beq b b'
 |_=>false
def jP(tB:TypeId)(args:List AV)(bs:List Blk):Rs (Out×List Blk):=
 match bs.all bX with
 |true=>match args with
  |[.ref b 0]=>match nth bs b with
   |some (.cells ty [x,y])=>match Nat.beq ty tB&&isSelf b x with
    |true=>.ok (.ret (.tup []),bs.set b (.cells ty [.bself b,y]))
    |false=>.err 0
   |_=>.err 0
  |_=>.err 0
 |false=>.err 0
theorem uB{f:Nat}{fi:FI}(hf:FIOK P f fi){tB:TypeId}
  (hc1:∀(b:Nat) (w:World),w.cell? ⟨b,0,none⟩=some (.pointer none)→w.shape? b=some (tB,2)→w.frozen? ⟨b,0,none⟩=false→
   Calls P f #[.pointer (some ⟨b,0,none⟩)] w fun e w'=>e= .returned (.tuple #[])∧w'=w.setCell ⟨b,0,none⟩ (.pointer (some ⟨b,0,none⟩)))
  (hc2:∀(b:Nat) (w:World),w.cell? ⟨b,0,none⟩=some (.pointer (some ⟨b,0,none⟩))→Calls P f #[.pointer (some ⟨b,0,none⟩)] w fun e w'=>e= .returned (.tuple #[])∧w'=w)
  (args:List AV) (bs:List Blk) (r:Out×List Blk) (h:jP tB args bs= .ok r) (D:Ctx) (vals:List Value) (hG:D.gl=G) (hm:D.m=aH (aw 0 bs)) (hs:SRel D) (hv:ay D args vals):bJ P f vals.toArray D.w (cu D r):=by
 unfold jP at h
 split at h
 ·rename_i hok
  split at h
  ·rename_i b
   obtain⟨v,rr,rfl,h1,h2⟩:=hv
   simp only[ay]at h2
   subst h2
   split at h
   ·rename_i ty x y hb
    split at h
    ·rename_i hck
     simp only[Bool.and_eq_true]at hck
     obtain⟨hty,hself⟩:=hck
     have hty:=beq_eq hty
     subst hty
     simp only[Rs.ok.injEq]at h
     subst h
     rw[dN]at hb
     have hlt:b<bs.length:=(List.getElem?_eq_some_iff.1 hb).1
     have hmb:D.m b=some (.cells ty [x,y]):=by rw[hm];simp[aN,hb]
     obtain⟨rb,ty',cs',e1,hφ,rfl⟩:=h1
     obtain⟨rb',c,hφ',hh,hrel,hleaf⟩:=hs.ok b _ hmb
     rw[hφ]at hφ'
     cases hφ'
     obtain⟨v0,r0,hc0,hx0,hrel1⟩:=hrel
     obtain⟨v1,r1,hc1',hx1,hr2⟩:=hrel1
     simp only[ay]at hr2
     subst hr2 hc1'
     have hc:c= #[v0,v1]:=by apply Array.ext';simpa using hc0
     subst hc
     have hcell0:D.w.cell? ⟨rb,0,none⟩=some v0:=by simp[World.cell?,hh]
     have hv0:v0= .pointer none∨v0= .pointer (some ⟨rb,0,none⟩):=by
      unfold isSelf at hself
      split at hself
      ·exact .inl hx0
      ·rename_i b'
       have:=beq_eq hself
       subst this
       obtain⟨rb2,_,_,_,hφ2,e⟩:=hx0
       rw[hφ]at hφ2
       cases hφ2
       exact .inr e
      ·rename_i b'
       have:=beq_eq hself
       subst this
       obtain⟨rb2,_,_,_,hφ2,e⟩:=hx0
       rw[hφ]at hφ2
       cases hφ2
       exact e
      ·cases hself
     have hok':(bs.set b (.cells ty [.bself b,y])).all bX=true:=by
      refine xn hok ?_
      have:=List.all_eq_true.1 hok _ (List.mem_of_getElem? hb)
      simp only[bX,List.all_cons,Bool.and_eq_true,List.all_nil,and_true]at this⊢
      exact⟨rfl,this.2⟩
     have hleaf':([.bself b,y]:List AV).all AV.leaf=true:=by
      simp only[List.all_cons,Bool.and_eq_true,List.all_nil,and_true]at hleaf⊢
      exact⟨rfl,hleaf.2⟩
     refine .inl ⟨eG hf _ _,?_⟩
     rcases hv0 with rfl|rfl
     ·refine Calls.mono (hc1 rb D.w hcell0 (by simp[World.shape?,hh]) (by simp[World.frozen?,hh])) fun e w' ⟨k1,k2⟩=>?_
      subst k1 k2
      rw[Ay hh]
      obtain⟨hE,hS⟩:=wY hs (id:=b) (b':=.cells ty [.bself b,y]) (c':= #[.pointer (some ⟨rb,0,none⟩),v1]) hmb hh (by rw[hφ];rfl)
       (fun k o hk=>by rw[hφ]at hk⊢;exact hk) (fun ty2 cs2 e=>by cases e;exact⟨_,rfl⟩) (fun _ _ _ _ _ e=>by cases e)
       (fun j hj=>(hj (by rw[hφ];rfl)).elim)
      refine⟨_,_,rfl,rfl,by rw[kx hlt,←hm],hS ⟨rb,#[.pointer (some ⟨rb,0,none⟩),v1],hφ,setRow_heap D.w rb _ _ ty (0,0) hh,⟨_,_,rfl,?_,_,_,rfl,hx1.mono hE,rfl⟩,hleaf'⟩,hE,⟨#[],rfl,rfl⟩,rfl,hok'⟩
      exact⟨rb,ty,[.bself b,y],by simp[bM],hφ,.inr rfl⟩
     ·refine Calls.mono (hc2 rb D.w hcell0) fun e w' ⟨k1,k2⟩=>?_
      subst k1 k2
      obtain⟨hE,hS⟩:=j9 hs (id:=b) (b':=.cells ty [.bself b,y]) (g':=D.φ b) (fun k hk=>⟨_,hmb,hk⟩) (fun k o hk=>⟨_,hmb,by rw[hφ]at hk⊢;exact hk⟩)
       (fun ty2 cs2 e=>by rw[hmb]at e;cases e;exact⟨rfl,_,rfl⟩) (fun _ _ _ _ _ e=>by rw[hmb]at e;cases e)
      simp only[eX]at hE hS
      refine⟨_,⟨D.w,bM D.m b (some (.cells ty [.bself b,y])),D.φ,D.fr,D.gl⟩,rfl,rfl,by rw[kx hlt,←hm],hS ⟨rb,_,hφ,hh,⟨_,_,rfl,?_,_,_,rfl,hx1.mono hE,rfl⟩,hleaf'⟩,hE,⟨#[],rfl,rfl⟩,rfl,hok'⟩
      exact⟨rb,ty,[.bself b,y],by simp[bM],hφ,.inr rfl⟩
    ·cases h
   ·cases h
  ·cases h
 ·cases h
def isByte(n:Int):Bool:=decide (0≤n)&&decide (n<256)
def dz(L:List Int):List UInt8:=L.map fun n=>UInt8.ofNat n.toNat
def rT(tB eB:TypeId)(args:List AV)(bs:List Blk):Rs (Out×List Blk):=
 match bs.all bX with
 |true=>match args with
  |[.ref b 0]=>match nth bs b with
   |some (.cells ty [_,y])=>match Nat.beq ty tB with
    |true=>match y with
     | .nils=>.ok (.ret (.str []),bs)
     | .own b2 g=>match nth bs b2 with
      |some (.list ee t g' _ L)=>match ey t (.int .u8) L with
       |some L'=>match Nat.beq g g'&&Nat.beq ee eB&&(List.all L' isByte&&Nat.ble (List.length L') 9223372036854775807)with
        |true=>.ok (.ret (.str (dz L')),bs.set b2 (.list ee t g' true L))
        |false=>.err 0
       |none=>.err 0
      |_=>.err 0
     |_=>.err 0
    |false=>.err 0
   |_=>.err 0
  |_=>.err 0
 |false=>.err 0
theorem yO{L:List Int}(h:L.all isByte=true){j:Nat}{x:UInt8}(hx:(dz L)[j]? =some x):L[j]? =some (x.toNat:Int):=by
 simp only[dz,List.getElem?_map,Option.map_eq_some_iff]at hx
 obtain⟨n,hn,rfl⟩:=hx
 have:=List.all_eq_true.1 h n (List.mem_of_getElem? hn)
 simp only[isByte,Bool.and_eq_true,decide_eq_true_eq]at this
 rw[hn]
 congr 1
 simp only[UInt8.toNat_ofNat']
 omega
theorem CB{C:Ctx}(hs:SRel C){b:Nat}{ee:Nat}{t:Ty}{g:Nat}{L:List t.den}(hm:C.m b=some (.list ee t g true L)){ad:Addr}{cap:Nat}(hφ:C.φ b= .list (some ad) cap){n:Nat}(hn:n≤L.length*t.size):
  let C':Ctx:={C with w:=(C.w.drew.freeze ⟨ad.block,ad.off,none⟩ n)}
  SRel C'∧Ext C C':=by
 intro C'
 obtain⟨a,cap',hφ',hz,hc,hbk⟩:=hs.ok b _ hm
 rw[hφ]at hφ'
 cases hφ'
 obtain⟨hsp,c,lo,hi,hh,hsz,hfz,hsh,hx⟩:=hbk
 have hheap:∀k,k≠ad.block→C'.w.heap[k]? =C.w.heap[k]? :=fun k hk=>by
  show(C.w.drew.freeze ⟨ad.block,ad.off,none⟩ n).heap[k]? =_
  unfold World.freeze
  split
  ·rfl
  ·simp only[Array.getElem?_modify]
   rw[if_neg (Ne.symm hk)]
   rfl
 have hat:∃lo' hi',C'.w.heap[ad.block]? =some (.cells c ee (lo',hi'))∧hi'≤ad.off+L.length*t.size:=by
  show ∃lo' hi',(C.w.drew.freeze ⟨ad.block,ad.off,none⟩ n).heap[ad.block]? =_∧_
  simp only[if_true]at hfz
  unfold World.freeze
  split
  ·exact⟨lo,hi,hh,hfz⟩
  ·have:C.w.drew.heap[ad.block]? =some (.cells c ee (lo,hi)):=hh
   simp only[Array.getElem?_modify,if_true,this,Option.map_some]
   by_cases e:(lo==hi)=true
   ·refine⟨ad.off,ad.off+n,by simp[e],by omega⟩
   ·refine⟨min lo ad.off,max hi (ad.off+n),by simp[e],by omega⟩
 have hcell:∀k o,C'.w.cell? ⟨k,o,none⟩=C.w.cell? ⟨k,o,none⟩:=fun k o=>by
  by_cases hk:k=ad.block
  ·subst hk
   obtain⟨lo',hi',h1,_⟩:=hat
   simp only[World.cell?,h1,hh]
  ·simp only[World.cell?,hheap k hk]
 have hsize:C'.w.heap.size=C.w.heap.size:=by
  show(C.w.drew.freeze ⟨ad.block,ad.off,none⟩ n).heap.size=_
  unfold World.freeze
  split
  ·rfl
  ·simp only[Array.size_modify];rfl
 have hosh:C'.w.os=C.w.os∧C'.w.tape=C.w.tape∧C'.w.output=C.w.output:=by
  show(C.w.drew.freeze ⟨ad.block,ad.off,none⟩ n).os=_∧(C.w.drew.freeze ⟨ad.block,ad.off,none⟩ n).tape=_∧(C.w.drew.freeze ⟨ad.block,ad.off,none⟩ n).output=_
  unfold World.freeze
  split<;>exact⟨rfl,rfl,rfl⟩
 obtain⟨hE,hok⟩:=pF hs (id:=b) (b':=.list ee t g true L) (g':=C.φ b) (w':=C'.w) (by rw[hsize];exact Nat.le_refl _)
  (fun k hk hn=>hheap k fun e=>hn ⟨_,hm,by rw[hφ,e];rfl⟩) (fun k hk=>.inl ⟨_,hm,hk⟩) (fun k o hk=>.inl ⟨_,hm,hk⟩) (fun _ _ e=>by rw[hm]at e;cases e)
  (fun ee2 t2 g2 sh2 L2 e=>by rw[hm]at e;cases e;exact⟨g,true,L,rfl,Nat.le_refl _,fun _=>⟨rfl,rfl⟩⟩) (fun k o v hv _=>by rw[hcell];exact hv) hosh.1 hosh.2.1 hosh.2.2
 have hmm:bM C.m b (some (.list ee t g true L))=C.m:=by rw[←hm];exact eX _ _
 simp only[eX,hmm]at hE hok
 refine⟨hok ?_,hE⟩
 obtain⟨lo',hi',h1,h2⟩:=hat
 refine⟨some ad,cap,hφ,hz,hc,hsp,c,lo',hi',h1,hsz,by simpa using h2,fun _ o k1 k2 k3=>hsh rfl o k1 k2 k3,fun i x hi=>(hx i x hi).mono hE.keep⟩
theorem BR{f:Nat}{fi:FI}(hf:FIOK P f fi){tB eB:TypeId}
  (hfull:∀(b g o cap:Nat) (p:Value) (l:List UInt8) (w:World),l≠[]→l.length≤cap→l.length≤9223372036854775807→∀(cur:Array Value) (fz:Nat×Nat),
   w.heap[b]? =some (.cells #[p,.slice (some ⟨g,o,none⟩) l.length cap] tB (0,0))→w.heap[g]? =some (.cells cur eB fz)→o+l.length≤cur.size→
   (∀j x,l[j]? =some x→w.cell? ((⟨g,o,none⟩:Addr).add j)=some (.int .u8 x.toNat))→
   Calls P f #[.pointer (some ⟨b,0,none⟩)] w fun e w'=>e= .returned (.string ⟨l.toArray⟩)∧w'=w.drew.freeze ⟨g,o,none⟩ l.length)
  (hnil:∀(b:Nat) (p:Value) (w:World),w.heap[b]? =some (.cells #[p,.slice none 0 0] tB (0,0))→Calls P f #[.pointer (some ⟨b,0,none⟩)] w fun e w'=>e= .returned (.string ⟨#[]⟩)∧RowKit.Below w.heap.size w w')
  (hnoroom:∀(b g o:Nat) (p:Value) (cur:Array Value) (w:World),w.heap[b]? =some (.cells #[p,.slice (some ⟨g,o,none⟩) 0 0] tB (0,0))→∀(fz:Nat×Nat),w.heap[g]? =some (.cells cur eB fz)→
   Calls P f #[.pointer (some ⟨b,0,none⟩)] w fun e w'=>e= .returned (.string ⟨#[]⟩)∧RowKit.Below w.heap.size w w')
  (hroom:∀(b g o cap:Nat) (p:Value) (w:World),cap≠0→w.heap[b]? =some (.cells #[p,.slice (some ⟨g,o,none⟩) 0 cap] tB (0,0))→Calls P f #[.pointer (some ⟨b,0,none⟩)] w fun e w'=>e= .returned (.string ⟨#[]⟩)∧RowKit.Below w.heap.size w w')
  (args:List AV) (bs:List Blk) (r:Out×List Blk) (h:rT tB eB args bs= .ok r) (D:Ctx) (vals:List Value) (hG:D.gl=G) (hm:D.m=aH (aw 0 bs)) (hs:SRel D) (hv:ay D args vals):bJ P f vals.toArray D.w (cu D r):=by
 unfold rT at h
 split at h
 ·rename_i hok
  split at h
  ·rename_i b
   obtain⟨v,rr,rfl,h1,h2⟩:=hv
   simp only[ay]at h2
   subst h2
   split at h
   ·rename_i ty x y hb
    split at h
    ·rename_i hty
     have hty:=beq_eq hty
     subst hty
     rw[dN]at hb
     have hmb:D.m b=some (.cells ty [x,y]):=by rw[hm];simp[aN,hb]
     obtain⟨rb,ty',cs',e1,hφ,rfl⟩:=h1
     obtain⟨rb',c,hφ',hh,hrel,hleaf⟩:=hs.ok b _ hmb
     rw[hφ]at hφ'
     cases hφ'
     obtain⟨v0,r0,hc0,hx0,hrel1⟩:=hrel
     obtain⟨v1,r1,hc1',hx1,hr2⟩:=hrel1
     simp only[ay]at hr2
     subst hr2 hc1'
     have hc:c= #[v0,v1]:=by apply Array.ext';simpa using hc0
     subst hc
     split at h
     ·simp only[Rs.ok.injEq]at h
      subst h
      simp only[az]at hx1
      subst hx1
      exact ji hf hm hs hok (u:=.string ⟨#[]⟩) (fun D'=>rfl) rfl (hnil rb v0 D.w hh)
     ·rename_i b2 g
      split at h
      ·rename_i ee t g' sh L hb2
       split at h
       ·rename_i L' hcL
        obtain⟨ht,hL⟩:=eS hcL
        subst ht
        obtain rfl:L=L':=hL.symm
        split at h
        ·rename_i hck
         simp only[Bool.and_eq_true]at hck
         obtain⟨⟨hg,hee⟩,hby,hlen⟩:=hck
         have hg:=beq_eq hg
         have hee:=beq_eq hee
         subst hg hee
         have hlen:List.length L≤9223372036854775807:=Nat.le_of_ble_eq_true hlen
         simp only[Rs.ok.injEq]at h
         subst h
         rw[dN]at hb2
         have hlt:b2<bs.length:=(List.getElem?_eq_some_iff.1 hb2).1
         have hmb2:D.m b2=some (.list ee (.int .u8) g sh L):=by rw[hm];simp[aN,hb2]
         obtain⟨a,cap,hφ2,hv1,hcap,hz⟩:=kU hs hx1 hmb2
         obtain⟨a',cap',hφ2',_,_,hbk⟩:=hs.ok b2 _ hmb2
         rw[hφ2]at hφ2'
         cases hφ2'
         have hok':(bs.set b2 (.list ee (.int .u8) g true L)).all bX=true:=xn hok rfl
         have hm':∀(C:Ctx),C.m=D.m→bM C.m b2 (some (Blk.list ee (.int .u8) g true L))=aH (aw 0 (bs.set b2 (.list ee (.int .u8) g true L))):=fun C hC=>by rw[kx hlt,←hm,hC]
         have hLl:List.length L=(dz L).length:=(List.length_map (as:=(L:List Int)) (fun n:Int=>UInt8.ofNat n.toNat)).symm
         subst hv1
         refine .inl ⟨eG hf _ _,?_⟩
         have empty:∀{en:Ending} {w':World},List.length L=0→en= .returned (.string ⟨#[]⟩)∧RowKit.Below D.w.heap.size D.w w'→cu D (.ret (.str (dz L)),bs.set b2 (.list ee (.int .u8) g true L)) en w':=by
          intro en w' hl0 ⟨k1,k2⟩
          subst k1
          obtain⟨s1,s2⟩:=pN hs k2
          obtain⟨s3,s4,_⟩:=qi s1 (b:=b2) (ee:=ee) (t:=.int .u8) (g:=g) (sh:=sh) (L:=L) hmb2
          have hL0:dz L=[]:=by rw[←List.length_eq_zero_iff,←hLl];exact hl0
          refine⟨_,_,rfl,rfl,hm' _ rfl,s3,s2.trans s4,?_,rfl,hok'⟩
          show _=_
          rw[hL0]
         cases a with
         |none=>
          have hc0:cap=0:=hbk
          have hl0:List.length L=0:=by have:List.length L≤cap:=hcap;omega
          subst hc0
          refine Calls.mono (hnil rb v0 D.w ?_) fun en w' hk=>empty hl0 hk
          rw[hh]
          have:(List.length L:Nat)=0:=hl0
          rw[show(Value.slice none (List.length L) 0)= .slice none 0 0 by rw[this]]
         |some ad=>
          obtain⟨k0,o0,sp⟩:=ad
          obtain⟨hsp,cur,lo,hi,hcur,hsz,hfz,hsh,hxx⟩:=hbk
          simp only at hsp hcur hsz hfz hsh hxx
          subst hsp
          by_cases hl0:List.length L=0
          ·by_cases hcap0:cap=0
           ·subst hcap0
            refine Calls.mono (hnoroom rb k0 o0 v0 cur D.w ?_ (lo,hi) hcur) fun en w' hk=>empty hl0 hk
            rw[hh,show(Value.slice (some ⟨k0,o0,none⟩) (List.length L) 0)= .slice (some ⟨k0,o0,none⟩) 0 0 by rw[hl0]]
           ·refine Calls.mono (hroom rb k0 o0 cap v0 D.w hcap0 ?_) fun en w' hk=>empty hl0 hk
            rw[hh,show(Value.slice (some ⟨k0,o0,none⟩) (List.length L) cap)= .slice (some ⟨k0,o0,none⟩) 0 cap by rw[hl0]]
          ·have hne:dz L≠[]:=fun e=>hl0 (by rw[hLl,e];rfl)
           have hcapL:List.length L≤cap:=hcap
           simp only[Ty.size,Nat.mul_one]at hsz
           refine Calls.mono (hfull rb k0 o0 cap v0 (dz L) D.w hne (by omega) (by omega) cur (lo,hi) (by rw[hh,hLl]) hcur (by omega) fun j x hx=>?_) fun en w' hk=>?_
           ·have hj:=yO hby hx
            have:=hxx j (x.toNat:Int) hj
            have h3:seg cur.toList (o0+j*1) 1=[.int .u8 x.toNat]:=this
            have h4:=congrArg (·[0]?) h3
            simp only[cd,Nat.mul_one,Nat.zero_lt_one,if_true,Nat.add_zero,List.getElem?_cons_zero]at h4
            have h5:cur[o0+j]? =some (.int .u8 x.toNat):=by simpa using h4
            rw[addr_add]
            simp only[World.cell?,hcur]
            exact h5
           ·obtain⟨k1,k2⟩:=hk
            subst k1 k2
            obtain⟨s3,s4,_⟩:=qi hs (b:=b2) (ee:=ee) (t:=.int .u8) (g:=g) (sh:=sh) (L:=L) hmb2
            obtain⟨s5,s6⟩:=CB s3 (b:=b2) (ee:=ee) (t:=.int .u8) (g:=g) (L:=L) (by simp[bM]) (ad:=⟨k0,o0,none⟩) (cap:=cap) hφ2 (n:=(dz L).length) (by simp only[Ty.size,Nat.mul_one];exact Nat.le_of_eq hLl.symm)
            exact⟨_,_,rfl,rfl,hm' _ rfl,s5,s4.trans s6,rfl,rfl,hok'⟩
        ·cases h
       ·cases h
      ·cases h
     ·cases h
    ·cases h
   ·cases h
  ·cases h
 ·cases h
end Go.Sx
namespace Go.Sx
open Go
variable{G:Nat→Obj→Prop}{P:Program}{E:Env}
abbrev Mv:=List AV→List Blk→Rs (Out×List Blk)
abbrev og:=List AV→List Blk→DT (Out×List Blk)
def ofT(f:Nat)(g:og):aX:=fun R args bs k=>(g args bs).bindK (1000000+f) k
def S1(P:Program)(G:Nat→Obj→Prop)(f:Nat)(g:Mv):Prop:=∀args bs r,g args bs= .ok r→SA P G f args bs r
theorem lr{f:Nat}{g:og}{d:Mv}(hd:S1 P G f d)(h:∀args bs o,(g args bs).run=some o→d args bs= .ok o):aP P G f (ofT f g):=fun R args bs k r hr=>by
 obtain⟨o,h1,h2⟩:=lA hr
 exact⟨o,h2,hd args bs o (h args bs o h1)⟩
def tW:og:=fun args bs=>match bs.all bX with
 |true=>match args with
  |[.str s]=>.br (Nat.ble s.length 1099511627776) (.leaf (.ret (.str (dx s)),bs)) .fail
  |_=>.fail
 |false=>.fail
theorem z6(args:List AV)(bs:List Blk)(o:Out×List Blk)(h:(tW args bs).run=some o):xB args bs= .ok o:=by
 unfold tW at h
 split at h
 ·rename_i e1
  split at h
  ·simp only[DT.run]at h
   split at h
   ·rename_i e2
    simp only[Option.some.injEq]at h
    subst h
    simp only[xB,e1,e2]
   ·cases h
  ·cases h
 ·cases h
def pf:og:=fun args bs=>match bs.all bX with
 |true=>match args with
  |[.int .i64 n,.int .i64 b]=>.br (decide (b=10)&&(decide (-9223372036854775808≤n)&&decide (n≤9223372036854775807))) (.leaf (.ret (.str (Lib.itoa n)),bs)) .fail
  |_=>.fail
 |false=>.fail
theorem wo(args:List AV)(bs:List Blk)(o:Out×List Blk)(h:(pf args bs).run=some o):ru args bs= .ok o:=by
 unfold pf at h
 split at h
 ·rename_i e1
  split at h
  ·simp only[DT.run]at h
   split at h
   ·rename_i e2
    simp only[Option.some.injEq]at h
    subst h
    simp only[ru,e1,e2]
   ·cases h
  ·cases h
 ·cases h
def DK:og:=fun args bs=>match bs.all bX with
 |true=>match args with
  |[.str s,.str [c]]=>.br (decide (c.toNat<128)&&Nat.ble s.length 9223372036854775807) (.leaf (.ret (.str (Lib.trimB s c)),bs)) .fail
  |_=>.fail
 |false=>.fail
theorem Mg(args:List AV)(bs:List Blk)(o:Out×List Blk)(h:(DK args bs).run=some o):Dp args bs= .ok o:=by
 unfold DK at h
 split at h
 ·rename_i e1
  split at h
  ·simp only[DT.run]at h
   split at h
   ·rename_i e2
    simp only[Option.some.injEq]at h
    subst h
    simp only[Dp,e1,e2]
   ·cases h
  ·cases h
 ·cases h
def rY(e:TypeId):og:=fun args bs=>match bs.all bX with
 |true=>match args with
  |[a]=>match a with
   | .nils=>.leaf (.ret .nils,bs)
   |a=>match eK (aH (aw 0 bs)) a with
    |some (.mk t L _)=>match ey t (.int .i64) L with
     |some L'=>.br (Nat.ble (List.length L') 17592186044416) (.leaf (.ret (.own bs.length 0),bs++[.list e (.int .i64) 0 false L'])) .fail
     |none=>.fail
    |none=>.fail
  |_=>.fail
 |false=>.fail
theorem I1(e:TypeId)(args:List AV)(bs:List Blk)(o:Out×List Blk)(h:(rY e args bs).run=some o):xH e args bs= .ok o:=by
 unfold rY at h
 unfold xH
 split at h
 ·rename_i e1
  try rw[e1]
  try simp only
  split at h
  ·split at h
   ·simp only[DT.run,Option.some.injEq]at h
    subst h
    rfl
   ·split at h
    ·rename_i hsl
     split at h
     ·rename_i hc
      simp only[DT.run]at h
      split at h
      ·rename_i e2
       simp only[Option.some.injEq]at h
       subst h
       first|rfl|simp only[hsl,hc,e2]
      ·cases h
     ·cases h
    ·cases h
  ·cases h
 ·cases h
def gO(tB:TypeId):og:=fun args bs=>match jP tB args bs with
 | .ok o=>.leaf o
 | .err _=>.fail
theorem xg(tB:TypeId)(args:List AV)(bs:List Blk)(o:Out×List Blk)(h:(gO tB args bs).run=some o):jP tB args bs= .ok o:=by
 unfold gO at h
 split at h
 ·rename_i e;simp only[DT.run,Option.some.injEq]at h;subst h;exact e
 ·cases h
def lX(tB eB:TypeId):og:=fun args bs=>match bs.all bX with
 |true=>match args with
  |[.ref b 0]=>match nth bs b with
   |some (.cells ty [_,y])=>match Nat.beq ty tB with
    |true=>match y with
     | .nils=>.leaf (.ret (.str []),bs)
     | .own b2 g=>match nth bs b2 with
      |some (.list ee t g' _ L)=>match ey t (.int .u8) L with
       |some L'=>match Nat.beq g g'&&Nat.beq ee eB with
        |true=>.br (List.all L' isByte&&Nat.ble (List.length L') 9223372036854775807) (.leaf (.ret (.str (dz L')),bs.set b2 (.list ee t g' true L))) .fail
        |false=>.fail
       |none=>.fail
      |_=>.fail
     |_=>.fail
    |false=>.fail
   |_=>.fail
  |_=>.fail
 |false=>.fail
theorem E2(tB eB:TypeId)(args:List AV)(bs:List Blk)(o:Out×List Blk)(h:(lX tB eB args bs).run=some o):rT tB eB args bs= .ok o:=by
 unfold lX at h
 unfold rT
 split at h
 ·rename_i e1
  try rw[e1]
  try simp only
  split at h
  ·split at h
   ·rename_i hb
    try simp only[hb]
    split at h
    ·rename_i e3
     try simp only[e3]
     split at h
     ·simp only[DT.run,Option.some.injEq]at h
      subst h
      rfl
     ·split at h
      ·rename_i hb2
       try simp only[hb2]
       split at h
       ·rename_i hc
        split at h
        ·rename_i e1
         simp only[DT.run]at h
         split at h
         ·rename_i e2
          simp only[Option.some.injEq]at h
          subst h
          first|rfl|simp only[hc,e1,e2,Bool.and_self]
         ·cases h
        ·cases h
       ·cases h
      ·cases h
     ·cases h
    ·cases h
   ·cases h
  ·cases h
 ·cases h
def bw(P:Program)(G:Nat→Obj→Prop)(l:List (Nat×aX)):Prop:=∀p∈l,aP P G p.1 p.2
theorem bw.nil:bw P G []:=fun p h=>by cases h
theorem bw.cons{f:Nat}{g:aX}{l:List (Nat×aX)}(h:aP P G f g)(k:bw P G l):bw P G ((f,g)::l):=fun p hp=>by
 rcases List.mem_cons.1 hp with e|hp
 ·subst e;exact h
 ·exact k p hp
def uq(l:List (Nat×aX))(f:Nat):Option aX:=
 match l with
 |[]=>none
 |(k,g)::r=>match Nat.beq k f with
  |true=>some g
  |false=>uq r f
def au(l:List (Nat×aX)):Callee:=fun R f args bs k=>match uq l f with
 |some g=>g R args bs k
 |none=>.err (4000000+f)
def kQ(n:Nat)(l:List (Nat×aX)):List (Option aX):=(List.range n).map (uq l)
theorem jT:∀{l:List (Nat×aX)} {f:Nat} {g:aX},uq l f=some g→(f,g)∈l
 |[],f,g,h=>by cases h
 |(k,g')::r,f,g,h=>by
  simp only[uq]at h
  split at h
  ·rename_i e
   have:=beq_eq e
   subst this
   cases h
   simp
  ·exact List.mem_cons_of_mem _ (jT h)
theorem aQ{l:List (Nat×aX)}(h:bw P G l):KOK P G (au l):=fun R f args bs k r hr=>by
 unfold au at hr
 split at hr
 ·rename_i g hg;exact h _ (jT hg) R args bs k r hr
 ·cases hr
theorem bw.ok{n:Nat}{l:List (Nat×aX)}(h:bw P G l):∀f g,nth (kQ n l) f=some (some g)→aP P G f g:=by
 intro f g hg
 rw[dN]at hg
 simp only[kQ,List.getElem?_map,Option.map_eq_some_iff]at hg
 obtain⟨a,ha,hb⟩:=hg
 have:a=f:=by
  have:=List.getElem?_eq_some_iff.1 ha
  obtain⟨h5,h6⟩:=this
  rw[←h6];simp
 subst this
 exact h _ (jT hb)
theorem Gp{f:Nat}{fi:FI}(hf:FIOK P f fi){w:World}{as:List AV}{vals:List Value}
  (h:SA P (GW w) f as [] (.ret (.bool true),[])) (hv:ay (BD w) as vals):Calls P f vals.toArray w fun e w'=>e= .returned (.bool true)∧RowKit.Below w.heap.size w w':=by
 have hA:=h (BD w) vals rfl rfl (Mf w) hv
 have hen:=eG hf vals.toArray w
 rcases hA with⟨_,hc⟩|⟨v,w',hr,_⟩|⟨v,w',hr,_⟩
 ·refine Calls.mono hc fun e w' hp=>?_
  cases e with
  |returned u=>
   obtain⟨v,D',h1,h2,h3,h4,h5,h6,_⟩:=hp
   simp only[Out.ret.injEq]at h1
   subst h1
   simp only[az]at h6
   subst h6 h2
   refine⟨rfl,h5.os,h5.tape,h5.output,h5.size,fun k hk=>h5.old k hk fun⟨id,b,hm,_⟩=>?_⟩
   simp[BD,aw,aH]at hm
  |panicked ch=>obtain⟨v,h1,_⟩:=hp;cases h1
  |outgrown=>exact hp.elim
 ·have hr':(callFunc f vals.toArray).run P w= .ok (.value v) w':=hr
  rw[hen]at hr'
  simp at hr'
 ·have hr':(callFunc f vals.toArray).run P w= .halt (.panic v) w':=hr
  rw[hen]at hr'
  simp at hr'
end Go.Sx
namespace Go.Sx
open Go
variable{G:Nat→Obj→Prop}{P:Program}{C:Ctx}
def Nx:Option Blk→Nat
 |some (.list _ _ g _ _)=>g
 |_=>0
def qE(bs l:List Blk)(i:Nat):Nat:=Nx (aH (aw 0 l) i)+Nx (aH (aw 0 bs) i)
def mU(f:Nat)(g:aX):aX:=fun R args bs k=>
 match eN (gV (aH (aw 0 bs)) (fun _=>0)) args,gBs (aH (aw 0 bs)) (fun _=>0) 0 bs,bs.all bX&&args.all bN with
 |some args0,some bs0,true=>g R args0 bs0 fun o=>match o with
  |(.ret v,l)=>(match gV (aH (aw 0 l)) (qE bs l) v,gBs (aH (aw 0 l)) (qE bs l) 0 l with
   |some v',some l'=>(match bN v'&&l'.all bX with
    |true=>k (.ret v',l')
    |false=>.err (7000000+f))
   |_,_=>.err (7000000+f))
  |(.panic _,_)=>.err (7000000+f)
 |_,_,_=>.err (7000000+f)
theorem GenRel.relVs{C':Ctx}{q:Nat→Nat}(h:GenRel C C' q):∀{as as':List AV} {vs:List Value},eN (gV C.m q) as=some as'→as.all bN=true→ay C as vs→ay C' as' vs
 |[],as',vs,hg,_,hv=>by simp only[eN,Option.some.injEq]at hg;subst hg;exact hv
 |a::as,as',vs,hg,hp,hv=>by
  simp only[eN]at hg
  split at hg
  ·rename_i b r e1 e2
   simp only[Option.some.injEq]at hg
   subst hg
   obtain⟨v,r,rfl,h1,h2⟩:=hv
   simp only[List.all_cons,Bool.and_eq_true]at hp
   exact⟨v,_,rfl,h.relV e1 hp.1 h1,h.relVs e2 hp.2 h2⟩
  ·cases hg
theorem je{f:Nat}{g:aX}(hI:aP P G f g):aP P G f (mU f g):=fun R args bs k r hr=>by
 unfold mU at hr
 split at hr
 ·rename_i args0 bs0 ha hb hck
  simp only[Bool.and_eq_true]at hck
  obtain⟨hok,hp⟩:=hck
  obtain⟨o,ho,hSA⟩:=hI R args0 bs0 _ r hr
  obtain⟨out,l⟩:=o
  cases out with
  |panic v=>cases ho
  |ret v=>
   simp only at ho
   split at ho
   ·rename_i v' l' hv' hl'
    split at ho
    ·rename_i hck2
     simp only[Bool.and_eq_true]at hck2
     refine⟨_,ho,fun D vals hG hm hs hv=>?_⟩
     rw[←hm]at ha hb
     obtain⟨s1,g1,own1,held1⟩:=nA hs hm hok hb
     have hA:=hSA (Gen D bs0) vals hG rfl s1 (g1.relVs ha hp hv)
     refine bJ.mono (R:=cu (Gen D bs0) (.ret v,l)) hA fun e w' hR=>?_
     cases e with
     |returned u=>
      obtain⟨v2,D1,e1,e2,e3,e4,e5,e6,e7,e8⟩:=hR
      simp only[Out.ret.injEq]at e1
      subst e1
      rw[←e3]at hv' hl'
      obtain⟨s2,g2,own2,held2⟩:=nA e4 e3 e8 hl'
      refine⟨v',Gen D1 l',rfl,e2,rfl,s2,?_,g2.relV hv' e7 e6,hck2.1,hck2.2⟩
      exact{
       cells:=fun i ty cs hi=>by
        obtain⟨k1,cs1,k2⟩:=g1.cells i ty cs hi
        obtain⟨k3,cs2,k4⟩:=e5.cells i ty cs1 k2
        obtain⟨k5,k6⟩:=g2.cells i ty cs2 k4
        exact⟨k5.trans (k3.trans k1),k6⟩
       lists:=fun i ee t gn sh L hi=>by
        obtain⟨k1,k2⟩:=g1.lists i ee t gn sh L hi
        obtain⟨gn2,sh2,L2,k3,k4,k5⟩:=e5.lists i _ _ _ _ _ k2
        obtain⟨k6,k7⟩:=g2.lists i _ _ _ _ _ k3
        have hq:qE bs l i=gn2+gn:=by
         unfold qE
         rw[←e3,←hm,k3,hi]
         rfl
        rw[hq]at k7
        refine⟨gn2+gn,sh2,L2,k7,by omega,fun e=>?_⟩
        have h0:0=gn2:=by omega
        exact⟨k6.trans ((k5 h0).1.trans k1),(k5 h0).2⟩
       keep:=fun kk oo x h1 h2=>by
        obtain⟨h3,h4⟩:=g1.keep kk oo x h1 h2
        obtain⟨h5,h6⟩:=e5.keep kk oo x h3 h4
        exact g2.keep kk oo x h5 h6
       frEq:=e5.frEq
       glEq:=e5.glEq
       frKeep:=e5.frKeep
       size:=e5.size
       old:=fun kk hk hh=>e5.old kk hk fun h=>hh ((held1 kk).1 h)
       held:=fun kk h=>((e5.held kk ((held2 kk).1 h)).imp (held1 kk).1 id)
       own:=fun kk oo h=>((e5.own kk oo ((own2 kk oo).1 h)).imp (own1 kk oo).1 id)
       os:=e5.os
       tape:=e5.tape
       output:=e5.output}
     |panicked ch=>obtain⟨v2,e1,_⟩:=hR;cases e1
     |outgrown=>exact hR
    ·cases ho
   ·cases ho
 ·cases hr
end Go.Sx
namespace Go.Sx
open Go
variable{G:Nat→Obj→Prop}{P:Program}{C:Ctx}
def G2(f:Nat)(tp:List (List Sh))(g:aX):aX:=fun R args bs k=>
 match fQ ((List.range bs.length).zip tp) (aw 0 bs) bs.length with
 |some (bs',n)=>(match getAll (aH bs') (List.range n)with
  |some l=>g R args l k
  |none=>.err (7100000+f))
 |none=>.err (7100000+f)
theorem oM{get:Get}{n:Nat}{l:List Blk}(h:getAll get (List.range n)=some l)(hf:mc get n):get=aH (aw 0 l):=by
 obtain⟨h1,h2⟩:=dj h
 rw[List.length_range]at h1
 funext j
 simp only[aN,Nat.zero_le,if_true,Nat.sub_zero]
 by_cases hj:j<n
 ·exact((h2 j j (by simp[hj])).1).symm
 ·rw[hf j (by omega),List.getElem?_eq_none (by omega)]
theorem IF{f:Nat}{tp:List (List Sh)}{g:aX}(hI:aP P G f g):aP P G f (G2 f tp g):=fun R args bs k r hr=>by
 unfold G2 at hr
 split at hr
 ·rename_i bs' n hc
  split at hr
  ·rename_i l hl
   obtain⟨o,ho,hSA⟩:=hI R args l k r hr
   refine⟨o,ho,fun D vals hG hm hs hv=>?_⟩
   obtain⟨C1,w1,m1,s1,e1,f1⟩:=iy hc hm hs (fun j hj=>by
    rw[hm]
    simp only[aN,Nat.zero_le,if_true,Nat.sub_zero]
    exact List.getElem?_eq_none hj)
   have hm1:C1.m=aH (aw 0 l):=by
    rw[m1]at f1⊢
    exact oM hl f1
   have hA:=hSA C1 vals (e1.glEq.trans hG) hm1 s1 (hv.mono e1)
   rw[w1]at hA
   refine bJ.mono hA fun e w' hR=>?_
   cases e with
   |returned u=>
    obtain⟨v,D1,e2,e3,e4,e5,e6,e7,e8,e9⟩:=hR
    exact⟨v,D1,e2,e3,e4,e5,e1.trans e6,e7,e8,e9⟩
   |panicked ch=>
    obtain⟨v,e2,e3⟩:=hR
    exact⟨v,e2,e3.after e1⟩
   |outgrown=>exact hR
  ·cases hr
 ·cases hr
end Go.Sx
namespace Go.Sx
open Go
variable{G:Nat→Obj→Prop}{P:Program}{E:Env}{K:Callee}
def KNt(K:Callee):Prop:=∀(R:Type) f args bs k (r:R),K R f args bs k= .ok r→∃o,k o= .ok r∧∀(R':Type) k' (r':R'),k' o= .ok r'→K R' f args bs k'= .ok r'
def INt(g:aX):Prop:=∀(R:Type) args bs k (r:R),g R args bs k= .ok r→∃o,k o= .ok r∧∀(R':Type) k' (r':R'),k' o= .ok r'→g R' args bs k'= .ok r'
theorem Ar{α R:Type}{pos:Nat}{k:α→Rs R}{r:R}{d:DT α}(h:d.bindK pos k= .ok r):∃a,k a= .ok r∧∀(R':Type) (k':α→Rs R') (r':R'),k' a= .ok r'→d.bindK pos k'= .ok r':=by
 induction d with
 |leaf a=>exact⟨a,h,fun _ _ _ h=>h⟩
 |fail=>cases h
 |br b t e iht ihe=>
  cases b with
  |true=>exact iht h
  |false=>exact ihe h
theorem vw(hK:KNt K){f:Nat}{args:List AV}{get:Get}{base:Nat}{R:Type}{k:Out→Wr→List Nat→Rs R}{r:R}(h:ib K f args get base k= .ok r):
  ∃o wr rd,k o wr rd= .ok r∧∀(R':Type) (k':Out→Wr→List Nat→Rs R') (r':R'),k' o wr rd= .ok r'→ib K f args get base k'= .ok r':=by
 unfold ib at h
 split at h
 ·cases h
 rename_i ids hids
 split at h
 ·cases h
 rename_i l hl
 split at h
 ·cases h
 rename_i hck
 obtain⟨o,ho,hall⟩:=hK _ _ _ _ _ _ h
 obtain⟨out,l'⟩:=o
 cases out with
 |ret v=>
  simp only at ho
  split at ho
  ·rename_i hn
   refine⟨_,_,_,ho,fun R' k' r' hk=>?_⟩
   unfold ib
   rw[hids]
   simp only[hl,hck]
   refine hall _ _ _ ?_
   simp only[hn]
   exact hk
  ·cases ho
 |panic v=>
  refine⟨_,_,_,ho,fun R' k' r' hk=>?_⟩
  unfold ib
  rw[hids]
  simp only[hl,hck]
  exact hall _ _ _ hk
theorem Bg(hK:KNt K){lk:bh}{get:Get}{id:Nat}{o:Oper}{e:Nat}{R:Type}{kn:AV→Wr→List Nat→Rs R}{kp:AV→Rs R}{r:R}(h:gd E K lk get id o e kn kp= .ok r):
  (∃v wr rd,kn v wr rd= .ok r∧∀(R':Type) (kn':AV→Wr→List Nat→Rs R') (kp':AV→Rs R') (r':R'),kn' v wr rd= .ok r'→gd E K lk get id o e kn' kp'= .ok r')∨
  (∃v,kp v= .ok r∧∀(R':Type) (kn':AV→Wr→List Nat→Rs R') (kp':AV→Rs R') (r':R'),kp' v= .ok r'→gd E K lk get id o e kn' kp'= .ok r'):=by
 unfold gd at h⊢
 split at h
 ·rename_i f as _ _
  split at h
  ·rename_i f' cap hf
   obtain⟨out,wr,rd,h1,h2⟩:=vw hK h
   cases out with
   |ret v=>
    simp only at h1
    split at h1
    ·rename_i hb
     refine .inl ⟨v,wr,rd,h1,fun R' kn' kp' r' hk=>?_⟩
     refine h2 _ _ _ ?_
     simp only[hb]
     exact hk
    ·cases h1
   |panic v=>exact .inr ⟨v,h1,fun R' kn' kp' r' hk=>h2 _ _ _ hk⟩
  ·cases h
 ·split at h
  ·rename_i t v hx
   split at h
   ·rename_i hp
    refine .inr ⟨_,h,fun R' kn' kp' r' hk=>?_⟩
    first|exact hk|(simp only[hp];exact hk)
   ·cases h
  ·cases h
 ·obtain⟨a,h1,h2⟩:=Ar h
  split at h1
  ·rename_i hb
   refine .inl ⟨_,_,_,h1,fun R' kn' kp' r' hk=>?_⟩
   refine h2 _ _ _ ?_
   simp only[hb]
   exact hk
  ·cases h1
theorem uo(hK:KNt K){rid:Nat}{all:List Oper}:∀(ops:List Oper) (i:Nat) (st:St) {R:Type} {kn:St→Rs R} {kp:AV→Rs R} {r:R},ff E K rid all ops i st kn kp= .ok r→
  (∃st',kn st'= .ok r∧∀(R':Type) (kn':St→Rs R') (kp':AV→Rs R') (r':R'),kn' st'= .ok r'→ff E K rid all ops i st kn' kp'= .ok r')∨
  (∃v,kp v= .ok r∧∀(R':Type) (kn':St→Rs R') (kp':AV→Rs R') (r':R'),kp' v= .ok r'→ff E K rid all ops i st kn' kp'= .ok r')
 |[],i,st,R,kn,kp,r,h=>.inl ⟨_,h,fun _ _ _ _ h=>h⟩
 |o::os,i,st,R,kn,kp,r,h=>by
  have go:∀(st0:St),gd E K (look st0.tmps) (aH st0.blks) (st0.next+16*i) o (rid*100+i) (fun v wr _=>ff E K rid all os (i+1) {tmps:=lj st0.tmps o.dst v,blks:=di st0.blks wr,next:=st0.next} kn kp) kp= .ok r→
    (∃st',kn st'= .ok r∧∀(R':Type) (kn':St→Rs R') (kp':AV→Rs R') (r':R'),kn' st'= .ok r'→gd E K (look st0.tmps) (aH st0.blks) (st0.next+16*i) o (rid*100+i) (fun v wr _=>ff E K rid all os (i+1) {tmps:=lj st0.tmps o.dst v,blks:=di st0.blks wr,next:=st0.next} kn' kp') kp'= .ok r')∨
    (∃v,kp v= .ok r∧∀(R':Type) (kn':St→Rs R') (kp':AV→Rs R') (r':R'),kp' v= .ok r'→gd E K (look st0.tmps) (aH st0.blks) (st0.next+16*i) o (rid*100+i) (fun v wr _=>ff E K rid all os (i+1) {tmps:=lj st0.tmps o.dst v,blks:=di st0.blks wr,next:=st0.next} kn' kp') kp'= .ok r'):=fun st0 h=>by
   rcases Bg hK h with⟨v,wr,rd,h1,h2⟩|⟨v,h1,h2⟩
   ·rcases uo hK os (i+1) _ h1 with⟨st',h3,h4⟩|⟨v',h3,h4⟩
    ·exact .inl ⟨st',h3,fun R' kn' kp' r' hk=>h2 R' _ _ r' (h4 R' kn' kp' r' hk)⟩
    ·exact .inr ⟨v',h3,fun R' kn' kp' r' hk=>h2 R' _ _ r' (h4 R' kn' kp' r' hk)⟩
   ·exact .inr ⟨v,h1,fun R' kn' kp' r' hk=>h2 R' _ _ r' hk⟩
  have skip:∀(st0:St),ff E K rid all os (i+1) st0 kn kp= .ok r→
    (∃st',kn st'= .ok r∧∀(R':Type) (kn':St→Rs R') (kp':AV→Rs R') (r':R'),kn' st'= .ok r'→ff E K rid all os (i+1) st0 kn' kp'= .ok r')∨
    (∃v,kp v= .ok r∧∀(R':Type) (kn':St→Rs R') (kp':AV→Rs R') (r':R'),kp' v= .ok r'→ff E K rid all os (i+1) st0 kn' kp'= .ok r'):=fun st0 h=>uo hK os (i+1) _ h
  simp only[ff]at h⊢
  split at h
  ·rename_i hg
   exact go st h
  ·rename_i j want hg
   split at h
   ·cases h
   ·rename_i d hd
    split at h
    ·rename_i b hb
     cases b with
     |true=>cases want with
      |true=>exact go {st with tmps:=(d,.bool true)::st.tmps} h
      |false=>exact skip _ h
     |false=>cases want with
      |true=>exact skip _ h
      |false=>exact go {st with tmps:=(d,.bool false)::st.tmps} h
    ·exact skip _ h
    ·cases h
def NtD(F:(R:Type)→(St→Rs R)→(AV→Rs R)→Rs R):Prop:=∀(R:Type) (kn:St→Rs R) (kp:AV→Rs R) (r:R),F R kn kp= .ok r→
 (∃st',kn st'= .ok r∧∀(R':Type) (kn':St→Rs R') (kp':AV→Rs R') (r':R'),kn' st'= .ok r'→F R' kn' kp'= .ok r')∨
 (∃v,kp v= .ok r∧∀(R':Type) (kn':St→Rs R') (kp':AV→Rs R') (r':R'),kp' v= .ok r'→F R' kn' kp'= .ok r')
theorem lG(hK:KNt K){rid:Nat}{all:List Oper}{bf:List Nat}:∀(ops:List Oper) (i:Nat) (st:St) (es:List Ent) (pm:Option (Nat×AV)),NtD (fun R kn kp=>dn E K rid all bf ops i st es pm kn kp)
 |[],i,st,es,pm=>fun R kn kp r h=>by
  simp only[dn]at h⊢
  split at h
  ·cases pm with
   |none=>exact .inl ⟨_,h,fun _ _ _ _ h=>h⟩
   |some q=>exact .inr ⟨_,h,fun _ _ _ _ h=>h⟩
  ·cases h
 |o::os,i,st,es,pm=>fun R kn kp r h=>by
  have go:∀(st0:St),NtD (fun R kn kp=>gd E K (look st0.tmps) (aH st0.blks) (st0.next+16*i) o (rid*100+i) (fun v wr rd=>match sT st0.next (st0.next+16*i) es wr with
    |true=>dn E K rid all bf os (i+1) {tmps:=lj st0.tmps o.dst v,blks:=di st0.blks wr,next:=st0.next} (match wr,rd with|[],[]=>es|wr,rd=>⟨i,rd,wr.map (·.1)⟩::es) pm kn kp
    |false=>.err 7) (fun v=>j6 pm (pS (look st0.tmps) (aH st0.blks) o) fun rd=>dn E K rid all bf os (i+1) {st0 with tmps:=lj st0.tmps o.dst .undef} (AD i rd es) (some (i,v)) kn kp)):=fun st0 R kn kp r h=>by
   rcases Bg hK h with⟨v,wr,rd,h1,h2⟩|⟨v,h1,h2⟩
   ·split at h1
    ·rename_i hkk
     rcases lG hK os (i+1) _ _ _ _ _ _ _ h1 with⟨st',h3,h4⟩|⟨v',h3,h4⟩
     ·refine .inl ⟨st',h3,fun R' kn' kp' r' hk=>h2 R' _ _ r' ?_⟩
      simp only[hkk]
      exact h4 R' kn' kp' r' hk
     ·refine .inr ⟨v',h3,fun R' kn' kp' r' hk=>h2 R' _ _ r' ?_⟩
      simp only[hkk]
      exact h4 R' kn' kp' r' hk
    ·cases h1
   ·unfold j6 at h1
    split at h1
    ·cases h1
    ·split at h1
     ·cases h1
     ·rename_i rd hrd
      rcases lG hK os (i+1) _ _ _ _ _ _ _ h1 with⟨st',h3,h4⟩|⟨v',h3,h4⟩
      ·refine .inl ⟨st',h3,fun R' kn' kp' r' hk=>h2 R' _ _ r' ?_⟩
       simp only[j6,hrd]
       exact h4 R' kn' kp' r' hk
      ·refine .inr ⟨v',h3,fun R' kn' kp' r' hk=>h2 R' _ _ r' ?_⟩
       simp only[j6,hrd]
       exact h4 R' kn' kp' r' hk
  have skip:∀(st0:St),NtD (fun R kn kp=>dn E K rid all bf os (i+1) st0 es pm kn kp):=fun st0=>lG hK os (i+1) _ es pm
  simp only[dn]at h⊢
  split at h
  ·exact skip _ _ _ _ _ h
  ·split at h
   ·exact go st _ _ _ _ h
   ·rename_i j want hg
    split at h
    ·cases h
    ·rename_i d hd
     split at h
     ·rename_i b hb
      cases b with
      |true=>cases want with
       |true=>exact go {st with tmps:=(d,.bool true)::st.tmps} _ _ _ _ h
       |false=>exact skip _ _ _ _ _ h
      |false=>cases want with
       |true=>exact skip _ _ _ _ _ h
       |false=>exact go {st with tmps:=(d,.bool false)::st.tmps} _ _ _ _ h
     ·exact skip _ _ _ _ _ h
     ·cases h
theorem Rx(hK:KNt K):∀(c:Code) (p:Nat) (st:St) {R:Type} {k:Ex→St→Rs R} {r:R},ev E K cH cB c p st k= .ok r→
  ∃ex st',k ex st'= .ok r∧∀(R':Type) (k':Ex→St→Rs R') (r':R'),k' ex st'= .ok r'→ev E K cH cB c p st k'= .ok r':=by
 intro c
 induction c with
 |skip=>intro p st R k r h;exact⟨_,_,h,fun _ _ _ h=>h⟩
 |ret=>intro p st R k r h;exact⟨_,_,h,fun _ _ _ h=>h⟩
 |exit id=>intro p st R k r h;exact⟨_,_,h,fun _ _ _ h=>h⟩
 |label l=>intro p st R k r h;exact⟨_,_,h,fun _ _ _ h=>h⟩
 |scope c ih=>
  intro p st R k r h
  have h:ev E K cH cB c (2*p) st k= .ok r:=h
  exact ih (2*p) st h
 |seq x y ihx ihy=>
  intro p st R k r h
  have h:ev E K cH cB x (2*p) st (uK (enter cH cB (ev E K cH cB y)) (2*p+1) k)= .ok r:=h
  obtain⟨ex,st',h1,h2⟩:=ihx (2*p) st h
  cases ex with
  |normal=>
   have h1:ev E K cH cB y (2*p+1) st' k= .ok r:=h1
   obtain⟨ex2,st2,h3,h4⟩:=ihy (2*p+1) st' h1
   refine⟨ex2,st2,h3,fun R' k' r' hk=>?_⟩
   exact h2 R' (uK (enter cH cB (ev E K cH cB y)) (2*p+1) k') r' (h4 R' k' r' hk)
  |exit id=>exact⟨.exit id,st',h1,fun R' k' r' hk=>h2 R' (uK (enter cH cB (ev E K cH cB y)) (2*p+1) k') r' hk⟩
  |ret=>exact⟨.ret,st',h1,fun R' k' r' hk=>h2 R' (uK (enter cH cB (ev E K cH cB y)) (2*p+1) k') r' hk⟩
  |panic v=>exact⟨.panic v,st',h1,fun R' k' r' hk=>h2 R' (uK (enter cH cB (ev E K cH cB y)) (2*p+1) k') r' hk⟩
 |cond o x y ihx ihy=>
  intro p st R k r h
  have h:(match al (look st.tmps) o with
   | .bool t=>(match t with
    |true=>ev E K cH cB x (2*p) st k
    |false=>ev E K cH cB y (2*p+1) st k)
   |_=>.err (7000000+p))= .ok r:=h
  have goal:∃ex st',k ex st'= .ok r∧∀(R':Type) (k':Ex→St→Rs R') (r':R'),k' ex st'= .ok r'→(match al (look st.tmps) o with
   | .bool t=>(match t with
    |true=>ev E K cH cB x (2*p) st k'
    |false=>ev E K cH cB y (2*p+1) st k')
   |_=>.err (7000000+p))= .ok r':=by
   split at h
   ·rename_i t ht
    cases t with
    |true=>exact ihx (2*p) st h
    |false=>exact ihy (2*p+1) st h
   ·cases h
  exact goal
 |block id c ih=>
  intro p st R k r h
  have h:ev E K cH cB c (2*p) st (hZ id k)= .ok r:=h
  obtain⟨ex,st',h1,h2⟩:=ih (2*p) st h
  cases ex with
  |normal=>exact⟨.normal,st',h1,fun R' k' r' hk=>h2 R' (hZ id k') r' hk⟩
  |exit j=>
   cases hj:Nat.beq j id with
   |true=>
    have h1:(match Nat.beq j id with|true=>k .normal st'|false=>k (.exit j) st')= .ok r:=h1
    rw[hj]at h1
    refine⟨.normal,st',h1,fun R' k' r' hk=>h2 R' (hZ id k') r' ?_⟩
    show(match Nat.beq j id with|true=>k' .normal st'|false=>k' (.exit j) st')= .ok r'
    rw[hj]
    exact hk
   |false=>
    have h1:(match Nat.beq j id with|true=>k .normal st'|false=>k (.exit j) st')= .ok r:=h1
    rw[hj]at h1
    refine⟨.exit j,st',h1,fun R' k' r' hk=>h2 R' (hZ id k') r' ?_⟩
    show(match Nat.beq j id with|true=>k' .normal st'|false=>k' (.exit j) st')= .ok r'
    rw[hj]
    exact hk
  |ret=>exact⟨.ret,st',h1,fun R' k' r' hk=>h2 R' (hZ id k') r' hk⟩
  |panic v=>exact⟨.panic v,st',h1,fun R' k' r' hk=>h2 R' (hZ id k') r' hk⟩
 |loop c ih=>intro p st R k r h;cases h
 |region id ops draw=>
  intro p st R k r h
  cases draw with
  |false=>
   have h:ff E K id ops.toList ops.toList 0 st (fun st'=>k .normal st') (fun v=>k (.panic v) st)= .ok r:=h
   rcases uo hK _ _ _ h with⟨st',h1,h2⟩|⟨v,h1,h2⟩
   ·exact⟨.normal,st',h1,fun R' k' r' hk=>h2 R' (fun st'=>k' .normal st') (fun v=>k' (.panic v) st) r' hk⟩
   ·exact⟨.panic v,st,h1,fun R' k' r' hk=>h2 R' (fun st'=>k' .normal st') (fun v=>k' (.panic v) st) r' hk⟩
  |true=>
   have h:dn E K id ops.toList (fN ops.toList []) ops.toList 0 st [] none (fun st'=>k .normal st') (fun v=>k (.panic v) st)= .ok r:=h
   rcases lG hK _ _ _ _ _ _ _ _ _ h with⟨st',h1,h2⟩|⟨v,h1,h2⟩
   ·exact⟨.normal,st',h1,fun R' k' r' hk=>h2 R' (fun st'=>k' .normal st') (fun v=>k' (.panic v) st) r' hk⟩
   ·exact⟨.panic v,st,h1,fun R' k' r' hk=>h2 R' (fun st'=>k' .normal st') (fun v=>k' (.panic v) st) r' hk⟩
 |_=>intros;rename_i h;cases h
theorem o6{np:Nat}{get:Get}{v:AV}{R:Type}{k:(Out×List Blk)→Rs R}{r:R}(h:leave np get v k= .ok r):
  ∃o,k o= .ok r∧∀(R':Type) (k':(Out×List Blk)→Rs R') (r':R'),k' o= .ok r'→leave np get v k'= .ok r':=by
 unfold leave at h⊢
 split at h
 ·cases h
 ·split at h
  ·cases h
  ·split at h
   ·rename_i hc
    refine⟨_,h,fun R' k' r' hk=>?_⟩
    exact hk
   ·cases h
theorem Kc{np:Nat}{rs:List ResultVar}{R:Type}{k:(Out×List Blk)→Rs R}{ex:Ex}{st:St}{r:R}(h:cv E np rs k ex st= .ok r):
  ∃o,k o= .ok r∧∀(R':Type) (k':(Out×List Blk)→Rs R') (r':R'),k' o= .ok r'→cv E np rs k' ex st= .ok r':=by
 unfold cv at h⊢
 split at h
 ·split at h
  ·exact o6 h
  ·exact o6 h
  ·cases h
 ·split at h
  ·exact o6 h
  ·exact o6 h
  ·cases h
 ·exact⟨_,h,fun _ _ _ h=>h⟩
 ·cases h
theorem Kh(hK:KNt K){fi:FI}{args:List AV}{bs:List Blk}{R:Type}{k:(Out×List Blk)→Rs R}{r:R}(h:body E K fi args bs k= .ok r):
  ∃o,k o= .ok r∧∀(R':Type) (k':(Out×List Blk)→Rs R') (r':R'),k' o= .ok r'→body E K fi args bs k'= .ok r':=by
 unfold body at h⊢
 split at h
 ·cases h
 ·obtain⟨ex,st',h1,h2⟩:=Rx hK _ _ _ h
  obtain⟨o,h3,h4⟩:=Kc h1
  exact⟨o,h3,fun R' k' r' hk=>h2 R' _ r' (h4 R' k' r' hk)⟩
def Gh(E:Env)(lib:List (Nat×aX))(fi:FI):aX:=fun R args bs k=>body E (au lib) fi args bs k
def uT(l:List (Nat×aX)):Prop:=∀p∈l,INt p.2
theorem uT.nil:uT []:=fun p h=>by cases h
theorem uT.cons{f:Nat}{g:aX}{l:List (Nat×aX)}(h:INt g)(k:uT l):uT ((f,g)::l):=fun p hp=>by
 rcases List.mem_cons.1 hp with e|hp
 ·subst e;exact h
 ·exact k p hp
theorem L4{l:List (Nat×aX)}(h:uT l):KNt (au l):=fun R f args bs k r hr=>by
 unfold au at hr⊢
 split at hr
 ·rename_i g hg;exact h _ (jT hg) R args bs k r hr
 ·cases hr
theorem oT(hE:EnvOK E P){lib:List (Nat×aX)}(hn:uT lib)(hk:bw P G lib){f:Nat}{fi:FI}(hf:FIOK P f fi):aP P G f (Gh E lib fi):=fun R args bs k r hr=>by
 obtain⟨o,h1,h2⟩:=Kh (L4 hn) hr
 exact⟨o,h1,cg hE (aQ hk) hf (h2 _ _ _ rfl)⟩
theorem jc{f:Nat}{ts rs:Sig}{p:an ts→Bool}{out:an ts→an rs}:INt (cq f ts rs p out):=fun R args bs k r hr=>by
 unfold cq at hr⊢
 split at hr
 ·cases hr
 ·split at hr
  ·cases hr
  ·split at hr
   ·cases hr
   ·exact⟨_,hr,fun _ _ _ h=>h⟩
theorem Cs{f:Nat}{g:og}:INt (ofT f g):=fun R args bs k r hr=>Ar hr
end Go.Sx
namespace Go.Sx
open Go
variable{G:Nat→Obj→Prop}{P:Program}{C:Ctx}
theorem SA.bump{f:Nat}{args:List AV}{bs l l':List Blk}{v v':AV}(h:SA P G f args bs (.ret v,l))(h0:FV bs){q:Nat→Nat}(hq:∀i,i<bs.length→1≤q i)
  (hv:gV (aH (aw 0 l)) q v=some v') (hl:gBs (aH (aw 0 l)) q 0 l=some l') (hck:(bN v'&&l'.all bX)=true):SA P G f args bs (.ret v',l'):=fun D vals hG hm hs hvs=>by
 simp only[Bool.and_eq_true]at hck
 refine bJ.mono (R:=cu D (.ret v,l)) (h D vals hG hm hs hvs) fun e w' hR=>?_
 cases e with
 |returned u=>
  obtain⟨v2,D1,e1,e2,e3,e4,e5,e6,e7,e8⟩:=hR
  simp only[Out.ret.injEq]at e1
  subst e1
  rw[←e3]at hv hl
  obtain⟨s2,g2,own2,held2⟩:=nA e4 e3 e8 hl
  refine⟨v',Gen D1 l',rfl,e2,rfl,s2,?_,g2.relV hv e7 e6,hck.1,hck.2⟩
  exact{
   cells:=fun i ty cs hi=>by
    obtain⟨k3,cs2,k4⟩:=e5.cells i ty cs hi
    obtain⟨k5,k6⟩:=g2.cells i ty cs2 k4
    exact⟨k5.trans k3,k6⟩
   lists:=fun i ee t gn sh L hi=>by
    obtain⟨gn2,sh2,L2,k3,k4,k5⟩:=e5.lists i _ _ _ _ _ hi
    obtain⟨k6,k7⟩:=g2.lists i _ _ _ _ _ k3
    rw[hm,aN]at hi
    simp only[Nat.zero_le,if_true,Nat.sub_zero]at hi
    have hlt:i<bs.length:=(List.getElem?_eq_some_iff.1 hi).1
    have hg:=h0 _ _ _ _ _ (List.mem_of_getElem? hi)
    have:=hq i hlt
    exact⟨q i,sh2,L2,k7,by omega,fun e=>by omega⟩
   keep:=fun kk oo x h1 h2=>by
    obtain⟨h5,h6⟩:=e5.keep kk oo x h1 h2
    exact g2.keep kk oo x h5 h6
   frEq:=e5.frEq
   glEq:=e5.glEq
   frKeep:=e5.frKeep
   size:=e5.size
   old:=e5.old
   held:=fun kk h=>e5.held kk ((held2 kk).1 h)
   own:=fun kk oo h=>e5.own kk oo ((own2 kk oo).1 h)
   os:=e5.os
   tape:=e5.tape
   output:=e5.output}
 |panicked ch=>obtain⟨v2,e1,_⟩:=hR;cases e1
 |outgrown=>exact hR
end Go.Sx
