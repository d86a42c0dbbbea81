/- A part of the proof: see the row's text. -/
import Derived.Test.YtehaoepopklboaaGreatDoorZh06
import Derived.Lib.QuoteLoop
import Derived.Lib.PrintData
import Derived.Lib.ItoaNum
import Derived.Laws.BytesArg
import Derived.Lib.TrimByte
import Derived.Lib.Repeat
import Derived.Laws.AppendOwn
set_option linter.unusedVariables false
set_option linter.unusedSimpArgs false
noncomputable section
namespace Go.Sx
open Go
variable{G:Nat→Obj→Prop}{P:Program}{E:Env}
theorem lT{D:Ctx}(hs:SRel D){w':World}(hb:RowKit.Below D.w.heap.size D.w w'):SRel {D with w:=w'}∧Ext D {D with w:=w'}:=by
 have hcell:∀k o v,D.w.cell? ⟨k,o,none⟩=some v→w'.cell? ⟨k,o,none⟩=some v:=fun k o v hv=>by
  have hk:k<D.w.heap.size:=by
   unfold World.cell? at hv
   split at hv
   ·rename_i hh;exact(Array.getElem?_eq_some_iff.1 hh).1
   ·cases hv
  rw[hb.cell (p:=⟨k,o,none⟩) hk]
  exact hv
 have hE:Ext D {D with w:=w'}:={
  cells:=fun id ty cs h=>⟨rfl,cs,h⟩
  lists:=fun id ee t g sh L h=>⟨g,sh,L,h,Nat.le_refl _,fun _=>⟨rfl,rfl⟩⟩
  keep:=fun k o v h1 h2=>⟨hcell k o v h1,h2⟩
  frEq:=rfl
  glEq:=rfl
  frKeep:=fun k o v h1 _=>hcell k o v h1
  size:=hb.size
  old:=fun k hk _=>hb.block k hk
  held:=fun k h=>.inl h
  own:=fun k o h=>.inl h
  os:=hb.os
  tape:=hb.tape
  output:=hb.output}
 exact⟨{
  ok:=fun id b h=>(hs.ok id b h).mono hE fun k hk=>hb.block k ((hs.ok id b h).lt hk)
  apart:=hs.apart
  frApart:=hs.frApart
  frOld:=fun k o hf=>Nat.lt_of_lt_of_le (hs.frOld k o hf) hb.size
  gl:=hE.gl_ok hs.gl},hE⟩
theorem fT{f:Nat}{fi:FI}(hf:FIOK P f fi){vals:Array Value}{D:Ctx}{bs:List Blk}(hm:D.m=aC (aq 0 bs))(hs:SRel D){u:Value}{av:AV}(hok:bs.all bH=true)
  (hv:∀D',ay D' av u) (hp:bz av=true) (hc:Calls P f vals D.w fun e w'=>e= .returned u∧RowKit.Below D.w.heap.size D.w w'):bx P f vals D.w (bW D (.ret av,bs)):=by
 refine .inl ⟨cU hf _ _,Calls.mono hc fun e w' ⟨h1,h2⟩=>?_⟩
 subst h1
 obtain⟨h3,h4⟩:=lT hs h2
 exact⟨av,{D with w:=w'},rfl,rfl,hm,h3,h4,hv _,hp,hok⟩
def nx(args:List AV)(bs:List Blk):Rs (Out×List Blk):=
 match bs.all bH with
 |true=>match args with
  |[.int .i64 n,.int .i64 b]=>match decide (b=10)&&(decide (-9223372036854775808≤n)&&decide (n≤9223372036854775807))with
   |true=>.ok (.ret (.str (Lib.itoa n)),bs)
   |false=>.err 0
  |_=>.err 0
 |false=>.err 0
theorem wq{f:Nat}{fi:FI}(hf:FIOK P f fi)
  (hc:∀(D:Ctx),D.gl=G→SRel D→∀n:Int,-9223372036854775808≤n→n≤9223372036854775807→Calls P f #[.int .i64 n,.int .i64 10] D.w fun e w'=>e= .returned (.string ⟨(Lib.itoa n).toArray⟩)∧RowKit.Below D.w.heap.size D.w w')
  (args:List AV) (bs:List Blk) (r:Out×List Blk) (h:nx args bs= .ok r) (D:Ctx) (vals:List Value) (hG:D.gl=G) (hm:D.m=aC (aq 0 bs)) (hs:SRel D) (hv:au D args vals):bx P f vals.toArray D.w (bW D r):=by
 unfold nx at h
 split at h
 ·rename_i hok
  split at h
  ·rename_i n b
   split at h
   ·rename_i hck
    simp only[Bool.and_eq_true,decide_eq_true_eq]at hck
    obtain⟨rfl,h3,h4⟩:=hck
    simp only[Rs.ok.injEq]at h
    subst h
    obtain⟨v,rr,rfl,h1,v2,r2,rfl,h5,h2⟩:=hv
    simp only[au]at h2
    subst h2
    simp only[ay]at h1 h5
    subst h1 h5
    exact fT hf hm hs hok (u:=.string ⟨(Lib.itoa n).toArray⟩) (fun D'=>rfl) rfl (hc D hG hs n h3 h4)
   ·cases h
  ·cases h
 ·cases h
def yw(args:List AV)(bs:List Blk):Rs (Out×List Blk):=
 match bs.all bH with
 |true=>match args with
  |[.str s,.str [c]]=>match decide (c.toNat<128)&&Nat.ble s.length 9223372036854775807 with
   |true=>.ok (.ret (.str (Lib.trimB s c)),bs)
   |false=>.err 0
  |_=>.err 0
 |false=>.err 0
theorem Bh{f:Nat}{fi:FI}(hf:FIOK P f fi)
  (hc:∀(w:World) (s:ByteArray) (c:UInt8),c.toNat<128→s.size≤9223372036854775807→Calls P f #[.string s,.string ⟨#[c]⟩] w fun e w'=>e= .returned (.string ⟨(Lib.trimB s.data.toList c).toArray⟩)∧(w'=w∨w'=w.drew))
  (args:List AV) (bs:List Blk) (r:Out×List Blk) (h:yw args bs= .ok r) (D:Ctx) (vals:List Value) (hG:D.gl=G) (hm:D.m=aC (aq 0 bs)) (hs:SRel D) (hv:au D args vals):bx P f vals.toArray D.w (bW D r):=by
 unfold yw at h
 split at h
 ·rename_i hok
  split at h
  ·rename_i s c
   split at h
   ·rename_i hck
    simp only[Bool.and_eq_true,decide_eq_true_eq]at hck
    obtain⟨h3,h4⟩:=hck
    have h4:s.length≤9223372036854775807:=Nat.le_of_ble_eq_true h4
    simp only[Rs.ok.injEq]at h
    subst h
    obtain⟨v,rr,rfl,h1,v2,r2,rfl,h5,h2⟩:=hv
    simp only[au]at h2
    subst h2
    simp only[ay]at h1 h5
    subst h1 h5
    refine fT hf hm hs hok (u:=.string ⟨(Lib.trimB s c).toArray⟩) (fun D'=>rfl) rfl (Calls.mono (hc D.w ⟨⟨s⟩⟩ c h3 h4) fun e w' ⟨e1,e2⟩=>⟨e1,?_⟩)
    rcases e2 with rfl|rfl
    ·exact RowKit.Below.refl _ _
    ·exact(RowKit.Below.refl _ _).drew
   ·cases h
  ·cases h
 ·cases h
def nz(args:List AV)(bs:List Blk):Rs (Out×List Blk):=
 match bs.all bH with
 |true=>match args with
  |[.str s,.int .i64 n]=>match decide (0≤n)&&(decide (n≤9223372036854775807)&&Nat.ble (s.length*n.toNat) 140737488355328)with
   |true=>.ok (.ret (.str (Lib.repeatL s n.toNat)),bs)
   |false=>.err 0
  |_=>.err 0
 |false=>.err 0
theorem xi{f:Nat}{fi:FI}(hf:FIOK P f fi)
  (hc:∀(w:World) (s:ByteArray) (c:Nat),c≤9223372036854775807→s.size*c≤140737488355328→Calls P f #[.string s,.int .i64 c] w fun e w'=>e= .returned (.string ⟨(Lib.repeatL s.data.toList c).toArray⟩)∧RowKit.Below w.heap.size w w')
  (args:List AV) (bs:List Blk) (r:Out×List Blk) (h:nz args bs= .ok r) (D:Ctx) (vals:List Value) (hG:D.gl=G) (hm:D.m=aC (aq 0 bs)) (hs:SRel D) (hv:au D args vals):bx P f vals.toArray D.w (bW D r):=by
 unfold nz at h
 split at h
 ·rename_i hok
  split at h
  ·rename_i s n
   split at h
   ·rename_i hck
    simp only[Bool.and_eq_true,decide_eq_true_eq]at hck
    obtain⟨h3,h4,h6⟩:=hck
    have h6:s.length*n.toNat≤140737488355328:=Nat.le_of_ble_eq_true h6
    simp only[Rs.ok.injEq]at h
    subst h
    obtain⟨v,rr,rfl,h1,v2,r2,rfl,h5,h2⟩:=hv
    simp only[au]at h2
    subst h2
    simp only[ay]at h1 h5
    subst h1 h5
    have hn:(n.toNat:Int)=n:=Int.toNat_of_nonneg h3
    have:=hc D.w ⟨⟨s⟩⟩ n.toNat (by omega) (by simpa [ByteArray.size]using h6)
    rw[hn]at this
    exact fT hf hm hs hok (u:=.string ⟨(Lib.repeatL s n.toNat).toArray⟩) (fun D'=>rfl) rfl this
   ·cases h
  ·cases h
 ·cases h
end Go.Sx
namespace Go.Sx
open Go
variable{G:Nat→Obj→Prop}{P:Program}{E:Env}
theorem sX(bs:List Blk)(b:Blk):aC (aq 0 (bs++[b]))=bA (aC (aq 0 bs)) bs.length (some b):=by
 funext j
 simp only[aI,Nat.zero_le,if_true,Nat.sub_zero,bA]
 by_cases h:j=bs.length
 ·subst h;simp
 ·rw[if_neg h]
  by_cases h2:j<bs.length
  ·rw[List.getElem?_append_left h2]
  ·rw[List.getElem?_eq_none (by simp;omega),List.getElem?_eq_none (by omega)]
theorem sD(bs:List Blk):aC (aq 0 bs) bs.length=none:=by
 simp[aI]
theorem wu{D:Ctx}(hs:SRel D){bs:List Blk}(hm:D.m=aC (aq 0 bs)){w':World}(hb:RowKit.Below D.w.heap.size D.w w'){e:TypeId}{L:List Int}{u:Value}
  (hr:w'.ownsRow D.w.heap.size e 1 u L.length (L.map (Value.int .i64))):
  ∃D':Ctx,D'.w=w'∧D'.m=aC (aq 0 (bs++[.list e (.int .i64) 0 false L]))∧SRel D'∧Ext D D'∧ay D' (.own bs.length 0) u:=by
 have hnone:D.m bs.length=none:=by rw[hm];exact sD bs
 obtain⟨g',a,cap,rfl,hg',hlies⟩:∃g' a cap,u= .slice a L.length cap∧g'=G.list a cap∧∀k,cH g' k→D.w.heap.size≤k:=by
  rcases hr.2 with⟨rfl,hn⟩|⟨g,cap,cur,rfl,hg,_⟩
  ·exact⟨_,none,0,by rw[hn],rfl,fun k hk=>hk.elim⟩
  ·exact⟨_,some ⟨g,0,none⟩,cap,rfl,rfl,fun k hk=>by rw[show k=g from hk];exact hg⟩
 obtain⟨hE,hok⟩:=lM hs (id:=bs.length) (b':=.list e (.int .i64) 0 false L) (g':=g') (w':=w') hb.size (fun k hk _=>hb.block k hk) (fun k hk=>.inr (hlies k hk)) (fun k o hk=>.inr (hlies k (cn hk)))
  (fun _ cs h=>by rw[hnone]at h;cases h) (fun _ _ _ _ _ h=>by rw[hnone]at h;cases h)
  (fun k o v hv _=>by
   have hk:k<D.w.heap.size:=by
    unfold World.cell? at hv
    split at hv
    ·rename_i hh;exact(Array.getElem?_eq_some_iff.1 hh).1
    ·cases hv
   rw[hb.cell (p:=⟨k,o,none⟩) hk]
   exact hv) hb.os hb.tape hb.output
 refine⟨⟨w',bA D.m bs.length (some (.list e (.int .i64) 0 false L)),bA D.φ bs.length g',D.fr,D.gl⟩,rfl,by rw[sX,←hm],hok ?_,hE,e,.int .i64,0,false,L,by simp[bA],Nat.le_refl _,a,_,cap,rfl,fun _=>⟨by simp[bA,hg'],rfl⟩⟩
 refine⟨a,cap,hg',by simp[Ty.size],?_,?_⟩
 ·rcases hr.2 with⟨h,hn⟩|⟨g,cap',cur,h,_,_,hn,_⟩
  ·exact Nat.le_trans (Nat.le_of_eq hn) (Nat.zero_le _)
  ·simp only[Value.slice.injEq]at h
   obtain⟨_,_,rfl⟩:=h
   exact hn
 ·rcases hr.2 with⟨h,hn⟩|⟨g,cap',cur,h,hg,hh,hn,hcm,hcs,ht⟩
  ·simp only[Value.slice.injEq]at h
   obtain⟨rfl,_,rfl⟩:=h
   rfl
  ·simp only[Value.slice.injEq]at h
   obtain⟨rfl,_,rfl⟩:=h
   refine⟨rfl,cur,0,0,hh,by simp[hcs,Ty.size],by simp,fun h=>(by cases h),fun i x hi=>?_⟩
   show seg cur.toList (0+i*1) 1=[.int .i64 x]
   have h2:cur.toList[i]? =some (.int .i64 x):=by
    have h3:(cur.toList.take (L.length*1))[i]? =some (.int .i64 x):=by
     rw[ht,List.getElem?_map]
     have:(L:List Int)[i]? =some x:=hi
     rw[this];rfl
    rw[List.getElem?_take]at h3
    split at h3
    ·exact h3
    ·cases h3
   apply List.ext_getElem?
   intro j
   rw[bL]
   cases j with
   |zero=>simpa using h2
   |succ j=>simp
def sa(e:TypeId)(args:List AV)(bs:List Blk):Rs (Out×List Blk):=
 match bs.all bH with
 |true=>match args with
  |[a]=>match a with
   | .nils=>.ok (.ret .nils,bs)
   |a=>match dd (aC (aq 0 bs)) a with
    |some (.mk t L _)=>match dc t (.int .i64) L with
     |some L'=>match Nat.ble (List.length L') 17592186044416 with
      |true=>.ok (.ret (.own bs.length 0),bs++[.list e (.int .i64) 0 false L'])
      |false=>.err 0
     |none=>.err 0
    |none=>.err 0
  |_=>.err 0
 |false=>.err 0
theorem zC{f:Nat}{fi:FI}(hf:FIOK P f fi){e:TypeId}
  (hc:∀(b off n c:Nat) (zs:List Int) (w:World),n≤zs.length→n*8≤140737488355328→(∀j,j<zs.length→w.cell? ⟨b,off+j,none⟩=some (.int .i64 (zs.getD j 0)))→
   Calls P f #[.slice (some ⟨b,off,none⟩) n c] w fun en w'=>∃v',en= .returned v'∧w'.ownsRow w.heap.size e 1 v' n ((zs.take n).map (Value.int .i64))∧v'≠ .slice none 0 0∧RowKit.Below w.heap.size w w')
  (hn:∀(n c:Nat) (w:World),Calls P f #[.slice none n c] w fun en w'=>en= .returned (.slice none 0 0)∧w'=w)
  (hz:∀(a:Addr) (c:Nat) (w:World),Calls P f #[.slice (some a) 0 c] w fun en w'=>∃v',en= .returned v'∧w'.ownsRow w.heap.size e 1 v' 0 []∧v'≠ .slice none 0 0∧RowKit.Below w.heap.size w w')
  (args:List AV) (bs:List Blk) (r:Out×List Blk) (h:sa e args bs= .ok r) (D:Ctx) (vals:List Value) (hG:D.gl=G) (hm:D.m=aC (aq 0 bs)) (hs:SRel D) (hv:au D args vals):bx P f vals.toArray D.w (bW D r):=by
 unfold sa at h
 split at h
 ·rename_i hok
  split at h
  ·rename_i a
   obtain⟨v,rr,rfl,h1,h2⟩:=hv
   simp only[au]at h2
   subst h2
   split at h
   ·simp only[Rs.ok.injEq]at h
    subst h
    simp only[ay]at h1
    subst h1
    exact fT hf hm hs hok (u:=.slice none 0 0) (fun D'=>by simp[ay]) rfl (Calls.mono (hn 0 0 D.w) fun en w' ⟨e1,e2⟩=>⟨e1,by rw[e2];exact RowKit.Below.refl _ _⟩)
   ·split at h
    ·rename_i t L m hsl
     split at h
     ·rename_i L' hcL
      obtain⟨ht,hL⟩:=di hcL
      subst ht
      obtain rfl:L=L':=hL.symm
      split at h
      ·rename_i hlen
       have hlen:List.length L≤17592186044416:=Nat.le_of_ble_eq_true hlen
       simp only[Rs.ok.injEq]at h
       subst h
       rw[←hm]at hsl
       obtain⟨ad,cap,rfl,hcap,hx⟩:=iY hs h1 hsl
       refine .inl ⟨cU hf _ _,?_⟩
       have fin:∀en w',(∃v',en= .returned v'∧w'.ownsRow D.w.heap.size e 1 v' (List.length L) (List.map (Value.int .i64) L)∧RowKit.Below D.w.heap.size D.w w')→bW D (.ret (.own bs.length 0),bs++[.list e (.int .i64) 0 false L]) en w':=by
        rintro en w' ⟨v',rfl,hr,hb⟩
        obtain⟨D',k1,k2,k3,k4,k5⟩:=wu hs hm hb hr
        exact⟨_,D',rfl,k1,k2,k3,k4,k5,rfl,by rw[List.all_append,hok];rfl⟩
       cases L with
       |nil=>
        cases ad with
        |none=>exact Calls.mono (hn _ _ D.w) fun en w' ⟨e1,e2⟩=>fin en w' ⟨_,e1,⟨rfl,.inl ⟨rfl,rfl⟩⟩,by rw[e2];exact RowKit.Below.refl _ _⟩
        |some ad=>exact Calls.mono (hz ad cap D.w) fun en w' ⟨v',e1,e2,_,e3⟩=>fin en w' ⟨v',e1,e2,e3⟩
       |cons x L=>
        obtain⟨ad',cs0,rfl,hsp,_⟩:=hx 0 x (by simp)
        obtain⟨k,o,sp⟩:=ad'
        simp only at hsp
        subst hsp
        refine Calls.mono (hc k o (List.length (x::L)) cap (x::L) D.w (Nat.le_refl _) (by omega) (fun j hj=>?_)) fun en w' ⟨v',e1,e2,_,e3⟩=>fin en w' ⟨v',e1,by{have h:(x::L).take (List.length (x::L))=x::L:=List.take_length;exact Eq.mp (congrArg (fun Z:List Int=>w'.ownsRow D.w.heap.size e 1 v' (List.length (x::L)) (List.map (Value.int .i64) Z)) h) e2},e3⟩
        obtain⟨ad2,cs,e1,_,hcell,hrep⟩:=hx j (x::L)[j] (List.getElem?_eq_getElem hj)
        cases e1
        have:cs=[.int .i64 ((x::L)[j])]:=hrep
        subst this
        have:=hcell 0 _ rfl
        have hg:∀(Z:List Int) (hj:j<Z.length),Z.getD j 0=Z[j]:=fun Z hj=>by simp[List.getD,hj]
        have hg2:=hg (x::L) hj
        simp only[Ty.size,Nat.mul_one,Nat.add_zero]at this
        exact Eq.trans this (congrArg (fun z:Int=>some (Value.int .i64 z)) hg2.symm)
      ·cases h
     ·cases h
    ·cases h
  ·cases h
 ·cases h
end Go.Sx
namespace Go.Sx
open Go
variable{G:Nat→Obj→Prop}{P:Program}{E:Env}
theorem iP{bs:List Blk}{b:Nat}{x:Blk}(h:b<bs.length):aC (aq 0 (bs.set b x))=bA (aC (aq 0 bs)) b (some x):=by
 funext j
 simp only[aI,Nat.zero_le,if_true,Nat.sub_zero,bA,List.getElem?_set]
 by_cases hj:j=b
 ·subst hj;simp[h]
 ·rw[if_neg (Ne.symm hj),if_neg hj]
theorem sn{α:Type}{p:α→Bool}:∀{l:List α} {i:Nat} {x:α},l.all p=true→p x=true→(l.set i x).all p=true
 |[],_,_,h,_=>h
 |a::l,0,x,h,hx=>by simp only[List.all_cons,Bool.and_eq_true,List.set_cons_zero]at *; exact⟨hx,h.2⟩
 |a::l,i+1,x,h,hx=>by simp only[List.all_cons,Bool.and_eq_true,List.set_cons_succ]at *; exact⟨h.1,sn h.2 hx⟩
theorem uN{w:World}{rb off:Nat}{c:Array Value}{ty:TypeId}{fz:Nat×Nat}(hh:w.heap[rb]? =some (.cells c ty fz))(v:Value):w.setCell ⟨rb,off,none⟩ v=w.setRow rb (c.setIfInBounds off v):=by
 unfold World.setCell World.setRow
 congr 1
 apply Array.ext_getElem?
 intro i
 simp only[Array.getElem?_modify]
 by_cases hi:rb=i
 ·subst hi;simp[hh]
 ·simp[hi]
def isSelf(b:Nat):AV→Bool
 | .nilp=>true
 | .ref b' 0=>Nat.beq b b'
 | .bself b'=>Nat.beq b b'
 |_=>false
def gy(tB:TypeId)(n:Nat)(args:List AV)(bs:List Blk):Rs (Out×List Blk):=
 match bs.all bH with
 |true=>match args with
  |[.ref b 0]=>match nth bs b with
   |some (.cells ty (x::y::z))=>match Nat.beq ty tB&&(Nat.beq z.length n&&isSelf b x)with
    |true=>.ok (.ret (.tup []),bs.set b (.cells ty (.bself b::y::z)))
    |false=>.err 0
   |_=>.err 0
  |_=>.err 0
 |false=>.err 0
theorem jF{f:Nat}{fi:FI}(hf:FIOK P f fi){tB:TypeId}{n:Nat}
  (hc1:∀(b:Nat) (w:World),w.cell? ⟨b,0,none⟩=some (.pointer none)→w.shape? b=some (tB,n+2)→w.frozen? ⟨b,0,none⟩=false→
   Calls P f #[.pointer (some ⟨b,0,none⟩)] w fun e w'=>e= .returned (.tuple #[])∧w'=w.setCell ⟨b,0,none⟩ (.pointer (some ⟨b,0,none⟩)))
  (hc2:∀(b:Nat) (w:World),w.cell? ⟨b,0,none⟩=some (.pointer (some ⟨b,0,none⟩))→Calls P f #[.pointer (some ⟨b,0,none⟩)] w fun e w'=>e= .returned (.tuple #[])∧w'=w)
  (args:List AV) (bs:List Blk) (r:Out×List Blk) (h:gy tB n args bs= .ok r) (D:Ctx) (vals:List Value) (hG:D.gl=G) (hm:D.m=aC (aq 0 bs)) (hs:SRel D) (hv:au D args vals):bx P f vals.toArray D.w (bW D r):=by
 unfold gy at h
 split at h
 ·rename_i hok
  split at h
  ·rename_i b
   obtain⟨v,rr,rfl,h1,h2⟩:=hv
   simp only[au]at h2
   subst h2
   split at h
   ·rename_i ty x y z hb
    split at h
    ·rename_i hck
     simp only[Bool.and_eq_true]at hck
     obtain⟨hty,hzn,hself⟩:=hck
     have hty:=beq_eq hty
     have hzn:=beq_eq hzn
     subst hty hzn
     simp only[Rs.ok.injEq]at h
     subst h
     rw[cP]at hb
     have hlt:b<bs.length:=(List.getElem?_eq_some_iff.1 hb).1
     have hmb:D.m b=some (.cells ty (x::y::z)):=by rw[hm];simp[aI,hb]
     obtain⟨rb,ty',cs',e1,hφ,rfl⟩:=h1
     obtain⟨rb',c,hφ',hh,hrel,hleaf⟩:=hs.ok b _ hmb
     rw[hφ]at hφ'
     cases hφ'
     obtain⟨v0,r0,hc0,hx0,hrel1⟩:=hrel
     obtain⟨v1,r1,hc1',hx1,hr2⟩:=hrel1
     have hrl:r1.length=z.length:=hr2.len.symm
     subst hc1'
     have hc:c=(v0::v1::r1).toArray:=by apply Array.ext';simpa using hc0
     subst hc
     have hcell0:D.w.cell? ⟨rb,0,none⟩=some v0:=by simp[World.cell?,hh]
     have hv0:v0= .pointer none∨v0= .pointer (some ⟨rb,0,none⟩):=by
      unfold isSelf at hself
      split at hself
      ·exact .inl hx0
      ·rename_i b'
       have:=beq_eq hself
       subst this
       obtain⟨rb2,_,_,_,hφ2,e⟩:=hx0
       rw[hφ]at hφ2
       cases hφ2
       exact .inr e
      ·rename_i b'
       have:=beq_eq hself
       subst this
       obtain⟨rb2,_,_,_,hφ2,e⟩:=hx0
       rw[hφ]at hφ2
       cases hφ2
       exact e
      ·cases hself
     have hok':(bs.set b (.cells ty (.bself b::y::z))).all bH=true:=by
      refine sn hok ?_
      have:=List.all_eq_true.1 hok _ (List.mem_of_getElem? hb)
      simp only[bH,List.all_cons,Bool.and_eq_true,List.all_nil,and_true]at this⊢
      exact⟨rfl,this.2⟩
     have hleaf':(.bself b::y::z:List AV).all AV.leaf=true:=by
      simp only[List.all_cons,Bool.and_eq_true,List.all_nil,and_true]at hleaf⊢
      exact⟨rfl,hleaf.2⟩
     refine .inl ⟨cU hf _ _,?_⟩
     rcases hv0 with rfl|rfl
     ·refine Calls.mono (hc1 rb D.w hcell0 (by simp[World.shape?,hh,hrl]) (by simp[World.frozen?,hh])) fun e w' ⟨k1,k2⟩=>?_
      subst k1 k2
      rw[uN hh,show(Value.pointer none::v1::r1).toArray.setIfInBounds 0 (.pointer (some ⟨rb,0,none⟩))=(.pointer (some ⟨rb,0,none⟩)::v1::r1).toArray from by simp]
      obtain⟨hE,hS⟩:=sP hs (id:=b) (b':=.cells ty (.bself b::y::z)) (c':=(.pointer (some ⟨rb,0,none⟩)::v1::r1).toArray) hmb hh (by rw[hφ];rfl)
       (fun k o hk=>by rw[hφ]at hk⊢;exact hk) (fun ty2 cs2 e=>by cases e;exact⟨_,rfl⟩) (fun _ _ _ _ _ e=>by cases e)
       (fun j hj=>(hj (by rw[hφ];rfl)).elim)
      refine⟨_,_,rfl,rfl,by rw[iP hlt,←hm],hS ⟨rb,(.pointer (some ⟨rb,0,none⟩)::v1::r1).toArray,hφ,setRow_heap D.w rb _ _ ty (0,0) hh,⟨_,_,rfl,?_,_,_,rfl,hx1.mono hE,hr2.mono hE⟩,hleaf'⟩,hE,⟨#[],rfl,rfl⟩,rfl,hok'⟩
      exact⟨rb,ty,(.bself b::y::z),by simp[bA],hφ,.inr rfl⟩
     ·refine Calls.mono (hc2 rb D.w hcell0) fun e w' ⟨k1,k2⟩=>?_
      subst k1 k2
      obtain⟨hE,hS⟩:=gr hs (id:=b) (b':=.cells ty (.bself b::y::z)) (g':=D.φ b) (fun k hk=>⟨_,hmb,hk⟩) (fun k o hk=>⟨_,hmb,by rw[hφ]at hk⊢;exact hk⟩)
       (fun ty2 cs2 e=>by rw[hmb]at e;cases e;exact⟨rfl,_,rfl⟩) (fun _ _ _ _ _ e=>by rw[hmb]at e;cases e)
      simp only[du]at hE hS
      refine⟨_,⟨D.w,bA D.m b (some (.cells ty (.bself b::y::z))),D.φ,D.fr,D.gl⟩,rfl,rfl,by rw[iP hlt,←hm],hS ⟨rb,_,hφ,hh,⟨_,_,rfl,?_,_,_,rfl,hx1.mono hE,hr2.mono hE⟩,hleaf'⟩,hE,⟨#[],rfl,rfl⟩,rfl,hok'⟩
      exact⟨rb,ty,(.bself b::y::z),by simp[bA],hφ,.inr rfl⟩
    ·cases h
   ·cases h
  ·cases h
 ·cases h
def isByte(n:Int):Bool:=decide (0≤n)&&decide (n<256)
def cC(L:List Int):List UInt8:=L.map fun n=>UInt8.ofNat n.toNat
def ny(tB eB:TypeId)(n:Nat)(args:List AV)(bs:List Blk):Rs (Out×List Blk):=
 match bs.all bH with
 |true=>match args with
  |[.ref b 0]=>match nth bs b with
   |some (.cells ty (_::y::z))=>match Nat.beq ty tB&&Nat.beq z.length n with
    |true=>match y with
     | .nils=>.ok (.ret (.str []),bs)
     | .own b2 g=>match nth bs b2 with
      |some (.list ee t g' _ L)=>match dc t (.int .u8) L with
       |some L'=>match Nat.beq g g'&&Nat.beq ee eB&&(List.all L' isByte&&Nat.ble (List.length L') 9223372036854775807)with
        |true=>.ok (.ret (.str (cC L')),bs.set b2 (.list ee t g' true L))
        |false=>.err 0
       |none=>.err 0
      |_=>.err 0
     |_=>.err 0
    |false=>.err 0
   |_=>.err 0
  |_=>.err 0
 |false=>.err 0
theorem tQ{L:List Int}(h:L.all isByte=true){j:Nat}{x:UInt8}(hx:(cC L)[j]? =some x):L[j]? =some (x.toNat:Int):=by
 simp only[cC,List.getElem?_map,Option.map_eq_some_iff]at hx
 obtain⟨n,hn,rfl⟩:=hx
 have:=List.all_eq_true.1 h n (List.mem_of_getElem? hn)
 simp only[isByte,Bool.and_eq_true,decide_eq_true_eq]at this
 rw[hn]
 congr 1
 simp only[UInt8.toNat_ofNat']
 omega
theorem wU{C:Ctx}(hs:SRel C){b:Nat}{ee:Nat}{t:Ty}{g:Nat}{L:List t.den}(hm:C.m b=some (.list ee t g true L)){ad:Addr}{cap:Nat}(hφ:C.φ b= .list (some ad) cap){n:Nat}(hn:n≤L.length*t.size):
  let C':Ctx:={C with w:=(C.w.drew.freeze ⟨ad.block,ad.off,none⟩ n)}
  SRel C'∧Ext C C':=by
 intro C'
 obtain⟨a,cap',hφ',hz,hc,hbk⟩:=hs.ok b _ hm
 rw[hφ]at hφ'
 cases hφ'
 obtain⟨hsp,c,lo,hi,hh,hsz,hfz,hsh,hx⟩:=hbk
 have hheap:∀k,k≠ad.block→C'.w.heap[k]? =C.w.heap[k]? :=fun k hk=>by
  show(C.w.drew.freeze ⟨ad.block,ad.off,none⟩ n).heap[k]? =_
  unfold World.freeze
  split
  ·rfl
  ·simp only[Array.getElem?_modify]
   rw[if_neg (Ne.symm hk)]
   rfl
 have hat:∃lo' hi',C'.w.heap[ad.block]? =some (.cells c ee (lo',hi'))∧hi'≤ad.off+L.length*t.size:=by
  show ∃lo' hi',(C.w.drew.freeze ⟨ad.block,ad.off,none⟩ n).heap[ad.block]? =_∧_
  simp only[if_true]at hfz
  unfold World.freeze
  split
  ·exact⟨lo,hi,hh,hfz⟩
  ·have:C.w.drew.heap[ad.block]? =some (.cells c ee (lo,hi)):=hh
   simp only[Array.getElem?_modify,if_true,this,Option.map_some]
   by_cases e:(lo==hi)=true
   ·refine⟨ad.off,ad.off+n,by simp[e],by omega⟩
   ·refine⟨min lo ad.off,max hi (ad.off+n),by simp[e],by omega⟩
 have hcell:∀k o,C'.w.cell? ⟨k,o,none⟩=C.w.cell? ⟨k,o,none⟩:=fun k o=>by
  by_cases hk:k=ad.block
  ·subst hk
   obtain⟨lo',hi',h1,_⟩:=hat
   simp only[World.cell?,h1,hh]
  ·simp only[World.cell?,hheap k hk]
 have hsize:C'.w.heap.size=C.w.heap.size:=by
  show(C.w.drew.freeze ⟨ad.block,ad.off,none⟩ n).heap.size=_
  unfold World.freeze
  split
  ·rfl
  ·simp only[Array.size_modify];rfl
 have hosh:C'.w.os=C.w.os∧C'.w.tape=C.w.tape∧C'.w.output=C.w.output:=by
  show(C.w.drew.freeze ⟨ad.block,ad.off,none⟩ n).os=_∧(C.w.drew.freeze ⟨ad.block,ad.off,none⟩ n).tape=_∧(C.w.drew.freeze ⟨ad.block,ad.off,none⟩ n).output=_
  unfold World.freeze
  split<;>exact⟨rfl,rfl,rfl⟩
 obtain⟨hE,hok⟩:=lM hs (id:=b) (b':=.list ee t g true L) (g':=C.φ b) (w':=C'.w) (by rw[hsize];exact Nat.le_refl _)
  (fun k hk hn=>hheap k fun e=>hn ⟨_,hm,by rw[hφ,e];rfl⟩) (fun k hk=>.inl ⟨_,hm,hk⟩) (fun k o hk=>.inl ⟨_,hm,hk⟩) (fun _ _ e=>by rw[hm]at e;cases e)
  (fun ee2 t2 g2 sh2 L2 e=>by rw[hm]at e;cases e;exact⟨g,true,L,rfl,Nat.le_refl _,fun _=>⟨rfl,rfl⟩⟩) (fun k o v hv _=>by rw[hcell];exact hv) hosh.1 hosh.2.1 hosh.2.2
 have hmm:bA C.m b (some (.list ee t g true L))=C.m:=by rw[←hm];exact du _ _
 simp only[du,hmm]at hE hok
 refine⟨hok ?_,hE⟩
 obtain⟨lo',hi',h1,h2⟩:=hat
 refine⟨some ad,cap,hφ,hz,hc,hsp,c,lo',hi',h1,hsz,by simpa using h2,fun _ o k1 k2 k3=>hsh rfl o k1 k2 k3,fun i x hi=>(hx i x hi).mono hE.keep⟩
theorem nE{f:Nat}{fi:FI}(hf:FIOK P f fi){tB eB:TypeId}{n:Nat}
  (hfull:∀(b g o cap:Nat) (l:List UInt8) (w:World),l≠[]→l.length≤cap→l.length≤9223372036854775807→∀(cur:Array Value) (fz:Nat×Nat),
   w.cell? ⟨b,1,none⟩=some (.slice (some ⟨g,o,none⟩) l.length cap)→w.heap[g]? =some (.cells cur eB fz)→o+l.length≤cur.size→
   (∀j x,l[j]? =some x→w.cell? ((⟨g,o,none⟩:Addr).add j)=some (.int .u8 x.toNat))→
   Calls P f #[.pointer (some ⟨b,0,none⟩)] w fun e w'=>e= .returned (.string ⟨l.toArray⟩)∧w'=w.drew.freeze ⟨g,o,none⟩ l.length)
  (hnil:∀(b:Nat) (w:World),w.cell? ⟨b,1,none⟩=some (.slice none 0 0)→Calls P f #[.pointer (some ⟨b,0,none⟩)] w fun e w'=>e= .returned (.string ⟨#[]⟩)∧RowKit.Below w.heap.size w w')
  (hnoroom:∀(b g o:Nat) (cur:Array Value) (w:World),w.cell? ⟨b,1,none⟩=some (.slice (some ⟨g,o,none⟩) 0 0)→∀(fz:Nat×Nat),w.heap[g]? =some (.cells cur eB fz)→
   Calls P f #[.pointer (some ⟨b,0,none⟩)] w fun e w'=>e= .returned (.string ⟨#[]⟩)∧RowKit.Below w.heap.size w w')
  (hroom:∀(b g o cap:Nat) (w:World),cap≠0→w.cell? ⟨b,1,none⟩=some (.slice (some ⟨g,o,none⟩) 0 cap)→Calls P f #[.pointer (some ⟨b,0,none⟩)] w fun e w'=>e= .returned (.string ⟨#[]⟩)∧RowKit.Below w.heap.size w w')
  (args:List AV) (bs:List Blk) (r:Out×List Blk) (h:ny tB eB n args bs= .ok r) (D:Ctx) (vals:List Value) (hG:D.gl=G) (hm:D.m=aC (aq 0 bs)) (hs:SRel D) (hv:au D args vals):bx P f vals.toArray D.w (bW D r):=by
 unfold ny at h
 split at h
 ·rename_i hok
  split at h
  ·rename_i b
   obtain⟨v,rr,rfl,h1,h2⟩:=hv
   simp only[au]at h2
   subst h2
   split at h
   ·rename_i ty x y z hb
    split at h
    ·rename_i hty
     simp only[Bool.and_eq_true]at hty
     have hty:=beq_eq hty.1
     subst hty
     rw[cP]at hb
     have hmb:D.m b=some (.cells ty (x::y::z)):=by rw[hm];simp[aI,hb]
     obtain⟨rb,ty',cs',e1,hφ,rfl⟩:=h1
     obtain⟨rb',c,hφ',hh,hrel,hleaf⟩:=hs.ok b _ hmb
     rw[hφ]at hφ'
     cases hφ'
     obtain⟨v0,r0,hc0,hx0,hrel1⟩:=hrel
     obtain⟨v1,r1,hc1',hx1,hr2⟩:=hrel1
     subst hc1'
     have hc:c=(v0::v1::r1).toArray:=by apply Array.ext';simpa using hc0
     subst hc
     have hcl:D.w.cell? ⟨rb,1,none⟩=some v1:=by simp[World.cell?,hh]
     split at h
     ·simp only[Rs.ok.injEq]at h
      subst h
      simp only[ay]at hx1
      subst hx1
      exact fT hf hm hs hok (u:=.string ⟨#[]⟩) (fun D'=>rfl) rfl (hnil rb D.w hcl)
     ·rename_i b2 g
      split at h
      ·rename_i ee t g' sh L hb2
       split at h
       ·rename_i L' hcL
        obtain⟨ht,hL⟩:=di hcL
        subst ht
        obtain rfl:L=L':=hL.symm
        split at h
        ·rename_i hck
         simp only[Bool.and_eq_true]at hck
         obtain⟨⟨hg,hee⟩,hby,hlen⟩:=hck
         have hg:=beq_eq hg
         have hee:=beq_eq hee
         subst hg hee
         have hlen:List.length L≤9223372036854775807:=Nat.le_of_ble_eq_true hlen
         simp only[Rs.ok.injEq]at h
         subst h
         rw[cP]at hb2
         have hlt:b2<bs.length:=(List.getElem?_eq_some_iff.1 hb2).1
         have hmb2:D.m b2=some (.list ee (.int .u8) g sh L):=by rw[hm];simp[aI,hb2]
         obtain⟨a,cap,hφ2,hv1,hcap,hz⟩:=iT hs hx1 hmb2
         obtain⟨a',cap',hφ2',_,_,hbk⟩:=hs.ok b2 _ hmb2
         rw[hφ2]at hφ2'
         cases hφ2'
         have hok':(bs.set b2 (.list ee (.int .u8) g true L)).all bH=true:=sn hok rfl
         have hm':∀(C:Ctx),C.m=D.m→bA C.m b2 (some (Blk.list ee (.int .u8) g true L))=aC (aq 0 (bs.set b2 (.list ee (.int .u8) g true L))):=fun C hC=>by rw[iP hlt,←hm,hC]
         have hLl:List.length L=(cC L).length:=(List.length_map (as:=(L:List Int)) (fun n:Int=>UInt8.ofNat n.toNat)).symm
         subst hv1
         refine .inl ⟨cU hf _ _,?_⟩
         have empty:∀{en:Ending} {w':World},List.length L=0→en= .returned (.string ⟨#[]⟩)∧RowKit.Below D.w.heap.size D.w w'→bW D (.ret (.str (cC L)),bs.set b2 (.list ee (.int .u8) g true L)) en w':=by
          intro en w' hl0 ⟨k1,k2⟩
          subst k1
          obtain⟨s1,s2⟩:=lT hs k2
          obtain⟨s3,s4,_⟩:=ma s1 (b:=b2) (ee:=ee) (t:=.int .u8) (g:=g) (sh:=sh) (L:=L) hmb2
          have hL0:cC L=[]:=by rw[←List.length_eq_zero_iff,←hLl];exact hl0
          refine⟨_,_,rfl,rfl,hm' _ rfl,s3,s2.trans s4,?_,rfl,hok'⟩
          show _=_
          rw[hL0]
         cases a with
         |none=>
          have hc0:cap=0:=hbk
          have hl0:List.length L=0:=by have:List.length L≤cap:=hcap;omega
          subst hc0
          refine Calls.mono (hnil rb D.w ?_) fun en w' hk=>empty hl0 hk
          rw[hcl]
          have:(List.length L:Nat)=0:=hl0
          rw[show(Value.slice none (List.length L) 0)= .slice none 0 0 by rw[this]]
         |some ad=>
          obtain⟨k0,o0,sp⟩:=ad
          obtain⟨hsp,cur,lo,hi,hcur,hsz,hfz,hsh,hxx⟩:=hbk
          simp only at hsp hcur hsz hfz hsh hxx
          subst hsp
          by_cases hl0:List.length L=0
          ·by_cases hcap0:cap=0
           ·subst hcap0
            refine Calls.mono (hnoroom rb k0 o0 cur D.w ?_ (lo,hi) hcur) fun en w' hk=>empty hl0 hk
            rw[hcl,show(Value.slice (some ⟨k0,o0,none⟩) (List.length L) 0)= .slice (some ⟨k0,o0,none⟩) 0 0 by rw[hl0]]
           ·refine Calls.mono (hroom rb k0 o0 cap D.w hcap0 ?_) fun en w' hk=>empty hl0 hk
            rw[hcl,show(Value.slice (some ⟨k0,o0,none⟩) (List.length L) cap)= .slice (some ⟨k0,o0,none⟩) 0 cap by rw[hl0]]
          ·have hne:cC L≠[]:=fun e=>hl0 (by rw[hLl,e];rfl)
           have hcapL:List.length L≤cap:=hcap
           simp only[Ty.size,Nat.mul_one]at hsz
           refine Calls.mono (hfull rb k0 o0 cap (cC L) D.w hne (by omega) (by omega) cur (lo,hi) (by rw[hcl,hLl]) hcur (by omega) fun j x hx=>?_) fun en w' hk=>?_
           ·have hj:=tQ hby hx
            have:=hxx j (x.toNat:Int) hj
            have h3:seg cur.toList (o0+j*1) 1=[.int .u8 x.toNat]:=this
            have h4:=congrArg (·[0]?) h3
            simp only[bL,Nat.mul_one,Nat.zero_lt_one,if_true,Nat.add_zero,List.getElem?_cons_zero]at h4
            have h5:cur[o0+j]? =some (.int .u8 x.toNat):=by simpa using h4
            rw[addr_add]
            simp only[World.cell?,hcur]
            exact h5
           ·obtain⟨k1,k2⟩:=hk
            subst k1 k2
            obtain⟨s3,s4,_⟩:=ma hs (b:=b2) (ee:=ee) (t:=.int .u8) (g:=g) (sh:=sh) (L:=L) hmb2
            obtain⟨s5,s6⟩:=wU s3 (b:=b2) (ee:=ee) (t:=.int .u8) (g:=g) (L:=L) (by simp[bA]) (ad:=⟨k0,o0,none⟩) (cap:=cap) hφ2 (n:=(cC L).length) (by simp only[Ty.size,Nat.mul_one];exact Nat.le_of_eq hLl.symm)
            exact⟨_,_,rfl,rfl,hm' _ rfl,s5,s4.trans s6,rfl,rfl,hok'⟩
        ·cases h
       ·cases h
      ·cases h
     ·cases h
    ·cases h
   ·cases h
  ·cases h
 ·cases h
end Go.Sx
namespace Go.Sx
open Go
variable{G:Nat→Obj→Prop}{P:Program}{E:Env}
abbrev Ha:=List AV→List Blk→Rs (Out×List Blk)
abbrev kD:=List AV→List Blk→DT (Out×List Blk)
def ofT(f:Nat)(g:kD):aQ:=fun R args bs k=>(g args bs).bindK (1000000+f) k
def L3(P:Program)(G:Nat→Obj→Prop)(f:Nat)(g:Ha):Prop:=∀args bs r,g args bs= .ok r→SA P G f args bs r
theorem ja{f:Nat}{g:kD}{d:Ha}(hd:L3 P G f d)(h:∀args bs o,(g args bs).run=some o→d args bs= .ok o):aK P G f (ofT f g):=fun R args bs k r hr=>by
 obtain⟨o,h1,h2⟩:=iQ hr
 exact⟨o,h2,hd args bs o (h args bs o h1)⟩
def ns:kD:=fun args bs=>match bs.all bH with
 |true=>match args with
  |[.int .i64 n,.int .i64 b]=>.br (decide (b=10)&&(decide (-9223372036854775808≤n)&&decide (n≤9223372036854775807))) (.leaf (.ret (.str (Lib.itoa n)),bs)) .fail
  |_=>.fail
 |false=>.fail
theorem zH(args:List AV)(bs:List Blk)(o:Out×List Blk)(h:(ns args bs).run=some o):nx args bs= .ok o:=by
 unfold ns at h
 split at h
 ·rename_i e1
  split at h
  ·simp only[DT.run]at h
   split at h
   ·rename_i e2
    simp only[Option.some.injEq]at h
    subst h
    simp only[nx,e1,e2]
   ·cases h
  ·cases h
 ·cases h
def zg:kD:=fun args bs=>match bs.all bH with
 |true=>match args with
  |[.str s,.str [c]]=>.br (decide (c.toNat<128)&&Nat.ble s.length 9223372036854775807) (.leaf (.ret (.str (Lib.trimB s c)),bs)) .fail
  |_=>.fail
 |false=>.fail
theorem EP(args:List AV)(bs:List Blk)(o:Out×List Blk)(h:(zg args bs).run=some o):yw args bs= .ok o:=by
 unfold zg at h
 split at h
 ·rename_i e1
  split at h
  ·simp only[DT.run]at h
   split at h
   ·rename_i e2
    simp only[Option.some.injEq]at h
    subst h
    simp only[yw,e1,e2]
   ·cases h
  ·cases h
 ·cases h
def nf:kD:=fun args bs=>match bs.all bH with
 |true=>match args with
  |[.str s,.int .i64 n]=>.br (decide (0≤n)&&(decide (n≤9223372036854775807)&&Nat.ble (s.length*n.toNat) 140737488355328)) (.leaf (.ret (.str (Lib.repeatL s n.toNat)),bs)) .fail
  |_=>.fail
 |false=>.fail
theorem AI(args:List AV)(bs:List Blk)(o:Out×List Blk)(h:(nf args bs).run=some o):nz args bs= .ok o:=by
 unfold nf at h
 split at h
 ·rename_i e1
  split at h
  ·simp only[DT.run]at h
   split at h
   ·rename_i e2
    simp only[Option.some.injEq]at h
    subst h
    simp only[nz,e1,e2]
   ·cases h
  ·cases h
 ·cases h
def ki(e:TypeId):kD:=fun args bs=>match bs.all bH with
 |true=>match args with
  |[a]=>match a with
   | .nils=>.leaf (.ret .nils,bs)
   |a=>match dd (aC (aq 0 bs)) a with
    |some (.mk t L _)=>match dc t (.int .i64) L with
     |some L'=>.br (Nat.ble (List.length L') 17592186044416) (.leaf (.ret (.own bs.length 0),bs++[.list e (.int .i64) 0 false L'])) .fail
     |none=>.fail
    |none=>.fail
  |_=>.fail
 |false=>.fail
theorem Bn(e:TypeId)(args:List AV)(bs:List Blk)(o:Out×List Blk)(h:(ki e args bs).run=some o):sa e args bs= .ok o:=by
 unfold ki at h
 unfold sa
 split at h
 ·rename_i e1
  try rw[e1]
  try simp only
  split at h
  ·split at h
   ·simp only[DT.run,Option.some.injEq]at h
    subst h
    rfl
   ·split at h
    ·rename_i hsl
     split at h
     ·rename_i hc
      simp only[DT.run]at h
      split at h
      ·rename_i e2
       simp only[Option.some.injEq]at h
       subst h
       first|rfl|simp only[hsl,hc,e2]
      ·cases h
     ·cases h
    ·cases h
  ·cases h
 ·cases h
def dM(tB:TypeId)(n:Nat:=0):kD:=fun args bs=>match gy tB n args bs with
 | .ok o=>.leaf o
 | .err _=>.fail
theorem kz(tB:TypeId)(n:Nat)(args:List AV)(bs:List Blk)(o:Out×List Blk)(h:(dM tB n args bs).run=some o):gy tB n args bs= .ok o:=by
 unfold dM at h
 split at h
 ·rename_i e;simp only[DT.run,Option.some.injEq]at h;subst h;exact e
 ·cases h
def fx(tB eB:TypeId)(n:Nat:=0):kD:=fun args bs=>match bs.all bH with
 |true=>match args with
  |[.ref b 0]=>match nth bs b with
   |some (.cells ty (_::y::z))=>match Nat.beq ty tB&&Nat.beq z.length n with
    |true=>match y with
     | .nils=>.leaf (.ret (.str []),bs)
     | .own b2 g=>match nth bs b2 with
      |some (.list ee t g' _ L)=>match dc t (.int .u8) L with
       |some L'=>match Nat.beq g g'&&Nat.beq ee eB with
        |true=>.br (List.all L' isByte&&Nat.ble (List.length L') 9223372036854775807) (.leaf (.ret (.str (cC L')),bs.set b2 (.list ee t g' true L))) .fail
        |false=>.fail
       |none=>.fail
      |_=>.fail
     |_=>.fail
    |false=>.fail
   |_=>.fail
  |_=>.fail
 |false=>.fail
theorem rE(tB eB:TypeId)(n:Nat)(args:List AV)(bs:List Blk)(o:Out×List Blk)(h:(fx tB eB n args bs).run=some o):ny tB eB n args bs= .ok o:=by
 unfold fx at h
 unfold ny
 split at h
 ·rename_i e1
  try rw[e1]
  try simp only
  split at h
  ·split at h
   ·rename_i hb
    try simp only[hb]
    split at h
    ·rename_i e3
     try simp only[e3]
     split at h
     ·simp only[DT.run,Option.some.injEq]at h
      subst h
      rfl
     ·split at h
      ·rename_i hb2
       try simp only[hb2]
       split at h
       ·rename_i hc
        split at h
        ·rename_i e1
         simp only[DT.run]at h
         split at h
         ·rename_i e2
          simp only[Option.some.injEq]at h
          subst h
          first|rfl|simp only[hc,e1,e2,Bool.and_self]
         ·cases h
        ·cases h
       ·cases h
      ·cases h
     ·cases h
    ·cases h
   ·cases h
  ·cases h
 ·cases h
def aT(P:Program)(G:Nat→Obj→Prop)(l:List (Nat×aQ)):Prop:=∀p∈l,aK P G p.1 p.2
theorem aT.nil:aT P G []:=fun p h=>by cases h
theorem aT.cons{f:Nat}{g:aQ}{l:List (Nat×aQ)}(h:aK P G f g)(k:aT P G l):aT P G ((f,g)::l):=fun p hp=>by
 rcases List.mem_cons.1 hp with e|hp
 ·subst e;exact h
 ·exact k p hp
def oM(l:List (Nat×aQ))(f:Nat):Option aQ:=
 match l with
 |[]=>none
 |(k,g)::r=>match Nat.beq k f with
  |true=>some g
  |false=>oM r f
def an(l:List (Nat×aQ)):Callee:=fun R f args bs k=>match oM l f with
 |some g=>g R args bs k
 |none=>.err (4000000+f)
def ff(n:Nat)(l:List (Nat×aQ)):List (Option aQ):=(List.range n).map (oM l)
theorem gM:∀{l:List (Nat×aQ)} {f:Nat} {g:aQ},oM l f=some g→(f,g)∈l
 |[],f,g,h=>by cases h
 |(k,g')::r,f,g,h=>by
  simp only[oM]at h
  split at h
  ·rename_i e
   have:=beq_eq e
   subst this
   cases h
   simp
  ·exact List.mem_cons_of_mem _ (gM h)
theorem aE{l:List (Nat×aQ)}(h:aT P G l):KOK P G (an l):=fun R f args bs k r hr=>by
 unfold an at hr
 split at hr
 ·rename_i g hg;exact h _ (gM hg) R args bs k r hr
 ·cases hr
theorem aT.ok{n:Nat}{l:List (Nat×aQ)}(h:aT P G l):∀f g,nth (ff n l) f=some (some g)→aK P G f g:=by
 intro f g hg
 rw[cP]at hg
 simp only[ff,List.getElem?_map,Option.map_eq_some_iff]at hg
 obtain⟨a,ha,hb⟩:=hg
 have:a=f:=by
  have:=List.getElem?_eq_some_iff.1 ha
  obtain⟨h5,h6⟩:=this
  rw[←h6];simp
 subst this
 exact h _ (gM hb)
def KA(f:Nat)(t:List AV→Bool)(o:Out×List Blk):aQ:=fun R args bs k=>match bs with
 |[]=>(match t args with|true=>k o|false=>.err (1000000+f))
 |_=>.err (1000000+f)
theorem Fq{f:Nat}{t:List AV→Bool}{o:Out×List Blk}(h:∀args,t args=true→SA P G f args [] o):aK P G f (KA f t o):=fun R args bs k r hr=>by
 unfold KA at hr
 split at hr
 ·split at hr
  ·rename_i e;exact⟨o,hr,h args e⟩
  ·cases hr
 ·cases hr
theorem Ax{f:Nat}{fi:FI}(hf:FIOK P f fi){w:World}{as:List AV}{vals:List Value}
  (h:SA P (GW w) f as [] (.ret (.bool true),[])) (hv:au (wJ w) as vals):Calls P f vals.toArray w fun e w'=>e= .returned (.bool true)∧RowKit.Below w.heap.size w w':=by
 have hA:=h (wJ w) vals rfl rfl (FE w) hv
 have hen:=cU hf vals.toArray w
 rcases hA with⟨_,hc⟩|⟨v,w',hr,_⟩|⟨v,w',hr,_⟩
 ·refine Calls.mono hc fun e w' hp=>?_
  cases e with
  |returned u=>
   obtain⟨v,D',h1,h2,h3,h4,h5,h6,_⟩:=hp
   simp only[Out.ret.injEq]at h1
   subst h1
   simp only[ay]at h6
   subst h6 h2
   refine⟨rfl,h5.os,h5.tape,h5.output,h5.size,fun k hk=>h5.old k hk fun⟨id,b,hm,_⟩=>?_⟩
   simp[wJ,aq,aC]at hm
  |panicked ch=>obtain⟨v,h1,_⟩:=hp;cases h1
  |outgrown=>exact hp.elim
 ·have hr':(callFunc f vals.toArray).run P w= .ok (.value v) w':=hr
  rw[hen]at hr'
  simp at hr'
 ·have hr':(callFunc f vals.toArray).run P w= .halt (.panic v) w':=hr
  rw[hen]at hr'
  simp at hr'
end Go.Sx
namespace Go.Sx
open Go
variable{G:Nat→Obj→Prop}{P:Program}{C:Ctx}
def HL:Option Blk→Nat
 |some (.list _ _ g _ _)=>g
 |_=>0
def mI(bs l:List Blk)(i:Nat):Nat:=HL (aC (aq 0 l) i)+HL (aC (aq 0 bs) i)
def l6(f:Nat)(g:aQ):aQ:=fun R args bs k=>
 match cZ (gV (aC (aq 0 bs)) (fun _=>0)) args,gBs (aC (aq 0 bs)) (fun _=>0) 0 bs,bs.all bH&&args.all bz with
 |some args0,some bs0,true=>g R args0 bs0 fun o=>match o with
  |(.ret v,l)=>(match gV (aC (aq 0 l)) (mI bs l) v,gBs (aC (aq 0 l)) (mI bs l) 0 l with
   |some v',some l'=>(match bz v'&&l'.all bH with
    |true=>k (.ret v',l')
    |false=>.err (7000000+f))
   |_,_=>.err (7000000+f))
  |(.panic _,_)=>.err (7000000+f)
 |_,_,_=>.err (7000000+f)
theorem GenRel.relVs{C':Ctx}{q:Nat→Nat}(h:GenRel C C' q):∀{as as':List AV} {vs:List Value},cZ (gV C.m q) as=some as'→as.all bz=true→au C as vs→au C' as' vs
 |[],as',vs,hg,_,hv=>by simp only[cZ,Option.some.injEq]at hg;subst hg;exact hv
 |a::as,as',vs,hg,hp,hv=>by
  simp only[cZ]at hg
  split at hg
  ·rename_i b r e1 e2
   simp only[Option.some.injEq]at hg
   subst hg
   obtain⟨v,r,rfl,h1,h2⟩:=hv
   simp only[List.all_cons,Bool.and_eq_true]at hp
   exact⟨v,_,rfl,h.relV e1 hp.1 h1,h.relVs e2 hp.2 h2⟩
  ·cases hg
theorem jl{f:Nat}{g:aQ}(hI:aK P G f g):aK P G f (l6 f g):=fun R args bs k r hr=>by
 unfold l6 at hr
 split at hr
 ·rename_i args0 bs0 ha hb hck
  simp only[Bool.and_eq_true]at hck
  obtain⟨hok,hp⟩:=hck
  obtain⟨o,ho,hSA⟩:=hI R args0 bs0 _ r hr
  obtain⟨out,l⟩:=o
  cases out with
  |panic v=>cases ho
  |ret v=>
   simp only at ho
   split at ho
   ·rename_i v' l' hv' hl'
    split at ho
    ·rename_i hck2
     simp only[Bool.and_eq_true]at hck2
     refine⟨_,ho,fun D vals hG hm hs hv=>?_⟩
     rw[←hm]at ha hb
     obtain⟨s1,g1,own1,held1⟩:=ke hs hm hok hb
     have hA:=hSA (Gen D bs0) vals hG rfl s1 (g1.relVs ha hp hv)
     refine bx.mono (R:=bW (Gen D bs0) (.ret v,l)) hA fun e w' hR=>?_
     cases e with
     |returned u=>
      obtain⟨v2,D1,e1,e2,e3,e4,e5,e6,e7,e8⟩:=hR
      simp only[Out.ret.injEq]at e1
      subst e1
      rw[←e3]at hv' hl'
      obtain⟨s2,g2,own2,held2⟩:=ke e4 e3 e8 hl'
      refine⟨v',Gen D1 l',rfl,e2,rfl,s2,?_,g2.relV hv' e7 e6,hck2.1,hck2.2⟩
      exact{
       cells:=fun i ty cs hi=>by
        obtain⟨k1,cs1,k2⟩:=g1.cells i ty cs hi
        obtain⟨k3,cs2,k4⟩:=e5.cells i ty cs1 k2
        obtain⟨k5,k6⟩:=g2.cells i ty cs2 k4
        exact⟨k5.trans (k3.trans k1),k6⟩
       lists:=fun i ee t gn sh L hi=>by
        obtain⟨k1,k2⟩:=g1.lists i ee t gn sh L hi
        obtain⟨gn2,sh2,L2,k3,k4,k5⟩:=e5.lists i _ _ _ _ _ k2
        obtain⟨k6,k7⟩:=g2.lists i _ _ _ _ _ k3
        have hq:mI bs l i=gn2+gn:=by
         unfold mI
         rw[←e3,←hm,k3,hi]
         rfl
        rw[hq]at k7
        refine⟨gn2+gn,sh2,L2,k7,by omega,fun e=>?_⟩
        have h0:0=gn2:=by omega
        exact⟨k6.trans ((k5 h0).1.trans k1),(k5 h0).2⟩
       keep:=fun kk oo x h1 h2=>by
        obtain⟨h3,h4⟩:=g1.keep kk oo x h1 h2
        obtain⟨h5,h6⟩:=e5.keep kk oo x h3 h4
        exact g2.keep kk oo x h5 h6
       frEq:=e5.frEq
       glEq:=e5.glEq
       frKeep:=e5.frKeep
       size:=e5.size
       old:=fun kk hk hh=>e5.old kk hk fun h=>hh ((held1 kk).1 h)
       held:=fun kk h=>((e5.held kk ((held2 kk).1 h)).imp (held1 kk).1 id)
       own:=fun kk oo h=>((e5.own kk oo ((own2 kk oo).1 h)).imp (own1 kk oo).1 id)
       os:=e5.os
       tape:=e5.tape
       output:=e5.output}
     |panicked ch=>obtain⟨v2,e1,_⟩:=hR;cases e1
     |outgrown=>exact hR
    ·cases ho
   ·cases ho
 ·cases hr
end Go.Sx
namespace Go.Sx
open Go
variable{G:Nat→Obj→Prop}{P:Program}{C:Ctx}
def pD(f:Nat)(tp:List (List Sh))(g:aQ):aQ:=fun R args bs k=>
 match dS ((List.range bs.length).zip tp) (aq 0 bs) bs.length with
 |some (bs',n)=>(match getAll (aC bs') (List.range n)with
  |some l=>g R args l k
  |none=>.err (7100000+f))
 |none=>.err (7100000+f)
theorem lh{get:Get}{n:Nat}{l:List Blk}(h:getAll get (List.range n)=some l)(hf:jB get n):get=aC (aq 0 l):=by
 obtain⟨h1,h2⟩:=cu h
 rw[List.length_range]at h1
 funext j
 simp only[aI,Nat.zero_le,if_true,Nat.sub_zero]
 by_cases hj:j<n
 ·exact((h2 j j (by simp[hj])).1).symm
 ·rw[hf j (by omega),List.getElem?_eq_none (by omega)]
theorem iK{f:Nat}{tp:List (List Sh)}{g:aQ}(hI:aK P G f g):aK P G f (pD f tp g):=fun R args bs k r hr=>by
 unfold pD at hr
 split at hr
 ·rename_i bs' n hc
  split at hr
  ·rename_i l hl
   obtain⟨o,ho,hSA⟩:=hI R args l k r hr
   refine⟨o,ho,fun D vals hG hm hs hv=>?_⟩
   obtain⟨C1,w1,m1,s1,e1,f1⟩:=fy hc hm hs (fun j hj=>by
    rw[hm]
    simp only[aI,Nat.zero_le,if_true,Nat.sub_zero]
    exact List.getElem?_eq_none hj)
   have hm1:C1.m=aC (aq 0 l):=by
    rw[m1]at f1⊢
    exact lh hl f1
   have hA:=hSA C1 vals (e1.glEq.trans hG) hm1 s1 (hv.mono e1)
   rw[w1]at hA
   refine bx.mono hA fun e w' hR=>?_
   cases e with
   |returned u=>
    obtain⟨v,D1,e2,e3,e4,e5,e6,e7,e8,e9⟩:=hR
    exact⟨v,D1,e2,e3,e4,e5,e1.trans e6,e7,e8,e9⟩
   |panicked ch=>
    obtain⟨v,e2,e3⟩:=hR
    exact⟨v,e2,e3.after e1⟩
   |outgrown=>exact hR
  ·cases hr
 ·cases hr
end Go.Sx
namespace Go.Sx
open Go
variable{G:Nat→Obj→Prop}{P:Program}{E:Env}{K:Callee}
def KNt(K:Callee):Prop:=∀(R:Type) f args bs k (r:R),K R f args bs k= .ok r→∃o,k o= .ok r∧∀(R':Type) k' (r':R'),k' o= .ok r'→K R' f args bs k'= .ok r'
def INt(g:aQ):Prop:=∀(R:Type) args bs k (r:R),g R args bs k= .ok r→∃o,k o= .ok r∧∀(R':Type) k' (r':R'),k' o= .ok r'→g R' args bs k'= .ok r'
theorem uV{α R:Type}{pos:Nat}{k:α→Rs R}{r:R}{d:DT α}(h:d.bindK pos k= .ok r):∃a,k a= .ok r∧∀(R':Type) (k':α→Rs R') (r':R'),k' a= .ok r'→d.bindK pos k'= .ok r':=by
 induction d with
 |leaf a=>exact⟨a,h,fun _ _ _ h=>h⟩
 |fail=>cases h
 |br b t e iht ihe=>
  cases b with
  |true=>exact iht h
  |false=>exact ihe h
theorem qI(hK:KNt K){f:Nat}{args:List AV}{get:Get}{base:Nat}{R:Type}{k:Out→Wr→List Nat→Rs R}{r:R}(h:eZ K f args get base k= .ok r):
  ∃o wr rd,k o wr rd= .ok r∧∀(R':Type) (k':Out→Wr→List Nat→Rs R') (r':R'),k' o wr rd= .ok r'→eZ K f args get base k'= .ok r':=by
 unfold eZ at h
 split at h
 ·cases h
 rename_i ids hids
 split at h
 ·cases h
 rename_i l hl
 split at h
 ·cases h
 rename_i hck
 obtain⟨o,ho,hall⟩:=hK _ _ _ _ _ _ h
 obtain⟨out,l'⟩:=o
 cases out with
 |ret v=>
  simp only at ho
  split at ho
  ·rename_i hn
   refine⟨_,_,_,ho,fun R' k' r' hk=>?_⟩
   unfold eZ
   rw[hids]
   simp only[hl,hck]
   refine hall _ _ _ ?_
   simp only[hn]
   exact hk
  ·cases ho
 |panic v=>
  refine⟨_,_,_,ho,fun R' k' r' hk=>?_⟩
  unfold eZ
  rw[hids]
  simp only[hl,hck]
  exact hall _ _ _ hk
theorem vq(hK:KNt K){lk:bc}{get:Get}{id:Nat}{o:Oper}{e:Nat}{R:Type}{kn:AV→Wr→List Nat→Rs R}{kp:AV→Rs R}{r:R}(h:eo E K lk get id o e kn kp= .ok r):
  (∃v wr rd,kn v wr rd= .ok r∧∀(R':Type) (kn':AV→Wr→List Nat→Rs R') (kp':AV→Rs R') (r':R'),kn' v wr rd= .ok r'→eo E K lk get id o e kn' kp'= .ok r')∨
  (∃v,kp v= .ok r∧∀(R':Type) (kn':AV→Wr→List Nat→Rs R') (kp':AV→Rs R') (r':R'),kp' v= .ok r'→eo E K lk get id o e kn' kp'= .ok r'):=by
 unfold eo at h⊢
 split at h
 ·rename_i f as _ _
  split at h
  ·rename_i f' cap hf
   obtain⟨out,wr,rd,h1,h2⟩:=qI hK h
   cases out with
   |ret v=>
    simp only at h1
    split at h1
    ·rename_i hb
     refine .inl ⟨v,wr,rd,h1,fun R' kn' kp' r' hk=>?_⟩
     refine h2 _ _ _ ?_
     simp only[hb]
     exact hk
    ·cases h1
   |panic v=>exact .inr ⟨v,h1,fun R' kn' kp' r' hk=>h2 _ _ _ hk⟩
  ·cases h
 ·split at h
  ·rename_i t v hx
   split at h
   ·rename_i hp
    refine .inr ⟨_,h,fun R' kn' kp' r' hk=>?_⟩
    first|exact hk|(simp only[hp];exact hk)
   ·cases h
  ·cases h
 ·obtain⟨a,h1,h2⟩:=uV h
  split at h1
  ·rename_i hb
   refine .inl ⟨_,_,_,h1,fun R' kn' kp' r' hk=>?_⟩
   refine h2 _ _ _ ?_
   simp only[hb]
   exact hk
  ·cases h1
theorem oQ(hK:KNt K){rid:Nat}{all:List Oper}:∀(ops:List Oper) (i:Nat) (st:St) {R:Type} {kn:St→Rs R} {kp:AV→Rs R} {r:R},dn E K rid all ops i st kn kp= .ok r→
  (∃st',kn st'= .ok r∧∀(R':Type) (kn':St→Rs R') (kp':AV→Rs R') (r':R'),kn' st'= .ok r'→dn E K rid all ops i st kn' kp'= .ok r')∨
  (∃v,kp v= .ok r∧∀(R':Type) (kn':St→Rs R') (kp':AV→Rs R') (r':R'),kp' v= .ok r'→dn E K rid all ops i st kn' kp'= .ok r')
 |[],i,st,R,kn,kp,r,h=>.inl ⟨_,h,fun _ _ _ _ h=>h⟩
 |o::os,i,st,R,kn,kp,r,h=>by
  have go:∀(st0:St),eo E K (look st0.tmps) (aC st0.blks) (st0.next+16*i) o (rid*100+i) (fun v wr _=>dn E K rid all os (i+1) {tmps:=iz st0.tmps o.dst v,blks:=ct st0.blks wr,next:=st0.next} kn kp) kp= .ok r→
    (∃st',kn st'= .ok r∧∀(R':Type) (kn':St→Rs R') (kp':AV→Rs R') (r':R'),kn' st'= .ok r'→eo E K (look st0.tmps) (aC st0.blks) (st0.next+16*i) o (rid*100+i) (fun v wr _=>dn E K rid all os (i+1) {tmps:=iz st0.tmps o.dst v,blks:=ct st0.blks wr,next:=st0.next} kn' kp') kp'= .ok r')∨
    (∃v,kp v= .ok r∧∀(R':Type) (kn':St→Rs R') (kp':AV→Rs R') (r':R'),kp' v= .ok r'→eo E K (look st0.tmps) (aC st0.blks) (st0.next+16*i) o (rid*100+i) (fun v wr _=>dn E K rid all os (i+1) {tmps:=iz st0.tmps o.dst v,blks:=ct st0.blks wr,next:=st0.next} kn' kp') kp'= .ok r'):=fun st0 h=>by
   rcases vq hK h with⟨v,wr,rd,h1,h2⟩|⟨v,h1,h2⟩
   ·rcases oQ hK os (i+1) _ h1 with⟨st',h3,h4⟩|⟨v',h3,h4⟩
    ·exact .inl ⟨st',h3,fun R' kn' kp' r' hk=>h2 R' _ _ r' (h4 R' kn' kp' r' hk)⟩
    ·exact .inr ⟨v',h3,fun R' kn' kp' r' hk=>h2 R' _ _ r' (h4 R' kn' kp' r' hk)⟩
   ·exact .inr ⟨v,h1,fun R' kn' kp' r' hk=>h2 R' _ _ r' hk⟩
  have skip:∀(st0:St),dn E K rid all os (i+1) st0 kn kp= .ok r→
    (∃st',kn st'= .ok r∧∀(R':Type) (kn':St→Rs R') (kp':AV→Rs R') (r':R'),kn' st'= .ok r'→dn E K rid all os (i+1) st0 kn' kp'= .ok r')∨
    (∃v,kp v= .ok r∧∀(R':Type) (kn':St→Rs R') (kp':AV→Rs R') (r':R'),kp' v= .ok r'→dn E K rid all os (i+1) st0 kn' kp'= .ok r'):=fun st0 h=>oQ hK os (i+1) _ h
  simp only[dn]at h⊢
  split at h
  ·rename_i hg
   exact go st h
  ·rename_i j want hg
   split at h
   ·cases h
   ·rename_i d hd
    split at h
    ·rename_i b hb
     cases b with
     |true=>cases want with
      |true=>exact go {st with tmps:=(d,.bool true)::st.tmps} h
      |false=>exact skip _ h
     |false=>cases want with
      |true=>exact skip _ h
      |false=>exact go {st with tmps:=(d,.bool false)::st.tmps} h
    ·exact skip _ h
    ·cases h
def NtD(F:(R:Type)→(St→Rs R)→(AV→Rs R)→Rs R):Prop:=∀(R:Type) (kn:St→Rs R) (kp:AV→Rs R) (r:R),F R kn kp= .ok r→
 (∃st',kn st'= .ok r∧∀(R':Type) (kn':St→Rs R') (kp':AV→Rs R') (r':R'),kn' st'= .ok r'→F R' kn' kp'= .ok r')∨
 (∃v,kp v= .ok r∧∀(R':Type) (kn':St→Rs R') (kp':AV→Rs R') (r':R'),kp' v= .ok r'→F R' kn' kp'= .ok r')
theorem jk(hK:KNt K){rid:Nat}{all:List Oper}{bf:List Nat}:∀(ops:List Oper) (i:Nat) (st:St) (es:List Ent) (pm:Option (Nat×AV)),NtD (fun R kn kp=>cv E K rid all bf ops i st es pm kn kp)
 |[],i,st,es,pm=>fun R kn kp r h=>by
  simp only[cv]at h⊢
  split at h
  ·cases pm with
   |none=>exact .inl ⟨_,h,fun _ _ _ _ h=>h⟩
   |some q=>exact .inr ⟨_,h,fun _ _ _ _ h=>h⟩
  ·cases h
 |o::os,i,st,es,pm=>fun R kn kp r h=>by
  have go:∀(st0:St),NtD (fun R kn kp=>eo E K (look st0.tmps) (aC st0.blks) (st0.next+16*i) o (rid*100+i) (fun v wr rd=>match pk st0.next (st0.next+16*i) es wr with
    |true=>cv E K rid all bf os (i+1) {tmps:=iz st0.tmps o.dst v,blks:=ct st0.blks wr,next:=st0.next} (match wr,rd with|[],[]=>es|wr,rd=>⟨i,rd,wr.map (·.1)⟩::es) pm kn kp
    |false=>.err 7) (fun v=>gF pm (lS (look st0.tmps) (aC st0.blks) o) fun rd=>cv E K rid all bf os (i+1) {st0 with tmps:=iz st0.tmps o.dst .undef} (vb i rd es) (some (i,v)) kn kp)):=fun st0 R kn kp r h=>by
   rcases vq hK h with⟨v,wr,rd,h1,h2⟩|⟨v,h1,h2⟩
   ·split at h1
    ·rename_i hkk
     rcases jk hK os (i+1) _ _ _ _ _ _ _ h1 with⟨st',h3,h4⟩|⟨v',h3,h4⟩
     ·refine .inl ⟨st',h3,fun R' kn' kp' r' hk=>h2 R' _ _ r' ?_⟩
      simp only[hkk]
      exact h4 R' kn' kp' r' hk
     ·refine .inr ⟨v',h3,fun R' kn' kp' r' hk=>h2 R' _ _ r' ?_⟩
      simp only[hkk]
      exact h4 R' kn' kp' r' hk
    ·cases h1
   ·unfold gF at h1
    split at h1
    ·cases h1
    ·split at h1
     ·cases h1
     ·rename_i rd hrd
      rcases jk hK os (i+1) _ _ _ _ _ _ _ h1 with⟨st',h3,h4⟩|⟨v',h3,h4⟩
      ·refine .inl ⟨st',h3,fun R' kn' kp' r' hk=>h2 R' _ _ r' ?_⟩
       simp only[gF,hrd]
       exact h4 R' kn' kp' r' hk
      ·refine .inr ⟨v',h3,fun R' kn' kp' r' hk=>h2 R' _ _ r' ?_⟩
       simp only[gF,hrd]
       exact h4 R' kn' kp' r' hk
  have skip:∀(st0:St),NtD (fun R kn kp=>cv E K rid all bf os (i+1) st0 es pm kn kp):=fun st0=>jk hK os (i+1) _ es pm
  simp only[cv]at h⊢
  split at h
  ·exact skip _ _ _ _ _ h
  ·split at h
   ·exact go st _ _ _ _ h
   ·rename_i j want hg
    split at h
    ·cases h
    ·rename_i d hd
     split at h
     ·rename_i b hb
      cases b with
      |true=>cases want with
       |true=>exact go {st with tmps:=(d,.bool true)::st.tmps} _ _ _ _ h
       |false=>exact skip _ _ _ _ _ h
      |false=>cases want with
       |true=>exact skip _ _ _ _ _ h
       |false=>exact go {st with tmps:=(d,.bool false)::st.tmps} _ _ _ _ h
     ·exact skip _ _ _ _ _ h
     ·cases h
theorem Mj(hK:KNt K):∀(c:Code) (p:Nat) (st:St) {R:Type} {k:Ex→St→Rs R} {r:R},ev E K b6 bY c p st k= .ok r→
  ∃ex st',k ex st'= .ok r∧∀(R':Type) (k':Ex→St→Rs R') (r':R'),k' ex st'= .ok r'→ev E K b6 bY c p st k'= .ok r':=by
 intro c
 induction c with
 |skip=>intro p st R k r h;exact⟨_,_,h,fun _ _ _ h=>h⟩
 |ret=>intro p st R k r h;exact⟨_,_,h,fun _ _ _ h=>h⟩
 |exit id=>intro p st R k r h;exact⟨_,_,h,fun _ _ _ h=>h⟩
 |label l=>intro p st R k r h;exact⟨_,_,h,fun _ _ _ h=>h⟩
 |scope c ih=>
  intro p st R k r h
  have h:ev E K b6 bY c (2*p) st k= .ok r:=h
  exact ih (2*p) st h
 |seq x y ihx ihy=>
  intro p st R k r h
  have h:ev E K b6 bY x (2*p) st (pY (enter b6 bY (ev E K b6 bY y)) (2*p+1) k)= .ok r:=h
  obtain⟨ex,st',h1,h2⟩:=ihx (2*p) st h
  cases ex with
  |normal=>
   have h1:ev E K b6 bY y (2*p+1) st' k= .ok r:=h1
   obtain⟨ex2,st2,h3,h4⟩:=ihy (2*p+1) st' h1
   refine⟨ex2,st2,h3,fun R' k' r' hk=>?_⟩
   exact h2 R' (pY (enter b6 bY (ev E K b6 bY y)) (2*p+1) k') r' (h4 R' k' r' hk)
  |exit id=>exact⟨.exit id,st',h1,fun R' k' r' hk=>h2 R' (pY (enter b6 bY (ev E K b6 bY y)) (2*p+1) k') r' hk⟩
  |ret=>exact⟨.ret,st',h1,fun R' k' r' hk=>h2 R' (pY (enter b6 bY (ev E K b6 bY y)) (2*p+1) k') r' hk⟩
  |panic v=>exact⟨.panic v,st',h1,fun R' k' r' hk=>h2 R' (pY (enter b6 bY (ev E K b6 bY y)) (2*p+1) k') r' hk⟩
 |cond o x y ihx ihy=>
  intro p st R k r h
  have h:(match al (look st.tmps) o with
   | .bool t=>(match t with
    |true=>ev E K b6 bY x (2*p) st k
    |false=>ev E K b6 bY y (2*p+1) st k)
   |_=>.err (7000000+p))= .ok r:=h
  have goal:∃ex st',k ex st'= .ok r∧∀(R':Type) (k':Ex→St→Rs R') (r':R'),k' ex st'= .ok r'→(match al (look st.tmps) o with
   | .bool t=>(match t with
    |true=>ev E K b6 bY x (2*p) st k'
    |false=>ev E K b6 bY y (2*p+1) st k')
   |_=>.err (7000000+p))= .ok r':=by
   split at h
   ·rename_i t ht
    cases t with
    |true=>exact ihx (2*p) st h
    |false=>exact ihy (2*p+1) st h
   ·cases h
  exact goal
 |block id c ih=>
  intro p st R k r h
  have h:ev E K b6 bY c (2*p) st (fa id k)= .ok r:=h
  obtain⟨ex,st',h1,h2⟩:=ih (2*p) st h
  cases ex with
  |normal=>exact⟨.normal,st',h1,fun R' k' r' hk=>h2 R' (fa id k') r' hk⟩
  |exit j=>
   cases hj:Nat.beq j id with
   |true=>
    have h1:(match Nat.beq j id with|true=>k .normal st'|false=>k (.exit j) st')= .ok r:=h1
    rw[hj]at h1
    refine⟨.normal,st',h1,fun R' k' r' hk=>h2 R' (fa id k') r' ?_⟩
    show(match Nat.beq j id with|true=>k' .normal st'|false=>k' (.exit j) st')= .ok r'
    rw[hj]
    exact hk
   |false=>
    have h1:(match Nat.beq j id with|true=>k .normal st'|false=>k (.exit j) st')= .ok r:=h1
    rw[hj]at h1
    refine⟨.exit j,st',h1,fun R' k' r' hk=>h2 R' (fa id k') r' ?_⟩
    show(match Nat.beq j id with|true=>k' .normal st'|false=>k' (.exit j) st')= .ok r'
    rw[hj]
    exact hk
  |ret=>exact⟨.ret,st',h1,fun R' k' r' hk=>h2 R' (fa id k') r' hk⟩
  |panic v=>exact⟨.panic v,st',h1,fun R' k' r' hk=>h2 R' (fa id k') r' hk⟩
 |loop c ih=>intro p st R k r h;cases h
 |region id ops draw=>
  intro p st R k r h
  cases draw with
  |false=>
   have h:dn E K id ops.toList ops.toList 0 st (fun st'=>k .normal st') (fun v=>k (.panic v) st)= .ok r:=h
   rcases oQ hK _ _ _ h with⟨st',h1,h2⟩|⟨v,h1,h2⟩
   ·exact⟨.normal,st',h1,fun R' k' r' hk=>h2 R' (fun st'=>k' .normal st') (fun v=>k' (.panic v) st) r' hk⟩
   ·exact⟨.panic v,st,h1,fun R' k' r' hk=>h2 R' (fun st'=>k' .normal st') (fun v=>k' (.panic v) st) r' hk⟩
  |true=>
   have h:cv E K id ops.toList (dV ops.toList []) ops.toList 0 st [] none (fun st'=>k .normal st') (fun v=>k (.panic v) st)= .ok r:=h
   rcases jk hK _ _ _ _ _ _ _ _ _ h with⟨st',h1,h2⟩|⟨v,h1,h2⟩
   ·exact⟨.normal,st',h1,fun R' k' r' hk=>h2 R' (fun st'=>k' .normal st') (fun v=>k' (.panic v) st) r' hk⟩
   ·exact⟨.panic v,st,h1,fun R' k' r' hk=>h2 R' (fun st'=>k' .normal st') (fun v=>k' (.panic v) st) r' hk⟩
 |_=>intros;rename_i h;cases h
theorem kE{np:Nat}{get:Get}{v:AV}{R:Type}{k:(Out×List Blk)→Rs R}{r:R}(h:leave np get v k= .ok r):
  ∃o,k o= .ok r∧∀(R':Type) (k':(Out×List Blk)→Rs R') (r':R'),k' o= .ok r'→leave np get v k'= .ok r':=by
 unfold leave at h⊢
 split at h
 ·cases h
 ·split at h
  ·cases h
  ·split at h
   ·rename_i hc
    refine⟨_,h,fun R' k' r' hk=>?_⟩
    exact hk
   ·cases h
theorem FJ{np:Nat}{rs:List ResultVar}{R:Type}{k:(Out×List Blk)→Rs R}{ex:Ex}{st:St}{r:R}(h:bX E np rs k ex st= .ok r):
  ∃o,k o= .ok r∧∀(R':Type) (k':(Out×List Blk)→Rs R') (r':R'),k' o= .ok r'→bX E np rs k' ex st= .ok r':=by
 unfold bX at h⊢
 split at h
 ·split at h
  ·exact kE h
  ·exact kE h
  ·cases h
 ·split at h
  ·exact kE h
  ·exact kE h
  ·cases h
 ·exact⟨_,h,fun _ _ _ h=>h⟩
 ·cases h
theorem Fi(hK:KNt K){fi:FI}{args:List AV}{bs:List Blk}{R:Type}{k:(Out×List Blk)→Rs R}{r:R}(h:body E K fi args bs k= .ok r):
  ∃o,k o= .ok r∧∀(R':Type) (k':(Out×List Blk)→Rs R') (r':R'),k' o= .ok r'→body E K fi args bs k'= .ok r':=by
 unfold body at h⊢
 split at h
 ·cases h
 ·obtain⟨ex,st',h1,h2⟩:=Mj hK _ _ _ h
  obtain⟨o,h3,h4⟩:=FJ h1
  exact⟨o,h3,fun R' k' r' hk=>h2 R' _ r' (h4 R' k' r' hk)⟩
def Ap(E:Env)(lib:List (Nat×aQ))(fi:FI):aQ:=fun R args bs k=>body E (an lib) fi args bs k
def pR(l:List (Nat×aQ)):Prop:=∀p∈l,INt p.2
theorem pR.nil:pR []:=fun p h=>by cases h
theorem pR.cons{f:Nat}{g:aQ}{l:List (Nat×aQ)}(h:INt g)(k:pR l):pR ((f,g)::l):=fun p hp=>by
 rcases List.mem_cons.1 hp with e|hp
 ·subst e;exact h
 ·exact k p hp
theorem FU{l:List (Nat×aQ)}(h:pR l):KNt (an l):=fun R f args bs k r hr=>by
 unfold an at hr⊢
 split at hr
 ·rename_i g hg;exact h _ (gM hg) R args bs k r hr
 ·cases hr
theorem kP(hE:EnvOK E P){lib:List (Nat×aQ)}(hn:pR lib)(hk:aT P G lib){f:Nat}{fi:FI}(hf:FIOK P f fi):aK P G f (Ap E lib fi):=fun R args bs k r hr=>by
 obtain⟨o,h1,h2⟩:=Fi (FU hn) hr
 exact⟨o,h1,bb hE (aE hk) hf (h2 _ _ _ rfl)⟩
theorem fR{f:Nat}{ts rs:Sig}{p:ai ts→Bool}{out:ai ts→ai rs}:INt (bg f ts rs p out):=fun R args bs k r hr=>by
 unfold bg at hr⊢
 split at hr
 ·cases hr
 ·split at hr
  ·cases hr
  ·split at hr
   ·cases hr
   ·exact⟨_,hr,fun _ _ _ h=>h⟩
theorem wD{f:Nat}{g:kD}:INt (ofT f g):=fun R args bs k r hr=>uV hr
end Go.Sx
namespace Go.Sx
open Go
variable{G:Nat→Obj→Prop}{P:Program}{C:Ctx}
theorem SA.bump{f:Nat}{args:List AV}{bs l l':List Blk}{v v':AV}(h:SA P G f args bs (.ret v,l))(h0:xq bs){q:Nat→Nat}(hq:∀i,i<bs.length→1≤q i)
  (hv:gV (aC (aq 0 l)) q v=some v') (hl:gBs (aC (aq 0 l)) q 0 l=some l') (hck:(bz v'&&l'.all bH)=true):SA P G f args bs (.ret v',l'):=fun D vals hG hm hs hvs=>by
 simp only[Bool.and_eq_true]at hck
 refine bx.mono (R:=bW D (.ret v,l)) (h D vals hG hm hs hvs) fun e w' hR=>?_
 cases e with
 |returned u=>
  obtain⟨v2,D1,e1,e2,e3,e4,e5,e6,e7,e8⟩:=hR
  simp only[Out.ret.injEq]at e1
  subst e1
  rw[←e3]at hv hl
  obtain⟨s2,g2,own2,held2⟩:=ke e4 e3 e8 hl
  refine⟨v',Gen D1 l',rfl,e2,rfl,s2,?_,g2.relV hv e7 e6,hck.1,hck.2⟩
  exact{
   cells:=fun i ty cs hi=>by
    obtain⟨k3,cs2,k4⟩:=e5.cells i ty cs hi
    obtain⟨k5,k6⟩:=g2.cells i ty cs2 k4
    exact⟨k5.trans k3,k6⟩
   lists:=fun i ee t gn sh L hi=>by
    obtain⟨gn2,sh2,L2,k3,k4,k5⟩:=e5.lists i _ _ _ _ _ hi
    obtain⟨k6,k7⟩:=g2.lists i _ _ _ _ _ k3
    rw[hm,aI]at hi
    simp only[Nat.zero_le,if_true,Nat.sub_zero]at hi
    have hlt:i<bs.length:=(List.getElem?_eq_some_iff.1 hi).1
    have hg:=h0 _ _ _ _ _ (List.mem_of_getElem? hi)
    have:=hq i hlt
    exact⟨q i,sh2,L2,k7,by omega,fun e=>by omega⟩
   keep:=fun kk oo x h1 h2=>by
    obtain⟨h5,h6⟩:=e5.keep kk oo x h1 h2
    exact g2.keep kk oo x h5 h6
   frEq:=e5.frEq
   glEq:=e5.glEq
   frKeep:=e5.frKeep
   size:=e5.size
   old:=e5.old
   held:=fun kk h=>e5.held kk ((held2 kk).1 h)
   own:=fun kk oo h=>e5.own kk oo ((own2 kk oo).1 h)
   os:=e5.os
   tape:=e5.tape
   output:=e5.output}
 |panicked ch=>obtain⟨v2,e1,_⟩:=hR;cases e1
 |outgrown=>exact hR
end Go.Sx
