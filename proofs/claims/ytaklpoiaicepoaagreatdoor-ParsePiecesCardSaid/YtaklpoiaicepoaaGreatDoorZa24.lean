/- A part of the proof: see the row's text. -/
import Derived.Test.YtaklpoiaicepoaaGreatDoorZa19
set_option linter.unusedVariables false
set_option linter.unusedSimpArgs false
noncomputable section
namespace Go.Sx.Tryz
open Go Go.Sx Go.Proofs
set_option maxRecDepth 100000
def cl:List (List Cut):=[[],[],[],[],[],[],[],[],[],[],[],[],[],[],[],[],[],[],[],[],[],[],[],[],[],[],[],[],[⟨[true,true,true,true,false,true,false,false],none⟩,⟨[true,true,true,true,false,true,false,false,true,true,false,false,true,true,true,true,false,false],none⟩,⟨[true,true,true,true,true,false,true,false,false],none⟩],[⟨[true,true,true,true,true,true,true,false,true,false,false],none⟩],[],[],[],[],[],[],[],[],[],[],[],[],[],[],[],[],[],[],[],[],[],[⟨[true,true,false,true,false,false],none⟩],[],[⟨[true,true,true,true,false,true,false,false],none⟩],[],[],[],[],[],[],[],[],[],[],[],[],[],[],[],[],[],[],[],[],[],[],[],[],[],[],[],[],[],[],[],[],[],[],[],[],[],[],[],[],[],[],[],[],[],[],[],[],[],[],[],[],[],[],[],[],[],[],[],[],[],[],[],[],[],[],[],[],[],[],[],[],[],[],[],[],[]]
def Q2:List (Nat×aX):=[(10,Cw),(19,ofT 19 (lX 48 5)),(38,ofT 38 (gO 48)),(52,ofT 52 tW),(54,ofT 54 pf)]
theorem Km{w0:World}(t:TabsW w0):bw Tryz.prog (GW w0) Q2:=.cons (Jc t) (.cons Ck (.cons G6 (.cons (Oj t) (.cons (NU t) .nil))))
theorem GN:FJ E (kQ 132 Q2) cl 10000 60 (Out×List Blk) 9 [] [] .ok= .ok (.ret (.bool true),[]):=by kernel_rfl
theorem GX{w0:World}(t:TabsW w0):SA Tryz.prog (GW w0) 9 [] [] (.ret (.bool true),[]):=by
 obtain⟨o,h1,h2⟩:=x7 (G:=GW w0) (bb []) (Km t).ok TE 60 _ _ _ _ _ _ GN
 cases h1
 exact h2
end Go.Sx.Tryz
