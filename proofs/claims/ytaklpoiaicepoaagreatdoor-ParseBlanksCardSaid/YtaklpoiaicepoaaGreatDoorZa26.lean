/- A part of the proof: see the row's text. -/
import Derived.Test.YtaklpoiaicepoaaGreatDoorZa21
set_option linter.unusedVariables false
set_option linter.unusedSimpArgs false
noncomputable section
namespace Go.Sx.Tryz
open Go Go.Sx Go.Proofs
set_option maxRecDepth 100000
def cl:List (List Cut):=[[],[],[],[],[],[],[],[],[],[],[],[],[],[],[],[],[],[],[],[],[],[],[],[],[],[],[],[],[⟨[true,true,true,true,false,true,false,false],none⟩,⟨[true,true,true,true,false,true,false,false,true,true,false,false,true,true,true,true,false,false],none⟩,⟨[true,true,true,true,true,false,true,false,false],none⟩],[⟨[true,true,true,true,true,true,true,false,true,false,false],none⟩],[],[],[],[],[],[],[],[],[],[],[],[],[],[],[],[],[],[],[],[],[],[⟨[true,true,false,true,false,false],none⟩],[],[⟨[true,true,true,true,false,true,false,false],none⟩],[],[],[],[],[],[],[],[],[],[],[],[],[],[],[],[],[],[],[],[],[],[],[],[],[],[],[],[],[],[],[],[],[],[],[],[],[],[],[],[],[],[],[],[],[],[],[],[],[],[],[],[],[],[],[],[],[],[],[],[],[],[],[],[],[],[],[],[],[],[],[],[],[],[],[],[],[]]
def R7:List (Nat×aV):=[(10,zu),(19,ofT 19 (jk 48 5)),(38,ofT 38 (gd 48)),(52,ofT 52 rC),(54,ofT 54 mv)]
theorem KO{w0:World}(t:TabsW w0):bm Tryz.prog (GW w0) R7:=.cons (EJ t) (.cons vT (.cons Ga (.cons (Qx t) (.cons (O7 t) .nil))))
theorem Dp:Dw E (kc 132 R7) cl 10000 60 (Out×List Blk) 9 [] [] .ok= .ok (.ret (.bool true),[]):=by kernel_rfl
theorem IP{w0:World}(t:TabsW w0):SA Tryz.prog (GW w0) 9 [] [] (.ret (.bool true),[]):=by
 obtain⟨o,h1,h2⟩:=vM (G:=GW w0) (aX []) (KO t).ok RL 60 _ _ _ _ _ _ Dp
 cases h1
 exact h2
end Go.Sx.Tryz
