/- A part of the proof: see the row's text. -/
import Derived.Test.YtaklpoiaicepoaaGreatDoorZa21
set_option linter.unusedVariables false
set_option linter.unusedSimpArgs false
noncomputable section
namespace Go.Sx.Tryz
open Go Go.Sx Go.Proofs
set_option maxRecDepth 100000
def cl:List (List Cut):=[[],[],[],[],[],[],[],[],[],[],[],[],[],[],[],[],[],[],[],[],[],[],[],[],[],[],[],[],[⟨[true,true,true,true,false,true,false,false],none⟩,⟨[true,true,true,true,false,true,false,false,true,true,false,false,true,true,true,true,false,false],none⟩,⟨[true,true,true,true,true,false,true,false,false],none⟩],[⟨[true,true,true,true,true,true,true,false,true,false,false],none⟩],[],[],[],[],[],[],[],[],[],[],[],[],[],[],[],[],[],[],[],[],[],[⟨[true,true,false,true,false,false],none⟩],[],[⟨[true,true,true,true,false,true,false,false],none⟩],[],[],[],[],[],[],[],[],[],[],[],[],[],[],[],[],[],[],[],[],[],[],[],[],[],[],[],[],[],[],[],[],[],[],[],[],[],[],[],[],[],[],[],[],[],[],[],[],[],[],[],[],[],[],[],[],[],[],[],[],[],[],[],[],[],[],[],[],[],[],[],[],[],[],[],[],[]]
def UG:List (Nat×aY):=[(10,Ap),(19,ofT 19 (lg 48 5)),(38,ofT 38 (gp 48)),(52,ofT 52 sr),(54,ofT 54 nX)]
theorem KT{w0:World}(t:TabsW w0):bu Tryz.prog (GW w0) UG:=.cons (GG t) (.cons Ac (.cons H8 (.cons (Qy t) (.cons (Qu t) .nil))))
theorem DS:Dc E (kg 132 UG) cl 10000 60 (Out×List Blk) 9 [] [] .ok= .ok (.ret (.bool true),[]):=by kernel_rfl
theorem Ih{w0:World}(t:TabsW w0):SA Tryz.prog (GW w0) 9 [] [] (.ret (.bool true),[]):=by
 obtain⟨o,h1,h2⟩:=vS (G:=GW w0) (bo []) (KT t).ok UR 60 _ _ _ _ _ _ DS
 cases h1
 exact h2
end Go.Sx.Tryz
