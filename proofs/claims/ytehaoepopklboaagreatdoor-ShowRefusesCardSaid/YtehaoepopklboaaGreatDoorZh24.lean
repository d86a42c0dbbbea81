/- A part of the proof: see the row's text. -/
import Derived.Test.YtehaoepopklboaaGreatDoorZh19
set_option linter.unusedVariables false
set_option linter.unusedSimpArgs false
noncomputable section
namespace Go.Sx.Tryz
open Go Go.Sx Go.Proofs
set_option maxRecDepth 100000
def cl:List (List Cut):=[[],[],[],[],[],[],[],[],[],[],[⟨[true,true,true,false,true,false,false],none⟩],[],[],[⟨[true,true,true,false,true,false,false,true,false,false],none⟩],[],[],[],[],[],[],[],[],[],[],[],[],[],[⟨[true,true,true,true,false,true,false,false],none⟩,⟨[true,true,true,true,false,true,false,false,true,true,false,false,true,true,true,true,false,false],none⟩,⟨[true,true,true,true,true,false,true,false,false],none⟩],[],[⟨[true,true,true,true,true,true,true,false,true,false,false],none⟩],[],[],[],[],[],[],[],[],[],[],[],[],[],[],[],[],[],[⟨[true,true,true,true,false,true,false,false],none⟩],[],[],[],[],[],[],[],[],[],[],[],[⟨[true,true,true,false,true,false,false],none⟩],[],[],[⟨[true,true,false,true,false,false],none⟩],[],[],[],[],[⟨[true,true,false,true,false,false],none⟩],[],[],[],[],[],[],[],[],[],[],[],[],[],[],[],[],[],[⟨[true,false,true,false,false],none⟩],[],[],[],[],[],[],[],[],[],[],[],[],[],[],[],[],[],[],[],[],[],[],[⟨[true,false,true,false,false],none⟩],[⟨[true,true,true,true,false,true,false,false],none⟩],[],[],[],[],[],[],[],[],[],[],[],[],[],[],[],[],[],[],[⟨[true,true,true,false,true,false,false],none⟩],[],[],[],[],[],[],[],[],[],[],[]]
end Go.Sx.Tryz
