/- A part of the proof: see the row's text. -/
import Derived.Test.YtehaoepopklboaaGreatDoorZh19
set_option linter.unusedVariables false
set_option linter.unusedSimpArgs false
noncomputable section
namespace Go.Sx.Tryz
open Go Go.Sx Go.Proofs Go.Shelf Go.Lib
open Go.Proofs.YtehaoepopklboaaGreatDoor
set_option maxRecDepth 100000
def tc:DataW Unit→List Value
 | .lit (.int k n)=>[.int k n]
 | .lit (.float k n)=>[.float k n]
 | .lit (.bool b)=>[.bool b]
 | .lit (.string s)=>[.string ⟨⟨s⟩⟩]
 |_=>[]
def qc:DataW Unit→List Value
 | .agg l=>l.flatMap tc
 |d=>tc d
def cm:DataW Unit→List Value
 | .agg l=>l.flatMap qc
 | .slice l _=>l.flatMap qc
 |d=>tc d
def BI:DataW Unit→List Value
 | .iface _ (.ptr d)=>cm d
 |_=>[]
def c2(x:Nat×Nat):List Value:=[.int .u64 x.1,.int .u64 x.2]
def qA(os:Os):World:=
 let N:=(World.settled Tryz.prog os).heap.size
 let T:=Lib.goPrintTabs
 let w0:=World.holding Tryz.prog os ⟨#[
  .cells (intCellsOf .u16 T.p16) 207,.cells (intCellsOf .u16 T.n16) 207,.cells (intCellsOf .u32 T.p32) 126,.cells (intCellsOf .u16 T.n32) 207,.cells (intCellsOf .u16 Go.Pinned.isGraphicZ) 207,
  .cells (cm Rows.laid_internal_strconv_powtab).toArray 3,.cells (cm Rows.laid_internal_strconv_float64pow10).toArray 156,.cells (cm Rows.laid_internal_strconv_float32pow10).toArray 200,
  .cells (cm Rows.laid_internal_strconv_leftcheats).toArray 269,.cells (BI Rows.laid_strconv_ErrRange).toArray 239,.cells (BI Rows.laid_strconv_ErrSyntax).toArray 239],#[],[]⟩
 let put (h:Array Obj) (g:Nat) (cs:Array Value):Array Obj:=h.modify g fun
  | .cells _ t frozen=>.cells cs t frozen
  |o=>o
 let h:=put w0.heap 4 (cm Rows.laid_internal_strconv_uint64pow10).toArray
 let h:=put h 1 (Lib.firstTab.map fun z=>Value.int .u8 z).toArray
 let h:=put h 2 (cm Rows.laid_unicode_utf8_acceptRanges).toArray
 let h:=put h 7 #[.slice (some ⟨N,0,none⟩) T.p16.length T.p16.length]
 let h:=put h 8 #[.slice (some ⟨N+1,0,none⟩) T.n16.length T.n16.length]
 let h:=put h 9 #[.slice (some ⟨N+2,0,none⟩) T.p32.length T.p32.length]
 let h:=put h 10 #[.slice (some ⟨N+3,0,none⟩) T.n32.length T.n32.length]
 let h:=put h 11 #[.slice (some ⟨N+4,0,none⟩) Go.Pinned.isGraphicZ.length Go.Pinned.isGraphicZ.length]
 let h:=put h 12 (cm Rows.laid_math_bits_deBruijn32tab).toArray
 let h:=put h 13 (cm Rows.laid_math_bits_deBruijn64tab).toArray
 let h:=put h 5 #[.iface 237 (.pointer (some ⟨N+10,0,none⟩))]
 let h:=put h 6 #[.iface 237 (.pointer (some ⟨N+9,0,none⟩))]
 let h:=put h 14 (cm Rows.laid_internal_strconv_float32info).toArray
 let h:=put h 15 (cm Rows.laid_internal_strconv_optimize).toArray
 let h:=put h 16 (cm Rows.laid_internal_strconv_float64info).toArray
 let h:=put h 17 #[.slice (some ⟨N+7,0,none⟩) 11 11]
 let h:=put h 18 #[.slice (some ⟨N+5,0,none⟩) (cm Rows.laid_internal_strconv_powtab).length (cm Rows.laid_internal_strconv_powtab).length]
 let h:=put h 19 #[.slice (some ⟨N+6,0,none⟩) 23 23]
 let h:=put h 20 (Go.Pinned.pow10Rows.flatMap c2).toArray
 let h:=put h 21 #[.slice (some ⟨N+8,0,none⟩) 61 61]
 {w0 with heap:=h}
abbrev N0:Nat:=(World.settled Tryz.prog default).heap.size
abbrev l5(os:Os)(args:Array Value):World:=((qA os).forCall (fun _ _=>0) ⟨#[],args,[]⟩).memory
set_option maxRecDepth 1000000 in
theorem J1(os:Os)(args:Array Value):LaidIn Tryz.prog (l5 os args) [("math/bits.deBruijn32tab",Rows.laid_math_bits_deBruijn32tab),("math/bits.deBruijn64tab",Rows.laid_math_bits_deBruijn64tab),("internal/strconv.float32info",Rows.laid_internal_strconv_float32info),("internal/strconv.float64info",Rows.laid_internal_strconv_float64info),("internal/strconv.optimize",Rows.laid_internal_strconv_optimize),("internal/strconv.powtab",Rows.laid_internal_strconv_powtab),("internal/strconv.float64pow10",Rows.laid_internal_strconv_float64pow10),("internal/strconv.float32pow10",Rows.laid_internal_strconv_float32pow10),("internal/strconv.uint64pow10",Rows.laid_internal_strconv_uint64pow10),("unicode/utf8.acceptRanges",Rows.laid_unicode_utf8_acceptRanges),("strconv.ErrRange",Rows.laid_strconv_ErrRange),("strconv.ErrSyntax",Rows.laid_strconv_ErrSyntax)] [12,13,14,16,15,18,N0+5,19,N0+6,17,N0+7,4,2,6,N0+9,5,N0+10]:=
 LaidIn.of_run [12,13,14,16,15,18,N0+5,19,N0+6,17,N0+7,4,2,6,N0+9,5,N0+10] 8 (by kernel_rfl) (by kernel_rfl) (by kernel_rfl) (by kernel_rfl)
end Go.Sx.Tryz
