/- Slices of bytes that came in. -/
import Derived.Test.YtkdadnlleepkfaaLawBase
import Derived.OpenShut
namespace Go.Proofs.Ytkdadnlleepkfaa
open Go.RowKit
/-- Every number is a byte. -/
def Bytes (l : List Int) : Prop := ∀ i, 0 ≤ l.getD i 0 ∧ l.getD i 0 ≤ 255
theorem IsRow.u8 {w : World} {a : Option Addr} {len cap : Nat} {zs : List Int} (h : IsRow .u8 w a len cap zs) : Bytes (zs.take len) := fun i => by
  have hz : ∀ n ∈ zs, (Lit.int .u8 n).wf = true := by
    rcases h with ⟨_, _, _, rfl⟩ | ⟨_, _, _, _, _, _, h⟩
    · simp
    · exact h
  have := range_u8 (zs := zs.take len) (fun n hn => hz n (List.mem_of_mem_take hn)) i
  simpa [List.getD_eq_getElem?_getD] using this
end Go.Proofs.Ytkdadnlleepkfaa
