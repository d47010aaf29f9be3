/- Layer 2: what came in is within the bounds that the plain laws ask for. -/
import Derived.Test.YtlokkdfiolfdnaaDoorKLaws
import Derived.Test.YtlokkdfiolfdnaaDoorOpen
set_option linter.unusedVariables false
namespace Go.Proofs.YtlokkdfiolfdnaaDoor
theorem wt_mem {α : Type} {wt : α → Nat} {a : α} : ∀ {l : List α}, a ∈ l → wt a ≤ wtl wt l
  | b :: l, h => by
    unfold wtl
    rw [List.map_cons, List.sum_cons]
    rcases List.mem_cons.1 h with rfl | h
    · omega
    · have := wt_mem (wt := wt) h
      unfold wtl at this; omega
theorem in_all {l : List Vl} {wt : Vl → Nat} (hg : ∀ a ∈ l, (Go.IntKind.i64.min ≤ a.1 ∧ a.1 ≤ Go.IntKind.i64.max) ∧ (Go.IntKind.i64.min ≤ a.2.1 ∧ a.2.1 ≤ Go.IntKind.i64.max) ∧ a.2.2.length ≤ maxLen) (h : wtl wt l ≤ 1048576) (hw : ∀ a : Vl, a.2.2.length ≤ wt a := by intro a; omega) : ∀ v ∈ l, InV v := fun v hv => by
  have := wt_mem (wt := wt) hv
  have := hw v
  obtain ⟨_, h2, _⟩ := hg v hv
  exact ⟨h2, by omega⟩
end Go.Proofs.YtlokkdfiolfdnaaDoor
