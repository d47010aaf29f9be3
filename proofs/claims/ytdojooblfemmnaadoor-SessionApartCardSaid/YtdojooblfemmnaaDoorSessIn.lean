/- Layer 18: what came in is within the bounds that the plain laws ask for. -/
import Derived.Test.YtdojooblfemmnaaDoorSessL
import Derived.Test.YtdojooblfemmnaaDoorOpen
set_option linter.unusedVariables false
namespace Go.Proofs.YtdojooblfemmnaaDoor
theorem wt_mem {α : Type} {wt : α → Nat} {a : α} : ∀ {l : List α}, a ∈ l → wt a ≤ wtl wt l
  | b :: l, h => by
    unfold wtl
    rw [List.map_cons, List.sum_cons]
    rcases List.mem_cons.1 h with rfl | h
    · omega
    · have := wt_mem (wt := wt) h
      unfold wtl at this; omega
theorem in_big {l : List (Int × Int × Int × Rep)}
    (hg : ∀ a ∈ l, (Go.IntKind.i64.min ≤ a.1 ∧ a.1 ≤ Go.IntKind.i64.max) ∧ (Go.IntKind.i64.min ≤ a.2.1 ∧ a.2.1 ≤ Go.IntKind.i64.max) ∧ (Go.IntKind.i64.min ≤ a.2.2.1 ∧ a.2.2.1 ≤ Go.IntKind.i64.max) ∧ (Go.IntKind.i64.min ≤ a.2.2.2.1 ∧ a.2.2.2.1 ≤ Go.IntKind.i64.max) ∧ (Go.IntKind.i64.min ≤ a.2.2.2.2.1 ∧ a.2.2.2.2.1 ≤ Go.IntKind.i64.max) ∧
      a.2.2.2.2.2.length ≤ maxLen ∧ ∀ row ∈ a.2.2.2.2.2, row.length ≤ maxLen ∧ ∀ v ∈ row, (Go.IntKind.i64.min ≤ v.1 ∧ v.1 ≤ Go.IntKind.i64.max) ∧ (Go.IntKind.i64.min ≤ v.2.1 ∧ v.2.1 ≤ Go.IntKind.i64.max) ∧ v.2.2.length ≤ maxLen) : ∀ a ∈ l, FitsRep a.2.2.2 := fun a ha => by
  obtain ⟨_, _, _, _, _, _, g⟩ := hg a ha
  exact fun row hr v hv => ⟨((g row hr).2 v hv).2.1, ((g row hr).2 v hv).2.2⟩
theorem in_tx {l : List (Int × Int × Int × Rep)}
    (h : wtl (fun a : Int × Int × Int × Rep => 1 + (1 + (1 + (1 + (1 + wtl (wtl fun a : Vl => 1 + (1 + (a.2.2.length + 1)) + 1) a.2.2.2.2.2) + 1))) + 1) l ≤ 1048576) : ∀ a ∈ l, ∀ row ∈ a.2.2.2.2.2, ∀ v ∈ row, Tx v := fun a ha row hr v hv => by
  have h1 := wt_mem (wt := fun a : Int × Int × Int × Rep => 1 + (1 + (1 + (1 + (1 + wtl (wtl fun a : Vl => 1 + (1 + (a.2.2.length + 1)) + 1) a.2.2.2.2.2) + 1))) + 1) ha
  have h2 := wt_mem (wt := wtl fun a : Vl => 1 + (1 + (a.2.2.length + 1)) + 1) hr
  have h3 := wt_mem (wt := fun a : Vl => 1 + (1 + (a.2.2.length + 1)) + 1) hv
  unfold Tx
  omega
end Go.Proofs.YtdojooblfemmnaaDoor
