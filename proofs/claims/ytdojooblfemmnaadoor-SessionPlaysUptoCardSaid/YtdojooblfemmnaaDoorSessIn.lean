/- Layer 18: what came in is within the bounds that the plain laws ask for. -/
import Derived.Test.YtdojooblfemmnaaDoorSessL
import Derived.Test.YtdojooblfemmnaaDoorOpen
set_option linter.unusedVariables false
namespace Go.Proofs.YtdojooblfemmnaaDoor
theorem wt_mem {α : Type} {wt : α → Nat} {a : α} : ∀ {l : List α}, a ∈ l → wt a ≤ wtl wt l
  | b :: l, h => by
    unfold wtl
    rw [List.map_cons, List.sum_cons]
    rcases List.mem_cons.1 h with rfl | h
    · omega
    · have := wt_mem (wt := wt) h
      unfold wtl at this; omega
theorem in_rep {r : Rep} (hg : ∀ row ∈ r.2.2, row.length ≤ maxLen ∧ ∀ v ∈ row, (Go.IntKind.i64.min ≤ v.1 ∧ v.1 ≤ Go.IntKind.i64.max) ∧ (Go.IntKind.i64.min ≤ v.2.1 ∧ v.2.1 ≤ Go.IntKind.i64.max) ∧ v.2.2.length ≤ maxLen)
    (h : wtl (wtl fun a : Vl => 1 + (1 + (a.2.2.length + 1)) + 1) r.2.2 ≤ 1048576) : FitsRep r := fun row hr v hv => by
  have h1 := wt_mem (wt := wtl fun a : Vl => 1 + (1 + (a.2.2.length + 1)) + 1) hr
  have h2 := wt_mem (wt := fun a : Vl => 1 + (1 + (a.2.2.length + 1)) + 1) hv
  obtain ⟨_, g2, _⟩ := (hg row hr).2 v hv
  exact ⟨g2, by omega⟩
theorem in_acts {l : List (Int × Int × Int × Rep)}
    (hg : ∀ a ∈ l, (Go.IntKind.i64.min ≤ a.1 ∧ a.1 ≤ Go.IntKind.i64.max) ∧ (Go.IntKind.i64.min ≤ a.2.1 ∧ a.2.1 ≤ Go.IntKind.i64.max) ∧ (Go.IntKind.i64.min ≤ a.2.2.1 ∧ a.2.2.1 ≤ Go.IntKind.i64.max) ∧ (Go.IntKind.i64.min ≤ a.2.2.2.1 ∧ a.2.2.2.1 ≤ Go.IntKind.i64.max) ∧ (Go.IntKind.i64.min ≤ a.2.2.2.2.1 ∧ a.2.2.2.2.1 ≤ Go.IntKind.i64.max) ∧
      a.2.2.2.2.2.length ≤ maxLen ∧ ∀ row ∈ a.2.2.2.2.2, row.length ≤ maxLen ∧ ∀ v ∈ row, (Go.IntKind.i64.min ≤ v.1 ∧ v.1 ≤ Go.IntKind.i64.max) ∧ (Go.IntKind.i64.min ≤ v.2.1 ∧ v.2.1 ≤ Go.IntKind.i64.max) ∧ v.2.2.length ≤ maxLen)
    (h : wtl (fun a : Int × Int × Int × Rep => 1 + (1 + (1 + (1 + (1 + wtl (wtl fun a : Vl => 1 + (1 + (a.2.2.length + 1)) + 1) a.2.2.2.2.2) + 1))) + 1) l ≤ 1048576) : ∀ a ∈ l, FitsRep a.2.2.2 := fun a ha => by
  have h1 := wt_mem (wt := fun a : Int × Int × Int × Rep => 1 + (1 + (1 + (1 + (1 + wtl (wtl fun a : Vl => 1 + (1 + (a.2.2.length + 1)) + 1) a.2.2.2.2.2) + 1))) + 1) ha
  obtain ⟨_, _, _, _, _, _, g⟩ := hg a ha
  exact in_rep g (by omega)
end Go.Proofs.YtdojooblfemmnaaDoor
