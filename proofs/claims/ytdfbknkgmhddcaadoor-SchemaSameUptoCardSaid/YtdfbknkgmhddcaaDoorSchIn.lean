/- Layer 14: what came in is within the bounds that the plain laws ask for. -/
import Derived.Test.YtdfbknkgmhddcaaDoorSchL
import Derived.Test.YtdfbknkgmhddcaaDoorOpen
set_option linter.unusedVariables false
namespace Go.Proofs.YtdfbknkgmhddcaaDoor
theorem wt_mem {α : Type} {wt : α → Nat} {a : α} : ∀ {l : List α}, a ∈ l → wt a ≤ wtl wt l
  | b :: l, h => by
    unfold wtl
    rw [List.map_cons, List.sum_cons]
    rcases List.mem_cons.1 h with rfl | h
    · omega
    · have := wt_mem (wt := wt) h
      unfold wtl at this; omega
theorem in_all {l : List Vl} {wt : Vl → Nat} (hg : ∀ a ∈ l, (Go.IntKind.i64.min ≤ a.1 ∧ a.1 ≤ Go.IntKind.i64.max) ∧ (Go.IntKind.i64.min ≤ a.2.1 ∧ a.2.1 ≤ Go.IntKind.i64.max) ∧ a.2.2.length ≤ maxLen) (h : wtl wt l ≤ 1048576) (hw : ∀ a : Vl, a.2.2.length ≤ wt a := by intro a; omega) : ∀ v ∈ l, InV v := fun v hv => by
  have := wt_mem (wt := wt) hv
  have := hw v
  obtain ⟨_, h2, _⟩ := hg v hv
  exact ⟨h2, by omega⟩
theorem in_sch {s : Sch} {G : Prop} {wC : Col → Nat} {wI : Ix → Nat} (hg : G) (h : (s.1.length + 1) + (wtl wC s.2.1 + wtl wI s.2.2) + 1 ≤ 1048576) (hC : ∀ c : Col, c.1.length + 1 ≤ wC c := by intro c; omega) (hI : ∀ c : Ix, 1 ≤ wI c := by intro c; omega) : InS s := by
  have h1 := wtl_len (wt := wC) (fun c => by have := hC c; omega) s.2.1
  have h2 := wtl_len (wt := wI) hI s.2.2
  refine ⟨by omega, ⟨by omega, fun c hc => ?_⟩, by omega⟩
  have := wt_mem (wt := wC) hc
  have := hC c
  omega
end Go.Proofs.YtdfbknkgmhddcaaDoor
