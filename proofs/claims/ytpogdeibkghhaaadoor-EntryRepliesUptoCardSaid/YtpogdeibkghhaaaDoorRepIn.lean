/- Layer 17: what came in is within the bounds that the plain laws ask for. -/
import Derived.Test.YtpogdeibkghhaaaDoorReplR
import Derived.Test.YtpogdeibkghhaaaDoorOpen
set_option linter.unusedVariables false
namespace Go.Proofs.YtpogdeibkghhaaaDoor
theorem wt_mem {α : Type} {wt : α → Nat} {a : α} : ∀ {l : List α}, a ∈ l → wt a ≤ wtl wt l
  | b :: l, h => by
    unfold wtl
    rw [List.map_cons, List.sum_cons]
    rcases List.mem_cons.1 h with rfl | h
    · omega
    · have := wt_mem (wt := wt) h
      unfold wtl at this; omega
theorem in_rep {r : Rep} (hg : ∀ row ∈ r.2.2, row.length ≤ maxLen ∧ ∀ v ∈ row, (Go.IntKind.i64.min ≤ v.1 ∧ v.1 ≤ Go.IntKind.i64.max) ∧ (Go.IntKind.i64.min ≤ v.2.1 ∧ v.2.1 ≤ Go.IntKind.i64.max) ∧ v.2.2.length ≤ maxLen)
    (h : wtl (wtl fun a : Vl => 1 + (1 + (a.2.2.length + 1)) + 1) r.2.2 ≤ 1048576) : FitsRep r := fun row hr v hv => by
  have h1 := wt_mem (wt := wtl fun a : Vl => 1 + (1 + (a.2.2.length + 1)) + 1) hr
  have h2 := wt_mem (wt := fun a : Vl => 1 + (1 + (a.2.2.length + 1)) + 1) hv
  obtain ⟨_, g2, _⟩ := (hg row hr).2 v hv
  exact ⟨g2, by omega⟩
theorem replies_in {r : Rep} (hg : (Go.IntKind.i64.min ≤ r.1 ∧ r.1 ≤ Go.IntKind.i64.max) ∧ (Go.IntKind.i64.min ≤ r.2.1 ∧ r.2.1 ≤ Go.IntKind.i64.max) ∧ r.2.2.length ≤ maxLen ∧ ∀ row ∈ r.2.2, row.length ≤ maxLen ∧ ∀ v ∈ row, (Go.IntKind.i64.min ≤ v.1 ∧ v.1 ≤ Go.IntKind.i64.max) ∧ (Go.IntKind.i64.min ≤ v.2.1 ∧ v.2.1 ≤ Go.IntKind.i64.max) ∧ v.2.2.length ≤ maxLen)
    (h : 1 + (1 + wtl (wtl fun a : Vl => 1 + (1 + (a.2.2.length + 1)) + 1) r.2.2) + 1 ≤ 1048576) : law17_EntryReplies.impl r = some true := replies_is (in_rep hg.2.2.2 (by omega))
end Go.Proofs.YtpogdeibkghhaaaDoor
