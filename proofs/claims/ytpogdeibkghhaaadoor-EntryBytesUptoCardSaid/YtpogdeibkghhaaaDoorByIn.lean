/- Layer 17: what came in is within the bounds that the plain laws ask for. -/
import Derived.Test.YtpogdeibkghhaaaDoorByL
import Derived.Test.YtpogdeibkghhaaaDoorOpen
set_option linter.unusedVariables false
namespace Go.Proofs.YtpogdeibkghhaaaDoor
theorem wt_mem {α : Type} {wt : α → Nat} {a : α} : ∀ {l : List α}, a ∈ l → wt a ≤ wtl wt l
  | b :: l, h => by
    unfold wtl
    rw [List.map_cons, List.sum_cons]
    rcases List.mem_cons.1 h with rfl | h
    · omega
    · have := wt_mem (wt := wt) h
      unfold wtl at this; omega
abbrev i64B (n : Int) : Prop := Go.IntKind.i64.min ≤ n ∧ n ≤ Go.IntKind.i64.max
abbrev VB (v : Vl) : Prop := i64B v.1 ∧ i64B v.2.1 ∧ v.2.2.length ≤ maxLen
abbrev OB (o : Op) : Prop := i64B o.1 ∧ o.2.1.length ≤ maxLen ∧ (o.2.2.1.1.length ≤ maxLen ∧ (o.2.2.1.2.1.length ≤ maxLen ∧ ∀ c ∈ o.2.2.1.2.1, c.1.length ≤ maxLen ∧ i64B c.2.1 ∧ i64B c.2.2) ∧ o.2.2.1.2.2.length ≤ maxLen ∧ ∀ x ∈ o.2.2.1.2.2, i64B x.1 ∧ True) ∧
  (o.2.2.2.1.length ≤ maxLen ∧ ∀ v ∈ o.2.2.2.1, VB v) ∧ VB o.2.2.2.2.1 ∧ i64B o.2.2.2.2.2.1 ∧ VB o.2.2.2.2.2.2.1 ∧ VB o.2.2.2.2.2.2.2.1 ∧ i64B o.2.2.2.2.2.2.2.2
abbrev EB (x : Ent) : Prop := i64B x.1 ∧ i64B x.2.1 ∧ (x.2.2.1.length ≤ maxLen ∧ ∀ c ∈ x.2.2.1, i64B c.1 ∧ i64B c.2.1 ∧ c.2.2.length ≤ maxLen ∧ ∀ o ∈ c.2.2, OB o) ∧ i64B x.2.2.2
abbrev wV (v : Vl) : Nat := 1 + (1 + (v.2.2.length + 1)) + 1
abbrev wC (c : Col) : Nat := c.1.length + 1 + (1 + 1) + 1
abbrev wI (c : Ix) : Nat := 1 + 1 + 1
abbrev wO (o : Op) : Nat := 1 + (o.2.1.length + 1 + (o.2.2.1.1.length + 1 + (wtl wC o.2.2.1.2.1 + wtl wI o.2.2.1.2.2) + 1 + (wtl wV o.2.2.2.1 + (wV o.2.2.2.2.1 + (1 + (wV o.2.2.2.2.2.2.1 + (wV o.2.2.2.2.2.2.2.1 + 1))))))) + 1
abbrev wM (c : Cmd) : Nat := 1 + (1 + wtl wO c.2.2) + 1
theorem in_v {v : Vl} (h : VB v) (hw : wV v ≤ 1048576) : Fits v := ⟨h.2.1, by have : 1 + (1 + (v.2.2.length + 1)) + 1 ≤ 1048576 := hw; omega⟩
theorem in_op {o : Op} (h : OB o) (hw : wO o ≤ 1048576) : BndO o := by
  obtain ⟨_, _, _, ⟨_, hr⟩, hk, _, hlo, hhi, _⟩ := h
  have hw : 1 + (o.2.1.length + 1 + (o.2.2.1.1.length + 1 + (wtl wC o.2.2.1.2.1 + wtl wI o.2.2.1.2.2) + 1 + (wtl wV o.2.2.2.1 + (wV o.2.2.2.2.1 + (1 + (wV o.2.2.2.2.2.2.1 + (wV o.2.2.2.2.2.2.2.1 + 1))))))) + 1 ≤ 1048576 := hw
  have l1 := wtl_len (wt := wC) (fun c => by show 1 ≤ c.1.length + 1 + (1 + 1) + 1; omega) o.2.2.1.2.1
  have l2 := wtl_len (wt := wI) (fun c => by show 1 ≤ 1 + 1 + 1; omega) o.2.2.1.2.2
  have l3 := wtl_len (wt := wV) (fun c => by show 1 ≤ 1 + (1 + (c.2.2.length + 1)) + 1; omega) o.2.2.2.1
  refine ⟨by omega, ⟨by omega, fun c hc => ?_⟩, by omega, by omega, by omega, fun v hv => in_v (hr v hv) ?_, in_v hk (by omega), in_v hlo (by omega), in_v hhi (by omega)⟩
  · have := wt_mem (wt := wC) hc
    have : c.1.length + 1 + (1 + 1) + 1 ≤ wtl wC o.2.2.1.2.1 := this
    omega
  · have := wt_mem (wt := wV) hv
    omega
theorem in_ent {x : Ent} (h : EB x) (hw : 1 + (1 + (wtl wM x.2.2.1 + 1)) + 1 ≤ 1048576) : BndE x := fun c hc o ho => by
  have h1 := wt_mem (wt := wM) hc
  have h1 : 1 + (1 + wtl wO c.2.2) + 1 ≤ wtl wM x.2.2.1 := h1
  have h2 := wt_mem (wt := wO) ho
  exact in_op ((h.2.2.1.2 c hc).2.2.2 o ho) (by omega)
theorem bytes_in {x y : Ent} {b0 b1 : Nat} (h0 : EB x) (w0 : 1 + (1 + (wtl wM x.2.2.1 + 1)) + 1 ≤ b0) (h1 : EB y) (w1 : 1 + (1 + (wtl wM y.2.2.1 + 1)) + 1 ≤ b1) (hb0 : b0 ≤ 1048576) (hb1 : b1 ≤ 1048576) : law17_EntryBytes.impl x y = some true :=
  ebytes_is (in_ent h0 (by omega)) (in_ent h1 (by omega))
end Go.Proofs.YtpogdeibkghhaaaDoor
