/- Parts of the heap, what is one's own and what is never written again; what is known of memory while a call runs. -/
import Derived.WalkKit
import Derived.KernelRfl
import Derived.BigQuiet
import Derived.Deep.QuietTactic
import Derived.Deep.MidRow
import Derived.Great.BuildSlice
set_option linter.unusedVariables false
set_option linter.unusedSimpArgs false
namespace Go.Proofs.YtpogdeibkghhaaaDoor
open Go.RowKit

/-- A part of the heap. -/
abbrev PH := Nat → Option Obj
namespace PH
def emp : PH := fun _ => none
def join (h k : PH) : PH := fun b => match h b with | some o => some o | none => k b
def disj (h k : PH) : Prop := ∀ b, h b = none ∨ k b = none
def le (h k : PH) : Prop := ∀ b o, h b = some o → k b = some o
def of (w : World) : PH := fun b => w.heap[b]?
def one (b : Nat) (o : Obj) : PH := fun k => if k = b then some o else none
theorem le_refl (h : PH) : le h h := fun _ _ h => h
theorem le_trans {h k l : PH} (a : le h k) (b : le k l) : le h l := fun x o hx => b x o (a x o hx)
theorem emp_le (h : PH) : le emp h := fun _ _ h => by cases h
theorem le_join_l (h k : PH) : le h (join h k) := fun b o hb => by simp [join, hb]
theorem le_join_r {h k : PH} (d : disj h k) : le k (join h k) := fun b o hb => by
  rcases d b with h1 | h1
  · simp [join, h1, hb]
  · rw [h1] at hb; cases hb
theorem join_le {h k l : PH} (a : le h l) (b : le k l) : le (join h k) l := fun x o hx => by
  simp only [join] at hx
  split at hx
  · rename_i o' he; cases hx; exact a x _ he
  · exact b x o hx
theorem join_none {h k : PH} {b : Nat} : join h k b = none ↔ h b = none ∧ k b = none := by
  simp only [join]; split <;> simp_all
theorem disj_symm {h k : PH} (d : disj h k) : disj k h := fun b => (d b).symm
theorem disj_emp (h : PH) : disj h emp := fun _ => .inr rfl
theorem emp_disj (h : PH) : disj emp h := fun _ => .inl rfl
theorem emp_join (h : PH) : join emp h = h := by funext b; simp [join, emp]
theorem join_comm {h k : PH} (d : disj h k) : join h k = join k h := by
  funext b; simp only [join]
  rcases d b with h1 | h1
  · rw [h1]; cases k b <;> rfl
  · rw [h1]; cases h b <;> rfl
theorem join_assoc (h k l : PH) : join (join h k) l = join h (join k l) := by
  funext b; simp only [join]; cases h b <;> rfl
theorem disj_join_l {h k l : PH} : disj (join h k) l ↔ disj h l ∧ disj k l := by
  constructor
  · intro d
    refine ⟨fun b => ?_, fun b => ?_⟩
    · rcases d b with h1 | h1
      · exact .inl (join_none.1 h1).1
      · exact .inr h1
    · rcases d b with h1 | h1
      · exact .inl (join_none.1 h1).2
      · exact .inr h1
  · rintro ⟨d1, d2⟩ b
    rcases d1 b with h1 | h1
    · rcases d2 b with h2 | h2
      · exact .inl (join_none.2 ⟨h1, h2⟩)
      · exact .inr h2
    · exact .inr h1
theorem disj_join_r {h k l : PH} : disj h (join k l) ↔ disj h k ∧ disj h l := by
  constructor
  · intro d; have := disj_join_l.1 (disj_symm d); exact ⟨disj_symm this.1, disj_symm this.2⟩
  · rintro ⟨a, b⟩; exact disj_symm (disj_join_l.2 ⟨disj_symm a, disj_symm b⟩)
theorem one_self (b : Nat) (o : Obj) : one b o b = some o := by simp [one]
theorem one_some {b k : Nat} {o o' : Obj} (h : one b o k = some o') : k = b ∧ o' = o := by
  unfold one at h; split at h
  · cases h; exact ⟨‹_›, rfl⟩
  · cases h
theorem one_none {b k : Nat} {o : Obj} (h : k ≠ b) : one b o k = none := by simp [one, h]
theorem disj_le {h h' k : PH} (d : disj h k) (hl : le h' h) : disj h' k := fun b => by
  rcases d b with h1 | h1
  · refine .inl ?_
    cases e : h' b with
    | none => rfl
    | some o => rw [hl b o e] at h1; cases h1
  · exact .inr h1
theorem disj_lt {h k : PH} (d : disj h k) {b : Nat} {o : Obj} (hb : k b = some o) : h b = none := by
  rcases d b with h1 | h1
  · exact h1
  · rw [h1] at hb; cases hb
end PH

/-- What is said of a part of the heap (h), in sight of what is never written again (z). -/
structure MP where
  p : PH → PH → Prop
  mono : ∀ {z z' h : PH}, PH.le z z' → p z h → p z' h
def Owns : List MP → PH → PH → Prop
  | [], _, h => h = PH.emp
  | A :: l, z, h => ∃ h1 h2, A.p z h1 ∧ Owns l z h2 ∧ PH.disj h1 h2 ∧ h = PH.join h1 h2
theorem Owns.mono {z z' : PH} (hz : PH.le z z') : ∀ {l : List MP} {h : PH}, Owns l z h → Owns l z' h
  | [], _, h => h
  | A :: l, _, ⟨h1, h2, a, b, d, e⟩ => ⟨h1, h2, A.mono hz a, Owns.mono hz b, d, e⟩

theorem Owns.get {hs : List MP} {z h : PH} (ho : Owns hs z h) {i : Nat} {A : MP} (hi : hs[i]? = some A) :
    ∃ h1 h2, A.p z h1 ∧ PH.disj h1 h2 ∧ h = PH.join h1 h2 ∧ ∀ (A' : MP) z' h1', PH.le z z' → A'.p z' h1' → PH.disj h1' h2 → Owns (hs.set i A') z' (PH.join h1' h2) := by
  induction hs generalizing h i with
  | nil => simp at hi
  | cons A0 l ih =>
    obtain ⟨g1, g2, hA0, hl, hd, rfl⟩ := ho
    cases i with
    | zero =>
      simp only [List.getElem?_cons_zero, Option.some.injEq] at hi
      subst hi
      exact ⟨g1, g2, hA0, hd, rfl, fun A' z' h1' hz hA' hd' => ⟨h1', g2, hA', hl.mono hz, hd', rfl⟩⟩
    | succ i =>
      simp only [List.getElem?_cons_succ] at hi
      obtain ⟨h1, h2, hA, hd2, rfl, hset⟩ := ih hl hi
      have ⟨d1, d2⟩ := PH.disj_join_r.1 hd
      refine ⟨h1, PH.join g1 h2, hA, PH.disj_join_r.2 ⟨PH.disj_symm d1, hd2⟩, ?_, fun A' z' h1' hz hA' hd' => ?_⟩
      · rw [← PH.join_assoc, PH.join_comm d1, PH.join_assoc]
      · have ⟨e1, e2⟩ := PH.disj_join_r.1 hd'
        refine ⟨g1, PH.join h1' h2, A0.mono hz hA0, hset A' z' h1' hz hA' e2, PH.disj_join_r.2 ⟨PH.disj_symm e1, d2⟩, ?_⟩
        rw [← PH.join_assoc, PH.join_comm e1, PH.join_assoc]

/-- A run began at world B; now the world is w, and these things are known of it. -/
def St (B : World) (hs : List MP) (w : World) : Prop :=
  ∃ z h, Owns hs z h ∧ PH.disj z h ∧ PH.le z (PH.of w) ∧ PH.le h (PH.of w) ∧ PH.le (PH.of B) z ∧ B.heap.size ≤ w.heap.size ∧ w.os = B.os ∧ w.tape = B.tape ∧ w.output = B.output

section
variable {B : World} {hs : List MP} {w w' : World}
theorem St.start (B : World) : St B [] B := ⟨PH.of B, PH.emp, rfl, PH.disj_emp _, PH.le_refl _, PH.emp_le _, PH.le_refl _, Nat.le_refl _, rfl, rfl, rfl⟩
theorem St.below (h : St B hs w) : Below B.heap.size B w := by
  obtain ⟨z, g, _, _, hz, _, hB, hsz, ho, ht, hu⟩ := h
  refine ⟨ho, ht, hu, hsz, fun k hk => ?_⟩
  have : PH.of B k = some B.heap[k] := by simp [PH.of, hk]
  rw [show w.heap[k]? = _ from hz k _ (hB k _ this)]; simp [hk]
theorem lt_of_of {b : Nat} {o : Obj} (h : PH.of w b = some o) : b < w.heap.size := (Array.getElem?_eq_some_iff.1 h).1

/-- One thing of one's own turns into another one: the world's step. -/
theorem St.raw {z h1 h2 h1' : PH} {i : Nat} {A' : MP} (hset : ∀ (A' : MP) z' h1', PH.le z z' → A'.p z' h1' → PH.disj h1' h2 → Owns (hs.set i A') z' (PH.join h1' h2)) (hd12 : PH.disj h1 h2) (dz1 : PH.disj z h1) (dz2 : PH.disj z h2)
    (hz : PH.le z (PH.of w)) (l2 : PH.le h2 (PH.of w)) (hT : PH.le (PH.of B) z ∧ B.heap.size ≤ w.heap.size ∧ w.os = B.os ∧ w.tape = B.tape ∧ w.output = B.output) (hA' : A'.p z h1') (hle' : PH.le h1' (PH.of w'))
    (hkeep : ∀ b, b < w.heap.size → h1 b = none → h1' b = none ∧ w'.heap[b]? = w.heap[b]?) (hsz : w.heap.size ≤ w'.heap.size) (hos : w'.os = w.os) (ht : w'.tape = w.tape) (hout : w'.output = w.output) : St B (hs.set i A') w' := by
  obtain ⟨hB, hbz, ho, hta, hu⟩ := hT
  have d' : PH.disj h1' h2 := fun b => by
    cases e : h2 b with
    | none => exact .inr rfl
    | some o => exact .inl (hkeep b (lt_of_of (l2 b o e)) (PH.disj_lt hd12 e)).1
  have dz' : PH.disj z h1' := fun b => by
    cases e : z b with
    | none => exact .inl rfl
    | some o => exact .inr (hkeep b (lt_of_of (hz b o e)) (PH.disj_lt (PH.disj_symm dz1) e)).1
  refine ⟨z, PH.join h1' h2, hset A' z h1' (PH.le_refl _) hA' d', PH.disj_join_r.2 ⟨dz', dz2⟩, fun b o e => ?_, PH.join_le hle' fun b o e => ?_, hB, Nat.le_trans hbz hsz, hos.trans ho, ht.trans hta, hout.trans hu⟩
  · show w'.heap[b]? = some o
    rw [(hkeep b (lt_of_of (hz b o e)) (PH.disj_lt (PH.disj_symm dz1) e)).2]; exact hz b o e
  · show w'.heap[b]? = some o
    rw [(hkeep b (lt_of_of (l2 b o e)) (PH.disj_lt hd12 e)).2]; exact l2 b o e
theorem St.upd (hS : St B hs w) (i : Nat) {A A' : MP} (hi : hs[i]? = some A)
    (hstep : ∀ z h1, A.p z h1 → PH.le h1 (PH.of w) → PH.le z (PH.of w) → PH.disj z h1 → ∃ h1', A'.p z h1' ∧ PH.le h1' (PH.of w') ∧ (∀ b, b < w.heap.size → h1 b = none → h1' b = none ∧ w'.heap[b]? = w.heap[b]?))
    (hsz : w.heap.size ≤ w'.heap.size) (hos : w'.os = w.os) (ht : w'.tape = w.tape) (hout : w'.output = w.output) : St B (hs.set i A') w' := by
  obtain ⟨z, h, hp, hd, hz, hh, hT⟩ := hS
  obtain ⟨h1, h2, hA, hd12, rfl, hset⟩ := hp.get hi
  have l1 : PH.le h1 (PH.of w) := PH.le_trans (PH.le_join_l _ _) hh
  have l2 : PH.le h2 (PH.of w) := PH.le_trans (PH.le_join_r hd12) hh
  have ⟨dz1, dz2⟩ := PH.disj_join_r.1 hd
  obtain ⟨h1', hA', hle', hkeep⟩ := hstep z h1 hA l1 hz dz1
  exact St.raw hset hd12 dz1 dz2 hz l2 hT hA' hle' hkeep hsz hos ht hout

/-- The world has grown by what is one's own. -/
theorem St.grow (hS : St B hs w) {A : MP} {h : PH} (hA : ∀ z, PH.le z (PH.of w) → A.p z h) (hle : PH.le h (PH.of w')) (hnew : ∀ b, b < w.heap.size → h b = none ∧ w'.heap[b]? = w.heap[b]?)
    (hsz : w.heap.size ≤ w'.heap.size) (hos : w'.os = w.os) (ht : w'.tape = w.tape) (hout : w'.output = w.output) : St B (A :: hs) w' := by
  obtain ⟨z, g, hp, hd, hz, hg, hB, hbz, ho, hta, hu⟩ := hS
  have d : PH.disj h g := fun b => by
    cases e : g b with
    | none => exact .inr rfl
    | some o => exact .inl (hnew b (lt_of_of (hg b o e))).1
  have dz : PH.disj z h := fun b => by
    cases e : z b with
    | none => exact .inl rfl
    | some o => exact .inr (hnew b (lt_of_of (hz b o e))).1
  refine ⟨z, PH.join h g, ⟨h, g, hA z hz, hp, d, rfl⟩, PH.disj_join_r.2 ⟨dz, hd⟩, fun b o e => ?_, PH.join_le hle fun b o e => ?_, hB, Nat.le_trans hbz hsz, hos.trans ho, ht.trans hta, hout.trans hu⟩
  · show w'.heap[b]? = some o
    rw [(hnew b (lt_of_of (hz b o e))).2]; exact hz b o e
  · show w'.heap[b]? = some o
    rw [(hnew b (lt_of_of (hg b o e))).2]; exact hg b o e
theorem St.world (hS : St B hs w) (hh : w'.heap = w.heap) (hos : w'.os = w.os) (ht : w'.tape = w.tape) (hout : w'.output = w.output) : St B hs w' := by
  obtain ⟨z, g, hp, hd, hz, hg, hB, hbz, ho, hta, hu⟩ := hS
  have e : PH.of w' = PH.of w := by funext b; simp [PH.of, hh]
  exact ⟨z, g, hp, hd, e ▸ hz, e ▸ hg, hB, hh ▸ hbz, hos.trans ho, ht.trans hta, hout.trans hu⟩
theorem St.drew (hS : St B hs w) : St B hs w.drew := hS.world rfl rfl rfl rfl
theorem St.fact (hS : St B hs w) {i : Nat} {A : MP} (hi : hs[i]? = some A) : ∃ z h, A.p z h ∧ PH.le h (PH.of w) ∧ PH.le z (PH.of w) := by
  obtain ⟨z, h, hp, hd, hz, hh, _⟩ := hS
  obtain ⟨h1, h2, hA, _, rfl, _⟩ := hp.get hi
  exact ⟨z, h1, hA, PH.le_trans (PH.le_join_l _ _) hh, hz⟩
/-- What is one's own is never written again. -/
theorem St.freeze (hS : St B hs w) (i : Nat) {A A' : MP} (hi : hs[i]? = some A) (hf : ∀ z h, A.p z h → PH.disj z h → A'.p (PH.join z h) PH.emp) : St B (hs.set i A') w := by
  obtain ⟨z, h, hp, hd, hz, hh, hB, hr⟩ := hS
  obtain ⟨h1, h2, hA, hd12, rfl, hset⟩ := hp.get hi
  have ⟨dz1, dz2⟩ := PH.disj_join_r.1 hd
  refine ⟨PH.join z h1, PH.join PH.emp h2, hset A' _ PH.emp (PH.le_join_l _ _) (hf z h1 hA dz1) (PH.emp_disj _), ?_, PH.join_le hz (PH.le_trans (PH.le_join_l _ _) hh), ?_, PH.le_trans hB (PH.le_join_l _ _), hr⟩
  · rw [PH.emp_join]; exact PH.disj_join_l.2 ⟨dz2, hd12⟩
  · rw [PH.emp_join]; exact PH.le_trans (PH.le_join_r hd12) hh
/-- One thing in other words. -/
theorem St.conseq (hS : St B hs w) (i : Nat) {A A' : MP} (hi : hs[i]? = some A) (h : ∀ z h1, A.p z h1 → A'.p z h1) : St B (hs.set i A') w :=
  hS.upd i hi (fun z h1 hA hle _ _ => ⟨h1, h z h1 hA, hle, fun b _ hn => ⟨hn, rfl⟩⟩) (Nat.le_refl _) rfl rfl rfl
theorem St.map {hs' : List MP} (hS : St B hs w) (hm : ∀ z h, Owns hs z h → ∃ h', Owns hs' z h' ∧ PH.le h' h) : St B hs' w := by
  obtain ⟨z, h, hp, hd, hz, hh, hB, hr⟩ := hS
  obtain ⟨h', hp', hle⟩ := hm z h hp
  exact ⟨z, h', hp', PH.disj_symm (PH.disj_le (PH.disj_symm hd) hle), hz, PH.le_trans hle hh, hB, hr⟩
/-- What is told of no memory at all. -/
theorem St.tell (hS : St B hs w) {A : MP} (hA : ∀ z, A.p z PH.emp) : St B (A :: hs) w :=
  hS.map fun z h hp => ⟨h, ⟨PH.emp, h, hA z, hp, PH.emp_disj _, (PH.emp_join _).symm⟩, PH.le_refl _⟩
theorem Owns.sub {l : List MP} {z h : PH} (ho : Owns l z h) {i : Nat} {A : MP} (hi : l[i]? = some A) : ∃ h1, A.p z h1 ∧ PH.le h1 h := by
  obtain ⟨h1, h2, hA, _, rfl, _⟩ := ho.get hi
  exact ⟨h1, hA, PH.le_join_l _ _⟩
theorem St.dup (hS : St B hs w) (i : Nat) {A A' : MP} (hi : hs[i]? = some A) (hl : ∀ z h, A.p z h → A'.p z PH.emp) : St B (A' :: hs) w :=
  hS.map fun z h hp => by
    obtain ⟨h1, hA, _⟩ := hp.sub hi
    exact ⟨h, ⟨PH.emp, h, hl z h1 hA, hp, PH.emp_disj _, (PH.emp_join _).symm⟩, PH.le_refl _⟩

/-! ### In another order; some left alone -/
def MP.emp : MP := ⟨fun _ h => h = PH.emp, fun _ h => h⟩
theorem Owns.pickN : ∀ (is : List Nat) (hs : List MP) (z h : PH), Owns hs z h → is.Nodup → (∀ i ∈ is, i < hs.length) → ∃ g, Owns (is.map fun i => hs.getD i MP.emp) z g ∧ PH.le g h
  | [], _, _, _, _, _, _ => ⟨PH.emp, rfl, PH.emp_le _⟩
  | i :: is, hs, z, h, ho, hn, hb => by
    have hi : i < hs.length := hb i (by simp)
    obtain ⟨h1, h2, hA, hd, rfl, hset⟩ := ho.get (i := i) (A := hs[i]) (by simp [hi])
    have hE := hset MP.emp z PH.emp (PH.le_refl _) rfl (PH.emp_disj _)
    rw [PH.emp_join] at hE
    have hn' := List.nodup_cons.1 hn
    obtain ⟨g, hg, hle⟩ := Owns.pickN is (hs.set i MP.emp) z h2 hE hn'.2 (fun j hj => by simpa using hb j (by simp [hj]))
    have e : (is.map fun i' => (hs.set i MP.emp).getD i' MP.emp) = is.map fun i' => hs.getD i' MP.emp := by
      refine List.map_congr_left fun j hj => ?_
      have : i ≠ j := fun e => hn'.1 (e ▸ hj)
      simp [List.getD_eq_getElem?_getD, List.getElem?_set, this]
    rw [e] at hg
    refine ⟨PH.join h1 g, ⟨h1, g, ?_, hg, fun b => ?_, rfl⟩, PH.join_le (PH.le_join_l _ _) (PH.le_trans hle (PH.le_join_r hd))⟩
    · simpa [List.getD_eq_getElem?_getD, hi] using hA
    · rcases hd b with h | h
      · exact .inl h
      · refine .inr ?_
        cases e : g b with
        | none => rfl
        | some o => rw [hle b o e] at h; cases h
theorem Owns.app {l1 l2 : List MP} {z h1 h2 : PH} (a : Owns l1 z h1) (b : Owns l2 z h2) (d : PH.disj h1 h2) : Owns (l1 ++ l2) z (PH.join h1 h2) := by
  induction l1 generalizing h1 with
  | nil => rw [show h1 = PH.emp from a, PH.emp_join]; exact b
  | cons A l ih =>
    obtain ⟨g1, g2, hA, hl, hd, rfl⟩ := a
    have ⟨d1, d2⟩ := PH.disj_join_l.1 d
    exact ⟨g1, PH.join g2 h2, hA, ih hl d2, PH.disj_join_r.2 ⟨hd, d1⟩, PH.join_assoc ..⟩
theorem Owns.split {l1 l2 : List MP} {z h : PH} (ho : Owns (l1 ++ l2) z h) : ∃ h1 h2, Owns l1 z h1 ∧ Owns l2 z h2 ∧ PH.disj h1 h2 ∧ h = PH.join h1 h2 := by
  induction l1 generalizing h with
  | nil => exact ⟨PH.emp, h, rfl, ho, PH.emp_disj _, (PH.emp_join _).symm⟩
  | cons A l ih =>
    obtain ⟨g1, g2, hA, hl, hd, rfl⟩ := ho
    obtain ⟨k1, k2, a, b, c, rfl⟩ := ih hl
    have ⟨d1, d2⟩ := PH.disj_join_r.1 hd
    exact ⟨PH.join g1 k1, k2, ⟨g1, k1, hA, a, d1, rfl⟩, b, PH.disj_join_l.2 ⟨d2, c⟩, (PH.join_assoc ..).symm⟩
/-- These of the first n, then what stands behind them. -/
def okIdx (is : List Nat) (n : Nat) : Bool := is.all (· < n) && noDup is
where noDup : List Nat → Bool
  | [] => true
  | i :: l => !l.elem i && noDup l
theorem noDup_spec : ∀ {l : List Nat}, okIdx.noDup l = true → l.Nodup
  | [], _ => List.nodup_nil
  | i :: l, h => by
    simp only [okIdx.noDup, Bool.and_eq_true] at h
    refine List.nodup_cons.2 ⟨?_, noDup_spec h.2⟩
    simpa using h.1
theorem St.pick (hS : St B hs w) (is : List Nat) (n : Nat) {tl hs' : List MP} (hk : okIdx is n = true) (ht : hs.drop n = tl) (hl : n ≤ hs.length) (e : (is.map fun i => hs.getD i MP.emp) ++ tl = hs') : St B hs' w := by
  subst e; subst ht
  refine hS.map fun z h hp => ?_
  simp only [okIdx, Bool.and_eq_true, List.all_eq_true, decide_eq_true_eq] at hk
  rw [← List.take_append_drop n hs] at hp
  obtain ⟨h1, h2, o1, o2, d, rfl⟩ := hp.split
  have hlt : (hs.take n).length = n := by simp; omega
  obtain ⟨g, hg, hle⟩ := Owns.pickN is (hs.take n) z h1 o1 (noDup_spec hk.2) (fun i hi => by rw [hlt]; exact hk.1 i hi)
  have e : (is.map fun i => (hs.take n).getD i MP.emp) = is.map fun i => hs.getD i MP.emp := by
    refine List.map_congr_left fun j hj => ?_
    have := hk.1 j hj
    simp [List.getD_eq_getElem?_getD, List.getElem?_take, this]
  rw [e] at hg
  exact ⟨_, hg.app o2 (PH.disj_le d hle), PH.join_le (PH.le_trans hle (PH.le_join_l _ _)) (PH.le_join_r d)⟩
/-- The first two become one. -/
def MP.star (A A' : MP) : MP := ⟨fun z h => ∃ h1 h2, A.p z h1 ∧ A'.p z h2 ∧ PH.disj h1 h2 ∧ h = PH.join h1 h2, fun hz ⟨h1, h2, a, b, c⟩ => ⟨h1, h2, A.mono hz a, A'.mono hz b, c⟩⟩
theorem Owns.star {A1 A2 : MP} {l : List MP} {z h : PH} : Owns (MP.star A1 A2 :: l) z h ↔ Owns (A1 :: A2 :: l) z h := by
  constructor
  · rintro ⟨g, h3, ⟨h1, h2, a1, a2, d, rfl⟩, hl, d2, rfl⟩
    have ⟨e1, e2⟩ := PH.disj_join_l.1 d2
    exact ⟨h1, PH.join h2 h3, a1, ⟨h2, h3, a2, hl, e2, rfl⟩, PH.disj_join_r.2 ⟨d, e1⟩, PH.join_assoc ..⟩
  · rintro ⟨h1, _, a1, ⟨h2, h3, a2, hl, d2, rfl⟩, d1, rfl⟩
    have ⟨e1, e2⟩ := PH.disj_join_r.1 d1
    exact ⟨PH.join h1 h2, h3, ⟨h1, h2, a1, a2, e1, rfl⟩, hl, PH.disj_join_l.2 ⟨e2, d2⟩, (PH.join_assoc ..).symm⟩
end

/-! ### Kinds of things -/
/-- A whole block. -/
def Ob (b : Nat) (o : Obj) : MP := ⟨fun _ h => h = PH.one b o, fun _ h => h⟩
/-- A whole block of cells, none of them frozen. -/
def Cl (b : Nat) (T : TypeId) (cs : List Value) : MP := Ob b (.cells cs.toArray T (0, 0))
section
variable {B : World} {hs : List MP} {w w' : World}
theorem St.obj (hS : St B hs w) {i b : Nat} {o : Obj} (hi : hs[i]? = some (Ob b o)) : w.heap[b]? = some o := by
  obtain ⟨z, h, rfl, hh, _⟩ := hS.fact hi
  exact hh b _ (PH.one_self _ _)
theorem St.block (hS : St B hs w) {i b : Nat} {T : TypeId} {cs : List Value} (hi : hs[i]? = some (Cl b T cs)) : w.heap[b]? = some (.cells cs.toArray T (0, 0)) := hS.obj hi
theorem St.alloc (hS : St B hs w) (o : Obj) : St B (Ob w.heap.size o :: hs) (w.alloc o) :=
  hS.grow (h := PH.one w.heap.size o) (fun _ _ => rfl) (fun b o' h => by obtain ⟨rfl, rfl⟩ := PH.one_some h; exact heap_alloc_new w _) (fun b hb => ⟨PH.one_none (by omega), Below.heap_alloc w _ b hb⟩) (by simp) rfl rfl rfl
theorem St.allocCl (hS : St B hs w) (cs : Array Value) (T : TypeId) : St B (Cl w.heap.size T cs.toList :: hs) (w.alloc (.cells cs T)) := by
  have : Cl w.heap.size T cs.toList = Ob w.heap.size (.cells cs T (0, 0)) := by unfold Cl; simp
  rw [this]; exact hS.alloc _
theorem St.setObj (hS : St B hs w) (i : Nat) {b : Nat} {o o' : Obj} (hi : hs[i]? = some (Ob b o))
    (hw : w'.heap[b]? = some o') (hk : ∀ k, k ≠ b → w'.heap[k]? = w.heap[k]?) (hsz : w'.heap.size = w.heap.size) (hos : w'.os = w.os) (ht : w'.tape = w.tape) (hout : w'.output = w.output) : St B (hs.set i (Ob b o')) w' :=
  hS.upd i hi (fun z h1 h1A _ _ _ => ⟨PH.one b o', rfl, fun k x h => by obtain ⟨rfl, rfl⟩ := PH.one_some h; exact hw, fun k hk' hn => by
    have hkb : k ≠ b := by
      rintro rfl
      have h1A : h1 = PH.one k o := h1A
      rw [h1A, PH.one_self] at hn; cases hn
    exact ⟨PH.one_none hkb, hk k hkb⟩⟩) (by omega) hos ht hout
theorem St.setRow (hS : St B hs w) (i : Nat) {b : Nat} {T : TypeId} {cs : List Value} (cs' : Array Value) (hi : hs[i]? = some (Cl b T cs)) : St B (hs.set i (Cl b T cs'.toList)) (w.setRow b cs') := by
  have := hS.setObj i (b := b) (o' := .cells cs' T (0, 0)) hi (w' := w.setRow b cs') (setRow_heap w b _ cs' T (0, 0) (hS.block hi)) (fun k hk => setRow_other w b k cs' hk) (by simp) rfl rfl rfl
  have e : Cl b T cs'.toList = Ob b (.cells cs' T (0, 0)) := by unfold Cl; simp
  rw [e]; exact this
end
end Go.Proofs.YtpogdeibkghhaaaDoor
