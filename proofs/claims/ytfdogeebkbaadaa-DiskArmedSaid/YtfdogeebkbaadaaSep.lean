/- Parts of the heap, and what is known of them while a call runs: a small separation logic over the walk's own worlds. -/
import Derived.WalkKit
import Derived.KernelRfl
import Derived.BigQuiet
import Derived.Deep.QuietTactic
import Derived.Deep.MidRow
import Derived.Great.BuildSlice
set_option linter.unusedVariables false
set_option linter.unusedSimpArgs false
namespace Go.Proofs.Ytfdogeebkbaadaa
open Go.RowKit

/-- A part of the heap. -/
abbrev PH := Nat → Option Obj
namespace PH
def emp : PH := fun _ => none
def join (h k : PH) : PH := fun b => match h b with | some o => some o | none => k b
def disj (h k : PH) : Prop := ∀ b, h b = none ∨ k b = none
def le (h k : PH) : Prop := ∀ b o, h b = some o → k b = some o
def of (w : World) : PH := fun b => w.heap[b]?
def one (b : Nat) (o : Obj) : PH := fun k => if k = b then some o else none
theorem le_refl (h : PH) : le h h := fun _ _ h => h
theorem le_trans {h k l : PH} (a : le h k) (b : le k l) : le h l := fun x o hx => b x o (a x o hx)
theorem emp_le (h : PH) : le emp h := fun _ _ h => by cases h
theorem le_join_l (h k : PH) : le h (join h k) := fun b o hb => by simp [join, hb]
theorem le_join_r {h k : PH} (d : disj h k) : le k (join h k) := fun b o hb => by
  rcases d b with h1 | h1
  · simp [join, h1, hb]
  · rw [h1] at hb; cases hb
theorem join_le {h k l : PH} (a : le h l) (b : le k l) : le (join h k) l := fun x o hx => by
  simp only [join] at hx
  split at hx
  · rename_i o' he; cases hx; exact a x _ he
  · exact b x o hx
theorem join_none {h k : PH} {b : Nat} : join h k b = none ↔ h b = none ∧ k b = none := by
  simp only [join]; split <;> simp_all
theorem disj_symm {h k : PH} (d : disj h k) : disj k h := fun b => (d b).symm
theorem disj_emp (h : PH) : disj h emp := fun _ => .inr rfl
theorem emp_disj (h : PH) : disj emp h := fun _ => .inl rfl
theorem join_emp (h : PH) : join h emp = h := by funext b; simp only [join, emp]; split <;> simp_all
theorem emp_join (h : PH) : join emp h = h := by funext b; simp [join, emp]
theorem join_comm {h k : PH} (d : disj h k) : join h k = join k h := by
  funext b; simp only [join]
  rcases d b with h1 | h1
  · rw [h1]; cases k b <;> rfl
  · rw [h1]; cases h b <;> rfl
theorem join_assoc (h k l : PH) : join (join h k) l = join h (join k l) := by
  funext b; simp only [join]; cases h b <;> rfl
theorem disj_join_l {h k l : PH} : disj (join h k) l ↔ disj h l ∧ disj k l := by
  constructor
  · intro d
    refine ⟨fun b => ?_, fun b => ?_⟩
    · rcases d b with h1 | h1
      · exact .inl (join_none.1 h1).1
      · exact .inr h1
    · rcases d b with h1 | h1
      · exact .inl (join_none.1 h1).2
      · exact .inr h1
  · rintro ⟨d1, d2⟩ b
    rcases d1 b with h1 | h1
    · rcases d2 b with h2 | h2
      · exact .inl (join_none.2 ⟨h1, h2⟩)
      · exact .inr h2
    · exact .inr h1
theorem disj_join_r {h k l : PH} : disj h (join k l) ↔ disj h k ∧ disj h l := by
  constructor
  · intro d; have := disj_join_l.1 (disj_symm d); exact ⟨disj_symm this.1, disj_symm this.2⟩
  · rintro ⟨a, b⟩; exact disj_symm (disj_join_l.2 ⟨disj_symm a, disj_symm b⟩)
theorem one_self (b : Nat) (o : Obj) : one b o b = some o := by simp [one]
theorem one_some {b k : Nat} {o o' : Obj} (h : one b o k = some o') : k = b ∧ o' = o := by
  unfold one at h; split at h
  · cases h; exact ⟨‹_›, rfl⟩
  · cases h
theorem one_none {b k : Nat} {o : Obj} (h : k ≠ b) : one b o k = none := by simp [one, h]
end PH

/-- What is said of a part of the heap. -/
abbrev HP := PH → Prop
def Emp : HP := fun h => h = PH.emp
/-- Block b, whole: these cells, of this element type; none of them frozen. -/
def Cl (b : Nat) (T : TypeId) (cs : List Value) : HP := fun h => h = PH.one b (.cells cs.toArray T (0, 0))
/-- Block b, whole, whatever it is. -/
def Ob (b : Nat) (o : Obj) : HP := fun h => h = PH.one b o
theorem Cl_toList (b : Nat) (T : TypeId) (cs : Array Value) : Cl b T cs.toList = Ob b (.cells cs T (0, 0)) := by unfold Cl Ob; simp
def Star (A A' : HP) : HP := fun h => ∃ h1 h2, A h1 ∧ A' h2 ∧ PH.disj h1 h2 ∧ h = PH.join h1 h2
def Owns : List HP → HP
  | [] => Emp
  | A :: l => Star A (Owns l)

theorem Owns.get {hs : List HP} {h : PH} (ho : Owns hs h) {i : Nat} {A : HP} (hi : hs[i]? = some A) :
    ∃ h1 h2, A h1 ∧ PH.disj h1 h2 ∧ h = PH.join h1 h2 ∧ ∀ A' h1', A' h1' → PH.disj h1' h2 → Owns (hs.set i A') (PH.join h1' h2) := by
  induction hs generalizing h i with
  | nil => simp at hi
  | cons A0 l ih =>
    obtain ⟨g1, g2, hA0, hl, hd, rfl⟩ := ho
    cases i with
    | zero =>
      simp only [List.getElem?_cons_zero, Option.some.injEq] at hi
      subst hi
      exact ⟨g1, g2, hA0, hd, rfl, fun A' h1' hA' hd' => ⟨h1', g2, hA', hl, hd', rfl⟩⟩
    | succ i =>
      simp only [List.getElem?_cons_succ] at hi
      obtain ⟨h1, h2, hA, hd2, rfl, hset⟩ := ih hl hi
      have ⟨d1, d2⟩ := PH.disj_join_r.1 hd
      refine ⟨h1, PH.join g1 h2, hA, PH.disj_join_r.2 ⟨PH.disj_symm d1, hd2⟩, ?_, fun A' h1' hA' hd' => ?_⟩
      · rw [← PH.join_assoc, PH.join_comm d1, PH.join_assoc]
      · have ⟨e1, e2⟩ := PH.disj_join_r.1 hd'
        refine ⟨g1, PH.join h1' h2, hA0, hset A' h1' hA' e2, PH.disj_join_r.2 ⟨PH.disj_symm e1, d2⟩, ?_⟩
        rw [← PH.join_assoc, PH.join_comm e1, PH.join_assoc]

theorem Owns.app {l1 l2 : List HP} {h1 h2 : PH} (a : Owns l1 h1) (b : Owns l2 h2) (d : PH.disj h1 h2) : Owns (l1 ++ l2) (PH.join h1 h2) := by
  induction l1 generalizing h1 with
  | nil => rw [show h1 = PH.emp from a, PH.emp_join]; exact b
  | cons A l ih =>
    obtain ⟨g1, g2, hA, hl, hd, rfl⟩ := a
    have ⟨d1, d2⟩ := PH.disj_join_l.1 d
    exact ⟨g1, PH.join g2 h2, hA, ih hl d2, PH.disj_join_r.2 ⟨hd, d1⟩, PH.join_assoc ..⟩
theorem Owns.single {A : HP} {h : PH} (a : A h) : Owns [A] h := ⟨h, PH.emp, a, rfl, PH.disj_emp _, (PH.join_emp _).symm⟩
theorem Owns.of_single {A : HP} {h : PH} (a : Owns [A] h) : A h := by
  obtain ⟨g1, g2, hA, rfl, _, rfl⟩ := a
  rwa [PH.join_emp]

/-- What may be read and is not one's own. -/
def roOf (B : World) (own0 : PH) : PH := fun b => match own0 b with | none => B.heap[b]? | some _ => none
theorem roOf_some {B : World} {own0 : PH} {b : Nat} {o : Obj} (h : roOf B own0 b = some o) : own0 b = none ∧ B.heap[b]? = some o := by
  unfold roOf at h; split at h
  · exact ⟨‹_›, h⟩
  · cases h
theorem roOf_mk {B : World} {own0 : PH} {b : Nat} {o : Obj} (h : own0 b = none) (h' : B.heap[b]? = some o) : roOf B own0 b = some o := by simp [roOf, h, h']

/-- A call began at world B, and had 'own0' then; now the world is w, and these things are its own. -/
structure St (B : World) (own0 : PH) (hs : List HP) (w : World) : Prop where
  own : ∃ h, Owns hs h ∧ PH.le h (PH.of w) ∧ ∀ b, b < B.heap.size → own0 b = none → h b = none
  keep : ∀ b, b < B.heap.size → own0 b = none → w.heap[b]? = B.heap[b]?
  size : B.heap.size ≤ w.heap.size
  os : w.os = B.os
  tape : w.tape = B.tape
  output : w.output = B.output

section
variable {B : World} {own0 : PH} {hs : List HP} {w : World}

theorem St.start (B : World) : St B PH.emp [] B := ⟨⟨PH.emp, rfl, PH.emp_le _, fun _ _ _ => rfl⟩, fun _ _ _ => rfl, Nat.le_refl _, rfl, rfl, rfl⟩
/-- Behind a call that had nothing of its own all that was there is as it was. -/
theorem St.below {hs : List HP} (h : St B PH.emp hs w) : Below B.heap.size B w := ⟨h.os, h.tape, h.output, h.size, fun k hk => h.keep k hk rfl⟩
theorem St.drop {hs' : List HP} (h : St B own0 hs w) (hd : ∀ p, Owns hs p → ∃ q, Owns hs' q ∧ PH.le q p) : St B own0 hs' w := by
  obtain ⟨p, hp, hle, hb⟩ := h.own
  obtain ⟨q, hq, hqp⟩ := hd p hp
  refine ⟨⟨q, hq, PH.le_trans hqp hle, fun b hb1 hb2 => ?_⟩, h.keep, h.size, h.os, h.tape, h.output⟩
  cases hqb : q b with
  | none => rfl
  | some o => have := hb b hb1 hb2; rw [hqp b o hqb] at this; cases this

/-- A part of one's own is another one now: the world's step. -/
theorem St.mut {w' : World} (hS : St B own0 hs w) (i : Nat) {A A' : HP} (hi : hs[i]? = some A)
    (hstep : ∀ h1, A h1 → PH.le h1 (PH.of w) → ∃ h1', A' h1' ∧ PH.le h1' (PH.of w') ∧ (∀ b, b < w.heap.size → h1 b = none → h1' b = none ∧ w'.heap[b]? = w.heap[b]?))
    (hsz : w.heap.size ≤ w'.heap.size) (hos : w'.os = w.os) (ht : w'.tape = w.tape) (hout : w'.output = w.output) : St B own0 (hs.set i A') w' := by
  obtain ⟨p, hp, hle, hb⟩ := hS.own
  obtain ⟨h1, h2, hA, hd, rfl, hset⟩ := hp.get hi
  have l1 : PH.le h1 (PH.of w) := PH.le_trans (PH.le_join_l _ _) hle
  have l2 : PH.le h2 (PH.of w) := PH.le_trans (PH.le_join_r hd) hle
  obtain ⟨h1', hA', hle', hkeep⟩ := hstep h1 hA l1
  have lt2 : ∀ b o, h2 b = some o → b < w.heap.size := fun b o h => (Array.getElem?_eq_some_iff.1 (l2 b o h)).1
  have d' : PH.disj h1' h2 := fun b => by
    cases e : h2 b with
    | none => exact .inr rfl
    | some o =>
      refine .inl (hkeep b (lt2 b o e) ?_).1
      rcases hd b with h | h
      · exact h
      · rw [h] at e; cases e
  have old : ∀ b, b < B.heap.size → own0 b = none → h1 b = none ∧ h2 b = none := fun b x y => PH.join_none.1 (hb b x y)
  refine ⟨⟨PH.join h1' h2, hset A' h1' hA' d', PH.join_le hle' ?_, ?_⟩, ?_, Nat.le_trans hS.size hsz, hos.trans hS.os, ht.trans hS.tape, hout.trans hS.output⟩
  · intro b o h
    have n1 : h1 b = none := by
      rcases hd b with h' | h'
      · exact h'
      · rw [h'] at h; cases h
    show w'.heap[b]? = some o
    rw [(hkeep b (lt2 b o h) n1).2]; exact l2 b o h
  · intro b x y
    have ⟨n1, n2⟩ := old b x y
    exact PH.join_none.2 ⟨(hkeep b (Nat.lt_of_lt_of_le x hS.size) n1).1, n2⟩
  · intro b x y
    rw [(hkeep b (Nat.lt_of_lt_of_le x hS.size) (old b x y).1).2]; exact hS.keep b x y

/-- The world has grown by what is one's own. -/
theorem St.grow {w' : World} (hS : St B own0 hs w) {A : HP} {h : PH} (hA : A h) (hle : PH.le h (PH.of w')) (hnew : ∀ b, b < w.heap.size → h b = none ∧ w'.heap[b]? = w.heap[b]?)
    (hsz : w.heap.size ≤ w'.heap.size) (hos : w'.os = w.os) (ht : w'.tape = w.tape) (hout : w'.output = w.output) : St B own0 (A :: hs) w' := by
  obtain ⟨p, hp, hpl, hb⟩ := hS.own
  have lt : ∀ b o, p b = some o → b < w.heap.size := fun b o h => (Array.getElem?_eq_some_iff.1 (hpl b o h)).1
  have d : PH.disj h p := fun b => by
    cases e : p b with
    | none => exact .inr rfl
    | some o => exact .inl (hnew b (lt b o e)).1
  refine ⟨⟨PH.join h p, ⟨h, p, hA, hp, d, rfl⟩, PH.join_le hle (fun b o e => ?_), fun b x y => PH.join_none.2 ⟨(hnew b (Nat.lt_of_lt_of_le x hS.size)).1, hb b x y⟩⟩,
    fun b x y => by rw [(hnew b (Nat.lt_of_lt_of_le x hS.size)).2]; exact hS.keep b x y, Nat.le_trans hS.size hsz, hos.trans hS.os, ht.trans hS.tape, hout.trans hS.output⟩
  show w'.heap[b]? = some o
  rw [(hnew b (lt b o e)).2]; exact hpl b o e

theorem St.alloc (hS : St B own0 hs w) (o : Obj) : St B own0 (Ob w.heap.size o :: hs) (w.alloc o) :=
  hS.grow (h := PH.one w.heap.size o) rfl (fun b o' h => by obtain ⟨rfl, rfl⟩ := PH.one_some h; exact heap_alloc_new w _) (fun b hb => ⟨PH.one_none (by omega), Below.heap_alloc w _ b hb⟩) (by simp) rfl rfl rfl
theorem St.allocCl (hS : St B own0 hs w) (cs : Array Value) (T : TypeId) : St B own0 (Cl w.heap.size T cs.toList :: hs) (w.alloc (.cells cs T)) := by
  rw [Cl_toList]; exact hS.alloc _
theorem St.drew (hS : St B own0 hs w) : St B own0 hs w.drew := ⟨hS.own, hS.keep, hS.size, hS.os, hS.tape, hS.output⟩
theorem St.drewN (hS : St B own0 hs w) (n : Nat) : St B own0 hs (w.drewN n) := ⟨hS.own, hS.keep, hS.size, hS.os, hS.tape, hS.output⟩

theorem St.block (hS : St B own0 hs w) {i : Nat} {b : Nat} {T : TypeId} {cs : List Value} (hi : hs[i]? = some (Cl b T cs)) : w.heap[b]? = some (.cells cs.toArray T (0, 0)) := by
  obtain ⟨p, hp, hpl, hb⟩ := hS.own
  obtain ⟨h1, h2, rfl, hd, rfl, _⟩ := hp.get hi
  exact hpl b _ (PH.le_join_l _ _ _ _ (PH.one_self _ _))
theorem St.obj (hS : St B own0 hs w) {i : Nat} {b : Nat} {o : Obj} (hi : hs[i]? = some (Ob b o)) : w.heap[b]? = some o := by
  obtain ⟨p, hp, hpl, hb⟩ := hS.own
  obtain ⟨h1, h2, rfl, hd, rfl, _⟩ := hp.get hi
  exact hpl b _ (PH.le_join_l _ _ _ _ (PH.one_self _ _))

theorem St.setObj (hS : St B own0 hs w) (i : Nat) {b : Nat} {A : HP} {o o' : Obj} (hi : hs[i]? = some A) (hA : ∀ h, A h → h = PH.one b o) {w' : World}
    (hw : w'.heap[b]? = some o') (hk : ∀ k, k ≠ b → w'.heap[k]? = w.heap[k]?) (hsz : w'.heap.size = w.heap.size) (hos : w'.os = w.os) (ht : w'.tape = w.tape) (hout : w'.output = w.output) : St B own0 (hs.set i (Ob b o')) w' :=
  hS.mut i hi (fun h1 h1A _ => ⟨PH.one b o', rfl, fun k x h => by obtain ⟨rfl, rfl⟩ := PH.one_some h; exact hw, fun k hk' hn => by
    have hkb : k ≠ b := by rintro rfl; rw [hA h1 h1A, PH.one_self] at hn; cases hn
    exact ⟨PH.one_none hkb, hk k hkb⟩⟩) (by omega) hos ht hout
theorem St.setRow (hS : St B own0 hs w) (i : Nat) {b : Nat} {T : TypeId} {cs : List Value} (cs' : Array Value) (hi : hs[i]? = some (Cl b T cs)) : St B own0 (hs.set i (Cl b T cs'.toList)) (w.setRow b cs') := by
  have := hS.setObj i (b := b) (o' := .cells cs' T (0, 0)) hi (fun h hh => hh) (w' := w.setRow b cs') (setRow_heap w b _ cs' T (0, 0) (hS.block hi)) (fun k hk => setRow_other w b k cs' hk) (by simp) rfl rfl rfl
  rw [Cl_toList]; exact this

/-! ### In another order; some left alone -/
def okIdx (is : List Nat) (n : Nat) : Bool := is.Nodup && is.all (· < n)
def pick (is : List Nat) (hs : List HP) : List HP := is.map fun i => hs.getD i Emp
theorem Owns.pick : ∀ (is : List Nat) (hs : List HP) (h : PH), Owns hs h → is.Nodup → (∀ i ∈ is, i < hs.length) → ∃ g, Owns (pick is hs) g ∧ PH.le g h
  | [], _, _, _, _, _ => ⟨PH.emp, rfl, PH.emp_le _⟩
  | i :: is, hs, h, ho, hn, hb => by
    have hi : i < hs.length := hb i (by simp)
    obtain ⟨h1, h2, hA, hd, rfl, hset⟩ := ho.get (i := i) (A := hs[i]) (by simp [hi])
    have hE := hset Emp PH.emp rfl (PH.emp_disj _)
    rw [PH.emp_join] at hE
    have hn' := List.nodup_cons.1 hn
    obtain ⟨g, hg, hle⟩ := Owns.pick is (hs.set i Emp) h2 hE hn'.2 (fun j hj => by simpa using hb j (by simp [hj]))
    have e : Go.Proofs.Ytfdogeebkbaadaa.pick is (hs.set i Emp) = Go.Proofs.Ytfdogeebkbaadaa.pick is hs := by
      refine List.map_congr_left fun j hj => ?_
      have : i ≠ j := fun e => hn'.1 (e ▸ hj)
      simp [List.getD_eq_getElem?_getD, List.getElem?_set, this]
    rw [e] at hg
    refine ⟨PH.join h1 g, ⟨h1, g, ?_, hg, fun b => ?_, rfl⟩, PH.join_le (PH.le_join_l _ _) (PH.le_trans hle (PH.le_join_r hd))⟩
    · simpa [List.getD_eq_getElem?_getD, hi] using hA
    · rcases hd b with h | h
      · exact .inl h
      · refine .inr ?_
        cases e : g b with
        | none => rfl
        | some o => rw [hle b o e] at h; cases h
theorem St.pick (hS : St B own0 hs w) (is : List Nat) (hk : okIdx is hs.length = true) : St B own0 (pick is hs) w :=
  hS.drop fun p hp => by
    simp only [okIdx, Bool.and_eq_true, decide_eq_true_eq, List.all_eq_true] at hk
    exact Owns.pick is hs p hp hk.1 hk.2

/-! ### Calls: the first k are handed on -/
theorem Owns.split {l1 l2 : List HP} {h : PH} (ho : Owns (l1 ++ l2) h) : ∃ h1 h2, Owns l1 h1 ∧ Owns l2 h2 ∧ PH.disj h1 h2 ∧ h = PH.join h1 h2 := by
  induction l1 generalizing h with
  | nil => exact ⟨PH.emp, h, rfl, ho, PH.emp_disj _, (PH.emp_join _).symm⟩
  | cons A l ih =>
    obtain ⟨g1, g2, hA, hl, hd, rfl⟩ := ho
    obtain ⟨k1, k2, a, b, c, rfl⟩ := ih hl
    have ⟨d1, d2⟩ := PH.disj_join_r.1 hd
    exact ⟨PH.join g1 k1, k2, ⟨g1, k1, hA, a, d1, rfl⟩, b, PH.disj_join_l.2 ⟨d2, c⟩, (PH.join_assoc ..).symm⟩

theorem St.call {pre rest : List HP} (hS : St B own0 (pre ++ rest) w) :
    ∃ own1, St w own1 pre w ∧ (∀ post w', St w own1 post w' → St B own0 (post ++ rest) w') ∧ PH.le (roOf B own0) (roOf w own1) ∧
      (∀ (j : Nat) (A : HP), rest[j]? = some A → ∃ h, A h ∧ PH.le h (roOf w own1)) := by
  obtain ⟨p, hp, hpl, hb⟩ := hS.own
  obtain ⟨h1, h2, o1, o2, hd, rfl⟩ := hp.split
  have l1 : PH.le h1 (PH.of w) := PH.le_trans (PH.le_join_l _ _) hpl
  have l2 : PH.le h2 (PH.of w) := PH.le_trans (PH.le_join_r hd) hpl
  have dn : ∀ b o, h2 b = some o → h1 b = none := fun b o e => by
    rcases hd b with h | h
    · exact h
    · rw [h] at e; cases e
  have lt2 : ∀ b o, h2 b = some o → b < w.heap.size := fun b o h => (Array.getElem?_eq_some_iff.1 (l2 b o h)).1
  have old : ∀ b, b < B.heap.size → own0 b = none → h1 b = none ∧ h2 b = none := fun b x y => PH.join_none.1 (hb b x y)
  refine ⟨h1, ⟨⟨h1, o1, l1, fun b _ h => h⟩, fun _ _ _ => rfl, Nat.le_refl _, rfl, rfl, rfl⟩, fun post w' hS' => ?_, fun b o h => ?_, fun j A hj => ?_⟩
  · obtain ⟨q, hq, hql, hqb⟩ := hS'.own
    have dq : PH.disj q h2 := fun b => by
      cases e : h2 b with
      | none => exact .inr rfl
      | some o => exact .inl (hqb b (lt2 b o e) (dn b o e))
    refine ⟨⟨PH.join q h2, hq.app o2 dq, PH.join_le hql fun b o e => ?_, fun b x y => ?_⟩, fun b x y => ?_, Nat.le_trans hS.size hS'.size, hS'.os.trans hS.os, hS'.tape.trans hS.tape, hS'.output.trans hS.output⟩
    · show w'.heap[b]? = some o
      rw [hS'.keep b (lt2 b o e) (dn b o e)]; exact l2 b o e
    · exact PH.join_none.2 ⟨hqb b (Nat.lt_of_lt_of_le x hS.size) (old b x y).1, (old b x y).2⟩
    · rw [hS'.keep b (Nat.lt_of_lt_of_le x hS.size) (old b x y).1]; exact hS.keep b x y
  · obtain ⟨hn, hB⟩ := roOf_some h
    have hlt : b < B.heap.size := (Array.getElem?_eq_some_iff.1 hB).1
    exact roOf_mk (old b hlt hn).1 ((hS.keep b hlt hn).trans hB)
  · obtain ⟨g1, g2, hA, _, rfl, _⟩ := o2.get hj
    exact ⟨g1, hA, fun b o e => roOf_mk (dn b o (PH.le_join_l _ _ b o e)) (l2 b o (PH.le_join_l _ _ b o e))⟩

/-- What could be read when the call began can be read now. -/
theorem St.ro (hS : St B own0 hs w) : PH.le (roOf B own0) (PH.of w) := fun b o h => by
  obtain ⟨hn, hB⟩ := roOf_some h
  exact (hS.keep b (Array.getElem?_eq_some_iff.1 hB).1 hn).trans hB

/-! ### One thing in other words -/
theorem St.conseq (hS : St B own0 hs w) (i : Nat) {A A' : HP} (hi : hs[i]? = some A) (h : ∀ h1, A h1 → A' h1) : St B own0 (hs.set i A') w :=
  hS.mut i hi (fun h1 hA hle => ⟨h1, h h1 hA, hle, fun b _ hn => ⟨hn, rfl⟩⟩) (Nat.le_refl _) rfl rfl rfl
theorem St.exists (hS : St B own0 hs w) (i : Nat) {α : Type} {A : HP} {A' : α → HP} (hi : hs[i]? = some A) (h : ∀ h1, A h1 → ∃ x, A' x h1) : ∃ x, St B own0 (hs.set i (A' x)) w := by
  obtain ⟨p, hp, hpl, hb⟩ := hS.own
  obtain ⟨h1, h2, hA, hd, rfl, hset⟩ := hp.get hi
  obtain ⟨x, hx⟩ := h h1 hA
  exact ⟨x, ⟨_, hset _ h1 hx hd, hpl, hb⟩, hS.keep, hS.size, hS.os, hS.tape, hS.output⟩
theorem St.fact (hS : St B own0 hs w) (i : Nat) {A : HP} (hi : hs[i]? = some A) : ∃ h, A h ∧ PH.le h (PH.of w) := by
  obtain ⟨p, hp, hpl, hb⟩ := hS.own
  obtain ⟨h1, h2, hA, hd, rfl, hset⟩ := hp.get hi
  exact ⟨h1, hA, PH.le_trans (PH.le_join_l _ _) hpl⟩
/-- The first two of all become one. -/
theorem St.close2 {A1 A2 : HP} {l : List HP} (hS : St B own0 (A1 :: A2 :: l) w) : St B own0 (Star A1 A2 :: l) w := by
  obtain ⟨p, ⟨h1, _, a1, ⟨h2, h3, a2, hl, d2, rfl⟩, d1, rfl⟩, hpl, hb⟩ := hS.own
  have ⟨e1, e2⟩ := PH.disj_join_r.1 d1
  exact ⟨⟨_, ⟨PH.join h1 h2, h3, ⟨h1, h2, a1, a2, e1, rfl⟩, hl, PH.disj_join_l.2 ⟨e2, d2⟩, rfl⟩, by rw [PH.join_assoc]; exact hpl, fun b x y => by rw [PH.join_assoc]; exact hb b x y⟩, hS.keep, hS.size, hS.os, hS.tape, hS.output⟩
theorem St.cons_star {A1 A2 : HP} {l : List HP} (hS : St B own0 (Star A1 A2 :: l) w) : St B own0 (A1 :: A2 :: l) w := by
  obtain ⟨p, ⟨g, h3, ⟨h1, h2, a1, a2, d, rfl⟩, hl, d2, rfl⟩, hpl, hb⟩ := hS.own
  have ⟨e1, e2⟩ := PH.disj_join_l.1 d2
  exact ⟨⟨_, ⟨h1, PH.join h2 h3, a1, ⟨h2, h3, a2, hl, e2, rfl⟩, PH.disj_join_r.2 ⟨d, e1⟩, rfl⟩, by rw [← PH.join_assoc]; exact hpl, fun b x y => by rw [← PH.join_assoc]; exact hb b x y⟩, hS.keep, hS.size, hS.os, hS.tape, hS.output⟩
theorem St.cons_ex {α : Type} {A : α → HP} {l : List HP} (hS : St B own0 ((fun h => ∃ x, A x h) :: l) w) : ∃ x, St B own0 (A x :: l) w := hS.exists 0 rfl (fun h hh => hh)
theorem St.cons_and {p : Prop} {A : HP} {l : List HP} (hS : St B own0 ((fun h => p ∧ A h) :: l) w) : p ∧ St B own0 (A :: l) w := by
  obtain ⟨h, hA, _⟩ := hS.fact 0 rfl
  exact ⟨hA.1, hS.conseq 0 rfl fun h hh => hh.2⟩
theorem St.andAt (hS : St B own0 hs w) (i : Nat) {p : Prop} {A : HP} (hi : hs[i]? = some (fun h => p ∧ A h)) : p ∧ St B own0 (hs.set i A) w := by
  obtain ⟨h, hA, _⟩ := hS.fact i hi
  exact ⟨hA.1, hS.conseq i hi fun h hh => hh.2⟩
theorem Owns.perm {l l' : List HP} (hp : l.Perm l') : ∀ h, Owns l h → Owns l' h := by
  induction hp with
  | nil => exact fun h hh => hh
  | cons A _ ih => exact fun h ⟨h1, h2, a, b, d, e⟩ => ⟨h1, h2, a, ih h2 b, d, e⟩
  | swap A A' l =>
    rintro h ⟨h1, _, a1, ⟨h2, h3, a2, hl, d2, rfl⟩, d1, rfl⟩
    have ⟨e1, e2⟩ := PH.disj_join_r.1 d1
    refine ⟨h2, PH.join h1 h3, a2, ⟨h1, h3, a1, hl, e2, rfl⟩, PH.disj_join_r.2 ⟨PH.disj_symm e1, d2⟩, ?_⟩
    rw [← PH.join_assoc, PH.join_comm e1, PH.join_assoc]
  | trans _ _ ih1 ih2 => exact fun h hh => ih2 h (ih1 h hh)
theorem St.perm {hs' : List HP} (hS : St B own0 hs w) (hp : hs.Perm hs') : St B own0 hs' w := hS.drop fun p hh => ⟨p, Owns.perm hp p hh, PH.le_refl _⟩
theorem Owns.star {A1 A2 : HP} {l : List HP} {h : PH} : Owns (Star A1 A2 :: l) h ↔ Owns (A1 :: A2 :: l) h := by
  constructor
  · rintro ⟨g, h3, ⟨h1, h2, a1, a2, d, rfl⟩, hl, d2, rfl⟩
    have ⟨e1, e2⟩ := PH.disj_join_l.1 d2
    exact ⟨h1, PH.join h2 h3, a1, ⟨h2, h3, a2, hl, e2, rfl⟩, PH.disj_join_r.2 ⟨d, e1⟩, PH.join_assoc ..⟩
  · rintro ⟨h1, _, a1, ⟨h2, h3, a2, hl, d2, rfl⟩, d1, rfl⟩
    have ⟨e1, e2⟩ := PH.disj_join_r.1 d1
    exact ⟨PH.join h1 h2, h3, ⟨h1, h2, a1, a2, e1, rfl⟩, hl, PH.disj_join_l.2 ⟨e2, d2⟩, (PH.join_assoc ..).symm⟩
theorem Owns.tl {A : HP} {l l' : List HP} (hm : ∀ h, Owns l h → Owns l' h) : ∀ h, Owns (A :: l) h → Owns (A :: l') h := fun h ⟨h1, h2, a, b, d, e⟩ => ⟨h1, h2, a, hm h2 b, d, e⟩
theorem Owns.hd {A A' : HP} {l : List HP} (hm : ∀ h, A h → A' h) {h : PH} : Owns (A :: l) h → Owns (A' :: l) h := fun ⟨h1, h2, a, b, d, e⟩ => ⟨h1, h2, hm _ a, b, d, e⟩
theorem Owns.more {A : HP} {l : List HP} (hA : A PH.emp) {h : PH} (ho : Owns l h) : Owns (A :: l) h := ⟨PH.emp, h, hA, ho, PH.emp_disj _, (PH.emp_join _).symm⟩
theorem Star.emp {A1 A2 : HP} (h1 : A1 PH.emp) (h2 : A2 PH.emp) : Star A1 A2 PH.emp := ⟨_, _, h1, h2, PH.emp_disj _, (PH.emp_join _).symm⟩
theorem St.map {hs' : List HP} (hS : St B own0 hs w) (hm : ∀ h, Owns hs h → Owns hs' h) : St B own0 hs' w := hS.drop fun p hh => ⟨p, hm p hh, PH.le_refl _⟩
theorem St.swap {A1 A2 : HP} {l : List HP} (hS : St B own0 (A1 :: A2 :: l) w) : St B own0 (A2 :: A1 :: l) w := hS.perm (List.Perm.swap ..)
/-- One of them comes to the front. -/
theorem Owns.front {hs : List HP} {i : Nat} {A : HP} (hi : hs[i]? = some A) : ∀ h, Owns hs h → Owns (A :: hs.eraseIdx i) h := by
  refine Owns.perm ?_
  induction hs generalizing i with
  | nil => simp at hi
  | cons X l ih =>
    cases i with
    | zero => simp only [List.getElem?_cons_zero, Option.some.injEq] at hi; subst hi; exact List.Perm.refl _
    | succ i =>
      simp only [List.getElem?_cons_succ] at hi
      exact ((ih hi).cons X).trans (List.Perm.swap ..)
theorem St.front (hS : St B own0 hs w) (i : Nat) {A : HP} (hi : hs[i]? = some A) : St B own0 (A :: hs.eraseIdx i) w := hS.map (Owns.front hi)
/-- The first one is left alone. -/
theorem St.tail {A : HP} {l : List HP} (hS : St B own0 (A :: l) w) : St B own0 l w := hS.drop fun _ ⟨h1, h2, _, b, d, e⟩ => ⟨h2, b, by rw [e]; exact PH.le_join_r d⟩
/-- One of them is left alone. -/
theorem St.erase (hS : St B own0 hs w) (i : Nat) {A : HP} (hi : hs[i]? = some A) : St B own0 (hs.eraseIdx i) w := (hS.front i hi).tail
theorem St.imp {A A' : HP} {l : List HP} (hS : St B own0 (A :: l) w) (h : ∀ h1, A h1 → A' h1) : St B own0 (A' :: l) w := hS.conseq 0 rfl h
end

end Go.Proofs.Ytfdogeebkbaadaa
