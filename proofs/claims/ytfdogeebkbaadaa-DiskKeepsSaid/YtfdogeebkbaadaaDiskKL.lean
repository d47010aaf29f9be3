/- DiskKeeps in plain terms. -/
import Derived.Test.YtfdogeebkbaadaaDiskK
import Derived.Test.YtfdogeebkbaadaaDiskFL
import Derived.Test.YtfdogeebkbaadaaOwn
set_option linter.unusedVariables false
set_option linter.unusedSimpArgs false
namespace Go.Proofs.Ytfdogeebkbaadaa
open Go Go.RowKit
/-! ### What the power leaves -/
theorem getD_app_l {α : Type} [Inhabited α] (a b : List α) (i : Nat) (h : i < a.length) : (a ++ b).getD i default = a.getD i default := by simp [List.getD, List.getElem?_append_left h]
theorem getD_app_r {α : Type} [Inhabited α] (a b : List α) (i : Nat) (h : a.length ≤ i) : (a ++ b).getD i default = b.getD (i - a.length) default := by simp [List.getD, List.getElem?_append_right h]
theorem over_byte (m : KM) (w : Int × List UInt8) (n : Nat) (hn : n ≤ 8192) (hw : w.2.length = 8192) (q : Int) (i : Nat) : (blk (over m w n) q).getD i default = (blk m q).getD i default ∨ w.1 = q ∧ (blk (over m w n) q).getD i default = w.2.getD i default := by
  rw [blk_over m w n hn hw]
  by_cases h : q = w.1
  · rw [if_pos h]
    by_cases g : i < n
    · refine .inr ⟨h.symm, ?_⟩
      rw [getD_app_l _ _ _ (by simp; omega)]
      simp [List.getD, List.getElem?_take, g]
    · refine .inl ?_
      rw [getD_app_r _ _ _ (by simp; omega), h]
      simp only [List.length_take, hw, Nat.min_eq_left hn, List.getD, List.getElem?_drop]
      congr 2; omega
  · rw [if_neg h]; exact .inl rfl
theorem cut_byte (l : Ls) (q : Int) (i : Nat) : ∀ (c : KM) (j : Nat) (m : KM), (∀ w ∈ c, w.2.length = 8192) → (blk (cutM l j m c) q).getD i default = (blk m q).getD i default ∨ ∃ w ∈ c, w.1 = q ∧ (blk (cutM l j m c) q).getD i default = w.2.getD i default
  | [], j, m, _ => .inl rfl
  | w :: r, j, m, h => by
    have hw := h w (List.mem_cons_self ..)
    simp only [cutM]
    rcases cut_byte l q i r (j + 1) (cut1 l j m w) (fun u hu => h u (List.mem_cons_of_mem _ hu)) with e | ⟨u, hu, e1, e2⟩
    · rw [e]
      have key : (blk (cut1 l j m w) q).getD i default = (blk m q).getD i default ∨ w.1 = q ∧ (blk (cut1 l j m w) q).getD i default = w.2.getD i default := by
        unfold cut1
        split
        · exact over_byte m w 8192 (by omega) hw q i
        · split
          · exact over_byte m w _ (cutN_le l) hw q i
          · exact .inl rfl
      rcases key with k | ⟨k1, k2⟩
      · exact .inl k
      · exact .inr ⟨w, List.mem_cons_self .., k1, k2⟩
    · exact .inr ⟨u, List.mem_cons_of_mem _ hu, e1, e2⟩
/-! ### What a flush leaves -/
theorem flush_app (m c d : KM) : flushM m (c ++ d) = flushM (flushM m c) d := List.foldl_append
theorem flush_last (q : Int) : ∀ (c : KM) (m : KM), (∀ w ∈ c, w.2.length = 8192) → blk (flushM m c) q = match (c.filter (fun w => decide (w.1 = q))).getLast? with | some w => w.2 | none => blk m q
  | [], m, _ => rfl
  | w :: r, m, h => by
    have hw := h w (List.mem_cons_self ..)
    have ih := flush_last q r (over m w 8192) (fun u hu => h u (List.mem_cons_of_mem _ hu))
    rw [show flushM m (w :: r) = flushM (over m w 8192) r from rfl, ih, blk_full m w hw]
    by_cases e : w.1 = q
    · rw [List.filter_cons_of_pos (by simpa using e), if_pos e.symm, List.getLast?_cons]
      cases (r.filter (fun w => decide (w.1 = q))).getLast? <;> rfl
    · rw [List.filter_cons_of_neg (by simpa using e), if_neg (fun h => e h.symm)]
/-! ### could -/
def atV (s : List UInt8) (i : Nat) : UInt8 := s.getD i default
theorem at_is (s : List UInt8) (i : Nat) : law3_at.impl s (i : Int) = some ((atV s i).toNat : Int) := by
  unfold law3_at.impl atV
  by_cases h : (i : Int) < (s.length : Int)
  · rw [ite_dt h, chk_true (by omega)]; simp
  · rw [ite_df h]
    have : s.getD i default = default := by simp [List.getD, List.getElem?_eq_none (by omega : s.length ≤ i)]
    rw [this]; rfl
theorem whole_at (s : List UInt8) (hs : s.length ≤ 8192) (i : Nat) : (whole s).getD i default = atV s i := by
  by_cases h : i < s.length
  · rw [whole_get s i h hs]; rfl
  · have : atV s i = 0 := by unfold atV; simp [List.getD, List.getElem?_eq_none (by omega : s.length ≤ i)]; rfl
    rw [this]
    by_cases g : i < 8192
    · exact whole_behind s i (by omega) g
    · simp [List.getD, List.getElem?_eq_none (by rw [whole_len]; omega : (whole s).length ≤ i)]; rfl
theorem could_in {b : List UInt8} {o : List (List UInt8)} {i : Nat} (hi : i < b.length) (ho : o.length ≤ 1000) (ok : Bool) (hk : ok = false → ∃ j, j < o.length ∧ b.getD i default = atV (o.getD j default) i) :
    loop (law3_could.st2 o (i : Int) b) (ok, 0) = some true := by
  let I : Bool × Int → Prop := fun s => ∃ j : Nat, s.2 = (j : Int) ∧ j ≤ o.length ∧ (s.1 = false → ∃ q, j ≤ q ∧ q < o.length ∧ b.getD i default = atV (o.getD q default) i)
  obtain ⟨r, h1, rfl⟩ := loop_inv (step := law3_could.st2 o (i : Int) b) (I := I) (Q := fun r => r = true) (fun s => o.length - s.2.toNat) (by
    rintro ⟨a, _⟩ ⟨j, rfl, hj, hw⟩
    simp only at hw
    cases a with
    | true =>
      left; refine ⟨true, ?_, rfl⟩
      unfold law3_could.st2 law3_could.k4
      simp
    | false =>
      obtain ⟨q, hq1, hq2, hq3⟩ := hw rfl
      right
      refine ⟨(decide (((b.getD i default).toNat : Int) = ((atV (o.getD j default) i).toNat : Int)), ((j + 1 : Nat) : Int)), ?_, ⟨j + 1, rfl, by omega, fun hf => ⟨q, ?_, hq2, hq3⟩⟩, by simp; omega⟩
      · unfold law3_could.st2
        rw [ite_dt (by simp; omega)]
        unfold law3_could.k4
        simp only [Bool.not_false, if_true, Int.toNat_natCast]
        rw [chk_true (by omega), chk_true (by omega), at_is, i64_id (by omega)]
        rfl
      · by_cases e : j = q
        · subst e; rw [hq3] at hf; simp at hf
        · omega) (ok, 0) ⟨0, rfl, by omega, fun h => let ⟨j, a, b⟩ := hk h; ⟨j, by omega, a, b⟩⟩
  exact h1
theorem could_is {b s : List UInt8} {o : List (List UInt8)} (hb : b.length ≤ 1000000) (ho : o.length ≤ 1000) (h : ∀ i, i < b.length → b.getD i default = atV s i ∨ ∃ j, j < o.length ∧ b.getD i default = atV (o.getD j default) i) :
    law3_could.impl b s o = some true := by
  unfold law3_could.impl
  have : loop (law3_could.st1 b s o) ((0 : Nat) : Int) = some (.inr ()) := by
    refine loop_up (fun k : Nat => (k : Int)) b.length (fun i hi => ?_) (by unfold law3_could.st1; rw [ite_df (by omega)])
    unfold law3_could.st1
    rw [ite_dt (by omega), chk_true (by omega)]
    simp only [at_is, Option.bind_some, Int.toNat_natCast]
    rw [could_in hi ho _ (fun hf => by
      rcases h i hi with e | e
      · exact absurd (show ((b.getD i default).toNat : Int) = ((atV s i).toNat : Int) by rw [e]) (of_decide_eq_false hf)
      · exact e)]
    simp only [Option.bind_some]
    unfold law3_could.k3
    simp only [Bool.not_true, Bool.false_eq_true, if_false]
    unfold law3_could.k2
    rw [i64_id (by omega)]; rfl
  rw [show ((0 : Int)) = ((0 : Nat) : Int) from rfl, this]
  rfl
/-! ### The law -/
def lastOr (o : List (List UInt8)) (k : List UInt8) : List UInt8 := o.getLast?.getD k
theorem keep_step {kp : List (List UInt8)} {op : List (List (List UInt8))} (hk : kp.length = 4) (ho : op.length = 4) (hs : ∀ o ∈ op, o.length ≤ 1000) {k : Nat} (h4 : k < 4) :
    law3_DiskKeeps.st3 (kp, op, (k : Int)) = some (.inl (kp.set k (lastOr (op.getD k default) (kp.getD k default)), op.set k [], ((k + 1 : Nat) : Int))) := by
  have hl : (op.getD k default).length ≤ 1000 := by
    have : op.getD k default = op[k] := by simp [List.getD, ho, h4]
    rw [this]; exact hs _ (List.getElem_mem _)
  have hw : IntKind.i64.wrap ((k : Int) + 1) = ((k + 1 : Nat) : Int) := i64_id (by omega)
  have h8 : ∀ s, law3_DiskKeeps.k8 (kp, op, (k : Int)) s = some (.inl (s, op.set k [], ((k + 1 : Nat) : Int))) := fun s => by
    unfold law3_DiskKeeps.k8
    simp only [Int.toNat_natCast, Nat.zero_add, Nat.mul_one]
    rw [chk_true (by omega), chk_true (by omega), hw]
  unfold law3_DiskKeeps.st3
  simp only [Int.toNat_natCast, Nat.zero_add, Nat.mul_one, h8]
  rw [ite_dt (by omega), chk_true (by omega), chk_true (by omega)]
  generalize hO : op.getD k default = O at *
  by_cases g : (0 : Int) < (O.length : Int)
  · rw [ite_dt g, chk_true (by omega), chk_true (by omega), chk_true (by omega), chk_true (by omega), i64_id (by omega), chk_true (by omega), chk_true (by omega), chk_true (by omega)]
    have e : O.getD ((O.length : Int) - 1).toNat default = lastOr O (kp.getD k default) := by
      rw [show ((O.length : Int) - 1).toNat = O.length - 1 by omega]
      unfold lastOr
      rw [List.getLast?_eq_getElem?, List.getD]
      have : O[O.length - 1]? = some (O[O.length - 1]'(by omega)) := List.getElem?_eq_getElem _
      rw [this]; rfl
    rw [e]
  · rw [ite_df g]
    have : O = [] := List.eq_nil_of_length_eq_zero (by omega)
    subst this
    have : kp.set k (lastOr [] (kp.getD k default)) = kp := by
      unfold lastOr; exact set_back
    rw [this]
theorem keep_loop {k0 k1 k2 k3 : List UInt8} {o0 o1 o2 o3 : List (List UInt8)} (hs : ∀ o ∈ [o0, o1, o2, o3], o.length ≤ 1000) :
    loop law3_DiskKeeps.st3 ([k0, k1, k2, k3], [o0, o1, o2, o3], 0) = some ([lastOr o0 k0, lastOr o1 k1, lastOr o2 k2, lastOr o3 k3], [[], [], [], []]) := by
  have z : ([] : List (List UInt8)).length ≤ 1000 := by simp
  simp only [List.mem_cons, List.mem_nil_iff, or_false, forall_eq_or_imp, forall_eq] at hs
  obtain ⟨a0, a1, a2, a3⟩ := hs
  have e0 := keep_step (kp := [k0, k1, k2, k3]) (op := [o0, o1, o2, o3]) rfl rfl (by simp [a0, a1, a2, a3]) (k := 0) (by omega)
  have e1 := keep_step (kp := [lastOr o0 k0, k1, k2, k3]) (op := [[], o1, o2, o3]) rfl rfl (by simp [a1, a2, a3]) (k := 1) (by omega)
  have e2 := keep_step (kp := [lastOr o0 k0, lastOr o1 k1, k2, k3]) (op := [[], [], o2, o3]) rfl rfl (by simp [a2, a3]) (k := 2) (by omega)
  have e3 := keep_step (kp := [lastOr o0 k0, lastOr o1 k1, lastOr o2 k2, k3]) (op := [[], [], [], o3]) rfl rfl (by simp [a3]) (k := 3) (by omega)
  refine (loop_more e0).trans ?_
  refine (loop_more e1).trans ?_
  refine (loop_more e2).trans ?_
  refine (loop_more e3).trans ?_
  refine loop_last ?_
  unfold law3_DiskKeeps.st3
  simp
def Flt (c : KM) (q : Int) : KM := c.filter (fun w => decide (w.1 = q))
structure Gd1 (m c : KM) (k : Nat) (kp : List UInt8) (op : List (List UInt8)) (n : Nat) : Prop where
  short : kp.length ≤ 40
  kept : blk m k = whole kp
  opens : (Flt c k).map (·.2) = op.map whole
  shorts : ∀ o ∈ op, o.length ≤ 40
  few : op.length ≤ n
theorem Gd1.flush {m c : KM} {k n : Nat} {kp : List UInt8} {op : List (List UInt8)} (h : Gd1 m c k kp op n) (hc : ∀ w ∈ c, w.2.length = 8192) (n' : Nat) : Gd1 (flushM m c) [] k (lastOr op kp) [] n' := by
  have e := congrArg List.getLast? h.opens
  rw [List.getLast?_map, List.getLast?_map] at e
  have hb := flush_last k c m hc
  rw [show c.filter (fun w => decide (w.1 = (k : Int))) = Flt c k from rfl] at hb
  refine ⟨?_, ?_, rfl, by simp, by simp⟩
  · unfold lastOr
    cases g : op.getLast? with
    | none => exact h.short
    | some o => exact h.shorts o (List.mem_of_getLast? g)
  · rw [hb]
    unfold lastOr
    cases g : op.getLast? with
    | none =>
      rw [g] at e
      cases g2 : (Flt c k).getLast? with
      | none => exact h.kept
      | some w => rw [g2] at e; cases e
    | some o =>
      rw [g] at e
      cases g2 : (Flt c k).getLast? with
      | none => rw [g2] at e; cases e
      | some w => rw [g2] at e; exact Option.some.inj e
theorem Gd1.write {m c : KM} {k n : Nat} {kp : List UInt8} {op : List (List UInt8)} (h : Gd1 m c k kp op n) {s : List UInt8} (hs : s.length ≤ 40) : Gd1 m (c ++ [((k : Int), whole s)]) k kp (op ++ [s]) (n + 1) := by
  refine ⟨h.short, h.kept, ?_, ?_, by simp [h.few]⟩
  · have := h.opens
    unfold Flt at this ⊢
    rw [List.filter_append, List.map_append, this]; simp
  · intro o ho
    rcases List.mem_append.1 ho with g | g
    · exact h.shorts o g
    · rw [List.mem_singleton.1 g]; exact hs
theorem Gd1.other {m c : KM} {k n : Nat} {kp : List UInt8} {op : List (List UInt8)} (h : Gd1 m c k kp op n) {q : Int} (hq : q ≠ k) (s : List UInt8) : Gd1 m (c ++ [(q, s)]) k kp op (n + 1) := by
  refine ⟨h.short, h.kept, ?_, h.shorts, by have := h.few; omega⟩
  have := h.opens
  unfold Flt at this ⊢
  rw [List.filter_append, List.map_append, this]
  simp [hq]
/-- What a block reads as behind a loss of power may be. -/
theorem Gd1.could {m c : KM} {k n : Nat} {kp : List UInt8} {op : List (List UInt8)} (h : Gd1 m c k kp op n) (hn : n ≤ 1000) (hc : ∀ w ∈ c, w.2.length = 8192) (l : Ls) : law3_could.impl (blk (cutM l 0 m c) k) kp op = some true := by
  have hl := whole_len ((mget (cutM l 0 m c) k).getD [])
  refine could_is (by unfold blk; omega) (by have := h.few; omega) fun i hi => ?_
  rcases cut_byte l k i c 0 m hc with e | ⟨w, hw, e1, e2⟩
  · rw [e, h.kept, whole_at _ (by have := h.short; omega)]; exact .inl rfl
  · right
    have hm : w.2 ∈ (Flt c k).map (·.2) := List.mem_map.2 ⟨w, List.mem_filter.2 ⟨hw, by simpa using e1⟩, rfl⟩
    rw [h.opens] at hm
    obtain ⟨o, ho, e3⟩ := List.mem_map.1 hm
    obtain ⟨j, hj, rfl⟩ := List.getElem_of_mem ho
    refine ⟨j, hj, ?_⟩
    have : op.getD j default = op[j] := by simp [List.getD, hj]
    rw [e2, ← e3, this, whole_at _ (by have := h.shorts _ ho; omega)]
def Gd (m c : KM) (kp : List (List UInt8)) (op : List (List (List UInt8))) (n : Nat) : Prop := kp.length = 4 ∧ op.length = 4 ∧ (∀ w ∈ c, w.2.length = 8192) ∧ c.length ≤ n ∧ ∀ k : Nat, k < 4 → Gd1 m c k (kp.getD k default) (op.getD k default) n
theorem four {α : Type} {l : List α} (h : l.length = 4) : ∃ a b c d, l = [a, b, c, d] := by
  match l, h with
  | [a, b, c, d], _ => exact ⟨a, b, c, d, rfl⟩
theorem Gd.flush {m c : KM} {kp : List (List UInt8)} {op : List (List (List UInt8))} {n : Nat} (h : Gd m c kp op n) (hn : n ≤ 1000) : ∃ kp' op', loop law3_DiskKeeps.st3 (kp, op, 0) = some (kp', op') ∧ Gd (flushM m c) [] kp' op' (n + 1) := by
  obtain ⟨h1, h2, h3, h4, h5⟩ := h
  obtain ⟨k0, k1, k2, k3, rfl⟩ := four h1
  obtain ⟨o0, o1, o2, o3, rfl⟩ := four h2
  have g0 := h5 0 (by omega)
  have g1 := h5 1 (by omega)
  have g2 := h5 2 (by omega)
  have g3 := h5 3 (by omega)
  have f0 : o0.length ≤ n := g0.few
  have f1 : o1.length ≤ n := g1.few
  have f2 : o2.length ≤ n := g2.few
  have f3 : o3.length ≤ n := g3.few
  refine ⟨_, _, keep_loop (fun o ho => ?_), rfl, rfl, by simp, by simp, fun k hk => ?_⟩
  · simp only [List.mem_cons, List.mem_nil_iff, or_false] at ho
    rcases ho with rfl | rfl | rfl | rfl <;> omega
  · rcases (by omega : k = 0 ∨ k = 1 ∨ k = 2 ∨ k = 3) with rfl | rfl | rfl | rfl
    · exact g0.flush h3 _
    · exact g1.flush h3 _
    · exact g2.flush h3 _
    · exact g3.flush h3 _
theorem Gd.write {m c : KM} {kp : List (List UInt8)} {op : List (List (List UInt8))} {n q : Nat} (h : Gd m c kp op n) (hq : q < 4) {s : List UInt8} (hs : s.length ≤ 40) : Gd m (c ++ [((q : Int), whole s)]) kp (op.set q (op.getD q default ++ [s])) (n + 1) := by
  obtain ⟨h1, h2, h3, h4, h5⟩ := h
  refine ⟨h1, by simp [h2], ?_, by simp; omega, fun k hk => ?_⟩
  · intro w hw
    rcases List.mem_append.1 hw with g | g
    · exact h3 w g
    · rw [List.mem_singleton.1 g]; exact whole_len s
  · by_cases e : k = q
    · subst e
      have : (op.set k (op.getD k default ++ [s])).getD k default = op.getD k default ++ [s] := by
        rw [List.getD, List.getElem?_set_self (by omega)]; rfl
      rw [this]; exact (h5 k hk).write hs
    · have : (op.set q (op.getD q default ++ [s])).getD k default = op.getD k default := by
        rw [List.getD, List.getElem?_set_ne (by omega)]; rfl
      rw [this]; exact (h5 k hk).other (by omega) _
abbrev KS := Int × KM × KM × Bool × Int × Int × Int × Int × Int × List (List UInt8) × List (List (List UInt8))
theorem keeps_end {m c : KM} {kp : List (List UInt8)} {op : List (List (List UInt8))} {n : Nat} (h : Gd m c kp op n) (hn : n ≤ 100) (l : Ls) : law3_DiskKeeps.k1 l (4, m, c, false, 0, 0, 0, 0, 0, kp, op) = some true := by
  obtain ⟨h1, h2, h3, h4, h5⟩ := h
  unfold law3_DiskKeeps.k1
  simp only []
  rw [Cut_is ⟨h3, by omega⟩]
  simp only [Option.bind_some, Restart_is]
  have : loop (law3_DiskKeeps.st1 (4, false, IntKind.i64.wrap (0 + 1), 0, 0, 0, 0) ((4, true, IntKind.i64.wrap (0 + 1), 0, 0, 0, 0), cutM l 0 m c, []) (4, m, c, false, 0, 0, 0, 0, 0, kp, op)) ((0 : Nat) : Int) = some (.inr ()) := by
    refine loop_up (fun k : Nat => (k : Int)) 4 (fun k hk => ?_) (by unfold law3_DiskKeeps.st1; simp)
    unfold law3_DiskKeeps.st1
    rw [ite_dt (by omega), Read_is _ (by simp) (by omega)]
    simp only [Option.bind_some, rd_nil, Int.toNat_natCast, Nat.zero_add, Nat.mul_one, decide_true, if_true]
    have hl : (blk (cutM l 0 m c) k).length = 8192 := whole_len _
    rw [ite_dt (by omega), chk_true (by omega), chk_true (by omega), chk_true (by omega), chk_true (by omega), (h5 k hk).could (by omega) h3]
    simp only [Option.bind_some]
    unfold law3_DiskKeeps.k3
    simp only [Bool.not_true, Bool.false_eq_true, if_false]
    rw [i64_id (by omega)]; rfl
  refine (congrArg (fun x => Option.bind x _) this).trans ?_
  simp [law3_DiskKeeps.k2, told_is]
theorem keeps_is (l0 : List Act3) (l : Ls) : law3_DiskKeeps.impl l0 l = some true := by
  unfold law3_DiskKeeps.impl
  rw [New_is (by omega)]
  simp only [Option.bind_some]
  simp only [decide_true, Bool.not_true, Bool.false_eq_true, if_false]
  let I : (Int × KM × KM × Bool × Int × Int × Int × Int × Int × List (List UInt8) × List (List (List UInt8)) × Int) → Prop := fun s => ∃ m c kp op, ∃ i : Nat, s = (4, m, c, false, 0, 0, 0, 0, 0, kp, op, (i : Int)) ∧ i ≤ 30 ∧ Gd m c kp op i
  have key := loop_inv (step := law3_DiskKeeps.st2 l0) (I := I) (Q := fun r => ∃ m c kp op, ∃ i : Nat, r = .inr (4, m, c, false, 0, 0, 0, 0, 0, kp, op) ∧ i ≤ 30 ∧ Gd m c kp op i) (fun s => 30 - s.2.2.2.2.2.2.2.2.2.2.2.toNat) (by
    rintro s ⟨m, c, kp, op, i, rfl, hi, hG⟩
    obtain ⟨h1, h2, h3, h4, h5⟩ := hG
    have hG : Gd m c kp op i := ⟨h1, h2, h3, h4, h5⟩
    have stop : law3_DiskKeeps.k4 (4, m, c, false, 0, 0, 0, 0, 0, kp, op, (i : Int)) l0 false = some (.inr (.inr (4, m, c, false, 0, 0, 0, 0, 0, kp, op))) := by unfold law3_DiskKeeps.k4; simp
    unfold law3_DiskKeeps.st2
    simp only []
    by_cases g : (i : Int) < l0.length
    · rw [ite_dt g]
      by_cases g2 : (i : Int) < 30
      · right
        have hw : IntKind.i64.wrap ((i : Int) + 1) = ((i + 1 : Nat) : Int) := i64_id (by omega)
        by_cases hk : (l0.getD i default).1 = 1
        · obtain ⟨kp', op', hlp, hG'⟩ := hG.flush (by omega)
          refine ⟨(4, flushM m c, [], false, 0, 0, 0, 0, 0, kp', op', ((i + 1 : Nat) : Int)), ?_, ⟨_, _, _, _, i + 1, rfl, by omega, hG'⟩, by simp; omega⟩
          unfold law3_DiskKeeps.k4
          rw [ite_dt g2]
          simp only [Int.toNat_natCast]
          rw [chk_true (by omega), ite_dt hk, Flush_is ⟨h3, by omega⟩]
          simp only [Option.bind_some, decide_true, Bool.not_true, Bool.false_eq_true, if_false, hlp]
          unfold law3_DiskKeeps.k7 law3_DiskKeeps.k5
          simp only [hw]
        · obtain ⟨q, hq4, hq⟩ := at3 (l0.getD i default).2.1
          have hB : ((l0.getD i default).2.2.2.1.take 40).length ≤ 40 := by simp; omega
          have hG' := hG.write hq4 hB
          have hf := (h5 q hq4).few
          refine ⟨(4, m, c ++ [((q : Int), whole ((l0.getD i default).2.2.2.1.take 40))], false, 0, 0, 0, 0, 0, kp, op.set q (op.getD q default ++ [(l0.getD i default).2.2.2.1.take 40]), ((i + 1 : Nat) : Int)), ?_, ⟨_, _, _, _, i + 1, rfl, by omega, hG'⟩, by simp; omega⟩
          unfold law3_DiskKeeps.k4
          rw [ite_dt g2]
          simp only [Int.toNat_natCast]
          rw [chk_true (by omega), ite_df hk]
          unfold law3_DiskKeeps.k6
          simp only [Int.toNat_natCast, hq, cut40, Nat.zero_add, Nat.mul_one]
          rw [chk_true (by omega), Write_is (by omega) (by omega) (by omega)]
          simp only [Option.bind_some, decide_true, Bool.not_true, Bool.false_eq_true, if_false]
          rw [chk_true (by omega), chk_true (by omega), chk_true (by simp only [List.length_singleton]; omega), chk_true (by omega), chk_true (by omega)]
          unfold law3_DiskKeeps.k5
          simp only [hw]
      · left; rw [show decide ((i : Int) < 30) = false by simpa using g2]; exact ⟨_, stop, m, c, kp, op, i, rfl, hi, hG⟩
    · left; rw [ite_df g]; exact ⟨_, stop, m, c, kp, op, i, rfl, hi, hG⟩)
  obtain ⟨r, h1, m, c, kp, op, i, rfl, hi, hG⟩ := key (4, [], [], false, 0, 0, 0, 0, 0, List.replicate 4 [], List.replicate 4 [], 0) ⟨[], [], List.replicate 4 [], List.replicate 4 [], 0, rfl, by omega, rfl, rfl, by simp, by simp, fun k hk => by
    rcases (by omega : k = 0 ∨ k = 1 ∨ k = 2 ∨ k = 3) with rfl | rfl | rfl | rfl <;> exact ⟨by decide, blk_nil _, rfl, by simp [List.getD], by simp [List.getD]⟩⟩
  rw [h1]
  exact keeps_end hG (by omega) l
end Go.Proofs.Ytfdogeebkbaadaa
