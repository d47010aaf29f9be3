/- A disk and the document's one, side by side, in plain terms. -/
import Derived.Test.YtfdogeebkbaadaaDkUL
import Derived.Test.YtfdogeebkbaadaaRef
set_option linter.unusedVariables false
set_option linter.unusedSimpArgs false
set_option linter.unusedSectionVars false
namespace Go.Proofs.Ytfdogeebkbaadaa
open Go Go.RowKit
theorem lay_step {a z : List UInt8} {i : Nat} (hi : i < a.length) (hz : i < z.length) : (a.take i ++ z.drop i).set i (a.getD i default) = a.take (i + 1) ++ z.drop (i + 1) := by
  have h1 : (a.take i).length = i := by simp; omega
  have h2 : a.getD i default = a[i] := by simp [List.getD, hi]
  rw [List.set_append_right _ _ (show (a.take i).length ≤ i by omega), h1, Nat.sub_self, List.drop_eq_getElem_cons hz, List.take_succ_eq_append_getElem hi, h2, List.set_cons_zero, List.append_assoc, List.singleton_append]
theorem full_is {b : List UInt8} (h : b.length ≤ 8192) : ref3_full.impl b = some (whole b) := by
  unfold ref3_full.impl
  rw [chk_true (by decide)]
  have h8 : (8192 : Int).toNat = 8192 := rfl
  rw [h8]
  have hzl : (List.replicate 8192 (0 : UInt8)).length = 8192 := List.length_replicate
  have hzd : (List.replicate 8192 (0 : UInt8)).drop b.length = List.replicate (8192 - b.length) 0 := List.drop_replicate ..
  generalize List.replicate 8192 (0 : UInt8) = z at hzl hzd ⊢
  have := loop_up (step := ref3_full.st1 b) (fun i : Nat => (b.take i ++ z.drop i, (i : Int))) b.length (fun i hi => by
    unfold ref3_full.st1
    simp only [Int.toNat_natCast]
    rw [ite_dt (by omega), chk_true (by omega), chk_true (by rw [List.length_append, List.length_take, List.length_drop]; omega), lay_step hi (by omega), i64_id (by omega)]; rfl) (r := whole b) (by
    unfold ref3_full.st1
    simp only []
    rw [ite_df (by omega)]
    unfold whole
    rw [List.take_of_length_le h, List.take_of_length_le (Nat.le_refl _), hzd])
  rw [List.take_zero, List.drop_zero, List.nil_append] at this
  rw [show ((0 : Int)) = ((0 : Nat) : Int) from rfl, this]; rfl
abbrev KR := List (List UInt8)
abbrev RRt := Bool × Int × Int × Int × Int × Int
/-- What a disk and the document's disk have in common. -/
structure Rel (b : Int) (m : KM) (K : KR) : Prop where
  len : (K.length : Int) = b
  blk : ∀ k : Nat, k < K.length → blk m k = whole (K.getD k default)
  le : ∀ k : Nat, k < K.length → (K.getD k default).length ≤ 8192
theorem Rel.set {b : Int} {m : KM} {K : KR} (h : Rel b m K) {q : Nat} (hq : (q : Int) < b) {v : List UInt8} (hv : v.length = 8192) : Rel b (mset m (q : Int) v) (K.set q v) := by
  have hl := h.len
  have hg : ∀ k, k < K.length → (K.set q v).getD k default = if k = q then v else K.getD k default := fun k hk => by
    by_cases e : k = q
    · subst e; rw [if_pos rfl, List.getD, List.getElem?_set_self hk]; rfl
    · rw [if_neg e, List.getD, List.getElem?_set_ne (by omega)]; rfl
  refine ⟨by rw [List.length_set]; exact hl, fun k hk => ?_, fun k hk => ?_⟩
  · rw [List.length_set] at hk
    rw [hg k hk]
    show whole ((mget (mset m (q : Int) v) (k : Int)).getD []) = _
    rw [mget_mset]
    by_cases e : k = q
    · rw [if_pos (by omega), if_pos e]; rfl
    · rw [if_neg (by omega), if_neg e]; exact h.blk k hk
  · rw [List.length_set] at hk
    rw [hg k hk]
    split
    · omega
    · exact h.le k hk
structure Inv (b : Int) (m c : KM) (K : KR) : Prop where
  small : b ≤ 4096
  full : ∀ w ∈ c, w.2.length = 8192
  ats : ∀ w ∈ c, 0 ≤ w.1 ∧ w.1 < b
  rel : Rel b m K
def lose1 (l : Ls) (i : Nat) (K : KR) (w : Int × List UInt8) : KR := if fateV l i = 2 then K.set w.1.toNat w.2 else if fateV l i = 1 then K.set w.1.toNat (w.2.take (cutN l) ++ (whole (K.getD w.1.toNat default)).drop (cutN l)) else K
def loseM (l : Ls) : Nat → KR → KM → KR
  | _, K, [] => K
  | i, K, w :: r => loseM l (i + 1) (lose1 l i K w) r
theorem lose1_rel {b : Int} {m : KM} {K : KR} (h : Rel b m K) {w : Int × List UInt8} (hw : w.2.length = 8192) (ha : 0 ≤ w.1 ∧ w.1 < b) (l : Ls) (i : Nat) : Rel b (cut1 l i m w) (lose1 l i K w) := by
  obtain ⟨a, bs⟩ := w
  obtain ⟨q, rfl⟩ := Int.eq_ofNat_of_zero_le ha.1
  have hb : (blk m (q : Int)).length = 8192 := whole_len _
  have hn := cutN_le l
  simp only [] at hw ha
  unfold cut1 lose1 over
  simp only [Int.toNat_natCast]
  by_cases h2 : fateV l i = 2
  · rw [if_pos h2, if_pos h2]
    have : bs.take 8192 ++ (blk m (q : Int)).drop 8192 = bs := by rw [List.take_of_length_le (by omega), List.drop_of_length_le (by omega), List.append_nil]
    rw [this]; exact h.set ha.2 hw
  · rw [if_neg h2, if_neg h2]
    by_cases h1 : fateV l i = 1
    · rw [if_pos h1, if_pos h1, ← h.blk q (by have := h.len; omega)]
      exact h.set ha.2 (by simp [hw, hb]; omega)
    · rw [if_neg h1, if_neg h1]; exact h
theorem loseM_rel {b : Int} (l : Ls) : ∀ {c : KM} {m : KM} {K : KR} (i : Nat), Rel b m K → (∀ w ∈ c, w.2.length = 8192) → (∀ w ∈ c, 0 ≤ w.1 ∧ w.1 < b) → Rel b (cutM l i m c) (loseM l i K c)
  | [], _, _, _, h, _, _ => h
  | w :: r, _, _, i, h, h1, h2 => loseM_rel l (i + 1) (lose1_rel h (h1 w (by simp)) (h2 w (by simp)) l i) (fun v hv => h1 v (by simp [hv])) fun v hv => h2 v (by simp [hv])
theorem lose1_len (l : Ls) (i : Nat) (K : KR) (w : Int × List UInt8) : (lose1 l i K w).length = K.length := by
  unfold lose1
  split
  · exact List.length_set ..
  · split
    · exact List.length_set ..
    · rfl
theorem lose_copy {a1 : Ls} {c : KM} {i : Nat} (hi : i < c.length) (hw : c[i].2.length = 8192) {K : KR} {z : List UInt8} (hz : z.length = 8192) : loop (ref3_Disk_lose.st2 a1 c (K, (i : Int))) (z, 0) = some (c[i].2.take (cutN a1) ++ z.drop (cutN a1)) := by
  have hd : c.getD i default = c[i] := by simp [List.getD, hi]
  have hn := cutN_le a1
  have := loop_up (step := ref3_Disk_lose.st2 a1 c (K, (i : Int))) (fun k : Nat => (c[i].2.take k ++ z.drop k, (k : Int))) (cutN a1) (fun k hk => by
    unfold ref3_Disk_lose.st2
    simp only [Int.toNat_natCast, hd, cutN_is]
    rw [ite_dt (by omega), chk_true (by omega), chk_true (by simp; omega), lay_step (by omega) (by omega), i64_id (by omega)]; rfl) (r := c[i].2.take (cutN a1) ++ z.drop (cutN a1)) (by
    unfold ref3_Disk_lose.st2
    simp only [cutN_is]
    rw [ite_df (by omega)])
  rw [List.take_zero, List.drop_zero, List.nil_append] at this
  exact this
theorem lose_step {b : Int} {c : KM} (hf : ∀ w ∈ c, w.2.length = 8192) (ha : ∀ w ∈ c, 0 ≤ w.1 ∧ w.1 < b) (hc : c.length ≤ 1000000) (l : Ls) {K : KR} (hK : (K.length : Int) = b) (hle : ∀ k : Nat, k < K.length → (K.getD k default).length ≤ 8192) (i : Nat) (hi : i < c.length) :
    ref3_Disk_lose.st1 c l (K, (i : Int)) = some (.inl (lose1 l i K c[i], ((i + 1 : Nat) : Int))) := by
  have hw : (IntKind.i64.wrap ((i : Int) + 1)) = ((i + 1 : Nat) : Int) := i64_id (by omega)
  have hd : c.getD i default = c[i] := by simp [List.getD, hi]
  have hl := hf _ (List.getElem_mem hi)
  have hat := ha _ (List.getElem_mem hi)
  have hm : IntKind.u64.wrap (Int.tmod (i : Int) 64) = Int.tmod (i : Int) 64 := by
    have : Int.tmod (i : Int) 64 = ((i % 64 : Nat) : Int) := by rw [Int.tmod_eq_emod_of_nonneg (by omega)]; omega
    rw [this, u64_id (by omega)]
  unfold ref3_Disk_lose.st1
  simp only [Int.toNat_natCast, hd, hm]
  rw [ite_dt (by omega), chk_true (by omega)]
  unfold lose1 fateV
  by_cases h1 : (i : Int) = l.2.2.1
  · rw [ite_dt h1, if_pos h1, chk_true (by omega), full_is (hle _ (by omega))]
    simp only [Option.bind_some]
    rw [lose_copy hi hl (whole_len _)]
    simp only [Option.bind_some]
    unfold ref3_Disk_lose.k3
    simp only [Int.toNat_natCast, hd]
    rw [chk_true (by omega)]
    unfold ref3_Disk_lose.k2
    rw [hw]; simp
  · rw [ite_df h1, if_neg h1]
    by_cases h2 : bitsOf .and .u64 (shrI .u64 l.2.1 (Int.tmod (i : Int) 64)) 1 = 1
    · rw [ite_dt h2, if_pos h2, chk_true (by omega)]
      unfold ref3_Disk_lose.k2
      rw [hw]; simp
    · rw [ite_df h2, if_neg h2]
      unfold ref3_Disk_lose.k2
      rw [hw]; simp
theorem lose1_le {l : Ls} {i : Nat} {K : KR} {w : Int × List UInt8} (hw : w.2.length = 8192) (hle : ∀ k : Nat, k < K.length → (K.getD k default).length ≤ 8192) : ∀ k : Nat, k < (lose1 l i K w).length → ((lose1 l i K w).getD k default).length ≤ 8192 := by
  intro k hk
  rw [lose1_len] at hk
  have hn := cutN_le l
  have key : ∀ v : List UInt8, v.length = 8192 → ((K.set w.1.toNat v).getD k default).length ≤ 8192 := fun v hv => by
    by_cases e : k = w.1.toNat
    · subst e; rw [List.getD, List.getElem?_set_self hk]; simp [hv]
    · have : (K.set w.1.toNat v).getD k default = K.getD k default := by rw [List.getD, List.getElem?_set_ne (by omega)]; rfl
      rw [this]; exact hle k hk
  unfold lose1
  split
  · exact key _ hw
  · split
    · exact key _ (by rw [List.length_append, List.length_take, List.length_drop, hw, whole_len]; omega)
    · exact hle k hk
theorem lose_loop {b : Int} {c : KM} (hf : ∀ w ∈ c, w.2.length = 8192) (ha : ∀ w ∈ c, 0 ≤ w.1 ∧ w.1 < b) (hc : c.length ≤ 1000000) (l : Ls) : ∀ (r : KM) (i : Nat) (K : KR), c.drop i = r → i ≤ c.length → (K.length : Int) = b → (∀ k : Nat, k < K.length → (K.getD k default).length ≤ 8192) → loop (ref3_Disk_lose.st1 c l) (K, (i : Int)) = some (loseM l i K r)
  | [], i, K, h, hi, _, _ => by
    have : c.length ≤ i := by simpa using h
    exact loop_last (by unfold ref3_Disk_lose.st1; simp only []; rw [ite_df (by omega)]; rfl)
  | w :: r, i, K, h, hi, hK, hle => by
    have hl : i < c.length := by
      by_cases g : i < c.length
      · exact g
      · rw [List.drop_of_length_le (by omega)] at h; cases h
    have hw : c[i] = w ∧ c.drop (i + 1) = r := by
      rw [List.drop_eq_getElem_cons hl] at h; exact ⟨(List.cons.inj h).1, (List.cons.inj h).2⟩
    have hfw := hf _ (List.getElem_mem hl)
    rw [loop_more (lose_step hf ha hc l hK hle i hl)]
    have := lose_loop hf ha hc l r (i + 1) (lose1 l i K c[i]) hw.2 hl (by rw [lose1_len]; exact hK) (lose1_le hfw hle)
    rw [this, hw.1]; rfl
theorem flush_rel {b : Int} : ∀ {c : KM} {m : KM} {K : KR}, Rel b m K → (∀ w ∈ c, w.2.length = 8192) → (∀ w ∈ c, 0 ≤ w.1 ∧ w.1 < b) → Rel b (flushM m c) (c.foldl (fun K w => K.set w.1.toNat w.2) K)
  | [], _, _, h, _, _ => h
  | w :: r, m, K, h, h1, h2 => by
    have hw := h1 w (by simp)
    have ha := h2 w (by simp)
    refine flush_rel (c := r) (m := over m w 8192) (K := K.set w.1.toNat w.2) ?_ (fun v hv => h1 v (by simp [hv])) fun v hv => h2 v (by simp [hv])
    obtain ⟨a, bs⟩ := w
    obtain ⟨q, rfl⟩ := Int.eq_ofNat_of_zero_le ha.1
    have hb : (blk m (q : Int)).length = 8192 := whole_len _
    simp only [] at hw ha
    unfold over
    simp only [Int.toNat_natCast]
    have : bs.take 8192 ++ (blk m (q : Int)).drop 8192 = bs := by rw [List.take_of_length_le (by omega), List.drop_of_length_le (by omega), List.append_nil]
    rw [this]; exact h.set ha.2 hw
theorem rflush_loop {b : Int} {c : KM} (hcl : c.length ≤ 1000000) (ha : ∀ w ∈ c, 0 ≤ w.1 ∧ w.1 < b) (s : KR × KM × Bool × Int × Int × Int × Int × Int × Bool) (hs : s.2.1 = c) : ∀ (r : KM) (i : Nat) (K : KR), c.drop i = r → i ≤ c.length → (K.length : Int) = b → loop (ref3_Disk_Flush.st1 s) (K, (i : Int)) = some (r.foldl (fun K w => K.set w.1.toNat w.2) K)
  | [], i, K, h, hi, _ => by
    have : c.length ≤ i := by simpa using h
    exact loop_last (by unfold ref3_Disk_Flush.st1; simp only [hs]; rw [ite_df (by omega)]; rfl)
  | w :: r, i, K, h, hi, hK => by
    have hl : i < c.length := by
      by_cases g : i < c.length
      · exact g
      · rw [List.drop_of_length_le (by omega)] at h; cases h
    have hw : c[i] = w ∧ c.drop (i + 1) = r := by
      rw [List.drop_eq_getElem_cons hl] at h; exact ⟨(List.cons.inj h).1, (List.cons.inj h).2⟩
    have hat := ha _ (List.getElem_mem hl)
    have hd : c.getD i default = c[i] := by simp [List.getD, hl]
    have hst : ref3_Disk_Flush.st1 s (K, (i : Int)) = some (.inl (K.set w.1.toNat w.2, ((i + 1 : Nat) : Int))) := by
      unfold ref3_Disk_Flush.st1
      simp only [hs, Int.toNat_natCast, hd]
      rw [ite_dt (by omega), chk_true (by omega), chk_true (by omega), chk_true (by omega), i64_id (by omega), hw.1]; rfl
    rw [loop_more hst, rflush_loop hcl ha s hs r (i + 1) _ hw.2 hl (by rw [List.length_set]; exact hK)]; rfl
def lastB (c : KM) (q : Int) (d : List UInt8) (i : Nat) : List UInt8 := match (c.take i).reverse.find? (fun w => decide (w.1 = q)) with | some w => w.2 | none => d
theorem lastB_pos {c : KM} {q : Int} {d : List UInt8} {i : Nat} (hi : i < c.length) (e : c[i].1 = q) : lastB c q d (i + 1) = c[i].2 := by
  unfold lastB
  rw [List.take_succ_eq_append_getElem hi, List.reverse_append, List.reverse_singleton, List.singleton_append, List.find?_cons_of_pos (by simpa using e)]
theorem lastB_neg {c : KM} {q : Int} {d : List UInt8} {i : Nat} (hi : i < c.length) (e : c[i].1 ≠ q) : lastB c q d (i + 1) = lastB c q d i := by
  unfold lastB
  rw [List.take_succ_eq_append_getElem hi, List.reverse_append, List.reverse_singleton, List.singleton_append, List.find?_cons_of_neg (by simpa using e)]
theorem rread_loop {c : KM} (hc : c.length ≤ 1000) (q : Int) (d : List UInt8) : loop (ref3_Disk_Read.st1 c q) (d, 0) = some (lastB c q d c.length) := by
  have := loop_up (step := ref3_Disk_Read.st1 c q) (fun i : Nat => (lastB c q d i, (i : Int))) c.length (fun i hi => by
    have hd : c.getD i default = c[i] := by simp [List.getD, hi]
    have hw : (IntKind.i64.wrap ((i : Int) + 1)) = ((i + 1 : Nat) : Int) := i64_id (by omega)
    unfold ref3_Disk_Read.st1 ref3_Disk_Read.k3
    simp only [Int.toNat_natCast, hd, hw]
    rw [ite_dt (by omega), chk_true (by omega)]
    by_cases e : c[i].1 = q
    · rw [ite_dt e, chk_true (by omega), lastB_pos hi e]
    · rw [ite_df e, lastB_neg hi e]) (r := lastB c q d c.length) (by
    unfold ref3_Disk_Read.st1
    simp only []
    rw [ite_df (by omega)])
  exact this
section
variable {b : Int} {m c : KM} {K : KR} (h : Inv b m c K) (hc : c.length ≤ 1000)
include h hc
theorem lose_is (dn : Bool) (af kp tn ct lf : Int) (l : Ls) : ref3_Disk_lose.impl (dn, af, kp, tn, ct, lf) K c l = some ((true, 0, 0, 0, 0, IntKind.i64.wrap (lf + 1)), loseM l 0 K c, []) := by
  unfold ref3_Disk_lose.impl
  have := lose_loop h.full h.ats (by omega) l c 0 K rfl (by omega) h.rel.len h.rel.le
  rw [show ((0 : Int)) = ((0 : Nat) : Int) from rfl, this]; rfl
theorem cut_inv (l : Ls) : Inv b (cutM l 0 m c) [] (loseM l 0 K c) := ⟨h.small, by simp, by simp, loseM_rel l 0 h.rel h.full h.ats⟩
theorem strikes_both (lf af kp tn ct : Int) : ∃ r dn' lf' af' kp' tn' ct' m' c' K', disk_Disk_strikes.impl (b, false, lf, af, kp, tn, ct) m c = some (r, (b, dn', lf', af', kp', tn', ct'), m', c') ∧ ref3_Disk_now.impl (false, af, kp, tn, ct, lf) K c = some (r, (dn', af', kp', tn', ct', lf'), K', c') ∧ Inv b m' c' K' ∧ c'.length ≤ c.length ∧ (r = false → dn' = false) := by
  have hF : Fulls c := ⟨h.full, by omega⟩
  unfold disk_Disk_strikes.impl ref3_Disk_now.impl
  simp only []
  by_cases h1 : af < 1
  · rw [ite_dt h1, ite_dt h1]
    exact ⟨_, _, _, _, _, _, _, _, _, _, rfl, rfl, h, Nat.le_refl _, fun _ => rfl⟩
  · rw [ite_df h1, ite_df h1]
    by_cases h2 : (0 : Int) < IntKind.i64.wrap (af - 1)
    · rw [ite_dt h2, ite_dt h2]
      exact ⟨_, _, _, _, _, _, _, _, _, _, rfl, rfl, h, Nat.le_refl _, fun _ => rfl⟩
    · rw [ite_df h2, ite_df h2, Cut_is hF, lose_is h hc]
      exact ⟨_, _, _, _, _, _, _, _, _, _, rfl, rfl, cut_inv h hc _, by simp, by simp⟩
theorem write_both (dn : Bool) (lf af kp tn ct : Int) (q : Int) (l : List UInt8) : ∃ r dn' lf' af' kp' tn' ct' m' c' K', disk_Disk_Write.impl (b, dn, lf, af, kp, tn, ct) m c q l = some (r, (b, dn', lf', af', kp', tn', ct'), m', c') ∧ ref3_Disk_Write.impl (dn, af, kp, tn, ct, lf) K c q l = some (r, (dn', af', kp', tn', ct', lf'), K', c') ∧ Inv b m' c' K' ∧ c'.length ≤ c.length + 1 := by
  have hlen := h.rel.len
  unfold disk_Disk_Write.impl ref3_Disk_Write.impl
  simp only [hlen]
  cases dn with
  | true => exact ⟨_, _, _, _, _, _, _, _, _, _, rfl, rfl, h, by omega⟩
  | false =>
    simp only [Bool.false_eq_true, if_false]
    have bad : ∃ r dn' lf' af' kp' tn' ct' m' c' K', disk_Disk_Write.k1 (b, false, lf, af, kp, tn, ct) m c l q true = some (r, (b, dn', lf', af', kp', tn', ct'), m', c') ∧ ref3_Disk_Write.k1 (false, af, kp, tn, ct, lf) K c l q true = some (r, (dn', af', kp', tn', ct', lf'), K', c') ∧ Inv b m' c' K' ∧ c'.length ≤ c.length + 1 :=
      ⟨_, _, _, _, _, _, _, _, _, _, rfl, rfl, h, by omega⟩
    by_cases h1 : q < 0
    · rw [ite_dt h1, ite_dt h1]; exact bad
    · rw [ite_df h1, ite_df h1]
      by_cases h2 : b ≤ q
      · rw [ite_dt h2, ite_dt h2]; exact bad
      · rw [ite_df h2, ite_df h2]
        by_cases h3 : (8192 : Int) < (l.length : Int)
        · rw [show decide ((8192 : Int) < (l.length : Int)) = true by simpa using h3]; exact bad
        · rw [show decide ((8192 : Int) < (l.length : Int)) = false by simpa using h3]
          unfold disk_Disk_Write.k1 ref3_Disk_Write.k1
          simp only [Bool.false_eq_true, if_false]
          obtain ⟨r, dn', lf', af', kp', tn', ct', m', c', K', e1, e2, hI, hl, hd⟩ := strikes_both h hc lf af kp tn ct
          rw [e1, e2]
          simp only [Option.bind_some]
          cases r with
          | true => exact ⟨_, _, _, _, _, _, _, _, _, _, rfl, rfl, hI, by omega⟩
          | false =>
            simp only [Bool.false_eq_true, if_false]
            rw [whole_is, full_is (by omega)]
            simp only [Option.bind_some]
            rw [chk_true (by omega), chk_true (by omega)]
            refine ⟨_, _, _, _, _, _, _, _, _, _, rfl, rfl, ⟨hI.small, fun w hw => ?_, fun w hw => ?_, hI.rel⟩, by simp; omega⟩
            · rcases List.mem_append.1 hw with g | g
              · exact hI.full w g
              · rw [List.mem_singleton.1 g]; exact whole_len l
            · rcases List.mem_append.1 hw with g | g
              · exact hI.ats w g
              · rw [List.mem_singleton.1 g]; exact ⟨by omega, by omega⟩
theorem flush_both (dn : Bool) (lf af kp tn ct : Int) : ∃ r dn' lf' af' kp' tn' ct' m' c' K', disk_Disk_Flush.impl (b, dn, lf, af, kp, tn, ct) m c = some (r, (b, dn', lf', af', kp', tn', ct'), m', c') ∧ ref3_Disk_Flush.impl (dn, af, kp, tn, ct, lf) K c = some (r, (dn', af', kp', tn', ct', lf'), K', c') ∧ Inv b m' c' K' ∧ c'.length ≤ c.length := by
  unfold disk_Disk_Flush.impl ref3_Disk_Flush.impl
  simp only []
  cases dn with
  | true => exact ⟨_, _, _, _, _, _, _, _, _, _, rfl, rfl, h, Nat.le_refl _⟩
  | false =>
    simp only [Bool.false_eq_true, if_false]
    obtain ⟨r, dn', lf', af', kp', tn', ct', m', c', K', e1, e2, hI, hl, hd⟩ := strikes_both h hc lf af kp tn ct
    rw [e1, e2]
    simp only [Option.bind_some]
    unfold disk_Disk_Flush.k1 ref3_Disk_Flush.k1
    cases r with
    | true => exact ⟨_, _, _, _, _, _, _, _, _, _, rfl, rfl, hI, by omega⟩
    | false =>
      simp only [Bool.false_eq_true, if_false]
      have hF : Fulls c' := ⟨hI.full, by omega⟩
      have l1 := flush_loop hF (b, m', c', dn', lf', af', kp', tn', ct', false) rfl c' 0 m' rfl (by omega)
      have l2 := rflush_loop (b := b) (c := c') (by omega) hI.ats (K', c', dn', af', kp', tn', ct', lf', false) rfl c' 0 K' rfl (by omega) hI.rel.len
      rw [show ((0 : Int)) = ((0 : Nat) : Int) from rfl, l1, l2]
      exact ⟨_, _, _, _, _, _, _, _, _, _, rfl, rfl, ⟨hI.small, by simp, by simp, flush_rel hI.rel hI.full hI.ats⟩, by simp⟩
theorem cut_both (dn : Bool) (lf af kp tn ct : Int) (l : Ls) : ∃ dn' lf' af' kp' tn' ct' m' c' K', disk_Disk_Cut.impl (b, dn, lf, af, kp, tn, ct) m c l = some ((b, dn', lf', af', kp', tn', ct'), m', c') ∧ ref3_Disk_Cut.impl (dn, af, kp, tn, ct, lf) K c l = some ((dn', af', kp', tn', ct', lf'), K', c') ∧ Inv b m' c' K' ∧ c'.length ≤ c.length := by
  have hF : Fulls c := ⟨h.full, by omega⟩
  unfold ref3_Disk_Cut.impl
  cases dn with
  | true => rw [Cut_down]; exact ⟨_, _, _, _, _, _, _, _, _, rfl, rfl, h, by omega⟩
  | false =>
    rw [Cut_is hF]
    simp only [Bool.not_false, if_true]
    rw [lose_is h hc]
    exact ⟨_, _, _, _, _, _, _, _, _, rfl, rfl, cut_inv h hc _, by simp⟩
theorem read_both (dn : Bool) (lf af kp tn ct : Int) (q : Int) : ∃ r, disk_Disk_Read.impl (b, dn, lf, af, kp, tn, ct) m c q = some r ∧ ref3_Disk_Read.impl (dn, af, kp, tn, ct, lf) K c q = some r ∧ r.1.length ≤ 8192 := by
  have hlen := h.rel.len
  cases dn with
  | true => rw [Read_down]; exact ⟨_, rfl, by unfold ref3_Disk_Read.impl; simp, by simp⟩
  | false =>
    by_cases hq : 0 ≤ q ∧ q < b
    · obtain ⟨k, rfl⟩ := Int.eq_ofNat_of_zero_le hq.1
      refine ⟨_, Read_is c (by omega) hq lf af kp tn ct m, ?_, Nat.le_of_eq (rd_len _ _ _)⟩
      unfold ref3_Disk_Read.impl
      simp only [hlen, Bool.false_eq_true, if_false]
      rw [ite_df (by omega), show decide (b ≤ (k : Int)) = false by simpa using by omega]
      unfold ref3_Disk_Read.k1
      simp only [hlen, Bool.false_eq_true, if_false, Int.toNat_natCast]
      rw [chk_true (by omega), rread_loop hc]
      simp only [Option.bind_some]
      unfold ref3_Disk_Read.k2 lastB rd
      rw [List.take_length]
      cases hf : c.reverse.find? (fun w => decide (w.1 = (k : Int))) with
      | none =>
        simp only []
        rw [full_is (h.rel.le k (by omega)), h.rel.blk k (by omega)]; rfl
      | some w =>
        simp only []
        have := h.full w (List.mem_reverse.1 (List.mem_of_find?_eq_some hf))
        rw [full_is (by omega)]; rfl
    · have h1 : disk_Disk_Read.impl (b, false, lf, af, kp, tn, ct) m c q = some ([], 1) := by
        unfold disk_Disk_Read.impl
        simp only [Bool.false_eq_true, if_false]
        by_cases g : q < 0
        · rw [ite_dt g]; rfl
        · rw [ite_df g, show decide (b ≤ q) = true by simpa using by omega]; rfl
      refine ⟨_, h1, ?_, by simp⟩
      unfold ref3_Disk_Read.impl
      simp only [hlen, Bool.false_eq_true, if_false]
      by_cases g : q < 0
      · rw [ite_dt g]; rfl
      · rw [ite_df g, show decide (b ≤ q) = true by simpa using by omega]; rfl
theorem rflip_step (q : Int) (p : Nat) (hp : p < 65536) (i : Nat) (hi : i < c.length) : ref3_Disk_Flip.st1 q (p : Int) (mapTo (flipW q p) c i, (i : Int)) = some (.inl (mapTo (flipW q p) c (i + 1), ((i + 1 : Nat) : Int))) := by
  have hw : (IntKind.i64.wrap ((i : Int) + 1)) = ((i + 1 : Nat) : Int) := i64_id (by omega)
  have hl := h.full _ (List.getElem_mem hi)
  have hg := mapTo_get (flipW q p) c hi
  unfold ref3_Disk_Flip.st1 ref3_Disk_Flip.k3
  simp only [Int.toNat_natCast, hg, hw, div8 p (by omega), mod8, one_bit, u8x, mapTo_length]
  rw [ite_dt (by omega), chk_true (by omega)]
  by_cases e : c[i].1 = q
  · rw [ite_dt e, chk_true (by omega), chk_true (by omega), chk_true (by omega), chk_true (by omega)]
    have : flipW q p c[i] = (c[i].1, c[i].2.set (p / 8) (c[i].2.getD (p / 8) default ^^^ bit8 p)) := by unfold flipW flipB; rw [if_pos e]
    rw [← this, mapTo_set (flipW q p) c hi]
  · rw [ite_df e, mapTo_same (flipW q p) c hi (by unfold flipW; rw [if_neg e])]
theorem flip_both (dn : Bool) (lf af kp tn ct : Int) (q z : Int) : ∃ r m' c' K', disk_Disk_Flip.impl (b, dn, lf, af, kp, tn, ct) m c q z = some (r, m', c') ∧ ref3_Disk_Flip.impl (dn, af, kp, tn, ct, lf) K c q z = some (r, K', c') ∧ Inv b m' c' K' ∧ c'.length ≤ c.length := by
  have hlen := h.rel.len
  have hF : Fulls c := ⟨h.full, by omega⟩
  by_cases hq : (0 ≤ q ∧ q < b) ∧ 0 ≤ z ∧ z < 65536
  · obtain ⟨k, rfl⟩ := Int.eq_ofNat_of_zero_le hq.1.1
    obtain ⟨p, rfl⟩ := Int.eq_ofNat_of_zero_le hq.2.1
    have hb : (whole (K.getD k default)).length = 8192 := whole_len _
    refine ⟨_, _, _, K.set k (flipB (whole (K.getD k default)) p), Flip_is hF hq.1 (by omega) dn lf af kp tn ct m, ?_, ⟨h.small, fun w hw => ?_, fun w hw => ?_, ?_⟩, by simp [flipC]⟩
    · unfold ref3_Disk_Flip.impl
      simp only [hlen]
      rw [ite_df (by omega), ite_df (by omega), ite_df (by omega), show decide ((65535 : Int) < (p : Int)) = false by simpa using by omega]
      unfold ref3_Disk_Flip.k1
      simp only [hlen, Bool.false_eq_true, if_false, Int.toNat_natCast]
      rw [chk_true (by omega), full_is (h.rel.le k (by omega))]
      simp only [Option.bind_some, div8 p (by omega)]
      rw [chk_true (by omega), chk_true (by omega), chk_true (by omega)]
      have := loop_up (step := ref3_Disk_Flip.st1 (k : Int) (p : Int)) (fun i : Nat => (mapTo (flipW (k : Int) p) c i, (i : Int))) c.length (fun i hi => rflip_step h hc (k : Int) p (by omega) i hi) (r := mapTo (flipW (k : Int) p) c c.length) (by unfold ref3_Disk_Flip.st1; simp [mapTo_length])
      rw [mapTo_zero] at this
      rw [show ((0 : Int)) = ((0 : Nat) : Int) from rfl, this]
      unfold ref3_Disk_Flip.k2
      simp only [Option.bind_some, Int.toNat_natCast, div8 p (by omega), mod8, one_bit, u8x, mapTo_all, flipB, flipC]; rfl
    · exact (flipC_fulls hF (k : Int) p).1 w hw
    · obtain ⟨v, hv, rfl⟩ := List.mem_map.1 hw
      rw [flipW_1]; exact h.ats v hv
    · rw [h.rel.blk k (by omega)]
      exact h.rel.set hq.1.2 (by rw [flipB_len]; exact hb)
  · have h1 : disk_Disk_Flip.impl (b, dn, lf, af, kp, tn, ct) m c q z = some (1, m, c) := by
      have k1 : disk_Disk_Flip.k1 m c (b, dn, lf, af, kp, tn, ct) q z true = some (1, m, c) := by unfold disk_Disk_Flip.k1; rw [if_pos rfl]
      unfold disk_Disk_Flip.impl
      simp only []
      by_cases g1 : q < 0
      · rw [ite_dt g1]; exact k1
      · rw [ite_df g1]
        by_cases g2 : b ≤ q
        · rw [ite_dt g2]; exact k1
        · rw [ite_df g2]
          by_cases g3 : z < 0
          · rw [ite_dt g3]; exact k1
          · rw [ite_df g3, show decide ((65536 : Int) ≤ z) = true by simpa using by omega]; exact k1
    refine ⟨_, _, _, K, h1, ?_, h, Nat.le_refl _⟩
    have k1 : ref3_Disk_Flip.k1 K c q z true = some (1, K, c) := by unfold ref3_Disk_Flip.k1; rw [if_pos rfl]
    unfold ref3_Disk_Flip.impl
    simp only [hlen]
    by_cases g1 : q < 0
    · rw [ite_dt g1]; exact k1
    · rw [ite_df g1]
      by_cases g2 : b ≤ q
      · rw [ite_dt g2]; exact k1
      · rw [ite_df g2]
        by_cases g3 : z < 0
        · rw [ite_dt g3]; exact k1
        · rw [ite_df g3, show decide ((65535 : Int) < z) = true by simpa using by omega]; exact k1
theorem arm_both (dn : Bool) (lf af kp tn ct : Int) (l : Ls) : ∃ af' kp' tn' ct', disk_Disk_Arm.impl (b, dn, lf, af, kp, tn, ct) m c l = some (b, dn, lf, af', kp', tn', ct') ∧ ref3_Disk_Arm.impl (dn, af, kp, tn, ct, lf) K c l = some (dn, af', kp', tn', ct', lf) := by
  unfold disk_Disk_Arm.impl ref3_Disk_Arm.impl
  cases dn with
  | true => exact ⟨_, _, _, _, rfl, rfl⟩
  | false => exact ⟨_, _, _, _, rfl, rfl⟩
end
end Go.Proofs.Ytfdogeebkbaadaa
