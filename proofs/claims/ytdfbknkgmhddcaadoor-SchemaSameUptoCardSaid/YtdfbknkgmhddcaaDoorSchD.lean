/- Layer 14: the program's reader, and what bytes say as a schema. -/
import Derived.Test.YtdfbknkgmhddcaaDoorSchE
import Derived.Test.YtdfbknkgmhddcaaDoorRb
set_option linter.unusedVariables false
set_option linter.unusedSimpArgs false
namespace Go.Proofs.YtdfbknkgmhddcaaDoor
open Go Go.RowKit Go.Lib
/-- Where a reader stands: nowhere, if it is bad. -/
def rest (l : List UInt8) (p : Nat) (bad : Bool) : Option (List UInt8) := if bad = true then none else some (l.drop p)
/-- What a reader tells behind a step that reads by p; noth: what it tells if there is nothing. -/
structure Step {α : Type} (l : List UInt8) (p : Nat) (bad : Bool) (f : List UInt8 → Option (α × List UInt8)) (noth : α) (a : α) (p' : Nat) (bad' : Bool) : Prop where
  le : p' ≤ l.length
  eq : match (rest l p bad).bind f with
    | some q => a = q.1 ∧ bad' = false ∧ l.drop p' = q.2
    | none => a = noth ∧ bad' = true
theorem pMany_succ {α : Type} (p : List UInt8 → Option (α × List UInt8)) (n : Nat) (m : List UInt8) : pMany p (n + 1) m = (p m).bind fun a => (pMany p n a.2).bind fun l => some (a.1 :: l.1, l.2) := rfl
theorem pC_eq (m : List UInt8) : pC m = (pN m).bind fun a => (pB 3 a.2).bind fun k => (pB 8 k.2).bind fun x => some ((a.1, (k.1 : Int), (x.1 : Int)), x.2) := rfl
theorem pI_eq (m : List UInt8) : pI m = (pB 3 m).bind fun k => (pB 1 k.2).bind fun x => some (((k.1 : Int), decide ((x.1 : Int) = 1)), x.2) := rfl
theorem rest_ok {α : Type} (l : List UInt8) (p : Nat) (f : List UInt8 → Option α) : (rest l p false).bind f = f (l.drop p) := rfl
theorem rest_bad {α : Type} (l : List UInt8) (p : Nat) (f : List UInt8 → Option α) : (rest l p true).bind f = none := rfl
theorem Step.mkOk {α : Type} {l : List UInt8} {p p' : Nat} {f : List UInt8 → Option (α × List UInt8)} {noth a : α} {bad' : Bool} {q : α × List UInt8} (hle : p' ≤ l.length) (hf : f (l.drop p) = some q) (h : a = q.1 ∧ bad' = false ∧ l.drop p' = q.2) : Step l p false f noth a p' bad' := ⟨hle, by rw [rest_ok, hf]; exact h⟩
theorem Step.mkNo {α : Type} {l : List UInt8} {p p' : Nat} {f : List UInt8 → Option (α × List UInt8)} {noth a : α} {bad' : Bool} (hle : p' ≤ l.length) (hf : f (l.drop p) = none) (h : a = noth ∧ bad' = true) : Step l p false f noth a p' bad' := ⟨hle, by rw [rest_ok, hf]; exact h⟩
theorem Step.mkBad {α : Type} {l : List UInt8} {p p' : Nat} {f : List UInt8 → Option (α × List UInt8)} {noth a : α} {bad' : Bool} (hle : p' ≤ l.length) (h : a = noth ∧ bad' = true) : Step l p true f noth a p' bad' := ⟨hle, by rw [rest_bad]; exact h⟩
theorem rdu_big : ∀ (k v i : Nat) (l : List UInt8), 0 < i → 0 < v → (rdu k v i l).2.2 = 0 → 128 ≤ (rdu k v i l).1
  | 0, v, i, l, _, _, h => by simp [rdu] at h
  | k + 1, v, i, [], _, _, h => by simp [rdu] at h
  | k + 1, v, i, c :: l, hi, hv, h => by
    unfold rdu at h ⊢
    rw [if_neg (by omega)] at h ⊢
    by_cases g : c.toNat < 128
    · rw [if_pos g] at h ⊢
      simp only; omega
    · rw [if_neg g] at h ⊢
      exact rdu_big k _ _ l (by omega) (by omega) h
theorem rdu_cons (c : UInt8) (l : List UInt8) : rdu 9 0 0 (c :: l) = if c.toNat = 128 then (0, 0, 11) else if c.toNat < 128 then (c.toNat, 1, 0) else rdu 8 (c.toNat % 128) 1 l := by
  show (if 0 = 0 ∧ c.toNat = 128 then (0, 0, 11) else if c.toNat < 128 then (0 * 128 + c.toNat, 0 + 1, 0) else rdu 8 (0 * 128 + c.toNat % 128) (0 + 1) l) = _
  simp
/-- ReadBytes of at most eight bytes, from p on. -/
theorem rb8 {l : List UInt8} {p : Nat} (hp : p ≤ l.length) (hl : l.length ≤ 4194304) : ∃ (x : List UInt8) (q e : Int), wire_ReadBytes.impl l (p : Int) 8 = some (x, q, e) ∧ (match pN (l.drop p) with
    | some r => x = r.1 ∧ e = 0 ∧ ∃ k : Nat, q = (k : Int) ∧ k ≤ l.length ∧ l.drop k = r.2
    | none => e ≠ 0) := by
  have hr := ReadUint_in (l := l) (at_ := p) (by omega) hp
  by_cases hlt : p < l.length
  · have hd := drop1' hlt
    rw [hd, rdu_cons] at hr
    rw [hd, pN_cons]
    have hlen : (l.drop (p + 1)).length = l.length - (p + 1) := List.length_drop
    by_cases c1 : (l.getD p default).toNat = 128
    · rw [if_pos c1] at hr
      rw [if_neg (by omega)]
      exact ⟨_, _, _, rb_err hr (by decide), by simp only; decide⟩
    rw [if_neg c1] at hr
    by_cases c2 : (l.getD p default).toNat < 128
    · rw [if_pos c2] at hr
      have hr' : wire_ReadUint.impl l (p : Int) = some (((l.getD p default).toNat : Int), ((p + 1 : Nat) : Int), 0) := by rw [hr]; rfl
      by_cases g : (l.getD p default).toNat ≤ 8
      · by_cases g2 : (l.getD p default).toNat ≤ (l.drop (p + 1)).length
        · rw [if_pos ⟨g, g2⟩]
          refine ⟨_, _, _, rb_ok hr' (by omega) (by omega) (by omega) (by omega), rfl, rfl, _, rfl, by omega, ?_⟩
          rw [List.drop_drop]
        · rw [if_neg (fun h => g2 h.2)]
          exact ⟨_, _, _, rb_short hr' (by omega) (by omega) (by omega) (by omega), by simp only; decide⟩
      · rw [if_neg (fun h => g h.1)]
        exact ⟨_, _, _, rb_long hr' (by decide) (by omega), by simp only; decide⟩
    · rw [if_neg c2] at hr
      rw [if_neg (by omega)]
      by_cases h0 : (rdu 8 ((l.getD p default).toNat % 128) 1 (l.drop (p + 1))).2.2 = 0
      · have hb := rdu_big 8 ((l.getD p default).toNat % 128) 1 (l.drop (p + 1)) (by omega) (by have := (l.getD p default).toNat_lt; omega) h0
        unfold rdTo at hr
        rw [if_pos h0, h0] at hr
        exact ⟨_, _, _, rb_long hr (by decide) (by omega), by simp only; decide⟩
      · unfold rdTo at hr
        rw [if_neg h0] at hr
        exact ⟨_, _, _, rb_err hr (by omega), by simp only; omega⟩
  · rw [List.drop_of_length_le (by omega)] at hr ⊢
    exact ⟨_, _, _, rb_err hr (by decide), by show (10 : Int) ≠ 0; decide⟩
theorem rname_is {l : List UInt8} {p : Nat} {bad : Bool} (hp : p ≤ l.length) (hl : l.length ≤ 4194304) : ∃ (a : List UInt8) (p' : Nat) (bad' : Bool), schema_reader_name.impl (l, (p : Int), bad) = some (a, (l, (p' : Int), bad')) ∧ Step l p bad pN [] a p' bad' := by
  obtain ⟨x, q, e, h1, h2⟩ := rb8 hp hl
  unfold schema_reader_name.impl schema_reader_name.k1
  simp only
  rw [h1]
  simp only [Option.bind_some]
  cases bad with
  | true => exact ⟨[], p, true, rfl, Step.mkBad hp ⟨rfl, rfl⟩⟩
  | false =>
    simp only [Bool.false_eq_true, if_false]
    cases hn : pN (l.drop p) with
    | none =>
      rw [hn] at h2
      rw [ite_nf h2]
      exact ⟨[], p, true, rfl, Step.mkNo hp hn ⟨rfl, rfl⟩⟩
    | some r =>
      rw [hn] at h2
      obtain ⟨rfl, rfl, k, rfl, hk, hd⟩ := h2
      rw [ite_nt rfl]
      exact ⟨r.1, k, false, rfl, Step.mkOk hk hn ⟨rfl, rfl, hd⟩⟩
theorem rbyte_is {l : List UInt8} {p most : Nat} {bad : Bool} (hp : p ≤ l.length) (hl : l.length ≤ 4194304) (hm : most < 256) : ∃ (a p' : Nat) (bad' : Bool), schema_reader_byte.impl (l, (p : Int), bad) (most : Int) = some ((a : Int), (l, (p' : Int), bad')) ∧ Step l p bad (pB most) 0 a p' bad' := by
  have w1 : IntKind.i64.wrap ((p : Int) + 1) = ((p + 1 : Nat) : Int) := by rw [i64_id (by omega)]; omega
  have w2 : IntKind.i64.wrap (((p + 1 : Nat) : Int) - 1) = (p : Int) := by rw [i64_id (by omega)]; omega
  unfold schema_reader_byte.impl schema_reader_byte.k1
  simp only [w1, w2, Int.toNat_natCast]
  cases bad with
  | true => exact ⟨0, p, true, rfl, Step.mkBad hp ⟨rfl, rfl⟩⟩
  | false =>
    simp only [Bool.false_eq_true, if_false, if_true]
    by_cases hlt : p < l.length
    · have hb := (l.getD p default).toNat_lt
      have w3 : IntKind.i64.wrap ((l.getD p default).toNat : Int) = ((l.getD p default).toNat : Int) := i64_id (by omega)
      rw [ite_df (by omega), chk_pos (by omega)]
      simp only [w3]
      by_cases g : (l.getD p default).toNat ≤ most
      · rw [ite_df (by omega), chk_pos (by omega)]
        exact ⟨_, _, _, rfl, Step.mkOk (by omega) (by rw [drop1' hlt, pB_cons, if_pos g]) ⟨rfl, rfl, rfl⟩⟩
      · rw [ite_dt (by omega)]
        exact ⟨0, p, true, rfl, Step.mkNo hp (by rw [drop1' hlt, pB_cons, if_neg g]) ⟨rfl, rfl⟩⟩
    · rw [ite_dt (by omega)]
      exact ⟨0, p, true, rfl, Step.mkNo hp (by rw [List.drop_of_length_le (by omega)]; rfl) ⟨rfl, rfl⟩⟩
theorem Step.ok {α : Type} {l : List UInt8} {p p' : Nat} {f : List UInt8 → Option (α × List UInt8)} {noth a : α} {bad' : Bool} {q : α × List UInt8} (h : Step l p false f noth a p' bad') (hf : f (l.drop p) = some q) : a = q.1 ∧ bad' = false ∧ l.drop p' = q.2 := by
  have := h.eq
  unfold rest at this
  simp only [Bool.false_eq_true, if_false, Option.bind_some, hf] at this
  exact this
theorem Step.no {α : Type} {l : List UInt8} {p p' : Nat} {f : List UInt8 → Option (α × List UInt8)} {noth a : α} {bad' : Bool} (h : Step l p false f noth a p' bad') (hf : f (l.drop p) = none) : a = noth ∧ bad' = true := by
  have := h.eq
  unfold rest at this
  simp only [Bool.false_eq_true, if_false, Option.bind_some, hf] at this
  exact this
theorem Step.bad {α : Type} {l : List UInt8} {p p' : Nat} {f : List UInt8 → Option (α × List UInt8)} {noth a : α} {bad' : Bool} (h : Step l p true f noth a p' bad') : a = noth ∧ bad' = true := h.eq
/-- Behind a loop that reads so many: all of them, or bad. -/
def Many {α : Type} (l : List UInt8) (p : Nat) (bad : Bool) (f : List UInt8 → Option (α × List UInt8)) (n : Nat) (acc acc' : List α) (p' : Nat) (bad' : Bool) : Prop :=
  p' ≤ l.length ∧ match (rest l p bad).bind (pMany f n) with
    | some q => acc' = acc ++ q.1 ∧ bad' = false ∧ l.drop p' = q.2
    | none => bad' = true
theorem cols_loop {l : List UInt8} (hl : l.length ≤ 4194304) {k : Nat} (hk : k ≤ 3) {R : List UInt8 × Int × Bool} : ∀ (n i p : Nat) (bad : Bool) (acc : List Col), i + n = k → acc.length ≤ i → p ≤ l.length →
    ∃ (p' : Nat) (bad' : Bool) (acc' : List Col), loop (schema_Decode.st2 ((k : Int), R) l) ((p : Int), bad, acc, (i : Int)) = some ((p' : Int), bad', acc') ∧ Many l p bad pC n acc acc' p' bad'
  | 0, i, p, bad, acc, hi, ha, hp => by
    refine ⟨p, bad, acc, loop_last ?_, hp, ?_⟩
    · unfold schema_Decode.st2
      rw [ite_df (by simp only; omega)]
    · cases bad with
      | true => rfl
      | false => exact ⟨by simp, rfl, rfl⟩
  | n + 1, i, p, bad, acc, hi, ha, hp => by
    have w : IntKind.i64.wrap ((i : Int) + 1) = ((i + 1 : Nat) : Int) := by rw [i64_id (by omega)]; omega
    obtain ⟨a1, p1, b1, e1, s1⟩ := rname_is (bad := bad) hp hl
    obtain ⟨a2, p2, b2, e2, s2⟩ := rbyte_is (most := 3) (bad := b1) s1.le hl (by omega)
    obtain ⟨a3, p3, b3, e3, s3⟩ := rbyte_is (most := 8) (bad := b2) s2.le hl (by omega)
    have st : schema_Decode.st2 ((k : Int), R) l ((p : Int), bad, acc, (i : Int)) = some (.inl ((p3 : Int), b3, acc ++ [(a1, (a2 : Int), (a3 : Int))], ((i + 1 : Nat) : Int))) := by
      unfold schema_Decode.st2
      simp only [e1, Option.bind_some]
      erw [e2]
      simp only [Option.bind_some]
      erw [e3]
      simp only [Option.bind_some, w]
      rw [ite_dt (by omega), chk_pos (by simp; omega)]
    obtain ⟨p', b', acc', h1, h2, h3⟩ := cols_loop hl hk n (i + 1) p3 b3 (acc ++ [(a1, (a2 : Int), (a3 : Int))]) (by omega) (by simp; omega) s3.le
    refine ⟨p', b', acc', by rw [loop_more st]; exact h1, h2, ?_⟩
    cases bad with
    | true =>
      obtain ⟨_, rfl⟩ := s1.bad
      obtain ⟨_, rfl⟩ := s2.bad
      obtain ⟨_, rfl⟩ := s3.bad
      exact h3
    | false =>
      rw [rest_ok, pMany_succ, pC_eq]
      cases f1 : pN (l.drop p) with
      | none =>
        obtain ⟨_, rfl⟩ := s1.no f1
        obtain ⟨_, rfl⟩ := s2.bad
        obtain ⟨_, rfl⟩ := s3.bad
        exact h3
      | some q1 =>
        obtain ⟨rfl, rfl, d1⟩ := s1.ok f1
        simp only [Option.bind_some]
        rw [← d1]
        cases f2 : pB 3 (l.drop p1) with
        | none =>
          obtain ⟨_, rfl⟩ := s2.no f2
          obtain ⟨_, rfl⟩ := s3.bad
          exact h3
        | some q2 =>
          obtain ⟨rfl, rfl, d2⟩ := s2.ok f2
          simp only [Option.bind_some]
          rw [← d2]
          cases f3 : pB 8 (l.drop p2) with
          | none =>
            obtain ⟨_, rfl⟩ := s3.no f3
            exact h3
          | some q3 =>
            obtain ⟨rfl, rfl, d3⟩ := s3.ok f3
            simp only [Option.bind_some]
            rw [← d3]
            have h3' := h3
            rw [rest_ok] at h3'
            cases f4 : pMany pC n (l.drop p3) with
            | none => rw [f4] at h3'; exact h3'
            | some q4 =>
              rw [f4] at h3'
              obtain ⟨rfl, rfl, d4⟩ := h3'
              exact ⟨by simp, rfl, d4⟩
theorem idx_loop {l : List UInt8} (hl : l.length ≤ 4194304) {k : Nat} (hk : k ≤ 3) {R : List UInt8 × Int × Bool} : ∀ (n i p : Nat) (bad : Bool) (acc : List Ix), i + n = k → acc.length ≤ i → p ≤ l.length →
    ∃ (p' : Nat) (bad' : Bool) (acc' : List Ix), loop (schema_Decode.st1 ((k : Int), R) l) ((p : Int), bad, acc, (i : Int)) = some ((p' : Int), bad', acc') ∧ Many l p bad pI n acc acc' p' bad'
  | 0, i, p, bad, acc, hi, ha, hp => by
    refine ⟨p, bad, acc, loop_last ?_, hp, ?_⟩
    · unfold schema_Decode.st1
      rw [ite_df (by simp only; omega)]
    · cases bad with
      | true => rfl
      | false => exact ⟨by simp, rfl, rfl⟩
  | n + 1, i, p, bad, acc, hi, ha, hp => by
    have w : IntKind.i64.wrap ((i : Int) + 1) = ((i + 1 : Nat) : Int) := by rw [i64_id (by omega)]; omega
    obtain ⟨a2, p2, b2, e2, s2⟩ := rbyte_is (most := 3) (bad := bad) hp hl (by omega)
    obtain ⟨a3, p3, b3, e3, s3⟩ := rbyte_is (most := 1) (bad := b2) s2.le hl (by omega)
    have st : schema_Decode.st1 ((k : Int), R) l ((p : Int), bad, acc, (i : Int)) = some (.inl ((p3 : Int), b3, acc ++ [((a2 : Int), decide ((a3 : Int) = 1))], ((i + 1 : Nat) : Int))) := by
      unfold schema_Decode.st1
      erw [e2]
      simp only [Option.bind_some]
      erw [e3]
      simp only [Option.bind_some, w]
      rw [ite_dt (by omega), chk_pos (by simp; omega)]
    obtain ⟨p', b', acc', h1, h2, h3⟩ := idx_loop hl hk n (i + 1) p3 b3 (acc ++ [((a2 : Int), decide ((a3 : Int) = 1))]) (by omega) (by simp; omega) s3.le
    refine ⟨p', b', acc', by rw [loop_more st]; exact h1, h2, ?_⟩
    cases bad with
    | true =>
      obtain ⟨_, rfl⟩ := s2.bad
      obtain ⟨_, rfl⟩ := s3.bad
      exact h3
    | false =>
      rw [rest_ok, pMany_succ, pI_eq]
      cases f2 : pB 3 (l.drop p) with
      | none =>
        obtain ⟨_, rfl⟩ := s2.no f2
        obtain ⟨_, rfl⟩ := s3.bad
        exact h3
      | some q2 =>
        obtain ⟨rfl, rfl, d2⟩ := s2.ok f2
        simp only [Option.bind_some]
        rw [← d2]
        cases f3 : pB 1 (l.drop p2) with
        | none =>
          obtain ⟨_, rfl⟩ := s3.no f3
          exact h3
        | some q3 =>
          obtain ⟨rfl, rfl, d3⟩ := s3.ok f3
          simp only [Option.bind_some]
          rw [← d3]
          have h3' := h3
          rw [rest_ok] at h3'
          cases f4 : pMany pI n (l.drop p3) with
          | none => rw [f4] at h3'; exact h3'
          | some q4 =>
            rw [f4] at h3'
            obtain ⟨rfl, rfl, d4⟩ := h3'
            exact ⟨by simp, rfl, d4⟩
theorem pN_len {m : List UInt8} {q : List UInt8 × List UInt8} (h : pN m = some q) : q.1.length ≤ 8 := (pN_inv (l := q.1) (r := q.2) h).1
theorem pC_len {m : List UInt8} {q : Col × List UInt8} (h : pC m = some q) : q.1.1.length ≤ 8 := by
  unfold pC at h
  obtain ⟨a, h1, h⟩ := bind_inv h
  obtain ⟨k, h2, h⟩ := bind_inv h
  obtain ⟨x, h3, h⟩ := bind_inv h
  simp only [Option.some.injEq] at h
  subst h
  exact pN_len h1
theorem pMany_all {α : Type} {p : List UInt8 → Option (α × List UInt8)} {P : α → Prop} (hp : ∀ m q, p m = some q → P q.1) : ∀ (n : Nat) (m : List UInt8) (q : List α × List UInt8), pMany p n m = some q → ∀ a ∈ q.1, P a
  | 0, m, q, h => by
    unfold pMany at h
    cases h
    intro a ha; cases ha
  | n + 1, m, q, h => by
    unfold pMany at h
    obtain ⟨a, h1, h⟩ := bind_inv h
    obtain ⟨r, h2, h⟩ := bind_inv h
    cases h
    intro b hb
    rcases List.mem_cons.1 hb with rfl | hb
    · exact hp _ _ h1
    · exact pMany_all hp n _ _ h2 b hb
theorem Decode_is {b : List UInt8} (hb : b.length ≤ 4194304) : schema_Decode.impl b = some (match decS b with | some s => (s, 0) | none => (([], [], []), 11)) := by
  obtain ⟨n, p1, b1, e1, s1⟩ := rname_is (bad := false) (Nat.zero_le b.length) hb
  obtain ⟨k, p2, b2, e2, s2⟩ := rbyte_is (most := 3) (bad := b1) s1.le hb (by omega)
  have hk3 : k ≤ 3 := by
    have := s2.eq
    cases f : (rest b p1 b1).bind (pB 3) with
    | none => rw [f] at this; omega
    | some q =>
      rw [f] at this
      obtain ⟨m, hm, hq⟩ := bind_inv f
      have := (pB_inv (k := q.1) (r := q.2) hq).1
      omega
  obtain ⟨p3, b3, cs, e3, l3, s3⟩ := cols_loop hb hk3 (R := (b, (p2 : Int), b2)) k 0 p2 b2 [] (by omega) (by simp) s2.le
  obtain ⟨j, p4, b4, e4, s4⟩ := rbyte_is (most := 3) (bad := b3) l3 hb (by omega)
  have hj3 : j ≤ 3 := by
    have := s4.eq
    cases f : (rest b p3 b3).bind (pB 3) with
    | none => rw [f] at this; omega
    | some q =>
      rw [f] at this
      obtain ⟨m, hm, hq⟩ := bind_inv f
      have := (pB_inv (k := q.1) (r := q.2) hq).1
      omega
  obtain ⟨p5, b5, xs, e5, l5, s5⟩ := idx_loop hb hj3 (R := (b, (p4 : Int), b4)) j 0 p4 b4 [] (by omega) (by simp) s4.le
  have allBad : b4 = true → b5 = true := fun h => by subst h; rw [rest_bad] at s5; exact s5
  have main : (b5 = true ∧ pS b = none) ∨ ∃ r, pS b = some ((n, cs, xs), r) ∧ b5 = false ∧ b.drop p5 = r ∧ NamesS (n, cs, xs) := by
    unfold pS
    cases f1 : pN b with
    | none =>
      obtain ⟨_, rfl⟩ := s1.no f1
      obtain ⟨_, rfl⟩ := s2.bad
      rw [rest_bad] at s3
      have : b3 = true := s3
      subst this
      obtain ⟨_, rfl⟩ := s4.bad
      exact .inl ⟨allBad rfl, rfl⟩
    | some q1 =>
      obtain ⟨rfl, rfl, d1⟩ := s1.ok f1
      have hnl := pN_len f1
      simp only [Option.bind_some]
      rw [← d1]
      cases f2 : pB 3 (b.drop p1) with
      | none =>
        obtain ⟨_, rfl⟩ := s2.no f2
        rw [rest_bad] at s3
        have : b3 = true := s3
        subst this
        obtain ⟨_, rfl⟩ := s4.bad
        exact .inl ⟨allBad rfl, rfl⟩
      | some q2 =>
        obtain ⟨rfl, rfl, d2⟩ := s2.ok f2
        simp only [Option.bind_some]
        rw [← d2]
        rw [rest_ok] at s3
        cases f3 : pMany pC q2.1 (b.drop p2) with
        | none =>
          rw [f3] at s3
          have : b3 = true := s3
          subst this
          obtain ⟨_, rfl⟩ := s4.bad
          exact .inl ⟨allBad rfl, rfl⟩
        | some q3 =>
          rw [f3] at s3
          obtain ⟨rfl, rfl, d3⟩ := s3
          have hcl := pMany_all (P := fun c : Col => c.1.length ≤ 8) (fun m q h => pC_len h) _ _ _ f3
          simp only [Option.bind_some]
          rw [← d3]
          cases f4 : pB 3 (b.drop p3) with
          | none =>
            obtain ⟨_, rfl⟩ := s4.no f4
            exact .inl ⟨allBad rfl, rfl⟩
          | some q4 =>
            obtain ⟨rfl, rfl, d4⟩ := s4.ok f4
            simp only [Option.bind_some]
            rw [← d4]
            rw [rest_ok] at s5
            cases f5 : pMany pI q4.1 (b.drop p4) with
            | none =>
              rw [f5] at s5
              exact .inl ⟨s5, rfl⟩
            | some q5 =>
              rw [f5] at s5
              obtain ⟨rfl, rfl, d5⟩ := s5
              refine .inr ⟨q5.2, by simp, rfl, d5, ⟨by simp only; omega, fun c hc => ?_⟩⟩
              have := hcl c (by simpa using hc)
              omega
  unfold schema_Decode.impl
  erw [e1]
  simp only [Option.bind_some]
  erw [e2]
  simp only [Option.bind_some]
  erw [e3]
  simp only [Option.bind_some, schema_Decode.k1]
  erw [e4]
  simp only [Option.bind_some]
  erw [e5]
  simp only [Option.bind_some, schema_Decode.k2]
  have k3t : ∀ u v w, schema_Decode.k3 u v w true = some (([], [], []), 11) := fun _ _ _ => rfl
  unfold decS
  rcases main with ⟨rfl, hS⟩ | ⟨r, hS, rfl, hd, hn⟩
  · rw [hS, if_pos rfl, k3t]; rfl
  · rw [hS]
    simp only [Option.bind_some, Bool.false_eq_true, if_false]
    have hd' : r = [] ↔ (p5 : Int) = (b.length : Int) := by
      rw [← hd, List.drop_eq_nil_iff]; omega
    by_cases g : r = []
    · rw [ite_dt (hd'.1 g), SRight_is hn]
      simp only [Option.bind_some]
      by_cases hr : rightS (n, cs, xs) = true
      · rw [if_pos hr, if_pos ⟨g, hr⟩]; rfl
      · rw [if_neg hr, if_neg (fun h => hr h.2)]; rfl
    · rw [ite_df (fun h => g (hd'.2 h)), if_neg (fun h => g h.1), k3t]
end Go.Proofs.YtdfbknkgmhddcaaDoor
