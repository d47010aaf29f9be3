/- Sessions in plain terms. -/
import Derived.Test.YtdojooblfemmnaaDoorSess
import Derived.Test.YtdojooblfemmnaaDoorDraftL
import Derived.Test.YtdojooblfemmnaaDoorReplyL
set_option linter.unusedVariables false
set_option linter.unusedSimpArgs false
namespace Go.Proofs.YtdojooblfemmnaaDoor
open Go Go.RowKit Go.Lib
/-- What is kept of a session: its last number and that one's reply. -/
abbrev Ses := Option (Nat × Rep)
def sd (x : Ses) : Nat × Rep := x.getD (0, (0, 0, []))
def NInv (l : List Chg) (n : Nat) : Prop := l.length ≤ n ∧ (∀ c ∈ l, c.1.2.2.length ≤ 1800)
def okS (q : Nat) (r : Rep) : Prop := (1 ≤ q ∧ q < 2147483648) ∧ replyP r = true ∧ FitsRep r
def sesL (l : List Chg) (k : UInt8) (v : Ses) : Prop := match v with | none => getL l 4 [k] = none | some x => okS x.1 x.2 ∧ getL l 4 [k] = some (uint x.1 ++ encRep x.2)
structure SInv (l : List Chg) (st : Nat → Ses) (n : Nat) : Prop where
  inv : NInv l n
  ses : ∀ s : Nat, s < 8 → sesL l (u8 (s : Int)) (st s)
theorem SInv.nil : SInv [] (fun _ => none) 0 := ⟨⟨by simp, fun c h => (List.not_mem_nil h).elim⟩, fun _ _ => rfl⟩
theorem SInv.up {l : List Chg} {st : Nat → Ses} {n m : Nat} (h : SInv l st n) (hm : n ≤ m) : SInv l st m := ⟨⟨by have := h.inv.1; omega, h.inv.2⟩, h.ses⟩
theorem okv (k : UInt8) : okK 4 [k] := ⟨⟨by omega, by omega⟩, by simp, by simp⟩
theorem SInv.ok {l : List Chg} {st : Nat → Ses} {n : Nat} (h : SInv l st n) {s : Nat} (hs : s < 8) {x : Nat × Rep} (hx : st s = some x) : okS x.1 x.2 := by
  have := h.ses s hs
  rw [hx] at this; exact this.1
theorem ulen {q : Nat} (h : q < 2147483648) : (uint q).length ≤ 5 := by
  have := hi_len (n := q / 128) 4 (by omega)
  rw [uint_len]; omega
theorem read_v {l : List Chg} {st : Nat → Ses} {n : Nat} (h : SInv l st n) (hn : n ≤ 1000) {s : Nat} (hs : s < 8) :
    session_read.impl loc0 tre0 pag0 [] dsk0 [] [] [] [] l (s : Int) = some (((sd (st s)).1 : Int), (sd (st s)).2, 0) := by
  obtain ⟨w, e1, e2⟩ := Get_is l (by have := h.inv.1; omega) h.inv.2 (okv (u8 (s : Int)))
  have hv := h.ses s hs
  unfold session_read.impl
  rw [u8_id (by omega)]
  simp only [loc0, tre0, pag0, dsk0] at e1 ⊢
  rw [e1]
  simp only [Option.bind_some, decide_true, if_true]
  unfold session_read.k1
  cases hx : st s with
  | none => rw [hx] at hv; have hv : getL l 4 [u8 (s : Int)] = none := hv; rw [hv]; rfl
  | some x =>
    rw [hx] at hv
    obtain ⟨⟨hq, hp, hf⟩, hg⟩ : okS x.1 x.2 ∧ getL l 4 [u8 (s : Int)] = some (uint x.1 ++ encRep x.2) := hv
    have hw := e2 _ hg
    have l1 := encRep_len hp
    have l2 := ulen hq.2
    have r1 := RU_uint (n := x.1) [] (encRep x.2) (by omega) (by simp; omega)
    simp only [List.nil_append, List.length_nil, Nat.zero_add] at r1
    rw [show (((0 : Nat) : Int)) = (0 : Int) from rfl] at r1
    have hsub : subl (uint x.1 ++ encRep x.2) ((uint x.1).length : Int) ((uint x.1 ++ encRep x.2).length : Int) = encRep x.2 := by
      unfold subl; rw [Int.toNat_natCast, Int.toNat_natCast, List.take_length, List.drop_left]
    rw [hg, hw]
    simp only [Option.isSome_some, Bool.not_true, Bool.false_eq_true, if_false]
    rw [r1]
    simp only [Option.bind_some, decide_true, Bool.not_true, Bool.false_eq_true, if_false]
    rw [chk_pos (by simp; omega), hsub, DecodeReply_is hf hp]
    simp [sd]
theorem right_ok (l : List Chg) {s : Int} (h : 0 ≤ s ∧ s < 8) : session_right.impl loc0 tre0 pag0 [] dsk0 [] [] [] [] l s = some 0 := by
  unfold session_right.impl session_right.k1
  rw [ite_df (by omega), decide_eq_false (by omega)]; rfl
theorem right_no (l : List Chg) {s : Int} (h : s < 0 ∨ s > 7) : session_right.impl loc0 tre0 pag0 [] dsk0 [] [] [] [] l s = some 1 := by
  unfold session_right.impl session_right.k1
  by_cases h1 : s < 0
  · rw [ite_dt h1]; rfl
  · rw [ite_df h1, decide_eq_true (by omega)]; rfl
def stateL (x : Ses) (q : Nat) : Int := if q < (sd x).1 then 2 else if q = (sd x).1 then 1 else 0
def replyL (x : Ses) (q : Nat) : Rep := if q = (sd x).1 then (sd x).2 else (0, 0, [])
theorem Look_bad {l : List Chg} {s q : Int} (hb : s < 0 ∨ s > 7 ∨ q < 1 ∨ q > 2147483647) : session_Look.impl loc0 tre0 pag0 [] dsk0 [] [] [] [] l s q = some (0, (0, 0, []), 1) := by
  have key : session_Look.k1 loc0 tre0 pag0 [] dsk0 [] [] [] [] l s q true = some (0, (0, 0, []), 1) := by unfold session_Look.k1; simp only [if_true]
  unfold session_Look.impl
  by_cases h1 : 0 ≤ s ∧ s < 8
  · have e1 := right_ok l h1
    simp only [loc0, tre0, pag0, dsk0] at e1 key ⊢
    rw [e1]
    simp only [Option.bind_some]
    rw [ite_dt trivial]
    by_cases h2 : q < 1
    · rw [ite_dt h2]; exact key
    · rw [ite_df h2, decide_eq_true (by omega)]; exact key
  · have e1 := right_no l (s := s) (by omega)
    simp only [loc0, tre0, pag0, dsk0] at e1 key ⊢
    rw [e1]
    simp only [Option.bind_some]
    rw [ite_df (by decide)]; exact key
theorem Look_v {l : List Chg} {st : Nat → Ses} {n : Nat} (h : SInv l st n) (hn : n ≤ 1000) {s q : Nat} (hs : s < 8) (hq : 1 ≤ q ∧ q < 2147483648) :
    session_Look.impl loc0 tre0 pag0 [] dsk0 [] [] [] [] l (s : Int) (q : Int) = some (stateL (st s) q, replyL (st s) q, 0) := by
  have e0 := read_v h hn hs
  have e1 := right_ok l (s := (s : Int)) (by omega)
  unfold session_Look.impl
  simp only [loc0, tre0, pag0, dsk0] at e0 e1 ⊢
  rw [e1]
  simp only [Option.bind_some]
  rw [ite_dt trivial, ite_df (by omega), decide_eq_false (by omega)]
  unfold session_Look.k1
  simp only [Bool.false_eq_true, if_false]
  rw [e0]
  simp only [Option.bind_some, decide_true, Bool.not_true, Bool.false_eq_true, if_false]
  unfold session_Look.k4 session_Look.k2 session_Look.k3 stateL replyL
  have w1 : IntKind.i64.wrap (0 + 1) = 1 := by decide
  have w2 : IntKind.i64.wrap (1 + 1) = 2 := by decide
  by_cases g1 : q < (sd (st s)).1
  · have g3 : ¬ q = (sd (st s)).1 := by omega
    rw [ite_dt (by omega), if_pos g1, w1, w2]; simp [g3]
  · rw [ite_df (by omega), if_neg g1]
    by_cases g2 : q = (sd (st s)).1
    · rw [ite_dt (by omega), if_pos g2, if_pos g2, w1]; rfl
    · rw [ite_df (by omega), if_neg g2, if_neg g2]; rfl
theorem Keep_bad {l : List Chg} {s q : Int} (r : Rep) (hb : s < 0 ∨ s > 7 ∨ q < 1 ∨ q > 2147483647) : session_Keep.impl loc0 tre0 pag0 [] dsk0 [] [] [] [] l s q r = some (1, l) := by
  have e1 := Look_bad (l := l) hb
  unfold session_Keep.impl
  simp only [loc0, tre0, pag0, dsk0] at e1 ⊢
  rw [e1]; rfl
def updS (st : Nat → Ses) (s : Nat) (x : Ses) : Nat → Ses := fun i => if i = s then x else st i
theorem u8_inj8 : ∀ s < 8, ∀ t < 8, u8 ((s : Nat) : Int) = u8 ((t : Nat) : Int) → s = t := by decide
theorem getL_add (l : List Chg) (k k' v : List UInt8) : getL (l ++ [((4, k, v), false)]) 4 k' = if k = k' then some v else getL l 4 k' := by
  unfold getL
  rw [lastC_add]
  by_cases h2 : k = k' <;> simp [isK, h2]
theorem SInv.keep {l : List Chg} {st : Nat → Ses} {n : Nat} (h : SInv l st n) {s q : Nat} {r : Rep} (hs : s < 8) (ho : okS q r) : SInv (l ++ [((4, [u8 (s : Int)], uint q ++ encRep r), false)]) (updS st s (some (q, r))) (n + 1) := by
  have l1 := encRep_len ho.2.1
  have l2 := ulen ho.1.2
  refine ⟨⟨by have := h.inv.1; simp; omega, fun c hc => ?_⟩, fun i hi => ?_⟩
  · rcases List.mem_append.1 hc with z | z
    · exact h.inv.2 c z
    · rw [List.mem_singleton.1 z]; simp; omega
  · unfold updS
    by_cases e : i = s
    · subst e
      rw [if_pos rfl]
      exact ⟨ho, by rw [getL_add, if_pos rfl]⟩
    · rw [if_neg e]
      have hg : getL (l ++ [((4, [u8 (s : Int)], uint q ++ encRep r), false)]) 4 [u8 (i : Int)] = getL l 4 [u8 (i : Int)] := by
        rw [getL_add, if_neg (fun he => e (u8_inj8 i hi s hs (by simpa using he.symm)))]
      have := h.ses i hi
      cases hx : st i with
      | none => rw [hx] at this; show _ = _; rw [hg]; exact this
      | some x => rw [hx] at this; exact ⟨this.1, by rw [hg]; exact this.2⟩
/-- What a call of Keep tells, and what is kept behind it. -/
def keepE (x : Ses) (q : Nat) (r : Rep) : Int := if q ≤ (sd x).1 then 50 else if replyP r = true then 0 else 1
def keepS (st : Nat → Ses) (s q : Nat) (r : Rep) : Nat → Ses := if q ≤ (sd (st s)).1 then st else if replyP r = true then updS st s (some (q, r)) else st
theorem Keep_v {l : List Chg} {st : Nat → Ses} {n : Nat} (h : SInv l st n) (hn : n ≤ 1000) {s q : Nat} {r : Rep} (hs : s < 8) (hq : 1 ≤ q ∧ q < 2147483648) (hf : FitsRep r) :
    ∃ l', session_Keep.impl loc0 tre0 pag0 [] dsk0 [] [] [] [] l (s : Int) (q : Int) r = some (keepE (st s) q r, l') ∧ SInv l' (keepS st s q r) (n + 1) := by
  have e1 := Look_v h hn hs hq
  unfold session_Keep.impl
  simp only [loc0, tre0, pag0, dsk0] at e1 ⊢
  rw [e1]
  simp only [Option.bind_some, decide_true, Bool.not_true, Bool.false_eq_true, if_false]
  unfold keepE keepS
  by_cases g : q ≤ (sd (st s)).1
  · have hst : ¬ stateL (st s) q = 0 := by unfold stateL; split; decide; rw [if_pos (by omega)]; decide
    rw [ite_nf hst, if_pos g, if_pos g]
    exact ⟨l, rfl, h.up (by omega)⟩
  · have hst : stateL (st s) q = 0 := by unfold stateL; rw [if_neg (by omega), if_neg (by omega)]
    rw [ite_nt hst, if_neg g, if_neg g, EncodeReply_is hf]
    by_cases hp : replyP r = true
    · rw [if_pos hp, if_pos hp, if_pos hp]
      have l1 := encRep_len hp
      have l2 := ulen hq.2
      have hput := Put_is l (by have := h.inv.1; omega) (v := uint q ++ encRep r) (okv (u8 (s : Int))) (by simp; omega)
      simp only [Option.bind_some, decide_true, Bool.not_true, Bool.false_eq_true, if_false, Uint_is (show q < 9223372036854775808 by omega)]
      rw [chk_pos (by omega), u8_id (by omega)]
      simp only [loc0, tre0, pag0, dsk0] at hput
      rw [hput]
      exact ⟨_, rfl, h.keep hs ⟨hq, hp, hf⟩⟩
    · rw [if_neg hp, if_neg hp, if_neg hp]
      exact ⟨l, rfl, h.up (by omega)⟩
theorem Last_v {l : List Chg} {st : Nat → Ses} {n : Nat} (h : SInv l st n) (hn : n ≤ 1000) {s : Nat} (hs : s < 8) :
    session_Last.impl loc0 tre0 pag0 [] dsk0 [] [] [] [] l (s : Int) = some (((sd (st s)).1 : Int), 0) := by
  have e0 := read_v h hn hs
  have e1 := right_ok l (s := (s : Int)) (by omega)
  unfold session_Last.impl
  simp only [loc0, tre0, pag0, dsk0] at e0 e1 ⊢
  rw [e1]
  simp only [Option.bind_some]
  rw [ite_nt trivial, e0]; rfl
theorem Last_bad {l : List Chg} {s : Int} (hb : s < 0 ∨ s > 7) : session_Last.impl loc0 tre0 pag0 [] dsk0 [] [] [] [] l s = some (0, 1) := by
  have e1 := right_no l hb
  unfold session_Last.impl
  simp only [loc0, tre0, pag0, dsk0] at e1 ⊢
  rw [e1]
  simp only [Option.bind_some]
  rw [ite_nf (by decide)]
theorem fits0 (e a : Int) : FitsRep (e, a, []) := fun row h => (List.not_mem_nil h).elim
theorem told_is : law18_told.impl = some true := by
  have i0 := SInv.nil
  have a := Look_v i0 (by omega) (s := 0) (q := 3) (by omega) (by omega)
  obtain ⟨l1, e1, i1⟩ := Keep_v i0 (by omega) (s := 0) (q := 3) (by omega) (by omega) (fits0 0 1)
  have hs1 : keepS (fun _ => none) 0 3 (0, 1, []) = updS (fun _ => none) 0 (some (3, (0, 1, []))) := by
    unfold keepS; rw [if_neg (by decide), if_pos (by decide)]
  have he1 : keepE none 3 (0, 1, []) = 0 := by decide
  rw [hs1] at i1
  have b := Look_v i1 (by omega) (s := 0) (q := 3) (by omega) (by omega)
  have c := Look_v i1 (by omega) (s := 0) (q := 2) (by omega) (by omega)
  obtain ⟨l2, e2, i2⟩ := Keep_v i1 (by omega) (s := 0) (q := 3) (by omega) (by omega) (fits0 0 0)
  have hs2 : keepS (updS (fun _ => none) 0 (some (3, (0, 1, [])))) 0 3 (0, 0, []) = updS (fun _ => none) 0 (some (3, (0, 1, []))) := by
    unfold keepS; rw [if_pos (by decide)]
  rw [hs2] at i2
  have d := Last_v i2 (by omega) (s := 0) (by omega)
  have a : session_Look.impl loc0 tre0 pag0 [] dsk0 [] [] [] [] [] 0 3 = some (0, (0, 0, []), 0) := a
  have e1 : session_Keep.impl loc0 tre0 pag0 [] dsk0 [] [] [] [] [] 0 3 (0, 1, []) = some (0, l1) := by rw [← he1]; exact e1
  have b : session_Look.impl loc0 tre0 pag0 [] dsk0 [] [] [] [] l1 0 3 = some (1, (0, 1, []), 0) := b
  have c : session_Look.impl loc0 tre0 pag0 [] dsk0 [] [] [] [] l1 0 2 = some (2, (0, 0, []), 0) := c
  have e2 : session_Keep.impl loc0 tre0 pag0 [] dsk0 [] [] [] [] l1 0 3 (0, 0, []) = some (50, l2) := e2
  have d : session_Last.impl loc0 tre0 pag0 [] dsk0 [] [] [] [] l2 0 = some (3, 0) := d
  have k : session_Look_nil0.impl 0 1 = some (0, (0, 0, []), 1) := by
    unfold session_Look_nil0.impl session_right_nil0.impl session_Look_nil0.k1; simp
  unfold law18_told.impl
  rw [New_0]
  simp only [Option.bind_some, loc0, tre0, pag0, dsk0] at a b c d e1 e2 ⊢
  rw [a]
  simp only [Option.bind_some]
  rw [e1]
  simp only [Option.bind_some]
  rw [b]
  simp only [Option.bind_some]
  rw [c]
  simp only [Option.bind_some]
  rw [e2]
  simp only [Option.bind_some]
  rw [d]
  simp only [Option.bind_some]
  rw [k]
  simp
abbrev Act18 := Int × Int × Int × Rep
abbrev R0 : Unit × (Int × Int × Int × Int × Int × Int × Int × Int × Int × Int × Int × Int × Int × Int × Int × Int × Int) × (Int × Int × Int × Int) × (Int × Int × Int × Int) × (List (Int × Int)) × (Int × Bool × Int × Int × Int × Int × Int) × (List (Int × (List UInt8))) × (List (Int × (List UInt8))) × (List (Int × Int)) × (List (Int × Int)) × (List Chg) := ((), loc0, tre0, pag0, [], dsk0, [], [], [], [], [])
theorem mask7 (n : Int) : ∃ q : Nat, q < 8 ∧ bitsOf .and .i64 n 7 = (q : Int) := ⟨(n % 8).toNat, by omega, by rw [i64_mask 3 (by omega) n 7 (by decide)]; omega⟩
theorem Keep_any {l : List Chg} {st : Nat → Ses} {n : Nat} (h : SInv l st n) (hn : n ≤ 1000) (s q : Int) {r : Rep} (hf : FitsRep r) :
    ∃ e l' st', session_Keep.impl loc0 tre0 pag0 [] dsk0 [] [] [] [] l s q r = some (e, l') ∧ SInv l' st' (n + 1) ∧ ∀ i : Nat, (i : Int) ≠ s → st' i = st i := by
  by_cases hb : s < 0 ∨ s > 7 ∨ q < 1 ∨ q > 2147483647
  · exact ⟨1, l, st, Keep_bad r hb, h.up (by omega), fun _ _ => rfl⟩
  · obtain ⟨s', rfl⟩ := Int.eq_ofNat_of_zero_le (show 0 ≤ s by omega)
    obtain ⟨q', rfl⟩ := Int.eq_ofNat_of_zero_le (show 0 ≤ q by omega)
    obtain ⟨l', e, i⟩ := Keep_v h hn (s := s') (q := q') (by omega) (by omega) hf
    refine ⟨_, l', _, e, i, fun j hj => ?_⟩
    have hj : j ≠ s' := by rintro rfl; exact hj rfl
    unfold keepS
    split
    · rfl
    · split
      · unfold updS; rw [if_neg hj]
      · rfl
theorem row_small {row : Rw} (h : okRow row = true) : row.length ≤ 3 := (rowE_zero (of_decide_eq_true h)).1
theorem look_small {l : List Chg} {st : Nat → Ses} {n : Nat} (h : SInv l st n) {s : Nat} (hs : s < 8) (q : Nat) : (replyL (st s) q).2.2.length ≤ 4194304 ∧ ∀ row ∈ (replyL (st s) q).2.2, row.length ≤ 4194304 := by
  unfold replyL
  by_cases g : q = (sd (st s)).1
  · rw [if_pos g]
    cases hx : st s with
    | none => simp [sd]
    | some x =>
      have ho := (h.ok hs hx).2.1
      unfold replyP at ho
      simp only [Bool.and_eq_true, decide_eq_true_eq] at ho
      obtain ⟨⟨_, _, _, _, h5⟩, h6⟩ := ho
      show x.2.2.2.length ≤ 4194304 ∧ ∀ row ∈ x.2.2.2, row.length ≤ 4194304
      exact ⟨by omega, fun row hr => by have := row_small (List.all_eq_true.1 h6 row hr); omega⟩
  · rw [if_neg g]; simp
theorem last_lt {l : List Chg} {st : Nat → Ses} {n : Nat} (h : SInv l st n) {s : Nat} (hs : s < 8) : (sd (st s)).1 < 2147483648 := by
  cases hx : st s with
  | none => simp [sd]
  | some x => exact (h.ok hs hx).1.2
theorem mem_getD {l : List Act18} {i : Nat} (hi : i < l.length) : l.getD i default ∈ l := by
  have : l.getD i default = l[i] := by simp [List.getD, hi]
  rw [this]; exact List.getElem_mem _
end Go.Proofs.YtdojooblfemmnaaDoor
