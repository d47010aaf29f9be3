/- Replies in plain terms: what is written, and that it is read back. -/
import Derived.Test.YtpogdeibkghhaaaDoorEntry
import Derived.Test.YtpogdeibkghhaaaDoorKeyF
import Derived.Test.YtpogdeibkghhaaaDoorWirL
set_option linter.unusedVariables false
set_option linter.unusedSimpArgs false
namespace Go.Proofs.YtpogdeibkghhaaaDoor
open Go Go.RowKit Go.Lib
abbrev Rw := List Vl
abbrev Rep := Int × Int × List Rw
def okRow (row : Rw) : Bool := decide (rowE row = 0)
def headP (r : Rep) : Prop := 0 ≤ r.1 ∧ r.1 ≤ 65536 ∧ 0 ≤ r.2.1 ∧ r.2.1 ≤ 2 ∧ r.2.2.length ≤ 12
instance (r : Rep) : Decidable (headP r) := by unfold headP; infer_instance
/-- Which replies may be. -/
def replyP (r : Rep) : Bool := decide (headP r) && r.2.2.all okRow
def encW (row : Rw) : List UInt8 := uint (row.flatMap kb).length ++ row.flatMap kb
/-- A reply's bytes. -/
def encRep (r : Rep) : List UInt8 := uint r.1.toNat ++ [u8 r.2.1] ++ [u8 (r.2.2.length : Int)] ++ r.2.2.flatMap encW
def FitsRep (r : Rep) : Prop := ∀ row ∈ r.2.2, ∀ v ∈ row, Fits v
theorem encW_len {row : Rw} (h : rowE row = 0) : (encW row).length ≤ 129 := by
  have h1 := row_len h
  have h2 := uint_le (n := (row.flatMap kb).length) (by omega)
  unfold encW; rw [List.length_append]; omega
theorem flatW_len : ∀ l : List Rw, l.all okRow = true → (l.flatMap encW).length ≤ 129 * l.length
  | [], _ => by simp
  | row :: l, h => by
    simp only [List.all_cons, Bool.and_eq_true] at h
    have h1 := encW_len (of_decide_eq_true h.1)
    have h2 := flatW_len l h.2
    rw [List.flatMap_cons, List.length_append, List.length_cons]; omega
theorem encRep_len {r : Rep} (h : replyP r = true) : (encRep r).length ≤ 1570 := by
  unfold replyP at h
  simp only [Bool.and_eq_true, decide_eq_true_eq] at h
  obtain ⟨⟨h1, h2, h3, h4, h5⟩, h6⟩ := h
  have e1 := flatW_len _ h6
  have e2 := uint_le (n := r.1.toNat) (by omega)
  unfold encRep
  simp only [List.length_append, List.length_cons, List.length_nil]; omega
theorem enc_loop {r : Rep} (hf : FitsRep r) (h12 : r.2.2.length ≤ 12) : ∀ (n i : Nat) (acc : List UInt8), i + n = r.2.2.length → acc.length ≤ 100 + 1000 * i →
    loop (entry_EncodeReply.st1 r) (acc, (i : Int)) = some (if (r.2.2.drop i).all okRow = true then .inr (acc ++ (r.2.2.drop i).flatMap encW) else .inl ([], 1))
  | 0, i, acc, hi, ha => by
    rw [List.drop_of_length_le (by omega)]
    rw [loop_last (r := .inr acc) (by unfold entry_EncodeReply.st1; rw [ite_df (by simp only []; omega)])]
    simp
  | n + 1, i, acc, hi, ha => by
    have hlt : i < r.2.2.length := by omega
    have hd := getD_el hlt
    have hm : r.2.2[i] ∈ r.2.2 := List.getElem_mem hlt
    have e1 := EncodeRow_is (row := r.2.2[i]) (hf _ hm)
    rw [List.drop_eq_getElem_cons hlt, List.all_cons]
    by_cases h : rowE r.2.2[i] = 0
    · have hl := encW_len h
      have hk : okRow r.2.2[i] = true := decide_eq_true h
      have hs : entry_EncodeReply.st1 r (acc, (i : Int)) = some (.inl (acc ++ encW r.2.2[i], ((i + 1 : Nat) : Int))) := by
        unfold entry_EncodeReply.st1
        rw [ite_dt (by simp only []; omega)]
        simp only [Int.toNat_natCast, hd]
        rw [chk_pos (by omega), e1]
        simp only [Option.bind_some, h, if_true, decide_true, Bool.not_true, Bool.false_eq_true, if_false]
        rw [Bytes_is (by have := row_len h; omega)]
        simp only [Option.bind_some]
        have hl' : (uint (r.2.2[i].flatMap kb).length ++ r.2.2[i].flatMap kb).length ≤ 129 := hl
        rw [chk_pos (by omega), i64_id (by omega)]; rfl
      rw [loop_more hs, enc_loop hf h12 n (i + 1) _ (by omega) (by rw [List.length_append]; omega), hk, Bool.true_and, List.flatMap_cons, List.append_assoc]
    · have hk : okRow r.2.2[i] = false := decide_eq_false h
      rw [hk, Bool.false_and]
      rw [loop_last (r := .inl ([], 1)) ?_]
      · simp
      · unfold entry_EncodeReply.st1
        rw [ite_dt (by simp only []; omega)]
        simp only [Int.toNat_natCast, hd]
        rw [chk_pos (by omega), e1]
        simp only [Option.bind_some, h, decide_false, Bool.not_false, if_true]
theorem EncodeReply_is {r : Rep} (hf : FitsRep r) : entry_EncodeReply.impl r = some (if replyP r = true then (encRep r, 0) else ([], 1)) := by
  have key : entry_EncodeReply.k1 r true = some ([], 1) := by unfold entry_EncodeReply.k1; simp only [if_true]
  by_cases hh : headP r
  · obtain ⟨h1, h2, h3, h4, h5⟩ := id hh
    unfold entry_EncodeReply.impl
    rw [ite_df (by omega), ite_df (by omega), ite_df (by omega), ite_df (by omega), decide_eq_false (by omega)]
    unfold entry_EncodeReply.k1
    simp only [Bool.false_eq_true, if_false]
    obtain ⟨n, hn⟩ := Int.eq_ofNat_of_zero_le h1
    have e2 := uint_le (n := n) (by omega)
    rw [hn, Uint_is (by omega)]
    simp only [Option.bind_some]
    rw [chk_pos (by simp; omega), chk_pos (by simp; omega), u8_id (by omega), u8_id (by omega)]
    unfold entry_EncodeReply.k2
    have := enc_loop hf h5 r.2.2.length 0 (uint n ++ [u8 r.2.1] ++ [u8 (r.2.2.length : Int)]) (by omega) (by simp; omega)
    rw [show (((0 : Nat) : Int)) = (0 : Int) from rfl] at this
    rw [this, List.drop_zero]
    unfold replyP
    rw [decide_eq_true hh, Bool.true_and]
    by_cases ha : r.2.2.all okRow = true
    · rw [if_pos ha, if_pos ha]
      simp only [Option.bind_some, entry_EncodeReply.k3]
      unfold encRep
      rw [hn]; simp
    · rw [if_neg ha, if_neg ha]; rfl
  · have hp : replyP r = false := by unfold replyP; rw [decide_eq_false hh]; rfl
    rw [hp]
    simp only [Bool.false_eq_true, if_false]
    unfold entry_EncodeReply.impl
    by_cases h1 : r.1 < 0
    · rw [ite_dt h1, key]
    rw [ite_df h1]
    by_cases h2 : (65536 : Int) < r.1
    · rw [ite_dt h2, key]
    rw [ite_df h2]
    by_cases h3 : r.2.1 < 0
    · rw [ite_dt h3, key]
    rw [ite_df h3]
    by_cases h4 : (3 : Int) ≤ r.2.1
    · rw [ite_dt h4, key]
    rw [ite_df h4, decide_eq_true (by unfold headP at hh; omega), key]
/-! ### What is written is read -/
theorem rd_uint {pre suf : List UInt8} {n : Nat} (hn : n < 9223372036854775808) (hl : (pre ++ (uint n ++ suf)).length ≤ 4194304) :
    entry_reader_uint.impl (pre ++ (uint n ++ suf), (pre.length : Int), false) = some ((n : Int), (pre ++ (uint n ++ suf), ((pre ++ uint n).length : Int), false)) := by
  have e := RU_uint pre suf hn (by omega)
  unfold entry_reader_uint.impl
  simp only []
  rw [e]
  simp only [Option.bind_some, decide_true, Bool.not_true, Bool.false_eq_true, if_false]
  unfold entry_reader_uint.k1
  simp
theorem rd_byte {pre suf : List UInt8} {b : UInt8} (hl : (pre ++ (b :: suf)).length ≤ 4194304) :
    entry_reader_byte.impl (pre ++ (b :: suf), (pre.length : Int), false) = some ((b.toNat : Int), (pre ++ (b :: suf), ((pre ++ [b]).length : Int), false)) := by
  have hl' : pre.length + suf.length + 1 ≤ 4194304 := by simp at hl; omega
  have hb := b.toNat_lt
  unfold entry_reader_byte.impl
  simp only [Bool.false_eq_true, if_false]
  rw [decide_eq_false (by simp; omega)]
  unfold entry_reader_byte.k1
  simp only [Bool.false_eq_true, if_false]
  rw [i64_id (n := (pre.length : Int) + 1) (by omega), i64_id (n := (pre.length : Int) + 1 - 1) (by omega), show (pre.length : Int) + 1 - 1 = (pre.length : Int) by omega]
  rw [chk_pos (by simp; omega), Int.toNat_natCast, i64_id]
  · simp
  · have : ((pre ++ b :: suf).getD pre.length default) = b := by simp [List.getD]
    rw [this]; omega
theorem rd_text {pre s suf : List UInt8} (hs : s.length ≤ 1800) (hl : (pre ++ (uint s.length ++ s ++ suf)).length ≤ 4194304) :
    entry_reader_text.impl (pre ++ (uint s.length ++ s ++ suf), (pre.length : Int), false) = some (s, (pre ++ (uint s.length ++ s ++ suf), ((pre ++ (uint s.length ++ s)).length : Int), false)) := by
  have e := RU_uint (n := s.length) pre (s ++ suf) (by omega) (by rw [← List.append_assoc (uint s.length)]; omega)
  rw [← List.append_assoc (uint s.length)] at e
  have e2 := rb_ok (m := 1800) e (by omega) (by omega) (by simp; omega) (by omega)
  unfold entry_reader_text.impl
  simp only []
  rw [e2]
  simp only [Option.bind_some, decide_true, Bool.not_true, Bool.false_eq_true, if_false]
  unfold entry_reader_text.k1
  simp only [Bool.false_eq_true, if_false]
  have hd : ((pre ++ (uint s.length ++ s ++ suf)).drop (pre.length + (uint s.length).length)).take s.length = s := by
    rw [show pre ++ (uint s.length ++ s ++ suf) = (pre ++ uint s.length) ++ (s ++ suf) by simp, show pre.length + (uint s.length).length = (pre ++ uint s.length).length by simp, List.drop_left, List.take_left]
  rw [hd]
  simp only [List.length_append]
  rw [Nat.add_assoc]
theorem rd_row {pre suf : List UInt8} {row : Rw} (hr : rowE row = 0) (hn : ∀ v ∈ row, In64 v.2.1) (hl : (pre ++ (encW row ++ suf)).length ≤ 4194304) :
    entry_reader_row.impl (pre ++ (encW row ++ suf), (pre.length : Int), false) = some (row, (pre ++ (encW row ++ suf), ((pre ++ encW row).length : Int), false)) := by
  have h1 := row_len hr
  have e := rd_text (pre := pre) (s := row.flatMap kb) (suf := suf) (by omega) hl
  unfold encW at hl ⊢
  unfold entry_reader_row.impl
  simp only [] at e ⊢
  rw [e]
  simp only [Option.bind_some]
  rw [DecodeRow_is (by omega), decR_enc hn hr]
  simp
theorem dec_loop {l : List UInt8} (hl : l.length ≤ 4194304) : ∀ (rows : List Rw) (pre : List UInt8) (acc : List Rw), l = pre ++ rows.flatMap encW → acc.length + rows.length ≤ 12 → (∀ row ∈ rows, rowE row = 0) → (∀ row ∈ rows, ∀ v ∈ row, In64 v.2.1) →
    loop (entry_DecodeReply.st1 l) ((pre.length : Int), false, acc, (rows.length : Int)) = some ((l.length : Int), false, acc ++ rows)
  | [], pre, acc, h, ha, hr, hn => by
    have h : l = pre := by simpa using h
    subst h
    rw [loop_last (r := ((l.length : Int), false, acc)) (by unfold entry_DecodeReply.st1; rw [ite_df (by simp)]; unfold entry_DecodeReply.k3; simp)]
    simp
  | row :: rows, pre, acc, h, ha, hr, hn => by
    rw [List.flatMap_cons] at h
    have e := rd_row (pre := pre) (suf := rows.flatMap encW) (hr row (by simp)) (hn row (by simp)) (by rw [← h]; exact hl)
    rw [← h] at e
    have ha' : acc.length + rows.length + 1 ≤ 12 := by simp at ha; omega
    have hs : entry_DecodeReply.st1 l ((pre.length : Int), false, acc, ((row :: rows).length : Int)) = some (.inl (((pre ++ encW row).length : Int), false, acc ++ [row], (rows.length : Int))) := by
      unfold entry_DecodeReply.st1
      rw [ite_dt (by simp only [List.length_cons]; omega)]
      unfold entry_DecodeReply.k3
      simp only [Bool.not_false, if_true]
      rw [e]
      simp only [Option.bind_some]
      rw [chk_pos (by simp; omega), i64_id (by simp; omega)]
      congr 4
      simp
    rw [loop_more hs, dec_loop hl rows (pre ++ encW row) (acc ++ [row]) (by rw [h]; simp) (by simp; omega) (fun x hx => hr x (by simp [hx])) (fun x hx => hn x (by simp [hx]))]
    simp
theorem DecodeReply_is {r : Rep} (hf : FitsRep r) (hp : replyP r = true) : entry_DecodeReply.impl (encRep r) = some (r, 0) := by
  have hlen := encRep_len hp
  have hE := EncodeReply_is hf
  rw [if_pos hp] at hE
  have hp' := hp
  unfold replyP at hp'
  simp only [Bool.and_eq_true, decide_eq_true_eq] at hp'
  obtain ⟨⟨h1, h2, h3, h4, h5⟩, h6⟩ := hp'
  obtain ⟨n, hn⟩ := Int.eq_ofNat_of_zero_le h1
  obtain ⟨q, hq⟩ := Int.eq_ofNat_of_zero_le h3
  have l1 : encRep r = [] ++ (uint n ++ (u8 r.2.1 :: u8 (r.2.2.length : Int) :: r.2.2.flatMap encW)) := by unfold encRep; rw [hn]; simp
  have l2 : encRep r = uint n ++ (u8 r.2.1 :: (u8 (r.2.2.length : Int) :: r.2.2.flatMap encW)) := by rw [l1]; simp
  have l3 : encRep r = (uint n ++ [u8 r.2.1]) ++ (u8 (r.2.2.length : Int) :: r.2.2.flatMap encW) := by rw [l1]; simp
  have l4 : encRep r = (uint n ++ [u8 r.2.1] ++ [u8 (r.2.2.length : Int)]) ++ r.2.2.flatMap encW := by rw [l1]; simp
  have e1 := rd_uint (pre := []) (n := n) (suf := u8 r.2.1 :: u8 (r.2.2.length : Int) :: r.2.2.flatMap encW) (by omega) (by rw [← l1]; omega)
  rw [← l1] at e1
  have e2 := rd_byte (pre := uint n) (b := u8 r.2.1) (suf := u8 (r.2.2.length : Int) :: r.2.2.flatMap encW) (by rw [← l2]; omega)
  rw [← l2] at e2
  have e3 := rd_byte (pre := uint n ++ [u8 r.2.1]) (b := u8 (r.2.2.length : Int)) (suf := r.2.2.flatMap encW) (by rw [← l3]; omega)
  rw [← l3] at e3
  have v2 : ((u8 r.2.1).toNat : Int) = r.2.1 := by rw [hq]; simp [u8, UInt8.toNat_ofNat']; omega
  have v3 : ((u8 (r.2.2.length : Int)).toNat : Int) = (r.2.2.length : Int) := by simp [u8, UInt8.toNat_ofNat']; omega
  have lp := dec_loop (l := encRep r) (by omega) r.2.2 (uint n ++ [u8 r.2.1] ++ [u8 (r.2.2.length : Int)]) [] l4 (by simpa using h5) (fun row hr => of_decide_eq_true (List.all_eq_true.1 h6 row hr)) (fun row hr v hv => (hf row hr v hv).1)
  have e1' : entry_reader_uint.impl (encRep r, 0, false) = some ((n : Int), (encRep r, ((uint n).length : Int), false)) := e1
  unfold entry_DecodeReply.impl
  rw [e1']
  simp only [Option.bind_some]
  rw [e2]
  simp only [Option.bind_some]
  rw [e3]
  simp only [Option.bind_some]
  rw [v3, lp]
  simp only [Option.bind_some, List.nil_append]
  unfold entry_DecodeReply.k1
  simp only [Bool.false_eq_true, if_false, v2]
  rw [← hn]
  have hE' : entry_EncodeReply.impl (r.1, r.2.1, r.2.2) = some (encRep r, 0) := hE
  rw [hE']
  simp only [Option.bind_some, decide_true, if_true, bytes_Equal.impl, Bool.not_true]
  unfold entry_DecodeReply.k2
  simp only [Bool.false_eq_true, if_false]
end Go.Proofs.YtpogdeibkghhaaaDoor
