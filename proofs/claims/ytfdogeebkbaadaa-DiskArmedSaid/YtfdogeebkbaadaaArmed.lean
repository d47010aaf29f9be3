/- Layer 3: power goes at the armed call. -/
import Derived.Test.YtfdogeebkbaadaaTold3
import Derived.Test.YtfdogeebkbaadaaTorn
import Derived.Test.YtfdogeebkbaadaaBits
set_option linter.unusedVariables false
set_option linter.unusedSimpArgs false
namespace Go.Proofs.Ytfdogeebkbaadaa
open Go.RowKit
set_option maxHeartbeats 4000000
set_option maxRecDepth 20000

/-- The disk when i of the calls are done and the n-th is armed. -/
def ArmI (n i : Int) (D : Dk) : Prop := D.blocks = 4 ∧ D.opens.length ≤ i ∧
  ((i < n ∧ D.down = false ∧ D.armed = ⟨n - i, 0, 0, 0⟩ ∧ D.life = 0) ∨ (n ≤ i ∧ D.down = true ∧ D.life = 1 ∧ D.armed = Loss.none))
theorem ArmI.len {n i : Int} {D : Dk} (h : ArmI n i D) (hi : i ≤ 24) : D.opens.length < 4294967295 := by have := h.2.1; omega
theorem ArmI.after {n i : Int} {D : Dk} (h : ArmI n i D) (h0 : 0 ≤ i) (hn : n ≤ 16) : D.armed.after < 9223372036854775808 := by
  rcases h.2.2 with ⟨_, _, h, _⟩ | ⟨_, _, _, h⟩
  · rw [h]; simp; omega
  · rw [h]; simp [Loss.none]
/-- A strike, or none. -/
theorem ArmI.strikes {n i : Int} {D : Dk} (h : ArmI n i D) (hd : D.down = false) : 
    ((strikesOf D).1 = true ∧ i = n - 1 ∧ ArmI n (i + 1) (strikesOf D).2) ∨ ((strikesOf D).1 = false ∧ i < n - 1 ∧ (strikesOf D).2 = { D with armed := ⟨n - (i + 1), 0, 0, 0⟩ }) := by
  obtain ⟨blocks, kept, opens, down, life, armed⟩ := D
  obtain ⟨hb, hl, h⟩ := h
  simp only at hd hb hl h
  subst hd
  rcases h with ⟨h1, _, rfl, rfl⟩ | ⟨_, h, _⟩
  · unfold strikesOf
    simp only
    rw [if_neg (by omega)]
    split
    · right
      refine ⟨rfl, by omega, ?_⟩
      rw [show n - (i + 1) = n - i - 1 by omega]
    · left
      refine ⟨rfl, by omega, hb, ?_, .inr ⟨by omega, ?_⟩⟩
      · simp [cutOf]; omega
      · simp [cutOf, RowKit.wrap64]
  · cases h
theorem ArmI.write {n i : Int} {D : Dk} (h : ArmI n i D) {q : Int} {lb : List UInt8} (h0 : 0 ≤ i) (hq : 0 ≤ q) (hq4 : q < 4) (hlb : lb.length ≤ 8192) : ((writeOf D q lb).1 = 0 ↔ i < n - 1) ∧ ArmI n (i + 1) (writeOf D q lb).2 := by
  cases hd : D.down with
  | true =>
    rcases h.2.2 with ⟨_, h2, _⟩ | ⟨h1, _, h2, h3⟩
    · rw [hd] at h2; cases h2
    · unfold writeOf
      rw [if_pos hd]
      exact ⟨by simp; omega, h.1, by have := h.2.1; simp only; omega, .inr ⟨by omega, hd, h2, h3⟩⟩
  | false =>
    have hs := h.strikes hd
    obtain ⟨blocks, kept, opens, down, life, armed⟩ := D
    have hb := h.1
    simp only at hd hb
    subst hd
    unfold writeOf
    simp only [Bool.false_eq_true, if_false]
    rw [if_neg (by omega)]
    rcases hs with ⟨s1, s2, s3⟩ | ⟨s1, s2, s3⟩
    · rw [if_pos s1]
      exact ⟨by simp; omega, s3⟩
    · rw [if_neg (by rw [s1]; simp), s3]
      refine ⟨by simp; omega, hb, ?_, .inl ⟨by omega, rfl, rfl, ?_⟩⟩
      · have := h.2.1; simp at this ⊢; omega
      · rcases h.2.2 with ⟨_, _, _, h⟩ | ⟨_, h, _⟩
        · exact h
        · cases h
theorem ArmI.flush {n i : Int} {D : Dk} (h : ArmI n i D) (h0 : 0 ≤ i) : ((flushOf D).1 = 0 ↔ i < n - 1) ∧ ArmI n (i + 1) (flushOf D).2 := by
  cases hd : D.down with
  | true =>
    rcases h.2.2 with ⟨_, h2, _⟩ | ⟨h1, _, h2, h3⟩
    · rw [hd] at h2; cases h2
    · unfold flushOf
      rw [if_pos hd]
      exact ⟨by simp; omega, h.1, by have := h.2.1; simp only; omega, .inr ⟨by omega, hd, h2, h3⟩⟩
  | false =>
    have hs := h.strikes hd
    obtain ⟨blocks, kept, opens, down, life, armed⟩ := D
    have hb := h.1
    simp only at hd hb
    subst hd
    unfold flushOf
    simp only [Bool.false_eq_true, if_false]
    rcases hs with ⟨s1, s2, s3⟩ | ⟨s1, s2, s3⟩
    · rw [if_pos s1]
      exact ⟨by simp; omega, s3⟩
    · rw [if_neg (by rw [s1]; simp), s3]
      refine ⟨by simp; omega, hb, ?_, .inl ⟨by omega, rfl, rfl, ?_⟩⟩
      · simp; omega
      · rcases h.2.2 with ⟨_, _, _, h⟩ | ⟨_, h, _⟩
        · exact h
        · cases h
theorem ArmI.down {n i : Int} {D : Dk} (h : ArmI n i D) : D.down = decide (n - 1 ≤ i - 1) := by
  rcases h.2.2 with ⟨h1, h2, _⟩ | ⟨h1, h2, _⟩
  · rw [h2]; simp; omega
  · rw [h2]; simp; omega
theorem ArmI.nine {n i : Int} {D : Dk} (h : ArmI n i D) : ∃ c, c ≠ 0 ∧ writeOf D 9 [] = (c, D) := by
  unfold writeOf
  split
  · exact ⟨20, by decide, rfl⟩
  · rw [if_pos (by have := h.1; omega)]; exact ⟨1, by decide, rfl⟩

/-- A disk that is up and not armed. -/
def UpI (D : Dk) : Prop := D.blocks = 4 ∧ D.opens.length ≤ 24 ∧ D.down = false ∧ D.armed = Loss.none
theorem UpI.both {D : Dk} (h : UpI D) {q : Int} (hq : 0 ≤ q) (hq4 : q < 4) : (writeOf D q []).1 = 0 ∧ (writeOf D q []).2.opens.length < 4294967295 ∧ (writeOf D q []).2.armed.after < 9223372036854775808 ∧ (flushOf (writeOf D q []).2).1 = 0 ∧ UpI (flushOf (writeOf D q []).2).2 := by
  obtain ⟨blocks, kept, opens, down, life, armed⟩ := D
  obtain ⟨h1, h2, h3, h4⟩ := h
  simp only at h1 h2 h3 h4
  subst h1 h3 h4
  have e : writeOf ⟨4, kept, opens, false, life, Loss.none⟩ q [] = (0, ⟨4, kept, opens ++ [(q, pad [])], false, life, Loss.none⟩) := by
    simp [writeOf, strikesOf, Loss.none]; omega
  rw [e]
  refine ⟨rfl, by simp; omega, by simp [Loss.none], by simp [flushOf, strikesOf, Loss.none], by simp [flushOf, strikesOf, Loss.none, UpI]⟩
section
variable {B : World} {own0 : PH} {l : List HP} {w : World}
theorem armed_c (hS : St B own0 l w) {A : Option Addr} {fl : List Bool} {c : Nat} (r : Rd EB (roOf B own0) A fl) {n0 : Int} :
    Calls Try.prog 6 #[.slice A fl.length c, .int .i64 n0] w fun e w => e = .returned (.bool true) ∧ ∃ l', St B own0 l' w := by
  have hand := i64_and15 n0
  have hn1 : 1 ≤ n0 % 16 + 1 := by omega
  have hn2 : n0 % 16 + 1 ≤ 16 := by omega
  go_enter Try.func6, Try.ntmps6
  go_wp2_with fail
  refine (new_c hS (by decide) (by decide)).mono ?_
  clear hS
  rintro e w ⟨p, rfl, hS⟩
  go_wp2_with fail
  clear hand
  generalize n0 % 16 + 1 = n at *
  refine (arm_c hS ⟨n, 0, 0, 0⟩).mono ?_
  rw [show (if (newDk 4).down then newDk 4 else { newDk 4 with armed := ⟨n, 0, 0, 0⟩ }) = ⟨4, [], [], false, 0, ⟨n, 0, 0, 0⟩⟩ from rfl]
  clear hS
  rintro e w ⟨rfl, hS⟩
  have hI : ArmI n 0 ⟨4, [], [], false, 0, ⟨n, 0, 0, 0⟩⟩ := ⟨rfl, by simp, .inl ⟨by omega, rfl, by simp, rfl⟩⟩
  generalize (⟨4, [], [], false, 0, ⟨n, 0, 0, 0⟩⟩ : Dk) = D0 at *
  go_wp2_with fail
  go_loopw [7] (fun i wr => ∃ (k : Nat) (D : Dk), k ≤ 24 ∧ i = .int .i64 (k : Int) ∧ ArmI n k D ∧ St B own0 (DiskR p D :: l) wr) (fun i _ => (24 - intOf i).toNat)
  case atStart => exact ⟨0, D0, by omega, rfl, hI, hS⟩
  case round =>
    clear hS hI
    obtain ⟨k, D, hk, rfl, hI, hS⟩ := hrel
    obtain ⟨w, rfl⟩ : ∃ w, w = wr := ⟨_, rfl⟩
    have hk1 : (0 : Int) ≤ (k : Int) := by omega
    by_cases hk2 : k < fl.length ∧ k < 24
    · have h2 : decide ((k : Int) < (fl.length : Int)) = true := by simp; omega
      have h3 : decide ((k : Int) < 24) = true := by simp; omega
      have hm : bits .and .i64 (k : Int) 3 = (k : Int) % 4 := i64_and3 _
      cases hb : fl.getD (k : Int).toNat default with
      | true =>
        have hf := hI.flush hk1
        go_wp2_with (first
          | (refine st_rd1 r hS.ro rfl rfl rfl rfl (by omega) (by omega) (by omega) rfl rfl (fun _ => rfl) (Nat.le_of_ble_eq_true rfl) ?_; intro pe; rw [hb]))
        refine (flush_c (hI.len (by omega)) (hI.after hk1 (by omega)) hS).mono ?_
        generalize (flushOf D).1 = e1 at *
        generalize (flushOf D).2 = D1 at *
        clear hS
        rintro e w ⟨rfl, hS⟩
        obtain ⟨hf1, hI⟩ := hf
        obtain ⟨c9, hc9, h9⟩ := hI.nine
        have hdn := hI.down
        have H9 := Lib.hid h9
        have HI := Lib.hid hI
        have h10 : (c9 == 0) = false := by simpa using hc9
        clear h9 hI hc9
        by_cases hkn : (k : Int) < n - 1
        · have he0 : e1 = 0 := hf1.2 hkn
          subst he0
          have h4 : decide ((k : Int) < n - 1) = true := by simpa using hkn
          have h5 : decide (n - 1 ≤ (k : Int)) = false := by simp; omega
          have h6 : D1.down = false := by rw [hdn]; simp; omega
          clear hf1 hdn
          go_wp2_with (first
            | (go_at_call 20; refine (down_c hS).mono ?_; clear hS; rintro e w ⟨rfl, hS⟩; rw [h6])
            | (go_at_call 11; refine (write_c (HI.out.len (by omega)) (HI.out.after (by omega) (by omega)) hS (lb := []) (c := 0) (A0 := none) Rd.nil (by decide)).mono ?_; rw [H9.out]; clear hS; rintro e w ⟨rfl, hS⟩))
          go_roundw
          case measure => simp [intOf]; omega
          case rel => exact ⟨k + 1, D1, by omega, by go_num, HI.out, hS⟩
        · have he0 : (e1 == 0) = false := by
            have : ¬ e1 = 0 := fun h => hkn (hf1.1 h)
            simpa using this
          have h4 : decide ((k : Int) < n - 1) = false := by simpa using hkn
          have h5 : decide (n - 1 ≤ (k : Int)) = true := by simp; omega
          have h6 : D1.down = true := by rw [hdn]; simp; omega
          clear hf1 hdn
          go_wp2_with (first
            | (go_at_call 20; refine (down_c hS).mono ?_; clear hS; rintro e w ⟨rfl, hS⟩; rw [h6])
            | (go_at_call 11; refine (write_c (HI.out.len (by omega)) (HI.out.after (by omega) (by omega)) hS (lb := []) (c := 0) (A0 := none) Rd.nil (by decide)).mono ?_; rw [H9.out]; clear hS; rintro e w ⟨rfl, hS⟩))
          go_roundw
          case measure => simp [intOf]; omega
          case rel => exact ⟨k + 1, D1, by omega, by go_num, HI.out, hS⟩
      | false =>
        go_wp2_with (first
          | (refine st_rd1 r hS.ro rfl rfl rfl rfl (by omega) (by omega) (by omega) rfl rfl (fun _ => rfl) (Nat.le_of_ble_eq_true rfl) ?_; intro pe; rw [hb])
          | (show wpList _ _ _ ({ dst := _, op := Op.buildSlice _ _ _, type := _, pos := _, after := _, guard := _ } :: _) _ _; (refine st_buildSlice hS rfl rfl rfl rfl _ (by go_simp; first | done | exact rfl) ?_); clear hS; intro b1 w hS; (try simp only [List.nil_append, List.cons_append, List.set_cons_zero, List.set_cons_succ, List.append_assoc, Value.cells, splice, List.take_succ_cons, List.take_zero, List.drop_succ_cons, List.drop_zero, List.length_cons, List.length_nil, Nat.zero_add, Nat.reduceAdd, Act.eval, Array.getD_eq_getD_getElem?, List.getElem?_toArray, List.getElem?_cons_succ, List.getElem?_cons_zero, Option.getD_some, List.toList_toArray] at hS)))
        have hf := hI.write (q := (k : Int) % 4) (lb := [UInt8.ofNat k]) hk1 (by omega) (by omega) (by simp)
        have ek : ([UInt8.ofNat k] : List UInt8).map b8 = [Value.int .u8 (k : Int)] := by
          simp only [List.map_cons, List.map_nil, b8, UInt8.toNat_ofNat']
          rw [Nat.mod_eq_of_lt (by omega)]
        rw [← ek] at hS
        obtain ⟨o1, hS1, back, ro, oth⟩ := St.call (pre := [_]) (hS.front 1 rfl)
        obtain ⟨h, hh, hle⟩ := oth 0 _ rfl
        refine (write_c (lb := [UInt8.ofNat k]) (hI.len (by omega)) (hI.after hk1 (by omega)) hS1 ((Rd8.own hh).up hle) (by simp)).mono ?_
        generalize (writeOf D ((k : Int) % 4) [UInt8.ofNat k]).1 = e1 at *
        generalize (writeOf D ((k : Int) % 4) [UInt8.ofNat k]).2 = D1 at *
        rintro e w ⟨rfl, hS2⟩
        replace hS := back _ _ hS2
        simp only [List.cons_append, List.nil_append, List.eraseIdx_cons_succ, List.eraseIdx_cons_zero] at hS
        replace hS := hS.erase 1 rfl
        simp only [List.eraseIdx_cons_succ, List.eraseIdx_cons_zero] at hS
        clear back oth ro hS1 hS2 hh hle ek
        obtain ⟨hf1, hI⟩ := hf
        obtain ⟨c9, hc9, h9⟩ := hI.nine
        have hdn := hI.down
        have H9 := Lib.hid h9
        have HI := Lib.hid hI
        have h10 : (c9 == 0) = false := by simpa using hc9
        clear h9 hI hc9
        by_cases hkn : (k : Int) < n - 1
        · have he0 : e1 = 0 := hf1.2 hkn
          subst he0
          have h4 : decide ((k : Int) < n - 1) = true := by simpa using hkn
          have h5 : decide (n - 1 ≤ (k : Int)) = false := by simp; omega
          have h6 : D1.down = false := by rw [hdn]; simp; omega
          clear hf1 hdn
          go_wp2_with (first
            | (go_at_call 20; refine (down_c hS).mono ?_; clear hS; rintro e w ⟨rfl, hS⟩; rw [h6])
            | (go_at_call 11; refine (write_c (HI.out.len (by omega)) (HI.out.after (by omega) (by omega)) hS (lb := []) (c := 0) (A0 := none) Rd.nil (by decide)).mono ?_; rw [H9.out]; clear hS; rintro e w ⟨rfl, hS⟩))
          go_roundw
          case measure => simp [intOf]; omega
          case rel => exact ⟨k + 1, D1, by omega, by go_num, HI.out, hS⟩
        · have he0 : (e1 == 0) = false := by
            have : ¬ e1 = 0 := fun h => hkn (hf1.1 h)
            simpa using this
          have h4 : decide ((k : Int) < n - 1) = false := by simpa using hkn
          have h5 : decide (n - 1 ≤ (k : Int)) = true := by simp; omega
          have h6 : D1.down = true := by rw [hdn]; simp; omega
          clear hf1 hdn
          go_wp2_with (first
            | (go_at_call 20; refine (down_c hS).mono ?_; clear hS; rintro e w ⟨rfl, hS⟩; rw [h6])
            | (go_at_call 11; refine (write_c (HI.out.len (by omega)) (HI.out.after (by omega) (by omega)) hS (lb := []) (c := 0) (A0 := none) Rd.nil (by decide)).mono ?_; rw [H9.out]; clear hS; rintro e w ⟨rfl, hS⟩))
          go_roundw
          case measure => simp [intOf]; omega
          case rel => exact ⟨k + 1, D1, by omega, by go_num, HI.out, hS⟩
    · have hU : UpI { D with down := false, armed := Loss.none } := ⟨hI.1, by have := hI.2.1; simp only; omega, rfl, rfl⟩
      obtain ⟨blocks, kept, opens, down, life, armed⟩ := D
      have hend : (k < fl.length ∧ ¬ k < 24) ∨ ¬ k < fl.length := by omega
      have hbx : (down = false ∧ life = 0) ∨ (down = true ∧ life = 1) := by
        rcases hI.2.2 with ⟨_, h1, _, h2⟩ | ⟨_, h1, h2, _⟩
        · exact .inl ⟨h1, h2⟩
        · exact .inr ⟨h1, h2⟩
      have HU := Lib.hid hU
      clear hU hI hk2
      rcases hend with ⟨h2, H3⟩ | H3 <;> rcases hbx with ⟨rfl, rfl⟩ | ⟨rfl, rfl⟩
      · go_wp2_with (first
          | (go_at_call 20; refine (down_c hS).mono ?_; clear hS; rintro e w ⟨rfl, hS⟩)
          | (go_at_call 13; refine (restart_c hS).mono ?_; clear hS; rintro e w ⟨rfl, hS⟩)
          | (go_at_call 21; refine (life_c hS).mono ?_; clear hS; rintro e w ⟨rfl, hS⟩)
          | (go_at_call 19; refine (arm_c hS ⟨0, 0, 0, 0⟩).mono ?_; clear hS; rintro e w ⟨rfl, hS⟩))
        have hU := HU.out
        replace hS : St B own0 (DiskR p ⟨blocks, kept, opens, false, 0, Loss.none⟩ :: l) w := hS
        generalize (⟨blocks, kept, opens, false, 0, Loss.none⟩ : Dk) = D1 at *
        clear HU H3
        go_loopw [10] (fun i wr => ∃ (k : Nat) (D : Dk), k ≤ 20 ∧ i = .int .i64 (k : Int) ∧ UpI D ∧ St B own0 (DiskR p D :: l) wr) (fun i _ => (20 - intOf i).toNat)
        case atStart => exact ⟨0, D1, by omega, rfl, hU, hS⟩
        case round =>
          clear hS hU
          obtain ⟨k, D, hk, rfl, hU, hS⟩ := hrel
          obtain ⟨w, rfl⟩ : ∃ w, w = wr := ⟨_, rfl⟩
          by_cases hk2 : k < 20
          · have h2 : decide ((k : Int) < 20) = true := by simp; omega
            have hm : bits .and .i64 (k : Int) 3 = (k : Int) % 4 := i64_and3 _
            obtain ⟨g1, g2, g3, g4, g5⟩ := hU.both (q := (k : Int) % 4) (by omega) (by omega)
            have g0 : D.opens.length < 4294967295 := by have := hU.2.1; omega
            have g00 : D.armed.after < 9223372036854775808 := by rw [hU.2.2.2]; decide
            go_wp2_with fail
            refine (write_c g0 g00 hS (lb := []) (c := 0) (A0 := none) Rd.nil (by decide)).mono ?_
            rw [g1]
            generalize (writeOf D ((k : Int) % 4) []).2 = D2 at *
            clear hS g1
            rintro e w ⟨rfl, hS⟩
            go_wp2_with fail
            refine (flush_c g2 g3 hS).mono ?_
            rw [g4]
            generalize (flushOf D2).2 = D3 at *
            clear hS g4
            rintro e w ⟨rfl, hS⟩
            go_wp2
            go_roundw
            case measure => simp [intOf]; omega
            case rel => exact ⟨k + 1, D3, by omega, by go_num, g5, hS⟩
          · have h2 : decide ((k : Int) < 20) = false := by simp; omega
            go_wp2_with fail
            refine (told_c hS).mono ?_
            clear hS
            rintro e w ⟨rfl, hS⟩
            go_wp2
            go_ret
            exact ⟨rfl, _, hS⟩
      · go_wp2_with (first
          | (go_at_call 20; refine (down_c hS).mono ?_; clear hS; rintro e w ⟨rfl, hS⟩)
          | (go_at_call 13; refine (restart_c hS).mono ?_; clear hS; rintro e w ⟨rfl, hS⟩)
          | (go_at_call 21; refine (life_c hS).mono ?_; clear hS; rintro e w ⟨rfl, hS⟩)
          | (go_at_call 19; refine (arm_c hS ⟨0, 0, 0, 0⟩).mono ?_; clear hS; rintro e w ⟨rfl, hS⟩))
        have hU := HU.out
        replace hS : St B own0 (DiskR p ⟨blocks, kept, opens, false, 1, Loss.none⟩ :: l) w := hS
        generalize (⟨blocks, kept, opens, false, 1, Loss.none⟩ : Dk) = D1 at *
        clear HU H3
        go_loopw [10] (fun i wr => ∃ (k : Nat) (D : Dk), k ≤ 20 ∧ i = .int .i64 (k : Int) ∧ UpI D ∧ St B own0 (DiskR p D :: l) wr) (fun i _ => (20 - intOf i).toNat)
        case atStart => exact ⟨0, D1, by omega, rfl, hU, hS⟩
        case round =>
          clear hS hU
          obtain ⟨k, D, hk, rfl, hU, hS⟩ := hrel
          obtain ⟨w, rfl⟩ : ∃ w, w = wr := ⟨_, rfl⟩
          by_cases hk2 : k < 20
          · have h2 : decide ((k : Int) < 20) = true := by simp; omega
            have hm : bits .and .i64 (k : Int) 3 = (k : Int) % 4 := i64_and3 _
            obtain ⟨g1, g2, g3, g4, g5⟩ := hU.both (q := (k : Int) % 4) (by omega) (by omega)
            have g0 : D.opens.length < 4294967295 := by have := hU.2.1; omega
            have g00 : D.armed.after < 9223372036854775808 := by rw [hU.2.2.2]; decide
            go_wp2_with fail
            refine (write_c g0 g00 hS (lb := []) (c := 0) (A0 := none) Rd.nil (by decide)).mono ?_
            rw [g1]
            generalize (writeOf D ((k : Int) % 4) []).2 = D2 at *
            clear hS g1
            rintro e w ⟨rfl, hS⟩
            go_wp2_with fail
            refine (flush_c g2 g3 hS).mono ?_
            rw [g4]
            generalize (flushOf D2).2 = D3 at *
            clear hS g4
            rintro e w ⟨rfl, hS⟩
            go_wp2
            go_roundw
            case measure => simp [intOf]; omega
            case rel => exact ⟨k + 1, D3, by omega, by go_num, g5, hS⟩
          · have h2 : decide ((k : Int) < 20) = false := by simp; omega
            go_wp2_with fail
            refine (told_c hS).mono ?_
            clear hS
            rintro e w ⟨rfl, hS⟩
            go_wp2
            go_ret
            exact ⟨rfl, _, hS⟩
      · go_wp2_with (first
          | (go_at_call 20; refine (down_c hS).mono ?_; clear hS; rintro e w ⟨rfl, hS⟩)
          | (go_at_call 13; refine (restart_c hS).mono ?_; clear hS; rintro e w ⟨rfl, hS⟩)
          | (go_at_call 21; refine (life_c hS).mono ?_; clear hS; rintro e w ⟨rfl, hS⟩)
          | (go_at_call 19; refine (arm_c hS ⟨0, 0, 0, 0⟩).mono ?_; clear hS; rintro e w ⟨rfl, hS⟩))
        have hU := HU.out
        replace hS : St B own0 (DiskR p ⟨blocks, kept, opens, false, 0, Loss.none⟩ :: l) w := hS
        generalize (⟨blocks, kept, opens, false, 0, Loss.none⟩ : Dk) = D1 at *
        clear HU H3
        go_loopw [10] (fun i wr => ∃ (k : Nat) (D : Dk), k ≤ 20 ∧ i = .int .i64 (k : Int) ∧ UpI D ∧ St B own0 (DiskR p D :: l) wr) (fun i _ => (20 - intOf i).toNat)
        case atStart => exact ⟨0, D1, by omega, rfl, hU, hS⟩
        case round =>
          clear hS hU
          obtain ⟨k, D, hk, rfl, hU, hS⟩ := hrel
          obtain ⟨w, rfl⟩ : ∃ w, w = wr := ⟨_, rfl⟩
          by_cases hk2 : k < 20
          · have h2 : decide ((k : Int) < 20) = true := by simp; omega
            have hm : bits .and .i64 (k : Int) 3 = (k : Int) % 4 := i64_and3 _
            obtain ⟨g1, g2, g3, g4, g5⟩ := hU.both (q := (k : Int) % 4) (by omega) (by omega)
            have g0 : D.opens.length < 4294967295 := by have := hU.2.1; omega
            have g00 : D.armed.after < 9223372036854775808 := by rw [hU.2.2.2]; decide
            go_wp2_with fail
            refine (write_c g0 g00 hS (lb := []) (c := 0) (A0 := none) Rd.nil (by decide)).mono ?_
            rw [g1]
            generalize (writeOf D ((k : Int) % 4) []).2 = D2 at *
            clear hS g1
            rintro e w ⟨rfl, hS⟩
            go_wp2_with fail
            refine (flush_c g2 g3 hS).mono ?_
            rw [g4]
            generalize (flushOf D2).2 = D3 at *
            clear hS g4
            rintro e w ⟨rfl, hS⟩
            go_wp2
            go_roundw
            case measure => simp [intOf]; omega
            case rel => exact ⟨k + 1, D3, by omega, by go_num, g5, hS⟩
          · have h2 : decide ((k : Int) < 20) = false := by simp; omega
            go_wp2_with fail
            refine (told_c hS).mono ?_
            clear hS
            rintro e w ⟨rfl, hS⟩
            go_wp2
            go_ret
            exact ⟨rfl, _, hS⟩
      · go_wp2_with (first
          | (go_at_call 20; refine (down_c hS).mono ?_; clear hS; rintro e w ⟨rfl, hS⟩)
          | (go_at_call 13; refine (restart_c hS).mono ?_; clear hS; rintro e w ⟨rfl, hS⟩)
          | (go_at_call 21; refine (life_c hS).mono ?_; clear hS; rintro e w ⟨rfl, hS⟩)
          | (go_at_call 19; refine (arm_c hS ⟨0, 0, 0, 0⟩).mono ?_; clear hS; rintro e w ⟨rfl, hS⟩))
        have hU := HU.out
        replace hS : St B own0 (DiskR p ⟨blocks, kept, opens, false, 1, Loss.none⟩ :: l) w := hS
        generalize (⟨blocks, kept, opens, false, 1, Loss.none⟩ : Dk) = D1 at *
        clear HU H3
        go_loopw [10] (fun i wr => ∃ (k : Nat) (D : Dk), k ≤ 20 ∧ i = .int .i64 (k : Int) ∧ UpI D ∧ St B own0 (DiskR p D :: l) wr) (fun i _ => (20 - intOf i).toNat)
        case atStart => exact ⟨0, D1, by omega, rfl, hU, hS⟩
        case round =>
          clear hS hU
          obtain ⟨k, D, hk, rfl, hU, hS⟩ := hrel
          obtain ⟨w, rfl⟩ : ∃ w, w = wr := ⟨_, rfl⟩
          by_cases hk2 : k < 20
          · have h2 : decide ((k : Int) < 20) = true := by simp; omega
            have hm : bits .and .i64 (k : Int) 3 = (k : Int) % 4 := i64_and3 _
            obtain ⟨g1, g2, g3, g4, g5⟩ := hU.both (q := (k : Int) % 4) (by omega) (by omega)
            have g0 : D.opens.length < 4294967295 := by have := hU.2.1; omega
            have g00 : D.armed.after < 9223372036854775808 := by rw [hU.2.2.2]; decide
            go_wp2_with fail
            refine (write_c g0 g00 hS (lb := []) (c := 0) (A0 := none) Rd.nil (by decide)).mono ?_
            rw [g1]
            generalize (writeOf D ((k : Int) % 4) []).2 = D2 at *
            clear hS g1
            rintro e w ⟨rfl, hS⟩
            go_wp2_with fail
            refine (flush_c g2 g3 hS).mono ?_
            rw [g4]
            generalize (flushOf D2).2 = D3 at *
            clear hS g4
            rintro e w ⟨rfl, hS⟩
            go_wp2
            go_roundw
            case measure => simp [intOf]; omega
            case rel => exact ⟨k + 1, D3, by omega, by go_num, g5, hS⟩
          · have h2 : decide ((k : Int) < 20) = false := by simp; omega
            go_wp2_with fail
            refine (told_c hS).mono ?_
            clear hS
            rintro e w ⟨rfl, hS⟩
            go_wp2
            go_ret
            exact ⟨rfl, _, hS⟩
end
end Go.Proofs.Ytfdogeebkbaadaa
