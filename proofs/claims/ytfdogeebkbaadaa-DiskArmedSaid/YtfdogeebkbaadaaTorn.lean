/- Layer 3: a torn write. -/
import Derived.Test.YtfdogeebkbaadaaTold3
import Derived.Test.YtfdogeebkbaadaaStr
import Derived.RegionTactic
import Derived.BigRegion
set_option linter.unusedVariables false
set_option linter.unusedSimpArgs false
namespace Go.Proofs.Ytfdogeebkbaadaa
open Go.RowKit
set_option maxHeartbeats 4000000
set_option maxRecDepth 20000
def gb (l : List UInt8) (i : Int) : UInt8 := if 0 ≤ i then l.getD i.toNat 0 else 0
theorem pad_get (x : List UInt8) {k : Nat} (hk : k < 8192) : (pad x)[k]? = some (gb x k) := by
  have hb8 := blk_eq
  have hkb : k < (pad x).length := by rw [pad_length]; omega
  have : (pad x)[k] = gb x k := by
    unfold gb
    simp only [Int.natCast_nonneg, if_true, Int.toNat_natCast]
    by_cases hkx : k < x.length
    · have : k < min blk x.length := by omega
      simp [pad, List.getElem_append, hkx, List.getD_eq_getElem?_getD, this]
    · have : ¬ k < min blk x.length := by omega
      simp [pad, List.getElem_append, hkx, List.getD_eq_getElem?_getD, this]
  rw [List.getElem?_eq_getElem hkb, this]
section
variable {B : World} {own0 : PH} {l : List HP} {w : World}
theorem at_c (hS : St B own0 l w) (s : List UInt8) {i : Int} (h0 : 0 ≤ i) : Calls Try.prog 18 #[str s, .int .i64 i] w fun e w => e = .returned (b8 (gb s i)) ∧ St B own0 l w := by
  unfold str
  by_cases h : i < s.length
  · have h2 : (decide (i < (s.length : Int))) = true := by simpa using h
    have e1 : (ByteArray.mk s.toArray).size = s.length := rfl
    go_enter Try.func18, Try.ntmps18
    go_wp2
    go_ret
    refine ⟨?_, hS⟩
    have h3 : i.toNat < s.length := by omega
    have e2 : (ByteArray.mk s.toArray)[i.toNat]'(by rw [e1]; exact h3) = s[i.toNat] := by
      show s.toArray[i.toNat] = _
      simp
    rw [e2]
    simp [b8, gb, h0, List.getD_eq_getElem?_getD, h3]
  · have h2 : (decide (i < (s.length : Int))) = false := by simpa using h
    have e1 : (ByteArray.mk s.toArray).size = s.length := rfl
    go_enter Try.func18, Try.ntmps18
    go_wp2
    go_ret
    refine ⟨?_, hS⟩
    simp [b8, gb, h0, List.getD_eq_getElem?_getD, List.getElem?_eq_none (show s.length ≤ i.toNat by omega)]

theorem torn_c (hS : St B own0 l w) {A1 A2 : Option Addr} {old now : List UInt8} {c1 c2 : Nat} (r1 : Rd E8 (roOf B own0) A1 old) (r2 : Rd E8 (roOf B own0) A2 now) (k1 : old.length ≤ c1) (k2 : now.length ≤ c2) {cut : Int} :
    Calls Try.prog 5 #[.slice A1 old.length c1, .slice A2 now.length c2, .int .i64 cut] w fun e w => e = .returned (.bool true) ∧ ∃ l', St B own0 l' w := by
  go_enter Try.func5, Try.ntmps5
  go_wp2_with fail
  refine (new_c hS (by decide) (by decide)).mono ?_
  clear hS
  rintro e w ⟨p, rfl, hS⟩
  have m1 : 0 ≤ min (old.length : Int) 300 := by omega
  have m2 : min (old.length : Int) 300 ≤ (c1 : Int) := by omega
  have n1 : 0 ≤ min (now.length : Int) 300 := by omega
  have n2 : min (now.length : Int) 300 ≤ (c2 : Int) := by omega
  go_wp2_with fail
  go_region
  replace hS := hS.drew
  generalize w.drew = w at hS ⊢
  have ea : (min (old.length : Int) 300).toNat = (old.take 300).length := by rw [List.length_take]; omega
  have eb : (min (now.length : Int) 300).toNat = (now.take 300).length := by rw [List.length_take]; omega
  have la : (old.take 300).length ≤ 300 := by rw [List.length_take]; omega
  have lb : (now.take 300).length ≤ 300 := by rw [List.length_take]; omega
  rw [ea, eb]
  replace r1 := r1.take 300
  replace r2 := r2.take 300
  clear ea eb m1 m2 n1 n2 k1 k2
  generalize old.take 300 = a at *
  generalize now.take 300 = b at *
  go_wp2_with fail
  have e1 : writeOf (newDk 2) 1 a = (0, ⟨2, [], [(1, pad a)], false, 0, Loss.none⟩) := by
    simp [writeOf, newDk, strikesOf, Loss.none]; omega
  refine (write_c (by decide) (by decide) hS r1 (by omega)).mono ?_
  rw [e1]
  clear hS e1
  rintro e w ⟨rfl, hS⟩
  go_wp2_with fail
  have e2 : flushOf ⟨2, [], [(1, pad a)], false, 0, Loss.none⟩ = (0, ⟨2, [(1, pad a)], [], false, 0, Loss.none⟩) := by simp [flushOf, strikesOf, Loss.none, layK_full, pad_length, mset]
  refine (flush_c (by simp) (by simp [Loss.none]) hS).mono ?_
  rw [e2]
  clear hS e2
  rintro e w ⟨rfl, hS⟩
  go_wp2_with fail
  have e3 : writeOf ⟨2, [(1, pad a)], [], false, 0, Loss.none⟩ 1 b = (0, ⟨2, [(1, pad a)], [(1, pad b)], false, 0, Loss.none⟩) := by
    simp [writeOf, strikesOf, Loss.none]; omega
  refine (write_c (by simp) (by simp [Loss.none]) hS r2 (by omega)).mono ?_
  rw [e3]
  clear hS e3
  rintro e w ⟨rfl, hS⟩
  go_wp2_with fail
  refine (open_c hS).mono ?_
  clear hS
  rintro e w ⟨rfl, hS⟩
  go_wp2_with fail
  refine (cut_c (L := ⟨0, 18446744073709551615, 0, cut⟩) (by simp) hS).mono ?_
  have e5 : cutOf ⟨2, [(1, pad a)], [(1, pad b)], false, 0, Loss.none⟩ ⟨0, 18446744073709551615, 0, cut⟩ = ⟨2, [(1, (pad b).take (cutN ⟨0, 18446744073709551615, 0, cut⟩) ++ (pad a).drop (cutN ⟨0, 18446744073709551615, 0, cut⟩))], [], true, 1, Loss.none⟩ := by
    have f0 : fateOf ⟨0, 18446744073709551615, 0, cut⟩ 0 = 1 := rfl
    simp [cutOf, cutFold, cutStep, f0, layK, mset, mget, goodK, pad_pad, RowKit.wrap64]
  rw [e5]
  clear hS e5
  rintro e w ⟨rfl, hS⟩
  have hn : cutN ⟨0, 18446744073709551615, 0, cut⟩ ≤ 8192 := by unfold cutN; omega
  have hn' : min (max cut 0) 8192 = (cutN ⟨0, 18446744073709551615, 0, cut⟩ : Int) := by simp only [cutN]; omega
  generalize cutN ⟨0, 18446744073709551615, 0, cut⟩ = n at *
  go_wp2_with fail
  refine (restart_c hS).mono ?_
  clear hS
  rintro e w ⟨rfl, hS⟩
  go_wp2_with fail
  refine (read_c (by simp) hS (by rfl)).mono ?_
  clear hS
  rintro e w ⟨bc, rfl, hS⟩
  have hlen : ((pad b).take n ++ (pad a).drop n).length = blk := by simp [pad_length]; rw [blk_eq]; omega
  rw [show readOf ⟨2, [(1, (pad b).take n ++ (pad a).drop n)], [], false, 1, Loss.none⟩ 1 = (pad b).take n ++ (pad a).drop n from by
    simp only [readOf, lastOpen, goodK, mget]
    exact pad_self hlen] at hS
  have hb1 : ((blk : Nat) == 8192) = true := by decide
  have hb2 : (((blk : Nat) : Int) == 8192) = true := by decide
  go_wp2_with (first
    | (go_at_call 17; refine (open_c (hS.front 1 rfl)).mono ?_; clear hS; rintro e w ⟨rfl, hS⟩; simp only [List.eraseIdx_cons_succ, List.eraseIdx_cons_zero] at hS))
  have hcell : ∀ k : Nat, k < 8192 → (((pad b).take n ++ (pad a).drop n).map b8)[k]? = some (b8 (if (k : Int) < n then gb b k else gb a k)) := by
    intro k hk
    have hb8 := blk_eq
    rw [List.getElem?_map, List.getElem?_append, List.length_take, pad_length]
    by_cases hkn : (k : Int) < n
    · rw [if_pos (by omega), if_pos hkn, List.getElem?_take, if_pos (by omega), pad_get b hk]; rfl
    · rw [if_neg (by omega), if_neg hkn, List.getElem?_drop, show n + (k - min n blk) = k by omega, pad_get a hk]; rfl
  generalize ((pad b).take n ++ (pad a).drop n) = res at *
  have HC := Lib.hid hcell
  clear hcell
  go_loopw [14] (fun i wr => ∃ k : Nat, k ≤ 8192 ∧ i = .int .i64 (k : Int) ∧ St B own0 (DiskR p ⟨2, [(1, res)], [], false, 1, Loss.none⟩ :: Cl bc 5 (res.map b8) :: l) wr) (fun i _ => (8192 - intOf i).toNat)
  case atStart => exact ⟨0, by omega, rfl, hS⟩
  case round =>
    clear hS
    obtain ⟨k, hk, rfl, hS⟩ := hrel
    obtain ⟨w, rfl⟩ : ∃ w, w = wr := ⟨_, rfl⟩
    have hk1 : (0 : Int) ≤ (k : Int) := by omega
    by_cases hk2 : k < 8192
    · have h2 : decide ((k : Int) < 8192) = true := by simp; omega
      have hc := HC.out k hk2
      have hk3 : (k : Int) < (blk : Int) := by rw [blk_eq]; omega
      by_cases hkn : (k : Int) < n
      · have h3 : decide ((k : Int) < (n : Int)) = true := by simpa using hkn
        have h4 : decide ((k : Int) ≥ (n : Int)) = false := by simp; omega
        have h5 : decide ((n : Int) ≤ (k : Int)) = false := by simp; omega
        rw [if_pos hkn] at hc
        have HC2 := Lib.hid hc
        clear hc
        go_wp2_with fail
        (refine wpTill_start (z := 99) (S := fun w => St B own0 (DiskR p ⟨2, [(1, res)], [], false, 1, Loss.none⟩ :: Cl bc 5 (res.map b8) :: l) w) (by kernel_rfl) ?_); (replace hS := hS.drew); (generalize w.drew = w at hS ⊢)
        have hSw := hS
        (refine wpTill_chainF [0, 1, 2, 3, 4, 5, 6, 7, 8, 9, 10] rfl (by kernel_rfl) (by kernel_rfl) rfl (fun d _ _ _ _ h => by cases d <;> exact h) hSw ?_); (refine chain_step rfl (yi_move rfl rfl rfl) rfl ?_); (simp only [List.setIfInBounds_toArray, List.set_cons_succ, List.set_cons_zero, Nat.zero_add, Nat.reduceAdd]); (refine chain_step rfl (yi_move rfl rfl rfl) rfl ?_); (simp only [List.setIfInBounds_toArray, List.set_cons_succ, List.set_cons_zero, Nat.zero_add, Nat.reduceAdd]); (refine chain_step rfl (yi_val (Value.bool true) rfl (fun w hw => by (try simp only [b8]); go_simp; first | done | exact rfl | omega | (simp; done) | (simp; omega))) rfl ?_); (simp only [List.setIfInBounds_toArray, List.set_cons_succ, List.set_cons_zero, Nat.zero_add, Nat.reduceAdd]); (refine chain_step rfl (yi_move rfl rfl rfl) rfl ?_); (simp only [List.setIfInBounds_toArray, List.set_cons_succ, List.set_cons_zero, Nat.zero_add, Nat.reduceAdd]); (refine chain_step rfl (yi_move rfl rfl rfl) rfl ?_); (simp only [List.setIfInBounds_toArray, List.set_cons_succ, List.set_cons_zero, Nat.zero_add, Nat.reduceAdd]); (refine chain_step rfl (yi_move rfl rfl rfl) rfl ?_); (simp only [List.setIfInBounds_toArray, List.set_cons_succ, List.set_cons_zero, Nat.zero_add, Nat.reduceAdd]); (refine chain_step rfl (yi_index rfl rfl rfl rfl (by omega) (by omega)) rfl ?_); (simp only [List.setIfInBounds_toArray, List.set_cons_succ, List.set_cons_zero, Nat.zero_add, Nat.reduceAdd]); (refine chain_step rfl (yi_load rfl rfl rfl (fun _ h => by simpa [World.cell?, h.block (i := 1) rfl] using HC2.out)) rfl ?_); (simp only [List.setIfInBounds_toArray, List.set_cons_succ, List.set_cons_zero, Nat.zero_add, Nat.reduceAdd]); (refine chain_step rfl (yi_move rfl rfl rfl) rfl ?_); (simp only [List.setIfInBounds_toArray, List.set_cons_succ, List.set_cons_zero, Nat.zero_add, Nat.reduceAdd]); (refine chain_step rfl (yi_str r2 (fun _ h => h.ro) rfl rfl rfl rfl) rfl ?_); (simp only [List.setIfInBounds_toArray, List.set_cons_succ, List.set_cons_zero, Nat.zero_add, Nat.reduceAdd]); (refine chain_step rfl (yi_move rfl rfl rfl) rfl ?_); (simp only [List.setIfInBounds_toArray, List.set_cons_succ, List.set_cons_zero, Nat.zero_add, Nat.reduceAdd]); (refine chain_end ?_)
        (refine wpTill_one (i := 11) (by kernel_rfl) rfl ?_)
        go_wp2_with fail
        refine (at_c hSw b hk1).mono ?_
        clear hS hSw
        rintro e w ⟨rfl, hS⟩
        go_wp2
        refine ⟨.inr hS, ?_⟩
        have hSw := hS
        (refine wpTill_chainF [12, 13, 14, 15, 16, 17, 18] rfl (by kernel_rfl) (by kernel_rfl) rfl (fun d _ _ _ _ h => by cases d <;> exact h) hSw ?_); (refine chain_step rfl (yi_val (Value.bool false) rfl (fun w hw => by (try simp only [b8]); go_simp; first | done | exact rfl | omega | (simp; done) | (simp; omega))) rfl ?_); (simp only [List.setIfInBounds_toArray, List.set_cons_succ, List.set_cons_zero, Nat.zero_add, Nat.reduceAdd]); (refine chain_step rfl (.inl ⟨rfl, fun w hw => by go_simp; first | done | exact rfl⟩) rfl ?_); (simp only [List.setIfInBounds_toArray, List.set_cons_succ, List.set_cons_zero, Nat.zero_add, Nat.reduceAdd]); (refine chain_step rfl (yi_move rfl rfl rfl) rfl ?_); (simp only [List.setIfInBounds_toArray, List.set_cons_succ, List.set_cons_zero, Nat.zero_add, Nat.reduceAdd]); (refine chain_step rfl (yi_move rfl rfl rfl) rfl ?_); (simp only [List.setIfInBounds_toArray, List.set_cons_succ, List.set_cons_zero, Nat.zero_add, Nat.reduceAdd]); (refine chain_step rfl (yi_move rfl rfl rfl) rfl ?_); (simp only [List.setIfInBounds_toArray, List.set_cons_succ, List.set_cons_zero, Nat.zero_add, Nat.reduceAdd]); (refine chain_step rfl (yi_val (Value.bool false) rfl (fun w hw => by (try simp only [b8]); go_simp; first | done | exact rfl | omega | (simp; done) | (simp; omega))) rfl ?_); (simp only [List.setIfInBounds_toArray, List.set_cons_succ, List.set_cons_zero, Nat.zero_add, Nat.reduceAdd]); (refine chain_step rfl (yi_move rfl rfl rfl) rfl ?_); (simp only [List.setIfInBounds_toArray, List.set_cons_succ, List.set_cons_zero, Nat.zero_add, Nat.reduceAdd]); (refine chain_end ?_)
        (refine wpTill_chainF [19, 20, 21, 22, 23, 24, 25, 26, 27, 28, 29] rfl (by kernel_rfl) (by kernel_rfl) rfl (fun d _ _ _ _ h => by cases d <;> exact h) hSw ?_); (refine chain_step rfl (yi_unw rfl) rfl ?_); (simp only [List.setIfInBounds_toArray, List.set_cons_succ, List.set_cons_zero, Nat.zero_add, Nat.reduceAdd]); (refine chain_step rfl (yi_unw rfl) rfl ?_); (simp only [List.setIfInBounds_toArray, List.set_cons_succ, List.set_cons_zero, Nat.zero_add, Nat.reduceAdd]); (refine chain_step rfl (yi_unw rfl) rfl ?_); (simp only [List.setIfInBounds_toArray, List.set_cons_succ, List.set_cons_zero, Nat.zero_add, Nat.reduceAdd]); (refine chain_step rfl (yi_unw rfl) rfl ?_); (simp only [List.setIfInBounds_toArray, List.set_cons_succ, List.set_cons_zero, Nat.zero_add, Nat.reduceAdd]); (refine chain_step rfl (yi_unw rfl) rfl ?_); (simp only [List.setIfInBounds_toArray, List.set_cons_succ, List.set_cons_zero, Nat.zero_add, Nat.reduceAdd]); (refine chain_step rfl (yi_unw rfl) rfl ?_); (simp only [List.setIfInBounds_toArray, List.set_cons_succ, List.set_cons_zero, Nat.zero_add, Nat.reduceAdd]); (refine chain_step rfl (yi_unw rfl) rfl ?_); (simp only [List.setIfInBounds_toArray, List.set_cons_succ, List.set_cons_zero, Nat.zero_add, Nat.reduceAdd]); (refine chain_step rfl (yi_unw rfl) rfl ?_); (simp only [List.setIfInBounds_toArray, List.set_cons_succ, List.set_cons_zero, Nat.zero_add, Nat.reduceAdd]); (refine chain_step rfl (yi_unw rfl) rfl ?_); (simp only [List.setIfInBounds_toArray, List.set_cons_succ, List.set_cons_zero, Nat.zero_add, Nat.reduceAdd]); (refine chain_step rfl (.inl ⟨rfl, fun w hw => by go_simp; first | done | exact rfl⟩) rfl ?_); (simp only [List.setIfInBounds_toArray, List.set_cons_succ, List.set_cons_zero, Nat.zero_add, Nat.reduceAdd]); (refine chain_step rfl (.inl ⟨rfl, fun w hw => by go_simp; first | done | exact rfl⟩) rfl ?_); (simp only [List.setIfInBounds_toArray, List.set_cons_succ, List.set_cons_zero, Nat.zero_add, Nat.reduceAdd]); (refine chain_end ?_)
        (refine wpTill_done (by kernel_rfl) ?_ _)
        go_wp2
        go_roundw
        case measure => simp [intOf]; omega
        case rel => exact ⟨k + 1, by omega, by go_num, hS⟩
      · have h3 : decide ((k : Int) < (n : Int)) = false := by simpa using hkn
        have hkn' : (n : Int) ≤ (k : Int) := by omega
        rw [if_neg hkn] at hc
        have HC2 := Lib.hid hc
        clear hc
        go_wp2_with fail
        (refine wpTill_start (z := 99) (S := fun w => St B own0 (DiskR p ⟨2, [(1, res)], [], false, 1, Loss.none⟩ :: Cl bc 5 (res.map b8) :: l) w) (by kernel_rfl) ?_); (replace hS := hS.drew); (generalize w.drew = w at hS ⊢)
        have hSw := hS
        (refine wpTill_chainF [0, 1, 2, 3, 4, 5, 6, 7, 8, 9, 10, 11, 12, 13, 14, 15, 16, 17, 18, 19, 20, 21, 22, 23, 24, 25] rfl (by kernel_rfl) (by kernel_rfl) rfl (fun d _ _ _ _ h => by cases d <;> exact h) hSw ?_); (refine chain_step rfl (yi_move rfl rfl rfl) rfl ?_); (simp only [List.setIfInBounds_toArray, List.set_cons_succ, List.set_cons_zero, Nat.zero_add, Nat.reduceAdd]); (refine chain_step rfl (yi_move rfl rfl rfl) rfl ?_); (simp only [List.setIfInBounds_toArray, List.set_cons_succ, List.set_cons_zero, Nat.zero_add, Nat.reduceAdd]); (refine chain_step rfl (yi_val (Value.bool false) rfl (fun w hw => by (try simp only [b8]); go_simp; first | done | exact rfl | omega | (simp; done) | (simp; omega))) rfl ?_); (simp only [List.setIfInBounds_toArray, List.set_cons_succ, List.set_cons_zero, Nat.zero_add, Nat.reduceAdd]); (refine chain_step rfl (yi_move rfl rfl rfl) rfl ?_); (simp only [List.setIfInBounds_toArray, List.set_cons_succ, List.set_cons_zero, Nat.zero_add, Nat.reduceAdd]); (refine chain_step rfl (yi_unw rfl) rfl ?_); (simp only [List.setIfInBounds_toArray, List.set_cons_succ, List.set_cons_zero, Nat.zero_add, Nat.reduceAdd]); (refine chain_step rfl (yi_unw rfl) rfl ?_); (simp only [List.setIfInBounds_toArray, List.set_cons_succ, List.set_cons_zero, Nat.zero_add, Nat.reduceAdd]); (refine chain_step rfl (yi_unw rfl) rfl ?_); (simp only [List.setIfInBounds_toArray, List.set_cons_succ, List.set_cons_zero, Nat.zero_add, Nat.reduceAdd]); (refine chain_step rfl (yi_unw rfl) rfl ?_); (simp only [List.setIfInBounds_toArray, List.set_cons_succ, List.set_cons_zero, Nat.zero_add, Nat.reduceAdd]); (refine chain_step rfl (yi_unw rfl) rfl ?_); (simp only [List.setIfInBounds_toArray, List.set_cons_succ, List.set_cons_zero, Nat.zero_add, Nat.reduceAdd]); (refine chain_step rfl (yi_unw rfl) rfl ?_); (simp only [List.setIfInBounds_toArray, List.set_cons_succ, List.set_cons_zero, Nat.zero_add, Nat.reduceAdd]); (refine chain_step rfl (yi_unw rfl) rfl ?_); (simp only [List.setIfInBounds_toArray, List.set_cons_succ, List.set_cons_zero, Nat.zero_add, Nat.reduceAdd]); (refine chain_step rfl (yi_unw rfl) rfl ?_); (simp only [List.setIfInBounds_toArray, List.set_cons_succ, List.set_cons_zero, Nat.zero_add, Nat.reduceAdd]); (refine chain_step rfl (yi_unw rfl) rfl ?_); (simp only [List.setIfInBounds_toArray, List.set_cons_succ, List.set_cons_zero, Nat.zero_add, Nat.reduceAdd]); (refine chain_step rfl (.inl ⟨rfl, fun w hw => by go_simp; first | done | exact rfl⟩) rfl ?_); (simp only [List.setIfInBounds_toArray, List.set_cons_succ, List.set_cons_zero, Nat.zero_add, Nat.reduceAdd]); (refine chain_step rfl (yi_move rfl rfl rfl) rfl ?_); (simp only [List.setIfInBounds_toArray, List.set_cons_succ, List.set_cons_zero, Nat.zero_add, Nat.reduceAdd]); (refine chain_step rfl (yi_move rfl rfl rfl) rfl ?_); (simp only [List.setIfInBounds_toArray, List.set_cons_succ, List.set_cons_zero, Nat.zero_add, Nat.reduceAdd]); (refine chain_step rfl (yi_move rfl rfl rfl) rfl ?_); (simp only [List.setIfInBounds_toArray, List.set_cons_succ, List.set_cons_zero, Nat.zero_add, Nat.reduceAdd]); (refine chain_step rfl (yi_val (Value.bool true) rfl (fun w hw => by (try simp only [b8]); go_simp; first | done | exact rfl | omega | (simp; done) | (simp; omega))) rfl ?_); (simp only [List.setIfInBounds_toArray, List.set_cons_succ, List.set_cons_zero, Nat.zero_add, Nat.reduceAdd]); (refine chain_step rfl (yi_move rfl rfl rfl) rfl ?_); (simp only [List.setIfInBounds_toArray, List.set_cons_succ, List.set_cons_zero, Nat.zero_add, Nat.reduceAdd]); (refine chain_step rfl (yi_move rfl rfl rfl) rfl ?_); (simp only [List.setIfInBounds_toArray, List.set_cons_succ, List.set_cons_zero, Nat.zero_add, Nat.reduceAdd]); (refine chain_step rfl (yi_move rfl rfl rfl) rfl ?_); (simp only [List.setIfInBounds_toArray, List.set_cons_succ, List.set_cons_zero, Nat.zero_add, Nat.reduceAdd]); (refine chain_step rfl (yi_index rfl rfl rfl rfl (by omega) (by omega)) rfl ?_); (simp only [List.setIfInBounds_toArray, List.set_cons_succ, List.set_cons_zero, Nat.zero_add, Nat.reduceAdd]); (refine chain_step rfl (yi_load rfl rfl rfl (fun _ h => by simpa [World.cell?, h.block (i := 1) rfl] using HC2.out)) rfl ?_); (simp only [List.setIfInBounds_toArray, List.set_cons_succ, List.set_cons_zero, Nat.zero_add, Nat.reduceAdd]); (refine chain_step rfl (yi_move rfl rfl rfl) rfl ?_); (simp only [List.setIfInBounds_toArray, List.set_cons_succ, List.set_cons_zero, Nat.zero_add, Nat.reduceAdd]); (refine chain_step rfl (yi_str r1 (fun _ h => h.ro) rfl rfl rfl rfl) rfl ?_); (simp only [List.setIfInBounds_toArray, List.set_cons_succ, List.set_cons_zero, Nat.zero_add, Nat.reduceAdd]); (refine chain_step rfl (yi_move rfl rfl rfl) rfl ?_); (simp only [List.setIfInBounds_toArray, List.set_cons_succ, List.set_cons_zero, Nat.zero_add, Nat.reduceAdd]); (refine chain_end ?_)
        (refine wpTill_one (i := 26) (by kernel_rfl) rfl ?_)
        go_wp2_with fail
        refine (at_c hSw a hk1).mono ?_
        clear hS hSw
        rintro e w ⟨rfl, hS⟩
        go_wp2
        refine ⟨.inr hS, ?_⟩
        have hSw := hS
        (refine wpTill_chainF [27, 28, 29] rfl (by kernel_rfl) (by kernel_rfl) rfl (fun d _ _ _ _ h => by cases d <;> exact h) hSw ?_); (refine chain_step rfl (yi_val (Value.bool false) rfl (fun w hw => by (try simp only [b8]); go_simp; first | done | exact rfl | omega | (simp; done) | (simp; omega))) rfl ?_); (simp only [List.setIfInBounds_toArray, List.set_cons_succ, List.set_cons_zero, Nat.zero_add, Nat.reduceAdd]); (refine chain_step rfl (.inl ⟨rfl, fun w hw => by go_simp; first | done | exact rfl⟩) rfl ?_); (simp only [List.setIfInBounds_toArray, List.set_cons_succ, List.set_cons_zero, Nat.zero_add, Nat.reduceAdd]); (refine chain_step rfl (.inl ⟨rfl, fun w hw => by go_simp; first | done | exact rfl⟩) rfl ?_); (simp only [List.setIfInBounds_toArray, List.set_cons_succ, List.set_cons_zero, Nat.zero_add, Nat.reduceAdd]); (refine chain_end ?_)
        (refine wpTill_done (by kernel_rfl) ?_ _)
        go_wp2
        go_roundw
        case measure => simp [intOf]; omega
        case rel => exact ⟨k + 1, by omega, by go_num, hS⟩
    · have h2 : decide ((k : Int) < 8192) = false := by simp; omega
      go_wp2_with fail
      refine (told_c hS).mono ?_
      clear hS
      rintro e w ⟨rfl, hS⟩
      go_wp2
      go_ret
      exact ⟨rfl, _, hS⟩
end
end Go.Proofs.Ytfdogeebkbaadaa
