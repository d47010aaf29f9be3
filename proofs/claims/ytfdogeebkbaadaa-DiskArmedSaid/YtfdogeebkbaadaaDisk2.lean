/- The program's disk, more of its functions. -/
import Derived.Test.YtfdogeebkbaadaaDisk
import Derived.Test.YtfdogeebkbaadaaDraw
set_option linter.unusedVariables false
set_option linter.unusedSimpArgs false
namespace Go.Proofs.Ytfdogeebkbaadaa
open Go.RowKit
set_option maxHeartbeats 400000

def strikesOf (D : Dk) : Bool × Dk :=
  if D.armed.after < 1 then (false, D) else
  let D1 : Dk := { D with armed := { D.armed with after := D.armed.after - 1 } }
  if D.armed.after - 1 > 0 then (false, D1) else (true, cutOf D1 D1.armed)

section
variable {B : World} {own0 : PH} {l : List HP} {w : World} {p : Nat} {D : Dk}

theorem st_diskPtr (hS : St B own0 (DiskR p D :: l) w) : ∃ m A cap, St B own0 (Cl p 69 (diskCells D m A cap) :: KeptR m D.kept :: OpenR A cap D.opens :: l) w := st_openDisk hS

theorem strikes_c (hlen : D.opens.length < 4294967296) (ha : D.armed.after < 9223372036854775808) (hS : St B own0 (DiskR p D :: l) w) :
    Calls Try.prog 32 #[.pointer (some ⟨p, 0, none⟩)] w fun e w => e = .returned (.bool (strikesOf D).1) ∧ St B own0 (DiskR p (strikesOf D).2 :: l) w := by
  obtain ⟨m, A, cap, hS⟩ := st_openDisk hS
  obtain ⟨blocks, kept, opens, down, life, ⟨after, keep, torn, cut⟩⟩ := D
  simp only [diskCells] at hS hlen ha ⊢
  by_cases h1 : after < 1
  · have E : strikesOf ⟨blocks, kept, opens, down, life, ⟨after, keep, torn, cut⟩⟩ = (false, ⟨blocks, kept, opens, down, life, ⟨after, keep, torn, cut⟩⟩) := by simp [strikesOf, h1]
    rw [E]
    go_enter Try.func32, Try.ntmps32
    go_wp2_with (first | (show wpList _ _ _ ({ dst := _, op := Op.load _ _, type := _, pos := _, after := _, guard := _ } :: _) _ _; (first | (refine st_load hS 0 rfl rfl rfl rfl rfl ?_))))
    go_ret
    exact ⟨rfl, hS.map fun _ h => Owns.disk (D := ⟨blocks, kept, opens, down, life, ⟨after, keep, torn, cut⟩⟩) h⟩
  · by_cases h2 : after - 1 > 0
    · have E : strikesOf ⟨blocks, kept, opens, down, life, ⟨after, keep, torn, cut⟩⟩ = (false, ⟨blocks, kept, opens, down, life, ⟨after - 1, keep, torn, cut⟩⟩) := by simp [strikesOf, h1]; omega
      rw [E]
      go_enter Try.func32, Try.ntmps32
      go_wp2_with (first | (show wpList _ _ _ ({ dst := _, op := Op.load _ _, type := _, pos := _, after := _, guard := _ } :: _) _ _; (first | (refine st_load hS 0 rfl rfl rfl rfl rfl ?_))) | (show wpList _ _ _ ({ dst := _, op := Op.store _ _ _, type := _, pos := _, after := _, guard := _ } :: _) _ _; (first | (refine st_store hS 0 rfl rfl rfl rfl rfl rfl (Nat.le_of_ble_eq_true rfl) (by simp [Act.put, Act.eval, Value.cells, Value.oneCell']) ?_)); clear hS; intro w hS; (try simp only [List.nil_append, List.cons_append, List.set_cons_zero, List.set_cons_succ, List.append_assoc, Value.cells, splice, List.take_succ_cons, List.take_zero, List.drop_succ_cons, List.drop_zero, List.length_cons, List.length_nil, Nat.zero_add, Nat.reduceAdd, Act.eval, Array.getD_eq_getD_getElem?, List.getElem?_toArray, List.getElem?_cons_succ, List.getElem?_cons_zero, Option.getD_some, List.toList_toArray] at hS)))
      go_ret
      exact ⟨rfl, hS.map fun _ h => Owns.disk (D := ⟨blocks, kept, opens, down, life, ⟨after - 1, keep, torn, cut⟩⟩) h⟩
    · have E : strikesOf ⟨blocks, kept, opens, down, life, ⟨after, keep, torn, cut⟩⟩ = (true, cutOf ⟨blocks, kept, opens, down, life, ⟨after - 1, keep, torn, cut⟩⟩ ⟨after - 1, keep, torn, cut⟩) := by simp [strikesOf, h1]; omega
      rw [E]
      go_enter Try.func32, Try.ntmps32
      go_wp2_with (first | (show wpList _ _ _ ({ dst := _, op := Op.load _ _, type := _, pos := _, after := _, guard := _ } :: _) _ _; (first | (refine st_load hS 0 rfl rfl rfl rfl rfl ?_))) | (show wpList _ _ _ ({ dst := _, op := Op.load _ _, type := _, pos := _, after := _, guard := _ } :: _) _ _; (first | (refine st_loads hS 0 rfl rfl rfl rfl _ rfl rfl ?_))) | (show wpList _ _ _ ({ dst := _, op := Op.store _ _ _, type := _, pos := _, after := _, guard := _ } :: _) _ _; (first | (refine st_store hS 0 rfl rfl rfl rfl rfl rfl (Nat.le_of_ble_eq_true rfl) (by simp [Act.put, Act.eval, Value.cells, Value.oneCell']) ?_)); clear hS; intro w hS; (try simp only [List.nil_append, List.cons_append, List.set_cons_zero, List.set_cons_succ, List.append_assoc, Value.cells, splice, List.take_succ_cons, List.take_zero, List.drop_succ_cons, List.drop_zero, List.length_cons, List.length_nil, Nat.zero_add, Nat.reduceAdd, Act.eval, Array.getD_eq_getD_getElem?, List.getElem?_toArray, List.getElem?_cons_succ, List.getElem?_cons_zero, Option.getD_some, List.toList_toArray] at hS)))
      replace hS := hS.map fun _ h => Owns.disk (D := ⟨blocks, kept, opens, down, life, ⟨after - 1, keep, torn, cut⟩⟩) h
      refine (cut_c (L := ⟨after - 1, keep, torn, cut⟩) hlen hS).mono ?_
      clear hS
      rintro e w ⟨rfl, hS⟩
      go_wp2
      go_ret
      exact ⟨rfl, hS⟩

theorem own_snoc {t : List Tri} {x : Tri} {h : PH} {l : List HP} (ho : Owns (Cl x.2.1 5 (x.2.2.map b8) :: Tri.own t :: l) h) : Owns (Tri.own (t ++ [x]) :: l) h := by
  obtain ⟨h1, _, c, ⟨h2, h3, o, hl, d2, rfl⟩, d1, rfl⟩ := ho
  have ⟨e1, e2⟩ := PH.disj_join_r.1 d1
  refine ⟨PH.join h2 h1, h3, ?_, hl, PH.disj_join_l.2 ⟨d2, e2⟩, ?_⟩
  · unfold Tri.own; rw [List.map_append]; exact Owns.app o (Owns.single c) (PH.disj_symm e1)
  · rw [← PH.join_assoc, PH.join_comm e1]
theorem openCells_snoc (t : List Tri) (x : Tri) : openCells (t ++ [x]) = openCells t ++ [.int .i64 x.1, (Value.slice (some ⟨x.2.1, 0, none⟩) blk blk)] := by simp [openCells]
theorem kv_snoc (t : List Tri) (x : Tri) : Tri.kv (t ++ [x]) = Tri.kv t ++ [(x.1, x.2.2)] := by simp [Tri.kv]

def writeOf (D : Dk) (q : Int) (lb : List UInt8) : Int × Dk :=
  if D.down then (20, D) else if q < 0 ∨ q ≥ D.blocks ∨ 8192 < lb.length then (1, D) else
  if (strikesOf D).1 then (20, (strikesOf D).2) else (0, { (strikesOf D).2 with opens := (strikesOf D).2.opens ++ [(q, pad lb)] })

theorem cutOf_opens (D : Dk) (L : Loss) : (cutOf D L).opens.length ≤ D.opens.length := by unfold cutOf; split <;> simp
theorem strikesOf_opens (D : Dk) : (strikesOf D).2.opens.length ≤ D.opens.length := by
  unfold strikesOf
  split
  · exact Nat.le_refl _
  · simp only
    split
    · exact Nat.le_refl _
    · exact cutOf_opens _ _

set_option maxHeartbeats 4000000 in
theorem write_c (hlen : D.opens.length < 4294967295) (ha : D.armed.after < 9223372036854775808) (hS : St B own0 (DiskR p D :: l) w) {q : Int} {A0 : Option Addr} {lb : List UInt8} {c : Nat} (hR : Rd E8 (roOf B own0) A0 lb) (hlb : lb.length ≤ 9223372036854775807) :
    Calls Try.prog 11 #[.pointer (some ⟨p, 0, none⟩), .int .i64 q, .slice A0 lb.length c] w fun e w => e = .returned (.int .i64 (writeOf D q lb).1) ∧ St B own0 (DiskR p (writeOf D q lb).2 :: l) w := by
  obtain ⟨m, A, cap, hS⟩ := st_openDisk hS
  obtain ⟨blocks, kept, opens, down, life, armed⟩ := D
  cases down with
  | true =>
    rw [show writeOf ⟨blocks, kept, opens, true, life, armed⟩ q lb = (20, ⟨blocks, kept, opens, true, life, armed⟩) from rfl]
    go_enter Try.func11, Try.ntmps11
    go_wp2_with (first | (show wpList _ _ _ ({ dst := _, op := Op.load _ _, type := _, pos := _, after := _, guard := _ } :: _) _ _; (first | (refine st_load hS 0 rfl rfl rfl rfl rfl ?_))))
    go_ret
    exact ⟨rfl, hS.map fun _ h => Owns.disk h⟩
  | false =>
    by_cases b1 : q < 0
    · rw [show writeOf ⟨blocks, kept, opens, false, life, armed⟩ q lb = (1, ⟨blocks, kept, opens, false, life, armed⟩) by simp [writeOf, b1]]
      go_enter Try.func11, Try.ntmps11
      go_wp2_with (first | (show wpList _ _ _ ({ dst := _, op := Op.load _ _, type := _, pos := _, after := _, guard := _ } :: _) _ _; (first | (refine st_load hS 0 rfl rfl rfl rfl rfl ?_))))
      go_ret
      exact ⟨rfl, hS.map fun _ h => Owns.disk h⟩
    by_cases b2 : blocks ≤ q
    · rw [show writeOf ⟨blocks, kept, opens, false, life, armed⟩ q lb = (1, ⟨blocks, kept, opens, false, life, armed⟩) by simp [writeOf, b2]]
      go_enter Try.func11, Try.ntmps11
      go_wp2_with (first | (show wpList _ _ _ ({ dst := _, op := Op.load _ _, type := _, pos := _, after := _, guard := _ } :: _) _ _; (first | (refine st_load hS 0 rfl rfl rfl rfl rfl ?_))))
      go_ret
      exact ⟨rfl, hS.map fun _ h => Owns.disk h⟩
    by_cases b3 : 8192 < lb.length
    · rw [show writeOf ⟨blocks, kept, opens, false, life, armed⟩ q lb = (1, ⟨blocks, kept, opens, false, life, armed⟩) by simp [writeOf, b3]]
      have b3' : (8192 : Int) < (lb.length : Int) := by omega
      go_enter Try.func11, Try.ntmps11
      go_wp2_with (first | (show wpList _ _ _ ({ dst := _, op := Op.load _ _, type := _, pos := _, after := _, guard := _ } :: _) _ _; (first | (refine st_load hS 0 rfl rfl rfl rfl rfl ?_))))
      go_ret
      exact ⟨rfl, hS.map fun _ h => Owns.disk h⟩
    have b3' : ¬ (8192 : Int) < (lb.length : Int) := by omega
    generalize hst : strikesOf ⟨blocks, kept, opens, false, life, armed⟩ = sr
    obtain ⟨st, D2⟩ := sr
    have hD2 : D2.opens.length < 4294967295 := by
      have := strikesOf_opens ⟨blocks, kept, opens, false, life, armed⟩
      rw [hst] at this
      exact Nat.lt_of_le_of_lt this hlen
    cases st with
    | true =>
      rw [show writeOf ⟨blocks, kept, opens, false, life, armed⟩ q lb = (20, D2) by simp [writeOf, b1, b2, b3, hst]]
      go_enter Try.func11, Try.ntmps11
      go_wp2_with (first | (show wpList _ _ _ ({ dst := _, op := Op.load _ _, type := _, pos := _, after := _, guard := _ } :: _) _ _; (first | (refine st_load hS 0 rfl rfl rfl rfl rfl ?_))))
      replace hS := hS.map fun _ h => Owns.disk (D := ⟨blocks, kept, opens, false, life, armed⟩) h
      refine (strikes_c (Nat.lt_of_lt_of_le hlen (by decide)) ha hS).mono ?_
      clear hS
      rw [hst]
      rintro e w ⟨rfl, hS⟩
      go_wp2
      go_ret
      exact ⟨rfl, hS⟩
    | false =>
      rw [show writeOf ⟨blocks, kept, opens, false, life, armed⟩ q lb = (0, { D2 with opens := D2.opens ++ [(q, pad lb)] }) by simp [writeOf, b1, b2, b3, hst]]
      go_enter Try.func11, Try.ntmps11
      go_wp2_with (first | (show wpList _ _ _ ({ dst := _, op := Op.load _ _, type := _, pos := _, after := _, guard := _ } :: _) _ _; (first | (refine st_load hS 0 rfl rfl rfl rfl rfl ?_))))
      replace hS := hS.map fun _ h => Owns.disk (D := ⟨blocks, kept, opens, false, life, armed⟩) h
      refine (strikes_c (Nat.lt_of_lt_of_le hlen (by decide)) ha hS).mono ?_
      clear hS
      rw [hst]
      rintro e w ⟨rfl, hS⟩
      obtain ⟨m, A, cap, hS⟩ := st_openDisk hS
      obtain ⟨t, ht, hok, hS⟩ := st_openOpen (hS.front 2 rfl)
      simp only [List.eraseIdx_cons_succ, List.eraseIdx_cons_zero] at hS
      (replace hS := hS.front 2 rfl; simp only [List.eraseIdx_cons_succ, List.eraseIdx_cons_zero] at hS)
      have hln : t.length = D2.opens.length := by rw [← ht, kv_length]
      go_wp2
      (refine wpTill_start (z := 13) (S := fun w => w.cell? ⟨p, 2, none⟩ = some (.slice A D2.opens.length cap)) (by kernel_rfl) ?_); (replace hS := hS.drew); (generalize w.drew = w at hS ⊢)
      have hSw : w.cell? ⟨p, 2, none⟩ = some (.slice A D2.opens.length cap) := by simp [World.cell?, hS.block (i := 0) rfl, diskCells]
      (refine wpTill_take (i := 0) 31 rfl (by kernel_rfl) (by kernel_rfl) (by kernel_rfl) (by kernel_rfl) (by kernel_rfl) (by kernel_rfl) (fun _ _ _ h => h) (by first | exact yi_move rfl rfl rfl | exact yi_nil rfl rfl rfl | exact yi_field rfl rfl rfl | exact yi_load rfl rfl rfl (fun _ h => by first | exact h | exact h.1 | exact h.2 | exact h.2.1 | exact h.2.2) | exact .inl ⟨rfl, fun w hw => by go_simp; first | done | exact rfl⟩) hSw rfl ?_)
      (refine wpTill_take (i := 1) 32 rfl (by kernel_rfl) (by kernel_rfl) (by kernel_rfl) (by kernel_rfl) (by kernel_rfl) (by kernel_rfl) (fun _ _ _ h => h) (by first | exact yi_move rfl rfl rfl | exact yi_nil rfl rfl rfl | exact yi_field rfl rfl rfl | exact yi_load rfl rfl rfl (fun _ h => by first | exact h | exact h.1 | exact h.2 | exact h.2.1 | exact h.2.2) | exact .inl ⟨rfl, fun w hw => by go_simp; first | done | exact rfl⟩) hSw rfl ?_)
      (refine wpTill_take (i := 2) 33 rfl (by kernel_rfl) (by kernel_rfl) (by kernel_rfl) (by kernel_rfl) (by kernel_rfl) (by kernel_rfl) (fun _ _ _ h => h) (by first | exact yi_move rfl rfl rfl | exact yi_nil rfl rfl rfl | exact yi_field rfl rfl rfl | exact yi_load rfl rfl rfl (fun _ h => by first | exact h | exact h.1 | exact h.2 | exact h.2.1 | exact h.2.2) | exact .inl ⟨rfl, fun w hw => by go_simp; first | done | exact rfl⟩) hSw rfl ?_)
      (refine wpTill_take (i := 3) 34 rfl (by kernel_rfl) (by kernel_rfl) (by kernel_rfl) (by kernel_rfl) (by kernel_rfl) (by kernel_rfl) (fun _ _ _ h => h) (by first | exact yi_move rfl rfl rfl | exact yi_nil rfl rfl rfl | exact yi_field rfl rfl rfl | exact yi_load rfl rfl rfl (fun _ h => by first | exact h | exact h.1 | exact h.2 | exact h.2.1 | exact h.2.2) | exact .inl ⟨rfl, fun w hw => by go_simp; first | done | exact rfl⟩) hSw rfl ?_)
      (refine wpTill_take (i := 4) 35 rfl (by kernel_rfl) (by kernel_rfl) (by kernel_rfl) (by kernel_rfl) (by kernel_rfl) (by kernel_rfl) (fun _ _ _ h => h) (by first | exact yi_move rfl rfl rfl | exact yi_nil rfl rfl rfl | exact yi_field rfl rfl rfl | exact yi_load rfl rfl rfl (fun _ h => by first | exact h | exact h.1 | exact h.2 | exact h.2.1 | exact h.2.2) | exact .inl ⟨rfl, fun w hw => by go_simp; first | done | exact rfl⟩) hSw rfl ?_)
      (refine wpTill_take (i := 5) 36 rfl (by kernel_rfl) (by kernel_rfl) (by kernel_rfl) (by kernel_rfl) (by kernel_rfl) (by kernel_rfl) (fun _ _ _ h => h) (by first | exact yi_move rfl rfl rfl | exact yi_nil rfl rfl rfl | exact yi_field rfl rfl rfl | exact yi_load rfl rfl rfl (fun _ h => by first | exact h | exact h.1 | exact h.2 | exact h.2.1 | exact h.2.2) | exact .inl ⟨rfl, fun w hw => by go_simp; first | done | exact rfl⟩) hSw rfl ?_)
      (refine wpTill_take (i := 6) 37 rfl (by kernel_rfl) (by kernel_rfl) (by kernel_rfl) (by kernel_rfl) (by kernel_rfl) (by kernel_rfl) (fun _ _ _ h => h) (by first | exact yi_move rfl rfl rfl | exact yi_nil rfl rfl rfl | exact yi_field rfl rfl rfl | exact yi_load rfl rfl rfl (fun _ h => by first | exact h | exact h.1 | exact h.2 | exact h.2.1 | exact h.2.2) | exact .inl ⟨rfl, fun w hw => by go_simp; first | done | exact rfl⟩) hSw rfl ?_)
      (simp only [List.setIfInBounds_toArray, List.set_cons_succ, List.set_cons_zero, Nat.zero_add, Nat.reduceAdd])
      (refine wpTill_one (i := 7) (by kernel_rfl) rfl ?_)
      go_wp2_with fail
      refine (whole_c hS hR rfl).mono ?_
      clear hS hSw
      rintro e w ⟨bw, rfl, hS⟩
      go_wp2
      have hSw : w.cell? ⟨p, 2, none⟩ = some (.slice A D2.opens.length cap) := by simp [World.cell?, hS.block (i := 1) rfl, diskCells]
      refine ⟨.inr hSw, ?_⟩
      (refine wpTill_take (i := 8) 39 rfl (by kernel_rfl) (by kernel_rfl) (by kernel_rfl) (by kernel_rfl) (by kernel_rfl) (by kernel_rfl) (fun _ _ _ h => h) (by first | exact yi_move rfl rfl rfl | exact yi_nil rfl rfl rfl | exact yi_field rfl rfl rfl | exact yi_load rfl rfl rfl (fun _ h => by first | exact h | exact h.1 | exact h.2 | exact h.2.1 | exact h.2.2) | exact .inl ⟨rfl, fun w hw => by go_simp; first | done | exact rfl⟩) hSw rfl ?_)
      (simp only [List.setIfInBounds_toArray, List.set_cons_succ, List.set_cons_zero, Nat.zero_add, Nat.reduceAdd])
      (refine wpTill_one (i := 9) (by kernel_rfl) rfl ?_)
      clear hSw
      go_wp2_with (first | (show wpList _ _ _ ({ dst := _, op := Op.buildSlice _ _ _, type := _, pos := _, after := _, guard := _ } :: _) _ _; (refine st_buildSlice hS rfl rfl rfl rfl _ (by go_simp; first | done | exact rfl) ?_); clear hS; intro bs w hS; (try simp only [List.nil_append, List.cons_append, List.set_cons_zero, List.set_cons_succ, List.append_assoc, Value.cells, splice, List.take_succ_cons, List.take_zero, List.drop_succ_cons, List.drop_zero, List.length_cons, List.length_nil, Nat.zero_add, Nat.reduceAdd, Act.eval, Array.getD_eq_getD_getElem?, List.getElem?_toArray, List.getElem?_cons_succ, List.getElem?_cons_zero, Option.getD_some, List.toList_toArray] at hS)))
      have hSw : w.cell? ⟨p, 2, none⟩ = some (.slice A D2.opens.length cap) := by simp [World.cell?, hS.block (i := 2) rfl, diskCells]
      refine ⟨.inr hSw, ?_⟩
      (refine wpTill_one (i := 10) (by kernel_rfl) rfl ?_)
      refine st_append hS 3 rfl rfl rfl [.int .i64 q, (Value.slice (some ⟨bw, 0, none⟩) blk blk)] rfl rfl (by omega) (by rw [openCells_length, hln]) rfl (news_cl hS (i := 0) rfl) (by simp [Value.oneCell']) (by omega) (by omega) ?_
      clear hS hSw
      intro A2 cap2 w hS
      (try simp only [List.nil_append, List.cons_append, List.set_cons_zero, List.set_cons_succ, List.append_assoc, Value.cells, splice, List.take_succ_cons, List.take_zero, List.drop_succ_cons, List.drop_zero, List.length_cons, List.length_nil, Nat.zero_add, Nat.reduceAdd, Act.eval, Array.getD_eq_getD_getElem?, List.getElem?_toArray, List.getElem?_cons_succ, List.getElem?_cons_zero, Option.getD_some, List.toList_toArray] at hS)
      (simp only [Act.put, List.setIfInBounds_toArray, List.set_cons_succ, List.set_cons_zero, Nat.zero_add, Nat.reduceAdd])
      go_wp2
      have hSw : w.cell? ⟨p, 2, none⟩ = some (.slice A D2.opens.length cap) := by simp [World.cell?, hS.block (i := 2) rfl, diskCells]
      refine ⟨.inr hSw, ?_⟩
      (refine wpTill_one (i := 11) (by kernel_rfl) rfl ?_)
      go_wp2
      refine ⟨.inr hSw, ?_⟩
      (refine wpTill_one (i := 12) (by kernel_rfl) rfl ?_)
      go_wp2
      refine ⟨.inr hSw, ?_⟩
      (refine wpTill_one (i := 13) (by kernel_rfl) rfl ?_)
      clear hSw
      go_wp2_with (first | (show wpList _ _ _ ({ dst := _, op := Op.store _ _ _, type := _, pos := _, after := _, guard := _ } :: _) _ _; (first | (refine st_store hS 2 rfl rfl rfl rfl rfl rfl (Nat.le_of_ble_eq_true rfl) (by simp [Act.put, Act.eval, Value.cells, Value.oneCell']) ?_)); clear hS; intro w hS; (try simp only [List.nil_append, List.cons_append, List.set_cons_zero, List.set_cons_succ, List.append_assoc, Value.cells, splice, List.take_succ_cons, List.take_zero, List.drop_succ_cons, List.drop_zero, List.length_cons, List.length_nil, Nat.zero_add, Nat.reduceAdd, Act.eval, Array.getD_eq_getD_getElem?, List.getElem?_toArray, List.getElem?_cons_succ, List.getElem?_cons_zero, Option.getD_some, List.toList_toArray] at hS)))
      refine ⟨.inl rfl, ?_⟩
      (refine wpTill_done (by kernel_rfl) ?_ _)
      go_wp2
      go_ret
      refine ⟨rfl, ?_⟩
      (replace hS := hS.erase 0 rfl; simp only [List.eraseIdx_cons_succ, List.eraseIdx_cons_zero] at hS)
      (replace hS := hS.front 3 rfl; replace hS := hS.front 1 rfl; simp only [List.eraseIdx_cons_succ, List.eraseIdx_cons_zero] at hS)
      replace hS := hS.map fun _ h => own_snoc (x := (q, bw, pad lb)) h
      rw [← openCells_snoc t (q, bw, pad lb)] at hS
      (replace hS := hS.front 2 rfl; replace hS := hS.front 3 rfl; replace hS := hS.front 3 rfl; simp only [List.eraseIdx_cons_succ, List.eraseIdx_cons_zero] at hS)
      refine hS.map fun _ h => Owns.disk (m := m) (A := A2) (cap := cap2) ?_
      have h2 := Owns.tl (Owns.tl fun _ => Owns.open (fun x hx => ?_)) _ h
      · rw [kv_snoc, ht] at h2
        have e : D2.opens.length + 1 = (D2.opens ++ [(q, pad lb)]).length := by simp
        rw [e] at h2
        exact h2
      · rcases List.mem_append.1 hx with hx | hx
        · exact hok x hx
        · simp only [List.mem_singleton] at hx; subst hx; exact pad_length lb

def flushOf (D : Dk) : Int × Dk :=
  if D.down then (20, D) else if (strikesOf D).1 then (20, (strikesOf D).2) else
  (0, { (strikesOf D).2 with kept := (strikesOf D).2.opens.foldl (fun kept x => layK kept x.1 x.2 blk) (strikesOf D).2.kept, opens := [] })
theorem flush_c (hlen : D.opens.length < 4294967295) (ha : D.armed.after < 9223372036854775808) (hS : St B own0 (DiskR p D :: l) w) :
    Calls Try.prog 10 #[.pointer (some ⟨p, 0, none⟩)] w fun e w => e = .returned (.int .i64 (flushOf D).1) ∧ St B own0 (DiskR p (flushOf D).2 :: l) w := by
  obtain ⟨m, A, cap, hS⟩ := st_openDisk hS
  obtain ⟨blocks, kept, opens, down, life, armed⟩ := D
  cases down with
  | true =>
    rw [show flushOf ⟨blocks, kept, opens, true, life, armed⟩ = (20, ⟨blocks, kept, opens, true, life, armed⟩) from rfl]
    go_enter Try.func10, Try.ntmps10
    go_wp2_with (first | (show wpList _ _ _ ({ dst := _, op := Op.load _ _, type := _, pos := _, after := _, guard := _ } :: _) _ _; (first | (refine st_load hS 0 rfl rfl rfl rfl rfl ?_))))
    go_ret
    exact ⟨rfl, hS.map fun _ h => Owns.disk h⟩
  | false =>
    generalize hst : strikesOf ⟨blocks, kept, opens, false, life, armed⟩ = sr
    obtain ⟨st, D2⟩ := sr
    have hD2 : D2.opens.length < 4294967295 := by
      have := strikesOf_opens ⟨blocks, kept, opens, false, life, armed⟩
      rw [hst] at this
      exact Nat.lt_of_le_of_lt this hlen
    cases st with
    | true =>
      rw [show flushOf ⟨blocks, kept, opens, false, life, armed⟩ = (20, D2) by simp [flushOf, hst]]
      go_enter Try.func10, Try.ntmps10
      go_wp2_with (first | (show wpList _ _ _ ({ dst := _, op := Op.load _ _, type := _, pos := _, after := _, guard := _ } :: _) _ _; (first | (refine st_load hS 0 rfl rfl rfl rfl rfl ?_))))
      replace hS := hS.map fun _ h => Owns.disk (D := ⟨blocks, kept, opens, false, life, armed⟩) h
      refine (strikes_c (Nat.lt_of_lt_of_le hlen (by decide)) ha hS).mono ?_
      clear hS
      rw [hst]
      rintro e w ⟨rfl, hS⟩
      go_wp2
      go_ret
      exact ⟨rfl, hS⟩
    | false =>
      rw [show flushOf ⟨blocks, kept, opens, false, life, armed⟩ = (0, { D2 with kept := D2.opens.foldl (fun kept x => layK kept x.1 x.2 blk) D2.kept, opens := [] }) by simp [flushOf, hst]]
      go_enter Try.func10, Try.ntmps10
      go_wp2_with (first | (show wpList _ _ _ ({ dst := _, op := Op.load _ _, type := _, pos := _, after := _, guard := _ } :: _) _ _; (first | (refine st_load hS 0 rfl rfl rfl rfl rfl ?_))))
      replace hS := hS.map fun _ h => Owns.disk (D := ⟨blocks, kept, opens, false, life, armed⟩) h
      refine (strikes_c (Nat.lt_of_lt_of_le hlen (by decide)) ha hS).mono ?_
      clear hS
      rw [hst]
      rintro e w ⟨rfl, hS⟩
      obtain ⟨m, A, cap, hS⟩ := st_openDisk hS
      obtain ⟨t, ht, hok, hS⟩ := st_openOpen (hS.front 2 rfl)
      simp only [List.eraseIdx_cons_succ, List.eraseIdx_cons_zero] at hS
      (replace hS := hS.front 3 rfl; replace hS := hS.front 3 rfl; simp only [List.eraseIdx_cons_succ, List.eraseIdx_cons_zero] at hS)
      have hln : t.length = D2.opens.length := by rw [← ht, kv_length]
      go_wp2_with (first | (show wpList _ _ _ ({ dst := _, op := Op.load _ _, type := _, pos := _, after := _, guard := _ } :: _) _ _; (first | (refine st_load hS 0 rfl rfl rfl rfl rfl ?_))))
      rw [← hln]
      generalize hcs : diskCells D2 m A cap = cs at hS
      have hc1 : cs[1]? = some (.map (some m)) := by rw [← hcs]; rfl
      have htl : t.length < 4294967295 := by omega
      have Hc1 := Lib.hid hc1
      have Hln := Lib.hid hln
      have Hcs := Lib.hid hcs
      have Ht := Lib.hid ht
      clear hln hcs hc1 ht hst
      go_loopw [18] (fun i wr => ∃ k : Nat, k ≤ t.length ∧ i = .int .i64 k ∧ St B own0 (Cl p 69 cs :: KeptR m ((Tri.kv (t.take k)).foldl (fun kept x => layK kept x.1 x.2 blk) D2.kept) :: Bf 71 2 A cap (openCells t) :: Tri.own t :: l) wr) (fun i _ => t.length - (intOf i).toNat)
      case atStart => exact ⟨0, Nat.zero_le _, rfl, hS⟩
      case round =>
        clear hS
        obtain ⟨k, hk, rfl, hS⟩ := hrel
        by_cases hlt : k < t.length
        · obtain ⟨x, hx⟩ : ∃ x, t[k]? = some x := ⟨t[k], by simp [hlt]⟩
          have hmx : x ∈ t := List.mem_of_getElem? hx
          have hkv : (Tri.kv (List.take (k + 1) t)) = Tri.kv (List.take k t) ++ [(x.1, x.2.2)] := by
            rw [List.take_add_one, hx]; simp [Tri.kv]
          have H := Lib.hid hkv
          clear hkv
          go_wp2_with (first
            | (show wpList _ _ _ ({ dst := _, op := Op.indexAddr _ _ _, type := _, pos := _, after := _, guard := _ } :: _) _ _; go_must (refine st_bfN hS 2 rfl rfl rfl rfl rfl (by omega) (by omega) (openCells_length t) (by omega) rfl rfl (fun _ => rfl) (Nat.le_of_ble_eq_true rfl) _ (by exact openCells_at t k x hx) ?_; intro pe))
            | (show wpList _ _ _ ({ dst := _, op := Op.alloc _, type := _, pos := _, after := _, guard := _ } :: _) _ _; refine st_alloc hS rfl rfl ?_; clear hS; intro bw w hS; (try simp only [List.nil_append, List.cons_append, List.set_cons_zero, List.set_cons_succ, List.append_assoc, Value.cells, splice, List.take_succ_cons, List.take_zero, List.drop_succ_cons, List.drop_zero, List.length_cons, List.length_nil, Nat.zero_add, Nat.reduceAdd, Act.eval, Array.getD_eq_getD_getElem?, List.getElem?_toArray, List.getElem?_cons_succ, List.getElem?_cons_zero, Option.getD_some, List.toList_toArray] at hS))
            | (show wpList _ _ _ ({ dst := _, op := Op.store _ _ _, type := _, pos := _, after := _, guard := _ } :: _) _ _; (first | (refine st_store hS 0 rfl rfl rfl rfl rfl rfl (Nat.le_of_ble_eq_true rfl) (by simp [Act.put, Act.eval, Value.cells, Value.oneCell']) ?_)); clear hS; intro w hS; (try simp only [List.nil_append, List.cons_append, List.set_cons_zero, List.set_cons_succ, List.append_assoc, Value.cells, splice, List.take_succ_cons, List.take_zero, List.drop_succ_cons, List.drop_zero, List.length_cons, List.length_nil, Nat.zero_add, Nat.reduceAdd, Act.eval, Array.getD_eq_getD_getElem?, List.getElem?_toArray, List.getElem?_cons_succ, List.getElem?_cons_zero, Option.getD_some, List.toList_toArray] at hS))
            | (show wpList _ _ _ ({ dst := _, op := Op.load _ _, type := _, pos := _, after := _, guard := _ } :: _) _ _; (first | (refine st_loads hS 0 rfl rfl rfl rfl _ rfl rfl ?_))))
          (replace hS := hS.front 2 rfl; replace hS := hS.front 2 rfl; simp only [List.eraseIdx_cons_succ, List.eraseIdx_cons_zero] at hS)
          obtain ⟨o1, hS1, back, ro, oth⟩ := St.call (pre := [_, _]) hS
          obtain ⟨h, hh, hle⟩ := oth 2 _ rfl
          refine (lay_c (n := blk) Hc1.out hS1 ((rd_block (own_mem hh hmx)).up hle) (hok _ hmx) (Nat.le_refl _)).mono ?_
          rintro e w ⟨rfl, hS2⟩
          replace hS := back _ _ hS2
          simp only [List.cons_append, List.nil_append] at hS
          clear back oth ro hS1 hS2
          go_wp2
          go_roundw
          case measure => simp [intOf]; omega
          case rel =>
            refine ⟨k + 1, by omega, by go_num, ?_⟩
            rw [H.out, List.foldl_append]
            (replace hS := hS.erase 2 rfl; simp only [List.eraseIdx_cons_succ, List.eraseIdx_cons_zero] at hS)
            exact hS
        · have hk' : k = t.length := by omega
          subst hk'
          rw [List.take_length] at hS
          rw [← Hcs.out] at hS
          go_wp2_with (first | (show wpList _ _ _ ({ dst := _, op := Op.store _ _ _, type := _, pos := _, after := _, guard := _ } :: _) _ _; (first | (refine st_store hS 0 rfl rfl rfl rfl rfl rfl (Nat.le_of_ble_eq_true rfl) (by simp [Act.put, Act.eval, Value.cells, Value.oneCell']) ?_)); clear hS; intro w hS; (try simp only [List.nil_append, List.cons_append, List.set_cons_zero, List.set_cons_succ, List.append_assoc, Value.cells, splice, List.take_succ_cons, List.take_zero, List.drop_succ_cons, List.drop_zero, List.length_cons, List.length_nil, Nat.zero_add, Nat.reduceAdd, Act.eval, Array.getD_eq_getD_getElem?, List.getElem?_toArray, List.getElem?_cons_succ, List.getElem?_cons_zero, Option.getD_some, List.toList_toArray] at hS)))
          go_ret
          refine ⟨rfl, ?_⟩
          (replace hS := hS.erase 2 rfl; replace hS := hS.erase 2 rfl; simp only [List.eraseIdx_cons_succ, List.eraseIdx_cons_zero] at hS)
          rw [Ht.out] at hS
          exact hS.map fun _ h => Owns.disk (m := m) (A := none) (cap := 0) (Owns.tl (Owns.tl fun _ => Owns.more openR_nil) _ h)

theorem restart_c (hS : St B own0 (DiskR p D :: l) w) :
    Calls Try.prog 13 #[.pointer (some ⟨p, 0, none⟩)] w fun e w => e = .returned (.tuple #[]) ∧ St B own0 (DiskR p { D with down := false } :: l) w := by
  obtain ⟨m, A, cap, hS⟩ := st_openDisk hS
  go_enter Try.func13, Try.ntmps13
  go_wp2_with (first | (show wpList _ _ _ ({ dst := _, op := Op.store _ _ _, type := _, pos := _, after := _, guard := _ } :: _) _ _; (first | (refine st_store hS 0 rfl rfl rfl rfl rfl rfl (Nat.le_of_ble_eq_true rfl) (by simp [Act.put, Act.eval, Value.cells, Value.oneCell']) ?_)); clear hS; intro w hS; (try simp only [List.nil_append, List.cons_append, List.set_cons_zero, List.set_cons_succ, List.append_assoc, Value.cells, splice, List.take_succ_cons, List.take_zero, List.drop_succ_cons, List.drop_zero, List.length_cons, List.length_nil, Nat.zero_add, Nat.reduceAdd, Act.eval, Array.getD_eq_getD_getElem?, List.getElem?_toArray, List.getElem?_cons_succ, List.getElem?_cons_zero, Option.getD_some, List.toList_toArray] at hS)))
  go_end0
  exact ⟨rfl, hS.map fun _ h => Owns.disk (D := { D with down := false }) h⟩
theorem arm_c (hS : St B own0 (DiskR p D :: l) w) (L : Loss) :
    Calls Try.prog 19 #[.pointer (some ⟨p, 0, none⟩), .agg L.cells.toArray] w fun e w => e = .returned (.tuple #[]) ∧ St B own0 (DiskR p (if D.down then D else { D with armed := L }) :: l) w := by
  obtain ⟨m, A, cap, hS⟩ := st_openDisk hS
  obtain ⟨blocks, kept, opens, down, life, armed⟩ := D
  unfold Loss.cells
  cases down with
  | true =>
    go_enter Try.func19, Try.ntmps19
    go_wp2_with (first | (show wpList _ _ _ ({ dst := _, op := Op.box _ _, type := _, pos := _, after := _, guard := _ } :: _) _ _; refine st_box hS rfl rfl rfl ?_; clear hS; intro bL w hS; (try simp only [List.nil_append, List.cons_append, List.set_cons_zero, List.set_cons_succ, List.append_assoc, Value.cells, splice, List.take_succ_cons, List.take_zero, List.drop_succ_cons, List.drop_zero, List.length_cons, List.length_nil, Nat.zero_add, Nat.reduceAdd, Act.eval, Array.getD_eq_getD_getElem?, List.getElem?_toArray, List.getElem?_cons_succ, List.getElem?_cons_zero, Option.getD_some, List.toList_toArray] at hS)) | (show wpList _ _ _ ({ dst := _, op := Op.load _ _, type := _, pos := _, after := _, guard := _ } :: _) _ _; (first | (refine st_load hS 0 rfl rfl rfl rfl rfl ?_) | (refine st_load hS 1 rfl rfl rfl rfl rfl ?_))))
    go_end0
    exact ⟨rfl, hS.tail.map fun _ h => Owns.disk (D := ⟨blocks, kept, opens, true, life, armed⟩) h⟩
  | false =>
    go_enter Try.func19, Try.ntmps19
    go_wp2_with (first | (show wpList _ _ _ ({ dst := _, op := Op.box _ _, type := _, pos := _, after := _, guard := _ } :: _) _ _; refine st_box hS rfl rfl rfl ?_; clear hS; intro bL w hS; (try simp only [List.nil_append, List.cons_append, List.set_cons_zero, List.set_cons_succ, List.append_assoc, Value.cells, splice, List.take_succ_cons, List.take_zero, List.drop_succ_cons, List.drop_zero, List.length_cons, List.length_nil, Nat.zero_add, Nat.reduceAdd, Act.eval, Array.getD_eq_getD_getElem?, List.getElem?_toArray, List.getElem?_cons_succ, List.getElem?_cons_zero, Option.getD_some, List.toList_toArray] at hS)) | (show wpList _ _ _ ({ dst := _, op := Op.load _ _, type := _, pos := _, after := _, guard := _ } :: _) _ _; (first | (refine st_load hS 0 rfl rfl rfl rfl rfl ?_) | (refine st_load hS 1 rfl rfl rfl rfl rfl ?_))) | (show wpList _ _ _ ({ dst := _, op := Op.load _ _, type := _, pos := _, after := _, guard := _ } :: _) _ _; (first | (refine st_loads hS 0 rfl rfl rfl rfl _ rfl rfl ?_))) | (show wpList _ _ _ ({ dst := _, op := Op.store _ _ _, type := _, pos := _, after := _, guard := _ } :: _) _ _; (first | (refine st_store hS 1 rfl rfl rfl rfl rfl rfl (Nat.le_of_ble_eq_true rfl) (by simp [Act.put, Act.eval, Value.cells, Value.oneCell']) ?_)); clear hS; intro w hS; (try simp only [List.nil_append, List.cons_append, List.set_cons_zero, List.set_cons_succ, List.append_assoc, Value.cells, splice, List.take_succ_cons, List.take_zero, List.drop_succ_cons, List.drop_zero, List.length_cons, List.length_nil, Nat.zero_add, Nat.reduceAdd, Act.eval, Array.getD_eq_getD_getElem?, List.getElem?_toArray, List.getElem?_cons_succ, List.getElem?_cons_zero, Option.getD_some, List.toList_toArray] at hS)))
    go_end0
    exact ⟨rfl, hS.tail.map fun _ h => Owns.disk (D := ⟨blocks, kept, opens, false, life, L⟩) h⟩
end
end Go.Proofs.Ytfdogeebkbaadaa
