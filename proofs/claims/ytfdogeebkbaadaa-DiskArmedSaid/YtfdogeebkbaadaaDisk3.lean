/- The program's disk: what it tells. -/
import Derived.Test.YtfdogeebkbaadaaDisk2
set_option linter.unusedVariables false
set_option linter.unusedSimpArgs false
namespace Go.Proofs.Ytfdogeebkbaadaa
open Go.RowKit
set_option maxHeartbeats 400000
section
variable {B : World} {own0 : PH} {l : List HP} {w : World} {p : Nat} {D : Dk}

theorem down_c (hS : St B own0 (DiskR p D :: l) w) :
    Calls Try.prog 20 #[.pointer (some ⟨p, 0, none⟩)] w fun e w => e = .returned (.bool D.down) ∧ St B own0 (DiskR p D :: l) w := by
  obtain ⟨m, A, cap, hS⟩ := st_openDisk hS
  go_enter Try.func20, Try.ntmps20
  go_wp2_with (first | (show wpList _ _ _ ({ dst := _, op := Op.load _ _, type := _, pos := _, after := _, guard := _ } :: _) _ _; (first | (refine st_load hS 0 rfl rfl rfl rfl rfl ?_))))
  go_ret
  exact ⟨rfl, hS.map fun _ h => Owns.disk h⟩
theorem life_c (hS : St B own0 (DiskR p D :: l) w) :
    Calls Try.prog 21 #[.pointer (some ⟨p, 0, none⟩)] w fun e w => e = .returned (.int .i64 D.life) ∧ St B own0 (DiskR p D :: l) w := by
  obtain ⟨m, A, cap, hS⟩ := st_openDisk hS
  go_enter Try.func21, Try.ntmps21
  go_wp2_with (first | (show wpList _ _ _ ({ dst := _, op := Op.load _ _, type := _, pos := _, after := _, guard := _ } :: _) _ _; (first | (refine st_load hS 0 rfl rfl rfl rfl rfl ?_))))
  go_ret
  exact ⟨rfl, hS.map fun _ h => Owns.disk h⟩
theorem blocks_c (hS : St B own0 (DiskR p D :: l) w) :
    Calls Try.prog 31 #[.pointer (some ⟨p, 0, none⟩)] w fun e w => e = .returned (.int .i64 D.blocks) ∧ St B own0 (DiskR p D :: l) w := by
  obtain ⟨m, A, cap, hS⟩ := st_openDisk hS
  go_enter Try.func31, Try.ntmps31
  go_wp2_with (first | (show wpList _ _ _ ({ dst := _, op := Op.load _ _, type := _, pos := _, after := _, guard := _ } :: _) _ _; (first | (refine st_load hS 0 rfl rfl rfl rfl rfl ?_))))
  go_ret
  exact ⟨rfl, hS.map fun _ h => Owns.disk h⟩
theorem open_c (hS : St B own0 (DiskR p D :: l) w) :
    Calls Try.prog 17 #[.pointer (some ⟨p, 0, none⟩)] w fun e w => e = .returned (.int .i64 D.opens.length) ∧ St B own0 (DiskR p D :: l) w := by
  obtain ⟨m, A, cap, hS⟩ := st_openDisk hS
  go_enter Try.func17, Try.ntmps17
  go_wp2_with (first | (show wpList _ _ _ ({ dst := _, op := Op.load _ _, type := _, pos := _, after := _, guard := _ } :: _) _ _; (first | (refine st_load hS 0 rfl rfl rfl rfl rfl ?_))))
  go_ret
  exact ⟨rfl, hS.map fun _ h => Owns.disk h⟩

def newDk (n : Int) : Dk := ⟨n, [], [], false, 0, Loss.none⟩
theorem new_c (hS : St B own0 l w) {n : Int} (h1 : 1 ≤ n) (h2 : n ≤ 4096) :
    Calls Try.prog 9 #[.int .i64 n] w fun e w => ∃ p, e = .returned (.tuple #[.pointer (some ⟨p, 0, none⟩), .int .i64 0]) ∧ St B own0 (DiskR p (newDk n) :: l) w := by
  go_enter Try.func9, Try.ntmps9
  go_wp2_with (first
    | (refine st_makeMap hS rfl rfl ?_; clear hS; intro m w hS)
    | (show wpList _ _ _ ({ dst := _, op := Op.box _ _, type := _, pos := _, after := _, guard := _ } :: _) _ _; refine st_box hS rfl rfl rfl ?_; clear hS; intro b w hS; (try simp only [List.nil_append, List.cons_append, List.set_cons_zero, List.set_cons_succ, List.append_assoc, Value.cells, splice, List.take_succ_cons, List.take_zero, List.drop_succ_cons, List.drop_zero, List.length_cons, List.length_nil, Nat.zero_add, Nat.reduceAdd, Act.eval, Array.getD_eq_getD_getElem?, List.getElem?_toArray, List.getElem?_cons_succ, List.getElem?_cons_zero, Option.getD_some, List.toList_toArray] at hS)))
  go_ret2
  have hS := st_emptyMap (i := 1) hS rfl
  simp only [List.set_cons_succ, List.set_cons_zero] at hS
  refine ⟨b, rfl, hS.map fun _ h => Owns.disk (m := m) (A := none) (cap := 0) (D := newDk n) ?_⟩
  refine Owns.tl (fun _ h => ?_) _ h
  refine Owns.hd (A := Mi m []) (fun h hh => ?_) (Owns.tl (fun _ => Owns.more openR_nil) _ h)
  exact ⟨[], rfl, fun _ h => by simp at h, h, PH.emp, hh, rfl, PH.disj_emp _, (PH.join_emp _).symm⟩
theorem new_no (hS : St B own0 l w) {n : Int} (h1 : n < 1) :
    Calls Try.prog 9 #[.int .i64 n] w fun e w => e = .returned (.tuple #[.pointer none, .int .i64 1]) ∧ St B own0 l w := by
  go_enter Try.func9, Try.ntmps9
  go_wp2
  go_ret2
  exact ⟨rfl, hS⟩

/-- The latest open write of a block; else what is kept. -/
def lastOpen : List (Int × List UInt8) → Int → Option (List UInt8)
  | [], _ => none
  | x :: r, q => match lastOpen r q with
    | some b => some b
    | none => if x.1 = q then some x.2 else none
def readOf (D : Dk) (q : Int) : List UInt8 := match lastOpen D.opens q with
  | some b => pad b
  | none => goodK D.kept q

theorem lastOpen_append (q : Int) : ∀ (a b : List (Int × List UInt8)), lastOpen (a ++ b) q = match lastOpen b q with
    | some v => some v
    | none => lastOpen a q
  | [], b => by simp only [List.nil_append]; cases lastOpen b q <;> rfl
  | x :: a, b => by
    simp only [List.cons_append, lastOpen, lastOpen_append q a b]
    cases lastOpen b q <;> rfl
def readRes (D : Dk) (q : Int) : Int := if D.down then 20 else if q < 0 ∨ q ≥ D.blocks then 1 else 0
theorem openCells_get {t : List Tri} {k : Nat} {x : Tri} (hx : t[k]? = some x) (sp : List Value) : (openCells t ++ sp)[k * 2]? = some (.int .i64 x.1) ∧ (openCells t ++ sp)[k * 2 + 1]? = some (Value.slice (some ⟨x.2.1, 0, none⟩) blk blk) := by
  have h := openCells_at t k x hx
  have hl : k < t.length := (List.getElem?_eq_some_iff.1 hx).1
  have hlen := openCells_length t
  have h0 : (openCells t)[k * 2]? = some (.int .i64 x.1) := by
    have := congrArg (fun l => l[0]?) h
    simpa [List.getElem?_take, List.getElem?_drop] using this
  have h1 : (openCells t)[k * 2 + 1]? = some (Value.slice (some ⟨x.2.1, 0, none⟩) blk blk) := by
    have := congrArg (fun l => l[1]?) h
    simpa [List.getElem?_take, List.getElem?_drop] using this
  rw [List.getElem?_append_left (by omega), List.getElem?_append_left (by omega)]
  exact ⟨h0, h1⟩
theorem kv_append (a b : List Tri) : Tri.kv (a ++ b) = Tri.kv a ++ Tri.kv b := by simp [Tri.kv]
theorem read_no (hS : St B own0 (DiskR p D :: l) w) {q : Int} (hno : readRes D q ≠ 0) :
    Calls Try.prog 14 #[.pointer (some ⟨p, 0, none⟩), .int .i64 q] w fun e w => e = .returned (.tuple #[.slice none 0 0, .int .i64 (readRes D q)]) ∧ St B own0 (DiskR p D :: l) w := by
  obtain ⟨m, A, cap, hS⟩ := st_openDisk hS
  obtain ⟨blocks, kept, opens, down, life, armed⟩ := D
  cases down with
  | true =>
    go_enter Try.func14, Try.ntmps14
    go_wp2_with (first | (show wpList _ _ _ ({ dst := _, op := Op.load _ _, type := _, pos := _, after := _, guard := _ } :: _) _ _; (first | (refine st_load hS 0 rfl rfl rfl rfl rfl ?_))))
    go_ret2
    exact ⟨rfl, hS.map fun _ h => Owns.disk h⟩
  | false =>
    simp only [readRes, Bool.false_eq_true, if_false] at hno ⊢
    by_cases b1 : q < 0
    · rw [if_pos (.inl b1)]
      go_enter Try.func14, Try.ntmps14
      go_wp2_with (first | (show wpList _ _ _ ({ dst := _, op := Op.load _ _, type := _, pos := _, after := _, guard := _ } :: _) _ _; (first | (refine st_load hS 0 rfl rfl rfl rfl rfl ?_))))
      go_ret2
      exact ⟨rfl, hS.map fun _ h => Owns.disk h⟩
    by_cases b2 : blocks ≤ q
    · rw [if_pos (.inr b2)]
      go_enter Try.func14, Try.ntmps14
      go_wp2_with (first | (show wpList _ _ _ ({ dst := _, op := Op.load _ _, type := _, pos := _, after := _, guard := _ } :: _) _ _; (first | (refine st_load hS 0 rfl rfl rfl rfl rfl ?_))))
      go_ret2
      exact ⟨rfl, hS.map fun _ h => Owns.disk h⟩
    · rw [if_neg (by omega)] at hno
      exact absurd rfl hno
set_option maxHeartbeats 1600000 in
theorem read_c (hlen : D.opens.length < 4294967295) (hS : St B own0 (DiskR p D :: l) w) {q : Int} (hyes : readRes D q = 0) :
    Calls Try.prog 14 #[.pointer (some ⟨p, 0, none⟩), .int .i64 q] w fun e w => ∃ b, e = .returned (.tuple #[(Value.slice (some ⟨b, 0, none⟩) blk blk), .int .i64 0]) ∧ St B own0 (Cl b 5 ((readOf D q).map b8) :: DiskR p D :: l) w := by
  obtain ⟨m, A, cap, hS⟩ := st_openDisk hS
  obtain ⟨blocks, kept, opens, down, life, armed⟩ := D
  obtain ⟨t, ht, hok, hS⟩ := st_openOpen (hS.front 2 rfl)
  simp only [diskCells, List.eraseIdx_cons_succ, List.eraseIdx_cons_zero] at hS ht hlen
  subst ht
  rw [kv_length] at hlen hS
  (replace hS := hS.front 3 rfl; replace hS := hS.front 3 rfl; simp only [List.eraseIdx_cons_succ, List.eraseIdx_cons_zero] at hS)
  cases down with
  | true => simp [readRes] at hyes
  | false =>
    simp only [readRes, Bool.false_eq_true, if_false] at hyes
    by_cases hq : q < 0 ∨ q ≥ blocks
    · rw [if_pos hq] at hyes; cases hyes
    clear hyes
    have hq1 : ¬ q < 0 := by omega
    have hq2 : ¬ blocks ≤ q := by omega
    clear hq
    go_enter Try.func14, Try.ntmps14
    go_wp2_with (first | (show wpList _ _ _ ({ dst := _, op := Op.load _ _, type := _, pos := _, after := _, guard := _ } :: _) _ _; (first | (refine st_load hS 0 rfl rfl rfl rfl rfl ?_))))
    go_loopw [6] (fun i wr => ∃ k : Nat, k ≤ t.length ∧ i = .int .i64 ((k : Int) - 1) ∧ lastOpen (Tri.kv (t.drop k)) q = none ∧ St B own0 (Cl p 69 [Value.int IntKind.i64 blocks, Value.map (some m), Value.slice A t.length cap, Value.bool false, Value.int IntKind.i64 life, Value.int IntKind.i64 armed.after, Value.int IntKind.u64 armed.keep, Value.int IntKind.i64 armed.torn, Value.int IntKind.i64 armed.cut] :: KeptR m kept :: Bf 71 2 A cap (openCells t) :: Tri.own t :: l) wr) (fun i _ => (intOf i + 1).toNat)
    case atStart => exact ⟨t.length, Nat.le_refl _, by go_num, by simp [Tri.kv, lastOpen], hS⟩
    case round =>
      clear hS
      obtain ⟨k, hk, rfl, hnone, hS⟩ := hrel
      cases k with
      | zero =>
        go_wp2_with (first | (show wpList _ _ _ ({ dst := _, op := Op.load _ _, type := _, pos := _, after := _, guard := _ } :: _) _ _; (first | (refine st_load hS 0 rfl rfl rfl rfl rfl ?_))))
        refine (good_c rfl hS).mono ?_
        clear hS
        rintro e w ⟨b, rfl, hS⟩
        go_wp2
        go_ret2
        simp only [List.drop_zero] at hnone
        refine ⟨b, rfl, ?_⟩
        rw [show readOf ⟨blocks, kept, Tri.kv t, false, life, armed⟩ q = goodK kept q by simp [readOf, hnone]]
        rw [← kv_length] at hS
        exact hS.map (Owns.tl fun _ h => Owns.disk (D := ⟨blocks, kept, Tri.kv t, false, life, armed⟩) (Owns.tl (Owns.tl fun _ => Owns.open hok) _ h))
      | succ k =>
        rw [show (((k + 1 : Nat) : Int) - 1) = (k : Int) by omega]
        obtain ⟨x, hx⟩ : ∃ x, t[k]? = some x := ⟨t[k], by simp [show k < t.length by omega]⟩
        have hmx : x ∈ t := List.mem_of_getElem? hx
        have hdrop : Tri.kv (t.drop k) = (x.1, x.2.2) :: Tri.kv (t.drop (k + 1)) := by
          rw [List.drop_eq_getElem_cons (show k < t.length by omega)]
          have : t[k] = x := by rw [List.getElem?_eq_some_iff] at hx; exact hx.2
          rw [this]; rfl
        (replace hS := hS.front 2 rfl; simp only [List.eraseIdx_cons_succ, List.eraseIdx_cons_zero] at hS)
        obtain ⟨ba, sp, rfl, hl1, hl2, hS⟩ := st_bfCl hS (by intro e; have := openCells_length t; rw [e] at this; simp at this; omega)
        obtain ⟨g0, g1⟩ := openCells_get hx sp
        have H0 := Lib.hid g0
        have H1 := Lib.hid g1
        have Hd := Lib.hid hdrop
        have Hn := Lib.hid hnone
        have Hl1 := Lib.hid hl1
        clear g0 g1 hdrop hnone hl1
        have hk0 : k < t.length := by omega
        by_cases hxq : x.1 = q
        · have ex : (x.1 == q) = true := by simpa using hxq
          go_wp2_with (first
            | (refine st_load hS 0 rfl rfl rfl rfl H0.out ?_)
            | (refine st_load hS 0 rfl rfl rfl rfl H1.out ?_)
            | (show wpList _ _ _ ({ dst := _, op := Op.load _ _, type := _, pos := _, after := _, guard := _ } :: _) _ _; (first | (refine st_load hS 1 rfl rfl rfl rfl rfl ?_)))
            | (show wpList _ _ _ ({ dst := _, op := Op.indexAddr _ _ _, type := _, pos := _, after := _, guard := _ } :: _) _ _; refine st_index rfl rfl rfl rfl (by omega) (by omega) rfl ?_))
          obtain ⟨o1, hS1, back, ro, oth⟩ := St.call (pre := []) hS
          obtain ⟨h, hh, hle⟩ := oth 3 _ rfl
          refine (whole_c hS1 ((rd_block (own_mem hh hmx)).up hle) (hok _ hmx).symm).mono ?_
          rintro e w ⟨b, rfl, hS2⟩
          replace hS := back _ _ hS2
          simp only [List.cons_append, List.nil_append] at hS
          clear back oth ro hS1 hS2
          go_wp2
          go_ret2
          refine ⟨b, rfl, ?_⟩
          have e : readOf ⟨blocks, kept, Tri.kv t, false, life, armed⟩ q = pad x.2.2 := by
            have e1 : lastOpen (Tri.kv t) q = some x.2.2 := by
              have e2 : Tri.kv t = Tri.kv (t.take k) ++ Tri.kv (t.drop k) := by rw [← kv_append, List.take_append_drop]
              rw [e2, lastOpen_append, Hd.out]
              simp [lastOpen, Hn.out, hxq]
            simp [readOf, e1]
          rw [e]
          (replace hS := hS.front 4 rfl; replace hS := hS.front 2 rfl; replace hS := hS.front 4 rfl; replace hS := hS.front 4 rfl; replace hS := hS.front 4 rfl; simp only [List.eraseIdx_cons_succ, List.eraseIdx_cons_zero] at hS)
          rw [← kv_length] at hS
          exact hS.map (Owns.tl fun _ h => Owns.disk (D := ⟨blocks, kept, Tri.kv t, false, life, armed⟩) (Owns.tl (Owns.tl fun _ h => Owns.open hok (Owns.bf Hl1.out hl2 h)) _ h))
        · have ex : (x.1 == q) = false := by simpa using hxq
          go_wp2_with (first
            | (refine st_load hS 0 rfl rfl rfl rfl H0.out ?_)
            | (show wpList _ _ _ ({ dst := _, op := Op.load _ _, type := _, pos := _, after := _, guard := _ } :: _) _ _; (first | (refine st_load hS 1 rfl rfl rfl rfl rfl ?_)))
            | (show wpList _ _ _ ({ dst := _, op := Op.indexAddr _ _ _, type := _, pos := _, after := _, guard := _ } :: _) _ _; refine st_index rfl rfl rfl rfl (by omega) (by omega) rfl ?_))
          go_roundw
          case measure => simp [intOf]
          case rel =>
            refine ⟨k, by omega, by go_num, ?_, ?_⟩
            · rw [Hd.out]; simp [lastOpen, Hn.out, hxq]
            · replace hS := hS.map fun _ h => Owns.bf (sz := 2) Hl1.out hl2 h
              (replace hS := hS.front 2 rfl; replace hS := hS.front 2 rfl; simp only [List.eraseIdx_cons_succ, List.eraseIdx_cons_zero] at hS)
              exact hS
end
end Go.Proofs.Ytfdogeebkbaadaa
