/- The program's disk: what it is in memory, and what its functions do. -/
import Derived.Test.YtfdogeebkbaadaaTypes
import Derived.Test.YtfdogeebkbaadaaRules3
import Derived.StillTailTactics
import Derived.Deep.DeepMust
import Derived.Lib.Hide
set_option linter.unusedVariables false
set_option linter.unusedSimpArgs false
namespace Go.Proofs.Ytfdogeebkbaadaa
open Go.RowKit
set_option maxHeartbeats 400000

def blk : Nat := 8192
theorem blk_eq : blk = 8192 := rfl
def pad (l : List UInt8) : List UInt8 := l.take blk ++ List.replicate (blk - l.length) 0
theorem pad_length (l : List UInt8) : (pad l).length = blk := by simp [pad]; omega
theorem pad_self {l : List UInt8} (h : l.length = blk) : pad l = l := by simp [pad, h, List.take_of_length_le (Nat.le_of_eq h)]

theorem b8_one (l : List UInt8) : ∀ u ∈ l.map b8, u.oneCell' = true := fun u hu => by obtain ⟨x, _, rfl⟩ := List.mem_map.1 hu; rfl

theorem blk_le : blk ≤ 140737488355328 := by decide
theorem splice_pad (l : List UInt8) : splice (List.replicate blk (Value.int .u8 0)) 0 ((l.take blk).map b8) = (pad l).map b8 := by
  unfold splice pad
  rw [List.take_zero, List.nil_append, List.map_append, List.map_replicate, List.drop_replicate]
  congr 2
  rw [List.length_map, List.length_take]; omega

theorem whole_c {B : World} {own0 : PH} {hs : List HP} {w : World} (hS : St B own0 hs w) {A : Option Addr} {l : List UInt8} {n c : Nat} (hR : Rd E8 (roOf B own0) A l) (hn : n = l.length) :
    Calls Try.prog 34 #[.slice A n c] w fun e w => ∃ b, e = .returned (.slice (some ⟨b, 0, none⟩) blk blk) ∧ St B own0 (Cl b 5 ((pad l).map b8) :: hs) w := by
  subst hn
  go_enter Try.func34, Try.ntmps34
  go_wp2_with (first
    | (refine st_makeSlice hS blk rfl rfl rfl rfl rfl (by decide) (by decide) ?_; clear hS; intro b w hS)
    | (refine st_copy hS 0 rfl rfl rfl rfl rfl ((l.take blk).map b8) (by simp [Nat.min_comm]) ((hR.take blk).src8 hS.ro) (by simp; omega) (b8_one _) ?_; clear hS; intro w hS; simp only [List.set_cons_zero, splice_pad] at hS))
  go_ret
  exact ⟨_, rfl, hS⟩

attribute [irreducible] pad
/-! ### The disk in memory -/
structure Loss where
  after : Int
  keep : Int
  torn : Int
  cut : Int
def Loss.none : Loss := ⟨0, 0, 0, 0⟩
def Loss.cells (l : Loss) : List Value := [.int .i64 l.after, .int .u64 l.keep, .int .i64 l.torn, .int .i64 l.cut]
structure Dk where
  blocks : Int
  kept : List (Int × List UInt8)
  opens : List (Int × List UInt8)
  down : Bool
  life : Int
  armed : Loss

abbrev Tri := Int × Nat × List UInt8
def Tri.kv (t : List Tri) : List (Int × List UInt8) := t.map fun x => (x.1, x.2.2)
def Tri.ok (t : List Tri) : Prop := ∀ x ∈ t, x.2.2.length = blk
def Tri.own (t : List Tri) : HP := Owns (t.map fun x => Cl x.2.1 5 (x.2.2.map b8))
/-- What is kept for good: a map of blocks. -/
def KeptR (m : Nat) (kept : List (Int × List UInt8)) : HP := fun h => ∃ t : List Tri, Tri.kv t = kept ∧ Tri.ok t ∧ Star (Mi m (t.map fun x => (x.1, (Value.slice (some ⟨x.2.1, 0, none⟩) blk blk)))) (Tri.own t) h
/-- The open writes. -/
def OpenR (A : Option Addr) (cap : Nat) (opens : List (Int × List UInt8)) : HP := fun h => ∃ t : List Tri, Tri.kv t = opens ∧ Tri.ok t ∧ Star (Bf 71 2 A cap (t.flatMap fun x => [.int .i64 x.1, (Value.slice (some ⟨x.2.1, 0, none⟩) blk blk)])) (Tri.own t) h
def diskCells (D : Dk) (m : Nat) (A : Option Addr) (cap : Nat) : List Value :=
  [.int .i64 D.blocks, .map (some m), .slice A D.opens.length cap, .bool D.down, .int .i64 D.life, .int .i64 D.armed.after, .int .u64 D.armed.keep, .int .i64 D.armed.torn, .int .i64 D.armed.cut]
def DiskR (p : Nat) (D : Dk) : HP := fun h => ∃ m A cap, Star (Cl p 69 (diskCells D m A cap)) (Star (KeptR m D.kept) (OpenR A cap D.opens)) h

section
variable {B : World} {own0 : PH} {w : World} {p : Nat} {D : Dk} {l : List HP}
theorem st_openDisk (hS : St B own0 (DiskR p D :: l) w) : ∃ m A cap, St B own0 (Cl p 69 (diskCells D m A cap) :: KeptR m D.kept :: OpenR A cap D.opens :: l) w := by
  obtain ⟨m, hS⟩ := St.cons_ex hS
  obtain ⟨A, hS⟩ := St.cons_ex hS
  obtain ⟨cap, hS⟩ := St.cons_ex hS
  exact ⟨m, A, cap, hS.cons_star.map (Owns.tl fun _ => Owns.star.1)⟩
theorem Owns.disk {m cap : Nat} {A : Option Addr} {h : PH} (ho : Owns (Cl p 69 (diskCells D m A cap) :: KeptR m D.kept :: OpenR A cap D.opens :: l) h) : Owns (DiskR p D :: l) h :=
  Owns.hd (fun _ hh => ⟨m, A, cap, hh⟩) (Owns.star.2 (Owns.tl (fun _ => Owns.star.2) _ ho))
theorem Owns.kept {m : Nat} {t : List Tri} (h2 : Tri.ok t) {h : PH} (ho : Owns (Mi m (t.map fun x => (x.1, (Value.slice (some ⟨x.2.1, 0, none⟩) blk blk))) :: Tri.own t :: l) h) : Owns (KeptR m (Tri.kv t) :: l) h :=
  Owns.hd (fun _ hh => ⟨t, rfl, h2, hh⟩) (Owns.star.2 ho)
theorem st_openKept {m : Nat} {kept : List (Int × List UInt8)} (hS : St B own0 (KeptR m kept :: l) w) :
    ∃ t : List Tri, Tri.kv t = kept ∧ Tri.ok t ∧ St B own0 (Mi m (t.map fun x => (x.1, (Value.slice (some ⟨x.2.1, 0, none⟩) blk blk))) :: Tri.own t :: l) w := by
  obtain ⟨t, hS⟩ := hS.exists 0 rfl (fun h hh => hh)
  obtain ⟨h1, hS⟩ := hS.andAt 0 rfl
  obtain ⟨h2, hS⟩ := hS.andAt 0 rfl
  exact ⟨t, h1, h2, hS.cons_star⟩
end

theorem mget_map {α β : Type} (f : α → β) (t : List (Int × α)) (q : Int) : mget (t.map fun x => (x.1, f x.2)) q = (mget t q).map f := by
  induction t with
  | nil => rfl
  | cons x t ih => obtain ⟨k, v⟩ := x; simp only [List.map_cons, mget]; split <;> simp_all
theorem mget_mem {α : Type} {t : List (Int × α)} {q : Int} {v : α} (h : mget t q = some v) : (q, v) ∈ t := by
  induction t with
  | nil => simp [mget] at h
  | cons x t ih =>
    obtain ⟨k, u⟩ := x
    simp only [mget] at h
    split at h
    · rename_i e; cases h; subst e; simp
    · exact List.mem_cons_of_mem _ (ih h)
theorem own_mem {t : List Tri} {h : PH} (hh : Tri.own t h) {x : Tri} (hx : x ∈ t) : h x.2.1 = some (.cells (x.2.2.map b8).toArray 5 (0, 0)) := by
  obtain ⟨i, hi, rfl⟩ := List.mem_iff_getElem.1 hx
  obtain ⟨h1, h2, rfl, _, rfl, _⟩ := hh.get (i := i) (A := Cl t[i].2.1 5 (t[i].2.2.map b8)) (by simp [hi])
  exact PH.le_join_l _ _ _ _ (PH.one_self _ _)
theorem rd_block {h : PH} {b : Nat} {T : TypeId} {fr : Nat × Nat} {l : List UInt8} (hb : h b = some (.cells (l.map b8).toArray T fr)) : Rd E8 h (some ⟨b, 0, none⟩) l :=
  .inr ⟨b, 0, _, T, fr, rfl, hb, fun i x hi => ⟨[b8 x], rfl, fun j v hj => by
    cases j with
    | zero => simp only [List.getElem?_cons_zero, Option.some.injEq] at hj; subst hj; simp [E8, Elt.sc, hi]
    | succ j => simp at hj⟩⟩

theorem mset_map {α β : Type} (f : α → β) (t : List (Int × α)) (q : Int) (v : α) : mset (t.map fun x => (x.1, f x.2)) q (f v) = (mset t q v).map fun x => (x.1, f x.2) := by
  induction t with
  | nil => rfl
  | cons x t ih => obtain ⟨k, u⟩ := x; simp only [List.map_cons, mset]; split <;> simp_all
theorem own_mset {q : Int} {b : Nat} {lb : List UInt8} : ∀ (t : List Tri) (h1 h2 : PH), Cl b 5 (lb.map b8) h1 → Tri.own t h2 → PH.disj h1 h2 → ∃ h', Tri.own (mset t q (b, lb)) h' ∧ PH.le h' (PH.join h1 h2)
  | [], h1, h2, c, _, d => ⟨h1, Owns.single c, PH.le_join_l _ _⟩
  | (k, u) :: t, h1, _, c, ⟨g1, g2, cu, ht, dg, rfl⟩, d => by
    have ⟨d1, d2⟩ := PH.disj_join_r.1 d
    by_cases hq : q = k
    · refine ⟨PH.join h1 g2, ?_, PH.join_le (PH.le_join_l _ _) (PH.le_trans (PH.le_join_r dg) (PH.le_join_r d))⟩
      simp only [mset, hq, if_true]
      exact ⟨h1, g2, c, ht, d2, rfl⟩
    · obtain ⟨h', hh, hle⟩ := own_mset t h1 g2 c ht d2
      simp only [mset, hq, if_false]
      have dd : PH.disj g1 h' := fun x => by
        cases e : h' x with
        | none => exact .inr rfl
        | some o =>
          refine .inl ?_
          have hx := hle x o e
          rcases (PH.disj_join_r.2 ⟨PH.disj_symm d1, dg⟩ : PH.disj g1 (PH.join h1 g2)) x with h | h
          · exact h
          · rw [h] at hx; cases hx
      exact ⟨PH.join g1 h', ⟨g1, h', cu, hh, dd, rfl⟩, PH.join_le (PH.le_trans (PH.le_join_l _ _) (PH.le_join_r d)) (PH.le_trans hle (PH.join_le (PH.le_join_l _ _) (PH.le_trans (PH.le_join_r dg) (PH.le_join_r d))))⟩
theorem kv_mset (t : List Tri) (q : Int) (b : Nat) (lb : List UInt8) : Tri.kv (mset t q (b, lb)) = mset (Tri.kv t) q lb := (mset_map (fun x : Nat × List UInt8 => x.2) t q (b, lb)).symm
theorem mset_mem {α : Type} {t : List (Int × α)} {q : Int} {v : α} {x : Int × α} (h : x ∈ mset t q v) : x = (q, v) ∨ x ∈ t := by
  induction t with
  | nil => simpa [mset] using h
  | cons y t ih =>
    obtain ⟨k, u⟩ := y
    simp only [mset] at h
    split at h
    · rcases List.mem_cons.1 h with h | h
      · exact .inl h
      · exact .inr (List.mem_cons_of_mem _ h)
    · rcases List.mem_cons.1 h with h | h
      · exact .inr (by rw [h]; simp)
      · rcases ih h with h | h
        · exact .inl h
        · exact .inr (List.mem_cons_of_mem _ h)
theorem ok_mset {t : List Tri} (h : Tri.ok t) (q : Int) (b : Nat) {lb : List UInt8} (hl : lb.length = blk) : Tri.ok (mset t q (b, lb)) := fun x hx => by
  rcases mset_mem hx with rfl | hx
  · exact hl
  · exact h x hx
theorem st_keptSet {B : World} {own0 : PH} {l : List HP} {w : World} {m b : Nat} {q : Int} {t : List Tri} {lb : List UInt8} (hok : Tri.ok t) (hl : lb.length = blk)
    (hS : St B own0 (Mi m (mset (t.map fun x => (x.1, (Value.slice (some ⟨x.2.1, 0, none⟩) blk blk))) q (Value.slice (some ⟨b, 0, none⟩) blk blk)) :: Cl b 5 (lb.map b8) :: Tri.own t :: l) w) : St B own0 (KeptR m (mset (Tri.kv t) q lb) :: l) w := by
  have h2 : St B own0 (Mi m (mset (t.map fun x => (x.1, (Value.slice (some ⟨x.2.1, 0, none⟩) blk blk))) q (Value.slice (some ⟨b, 0, none⟩) blk blk)) :: Tri.own (mset t q (b, lb)) :: l) w := by
    refine hS.drop ?_
    rintro p ⟨g1, _, a1, ⟨h1, _, c, ⟨h2, h3, o, ho, d3, rfl⟩, d2, rfl⟩, d1, rfl⟩
    have ⟨e1, e2⟩ := PH.disj_join_r.1 d2
    obtain ⟨h', hh, hle⟩ := own_mset (q := q) t h1 h2 c o e1
    have le2 : PH.le (PH.join h' h3) (PH.join h1 (PH.join h2 h3)) := PH.join_le (PH.le_trans hle (PH.join_le (PH.le_join_l _ _) (PH.le_trans (PH.le_join_l _ _) (PH.le_join_r d2)))) (PH.le_trans (PH.le_join_r d3) (PH.le_join_r d2))
    have dd : ∀ {x y z : PH}, PH.le x y → PH.disj y z → PH.disj x z := fun hle hd b => by
      rename_i x y z
      rcases hd b with h | h
      · refine .inl ?_
        cases e : x b with
        | none => rfl
        | some o => rw [hle b o e] at h; cases h
      · exact .inr h
    exact ⟨PH.join g1 (PH.join h' h3), ⟨g1, _, a1, ⟨h', h3, hh, ho, dd hle (PH.disj_join_l.2 ⟨e2, d3⟩), rfl⟩, PH.disj_symm (dd le2 (PH.disj_symm d1)), rfl⟩, PH.join_le (PH.le_join_l _ _) (PH.le_trans le2 (PH.le_join_r d1))⟩
  have e := mset_map (fun x : Nat × List UInt8 => (Value.slice (some ⟨x.1, 0, none⟩) blk blk)) t q (b, lb)
  simp only at e
  rw [e] at h2
  have h3 := h2.close2.imp (A' := KeptR m (Tri.kv (mset t q (b, lb)))) fun _ hh => ⟨_, rfl, ok_mset hok q b hl, hh⟩
  rwa [kv_mset] at h3

def goodK (kept : List (Int × List UInt8)) (q : Int) : List UInt8 := pad ((mget kept q).getD [])
theorem goodK_length (kept : List (Int × List UInt8)) (q : Int) : (goodK kept q).length = blk := pad_length _

theorem good_c {B : World} {own0 : PH} {l : List HP} {w : World} {p m : Nat} {cs : List Value} {kept : List (Int × List UInt8)} {q : Int} (hcs : cs[1]? = some (.map (some m))) (hS : St B own0 (Cl p 69 cs :: KeptR m kept :: l) w) :
    Calls Try.prog 36 #[.pointer (some ⟨p, 0, none⟩), .int .i64 q] w fun e w => ∃ b, e = .returned (Value.slice (some ⟨b, 0, none⟩) blk blk) ∧ St B own0 (Cl b 5 ((goodK kept q).map b8) :: Cl p 69 cs :: KeptR m kept :: l) w := by
  obtain ⟨t, ht, hok, hS⟩ := st_openKept hS.swap
  have hS := hS.front 2 rfl
  simp only [List.eraseIdx_cons_succ, List.eraseIdx_cons_zero] at hS
  go_enter Try.func36, Try.ntmps36
  go_wp2_with (first
    | (refine st_load hS 0 rfl rfl rfl rfl hcs ?_)
    | (refine st_lookup hS 1 rfl rfl rfl rfl rfl ?_))
  obtain ⟨o1, hS1, back, ro, oth⟩ := St.call (pre := []) hS
  have key : ∃ A' n c lb, (mget (t.map fun x => (x.1, (Value.slice (some ⟨x.2.1, 0, none⟩) blk blk))) q).getD (.slice none 0 0) = .slice A' n c ∧ n = lb.length ∧ Rd E8 (roOf w o1) A' lb ∧ goodK kept q = pad lb := by
    have e1 := mget_map (fun x : Nat × List UInt8 => (.slice (some ⟨x.1, 0, none⟩) blk blk : Value)) t q
    have e2 := mget_map (fun x : Nat × List UInt8 => x.2) t q
    have e3 : goodK kept q = pad (((mget t q).map fun x => x.2).getD []) := by rw [goodK, ← ht, ← e2]; rfl
    rw [e3]
    rw [e1]
    cases hg : mget t q with
    | none => exact ⟨none, 0, 0, [], rfl, rfl, Rd.nil, rfl⟩
    | some x =>
      obtain ⟨b, lb⟩ := x
      obtain ⟨h, hh, hle⟩ := oth 2 _ rfl
      have hm := mget_mem hg
      exact ⟨some ⟨b, 0, none⟩, blk, blk, lb, rfl, (hok _ hm).symm, (rd_block (own_mem hh hm)).up hle, rfl⟩
  obtain ⟨A', n, c, lb, e1, e2, e3, e4⟩ := key
  rw [e1]
  refine (whole_c hS1 e3 e2).mono ?_
  rintro e w1 ⟨b, rfl, hS2⟩
  have hS := back _ _ hS2
  go_wp2
  go_ret
  rw [← e4] at hS
  exact ⟨b, rfl, hS.map (Owns.tl (Owns.tl (fun _ => ht ▸ Owns.kept hok)))⟩

def layK (kept : List (Int × List UInt8)) (q : Int) (lb : List UInt8) (n : Nat) : List (Int × List UInt8) := mset kept q (lb.take n ++ (goodK kept q).drop n)
theorem lay_c {B : World} {own0 : PH} {l : List HP} {w : World} {p m : Nat} {cs : List Value} {kept : List (Int × List UInt8)} {q : Int} {bl n : Nat} {lb : List UInt8} (hcs : cs[1]? = some (.map (some m))) (hS : St B own0 (Cl p 69 cs :: KeptR m kept :: l) w)
    (hR : Rd E8 (roOf B own0) (some ⟨bl, 0, none⟩) lb) (hl : lb.length = blk) (hn : n ≤ blk) :
    Calls Try.prog 33 #[.pointer (some ⟨p, 0, none⟩), .agg #[.int .i64 q, (Value.slice (some ⟨bl, 0, none⟩) blk blk)], .int .i64 (n : Int)] w fun e w => e = .returned (.tuple #[]) ∧
      St B own0 (Cl p 69 cs :: KeptR m (layK kept q lb n) :: l) w := by
  have hn' : (n : Int) ≤ (blk : Int) := by omega
  go_enter Try.func33, Try.ntmps33
  go_wp2_with (first
    | (refine st_load hS 0 rfl rfl rfl rfl rfl ?_)
    | (show wpList _ _ _ ({ dst := _, op := Op.box _ _, type := _, pos := _, after := _, guard := _ } :: _) _ _; refine st_box hS rfl rfl rfl ?_; clear hS; intro bw w hS; (try simp only [List.nil_append, List.cons_append, List.set_cons_zero, List.set_cons_succ, List.append_assoc, Value.cells, splice, List.take_succ_cons, List.take_zero, List.drop_succ_cons, List.drop_zero, List.length_cons, List.length_nil, Nat.zero_add, Nat.reduceAdd, Act.eval, Array.getD_eq_getD_getElem?, List.getElem?_toArray, List.getElem?_cons_succ, List.getElem?_cons_zero, Option.getD_some, List.toList_toArray] at hS)))
  (replace hS := hS.front 2 rfl; replace hS := hS.front 2 rfl; simp only [List.eraseIdx_cons_succ, List.eraseIdx_cons_zero] at hS)
  refine (good_c hcs hS).mono ?_
  rintro e w ⟨bc, rfl, hS⟩
  go_wp2_with (fail)
  have hb := hS.block (i := 3) rfl
  have hc0 : w.cell? ⟨bw, 0, none⟩ = some (.int .i64 q) := by simp [World.cell?, hb]
  have hc1 : w.cell? ⟨bw, 1, none⟩ = some (Value.slice (some ⟨bl, 0, none⟩) blk blk) := by simp [World.cell?, hb]
  have hd1 : decide ((n : Int) ≤ (blk : Int)) = true := by simpa using hn'
  (go_still_tail 7, (by kernel_rfl)); (change wpList _ _ _ _ _ w.drew); (replace hS := hS.drew); (generalize w.drew = w at hS ⊢)
  clear hc0 hc1 hb hd1
  go_wp2_with (first
    | (refine st_copy hS 0 rfl rfl rfl rfl rfl ((lb.take n).map b8) (by simp [hl]; omega) ((hR.take n).src8 hS.ro) (by simp [goodK_length]; omega) (b8_one _) ?_; clear hS; intro w hS; simp only [List.set_cons_zero] at hS))
  have e : splice (List.map b8 (goodK kept q)) 0 (List.map b8 (List.take n lb)) = (lb.take n ++ (goodK kept q).drop n).map b8 := by
    simp [splice, hl, List.map_append, List.map_take, List.map_drop, Nat.min_eq_left hn]
  rw [e] at hS
  clear e
  have hb := hS.block (i := 3) rfl
  have hb1 := hS.block (i := 1) rfl
  have hc0 : w.cell? ⟨bw, 0, none⟩ = some (.int .i64 q) := by simp [World.cell?, hb]
  have hc1 : w.cell? ⟨p, 1, none⟩ = some (.map (some m)) := by simpa [World.cell?, hb1] using hcs
  (go_still_tail 7, (by kernel_rfl)); (change wpList _ _ _ _ _ w.drew); (replace hS := hS.drew); (generalize w.drew = w at hS ⊢)
  clear hc0 hc1 hb hb1
  obtain ⟨t, ht, hok, hS⟩ := st_openKept (hS.front 2 rfl)
  simp only [List.eraseIdx_cons_succ, List.eraseIdx_cons_zero] at hS
  go_wp2_with (first | (refine st_mapUpdate hS 0 rfl rfl rfl rfl rfl rfl ?_; clear hS; intro w hS; (try simp only [List.nil_append, List.cons_append, List.set_cons_zero, List.set_cons_succ, List.append_assoc, Value.cells, splice, List.take_succ_cons, List.take_zero, List.drop_succ_cons, List.drop_zero, List.length_cons, List.length_nil, Nat.zero_add, Nat.reduceAdd, Act.eval, Array.getD_eq_getD_getElem?, List.getElem?_toArray, List.getElem?_cons_succ, List.getElem?_cons_zero, Option.getD_some, List.toList_toArray] at hS)))
  replace hS := st_keptSet hok (by simp [hl, goodK_length]; omega) (hS.perm (.cons _ (.swap ..)))
  rw [ht] at hS
  (replace hS := hS.front 1 rfl; simp only [List.eraseIdx_cons_succ, List.eraseIdx_cons_zero] at hS)
  (replace hS := hS.erase 2 rfl; simp only [List.eraseIdx_cons_succ, List.eraseIdx_cons_zero] at hS)
  go_end0
  exact ⟨rfl, hS⟩

def fateOf (L : Loss) (i : Int) : Int := if (i == L.torn) = true then 1 else if (Go.bits .and .u64 (L.keep / 2 ^ (i % 64).toNat) 1 == 1) = true then 2 else 0
theorem fate_c {B : World} {own0 : PH} {hs : List HP} {w : World} (hS : St B own0 hs w) (L : Loss) (i : Int) (hi : 0 ≤ i) (hi2 : i < 4294967296) :
    Calls Try.prog 35 #[.agg L.cells.toArray, .int .i64 i] w fun e w => e = .returned (.int .i64 (fateOf L i)) ∧ St B own0 hs w := by
  unfold Loss.cells
  go_enter Try.func35, Try.ntmps35
  go_wp2_with (first
    | (show wpList _ _ _ ({ dst := _, op := Op.load _ _, type := _, pos := _, after := _, guard := _ } :: _) _ _; (first | (refine st_load hS 0 rfl rfl rfl rfl rfl ?_) | (refine st_load hS 1 rfl rfl rfl rfl rfl ?_)))
    | (show wpList _ _ _ ({ dst := _, op := Op.box _ _, type := _, pos := _, after := _, guard := _ } :: _) _ _; refine st_box hS rfl rfl rfl ?_; clear hS; intro bw w hS; (try simp only [List.nil_append, List.cons_append, List.set_cons_zero, List.set_cons_succ, List.append_assoc, Value.cells, splice, List.take_succ_cons, List.take_zero, List.drop_succ_cons, List.drop_zero, List.length_cons, List.length_nil, Nat.zero_add, Nat.reduceAdd, Act.eval, Array.getD_eq_getD_getElem?, List.getElem?_toArray, List.getElem?_cons_succ, List.getElem?_cons_zero, Option.getD_some, List.toList_toArray] at hS)))
  all_goals
    go_ret
    exact ⟨by simp [fateOf, *], hS.tail⟩

/-! ### Power goes -/
def cutN (L : Loss) : Nat := (min (max L.cut 0) 8192).toNat
def cutStep (L : Loss) (i : Int) (kept : List (Int × List UInt8)) (x : Int × List UInt8) : List (Int × List UInt8) :=
  if fateOf L i = 2 then layK kept x.1 x.2 blk else if fateOf L i = 1 then layK kept x.1 x.2 (cutN L) else kept
def cutFold (L : Loss) : Int → List (Int × List UInt8) → List (Int × List UInt8) → List (Int × List UInt8)
  | _, [], kept => kept
  | i, x :: r, kept => cutFold L (i + 1) r (cutStep L i kept x)
def cutOf (D : Dk) (L : Loss) : Dk := if D.down then D else { D with kept := cutFold L 0 D.opens D.kept, opens := [], down := true, life := wrap64 (D.life + 1), armed := Loss.none }

def openCells (t : List Tri) : List Value := t.flatMap fun x => [.int .i64 x.1, (Value.slice (some ⟨x.2.1, 0, none⟩) blk blk)]
theorem openCells_length (t : List Tri) : (openCells t).length = t.length * 2 := by
  induction t with
  | nil => rfl
  | cons x t ih => simp only [openCells, List.flatMap_cons, List.length_append] at ih ⊢; rw [ih]; simp; omega
theorem openCells_at : ∀ (t : List Tri) (k : Nat) (x : Tri), t[k]? = some x → ((openCells t).drop (k * 2)).take 2 = [.int .i64 x.1, (Value.slice (some ⟨x.2.1, 0, none⟩) blk blk)]
  | [], k, x, h => by simp at h
  | y :: t, 0, x, h => by simp only [List.getElem?_cons_zero, Option.some.injEq] at h; subst h; rfl
  | y :: t, k + 1, x, h => by
    have := openCells_at t k x (by simpa using h)
    rw [show (k + 1) * 2 = k * 2 + 2 by omega]
    simp only [openCells, List.flatMap_cons] at this ⊢
    exact this
theorem st_openOpen {B : World} {own0 : PH} {l : List HP} {w : World} {A : Option Addr} {cap : Nat} {opens : List (Int × List UInt8)} (hS : St B own0 (OpenR A cap opens :: l) w) :
    ∃ t : List Tri, Tri.kv t = opens ∧ Tri.ok t ∧ St B own0 (Bf 71 2 A cap (openCells t) :: Tri.own t :: l) w := by
  obtain ⟨t, hS⟩ := hS.exists 0 rfl (fun h hh => hh)
  obtain ⟨h1, hS⟩ := hS.andAt 0 rfl
  obtain ⟨h2, hS⟩ := hS.andAt 0 rfl
  exact ⟨t, h1, h2, hS.cons_star⟩
theorem Owns.open {l : List HP} {A : Option Addr} {cap : Nat} {t : List Tri} (h2 : Tri.ok t) {h : PH} (ho : Owns (Bf 71 2 A cap (openCells t) :: Tri.own t :: l) h) : Owns (OpenR A cap (Tri.kv t) :: l) h :=
  Owns.hd (fun _ hh => ⟨t, rfl, h2, hh⟩) (Owns.star.2 ho)
theorem openR_nil : OpenR none 0 [] PH.emp := ⟨[], rfl, fun _ h => by simp at h, Star.emp (Bf.nil _ _) rfl⟩
theorem cutFold_snoc (L : Loss) : ∀ (l : List (Int × List UInt8)) (i : Int) (kept : List (Int × List UInt8)) (x : Int × List UInt8), cutFold L i (l ++ [x]) kept = cutStep L (i + l.length) (cutFold L i l kept) x
  | [], i, kept, x => by simp [cutFold]
  | y :: l, i, kept, x => by simp only [List.cons_append, cutFold, cutFold_snoc L l, List.length_cons]; congr 1; omega

theorem kv_length (t : List Tri) : (Tri.kv t).length = t.length := by simp [Tri.kv]
theorem kv_take (t : List Tri) (k : Nat) : (Tri.kv t).take k = Tri.kv (t.take k) := by simp [Tri.kv, List.map_take]
theorem cut_c {B : World} {own0 : PH} {l : List HP} {w : World} {p : Nat} {D : Dk} {L : Loss} (hlen : D.opens.length < 4294967296) (hS : St B own0 (DiskR p D :: l) w) :
    Calls Try.prog 12 #[.pointer (some ⟨p, 0, none⟩), .agg L.cells.toArray] w fun e w => e = .returned (.tuple #[]) ∧ St B own0 (DiskR p (cutOf D L) :: l) w := by
  obtain ⟨blocks, kept, opens, down, life, armed⟩ := D
  obtain ⟨m, A, cap, hS⟩ := st_openDisk hS
  obtain ⟨t, ht, hok, hS⟩ := st_openOpen (hS.front 2 rfl)
  unfold Loss.cells
  simp only [diskCells, List.eraseIdx_cons_succ, List.eraseIdx_cons_zero] at hS ht hlen
  subst ht
  rw [kv_length] at hlen
  (replace hS := hS.front 3 rfl; replace hS := hS.front 3 rfl; simp only [List.eraseIdx_cons_succ, List.eraseIdx_cons_zero] at hS)
  rw [kv_length] at hS
  cases down with
  | true =>
    go_enter Try.func12, Try.ntmps12
    go_wp2_with (first
      | (show wpList _ _ _ ({ dst := _, op := Op.load _ _, type := _, pos := _, after := _, guard := _ } :: _) _ _; (first | (refine st_load hS 0 rfl rfl rfl rfl rfl ?_) | (refine st_load hS 1 rfl rfl rfl rfl rfl ?_) | (refine st_load hS 2 rfl rfl rfl rfl rfl ?_) | (refine st_load hS 3 rfl rfl rfl rfl rfl ?_)))
      | (show wpList _ _ _ ({ dst := _, op := Op.box _ _, type := _, pos := _, after := _, guard := _ } :: _) _ _; refine st_box hS rfl rfl rfl ?_; clear hS; intro bL w hS; (try simp only [List.nil_append, List.cons_append, List.set_cons_zero, List.set_cons_succ, List.append_assoc, Value.cells, splice, List.take_succ_cons, List.take_zero, List.drop_succ_cons, List.drop_zero, List.length_cons, List.length_nil, Nat.zero_add, Nat.reduceAdd, Act.eval, Array.getD_eq_getD_getElem?, List.getElem?_toArray, List.getElem?_cons_succ, List.getElem?_cons_zero, Option.getD_some, List.toList_toArray] at hS)))
    ((try simp only [Exit.inBlock, Exit.then]); refine bodyPost_ret (results_none rfl _ _ _) rfl ?_)
    refine ⟨rfl, ?_⟩
    rw [← kv_length] at hS
    exact hS.tail.map fun _ h => Owns.disk (m := m) (A := A) (cap := cap) (D := cutOf ⟨blocks, kept, Tri.kv t, true, life, armed⟩ L) (Owns.tl (Owns.tl (fun _ => Owns.open hok)) _ h)
  | false =>
    go_enter Try.func12, Try.ntmps12
    go_wp2_with (first
      | (show wpList _ _ _ ({ dst := _, op := Op.load _ _, type := _, pos := _, after := _, guard := _ } :: _) _ _; (first | (refine st_load hS 0 rfl rfl rfl rfl rfl ?_) | (refine st_load hS 1 rfl rfl rfl rfl rfl ?_) | (refine st_load hS 2 rfl rfl rfl rfl rfl ?_) | (refine st_load hS 3 rfl rfl rfl rfl rfl ?_)))
      | (show wpList _ _ _ ({ dst := _, op := Op.box _ _, type := _, pos := _, after := _, guard := _ } :: _) _ _; refine st_box hS rfl rfl rfl ?_; clear hS; intro bL w hS; (try simp only [List.nil_append, List.cons_append, List.set_cons_zero, List.set_cons_succ, List.append_assoc, Value.cells, splice, List.take_succ_cons, List.take_zero, List.drop_succ_cons, List.drop_zero, List.length_cons, List.length_nil, Nat.zero_add, Nat.reduceAdd, Act.eval, Array.getD_eq_getD_getElem?, List.getElem?_toArray, List.getElem?_cons_succ, List.getElem?_cons_zero, Option.getD_some, List.toList_toArray] at hS)))
    replace hS := hS.perm (hs' := Cl p 69 [Value.int IntKind.i64 blocks, Value.map (some m), Value.slice A t.length cap, Value.bool false, Value.int IntKind.i64 life, Value.int IntKind.i64 armed.after, Value.int IntKind.u64 armed.keep, Value.int IntKind.i64 armed.torn, Value.int IntKind.i64 armed.cut] :: KeptR m kept :: Bf 71 2 A cap (openCells t) :: Tri.own t :: Cl bL 25 L.cells :: l) (by
      refine .trans (.swap ..) (.cons _ (.trans (.swap ..) (.cons _ (.trans (.swap ..) (.cons _ (.swap ..)))))))
    go_loopw [16] (fun i wr => ∃ k : Nat, k ≤ t.length ∧ i = .int .i64 k ∧ St B own0 (Cl p 69 [Value.int IntKind.i64 blocks, Value.map (some m), Value.slice A t.length cap, Value.bool false, Value.int IntKind.i64 life, Value.int IntKind.i64 armed.after, Value.int IntKind.u64 armed.keep, Value.int IntKind.i64 armed.torn, Value.int IntKind.i64 armed.cut] :: KeptR m (cutFold L 0 (Tri.kv (t.take k)) kept) :: Bf 71 2 A cap (openCells t) :: Tri.own t :: Cl bL 25 L.cells :: l) wr) (fun i _ => t.length - (intOf i).toNat)
    case atStart => exact ⟨0, Nat.zero_le _, rfl, hS⟩
    case round =>
      clear hS
      obtain ⟨k, hk, rfl, hS⟩ := hrel
      by_cases hlt : k < t.length
      · obtain ⟨x, hx⟩ : ∃ x, t[k]? = some x := ⟨t[k], by simp [hlt]⟩
        go_wp2_with (first
          | (show wpList _ _ _ ({ dst := _, op := Op.indexAddr _ _ _, type := _, pos := _, after := _, guard := _ } :: _) _ _; go_must (refine st_bfN hS 2 rfl rfl rfl rfl rfl (by omega) (by omega) (openCells_length t) (by omega) rfl rfl (fun _ => rfl) (Nat.le_of_ble_eq_true rfl) _ (by exact openCells_at t k x hx) ?_; intro pe))
          | (show wpList _ _ _ ({ dst := _, op := Op.alloc _, type := _, pos := _, after := _, guard := _ } :: _) _ _; refine st_alloc hS rfl rfl ?_; clear hS; intro bw w hS; (try simp only [List.nil_append, List.cons_append, List.set_cons_zero, List.set_cons_succ, List.append_assoc, Value.cells, splice, List.take_succ_cons, List.take_zero, List.drop_succ_cons, List.drop_zero, List.length_cons, List.length_nil, Nat.zero_add, Nat.reduceAdd, Act.eval, Array.getD_eq_getD_getElem?, List.getElem?_toArray, List.getElem?_cons_succ, List.getElem?_cons_zero, Option.getD_some, List.toList_toArray] at hS))
          | (show wpList _ _ _ ({ dst := _, op := Op.store _ _ _, type := _, pos := _, after := _, guard := _ } :: _) _ _; (first | (refine st_store hS 0 rfl rfl rfl rfl rfl rfl (Nat.le_of_ble_eq_true rfl) (by simp [Act.put, Act.eval, Value.cells, Value.oneCell']) ?_)); clear hS; intro w hS; (try simp only [List.nil_append, List.cons_append, List.set_cons_zero, List.set_cons_succ, List.append_assoc, Value.cells, splice, List.take_succ_cons, List.take_zero, List.drop_succ_cons, List.drop_zero, List.length_cons, List.length_nil, Nat.zero_add, Nat.reduceAdd, Act.eval, Array.getD_eq_getD_getElem?, List.getElem?_toArray, List.getElem?_cons_succ, List.getElem?_cons_zero, Option.getD_some, List.toList_toArray] at hS))
          | (show wpList _ _ _ ({ dst := _, op := Op.load _ _, type := _, pos := _, after := _, guard := _ } :: _) _ _; (first | (refine st_load hS 0 rfl rfl rfl rfl rfl ?_) | (refine st_load hS 1 rfl rfl rfl rfl rfl ?_) | (refine st_load hS 2 rfl rfl rfl rfl rfl ?_) | (refine st_load hS 3 rfl rfl rfl rfl rfl ?_) | (refine st_load hS 4 rfl rfl rfl rfl rfl ?_) | (refine st_load hS 5 rfl rfl rfl rfl rfl ?_)))
          | (show wpList _ _ _ ({ dst := _, op := Op.load _ _, type := _, pos := _, after := _, guard := _ } :: _) _ _; (first | (refine st_loads hS 0 rfl rfl rfl rfl _ rfl rfl ?_) | (refine st_loads hS 1 rfl rfl rfl rfl _ rfl rfl ?_) | (refine st_loads hS 2 rfl rfl rfl rfl _ rfl rfl ?_) | (refine st_loads hS 3 rfl rfl rfl rfl _ rfl rfl ?_) | (refine st_loads hS 4 rfl rfl rfl rfl _ rfl rfl ?_) | (refine st_loads hS 5 rfl rfl rfl rfl _ rfl rfl ?_))))
        replace hS := hS.perm (hs' := Cl p 69 [Value.int IntKind.i64 blocks, Value.map (some m), Value.slice A t.length cap, Value.bool false, Value.int IntKind.i64 life, Value.int IntKind.i64 armed.after, Value.int IntKind.u64 armed.keep, Value.int IntKind.i64 armed.torn, Value.int IntKind.i64 armed.cut] :: KeptR m (cutFold L 0 (Tri.kv (List.take k t)) kept) :: Cl bw 71 [Value.int IntKind.i64 x.fst, Value.slice (some { block := x.snd.fst, off := 0 }) blk blk] :: Bf 71 2 A cap (openCells t) :: Tri.own t :: Cl bL 25 L.cells :: l) (.trans (.swap ..) (.cons _ (.swap ..)))
        refine (fate_c hS L k (by omega) (by omega)).mono ?_
        clear hS
        rintro e w ⟨rfl, hS⟩
        have hmx : x ∈ t := List.mem_of_getElem? hx
        have hkv : (Tri.kv (List.take (k + 1) t)) = Tri.kv (List.take k t) ++ [(x.1, x.2.2)] := by
          rw [List.take_add_one, hx]; simp [Tri.kv]
        have hcf : cutFold L 0 (Tri.kv (List.take (k + 1) t)) kept = cutStep L k (cutFold L 0 (Tri.kv (List.take k t)) kept) (x.1, x.2.2) := by
          rw [hkv, cutFold_snoc, kv_length]; simp [List.length_take, Nat.min_eq_left (Nat.le_of_lt hlt)]
        have H := Lib.hid hcf
        clear hcf hkv
        generalize hf : fateOf L k = f
        by_cases h2 : f = 2
        · subst h2
          go_wp2_with (first
            | (show wpList _ _ _ ({ dst := _, op := Op.load _ _, type := _, pos := _, after := _, guard := _ } :: _) _ _; (first | (refine st_load hS 0 rfl rfl rfl rfl rfl ?_) | (refine st_load hS 1 rfl rfl rfl rfl rfl ?_) | (refine st_load hS 2 rfl rfl rfl rfl rfl ?_)))
            | (show wpList _ _ _ ({ dst := _, op := Op.load _ _, type := _, pos := _, after := _, guard := _ } :: _) _ _; (first | (refine st_loads hS 0 rfl rfl rfl rfl _ rfl rfl ?_) | (refine st_loads hS 1 rfl rfl rfl rfl _ rfl rfl ?_) | (refine st_loads hS 2 rfl rfl rfl rfl _ rfl rfl ?_))))
          obtain ⟨o1, hS1, back, ro, oth⟩ := St.call (pre := [_, _]) hS
          obtain ⟨h, hh, hle⟩ := oth 2 _ rfl
          refine (lay_c (n := blk) rfl hS1 ((rd_block (own_mem hh hmx)).up hle) (hok _ hmx) (Nat.le_refl _)).mono ?_
          rintro e w ⟨rfl, hS2⟩
          replace hS := back _ _ hS2
          simp only [List.cons_append, List.nil_append] at hS
          clear back oth ro hS1 hS2
          go_wp2
          go_roundw
          case measure => simp [intOf]; omega
          case rel =>
            refine ⟨k + 1, by omega, by go_num, ?_⟩
            rw [H.out]
            simp only [cutStep, hf, if_true]
            (replace hS := hS.erase 2 rfl; simp only [List.eraseIdx_cons_succ, List.eraseIdx_cons_zero] at hS)
            exact hS
        · by_cases h1 : f = 1
          · subst h1
            have hmn : min (max L.cut 0) 8192 = ((cutN L : Nat) : Int) := by simp only [cutN]; omega
            rw [hmn]
            go_wp2_with (first
              | (show wpList _ _ _ ({ dst := _, op := Op.load _ _, type := _, pos := _, after := _, guard := _ } :: _) _ _; (first | (refine st_load hS 0 rfl rfl rfl rfl rfl ?_) | (refine st_load hS 1 rfl rfl rfl rfl rfl ?_) | (refine st_load hS 2 rfl rfl rfl rfl rfl ?_)))
              | (show wpList _ _ _ ({ dst := _, op := Op.load _ _, type := _, pos := _, after := _, guard := _ } :: _) _ _; (first | (refine st_loads hS 0 rfl rfl rfl rfl _ rfl rfl ?_) | (refine st_loads hS 1 rfl rfl rfl rfl _ rfl rfl ?_) | (refine st_loads hS 2 rfl rfl rfl rfl _ rfl rfl ?_))))
            obtain ⟨o1, hS1, back, ro, oth⟩ := St.call (pre := [_, _]) hS
            obtain ⟨h, hh, hle⟩ := oth 2 _ rfl
            refine (lay_c (n := cutN L) rfl hS1 ((rd_block (own_mem hh hmx)).up hle) (hok _ hmx) (by simp only [cutN, blk]; omega)).mono ?_
            rintro e w ⟨rfl, hS2⟩
            replace hS := back _ _ hS2
            simp only [List.cons_append, List.nil_append] at hS
            clear back oth ro hS1 hS2
            go_wp2
            go_roundw
            case measure => simp [intOf]; omega
            case rel =>
              refine ⟨k + 1, by omega, by go_num, ?_⟩
              rw [H.out]
              simp only [cutStep, hf, if_true]
              (replace hS := hS.erase 2 rfl; simp only [List.eraseIdx_cons_succ, List.eraseIdx_cons_zero] at hS)
              exact hS
          · have e2 : (f == 2) = false := by simpa using h2
            have e1 : (f == 1) = false := by simpa using h1
            go_wp2
            go_roundw
            case measure => simp [intOf]; omega
            case rel =>
              refine ⟨k + 1, by omega, by go_num, ?_⟩
              rw [H.out]
              simp only [cutStep, hf, h1, h2, if_false]
              (replace hS := hS.erase 2 rfl; simp only [List.eraseIdx_cons_succ, List.eraseIdx_cons_zero] at hS)
              exact hS
      · have hk' : k = t.length := by omega
        subst hk'
        go_wp2_with (first
          | (show wpList _ _ _ ({ dst := _, op := Op.store _ _ _, type := _, pos := _, after := _, guard := _ } :: _) _ _; (first | (refine st_store hS 0 rfl rfl rfl rfl rfl rfl (Nat.le_of_ble_eq_true rfl) (by simp [Act.put, Act.eval, Value.cells, Value.oneCell']) ?_)); clear hS; intro w hS; (try simp only [List.nil_append, List.cons_append, List.set_cons_zero, List.set_cons_succ, List.append_assoc, Value.cells, splice, List.take_succ_cons, List.take_zero, List.drop_succ_cons, List.drop_zero, List.length_cons, List.length_nil, Nat.zero_add, Nat.reduceAdd, Act.eval, Array.getD_eq_getD_getElem?, List.getElem?_toArray, List.getElem?_cons_succ, List.getElem?_cons_zero, Option.getD_some, List.toList_toArray] at hS))
          | (show wpList _ _ _ ({ dst := _, op := Op.load _ _, type := _, pos := _, after := _, guard := _ } :: _) _ _; (first | (refine st_load hS 0 rfl rfl rfl rfl rfl ?_))))
        go_end0
        refine ⟨rfl, ?_⟩
        rw [List.take_length] at hS
        (replace hS := hS.erase 2 rfl; replace hS := hS.erase 2 rfl; replace hS := hS.erase 2 rfl; simp only [List.eraseIdx_cons_succ, List.eraseIdx_cons_zero] at hS)
        exact hS.map fun _ h => Owns.disk (m := m) (A := none) (cap := 0) (D := cutOf ⟨blocks, kept, Tri.kv t, false, life, armed⟩ L) (Owns.tl (Owns.tl fun _ => Owns.more openR_nil) _ h)
end Go.Proofs.Ytfdogeebkbaadaa
