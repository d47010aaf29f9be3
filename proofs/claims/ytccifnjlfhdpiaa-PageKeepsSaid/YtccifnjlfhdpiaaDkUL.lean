/- Turned bits, in plain terms: DiskTurned. -/
import Derived.Test.YtccifnjlfhdpiaaDkTL
set_option linter.unusedVariables false
set_option linter.unusedSimpArgs false
set_option linter.unusedSectionVars false
namespace Go.Proofs.Ytccifnjlfhdpiaa
open Go Go.RowKit
theorem at3 (n : Int) : ∃ q : Nat, q < 4 ∧ bitsOf .and .i64 n 3 = (q : Int) := by
  have : bitsOf .and .i64 n 3 = n % 4 := i64_mask 2 (by decide) n _ (by decide)
  exact ⟨(n % 4).toNat, by omega, by omega⟩
theorem at16 (n : Int) : ∃ q : Nat, q < 65536 ∧ bitsOf .and .i64 n 65535 = (q : Int) := by
  have : bitsOf .and .i64 n 65535 = n % 65536 := i64_mask 16 (by decide) n _ (by decide)
  exact ⟨(n % 65536).toNat, by omega, by omega⟩
theorem div8 (p : Nat) (h : p < 100000) : IntKind.i64.wrap (Int.tdiv (p : Int) 8) = ((p / 8 : Nat) : Int) := by
  rw [Int.tdiv_eq_ediv_of_nonneg (by omega), i64_id (by omega)]; omega
theorem tmod8 (p : Nat) : Int.tmod (p : Int) 8 = ((p % 8 : Nat) : Int) := by
  rw [Int.tmod_eq_emod_of_nonneg (by omega)]; omega
theorem mod8 (p : Nat) : IntKind.u64.wrap (Int.tmod (p : Int) 8) = ((p % 8 : Nat) : Int) := by
  rw [tmod8, u64_id (by omega)]
def bit8 (p : Nat) : UInt8 := (1 : UInt8) <<< UInt8.ofNat (p % 8)
theorem one_bit (p : Nat) : shlI .u8 1 ((p % 8 : Nat) : Int) = ((bit8 p).toNat : Int) := by
  have : ∀ k : Fin 8, shlI .u8 1 ((k.val : Nat) : Int) = (((1 : UInt8) <<< UInt8.ofNat k.val).toNat : Int) := by decide +kernel
  exact this ⟨p % 8, Nat.mod_lt _ (by decide)⟩
theorem u8x (a b : UInt8) : u8 (bitsOf .xor .u8 (a.toNat : Int) (b.toNat : Int)) = a ^^^ b := by
  have : bitsOf .xor .u8 (a.toNat : Int) (b.toNat : Int) = ((a ^^^ b).toNat : Int) := u8_xor a.toBitVec b.toBitVec
  rw [this, u8_of]
theorem xx (a b : UInt8) : bitsOf .xor .u8 (a.toNat : Int) (b.toNat : Int) = ((a ^^^ b).toNat : Int) := u8_xor a.toBitVec b.toBitVec
/-- a bit of a block's bytes, turned -/
def flipB (l : List UInt8) (p : Nat) : List UInt8 := l.set (p / 8) (l.getD (p / 8) default ^^^ bit8 p)
theorem flipB_len (l : List UInt8) (p : Nat) : (flipB l p).length = l.length := by simp [flipB]
theorem flipB_get (l : List UInt8) (p i : Nat) (hi : i < l.length) : (flipB l p).getD i default = if i = p / 8 then l.getD i default ^^^ bit8 p else l.getD i default := by
  unfold flipB
  by_cases e : i = p / 8
  · subst e
    rw [if_pos rfl, List.getD, List.getElem?_set_self hi]; rfl
  · rw [if_neg e, List.getD, List.getElem?_set_ne (by omega)]; rfl
theorem ext_getD {l m : List UInt8} (h : l.length = m.length) (hg : ∀ i, i < l.length → l.getD i default = m.getD i default) : l = m := by
  refine List.ext_getElem h fun i h1 h2 => ?_
  have := hg i h1
  simpa only [List.getD_eq_getElem?_getD, List.getElem?_eq_getElem h1, List.getElem?_eq_getElem h2, Option.getD_some] using this
theorem xor_xor (a b : UInt8) : a ^^^ b ^^^ b = a := by rw [UInt8.xor_assoc, UInt8.xor_self, UInt8.xor_zero]
theorem flipB_flipB (l : List UInt8) (p : Nat) : flipB (flipB l p) p = l := by
  refine ext_getD (by rw [flipB_len, flipB_len]) fun i hi => ?_
  rw [flipB_len, flipB_len] at hi
  rw [flipB_get _ _ _ (by rw [flipB_len]; exact hi), flipB_get _ _ _ hi]
  by_cases e : i = p / 8
  · rw [if_pos e, if_pos e, xor_xor]
  · rw [if_neg e, if_neg e]
def flipW (q : Int) (p : Nat) (w : Int × List UInt8) : Int × List UInt8 := if w.1 = q then (w.1, flipB w.2 p) else w
def flipC (c : KM) (q : Int) (p : Nat) : KM := c.map (flipW q p)
theorem flipW_1 (q : Int) (p : Nat) (w : Int × List UInt8) : (flipW q p w).1 = w.1 := by unfold flipW; split <;> rfl
theorem flipW_len (q : Int) (p : Nat) (w : Int × List UInt8) : (flipW q p w).2.length = w.2.length := by unfold flipW; split <;> simp [flipB_len]
theorem flipC_fulls {c : KM} (hc : Fulls c) (q : Int) (p : Nat) : Fulls (flipC c q p) := by
  refine ⟨fun w hw => ?_, by simpa [flipC] using hc.2⟩
  obtain ⟨v, hv, rfl⟩ := List.mem_map.1 hw
  rw [flipW_len]; exact hc.1 v hv
/-! ### Elements turned one by one -/
section
variable {α : Type} [Inhabited α] (f : α → α) (c : List α)
def mapTo (i : Nat) : List α := (c.take i).map f ++ c.drop i
theorem mapTo_zero : mapTo f c 0 = c := by simp [mapTo]
theorem mapTo_all : mapTo f c c.length = c.map f := by simp [mapTo]
theorem mapTo_length (i : Nat) : (mapTo f c i).length = c.length := by simp [mapTo]; omega
theorem mapTo_get {i : Nat} (hi : i < c.length) : (mapTo f c i).getD i default = c[i] := by
  have h1 : ((c.take i).map f).length = i := by simp; omega
  rw [mapTo, List.getD, List.getElem?_append_right (by omega), h1, Nat.sub_self, List.drop_eq_getElem_cons hi]; rfl
theorem mapTo_step {i : Nat} (hi : i < c.length) : mapTo f c (i + 1) = (c.take i).map f ++ f c[i] :: c.drop (i + 1) := by
  rw [mapTo, List.take_succ_eq_append_getElem hi, List.map_append]; simp
theorem mapTo_set {i : Nat} (hi : i < c.length) : (mapTo f c i).set i (f c[i]) = mapTo f c (i + 1) := by
  have h1 : ((c.take i).map f).length = i := by simp; omega
  rw [mapTo_step f c hi, mapTo, List.set_append_right _ _ (show ((c.take i).map f).length ≤ i by omega), h1, Nat.sub_self, List.drop_eq_getElem_cons hi]; rfl
theorem mapTo_same {i : Nat} (hi : i < c.length) (h : f c[i] = c[i]) : mapTo f c i = mapTo f c (i + 1) := by
  rw [mapTo_step f c hi, mapTo, List.drop_eq_getElem_cons hi, h]
end
theorem flip_step {c : KM} (hc : Fulls c) (q : Int) (p : Nat) (hp : p < 65536) (i : Nat) (hi : i < c.length) : disk_Disk_Flip.st1 c q (p : Int) (mapTo (flipW q p) c i, (i : Int)) = some (.inl (mapTo (flipW q p) c (i + 1), ((i + 1 : Nat) : Int))) := by
  have hw : (IntKind.i64.wrap ((i : Int) + 1)) = ((i + 1 : Nat) : Int) := i64_id (by have := hc.2; omega)
  have hl := hc.1 _ (List.getElem_mem hi)
  have hg := mapTo_get (flipW q p) c hi
  unfold disk_Disk_Flip.st1
  simp only [Int.toNat_natCast, hg, hw, div8 p (by omega), tmod8, one_bit, u8x, mapTo_length]
  rw [ite_dt (by omega), chk_true (by omega)]
  by_cases e : c[i].1 = q
  · rw [ite_dt e, chk_true (by omega), chk_true (by omega), chk_true (by omega)]
    have : flipW q p c[i] = (c[i].1, c[i].2.set (p / 8) (c[i].2.getD (p / 8) default ^^^ bit8 p)) := by unfold flipW flipB; rw [if_pos e]
    rw [← this, mapTo_set (flipW q p) c hi]
  · rw [ite_df e, mapTo_same (flipW q p) c hi (by unfold flipW; rw [if_neg e])]
theorem Flip_is {c : KM} (hc : Fulls c) {b q : Int} (hq : 0 ≤ q ∧ q < b) {p : Nat} (hp : p < 65536) (dn : Bool) (lf af kp tn ct : Int) (m : KM) :
    disk_Disk_Flip.impl (b, dn, lf, af, kp, tn, ct) m c q (p : Int) = some (0, mset m q (flipB (blk m q) p), flipC c q p) := by
  have hb : (blk m q).length = 8192 := whole_len _
  unfold disk_Disk_Flip.impl
  simp only []
  rw [ite_df (by omega), ite_df (by omega), ite_df (by omega)]
  unfold disk_Disk_Flip.k1
  rw [ite_df (by omega), good_is]
  simp only [Option.bind_some, div8 p (by omega), tmod8]
  rw [chk_true (by omega), chk_true (by omega), chk_true (by omega)]
  have := loop_up (step := disk_Disk_Flip.st1 c q (p : Int)) (fun i : Nat => (mapTo (flipW q p) c i, (i : Int))) c.length (fun i hi => flip_step hc q p hp i hi) (r := mapTo (flipW q p) c c.length) (by unfold disk_Disk_Flip.st1; simp)
  rw [mapTo_zero] at this
  rw [show ((0 : Int)) = ((0 : Nat) : Int) from rfl, this]
  unfold disk_Disk_Flip.k2
  simp only [Option.bind_some, Int.toNat_natCast, div8 p (by omega), tmod8, one_bit, u8x, mapTo_all, flipB, flipC]; rfl
theorem rd_flip {c : KM} (hc : Fulls c) (m : KM) (q r : Int) (p : Nat) : rd (mset m q (flipB (blk m q) p)) (flipC c q p) r = if r = q then flipB (rd m c q) p else rd m c r := by
  have hfind : (flipC c q p).reverse.find? (fun w => decide (w.1 = r)) = (c.reverse.find? (fun w => decide (w.1 = r))).map (flipW q p) := by
    rw [flipC, ← List.map_reverse, List.find?_map]
    congr 1
    refine congrArg (fun g => List.find? g c.reverse) (funext fun w => ?_)
    show decide ((flipW q p w).1 = r) = decide (w.1 = r)
    rw [flipW_1]
  unfold rd
  rw [hfind]
  by_cases e : r = q
  · subst e
    rw [if_pos rfl]
    cases h : c.reverse.find? (fun w => decide (w.1 = r)) with
    | none =>
      simp only [Option.map_none]
      show whole ((mget (mset m r _) r).getD []) = _
      rw [mget_mset, if_pos rfl, Option.getD_some]
      exact whole_full (by rw [flipB_len]; exact whole_len _)
    | some w =>
      have hw : w.1 = r := by simpa using List.find?_some h
      have hl := hc.1 w (List.mem_reverse.1 (List.mem_of_find?_eq_some h))
      simp only [Option.map_some, flipW, if_pos hw]
      rw [whole_full hl, whole_full (by rw [flipB_len]; exact hl)]
  · rw [if_neg e]
    cases h : c.reverse.find? (fun w => decide (w.1 = r)) with
    | none =>
      simp only [Option.map_none]
      show whole ((mget (mset m q _) r).getD []) = _
      rw [mget_mset, if_neg e]; rfl
    | some w =>
      have hw : w.1 = r := by simpa using List.find?_some h
      simp only [Option.map_some, flipW, if_neg (show ¬ w.1 = q by rw [hw]; exact e)]
end Go.Proofs.Ytccifnjlfhdpiaa
