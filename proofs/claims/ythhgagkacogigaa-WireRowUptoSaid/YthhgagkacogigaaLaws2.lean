/- Layer 1: turned bits, in plain terms. -/
import Derived.Test.YthhgagkacogigaaLaws
import Derived.Test.YthhgagkacogigaaWireM
set_option linter.unusedVariables false
set_option linter.unusedSimpArgs false
namespace Go.Proofs.Ythhgagkacogigaa
open Go Go.RowKit
theorem mask40 (n : Int) : bitsOf .and .i64 n 1099511627775 = n % 1099511627776 := i64_mask 40 (by decide) n _ (by decide)
theorem place (a : Int) (m : Nat) (hm : 0 < m) : ∃ p : Nat, Int.tmod (bitsOf .and .i64 a 1099511627775) (m : Int) = (p : Int) ∧ p < m := by
  rw [mask40]
  have h0 : 0 ≤ a % 1099511627776 := Int.emod_nonneg _ (by decide)
  refine ⟨(a % 1099511627776).toNat % m, ?_, Nat.mod_lt _ hm⟩
  rw [Int.tmod_eq_emod_of_nonneg h0, Int.natCast_emod, Int.toNat_of_nonneg h0]
theorem div8 (p : Nat) (h : p < 100000) : IntKind.i64.wrap (Int.tdiv (p : Int) 8) = ((p / 8 : Nat) : Int) := by
  rw [Int.tdiv_eq_ediv_of_nonneg (by omega), i64_id (by omega)]; omega
theorem mod8 (p : Nat) : IntKind.u64.wrap (Int.tmod (p : Int) 8) = ((p % 8 : Nat) : Int) := by
  rw [Int.tmod_eq_emod_of_nonneg (by omega), u64_id (by omega)]; omega
theorem one_bit (k : Nat) (h : k < 8) : shlI .u8 1 (k : Int) = (((1 : UInt8) <<< UInt8.ofNat k).toNat : Int) := by
  have : ∀ k : Fin 8, shlI .u8 1 ((k.val : Nat) : Int) = (((1 : UInt8) <<< UInt8.ofNat k.val).toNat : Int) := by decide +kernel
  exact this ⟨k, h⟩
theorem u8x (a b : UInt8) : u8 (bitsOf .xor .u8 (a.toNat : Int) (b.toNat : Int)) = a ^^^ b := by
  have : bitsOf .xor .u8 (a.toNat : Int) (b.toNat : Int) = ((a ^^^ b).toNat : Int) := u8_xor a.toBitVec b.toBitVec
  rw [this, u8_of]
theorem flip_in (c : List UInt8) (p : Nat) (h : p < 100000) : c.set (IntKind.i64.wrap (Int.tdiv (p : Int) 8)).toNat (u8 (bitsOf .xor .u8 (((c.getD (IntKind.i64.wrap (Int.tdiv (p : Int) 8)).toNat default).toNat : Nat) : Int) (shlI .u8 1 (IntKind.u64.wrap (Int.tmod (p : Int) 8))))) = flip1 c p := by
  rw [div8 p h, mod8, one_bit _ (Nat.mod_lt _ (by decide)), u8x]
  rfl
section
variable {l : List UInt8} {a1 a2 a3 : Int} {n p q r : Nat}
theorem bits_at (x : Nat) (h : x < 3) (u v w : Int) : ([u, v, w] : List Int).getD (0 + (x : Int).toNat * 1) default = if x = 0 then u else if x = 1 then v else w := by
  match x, h with
  | 0, _ => rfl
  | 1, _ => rfl
  | 2, _ => rfl
theorem bits_round (hn : min (l.length : Int) 10000 = (n : Int)) (h0 : 0 < n) (hp : Int.tmod (bitsOf .and .i64 a1 1099511627775) ((8 * n : Nat) : Int) = (p : Int)) (hq : Int.tmod (bitsOf .and .i64 a2 1099511627775) ((8 * n : Nat) : Int) = (q : Int)) (hr : Int.tmod (bitsOf .and .i64 a3 1099511627775) ((8 * n : Nat) : Int) = (r : Int))
    (lp : p < 8 * n) (lq : q < 8 * n) (lr : r < 8 * n) (c : List UInt8) (hc : c.length = n) (x : Nat) (hx : x < 3) :
    law1_WireBits.st2 a1 l a2 a3 (c, (x : Int)) = some (.inl (flip1 c (if x = 0 then p else if x = 1 then q else r), ((x + 1 : Nat) : Int))) := by
  have hn2 : n ≤ 10000 := by omega
  have w8n : IntKind.i64.wrap (8 * (n : Int)) = ((8 * n : Nat) : Int) := by rw [i64_id (by omega)]; omega
  have w : IntKind.i64.wrap ((x : Int) + 1) = ((x + 1 : Nat) : Int) := by rw [i64_id (by omega)]; omega
  have hb := bits_at x hx (p : Int) (q : Int) (r : Int)
  have hb2 : (if x = 0 then (p : Int) else if x = 1 then (q : Int) else (r : Int)) = ((if x = 0 then p else if x = 1 then q else r : Nat) : Int) := by (repeat' split) <;> rfl
  unfold law1_WireBits.st2
  simp only [hn, w8n, hp, hq, hr, hb, hb2, w]
  have hz : (if x = 0 then p else if x = 1 then q else r) < 8 * n := by (repeat' split) <;> assumption
  generalize (if x = 0 then p else if x = 1 then q else r) = z at hz ⊢
  have hd : IntKind.i64.wrap (Int.tdiv (z : Int) 8) = ((z / 8 : Nat) : Int) := div8 z (by omega)
  have hf := flip_in c z (by omega)
  have hl3 : (0 + (x : Int).toNat * 1) < ([(p : Int), (q : Int), (r : Int)] : List Int).length := by simp; omega
  rw [hf, hd, ite_dt (by omega), chk_pos (by omega), chk_pos (by omega), chk_pos (by omega), chk_pos hl3, chk_pos hl3, chk_pos (by omega), chk_pos hl3, chk_pos (by omega)]
theorem bits_burst (hn : min (l.length : Int) 10000 = (n : Int)) (h0 : 0 < n) (hp : Int.tmod (bitsOf .and .i64 a1 1099511627775) ((8 * n : Nat) : Int) = (p : Int)) (hq : Int.tmod (bitsOf .and .i64 a2 1099511627775) ((8 * n : Nat) : Int) = (q : Int)) (hr : Int.tmod (bitsOf .and .i64 a3 1099511627775) ((8 * n : Nat) : Int) = (r : Int))
    (lp : p < 8 * n) (c : List UInt8) (hc : c.length = n) (x : Nat) (hx : x < 32) (g : BitVec 32) :
    law1_WireBits.st1 a1 l a2 a3 (g.toNat : Int) (burst c p g x, (x : Int)) = some (.inl (burst c p g (x + 1), ((x + 1 : Nat) : Int))) := by
  have hn2 : n ≤ 10000 := by omega
  have w8n : IntKind.i64.wrap (8 * (n : Int)) = ((8 * n : Nat) : Int) := by rw [i64_id (by omega)]; omega
  have w : IntKind.i64.wrap ((x : Int) + 1) = ((x + 1 : Nat) : Int) := by rw [i64_id (by omega)]; omega
  have wx : IntKind.u64.wrap (x : Int) = (x : Int) := u64_id (by omega)
  have hs : shrI .u32 (g.toNat : Int) (x : Int) = ((g >>> x).toNat : Int) := u32_shr g x (by omega)
  have hlow := low_bit (g >>> x)
  rw [BitVec.getLsbD_ushiftRight, Nat.add_zero] at hlow
  have hb : ([(p : Int), (q : Int), (r : Int)] : List Int).getD (0 + (0 : Int).toNat * 1) default = (p : Int) := rfl
  have wpx : IntKind.i64.wrap ((p : Int) + (x : Int)) = ((p + x : Nat) : Int) := by rw [i64_id (by omega)]; omega
  have hbl := burst_length c p g x
  have k4 : ∀ b : Bool, (b = true → p + x < 8 * n) → law1_WireBits.k4 a1 l a2 a3 (burst c p g x, (x : Int)) b = some (.inl ((if b = true then flip1 (burst c p g x) (p + x) else burst c p g x), ((x + 1 : Nat) : Int))) := by
    intro b hb2
    unfold law1_WireBits.k4 law1_WireBits.k3
    simp only [hn, w8n, hp, hq, hr, hb, wpx, w]
    cases b with
    | false => rfl
    | true =>
      have hlt := hb2 rfl
      have hd : IntKind.i64.wrap (Int.tdiv ((p + x : Nat) : Int) 8) = (((p + x) / 8 : Nat) : Int) := div8 (p + x) (by omega)
      rw [flip_in (burst c p g x) (p + x) (by omega), hd, if_pos rfl, chk_pos (by omega), chk_pos (by omega), if_pos rfl]
  unfold law1_WireBits.st1
  simp only [hn, w8n, hp, hq, hr, hb, wpx, wx, hs]
  rw [ite_dt (by omega), chk_pos (by simp)]
  simp only [burst, hc]
  by_cases h1 : g.getLsbD x = true
  · rw [ite_dt (hlow.2 h1)]
    by_cases h2 : p + x < 8 * n
    · rw [show decide (((p + x : Nat) : Int) < ((8 * n : Nat) : Int)) = true by simp; omega, k4 true (fun _ => h2), if_pos rfl, if_pos (show g.getLsbD x = true ∧ p + x < 8 * n from ⟨h1, h2⟩)]
    · rw [show decide (((p + x : Nat) : Int) < ((8 * n : Nat) : Int)) = false by simp; omega, k4 false (fun h => by cases h), if_neg (show ¬ (g.getLsbD x = true ∧ p + x < 8 * n) from fun h => h2 h.2)]; rfl
  · rw [ite_df (fun h => h1 (hlow.1 h)), k4 false (fun h => by cases h), if_neg (show ¬ (g.getLsbD x = true ∧ p + x < 8 * n) from fun h => h1 h.1)]; rfl
end
theorem bits_true {l : List UInt8} (i j k g : Int) (hl : l.length ≤ 9223372036854775807) (hg : 0 ≤ g ∧ g < 4294967296) : law1_WireBits.impl l i j k g = some true := by
  obtain ⟨n, hn, hn2⟩ : ∃ n : Nat, min (l.length : Int) 10000 = (n : Int) ∧ n = min l.length 10000 := ⟨_, by omega, rfl⟩
  unfold law1_WireBits.impl
  by_cases h0 : n = 0
  · rw [hn, ite_dt (by omega), told_is]; rfl
  · have w8n : IntKind.i64.wrap (8 * (n : Int)) = ((8 * n : Nat) : Int) := by rw [i64_id (by omega)]; omega
    have e : subl l 0 (n : Int) = l.take n := by simp [subl]
    obtain ⟨p, hp, lp⟩ := place i (8 * n) (by omega)
    obtain ⟨q, hq, lq⟩ := place j (8 * n) (by omega)
    obtain ⟨r, hr, lr⟩ := place k (8 * n) (by omega)
    have hc : (l.take n).length = n := by rw [List.length_take]; omega
    simp only [hn, w8n, hp, hq, hr, e, List.nil_append]
    have three := loop_up (step := law1_WireBits.st2 i l j k) (r := flip1 (flip1 (flip1 (l.take n) p) q) r) (fun x => (match x with | 0 => l.take n | 1 => flip1 (l.take n) p | 2 => flip1 (flip1 (l.take n) p) q | _ => flip1 (flip1 (flip1 (l.take n) p) q) r, (x : Int))) 3 (fun x hx => by
        match x, hx with
        | 0, _ => exact bits_round hn (by omega) hp hq hr lp lq lr _ hc 0 (by decide)
        | 1, _ => exact bits_round hn (by omega) hp hq hr lp lq lr _ ((flip1_length _ _).trans hc) 1 (by decide)
        | 2, _ => exact bits_round hn (by omega) hp hq hr lp lq lr _ ((flip1_length _ _).trans ((flip1_length _ _).trans hc)) 2 (by decide)) (by
        unfold law1_WireBits.st2
        rw [ite_df (by simp)]; rfl)
    obtain ⟨gb, rfl⟩ : ∃ gb : BitVec 32, g = (gb.toNat : Int) := ⟨BitVec.ofNat 32 g.toNat, by rw [BitVec.toNat_ofNat]; omega⟩
    have bur := loop_up (step := law1_WireBits.st1 i l j k (gb.toNat : Int)) (r := burst (l.take n) p gb 32) (fun x => (burst (l.take n) p gb x, (x : Int))) 32 (fun x hx => bits_burst hn (by omega) hp hq hr lp _ hc x hx gb) (by
        unfold law1_WireBits.st1
        rw [ite_df (by simp)])
    rw [ite_df (by omega), chk_pos (by omega), chk_pos (by simp only [List.length_nil]; omega), chk_pos (by omega), chk_pos (by simp only [List.length_nil]; omega), chk_pos (by omega), chk_pos (by omega), chk_pos (by omega), chk_pos (by simp)]
    erw [three]
    simp only [Option.bind_some]
    unfold law1_WireBits.k1
    simp only [hn, e, List.nil_append]
    erw [bur]
    simp only [Option.bind_some]
    unfold law1_WireBits.k2
    simp only [hn, e]
    have c3 := crc_three (l.take n) p q r (by omega) (by omega) (by omega)
    have cb := crc_burst (l.take n) p gb
    have lc : (flip1 (flip1 (flip1 (l.take n) p) q) r).length = n := by simp only [flip1_length]; exact hc
    have lb : (burst (l.take n) p gb 32).length = n := by rw [burst_length]; exact hc
    rw [chk_pos (by omega), Sum_is (l := l.take n) (by omega), told_is]
    simp only [Option.bind_some]
    rw [if_pos trivial, chk_pos (by omega)]
    have ne : ∀ x y : BitVec 32, x ≠ y → ¬ ((x.toNat : Int) = (y.toNat : Int)) := fun x y h hh => h (BitVec.eq_of_toNat_eq (by omega))
    have tail : (if decide (burst (l.take n) p gb 32 = l.take n) = true then some true else (wire_Sum.impl (burst (l.take n) p gb 32)).bind fun r6 => some (!(decide (r6 = ((crc (l.take n)).toNat : Int))))) = some true := by
      rcases cb with cb | cb
      · rw [ite_dt cb]
      · by_cases h : burst (l.take n) p gb 32 = l.take n
        · rw [ite_dt h]
        · rw [ite_df h, Sum_is (by omega)]
          simp only [Option.bind_some]
          rw [decide_eq_false (ne _ _ cb)]; rfl
    by_cases h : flip1 (flip1 (flip1 (l.take n) p) q) r = l.take n
    · rw [ite_dt h, chk_pos (by omega)]; exact tail
    · rw [ite_df h, Sum_is (l := flip1 (flip1 (flip1 (l.take n) p) q) r) (by omega)]
      simp only [Option.bind_some]
      rw [ite_df (ne _ _ c3), chk_pos (by omega)]; exact tail
end Go.Proofs.Ythhgagkacogigaa
