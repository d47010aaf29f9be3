/- Runes that are written are read again: the runes of a text that begins with them. -/
import Derived.Test.YtdojooblfemmnaaDoorPlain
set_option linter.unusedVariables false
set_option linter.unusedSimpArgs false
namespace Go.Proofs.YtdojooblfemmnaaDoor
open Go Go.RowKit Go.Lib
theorem ofNat_b (x : Nat) (h : x < 256) : (UInt8.ofNat x).toNat = x := by simp [UInt8.toNat_ofNat']; omega
theorem okNat {c : Int} (h : OkR c) : ∃ n : Nat, c = (n : Int) ∧ n ≤ 1114111 ∧ (n < 55296 ∨ 57344 ≤ n) := ⟨c.toNat, by unfold OkR at h; omega, by unfold OkR at h; omega, by unfold OkR at h; omega⟩
/-- What is written of a rune is read as that rune, whatever stands behind it. -/
theorem decode_enc {c : Int} (hok : OkR c) (m : List UInt8) : ((decodeL (encodeRune c ++ m)).1 : Int) = c ∧ (decodeL (encodeRune c ++ m)).2 = (encodeRune c).length ∧ ¬ ((decodeL (encodeRune c ++ m)).1 = 65533 ∧ (decodeL (encodeRune c ++ m)).2 = 1) := by
  obtain ⟨n, rfl, h1, h2⟩ := okNat hok
  rw [decodeL_N, refN_is _ _ _ _ _ (UInt8.toNat_lt _)]
  by_cases a1 : n < 128
  · rw [encode1 a1]
    have e : refN ([UInt8.ofNat n] ++ m).length (([UInt8.ofNat n] ++ m).getD 0 0).toNat (([UInt8.ofNat n] ++ m).getD 1 0).toNat (([UInt8.ofNat n] ++ m).getD 2 0).toNat (([UInt8.ofNat n] ++ m).getD 3 0).toNat = (n, 1) := by
      have : (([UInt8.ofNat n] ++ m).getD 0 0).toNat = n := by simp; omega
      rw [this]; unfold refN; rw [if_pos a1]
    rw [e]; refine ⟨rfl, rfl, fun h => ?_⟩
    simp only at h; omega
  by_cases a2 : n < 2048
  · rw [encode2 a1 a2]
    have g0 : (([UInt8.ofNat (192 + n / 64), UInt8.ofNat (128 + n % 64)] ++ m).getD 0 0).toNat = 192 + n / 64 := ofNat_b _ (by omega)
    have g1 : (([UInt8.ofNat (192 + n / 64), UInt8.ofNat (128 + n % 64)] ++ m).getD 1 0).toNat = 128 + n % 64 := ofNat_b _ (by omega)
    rw [g0, g1]
    unfold refN
    rw [if_neg (by omega), if_pos (by refine ⟨by omega, by omega, by simp, by omega⟩)]
    refine ⟨by simp only; omega, rfl, fun h => ?_⟩
    simp at h
  by_cases a3 : n < 65536
  · rw [encode3 a2 a3 h2]
    have g0 : (([UInt8.ofNat (224 + n / 4096), UInt8.ofNat (128 + n / 64 % 64), UInt8.ofNat (128 + n % 64)] ++ m).getD 0 0).toNat = 224 + n / 4096 := ofNat_b _ (by omega)
    have g1 : (([UInt8.ofNat (224 + n / 4096), UInt8.ofNat (128 + n / 64 % 64), UInt8.ofNat (128 + n % 64)] ++ m).getD 1 0).toNat = 128 + n / 64 % 64 := ofNat_b _ (by omega)
    have g2 : (([UInt8.ofNat (224 + n / 4096), UInt8.ofNat (128 + n / 64 % 64), UInt8.ofNat (128 + n % 64)] ++ m).getD 2 0).toNat = 128 + n % 64 := ofNat_b _ (by omega)
    rw [g0, g1, g2]
    have hv : ((224 + n / 4096) % 16 * 64 + (128 + n / 64 % 64) % 64) * 64 + (128 + n % 64) % 64 = n := by omega
    unfold refN
    rw [hv, if_neg (by omega), if_neg (fun h => by omega), if_pos (by refine ⟨by omega, by omega, by simp, by omega, by omega, by omega, by omega⟩)]
    refine ⟨rfl, rfl, fun h => ?_⟩
    simp at h
  · rw [encode4 a3 h1]
    have g0 : (([UInt8.ofNat (240 + n / 262144), UInt8.ofNat (128 + n / 4096 % 64), UInt8.ofNat (128 + n / 64 % 64), UInt8.ofNat (128 + n % 64)] ++ m).getD 0 0).toNat = 240 + n / 262144 := ofNat_b _ (by omega)
    have g1 : (([UInt8.ofNat (240 + n / 262144), UInt8.ofNat (128 + n / 4096 % 64), UInt8.ofNat (128 + n / 64 % 64), UInt8.ofNat (128 + n % 64)] ++ m).getD 1 0).toNat = 128 + n / 4096 % 64 := ofNat_b _ (by omega)
    have g2 : (([UInt8.ofNat (240 + n / 262144), UInt8.ofNat (128 + n / 4096 % 64), UInt8.ofNat (128 + n / 64 % 64), UInt8.ofNat (128 + n % 64)] ++ m).getD 2 0).toNat = 128 + n / 64 % 64 := ofNat_b _ (by omega)
    have g3 : (([UInt8.ofNat (240 + n / 262144), UInt8.ofNat (128 + n / 4096 % 64), UInt8.ofNat (128 + n / 64 % 64), UInt8.ofNat (128 + n % 64)] ++ m).getD 3 0).toNat = 128 + n % 64 := ofNat_b _ (by omega)
    rw [g0, g1, g2, g3]
    have hv : (((240 + n / 262144) % 8 * 64 + (128 + n / 4096 % 64) % 64) * 64 + (128 + n / 64 % 64) % 64) * 64 + (128 + n % 64) % 64 = n := by omega
    unfold refN
    rw [hv, if_neg (by omega), if_neg (fun h => by omega), if_neg (fun h => by omega), if_pos (by refine ⟨by omega, by omega, by simp, by omega, by omega, by omega, by omega, by omega⟩)]
    refine ⟨rfl, rfl, fun h => ?_⟩
    simp at h
theorem enc_ne {c : Int} : encodeRune c ≠ [] := by
  unfold encodeRune encodeRuneZ
  repeat' split
  all_goals simp
theorem enc_app_ne {c : Int} (m : List UInt8) : encodeRune c ++ m ≠ [] := fun h => enc_ne (List.append_eq_nil_iff.1 h).1
theorem ofRunes_nil : ofRunes [] = [] := rfl
theorem ofRunes_cons (c : Int) (l : List Int) : ofRunes (c :: l) = encodeRune c ++ ofRunes l := by unfold ofRunes; rw [List.flatMap_cons, encode_is]
theorem ofRunes_app (l m : List Int) : ofRunes (l ++ m) = ofRunes l ++ ofRunes m := by unfold ofRunes; rw [List.flatMap_append]
theorem runesOf_enc {c : Int} (hok : OkR c) (m : List UInt8) : runesOf (encodeRune c ++ m) = c :: runesOf m := by
  obtain ⟨h1, h2, _⟩ := decode_enc hok m
  rw [runesOf_cons (enc_app_ne m), h1, h2, List.drop_left]
theorem valid_enc {c : Int} (hok : OkR c) (m : List UInt8) : validD (encodeRune c ++ m) = validD m := by
  obtain ⟨h1, h2, h3⟩ := decode_enc hok m
  rw [validD_step _ (enc_app_ne m), if_neg h3, h2, List.drop_left]
theorem runesOf_app {rs : List Int} (h : ∀ c ∈ rs, OkR c) (m : List UInt8) : runesOf (ofRunes rs ++ m) = rs ++ runesOf m := by
  induction rs with
  | nil => rfl
  | cons c rs ih => rw [ofRunes_cons, List.append_assoc, runesOf_enc (h c (by simp)), ih (fun d hd => h d (by simp [hd]))]; rfl
theorem valid_app {rs : List Int} (h : ∀ c ∈ rs, OkR c) (m : List UInt8) : validD (ofRunes rs ++ m) = validD m := by
  induction rs with
  | nil => rfl
  | cons c rs ih => rw [ofRunes_cons, List.append_assoc, valid_enc (h c (by simp)), ih (fun d hd => h d (by simp [hd]))]
theorem runesOf_ofRunes {rs : List Int} (h : ∀ c ∈ rs, OkR c) : runesOf (ofRunes rs) = rs := by
  have := runesOf_app h []
  rwa [List.append_nil, runesOf_nil, List.append_nil] at this
theorem valid_ofRunes {rs : List Int} (h : ∀ c ∈ rs, OkR c) : validD (ofRunes rs) = true := by
  have := valid_app h []
  rwa [List.append_nil, validD_nil] at this
theorem runesOf_two {s : List UInt8} (hs : validD s = true) (t : List UInt8) : runesOf (s ++ t) = runesOf s ++ runesOf t := by
  have := runesOf_app (runesOf_ok s) t
  rwa [ofRunes_runesOf hs] at this
theorem valid_two {s : List UInt8} (hs : validD s = true) (t : List UInt8) : validD (s ++ t) = validD t := by
  have := valid_app (runesOf_ok s) t
  rwa [ofRunes_runesOf hs] at this
theorem low_ok (l : List UInt8) : ∀ c ∈ (runesOf l).map lowR, OkR c := fun c hc => by
  obtain ⟨d, hd, rfl⟩ := List.mem_map.1 hc
  exact lowR_ok (runesOf_ok l d hd)
theorem foldT_valid {l : List UInt8} (h : validD l = true) : foldT l = ofRunes ((runesOf l).map lowR) := by unfold foldT; rw [if_pos h]
theorem foldT_bad {l : List UInt8} (h : ¬ validD l = true) : foldT l = [] := by unfold foldT; rw [if_neg h]
theorem lowR_lowR (c : Int) : lowR (lowR c) = lowR c := by
  unfold lowR
  by_cases h : (65 ≤ c ∧ c ≤ 90) ∨ (192 ≤ c ∧ c ≤ 222 ∧ c ≠ 215) ∨ (913 ≤ c ∧ c ≤ 937 ∧ c ≠ 930) ∨ (1040 ≤ c ∧ c ≤ 1071)
  · rw [if_pos h, if_neg (by omega)]
  · rw [if_neg h, if_neg h]
theorem validD_foldT (l : List UInt8) : validD (foldT l) = true := by
  by_cases h : validD l = true
  · rw [foldT_valid h]; exact valid_ofRunes (low_ok l)
  · rw [foldT_bad h]; rfl
theorem foldT_foldT (l : List UInt8) : foldT (foldT l) = foldT l := by
  by_cases h : validD l = true
  · rw [foldT_valid (validD_foldT l), foldT_valid h, runesOf_ofRunes (low_ok l), List.map_map]
    congr 1
    exact List.map_congr_left fun c _ => lowR_lowR c
  · rw [foldT_bad h]; exact (foldT_valid validD_nil).trans (by rw [runesOf_nil]; rfl)
theorem foldT_two {s t : List UInt8} (hs : validD s = true) (ht : validD t = true) : foldT (s ++ t) = foldT s ++ foldT t := by
  rw [foldT_valid hs, foldT_valid ht, foldT_valid (by rw [valid_two hs, ht]), runesOf_two hs, List.map_append, ofRunes_app]
theorem countR_fold {l : List UInt8} (h : validD l = true) : countR (foldT l) = countR l := by
  unfold countR
  rw [if_pos (validD_foldT l), if_pos h, foldT_valid h, runesOf_ofRunes (low_ok l), List.length_map]
theorem countR_two {s t : List UInt8} (hs : validD s = true) (ht : validD t = true) : countR (s ++ t) = countR s + countR t := by
  unfold countR
  rw [if_pos hs, if_pos ht, if_pos (by rw [valid_two hs, ht]), runesOf_two hs, List.length_append]; omega
theorem foldT_len (l : List UInt8) : (foldT l).length ≤ 4 * l.length := by
  by_cases h : validD l = true
  · rw [foldT_valid h]
    have h1 := ofRunes_le ((runesOf l).map lowR)
    have h2 := runesOf_le l
    rw [List.length_map] at h1; omega
  · rw [foldT_bad h]; simp
end Go.Proofs.YtdojooblfemmnaaDoor
