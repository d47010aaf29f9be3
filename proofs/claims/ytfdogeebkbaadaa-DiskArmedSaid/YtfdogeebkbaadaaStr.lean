/- Bytes as a string. -/
import Derived.Test.YtfdogeebkbaadaaDraw
import Derived.Test.YtfdogeebkbaadaaOpen
import Derived.Laws.IdiomStrings
set_option linter.unusedVariables false
set_option linter.unusedSimpArgs false
namespace Go.Proofs.Ytfdogeebkbaadaa
open Go.RowKit
section
variable {P : Program} {ops : Array Oper} {rest : List Oper} {o : Oper} {a : Act} {Q : Exit → Act → World → Prop} {w : World} {S : World → Prop}
def str (l : List UInt8) : Value := .string ⟨l.toArray⟩
theorem run_str {src dst e : TypeId} [hs : SL P src e] [he : INT P e .u8] [hd : STR P dst] {h : PH} {A : Option Addr} {l : List UInt8} {c : Nat} (r : Rd E8 h A l) (hw : PH.le h (PH.of w)) :
    (convert src dst (.slice A l.length c)).run P w = .ok (str l) w := by
  rcases Decidable.em (l = []) with rfl | hne
  · rw [run_convert_bytes_string w src dst e A _ c hs.eq he.eq hd.eq]
    cases A with
    | none => simp [Conv.bytesToString, str]; rfl
    | some ad =>
      have hl := run_loadCells_list (P := P) w ad [] (fun j v hj => by simp at hj)
      simp only [List.length_nil] at hl
      have := run_bytesToString (P := P) w ad 0 c [] hl
      rw [show str [] = .string ByteArray.empty from rfl]; simpa using this
  · obtain ⟨x, l', rfl⟩ := List.exists_cons_of_ne_nil hne
    obtain ⟨ad, hA, _⟩ := r.src8 hw 0 (b8 x) rfl
    subst hA
    refine run_convert_bytes_back w src dst e ad c (x :: l') hs.eq he.eq hd.eq (fun j hj => ?_)
    exact r.cells8 hw (fun _ => rfl) j _ (by rw [List.getElem?_map, List.getElem?_eq_getElem hj]; rfl)
theorem st_str {src dst e : TypeId} {x : Operand} {h : PH} {A : Option Addr} {l : List UInt8} {n c : Nat} (r : Rd E8 h A l) (hw : PH.le h (PH.of w)) (ho : o.op = .convert src dst x) (hg : Region.wanted o (yielded ops a.tmps) = true) (hx : a.eval x = .slice A n c) (hn : n = l.length)
    [hs : SL P src e] [he : INT P e .u8] [hd : STR P dst] (K : wpList P ops Q rest (a.put o.dst (str l)) w) : wpList P ops Q (o :: rest) a w := by
  subst hn
  refine wp_value (w' := w) hg ?_ K
  simp only [execOp, ho, hx, Sem.run_bind, run_str (src := src) (dst := dst) (c := c) r hw, Result.andThen_ok, Sem.run_pure]
theorem yi_str {src dst e : TypeId} {x : Operand} {h : PH} {A : Option Addr} {l : List UInt8} {n c : Nat} (r : Rd E8 h A l) (hS : ∀ w, S w → PH.le h (PH.of w)) (ho : o.op = .convert src dst x) (hg : Region.wanted o (yielded ops a.tmps) = true) (hx : a.eval x = .slice A n c) (hn : n = l.length)
    [hs : SL P src e] [he : INT P e .u8] [hd : STR P dst] : YieldsIf P ops S o (str l) a := by
  subst hn
  exact .inl ⟨hg, fun w hw => by simp only [execOp, ho, hx, Sem.run_bind, run_str (src := src) (dst := dst) (c := c) r (hS w hw), Result.andThen_ok, Sem.run_pure]⟩
theorem yi_index {e T : TypeId} {x ix : Operand} {b off n cap size bytes : Nat} {agg : Bool} {zero : Value} {k : IntKind} {j : Int} (ho : o.op = .indexAddr T x ix) (hg : Region.wanted o (yielded ops a.tmps) = true) (hx : a.eval x = .slice (some ⟨b, off, none⟩) n cap) (hix : a.eval ix = .int k j) [hsl : SL P T e] [ht : TI P e size bytes agg zero]
    (h0 : 0 ≤ j) (h1 : j < n) : YieldsIf P ops S o (.pointer (some ⟨b, off + j.toNat * size, none⟩)) a := by
  obtain ⟨m, rfl⟩ := Int.eq_ofNat_of_zero_le h0
  exact .inl ⟨hg, fun w _ => by simpa using run_index' ho hx hix (by omega) w⟩
end
end Go.Proofs.Ytfdogeebkbaadaa
