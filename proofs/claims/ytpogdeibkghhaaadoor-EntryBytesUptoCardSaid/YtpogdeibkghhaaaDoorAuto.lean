/- Steps that need no word: taken one behind the other, as far as they go. Printed by a program of ours. -/
import Derived.Test.YtpogdeibkghhaaaDoorObj
import Derived.Test.YtpogdeibkghhaaaDoorDraw2
set_option linter.unusedVariables false
set_option linter.unusedSimpArgs false
namespace Go.Proofs.YtpogdeibkghhaaaDoor
open Go.RowKit
universe u
theorem nla {a b : Nat} : a ≤ b + a := Nat.le_add_left _ _
/-- What is left to be shown, behind the steps. -/
structure Rest (p : Prop) : Prop where
  out : p
theorem splice_one {cs : List Value} {off : Nat} {v : Value} (h : off < cs.length) : splice cs off [v] = cs.set off v := by
  unfold splice
  rw [List.set_eq_take_append_cons_drop, if_pos h]; simp
/-- Some cells in others' stead, from a place on. -/
inductive SplA : Nat → List Value → List Value → List Value → Prop
  | nil {cs : List Value} : SplA 0 cs [] cs
  | here {c v : Value} {cs vs cs' : List Value} (h : SplA 0 cs vs cs') : SplA 0 (c :: cs) (v :: vs) (v :: cs')
  | skip {k : Nat} {c : Value} {cs vs cs' : List Value} (h : SplA k cs vs cs') : SplA (k + 1) (c :: cs) vs (c :: cs')
theorem SplA.len {k : Nat} {cs vs cs' : List Value} (h : SplA k cs vs cs') : k + vs.length ≤ cs.length := by
  induction h with
  | nil => simp
  | here _ ih => simp only [List.length_cons]; omega
  | skip _ ih => simp only [List.length_cons]; omega
theorem SplA.eq {k : Nat} {cs vs cs' : List Value} (h : SplA k cs vs cs') : splice cs k vs = cs' := by
  unfold splice
  induction h with
  | nil => simp
  | here _ ih => simp only [List.take_zero, List.nil_append, Nat.zero_add, List.length_cons, List.drop_succ_cons, List.cons_append] at ih ⊢; rw [ih]
  | skip _ ih =>
    rename_i k c cs vs cs' h
    rw [List.take_succ_cons, show k + 1 + vs.length = (k + vs.length) + 1 by omega, List.drop_succ_cons, List.cons_append, List.cons_append, ih]
/-- Some cells out of others. -/
inductive SubA : Nat → Nat → List Value → List Value → Prop
  | done {cs : List Value} : SubA 0 0 cs []
  | take {n : Nat} {c : Value} {cs vs : List Value} (h : SubA 0 n cs vs) : SubA 0 (n + 1) (c :: cs) (c :: vs)
  | skip {k n : Nat} {c : Value} {cs vs : List Value} (h : SubA k n cs vs) : SubA (k + 1) n (c :: cs) vs
theorem SubA.eq {k n : Nat} {cs vs : List Value} (h : SubA k n cs vs) : (cs.drop k).take n = vs := by
  induction h with
  | done => simp
  | take _ ih => simpa using ih
  | skip _ ih => simpa using ih
/-- A value's cells. -/
class CEL (v : Value) (cs : outParam (List Value)) : Prop where
  eq : v.cells.toList = cs
instance {vs : List Value} : CEL (.agg vs.toArray) vs := ⟨by simp [Value.cells]⟩
instance {k : IntKind} {n : Int} : CEL (.int k n) [.int k n] := ⟨rfl⟩
instance {b : Bool} : CEL (.bool b) [.bool b] := ⟨rfl⟩
instance {l : List UInt8} : CEL (str l) [str l] := ⟨rfl⟩
instance {p : Option Addr} : CEL (.pointer p) [.pointer p] := ⟨rfl⟩
instance {p : Option Addr} {n c : Nat} : CEL (.slice p n c) [.slice p n c] := ⟨rfl⟩
instance : CEL .nilIface [.nilIface] := ⟨rfl⟩
theorem at0 {α : Type u} {x0 : α} {l : List α} : (x0 :: l)[0]? = some x0 := rfl
theorem at1 {α : Type u} {x0 x1 : α} {l : List α} : (x0 :: x1 :: l)[1]? = some x1 := rfl
theorem at2 {α : Type u} {x0 x1 x2 : α} {l : List α} : (x0 :: x1 :: x2 :: l)[2]? = some x2 := rfl
theorem at3 {α : Type u} {x0 x1 x2 x3 : α} {l : List α} : (x0 :: x1 :: x2 :: x3 :: l)[3]? = some x3 := rfl
theorem at4 {α : Type u} {x0 x1 x2 x3 x4 : α} {l : List α} : (x0 :: x1 :: x2 :: x3 :: x4 :: l)[4]? = some x4 := rfl
theorem at5 {α : Type u} {x0 x1 x2 x3 x4 x5 : α} {l : List α} : (x0 :: x1 :: x2 :: x3 :: x4 :: x5 :: l)[5]? = some x5 := rfl
theorem at6 {α : Type u} {x0 x1 x2 x3 x4 x5 x6 : α} {l : List α} : (x0 :: x1 :: x2 :: x3 :: x4 :: x5 :: x6 :: l)[6]? = some x6 := rfl
theorem at7 {α : Type u} {x0 x1 x2 x3 x4 x5 x6 x7 : α} {l : List α} : (x0 :: x1 :: x2 :: x3 :: x4 :: x5 :: x6 :: x7 :: l)[7]? = some x7 := rfl
theorem at8 {α : Type u} {x0 x1 x2 x3 x4 x5 x6 x7 x8 : α} {l : List α} : (x0 :: x1 :: x2 :: x3 :: x4 :: x5 :: x6 :: x7 :: x8 :: l)[8]? = some x8 := rfl
theorem at9 {α : Type u} {x0 x1 x2 x3 x4 x5 x6 x7 x8 x9 : α} {l : List α} : (x0 :: x1 :: x2 :: x3 :: x4 :: x5 :: x6 :: x7 :: x8 :: x9 :: l)[9]? = some x9 := rfl
theorem at10 {α : Type u} {x0 x1 x2 x3 x4 x5 x6 x7 x8 x9 x10 : α} {l : List α} : (x0 :: x1 :: x2 :: x3 :: x4 :: x5 :: x6 :: x7 :: x8 :: x9 :: x10 :: l)[10]? = some x10 := rfl
theorem at11 {α : Type u} {x0 x1 x2 x3 x4 x5 x6 x7 x8 x9 x10 x11 : α} {l : List α} : (x0 :: x1 :: x2 :: x3 :: x4 :: x5 :: x6 :: x7 :: x8 :: x9 :: x10 :: x11 :: l)[11]? = some x11 := rfl
theorem at12 {α : Type u} {x0 x1 x2 x3 x4 x5 x6 x7 x8 x9 x10 x11 x12 : α} {l : List α} : (x0 :: x1 :: x2 :: x3 :: x4 :: x5 :: x6 :: x7 :: x8 :: x9 :: x10 :: x11 :: x12 :: l)[12]? = some x12 := rfl
theorem at13 {α : Type u} {x0 x1 x2 x3 x4 x5 x6 x7 x8 x9 x10 x11 x12 x13 : α} {l : List α} : (x0 :: x1 :: x2 :: x3 :: x4 :: x5 :: x6 :: x7 :: x8 :: x9 :: x10 :: x11 :: x12 :: x13 :: l)[13]? = some x13 := rfl
theorem at14 {α : Type u} {x0 x1 x2 x3 x4 x5 x6 x7 x8 x9 x10 x11 x12 x13 x14 : α} {l : List α} : (x0 :: x1 :: x2 :: x3 :: x4 :: x5 :: x6 :: x7 :: x8 :: x9 :: x10 :: x11 :: x12 :: x13 :: x14 :: l)[14]? = some x14 := rfl
theorem at15 {α : Type u} {x0 x1 x2 x3 x4 x5 x6 x7 x8 x9 x10 x11 x12 x13 x14 x15 : α} {l : List α} : (x0 :: x1 :: x2 :: x3 :: x4 :: x5 :: x6 :: x7 :: x8 :: x9 :: x10 :: x11 :: x12 :: x13 :: x14 :: x15 :: l)[15]? = some x15 := rfl
theorem se0 {α : Type u} {x0 v : α} {l : List α} : (x0 :: l).set 0 v = v :: l := rfl
theorem se1 {α : Type u} {x0 x1 v : α} {l : List α} : (x0 :: x1 :: l).set 1 v = x0 :: v :: l := rfl
theorem se2 {α : Type u} {x0 x1 x2 v : α} {l : List α} : (x0 :: x1 :: x2 :: l).set 2 v = x0 :: x1 :: v :: l := rfl
theorem se3 {α : Type u} {x0 x1 x2 x3 v : α} {l : List α} : (x0 :: x1 :: x2 :: x3 :: l).set 3 v = x0 :: x1 :: x2 :: v :: l := rfl
theorem se4 {α : Type u} {x0 x1 x2 x3 x4 v : α} {l : List α} : (x0 :: x1 :: x2 :: x3 :: x4 :: l).set 4 v = x0 :: x1 :: x2 :: x3 :: v :: l := rfl
theorem se5 {α : Type u} {x0 x1 x2 x3 x4 x5 v : α} {l : List α} : (x0 :: x1 :: x2 :: x3 :: x4 :: x5 :: l).set 5 v = x0 :: x1 :: x2 :: x3 :: x4 :: v :: l := rfl
theorem se6 {α : Type u} {x0 x1 x2 x3 x4 x5 x6 v : α} {l : List α} : (x0 :: x1 :: x2 :: x3 :: x4 :: x5 :: x6 :: l).set 6 v = x0 :: x1 :: x2 :: x3 :: x4 :: x5 :: v :: l := rfl
theorem se7 {α : Type u} {x0 x1 x2 x3 x4 x5 x6 x7 v : α} {l : List α} : (x0 :: x1 :: x2 :: x3 :: x4 :: x5 :: x6 :: x7 :: l).set 7 v = x0 :: x1 :: x2 :: x3 :: x4 :: x5 :: x6 :: v :: l := rfl
theorem se8 {α : Type u} {x0 x1 x2 x3 x4 x5 x6 x7 x8 v : α} {l : List α} : (x0 :: x1 :: x2 :: x3 :: x4 :: x5 :: x6 :: x7 :: x8 :: l).set 8 v = x0 :: x1 :: x2 :: x3 :: x4 :: x5 :: x6 :: x7 :: v :: l := rfl
theorem se9 {α : Type u} {x0 x1 x2 x3 x4 x5 x6 x7 x8 x9 v : α} {l : List α} : (x0 :: x1 :: x2 :: x3 :: x4 :: x5 :: x6 :: x7 :: x8 :: x9 :: l).set 9 v = x0 :: x1 :: x2 :: x3 :: x4 :: x5 :: x6 :: x7 :: x8 :: v :: l := rfl
theorem se10 {α : Type u} {x0 x1 x2 x3 x4 x5 x6 x7 x8 x9 x10 v : α} {l : List α} : (x0 :: x1 :: x2 :: x3 :: x4 :: x5 :: x6 :: x7 :: x8 :: x9 :: x10 :: l).set 10 v = x0 :: x1 :: x2 :: x3 :: x4 :: x5 :: x6 :: x7 :: x8 :: x9 :: v :: l := rfl
theorem se11 {α : Type u} {x0 x1 x2 x3 x4 x5 x6 x7 x8 x9 x10 x11 v : α} {l : List α} : (x0 :: x1 :: x2 :: x3 :: x4 :: x5 :: x6 :: x7 :: x8 :: x9 :: x10 :: x11 :: l).set 11 v = x0 :: x1 :: x2 :: x3 :: x4 :: x5 :: x6 :: x7 :: x8 :: x9 :: x10 :: v :: l := rfl
theorem se12 {α : Type u} {x0 x1 x2 x3 x4 x5 x6 x7 x8 x9 x10 x11 x12 v : α} {l : List α} : (x0 :: x1 :: x2 :: x3 :: x4 :: x5 :: x6 :: x7 :: x8 :: x9 :: x10 :: x11 :: x12 :: l).set 12 v = x0 :: x1 :: x2 :: x3 :: x4 :: x5 :: x6 :: x7 :: x8 :: x9 :: x10 :: x11 :: v :: l := rfl
theorem se13 {α : Type u} {x0 x1 x2 x3 x4 x5 x6 x7 x8 x9 x10 x11 x12 x13 v : α} {l : List α} : (x0 :: x1 :: x2 :: x3 :: x4 :: x5 :: x6 :: x7 :: x8 :: x9 :: x10 :: x11 :: x12 :: x13 :: l).set 13 v = x0 :: x1 :: x2 :: x3 :: x4 :: x5 :: x6 :: x7 :: x8 :: x9 :: x10 :: x11 :: x12 :: v :: l := rfl
theorem se14 {α : Type u} {x0 x1 x2 x3 x4 x5 x6 x7 x8 x9 x10 x11 x12 x13 x14 v : α} {l : List α} : (x0 :: x1 :: x2 :: x3 :: x4 :: x5 :: x6 :: x7 :: x8 :: x9 :: x10 :: x11 :: x12 :: x13 :: x14 :: l).set 14 v = x0 :: x1 :: x2 :: x3 :: x4 :: x5 :: x6 :: x7 :: x8 :: x9 :: x10 :: x11 :: x12 :: x13 :: v :: l := rfl
theorem se15 {α : Type u} {x0 x1 x2 x3 x4 x5 x6 x7 x8 x9 x10 x11 x12 x13 x14 x15 v : α} {l : List α} : (x0 :: x1 :: x2 :: x3 :: x4 :: x5 :: x6 :: x7 :: x8 :: x9 :: x10 :: x11 :: x12 :: x13 :: x14 :: x15 :: l).set 15 v = x0 :: x1 :: x2 :: x3 :: x4 :: x5 :: x6 :: x7 :: x8 :: x9 :: x10 :: x11 :: x12 :: x13 :: x14 :: v :: l := rfl
theorem se16 {α : Type u} {x0 x1 x2 x3 x4 x5 x6 x7 x8 x9 x10 x11 x12 x13 x14 x15 x16 v : α} {l : List α} : (x0 :: x1 :: x2 :: x3 :: x4 :: x5 :: x6 :: x7 :: x8 :: x9 :: x10 :: x11 :: x12 :: x13 :: x14 :: x15 :: x16 :: l).set 16 v = x0 :: x1 :: x2 :: x3 :: x4 :: x5 :: x6 :: x7 :: x8 :: x9 :: x10 :: x11 :: x12 :: x13 :: x14 :: x15 :: v :: l := rfl
theorem se17 {α : Type u} {x0 x1 x2 x3 x4 x5 x6 x7 x8 x9 x10 x11 x12 x13 x14 x15 x16 x17 v : α} {l : List α} : (x0 :: x1 :: x2 :: x3 :: x4 :: x5 :: x6 :: x7 :: x8 :: x9 :: x10 :: x11 :: x12 :: x13 :: x14 :: x15 :: x16 :: x17 :: l).set 17 v = x0 :: x1 :: x2 :: x3 :: x4 :: x5 :: x6 :: x7 :: x8 :: x9 :: x10 :: x11 :: x12 :: x13 :: x14 :: x15 :: x16 :: v :: l := rfl
section
variable {P : Program} {N : Nat} {D : List Deferred} {B : World} {env : Env} {hs hs' : List MP} {ops : Array Oper} {rest : List Oper} {Q : Exit → Act → World → Prop} {K Kn Kr : Act → World → Prop} {o : Oper}
variable {x y c : Operand} {t e yt ty : TypeId} {size bytes off n m b d j g : Nat} {agg z w want : Bool} {zero v u r : Value} {i : Nat} {cs : List Value} {T' : TypeId} {op : BinOp} {pos : String} {af : Array Edge}
theorem A.mv (hx : ev env x = some v) (hf : Nat.blt d N = true) (h : T N D B ((d, v) :: env) hs (wpList P ops Q rest)) : T N D B env hs (wpList P ops Q (⟨some d, .move x, ty, pos, af, none⟩ :: rest)) := T.move .list rfl (wants0 rfl) (show fits N _ = true from hf) hx h
theorem A.mvg (hx : ev env x = some v) (hd : (ops[j]?).bind (·.dst) = some g) (he : Env.get env g = some (.bool w)) (hb : w = want) (hf : Nat.blt d N = true) (h : T N D B ((d, v) :: env) hs (wpList P ops Q rest)) : T N D B env hs (wpList P ops Q (⟨some d, .move x, ty, pos, af, (some (j, want))⟩ :: rest)) := T.move .list rfl (wants1 rfl hd he hb) (show fits N _ = true from hf) hx h
theorem A.asg (hx : ev env x = some v) (hf : Nat.blt d N = true) (h : T N D B ((d, v) :: env) hs (wpList P ops Q rest)) : T N D B env hs (wpList P ops Q (⟨some d, .assign x, ty, pos, af, none⟩ :: rest)) := T.assign .list rfl (wants0 rfl) (show fits N _ = true from hf) hx h
theorem A.asgg (hx : ev env x = some v) (hd : (ops[j]?).bind (·.dst) = some g) (he : Env.get env g = some (.bool w)) (hb : w = want) (hf : Nat.blt d N = true) (h : T N D B ((d, v) :: env) hs (wpList P ops Q rest)) : T N D B env hs (wpList P ops Q (⟨some d, .assign x, ty, pos, af, (some (j, want))⟩ :: rest)) := T.assign .list rfl (wants1 rfl hd he hb) (show fits N _ = true from hf) hx h
theorem A.fi [hfl : FLD P t n m] (hx : ev env x = some (.pointer (some ⟨b, off, none⟩))) (hf : Nat.blt d N = true) (h : T N D B ((d, (.pointer (some ⟨b, off + m, none⟩))) :: env) hs (wpList P ops Q rest)) : T N D B env hs (wpList P ops Q (⟨some d, .fieldAddr t x n, ty, pos, af, none⟩ :: rest)) := T.field .list rfl (wants0 rfl) (show fits N _ = true from hf) hx h
theorem A.fig [hfl : FLD P t n m] (hx : ev env x = some (.pointer (some ⟨b, off, none⟩))) (hd : (ops[j]?).bind (·.dst) = some g) (he : Env.get env g = some (.bool w)) (hb : w = want) (hf : Nat.blt d N = true) (h : T N D B ((d, (.pointer (some ⟨b, off + m, none⟩))) :: env) hs (wpList P ops Q rest)) : T N D B env hs (wpList P ops Q (⟨some d, .fieldAddr t x n, ty, pos, af, (some (j, want))⟩ :: rest)) := T.field .list rfl (wants1 rfl hd he hb) (show fits N _ = true from hf) hx h
theorem A.nc {ad : Addr} (hx : ev env x = some (.pointer (some ad))) (hf : Nat.blt d N = true) (h : T N D B ((d, (.pointer (some ad))) :: env) hs (wpList P ops Q rest)) : T N D B env hs (wpList P ops Q (⟨some d, .nilCheck x, ty, pos, af, none⟩ :: rest)) := T.nilCheck .list rfl (wants0 rfl) (show fits N _ = true from hf) hx h
theorem A.ncg {ad : Addr} (hx : ev env x = some (.pointer (some ad))) (hd : (ops[j]?).bind (·.dst) = some g) (he : Env.get env g = some (.bool w)) (hb : w = want) (hf : Nat.blt d N = true) (h : T N D B ((d, (.pointer (some ad))) :: env) hs (wpList P ops Q rest)) : T N D B env hs (wpList P ops Q (⟨some d, .nilCheck x, ty, pos, af, (some (j, want))⟩ :: rest)) := T.nilCheck .list rfl (wants1 rfl hd he hb) (show fits N _ = true from hf) hx h
theorem A.xt {vs : Array Value} (hx : ev env x = some (.tuple vs)) (hv : vs[i]? = some v) (hf : Nat.blt d N = true) (h : T N D B ((d, v) :: env) hs (wpList P ops Q rest)) : T N D B env hs (wpList P ops Q (⟨some d, .extract x i, ty, pos, af, none⟩ :: rest)) := T.extract .list rfl (wants0 rfl) (show fits N _ = true from hf) hx hv h
theorem A.xtg {vs : Array Value} (hx : ev env x = some (.tuple vs)) (hv : vs[i]? = some v) (hd : (ops[j]?).bind (·.dst) = some g) (he : Env.get env g = some (.bool w)) (hb : w = want) (hf : Nat.blt d N = true) (h : T N D B ((d, v) :: env) hs (wpList P ops Q rest)) : T N D B env hs (wpList P ops Q (⟨some d, .extract x i, ty, pos, af, (some (j, want))⟩ :: rest)) := T.extract .list rfl (wants1 rfl hd he hb) (show fits N _ = true from hf) hx hv h
theorem A.bi (hx : ev env x = some v) (hy : ev env y = some u) (hr : binV op v u = some r) (hf : Nat.blt d N = true) (h : T N D B ((d, r) :: env) hs (wpList P ops Q rest)) : T N D B env hs (wpList P ops Q (⟨some d, .binOp op t x y yt, ty, pos, af, none⟩ :: rest)) := T.bin .list rfl (wants0 rfl) (show fits N _ = true from hf) hx hy hr h
theorem A.big (hx : ev env x = some v) (hy : ev env y = some u) (hr : binV op v u = some r) (hd : (ops[j]?).bind (·.dst) = some g) (he : Env.get env g = some (.bool w)) (hb : w = want) (hf : Nat.blt d N = true) (h : T N D B ((d, r) :: env) hs (wpList P ops Q rest)) : T N D B env hs (wpList P ops Q (⟨some d, .binOp op t x y yt, ty, pos, af, (some (j, want))⟩ :: rest)) := T.bin .list rfl (wants1 rfl hd he hb) (show fits N _ = true from hf) hx hy hr h
theorem A.pt (hc : ev env c = some (.bool z)) (hz : z = true) (hx : ev env x = some v) (hf : Nat.blt d N = true) (h : T N D B ((d, v) :: env) hs (wpList P ops Q rest)) : T N D B env hs (wpList P ops Q (⟨some d, .pick c x y, ty, pos, af, none⟩ :: rest)) := T.pickT .list rfl (wants0 rfl) (show fits N _ = true from hf) hc hz hx h
theorem A.ptg (hc : ev env c = some (.bool z)) (hz : z = true) (hx : ev env x = some v) (hd : (ops[j]?).bind (·.dst) = some g) (he : Env.get env g = some (.bool w)) (hb : w = want) (hf : Nat.blt d N = true) (h : T N D B ((d, v) :: env) hs (wpList P ops Q rest)) : T N D B env hs (wpList P ops Q (⟨some d, .pick c x y, ty, pos, af, (some (j, want))⟩ :: rest)) := T.pickT .list rfl (wants1 rfl hd he hb) (show fits N _ = true from hf) hc hz hx h
theorem A.pf (hc : ev env c = some (.bool z)) (hz : z = false) (hx : ev env y = some v) (hf : Nat.blt d N = true) (h : T N D B ((d, v) :: env) hs (wpList P ops Q rest)) : T N D B env hs (wpList P ops Q (⟨some d, .pick c x y, ty, pos, af, none⟩ :: rest)) := T.pickF .list rfl (wants0 rfl) (show fits N _ = true from hf) hc hz hx h
theorem A.pfg (hc : ev env c = some (.bool z)) (hz : z = false) (hx : ev env y = some v) (hd : (ops[j]?).bind (·.dst) = some g) (he : Env.get env g = some (.bool w)) (hb : w = want) (hf : Nat.blt d N = true) (h : T N D B ((d, v) :: env) hs (wpList P ops Q rest)) : T N D B env hs (wpList P ops Q (⟨some d, .pick c x y, ty, pos, af, (some (j, want))⟩ :: rest)) := T.pickF .list rfl (wants1 rfl hd he hb) (show fits N _ = true from hf) hc hz hx h
theorem A.ld [ht : TI P t size bytes false zero] (hx : ev env x = some (.pointer (some ⟨b, off, none⟩))) (hi : hs[i]? = some (Cl b T' cs)) (hv : cs[off]? = some v) (hf : Nat.blt d N = true) (h : T N D B ((d, v) :: env) hs (wpList P ops Q rest)) : T N D B env hs (wpList P ops Q (⟨some d, .load t x, ty, pos, af, none⟩ :: rest)) := T.load .list i hi rfl (wants0 rfl) (show fits N _ = true from hf) hx hv h
theorem A.ldg [ht : TI P t size bytes false zero] (hx : ev env x = some (.pointer (some ⟨b, off, none⟩))) (hi : hs[i]? = some (Cl b T' cs)) (hv : cs[off]? = some v) (hd : (ops[j]?).bind (·.dst) = some g) (he : Env.get env g = some (.bool w)) (hb : w = want) (hf : Nat.blt d N = true) (h : T N D B ((d, v) :: env) hs (wpList P ops Q rest)) : T N D B env hs (wpList P ops Q (⟨some d, .load t x, ty, pos, af, (some (j, want))⟩ :: rest)) := T.load .list i hi rfl (wants1 rfl hd he hb) (show fits N _ = true from hf) hx hv h
theorem A.ls {A : Option Addr} {cap : Nat} [hsl : SL P t e] (hx : ev env x = some (.slice A n cap)) (hf : Nat.blt d N = true) (h : T N D B ((d, (.int .i64 (n : Int))) :: env) hs (wpList P ops Q rest)) : T N D B env hs (wpList P ops Q (⟨some d, .call { callee := .builtin .len, args := #[x], argTypes := #[t] }, ty, pos, af, none⟩ :: rest)) := T.lenSlice .list rfl (wants0 rfl) (show fits N _ = true from hf) hx h
theorem A.lsg {A : Option Addr} {cap : Nat} [hsl : SL P t e] (hx : ev env x = some (.slice A n cap)) (hd : (ops[j]?).bind (·.dst) = some g) (he : Env.get env g = some (.bool w)) (hb : w = want) (hf : Nat.blt d N = true) (h : T N D B ((d, (.int .i64 (n : Int))) :: env) hs (wpList P ops Q rest)) : T N D B env hs (wpList P ops Q (⟨some d, .call { callee := .builtin .len, args := #[x], argTypes := #[t] }, ty, pos, af, (some (j, want))⟩ :: rest)) := T.lenSlice .list rfl (wants1 rfl hd he hb) (show fits N _ = true from hf) hx h
theorem A.lv {op : Op} (hd : (ops[j]?).bind (·.dst) = some g) (he : Env.get env g = some (.bool w)) (hb : w = !want) (hf : Nat.blt d N = true) (h : T N D B ((d, undef) :: env) hs (wpList P ops Q rest)) : T N D B env hs (wpList P ops Q (⟨some d, op, ty, pos, af, some (j, want)⟩ :: rest)) := T.leave .list (wantsNot rfl hd he hb) hf h
theorem A.lu {op : Op} (hd : (ops[j]?).bind (·.dst) = some g) (he : Env.get env g = some undef) (hf : Nat.blt d N = true) (h : T N D B ((d, undef) :: env) hs (wpList P ops Q rest)) : T N D B env hs (wpList P ops Q (⟨some d, op, ty, pos, af, some (j, want)⟩ :: rest)) := T.leave .list (wantsUndef rfl hd he) hf h
theorem A.lvn {op : Op} (hd : (ops[j]?).bind (·.dst) = some g) (he : Env.get env g = some (.bool w)) (hb : w = !want) (h : T N D B env hs (wpList P ops Q rest)) : T N D B env hs (wpList P ops Q (⟨none, op, ty, pos, af, some (j, want)⟩ :: rest)) := T.leave .list (wantsNot rfl hd he hb) rfl h
theorem A.lun {op : Op} (hd : (ops[j]?).bind (·.dst) = some g) (he : Env.get env g = some undef) (h : T N D B env hs (wpList P ops Q rest)) : T N D B env hs (wpList P ops Q (⟨none, op, ty, pos, af, some (j, want)⟩ :: rest)) := T.leave .list (wantsUndef rfl hd he) rfl h
theorem A.sto [ht : TI P t 1 bytes agg zero] {cs' : List Value} (hx : ev env x = some (.pointer (some ⟨b, off, none⟩))) (hy : ev env y = some v) (hi : hs[i]? = some (Cl b T' cs)) (hl : v.cells.toList = [v]) (h1 : v.oneCell' = true) (hc : cs.set off v = cs') (hlt : (cs[off]?).isSome = true) (he' : hs.set i (Cl b T' cs') = hs') (h : T N D B env hs' (wpList P ops Q rest)) : T N D B env hs (wpList P ops Q (⟨none, .store t x y, ty, pos, af, none⟩ :: rest)) := by
  have h3 : off < cs.length := by
    cases e : cs[off]? with
    | none => rw [e] at hlt; cases hlt
    | some z => exact (List.getElem?_eq_some_iff.1 e).1
  exact T.store .list i hi rfl (wants0 rfl) rfl hx hy (by rw [← Array.length_toList, hl]; rfl) (by omega) (by rw [hl]; simp [oneCells, h1]) (cs' := cs') (by rw [hl, splice_one h3]; exact hc) he' h
theorem A.stog [ht : TI P t 1 bytes agg zero] {cs' : List Value} (hx : ev env x = some (.pointer (some ⟨b, off, none⟩))) (hy : ev env y = some v) (hi : hs[i]? = some (Cl b T' cs)) (hl : v.cells.toList = [v]) (h1 : v.oneCell' = true) (hc : cs.set off v = cs') (hlt : (cs[off]?).isSome = true) (he' : hs.set i (Cl b T' cs') = hs') (hd : (ops[j]?).bind (·.dst) = some g) (he : Env.get env g = some (.bool w)) (hb : w = want) (h : T N D B env hs' (wpList P ops Q rest)) : T N D B env hs (wpList P ops Q (⟨none, .store t x y, ty, pos, af, (some (j, want))⟩ :: rest)) := by
  have h3 : off < cs.length := by
    cases e : cs[off]? with
    | none => rw [e] at hlt; cases hlt
    | some z => exact (List.getElem?_eq_some_iff.1 e).1
  exact T.store .list i hi rfl (wants1 rfl hd he hb) rfl hx hy (by rw [← Array.length_toList, hl]; rfl) (by omega) (by rw [hl]; simp [oneCells, h1]) (cs' := cs') (by rw [hl, splice_one h3]; exact hc) he' h
theorem A.stp [ht : TI P t size bytes agg zero] {vs cs' : List Value} (hx : ev env x = some (.pointer (some ⟨b, off, none⟩))) (hy : ev env y = some (.agg vs.toArray)) (hi : hs[i]? = some (Cl b T' cs)) (hs1 : SplA off cs vs cs') (hl : vs.length = size) (h1 : oneCells vs = true) (he' : hs.set i (Cl b T' cs') = hs') (h : T N D B env hs' (wpList P ops Q rest)) : T N D B env hs (wpList P ops Q (⟨none, .store t x y, ty, pos, af, none⟩ :: rest)) := T.store .list i hi rfl (wants0 rfl) rfl hx hy (by simpa [Value.cells] using hl) (by have := hs1.len; omega) (by simpa [Value.cells] using h1) (cs' := cs') (by simpa [Value.cells] using hs1.eq) he' h
theorem A.stpg [ht : TI P t size bytes agg zero] {vs cs' : List Value} (hx : ev env x = some (.pointer (some ⟨b, off, none⟩))) (hy : ev env y = some (.agg vs.toArray)) (hi : hs[i]? = some (Cl b T' cs)) (hs1 : SplA off cs vs cs') (hl : vs.length = size) (h1 : oneCells vs = true) (he' : hs.set i (Cl b T' cs') = hs') (hd : (ops[j]?).bind (·.dst) = some g) (he : Env.get env g = some (.bool w)) (hb : w = want) (h : T N D B env hs' (wpList P ops Q rest)) : T N D B env hs (wpList P ops Q (⟨none, .store t x y, ty, pos, af, (some (j, want))⟩ :: rest)) := T.store .list i hi rfl (wants1 rfl hd he hb) rfl hx hy (by simpa [Value.cells] using hl) (by have := hs1.len; omega) (by simpa [Value.cells] using h1) (cs' := cs') (by simpa [Value.cells] using hs1.eq) he' h
theorem A.ldn [ht : TI P t size bytes true zero] {vs : List Value} (hx : ev env x = some (.pointer (some ⟨b, off, none⟩))) (hi : hs[i]? = some (Cl b T' cs)) (hs1 : SubA off size cs vs) (hl : vs.length = size) (hf : Nat.blt d N = true) (h : T N D B ((d, (.agg vs.toArray)) :: env) hs (wpList P ops Q rest)) : T N D B env hs (wpList P ops Q (⟨some d, .load t x, ty, pos, af, none⟩ :: rest)) := T.loadN .list i hi rfl (wants0 rfl) (show fits N _ = true from hf) hx hs1.eq hl h
theorem A.ldng [ht : TI P t size bytes true zero] {vs : List Value} (hx : ev env x = some (.pointer (some ⟨b, off, none⟩))) (hi : hs[i]? = some (Cl b T' cs)) (hs1 : SubA off size cs vs) (hl : vs.length = size) (hd : (ops[j]?).bind (·.dst) = some g) (he : Env.get env g = some (.bool w)) (hb : w = want) (hf : Nat.blt d N = true) (h : T N D B ((d, (.agg vs.toArray)) :: env) hs (wpList P ops Q rest)) : T N D B env hs (wpList P ops Q (⟨some d, .load t x, ty, pos, af, (some (j, want))⟩ :: rest)) := T.loadN .list i hi rfl (wants1 rfl hd he hb) (show fits N _ = true from hf) hx hs1.eq hl h
theorem A.bx [hc : CEL v cs] (hx : ev env x = some v) (hf : Nat.blt d N = true) (h : ∀ b, T N D B ((d, (.pointer (some ⟨b, 0, none⟩))) :: env) (Cl b t cs :: hs) (wpList P ops Q rest)) : T N D B env hs (wpList P ops Q (⟨some d, .box t x, ty, pos, af, none⟩ :: rest)) := T.boxS .list rfl (wants0 rfl) (show fits N _ = true from hf) hx hc.eq h
theorem A.al [ht : TI P t size bytes agg zero] [hc : CEL zero cs] (hf : Nat.blt d N = true) (h : ∀ b, T N D B ((d, (.pointer (some ⟨b, 0, none⟩))) :: env) (Cl b t cs :: hs) (wpList P ops Q rest)) : T N D B env hs (wpList P ops Q (⟨some d, .alloc t, ty, pos, af, none⟩ :: rest)) := T.allocS .list rfl (wants0 rfl) (show fits N _ = true from hf) hc.eq h
theorem A.c1 {X : Type} {f : FuncId} {fn : Func} {y1 : Operand} {v1 : Value} {ats : Array TypeId} {V : X → Value} {hs1 : X → List MP} (hf : Nat.blt d N = true) (h1 : ev env y1 = some v1) (hfn : P.funcs[f]? = some fn) (hb : (fn.body.isSome && !(fn.name == "runtime.NumGoroutine")) = true) (hc : ∀ w, St B hs w → Calls P f #[v1] w fun e w1 => ∃ x, e = .returned (V x) ∧ St B (hs1 x) w1) (h : ∀ x, T N D B ((d, V x) :: env) (hs1 x) (wpList P ops Q rest)) : T N D B env hs (wpList P ops Q (⟨some d, .call { callee := .value (.func f), args := #[y1], argTypes := ats }, ty, pos, af, none⟩ :: rest)) := T.call .list (wants0 rfl) (show fits N _ = true from hf) (run_callF (vs := [v1]) rfl hfn (by simp at hb; exact hb.1) (by simp at hb; simpa using hb.2) (by simp [h1])) hc h
theorem D.c1 {F : Phi} {ff i : Nat} {L : Array Bool} {X : Type} {f : FuncId} {fn : Func} {y1 : Operand} {v1 : Value} {ats : Array TypeId} {V : X → Value} {hs1 : X → List MP} (ho : ops[i]? = some ⟨some d, .call { callee := .value (.func f), args := #[y1], argTypes := ats }, ty, pos, af, none⟩) (hr : (Region.ready .any ops L).contains i = true) (hf : Nat.blt d N = true) (h1 : ev env y1 = some v1) (hfn : P.funcs[f]? = some fn) (hb : (fn.body.isSome && !(fn.name == "runtime.NumGoroutine")) = true) (hc : ∀ w, St B hs w → Calls P f #[v1] w fun e w1 => ∃ x, e = .returned (V x) ∧ St B (hs1 x) w1) (h : ∀ x, T N D B ((d, V x) :: env) (hs1 x) (Gn P ops Q F ff (L.setIfInBounds i true))) : T N D B env hs (Gone P ops Q F ff L i) := T.call (.dOne ho hr) (wants0 rfl) (show fits N _ = true from hf) (run_callF (vs := [v1]) rfl hfn (by simp at hb; exact hb.1) (by simp at hb; simpa using hb.2) (by simp [h1])) hc h
theorem A.c1g {X : Type} {f : FuncId} {fn : Func} {y1 : Operand} {v1 : Value} {ats : Array TypeId} {V : X → Value} {hs1 : X → List MP} (hd : (ops[j]?).bind (·.dst) = some g) (he : Env.get env g = some (.bool w)) (hz : w = want) (hf : Nat.blt d N = true) (h1 : ev env y1 = some v1) (hfn : P.funcs[f]? = some fn) (hb : (fn.body.isSome && !(fn.name == "runtime.NumGoroutine")) = true) (hc : ∀ w, St B hs w → Calls P f #[v1] w fun e w1 => ∃ x, e = .returned (V x) ∧ St B (hs1 x) w1) (h : ∀ x, T N D B ((d, V x) :: env) (hs1 x) (wpList P ops Q rest)) : T N D B env hs (wpList P ops Q (⟨some d, .call { callee := .value (.func f), args := #[y1], argTypes := ats }, ty, pos, af, some (j, want)⟩ :: rest)) := T.call .list (wants1 rfl hd he hz) (show fits N _ = true from hf) (run_callF (vs := [v1]) rfl hfn (by simp at hb; exact hb.1) (by simp at hb; simpa using hb.2) (by simp [h1])) hc h
theorem D.c1g {F : Phi} {ff i : Nat} {L : Array Bool} {X : Type} {f : FuncId} {fn : Func} {y1 : Operand} {v1 : Value} {ats : Array TypeId} {V : X → Value} {hs1 : X → List MP} (ho : ops[i]? = some ⟨some d, .call { callee := .value (.func f), args := #[y1], argTypes := ats }, ty, pos, af, some (j, want)⟩) (hr : (Region.ready .any ops L).contains i = true) (hd : (ops[j]?).bind (·.dst) = some g) (he : Env.get env g = some (.bool w)) (hz : w = want) (hf : Nat.blt d N = true) (h1 : ev env y1 = some v1) (hfn : P.funcs[f]? = some fn) (hb : (fn.body.isSome && !(fn.name == "runtime.NumGoroutine")) = true) (hc : ∀ w, St B hs w → Calls P f #[v1] w fun e w1 => ∃ x, e = .returned (V x) ∧ St B (hs1 x) w1) (h : ∀ x, T N D B ((d, V x) :: env) (hs1 x) (Gn P ops Q F ff (L.setIfInBounds i true))) : T N D B env hs (Gone P ops Q F ff L i) := T.call (.dOne ho hr) (wants1 rfl hd he hz) (show fits N _ = true from hf) (run_callF (vs := [v1]) rfl hfn (by simp at hb; exact hb.1) (by simp at hb; simpa using hb.2) (by simp [h1])) hc h
theorem A.c2 {X : Type} {f : FuncId} {fn : Func} {y1 y2 : Operand} {v1 v2 : Value} {ats : Array TypeId} {V : X → Value} {hs1 : X → List MP} (hf : Nat.blt d N = true) (h1 : ev env y1 = some v1) (h2 : ev env y2 = some v2) (hfn : P.funcs[f]? = some fn) (hb : (fn.body.isSome && !(fn.name == "runtime.NumGoroutine")) = true) (hc : ∀ w, St B hs w → Calls P f #[v1, v2] w fun e w1 => ∃ x, e = .returned (V x) ∧ St B (hs1 x) w1) (h : ∀ x, T N D B ((d, V x) :: env) (hs1 x) (wpList P ops Q rest)) : T N D B env hs (wpList P ops Q (⟨some d, .call { callee := .value (.func f), args := #[y1, y2], argTypes := ats }, ty, pos, af, none⟩ :: rest)) := T.call .list (wants0 rfl) (show fits N _ = true from hf) (run_callF (vs := [v1, v2]) rfl hfn (by simp at hb; exact hb.1) (by simp at hb; simpa using hb.2) (by simp [h1, h2])) hc h
theorem D.c2 {F : Phi} {ff i : Nat} {L : Array Bool} {X : Type} {f : FuncId} {fn : Func} {y1 y2 : Operand} {v1 v2 : Value} {ats : Array TypeId} {V : X → Value} {hs1 : X → List MP} (ho : ops[i]? = some ⟨some d, .call { callee := .value (.func f), args := #[y1, y2], argTypes := ats }, ty, pos, af, none⟩) (hr : (Region.ready .any ops L).contains i = true) (hf : Nat.blt d N = true) (h1 : ev env y1 = some v1) (h2 : ev env y2 = some v2) (hfn : P.funcs[f]? = some fn) (hb : (fn.body.isSome && !(fn.name == "runtime.NumGoroutine")) = true) (hc : ∀ w, St B hs w → Calls P f #[v1, v2] w fun e w1 => ∃ x, e = .returned (V x) ∧ St B (hs1 x) w1) (h : ∀ x, T N D B ((d, V x) :: env) (hs1 x) (Gn P ops Q F ff (L.setIfInBounds i true))) : T N D B env hs (Gone P ops Q F ff L i) := T.call (.dOne ho hr) (wants0 rfl) (show fits N _ = true from hf) (run_callF (vs := [v1, v2]) rfl hfn (by simp at hb; exact hb.1) (by simp at hb; simpa using hb.2) (by simp [h1, h2])) hc h
theorem A.c2g {X : Type} {f : FuncId} {fn : Func} {y1 y2 : Operand} {v1 v2 : Value} {ats : Array TypeId} {V : X → Value} {hs1 : X → List MP} (hd : (ops[j]?).bind (·.dst) = some g) (he : Env.get env g = some (.bool w)) (hz : w = want) (hf : Nat.blt d N = true) (h1 : ev env y1 = some v1) (h2 : ev env y2 = some v2) (hfn : P.funcs[f]? = some fn) (hb : (fn.body.isSome && !(fn.name == "runtime.NumGoroutine")) = true) (hc : ∀ w, St B hs w → Calls P f #[v1, v2] w fun e w1 => ∃ x, e = .returned (V x) ∧ St B (hs1 x) w1) (h : ∀ x, T N D B ((d, V x) :: env) (hs1 x) (wpList P ops Q rest)) : T N D B env hs (wpList P ops Q (⟨some d, .call { callee := .value (.func f), args := #[y1, y2], argTypes := ats }, ty, pos, af, some (j, want)⟩ :: rest)) := T.call .list (wants1 rfl hd he hz) (show fits N _ = true from hf) (run_callF (vs := [v1, v2]) rfl hfn (by simp at hb; exact hb.1) (by simp at hb; simpa using hb.2) (by simp [h1, h2])) hc h
theorem D.c2g {F : Phi} {ff i : Nat} {L : Array Bool} {X : Type} {f : FuncId} {fn : Func} {y1 y2 : Operand} {v1 v2 : Value} {ats : Array TypeId} {V : X → Value} {hs1 : X → List MP} (ho : ops[i]? = some ⟨some d, .call { callee := .value (.func f), args := #[y1, y2], argTypes := ats }, ty, pos, af, some (j, want)⟩) (hr : (Region.ready .any ops L).contains i = true) (hd : (ops[j]?).bind (·.dst) = some g) (he : Env.get env g = some (.bool w)) (hz : w = want) (hf : Nat.blt d N = true) (h1 : ev env y1 = some v1) (h2 : ev env y2 = some v2) (hfn : P.funcs[f]? = some fn) (hb : (fn.body.isSome && !(fn.name == "runtime.NumGoroutine")) = true) (hc : ∀ w, St B hs w → Calls P f #[v1, v2] w fun e w1 => ∃ x, e = .returned (V x) ∧ St B (hs1 x) w1) (h : ∀ x, T N D B ((d, V x) :: env) (hs1 x) (Gn P ops Q F ff (L.setIfInBounds i true))) : T N D B env hs (Gone P ops Q F ff L i) := T.call (.dOne ho hr) (wants1 rfl hd he hz) (show fits N _ = true from hf) (run_callF (vs := [v1, v2]) rfl hfn (by simp at hb; exact hb.1) (by simp at hb; simpa using hb.2) (by simp [h1, h2])) hc h
theorem A.c3 {X : Type} {f : FuncId} {fn : Func} {y1 y2 y3 : Operand} {v1 v2 v3 : Value} {ats : Array TypeId} {V : X → Value} {hs1 : X → List MP} (hf : Nat.blt d N = true) (h1 : ev env y1 = some v1) (h2 : ev env y2 = some v2) (h3 : ev env y3 = some v3) (hfn : P.funcs[f]? = some fn) (hb : (fn.body.isSome && !(fn.name == "runtime.NumGoroutine")) = true) (hc : ∀ w, St B hs w → Calls P f #[v1, v2, v3] w fun e w1 => ∃ x, e = .returned (V x) ∧ St B (hs1 x) w1) (h : ∀ x, T N D B ((d, V x) :: env) (hs1 x) (wpList P ops Q rest)) : T N D B env hs (wpList P ops Q (⟨some d, .call { callee := .value (.func f), args := #[y1, y2, y3], argTypes := ats }, ty, pos, af, none⟩ :: rest)) := T.call .list (wants0 rfl) (show fits N _ = true from hf) (run_callF (vs := [v1, v2, v3]) rfl hfn (by simp at hb; exact hb.1) (by simp at hb; simpa using hb.2) (by simp [h1, h2, h3])) hc h
theorem A.c3g {X : Type} {f : FuncId} {fn : Func} {y1 y2 y3 : Operand} {v1 v2 v3 : Value} {ats : Array TypeId} {V : X → Value} {hs1 : X → List MP} (hd : (ops[j]?).bind (·.dst) = some g) (he : Env.get env g = some (.bool w)) (hz : w = want) (hf : Nat.blt d N = true) (h1 : ev env y1 = some v1) (h2 : ev env y2 = some v2) (h3 : ev env y3 = some v3) (hfn : P.funcs[f]? = some fn) (hb : (fn.body.isSome && !(fn.name == "runtime.NumGoroutine")) = true) (hc : ∀ w, St B hs w → Calls P f #[v1, v2, v3] w fun e w1 => ∃ x, e = .returned (V x) ∧ St B (hs1 x) w1) (h : ∀ x, T N D B ((d, V x) :: env) (hs1 x) (wpList P ops Q rest)) : T N D B env hs (wpList P ops Q (⟨some d, .call { callee := .value (.func f), args := #[y1, y2, y3], argTypes := ats }, ty, pos, af, some (j, want)⟩ :: rest)) := T.call .list (wants1 rfl hd he hz) (show fits N _ = true from hf) (run_callF (vs := [v1, v2, v3]) rfl hfn (by simp at hb; exact hb.1) (by simp at hb; simpa using hb.2) (by simp [h1, h2, h3])) hc h
theorem D.lv (i : Nat) {F : Phi} {f : Nat} {L : Array Bool} (h : T N D B (ptE o undef env) hs (G P ops Q F f (L.setIfInBounds i true))) (ho : ops[i]? = some o := by rfl) (ht : taken ops F L i = true := by kernel_rfl) (hQ : ∀ d v c a w, Q (.panic c) (a.put d v) w → Q (.panic c) a w := by intro d _ _ _ _ h; cases d <;> exact h) (hw : wants ops env o false := by first | exact wantsNot rfl rfl rfl (by first | assumption | exact not_t (by assumption) | exact not_f (by assumption) | rfl) | exact wantsUndef rfl rfl rfl) (hf : fits N o = true := by rfl) : T N D B env hs (G P ops Q F (f + 1) L) := T.leave (.dPure ho ht hQ) hw hf h
theorem D.mv (i : Nat) {F : Phi} {f : Nat} {L : Array Bool} (h : T N D B (ptE o v env) hs (G P ops Q F f (L.setIfInBounds i true))) (ho : ops[i]? = some o := by rfl) (ht : taken ops F L i = true := by kernel_rfl) (hQ : ∀ d v c a w, Q (.panic c) (a.put d v) w → Q (.panic c) a w := by intro d _ _ _ _ h; cases d <;> exact h) (ho1 : o.op = .move x := by rfl) (hx : ev env x = some v := by rfl) (hw : wants ops env o true := by first | exact wants0 rfl | exact wants1 rfl rfl rfl (by first | assumption | exact not_t (by assumption) | exact not_f (by assumption) | rfl)) (hf : fits N o = true := by rfl) : T N D B env hs (G P ops Q F (f + 1) L) := T.move (.dPure ho ht hQ) ho1 hw hf hx h
theorem D.asg (i : Nat) {F : Phi} {f : Nat} {L : Array Bool} (h : T N D B (ptE o v env) hs (G P ops Q F f (L.setIfInBounds i true))) (ho : ops[i]? = some o := by rfl) (ht : taken ops F L i = true := by kernel_rfl) (hQ : ∀ d v c a w, Q (.panic c) (a.put d v) w → Q (.panic c) a w := by intro d _ _ _ _ h; cases d <;> exact h) (ho1 : o.op = .assign x := by rfl) (hx : ev env x = some v := by rfl) (hw : wants ops env o true := by first | exact wants0 rfl | exact wants1 rfl rfl rfl (by first | assumption | exact not_t (by assumption) | exact not_f (by assumption) | rfl)) (hf : fits N o = true := by rfl) : T N D B env hs (G P ops Q F (f + 1) L) := T.assign (.dPure ho ht hQ) ho1 hw hf hx h
theorem D.pt (i : Nat) {F : Phi} {f : Nat} {L : Array Bool} (h : T N D B (ptE o v env) hs (G P ops Q F f (L.setIfInBounds i true))) (ho : ops[i]? = some o := by rfl) (ht : taken ops F L i = true := by kernel_rfl) (hQ : ∀ d v c a w, Q (.panic c) (a.put d v) w → Q (.panic c) a w := by intro d _ _ _ _ h; cases d <;> exact h) (ho1 : o.op = .pick c x y := by rfl) (hc : ev env c = some (.bool z) := by rfl) (hz : z = true := by first | assumption | exact not_t (by assumption) | exact not_f (by assumption) | rfl) (hx : ev env x = some v := by rfl) (hw : wants ops env o true := by first | exact wants0 rfl | exact wants1 rfl rfl rfl (by first | assumption | exact not_t (by assumption) | exact not_f (by assumption) | rfl)) (hf : fits N o = true := by rfl) : T N D B env hs (G P ops Q F (f + 1) L) := T.pickT (.dPure ho ht hQ) ho1 hw hf hc hz hx h
theorem D.pf (i : Nat) {F : Phi} {f : Nat} {L : Array Bool} (h : T N D B (ptE o v env) hs (G P ops Q F f (L.setIfInBounds i true))) (ho : ops[i]? = some o := by rfl) (ht : taken ops F L i = true := by kernel_rfl) (hQ : ∀ d v c a w, Q (.panic c) (a.put d v) w → Q (.panic c) a w := by intro d _ _ _ _ h; cases d <;> exact h) (ho1 : o.op = .pick c x y := by rfl) (hc : ev env c = some (.bool z) := by rfl) (hz : z = false := by first | assumption | exact not_t (by assumption) | exact not_f (by assumption) | rfl) (hx : ev env y = some v := by rfl) (hw : wants ops env o true := by first | exact wants0 rfl | exact wants1 rfl rfl rfl (by first | assumption | exact not_t (by assumption) | exact not_f (by assumption) | rfl)) (hf : fits N o = true := by rfl) : T N D B env hs (G P ops Q F (f + 1) L) := T.pickF (.dPure ho ht hQ) ho1 hw hf hc hz hx h
theorem D.fi (i : Nat) {F : Phi} {f : Nat} {L : Array Bool} [hfl : FLD P t n m] (h : T N D B (ptE o (.pointer (some ⟨b, off + m, none⟩)) env) hs (G P ops Q F f (L.setIfInBounds i true))) (ho : ops[i]? = some o := by rfl) (ht : taken ops F L i = true := by kernel_rfl) (hQ : ∀ d v c a w, Q (.panic c) (a.put d v) w → Q (.panic c) a w := by intro d _ _ _ _ h; cases d <;> exact h) (ho1 : o.op = .fieldAddr t x n := by rfl) (hx : ev env x = some (.pointer (some ⟨b, off, none⟩)) := by rfl) (hw : wants ops env o true := by first | exact wants0 rfl | exact wants1 rfl rfl rfl (by first | assumption | exact not_t (by assumption) | exact not_f (by assumption) | rfl)) (hf : fits N o = true := by rfl) : T N D B env hs (G P ops Q F (f + 1) L) := T.field (.dPure ho ht hQ) ho1 hw hf hx h
theorem D.ld (k i : Nat) {F : Phi} {f z : Nat} {S : World → Prop} {L : Array Bool} {o : Oper} (v : Value) (h : T N D B (ptE o v env) hs (G P ops Q F f (L.setIfInBounds i true))) (hk : F[k]? = some (z, S) := by rfl) (ho : ops[i]? = some o := by rfl) (ht : taken ops F L i = true := by kernel_rfl) (hb : behind .any ops z i = true := by kernel_rfl) (hQ : ∀ d v c a w, Q (.panic c) (a.put d v) w → Q (.panic c) a w := by intro d _ _ _ _ h; cases d <;> exact h) (hw : wants ops env o true := by first | exact wants0 rfl | exact wants1 rfl rfl rfl (by first | assumption | exact not_t (by assumption) | exact not_f (by assumption) | rfl)) (hf : fits N o = true := by rfl) (hrun : ∀ a w, Holds env a → S w → (execOp a.eval o).run P w = .ok (.value v) w := by exact run_ldCl rfl rfl rfl) : T N D B env hs (G P ops Q F (f + 1) L) := T.valS k v hk ho ht hb hQ hw hf hrun h
theorem D.on (i : Nat) {F : Phi} {f : Nat} {L : Array Bool} (h : T N D B env hs (Gone P ops Q F f L i)) (hr : Region.ready .any ops L = [i] := by kernel_rfl) : T N D B env hs (G P ops Q F (f + 1) L) := T.dOnly hr h
theorem jn (is : List Nat) (n : Nat) {tl : List MP} {env' : Env} (h : T N D B env' hs' K) (he : EnvLe env env' := by repeat first | exact EnvLe.nil | refine EnvLe.cons rfl ?_) (hk : okIdx is n = true := by rfl) (ht : hs.drop n = tl := by rfl) (hl : n ≤ hs.length := by exact Nat.le_add_left _ _) (e : (is.map fun i => hs.getD i MP.emp) ++ tl = hs' := by rfl) : T N D B env hs K := T.le he (T.pick is n hk ht hl e h)
theorem pk (is : List Nat) (n : Nat) {tl : List MP} (h : T N D B env hs' K) (hk : okIdx is n = true := by rfl) (ht : hs.drop n = tl := by rfl) (hl : n ≤ hs.length := by exact Nat.le_add_left _ _) (e : (is.map fun i => hs.getD i MP.emp) ++ tl = hs' := by rfl) : T N D B env hs K := T.pick is n hk ht hl e h
end
/-- Steps, as far as they go. -/
theorem st {p q : Prop} (h : q) (f : Rest q → p := by
  intro h
  repeat first
    | (with_reducible apply T.then_normal)
    | (with_reducible apply T.nil)
    | (with_reducible apply T.region)
    | (with_reducible apply A.mv)
      · exact rfl
      · exact rfl
    | (with_reducible apply A.mvg)
      · exact rfl
      · exact rfl
      · exact rfl
      · first | assumption | exact not_t (by assumption) | exact not_f (by assumption) | rfl
      · exact rfl
    | (with_reducible apply A.lv)
      · exact rfl
      · exact rfl
      · first | assumption | exact not_t (by assumption) | exact not_f (by assumption) | rfl
      · exact rfl
    | (with_reducible apply A.lvn)
      · exact rfl
      · exact rfl
      · first | assumption | exact not_t (by assumption) | exact not_f (by assumption) | rfl
    | (with_reducible apply A.asg)
      · exact rfl
      · exact rfl
    | (with_reducible apply A.asgg)
      · exact rfl
      · exact rfl
      · exact rfl
      · first | assumption | exact not_t (by assumption) | exact not_f (by assumption) | rfl
      · exact rfl
    | (with_reducible apply A.fi)
      · exact rfl
      · exact rfl
    | (with_reducible apply A.fig)
      · exact rfl
      · exact rfl
      · exact rfl
      · first | assumption | exact not_t (by assumption) | exact not_f (by assumption) | rfl
      · exact rfl
    | (with_reducible apply A.ld)
      · exact rfl
      · first | exact at0 | exact at1 | exact at2 | exact at3 | exact at4 | exact at5 | exact at6 | exact at7 | exact at8 | exact at9 | exact at10 | exact at11 | exact at12 | exact at13 | exact at14 | exact at15
      · exact rfl
      · exact rfl
    | (with_reducible apply A.ldg)
      · exact rfl
      · first | exact at0 | exact at1 | exact at2 | exact at3 | exact at4 | exact at5 | exact at6 | exact at7 | exact at8 | exact at9 | exact at10 | exact at11 | exact at12 | exact at13 | exact at14 | exact at15
      · exact rfl
      · exact rfl
      · exact rfl
      · first | assumption | exact not_t (by assumption) | exact not_f (by assumption) | rfl
      · exact rfl
    | (with_reducible apply A.ldn)
      · exact rfl
      · first | exact at0 | exact at1 | exact at2 | exact at3 | exact at4 | exact at5 | exact at6 | exact at7 | exact at8 | exact at9 | exact at10 | exact at11 | exact at12 | exact at13 | exact at14 | exact at15
      · repeat first | exact SubA.done | apply SubA.take | apply SubA.skip
      · exact rfl
      · exact rfl
    | (with_reducible apply A.ldng)
      · exact rfl
      · first | exact at0 | exact at1 | exact at2 | exact at3 | exact at4 | exact at5 | exact at6 | exact at7 | exact at8 | exact at9 | exact at10 | exact at11 | exact at12 | exact at13 | exact at14 | exact at15
      · repeat first | exact SubA.done | apply SubA.take | apply SubA.skip
      · exact rfl
      · exact rfl
      · exact rfl
      · first | assumption | exact not_t (by assumption) | exact not_f (by assumption) | rfl
      · exact rfl
    | (with_reducible apply A.bi)
      · exact rfl
      · exact rfl
      · exact rfl
      · exact rfl
    | (with_reducible apply A.big)
      · exact rfl
      · exact rfl
      · exact rfl
      · exact rfl
      · exact rfl
      · first | assumption | exact not_t (by assumption) | exact not_f (by assumption) | rfl
      · exact rfl
    | (with_reducible apply A.pf)
      · exact rfl
      · first | assumption | exact not_t (by assumption) | exact not_f (by assumption) | rfl
      · exact rfl
      · exact rfl
    | (with_reducible apply A.pfg)
      · exact rfl
      · first | assumption | exact not_t (by assumption) | exact not_f (by assumption) | rfl
      · exact rfl
      · exact rfl
      · exact rfl
      · first | assumption | exact not_t (by assumption) | exact not_f (by assumption) | rfl
      · exact rfl
    | (with_reducible apply A.pt)
      · exact rfl
      · first | assumption | exact not_t (by assumption) | exact not_f (by assumption) | rfl
      · exact rfl
      · exact rfl
    | (with_reducible apply A.ptg)
      · exact rfl
      · first | assumption | exact not_t (by assumption) | exact not_f (by assumption) | rfl
      · exact rfl
      · exact rfl
      · exact rfl
      · first | assumption | exact not_t (by assumption) | exact not_f (by assumption) | rfl
      · exact rfl
    | (with_reducible apply A.xt)
      · exact rfl
      · exact rfl
      · exact rfl
    | (with_reducible apply A.xtg)
      · exact rfl
      · exact rfl
      · exact rfl
      · exact rfl
      · first | assumption | exact not_t (by assumption) | exact not_f (by assumption) | rfl
      · exact rfl
    | (with_reducible apply A.lu)
      · exact rfl
      · exact rfl
      · exact rfl
    | (with_reducible apply A.lun)
      · exact rfl
      · exact rfl
    | (with_reducible apply A.nc)
      · exact rfl
      · exact rfl
    | (with_reducible apply A.ncg)
      · exact rfl
      · exact rfl
      · exact rfl
      · first | assumption | exact not_t (by assumption) | exact not_f (by assumption) | rfl
      · exact rfl
    | (with_reducible apply A.ls)
      · exact rfl
      · exact rfl
    | (with_reducible apply A.lsg)
      · exact rfl
      · exact rfl
      · exact rfl
      · first | assumption | exact not_t (by assumption) | exact not_f (by assumption) | rfl
      · exact rfl
    | (with_reducible apply A.sto)
      · exact rfl
      · exact rfl
      · first | exact at0 | exact at1 | exact at2 | exact at3 | exact at4 | exact at5 | exact at6 | exact at7 | exact at8 | exact at9 | exact at10 | exact at11 | exact at12 | exact at13 | exact at14 | exact at15
      · exact rfl
      · exact rfl
      · first | exact se0 | exact se1 | exact se2 | exact se3 | exact se4 | exact se5 | exact se6 | exact se7 | exact se8 | exact se9 | exact se10 | exact se11 | exact se12 | exact se13 | exact se14 | exact se15 | exact se16 | exact se17
      · exact rfl
      · first | exact se0 | exact se1 | exact se2 | exact se3 | exact se4 | exact se5 | exact se6 | exact se7 | exact se8 | exact se9 | exact se10 | exact se11 | exact se12 | exact se13 | exact se14 | exact se15 | exact se16 | exact se17
    | (with_reducible apply A.stog)
      · exact rfl
      · exact rfl
      · first | exact at0 | exact at1 | exact at2 | exact at3 | exact at4 | exact at5 | exact at6 | exact at7 | exact at8 | exact at9 | exact at10 | exact at11 | exact at12 | exact at13 | exact at14 | exact at15
      · exact rfl
      · exact rfl
      · first | exact se0 | exact se1 | exact se2 | exact se3 | exact se4 | exact se5 | exact se6 | exact se7 | exact se8 | exact se9 | exact se10 | exact se11 | exact se12 | exact se13 | exact se14 | exact se15 | exact se16 | exact se17
      · exact rfl
      · first | exact se0 | exact se1 | exact se2 | exact se3 | exact se4 | exact se5 | exact se6 | exact se7 | exact se8 | exact se9 | exact se10 | exact se11 | exact se12 | exact se13 | exact se14 | exact se15 | exact se16 | exact se17
      · exact rfl
      · exact rfl
      · first | assumption | exact not_t (by assumption) | exact not_f (by assumption) | rfl
    | (with_reducible apply A.stp)
      · exact rfl
      · exact rfl
      · first | exact at0 | exact at1 | exact at2 | exact at3 | exact at4 | exact at5 | exact at6 | exact at7 | exact at8 | exact at9 | exact at10 | exact at11 | exact at12 | exact at13 | exact at14 | exact at15
      · repeat first | exact SplA.nil | apply SplA.here | apply SplA.skip
      · exact rfl
      · exact rfl
      · first | exact se0 | exact se1 | exact se2 | exact se3 | exact se4 | exact se5 | exact se6 | exact se7 | exact se8 | exact se9 | exact se10 | exact se11 | exact se12 | exact se13 | exact se14 | exact se15 | exact se16 | exact se17
    | (with_reducible apply A.stpg)
      · exact rfl
      · exact rfl
      · first | exact at0 | exact at1 | exact at2 | exact at3 | exact at4 | exact at5 | exact at6 | exact at7 | exact at8 | exact at9 | exact at10 | exact at11 | exact at12 | exact at13 | exact at14 | exact at15
      · repeat first | exact SplA.nil | apply SplA.here | apply SplA.skip
      · exact rfl
      · exact rfl
      · first | exact se0 | exact se1 | exact se2 | exact se3 | exact se4 | exact se5 | exact se6 | exact se7 | exact se8 | exact se9 | exact se10 | exact se11 | exact se12 | exact se13 | exact se14 | exact se15 | exact se16 | exact se17
      · exact rfl
      · exact rfl
      · first | assumption | exact not_t (by assumption) | exact not_f (by assumption) | rfl
    | (with_reducible apply T.then_ret)
    | (with_reducible apply T.in_ret)
    | (with_reducible apply T.ret)
    | (with_reducible apply T.skip)
    | (with_reducible apply T.in_normal)
    | (with_reducible apply T.then_exit)
    | (with_reducible apply T.in_hit)
    | (with_reducible apply T.in_miss)
      · exact rfl
    | (with_reducible apply T.exit)
    | (with_reducible apply T.block)
    | (with_reducible apply T.label)
  exact h.out) : p := f ⟨h⟩
/-- The same, but into no other code. -/
theorem sx {p q : Prop} (h : q) (f : Rest q → p := by
  intro h
  repeat first
    | (with_reducible apply T.then_normal)
    | (with_reducible apply T.nil)
    | (with_reducible apply A.mv)
      · exact rfl
      · exact rfl
    | (with_reducible apply A.mvg)
      · exact rfl
      · exact rfl
      · exact rfl
      · first | assumption | exact not_t (by assumption) | exact not_f (by assumption) | rfl
      · exact rfl
    | (with_reducible apply A.lv)
      · exact rfl
      · exact rfl
      · first | assumption | exact not_t (by assumption) | exact not_f (by assumption) | rfl
      · exact rfl
    | (with_reducible apply A.lvn)
      · exact rfl
      · exact rfl
      · first | assumption | exact not_t (by assumption) | exact not_f (by assumption) | rfl
    | (with_reducible apply A.asg)
      · exact rfl
      · exact rfl
    | (with_reducible apply A.asgg)
      · exact rfl
      · exact rfl
      · exact rfl
      · first | assumption | exact not_t (by assumption) | exact not_f (by assumption) | rfl
      · exact rfl
    | (with_reducible apply A.fi)
      · exact rfl
      · exact rfl
    | (with_reducible apply A.fig)
      · exact rfl
      · exact rfl
      · exact rfl
      · first | assumption | exact not_t (by assumption) | exact not_f (by assumption) | rfl
      · exact rfl
    | (with_reducible apply A.ld)
      · exact rfl
      · first | exact at0 | exact at1 | exact at2 | exact at3 | exact at4 | exact at5 | exact at6 | exact at7 | exact at8 | exact at9 | exact at10 | exact at11 | exact at12 | exact at13 | exact at14 | exact at15
      · exact rfl
      · exact rfl
    | (with_reducible apply A.ldg)
      · exact rfl
      · first | exact at0 | exact at1 | exact at2 | exact at3 | exact at4 | exact at5 | exact at6 | exact at7 | exact at8 | exact at9 | exact at10 | exact at11 | exact at12 | exact at13 | exact at14 | exact at15
      · exact rfl
      · exact rfl
      · exact rfl
      · first | assumption | exact not_t (by assumption) | exact not_f (by assumption) | rfl
      · exact rfl
    | (with_reducible apply A.ldn)
      · exact rfl
      · first | exact at0 | exact at1 | exact at2 | exact at3 | exact at4 | exact at5 | exact at6 | exact at7 | exact at8 | exact at9 | exact at10 | exact at11 | exact at12 | exact at13 | exact at14 | exact at15
      · repeat first | exact SubA.done | apply SubA.take | apply SubA.skip
      · exact rfl
      · exact rfl
    | (with_reducible apply A.ldng)
      · exact rfl
      · first | exact at0 | exact at1 | exact at2 | exact at3 | exact at4 | exact at5 | exact at6 | exact at7 | exact at8 | exact at9 | exact at10 | exact at11 | exact at12 | exact at13 | exact at14 | exact at15
      · repeat first | exact SubA.done | apply SubA.take | apply SubA.skip
      · exact rfl
      · exact rfl
      · exact rfl
      · first | assumption | exact not_t (by assumption) | exact not_f (by assumption) | rfl
      · exact rfl
    | (with_reducible apply A.bi)
      · exact rfl
      · exact rfl
      · exact rfl
      · exact rfl
    | (with_reducible apply A.big)
      · exact rfl
      · exact rfl
      · exact rfl
      · exact rfl
      · exact rfl
      · first | assumption | exact not_t (by assumption) | exact not_f (by assumption) | rfl
      · exact rfl
    | (with_reducible apply A.pf)
      · exact rfl
      · first | assumption | exact not_t (by assumption) | exact not_f (by assumption) | rfl
      · exact rfl
      · exact rfl
    | (with_reducible apply A.pfg)
      · exact rfl
      · first | assumption | exact not_t (by assumption) | exact not_f (by assumption) | rfl
      · exact rfl
      · exact rfl
      · exact rfl
      · first | assumption | exact not_t (by assumption) | exact not_f (by assumption) | rfl
      · exact rfl
    | (with_reducible apply A.pt)
      · exact rfl
      · first | assumption | exact not_t (by assumption) | exact not_f (by assumption) | rfl
      · exact rfl
      · exact rfl
    | (with_reducible apply A.ptg)
      · exact rfl
      · first | assumption | exact not_t (by assumption) | exact not_f (by assumption) | rfl
      · exact rfl
      · exact rfl
      · exact rfl
      · first | assumption | exact not_t (by assumption) | exact not_f (by assumption) | rfl
      · exact rfl
    | (with_reducible apply A.xt)
      · exact rfl
      · exact rfl
      · exact rfl
    | (with_reducible apply A.xtg)
      · exact rfl
      · exact rfl
      · exact rfl
      · exact rfl
      · first | assumption | exact not_t (by assumption) | exact not_f (by assumption) | rfl
      · exact rfl
    | (with_reducible apply A.lu)
      · exact rfl
      · exact rfl
      · exact rfl
    | (with_reducible apply A.lun)
      · exact rfl
      · exact rfl
    | (with_reducible apply A.nc)
      · exact rfl
      · exact rfl
    | (with_reducible apply A.ncg)
      · exact rfl
      · exact rfl
      · exact rfl
      · first | assumption | exact not_t (by assumption) | exact not_f (by assumption) | rfl
      · exact rfl
    | (with_reducible apply A.ls)
      · exact rfl
      · exact rfl
    | (with_reducible apply A.lsg)
      · exact rfl
      · exact rfl
      · exact rfl
      · first | assumption | exact not_t (by assumption) | exact not_f (by assumption) | rfl
      · exact rfl
    | (with_reducible apply A.sto)
      · exact rfl
      · exact rfl
      · first | exact at0 | exact at1 | exact at2 | exact at3 | exact at4 | exact at5 | exact at6 | exact at7 | exact at8 | exact at9 | exact at10 | exact at11 | exact at12 | exact at13 | exact at14 | exact at15
      · exact rfl
      · exact rfl
      · first | exact se0 | exact se1 | exact se2 | exact se3 | exact se4 | exact se5 | exact se6 | exact se7 | exact se8 | exact se9 | exact se10 | exact se11 | exact se12 | exact se13 | exact se14 | exact se15 | exact se16 | exact se17
      · exact rfl
      · first | exact se0 | exact se1 | exact se2 | exact se3 | exact se4 | exact se5 | exact se6 | exact se7 | exact se8 | exact se9 | exact se10 | exact se11 | exact se12 | exact se13 | exact se14 | exact se15 | exact se16 | exact se17
    | (with_reducible apply A.stog)
      · exact rfl
      · exact rfl
      · first | exact at0 | exact at1 | exact at2 | exact at3 | exact at4 | exact at5 | exact at6 | exact at7 | exact at8 | exact at9 | exact at10 | exact at11 | exact at12 | exact at13 | exact at14 | exact at15
      · exact rfl
      · exact rfl
      · first | exact se0 | exact se1 | exact se2 | exact se3 | exact se4 | exact se5 | exact se6 | exact se7 | exact se8 | exact se9 | exact se10 | exact se11 | exact se12 | exact se13 | exact se14 | exact se15 | exact se16 | exact se17
      · exact rfl
      · first | exact se0 | exact se1 | exact se2 | exact se3 | exact se4 | exact se5 | exact se6 | exact se7 | exact se8 | exact se9 | exact se10 | exact se11 | exact se12 | exact se13 | exact se14 | exact se15 | exact se16 | exact se17
      · exact rfl
      · exact rfl
      · first | assumption | exact not_t (by assumption) | exact not_f (by assumption) | rfl
    | (with_reducible apply A.stp)
      · exact rfl
      · exact rfl
      · first | exact at0 | exact at1 | exact at2 | exact at3 | exact at4 | exact at5 | exact at6 | exact at7 | exact at8 | exact at9 | exact at10 | exact at11 | exact at12 | exact at13 | exact at14 | exact at15
      · repeat first | exact SplA.nil | apply SplA.here | apply SplA.skip
      · exact rfl
      · exact rfl
      · first | exact se0 | exact se1 | exact se2 | exact se3 | exact se4 | exact se5 | exact se6 | exact se7 | exact se8 | exact se9 | exact se10 | exact se11 | exact se12 | exact se13 | exact se14 | exact se15 | exact se16 | exact se17
    | (with_reducible apply A.stpg)
      · exact rfl
      · exact rfl
      · first | exact at0 | exact at1 | exact at2 | exact at3 | exact at4 | exact at5 | exact at6 | exact at7 | exact at8 | exact at9 | exact at10 | exact at11 | exact at12 | exact at13 | exact at14 | exact at15
      · repeat first | exact SplA.nil | apply SplA.here | apply SplA.skip
      · exact rfl
      · exact rfl
      · first | exact se0 | exact se1 | exact se2 | exact se3 | exact se4 | exact se5 | exact se6 | exact se7 | exact se8 | exact se9 | exact se10 | exact se11 | exact se12 | exact se13 | exact se14 | exact se15 | exact se16 | exact se17
      · exact rfl
      · exact rfl
      · first | assumption | exact not_t (by assumption) | exact not_f (by assumption) | rfl
    | (with_reducible apply T.then_ret)
    | (with_reducible apply T.in_ret)
    | (with_reducible apply T.in_normal)
    | (with_reducible apply T.then_exit)
    | (with_reducible apply T.in_hit)
    | (with_reducible apply T.in_miss)
      · exact rfl
  exact h.out) : p := f ⟨h⟩
/-- The same, into what stands one behind the other. -/
theorem sq {p q : Prop} (h : q) (f : Rest q → p := by
  intro h
  repeat first
    | (with_reducible apply T.seq)
    | (with_reducible apply T.then_normal)
    | (with_reducible apply T.nil)
    | (with_reducible apply T.region)
    | (with_reducible apply A.mv)
      · exact rfl
      · exact rfl
    | (with_reducible apply A.mvg)
      · exact rfl
      · exact rfl
      · exact rfl
      · first | assumption | exact not_t (by assumption) | exact not_f (by assumption) | rfl
      · exact rfl
    | (with_reducible apply A.lv)
      · exact rfl
      · exact rfl
      · first | assumption | exact not_t (by assumption) | exact not_f (by assumption) | rfl
      · exact rfl
    | (with_reducible apply A.lvn)
      · exact rfl
      · exact rfl
      · first | assumption | exact not_t (by assumption) | exact not_f (by assumption) | rfl
    | (with_reducible apply A.asg)
      · exact rfl
      · exact rfl
    | (with_reducible apply A.asgg)
      · exact rfl
      · exact rfl
      · exact rfl
      · first | assumption | exact not_t (by assumption) | exact not_f (by assumption) | rfl
      · exact rfl
    | (with_reducible apply A.fi)
      · exact rfl
      · exact rfl
    | (with_reducible apply A.fig)
      · exact rfl
      · exact rfl
      · exact rfl
      · first | assumption | exact not_t (by assumption) | exact not_f (by assumption) | rfl
      · exact rfl
    | (with_reducible apply A.ld)
      · exact rfl
      · first | exact at0 | exact at1 | exact at2 | exact at3 | exact at4 | exact at5 | exact at6 | exact at7 | exact at8 | exact at9 | exact at10 | exact at11 | exact at12 | exact at13 | exact at14 | exact at15
      · exact rfl
      · exact rfl
    | (with_reducible apply A.ldg)
      · exact rfl
      · first | exact at0 | exact at1 | exact at2 | exact at3 | exact at4 | exact at5 | exact at6 | exact at7 | exact at8 | exact at9 | exact at10 | exact at11 | exact at12 | exact at13 | exact at14 | exact at15
      · exact rfl
      · exact rfl
      · exact rfl
      · first | assumption | exact not_t (by assumption) | exact not_f (by assumption) | rfl
      · exact rfl
    | (with_reducible apply A.ldn)
      · exact rfl
      · first | exact at0 | exact at1 | exact at2 | exact at3 | exact at4 | exact at5 | exact at6 | exact at7 | exact at8 | exact at9 | exact at10 | exact at11 | exact at12 | exact at13 | exact at14 | exact at15
      · repeat first | exact SubA.done | apply SubA.take | apply SubA.skip
      · exact rfl
      · exact rfl
    | (with_reducible apply A.ldng)
      · exact rfl
      · first | exact at0 | exact at1 | exact at2 | exact at3 | exact at4 | exact at5 | exact at6 | exact at7 | exact at8 | exact at9 | exact at10 | exact at11 | exact at12 | exact at13 | exact at14 | exact at15
      · repeat first | exact SubA.done | apply SubA.take | apply SubA.skip
      · exact rfl
      · exact rfl
      · exact rfl
      · first | assumption | exact not_t (by assumption) | exact not_f (by assumption) | rfl
      · exact rfl
    | (with_reducible apply A.bi)
      · exact rfl
      · exact rfl
      · exact rfl
      · exact rfl
    | (with_reducible apply A.big)
      · exact rfl
      · exact rfl
      · exact rfl
      · exact rfl
      · exact rfl
      · first | assumption | exact not_t (by assumption) | exact not_f (by assumption) | rfl
      · exact rfl
    | (with_reducible apply A.pf)
      · exact rfl
      · first | assumption | exact not_t (by assumption) | exact not_f (by assumption) | rfl
      · exact rfl
      · exact rfl
    | (with_reducible apply A.pfg)
      · exact rfl
      · first | assumption | exact not_t (by assumption) | exact not_f (by assumption) | rfl
      · exact rfl
      · exact rfl
      · exact rfl
      · first | assumption | exact not_t (by assumption) | exact not_f (by assumption) | rfl
      · exact rfl
    | (with_reducible apply A.pt)
      · exact rfl
      · first | assumption | exact not_t (by assumption) | exact not_f (by assumption) | rfl
      · exact rfl
      · exact rfl
    | (with_reducible apply A.ptg)
      · exact rfl
      · first | assumption | exact not_t (by assumption) | exact not_f (by assumption) | rfl
      · exact rfl
      · exact rfl
      · exact rfl
      · first | assumption | exact not_t (by assumption) | exact not_f (by assumption) | rfl
      · exact rfl
    | (with_reducible apply A.xt)
      · exact rfl
      · exact rfl
      · exact rfl
    | (with_reducible apply A.xtg)
      · exact rfl
      · exact rfl
      · exact rfl
      · exact rfl
      · first | assumption | exact not_t (by assumption) | exact not_f (by assumption) | rfl
      · exact rfl
    | (with_reducible apply A.lu)
      · exact rfl
      · exact rfl
      · exact rfl
    | (with_reducible apply A.lun)
      · exact rfl
      · exact rfl
    | (with_reducible apply A.nc)
      · exact rfl
      · exact rfl
    | (with_reducible apply A.ncg)
      · exact rfl
      · exact rfl
      · exact rfl
      · first | assumption | exact not_t (by assumption) | exact not_f (by assumption) | rfl
      · exact rfl
    | (with_reducible apply A.ls)
      · exact rfl
      · exact rfl
    | (with_reducible apply A.lsg)
      · exact rfl
      · exact rfl
      · exact rfl
      · first | assumption | exact not_t (by assumption) | exact not_f (by assumption) | rfl
      · exact rfl
    | (with_reducible apply A.sto)
      · exact rfl
      · exact rfl
      · first | exact at0 | exact at1 | exact at2 | exact at3 | exact at4 | exact at5 | exact at6 | exact at7 | exact at8 | exact at9 | exact at10 | exact at11 | exact at12 | exact at13 | exact at14 | exact at15
      · exact rfl
      · exact rfl
      · first | exact se0 | exact se1 | exact se2 | exact se3 | exact se4 | exact se5 | exact se6 | exact se7 | exact se8 | exact se9 | exact se10 | exact se11 | exact se12 | exact se13 | exact se14 | exact se15 | exact se16 | exact se17
      · exact rfl
      · first | exact se0 | exact se1 | exact se2 | exact se3 | exact se4 | exact se5 | exact se6 | exact se7 | exact se8 | exact se9 | exact se10 | exact se11 | exact se12 | exact se13 | exact se14 | exact se15 | exact se16 | exact se17
    | (with_reducible apply A.stog)
      · exact rfl
      · exact rfl
      · first | exact at0 | exact at1 | exact at2 | exact at3 | exact at4 | exact at5 | exact at6 | exact at7 | exact at8 | exact at9 | exact at10 | exact at11 | exact at12 | exact at13 | exact at14 | exact at15
      · exact rfl
      · exact rfl
      · first | exact se0 | exact se1 | exact se2 | exact se3 | exact se4 | exact se5 | exact se6 | exact se7 | exact se8 | exact se9 | exact se10 | exact se11 | exact se12 | exact se13 | exact se14 | exact se15 | exact se16 | exact se17
      · exact rfl
      · first | exact se0 | exact se1 | exact se2 | exact se3 | exact se4 | exact se5 | exact se6 | exact se7 | exact se8 | exact se9 | exact se10 | exact se11 | exact se12 | exact se13 | exact se14 | exact se15 | exact se16 | exact se17
      · exact rfl
      · exact rfl
      · first | assumption | exact not_t (by assumption) | exact not_f (by assumption) | rfl
    | (with_reducible apply A.stp)
      · exact rfl
      · exact rfl
      · first | exact at0 | exact at1 | exact at2 | exact at3 | exact at4 | exact at5 | exact at6 | exact at7 | exact at8 | exact at9 | exact at10 | exact at11 | exact at12 | exact at13 | exact at14 | exact at15
      · repeat first | exact SplA.nil | apply SplA.here | apply SplA.skip
      · exact rfl
      · exact rfl
      · first | exact se0 | exact se1 | exact se2 | exact se3 | exact se4 | exact se5 | exact se6 | exact se7 | exact se8 | exact se9 | exact se10 | exact se11 | exact se12 | exact se13 | exact se14 | exact se15 | exact se16 | exact se17
    | (with_reducible apply A.stpg)
      · exact rfl
      · exact rfl
      · first | exact at0 | exact at1 | exact at2 | exact at3 | exact at4 | exact at5 | exact at6 | exact at7 | exact at8 | exact at9 | exact at10 | exact at11 | exact at12 | exact at13 | exact at14 | exact at15
      · repeat first | exact SplA.nil | apply SplA.here | apply SplA.skip
      · exact rfl
      · exact rfl
      · first | exact se0 | exact se1 | exact se2 | exact se3 | exact se4 | exact se5 | exact se6 | exact se7 | exact se8 | exact se9 | exact se10 | exact se11 | exact se12 | exact se13 | exact se14 | exact se15 | exact se16 | exact se17
      · exact rfl
      · exact rfl
      · first | assumption | exact not_t (by assumption) | exact not_f (by assumption) | rfl
    | (with_reducible apply T.then_ret)
    | (with_reducible apply T.in_ret)
    | (with_reducible apply T.ret)
    | (with_reducible apply T.skip)
    | (with_reducible apply T.in_normal)
    | (with_reducible apply T.then_exit)
    | (with_reducible apply T.in_hit)
    | (with_reducible apply T.in_miss)
      · exact rfl
    | (with_reducible apply T.exit)
    | (with_reducible apply T.block)
    | (with_reducible apply T.label)
  exact h.out) : p := f ⟨h⟩
theorem br {α : Type} {b : Bool} {x y : Option α} {r : α} {p : Prop} (hr : (if b = true then x else y) = some r) (ht : b = true → x = some r → p) (hf : b = false → y = some r → p) : p := by
  cases b with
  | true => exact ht rfl hr
  | false => exact hf rfl hr
theorem A.cd {P : Program} {N : Nat} {D : List Deferred} {B : World} {env : Env} {hs : List MP} {Q : Exit → Act → World → Prop} {α : Type} {b : Bool} {x y : Option α} {r : α} {c : Operand} {k l : Code} (hr : (if b = true then x else y) = some r) (hc : ev env c = some (.bool b)) (ht : b = true → x = some r → T N D B env hs (k.wp P Q)) (hf : b = false → y = some r → T N D B env hs (l.wp P Q)) : T N D B env hs ((Code.cond c k l).wp P Q) :=
  br hr (fun h1 h2 => T.cond hc (fun _ => ht h1 h2) (fun e => by rw [h1] at e; cases e)) (fun h1 h2 => T.cond hc (fun e => by rw [h1] at e; cases e) (fun _ => hf h1 h2))
end Go.Proofs.YtpogdeibkghhaaaDoor
