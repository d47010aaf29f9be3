/- The operations that only compute: one rule each. -/
import Derived.Test.YtpogdeibkghhaaaDoorTr
import Derived.Laws.Concat
import Derived.Laws.Entries
import Derived.Laws.IdiomStrings
set_option linter.unusedVariables false
set_option linter.unusedSimpArgs false
namespace Go.Proofs.YtpogdeibkghhaaaDoor
open Go.RowKit

theorem beq_dec {α : Type} [BEq α] [LawfulBEq α] [DecidableEq α] (a b : α) : (a == b) = decide (a = b) := by rw [Bool.eq_iff_iff]; simp
def bitsOf (op : BinOp) (k : IntKind) (x y : Int) : Int :=
  match op with
  | .and => k.wrap (BitVec.ofInt k.bits x &&& BitVec.ofInt k.bits y).toNat
  | .or => k.wrap (BitVec.ofInt k.bits x ||| BitVec.ofInt k.bits y).toNat
  | .xor => k.wrap (BitVec.ofInt k.bits x ^^^ BitVec.ofInt k.bits y).toNat
  | _ => k.wrap (BitVec.ofInt k.bits x &&& ~~~ BitVec.ofInt k.bits y).toNat
def shlI (k : IntKind) (x y : Int) : Int := k.wrap (x * 2 ^ (min y.toNat k.bits))
def shrI (k : IntKind) (x y : Int) : Int := x.fdiv (2 ^ (min y.toNat k.bits))
def str (l : List UInt8) : Value := .string ⟨l.toArray⟩
def b8 (x : UInt8) : Value := .int .u8 (x.toNat : Int)
/-- What an operator yields on whole numbers and truths. -/
def binV : BinOp → Value → Value → Option Value
  | .add, .int k a, .int k' b => if k = k' then some (.int k (k.wrap (a + b))) else none
  | .sub, .int k a, .int k' b => if k = k' then some (.int k (k.wrap (a - b))) else none
  | .mul, .int k a, .int k' b => if k = k' then some (.int k (k.wrap (a * b))) else none
  | .and, .int k a, .int k' b => if k = k' then some (.int k (bitsOf .and k a b)) else none
  | .or, .int k a, .int k' b => if k = k' then some (.int k (bitsOf .or k a b)) else none
  | .xor, .int k a, .int k' b => if k = k' then some (.int k (bitsOf .xor k a b)) else none
  | .andNot, .int k a, .int k' b => if k = k' then some (.int k (bitsOf .andNot k a b)) else none
  | .eql, .int k a, .int k' b => if k = k' then some (.bool (decide (a = b))) else none
  | .neq, .int k a, .int k' b => if k = k' then some (.bool (!decide (a = b))) else none
  | .lss, .int k a, .int k' b => if k = k' then some (.bool (decide (a < b))) else none
  | .leq, .int k a, .int k' b => if k = k' then some (.bool (decide (a ≤ b))) else none
  | .gtr, .int k a, .int k' b => if k = k' then some (.bool (decide (b < a))) else none
  | .geq, .int k a, .int k' b => if k = k' then some (.bool (decide (b ≤ a))) else none
  | _, _, _ => none
theorem binV_run {P : Program} {op : BinOp} {t : TypeId} {x y : Operand} {u v r : Value} (h : binV op u v = some r) (w : World) : (do eqGuard op t x y u v; binOp op t u v : Sem Value).run P w = .ok r w := by
  unfold binV at h
  split at h <;> first
    | cases h
    | (split at h
       · cases h
         subst_vars
         rw [eqGuard_at_int]
         simp [binOp, Op.intArith, Op.intBits, Op.intCmp, bitsOf, bne, beq_dec]
       · cases h)

section
variable {P : Program} {N : Nat} {D : List Deferred} {B : World} {env : Env} {hs : List MP} {Q : Exit → Act → World → Prop}
variable {ops : Array Oper} {rest : List Oper} {o : Oper} {Kn Kr : Act → World → Prop} {kd : Nat} {x y c : Operand} {v u r : Value} {t yt : TypeId} {k : IntKind} {a b : Int} {n m : Nat} {op : BinOp}

theorem T.move (cx : Cx P ops Q o Kn Kr kd) (ho : o.op = .move x) (hw : wants ops env o true) (hf : fits N o = true) (hx : ev env x = some v) (h : T N D B (ptE o v env) hs Kr) : T N D B env hs Kn :=
  T.valP cx v hw hf (fun a w h3 => by simp [execOp, ho, h3.eval hx]) h
theorem T.assign (cx : Cx P ops Q o Kn Kr kd) (ho : o.op = .assign x) (hw : wants ops env o true) (hf : fits N o = true) (hx : ev env x = some v) (h : T N D B (ptE o v env) hs Kr) : T N D B env hs Kn :=
  T.valP cx v hw hf (fun a w h3 => by simp [execOp, ho, h3.eval hx]) h
theorem T.pickOp (cx : Cx P ops Q o Kn Kr kd) {z : Bool} (ho : o.op = .pick c x y) (hw : wants ops env o true) (hf : fits N o = true) (hc : ev env c = some (.bool z)) (hx : ev env (if z then x else y) = some v) (h : T N D B (ptE o v env) hs Kr) : T N D B env hs Kn :=
  T.valP cx v hw hf (fun a w h3 => by
    have e := h3.eval hx
    cases z <;> simp_all [execOp, h3.eval hc, asBool]) h
theorem T.bin' (cx : Cx P ops Q o Kn Kr kd) (ho : o.op = .binOp op t x y yt) (hw : wants ops env o true) (hf : fits N o = true) (hx : ev env x = some v) (hy : ev env y = some u)
    (hr : ∀ w, (do eqGuard op t x y v u; binOp op t v u : Sem Value).run P w = .ok r w) (h : T N D B (ptE o r env) hs Kr) : T N D B env hs Kn :=
  T.valP cx r hw hf (fun a w h3 => by
    have := hr w
    simp only [execOp, ho, h3.eval hx, h3.eval hy]
    rw [Sem.run_bind, this]
    rfl) h
theorem T.bin (cx : Cx P ops Q o Kn Kr kd) (ho : o.op = .binOp op t x y yt) (hw : wants ops env o true) (hf : fits N o = true) (hx : ev env x = some v) (hy : ev env y = some u)
    (hr : binV op v u = some r) (h : T N D B (ptE o r env) hs Kr) : T N D B env hs Kn :=
  T.bin' cx ho hw hf hx hy (fun w => binV_run hr w) h
theorem T.shl (cx : Cx P ops Q o Kn Kr kd) {k' : IntKind} (ho : o.op = .binOp .shl t x y yt) (hw : wants ops env o true) (hf : fits N o = true) (hx : ev env x = some (.int k a)) (hy : ev env y = some (.int k' b)) (hb : 0 ≤ b)
    (h : T N D B (ptE o (.int k (shlI k a b)) env) hs Kr) : T N D B env hs Kn :=
  T.bin' cx ho hw hf hx hy (fun w => by rw [eqGuard_at_int]; simp [binOp, Op.shift, shlI, Int.not_lt.2 hb]) h
theorem T.shr (cx : Cx P ops Q o Kn Kr kd) {k' : IntKind} (ho : o.op = .binOp .shr t x y yt) (hw : wants ops env o true) (hf : fits N o = true) (hx : ev env x = some (.int k a)) (hy : ev env y = some (.int k' b)) (hb : 0 ≤ b)
    (h : T N D B (ptE o (.int k (shrI k a b)) env) hs Kr) : T N D B env hs Kn :=
  T.bin' cx ho hw hf hx hy (fun w => by rw [eqGuard_at_int]; simp [binOp, Op.shift, shrI, Int.not_lt.2 hb]) h
theorem T.not (cx : Cx P ops Q o Kn Kr kd) {z : Bool} (ho : o.op = .unOp .not t x) (hw : wants ops env o true) (hf : fits N o = true) (hx : ev env x = some (.bool z)) (h : T N D B (ptE o (.bool (!z)) env) hs Kr) : T N D B env hs Kn :=
  T.valP cx _ hw hf (fun a w h3 => by simp [execOp, ho, h3.eval hx, Op.unary]) h
/-- What the program's table says of a type. -/
class TI (P : Program) (T : TypeId) (size bytes : outParam Nat) (agg : outParam Bool) (zero : outParam Value) : Prop where
  info : (P.info? T).map (fun i => (i.zero, i.size, i.bytes)) = some (some zero, size, bytes)
  row : (P.underlying T).map TypeDesc.isRow = some agg
  zsize : zero.cells.size = size
class FLD (P : Program) (T : TypeId) (f : Nat) (off : outParam Nat) : Prop where
  eq : ∀ (w : World) (b o : Nat), (Instr.fieldAt T (.pointer (some ⟨b, o, none⟩)) f).run P w = .ok (.pointer (some ⟨b, o + off, none⟩)) w
class SL (P : Program) (T : TypeId) (e : outParam TypeId) : Prop where
  eq : P.underlying T = some (.slice e)
class ARR (P : Program) (T : TypeId) (n : outParam Nat) (e : outParam TypeId) : Prop where
  eq : P.underlying T = some (.array n e)
class SF (P : Program) (T : TypeId) (fs : outParam (List (TypeId × Nat))) : Prop where
  eq : (match P.underlying T with | some (.struct a) => some (a.toList.map fun f => (f.type, f.offset)) | _ => none) = some fs
class INT (P : Program) (T : TypeId) (k : outParam IntKind) : Prop where
  eq : P.underlying T = some (.int k)
class STR (P : Program) (T : TypeId) : Prop where
  eq : P.underlying T = some .string
class MPT (P : Program) (T : TypeId) (k e : outParam TypeId) : Prop where
  eq : P.underlying T = some (.map k e)

theorem T.conv (cx : Cx P ops Q o Kn Kr kd) {src dst : TypeId} [hi : INT P dst k] {k' : IntKind} (ho : o.op = .convert src dst x) (hw : wants ops env o true) (hf : fits N o = true) (hx : ev env x = some (.int k' a)) (hs' : (P.underlying src).isSome = true) (h : T N D B (ptE o (.int k (k.wrap a)) env) hs Kr) : T N D B env hs Kn :=
  T.valP cx _ hw hf (fun a w h3 => by
    obtain ⟨ds, hds⟩ := Option.isSome_iff_exists.1 hs'
    simp only [execOp, ho, h3.eval hx, convert, Sem.run_bind, run_underlying hds, run_underlying hi.eq, Result.andThen_ok]
    cases ds <;> rfl) h
theorem T.extract (cx : Cx P ops Q o Kn Kr kd) {vs : Array Value} {i : Nat} (ho : o.op = .extract x i) (hw : wants ops env o true) (hf : fits N o = true) (hx : ev env x = some (.tuple vs)) (hv : vs[i]? = some v) (h : T N D B (ptE o v env) hs Kr) : T N D B env hs Kn :=
  T.valP cx v hw hf (fun a w h3 => by simp [execOp, ho, h3.eval hx, Instr.extract, hv]) h
theorem T.nilCheck (cx : Cx P ops Q o Kn Kr kd) {ad : Addr} (ho : o.op = .nilCheck x) (hw : wants ops env o true) (hf : fits N o = true) (hx : ev env x = some (.pointer (some ad))) (h : T N D B (ptE o (.pointer (some ad)) env) hs Kr) : T N D B env hs Kn :=
  T.valP cx _ hw hf (fun a w h3 => by simp [execOp, ho, h3.eval hx]) h
theorem T.lenSlice (cx : Cx P ops Q o Kn Kr kd) {A : Option Addr} {cap : Nat} {e at' : TypeId} [hsl : SL P at' e] (ho : o.op = .call { callee := .builtin .len, args := #[x], argTypes := #[at'] }) (hw : wants ops env o true) (hf : fits N o = true) (hx : ev env x = some (.slice A n cap)) (h : T N D B (ptE o (.int .i64 (n : Int)) env) hs Kr) : T N D B env hs Kn :=
  T.valP cx _ hw hf (fun a w h3 => by
    simp only [execOp, ho, resolve, invoke, builtin, Builtin.len_, Sem.run_bind, Sem.run_pure, Result.andThen_ok, List.map_toArray, List.map_cons, List.map_nil, h3.eval hx, run_underlying hsl.eq, goInt, List.getElem?_toArray, List.getElem?_cons_zero]) h
theorem T.lenStr (cx : Cx P ops Q o Kn Kr kd) {l : List UInt8} {at' : TypeId} [hst : STR P at'] (ho : o.op = .call { callee := .builtin .len, args := #[x], argTypes := #[at'] }) (hw : wants ops env o true) (hf : fits N o = true) (hx : ev env x = some (str l)) (h : T N D B (ptE o (.int .i64 (l.length : Int)) env) hs Kr) : T N D B env hs Kn :=
  T.valP cx _ hw hf (fun a w h3 => by
    simp only [execOp, ho, resolve, invoke, builtin, Builtin.len_, Sem.run_bind, Sem.run_pure, Result.andThen_ok, List.map_toArray, List.map_cons, List.map_nil, h3.eval hx, str, run_underlying hst.eq, goInt, List.getElem?_toArray, List.getElem?_cons_zero]
    rfl) h
theorem T.min2 (cx : Cx P ops Q o Kn Kr kd) {at' : Array TypeId} (ho : o.op = .call { callee := .builtin .min, args := #[x, y], argTypes := at' }) (hw : wants ops env o true) (hf : fits N o = true) (hx : ev env x = some (.int k a)) (hy : ev env y = some (.int k b)) (h : T N D B (ptE o (.int k (min a b)) env) hs Kr) : T N D B env hs Kn :=
  T.valP cx _ hw hf (fun a w h3 => by
    simp only [execOp, ho, resolve, invoke, builtin, Builtin.min_, Sem.run_bind, Sem.run_pure, Result.andThen_ok, List.map_toArray, List.map_cons, List.map_nil, h3.eval hx, h3.eval hy, List.foldlM_cons, List.foldlM_nil, Builtin.min2, Int.min_def]
    congr 3
    split <;> split <;> omega) h
theorem T.mkIface (cx : Cx P ops Q o Kn Kr kd) {d : TypeDesc} (ho : o.op = .makeInterface t x) (hw : wants ops env o true) (hf : fits N o = true) (hx : ev env x = some v) (ht : P.underlying t = some d) (hd : (match d with | .interface _ => false | _ => true) = true) (h : T N D B (ptE o (.iface t v) env) hs Kr) : T N D B env hs Kn :=
  T.valP cx _ hw hf (fun a w h3 => by
    simp only [execOp, ho, h3.eval hx, Instr.makeInterface, Sem.run_bind, run_underlying ht, Result.andThen_ok]
    cases d <;> first | rfl | cases hd) h
/-! ### Texts -/
theorem bytes_toList (l : List UInt8) : (ByteArray.mk l.toArray).toList = l := by
  have : ∀ (b : ByteArray), b.toList = b.data.toList := fun b => ByteArray.toList_eq b
  rw [this]
theorem T.strEq (cx : Cx P ops Q o Kn Kr kd) {l l' : List UInt8} (ho : o.op = .binOp .eql t x y yt) (hw : wants ops env o true) (hf : fits N o = true) (hx : ev env x = some (str l)) (hy : ev env y = some (str l')) (h : T N D B (ptE o (.bool (decide (l = l'))) env) hs Kr) : T N D B env hs Kn :=
  T.bin' cx ho hw hf hx hy (fun w => by unfold str; rw [eqGuard_at_string]; simp [binOp, Op.stringOp, bytes_toList, beq_dec]) h
theorem T.strNe (cx : Cx P ops Q o Kn Kr kd) {l l' : List UInt8} (ho : o.op = .binOp .neq t x y yt) (hw : wants ops env o true) (hf : fits N o = true) (hx : ev env x = some (str l)) (hy : ev env y = some (str l')) (h : T N D B (ptE o (.bool (!decide (l = l'))) env) hs Kr) : T N D B env hs Kn :=
  T.bin' cx ho hw hf hx hy (fun w => by unfold str; rw [eqGuard_at_string]; simp [binOp, Op.stringOp, bytes_toList, beq_dec]) h
end
end Go.Proofs.YtpogdeibkghhaaaDoor
