/- Bound methods. -/
import Derived.Test.YthacklkmngfniaaClone
set_option linter.unusedVariables false
set_option linter.unusedSimpArgs false
set_option linter.unusedSectionVars false
namespace Go.Proofs.Ythacklkmngfniaa
open Go.RowKit
section
variable {P : Program} {N : Nat} {D : List Deferred} {B : World} {env : Env} {hs : List MP} {ops : Array Oper} {Q : Exit → Act → World → Prop} {Kn Kr : Act → World → Prop} {o : Oper} {kd : Nat}
/-- A method value: it holds its receiver. -/
theorem T.makeBound (cx : Cx P ops Q o Kn Kr kd) {f : FuncId} {xs : List Operand} {vs : List Value} (ho : o.op = .makeFunc (.func f) xs.toArray #[]) (hw : wants ops env o true) (hf : fits N o = true) (hx : xs.map (ev env) = vs.map some)
    (h : T N D B (ptE o (.func (.func f) vs.toArray #[]) env) hs Kr) : T N D B env hs Kn :=
  T.valP cx (.func (.func f) vs.toArray #[]) hw hf (fun a w h3 => by
    have e := map_eval h3 xs vs hx
    simp [execOp, ho, Instr.makeFunc, e]) h
theorem run_callB {f : FuncId} {fn : Func} {g : Operand} {xs : List Operand} {ats : Array TypeId} {vs first args : List Value} (ho : o.op = .call { callee := .value g, args := xs.toArray, argTypes := ats }) (hg : ev env g = some (.func (.func f) first.toArray #[])) (hf : P.funcs[f]? = some fn) (hb : fn.body.isSome = true) (hn : (fn.name == "runtime.NumGoroutine") = false)
    (hx : xs.map (ev env) = vs.map some) (ha : first ++ vs = args) : ∀ a w, Holds env a → (execOp a.eval o).run P w = .ok (.enter f args.toArray) w := by
  intro a w h3
  subst ha
  have e := map_eval h3 xs vs hx
  have hn' : ¬ fn.name = "runtime.NumGoroutine" := by simpa using hn
  have hb' : ¬ fn.body = none := by intro h; simp [h] at hb
  simp [execOp, ho, resolve, Deferred.ofValue, invoke, callFunc, h3.eval hg, e, hf, hn', hb']
/-- The place of a part of an array, where its number is known. -/
theorem T.idxArrC (cx : Cx P ops Q o Kn Kr kd) {x y : Operand} {t e : TypeId} {k : IntKind} {size bytes : Nat} {agg : Bool} {zero : Value} {b : Nat} {n : Nat} {off off' c : Nat} {j : Int} [har : ARR P t n e] [ht : TI P e size bytes agg zero] (ho : o.op = .indexAddr t x y) (hw : wants ops env o true) (hf : fits N o = true) (hx : ev env x = some (.pointer (some ⟨b, off, none⟩))) (hy : ev env y = some (.int k j)) (h0 : 0 ≤ j) (h1 : j < (n : Int)) (hj : j = (c : Int)) (he : off + c * size = off')
    (h : T N D B (ptE o (.pointer (some ⟨b, off', none⟩)) env) hs Kr) : T N D B env hs Kn :=
  T.idxArr cx ho hw hf hx hy h0 h1 (by subst hj; rw [Int.toNat_natCast, he]; exact h)
end
end Go.Proofs.Ythacklkmngfniaa
