/- Arrays of structs that hold what is never written again: a region like a buffer. -/
import Derived.Test.YtdojooblfemmnaaDoorClone
set_option linter.unusedVariables false
set_option linter.unusedSimpArgs false
set_option linter.unusedSectionVars false
namespace Go.Proofs.YtdojooblfemmnaaDoor
open Go.RowKit
section
variable {P : Program} {N : Nat} {D : List Deferred} {B : World} {env : Env} {hs : List MP} {Q : Exit → Act → World → Prop} {w : World}
variable {ops : Array Oper} {rest : List Oper} {o : Oper} {Kn Kr : Act → World → Prop} {kd : Nat} {x y c : Operand} {v u r : Value} {t e : TypeId} {k : IntKind} {i n m : Nat}
variable {size bytes : Nat} {agg : Bool} {zero : Value} {α : Type} {E : Elt α} {b : Nat}
theorem Encs.reps {z : PH} {z0 : α} {cs0 : List Value} (hE : E.E z z0 cs0) : ∀ n, Encs E z (List.replicate n z0) (List.replicate n cs0).flatten
  | 0 => rfl
  | n + 1 => ⟨cs0, _, by rw [List.replicate_succ, List.flatten_cons], hE, Encs.reps hE n⟩
theorem T.allocArrS (n : Nat) (E : Elt α) (z0 : α) (cs0 : List Value) (cx : Cx P ops Q o Kn Kr (kd + 2)) [ht : TI P t size bytes agg zero] (ho : o.op = .alloc t) (hw : wants ops env o true) (hf : fits N o = true)
    (hc : zero.cells.toList = (List.replicate n cs0).flatten) (hE : ∀ z, E.E z z0 cs0) (hn : n ≤ maxLen)
    (h : ∀ b, T N D B (ptE o (.pointer (some ⟨b, 0, none⟩)) env) (Bf E t (some ⟨b, 0, none⟩) n (List.replicate n z0) :: hs) Kr) : T N D B env hs Kn :=
  T.alloc cx ho hw hf (fun b => by
    rw [hc]
    exact T.st (fun w hS => hS.conseq (A' := Bf E t (some ⟨b, 0, none⟩) n (List.replicate n z0)) 0 rfl fun z h hp => by
      have := Encs.length (Encs.reps (hE z) n)
      have hp : h = PH.one b (.cells ((List.replicate n cs0).flatten).toArray t (0, 0)) := hp
      refine .inr ⟨b, _, [], rfl, Encs.reps (hE z) n, by simpa using this, hn, ?_⟩
      rw [List.append_nil]; exact hp) (h b))
theorem T.idxArrE (cx : Cx P ops Q o Kn Kr kd) {n : Nat} {j : Int} [har : ARR P t n e] [ht : TI P e size bytes agg zero] (ho : o.op = .indexAddr t x y) (hw : wants ops env o true) (hf : fits N o = true) (hx : ev env x = some (.pointer (some ⟨b, 0, none⟩))) (hy : ev env y = some (.int k j)) (h0 : 0 ≤ j) (h1 : j < (n : Int))
    (h : T N D B (ptE o (ep (some ⟨b, 0, none⟩) (j.toNat * size)) env) hs Kr) : T N D B env hs Kn :=
  T.idxArr cx ho hw hf hx hy h0 h1 h
end
end Go.Proofs.YtdojooblfemmnaaDoor
