/- Function values; structs stored into elements of one's own. -/
import Derived.Test.YtpogdeibkghhaaaDoorText
set_option linter.unusedVariables false
set_option linter.unusedSimpArgs false
namespace Go.Proofs.YtpogdeibkghhaaaDoor
open Go.RowKit
section
variable {P : Program} {N : Nat} {D : List Deferred} {B : World} {env env' : Env} {hs hs' : List MP} {ops : Array Oper} {Q : Exit → Act → World → Prop} {K Kn Kr : Act → World → Prop} {o : Oper} {kd : Nat}
variable {α β : Type} {E : Elt α} {F : Elt β} {A : Option Addr} {cr cap : Nat} {l : List α} {x y : Operand} {t e : TypeId} {size bytes esz off : Nat} {agg : Bool} {zero v : Value} {w : World}
theorem map_eval {a : Act} {env : Env} (h3 : Holds env a) : ∀ (l : List Operand) (m : List Value), l.map (ev env) = m.map some → l.map a.eval = m := by
  intro l
  induction l with
  | nil => intro m hm; cases m <;> simp_all
  | cons x l ih =>
    intro m hm
    cases m with
    | nil => simp at hm
    | cons z m =>
      simp only [List.map_cons, List.cons.injEq] at hm
      simp only [List.map_cons, h3.eval hm.1, ih m hm.2]
/-- A closure is made. -/
theorem T.makeFunc (cx : Cx P ops Q o Kn Kr kd) {f : FuncId} {xs : List Operand} {vs : List Value} (ho : o.op = .makeFunc (.func f) #[] xs.toArray) (hw : wants ops env o true) (hf : fits N o = true) (hx : xs.map (ev env) = vs.map some)
    (h : T N D B (ptE o (.func (.func f) #[] vs.toArray) env) hs Kr) : T N D B env hs Kn :=
  T.valP cx (.func (.func f) #[] vs.toArray) hw hf (fun a w h3 => by
    have e := map_eval h3 xs vs hx
    simp [execOp, ho, Instr.makeFunc, e]) h
/-- A call of a function value: what it holds comes behind the arguments. -/
theorem run_callV {f : FuncId} {fn : Func} {g : Operand} {xs : List Operand} {ats : Array TypeId} {vs caps args : List Value} (ho : o.op = .call { callee := .value g, args := xs.toArray, argTypes := ats }) (hg : ev env g = some (.func (.func f) #[] caps.toArray)) (hf : P.funcs[f]? = some fn) (hb : fn.body.isSome = true) (hn : (fn.name == "runtime.NumGoroutine") = false)
    (hx : xs.map (ev env) = vs.map some) (ha : vs ++ caps = args) : ∀ a w, Holds env a → (execOp a.eval o).run P w = .ok (.enter f args.toArray) w := by
  intro a w h3
  subst ha
  have e := map_eval h3 xs vs hx
  have hn' : ¬ fn.name = "runtime.NumGoroutine" := by simpa using hn
  have hb' : ¬ fn.body = none := by intro h; simp [h] at hb
  simp [execOp, ho, resolve, Deferred.ofValue, invoke, callFunc, h3.eval hg, e, hf, hn', hb']
/-! ### What is one's own, handed on to be read -/
/-- What is told of no memory of one's own, in the world as it is. -/
def Ros (w : World) : List MP → Prop
  | [] => True
  | m :: l => m.p (PH.of w) PH.emp ∧ Ros w l
theorem Ros.nil {w : World} : Ros w [] := trivial
theorem Ros.cons {w : World} {m : MP} {l : List MP} (h : m.p (PH.of w) PH.emp) (r : Ros w l) : Ros w (m :: l) := ⟨h, r⟩
theorem Ros.all {w : World} : ∀ {l : List MP}, Ros w l → ∀ m ∈ l, m.p (PH.of w) PH.emp
  | m :: l, ⟨h1, h2⟩, x, hx => by
    rcases List.mem_cons.1 hx with rfl | hx
    · exact h1
    · exact Ros.all h2 x hx
theorem St.borrow {w : World} {ros : List MP} (h : Ros w ros) : St w ros w := by
  refine ⟨PH.of w, PH.emp, ?_, PH.disj_emp _, PH.le_refl _, PH.emp_le _, PH.le_refl _, Nat.le_refl _, rfl, rfl, rfl⟩
  have : Owns (ros ++ []) (PH.of w) PH.emp := Owns.adds (hs := []) rfl h.all
  rwa [List.append_nil] at this
theorem St.roRo (hS : St B hs w) (i : Nat) (hi : hs[i]? = some (Ro E A cap l)) : (Ro E A cap l).p (PH.of w) PH.emp := by
  obtain ⟨z, h, hp, hd, hz, hh, _⟩ := hS
  obtain ⟨g, ⟨_, hr, hc⟩, _⟩ := hp.sub hi
  exact ⟨rfl, hr.up hz, hc⟩
theorem St.roBf (hS : St B hs w) (i : Nat) {T' : TypeId} (hpos : Nat.blt 0 E.sz = true) (hi : hs[i]? = some (Bf E T' A cap l)) : (Ro E A cap l).p (PH.of w) PH.emp := by
  obtain ⟨z, h, hp, hd, hz, hh, _⟩ := hS
  obtain ⟨g, hg, hle⟩ := hp.sub hi
  have := Bf.frozen hpos z g hg (PH.disj_symm (PH.disj_le (PH.disj_symm hd) hle))
  exact ⟨rfl, this.2.1.up (PH.join_le hz (PH.le_trans hle hh)), this.2.2⟩
/-- Told of nothing that is never written again. -/
def MP.Free (A : MP) : Prop := ∀ z z' h, A.p z h → A.p z' h
def Frees : List MP → Prop
  | [] => True
  | m :: l => m.Free ∧ Frees l
theorem Frees.nil : Frees [] := trivial
theorem Frees.cons {m : MP} {l : List MP} (h : m.Free) (r : Frees l) : Frees (m :: l) := ⟨h, r⟩
theorem Owns.free {z z' : PH} : ∀ {l : List MP} {h : PH}, Frees l → Owns l z h → Owns l z' h
  | [], _, _, h => h
  | A :: l, _, ⟨f1, f2⟩, ⟨h1, h2, a, b, d, e⟩ => ⟨h1, h2, f1 _ _ _ a, Owns.free f2 b, d, e⟩
theorem St.unborrow {w w' : World} {post ros : List MP} (hS : St B hs w) (h1 : St w (post ++ ros) w') (hf : Frees post) : St B (post ++ hs) w' := by
  obtain ⟨z, h, hp, hd, hz, hh, hB, hsz, o1, o2, o3⟩ := hS
  obtain ⟨z1, h1, hp1, hd1, hz1, hh1, hB1, hsz1, p1, p2, p3⟩ := h1
  obtain ⟨g1, g2, q1, q2, dg, rfl⟩ := hp1.split
  have up : ∀ q : PH, PH.le q (PH.of w) → PH.le q (PH.of w') := fun q hq => PH.le_trans hq (PH.le_trans hB1 hz1)
  have dd : ∀ q : PH, PH.le q (PH.of w) → PH.disj q g1 := fun q hq b => by
    rcases hd1 b with e | e
    · refine .inl ?_
      cases e' : q b with
      | none => rfl
      | some o => rw [hB1 b o (hq b o e')] at e; cases e
    · exact .inr (PH.join_none.1 e).1
  refine ⟨z, PH.join g1 h, (q1.free hf).app hp (PH.disj_symm (dd h hh)), PH.disj_join_r.2 ⟨dd z hz, hd⟩, up z hz, PH.join_le (PH.le_trans (PH.le_join_l _ _) hh1) (up h hh), hB, Nat.le_trans hsz hsz1, p1.trans o1, p2.trans o2, p3.trans o3⟩
/-- Elements that lead nowhere. -/
def Elt.Flat {α : Type} (E : Elt α) : Prop := ∀ z z' x vs, E.E z x vs → E.E z' x vs
theorem Elt.Flat.sc {α : Type} {enc : α → Value} {h1 : ∀ x, (enc x).oneCell' = true} : (Elt.sc enc h1).Flat := fun _ _ _ _ h => h
theorem Elt.Flat.pair {α β : Type} {E : Elt α} {F : Elt β} (hE : E.Flat) (hF : F.Flat) : (Elt.pair E F).Flat := fun _ _ _ _ ⟨us, ws, h, a, b⟩ => ⟨us, ws, h, hE _ _ _ _ a, hF _ _ _ _ b⟩
theorem Encs.flatE {α : Type} {E : Elt α} (hE : E.Flat) {z z' : PH} : ∀ {l : List α} {cs : List Value}, Encs E z l cs → Encs E z' l cs
  | [], _, h => h
  | _ :: _, _, ⟨vs, ds, e, a, b⟩ => ⟨vs, ds, e, hE _ _ _ _ a, Encs.flatE hE b⟩
theorem Bf.free {T' : TypeId} (hE : E.Flat) : (Bf E T' A cap l).Free := fun z z' h hp => by
  rcases hp with ⟨hA, hc, hl, hh⟩ | ⟨b, cs, sp, hA, hEn, hl, hm, hh⟩
  · exact .inl ⟨hA, hc, hl, hh⟩
  · exact .inr ⟨b, cs, sp, hA, hEn.flatE hE, hl, hm, hh⟩
end
end Go.Proofs.YtpogdeibkghhaaaDoor
