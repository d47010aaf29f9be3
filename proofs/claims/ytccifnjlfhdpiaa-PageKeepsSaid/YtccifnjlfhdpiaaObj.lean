/- Function values; structs stored into elements of one's own. -/
import Derived.Test.YtccifnjlfhdpiaaText
set_option linter.unusedVariables false
set_option linter.unusedSimpArgs false
namespace Go.Proofs.Ytccifnjlfhdpiaa
open Go.RowKit
def EU64 : Elt Int := Elt.sc (Value.int .u64) (fun _ => rfl)
section
variable {P : Program} {N : Nat} {D : List Deferred} {B : World} {env env' : Env} {hs hs' : List MP} {ops : Array Oper} {Q : Exit → Act → World → Prop} {K Kn Kr : Act → World → Prop} {o : Oper} {kd : Nat}
variable {α β : Type} {E : Elt α} {F : Elt β} {A : Option Addr} {cr cap : Nat} {l : List α} {x y : Operand} {t e : TypeId} {size bytes esz off : Nat} {agg : Bool} {zero v : Value} {w : World}
theorem map_eval {a : Act} {env : Env} (h3 : Holds env a) : ∀ (l : List Operand) (m : List Value), l.map (ev env) = m.map some → l.map a.eval = m := by
  intro l
  induction l with
  | nil => intro m hm; cases m <;> simp_all
  | cons x l ih =>
    intro m hm
    cases m with
    | nil => simp at hm
    | cons z m =>
      simp only [List.map_cons, List.cons.injEq] at hm
      simp only [List.map_cons, h3.eval hm.1, ih m hm.2]
/-- A closure is made. -/
theorem T.makeFunc (cx : Cx P ops Q o Kn Kr kd) {f : FuncId} {xs : List Operand} {vs : List Value} (ho : o.op = .makeFunc (.func f) #[] xs.toArray) (hw : wants ops env o true) (hf : fits N o = true) (hx : xs.map (ev env) = vs.map some)
    (h : T N D B (ptE o (.func (.func f) #[] vs.toArray) env) hs Kr) : T N D B env hs Kn :=
  T.valP cx (.func (.func f) #[] vs.toArray) hw hf (fun a w h3 => by
    have e := map_eval h3 xs vs hx
    simp [execOp, ho, Instr.makeFunc, e]) h
/-- A call of a function value: what it holds comes behind the arguments. -/
theorem run_callV {f : FuncId} {fn : Func} {g : Operand} {xs : List Operand} {ats : Array TypeId} {vs caps args : List Value} (ho : o.op = .call { callee := .value g, args := xs.toArray, argTypes := ats }) (hg : ev env g = some (.func (.func f) #[] caps.toArray)) (hf : P.funcs[f]? = some fn) (hb : fn.body.isSome = true) (hn : (fn.name == "runtime.NumGoroutine") = false)
    (hx : xs.map (ev env) = vs.map some) (ha : vs ++ caps = args) : ∀ a w, Holds env a → (execOp a.eval o).run P w = .ok (.enter f args.toArray) w := by
  intro a w h3
  subst ha
  have e := map_eval h3 xs vs hx
  have hn' : ¬ fn.name = "runtime.NumGoroutine" := by simpa using hn
  have hb' : ¬ fn.body = none := by intro h; simp [h] at hb
  simp [execOp, ho, resolve, Deferred.ofValue, invoke, callFunc, h3.eval hg, e, hf, hn', hb']
theorem run_ldRoN [Inhabited α] {z0 : PH} {j : Int} {us : List Value} [ht : TI P t size bytes true zero] (sh : Sh E) (hsz : E.sz = size) (hR : Rd E z0 A l) (ho : o.op = .load t x) (hx : ev env x = some (ep A (j.toNat * size))) (h0 : 0 ≤ j) (hj : j < (l.length : Int)) (hu : ∀ e, sh.cells (l.getD j.toNat default) e = us) :
    ∀ a w, Holds env a → PH.le z0 (PH.of w) → (execOp a.eval o).run P w = .ok (.value (.agg us.toArray)) w := fun a w h3 hz => by
  obtain ⟨b, off, cs, ty, fr, vs, rfl, hb, hE, hv⟩ := hR.get (i := j.toNat) (x := l.getD j.toNat default) (by simp [List.getD_eq_getElem?_getD, show j.toNat < l.length by omega])
  obtain ⟨e, h1, _⟩ := sh.op _ _ _ hE
  have hl := E.len _ _ _ hE
  rw [h1, hu e] at hl hv
  subst hsz
  have := run_loadN (P := P) (w := w) (off := off + j.toNat * E.sz) (vs := us) ht (hz _ _ hb) hl hv
  simp only [execOp, ho, h3.eval hx, ep_some, Sem.run_bind, this, Result.andThen_ok, Sem.run_pure]
/-- x[i] = v in a slice of one's own, elements of more than one cell. -/
theorem T.stBfS (cx : Cx P ops Q o Kn Kr (kd + 2)) [Inhabited α] (i : Nat) {j : Int} {T' : TypeId} {z : α} {us : List Value} {hs' : List MP} [ht : TI P t size bytes true zero] (hsz : E.sz = size) (hi : hs[i]? = some (Bf E T' A cap l)) (ho : o.op = .store t x y) (hw : wants ops env o true) (hf : fits N o = true)
    (hx : ev env x = some (ep A (j.toNat * size))) (hy : ev env y = some (.agg us.toArray)) (hv : Has hs E z us) (h0 : 0 ≤ j) (hj : j < (l.length : Int)) (he : hs.set i (Bf E T' A cap (l.set j.toNat z)) = hs')
    (h : T N D B (ptE o undef env) hs' Kr) : T N D B env hs Kn :=
  T.stepW cx hw hf (fun a w h3 h4 => by
    subst he; subst hsz
    obtain ⟨zz, h, ho', hd, hz, hh, hT⟩ := h4
    have hE0 := hv zz h ho'
    obtain ⟨h1, h2, hA, hd12, rfl, hset⟩ := ho'.get hi
    have lh1 : PH.le h1 (PH.of w) := PH.le_trans (PH.le_join_l _ _) hh
    have lh2 : PH.le h2 (PH.of w) := PH.le_trans (PH.le_join_r hd12) hh
    have ⟨dz1, dz2⟩ := PH.disj_join_r.1 hd
    rcases hA with ⟨_, _, rfl, _⟩ | ⟨b, cs, sp, rfl, hE, hcl, hcm, rfl⟩
    · simp at hj; omega
    · have hblk : w.heap[b]? = some (.cells (cs ++ sp).toArray T' (0, 0)) := lh1 b _ (PH.one_self _ _)
      have hcsl := hE.length
      have hus := E.len _ _ _ hE0
      have h1c := E.one _ _ _ hE0
      have hjn : j.toNat < l.length := by omega
      have hm : (j.toNat + 1) * E.sz ≤ l.length * E.sz := Nat.mul_le_mul_right _ hjn
      rw [Nat.add_mul, Nat.one_mul] at hm
      have hr := run_storeN (P := P) (w := w) (b := b) (off := 0 + j.toNat * E.sz) (cs := (cs ++ sp).toArray) (v := .agg us.toArray) ht hblk (by simpa [Value.cells] using hus) (by simp; omega) (fun u hu => h1c u (by simpa [Value.cells] using hu))
      have hspl : splice (cs ++ sp) (0 + j.toNat * E.sz) us = (cs.take (j.toNat * E.sz) ++ us ++ cs.drop (j.toNat * E.sz + E.sz)) ++ sp := by
        simp only [splice, Nat.zero_add, hus]
        rw [List.take_append_of_le_length (by omega), List.drop_append_of_le_length (by omega)]
        simp [List.append_assoc]
      have hcells : (Value.agg us.toArray).cells.toList = us := by simp [Value.cells]
      rw [hcells] at hr
      simp only [List.toList_toArray, hspl] at hr
      refine ⟨_, by simp only [execOp, ho, h3.eval hx, h3.eval hy, ep_some, Sem.run_bind, hr, Result.andThen_ok, Sem.run_pure]; rfl, ?_⟩
      refine St.raw (h1' := PH.one b (.cells ((cs.take (j.toNat * E.sz) ++ us ++ cs.drop (j.toNat * E.sz + E.sz)) ++ sp).toArray T' (0, 0))) hset hd12 dz1 dz2 hz lh2 hT ?_ ?_ ?_ (by simp) rfl rfl rfl
      · refine .inr ⟨b, _, sp, rfl, hE.set j.toNat hE0 (by omega), ?_, hcm, by rw [hus]⟩
        simp only [List.length_append, List.length_take, List.length_drop]; omega
      · intro k o' hb'
        obtain ⟨rfl, rfl⟩ := PH.one_some hb'
        exact setRow_heap w _ _ _ _ _ hblk
      · intro k hb' hn
        have hkb : k ≠ b := by rintro rfl; rw [PH.one_self] at hn; cases hn
        exact ⟨PH.one_none hkb, setRow_other w b k _ hkb⟩) h
/-! ### What is one's own, handed on to be read -/
/-- What is told of no memory of one's own, in the world as it is. -/
def Ros (w : World) : List MP → Prop
  | [] => True
  | m :: l => m.p (PH.of w) PH.emp ∧ Ros w l
theorem Ros.nil {w : World} : Ros w [] := trivial
theorem Ros.cons {w : World} {m : MP} {l : List MP} (h : m.p (PH.of w) PH.emp) (r : Ros w l) : Ros w (m :: l) := ⟨h, r⟩
theorem Ros.all {w : World} : ∀ {l : List MP}, Ros w l → ∀ m ∈ l, m.p (PH.of w) PH.emp
  | m :: l, ⟨h1, h2⟩, x, hx => by
    rcases List.mem_cons.1 hx with rfl | hx
    · exact h1
    · exact Ros.all h2 x hx
theorem St.borrow {w : World} {ros : List MP} (h : Ros w ros) : St w ros w := by
  refine ⟨PH.of w, PH.emp, ?_, PH.disj_emp _, PH.le_refl _, PH.emp_le _, PH.le_refl _, Nat.le_refl _, rfl, rfl, rfl⟩
  have : Owns (ros ++ []) (PH.of w) PH.emp := Owns.adds (hs := []) rfl h.all
  rwa [List.append_nil] at this
theorem St.roRo (hS : St B hs w) (i : Nat) (hi : hs[i]? = some (Ro E A cap l)) : (Ro E A cap l).p (PH.of w) PH.emp := by
  obtain ⟨z, h, hp, hd, hz, hh, _⟩ := hS
  obtain ⟨g, ⟨_, hr, hc⟩, _⟩ := hp.sub hi
  exact ⟨rfl, hr.up hz, hc⟩
theorem St.roBf (hS : St B hs w) (i : Nat) {T' : TypeId} (hpos : Nat.blt 0 E.sz = true) (hi : hs[i]? = some (Bf E T' A cap l)) : (Ro E A cap l).p (PH.of w) PH.emp := by
  obtain ⟨z, h, hp, hd, hz, hh, _⟩ := hS
  obtain ⟨g, hg, hle⟩ := hp.sub hi
  have := Bf.frozen hpos z g hg (PH.disj_symm (PH.disj_le (PH.disj_symm hd) hle))
  exact ⟨rfl, this.2.1.up (PH.join_le hz (PH.le_trans hle hh)), this.2.2⟩
/-- Told of nothing that is never written again. -/
def MP.Free (A : MP) : Prop := ∀ z z' h, A.p z h → A.p z' h
def Frees : List MP → Prop
  | [] => True
  | m :: l => m.Free ∧ Frees l
theorem Frees.nil : Frees [] := trivial
theorem Frees.cons {m : MP} {l : List MP} (h : m.Free) (r : Frees l) : Frees (m :: l) := ⟨h, r⟩
theorem Owns.free {z z' : PH} : ∀ {l : List MP} {h : PH}, Frees l → Owns l z h → Owns l z' h
  | [], _, _, h => h
  | A :: l, _, ⟨f1, f2⟩, ⟨h1, h2, a, b, d, e⟩ => ⟨h1, h2, f1 _ _ _ a, Owns.free f2 b, d, e⟩
theorem St.unborrow {w w' : World} {post ros : List MP} (hS : St B hs w) (h1 : St w (post ++ ros) w') (hf : Frees post) : St B (post ++ hs) w' := by
  obtain ⟨z, h, hp, hd, hz, hh, hB, hsz, o1, o2, o3⟩ := hS
  obtain ⟨z1, h1, hp1, hd1, hz1, hh1, hB1, hsz1, p1, p2, p3⟩ := h1
  obtain ⟨g1, g2, q1, q2, dg, rfl⟩ := hp1.split
  have up : ∀ q : PH, PH.le q (PH.of w) → PH.le q (PH.of w') := fun q hq => PH.le_trans hq (PH.le_trans hB1 hz1)
  have dd : ∀ q : PH, PH.le q (PH.of w) → PH.disj q g1 := fun q hq b => by
    rcases hd1 b with e | e
    · refine .inl ?_
      cases e' : q b with
      | none => rfl
      | some o => rw [hB1 b o (hq b o e')] at e; cases e
    · exact .inr (PH.join_none.1 e).1
  refine ⟨z, PH.join g1 h, (q1.free hf).app hp (PH.disj_symm (dd h hh)), PH.disj_join_r.2 ⟨dd z hz, hd⟩, up z hz, PH.join_le (PH.le_trans (PH.le_join_l _ _) hh1) (up h hh), hB, Nat.le_trans hsz hsz1, p1.trans o1, p2.trans o2, p3.trans o3⟩
/-- Elements that lead nowhere. -/
def Elt.Flat {α : Type} (E : Elt α) : Prop := ∀ z z' x vs, E.E z x vs → E.E z' x vs
theorem Elt.Flat.sc {α : Type} {enc : α → Value} {h1 : ∀ x, (enc x).oneCell' = true} : (Elt.sc enc h1).Flat := fun _ _ _ _ h => h
theorem Elt.Flat.pair {α β : Type} {E : Elt α} {F : Elt β} (hE : E.Flat) (hF : F.Flat) : (Elt.pair E F).Flat := fun _ _ _ _ ⟨us, ws, h, a, b⟩ => ⟨us, ws, h, hE _ _ _ _ a, hF _ _ _ _ b⟩
theorem Encs.flatE {α : Type} {E : Elt α} (hE : E.Flat) {z z' : PH} : ∀ {l : List α} {cs : List Value}, Encs E z l cs → Encs E z' l cs
  | [], _, h => h
  | _ :: _, _, ⟨vs, ds, e, a, b⟩ => ⟨vs, ds, e, hE _ _ _ _ a, Encs.flatE hE b⟩
theorem Bf.free {T' : TypeId} (hE : E.Flat) : (Bf E T' A cap l).Free := fun z z' h hp => by
  rcases hp with ⟨hA, hc, hl, hh⟩ | ⟨b, cs, sp, hA, hEn, hl, hm, hh⟩
  · exact .inl ⟨hA, hc, hl, hh⟩
  · exact .inr ⟨b, cs, sp, hA, hEn.flatE hE, hl, hm, hh⟩
end
end Go.Proofs.Ytccifnjlfhdpiaa
