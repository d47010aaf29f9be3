/- What was given back is free: a loop over a map that takes entries out. -/
import Derived.Test.YtccifnjlfhdpiaaCuts
set_option linter.unusedVariables false
set_option linter.unusedSimpArgs false
namespace Go.Proofs.Ytccifnjlfhdpiaa
open Go.RowKit
open Go.ChangeMaps (setBlock)
/-! ### Maps of numbers -/
def KV (m : List (Int × Int)) : List (Int × Value) := m.map fun p => (p.1, .int .i64 p.2)
theorem VEnc.e64 {z : PH} : ∀ {m : List (Int × Int)} {kv : List (Int × Value)}, VEnc E64 z m kv ↔ kv = KV m
  | [], kv => by simp [VEnc, KV]
  | (k, a) :: m, kv => by
    constructor
    · rintro ⟨v, r, rfl, h2, h3⟩
      have h2 : [v] = [Value.int .i64 a] := h2
      have h3 := VEnc.e64.1 h3
      simp only [List.cons.injEq, and_true] at h2
      simp [KV, h2, h3]
    · rintro rfl
      exact ⟨_, _, rfl, rfl, VEnc.e64.2 rfl⟩
theorem mget_mem {α : Type} {k : Int} {v : α} : ∀ {m : List (Int × α)}, (m.map Prod.fst).Nodup → (k, v) ∈ m → mget m k = some v
  | (j, u) :: m, hn, h => by
    have hn' := List.nodup_cons.1 hn
    rcases List.mem_cons.1 h with e | g
    · cases e; simp [mget]
    · have : k ≠ j := fun e => hn'.1 (List.mem_map.2 ⟨(k, v), g, e⟩)
      simp only [mget, this, if_false]
      exact mget_mem hn'.2 g
theorem mdel_KV {k : Int} : ∀ {m : List (Int × Int)}, mdel (KV m) k = KV (mdel m k)
  | [] => rfl
  | (j, u) :: m => by
    by_cases e : k = j
    · simp [KV, mdel, e]
    · have := mdel_KV (k := k) (m := m)
      simp only [KV] at this
      simp [KV, mdel, e, this]
theorem mdel_sub {α : Type} {k : Int} : ∀ {m : List (Int × α)}, (mdel m k).Sublist m
  | [] => List.Sublist.refl _
  | (j, u) :: m => by
    by_cases e : k = j
    · simp [mdel, e]
    · simp only [mdel, e, if_false]
      exact mdel_sub.cons_cons _
theorem mdel_filter {k : Int} : ∀ {m : List (Int × Int)}, (m.map Prod.fst).Nodup → (k, (2 : Int)) ∈ m → (mdel m k).filter (fun p => p.2 ≠ 2) = m.filter fun p => p.2 ≠ 2
  | (j, u) :: m, hn, h => by
    have hn' := List.nodup_cons.1 hn
    by_cases e : k = j
    · subst e
      have : u = 2 := by
        rcases List.mem_cons.1 h with e | h
        · cases e; rfl
        · exact absurd (List.mem_map.2 ⟨_, h, rfl⟩) hn'.1
      subst this
      simp [mdel]
    · have : (k, (2 : Int)) ∈ m := by
        rcases List.mem_cons.1 h with e' | h
        · cases e'; exact absurd rfl e
        · exact h
      have := mdel_filter hn'.2 this
      simp only [mdel, e, if_false, List.filter_cons, this]
/-! ### What is known of a map in a loop -/
structure MI (m0 : List (Int × Int)) (clock : Nat) (x : Array MapEntry × Array Nat × List (Int × Int)) : Prop where
  hents : ents x.1.toList (KV x.2.2)
  born : Born x.1 clock
  keys : (x.2.2.map Prod.fst).Nodup
  filt : x.2.2.filter (fun p => p.2 ≠ 2) = m0.filter fun p => p.2 ≠ 2
  seen : ∀ e ∈ x.1.toList, x.2.1.contains e.born = true → e.val ≠ .int .i64 2
theorem ents_mem {es : List MapEntry} {m : List (Int × Int)} (h : ents es (KV m)) {e : MapEntry} (he : e ∈ es) : ∃ k v, e.key = .int .i64 k ∧ e.val = .int .i64 v ∧ (k, v) ∈ m := by
  have : (e.key, e.val) ∈ es.map fun e => (e.key, e.val) := List.mem_map.2 ⟨e, he, rfl⟩
  rw [h] at this
  obtain ⟨p, hp, e2⟩ := List.mem_map.1 this
  obtain ⟨q, hq, rfl⟩ := List.mem_map.1 hp
  simp only [Prod.mk.injEq] at e2
  exact ⟨q.1, q.2, e2.1.symm, e2.2.symm, hq⟩
theorem ents_keys {es : List MapEntry} {m : List (Int × Int)} (h : ents es (KV m)) : es.map (·.key) = (m.map Prod.fst).map (Value.int .i64) := by
  have := congrArg (List.map Prod.fst) h
  simpa [KV, Function.comp_def] using this
theorem nodup_at {α β : Type} (f : α → β) {l : List α} (h : (l.map f).Nodup) {a b : α} (ha : a ∈ l) (hb : b ∈ l) (e : f a = f b) : a = b := by
  induction l with
  | nil => simp at ha
  | cons x l ih =>
    have h' := List.nodup_cons.1 h
    rcases List.mem_cons.1 ha with e1 | ga <;> rcases List.mem_cons.1 hb with e2 | gb
    · rw [e1, e2]
    · exact absurd (List.mem_map.2 ⟨b, gb, by rw [← e, e1]⟩) h'.1
    · exact absurd (List.mem_map.2 ⟨a, ga, by rw [e, e2]⟩) h'.1
    · exact ih h'.2 ga gb
theorem nodup_of_map {α β : Type} (f : α → β) {l : List α} (h : (l.map f).Nodup) : l.Nodup := by
  induction l with
  | nil => simp
  | cons x l ih =>
    have h' := List.nodup_cons.1 h
    exact List.nodup_cons.2 ⟨fun hm => h'.1 (List.mem_map.2 ⟨x, hm, rfl⟩), ih h'.2⟩
theorem contains_push' (s : Array Nat) (a b : Nat) : (s.push a).contains b = (s.contains b || b == a) := by
  rw [Array.contains_push]
theorem MI.skip {m0 : List (Int × Int)} {clock : Nat} {es : Array MapEntry} {s : Array Nat} {m : List (Int × Int)} (h : MI m0 clock (es, s, m)) {e0 : MapEntry} (he : e0 ∈ es.toList) (hv : e0.val ≠ .int .i64 2) : MI m0 clock (es, s.push e0.born, m) :=
  ⟨h.hents, h.born, h.keys, h.filt, fun e hm hc => by
    rw [contains_push'] at hc
    rcases Bool.or_eq_true _ _ ▸ hc with hc | hc
    · exact h.seen e hm hc
    · have : e = e0 := nodup_at (·.born) h.born.1 hm he (by simpa using hc)
      rw [this]; exact hv⟩
theorem int_inj {k : IntKind} : Function.Injective (Value.int k) := fun a b h => by cases h; rfl
theorem MI.drop {m0 : List (Int × Int)} {clock : Nat} {es : Array MapEntry} {s : Array Nat} {m : List (Int × Int)} (h : MI m0 clock (es, s, m)) {e0 : MapEntry} (he : e0 ∈ es.toList) {k : Int} (hk : e0.key = .int .i64 k) (hm : (k, (2 : Int)) ∈ m) :
    ∃ j v, Instr.findNow (.int .i64) (.int .i64 k) es.toList 0 = some (some (j, v)) ∧ MI m0 clock (es.eraseIdxIfInBounds j, s.push e0.born, mdel m k) ∧ (leftOf (es.eraseIdxIfInBounds j) (s.push e0.born)).size ≤ (leftOf es (s.push e0.born)).size := by
  rcases findNow_ents k es.toList (KV m) 0 h.hents with ⟨h1, _⟩ | ⟨j, v, h1, h2, h3, h4, ⟨e, h5, h6⟩, h7⟩
  · have := mget_none h1
    exact absurd (List.mem_map.2 ⟨(k, .int .i64 2), List.mem_map.2 ⟨_, hm, rfl⟩, rfl⟩) this
  · rw [Nat.zero_add] at h2
    have hj : j < es.size := by simpa using h3
    have ht : (es.eraseIdxIfInBounds j).toList = es.toList.eraseIdx j := by
      rw [Array.eraseIdxIfInBounds, dif_pos hj, Array.toList_eraseIdx]
    have hen : e = e0 := by
      have hnk : (es.toList.map (·.key)).Nodup := by
        rw [ents_keys h.hents]
        exact List.Pairwise.map _ (fun a b hab hc => hab (int_inj hc)) h.keys
      exact nodup_at (·.key) hnk (List.mem_of_getElem? h5) he (by rw [h6, hk])
    subst hen
    have hsub : (es.toList.eraseIdx j).Sublist es.toList := List.eraseIdx_sublist ..
    refine ⟨j, v, h2, ⟨?_, ⟨?_, ?_⟩, ?_, ?_, ?_⟩, ?_⟩
    · show ents (es.eraseIdxIfInBounds j).toList _
      rw [ht, ← mdel_KV]; exact h7
    · rw [ht]; exact h.born.1.sublist (hsub.map _)
    · intro x hx; rw [ht] at hx; exact h.born.2 x (hsub.subset hx)
    · exact h.keys.sublist (mdel_sub.map _)
    · show (mdel m k).filter _ = _
      rw [mdel_filter h.keys hm]; exact h.filt
    · intro x hx hc
      have hx0 : x ∈ (es.eraseIdxIfInBounds j).toList := hx
      have hx := hx0
      rw [ht] at hx
      rw [contains_push'] at hc
      have hx' := hsub.subset hx
      rcases Bool.or_eq_true _ _ ▸ hc with hc | hc
      · exact h.seen x hx' hc
      · exfalso
        have : x = e := nodup_at (·.born) h.born.1 hx' he (by simpa using hc)
        subst this
        have hnd : es.toList.Nodup := (nodup_of_map _ h.born.1)
        obtain ⟨i, hi⟩ := List.mem_iff_getElem?.1 hx0
        have hi : (es.eraseIdxIfInBounds j).toList[i]? = some x := hi
        rw [ht, List.getElem?_eraseIdx] at hi
        have key : ∀ i', es.toList[i']? = some x → i' = j := fun i' h' => by
          obtain ⟨a1, a2⟩ := List.getElem?_eq_some_iff.1 h'
          obtain ⟨b1, b2⟩ := List.getElem?_eq_some_iff.1 h5
          have hp := List.pairwise_iff_getElem.1 hnd
          rcases Nat.lt_trichotomy i' j with hlt | rfl | hlt
          · exact absurd (a2.trans b2.symm) (hp i' j a1 b1 hlt)
          · rfl
          · exact absurd (b2.trans a2.symm) (hp j i' b1 a1 hlt)
        split at hi
        · have := key _ hi; omega
        · have := key _ hi; omega
    · unfold leftOf
      have e1 : ∀ (q : MapEntry → Bool) (l : Array MapEntry), (l.filter q).size = (l.toList.filter q).length := fun q l => by rw [← Array.toList_filter, Array.length_toList]
      rw [e1, e1, ht]
      exact (hsub.filter _).length_le
theorem MI.done {m0 : List (Int × Int)} {clock : Nat} {es : Array MapEntry} {s : Array Nat} {m : List (Int × Int)} (h : MI m0 clock (es, s, m)) (h0 : (leftOf es s).size = 0) : m = m0.filter fun p => p.2 ≠ 2 := by
  rw [← h.filt]
  symm
  refine List.filter_eq_self.2 fun p hp => ?_
  have : ((.int .i64 p.1 : Value), (Value.int .i64 p.2)) ∈ es.toList.map fun e => (e.key, e.val) := by
    rw [h.hents]
    exact List.mem_map.2 ⟨(p.1, .int .i64 p.2), List.mem_map.2 ⟨p, hp, rfl⟩, rfl⟩
  obtain ⟨e, he, e2⟩ := List.mem_map.1 this
  simp only [Prod.mk.injEq] at e2
  have hc : s.contains e.born = true := by
    cases hc : s.contains e.born with
    | true => rfl
    | false =>
      have : e ∈ leftOf es s := by
        unfold leftOf
        exact Array.mem_filter.2 ⟨Array.mem_toList_iff.1 he, by rw [hc]; rfl⟩
      have := Array.size_pos_of_mem this
      omega
  have := h.seen e he hc
  rw [e2.2] at this
  simp only [ne_eq, Value.int.injEq, true_and] at this
  simpa using this
section
variable {P : Program} {N : Nat} {D : List Deferred} {B : World} {env env' : Env} {hs hs' : List MP} {ops : Array Oper} {Q : Exit → Act → World → Prop} {K Kn Kr : Act → World → Prop} {o : Oper} {kd : Nat}
variable {x y : Operand} {t e : TypeId} {v : Value} {w : World}
theorem T.loopM {X : Type} (env : X → Env) (hs : X → List MP) (μ : X → Nat) {c : Code} (x0 : X)
    (round : ∀ (K : Act → World → Prop) (x : X), (∀ x', μ x' < μ x → T N D B (env x') (hs x') K) → T N D B (env x) (hs x) (c.wp P (Exit.then K Q))) :
    T N D B (env x0) (hs x0) ((Code.loop c).wp P Q) := by
  have key : ∀ n x, μ x = n → T N D B (env x) (hs x) (fun a w => inLoop P c Q a w ∧ (Code.loop c).wp P Q a w) := by
    intro n
    induction n using Nat.strongRecOn with
    | _ n ih =>
      intro x hx a w h1 h2 h3 h4
      exact inLoop_round (round _ x (fun x' hlt => (ih _ (hx ▸ hlt) x' rfl).mono fun _ _ h => h.1) a w h1 h2 h3 h4)
  exact (key _ x0 rfl).mono fun _ _ h => h.2
/-- A map is opened; what is known of it comes with it. -/
theorem T.openMp (i : Nat) {b : Nat} {m : List (Int × Int)} (hi : hs[i]? = some (Mp E64 b m)) (h : ∀ (x : Array MapEntry × Nat), MI m x.2 (x.1, #[], m) → T N D B env (hs.set i (Ob b (.map x.1 x.2))) K) : T N D B env hs K :=
  T.ex (α := {x : Array MapEntry × Nat // MI m x.2 (x.1, #[], m)}) (hs' := fun x => hs.set i (Ob b (.map x.1.1 x.1.2))) (fun w hS => hS.exAt i hi fun z h1 ⟨es, clock, kv, h2, h3, h4, h5, h6⟩ => ⟨⟨(es, clock), by
    have h4 := VEnc.e64.1 h4
    subst h4
    exact ⟨h3, h5, h6, rfl, fun e _ hc => by simp at hc⟩⟩, h2⟩) fun x => h x.1 x.2
theorem St.closeMp (hS : St B hs w) (i : Nat) {b : Nat} {es : Array MapEntry} {clock : Nat} {s : Array Nat} {m m0 : List (Int × Int)} (hi : hs[i]? = some (Ob b (.map es clock))) (h : MI m0 clock (es, s, m)) : St B (hs.set i (Mp E64 b m)) w :=
  hS.conseq i hi fun z h1 h2 => ⟨es, clock, KV m, h2, h.hents, VEnc.e64.2 rfl, h.born, h.keys⟩
theorem T.rangeM (cx : Cx P ops Q o Kn Kr (kd + 2)) (i : Nat) {b : Nat} {es : Array MapEntry} {clock : Nat} {k ek : TypeId} [hm : MPT P t k ek] (hi : hs[i]? = some (Ob b (.map es clock))) (ho : o.op = .range t x) (hw : wants ops env o true) (hf : fits N o = true) (hx : ev env x = some (.map (some b)))
    (h : ∀ r, T N D B (ptE o (.pointer (some ⟨r, 0, none⟩)) env) (Ob r (.mapIter (some b) clock #[] clock) :: hs) Kr) : T N D B env hs Kn :=
  T.valW cx (v := fun r => .pointer (some ⟨r, 0, none⟩)) (hs' := fun r => Ob r (.mapIter (some b) clock #[] clock) :: hs) hw hf (fun a w h3 h4 => by
    have hb := h4.obj hi
    refine ⟨w.heap.size, w.alloc (.mapIter (some b) clock #[] clock), ?_, h4.alloc _⟩
    simp [execOp, ho, h3.eval hx, Instr.range, run_underlying hm.eq, getObj, Sem.run, hb]) h
theorem T.nextM (cx : Cx P ops Q o Kn Kr (kd + 2)) (i j : Nat) {b r : Nat} {es : Array MapEntry} {clock : Nat} {s : Array Nat} {m m0 : List (Int × Int)} (hi : hs[i]? = some (Ob b (.map es clock))) (hj : hs[j]? = some (Ob r (.mapIter (some b) clock s clock))) (hM : MI m0 clock (es, s, m))
    (ho : o.op = .next x false) (hw : wants ops env o true) (hf : fits N o = true) (hx : ev env x = some (.pointer (some ⟨r, 0, none⟩)))
    (h0 : (leftOf es s).size = 0 → T N D B (ptE o (.tuple #[.bool false]) env) hs Kr)
    (h1 : ∀ (e : MapEntry) (k v : Int), e ∈ (leftOf es s).toList → e.key = .int .i64 k → e.val = .int .i64 v → (k, v) ∈ m → T N D B (ptE o (.tuple #[.bool true, .int .i64 k, .int .i64 v]) env) (hs.set j (Ob r (.mapIter (some b) clock (s.push e.born) clock))) Kr) : T N D B env hs Kn :=
  T.valW cx (X := {_u : Unit // (leftOf es s).size = 0} ⊕ {p : MapEntry × Int × Int // p.1 ∈ (leftOf es s).toList ∧ p.1.key = .int .i64 p.2.1 ∧ p.1.val = .int .i64 p.2.2 ∧ p.2 ∈ m})
    (v := fun x => match x with | .inl _ => .tuple #[.bool false] | .inr p => .tuple #[.bool true, .int .i64 p.1.2.1, .int .i64 p.1.2.2])
    (hs' := fun x => match x with | .inl _ => hs | .inr p => hs.set j (Ob r (.mapIter (some b) clock (s.push p.1.1.born) clock))) hw hf (fun a w h3 h4 => by
    have hb := h4.obj hi
    have hr := h4.obj hj
    rcases run_next_at (P := P) w o.type r b clock clock s es clock hr hb hM.born.2 (Nat.le_refl _) with ⟨g1, g2⟩ | ⟨e, he, w1, hw1, hrun⟩
    · refine ⟨.inl ⟨(), g1⟩, w, ?_, h4⟩
      simp [execOp, ho, h3.eval hx, g2]
    · obtain ⟨k, v, e1, e2, e3⟩ := ents_mem hM.hents (mem_left he).1
      have h4' : St B hs w1 := by rcases hw1 with rfl | rfl; exact h4; exact h4.drew
      have hr' := h4'.obj hj
      have hlt : r < w1.heap.size := (Array.getElem?_eq_some_iff.1 hr').1
      have hS' : St B (hs.set j (Ob r (.mapIter (some b) clock (s.push e.born) clock))) (setBlock w1 r (.mapIter (some b) clock (s.push e.born) clock)) := by
        refine h4'.setObj j hj ?_ ?_ ?_ rfl rfl rfl
        · simp [setBlock, hlt]
        · intro k' hk'
          simp [setBlock, Array.getElem?_setIfInBounds, Ne.symm hk']
        · simp [setBlock]
      have hrun' : (execOp a.eval o).run P w = .ok (.value (.tuple #[.bool true, .int .i64 k, .int .i64 v])) (setBlock w1 r (.mapIter (some b) clock (s.push e.born) clock)) := by
        simp only [execOp, ho, h3.eval hx, Sem.run_bind, hrun, Result.andThen_ok, Sem.run_pure, e1, e2]
      exact ⟨.inr ⟨(e, k, v), he, e1, e2, e3⟩, setBlock w1 r (.mapIter (some b) clock (s.push e.born) clock), hrun', hS'⟩) (fun x => by
    rcases x with ⟨_, hx⟩ | ⟨p, p1, p2, p3, p4⟩
    · exact h0 hx
    · exact h1 p.1 p.2.1 p.2.2 p1 p2 p3 p4)
theorem T.entryM (cx : Cx P ops Q o Kn Kr (kd + 1)) (i j : Nat) {b r : Nat} {es : Array MapEntry} {clock : Nat} {s : Array Nat} {ent : MapEntry} {k v : Int} (hi : hs[i]? = some (Ob b (.map es clock))) (hj : hs[j]? = some (Ob r (.mapIter (some b) clock (s.push ent.born) clock))) (hn : Born es clock) (he : ent ∈ es.toList) (hk : ent.key = .int .i64 k) (hv : ent.val = .int .i64 v)
    (ho : o.op = .entry x) (hw : wants ops env o true) (hf : fits N o = true) (hx : ev env x = some (.pointer (some ⟨r, 0, none⟩)))
    (h : T N D B (ptE o (.tuple #[.int .i64 k, .int .i64 v]) env) hs Kr) : T N D B env hs Kn :=
  T.val cx _ hw hf (fun a w h3 h4 => by
    have hrun := run_entry_at (P := P) w r b clock s es clock ent (h4.obj hj) (h4.obj hi) he hn.1
    simp [execOp, ho, h3.eval hx, hrun, hk, hv]) h
theorem T.deleteM (cx : Cx P ops Q o Kn Kr (kd + 2)) (i : Nat) {b : Nat} {es : Array MapEntry} {clock : Nat} {k : Int} {j : Nat} {u : Value} {kt ek : TypeId} [hm : MPT P t kt ek] [hk : INT P kt .i64] (hi : hs[i]? = some (Ob b (.map es clock)))
    (hfn : Instr.findNow (.int .i64) (.int .i64 k) es.toList 0 = some (some (j, u)))
    (ho : o.op = .call { callee := .builtin .delete, args := #[x, y], argTypes := #[t, e] }) (hw : wants ops env o true) (hf : fits N o = true) (hx : ev env x = some (.map (some b))) (hy : ev env y = some (.int .i64 k))
    (h : T N D B (ptE o (.tuple #[]) env) (hs.set i (Ob b (.map (es.eraseIdxIfInBounds j) clock))) Kr) : T N D B env hs Kn :=
  T.valW cx (X := Unit) (v := fun _ => .tuple #[]) (hs' := fun _ => hs.set i (Ob b (.map (es.eraseIdxIfInBounds j) clock))) hw hf (fun a w h3 h4 => by
    have hb := h4.obj hi
    have hlt : b < w.heap.size := (Array.getElem?_eq_some_iff.1 hb).1
    have hgo : (getObj b).run P w = .ok (.map es clock) w := by simp [getObj, Sem.run, hb]
    have hso : ∀ ob, (setObj b ob).run P w = .ok () { w with heap := w.heap.setIfInBounds b ob } := by intro ob; simp [setObj, Sem.run, hb]
    have hck := fun c => checkKey_int (P := P) c kt .i64 k hk.eq w
    refine ⟨(), { w with heap := w.heap.setIfInBounds b (.map (es.eraseIdxIfInBounds j) clock) }, ?_, ?_⟩
    · simp [execOp, ho, resolve, invoke, builtin, Builtin.delete_, h3.eval hx, h3.eval hy, run_underlying hm.eq, hgo, hck, Instr.findKey, run_underlying hk.eq, hfn, hso]
    · refine h4.setObj i hi ?_ ?_ ?_ rfl rfl rfl
      · simp [hlt]
      · intro k' hk'
        simp [Array.getElem?_setIfInBounds, Ne.symm hk']
      · simp) (fun _ => h)
end
def page_counts_settle.impl (o0 : Int) (q0b : List (Int × Int)) : Option (List (Int × Int)) := some (q0b.filter fun p => p.2 ≠ 2)
set_option maxRecDepth 100000 in
set_option maxHeartbeats 4000000 in
theorem page_counts_settle.c {B : World} {hs : List MP} {w : World} {p0 : Nat} {o0 : Int} {T0 : TypeId} {rest0 : List Value} {m0b : Nat} {q0b : List (Int × Int)} (hS : St B (Cl p0 T0 ([.int .i64 o0, .map (some m0b)] ++ rest0) :: Mp E64 m0b q0b :: hs) w) {r : List (Int × Int)} (hr : page_counts_settle.impl o0 q0b = some r) :
    Calls Try.prog 33 #[.pointer (some ⟨p0, 0, none⟩)] w fun e w' => ∃ x : Unit, e = .returned (.tuple #[]) ∧ St B (Cl p0 T0 ([.int .i64 o0, .map (some m0b)] ++ rest0) :: Mp E64 m0b r :: hs) w' := by
 unfold page_counts_settle.impl at hr
 obtain rfl := inv_some hr
 refine calls_T Try.func33 rfl rfl rfl hS ?_
 refine T.openMp 1 rfl fun x0 hM0 => ?_
 show T _ _ _ _ (Cl p0 T0 ([.int .i64 o0, .map (some m0b)] ++ rest0) :: Ob m0b (.map x0.1 x0.2) :: hs) _
 refine T.seq ?_
 refine T.region ?_
 refine T.move .list rfl (wants0 rfl) rfl rfl ?_
 refine T.nilCheck .list rfl (wants0 rfl) rfl rfl ?_
 refine T.field .list rfl (wants0 rfl) rfl rfl ?_
 refine T.load .list 0 rfl rfl (wants0 rfl) rfl rfl rfl ?_
 refine T.rangeM .list 1 rfl rfl (wants0 rfl) rfl rfl fun r => ?_
 refine T.nil ?_
 refine T.then_normal ?_
 refine T.block ?_
 refine T.le (env' := [(8, .pointer (some ⟨r, 0, none⟩)), (0, .pointer (some ⟨p0, 0, none⟩))]) ⟨rfl, rfl, trivial⟩ ?_
 refine T.loopM (X := {x : Array MapEntry × Array Nat × List (Int × Int) // MI q0b x0.2 x}) (fun _ => [(8, .pointer (some ⟨r, 0, none⟩)), (0, .pointer (some ⟨p0, 0, none⟩))]) (fun x => Ob r (.mapIter (some m0b) x0.2 x.1.2.1 x0.2) :: Cl p0 T0 ([.int .i64 o0, .map (some m0b)] ++ rest0) :: Ob m0b (.map x.1.1 x0.2) :: hs) (fun x => (leftOf x.1.1 x.1.2.1).size) ⟨(x0.1, #[], q0b), hM0⟩ ?_
 rintro K ⟨⟨es, s, m⟩, hM⟩ hK
 refine T.seq ?_
 refine T.region ?_
 refine T.nextM .list 2 0 rfl rfl hM rfl (wants0 rfl) rfl rfl (fun h0 => ?_) (fun e k v he hk hv hm => ?_)
 ·refine T.extract .list rfl (wants0 rfl) rfl rfl rfl ?_
  refine T.nil ?_
  refine T.then_normal ?_
  refine T.seq ?_
  refine T.condF rfl rfl ?_
  refine T.exit ?_
  refine T.then_exit ?_
  refine T.then_exit ?_
  refine T.in_hit ?_
  refine T.st (fun w hS => hS.closeMp 2 rfl hM) ?_
  obtain rfl := hM.done h0
  refine T.pick [1, 2] 3 rfl rfl (Nat.le_add_left _ _) rfl ?_
  refine T.end0 rfl (fun w hS => ⟨(), rfl, hS⟩)
 ·refine T.extract .list rfl (wants0 rfl) rfl rfl rfl ?_
  refine T.nil ?_
  refine T.then_normal ?_
  refine T.seq ?_
  refine T.condT rfl rfl ?_
  refine T.skip ?_
  refine T.then_normal ?_
  refine T.block ?_
  refine T.seq ?_
  refine T.region ?_
  refine T.entryM .list 2 0 rfl rfl hM.born (mem_left he).1 hk hv rfl (wants0 rfl) rfl rfl ?_
  refine T.extract .list rfl (wants0 rfl) rfl rfl rfl ?_
  refine T.extract .list rfl (wants0 rfl) rfl rfl rfl ?_
  refine T.assign .list rfl (wants0 rfl) rfl rfl ?_
  refine T.assign .list rfl (wants0 rfl) rfl rfl ?_
  refine T.nil ?_
  refine T.then_normal ?_
  refine T.seq ?_
  refine T.region ?_
  refine T.move .list rfl (wants0 rfl) rfl rfl ?_
  refine T.bin .list rfl (wants0 rfl) rfl rfl rfl rfl ?_
  refine T.nil ?_
  refine T.then_normal ?_
  refine T.condP (p := v = 2) rfl rfl (fun h2 => ?_) (fun h2 => ?_)
  ·subst h2
   obtain ⟨j, u, hfn, hM', hle⟩ := hM.drop (mem_left he).1 hk hm
   refine T.region ?_
   refine T.move .list rfl (wants0 rfl) rfl rfl ?_
   refine T.nilCheck .list rfl (wants0 rfl) rfl rfl ?_
   refine T.field .list rfl (wants0 rfl) rfl rfl ?_
   refine T.load .list 1 rfl rfl (wants0 rfl) rfl rfl rfl ?_
   refine T.move .list rfl (wants0 rfl) rfl rfl ?_
   refine T.deleteM .list 2 rfl hfn rfl (wants0 rfl) rfl rfl rfl ?_
   refine T.nil ?_
   refine T.in_normal ?_
   refine T.then_normal ?_
   refine T.le (env' := [(8, .pointer (some ⟨r, 0, none⟩)), (0, .pointer (some ⟨p0, 0, none⟩))]) ⟨rfl, rfl, trivial⟩ ?_
   exact hK ⟨_, hM'⟩ (Nat.lt_of_le_of_lt hle (left_shrinks es s e he))
  ·refine T.skip ?_
   refine T.in_normal ?_
   refine T.then_normal ?_
   refine T.le (env' := [(8, .pointer (some ⟨r, 0, none⟩)), (0, .pointer (some ⟨p0, 0, none⟩))]) ⟨rfl, rfl, trivial⟩ ?_
   exact hK ⟨(es, s.push e.born, m), hM.skip (mem_left he).1 (by rw [hv]; intro h; cases h; exact h2 rfl)⟩ (left_shrinks es s e he)
end Go.Proofs.Ytccifnjlfhdpiaa
