/- Layer 4's own: a map's length, its entries in turn; cuts of three; what is one's own, from a place on. -/
import Derived.Test.YtccifnjlfhdpiaaBuf
import Derived.Maps.RangeRun
set_option linter.unusedVariables false
set_option linter.unusedSimpArgs false
set_option linter.unusedSectionVars false
namespace Go.Proofs.Ytccifnjlfhdpiaa
open Go.RowKit
section
variable {P : Program} {N : Nat} {D : List Deferred} {B : World} {env env' : Env} {hs hs' : List MP} {ops : Array Oper} {Q : Exit → Act → World → Prop} {K Kn Kr : Act → World → Prop} {o : Oper} {kd : Nat}
variable {α : Type} {E : Elt α} {A : Option Addr} {cr cap n : Nat} {l : List α} {x y : Operand} {t tx e : TypeId} {size bytes : Nat} {agg : Bool} {zero v : Value} {w : World}
/-- len of a map. -/
theorem T.lenMap (cx : Cx P ops Q o Kn Kr (kd + 1)) (i : Nat) {b : Nat} {m : List (Int × α)} {k ek : TypeId} [hm : MPT P t k ek] (hi : hs[i]? = some (Mp E b m)) (ho : o.op = .call { callee := .builtin .len, args := #[x], argTypes := #[t] }) (hw : wants ops env o true) (hf : fits N o = true) (hx : ev env x = some (.map (some b)))
    (h : T N D B (ptE o (.int .i64 (m.length : Int)) env) hs Kr) : T N D B env hs Kn :=
  T.val cx _ hw hf (fun a w h3 h4 => by
    obtain ⟨z, g, ⟨es, clock, kv, rfl, hes, hV, _⟩, hg, hz⟩ := h4.fact hi
    have hb : w.heap[b]? = some (.map es clock) := hg b _ (PH.one_self _ _)
    have hgo : (getObj b).run P w = .ok (.map es clock) w := by simp [getObj, Sem.run, hb]
    have hl : es.size = m.length := by rw [← hV.length, ← ents_len hes, Array.length_toList]
    simp [execOp, ho, resolve, invoke, builtin, Builtin.len_, run_underlying hm.eq, h3.eval hx, hgo, goInt, hl]) h
/-- append(read, own...), where there is no room. -/
theorem T.appGrow (cx : Cx P ops Q o Kn Kr (kd + 2)) (i j : Nat) {l l2 : List UInt8} {xA : Option Addr} {m xc xc' : Nat} {T' : TypeId} (hi : hs[i]? = some (Ro E8 A cr l)) (hj : hs[j]? = some (Bf E8 T' xA xc' l2)) [hsl : SL P t e] [hsl' : SL P tx e] [ht : TI P e 1 1 false zero]
    (ho : o.op = .call { callee := .builtin .append, args := #[x, y], argTypes := #[t, tx] }) (hw : wants ops env o true) (hf : fits N o = true)
    (hx : ev env x = some (.slice A n cap)) (hn : n = l.length) (hy : ev env y = some (.slice xA m xc)) (hm' : m = l2.length) (hb : cap < l.length + l2.length ∧ l.length + l2.length ≤ 140737488355328)
    (h : ∀ A' cap', T N D B (ptE o (.slice A' (l ++ l2).length cap') env) (Bf E8 e A' cap' (l ++ l2) :: hs) Kr) : T N D B env hs Kn :=
  T.valW cx (X := Option Addr × Nat) (v := fun q => .slice q.1 (l ++ l2).length q.2) (hs' := fun q => Bf E8 e q.1 q.2 (l ++ l2) :: hs) hw hf (fun a w h3 h4 => by
    subst hn; subst hm'
    obtain ⟨hlt, hb⟩ := hb
    obtain ⟨inf, hinf, hz0, hsz', hby⟩ := ht.get
    obtain ⟨z1, g1, ⟨_, hR, _⟩, hg1, hz1⟩ := h4.fact hi
    obtain ⟨z2, g2, hp2, hg2, hz2⟩ := h4.fact hj
    obtain ⟨olds, ho1, ho2⟩ := Rd.cells l hR
    obtain ⟨news, hnews, hS⟩ := src_bf (w := w) (P := P) (tx := tx) (size := 1) (xc := xc) hp2 hg2 hsl'.eq rfl
    have e1 := encs8 ho1
    have e2 := encs8 hnews
    have hfc : (Builtin.firstCells 1 l.length (.slice A l.length cap)).run P w.drew = .ok olds.toArray w.drew := by
      by_cases h0 : l = []
      · subst h0
        have : olds = [] := by rw [e1]; rfl
        subst this
        cases A with
        | none => exact run_firstCells_none w.drew _ 0 0 cap
        | some b => exact run_firstCells_some (P := P) w.drew 1 0 b 0 cap [] rfl (fun j v hj => by simp at hj)
      · obtain ⟨b, o', cells, ty', fr, rfl, hbk, hc⟩ := ho2 h0
        refine run_firstCells_some (P := P) w.drew 1 l.length ⟨b, o', none⟩ l.length cap olds (by rw [e1]; simp) (fun j u hj => ?_)
        rw [Addr.add_mid]
        have := hc j u hj
        have hbk' : w.heap[b]? = some (.cells cells ty' fr) := hz1 b _ hbk
        simp only [World.cell?, World.drew]
        rw [hbk']
        simpa using this
    have hr := run_append_grow_src (P := P) w t tx o.type e inf zero hsl.eq hinf hz0 A l.length cap olds (by rw [hsz']; exact hfc) (.slice xA l2.length xc) l2.length news (by rw [hsz']; exact hS) hlt (by omega) (by rw [hby]; exact growslice_fits hlt (by omega))
    have hcap := grownCap_ge w (l.length + l2.length) cap e
    have hcm := grownCap_le_maxLen w (l.length + l2.length) cap e (by simp only [maxLen]; omega)
    generalize grownCap w (l.length + l2.length) cap e = nc at *
    have hblk : ((olds ++ news).toArray ++ Builtin.zeroCells zero.cells (nc - (l.length + l2.length))) = (olds ++ news ++ (Builtin.zeroCells zero.cells (nc - (l.length + l2.length))).toList).toArray := by
      apply Array.ext'; simp
    rw [hblk] at hr
    refine ⟨(some ⟨w.heap.size, 0, none⟩, nc), w.drew.alloc (.cells (olds ++ news ++ (Builtin.zeroCells zero.cells (nc - (l.length + l2.length))).toList).toArray e), ?_, ?_⟩
    · simp only [execOp, ho, resolve, invoke, builtin, Sem.run_bind, Sem.run_pure, Result.andThen_ok, List.map_toArray, List.map_cons, List.map_nil, h3.eval hx, h3.eval hy, hr, List.length_append]
    · have h5 := h4.drew
      have h6 := h5.grow (w' := w.drew.alloc (.cells (olds ++ news ++ (Builtin.zeroCells zero.cells (nc - (l.length + l2.length))).toList).toArray e)) (A := Bf E8 e (some ⟨w.heap.size, 0, none⟩) nc (l ++ l2)) (h := PH.one w.heap.size (.cells (olds ++ news ++ (Builtin.zeroCells zero.cells (nc - (l.length + l2.length))).toList).toArray e (0, 0))) (fun z hz => ?_) (fun b o' hb' => ?_) (fun b hb' => ⟨PH.one_none (by simp only [World.drew] at hb'; omega), Below.heap_alloc w.drew _ b hb'⟩) (by simp) rfl rfl rfl
      · exact h6
      · refine .inr ⟨w.heap.size, olds ++ news, _, rfl, ?_, ?_, hcm, rfl⟩
        · rw [e1, e2, ← List.map_append]; exact Encs.sc _
        · have ez : (Builtin.zeroCells zero.cells (nc - (l.length + l2.length))).toList.length = (nc - (l.length + l2.length)) * 1 := by rw [Array.length_toList, size_zeroCells, ht.zsize]
          rw [List.length_append, ez, e1, e2]
          have : (E8 : Elt UInt8).sz = 1 := rfl
          rw [this]; simp; omega
      · obtain ⟨rfl, rfl⟩ := PH.one_some hb'
        exact heap_alloc_new w.drew _) (fun q => h q.1 q.2)
/-! ### Cuts -/
theorem run_slice3 {lo : Option Value} {hi mx : Value} {a b c : Int} (hsl : SL P t e) (ht : TI P e size bytes agg zero) (hlo : lo = none ∧ a = 0 ∨ ∃ k, lo = some (.int k a)) (hhi : ∃ k, hi = .int k b) (hmx : ∃ k, mx = .int k c) (h0 : 0 ≤ a) (h1 : a ≤ b) (h2 : b ≤ c) (h3 : c ≤ (cap : Int)) :
    (Instr.sliceAt t (.slice A n cap) lo (some hi) (some mx)).run P w = .ok (.slice (if c.toNat = a.toNat then A else A.map (·.add (a.toNat * size))) (b.toNat - a.toNat) (c.toNat - a.toNat)) w := by
  obtain ⟨k1, rfl⟩ := hhi
  obtain ⟨k2, rfl⟩ := hmx
  have hc : (Instr.sliceBound (.int k2 c) cap .slice3Acap).run P w = .ok c.toNat w := by
    simp [Instr.sliceBound, asIntOf, show (0 ≤ c ∧ c ≤ (cap : Int)) from ⟨by omega, h3⟩]
  have hb : (Instr.sliceBound (.int k1 b) c.toNat .slice3B).run P w = .ok b.toNat w := by
    simp only [Instr.sliceBound, asIntOf, Sem.run_bind, Sem.run_pure, Result.andThen_ok]
    rw [if_pos ⟨by omega, by omega⟩]; rfl
  have ha : ∀ (k : IntKind) , (Instr.sliceBound (.int k a) b.toNat .slice3C).run P w = .ok a.toNat w := fun k => by
    simp only [Instr.sliceBound, asIntOf, Sem.run_bind, Sem.run_pure, Result.andThen_ok]
    rw [if_pos ⟨h0, by omega⟩]; rfl
  have hbounds : (Instr.sliceBounds true n cap lo (some (.int k1 b)) (some (.int k2 c))).run P w = .ok (a.toNat, b.toNat, c.toNat) w := by
    rcases hlo with ⟨rfl, rfl⟩ | ⟨k, rfl⟩ <;> simp [Instr.sliceBounds, hc, hb, ha]
  simp only [Instr.sliceAt, Sem.run_bind, run_underlying hsl.eq, Result.andThen_ok, Instr.slice, hbounds, ht.sizeOf, Sem.run_pure]
theorem Rd.cut3 {z : PH} {a b c : Int} (hsz : E.sz = size) (hR : Rd E z A l) (h0 : 0 ≤ a) (h1 : a ≤ b) (h2 : b ≤ c) (h3 : b ≤ (l.length : Int)) : Rd E z (cutA A c.toNat a size) (subl l a b) ∧ (subl l a b).length ≤ c.toNat - a.toNat := by
  refine ⟨?_, by rw [subl_length h0 h1 h3]; omega⟩
  subst hsz
  by_cases he : subl l a b = []
  · exact .inl he
  · have hlt : a.toNat < b.toNat := by
      have := List.length_pos_iff.2 he
      rw [subl_length h0 h1 h3] at this; omega
    unfold cutA
    rw [if_neg (by omega)]
    rcases hR.take b.toNat with hnil | ⟨bb, oo, cs, ty, fr, rfl, hb', hc'⟩
    · exfalso; apply he; simp [subl, hnil]
    · have := Rd.drop (E := E) (b := bb) (o := oo) a.toNat (show Rd E z (some ⟨bb, oo, none⟩) (l.take b.toNat) from .inr ⟨bb, oo, cs, ty, fr, rfl, hb', hc'⟩)
      simpa [Addr.add_mid, subl] using this
/-- x[lo:hi:max] of what is read. -/
theorem T.cut3 (cx : Cx P ops Q o Kn Kr kd) (i : Nat) {lo : Option Operand} {hi mx : Operand} {a b c : Int} [hsl : SL P t e] [ht : TI P e size bytes agg zero] (hsz : E.sz = size) (hi' : hs[i]? = some (Ro E A cap l)) (ho : o.op = .slice t x lo (some hi) (some mx)) (hw : wants ops env o true) (hf : fits N o = true)
    (hx : ev env x = some (.slice A n cap)) (hlo : lo = none ∧ a = 0 ∨ ∃ k z, lo = some z ∧ ev env z = some (.int k a)) (hhi : ∃ k, ev env hi = some (.int k b)) (hmx : ∃ k, ev env mx = some (.int k c)) (h0 : 0 ≤ a ∧ a ≤ b ∧ b ≤ c ∧ c ≤ (l.length : Int))
    (h : T N D B (ptE o (.slice (cutA A c.toNat a size) (subl l a b).length (c.toNat - a.toNat)) env) (Ro E (cutA A c.toNat a size) (c.toNat - a.toNat) (subl l a b) :: hs) Kr) : T N D B env hs Kn :=
  T.valQ cx _ hw hf (fun ac w g3 h4 => by
    obtain ⟨k1, hhi⟩ := hhi
    obtain ⟨k2, hmx⟩ := hmx
    have h3 : l.length ≤ cap := by
      obtain ⟨_, _, ⟨_, _, h3⟩, _, _⟩ := h4.fact hi'
      exact h3
    refine ⟨fun w' => ?_, ?_⟩
    · have hr := run_slice3 (P := P) (A := A) (n := n) (cap := cap) (w := w') (lo := lo.map ac.eval) (hi := .int k1 b) (mx := .int k2 c) (a := a) (b := b) (c := c) hsl ht
        (by rcases hlo with ⟨rfl, rfl⟩ | ⟨k, z, rfl, hz⟩; exact .inl ⟨rfl, rfl⟩; exact .inr ⟨k, by rw [Option.map_some, g3.eval hz]⟩)
        ⟨k1, rfl⟩ ⟨k2, rfl⟩ h0.1 h0.2.1 h0.2.2.1 (by omega)
      simp only [execOp, ho, g3.eval hx, Option.map_some, g3.eval hhi, g3.eval hmx, Sem.run_bind, hr, Result.andThen_ok, Sem.run_pure, subl_length h0.1 h0.2.1 (show b ≤ (l.length : Int) by omega)]; rfl
    · refine h4.dup i hi' fun z g ⟨q1, q2, q3⟩ => ?_
      obtain ⟨r1, r2⟩ := Rd.cut3 hsz q2 h0.1 h0.2.1 h0.2.2.1 (by omega)
      exact ⟨rfl, r1, r2⟩) h
/-- x[lo:hi] of what is one's own: a value alone. -/
theorem T.cutBf (cx : Cx P ops Q o Kn Kr kd) (i : Nat) {T' : TypeId} {lo hi : Option Operand} {a b : Int} [hsl : SL P t e] [ht : TI P e size bytes agg zero] (hpos : Nat.blt 0 E.sz = true) (hi' : hs[i]? = some (Bf E T' A cap l)) (ho : o.op = .slice t x lo hi none) (hw : wants ops env o true) (hf : fits N o = true)
    (hx : ev env x = some (.slice A n cap)) (hlo : lo = none ∧ a = 0 ∨ ∃ k z, lo = some z ∧ ev env z = some (.int k a)) (hhi : hi = none ∧ b = (n : Int) ∨ ∃ k z, hi = some z ∧ ev env z = some (.int k b)) (h0 : 0 ≤ a) (h1 : a ≤ b) (h2 : b ≤ (l.length : Int))
    (h : T N D B (ptE o (.slice (cutA A cap a size) (subl l a b).length (cap - a.toNat)) env) hs Kr) : T N D B env hs Kn :=
  T.valQ cx _ hw hf (fun ac w g3 h4 => by
    have h3 : l.length ≤ cap := by
      obtain ⟨_, _, hp, _, _⟩ := h4.fact hi'
      exact Bf.le hpos hp
    refine ⟨fun w' => ?_, h4⟩
    have hr := run_slice (P := P) (A := A) (n := n) (cap := cap) (w := w') (lo := lo.map ac.eval) (hi := hi.map ac.eval) (a := a) (b := b) hsl ht
      (by rcases hlo with ⟨rfl, rfl⟩ | ⟨k, z, rfl, hz⟩; exact .inl ⟨rfl, rfl⟩; exact .inr ⟨k, by rw [Option.map_some, g3.eval hz]⟩)
      (by rcases hhi with ⟨rfl, rfl⟩ | ⟨k, z, rfl, hz⟩; exact .inl ⟨rfl, rfl⟩; exact .inr ⟨k, by rw [Option.map_some, g3.eval hz]⟩) h0 h1 (by omega)
    simp only [execOp, ho, g3.eval hx, Option.map_none, Sem.run_bind, hr, Result.andThen_ok, Sem.run_pure, subl_length h0 h1 h2]; rfl) h
/-- It is lent. -/
theorem St.roCut (hS : St B hs w) (i : Nat) {T' : TypeId} {a b : Int} (hpos : Nat.blt 0 E.sz = true) (hsz : E.sz = size) (hi : hs[i]? = some (Bf E T' A cap l)) (h0 : 0 ≤ a ∧ a ≤ b ∧ b ≤ (l.length : Int)) : (Ro E (cutA A cap a size) (cap - a.toNat) (subl l a b)).p (PH.of w) PH.emp := by
  obtain ⟨_, h1, h2⟩ := hS.roBf i hpos hi
  obtain ⟨r1, r2⟩ := Rd.cut hsz h1 h2 h0.1 h0.2.1 h0.2.2
  exact ⟨rfl, r1, r2⟩
/-- It is never written again. -/
theorem T.viewCut (i : Nat) {a b : Int} (hsz : E.sz = size) (hi : hs[i]? = some (Ro E A cap l)) (h0 : 0 ≤ a ∧ a ≤ b ∧ b ≤ (l.length : Int)) (h : T N D B env (Ro E (cutA A cap a size) (cap - a.toNat) (subl l a b) :: hs) K) : T N D B env hs K :=
  T.st (fun w h4 => h4.dup i hi fun z g ⟨q1, q2, q3⟩ => by
    obtain ⟨r1, r2⟩ := Rd.cut hsz q2 q3 h0.1 h0.2.1 h0.2.2
    exact ⟨rfl, r1, r2⟩) h
/-- copy(d[a:], s): into what is one's own, from a place on. -/
theorem T.copyAt (cx : Cx P ops Q o Kn Kr (kd + 2)) (i : Nat) {enc : α → Value} {h1' : ∀ x, (enc x).oneCell' = true} {T' dT sT : TypeId} {n cap' : Nat} {a : Int} {As : Option Addr} {ns caps : Nat} {ls : List α} {x y : Operand} {hs' : List MP} [hsl : SL P dT e] [ht : TI P e 1 bytes agg zero]
    (hi : hs[i]? = some (Bf (Elt.sc enc h1') T' A cap l)) (ho : o.op = .call { callee := .builtin .copy, args := #[x, y], argTypes := #[dT, sT] }) (hw : wants ops env o true) (hf : fits N o = true) (hx : ev env x = some (.slice (cutA A cap a 1) n cap')) (hy : ev env y = some (.slice As ns caps)) (hn : n + a.toNat ≤ l.length) (hns : ns = ls.length)
    (hr : ∀ w, St B hs w → Rd (Elt.sc enc h1') (PH.of w) As ls) (he : hs.set i (Bf (Elt.sc enc h1') T' A cap (l.take a.toNat ++ ls.take (min ns n) ++ l.drop (a.toNat + min ns n))) = hs')
    (h : T N D B (ptE o (.int .i64 ((min ns n : Nat) : Int)) env) hs' Kr) : T N D B env hs Kn :=
  T.valW cx (X := Unit) (v := fun _ => .int .i64 ((min ns n : Nat) : Int)) (hs' := fun _ => hs') hw hf (fun ac w h3 h4 => by
    subst he; subst hns
    have hinf : (P.info? e).map (·.size) = some 1 := by
      obtain ⟨inf, h, _, h2, _⟩ := ht.get
      simp [h, h2]
    have hRd := hr w h4
    obtain ⟨cs0, c1, c2⟩ := Rd.cells ls hRd
    have c1 := Encs.one1 c1
    obtain ⟨zz, hh0, ho', hd, hz, hh, hT⟩ := h4
    obtain ⟨g1, g2, hA, hd12, rfl, hset⟩ := ho'.get hi
    have lh1 : PH.le g1 (PH.of w) := PH.le_trans (PH.le_join_l _ _) hh
    have lh2 : PH.le g2 (PH.of w) := PH.le_trans (PH.le_join_r hd12) hh
    have ⟨dz1, dz2⟩ := PH.disj_join_r.1 hd
    have back : ∀ {l' : List α}, l' = l → St B (hs.set i (Bf (Elt.sc enc h1') T' A cap l')) w := fun {l'} e => by
      rw [e]
      exact ⟨zz, _, hset _ zz g1 (PH.le_refl _) hA hd12, hd, hz, hh, hT⟩
    by_cases hm : min ls.length n = 0
    · refine ⟨(), w, ?_, back (by rw [hm]; simp)⟩
      have hrun := run_copy_none (P := P) w dT sT o.type e (cutA A cap a 1) As n cap' ls.length caps hsl.eq hinf hm
      simp only [execOp, ho, resolve, invoke, builtin, Sem.run_bind, Sem.run_pure, Result.andThen_ok, List.map_toArray, List.map_cons, List.map_nil, h3.eval hx, h3.eval hy, hrun, hm]
      rfl
    · rcases hA with ⟨_, _, rfl, _⟩ | ⟨b, cs, sp, rfl, hE, hcl, hcm, rfl⟩
      · simp at hn; omega
      · have hls : ls ≠ [] := by intro e; rw [e] at hm; simp at hm
        obtain ⟨b2, o2, cells, ty, fr, rfl, hb2, hc2⟩ := c2 hls
        have hblk : w.heap[b]? = some (.cells (cs ++ sp).toArray T' (0, 0)) := lh1 b _ (PH.one_self _ _)
        have hE := Encs.one1 hE
        have hsz : (Elt.sc enc h1').sz = 1 := rfl
        have hcsl : cs.length = l.length := by rw [hE]; simp
        have hml : min ls.length n ≤ ls.length := Nat.min_le_left _ _
        have hmn : min ls.length n ≤ n := Nat.min_le_right _ _
        have hcap : l.length ≤ cap := by rw [hsz] at hcl; omega
        have hcut : cutA (some ⟨b, 0, none⟩) cap a 1 = some ⟨b, a.toNat, none⟩ := by
          unfold cutA
          rw [if_neg (by omega)]
          simp [Addr.add_mid]
        have hrun := run_copy_row (P := P) w dT sT o.type e b a.toNat n cap' ⟨b2, o2, none⟩ ls.length caps (cs ++ sp).toArray T' ((ls.take (min ls.length n)).map enc) hsl.eq hinf hblk (by simp) (fun j v hj => by
          have hj' : cs0[j]? = some v := by
            rw [c1, List.getElem?_map]
            rw [List.getElem?_map, List.getElem?_take] at hj
            split at hj
            · exact hj
            · cases hj
          have := hc2 j v hj'
          rw [Addr.add_mid]
          simpa [World.cell?, show w.heap[b2]? = _ from hb2] using this) (by simp; omega) (fun v hv => by
          obtain ⟨u, _, rfl⟩ := List.mem_map.1 hv
          exact h1' u)
        have hlen : ((ls.take (min ls.length n)).map enc).length = min ls.length n := by simp
        have hnew : ((cs ++ sp).toArray.toList.take a.toNat ++ (ls.take (min ls.length n)).map enc ++ (cs ++ sp).toArray.toList.drop (a.toNat + ((ls.take (min ls.length n)).map enc).length)) = (l.take a.toNat ++ ls.take (min ls.length n) ++ l.drop (a.toNat + min ls.length n)).map enc ++ sp := by
          rw [hlen]
          simp only [List.toList_toArray]
          rw [List.take_append_of_le_length (by omega), List.drop_append_of_le_length (by omega), hE, List.map_append, List.map_append, List.map_drop, List.map_take]
          simp [List.append_assoc]
        rw [hnew, hlen] at hrun
        refine ⟨(), w.setRow b ((l.take a.toNat ++ ls.take (min ls.length n) ++ l.drop (a.toNat + min ls.length n)).map enc ++ sp).toArray, ?_, ?_⟩
        · simp only [execOp, ho, resolve, invoke, builtin, Sem.run_bind, Sem.run_pure, Result.andThen_ok, List.map_toArray, List.map_cons, List.map_nil, h3.eval hx, h3.eval hy, hcut, hrun]
          rfl
        · refine St.raw (h1' := PH.one b (.cells ((l.take a.toNat ++ ls.take (min ls.length n) ++ l.drop (a.toNat + min ls.length n)).map enc ++ sp).toArray T' (0, 0))) hset hd12 dz1 dz2 hz lh2 hT ?_ ?_ ?_ (by simp) rfl rfl rfl
          · refine .inr ⟨b, _, sp, rfl, Encs.of1 _, ?_, hcm, rfl⟩
            rw [hsz] at hcl ⊢
            simp only [List.length_map, List.length_append, List.length_take, List.length_drop]; omega
          · intro k o' hb'
            obtain ⟨rfl, rfl⟩ := PH.one_some hb'
            exact setRow_heap w _ _ _ _ _ hblk
          · intro k hb' hn'
            have hkb : k ≠ b := by rintro rfl; rw [PH.one_self] at hn'; cases hn'
            exact ⟨PH.one_none hkb, setRow_other w b k _ hkb⟩) (fun _ => h)
theorem copyAt_len {l ls : List α} {a b : Int} (h : 0 ≤ a ∧ a ≤ b ∧ b ≤ (l.length : Int)) : l.length = (l.take a.toNat ++ ls.take (min ls.length (subl l a b).length) ++ l.drop (a.toNat + min ls.length (subl l a b).length)).length := by
  have := subl_length h.1 h.2.1 h.2.2
  simp only [List.length_append, List.length_take, List.length_drop, this]; omega
end
end Go.Proofs.Ytccifnjlfhdpiaa
