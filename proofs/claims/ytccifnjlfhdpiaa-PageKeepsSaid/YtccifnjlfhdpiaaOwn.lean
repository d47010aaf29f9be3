/- Slices of one's own that lie in an array: their headers, and what they lead to. -/
import Derived.Test.YtccifnjlfhdpiaaMap
set_option linter.unusedVariables false
set_option linter.unusedSimpArgs false
set_option linter.unusedSectionVars false
namespace Go.Proofs.Ytccifnjlfhdpiaa
open Go.RowKit
abbrev Ads := Nat → Option Addr × Nat
def upd (ads : Ads) (i : Nat) (a : Option Addr × Nat) : Ads := fun j => if j = i then a else ads j
def noAds : Ads := fun _ => (none, 0)
def tlA (ads : Ads) : Ads := fun j => ads (j + 1)
theorem upd_0 (ads : Ads) (a : Option Addr × Nat) : upd ads 0 a 0 = a := rfl
theorem upd_self (ads : Ads) (i : Nat) (a : Option Addr × Nat) : upd ads i a i = a := by simp [upd]
theorem upd_s0 (ads : Ads) (i : Nat) (a : Option Addr × Nat) : upd ads (i + 1) a 0 = ads 0 := by simp [upd]
theorem tl_upd0 (ads : Ads) (a : Option Addr × Nat) : tlA (upd ads 0 a) = tlA ads := by funext j; simp [tlA, upd]
theorem tl_upd (ads : Ads) (i : Nat) (a : Option Addr × Nat) : tlA (upd ads (i + 1) a) = upd (tlA ads) i a := by funext j; simp [tlA, upd]
theorem upd_upd (ads : Ads) (i : Nat) (a b : Option Addr × Nat) : upd (upd ads i a) i b = upd ads i b := by funext j; by_cases h : j = i <;> simp [upd, h]
theorem upd_back (ads : Ads) (i : Nat) : upd ads i (ads i) = ads := by funext j; by_cases h : j = i <;> simp [upd, h]
section
variable {P : Program} {N : Nat} {D : List Deferred} {B : World} {env env' : Env} {hs hs' : List MP} {ops : Array Oper} {Q : Exit → Act → World → Prop} {K Kn Kr : Act → World → Prop} {o : Oper} {kd : Nat}
variable {α β : Type} {E : Elt α} {A : Option Addr} {cr cap c b : Nat} {l : List α} {ls : List (List α)} {ads : Ads} {x y : Operand} {t e U T' : TypeId} {size bytes off n : Nat} {agg : Bool} {zero v : Value} {w : World}
/-- The headers. -/
def heads : Ads → List (List α) → List Value
  | _, [] => []
  | ads, l :: r => .slice (ads 0).1 l.length (ads 0).2 :: heads (tlA ads) r
theorem heads_length : ∀ {ads : Ads} {ls : List (List α)}, (heads ads ls).length = ls.length
  | _, [] => rfl
  | ads, l :: r => by simp [heads, heads_length]
theorem heads_get : ∀ {ads : Ads} {ls : List (List α)} {j : Nat}, j < ls.length → (heads ads ls)[j]? = some (.slice (ads j).1 (ls.getD j default).length (ads j).2)
  | _, [], j, h => by simp at h
  | ads, l :: r, 0, h => by simp [heads]
  | ads, l :: r, j + 1, h => by
    have := heads_get (ads := tlA ads) (ls := r) (j := j) (by simpa using h)
    simp only [heads, List.getElem?_cons_succ, this]; simp [tlA, List.getD]
theorem heads_set : ∀ {ads : Ads} {ls : List (List α)} {j : Nat} {l : List α}, (heads ads ls).set j (.slice A l.length c) = heads (upd ads j (A, c)) (ls.set j l)
  | _, [], j, l => by simp [heads]
  | ads, m :: r, 0, l => by simp [heads, upd_0, tl_upd0]
  | ads, m :: r, j + 1, l => by simp only [heads, List.set_cons_succ, upd_s0, tl_upd]; rw [heads_set]
theorem heads_nil : ∀ n, heads noAds (List.replicate n ([] : List α)) = List.replicate n (.slice none 0 0)
  | 0 => rfl
  | n + 1 => by
    rw [List.replicate_succ, List.replicate_succ, ← heads_nil n]; rfl
/-- What they lead to. -/
def Bfs (E : Elt α) (U : TypeId) : Ads → List (List α) → MP
  | _, [] => MP.emp
  | ads, l :: r => MP.star (Bf E U (ads 0).1 (ads 0).2 l) (Bfs E U (tlA ads) r)
theorem bf_nil {z h : PH} : (Bf E U none 0 ([] : List α)).p z h ↔ h = PH.emp := by
  constructor
  · rintro (⟨_, _, _, h⟩ | ⟨b, cs, sp, hA, _⟩)
    · exact h
    · cases hA
  · intro h; exact .inl ⟨rfl, rfl, rfl, h⟩
theorem Bfs.nils : ∀ (n : Nat) (z : PH), (Bfs E U noAds (List.replicate n ([] : List α))).p z PH.emp
  | 0, z => rfl
  | n + 1, z => ⟨PH.emp, PH.emp, bf_nil.2 rfl, Bfs.nils n z, PH.emp_disj _, (PH.emp_join _).symm⟩
theorem star_assoc {X Y Z : MP} {z h : PH} : (MP.star X (MP.star Y Z)).p z h ↔ (MP.star Y (MP.star X Z)).p z h := by
  have key : ∀ {X Y Z : MP}, (MP.star X (MP.star Y Z)).p z h → (MP.star Y (MP.star X Z)).p z h := by
    rintro X Y Z ⟨h1, _, a, ⟨h2, h3, b, c, d2, rfl⟩, d1, rfl⟩
    have ⟨e1, e2⟩ := PH.disj_join_r.1 d1
    refine ⟨h2, PH.join h1 h3, b, ⟨h1, h3, a, c, e2, rfl⟩, PH.disj_join_r.2 ⟨PH.disj_symm e1, d2⟩, ?_⟩
    rw [← PH.join_assoc, PH.join_comm e1, PH.join_assoc]
  exact ⟨key, key⟩
theorem star_r {X Y Z : MP} {z h : PH} (f : ∀ h, Y.p z h → Z.p z h) : (MP.star X Y).p z h → (MP.star X Z).p z h := fun ⟨h1, h2, a, b, d, e⟩ => ⟨h1, h2, a, f _ b, d, e⟩
theorem Bfs.out {z : PH} : ∀ {ads : Ads} {ls : List (List α)} {j : Nat} {h : PH}, j < ls.length → (Bfs E U ads ls).p z h → (MP.star (Bf E U (ads j).1 (ads j).2 (ls.getD j default)) (Bfs E U (upd ads j (none, 0)) (ls.set j []))).p z h
  | _, [], j, h, hj, _ => by simp at hj
  | ads, l :: r, 0, h, hj, ⟨h1, h2, a, b, d, e⟩ => by
    refine ⟨h1, h2, a, ?_, d, e⟩
    simp only [List.set_cons_zero, Bfs, upd_0, tl_upd0]
    exact ⟨PH.emp, h2, bf_nil.2 rfl, b, PH.emp_disj _, (PH.emp_join _).symm⟩
  | ads, l :: r, j + 1, h, hj, hp => by
    simp only [List.set_cons_succ, Bfs, upd_s0, tl_upd]
    refine star_assoc.1 (star_r (fun h' h2 => ?_) hp)
    have := Bfs.out (j := j) (by simpa using hj) h2
    rw [show (l :: r).getD (j + 1) default = r.getD j default by simp [List.getD]]
    exact this
theorem Bfs.into {z : PH} : ∀ {ads : Ads} {ls : List (List α)} {j : Nat} {h : PH}, j < ls.length → (MP.star (Bf E U A c l) (Bfs E U (upd ads j (none, 0)) (ls.set j []))).p z h → (Bfs E U (upd ads j (A, c)) (ls.set j l)).p z h
  | _, [], j, h, hj, _ => by simp at hj
  | ads, m :: r, 0, h, hj, hp => by
    simp only [List.set_cons_zero, Bfs, upd_0, tl_upd0] at hp ⊢
    refine star_r (fun h' h2 => ?_) hp
    obtain ⟨k1, k2, a, b, d, rfl⟩ := h2
    rw [bf_nil.1 a, PH.emp_join]; exact b
  | ads, m :: r, j + 1, h, hj, hp => by
    simp only [List.set_cons_succ, Bfs, upd_s0, tl_upd] at hp ⊢
    exact star_r (fun h' h2 => Bfs.into (by simpa using hj) h2) (star_assoc.1 hp)
theorem set_back : ∀ {ls : List (List α)} {j : Nat}, ls.set j (ls.getD j default) = ls
  | [], j => rfl
  | l :: r, 0 => rfl
  | l :: r, j + 1 => by
    have := set_back (ls := r) (j := j)
    simp only [List.set_cons_succ]
    rw [show (l :: r).getD (j + 1) default = r.getD j default by simp [List.getD], this]
theorem Bfs.back {z : PH} {j : Nat} {h : PH} (hj : j < ls.length) (hp : (MP.star (Bf E U (ads j).1 (ads j).2 (ls.getD j default)) (Bfs E U (upd ads j (none, 0)) (ls.set j []))).p z h) : (Bfs E U ads ls).p z h := by
  have := Bfs.into hj hp
  rwa [upd_back, set_back] at this
theorem St.openAt (hS : St B hs w) (i : Nat) {X Y : MP} (hi : hs[i]? = some (MP.star X Y)) : St B (X :: hs.set i Y) w :=
  hS.map fun z h hp => by
    obtain ⟨h1, h2, ⟨k1, k2, a, b, d, rfl⟩, hd, rfl, hset⟩ := hp.get hi
    have ⟨d1, d2⟩ := PH.disj_join_l.1 hd
    have := hset Y z k2 (PH.le_refl _) b d2
    exact ⟨_, ⟨k1, _, a, this, PH.disj_join_r.2 ⟨d, d1⟩, rfl⟩, by rw [PH.join_assoc]; exact PH.le_refl _⟩
/-- One of them comes to the front. -/
theorem T.focus (i j : Nat) (hi : hs[i]? = some (Bfs E U ads ls)) (hj : j < ls.length) (he : hs.set i (Bfs E U (upd ads j (none, 0)) (ls.set j [])) = hs')
    (h : T N D B env (Bf E U (ads j).1 (ads j).2 (ls.getD j default) :: hs') K) : T N D B env hs K :=
  T.st (fun w hS => by
    subst he
    have h1 := hS.conseq i hi fun z h hp => Bfs.out hj hp
    have h2 := h1.openAt i (X := Bf E U (ads j).1 (ads j).2 (ls.getD j default)) (Y := Bfs E U (upd ads j (none, 0)) (ls.set j [])) (by rw [List.getElem?_set_self (List.getElem?_eq_some_iff.1 hi).1])
    rwa [List.set_set] at h2) h
/-- It goes back as it was: the two stand in front. -/
theorem T.unfocus (j : Nat) (hj : j < ls.length) (h : T N D B env (Bfs E U ads ls :: hs) K) : T N D B env (Bf E U (ads j).1 (ads j).2 (ls.getD j default) :: Bfs E U (upd ads j (none, 0)) (ls.set j []) :: hs) K :=
  T.st (fun w hS => by
    have h1 := hS.close2
    exact h1.conseq 0 rfl fun z h hp => Bfs.back hj hp) h
/-- Another one comes in its place. -/
theorem T.fillIn (j : Nat) (hj : j < ls.length) (h : T N D B env (Bfs E U (upd ads j (A, c)) (ls.set j l) :: hs) K) : T N D B env (Bf E U A c l :: Bfs E U (upd ads j (none, 0)) (ls.set j []) :: hs) K :=
  T.st (fun w hS => by
    have h1 := hS.close2
    exact h1.conseq 0 rfl fun z h hp => Bfs.into hj hp) h
theorem T.allocOw (n : Nat) (E : Elt α) (T' : TypeId) (cx : Cx P ops Q o Kn Kr (kd + 2)) [ht : TI P t n bytes true (.agg (List.replicate n (.slice none 0 0)).toArray)] (ho : o.op = .alloc t) (hw : wants ops env o true) (hf : fits N o = true)
    (h : ∀ b, T N D B (ptE o (.pointer (some ⟨b, 0, none⟩)) env) (Cl b t (heads noAds (List.replicate n ([] : List α))) :: Bfs E T' noAds (List.replicate n ([] : List α)) :: hs) Kr) : T N D B env hs Kn :=
  T.st (fun w hS => hS.tell (A := Bfs E T' noAds (List.replicate n ([] : List α))) (Bfs.nils n)) (T.alloc cx ho hw hf (fun b => by
    have e : ((Value.agg (List.replicate n (.slice none 0 0)).toArray).cells).toList = heads noAds (List.replicate n ([] : List α)) := by simp [Value.cells, heads_nil]
    rw [e]; exact h b))
theorem T.ldOw (cx : Cx P ops Q o Kn Kr (kd + 1)) (i : Nat) [ht : TI P t 1 bytes false zero] (hi : hs[i]? = some (Cl b T' (heads ads ls))) (ho : o.op = .load t x) (hw : wants ops env o true) (hf : fits N o = true) (hx : ev env x = some (.pointer (some ⟨b, off, none⟩))) (hj : off < ls.length)
    (h : T N D B (ptE o (.slice (ads off).1 (ls.getD off default).length (ads off).2) env) hs Kr) : T N D B env hs Kn :=
  T.load cx i hi ho hw hf hx (heads_get hj) h
theorem T.stOw (cx : Cx P ops Q o Kn Kr (kd + 2)) (i : Nat) {l : List α} {n : Nat} {hs' : List MP} [ht : TI P t 1 bytes false zero] (hi : hs[i]? = some (Cl b T' (heads ads ls))) (ho : o.op = .store t x y) (hw : wants ops env o true) (hf : fits N o = true) (hx : ev env x = some (.pointer (some ⟨b, off, none⟩))) (hy : ev env y = some (.slice A n c)) (hn : n = l.length) (hj : off < ls.length)
    (he : hs.set i (Cl b T' (heads (upd ads off (A, c)) (ls.set off l))) = hs') (h : T N D B (ptE o undef env) hs' Kr) : T N D B env hs Kn := by
  subst hn
  refine T.store cx i hi ho hw hf hx hy rfl (by rw [heads_length]; exact hj) rfl (cs' := heads (upd ads off (A, c)) (ls.set off l)) ?_ he h
  rw [← heads_set]
  have : off < (heads ads ls).length := by rw [heads_length]; exact hj
  simp [splice, Value.cells, List.set_eq_take_append_cons_drop, this]
theorem run_ldBf1 [Inhabited α] (i : Nat) {enc : α → Value} {h1' : ∀ x, (enc x).oneCell' = true} {j : Int} [ht : TI P t 1 bytes false zero] (hi : hs[i]? = some (Bf (Elt.sc enc h1') U A cap l)) (ho : o.op = .load t x) (hx : ev env x = some (ep A (j.toNat * 1))) (h0 : 0 ≤ j) (hj : j < (l.length : Int)) :
    ∀ a w, Holds env a → St B hs w → (execOp a.eval o).run P w = .ok (.value (enc (l.getD j.toNat default))) w := fun a w h3 hS => by
  obtain ⟨b, off, cs, ty, fr, vs, z, rfl, hb, hE, hv, _⟩ := rdBf hS hi (j := j.toNat) (by omega)
  have hE : vs = [enc (l.getD j.toNat default)] := hE
  subst hE
  have hc : cs[off + j.toNat * 1 + 0]? = some (enc (l.getD j.toNat default)) := hv 0 _ rfl
  have := run_load1 (P := P) (w := w) (off := off + j.toNat * 1) (v := enc (l.getD j.toNat default)) ht hb (by simpa using hc)
  simp only [execOp, ho, h3.eval hx, ep_some, Sem.run_bind, this, Result.andThen_ok, Sem.run_pure]
end
end Go.Proofs.Ytccifnjlfhdpiaa
