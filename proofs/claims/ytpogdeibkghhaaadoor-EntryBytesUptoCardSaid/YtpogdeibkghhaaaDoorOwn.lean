/- Slices of one's own that lie in an array: their headers, and what they lead to. -/
import Derived.Test.YtpogdeibkghhaaaDoorMap
set_option linter.unusedVariables false
set_option linter.unusedSimpArgs false
set_option linter.unusedSectionVars false
namespace Go.Proofs.YtpogdeibkghhaaaDoor
open Go.RowKit
abbrev Ads := Nat → Option Addr × Nat
def upd (ads : Ads) (i : Nat) (a : Option Addr × Nat) : Ads := fun j => if j = i then a else ads j
def tlA (ads : Ads) : Ads := fun j => ads (j + 1)
theorem upd_0 (ads : Ads) (a : Option Addr × Nat) : upd ads 0 a 0 = a := rfl
theorem upd_s0 (ads : Ads) (i : Nat) (a : Option Addr × Nat) : upd ads (i + 1) a 0 = ads 0 := by simp [upd]
theorem tl_upd0 (ads : Ads) (a : Option Addr × Nat) : tlA (upd ads 0 a) = tlA ads := by funext j; simp [tlA, upd]
theorem tl_upd (ads : Ads) (i : Nat) (a : Option Addr × Nat) : tlA (upd ads (i + 1) a) = upd (tlA ads) i a := by funext j; simp [tlA, upd]
section
variable {P : Program} {N : Nat} {D : List Deferred} {B : World} {env env' : Env} {hs hs' : List MP} {ops : Array Oper} {Q : Exit → Act → World → Prop} {K Kn Kr : Act → World → Prop} {o : Oper} {kd : Nat}
variable {α β : Type} {E : Elt α} {A : Option Addr} {cr cap c b : Nat} {l : List α} {ls : List (List α)} {ads : Ads} {x y : Operand} {t e U T' : TypeId} {size bytes off n : Nat} {agg : Bool} {zero v : Value} {w : World}
/-- What they lead to. -/
def Bfs (E : Elt α) (U : TypeId) : Ads → List (List α) → MP
  | _, [] => MP.emp
  | ads, l :: r => MP.star (Bf E U (ads 0).1 (ads 0).2 l) (Bfs E U (tlA ads) r)
theorem bf_nil {z h : PH} : (Bf E U none 0 ([] : List α)).p z h ↔ h = PH.emp := by
  constructor
  · rintro (⟨_, _, _, h⟩ | ⟨b, cs, sp, hA, _⟩)
    · exact h
    · cases hA
  · intro h; exact .inl ⟨rfl, rfl, rfl, h⟩
theorem star_assoc {X Y Z : MP} {z h : PH} : (MP.star X (MP.star Y Z)).p z h ↔ (MP.star Y (MP.star X Z)).p z h := by
  have key : ∀ {X Y Z : MP}, (MP.star X (MP.star Y Z)).p z h → (MP.star Y (MP.star X Z)).p z h := by
    rintro X Y Z ⟨h1, _, a, ⟨h2, h3, b, c, d2, rfl⟩, d1, rfl⟩
    have ⟨e1, e2⟩ := PH.disj_join_r.1 d1
    refine ⟨h2, PH.join h1 h3, b, ⟨h1, h3, a, c, e2, rfl⟩, PH.disj_join_r.2 ⟨PH.disj_symm e1, d2⟩, ?_⟩
    rw [← PH.join_assoc, PH.join_comm e1, PH.join_assoc]
  exact ⟨key, key⟩
theorem star_r {X Y Z : MP} {z h : PH} (f : ∀ h, Y.p z h → Z.p z h) : (MP.star X Y).p z h → (MP.star X Z).p z h := fun ⟨h1, h2, a, b, d, e⟩ => ⟨h1, h2, a, f _ b, d, e⟩
theorem Bfs.out {z : PH} : ∀ {ads : Ads} {ls : List (List α)} {j : Nat} {h : PH}, j < ls.length → (Bfs E U ads ls).p z h → (MP.star (Bf E U (ads j).1 (ads j).2 (ls.getD j default)) (Bfs E U (upd ads j (none, 0)) (ls.set j []))).p z h
  | _, [], j, h, hj, _ => by simp at hj
  | ads, l :: r, 0, h, hj, ⟨h1, h2, a, b, d, e⟩ => by
    refine ⟨h1, h2, a, ?_, d, e⟩
    simp only [List.set_cons_zero, Bfs, upd_0, tl_upd0]
    exact ⟨PH.emp, h2, bf_nil.2 rfl, b, PH.emp_disj _, (PH.emp_join _).symm⟩
  | ads, l :: r, j + 1, h, hj, hp => by
    simp only [List.set_cons_succ, Bfs, upd_s0, tl_upd]
    refine star_assoc.1 (star_r (fun h' h2 => ?_) hp)
    have := Bfs.out (j := j) (by simpa using hj) h2
    rw [show (l :: r).getD (j + 1) default = r.getD j default by simp [List.getD]]
    exact this
end
end Go.Proofs.YtpogdeibkghhaaaDoor
