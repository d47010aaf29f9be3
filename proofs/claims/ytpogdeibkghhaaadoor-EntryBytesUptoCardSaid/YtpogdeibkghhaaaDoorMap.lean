/- Maps keyed by whole numbers; copy; pointers held against nil. -/
import Derived.Test.YtpogdeibkghhaaaDoorObj
import Derived.Laws.CopyRow
import Derived.Laws.IdiomCopy
set_option linter.unusedVariables false
set_option linter.unusedSimpArgs false
namespace Go.Proofs.YtpogdeibkghhaaaDoor
open Go.RowKit
/-! ### Maps as lists -/
def mget {α : Type} : List (Int × α) → Int → Option α
  | [], _ => none
  | (k, v) :: r, q => if q = k then some v else mget r q
def mset {α : Type} : List (Int × α) → Int → α → List (Int × α)
  | [], q, v => [(q, v)]
  | (k, u) :: r, q, v => if q = k then (q, v) :: r else (k, u) :: mset r q v
/-- The values of a map, in cells. -/
def VEnc {α : Type} (E : Elt α) (z : PH) : List (Int × α) → List (Int × Value) → Prop
  | [], kv => kv = []
  | (k, a) :: m, kv => ∃ v r, kv = (k, v) :: r ∧ E.E z a [v] ∧ VEnc E z m r
section
variable {α : Type} {E : Elt α} {z z' : PH}
theorem VEnc.up (hz : PH.le z z') : ∀ {m : List (Int × α)} {kv : List (Int × Value)}, VEnc E z m kv → VEnc E z' m kv
  | [], _, h => h
  | (_, _) :: _, _, ⟨v, r, h1, h2, h3⟩ => ⟨v, r, h1, E.up _ _ _ _ hz h2, VEnc.up hz h3⟩
theorem VEnc.get (q : Int) : ∀ {m : List (Int × α)} {kv : List (Int × Value)}, VEnc E z m kv → (mget m q = none ∧ mget kv q = none) ∨ ∃ a v, mget m q = some a ∧ mget kv q = some v ∧ E.E z a [v]
  | [], kv, h => by cases h; exact .inl ⟨rfl, rfl⟩
  | (k, a) :: m, _, ⟨v, r, rfl, h2, h3⟩ => by
    by_cases e : q = k
    · exact .inr ⟨a, v, by simp [mget, e], by simp [mget, e], h2⟩
    · rcases VEnc.get q h3 with ⟨a1, a2⟩ | ⟨a', v', a1, a2, a3⟩
      · exact .inl ⟨by simp [mget, e, a1], by simp [mget, e, a2]⟩
      · exact .inr ⟨a', v', by simp [mget, e, a1], by simp [mget, e, a2], a3⟩
theorem VEnc.set (q : Int) {b : α} {u : Value} (hb : E.E z b [u]) : ∀ {m : List (Int × α)} {kv : List (Int × Value)}, VEnc E z m kv → VEnc E z (mset m q b) (mset kv q u)
  | [], kv, h => by cases h; exact ⟨u, [], rfl, hb, rfl⟩
  | (k, a) :: m, _, ⟨v, r, rfl, h2, h3⟩ => by
    by_cases e : q = k
    · simp only [mset, e, if_true]; exact ⟨u, r, rfl, hb, h3⟩
    · simp only [mset, e, if_false]; exact ⟨v, _, rfl, h2, VEnc.set q hb h3⟩
theorem VEnc.length : ∀ {m : List (Int × α)} {kv : List (Int × Value)}, VEnc E z m kv → kv.length = m.length
  | [], kv, h => by cases h; rfl
  | (_, _) :: m, _, ⟨v, r, rfl, h2, h3⟩ => by simp [h3.length]
end
/-- A pointer that may be nil, and what it leads to. -/
def optp {α : Type} (r : Option α) (b : Nat) : Value := match r with | none => .pointer none | some _ => .pointer (some ⟨b, 0, none⟩)
def optc {α : Type} (r : Option α) (f : α → List MP) : List MP := match r with | none => [] | some v => f v
@[simp] theorem optp_none {α : Type} (b : Nat) : optp (none : Option α) b = .pointer none := rfl
@[simp] theorem optp_some {α : Type} (v : α) (b : Nat) : optp (some v) b = .pointer (some ⟨b, 0, none⟩) := rfl
@[simp] theorem optc_none {α : Type} (f : α → List MP) : optc none f = [] := rfl
@[simp] theorem optc_some {α : Type} (v : α) (f : α → List MP) : optc (some v) f = f v := rfl
/-- Entries are told apart by the time at which they came. -/
def Born (es : Array MapEntry) (clock : Nat) : Prop := (es.toList.map (·.born)).Nodup ∧ ∀ e ∈ es.toList, e.born < clock
theorem map_modify_same {α β : Type} (f : α → β) (g : α → α) (hg : ∀ x, f (g x) = f x) : ∀ (l : List α) (j : Nat), (l.modify j g).map f = l.map f
  | [], j => by simp
  | x :: l, 0 => by simp [hg]
  | x :: l, j + 1 => by
    have := map_modify_same f g hg l j
    simp [this]
theorem Born.modify {es : Array MapEntry} {clock : Nat} (h : Born es clock) (j : Nat) (k v : Value) : Born (es.modify j fun e => { e with key := k, val := v }) clock := by
  have key : ((es.modify j fun e => { e with key := k, val := v }).toList.map (·.born)) = es.toList.map (·.born) := by
    rw [Array.toList_modify]
    exact map_modify_same (fun e : MapEntry => e.born) (fun e => { e with key := k, val := v }) (fun _ => rfl) es.toList j
  refine ⟨by rw [key]; exact h.1, fun e he => ?_⟩
  have : e.born ∈ (es.modify j fun e => { e with key := k, val := v }).toList.map (·.born) := List.mem_map_of_mem he
  rw [key] at this
  obtain ⟨e', he', e2⟩ := List.mem_map.1 this
  have := h.2 e' he'
  omega
section
variable {P : Program} {N : Nat} {D : List Deferred} {B : World} {env env' : Env} {hs hs' : List MP} {ops : Array Oper} {Q : Exit → Act → World → Prop} {K Kn Kr : Act → World → Prop} {o : Oper} {kd : Nat}
variable {α β : Type} {E : Elt α} {F : Elt β} {A : Option Addr} {cr cap : Nat} {l : List α} {x y : Operand} {t e : TypeId} {size bytes esz off : Nat} {agg : Bool} {zero v : Value} {w : World}
/-! ### Pointers held against nil -/
/-! ### copy -/
theorem Encs.one1 {enc : α → Value} {h1' : ∀ x, (enc x).oneCell' = true} {z : PH} : ∀ {l : List α} {cs : List Value}, Encs (Elt.sc enc h1') z l cs → cs = l.map enc
  | [], _, h => h
  | x :: l, _, ⟨vs, r, h, e, f⟩ => by
    have e : vs = [enc x] := e
    rw [h, e, Encs.one1 f]; rfl
end
end Go.Proofs.YtpogdeibkghhaaaDoor
