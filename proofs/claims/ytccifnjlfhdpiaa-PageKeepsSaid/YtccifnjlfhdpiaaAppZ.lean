/- append(b, make([]byte, n)...): noughts behind bytes. -/
import Derived.Test.YtccifnjlfhdpiaaObj
set_option linter.unusedVariables false
set_option linter.unusedSimpArgs false
set_option linter.unusedSectionVars false
namespace Go.Proofs.Ytccifnjlfhdpiaa
open Go.RowKit
section
variable {P : Program} {N : Nat} {D : List Deferred} {B : World} {env : Env} {hs : List MP} {Q : Exit → Act → World → Prop} {w : World}
variable {ops : Array Oper} {o : Oper} {Kn Kr : Act → World → Prop} {kd : Nat} {x y : Operand} {t ti ts ty e : TypeId} {inf : TypeInfo} {k : IntKind} {A : Option Addr} {n cap sLen sCap : Nat}
theorem zeroCells1 (n : Nat) : Builtin.zeroCells #[Value.int .u8 0] n = ((List.replicate n (0 : UInt8)).map b8).toArray := by
  unfold Builtin.zeroCells
  apply Array.ext'
  rw [toList_range_map]
  apply List.ext_getElem
  · simp
  · intro i h1 h2
    simp [b8, Nat.mod_one]
theorem zero_cells (n : Nat) (w : World) : (Builtin.firstCells 1 n (.string ⟨(List.replicate n (0 : UInt8)).toArray⟩)).run P w = .ok (Builtin.zeroCells #[Value.int .u8 0] n) w := by
  rw [zeroCells1]
  have e : (ByteArray.mk (List.replicate n (0 : UInt8)).toArray).size = n := by simp [ByteArray.size]
  have := firstCells_string (P := P) ⟨(List.replicate n (0 : UInt8)).toArray⟩ w
  rw [e] at this
  rw [this]
  simp [byteCells, b8]
theorem append_zero_eq {s : ByteArray} (hlen : s.size = n) (hc : ∀ w, (Builtin.firstCells 1 n (.string s)).run P w = .ok (Builtin.zeroCells #[Value.int .u8 0] n) w) (ht : P.underlying t = some (.slice e)) (hti : P.underlying ti = some (.int k)) (hts : P.underlying ts = some .string) (hi : P.info? e = some inf) (hsz : inf.size = 1) (hz : inf.zero = some (.int .u8 0)) (hby : inf.bytes = 1) (hn : (sLen + n) * 1 ≤ 140737488355328) :
    (Builtin.append_ #[t, ti] ty #[.slice A sLen sCap, .int .i64 (n : Int)]).run P w = (Builtin.append_ #[t, ts] ty #[.slice A sLen sCap, .string s]).run P w := by
  have hw : IntKind.i64.wrap (n : Int) = (n : Int) := by rw [IntKind.wrap_i64]; omega
  have hw0 : IntKind.i64.wrap 0 = 0 := by rw [IntKind.wrap_i64]; omega
  have hneg : ¬ ((n : Int) < 0) := by omega
  have hbig : ¬ (281474976710656 < (n : Int)) := by omega
  have hn2 : sLen + n ≤ 140737488355328 := by omega
  have hcz : (Value.int IntKind.u8 0).cells = #[Value.int .u8 0] := rfl
  have hz0 : Builtin.zeroCells #[Value.int .u8 0] 0 = #[] := by rw [zeroCells1]; rfl
  by_cases hroom : sLen + n ≤ sCap
  · by_cases h0 : n = 0
    · subst h0
      rw [hz0] at hc
      simp only [Nat.add_zero] at hroom
      simp [Builtin.append_, run_underlying ht, run_underlying hti, run_underlying hts, sizeOf, typeInfo, zeroValue, hi, hsz, hz, hby, asInt, asIntOf, hw, hw0, hneg, hbig, Builtin.lenOf, hlen, hroom, hz0, hc]
    · simp [Builtin.append_, run_underlying ht, run_underlying hti, run_underlying hts, sizeOf, typeInfo, zeroValue, hi, hsz, hz, hby, asInt, asIntOf, hw, hw0, hneg, hbig, Builtin.lenOf, hlen, hroom, hc, hcz, h0]
  · have hlt : sCap < sLen + n := by omega
    have hfit := growslice_fits (need := sLen + n) (old := sCap) (bytes := 1) hlt (by omega)
    have hfit' : ¬ (281474976710656 < Builtin.nextslicecap (sLen + n) sCap) := by omega
    have h63 : ¬ (9223372036854775807 < (sLen : Int) + (n : Int)) := by omega
    by_cases h0 : n = 0
    · subst h0
      rw [hz0] at hc
      have h63' : ¬ (9223372036854775807 < (sLen : Int)) := by omega
      simp only [Nat.add_zero] at hroom hfit'
      simp [Builtin.append_, run_underlying ht, run_underlying hti, run_underlying hts, sizeOf, typeInfo, zeroValue, hi, hsz, hz, hby, asInt, asIntOf, hw, hw0, hneg, hbig, Builtin.lenOf, hlen, hroom, hz0, hc, hcz, h63', hfit']
    · simp [Builtin.append_, run_underlying ht, run_underlying hti, run_underlying hts, sizeOf, typeInfo, zeroValue, hi, hsz, hz, hby, asInt, asIntOf, hw, hw0, hneg, hbig, Builtin.lenOf, hlen, hroom, hc, hcz, h0, h63, hfit']
theorem T.appZero (cx : Cx P ops Q o Kn Kr (kd + 2)) (i : Nat) {ts : TypeId} {l : List UInt8} {j : Int} {hs' : Option Addr → Nat → List MP} (hi : hs[i]? = some (Bf E8 e A cap l)) [hsl : SL P t e] [hst : STR P ts] [hit : INT P ti .i64] [ht : TI P e 1 1 false (.int .u8 0)]
    (ho : o.op = .call { callee := .builtin .append, args := #[x, y], argTypes := #[t, ti] }) (hw : wants ops env o true) (hf : fits N o = true)
    (hx : ev env x = some (.slice A n cap)) (hn : n = l.length) (hy : ev env y = some (.int .i64 j)) (hj : 0 ≤ j) (hb : (l.length + j.toNat) * 1 ≤ 140737488355328)
    (he : ∀ A' cap', hs.set i (Bf E8 e A' cap' (l ++ List.replicate j.toNat 0)) = hs' A' cap')
    (h : ∀ A' cap', T N D B (ptE o (.slice A' (l ++ List.replicate j.toNat 0).length cap') env) (hs' A' cap') Kr) : T N D B env hs Kn :=
  T.valW cx (X := Option Addr × Nat) (v := fun q => .slice q.1 (l ++ List.replicate j.toNat 0).length q.2) (hs' := fun q => hs' q.1 q.2) hw hf (fun a w h3 h4 => by
    subst hn
    obtain ⟨m, rfl⟩ := Int.eq_ofNat_of_zero_le hj
    simp only [Int.toNat_natCast] at hb he ⊢
    obtain ⟨inf, hinf, hz0, hsz, hby⟩ := ht.get
    have hlen : (ByteArray.mk (List.replicate m (0 : UInt8)).toArray).size = m := by simp [ByteArray.size]
    have heq := append_zero_eq (P := P) (w := w) (ty := o.type) (A := A) (sLen := l.length) (sCap := cap) hlen (zero_cells m) hsl.eq hit.eq hst.eq hinf hsz hz0 hby hb
    obtain ⟨A', cap', w', hr, hS⟩ := h4.append (ty := o.type) (tx := ts) (l2 := List.replicate m 0) hi hsl ht rfl (by omega) (xv := .string ⟨(List.replicate m (0 : UInt8)).toArray⟩) (fun z h ho hz hh => by
      refine ⟨(List.replicate m (0 : UInt8)).map b8, Encs.sc _, ?_⟩
      have := Src.ofString (P := P) w hst.eq ⟨(List.replicate m (0 : UInt8)).toArray⟩
      rw [hlen] at this
      simpa [byteCells, b8] using this) (by simpa using hb) (by simp [maxLen]; omega)
    refine ⟨(A', cap'), w', ?_, by rw [← he]; exact hS⟩
    simp only [execOp, ho, resolve, invoke, builtin, Sem.run_bind, Sem.run_pure, Result.andThen_ok, List.map_toArray, List.map_cons, List.map_nil, h3.eval hx, h3.eval hy, heq, hr]) (fun q => h q.1 q.2)
end
end Go.Proofs.Ytccifnjlfhdpiaa
