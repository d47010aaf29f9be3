/- Texts: their bytes, their runes; values behind an interface. -/
import Derived.Test.YtpogdeibkghhaaaDoorStruct
import Derived.Laws.Strings2
import Derived.Laws.Cover4
import Derived.Laws.StructEq
set_option linter.unusedVariables false
set_option linter.unusedSimpArgs false
namespace Go.Proofs.YtpogdeibkghhaaaDoor
open Go.RowKit
/-- The rune at a place of a text, and how many bytes it has. -/
def runeAt (l : List UInt8) (p : Nat) : Nat × Nat := Utf8.decode ⟨l.toArray⟩ p
/-- A text that is being gone through. -/
def It (b : Nat) (l : List UInt8) (p : Nat) : MP := Ob b (.stringIter ⟨l.toArray⟩ p)
/-- A value behind an interface, by its kind; the types that the program puts there. -/
inductive Dy | nil | int (n : Int) | bool (b : Bool) | str (l : List UInt8) | unit
structure DyT where
  ti : TypeId
  tb : TypeId
  ts : TypeId
  tu : TypeId
def Dy.val (T : DyT) : Dy → Value
  | .nil => .nilIface
  | .int n => .iface T.ti (.int .i64 n)
  | .bool b => .iface T.tb (.bool b)
  | .str l => .iface T.ts (Go.Proofs.YtpogdeibkghhaaaDoor.str l)
  | .unit => .iface T.tu (.agg #[])
def Dy.isInt : Dy → Bool | .int _ => true | _ => false
def Dy.asInt : Dy → Int | .int n => n | _ => 0
def Dy.isBool : Dy → Bool | .bool _ => true | _ => false
def Dy.asBool : Dy → Bool | .bool b => b | _ => false
def Dy.isStr : Dy → Bool | .str _ => true | _ => false
def Dy.asStr : Dy → List UInt8 | .str l => l | _ => []
def Dy.isUnit : Dy → Bool | .unit => true | _ => false
/-- Are the types told apart? -/
def DyT.ok (T : DyT) : Bool := T.ti != T.tb && T.ti != T.ts && T.ti != T.tu && T.tb != T.ts && T.tb != T.tu && T.ts != T.tu
section
variable {P : Program} {N : Nat} {D : List Deferred} {B : World} {env env' : Env} {hs hs' : List MP} {ops : Array Oper} {Q : Exit → Act → World → Prop} {K Kn Kr : Act → World → Prop} {o : Oper} {kd : Nat}
variable {x y : Operand} {t e : TypeId} {size bytes : Nat} {agg : Bool} {zero v : Value} {w : World} {l : List UInt8} {Y : DyT} {d : Dy}
theorem T.range (cx : Cx P ops Q o Kn Kr (kd + 2)) [hst : STR P t] (ho : o.op = .range t x) (hw : wants ops env o true) (hf : fits N o = true) (hx : ev env x = some (str l))
    (h : ∀ b, T N D B (ptE o (.pointer (some ⟨b, 0, none⟩)) env) (It b l 0 :: hs) Kr) : T N D B env hs Kn :=
  T.valW cx (v := fun b => .pointer (some ⟨b, 0, none⟩)) hw hf (fun a w h3 h4 => ⟨w.heap.size, _, by
    simp [execOp, ho, h3.eval hx, str, Instr.range, run_underlying hst.eq, newObj, Sem.run], h4.alloc _⟩) h
theorem run_next {b p : Nat} (hb : w.heap[b]? = some (.stringIter ⟨l.toArray⟩ p)) (hp : p < l.length) : (Instr.next (.pointer (some ⟨b, 0, none⟩)) true t).run P w = .ok (.tuple #[.bool true, .int .i64 (p : Int), .int .i32 ((runeAt l p).1 : Int)]) { w with heap := w.heap.setIfInBounds b (.stringIter ⟨l.toArray⟩ (p + (runeAt l p).2)) } := by
  have hs : p < (ByteArray.mk l.toArray).size := by simpa [ByteArray.size] using hp
  simp only [Instr.next, getObj, Sem.run_bind, Sem.run, hb, Result.andThen, hs, if_true, setObj, goInt]
  rfl
theorem T.nextOver (cx : Cx P ops Q o Kn Kr (kd + 2)) (i : Nat) {b p : Nat} (hi : hs[i]? = some (It b l p)) (ho : o.op = .next x true) (hw : wants ops env o true) (hf : fits N o = true) (hx : ev env x = some (.pointer (some ⟨b, 0, none⟩))) (hp : decide (p < l.length) = false)
    (h : T N D B (ptE o (.tuple #[.bool false]) env) hs Kr) : T N D B env hs Kn :=
  T.valW cx (X := Unit) (v := fun _ => .tuple #[.bool false]) (hs' := fun _ => hs) hw hf (fun a w h3 h4 => by
    have hb := h4.obj (o := .stringIter ⟨l.toArray⟩ p) hi
    have hp : ¬ p < l.length := by simpa using hp
    have hs' : ¬ p < (ByteArray.mk l.toArray).size := by simpa [ByteArray.size] using hp
    have hr : (Instr.next (.pointer (some ⟨b, 0, none⟩)) true o.type).run P w = .ok (.tuple #[.bool false]) w := by
      simp only [Instr.next, getObj, Sem.run_bind, Sem.run, hb, Result.andThen, hs', if_false]
      rfl
    exact ⟨(), w, by simp only [execOp, ho, h3.eval hx, Sem.run_bind, hr, Result.andThen_ok, Sem.run_pure], h4⟩) (fun _ => h)
theorem T.nextMore (cx : Cx P ops Q o Kn Kr (kd + 2)) (i : Nat) {b p : Nat} {hs' : List MP} (hi : hs[i]? = some (It b l p)) (ho : o.op = .next x true) (hw : wants ops env o true) (hf : fits N o = true) (hx : ev env x = some (.pointer (some ⟨b, 0, none⟩))) (hp : decide (p < l.length) = true)
    (he : hs.set i (It b l (p + (runeAt l p).2)) = hs')
    (h : T N D B (ptE o (.tuple #[.bool true, .int .i64 (p : Int), .int .i32 ((runeAt l p).1 : Int)]) env) hs' Kr) : T N D B env hs Kn :=
  T.valW cx (X := Unit) (v := fun _ => .tuple #[.bool true, .int .i64 (p : Int), .int .i32 ((runeAt l p).1 : Int)]) (hs' := fun _ => hs') hw hf (fun a w h3 h4 => by
    have hb := h4.obj (o := .stringIter ⟨l.toArray⟩ p) hi
    have hp : p < l.length := by simpa using hp
    subst he
    refine ⟨(), _, by simp only [execOp, ho, h3.eval hx, Sem.run_bind, run_next hb hp, Result.andThen_ok, Sem.run_pure]; rfl, ?_⟩
    exact h4.setObj i hi (by simp [(Array.getElem?_eq_some_iff.1 hb).1]) (fun k hk => by simp [Array.getElem?_setIfInBounds, show ¬ b = k from fun h => hk h.symm]) (by simp) rfl rfl rfl) (fun _ => h)
/-- A value, put behind an interface. -/
theorem T.dyInt (cx : Cx P ops Q o Kn Kr kd) {n : Int} [ht : INT P Y.ti .i64] (ho : o.op = .makeInterface Y.ti x) (hw : wants ops env o true) (hf : fits N o = true) (hx : ev env x = some (.int .i64 n)) (h : T N D B (ptE o (Dy.val Y (.int n)) env) hs Kr) : T N D B env hs Kn := T.mkIface cx ho hw hf hx ht.eq rfl h
theorem T.dyStr (cx : Cx P ops Q o Kn Kr kd) [ht : STR P Y.ts] (ho : o.op = .makeInterface Y.ts x) (hw : wants ops env o true) (hf : fits N o = true) (hx : ev env x = some (str l)) (h : T N D B (ptE o (Dy.val Y (.str l)) env) hs Kr) : T N D B env hs Kn := T.mkIface cx ho hw hf hx ht.eq rfl h
theorem T.dyBool (cx : Cx P ops Q o Kn Kr kd) {b : Bool} (ht : P.underlying Y.tb = some .bool) (ho : o.op = .makeInterface Y.tb x) (hw : wants ops env o true) (hf : fits N o = true) (hx : ev env x = some (.bool b)) (h : T N D B (ptE o (Dy.val Y (.bool b)) env) hs Kr) : T N D B env hs Kn := T.mkIface cx ho hw hf hx ht rfl h
theorem T.dyUnit (cx : Cx P ops Q o Kn Kr kd) {fs : Array Field} (ht : P.underlying Y.tu = some (.struct fs)) (ho : o.op = .makeInterface Y.tu x) (hw : wants ops env o true) (hf : fits N o = true) (hx : ev env x = some (.agg #[])) (h : T N D B (ptE o (Dy.val Y .unit) env) hs Kr) : T N D B env hs Kn := T.mkIface cx ho hw hf hx ht rfl h
/-- What an interface holds, asked for by its type. -/
theorem T.assertStr (cx : Cx P ops Q o Kn Kr kd) {xt : TypeId} (hY : Y.ok = true) [hst : STR P Y.ts] [ht : TI P Y.ts 1 bytes false (str [])] (ho : o.op = .typeAssert x xt Y.ts true) (hw : wants ops env o true) (hf : fits N o = true) (hx : ev env x = some (Dy.val Y d))
    (h : T N D B (ptE o (.tuple #[str d.asStr, .bool d.isStr]) env) hs Kr) : T N D B env hs Kn :=
  T.valP cx _ hw hf (fun a w h3 => by
    simp only [DyT.ok, Bool.and_eq_true, bne_iff_ne, ne_eq] at hY
    obtain ⟨⟨⟨⟨⟨y1, y2⟩, y3⟩, y4⟩, y5⟩, y6⟩ := hY
    cases d <;> simp [execOp, ho, h3.eval hx, Dy.val, Instr.typeAssert, run_underlying hst.eq, ht.zeroValue, Dy.asStr, Dy.isStr, y1, y2, y3, y4, y5, y6, Ne.symm]) h
theorem T.assertInt (cx : Cx P ops Q o Kn Kr kd) {xt : TypeId} (hY : Y.ok = true) [hst : INT P Y.ti .i64] [ht : TI P Y.ti 1 bytes false (.int .i64 0)] (ho : o.op = .typeAssert x xt Y.ti true) (hw : wants ops env o true) (hf : fits N o = true) (hx : ev env x = some (Dy.val Y d))
    (h : T N D B (ptE o (.tuple #[.int .i64 d.asInt, .bool d.isInt]) env) hs Kr) : T N D B env hs Kn :=
  T.valP cx _ hw hf (fun a w h3 => by
    simp only [DyT.ok, Bool.and_eq_true, bne_iff_ne, ne_eq] at hY
    obtain ⟨⟨⟨⟨⟨y1, y2⟩, y3⟩, y4⟩, y5⟩, y6⟩ := hY
    have y1' : ¬ Y.tb = Y.ti := fun h => y1 (Eq.symm h)
    have y2' : ¬ Y.ts = Y.ti := fun h => y2 (Eq.symm h)
    have y3' : ¬ Y.tu = Y.ti := fun h => y3 (Eq.symm h)
    cases d <;> simp [execOp, ho, h3.eval hx, Dy.val, Instr.typeAssert, run_underlying hst.eq, ht.zeroValue, Dy.asInt, Dy.isInt, y1', y2', y3']) h
theorem T.assertBool (cx : Cx P ops Q o Kn Kr kd) {xt : TypeId} (hY : Y.ok = true) (hst : P.underlying Y.tb = some .bool) [ht : TI P Y.tb 1 bytes false (.bool false)] (ho : o.op = .typeAssert x xt Y.tb true) (hw : wants ops env o true) (hf : fits N o = true) (hx : ev env x = some (Dy.val Y d))
    (h : T N D B (ptE o (.tuple #[.bool d.asBool, .bool d.isBool]) env) hs Kr) : T N D B env hs Kn :=
  T.valP cx _ hw hf (fun a w h3 => by
    simp only [DyT.ok, Bool.and_eq_true, bne_iff_ne, ne_eq] at hY
    obtain ⟨⟨⟨⟨⟨y1, y2⟩, y3⟩, y4⟩, y5⟩, y6⟩ := hY
    have y4' : ¬ Y.ts = Y.tb := fun h => y4 (Eq.symm h)
    have y5' : ¬ Y.tu = Y.tb := fun h => y5 (Eq.symm h)
    cases d <;> simp [execOp, ho, h3.eval hx, Dy.val, Instr.typeAssert, run_underlying hst, ht.zeroValue, Dy.asBool, Dy.isBool, y1, y4', y5']) h
theorem T.assertUnit (cx : Cx P ops Q o Kn Kr kd) {xt : TypeId} (hY : Y.ok = true) {fs : Array Field} (hst : P.underlying Y.tu = some (.struct fs)) [ht : TI P Y.tu 0 bytes true (.agg #[])] (ho : o.op = .typeAssert x xt Y.tu true) (hw : wants ops env o true) (hf : fits N o = true) (hx : ev env x = some (Dy.val Y d))
    (h : T N D B (ptE o (.tuple #[.agg #[], .bool d.isUnit]) env) hs Kr) : T N D B env hs Kn :=
  T.valP cx _ hw hf (fun a w h3 => by
    simp only [DyT.ok, Bool.and_eq_true, bne_iff_ne, ne_eq] at hY
    obtain ⟨⟨⟨⟨⟨y1, y2⟩, y3⟩, y4⟩, y5⟩, y6⟩ := hY
    cases d <;> simp [execOp, ho, h3.eval hx, Dy.val, Instr.typeAssert, run_underlying hst, ht.zeroValue, Dy.isUnit, y3, y5, y6]) h
/-- A byte of a text. -/
theorem T.byteAt (cx : Cx P ops Q o Kn Kr kd) [hst : STR P t] {k : IntKind} {j : Int} (ho : o.op = .index t x y) (hw : wants ops env o true) (hf : fits N o = true) (hx : ev env x = some (str l)) (hy : ev env y = some (.int k j)) (h0 : 0 ≤ j) (h1 : j < (l.length : Int))
    (h : T N D B (ptE o (b8 (l.getD j.toNat default)) env) hs Kr) : T N D B env hs Kn :=
  T.valP cx _ hw hf (fun a w h3 => by
    have hj : j.toNat < l.length := by omega
    have e : (ByteArray.mk l.toArray)[j.toNat]? = some (l.getD j.toNat default) := by
      have hj' : j.toNat < (ByteArray.mk l.toArray).size := by simpa [ByteArray.size] using hj
      rw [getElem?_pos (ByteArray.mk l.toArray) j.toNat hj']
      change some (l.toArray[j.toNat]'(by simpa using hj)) = _
      simp [List.getD_eq_getElem?_getD, hj]
    simp [execOp, ho, h3.eval hx, h3.eval hy, str, Instr.index, asIntOf, run_underlying hst.eq, h0, e, b8]) h
theorem T.boolNe {a b : Bool} {yt : TypeId} (cx : Cx P ops Q o Kn Kr kd) (ho : o.op = .binOp .neq t x y yt) (hw : wants ops env o true) (hf : fits N o = true) (hx : ev env x = some (.bool a)) (hy : ev env y = some (.bool b)) (ht : P.underlying t = some .bool) (h : T N D B (ptE o (.bool (!decide (a = b))) env) hs Kr) : T N D B env hs Kn :=
  T.bin' cx ho hw hf hx hy (fun w => by
    have hq : (Op.equal t (.bool a) (.bool b)).run P w = .ok (decide (a = b)) w := run_eqBool 9999 ht a b w
    rw [eqGuard_at_bool]
    simp only [binOp, Sem.run_bind, Sem.run_pure, Result.andThen_ok, hq]) h
/-- Structs held against each other, field by field. -/
theorem run_part1 [ht : TI P t 1 bytes false zero] {xs : Array Value} {o' : Nat} (hv : xs[o']? = some v) : (part t xs o').run P w = .ok v w := by
  obtain ⟨i, hi, _, hs, _⟩ := ht.get
  simp [part, sizeOf, typeInfo, hi, hs, ht.isAgg, hv]
inductive EqAll (P : Program) (d : Nat) (xs ys : Array Value) : List (TypeId × Nat) → Bool → Prop
  | nil : EqAll P d xs ys [] true
  | cons {t : TypeId} {o : Nat} {l : List (TypeId × Nat)} {b r : Bool} (h : ∀ w : World, ∃ a c, (part t xs o).run P w = .ok a w ∧ (part t ys o).run P w = .ok c w ∧ (Op.equalIn d t a c).run P w = .ok b w) (k : EqAll P d xs ys l r) : EqAll P d xs ys ((t, o) :: l) (b && r)
theorem EqAll.int {d : Nat} {xs ys : Array Value} {o' : Nat} {l : List (TypeId × Nat)} {r : Bool} {k : IntKind} {a c : Int} [ht : TI P t 1 bytes false zero] [hk : INT P t k] (hx : xs[o']? = some (.int k a)) (hy : ys[o']? = some (.int k c)) (h : EqAll P (d + 1) xs ys l r) : EqAll P (d + 1) xs ys ((t, o') :: l) (decide (a = c) && r) :=
  .cons (fun w => ⟨_, _, run_part1 hx, run_part1 hy, by rw [run_equalIn_int w d t k k a c hk.eq, beq_dec]⟩) h
theorem EqAll.str {d : Nat} {xs ys : Array Value} {o' : Nat} {l : List (TypeId × Nat)} {r : Bool} {a c : List UInt8} [ht : TI P t 1 bytes false zero] [hk : STR P t] (hx : xs[o']? = some (Go.Proofs.YtpogdeibkghhaaaDoor.str a)) (hy : ys[o']? = some (Go.Proofs.YtpogdeibkghhaaaDoor.str c)) (h : EqAll P (d + 1) xs ys l r) : EqAll P (d + 1) xs ys ((t, o') :: l) (decide (a = c) && r) :=
  .cons (fun w => ⟨_, _, run_part1 hx, run_part1 hy, by
    unfold Go.Proofs.YtpogdeibkghhaaaDoor.str
    rw [run_equalIn_string w d t _ _ hk.eq]; simp [bytes_toList, beq_dec]⟩) h
theorem EqAll.bool {d : Nat} {xs ys : Array Value} {o' : Nat} {l : List (TypeId × Nat)} {r : Bool} {a c : Bool} [ht : TI P t 1 bytes false zero] (hk : P.underlying t = some .bool) (hx : xs[o']? = some (.bool a)) (hy : ys[o']? = some (.bool c)) (h : EqAll P (d + 1) xs ys l r) : EqAll P (d + 1) xs ys ((t, o') :: l) (decide (a = c) && r) :=
  .cons (fun w => ⟨_, _, run_part1 hx, run_part1 hy, by rw [run_equalIn_bool' w d t a c hk]; rw [beq_dec]⟩) h
theorem EqAll.run {d : Nat} {xs ys : Array Value} {l : List (TypeId × Nat)} {b : Bool} (h : EqAll P d xs ys l b) : ∀ {fs : List Field}, (fs.map fun f => (f.name != "_", f.type, f.offset)) = (l.map fun q => (true, q.1, q.2)) → ∀ w, (Op.eqFields d xs ys fs).run P w = .ok b w := by
  induction h with
  | nil => intro fs hf w; cases fs <;> simp_all [Op.eqFields]
  | @cons t o l b r h k ih =>
    intro fs hf w
    cases fs with
    | nil => simp at hf
    | cons f fs =>
      simp only [List.map_cons, List.cons.injEq, Prod.mk.injEq] at hf
      obtain ⟨⟨h1, rfl, rfl⟩, h2⟩ := hf
      obtain ⟨a, c, e1, e2, e3⟩ := h w
      have h1 : f.name ≠ "_" := by simpa using h1
      unfold Op.eqFields
      rw [if_pos h1]
      simp only [Sem.run_bind, e1, Result.andThen_ok, e2, e3, Sem.run_ite, Sem.run_pure]
      cases b with
      | false => simp
      | true => simp [ih h2 w]
theorem T.eqS (cx : Cx P ops Q o Kn Kr kd) {yt : TypeId} {xs ys : Array Value} {l : List (TypeId × Nat)} {b b' : Bool} (ho : o.op = .binOp .eql t x y yt) (hw : wants ops env o true) (hf : fits N o = true) (hx : ev env x = some (.agg xs)) (hy : ev env y = some (.agg ys))
    (ht : P.underlying t = some (.struct (P.fieldsOf t))) (hp : P.stoodInHeld t = false) (hg : P.eqGuardType P.depth t = false) (hfs : ((P.fieldsOf t).toList.map fun f => (f.name != "_", f.type, f.offset)) = (l.map fun q => (true, q.1, q.2))) (h9 : EqAll P 9999 xs ys l b) (hb : b = b')
    (h : T N D B (ptE o (.bool b') env) hs Kr) : T N D B env hs Kn := by
  subst hb
  exact T.valP cx _ hw hf (fun a w h3 => by
    simp only [execOp, ho, h3.eval hx, h3.eval hy, Sem.run_bind, run_eqGuard_agg w _ t _ _ xs ys hg, Result.andThen_ok, run_eql_struct w t xs ys, run_equalIn_agg w 9999 t xs ys ht hp, h9.run hfs w, Sem.run_pure]) h
theorem T.neS (cx : Cx P ops Q o Kn Kr kd) {yt : TypeId} {xs ys : Array Value} {l : List (TypeId × Nat)} {b b' : Bool} (ho : o.op = .binOp .neq t x y yt) (hw : wants ops env o true) (hf : fits N o = true) (hx : ev env x = some (.agg xs)) (hy : ev env y = some (.agg ys))
    (ht : P.underlying t = some (.struct (P.fieldsOf t))) (hp : P.stoodInHeld t = false) (hg : P.eqGuardType P.depth t = false) (hfs : ((P.fieldsOf t).toList.map fun f => (f.name != "_", f.type, f.offset)) = (l.map fun q => (true, q.1, q.2))) (h9 : EqAll P 9999 xs ys l b) (hb : b = b')
    (h : T N D B (ptE o (.bool (!b')) env) hs Kr) : T N D B env hs Kn := by
  subst hb
  exact T.valP cx _ hw hf (fun a w h3 => by
    simp only [execOp, ho, h3.eval hx, h3.eval hy, Sem.run_bind, run_eqGuard_agg w _ t _ _ xs ys hg, Result.andThen_ok, run_neq_struct w t xs ys, run_equalIn_agg w 9999 t xs ys ht hp, h9.run hfs w, Sem.run_pure]) h
/-- Runes as a text. -/
def ofRunes (l : List Int) : List UInt8 := l.flatMap fun n => (Utf8.encode n).data.toList
theorem ofRunes_bytes (l : List Int) : runesBytes l = ⟨(ofRunes l).toArray⟩ := by
  have key : ∀ (l : List Int) (s : List UInt8), l.foldl (fun r n => r ++ Utf8.encode n) (⟨s.toArray⟩ : ByteArray) = ⟨(s ++ ofRunes l).toArray⟩ := by
    intro l
    induction l with
    | nil => intro s; simp [ofRunes]
    | cons n l ih =>
      intro s
      have e : (⟨s.toArray⟩ : ByteArray) ++ Utf8.encode n = ⟨(s ++ (Utf8.encode n).data.toList).toArray⟩ := by rw [ByteArray.ext_iff]; simp
      simp only [List.foldl_cons, e, ih]
      simp [ofRunes]
  exact key l []
theorem encs32 {z : PH} : ∀ {l : List Int} {cs : List Value}, Encs E32 z l cs → cs = l.map (Value.int .i32)
  | [], _, h => h
  | x :: l, _, ⟨vs, r, h, e, f⟩ => by
    have e : vs = [Value.int .i32 x] := e
    rw [h, e, encs32 f]; rfl
theorem T.runesRo (cx : Cx P ops Q o Kn Kr (kd + 1)) (i : Nat) {src dst : TypeId} {A : Option Addr} {cr n cap : Nat} {l : List Int} [hs1 : SL P src e] [he : INT P e .i32] [hd : STR P dst] (hi : hs[i]? = some (Ro E32 A cr l)) (ho : o.op = .convert src dst x) (hw : wants ops env o true) (hf : fits N o = true) (hx : ev env x = some (.slice A n cap)) (hn : n = l.length)
    (h : T N D B (ptE o (str (ofRunes l)) env) hs Kr) : T N D B env hs Kn :=
  T.val cx _ hw hf (fun a w h3 h4 => by
    subst hn
    obtain ⟨z, g, ⟨_, hR, _⟩, _, hz⟩ := h4.fact hi
    obtain ⟨cs, h1, h2⟩ := Rd.cells l hR
    have h1 := encs32 h1
    have : (convert src dst (.slice A l.length cap)).run P w = .ok (str (ofRunes l)) w := by
      rcases Decidable.em (l = []) with rfl | hne
      · rw [run_convert_runes_string w src dst e _ _ _ hs1.eq he.eq hd.eq]
        cases A with
        | none => simp [Conv.runesToString, str, ofRunes]; rfl
        | some ad =>
          have hl := run_loadCells_list (P := P) w ad [] (fun j v hj => by simp at hj)
          simp only [List.length_nil] at hl
          have := run_runesToString (P := P) w ad 0 cap [] (by simpa using hl)
          simpa [ofRunes_bytes, str] using this
      · obtain ⟨b, o', cells, ty, fr, rfl, hb, hc⟩ := h2 hne
        have := run_convert_runes (P := P) w src dst e ⟨b, o', none⟩ l.length cap l (Nat.le_refl _) hs1.eq he.eq hd.eq (fun j hj => by
          rw [Addr.add_mid]
          simp only [World.cell?, show w.heap[b]? = _ from hz b _ hb]
          have := hc j (.int .i32 (l.getD j 0)) (by rw [h1, List.getElem?_map, List.getElem?_eq_getElem hj]; simp [List.getD_eq_getElem?_getD, hj])
          simpa using this)
        rw [this, List.take_length, ofRunes_bytes]; rfl
    simp only [execOp, ho, h3.eval hx, Sem.run_bind, this, Result.andThen_ok, Sem.run_pure]) h
end
end Go.Proofs.YtpogdeibkghhaaaDoor
