/- unicode/utf8.ValidString, by its contract on the shelf. -/
import Derived.Test.YtpogdeibkghhaaaDoorObj
import Derived.Test.YtpogdeibkghhaaaDoorShelf
set_option linter.unusedVariables false
namespace Go.Proofs.YtpogdeibkghhaaaDoor
open Go.RowKit
/-- The tables of unicode/utf8 lie as its text lays them. -/
def Base (B : World) : Prop := Lib.Utf8Tabs (Tryd.laysValid_ren.g 3) (Tryd.laysValid_ren.g 4) B
theorem Base.up {B : World} {hs : List MP} {w : World} (hB : Base B) (hS : St B hs w) : Base w := Utf8Tabs_below hB hS.below
noncomputable def utf8_ValidString.impl (l : List UInt8) : Option Bool := chk (l.length ≤ 9223372036854775807) (some (Lib.validD l))
theorem St.grown {B w w' : World} {hs : List MP} (hS : St B hs w) (hb : Below w.heap.size w w') : St B hs w' := by
  obtain ⟨z, h, ho, hd, hz, hh, hB, hsz, h1, h2, h3⟩ := hS
  obtain ⟨b1, b2, b3, b4, b5⟩ := hb
  have up : ∀ q : PH, PH.le q (PH.of w) → PH.le q (PH.of w') := fun q hq b o hb => by
    have h := hq b o hb
    have hlt := lt_of_of h
    show w'.heap[b]? = some o
    rw [b5 b hlt]; exact h
  exact ⟨z, h, ho, hd, up z hz, up h hh, hB, Nat.le_trans hsz b4, b1.trans h1, b2.trans h2, b3.trans h3⟩
theorem utf8_ValidString.c {B : World} {hs : List MP} {w : World} {l0 : List UInt8} (hB : Base B) (hS : St B hs w) {r : Bool} (hr : utf8_ValidString.impl l0 = some r) :
    Calls Tryd.prog 60 #[str l0] w fun e w' => ∃ x : Unit, e = .returned (.bool r) ∧ St B hs w' := by
  obtain ⟨hl, hr⟩ := inv_chk hr
  obtain rfl := inv_some hr
  refine (Any.utf8_ValidString Tryd.laysValid ⟨l0.toArray⟩ w (by simpa [ByteArray.size] using hl) (Utf8Tabs_below hB hS.below)).mono fun e w' ⟨he, hb⟩ => ⟨(), ?_, hS.grown hb⟩
  rw [he]
end Go.Proofs.YtpogdeibkghhaaaDoor
