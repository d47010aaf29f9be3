/- Names for kinds and types that come often. -/
import Derived.Test.YtpogdeibkghhaaaDoorAuto
namespace Go.Proofs.YtpogdeibkghhaaaDoor
open Go.RowKit
abbrev ty0 : Type := Int × Bool
abbrev ty1 : Type := List UInt8 × Int
abbrev ty2 : Type := List UInt8 × ty0
abbrev ty3 : Type := Option Addr × Nat
abbrev ty4 : Type := Int × Int × (List UInt8)
abbrev ty5 : Type := (List UInt8) × Int × Int
abbrev ty6 : Type := (List UInt8) × (List ty5) × (List ty0)
abbrev ty7 : Type := Int × (List UInt8) × ty6 × (List ty4) × ty4 × Int × ty4 × ty4 × Int
abbrev ty8 : Type := Int × Int × (List ty7)
abbrev el0 := Elt.pair E64 E64
abbrev el1 := Elt.pair E64 EStr
abbrev el2 := Elt.pair E64 el1
abbrev el3 := Elt.slice el2
abbrev el4 := Elt.pair el2 E64
abbrev el5 := Elt.pair el2 el4
abbrev el6 := Elt.pair E64 el5
abbrev el7 := Elt.pair el2 el6
abbrev el8 := Elt.pair el3 el7
abbrev el9 := Elt.pair EStr el0
abbrev el10 := Elt.slice el9
abbrev el11 := Elt.pair E64 EBool
abbrev el12 := Elt.slice el11
abbrev el13 := Elt.pair el10 el12
abbrev el14 := Elt.pair EStr el13
abbrev el15 := Elt.pair el14 el8
abbrev el16 := Elt.pair EStr el15
abbrev el17 := Elt.pair E64 el16
abbrev el18 := Elt.slice el17
abbrev el19 := Elt.pair E64 el18
abbrev el20 := Elt.pair E64 el19
end Go.Proofs.YtpogdeibkghhaaaDoor
