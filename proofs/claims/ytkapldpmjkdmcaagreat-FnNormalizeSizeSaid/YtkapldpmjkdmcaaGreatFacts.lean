/- Closed facts on the loaded program that every row asks, and that the long line of its roots would make dear. -/
import Derived.Test.YtkapldpmjkdmcaaGreatRows
import Derived.JoinedOf
namespace Go.Proofs.YtkapldpmjkdmcaaGreat

theorem chars_of {s : String} (l : List Char) (h : s = String.ofList l) : s.toList = l := by rw [h, String.toList_ofList]
theorem mayEnter_as {P : Program} {l : List Char} {b : Bool} (h : P.initOrder.toList = l) (hb : ∀ s : String, s.toList = l → ({ P with initOrder := s } : Program).mayEnter = b) : P.mayEnter = b := hb P.initOrder h
theorem lifts_as {P : Program} {l : List Char} {b : Bool} (h : P.initOrder.toList = l) (hb : ∀ s : String, s.toList = l → ({ P with initOrder := s } : Program).liftsFinal = b) : P.liftsFinal = b := hb P.initOrder h
theorem make_as {P : Program} {l : List Char} {b : Option Make} (h : P.initOrder.toList = l) (hb : ∀ s : String, s.toList = l → ({ P with initOrder := s } : Program).make = b) : P.make = b := hb P.initOrder h

set_option maxRecDepth 100000 in
theorem mayEnter_ok : Tryz.prog.mayEnter = true := by
  refine mayEnter_as (chars_of (s := Tryz.prog.initOrder) _ rfl) (fun s hs => ?_)
  unfold Program.mayEnter
  simp only [hs]
  kernel_rfl
set_option maxRecDepth 100000 in
theorem lifts_ok : Tryz.prog.liftsFinal = false := by
  refine lifts_as (chars_of (s := Tryz.prog.initOrder) _ rfl) (fun s hs => ?_)
  unfold Program.liftsFinal Program.headLifts
  simp only [hs]
  kernel_rfl
set_option maxRecDepth 100000 in
theorem make_ok : Tryz.prog.make = some .cut := by
  refine make_as (chars_of (s := Tryz.prog.initOrder) _ rfl) (fun s hs => ?_)
  unfold Program.make Program.headLifts
  simp only [hs]
  kernel_rfl

theorem and_ok {a b : Bool} (ha : a = true) (hb : b = true) : (a && b) = true := by rw [ha, hb]; rfl
theorem lifts_fits {b : Bool} (h : b = false) : (b == Tryz.prog.liftsFinal) = true := by rw [lifts_ok, h]; rfl
theorem make_fits {m : Make} (h : m = .cut) : (Tryz.prog.make == some m) = true := by rw [make_ok, h]; kernel_rfl
end Go.Proofs.YtkapldpmjkdmcaaGreat
