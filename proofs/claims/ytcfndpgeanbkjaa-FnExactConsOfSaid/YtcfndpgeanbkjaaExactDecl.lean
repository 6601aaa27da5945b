/- The exact laws on declarations whose result is a bool or an integer: the walks. -/
import Derived.Test.YtcfndpgeanbkjaaTypes7
import Derived.Test.YtcfndpgeanbkjaaSizeDecl
import Derived.Test.YtcfndpgeanbkjaaToDecl2
import Derived.Test.YtcfndpgeanbkjaaEqDecl
namespace Go.Proofs.Ytcfndpgeanbkjaa
open Go.RowKit

theorem szC_small {cs : List (List Int)} {m : Nat} (h : szC cs ≤ m) : cs.length ≤ m ∧ ∀ j, j < cs.length → (cAt cs j).length ≤ m := by
  unfold szC at h
  refine ⟨by omega, fun j hj => ?_⟩
  have := sumTo_part (f := fun i => (cAt cs i).length) hj
  omega
theorem szD_small {ds : List DeclL} (h : szD ds ≤ 1048576) : ds.length ≤ 1048576 ∧ ∀ i, i < ds.length → (dAt ds i).cons.length ≤ 1048576 ∧ ∀ j, j < (dAt ds i).cons.length → (cAt (dAt ds i).cons j).length ≤ 1048576 := by
  unfold szD at h
  refine ⟨by omega, fun i hi => ?_⟩
  have := sumTo_part (f := fun i => szC (dAt ds i).cons) hi
  exact szC_small (by omega)
theorem szD_smallD {ds : List DeclL} (h : szD ds ≤ 1048576) : SmallD ds := by
  obtain ⟨h1, h2⟩ := szD_small h
  exact ⟨by omega, fun i hi => ⟨by have := (h2 i hi).1; omega, fun j hj => by have := (h2 i hi).2 j hj; omega⟩⟩

set_option maxHeartbeats 1000000 in
theorem fnExactValidTypes_walk (a : Option Addr) (n c : Nat) (ds : List DeclL) (w : World) (h : DeclsR w (fun _ => True) a n ds) (hl : LensD ds) :
    Calls Try.prog 10 #[.slice a n c] w fun e w' => e = .returned (.bool true) ∧ Keep w w' := by
  refine calls_k fun Q hQ => ?_
  have HL := Lib.hid h.1
  by_cases hs : (1048576 : Int) < (szD ds : Int)
  · have V := Lib.hid (szOut_neg hs)
    go_enter Try.func10, Try.ntmps10
    go_wp2_with (go_at_call 37; refine (szDeclS _ _ _ _ _ _ _ h hl (by omega) (by omega)).mono ?_; rw [V.out]; rintro e w1 ⟨rfl, k1⟩)
    exact fin_ hQ ⟨rfl, k1⟩
  · have V := Lib.hid (szOut_pos (left := 1048576) (s := szD ds) (by omega))
    have hb : 0 ≤ 1048576 - (szD ds : Int) := by omega
    obtain ⟨q1, q2⟩ := szD_small (ds := ds) (by omega)
    have Q2 := Lib.hid q2
    have hn : n ≤ 1048576 := by have := HL.out; omega
    have S := Lib.hid (szD_smallD (ds := ds) (by omega))
    clear q2 q1 hs
    go_enter Try.func10, Try.ntmps10
    go_wp2_with fail
    refine (szDeclS _ _ _ _ _ _ _ h hl (by omega) (by omega)).mono ?_
    rw [V.out]
    rintro e w1 ⟨rfl, k1⟩
    go_wp2_with fail
    refine (toDeclS _ _ _ _ _ _ (h.ext k1 (fun _ _ h => h)) hn (fun i hi => Q2.out i (by have := HL.out; omega))).mono ?_
    rintro e w2 ⟨a2, rfl, o2, k2⟩
    have k2' := k1.trans k2
    have O2 := Lib.hid o2
    clear o2
    go_wp2_with fail
    refine (specValidTypes _ _ _ _ _ _ O2.out.read (by omega)).mono ?_
    rintro e w3 ⟨rfl, k3⟩
    have k3' := k2'.trans k3
    go_wp2_with fail
    refine (toDeclS _ _ _ _ _ _ (h.ext k3' (fun _ _ h => h)) hn (fun i hi => Q2.out i (by have := HL.out; omega))).mono ?_
    rintro e w4 ⟨a4, rfl, o4, k4⟩
    have k4' := k3'.trans k4
    have O4 := Lib.hid o4
    clear o4
    go_wp2_with fail
    refine (implValidTypes _ _ _ _ _ _ O4.out.read (Nat.le_refl _)).mono ?_
    rintro e w5 ⟨rfl, k5⟩
    have k5' := k4'.trans k5
    go_wp2_with fail
    refine (toDeclS _ _ _ _ _ _ (h.ext k5' (fun _ _ h => h)) hn (fun i hi => Q2.out i (by have := HL.out; omega))).mono ?_
    rintro e w6 ⟨a6, rfl, o6, k6⟩
    have k6' := k5'.trans k6
    have O6 := Lib.hid o6
    clear o6
    go_wp2_with fail
    refine (eqDeclS _ _ _ _ _ _ _ _ _ _ _ ((O4.out.ext k5 (fun _ _ h => h)).ext k6 (fun _ _ h => h)).read O6.out.read S.out).mono ?_
    rw [show decide (ds = ds) = true from decide_eq_true rfl]
    rintro e w7 ⟨rfl, k7⟩
    go_wp2_with fail
    exact fin_ hQ ⟨rfl, k6'.trans k7⟩
set_option maxHeartbeats 1000000 in
theorem fnExactConCount_walk (a : Option Addr) (n c : Nat) (ds : List DeclL) (w : World) (h : DeclsR w (fun _ => True) a n ds) (hl : LensD ds) :
    Calls Try.prog 12 #[.slice a n c] w fun e w' => e = .returned (.bool true) ∧ Keep w w' := by
  refine calls_k fun Q hQ => ?_
  have HL := Lib.hid h.1
  by_cases hs : (1048576 : Int) < (szD ds : Int)
  · have V := Lib.hid (szOut_neg hs)
    go_enter Try.func12, Try.ntmps12
    go_wp2_with (go_at_call 37; refine (szDeclS _ _ _ _ _ _ _ h hl (by omega) (by omega)).mono ?_; rw [V.out]; rintro e w1 ⟨rfl, k1⟩)
    exact fin_ hQ ⟨rfl, k1⟩
  · have V := Lib.hid (szOut_pos (left := 1048576) (s := szD ds) (by omega))
    have hb : 0 ≤ 1048576 - (szD ds : Int) := by omega
    obtain ⟨q1, q2⟩ := szD_small (ds := ds) (by omega)
    have Q2 := Lib.hid q2
    have hn : n ≤ 1048576 := by have := HL.out; omega
    have S := Lib.hid (szD_smallD (ds := ds) (by omega))
    clear q2 q1 hs
    go_enter Try.func12, Try.ntmps12
    go_wp2_with fail
    refine (szDeclS _ _ _ _ _ _ _ h hl (by omega) (by omega)).mono ?_
    rw [V.out]
    rintro e w1 ⟨rfl, k1⟩
    go_wp2_with fail
    refine (toDeclS _ _ _ _ _ _ (h.ext k1 (fun _ _ h => h)) hn (fun i hi => Q2.out i (by have := HL.out; omega))).mono ?_
    rintro e w2 ⟨a2, rfl, o2, k2⟩
    have k2' := k1.trans k2
    have O2 := Lib.hid o2
    clear o2
    go_wp2_with fail
    refine (specConCount _ _ _ _ _ _ O2.out.read (by omega)).mono ?_
    rintro e w3 ⟨rfl, k3⟩
    have k3' := k2'.trans k3
    go_wp2_with fail
    refine (toDeclS _ _ _ _ _ _ (h.ext k3' (fun _ _ h => h)) hn (fun i hi => Q2.out i (by have := HL.out; omega))).mono ?_
    rintro e w4 ⟨a4, rfl, o4, k4⟩
    have k4' := k3'.trans k4
    have O4 := Lib.hid o4
    clear o4
    go_wp2_with fail
    refine (implConCount _ _ _ _ _ _ O4.out.read (Nat.le_refl _)).mono ?_
    rintro e w5 ⟨rfl, k5⟩
    have k5' := k4'.trans k5
    go_wp2_with fail
    refine (toDeclS _ _ _ _ _ _ (h.ext k5' (fun _ _ h => h)) hn (fun i hi => Q2.out i (by have := HL.out; omega))).mono ?_
    rintro e w6 ⟨a6, rfl, o6, k6⟩
    have k6' := k5'.trans k6
    have O6 := Lib.hid o6
    clear o6
    go_wp2_with fail
    refine (eqDeclS _ _ _ _ _ _ _ _ _ _ _ ((O4.out.ext k5 (fun _ _ h => h)).ext k6 (fun _ _ h => h)).read O6.out.read S.out).mono ?_
    rw [show decide (ds = ds) = true from decide_eq_true rfl]
    rintro e w7 ⟨rfl, k7⟩
    go_wp2_with fail
    exact fin_ hQ ⟨rfl, k6'.trans k7⟩
set_option maxHeartbeats 1000000 in
theorem fnExactArrowOf_walk (a : Option Addr) (n c : Nat) (ds : List DeclL) (f t : Int) (w : World) (h : DeclsR w (fun _ => True) a n ds) (hl : LensD ds) :
    Calls Try.prog 13 #[.slice a n c, .int .i64 f, .int .i64 t] w fun e w' => e = .returned (.bool true) ∧ Keep w w' := by
  refine calls_k fun Q hQ => ?_
  have HL := Lib.hid h.1
  by_cases hs : (1048576 : Int) < (szD ds : Int)
  · have V := Lib.hid (szOut_neg hs)
    go_enter Try.func13, Try.ntmps13
    go_wp2_with (go_at_call 37; refine (szDeclS _ _ _ _ _ _ _ h hl (by omega) (by omega)).mono ?_; rw [V.out]; rintro e w1 ⟨rfl, k1⟩)
    exact fin_ hQ ⟨rfl, k1⟩
  · have V := Lib.hid (szOut_pos (left := 1048576) (s := szD ds) (by omega))
    have hb : 0 ≤ 1048576 - (szD ds : Int) := by omega
    obtain ⟨q1, q2⟩ := szD_small (ds := ds) (by omega)
    have Q2 := Lib.hid q2
    have hn : n ≤ 1048576 := by have := HL.out; omega
    have S := Lib.hid (szD_smallD (ds := ds) (by omega))
    clear q2 q1 hs
    go_enter Try.func13, Try.ntmps13
    go_wp2_with fail
    refine (szDeclS _ _ _ _ _ _ _ h hl (by omega) (by omega)).mono ?_
    rw [V.out]
    rintro e w1 ⟨rfl, k1⟩
    go_wp2_with fail
    refine (toDeclS _ _ _ _ _ _ (h.ext k1 (fun _ _ h => h)) hn (fun i hi => Q2.out i (by have := HL.out; omega))).mono ?_
    rintro e w2 ⟨a2, rfl, o2, k2⟩
    have k2' := k1.trans k2
    have O2 := Lib.hid o2
    clear o2
    go_wp2_with fail
    refine (specArrowOf _ _ _ _ _ _ _ _ O2.out.read (by omega)).mono ?_
    rintro e w3 ⟨rfl, k3⟩
    have k3' := k2'.trans k3
    go_wp2_with fail
    refine (toDeclS _ _ _ _ _ _ (h.ext k3' (fun _ _ h => h)) hn (fun i hi => Q2.out i (by have := HL.out; omega))).mono ?_
    rintro e w4 ⟨a4, rfl, o4, k4⟩
    have k4' := k3'.trans k4
    have O4 := Lib.hid o4
    clear o4
    go_wp2_with fail
    refine (implArrowOf _ _ _ _ _ _ _ _ O4.out.read (Nat.le_refl _)).mono ?_
    rintro e w5 ⟨rfl, k5⟩
    have k5' := k4'.trans k5
    go_wp2_with fail
    refine (toDeclS _ _ _ _ _ _ (h.ext k5' (fun _ _ h => h)) hn (fun i hi => Q2.out i (by have := HL.out; omega))).mono ?_
    rintro e w6 ⟨a6, rfl, o6, k6⟩
    have k6' := k5'.trans k6
    have O6 := Lib.hid o6
    clear o6
    go_wp2_with fail
    refine (eqDeclS _ _ _ _ _ _ _ _ _ _ _ ((O4.out.ext k5 (fun _ _ h => h)).ext k6 (fun _ _ h => h)).read O6.out.read S.out).mono ?_
    rw [show decide (ds = ds) = true from decide_eq_true rfl]
    rintro e w7 ⟨rfl, k7⟩
    go_wp2_with fail
    exact fin_ hQ ⟨rfl, k6'.trans k7⟩
set_option maxHeartbeats 1000000 in
theorem fnExactConType_walk (a : Option Addr) (n c : Nat) (ds : List DeclL) (x : Int) (w : World) (h : DeclsR w (fun _ => True) a n ds) (hl : LensD ds) (hx1 : -9223372036854775808 ≤ x) (hx2 : x ≤ 9223372036854775807) :
    Calls Try.prog 15 #[.slice a n c, .int .i64 x] w fun e w' => e = .returned (.bool true) ∧ Keep w w' := by
  refine calls_k fun Q hQ => ?_
  have HL := Lib.hid h.1
  by_cases hs : (1048576 : Int) < (szD ds : Int)
  · have V := Lib.hid (szOut_neg hs)
    go_enter Try.func15, Try.ntmps15
    go_wp2_with (go_at_call 37; refine (szDeclS _ _ _ _ _ _ _ h hl (by omega) (by omega)).mono ?_; rw [V.out]; rintro e w1 ⟨rfl, k1⟩)
    exact fin_ hQ ⟨rfl, k1⟩
  · have V := Lib.hid (szOut_pos (left := 1048576) (s := szD ds) (by omega))
    have hb : 0 ≤ 1048576 - (szD ds : Int) := by omega
    obtain ⟨q1, q2⟩ := szD_small (ds := ds) (by omega)
    have Q2 := Lib.hid q2
    have hn : n ≤ 1048576 := by have := HL.out; omega
    have S := Lib.hid (szD_smallD (ds := ds) (by omega))
    clear q2 q1 hs
    go_enter Try.func15, Try.ntmps15
    go_wp2_with fail
    refine (szDeclS _ _ _ _ _ _ _ h hl (by omega) (by omega)).mono ?_
    rw [V.out]
    rintro e w1 ⟨rfl, k1⟩
    go_wp2_with fail
    refine (toDeclS _ _ _ _ _ _ (h.ext k1 (fun _ _ h => h)) hn (fun i hi => Q2.out i (by have := HL.out; omega))).mono ?_
    rintro e w2 ⟨a2, rfl, o2, k2⟩
    have k2' := k1.trans k2
    have O2 := Lib.hid o2
    clear o2
    go_wp2_with fail
    refine (specConType _ _ _ _ _ _ _ O2.out.read (by omega)).mono ?_
    rintro e w3 ⟨rfl, k3⟩
    have k3' := k2'.trans k3
    go_wp2_with fail
    refine (toDeclS _ _ _ _ _ _ (h.ext k3' (fun _ _ h => h)) hn (fun i hi => Q2.out i (by have := HL.out; omega))).mono ?_
    rintro e w4 ⟨a4, rfl, o4, k4⟩
    have k4' := k3'.trans k4
    have O4 := Lib.hid o4
    clear o4
    go_wp2_with fail
    refine (implConType _ _ _ _ _ _ _ O4.out.read (Nat.le_refl _) hx1 hx2).mono ?_
    rintro e w5 ⟨rfl, k5⟩
    have k5' := k4'.trans k5
    go_wp2_with fail
    refine (toDeclS _ _ _ _ _ _ (h.ext k5' (fun _ _ h => h)) hn (fun i hi => Q2.out i (by have := HL.out; omega))).mono ?_
    rintro e w6 ⟨a6, rfl, o6, k6⟩
    have k6' := k5'.trans k6
    have O6 := Lib.hid o6
    clear o6
    go_wp2_with fail
    refine (eqDeclS _ _ _ _ _ _ _ _ _ _ _ ((O4.out.ext k5 (fun _ _ h => h)).ext k6 (fun _ _ h => h)).read O6.out.read S.out).mono ?_
    rw [show decide (ds = ds) = true from decide_eq_true rfl]
    rintro e w7 ⟨rfl, k7⟩
    go_wp2_with fail
    exact fin_ hQ ⟨rfl, k6'.trans k7⟩
end Go.Proofs.Ytcfndpgeanbkjaa
