/- The exact law on inhabited types: the walk. -/
import Derived.Test.YthdjijhpdgajbaaSizeDecl
import Derived.Test.YthdjijhpdgajbaaToDecl2
import Derived.Test.YthdjijhpdgajbaaEqDecl
import Derived.Test.YthdjijhpdgajbaaSizeSmall
import Derived.Test.YthdjijhpdgajbaaMark
import Derived.Test.YthdjijhpdgajbaaLt
import Derived.Test.YthdjijhpdgajbaaInhI2
namespace Go.Proofs.Ythdjijhpdgajbaa
open Go.RowKit

theorem resLen_Inhabited (ds : List DeclL) : (if typesOk ds = true then inhL ds else []).length ≤ 12 := by
  split
  · rename_i h
    have hf := (Few.of_ok h).1
    have := irnds_len (ds := ds) ds.length
    rw [inhL]
    omega
  · simp

set_option maxHeartbeats 4000000 in
theorem fnExactInhabited_walk (a : Option Addr) (n c : Nat) (ds : List DeclL) (w : World) (h0 : DeclsR w (fun _ => True) a n ds) (hl : LensD ds) :
    Calls Try.prog 6 #[.slice a n c] w fun e w' => e = .returned (.bool true) ∧ Keep w w' := by
  refine calls_k fun Q hQ => ?_
  have HL := Lib.hid h0.1
  by_cases hs : (1048576 : Int) < (szDL ds : Int)
  · have V := Lib.hid (szOut_neg hs)
    go_enter Try.func6, Try.ntmps6
    go_wp2_with (go_at_call 17; refine (szDeclS _ _ _ _ _ _ _ h0 hl (by omega) (by omega)).mono ?_; rw [V.out]; rintro e w1 ⟨rfl, k1⟩)
    exact fin_ hQ ⟨rfl, k1⟩
  · have V := Lib.hid (szOut_pos (left := 1048576) (s := szDL ds) (by omega))
    have hb : 0 ≤ 1048576 - (szDL ds : Int) := by omega
    obtain ⟨q1, q2⟩ := szD_small (ds := ds) (by omega)
    have Q2 := Lib.hid q2
    have hn : n ≤ 1048576 := by have := HL.out; omega
    have S := Lib.hid (szD_smallD (ds := ds) (by omega))
    have FD : Hid (FitD ds) := ⟨by omega, fun i hi => Q2.out i hi⟩
    have h := h0.lt
    clear q2 q1 hs
    have hlen : (if typesOk ds = true then inhL ds else []).length ≤ 12 := resLen_Inhabited ds
    generalize hL : (if typesOk ds = true then inhL ds else []) = L at hlen
    have HLL := Lib.hid hL
    clear hL
    go_enter Try.func6, Try.ntmps6
    go_wp2_with fail
    refine (szDeclS _ _ _ _ _ _ _ h0 hl (by omega) (by omega)).mono ?_
    rw [V.out]
    rintro e w1 ⟨rfl, k1⟩
    clear h0
    go_wp2_with fail
    refine (toDeclS _ _ _ _ _ _ (h.ext k1 (fun _ _ h => h)) hn (fun i hi => Q2.out i (by have := HL.out; omega))).mono ?_
    rintro e w2 ⟨a2, rfl, o2, k2⟩
    have k2' := k1.trans k2
    have O2 := Lib.hid o2
    clear o2
    go_wp2_with fail
    refine (specInhabited _ _ _ _ _ _ O2.out.read (by omega)).mono ?_
    rw [HLL.out]
    rintro e w3 ⟨r3, m3, c3, rfl, _, o3, k3⟩
    have k3' := k2'.trans k3
    have hm3 : m3 ≤ 12 := by have := o3.1; omega
    have O3 := Lib.hid o3.lt
    clear o3
    go_wp2_with fail
    refine (toDeclS _ _ _ _ _ _ (h.ext k3' (fun _ _ h => h)) hn (fun i hi => Q2.out i (by have := HL.out; omega))).mono ?_
    rintro e w4 ⟨a4, rfl, o4, k4⟩
    have k4' := k3'.trans k4
    have O4 := Lib.hid o4.lt
    clear o4
    go_wp2_with fail
    refine (implInhabited _ _ _ _ _ _ O4.out.read (Nat.le_refl _)).mono ?_
    rw [HLL.out]
    rintro e w5 ⟨r5, m5, c5, rfl, _, o5, k5⟩
    have k5' := k4'.trans k5
    have hm5 : m5 ≤ 12 := by have := o5.1; omega
    have O5 := Lib.hid o5.lt
    clear o5
    have O3' := Lib.hid ((O3.out.ext k4 (fun _ _ h => h)).ext k5 (fun _ _ h => h))
    go_wp2_with fail
    refine (eqIntS _ _ _ _ _ _ _ _ _ _ _ O5.out.read O3'.out.read (by omega)).mono ?_
    rw [show decide (L = L) = true from decide_eq_true rfl]
    rintro e w6 ⟨rfl, k6⟩
    have k6' := k5'.trans k6
    go_wp2_with fail
    refine (toDeclS _ _ _ _ _ _ (h.ext k6' (fun _ _ h => h)) hn (fun i hi => Q2.out i (by have := HL.out; omega))).mono ?_
    rintro e w7 ⟨a7, rfl, o7, k7⟩
    have k7' := k6'.trans k7
    have O7 := Lib.hid o7
    clear o7
    have O4' := Lib.hid (((O4.out.ext k5 (fun _ _ h => h)).ext k6 (fun _ _ h => h)).ext k7 (fun _ _ h => h))
    go_wp2_with fail
    refine (eqDeclS _ _ _ _ _ _ _ _ _ _ _ O4'.out.read O7.out.read S.out).mono ?_
    rw [show decide (ds = ds) = true from decide_eq_true rfl]
    rintro e w8 ⟨rfl, k8⟩
    have k8' := k7'.trans k8
    go_wp2_with fail
    refine (markDeclS _ _ _ _ _ _ ⟨ds, O4'.out.ext k8 (fun _ _ h => h), FD.out⟩ (by omega) (by omega)).mono ?_
    rintro e w9 ⟨kk, rfl, kk0, _, sc⟩
    have hsz1 := k1.size
    have hsz2 := k2.size
    have hsz3 := k3.size
    have hsz4 := k4.size
    have hsz5 := k5.size
    have k58 := (k6.trans k7).trans k8
    have O5' := Lib.hid ((O5.out.ext k58 (fun _ _ h => h)).ext sc.ext (fun k hk hk' => by omega))
    have O3'' := Lib.hid ((O3'.out.ext k58 (fun _ _ h => h)).ext sc.ext (fun k hk hk' => by simp only [From] at hk'; omega))
    have k9' : Keep w w9 := k8'.then_ sc.ext (fun i hi hi' => by simp only [From] at hi'; omega)
    go_wp2_with fail
    refine (eqIntS _ _ _ _ _ _ _ _ _ _ _ O5'.out.read O3''.out.read (by omega)).mono ?_
    rw [show decide (L = L) = true from decide_eq_true rfl]
    rintro e w10 ⟨rfl, k10⟩
    have k10' := k9'.trans k10
    go_wp2_with fail
    refine (markIntS _ _ _ _ _ _ _ (O5'.out.ext k10 (fun _ _ h => h)) (by omega) (by omega) (by omega)).mono ?_
    rintro e w11 ⟨rfl, o11, sc11⟩
    have O11 := Lib.hid o11
    clear o11
    have O3a := Lib.hid ((O3''.out.ext k10 (fun _ _ h => h)).ext sc11.ext (fun k hk hk' => by omega))
    have k11' : Keep w w11 := k10'.then_ sc11.ext (fun i hi hi' => by omega)
    go_wp2_with fail
    refine (heldIntS _ _ _ _ _ _ O11.out.read (by omega) (by omega) (by omega)).mono ?_
    rintro e w12 ⟨rfl, rfl⟩
    go_wp2_with fail
    refine (toDeclS _ _ _ _ _ _ (h.ext k11' (fun _ _ h => h)) hn (fun i hi => Q2.out i (by have := HL.out; omega))).mono ?_
    rintro e w13 ⟨a13, rfl, o13, k13⟩
    have k13' := k11'.trans k13
    have O13 := Lib.hid o13
    clear o13
    go_wp2_with fail
    refine (implInhabited _ _ _ _ _ _ O13.out.read (Nat.le_refl _)).mono ?_
    rw [HLL.out]
    rintro e w14 ⟨r14, m14, c14, rfl, _, o14, k14⟩
    have k14' := k13'.trans k14
    have hm14 : m14 ≤ 12 := by have := o14.1; omega
    have O14 := Lib.hid o14
    clear o14
    have O3b := Lib.hid ((O3a.out.ext k13 (fun _ _ h => h)).ext k14 (fun _ _ h => h))
    go_wp2_with fail
    refine (eqIntS _ _ _ _ _ _ _ _ _ _ _ O14.out.read O3b.out.read (by omega)).mono ?_
    rw [show decide (L = L) = true from decide_eq_true rfl]
    rintro e w15 ⟨rfl, k15⟩
    have k15' := k14'.trans k15
    have O11' := Lib.hid (((O11.out.ext k13 (fun _ _ h => h)).ext k14 (fun _ _ h => h)).ext k15 (fun _ _ h => h))
    go_wp2_with fail
    refine (heldIntS _ _ _ _ _ _ O11'.out.read (by omega) (by omega) (by omega)).mono ?_
    rintro e w16 ⟨rfl, rfl⟩
    go_wp2_with fail
    exact fin_ hQ ⟨rfl, k15'⟩
end Go.Proofs.Ythdjijhpdgajbaa
