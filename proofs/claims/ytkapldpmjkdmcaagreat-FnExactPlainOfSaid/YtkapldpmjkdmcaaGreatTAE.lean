/- The reference's types of expressions: let, if, apply; all together. -/
import Derived.Test.YtkapldpmjkdmcaaGreatTAD
import Derived.Test.YtkapldpmjkdmcaaGreatTAC
namespace Go.Proofs.YtkapldpmjkdmcaaGreat
open Go.RowKit

section
variable (ds : List DeclL) (fs : List FuncL) (hok : sigsOk ds (fs.map sigF) = true)
include hok

end
end Go.Proofs.YtkapldpmjkdmcaaGreat
/- The reference's types of steps: its small helpers. -/
namespace Go.Proofs.YtkapldpmjkdmcaaGreat
open Go.RowKit

def typedL (sc args tys : List Int) : Bool := argsIn sc args && decide (tysOf sc args = tys)
theorem typedL_len {sc args tys : List Int} (h : args.length ≠ tys.length) : typedL sc args tys = false := by
  have : tysOf sc args ≠ tys := fun e => h (by rw [← e, tysOf_len])
  simp [typedL, this]
theorem typedL_out {sc args tys : List Int} {j : Nat} (hj : j < args.length) (h : ¬ (0 ≤ iAt args j ∧ iAt args j < (sc.length : Int))) : typedL sc args tys = false := by simp [typedL, argsIn_neg hj h]
theorem typedL_ne {sc args tys : List Int} {j : Nat} (hj : j < args.length) (h : iAt sc (iAt args j).toNat ≠ iAt tys j) : typedL sc args tys = false := by
  have : tysOf sc args ≠ tys := ints_ne j (by rw [tysOf_at hj]; exact h)
  simp [typedL, this]
theorem typedL_yes {sc args tys : List Int} (hl : args.length = tys.length) (h : ∀ l, l < args.length → (0 ≤ iAt args l ∧ iAt args l < (sc.length : Int)) ∧ iAt sc (iAt args l).toNat = iAt tys l) : typedL sc args tys = true := by
  have h1 : argsIn sc args = true := argsIn_iff.2 fun i hi => (h i hi).1
  have h2 : tysOf sc args = tys := ints_ext (by rw [tysOf_len]; exact hl) (fun i hi => by rw [tysOf_len] at hi; rw [tysOf_at hi]; exact (h i hi).2)
  simp [typedL, h1, h2]
theorem typedL_iff {sc args tys : List Int} : typedL sc args tys = true ↔ argsIn sc args = true ∧ tysOf sc args = tys := by simp [typedL]

theorem IntsL.at {w : World} {D : Nat → Prop} {a : Option Addr} {n : Nat} {xs : List Int} (h : IntsL w D a n xs) {i : Nat} (hi : i < n) : ∃ b o, a = some ⟨b, o, none⟩ ∧ D b ∧ w.cell? ⟨b, o + i, none⟩ = some (.int .i64 (iAt xs i)) := by
  obtain ⟨b, o, e, hd, hc⟩ := h.2 (by omega)
  exact ⟨b, o, e, hd, hc i hi⟩

set_option maxRecDepth 100000 in
set_option maxHeartbeats 1000000 in
theorem specTyped (av : Option Addr) (nv cv : Nat) (sc : List Int) (aa : Option Addr) (na ca : Nat) (args : List Int) (at_ : Option Addr) (nt ct : Nat) (tys : List Int) (D D1 D2 : Nat → Prop) (w : World) (hv : IntsL w D av nv sc) (ha : IntsL w D1 aa na args) (ht : IntsL w D2 at_ nt tys) (hnv : nv ≤ 4000000) (hna : na ≤ 9223372036854775807) :
    Calls Tryz.prog 183 #[.slice av nv cv, .slice aa na ca, .slice at_ nt ct] w fun e w' => e = .returned (.bool (typedL sc args tys)) ∧ Keep w w' := by
  refine calls_k fun Q hQ => ?_
  have HV := Lib.hid hv
  have HA := Lib.hid ha
  have HT := Lib.hid ht
  have HLV := Lib.hid hv.1
  have HLA := Lib.hid ha.1
  have HLT := Lib.hid ht.1
  clear hv ha ht
  by_cases hlt0 : na = nt
  case neg =>
    have V : Hid (typedL sc args tys = false) := typedL_len (by have := HLA.out; have := HLT.out; omega)
    go_enter Tryz.func183, Tryz.ntmps183
    go_wp2_with fail
    exact fin_ hQ ⟨ret_b V.out.symm, Ext.refl _ _⟩
  subst hlt0
  go_enter Tryz.func183, Tryz.ntmps183
  go_wp2_with fail
  go_loopw [7] (fun iv wr => ∃ j : Nat, j ≤ na ∧ iv = .int .i64 j ∧ Hid (∀ l, l < j → (0 ≤ iAt args l ∧ iAt args l < (sc.length : Int)) ∧ iAt sc (iAt args l).toNat = iAt tys l) ∧ Keep w wr) (fun iv _ => na - (intOf iv).toNat)
  case atStart => exact ⟨0, Nat.zero_le _, rfl, fun l hl => absurd hl (by omega), Ext.refl _ _⟩
  case round =>
    obtain ⟨j, hj, rfl, hI, hK⟩ := hrel
    by_cases hlt : j < na
    · obtain ⟨b, o, rfl, _, d0⟩ := HA.out.at hlt
      obtain ⟨b', o', rfl, _, d1⟩ := HT.out.at hlt
      have g0 := (hK.cell (World.block_lt_of_cell? w _ d0) (fun h => h)).trans d0
      have g1 := (hK.cell (World.block_lt_of_cell? w _ d1) (fun h => h)).trans d1
      have HJ : Hid (j < args.length) := by have := HLA.out; show _ < _; omega
      generalize hv : iAt args j = v at g0 d0
      generalize hu : iAt tys j = u at g1 d1
      have HVV := Lib.hid hv
      have HU := Lib.hid hu
      clear d0 d1 hv hu
      by_cases hr : 0 ≤ v ∧ v < (nv : Int)
      case neg =>
        have V : Hid (typedL sc args tys = false) := typedL_out HJ.out (by rw [HVV.out]; have := HLV.out; omega)
        have hd : decide (0 ≤ v ∧ v ≤ (nv : Int) - 1) = false := decide_eq_false (fun h => hr (by omega))
        have HD := Lib.hid hd
        clear hr hd
        go_wp2_with fail
        go_quiet ((go_at_call 60; exact Calls.quiet_of_same ((specInRange _ _ _ _).mono fun _ _ q => ⟨q.1.trans (by rw [HD.out]), q.2.symm⟩)))
        go_wp2_with fail
        exact fin_ hQ ⟨ret_b V.out.symm, by first | exact hK.drew | exact hK.drewN _⟩
      obtain ⟨k, rfl⟩ : ∃ k : Nat, v = (k : Int) := ⟨v.toNat, by omega⟩
      have hk : k < nv := by omega
      obtain ⟨b2, o2, rfl, _, d2⟩ := HV.out.at hk
      have g2 := (hK.cell (World.block_lt_of_cell? w _ d2) (fun h => h)).trans d2
      generalize hx : iAt sc k = x at g2 d2
      have HX := Lib.hid hx
      have hd : decide (0 ≤ (k : Int) ∧ (k : Int) ≤ (nv : Int) - 1) = true := decide_eq_true (by omega)
      have HD := Lib.hid hd
      clear hr hd d2 hx
      by_cases hxu : x = u
      · have hxu' : (x != u) = false := by simpa using hxu
        have hI2 : Hid (∀ l, l < j + 1 → (0 ≤ iAt args l ∧ iAt args l < (sc.length : Int)) ∧ iAt sc (iAt args l).toNat = iAt tys l) := by
          intro l hl
          rcases Nat.lt_succ_iff_lt_or_eq.1 hl with h | rfl
          · exact hI.out l h
          · rw [HVV.out, HU.out]
            exact ⟨by have := HLV.out; omega, by rw [show ((k : Int)).toNat = k from rfl, HX.out]; exact hxu⟩
        clear hxu
        go_wp2_with fail
        go_quiet ((go_at_call 60; exact Calls.quiet_of_same ((specInRange _ _ _ _).mono fun _ _ q => ⟨q.1.trans (by rw [HD.out]), q.2.symm⟩)))
        go_wp2_with fail
        go_roundw
        case rel => exact ⟨j + 1, by omega, by go_num, hI2, by first | exact hK.drew | exact hK.drewN _⟩
        case measure => simp [intOf]; omega
      · have hxu' : (x != u) = true := by simpa using hxu
        have V : Hid (typedL sc args tys = false) := typedL_ne HJ.out (by rw [HVV.out, HU.out, show ((k : Int)).toNat = k from rfl, HX.out]; exact hxu)
        clear hxu
        go_wp2_with fail
        go_quiet ((go_at_call 60; exact Calls.quiet_of_same ((specInRange _ _ _ _).mono fun _ _ q => ⟨q.1.trans (by rw [HD.out]), q.2.symm⟩)))
        go_wp2_with fail
        exact fin_ hQ ⟨ret_b V.out.symm, by first | exact hK.drew | exact hK.drewN _⟩
    · have V : Hid (typedL sc args tys = true) := typedL_yes (by have := HLA.out; have := HLT.out; omega) (fun l hl => hI.out l (by have := HLA.out; omega))
      go_wp2_with fail
      exact fin_ hQ ⟨ret_b V.out.symm, hK⟩
end Go.Proofs.YtkapldpmjkdmcaaGreat
