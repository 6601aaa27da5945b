/- The drawn law FnValidSigs: the walk. -/
import Derived.Test.YtomgellcpjimjaaZLWith
import Derived.Test.YtomgellcpjimjaaZSigs3
namespace Go.Proofs.Ytomgellcpjimjaa
open Go.RowKit

theorem sigsOk_three {ds} {sg : List SigL} (h : sigsOk ds sg = true) : 1 ≤ sg.length ∧ sg.length ≤ 4 ∧ (sgAt sg 0).params.length = 0 := by
  rcases Nat.lt_or_ge sg.length 1 with h1 | h1
  · rw [sigsOk_len (.inl h1)] at h; cases h
  · rcases Nat.lt_or_ge 4 sg.length with h2 | h2
    · rw [sigsOk_len (.inr h2)] at h; cases h
    · by_cases h3 : (sgAt sg 0).params.length = 0 ∧ (sgAt sg 0).result = 0
      · exact ⟨h1, h2, h3.1⟩
      · rw [sigsOk_first h3] at h; cases h
/-- A signature does not tell of the body. -/
theorem sigF_set (fs : List FuncL) {k : Nat} (hk : k < fs.length) (x : ExprL) : (fs.set k ⟨(fAt fs k).params, (fAt fs k).result, x⟩).map sigF = fs.map sigF := by
  refine List.ext_getElem (by simp) fun i h1 h2 => ?_
  simp only [List.getElem_map, List.getElem_set]
  split
  · next h => subst h; rw [fAt_get hk]; rfl
  · rfl
set_option maxRecDepth 100000 in
set_option maxHeartbeats 1500000 in
theorem fnValidSigs_walk (a : Option Addr) (len cap : Nat) (z : Nat → Int) (w : World) (h : Byt w a len z) (hlc : len ≤ cap) :
    Calls Try.prog 9 #[.slice a len cap] w fun e w' => e = .returned (.bool true) ∧ Keep w w' := by
  refine calls_k fun Q hQ => ?_
  by_cases hl : len ≤ 1048576
  · go_enter Try.func9, Try.ntmps9
    go_wp2_with fail
    refine (DrawValidSigs_any a len cap z w h hlc hl).mono ?_
    rintro e w1 ⟨ds, fs, a0, n0, c0, a1, n1, c1, rfl, r0, r1, -, k1⟩
    have KO := Keep.al w1 (.cells #[.slice a0 n0 c0, .slice a1 n1 c1] 41)
    have K := Lib.hid (k1.trans KO)
    have P := Lib.hid (Px.born w1 (.slice a0 n0 c0) (.slice a1 n1 c1))
    have RD := Lib.hid (r0.k KO)
    have RF := Lib.hid (r1.k KO)
    clear h r0 r1 k1 KO
    go_upto_region 4 with fail
    generalize hW : w1.alloc (.cells #[.slice a0 n0 c0, .slice a1 n1 c1] 41) = W at *
    clear hW
    generalize hS : w1.heap.size = s at *
    clear hS
    obtain ⟨v, hv⟩ : ∃ v, v = sigsOk ds (fs.map sigF) := ⟨_, rfl⟩
    have V : Hid (sigsOk ds (fs.map sigF) = v) := hv.symm
    clear hv
    cases v
    · have p0 := P.out.x0
      have p1 := P.out.x1
      go_wp2_with fail
      refine (implValidSigs ds fs a0 n0 c0 a1 n1 c1 _ _ _ RD.out RF.out).mono ?_
      rw [V.out]
      rintro e w2 ⟨rfl, kk⟩
      replace K := Lib.hid (K.out.trans kk)
      replace P := Lib.hid (P.out.k kk)
      replace RD := Lib.hid (RD.out.k kk)
      replace RF := Lib.hid (RF.out.k kk)
      clear kk p0 p1
      have p0 := P.out.x0
      have p1 := P.out.x1
      go_wp2_with fail
      refine (specValidSigs ds fs a0 n0 c0 a1 n1 c1 _ _ _ RD.out RF.out).mono ?_
      rw [V.out]
      rintro e w3 ⟨rfl, kk⟩
      replace K := Lib.hid (K.out.trans kk)
      replace P := Lib.hid (P.out.k kk)
      replace RD := Lib.hid (RD.out.k kk)
      replace RF := Lib.hid (RF.out.k kk)
      clear kk p0 p1
      have p0 := P.out.x0
      have p1 := P.out.x1
      go_wp2_with fail
      refine (specValidSigs ds fs a0 n0 c0 a1 n1 c1 _ _ _ RD.out RF.out).mono ?_
      rw [V.out]
      rintro e w4 ⟨rfl, kk⟩
      replace K := Lib.hid (K.out.trans kk)
      replace P := Lib.hid (P.out.k kk)
      replace RD := Lib.hid (RD.out.k kk)
      replace RF := Lib.hid (RF.out.k kk)
      clear kk p0 p1
      go_wp2_with fail
      exact fin_ hQ ⟨rfl, K.out⟩
    · have p0 := P.out.x0
      have p1 := P.out.x1
      go_wp2_with fail
      refine (implValidSigs ds fs a0 n0 c0 a1 n1 c1 _ _ _ RD.out RF.out).mono ?_
      rw [V.out]
      rintro e w2 ⟨rfl, kk⟩
      replace K := Lib.hid (K.out.trans kk)
      replace P := Lib.hid (P.out.k kk)
      replace RD := Lib.hid (RD.out.k kk)
      replace RF := Lib.hid (RF.out.k kk)
      clear kk p0 p1
      have p0 := P.out.x0
      have p1 := P.out.x1
      go_wp2_with fail
      refine (specValidSigs ds fs a0 n0 c0 a1 n1 c1 _ _ _ RD.out RF.out).mono ?_
      rw [V.out]
      rintro e w3 ⟨rfl, kk⟩
      replace K := Lib.hid (K.out.trans kk)
      replace P := Lib.hid (P.out.k kk)
      replace RD := Lib.hid (RD.out.k kk)
      replace RF := Lib.hid (RF.out.k kk)
      clear kk p0 p1
      have HP := Lib.hid (sigsOk_three V.out)
      have HL : Hid (fs.length = n1) := (funcs_at RF.out).1
      have hn1 : 1 ≤ n1 := by have h := HP.out.1; rw [List.length_map, HL.out] at h; exact h
      have hn4 : n1 ≤ 4 := by have h := HP.out.2.1; rw [List.length_map, HL.out] at h; exact h
      go_wp2_with fail
      go_loopw [5] (fun iv wr => ∃ (j : Nat), j ≤ n1 ∧ iv = .int .i64 j ∧ Hid (Keep w wr) ∧ Hid (Px wr s (.slice a0 n0 c0) (.slice a1 n1 c1)) ∧ Hid (Rd wr _ (encDecls ds) (.slice a0 n0 c0)) ∧ Hid (Rd wr _ (encFuncs fs) (.slice a1 n1 c1))) (fun i _ => n1 - (intOf i).toNat)
      case atStart => exact ⟨0, Nat.zero_le _, rfl, K, P, RD, RF⟩
      case round =>
        clear K P RD RF
        obtain ⟨j, hj, rfl, K, P, RD, RF⟩ := hrel
        obtain ⟨wo, rfl⟩ : ∃ wo : World, wo = wr := ⟨_, rfl⟩
        have p0 := P.out.x0
        have p1 := P.out.x1
        by_cases hlt : j < n1
        · have HJ : Hid (j < fs.length) := by show _ < _; rw [HL.out]; exact hlt
          have hj0 : (0 : Int) ≤ (j : Int) := by omega
          have hj1 : (j : Int) < (n1 : Int) := by omega
          go_wp2_with fail
          refine (withBody_n fs j (.mk 99 0 []) a0 n0 c0 a1 n1 c1 none 0 0 wo HJ.out (by rw [HL.out]; omega) (RF.out.mono (fun _ _ => trivial)) (.nil 3 _ _)).mono ?_
          rintro e w5 ⟨b2, n2, c2, rfl, rf, kk⟩
          replace K := Lib.hid (K.out.trans kk)
          replace P := Lib.hid (P.out.k kk)
          replace RD := Lib.hid (RD.out.k kk)
          replace RF := Lib.hid (RF.out.k kk)
          have R2 := Lib.hid rf
          clear kk p0 p1 rf
          go_wp2_with fail
          refine (implValidSigs ds (fs.set j ⟨(fAt fs j).params, (fAt fs j).result, .mk 99 0 []⟩) a0 n0 c0 b2 n2 c2 _ _ _ RD.out R2.out).mono ?_
          rw [sigF_set fs HJ.out, V.out]
          rintro e w6 ⟨rfl, kk⟩
          replace K := Lib.hid (K.out.trans kk)
          replace P := Lib.hid (P.out.k kk)
          replace RD := Lib.hid (RD.out.k kk)
          replace RF := Lib.hid (RF.out.k kk)
          clear kk R2
          go_wp2_with fail
          go_roundw
          case rel => exact ⟨j + 1, by omega, by go_num, K, P, RD, RF⟩
          case measure => simp [intOf]; omega
        · have HF0 : Hid ((fAt fs 0).params.length = 0) := by
            have h := HP.out.2.2
            rw [sgAt_sigF fs (by rw [HL.out]; omega)] at h
            exact h
          obtain ⟨b1, o1, rfl, -, ap, np, cp, ab, nb, cb, z0, -, -, -, -, rp, -⟩ := (funcs_at RF.out).2.2.2 0 (by omega)
          obtain rfl : np = 0 := by have h1 := (ints_at rp).1; have h2 := HF0.out; omega
          clear rp
          rw [Nat.zero_mul, Nat.add_zero] at z0
          go_wp2_with fail
          exact fin_ hQ ⟨rfl, K.out⟩
  · go_enter Try.func9, Try.ntmps9
    go_wp2_with fail
    exact fin_ hQ ⟨rfl, Ext.refl _ _⟩
end Go.Proofs.Ytomgellcpjimjaa
