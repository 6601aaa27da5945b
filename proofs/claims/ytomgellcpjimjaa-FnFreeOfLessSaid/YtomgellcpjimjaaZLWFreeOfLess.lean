/- The drawn law FnFreeOfLess: the walk. -/
import Derived.Test.YtomgellcpjimjaaHT
import Derived.Test.YtomgellcpjimjaaHQ
import Derived.Test.YtomgellcpjimjaaZLp3a
namespace Go.Proofs.Ytomgellcpjimjaa
open Go.RowKit

theorem take_ints {w : World} {D : Nat → Prop} {F G : List Int} {y : Int} {a : Option Addr} {n c : Nat} (h : Rd w D (encInts F) (.slice a (n + 1) c)) (e : F = G ++ [y]) (hn : G.length = n) : IntsL w D a n G := by
  subst e
  have h1 := h.toInts
  refine ⟨hn, fun h0 => ?_⟩
  obtain ⟨b, o, e1, hd, hc⟩ := h1.2 (by omega)
  refine ⟨b, o, e1, hd, fun i hi => ?_⟩
  have h2 := hc i (by omega)
  have e2 : iAt (G ++ [y]) i = iAt G i := by unfold iAt; rw [List.getD_eq_getElem?_getD, List.getD_eq_getElem?_getD, List.getElem?_append_left (by omega)]
  rw [e2] at h2
  exact h2
set_option maxRecDepth 100000 in
set_option maxHeartbeats 4000000 in
theorem fnFreeOfLess_walk (a : Option Addr) (len cap : Nat) (z : Nat → Int) (w : World) (h : Byt w a len z) (hlc : len ≤ cap) :
    Calls Try.prog 10 #[.slice a len cap] w fun e w' => e = .returned (.bool true) ∧ Keep w w' := by
  refine calls_k fun Q hQ => ?_
  by_cases hl : len ≤ 1048576
  · go_enter Try.func10, Try.ntmps10
    go_wp2_with fail
    refine (DrawFreeOf_any a len cap z w h hlc hl).mono ?_
    rintro e w1 ⟨x, ax, nx, cx, v1, rfl, mv1, rx, k1⟩
    have KO := Keep.al w1 (.cells #[.int .i64 x.op, .int .i64 x.num, .slice ax nx cx] 25)
    have K := Lib.hid (k1.trans KO)
    have E0 := Lib.hid (Ev.born w1 (fun _ => True) x ax nx cx (rx.mono (fun _ _ => trivial)))
    clear h rx k1 KO
    go_upto_region 4 with fail
    generalize hW : w1.alloc (.cells #[.int .i64 x.op, .int .i64 x.num, .slice ax nx cx] 25) = W at *
    clear hW
    generalize hS : w1.heap.size = s at *
    clear hS
    have E := E0
    clear E0
    have e0 := E.out.v0
    have e1 := E.out.v1
    have e2 := E.out.v2
    have HV1 : Hid (-1 ≤ v1 ∧ v1 ≤ 100) := by
      simp only [List.mem_cons, List.not_mem_nil, or_false] at mv1
      show _ ∧ _
      omega
    clear mv1
    obtain ⟨F, hF⟩ : ∃ F, F = freeL v1 x.op x.num x.kids := ⟨_, rfl⟩
    have V : Hid (freeL v1 x.op x.num x.kids = F) := hF.symm
    have HFL : Hid (F.length ≤ 1000) := by show _ ≤ _; rw [hF]; exact freeL_len _ _ _ _
    clear hF
    go_wp2_with fail
    refine (implFreeOf v1 x.op x.num x.kids ax nx cx _ _ E.out.k).mono ?_
    rw [V.out]
    rintro e w2 ⟨ao, no, co, rfl, ro, kk⟩
    replace K := Lib.hid (K.out.trans kk)
    replace E := Lib.hid (E.out.keep kk)
    replace e0 := E.out.v0
    replace e1 := E.out.v1
    replace e2 := E.out.v2
    have RO := Lib.hid ro.read
    clear ro
    clear kk
    have hno : F.length = no := (ints_at RO.out).1
    have HNO := Lib.hid hno
    have hno2 : no ≤ 1000 := by have := HFL.out; omega
    clear hno
    go_wp2_with fail
    refine (specFreeOf v1 x.op x.num x.kids ax nx cx _ _ E.out.k).mono ?_
    rw [V.out]
    rintro e w3 ⟨ap, np, cp, rfl, rp, kk⟩
    replace K := Lib.hid (K.out.trans kk)
    replace E := Lib.hid (E.out.keep kk)
    replace RO := Lib.hid (RO.out.k kk)
    replace e0 := E.out.v0
    replace e1 := E.out.v1
    replace e2 := E.out.v2
    have RP := Lib.hid rp
    clear rp
    clear kk
    go_wp2_with fail
    refine (equalInts_same ao no co ap np cp F _ _ _ RO.out.toInts RP.out.toInts (by omega)).mono ?_
    rintro e w4 ⟨rfl, kk⟩
    replace K := Lib.hid (K.out.trans kk)
    replace E := Lib.hid (E.out.keep kk)
    replace RO := Lib.hid (RO.out.k kk)
    replace RP := Lib.hid (RP.out.k kk)
    replace e0 := E.out.v0
    replace e1 := E.out.v1
    replace e2 := E.out.v2
    clear kk
    by_cases h0 : no = 0
    · subst h0
      go_wp2_with fail
      refine (specFreeOf v1 x.op x.num x.kids ax nx cx _ _ E.out.k).mono ?_
      rw [V.out]
      rintro e w5 ⟨aq, nq, cq, rfl, rq, kk⟩
      replace K := Lib.hid (K.out.trans kk)
      replace E := Lib.hid (E.out.keep kk)
      replace RO := Lib.hid (RO.out.k kk)
      replace RP := Lib.hid (RP.out.k kk)
      replace e0 := E.out.v0
      replace e1 := E.out.v1
      replace e2 := E.out.v2
      have RQ := Lib.hid rq
      clear rq
      clear kk
      go_wp2_with fail
      refine (equalInts_same ao 0 co aq nq cq F _ _ _ RO.out.toInts RQ.out.toInts (by omega)).mono ?_
      rintro e w6 ⟨rfl, kk⟩
      replace K := Lib.hid (K.out.trans kk)
      replace E := Lib.hid (E.out.keep kk)
      replace RO := Lib.hid (RO.out.k kk)
      replace RP := Lib.hid (RP.out.k kk)
      replace RQ := Lib.hid (RQ.out.k kk)
      replace e0 := E.out.v0
      replace e1 := E.out.v1
      replace e2 := E.out.v2
      clear kk
      go_wp2_with fail
      exact fin_ hQ ⟨rfl, K.out⟩
    · have h0b : ((no : Int) == 0) = false := by rw [beq_eq_false_iff_ne]; omega
      have hz : nEs x.kids + 1 ≤ 30 := by
        refine Classical.byContradiction fun h => ?_
        have h1 := V.out
        rw [freeL, if_neg h] at h1
        have h2 := HNO.out
        rw [← h1] at h2
        simp at h2; omega
      have HZ := Lib.hid hz
      have hsub : IntKind.i64.wrap (v1 - 1) = v1 - 1 := IntWalk.i64_in _ (by have := HV1.out; omega)
      clear hz
      obtain ⟨G, hG⟩ : ∃ G, G = freeL (v1 - 1) x.op x.num x.kids := ⟨_, rfl⟩
      have VG : Hid (freeL (v1 - 1) x.op x.num x.kids = G) := hG.symm
      have HGL : Hid (G.length ≤ 1000) := by show _ ≤ _; rw [hG]; exact freeL_len _ _ _ _
      clear hG
      go_wp2_with fail
      refine (implFreeOf (v1 - 1) x.op x.num x.kids ax nx cx _ _ E.out.k).mono ?_
      rw [VG.out]
      rintro e w5 ⟨ag, ng, cg, rfl, rg, kk⟩
      replace K := Lib.hid (K.out.trans kk)
      replace E := Lib.hid (E.out.keep kk)
      replace RO := Lib.hid (RO.out.k kk)
      replace RP := Lib.hid (RP.out.k kk)
      replace e0 := E.out.v0
      replace e1 := E.out.v1
      replace e2 := E.out.v2
      have RG := Lib.hid rg.read
      clear rg
      clear kk
      have hng : G.length = ng := (ints_at RG.out).1
      have HNG := Lib.hid hng
      have hng2 : ng ≤ 1000 := by have := HGL.out; omega
      clear hng
      by_cases hm : v1 - 1 ∈ F
      · have HM := Lib.hid hm
        clear hm
        have HE : Hid (F = G ++ [v1 - 1]) := by
          show _ = _
          have h := freeL_less_in (z := v1) (op := x.op) (num := x.num) (es := x.kids) HZ.out (by rw [V.out]; exact HM.out)
          rw [V.out, VG.out] at h; exact h
        have hl1 : no = ng + 1 := by have h1 := HNO.out; have h2 := HNG.out; rw [HE.out, List.length_append] at h1; simp at h1; omega
        subst hl1
        have RT := Lib.hid (take_ints RO.out HE.out HNG.out)
        have hadd : IntKind.i64.wrap ((ng : Int) + 1) = (ng : Int) + 1 := IntWalk.i64_in _ (by omega)
        have hcast : ((ng + 1 : Nat) : Int) = (ng : Int) + 1 := by omega
        have hco : ng + 1 ≤ co := (ints_at RO.out).2.1
        have hco2 : (ng : Int) ≤ (co : Int) := by omega
        go_wp2_with fail
        refine (isIn_yes ao (ng + 1) co F (v1 - 1) _ _ RO.out.toInts (by omega) HM.out).mono ?_
        rintro e w6 ⟨rfl, rfl⟩
        go_wp2_with fail
        refine (equalInts_same ag ng cg ao ng _ G _ _ _ RG.out.toInts RT.out (by omega)).mono ?_
        rintro e w9 ⟨rfl, k9⟩
        replace K := Lib.hid (K.out.trans k9)
        clear k9
        go_wp2_with fail
        exact fin_ hQ ⟨rfl, K.out⟩
      · have HM := Lib.hid hm
        clear hm
        have HE : Hid (F = G) := by
          show _ = _
          have h := freeL_less_out (z := v1) (op := x.op) (num := x.num) (es := x.kids) HZ.out (by rw [V.out]; exact HM.out)
          rw [V.out, VG.out] at h; exact h
        go_wp2_with fail
        refine (isIn_no ao no co F (v1 - 1) _ _ RO.out.toInts (by omega) HM.out).mono ?_
        rintro e w6 ⟨rfl, rfl⟩
        have RO2 := RO.out
        rw [HE.out] at RO2
        replace RO := Lib.hid RO2
        clear RO2
        go_wp2_with fail
        refine (equalInts_same ag ng cg ao no co G _ _ _ RG.out.toInts RO.out.toInts (by omega)).mono ?_
        rintro e w9 ⟨rfl, k9⟩
        replace K := Lib.hid (K.out.trans k9)
        clear k9
        go_wp2_with fail
        exact fin_ hQ ⟨rfl, K.out⟩
  · go_enter Try.func10, Try.ntmps10
    go_wp2_with fail
    exact fin_ hQ ⟨rfl, Ext.refl _ _⟩
end Go.Proofs.Ytomgellcpjimjaa
