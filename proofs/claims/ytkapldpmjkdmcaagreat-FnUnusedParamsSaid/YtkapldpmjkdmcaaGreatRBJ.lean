/- FreeOf: of the reference and of the program. -/
import Derived.Test.YtkapldpmjkdmcaaGreatRBI
import Derived.Test.YtkapldpmjkdmcaaGreatRAM
import Derived.Test.YtkapldpmjkdmcaaGreatRAZ
import Derived.Test.YtkapldpmjkdmcaaGreatRBH
import Derived.Test.YtkapldpmjkdmcaaGreatRAB
import Derived.ChangeOld
import Derived.ShutString
namespace Go.Proofs.YtkapldpmjkdmcaaGreat
open Go.RowKit

theorem freeL_no {z op num : Int} {es : List ExprL} (h : ¬ nEs es + 1 ≤ 30) : freeL z op num es = [] := if_neg h
set_option maxHeartbeats 2000000 in
theorem implFreeOf (z op num : Int) (es : List ExprL) (a : Option Addr) (n c : Nat) (D : Nat → Prop) (w : World) (h : Rd w D (encExprs es) (.slice a n c)) :
    Calls Tryz.prog 25 #[.agg #[.int .i64 op, .int .i64 num, .slice a n c], .int .i64 z] w fun e w' => ∃ a' n' c', e = .returned (.slice a' n' c') ∧ Own w' (fun q => w.heap.size ≤ q) (encInts (freeL z op num es)) (.slice a' n' c') ∧ Keep w w' := by
  refine calls_k fun Q hQ => ?_
  have K0 := (Keep.al w (.cells #[.int .i64 op, .int .i64 num, .slice a n c] 58)).trans (Keep.al _ (.cells #[.int .i64 z] 3))
  by_cases hl : nEs es + 1 ≤ 30
  · have V := Lib.hid (nodesL_yes hl)
    have HL := Lib.hid hl
    have hnn : ¬ ((nEs es + 1 : Nat) : Int) < 0 := by omega
    generalize hm : nEs es + 1 = m at V hnn
    clear hm hl
    have R0 := (rowOf w #[.int .i64 op, .int .i64 num, .slice a n c] 58).alloc (.cells #[.int .i64 z] 3)
    have R1 := rowOf (w.alloc (.cells #[.int .i64 op, .int .i64 num, .slice a n c] 58)) #[.int .i64 z] 3
    simp only [World.size_alloc] at R1
    have q0 := h.lt.k K0
    clear h
    go_enter Tryz.func25, Tryz.ntmps25
    go_wp2_with fail
    refine (implNodesOf _ _ _ _ _ _ _ _ q0).mono ?_
    rw [V.out]
    rintro e w1 ⟨rfl, p1⟩
    have sz := p1.size
    simp at sz
    have RX := (row_ext R0 p1 (fun h => h)).alloc (.cells #[.slice none 0 0] 52)
    have x0 := RX.cell (i := 0) (by simp)
    have x1 := RX.cell (i := 1) (by simp)
    have x2 := RX.cell (i := 2) (by simp)
    simp at x0 x1 x2
    have RZ := ((row_ext R1 p1 (fun h => h)).alloc (.cells #[.slice none 0 0] 52)).congr (g := fun _ => .int .i64 z) (fun i hi => by
      obtain rfl : i = 0 := by simpa using hi
      rfl)
    have RQ := (rowOf w1 #[.slice none 0 0] 52).congr (g := fun _ => .slice none 0 0) (fun i hi => by
      obtain rfl : i = 0 := by simpa using hi
      rfl)
    have I0 : FrInv z (w.heap.size + 1) w1.heap.size 0 [] (w1.alloc (.cells #[.slice none 0 0] 52)) := ⟨RZ, ⟨_, RQ, World.ownsRow_nil _ _ _ _⟩, by omega, Nat.le_refl _⟩
    have q2 := (q0.k p1).k (Keep.al w1 (.cells #[.slice none 0 0] 52))
    have KP := Lib.hid ((K0.trans p1).trans (Keep.al w1 (.cells #[.slice none 0 0] 52)))
    have ZP := KP.out.size
    have HFM := Lib.hid (I0.lt)
    clear R0 R1 RX RZ RQ
    go_wp2_with fail
    refine (walk_m (gvis z) 65 #[.pointer (some ⟨w.heap.size + 1, 0, none⟩), .pointer (some ⟨w1.heap.size, 0, none⟩)] (fun _ _ => True) (FrM w1.heap.size) (FrInv z (w.heap.size + 1) w1.heap.size) (fun args w => by kernel_rfl) (fun k s w w' h hk => h.keep hk) (fun k s w r h hm => (h.lt r hm).2)
      (fun k s op num a n c w hk _ h => freeClos z _ _ k s op num a n c w hk h) _ op num es (Nat.lt_succ_self _) trivial (allEs_true es) 0 [] _ _ _ _ _ q2 (fun q hq => ⟨by have := hq.2; omega, fun hm => by have h1 := (HFM.out _ hm).1; have := hq.2; omega⟩) (by have := HL.out; omega) I0).mono ?_
    rintro e w2 ⟨rfl, I2, X2⟩
    obtain ⟨_, ⟨v, hv, ho⟩, _, hsl⟩ := I2
    have hK2 : Keep w w2 := KP.out.then_ X2.ext (fun i hi hm => by have := (HFM.out _ hm).1; omega)
    obtain ⟨av, cv, rfl, hle, _⟩ := own_of_row ho
    have y0 := hv.cell (i := 0) (by omega)
    have HV := Lib.hid hv
    have HO := Lib.hid ho
    have hs30 : (visEs (gvis z) es (gvis z op num [])).length ≤ 30 := by have := HL.out; omega
    generalize hF : visEs (gvis z) es (gvis z op num []) = F at *
    have HF := Lib.hid hF
    have HBL := Lib.hid ho.lt
    clear hF ho hv x0 x1 x2
    go_wp2_with fail
    refine (sortOwn _ _ _ _ _ HO.out (by omega)).mono ?_
    rintro e w3 ⟨rfl, o3, X3⟩
    have y3 : w3.cell? ⟨w1.heap.size, 0, none⟩ = some (.slice av F.length cv) := (row_ext HV.out X3 (fun e => by have := (HBL.out _ e).1; omega)).cell (i := 0) (by omega)
    have hml : (F.mergeSort fun x y => decide (x ≤ y)).length = F.length := List.length_mergeSort _
    have O3 := Lib.hid o3
    clear o3
    go_wp2_with fail
    refine (compactOwn _ _ _ _ _ _ O3.out (by omega)).mono ?_
    rintro e w4 ⟨n', rfl, hn', o4, X4⟩
    have O4 := Lib.hid o4
    have HN := Lib.hid hn'
    clear o4 hn'
    go_wp2_with fail
    have hb := free_both z op num es HL.out (F.mergeSort fun x y => decide (x ≤ y)) (by
      have := List.pairwise_mergeSort (le := fun (x y : Int) => decide (x ≤ y)) (fun a b c h1 h2 => by simp at *; omega) (fun a b => by simp; omega) F
      exact this.imp (fun h => by simpa using h)) (fun x => by rw [List.mem_mergeSort, ← HF.out, visE])
    refine fin_ hQ ⟨av, n', cv, rfl, ?_, (hK2.then_ X3 (fun i hi e => by have := (HBL.out _ e).1; omega)).then_ X4 (fun i hi e => by have := (HBL.out _ e).1; omega)⟩
    obtain ⟨a5, c5, e5, h5, o5⟩ := own_of_row O4.out
    injection e5 with e5 _ e6
    subst e5 e6
    rw [hb] at o5
    refine (o5.toOwn h5 ?_).mono (fun k hk => by omega)
    have := compact_len (F.mergeSort fun x y => decide (x ≤ y))
    have := HN.out
    omega
  · have V := Lib.hid (nodesL_no hl)
    have V2 := Lib.hid (freeL_no (z := z) (op := op) (num := num) hl)
    clear hl
    go_enter Tryz.func25, Tryz.ntmps25
    go_wp2_with fail
    refine (implNodesOf _ _ _ _ _ _ _ _ (h.k K0)).mono ?_
    rw [V.out]
    rintro e w1 ⟨rfl, p1⟩
    go_wp2_with fail
    exact fin_ hQ ⟨none, 0, 0, rfl, by rw [V2.out]; exact .nil _ 1 none 0, K0.trans p1⟩
end Go.Proofs.YtkapldpmjkdmcaaGreat
/- The drawn law FnUnusedParams: the walk. -/
namespace Go.Proofs.YtkapldpmjkdmcaaGreat
open Go.RowKit

set_option maxRecDepth 100000 in
set_option maxHeartbeats 1500000 in
theorem fnUnusedParams_walk (a : Option Addr) (len cap : Nat) (z : Nat → Int) (w : World) (h : Byt w a len z) (hlc : len ≤ cap) :
    Calls Tryz.prog 5 #[.slice a len cap] w fun e w' => e = .returned (.bool true) ∧ Keep w w' := by
  refine calls_k fun Q hQ => ?_
  by_cases hl : len ≤ 1048576
  · go_enter Tryz.func5, Tryz.ntmps5
    go_wp2_with fail
    refine (DrawUnusedParams_any a len cap z w h hlc hl).mono ?_
    rintro e w1 ⟨ds, fs, a0, n0, c0, a1, n1, c1, v1, rfl, r0, r1, hf, k1⟩
    have KO := Keep.al w1 (.cells #[.slice a0 n0 c0, .slice a1 n1 c1] 44)
    have K := Lib.hid (k1.trans KO)
    have P := Lib.hid (Px.born w1 (.slice a0 n0 c0) (.slice a1 n1 c1))
    have RD := Lib.hid (r0.k KO)
    have RF := Lib.hid (r1.k KO)
    have HF : Hid (fitP fs) := hf
    clear h r0 r1 k1 KO hf
    go_upto_region 4 with fail
    generalize hW : w1.alloc (.cells #[.slice a0 n0 c0, .slice a1 n1 c1] 44) = W at *
    clear hW
    generalize hS : w1.heap.size = s at *
    clear hS
    by_cases hc : progOk ds fs = true ∧ 0 ≤ v1 ∧ v1 < (fs.length : Int)
    · obtain ⟨C, hC⟩ : ∃ C, C = unusedL ds fs v1 := ⟨_, rfl⟩
      have V : Hid (unusedL ds fs v1 = C) := hC.symm
      have HC := Lib.hid hc
      have HP := Lib.hid hc.1
      have HLU := Lib.hid (unused_len hc.1 hc.2.1 hc.2.2)
      have HAU : Hid (AscI C) := by show AscI C; rw [hC]; exact AscI.of (unused_asc _ _ _)
      obtain ⟨k, rfl⟩ := Int.eq_ofNat_of_zero_le hc.2.1
      have hk : k < fs.length := by have := hc.2.2; omega
      have HKN : Hid (((k : Int)).toNat = k) := Int.toNat_natCast k
      replace HLU := HLU.out
      rw [HKN.out, V.out] at HLU
      replace HLU := Lib.hid HLU
      have hpl : (fAt fs k).params.length ≤ 3 := (sigF_at (progOk_parts HP.out).1 hk).1
      have hcl3 : C.length ≤ 3 := by have := HLU.out; omega
      have hn1 : fs.length = n1 := (funcs_at RF.out).1
      have hk0 : (0 : Int) ≤ (k : Int) := by omega
      have hk1 : (k : Int) < (n1 : Int) := by omega
      have h0 : ¬ (k : Int) < 0 := by omega
      have h1 : ¬ (n1 : Int) ≤ (k : Int) := by omega
      have HKL := Lib.hid hk
      have HUM : Hid (∀ i, i < (fAt fs k).params.length → ((i : Int) ∈ C ↔ mE (i : Int) (fAt fs k).body = 0)) := fun i hi => by
        have h := unused_mem HP.out hc.2.1 hc.2.2 (i := i) (by rw [HKN.out]; exact hi)
        rw [HKN.out, V.out] at h
        exact h
      have HNB : Hid (nEs (fAt fs k).body.kids + 1 ≤ 30) := body_nodes HP.out hk
      clear hC hc hn1 hk
      have p0 := P.out.x0
      have p1 := P.out.x1
      go_wp2_with fail
      refine (implUnusedParams ds fs a0 n0 c0 a1 n1 c1 (k : Int) _ _ _ RD.out RF.out HF.out).mono ?_
      rw [V.out]
      rintro e w3 ⟨au, nau, cau, rfl, rau, kk⟩
      replace K := Lib.hid (K.out.trans kk)
      replace P := Lib.hid (P.out.k kk)
      replace RD := Lib.hid (RD.out.k kk)
      replace RF := Lib.hid (RF.out.k kk)
      have RC := Lib.hid rau.read
      clear rau
      clear kk p0 p1
      have NRC : Hid (nau = C.length) := (ints_at RC.out).1.symm
      have hnu3 : nau ≤ 3 := by have h1 := NRC.out; omega
      have p0 := P.out.x0
      have p1 := P.out.x1
      go_wp2_with fail
      refine (specUnusedParams ds fs a0 n0 c0 a1 n1 c1 (k : Int) _ _ _ RD.out RF.out).mono ?_
      rw [V.out]
      rintro e w41 ⟨as_, nas_, cas_, rfl, rs, kk⟩
      replace K := Lib.hid (K.out.trans kk)
      replace P := Lib.hid (P.out.k kk)
      replace RD := Lib.hid (RD.out.k kk)
      replace RF := Lib.hid (RF.out.k kk)
      replace RC := Lib.hid (RC.out.k kk)
      have RS := Lib.hid rs
      clear rs
      clear kk p0 p1
      have p0 := P.out.x0
      have p1 := P.out.x1
      go_wp2_with fail
      refine (equalInts_same _ _ _ _ _ _ C _ _ _ RC.out.toInts RS.out.toInts (by omega)).mono ?_
      rintro e w42 ⟨rfl, kk⟩
      replace K := Lib.hid (K.out.trans kk)
      replace P := Lib.hid (P.out.k kk)
      replace RD := Lib.hid (RD.out.k kk)
      replace RF := Lib.hid (RF.out.k kk)
      replace RC := Lib.hid (RC.out.k kk)
      replace RS := Lib.hid (RS.out.k kk)
      clear kk p0 p1
      have p0 := P.out.x0
      have p1 := P.out.x1
      go_wp2_with fail
      refine (implValidProgram ds fs a0 n0 c0 a1 n1 c1 _ _ _ RD.out RF.out HF.out).mono ?_
      rw [HP.out]
      rintro e w43 ⟨rfl, kk⟩
      replace K := Lib.hid (K.out.trans kk)
      replace P := Lib.hid (P.out.k kk)
      replace RD := Lib.hid (RD.out.k kk)
      replace RF := Lib.hid (RF.out.k kk)
      replace RC := Lib.hid (RC.out.k kk)
      replace RS := Lib.hid (RS.out.k kk)
      clear kk p0 p1
      have HPQ := (funcs_at RF.out)
      obtain ⟨b, o, rfl, _, a3, n3, c3, a4, n4, c4, d0, d1, d2, d3, d4, r3, r4⟩ := HPQ.2.2.2 k (by omega)
      have hn3 : (fAt fs k).params.length = n3 := (ints_at r3).1
      have R4 := Lib.hid r4.t
      clear HPQ r3 r4
      obtain ⟨G, hG⟩ : ∃ G, G = freeL (n3 : Int) (fAt fs k).body.op (fAt fs k).body.num (fAt fs k).body.kids := ⟨_, rfl⟩
      have VG : Hid (freeL (n3 : Int) (fAt fs k).body.op (fAt fs k).body.num (fAt fs k).body.kids = G) := hG.symm
      have HLG : Hid (C.length + G.length = n3) := by
        show _ = _
        have h2 := HLU.out
        rw [hn3, ← hG] at h2
        exact h2
      have HGM : Hid (∀ i, i < n3 → ((i : Int) ∈ C ↔ ¬ (i : Int) ∈ G)) := fun i hi => by
        rw [HUM.out i (by omega), hG, freeL_mem HNB.out, expr_eta]
        constructor
        · intro h2 h3; omega
        · intro h2
          refine Classical.byContradiction fun h3 => h2 ⟨by omega, by omega, by omega⟩
      have hn33 : n3 ≤ 3 := by omega
      have VB : Hid (0 = 0) := rfl
      clear hn3 hG HLU HUM HNB h0 h1 hpl
      have p0 := P.out.x0
      have p1 := P.out.x1
      go_wp2_with fail
      refine (implFreeOf (n3 : Int) (fAt fs k).body.op (fAt fs k).body.num (fAt fs k).body.kids a4 n4 c4 _ _ R4.out).mono ?_
      rw [VG.out]
      rintro e w31 ⟨ag, nag, cag, rfl, rag, kk⟩
      replace K := Lib.hid (K.out.trans kk)
      replace P := Lib.hid (P.out.k kk)
      replace RD := Lib.hid (RD.out.k kk)
      replace RF := Lib.hid (RF.out.k kk)
      replace RC := Lib.hid (RC.out.k kk)
      have RG := Lib.hid rag.read
      clear rag
      clear kk p0 p1 d0 d1 d2 d3 d4 R4 VB
      have NRG : Hid (nag = G.length) := (ints_at RG.out).1.symm
      have hnu : nau ≤ 3 := by have h1 := NRC.out; omega
      have hng : nag ≤ 3 := by have h1 := NRG.out; have h2 := HLG.out; omega
      clear RD RF P hk0 hk1
      go_wp2_with fail
      go_loopw [8] (fun iv wr => ∃ (j : Nat), j ≤ n3 ∧ iv = .int .i64 j ∧ Hid (Keep w wr) ∧ Hid (Rd wr _ (encInts C) (.slice au nau cau)) ∧ Hid (Rd wr _ (encInts G) (.slice ag nag cag))) (fun i _ => n3 - (intOf i).toNat)
      case atStart => exact ⟨0, Nat.zero_le _, rfl, K, RC, RG⟩
      case round =>
        clear K RC RG
        obtain ⟨j, hj, rfl, K, RC, RG⟩ := hrel
        obtain ⟨wo, rfl⟩ : ∃ wo : World, wo = wr := ⟨_, rfl⟩
        by_cases hlt : j < n3
        · have hd : (decide ((j : Int) ∈ C) == decide ((j : Int) ∈ G)) = false := by
            have h2 := HGM.out j hlt
            by_cases h3 : (j : Int) ∈ C
            · rw [decide_eq_true h3, decide_eq_false (h2.1 h3)]; rfl
            · have h4 : (j : Int) ∈ G := Classical.byContradiction fun h5 => h3 (h2.2 h5)
              rw [decide_eq_false h3, decide_eq_true h4]; rfl
          have HDD := Lib.hid hd
          obtain ⟨b1, hb1⟩ : ∃ b1, decide ((j : Int) ∈ C) = b1 := ⟨_, rfl⟩
          obtain ⟨b2, hb2⟩ : ∃ b2, decide ((j : Int) ∈ G) = b2 := ⟨_, rfl⟩
          rw [hb1, hb2] at hd
          have HB1 := Lib.hid hb1
          have HB2 := Lib.hid hb2
          clear hb1 hb2
          go_wp2_with fail
          refine (isIn_any au nau cau C (j : Int) _ _ RC.out.toInts (by omega)).mono ?_
          rw [HB1.out]
          rintro e _ ⟨rfl, rfl⟩
          go_wp2_with fail
          refine (isIn_any ag nag cag G (j : Int) _ _ RG.out.toInts (by omega)).mono ?_
          rw [HB2.out]
          rintro e _ ⟨rfl, rfl⟩
          go_wp2_with fail
          go_roundw
          case rel => exact ⟨j + 1, by omega, by go_num, K, RC, RG⟩
          case measure => simp [intOf]; omega
        · have hsum : ((nau : Int) + (nag : Int) == (n3 : Int)) = true := by rw [beq_iff_eq]; have h1 := NRC.out; have h2 := NRG.out; have h3 := HLG.out; omega
          go_wp2_with fail
          refine (ascends_yes _ nau cau C _ _ RC.out.toInts (by omega) HAU.out).mono ?_
          rintro e w9 ⟨rfl, kk⟩
          replace K := Lib.hid (K.out.trans kk)
          clear kk
          go_wp2_with fail
          exact fin_ hQ ⟨rfl, K.out⟩
    · have V : Hid (unusedL ds fs v1 = []) := by show _ = _; rw [unusedL, if_neg hc]
      obtain ⟨C, hC⟩ : ∃ C : List Int, C = [] := ⟨_, rfl⟩
      have HCL : Hid (C.length = 0) := by show _ = _; rw [hC]; rfl
      rw [← hC] at V
      clear hC
      have p0 := P.out.x0
      have p1 := P.out.x1
      go_wp2_with fail
      refine (implUnusedParams ds fs a0 n0 c0 a1 n1 c1 v1 _ _ _ RD.out RF.out HF.out).mono ?_
      rw [V.out]
      rintro e w3 ⟨au, nau, cau, rfl, rau, kk⟩
      replace K := Lib.hid (K.out.trans kk)
      replace P := Lib.hid (P.out.k kk)
      replace RD := Lib.hid (RD.out.k kk)
      replace RF := Lib.hid (RF.out.k kk)
      have RC := Lib.hid rau.read
      clear rau
      clear kk p0 p1
      have NRC : Hid (nau = C.length) := (ints_at RC.out).1.symm
      have hnu : nau = 0 := by have h1 := HCL.out; have h2 := NRC.out; omega
      subst hnu
      by_cases hp : progOk ds fs = true
      · have HP := Lib.hid hp
        by_cases h0 : v1 < 0
        · clear hc hp
          have p0 := P.out.x0
          have p1 := P.out.x1
          go_wp2_with fail
          refine (specUnusedParams ds fs a0 n0 c0 a1 n1 c1 v1 _ _ _ RD.out RF.out).mono ?_
          rw [V.out]
          rintro e w41 ⟨as_, nas_, cas_, rfl, rs, kk⟩
          replace K := Lib.hid (K.out.trans kk)
          replace P := Lib.hid (P.out.k kk)
          replace RD := Lib.hid (RD.out.k kk)
          replace RF := Lib.hid (RF.out.k kk)
          replace RC := Lib.hid (RC.out.k kk)
          have RS := Lib.hid rs
          clear rs
          clear kk p0 p1
          have p0 := P.out.x0
          have p1 := P.out.x1
          go_wp2_with fail
          refine (equalInts_same _ _ _ _ _ _ C _ _ _ RC.out.toInts RS.out.toInts (by omega)).mono ?_
          rintro e w42 ⟨rfl, kk⟩
          replace K := Lib.hid (K.out.trans kk)
          replace P := Lib.hid (P.out.k kk)
          replace RD := Lib.hid (RD.out.k kk)
          replace RF := Lib.hid (RF.out.k kk)
          replace RC := Lib.hid (RC.out.k kk)
          replace RS := Lib.hid (RS.out.k kk)
          clear kk p0 p1
          have p0 := P.out.x0
          have p1 := P.out.x1
          go_wp2_with fail
          refine (implValidProgram ds fs a0 n0 c0 a1 n1 c1 _ _ _ RD.out RF.out HF.out).mono ?_
          rw [HP.out]
          rintro e w43 ⟨rfl, kk⟩
          replace K := Lib.hid (K.out.trans kk)
          replace P := Lib.hid (P.out.k kk)
          replace RD := Lib.hid (RD.out.k kk)
          replace RF := Lib.hid (RF.out.k kk)
          replace RC := Lib.hid (RC.out.k kk)
          replace RS := Lib.hid (RS.out.k kk)
          clear kk p0 p1
          have p0 := P.out.x0
          have p1 := P.out.x1
          go_wp2_with fail
          refine (specUnusedParams ds fs a0 n0 c0 a1 n1 c1 v1 _ _ _ RD.out RF.out).mono ?_
          rw [V.out]
          rintro e w21 ⟨at_, nat_, cat_, rfl, rt, kk⟩
          replace K := Lib.hid (K.out.trans kk)
          replace P := Lib.hid (P.out.k kk)
          replace RD := Lib.hid (RD.out.k kk)
          replace RF := Lib.hid (RF.out.k kk)
          replace RC := Lib.hid (RC.out.k kk)
          have RT := Lib.hid rt
          clear rt
          clear kk p0 p1
          have p0 := P.out.x0
          have p1 := P.out.x1
          go_wp2_with fail
          refine (equalInts_same _ _ _ _ _ _ C _ _ _ RC.out.toInts RT.out.toInts (by omega)).mono ?_
          rintro e w22 ⟨rfl, kk⟩
          replace K := Lib.hid (K.out.trans kk)
          replace P := Lib.hid (P.out.k kk)
          replace RD := Lib.hid (RD.out.k kk)
          replace RF := Lib.hid (RF.out.k kk)
          replace RC := Lib.hid (RC.out.k kk)
          clear kk p0 p1
          go_wp2_with fail
          exact fin_ hQ ⟨rfl, K.out⟩
        · have h1 : (n1 : Int) ≤ v1 := by have h2 := (funcs_at RF.out).1; refine Int.not_lt.1 fun h3 => hc ⟨hp, by omega, by omega⟩
          clear hc hp
          have p0 := P.out.x0
          have p1 := P.out.x1
          go_wp2_with fail
          refine (specUnusedParams ds fs a0 n0 c0 a1 n1 c1 v1 _ _ _ RD.out RF.out).mono ?_
          rw [V.out]
          rintro e w41 ⟨as_, nas_, cas_, rfl, rs, kk⟩
          replace K := Lib.hid (K.out.trans kk)
          replace P := Lib.hid (P.out.k kk)
          replace RD := Lib.hid (RD.out.k kk)
          replace RF := Lib.hid (RF.out.k kk)
          replace RC := Lib.hid (RC.out.k kk)
          have RS := Lib.hid rs
          clear rs
          clear kk p0 p1
          have p0 := P.out.x0
          have p1 := P.out.x1
          go_wp2_with fail
          refine (equalInts_same _ _ _ _ _ _ C _ _ _ RC.out.toInts RS.out.toInts (by omega)).mono ?_
          rintro e w42 ⟨rfl, kk⟩
          replace K := Lib.hid (K.out.trans kk)
          replace P := Lib.hid (P.out.k kk)
          replace RD := Lib.hid (RD.out.k kk)
          replace RF := Lib.hid (RF.out.k kk)
          replace RC := Lib.hid (RC.out.k kk)
          replace RS := Lib.hid (RS.out.k kk)
          clear kk p0 p1
          have p0 := P.out.x0
          have p1 := P.out.x1
          go_wp2_with fail
          refine (implValidProgram ds fs a0 n0 c0 a1 n1 c1 _ _ _ RD.out RF.out HF.out).mono ?_
          rw [HP.out]
          rintro e w43 ⟨rfl, kk⟩
          replace K := Lib.hid (K.out.trans kk)
          replace P := Lib.hid (P.out.k kk)
          replace RD := Lib.hid (RD.out.k kk)
          replace RF := Lib.hid (RF.out.k kk)
          replace RC := Lib.hid (RC.out.k kk)
          replace RS := Lib.hid (RS.out.k kk)
          clear kk p0 p1
          have p0 := P.out.x0
          have p1 := P.out.x1
          go_wp2_with fail
          refine (specUnusedParams ds fs a0 n0 c0 a1 n1 c1 v1 _ _ _ RD.out RF.out).mono ?_
          rw [V.out]
          rintro e w21 ⟨at_, nat_, cat_, rfl, rt, kk⟩
          replace K := Lib.hid (K.out.trans kk)
          replace P := Lib.hid (P.out.k kk)
          replace RD := Lib.hid (RD.out.k kk)
          replace RF := Lib.hid (RF.out.k kk)
          replace RC := Lib.hid (RC.out.k kk)
          have RT := Lib.hid rt
          clear rt
          clear kk p0 p1
          have p0 := P.out.x0
          have p1 := P.out.x1
          go_wp2_with fail
          refine (equalInts_same _ _ _ _ _ _ C _ _ _ RC.out.toInts RT.out.toInts (by omega)).mono ?_
          rintro e w22 ⟨rfl, kk⟩
          replace K := Lib.hid (K.out.trans kk)
          replace P := Lib.hid (P.out.k kk)
          replace RD := Lib.hid (RD.out.k kk)
          replace RF := Lib.hid (RF.out.k kk)
          replace RC := Lib.hid (RC.out.k kk)
          clear kk p0 p1
          go_wp2_with fail
          exact fin_ hQ ⟨rfl, K.out⟩
      · have HP : Hid (progOk ds fs = false) := by show _ = _; simpa using hp
        clear hc hp
        have p0 := P.out.x0
        have p1 := P.out.x1
        go_wp2_with fail
        refine (specUnusedParams ds fs a0 n0 c0 a1 n1 c1 v1 _ _ _ RD.out RF.out).mono ?_
        rw [V.out]
        rintro e w41 ⟨as_, nas_, cas_, rfl, rs, kk⟩
        replace K := Lib.hid (K.out.trans kk)
        replace P := Lib.hid (P.out.k kk)
        replace RD := Lib.hid (RD.out.k kk)
        replace RF := Lib.hid (RF.out.k kk)
        replace RC := Lib.hid (RC.out.k kk)
        have RS := Lib.hid rs
        clear rs
        clear kk p0 p1
        have p0 := P.out.x0
        have p1 := P.out.x1
        go_wp2_with fail
        refine (equalInts_same _ _ _ _ _ _ C _ _ _ RC.out.toInts RS.out.toInts (by omega)).mono ?_
        rintro e w42 ⟨rfl, kk⟩
        replace K := Lib.hid (K.out.trans kk)
        replace P := Lib.hid (P.out.k kk)
        replace RD := Lib.hid (RD.out.k kk)
        replace RF := Lib.hid (RF.out.k kk)
        replace RC := Lib.hid (RC.out.k kk)
        replace RS := Lib.hid (RS.out.k kk)
        clear kk p0 p1
        have p0 := P.out.x0
        have p1 := P.out.x1
        go_wp2_with fail
        refine (implValidProgram ds fs a0 n0 c0 a1 n1 c1 _ _ _ RD.out RF.out HF.out).mono ?_
        rw [HP.out]
        rintro e w43 ⟨rfl, kk⟩
        replace K := Lib.hid (K.out.trans kk)
        replace P := Lib.hid (P.out.k kk)
        replace RD := Lib.hid (RD.out.k kk)
        replace RF := Lib.hid (RF.out.k kk)
        replace RC := Lib.hid (RC.out.k kk)
        replace RS := Lib.hid (RS.out.k kk)
        clear kk p0 p1
        have p0 := P.out.x0
        have p1 := P.out.x1
        go_wp2_with fail
        refine (specUnusedParams ds fs a0 n0 c0 a1 n1 c1 v1 _ _ _ RD.out RF.out).mono ?_
        rw [V.out]
        rintro e w21 ⟨at_, nat_, cat_, rfl, rt, kk⟩
        replace K := Lib.hid (K.out.trans kk)
        replace P := Lib.hid (P.out.k kk)
        replace RD := Lib.hid (RD.out.k kk)
        replace RF := Lib.hid (RF.out.k kk)
        replace RC := Lib.hid (RC.out.k kk)
        have RT := Lib.hid rt
        clear rt
        clear kk p0 p1
        have p0 := P.out.x0
        have p1 := P.out.x1
        go_wp2_with fail
        refine (equalInts_same _ _ _ _ _ _ C _ _ _ RC.out.toInts RT.out.toInts (by omega)).mono ?_
        rintro e w22 ⟨rfl, kk⟩
        replace K := Lib.hid (K.out.trans kk)
        replace P := Lib.hid (P.out.k kk)
        replace RD := Lib.hid (RD.out.k kk)
        replace RF := Lib.hid (RF.out.k kk)
        replace RC := Lib.hid (RC.out.k kk)
        clear kk p0 p1
        go_wp2_with fail
        exact fin_ hQ ⟨rfl, K.out⟩
  · go_enter Tryz.func5, Tryz.ntmps5
    go_wp2_with fail
    exact fin_ hQ ⟨rfl, Ext.refl _ _⟩
end Go.Proofs.YtkapldpmjkdmcaaGreat
/- A law over a code of bytes: from the reading of the code to bytes that can be read. -/
namespace Go.Proofs.YtkapldpmjkdmcaaGreat
open Go.RowKit

/-- What is known of a slice of integers that came in: it is nil, or it leads to a row of cells that hold integers that fit. -/
def IsRow (k : IntKind) (w : World) (a : Option Addr) (len cap : Nat) (zs : List Int) : Prop :=
  (a = none ∧ len = 0 ∧ cap = 0 ∧ zs = []) ∨
  ∃ x, a = some x ∧ len ≤ cap ∧ cap ≤ maxLen ∧ zs.length = cap ∧ (∀ i, i < zs.length → w.cell? (x.add i) = some (.int k (zs.getD i 0))) ∧ ∀ n ∈ zs, (Lit.int k n).wf = true

theorem byt_of_row {w : World} {a : Option Addr} {len cap : Nat} {zs : List Int} (h : IsRow .u8 w a len cap zs) : Byt w a len (fun i => zs.getD i 0) ∧ len ≤ cap := by
  rcases h with ⟨_, rfl, rfl, _⟩ | ⟨x, rfl, hl, _, hz, hc, hw⟩
  · exact ⟨fun h => absurd h (by omega), Nat.le_refl _⟩
  · refine ⟨fun h0 => ⟨x, rfl, ?_, fun i hi => ⟨hc i (by omega), ?_⟩⟩, hl⟩
    · have := World.block_lt_of_cell? w _ (hc 0 (by omega))
      rwa [block_add] at this
    · have hm : zs.getD i 0 ∈ zs := by
        have hi' : i < zs.length := by omega
        simp [List.getD, List.getElem?_eq_getElem hi']
      have := hw _ hm
      show 0 ≤ zs.getD i 0 ∧ zs.getD i 0 < 256
      generalize zs.getD i 0 = v at this ⊢
      simp [Lit.wf, IntKind.min, IntKind.max, IntKind.signed, IntKind.bits] at this
      omega

theorem law_bytes {P : Program} {f : FuncId} (core : ∀ (a : Option Addr) (len cap : Nat) (z : Nat → Int) (w : World), Byt w a len z → len ≤ cap →
      Calls P f #[.slice a len cap] w fun e w' => e = .returned (.bool true) ∧ Keep w w')
    {a : Option Addr} {len cap : Nat} {zs : List Int} {w : World} (h : IsRow .u8 w a len cap zs) :
    Calls P f #[.slice a len cap] w fun e w' => e = .returned (.bool true) ∧ Below w.heap.size w w' :=
  (core a len cap _ w (byt_of_row h).1 (byt_of_row h).2).mono fun _ _ ⟨he, hk⟩ => ⟨he, hk.below (Nat.le_refl _) (fun _ _ h => h)⟩
end Go.Proofs.YtkapldpmjkdmcaaGreat
