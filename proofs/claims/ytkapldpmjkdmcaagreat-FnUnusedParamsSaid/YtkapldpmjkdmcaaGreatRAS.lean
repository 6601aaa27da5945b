/- The generator of programs: goodProgram. -/
import Derived.Test.YtkapldpmjkdmcaaGreatRAR
namespace Go.Proofs.YtkapldpmjkdmcaaGreat
open Go.RowKit

set_option maxRecDepth 100000 in
set_option maxHeartbeats 8000000 in
theorem specGoodProgram (B g : Nat) (p : Int) (w : World) (hr : Rdx w B g p) (hBw : B ≤ w.heap.size) (hp : p ≤ 500000000000) :
    Calls Tryz.prog 121 #[.pointer (some ⟨g, 0, none⟩)] w fun e w' => ∃ (ds : List DeclL) (fs : List FuncL) (a0 : Option Addr) (n0 c0 sF m : Nat) (q : Int), e = .returned (.agg #[.slice a0 n0 c0, .slice (some ⟨sF, 0, none⟩) m 4]) ∧ GoodP ds fs ∧ OwnP w.heap.size w' ds fs a0 n0 c0 sF m 4 ∧ Rdx w' B g q ∧ q ≤ p + 300000000 ∧ Ext (· = g) w w' := by
  refine calls_k fun Q hQ => ?_
  have HPP := Lib.hid hp
  have hgB := hr.gB
  have hgw : g < w.heap.size := by omega
  have hBW := hBw
  have K1 := Keep.al w (.cells #[.slice none 0 0, .slice none 0 0] 44)
  have R0 := Lib.hid (hr.keep K1)
  have X0 := Lib.hid (Keep.to (S := (· = g)) K1)
  have BR0 := Lib.hid (Px.born w (.slice none 0 0) (.slice none 0 0))
  have hz0 : (w.alloc (.cells #[.slice none 0 0, .slice none 0 0] 44)).heap.size = w.heap.size + 1 := World.size_alloc _ _
  clear hr K1 hp
  go_enter Tryz.func121, Tryz.ntmps121
  go_upto_region 1 with fail
  generalize hW : w.alloc (.cells #[.slice none 0 0, .slice none 0 0] 44) = W1 at *
  clear hW
  go_wp2_with fail
  refine (goodDecls_any B g p W1 R0.out (by omega) (by have := HPP.out; omega)).mono ?_
  rintro e w1 ⟨v, kd, hkd0, hkd5, rfl, hA, r1, x1⟩
  have hlen := goodD_len kd
  have hl : ((goodD kd).map rowD).length = (goodD kd).length := by simp
  obtain ⟨bd, cd, rfl, hbd, hbd2, hnc, hcm, _, _⟩ := hA.open (by omega)
  obtain ⟨_, _, _, _, _, rdd⟩ := hA.read (by omega)
  generalize hnd : ((goodD kd).map rowD).length = nd at *
  have hsz1 := x1.size
  have RDD : Hid (Rd w1 (fun k => w.heap.size < k ∧ k < w1.heap.size) (encDecls (goodD kd)) (.slice (some ⟨bd, 0, none⟩) nd cd)) := rdd.lt.mono (fun k hk => by rcases hk with ⟨h | h, h2⟩ <;> omega)
  have KB := Keep.al w1 (.cells #[(.slice (some ⟨bd, 0, none⟩) nd cd), .slice none 0 0] 44)
  have hz1 : (w1.alloc (.cells #[(.slice (some ⟨bd, 0, none⟩) nd cd), .slice none 0 0] 44)).heap.size = w1.heap.size + 1 := World.size_alloc _ _
  have RR := Lib.hid (r1.keep KB)
  have X := Lib.hid ((X0.out.trans x1).trans (Keep.to KB))
  have BR := Lib.hid ((BR0.out.ext x1 hgw).k KB)
  have BP := Lib.hid (Px.born w1 (.slice (some ⟨bd, 0, none⟩) nd cd) (.slice none 0 0))
  replace RDD := Lib.hid (RDD.out.k KB)
  clear hA r1 x1 KB rdd R0 X0 BR0 hnd hl hlen hcm
  go_upto_region 2 with fail
  generalize hW : w1.alloc (.cells #[(.slice (some ⟨bd, 0, none⟩) nd cd), .slice none 0 0] 44) = wA at *
  clear hW
  obtain ⟨s3, hs3⟩ : ∃ s, s = w1.heap.size := ⟨_, rfl⟩
  rw [← hs3] at BP RDD
  rw [← hs3]
  have h3w : w.heap.size < s3 := by omega
  have h3A : s3 + 1 ≤ wA.heap.size := by omega
  have DD : Hid (Rd wA (fun k => w.heap.size < k ∧ k ≠ s3) (encDecls (goodD kd)) (.slice (some ⟨bd, 0, none⟩) nd cd)) := RDD.out.mono (fun k hk => by omega)
  clear hs3 hz0 hz1 hsz1 RDD hbd hbd2
  go_wp2_with fail
  refine (specSig _ _ _ _ _).mono ?_
  rintro e tab10 ⟨rfl, kq⟩
  have kk := (Keep.al wA (.cells #[.int .i64 1] 3)).trans kq
  have zz := kk.size
  have tab10P : Hid (Rd tab10 (fun k => w.heap.size < k ∧ k ≠ s3) (encInts [1]) (.slice (some ⟨wA.heap.size, 0, none⟩) 1 1)) := (lit_intsD wA (fun k => w.heap.size < k ∧ k ≠ s3) 3 [1] #[.int .i64 1] 1 (by omega) rfl rfl (by omega)).k kq
  replace X := Lib.hid (X.out.trans (Keep.to kk))
  replace RR := Lib.hid (RR.out.keep kk)
  replace DD := Lib.hid (DD.out.k kk)
  replace BR := Lib.hid (BR.out.k kk)
  replace BP := Lib.hid (BP.out.k kk)
  clear kq kk
  go_wp2_with fail
  refine (specSig _ _ _ _ _).mono ?_
  rintro e tab11 ⟨rfl, kq⟩
  have kk := (Keep.al tab10 (.cells #[.int .i64 1, .int .i64 1] 3)).trans kq
  have zz := kk.size
  have tab11P : Hid (Rd tab11 (fun k => w.heap.size < k ∧ k ≠ s3) (encInts [1, 1]) (.slice (some ⟨tab10.heap.size, 0, none⟩) 2 2)) := (lit_intsD tab10 (fun k => w.heap.size < k ∧ k ≠ s3) 3 [1, 1] #[.int .i64 1, .int .i64 1] 2 (by omega) rfl rfl (by omega)).k kq
  replace tab10P := Lib.hid (tab10P.out.k kk)
  replace X := Lib.hid (X.out.trans (Keep.to kk))
  replace RR := Lib.hid (RR.out.keep kk)
  replace DD := Lib.hid (DD.out.k kk)
  replace BR := Lib.hid (BR.out.k kk)
  replace BP := Lib.hid (BP.out.k kk)
  clear kq kk
  go_wp2_with fail
  refine (specSig _ _ _ _ _).mono ?_
  rintro e tab12 ⟨rfl, kq⟩
  have kk := (Keep.al tab11 (.cells #[.int .i64 1] 3)).trans kq
  have zz := kk.size
  have tab12P : Hid (Rd tab12 (fun k => w.heap.size < k ∧ k ≠ s3) (encInts [1]) (.slice (some ⟨tab11.heap.size, 0, none⟩) 1 1)) := (lit_intsD tab11 (fun k => w.heap.size < k ∧ k ≠ s3) 3 [1] #[.int .i64 1] 1 (by omega) rfl rfl (by omega)).k kq
  replace tab10P := Lib.hid (tab10P.out.k kk)
  replace tab11P := Lib.hid (tab11P.out.k kk)
  replace X := Lib.hid (X.out.trans (Keep.to kk))
  replace RR := Lib.hid (RR.out.keep kk)
  replace DD := Lib.hid (DD.out.k kk)
  replace BR := Lib.hid (BR.out.k kk)
  replace BP := Lib.hid (BP.out.k kk)
  clear kq kk
  go_wp2_with fail
  refine (specSig _ _ _ _ _).mono ?_
  rintro e tab13 ⟨rfl, kq⟩
  have kk := (Keep.al tab12 (.cells #[.int .i64 1, .int .i64 0] 3)).trans kq
  have zz := kk.size
  have tab13P : Hid (Rd tab13 (fun k => w.heap.size < k ∧ k ≠ s3) (encInts [1, 0]) (.slice (some ⟨tab12.heap.size, 0, none⟩) 2 2)) := (lit_intsD tab12 (fun k => w.heap.size < k ∧ k ≠ s3) 3 [1, 0] #[.int .i64 1, .int .i64 0] 2 (by omega) rfl rfl (by omega)).k kq
  replace tab10P := Lib.hid (tab10P.out.k kk)
  replace tab11P := Lib.hid (tab11P.out.k kk)
  replace tab12P := Lib.hid (tab12P.out.k kk)
  replace X := Lib.hid (X.out.trans (Keep.to kk))
  replace RR := Lib.hid (RR.out.keep kk)
  replace DD := Lib.hid (DD.out.k kk)
  replace BR := Lib.hid (BR.out.k kk)
  replace BP := Lib.hid (BP.out.k kk)
  clear kq kk
  go_wp2_with fail
  refine (specSig _ _ _ _ _).mono ?_
  rintro e tab14 ⟨rfl, kq⟩
  have kk := (Keep.al tab13 (.cells #[.int .i64 2, .int .i64 1] 3)).trans kq
  have zz := kk.size
  have tab14P : Hid (Rd tab14 (fun k => w.heap.size < k ∧ k ≠ s3) (encInts [2, 1]) (.slice (some ⟨tab13.heap.size, 0, none⟩) 2 2)) := (lit_intsD tab13 (fun k => w.heap.size < k ∧ k ≠ s3) 3 [2, 1] #[.int .i64 2, .int .i64 1] 2 (by omega) rfl rfl (by omega)).k kq
  replace tab10P := Lib.hid (tab10P.out.k kk)
  replace tab11P := Lib.hid (tab11P.out.k kk)
  replace tab12P := Lib.hid (tab12P.out.k kk)
  replace tab13P := Lib.hid (tab13P.out.k kk)
  replace X := Lib.hid (X.out.trans (Keep.to kk))
  replace RR := Lib.hid (RR.out.keep kk)
  replace DD := Lib.hid (DD.out.k kk)
  replace BR := Lib.hid (BR.out.k kk)
  replace BP := Lib.hid (BP.out.k kk)
  clear kq kk
  go_wp2_with fail
  refine (specSig _ _ _ _ _).mono ?_
  rintro e tab15 ⟨rfl, kq⟩
  have kk := (Keep.al tab14 (.cells #[.int .i64 1, .int .i64 1] 3)).trans kq
  have zz := kk.size
  have tab15P : Hid (Rd tab15 (fun k => w.heap.size < k ∧ k ≠ s3) (encInts [1, 1]) (.slice (some ⟨tab14.heap.size, 0, none⟩) 2 2)) := (lit_intsD tab14 (fun k => w.heap.size < k ∧ k ≠ s3) 3 [1, 1] #[.int .i64 1, .int .i64 1] 2 (by omega) rfl rfl (by omega)).k kq
  replace tab10P := Lib.hid (tab10P.out.k kk)
  replace tab11P := Lib.hid (tab11P.out.k kk)
  replace tab12P := Lib.hid (tab12P.out.k kk)
  replace tab13P := Lib.hid (tab13P.out.k kk)
  replace tab14P := Lib.hid (tab14P.out.k kk)
  replace X := Lib.hid (X.out.trans (Keep.to kk))
  replace RR := Lib.hid (RR.out.keep kk)
  replace DD := Lib.hid (DD.out.k kk)
  replace BR := Lib.hid (BR.out.k kk)
  replace BP := Lib.hid (BP.out.k kk)
  clear kq kk
  have tab1T : Hid (Rd (tab15.alloc (.cells #[.slice (some ⟨wA.heap.size, 0, none⟩) 1 1, .int .i64 0, .int .i64 0, .int .i64 0, .slice none 0 0, .slice (some ⟨tab10.heap.size, 0, none⟩) 2 2, .int .i64 1, .int .i64 0, .int .i64 0, .slice none 0 0, .slice (some ⟨tab11.heap.size, 0, none⟩) 1 1, .int .i64 1, .int .i64 0, .int .i64 0, .slice none 0 0, .slice (some ⟨tab12.heap.size, 0, none⟩) 2 2, .int .i64 1, .int .i64 0, .int .i64 0, .slice none 0 0, .slice (some ⟨tab13.heap.size, 0, none⟩) 2 2, .int .i64 1, .int .i64 0, .int .i64 0, .slice none 0 0, .slice (some ⟨tab14.heap.size, 0, none⟩) 2 2, .int .i64 0, .int .i64 0, .int .i64 0, .slice none 0 0] 60)) (fun k => w.heap.size < k ∧ k ≠ s3) (encFuncs tab1) (.slice (some ⟨tab15.heap.size, 0, none⟩) 6 6)) := lit_funcsD tab15 (fun k => w.heap.size < k ∧ k ≠ s3) 60 tab1 [.slice (some ⟨wA.heap.size, 0, none⟩) 1 1, .int .i64 0, .int .i64 0, .int .i64 0, .slice none 0 0, .slice (some ⟨tab10.heap.size, 0, none⟩) 2 2, .int .i64 1, .int .i64 0, .int .i64 0, .slice none 0 0, .slice (some ⟨tab11.heap.size, 0, none⟩) 1 1, .int .i64 1, .int .i64 0, .int .i64 0, .slice none 0 0, .slice (some ⟨tab12.heap.size, 0, none⟩) 2 2, .int .i64 1, .int .i64 0, .int .i64 0, .slice none 0 0, .slice (some ⟨tab13.heap.size, 0, none⟩) 2 2, .int .i64 1, .int .i64 0, .int .i64 0, .slice none 0 0, .slice (some ⟨tab14.heap.size, 0, none⟩) 2 2, .int .i64 0, .int .i64 0, .int .i64 0, .slice none 0 0] 6 (by omega) ⟨_, _, _, rfl, tab10P.out, .nil 3 _ _, ⟨_, _, _, rfl, tab11P.out, .nil 3 _ _, ⟨_, _, _, rfl, tab12P.out, .nil 3 _ _, ⟨_, _, _, rfl, tab13P.out, .nil 3 _ _, ⟨_, _, _, rfl, tab14P.out, .nil 3 _ _, ⟨_, _, _, rfl, tab15P.out, .nil 3 _ _, rfl⟩⟩⟩⟩⟩⟩ rfl (by omega)
  replace X := Lib.hid (X.out.trans (Keep.to (Keep.al tab15 (.cells #[.slice (some ⟨wA.heap.size, 0, none⟩) 1 1, .int .i64 0, .int .i64 0, .int .i64 0, .slice none 0 0, .slice (some ⟨tab10.heap.size, 0, none⟩) 2 2, .int .i64 1, .int .i64 0, .int .i64 0, .slice none 0 0, .slice (some ⟨tab11.heap.size, 0, none⟩) 1 1, .int .i64 1, .int .i64 0, .int .i64 0, .slice none 0 0, .slice (some ⟨tab12.heap.size, 0, none⟩) 2 2, .int .i64 1, .int .i64 0, .int .i64 0, .slice none 0 0, .slice (some ⟨tab13.heap.size, 0, none⟩) 2 2, .int .i64 1, .int .i64 0, .int .i64 0, .slice none 0 0, .slice (some ⟨tab14.heap.size, 0, none⟩) 2 2, .int .i64 0, .int .i64 0, .int .i64 0, .slice none 0 0] 60))))
  replace RR := Lib.hid (RR.out.keep (Keep.al tab15 (.cells #[.slice (some ⟨wA.heap.size, 0, none⟩) 1 1, .int .i64 0, .int .i64 0, .int .i64 0, .slice none 0 0, .slice (some ⟨tab10.heap.size, 0, none⟩) 2 2, .int .i64 1, .int .i64 0, .int .i64 0, .slice none 0 0, .slice (some ⟨tab11.heap.size, 0, none⟩) 1 1, .int .i64 1, .int .i64 0, .int .i64 0, .slice none 0 0, .slice (some ⟨tab12.heap.size, 0, none⟩) 2 2, .int .i64 1, .int .i64 0, .int .i64 0, .slice none 0 0, .slice (some ⟨tab13.heap.size, 0, none⟩) 2 2, .int .i64 1, .int .i64 0, .int .i64 0, .slice none 0 0, .slice (some ⟨tab14.heap.size, 0, none⟩) 2 2, .int .i64 0, .int .i64 0, .int .i64 0, .slice none 0 0] 60)))
  replace DD := Lib.hid (DD.out.k (Keep.al tab15 (.cells #[.slice (some ⟨wA.heap.size, 0, none⟩) 1 1, .int .i64 0, .int .i64 0, .int .i64 0, .slice none 0 0, .slice (some ⟨tab10.heap.size, 0, none⟩) 2 2, .int .i64 1, .int .i64 0, .int .i64 0, .slice none 0 0, .slice (some ⟨tab11.heap.size, 0, none⟩) 1 1, .int .i64 1, .int .i64 0, .int .i64 0, .slice none 0 0, .slice (some ⟨tab12.heap.size, 0, none⟩) 2 2, .int .i64 1, .int .i64 0, .int .i64 0, .slice none 0 0, .slice (some ⟨tab13.heap.size, 0, none⟩) 2 2, .int .i64 1, .int .i64 0, .int .i64 0, .slice none 0 0, .slice (some ⟨tab14.heap.size, 0, none⟩) 2 2, .int .i64 0, .int .i64 0, .int .i64 0, .slice none 0 0] 60)))
  replace BR := Lib.hid (BR.out.k (Keep.al tab15 (.cells #[.slice (some ⟨wA.heap.size, 0, none⟩) 1 1, .int .i64 0, .int .i64 0, .int .i64 0, .slice none 0 0, .slice (some ⟨tab10.heap.size, 0, none⟩) 2 2, .int .i64 1, .int .i64 0, .int .i64 0, .slice none 0 0, .slice (some ⟨tab11.heap.size, 0, none⟩) 1 1, .int .i64 1, .int .i64 0, .int .i64 0, .slice none 0 0, .slice (some ⟨tab12.heap.size, 0, none⟩) 2 2, .int .i64 1, .int .i64 0, .int .i64 0, .slice none 0 0, .slice (some ⟨tab13.heap.size, 0, none⟩) 2 2, .int .i64 1, .int .i64 0, .int .i64 0, .slice none 0 0, .slice (some ⟨tab14.heap.size, 0, none⟩) 2 2, .int .i64 0, .int .i64 0, .int .i64 0, .slice none 0 0] 60)))
  replace BP := Lib.hid (BP.out.k (Keep.al tab15 (.cells #[.slice (some ⟨wA.heap.size, 0, none⟩) 1 1, .int .i64 0, .int .i64 0, .int .i64 0, .slice none 0 0, .slice (some ⟨tab10.heap.size, 0, none⟩) 2 2, .int .i64 1, .int .i64 0, .int .i64 0, .slice none 0 0, .slice (some ⟨tab11.heap.size, 0, none⟩) 1 1, .int .i64 1, .int .i64 0, .int .i64 0, .slice none 0 0, .slice (some ⟨tab12.heap.size, 0, none⟩) 2 2, .int .i64 1, .int .i64 0, .int .i64 0, .slice none 0 0, .slice (some ⟨tab13.heap.size, 0, none⟩) 2 2, .int .i64 1, .int .i64 0, .int .i64 0, .slice none 0 0, .slice (some ⟨tab14.heap.size, 0, none⟩) 2 2, .int .i64 0, .int .i64 0, .int .i64 0, .slice none 0 0] 60)))
  have zztab1 : tab15.heap.size + 1 ≤ (tab15.alloc (.cells #[.slice (some ⟨wA.heap.size, 0, none⟩) 1 1, .int .i64 0, .int .i64 0, .int .i64 0, .slice none 0 0, .slice (some ⟨tab10.heap.size, 0, none⟩) 2 2, .int .i64 1, .int .i64 0, .int .i64 0, .slice none 0 0, .slice (some ⟨tab11.heap.size, 0, none⟩) 1 1, .int .i64 1, .int .i64 0, .int .i64 0, .slice none 0 0, .slice (some ⟨tab12.heap.size, 0, none⟩) 2 2, .int .i64 1, .int .i64 0, .int .i64 0, .slice none 0 0, .slice (some ⟨tab13.heap.size, 0, none⟩) 2 2, .int .i64 1, .int .i64 0, .int .i64 0, .slice none 0 0, .slice (some ⟨tab14.heap.size, 0, none⟩) 2 2, .int .i64 0, .int .i64 0, .int .i64 0, .slice none 0 0] 60)).heap.size := Nat.le_of_eq (World.size_alloc _ _).symm
  clear tab10P tab11P tab12P tab13P tab14P tab15P
  go_upto_region 3 with fail
  generalize hW : tab15.alloc (.cells #[.slice (some ⟨wA.heap.size, 0, none⟩) 1 1, .int .i64 0, .int .i64 0, .int .i64 0, .slice none 0 0, .slice (some ⟨tab10.heap.size, 0, none⟩) 2 2, .int .i64 1, .int .i64 0, .int .i64 0, .slice none 0 0, .slice (some ⟨tab11.heap.size, 0, none⟩) 1 1, .int .i64 1, .int .i64 0, .int .i64 0, .slice none 0 0, .slice (some ⟨tab12.heap.size, 0, none⟩) 2 2, .int .i64 1, .int .i64 0, .int .i64 0, .slice none 0 0, .slice (some ⟨tab13.heap.size, 0, none⟩) 2 2, .int .i64 1, .int .i64 0, .int .i64 0, .slice none 0 0, .slice (some ⟨tab14.heap.size, 0, none⟩) 2 2, .int .i64 0, .int .i64 0, .int .i64 0, .slice none 0 0] 60) = tab1w at *
  clear hW
  obtain ⟨tab1s, htab1s⟩ : ∃ s, s = tab15.heap.size := ⟨_, rfl⟩
  rw [← htab1s] at tab1T
  rw [← htab1s]
  have qtab1s : wA.heap.size ≤ tab1s := by omega
  have rtab1s : tab1s + 1 ≤ tab1w.heap.size := by omega
  clear htab1s zz zztab1
  go_wp2_with fail
  refine (specSig _ _ _ _ _).mono ?_
  rintro e tab20 ⟨rfl, kq⟩
  have kk := (Keep.al tab1w (.cells #[.int .i64 3] 3)).trans kq
  have zz := kk.size
  have tab20P : Hid (Rd tab20 (fun k => w.heap.size < k ∧ k ≠ s3) (encInts [3]) (.slice (some ⟨tab1w.heap.size, 0, none⟩) 1 1)) := (lit_intsD tab1w (fun k => w.heap.size < k ∧ k ≠ s3) 3 [3] #[.int .i64 3] 1 (by omega) rfl rfl (by omega)).k kq
  replace X := Lib.hid (X.out.trans (Keep.to kk))
  replace RR := Lib.hid (RR.out.keep kk)
  replace DD := Lib.hid (DD.out.k kk)
  replace BR := Lib.hid (BR.out.k kk)
  replace BP := Lib.hid (BP.out.k kk)
  replace tab1T := Lib.hid (tab1T.out.k kk)
  clear kq kk
  go_wp2_with fail
  refine (specSig _ _ _ _ _).mono ?_
  rintro e tab21 ⟨rfl, kq⟩
  have kk := (Keep.al tab20 (.cells #[.int .i64 0] 3)).trans kq
  have zz := kk.size
  have tab21P : Hid (Rd tab21 (fun k => w.heap.size < k ∧ k ≠ s3) (encInts [0]) (.slice (some ⟨tab20.heap.size, 0, none⟩) 1 1)) := (lit_intsD tab20 (fun k => w.heap.size < k ∧ k ≠ s3) 3 [0] #[.int .i64 0] 1 (by omega) rfl rfl (by omega)).k kq
  replace tab20P := Lib.hid (tab20P.out.k kk)
  replace X := Lib.hid (X.out.trans (Keep.to kk))
  replace RR := Lib.hid (RR.out.keep kk)
  replace DD := Lib.hid (DD.out.k kk)
  replace BR := Lib.hid (BR.out.k kk)
  replace BP := Lib.hid (BP.out.k kk)
  replace tab1T := Lib.hid (tab1T.out.k kk)
  clear kq kk
  go_wp2_with fail
  refine (specSig _ _ _ _ _).mono ?_
  rintro e tab22 ⟨rfl, kq⟩
  have kk := (Keep.al tab21 (.cells #[.int .i64 0, .int .i64 1] 3)).trans kq
  have zz := kk.size
  have tab22P : Hid (Rd tab22 (fun k => w.heap.size < k ∧ k ≠ s3) (encInts [0, 1]) (.slice (some ⟨tab21.heap.size, 0, none⟩) 2 2)) := (lit_intsD tab21 (fun k => w.heap.size < k ∧ k ≠ s3) 3 [0, 1] #[.int .i64 0, .int .i64 1] 2 (by omega) rfl rfl (by omega)).k kq
  replace tab20P := Lib.hid (tab20P.out.k kk)
  replace tab21P := Lib.hid (tab21P.out.k kk)
  replace X := Lib.hid (X.out.trans (Keep.to kk))
  replace RR := Lib.hid (RR.out.keep kk)
  replace DD := Lib.hid (DD.out.k kk)
  replace BR := Lib.hid (BR.out.k kk)
  replace BP := Lib.hid (BP.out.k kk)
  replace tab1T := Lib.hid (tab1T.out.k kk)
  clear kq kk
  go_wp2_with fail
  refine (specSig _ _ _ _ _).mono ?_
  rintro e tab23 ⟨rfl, kq⟩
  have kk := (Keep.al tab22 (.cells #[.int .i64 3, .int .i64 0] 3)).trans kq
  have zz := kk.size
  have tab23P : Hid (Rd tab23 (fun k => w.heap.size < k ∧ k ≠ s3) (encInts [3, 0]) (.slice (some ⟨tab22.heap.size, 0, none⟩) 2 2)) := (lit_intsD tab22 (fun k => w.heap.size < k ∧ k ≠ s3) 3 [3, 0] #[.int .i64 3, .int .i64 0] 2 (by omega) rfl rfl (by omega)).k kq
  replace tab20P := Lib.hid (tab20P.out.k kk)
  replace tab21P := Lib.hid (tab21P.out.k kk)
  replace tab22P := Lib.hid (tab22P.out.k kk)
  replace X := Lib.hid (X.out.trans (Keep.to kk))
  replace RR := Lib.hid (RR.out.keep kk)
  replace DD := Lib.hid (DD.out.k kk)
  replace BR := Lib.hid (BR.out.k kk)
  replace BP := Lib.hid (BP.out.k kk)
  replace tab1T := Lib.hid (tab1T.out.k kk)
  clear kq kk
  go_wp2_with fail
  refine (specSig _ _ _ _ _).mono ?_
  rintro e tab24 ⟨rfl, kq⟩
  have kk := (Keep.al tab23 (.cells #[.int .i64 3] 3)).trans kq
  have zz := kk.size
  have tab24P : Hid (Rd tab24 (fun k => w.heap.size < k ∧ k ≠ s3) (encInts [3]) (.slice (some ⟨tab23.heap.size, 0, none⟩) 1 1)) := (lit_intsD tab23 (fun k => w.heap.size < k ∧ k ≠ s3) 3 [3] #[.int .i64 3] 1 (by omega) rfl rfl (by omega)).k kq
  replace tab20P := Lib.hid (tab20P.out.k kk)
  replace tab21P := Lib.hid (tab21P.out.k kk)
  replace tab22P := Lib.hid (tab22P.out.k kk)
  replace tab23P := Lib.hid (tab23P.out.k kk)
  replace X := Lib.hid (X.out.trans (Keep.to kk))
  replace RR := Lib.hid (RR.out.keep kk)
  replace DD := Lib.hid (DD.out.k kk)
  replace BR := Lib.hid (BR.out.k kk)
  replace BP := Lib.hid (BP.out.k kk)
  replace tab1T := Lib.hid (tab1T.out.k kk)
  clear kq kk
  go_wp2_with fail
  refine (specSig _ _ _ _ _).mono ?_
  rintro e tab25 ⟨rfl, kq⟩
  have kk := (Keep.al tab24 (.cells #[.int .i64 1, .int .i64 3, .int .i64 0] 3)).trans kq
  have zz := kk.size
  have tab25P : Hid (Rd tab25 (fun k => w.heap.size < k ∧ k ≠ s3) (encInts [1, 3, 0]) (.slice (some ⟨tab24.heap.size, 0, none⟩) 3 3)) := (lit_intsD tab24 (fun k => w.heap.size < k ∧ k ≠ s3) 3 [1, 3, 0] #[.int .i64 1, .int .i64 3, .int .i64 0] 3 (by omega) rfl rfl (by omega)).k kq
  replace tab20P := Lib.hid (tab20P.out.k kk)
  replace tab21P := Lib.hid (tab21P.out.k kk)
  replace tab22P := Lib.hid (tab22P.out.k kk)
  replace tab23P := Lib.hid (tab23P.out.k kk)
  replace tab24P := Lib.hid (tab24P.out.k kk)
  replace X := Lib.hid (X.out.trans (Keep.to kk))
  replace RR := Lib.hid (RR.out.keep kk)
  replace DD := Lib.hid (DD.out.k kk)
  replace BR := Lib.hid (BR.out.k kk)
  replace BP := Lib.hid (BP.out.k kk)
  replace tab1T := Lib.hid (tab1T.out.k kk)
  clear kq kk
  have tab2T : Hid (Rd (tab25.alloc (.cells #[.slice (some ⟨tab1w.heap.size, 0, none⟩) 1 1, .int .i64 0, .int .i64 0, .int .i64 0, .slice none 0 0, .slice (some ⟨tab20.heap.size, 0, none⟩) 1 1, .int .i64 1, .int .i64 0, .int .i64 0, .slice none 0 0, .slice (some ⟨tab21.heap.size, 0, none⟩) 2 2, .int .i64 1, .int .i64 0, .int .i64 0, .slice none 0 0, .slice (some ⟨tab22.heap.size, 0, none⟩) 2 2, .int .i64 3, .int .i64 0, .int .i64 0, .slice none 0 0, .slice (some ⟨tab23.heap.size, 0, none⟩) 1 1, .int .i64 1, .int .i64 0, .int .i64 0, .slice none 0 0, .slice (some ⟨tab24.heap.size, 0, none⟩) 3 3, .int .i64 0, .int .i64 0, .int .i64 0, .slice none 0 0] 60)) (fun k => w.heap.size < k ∧ k ≠ s3) (encFuncs tab2) (.slice (some ⟨tab25.heap.size, 0, none⟩) 6 6)) := lit_funcsD tab25 (fun k => w.heap.size < k ∧ k ≠ s3) 60 tab2 [.slice (some ⟨tab1w.heap.size, 0, none⟩) 1 1, .int .i64 0, .int .i64 0, .int .i64 0, .slice none 0 0, .slice (some ⟨tab20.heap.size, 0, none⟩) 1 1, .int .i64 1, .int .i64 0, .int .i64 0, .slice none 0 0, .slice (some ⟨tab21.heap.size, 0, none⟩) 2 2, .int .i64 1, .int .i64 0, .int .i64 0, .slice none 0 0, .slice (some ⟨tab22.heap.size, 0, none⟩) 2 2, .int .i64 3, .int .i64 0, .int .i64 0, .slice none 0 0, .slice (some ⟨tab23.heap.size, 0, none⟩) 1 1, .int .i64 1, .int .i64 0, .int .i64 0, .slice none 0 0, .slice (some ⟨tab24.heap.size, 0, none⟩) 3 3, .int .i64 0, .int .i64 0, .int .i64 0, .slice none 0 0] 6 (by omega) ⟨_, _, _, rfl, tab20P.out, .nil 3 _ _, ⟨_, _, _, rfl, tab21P.out, .nil 3 _ _, ⟨_, _, _, rfl, tab22P.out, .nil 3 _ _, ⟨_, _, _, rfl, tab23P.out, .nil 3 _ _, ⟨_, _, _, rfl, tab24P.out, .nil 3 _ _, ⟨_, _, _, rfl, tab25P.out, .nil 3 _ _, rfl⟩⟩⟩⟩⟩⟩ rfl (by omega)
  replace X := Lib.hid (X.out.trans (Keep.to (Keep.al tab25 (.cells #[.slice (some ⟨tab1w.heap.size, 0, none⟩) 1 1, .int .i64 0, .int .i64 0, .int .i64 0, .slice none 0 0, .slice (some ⟨tab20.heap.size, 0, none⟩) 1 1, .int .i64 1, .int .i64 0, .int .i64 0, .slice none 0 0, .slice (some ⟨tab21.heap.size, 0, none⟩) 2 2, .int .i64 1, .int .i64 0, .int .i64 0, .slice none 0 0, .slice (some ⟨tab22.heap.size, 0, none⟩) 2 2, .int .i64 3, .int .i64 0, .int .i64 0, .slice none 0 0, .slice (some ⟨tab23.heap.size, 0, none⟩) 1 1, .int .i64 1, .int .i64 0, .int .i64 0, .slice none 0 0, .slice (some ⟨tab24.heap.size, 0, none⟩) 3 3, .int .i64 0, .int .i64 0, .int .i64 0, .slice none 0 0] 60))))
  replace RR := Lib.hid (RR.out.keep (Keep.al tab25 (.cells #[.slice (some ⟨tab1w.heap.size, 0, none⟩) 1 1, .int .i64 0, .int .i64 0, .int .i64 0, .slice none 0 0, .slice (some ⟨tab20.heap.size, 0, none⟩) 1 1, .int .i64 1, .int .i64 0, .int .i64 0, .slice none 0 0, .slice (some ⟨tab21.heap.size, 0, none⟩) 2 2, .int .i64 1, .int .i64 0, .int .i64 0, .slice none 0 0, .slice (some ⟨tab22.heap.size, 0, none⟩) 2 2, .int .i64 3, .int .i64 0, .int .i64 0, .slice none 0 0, .slice (some ⟨tab23.heap.size, 0, none⟩) 1 1, .int .i64 1, .int .i64 0, .int .i64 0, .slice none 0 0, .slice (some ⟨tab24.heap.size, 0, none⟩) 3 3, .int .i64 0, .int .i64 0, .int .i64 0, .slice none 0 0] 60)))
  replace DD := Lib.hid (DD.out.k (Keep.al tab25 (.cells #[.slice (some ⟨tab1w.heap.size, 0, none⟩) 1 1, .int .i64 0, .int .i64 0, .int .i64 0, .slice none 0 0, .slice (some ⟨tab20.heap.size, 0, none⟩) 1 1, .int .i64 1, .int .i64 0, .int .i64 0, .slice none 0 0, .slice (some ⟨tab21.heap.size, 0, none⟩) 2 2, .int .i64 1, .int .i64 0, .int .i64 0, .slice none 0 0, .slice (some ⟨tab22.heap.size, 0, none⟩) 2 2, .int .i64 3, .int .i64 0, .int .i64 0, .slice none 0 0, .slice (some ⟨tab23.heap.size, 0, none⟩) 1 1, .int .i64 1, .int .i64 0, .int .i64 0, .slice none 0 0, .slice (some ⟨tab24.heap.size, 0, none⟩) 3 3, .int .i64 0, .int .i64 0, .int .i64 0, .slice none 0 0] 60)))
  replace BR := Lib.hid (BR.out.k (Keep.al tab25 (.cells #[.slice (some ⟨tab1w.heap.size, 0, none⟩) 1 1, .int .i64 0, .int .i64 0, .int .i64 0, .slice none 0 0, .slice (some ⟨tab20.heap.size, 0, none⟩) 1 1, .int .i64 1, .int .i64 0, .int .i64 0, .slice none 0 0, .slice (some ⟨tab21.heap.size, 0, none⟩) 2 2, .int .i64 1, .int .i64 0, .int .i64 0, .slice none 0 0, .slice (some ⟨tab22.heap.size, 0, none⟩) 2 2, .int .i64 3, .int .i64 0, .int .i64 0, .slice none 0 0, .slice (some ⟨tab23.heap.size, 0, none⟩) 1 1, .int .i64 1, .int .i64 0, .int .i64 0, .slice none 0 0, .slice (some ⟨tab24.heap.size, 0, none⟩) 3 3, .int .i64 0, .int .i64 0, .int .i64 0, .slice none 0 0] 60)))
  replace BP := Lib.hid (BP.out.k (Keep.al tab25 (.cells #[.slice (some ⟨tab1w.heap.size, 0, none⟩) 1 1, .int .i64 0, .int .i64 0, .int .i64 0, .slice none 0 0, .slice (some ⟨tab20.heap.size, 0, none⟩) 1 1, .int .i64 1, .int .i64 0, .int .i64 0, .slice none 0 0, .slice (some ⟨tab21.heap.size, 0, none⟩) 2 2, .int .i64 1, .int .i64 0, .int .i64 0, .slice none 0 0, .slice (some ⟨tab22.heap.size, 0, none⟩) 2 2, .int .i64 3, .int .i64 0, .int .i64 0, .slice none 0 0, .slice (some ⟨tab23.heap.size, 0, none⟩) 1 1, .int .i64 1, .int .i64 0, .int .i64 0, .slice none 0 0, .slice (some ⟨tab24.heap.size, 0, none⟩) 3 3, .int .i64 0, .int .i64 0, .int .i64 0, .slice none 0 0] 60)))
  replace tab1T := Lib.hid (tab1T.out.k (Keep.al tab25 (.cells #[.slice (some ⟨tab1w.heap.size, 0, none⟩) 1 1, .int .i64 0, .int .i64 0, .int .i64 0, .slice none 0 0, .slice (some ⟨tab20.heap.size, 0, none⟩) 1 1, .int .i64 1, .int .i64 0, .int .i64 0, .slice none 0 0, .slice (some ⟨tab21.heap.size, 0, none⟩) 2 2, .int .i64 1, .int .i64 0, .int .i64 0, .slice none 0 0, .slice (some ⟨tab22.heap.size, 0, none⟩) 2 2, .int .i64 3, .int .i64 0, .int .i64 0, .slice none 0 0, .slice (some ⟨tab23.heap.size, 0, none⟩) 1 1, .int .i64 1, .int .i64 0, .int .i64 0, .slice none 0 0, .slice (some ⟨tab24.heap.size, 0, none⟩) 3 3, .int .i64 0, .int .i64 0, .int .i64 0, .slice none 0 0] 60)))
  have zztab2 : tab25.heap.size + 1 ≤ (tab25.alloc (.cells #[.slice (some ⟨tab1w.heap.size, 0, none⟩) 1 1, .int .i64 0, .int .i64 0, .int .i64 0, .slice none 0 0, .slice (some ⟨tab20.heap.size, 0, none⟩) 1 1, .int .i64 1, .int .i64 0, .int .i64 0, .slice none 0 0, .slice (some ⟨tab21.heap.size, 0, none⟩) 2 2, .int .i64 1, .int .i64 0, .int .i64 0, .slice none 0 0, .slice (some ⟨tab22.heap.size, 0, none⟩) 2 2, .int .i64 3, .int .i64 0, .int .i64 0, .slice none 0 0, .slice (some ⟨tab23.heap.size, 0, none⟩) 1 1, .int .i64 1, .int .i64 0, .int .i64 0, .slice none 0 0, .slice (some ⟨tab24.heap.size, 0, none⟩) 3 3, .int .i64 0, .int .i64 0, .int .i64 0, .slice none 0 0] 60)).heap.size := Nat.le_of_eq (World.size_alloc _ _).symm
  clear tab20P tab21P tab22P tab23P tab24P tab25P
  go_upto_region 4 with fail
  generalize hW : tab25.alloc (.cells #[.slice (some ⟨tab1w.heap.size, 0, none⟩) 1 1, .int .i64 0, .int .i64 0, .int .i64 0, .slice none 0 0, .slice (some ⟨tab20.heap.size, 0, none⟩) 1 1, .int .i64 1, .int .i64 0, .int .i64 0, .slice none 0 0, .slice (some ⟨tab21.heap.size, 0, none⟩) 2 2, .int .i64 1, .int .i64 0, .int .i64 0, .slice none 0 0, .slice (some ⟨tab22.heap.size, 0, none⟩) 2 2, .int .i64 3, .int .i64 0, .int .i64 0, .slice none 0 0, .slice (some ⟨tab23.heap.size, 0, none⟩) 1 1, .int .i64 1, .int .i64 0, .int .i64 0, .slice none 0 0, .slice (some ⟨tab24.heap.size, 0, none⟩) 3 3, .int .i64 0, .int .i64 0, .int .i64 0, .slice none 0 0] 60) = tab2w at *
  clear hW
  obtain ⟨tab2s, htab2s⟩ : ∃ s, s = tab25.heap.size := ⟨_, rfl⟩
  rw [← htab2s] at tab2T
  rw [← htab2s]
  have qtab2s : tab1w.heap.size ≤ tab2s := by omega
  have rtab2s : tab2s + 1 ≤ tab2w.heap.size := by omega
  clear htab2s zz zztab2
  go_wp2_with fail
  refine (specSig _ _ _ _ _).mono ?_
  rintro e tab30 ⟨rfl, kq⟩
  have kk := (Keep.al tab2w (.cells #[.int .i64 0] 3)).trans kq
  have zz := kk.size
  have tab30P : Hid (Rd tab30 (fun k => w.heap.size < k ∧ k ≠ s3) (encInts [0]) (.slice (some ⟨tab2w.heap.size, 0, none⟩) 1 1)) := (lit_intsD tab2w (fun k => w.heap.size < k ∧ k ≠ s3) 3 [0] #[.int .i64 0] 1 (by omega) rfl rfl (by omega)).k kq
  replace X := Lib.hid (X.out.trans (Keep.to kk))
  replace RR := Lib.hid (RR.out.keep kk)
  replace DD := Lib.hid (DD.out.k kk)
  replace BR := Lib.hid (BR.out.k kk)
  replace BP := Lib.hid (BP.out.k kk)
  replace tab1T := Lib.hid (tab1T.out.k kk)
  replace tab2T := Lib.hid (tab2T.out.k kk)
  clear kq kk
  go_wp2_with fail
  refine (specSig _ _ _ _ _).mono ?_
  rintro e tab31 ⟨rfl, kq⟩
  have kk := (Keep.al tab30 (.cells #[.int .i64 0, .int .i64 0] 3)).trans kq
  have zz := kk.size
  have tab31P : Hid (Rd tab31 (fun k => w.heap.size < k ∧ k ≠ s3) (encInts [0, 0]) (.slice (some ⟨tab30.heap.size, 0, none⟩) 2 2)) := (lit_intsD tab30 (fun k => w.heap.size < k ∧ k ≠ s3) 3 [0, 0] #[.int .i64 0, .int .i64 0] 2 (by omega) rfl rfl (by omega)).k kq
  replace tab30P := Lib.hid (tab30P.out.k kk)
  replace X := Lib.hid (X.out.trans (Keep.to kk))
  replace RR := Lib.hid (RR.out.keep kk)
  replace DD := Lib.hid (DD.out.k kk)
  replace BR := Lib.hid (BR.out.k kk)
  replace BP := Lib.hid (BP.out.k kk)
  replace tab1T := Lib.hid (tab1T.out.k kk)
  replace tab2T := Lib.hid (tab2T.out.k kk)
  clear kq kk
  go_wp2_with fail
  refine (specSig _ _ _ _ _).mono ?_
  rintro e tab32 ⟨rfl, kq⟩
  have kk := (Keep.al tab31 (.cells #[.int .i64 1, .int .i64 0] 3)).trans kq
  have zz := kk.size
  have tab32P : Hid (Rd tab32 (fun k => w.heap.size < k ∧ k ≠ s3) (encInts [1, 0]) (.slice (some ⟨tab31.heap.size, 0, none⟩) 2 2)) := (lit_intsD tab31 (fun k => w.heap.size < k ∧ k ≠ s3) 3 [1, 0] #[.int .i64 1, .int .i64 0] 2 (by omega) rfl rfl (by omega)).k kq
  replace tab30P := Lib.hid (tab30P.out.k kk)
  replace tab31P := Lib.hid (tab31P.out.k kk)
  replace X := Lib.hid (X.out.trans (Keep.to kk))
  replace RR := Lib.hid (RR.out.keep kk)
  replace DD := Lib.hid (DD.out.k kk)
  replace BR := Lib.hid (BR.out.k kk)
  replace BP := Lib.hid (BP.out.k kk)
  replace tab1T := Lib.hid (tab1T.out.k kk)
  replace tab2T := Lib.hid (tab2T.out.k kk)
  clear kq kk
  go_wp2_with fail
  refine (specSig _ _ _ _ _).mono ?_
  rintro e tab33 ⟨rfl, kq⟩
  have kk := (Keep.al tab32 (.cells #[.int .i64 0] 3)).trans kq
  have zz := kk.size
  have tab33P : Hid (Rd tab33 (fun k => w.heap.size < k ∧ k ≠ s3) (encInts [0]) (.slice (some ⟨tab32.heap.size, 0, none⟩) 1 1)) := (lit_intsD tab32 (fun k => w.heap.size < k ∧ k ≠ s3) 3 [0] #[.int .i64 0] 1 (by omega) rfl rfl (by omega)).k kq
  replace tab30P := Lib.hid (tab30P.out.k kk)
  replace tab31P := Lib.hid (tab31P.out.k kk)
  replace tab32P := Lib.hid (tab32P.out.k kk)
  replace X := Lib.hid (X.out.trans (Keep.to kk))
  replace RR := Lib.hid (RR.out.keep kk)
  replace DD := Lib.hid (DD.out.k kk)
  replace BR := Lib.hid (BR.out.k kk)
  replace BP := Lib.hid (BP.out.k kk)
  replace tab1T := Lib.hid (tab1T.out.k kk)
  replace tab2T := Lib.hid (tab2T.out.k kk)
  clear kq kk
  have tab3T : Hid (Rd (tab33.alloc (.cells #[.slice (some ⟨tab2w.heap.size, 0, none⟩) 1 1, .int .i64 0, .int .i64 0, .int .i64 0, .slice none 0 0, .slice (some ⟨tab30.heap.size, 0, none⟩) 2 2, .int .i64 0, .int .i64 0, .int .i64 0, .slice none 0 0, .slice (some ⟨tab31.heap.size, 0, none⟩) 2 2, .int .i64 0, .int .i64 0, .int .i64 0, .slice none 0 0, .slice (some ⟨tab32.heap.size, 0, none⟩) 1 1, .int .i64 1, .int .i64 0, .int .i64 0, .slice none 0 0] 60)) (fun k => w.heap.size < k ∧ k ≠ s3) (encFuncs tab3) (.slice (some ⟨tab33.heap.size, 0, none⟩) 4 4)) := lit_funcsD tab33 (fun k => w.heap.size < k ∧ k ≠ s3) 60 tab3 [.slice (some ⟨tab2w.heap.size, 0, none⟩) 1 1, .int .i64 0, .int .i64 0, .int .i64 0, .slice none 0 0, .slice (some ⟨tab30.heap.size, 0, none⟩) 2 2, .int .i64 0, .int .i64 0, .int .i64 0, .slice none 0 0, .slice (some ⟨tab31.heap.size, 0, none⟩) 2 2, .int .i64 0, .int .i64 0, .int .i64 0, .slice none 0 0, .slice (some ⟨tab32.heap.size, 0, none⟩) 1 1, .int .i64 1, .int .i64 0, .int .i64 0, .slice none 0 0] 4 (by omega) ⟨_, _, _, rfl, tab30P.out, .nil 3 _ _, ⟨_, _, _, rfl, tab31P.out, .nil 3 _ _, ⟨_, _, _, rfl, tab32P.out, .nil 3 _ _, ⟨_, _, _, rfl, tab33P.out, .nil 3 _ _, rfl⟩⟩⟩⟩ rfl (by omega)
  replace X := Lib.hid (X.out.trans (Keep.to (Keep.al tab33 (.cells #[.slice (some ⟨tab2w.heap.size, 0, none⟩) 1 1, .int .i64 0, .int .i64 0, .int .i64 0, .slice none 0 0, .slice (some ⟨tab30.heap.size, 0, none⟩) 2 2, .int .i64 0, .int .i64 0, .int .i64 0, .slice none 0 0, .slice (some ⟨tab31.heap.size, 0, none⟩) 2 2, .int .i64 0, .int .i64 0, .int .i64 0, .slice none 0 0, .slice (some ⟨tab32.heap.size, 0, none⟩) 1 1, .int .i64 1, .int .i64 0, .int .i64 0, .slice none 0 0] 60))))
  replace RR := Lib.hid (RR.out.keep (Keep.al tab33 (.cells #[.slice (some ⟨tab2w.heap.size, 0, none⟩) 1 1, .int .i64 0, .int .i64 0, .int .i64 0, .slice none 0 0, .slice (some ⟨tab30.heap.size, 0, none⟩) 2 2, .int .i64 0, .int .i64 0, .int .i64 0, .slice none 0 0, .slice (some ⟨tab31.heap.size, 0, none⟩) 2 2, .int .i64 0, .int .i64 0, .int .i64 0, .slice none 0 0, .slice (some ⟨tab32.heap.size, 0, none⟩) 1 1, .int .i64 1, .int .i64 0, .int .i64 0, .slice none 0 0] 60)))
  replace DD := Lib.hid (DD.out.k (Keep.al tab33 (.cells #[.slice (some ⟨tab2w.heap.size, 0, none⟩) 1 1, .int .i64 0, .int .i64 0, .int .i64 0, .slice none 0 0, .slice (some ⟨tab30.heap.size, 0, none⟩) 2 2, .int .i64 0, .int .i64 0, .int .i64 0, .slice none 0 0, .slice (some ⟨tab31.heap.size, 0, none⟩) 2 2, .int .i64 0, .int .i64 0, .int .i64 0, .slice none 0 0, .slice (some ⟨tab32.heap.size, 0, none⟩) 1 1, .int .i64 1, .int .i64 0, .int .i64 0, .slice none 0 0] 60)))
  replace BR := Lib.hid (BR.out.k (Keep.al tab33 (.cells #[.slice (some ⟨tab2w.heap.size, 0, none⟩) 1 1, .int .i64 0, .int .i64 0, .int .i64 0, .slice none 0 0, .slice (some ⟨tab30.heap.size, 0, none⟩) 2 2, .int .i64 0, .int .i64 0, .int .i64 0, .slice none 0 0, .slice (some ⟨tab31.heap.size, 0, none⟩) 2 2, .int .i64 0, .int .i64 0, .int .i64 0, .slice none 0 0, .slice (some ⟨tab32.heap.size, 0, none⟩) 1 1, .int .i64 1, .int .i64 0, .int .i64 0, .slice none 0 0] 60)))
  replace BP := Lib.hid (BP.out.k (Keep.al tab33 (.cells #[.slice (some ⟨tab2w.heap.size, 0, none⟩) 1 1, .int .i64 0, .int .i64 0, .int .i64 0, .slice none 0 0, .slice (some ⟨tab30.heap.size, 0, none⟩) 2 2, .int .i64 0, .int .i64 0, .int .i64 0, .slice none 0 0, .slice (some ⟨tab31.heap.size, 0, none⟩) 2 2, .int .i64 0, .int .i64 0, .int .i64 0, .slice none 0 0, .slice (some ⟨tab32.heap.size, 0, none⟩) 1 1, .int .i64 1, .int .i64 0, .int .i64 0, .slice none 0 0] 60)))
  replace tab1T := Lib.hid (tab1T.out.k (Keep.al tab33 (.cells #[.slice (some ⟨tab2w.heap.size, 0, none⟩) 1 1, .int .i64 0, .int .i64 0, .int .i64 0, .slice none 0 0, .slice (some ⟨tab30.heap.size, 0, none⟩) 2 2, .int .i64 0, .int .i64 0, .int .i64 0, .slice none 0 0, .slice (some ⟨tab31.heap.size, 0, none⟩) 2 2, .int .i64 0, .int .i64 0, .int .i64 0, .slice none 0 0, .slice (some ⟨tab32.heap.size, 0, none⟩) 1 1, .int .i64 1, .int .i64 0, .int .i64 0, .slice none 0 0] 60)))
  replace tab2T := Lib.hid (tab2T.out.k (Keep.al tab33 (.cells #[.slice (some ⟨tab2w.heap.size, 0, none⟩) 1 1, .int .i64 0, .int .i64 0, .int .i64 0, .slice none 0 0, .slice (some ⟨tab30.heap.size, 0, none⟩) 2 2, .int .i64 0, .int .i64 0, .int .i64 0, .slice none 0 0, .slice (some ⟨tab31.heap.size, 0, none⟩) 2 2, .int .i64 0, .int .i64 0, .int .i64 0, .slice none 0 0, .slice (some ⟨tab32.heap.size, 0, none⟩) 1 1, .int .i64 1, .int .i64 0, .int .i64 0, .slice none 0 0] 60)))
  have zztab3 : tab33.heap.size + 1 ≤ (tab33.alloc (.cells #[.slice (some ⟨tab2w.heap.size, 0, none⟩) 1 1, .int .i64 0, .int .i64 0, .int .i64 0, .slice none 0 0, .slice (some ⟨tab30.heap.size, 0, none⟩) 2 2, .int .i64 0, .int .i64 0, .int .i64 0, .slice none 0 0, .slice (some ⟨tab31.heap.size, 0, none⟩) 2 2, .int .i64 0, .int .i64 0, .int .i64 0, .slice none 0 0, .slice (some ⟨tab32.heap.size, 0, none⟩) 1 1, .int .i64 1, .int .i64 0, .int .i64 0, .slice none 0 0] 60)).heap.size := Nat.le_of_eq (World.size_alloc _ _).symm
  clear tab30P tab31P tab32P tab33P
  go_upto_region 5 with fail
  generalize hW : tab33.alloc (.cells #[.slice (some ⟨tab2w.heap.size, 0, none⟩) 1 1, .int .i64 0, .int .i64 0, .int .i64 0, .slice none 0 0, .slice (some ⟨tab30.heap.size, 0, none⟩) 2 2, .int .i64 0, .int .i64 0, .int .i64 0, .slice none 0 0, .slice (some ⟨tab31.heap.size, 0, none⟩) 2 2, .int .i64 0, .int .i64 0, .int .i64 0, .slice none 0 0, .slice (some ⟨tab32.heap.size, 0, none⟩) 1 1, .int .i64 1, .int .i64 0, .int .i64 0, .slice none 0 0] 60) = tab3w at *
  clear hW
  obtain ⟨tab3s, htab3s⟩ : ∃ s, s = tab33.heap.size := ⟨_, rfl⟩
  rw [← htab3s] at tab3T
  rw [← htab3s]
  have qtab3s : tab2w.heap.size ≤ tab3s := by omega
  have rtab3s : tab3s + 1 ≤ tab3w.heap.size := by omega
  clear htab3s zz zztab3
  have KD : Keep tab3w tab3w.drew := (Ext.refl (fun _ => False) tab3w).drew
  have hdz : tab3w.heap.size ≤ tab3w.drew.heap.size := Nat.le_refl _
  replace RR := Lib.hid (RR.out.keep KD)
  replace X := Lib.hid (X.out.trans (Keep.to KD))
  replace DD := Lib.hid (DD.out.k KD)
  replace BR := Lib.hid (BR.out.k KD)
  replace BP := Lib.hid (BP.out.k KD)
  have tab1Z := Lib.hid (tab1T.out.k KD)
  have tab2Z := Lib.hid (tab2T.out.k KD)
  have tab3Z := Lib.hid (tab3T.out.k KD)
  clear KD
  refine wp_region_held_drew (S := fun w' => Ext (fun k => k = g ∨ k = s3) tab3w.drew w') (by kernel_rfl) (Ext.refl _ _) (fun hHeld => ?_)
  have pc : Hid (Ext (· = g) tab3w.drew tab3w.drew) := Ext.refl _ _
  generalize tab3w.drew = W0 at *
  refine wT 2 hHeld ?_
  try go_frame
  refine wT 3 hHeld ?_
  try go_frame
  refine wT 4 hHeld ?_
  try go_frame
  refine wT 5 hHeld ?_
  try go_frame
  refine wT 9 hHeld ?_
  try go_frame
  refine wT 10 hHeld ?_
  try go_frame
  refine wT 11 hHeld ?_
  try go_frame
  refine wT 12 hHeld ?_
  try go_frame
  refine wT 16 hHeld ?_
  try go_frame
  refine wT 17 hHeld ?_
  try go_frame
  refine wT 18 hHeld ?_
  try go_frame
  refine wT 19 hHeld ?_
  try go_frame
  refine wO 0 (fun K hK => ?_)
  go_simp
  obtain ⟨sy1, hsy1⟩ : ∃ s, s = W0.heap.size := ⟨_, rfl⟩
  obtain ⟨y1, hW⟩ : ∃ N, N = W0.alloc (.cells #[] 3) := ⟨_, rfl⟩
  rw [← hsy1, ← hW]
  have kk : Keep W0 y1 := by rw [hW]; exact Keep.al _ _
  have hzy1 : W0.heap.size + 1 ≤ y1.heap.size := by rw [hW]; exact Nat.le_of_eq (World.size_alloc _ _).symm
  have hisy1 : W0.heap.size ≤ sy1 := by omega
  have E0 : Hid (Rd y1 (fun k => w.heap.size < k ∧ k ≠ s3) (encInts []) (.slice (some ⟨sy1, 0, none⟩) 0 0)) := .nil 1 _ _
  replace pc := Lib.hid (pc.out.trans (Keep.to kk))
  replace RR := Lib.hid (RR.out.keep kk)
  replace DD := Lib.hid (DD.out.k kk)
  replace BR := Lib.hid (BR.out.k kk)
  replace BP := Lib.hid (BP.out.k kk)
  clear kk hW hsy1
  refine hK.out _ _ (pc.out.mono (fun k _ h => .inl h)) (fun hHeld => ?_)
  clear hK K
  try go_frame
  refine wO 1 (fun K hK => ?_)
  go_simp
  go_at_call 177
  refine (specSig _ _ _ _ _).mono ?_
  rintro e y2 ⟨rfl, xi⟩
  replace pc := Lib.hid (pc.out.trans (Keep.to xi))
  replace RR := Lib.hid (RR.out.keep xi)
  replace DD := Lib.hid (DD.out.k xi)
  replace BR := Lib.hid (BR.out.k xi)
  replace BP := Lib.hid (BP.out.k xi)
  replace E0 := Lib.hid (E0.out.k xi)
  clear xi
  refine hK.out _ _ (pc.out.mono (fun k _ h => .inl h)) (fun hHeld => ?_)
  clear hK K
  try go_frame
  refine wO 6 (fun K hK => ?_)
  go_simp
  go_at_call 158
  refine (pickX B g _ 6 y2 RR.out (by have := HPP.out; omega) (by omega)).mono ?_
  rintro e y3 ⟨v1, rfl, hv, _, r6, xi⟩
  replace pc := Lib.hid (pc.out.trans xi)
  replace DD := Lib.hid (DD.out.ext xi (fun k hk => by omega))
  replace BR := Lib.hid (BR.out.ext xi (by omega))
  replace BP := Lib.hid (BP.out.ext xi (by omega))
  replace E0 := Lib.hid (E0.out.ext xi (fun k hk => by omega))
  replace RR := Lib.hid r6
  obtain ⟨hv0, hv1⟩ := hv (by omega)
  obtain ⟨k1, rfl⟩ := Int.eq_ofNat_of_zero_le hv0
  have hk1 : k1 < 6 := by omega
  clear hv r6 xi hv0
  obtain ⟨ap1, np1, cp1, ab1, nb1, cb1, z10, z11, z12, z13, z14, rp1, rk1, hd1⟩ := tab_at tab1Z.out hk1
  have Z1 := Lib.hid (And.intro z10 (And.intro z11 (And.intro z12 (And.intro z13 z14))))
  have RP1 := Lib.hid (rp1.lt.ext pc.out (fun k hk => by omega))
  have RK1 := Lib.hid (rk1.lt.ext pc.out (fun k hk => by omega))
  replace RP1 := Lib.hid (RP1.out.mono (D' := (fun k => w.heap.size < k ∧ k ≠ s3)) (fun k hk => hk.1))
  replace RK1 := Lib.hid (RK1.out.mono (D' := (fun k => w.heap.size < k ∧ k ≠ s3)) (fun k hk => hk.1))
  clear z10 z11 z12 z13 z14 rp1 rk1 hd1
  have hj1 : (0 : Int) ≤ (k1 : Int) := by omega
  have hl1 : (k1 : Int) < 6 := by omega
  refine hK.out _ _ (pc.out.mono (fun k _ h => .inl h)) (fun hHeld => ?_)
  clear hK K
  try go_frame
  refine wT 7 hHeld ?_
  try go_frame
  refine wpAnyH_takeL (i := 8) (v := .agg #[.slice ap1 np1 cp1, .int .i64 (fAt tab1 k1).result, .int .i64 (fAt tab1 k1).body.op, .int .i64 (fAt tab1 k1).body.num, .slice ab1 nb1 cb1]) rfl (by kernel_rfl) (by kernel_rfl) (by kernel_rfl) (fun _ _ _ h => h) (by rfl) hHeld ?_ ?_
  · intro ws hSw
    have hn : ¬ (tab1s = g ∨ tab1s = s3) := by omega
    obtain ⟨c0, c1, c2, c3, c4⟩ := Z1.out
    replace c0 := Ext.cl hSw c0 hn
    replace c1 := Ext.cl hSw c1 hn
    replace c2 := Ext.cl hSw c2 hn
    replace c3 := Ext.cl hSw c3 hn
    replace c4 := Ext.cl hSw c4 hn
    clear hn
    go_simp
  try go_frame
  refine wO 13 (fun K hK => ?_)
  go_simp
  go_at_call 158
  refine (pickX B g _ 6 y3 RR.out (by have := HPP.out; omega) (by omega)).mono ?_
  rintro e y4 ⟨v2, rfl, hv, _, r6, xi⟩
  replace pc := Lib.hid (pc.out.trans xi)
  replace DD := Lib.hid (DD.out.ext xi (fun k hk => by omega))
  replace BR := Lib.hid (BR.out.ext xi (by omega))
  replace BP := Lib.hid (BP.out.ext xi (by omega))
  replace E0 := Lib.hid (E0.out.ext xi (fun k hk => by omega))
  replace RP1 := Lib.hid (RP1.out.ext xi (fun k hk => by omega))
  replace RK1 := Lib.hid (RK1.out.ext xi (fun k hk => by omega))
  replace RR := Lib.hid r6
  obtain ⟨hv0, hv1⟩ := hv (by omega)
  obtain ⟨k2, rfl⟩ := Int.eq_ofNat_of_zero_le hv0
  have hk2 : k2 < 6 := by omega
  clear hv r6 xi hv0
  obtain ⟨ap2, np2, cp2, ab2, nb2, cb2, z20, z21, z22, z23, z24, rp2, rk2, hd2⟩ := tab_at tab2Z.out hk2
  have Z2 := Lib.hid (And.intro z20 (And.intro z21 (And.intro z22 (And.intro z23 z24))))
  have RP2 := Lib.hid (rp2.lt.ext pc.out (fun k hk => by omega))
  have RK2 := Lib.hid (rk2.lt.ext pc.out (fun k hk => by omega))
  replace RP2 := Lib.hid (RP2.out.mono (D' := (fun k => w.heap.size < k ∧ k ≠ s3)) (fun k hk => hk.1))
  replace RK2 := Lib.hid (RK2.out.mono (D' := (fun k => w.heap.size < k ∧ k ≠ s3)) (fun k hk => hk.1))
  clear z20 z21 z22 z23 z24 rp2 rk2 hd2
  have hj2 : (0 : Int) ≤ (k2 : Int) := by omega
  have hl2 : (k2 : Int) < 6 := by omega
  refine hK.out _ _ (pc.out.mono (fun k _ h => .inl h)) (fun hHeld => ?_)
  clear hK K
  try go_frame
  refine wT 14 hHeld ?_
  try go_frame
  refine wpAnyH_takeL (i := 15) (v := .agg #[.slice ap2 np2 cp2, .int .i64 (fAt tab2 k2).result, .int .i64 (fAt tab2 k2).body.op, .int .i64 (fAt tab2 k2).body.num, .slice ab2 nb2 cb2]) rfl (by kernel_rfl) (by kernel_rfl) (by kernel_rfl) (fun _ _ _ h => h) (by rfl) hHeld ?_ ?_
  · intro ws hSw
    have hn : ¬ (tab2s = g ∨ tab2s = s3) := by omega
    obtain ⟨c0, c1, c2, c3, c4⟩ := Z2.out
    replace c0 := Ext.cl hSw c0 hn
    replace c1 := Ext.cl hSw c1 hn
    replace c2 := Ext.cl hSw c2 hn
    replace c3 := Ext.cl hSw c3 hn
    replace c4 := Ext.cl hSw c4 hn
    clear hn
    go_simp
  try go_frame
  refine wO 20 (fun K hK => ?_)
  go_simp
  go_at_call 158
  refine (pickX B g _ 4 y4 RR.out (by have := HPP.out; omega) (by omega)).mono ?_
  rintro e y5 ⟨v3, rfl, hv, _, r6, xi⟩
  replace pc := Lib.hid (pc.out.trans xi)
  replace DD := Lib.hid (DD.out.ext xi (fun k hk => by omega))
  replace BR := Lib.hid (BR.out.ext xi (by omega))
  replace BP := Lib.hid (BP.out.ext xi (by omega))
  replace E0 := Lib.hid (E0.out.ext xi (fun k hk => by omega))
  replace RP1 := Lib.hid (RP1.out.ext xi (fun k hk => by omega))
  replace RK1 := Lib.hid (RK1.out.ext xi (fun k hk => by omega))
  replace RP2 := Lib.hid (RP2.out.ext xi (fun k hk => by omega))
  replace RK2 := Lib.hid (RK2.out.ext xi (fun k hk => by omega))
  replace RR := Lib.hid r6
  obtain ⟨hv0, hv1⟩ := hv (by omega)
  obtain ⟨k3, rfl⟩ := Int.eq_ofNat_of_zero_le hv0
  have hk3 : k3 < 4 := by omega
  clear hv r6 xi hv0
  obtain ⟨ap3, np3, cp3, ab3, nb3, cb3, z30, z31, z32, z33, z34, rp3, rk3, hd3⟩ := tab_at tab3Z.out hk3
  have Z3 := Lib.hid (And.intro z30 (And.intro z31 (And.intro z32 (And.intro z33 z34))))
  have RP3 := Lib.hid (rp3.lt.ext pc.out (fun k hk => by omega))
  have RK3 := Lib.hid (rk3.lt.ext pc.out (fun k hk => by omega))
  replace RP3 := Lib.hid (RP3.out.mono (D' := (fun k => w.heap.size < k ∧ k ≠ s3)) (fun k hk => hk.1))
  replace RK3 := Lib.hid (RK3.out.mono (D' := (fun k => w.heap.size < k ∧ k ≠ s3)) (fun k hk => hk.1))
  clear z30 z31 z32 z33 z34 rp3 rk3 hd3
  have hj3 : (0 : Int) ≤ (k3 : Int) := by omega
  have hl3 : (k3 : Int) < 4 := by omega
  refine hK.out _ _ (pc.out.mono (fun k _ h => .inl h)) (fun hHeld => ?_)
  clear hK K
  try go_frame
  refine wT 21 hHeld ?_
  try go_frame
  refine wpAnyH_takeL (i := 22) (v := .agg #[.slice ap3 np3 cp3, .int .i64 (fAt tab3 k3).result, .int .i64 (fAt tab3 k3).body.op, .int .i64 (fAt tab3 k3).body.num, .slice ab3 nb3 cb3]) rfl (by kernel_rfl) (by kernel_rfl) (by kernel_rfl) (fun _ _ _ h => h) (by rfl) hHeld ?_ ?_
  · intro ws hSw
    have hn : ¬ (tab3s = g ∨ tab3s = s3) := by omega
    obtain ⟨c0, c1, c2, c3, c4⟩ := Z3.out
    replace c0 := Ext.cl hSw c0 hn
    replace c1 := Ext.cl hSw c1 hn
    replace c2 := Ext.cl hSw c2 hn
    replace c3 := Ext.cl hSw c3 hn
    replace c4 := Ext.cl hSw c4 hn
    clear hn
    go_simp
  try go_frame
  refine wO 23 (fun K hK => ?_)
  go_simp
  obtain ⟨sy6, hsy6⟩ : ∃ s, s = y5.heap.size := ⟨_, rfl⟩
  obtain ⟨y6, hW⟩ : ∃ N, N = y5.alloc (.cells #[.slice (some ⟨sy1, 0, none⟩) 0 0, .int .i64 0, .int .i64 0, .int .i64 0, .slice none 0 0, .slice ap1 np1 cp1, .int .i64 (fAt tab1 k1).result, .int .i64 (fAt tab1 k1).body.op, .int .i64 (fAt tab1 k1).body.num, .slice ab1 nb1 cb1, .slice ap2 np2 cp2, .int .i64 (fAt tab2 k2).result, .int .i64 (fAt tab2 k2).body.op, .int .i64 (fAt tab2 k2).body.num, .slice ab2 nb2 cb2, .slice ap3 np3 cp3, .int .i64 (fAt tab3 k3).result, .int .i64 (fAt tab3 k3).body.op, .int .i64 (fAt tab3 k3).body.num, .slice ab3 nb3 cb3] 60) := ⟨_, rfl⟩
  rw [← hsy6, ← hW]
  have kk : Keep y5 y6 := by rw [hW]; exact Keep.al _ _
  have hzy6 : y5.heap.size + 1 ≤ y6.heap.size := by rw [hW]; exact Nat.le_of_eq (World.size_alloc _ _).symm
  have hisy6 : y5.heap.size ≤ sy6 := by omega
  have A0 : Hid (AccR y6 sy6 (fun k => w.heap.size < k ∧ k ≠ s3) 60 5 (.slice (some ⟨sy6, 0, none⟩) 4 4) ([sgF [] 0, fAt tab1 k1, fAt tab2 k2, fAt tab3 k3].map rowF)) := by
    rw [hW, hsy6]
    exact lit_funcs y5 (fun k => w.heap.size < k ∧ k ≠ s3) 60 [sgF [] 0, fAt tab1 k1, fAt tab2 k2, fAt tab3 k3] [.slice (some ⟨sy1, 0, none⟩) 0 0, .int .i64 0, .int .i64 0, .int .i64 0, .slice none 0 0, .slice ap1 np1 cp1, .int .i64 (fAt tab1 k1).result, .int .i64 (fAt tab1 k1).body.op, .int .i64 (fAt tab1 k1).body.num, .slice ab1 nb1 cb1, .slice ap2 np2 cp2, .int .i64 (fAt tab2 k2).result, .int .i64 (fAt tab2 k2).body.op, .int .i64 (fAt tab2 k2).body.num, .slice ab2 nb2 cb2, .slice ap3 np3 cp3, .int .i64 (fAt tab3 k3).result, .int .i64 (fAt tab3 k3).body.op, .int .i64 (fAt tab3 k3).body.num, .slice ab3 nb3 cb3] 4 ⟨_, _, _, rfl, E0.out, .nil 3 _ _, _, _, _, rfl, RP1.out, RK1.out, _, _, _, rfl, RP2.out, RK2.out, _, _, _, rfl, RP3.out, RK3.out, rfl⟩ rfl (by omega)
  have DD2 : Hid (Rd y6 (fun k => w.heap.size < k ∧ k ≠ s3 ∧ k ≠ sy6) (encDecls (goodD kd)) (.slice (some ⟨bd, 0, none⟩) nd cd)) := (DD.out.lt.k kk).mono (fun k hk => by omega)
  have hbs3 : s3 < sy6 := (by have := pc.out.size; omega)
  replace pc := Lib.hid (pc.out.trans (Keep.to kk))
  replace RR := Lib.hid (RR.out.keep kk)
  replace DD := Lib.hid (DD.out.k kk)
  replace BR := Lib.hid (BR.out.k kk)
  replace BP := Lib.hid (BP.out.k kk)
  replace E0 := Lib.hid (E0.out.k kk)
  replace RP1 := Lib.hid (RP1.out.k kk)
  replace RK1 := Lib.hid (RK1.out.k kk)
  replace RP2 := Lib.hid (RP2.out.k kk)
  replace RK2 := Lib.hid (RK2.out.k kk)
  replace RP3 := Lib.hid (RP3.out.k kk)
  replace RK3 := Lib.hid (RK3.out.k kk)
  clear kk hW hsy6
  refine hK.out _ _ (pc.out.mono (fun k _ h => .inl h)) (fun hHeld => ?_)
  clear hK K
  try go_frame
  refine wT 24 hHeld ?_
  try go_frame
  refine wO 25 (fun K hK => ?_)
  have c1 := BP.out.x1
  have g1 := BP.out.f1
  go_simp
  refine hK.out _ _ ((pc.out.mono (fun k _ h => .inl h)).setCell (p := ⟨s3, 1, none⟩) (.inr (.inr rfl)) _) (fun hHeld => ?_)
  clear hK K
  try go_frame
  refine wpAnyH_done (by kernel_rfl) ?_ _
  have Y := ext1 y6 s3 1 (.slice (some ⟨sy6, 0, none⟩) 4 4)
  have hsz := pc.out.size
  have hgb := RR.out.gB
  have X6 := Lib.hid ((X.out.trans pc.out).then_ Y (fun k hk h => by omega))
  have R6 := Lib.hid (RR.out.ext Y (fun k hk h => by omega))
  have A6 := Lib.hid (A0.out.extO Y (fun k hk h => hk.2 h) (fun k hk h => by have := Option.some.inj hk; change sy6 = k at this; omega))
  have D6 := Lib.hid (DD2.out.ext Y (fun k hk h => hk.2.1 h))
  have BP6 := Lib.hid (BP.out.set1 (u := (.slice (some ⟨sy6, 0, none⟩) 4 4)))
  have BR6 := Lib.hid (BR.out.e Y (by omega))
  have hF1 := tab1_body k1 hk1
  have hF2 := tab2_body k2 hk2
  have hF3 := tab3_body k3 hk3
  have HF : Hid (∀ i, i < 4 → ((fAt [sgF [] 0, fAt tab1 k1, fAt tab2 k2, fAt tab3 k3] i).params, (fAt [sgF [] 0, fAt tab1 k1, fAt tab2 k2, fAt tab3 k3] i).result) ∈ allSigs ∧ allE (gfit 1000) (fAt [sgF [] 0, fAt tab1 k1, fAt tab2 k2, fAt tab3 k3] i).body ∧ nE (fAt [sgF [] 0, fAt tab1 k1, fAt tab2 k2, fAt tab3 k3] i).body ≤ 30) := by
    intro i hi
    rcases (show i = 0 ∨ i = 1 ∨ i = 2 ∨ i = 3 by omega) with rfl | rfl | rfl | rfl
    · exact ⟨show (([] : List Int), (0 : Int)) ∈ allSigs by decide, ⟨⟨by omega, by omega⟩, trivial⟩, show nE (ExprL.mk 0 0 []) ≤ 30 by decide⟩
    · refine ⟨tab1_ok k1 hk1, ?_⟩
      show allE _ (fAt tab1 k1).body ∧ nE (fAt tab1 k1).body ≤ 30
      rw [hF1]
      exact ⟨⟨⟨by omega, by omega⟩, trivial⟩, by decide⟩
    · refine ⟨tab2_ok k2 hk2, ?_⟩
      show allE _ (fAt tab2 k2).body ∧ nE (fAt tab2 k2).body ≤ 30
      rw [hF2]
      exact ⟨⟨⟨by omega, by omega⟩, trivial⟩, by decide⟩
    · refine ⟨tab3_ok k3 hk3, ?_⟩
      show allE _ (fAt tab3 k3).body ∧ nE (fAt tab3 k3).body ≤ 30
      rw [hF3]
      exact ⟨⟨⟨by omega, by omega⟩, trivial⟩, by decide⟩
  generalize [sgF [] 0, fAt tab1 k1, fAt tab2 k2, fAt tab3 k3] = fs0 at HF A6 
  clear hF1 hF2 hF3 A0 DD2 BP BR X RR pc hHeld DD E0 RP1 RP2 RP3 RK1 RK2 RK3 Z1 Z2 Z3 tab1Z tab2Z tab3Z tab1T tab2T tab3T
  go_upto_region 6 with fail
  generalize hW : y6.setCell ⟨s3, 1, none⟩ (.slice (some ⟨sy6, 0, none⟩) 4 4) = w5 at *
  clear hW Y
  obtain ⟨sF, hsF⟩ : ∃ s, s = sy6 := ⟨_, rfl⟩
  rw [← hsF] at A6 D6 BP6
  have h3F : s3 < sF := by omega
  clear hsF
  have RRo := Lib.hid (R6.out)
  go_wp2_with fail
  refine (oneL B g _ [4, 4, 3, 2, 4] 5 5 3 _ w5 R6.out (by have := HPP.out; omega) rfl rfl (by omega) (by omega)).mono ?_
  rintro e w6 ⟨v, hm, rfl, r6, x6⟩
  simp only [List.mem_cons, List.not_mem_nil, or_false] at hm
  obtain ⟨m, rfl⟩ := Int.eq_ofNat_of_zero_le (show 0 ≤ v by omega)
  have hm2 : 2 ≤ m ∧ m ≤ 4 := by omega
  have hm3 : (m : Int) ≤ 4 := by omega
  have hm0 : (0 : Int) ≤ (m : Int) := by omega
  have hwr : IntKind.i64.wrap ((m : Int) - 1) = (m : Int) - 1 := IntWalk.i64_in _ (by omega)
  have Y := ext1 w6 s3 1 (.slice (some ⟨sF, 0, none⟩) m 4)
  have hlA : (fs0.map rowF).length = 4 := by obtain ⟨_, _, e, _, _, _⟩ := A6.out.read (by omega); injection e with _ e2 _; exact e2.symm
  have hl0 : fs0.length = 4 := by simpa using hlA
  have A7 : Hid (AccR (w6.setCell ⟨s3, 1, none⟩ (.slice (some ⟨sF, 0, none⟩) m 4)) sF (fun k => w.heap.size < k ∧ k ≠ s3) 60 5 (.slice (some ⟨sF, 0, none⟩) m 4) ((fs0.take m).map rowF)) := by
    have h := ((A6.out.ext x6 (fun k hk h e => by rcases h with h | h <;> omega)).take (m := m) (by rw [hlA]; omega)).extO Y (fun k hk h => hk.2 h) (fun k hk h => by have := Option.some.inj hk; change sF = k at this; omega)
    rw [← List.map_take] at h
    exact h
  have D7 := Lib.hid ((D6.out.ext x6 (fun k hk => by omega)).ext Y (fun k hk h => hk.2.1 h))
  have BP5 := Lib.hid (BP6.out.ext x6 (by omega))
  have BP7 := Lib.hid (BP5.out.set1 (u := (.slice (some ⟨sF, 0, none⟩) m 4)))
  have BR7 := Lib.hid ((BR6.out.ext x6 hgw).e Y (by omega))
  have R7 := Lib.hid (r6.ext Y (fun k hk h => by omega))
  have X7 := Lib.hid ((X6.out.trans x6).then_ Y (fun i hi h => by omega))
  have HF7 : Hid (∀ i, i < m → ((fAt (fs0.take m) i).params, (fAt (fs0.take m) i).result) ∈ allSigs ∧ allE (gfit 1000) (fAt (fs0.take m) i).body ∧ nE (fAt (fs0.take m) i).body ≤ 30) := by
    intro i hi
    have e : fAt (fs0.take m) i = fAt fs0 i := by simp [fAt, List.getD, hi]
    rw [e]; exact HF.out i (by omega)
  have HL7 : Hid ((fs0.take m).length = m) := by show _ = _; rw [List.length_take]; omega
  have y1 := BP5.out.x1
  have g1 := BP5.out.f1
  generalize fs0.take m = fs1 at A7 HF7 HL7
  clear hm r6 x6 A6 D6 BP6 BR6 R6 RRo X6 HF hlA hl0 Y BP5
  go_upto_region 8 with fail
  generalize hW : w6.setCell ⟨s3, 1, none⟩ (.slice (some ⟨sF, 0, none⟩) m 4) = w7 at *
  clear hW y1 g1
  go_wp2_with fail
  go_loopw [8] (fun iv wr => ∃ (z q : Int) (fs : List FuncL), iv = .int .i64 z ∧ -1 ≤ z ∧ z < (m : Int) ∧ Hid (AccR wr sF (fun k => w.heap.size < k ∧ k ≠ s3) 60 5 (.slice (some ⟨sF, 0, none⟩) m 4) (fs.map rowF)) ∧ Hid (fs.length = m) ∧ Hid (∀ i, i < m → ((fAt fs i).params, (fAt fs i).result) ∈ allSigs ∧ allE (gfit 1000) (fAt fs i).body ∧ nE (fAt fs i).body ≤ 30) ∧ Hid (Rd wr (fun k => w.heap.size < k ∧ k ≠ s3 ∧ k ≠ sF) (encDecls (goodD kd)) (.slice (some ⟨bd, 0, none⟩) nd cd)) ∧ Hid (Px wr s3 (.slice (some ⟨bd, 0, none⟩) nd cd) (.slice (some ⟨sF, 0, none⟩) m 4)) ∧ Hid (Px wr w.heap.size (.slice none 0 0) (.slice none 0 0)) ∧ Hid (Rdx wr B g q) ∧ Hid (q ≤ p + 10 + 70000000 * ((m : Int) - 1 - z)) ∧ Hid (Ext (· = g) w wr)) (fun i _ => (intOf i + 1).toNat)
  case atStart => exact ⟨(m : Int) - 1, _, fs1, rfl, by omega, by omega, A7, HL7, HF7, D7, BP7, BR7, R7, by show _ ≤ _; omega, X7⟩
  case round =>
    clear A7 HL7 HF7 D7 BP7 BR7 R7 X7 hwr
    obtain ⟨z, q, fs, rfl, hz1, hzm, hA, HLN, HF, hD, hBP, hBR, hR, hq, hX⟩ := hrel
    by_cases hz : 0 ≤ z
    · obtain ⟨k, rfl⟩ := Int.eq_ofNat_of_zero_le hz
      have hkm : k < m := by omega
      have hGG : GoodG (goodD kd) fs := ⟨⟨kd, hkd0, hkd5, rfl⟩, fun i hi => (HF.out i (by have := HLN.out; omega)).1, by have := HLN.out; omega⟩
      obtain ⟨_, _, e, _, _, rd⟩ := hA.out.read (by omega)
      have PGG : PG wr g (goodD kd) fs (some ⟨bd, 0, none⟩) nd cd (some ⟨sF, 0, none⟩) m 4 := ⟨hD.out.mono (fun k hk => by omega), rd.mono (fun k hk => by rcases hk with h | h <;> omega)⟩
      have y0 := hBP.out.x0
      have y1 := hBP.out.x1
      have hwk : IntKind.i64.wrap ((k : Int) - 1) = (k : Int) - 1 := IntWalk.i64_in _ (by omega)
      clear e rd
      go_wp2_with fail
      refine (specBodyOf (goodD kd) fs B g k hGG (by have := HLN.out; omega) q _ _ _ _ _ _ wr PGG hR.out (Nat.le_trans hBW hX.out.size) (by have h1 := HPP.out; have h2 := hq.out; omega)).mono ?_
      rintro e w8 ⟨x, ax, nx, cx, q8, rfl, rx, fx, sx, r8, hq8, x8⟩
      have hwr8 := hX.out.size
      have KX := Keep.al w8 (.cells #[.int .i64 x.op, .int .i64 x.num, .slice ax nx cx] 58)
      have A8 := Lib.hid ((hA.out.ext x8 (fun k hk h e => by rcases h with h | h <;> omega)).keep KX)
      have D8 := Lib.hid ((hD.out.ext x8 (fun k hk => by omega)).k KX)
      have BP8 := Lib.hid ((hBP.out.ext x8 (by omega)).k KX)
      have BR8 := Lib.hid ((hBR.out.ext x8 hgw).k KX)
      have R8 := Lib.hid (r8.keep KX)
      have X8 := Lib.hid ((hX.out.trans x8).trans (Keep.to KX))
      have hzs := hBP.out.lt
      have hzF : sF < wr.heap.size := (hA.out.bound sF rfl).2
      have hz8 := x8.size
      have RX := Lib.hid ((rx.mono (D' := fun k => (w.heap.size < k ∧ k ≠ s3) ∧ k ≠ sF) (fun k hk => by omega)).k KX)
      have EX := Lib.hid (Ev.born w8 (fun _ => False) (.mk x.op x.num []) ax 0 cx (.nil 3 _ _))
      have EX0 : (w8.alloc (.cells #[.int .i64 x.op, .int .i64 x.num, .slice ax nx cx] 58)).cell? ⟨w8.heap.size, 0, none⟩ = some (.int .i64 x.op) := boxk (Ext.refl _ _) 0
      have EX1 : (w8.alloc (.cells #[.int .i64 x.op, .int .i64 x.num, .slice ax nx cx] 58)).cell? ⟨w8.heap.size, 1, none⟩ = some (.int .i64 x.num) := boxk (Ext.refl _ _) 1
      have EX2 : (w8.alloc (.cells #[.int .i64 x.op, .int .i64 x.num, .slice ax nx cx] 58)).cell? ⟨w8.heap.size, 2, none⟩ = some (.slice ax nx cx) := boxk (Ext.refl _ _) 2
      have FX := Lib.hid fx
      have SX := Lib.hid sx
      have HQ8 := Lib.hid hq8
      have hEF : w8.heap.size ≠ sF := by omega
      clear rx fx sx r8 hq8 x8 hA hD hBP hBR hR hX KX y0 y1 EX PGG hGG
      go_upto_region 12 with fail
      generalize hW : w8.alloc (.cells #[.int .i64 x.op, .int .i64 x.num, .slice ax nx cx] 58) = wq at *
      clear hW
      generalize hS : w8.heap.size = sE at *
      clear hS
      have KD : Keep wq wq.drew := (Ext.refl (fun _ => False) wq).drew
      replace A8 := Lib.hid (A8.out.keep KD)
      replace D8 := Lib.hid (D8.out.k KD)
      replace BP8 := Lib.hid (BP8.out.k KD)
      replace BR8 := Lib.hid (BR8.out.k KD)
      replace R8 := Lib.hid (R8.out.keep KD)
      replace X8 := Lib.hid (X8.out.trans (Keep.to KD))
      replace RX := Lib.hid (RX.out.k KD)
      have e0 : wq.drew.cell? ⟨sE, 0, none⟩ = some (.int .i64 x.op) := EX0
      have e1 : wq.drew.cell? ⟨sE, 1, none⟩ = some (.int .i64 x.num) := EX1
      have e2 : wq.drew.cell? ⟨sE, 2, none⟩ = some (.slice ax nx cx) := EX2
      have x1 := BP8.out.x1
      obtain ⟨ap, np, cp, ab, nb, cb, z0, z1, z2, z3, z4, rp, -, hfz, -, -⟩ := tabO_at A8.out (k := k) (by have := HLN.out; omega)
      replace rp := Lib.hid rp
      have f0 := hfz (k * 5)
      have f1 := hfz (k * 5 + 1)
      have f2 := hfz (k * 5 + 2)
      have f3 := hfz (k * 5 + 3)
      have f4 := hfz (k * 5 + 4)
      have kk0 : (0 : Int) ≤ (k : Int) := by omega
      have kk1 : (k : Int) < (m : Int) := by omega
      clear hfz EX0 EX1 EX2 KD
      refine wp_region_held_drew (S := fun w' => w'.cell? ⟨s3, 1, none⟩ = some (.slice (some ⟨sF, 0, none⟩) m 4) ∧ w'.cell? ⟨sF, k * 5, none⟩ = some (.slice ap np cp) ∧ w'.cell? ⟨sF, k * 5 + 1, none⟩ = some (.int .i64 (fAt fs k).result) ∧ w'.cell? ⟨sE, 0, none⟩ = some (.int .i64 x.op) ∧ w'.cell? ⟨sE, 1, none⟩ = some (.int .i64 x.num) ∧ w'.cell? ⟨sE, 2, none⟩ = some (.slice ax nx cx)) (by kernel_rfl) ⟨x1, z0, z1, e0, e1, e2⟩ (fun hHeld => ?_)
      generalize wq.drew = W0 at *
      refine wT 0 hHeld ?_
      try go_frame
      refine wT 1 hHeld ?_
      try go_frame
      refine wT 2 hHeld ?_
      try go_frame
      refine wT 3 hHeld ?_
      try go_frame
      refine wT 4 hHeld ?_
      try go_frame
      refine wT 5 hHeld ?_
      try go_frame
      refine wT 6 hHeld ?_
      try go_frame
      refine wT 7 hHeld ?_
      try go_frame
      refine wT 8 hHeld ?_
      try go_frame
      refine wT 9 hHeld ?_
      try go_frame
      refine wT 10 hHeld ?_
      try go_frame
      refine wT 11 hHeld ?_
      try go_frame
      refine wT 12 hHeld ?_
      try go_frame
      refine wT 13 hHeld ?_
      try go_frame
      refine wT 14 hHeld ?_
      try go_frame
      refine wT 15 hHeld ?_
      try go_frame
      refine wT 16 hHeld ?_
      try go_frame
      refine wT 17 hHeld ?_
      try go_frame
      refine wO 18 (fun K hK => ?_)
      go_simp
      refine hK.out _ _ ⟨put5_far x1 (Nat.ne_of_lt h3F), put5_0 z0, put5_1 z1, put5_far e0 hEF, put5_far e1 hEF, put5_far e2 hEF⟩ (fun hHeld => ?_)
      clear hK K
      try go_frame
      refine wpAnyH_done (by kernel_rfl) ?_ _
      have Y := put5x W0 sF (k * 5) (.slice ap np cp) (.int .i64 (fAt fs k).result) (.int .i64 x.op) (.int .i64 x.num) (.slice ax nx cx)
      have A9 := Lib.hid (A8.out.putF (k := k) (f := ⟨(fAt fs k).params, (fAt fs k).result, x⟩) rfl (by have := HLN.out; omega) rp.out RX.out)
      have D9 := Lib.hid (D8.out.ext Y (fun k hk h => hk.2.2 h))
      have BP9 := Lib.hid (BP8.out.e Y (by omega))
      have BR9 := Lib.hid (BR8.out.e Y (by omega))
      have hgb := R8.out.gB
      have R9 := Lib.hid (R8.out.ext Y (fun k hk h => by omega))
      have X9 := Lib.hid (X8.out.then_ Y (fun i hi h => by omega))
      clear x1 z0 z1 z2 z3 z4 e0 e1 e2 f0 f1 f2 f3 f4 Y
      go_wp2_with fail
      go_roundw
      case rel => exact ⟨(k : Int) - 1, q8, fs.set k ⟨(fAt fs k).params, (fAt fs k).result, x⟩, by go_num, by omega, by omega, A9, by show _ = _; rw [List.length_set]; exact HLN.out, fun i hi => by
        have := HLN.out
        rw [fAt_set (by omega)]
        by_cases h : i = k
        · rw [if_pos h]; exact ⟨(HF.out k (by omega)).1, FX.out, SX.out⟩
        · rw [if_neg h]; exact HF.out i hi, D9, BP9, BR9, R9, by show _ ≤ _; have h1 := hq.out; have h2 := HQ8.out; omega, X9⟩
      case measure => simp [intOf] <;> omega
    · have hz3 : ¬ (0 : Int) ≤ z := hz
      have y0 := hBP.out.x0
      have y1 := hBP.out.x1
      have u0 := hBR.out.x0
      have u1 := hBR.out.x1
      have f0 := hBR.out.f0
      have f1 := hBR.out.f1
      have Y := (ext1 wr w.heap.size 0 (.slice (some ⟨bd, 0, none⟩) nd cd)).trans (ext1 _ w.heap.size 1 (.slice (some ⟨sF, 0, none⟩) m 4))
      have A9 := Lib.hid (hA.out.extO Y (fun k hk h => by omega) (fun k hk h => by have := Option.some.inj hk; change sF = k at this; omega))
      have D9 := Lib.hid (hD.out.ext Y (fun k hk h => by omega))
      have hgb := hR.out.gB
      have R9 := Lib.hid (hR.out.ext Y (fun k hk h => by omega))
      have X9 := Lib.hid (hX.out.then_ Y (fun i hi h => by omega))
      have HQ9 : Hid (q ≤ p + 300000000) := by show _ ≤ _; have := hq.out; omega
      have HGP : Hid (GoodP (goodD kd) fs) := ⟨⟨⟨kd, hkd0, hkd5, rfl⟩, fun i hi => (HF.out i (by have := HLN.out; omega)).1, by have := HLN.out; omega⟩, by have := HLN.out; omega, fun i hi => (HF.out i (by have := HLN.out; omega)).2⟩
      have HOW : Hid (OwnP w.heap.size ((wr.setCell ⟨w.heap.size, 0, none⟩ (.slice (some ⟨bd, 0, none⟩) nd cd)).setCell ⟨w.heap.size, 1, none⟩ (.slice (some ⟨sF, 0, none⟩) m 4)) (goodD kd) fs (some ⟨bd, 0, none⟩) nd cd sF m 4) := ⟨A9.out.mono (fun k hk => by omega), D9.out.mono (fun k hk => by omega), by omega⟩
      clear hA hD hR hX A9 D9
      go_wp2_with fail
      refine bodyPost_ret (v := .agg #[(.slice (some ⟨bd, 0, none⟩) nd cd), (.slice (some ⟨sF, 0, none⟩) m 4)]) (by simp [results, Tryz.results121, go_sem, u0, u1]) rfl (fin_ hQ ?_)
      exact ⟨goodD kd, fs, _, _, _, sF, m, q, rfl, HGP.out, HOW.out, R9.out, HQ9.out, X9.out⟩
end Go.Proofs.YtkapldpmjkdmcaaGreat
