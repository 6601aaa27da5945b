/- The drawn law FnValidTypesTwice: the walk. -/
import Derived.Test.YthdjijhpdgajbaaDrawDecl
import Derived.Test.YthdjijhpdgajbaaTypesPlain3
import Derived.Test.YthdjijhpdgajbaaTypes3
import Derived.Test.YthdjijhpdgajbaaTypes4
import Derived.Test.YthdjijhpdgajbaaLit
import Derived.Test.YthdjijhpdgajbaaSkip2
namespace Go.Proofs.Ythdjijhpdgajbaa
open Go.RowKit

set_option maxHeartbeats 4000000 in
theorem fnValidTypesTwice_walk (a : Option Addr) (len cap : Nat) (z : Nat → Int) (w : World) (h : Byt w a len z) (hlc : len ≤ cap) :
    Calls Try.prog 3 #[.slice a len cap] w fun e w' => e = .returned (.bool true) ∧ Keep w w' := by
  refine calls_k fun Q hQ => ?_
  by_cases hl : len ≤ 1048576
  · go_enter Try.func3, Try.ntmps3
    go_wp2_with fail
    refine (DrawValidTypes_any a len cap z w h hlc hl).mono ?_
    rintro e w1 ⟨v, rfl, a2, n, c, ds, rfl, hnc, hn6, hR, k1⟩
    have hD := hR.toDecls
    have HL := Lib.hid hD.1
    have hn : n ≤ 1048576 := by omega
    clear h
    cases hv : typesOk ds
    · have V := Lib.hid hv
      clear hv
      go_wp2_with fail
      refine (implValidTypes _ _ _ _ _ _ hD hnc).mono ?_
      rw [V.out]
      rintro e w2 ⟨rfl, q0⟩
      have h0 := hD.ext q0 (fun _ _ h => h)
      have p0 := k1.trans q0
      go_wp2_with fail
      refine (specValidTypes _ _ _ _ _ _ h0 (by omega)).mono ?_
      rw [V.out]
      rintro e w3 ⟨rfl, q1⟩
      have h1 := h0.ext q1 (fun _ _ h => h)
      have p1 := p0.trans q1
      go_wp2_with fail
      refine (specValidTypes _ _ _ _ _ _ h1 (by omega)).mono ?_
      rw [V.out]
      rintro e w4 ⟨rfl, q2⟩
      have h2 := h1.ext q2 (fun _ _ h => h)
      have p2 := p1.trans q2
      go_wp2_with fail
      exact fin_ hQ ⟨rfl, p2⟩
    have V := Lib.hid hv
    have hf := Few.of_ok hv
    clear hv
    have hn4 : n ≤ 4 := by have := hf.1; have := HL.out; omega
    go_wp2_with fail
    refine (implValidTypes _ _ _ _ _ _ hD hnc).mono ?_
    rw [V.out]
    rintro e w2 ⟨rfl, q0⟩
    have h0 := hD.ext q0 (fun _ _ h => h)
    have p0 := k1.trans q0
    go_wp2_with fail
    refine (specValidTypes _ _ _ _ _ _ h0 (by omega)).mono ?_
    rw [V.out]
    rintro e w3 ⟨rfl, q1⟩
    have h1 := h0.ext q1 (fun _ _ h => h)
    have p1 := p0.trans q1
    go_wp2_with fail
    have HR1 := Lib.hid hR
    clear h1
    go_loopw [5] (fun tv wr => ∃ k : Nat, k ≤ n ∧ tv = .int .i64 k ∧ Keep w1 wr) (fun i _ => n - (intOf i).toNat)
    case atStart => exact ⟨0, Nat.zero_le _, rfl, q0.trans q1⟩
    case round =>
      obtain ⟨wo, rfl⟩ : ∃ wo : World, wo = wr := ⟨_, rfl⟩
      obtain ⟨k, hk, rfl, hK⟩ := hrel
      obtain ⟨hlD, _, _, hat⟩ := decls_at (HR1.out.k hK)
      by_cases hlt : k < n
      case neg =>
        go_wp2_with fail
        exact fin_ hQ ⟨rfl, k1.trans hK⟩
      obtain ⟨b, o, rfl, hd, a', m, c', d0, d1, d2, hC⟩ := hat k hlt
      have M := Lib.hid (cons_at hC).1
      have HKL : Hid (k < ds.length) := by have := HL.out; show _ < _; omega
      clear hat hlD
      by_cases hm : m = 0
      case neg =>
        have t : ((m : Int) == 0) = false := by simp [hm]
        go_wp2_with fail
        go_quiet (fail)
        go_wp2_with fail
        go_roundw
        case rel => exact ⟨k + 1, by omega, by go_num, hK.drewN nq⟩
        case measure => simp [intOf]; omega
      subst hm
      have VF : Hid (typesOk (ds ++ [dAt ds k]) = false) := valid_twice HKL.out M.out
      have RD := ((HR1.out.k hK).k (w' := wo.drew) (Ext.refl (fun _ => False) wo).drew).lt
      have RC := (hC.k (w' := wo.drew) (Ext.refl (fun _ => False) wo).drew).lt
      have e0 : wo.drew.cell? ⟨b, o + k * 3, none⟩ = some (.int .i64 (dAt ds k).from_) := d0
      have e1 : wo.drew.cell? ⟨b, o + k * 3 + 1, none⟩ = some (.int .i64 (dAt ds k).to_) := d1
      have e2 : wo.drew.cell? ⟨b, o + k * 3 + 2, none⟩ = some (.slice a' 0 c') := d2
      have K0w := Lib.hid (show Keep wo wo.drew from (Ext.refl (fun _ => False) wo).drew)
      have pc : Keep wo.drew wo.drew := Ext.refl _ _
      clear hC hD hR d0 d1 d2
      go_wp2_with fail
      refine wp_region_held_drew (S := fun w' => w'.cell? ⟨b, o + k * 3, none⟩ = some (.int .i64 (dAt ds k).from_) ∧ w'.cell? ⟨b, o + k * 3 + 1, none⟩ = some (.int .i64 (dAt ds k).to_) ∧ w'.cell? ⟨b, o + k * 3 + 2, none⟩ = some (.slice a' 0 c')) (by kernel_rfl) ⟨(pc.cell (World.block_lt_of_cell? _ _ e0) (fun h => h)).trans e0, (pc.cell (World.block_lt_of_cell? _ _ e1) (fun h => h)).trans e1, (pc.cell (World.block_lt_of_cell? _ _ e2) (fun h => h)).trans e2⟩ (fun hHeld => ?_)
      generalize wo.drew = W0 at *
      refine wpAnyH_takeL (i := 0) (v := ?_) rfl (by kernel_rfl) (by kernel_rfl) (by kernel_rfl) (fun _ _ _ h => h) (by rfl) hHeld ?_ ?_
      rotate_left
      · (intro w hSw; (try dsimp only at hSw); go_simp; (try with_reducible rfl))
      try simp only [Act.put, List.setIfInBounds_toArray, List.set_cons_zero, List.set_cons_succ]
      refine wpAnyH_takeL (i := 1) (v := ?_) rfl (by kernel_rfl) (by kernel_rfl) (by kernel_rfl) (fun _ _ _ h => h) (by rfl) hHeld ?_ ?_
      rotate_left
      · (intro w hSw; (try dsimp only at hSw); go_simp; (try with_reducible rfl))
      try simp only [Act.put, List.setIfInBounds_toArray, List.set_cons_zero, List.set_cons_succ]
      refine wpAnyH_takeL (i := 2) (v := ?_) rfl (by kernel_rfl) (by kernel_rfl) (by kernel_rfl) (fun _ _ _ h => h) (by rfl) hHeld ?_ ?_
      rotate_left
      · (intro w hSw; (try dsimp only at hSw); go_simp; (try with_reducible rfl))
      try simp only [Act.put, List.setIfInBounds_toArray, List.set_cons_zero, List.set_cons_succ]
      refine wpAnyH_takeL (i := 3) (v := ?_) rfl (by kernel_rfl) (by kernel_rfl) (by kernel_rfl) (fun _ _ _ h => h) (by rfl) hHeld ?_ ?_
      rotate_left
      · (intro w hSw; (try dsimp only at hSw); go_simp; (try with_reducible rfl))
      try simp only [Act.put, List.setIfInBounds_toArray, List.set_cons_zero, List.set_cons_succ]
      refine wpAnyH_takeL (i := 4) (v := ?_) rfl (by kernel_rfl) (by kernel_rfl) (by kernel_rfl) (fun _ _ _ h => h) (by rfl) hHeld ?_ ?_
      rotate_left
      · (intro w hSw; (try dsimp only at hSw); go_simp; (try with_reducible rfl))
      try simp only [Act.put, List.setIfInBounds_toArray, List.set_cons_zero, List.set_cons_succ]
      refine wpAnyH_takeL (i := 5) (v := ?_) rfl (by kernel_rfl) (by kernel_rfl) (by kernel_rfl) (fun _ _ _ h => h) (by rfl) hHeld ?_ ?_
      rotate_left
      · (intro w hSw; (try dsimp only at hSw); go_simp; (try with_reducible rfl))
      try simp only [Act.put, List.setIfInBounds_toArray, List.set_cons_zero, List.set_cons_succ]
      refine wpAnyH_takeL (i := 6) (v := ?_) rfl (by kernel_rfl) (by kernel_rfl) (by kernel_rfl) (fun _ _ _ h => h) (by rfl) hHeld ?_ ?_
      rotate_left
      · (intro w hSw; (try dsimp only at hSw); go_simp; (try with_reducible rfl))
      try simp only [Act.put, List.setIfInBounds_toArray, List.set_cons_zero, List.set_cons_succ]
      refine wpAnyH_takeL (i := 7) (v := ?_) rfl (by kernel_rfl) (by kernel_rfl) (by kernel_rfl) (fun _ _ _ h => h) (by rfl) hHeld ?_ ?_
      rotate_left
      · (intro w hSw; (try dsimp only at hSw); go_simp; (try with_reducible rfl))
      try simp only [Act.put, List.setIfInBounds_toArray, List.set_cons_zero, List.set_cons_succ]
      refine wpAnyH_takeL (i := 9) (v := ?_) rfl (by kernel_rfl) (by kernel_rfl) (by kernel_rfl) (fun _ _ _ h => h) (by rfl) hHeld ?_ ?_
      rotate_left
      · (intro w hSw; (try dsimp only at hSw); go_simp; (try with_reducible rfl))
      try simp only [Act.put, List.setIfInBounds_toArray, List.set_cons_zero, List.set_cons_succ]
      refine wpAnyH_takeL (i := 11) (v := ?_) rfl (by kernel_rfl) (by kernel_rfl) (by kernel_rfl) (fun _ _ _ h => h) (by rfl) hHeld ?_ ?_
      rotate_left
      · (intro w hSw; (try dsimp only at hSw); go_simp; (try with_reducible rfl))
      try simp only [Act.put, List.setIfInBounds_toArray, List.set_cons_zero, List.set_cons_succ]
      refine wpAnyH_takeL (i := 12) (v := ?_) rfl (by kernel_rfl) (by kernel_rfl) (by kernel_rfl) (fun _ _ _ h => h) (by rfl) hHeld ?_ ?_
      rotate_left
      · (intro w hSw; (try dsimp only at hSw); go_simp; (try with_reducible rfl))
      try simp only [Act.put, List.setIfInBounds_toArray, List.set_cons_zero, List.set_cons_succ]
      refine wpAnyH_takeL (i := 13) (v := ?_) rfl (by kernel_rfl) (by kernel_rfl) (by kernel_rfl) (fun _ _ _ h => h) (by rfl) hHeld ?_ ?_
      rotate_left
      · (intro w hSw; (try dsimp only at hSw); go_simp; (try with_reducible rfl))
      try simp only [Act.put, List.setIfInBounds_toArray, List.set_cons_zero, List.set_cons_succ]
      refine wpAnyH_takeL (i := 14) (v := ?_) rfl (by kernel_rfl) (by kernel_rfl) (by kernel_rfl) (fun _ _ _ h => h) (by rfl) hHeld ?_ ?_
      rotate_left
      · (intro w hSw; (try dsimp only at hSw); go_simp; (try with_reducible rfl))
      try simp only [Act.put, List.setIfInBounds_toArray, List.set_cons_zero, List.set_cons_succ]
      refine wpAnyH_ready (rs := [8, 15]) (by kernel_rfl) (by simp) ?_
      refine allReadyH_consL rfl (by rfl) (fun K hK => ?_) (allReadyH_consL rfl (by rfl) (fun K hK => ?_) AllReadyH.nil)
      · go_simp
        have A := AccR.made W0 (fun _ => True) 28 3
        try simp only [World.size_alloc] at A
        have kk := Keep.al W0 (.cells #[] 28)
        replace pc := Ext.trans pc kk
        refine hK.out _ _ ⟨(pc.cell (World.block_lt_of_cell? _ _ e0) (fun h => h)).trans e0, (pc.cell (World.block_lt_of_cell? _ _ e1) (fun h => h)).trans e1, (pc.cell (World.block_lt_of_cell? _ _ e2) (fun h => h)).trans e2⟩ (fun hHeld => ?_)
        clear hK K
        try simp only [Act.put, List.setIfInBounds_toArray, List.set_cons_zero, List.set_cons_succ]
        refine wpAnyH_ready (rs := [10, 15]) (by kernel_rfl) (by simp) ?_
        refine allReadyH_consL rfl (by rfl) (fun K hK => ?_) (allReadyH_consL rfl (by rfl) (fun K hK => ?_) AllReadyH.nil)
        · have RS := RD.k pc
          have bnd := A.bound
          have zpc := pc.size
          refine wp_appR _ (.tmp 39) (.tmp 40) 23 rfl (W0.heap.size) 28 (.agg #[.int .i64 0, .int .i64 0, .slice none 0 0]) 3 40 Try.underlying23 (by kernel_rfl) rfl (by omega) (fun _ => True) _ _ rfl A _ n _ _ _ rfl RS (fun q hq hq2 => ⟨trivial, fun hh => by have h1 := (bnd q hh).1; have h2 := hq2.2; omega⟩) (by simp; omega) (by simp; omega) (by first | omega | (simp; done) | (simp; omega) | (have z9 := x1.size; simp at z9; omega)) ?_
          rintro v1 w10 A1 x1 hv1
          have x1' := x1
          replace pc := pc.then_ x1 (fun q hq h => by have h1 := (bnd q h).1; omega)
          have z1 := x1.size
          refine hK.out _ _ ⟨(pc.cell (World.block_lt_of_cell? _ _ e0) (fun h => h)).trans e0, (pc.cell (World.block_lt_of_cell? _ _ e1) (fun h => h)).trans e1, (pc.cell (World.block_lt_of_cell? _ _ e2) (fun h => h)).trans e2⟩ (fun hHeld => ?_)
          clear hK K
          try simp only [Act.put, List.setIfInBounds_toArray, List.set_cons_zero, List.set_cons_succ]
          replace A1 := A1.keep (Ext.refl _ _)
          refine wpAnyH_oneL (i := 15) rfl (by kernel_rfl) (by rfl) (fun K hK => ?_)
          go_simp
          have X := lit_declsD w10 (fun q => q < W0.heap.size ∨ q = w10.heap.size) 28 [dAt ds k] [.int .i64 (dAt ds k).from_, .int .i64 (dAt ds k).to_, .slice a' 0 c'] 1 (.inr rfl) ⟨_, _, rfl, (RC.k pc).mono (fun q hq => .inl (by have := hq.2; omega)), rfl⟩ rfl (by omega)
          try simp only [World.size_alloc] at X
          have kk := Keep.al w10 (.cells #[.int .i64 (dAt ds k).from_, .int .i64 (dAt ds k).to_, .slice a' 0 c'] 28)
          replace pc := Ext.trans pc kk
          have hneL : v1.ownBlock ≠ some w10.heap.size := fun hh => by have h1 := (A1.bound _ hh).2; omega
          replace A1 := A1.keep kk
          refine hK.out _ _ ⟨(pc.cell (World.block_lt_of_cell? _ _ e0) (fun h => h)).trans e0, (pc.cell (World.block_lt_of_cell? _ _ e1) (fun h => h)).trans e1, (pc.cell (World.block_lt_of_cell? _ _ e2) (fun h => h)).trans e2⟩ (fun hHeld => ?_)
          clear hK K
          try simp only [Act.put, List.setIfInBounds_toArray, List.set_cons_zero, List.set_cons_succ]
          refine wpAnyH_oneL (i := 16) rfl (by kernel_rfl) (by rfl) (fun K hK => ?_)
          have bnd1 := A1.bound
          have hln : (([] : List (List Dat)) ++ ds.map rowD).length = n := by have := HL.out; simp; omega
          have hD2 : ∀ q, (q < W0.heap.size ∨ q = w10.heap.size) → v1.ownBlock ≠ some q := fun q hq2 hh => by
            rcases hq2 with h2 | h2
            · have h1 := (bnd1 q hh).1
              omega
            · exact hneL (by rw [hh, h2])
          refine wp_appR _ (.tmp 41) (.tmp 46) 23 rfl (W0.heap.size) 28 (.agg #[.int .i64 0, .int .i64 0, .slice none 0 0]) 3 40 Try.underlying23 (by kernel_rfl) rfl (by omega) (fun _ => True) _ _ rfl A1 _ 1 _ _ _ rfl X (fun q _ hq2 => And.intro trivial (hD2 q hq2)) (by rw [hln]; omega) (by rw [hln]; omega) (by first | omega | (simp; done) | (simp; omega) | (have z9 := x1.size; simp at z9; omega)) ?_
          rintro v2 w16 A2 x2 hv2
          replace pc := pc.then_ x2 (fun q hq h => by have h1 := (bnd1 q h).1; omega)
          obtain ⟨a9, c9, rfl, hc9, _, hr9⟩ := A2.read (by omega)
          rw [show (([] : List (List Dat)) ++ ds.map rowD ++ [dAt ds k].map rowD) = (ds ++ [dAt ds k]).map rowD from by simp] at hr9
          have HR9 : Hid (Rd w16 (fun _ => True) (encDecls (ds ++ [dAt ds k])) _) := hr9.mono (fun _ _ => trivial)
          have hl9 : (([] : List (List Dat)) ++ ds.map rowD ++ [dAt ds k].map rowD).length = n + 1 := by have := HL.out; simp; omega
          have hl8 : ((ds ++ [dAt ds k]).map rowD).length = n + 1 := by have := HL.out; simp; omega
          rw [hl9] at hc9
          rw [hl8] at HR9
          refine hK.out _ _ ⟨(pc.cell (World.block_lt_of_cell? _ _ e0) (fun h => h)).trans e0, (pc.cell (World.block_lt_of_cell? _ _ e1) (fun h => h)).trans e1, (pc.cell (World.block_lt_of_cell? _ _ e2) (fun h => h)).trans e2⟩ (fun hHeld => ?_)
          clear hK K
          try simp only [Act.put, List.setIfInBounds_toArray, List.set_cons_zero, List.set_cons_succ]
          refine wpAnyH_oneL (i := 17) rfl (by kernel_rfl) (by rfl) (fun K hK => ?_)
          rw [hl9]
          go_simp
          go_at_call 8
          refine (implValidTypes _ _ _ _ _ _ HR9.out.toDecls hc9).mono ?_
          rw [VF.out]
          rintro e w17 ⟨rfl, p17⟩
          replace pc := Ext.trans pc p17
          refine hK.out _ _ ⟨(pc.cell (World.block_lt_of_cell? _ _ e0) (fun h => h)).trans e0, (pc.cell (World.block_lt_of_cell? _ _ e1) (fun h => h)).trans e1, (pc.cell (World.block_lt_of_cell? _ _ e2) (fun h => h)).trans e2⟩ (fun hHeld => ?_)
          clear hK K
          try simp only [Act.put, List.setIfInBounds_toArray, List.set_cons_zero, List.set_cons_succ]
          refine wpAnyH_takeL (i := 18) (v := ?_) rfl (by kernel_rfl) (by kernel_rfl) (by kernel_rfl) (fun _ _ _ h => h) (by rfl) hHeld ?_ ?_
          rotate_left
          · (intro w hSw; (try dsimp only at hSw); go_simp; (try with_reducible rfl))
          try simp only [Act.put, List.setIfInBounds_toArray, List.set_cons_zero, List.set_cons_succ]
          refine wpAnyH_done (by kernel_rfl) ?_ _
          have KE := Lib.hid (hK.trans (K0w.out.trans pc))
          clear pc
          go_wp2_with fail
          go_roundw
          case rel => exact ⟨k + 1, by omega, by go_num, KE.out⟩
          case measure => simp [intOf]; omega
        · go_simp
          have X := lit_declsD (W0.alloc (.cells #[] 28)) (fun q => q < W0.heap.size ∨ q = (W0.alloc (.cells #[] 28)).heap.size) 28 [dAt ds k] [.int .i64 (dAt ds k).from_, .int .i64 (dAt ds k).to_, .slice a' 0 c'] 1 (.inr rfl) ⟨_, _, rfl, (RC.k pc).mono (fun q hq => .inl (by have := hq.2; omega)), rfl⟩ rfl (by omega)
          try simp only [World.size_alloc] at X
          have kk := Keep.al (W0.alloc (.cells #[] 28)) (.cells #[.int .i64 (dAt ds k).from_, .int .i64 (dAt ds k).to_, .slice a' 0 c'] 28)
          replace pc := Ext.trans pc kk
          replace A := A.keep kk
          refine hK.out _ _ ⟨(pc.cell (World.block_lt_of_cell? _ _ e0) (fun h => h)).trans e0, (pc.cell (World.block_lt_of_cell? _ _ e1) (fun h => h)).trans e1, (pc.cell (World.block_lt_of_cell? _ _ e2) (fun h => h)).trans e2⟩ (fun hHeld => ?_)
          clear hK K
          try simp only [Act.put, List.setIfInBounds_toArray, List.set_cons_zero, List.set_cons_succ]
          refine wpAnyH_oneL (i := 10) rfl (by kernel_rfl) (by rfl) (fun K hK => ?_)
          have RS := RD.k pc
          have bnd := A.bound
          have zpc := pc.size
          refine wp_appR _ (.tmp 39) (.tmp 40) 23 rfl (W0.heap.size) 28 (.agg #[.int .i64 0, .int .i64 0, .slice none 0 0]) 3 40 Try.underlying23 (by kernel_rfl) rfl (by omega) (fun _ => True) _ _ rfl A _ n _ _ _ rfl RS (fun q hq hq2 => ⟨trivial, fun hh => by have h1 := (bnd q hh).1; have h2 := hq2.2; omega⟩) (by simp; omega) (by simp; omega) (by first | omega | (simp; done) | (simp; omega) | (have z9 := x1.size; simp at z9; omega)) ?_
          rintro v1 w10 A1 x1 hv1
          have x1' := x1
          replace pc := pc.then_ x1 (fun q hq h => by have h1 := (bnd q h).1; omega)
          have z1 := x1.size
          replace X := X.ext x1 (fun q hq h => by
            have h0 : some W0.heap.size = some q := h
            have h1 : W0.heap.size = q := Option.some.inj h0
            rcases hq with h2 | h2
            · omega
            · omega)
          have hneL : v1.ownBlock ≠ some (W0.heap.size + 1) := fun hh => by
            rcases hv1 with e | e
            · rw [hh] at e
              have e2 : some (W0.heap.size + 1) = some W0.heap.size := e
              have e3 : W0.heap.size + 1 = W0.heap.size := Option.some.inj e2
              omega
            · rw [hh] at e
              simp at e
          refine hK.out _ _ ⟨(pc.cell (World.block_lt_of_cell? _ _ e0) (fun h => h)).trans e0, (pc.cell (World.block_lt_of_cell? _ _ e1) (fun h => h)).trans e1, (pc.cell (World.block_lt_of_cell? _ _ e2) (fun h => h)).trans e2⟩ (fun hHeld => ?_)
          clear hK K
          try simp only [Act.put, List.setIfInBounds_toArray, List.set_cons_zero, List.set_cons_succ]
          refine wpAnyH_oneL (i := 16) rfl (by kernel_rfl) (by rfl) (fun K hK => ?_)
          have bnd1 := A1.bound
          have hln : (([] : List (List Dat)) ++ ds.map rowD).length = n := by have := HL.out; simp; omega
          have hD2 : ∀ q, (q < W0.heap.size ∨ q = W0.heap.size + 1) → v1.ownBlock ≠ some q := fun q hq2 hh => by
            rcases hq2 with h2 | h2
            · have h1 := (bnd1 q hh).1
              omega
            · exact hneL (by rw [hh, h2])
          refine wp_appR _ (.tmp 41) (.tmp 46) 23 rfl (W0.heap.size) 28 (.agg #[.int .i64 0, .int .i64 0, .slice none 0 0]) 3 40 Try.underlying23 (by kernel_rfl) rfl (by omega) (fun _ => True) _ _ rfl A1 _ 1 _ _ _ rfl X (fun q _ hq2 => And.intro trivial (hD2 q hq2)) (by rw [hln]; omega) (by rw [hln]; omega) (by first | omega | (simp; done) | (simp; omega) | (have z9 := x1.size; simp at z9; omega)) ?_
          rintro v2 w16 A2 x2 hv2
          replace pc := pc.then_ x2 (fun q hq h => by have h1 := (bnd1 q h).1; omega)
          obtain ⟨a9, c9, rfl, hc9, _, hr9⟩ := A2.read (by omega)
          rw [show (([] : List (List Dat)) ++ ds.map rowD ++ [dAt ds k].map rowD) = (ds ++ [dAt ds k]).map rowD from by simp] at hr9
          have HR9 : Hid (Rd w16 (fun _ => True) (encDecls (ds ++ [dAt ds k])) _) := hr9.mono (fun _ _ => trivial)
          have hl9 : (([] : List (List Dat)) ++ ds.map rowD ++ [dAt ds k].map rowD).length = n + 1 := by have := HL.out; simp; omega
          have hl8 : ((ds ++ [dAt ds k]).map rowD).length = n + 1 := by have := HL.out; simp; omega
          rw [hl9] at hc9
          rw [hl8] at HR9
          refine hK.out _ _ ⟨(pc.cell (World.block_lt_of_cell? _ _ e0) (fun h => h)).trans e0, (pc.cell (World.block_lt_of_cell? _ _ e1) (fun h => h)).trans e1, (pc.cell (World.block_lt_of_cell? _ _ e2) (fun h => h)).trans e2⟩ (fun hHeld => ?_)
          clear hK K
          try simp only [Act.put, List.setIfInBounds_toArray, List.set_cons_zero, List.set_cons_succ]
          refine wpAnyH_oneL (i := 17) rfl (by kernel_rfl) (by rfl) (fun K hK => ?_)
          rw [hl9]
          go_simp
          go_at_call 8
          refine (implValidTypes _ _ _ _ _ _ HR9.out.toDecls hc9).mono ?_
          rw [VF.out]
          rintro e w17 ⟨rfl, p17⟩
          replace pc := Ext.trans pc p17
          refine hK.out _ _ ⟨(pc.cell (World.block_lt_of_cell? _ _ e0) (fun h => h)).trans e0, (pc.cell (World.block_lt_of_cell? _ _ e1) (fun h => h)).trans e1, (pc.cell (World.block_lt_of_cell? _ _ e2) (fun h => h)).trans e2⟩ (fun hHeld => ?_)
          clear hK K
          try simp only [Act.put, List.setIfInBounds_toArray, List.set_cons_zero, List.set_cons_succ]
          refine wpAnyH_takeL (i := 18) (v := ?_) rfl (by kernel_rfl) (by kernel_rfl) (by kernel_rfl) (fun _ _ _ h => h) (by rfl) hHeld ?_ ?_
          rotate_left
          · (intro w hSw; (try dsimp only at hSw); go_simp; (try with_reducible rfl))
          try simp only [Act.put, List.setIfInBounds_toArray, List.set_cons_zero, List.set_cons_succ]
          refine wpAnyH_done (by kernel_rfl) ?_ _
          have KE := Lib.hid (hK.trans (K0w.out.trans pc))
          clear pc
          go_wp2_with fail
          go_roundw
          case rel => exact ⟨k + 1, by omega, by go_num, KE.out⟩
          case measure => simp [intOf]; omega
      · go_simp
        have X := lit_declsD W0 (fun q => q < W0.heap.size ∨ q = W0.heap.size) 28 [dAt ds k] [.int .i64 (dAt ds k).from_, .int .i64 (dAt ds k).to_, .slice a' 0 c'] 1 (.inr rfl) ⟨_, _, rfl, (RC.k pc).mono (fun q hq => .inl (by have := hq.2; omega)), rfl⟩ rfl (by omega)
        try simp only [World.size_alloc] at X
        have kk := Keep.al W0 (.cells #[.int .i64 (dAt ds k).from_, .int .i64 (dAt ds k).to_, .slice a' 0 c'] 28)
        replace pc := Ext.trans pc kk
        refine hK.out _ _ ⟨(pc.cell (World.block_lt_of_cell? _ _ e0) (fun h => h)).trans e0, (pc.cell (World.block_lt_of_cell? _ _ e1) (fun h => h)).trans e1, (pc.cell (World.block_lt_of_cell? _ _ e2) (fun h => h)).trans e2⟩ (fun hHeld => ?_)
        clear hK K
        try simp only [Act.put, List.setIfInBounds_toArray, List.set_cons_zero, List.set_cons_succ]
        refine wpAnyH_oneL (i := 8) rfl (by kernel_rfl) (by rfl) (fun K hK => ?_)
        go_simp
        have A := AccR.made (W0.alloc (.cells #[.int .i64 (dAt ds k).from_, .int .i64 (dAt ds k).to_, .slice a' 0 c'] 28)) (fun _ => True) 28 3
        try simp only [World.size_alloc] at A
        have kk := Keep.al (W0.alloc (.cells #[.int .i64 (dAt ds k).from_, .int .i64 (dAt ds k).to_, .slice a' 0 c'] 28)) (.cells #[] 28)
        replace pc := Ext.trans pc kk
        replace X := X.k kk
        refine hK.out _ _ ⟨(pc.cell (World.block_lt_of_cell? _ _ e0) (fun h => h)).trans e0, (pc.cell (World.block_lt_of_cell? _ _ e1) (fun h => h)).trans e1, (pc.cell (World.block_lt_of_cell? _ _ e2) (fun h => h)).trans e2⟩ (fun hHeld => ?_)
        clear hK K
        try simp only [Act.put, List.setIfInBounds_toArray, List.set_cons_zero, List.set_cons_succ]
        refine wpAnyH_oneL (i := 10) rfl (by kernel_rfl) (by rfl) (fun K hK => ?_)
        have RS := RD.k pc
        have bnd := A.bound
        have zpc := pc.size
        refine wp_appR _ (.tmp 39) (.tmp 40) 23 rfl (W0.heap.size + 1) 28 (.agg #[.int .i64 0, .int .i64 0, .slice none 0 0]) 3 40 Try.underlying23 (by kernel_rfl) rfl (by omega) (fun _ => True) _ _ rfl A _ n _ _ _ rfl RS (fun q hq hq2 => ⟨trivial, fun hh => by have h1 := (bnd q hh).1; have h2 := hq2.2; omega⟩) (by simp; omega) (by simp; omega) (by first | omega | (simp; done) | (simp; omega) | (have z9 := x1.size; simp at z9; omega)) ?_
        rintro v1 w10 A1 x1 hv1
        have x1' := x1
        replace pc := pc.then_ x1 (fun q hq h => by have h1 := (bnd q h).1; omega)
        have z1 := x1.size
        replace X := X.ext x1 (fun q hq h => by
          have h1 := (bnd q h).1
          rcases hq with h2 | h2 <;> omega)
        have hneL : v1.ownBlock ≠ some W0.heap.size := fun hh => by
          have h1 := (A1.bound _ hh).1
          omega
        refine hK.out _ _ ⟨(pc.cell (World.block_lt_of_cell? _ _ e0) (fun h => h)).trans e0, (pc.cell (World.block_lt_of_cell? _ _ e1) (fun h => h)).trans e1, (pc.cell (World.block_lt_of_cell? _ _ e2) (fun h => h)).trans e2⟩ (fun hHeld => ?_)
        clear hK K
        try simp only [Act.put, List.setIfInBounds_toArray, List.set_cons_zero, List.set_cons_succ]
        refine wpAnyH_oneL (i := 16) rfl (by kernel_rfl) (by rfl) (fun K hK => ?_)
        have bnd1 := A1.bound
        have hln : (([] : List (List Dat)) ++ ds.map rowD).length = n := by have := HL.out; simp; omega
        have hD2 : ∀ q, (q < W0.heap.size ∨ q = W0.heap.size) → v1.ownBlock ≠ some q := fun q hq2 hh => by
          rcases hq2 with h2 | h2
          · have h1 := (bnd1 q hh).1
            omega
          · exact hneL (by rw [hh, h2])
        refine wp_appR _ (.tmp 41) (.tmp 46) 23 rfl (W0.heap.size + 1) 28 (.agg #[.int .i64 0, .int .i64 0, .slice none 0 0]) 3 40 Try.underlying23 (by kernel_rfl) rfl (by omega) (fun _ => True) _ _ rfl A1 _ 1 _ _ _ rfl X (fun q _ hq2 => And.intro trivial (hD2 q hq2)) (by rw [hln]; omega) (by rw [hln]; omega) (by first | omega | (simp; done) | (simp; omega) | (have z9 := x1.size; simp at z9; omega)) ?_
        rintro v2 w16 A2 x2 hv2
        replace pc := pc.then_ x2 (fun q hq h => by have h1 := (bnd1 q h).1; omega)
        obtain ⟨a9, c9, rfl, hc9, _, hr9⟩ := A2.read (by omega)
        rw [show (([] : List (List Dat)) ++ ds.map rowD ++ [dAt ds k].map rowD) = (ds ++ [dAt ds k]).map rowD from by simp] at hr9
        have HR9 : Hid (Rd w16 (fun _ => True) (encDecls (ds ++ [dAt ds k])) _) := hr9.mono (fun _ _ => trivial)
        have hl9 : (([] : List (List Dat)) ++ ds.map rowD ++ [dAt ds k].map rowD).length = n + 1 := by have := HL.out; simp; omega
        have hl8 : ((ds ++ [dAt ds k]).map rowD).length = n + 1 := by have := HL.out; simp; omega
        rw [hl9] at hc9
        rw [hl8] at HR9
        refine hK.out _ _ ⟨(pc.cell (World.block_lt_of_cell? _ _ e0) (fun h => h)).trans e0, (pc.cell (World.block_lt_of_cell? _ _ e1) (fun h => h)).trans e1, (pc.cell (World.block_lt_of_cell? _ _ e2) (fun h => h)).trans e2⟩ (fun hHeld => ?_)
        clear hK K
        try simp only [Act.put, List.setIfInBounds_toArray, List.set_cons_zero, List.set_cons_succ]
        refine wpAnyH_oneL (i := 17) rfl (by kernel_rfl) (by rfl) (fun K hK => ?_)
        rw [hl9]
        go_simp
        go_at_call 8
        refine (implValidTypes _ _ _ _ _ _ HR9.out.toDecls hc9).mono ?_
        rw [VF.out]
        rintro e w17 ⟨rfl, p17⟩
        replace pc := Ext.trans pc p17
        refine hK.out _ _ ⟨(pc.cell (World.block_lt_of_cell? _ _ e0) (fun h => h)).trans e0, (pc.cell (World.block_lt_of_cell? _ _ e1) (fun h => h)).trans e1, (pc.cell (World.block_lt_of_cell? _ _ e2) (fun h => h)).trans e2⟩ (fun hHeld => ?_)
        clear hK K
        try simp only [Act.put, List.setIfInBounds_toArray, List.set_cons_zero, List.set_cons_succ]
        refine wpAnyH_takeL (i := 18) (v := ?_) rfl (by kernel_rfl) (by kernel_rfl) (by kernel_rfl) (fun _ _ _ h => h) (by rfl) hHeld ?_ ?_
        rotate_left
        · (intro w hSw; (try dsimp only at hSw); go_simp; (try with_reducible rfl))
        try simp only [Act.put, List.setIfInBounds_toArray, List.set_cons_zero, List.set_cons_succ]
        refine wpAnyH_done (by kernel_rfl) ?_ _
        have KE := Lib.hid (hK.trans (K0w.out.trans pc))
        clear pc
        go_wp2_with fail
        go_roundw
        case rel => exact ⟨k + 1, by omega, by go_num, KE.out⟩
        case measure => simp [intOf]; omega
  · go_enter Try.func3, Try.ntmps3
    go_wp2_with fail
    exact fin_ hQ ⟨rfl, Ext.refl _ _⟩
end Go.Proofs.Ythdjijhpdgajbaa
