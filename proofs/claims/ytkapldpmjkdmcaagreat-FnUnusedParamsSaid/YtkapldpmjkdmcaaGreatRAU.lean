/- The program's types of expressions: operations that neither bind nor choose. -/
import Derived.Test.YtkapldpmjkdmcaaGreatRAT
import Derived.Test.YtkapldpmjkdmcaaGreatRAG
import Derived.Test.YtkapldpmjkdmcaaGreatRAD
import Derived.Deep.RegionLaw
import Derived.Test.YtkapldpmjkdmcaaGreatRAF
import Derived.ArgAppend
namespace Go.Proofs.YtkapldpmjkdmcaaGreat
open Go.RowKit

theorem simR_neg {ds : List DeclL} {sg : List SigL} {op num : Int} {tys : List Int} {w w' : World} {t : Int} (h : simpleL ds sg op num tys = -1) (k : Keep w w') : SimR ds sg op num tys w (.returned (.tuple #[.int .i64 t, .bool false])) w' :=
  ⟨t, false, rfl, by rw [h]; rfl, (fun h => by cases h), k⟩
theorem simR_pos {ds : List DeclL} {sg : List SigL} {op num : Int} {tys : List Int} {w w' : World} {t : Int} (h : simpleL ds sg op num tys = t) (h0 : 0 ≤ t) (k : Keep w w') : SimR ds sg op num tys w (.returned (.tuple #[.int .i64 t, .bool true])) w' :=
  ⟨t, true, rfl, by rw [h]; exact (decide_eq_true h0).symm, fun _ => h.symm, k⟩

section
variable (ds : List DeclL) (sg : List SigL) (hok : sigsOk ds sg = true)
include hok

set_option maxRecDepth 100000 in
set_option maxHeartbeats 4000000 in
theorem implSim_0 (num : Int) (tys : List Int) (D : Nat → Prop) (a0 : Option Addr) (n0 c0 : Nat) (a1 : Option Addr) (n1 c1 : Nat) (a : Option Addr) (n c : Nat) (E : Nat → Prop) (w : World) (hp : SR w D ds sg a0 n0 c0 a1 n1 c1) (h : IntsL w E a n tys) (hn : n ≤ 1049576) :
    Calls Tryz.prog 162 #[.agg #[.slice a0 n0 c0, .slice a1 n1 c1], .int .i64 0, .int .i64 num, .slice a n c] w (SimR ds sg 0 num tys w) := by
  refine calls_k fun Q hQ => ?_
  have ht := (sigsOk_parts hok).1
  have hf := Few.of_ok ht
  have hn0 : n0 ≤ 4 := by have := (decls_at hp.1).1; have := typesOk_len ht; omega
  have K0 := Keep.al w (.cells #[.slice a0 n0 c0, .slice a1 n1 c1] 130)
  have R0 := rowOf w #[.slice a0 n0 c0, .slice a1 n1 c1] 130
  have HL := Lib.hid h.1
  have HOK := Lib.hid hok
  have HT := Lib.hid ht
  clear hok ht
  have V0 := Lib.hid (simple_0 ds sg num tys)
  by_cases h1 : -999 ≤ num
  case neg =>
    have V : Hid (simpleL ds sg 0 num tys = -1) := by show _ = _; rw [V0.out, if_neg (fun h => h1 h.2.1)]
    go_enter Tryz.func162, Tryz.ntmps162
    go_wp2_with fail
    exact fin_ hQ (simR_neg V.out (K0))
  by_cases h2 : num ≤ 999
  case neg =>
    have V : Hid (simpleL ds sg 0 num tys = -1) := by show _ = _; rw [V0.out, if_neg (fun h => h2 h.2.2)]
    go_enter Tryz.func162, Tryz.ntmps162
    go_wp2_with fail
    exact fin_ hQ (simR_neg V.out (K0))
  rcases Nat.eq_zero_or_pos n with h0 | h0
  · subst h0
    have V : Hid (simpleL ds sg 0 num tys = 0) := by show _ = _; rw [V0.out, if_pos ⟨List.eq_nil_of_length_eq_zero HL.out, h1, h2⟩]
    go_enter Tryz.func162, Tryz.ntmps162
    go_wp2_with fail
    exact fin_ hQ (simR_pos V.out (by omega) (K0))
  · have V : Hid (simpleL ds sg 0 num tys = -1) := by show _ = _; rw [V0.out, if_neg (fun h => by have h1 := HL.out; rw [h.1] at h1; simp at h1; omega)]
    have hz : ((n : Int) == 0) = false := by simp; omega
    go_enter Tryz.func162, Tryz.ntmps162
    go_wp2_with fail
    exact fin_ hQ (simR_neg V.out (K0))

set_option maxRecDepth 100000 in
set_option maxHeartbeats 4000000 in
theorem implSim_1 (num : Int) (tys : List Int) (D : Nat → Prop) (a0 : Option Addr) (n0 c0 : Nat) (a1 : Option Addr) (n1 c1 : Nat) (a : Option Addr) (n c : Nat) (E : Nat → Prop) (w : World) (hp : SR w D ds sg a0 n0 c0 a1 n1 c1) (h : IntsL w E a n tys) (hn : n ≤ 1049576) :
    Calls Tryz.prog 162 #[.agg #[.slice a0 n0 c0, .slice a1 n1 c1], .int .i64 1, .int .i64 num, .slice a n c] w (SimR ds sg 1 num tys w) := by
  refine calls_k fun Q hQ => ?_
  have ht := (sigsOk_parts hok).1
  have hf := Few.of_ok ht
  have hn0 : n0 ≤ 4 := by have := (decls_at hp.1).1; have := typesOk_len ht; omega
  have K0 := Keep.al w (.cells #[.slice a0 n0 c0, .slice a1 n1 c1] 130)
  have R0 := rowOf w #[.slice a0 n0 c0, .slice a1 n1 c1] 130
  have HL := Lib.hid h.1
  have HOK := Lib.hid hok
  have HT := Lib.hid ht
  clear hok ht
  have V0 := Lib.hid (simple_bin ds sg (op := 1) num tys (by omega))
  have K1 := K0.trans (Keep.al _ (.cells #[.int .i64 0, .int .i64 0] 3))
  by_cases hz : num = 0
  case neg =>
    have V : Hid (simpleL ds sg 1 num tys = -1) := by show _ = _; rw [V0.out, if_neg (fun h => hz h.1)]
    have hz' : (num == 0) = false := by simpa using hz
    clear hz
    go_enter Tryz.func162, Tryz.ntmps162
    go_wp2_with fail
    exact fin_ hQ (simR_neg V.out (K1))
  subst hz
  have il := Rd.toInts (lit_ints (w.alloc (.cells #[.slice a0 n0 c0, .slice a1 n1 c1] 130)) 0 3 [0, 0] #[.int .i64 0, .int .i64 0] 2 (Nat.zero_le _) rfl rfl (by omega)).t
  simp only [World.size_alloc] at il
  have h1 := h.ext K1 (fun _ _ h => h)
  cases hd : decide (tys = [0, 0])
  · have V : Hid (simpleL ds sg 1 0 tys = -1) := by show _ = _; rw [V0.out, if_neg (fun h => of_decide_eq_false hd h.2)]
    have HD := Lib.hid hd
    clear hd
    go_enter Tryz.func162, Tryz.ntmps162
    go_wp2_with fail
    refine (equalInts _ _ _ _ _ _ _ _ _ _ _ h1 il (by omega) (by omega)).mono ?_
    rw [HD.out]
    rintro e w1 ⟨rfl, p1⟩
    go_wp2_with fail
    exact fin_ hQ (simR_neg V.out (K1.trans p1))
  · have V : Hid (simpleL ds sg 1 0 tys = 0) := by show _ = _; rw [V0.out, if_pos ⟨rfl, of_decide_eq_true hd⟩]
    have HD := Lib.hid hd
    clear hd
    go_enter Tryz.func162, Tryz.ntmps162
    go_wp2_with fail
    refine (equalInts _ _ _ _ _ _ _ _ _ _ _ h1 il (by omega) (by omega)).mono ?_
    rw [HD.out]
    rintro e w1 ⟨rfl, p1⟩
    go_wp2_with fail
    exact fin_ hQ (simR_pos V.out (by omega) (K1.trans p1))

set_option maxRecDepth 100000 in
set_option maxHeartbeats 4000000 in
theorem implSim_2 (num : Int) (tys : List Int) (D : Nat → Prop) (a0 : Option Addr) (n0 c0 : Nat) (a1 : Option Addr) (n1 c1 : Nat) (a : Option Addr) (n c : Nat) (E : Nat → Prop) (w : World) (hp : SR w D ds sg a0 n0 c0 a1 n1 c1) (h : IntsL w E a n tys) (hn : n ≤ 1049576) :
    Calls Tryz.prog 162 #[.agg #[.slice a0 n0 c0, .slice a1 n1 c1], .int .i64 2, .int .i64 num, .slice a n c] w (SimR ds sg 2 num tys w) := by
  refine calls_k fun Q hQ => ?_
  have ht := (sigsOk_parts hok).1
  have hf := Few.of_ok ht
  have hn0 : n0 ≤ 4 := by have := (decls_at hp.1).1; have := typesOk_len ht; omega
  have K0 := Keep.al w (.cells #[.slice a0 n0 c0, .slice a1 n1 c1] 130)
  have R0 := rowOf w #[.slice a0 n0 c0, .slice a1 n1 c1] 130
  have HL := Lib.hid h.1
  have HOK := Lib.hid hok
  have HT := Lib.hid ht
  clear hok ht
  have V0 := Lib.hid (simple_bin ds sg (op := 2) num tys (by omega))
  have K1 := K0.trans (Keep.al _ (.cells #[.int .i64 0, .int .i64 0] 3))
  by_cases hz : num = 0
  case neg =>
    have V : Hid (simpleL ds sg 2 num tys = -1) := by show _ = _; rw [V0.out, if_neg (fun h => hz h.1)]
    have hz' : (num == 0) = false := by simpa using hz
    clear hz
    go_enter Tryz.func162, Tryz.ntmps162
    go_wp2_with fail
    exact fin_ hQ (simR_neg V.out (K1))
  subst hz
  have il := Rd.toInts (lit_ints (w.alloc (.cells #[.slice a0 n0 c0, .slice a1 n1 c1] 130)) 0 3 [0, 0] #[.int .i64 0, .int .i64 0] 2 (Nat.zero_le _) rfl rfl (by omega)).t
  simp only [World.size_alloc] at il
  have h1 := h.ext K1 (fun _ _ h => h)
  cases hd : decide (tys = [0, 0])
  · have V : Hid (simpleL ds sg 2 0 tys = -1) := by show _ = _; rw [V0.out, if_neg (fun h => of_decide_eq_false hd h.2)]
    have HD := Lib.hid hd
    clear hd
    go_enter Tryz.func162, Tryz.ntmps162
    go_wp2_with fail
    refine (equalInts _ _ _ _ _ _ _ _ _ _ _ h1 il (by omega) (by omega)).mono ?_
    rw [HD.out]
    rintro e w1 ⟨rfl, p1⟩
    go_wp2_with fail
    exact fin_ hQ (simR_neg V.out (K1.trans p1))
  · have V : Hid (simpleL ds sg 2 0 tys = 0) := by show _ = _; rw [V0.out, if_pos ⟨rfl, of_decide_eq_true hd⟩]
    have HD := Lib.hid hd
    clear hd
    go_enter Tryz.func162, Tryz.ntmps162
    go_wp2_with fail
    refine (equalInts _ _ _ _ _ _ _ _ _ _ _ h1 il (by omega) (by omega)).mono ?_
    rw [HD.out]
    rintro e w1 ⟨rfl, p1⟩
    go_wp2_with fail
    exact fin_ hQ (simR_pos V.out (by omega) (K1.trans p1))

set_option maxRecDepth 100000 in
set_option maxHeartbeats 4000000 in
theorem implSim_3 (num : Int) (tys : List Int) (D : Nat → Prop) (a0 : Option Addr) (n0 c0 : Nat) (a1 : Option Addr) (n1 c1 : Nat) (a : Option Addr) (n c : Nat) (E : Nat → Prop) (w : World) (hp : SR w D ds sg a0 n0 c0 a1 n1 c1) (h : IntsL w E a n tys) (hn : n ≤ 1049576) :
    Calls Tryz.prog 162 #[.agg #[.slice a0 n0 c0, .slice a1 n1 c1], .int .i64 3, .int .i64 num, .slice a n c] w (SimR ds sg 3 num tys w) := by
  refine calls_k fun Q hQ => ?_
  have ht := (sigsOk_parts hok).1
  have hf := Few.of_ok ht
  have hn0 : n0 ≤ 4 := by have := (decls_at hp.1).1; have := typesOk_len ht; omega
  have K0 := Keep.al w (.cells #[.slice a0 n0 c0, .slice a1 n1 c1] 130)
  have R0 := rowOf w #[.slice a0 n0 c0, .slice a1 n1 c1] 130
  have HL := Lib.hid h.1
  have HOK := Lib.hid hok
  have HT := Lib.hid ht
  clear hok ht
  have V0 := Lib.hid (simple_bin ds sg (op := 3) num tys (by omega))
  have K1 := K0.trans (Keep.al _ (.cells #[.int .i64 0, .int .i64 0] 3))
  by_cases hz : num = 0
  case neg =>
    have V : Hid (simpleL ds sg 3 num tys = -1) := by show _ = _; rw [V0.out, if_neg (fun h => hz h.1)]
    have hz' : (num == 0) = false := by simpa using hz
    clear hz
    go_enter Tryz.func162, Tryz.ntmps162
    go_wp2_with fail
    exact fin_ hQ (simR_neg V.out (K1))
  subst hz
  have il := Rd.toInts (lit_ints (w.alloc (.cells #[.slice a0 n0 c0, .slice a1 n1 c1] 130)) 0 3 [0, 0] #[.int .i64 0, .int .i64 0] 2 (Nat.zero_le _) rfl rfl (by omega)).t
  simp only [World.size_alloc] at il
  have h1 := h.ext K1 (fun _ _ h => h)
  cases hd : decide (tys = [0, 0])
  · have V : Hid (simpleL ds sg 3 0 tys = -1) := by show _ = _; rw [V0.out, if_neg (fun h => of_decide_eq_false hd h.2)]
    have HD := Lib.hid hd
    clear hd
    go_enter Tryz.func162, Tryz.ntmps162
    go_wp2_with fail
    refine (equalInts _ _ _ _ _ _ _ _ _ _ _ h1 il (by omega) (by omega)).mono ?_
    rw [HD.out]
    rintro e w1 ⟨rfl, p1⟩
    go_wp2_with fail
    exact fin_ hQ (simR_neg V.out (K1.trans p1))
  · have V : Hid (simpleL ds sg 3 0 tys = 0) := by show _ = _; rw [V0.out, if_pos ⟨rfl, of_decide_eq_true hd⟩]
    have HD := Lib.hid hd
    clear hd
    go_enter Tryz.func162, Tryz.ntmps162
    go_wp2_with fail
    refine (equalInts _ _ _ _ _ _ _ _ _ _ _ h1 il (by omega) (by omega)).mono ?_
    rw [HD.out]
    rintro e w1 ⟨rfl, p1⟩
    go_wp2_with fail
    exact fin_ hQ (simR_pos V.out (by omega) (K1.trans p1))

set_option maxRecDepth 100000 in
set_option maxHeartbeats 4000000 in
theorem implSim_4 (num : Int) (tys : List Int) (D : Nat → Prop) (a0 : Option Addr) (n0 c0 : Nat) (a1 : Option Addr) (n1 c1 : Nat) (a : Option Addr) (n c : Nat) (E : Nat → Prop) (w : World) (hp : SR w D ds sg a0 n0 c0 a1 n1 c1) (h : IntsL w E a n tys) (hn : n ≤ 1049576) :
    Calls Tryz.prog 162 #[.agg #[.slice a0 n0 c0, .slice a1 n1 c1], .int .i64 4, .int .i64 num, .slice a n c] w (SimR ds sg 4 num tys w) := by
  refine calls_k fun Q hQ => ?_
  have ht := (sigsOk_parts hok).1
  have hf := Few.of_ok ht
  have hn0 : n0 ≤ 4 := by have := (decls_at hp.1).1; have := typesOk_len ht; omega
  have K0 := Keep.al w (.cells #[.slice a0 n0 c0, .slice a1 n1 c1] 130)
  have R0 := rowOf w #[.slice a0 n0 c0, .slice a1 n1 c1] 130
  have HL := Lib.hid h.1
  have HOK := Lib.hid hok
  have HT := Lib.hid ht
  clear hok ht
  have V0 := Lib.hid (simple_bin ds sg (op := 4) num tys (by omega))
  have K1 := K0.trans (Keep.al _ (.cells #[.int .i64 0, .int .i64 0] 3))
  by_cases hz : num = 0
  case neg =>
    have V : Hid (simpleL ds sg 4 num tys = -1) := by show _ = _; rw [V0.out, if_neg (fun h => hz h.1)]
    have hz' : (num == 0) = false := by simpa using hz
    clear hz
    go_enter Tryz.func162, Tryz.ntmps162
    go_wp2_with fail
    exact fin_ hQ (simR_neg V.out (K1))
  subst hz
  have il := Rd.toInts (lit_ints (w.alloc (.cells #[.slice a0 n0 c0, .slice a1 n1 c1] 130)) 0 3 [0, 0] #[.int .i64 0, .int .i64 0] 2 (Nat.zero_le _) rfl rfl (by omega)).t
  simp only [World.size_alloc] at il
  have h1 := h.ext K1 (fun _ _ h => h)
  cases hd : decide (tys = [0, 0])
  · have V : Hid (simpleL ds sg 4 0 tys = -1) := by show _ = _; rw [V0.out, if_neg (fun h => of_decide_eq_false hd h.2)]
    have HD := Lib.hid hd
    clear hd
    go_enter Tryz.func162, Tryz.ntmps162
    go_wp2_with fail
    refine (equalInts _ _ _ _ _ _ _ _ _ _ _ h1 il (by omega) (by omega)).mono ?_
    rw [HD.out]
    rintro e w1 ⟨rfl, p1⟩
    go_wp2_with fail
    exact fin_ hQ (simR_neg V.out (K1.trans p1))
  · have V : Hid (simpleL ds sg 4 0 tys = 0) := by show _ = _; rw [V0.out, if_pos ⟨rfl, of_decide_eq_true hd⟩]
    have HD := Lib.hid hd
    clear hd
    go_enter Tryz.func162, Tryz.ntmps162
    go_wp2_with fail
    refine (equalInts _ _ _ _ _ _ _ _ _ _ _ h1 il (by omega) (by omega)).mono ?_
    rw [HD.out]
    rintro e w1 ⟨rfl, p1⟩
    go_wp2_with fail
    exact fin_ hQ (simR_pos V.out (by omega) (K1.trans p1))

set_option maxRecDepth 100000 in
set_option maxHeartbeats 4000000 in
theorem implSim_5 (num : Int) (tys : List Int) (D : Nat → Prop) (a0 : Option Addr) (n0 c0 : Nat) (a1 : Option Addr) (n1 c1 : Nat) (a : Option Addr) (n c : Nat) (E : Nat → Prop) (w : World) (hp : SR w D ds sg a0 n0 c0 a1 n1 c1) (h : IntsL w E a n tys) (hn : n ≤ 1049576) :
    Calls Tryz.prog 162 #[.agg #[.slice a0 n0 c0, .slice a1 n1 c1], .int .i64 5, .int .i64 num, .slice a n c] w (SimR ds sg 5 num tys w) := by
  refine calls_k fun Q hQ => ?_
  have ht := (sigsOk_parts hok).1
  have hf := Few.of_ok ht
  have hn0 : n0 ≤ 4 := by have := (decls_at hp.1).1; have := typesOk_len ht; omega
  have K0 := Keep.al w (.cells #[.slice a0 n0 c0, .slice a1 n1 c1] 130)
  have R0 := rowOf w #[.slice a0 n0 c0, .slice a1 n1 c1] 130
  have HL := Lib.hid h.1
  have HOK := Lib.hid hok
  have HT := Lib.hid ht
  clear hok ht
  have V0 := Lib.hid (simple_5 ds sg num tys)
  have K1 := K0.trans (Keep.al _ (.cells #[.int .i64 0] 3))
  by_cases hz : num = 0
  case neg =>
    have V : Hid (simpleL ds sg 5 num tys = -1) := by show _ = _; rw [V0.out, if_neg (fun h => hz h.1)]
    have hz' : (num == 0) = false := by simpa using hz
    clear hz
    go_enter Tryz.func162, Tryz.ntmps162
    go_wp2_with fail
    exact fin_ hQ (simR_neg V.out (K1))
  subst hz
  have il := Rd.toInts (lit_ints (w.alloc (.cells #[.slice a0 n0 c0, .slice a1 n1 c1] 130)) 0 3 [0] #[.int .i64 0] 1 (Nat.zero_le _) rfl rfl (by omega)).t
  simp only [World.size_alloc] at il
  have h1 := h.ext K1 (fun _ _ h => h)
  cases hd : decide (tys = [0])
  · have V : Hid (simpleL ds sg 5 0 tys = -1) := by show _ = _; rw [V0.out, if_neg (fun h => of_decide_eq_false hd h.2)]
    have HD := Lib.hid hd
    clear hd
    go_enter Tryz.func162, Tryz.ntmps162
    go_wp2_with fail
    refine (equalInts _ _ _ _ _ _ _ _ _ _ _ h1 il (by omega) (by omega)).mono ?_
    rw [HD.out]
    rintro e w1 ⟨rfl, p1⟩
    go_wp2_with fail
    exact fin_ hQ (simR_neg V.out (K1.trans p1))
  · have V : Hid (simpleL ds sg 5 0 tys = 0) := by show _ = _; rw [V0.out, if_pos ⟨rfl, of_decide_eq_true hd⟩]
    have HD := Lib.hid hd
    clear hd
    go_enter Tryz.func162, Tryz.ntmps162
    go_wp2_with fail
    refine (equalInts _ _ _ _ _ _ _ _ _ _ _ h1 il (by omega) (by omega)).mono ?_
    rw [HD.out]
    rintro e w1 ⟨rfl, p1⟩
    go_wp2_with fail
    exact fin_ hQ (simR_pos V.out (by omega) (K1.trans p1))

set_option maxRecDepth 100000 in
set_option maxHeartbeats 4000000 in
theorem implSim_6 (num : Int) (tys : List Int) (D : Nat → Prop) (a0 : Option Addr) (n0 c0 : Nat) (a1 : Option Addr) (n1 c1 : Nat) (a : Option Addr) (n c : Nat) (E : Nat → Prop) (w : World) (hp : SR w D ds sg a0 n0 c0 a1 n1 c1) (h : IntsL w E a n tys) (hn : n ≤ 1049576) (hx1 : -9223372036854775808 ≤ num) (hx2 : num ≤ 9223372036854775807) :
    Calls Tryz.prog 162 #[.agg #[.slice a0 n0 c0, .slice a1 n1 c1], .int .i64 6, .int .i64 num, .slice a n c] w (SimR ds sg 6 num tys w) := by
  refine calls_k fun Q hQ => ?_
  have ht := (sigsOk_parts hok).1
  have hf := Few.of_ok ht
  have hn0 : n0 ≤ 4 := by have := (decls_at hp.1).1; have := typesOk_len ht; omega
  have K0 := Keep.al w (.cells #[.slice a0 n0 c0, .slice a1 n1 c1] 130)
  have R0 := rowOf w #[.slice a0 n0 c0, .slice a1 n1 c1] 130
  have HL := Lib.hid h.1
  have HOK := Lib.hid hok
  have HT := Lib.hid ht
  clear hok ht
  have V0 := Lib.hid (simple_6 ds sg num tys)
  have hct := typeOr_range (n := ds.length) (p := inDecl ds num)
  change conTypeL ds num = -1 ∨ isT ds.length (conTypeL ds num) = true at hct
  have hfo := (conFieldsL_ok HT.out num).1
  have hne0 : conTypeL ds num ≠ 0 := by
    intro h
    rcases hcx : conIx ds num with _ | i
    · rw [conTypeL, hcx] at h; simp [typeOr] at h
    · rw [conTypeL, hcx] at h; simp only [typeOr] at h; omega
  obtain ⟨ct, hc⟩ : ∃ ct, conTypeL ds num = ct := ⟨_, rfl⟩
  rw [hc] at hct hne0
  have HC := Lib.hid hc
  have HR := Lib.hid hct
  clear hc hct
  have h1 := h.ext K0 (fun _ _ h => h)
  by_cases h0 : 0 ≤ ct
  case neg =>
    have V : Hid (simpleL ds sg 6 num tys = -1) := by show _ = _; rw [V0.out, HC.out, if_neg (fun h => by omega)]
    go_enter Tryz.func162, Tryz.ntmps162
    go_wp2_with fail
    refine (implConAt _ _ _ ds _ _ _ (Rd.toDecls (hp.k K0).1) hf hx1 hx2).mono ?_
    rw [HC.out]
    rintro e w1 ⟨a', m, c', rfl, hmc, hi, p1⟩
    go_wp2_with fail
    exact fin_ hQ (simR_neg V.out ((K0.trans p1).trans (Keep.al _ _)))
  have hpos : 0 < ct := by omega
  cases hd : decide (tys = conFieldsL ds num)
  · have V : Hid (simpleL ds sg 6 num tys = -1) := by show _ = _; rw [V0.out, HC.out, if_neg (fun h => of_decide_eq_false hd h.2)]
    have HD := Lib.hid hd
    clear hd
    go_enter Tryz.func162, Tryz.ntmps162
    go_wp2_with fail
    refine (implConAt _ _ _ ds _ _ _ (Rd.toDecls (hp.k K0).1) hf hx1 hx2).mono ?_
    rw [HC.out]
    rintro e w1 ⟨a', m, c', rfl, hmc, hi, p1⟩
    have K2 := Lib.hid ((K0.trans p1).trans (Keep.al w1 (.cells #[.slice a' m c'] 155)))
    have h2 := Lib.hid (h1.ext (p1.trans (Keep.al w1 (.cells #[.slice a' m c'] 155))) (fun _ _ h => h))
    have hi2 := Lib.hid (hi.ext (p1.trans (Keep.al w1 (.cells #[.slice a' m c'] 155))) (fun _ _ h => h))
    have hml : m ≤ 3 := by have := hi.1; omega
    clear hi p1
    go_wp2_with fail
    refine (equalInts _ _ _ _ _ _ _ _ _ _ _ h2.out hi2.out (by omega) (by omega)).mono ?_
    rw [HD.out]
    rintro e w2 ⟨rfl, p2⟩
    go_wp2_with fail
    exact fin_ hQ (simR_neg V.out (K2.out.trans p2))
  · have V : Hid (simpleL ds sg 6 num tys = ct) := by show _ = _; rw [V0.out, HC.out, if_pos ⟨hpos, of_decide_eq_true hd⟩]
    have HD := Lib.hid hd
    clear hd
    go_enter Tryz.func162, Tryz.ntmps162
    go_wp2_with fail
    refine (implConAt _ _ _ ds _ _ _ (Rd.toDecls (hp.k K0).1) hf hx1 hx2).mono ?_
    rw [HC.out]
    rintro e w1 ⟨a', m, c', rfl, hmc, hi, p1⟩
    have K2 := Lib.hid ((K0.trans p1).trans (Keep.al w1 (.cells #[.slice a' m c'] 155)))
    have h2 := Lib.hid (h1.ext (p1.trans (Keep.al w1 (.cells #[.slice a' m c'] 155))) (fun _ _ h => h))
    have hi2 := Lib.hid (hi.ext (p1.trans (Keep.al w1 (.cells #[.slice a' m c'] 155))) (fun _ _ h => h))
    have hml : m ≤ 3 := by have := hi.1; omega
    clear hi p1
    go_wp2_with fail
    refine (equalInts _ _ _ _ _ _ _ _ _ _ _ h2.out hi2.out (by omega) (by omega)).mono ?_
    rw [HD.out]
    rintro e w2 ⟨rfl, p2⟩
    go_wp2_with fail
    exact fin_ hQ (simR_pos V.out h0 (K2.out.trans p2))

set_option maxRecDepth 100000 in
set_option maxHeartbeats 4000000 in
theorem implSim_other (op : Int) (hop : op < 0 ∨ 13 < op ∨ op = 7 ∨ op = 8 ∨ op = 12 ∨ op = 13) (num : Int) (tys : List Int) (D : Nat → Prop) (a0 : Option Addr) (n0 c0 : Nat) (a1 : Option Addr) (n1 c1 : Nat) (a : Option Addr) (n c : Nat) (E : Nat → Prop) (w : World) (hp : SR w D ds sg a0 n0 c0 a1 n1 c1) (h : IntsL w E a n tys) (hn : n ≤ 1049576) :
    Calls Tryz.prog 162 #[.agg #[.slice a0 n0 c0, .slice a1 n1 c1], .int .i64 op, .int .i64 num, .slice a n c] w (SimR ds sg op num tys w) := by
  refine calls_k fun Q hQ => ?_
  have ht := (sigsOk_parts hok).1
  have hf := Few.of_ok ht
  have hn0 : n0 ≤ 4 := by have := (decls_at hp.1).1; have := typesOk_len ht; omega
  have K0 := Keep.al w (.cells #[.slice a0 n0 c0, .slice a1 n1 c1] 130)
  have R0 := rowOf w #[.slice a0 n0 c0, .slice a1 n1 c1] 130
  have HL := Lib.hid h.1
  have HOK := Lib.hid hok
  have HT := Lib.hid ht
  clear hok ht
  have V : Hid (simpleL ds sg op num tys = -1) := by
    show _ = _
    rw [simpleL, if_neg (by omega), if_neg (by omega), if_neg (by omega), if_neg (by omega), if_neg (by omega), if_neg (by omega), if_neg (by omega)]
  have o0 : (op == 0) = false := by simp; omega
  have o1 : (op == 1) = false := by simp; omega
  have o2 : (op == 2) = false := by simp; omega
  have o3 : (op == 3) = false := by simp; omega
  have o4 : (op == 4) = false := by simp; omega
  have o5 : (op == 5) = false := by simp; omega
  have o6 : (op == 6) = false := by simp; omega
  have o9 : (op == 9) = false := by simp; omega
  have o10 : (op == 10) = false := by simp; omega
  have o11 : (op == 11) = false := by simp; omega
  clear hop
  have := hn
  go_enter Tryz.func162, Tryz.ntmps162
  go_wp2_with fail
  exact fin_ hQ (simR_neg V.out (K0))

set_option maxRecDepth 100000 in
set_option maxHeartbeats 4000000 in
theorem implSim_9 (num : Int) (tys : List Int) (D : Nat → Prop) (a0 : Option Addr) (n0 c0 : Nat) (a1 : Option Addr) (n1 c1 : Nat) (a : Option Addr) (n c : Nat) (E : Nat → Prop) (w : World) (hp : SR w D ds sg a0 n0 c0 a1 n1 c1) (h : IntsL w E a n tys) (hn : n ≤ 1049576) :
    Calls Tryz.prog 162 #[.agg #[.slice a0 n0 c0, .slice a1 n1 c1], .int .i64 9, .int .i64 num, .slice a n c] w (SimR ds sg 9 num tys w) := by
  refine calls_k fun Q hQ => ?_
  have ht := (sigsOk_parts hok).1
  have hf := Few.of_ok ht
  have hn0 : n0 ≤ 4 := by have := (decls_at hp.1).1; have := typesOk_len ht; omega
  have K0 := Keep.al w (.cells #[.slice a0 n0 c0, .slice a1 n1 c1] 130)
  have R0 := rowOf w #[.slice a0 n0 c0, .slice a1 n1 c1] 130
  have HL := Lib.hid h.1
  have HOK := Lib.hid hok
  have HT := Lib.hid ht
  clear hok ht
  obtain ⟨e1, hf1, hf2, hat⟩ := sigs_at hp.2
  have HN := Lib.hid e1
  have hn1 : n1 ≤ 4 := by have := (sigsOk_parts HOK.out).2.2.1; omega
  have h1 := h.ext K0 (fun _ _ h => h)
  by_cases hr : 0 ≤ num ∧ num < (n1 : Int)
  case neg =>
    have V := Lib.hid (simpleL_range (ds := ds) (sg := sg) (op := 9) (num := num) (tys := tys) (by omega) (by rw [HN.out]; exact hr))
    by_cases h2 : num < 0
    · clear hr
      go_enter Tryz.func162, Tryz.ntmps162
      go_wp2_with fail
      exact fin_ hQ (simR_neg V.out (K0))
    · have h3 : (n1 : Int) ≤ num := by omega
      clear hr
      go_enter Tryz.func162, Tryz.ntmps162
      go_wp2_with fail
      exact fin_ hQ (simR_neg V.out (K0))
  obtain ⟨k, rfl⟩ : ∃ k : Nat, num = (k : Int) := ⟨num.toNat, by omega⟩
  have hk : k < n1 := by omega
  have HKS : Hid (k < sg.length) := by have := HN.out; show _ < _; omega
  have HSO := Lib.hid (sigOk_parts ((sigsOk_parts HOK.out).2.2.2 k HKS.out))
  obtain ⟨b, o, rfl, _, ap, np, cp, al, nl, cl, d0, d1, d2, r0, r1⟩ := hat k hk
  obtain ⟨s, hs⟩ : ∃ s, sgAt sg k = s := ⟨_, rfl⟩
  rw [hs] at d2 r0 r1 HSO
  have HS := Lib.hid hs
  have g0 := (K0.cell (World.block_lt_of_cell? w _ d0) (fun h => h)).trans d0
  have g1 := (K0.cell (World.block_lt_of_cell? w _ d1) (fun h => h)).trans d1
  have g2 := (K0.cell (World.block_lt_of_cell? w _ d2) (fun h => h)).trans d2
  have HPL := Lib.hid (ints_at r0).1
  have hpl : np ≤ 3 := by have := HPL.out; have := HSO.out.1; omega
  have RR := Lib.hid (isT_iff.1 HSO.out.2.2.1)
  have qt := (Rd.toInts r0).ext K0 (fun _ _ h => h)
  clear d0 d1 d2 hs hr hat e1 r1
  have V0 := Lib.hid (simpleL_call (ds := ds) (sg := sg) (k := k) (tys := tys) HKS.out)
  rw [HS.out] at V0
  cases hd : decide (tys = s.params)
  · have V : Hid (simpleL ds sg 9 (k : Int) tys = -1) := by show _ = _; rw [V0.out, if_neg (of_decide_eq_false hd)]
    have HD := Lib.hid hd
    clear hd
    go_enter Tryz.func162, Tryz.ntmps162
    go_wp2_with fail
    go_quiet (fail)
    go_wp2_with fail
    refine (equalInts _ _ _ _ _ _ _ _ _ _ _ (h1.drewN _) (qt.drewN _) (by omega) (by omega)).mono ?_
    rw [HD.out]
    rintro e w1 ⟨rfl, p1⟩
    go_wp2_with fail
    exact fin_ hQ (simR_neg V.out ((K0.drewN _).trans p1))
  · have V : Hid (simpleL ds sg 9 (k : Int) tys = s.result) := by show _ = _; rw [V0.out, if_pos (of_decide_eq_true hd)]
    have HD := Lib.hid hd
    clear hd
    go_enter Tryz.func162, Tryz.ntmps162
    go_wp2_with fail
    go_quiet (fail)
    go_wp2_with fail
    refine (equalInts _ _ _ _ _ _ _ _ _ _ _ (h1.drewN _) (qt.drewN _) (by omega) (by omega)).mono ?_
    rw [HD.out]
    rintro e w1 ⟨rfl, p1⟩
    go_wp2_with fail
    exact fin_ hQ (simR_pos V.out RR.out.1 ((K0.drewN _).trans p1))

set_option maxRecDepth 100000 in
set_option maxHeartbeats 4000000 in
theorem implSim_10 (num : Int) (tys : List Int) (D : Nat → Prop) (a0 : Option Addr) (n0 c0 : Nat) (a1 : Option Addr) (n1 c1 : Nat) (a : Option Addr) (n c : Nat) (E : Nat → Prop) (w : World) (hp : SR w D ds sg a0 n0 c0 a1 n1 c1) (h : IntsL w E a n tys) (hn : n ≤ 1049576) :
    Calls Tryz.prog 162 #[.agg #[.slice a0 n0 c0, .slice a1 n1 c1], .int .i64 10, .int .i64 num, .slice a n c] w (SimR ds sg 10 num tys w) := by
  refine calls_k fun Q hQ => ?_
  have ht := (sigsOk_parts hok).1
  have hf := Few.of_ok ht
  have hn0 : n0 ≤ 4 := by have := (decls_at hp.1).1; have := typesOk_len ht; omega
  have K0 := Keep.al w (.cells #[.slice a0 n0 c0, .slice a1 n1 c1] 130)
  have R0 := rowOf w #[.slice a0 n0 c0, .slice a1 n1 c1] 130
  have HL := Lib.hid h.1
  have HOK := Lib.hid hok
  have HT := Lib.hid ht
  clear hok ht
  obtain ⟨e1, hf1, hf2, hat⟩ := sigs_at hp.2
  have HN := Lib.hid e1
  have hn1 : n1 ≤ 4 := by have := (sigsOk_parts HOK.out).2.2.1; omega
  have h1 := h.ext K0 (fun _ _ h => h)
  by_cases hr : 0 ≤ num ∧ num < (n1 : Int)
  case neg =>
    have V := Lib.hid (simpleL_range (ds := ds) (sg := sg) (op := 10) (num := num) (tys := tys) (by omega) (by rw [HN.out]; exact hr))
    by_cases h2 : num < 0
    · clear hr
      go_enter Tryz.func162, Tryz.ntmps162
      go_wp2_with fail
      exact fin_ hQ (simR_neg V.out (K0))
    · have h3 : (n1 : Int) ≤ num := by omega
      clear hr
      go_enter Tryz.func162, Tryz.ntmps162
      go_wp2_with fail
      exact fin_ hQ (simR_neg V.out (K0))
  obtain ⟨k, rfl⟩ : ∃ k : Nat, num = (k : Int) := ⟨num.toNat, by omega⟩
  have hk : k < n1 := by omega
  have HKS : Hid (k < sg.length) := by have := HN.out; show _ < _; omega
  have HSO := Lib.hid (sigOk_parts ((sigsOk_parts HOK.out).2.2.2 k HKS.out))
  obtain ⟨b, o, rfl, _, ap, np, cp, al, nl, cl, d0, d1, d2, r0, r1⟩ := hat k hk
  obtain ⟨s, hs⟩ : ∃ s, sgAt sg k = s := ⟨_, rfl⟩
  rw [hs] at d2 r0 r1 HSO
  have HS := Lib.hid hs
  have g0 := (K0.cell (World.block_lt_of_cell? w _ d0) (fun h => h)).trans d0
  have g1 := (K0.cell (World.block_lt_of_cell? w _ d1) (fun h => h)).trans d1
  have g2 := (K0.cell (World.block_lt_of_cell? w _ d2) (fun h => h)).trans d2
  have HPL := Lib.hid (ints_at r0).1
  have hpl : np ≤ 3 := by have := HPL.out; have := HSO.out.1; omega
  have RR := Lib.hid (isT_iff.1 HSO.out.2.2.1)
  have qt := (Rd.toInts r0).ext K0 (fun _ _ h => h)
  clear d0 d1 d2 hs hr hat e1 r1
  have V0 := Lib.hid (simpleL_close (ds := ds) (sg := sg) (k := k) (tys := tys) HKS.out)
  rw [HS.out] at V0
  rcases Nat.eq_zero_or_pos np with h0 | h0
  · subst h0
    have V : Hid (simpleL ds sg 10 (k : Int) tys = -1) := by show _ = _; rw [V0.out, if_neg (fun h => by have := HPL.out; omega)]
    go_enter Tryz.func162, Tryz.ntmps162
    go_wp2_with fail
    go_quiet (fail)
    go_wp2_with fail
    exact fin_ hQ (simR_neg V.out (K0.drewN _))
  obtain ⟨m, rfl⟩ : ∃ m, np = m + 1 := ⟨np - 1, by omega⟩
  obtain ⟨b2, o2, rfl, _, dm⟩ := (ints_at r0).2.2.2 m (by omega)
  have hcp : m + 1 ≤ cp := (ints_at r0).2.1
  have gm := (K0.cell (World.block_lt_of_cell? w _ dm) (fun h => h)).trans dm
  have qtk := qt.take (m := m) (by omega)
  have V1 : Hid (simpleL ds sg 10 (k : Int) tys = if tys = s.params.take m then arrowL ds (iAt s.params m) s.result else -1) := by
    show _ = _
    rw [V0.out, HPL.out]
    by_cases h : tys = s.params.take m
    · rw [if_pos ⟨by omega, h⟩, if_pos h]; rfl
    · rw [if_neg (fun h' => h h'.2), if_neg h]
  have hra := typeOr_range (n := ds.length) (p := isArrow ds (iAt s.params m) s.result)
  change arrowL ds _ _ = -1 ∨ isT ds.length (arrowL ds _ _) = true at hra
  obtain ⟨ar, har⟩ : ∃ ar, arrowL ds (iAt s.params m) s.result = ar := ⟨_, rfl⟩
  rw [har] at V1 hra
  have HAR := Lib.hid har
  have hra2 : ar = -1 ∨ 0 ≤ ar := by
    rcases hra with h | h
    · exact .inl h
    · exact .inr (isT_iff.1 h).1
  have HRA := Lib.hid hra2
  have hpk := Rd.toDecls (hp.k K0).1
  clear dm har hra hra2 V0
  have hw1 : IntKind.i64.wrap (m : Int) = (m : Int) := by rw [IntWalk.i64_in _ (by omega)]
  have hw2 : (0 : Int) ≤ (m : Int) := by omega
  have hw3 : (m : Int) < (m : Int) + 1 := by omega
  have hw4 : (m : Int) ≤ (cp : Int) := by omega
  by_cases ha : 0 ≤ ar
  case neg =>
    have V : Hid (simpleL ds sg 10 (k : Int) tys = -1) := by
      show _ = _
      rw [V1.out]
      split
      · rcases HRA.out with h | h
        · exact h
        · exact absurd h ha
      · rfl
    go_enter Tryz.func162, Tryz.ntmps162
    go_wp2_with fail
    go_quiet (fail)
    go_wp2_with fail
    generalize hW : World.drewN (w.alloc (.cells #[.slice a0 n0 c0, .slice (some ⟨b, o, none⟩) n1 c1] 130)) nq = W at *
    have KW : Keep w W := by rw [← hW]; exact K0.drewN nq
    have y0 : W.cell? ⟨w.heap.size, 0, none⟩ = some (.slice a0 n0 c0) := by rw [← hW]; simp
    have ym : W.cell? ⟨b2, o2 + m, none⟩ = some (.int .i64 (iAt s.params m)) := by rw [← hW]; exact gm
    have qd : DeclsR W.drew D a0 n0 ds := by rw [← hW]; exact (hpk.drewN nq).ext (S := fun _ => False) (Ext.refl (fun _ => False) _).drew (fun _ _ h => h)
    have q1 : IntsL W E a n tys := by rw [← hW]; exact h1.drewN nq
    have q2 : IntsL W D (some ⟨b2, o2, none⟩) m (s.params.take m) := by rw [← hW]; exact qtk.drewN nq
    clear hW gm h1 qtk hpk g0 g1 g2 qt
    have pc := Ext.refl0 W
    go_region_held3 (fun w' => w'.cell? ⟨w.heap.size, 0, none⟩ = some (.slice a0 n0 c0) ∧ w'.cell? ⟨b2, o2 + m, none⟩ = some (.int .i64 (iAt s.params m)))
      (first | exact ⟨Keep.at pc y0, Keep.at pc ym⟩ | go_keep)
      ((go_at_call 204; refine (implArrowOf0 _ _ _ ds _ _ _ _ qd (by omega)).mono ?_; rw [HAR.out]; rintro e w1 ⟨rfl, p1⟩; replace pc := Ext.trans pc p1))
    have KE := Lib.hid (KW.trans (Keep.dt pc))
    have q3 := Lib.hid (q1.ext (Keep.dt pc) (fun _ _ h => h))
    have q4 := Lib.hid (q2.ext (Keep.dt pc) (fun _ _ h => h))
    clear pc y0 ym qd q1 q2
    go_wp2_with fail
    exact fin_ hQ (simR_neg V.out (KE.out))
  cases hd : decide (tys = s.params.take m)
  · have V : Hid (simpleL ds sg 10 (k : Int) tys = -1) := by show _ = _; rw [V1.out, if_neg (of_decide_eq_false hd)]
    have HD := Lib.hid hd
    clear hd
    go_enter Tryz.func162, Tryz.ntmps162
    go_wp2_with fail
    go_quiet (fail)
    go_wp2_with fail
    generalize hW : World.drewN (w.alloc (.cells #[.slice a0 n0 c0, .slice (some ⟨b, o, none⟩) n1 c1] 130)) nq = W at *
    have KW : Keep w W := by rw [← hW]; exact K0.drewN nq
    have y0 : W.cell? ⟨w.heap.size, 0, none⟩ = some (.slice a0 n0 c0) := by rw [← hW]; simp
    have ym : W.cell? ⟨b2, o2 + m, none⟩ = some (.int .i64 (iAt s.params m)) := by rw [← hW]; exact gm
    have qd : DeclsR W.drew D a0 n0 ds := by rw [← hW]; exact (hpk.drewN nq).ext (S := fun _ => False) (Ext.refl (fun _ => False) _).drew (fun _ _ h => h)
    have q1 : IntsL W E a n tys := by rw [← hW]; exact h1.drewN nq
    have q2 : IntsL W D (some ⟨b2, o2, none⟩) m (s.params.take m) := by rw [← hW]; exact qtk.drewN nq
    clear hW gm h1 qtk hpk g0 g1 g2 qt
    have pc := Ext.refl0 W
    go_region_held3 (fun w' => w'.cell? ⟨w.heap.size, 0, none⟩ = some (.slice a0 n0 c0) ∧ w'.cell? ⟨b2, o2 + m, none⟩ = some (.int .i64 (iAt s.params m)))
      (first | exact ⟨Keep.at pc y0, Keep.at pc ym⟩ | go_keep)
      ((go_at_call 204; refine (implArrowOf0 _ _ _ ds _ _ _ _ qd (by omega)).mono ?_; rw [HAR.out]; rintro e w1 ⟨rfl, p1⟩; replace pc := Ext.trans pc p1))
    have KE := Lib.hid (KW.trans (Keep.dt pc))
    have q3 := Lib.hid (q1.ext (Keep.dt pc) (fun _ _ h => h))
    have q4 := Lib.hid (q2.ext (Keep.dt pc) (fun _ _ h => h))
    clear pc y0 ym qd q1 q2
    go_wp2_with fail
    refine (equalInts _ _ _ _ _ _ _ _ _ _ _ q3.out q4.out (by omega) (by omega)).mono ?_
    rw [HD.out]
    rintro e w2 ⟨rfl, p2⟩
    go_wp2_with fail
    exact fin_ hQ (simR_neg V.out (KE.out.trans p2))
  · have V : Hid (simpleL ds sg 10 (k : Int) tys = ar) := by show _ = _; rw [V1.out, if_pos (of_decide_eq_true hd)]
    have HD := Lib.hid hd
    clear hd
    go_enter Tryz.func162, Tryz.ntmps162
    go_wp2_with fail
    go_quiet (fail)
    go_wp2_with fail
    generalize hW : World.drewN (w.alloc (.cells #[.slice a0 n0 c0, .slice (some ⟨b, o, none⟩) n1 c1] 130)) nq = W at *
    have KW : Keep w W := by rw [← hW]; exact K0.drewN nq
    have y0 : W.cell? ⟨w.heap.size, 0, none⟩ = some (.slice a0 n0 c0) := by rw [← hW]; simp
    have ym : W.cell? ⟨b2, o2 + m, none⟩ = some (.int .i64 (iAt s.params m)) := by rw [← hW]; exact gm
    have qd : DeclsR W.drew D a0 n0 ds := by rw [← hW]; exact (hpk.drewN nq).ext (S := fun _ => False) (Ext.refl (fun _ => False) _).drew (fun _ _ h => h)
    have q1 : IntsL W E a n tys := by rw [← hW]; exact h1.drewN nq
    have q2 : IntsL W D (some ⟨b2, o2, none⟩) m (s.params.take m) := by rw [← hW]; exact qtk.drewN nq
    clear hW gm h1 qtk hpk g0 g1 g2 qt
    have pc := Ext.refl0 W
    go_region_held3 (fun w' => w'.cell? ⟨w.heap.size, 0, none⟩ = some (.slice a0 n0 c0) ∧ w'.cell? ⟨b2, o2 + m, none⟩ = some (.int .i64 (iAt s.params m)))
      (first | exact ⟨Keep.at pc y0, Keep.at pc ym⟩ | go_keep)
      ((go_at_call 204; refine (implArrowOf0 _ _ _ ds _ _ _ _ qd (by omega)).mono ?_; rw [HAR.out]; rintro e w1 ⟨rfl, p1⟩; replace pc := Ext.trans pc p1))
    have KE := Lib.hid (KW.trans (Keep.dt pc))
    have q3 := Lib.hid (q1.ext (Keep.dt pc) (fun _ _ h => h))
    have q4 := Lib.hid (q2.ext (Keep.dt pc) (fun _ _ h => h))
    clear pc y0 ym qd q1 q2
    go_wp2_with fail
    refine (equalInts _ _ _ _ _ _ _ _ _ _ _ q3.out q4.out (by omega) (by omega)).mono ?_
    rw [HD.out]
    rintro e w2 ⟨rfl, p2⟩
    go_wp2_with fail
    exact fin_ hQ (simR_pos V.out ha (KE.out.trans p2))

end
end Go.Proofs.YtkapldpmjkdmcaaGreat
/- append as one step of a region that draws; rows of the call's own that grow by one element. -/
namespace Go.Proofs.YtkapldpmjkdmcaaGreat
open Go.RowKit

theorem Acc.bound {w : World} {base : Nat} {D : Nat → Prop} {T : TypeId} {s : Nat} {v : Value} {rows : List (List Dat)} (h : Acc w base D T s v rows) : ∀ k, v.ownBlock = some k → base ≤ k ∧ k < w.heap.size := by
  obtain ⟨xs, E, h1, _⟩ := h
  exact h1.lt
end Go.Proofs.YtkapldpmjkdmcaaGreat
/- append of one element of the call's own, told by what the element holds: as a step of a region that draws, and plain. -/
namespace Go.Proofs.YtkapldpmjkdmcaaGreat
open Go.RowKit

theorem Acc.lt {w : World} {base : Nat} {D : Nat → Prop} {T : TypeId} {s : Nat} {v : Value} {rows : List (List Dat)} (h : Acc w base D T s v rows) : Acc w base (fun k => D k ∧ k < w.heap.size) T s v rows := by
  obtain ⟨xs, E, h1, h2, h3, h4, h5⟩ := h
  exact ⟨xs, E, h1, h2, fun i j k hi hj hk => ⟨⟨(h3 i j k hi hj hk).1, (h3 i j k hi hj hk).2.1⟩, (h3 i j k hi hj hk).2⟩, h4, h5⟩

theorem ToS.cons {lo m hi : Nat} {w : World} {d : Dat} {ds2 : List Dat} {u : Value} {us2 : List Value} (h : ToS lo m w [d] [u]) (h2 : ToS m hi w ds2 us2) (hlo : lo ≤ m) (hhi : m ≤ hi) : ToS lo hi w (d :: ds2) (u :: us2) := h.app h2 hlo hhi
theorem ToS.consI {lo hi : Nat} {w : World} {z : Int} {ds2 : List Dat} {us2 : List Value} (h2 : ToS lo hi w ds2 us2) (hhi : lo ≤ hi) : ToS lo hi w (.num z :: ds2) (.int .i64 z :: us2) := (ToS.int lo lo w z).app h2 (Nat.le_refl _) hhi
/-- What a slice of the call's own holds, between two worlds. -/
theorem ToS.one {lo hi : Nat} {w : World} {D : Nat → Prop} {d : Dat} {u : Value} (h : Own w D d u) (hD : ∀ k, D k → k < w.heap.size → lo ≤ k ∧ k < hi) : ToS lo hi w [d] [u] := by
  refine ⟨fun i k => i = 0 ∧ lo ≤ k ∧ k < hi, fun i k hk => hk.2, fun i i' k hk hk' => by omega, rfl, fun i hi => ?_⟩
  obtain rfl : i = 0 := by simpa using hi
  exact ⟨u, rfl, h.lt.mono (fun k hk => ⟨rfl, hD k hk.1 hk.2⟩)⟩

end Go.Proofs.YtkapldpmjkdmcaaGreat
/- append of an integer to a row that others still read: what the row held is there again when the longer one is given up. -/
namespace Go.Proofs.YtkapldpmjkdmcaaGreat
open Go.RowKit

/-- v holds xs in a row of its own, from base on. -/
def VR (w : World) (base : Nat) (v : Value) (xs : List Int) : Prop := w.ownsRow base 3 1 v xs.length (xs.map (Value.int .i64))
theorem VR.ext {S : Nat → Prop} {w w' : World} {base : Nat} {v : Value} {xs : List Int} (h : VR w base v xs) (hx : Ext S w w') (hs : ∀ g, v.ownBlock = some g → ¬ S g) : VR w' base v xs := by
  obtain ⟨h1, h2⟩ := h
  refine ⟨h1, ?_⟩
  rcases h2 with h2 | ⟨g, cap, cur, e, hb, hg, rest⟩
  · exact .inl h2
  · exact .inr ⟨g, cap, cur, e, hb, (hx.block g (Array.getElem?_eq_some_iff.1 hg).1 (hs g (by rw [e]; rfl))).trans hg, rest⟩
theorem VR.k {w w' : World} {base : Nat} {v : Value} {xs : List Int} (h : VR w base v xs) (hx : Keep w w') : VR w' base v xs := h.ext hx (fun _ _ h => h)
theorem VR.lt {w : World} {base : Nat} {v : Value} {xs : List Int} (h : VR w base v xs) : ∀ k, v.ownBlock = some k → base ≤ k ∧ k < w.heap.size := World.ownsRow.lt h
theorem VR.slice {w : World} {base : Nat} {v : Value} {xs : List Int} (h : VR w base v xs) : ∃ a c, v = .slice a xs.length c ∧ xs.length ≤ c ∧ OwnInts w (fun k => v.ownBlock = some k) a xs.length xs := by
  have h0 := h
  obtain ⟨h1, h2⟩ := h
  obtain ⟨a, c, e, hc, ho⟩ := own_of_row h0
  refine ⟨a, c, e, hc, ho.1, fun hn => ?_⟩
  obtain ⟨b, N, f, ea, hd, q1, q2, q3⟩ := ho.2 hn
  exact ⟨b, N, f, ea, by rw [e, ea]; rfl, q1, q2, q3⟩

/-- What an append of y to v leaves. -/
structure AppV (w : World) (base : Nat) (v : Value) (xs : List Int) (y : Int) (v' : Value) (w' : World) : Prop where
  row : VR w' base v' (xs ++ [y])
  ext : Ext (fun r => v.ownBlock = some r) w w'
  old : VR w' base v xs
  back : ∀ w'', Ext (fun r => v'.ownBlock = some r) w' w'' → VR w'' base v' (xs ++ [y]) → VR w'' base v xs
  blk : ∀ r, v'.ownBlock = some r → v.ownBlock = some r ∨ w.heap.size ≤ r

theorem run_appV (w : World) (ty : TypeId) (base : Nat) (v : Value) (xs : List Int) (hown : VR w base v xs) (g c : Nat) (y : Int) (hc : w.cell? ⟨g, 0, none⟩ = some (.int .i64 y)) (hn : xs.length ≤ 4000000) (hbase : base ≤ w.heap.size) :
    ∃ v' w', (Builtin.append_ #[52, 52] ty #[v, .slice (some ⟨g, 0, none⟩) 1 c]).run Tryz.prog w = .ok v' w' ∧ AppV w base v xs y v' w' := by
  obtain ⟨i, hi, hzz⟩ := Option.map_eq_some_iff.1 (show (Tryz.prog.info? 3).map (fun i => (i.zero, i.size, i.bytes)) = some (some (.int .i64 0), 1, 8) by kernel_rfl)
  simp only [Prod.mk.injEq] at hzz
  obtain ⟨hz, hsize, hby⟩ := hzz
  have hnews : ∀ (j : Nat) (u : Value), [Value.int .i64 y][j]? = some u → w.cell? ((⟨g, 0, none⟩ : Addr).add j) = some u := by
    intro j u hj
    rcases j with _ | j
    · simp at hj; subst hj; simpa [Addr.add] using hc
    · simp at hj
  have hone : ∀ u ∈ [Value.int .i64 y], u.oneCell' = true := by simp [Value.oneCell']
  rcases hown.2 with ⟨rfl, h0⟩ | ⟨gg, cap, cur, rfl, hb, hg, hnc, hcm, hsz, htake⟩
  · have hx : xs = [] := List.eq_nil_of_length_eq_zero h0
    subst hx
    obtain ⟨v', w', hrun, h2, h3, h4⟩ := run_append_c (P := Tryz.prog) w base 52 ty 3 i (.int .i64 0) 1 8 Tryz.underlying52 hi hz hsize hby rfl (by omega) (.slice none 0 0) 0 [] (World.ownsRow_nil _ _ _ _) (some ⟨g, 0, none⟩) 1 c [.int .i64 y]
      ⟨rfl, fun _ => ⟨g, 0, rfl, fun j u hj => by rw [Nat.zero_add]; have := hnews j u hj; rwa [Addr.add_lit, Nat.zero_add] at this⟩⟩ hone (by simp [maxLen]) (by omega) hbase
    exact ⟨v', w', hrun, by simpa [VR] using h2, ⟨h3.os, h3.tape, h3.output, h3.size, fun k hk hn => h3.block k hk (fun e => hn e.symm)⟩, World.ownsRow_nil _ _ _ _, fun _ _ _ => World.ownsRow_nil _ _ _ _, fun r hr => by
      rcases h4 with h4 | h4
      · rw [h4] at hr; cases hr
      · rw [h4] at hr; injection hr with hr; right; omega⟩
  · rw [Nat.mul_one] at hsz htake
    by_cases hroom : xs.length + 1 ≤ cap
    · have hrun := run_append_room (P := Tryz.prog) w 52 ty 3 i Tryz.underlying52 hi gg xs.length cap cur hg ⟨g, 0, none⟩ 1 c [.int .i64 y] (by rw [hsize]; rfl) hnews hone hroom (by rw [hsize]; simp; omega)
      rw [hsize, Nat.mul_one] at hrun
      have hlt : gg < w.heap.size := (Array.getElem?_eq_some_iff.1 hg).1
      have hclen : cur.toList.length = cap := by simpa using hsz
      generalize hC : (cur.toList.take xs.length ++ [Value.int .i64 y] ++ cur.toList.drop (xs.length + [Value.int .i64 y].length)).toArray = C at hrun
      have hCs : C.size = cap := by rw [← hC]; simp; omega
      have hCt : C.toList.take (xs.length + 1) = (xs ++ [y]).map (Value.int .i64) := by
        rw [← hC, htake, List.map_append]
        rw [List.take_append_of_le_length (by simp)]
        rw [List.take_of_length_le (by simp)]
        rfl
      have hX : Ext (fun r => r = gg) w (w.setRow gg C) := ⟨rfl, rfl, rfl, by simp [World.setRow], fun k hk hne => setRow_other w gg k C (fun e => hne e)⟩
      have hg2 : (w.setRow gg C).heap[gg]? = some (.cells C 3 (0, 0)) := by simp [World.setRow, Array.getElem?_modify, hg]
      refine ⟨_, _, hrun, ⟨by simp, .inr ⟨gg, cap, C, by simp, hb, hg2, by simpa using hroom, hcm, by omega, by rw [Nat.mul_one]; simpa using hCt⟩⟩, hX.mono (fun r _ hr => by rw [hr]; rfl), ?_, ?_, fun r hr => .inl hr⟩
      · refine ⟨by simp, .inr ⟨gg, cap, C, rfl, hb, hg2, hnc, hcm, by omega, ?_⟩⟩
        have := congrArg (List.take xs.length) hCt
        rw [List.take_take, Nat.min_eq_left (by omega), List.map_append, List.take_left' (by simp)] at this
        rw [Nat.mul_one]; exact this
      · rintro w'' hx ⟨_, h2⟩
        rcases h2 with ⟨e, _⟩ | ⟨g', cap', cur', e, hb', hg', _, _, hsz', htake'⟩
        · cases e
        · injection e with e1 _ e3
          injection e1 with e1
          injection e1 with e1
          subst e1 e3
          refine ⟨by simp, .inr ⟨gg, cap, cur', rfl, hb, hg', hnc, hcm, hsz', ?_⟩⟩
          have := congrArg (List.take xs.length) htake'
          rw [Nat.mul_one, List.take_take, List.length_append, Nat.min_eq_left (by simp), List.map_append, List.take_left' (by simp)] at this
          rw [Nat.mul_one]; exact this
    · obtain ⟨v', w', hrun, h2, h3⟩ := run_append_arg_grows (P := Tryz.prog) w 52 ty 3 i (.int .i64 0) 1 8 Tryz.underlying52 hi hz hsize hby rfl (by omega) ⟨gg, 0, none⟩ xs.length cap (xs.map (Value.int .i64)) (by simp) (fun j u hj => by
          rw [Addr.add_lit, Nat.zero_add, cell_of_row _ gg j cur 3 (0, 0) hg]
          have hj' : j < xs.length := by
            rcases Nat.lt_or_ge j xs.length with h | h
            · exact h
            · rw [List.getElem?_eq_none (by simpa using h)] at hj; cases hj
          rw [← htake, List.getElem?_take, if_pos hj', Array.getElem?_toList] at hj
          exact hj) ⟨g, 0, none⟩ 1 c [.int .i64 y] rfl hnews (by omega) (by simp [maxLen]; omega) (by omega)
      have hk : Keep w w' := ⟨h3.os, h3.tape, h3.output, h3.size, fun k hk _ => h3.block k hk (by simp)⟩
      have hold : VR w' base (.slice (some ⟨gg, 0, none⟩) xs.length cap) xs := hown.k hk
      have hrow : VR w' w.heap.size v' (xs ++ [y]) := by simpa [VR] using h2
      refine ⟨v', w', hrun, ?_, Keep.to hk, hold, fun w'' hx _ => hold.ext hx (fun q hq hq' => ?_), fun r hr => .inr (hrow.lt r hr).1⟩
      · obtain ⟨q1, q2⟩ := hrow
        refine ⟨q1, ?_⟩
        rcases q2 with q2 | ⟨g', cap', cur', e, hb', rest⟩
        · exact .inl q2
        · exact .inr ⟨g', cap', cur', e, Nat.le_trans hbase hb', rest⟩
      · have h1 := (hown.lt q hq).2
        have h2 := (hrow.lt q hq').1
        omega
/-- The same as one step of a region that draws. -/
theorem step_appV {ops : Array Oper} {o : Oper} {a : Act} {w : World} {K : Act → World → Prop} {Q : Exit → Act → World → Prop} {E : Prop} (hgd : o.guard = none) (s x : Operand)
    (ho : o.op = .call { callee := .builtin .append, args := #[s, x], argTypes := #[52, 52] })
    (base : Nat) (v : Value) (xs : List Int) (hs : a.eval s = v) (hown : VR w base v xs) (g c : Nat) (y : Int) (hx : a.eval x = .slice (some ⟨g, 0, none⟩) 1 c) (hc : w.cell? ⟨g, 0, none⟩ = some (.int .i64 y)) (hn : xs.length ≤ 4000000) (hbase : base ≤ w.heap.size)
    (h : ∀ v' w', AppV w base v xs y v' w' → K (a.put o.dst v') w') :
    if Region.wanted o (yielded ops a.tmps) = true then Oper.wp Tryz.prog o a w K Q else E := by
  have hw : Region.wanted o (yielded ops a.tmps) = true := by simp [Region.wanted, hgd]
  rw [if_pos hw]
  obtain ⟨v', w', hrun, h1⟩ := run_appV w o.type base v xs hown g c y hc hn hbase
  unfold Oper.wp
  simp [execOp, ho, resolve, invoke, builtin, hs, hx, hrun, Result.andThen]
  exact h v' w' h1
end Go.Proofs.YtkapldpmjkdmcaaGreat
