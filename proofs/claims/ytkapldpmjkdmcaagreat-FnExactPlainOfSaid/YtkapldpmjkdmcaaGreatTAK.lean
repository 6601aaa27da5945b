/- The program's types of expressions: operations that neither bind nor choose. -/
import Derived.Test.YtkapldpmjkdmcaaGreatTAJ
import Derived.Test.YtkapldpmjkdmcaaGreatTAC
import Derived.Test.YtkapldpmjkdmcaaGreatShelf
import Derived.Test.YtkapldpmjkdmcaaGreatTAB
import Derived.Test.YtkapldpmjkdmcaaGreatTAE
namespace Go.Proofs.YtkapldpmjkdmcaaGreat
open Go.RowKit

theorem simR_neg {ds : List DeclL} {sg : List SigL} {op num : Int} {tys : List Int} {w w' : World} {t : Int} (h : simpleL ds sg op num tys = -1) (k : Keep w w') : SimR ds sg op num tys w (.returned (.tuple #[.int .i64 t, .bool false])) w' :=
  ⟨t, false, rfl, by rw [h]; rfl, (fun h => by cases h), k⟩
theorem simR_pos {ds : List DeclL} {sg : List SigL} {op num : Int} {tys : List Int} {w w' : World} {t : Int} (h : simpleL ds sg op num tys = t) (h0 : 0 ≤ t) (k : Keep w w') : SimR ds sg op num tys w (.returned (.tuple #[.int .i64 t, .bool true])) w' :=
  ⟨t, true, rfl, by rw [h]; exact (decide_eq_true h0).symm, fun _ => h.symm, k⟩

section
variable (ds : List DeclL) (sg : List SigL) (hok : sigsOk ds sg = true)
include hok

set_option maxRecDepth 100000 in
set_option maxHeartbeats 4000000 in
theorem implSim_0 (num : Int) (tys : List Int) (D : Nat → Prop) (a0 : Option Addr) (n0 c0 : Nat) (a1 : Option Addr) (n1 c1 : Nat) (a : Option Addr) (n c : Nat) (E : Nat → Prop) (w : World) (hp : SR w D ds sg a0 n0 c0 a1 n1 c1) (h : IntsL w E a n tys) (hn : n ≤ 1049576) :
    Calls Tryz.prog 162 #[.agg #[.slice a0 n0 c0, .slice a1 n1 c1], .int .i64 0, .int .i64 num, .slice a n c] w (SimR ds sg 0 num tys w) := by
  refine calls_k fun Q hQ => ?_
  have ht := (sigsOk_parts hok).1
  have hf := Few.of_ok ht
  have hn0 : n0 ≤ 4 := by have := (decls_at hp.1).1; have := typesOk_len ht; omega
  have K0 := Keep.al w (.cells #[.slice a0 n0 c0, .slice a1 n1 c1] 130)
  have R0 := rowOf w #[.slice a0 n0 c0, .slice a1 n1 c1] 130
  have HL := Lib.hid h.1
  have HOK := Lib.hid hok
  have HT := Lib.hid ht
  clear hok ht
  have V0 := Lib.hid (simple_0 ds sg num tys)
  by_cases h1 : -999 ≤ num
  case neg =>
    have V : Hid (simpleL ds sg 0 num tys = -1) := by show _ = _; rw [V0.out, if_neg (fun h => h1 h.2.1)]
    go_enter Tryz.func162, Tryz.ntmps162
    go_wp2_with fail
    exact fin_ hQ (simR_neg V.out (K0))
  by_cases h2 : num ≤ 999
  case neg =>
    have V : Hid (simpleL ds sg 0 num tys = -1) := by show _ = _; rw [V0.out, if_neg (fun h => h2 h.2.2)]
    go_enter Tryz.func162, Tryz.ntmps162
    go_wp2_with fail
    exact fin_ hQ (simR_neg V.out (K0))
  rcases Nat.eq_zero_or_pos n with h0 | h0
  · subst h0
    have V : Hid (simpleL ds sg 0 num tys = 0) := by show _ = _; rw [V0.out, if_pos ⟨List.eq_nil_of_length_eq_zero HL.out, h1, h2⟩]
    go_enter Tryz.func162, Tryz.ntmps162
    go_wp2_with fail
    exact fin_ hQ (simR_pos V.out (by omega) (K0))
  · have V : Hid (simpleL ds sg 0 num tys = -1) := by show _ = _; rw [V0.out, if_neg (fun h => by have h1 := HL.out; rw [h.1] at h1; simp at h1; omega)]
    have hz : ((n : Int) == 0) = false := by simp; omega
    go_enter Tryz.func162, Tryz.ntmps162
    go_wp2_with fail
    exact fin_ hQ (simR_neg V.out (K0))

set_option maxRecDepth 100000 in
set_option maxHeartbeats 4000000 in
theorem implSim_1 (num : Int) (tys : List Int) (D : Nat → Prop) (a0 : Option Addr) (n0 c0 : Nat) (a1 : Option Addr) (n1 c1 : Nat) (a : Option Addr) (n c : Nat) (E : Nat → Prop) (w : World) (hp : SR w D ds sg a0 n0 c0 a1 n1 c1) (h : IntsL w E a n tys) (hn : n ≤ 1049576) :
    Calls Tryz.prog 162 #[.agg #[.slice a0 n0 c0, .slice a1 n1 c1], .int .i64 1, .int .i64 num, .slice a n c] w (SimR ds sg 1 num tys w) := by
  refine calls_k fun Q hQ => ?_
  have ht := (sigsOk_parts hok).1
  have hf := Few.of_ok ht
  have hn0 : n0 ≤ 4 := by have := (decls_at hp.1).1; have := typesOk_len ht; omega
  have K0 := Keep.al w (.cells #[.slice a0 n0 c0, .slice a1 n1 c1] 130)
  have R0 := rowOf w #[.slice a0 n0 c0, .slice a1 n1 c1] 130
  have HL := Lib.hid h.1
  have HOK := Lib.hid hok
  have HT := Lib.hid ht
  clear hok ht
  have V0 := Lib.hid (simple_bin ds sg (op := 1) num tys (by omega))
  have K1 := K0.trans (Keep.al _ (.cells #[.int .i64 0, .int .i64 0] 3))
  by_cases hz : num = 0
  case neg =>
    have V : Hid (simpleL ds sg 1 num tys = -1) := by show _ = _; rw [V0.out, if_neg (fun h => hz h.1)]
    have hz' : (num == 0) = false := by simpa using hz
    clear hz
    go_enter Tryz.func162, Tryz.ntmps162
    go_wp2_with fail
    exact fin_ hQ (simR_neg V.out (K1))
  subst hz
  have il := Rd.toInts (lit_ints (w.alloc (.cells #[.slice a0 n0 c0, .slice a1 n1 c1] 130)) 0 3 [0, 0] #[.int .i64 0, .int .i64 0] 2 (Nat.zero_le _) rfl rfl (by omega)).t
  simp only [World.size_alloc] at il
  have h1 := h.ext K1 (fun _ _ h => h)
  cases hd : decide (tys = [0, 0])
  · have V : Hid (simpleL ds sg 1 0 tys = -1) := by show _ = _; rw [V0.out, if_neg (fun h => of_decide_eq_false hd h.2)]
    have HD := Lib.hid hd
    clear hd
    go_enter Tryz.func162, Tryz.ntmps162
    go_wp2_with fail
    refine (equalInts _ _ _ _ _ _ _ _ _ _ _ h1 il (by omega) (by omega)).mono ?_
    rw [HD.out]
    rintro e w1 ⟨rfl, p1⟩
    go_wp2_with fail
    exact fin_ hQ (simR_neg V.out (K1.trans p1))
  · have V : Hid (simpleL ds sg 1 0 tys = 0) := by show _ = _; rw [V0.out, if_pos ⟨rfl, of_decide_eq_true hd⟩]
    have HD := Lib.hid hd
    clear hd
    go_enter Tryz.func162, Tryz.ntmps162
    go_wp2_with fail
    refine (equalInts _ _ _ _ _ _ _ _ _ _ _ h1 il (by omega) (by omega)).mono ?_
    rw [HD.out]
    rintro e w1 ⟨rfl, p1⟩
    go_wp2_with fail
    exact fin_ hQ (simR_pos V.out (by omega) (K1.trans p1))

set_option maxRecDepth 100000 in
set_option maxHeartbeats 4000000 in
theorem implSim_2 (num : Int) (tys : List Int) (D : Nat → Prop) (a0 : Option Addr) (n0 c0 : Nat) (a1 : Option Addr) (n1 c1 : Nat) (a : Option Addr) (n c : Nat) (E : Nat → Prop) (w : World) (hp : SR w D ds sg a0 n0 c0 a1 n1 c1) (h : IntsL w E a n tys) (hn : n ≤ 1049576) :
    Calls Tryz.prog 162 #[.agg #[.slice a0 n0 c0, .slice a1 n1 c1], .int .i64 2, .int .i64 num, .slice a n c] w (SimR ds sg 2 num tys w) := by
  refine calls_k fun Q hQ => ?_
  have ht := (sigsOk_parts hok).1
  have hf := Few.of_ok ht
  have hn0 : n0 ≤ 4 := by have := (decls_at hp.1).1; have := typesOk_len ht; omega
  have K0 := Keep.al w (.cells #[.slice a0 n0 c0, .slice a1 n1 c1] 130)
  have R0 := rowOf w #[.slice a0 n0 c0, .slice a1 n1 c1] 130
  have HL := Lib.hid h.1
  have HOK := Lib.hid hok
  have HT := Lib.hid ht
  clear hok ht
  have V0 := Lib.hid (simple_bin ds sg (op := 2) num tys (by omega))
  have K1 := K0.trans (Keep.al _ (.cells #[.int .i64 0, .int .i64 0] 3))
  by_cases hz : num = 0
  case neg =>
    have V : Hid (simpleL ds sg 2 num tys = -1) := by show _ = _; rw [V0.out, if_neg (fun h => hz h.1)]
    have hz' : (num == 0) = false := by simpa using hz
    clear hz
    go_enter Tryz.func162, Tryz.ntmps162
    go_wp2_with fail
    exact fin_ hQ (simR_neg V.out (K1))
  subst hz
  have il := Rd.toInts (lit_ints (w.alloc (.cells #[.slice a0 n0 c0, .slice a1 n1 c1] 130)) 0 3 [0, 0] #[.int .i64 0, .int .i64 0] 2 (Nat.zero_le _) rfl rfl (by omega)).t
  simp only [World.size_alloc] at il
  have h1 := h.ext K1 (fun _ _ h => h)
  cases hd : decide (tys = [0, 0])
  · have V : Hid (simpleL ds sg 2 0 tys = -1) := by show _ = _; rw [V0.out, if_neg (fun h => of_decide_eq_false hd h.2)]
    have HD := Lib.hid hd
    clear hd
    go_enter Tryz.func162, Tryz.ntmps162
    go_wp2_with fail
    refine (equalInts _ _ _ _ _ _ _ _ _ _ _ h1 il (by omega) (by omega)).mono ?_
    rw [HD.out]
    rintro e w1 ⟨rfl, p1⟩
    go_wp2_with fail
    exact fin_ hQ (simR_neg V.out (K1.trans p1))
  · have V : Hid (simpleL ds sg 2 0 tys = 0) := by show _ = _; rw [V0.out, if_pos ⟨rfl, of_decide_eq_true hd⟩]
    have HD := Lib.hid hd
    clear hd
    go_enter Tryz.func162, Tryz.ntmps162
    go_wp2_with fail
    refine (equalInts _ _ _ _ _ _ _ _ _ _ _ h1 il (by omega) (by omega)).mono ?_
    rw [HD.out]
    rintro e w1 ⟨rfl, p1⟩
    go_wp2_with fail
    exact fin_ hQ (simR_pos V.out (by omega) (K1.trans p1))

set_option maxRecDepth 100000 in
set_option maxHeartbeats 4000000 in
theorem implSim_3 (num : Int) (tys : List Int) (D : Nat → Prop) (a0 : Option Addr) (n0 c0 : Nat) (a1 : Option Addr) (n1 c1 : Nat) (a : Option Addr) (n c : Nat) (E : Nat → Prop) (w : World) (hp : SR w D ds sg a0 n0 c0 a1 n1 c1) (h : IntsL w E a n tys) (hn : n ≤ 1049576) :
    Calls Tryz.prog 162 #[.agg #[.slice a0 n0 c0, .slice a1 n1 c1], .int .i64 3, .int .i64 num, .slice a n c] w (SimR ds sg 3 num tys w) := by
  refine calls_k fun Q hQ => ?_
  have ht := (sigsOk_parts hok).1
  have hf := Few.of_ok ht
  have hn0 : n0 ≤ 4 := by have := (decls_at hp.1).1; have := typesOk_len ht; omega
  have K0 := Keep.al w (.cells #[.slice a0 n0 c0, .slice a1 n1 c1] 130)
  have R0 := rowOf w #[.slice a0 n0 c0, .slice a1 n1 c1] 130
  have HL := Lib.hid h.1
  have HOK := Lib.hid hok
  have HT := Lib.hid ht
  clear hok ht
  have V0 := Lib.hid (simple_bin ds sg (op := 3) num tys (by omega))
  have K1 := K0.trans (Keep.al _ (.cells #[.int .i64 0, .int .i64 0] 3))
  by_cases hz : num = 0
  case neg =>
    have V : Hid (simpleL ds sg 3 num tys = -1) := by show _ = _; rw [V0.out, if_neg (fun h => hz h.1)]
    have hz' : (num == 0) = false := by simpa using hz
    clear hz
    go_enter Tryz.func162, Tryz.ntmps162
    go_wp2_with fail
    exact fin_ hQ (simR_neg V.out (K1))
  subst hz
  have il := Rd.toInts (lit_ints (w.alloc (.cells #[.slice a0 n0 c0, .slice a1 n1 c1] 130)) 0 3 [0, 0] #[.int .i64 0, .int .i64 0] 2 (Nat.zero_le _) rfl rfl (by omega)).t
  simp only [World.size_alloc] at il
  have h1 := h.ext K1 (fun _ _ h => h)
  cases hd : decide (tys = [0, 0])
  · have V : Hid (simpleL ds sg 3 0 tys = -1) := by show _ = _; rw [V0.out, if_neg (fun h => of_decide_eq_false hd h.2)]
    have HD := Lib.hid hd
    clear hd
    go_enter Tryz.func162, Tryz.ntmps162
    go_wp2_with fail
    refine (equalInts _ _ _ _ _ _ _ _ _ _ _ h1 il (by omega) (by omega)).mono ?_
    rw [HD.out]
    rintro e w1 ⟨rfl, p1⟩
    go_wp2_with fail
    exact fin_ hQ (simR_neg V.out (K1.trans p1))
  · have V : Hid (simpleL ds sg 3 0 tys = 0) := by show _ = _; rw [V0.out, if_pos ⟨rfl, of_decide_eq_true hd⟩]
    have HD := Lib.hid hd
    clear hd
    go_enter Tryz.func162, Tryz.ntmps162
    go_wp2_with fail
    refine (equalInts _ _ _ _ _ _ _ _ _ _ _ h1 il (by omega) (by omega)).mono ?_
    rw [HD.out]
    rintro e w1 ⟨rfl, p1⟩
    go_wp2_with fail
    exact fin_ hQ (simR_pos V.out (by omega) (K1.trans p1))

set_option maxRecDepth 100000 in
set_option maxHeartbeats 4000000 in
theorem implSim_4 (num : Int) (tys : List Int) (D : Nat → Prop) (a0 : Option Addr) (n0 c0 : Nat) (a1 : Option Addr) (n1 c1 : Nat) (a : Option Addr) (n c : Nat) (E : Nat → Prop) (w : World) (hp : SR w D ds sg a0 n0 c0 a1 n1 c1) (h : IntsL w E a n tys) (hn : n ≤ 1049576) :
    Calls Tryz.prog 162 #[.agg #[.slice a0 n0 c0, .slice a1 n1 c1], .int .i64 4, .int .i64 num, .slice a n c] w (SimR ds sg 4 num tys w) := by
  refine calls_k fun Q hQ => ?_
  have ht := (sigsOk_parts hok).1
  have hf := Few.of_ok ht
  have hn0 : n0 ≤ 4 := by have := (decls_at hp.1).1; have := typesOk_len ht; omega
  have K0 := Keep.al w (.cells #[.slice a0 n0 c0, .slice a1 n1 c1] 130)
  have R0 := rowOf w #[.slice a0 n0 c0, .slice a1 n1 c1] 130
  have HL := Lib.hid h.1
  have HOK := Lib.hid hok
  have HT := Lib.hid ht
  clear hok ht
  have V0 := Lib.hid (simple_bin ds sg (op := 4) num tys (by omega))
  have K1 := K0.trans (Keep.al _ (.cells #[.int .i64 0, .int .i64 0] 3))
  by_cases hz : num = 0
  case neg =>
    have V : Hid (simpleL ds sg 4 num tys = -1) := by show _ = _; rw [V0.out, if_neg (fun h => hz h.1)]
    have hz' : (num == 0) = false := by simpa using hz
    clear hz
    go_enter Tryz.func162, Tryz.ntmps162
    go_wp2_with fail
    exact fin_ hQ (simR_neg V.out (K1))
  subst hz
  have il := Rd.toInts (lit_ints (w.alloc (.cells #[.slice a0 n0 c0, .slice a1 n1 c1] 130)) 0 3 [0, 0] #[.int .i64 0, .int .i64 0] 2 (Nat.zero_le _) rfl rfl (by omega)).t
  simp only [World.size_alloc] at il
  have h1 := h.ext K1 (fun _ _ h => h)
  cases hd : decide (tys = [0, 0])
  · have V : Hid (simpleL ds sg 4 0 tys = -1) := by show _ = _; rw [V0.out, if_neg (fun h => of_decide_eq_false hd h.2)]
    have HD := Lib.hid hd
    clear hd
    go_enter Tryz.func162, Tryz.ntmps162
    go_wp2_with fail
    refine (equalInts _ _ _ _ _ _ _ _ _ _ _ h1 il (by omega) (by omega)).mono ?_
    rw [HD.out]
    rintro e w1 ⟨rfl, p1⟩
    go_wp2_with fail
    exact fin_ hQ (simR_neg V.out (K1.trans p1))
  · have V : Hid (simpleL ds sg 4 0 tys = 0) := by show _ = _; rw [V0.out, if_pos ⟨rfl, of_decide_eq_true hd⟩]
    have HD := Lib.hid hd
    clear hd
    go_enter Tryz.func162, Tryz.ntmps162
    go_wp2_with fail
    refine (equalInts _ _ _ _ _ _ _ _ _ _ _ h1 il (by omega) (by omega)).mono ?_
    rw [HD.out]
    rintro e w1 ⟨rfl, p1⟩
    go_wp2_with fail
    exact fin_ hQ (simR_pos V.out (by omega) (K1.trans p1))

set_option maxRecDepth 100000 in
set_option maxHeartbeats 4000000 in
theorem implSim_5 (num : Int) (tys : List Int) (D : Nat → Prop) (a0 : Option Addr) (n0 c0 : Nat) (a1 : Option Addr) (n1 c1 : Nat) (a : Option Addr) (n c : Nat) (E : Nat → Prop) (w : World) (hp : SR w D ds sg a0 n0 c0 a1 n1 c1) (h : IntsL w E a n tys) (hn : n ≤ 1049576) :
    Calls Tryz.prog 162 #[.agg #[.slice a0 n0 c0, .slice a1 n1 c1], .int .i64 5, .int .i64 num, .slice a n c] w (SimR ds sg 5 num tys w) := by
  refine calls_k fun Q hQ => ?_
  have ht := (sigsOk_parts hok).1
  have hf := Few.of_ok ht
  have hn0 : n0 ≤ 4 := by have := (decls_at hp.1).1; have := typesOk_len ht; omega
  have K0 := Keep.al w (.cells #[.slice a0 n0 c0, .slice a1 n1 c1] 130)
  have R0 := rowOf w #[.slice a0 n0 c0, .slice a1 n1 c1] 130
  have HL := Lib.hid h.1
  have HOK := Lib.hid hok
  have HT := Lib.hid ht
  clear hok ht
  have V0 := Lib.hid (simple_5 ds sg num tys)
  have K1 := K0.trans (Keep.al _ (.cells #[.int .i64 0] 3))
  by_cases hz : num = 0
  case neg =>
    have V : Hid (simpleL ds sg 5 num tys = -1) := by show _ = _; rw [V0.out, if_neg (fun h => hz h.1)]
    have hz' : (num == 0) = false := by simpa using hz
    clear hz
    go_enter Tryz.func162, Tryz.ntmps162
    go_wp2_with fail
    exact fin_ hQ (simR_neg V.out (K1))
  subst hz
  have il := Rd.toInts (lit_ints (w.alloc (.cells #[.slice a0 n0 c0, .slice a1 n1 c1] 130)) 0 3 [0] #[.int .i64 0] 1 (Nat.zero_le _) rfl rfl (by omega)).t
  simp only [World.size_alloc] at il
  have h1 := h.ext K1 (fun _ _ h => h)
  cases hd : decide (tys = [0])
  · have V : Hid (simpleL ds sg 5 0 tys = -1) := by show _ = _; rw [V0.out, if_neg (fun h => of_decide_eq_false hd h.2)]
    have HD := Lib.hid hd
    clear hd
    go_enter Tryz.func162, Tryz.ntmps162
    go_wp2_with fail
    refine (equalInts _ _ _ _ _ _ _ _ _ _ _ h1 il (by omega) (by omega)).mono ?_
    rw [HD.out]
    rintro e w1 ⟨rfl, p1⟩
    go_wp2_with fail
    exact fin_ hQ (simR_neg V.out (K1.trans p1))
  · have V : Hid (simpleL ds sg 5 0 tys = 0) := by show _ = _; rw [V0.out, if_pos ⟨rfl, of_decide_eq_true hd⟩]
    have HD := Lib.hid hd
    clear hd
    go_enter Tryz.func162, Tryz.ntmps162
    go_wp2_with fail
    refine (equalInts _ _ _ _ _ _ _ _ _ _ _ h1 il (by omega) (by omega)).mono ?_
    rw [HD.out]
    rintro e w1 ⟨rfl, p1⟩
    go_wp2_with fail
    exact fin_ hQ (simR_pos V.out (by omega) (K1.trans p1))

set_option maxRecDepth 100000 in
set_option maxHeartbeats 4000000 in
theorem implSim_6 (num : Int) (tys : List Int) (D : Nat → Prop) (a0 : Option Addr) (n0 c0 : Nat) (a1 : Option Addr) (n1 c1 : Nat) (a : Option Addr) (n c : Nat) (E : Nat → Prop) (w : World) (hp : SR w D ds sg a0 n0 c0 a1 n1 c1) (h : IntsL w E a n tys) (hn : n ≤ 1049576) (hx1 : -9223372036854775808 ≤ num) (hx2 : num ≤ 9223372036854775807) :
    Calls Tryz.prog 162 #[.agg #[.slice a0 n0 c0, .slice a1 n1 c1], .int .i64 6, .int .i64 num, .slice a n c] w (SimR ds sg 6 num tys w) := by
  refine calls_k fun Q hQ => ?_
  have ht := (sigsOk_parts hok).1
  have hf := Few.of_ok ht
  have hn0 : n0 ≤ 4 := by have := (decls_at hp.1).1; have := typesOk_len ht; omega
  have K0 := Keep.al w (.cells #[.slice a0 n0 c0, .slice a1 n1 c1] 130)
  have R0 := rowOf w #[.slice a0 n0 c0, .slice a1 n1 c1] 130
  have HL := Lib.hid h.1
  have HOK := Lib.hid hok
  have HT := Lib.hid ht
  clear hok ht
  have V0 := Lib.hid (simple_6 ds sg num tys)
  have hct := typeOr_range (n := ds.length) (p := inDecl ds num)
  change conTypeL ds num = -1 ∨ isT ds.length (conTypeL ds num) = true at hct
  have hfo := (conFieldsL_ok HT.out num).1
  have hne0 : conTypeL ds num ≠ 0 := by
    intro h
    rcases hcx : conIx ds num with _ | i
    · rw [conTypeL, hcx] at h; simp [typeOr] at h
    · rw [conTypeL, hcx] at h; simp only [typeOr] at h; omega
  obtain ⟨ct, hc⟩ : ∃ ct, conTypeL ds num = ct := ⟨_, rfl⟩
  rw [hc] at hct hne0
  have HC := Lib.hid hc
  have HR := Lib.hid hct
  clear hc hct
  have h1 := h.ext K0 (fun _ _ h => h)
  by_cases h0 : 0 ≤ ct
  case neg =>
    have V : Hid (simpleL ds sg 6 num tys = -1) := by show _ = _; rw [V0.out, HC.out, if_neg (fun h => by omega)]
    go_enter Tryz.func162, Tryz.ntmps162
    go_wp2_with fail
    refine (implConAt _ _ _ ds _ _ _ (Rd.toDecls (hp.k K0).1) hf hx1 hx2).mono ?_
    rw [HC.out]
    rintro e w1 ⟨a', m, c', rfl, hmc, hi, p1⟩
    go_wp2_with fail
    exact fin_ hQ (simR_neg V.out ((K0.trans p1).trans (Keep.al _ _)))
  have hpos : 0 < ct := by omega
  cases hd : decide (tys = conFieldsL ds num)
  · have V : Hid (simpleL ds sg 6 num tys = -1) := by show _ = _; rw [V0.out, HC.out, if_neg (fun h => of_decide_eq_false hd h.2)]
    have HD := Lib.hid hd
    clear hd
    go_enter Tryz.func162, Tryz.ntmps162
    go_wp2_with fail
    refine (implConAt _ _ _ ds _ _ _ (Rd.toDecls (hp.k K0).1) hf hx1 hx2).mono ?_
    rw [HC.out]
    rintro e w1 ⟨a', m, c', rfl, hmc, hi, p1⟩
    have K2 := Lib.hid ((K0.trans p1).trans (Keep.al w1 (.cells #[.slice a' m c'] 155)))
    have h2 := Lib.hid (h1.ext (p1.trans (Keep.al w1 (.cells #[.slice a' m c'] 155))) (fun _ _ h => h))
    have hi2 := Lib.hid (hi.ext (p1.trans (Keep.al w1 (.cells #[.slice a' m c'] 155))) (fun _ _ h => h))
    have hml : m ≤ 3 := by have := hi.1; omega
    clear hi p1
    go_wp2_with fail
    refine (equalInts _ _ _ _ _ _ _ _ _ _ _ h2.out hi2.out (by omega) (by omega)).mono ?_
    rw [HD.out]
    rintro e w2 ⟨rfl, p2⟩
    go_wp2_with fail
    exact fin_ hQ (simR_neg V.out (K2.out.trans p2))
  · have V : Hid (simpleL ds sg 6 num tys = ct) := by show _ = _; rw [V0.out, HC.out, if_pos ⟨hpos, of_decide_eq_true hd⟩]
    have HD := Lib.hid hd
    clear hd
    go_enter Tryz.func162, Tryz.ntmps162
    go_wp2_with fail
    refine (implConAt _ _ _ ds _ _ _ (Rd.toDecls (hp.k K0).1) hf hx1 hx2).mono ?_
    rw [HC.out]
    rintro e w1 ⟨a', m, c', rfl, hmc, hi, p1⟩
    have K2 := Lib.hid ((K0.trans p1).trans (Keep.al w1 (.cells #[.slice a' m c'] 155)))
    have h2 := Lib.hid (h1.ext (p1.trans (Keep.al w1 (.cells #[.slice a' m c'] 155))) (fun _ _ h => h))
    have hi2 := Lib.hid (hi.ext (p1.trans (Keep.al w1 (.cells #[.slice a' m c'] 155))) (fun _ _ h => h))
    have hml : m ≤ 3 := by have := hi.1; omega
    clear hi p1
    go_wp2_with fail
    refine (equalInts _ _ _ _ _ _ _ _ _ _ _ h2.out hi2.out (by omega) (by omega)).mono ?_
    rw [HD.out]
    rintro e w2 ⟨rfl, p2⟩
    go_wp2_with fail
    exact fin_ hQ (simR_pos V.out h0 (K2.out.trans p2))

set_option maxRecDepth 100000 in
set_option maxHeartbeats 4000000 in
theorem implSim_other (op : Int) (hop : op < 0 ∨ 13 < op ∨ op = 7 ∨ op = 8 ∨ op = 12 ∨ op = 13) (num : Int) (tys : List Int) (D : Nat → Prop) (a0 : Option Addr) (n0 c0 : Nat) (a1 : Option Addr) (n1 c1 : Nat) (a : Option Addr) (n c : Nat) (E : Nat → Prop) (w : World) (hp : SR w D ds sg a0 n0 c0 a1 n1 c1) (h : IntsL w E a n tys) (hn : n ≤ 1049576) :
    Calls Tryz.prog 162 #[.agg #[.slice a0 n0 c0, .slice a1 n1 c1], .int .i64 op, .int .i64 num, .slice a n c] w (SimR ds sg op num tys w) := by
  refine calls_k fun Q hQ => ?_
  have ht := (sigsOk_parts hok).1
  have hf := Few.of_ok ht
  have hn0 : n0 ≤ 4 := by have := (decls_at hp.1).1; have := typesOk_len ht; omega
  have K0 := Keep.al w (.cells #[.slice a0 n0 c0, .slice a1 n1 c1] 130)
  have R0 := rowOf w #[.slice a0 n0 c0, .slice a1 n1 c1] 130
  have HL := Lib.hid h.1
  have HOK := Lib.hid hok
  have HT := Lib.hid ht
  clear hok ht
  have V : Hid (simpleL ds sg op num tys = -1) := by
    show _ = _
    rw [simpleL, if_neg (by omega), if_neg (by omega), if_neg (by omega), if_neg (by omega), if_neg (by omega), if_neg (by omega), if_neg (by omega)]
  have o0 : (op == 0) = false := by simp; omega
  have o1 : (op == 1) = false := by simp; omega
  have o2 : (op == 2) = false := by simp; omega
  have o3 : (op == 3) = false := by simp; omega
  have o4 : (op == 4) = false := by simp; omega
  have o5 : (op == 5) = false := by simp; omega
  have o6 : (op == 6) = false := by simp; omega
  have o9 : (op == 9) = false := by simp; omega
  have o10 : (op == 10) = false := by simp; omega
  have o11 : (op == 11) = false := by simp; omega
  clear hop
  have := hn
  go_enter Tryz.func162, Tryz.ntmps162
  go_wp2_with fail
  exact fin_ hQ (simR_neg V.out (K0))

set_option maxRecDepth 100000 in
set_option maxHeartbeats 4000000 in
theorem implSim_9 (num : Int) (tys : List Int) (D : Nat → Prop) (a0 : Option Addr) (n0 c0 : Nat) (a1 : Option Addr) (n1 c1 : Nat) (a : Option Addr) (n c : Nat) (E : Nat → Prop) (w : World) (hp : SR w D ds sg a0 n0 c0 a1 n1 c1) (h : IntsL w E a n tys) (hn : n ≤ 1049576) :
    Calls Tryz.prog 162 #[.agg #[.slice a0 n0 c0, .slice a1 n1 c1], .int .i64 9, .int .i64 num, .slice a n c] w (SimR ds sg 9 num tys w) := by
  refine calls_k fun Q hQ => ?_
  have ht := (sigsOk_parts hok).1
  have hf := Few.of_ok ht
  have hn0 : n0 ≤ 4 := by have := (decls_at hp.1).1; have := typesOk_len ht; omega
  have K0 := Keep.al w (.cells #[.slice a0 n0 c0, .slice a1 n1 c1] 130)
  have R0 := rowOf w #[.slice a0 n0 c0, .slice a1 n1 c1] 130
  have HL := Lib.hid h.1
  have HOK := Lib.hid hok
  have HT := Lib.hid ht
  clear hok ht
  obtain ⟨e1, hf1, hf2, hat⟩ := sigs_at hp.2
  have HN := Lib.hid e1
  have hn1 : n1 ≤ 4 := by have := (sigsOk_parts HOK.out).2.2.1; omega
  have h1 := h.ext K0 (fun _ _ h => h)
  by_cases hr : 0 ≤ num ∧ num < (n1 : Int)
  case neg =>
    have V := Lib.hid (simpleL_range (ds := ds) (sg := sg) (op := 9) (num := num) (tys := tys) (by omega) (by rw [HN.out]; exact hr))
    by_cases h2 : num < 0
    · clear hr
      go_enter Tryz.func162, Tryz.ntmps162
      go_wp2_with fail
      exact fin_ hQ (simR_neg V.out (K0))
    · have h3 : (n1 : Int) ≤ num := by omega
      clear hr
      go_enter Tryz.func162, Tryz.ntmps162
      go_wp2_with fail
      exact fin_ hQ (simR_neg V.out (K0))
  obtain ⟨k, rfl⟩ : ∃ k : Nat, num = (k : Int) := ⟨num.toNat, by omega⟩
  have hk : k < n1 := by omega
  have HKS : Hid (k < sg.length) := by have := HN.out; show _ < _; omega
  have HSO := Lib.hid (sigOk_parts ((sigsOk_parts HOK.out).2.2.2 k HKS.out))
  obtain ⟨b, o, rfl, _, ap, np, cp, al, nl, cl, d0, d1, d2, r0, r1⟩ := hat k hk
  obtain ⟨s, hs⟩ : ∃ s, sgAt sg k = s := ⟨_, rfl⟩
  rw [hs] at d2 r0 r1 HSO
  have HS := Lib.hid hs
  have g0 := (K0.cell (World.block_lt_of_cell? w _ d0) (fun h => h)).trans d0
  have g1 := (K0.cell (World.block_lt_of_cell? w _ d1) (fun h => h)).trans d1
  have g2 := (K0.cell (World.block_lt_of_cell? w _ d2) (fun h => h)).trans d2
  have HPL := Lib.hid (ints_at r0).1
  have hpl : np ≤ 3 := by have := HPL.out; have := HSO.out.1; omega
  have RR := Lib.hid (isT_iff.1 HSO.out.2.2.1)
  have qt := (Rd.toInts r0).ext K0 (fun _ _ h => h)
  clear d0 d1 d2 hs hr hat e1 r1
  have V0 := Lib.hid (simpleL_call (ds := ds) (sg := sg) (k := k) (tys := tys) HKS.out)
  rw [HS.out] at V0
  cases hd : decide (tys = s.params)
  · have V : Hid (simpleL ds sg 9 (k : Int) tys = -1) := by show _ = _; rw [V0.out, if_neg (of_decide_eq_false hd)]
    have HD := Lib.hid hd
    clear hd
    go_enter Tryz.func162, Tryz.ntmps162
    go_wp2_with fail
    go_quiet (fail)
    go_wp2_with fail
    refine (equalInts _ _ _ _ _ _ _ _ _ _ _ (h1.drewN _) (qt.drewN _) (by omega) (by omega)).mono ?_
    rw [HD.out]
    rintro e w1 ⟨rfl, p1⟩
    go_wp2_with fail
    exact fin_ hQ (simR_neg V.out ((K0.drewN _).trans p1))
  · have V : Hid (simpleL ds sg 9 (k : Int) tys = s.result) := by show _ = _; rw [V0.out, if_pos (of_decide_eq_true hd)]
    have HD := Lib.hid hd
    clear hd
    go_enter Tryz.func162, Tryz.ntmps162
    go_wp2_with fail
    go_quiet (fail)
    go_wp2_with fail
    refine (equalInts _ _ _ _ _ _ _ _ _ _ _ (h1.drewN _) (qt.drewN _) (by omega) (by omega)).mono ?_
    rw [HD.out]
    rintro e w1 ⟨rfl, p1⟩
    go_wp2_with fail
    exact fin_ hQ (simR_pos V.out RR.out.1 ((K0.drewN _).trans p1))

set_option maxRecDepth 100000 in
set_option maxHeartbeats 4000000 in
theorem implSim_10 (num : Int) (tys : List Int) (D : Nat → Prop) (a0 : Option Addr) (n0 c0 : Nat) (a1 : Option Addr) (n1 c1 : Nat) (a : Option Addr) (n c : Nat) (E : Nat → Prop) (w : World) (hp : SR w D ds sg a0 n0 c0 a1 n1 c1) (h : IntsL w E a n tys) (hn : n ≤ 1049576) :
    Calls Tryz.prog 162 #[.agg #[.slice a0 n0 c0, .slice a1 n1 c1], .int .i64 10, .int .i64 num, .slice a n c] w (SimR ds sg 10 num tys w) := by
  refine calls_k fun Q hQ => ?_
  have ht := (sigsOk_parts hok).1
  have hf := Few.of_ok ht
  have hn0 : n0 ≤ 4 := by have := (decls_at hp.1).1; have := typesOk_len ht; omega
  have K0 := Keep.al w (.cells #[.slice a0 n0 c0, .slice a1 n1 c1] 130)
  have R0 := rowOf w #[.slice a0 n0 c0, .slice a1 n1 c1] 130
  have HL := Lib.hid h.1
  have HOK := Lib.hid hok
  have HT := Lib.hid ht
  clear hok ht
  obtain ⟨e1, hf1, hf2, hat⟩ := sigs_at hp.2
  have HN := Lib.hid e1
  have hn1 : n1 ≤ 4 := by have := (sigsOk_parts HOK.out).2.2.1; omega
  have h1 := h.ext K0 (fun _ _ h => h)
  by_cases hr : 0 ≤ num ∧ num < (n1 : Int)
  case neg =>
    have V := Lib.hid (simpleL_range (ds := ds) (sg := sg) (op := 10) (num := num) (tys := tys) (by omega) (by rw [HN.out]; exact hr))
    by_cases h2 : num < 0
    · clear hr
      go_enter Tryz.func162, Tryz.ntmps162
      go_wp2_with fail
      exact fin_ hQ (simR_neg V.out (K0))
    · have h3 : (n1 : Int) ≤ num := by omega
      clear hr
      go_enter Tryz.func162, Tryz.ntmps162
      go_wp2_with fail
      exact fin_ hQ (simR_neg V.out (K0))
  obtain ⟨k, rfl⟩ : ∃ k : Nat, num = (k : Int) := ⟨num.toNat, by omega⟩
  have hk : k < n1 := by omega
  have HKS : Hid (k < sg.length) := by have := HN.out; show _ < _; omega
  have HSO := Lib.hid (sigOk_parts ((sigsOk_parts HOK.out).2.2.2 k HKS.out))
  obtain ⟨b, o, rfl, _, ap, np, cp, al, nl, cl, d0, d1, d2, r0, r1⟩ := hat k hk
  obtain ⟨s, hs⟩ : ∃ s, sgAt sg k = s := ⟨_, rfl⟩
  rw [hs] at d2 r0 r1 HSO
  have HS := Lib.hid hs
  have g0 := (K0.cell (World.block_lt_of_cell? w _ d0) (fun h => h)).trans d0
  have g1 := (K0.cell (World.block_lt_of_cell? w _ d1) (fun h => h)).trans d1
  have g2 := (K0.cell (World.block_lt_of_cell? w _ d2) (fun h => h)).trans d2
  have HPL := Lib.hid (ints_at r0).1
  have hpl : np ≤ 3 := by have := HPL.out; have := HSO.out.1; omega
  have RR := Lib.hid (isT_iff.1 HSO.out.2.2.1)
  have qt := (Rd.toInts r0).ext K0 (fun _ _ h => h)
  clear d0 d1 d2 hs hr hat e1 r1
  have V0 := Lib.hid (simpleL_close (ds := ds) (sg := sg) (k := k) (tys := tys) HKS.out)
  rw [HS.out] at V0
  rcases Nat.eq_zero_or_pos np with h0 | h0
  · subst h0
    have V : Hid (simpleL ds sg 10 (k : Int) tys = -1) := by show _ = _; rw [V0.out, if_neg (fun h => by have := HPL.out; omega)]
    go_enter Tryz.func162, Tryz.ntmps162
    go_wp2_with fail
    go_quiet (fail)
    go_wp2_with fail
    exact fin_ hQ (simR_neg V.out (K0.drewN _))
  obtain ⟨m, rfl⟩ : ∃ m, np = m + 1 := ⟨np - 1, by omega⟩
  obtain ⟨b2, o2, rfl, _, dm⟩ := (ints_at r0).2.2.2 m (by omega)
  have hcp : m + 1 ≤ cp := (ints_at r0).2.1
  have gm := (K0.cell (World.block_lt_of_cell? w _ dm) (fun h => h)).trans dm
  have qtk := qt.take (m := m) (by omega)
  have V1 : Hid (simpleL ds sg 10 (k : Int) tys = if tys = s.params.take m then arrowL ds (iAt s.params m) s.result else -1) := by
    show _ = _
    rw [V0.out, HPL.out]
    by_cases h : tys = s.params.take m
    · rw [if_pos ⟨by omega, h⟩, if_pos h]; rfl
    · rw [if_neg (fun h' => h h'.2), if_neg h]
  have hra := typeOr_range (n := ds.length) (p := isArrow ds (iAt s.params m) s.result)
  change arrowL ds _ _ = -1 ∨ isT ds.length (arrowL ds _ _) = true at hra
  obtain ⟨ar, har⟩ : ∃ ar, arrowL ds (iAt s.params m) s.result = ar := ⟨_, rfl⟩
  rw [har] at V1 hra
  have HAR := Lib.hid har
  have hra2 : ar = -1 ∨ 0 ≤ ar := by
    rcases hra with h | h
    · exact .inl h
    · exact .inr (isT_iff.1 h).1
  have HRA := Lib.hid hra2
  have hpk := Rd.toDecls (hp.k K0).1
  clear dm har hra hra2 V0
  have hw1 : IntKind.i64.wrap (m : Int) = (m : Int) := by rw [IntWalk.i64_in _ (by omega)]
  have hw2 : (0 : Int) ≤ (m : Int) := by omega
  have hw3 : (m : Int) < (m : Int) + 1 := by omega
  have hw4 : (m : Int) ≤ (cp : Int) := by omega
  by_cases ha : 0 ≤ ar
  case neg =>
    have V : Hid (simpleL ds sg 10 (k : Int) tys = -1) := by
      show _ = _
      rw [V1.out]
      split
      · rcases HRA.out with h | h
        · exact h
        · exact absurd h ha
      · rfl
    go_enter Tryz.func162, Tryz.ntmps162
    go_wp2_with fail
    go_quiet (fail)
    go_wp2_with fail
    generalize hW : World.drewN (w.alloc (.cells #[.slice a0 n0 c0, .slice (some ⟨b, o, none⟩) n1 c1] 130)) nq = W at *
    have KW : Keep w W := by rw [← hW]; exact K0.drewN nq
    have y0 : W.cell? ⟨w.heap.size, 0, none⟩ = some (.slice a0 n0 c0) := by rw [← hW]; simp
    have ym : W.cell? ⟨b2, o2 + m, none⟩ = some (.int .i64 (iAt s.params m)) := by rw [← hW]; exact gm
    have qd : DeclsR W.drew D a0 n0 ds := by rw [← hW]; exact (hpk.drewN nq).ext (S := fun _ => False) (Ext.refl (fun _ => False) _).drew (fun _ _ h => h)
    have q1 : IntsL W E a n tys := by rw [← hW]; exact h1.drewN nq
    have q2 : IntsL W D (some ⟨b2, o2, none⟩) m (s.params.take m) := by rw [← hW]; exact qtk.drewN nq
    clear hW gm h1 qtk hpk g0 g1 g2 qt
    have pc := Ext.refl0 W
    go_region_held3 (fun w' => w'.cell? ⟨w.heap.size, 0, none⟩ = some (.slice a0 n0 c0) ∧ w'.cell? ⟨b2, o2 + m, none⟩ = some (.int .i64 (iAt s.params m)))
      (first | exact ⟨Keep.at pc y0, Keep.at pc ym⟩ | go_keep)
      ((go_at_call 204; refine (implArrowOf0 _ _ _ ds _ _ _ _ qd (by omega)).mono ?_; rw [HAR.out]; rintro e w1 ⟨rfl, p1⟩; replace pc := Ext.trans pc p1))
    have KE := Lib.hid (KW.trans (Keep.dt pc))
    have q3 := Lib.hid (q1.ext (Keep.dt pc) (fun _ _ h => h))
    have q4 := Lib.hid (q2.ext (Keep.dt pc) (fun _ _ h => h))
    clear pc y0 ym qd q1 q2
    go_wp2_with fail
    exact fin_ hQ (simR_neg V.out (KE.out))
  cases hd : decide (tys = s.params.take m)
  · have V : Hid (simpleL ds sg 10 (k : Int) tys = -1) := by show _ = _; rw [V1.out, if_neg (of_decide_eq_false hd)]
    have HD := Lib.hid hd
    clear hd
    go_enter Tryz.func162, Tryz.ntmps162
    go_wp2_with fail
    go_quiet (fail)
    go_wp2_with fail
    generalize hW : World.drewN (w.alloc (.cells #[.slice a0 n0 c0, .slice (some ⟨b, o, none⟩) n1 c1] 130)) nq = W at *
    have KW : Keep w W := by rw [← hW]; exact K0.drewN nq
    have y0 : W.cell? ⟨w.heap.size, 0, none⟩ = some (.slice a0 n0 c0) := by rw [← hW]; simp
    have ym : W.cell? ⟨b2, o2 + m, none⟩ = some (.int .i64 (iAt s.params m)) := by rw [← hW]; exact gm
    have qd : DeclsR W.drew D a0 n0 ds := by rw [← hW]; exact (hpk.drewN nq).ext (S := fun _ => False) (Ext.refl (fun _ => False) _).drew (fun _ _ h => h)
    have q1 : IntsL W E a n tys := by rw [← hW]; exact h1.drewN nq
    have q2 : IntsL W D (some ⟨b2, o2, none⟩) m (s.params.take m) := by rw [← hW]; exact qtk.drewN nq
    clear hW gm h1 qtk hpk g0 g1 g2 qt
    have pc := Ext.refl0 W
    go_region_held3 (fun w' => w'.cell? ⟨w.heap.size, 0, none⟩ = some (.slice a0 n0 c0) ∧ w'.cell? ⟨b2, o2 + m, none⟩ = some (.int .i64 (iAt s.params m)))
      (first | exact ⟨Keep.at pc y0, Keep.at pc ym⟩ | go_keep)
      ((go_at_call 204; refine (implArrowOf0 _ _ _ ds _ _ _ _ qd (by omega)).mono ?_; rw [HAR.out]; rintro e w1 ⟨rfl, p1⟩; replace pc := Ext.trans pc p1))
    have KE := Lib.hid (KW.trans (Keep.dt pc))
    have q3 := Lib.hid (q1.ext (Keep.dt pc) (fun _ _ h => h))
    have q4 := Lib.hid (q2.ext (Keep.dt pc) (fun _ _ h => h))
    clear pc y0 ym qd q1 q2
    go_wp2_with fail
    refine (equalInts _ _ _ _ _ _ _ _ _ _ _ q3.out q4.out (by omega) (by omega)).mono ?_
    rw [HD.out]
    rintro e w2 ⟨rfl, p2⟩
    go_wp2_with fail
    exact fin_ hQ (simR_neg V.out (KE.out.trans p2))
  · have V : Hid (simpleL ds sg 10 (k : Int) tys = ar) := by show _ = _; rw [V1.out, if_pos (of_decide_eq_true hd)]
    have HD := Lib.hid hd
    clear hd
    go_enter Tryz.func162, Tryz.ntmps162
    go_wp2_with fail
    go_quiet (fail)
    go_wp2_with fail
    generalize hW : World.drewN (w.alloc (.cells #[.slice a0 n0 c0, .slice (some ⟨b, o, none⟩) n1 c1] 130)) nq = W at *
    have KW : Keep w W := by rw [← hW]; exact K0.drewN nq
    have y0 : W.cell? ⟨w.heap.size, 0, none⟩ = some (.slice a0 n0 c0) := by rw [← hW]; simp
    have ym : W.cell? ⟨b2, o2 + m, none⟩ = some (.int .i64 (iAt s.params m)) := by rw [← hW]; exact gm
    have qd : DeclsR W.drew D a0 n0 ds := by rw [← hW]; exact (hpk.drewN nq).ext (S := fun _ => False) (Ext.refl (fun _ => False) _).drew (fun _ _ h => h)
    have q1 : IntsL W E a n tys := by rw [← hW]; exact h1.drewN nq
    have q2 : IntsL W D (some ⟨b2, o2, none⟩) m (s.params.take m) := by rw [← hW]; exact qtk.drewN nq
    clear hW gm h1 qtk hpk g0 g1 g2 qt
    have pc := Ext.refl0 W
    go_region_held3 (fun w' => w'.cell? ⟨w.heap.size, 0, none⟩ = some (.slice a0 n0 c0) ∧ w'.cell? ⟨b2, o2 + m, none⟩ = some (.int .i64 (iAt s.params m)))
      (first | exact ⟨Keep.at pc y0, Keep.at pc ym⟩ | go_keep)
      ((go_at_call 204; refine (implArrowOf0 _ _ _ ds _ _ _ _ qd (by omega)).mono ?_; rw [HAR.out]; rintro e w1 ⟨rfl, p1⟩; replace pc := Ext.trans pc p1))
    have KE := Lib.hid (KW.trans (Keep.dt pc))
    have q3 := Lib.hid (q1.ext (Keep.dt pc) (fun _ _ h => h))
    have q4 := Lib.hid (q2.ext (Keep.dt pc) (fun _ _ h => h))
    clear pc y0 ym qd q1 q2
    go_wp2_with fail
    refine (equalInts _ _ _ _ _ _ _ _ _ _ _ q3.out q4.out (by omega) (by omega)).mono ?_
    rw [HD.out]
    rintro e w2 ⟨rfl, p2⟩
    go_wp2_with fail
    exact fin_ hQ (simR_pos V.out ha (KE.out.trans p2))

end
end Go.Proofs.YtkapldpmjkdmcaaGreat
/- slices.Concat of two slices of integers. -/
namespace Go.Proofs.YtkapldpmjkdmcaaGreat
open Go.RowKit

theorem growNil (n : Nat) (w : World) (hn : n ≤ 4000000) :
    Calls Tryz.prog 225 #[.slice none 0 0, .int .i64 (n : Int)] w fun e w' => ∃ v, e = .returned v ∧ VR w' w.heap.size v [] ∧ Keep w w' := by
  rcases Nat.eq_zero_or_pos n with h0 | h0
  · subst h0
    refine (Tryz.slices_Grow_zero w).mono ?_
    rintro e w' ⟨rfl, rfl⟩
    exact ⟨_, rfl, World.ownsRow_nil _ _ _ _, Ext.refl _ _⟩
  · obtain ⟨i, hi, hzz⟩ := Option.map_eq_some_iff.1 (show (Tryz.prog.info? 3).map (fun i => (i.zero, i.size, i.bytes)) = some (some (.int .i64 0), 1, 8) by kernel_rfl)
    simp only [Prod.mk.injEq] at hzz
    obtain ⟨hz, hsize, hby⟩ := hzz
    refine (Tryz.slices_Grow_nil i (.int .i64 0) hi hz (by omega) n w (by omega) (by rw [hby]; omega) (by omega)).mono ?_
    rintro e w' ⟨rfl, rfl⟩
    refine ⟨_, rfl, ?_, (Ext.refl _ w).drew.trans (Keep.al _ _)⟩
    refine World.ownsRow_made (w := w.drew) _ _ (Nat.le_refl _) ?_ ?_
    · exact grownCap_le_maxLen _ _ _ _ (by simp [maxLen]; omega)
    · have h5 := grownCap_ge w (0 + n) 0 3
      simp only [Nat.zero_add] at h5
      simp [Builtin.zeroCells, Value.cells]
      omega

set_option maxHeartbeats 2000000 in
theorem concatTwo (g cc : Nat) (a : Option Addr) (n c : Nat) (xs : List Int) (D : Nat → Prop) (a' : Option Addr) (n' c' : Nat) (ys : List Int) (D' : Nat → Prop) (w : World) (h0 : w.cell? ⟨g, 0, none⟩ = some (.slice a n c)) (h1 : w.cell? ⟨g, 1, none⟩ = some (.slice a' n' c')) (hx : IntsL w D a n xs) (hy : IntsL w D' a' n' ys) (hn : n ≤ 1052000) (hn' : n' ≤ 1052000) :
    Calls Tryz.prog 202 #[.slice (some ⟨g, 0, none⟩) 2 cc] w fun e w' => ∃ v, e = .returned v ∧ VR w' w.heap.size v (xs ++ ys) ∧ Keep w w' := by
  refine calls_k fun Q hQ => ?_
  have HX := Lib.hid hx
  have HY := Lib.hid hy
  clear hx hy
  go_enter Tryz.func202, Tryz.ntmps202
  go_wp2_with fail
  go_loop [3, 11] (fun sv iv => (iv = .int .i64 (0 : Nat) ∧ sv = .int .i64 (0 : Nat)) ∨ (iv = .int .i64 (1 : Nat) ∧ sv = .int .i64 (n : Nat)) ∨ (iv = .int .i64 (2 : Nat) ∧ sv = .int .i64 ((n + n' : Nat) : Int))) (fun _ iv => 2 - (intOf iv).toNat)
  case atStart => exact .inl ⟨rfl, rfl⟩
  case round =>
    rcases hrel with ⟨rfl, rfl⟩ | ⟨rfl, rfl⟩ | ⟨rfl, rfl⟩
    · go_wp2_with fail
      go_round
      case rel => exact .inr (.inl ⟨by go_num, by go_num⟩)
      case measure => simp [intOf]
    · go_wp2_with fail
      go_round
      case rel => exact .inr (.inr ⟨by go_num, by go_num⟩)
      case measure => simp [intOf]
    · go_wp2_with fail
      refine (growNil (n + n') w (by omega)).mono ?_
      rintro e w1 ⟨v, rfl, hv, p1⟩
      have HV := Lib.hid hv
      have P1 := Lib.hid p1
      clear hv
      go_wp2_with fail
      have G0 := Lib.hid h0
      have G1 := Lib.hid h1
      go_loopw [6, 27] (fun v iv wr => ((iv = .int .i64 (0 : Nat) ∧ Hid (VR wr w.heap.size v [])) ∨ (iv = .int .i64 (1 : Nat) ∧ Hid (VR wr w.heap.size v xs)) ∨ (iv = .int .i64 (2 : Nat) ∧ Hid (VR wr w.heap.size v (xs ++ ys)))) ∧ Hid (Keep w wr)) (fun _ iv _ => 2 - (intOf iv).toNat)
      case atStart => exact ⟨.inl ⟨rfl, HV⟩, P1⟩
      case round =>
        obtain ⟨hr, hK⟩ := hrel
        clear h0 h1
        have k0 := (hK.out.cell (World.block_lt_of_cell? _ _ G0.out) (fun h => h)).trans G0.out
        have k1 := (hK.out.cell (World.block_lt_of_cell? _ _ G1.out) (fun h => h)).trans G1.out
        have hbs : w.heap.size ≤ wr.heap.size := hK.out.size
        rcases hr with ⟨rfl, hv⟩ | ⟨rfl, hv⟩ | ⟨rfl, hv⟩
        · have hx2 := HX.out.ext hK.out (fun _ _ h => h)
          go_wp2_with (at_builtin; refine wpList_appInts _ rfl (.tmp 31) (.tmp 32) rfl w.heap.size u6 0 [] rfl hv.out a n c xs D rfl hx2 (by omega) (by omega) ?_; intro v' w' ho hg)
          have hv2 : Hid (VR w' w.heap.size v' xs) := by have h := ho; have hl := HX.out.1; show VR _ _ _ _; rw [VR, hl]; simpa using h
          have hK2 := Lib.hid (hK.out.grown hg (fun q hq => .inl (hv.out.lt q hq).1))
          go_roundw
          case rel => exact ⟨.inr (.inl ⟨by go_num, hv2⟩), hK2⟩
          case measure => simp [intOf]
        · have hx2 := HY.out.ext hK.out (fun _ _ h => h)
          have hxl : xs.length ≤ 1052000 := by have := HX.out.1; omega
          go_wp2_with (at_builtin; refine wpList_appInts _ rfl (.tmp 31) (.tmp 32) rfl w.heap.size u6 xs.length xs rfl hv.out a' n' c' ys D' rfl hx2 (by omega) (by omega) ?_; intro v' w' ho hg)
          have hv2 : Hid (VR w' w.heap.size v' (xs ++ ys)) := by have h := ho; have hl := HY.out.1; show VR _ _ _ _; rw [VR, List.length_append, hl]; exact h
          have hK2 := Lib.hid (hK.out.grown hg (fun q hq => .inl (hv.out.lt q hq).1))
          go_roundw
          case rel => exact ⟨.inr (.inr ⟨by go_num, hv2⟩), hK2⟩
          case measure => simp [intOf]
        · go_wp2_with fail
          exact fin_ hQ ⟨_, rfl, hv.out, hK.out⟩
end Go.Proofs.YtkapldpmjkdmcaaGreat
/- walk: all nodes of an expression are visited by a function value. -/
namespace Go.Proofs.YtkapldpmjkdmcaaGreat
open Go.RowKit

section
variable {σ : Type} (vis : Int → Int → σ → σ)
mutual
/-- What comes of visiting all nodes. -/
def visE : ExprL → σ → σ
  | .mk op num ks, s => visEs ks (vis op num s)
def visEs : List ExprL → σ → σ
  | [], s => s
  | k :: ks, s => visEs ks (visE k s)
end
end

end Go.Proofs.YtkapldpmjkdmcaaGreat
/- walk: all nodes of an expression are visited by a function value; which blocks the visits may change may depend on the world, and the nodes may be known to be of a kind. -/
namespace Go.Proofs.YtkapldpmjkdmcaaGreat
open Go.RowKit

mutual
/-- All nodes are of a kind. -/
def allE (P : Int → Int → Prop) : ExprL → Prop
  | .mk op num ks => P op num ∧ allEs P ks
def allEs (P : Int → Int → Prop) : List ExprL → Prop
  | [] => True
  | k :: ks => allE P k ∧ allEs P ks
end
mutual
theorem allE_true : ∀ e : ExprL, allE (fun _ _ => True) e
  | .mk _ _ ks => ⟨trivial, allEs_true ks⟩
theorem allEs_true : ∀ es : List ExprL, allEs (fun _ _ => True) es
  | [] => trivial
  | e :: es => ⟨allE_true e, allEs_true es⟩
end

/-- From w to w' only blocks of M change, and none of the old ones has come into M. -/
structure StM (M : World → Nat → Prop) (w w' : World) : Prop where
  ext : Ext (M w) w w'
  old : ∀ r, r < w.heap.size → M w' r → M w r
theorem StM.refl (M : World → Nat → Prop) (w : World) : StM M w w := ⟨Ext.refl _ _, fun _ _ h => h⟩
theorem StM.trans {M : World → Nat → Prop} {w w' w'' : World} (h : StM M w w') (k : StM M w' w'') : StM M w w'' :=
  ⟨h.ext.then_ k.ext (fun i hi hm => h.old i hi hm), fun r hr hm => h.old r hr (k.old r (Nat.lt_of_lt_of_le hr h.ext.size) hm)⟩

end Go.Proofs.YtkapldpmjkdmcaaGreat
/- The program's types of expressions: all kids with more variables. -/
namespace Go.Proofs.YtkapldpmjkdmcaaGreat
open Go.RowKit

def fitN (_ num : Int) : Prop := -9223372036854775808 ≤ num ∧ num ≤ 9223372036854775807
/-- What typeOf of the program does for one expression. -/
def TyI (ds : List DeclL) (sg : List SigL) (e : ExprL) : Prop := ∀ (a0 : Option Addr) (n0 c0 : Nat) (a1 : Option Addr) (n1 c1 : Nat) (v : Value) (vars : List Int) (a : Option Addr) (n c : Nat) (w : World) (base : Nat) (D : Nat → Prop),
  SR w D ds sg a0 n0 c0 a1 n1 c1 → VR w base v vars → Rd w D (encExprs e.kids) (.slice a n c) → (∀ q, D q → q < base) → base ≤ w.heap.size → vars.length + 4 * nE e ≤ 1049576 → allT ds.length vars = true →
  Calls Tryz.prog 117 #[.agg #[.slice a0 n0 c0, .slice a1 n1 c1], v, .agg #[.int .i64 e.op, .int .i64 e.num, .slice a n c]] w fun r w' => r = .returned (.int .i64 (tyE ds sg vars e)) ∧ VR w' base v vars ∧ Ext (fun r => v.ownBlock = some r) w w'
theorem VR.mono {w : World} {base base' : Nat} {v : Value} {xs : List Int} (h : VR w base v xs) (hb : base' ≤ base) : VR w base' v xs := by
  obtain ⟨h1, h2⟩ := h
  refine ⟨h1, ?_⟩
  rcases h2 with h2 | ⟨g, cap, cur, e, hb', rest⟩
  · exact .inl h2
  · exact .inr ⟨g, cap, cur, e, Nat.le_trans hb hb', rest⟩
section
variable (ds : List DeclL) (sg : List SigL)

end
end Go.Proofs.YtkapldpmjkdmcaaGreat
/- The program's types of expressions: variables, let. -/
namespace Go.Proofs.YtkapldpmjkdmcaaGreat
open Go.RowKit

theorem AppV.grow {w w' w'' : World} {base : Nat} {v v' : Value} {xs : List Int} {y : Int} (h : AppV w base v xs y v' w') (hx : Ext (fun r => v'.ownBlock = some r) w' w'') : Ext (fun r => v.ownBlock = some r) w w'' :=
  h.ext.then_ hx (fun i hi e => by
    rcases h.blk i e with h1 | h1
    · exact h1
    · omega)
theorem Ext.dt {S : Nat → Prop} {w w' : World} (h : Ext S w.drew w') : Ext S w w' := (Ext.refl _ w).drew.trans h

section
variable (ds : List DeclL) (sg : List SigL) (hok : sigsOk ds sg = true)
include hok

end
end Go.Proofs.YtkapldpmjkdmcaaGreat
