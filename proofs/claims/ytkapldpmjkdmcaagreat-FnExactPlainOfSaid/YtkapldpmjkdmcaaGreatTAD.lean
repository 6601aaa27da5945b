/- The reference's types of expressions: calls and closures. -/
import Derived.Test.YtkapldpmjkdmcaaGreatTAC
import Derived.IntWalk
import Derived.Test.YtkapldpmjkdmcaaGreatTAB
namespace Go.Proofs.YtkapldpmjkdmcaaGreat
open Go.RowKit

theorem IntsL.take {w : World} {D : Nat → Prop} {a : Option Addr} {n : Nat} {xs : List Int} (h : IntsL w D a n xs) {m : Nat} (hm : m ≤ n) : IntsL w D a m (xs.take m) := by
  obtain ⟨h1, h2⟩ := h
  refine ⟨by simp; omega, fun h0 => ?_⟩
  obtain ⟨b, o, rfl, hd, hc⟩ := h2 (by omega)
  refine ⟨b, o, rfl, hd, fun i hi => ?_⟩
  rw [hc i (by omega)]
  simp [iAt, hi]
theorem simpleL_range {ds : List DeclL} {sg : List SigL} {op num : Int} {tys : List Int} (h : op = 9 ∨ op = 10) (hn : ¬ (0 ≤ num ∧ num < (sg.length : Int))) : simpleL ds sg op num tys = -1 := by
  rcases h with rfl | rfl <;> simp [simpleL] <;> intros <;> omega
theorem simpleL_call {ds : List DeclL} {sg : List SigL} {k : Nat} {tys : List Int} (hk : k < sg.length) : simpleL ds sg 9 (k : Int) tys = if tys = (sgAt sg k).params then (sgAt sg k).result else -1 := by
  rw [simpleL, if_neg (by omega), if_neg (by omega), if_neg (by omega), if_neg (by omega), if_neg (by omega), if_pos rfl]
  by_cases h : tys = (sgAt sg k).params
  · rw [if_pos ⟨by omega, by omega, by simpa using h⟩, if_pos h]; rfl
  · rw [if_neg (fun h' => h (by simpa using h'.2.2)), if_neg h]
theorem simpleL_close {ds : List DeclL} {sg : List SigL} {k : Nat} {tys : List Int} (hk : k < sg.length) : simpleL ds sg 10 (k : Int) tys = if 0 < (sgAt sg k).params.length ∧ tys = (sgAt sg k).params.take ((sgAt sg k).params.length - 1) then
    arrowL ds (iAt (sgAt sg k).params ((sgAt sg k).params.length - 1)) (sgAt sg k).result else -1 := by
  rw [simpleL, if_neg (by omega), if_neg (by omega), if_neg (by omega), if_neg (by omega), if_neg (by omega), if_neg (by omega), if_pos rfl]
  by_cases h : 0 < (sgAt sg k).params.length ∧ tys = (sgAt sg k).params.take ((sgAt sg k).params.length - 1)
  · rw [if_pos ⟨by omega, by omega, by simpa using h.1, by simpa using h.2⟩, if_pos h]; rfl
  · rw [if_neg (fun h' => h ⟨by simpa using h'.2.2.1, by simpa using h'.2.2.2⟩), if_neg h]

section
variable (ds : List DeclL) (fs : List FuncL)

end
end Go.Proofs.YtkapldpmjkdmcaaGreat
/- copyInts and extend of the reference: rows that grow. -/
namespace Go.Proofs.YtkapldpmjkdmcaaGreat
open Go.RowKit

theorem specCopyRow (A : Option Addr) (m c : Nat) (ys : List Int) (D : Nat → Prop) (w : World) (h : IntsL w D A m ys) (hm : m ≤ 2097152) :
    Calls Tryz.prog 102 #[.slice A m c] w fun e w' => ∃ v, e = .returned v ∧ w'.ownsRow w.heap.size 3 1 v m (ys.map (Value.int .i64)) ∧ Keep w w' := by
  refine calls_k fun Q hQ => ?_
  have HO := Lib.hid (ownEmpty w)
  have hK : Keep w (w.alloc (.cells #[] 3)) := (Ext.refl _ w).alloc _
  have h1 := h.ext hK (fun _ _ h => h)
  go_enter Tryz.func102, Tryz.ntmps102
  go_wp2_with (at_builtin; refine wpList_appInts _ rfl (.tmp 3) (.tmp 4) rfl w.heap.size (.slice (some ⟨w.heap.size, 0, none⟩) 0 0) 0 [] rfl HO.out A m c ys D rfl h1 (by omega) (by simp) ?_; intro v' w' ho hg)
  have hk : Keep w w' := hK.grown hg (fun g hg' => .inl (HO.out.lt g hg').1)
  obtain ⟨a2, cc, rfl, hle, hoi⟩ := own_of_row ho
  exact fin_ hQ ⟨_, rfl, by simpa using ho, hk⟩

theorem specExtend (A : Option Addr) (m c : Nat) (ys : List Int) (D : Nat → Prop) (B : Option Addr) (k d : Nat) (zs : List Int) (E : Nat → Prop) (w : World) (h : IntsL w D A m ys) (hm : m ≤ 2097152) (h2 : IntsL w E B k zs) (hk : k ≤ 2097152) :
    Calls Tryz.prog 149 #[.slice A m c, .slice B k d] w fun e w' => ∃ a' n' c', e = .returned (.slice a' n' c') ∧ n' ≤ c' ∧ OwnInts w' (fun q => w.heap.size ≤ q) a' n' (ys ++ zs) ∧ Keep w w' := by
  refine calls_k fun Q hQ => ?_
  have H2 := Lib.hid h2
  clear h2
  go_enter Tryz.func149, Tryz.ntmps149
  go_wp2_with fail
  refine (specCopyRow _ _ _ _ _ _ h hm).mono ?_
  rintro e w1 ⟨v, rfl, o1, p1⟩
  obtain ⟨a1, c1, rfl, hc1, _⟩ := own_of_row o1
  have O1 := Lib.hid o1
  have h3 := Lib.hid (H2.out.ext p1 (fun _ _ h => h))
  clear o1
  have hz := p1.size
  go_wp2_with (at_builtin; refine wpList_appInts _ rfl (.tmp 6) (.tmp 7) rfl w.heap.size (.slice a1 m c1) m ys rfl O1.out B k d zs E rfl h3.out (by omega) hz ?_; intro v' w' ho hg)
  obtain ⟨a2, cc, rfl, hle, hoi⟩ := own_of_row ho
  exact fin_ hQ ⟨a2, _, cc, rfl, hle, hoi, p1.grown hg (fun g hg' => .inl (O1.out.lt g hg').1)⟩
end Go.Proofs.YtkapldpmjkdmcaaGreat
/- The reference's types of expressions: matches. -/
namespace Go.Proofs.YtkapldpmjkdmcaaGreat
open Go.RowKit

theorem Ext.refl0 (w : World) : Keep w.drew w.drew := Ext.refl _ _
theorem Rd.kd {w : World} {D : Nat → Prop} {d : Dat} {v : Value} (h : Rd w D d v) : Rd w.drew D d v := h.k (Ext.refl (fun _ => False) w).drew
theorem PR.kd {w : World} {ds : List DeclL} {fs : List FuncL} {a0 : Option Addr} {n0 c0 : Nat} {a1 : Option Addr} {n1 c1 : Nat} (h : PR w ds fs a0 n0 c0 a1 n1 c1) : PR w.drew ds fs a0 n0 c0 a1 n1 c1 := h.k (Ext.refl (fun _ => False) w).drew
theorem Keep.dt {w w' : World} (h : Keep w.drew w') : Keep w w' := (Ext.refl _ w).drew.trans h
def matchL (ds : List DeclL) (sg : List SigL) (vars : List Int) (num : Int) (es : List ExprL) : Int :=
  if 0 < (armsL ds num).length ∧ es.length = 1 + (armsL ds num).length ∧ tyHd ds sg vars es = num then oneT (tyTl ds sg vars es (armsL ds num)) else -1
theorem armsL_len (ds : List DeclL) (t : Int) : (armsL ds t).length = (consL ds t).length := by simp [armsL]
theorem armsL_at {ds : List DeclL} {t : Int} {i : Nat} (h : i < (consL ds t).length) : cAt (armsL ds t) i = conFieldsL ds (iAt (consL ds t) i) := by
  rw [cAt_get (by rw [armsL_len]; exact h), iAt_eq h]; simp [armsL]
theorem consL_len {ds : List DeclL} (hf : Few ds) (t : Int) : (consL ds t).length ≤ 3 := by
  unfold consL
  split
  · next h => rw [List.length_map, List.length_range]; exact hf.2 _ (by omega)
  · simp

section
variable (ds : List DeclL) (fs : List FuncL)

end
end Go.Proofs.YtkapldpmjkdmcaaGreat
/- The reference's types of expressions. -/
namespace Go.Proofs.YtkapldpmjkdmcaaGreat
open Go.RowKit

section
variable (ds : List DeclL) (sg : List SigL) (vars : List Int)
theorem simple_0 (num : Int) (tys : List Int) : simpleL ds sg 0 num tys = if tys = [] ∧ -999 ≤ num ∧ num ≤ 999 then 0 else -1 := by rw [simpleL, if_pos rfl]
theorem simple_bin {op : Int} (num : Int) (tys : List Int) (h : op = 1 ∨ op = 2 ∨ op = 3 ∨ op = 4) : simpleL ds sg op num tys = if num = 0 ∧ tys = [0, 0] then 0 else -1 := by rw [simpleL, if_neg (by omega), if_pos h]
theorem simple_5 (num : Int) (tys : List Int) : simpleL ds sg 5 num tys = if num = 0 ∧ tys = [0] then 0 else -1 := by rw [simpleL, if_neg (by omega), if_neg (by omega), if_pos rfl]
theorem simple_11 (num : Int) (tys : List Int) : simpleL ds sg 11 num tys = if num = 0 ∧ tys.length = 2 ∧ isArr ds (iAt tys 0) = true ∧ iAt tys 1 = (dAt ds ((iAt tys 0).toNat - 1)).from_ then (dAt ds ((iAt tys 0).toNat - 1)).to_ else -1 := by rw [simpleL, if_neg (by omega), if_neg (by omega), if_neg (by omega), if_pos rfl]
theorem simple_6 (num : Int) (tys : List Int) : simpleL ds sg 6 num tys = if 0 < conTypeL ds num ∧ tys = conFieldsL ds num then conTypeL ds num else -1 := by rw [simpleL, if_neg (by omega), if_neg (by omega), if_neg (by omega), if_neg (by omega), if_pos rfl]
end

set_option maxHeartbeats 1000000 in
theorem specIsArrow (a : Option Addr) (n c : Nat) (ds : List DeclL) (D : Nat → Prop) (t : Int) (w : World) (h : DeclsR w D a n ds) (hn : n ≤ 1049576) :
    Calls Tryz.prog 152 #[.slice a n c, .int .i64 t] w fun e w' => e = .returned (.bool (isArr ds t)) ∧ w = w' := by
  refine calls_k fun Q hQ => ?_
  have HL := Lib.hid h.1
  by_cases ht : 1 ≤ t ∧ t ≤ (n : Int)
  · obtain ⟨k, rfl⟩ : ∃ k : Nat, t = (k : Int) + 1 := ⟨(t - 1).toNat, by omega⟩
    have hd : decide (1 ≤ (k : Int) + 1 ∧ (k : Int) + 1 ≤ (n : Int)) = true := decide_eq_true ht
    have hk : k < n := by omega
    obtain ⟨b, o, rfl, _, hc⟩ := h.2 (by omega)
    obtain ⟨_, _, a', m, c', c2, _, hcons⟩ := hc k hk
    have V0 : Hid (isArr ds ((k : Int) + 1) = decide (m = 0)) := by
      show _ = _
      rw [isArr, decide_eq_true (by have := HL.out; omega), Bool.true_and, show ((k : Int) + 1).toNat - 1 = k by omega, hcons.1]
    clear hc hcons ht
    rcases Nat.eq_zero_or_pos m with h0 | h0
    · subst h0
      go_enter Tryz.func152, Tryz.ntmps152
      go_wp2_with fail
      refine (specInRange _ _ _ _).mono ?_
      rw [hd]
      rintro e w1 ⟨rfl, rfl⟩
      go_wp2_with fail
      exact fin_ hQ ⟨ret_b (by rw [V0.out]; rfl), rfl⟩
    · have hz : ((m : Int) == 0) = false := by simp; omega
      go_enter Tryz.func152, Tryz.ntmps152
      go_wp2_with fail
      refine (specInRange _ _ _ _).mono ?_
      rw [hd]
      rintro e w1 ⟨rfl, rfl⟩
      go_wp2_with fail
      exact fin_ hQ ⟨ret_b (by rw [V0.out]; exact (decide_eq_false (by omega)).symm), rfl⟩
  · have hd : decide (1 ≤ t ∧ t ≤ (n : Int)) = false := decide_eq_false ht
    have V0 : Hid (isArr ds t = false) := by show _ = _; rw [isArr, decide_eq_false (by rw [HL.out]; exact ht)]; rfl
    clear ht
    go_enter Tryz.func152, Tryz.ntmps152
    go_wp2_with fail
    refine (specInRange _ _ _ _).mono ?_
    rw [hd]
    rintro e w1 ⟨rfl, rfl⟩
    go_wp2_with fail
    exact fin_ hQ ⟨ret_b V0.out.symm, rfl⟩

section
variable (ds : List DeclL) (fs : List FuncL) (hok : sigsOk ds (fs.map sigF) = true)
include hok

end
end Go.Proofs.YtkapldpmjkdmcaaGreat
