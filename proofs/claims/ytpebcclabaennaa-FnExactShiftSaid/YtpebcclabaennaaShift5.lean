/- The closure of Shift of the program. -/
import Derived.Test.YtpebcclabaennaaShift3
import Derived.Test.YtpebcclabaennaaWalk
namespace Go.Proofs.Ytpebcclabaennaa
open Go.RowKit

def vvis (op num : Int) (s : Bool) : Bool := s && vfN op num
mutual
theorem vvisE : ∀ (e : ExprL) (s : Bool), visE vvis e s = (s && vfE e)
  | .mk op num ks, s => by rw [visE, vvisEs ks, vvis, vfE, Bool.and_assoc]
theorem vvisEs : ∀ (es : List ExprL) (s : Bool), visEs vvis es s = (s && vfEs es)
  | [], s => by rw [visEs, vfEs, Bool.and_true]
  | k :: ks, s => by rw [visEs, vvisE k, vvisEs ks, vfEs, Bool.and_assoc]
end

/-- What the visits of Shift keep: block q says whether all is well. -/
def VInv (q : Nat) (_ : Nat) (s : Bool) (w : World) : Prop := w.rowIs q 4 1 (fun _ => .bool s)
theorem VInv.keep {q k : Nat} {s : Bool} {w w' : World} (h : VInv q k s w) (hk : Keep w w') : VInv q k s w' := row_ext h hk (fun h => h)

theorem shClos (q k : Nat) (s : Bool) (op num : Int) (a : Option Addr) (n c : Nat) (w : World) (h : VInv q k s w) :
    Calls Try.prog 77 #[.agg #[.int .i64 op, .int .i64 num, .slice a n c], .pointer (some ⟨q, 0, none⟩)] w fun e w' => e = .returned (.tuple #[]) ∧ VInv q (k + 1) (vvis op num s) w' ∧ Ext (· = q) w w' := by
  refine calls_k fun Q hQ => ?_
  have vq := World.rowIs.cell h (i := 0) (by omega)
  have fq := World.rowIs.frozen h 0
  have lq := World.rowIs.lt h
  have HQ := Lib.hid h
  clear h
  have fin : ∀ b : Bool, vvis op num s = b → VInv q (k + 1) (vvis op num s) ((w.setCell ⟨q, 0, none⟩ (.bool b)).alloc (.cells #[.int .i64 op, .int .i64 num, .slice a n c] 29)) ∧ Ext (· = q) w ((w.setCell ⟨q, 0, none⟩ (.bool b)).alloc (.cells #[.int .i64 op, .int .i64 num, .slice a n c] 29)) := fun b hb => by
    refine ⟨?_, ((Ext.refl (· = q) w).setCell (p := ⟨q, 0, none⟩) (.inr rfl) _).alloc _⟩
    show World.rowIs _ _ _ _ _
    refine ((World.rowIs.set HQ.out 0 (.bool b)).alloc _).congr (fun i hi => ?_)
    rw [if_pos (by omega), hb]
  have FIN := Lib.hid fin
  clear fin
  cases s
  · go_enter Try.func77, Try.ntmps77
    go_wp2
    refine bodyPost_end (v := .tuple #[]) (by simp [results, Try.results77, go_sem]) rfl (fin_ hQ ⟨rfl, FIN.out false rfl⟩)
  · by_cases h1 : op = 12
    · have h1' : (op != 12) = false := by simpa using h1
      by_cases h2 : 0 ≤ num
      · by_cases h3 : num ≤ 99
        · have V : Hid (vvis op num true = true) := by show _ = _; rw [vvis, vfN, decide_eq_true (show 0 ≤ num ∧ num ≤ 99 from ⟨h2, h3⟩)]; simp
          clear h1
          go_enter Try.func77, Try.ntmps77
          go_wp2
          refine bodyPost_end (v := .tuple #[]) (by simp [results, Try.results77, go_sem]) rfl (fin_ hQ ⟨rfl, FIN.out true V.out⟩)
        · have V : Hid (vvis op num true = false) := by show _ = _; rw [vvis, vfN, decide_eq_false (show ¬ (0 ≤ num ∧ num ≤ 99) from fun h => h3 h.2)]; simp [h1]
          clear h1
          go_enter Try.func77, Try.ntmps77
          go_wp2
          refine bodyPost_end (v := .tuple #[]) (by simp [results, Try.results77, go_sem]) rfl (fin_ hQ ⟨rfl, FIN.out false V.out⟩)
      · have V : Hid (vvis op num true = false) := by show _ = _; rw [vvis, vfN, decide_eq_false (show ¬ (0 ≤ num ∧ num ≤ 99) from fun h => h2 h.1)]; simp [h1]
        clear h1
        go_enter Try.func77, Try.ntmps77
        go_wp2
        refine bodyPost_end (v := .tuple #[]) (by simp [results, Try.results77, go_sem]) rfl (fin_ hQ ⟨rfl, FIN.out false V.out⟩)
    · have h1' : (op != 12) = true := by simpa using h1
      have V : Hid (vvis op num true = true) := by show _ = _; rw [vvis, vfN]; simp [h1]
      clear h1
      go_enter Try.func77, Try.ntmps77
      go_wp2
      refine bodyPost_end (v := .tuple #[]) (by simp [results, Try.results77, go_sem]) rfl (fin_ hQ ⟨rfl, FIN.out true V.out⟩)
end Go.Proofs.Ytpebcclabaennaa
