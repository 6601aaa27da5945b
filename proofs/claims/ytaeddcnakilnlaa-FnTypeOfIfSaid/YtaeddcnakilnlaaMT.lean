/- What the drawn laws on expressions share. -/
import Derived.Test.YtaeddcnakilnlaaMD
import Derived.Test.YtaeddcnakilnlaaWLawHelp
namespace Go.Proofs.Ytaeddcnakilnlaa
open Go.RowKit
set_option maxHeartbeats 400000 in
theorem lawNode (op : Int) (a : Option Addr) (n c : Nat) (w : World) :
    Calls Try.prog 27 #[.int .i64 op, .slice a n c] w fun e w' => e = .returned (.agg #[.int .i64 op, .int .i64 0, .slice a n c]) ∧ Keep w w' := by
  refine calls_k fun Q hQ => ?_
  go_enter Try.func27, Try.ntmps27
  go_wp2
  refine bodyPost_ret (v := .agg #[.int .i64 op, .int .i64 0, .slice a n c]) (by simp [results, Try.results27, go_sem]) rfl (fin_ hQ ⟨rfl, ?_⟩)
  first
    | exact (Ext.refl _ w).alloc _
    | exact (((Ext.refl _ w).alloc _).setCell (.inl (by simp)) _).setCell (.inl (by simp)) _
    | exact ((((Ext.refl _ w).alloc _).setCell (.inl (by simp)) _).setCell (.inl (by simp)) _).setCell (.inl (by simp)) _
set_option maxHeartbeats 400000 in
theorem lawInteger (n : Int) (w : World) :
    Calls Try.prog 32 #[.int .i64 n] w fun e w' => e = .returned (.agg #[.int .i64 0, .int .i64 n, .slice none 0 0]) ∧ Keep w w' := by
  refine calls_k fun Q hQ => ?_
  go_enter Try.func32, Try.ntmps32
  go_wp2
  refine bodyPost_ret (v := .agg #[.int .i64 0, .int .i64 n, .slice none 0 0]) (by simp [results, Try.results32, go_sem]) rfl (fin_ hQ ⟨rfl, ?_⟩)
  first
    | exact (Ext.refl _ w).alloc _
    | exact ((((Ext.refl _ w).alloc _).setCell (.inl (by simp)) _).setCell (.inl (by simp)) _).setCell (.inl (by simp)) _
end Go.Proofs.Ytaeddcnakilnlaa
