/- Marks: the indices of what is marked. -/
import Derived.Test.YtaeddcnakilnlaaWInsert
import Derived.Test.YtaeddcnakilnlaaMGA
namespace Go.Proofs.Ytaeddcnakilnlaa
open Go.RowKit

set_option maxHeartbeats 2000000 in
theorem implIndicesOf (g n c : Nat) (bs : List Bool) (w : World) (h : w.rowIs g 4 n (fun i => .bool (bAtL bs i))) (hl : bs.length = n) (hn : n ≤ 1000) :
    Calls Try.prog 86 #[.slice (some ⟨g, 0, none⟩) n c] w fun e w' => ∃ a' n' c', e = .returned (.slice a' n' c') ∧ n' ≤ c' ∧ OwnInts w' (fun q => w.heap.size ≤ q) a' n' (idxL bs) ∧ Keep w w' := by
  refine calls_k fun Q hQ => ?_
  have HR := Lib.hid h
  have HL := Lib.hid hl
  clear h hl
  go_enter Try.func86, Try.ntmps86
  go_wp2_with fail
  go_loopw [3, 8] (fun v i wr => ∃ (j : Nat) (out : List Int), j ≤ n ∧ i = .int .i64 j ∧ Hid (out = idxL (bs.take j)) ∧ out.length ≤ j ∧ Hid (wr.ownsRow w.heap.size 3 1 v out.length (out.map (Value.int .i64))) ∧ Keep w wr) (fun _ i _ => n - (intOf i).toNat)
  case atStart => exact ⟨0, [], Nat.zero_le _, rfl, rfl, Nat.le_refl _, World.ownsRow_nil _ _ _ _, Ext.refl _ _⟩
  case round =>
    obtain ⟨j, out, hj, rfl, hO, hol, hown, hK⟩ := hrel
    have hbs : w.heap.size ≤ wr.heap.size := hK.size
    by_cases hlt : j < n
    · have x0 := (row_ext HR.out hK (fun h => h)).cell hlt
      have HJ : Hid (j < bs.length) := by have := HL.out; show _ < _; omega
      cases hb : bAtL bs j
      · have HS : Hid (out = idxL (bs.take (j + 1))) := by show _ = _; rw [idxL_take HJ.out, hb, hO.out]; simp
        rw [hb] at x0
        clear hb
        go_wp2_with fail
        go_roundw
        case rel => exact ⟨j + 1, out, by omega, by go_num, HS, by omega, hown, hK⟩
        case measure => simp [intOf]; omega
      · have HS : Hid (out ++ [(j : Int)] = idxL (bs.take (j + 1))) := by show _ = _; rw [idxL_take HJ.out, hb, hO.out]; simp
        rw [hb] at x0
        clear hb
        go_wp2_with (at_builtin; refine wpList_appInt _ rfl (.tmp 14) (.tmp 16) rfl w.heap.size u3 out.length out rfl (hown.out.alloc _) wr.heap.size 1 (j : Int) rfl (by simp [go_sem]) (by omega) (by simp; omega) ?_; intro v' w' ho hg)
        go_roundw
        case rel => exact ⟨j + 1, out ++ [(j : Int)], by omega, by go_num, HS, by simp; omega, by rw [List.length_append]; exact ho, (hK.alloc _).grown hg (fun g hg' => .inl (hown.out.lt g hg').1)⟩
        case measure => simp [intOf]; omega
    · have HJ : Hid (bs.length ≤ j) := by have := HL.out; show _ ≤ _; omega
      go_wp2
      obtain ⟨a2, cc, rfl, hle, hoi⟩ := own_of_row hown.out
      exact fin_ hQ ⟨a2, _, cc, rfl, hle, by have e := hO.out; rw [List.take_of_length_le HJ.out] at e; subst e; exact hoi, hK⟩

end Go.Proofs.Ytaeddcnakilnlaa
