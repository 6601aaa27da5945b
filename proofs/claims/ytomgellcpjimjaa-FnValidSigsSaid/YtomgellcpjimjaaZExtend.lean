/- copyInts and extend of the reference: rows that grow. -/
import Derived.Test.YtomgellcpjimjaaGB
import Derived.Test.YtomgellcpjimjaaGA
namespace Go.Proofs.Ytomgellcpjimjaa
open Go.RowKit

theorem specCopyRow (A : Option Addr) (m c : Nat) (ys : List Int) (D : Nat → Prop) (w : World) (h : IntsL w D A m ys) (hm : m ≤ 2097152) :
    Calls Try.prog 76 #[.slice A m c] w fun e w' => ∃ v, e = .returned v ∧ w'.ownsRow w.heap.size 3 1 v m (ys.map (Value.int .i64)) ∧ Keep w w' := by
  refine calls_k fun Q hQ => ?_
  have HO := Lib.hid (ownEmpty w)
  have hK : Keep w (w.alloc (.cells #[] 3)) := (Ext.refl _ w).alloc _
  have h1 := h.ext hK (fun _ _ h => h)
  go_enter Try.func76, Try.ntmps76
  go_wp2_with (at_builtin; refine wpList_appInts _ rfl (.tmp 3) (.tmp 4) rfl w.heap.size (.slice (some ⟨w.heap.size, 0, none⟩) 0 0) 0 [] rfl HO.out A m c ys D rfl h1 (by omega) (by simp) ?_; intro v' w' ho hg)
  have hk : Keep w w' := hK.grown hg (fun g hg' => .inl (HO.out.lt g hg').1)
  obtain ⟨a2, cc, rfl, hle, hoi⟩ := own_of_row ho
  exact fin_ hQ ⟨_, rfl, by simpa using ho, hk⟩

theorem specExtend (A : Option Addr) (m c : Nat) (ys : List Int) (D : Nat → Prop) (B : Option Addr) (k d : Nat) (zs : List Int) (E : Nat → Prop) (w : World) (h : IntsL w D A m ys) (hm : m ≤ 2097152) (h2 : IntsL w E B k zs) (hk : k ≤ 2097152) :
    Calls Try.prog 106 #[.slice A m c, .slice B k d] w fun e w' => ∃ a' n' c', e = .returned (.slice a' n' c') ∧ n' ≤ c' ∧ OwnInts w' (fun q => w.heap.size ≤ q) a' n' (ys ++ zs) ∧ Keep w w' := by
  refine calls_k fun Q hQ => ?_
  have H2 := Lib.hid h2
  clear h2
  go_enter Try.func106, Try.ntmps106
  go_wp2_with fail
  refine (specCopyRow _ _ _ _ _ _ h hm).mono ?_
  rintro e w1 ⟨v, rfl, o1, p1⟩
  obtain ⟨a1, c1, rfl, hc1, _⟩ := own_of_row o1
  have O1 := Lib.hid o1
  have h3 := Lib.hid (H2.out.ext p1 (fun _ _ h => h))
  clear o1
  have hz := p1.size
  go_wp2_with (at_builtin; refine wpList_appInts _ rfl (.tmp 6) (.tmp 7) rfl w.heap.size (.slice a1 m c1) m ys rfl O1.out B k d zs E rfl h3.out (by omega) hz ?_; intro v' w' ho hg)
  obtain ⟨a2, cc, rfl, hle, hoi⟩ := own_of_row ho
  exact fin_ hQ ⟨a2, _, cc, rfl, hle, hoi, p1.grown hg (fun g hg' => .inl (O1.out.lt g hg').1)⟩
end Go.Proofs.Ytomgellcpjimjaa
