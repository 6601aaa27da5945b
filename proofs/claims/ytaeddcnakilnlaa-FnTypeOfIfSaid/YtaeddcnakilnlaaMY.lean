/- The laws' comparisons: integers, constructors, declarations. -/
import Derived.Test.YtaeddcnakilnlaaMGA
import Derived.StillTailTactics
import Derived.Test.YtaeddcnakilnlaaMGB
namespace Go.Proofs.Ytaeddcnakilnlaa
open Go.RowKit

theorem ints_eq {xs ys : List Int} {n : Nat} (hx : xs.length = n) (hy : ys.length = n) (h : ∀ i, i < n → iAt xs i = iAt ys i) : xs = ys := by
  refine List.ext_getElem (by omega) fun i h1 h2 => ?_
  rw [← iAt_eq h1, ← iAt_eq h2]
  exact h i (by omega)
set_option maxHeartbeats 400000 in
theorem equalInts_law (a : Option Addr) (n c : Nat) (a' : Option Addr) (m c' : Nat) (xs ys : List Int) (D D' : Nat → Prop) (w : World) (h : IntsL w D a n xs) (h' : IntsL w D' a' m ys) (hn : n ≤ 1099511627776) :
    Calls Try.prog 39 #[.slice a n c, .slice a' m c'] w fun e w' => e = .returned (.bool (decide (xs = ys))) ∧ Keep w w' := by
  refine calls_k fun Q hQ => ?_
  have HX := Lib.hid h.1
  have HY := Lib.hid h'.1
  by_cases hnm : n = m
  · subst hnm
    go_enter Try.func39, Try.ntmps39
    go_wp2
    go_loopw [5] (fun i wr => ∃ k : Nat, k ≤ n ∧ i = .int .i64 k ∧ Hid (∀ j, j < k → iAt xs j = iAt ys j) ∧ Keep w wr) (fun i _ => n - (intOf i).toNat)
    case atStart => exact ⟨0, Nat.zero_le _, rfl, fun j hj => absurd hj (by omega), Ext.refl _ _⟩
    case round =>
      obtain ⟨k, hk, rfl, H, hK⟩ := hrel
      by_cases hlt : k < n
      · obtain ⟨b, o, rfl, hd, hc⟩ := (h.ext hK (fun _ _ h => h)).2 (by omega)
        obtain ⟨b', o', rfl, hd', hc'⟩ := (h'.ext hK (fun _ _ h => h)).2 (by omega)
        have c0 := hc k hlt
        have c1 := hc' k hlt
        clear hc hc' h h'
        cases hv : (iAt xs k != iAt ys k)
        · have V : Hid (iAt xs k = iAt ys k) := by show _ = _; simpa using hv
          go_wp2
          go_quiet (fail)
          go_wp2
          go_roundw
          case rel => exact ⟨k + 1, by omega, by go_num, fun j hj => by
            rcases Nat.lt_succ_iff_lt_or_eq.1 hj with h | rfl
            · exact H.out j h
            · exact V.out, hK.drewN nq⟩
          case measure => simp [intOf]; omega
        · have V : Hid (iAt xs k ≠ iAt ys k) := by show _ ≠ _; simpa using hv
          go_wp2
          go_quiet (fail)
          go_wp2
          exact fin_ hQ ⟨ret_b (decide_eq_false (fun e => V.out (by rw [e]))).symm, hK.drewN nq⟩
      · go_wp2
        exact fin_ hQ ⟨ret_b (decide_eq_true (ints_eq HX.out HY.out (fun i hi => H.out i (by omega)))).symm, hK⟩
  · have hne : ((n : Int) != (m : Int)) = true := by simp; omega
    go_enter Try.func39, Try.ntmps39
    go_wp2
    exact fin_ hQ ⟨ret_b (decide_eq_false (fun e => hnm (by rw [← HX.out, ← HY.out, e]))).symm, Ext.refl _ _⟩

def SmallC (cs : List (List Int)) : Prop := cs.length ≤ 1099511627776 ∧ ∀ i, i < cs.length → (cAt cs i).length ≤ 1099511627776
def SmallD (ds : List DeclL) : Prop := ds.length ≤ 1099511627776 ∧ ∀ i, i < ds.length → SmallC (dAt ds i).cons

theorem dAt_eta {d e : DeclL} : d = e ↔ d.from_ = e.from_ ∧ d.to_ = e.to_ ∧ d.cons = e.cons := by
  cases d; cases e; simp
instance : DecidableEq DeclL := fun _ _ => decidable_of_iff _ dAt_eta.symm

end Go.Proofs.Ytaeddcnakilnlaa
/- copyInts and extend of the reference: rows that grow. -/
namespace Go.Proofs.Ytaeddcnakilnlaa
open Go.RowKit

theorem specCopyRow (A : Option Addr) (m c : Nat) (ys : List Int) (D : Nat → Prop) (w : World) (h : IntsL w D A m ys) (hm : m ≤ 2097152) :
    Calls Try.prog 66 #[.slice A m c] w fun e w' => ∃ v, e = .returned v ∧ w'.ownsRow w.heap.size 3 1 v m (ys.map (Value.int .i64)) ∧ Keep w w' := by
  refine calls_k fun Q hQ => ?_
  have HO := Lib.hid (ownEmpty w)
  have hK : Keep w (w.alloc (.cells #[] 3)) := (Ext.refl _ w).alloc _
  have h1 := h.ext hK (fun _ _ h => h)
  go_enter Try.func66, Try.ntmps66
  go_wp2_with (at_builtin; refine wpList_appInts _ rfl (.tmp 3) (.tmp 4) rfl w.heap.size (.slice (some ⟨w.heap.size, 0, none⟩) 0 0) 0 [] rfl HO.out A m c ys D rfl h1 (by omega) (by simp) ?_; intro v' w' ho hg)
  have hk : Keep w w' := hK.grown hg (fun g hg' => .inl (HO.out.lt g hg').1)
  obtain ⟨a2, cc, rfl, hle, hoi⟩ := own_of_row ho
  exact fin_ hQ ⟨_, rfl, by simpa using ho, hk⟩

theorem specExtend (A : Option Addr) (m c : Nat) (ys : List Int) (D : Nat → Prop) (B : Option Addr) (k d : Nat) (zs : List Int) (E : Nat → Prop) (w : World) (h : IntsL w D A m ys) (hm : m ≤ 2097152) (h2 : IntsL w E B k zs) (hk : k ≤ 2097152) :
    Calls Try.prog 115 #[.slice A m c, .slice B k d] w fun e w' => ∃ a' n' c', e = .returned (.slice a' n' c') ∧ n' ≤ c' ∧ OwnInts w' (fun q => w.heap.size ≤ q) a' n' (ys ++ zs) ∧ Keep w w' := by
  refine calls_k fun Q hQ => ?_
  have H2 := Lib.hid h2
  clear h2
  go_enter Try.func115, Try.ntmps115
  go_wp2_with fail
  refine (specCopyRow _ _ _ _ _ _ h hm).mono ?_
  rintro e w1 ⟨v, rfl, o1, p1⟩
  obtain ⟨a1, c1, rfl, hc1, _⟩ := own_of_row o1
  have O1 := Lib.hid o1
  have h3 := Lib.hid (H2.out.ext p1 (fun _ _ h => h))
  clear o1
  have hz := p1.size
  go_wp2_with (at_builtin; refine wpList_appInts _ rfl (.tmp 6) (.tmp 7) rfl w.heap.size (.slice a1 m c1) m ys rfl O1.out B k d zs E rfl h3.out (by omega) hz ?_; intro v' w' ho hg)
  obtain ⟨a2, cc, rfl, hle, hoi⟩ := own_of_row ho
  exact fin_ hQ ⟨a2, _, cc, rfl, hle, hoi, p1.grown hg (fun g hg' => .inl (O1.out.lt g hg').1)⟩
end Go.Proofs.Ytaeddcnakilnlaa
/- isIn of the reference. -/
namespace Go.Proofs.Ytaeddcnakilnlaa
open Go.RowKit

theorem mem_iAt {xs : List Int} {y : Int} (h : y ∈ xs) : ∃ i, i < xs.length ∧ iAt xs i = y := by
  obtain ⟨i, hi, rfl⟩ := List.getElem_of_mem h
  exact ⟨i, hi, iAt_get hi⟩
theorem iAt_mem {xs : List Int} {i : Nat} (h : i < xs.length) : iAt xs i ∈ xs := by rw [iAt_get h]; exact List.getElem_mem h

theorem specIsIn (a : Option Addr) (n c : Nat) (xs : List Int) (x : Int) (D : Nat → Prop) (w : World) (h : IntsL w D a n xs) (hn : n ≤ 1048576) :
    Calls Try.prog 133 #[.slice a n c, .int .i64 x] w fun e w' => e = .returned (.bool (decide (x ∈ xs))) ∧ w = w' := by
  refine calls_k fun Q hQ => ?_
  go_enter Try.func133, Try.ntmps133
  go_wp2
  go_loop [5] (fun i => ∃ k : Nat, k ≤ n ∧ i = .int .i64 k ∧ Hid (∀ j, j < k → iAt xs j ≠ x)) (fun i => n - (intOf i).toNat)
  case atStart => exact ⟨0, Nat.zero_le _, rfl, fun j hj => absurd hj (by omega)⟩
  case round =>
    obtain ⟨k, hk, rfl, H⟩ := hrel
    obtain ⟨hlen, hcell⟩ := h
    have HLN := Lib.hid hlen
    clear hlen
    by_cases hlt : k < n
    · obtain ⟨b, o, rfl, hd, hc⟩ := hcell (by omega)
      have h1 := hc k hlt
      clear hc hcell
      obtain ⟨y, hy⟩ : ∃ y, iAt xs k = y := ⟨_, rfl⟩
      rw [hy] at h1
      have HY := Lib.hid hy
      clear hy
      by_cases e : y = x
      · have V : Hid (decide (x ∈ xs) = true) := decide_eq_true (by rw [← e, ← HY.out]; exact iAt_mem (by have := HLN.out; omega))
        have e' : (y == x) = true := by simpa using e
        clear e
        go_wp2
        exact fin_ hQ ⟨ret_b V.out.symm, rfl⟩
      · have e' : (y == x) = false := by simpa using e
        have HN : Hid (iAt xs k ≠ x) := by show _ ≠ _; rw [HY.out]; exact e
        clear e
        go_wp2
        go_round
        case rel => exact ⟨k + 1, by omega, by go_num, fun j hj => by rcases Nat.lt_succ_iff_lt_or_eq.1 hj with h | rfl; exact H.out j h; exact HN.out⟩
        case measure => simp [intOf]; omega
    · have V : Hid (decide (x ∈ xs) = false) := decide_eq_false (fun hm => by
        obtain ⟨i, hi, e⟩ := mem_iAt hm
        exact H.out i (by have := HLN.out; omega) e)
      clear hcell
      go_wp2
      exact fin_ hQ ⟨ret_b V.out.symm, rfl⟩
end Go.Proofs.Ytaeddcnakilnlaa
