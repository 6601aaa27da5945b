/- insert of the reference. -/
import Derived.Test.YtaeddcnakilnlaaWSetPlain
import Derived.Test.YtaeddcnakilnlaaMGA
namespace Go.Proofs.Ytaeddcnakilnlaa
open Go.RowKit

theorem OwnInts.toOwn {w : World} {D : Nat → Prop} {a : Option Addr} {n c : Nat} {xs : List Int} (h : OwnInts w D a n xs) (hc : n ≤ c) (hm : n ≤ 9223372036854775807) : Own w D (encInts xs) (.slice a n c) := by
  obtain ⟨h1, h2⟩ := h
  subst h1
  rcases Nat.eq_zero_or_pos xs.length with h0 | h0
  · have : xs = [] := List.eq_nil_of_length_eq_zero h0
    subst this
    exact .nil _ 1 a c
  · obtain ⟨b, N, f, rfl, hd, hN, hr, hcell⟩ := h2 h0
    have q := Own.arr (w := w) D (fun _ _ _ => False) 1 (xs.map rowI) b c 3 N f hd (by simpa using h0) (by omega) (by simpa using hc) (by simpa using hm)
      (fun i hi => by rw [ints_row xs i (by simpa using hi)]; rfl) (by simpa using hN) hr (fun _ _ _ _ _ h => h.elim) (fun _ _ _ _ _ _ _ _ _ h => h.elim) (fun i j hi hj => by
        obtain rfl : j = 0 := by omega
        rw [Nat.mul_one, Nat.add_zero, rAt, ints_row xs i (by simpa using hi), hcell i (by simpa using hi)]
        exact .num _ _)
    rw [ints_len] at q
    exact q

set_option maxHeartbeats 2000000 in
theorem specInsert (a : Option Addr) (n c : Nat) (xs : List Int) (x : Int) (D : Nat → Prop) (w : World) (h : IntsL w D a n xs) (hn : n ≤ 1048576) :
    Calls Try.prog 132 #[.slice a n c, .int .i64 x] w fun e w' => ∃ a' n' c', e = .returned (.slice a' n' c') ∧ n' ≤ c' ∧ OwnInts w' (fun q => w.heap.size ≤ q) a' n' (insL xs x) ∧ Keep w w' := by
  refine calls_k fun Q hQ => ?_
  have HL := Lib.hid h.1
  have hK0 : Keep w (w.alloc (.cells #[] 3)) := Keep.al _ _
  have hown0 := Lib.hid (ownEmpty w)
  have H := Lib.hid h
  clear h
  go_enter Try.func132, Try.ntmps132
  go_wp2_with fail
  go_loopw [5, 6, 7] (fun v d i wr => ∃ (j : Nat) (out : List Int) (done : Bool), j ≤ n ∧ i = .int .i64 j ∧ d = .bool done ∧ out.length ≤ j + (if done = true then 1 else 0) ∧ Hid (InsR xs x j out done) ∧ Hid (wr.ownsRow w.heap.size 3 1 v out.length (out.map (Value.int .i64))) ∧ Keep w wr) (fun _ _ i _ => n - (intOf i).toNat)
  case atStart => exact ⟨0, [], false, Nat.zero_le _, rfl, rfl, by simp, InsR.start xs x, hown0, hK0⟩
  case round =>
    obtain ⟨j, out, done, hj, rfl, rfl, hol, hI, hown, hK⟩ := hrel
    have hbs : w.heap.size ≤ wr.heap.size := hK.size
    have hol : out.length ≤ j + (if done = true then 1 else 0) := hol
    by_cases hlt : j < n
    · obtain ⟨b, o, rfl, hd, hc⟩ := H.out.2 (by omega)
      have hx0 := hc j hlt
      have hx2 := (hK.cell (World.block_lt_of_cell? _ _ hx0) (fun h => h)).trans hx0
      have HJ : Hid (j < xs.length) := by have := HL.out; show _ < _; omega
      clear hc
      cases done
      · simp only [Bool.false_eq_true, if_false, Nat.add_zero] at hol
        by_cases hx : iAt xs j < x
        · generalize hz : iAt xs j = z at hx hx2
          have HZ := Lib.hid hz
          have hx3 : ¬ x ≤ z := by omega
          clear hz hx0
          go_wp2_with (at_builtin; refine wpList_appInt _ rfl (.tmp 35) (.tmp 40) rfl w.heap.size u5 out.length out rfl (hown.out.alloc _) wr.heap.size 1 z rfl (by simp [go_sem]) (by omega) (by simp; omega) ?_; intro v' w' ho hg)
          go_roundw
          case rel => exact ⟨j + 1, out ++ [z], false, by omega, by go_num, rfl, by simp; omega, by show InsR _ _ _ _ _; rw [← HZ.out]; exact hI.out.low HJ.out (by rw [HZ.out]; exact hx), by rw [List.length_append]; exact ho, (hK.alloc _).grown hg (fun g hg' => .inl (hown.out.lt g hg').1)⟩
          case measure => simp [intOf]; omega
        · by_cases hx1 : x < iAt xs j
          · generalize hz : iAt xs j = z at hx hx1 hx2 hx0
            have HZ := Lib.hid hz
            have hx3 : x ≤ z := by omega
            have HX0 := Lib.hid hx0
            have bnd := Lib.hid (fun g hg' => (hown.out.lt g hg').1)
            clear hz hx hx0
            go_wp2_with (first
              | (at_builtin; refine wpList_appInt _ rfl (.tmp 31) (.tmp 33) rfl w.heap.size u5 out.length out rfl (hown.out.alloc _) wr.heap.size 1 x rfl (by simp [go_sem]) (by omega) (by simp; omega) ?_; intro v1 w1 ho1 hg1; have hX1 := (hK.alloc (.cells #[.int .i64 x] 3)).grown hg1 (fun g hg' => .inl (bnd.out g hg')); have hy := (hX1.cell (World.block_lt_of_cell? _ _ HX0.out) (fun h => h)).trans HX0.out; have ho2 := Lib.hid ho1; have hbs1 : w.heap.size ≤ w1.heap.size := hX1.size; clear ho1 hg1 hx2)
              | (at_builtin; refine wpList_appInt _ rfl (.tmp 35) (.tmp 40) rfl w.heap.size v1 (out.length + 1) (out ++ [x]) rfl (ho2.out.alloc _) w1.heap.size 1 z rfl (by simp [go_sem]) (by omega) (by simp; omega) ?_; intro v' w' ho hg))
            go_roundw
            case rel => exact ⟨j + 1, out ++ [x] ++ [z], true, by omega, by go_num, rfl, by simp; omega, by show InsR _ _ _ _ _; rw [← HZ.out]; exact hI.out.over HJ.out (by rw [HZ.out]; exact hx1), by rw [List.length_append, List.length_append]; exact ho, (hX1.alloc _).grown hg (fun g hg' => .inl (ho2.out.lt g hg').1)⟩
            case measure => simp [intOf]; omega
          · have hxe : x = iAt xs j := by omega
            generalize hz : iAt xs j = z at hx hx1 hx2 hxe
            subst hxe
            have HZ := Lib.hid hz
            have hx3 : x ≤ x := by omega
            clear hz hx hx0
            go_wp2_with (at_builtin; refine wpList_appInt _ rfl (.tmp 35) (.tmp 40) rfl w.heap.size u5 out.length out rfl (hown.out.alloc _) wr.heap.size 1 x rfl (by simp [go_sem]) (by omega) (by simp; omega) ?_; intro v' w' ho hg)
            go_roundw
            case rel => exact ⟨j + 1, out ++ [x], true, by omega, by go_num, rfl, by simp; omega, by have h := hI.out.same HJ.out HZ.out; rw [HZ.out] at h; exact h, by rw [List.length_append]; exact ho, (hK.alloc _).grown hg (fun g hg' => .inl (hown.out.lt g hg').1)⟩
            case measure => simp [intOf]; omega
      · simp only [if_true] at hol
        generalize hz : iAt xs j = z at hx2
        have HZ := Lib.hid hz
        clear hz hx0
        go_wp2_with (at_builtin; refine wpList_appInt _ rfl (.tmp 35) (.tmp 40) rfl w.heap.size u5 out.length out rfl (hown.out.alloc _) wr.heap.size 1 z rfl (by simp [go_sem]) (by omega) (by simp; omega) ?_; intro v' w' ho hg)
        go_roundw
        case rel => exact ⟨j + 1, out ++ [z], true, by omega, by go_num, rfl, by simp; omega, by show InsR _ _ _ _ _; rw [← HZ.out]; exact hI.out.rest HJ.out, by rw [List.length_append]; exact ho, (hK.alloc _).grown hg (fun g hg' => .inl (hown.out.lt g hg').1)⟩
        case measure => simp [intOf]; omega
    · have HJ : Hid (xs.length ≤ j) := by have := HL.out; show _ ≤ _; omega
      cases done
      · simp only [Bool.false_eq_true, if_false, Nat.add_zero] at hol
        go_wp2_with (at_builtin; refine wpList_appInt _ rfl (.tmp 44) (.tmp 46) rfl w.heap.size u5 out.length out rfl (hown.out.alloc _) wr.heap.size 1 x rfl (by simp [go_sem]) (by omega) (by simp; omega) ?_; intro v' w' ho hg)
        obtain ⟨a2, cc, rfl, hle, hoi⟩ := own_of_row ho
        exact fin_ hQ ⟨a2, _, cc, rfl, hle, by rw [← hI.out.last HJ.out]; exact hoi, (hK.alloc _).grown hg (fun g hg' => .inl (hown.out.lt g hg').1)⟩
      · go_wp2
        obtain ⟨a2, cc, rfl, hle, hoi⟩ := own_of_row hown.out
        exact fin_ hQ ⟨a2, _, cc, rfl, hle, by rw [← hI.out.done HJ.out]; exact hoi, hK⟩
end Go.Proofs.Ytaeddcnakilnlaa
