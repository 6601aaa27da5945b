/- The generator of programs: overTree. -/
import Derived.Test.YtkapldpmjkdmcaaGreatRAO
namespace Go.Proofs.YtkapldpmjkdmcaaGreat
open Go.RowKit

theorem Ev.below {w : World} {s : Nat} {D : Nat → Prop} {x : ExprL} {a : Option Addr} {n c m : Nat} (h : Ev w s D x a n c) (hm : w.heap.size ≤ m) : Ev w s (fun k => D k ∧ k < m) x a n c := ⟨h.r, h.k.lt.mono (fun k hk => ⟨hk.1, by omega⟩)⟩

/-- A variable of its own that holds an expression, and the state. -/
def OtC (B g : Nat) (ds : List DeclL) (fs : List FuncL) (a0 : Option Addr) (n0 c0 : Nat) (a1 : Option Addr) (n1 c1 : Nat) (M : Int) (s : Nat) (w : World) (wx : World) : Prop :=
  ∃ (y : ExprL) (a : Option Addr) (n c : Nat) (q : Int), Hid (Ev wx s (fun k => w.heap.size + 2 ≤ k ∧ k ≠ s) y a n c) ∧ Hid (allE (gfit 1000) y) ∧ Hid (Gs w wx B g ds fs a0 n0 c0 a1 n1 c1 q) ∧ Hid (q ≤ M)
/-- What is behind the sum (overTree): a variable of its own that holds an expression, the two calls. -/
def OtB (B g : Nat) (ds : List DeclL) (fs : List FuncL) (a0 : Option Addr) (n0 c0 : Nat) (a1 : Option Addr) (n1 c1 : Nat) (M : Int) (m0 sA sB : Nat) (xl xr : ExprL) (al : Option Addr) (nl cl : Nat) (ar : Option Addr) (nr cr : Nat) (w : World) (v : Value) (wx : World) : Prop :=
  ∃ (s : Nat), v = .pointer (some ⟨s, 0, none⟩) ∧ Hid (m0 ≤ s) ∧ Hid (OtC B g ds fs a0 n0 c0 a1 n1 c1 M s w wx) ∧ Hid (Ev wx sA (fun k => w.heap.size + 2 ≤ k ∧ k < m0) xl al nl cl) ∧ Hid (Ev wx sB (fun k => w.heap.size + 2 ≤ k ∧ k < m0) xr ar nr cr)
section
variable {B g s m0 sA sB : Nat} {ds : List DeclL} {fs : List FuncL} {a0 : Option Addr} {n0 c0 : Nat} {a1 : Option Addr} {n1 c1 : Nat} {M q op num : Int} {w wx : World} {z xl xr : ExprL} {az am al ar : Option Addr} {nz cz nm cm nl cl nr cr : Nat} {ks : List ExprL} {Dz : Nat → Prop}
theorem OtC.mk (G : Gs w wx B g ds fs a0 n0 c0 a1 n1 c1 q) (EZ : Ev wx s Dz z az nz cz) (RM : Rd wx (fun k => w.heap.size + 2 ≤ k ∧ k ≠ s) (encExprs ks) (.slice am nm cm)) (hs : w.heap.size + 2 ≤ s) (hf : allE (gfit 1000) (.mk op num ks)) (hq : q ≤ M) :
    OtC B g ds fs a0 n0 c0 a1 n1 c1 M s w (((wx.setCell ⟨s, 0, none⟩ (.int .i64 op)).setCell ⟨s, 1, none⟩ (.int .i64 num)).setCell ⟨s, 2, none⟩ (.slice am nm cm)) :=
  ⟨.mk op num ks, am, nm, cm, q, EZ.store (y := .mk op num ks) RM (fun k hk => hk.2), hf, G.e (ext3 wx s (.int .i64 op) (.int .i64 num) (.slice am nm cm)) (fun k hk => by subst hk; exact hs), hq⟩
theorem OtB.mk (G : Gs w wx B g ds fs a0 n0 c0 a1 n1 c1 q) (EA : Ev wx sA (fun k => w.heap.size + 2 ≤ k ∧ k < m0) xl al nl cl) (EB : Ev wx sB (fun k => w.heap.size + 2 ≤ k ∧ k < m0) xr ar nr cr) (EZ : Ev wx s Dz z az nz cz) (RM : Rd wx (fun k => w.heap.size + 2 ≤ k ∧ k ≠ s) (encExprs ks) (.slice am nm cm)) (hs : m0 ≤ s) (hm : w.heap.size + 2 ≤ m0) (hA : sA < m0) (hB : sB < m0) (hf : allE (gfit 1000) (.mk op num ks)) (hq : q ≤ M) :
    OtB B g ds fs a0 n0 c0 a1 n1 c1 M m0 sA sB xl xr al nl cl ar nr cr w (.pointer (some ⟨s, 0, none⟩)) (((wx.setCell ⟨s, 0, none⟩ (.int .i64 op)).setCell ⟨s, 1, none⟩ (.int .i64 num)).setCell ⟨s, 2, none⟩ (.slice am nm cm)) := by
  have Y := ext3 wx s (.int .i64 op) (.int .i64 num) (.slice am nm cm)
  exact ⟨s, rfl, hs, OtC.mk G EZ RM (by omega) hf hq, EA.ext Y (by omega) (fun k hk => by omega), EB.ext Y (by omega) (fun k hk => by omega)⟩
end

set_option maxRecDepth 100000 in
set_option maxHeartbeats 8000000 in
theorem specOverTree (ds : List DeclL) (fs : List FuncL) (B g k : Nat) (hG : GoodG ds fs) (hk : k < fs.length) (p : Int) (a0 : Option Addr) (n0 c0 : Nat) (a1 : Option Addr) (n1 c1 : Nat) (w : World) (hpg : PG w g ds fs a0 n0 c0 a1 n1 c1) (hr : Rdx w B g p) (hBw : B ≤ w.heap.size) (hp : p + 5000 ≤ 900000000000) :
    Calls Tryz.prog 219 #[.pointer (some ⟨g, 0, none⟩), .agg #[.slice a0 n0 c0, .slice a1 n1 c1], .int .i64 (k : Int)] w (GenP B g p 5000 1000 w) := by
  refine calls_k fun Q hQ => ?_
  have HG := Lib.hid hG
  have HPP := Lib.hid hp
  have hgB := hr.gB
  have hgw : g < w.heap.size := by omega
  have G0 := Lib.hid (Gs.start hpg hr hBw)
  have hds := hG.len4
  have hfs := hG.len
  have hn0 : n0 ≤ 4 := by have := (decls_at hpg.d).1; omega
  have hn1 : n1 ≤ 4 := by have := (funcs_at hpg.f).1; omega
  obtain ⟨b, o, rfl, ⟨hbg, hbw⟩, ap, np, cp, ab, nb, cb, g0, g1, _, _, _, rp, _⟩ := (funcs_at hpg.f.lt).2.2.2 k (by have := (funcs_at hpg.f).1; omega)
  have hk1 : k < n1 := by have := (funcs_at hpg.f).1; omega
  have HC1 := Lib.hid g1
  have HV : Hid (Rd w (fun k => k ≠ g) (encInts (fAt fs k).params) (.slice ap np cp)) := rp.mono (fun k h => h.1)
  have SG := Lib.hid (hG.sig hk)
  have HPL := Lib.hid (ints_at rp).1
  have hnp3 : np ≤ 3 := by have := (hG.sig hk).1; have := (ints_at rp).1; omega
  have kk0 : (0 : Int) ≤ (k : Int) := by omega
  have kk1 : (k : Int) < (n1 : Int) := by omega
  have gg0 := at_al (o := .cells #[.int .i64 0, .int .i64 0, .slice none 0 0] 58) (at_al (o := .cells #[.slice a0 n0 c0, .slice (some ⟨b, o, none⟩) n1 c1] 44) g0)
  have hbne : ¬ b = w.heap.size := by omega
  have hbne1 : ¬ b = w.heap.size + 1 := by omega
  have hsum : IntKind.i64.wrap ((np : Int) + 2) = (np : Int) + 2 := IntWalk.i64_in _ (by omega)
  clear hG hpg hr hBw g0 g1 rp hp
  go_enter Tryz.func219, Tryz.ntmps219
  go_wp2_with fail
  refine (specVariableG _ _).mono ?_
  rintro e w1 ⟨a1v, c1v, rfl, k1⟩
  clear gg0
  go_wp2_with fail
  refine (specVariableG _ _).mono ?_
  rintro e w2 ⟨a2v, c2v, rfl, k2⟩
  have hl1 : w.heap.size + 2 ≤ w1.heap.size := (G0.out.k k1).lt
  have hl2 : w1.heap.size + 1 ≤ w2.heap.size := by have := k2.size; simp at this; omega
  have G2 := Lib.hid (((G0.out.k k1).k (Keep.al _ (.cells #[.int .i64 12, .int .i64 (np : Int), .slice a1v 0 c1v] 58))).k k2 |>.k (Keep.al _ (.cells #[.int .i64 12, .int .i64 ((np : Int) + 2), .slice a2v 0 c2v] 58)))
  have A1 := Lib.hid ((((lit_exprA w1 (fun _ => False) 58 12 (np : Int) [] a1v 0 c1v (.nil 3 _ _)).lower (base' := w.heap.size + 2) hl1).keep k2).keep (Keep.al _ (.cells #[.int .i64 12, .int .i64 ((np : Int) + 2), .slice a2v 0 c2v] 58)))
  have A2 := Lib.hid ((lit_exprA w2 (fun _ => False) 58 12 ((np : Int) + 2) [] a2v 0 c2v (.nil 3 _ _)).lower (base' := w.heap.size + 2) (by omega))
  have HO : Hid (∀ m, (Value.slice (some ⟨w1.heap.size, 0, none⟩) 1 1).ownBlock = some m → (Value.slice (some ⟨w2.heap.size, 0, none⟩) 1 1).ownBlock ≠ some m) := by
    intro m h1 h2
    have e1 := Option.some.inj h1
    have e2 := Option.some.inj h2
    change w1.heap.size = m at e1
    change w2.heap.size = m at e2
    omega
  clear k1 k2 G0
  go_wp2_with fail
  go_loopw [9, 10, 11] (fun o1 o2 iv wr => ∃ (j : Nat) (es1 es2 : List ExprL), 1 ≤ j ∧ (j ≤ np ∨ j = 1) ∧ iv = .int .i64 j ∧ Hid (AccR wr (w.heap.size + 2) (fun _ => False) 58 3 o1 (es1.map rowE)) ∧ Hid (AccR wr (w.heap.size + 2) (fun _ => False) 58 3 o2 (es2.map rowE)) ∧ Hid (es1.length = j ∧ es2.length = j) ∧ Hid (∀ x, x ∈ es1 ++ es2 → x.kids = [] ∧ allE (gfit 1000) x) ∧ Hid (∀ m, o1.ownBlock = some m → o2.ownBlock ≠ some m) ∧ Hid (Gs w wr B g ds fs a0 n0 c0 (some ⟨b, o, none⟩) n1 c1 p)) (fun _ _ i _ => np - (intOf i).toNat)
  case atStart => exact ⟨1, [.mk 12 np []], [.mk 12 ((np : Int) + 2) []], Nat.le_refl _, .inr rfl, rfl, A1, A2, ⟨rfl, rfl⟩, fun x hx => by
    simp only [List.cons_append, List.nil_append, List.mem_cons, List.not_mem_nil, or_false] at hx
    rcases hx with rfl | rfl
    · exact ⟨rfl, ⟨by omega, by omega⟩, trivial⟩
    · exact ⟨rfl, ⟨by omega, by omega⟩, trivial⟩, HO, G2⟩
  case round =>
    clear A1 A2 G2 HO
    obtain ⟨j, es1, es2, hj1, hj, rfl, hA1, hA2, hl, hes, hO, hS⟩ := hrel
    by_cases hlt : j < np
    · have hlt3 : (j : Int) < (np : Int) := by omega
      go_wp2_with fail
      refine (specVariableG _ _).mono ?_
      rintro e w3 ⟨a3, c3, rfl, k3⟩
      have S3 := Lib.hid ((hS.out.k k3).k (Keep.al _ (.cells #[.int .i64 12, .int .i64 (j : Int), .slice a3 0 c3] 58)))
      have B1 := Lib.hid ((hA1.out.keep k3).keep (Keep.al _ (.cells #[.int .i64 12, .int .i64 (j : Int), .slice a3 0 c3] 58)))
      have B1m : Hid (AccR _ _ (fun k => w.heap.size + 2 ≤ k) _ _ _ _) := B1.out.mono (fun k h => h.elim)
      have B2 := Lib.hid ((hA2.out.keep k3).keep (Keep.al _ (.cells #[.int .i64 12, .int .i64 (j : Int), .slice a3 0 c3] 58)))
      have bnd := Lib.hid (hA1.out.keep k3).bound
      have bnd2 := Lib.hid B2.out.bound
      have hl3 := (hS.out.k k3).lt
      have hz3 : (w3.alloc (.cells #[.int .i64 12, .int .i64 (j : Int), .slice a3 0 c3] 58)).heap.size = w3.heap.size + 1 := World.size_alloc _ _
      have hXl := Lib.hid (lit_expr w3 (fun k => w.heap.size + 2 ≤ k ∧ u9.ownBlock ≠ some k) 58 12 (j : Int) [] a3 0 c3 ⟨by omega, fun e => by have := bnd.out _ e; omega⟩ (.nil 3 _ _))
      have HLR : Hid ((es1.map rowE).length ≤ 3 ∧ (es2.map rowE).length ≤ 3) := by show _ ∧ _; rw [List.length_map, List.length_map]; have := hl.out; omega
      clear k3 hA1 hA2 hS
      go_wp2_with (at_builtin; refine wpList_appO _ rfl (.tmp 35) (.tmp 38) 56 rfl (w.heap.size + 2) 58 (.agg #[.int .i64 0, .int .i64 0, .slice none 0 0]) 3 40 Tryz.underlying56 (by kernel_rfl) rfl (by omega) (fun k => w.heap.size + 2 ≤ k) _ _ rfl B1m.out _ 1 1 _ _ rfl hXl.out (fun k _ hk => hk) (by have := HLR.out; omega) (by have := HLR.out; omega) (by omega) ?_; intro v7 w7 A7 xA hO7; have S7 := Lib.hid (S3.out.e xA (fun k hk => (bnd.out k hk).1)); have B7 := Lib.hid (B2.out.extO xA (fun k h => h.elim) (fun m hm h => hO.out m h hm)); have A8 := Lib.hid A7; have HO7 : Hid (v7.ownBlock = u9.ownBlock ∨ v7.ownBlock = some (w3.heap.size + 1)) := (by rw [hz3] at hO7; exact hO7); clear A7 xA hO7 S3 B2 B1 B1m hXl)
      refine (specVariableG _ _).mono ?_
      rintro e w5 ⟨a5, c5, rfl, k5⟩
      have S5 := Lib.hid ((S7.out.k k5).k (Keep.al _ (.cells #[.int .i64 12, .int .i64 (j : Int), .slice a5 0 c5] 58)))
      have C1 := Lib.hid ((A8.out.keep k5).keep (Keep.al _ (.cells #[.int .i64 12, .int .i64 (j : Int), .slice a5 0 c5] 58)))
      have C2 : Hid (AccR _ _ (fun k => w.heap.size + 2 ≤ k) _ _ _ _) := ((B7.out.keep k5).keep (Keep.al _ (.cells #[.int .i64 12, .int .i64 (j : Int), .slice a5 0 c5] 58))).mono (fun k h => h.elim)
      have bnd5 := Lib.hid (B7.out.keep k5).bound
      have hl5 := (S7.out.k k5).lt
      have hz5 : (w5.alloc (.cells #[.int .i64 12, .int .i64 (j : Int), .slice a5 0 c5] 58)).heap.size = w5.heap.size + 1 := World.size_alloc _ _
      have hXm := Lib.hid (lit_expr w5 (fun k => w.heap.size + 2 ≤ k ∧ u10.ownBlock ≠ some k) 58 12 (j : Int) [] a5 0 c5 ⟨by omega, fun e => by have := bnd5.out _ e; omega⟩ (.nil 3 _ _))
      have HOs : Hid (∀ m, u10.ownBlock = some m → v7.ownBlock ≠ some m) := by
        intro m h1 h2
        rcases HO7.out with e | e
        · exact hO.out m (by rw [← e]; exact h2) h1
        · rw [e] at h2
          have := Option.some.inj h2
          have := bnd2.out m h1
          omega
      clear k5 A8 B7 S7
      go_wp2_with (at_builtin; go_must (refine wpList_appO _ rfl (.tmp 40) (.tmp 43) 56 rfl (w.heap.size + 2) 58 (.agg #[.int .i64 0, .int .i64 0, .slice none 0 0]) 3 40 Tryz.underlying56 (by kernel_rfl) rfl (by omega) (fun k => w.heap.size + 2 ≤ k) _ _ rfl C2.out _ 1 1 _ _ rfl hXm.out (fun k _ hk => hk) (by have := HLR.out; omega) (by have := HLR.out; omega) (by omega) ?_); intro v8 w8 A9 xB hO8; have S9 := Lib.hid (S5.out.e xB (fun k hk => (bnd5.out k hk).1)); have D1 := Lib.hid ((C1.out.leafs' (D' := fun _ => False) (es := es1 ++ [.mk 12 (j : Int) []]) (by rw [List.map_append]) (by intro x hx; rcases List.mem_append.1 hx with h | h; exact (hes.out x (List.mem_append_left _ h)).1; cases List.mem_singleton.1 h; rfl)).extO xB (fun k h => h.elim) (fun m hm h => HOs.out m h hm)); have D2 := Lib.hid (A9.leafs' (D' := fun _ => False) (es := es2 ++ [.mk 12 (j : Int) []]) (by rw [List.map_append]) (by intro x hx; rcases List.mem_append.1 hx with h | h; exact (hes.out x (List.mem_append_right _ h)).1; cases List.mem_singleton.1 h; rfl)); have HO8 : Hid (v8.ownBlock = u10.ownBlock ∨ v8.ownBlock = some (w5.heap.size + 1)) := (by rw [hz5] at hO8; exact hO8); have bD1 := Lib.hid (C1.out.bound); clear A9 xB hO8 C1 C2 hXm)
      go_roundw
      case rel => exact ⟨j + 1, es1 ++ [.mk 12 (j : Int) []], es2 ++ [.mk 12 (j : Int) []], by omega, by omega, by go_num, D1, D2, by show _ ∧ _; rw [List.length_append, List.length_append, hl.out.1, hl.out.2]; exact ⟨rfl, rfl⟩, fun x hx => by
        rcases List.mem_append.1 hx with h | h
        · rcases List.mem_append.1 h with h | h
          · exact hes.out x (List.mem_append_left _ h)
          · rw [List.mem_singleton.1 h]; exact ⟨rfl, ⟨by omega, by omega⟩, trivial⟩
        · rcases List.mem_append.1 h with h | h
          · exact hes.out x (List.mem_append_right _ h)
          · rw [List.mem_singleton.1 h]; exact ⟨rfl, ⟨by omega, by omega⟩, trivial⟩, fun m h1 h2 => by
        rcases HO8.out with e | e
        · exact HOs.out m (by rw [← e]; exact h2) h1
        · rw [e] at h2
          have := Option.some.inj h2
          have := bD1.out m h1
          omega, S9⟩
      case measure => simp [intOf]; omega
    · obtain ⟨ak, ck, e, _, _, rd1⟩ := hA1.out.read (by omega)
      obtain ⟨bk, dk, e', _, _, rd2⟩ := hA2.out.read (by omega)
      rw [List.length_map] at e e'
      subst e
      subst e'
      have RD1 : Hid (Rd wr (fun k => w.heap.size + 2 ≤ k) (encExprs es1) (.slice ak es1.length ck)) := by
        show Rd _ _ (.arr 3 (rowsE es1)) _
        rw [rowsE_map]
        exact rd1.mono (fun k hk => hk.elim (fun h => h.elim) id)
      have RD2 : Hid (Rd wr (fun k => w.heap.size + 2 ≤ k) (encExprs es2) (.slice bk es2.length dk)) := by
        show Rd _ _ (.arr 3 (rowsE es2)) _
        rw [rowsE_map]
        exact rd2.mono (fun k hk => hk.elim (fun h => h.elim) id)
      have FL : Hid (allE (gfit 1000) (.mk 9 (k : Int) es1)) := ⟨⟨by omega, by omega⟩, allEs_of (fun x hx => (hes.out x (List.mem_append_left _ hx)).2)⟩
      have FR : Hid (allE (gfit 1000) (.mk 9 (k : Int) es2)) := ⟨⟨by omega, by omega⟩, allEs_of (fun x hx => (hes.out x (List.mem_append_right _ hx)).2)⟩
      clear rd1 rd2 hA1 hA2 hes hO hj hj1
      go_wp2_with fail
      refine (specNodeG _ _ _ _ _ _).mono ?_
      rintro e w5 ⟨rfl, k5⟩
      have S5 := Lib.hid ((hS.out.k k5).k (Keep.al w5 (.cells #[.int .i64 9, .int .i64 (k : Int), .slice ak es1.length ck] 58)))
      have hl5 := (hS.out.k k5).lt
      have EA0 : Hid (Ev (w5.alloc (.cells #[.int .i64 9, .int .i64 (k : Int), .slice ak es1.length ck] 58)) w5.heap.size (fun k => w.heap.size + 2 ≤ k) (.mk 9 (k : Int) es1) ak es1.length ck) := Ev.born w5 (fun k => w.heap.size + 2 ≤ k) (.mk 9 (k : Int) es1) ak es1.length ck (RD1.out.k k5)
      have RD3 := Lib.hid ((RD2.out.k k5).k (Keep.al w5 (.cells #[.int .i64 9, .int .i64 (k : Int), .slice ak es1.length ck] 58)))
      clear k5 hS RD1 RD2
      go_wp2_with fail
      refine (specNodeG _ _ _ _ _ _).mono ?_
      rintro e w6 ⟨rfl, k6⟩
      have hl6 : w5.heap.size + 1 ≤ w6.heap.size := by have := k6.size; simp at this; omega
      have GS := Lib.hid ((S5.out.k k6).k (Keep.al w6 (.cells #[.int .i64 9, .int .i64 (k : Int), .slice bk es2.length dk] 58)))
      have EA1 := Lib.hid ((EA0.out.keep k6).keep (Keep.al w6 (.cells #[.int .i64 9, .int .i64 (k : Int), .slice bk es2.length dk] 58)))
      have EB1 : Hid (Ev (w6.alloc (.cells #[.int .i64 9, .int .i64 (k : Int), .slice bk es2.length dk] 58)) w6.heap.size (fun k => w.heap.size + 2 ≤ k) (.mk 9 (k : Int) es2) bk es2.length dk) := Ev.born w6 (fun k => w.heap.size + 2 ≤ k) (.mk 9 (k : Int) es2) bk es2.length dk (RD3.out.k k6)
      clear k6 S5 EA0 RD3
      go_upto_region 12 with fail
      generalize hW : w6.alloc (.cells #[.int .i64 9, .int .i64 (k : Int), .slice bk es2.length dk] 58) = wq at *
      clear hW
      generalize hA : w5.heap.size = sA at *
      clear hA
      generalize hB : w6.heap.size = sB at *
      clear hB
      obtain ⟨m0, hm0⟩ : ∃ m0, m0 = wq.heap.size := ⟨_, rfl⟩
      have EA := Lib.hid ((EA1.out.below (m := m0) (by omega)).keep (Ext.refl (fun _ => False) wq).drew)
      have EB := Lib.hid ((EB1.out.below (m := m0) (by omega)).keep (Ext.refl (fun _ => False) wq).drew)
      have HM0 : Hid (w.heap.size + 2 ≤ m0 ∧ sA < m0 ∧ sB < m0) := by have h1 := EA1.out.lt; have h2 := EB1.out.lt; have h3 := GS.out.lt; show _ ∧ _ ∧ _; omega
      replace GS := Lib.hid GS.out.dr
      have hAg : sA ≠ g := by omega
      have hBg : sB ≠ g := by omega
      have hq : Hid (p ≤ p + 1600) := by show _ ≤ _; omega
      have hdz : m0 ≤ wq.drew.heap.size := Nat.le_of_eq hm0
      have hzA : sA < m0 := HM0.out.2.1
      have hlm0 : w.heap.size + 2 ≤ m0 := HM0.out.1
      have hzB : sB < m0 := HM0.out.2.2
      clear EA1 EB1 hm0 hl5 hl6 hlt
      have x0 : wq.drew.cell? ⟨w.heap.size, 0, none⟩ = some (.slice a0 n0 c0) := GS.out.bx.x0
      have x1 : wq.drew.cell? ⟨w.heap.size, 1, none⟩ = some (.slice (some ⟨b, o, none⟩) n1 c1) := GS.out.bx.x1
      have e0 : wq.drew.cell? ⟨sA, 0, none⟩ = some (.int .i64 9) := EA.out.v0
      have e1 : wq.drew.cell? ⟨sA, 1, none⟩ = some (.int .i64 (k : Int)) := EA.out.v1
      have e2 : wq.drew.cell? ⟨sA, 2, none⟩ = some (.slice ak es1.length ck) := EA.out.v2
      have d0 : wq.drew.cell? ⟨sB, 0, none⟩ = some (.int .i64 9) := EB.out.v0
      have d1 : wq.drew.cell? ⟨sB, 1, none⟩ = some (.int .i64 (k : Int)) := EB.out.v1
      have d2 : wq.drew.cell? ⟨sB, 2, none⟩ = some (.slice bk es2.length dk) := EB.out.v2
      go_cut [14] (fun s14 wx => OtB B g ds fs a0 n0 c0 (some ⟨b, o, none⟩) n1 c1 (p + 1600) m0 sA sB (.mk 9 (k : Int) es1) (.mk 9 (k : Int) es2) ak es1.length ck bk es2.length dk w s14 wx)
      case first =>
        refine wp_region_held_drew (S := fun w' => w'.cell? ⟨w.heap.size, 0, none⟩ = some (.slice a0 n0 c0) ∧ w'.cell? ⟨w.heap.size, 1, none⟩ = some (.slice (some ⟨b, o, none⟩) n1 c1) ∧ w'.cell? ⟨sA, 0, none⟩ = some (.int .i64 9) ∧ w'.cell? ⟨sA, 1, none⟩ = some (.int .i64 (k : Int)) ∧ w'.cell? ⟨sA, 2, none⟩ = some (.slice ak es1.length ck) ∧ w'.cell? ⟨sB, 0, none⟩ = some (.int .i64 9) ∧ w'.cell? ⟨sB, 1, none⟩ = some (.int .i64 (k : Int)) ∧ w'.cell? ⟨sB, 2, none⟩ = some (.slice bk es2.length dk)) (by kernel_rfl) ⟨x0, x1, e0, e1, e2, d0, d1, d2⟩ (fun hHeld => ?_)
        have pc : Hid (Ext (· = g) wq.drew wq.drew) := Ext.refl _ _
        generalize wq.drew = W0 at *
        refine wT 0 hHeld ?_
        try go_frame
        refine wT 1 hHeld ?_
        try go_frame
        refine wT 2 hHeld ?_
        try go_frame
        refine wT 3 hHeld ?_
        try go_frame
        refine wT 7 hHeld ?_
        try go_frame
        refine wpAnyH_ready (rs := [4, 12]) (by kernel_rfl) (by simp) ?_
        refine allReadyH_consL rfl (by rfl) (fun K hK => ?_) (allReadyH_consL rfl (by rfl) (fun K hK => ?_) (AllReadyH.nil))
        · go_simp
          obtain ⟨sy1, hsy1⟩ : ∃ s, s = W0.heap.size := ⟨_, rfl⟩
          obtain ⟨y1, hW⟩ : ∃ N, N = W0.alloc (.cells #[.int .i64 3, .int .i64 0, .int .i64 3] 3) := ⟨_, rfl⟩
          rw [← hsy1, ← hW]
          have kk : Keep W0 y1 := by rw [hW]; exact Keep.al _ _
          have hzy1 : W0.heap.size + 1 ≤ y1.heap.size := by rw [hW]; exact Nat.le_of_eq (World.size_alloc _ _).symm
          have hisy1 : W0.heap.size ≤ sy1 := by omega
          have hlt := GS.out.lt
          have TY : Hid (Rd y1 (fun k => k ≠ g) (encInts [3, 0, 3]) (.slice (some ⟨sy1, 0, none⟩) 3 3)) := by
            rw [hW, hsy1]
            exact lit_intsD W0 (fun k => k ≠ g) 3 [3, 0, 3] #[.int .i64 3, .int .i64 0, .int .i64 3] 3 (by omega) rfl rfl (by omega)
          replace pc := Lib.hid (pc.out.trans (Keep.to kk))
          replace GS := Lib.hid (GS.out.k kk)
          replace EA := Lib.hid (EA.out.keep kk)
          replace EB := Lib.hid (EB.out.keep kk)
          clear kk hW hlt hsy1
          refine hK.out _ _ ⟨pc.out.at x0 (by show w.heap.size ≠ g; omega), pc.out.at x1 (by show w.heap.size ≠ g; omega), pc.out.at e0 hAg, pc.out.at e1 hAg, pc.out.at e2 hAg, pc.out.at d0 hBg, pc.out.at d1 hBg, pc.out.at d2 hBg⟩ (fun hHeld => ?_)
          clear hK K
          try go_frame
          refine wpAnyH_ready (rs := [5, 12]) (by kernel_rfl) (by simp) ?_
          refine allReadyH_consL rfl (by rfl) (fun K hK => ?_) (allReadyH_consL rfl (by rfl) (fun K hK => ?_) (AllReadyH.nil))
          · go_simp
            go_at_call 149
            refine (specExtend ap np cp (fAt fs k).params _ _ 3 3 [3, 0, 3] _ _ (HV.out.g GS.out.x).toInts (by omega) TY.out.toInts (by omega)).mono ?_
            rintro e y2 ⟨ae, ne, ce, rfl, hne, hea, xi⟩
            have hlt := GS.out.lt
            replace pc := Lib.hid (pc.out.trans (Keep.to xi))
            replace GS := Lib.hid (GS.out.k xi)
            replace EA := Lib.hid (EA.out.keep xi)
            replace EB := Lib.hid (EB.out.keep xi)
            replace TY := Lib.hid (TY.out.k xi)
            have hnl := (ints_at HV.out).1
            obtain rfl : ne = np + 3 := (by have h1 := hea.1; rw [List.length_append] at h1; simp at h1; omega)
            have VB := Lib.hid ((hea.read.toRd hne (by omega)).mono (D' := fun k => k ≠ g) (fun k hk => by change y1.heap.size ≤ k at hk; omega))
            clear hea xi hlt hnl
            refine hK.out _ _ ⟨pc.out.at x0 (by show w.heap.size ≠ g; omega), pc.out.at x1 (by show w.heap.size ≠ g; omega), pc.out.at e0 hAg, pc.out.at e1 hAg, pc.out.at e2 hAg, pc.out.at d0 hBg, pc.out.at d1 hBg, pc.out.at d2 hBg⟩ (fun hHeld => ?_)
            clear hK K
            try go_frame
            refine wpAnyH_ready (rs := [6, 12]) (by kernel_rfl) (by simp) ?_
            refine allReadyH_consL rfl (by rfl) (fun K hK => ?_) (allReadyH_consL rfl (by rfl) (fun K hK => ?_) (AllReadyH.nil))
            · go_simp
              go_at_call 228
              refine (specGen ds fs B g HG.out 4 0 ((fAt fs k).params ++ [3, 0, 3]) ae (np + 3) ce p _ _ _ _ _ _ y2 ⟨by omega, by omega⟩ GS.out.p VB.out (by omega) GS.out.r GS.out.b (by have h1 := HPP.out; have h3 := pkG_4; have h4 : pkG 4 = 1600 := h3; omega)).mono ?_
              rintro e y3 ⟨x, ax, nx, cx, q6, rfl, rx, fx, r6, hq6, xi⟩
              have hlt := GS.out.lt
              replace pc := Lib.hid (pc.out.trans xi)
              replace EA := Lib.hid (EA.out.ext xi (by omega) (fun k hk => by first | exact (hk : False).elim | omega))
              replace EB := Lib.hid (EB.out.ext xi (by omega) (fun k hk => by first | exact (hk : False).elim | omega))
              replace VB := Lib.hid (VB.out.ext xi (fun k hk => by omega))
              replace GS := Lib.hid (GS.out.c xi r6)
              have FX := Lib.hid fx
              have HQ6 := Lib.hid hq6
              have RX := Lib.hid (rx.mono (D' := (fun k => w.heap.size + 2 ≤ k)) (fun k hk => by omega))
              clear rx fx r6 hq6 xi hlt
              refine hK.out _ _ ⟨pc.out.at x0 (by show w.heap.size ≠ g; omega), pc.out.at x1 (by show w.heap.size ≠ g; omega), pc.out.at e0 hAg, pc.out.at e1 hAg, pc.out.at e2 hAg, pc.out.at d0 hBg, pc.out.at d1 hBg, pc.out.at d2 hBg⟩ (fun hHeld => ?_)
              clear hK K
              try go_frame
              refine wpAnyH_ready (rs := [8, 12]) (by kernel_rfl) (by simp) ?_
              refine allReadyH_consL rfl (by rfl) (fun K hK => ?_) (allReadyH_consL rfl (by rfl) (fun K hK => ?_) (AllReadyH.nil))
              · go_simp
                obtain ⟨sy4, hsy4⟩ : ∃ s, s = y3.heap.size := ⟨_, rfl⟩
                obtain ⟨y4, hW⟩ : ∃ N, N = y3.alloc (.cells #[.int .i64 x.op, .int .i64 x.num, .slice ax nx cx, .int .i64 9, .int .i64 (k : Int), .slice bk es2.length dk] 58) := ⟨_, rfl⟩
                rw [← hsy4, ← hW]
                have kk : Keep y3 y4 := by rw [hW]; exact Keep.al _ _
                have hzy4 : y3.heap.size + 1 ≤ y4.heap.size := by rw [hW]; exact Nat.le_of_eq (World.size_alloc _ _).symm
                have hisy4 : y3.heap.size ≤ sy4 := by omega
                have hlt := GS.out.lt
                have RL : Hid (Rd y4 (fun k => w.heap.size + 2 ≤ k) (encExprs [x, (.mk 9 (k : Int) es2)]) (.slice (some ⟨sy4, 0, none⟩) 2 2)) := by
                  rw [hW, hsy4]
                  exact lit_expr2 y3 (fun k => w.heap.size + 2 ≤ k) 58 x (.mk 9 (k : Int) es2) ax nx cx bk es2.length dk (by omega) ((RX.out).mono (fun k hk => by omega)) ((EB.out.k).mono (fun k hk => by omega))
                replace pc := Lib.hid (pc.out.trans (Keep.to kk))
                replace GS := Lib.hid (GS.out.k kk)
                replace EA := Lib.hid (EA.out.keep kk)
                replace EB := Lib.hid (EB.out.keep kk)
                replace RX := Lib.hid (RX.out.k kk)
                clear kk hW hlt hsy4
                refine hK.out _ _ ⟨pc.out.at x0 (by show w.heap.size ≠ g; omega), pc.out.at x1 (by show w.heap.size ≠ g; omega), pc.out.at e0 hAg, pc.out.at e1 hAg, pc.out.at e2 hAg, pc.out.at d0 hBg, pc.out.at d1 hBg, pc.out.at d2 hBg⟩ (fun hHeld => ?_)
                clear hK K
                try go_frame
                refine wpAnyH_ready (rs := [9, 12]) (by kernel_rfl) (by simp) ?_
                refine allReadyH_consL rfl (by rfl) (fun K hK => ?_) (allReadyH_consL rfl (by rfl) (fun K hK => ?_) (AllReadyH.nil))
                · go_simp
                  go_at_call 212
                  refine (specNodeG 1 0 _ _ _ _).mono ?_
                  rintro e y5 ⟨rfl, xi⟩
                  replace pc := Lib.hid (pc.out.trans (Keep.to xi))
                  replace GS := Lib.hid (GS.out.k xi)
                  replace EA := Lib.hid (EA.out.keep xi)
                  replace EB := Lib.hid (EB.out.keep xi)
                  replace RX := Lib.hid (RX.out.k xi)
                  replace RL := Lib.hid (RL.out.k xi)
                  clear xi
                  refine hK.out _ _ ⟨pc.out.at x0 (by show w.heap.size ≠ g; omega), pc.out.at x1 (by show w.heap.size ≠ g; omega), pc.out.at e0 hAg, pc.out.at e1 hAg, pc.out.at e2 hAg, pc.out.at d0 hBg, pc.out.at d1 hBg, pc.out.at d2 hBg⟩ (fun hHeld => ?_)
                  clear hK K
                  try go_frame
                  refine wpAnyH_ready (rs := [10, 12]) (by kernel_rfl) (by simp) ?_
                  refine allReadyH_consL rfl (by rfl) (fun K hK => ?_) (allReadyH_consL rfl (by rfl) (fun K hK => ?_) (AllReadyH.nil))
                  · go_simp
                    obtain ⟨sy6, hsy6⟩ : ∃ s, s = y5.heap.size := ⟨_, rfl⟩
                    obtain ⟨y6, hW⟩ : ∃ N, N = y5.alloc (.cells #[.int .i64 9, .int .i64 (k : Int), .slice ak es1.length ck, .int .i64 1, .int .i64 0, .slice (some ⟨sy4, 0, none⟩) 2 2] 58) := ⟨_, rfl⟩
                    rw [← hsy6, ← hW]
                    have kk : Keep y5 y6 := by rw [hW]; exact Keep.al _ _
                    have hzy6 : y5.heap.size + 1 ≤ y6.heap.size := by rw [hW]; exact Nat.le_of_eq (World.size_alloc _ _).symm
                    have hisy6 : y5.heap.size ≤ sy6 := by omega
                    have hlt := GS.out.lt
                    have RM : Hid (Rd y6 (fun k => w.heap.size + 2 ≤ k) (encExprs [(.mk 9 (k : Int) es1), (.mk 1 0 [x, (.mk 9 (k : Int) es2)])]) (.slice (some ⟨sy6, 0, none⟩) 2 2)) := by
                      rw [hW, hsy6]
                      exact lit_expr2 y5 (fun k => w.heap.size + 2 ≤ k) 58 (.mk 9 (k : Int) es1) (.mk 1 0 [x, (.mk 9 (k : Int) es2)]) ak es1.length ck (some ⟨sy4, 0, none⟩) 2 2 (by omega) ((EA.out.k).mono (fun k hk => by omega)) ((RL.out).mono (fun k hk => by omega))
                    replace pc := Lib.hid (pc.out.trans (Keep.to kk))
                    replace GS := Lib.hid (GS.out.k kk)
                    replace EA := Lib.hid (EA.out.keep kk)
                    replace EB := Lib.hid (EB.out.keep kk)
                    replace RX := Lib.hid (RX.out.k kk)
                    replace RL := Lib.hid (RL.out.k kk)
                    clear kk hW hlt hsy6
                    refine hK.out _ _ ⟨pc.out.at x0 (by show w.heap.size ≠ g; omega), pc.out.at x1 (by show w.heap.size ≠ g; omega), pc.out.at e0 hAg, pc.out.at e1 hAg, pc.out.at e2 hAg, pc.out.at d0 hBg, pc.out.at d1 hBg, pc.out.at d2 hBg⟩ (fun hHeld => ?_)
                    clear hK K
                    try go_frame
                    refine wpAnyH_ready (rs := [11, 12]) (by kernel_rfl) (by simp) ?_
                    refine allReadyH_consL rfl (by rfl) (fun K hK => ?_) (allReadyH_consL rfl (by rfl) (fun K hK => ?_) (AllReadyH.nil))
                    · go_simp
                      go_at_call 212
                      refine (specNodeG 1 0 _ _ _ _).mono ?_
                      rintro e y7 ⟨rfl, xi⟩
                      replace pc := Lib.hid (pc.out.trans (Keep.to xi))
                      replace GS := Lib.hid (GS.out.k xi)
                      replace EA := Lib.hid (EA.out.keep xi)
                      replace EB := Lib.hid (EB.out.keep xi)
                      replace RX := Lib.hid (RX.out.k xi)
                      replace RL := Lib.hid (RL.out.k xi)
                      replace RM := Lib.hid (RM.out.k xi)
                      clear xi
                      refine hK.out _ _ ⟨pc.out.at x0 (by show w.heap.size ≠ g; omega), pc.out.at x1 (by show w.heap.size ≠ g; omega), pc.out.at e0 hAg, pc.out.at e1 hAg, pc.out.at e2 hAg, pc.out.at d0 hBg, pc.out.at d1 hBg, pc.out.at d2 hBg⟩ (fun hHeld => ?_)
                      clear hK K
                      try go_frame
                      refine wO 12 (fun K hK => ?_)
                      go_simp
                      obtain ⟨sy8, hsy8⟩ : ∃ s, s = y7.heap.size := ⟨_, rfl⟩
                      obtain ⟨y8, hW⟩ : ∃ N, N = y7.alloc (.cells #[.int .i64 0, .int .i64 0, .slice none 0 0] 58) := ⟨_, rfl⟩
                      rw [← hsy8, ← hW]
                      have kk : Keep y7 y8 := by rw [hW]; exact Keep.al _ _
                      have hzy8 : y7.heap.size + 1 ≤ y8.heap.size := by rw [hW]; exact Nat.le_of_eq (World.size_alloc _ _).symm
                      have hisy8 : y7.heap.size ≤ sy8 := by omega
                      have hpz := pc.out.size
                      have EZ : Hid (Ev y8 sy8 (fun _ => False) (.mk 0 0 []) none 0 0) := by
                        rw [hW, hsy8]
                        exact Ev.born y7 _ (.mk 0 0 []) none 0 0 (.nil 3 _ _)
                      replace RX := Lib.hid (RX.out.lt.mono (D' := fun k => w.heap.size + 2 ≤ k ∧ k ≠ sy8) (fun k hk => by omega))
                      replace RL := Lib.hid (RL.out.lt.mono (D' := fun k => w.heap.size + 2 ≤ k ∧ k ≠ sy8) (fun k hk => by omega))
                      replace RM := Lib.hid (RM.out.lt.mono (D' := fun k => w.heap.size + 2 ≤ k ∧ k ≠ sy8) (fun k hk => by omega))
                      have hm0 : m0 ≤ sy8 := by omega
                      replace pc := Lib.hid (pc.out.trans (Keep.to kk))
                      replace GS := Lib.hid (GS.out.k kk)
                      replace EA := Lib.hid (EA.out.keep kk)
                      replace EB := Lib.hid (EB.out.keep kk)
                      replace RX := Lib.hid (RX.out.k kk)
                      replace RL := Lib.hid (RL.out.k kk)
                      replace RM := Lib.hid (RM.out.k kk)
                      clear kk hW hpz hsy8
                      refine hK.out _ _ ⟨pc.out.at x0 (by show w.heap.size ≠ g; omega), pc.out.at x1 (by show w.heap.size ≠ g; omega), pc.out.at e0 hAg, pc.out.at e1 hAg, pc.out.at e2 hAg, pc.out.at d0 hBg, pc.out.at d1 hBg, pc.out.at d2 hBg⟩ (fun hHeld => ?_)
                      clear hK K
                      try go_frame
                      refine wO 13 (fun K hK => ?_)
                      have c0 := EZ.out.v0
                      have c1 := EZ.out.v1
                      have c2 := EZ.out.v2
                      have g0 := EZ.out.g0
                      have g1 := EZ.out.g1
                      have g2 := EZ.out.g2
                      have hs0 : w.heap.size ≠ sy8 := by omega
                      have hsAs : sA ≠ sy8 := by omega
                      have hsBs : sB ≠ sy8 := by omega
                      go_simp
                      refine hK.out _ _ ⟨at_set3 (pc.out.at x0 (by show w.heap.size ≠ g; omega)) hs0, at_set3 (pc.out.at x1 (by show w.heap.size ≠ g; omega)) hs0, at_set3 (pc.out.at e0 hAg) hsAs, at_set3 (pc.out.at e1 hAg) hsAs, at_set3 (pc.out.at e2 hAg) hsAs, at_set3 (pc.out.at d0 hBg) hsBs, at_set3 (pc.out.at d1 hBg) hsBs, at_set3 (pc.out.at d2 hBg) hsBs⟩ (fun hHeld => ?_)
                      clear hK K
                      try go_frame
                      refine wpAnyH_done (by kernel_rfl) ?_ _
                      have hlt := GS.out.lt
                      go_wp2_with fail
                      go_meet
                      case rel => exact OtB.mk (op := 1) (num := 0) (ks := [(.mk 9 (k : Int) es1), .mk 1 0 [x, (.mk 9 (k : Int) es2)]]) GS.out EA.out EB.out EZ.out RM.out hm0 HM0.out.1 HM0.out.2.1 HM0.out.2.2 ⟨⟨by omega, by omega⟩, FL.out, ⟨⟨by omega, by omega⟩, FX.out, FR.out, trivial⟩, trivial⟩ (by have h1 := HQ6.out; have h3 := pkG_4; omega)
                    · go_simp
                      obtain ⟨sy7, hsy7⟩ : ∃ s, s = y6.heap.size := ⟨_, rfl⟩
                      obtain ⟨y7, hW⟩ : ∃ N, N = y6.alloc (.cells #[.int .i64 0, .int .i64 0, .slice none 0 0] 58) := ⟨_, rfl⟩
                      rw [← hsy7, ← hW]
                      have kk : Keep y6 y7 := by rw [hW]; exact Keep.al _ _
                      have hzy7 : y6.heap.size + 1 ≤ y7.heap.size := by rw [hW]; exact Nat.le_of_eq (World.size_alloc _ _).symm
                      have hisy7 : y6.heap.size ≤ sy7 := by omega
                      have hpz := pc.out.size
                      have EZ : Hid (Ev y7 sy7 (fun _ => False) (.mk 0 0 []) none 0 0) := by
                        rw [hW, hsy7]
                        exact Ev.born y6 _ (.mk 0 0 []) none 0 0 (.nil 3 _ _)
                      replace RX := Lib.hid (RX.out.lt.mono (D' := fun k => w.heap.size + 2 ≤ k ∧ k ≠ sy7) (fun k hk => by omega))
                      replace RL := Lib.hid (RL.out.lt.mono (D' := fun k => w.heap.size + 2 ≤ k ∧ k ≠ sy7) (fun k hk => by omega))
                      replace RM := Lib.hid (RM.out.lt.mono (D' := fun k => w.heap.size + 2 ≤ k ∧ k ≠ sy7) (fun k hk => by omega))
                      have hm0 : m0 ≤ sy7 := by omega
                      replace pc := Lib.hid (pc.out.trans (Keep.to kk))
                      replace GS := Lib.hid (GS.out.k kk)
                      replace EA := Lib.hid (EA.out.keep kk)
                      replace EB := Lib.hid (EB.out.keep kk)
                      replace RX := Lib.hid (RX.out.k kk)
                      replace RL := Lib.hid (RL.out.k kk)
                      replace RM := Lib.hid (RM.out.k kk)
                      clear kk hW hpz hsy7
                      refine hK.out _ _ ⟨pc.out.at x0 (by show w.heap.size ≠ g; omega), pc.out.at x1 (by show w.heap.size ≠ g; omega), pc.out.at e0 hAg, pc.out.at e1 hAg, pc.out.at e2 hAg, pc.out.at d0 hBg, pc.out.at d1 hBg, pc.out.at d2 hBg⟩ (fun hHeld => ?_)
                      clear hK K
                      try go_frame
                      refine wO 11 (fun K hK => ?_)
                      go_simp
                      go_at_call 212
                      refine (specNodeG 1 0 _ _ _ _).mono ?_
                      rintro e y8 ⟨rfl, xi⟩
                      replace pc := Lib.hid (pc.out.trans (Keep.to xi))
                      replace GS := Lib.hid (GS.out.k xi)
                      replace EA := Lib.hid (EA.out.keep xi)
                      replace EB := Lib.hid (EB.out.keep xi)
                      replace RX := Lib.hid (RX.out.k xi)
                      replace RL := Lib.hid (RL.out.k xi)
                      replace RM := Lib.hid (RM.out.k xi)
                      replace EZ := Lib.hid (EZ.out.keep xi)
                      clear xi
                      refine hK.out _ _ ⟨pc.out.at x0 (by show w.heap.size ≠ g; omega), pc.out.at x1 (by show w.heap.size ≠ g; omega), pc.out.at e0 hAg, pc.out.at e1 hAg, pc.out.at e2 hAg, pc.out.at d0 hBg, pc.out.at d1 hBg, pc.out.at d2 hBg⟩ (fun hHeld => ?_)
                      clear hK K
                      try go_frame
                      refine wO 13 (fun K hK => ?_)
                      have c0 := EZ.out.v0
                      have c1 := EZ.out.v1
                      have c2 := EZ.out.v2
                      have g0 := EZ.out.g0
                      have g1 := EZ.out.g1
                      have g2 := EZ.out.g2
                      have hs0 : w.heap.size ≠ sy7 := by omega
                      have hsAs : sA ≠ sy7 := by omega
                      have hsBs : sB ≠ sy7 := by omega
                      go_simp
                      refine hK.out _ _ ⟨at_set3 (pc.out.at x0 (by show w.heap.size ≠ g; omega)) hs0, at_set3 (pc.out.at x1 (by show w.heap.size ≠ g; omega)) hs0, at_set3 (pc.out.at e0 hAg) hsAs, at_set3 (pc.out.at e1 hAg) hsAs, at_set3 (pc.out.at e2 hAg) hsAs, at_set3 (pc.out.at d0 hBg) hsBs, at_set3 (pc.out.at d1 hBg) hsBs, at_set3 (pc.out.at d2 hBg) hsBs⟩ (fun hHeld => ?_)
                      clear hK K
                      try go_frame
                      refine wpAnyH_done (by kernel_rfl) ?_ _
                      have hlt := GS.out.lt
                      go_wp2_with fail
                      go_meet
                      case rel => exact OtB.mk (op := 1) (num := 0) (ks := [(.mk 9 (k : Int) es1), .mk 1 0 [x, (.mk 9 (k : Int) es2)]]) GS.out EA.out EB.out EZ.out RM.out hm0 HM0.out.1 HM0.out.2.1 HM0.out.2.2 ⟨⟨by omega, by omega⟩, FL.out, ⟨⟨by omega, by omega⟩, FX.out, FR.out, trivial⟩, trivial⟩ (by have h1 := HQ6.out; have h3 := pkG_4; omega)
                  · go_simp
                    obtain ⟨sy6, hsy6⟩ : ∃ s, s = y5.heap.size := ⟨_, rfl⟩
                    obtain ⟨y6, hW⟩ : ∃ N, N = y5.alloc (.cells #[.int .i64 0, .int .i64 0, .slice none 0 0] 58) := ⟨_, rfl⟩
                    rw [← hsy6, ← hW]
                    have kk : Keep y5 y6 := by rw [hW]; exact Keep.al _ _
                    have hzy6 : y5.heap.size + 1 ≤ y6.heap.size := by rw [hW]; exact Nat.le_of_eq (World.size_alloc _ _).symm
                    have hisy6 : y5.heap.size ≤ sy6 := by omega
                    have hpz := pc.out.size
                    have EZ : Hid (Ev y6 sy6 (fun _ => False) (.mk 0 0 []) none 0 0) := by
                      rw [hW, hsy6]
                      exact Ev.born y5 _ (.mk 0 0 []) none 0 0 (.nil 3 _ _)
                    replace RX := Lib.hid (RX.out.lt.mono (D' := fun k => w.heap.size + 2 ≤ k ∧ k ≠ sy6) (fun k hk => by omega))
                    replace RL := Lib.hid (RL.out.lt.mono (D' := fun k => w.heap.size + 2 ≤ k ∧ k ≠ sy6) (fun k hk => by omega))
                    have hm0 : m0 ≤ sy6 := by omega
                    replace pc := Lib.hid (pc.out.trans (Keep.to kk))
                    replace GS := Lib.hid (GS.out.k kk)
                    replace EA := Lib.hid (EA.out.keep kk)
                    replace EB := Lib.hid (EB.out.keep kk)
                    replace RX := Lib.hid (RX.out.k kk)
                    replace RL := Lib.hid (RL.out.k kk)
                    clear kk hW hpz hsy6
                    refine hK.out _ _ ⟨pc.out.at x0 (by show w.heap.size ≠ g; omega), pc.out.at x1 (by show w.heap.size ≠ g; omega), pc.out.at e0 hAg, pc.out.at e1 hAg, pc.out.at e2 hAg, pc.out.at d0 hBg, pc.out.at d1 hBg, pc.out.at d2 hBg⟩ (fun hHeld => ?_)
                    clear hK K
                    try go_frame
                    refine wO 10 (fun K hK => ?_)
                    go_simp
                    obtain ⟨sy7, hsy7⟩ : ∃ s, s = y6.heap.size := ⟨_, rfl⟩
                    obtain ⟨y7, hW⟩ : ∃ N, N = y6.alloc (.cells #[.int .i64 9, .int .i64 (k : Int), .slice ak es1.length ck, .int .i64 1, .int .i64 0, .slice (some ⟨sy4, 0, none⟩) 2 2] 58) := ⟨_, rfl⟩
                    rw [← hsy7, ← hW]
                    have kk : Keep y6 y7 := by rw [hW]; exact Keep.al _ _
                    have hzy7 : y6.heap.size + 1 ≤ y7.heap.size := by rw [hW]; exact Nat.le_of_eq (World.size_alloc _ _).symm
                    have hisy7 : y6.heap.size ≤ sy7 := by omega
                    have hlt := GS.out.lt
                    have hls := EZ.out.lt
                    have RM : Hid (Rd y7 (fun k => w.heap.size + 2 ≤ k ∧ k ≠ sy6) (encExprs [(.mk 9 (k : Int) es1), (.mk 1 0 [x, (.mk 9 (k : Int) es2)])]) (.slice (some ⟨sy7, 0, none⟩) 2 2)) := by
                      rw [hW, hsy7]
                      exact lit_expr2 y6 (fun k => w.heap.size + 2 ≤ k ∧ k ≠ sy6) 58 (.mk 9 (k : Int) es1) (.mk 1 0 [x, (.mk 9 (k : Int) es2)]) ak es1.length ck (some ⟨sy4, 0, none⟩) 2 2 (by omega) ((EA.out.k).mono (fun k hk => by omega)) ((RL.out).mono (fun k hk => by omega))
                    replace pc := Lib.hid (pc.out.trans (Keep.to kk))
                    replace GS := Lib.hid (GS.out.k kk)
                    replace EA := Lib.hid (EA.out.keep kk)
                    replace EB := Lib.hid (EB.out.keep kk)
                    replace RX := Lib.hid (RX.out.k kk)
                    replace RL := Lib.hid (RL.out.k kk)
                    replace EZ := Lib.hid (EZ.out.keep kk)
                    clear kk hW hlt hsy7
                    refine hK.out _ _ ⟨pc.out.at x0 (by show w.heap.size ≠ g; omega), pc.out.at x1 (by show w.heap.size ≠ g; omega), pc.out.at e0 hAg, pc.out.at e1 hAg, pc.out.at e2 hAg, pc.out.at d0 hBg, pc.out.at d1 hBg, pc.out.at d2 hBg⟩ (fun hHeld => ?_)
                    clear hK K
                    try go_frame
                    refine wO 11 (fun K hK => ?_)
                    go_simp
                    go_at_call 212
                    refine (specNodeG 1 0 _ _ _ _).mono ?_
                    rintro e y8 ⟨rfl, xi⟩
                    replace pc := Lib.hid (pc.out.trans (Keep.to xi))
                    replace GS := Lib.hid (GS.out.k xi)
                    replace EA := Lib.hid (EA.out.keep xi)
                    replace EB := Lib.hid (EB.out.keep xi)
                    replace RX := Lib.hid (RX.out.k xi)
                    replace RL := Lib.hid (RL.out.k xi)
                    replace EZ := Lib.hid (EZ.out.keep xi)
                    replace RM := Lib.hid (RM.out.k xi)
                    clear xi
                    refine hK.out _ _ ⟨pc.out.at x0 (by show w.heap.size ≠ g; omega), pc.out.at x1 (by show w.heap.size ≠ g; omega), pc.out.at e0 hAg, pc.out.at e1 hAg, pc.out.at e2 hAg, pc.out.at d0 hBg, pc.out.at d1 hBg, pc.out.at d2 hBg⟩ (fun hHeld => ?_)
                    clear hK K
                    try go_frame
                    refine wO 13 (fun K hK => ?_)
                    have c0 := EZ.out.v0
                    have c1 := EZ.out.v1
                    have c2 := EZ.out.v2
                    have g0 := EZ.out.g0
                    have g1 := EZ.out.g1
                    have g2 := EZ.out.g2
                    have hs0 : w.heap.size ≠ sy6 := by omega
                    have hsAs : sA ≠ sy6 := by omega
                    have hsBs : sB ≠ sy6 := by omega
                    go_simp
                    refine hK.out _ _ ⟨at_set3 (pc.out.at x0 (by show w.heap.size ≠ g; omega)) hs0, at_set3 (pc.out.at x1 (by show w.heap.size ≠ g; omega)) hs0, at_set3 (pc.out.at e0 hAg) hsAs, at_set3 (pc.out.at e1 hAg) hsAs, at_set3 (pc.out.at e2 hAg) hsAs, at_set3 (pc.out.at d0 hBg) hsBs, at_set3 (pc.out.at d1 hBg) hsBs, at_set3 (pc.out.at d2 hBg) hsBs⟩ (fun hHeld => ?_)
                    clear hK K
                    try go_frame
                    refine wpAnyH_done (by kernel_rfl) ?_ _
                    have hlt := GS.out.lt
                    go_wp2_with fail
                    go_meet
                    case rel => exact OtB.mk (op := 1) (num := 0) (ks := [(.mk 9 (k : Int) es1), .mk 1 0 [x, (.mk 9 (k : Int) es2)]]) GS.out EA.out EB.out EZ.out RM.out hm0 HM0.out.1 HM0.out.2.1 HM0.out.2.2 ⟨⟨by omega, by omega⟩, FL.out, ⟨⟨by omega, by omega⟩, FX.out, FR.out, trivial⟩, trivial⟩ (by have h1 := HQ6.out; have h3 := pkG_4; omega)
                · go_simp
                  obtain ⟨sy5, hsy5⟩ : ∃ s, s = y4.heap.size := ⟨_, rfl⟩
                  obtain ⟨y5, hW⟩ : ∃ N, N = y4.alloc (.cells #[.int .i64 0, .int .i64 0, .slice none 0 0] 58) := ⟨_, rfl⟩
                  rw [← hsy5, ← hW]
                  have kk : Keep y4 y5 := by rw [hW]; exact Keep.al _ _
                  have hzy5 : y4.heap.size + 1 ≤ y5.heap.size := by rw [hW]; exact Nat.le_of_eq (World.size_alloc _ _).symm
                  have hisy5 : y4.heap.size ≤ sy5 := by omega
                  have hpz := pc.out.size
                  have EZ : Hid (Ev y5 sy5 (fun _ => False) (.mk 0 0 []) none 0 0) := by
                    rw [hW, hsy5]
                    exact Ev.born y4 _ (.mk 0 0 []) none 0 0 (.nil 3 _ _)
                  replace RX := Lib.hid (RX.out.lt.mono (D' := fun k => w.heap.size + 2 ≤ k ∧ k ≠ sy5) (fun k hk => by omega))
                  replace RL := Lib.hid (RL.out.lt.mono (D' := fun k => w.heap.size + 2 ≤ k ∧ k ≠ sy5) (fun k hk => by omega))
                  have hm0 : m0 ≤ sy5 := by omega
                  replace pc := Lib.hid (pc.out.trans (Keep.to kk))
                  replace GS := Lib.hid (GS.out.k kk)
                  replace EA := Lib.hid (EA.out.keep kk)
                  replace EB := Lib.hid (EB.out.keep kk)
                  replace RX := Lib.hid (RX.out.k kk)
                  replace RL := Lib.hid (RL.out.k kk)
                  clear kk hW hpz hsy5
                  refine hK.out _ _ ⟨pc.out.at x0 (by show w.heap.size ≠ g; omega), pc.out.at x1 (by show w.heap.size ≠ g; omega), pc.out.at e0 hAg, pc.out.at e1 hAg, pc.out.at e2 hAg, pc.out.at d0 hBg, pc.out.at d1 hBg, pc.out.at d2 hBg⟩ (fun hHeld => ?_)
                  clear hK K
                  try go_frame
                  refine wO 9 (fun K hK => ?_)
                  go_simp
                  go_at_call 212
                  refine (specNodeG 1 0 _ _ _ _).mono ?_
                  rintro e y6 ⟨rfl, xi⟩
                  replace pc := Lib.hid (pc.out.trans (Keep.to xi))
                  replace GS := Lib.hid (GS.out.k xi)
                  replace EA := Lib.hid (EA.out.keep xi)
                  replace EB := Lib.hid (EB.out.keep xi)
                  replace RX := Lib.hid (RX.out.k xi)
                  replace RL := Lib.hid (RL.out.k xi)
                  replace EZ := Lib.hid (EZ.out.keep xi)
                  clear xi
                  refine hK.out _ _ ⟨pc.out.at x0 (by show w.heap.size ≠ g; omega), pc.out.at x1 (by show w.heap.size ≠ g; omega), pc.out.at e0 hAg, pc.out.at e1 hAg, pc.out.at e2 hAg, pc.out.at d0 hBg, pc.out.at d1 hBg, pc.out.at d2 hBg⟩ (fun hHeld => ?_)
                  clear hK K
                  try go_frame
                  refine wO 10 (fun K hK => ?_)
                  go_simp
                  obtain ⟨sy7, hsy7⟩ : ∃ s, s = y6.heap.size := ⟨_, rfl⟩
                  obtain ⟨y7, hW⟩ : ∃ N, N = y6.alloc (.cells #[.int .i64 9, .int .i64 (k : Int), .slice ak es1.length ck, .int .i64 1, .int .i64 0, .slice (some ⟨sy4, 0, none⟩) 2 2] 58) := ⟨_, rfl⟩
                  rw [← hsy7, ← hW]
                  have kk : Keep y6 y7 := by rw [hW]; exact Keep.al _ _
                  have hzy7 : y6.heap.size + 1 ≤ y7.heap.size := by rw [hW]; exact Nat.le_of_eq (World.size_alloc _ _).symm
                  have hisy7 : y6.heap.size ≤ sy7 := by omega
                  have hlt := GS.out.lt
                  have hls := EZ.out.lt
                  have RM : Hid (Rd y7 (fun k => w.heap.size + 2 ≤ k ∧ k ≠ sy5) (encExprs [(.mk 9 (k : Int) es1), (.mk 1 0 [x, (.mk 9 (k : Int) es2)])]) (.slice (some ⟨sy7, 0, none⟩) 2 2)) := by
                    rw [hW, hsy7]
                    exact lit_expr2 y6 (fun k => w.heap.size + 2 ≤ k ∧ k ≠ sy5) 58 (.mk 9 (k : Int) es1) (.mk 1 0 [x, (.mk 9 (k : Int) es2)]) ak es1.length ck (some ⟨sy4, 0, none⟩) 2 2 (by omega) ((EA.out.k).mono (fun k hk => by omega)) ((RL.out).mono (fun k hk => by omega))
                  replace pc := Lib.hid (pc.out.trans (Keep.to kk))
                  replace GS := Lib.hid (GS.out.k kk)
                  replace EA := Lib.hid (EA.out.keep kk)
                  replace EB := Lib.hid (EB.out.keep kk)
                  replace RX := Lib.hid (RX.out.k kk)
                  replace RL := Lib.hid (RL.out.k kk)
                  replace EZ := Lib.hid (EZ.out.keep kk)
                  clear kk hW hlt hsy7
                  refine hK.out _ _ ⟨pc.out.at x0 (by show w.heap.size ≠ g; omega), pc.out.at x1 (by show w.heap.size ≠ g; omega), pc.out.at e0 hAg, pc.out.at e1 hAg, pc.out.at e2 hAg, pc.out.at d0 hBg, pc.out.at d1 hBg, pc.out.at d2 hBg⟩ (fun hHeld => ?_)
                  clear hK K
                  try go_frame
                  refine wO 11 (fun K hK => ?_)
                  go_simp
                  go_at_call 212
                  refine (specNodeG 1 0 _ _ _ _).mono ?_
                  rintro e y8 ⟨rfl, xi⟩
                  replace pc := Lib.hid (pc.out.trans (Keep.to xi))
                  replace GS := Lib.hid (GS.out.k xi)
                  replace EA := Lib.hid (EA.out.keep xi)
                  replace EB := Lib.hid (EB.out.keep xi)
                  replace RX := Lib.hid (RX.out.k xi)
                  replace RL := Lib.hid (RL.out.k xi)
                  replace EZ := Lib.hid (EZ.out.keep xi)
                  replace RM := Lib.hid (RM.out.k xi)
                  clear xi
                  refine hK.out _ _ ⟨pc.out.at x0 (by show w.heap.size ≠ g; omega), pc.out.at x1 (by show w.heap.size ≠ g; omega), pc.out.at e0 hAg, pc.out.at e1 hAg, pc.out.at e2 hAg, pc.out.at d0 hBg, pc.out.at d1 hBg, pc.out.at d2 hBg⟩ (fun hHeld => ?_)
                  clear hK K
                  try go_frame
                  refine wO 13 (fun K hK => ?_)
                  have c0 := EZ.out.v0
                  have c1 := EZ.out.v1
                  have c2 := EZ.out.v2
                  have g0 := EZ.out.g0
                  have g1 := EZ.out.g1
                  have g2 := EZ.out.g2
                  have hs0 : w.heap.size ≠ sy5 := by omega
                  have hsAs : sA ≠ sy5 := by omega
                  have hsBs : sB ≠ sy5 := by omega
                  go_simp
                  refine hK.out _ _ ⟨at_set3 (pc.out.at x0 (by show w.heap.size ≠ g; omega)) hs0, at_set3 (pc.out.at x1 (by show w.heap.size ≠ g; omega)) hs0, at_set3 (pc.out.at e0 hAg) hsAs, at_set3 (pc.out.at e1 hAg) hsAs, at_set3 (pc.out.at e2 hAg) hsAs, at_set3 (pc.out.at d0 hBg) hsBs, at_set3 (pc.out.at d1 hBg) hsBs, at_set3 (pc.out.at d2 hBg) hsBs⟩ (fun hHeld => ?_)
                  clear hK K
                  try go_frame
                  refine wpAnyH_done (by kernel_rfl) ?_ _
                  have hlt := GS.out.lt
                  go_wp2_with fail
                  go_meet
                  case rel => exact OtB.mk (op := 1) (num := 0) (ks := [(.mk 9 (k : Int) es1), .mk 1 0 [x, (.mk 9 (k : Int) es2)]]) GS.out EA.out EB.out EZ.out RM.out hm0 HM0.out.1 HM0.out.2.1 HM0.out.2.2 ⟨⟨by omega, by omega⟩, FL.out, ⟨⟨by omega, by omega⟩, FX.out, FR.out, trivial⟩, trivial⟩ (by have h1 := HQ6.out; have h3 := pkG_4; omega)
              · go_simp
                obtain ⟨sy4, hsy4⟩ : ∃ s, s = y3.heap.size := ⟨_, rfl⟩
                obtain ⟨y4, hW⟩ : ∃ N, N = y3.alloc (.cells #[.int .i64 0, .int .i64 0, .slice none 0 0] 58) := ⟨_, rfl⟩
                rw [← hsy4, ← hW]
                have kk : Keep y3 y4 := by rw [hW]; exact Keep.al _ _
                have hzy4 : y3.heap.size + 1 ≤ y4.heap.size := by rw [hW]; exact Nat.le_of_eq (World.size_alloc _ _).symm
                have hisy4 : y3.heap.size ≤ sy4 := by omega
                have hpz := pc.out.size
                have EZ : Hid (Ev y4 sy4 (fun _ => False) (.mk 0 0 []) none 0 0) := by
                  rw [hW, hsy4]
                  exact Ev.born y3 _ (.mk 0 0 []) none 0 0 (.nil 3 _ _)
                replace RX := Lib.hid (RX.out.lt.mono (D' := fun k => w.heap.size + 2 ≤ k ∧ k ≠ sy4) (fun k hk => by omega))
                have hm0 : m0 ≤ sy4 := by omega
                replace pc := Lib.hid (pc.out.trans (Keep.to kk))
                replace GS := Lib.hid (GS.out.k kk)
                replace EA := Lib.hid (EA.out.keep kk)
                replace EB := Lib.hid (EB.out.keep kk)
                replace RX := Lib.hid (RX.out.k kk)
                clear kk hW hpz hsy4
                refine hK.out _ _ ⟨pc.out.at x0 (by show w.heap.size ≠ g; omega), pc.out.at x1 (by show w.heap.size ≠ g; omega), pc.out.at e0 hAg, pc.out.at e1 hAg, pc.out.at e2 hAg, pc.out.at d0 hBg, pc.out.at d1 hBg, pc.out.at d2 hBg⟩ (fun hHeld => ?_)
                clear hK K
                try go_frame
                refine wO 8 (fun K hK => ?_)
                go_simp
                obtain ⟨sy5, hsy5⟩ : ∃ s, s = y4.heap.size := ⟨_, rfl⟩
                obtain ⟨y5, hW⟩ : ∃ N, N = y4.alloc (.cells #[.int .i64 x.op, .int .i64 x.num, .slice ax nx cx, .int .i64 9, .int .i64 (k : Int), .slice bk es2.length dk] 58) := ⟨_, rfl⟩
                rw [← hsy5, ← hW]
                have kk : Keep y4 y5 := by rw [hW]; exact Keep.al _ _
                have hzy5 : y4.heap.size + 1 ≤ y5.heap.size := by rw [hW]; exact Nat.le_of_eq (World.size_alloc _ _).symm
                have hisy5 : y4.heap.size ≤ sy5 := by omega
                have hlt := GS.out.lt
                have hls := EZ.out.lt
                have RL : Hid (Rd y5 (fun k => w.heap.size + 2 ≤ k ∧ k ≠ sy4) (encExprs [x, (.mk 9 (k : Int) es2)]) (.slice (some ⟨sy5, 0, none⟩) 2 2)) := by
                  rw [hW, hsy5]
                  exact lit_expr2 y4 (fun k => w.heap.size + 2 ≤ k ∧ k ≠ sy4) 58 x (.mk 9 (k : Int) es2) ax nx cx bk es2.length dk (by omega) ((RX.out).mono (fun k hk => by omega)) ((EB.out.k).mono (fun k hk => by omega))
                replace pc := Lib.hid (pc.out.trans (Keep.to kk))
                replace GS := Lib.hid (GS.out.k kk)
                replace EA := Lib.hid (EA.out.keep kk)
                replace EB := Lib.hid (EB.out.keep kk)
                replace RX := Lib.hid (RX.out.k kk)
                replace EZ := Lib.hid (EZ.out.keep kk)
                clear kk hW hlt hsy5
                refine hK.out _ _ ⟨pc.out.at x0 (by show w.heap.size ≠ g; omega), pc.out.at x1 (by show w.heap.size ≠ g; omega), pc.out.at e0 hAg, pc.out.at e1 hAg, pc.out.at e2 hAg, pc.out.at d0 hBg, pc.out.at d1 hBg, pc.out.at d2 hBg⟩ (fun hHeld => ?_)
                clear hK K
                try go_frame
                refine wO 9 (fun K hK => ?_)
                go_simp
                go_at_call 212
                refine (specNodeG 1 0 _ _ _ _).mono ?_
                rintro e y6 ⟨rfl, xi⟩
                replace pc := Lib.hid (pc.out.trans (Keep.to xi))
                replace GS := Lib.hid (GS.out.k xi)
                replace EA := Lib.hid (EA.out.keep xi)
                replace EB := Lib.hid (EB.out.keep xi)
                replace RX := Lib.hid (RX.out.k xi)
                replace EZ := Lib.hid (EZ.out.keep xi)
                replace RL := Lib.hid (RL.out.k xi)
                clear xi
                refine hK.out _ _ ⟨pc.out.at x0 (by show w.heap.size ≠ g; omega), pc.out.at x1 (by show w.heap.size ≠ g; omega), pc.out.at e0 hAg, pc.out.at e1 hAg, pc.out.at e2 hAg, pc.out.at d0 hBg, pc.out.at d1 hBg, pc.out.at d2 hBg⟩ (fun hHeld => ?_)
                clear hK K
                try go_frame
                refine wO 10 (fun K hK => ?_)
                go_simp
                obtain ⟨sy7, hsy7⟩ : ∃ s, s = y6.heap.size := ⟨_, rfl⟩
                obtain ⟨y7, hW⟩ : ∃ N, N = y6.alloc (.cells #[.int .i64 9, .int .i64 (k : Int), .slice ak es1.length ck, .int .i64 1, .int .i64 0, .slice (some ⟨sy5, 0, none⟩) 2 2] 58) := ⟨_, rfl⟩
                rw [← hsy7, ← hW]
                have kk : Keep y6 y7 := by rw [hW]; exact Keep.al _ _
                have hzy7 : y6.heap.size + 1 ≤ y7.heap.size := by rw [hW]; exact Nat.le_of_eq (World.size_alloc _ _).symm
                have hisy7 : y6.heap.size ≤ sy7 := by omega
                have hlt := GS.out.lt
                have hls := EZ.out.lt
                have RM : Hid (Rd y7 (fun k => w.heap.size + 2 ≤ k ∧ k ≠ sy4) (encExprs [(.mk 9 (k : Int) es1), (.mk 1 0 [x, (.mk 9 (k : Int) es2)])]) (.slice (some ⟨sy7, 0, none⟩) 2 2)) := by
                  rw [hW, hsy7]
                  exact lit_expr2 y6 (fun k => w.heap.size + 2 ≤ k ∧ k ≠ sy4) 58 (.mk 9 (k : Int) es1) (.mk 1 0 [x, (.mk 9 (k : Int) es2)]) ak es1.length ck (some ⟨sy5, 0, none⟩) 2 2 (by omega) ((EA.out.k).mono (fun k hk => by omega)) ((RL.out).mono (fun k hk => by omega))
                replace pc := Lib.hid (pc.out.trans (Keep.to kk))
                replace GS := Lib.hid (GS.out.k kk)
                replace EA := Lib.hid (EA.out.keep kk)
                replace EB := Lib.hid (EB.out.keep kk)
                replace RX := Lib.hid (RX.out.k kk)
                replace EZ := Lib.hid (EZ.out.keep kk)
                replace RL := Lib.hid (RL.out.k kk)
                clear kk hW hlt hsy7
                refine hK.out _ _ ⟨pc.out.at x0 (by show w.heap.size ≠ g; omega), pc.out.at x1 (by show w.heap.size ≠ g; omega), pc.out.at e0 hAg, pc.out.at e1 hAg, pc.out.at e2 hAg, pc.out.at d0 hBg, pc.out.at d1 hBg, pc.out.at d2 hBg⟩ (fun hHeld => ?_)
                clear hK K
                try go_frame
                refine wO 11 (fun K hK => ?_)
                go_simp
                go_at_call 212
                refine (specNodeG 1 0 _ _ _ _).mono ?_
                rintro e y8 ⟨rfl, xi⟩
                replace pc := Lib.hid (pc.out.trans (Keep.to xi))
                replace GS := Lib.hid (GS.out.k xi)
                replace EA := Lib.hid (EA.out.keep xi)
                replace EB := Lib.hid (EB.out.keep xi)
                replace RX := Lib.hid (RX.out.k xi)
                replace EZ := Lib.hid (EZ.out.keep xi)
                replace RL := Lib.hid (RL.out.k xi)
                replace RM := Lib.hid (RM.out.k xi)
                clear xi
                refine hK.out _ _ ⟨pc.out.at x0 (by show w.heap.size ≠ g; omega), pc.out.at x1 (by show w.heap.size ≠ g; omega), pc.out.at e0 hAg, pc.out.at e1 hAg, pc.out.at e2 hAg, pc.out.at d0 hBg, pc.out.at d1 hBg, pc.out.at d2 hBg⟩ (fun hHeld => ?_)
                clear hK K
                try go_frame
                refine wO 13 (fun K hK => ?_)
                have c0 := EZ.out.v0
                have c1 := EZ.out.v1
                have c2 := EZ.out.v2
                have g0 := EZ.out.g0
                have g1 := EZ.out.g1
                have g2 := EZ.out.g2
                have hs0 : w.heap.size ≠ sy4 := by omega
                have hsAs : sA ≠ sy4 := by omega
                have hsBs : sB ≠ sy4 := by omega
                go_simp
                refine hK.out _ _ ⟨at_set3 (pc.out.at x0 (by show w.heap.size ≠ g; omega)) hs0, at_set3 (pc.out.at x1 (by show w.heap.size ≠ g; omega)) hs0, at_set3 (pc.out.at e0 hAg) hsAs, at_set3 (pc.out.at e1 hAg) hsAs, at_set3 (pc.out.at e2 hAg) hsAs, at_set3 (pc.out.at d0 hBg) hsBs, at_set3 (pc.out.at d1 hBg) hsBs, at_set3 (pc.out.at d2 hBg) hsBs⟩ (fun hHeld => ?_)
                clear hK K
                try go_frame
                refine wpAnyH_done (by kernel_rfl) ?_ _
                have hlt := GS.out.lt
                go_wp2_with fail
                go_meet
                case rel => exact OtB.mk (op := 1) (num := 0) (ks := [(.mk 9 (k : Int) es1), .mk 1 0 [x, (.mk 9 (k : Int) es2)]]) GS.out EA.out EB.out EZ.out RM.out hm0 HM0.out.1 HM0.out.2.1 HM0.out.2.2 ⟨⟨by omega, by omega⟩, FL.out, ⟨⟨by omega, by omega⟩, FX.out, FR.out, trivial⟩, trivial⟩ (by have h1 := HQ6.out; have h3 := pkG_4; omega)
            · go_simp
              obtain ⟨sy3, hsy3⟩ : ∃ s, s = y2.heap.size := ⟨_, rfl⟩
              obtain ⟨y3, hW⟩ : ∃ N, N = y2.alloc (.cells #[.int .i64 0, .int .i64 0, .slice none 0 0] 58) := ⟨_, rfl⟩
              rw [← hsy3, ← hW]
              have kk : Keep y2 y3 := by rw [hW]; exact Keep.al _ _
              have hzy3 : y2.heap.size + 1 ≤ y3.heap.size := by rw [hW]; exact Nat.le_of_eq (World.size_alloc _ _).symm
              have hisy3 : y2.heap.size ≤ sy3 := by omega
              have hpz := pc.out.size
              have EZ : Hid (Ev y3 sy3 (fun _ => False) (.mk 0 0 []) none 0 0) := by
                rw [hW, hsy3]
                exact Ev.born y2 _ (.mk 0 0 []) none 0 0 (.nil 3 _ _)
              have hm0 : m0 ≤ sy3 := by omega
              replace pc := Lib.hid (pc.out.trans (Keep.to kk))
              replace GS := Lib.hid (GS.out.k kk)
              replace EA := Lib.hid (EA.out.keep kk)
              replace EB := Lib.hid (EB.out.keep kk)
              replace VB := Lib.hid (VB.out.k kk)
              clear kk hW hpz hsy3
              refine hK.out _ _ ⟨pc.out.at x0 (by show w.heap.size ≠ g; omega), pc.out.at x1 (by show w.heap.size ≠ g; omega), pc.out.at e0 hAg, pc.out.at e1 hAg, pc.out.at e2 hAg, pc.out.at d0 hBg, pc.out.at d1 hBg, pc.out.at d2 hBg⟩ (fun hHeld => ?_)
              clear hK K
              try go_frame
              refine wO 6 (fun K hK => ?_)
              go_simp
              go_at_call 228
              refine (specGen ds fs B g HG.out 4 0 ((fAt fs k).params ++ [3, 0, 3]) ae (np + 3) ce p _ _ _ _ _ _ y3 ⟨by omega, by omega⟩ GS.out.p VB.out (by omega) GS.out.r GS.out.b (by have h1 := HPP.out; have h3 := pkG_4; have h4 : pkG 4 = 1600 := h3; omega)).mono ?_
              rintro e y4 ⟨x, ax, nx, cx, q6, rfl, rx, fx, r6, hq6, xi⟩
              have hls := EZ.out.lt
              have hlt := GS.out.lt
              replace pc := Lib.hid (pc.out.trans xi)
              replace EA := Lib.hid (EA.out.ext xi (by omega) (fun k hk => by first | exact (hk : False).elim | omega))
              replace EB := Lib.hid (EB.out.ext xi (by omega) (fun k hk => by first | exact (hk : False).elim | omega))
              replace VB := Lib.hid (VB.out.ext xi (fun k hk => by omega))
              replace EZ := Lib.hid (EZ.out.ext xi (by omega) (fun k hk => by first | exact (hk : False).elim | omega))
              replace GS := Lib.hid (GS.out.c xi r6)
              have FX := Lib.hid fx
              have HQ6 := Lib.hid hq6
              have RX := Lib.hid (rx.mono (D' := (fun k => w.heap.size + 2 ≤ k ∧ k ≠ sy3)) (fun k hk => by omega))
              clear rx fx r6 hq6 xi hlt
              refine hK.out _ _ ⟨pc.out.at x0 (by show w.heap.size ≠ g; omega), pc.out.at x1 (by show w.heap.size ≠ g; omega), pc.out.at e0 hAg, pc.out.at e1 hAg, pc.out.at e2 hAg, pc.out.at d0 hBg, pc.out.at d1 hBg, pc.out.at d2 hBg⟩ (fun hHeld => ?_)
              clear hK K
              try go_frame
              refine wO 8 (fun K hK => ?_)
              go_simp
              obtain ⟨sy5, hsy5⟩ : ∃ s, s = y4.heap.size := ⟨_, rfl⟩
              obtain ⟨y5, hW⟩ : ∃ N, N = y4.alloc (.cells #[.int .i64 x.op, .int .i64 x.num, .slice ax nx cx, .int .i64 9, .int .i64 (k : Int), .slice bk es2.length dk] 58) := ⟨_, rfl⟩
              rw [← hsy5, ← hW]
              have kk : Keep y4 y5 := by rw [hW]; exact Keep.al _ _
              have hzy5 : y4.heap.size + 1 ≤ y5.heap.size := by rw [hW]; exact Nat.le_of_eq (World.size_alloc _ _).symm
              have hisy5 : y4.heap.size ≤ sy5 := by omega
              have hlt := GS.out.lt
              have hls := EZ.out.lt
              have RL : Hid (Rd y5 (fun k => w.heap.size + 2 ≤ k ∧ k ≠ sy3) (encExprs [x, (.mk 9 (k : Int) es2)]) (.slice (some ⟨sy5, 0, none⟩) 2 2)) := by
                rw [hW, hsy5]
                exact lit_expr2 y4 (fun k => w.heap.size + 2 ≤ k ∧ k ≠ sy3) 58 x (.mk 9 (k : Int) es2) ax nx cx bk es2.length dk (by omega) ((RX.out).mono (fun k hk => by omega)) ((EB.out.k).mono (fun k hk => by omega))
              replace pc := Lib.hid (pc.out.trans (Keep.to kk))
              replace GS := Lib.hid (GS.out.k kk)
              replace EA := Lib.hid (EA.out.keep kk)
              replace EB := Lib.hid (EB.out.keep kk)
              replace EZ := Lib.hid (EZ.out.keep kk)
              replace RX := Lib.hid (RX.out.k kk)
              clear kk hW hlt hsy5
              refine hK.out _ _ ⟨pc.out.at x0 (by show w.heap.size ≠ g; omega), pc.out.at x1 (by show w.heap.size ≠ g; omega), pc.out.at e0 hAg, pc.out.at e1 hAg, pc.out.at e2 hAg, pc.out.at d0 hBg, pc.out.at d1 hBg, pc.out.at d2 hBg⟩ (fun hHeld => ?_)
              clear hK K
              try go_frame
              refine wO 9 (fun K hK => ?_)
              go_simp
              go_at_call 212
              refine (specNodeG 1 0 _ _ _ _).mono ?_
              rintro e y6 ⟨rfl, xi⟩
              replace pc := Lib.hid (pc.out.trans (Keep.to xi))
              replace GS := Lib.hid (GS.out.k xi)
              replace EA := Lib.hid (EA.out.keep xi)
              replace EB := Lib.hid (EB.out.keep xi)
              replace EZ := Lib.hid (EZ.out.keep xi)
              replace RX := Lib.hid (RX.out.k xi)
              replace RL := Lib.hid (RL.out.k xi)
              clear xi
              refine hK.out _ _ ⟨pc.out.at x0 (by show w.heap.size ≠ g; omega), pc.out.at x1 (by show w.heap.size ≠ g; omega), pc.out.at e0 hAg, pc.out.at e1 hAg, pc.out.at e2 hAg, pc.out.at d0 hBg, pc.out.at d1 hBg, pc.out.at d2 hBg⟩ (fun hHeld => ?_)
              clear hK K
              try go_frame
              refine wO 10 (fun K hK => ?_)
              go_simp
              obtain ⟨sy7, hsy7⟩ : ∃ s, s = y6.heap.size := ⟨_, rfl⟩
              obtain ⟨y7, hW⟩ : ∃ N, N = y6.alloc (.cells #[.int .i64 9, .int .i64 (k : Int), .slice ak es1.length ck, .int .i64 1, .int .i64 0, .slice (some ⟨sy5, 0, none⟩) 2 2] 58) := ⟨_, rfl⟩
              rw [← hsy7, ← hW]
              have kk : Keep y6 y7 := by rw [hW]; exact Keep.al _ _
              have hzy7 : y6.heap.size + 1 ≤ y7.heap.size := by rw [hW]; exact Nat.le_of_eq (World.size_alloc _ _).symm
              have hisy7 : y6.heap.size ≤ sy7 := by omega
              have hlt := GS.out.lt
              have hls := EZ.out.lt
              have RM : Hid (Rd y7 (fun k => w.heap.size + 2 ≤ k ∧ k ≠ sy3) (encExprs [(.mk 9 (k : Int) es1), (.mk 1 0 [x, (.mk 9 (k : Int) es2)])]) (.slice (some ⟨sy7, 0, none⟩) 2 2)) := by
                rw [hW, hsy7]
                exact lit_expr2 y6 (fun k => w.heap.size + 2 ≤ k ∧ k ≠ sy3) 58 (.mk 9 (k : Int) es1) (.mk 1 0 [x, (.mk 9 (k : Int) es2)]) ak es1.length ck (some ⟨sy5, 0, none⟩) 2 2 (by omega) ((EA.out.k).mono (fun k hk => by omega)) ((RL.out).mono (fun k hk => by omega))
              replace pc := Lib.hid (pc.out.trans (Keep.to kk))
              replace GS := Lib.hid (GS.out.k kk)
              replace EA := Lib.hid (EA.out.keep kk)
              replace EB := Lib.hid (EB.out.keep kk)
              replace EZ := Lib.hid (EZ.out.keep kk)
              replace RX := Lib.hid (RX.out.k kk)
              replace RL := Lib.hid (RL.out.k kk)
              clear kk hW hlt hsy7
              refine hK.out _ _ ⟨pc.out.at x0 (by show w.heap.size ≠ g; omega), pc.out.at x1 (by show w.heap.size ≠ g; omega), pc.out.at e0 hAg, pc.out.at e1 hAg, pc.out.at e2 hAg, pc.out.at d0 hBg, pc.out.at d1 hBg, pc.out.at d2 hBg⟩ (fun hHeld => ?_)
              clear hK K
              try go_frame
              refine wO 11 (fun K hK => ?_)
              go_simp
              go_at_call 212
              refine (specNodeG 1 0 _ _ _ _).mono ?_
              rintro e y8 ⟨rfl, xi⟩
              replace pc := Lib.hid (pc.out.trans (Keep.to xi))
              replace GS := Lib.hid (GS.out.k xi)
              replace EA := Lib.hid (EA.out.keep xi)
              replace EB := Lib.hid (EB.out.keep xi)
              replace EZ := Lib.hid (EZ.out.keep xi)
              replace RX := Lib.hid (RX.out.k xi)
              replace RL := Lib.hid (RL.out.k xi)
              replace RM := Lib.hid (RM.out.k xi)
              clear xi
              refine hK.out _ _ ⟨pc.out.at x0 (by show w.heap.size ≠ g; omega), pc.out.at x1 (by show w.heap.size ≠ g; omega), pc.out.at e0 hAg, pc.out.at e1 hAg, pc.out.at e2 hAg, pc.out.at d0 hBg, pc.out.at d1 hBg, pc.out.at d2 hBg⟩ (fun hHeld => ?_)
              clear hK K
              try go_frame
              refine wO 13 (fun K hK => ?_)
              have c0 := EZ.out.v0
              have c1 := EZ.out.v1
              have c2 := EZ.out.v2
              have g0 := EZ.out.g0
              have g1 := EZ.out.g1
              have g2 := EZ.out.g2
              have hs0 : w.heap.size ≠ sy3 := by omega
              have hsAs : sA ≠ sy3 := by omega
              have hsBs : sB ≠ sy3 := by omega
              go_simp
              refine hK.out _ _ ⟨at_set3 (pc.out.at x0 (by show w.heap.size ≠ g; omega)) hs0, at_set3 (pc.out.at x1 (by show w.heap.size ≠ g; omega)) hs0, at_set3 (pc.out.at e0 hAg) hsAs, at_set3 (pc.out.at e1 hAg) hsAs, at_set3 (pc.out.at e2 hAg) hsAs, at_set3 (pc.out.at d0 hBg) hsBs, at_set3 (pc.out.at d1 hBg) hsBs, at_set3 (pc.out.at d2 hBg) hsBs⟩ (fun hHeld => ?_)
              clear hK K
              try go_frame
              refine wpAnyH_done (by kernel_rfl) ?_ _
              have hlt := GS.out.lt
              go_wp2_with fail
              go_meet
              case rel => exact OtB.mk (op := 1) (num := 0) (ks := [(.mk 9 (k : Int) es1), .mk 1 0 [x, (.mk 9 (k : Int) es2)]]) GS.out EA.out EB.out EZ.out RM.out hm0 HM0.out.1 HM0.out.2.1 HM0.out.2.2 ⟨⟨by omega, by omega⟩, FL.out, ⟨⟨by omega, by omega⟩, FX.out, FR.out, trivial⟩, trivial⟩ (by have h1 := HQ6.out; have h3 := pkG_4; omega)
          · go_simp
            obtain ⟨sy2, hsy2⟩ : ∃ s, s = y1.heap.size := ⟨_, rfl⟩
            obtain ⟨y2, hW⟩ : ∃ N, N = y1.alloc (.cells #[.int .i64 0, .int .i64 0, .slice none 0 0] 58) := ⟨_, rfl⟩
            rw [← hsy2, ← hW]
            have kk : Keep y1 y2 := by rw [hW]; exact Keep.al _ _
            have hzy2 : y1.heap.size + 1 ≤ y2.heap.size := by rw [hW]; exact Nat.le_of_eq (World.size_alloc _ _).symm
            have hisy2 : y1.heap.size ≤ sy2 := by omega
            have hpz := pc.out.size
            have EZ : Hid (Ev y2 sy2 (fun _ => False) (.mk 0 0 []) none 0 0) := by
              rw [hW, hsy2]
              exact Ev.born y1 _ (.mk 0 0 []) none 0 0 (.nil 3 _ _)
            have hm0 : m0 ≤ sy2 := by omega
            replace pc := Lib.hid (pc.out.trans (Keep.to kk))
            replace GS := Lib.hid (GS.out.k kk)
            replace EA := Lib.hid (EA.out.keep kk)
            replace EB := Lib.hid (EB.out.keep kk)
            replace TY := Lib.hid (TY.out.k kk)
            clear kk hW hpz hsy2
            refine hK.out _ _ ⟨pc.out.at x0 (by show w.heap.size ≠ g; omega), pc.out.at x1 (by show w.heap.size ≠ g; omega), pc.out.at e0 hAg, pc.out.at e1 hAg, pc.out.at e2 hAg, pc.out.at d0 hBg, pc.out.at d1 hBg, pc.out.at d2 hBg⟩ (fun hHeld => ?_)
            clear hK K
            try go_frame
            refine wO 5 (fun K hK => ?_)
            go_simp
            go_at_call 149
            refine (specExtend ap np cp (fAt fs k).params _ _ 3 3 [3, 0, 3] _ _ (HV.out.g GS.out.x).toInts (by omega) TY.out.toInts (by omega)).mono ?_
            rintro e y3 ⟨ae, ne, ce, rfl, hne, hea, xi⟩
            have hlt := GS.out.lt
            replace pc := Lib.hid (pc.out.trans (Keep.to xi))
            replace GS := Lib.hid (GS.out.k xi)
            replace EA := Lib.hid (EA.out.keep xi)
            replace EB := Lib.hid (EB.out.keep xi)
            replace TY := Lib.hid (TY.out.k xi)
            replace EZ := Lib.hid (EZ.out.keep xi)
            have hnl := (ints_at HV.out).1
            obtain rfl : ne = np + 3 := (by have h1 := hea.1; rw [List.length_append] at h1; simp at h1; omega)
            have VB := Lib.hid ((hea.read.toRd hne (by omega)).mono (D' := fun k => k ≠ g) (fun k hk => by change y2.heap.size ≤ k at hk; omega))
            clear hea xi hlt hnl
            refine hK.out _ _ ⟨pc.out.at x0 (by show w.heap.size ≠ g; omega), pc.out.at x1 (by show w.heap.size ≠ g; omega), pc.out.at e0 hAg, pc.out.at e1 hAg, pc.out.at e2 hAg, pc.out.at d0 hBg, pc.out.at d1 hBg, pc.out.at d2 hBg⟩ (fun hHeld => ?_)
            clear hK K
            try go_frame
            refine wO 6 (fun K hK => ?_)
            go_simp
            go_at_call 228
            refine (specGen ds fs B g HG.out 4 0 ((fAt fs k).params ++ [3, 0, 3]) ae (np + 3) ce p _ _ _ _ _ _ y3 ⟨by omega, by omega⟩ GS.out.p VB.out (by omega) GS.out.r GS.out.b (by have h1 := HPP.out; have h3 := pkG_4; have h4 : pkG 4 = 1600 := h3; omega)).mono ?_
            rintro e y4 ⟨x, ax, nx, cx, q6, rfl, rx, fx, r6, hq6, xi⟩
            have hls := EZ.out.lt
            have hlt := GS.out.lt
            replace pc := Lib.hid (pc.out.trans xi)
            replace EA := Lib.hid (EA.out.ext xi (by omega) (fun k hk => by first | exact (hk : False).elim | omega))
            replace EB := Lib.hid (EB.out.ext xi (by omega) (fun k hk => by first | exact (hk : False).elim | omega))
            replace EZ := Lib.hid (EZ.out.ext xi (by omega) (fun k hk => by first | exact (hk : False).elim | omega))
            replace VB := Lib.hid (VB.out.ext xi (fun k hk => by omega))
            replace GS := Lib.hid (GS.out.c xi r6)
            have FX := Lib.hid fx
            have HQ6 := Lib.hid hq6
            have RX := Lib.hid (rx.mono (D' := (fun k => w.heap.size + 2 ≤ k ∧ k ≠ sy2)) (fun k hk => by omega))
            clear rx fx r6 hq6 xi hlt
            refine hK.out _ _ ⟨pc.out.at x0 (by show w.heap.size ≠ g; omega), pc.out.at x1 (by show w.heap.size ≠ g; omega), pc.out.at e0 hAg, pc.out.at e1 hAg, pc.out.at e2 hAg, pc.out.at d0 hBg, pc.out.at d1 hBg, pc.out.at d2 hBg⟩ (fun hHeld => ?_)
            clear hK K
            try go_frame
            refine wO 8 (fun K hK => ?_)
            go_simp
            obtain ⟨sy5, hsy5⟩ : ∃ s, s = y4.heap.size := ⟨_, rfl⟩
            obtain ⟨y5, hW⟩ : ∃ N, N = y4.alloc (.cells #[.int .i64 x.op, .int .i64 x.num, .slice ax nx cx, .int .i64 9, .int .i64 (k : Int), .slice bk es2.length dk] 58) := ⟨_, rfl⟩
            rw [← hsy5, ← hW]
            have kk : Keep y4 y5 := by rw [hW]; exact Keep.al _ _
            have hzy5 : y4.heap.size + 1 ≤ y5.heap.size := by rw [hW]; exact Nat.le_of_eq (World.size_alloc _ _).symm
            have hisy5 : y4.heap.size ≤ sy5 := by omega
            have hlt := GS.out.lt
            have hls := EZ.out.lt
            have RL : Hid (Rd y5 (fun k => w.heap.size + 2 ≤ k ∧ k ≠ sy2) (encExprs [x, (.mk 9 (k : Int) es2)]) (.slice (some ⟨sy5, 0, none⟩) 2 2)) := by
              rw [hW, hsy5]
              exact lit_expr2 y4 (fun k => w.heap.size + 2 ≤ k ∧ k ≠ sy2) 58 x (.mk 9 (k : Int) es2) ax nx cx bk es2.length dk (by omega) ((RX.out).mono (fun k hk => by omega)) ((EB.out.k).mono (fun k hk => by omega))
            replace pc := Lib.hid (pc.out.trans (Keep.to kk))
            replace GS := Lib.hid (GS.out.k kk)
            replace EA := Lib.hid (EA.out.keep kk)
            replace EB := Lib.hid (EB.out.keep kk)
            replace EZ := Lib.hid (EZ.out.keep kk)
            replace RX := Lib.hid (RX.out.k kk)
            clear kk hW hlt hsy5
            refine hK.out _ _ ⟨pc.out.at x0 (by show w.heap.size ≠ g; omega), pc.out.at x1 (by show w.heap.size ≠ g; omega), pc.out.at e0 hAg, pc.out.at e1 hAg, pc.out.at e2 hAg, pc.out.at d0 hBg, pc.out.at d1 hBg, pc.out.at d2 hBg⟩ (fun hHeld => ?_)
            clear hK K
            try go_frame
            refine wO 9 (fun K hK => ?_)
            go_simp
            go_at_call 212
            refine (specNodeG 1 0 _ _ _ _).mono ?_
            rintro e y6 ⟨rfl, xi⟩
            replace pc := Lib.hid (pc.out.trans (Keep.to xi))
            replace GS := Lib.hid (GS.out.k xi)
            replace EA := Lib.hid (EA.out.keep xi)
            replace EB := Lib.hid (EB.out.keep xi)
            replace EZ := Lib.hid (EZ.out.keep xi)
            replace RX := Lib.hid (RX.out.k xi)
            replace RL := Lib.hid (RL.out.k xi)
            clear xi
            refine hK.out _ _ ⟨pc.out.at x0 (by show w.heap.size ≠ g; omega), pc.out.at x1 (by show w.heap.size ≠ g; omega), pc.out.at e0 hAg, pc.out.at e1 hAg, pc.out.at e2 hAg, pc.out.at d0 hBg, pc.out.at d1 hBg, pc.out.at d2 hBg⟩ (fun hHeld => ?_)
            clear hK K
            try go_frame
            refine wO 10 (fun K hK => ?_)
            go_simp
            obtain ⟨sy7, hsy7⟩ : ∃ s, s = y6.heap.size := ⟨_, rfl⟩
            obtain ⟨y7, hW⟩ : ∃ N, N = y6.alloc (.cells #[.int .i64 9, .int .i64 (k : Int), .slice ak es1.length ck, .int .i64 1, .int .i64 0, .slice (some ⟨sy5, 0, none⟩) 2 2] 58) := ⟨_, rfl⟩
            rw [← hsy7, ← hW]
            have kk : Keep y6 y7 := by rw [hW]; exact Keep.al _ _
            have hzy7 : y6.heap.size + 1 ≤ y7.heap.size := by rw [hW]; exact Nat.le_of_eq (World.size_alloc _ _).symm
            have hisy7 : y6.heap.size ≤ sy7 := by omega
            have hlt := GS.out.lt
            have hls := EZ.out.lt
            have RM : Hid (Rd y7 (fun k => w.heap.size + 2 ≤ k ∧ k ≠ sy2) (encExprs [(.mk 9 (k : Int) es1), (.mk 1 0 [x, (.mk 9 (k : Int) es2)])]) (.slice (some ⟨sy7, 0, none⟩) 2 2)) := by
              rw [hW, hsy7]
              exact lit_expr2 y6 (fun k => w.heap.size + 2 ≤ k ∧ k ≠ sy2) 58 (.mk 9 (k : Int) es1) (.mk 1 0 [x, (.mk 9 (k : Int) es2)]) ak es1.length ck (some ⟨sy5, 0, none⟩) 2 2 (by omega) ((EA.out.k).mono (fun k hk => by omega)) ((RL.out).mono (fun k hk => by omega))
            replace pc := Lib.hid (pc.out.trans (Keep.to kk))
            replace GS := Lib.hid (GS.out.k kk)
            replace EA := Lib.hid (EA.out.keep kk)
            replace EB := Lib.hid (EB.out.keep kk)
            replace EZ := Lib.hid (EZ.out.keep kk)
            replace RX := Lib.hid (RX.out.k kk)
            replace RL := Lib.hid (RL.out.k kk)
            clear kk hW hlt hsy7
            refine hK.out _ _ ⟨pc.out.at x0 (by show w.heap.size ≠ g; omega), pc.out.at x1 (by show w.heap.size ≠ g; omega), pc.out.at e0 hAg, pc.out.at e1 hAg, pc.out.at e2 hAg, pc.out.at d0 hBg, pc.out.at d1 hBg, pc.out.at d2 hBg⟩ (fun hHeld => ?_)
            clear hK K
            try go_frame
            refine wO 11 (fun K hK => ?_)
            go_simp
            go_at_call 212
            refine (specNodeG 1 0 _ _ _ _).mono ?_
            rintro e y8 ⟨rfl, xi⟩
            replace pc := Lib.hid (pc.out.trans (Keep.to xi))
            replace GS := Lib.hid (GS.out.k xi)
            replace EA := Lib.hid (EA.out.keep xi)
            replace EB := Lib.hid (EB.out.keep xi)
            replace EZ := Lib.hid (EZ.out.keep xi)
            replace RX := Lib.hid (RX.out.k xi)
            replace RL := Lib.hid (RL.out.k xi)
            replace RM := Lib.hid (RM.out.k xi)
            clear xi
            refine hK.out _ _ ⟨pc.out.at x0 (by show w.heap.size ≠ g; omega), pc.out.at x1 (by show w.heap.size ≠ g; omega), pc.out.at e0 hAg, pc.out.at e1 hAg, pc.out.at e2 hAg, pc.out.at d0 hBg, pc.out.at d1 hBg, pc.out.at d2 hBg⟩ (fun hHeld => ?_)
            clear hK K
            try go_frame
            refine wO 13 (fun K hK => ?_)
            have c0 := EZ.out.v0
            have c1 := EZ.out.v1
            have c2 := EZ.out.v2
            have g0 := EZ.out.g0
            have g1 := EZ.out.g1
            have g2 := EZ.out.g2
            have hs0 : w.heap.size ≠ sy2 := by omega
            have hsAs : sA ≠ sy2 := by omega
            have hsBs : sB ≠ sy2 := by omega
            go_simp
            refine hK.out _ _ ⟨at_set3 (pc.out.at x0 (by show w.heap.size ≠ g; omega)) hs0, at_set3 (pc.out.at x1 (by show w.heap.size ≠ g; omega)) hs0, at_set3 (pc.out.at e0 hAg) hsAs, at_set3 (pc.out.at e1 hAg) hsAs, at_set3 (pc.out.at e2 hAg) hsAs, at_set3 (pc.out.at d0 hBg) hsBs, at_set3 (pc.out.at d1 hBg) hsBs, at_set3 (pc.out.at d2 hBg) hsBs⟩ (fun hHeld => ?_)
            clear hK K
            try go_frame
            refine wpAnyH_done (by kernel_rfl) ?_ _
            have hlt := GS.out.lt
            go_wp2_with fail
            go_meet
            case rel => exact OtB.mk (op := 1) (num := 0) (ks := [(.mk 9 (k : Int) es1), .mk 1 0 [x, (.mk 9 (k : Int) es2)]]) GS.out EA.out EB.out EZ.out RM.out hm0 HM0.out.1 HM0.out.2.1 HM0.out.2.2 ⟨⟨by omega, by omega⟩, FL.out, ⟨⟨by omega, by omega⟩, FX.out, FR.out, trivial⟩, trivial⟩ (by have h1 := HQ6.out; have h3 := pkG_4; omega)
        · go_simp
          obtain ⟨sy1, hsy1⟩ : ∃ s, s = W0.heap.size := ⟨_, rfl⟩
          obtain ⟨y1, hW⟩ : ∃ N, N = W0.alloc (.cells #[.int .i64 0, .int .i64 0, .slice none 0 0] 58) := ⟨_, rfl⟩
          rw [← hsy1, ← hW]
          have kk : Keep W0 y1 := by rw [hW]; exact Keep.al _ _
          have hzy1 : W0.heap.size + 1 ≤ y1.heap.size := by rw [hW]; exact Nat.le_of_eq (World.size_alloc _ _).symm
          have hisy1 : W0.heap.size ≤ sy1 := by omega
          have hpz := pc.out.size
          have EZ : Hid (Ev y1 sy1 (fun _ => False) (.mk 0 0 []) none 0 0) := by
            rw [hW, hsy1]
            exact Ev.born W0 _ (.mk 0 0 []) none 0 0 (.nil 3 _ _)
          have hm0 : m0 ≤ sy1 := by omega
          replace pc := Lib.hid (pc.out.trans (Keep.to kk))
          replace GS := Lib.hid (GS.out.k kk)
          replace EA := Lib.hid (EA.out.keep kk)
          replace EB := Lib.hid (EB.out.keep kk)
          clear kk hW hpz hsy1
          refine hK.out _ _ ⟨pc.out.at x0 (by show w.heap.size ≠ g; omega), pc.out.at x1 (by show w.heap.size ≠ g; omega), pc.out.at e0 hAg, pc.out.at e1 hAg, pc.out.at e2 hAg, pc.out.at d0 hBg, pc.out.at d1 hBg, pc.out.at d2 hBg⟩ (fun hHeld => ?_)
          clear hK K
          try go_frame
          refine wO 4 (fun K hK => ?_)
          go_simp
          obtain ⟨sy2, hsy2⟩ : ∃ s, s = y1.heap.size := ⟨_, rfl⟩
          obtain ⟨y2, hW⟩ : ∃ N, N = y1.alloc (.cells #[.int .i64 3, .int .i64 0, .int .i64 3] 3) := ⟨_, rfl⟩
          rw [← hsy2, ← hW]
          have kk : Keep y1 y2 := by rw [hW]; exact Keep.al _ _
          have hzy2 : y1.heap.size + 1 ≤ y2.heap.size := by rw [hW]; exact Nat.le_of_eq (World.size_alloc _ _).symm
          have hisy2 : y1.heap.size ≤ sy2 := by omega
          have hlt := GS.out.lt
          have TY : Hid (Rd y2 (fun k => k ≠ g) (encInts [3, 0, 3]) (.slice (some ⟨sy2, 0, none⟩) 3 3)) := by
            rw [hW, hsy2]
            exact lit_intsD y1 (fun k => k ≠ g) 3 [3, 0, 3] #[.int .i64 3, .int .i64 0, .int .i64 3] 3 (by omega) rfl rfl (by omega)
          replace pc := Lib.hid (pc.out.trans (Keep.to kk))
          replace GS := Lib.hid (GS.out.k kk)
          replace EA := Lib.hid (EA.out.keep kk)
          replace EB := Lib.hid (EB.out.keep kk)
          replace EZ := Lib.hid (EZ.out.keep kk)
          clear kk hW hlt hsy2
          refine hK.out _ _ ⟨pc.out.at x0 (by show w.heap.size ≠ g; omega), pc.out.at x1 (by show w.heap.size ≠ g; omega), pc.out.at e0 hAg, pc.out.at e1 hAg, pc.out.at e2 hAg, pc.out.at d0 hBg, pc.out.at d1 hBg, pc.out.at d2 hBg⟩ (fun hHeld => ?_)
          clear hK K
          try go_frame
          refine wO 5 (fun K hK => ?_)
          go_simp
          go_at_call 149
          refine (specExtend ap np cp (fAt fs k).params _ _ 3 3 [3, 0, 3] _ _ (HV.out.g GS.out.x).toInts (by omega) TY.out.toInts (by omega)).mono ?_
          rintro e y3 ⟨ae, ne, ce, rfl, hne, hea, xi⟩
          have hlt := GS.out.lt
          replace pc := Lib.hid (pc.out.trans (Keep.to xi))
          replace GS := Lib.hid (GS.out.k xi)
          replace EA := Lib.hid (EA.out.keep xi)
          replace EB := Lib.hid (EB.out.keep xi)
          replace EZ := Lib.hid (EZ.out.keep xi)
          replace TY := Lib.hid (TY.out.k xi)
          have hnl := (ints_at HV.out).1
          obtain rfl : ne = np + 3 := (by have h1 := hea.1; rw [List.length_append] at h1; simp at h1; omega)
          have VB := Lib.hid ((hea.read.toRd hne (by omega)).mono (D' := fun k => k ≠ g) (fun k hk => by change y2.heap.size ≤ k at hk; omega))
          clear hea xi hlt hnl
          refine hK.out _ _ ⟨pc.out.at x0 (by show w.heap.size ≠ g; omega), pc.out.at x1 (by show w.heap.size ≠ g; omega), pc.out.at e0 hAg, pc.out.at e1 hAg, pc.out.at e2 hAg, pc.out.at d0 hBg, pc.out.at d1 hBg, pc.out.at d2 hBg⟩ (fun hHeld => ?_)
          clear hK K
          try go_frame
          refine wO 6 (fun K hK => ?_)
          go_simp
          go_at_call 228
          refine (specGen ds fs B g HG.out 4 0 ((fAt fs k).params ++ [3, 0, 3]) ae (np + 3) ce p _ _ _ _ _ _ y3 ⟨by omega, by omega⟩ GS.out.p VB.out (by omega) GS.out.r GS.out.b (by have h1 := HPP.out; have h3 := pkG_4; have h4 : pkG 4 = 1600 := h3; omega)).mono ?_
          rintro e y4 ⟨x, ax, nx, cx, q6, rfl, rx, fx, r6, hq6, xi⟩
          have hls := EZ.out.lt
          have hlt := GS.out.lt
          replace pc := Lib.hid (pc.out.trans xi)
          replace EA := Lib.hid (EA.out.ext xi (by omega) (fun k hk => by first | exact (hk : False).elim | omega))
          replace EB := Lib.hid (EB.out.ext xi (by omega) (fun k hk => by first | exact (hk : False).elim | omega))
          replace EZ := Lib.hid (EZ.out.ext xi (by omega) (fun k hk => by first | exact (hk : False).elim | omega))
          replace VB := Lib.hid (VB.out.ext xi (fun k hk => by omega))
          replace GS := Lib.hid (GS.out.c xi r6)
          have FX := Lib.hid fx
          have HQ6 := Lib.hid hq6
          have RX := Lib.hid (rx.mono (D' := (fun k => w.heap.size + 2 ≤ k ∧ k ≠ sy1)) (fun k hk => by omega))
          clear rx fx r6 hq6 xi hlt
          refine hK.out _ _ ⟨pc.out.at x0 (by show w.heap.size ≠ g; omega), pc.out.at x1 (by show w.heap.size ≠ g; omega), pc.out.at e0 hAg, pc.out.at e1 hAg, pc.out.at e2 hAg, pc.out.at d0 hBg, pc.out.at d1 hBg, pc.out.at d2 hBg⟩ (fun hHeld => ?_)
          clear hK K
          try go_frame
          refine wO 8 (fun K hK => ?_)
          go_simp
          obtain ⟨sy5, hsy5⟩ : ∃ s, s = y4.heap.size := ⟨_, rfl⟩
          obtain ⟨y5, hW⟩ : ∃ N, N = y4.alloc (.cells #[.int .i64 x.op, .int .i64 x.num, .slice ax nx cx, .int .i64 9, .int .i64 (k : Int), .slice bk es2.length dk] 58) := ⟨_, rfl⟩
          rw [← hsy5, ← hW]
          have kk : Keep y4 y5 := by rw [hW]; exact Keep.al _ _
          have hzy5 : y4.heap.size + 1 ≤ y5.heap.size := by rw [hW]; exact Nat.le_of_eq (World.size_alloc _ _).symm
          have hisy5 : y4.heap.size ≤ sy5 := by omega
          have hlt := GS.out.lt
          have hls := EZ.out.lt
          have RL : Hid (Rd y5 (fun k => w.heap.size + 2 ≤ k ∧ k ≠ sy1) (encExprs [x, (.mk 9 (k : Int) es2)]) (.slice (some ⟨sy5, 0, none⟩) 2 2)) := by
            rw [hW, hsy5]
            exact lit_expr2 y4 (fun k => w.heap.size + 2 ≤ k ∧ k ≠ sy1) 58 x (.mk 9 (k : Int) es2) ax nx cx bk es2.length dk (by omega) ((RX.out).mono (fun k hk => by omega)) ((EB.out.k).mono (fun k hk => by omega))
          replace pc := Lib.hid (pc.out.trans (Keep.to kk))
          replace GS := Lib.hid (GS.out.k kk)
          replace EA := Lib.hid (EA.out.keep kk)
          replace EB := Lib.hid (EB.out.keep kk)
          replace EZ := Lib.hid (EZ.out.keep kk)
          replace RX := Lib.hid (RX.out.k kk)
          clear kk hW hlt hsy5
          refine hK.out _ _ ⟨pc.out.at x0 (by show w.heap.size ≠ g; omega), pc.out.at x1 (by show w.heap.size ≠ g; omega), pc.out.at e0 hAg, pc.out.at e1 hAg, pc.out.at e2 hAg, pc.out.at d0 hBg, pc.out.at d1 hBg, pc.out.at d2 hBg⟩ (fun hHeld => ?_)
          clear hK K
          try go_frame
          refine wO 9 (fun K hK => ?_)
          go_simp
          go_at_call 212
          refine (specNodeG 1 0 _ _ _ _).mono ?_
          rintro e y6 ⟨rfl, xi⟩
          replace pc := Lib.hid (pc.out.trans (Keep.to xi))
          replace GS := Lib.hid (GS.out.k xi)
          replace EA := Lib.hid (EA.out.keep xi)
          replace EB := Lib.hid (EB.out.keep xi)
          replace EZ := Lib.hid (EZ.out.keep xi)
          replace RX := Lib.hid (RX.out.k xi)
          replace RL := Lib.hid (RL.out.k xi)
          clear xi
          refine hK.out _ _ ⟨pc.out.at x0 (by show w.heap.size ≠ g; omega), pc.out.at x1 (by show w.heap.size ≠ g; omega), pc.out.at e0 hAg, pc.out.at e1 hAg, pc.out.at e2 hAg, pc.out.at d0 hBg, pc.out.at d1 hBg, pc.out.at d2 hBg⟩ (fun hHeld => ?_)
          clear hK K
          try go_frame
          refine wO 10 (fun K hK => ?_)
          go_simp
          obtain ⟨sy7, hsy7⟩ : ∃ s, s = y6.heap.size := ⟨_, rfl⟩
          obtain ⟨y7, hW⟩ : ∃ N, N = y6.alloc (.cells #[.int .i64 9, .int .i64 (k : Int), .slice ak es1.length ck, .int .i64 1, .int .i64 0, .slice (some ⟨sy5, 0, none⟩) 2 2] 58) := ⟨_, rfl⟩
          rw [← hsy7, ← hW]
          have kk : Keep y6 y7 := by rw [hW]; exact Keep.al _ _
          have hzy7 : y6.heap.size + 1 ≤ y7.heap.size := by rw [hW]; exact Nat.le_of_eq (World.size_alloc _ _).symm
          have hisy7 : y6.heap.size ≤ sy7 := by omega
          have hlt := GS.out.lt
          have hls := EZ.out.lt
          have RM : Hid (Rd y7 (fun k => w.heap.size + 2 ≤ k ∧ k ≠ sy1) (encExprs [(.mk 9 (k : Int) es1), (.mk 1 0 [x, (.mk 9 (k : Int) es2)])]) (.slice (some ⟨sy7, 0, none⟩) 2 2)) := by
            rw [hW, hsy7]
            exact lit_expr2 y6 (fun k => w.heap.size + 2 ≤ k ∧ k ≠ sy1) 58 (.mk 9 (k : Int) es1) (.mk 1 0 [x, (.mk 9 (k : Int) es2)]) ak es1.length ck (some ⟨sy5, 0, none⟩) 2 2 (by omega) ((EA.out.k).mono (fun k hk => by omega)) ((RL.out).mono (fun k hk => by omega))
          replace pc := Lib.hid (pc.out.trans (Keep.to kk))
          replace GS := Lib.hid (GS.out.k kk)
          replace EA := Lib.hid (EA.out.keep kk)
          replace EB := Lib.hid (EB.out.keep kk)
          replace EZ := Lib.hid (EZ.out.keep kk)
          replace RX := Lib.hid (RX.out.k kk)
          replace RL := Lib.hid (RL.out.k kk)
          clear kk hW hlt hsy7
          refine hK.out _ _ ⟨pc.out.at x0 (by show w.heap.size ≠ g; omega), pc.out.at x1 (by show w.heap.size ≠ g; omega), pc.out.at e0 hAg, pc.out.at e1 hAg, pc.out.at e2 hAg, pc.out.at d0 hBg, pc.out.at d1 hBg, pc.out.at d2 hBg⟩ (fun hHeld => ?_)
          clear hK K
          try go_frame
          refine wO 11 (fun K hK => ?_)
          go_simp
          go_at_call 212
          refine (specNodeG 1 0 _ _ _ _).mono ?_
          rintro e y8 ⟨rfl, xi⟩
          replace pc := Lib.hid (pc.out.trans (Keep.to xi))
          replace GS := Lib.hid (GS.out.k xi)
          replace EA := Lib.hid (EA.out.keep xi)
          replace EB := Lib.hid (EB.out.keep xi)
          replace EZ := Lib.hid (EZ.out.keep xi)
          replace RX := Lib.hid (RX.out.k xi)
          replace RL := Lib.hid (RL.out.k xi)
          replace RM := Lib.hid (RM.out.k xi)
          clear xi
          refine hK.out _ _ ⟨pc.out.at x0 (by show w.heap.size ≠ g; omega), pc.out.at x1 (by show w.heap.size ≠ g; omega), pc.out.at e0 hAg, pc.out.at e1 hAg, pc.out.at e2 hAg, pc.out.at d0 hBg, pc.out.at d1 hBg, pc.out.at d2 hBg⟩ (fun hHeld => ?_)
          clear hK K
          try go_frame
          refine wO 13 (fun K hK => ?_)
          have c0 := EZ.out.v0
          have c1 := EZ.out.v1
          have c2 := EZ.out.v2
          have g0 := EZ.out.g0
          have g1 := EZ.out.g1
          have g2 := EZ.out.g2
          have hs0 : w.heap.size ≠ sy1 := by omega
          have hsAs : sA ≠ sy1 := by omega
          have hsBs : sB ≠ sy1 := by omega
          go_simp
          refine hK.out _ _ ⟨at_set3 (pc.out.at x0 (by show w.heap.size ≠ g; omega)) hs0, at_set3 (pc.out.at x1 (by show w.heap.size ≠ g; omega)) hs0, at_set3 (pc.out.at e0 hAg) hsAs, at_set3 (pc.out.at e1 hAg) hsAs, at_set3 (pc.out.at e2 hAg) hsAs, at_set3 (pc.out.at d0 hBg) hsBs, at_set3 (pc.out.at d1 hBg) hsBs, at_set3 (pc.out.at d2 hBg) hsBs⟩ (fun hHeld => ?_)
          clear hK K
          try go_frame
          refine wpAnyH_done (by kernel_rfl) ?_ _
          have hlt := GS.out.lt
          go_wp2_with fail
          go_meet
          case rel => exact OtB.mk (op := 1) (num := 0) (ks := [(.mk 9 (k : Int) es1), .mk 1 0 [x, (.mk 9 (k : Int) es2)]]) GS.out EA.out EB.out EZ.out RM.out hm0 HM0.out.1 HM0.out.2.1 HM0.out.2.2 ⟨⟨by omega, by omega⟩, FL.out, ⟨⟨by omega, by omega⟩, FX.out, FR.out, trivial⟩, trivial⟩ (by have h1 := HQ6.out; have h3 := pkG_4; omega)
      case rest =>
      clear GS EA EB x0 x1 e0 e1 e2 d0 d1 d2 hdz hq
      obtain ⟨s14, rfl, hm0, hC, EA, EB⟩ := hcut
      obtain ⟨y, ay, ny, cy, q, EZ, FY, GS, hq⟩ := hC.out
      have h14lo : w.heap.size + 2 ≤ s14 := by have := hm0.out; have := HM0.out.1; omega
      have h14g : s14 ≠ g := by omega
      have h14b : b ≠ s14 := by omega
      have x1 := GS.out.bx.x1
      have gg1 := GS.out.x.at HC1.out hbg
      clear hC
      go_upto_if 69 with fail
      go_cut [] (fun wx => OtC B g ds fs a0 n0 c0 (some ⟨b, o, none⟩) n1 c1 (p + 3200) s14 w wx)
      case first =>
        by_cases hres : (fAt fs k).result = 3
        case neg =>
          have hres2 : ((fAt fs k).result == 3) = false := by simpa using hres
          clear hres
          go_wp2_with fail
          go_meet
          case rel => exact ⟨y, ay, ny, cy, q, EZ, FY, GS, (by show _ ≤ _; have := hq.out; omega)⟩
        have hres2 : ((fAt fs k).result == 3) = true := by simpa using hres
        have HR1 := Lib.hid hres
        clear hres
        go_wp2_with fail
        replace GS := Lib.hid GS.out.dr
        replace EA := Lib.hid (EA.out.keep (Ext.refl (fun _ => False) wc).drew)
        replace EB := Lib.hid (EB.out.keep (Ext.refl (fun _ => False) wc).drew)
        replace EZ := Lib.hid (EZ.out.keep (Ext.refl (fun _ => False) wc).drew)
        have hs0 : w.heap.size ≠ s14 := by omega
        have hm0x : m0 ≤ s14 := hm0.out
        have hsAs : sA ≠ s14 := by omega
        have x0 : wc.drew.cell? ⟨w.heap.size, 0, none⟩ = some (.slice a0 n0 c0) := GS.out.bx.x0
        replace x1 : wc.drew.cell? ⟨w.heap.size, 1, none⟩ = some (.slice (some ⟨b, o, none⟩) n1 c1) := GS.out.bx.x1
        have e0 : wc.drew.cell? ⟨sA, 0, none⟩ = some (.int .i64 9) := EA.out.v0
        have e1 : wc.drew.cell? ⟨sA, 1, none⟩ = some (.int .i64 (k : Int)) := EA.out.v1
        have e2 : wc.drew.cell? ⟨sA, 2, none⟩ = some (.slice ak es1.length ck) := EA.out.v2
        clear gg1
        refine wp_region_held_drew (S := fun w' => w'.cell? ⟨w.heap.size, 0, none⟩ = some (.slice a0 n0 c0) ∧ w'.cell? ⟨w.heap.size, 1, none⟩ = some (.slice (some ⟨b, o, none⟩) n1 c1) ∧ w'.cell? ⟨sA, 0, none⟩ = some (.int .i64 9) ∧ w'.cell? ⟨sA, 1, none⟩ = some (.int .i64 (k : Int)) ∧ w'.cell? ⟨sA, 2, none⟩ = some (.slice ak es1.length ck)) (by kernel_rfl) ⟨x0, x1, e0, e1, e2⟩ (fun hHeld => ?_)
        have pc : Hid (Ext (· = g) wc.drew wc.drew) := Ext.refl _ _
        generalize wc.drew = W0 at *
        refine wT 0 hHeld ?_
        try go_frame
        refine wT 1 hHeld ?_
        try go_frame
        refine wT 2 hHeld ?_
        try go_frame
        refine wT 3 hHeld ?_
        try go_frame
        refine wT 7 hHeld ?_
        try go_frame
        refine wT 8 hHeld ?_
        try go_frame
        refine wO 4 (fun K hK => ?_)
        go_simp
        obtain ⟨sy1, hsy1⟩ : ∃ s, s = W0.heap.size := ⟨_, rfl⟩
        obtain ⟨y1, hW⟩ : ∃ N, N = W0.alloc (.cells #[.int .i64 3, .int .i64 0, .int .i64 3] 3) := ⟨_, rfl⟩
        rw [← hsy1, ← hW]
        have kk : Keep W0 y1 := by rw [hW]; exact Keep.al _ _
        have hzy1 : W0.heap.size + 1 ≤ y1.heap.size := by rw [hW]; exact Nat.le_of_eq (World.size_alloc _ _).symm
        have hisy1 : W0.heap.size ≤ sy1 := by omega
        have hlt := GS.out.lt
        have TY : Hid (Rd y1 (fun k => k ≠ g) (encInts [3, 0, 3]) (.slice (some ⟨sy1, 0, none⟩) 3 3)) := by
          rw [hW, hsy1]
          exact lit_intsD W0 (fun k => k ≠ g) 3 [3, 0, 3] #[.int .i64 3, .int .i64 0, .int .i64 3] 3 (by omega) rfl rfl (by omega)
        replace pc := Lib.hid (pc.out.trans (Keep.to kk))
        replace GS := Lib.hid (GS.out.k kk)
        replace EA := Lib.hid (EA.out.keep kk)
        replace EB := Lib.hid (EB.out.keep kk)
        replace EZ := Lib.hid (EZ.out.keep kk)
        clear kk hW hlt hsy1
        refine hK.out _ _ ⟨pc.out.at x0 (by show w.heap.size ≠ g; omega), pc.out.at x1 (by show w.heap.size ≠ g; omega), pc.out.at e0 hAg, pc.out.at e1 hAg, pc.out.at e2 hAg⟩ (fun hHeld => ?_)
        clear hK K
        try go_frame
        refine wO 5 (fun K hK => ?_)
        go_simp
        go_at_call 149
        refine (specExtend ap np cp (fAt fs k).params _ _ 3 3 [3, 0, 3] _ _ (HV.out.g GS.out.x).toInts (by omega) TY.out.toInts (by omega)).mono ?_
        rintro e y2 ⟨ae, ne, ce, rfl, hne, hea, xi⟩
        have hlt := GS.out.lt
        replace pc := Lib.hid (pc.out.trans (Keep.to xi))
        replace GS := Lib.hid (GS.out.k xi)
        replace EA := Lib.hid (EA.out.keep xi)
        replace EB := Lib.hid (EB.out.keep xi)
        replace EZ := Lib.hid (EZ.out.keep xi)
        replace TY := Lib.hid (TY.out.k xi)
        have hnl := (ints_at HV.out).1
        obtain rfl : ne = np + 3 := (by have h1 := hea.1; rw [List.length_append] at h1; simp at h1; omega)
        have VB := Lib.hid ((hea.read.toRd hne (by omega)).mono (D' := fun k => k ≠ g) (fun k hk => by change y1.heap.size ≤ k at hk; omega))
        clear hea xi hlt hnl
        refine hK.out _ _ ⟨pc.out.at x0 (by show w.heap.size ≠ g; omega), pc.out.at x1 (by show w.heap.size ≠ g; omega), pc.out.at e0 hAg, pc.out.at e1 hAg, pc.out.at e2 hAg⟩ (fun hHeld => ?_)
        clear hK K
        try go_frame
        refine wO 6 (fun K hK => ?_)
        go_simp
        go_at_call 228
        refine (specGen ds fs B g HG.out 4 0 ((fAt fs k).params ++ [3, 0, 3]) ae (np + 3) ce q _ _ _ _ _ _ y2 ⟨by omega, by omega⟩ GS.out.p VB.out (by omega) GS.out.r GS.out.b (by have h1 := HPP.out; have h2 := hq.out; have h3 := pkG_4; have h4 : pkG 4 = 1600 := h3; omega)).mono ?_
        rintro e y3 ⟨x, ax, nx, cx, q6, rfl, rx, fx, r6, hq6, xi⟩
        have hlt := GS.out.lt
        have hl14 := EZ.out.lt
        replace pc := Lib.hid (pc.out.trans xi)
        replace EA := Lib.hid (EA.out.ext xi (by omega) (fun k hk => by first | exact (hk : False).elim | omega))
        replace EB := Lib.hid (EB.out.ext xi (by omega) (fun k hk => by first | exact (hk : False).elim | omega))
        replace EZ := Lib.hid (EZ.out.ext xi (by omega) (fun k hk => by first | exact (hk : False).elim | omega))
        replace VB := Lib.hid (VB.out.ext xi (fun k hk => by omega))
        replace GS := Lib.hid (GS.out.c xi r6)
        have FX := Lib.hid fx
        have HQ6 := Lib.hid hq6
        have RX := Lib.hid (rx.mono (D' := fun k => w.heap.size + 2 ≤ k ∧ k ≠ s14) (fun k hk => by omega))
        clear rx fx r6 hq6 xi hlt hl14
        refine hK.out _ _ ⟨pc.out.at x0 (by show w.heap.size ≠ g; omega), pc.out.at x1 (by show w.heap.size ≠ g; omega), pc.out.at e0 hAg, pc.out.at e1 hAg, pc.out.at e2 hAg⟩ (fun hHeld => ?_)
        clear hK K
        try go_frame
        refine wO 9 (fun K hK => ?_)
        go_simp
        go_at_call 214
        refine (specVariableG _ _).mono ?_
        rintro e y4 ⟨vva, vvc, rfl, xi⟩
        replace pc := Lib.hid (pc.out.trans (Keep.to xi))
        replace GS := Lib.hid (GS.out.k xi)
        replace EA := Lib.hid (EA.out.keep xi)
        replace EB := Lib.hid (EB.out.keep xi)
        replace EZ := Lib.hid (EZ.out.keep xi)
        replace RX := Lib.hid (RX.out.k xi)
        clear xi
        refine hK.out _ _ ⟨pc.out.at x0 (by show w.heap.size ≠ g; omega), pc.out.at x1 (by show w.heap.size ≠ g; omega), pc.out.at e0 hAg, pc.out.at e1 hAg, pc.out.at e2 hAg⟩ (fun hHeld => ?_)
        clear hK K
        try go_frame
        refine wO 10 (fun K hK => ?_)
        go_simp
        obtain ⟨sy5, hsy5⟩ : ∃ s, s = y4.heap.size := ⟨_, rfl⟩
        obtain ⟨y5, hW⟩ : ∃ N, N = y4.alloc (.cells #[.int .i64 9, .int .i64 (k : Int), .slice ak es1.length ck, .int .i64 x.op, .int .i64 x.num, .slice ax nx cx, .int .i64 12, .int .i64 ((np : Int) + 2), .slice vva 0 vvc] 58) := ⟨_, rfl⟩
        rw [← hsy5, ← hW]
        have kk : Keep y4 y5 := by rw [hW]; exact Keep.al _ _
        have hzy5 : y4.heap.size + 1 ≤ y5.heap.size := by rw [hW]; exact Nat.le_of_eq (World.size_alloc _ _).symm
        have hisy5 : y4.heap.size ≤ sy5 := by omega
        have hlt := GS.out.lt
        have hl14 := EZ.out.lt
        have RM : Hid (Rd y5 (fun k => w.heap.size + 2 ≤ k ∧ k ≠ s14) (encExprs [(.mk 9 (k : Int) es1), x, (.mk 12 ((np : Int) + 2) [])]) (.slice (some ⟨sy5, 0, none⟩) 3 3)) := by
          rw [hW, hsy5]
          exact lit_expr3 y4 (fun k => w.heap.size + 2 ≤ k ∧ k ≠ s14) 58 (.mk 9 (k : Int) es1) x (.mk 12 ((np : Int) + 2) []) ak es1.length ck ax nx cx vva 0 vvc (by omega) ((EA.out.k).mono (fun k hk => by omega)) ((RX.out).mono (fun k hk => by omega)) (.nil 3 _ _)
        replace pc := Lib.hid (pc.out.trans (Keep.to kk))
        replace GS := Lib.hid (GS.out.k kk)
        replace EA := Lib.hid (EA.out.keep kk)
        replace EB := Lib.hid (EB.out.keep kk)
        replace EZ := Lib.hid (EZ.out.keep kk)
        replace RX := Lib.hid (RX.out.k kk)
        clear kk hW hlt hl14 hsy5
        refine hK.out _ _ ⟨pc.out.at x0 (by show w.heap.size ≠ g; omega), pc.out.at x1 (by show w.heap.size ≠ g; omega), pc.out.at e0 hAg, pc.out.at e1 hAg, pc.out.at e2 hAg⟩ (fun hHeld => ?_)
        clear hK K
        try go_frame
        refine wO 11 (fun K hK => ?_)
        go_simp
        go_at_call 212
        refine (specNodeG 6 3 _ _ _ _).mono ?_
        rintro e y6 ⟨rfl, xi⟩
        replace pc := Lib.hid (pc.out.trans (Keep.to xi))
        replace GS := Lib.hid (GS.out.k xi)
        replace EA := Lib.hid (EA.out.keep xi)
        replace EB := Lib.hid (EB.out.keep xi)
        replace EZ := Lib.hid (EZ.out.keep xi)
        replace RX := Lib.hid (RX.out.k xi)
        replace RM := Lib.hid (RM.out.k xi)
        clear xi
        refine hK.out _ _ ⟨pc.out.at x0 (by show w.heap.size ≠ g; omega), pc.out.at x1 (by show w.heap.size ≠ g; omega), pc.out.at e0 hAg, pc.out.at e1 hAg, pc.out.at e2 hAg⟩ (fun hHeld => ?_)
        clear hK K
        try go_frame
        refine wO 12 (fun K hK => ?_)
        have c0 := EZ.out.v0
        have c1 := EZ.out.v1
        have c2 := EZ.out.v2
        have g0 := EZ.out.g0
        have g1 := EZ.out.g1
        have g2 := EZ.out.g2
        go_simp
        refine hK.out _ _ ⟨at_set3 (pc.out.at x0 (by show w.heap.size ≠ g; omega)) hs0, at_set3 (pc.out.at x1 (by show w.heap.size ≠ g; omega)) hs0, at_set3 (pc.out.at e0 hAg) hsAs, at_set3 (pc.out.at e1 hAg) hsAs, at_set3 (pc.out.at e2 hAg) hsAs⟩ (fun hHeld => ?_)
        clear hK K
        try go_frame
        refine wpAnyH_done (by kernel_rfl) ?_ _
        have hlt := GS.out.lt
        go_wp2_with fail
        go_meet
        case rel => exact OtC.mk (op := 6) (num := 3) (ks := [(.mk 9 (k : Int) es1), x, .mk 12 ((np : Int) + 2) []]) GS.out EZ.out RM.out h14lo ⟨⟨by omega, by omega⟩, FL.out, FX.out, ⟨⟨by omega, by omega⟩, trivial⟩, trivial⟩ (by have h1 := HQ6.out; have h2 := hq.out; have h3 := pkG_4; omega)
      case rest =>
      clear GS EA EB EZ FY x1 gg1 hq
      obtain ⟨y, ay, ny, cy, q, EZ, FY, GS, hq⟩ := hcut
      go_upto_region 15 with fail
      replace GS := Lib.hid GS.out.dr
      replace EZ := Lib.hid (EZ.out.keep (Ext.refl (fun _ => False) wc).drew)
      have x0 : wc.drew.cell? ⟨w.heap.size, 0, none⟩ = some (.slice a0 n0 c0) := GS.out.bx.x0
      have x1 : wc.drew.cell? ⟨w.heap.size, 1, none⟩ = some (.slice (some ⟨b, o, none⟩) n1 c1) := GS.out.bx.x1
      have gg1 : wc.drew.cell? ⟨b, o + k * 5 + 1, none⟩ = some (.int .i64 (fAt fs k).result) := GS.out.x.at HC1.out hbg
      have e0 : wc.drew.cell? ⟨s14, 0, none⟩ = some (.int .i64 y.op) := EZ.out.v0
      have e1 : wc.drew.cell? ⟨s14, 1, none⟩ = some (.int .i64 y.num) := EZ.out.v1
      have e2 : wc.drew.cell? ⟨s14, 2, none⟩ = some (.slice ay ny cy) := EZ.out.v2
      have hw1 : w.heap.size ≠ w.heap.size + 1 := by omega
      have hb1 : b ≠ w.heap.size + 1 := by omega
      have h141 : s14 ≠ w.heap.size + 1 := by omega
      refine wp_region_held_drew (S := fun w' => w'.cell? ⟨w.heap.size, 0, none⟩ = some (.slice a0 n0 c0) ∧ w'.cell? ⟨w.heap.size, 1, none⟩ = some (.slice (some ⟨b, o, none⟩) n1 c1) ∧ w'.cell? ⟨b, o + k * 5 + 1, none⟩ = some (.int .i64 (fAt fs k).result) ∧ w'.cell? ⟨s14, 0, none⟩ = some (.int .i64 y.op) ∧ w'.cell? ⟨s14, 1, none⟩ = some (.int .i64 y.num) ∧ w'.cell? ⟨s14, 2, none⟩ = some (.slice ay ny cy)) (by kernel_rfl) ⟨x0, x1, gg1, e0, e1, e2⟩ (fun hHeld => ?_)
      have pc : Hid (Ext (· = g) wc.drew wc.drew) := Ext.refl _ _
      generalize wc.drew = W0 at *
      refine wT 1 hHeld ?_
      try go_frame
      refine wT 2 hHeld ?_
      try go_frame
      refine wT 3 hHeld ?_
      try go_frame
      refine wT 4 hHeld ?_
      try go_frame
      refine wT 5 hHeld ?_
      try go_frame
      refine wT 6 hHeld ?_
      try go_frame
      refine wT 7 hHeld ?_
      try go_frame
      refine wT 8 hHeld ?_
      try go_frame
      refine wT 9 hHeld ?_
      try go_frame
      refine wT 11 hHeld ?_
      try go_frame
      refine wO 0 (fun K hK => ?_)
      go_simp
      go_at_call 214
      refine (specVariableG _ _).mono ?_
      rintro e y1 ⟨vva, vvc, rfl, xi⟩
      replace pc := Lib.hid (pc.out.trans (Keep.to xi))
      replace GS := Lib.hid (GS.out.k xi)
      replace EZ := Lib.hid (EZ.out.keep xi)
      clear xi
      refine hK.out _ _ ⟨pc.out.at x0 (by show w.heap.size ≠ g; omega), pc.out.at x1 (by show w.heap.size ≠ g; omega), pc.out.at gg1 hbg, pc.out.at e0 h14g, pc.out.at e1 h14g, pc.out.at e2 h14g⟩ (fun hHeld => ?_)
      clear hK K
      try go_frame
      refine wO 10 (fun K hK => ?_)
      go_simp
      go_at_call 228
      refine (specGen ds fs B g HG.out 4 (fAt fs k).result (fAt fs k).params ap np cp q _ _ _ _ _ _ y1 SG.out.2.1 GS.out.p (HV.out.g GS.out.x) (by omega) GS.out.r GS.out.b (by have h1 := HPP.out; have h2 := hq.out; have h3 := pkG_4; have h4 : pkG 4 = 1600 := h3; omega)).mono ?_
      rintro e y2 ⟨x, ax, nx, cx, q6, rfl, rx, fx, r6, hq6, xi⟩
      have hlt := GS.out.lt
      have hl14 := EZ.out.lt
      replace pc := Lib.hid (pc.out.trans xi)
      replace EZ := Lib.hid (EZ.out.ext xi (by omega) (fun k hk => by first | exact (hk : False).elim | omega))
      replace GS := Lib.hid (GS.out.c xi r6)
      have FX := Lib.hid fx
      have HQ6 := Lib.hid hq6
      have RX := Lib.hid (rx.mono (D' := fun k => w.heap.size + 2 ≤ k) (fun k hk => by omega))
      clear rx fx r6 hq6 xi hlt hl14
      refine hK.out _ _ ⟨pc.out.at x0 (by show w.heap.size ≠ g; omega), pc.out.at x1 (by show w.heap.size ≠ g; omega), pc.out.at gg1 hbg, pc.out.at e0 h14g, pc.out.at e1 h14g, pc.out.at e2 h14g⟩ (fun hHeld => ?_)
      clear hK K
      try go_frame
      refine wO 12 (fun K hK => ?_)
      go_simp
      obtain ⟨sy3, hsy3⟩ : ∃ s, s = y2.heap.size := ⟨_, rfl⟩
      obtain ⟨y3, hW⟩ : ∃ N, N = y2.alloc (.cells #[.int .i64 12, .int .i64 0, .slice vva 0 vvc, .int .i64 x.op, .int .i64 x.num, .slice ax nx cx, .int .i64 y.op, .int .i64 y.num, .slice ay ny cy] 58) := ⟨_, rfl⟩
      rw [← hsy3, ← hW]
      have kk : Keep y2 y3 := by rw [hW]; exact Keep.al _ _
      have hzy3 : y2.heap.size + 1 ≤ y3.heap.size := by rw [hW]; exact Nat.le_of_eq (World.size_alloc _ _).symm
      have hisy3 : y2.heap.size ≤ sy3 := by omega
      have hlt := GS.out.lt
      have hl14 := EZ.out.lt
      have RT : Hid (Rd y3 (fun k => w.heap.size + 2 ≤ k) (encExprs [(.mk 12 0 []), x, y]) (.slice (some ⟨sy3, 0, none⟩) 3 3)) := by
        rw [hW, hsy3]
        exact lit_expr3 y2 (fun k => w.heap.size + 2 ≤ k) 58 (.mk 12 0 []) x y vva 0 vvc ax nx cx ay ny cy (by omega) (.nil 3 _ _) ((RX.out).mono (fun k hk => by omega)) ((EZ.out.k).mono (fun k hk => by omega))
      replace pc := Lib.hid (pc.out.trans (Keep.to kk))
      replace GS := Lib.hid (GS.out.k kk)
      replace EZ := Lib.hid (EZ.out.keep kk)
      replace RX := Lib.hid (RX.out.k kk)
      clear kk hW hlt hl14 hsy3
      refine hK.out _ _ ⟨pc.out.at x0 (by show w.heap.size ≠ g; omega), pc.out.at x1 (by show w.heap.size ≠ g; omega), pc.out.at gg1 hbg, pc.out.at e0 h14g, pc.out.at e1 h14g, pc.out.at e2 h14g⟩ (fun hHeld => ?_)
      clear hK K
      try go_frame
      refine wO 13 (fun K hK => ?_)
      go_simp
      go_at_call 212
      refine (specNodeG 8 3 _ _ _ _).mono ?_
      rintro e y4 ⟨rfl, xi⟩
      replace pc := Lib.hid (pc.out.trans (Keep.to xi))
      replace GS := Lib.hid (GS.out.k xi)
      replace EZ := Lib.hid (EZ.out.keep xi)
      replace RX := Lib.hid (RX.out.k xi)
      replace RT := Lib.hid (RT.out.k xi)
      clear xi
      refine hK.out _ _ ⟨pc.out.at x0 (by show w.heap.size ≠ g; omega), pc.out.at x1 (by show w.heap.size ≠ g; omega), pc.out.at gg1 hbg, pc.out.at e0 h14g, pc.out.at e1 h14g, pc.out.at e2 h14g⟩ (fun hHeld => ?_)
      clear hK K
      try go_frame
      refine wO 14 (fun K hK => ?_)
      have c0 := GS.out.bx.u0
      have c1 := GS.out.bx.u1
      have c2 := GS.out.bx.u2
      have g0 := GS.out.bx.f0
      have g1 := GS.out.bx.f1
      have g2 := GS.out.bx.f2
      go_simp
      refine hK.out _ _ ⟨at_set3 (pc.out.at x0 (by show w.heap.size ≠ g; omega)) hw1, at_set3 (pc.out.at x1 (by show w.heap.size ≠ g; omega)) hw1, at_set3 (pc.out.at gg1 hbg) hb1, at_set3 (pc.out.at e0 h14g) h141, at_set3 (pc.out.at e1 h14g) h141, at_set3 (pc.out.at e2 h14g) h141⟩ (fun hHeld => ?_)
      clear hK K
      try go_frame
      refine wpAnyH_done (by kernel_rfl) ?_ _
      have HFI : Hid (gfit 1000 8 3) := ⟨by omega, by omega⟩
      have HFS : Hid (allEs (gfit 1000) [.mk 12 0 [], x, y]) := ⟨⟨⟨by omega, by omega⟩, trivial⟩, FX.out, FY.out, trivial⟩
      have HQ9 : Hid (q6 ≤ p + 5000) := by show _ ≤ _; have h1 := HQ6.out; have h2 := hq.out; have h3 := pkG_4; omega
      have u0 := GS.out.bx.u0
      have u1 := GS.out.bx.u1
      have u2 := GS.out.bx.u2
      go_wp2_with fail
      refine bodyPost_ret (v := .agg #[.int .i64 8, .int .i64 3, .slice (some ⟨sy3, 0, none⟩) 3 3]) (by simp [results, Tryz.results219, go_sem, u0, u1, u2]) rfl (fin_ hQ ?_)
      exact GS.out.fin (ks := [.mk 12 0 [], x, y]) RT.out HFI.out HFS.out HQ9.out
end Go.Proofs.YtkapldpmjkdmcaaGreat
