/- The generator of programs: what the laws on types draw. -/
import Derived.Test.YtaeddcnakilnlaaMD
import Derived.Test.YtaeddcnakilnlaaMJ
import Derived.Test.YtaeddcnakilnlaaMH
namespace Go.Proofs.Ytaeddcnakilnlaa
open Go.RowKit

/-- Behind the first choice (DrawTypeOf): the expression may be another one. -/
def TyA (B g lo sF z8 s6 s9 : Nat) (ds : List DeclL) (fs : List FuncL) (a0 : Option Addr) (n0 c0 m : Nat) (M : Int) (w1 : World) (v8 : Value) (vars : List Int) (wx : World) : Prop := ∃ (x : ExprL) (ax : Option Addr) (nx cx : Nat) (q : Int), Hid (Ev wx s9 (fun k => lo ≤ k ∧ k ≠ sF ∧ k ≠ s9 ∧ v8.ownBlock ≠ some k) x ax nx cx) ∧ Hid (allE (gfit 1000) x) ∧ Hid (nE x ≤ 30) ∧ Hid (VR wx z8 v8 vars) ∧ Hid (AccR wx sF (fun k => lo ≤ k ∧ k < z8) 63 5 (.slice (some ⟨sF, 0, none⟩) m 4) (fs.map rowF)) ∧ Hid (Rd wx (fun k => lo ≤ k ∧ k ≠ sF ∧ k < z8) (encDecls ds) (.slice a0 n0 c0)) ∧ Hid (Px wx s6 (.slice a0 n0 c0) (.slice (some ⟨sF, 0, none⟩) m 4)) ∧ Hid (Rdx wx B g q) ∧ Hid (q ≤ M) ∧ Hid (Ext (fun k => k = g) w1 wx)
/-- Behind the second one: a variable more, perhaps. -/
def TyB (B g lo sF z8 s6 s9 : Nat) (ds : List DeclL) (fs : List FuncL) (a0 : Option Addr) (n0 c0 m : Nat) (M : Int) (w1 : World) (v8 : Value) (wx : World) : Prop := ∃ (x : ExprL) (ax : Option Addr) (nx cx : Nat) (q : Int) (vars : List Int) (av : Option Addr) (nv cv : Nat), v8 = .slice av nv cv ∧ nv ≤ 5 ∧ Hid (Rd wx (fun k => z8 ≤ k ∧ k ≠ s9) (encInts vars) (.slice av nv cv)) ∧ Hid (Ev wx s9 (fun k => lo ≤ k ∧ k ≠ sF ∧ k ≠ s9) x ax nx cx) ∧ Hid (allE (gfit 1000) x) ∧ Hid (nE x ≤ 30) ∧ Hid (AccR wx sF (fun k => lo ≤ k ∧ k < z8) 63 5 (.slice (some ⟨sF, 0, none⟩) m 4) (fs.map rowF)) ∧ Hid (Rd wx (fun k => lo ≤ k ∧ k ≠ sF ∧ k < z8) (encDecls ds) (.slice a0 n0 c0)) ∧ Hid (Px wx s6 (.slice a0 n0 c0) (.slice (some ⟨sF, 0, none⟩) m 4)) ∧ Hid (Rdx wx B g q) ∧ Hid (q ≤ M) ∧ Hid (Ext (fun k => k = g) w1 wx)
/-- Behind the third one: the expression may be bent. -/
def TyC (B g lo sF z8 s6 s9 : Nat) (ds : List DeclL) (fs : List FuncL) (a0 : Option Addr) (n0 c0 m : Nat) (M : Int) (w1 : World) (vars : List Int) (av : Option Addr) (nv cv : Nat) (wx : World) : Prop := ∃ (x : ExprL) (ax : Option Addr) (nx cx : Nat) (q : Int), Hid (Rd wx (fun k => z8 ≤ k ∧ k ≠ s9) (encInts vars) (.slice av nv cv)) ∧ Hid (Ev wx s9 (fun k => lo ≤ k ∧ k ≠ sF ∧ k ≠ s9) x ax nx cx) ∧ Hid (allE (gfit 2000) x) ∧ Hid (AccR wx sF (fun k => lo ≤ k ∧ k < z8) 63 5 (.slice (some ⟨sF, 0, none⟩) m 4) (fs.map rowF)) ∧ Hid (Rd wx (fun k => lo ≤ k ∧ k ≠ sF ∧ k < z8) (encDecls ds) (.slice a0 n0 c0)) ∧ Hid (Px wx s6 (.slice a0 n0 c0) (.slice (some ⟨sF, 0, none⟩) m 4)) ∧ Hid (Rdx wx B g q) ∧ Hid (q ≤ M) ∧ Hid (Ext (fun k => k = g) w1 wx)

theorem wpList_appI (w : World) {ops : Array Oper} {rest : List Oper} {o : Oper} {a : Act} {Q : Exit → Act → World → Prop} (hgd : o.guard = none) (s x : Operand)
    (ho : o.op = .call { callee := .builtin .append, args := #[s, x], argTypes := #[26, 26] })
    (base : Nat) (v : Value) (n : Nat) (xs : List Int) (hs : a.eval s = v) (hown : w.ownsRow base 3 1 v n (xs.map (Value.int .i64)))
    (A : Option Addr) (m c : Nat) (ys : List Int) (D : Nat → Prop) (hx : a.eval x = .slice A m c) (hr : IntsL w D A m ys) (hn : n + m ≤ 1099511627776) (hbase : base ≤ w.heap.size)
    (h : ∀ v' w', w'.ownsRow base 3 1 v' (n + m) ((xs ++ ys).map (Value.int .i64)) → w.grownBy w' v.ownBlock → (v'.ownBlock = v.ownBlock ∨ v'.ownBlock = some w.heap.size) → wpList Try.prog ops Q rest (a.put o.dst v') w') : wpList Try.prog ops Q (o :: rest) a w := by
  refine wpList_app w hgd s x 26 ho base 3 (.int .i64 0) 1 8 Try.underlying26 (by kernel_rfl) rfl (by omega) v n _ hs hown A m c (ys.map (Value.int .i64)) hx ⟨by simp [hr.1], fun hm => ?_⟩ (by simp [Value.oneCell']) (by omega) (by omega) hbase
    (fun v' w' h1 h2 h3 => h v' w' (by simpa using h1) h2 h3)
  obtain ⟨b, o, rfl, _, hc⟩ := hr.2 hm
  refine ⟨b, o, rfl, fun j u hj => ?_⟩
  have hjl : j < ys.length := by
    rcases Nat.lt_or_ge j ys.length with h | h
    · exact h
    · rw [List.getElem?_eq_none (by simpa using h)] at hj; cases hj
  rw [hc j (by have := hr.1; omega), iAt_eq hjl]
  simpa [List.getElem?_eq_getElem hjl] using hj
theorem VR.rd {w : World} {base : Nat} {v : Value} {xs : List Int} (h : VR w base v xs) (hx : xs.length ≤ 1000) : ∃ a c, v = .slice a xs.length c ∧ Rd w (fun k => v.ownBlock = some k) (encInts xs) v := by
  obtain ⟨a, c, e, h1, h2⟩ := h.slice
  exact ⟨a, c, e, by rw [e] at h2 ⊢; exact h2.read.toRd h1 (by omega)⟩

theorem Px.bx {w : World} {s : Nat} {u0 u1 v0 v1 : Value} (h : Px w s u0 u1) (_ : Ext (fun q => q = s) w ((w.setCell ⟨s, 0, none⟩ v0).setCell ⟨s, 1, none⟩ v1)) : Px ((w.setCell ⟨s, 0, none⟩ v0).setCell ⟨s, 1, none⟩ v1) s v0 v1 := h.set0.set1
theorem Ev.bx {w : World} {s : Nat} {D : Nat → Prop} {x : ExprL} {a : Option Addr} {n c : Nat} (h : Ev w s D x a n c) (y : ExprL) (a' : Option Addr) (n' c' : Nat) :
    (((w.setCell ⟨s, 0, none⟩ (.int .i64 y.op)).setCell ⟨s, 1, none⟩ (.int .i64 y.num)).setCell ⟨s, 2, none⟩ (.slice a' n' c')).cell? ⟨s, 0, none⟩ = some (.int .i64 y.op) ∧
    (((w.setCell ⟨s, 0, none⟩ (.int .i64 y.op)).setCell ⟨s, 1, none⟩ (.int .i64 y.num)).setCell ⟨s, 2, none⟩ (.slice a' n' c')).cell? ⟨s, 1, none⟩ = some (.int .i64 y.num) ∧
    (((w.setCell ⟨s, 0, none⟩ (.int .i64 y.op)).setCell ⟨s, 1, none⟩ (.int .i64 y.num)).setCell ⟨s, 2, none⟩ (.slice a' n' c')).cell? ⟨s, 2, none⟩ = some (.slice a' n' c') := by
  have r := ((h.r.set 0 (.int .i64 y.op)).set 1 (.int .i64 y.num)).set 2 (.slice a' n' c')
  exact ⟨r.cell (i := 0) (by omega), r.cell (i := 1) (by omega), r.cell (i := 2) (by omega)⟩

set_option maxRecDepth 100000 in
set_option maxHeartbeats 1000000 in
theorem DrawTypeOf_any (a : Option Addr) (len cap : Nat) (z : Nat → Int) (w : World) (h : Byt w a len z) (hlc : len ≤ cap) (hl : len ≤ 1048576) :
    Calls Try.prog 23 #[.slice a len cap] w fun e w' => ∃ (ds : List DeclL) (fs : List FuncL) (a0 : Option Addr) (n0 c0 : Nat) (a1 : Option Addr) (n1 c1 : Nat) (vars : List Int) (av : Option Addr) (nv cv : Nat) (x : ExprL) (ax : Option Addr) (nx cx : Nat), e = .returned (.tuple #[.agg #[.slice a0 n0 c0, .slice a1 n1 c1], .slice av nv cv, .agg #[.int .i64 x.op, .int .i64 x.num, .slice ax nx cx]]) ∧ Rd w' (fun k => w.heap.size ≤ k) (encDecls ds) (.slice a0 n0 c0) ∧ Rd w' (fun k => w.heap.size ≤ k) (encFuncs fs) (.slice a1 n1 c1) ∧ Rd w' (fun k => w.heap.size ≤ k) (encInts vars) (.slice av nv cv) ∧ Rd w' (fun k => w.heap.size ≤ k) (encExprs x.kids) (.slice ax nx cx) ∧ fitQ fs ∧ allE (gfit 2000) x ∧ nv ≤ 5 ∧ Keep w w' := by
  refine calls_k fun Q hQ => ?_
  have K1 := (Keep.al w (.cells #[.slice none 0 0, .slice none 0 0] 50)).trans (Keep.al _ (.cells #[.int .i64 0, .int .i64 0, .slice none 0 0] 53))
  have h1 := Lib.hid (h.ext K1 (fun _ _ _ h => h))
  have P2 := Lib.hid ((Px.born w (.slice none 0 0) (.slice none 0 0)).k (Keep.al _ (.cells #[.int .i64 0, .int .i64 0, .slice none 0 0] 53)))
  have hz0 : (w.alloc (.cells #[.slice none 0 0, .slice none 0 0] 50)).heap.size = w.heap.size + 1 := World.size_alloc _ _
  have hz1 : ((w.alloc (.cells #[.slice none 0 0, .slice none 0 0] 50)).alloc (.cells #[.int .i64 0, .int .i64 0, .slice none 0 0] 53)).heap.size = w.heap.size + 2 := by rw [World.size_alloc, hz0]
  have E4 := Lib.hid (Ev.born (w.alloc (.cells #[.slice none 0 0, .slice none 0 0] 50)) (fun _ => False) (.mk 0 0 []) none 0 0 (.nil 3 _ _))
  have KK := Lib.hid K1
  clear h K1
  go_enter Try.func23, Try.ntmps23
  go_upto_region 1 with fail
  replace E4 : Hid (Ev ((w.alloc (.cells #[.slice none 0 0, .slice none 0 0] 50)).alloc (.cells #[.int .i64 0, .int .i64 0, .slice none 0 0] 53)) (w.heap.size + 1) (fun _ => False) (.mk 0 0 []) none 0 0) := by rw [← hz0]; exact E4
  generalize hW : (w.alloc (.cells #[.slice none 0 0, .slice none 0 0] 50)).alloc (.cells #[.int .i64 0, .int .i64 0, .slice none 0 0] 53) = W1 at *
  clear hW
  go_wp2_with fail
  refine (newReaderX a len cap z W1 h1.out hlc hl).mono ?_
  rintro e w1 ⟨g, hg, rfl, r1, k1⟩
  have hs1 := k1.size
  have hgB := r1.gB
  replace P2 := Lib.hid (P2.out.k k1)
  replace E4 := Lib.hid (E4.out.keep k1)
  have KK1 := Lib.hid (KK.out.trans k1)
  obtain ⟨lo, hlo⟩ : ∃ lo, lo = w1.heap.size := ⟨_, rfl⟩
  rw [← hlo] at r1 hgB
  clear KK h1 k1
  go_wp2_with fail
  refine (specSomeBody lo g 0 w1 r1 (by omega) (by omega)).mono ?_
  rintro e w2 ⟨ds, fs, a0, n0, c0, sF, m, k, q, rfl, hGP, hO, hkm, r2, hq, x2⟩
  have hs2 := x2.size
  rw [← hlo] at hO
  obtain ⟨_, _, _, _, _, _, _, _, _, _, _, _, _, _, em, _⟩ := tabO_at hO.f (k := 0) (by have := hGP.two; omega)
  have hkf : k < fs.length := by omega
  obtain ⟨ap, np, cp, ab, nb, cb, z0, z1, z2, z3, z4, rp, rk, -, -, -⟩ := tabO_at hO.f hkf
  have HB := Lib.hid (hGP.body k hkf)
  have hnp3 : np ≤ 3 := by have := (hGP.g.sig hkf).1; have := (ints_at rp).1; omega
  have kk0 : (0 : Int) ≤ (k : Int) := by omega
  have kk1 : (k : Int) < (m : Int) := by omega
  have hsF := (hO.f.bound sF rfl).2
  have hsl := hO.s
  have K2 := Keep.al w2 (.cells #[.slice a0 n0 c0, .slice (some ⟨sF, 0, none⟩) m 4] 50)
  have y0 := K2.cl z0 (fun h => h)
  have y1 := K2.cl z1 (fun h => h)
  have y2 := K2.cl z2 (fun h => h)
  have y3 := K2.cl z3 (fun h => h)
  have y4 := K2.cl z4 (fun h => h)
  have x0 : (w2.alloc (.cells #[.slice a0 n0 c0, .slice (some ⟨sF, 0, none⟩) m 4] 50)).cell? ⟨w2.heap.size, 0, none⟩ = some (.slice a0 n0 c0) := boxk (Ext.refl _ _) 0
  have xx1 : (w2.alloc (.cells #[.slice a0 n0 c0, .slice (some ⟨sF, 0, none⟩) m 4] 50)).cell? ⟨w2.heap.size, 1, none⟩ = some (.slice (some ⟨sF, 0, none⟩) m 4) := boxk (Ext.refl _ _) 1
  have HGP := Lib.hid hGP
  have HQ : Hid (q ≤ 300000001) := by show _ ≤ _; omega
  have RR := Lib.hid (r2.keep K2)
  have X := Lib.hid (x2.trans (Keep.to K2))
  have OF0 := Lib.hid (hO.f.ltD.keep K2)
  have OD0 := Lib.hid (hO.d.lt.k K2)
  have P6 := Lib.hid (Px.born w2 (.slice a0 n0 c0) (.slice (some ⟨sF, 0, none⟩) m 4))
  have RK := Lib.hid (rk.lt.k K2)
  have RP := Lib.hid (rp.k K2)
  have hz2 : (w2.alloc (.cells #[.slice a0 n0 c0, .slice (some ⟨sF, 0, none⟩) m 4] 50)).heap.size = w2.heap.size + 1 := World.size_alloc _ _
  have HZ2 : Hid (w2.heap.size < (w2.alloc (.cells #[.slice a0 n0 c0, .slice (some ⟨sF, 0, none⟩) m 4] 50)).heap.size) := by show _ < _; omega
  clear hGP hO r2 x2 hq em rp rk z0 z1 z2 z3 z4 K2
  go_upto_region 3 with fail
  generalize hW : w2.alloc (.cells #[.slice a0 n0 c0, .slice (some ⟨sF, 0, none⟩) m 4] 50) = w3 at *
  clear hW
  generalize hS : w2.heap.size = s6 at *
  clear hS
  obtain ⟨z8, hz8⟩ : ∃ z, z = w3.heap.size := ⟨_, rfl⟩
  have hez : z8 = s6 + 1 := by omega
  generalize hvars : (fAt fs k).params = vars0 at *
  generalize hbody : (fAt fs k).body = y at *
  clear hvars hbody
  obtain rfl : np = vars0.length := (ints_at RP.out).1.symm
  go_wp2_with fail
  refine (specCopyRow _ _ _ _ _ _ RP.out.toInts (by omega)).mono ?_
  rintro e w4 ⟨v8, rfl, o8, k4⟩
  have VV0 : VR w4 z8 v8 vars0 := by rw [hz8]; exact o8
  obtain ⟨a8, c8, rfl, -, -⟩ := VV0.slice
  have hs4 := k4.size
  have HVB := VV0.lt
  have K5 := Keep.al w4 (.cells #[.int .i64 y.op, .int .i64 y.num, .slice ab nb cb] 53)
  have hz5 : (w4.alloc (.cells #[.int .i64 y.op, .int .i64 y.num, .slice ab nb cb] 53)).heap.size = w4.heap.size + 1 := World.size_alloc _ _
  have K45 := k4.trans K5
  have VV := Lib.hid (VV0.k K5)
  have OF : Hid (AccR (w4.alloc (.cells #[.int .i64 y.op, .int .i64 y.num, .slice ab nb cb] 53)) sF (fun k => lo ≤ k ∧ k < z8) 63 5 (.slice (some ⟨sF, 0, none⟩) m 4) (fs.map rowF)) := (OF0.out.keep K45).mono (fun k hk => by omega)
  have OD : Hid (Rd (w4.alloc (.cells #[.int .i64 y.op, .int .i64 y.num, .slice ab nb cb] 53)) (fun k => lo ≤ k ∧ k ≠ sF ∧ k < z8) (encDecls ds) (.slice a0 n0 c0)) := (OD0.out.k K45).mono (fun k hk => by omega)
  replace P6 := Lib.hid (P6.out.k K45)
  replace RR := Lib.hid (RR.out.keep K45)
  replace X := Lib.hid (X.out.trans (Keep.to K45))
  have E9 : Hid (Ev (w4.alloc (.cells #[.int .i64 y.op, .int .i64 y.num, .slice ab nb cb] 53)) w4.heap.size (fun k => lo ≤ k ∧ k ≠ sF ∧ k ≠ w4.heap.size ∧ (Value.slice a8 vars0.length c8).ownBlock ≠ some k) y ab nb cb) := Ev.born w4 (fun k => lo ≤ k ∧ k ≠ sF ∧ k ≠ w4.heap.size ∧ (Value.slice a8 vars0.length c8).ownBlock ≠ some k) y ab nb cb ((RK.out.k k4).mono (fun k hk => ⟨by omega, by omega, by omega, fun h => by have := HVB k h; omega⟩))
  replace x0 := k4.cl x0 (fun h => h)
  replace xx1 := k4.cl xx1 (fun h => h)
  have q0 := k4.cl y0 (fun h => h)
  have q1 := k4.cl y1 (fun h => h)
  have q2 := k4.cl y2 (fun h => h)
  have q3 := k4.cl y3 (fun h => h)
  have q4 := k4.cl y4 (fun h => h)
  have HVB2 := Lib.hid HVB
  clear o8 VV0 K5 K45 k4 OF0 OD0 RK RP y0 y1 y2 y3 y4 HVB
  go_upto_region 5 with fail
  generalize hW : w4.alloc (.cells #[.int .i64 y.op, .int .i64 y.num, .slice ab nb cb] 53) = w5 at *
  clear hW q0 q1 q2 q3 q4 x0 xx1
  generalize hS : w4.heap.size = s9 at *
  clear hS
  have h6g : s6 ≠ g := by omega
  have h69 : s6 ≠ s9 := by omega
  go_wp2_with fail
  refine (pickX lo g q 3 w5 RR.out (by have := HQ.out; omega) (by omega)).mono ?_
  rintro e wq ⟨v, rfl, hv, _, r5, x5⟩
  obtain ⟨hv0, hv1⟩ := hv (by omega)
  have hs5 := x5.size
  replace RR := Lib.hid r5
  replace X := Lib.hid (X.out.trans x5)
  replace OF := Lib.hid (OF.out.ext x5 (fun k _ hk h => by rcases hk with hk | hk <;> omega))
  replace OD := Lib.hid (OD.out.ext x5 (fun k hk => by omega))
  replace P6 := Lib.hid (P6.out.e x5 (by omega))
  replace VV := Lib.hid (VV.out.ext x5 (fun k hk h => by have := HVB2.out k hk; omega))
  replace E9 := Lib.hid (E9.out.ext x5 (by omega) (fun k hk => by omega))
  replace HQ : Hid (q + 1 ≤ 300000003) := by show _ ≤ _; have := HQ.out; omega
  clear hv r5 x5 hz2 hz5
  go_upto_if 32 with fail
  go_cut [] (fun wx => TyA lo g lo sF z8 s6 s9 ds fs a0 n0 c0 m 301000000 w1 (Value.slice a8 vars0.length c8) vars0 wx)
  case first =>
    by_cases hv0c : v = 0
    · subst hv0c
      go_upto_region 6 with fail
      have x0 : wq.drew.cell? ⟨s6, 0, none⟩ = some (.slice a0 n0 c0) := P6.out.x0
      have x1 : wq.drew.cell? ⟨s6, 1, none⟩ = some (.slice (some ⟨sF, 0, none⟩) m 4) := P6.out.x1
      have KD : Keep wq wq.drew := (Ext.refl (fun _ => False) wq).drew
      replace X := Lib.hid (X.out.trans (Keep.to KD))
      replace OF := Lib.hid (OF.out.keep KD)
      replace OD := Lib.hid (OD.out.k KD)
      replace P6 := Lib.hid (P6.out.k KD)
      replace VV := Lib.hid (VV.out.k KD)
      replace E9 := Lib.hid (E9.out.keep KD)
      replace RR := Lib.hid (RR.out.keep KD)
      clear KD
      refine wp_region_held_drew (S := fun w' => w'.cell? ⟨s6, 0, none⟩ = some (.slice a0 n0 c0) ∧ w'.cell? ⟨s6, 1, none⟩ = some (.slice (some ⟨sF, 0, none⟩) m 4)) (by kernel_rfl) ⟨x0, x1⟩ (fun hHeld => ?_)
      have pc : Hid (Ext (· = g) wq.drew wq.drew) := Ext.refl _ _
      generalize wq.drew = W0 at *
      refine wT 0 hHeld ?_
      try go_frame
      refine wT 1 hHeld ?_
      try go_frame
      refine wT 2 hHeld ?_
      try go_frame
      refine wT 3 hHeld ?_
      try go_frame
      refine wO 4 (fun K hK => ?_)
      go_simp
      obtain ⟨sy1, hsy1⟩ : ∃ s, s = W0.heap.size := ⟨_, rfl⟩
      obtain ⟨y1, hW⟩ : ∃ N, N = W0.alloc (.cells #[.int .i64 0, .int .i64 1, .int .i64 3] 3) := ⟨_, rfl⟩
      rw [← hsy1, ← hW]
      have kk : Keep W0 y1 := by rw [hW]; exact Keep.al _ _
      have hzy1 : W0.heap.size + 1 ≤ y1.heap.size := by rw [hW]; exact Nat.le_of_eq (World.size_alloc _ _).symm
      have hisy1 : W0.heap.size ≤ sy1 := by omega
      have hlt := E9.out.lt
      have hpz := pc.out.size
      have TY : Hid (Rd y1 (fun k => k ≠ g) (encInts [0, 1, 3]) (.slice (some ⟨sy1, 0, none⟩) 3 3)) := by
        rw [hW, hsy1]
        exact lit_intsD W0 (fun k => k ≠ g) 3 [0, 1, 3] #[.int .i64 0, .int .i64 1, .int .i64 3] 3 (by omega) rfl rfl (by omega)
      replace pc := Lib.hid (pc.out.trans (Keep.to kk))
      replace OF := Lib.hid (OF.out.keep kk)
      replace OD := Lib.hid (OD.out.k kk)
      replace P6 := Lib.hid (P6.out.k kk)
      replace VV := Lib.hid (VV.out.k kk)
      replace E9 := Lib.hid (E9.out.keep kk)
      replace RR := Lib.hid (RR.out.keep kk)
      clear kk hW hsy1
      clear hlt hpz
      refine hK.out _ _ ⟨pc.out.at x0 h6g, pc.out.at x1 h6g⟩ (fun hHeld => ?_)
      clear hK K
      try go_frame
      refine wO 5 (fun K hK => ?_)
      go_simp
      go_at_call 69
      refine (oneX lo g _ _ 3 3 [0, 1, 3] (fun k => k ≠ g) y1 RR.out (by have := HQ.out; omega) TY.out.toInts (by omega) (by omega) (fun h => h rfl)).mono ?_
      rintro e y2 ⟨t, ht, rfl, r6, xi⟩
      replace pc := Lib.hid (pc.out.trans xi)
      replace OF := Lib.hid (OF.out.ext xi (fun k _ hk h => by rcases hk with hk | hk <;> omega))
      replace OD := Lib.hid (OD.out.ext xi (fun k hk => by omega))
      replace P6 := Lib.hid (P6.out.e xi (by omega))
      replace VV := Lib.hid (VV.out.ext xi (fun k hk h => by have := VV.out.lt k hk; omega))
      replace E9 := Lib.hid (E9.out.ext xi (by omega) (fun k hk => by first | exact (hk : False).elim | omega))
      replace TY := Lib.hid (TY.out.ext xi (fun k hk => by omega))
      replace RR := Lib.hid r6
      have HT := Lib.hid ht
      clear ht r6 xi
      refine hK.out _ _ ⟨pc.out.at x0 h6g, pc.out.at x1 h6g⟩ (fun hHeld => ?_)
      clear hK K
      try go_frame
      refine wO 6 (fun K hK => ?_)
      have HT5 : T5 t := by
        have h := HT.out
        simp only [List.mem_cons, List.not_mem_nil, or_false] at h
        unfold T5; omega
      have PGG : PG y2 g ds fs a0 n0 c0 (some ⟨sF, 0, none⟩) m 4 := ⟨OD.out.mono (fun k hk => by omega), OF.out.rdT.mono (fun k hk => by rcases hk with h | h; omega; have := Option.some.inj h; change sF = k at this; omega)⟩
      have VRD : Rd y2 (fun k => k ≠ g) (encInts vars0) (.slice a8 vars0.length c8) := by
        obtain ⟨a', c', e, h⟩ := VV.out.rd (by omega)
        exact h.mono (fun k hk => by have := VV.out.lt k hk; omega)
      have hlt := VV.out.lt
      go_simp
      go_at_call 68
      refine (specFittingz ds fs lo g 12 HGP.out.g t vars0 a8 vars0.length c8 _ _ _ _ _ _ _ 12 rfl y2 HT5 PGG VRD (by omega) RR.out (by have := pc.out.size; have := X.out.size; omega) (by have := HQ.out; have h2 := pkG_12; omega)).mono ?_
      rintro e y3 ⟨x, ax, nx, cx, q6, rfl, rx, fx, sx, r6, hq6, xi⟩
      have hpz := pc.out.size
      have hwz := X.out.size
      have hE9 := E9.out.lt
      have HZ0 : y2.heap.size ≤ y3.heap.size := xi.size
      have RXS := Lib.hid (rx.mono (D' := (fun k => lo ≤ k ∧ k ≠ sF ∧ k ≠ s9 ∧ (Value.slice a8 vars0.length c8).ownBlock ≠ some k)) (fun k hk => ⟨by omega, by omega, by omega, fun h => by have := VV.out.lt k h; omega⟩))
      replace pc := Lib.hid (pc.out.trans xi)
      replace OF := Lib.hid (OF.out.ext xi (fun k _ hk h => by rcases hk with hk | hk <;> omega))
      replace OD := Lib.hid (OD.out.ext xi (fun k hk => by omega))
      replace P6 := Lib.hid (P6.out.e xi (by omega))
      replace VV := Lib.hid (VV.out.ext xi (fun k hk h => by have := VV.out.lt k hk; omega))
      replace E9 := Lib.hid (E9.out.ext xi (by omega) (fun k hk => by first | exact (hk : False).elim | omega))
      replace RR := Lib.hid r6
      have FX := Lib.hid fx
      have SX := Lib.hid sx
      have HQ6 : Hid (q6 ≤ 301000000) := by show _ ≤ _; have := HQ.out; have h2 := pkG_12; omega
      clear rx fx sx r6 hq6 xi PGG VRD HT5 hlt HZ0 hpz hwz hE9
      refine hK.out _ _ ⟨pc.out.at x0 h6g, pc.out.at x1 h6g⟩ (fun hHeld => ?_)
      clear hK K
      try go_frame
      refine wO 7 (fun K hK => ?_)
      have c0 := E9.out.v0
      have c1 := E9.out.v1
      have c2 := E9.out.v2
      have g0 := E9.out.g0
      have g1 := E9.out.g1
      have g2 := E9.out.g2
      go_simp
      refine hK.out _ _ ⟨at_set3 (pc.out.at x0 h6g) h69, at_set3 (pc.out.at x1 h6g) h69⟩ (fun hHeld => ?_)
      clear hK K
      try go_frame
      refine wpAnyH_done (by kernel_rfl) ?_ _
      go_wp2_with fail
      go_meet
      case rel =>
        have Y := ext3 y3 s9 (.int .i64 x.op) (.int .i64 x.num) (.slice ax nx cx)
        have hE9 := E9.out.lt
        exact ⟨x, ax, nx, cx, q6, E9.out.store (y := x) RXS.out (fun k hk => hk.2.2.1), FX.out, SX.out, VV.out.ext Y (fun k hk h => by have := HVB2.out k hk; omega), OF.out.extO Y (fun k hk h => by omega) (fun k hk h => by have := Option.some.inj hk; change sF = k at this; omega), OD.out.ext Y (fun k hk h => by omega), P6.out.e Y (by omega), RR.out.ext Y (fun k hk h => by omega), HQ6.out, (X.out.trans pc.out).then_ Y (fun k hk h => by omega)⟩

    · have t0 : (v == 0) = false := by rw [beq_eq_false_iff_ne]; exact hv0c
      go_wp2_with fail
      go_meet
      case rel => exact ⟨y, ab, nb, cb, q + 1, E9.out, HB.out.1, HB.out.2, VV.out, OF.out, OD.out, P6.out, RR.out, by show _ ≤ _; have := HQ.out; omega, X.out⟩
  case rest =>
  clear E9 VV OF OD P6 RR X HQ
  obtain ⟨x, ax, nx, cx, q2, E9, FX, SX, VV, OF, OD, P6, RR, HQ, X⟩ := hcut
  go_wp2_with fail
  refine (pickX lo g q2 8 wc RR.out (by have := HQ.out; omega) (by omega)).mono ?_
  rintro e wp ⟨v', rfl, hv, _, r5, x5⟩
  obtain ⟨hw0, hw1⟩ := hv (by omega)
  replace RR := Lib.hid r5
  replace X := Lib.hid (X.out.trans x5)
  replace OF := Lib.hid (OF.out.ext x5 (fun k _ hk h => by rcases hk with hk | hk <;> omega))
  replace OD := Lib.hid (OD.out.ext x5 (fun k hk => by omega))
  replace P6 := Lib.hid (P6.out.e x5 (by omega))
  replace VV := Lib.hid (VV.out.ext x5 (fun k hk h => by have := HVB2.out k hk; omega))
  replace E9 := Lib.hid (E9.out.ext x5 (by omega) (fun k hk => by omega))
  replace HQ : Hid (q2 + 1 ≤ 301000001) := by show _ ≤ _; have := HQ.out; omega
  clear hv r5 x5
  go_upto_if 42 with fail
  go_cut [8] (fun sv wx => TyB lo g lo sF z8 s6 s9 ds fs a0 n0 c0 m 301000002 w1 sv wx)
  case first =>
    by_cases hv0c : v' = 0
    · subst hv0c
      go_wp2_with fail
      refine (oneL lo g _ [0, 1, 9, -1] 4 4 3 _ wp RR.out (by have := HQ.out; omega) rfl rfl (by omega) (by omega)).mono ?_
      rintro e w6 ⟨t, ht, rfl, r6, x6⟩
      replace RR := Lib.hid r6
      replace X := Lib.hid (X.out.trans x6)
      replace OF := Lib.hid (OF.out.ext x6 (fun k _ hk h => by rcases hk with hk | hk <;> omega))
      replace OD := Lib.hid (OD.out.ext x6 (fun k hk => by omega))
      replace P6 := Lib.hid (P6.out.e x6 (by omega))
      replace VV := Lib.hid (VV.out.ext x6 (fun k hk h => by have := HVB2.out k hk; omega))
      replace E9 := Lib.hid (E9.out.ext x6 (by omega) (fun k hk => by omega))
      clear ht r6 x6
      have K7 := Keep.al w6 (.cells #[.int .i64 t] 3)
      have hxt : IntsL (w6.alloc (.cells #[.int .i64 t] 3)) (fun _ => True) (some ⟨w6.heap.size, 0, none⟩) 1 [t] := (lit_intsD w6 (fun _ => True) 3 [t] #[.int .i64 t] 1 trivial rfl rfl (by omega)).toInts
      have VV7 := VV.out.k K7
      have hzz : z8 ≤ (w6.alloc (.cells #[.int .i64 t] 3)).heap.size := by have h1 := X.out.size; have h2 := P6.out.lt; have h3 := K7.size; omega
      replace X := Lib.hid (X.out.trans (Keep.to K7))
      replace OF := Lib.hid (OF.out.keep K7)
      replace OD := Lib.hid (OD.out.k K7)
      replace P6 := Lib.hid (P6.out.k K7)
      replace E9 := Lib.hid (E9.out.keep K7)
      replace RR := Lib.hid (RR.out.keep K7)
      replace HQ : Hid (q2 + 1 + 1 ≤ 301000002) := by show _ ≤ _; have := HQ.out; omega
      clear K7
      go_wp2_with (at_builtin; refine wpList_appI _ rfl (.tmp 43) (.tmp 47) rfl z8 (Value.slice a8 vars0.length c8) vars0.length vars0 rfl VV7 _ 1 1 [t] (fun _ => True) rfl hxt (by omega) hzz ?_; intro vn w7 ho hgr hnb; have X7 : Ext (fun k => (Value.slice a8 vars0.length c8).ownBlock = some k) _ w7 := ((Ext.refl _ _).grown hgr (fun k hk => .inr hk)); have VN : VR w7 z8 vn (vars0 ++ [t]) := (by unfold VR; rw [List.length_append]; exact ho); obtain ⟨an, cn, evn, hrn⟩ := VN.rd (by rw [List.length_append]; simp; omega); have RV := Lib.hid (hrn.mono (D' := fun k => z8 ≤ k ∧ k ≠ s9) (fun k hk => ⟨(VN.lt k hk).1, fun h => by rcases hnb with hb | hb; exact Nat.ne_of_lt (HVB2.out k (by rw [← hb]; exact hk)).2 h; rw [hb] at hk; have := Option.some.inj hk; have := E9.out.lt; omega⟩)); rw [List.length_append] at evn; subst evn; replace X := Lib.hid (X.out.then_ X7 (fun k hk h => by have := HVB2.out k h; omega)); replace OF := Lib.hid (OF.out.extO X7 (fun k hk h => by have := HVB2.out k h; omega) (fun k hk h => by have := Option.some.inj hk; change sF = k at this; have := HVB2.out k h; omega)); replace OD := Lib.hid (OD.out.ext X7 (fun k hk h => by have := HVB2.out k h; omega)); replace P6 := Lib.hid (P6.out.e X7 (fun h => by have := HVB2.out _ h; omega)); replace E9 := Lib.hid ((E9.out.ext X7 (fun h => by have := HVB2.out _ h; omega) (fun k hk => hk.2.2.2)).mono (D' := (fun k => lo ≤ k ∧ k ≠ sF ∧ k ≠ s9)) (fun k hk => ⟨hk.1, hk.2.1, hk.2.2.1⟩)); replace RR := Lib.hid (RR.out.ext X7 (fun k hk h => by have := HVB2.out k h; omega)); clear X7 hgr ho VN hrn hnb VV7 hxt VV)
      go_meet
      case rel => exact ⟨x, ax, nx, cx, q2 + 1 + 1, vars0 ++ [t], an, vars0.length + 1, cn, rfl, by omega, RV.out, E9.out, FX.out, SX.out, OF.out, OD.out, P6.out, RR.out, HQ.out, X.out⟩
    · have t1 : (v' == 0) = false := by rw [beq_eq_false_iff_ne]; exact hv0c
      obtain ⟨a', c', ev, hrv⟩ := VV.out.rd (by omega)
      go_wp2_with fail
      go_meet
      case rel => exact ⟨x, ax, nx, cx, q2 + 1, vars0, a8, vars0.length, c8, rfl, by omega, hrv.mono (fun k hk => ⟨(HVB2.out k hk).1, Nat.ne_of_lt (HVB2.out k hk).2⟩), E9.out.mono (fun k hk => ⟨hk.1, hk.2.1, hk.2.2.1⟩), FX.out, SX.out, OF.out, OD.out, P6.out, RR.out, by show _ ≤ _; have := HQ.out; omega, X.out⟩
  case rest =>
  clear E9 FX SX VV OF OD P6 RR X HQ
  obtain ⟨x, ax, nx, cx, q3, vars, av, nv, cv, rfl, hnv5, VD, E9, FX, SX, OF, OD, P6, RR, HQ, X⟩ := hcut
  go_wp2_with fail
  refine (pickX lo g q3 6 wc RR.out (by have := HQ.out; omega) (by omega)).mono ?_
  rintro e wp ⟨v', rfl, hv, _, r5, x5⟩
  obtain ⟨hw0, hw1⟩ := hv (by omega)
  replace RR := Lib.hid r5
  replace X := Lib.hid (X.out.trans x5)
  replace OF := Lib.hid (OF.out.ext x5 (fun k _ hk h => by rcases hk with hk | hk <;> omega))
  replace OD := Lib.hid (OD.out.ext x5 (fun k hk => by omega))
  replace P6 := Lib.hid (P6.out.e x5 (by omega))
  replace VD := Lib.hid (VD.out.ext x5 (fun k hk => by omega))
  replace E9 := Lib.hid (E9.out.ext x5 (by omega) (fun k hk => by omega))
  replace HQ : Hid (q3 + 1 ≤ 301000003) := by show _ ≤ _; have := HQ.out; omega
  clear hv r5 x5
  go_upto_if 51 with fail
  go_cut [] (fun wx => TyC lo g lo sF z8 s6 s9 ds fs a0 n0 c0 m 301000500 w1 vars av nv cv wx)
  case first =>
    by_cases hv0c : v' = 0
    · subst hv0c
      have e0 := E9.out.v0
      have e1 := E9.out.v1
      have e2 := E9.out.v2
      go_wp2_with fail
      refine (specBend lo g 1000 (by omega) x (by have := SX.out; omega) ax nx cx _ (q3 + 1) wp (fun k hk => by omega) FX.out E9.out.k RR.out (by have := X.out.size; omega) (by have h1 := HQ.out; have h2 := SX.out; omega)).mono ?_
      rintro e w7 ⟨x', ax', nx', cx', q7, rfl, rx, fx, _, r7, hq7, x7⟩
      have hl9 := E9.out.lt
      replace RR := Lib.hid r7
      replace X := Lib.hid (X.out.trans x7)
      replace OF := Lib.hid (OF.out.ext x7 (fun k _ hk h => by rcases hk with hk | hk <;> omega))
      replace OD := Lib.hid (OD.out.ext x7 (fun k hk => by omega))
      replace P6 := Lib.hid (P6.out.e x7 (by omega))
      replace VD := Lib.hid (VD.out.ext x7 (fun k hk => by omega))
      replace E9 := Lib.hid (E9.out.ext x7 (by omega) (fun k hk => by omega))
      have RX := Lib.hid (rx.mono (D' := (fun k => lo ≤ k ∧ k ≠ sF ∧ k ≠ s9)) (fun k hk => by rcases hk with hk | hk; exact hk; omega))
      have FX2 := Lib.hid fx
      replace HQ : Hid (q7 ≤ 301000500) := by show _ ≤ _; have h1 := HQ.out; have h2 := SX.out; omega
      clear rx fx r7 hq7 x7 e0 e1 e2
      have c0 := E9.out.v0
      have c1 := E9.out.v1
      have c2 := E9.out.v2
      have g0 := E9.out.g0
      have g1 := E9.out.g1
      have g2 := E9.out.g2
      go_wp2_with fail
      go_meet
      case rel =>
        have Y := ext3 w7 s9 (.int .i64 x'.op) (.int .i64 x'.num) (.slice ax' nx' cx')
        exact ⟨x', ax', nx', cx', q7, VD.out.ext Y (fun k hk h => by have h3 : k = s9 := h; exact hk.2 h3), E9.out.store (y := x') RX.out (fun k hk => hk.2.2), FX2.out, OF.out.extO Y (fun k hk h => by omega) (fun k hk h => by have := Option.some.inj hk; change sF = k at this; omega), OD.out.ext Y (fun k hk h => by omega), P6.out.e Y (by omega), RR.out.ext Y (fun k hk h => by omega), HQ.out, X.out.then_ Y (fun k hk h => by omega)⟩
    · have t2 : (v' == 0) = false := by rw [beq_eq_false_iff_ne]; exact hv0c
      go_wp2_with fail
      go_meet
      case rel => exact ⟨x, ax, nx, cx, q3 + 1, VD.out, E9.out, gfit_up (by omega) x FX.out, OF.out, OD.out, P6.out, RR.out, by show _ ≤ _; have := HQ.out; omega, X.out⟩
  case rest =>
  clear E9 FX SX OF OD P6 RR X HQ VD
  obtain ⟨x, ax, nx, cx, q, VD, E9, FX, OF, OD, P6, RR, HQ, X⟩ := hcut
  go_upto_region 11 with fail
  have KD : Keep wc wc.drew := (Ext.refl (fun _ => False) wc).drew
  replace X := Lib.hid (X.out.trans (Keep.to KD))
  have HO : Hid (OwnP lo wc.drew ds fs a0 n0 c0 sF m 4) := ⟨(OF.out.keep KD).mono (fun k hk => hk.1), (OD.out.k KD).mono (fun k hk => ⟨hk.1, hk.2.1⟩), hsl⟩
  replace VD := Lib.hid (VD.out.k KD)
  replace E9 := Lib.hid (E9.out.keep KD)
  replace RR := Lib.hid (RR.out.keep KD)
  replace P2 := Lib.hid (P2.out.e X.out (by omega))
  replace E4 := Lib.hid (E4.out.ext X.out (by omega) (fun k hk => hk.elim))
  have x0 : wc.drew.cell? ⟨s6, 0, none⟩ = some (.slice a0 n0 c0) := P6.out.x0
  have x1 : wc.drew.cell? ⟨s6, 1, none⟩ = some (.slice (some ⟨sF, 0, none⟩) m 4) := P6.out.x1
  have e0 : wc.drew.cell? ⟨s9, 0, none⟩ = some (.int .i64 x.op) := E9.out.v0
  have e1 : wc.drew.cell? ⟨s9, 1, none⟩ = some (.int .i64 x.num) := E9.out.v1
  have e2 : wc.drew.cell? ⟨s9, 2, none⟩ = some (.slice ax nx cx) := E9.out.v2
  have h6F : ¬ (s6 = g ∨ s6 = sF) := by omega
  have h9F : ¬ (s9 = g ∨ s9 = sF) := by omega
  have h62 : s6 ≠ w.heap.size := by omega
  have h92 : s9 ≠ w.heap.size := by omega
  have h64 : s6 ≠ w.heap.size + 1 := by omega
  have h94 : s9 ≠ w.heap.size + 1 := by omega
  have hwz : w1.heap.size ≤ wc.drew.heap.size := X.out.size
  clear OF OD P6 KD
  refine wp_region_held_drew (S := fun w' => w'.cell? ⟨s6, 0, none⟩ = some (.slice a0 n0 c0) ∧ w'.cell? ⟨s6, 1, none⟩ = some (.slice (some ⟨sF, 0, none⟩) m 4) ∧ w'.cell? ⟨s9, 0, none⟩ = some (.int .i64 x.op) ∧ w'.cell? ⟨s9, 1, none⟩ = some (.int .i64 x.num) ∧ w'.cell? ⟨s9, 2, none⟩ = some (.slice ax nx cx)) (by kernel_rfl) ⟨x0, x1, e0, e1, e2⟩ (fun hHeld => ?_)
  have pc : Hid (Keep wc.drew wc.drew) := Ext.refl _ _
  generalize wc.drew = W0 at *
  refine wT 0 hHeld ?_
  try go_frame
  refine wT 1 hHeld ?_
  try go_frame
  refine wT 3 hHeld ?_
  try go_frame
  refine wT 4 hHeld ?_
  try go_frame
  refine wO 2 (fun K hK => ?_)
  go_simp
  go_at_call 71
  refine (specSpoil lo lo g q ds fs a0 n0 c0 sF m 4 W0 HGP.out HO.out (by omega) (by have := pc.out.size; omega) RR.out (by omega) (by have := HQ.out; omega)).mono ?_
  rintro e y1 ⟨ds2, fs2, a2, n2, c2, a3, n3, c3, q2, rfl, rd, rf, hf, r7, hq7, xi⟩
  replace pc : Hid (Ext (fun k => k = g ∨ k = sF) W0 y1) := ((Keep.to pc.out).trans (xi.mono (fun k _ h => h)))
  replace VD := Lib.hid (VD.out.ext xi (fun k hk h => by omega))
  replace E9 := Lib.hid (E9.out.ext xi (by omega) (fun k hk => by omega))
  replace P2 := Lib.hid (P2.out.e xi (by omega))
  replace E4 := Lib.hid (E4.out.ext xi (by omega) (fun k hk => hk.elim))
  have RDD := Lib.hid rd
  have RFF := Lib.hid rf
  have HF := Lib.hid hf
  clear rd rf hf r7 hq7 xi HO
  refine hK.out _ _ ⟨pc.out.cl x0 h6F, pc.out.cl x1 h6F, pc.out.cl e0 h9F, pc.out.cl e1 h9F, pc.out.cl e2 h9F⟩ (fun hHeld => ?_)
  clear hK K
  try go_frame
  refine wO 5 (fun K hK => ?_)
  have c0 := P2.out.x0
  have c1 := P2.out.x1
  have g0 := P2.out.f0
  have g1 := P2.out.f1
  go_simp
  clear c0 c1 g0 g1
  refine hK.out _ _ ⟨at_set2 (pc.out.cl x0 h6F) h62, at_set2 (pc.out.cl x1 h6F) h62, at_set2 (pc.out.cl e0 h9F) h92, at_set2 (pc.out.cl e1 h9F) h92, at_set2 (pc.out.cl e2 h9F) h92⟩ (fun hHeld => ?_)
  clear hK K
  try go_frame
  refine wT 6 hHeld ?_
  try go_frame
  refine wO 7 (fun K hK => ?_)
  have Y0 := (ext1 y1 w.heap.size 0 (.slice a2 n2 c2)).trans (ext1 _ w.heap.size 1 (.slice a3 n3 c3))
  have E5 := Lib.hid (E4.out.ext Y0 (by omega) (fun k hk => hk.elim))
  have c0 := E5.out.v0
  have c1 := E5.out.v1
  have c2 := E5.out.v2
  have g0 := E5.out.g0
  have g1 := E5.out.g1
  have g2 := E5.out.g2
  go_simp
  clear c0 c1 c2 g0 g1 g2
  refine hK.out _ _ ⟨at_set3 (at_set2 (pc.out.cl x0 h6F) h62) h64, at_set3 (at_set2 (pc.out.cl x1 h6F) h62) h64, at_set3 (at_set2 (pc.out.cl e0 h9F) h92) h94, at_set3 (at_set2 (pc.out.cl e1 h9F) h92) h94, at_set3 (at_set2 (pc.out.cl e2 h9F) h92) h94⟩ (fun hHeld => ?_)
  clear hK K
  try go_frame
  refine wpAnyH_done (by kernel_rfl) ?_ _
  have Y3 := ((Y0.mono (S' := fun k => k = w.heap.size ∨ k = w.heap.size + 1) (fun k _ hk => .inl hk)).trans ((ext3 _ (w.heap.size + 1) (.int .i64 x.op) (.int .i64 x.num) (.slice ax nx cx)).mono (fun k _ hk => .inr hk)))
  have P3 := (P2.out.bx Y0).e (ext3 _ (w.heap.size + 1) (.int .i64 x.op) (.int .i64 x.num) (.slice ax nx cx)) (by omega)
  have E6 := E5.out.bx x ax nx cx
  have u0 := P3.x0
  have u1 := P3.x1
  have u2 := E6.1
  have u3 := E6.2.1
  have u4 := E6.2.2
  have RE := Lib.hid (E9.out.k.ext Y3 (fun k hk h => by omega))
  have RA := Lib.hid (RDD.out.ext Y3 (fun k hk h => by omega))
  have RB := Lib.hid (RFF.out.ext Y3 (fun k hk h => by omega))
  have RV := Lib.hid (VD.out.ext Y3 (fun k hk h => by omega))
  have KE := Lib.hid ((((KK1.out.then_ X.out (fun k hk h => by omega)).then_ pc.out (fun k hk h => by omega)).then_ Y3 (fun k hk h => by omega)))
  clear Y0 Y3 P3 E5 E6
  go_wp2_with fail
  refine bodyPost_ret (v := .tuple #[.agg #[.slice a2 n2 c2, .slice a3 n3 c3], .slice av nv cv, .agg #[.int .i64 x.op, .int .i64 x.num, .slice ax nx cx]]) (by simp [results, Try.results23, go_sem, u0, u1, u2, u3, u4]) rfl (fin_ hQ ?_)
  exact ⟨ds2, fs2, a2, n2, c2, a3, n3, c3, vars, av, nv, cv, x, ax, nx, cx, rfl, RA.out.mono (fun k hk => by omega), RB.out.mono (fun k hk => by omega), RV.out.mono (fun k hk => by omega), RE.out.mono (fun k hk => by omega), HF.out, FX.out, by omega, KE.out⟩

end Go.Proofs.Ytaeddcnakilnlaa
