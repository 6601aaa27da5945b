/- The generator of programs: varsOfType, canMake, anyType, someInt. -/
import Derived.Test.YtkapldpmjkdmcaaGreatUAG
import Derived.Deep.DeepCutAuto
namespace Go.Proofs.YtkapldpmjkdmcaaGreat
open Go.RowKit
set_option maxRecDepth 100000
set_option maxHeartbeats 4000000
theorem Nz(B g:Nat)(p:Int)(l:List Int)(n c:Nat)(T:TypeId)(cs:Array Value)(w:World)(k:Nat)(hk:k=w.heap.size)(h:Rdx w B g p)(hp:p≤1000000000000)(hcs:cs=(l.map (Value.int .i64)).toArray)(hn:n=l.length)
  (hl:1≤n) (hl2:n≤1000):
  Calls Tryz.prog 112 #[.pointer (some ⟨g,0,none⟩),.slice (some ⟨k,0,none⟩) n c] (w.alloc (.cells cs T)) fun e w'=>∃v,v∈l∧e=.returned (.int .i64 v)∧
   Rdx w' B g (p+1)∧Ext (·=g) w w':=by
 subst hk;exact GN B g p l n c T cs w h hp hcs hn hl hl2
theorem Wy(vars:List Int)(t:Int)(av:Option Addr)(nv cv:Nat)(D:Nat→Prop)(w:World)(hv:qN w D av nv vars)(hn:nv≤1000):
  Calls Tryz.prog 240 #[.slice av nv cv,.int .i64 t] w fun e w'=>∃a n c xs,e=.returned (.slice a n c)∧n≤c∧n≤nv∧qN w' (fun k=>w.heap.size≤k) a n xs∧(∀x,x∈xs→0≤x∧x<(nv:Int))∧zQ w w':=by
 refine zV fun Q hQ=>?_;have H0:=LH (gE w);have HV:=LH hv;clear hv;go_in;go_wp2_with fail;go_loopw [5,6] (fun ov iv wr=>∃(j:Nat) (xs:List Int),j≤nv∧iv=.int .i64 j∧Hid (wr.ownsRow w.heap.size 3 1 ov xs.length (xs.map (Value.int .i64)))∧Hid (xs.length≤j)∧Hid (∀x,x∈xs→0≤x∧x<(nv:Int))∧zQ w wr) (fun _ i _=>nv-(intOf i).toNat)
 case atStart=>exact⟨0, [],Nat.zero_le _,rfl,H0,Nat.le_refl _,(by intro x hx;cases hx),zQ.al _ _⟩
 case round=>
  obtain⟨j,xs,hj,rfl,hown,hxl,hxs,hK⟩:=hrel;have hsz:=hK.size;by_cases hlt:j<nv
  ·obtain⟨b,o,rfl,_,hc⟩:=HV.out.2 (by omega)
   have d0:=hc j hlt;have g0:=hK.q d0;clear d0 hc;have hjx:Hid (0≤(j:Int)∧(j:Int)<(nv:Int)):=⟨by omega,by omega⟩;by_cases ht:iAt vars j=t
   ·have h1:(iAt vars j==t)=true:=by simpa using ht
    clear ht;go_wp2_with (at_builtin;go_must (refine yv _ rfl (.tmp 20) (.tmp 22) rfl w.heap.size u5 xs.length xs rfl (hown.out.alloc _) wr.heap.size 1 (j:Int) rfl (JL wr _ _) (by have:=hxl.out;omega) (by simp;omega) ?_);intro v' w' ho hg);go_roundw
    case rel=>exact⟨j+1,xs++ [(j:Int)],by omega,by go_num,by show World.ownsRow _ _ _ _ _ _ _;rw[List.length_append];exact ho,by show _≤_;rw[List.length_append];exact Nat.succ_le_succ hxl.out,G4 hxs.out hjx.out,(hK.alloc _).grown hg (fun q hq=>.inl (by have:=(hown.out.lt q hq).1;simp at this ⊢;omega))⟩
    case measure=>simp[intOf];omega
   ·have h1:(iAt vars j==t)=false:=by simpa using ht
    clear ht;go_wp2_with fail;go_roundw
    case rel=>exact⟨j+1,xs,by omega,by go_num,hown,Nat.le_trans hxl.out (Nat.le_succ _),hxs,hK⟩
    case measure=>simp[intOf];omega
  ·go_wp2
   obtain⟨a2,cc,rfl,hle,hoi⟩:=jV hown.out;have hx4:=LH (Nat.le_trans hxl.out hj);exact zB hQ ⟨a2,_,cc,xs,rfl,hle,hx4.out,hoi.read,hxs.out,hK⟩
theorem kW(ds:List zG)(fs:List zA)(vars:List Int)(t:Int)(a0:Option Addr)(n0 c0:Nat)(a1:Option Addr)(n1 c1:Nat)(av:Option Addr)(nv cv:Nat)(D:Nat→Prop)(w:World)(hp:PR w ds fs a0 n0 c0 a1 n1 c1)(hds:ds.length≤4)(hfs:fs.length≤4)
  (hv:qN w D av nv vars) (hn:nv≤1000):
  Calls Tryz.prog 241 #[.agg #[.slice a0 n0 c0,.slice a1 n1 c1],.slice av nv cv,.int .i64 t] w fun e w'=>∃b:Bool,e=.returned (.bool b)∧zQ w w':=by
 refine zV fun Q hQ=>?_;have K0:=zQ.al w (.cells #[.slice a0 n0 c0,.slice a1 n1 c1] 44);have R0:=zP w #[.slice a0 n0 c0,.slice a1 n1 c1] 44;have hn0:n0≤4:=by have:=(zT hp.1).1;omega
 have qd:=(Rd.toDecls hp.1).ext K0 (fun _ _ h=>h);have qp:=LH (hp.k K0);have qv:=LH (hv.ext K0 (fun _ _ h=>h));clear hp hv;cases hb:xS ds t
 ·have HB:=LH hb
  clear hb;go_in;go_wp2_with fail;refine(jx _ _ _ ds _ _ _ qd (by omega)).mono ?_;rw[HB.out];rintro e w1 ⟨rfl,rfl⟩;go_wp2_with fail;exact zB hQ ⟨_,rfl,K0⟩
 ·have HB:=LH hb
  clear hb;go_in;go_wp2_with fail;refine(jx _ _ _ ds _ _ _ qd (by omega)).mono ?_;rw[HB.out];rintro e w1 ⟨rfl,rfl⟩;go_wp2_with fail;refine(Y9 ds fs _ _ _ _ _ _ _ _ qp.out hds hfs).mono ?_;rintro e w2 ⟨a,n,c,xs,rfl,hnc,hn4,hx,_,k2⟩;rcases Nat.eq_zero_or_pos n with h0|h0
  ·subst h0
   have qv2:=qv.out.ext k2 (fun _ _ h=>h);have KF:=LH (K0.trans k2);go_wp2_with fail;refine(Kw _ _ _ _ _ _ _ qv2 (by omega)).mono ?_;rintro e w3 ⟨rfl,rfl⟩;go_wp2_with fail;exact zB hQ ⟨_,rfl,KF.out⟩
  ·have hg:decide (0<n)=true:=decide_eq_true h0
   have KF:=LH (K0.trans k2);go_wp2_with fail;exact zB hQ ⟨_,rfl,KF.out⟩
theorem JT(B g:Nat)(p:Int)(w:World)(h:Rdx w B g p)(hp:p≤900000000000):
  Calls Tryz.prog 239 #[.pointer (some ⟨g,0,none⟩)] w fun e w'=>∃v:Int,e=.returned (.int .i64 v)∧ -1000≤v∧v≤1000∧Rdx w' B g (p+1+1+1+1)∧Ext (·=g) w w':=by
 refine zV fun Q hQ=>?_;go_in;go_wp2_with fail;refine(jD B g p _ _ h (by omega) (by omega)).mono ?_;rintro e w1 ⟨v1,rfl,hv1,_,h1,x1⟩;obtain⟨a1,b1⟩:=hv1 (by omega);go_wp2_with fail;refine(jD B g _ _ _ h1 (by omega) (by omega)).mono ?_;rintro e w2 ⟨v2,rfl,hv2,_,h2,x2⟩;obtain⟨a2,b2⟩:=hv2 (by omega);go_wp2_with fail;refine(jD B g _ _ _ h2 (by omega) (by omega)).mono ?_;rintro e w3 ⟨v3,rfl,hv3,_,h3,x3⟩;obtain⟨a3,b3⟩:=hv3 (by omega);clear h h1 h2;go_wp2_with fail;refine(GN B g _ [v1,v2,0,1,2, -1,3,v3,999, -998] 10 10 _ _ _ h3 (by omega) rfl rfl (by omega) (by omega)).mono ?_;rintro e w4 ⟨v4,hm,rfl,h4,x4⟩;have hb:Hid (-1000≤v4∧v4≤1000):=by
  show _∧_;simp only[List.mem_cons,List.not_mem_nil,or_false]at hm;omega
 clear hm;go_wp2_with fail;exact zB hQ ⟨v4,rfl,hb.out.1,hb.out.2,h4,((x1.trans x2).trans x3).trans x4⟩
theorem WS(ds:List zG)(fs:List zA)(vars:List Int)(B g:Nat)(p:Int)(a0:Option Addr)(n0 c0:Nat)(a1:Option Addr)(n1 c1:Nat)(av:Option Addr)(nv cv:Nat)(w:World)(hpg:PG w g ds fs a0 n0 c0 a1 n1 c1)(hds:ds.length≤4)(hfs:fs.length≤4)
  (hv:Rd w (fun k=>k≠g) (zY vars) (.slice av nv cv)) (hn:nv≤1000) (h:Rdx w B g p) (hB:B≤w.heap.size) (hp:p≤900000000000):
  Calls Tryz.prog 234 #[.pointer (some ⟨g,0,none⟩),.agg #[.slice a0 n0 c0,.slice a1 n1 c1],.slice av nv cv] w fun e w'=>∃t:Int,e=.returned (.int .i64 t)∧T5 t∧Rdx w' B g (p+1)∧Ext (·=g) w w':=by
 refine zV fun Q hQ=>?_;have K0:=zQ.al w (.cells #[.slice a0 n0 c0,.slice a1 n1 c1] 44);have R0:=zP w #[.slice a0 n0 c0,.slice a1 n1 c1] 44;have hgB:=h.gB;have hn0:n0≤4:=by have:=(zT hpg.d).1;omega
 have q0:=h.keep K0;go_in;go_wp2_with fail;refine(Nz B g _ [1,1,3,0,2,4,3] 7 7 _ _ _ _ (by simp) q0 (by omega) rfl rfl (by omega) (by omega)).mono ?_;rintro e w1 ⟨t,hm,rfl,h1,x1⟩;have hT:Hid (T5 t):=by
  show 0≤t∧t≤4;simp only[List.mem_cons,List.not_mem_nil,or_false]at hm;omega
 clear hm;have y0:w1.cell? ⟨w.heap.size,0,none⟩=some (.slice a0 n0 c0):=x1.at (R0.cell (i:=0) (by simp)) (by show w.heap.size≠g;omega);have y1:w1.cell? ⟨w.heap.size,1,none⟩=some (.slice a1 n1 c1):=x1.at (R0.cell (i:=1) (by simp)) (by show w.heap.size≠g;omega);have X1:=LH ((zQ.to K0).trans x1);by_cases hd:(n0:Int)<t
 ·have hd2:decide ((n0:Int)<t)=true:=decide_eq_true hd
  clear hd;go_wp2_with fail;exact zB hQ ⟨1,rfl,⟨by omega,by omega⟩,h1,X1.out⟩
 have hd2:decide ((n0:Int)<t)=false:=decide_eq_false hd;clear hd;have qp:=(hpg.ext X1.out).pr;have qv:=(hv.g X1.out).toInts;go_wp2_with fail;refine(kW ds fs vars t _ _ _ _ _ _ _ _ _ _ _ qp hds hfs qv hn).mono ?_;rintro e w2 ⟨b,rfl,k2⟩;have X2:=LH (X1.out.trans (zQ.to k2));have h2:=LH (h1.keep k2);cases b
 ·go_wp2_with fail
  exact zB hQ ⟨1,rfl,⟨by omega,by omega⟩,h2.out,X2.out⟩
 ·go_wp2_with fail
  exact zB hQ ⟨t,rfl,hT.out,h2.out,X2.out⟩
theorem vW(a:Option Addr)(n c:Nat)(ds:List zG)(D:Nat→Prop)(x:Int)(w:World)(h:qy w D a n ds)(hf:Few ds):
  Calls Tryz.prog 148 #[.slice a n c,.int .i64 x] w fun e w'=>∃a' m c',e=.returned (.slice a' m c')∧m≤c'∧qN w' D a' m (zR ds x)∧zQ w w':=by
 refine zV fun Q hQ=>?_;have HL:=LH h.1;have hn4:n≤4:=by have:=hf.1;have:=h.1;omega
 cases hv:kK ds x with
 |none=>
  have V:=LH (Q9 hv);have F:=LH (show zR ds x= []by rw[zR,hv]);clear hv;go_in;go_wp2_with (go_at_call 146;refine(jC _ _ _ _ _ _ _ h hf).mono ?_;rw[V.out];rintro e w1 ⟨rfl,rfl⟩);exact zB hQ ⟨_,0,0,rfl,Nat.le_refl _,by rw[F.out];exact⟨rfl,fun h=>absurd h (by omega)⟩,(Ext.refl _ _).alloc _⟩
 |some k=>
  obtain⟨q1,q2,_⟩:=gM hv;have V:=LH (Qw hv);have F:=LH (show zR ds x=cAt (dAt ds k).cons (x.toNat-zj ds k)by rw[zR,hv]);obtain⟨g1,g2⟩:=g7.1 q2;obtain⟨j,hj⟩:=Int.eq_ofNat_of_zero_le g1;obtain rfl:x=(zj ds k:Int)+(j:Int):=by omega
  have hkn:k<n:=by have:=HL.out;omega
  obtain⟨b,o,rfl,hd,hc⟩:=h.2 (by omega);obtain⟨_,_,a',m,c',c2,hmc,hcons⟩:=hc k hkn;have HM:=hcons.1;obtain⟨b1',o1,rfl,hd1,hc1⟩:=hcons.2 (by omega);obtain⟨a2,m2,c2',x0,hmc2,hints⟩:=hc1 j (by omega);have hjm:j<m:=by omega
  have b1:=xz hf (k:=k) (by have:=HL.out;omega);have hcl:=hf.2 k (by have:=HL.out;omega);have b3:m≤3:=by omega
  have HI:=LH hints;clear hc hcons hc1 hints hv q2 g1 g2 hj HM hcl;go_in;go_wp2_with (go_at_call 146;refine(jC _ _ _ _ _ _ _ h hf).mono ?_;rw[V.out];rintro e w1 ⟨rfl,rfl⟩);have e1:IntKind.i64.wrap ((k:Int)+1-1)=(k:Int):=by rw[show(k:Int)+1-1=(k:Int)by omega];exact IntWalk.i64_in _ (by omega)
  have e3:IntKind.i64.wrap (k:Int)=(k:Int):=IntWalk.i64_in _ (by omega);have e4:IntKind.i64.wrap (j:Int)=(j:Int):=IntWalk.i64_in _ (by omega);have e2:IntKind.i64.wrap ((zj ds k:Int)+(j:Int)-(zj ds k:Int))=(j:Int):=by rw[show(zj ds k:Int)+(j:Int)-(zj ds k:Int)=(j:Int)by omega];exact IntWalk.i64_in _ (by omega)
  go_quiet ((go_at_call 196;exact Calls.quiet_of_same ((vV _ _ _ _ _ _ _ (h.drewN _) hf (by omega)).mono fun _ _ q=>⟨q.1,q.2.symm⟩)));clear e1 e2 e3 e4;go_wp2;refine zB hQ ⟨a2,m2,c2',rfl,hmc2,?_,(Ext.refl _ _).drewN nq⟩;rw[F.out,show((zj ds k:Int)+(j:Int)).toNat-zj ds k=j by omega];exact HI.out.drewN nq
structure Bx(w:World)(s:Nat)(v0 v1:Value):Prop where
 p:w.rowIs s 44 2 (fun i=> #[v0,v1].getD i undef)
 r:w.rowIs (s+1) 58 3 (fun i=> #[Value.int .i64 0,Value.int .i64 0,Value.slice none 0 0].getD i undef)
theorem Bx.born(w:World)(v0 v1:Value):Bx ((w.alloc (.cells #[v0,v1] 44)).alloc (.cells #[.int .i64 0,.int .i64 0,.slice none 0 0] 58)) w.heap.size v0 v1:=by
 have R1:=zP (w.alloc (.cells #[v0,v1] 44)) #[.int .i64 0,.int .i64 0,.slice none 0 0] 58;simp only[World.size_alloc]at R1;exact⟨(zP w #[v0,v1] 44).alloc (.cells #[.int .i64 0,.int .i64 0,.slice none 0 0] 58),R1⟩
section
variable {w w':World}{s g:Nat}{v0 v1:Value}
theorem Bx.ext(h:Bx w s v0 v1)(hx:Ext (·=g) w w')(hg:g<s):Bx w' s v0 v1:=⟨zX h.p hx (by omega),zX h.r hx (by omega)⟩
theorem Bx.extS{S:Nat→Prop}(h:Bx w s v0 v1)(hx:Ext S w w')(h0:¬S s)(h1:¬S (s+1)):Bx w' s v0 v1:=⟨zX h.p hx h0,zX h.r hx h1⟩
theorem Bx.k(h:Bx w s v0 v1)(hx:zQ w w'):Bx w' s v0 v1:=⟨rwk h.p hx,rwk h.r hx⟩
theorem Bx.x0(h:Bx w s v0 v1):w.cell? ⟨s,0,none⟩=some v0:=h.p.cell (i:=0) (by omega)
theorem Bx.x1(h:Bx w s v0 v1):w.cell? ⟨s,1,none⟩=some v1:=h.p.cell (i:=1) (by omega)
theorem Bx.u0(h:Bx w s v0 v1):w.cell? ⟨s+1,0,none⟩=some (.int .i64 0):=h.r.cell (i:=0) (by omega)
theorem Bx.u1(h:Bx w s v0 v1):w.cell? ⟨s+1,1,none⟩=some (.int .i64 0):=h.r.cell (i:=1) (by omega)
theorem Bx.u2(h:Bx w s v0 v1):w.cell? ⟨s+1,2,none⟩=some (.slice none 0 0):=h.r.cell (i:=2) (by omega)
theorem Bx.f0(h:Bx w s v0 v1):w.frozen? ⟨s+1,0,none⟩=false:=h.r.frozen 0
theorem Bx.f1(h:Bx w s v0 v1):w.frozen? ⟨s+1,1,none⟩=false:=h.r.frozen 1
theorem Bx.f2(h:Bx w s v0 v1):w.frozen? ⟨s+1,2,none⟩=false:=h.r.frozen 2
theorem Bx.lt(h:Bx w s v0 v1):s+2≤w.heap.size:=by have:=h.r.lt;omega
end
theorem xJ{B g:Nat}{p q N K op num:Int}{w wz:World}{ks:List zK}{a:Option Addr}{n c:Nat}(X:Ext (·=g) w wz)(hr:Rdx wz B g q)(hB:B≤w.heap.size)(rd:Rd wz (fun k=>w.heap.size+2≤k) (zJ ks) (.slice a n c))
  (hf:yX K op num) (hfs:yS (yX K) ks) (hq:q≤p+N):
  Q4 B g p N K w (.returned (.agg #[.int .i64 op,.int .i64 num,.slice a n c])) (((wz.setCell ⟨w.heap.size+1,0,none⟩ (.int .i64 op)).setCell ⟨w.heap.size+1,1,none⟩ (.int .i64 num)).setCell ⟨w.heap.size+1,2,none⟩ (.slice a n c)):=by
 have hg:=hr.gB;have Y:=((((Ext.refl (fun q=>q=w.heap.size+1) wz).setCell (p:=⟨w.heap.size+1,0,none⟩) (.inr rfl) (.int .i64 op)).setCell (p:=⟨w.heap.size+1,1,none⟩) (.inr rfl) (.int .i64 num)).setCell (p:=⟨w.heap.size+1,2,none⟩) (.inr rfl) (.slice a n c));refine⟨.mk op num ks,a,n,c,q,rfl,?_,⟨hf,hfs⟩,hr.ext Y (fun k hk h=>by omega),hq,X.then_ Y (fun k hk h=>by omega)⟩;exact(rd.ext Y (fun k hk h=>by omega)).mono (fun k hk=>by omega)
def Qx(B g:Nat)(p N K:Int)(M:Nat)(w:World)(e:Ending)(w':World):Prop:=∃(x:zK) (a:Option Addr) (n c:Nat) (q:Int),
 e=.returned (.agg #[.int .i64 x.op,.int .i64 x.num,.slice a n c])∧Rd w' (fun k=>w.heap.size≤k) (zJ x.kids) (.slice a n c)∧yL (yX K) x∧nE x≤M∧Rdx w' B g q∧q≤p+N∧Ext (·=g) w w'
theorem Qx.gen{B g:Nat}{p N K:Int}{M:Nat}{w w':World}{e:Ending}(h:Qx B g p N K M w e w'):Q4 B g p N K w e w':=by
 obtain⟨x,a,n,c,q,h1,h2,h3,_,h4,h5,h6⟩:=h;exact⟨x,a,n,c,q,h1,h2,h3,h4,h5,h6⟩
theorem vC{B g M:Nat}{p q N K op num:Int}{w wz:World}{ks:List zK}{a:Option Addr}{n c:Nat}(X:Ext (·=g) w wz)(hr:Rdx wz B g q)(hB:B≤w.heap.size)(rd:Rd wz (fun k=>w.heap.size+2≤k) (zJ ks) (.slice a n c))
  (hf:yX K op num) (hfs:yS (yX K) ks) (hq:q≤p+N) (hz:nEs ks+1≤M):
  Qx B g p N K M w (.returned (.agg #[.int .i64 op,.int .i64 num,.slice a n c])) (((wz.setCell ⟨w.heap.size+1,0,none⟩ (.int .i64 op)).setCell ⟨w.heap.size+1,1,none⟩ (.int .i64 num)).setCell ⟨w.heap.size+1,2,none⟩ (.slice a n c)):=by
 have hg:=hr.gB;have Y:=((((Ext.refl (fun q=>q=w.heap.size+1) wz).setCell (p:=⟨w.heap.size+1,0,none⟩) (.inr rfl) (.int .i64 op)).setCell (p:=⟨w.heap.size+1,1,none⟩) (.inr rfl) (.int .i64 num)).setCell (p:=⟨w.heap.size+1,2,none⟩) (.inr rfl) (.slice a n c));refine⟨.mk op num ks,a,n,c,q,rfl,?_,⟨hf,hfs⟩,by rw[nE];exact hz,hr.ext Y (fun k hk h=>by omega),hq,X.then_ Y (fun k hk h=>by omega)⟩;exact(rd.ext Y (fun k hk h=>by omega)).mono (fun k hk=>by omega)
def szS:Nat→Nat
 |0=>0
 |n+1=>1+3*szS n
def SmS(ds:List zG)(fs:List zA)(B g n:Nat):Prop:=∀(t p:Int) (a0:Option Addr) (n0 c0:Nat) (a1:Option Addr) (n1 c1:Nat) (w:World),
 Rk ds fs n t→T5 t→PG w g ds fs a0 n0 c0 a1 n1 c1→Rdx w B g p→B≤w.heap.size→p+pkS n≤900000000000→
 Calls Tryz.prog 242 #[.pointer (some ⟨g,0,none⟩),.agg #[.slice a0 n0 c0,.slice a1 n1 c1],.int .i64 t] w (Qx B g p (pkS n) 1000 (szS n) w)
theorem N0(n:Nat):0≤pkS n:=by induction n with
 |zero=>exact Int.le_refl _
 |succ n ih=>simp only[pkS];omega
theorem xP{P:Int→Int→Prop}{es:List zK}{x:zK}(h:yS P es)(hx:yL P x):yS P (es++ [x]):=by
 induction es with
 |nil=>exact⟨hx,trivial⟩
 |cons e es ih=>exact⟨h.1,ih h.2⟩
theorem zy{w:World}{o:Obj}{p:Addr}{v:Value}(h:w.cell? p=some v):(w.alloc o).cell? p=some v:=by
 rw[(zQ.al w o).cell (World.block_lt_of_cell? _ _ h) (fun h=>h)];exact h
theorem uN{w w':World}{base:Nat}{p:Addr}{v:Value}(h:w.cell? p=some v)(x:Ext (fun k=>base≤k) w w')(hp:p.block<base):w'.cell? p=some v:=by
 rw[x.cell (World.block_lt_of_cell? _ _ h) (by omega)];exact h
theorem kA(es:List zK)(x:zK):es.map yC++ [zK.mk x.op x.num x.kids].map yC=(es++ [x]).map yC:=by rw[List.map_append,uB]
theorem UK(ds:List zG)(fs:List zA)(B g:Nat)(hG:jZ ds fs)(n:Nat):SmS ds fs B g n:=by
 induction n with
 |zero=>intro t p a0 n0 c0 a1 n1 c1 w h;exact h.elim
 |succ n ih=>
 intro t p a0 n0 c0 a1 n1 c1 w hrk hT hpg hr hBw hp;refine zV fun Q hQ=>?_;have IH:=LH ih;have HG:=LH hG;have RK:=LH hrk;have HT:=LH hT;have HP:=LH hpg;have BW:=LH hBw;have hgB:=hr.gB;have hgw:g<w.heap.size:=by omega
 have K1:=(zQ.al w (.cells #[.slice a0 n0 c0,.slice a1 n1 c1] 44)).trans (zQ.al _ (.cells #[.int .i64 0,.int .i64 0,.slice none 0 0] 58));have B0:=LH (Bx.born w (.slice a0 n0 c0) (.slice a1 n1 c1));have hds:=hG.len4;have hfs:=hG.len;have hn0:n0≤4:=by have:=(zT hpg.d).1;omega
 have hn1:n1≤4:=by have:=(qZ hpg.f).1;omega
 have pk:pkS (n+1)=4+3*pkS n:=rfl;have pk0:=N0 n;have PK:=LH pk;have hp4:p+4+3*pkS n≤900000000000:=by omega
 have qp:=LH (hpg.k K1);have qr:=hr.keep K1;have X1:=LH (zQ.to (S:=(·=g)) K1);clear ih hG hrk hT hpg hBw K1 pk hp;go_in;go_wp2_with fail;refine(jq _ _ _ ds _ t _ (Rd.toDecls qp.out.d) HG.out.few).mono ?_;rintro e w1 ⟨ac,m,cc,rfl,hmc,oc,k1⟩;have b1:=LH (B0.out.k k1);have X2:=LH (X1.out.trans (zQ.to k1));have r1:=qr.keep k1;have x0:=b1.out.x0;have x1:=b1.out.x1;have OC:=LH oc;have HM:=LH oc.1;clear oc qr qp B0 X1 k1;rcases Nat.eq_zero_or_pos m with hm|hm
 ·subst hm
  have HC:Hid ((zv ds t).length=0):=HM.out;go_wp2_with fail;refine(Y9 ds fs t _ _ _ _ _ _ _ ((HP.out.ext X2.out).pr) hds hfs).mono ?_;rintro e w2 ⟨al,nl,cl,xs,rfl,hnl,hn4,hx,hxs,k2⟩;have b2:=LH (b1.out.k k2);have X3:=LH (X2.out.trans (zQ.to k2));have r2:=r1.keep k2;have HX:=LH hx;have HXS:=LH hxs;clear x0 x1 hx hxs k2 r1;by_cases hc:0<t∧0<nl
  case neg=>
   by_cases ht:0<t;all_goals
    first
     |(have hd:decide (0<t)=true:=decide_eq_true ht;have hl:nl=0:=Nat.eq_zero_of_not_pos (fun h=>hc ⟨ht,h⟩);subst hl)
     |(have hd:decide (0<t)=false:=decide_eq_false ht)
    clear ht hc;go_wp2_with fail;refine(JT B g p _ r2 (by omega)).mono ?_;rintro e w3 ⟨v,rfl,hv1,hv2,r3,x3⟩;have b3:=LH (b2.out.ext x3 hgw);have X4:=LH (X3.out.trans x3);clear r2;go_wp2_with fail;refine(jH v _).mono ?_;rintro e w4 ⟨ai,ci,rfl,k4⟩;have r4:=LH (r3.keep k4);have X5:=LH (X4.out.trans (zQ.to k4));have HV:Hid (yX 1000 0 v):=⟨hv1,hv2⟩;have HQ:=LH (show p+1+1+1+1≤p+pkS (n+1)by rw[PK.out];omega);have b4:=LH (b3.out.k k4);have HZ9:=LH (show nEs []+1≤szS (n+1)by simp only[szS,nEs];omega);clear r3 k4 x3;have bz:=b4.out;have u0:=bz.u0;have u1:=bz.u1;have u2:=bz.u2;have f0:=bz.f0;have f1:=bz.f1;have f2:=bz.f2;clear bz;go_wp2_with fail;refine bodyPost_ret (v:=.agg #[.int .i64 0,.int .i64 v,.slice ai 0 ci]) (by simp[results,Tryz.results242,go_sem,u0,u1,u2]) rfl (zB hQ ?_);exact vC (ks:= []) X5.out r4.out BW.out (.nil 3 _ _) HV.out trivial HQ.out HZ9.out
  obtain⟨ht,hl⟩:=hc;have hd:decide (0<t)=true:=decide_eq_true ht;have hd2:decide (0<nl)=true:=decide_eq_true hl;have HT0:=LH ht;clear ht;go_wp2_with fail;refine(jD B g p _ _ r2 (by omega) (by omega)).mono ?_;rintro e w3 ⟨v,rfl,hv,_,r3,x3⟩;obtain⟨hv0,hv1⟩:=hv (by omega);obtain⟨i,rfl⟩:=Int.eq_ofNat_of_zero_le hv0;have hi:i<nl:=by omega
  have hil:=LH (show i<xs.length by have:=HX.out.1;omega);have b3:=LH (b2.out.ext x3 hgw);have X4:=LH (X3.out.trans x3);obtain⟨bl,ol,rfl,hbl,hcl⟩:=HX.out.2 (by omega);have d0:=x3.at (hcl i hi) (by show bl≠g;have:=X2.out.size;omega);have hclo:=HXS.out (iAt xs i) (by rw[jW hil.out];exact List.getElem_mem _);generalize iAt xs i=z at d0 hclo;obtain⟨k,rfl⟩:=Int.eq_ofNat_of_zero_le hclo.1;have hpl0:=hclo.2.2.1;rw[Int.toNat_natCast]at hpl0;have hkf:k<fs.length:=by have:=hclo.2.1;omega
  have CLO:=LH hclo;have FA:=LH (qZ (HP.out.ext X4.out).f);have hk1:k<n1:=by have:=FA.out.1;omega
  obtain⟨b,o,rfl,hbg,ap,np,cp,ab,nb,cb,g0,_,_,_,_,rp,_⟩:=FA.out.2.2.2 k hk1;have HPL:=LH (zN rp);obtain⟨mm,rfl⟩:∃mm,np=mm+1:=⟨np-1,by have:=HPL.out.1;omega⟩;have hmm2:mm≤2:=by have:=(HG.out.sig hkf).1;have:=HPL.out.1;omega
  have SG:=LH (HG.out.sig hkf);have RP:=LH rp.lt;have x1:=b3.out.x1;have R3:=LH r3;have hw3:=b3.out.lt;clear hclo hcl hv0 hv1 hv r2 HX HXS hil rp hpl0 r3 x3;have A0:=LH (zq.made w3 (fun k=>w.heap.size+2≤k) 58 3);go_wp2_with fail;go_loopw [15,16] (fun ov iv wr=>∃(j:Nat) (es:List zK) (q:Int),j≤mm∧iv=.int .i64 j∧Hid (zq wr w3.heap.size (fun k=>w.heap.size+2≤k) 58 3 ov (es.map yC))∧Hid (es.length=j)∧Hid (yS (yX 1000) es)∧Hid (nEs es≤j*szS n)∧Hid (Rdx wr B g q)∧Hid (q≤p+1+(j:Int)*pkS n)∧Hid (Ext (·=g) w3 wr)) (fun _ i _=>mm-(intOf i).toNat)
  case atStart=>exact⟨0, [],p+1,Nat.zero_le _,rfl,A0,rfl,trivial,Nat.zero_le _,R3.out.keep (zQ.al _ _),by show _≤_;omega,zQ.to (zQ.al _ _)⟩
  case round=>
   obtain⟨j,es,q,hj,rfl,hA,hl,hes,hZS,hR,hq,hX⟩:=hrel;have bw:=LH (b3.out.ext hX.out hgw);have XW:=LH (X4.out.trans hX.out);by_cases hlt:j<mm
   ·have y0:=bw.out.x0
    have y1:=bw.out.x1;have hlt2:(j:Int)+1<(mm:Int)+1:=by omega
    have hlt3:(j:Int)<(mm:Int)+1:=by omega
    have hlt4:(0:Int)≤(j:Int):=by omega
    obtain⟨b2',o2',rfl,hbp,hcp⟩:=HPL.out.2.2.2 j (by omega);have d2:=hX.out.at hcp hbp;have hb2:b2'<w3.heap.size:=World.block_lt_of_cell? _ _ hcp;have PD:=LH ((HP.out.ext XW.out.drew));have RD:=LH (hR.out.keep (kD wr));have HRK:=LH (RK.out.2 HM.out HT0.out _ CLO.out j (by rw[Int.toNat_natCast];have:=HPL.out.1;omega));have HT5:=LH (SG.out.2.2 (iAt (fAt fs k).params j) (by rw[jW (by have:=HPL.out.1;omega)];exact List.getElem_mem _));have hjq:=LH (show q+pkS n≤900000000000 by have:=hq.out;have:(j:Int)*pkS n≤2*pkS n:=Int.mul_le_mul_of_nonneg_right (by omega) pk0;omega);have BD:Hid (B≤wr.drew.heap.size):=by show B≤wr.heap.size;have:=XW.out.size;have:=BW.out;omega
    have HLR:=LH (show(es.map yC).length≤3 by rw[List.length_map];have:=hl.out;omega);have bnd:=LH hA.out.bound;have hs3:=hX.out.size;clear hcp;go_wp2_with fail;go_region_held3 (fun w'=>w'.cell? ⟨w.heap.size,0,none⟩=some (.slice a0 n0 c0)∧w'.cell? ⟨w.heap.size,1,none⟩=some (.slice (some ⟨b,o,none⟩) n1 c1)∧w'.cell? ⟨b2',o2'+j,none⟩=some (.int .i64 (iAt (fAt fs k).params j)))
     (first|exact⟨y0,y1,d2⟩|exact⟨k0,k1,k2⟩|exact⟨z0,z1,z2⟩|go_keep)
     (first
      |(go_at_call 242;refine(IH.out (iAt (fAt fs k).params j) q _ _ _ _ _ _ wr.drew HRK.out HT5.out PD.out RD.out BD.out hjq.out).mono ?_;rintro e w5 ⟨x,ax,nx,cx,q5,rfl,rx,fx,sx,r5,hq5,X5⟩;have SX:=LH sx;have k0:=X5.at (w:=wr.drew) y0 (by show w.heap.size≠g;omega);have k1:=X5.at (w:=wr.drew) y1 (by show w.heap.size≠g;omega);have k2:=X5.at (w:=wr.drew) d2 hbp;have FX:=LH fx;have R5:=LH r5;have HQ5:=LH hq5;have X5':=LH X5;have hs5:wr.heap.size≤w5.heap.size:=X5.size;have A5:=LH ((hA.out.keep (kD wr)).ext X5 (fun k hk h e=>(by have h1:=h.elim id (fun h=>(Nat.le_trans hw3 h));omega)));have hXl:=LH (jv w5 (fun k=>w.heap.size+2≤k∧u15.ownBlock≠some k) 58 x.op x.num x.kids ax nx cx ⟨(by omega),(fun e=>by have:=bnd.out _ e;omega)⟩ (rx.mono (fun k hk=>⟨(by change wr.heap.size≤k at hk;omega),(fun e=>by have:=bnd.out k e;change wr.heap.size≤k at hk;omega)⟩)));have A6:=LH (A5.out.keep (zQ.al w5 (.cells #[.int .i64 x.op,.int .i64 x.num,.slice ax nx cx] 58)));clear rx fx sx r5 hq5 X5)
      |(refine kj rfl (.tmp 102) (.tmp 110) 56 rfl w3.heap.size 58 (.agg #[.int .i64 0,.int .i64 0,.slice none 0 0]) 3 40 Tryz.underlying56 (by kernel_rfl) rfl (by omega) (fun k=>w.heap.size+2≤k) _ _ rfl A6.out _ 1 1 _ _ rfl hXl.out (fun k _ hk=>hk) (by have:=HLR.out;omega) (by have:=HLR.out;omega) (by simp;omega) ?_;intro v7 w7 A7 xA sA;have z0:=uN (zy k0) xA (by show w.heap.size<w3.heap.size;omega);have z1:=uN (zy k1) xA (by show w.heap.size<w3.heap.size;omega);have z2:=uN (zy k2) xA (by show b2'<w3.heap.size;omega)))
    have XF:=LH (((hX.out.drew.trans X5'.out).alloc (.cells #[.int .i64 x.op,.int .i64 x.num,.slice ax nx cx] 58)).then_ xA (fun i hi h=>absurd h (by omega)));have A8:Hid (zq w7 w3.heap.size (fun k=>w.heap.size+2≤k) 58 3 v7 ((es++ [x]).map yC)):=by have h:=A7;rw[kA]at h;exact h
    have R8:=LH ((R5.out.keep (zQ.al w5 (.cells #[.int .i64 x.op,.int .i64 x.num,.slice ax nx cx] 58))).ext xA (fun k hk h=>by have:=BW.out;omega));clear z0 z1 z2 k0 k1 k2 A7 y0 y1 d2;go_wp2_with fail;go_roundw
    case rel=>exact⟨j+1,es++ [x],q5,by omega,by go_num,A8,by show _=_;rw[List.length_append,hl.out];rfl,xP hes.out FX.out,(by show _≤_;have h1:=hZS.out;have h2:=SX.out;rw[gS,Nat.succ_mul];simp only[nEs];omega),R8,by show _≤_;have:=hq.out;have:=HQ5.out;rw[Int.natCast_add,Int.add_mul];omega,XF⟩
    case measure=>simp[intOf];omega
   ·have HJ:=LH (show j=mm by omega)
    obtain⟨ak,ck,e,_,_,rd⟩:=hA.out.read (by omega);rw[List.length_map]at e;subst e;have RD1:Hid (Rd wr (fun k=>w.heap.size+2≤k) (zJ es) (.slice ak es.length ck)):=by
     show Rd _ _ (.arr 3 (yF es)) _;rw[yR];exact rd.mono (fun k hk=>hk.elim id (fun h=>Nat.le_trans hw3 h))
    clear rd hA;go_wp2_with fail;refine(zU _ _ _ _ _ _).mono ?_;rintro e w9 ⟨rfl,k9⟩;have b9:=LH (bw.out.k k9);have X9:=LH (XW.out.trans (zQ.to k9));have R9:=LH (hR.out.keep k9);have RD9:=LH (RD1.out.k k9);have HV:Hid (yX 1000 10 (k:Int)):=⟨by omega,by omega⟩;have HQ9:=LH (show q≤p+pkS (n+1)by rw[PK.out];have:=hq.out;have:(j:Int)*pkS n≤3*pkS n:=Int.mul_le_mul_of_nonneg_right (by omega) pk0;omega);have HZ9:=LH (show nEs es+1≤szS (n+1)by have h1:=hZS.out;have h2:j*szS n≤3*szS n:=Nat.mul_le_mul_right _ (by omega);simp only[szS];omega);clear RD1 k9;have bz:=b9.out;have u0:=bz.u0;have u1:=bz.u1;have u2:=bz.u2;have f0:=bz.f0;have f1:=bz.f1;have f2:=bz.f2;clear bz;go_wp2_with fail;refine bodyPost_ret (v:=.agg #[.int .i64 10,.int .i64 (k:Int),.slice ak es.length ck]) (by simp[results,Tryz.results242,go_sem,u0,u1,u2]) rfl (zB hQ ?_);exact vC (ks:=es) X9.out R9.out BW.out RD9.out HV.out hes.out HQ9.out HZ9.out
 ·have hm3:m≤3:=by have:=(HG.out.cons t).1;have:=HM.out;omega
  obtain⟨bc,oc,rfl,hbc,hcc⟩:=OC.out.read.2 hm;have hbg:bc≠g:=by
   simp only[World.size_alloc]at hbc;omega
  clear hbc;have CC:=LH hcc;have e0:=hcc 0 hm;simp only[Nat.add_zero]at e0;have hd0:decide (0<m)=true:=decide_eq_true hm;have R1:=LH r1;clear hcc r1;go_upto_region 4 with fail;go_cut [34] (fun s34 wx=>∃(b:Bool) (q:Int),s34=.bool b∧Hid (b=true→1<m)∧Hid (Rdx wx B g q)∧Hid (q≤p+1)∧Hid (Ext (·=g) w1 wx))
  case first=>
   by_cases h1:1<m
   ·have h2:(1:Int)<(m:Int):=by omega
    have h3:=LH h1;clear h1;go_wp2_with fail;refine(jD B g p _ _ R1.out (by omega) (by omega)).mono ?_;rintro e w2 ⟨v,rfl,hv,_,r2,x2⟩;clear hv;go_wp2_with fail;go_meet
    case rel=>exact⟨_,_,rfl,(fun _=>h3.out),r2,(by show _≤_;omega),x2⟩
   ·have h2:(m:Int)≤1:=by omega
    clear h1;go_wp2_with fail;go_meet
    case rel=>exact⟨_,_,rfl,(fun h=>by cases h),R1.out,(by show _≤_;omega),Ext.refl _ _⟩
  case rest=>
  obtain⟨b,q,rfl,hb1,hR,hq,hX⟩:=hcut;have b2:=LH (b1.out.ext hX.out hgw);clear x0 x1 e0;go_upto_if 34 with fail;go_cut [8] (fun s8 wx=>∃(c:Int),s8=.int .i64 c∧Hid (c∈zv ds t)∧wx=wc)
  case first=>
   cases b
   ·go_wp2_with fail
    go_meet
    case rel=>exact⟨_,rfl,by show _∈_;rw[jW (by have:=HM.out;omega)];exact List.getElem_mem _,rfl⟩
   ·have h1:=hb1.out rfl
    have h2:(1:Int)<(m:Int):=by omega
    have e1:=hX.out.at (CC.out 1 h1) hbg;go_wp2_with fail;go_meet
    case rel=>exact⟨_,rfl,by show _∈_;rw[jW (by have:=HM.out;omega)];exact List.getElem_mem _,rfl⟩
  case rest=>
  obtain⟨c,rfl,hc,rfl⟩:=hcut;have X3:=LH (X2.out.trans hX.out);have x0:=b2.out.x0;have hdw:=LH (Rd.toDecls (HP.out.ext X3.out).d);go_upto_if 43 with (go_at_call 148;refine(vW _ _ _ ds _ c _ hdw.out HG.out.few).mono ?_;rintro e w2 ⟨af,mf,cf,rfl,hmf,hf2,k2⟩;have hf3:=LH hf2;have K2:=LH k2;clear hf2 k2);have XW2:=LH (hX.out.trans (zQ.to K2.out));have X4:=LH (X3.out.trans (zQ.to K2.out));have b3:=LH (b2.out.k K2.out);have R2:=LH (hR.out.keep K2.out);have e0:=XW2.out.at (CC.out 0 hm) hbg;simp only[Nat.add_zero]at e0;have hmf3:mf≤3:=by have:=(HG.out.fields c).1;have:=hf3.out.1;omega
  refine(Kw _ _ _ _ _ _ _ hf3.out (by omega)).mono ?_;rintro e w3 ⟨rfl,rfl⟩;clear x0;go_upto_if 43 with fail;go_cut [8] (fun s8 wx=>∃(c':Int),s8=.int .i64 c'∧Hid (c'∈zv ds t)∧Hid (c'=iAt (zv ds t) 0∨t∉zR ds c')∧w2=wx)
  case first=>
   by_cases ht:t∈zR ds c
   ·go_wp2_with fail
    go_meet
    case rel=>exact⟨_,rfl,(by show _∈_;rw[jW (by have:=HM.out;omega)];exact List.getElem_mem _),.inl rfl,rfl⟩
   ·have HT1:=LH ht
    go_wp2_with fail;go_meet
    case rel=>exact⟨_,rfl,hc,.inr HT1.out,rfl⟩
  case rest=>
  clear hf3 hmf3 hmf hc e0 K2;obtain⟨c,rfl,hc2,hc3,rfl⟩:=hcut;have x0:=zy (o:=.cells #[] 58) b3.out.x0;have hw3:=b3.out.lt;have A0:=LH (zq.made w2 (fun k=>w.heap.size+2≤k) 58 3);have hdw:=LH (Rd.toDecls ((HP.out.ext X4.out).d.lt.k (zQ.al w2 (.cells #[] 58))));go_wp2_with fail;refine(vW _ _ _ ds _ c _ hdw.out HG.out.few).mono ?_;rintro e w3 ⟨af,mf,cf,rfl,hmf,hf2,k3⟩;have HF:=LH hf2;have hmf3:mf≤3:=by have:=(HG.out.fields c).1;have:=hf2.1;omega
  have A1:=LH (A0.out.keep k3);have R3:=LH (R2.out.keep ((zQ.al w2 (.cells #[] 58)).trans k3));have X5:=LH (zQ.to (S:=(·=g)) ((zQ.al w2 (.cells #[] 58)).trans k3));have XRow:=LH (zQ.to (S:=fun k=>w2.heap.size≤k) ((zQ.al w2 (.cells #[] 58)).trans k3));clear hf2 k3 x0;go_wp2_with fail;go_loopw [9,11] (fun ov iv wr=>∃(j:Nat) (es:List zK) (q:Int),j≤mf∧iv=.int .i64 j∧Hid (zq wr w2.heap.size (fun k=>w.heap.size+2≤k) 58 3 ov (es.map yC))∧Hid (es.length=j)∧Hid (yS (yX 1000) es)∧Hid (nEs es≤j*szS n)∧Hid (Rdx wr B g q)∧Hid (q≤p+1+(j:Int)*pkS n)∧Hid (Ext (·=g) w2 wr)) (fun _ i _=>mf-(intOf i).toNat)
  case atStart=>exact⟨0, [],q,Nat.zero_le _,rfl,A1,rfl,trivial,Nat.zero_le _,R3,by show _≤_;have:=hq.out;omega,X5⟩
  case round=>
   obtain⟨j,es,q,hj,rfl,hA,hl,hes,hZS,hR,hq,hX⟩:=hrel;have bw:=LH (b3.out.ext hX.out hgw);have XW:=LH (X4.out.trans hX.out);by_cases hlt:j<mf
   ·have y0:=bw.out.x0
    have y1:=bw.out.x1;have hlt3:(j:Int)<(mf:Int):=by omega
    have hlt4:(0:Int)≤(j:Int):=by omega
    obtain⟨b2',o2',rfl,⟨hbp,hb2⟩,hcf⟩:=HF.out.2 (by omega);have hcp:=hcf j hlt;have d2:=hX.out.at ((XRow.out.cell (p:=⟨b2',o2'+j,none⟩) hb2 (by show ¬w2.heap.size≤b2';omega)).symm.trans hcp) hbp;clear hcf;have PD:=LH ((HP.out.ext XW.out.drew));have RD:=LH (hR.out.keep (kD wr));have HRK:=LH (RK.out.1 c hc2.out hc3.out (iAt (zR ds c) j) (by rw[jW (by have:=HF.out.1;omega)];exact List.getElem_mem _));have HT5:=LH ((HG.out.fields c).2 (iAt (zR ds c) j) (by rw[jW (by have:=HF.out.1;omega)];exact List.getElem_mem _));have hjq:=LH (show q+pkS n≤900000000000 by have:=hq.out;have:(j:Int)*pkS n≤2*pkS n:=Int.mul_le_mul_of_nonneg_right (by omega) pk0;omega);have BD:Hid (B≤wr.drew.heap.size):=by show B≤wr.heap.size;have:=XW.out.size;have:=BW.out;omega
    have HLR:=LH (show(es.map yC).length≤3 by rw[List.length_map];have:=hl.out;omega);have bnd:=LH hA.out.bound;have hs3:=hX.out.size;clear hcp;go_wp2_with fail;go_region_held3 (fun w'=>w'.cell? ⟨w.heap.size,0,none⟩=some (.slice a0 n0 c0)∧w'.cell? ⟨w.heap.size,1,none⟩=some (.slice a1 n1 c1)∧w'.cell? ⟨b2',o2'+j,none⟩=some (.int .i64 (iAt (zR ds c) j)))
     (first|exact⟨y0,y1,d2⟩|exact⟨k0,k1,k2⟩|exact⟨z0,z1,z2⟩|go_keep)
     (first
      |(go_at_call 242;refine(IH.out (iAt (zR ds c) j) q _ _ _ _ _ _ wr.drew HRK.out HT5.out PD.out RD.out BD.out hjq.out).mono ?_;rintro e w5 ⟨x,ax,nx,cx,q5,rfl,rx,fx,sx,r5,hq5,X5⟩;have SX:=LH sx;have k0:=X5.at (w:=wr.drew) y0 (by show w.heap.size≠g;omega);have k1:=X5.at (w:=wr.drew) y1 (by show w.heap.size≠g;omega);have k2:=X5.at (w:=wr.drew) d2 hbp;have FX:=LH fx;have R5:=LH r5;have HQ5:=LH hq5;have X5':=LH X5;have hs5:wr.heap.size≤w5.heap.size:=X5.size;have A5:=LH ((hA.out.keep (kD wr)).ext X5 (fun k hk h e=>(by have h1:=h.elim id (fun h=>(Nat.le_trans hw3 h));omega)));have hXl:=LH (jv w5 (fun k=>w.heap.size+2≤k∧u9.ownBlock≠some k) 58 x.op x.num x.kids ax nx cx ⟨(by omega),(fun e=>by have:=bnd.out _ e;omega)⟩ (rx.mono (fun k hk=>⟨(by change wr.heap.size≤k at hk;omega),(fun e=>by have:=bnd.out k e;change wr.heap.size≤k at hk;omega)⟩)));have A6:=LH (A5.out.keep (zQ.al w5 (.cells #[.int .i64 x.op,.int .i64 x.num,.slice ax nx cx] 58)));clear rx fx sx r5 hq5 X5)
      |(refine kj rfl (.tmp 58) (.tmp 66) 56 rfl w2.heap.size 58 (.agg #[.int .i64 0,.int .i64 0,.slice none 0 0]) 3 40 Tryz.underlying56 (by kernel_rfl) rfl (by omega) (fun k=>w.heap.size+2≤k) _ _ rfl A6.out _ 1 1 _ _ rfl hXl.out (fun k _ hk=>hk) (by have:=HLR.out;omega) (by have:=HLR.out;omega) (by simp;omega) ?_;intro v7 w7 A7 xA sA;have z0:=uN (zy k0) xA (by show w.heap.size<w2.heap.size;omega);have z1:=uN (zy k1) xA (by show w.heap.size<w2.heap.size;omega);have z2:=uN (zy k2) xA (by show b2'<w2.heap.size;omega)))
    have XF:=LH (((hX.out.drew.trans X5'.out).alloc (.cells #[.int .i64 x.op,.int .i64 x.num,.slice ax nx cx] 58)).then_ xA (fun i hi h=>absurd h (by omega)));have A8:Hid (zq w7 w2.heap.size (fun k=>w.heap.size+2≤k) 58 3 v7 ((es++ [x]).map yC)):=by have h:=A7;rw[kA]at h;exact h
    have R8:=LH ((R5.out.keep (zQ.al w5 (.cells #[.int .i64 x.op,.int .i64 x.num,.slice ax nx cx] 58))).ext xA (fun k hk h=>by have:=BW.out;omega));clear z0 z1 z2 k0 k1 k2 A7 y0 y1 d2;go_wp2_with fail;go_roundw
    case rel=>exact⟨j+1,es++ [x],q5,by omega,by go_num,A8,by show _=_;rw[List.length_append,hl.out];rfl,xP hes.out FX.out,(by show _≤_;have h1:=hZS.out;have h2:=SX.out;rw[gS,Nat.succ_mul];simp only[nEs];omega),R8,by show _≤_;have:=hq.out;have:=HQ5.out;rw[Int.natCast_add,Int.add_mul];omega,XF⟩
    case measure=>simp[intOf];omega
   ·have HJ:=LH (show j=mf by omega)
    obtain⟨ak,ck,e,_,_,rd⟩:=hA.out.read (by omega);rw[List.length_map]at e;subst e;have RD1:Hid (Rd wr (fun k=>w.heap.size+2≤k) (zJ es) (.slice ak es.length ck)):=by
     show Rd _ _ (.arr 3 (yF es)) _;rw[yR];exact rd.mono (fun k hk=>hk.elim id (fun h=>Nat.le_trans hw3 h))
    clear rd hA;go_wp2_with fail;refine(zU _ _ _ _ _ _).mono ?_;rintro e w9 ⟨rfl,k9⟩;have b9:=LH (bw.out.k k9);have X9:=LH (XW.out.trans (zQ.to k9));have R9:=LH (hR.out.keep k9);have RD9:=LH (RD1.out.k k9);have HV:Hid (yX 1000 6 c):=⟨by have:=((HG.out.cons t).2 c hc2.out).1;omega,by have:=((HG.out.cons t).2 c hc2.out).2;omega⟩;have HQ9:=LH (show q≤p+pkS (n+1)by rw[PK.out];have:=hq.out;have:(j:Int)*pkS n≤3*pkS n:=Int.mul_le_mul_of_nonneg_right (by omega) pk0;omega);have HZ9:=LH (show nEs es+1≤szS (n+1)by have h1:=hZS.out;have h2:j*szS n≤3*szS n:=Nat.mul_le_mul_right _ (by omega);simp only[szS];omega);clear RD1 k9;have bz:=b9.out;have u0:=bz.u0;have u1:=bz.u1;have u2:=bz.u2;have f0:=bz.f0;have f1:=bz.f1;have f2:=bz.f2;clear bz;go_wp2_with fail;refine bodyPost_ret (v:=.agg #[.int .i64 6,.int .i64 c,.slice ak es.length ck]) (by simp[results,Tryz.results242,go_sem,u0,u1,u2]) rfl (zB hQ ?_);exact vC (ks:=es) X9.out R9.out BW.out RD9.out HV.out hes.out HQ9.out HZ9.out
theorem GB(ds:List zG)(fs:List zA)(B g:Nat)(hG:jZ ds fs)(t:Int)(p:Int)(a0:Option Addr)(n0 c0:Nat)(a1:Option Addr)(n1 c1:Nat)(w:World)(hT:T5 t)(hpg:PG w g ds fs a0 n0 c0 a1 n1 c1)(hr:Rdx w B g p)(hBw:B≤w.heap.size)(hp:p+16≤900000000000):
  Calls Tryz.prog 242 #[.pointer (some ⟨g,0,none⟩),.agg #[.slice a0 n0 c0,.slice a1 n1 c1],.int .i64 t] w (Qx B g p 16 1000 4 w):=
 UK ds fs B g hG 2 t p _ _ _ _ _ _ w (hG.rk2 hT) hT hpg hr hBw hp
theorem VN(ds:List zG)(fs:List zA)(B g:Nat)(hG:jZ ds fs)(t:Int)(vars:List Int)(av:Option Addr)(nv cv:Nat)(p:Int)(a0:Option Addr)(n0 c0:Nat)(a1:Option Addr)(n1 c1:Nat)(w:World)(hT:T5 t)(hpg:PG w g ds fs a0 n0 c0 a1 n1 c1)(hv:Rd w (fun k=>k≠g) (zY vars) (.slice av nv cv))(hnv:nv≤1000)(hr:Rdx w B g p)(hBw:B≤w.heap.size)(hp:p+18≤900000000000):
  Calls Tryz.prog 230 #[.pointer (some ⟨g,0,none⟩),.agg #[.slice a0 n0 c0,.slice a1 n1 c1],.slice av nv cv,.int .i64 t] w (Qx B g p 18 1000 4 w):=by
 refine zV fun Q hQ=>?_;have HG:=LH hG;have HP:=LH hpg;have BW:=LH hBw;have hgB:=hr.gB;have hgw:g<w.heap.size:=by omega
 have K1:=(zQ.al w (.cells #[.slice a0 n0 c0,.slice a1 n1 c1] 44)).trans (zQ.al _ (.cells #[.int .i64 0,.int .i64 0,.slice none 0 0] 58));have B0:=LH (Bx.born w (.slice a0 n0 c0) (.slice a1 n1 c1));have hds:=hG.len4;have hfs:=hG.len;have hn0:n0≤4:=by have:=(zT hpg.d).1;omega
 have hn1:n1≤4:=by have:=(qZ hpg.f).1;omega
 have qr:=LH (hr.keep K1);have X1:=LH (zQ.to (S:=(·=g)) K1);have HT:=LH hT;have qv:=LH (hv.k K1).toInts;clear hG hpg hv hr hBw hT K1;go_in;go_wp2_with fail;refine(Wy vars t _ _ _ _ _ qv.out hnv).mono ?_;rintro e w1 ⟨al,n,cl,xs,rfl,hnc,hnn,hx,hxs,k1⟩;have b1:=LH (B0.out.k k1);have X2:=LH (X1.out.trans (zQ.to k1));have r1:=LH (qr.out.keep k1);have HX:=LH hx;have HXS:=LH hxs;have hw3:=b1.out.lt;clear hx hxs k1;go_upto_region 2 with fail;go_cut [27] (fun s27 wx=>∃(b:Bool) (q:Int),s27=.bool b∧Hid (b=true→0<n)∧Hid (Rdx wx B g q)∧Hid (q≤p+1)∧Hid (Ext (·=g) w1 wx))
 case first=>
  rcases Nat.eq_zero_or_pos n with h0|h0
  ·subst h0
   go_wp2_with fail;go_meet
   case rel=>exact⟨_,_,rfl,(fun h=>by cases h),r1,(by show _≤_;omega),Ext.refl _ _⟩
  ·have h2:(0:Int)<(n:Int):=by omega
   go_wp2_with fail;refine(jD B g p _ _ r1.out (by omega) (by omega)).mono ?_;rintro e w2 ⟨v,rfl,hv,_,r2,x2⟩;obtain⟨hv0,_⟩:=hv (by omega);have R2:=LH r2;have XX:=LH x2;by_cases h3:0<v
   ·clear x2 r2 hv
    go_wp2_with fail;go_meet
    case rel=>exact⟨_,_,rfl,(fun _=>h0),R2,(by show _≤_;omega),XX⟩
   ·obtain rfl:v=0:=by omega
    have x0:=zy (o:=.cells #[] 3) (b1.out.ext x2 hgw).x0;have x1:=zy (o:=.cells #[] 3) (b1.out.ext x2 hgw).x1;have x00:=(b1.out.ext x2 hgw).x0;have x11:=(b1.out.ext x2 hgw).x1;have HPR:=LH ((HP.out.ext ((X2.out.trans x2).trans (zQ.to (zQ.al w2 (.cells #[] 3))))).pr);clear x2 r2 hv;go_wp2_with fail;refine(kW ds fs [] t _ _ _ _ _ _ _ 0 _ (fun _=>True) _ HPR.out hds hfs ⟨rfl,fun h=>absurd h (Nat.lt_irrefl 0)⟩ (by omega)).mono ?_;rintro e w3 ⟨b,rfl,k3⟩;have R3:=LH ((R2.out.keep (zQ.al _ _)).keep k3);have X3:=LH (XX.out.trans (zQ.to ((zQ.al _ _).trans k3)));clear k3 x0 x1 x00 x11;go_wp2_with fail;go_meet
    case rel=>exact⟨_,_,rfl,(fun _=>h0),R3,(by show _≤_;omega),X3⟩
 case rest=>
 obtain⟨b,q,rfl,hb1,hR,hq,hX⟩:=hcut;have b2:=LH (b1.out.ext hX.out hgw);have X3:=LH (X2.out.trans hX.out);have hq1:q≤p+1:=hq.out;cases b
 ·have x0:=b2.out.x0
  have x1:=b2.out.x1;have PD:=LH (HP.out.ext X3.out);have BD:Hid (B≤wc.heap.size):=Nat.le_trans BW.out X3.out.size;go_wp2_with fail;refine(GB ds fs B g HG.out t q _ _ _ _ _ _ _ HT.out PD.out hR.out BD.out (by omega)).mono ?_;rintro e w5 ⟨x,ax,nx,cx,q5,rfl,rx,fx,sx,r5,hq5,X5⟩;have HZ9:=LH (show nEs x.kids+1≤4 by rw[←uF];exact sx);have b5:=LH (b2.out.ext X5 hgw);have X6:=LH (X3.out.trans X5);have RX:=LH (rx.mono (D':=fun k=>w.heap.size+2≤k) (fun k hk=>Nat.le_trans b2.out.lt hk));have FX:=LH ((vT _ _).1 fx);have R5:=LH r5;have HQ5:=LH (show q5≤p+18 by omega);clear x0 x1 rx fx sx r5 hq5 X5;have bz:=b5.out;have u0:=bz.u0;have u1:=bz.u1;have u2:=bz.u2;have f0:=bz.f0;have f1:=bz.f1;have f2:=bz.f2;clear bz;go_wp2_with fail;refine bodyPost_ret (v:=.agg #[.int .i64 x.op,.int .i64 x.num,.slice ax nx cx]) (by simp[results,Tryz.results230,go_sem,u0,u1,u2]) rfl (zB hQ ?_);exact vC (ks:=x.kids) X6.out R5.out BW.out RX.out FX.out.1 FX.out.2 HQ5.out HZ9.out
 ·have hn:=hb1.out rfl
  have h2:(0:Int)<(n:Int):=by omega
  go_wp2_with fail;refine(jD B g q _ _ hR.out (by omega) (by omega)).mono ?_;rintro e w3 ⟨v,rfl,hv,_,r3,x3⟩;obtain⟨hv0,hv1⟩:=hv (by omega);obtain⟨i,rfl⟩:=Int.eq_ofNat_of_zero_le hv0;have hi:i<n:=by omega
  have hil:=LH (show i<xs.length by have:=HX.out.1;omega);obtain⟨bl,ol,rfl,hbl,hcl⟩:=HX.out.2 (by omega);have hlg:bl≠g:=by simp only[World.size_alloc]at hbl;omega
  have d0:=x3.at (hX.out.at (hcl i hi) hlg) hlg;have hz:=HXS.out (iAt xs i) (by rw[jW hil.out];exact List.getElem_mem _);generalize iAt xs i=z at d0 hz;have HZ:Hid (yX 1000 12 z):=⟨by omega,by omega⟩;have b3:=LH (b2.out.ext x3 hgw);have X4:=LH (X3.out.trans x3);have R3:=LH r3;clear hcl hv hz r3 x3 hbl;go_wp2_with fail;refine(qR z _).mono ?_;rintro e w4 ⟨ai,ci,rfl,k4⟩;have r4:=LH (R3.out.keep k4);have X5:=LH (X4.out.trans (zQ.to k4));have HQ:=LH (show q+1≤p+18 by omega);have b4:=LH (b3.out.k k4);have HZ9:=LH (show nEs []+1≤4 by simp only[nEs];omega);clear k4 d0;have bz:=b4.out;have u0:=bz.u0;have u1:=bz.u1;have u2:=bz.u2;have f0:=bz.f0;have f1:=bz.f1;have f2:=bz.f2;clear bz;go_wp2_with fail;refine bodyPost_ret (v:=.agg #[.int .i64 12,.int .i64 z,.slice ai 0 ci]) (by simp[results,Tryz.results230,go_sem,u0,u1,u2]) rfl (zB hQ ?_);exact vC (ks:= []) X5.out r4.out BW.out (.nil 3 _ _) HZ.out trivial HQ.out HZ9.out
theorem Z9(ds:List zG)(fs:List zA)(B g:Nat)(hG:jZ ds fs)(t:Int)(vars:List Int)(av:Option Addr)(nv cv:Nat)(p:Int)(a0:Option Addr)(n0 c0:Nat)(a1:Option Addr)(n1 c1:Nat)(w:World)(hT:T5 t)(hpg:PG w g ds fs a0 n0 c0 a1 n1 c1)(hv:Rd w (fun k=>k≠g) (zY vars) (.slice av nv cv))(hnv:nv≤1000)(hr:Rdx w B g p)(hBw:B≤w.heap.size)(hp:p+18≤900000000000):
  Calls Tryz.prog 230 #[.pointer (some ⟨g,0,none⟩),.agg #[.slice a0 n0 c0,.slice a1 n1 c1],.slice av nv cv,.int .i64 t] w (Q4 B g p 18 1000 w):=
 (VN ds fs B g hG t vars av nv cv p a0 n0 c0 a1 n1 c1 w hT hpg hv hnv hr hBw hp).mono fun _ _ h=>h.gen
theorem Dw{w w':World}{base:Nat}{e:TypeId}{size:Nat}{v:Value}{n:Nat}{xs:List Value}(h:w.ownsRow base e size v n xs)(k:zQ w w'):w'.ownsRow base e size v n xs:=by
 refine⟨h.1,?_⟩;rcases h.2 with h|⟨g,cap,cur,e,hb,hg,rest⟩
 ·exact .inl h
 ·exact .inr ⟨g,cap,cur,e,hb,(k.block g ((Array.getElem?_eq_some_iff.1 hg).1) (fun h=>h)).trans hg,rest⟩
theorem GY(ds:List zG)(fs:List zA)(t:Int)(a0:Option Addr)(n0 c0:Nat)(a1:Option Addr)(n1 c1:Nat)(w:World)(hp:PR w ds fs a0 n0 c0 a1 n1 c1)(hds:ds.length≤4)(hfs:fs.length≤4):
  Calls Tryz.prog 237 #[.agg #[.slice a0 n0 c0,.slice a1 n1 c1],.int .i64 t] w fun e w'=>∃a n c xs,e=.returned (.slice a n c)∧n≤c∧n≤5∧qN w' (fun k=>w.heap.size≤k) a n xs∧(∀x,x∈xs→0≤x∧x<(fs.length:Int))∧zQ w w':=by
 refine zV fun Q hQ=>?_;have K1:=zQ.al w (.cells #[.slice a0 n0 c0,.slice a1 n1 c1] 44);have R0:=zP w #[.slice a0 n0 c0,.slice a1 n1 c1] 44;have H0:=LH (gE (w.alloc (.cells #[.slice a0 n0 c0,.slice a1 n1 c1] 44)));obtain⟨e1,hf1,hf2,hat⟩:=qZ hp.2;have hn1:n1≤4:=by omega
 have HL:=LH e1;have HA:=LH hat;have HP:=LH hp;clear e1 hat hp;go_in;go_wp2_with fail;go_loopw [5,6] (fun ov iv wr=>∃(j:Nat) (xs:List Int),1≤j∧j≤5∧iv=.int .i64 j∧Hid (wr.ownsRow (w.heap.size+1) 3 1 ov xs.length (xs.map (Value.int .i64)))∧Hid (xs.length≤j)∧Hid (∀x,x∈xs→0≤x∧x<(fs.length:Int))∧zQ (w.alloc (.cells #[.slice a0 n0 c0,.slice a1 n1 c1] 44)) wr) (fun _ i _=>n1-(intOf i).toNat)
 case atStart=>exact⟨1, [],by omega,by omega,rfl,by have h:=H0.out;simp only[World.size_alloc]at h;exact h,Nat.zero_le _,(by intro x hx;cases hx),zQ.al _ _⟩
 case round=>
  obtain⟨j,xs,hj1,hj5,rfl,hown,hxl,hxs,hK⟩:=hrel;obtain⟨wo,rfl⟩:∃wo:World,wo=wr:=⟨_,rfl⟩;have x0:wo.cell? ⟨w.heap.size,0,none⟩=some (.slice a0 n0 c0):=(rwk R0 hK).cell (i:=0) (by simp);have x1:wo.cell? ⟨w.heap.size,1,none⟩=some (.slice a1 n1 c1):=(rwk R0 hK).cell (i:=1) (by simp);have hKw:=LH (K1.trans hK);have hKo:=LH hK;have hsz1:w.heap.size+1≤wo.heap.size:=by have:=hK.size;simp at this;omega
  clear hK;by_cases hlt:j<n1
  ·obtain⟨b,o,rfl,_,ap,np,cp,ab,nb,cb,d0,d1,_,_,_,r0,_⟩:=HA.out j hlt
   obtain⟨g0,g1⟩:=hKw.out.k2 d0 d1;have HPL:=LH (zN (r0.k hKw.out));have hjx:Hid (0≤(j:Int)∧(j:Int)<(fs.length:Int)):=⟨by omega,by have:=HL.out;omega⟩;have hnp63:np≤9223372036854775807:=HPL.out.2.2.1;have X0:=LH x0;have X1:=LH x1;have G0:=LH g0;clear d0 d1 r0;go_wp2_with fail;go_loopw [7,8] (fun okv kv wx=>∃(b:Bool) (k:Nat),okv=.bool b∧k≤np∧kv=.int .i64 k∧Hid (zQ wo wx)) (fun _ k _=>np-(intOf k).toNat)
   case atStart=>exact⟨_,0,rfl,Nat.zero_le _,rfl,Ext.refl _ _⟩
   case round=>
    obtain⟨bb,k,rfl,hk,rfl,hX⟩:=hrel;clear x0 x1 g0 g1;obtain⟨y0,y1,y2⟩:=hX.out.k3 X0.out X1.out G0.out;by_cases hlk:k<np
    ·cases bb
     ·go_wp2_with fail
      go_quiet (fail);go_wp2_with fail;go_roundw
      case rel=>exact⟨false,k+1,rfl,by omega,by go_num,hX.out.drewN _⟩
      case measure=>simp[intOf];omega
     ·obtain⟨b2,o2,rfl,_,hcp⟩:=HPL.out.2.2.2 k hlk
      have y3:=hX.out.q hcp;have q3:(0:Int)≤(k:Int):=by omega
      have q4:(k:Int)<(np:Int):=by omega
      have q5:(0:Int)≤(j:Int):=by omega
      have q6:(j:Int)<(n1:Int):=by omega
      have HPR:=LH (HP.out.k (hKw.out.trans (hX.out.drew.trans (zQ.al _ (.cells #[] 3)))));clear hcp;go_wp2_with fail;go_region_held3 (fun w'=>w'.cell? ⟨w.heap.size,0,none⟩=some (.slice a0 n0 c0)∧w'.cell? ⟨w.heap.size,1,none⟩=some (.slice (some ⟨b,o,none⟩) n1 c1)∧w'.cell? ⟨b,o+j*5,none⟩=some (.slice (some ⟨b2,o2,none⟩) np cp)∧w'.cell? ⟨b2,o2+k,none⟩=some (.int .i64 (iAt (fAt fs j).params k)))
       (first|exact⟨y0,y1,y2,y3⟩|exact⟨z0,z1,z2,z3⟩|go_keep)
       ((go_at_call 241;refine(kW ds fs [] (iAt (fAt fs j).params k) _ _ _ _ _ _ _ 0 _ (fun _=>True) _ HPR.out hds hfs ⟨rfl,fun h=>absurd h (Nat.lt_irrefl 0)⟩ (by omega)).mono ?_;rintro e w3 ⟨b3,rfl,k3⟩;have K3:=LH k3;have z0:=(k3.cell (World.block_lt_of_cell? _ _ (zy y0)) (fun h=>h)).trans (zy (w:=wr.drew) y0);have z1:=(k3.cell (World.block_lt_of_cell? _ _ (zy y1)) (fun h=>h)).trans (zy (w:=wr.drew) y1);have z2:=(k3.cell (World.block_lt_of_cell? _ _ (zy y2)) (fun h=>h)).trans (zy (w:=wr.drew) y2);have z3:=(k3.cell (World.block_lt_of_cell? _ _ (zy y3)) (fun h=>h)).trans (zy (w:=wr.drew) y3);clear k3))
      clear z0 z1 z2 z3 y0 y1 y2 y3;go_wp2_with fail;go_roundw
      case rel=>exact⟨b3,k+1,rfl,by omega,by go_num,(hX.out.drew.trans (zQ.al _ (.cells #[] 3))).trans K3.out⟩
      case measure=>simp[intOf];omega
    ·have hown2:=LH (Dw hown.out hX.out)
     have hK2:=LH (hKo.out.trans hX.out);have hsz2:w.heap.size+1≤wr.heap.size:=by have:=hX.out.size;omega
     cases bb
     ·go_wp2_with fail
      go_roundw
      case rel=>exact⟨j+1,xs,by omega,by omega,by go_num,hown2,Nat.le_trans hxl.out (Nat.le_succ _),hxs,hK2.out⟩
      case measure=>simp[intOf];omega
     ·go_wp2_with (at_builtin;go_must (refine yv _ rfl (.tmp 52) (.tmp 54) rfl (w.heap.size+1) u5 xs.length xs rfl (hown2.out.alloc _) wr.heap.size 1 (j:Int) rfl (JL wr _ _) (by have:=hxl.out;omega) (by simp;omega) ?_);intro v' w' ho hg)
      go_roundw
      case rel=>exact⟨j+1,xs++ [(j:Int)],by omega,by omega,by go_num,by show World.ownsRow _ _ _ _ _ _ _;rw[List.length_append];exact ho,by show _≤_;rw[List.length_append];exact Nat.succ_le_succ hxl.out,G4 hxs.out hjx.out,(hK2.out.alloc _).grown hg (fun q hq=>.inl (by have:=(hown2.out.lt q hq).1;simp at this ⊢;omega))⟩
      case measure=>simp[intOf];omega
  ·go_wp2
   obtain⟨a2,cc,rfl,hle,hoi⟩:=jV hown.out;have hx4:=LH (Nat.le_trans hxl.out hj5);exact zB hQ ⟨a2,_,cc,xs,rfl,hle,hx4.out,hoi.read.mono (fun k hk=>by omega),hxs.out,hKw.out⟩
end Go.Proofs.YtkapldpmjkdmcaaGreat
