/- The generator of programs: budgets; genAll. -/
import Derived.Test.YtkapldpmjkdmcaaGreatUAH
import Derived.Test.YtkapldpmjkdmcaaGreatUAE
namespace Go.Proofs.YtkapldpmjkdmcaaGreat
open Go.RowKit
set_option maxRecDepth 100000
set_option maxHeartbeats 4000000
def pkG(b:Nat):Int:=((100*2 ^ b:Nat):Int)
theorem gv(b:Nat):100≤pkG b:=by
 unfold pkG;have:1≤2 ^ b:=Nat.one_le_two_pow;omega
theorem QY{a b:Nat}(h:a≤b):pkG a≤pkG b:=by
 unfold pkG;have:2 ^ a≤2 ^ b:=Nat.pow_le_pow_right (by omega) h;omega
theorem Zv(b:Nat):pkG (b+1)=2*pkG b:=by unfold pkG;rw[Nat.pow_succ];omega
theorem DW{b:Nat}(h:3≤b):800≤pkG b:=by
 have:=QY h;have e:pkG 3=800:=rfl;omega
theorem XK{b m n:Nat}(h:3≤b)(hm:m+1≤b)(hn:n≤3):4*((n:Int)*pkG (m / n))≤3*pkG b:=by
 obtain⟨c,rfl⟩:∃c,b=c+2:=⟨b-2,by omega⟩;have h2:pkG (c+2)=4*pkG c:=by rw[Zv,Zv];omega
 have h1:pkG (c+1)=2*pkG c:=Zv c;have hp:=gv c;rcases(show n=0∨n=1∨n=2∨n=3 by omega)with rfl|rfl|rfl|rfl
 ·simp only[Int.natCast_zero,Int.zero_mul];omega
 ·have:=QY (show m / 1≤c+1 by omega)
  omega
 ·have:=QY (show m / 2≤c by omega)
  omega
 ·have:=QY (show m / 3≤c by omega)
  omega
def J7(ds:List zG)(fs:List zA)(B g b:Nat):Prop:=∀(t:Int) (vars:List Int) (av:Option Addr) (nv cv:Nat) (p:Int) (a0:Option Addr) (n0 c0:Nat) (a1:Option Addr) (n1 c1:Nat) (w:World),T5 t→PG w g ds fs a0 n0 c0 a1 n1 c1→Rd w (fun k=>k≠g) (zY vars) (.slice av nv cv)→nv+3*b≤900→Rdx w B g p→B≤w.heap.size→p+pkG b≤900000000000→
 Calls Tryz.prog 228 #[.pointer (some ⟨g,0,none⟩),.agg #[.slice a0 n0 c0,.slice a1 n1 c1],.slice av nv cv,.int .i64 t,.int .i64 (b:Int)] w (Q4 B g p (pkG b) 1000 w)
structure Px(w:World)(s:Nat)(v0 v1:Value):Prop where
 p:w.rowIs s 44 2 (fun i=> #[v0,v1].getD i undef)
theorem Px.born(w:World)(v0 v1:Value):Px (w.alloc (.cells #[v0,v1] 44)) w.heap.size v0 v1:=⟨zP w #[v0,v1] 44⟩
section
variable {w w':World}{s g:Nat}{v0 v1:Value}
theorem Px.ext(h:Px w s v0 v1)(hx:Ext (·=g) w w')(hg:g<s):Px w' s v0 v1:=⟨zX h.p hx (by omega)⟩
theorem Px.k(h:Px w s v0 v1)(hx:zQ w w'):Px w' s v0 v1:=⟨rwk h.p hx⟩
theorem Px.x0(h:Px w s v0 v1):w.cell? ⟨s,0,none⟩=some v0:=h.p.cell (i:=0) (by omega)
theorem Px.x1(h:Px w s v0 v1):w.cell? ⟨s,1,none⟩=some v1:=h.p.cell (i:=1) (by omega)
theorem Px.lt(h:Px w s v0 v1):s+1≤w.heap.size:=by have:=h.p.lt;omega
end
theorem BE(ds:List zG)(fs:List zA)(B g b:Nat)(hG:jZ ds fs)(types:List Int)(HI:J7 ds fs B g (b / types.length))(hb:b≤900)(vars:List Int)(av:Option Addr)(nv cv:Nat)(ta:Option Addr)(nt ct:Nat)(p:Int)(a0:Option Addr)(n0 c0:Nat)(a1:Option Addr)(n1 c1:Nat)(w:World)(hT:∀t,t∈types→T5 t)(hpg:PG w g ds fs a0 n0 c0 a1 n1 c1)(hv:Rd w (fun k=>k≠g) (zY vars) (.slice av nv cv))(hnv:nv+3*(b / types.length)≤900)
  (ht:Rd w (fun k=>k≠g) (zY types) (.slice ta nt ct)) (hnt:nt≤3) (hr:Rdx w B g p) (hBw:B≤w.heap.size) (hp:p+(types.length:Int)*pkG (b / types.length)≤900000000000):
  Calls Tryz.prog 235 #[.pointer (some ⟨g,0,none⟩),.agg #[.slice a0 n0 c0,.slice a1 n1 c1],.slice av nv cv,.slice ta nt ct,.int .i64 (b:Int)] w fun e w'=>∃(es:List zK) (a:Option Addr) (n c:Nat) (q:Int),e=.returned (.slice a n c)∧Rd w' (fun k=>w.heap.size≤k) (zJ es) (.slice a n c)∧es.length=types.length∧yS (yX 1000) es∧Rdx w' B g q∧q≤p+(types.length:Int)*pkG (b / types.length)∧Ext (·=g) w w':=by
 refine zV fun Q hQ=>?_;have HG:=LH hG;have HP:=LH hpg;have BW:=LH hBw;have hgB:=hr.gB;have hgw:g<w.heap.size:=by omega
 have K1:=zQ.al w (.cells #[.slice a0 n0 c0,.slice a1 n1 c1] 44);have B0:=LH (Px.born w (.slice a0 n0 c0) (.slice a1 n1 c1));have qr:=LH (hr.keep K1);have X1:=LH (zQ.to (S:=(·=g)) K1);have HTL:=LH (zN ht).1;have HT:=LH hT;have HV:=LH hv;have HTY:=LH ht;have hnn:types.length=nt:=HTL.out;have HPE:Hid (∃c:Nat,c=b / nt):=⟨_,rfl⟩;obtain⟨c,hc⟩:=HPE.out;have HC:=LH hc;have HCT:=LH (show b / types.length=c by rw[hnn,hc]);rw[HCT.out,hnn]at hp;rw[HCT.out]at hnv;have IH2:=LH (show J7 ds fs B g c by rw[←HCT.out];exact HI);have hpk:=gv c;have HP2:=LH hp;clear hG hpg hv hr hBw hT K1 HI ht hnn hp hc HPE;have A0:=LH (zq.made (w.alloc (.cells #[.slice a0 n0 c0,.slice a1 n1 c1] 44)) (fun k=>w.heap.size+1≤k) 58 3);go_in;go_wp2_with fail;go_loopw [11,12] (fun ov iv wr=>∃(j:Nat) (es:List zK) (q:Int),j≤nt∧iv=.int .i64 j∧Hid (zq wr (w.heap.size+1) (fun k=>w.heap.size+1≤k) 58 3 ov (es.map yC))∧Hid (es.length=j)∧Hid (yS (yX 1000) es)∧Hid (Rdx wr B g q)∧Hid (q≤p+(j:Int)*pkG c)∧Hid (Ext (·=g) (w.alloc (.cells #[.slice a0 n0 c0,.slice a1 n1 c1] 44)) wr)) (fun _ i _=>nt-(intOf i).toNat)
 case atStart=>exact⟨0, [],p,Nat.zero_le _,rfl,by have h:=A0.out;simp only[World.size_alloc]at h;exact h,rfl,trivial,qr.out.keep (zQ.al _ _),by show _≤_;omega,zQ.to (zQ.al _ _)⟩
 case round=>
  obtain⟨j,es,q,hj,rfl,hA,hl,hes,hR,hq,hX⟩:=hrel;have bw:=LH (B0.out.ext hX.out hgw);have XW:=LH (X1.out.trans hX.out);have hw3:=bw.out.lt;by_cases hlt:j<nt
  ·have y0:=bw.out.x0
   have y1:=bw.out.x1;have hlt3:(j:Int)<(nt:Int):=by omega
   have hlt4:(0:Int)≤(j:Int):=by omega
   have hdz:¬nt=0:=by omega
   have hdv:IntKind.i64.wrap (Int.tdiv (b:Int) (nt:Int))=(c:Int):=by rw[IntWalk.i64_quo _ _ (by omega),HC.out,Int.natCast_ediv]
   have hdv3:IntKind.i64.wrap (c:Int)=(c:Int):=IntWalk.i64_in _ (by have:=HC.out;have:=Nat.div_le_self b nt;omega);have hdv2:(b:Int) / (nt:Int)=(c:Int):=by rw[HC.out,Int.natCast_ediv]
   obtain⟨b2',o2',rfl,⟨hbp,hb2⟩,hcp⟩:=(zN HTY.out.lt).2.2.2 j hlt;have d2:=XW.out.at hcp hbp;have HT5:=LH (HT.out (iAt types j) (by rw[jW (by have:=HTL.out;omega)];exact List.getElem_mem _));have PD:=LH ((HP.out.ext XW.out.drew));have VD:=LH (HV.out.g XW.out.drew);have RD:=LH (hR.out.keep (kD wr));have hjq:=LH (show q+pkG c≤900000000000 by have h1:=hq.out;have h2:=HP2.out;have h3:((j:Int)+1)*pkG c≤(nt:Int)*pkG c:=Int.mul_le_mul_of_nonneg_right (by omega) (by omega);rw[Int.add_mul]at h3;omega);have BD:Hid (B≤wr.drew.heap.size):=by show B≤wr.heap.size;have:=XW.out.size;have:=BW.out;omega
   have HLR:=LH (show(es.map yC).length≤3 by rw[List.length_map];have:=hl.out;omega);have bnd:=LH hA.out.bound;clear hcp;go_wp2_with fail;go_region_held3 (fun w'=>w'.cell? ⟨w.heap.size,0,none⟩=some (.slice a0 n0 c0)∧w'.cell? ⟨w.heap.size,1,none⟩=some (.slice a1 n1 c1)∧w'.cell? ⟨b2',o2'+j,none⟩=some (.int .i64 (iAt types j)))
    (first|exact⟨y0,y1,d2⟩|exact⟨k0,k1,k2⟩|exact⟨z0,z1,z2⟩|go_keep)
    (first
     |(go_at_call 228;refine(IH2.out (iAt types j) vars _ _ _ q _ _ _ _ _ _ wr.drew HT5.out PD.out VD.out hnv RD.out BD.out hjq.out).mono ?_;rintro e w5 ⟨x,ax,nx,cx,q5,rfl,rx,fx,r5,hq5,X5⟩;have k0:=X5.at (w:=wr.drew) y0 (by show w.heap.size≠g;omega);have k1:=X5.at (w:=wr.drew) y1 (by show w.heap.size≠g;omega);have k2:=X5.at (w:=wr.drew) d2 hbp;have FX:=LH fx;have R5:=LH r5;have HQ5:=LH hq5;have X5':=LH X5;have hs5:wr.heap.size≤w5.heap.size:=X5.size;have A5:=LH ((hA.out.keep (kD wr)).ext X5 (fun k hk h e=>(by have h1:=h.elim id id;omega)));have hXl:=LH (jv w5 (fun k=>w.heap.size+1≤k∧u11.ownBlock≠some k) 58 x.op x.num x.kids ax nx cx ⟨(by omega),(fun e=>by have:=bnd.out _ e;omega)⟩ (rx.mono (fun k hk=>⟨(by change wr.heap.size≤k at hk;omega),(fun e=>by have:=bnd.out k e;change wr.heap.size≤k at hk;omega)⟩)));have A6:=LH (A5.out.keep (zQ.al w5 (.cells #[.int .i64 x.op,.int .i64 x.num,.slice ax nx cx] 58)));clear rx fx r5 hq5 X5)
     |(refine kj rfl (.tmp 20) (.tmp 33) 56 rfl (w.heap.size+1) 58 (.agg #[.int .i64 0,.int .i64 0,.slice none 0 0]) 3 40 Tryz.underlying56 (by kernel_rfl) rfl (by omega) (fun k=>w.heap.size+1≤k) _ _ rfl A6.out _ 1 1 _ _ rfl hXl.out (fun k _ hk=>hk) (by have:=HLR.out;omega) (by have:=HLR.out;omega) (by simp;omega) ?_;intro v7 w7 A7 xA sA;have z0:=uN (zy k0) xA (by show w.heap.size<w.heap.size+1;omega);have z1:=uN (zy k1) xA (by show w.heap.size<w.heap.size+1;omega);have z2:=uN (zy k2) xA (by show b2'<w.heap.size+1;omega)))
   have XF:=LH (((hX.out.drew.trans X5'.out).alloc (.cells #[.int .i64 x.op,.int .i64 x.num,.slice ax nx cx] 58)).then_ xA (fun i hi h=>absurd h (by simp at hi ⊢;omega)));have A8:Hid (zq w7 (w.heap.size+1) (fun k=>w.heap.size+1≤k) 58 3 v7 ((es++ [x]).map yC)):=by have h:=A7;rw[kA]at h;exact h
   have R8:=LH ((R5.out.keep (zQ.al w5 (.cells #[.int .i64 x.op,.int .i64 x.num,.slice ax nx cx] 58))).ext xA (fun k hk h=>by have:=BW.out;omega));clear z0 z1 z2 k0 k1 k2 A7 y0 y1 d2;go_wp2_with fail;go_roundw
   case rel=>exact⟨j+1,es++ [x],q5,by omega,by go_num,A8,by show _=_;rw[List.length_append,hl.out];rfl,xP hes.out FX.out,R8,by show _≤_;have:=hq.out;have:=HQ5.out;rw[Int.natCast_add,Int.add_mul];omega,XF⟩
   case measure=>simp[intOf];omega
  ·have HJ:=LH (show j=nt by omega)
   obtain⟨ak,ck,e,_,_,rd⟩:=hA.out.read (by omega);rw[List.length_map]at e;subst e;have RD1:Hid (Rd wr (fun k=>w.heap.size≤k) (zJ es) (.slice ak es.length ck)):=by
    show Rd _ _ (.arr 3 (yF es)) _;rw[yR];exact rd.mono (fun k hk=>by have:=hk.elim id id;omega)
   clear rd hA;go_wp2_with fail;refine zB hQ ⟨es,ak,_,ck,q,rfl,RD1.out,?_,hes.out,hR.out,?_,XW.out⟩
   ·have:=hl.out;have:=HJ.out;have:=HTL.out;omega
   ·have h1:=hq.out;rw[HJ.out]at h1;rw[HCT.out,HTL.out];exact h1
theorem QS(w:World)(D:Nat→Prop)(T:TypeId)(op num:Int)(ks:List zK)(a:Option Addr)(n c:Nat)(h:Rd w D (zJ ks) (.slice a n c)):
  zq (w.alloc (.cells #[.int .i64 op,.int .i64 num,.slice a n c] T)) w.heap.size D T 3 (.slice (some ⟨w.heap.size,0,none⟩) 1 1) ([zK.mk op num ks].map yC):=by
 refine zq.lit w D T 3 _ ([zK.mk op num ks].map yC) 1 (by simp) (by omega) (by simp) (fun i hi=>by
  have e:i=0:=by simp at hi;exact hi
  subst e
  simp[qC,yC]) (fun i j hi hj=>?_)
 obtain rfl:i=0:=by simpa using hi
 rcases(show j=0∨j=1∨j=2 by omega)with rfl|rfl|rfl
 ·exact⟨_,rfl,.num op⟩
 ·exact⟨_,rfl,.num num⟩
 ·exact⟨_,rfl,h⟩
theorem GQ(ds:List zG)(fs:List zA)(B g b2:Nat)(hG:jZ ds fs)(hb:1≤b2)(HI:∀b',b'<b2+2→J7 ds fs B g b')(t:Int)(vars:List Int)(av:Option Addr)(nv cv:Nat)(p:Int)(a0:Option Addr)(n0 c0:Nat)(a1:Option Addr)(n1 c1:Nat)(bi:Int)(hbi:bi=((b2+2:Nat):Int))(w:World)(hT:T5 t)(hpg:PG w g ds fs a0 n0 c0 a1 n1 c1)(hv:Rd w (fun k=>k≠g) (zY vars) (.slice av nv cv))(hnv:nv+3*(b2+2)≤900)
  (hr:Rdx w B g p) (hBw:B≤w.heap.size) (hp:p+pkG (b2+2)≤900000000001):
  Calls Tryz.prog 236 #[.pointer (some ⟨g,0,none⟩),.agg #[.slice a0 n0 c0,.slice a1 n1 c1],.slice av nv cv,.int .i64 t,.int .i64 bi] w (Q4 B g p (pkG (b2+2)-1) 1000 w):=by
 subst hbi;refine zV fun Q hQ=>?_;have HG:=LH hG;have HP:=LH hpg;have BW:=LH hBw;have hgB:=hr.gB;have hgw:g<w.heap.size:=by omega
 have K1:=(zQ.al w (.cells #[.slice a0 n0 c0,.slice a1 n1 c1] 44)).trans (zQ.al _ (.cells #[.int .i64 0,.int .i64 0,.slice none 0 0] 58));have B0:=LH (Bx.born w (.slice a0 n0 c0) (.slice a1 n1 c1));have hds:=hG.len4;have hfs:=hG.len;have hn0:n0≤4:=by have:=(zT hpg.d).1;omega
 have hn1:n1≤4:=by have:=(qZ hpg.f).1;omega
 have qr:=LH (hr.keep K1);have X1:=LH (zQ.to (S:=(·=g)) K1);have HT:=LH hT;have HV:=LH hv;have IH:=LH HI;have hpk3:=DW (show 3≤b2+2 by omega);have HPP:=LH hp;clear hG hpg hv hr hBw hT HI hp;have hpp:p+100≤900000000000:=by have:=HPP.out;omega
 go_in;go_wp2_with fail;refine(Nz B g p [1,1,3,4] 4 4 _ _ _ _ (by simp) qr.out (by omega) rfl rfl (by omega) (by omega)).mono ?_;rintro e w1 ⟨d,hm,rfl,r1,x1⟩;have HD:Hid (T5 d):=by
  show 0≤d∧d≤4;simp only[List.mem_cons,List.not_mem_nil,or_false]at hm;omega
 have b1:=LH (B0.out.ext x1 hgw);have X2:=LH (X1.out.trans x1);have R1:=LH r1;have y0:=b1.out.x0;have qd:=LH (Rd.toDecls (HP.out.ext X2.out).d);clear hm r1 x1 K1;go_upto_region 2 with fail;go_cut [28] (fun s28 wx=>∃(b:Bool),s28=.bool b∧w1=wx)
 case first=>
  by_cases h1:(n0:Int)<d
  ·go_wp2_with fail
   go_meet
   case rel=>exact⟨_,rfl,rfl⟩
  ·go_wp2_with fail
   refine(jx _ _ _ ds _ _ _ qd.out (by omega)).mono ?_;rintro e w2 ⟨rfl,rfl⟩;go_wp2_with fail;go_meet
   case rel=>exact⟨_,rfl,rfl⟩
 case rest=>
 obtain⟨b,rfl,rfl⟩:=hcut;go_upto_if 28 with fail;go_cut [11] (fun s11 wx=>∃(d':Int),s11=.int .i64 d'∧Hid (T5 d')∧w1=wx)
 case first=>
  cases b
  ·go_wp2_with fail
   go_meet
   case rel=>exact⟨_,rfl,HD,rfl⟩
  ·go_wp2_with fail
   go_meet
   case rel=>exact⟨_,rfl,⟨by omega,by omega⟩,rfl⟩
 case rest=>
 clear HD;obtain⟨d,rfl,HD,rfl⟩:=hcut;go_wp2_with fail;refine(jq _ _ _ ds _ d _ qd.out HG.out.few).mono ?_;rintro e w2 ⟨ac,m,cc,rfl,hmc,oc,k2⟩;have b2x:=LH (b1.out.k k2);have X3:=LH (X2.out.trans (zQ.to k2));have R2:=LH (R1.out.keep k2);have OC:=LH oc.read;have HM:=LH oc.1;have hm3:m≤3:=by have:=(HG.out.cons d).1;have:=oc.1;omega
 clear y0 oc k2;have y0:=b2x.out.x0;have y1:=b2x.out.x1;have PD2:=LH (HP.out.ext X3.out);have VD2:=LH (HV.out.g X3.out);have BD2:Hid (B≤w2.heap.size):=Nat.le_trans BW.out X3.out.size;go_wp2_with fail;refine(Z9 ds fs B g HG.out d vars _ _ _ _ _ _ _ _ _ _ _ HD.out PD2.out VD2.out (by omega) R2.out BD2.out (by omega)).mono ?_;rintro e w3 ⟨x,ax,nx,cx,q3,rfl,rx,fx,r3,hq3,x3⟩;have b3:=LH (b2x.out.ext x3 hgw);have X4:=LH (X3.out.trans x3);have X34:=LH x3;have R3:=LH r3;have hw3:=b3.out.lt;have hs23:=x3.size;have A0:=LH (QS w3 (fun k=>w.heap.size+2≤k) 58 x.op x.num x.kids ax nx cx (rx.mono (fun k hk=>Nat.le_trans b2x.out.lt hk)));have FX0:=LH fx;have HQ3:=LH (show q3≤p+19 by omega);have HPE:Hid (∃c:Nat,c=b2 / m):=⟨_,rfl⟩;obtain⟨c,hc⟩:=HPE.out;have HC:=LH hc;have hcb:c≤b2:=by rw[hc];exact Nat.div_le_self _ _
 have IH2:=LH (IH.out c (by omega));have hpart:=LH (show 4*((m:Int)*pkG c)≤3*pkG (b2+2)by rw[hc];exact XK (by omega) (by omega) hm3);have hpc:=gv c;clear rx fx r3 hq3 x3 y0 y1 HPE hc;go_wp2_with fail;go_loopw [13,14] (fun ov iv wr=>∃(j:Nat) (es:List zK) (q:Int),j≤m∧iv=.int .i64 j∧Hid (zq wr w3.heap.size (fun k=>w.heap.size+2≤k) 58 3 ov (es.map yC))∧Hid (es.length=j+1)∧Hid (yS (yX 1000) es)∧Hid (Rdx wr B g q)∧Hid (q≤p+19+(j:Int)*pkG c)∧Hid (Ext (·=g) w3 wr)) (fun _ i _=>m-(intOf i).toNat)
 case atStart=>exact⟨0, [.mk x.op x.num x.kids],q3,Nat.zero_le _,rfl,A0,rfl,⟨by rw[uB];exact FX0.out,trivial⟩,R3.out.keep (zQ.al _ _),by show _≤_;have:=HQ3.out;omega,zQ.to (zQ.al _ _)⟩
 case round=>
  clear A0 FX0;obtain⟨j,es,q,hj,rfl,hA,hl,hes,hR,hq,hX⟩:=hrel;have bw:=LH (b3.out.ext hX.out hgw);have XW:=LH (X4.out.trans hX.out);by_cases hlt:j<m
  ·have y0:=bw.out.x0
   have y1:=bw.out.x1;have hlt3:(j:Int)<(m:Int):=by omega
   have hlt4:(0:Int)≤(j:Int):=by omega
   have hdz:¬m=0:=by omega
   have hdw:IntKind.i64.wrap (b2:Int)=(b2:Int):=IntWalk.i64_in _ (by omega);have hdv:IntKind.i64.wrap (Int.tdiv (b2:Int) (m:Int))=(c:Int):=by rw[IntWalk.i64_quo _ _ (by omega),HC.out,Int.natCast_ediv]
   have hdv3:IntKind.i64.wrap (c:Int)=(c:Int):=IntWalk.i64_in _ (by omega);have hdv2:(b2:Int) / (m:Int)=(c:Int):=by rw[HC.out,Int.natCast_ediv]
   obtain⟨bc,oc,rfl,hbc,hcp⟩:=OC.out.2 (by omega);have hbg:bc≠g:=by have:=X2.out.size;omega
   have hcj:=hcp j hlt;have hb2:bc<w3.heap.size:=by have h:bc<w2.heap.size:=World.block_lt_of_cell? _ _ hcj;omega
   have d2:=hX.out.at (X34.out.at hcj hbg) hbg;have PD:=LH ((HP.out.ext XW.out.drew));have hdw2:=LH (Rd.toDecls PD.out.d);have VD:=LH (HV.out.g XW.out.drew);have RD:=LH (hR.out.keep (kD wr));have HF3:=LH (HG.out.fields (iAt (zv ds d) j));have hjq:=LH (show q+pkG c≤900000000000 by have h1:=hq.out;have h2:=HPP.out;have h3:((j:Int)+1)*pkG c≤(m:Int)*pkG c:=Int.mul_le_mul_of_nonneg_right (by omega) (by omega);rw[Int.add_mul]at h3;have:=hpart.out;omega);have BD:Hid (B≤wr.drew.heap.size):=by show B≤wr.heap.size;have:=XW.out.size;have:=BW.out;omega
   have HLR:=LH (show(es.map yC).length≤4 by rw[List.length_map];have:=hl.out;omega);have bnd:=LH hA.out.bound;have hs3:=hX.out.size;clear hcp hcj;go_wp2_with fail;go_region_held3 (fun w'=>w'.cell? ⟨w.heap.size,0,none⟩=some (.slice a0 n0 c0)∧w'.cell? ⟨w.heap.size,1,none⟩=some (.slice a1 n1 c1)∧w'.cell? ⟨bc,oc+j,none⟩=some (.int .i64 (iAt (zv ds d) j)))
    (first|exact⟨y0,y1,d2⟩|exact⟨ka0,ka1,ka2⟩|exact⟨kb0,kb1,kb2⟩|exact⟨k0,k1,k2⟩|exact⟨z0,z1,z2⟩|go_keep)
    (first
     |(go_at_call 148;refine(vW _ _ _ ds _ (iAt (zv ds d) j) wr.drew hdw2.out HG.out.few).mono ?_;rintro e wa ⟨af,mf,cf,rfl,hmf,hfa,ka⟩;have ka0:=(zQ.to (S:=(·=g)) ka).at (w:=wr.drew) y0 (by show w.heap.size≠g;omega);have ka1:=(zQ.to (S:=(·=g)) ka).at (w:=wr.drew) y1 (by show w.heap.size≠g;omega);have ka2:=(zQ.to (S:=(·=g)) ka).at (w:=wr.drew) d2 hbg;have HFA:=LH hfa;have KA:=LH ka;have VA:=LH ((VD.out.k ka).toInts);have hmf3:mf≤3:=(by have:=HF3.out.1;have:=hfa.1;omega);clear hfa ka)
     |(go_at_call 149;refine(yw av nv cv vars _ af mf cf (zR ds (iAt (zv ds d) j)) _ wa VA.out (by omega) HFA.out (by omega)).mono ?_;rintro e wb ⟨ae,ne,ce,rfl,hne,hea,kb⟩;have kb0:=(zQ.to (S:=(·=g)) kb).at ka0 (by show w.heap.size≠g;omega);have kb1:=(zQ.to (S:=(·=g)) kb).at ka1 (by show w.heap.size≠g;omega);have kb2:=(zQ.to (S:=(·=g)) kb).at ka2 hbg;obtain rfl:ne=nv+mf:=(by have h1:=hea.1;have h2:=VA.out.1;have h3:=HFA.out.1;rw[List.length_append]at h1;omega);have KB:=LH (KA.out.trans kb);have VB:=LH ((hea.read.toRd hne (by omega)).mono (D':=fun k=>k≠g) (fun k hk=>by have h1:wr.heap.size≤wa.heap.size:=KA.out.size;have h2:=XW.out.size;change wa.heap.size≤k at hk;omega));clear hea kb)
     |(go_at_call 228;refine(IH2.out t (vars++zR ds (iAt (zv ds d) j)) ae (nv+mf) ce q _ _ _ _ _ _ wb HT.out (PD.out.k KB.out) VB.out (by omega) (RD.out.keep KB.out) (Nat.le_trans BD.out KB.out.size) hjq.out).mono ?_;rintro e w5 ⟨x,ax,nx,cx,q5,rfl,rx,fx,r5,hq5,X5⟩;have k0:=X5.at kb0 (by show w.heap.size≠g;omega);have k1:=X5.at kb1 (by show w.heap.size≠g;omega);have k2:=X5.at kb2 hbg;have FX:=LH fx;have R5:=LH r5;have HQ5:=LH hq5;have X5':=LH ((zQ.to (S:=(·=g)) KB.out).trans X5);have hsb:wr.heap.size≤wb.heap.size:=KB.out.size;have hs5:wb.heap.size≤w5.heap.size:=X5.size;have A5:=LH (((hA.out.keep (kD wr)).keep KB.out).ext X5 (fun k hk h e=>(by have h1:=h.elim id (fun h=>(Nat.le_trans hw3 h));omega)));have hXl:=LH (jv w5 (fun k=>w.heap.size+2≤k∧u13.ownBlock≠some k) 58 x.op x.num x.kids ax nx cx ⟨(by omega),(fun e=>by have:=bnd.out _ e;omega)⟩ (rx.mono (fun k hk=>⟨(by change wb.heap.size≤k at hk;omega),(fun e=>by have:=bnd.out k e;change wb.heap.size≤k at hk;omega)⟩)));have A6:=LH (A5.out.keep (zQ.al w5 (.cells #[.int .i64 x.op,.int .i64 x.num,.slice ax nx cx] 58)));clear rx fx r5 hq5 X5)
     |(refine kj rfl (.tmp 45) (.tmp 64) 56 rfl w3.heap.size 58 (.agg #[.int .i64 0,.int .i64 0,.slice none 0 0]) 3 40 Tryz.underlying56 (by kernel_rfl) rfl (by omega) (fun k=>w.heap.size+2≤k) _ _ rfl A6.out _ 1 1 _ _ rfl hXl.out (fun k _ hk=>hk) (by have:=HLR.out;omega) (by have:=HLR.out;omega) (by simp;omega) ?_;intro v7 w7 A7 xA sA;have z0:=uN (zy k0) xA (by show w.heap.size<w3.heap.size;omega);have z1:=uN (zy k1) xA (by show w.heap.size<w3.heap.size;omega);have z2:=uN (zy k2) xA (by show bc<w3.heap.size;omega))
     |fail)
   have XF:=LH (((hX.out.drew.trans X5'.out).alloc (.cells #[.int .i64 x.op,.int .i64 x.num,.slice ax nx cx] 58)).then_ xA (fun i hi h=>absurd h (by omega)));have A8:Hid (zq w7 w3.heap.size (fun k=>w.heap.size+2≤k) 58 3 v7 ((es++ [x]).map yC)):=by have h:=A7;rw[kA]at h;exact h
   have R8:=LH ((R5.out.keep (zQ.al w5 (.cells #[.int .i64 x.op,.int .i64 x.num,.slice ax nx cx] 58))).ext xA (fun k hk h=>by have:=BW.out;omega));clear z0 z1 z2 k0 k1 k2 ka0 ka1 ka2 kb0 kb1 kb2 A7 y0 y1 d2;go_wp2_with fail;go_roundw
   case rel=>exact⟨j+1,es++ [x],q5,by omega,by go_num,A8,by show _=_;rw[List.length_append,hl.out];rfl,xP hes.out FX.out,R8,by show _≤_;have:=hq.out;have:=HQ5.out;rw[Int.natCast_add,Int.add_mul];omega,XF⟩
   case measure=>simp[intOf];omega
  ·have HJ:=LH (show j=m by omega)
   obtain⟨ak,ck,e,_,_,rd⟩:=hA.out.read (by omega);rw[List.length_map]at e;subst e;have RD1:Hid (Rd wr (fun k=>w.heap.size+2≤k) (zJ es) (.slice ak es.length ck)):=by
    show Rd _ _ (.arr 3 (yF es)) _;rw[yR];exact rd.mono (fun k hk=>hk.elim id (fun h=>Nat.le_trans hw3 h))
   clear rd hA;go_wp2_with fail;refine(zU _ _ _ _ _ _).mono ?_;rintro e w9 ⟨rfl,k9⟩;have b9:=LH (bw.out.k k9);have X9:=LH (XW.out.trans (zQ.to k9));have R9:=LH (hR.out.keep k9);have RD9:=LH (RD1.out.k k9);have HVV:Hid (yX 1000 8 d):=⟨by have:=HD.out.1;omega,by have:=HD.out.2;omega⟩;have HQ9:=LH (show q≤p+(pkG (b2+2)-1)by have h1:=hq.out;have h2:=HPP.out;have h3:(j:Int)*pkG c≤(m:Int)*pkG c:=Int.mul_le_mul_of_nonneg_right (by omega) (by omega);have:=hpart.out;omega);clear RD1 k9;have bz:=b9.out;have u0:=bz.u0;have u1:=bz.u1;have u2:=bz.u2;have f0:=bz.f0;have f1:=bz.f1;have f2:=bz.f2;clear bz;go_wp2_with fail;refine bodyPost_ret (v:=.agg #[.int .i64 8,.int .i64 d,.slice ak es.length ck]) (by simp[results,Tryz.results236,go_sem,u0,u1,u2]) rfl (zB hQ ?_);exact xJ (ks:=es) X9.out R9.out BW.out RD9.out HVV.out hes.out HQ9.out
theorem yZ(w:World)(D:Nat→Prop)(T:TypeId)(x y:zK)(a:Option Addr)(n c:Nat)(a':Option Addr)(n' c':Nat)(hB:D w.heap.size)(h:Rd w D (zJ x.kids) (.slice a n c))(h':Rd w D (zJ y.kids) (.slice a' n' c')):
  Rd (w.alloc (.cells #[.int .i64 x.op,.int .i64 x.num,.slice a n c,.int .i64 y.op,.int .i64 y.num,.slice a' n' c'] T)) D (zJ [x,y]) (.slice (some ⟨w.heap.size,0,none⟩) 2 2):=by
 have e:zJ [x,y]=.arr 3 ([x,y].map yC):=by unfold zJ;rw[yR]
 rw[e];refine Rd.litD w D T 3 _ ([x,y].map yC) 2 hB (by simp) (by omega) (by omega) (by simp) (fun i hi=>by
  have e:i=0∨i=1:=by simp at hi;omega
  rcases e with rfl|rfl<;>simp[qC,jM]) (fun i j hi hj=>?_)
 have e:i=0∨i=1:=by simp at hi;omega
 rcases e with rfl|rfl
 ·rcases(show j=0∨j=1∨j=2 by omega)with rfl|rfl|rfl
  ·exact⟨_,rfl,by simp[rAt,qC,jM,jP];exact .num _⟩
  ·exact⟨_,rfl,by simp[rAt,qC,jM,jP];exact .num _⟩
  ·exact⟨_,rfl,by simp[rAt,qC,jM,jP];exact h⟩
 ·rcases(show j=0∨j=1∨j=2 by omega)with rfl|rfl|rfl
  ·exact⟨_,rfl,by simp[rAt,qC,jM,jP];exact .num _⟩
  ·exact⟨_,rfl,by simp[rAt,qC,jM,jP];exact .num _⟩
  ·exact⟨_,rfl,by simp[rAt,qC,jM,jP];exact h'⟩
def Rw(B g:Nat)(p N:Int)(m:Nat)(w:World)(e:Ending)(w':World):Prop:=∃(es:List zK) (a:Option Addr) (n c:Nat) (q:Int),e=.returned (.slice a n c)∧Rd w' (fun k=>w.heap.size≤k) (zJ es) (.slice a n c)∧es.length=m∧yS (yX 1000) es∧Rdx w' B g q∧q≤p+N∧Ext (·=g) w w'
theorem vE(ds:List zG)(fs:List zA)(B g b:Nat)(bi PG3:Int)(hbi:bi=(b:Int))(hG:jZ ds fs)(types:List Int)(HI:∀b',b'≤b→J7 ds fs B g b')(hb3:2≤b)(hPG:PG3=pkG (b+1))(vars:List Int)(av:Option Addr)(nv cv:Nat)(ta:Option Addr)(nt ct:Nat)(p:Int)(a0:Option Addr)(n0 c0:Nat)(a1:Option Addr)(n1 c1:Nat)(w:World)(hT:∀t,t∈types→T5 t)(hpg:PG w g ds fs a0 n0 c0 a1 n1 c1)(hv:Rd w (fun k=>k≠g) (zY vars) (.slice av nv cv))(hnv:nv+3*b≤900)
  (ht:Rd w (fun k=>k≠g) (zY types) (.slice ta nt ct)) (hnt:nt≤3) (hr:Rdx w B g p) (hBw:B≤w.heap.size) (hp:p+PG3≤900000000000+100):
  Calls Tryz.prog 235 #[.pointer (some ⟨g,0,none⟩),.agg #[.slice a0 n0 c0,.slice a1 n1 c1],.slice av nv cv,.slice ta nt ct,.int .i64 bi] w (Rw B g p (PG3-200) types.length w):=by
 subst hbi hPG;have hl:=(zN ht).1;have hd:=Nat.div_le_self b types.length;have hp1:=XK (b:=b+1) (m:=b) (n:=types.length) (by omega) (by omega) (by omega);have hp3:=DW (b:=b+1) (by omega);refine(BE ds fs B g b hG types (HI _ hd) (by omega) vars av nv cv ta nt ct p a0 n0 c0 a1 n1 c1 w hT hpg hv (by omega) ht hnt hr hBw (by omega)).mono ?_;rintro e w' ⟨es,a,n,c,q,h1,h2,h3,h4,h5,h6,h7⟩;exact⟨es,a,n,c,q,h1,h2,h3,h4,h5,by omega,h7⟩
theorem Yx(ds:List zG)(fs:List zA)(B g b2:Nat)(hG:jZ ds fs)(hb:1≤b2)(HI:∀b',b'<b2+2→J7 ds fs B g b')(t:Int)(vars:List Int)(av:Option Addr)(nv cv:Nat)(p:Int)(a0:Option Addr)(n0 c0:Nat)(a1:Option Addr)(n1 c1:Nat)(bi:Int)(hbi:bi=((b2+2:Nat):Int))(w:World)(hT:T5 t)(hpg:PG w g ds fs a0 n0 c0 a1 n1 c1)(hv:Rd w (fun k=>k≠g) (zY vars) (.slice av nv cv))(hnv:nv+3*(b2+2)≤900)
  (hr:Rdx w B g p) (hBw:B≤w.heap.size) (hp:p+pkG (b2+2)≤900000000001):
  Calls Tryz.prog 238 #[.pointer (some ⟨g,0,none⟩),.agg #[.slice a0 n0 c0,.slice a1 n1 c1],.slice av nv cv,.int .i64 t,.int .i64 bi] w (Q4 B g p (pkG (b2+2)-1) 1000 w):=by
 subst hbi;refine zV fun Q hQ=>?_;have HG:=LH hG;have HP:=LH hpg;have BW:=LH hBw;have hgB:=hr.gB;have hgw:g<w.heap.size:=by omega
 have K1:=(zQ.al w (.cells #[.slice a0 n0 c0,.slice a1 n1 c1] 44)).trans (zQ.al _ (.cells #[.int .i64 0,.int .i64 0,.slice none 0 0] 58));have B0:=LH (Bx.born w (.slice a0 n0 c0) (.slice a1 n1 c1));have hds:=hG.len4;have hfs:=hG.len;have hn0:n0≤4:=by have:=(zT hpg.d).1;omega
 have hn1:n1≤4:=by have:=(qZ hpg.f).1;omega
 have qr:=LH (hr.keep K1);have X1:=LH (zQ.to (S:=(·=g)) K1);have HT:=LH hT;have HV:=LH hv;have IH:=LH HI;have hpk3:=DW (show 3≤b2+2 by omega);have HPP:=LH hp;have hpp:p+100≤900000000000:=by omega
 have hp2:=XK (show 3≤b2+2 by omega) (show b2+1≤b2+2 by omega) (show 1≤3 by omega);have HPB2:=LH (show 4*pkG b2≤3*pkG (b2+2)by have e:b2 / 1=b2:=Nat.div_one _;rw[e]at hp2;omega);clear hG hpg hv hr hBw hT HI hp hp2;go_in;go_wp2_with fail;refine(jD B g p _ _ qr.out (by omega) (by omega)).mono ?_;rintro e w1 ⟨v,rfl,_,_,r1,x1⟩;have b1:=LH (B0.out.ext x1 hgw);have X2:=LH (X1.out.trans x1);have R1:=LH r1;clear r1 x1 K1;go_upto_if 16 with fail;go_cut [11] (fun s11 wx=>Hid (zQ w1 wx))
 case first=>
  by_cases hv0:v=0
  case neg=>
   go_wp2_with fail;go_meet
   case rel=>exact Ext.refl _ _
  subst hv0;go_wp2_with fail;go_loopw [11] (fun sv wr=>∃k:Nat,k≤n0∧sv=.int .i64 ((k:Int)+1)∧Hid (zQ w1 wr)) (fun i _=>n0+1-(intOf i).toNat)
  case atStart=>exact⟨0,Nat.zero_le _,rfl,Ext.refl _ _⟩
  case round=>
   obtain⟨k,hk,rfl,hK⟩:=hrel;obtain⟨wo,rfl⟩:∃wo:World,wo=wr:=⟨_,rfl⟩;have bo:=LH (b1.out.k hK.out);have XO:=LH (X2.out.trans (zQ.to hK.out));have x0:=bo.out.x0;have x1:=bo.out.x1;by_cases hlt:k<n0
   case neg=>
    have hlt2:(n0:Int)<(k:Int)+1:=by omega
    go_wp2_with fail;go_meet
    case rel=>exact hK
   have hlt2:(k:Int)+1≤(n0:Int):=by omega
   have PO:=LH (HP.out.ext XO.out);have qd:=LH (Rd.toDecls PO.out.d);obtain⟨bd,od,rfl,⟨hbd,hbw⟩,ad,nd,cd,d0,d1,_,_⟩:=(zT (HP.out.d.lt.ext XO.out (fun k h=>h.1))).2.2.2 k hlt;have hbne:¬bd=w.heap.size+1:=by omega
   have hbne2:¬w.heap.size+1=bd:=by omega
   have D0:=LH d0;clear d0;have hkn:k<ds.length:=by have:=(zT PO.out.d).1;omega
   have hw1:IntKind.i64.wrap (k:Int)=(k:Int):=IntWalk.i64_in _ (by omega);have hkk:(0:Int)≤(k:Int):=by omega
   have hkn2:(k:Int)<(n0:Int):=by omega
   go_upto_region 5 with fail;go_cut [44] (fun s44 wx=>∃b:Bool,s44=.bool b∧Hid (b=true→xS ds ((k:Int)+1)=true)∧Hid (zQ wo wx))
   case first=>
    cases ha:xS ds ((k:Int)+1)
    ·have HAr:=LH ha
     clear ha;go_wp2_with fail;refine(jx _ _ _ ds _ _ _ qd.out (by omega)).mono ?_;rw[HAr.out];rintro e w2 ⟨rfl,rfl⟩;go_wp2_with fail;go_meet
     case rel=>exact⟨false,rfl,(fun h=>by cases h),Ext.refl _ _⟩
    ·have HAr:=LH ha
     clear ha;by_cases hto:(dAt ds k).to_=t
     ·have HPR:=LH PO.out.pr
      have HVI:=LH ((HV.out.g XO.out).toInts);have hto2:((dAt ds k).to_==t)=true:=by simpa using hto
      clear hto;go_wp2_with fail;refine(jx _ _ _ ds _ _ _ qd.out (by omega)).mono ?_;rw[HAr.out];rintro e w2 ⟨rfl,rfl⟩;go_wp2_with fail;refine(kW ds fs vars _ _ _ _ _ _ _ _ _ _ _ _ HPR.out hds hfs HVI.out (by omega)).mono ?_;rintro e w3 ⟨b,rfl,k3⟩;go_wp2_with fail;go_meet
      case rel=>exact⟨b,rfl,(fun _=>HAr.out),k3⟩
     ·have hto2:((dAt ds k).to_==t)=false:=by simpa using hto
      clear hto;go_wp2_with fail;refine(jx _ _ _ ds _ _ _ qd.out (by omega)).mono ?_;rw[HAr.out];rintro e w2 ⟨rfl,rfl⟩;go_wp2_with fail;go_meet
      case rel=>exact⟨false,rfl,(fun h=>by cases h),Ext.refl _ _⟩
   case rest=>
   obtain⟨b,rfl,hba,hX⟩:=hcut;clear x0 x1 d1;cases b
   ·go_wp2_with fail
    go_roundw
    case measure=>simp[intOf];omega
    case rel=>first|exact⟨k+1,by omega,by go_num,hK.out.trans hX.out⟩|((repeat apply Exists.intro);exact⟨⟨k+1,by omega,by go_num,hK.out.trans hX.out⟩,rfl⟩)
   ·have XC:=LH (XO.out.trans (zQ.to hX.out))
    have bc:=LH (bo.out.k hX.out);have y0:=bc.out.x0;have y1:=bc.out.x1;have d2:=hX.out.q D0.out;have PD:=LH (HP.out.ext XC.out.drew);have VD:=LH (HV.out.g XC.out.drew);have RD:=LH (((R1.out.keep hK.out).keep hX.out).keep (kD wc));have BD:Hid (B≤wc.drew.heap.size):=by show B≤wc.heap.size;have:=XC.out.size;have:=BW.out;omega
    have hka:(dAt ds k).cons.length=0:=by have h:=(uq (hba.out rfl)).2.2;rw[show((k:Int)+1).toNat-1=k by omega]at h;exact h
    have HFr:=LH ((HG.out.arrow hkn hka).1);have HTk:Hid (T5 ((k:Int)+1)):=⟨by omega,by omega⟩;have hwc:=bc.out.lt;have IHb:=LH (IH.out b2 (by omega));have hw2:IntKind.i64.wrap (b2:Int)=(b2:Int):=IntWalk.i64_in _ (by omega);clear hka;go_wp2_with fail;go_region_held3 (fun w'=>w'.cell? ⟨w.heap.size,0,none⟩=some (.slice (some ⟨bd,od,none⟩) n0 c0)∧w'.cell? ⟨w.heap.size,1,none⟩=some (.slice a1 n1 c1)∧w'.cell? ⟨bd,od+k*3,none⟩=some (.int .i64 (dAt ds k).from_))
     (first|exact⟨y0,y1,d2⟩|exact⟨ka0,ka1,ka2⟩|exact⟨kb0,kb1,kb2⟩|exact⟨kc0,kc1,kc2⟩|go_keep)
     (first
      |(go_at_call 230;refine(Z9 ds fs B g HG.out ((k:Int)+1) vars _ _ _ _ _ _ _ _ _ _ wc.drew HTk.out PD.out VD.out (by omega) RD.out BD.out (by omega)).mono ?_;rintro e wa ⟨x,ax,nx,cx,qa,rfl,rx,fx,ra,hqa,Xa⟩;have ka0:=Xa.at (w:=wc.drew) y0 (by show w.heap.size≠g;omega);have ka1:=Xa.at (w:=wc.drew) y1 (by show w.heap.size≠g;omega);have ka2:=Xa.at (w:=wc.drew) d2 hbd;have XA:=LH (XC.out.drew.trans Xa);have RA:=LH ra;have hleA:wc.heap.size≤wa.heap.size:=Xa.size;have HQA:=LH hqa;have FX:=LH fx;have RX:=LH rx;have BXA:=LH ((bc.out.k (kD wc)).ext Xa hgw);have BA:=LH (Nat.le_trans BW.out XA.out.size);clear rx fx ra Xa)
      |(go_at_call 228;refine(IHb.out (dAt ds k).from_ vars _ _ _ qa _ _ _ _ _ _ wa HFr.out (HP.out.ext XA.out) (HV.out.g XA.out) (by omega) RA.out BA.out (by have h1:=HQA.out;have h2:=HPP.out;have h3:=HPB2.out;omega)).mono ?_;rintro e wb ⟨y,ay,ny,cy,qb,rfl,ry,fy,rb,hqb,Xb⟩;have kb0:=Xb.at ka0 (by show w.heap.size≠g;omega);have kb1:=Xb.at ka1 (by show w.heap.size≠g;omega);have kb2:=Xb.at ka2 hbd;have XB:=LH (XA.out.trans Xb);have RB:=LH rb;have HQB:=LH hqb;have FY:=LH fy;have hleB:wa.heap.size≤wb.heap.size:=Xb.size;have RXY:=LH (yZ wb (fun k=>w.heap.size+2≤k) 58 x y ax nx cx ay ny cy (by omega) ((RX.out.ext Xb (fun k hk=>(by change wc.heap.size≤k at hk;omega))).mono (fun k hk=>(by change wc.heap.size≤k at hk;omega))) (ry.mono (fun k hk=>(by change wa.heap.size≤k at hk;omega))));have BXB:=LH (BXA.out.ext Xb hgw);clear ry fy rb hqb Xb)
      |(go_at_call 212;refine(zU _ _ _ _ _ _).mono ?_;rintro e w9 ⟨rfl,k9⟩;have kc0:=(zQ.to (S:=(·=g)) k9).at (zy kb0) (by show w.heap.size≠g;omega);have kc1:=(zQ.to (S:=(·=g)) k9).at (zy kb1) (by show w.heap.size≠g;omega);have kc2:=(zQ.to (S:=(·=g)) k9).at (zy kb2) hbd;have K9:=LH ((zQ.al wb (.cells #[.int .i64 x.op,.int .i64 x.num,.slice ax nx cx,.int .i64 y.op,.int .i64 y.num,.slice ay ny cy] 58)).trans k9);have RD9:=LH (RXY.out.k k9);have u0:=(BXB.out.k K9.out).u0;have u1:=(BXB.out.k K9.out).u1;have u2:=(BXB.out.k K9.out).u2;have f0:=(BXB.out.k K9.out).f0;have f1:=(BXB.out.k K9.out).f1;have f2:=(BXB.out.k K9.out).f2;clear k9)
      |fail)
    have X9:=LH (XB.out.trans (zQ.to K9.out));have R9:=LH (RB.out.keep K9.out);have HFI:Hid (yX 1000 11 0):=⟨by omega,by omega⟩;have HFS:Hid (yS (yX 1000) [x,y]):=⟨FX.out,FY.out,trivial⟩;have HQ9:=LH (show qb≤p+(pkG (b2+2)-1)by have h1:=HQA.out;have h2:=HQB.out;have h3:=HPB2.out;omega);clear kc0 kc1 kc2 kb0 kb1 kb2 ka0 ka1 ka2 y0 y1 d2;go_wp2_with fail;refine bodyPost_ret (v:=.agg #[.int .i64 11,.int .i64 0,.slice (some ⟨wb.heap.size,0,none⟩) 2 2]) (by simp[results,Tryz.results238,go_sem,u0,u1,u2]) rfl (zB hQ ?_);exact xJ (ks:= [x,y]) X9.out R9.out BW.out RD9.out HFI.out HFS.out HQ9.out
 case rest=>
 have K1c:=hcut;clear hcut;have bq:=LH (b1.out.k K1c.out);have XQ:=LH (X2.out.trans (zQ.to K1c.out));have RQ:=LH (R1.out.keep K1c.out);have x0:=bq.out.x0;have qd:=LH (Rd.toDecls (HP.out.ext XQ.out).d);clear b1 X2 R1 K1c;go_wp2_with fail;refine(jq _ _ _ ds _ t _ qd.out HG.out.few).mono ?_;rintro e w2 ⟨ac,m,cc,rfl,hmc,oc,k2⟩;have b2x:=LH (bq.out.k k2);have X3:=LH (XQ.out.trans (zQ.to k2));have R2:=LH (RQ.out.keep k2);have OC:=LH oc.read;have HM:=LH oc.1;have hsq:=XQ.out.size;clear oc k2 x0 qd;have IHB:Hid (∀b',b'≤b2+1→J7 ds fs B g b'):=fun b' h=>IH.out b' (by omega);have hw1:IntKind.i64.wrap ((b2:Int)+1)=(b2:Int)+1:=IntWalk.i64_in _ (by omega);have hw0:IntKind.i64.wrap ((b2:Int)+2-1)=(b2:Int)+1:=by rw[show(b2:Int)+2-1=(b2:Int)+1 by omega];exact hw1
 rcases Nat.eq_zero_or_pos m with hm|hm
 ·subst hm
  by_cases ht:0<t
  ·have y0:=b2x.out.x0
   have y1:=b2x.out.x1;have PD:=LH (HP.out.ext X3.out);have VD:=LH (HV.out.g X3.out);have BD:Hid (B≤w2.heap.size):=Nat.le_trans BW.out X3.out.size;go_wp2_with fail;refine(Z9 ds fs B g HG.out t vars _ _ _ _ _ _ _ _ _ _ _ HT.out PD.out VD.out (by omega) R2.out BD.out (by omega)).mono ?_;rintro e w5 ⟨x,ax,nx,cx,q5,rfl,rx,fx,r5,hq5,X5⟩;have b5:=LH (b2x.out.ext X5 hgw);have X6:=LH (X3.out.trans X5);have RX:=LH (rx.mono (D':=fun k=>w.heap.size+2≤k) (fun k hk=>Nat.le_trans b2x.out.lt hk));have FX:=LH ((vT _ _).1 fx);have R5:=LH r5;have HQ5:=LH (show q5≤p+(pkG (b2+2)-1)by omega);clear y0 y1 rx fx r5 hq5 X5;have bz:=b5.out;have u0:=bz.u0;have u1:=bz.u1;have u2:=bz.u2;have f0:=bz.f0;have f1:=bz.f1;have f2:=bz.f2;clear bz;go_wp2_with fail;refine bodyPost_ret (v:=.agg #[.int .i64 x.op,.int .i64 x.num,.slice ax nx cx]) (by simp[results,Tryz.results238,go_sem,u0,u1,u2]) rfl (zB hQ ?_);exact xJ (ks:=x.kids) X6.out R5.out BW.out RX.out FX.out.1 FX.out.2 HQ5.out
  ·have ht2:t≤0:=by omega
   clear ht;go_wp2_with fail;refine(jD B g _ _ _ R2.out (by omega) (by omega)).mono ?_;rintro e w4 ⟨v,rfl,_,_,r4,x4⟩;have b4:=LH (b2x.out.ext x4 hgw);have X4:=LH (X3.out.trans x4);have R4:=LH r4;clear r4 x4;by_cases hv0:v=0
   ·subst hv0
    have y0:=zy (o:=.cells #[.int .i64 0] 3) b4.out.x0;have y1:=zy (o:=.cells #[.int .i64 0] 3) b4.out.x1;have z0:=b4.out.x0;have z1:=b4.out.x1;have X4a:=LH (X4.out.trans (zQ.to (zQ.al w4 (.cells #[.int .i64 0] 3))));have PD:=LH (HP.out.ext X4a.out);have VD:=LH (HV.out.g X4a.out);have BD:=LH (Nat.le_trans BW.out X4a.out.size);have hs4:=X4.out.size;have TY:=LH (z6 w4 (fun k=>k≠g) 3 [0] #[.int .i64 0] 1 (by omega) rfl rfl (by omega));go_wp2_with fail;refine(vE ds fs B g (b2+1) _ (pkG (b2+2)) (by omega) HG.out [0] IHB.out (by omega) rfl vars _ _ _ _ _ _ _ _ _ _ _ _ _ _ (by intro t ht;rw[List.mem_singleton.1 ht];exact⟨by omega,by omega⟩) PD.out VD.out (by omega) TY.out (by omega) (R4.out.keep (zQ.al _ _)) BD.out (by have:=HPP.out;omega)).mono ?_;rintro e w5 ⟨es,a5,n5,c5,q5,rfl,rd5,_,fs5,r5,hq5,X5⟩;have b5:=LH ((b4.out.k (zQ.al _ _)).ext X5 hgw);have X6:=LH (X4a.out.trans X5);have hw5:=b4.out.lt;have RX:=LH (rd5.mono (D':=fun k=>w.heap.size+2≤k) (fun k hk=>by simp at hk;omega));have R5:=LH r5;have F5:=LH fs5;have HQ5:=LH hq5;clear y0 y1 z0 z1 rd5 r5 fs5 hq5 X5;go_wp2_with fail;refine(zU _ _ _ _ _ _).mono ?_;rintro e w9 ⟨rfl,k9⟩;have b9:=LH (b5.out.k k9);have X9:=LH (X6.out.trans (zQ.to k9));have R9:=LH (R5.out.keep k9);have RD9:=LH (RX.out.k k9);have HFI:Hid (yX 1000 5 0):=⟨by omega,by omega⟩;have HQ9:=LH (show q5≤p+(pkG (b2+2)-1)by have h1:=HQ5.out;omega);clear k9;have bz:=b9.out;have u0:=bz.u0;have u1:=bz.u1;have u2:=bz.u2;have f0:=bz.f0;have f1:=bz.f1;have f2:=bz.f2;clear bz;go_wp2_with fail;refine bodyPost_ret (v:=.agg #[.int .i64 5,.int .i64 0,.slice a5 n5 c5]) (by simp[results,Tryz.results238,go_sem,u0,u1,u2]) rfl (zB hQ ?_);exact xJ (ks:=es) X9.out R9.out BW.out RD9.out HFI.out F5.out HQ9.out
   ·have hvn:(v==0)=false:=by simpa using hv0
    have y0:=b4.out.x0;have y1:=b4.out.x1;have hs4:=X4.out.size;have hw5:=b4.out.lt;have IA:=LH ((z6 w4 (fun k=>k≠g) 3 [1,2,3,4] #[.int .i64 1,.int .i64 2,.int .i64 3,.int .i64 4] 4 (by omega) rfl rfl (by omega)).k (Ext.refl (fun _=>False) (w4.alloc (.cells #[.int .i64 1,.int .i64 2,.int .i64 3,.int .i64 4] 3))).drew);have IB:=LH (((z6 w4 (fun k=>k≠g) 3 [1,2,3,4] #[.int .i64 1,.int .i64 2,.int .i64 3,.int .i64 4] 4 (by omega) rfl rfl (by omega)).k (zQ.al _ (.cells #[.int .i64 0,.int .i64 0] 3))).k (Ext.refl (fun _=>False) ((w4.alloc (.cells #[.int .i64 1,.int .i64 2,.int .i64 3,.int .i64 4] 3)).alloc (.cells #[.int .i64 0,.int .i64 0] 3))).drew);have IC:=LH ((z6 (w4.alloc (.cells #[.int .i64 0,.int .i64 0] 3)) (fun k=>k≠g) 3 [1,2,3,4] #[.int .i64 1,.int .i64 2,.int .i64 3,.int .i64 4] 4 (by simp only[World.size_alloc];omega) rfl rfl (by omega)).k (Ext.refl (fun _=>False) ((w4.alloc (.cells #[.int .i64 0,.int .i64 0] 3)).alloc (.cells #[.int .i64 1,.int .i64 2,.int .i64 3,.int .i64 4] 3))).drew);have TB:=LH ((z6 (w4.alloc (.cells #[.int .i64 1,.int .i64 2,.int .i64 3,.int .i64 4] 3)) (fun k=>k≠g) 3 [0,0] #[.int .i64 0,.int .i64 0] 2 (by simp only[World.size_alloc];omega) rfl rfl (by omega)).k (Ext.refl (fun _=>False) ((w4.alloc (.cells #[.int .i64 1,.int .i64 2,.int .i64 3,.int .i64 4] 3)).alloc (.cells #[.int .i64 0,.int .i64 0] 3))).drew);have TC:=LH (((z6 w4 (fun k=>k≠g) 3 [0,0] #[.int .i64 0,.int .i64 0] 2 (by omega) rfl rfl (by omega)).k (zQ.al _ (.cells #[.int .i64 1,.int .i64 2,.int .i64 3,.int .i64 4] 3))).k (Ext.refl (fun _=>False) ((w4.alloc (.cells #[.int .i64 0,.int .i64 0] 3)).alloc (.cells #[.int .i64 1,.int .i64 2,.int .i64 3,.int .i64 4] 3))).drew);simp only[World.size_alloc]at IC TB;have KKA:=LH ((zQ.al w4 (.cells #[.int .i64 1,.int .i64 2,.int .i64 3,.int .i64 4] 3)).drew);have KKB:=LH (((zQ.al w4 (.cells #[.int .i64 1,.int .i64 2,.int .i64 3,.int .i64 4] 3)).trans (zQ.al _ (.cells #[.int .i64 0,.int .i64 0] 3))).drew);have KKC:=LH (((zQ.al w4 (.cells #[.int .i64 0,.int .i64 0] 3)).trans (zQ.al _ (.cells #[.int .i64 1,.int .i64 2,.int .i64 3,.int .i64 4] 3))).drew);have CA:=LH (W2 B g (p+1+1) _ 4 4 [1,2,3,4] (fun k=>k≠g) _ (R4.out.keep KKA.out) (by omega) IA.out.toInts (by omega) (by omega) (fun h=>h rfl));have CB:=LH (W2 B g (p+1+1) _ 4 4 [1,2,3,4] (fun k=>k≠g) _ (R4.out.keep KKB.out) (by omega) IB.out.toInts (by omega) (by omega) (fun h=>h rfl));have CC:=LH (W2 B g (p+1+1) _ 4 4 [1,2,3,4] (fun k=>k≠g) _ (R4.out.keep KKC.out) (by omega) IC.out.toInts (by omega) (by omega) (fun h=>h rfl));go_wp2_with fail;go_region_held3 (fun w'=>w'.cell? ⟨w.heap.size,0,none⟩=some (.slice a0 n0 c0)∧w'.cell? ⟨w.heap.size,1,none⟩=some (.slice a1 n1 c1))
     (first|exact⟨y0,y1⟩|exact⟨kb0,kb1⟩|exact⟨kc0,kc1⟩|exact⟨ka0,ka1⟩|go_keep)
     (first
      |(go_at_call 112;(with_reducible refine CA.out.mono ?_);intro e wa hpost;obtain⟨op,hop,he,ra,xa⟩:=hpost;subst he;have ka0:=xa.at ((zQ.to (S:=(·=g)) KKA.out).at y0 (by show w.heap.size≠g;omega)) (by show w.heap.size≠g;omega);have ka1:=xa.at ((zQ.to (S:=(·=g)) KKA.out).at y1 (by show w.heap.size≠g;omega)) (by show w.heap.size≠g;omega);have HOP:=LH hop;have hsA:=((zQ.to (S:=(·=g)) KKA.out).trans xa).size;have XC2:=LH (((zQ.to (S:=(·=g)) KKA.out).trans xa).trans (zQ.to (zQ.al wa (.cells #[.int .i64 0,.int .i64 0] 3))));have RC2:=LH (ra.keep (zQ.al wa (.cells #[.int .i64 0,.int .i64 0] 3)));have TY:=LH (z6 wa (fun k=>k≠g) 3 [0,0] #[.int .i64 0,.int .i64 0] 2 (by omega) rfl rfl (by omega));clear ra xa hop)
      |(go_at_call 112;(with_reducible refine CB.out.mono ?_);intro e wa hpost;obtain⟨op,hop,he,ra,xa⟩:=hpost;subst he;have ka0:=xa.at ((zQ.to (S:=(·=g)) KKB.out).at y0 (by show w.heap.size≠g;omega)) (by show w.heap.size≠g;omega);have ka1:=xa.at ((zQ.to (S:=(·=g)) KKB.out).at y1 (by show w.heap.size≠g;omega)) (by show w.heap.size≠g;omega);have HOP:=LH hop;have hsA:=((zQ.to (S:=(·=g)) KKB.out).trans xa).size;have XC2:=LH ((zQ.to (S:=(·=g)) KKB.out).trans xa);have RC2:=LH ra;have TY:=LH (TB.out.g xa);clear ra xa hop)
      |(go_at_call 112;(with_reducible refine CC.out.mono ?_);intro e wa hpost;obtain⟨op,hop,he,ra,xa⟩:=hpost;subst he;have ka0:=xa.at ((zQ.to (S:=(·=g)) KKC.out).at y0 (by show w.heap.size≠g;omega)) (by show w.heap.size≠g;omega);have ka1:=xa.at ((zQ.to (S:=(·=g)) KKC.out).at y1 (by show w.heap.size≠g;omega)) (by show w.heap.size≠g;omega);have HOP:=LH hop;have hsA:=((zQ.to (S:=(·=g)) KKC.out).trans xa).size;have XC2:=LH ((zQ.to (S:=(·=g)) KKC.out).trans xa);have RC2:=LH ra;have TY:=LH (TC.out.g xa);clear ra xa hop)
      |(go_at_call 235;refine(vE ds fs B g (b2+1) _ (pkG (b2+2)) (by omega) HG.out [0,0] IHB.out (by omega) rfl vars _ _ _ _ _ _ _ _ _ _ _ _ _ _ (by intro t ht;simp only[List.mem_cons,List.not_mem_nil,or_false,or_self]at ht;rw[ht];exact⟨by omega,by omega⟩) (HP.out.ext (X4.out.trans XC2.out)) (HV.out.g (X4.out.trans XC2.out)) (by omega) TY.out (by omega) RC2.out (Nat.le_trans BW.out (X4.out.trans XC2.out).size) (by have:=HPP.out;omega)).mono ?_;rintro e w5 ⟨es,a5,n5,c5,q5,rfl,rd5,_,fs5,r5,hq5,X5⟩;have kb0:=(XC2.out.trans X5).at y0 (by show w.heap.size≠g;omega);have kb1:=(XC2.out.trans X5).at y1 (by show w.heap.size≠g;omega);have hsC:=XC2.out.size;have b5:=LH (b4.out.ext (XC2.out.trans X5) hgw);have X6:=LH ((X4.out.trans XC2.out).trans X5);have RX:=LH (rd5.mono (D':=fun k=>w.heap.size+2≤k) (fun k hk=>(by omega)));have R5:=LH r5;have F5:=LH fs5;have HQ5:=LH hq5;clear rd5 r5 fs5 hq5 X5)
      |(go_at_call 212;refine(zU _ _ _ _ _ _).mono ?_;rintro e w9 ⟨rfl,k9⟩;have kc0:=(zQ.to (S:=(·=g)) k9).at kb0 (by show w.heap.size≠g;omega);have kc1:=(zQ.to (S:=(·=g)) k9).at kb1 (by show w.heap.size≠g;omega);have K9:=LH k9;have u0:=(b5.out.k K9.out).u0;have u1:=(b5.out.k K9.out).u1;have u2:=(b5.out.k K9.out).u2;have f0:=(b5.out.k K9.out).f0;have f1:=(b5.out.k K9.out).f1;have f2:=(b5.out.k K9.out).f2;clear k9)
      |fail)
    all_goals
     have X9:=LH (X6.out.trans (zQ.to K9.out));have R9:=LH (R5.out.keep K9.out);have RD9:=LH (RX.out.k K9.out);have HFI:Hid (yX 1000 op 0):=⟨by omega,by omega⟩;have HQ9:=LH (show q5≤p+(pkG (b2+2)-1)by have h1:=HQ5.out;omega);clear kc0 kc1 kb0 kb1 ka0 ka1 y0 y1;go_wp2_with fail;refine bodyPost_ret (v:=.agg #[.int .i64 op,.int .i64 0,.slice a5 n5 c5]) (by simp[results,Tryz.results238,go_sem,u0,u1,u2]) rfl (zB hQ ?_);exact xJ (ks:=es) X9.out R9.out BW.out RD9.out HFI.out F5.out HQ9.out
 ·have hd0:decide (0<m)=true:=decide_eq_true hm
  have hm3:m≤3:=by have:=(HG.out.cons t).1;have:=HM.out;omega
  go_wp2_with fail;refine(jD B g _ _ _ R2.out (by omega) (by omega)).mono ?_;rintro e w3 ⟨v,rfl,hv,_,r3,x3⟩;obtain⟨hv0,hv1⟩:=hv (by omega);obtain⟨i,rfl⟩:=Int.eq_ofNat_of_zero_le hv0;have hi:i<m:=by omega
  obtain⟨bc,oc,rfl,hbc,hcc⟩:=OC.out.2 hm;have hbc2:wc.heap.size≤bc:=hbc;have d0:=x3.at (hcc i hi) (by show bc≠g;omega);have hcm:iAt (zv ds t) i∈zv ds t:=by rw[jW (by have:=HM.out;omega)];exact List.getElem_mem _
  generalize iAt (zv ds t) i=c at d0 hcm;have HCR:=LH ((HG.out.cons t).2 c hcm);have b3:=LH (b2x.out.ext x3 hgw);have X4:=LH (X3.out.trans x3);have R3:=LH r3;have y0:=b3.out.x0;have y1:=b3.out.x1;have hw3:=b3.out.lt;have PD:=LH (HP.out.ext X4.out.drew);have VD:=LH (HV.out.g X4.out.drew);have RD:=LH (R3.out.keep (kD w3));have hdw:=LH (Rd.toDecls PD.out.d);have HF:=LH (HG.out.fields c);have BD:Hid (B≤w3.drew.heap.size):=by show B≤w3.heap.size;have:=X4.out.size;have:=BW.out;omega
  have BXD:=LH (b3.out.k (kD w3));clear hcc hv hv0 r3 x3 hcm;go_wp2_with fail;clear d0;go_region_held3 (fun w'=>w'.cell? ⟨w.heap.size,0,none⟩=some (.slice a0 n0 c0)∧w'.cell? ⟨w.heap.size,1,none⟩=some (.slice a1 n1 c1))
   (first|exact⟨y0,y1⟩|exact⟨ka0,ka1⟩|exact⟨kb0,kb1⟩|exact⟨kc0,kc1⟩|go_keep)
   (first
    |(go_at_call 148;refine(vW _ _ _ ds _ c w3.drew hdw.out HG.out.few).mono ?_;rintro e wa ⟨af,mf,cf,rfl,hmf,hfa,ka⟩;have ka0:=(zQ.to (S:=(·=g)) ka).at (w:=w3.drew) y0 (by show w.heap.size≠g;omega);have ka1:=(zQ.to (S:=(·=g)) ka).at (w:=w3.drew) y1 (by show w.heap.size≠g;omega);have KA:=LH ka;have hmf3:mf≤3:=(by have:=HF.out.1;have:=hfa.1;omega);have TYA:=LH (hfa.toRd hmf (by omega));clear hfa ka)
    |(go_at_call 235;refine(vE ds fs B g (b2+1) _ (pkG (b2+2)) (by omega) HG.out (zR ds c) IHB.out (by omega) rfl vars _ _ _ _ _ _ _ _ _ _ _ _ _ wa HF.out.2 (PD.out.k KA.out) (VD.out.k KA.out) (by omega) TYA.out (by omega) (RD.out.keep KA.out) (Nat.le_trans BD.out KA.out.size) (by have:=HPP.out;omega)).mono ?_;rintro e w5 ⟨es,a5,n5,c5,q5,rfl,rd5,_,fs5,r5,hq5,X5⟩;have kb0:=X5.at ka0 (by show w.heap.size≠g;omega);have kb1:=X5.at ka1 (by show w.heap.size≠g;omega);have hsA:w3.heap.size≤wa.heap.size:=KA.out.size;have b5:=LH ((BXD.out.k KA.out).ext X5 hgw);have X6:=LH ((X4.out.drew.trans (zQ.to KA.out)).trans X5);have RX:=LH (rd5.mono (D':=fun k=>w.heap.size+2≤k) (fun k hk=>(by omega)));have R5:=LH r5;have F5:=LH fs5;have HQ5:=LH hq5;clear rd5 r5 fs5 hq5 X5)
    |(go_at_call 212;refine(zU _ _ _ _ _ _).mono ?_;rintro e w9 ⟨rfl,k9⟩;have kc0:=(zQ.to (S:=(·=g)) k9).at kb0 (by show w.heap.size≠g;omega);have kc1:=(zQ.to (S:=(·=g)) k9).at kb1 (by show w.heap.size≠g;omega);have K9:=LH k9;have u0:=(b5.out.k K9.out).u0;have u1:=(b5.out.k K9.out).u1;have u2:=(b5.out.k K9.out).u2;have f0:=(b5.out.k K9.out).f0;have f1:=(b5.out.k K9.out).f1;have f2:=(b5.out.k K9.out).f2;clear k9)
    |fail)
  have X9:=LH (X6.out.trans (zQ.to K9.out));have R9:=LH (R5.out.keep K9.out);have RD9:=LH (RX.out.k K9.out);have HFI:Hid (yX 1000 6 c):=⟨by have:=HCR.out.1;omega,by have:=HCR.out.2;omega⟩;have HQ9:=LH (show q5≤p+(pkG (b2+2)-1)by have h1:=HQ5.out;omega);clear kc0 kc1 kb0 kb1 ka0 ka1 y0 y1;go_wp2_with fail;refine bodyPost_ret (v:=.agg #[.int .i64 6,.int .i64 c,.slice a5 n5 c5]) (by simp[results,Tryz.results238,go_sem,u0,u1,u2]) rfl (zB hQ ?_);exact xJ (ks:=es) X9.out R9.out BW.out RD9.out HFI.out F5.out HQ9.out
end Go.Proofs.YtkapldpmjkdmcaaGreat
