/- The generator of programs: mainBody. -/
import Derived.Test.YtkapldpmjkdmcaaGreatUAK
import Derived.Test.YtkapldpmjkdmcaaGreatUAB
namespace Go.Proofs.YtkapldpmjkdmcaaGreat
open Go.RowKit
set_option maxRecDepth 100000
set_option maxHeartbeats 4000000
theorem MD:pkG 16=6553600:=rfl
theorem EP(w:World)(D:Nat→Prop)(T:TypeId)(x:zK)(a:Option Addr)(n c:Nat)(hB:D w.heap.size)(h:Rd w D (zJ x.kids) (.slice a n c)):
  Rd (w.alloc (.cells #[.int .i64 x.op,.int .i64 x.num,.slice a n c] T)) D (zJ [x]) (.slice (some ⟨w.heap.size,0,none⟩) 1 1):=by
 have e:zJ [x]=.arr 3 ([zK.mk x.op x.num x.kids].map yC):=by unfold zJ;rw[yR,uB]
 rw[e];exact jv w D T x.op x.num x.kids a n c hB h
theorem GA(ds:List zG)(fs:List zA)(B g:Nat)(hG:jZ ds fs)(p:Int)(a0:Option Addr)(n0 c0:Nat)(a1:Option Addr)(n1 c1:Nat)(w:World)(hpg:PG w g ds fs a0 n0 c0 a1 n1 c1)(hr:Rdx w B g p)(hBw:B≤w.heap.size)(hp:p+7000000≤900000000000):
  Calls Tryz.prog 217 #[.pointer (some ⟨g,0,none⟩),.agg #[.slice a0 n0 c0,.slice a1 n1 c1]] w (Q4 B g p 7000000 1000 w):=by
 refine zV fun Q hQ=>?_;have HG:=LH hG;have HP:=LH hpg;have BW:=LH hBw;have hgB:=hr.gB;have hgw:g<w.heap.size:=by omega
 have K1:=(zQ.al w (.cells #[.slice a0 n0 c0,.slice a1 n1 c1] 44)).trans (zQ.al _ (.cells #[.int .i64 0,.int .i64 0,.slice none 0 0] 58));have B0:=LH (Bx.born w (.slice a0 n0 c0) (.slice a1 n1 c1));have hds:=hG.len4;have hfs:=hG.len;have hn0:n0≤4:=by have:=(zT hpg.d).1;omega
 have hn1:n1≤4:=by have:=(qZ hpg.f).1;omega
 have qr:=LH (hr.keep K1);have X1:=LH (zQ.to (S:=(·=g)) K1);have HPP:=LH hp;clear hG hpg hr hBw K1 hp;have hpp:p≤900000000000:=by have:=HPP.out;omega
 go_in;go_wp2_with fail;refine(Nz B g p [1,1,3] 3 3 _ _ _ _ (by simp) qr.out (by omega) rfl rfl (by omega) (by omega)).mono ?_;rintro e w1 ⟨t,hm,rfl,r1,x1⟩;have HT:Hid (T5 t):=by
  show 0≤t∧t≤4;simp only[List.mem_cons,List.not_mem_nil,or_false]at hm;omega
 have b1:=LH (B0.out.ext x1 hgw);have X2:=LH ((X1.out.trans x1).trans (zQ.to (zQ.al w1 (.cells #[.int .i64 t] 3))));have R2:=LH (r1.keep (zQ.al w1 (.cells #[.int .i64 t] 3)));have x0:=zy (o:=(.cells #[.int .i64 t] 3)) b1.out.x0;have x1':=zy (o:=(.cells #[.int .i64 t] 3)) b1.out.x1;have y0:=b1.out.x0;have y1:=b1.out.x1;have hs1:=b1.out.lt;have CG:Hid (Calls Tryz.prog 228 #[.pointer (some ⟨g,0,none⟩),.agg #[.slice a0 n0 c0,.slice a1 n1 c1],.slice (some ⟨w1.heap.size,0,none⟩) 1 1,.int .i64 0,.int .i64 16] (w1.alloc (.cells #[.int .i64 t] 3)) (Q4 B g (p+1) (pkG 16) 1000 (w1.alloc (.cells #[.int .i64 t] 3)))):=uK ds fs B g HG.out 16 0 [t] (some ⟨w1.heap.size,0,none⟩) 1 1 (p+1) _ _ _ _ _ _ (w1.alloc (.cells #[.int .i64 t] 3)) ⟨by omega,by omega⟩ (HP.out.ext X2.out) (z6 w1 (fun k=>k≠g) 3 [t] #[.int .i64 t] 1 (by omega) rfl rfl (by omega)) (by omega) R2.out (Nat.le_trans BW.out X2.out.size) (by have:=HPP.out;have:=MD;omega);clear hm r1 x1 B0 X1 qr;go_wp2_with fail;refine CG.out.mono ?_;rintro e w3 ⟨x,ax,nx,cx,q3,rfl,rx,fx,r3,hq3,x3⟩;have KB:Hid (zQ w3 (w3.alloc (.cells #[.int .i64 x.op,.int .i64 x.num,.slice ax nx cx] 58))):=zQ.al _ _;have b3:=LH (((b1.out.k (zQ.al w1 (.cells #[.int .i64 t] 3))).ext x3 hgw).k KB.out);have X3:=LH ((X2.out.trans x3).trans (zQ.to KB.out));have R3:=LH (r3.keep KB.out);have hs3:w1.heap.size+1≤w3.heap.size:=by have:=x3.size;simp at this;omega
 have ER:Hid (Ev (w3.alloc (.cells #[.int .i64 x.op,.int .i64 x.num,.slice ax nx cx] 58)) w3.heap.size (fun k=>w.heap.size+2≤k∧k≠w3.heap.size) x ax nx cx):=Ev.born w3 _ x ax nx cx (rx.lt.mono (fun k hk=>⟨by have:=hk.1;simp at this;omega,by omega⟩));have FR:=LH fx;have HQ3:=LH (show q3≤p+1+6553600 by have:=MD;omega);clear rx fx r3 hq3 x3 x0 x1' y0 y1 CG X2 R2 b1;go_upto_region 3 with fail;generalize hW:w3.alloc (.cells #[.int .i64 x.op,.int .i64 x.num,.slice ax nx cx] 58)=wq at*;clear hW KB;generalize hS:w3.heap.size=sR at*;clear hS;go_wp2_with fail;refine(jD B g q3 _ _ R3.out (by have:=HPP.out;have:=HQ3.out;omega) (by omega)).mono ?_;rintro e w4 ⟨v,rfl,hv,_,r4,x4⟩;go_upto_if 17 with fail;have b4:=LH (b3.out.ext x4 hgw);have X4:=LH (X3.out.trans x4);have R4:=LH r4;have hsg:sR≠g:=by omega
 have E4:=LH (ER.out.ext x4 hsg (fun k hk=>by omega));clear hv r4 x4 b3 X3 R3 ER;go_cut [] (fun wx=>∃(y:zK) (ay:Option Addr) (ny cy:Nat),Hid (Ev wx sR (fun k=>w.heap.size+2≤k∧k≠sR) y ay ny cy)∧Hid (yL (yX 1000) y)∧Hid (Rdx wx B g (q3+1))∧Hid (Bx wx w.heap.size (.slice a0 n0 c0) (.slice a1 n1 c1))∧Hid (Ext (·=g) w wx))
 case first=>
  by_cases hv0:v=0
  ·subst hv0
   have e0:=E4.out.v0;have e1:=E4.out.v1;have e2:=E4.out.v2;go_wp2_with fail;refine(zU _ _ _ _ _ _).mono ?_;rintro e w5 ⟨rfl,k5⟩;have K5:=LH ((zQ.al w4 (.cells #[.int .i64 x.op,.int .i64 x.num,.slice ax nx cx] 58)).trans k5);have hsl:=E4.out.lt;have RL:=LH ((EP w4 (fun k=>w.heap.size+2≤k∧k≠sR) 58 x ax nx cx (by have:=b4.out.lt;omega) E4.out.k).k k5);have E5:=LH (E4.out.keep K5.out);have g0:=E5.out.v0;have g1:=E5.out.v1;have g2:=E5.out.v2;have f0:=E5.out.g0;have f1:=E5.out.g1;have f2:=E5.out.g2;have Y:=LH (J5 w5 sR (.int .i64 5) (.int .i64 0) (.slice (some ⟨w4.heap.size,0,none⟩) 1 1));have E6:=LH (E5.out.store (y:=.mk 5 0 [x]) (D':=fun k=>w.heap.size+2≤k∧k≠sR) RL.out (fun k hk=>hk.2));have b6:=LH ((b4.out.k K5.out).extS Y.out (by omega) (by omega));have X6:=LH ((X4.out.trans (zQ.to K5.out)).then_ Y.out (fun i hi h=>by omega));have R6:=LH ((R4.out.keep K5.out).ext Y.out (fun k hk h=>by have:=BW.out;omega));have F6:Hid (yL (yX 1000) (.mk 5 0 [x])):=⟨⟨by omega,by omega⟩,FR.out,trivial⟩;clear k5 e0 e1 e2;go_wp2_with fail;go_meet
   case rel=>exact⟨_,_,_,_,E6,F6,R6,b6,X6⟩
  ·have hv2:(v==0)=false:=by simpa using hv0
   clear hv0;go_wp2_with fail;go_meet
   case rel=>exact⟨_,_,_,_,E4,FR,R4,b4,X4⟩
 case rest=>
 clear E4 FR R4 b4 X4;obtain⟨y,ay,ny,cy,EC,FC,RC,BC,XC⟩:=hcut;have e0:=EC.out.v0;have e1:=EC.out.v1;have e2:=EC.out.v2;have hs1:sR≠w.heap.size+1:=by omega
 have CL:=LH (Gw B g t (q3+1) wc.drew RC.out.dr (Nat.le_trans BW.out XC.out.drew.size) (by have:=HPP.out;have:=HQ3.out;omega));go_wp2_with fail;go_region_held3 (fun w'=>w'.cell? ⟨sR,0,none⟩=some (.int .i64 y.op)∧w'.cell? ⟨sR,1,none⟩=some (.int .i64 y.num)∧w'.cell? ⟨sR,2,none⟩=some (.slice ay ny cy))
  (first|with_reducible exact⟨e0,e1,e2⟩|with_reducible exact⟨kk10,kk11,kk12⟩|with_reducible exact⟨zy kk10,zy kk11,zy kk12⟩|with_reducible exact⟨kk20,kk21,kk22⟩|with_reducible exact⟨zD kk20 hs1,zD kk21 hs1,zD kk22 hs1⟩|go_keep)
  (first
   |(go_at_call 229;(with_reducible refine CL.out.mono ?_);rintro e v1 ⟨x,ax,nx,cx,q5,rfl,rx,fx,r5,hq5,xx1⟩;have XX1:=LH (((Ext.refl (·=g) wc).drew).trans xx1);have kk10:=XX1.out.at e0 hsg;have kk11:=XX1.out.at e1 hsg;have kk12:=XX1.out.at e2 hsg;have FX:=LH fx;have R5:=LH r5;have HQ5:=LH hq5;have BX1:=LH (BC.out.ext XX1.out hgw);have ER1:=LH (EC.out.ext XX1.out hsg (fun k hk=>(by omega)));have hz1:=XX1.out.size;have hbl:=BC.out.lt;have RL0:=LH (yZ v1 (fun k=>w.heap.size+2≤k) 58 x y ax nx cx ay ny cy (by omega) (rx.mono (fun k hk=>(by change wc.heap.size≤k at hk;omega))) (ER1.out.k.mono (fun k hk=>hk.1)));clear xx1 rx fx r5 hq5)
   |(go_at_call 212;refine(zU _ _ _ _ _ _).mono ?_;rintro e v2 ⟨rfl,xx2⟩;have XX2:=LH (((XX1.out).alloc (.cells #[.int .i64 x.op,.int .i64 x.num,.slice ax nx cx,.int .i64 y.op,.int .i64 y.num,.slice ay ny cy] 58)).trans (zQ.to xx2));have kk20:=XX2.out.at e0 hsg;have kk21:=XX2.out.at e1 hsg;have kk22:=XX2.out.at e2 hsg;have K6:=LH ((zQ.al v1 (.cells #[.int .i64 x.op,.int .i64 x.num,.slice ax nx cx,.int .i64 y.op,.int .i64 y.num,.slice ay ny cy] 58)).trans xx2);have RL:=LH (RL0.out.k xx2);have R6:=LH (R5.out.keep K6.out);have u0:=(BX1.out.k K6.out).u0;have u1:=(BX1.out.k K6.out).u1;have u2:=(BX1.out.k K6.out).u2;have f0:=(BX1.out.k K6.out).f0;have f1:=(BX1.out.k K6.out).f1;have f2:=(BX1.out.k K6.out).f2;clear xx2)
   |fail)
 have X9:=LH (XC.out.trans XX2.out);have HFI:Hid (yX 1000 13 0):=⟨by omega,by omega⟩;have HFS:Hid (yS (yX 1000) [x,y]):=⟨FX.out,FC.out,trivial⟩;have HQ9:=LH (show q5≤p+7000000 by have:=HQ5.out;have:=HQ3.out;omega);clear e0 e1 e2;go_wp2_with fail;refine bodyPost_ret (v:=.agg #[.int .i64 13,.int .i64 0,.slice (some ⟨v1.heap.size,0,none⟩) 2 2]) (by simp[results,Tryz.results217,go_sem,u0,u1,u2]) rfl (zB hQ ?_);exact xJ (ks:= [x,y]) X9.out R6.out BW.out RL.out HFI.out HFS.out HQ9.out
theorem jk(a:Option Addr)(n c:Nat)(r:Int)(w:World):
  Calls Tryz.prog 177 #[.slice a n c,.int .i64 r] w fun e w'=>e=.returned (.agg #[.slice a n c,.int .i64 r,.int .i64 0,.int .i64 0,.slice none 0 0])∧zQ w w':=by
 refine zV fun Q hQ=>?_;go_in;go_wp2;refine bodyPost_ret (v:=.agg #[.slice a n c,.int .i64 r,.int .i64 0,.int .i64 0,.slice none 0 0]) (by simp[results,Tryz.results177,go_sem]) rfl (zB hQ ⟨rfl,?_⟩);exact(Ext.refl _ w).alloc _
theorem zq.take{w:World}{base:Nat}{D:Nat→Prop}{T:TypeId}{s:Nat}{rows:List (List Dat)}{b n c m:Nat}(h:zq w base D T s (.slice (some ⟨b,0,none⟩) n c) rows)(hm:m≤rows.length):
  zq w base D T s (.slice (some ⟨b,0,none⟩) m c) (rows.take m):=by
 obtain⟨xs,h1,h2,h5⟩:=h;have hl:(rows.take m).length=m:=by rw[List.length_take];omega
 rcases h1.2 with ⟨e,_⟩|⟨g,cap,cur,e,hb,hg,hnc,hmax,hsz,htake⟩
 ·cases e
 ·injection e with e1 e2 e3
  injection e1 with e1
  injection e1 with e1
  subst e1;subst e3;have hms:m*s≤rows.length*s:=Nat.mul_le_mul_right s hm;have hget:∀i,i<m→qC (rows.take m) i=qC rows i:=fun i hi=>by simp[qC,List.getD,hi]
  refine⟨xs.take (m*s),⟨by rw[List.length_take,h1.1,hl];omega,.inr ⟨b,c,cur,by rw[hl],hb,hg,by rw[hl];omega,hmax,hsz,?_⟩⟩,?_,?_⟩
  ·rw[hl,←htake,List.take_take,Nat.min_eq_left hms]
  ·intro i hi
   rw[hl]at hi;rw[hget i hi];exact h2 i (by omega)
  ·intro i j hi hj
   rw[hl]at hi;obtain⟨u,hu,ho⟩:=h5 i j (by omega) hj;refine⟨u,?_,?_⟩
   ·rw[List.getElem?_take,if_pos (qP hi hj)];exact hu
   ·rw[rAt,hget i hi];exact ho
theorem zq.putF{w:World}{base:Nat}{D:Nat→Prop}{T:TypeId}{v:Value}{fs:List zA}{b k:Nat}{f:zA}{up uk:Value}(h:zq w base D T 5 v (fs.map xZ))(hb:v.ownBlock=some b)(hk:k<fs.length)
  (hp:Rd w (fun k=>D k∧k≠b) (zY f.params) up) (hkk:Rd w (fun k=>D k∧k≠b) (zJ f.body.kids) uk):
  zq (((((w.setCell ⟨b,k*5,none⟩ up).setCell ⟨b,k*5+1,none⟩ (.int .i64 f.result)).setCell ⟨b,k*5+2,none⟩ (.int .i64 f.body.op)).setCell ⟨b,k*5+3,none⟩ (.int .i64 f.body.num)).setCell ⟨b,k*5+4,none⟩ uk) base D T 5 v ((fs.set k f).map xZ):=by
 have hl:k<(fs.map xZ).length:=by simpa using hk
 have x0:Ext (fun m=>m=b) w (w.setCell ⟨b,k*5,none⟩ up):=(Ext.refl (fun m=>m=b) w).setCell (p:=⟨b,k*5,none⟩) (.inr rfl) _;have x1:=x0.setCell (p:=⟨b,k*5+1,none⟩) (.inr rfl) (.int .i64 f.result);have x2:=x1.setCell (p:=⟨b,k*5+2,none⟩) (.inr rfl) (.int .i64 f.body.op);have x3:=x2.setCell (p:=⟨b,k*5+3,none⟩) (.inr rfl) (.int .i64 f.body.num);have h1:=h.put (i:=k) (j:=0) (d:=zY f.params) hb hl (by omega) hp;have h2:=h1.put (i:=k) (j:=1) (d:=.num f.result) hb (by rw[qX];exact hl) (by omega) (.num _);have h3:=h2.put (i:=k) (j:=2) (d:=.num f.body.op) hb (by rw[qX,qX];exact hl) (by omega) (.num _);have h4:=h3.put (i:=k) (j:=3) (d:=.num f.body.num) hb (by rw[qX,qX,qX];exact hl) (by omega) (.num _);have h5:=h4.put (i:=k) (j:=4) (d:=zJ f.body.kids) hb (by rw[qX,qX,qX,qX];exact hl) (by omega) (hkk.ext x3 (fun m hm h=>hm.2 h));have e:upd (upd (upd (upd (upd (fs.map xZ) k 0 (zY f.params)) k 1 (.num f.result)) k 2 (.num f.body.op)) k 3 (.num f.body.num)) k 4 (zJ f.body.kids)=(fs.set k f).map xZ:=by
  have r0:=uU fs k hk;simp only[upd];repeat rw[xE (by simpa using hk),if_pos rfl]
  rw[r0];simp[List.map_set,xZ]
 rw[e]at h5;exact h5
theorem Kv(w:World)(b o:Nat)(u0 u1 u2 u3 u4:Value):Ext (fun q=>q=b) w (((((w.setCell ⟨b,o,none⟩ u0).setCell ⟨b,o+1,none⟩ u1).setCell ⟨b,o+2,none⟩ u2).setCell ⟨b,o+3,none⟩ u3).setCell ⟨b,o+4,none⟩ u4):=
 (((((Ext.refl (fun q=>q=b) w).setCell (p:=⟨b,o,none⟩) (.inr rfl) _).setCell (p:=⟨b,o+1,none⟩) (.inr rfl) _).setCell (p:=⟨b,o+2,none⟩) (.inr rfl) _).setCell (p:=⟨b,o+3,none⟩) (.inr rfl) _).setCell (p:=⟨b,o+4,none⟩) (.inr rfl) _
structure Gs(w w':World)(B g:Nat)(ds:List zG)(fs:List zA)(a0:Option Addr)(n0 c0:Nat)(a1:Option Addr)(n1 c1:Nat)(q:Int):Prop where
 p0:PG w g ds fs a0 n0 c0 a1 n1 c1
 r:Rdx w' B g q
 bw:B≤w.heap.size
 bx:Bx w' w.heap.size (.slice a0 n0 c0) (.slice a1 n1 c1)
 x:Ext (·=g) w w'
section
variable {w w' w2:World}{B g:Nat}{ds:List zG}{fs:List zA}{a0:Option Addr}{n0 c0:Nat}{a1:Option Addr}{n1 c1:Nat}{q q':Int}
theorem Gs.start(hpg:PG w g ds fs a0 n0 c0 a1 n1 c1)(hr:Rdx w B g q)(hB:B≤w.heap.size):Gs w ((w.alloc (.cells #[.slice a0 n0 c0,.slice a1 n1 c1] 44)).alloc (.cells #[.int .i64 0,.int .i64 0,.slice none 0 0] 58)) B g ds fs a0 n0 c0 a1 n1 c1 q:=by
 have K1:=(zQ.al w (.cells #[.slice a0 n0 c0,.slice a1 n1 c1] 44)).trans (zQ.al _ (.cells #[.int .i64 0,.int .i64 0,.slice none 0 0] 58));exact⟨hpg,hr.keep K1,hB,Bx.born w _ _,zQ.to K1⟩
theorem Gs.p(h:Gs w w' B g ds fs a0 n0 c0 a1 n1 c1 q):PG w' g ds fs a0 n0 c0 a1 n1 c1:=h.p0.ext h.x
theorem Gs.gw(h:Gs w w' B g ds fs a0 n0 c0 a1 n1 c1 q):g<w.heap.size:=Nat.lt_of_lt_of_le h.r.gB h.bw
theorem Gs.b(h:Gs w w' B g ds fs a0 n0 c0 a1 n1 c1 q):B≤w'.heap.size:=Nat.le_trans h.bw h.x.size
theorem Gs.lt(h:Gs w w' B g ds fs a0 n0 c0 a1 n1 c1 q):w.heap.size+2≤w'.heap.size:=h.bx.lt
theorem Gs.k(h:Gs w w' B g ds fs a0 n0 c0 a1 n1 c1 q)(K:zQ w' w2):Gs w w2 B g ds fs a0 n0 c0 a1 n1 c1 q:=⟨h.p0,h.r.keep K,h.bw,h.bx.k K,h.x.trans (zQ.to K)⟩
theorem Gs.c(h:Gs w w' B g ds fs a0 n0 c0 a1 n1 c1 q)(X:Ext (·=g) w' w2)(r:Rdx w2 B g q'):Gs w w2 B g ds fs a0 n0 c0 a1 n1 c1 q':=⟨h.p0,r,h.bw,h.bx.ext X h.gw,h.x.trans X⟩
theorem Gs.e{S:Nat→Prop}(h:Gs w w' B g ds fs a0 n0 c0 a1 n1 c1 q)(X:Ext S w' w2)(hs:∀k,S k→w.heap.size+2≤k):Gs w w2 B g ds fs a0 n0 c0 a1 n1 c1 q:=
 ⟨h.p0,h.r.ext X (fun k hk e=>by have:=h.bw;have:=hs k e;omega),h.bw,h.bx.extS X (fun e=>by have:=hs _ e;omega) (fun e=>by have:=hs _ e;omega),h.x.then_ X (fun k hk e=>by have:=hs k e;omega)⟩
theorem Gs.dr(h:Gs w w' B g ds fs a0 n0 c0 a1 n1 c1 q):Gs w w'.drew B g ds fs a0 n0 c0 a1 n1 c1 q:=h.k (kD w')
theorem Gs.fin{p N K op num:Int}{ks:List zK}{a:Option Addr}{n c:Nat}(h:Gs w w' B g ds fs a0 n0 c0 a1 n1 c1 q)(rd:Rd w' (fun k=>w.heap.size+2≤k) (zJ ks) (.slice a n c))(hf:yX K op num)(hfs:yS (yX K) ks)(hq:q≤p+N):
  Q4 B g p N K w (.returned (.agg #[.int .i64 op,.int .i64 num,.slice a n c])) (((w'.setCell ⟨w.heap.size+1,0,none⟩ (.int .i64 op)).setCell ⟨w.heap.size+1,1,none⟩ (.int .i64 num)).setCell ⟨w.heap.size+1,2,none⟩ (.slice a n c)):=xJ h.x h.r h.bw rd hf hfs hq
end
theorem zq.leafs{w:World}{base:Nat}{D D':Nat→Prop}{T:TypeId}{v:Value}{es:List zK}(h:zq w base D T 3 v (es.map yC))(hk:∀x,x∈es→x.kids= []):zq w base D' T 3 v (es.map yC):=by
 obtain⟨xs,h1,h2,h5⟩:=h;refine⟨xs,h1,h2,fun i j hi hj=>?_⟩;obtain⟨u,hu,ho⟩:=h5 i j hi hj;refine⟨u,hu,?_⟩;have hi':i<es.length:=by simpa using hi
 have e:qC (es.map yC) i=yC es[i]:=uH _ _ _ hi';rw[rAt,e,jM,hk es[i] (List.getElem_mem _)]at ho ⊢;rcases(show j=0∨j=1∨j=2 by omega)with rfl|rfl|rfl
 ·have:=ho.num_inv;subst this;exact .num _
 ·have:=ho.num_inv;subst this;exact .num _
 ·obtain⟨a,c,e2,_⟩:=ho.arr_inv;subst e2;exact .nil _ _ _
theorem zq.leafs'{w:World}{base:Nat}{D D':Nat→Prop}{T:TypeId}{v:Value}{rows:List (List Dat)}{es:List zK}(h:zq w base D T 3 v rows)(e:es.map yC=rows)(hk:∀x,x∈es→x.kids= []):zq w base D' T 3 v (es.map yC):=by
 subst e;exact h.leafs hk
theorem UN{P:Int→Int→Prop}:∀ {es:List zK},(∀x,x∈es→yL P x)→yS P es
 | [],_=>trivial
 |x::_,h=>⟨h x (List.mem_cons_self ..),UN (fun y hy=>h y (List.mem_cons_of_mem _ hy))⟩
theorem zq.extO{S D:Nat→Prop}{w w':World}{v:Value}{base:Nat}{T:TypeId}{s:Nat}{rows:List (List Dat)}(h:zq w base D T s v rows)(hx:Ext S w w')(hs:∀k,D k→¬S k)(ho:∀k,v.ownBlock=some k→¬S k):zq w' base D T s v rows:=by
 obtain⟨xs,h1,h2,h5⟩:=h;refine⟨xs,⟨h1.1,?_⟩,h2,fun i j hi hj=>?_⟩
 ·rcases h1.2 with h|⟨g,cap,cur,e,hb,hg,rest⟩
  ·exact .inl h
  ·have hlt:g<w.heap.size:=(Array.getElem?_eq_some_iff.1 hg).1
   exact .inr ⟨g,cap,cur,e,hb,(hx.block g hlt (ho g (by rw[e];rfl))).trans hg,rest⟩
 ·obtain⟨u,hu,ho⟩:=h5 i j hi hj
  exact⟨u,hu,(ho.ext hx (fun k hk=>hs k hk.1)).mono (fun k hk=>⟨hk.1,hk.2.1,Nat.lt_of_lt_of_le hk.2.2 hx.size⟩)⟩
theorem uz{P:Program}(w:World){ops:Array Oper}{rest:List Oper}{o:Oper}{a:Act}{Q:Exit→Act→World→Prop}(hgd:o.guard=none)(s x:Operand)(t:TypeId)
  (ho:o.op=.call {callee:=.builtin .append,args:= #[s,x],argTypes:= #[t,t]})
  (base:Nat) (e:TypeId) (z:Value) (size bytes:Nat) (ht:P.underlying t=some (.slice e)) (hinfo:(P.info? e).map (fun i=>(i.zero,i.size,i.bytes))=some (some z,size,bytes))
  (hzs:z.cells.size=size) (hsz:0<size)
  (D:Nat→Prop) (v:Value) (rows:List (List Dat)) (hs:a.eval s=v) (hacc:zq w base D e size v rows)
  (A:Option Addr) (m c:Nat) (rs:List (List Dat)) (D2:Nat→Prop) (hx:a.eval x=.slice A m c) (hr:Rd w D2 (.arr size rs) (.slice A m c)) (hD2:∀k,k<w.heap.size→D2 k→D k∧v.ownBlock≠some k)
  (hbytes:(rows.length+m)*bytes≤140737488355328) (h63:rows.length+m≤9223372036854775807) (hbase:base≤w.heap.size)
  (h:∀v' w',zq w' base D e size v' (rows++rs)→Ext (fun k=>v.ownBlock=some k) w w'→(v'.ownBlock=v.ownBlock∨v'.ownBlock=some w.heap.size)→wpList P ops Q rest (a.put o.dst v') w'):wpList P ops Q (o::rest) a w:=by
 have hr':=hr.lt;obtain⟨news,n1,n2,n3,n4⟩:=hr'.holds hsz;have hm:m=rs.length:=by obtain⟨a',c',e,_⟩:=hr.arr_inv;injection e
 obtain⟨xs,h1,_,_⟩:=id hacc;refine gA w hgd s x t ho base e z size bytes ht hinfo hzs hsz v rows.length xs hs h1 A m c news hx n1 n2 hbytes h63 hbase (fun v' w' q1 q2 q3=>?_);refine h v' w' ?_ ⟨q2.os,q2.tape,q2.output,q2.size,fun k hk hn=>q2.block k hk (fun e=>hn e.symm)⟩ q3;refine hacc.push (rs:=rs) (news:=news) n3 (fun i j hi hj=>?_) (fun xs' hxs'=>?_) q2 q3
 ·obtain⟨u,hu,hu2⟩:=n4 i j hi hj
  exact⟨u,hu,hu2.mono (fun k hk=>hD2 k hk.2 hk.1)⟩
 ·have:xs'=xs:=by
   rcases hxs'.2 with ⟨e1,e2⟩|⟨g,cap,cur,e1,_,hg,_,_,_,htake⟩
   ·have l1:=hxs'.1
    have l2:=h1.1;rw[e2,Nat.zero_mul]at l1 l2;rw[List.eq_nil_of_length_eq_zero l1,List.eq_nil_of_length_eq_zero l2]
   ·rcases h1.2 with ⟨f1,f2⟩|⟨g',cap',cur',f1,_,hg',_,_,_,htake'⟩
    ·have l1:=hxs'.1
     have l2:=h1.1;rw[f2,Nat.zero_mul]at l1 l2;rw[List.eq_nil_of_length_eq_zero l1,List.eq_nil_of_length_eq_zero l2]
    ·rw[e1]at f1
     injection f1 with f1
     injection f1 with f1
     injection f1 with f1
     subst f1;rw[hg]at hg';injection hg' with hg'
     injection hg' with hg'
     rw[←htake,←htake',hg']
  subst this;rw[←hm];exact q1
end Go.Proofs.YtkapldpmjkdmcaaGreat
