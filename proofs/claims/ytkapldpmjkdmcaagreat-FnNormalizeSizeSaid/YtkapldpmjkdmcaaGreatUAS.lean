/- The generator of programs: spoilProgram, anyProgram. -/
import Derived.Test.YtkapldpmjkdmcaaGreatUAQ
import Derived.Test.YtkapldpmjkdmcaaGreatUAR
import Derived.Test.YtkapldpmjkdmcaaGreatUAA
import Derived.ChangeOld
import Derived.ShutString
namespace Go.Proofs.YtkapldpmjkdmcaaGreat
open Go.RowKit
set_option maxRecDepth 100000
set_option maxHeartbeats 8000000
def BM(fs:List zA):Prop:=∀i,i<fs.length→yL Q5 (fAt fs i).body
structure Fx(w:World)(s:Nat)(v0 v1 v2 v3 v4:Value):Prop where
 p:w.rowIs s 60 5 (fun i=> #[v0,v1,v2,v3,v4].getD i undef)
section
variable {w w':World}{s:Nat}{v0 v1 v2 v3 v4:Value}
theorem Fx.born(w:World)(v0 v1 v2 v3 v4:Value):Fx (w.alloc (.cells #[v0,v1,v2,v3,v4] 60)) w.heap.size v0 v1 v2 v3 v4:=⟨zP w #[v0,v1,v2,v3,v4] 60⟩
theorem Fx.k(h:Fx w s v0 v1 v2 v3 v4)(hx:zQ w w'):Fx w' s v0 v1 v2 v3 v4:=⟨rwk h.p hx⟩
theorem Fx.e{S:Nat→Prop}(h:Fx w s v0 v1 v2 v3 v4)(hx:Ext S w w')(hs:¬S s):Fx w' s v0 v1 v2 v3 v4:=⟨zX h.p hx hs⟩
theorem Fx.c0(h:Fx w s v0 v1 v2 v3 v4):w.cell? ⟨s,0,none⟩=some v0:=h.p.cell (i:=0) (by omega)
theorem Fx.c1(h:Fx w s v0 v1 v2 v3 v4):w.cell? ⟨s,1,none⟩=some v1:=h.p.cell (i:=1) (by omega)
theorem Fx.c2(h:Fx w s v0 v1 v2 v3 v4):w.cell? ⟨s,2,none⟩=some v2:=h.p.cell (i:=2) (by omega)
theorem Fx.c3(h:Fx w s v0 v1 v2 v3 v4):w.cell? ⟨s,3,none⟩=some v3:=h.p.cell (i:=3) (by omega)
theorem Fx.c4(h:Fx w s v0 v1 v2 v3 v4):w.cell? ⟨s,4,none⟩=some v4:=h.p.cell (i:=4) (by omega)
theorem Fx.lt(h:Fx w s v0 v1 v2 v3 v4):s<w.heap.size:=h.p.lt
end
structure Ss(lo:Nat)(w w':World)(B g:Nat)(ds:List zG)(fs:List zA)(a0:Option Addr)(n0 c0 sF n c:Nat)(q:Int):Prop where
 r:Rdx w' B g q
 f:zq w' sF (fun m=>lo≤m∧m≠w.heap.size∧m≠w.heap.size+1) 60 5 (.slice (some ⟨sF,0,none⟩) n c) (fs.map xZ)
 d:Rd w' (fun m=>(lo≤m∧m≠w.heap.size∧m≠w.heap.size+1)∧m≠sF) (z5 ds) (.slice a0 n0 c0)
 s:lo≤sF
 b3:Px w' w.heap.size (.slice a0 n0 c0) (.slice (some ⟨sF,0,none⟩) n c)
 b4:Px w' (w.heap.size+1) (.slice none 0 0) (.slice none 0 0)
 x:Ext (·=g) w w'
 hg:g<lo∧lo≤w.heap.size
theorem zq.ltD{w:World}{base:Nat}{D:Nat→Prop}{T:TypeId}{s:Nat}{v:Value}{rows:List (List Dat)}(h:zq w base D T s v rows):zq w base (fun k=>D k∧k<w.heap.size) T s v rows:=by
 obtain⟨xs,h1,h2,h5⟩:=h;exact⟨xs,h1,h2,fun i j hi hj=>by obtain⟨u,hu,ho⟩:=h5 i j hi hj;exact⟨u,hu,ho.mono (fun k hk=>⟨⟨hk.1,hk.2.2⟩,hk.2⟩)⟩⟩
theorem zq.readO{w:World}{base:Nat}{D:Nat→Prop}{T:TypeId}{s:Nat}{v:Value}{rows:List (List Dat)}(h:zq w base D T s v rows)(hs0:0<s):∃a c,v=.slice a rows.length c∧rows.length≤c∧Rd w (fun k=>D k∨v.ownBlock=some k) (.arr s rows) v:=by
 obtain⟨xs,h1,h2,h5⟩:=h;rcases h1.2 with ⟨e,h0⟩|⟨g,cap,cur,e,hb,hg,hnc,hmax,hsz,htake⟩
 ·have:rows= []:=List.eq_nil_of_length_eq_zero h0
  subst this;subst e;exact⟨none,0,rfl,Nat.le_refl _,.nil _ _ _⟩
 ·subst e
  have hm:rows.length≤9223372036854775807:=by simp only[maxLen]at hmax;omega
  refine⟨_,cap,rfl,hnc,?_⟩;rcases Nat.eq_zero_or_pos rows.length with h0|h0
  ·have:rows= []:=List.eq_nil_of_length_eq_zero h0
   subst this;exact .nil _ _ _
  refine .arr s rows g 0 cap (fun i j=>xs.getD (i*s+j) undef) (.inr rfl) h0 hs0 hnc hm h2 (fun i j hi hj=>?_) (fun i j hi hj=>?_)
  ·obtain⟨u,hu,ho⟩:=h5 i j hi hj
   have:=h1.cells (g:=g) rfl (i*s+j) u hu;rw[Addr.add_lit]at this;rw[Nat.add_assoc,this];simp[List.getD,hu]
  ·obtain⟨u,hu,ho⟩:=h5 i j hi hj
   have:xs.getD (i*s+j) undef=u:=by simp[List.getD,hu]
   show Rd w _ _ (xs.getD (i*s+j) undef);rw[this];exact ho.mono (fun k hk=>.inl hk.1)
section
variable {lo:Nat}{w w' w2:World}{B g:Nat}{ds:List zG}{fs:List zA}{a0:Option Addr}{n0 c0 sF n cc:Nat}{q q':Int}
theorem Ss.lt(h:Ss lo w w' B g ds fs a0 n0 c0 sF n cc q):w.heap.size+2≤w'.heap.size:=by have:=h.b4.lt;omega
theorem Ss.k(h:Ss lo w w' B g ds fs a0 n0 c0 sF n cc q)(K:zQ w' w2):Ss lo w w2 B g ds fs a0 n0 c0 sF n cc q:=⟨h.r.keep K,h.f.keep K,h.d.k K,h.s,h.b3.k K,h.b4.k K,h.x.trans (zQ.to K),h.hg⟩
theorem Ss.c(h:Ss lo w w' B g ds fs a0 n0 c0 sF n cc q)(X:Ext (·=g) w' w2)(r:Rdx w2 B g q'):Ss lo w w2 B g ds fs a0 n0 c0 sF n cc q':=
 ⟨r,h.f.ext X (fun k _ hk e=>by have h1:=h.s;have h2:k=g:=e;have:=h.hg;rcases hk with h|h<;>omega),h.d.ext X (fun k hk e=>by have h2:k=g:=e;have:=h.hg;omega),h.s,h.b3.ext X (by have:=h.hg;omega),h.b4.ext X (by have:=h.hg;omega),h.x.trans X,h.hg⟩
end
theorem zq.rdT{w:World}{base:Nat}{D:Nat→Prop}{T:TypeId}{fs:List zA}{a:Option Addr}{n c:Nat}(h:zq w base D T 5 (.slice a n c) (fs.map xZ)):Rd w (fun k=>D k∨(Value.slice a n c).ownBlock=some k) (qW fs) (.slice a n c):=by
 obtain⟨_,_,_,_,rd⟩:=h.readO (by omega);exact rd
mutual
theorem U4{K:Int}:∀ {e:zK},yL (yX K) e→K≤1000000→yL Q5 e
 | .mk _ _ _=>fun h hk=>⟨⟨by have:=h.1.1;omega,by have:=h.1.2;omega⟩,V7 h.2 hk⟩
theorem V7{K:Int}:∀ {es:List zK},yS (yX K) es→K≤1000000→yS Q5 es
 | []=>fun _ _=>trivial
 |_::_=>fun h hk=>⟨U4 h.1 hk,V7 h.2 hk⟩
end
def BV(lo B g:Nat)(p N:Int)(S:Nat→Prop)(w:World)(e:Ending)(w':World):Prop:=∃(ds:List zG) (fs:List zA) (a0:Option Addr) (n0 c0:Nat) (a1:Option Addr) (n1 c1:Nat) (q:Int),
 e=.returned (.agg #[.slice a0 n0 c0,.slice a1 n1 c1])∧Rd w' (fun k=>lo≤k) (z5 ds) (.slice a0 n0 c0)∧Rd w' (fun k=>lo≤k) (qW fs) (.slice a1 n1 c1)∧BM fs∧Rdx w' B g q∧q≤p+N∧Ext (fun k=>k=g∨S k) w w'
theorem gR{lo:Nat}{w wz:World}{B g:Nat}{ds:List zG}{fs:List zA}{a0:Option Addr}{n0 c0:Nat}{a1:Option Addr}{n1 c1 sF:Nat}{p q:Int}{D1 D2:Nat→Prop}{v0 v1:Value}(h1:Rd wz D1 (qW fs) (.slice a1 n1 c1))(h2:Rd wz D2 (z5 ds) (.slice a0 n0 c0))(_P4:Px wz (w.heap.size+1) v0 v1)(hr:Rdx wz B g q)(hq:q≤p+20000)(X:Ext (fun k=>k=g∨k=sF) w wz)(hf:BM fs)(hB:B≤lo)(hl:lo≤w.heap.size)(_hs:sF<w.heap.size)
  (hD1:∀k,D1 k→lo≤k∧k≠w.heap.size+1) (hD2:∀k,D2 k→lo≤k∧k≠w.heap.size+1):
  BV lo B g p 20000 (·=sF) w (.returned (.agg #[.slice a0 n0 c0,.slice a1 n1 c1])) ((wz.setCell ⟨w.heap.size+1,0,none⟩ (.slice a0 n0 c0)).setCell ⟨w.heap.size+1,1,none⟩ (.slice a1 n1 c1)):=by
 have Y:=(J8 wz (w.heap.size+1) 0 (.slice a0 n0 c0)).trans (J8 _ (w.heap.size+1) 1 (.slice a1 n1 c1));exact⟨ds,fs,a0,n0,c0,a1,n1,c1,q,rfl,(h2.ext Y (fun k hk e=>(hD2 k hk).2 e)).mono (fun k hk=>(hD2 k hk).1),(h1.ext Y (fun k hk e=>(hD1 k hk).2 e)).mono (fun k hk=>(hD1 k hk).1),hf,hr.ext Y (fun k hk e=>by omega),hq,X.then_ Y (fun k hk e=>by omega)⟩
theorem EV(lo B g:Nat)(p:Int)(ds:List zG)(fs:List zA)(a0:Option Addr)(n0 c0 sF n c:Nat)(w:World)(hGP:MG ds fs)(hO:PJ lo w ds fs a0 n0 c0 sF n c)(hgl:g<lo)(hlo:lo≤w.heap.size)(hr:Rdx w B g p)(hBl:B≤lo)(hp:p≤700000000000):
  Calls Tryz.prog 120 #[.pointer (some ⟨g,0,none⟩),.agg #[.slice a0 n0 c0,(.slice (some ⟨sF,0,none⟩) n c)]] w (BV lo B g p 20000 (·=sF) w):=by
 refine zV fun Q hQ=>?_;have HPP:=LH hp;have hBw:B≤w.heap.size:=Nat.le_trans hBl hlo;have hsw:sF<w.heap.size:=(hO.f.bound sF rfl).2;have hsl:=hO.s;have HGB:=LH hGP.body;have HSG:=LH hGP.g;have FB:Hid (∀i,i<fs.length→yL Q5 (fAt fs i).body):=fun i hi=>U4 (hGP.body i hi).1 (by omega);have hlen:n=fs.length∧n≤c:=by obtain⟨_,_,_,_,_,_,_,_,_,_,_,_,_,_,e,h⟩:=QT hO.f (k:=0) (by have:=hGP.two;omega);exact⟨e,h⟩
 have HLN:Hid (n=fs.length):=hlen.1;have hn2:2≤n:=by have:=hGP.two;omega
 have hn4:n≤4:=by have:=hGP.g.len;omega
 have hnc:=hlen.2;have K1:=(zQ.al w (.cells #[.slice a0 n0 c0,(.slice (some ⟨sF,0,none⟩) n c)] 44)).trans (zQ.al _ (.cells #[.slice none 0 0,.slice none 0 0] 44));have B4:=Px.born (w.alloc (.cells #[.slice a0 n0 c0,(.slice (some ⟨sF,0,none⟩) n c)] 44)) (.slice none 0 0) (.slice none 0 0);rw[World.size_alloc]at B4;have GS:Hid (Ss lo w ((w.alloc (.cells #[.slice a0 n0 c0,(.slice (some ⟨sF,0,none⟩) n c)] 44)).alloc (.cells #[.slice none 0 0,.slice none 0 0] 44)) B g ds fs a0 n0 c0 sF n c p):=
  ⟨hr.keep K1,(hO.f.ltD.mono (fun k hk=>by omega)).keep K1,(hO.d.lt.mono (fun k hk=>by omega)).k K1,hO.s,(Px.born w _ _).k (zQ.al _ _),B4,zQ.to K1,hgl,hlo⟩
 have hgw:g<w.heap.size:=by omega
 have hwg:w.heap.size≠g:=by omega
 have hwF:w.heap.size≠sF:=by omega
 clear hGP hO hr hp K1 B4 hlen;go_in;go_upto_region 1 with fail;generalize hW:(w.alloc (.cells #[.slice a0 n0 c0,(.slice (some ⟨sF,0,none⟩) n c)] 44)).alloc (.cells #[.slice none 0 0,.slice none 0 0] 44)=wq at*;clear hW;have x1:=GS.out.b3.x1;go_wp2_with fail;refine(jD B g p n wq GS.out.r (by have:=HPP.out;omega) (by omega)).mono ?_;rintro e w5 ⟨v,rfl,hv,_,r5,x5⟩;obtain⟨hv0,hv1⟩:=hv (by omega);obtain⟨k,rfl⟩:=Int.eq_ofNat_of_zero_le hv0;have hkn:k<n:=by omega
 have kk0:(0:Int)≤(k:Int):=by omega
 have kk1:(k:Int)<(n:Int):=by omega
 have HKF:=LH (show k<fs.length by have:=HLN.out;omega);replace GS:=LH (GS.out.c x5 r5);clear hv r5 x5 x1 hv0 hv1;have x1:=GS.out.b3.x1;obtain⟨ap,np,cp,ab,nb,cb,z0,z1,z2,z3,z4,rp,rk, -, -, -⟩:=QT GS.out.f HKF.out;have RPP:=LH rp;have RKK:=LH rk;have hnp:np≤1000:=by have h1:=(HSG.out.sig HKF.out).1;have h2:=(zN rp).1;omega
 clear rp rk;go_upto_region 3 with fail;have HG5:=GS.out.lt;have KF:=zQ.al w5 (.cells #[.slice ap np cp,.int .i64 (fAt fs k).result,.int .i64 (fAt fs k).body.op,.int .i64 (fAt fs k).body.num,.slice ab nb cb] 60);have E6:=LH (Fx.born w5 (.slice ap np cp) (.int .i64 (fAt fs k).result) (.int .i64 (fAt fs k).body.op) (.int .i64 (fAt fs k).body.num) (.slice ab nb cb));replace GS:=LH (GS.out.k KF);replace RPP:=LH (RPP.out.k KF);replace RKK:=LH (RKK.out.k KF);have h6l:w.heap.size+2≤w5.heap.size:=HG5;generalize hW:w5.alloc (.cells #[.slice ap np cp,.int .i64 (fAt fs k).result,.int .i64 (fAt fs k).body.op,.int .i64 (fAt fs k).body.num,.slice ab nb cb] 60)=w6 at*;clear hW x1 z0 z1 z2 z3 z4 KF;generalize hS:w5.heap.size=s6 at*;clear hS;go_wp2_with fail;refine(jD B g _ 24 w6 GS.out.r (by have:=HPP.out;omega) (by omega)).mono ?_;rintro e wq ⟨v,rfl,hv,_,r5,x5⟩;obtain⟨hv0,hv1⟩:=hv (by omega);have h6g:s6≠g:=by omega
 have h6F:s6≠sF:=by omega
 replace GS:=LH (GS.out.c x5 r5);replace RPP:=LH (RPP.out.ext x5 (fun k hk=>by omega));replace RKK:=LH (RKK.out.ext x5 (fun k hk=>by omega));replace E6:=LH (E6.out.e x5 h6g);obtain⟨q,hq0⟩:∃q,q=p+1+1:=⟨_,rfl⟩;rw[←hq0]at GS;have hq:=LH (show q≤p+2 by omega);clear hv r5 x5 hq0;by_cases hv0c:v=0
 ·subst hv0c
  go_upto_region 5 with fail;have KD:zQ wq wq.drew:=(kD wq);replace GS:=LH (GS.out.k KD);replace RPP:=LH (RPP.out.k KD);replace RKK:=LH (RKK.out.k KD);replace E6:=LH (E6.out.k KD);have RKB:=RKK;clear KD;have x1:wq.drew.cell? ⟨w.heap.size,1,none⟩=some (.slice (some ⟨sF,0,none⟩) n c):=GS.out.b3.x1;have e0:wq.drew.cell? ⟨s6,0,none⟩=some (.slice ap np cp):=E6.out.c0;have e1:wq.drew.cell? ⟨s6,1,none⟩=some (.int .i64 (fAt fs k).result):=E6.out.c1;have e2:wq.drew.cell? ⟨s6,2,none⟩=some (.int .i64 (fAt fs k).body.op):=E6.out.c2;have e3:wq.drew.cell? ⟨s6,3,none⟩=some (.int .i64 (fAt fs k).body.num):=E6.out.c3;have e4:wq.drew.cell? ⟨s6,4,none⟩=some (.slice ab nb cb):=E6.out.c4;refine wp_region_held_drew (S:=fun w'=>w'.cell? ⟨w.heap.size,1,none⟩=some (.slice (some ⟨sF,0,none⟩) n c)∧w'.cell? ⟨s6,0,none⟩=some (.slice ap np cp)∧w'.cell? ⟨s6,1,none⟩=some (.int .i64 (fAt fs k).result)∧w'.cell? ⟨s6,2,none⟩=some (.int .i64 (fAt fs k).body.op)∧w'.cell? ⟨s6,3,none⟩=some (.int .i64 (fAt fs k).body.num)∧w'.cell? ⟨s6,4,none⟩=some (.slice ab nb cb)) (by kernel_rfl) ⟨x1,e0,e1,e2,e3,e4⟩ (fun hHeld=>?_);have pc:Hid (Ext (·=g) wq.drew wq.drew):=Ext.refl _ _;generalize wq.drew=W0 at*;refine wT 0 hHeld ?_;try go_frame
  refine wT 1 hHeld ?_;try go_frame
  refine wT 2 hHeld ?_;try go_frame
  refine wT 3 hHeld ?_;try go_frame
  refine wT 4 hHeld ?_;try go_frame
  refine wT 5 hHeld ?_;try go_frame
  refine wT 6 hHeld ?_;try go_frame
  refine wT 7 hHeld ?_;try go_frame
  refine wT 8 hHeld ?_;try go_frame
  refine wT 9 hHeld ?_;try go_frame
  refine wO 10 (fun K hK=>?_);go_simp;go_at_call 174;refine(LM B g 1000 (by omega) (fAt fs k).body (by have:=(HGB.out k HKF.out).2;omega) ab nb cb (fun m=>(lo≤m∧m≠w.heap.size∧m≠w.heap.size+1)∧m≠sF) q W0 (fun m hm=>by omega) (HGB.out k HKF.out).1 RKB.out GS.out.r (Nat.le_trans hBw GS.out.x.size) (by have h1:=HPP.out;have h2:=(HGB.out k HKF.out).2;have h3:=hq.out;omega)).mono ?_;rintro e y1 ⟨x,ax,nx,cx,q6,rfl,rx,fx,sx,r6,hq6,xi⟩;have hws:=pc.out.size;have hlt:=GS.out.lt;replace pc:=LH (pc.out.trans xi);replace RPP:=LH (RPP.out.ext xi (fun k hk=>by omega));replace GS:=LH (GS.out.c xi r6);have FX:Hid (yL Q5 x):=U4 fx (by omega);have RX:=LH (rx.mono (D':=fun m=>(lo≤m∧m≠w.heap.size∧m≠w.heap.size+1)∧m≠sF) (fun m hm=>by rcases hm with h|h<;>omega));have HQZ:=LH (show q6≤p+20000 by have h2:=(HGB.out k HKF.out).2;have h3:=hq.out;omega);clear rx fx sx r6 hq6 xi hws hlt;refine hK.out _ _ ⟨pc.out.at x1 hwg,pc.out.at e0 h6g,pc.out.at e1 h6g,pc.out.at e2 h6g,pc.out.at e3 h6g,pc.out.at e4 h6g⟩ (fun hHeld=>?_);clear hK K;try go_frame
  refine wT 11 hHeld ?_;try go_frame
  refine wT 12 hHeld ?_;try go_frame
  refine wO 13 (fun K hK=>?_);obtain⟨_,_,_,_,_,_,z0,z1,z2,z3,z4, -, -,hfz, -, -⟩:=QT GS.out.f HKF.out;have f0:=hfz (k*5);have f1:=hfz (k*5+1);have f2:=hfz (k*5+2);have f3:=hfz (k*5+3);have f4:=hfz (k*5+4);clear hfz;go_simp;clear z0 z1 z2 z3 z4 f0 f1 f2 f3 f4;refine hK.out _ _ ⟨yq (pc.out.at x1 hwg) hwF,yq (pc.out.at e0 h6g) h6F,yq (pc.out.at e1 h6g) h6F,yq (pc.out.at e2 h6g) h6F,yq (pc.out.at e3 h6g) h6F,yq (pc.out.at e4 h6g) h6F⟩ (fun hHeld=>?_);clear hK K;try go_frame
  refine wpAnyH_done (by kernel_rfl) ?_ _;have Y:=Kv y1 sF (k*5) (.slice ap np cp) (.int .i64 (fAt fs k).result) (.int .i64 x.op) (.int .i64 x.num) (.slice ax nx cx);have A9:=LH (GS.out.f.putF (k:=k) (f:=⟨(fAt fs k).params,(fAt fs k).result,x⟩) rfl HKF.out RPP.out RX.out);have D9:=LH (GS.out.d.ext Y (fun k hk h=>hk.2 h));have HOS:=GS.out.s;have P3:=LH (GS.out.b3.e Y (by omega));have P4:=LH (GS.out.b4.e Y (by omega));have R9:=LH (GS.out.r.ext Y (fun k hk h=>by omega));have X9:=LH ((GS.out.x.mono (S':=fun k=>k=g∨k=sF) (fun k _ h=>.inl h)).trans (Y.mono (fun k _ h=>.inr h)));have FP:Hid (BM (fs.set k ⟨(fAt fs k).params,(fAt fs k).result,x⟩)):=by
   intro i hi;rw[Jq HKF.out];by_cases h:i=k
   ·rw[if_pos h];exact FX.out
   ·rw[if_neg h];exact(FB.out i (by simpa using hi))
  have HQ9:Hid (_≤p+20000):=HQZ.out;have y0:=P3.out.x0;have y1:=P3.out.x1;have u0:=P4.out.x0;have u1:=P4.out.x1;have g0:=P4.out.f0;have g1:=P4.out.f1;go_wp2_with fail;refine bodyPost_ret (v:=.agg #[.slice a0 n0 c0,(.slice (some ⟨sF,0,none⟩) n c)]) (by simp[results,Tryz.results120,go_sem,u0,u1]) rfl (zB hQ ?_);exact gR A9.out.rdT D9.out P4.out R9.out HQ9.out X9.out FP.out hBl hlo hsw (fun m hm=>by rcases hm with h|h;omega;have:=Option.some.inj h;change sF=m at this;omega) (fun m hm=>by omega)
 have t0:(v==0)=false:=by rw[beq_eq_false_iff_ne];exact hv0c
 by_cases hv1c:v=1
 ·subst hv1c
  go_upto_region 7 with fail;have KD:zQ wq wq.drew:=(kD wq);replace GS:=LH (GS.out.k KD);replace RPP:=LH (RPP.out.k KD);replace RKK:=LH (RKK.out.k KD);replace E6:=LH (E6.out.k KD);have RKB:=RKK;clear KD;have x1:wq.drew.cell? ⟨w.heap.size,1,none⟩=some (.slice (some ⟨sF,0,none⟩) n c):=GS.out.b3.x1;have e0:wq.drew.cell? ⟨s6,0,none⟩=some (.slice ap np cp):=E6.out.c0;have e1:wq.drew.cell? ⟨s6,1,none⟩=some (.int .i64 (fAt fs k).result):=E6.out.c1;have e2:wq.drew.cell? ⟨s6,2,none⟩=some (.int .i64 (fAt fs k).body.op):=E6.out.c2;have e3:wq.drew.cell? ⟨s6,3,none⟩=some (.int .i64 (fAt fs k).body.num):=E6.out.c3;have e4:wq.drew.cell? ⟨s6,4,none⟩=some (.slice ab nb cb):=E6.out.c4;refine wp_region_held_drew (S:=fun w'=>w'.cell? ⟨w.heap.size,1,none⟩=some (.slice (some ⟨sF,0,none⟩) n c)∧w'.cell? ⟨s6,0,none⟩=some (.slice ap np cp)∧w'.cell? ⟨s6,1,none⟩=some (.int .i64 (fAt fs k).result)∧w'.cell? ⟨s6,2,none⟩=some (.int .i64 (fAt fs k).body.op)∧w'.cell? ⟨s6,3,none⟩=some (.int .i64 (fAt fs k).body.num)∧w'.cell? ⟨s6,4,none⟩=some (.slice ab nb cb)) (by kernel_rfl) ⟨x1,e0,e1,e2,e3,e4⟩ (fun hHeld=>?_);have pc:Hid (Ext (·=g) wq.drew wq.drew):=Ext.refl _ _;generalize wq.drew=W0 at*;refine wT 0 hHeld ?_;try go_frame
  refine wT 1 hHeld ?_;try go_frame
  refine wT 2 hHeld ?_;try go_frame
  refine wT 3 hHeld ?_;try go_frame
  refine wT 4 hHeld ?_;try go_frame
  refine wT 5 hHeld ?_;try go_frame
  refine wT 10 hHeld ?_;try go_frame
  refine wT 11 hHeld ?_;try go_frame
  refine wT 12 hHeld ?_;try go_frame
  refine wT 13 hHeld ?_;try go_frame
  refine wO 6 (fun K hK=>?_);go_simp;obtain⟨sy1,y1,hsy1,hW,kk,hzy1,hisy1⟩:=SM W0 (.cells #[.int .i64 0,.int .i64 1,.int .i64 9,.int .i64 (-1)] 3);rw[←hsy1,←hW];have hws:=pc.out.size;have hlt:=GS.out.lt;have TY:Hid (Rd y1 (fun k=>k≠g) (zY [0,1,9, -1]) (.slice (some ⟨sy1,0,none⟩) 4 4)):=by
   rw[hW,hsy1];exact z6 W0 (fun k=>k≠g) 3 [0,1,9, -1] #[.int .i64 0,.int .i64 1,.int .i64 9,.int .i64 (-1)] 4 (by omega) rfl rfl (by omega)
  replace pc:=LH (pc.out.trans (zQ.to kk));replace RPP:=LH (RPP.out.k kk);replace RKK:=LH (RKK.out.k kk);replace GS:=LH (GS.out.k kk);clear kk hW hsy1 hws hlt;refine hK.out _ _ ⟨pc.out.at x1 hwg,pc.out.at e0 h6g,pc.out.at e1 h6g,pc.out.at e2 h6g,pc.out.at e3 h6g,pc.out.at e4 h6g⟩ (fun hHeld=>?_);clear hK K;try go_frame
  refine wO 7 (fun K hK=>?_);go_simp;go_at_call 112;refine(W2 B g _ _ 4 4 [0,1,9, -1] (fun k=>k≠g) y1 GS.out.r (by have:=HPP.out;have:=hq.out;omega) TY.out.toInts (by omega) (by omega) (fun h=>h rfl)).mono ?_;rintro e y2 ⟨v7,hv,rfl,r6,xi⟩;replace pc:=LH (pc.out.trans xi);replace RPP:=LH (RPP.out.ext xi (fun k hk=>by omega));replace RKK:=LH (RKK.out.ext xi (fun k hk=>by omega));replace TY:=LH (TY.out.ext xi (fun k hk=>by omega));replace GS:=LH (GS.out.c xi r6);clear hv r6 xi;have HQZ:=LH (show q+1≤p+20000 by have h3:=hq.out;omega);refine hK.out _ _ ⟨pc.out.at x1 hwg,pc.out.at e0 h6g,pc.out.at e1 h6g,pc.out.at e2 h6g,pc.out.at e3 h6g,pc.out.at e4 h6g⟩ (fun hHeld=>?_);clear hK K;try go_frame
  refine wO 8 (fun K hK=>?_);go_simp;obtain⟨sy3,y3,hsy3,hW,kk,hzy3,hisy3⟩:=SM y2 (.cells #[.int .i64 v7] 3);rw[←hsy3,←hW];have hws:=pc.out.size;have hlt:=GS.out.lt;have TZ:Hid (Rd y3 (fun k=>k≠g) (zY [v7]) (.slice (some ⟨sy3,0,none⟩) 1 1)):=by
   rw[hW,hsy3];exact z6 y2 (fun k=>k≠g) 3 [v7] #[.int .i64 v7] 1 (by omega) rfl rfl (by omega)
  replace pc:=LH (pc.out.trans (zQ.to kk));replace RPP:=LH (RPP.out.k kk);replace RKK:=LH (RKK.out.k kk);replace GS:=LH (GS.out.k kk);clear kk hW hsy3 hws hlt;refine hK.out _ _ ⟨pc.out.at x1 hwg,pc.out.at e0 h6g,pc.out.at e1 h6g,pc.out.at e2 h6g,pc.out.at e3 h6g,pc.out.at e4 h6g⟩ (fun hHeld=>?_);clear hK K;try go_frame
  refine wO 9 (fun K hK=>?_);go_simp;go_at_call 149;refine(yw ap np cp (fAt fs k).params _ _ 1 1 [v7] _ _ RPP.out.toInts (by omega) TZ.out.toInts (by omega)).mono ?_;rintro e y4 ⟨ae,ne,ce,rfl,hne,hea,xi⟩;have hws:=pc.out.size;have hlt:=GS.out.lt;replace pc:=LH (pc.out.trans (zQ.to xi));replace RPP:=LH (RPP.out.k xi);replace RKK:=LH (RKK.out.k xi);replace TZ:=LH (TZ.out.k xi);replace GS:=LH (GS.out.k xi);have hnl:=(zN RPP.out).1;obtain rfl:ne=np+1:=(by have h1:=hea.1;rw[List.length_append]at h1;simp at h1;omega);have RX:=LH ((hea.read.toRd hne (by omega)).mono (D':=fun m=>(lo≤m∧m≠w.heap.size∧m≠w.heap.size+1)∧m≠sF) (fun k hk=>by change y3.heap.size≤k at hk;omega));clear hea xi hnl hws hlt;refine hK.out _ _ ⟨pc.out.at x1 hwg,pc.out.at e0 h6g,pc.out.at e1 h6g,pc.out.at e2 h6g,pc.out.at e3 h6g,pc.out.at e4 h6g⟩ (fun hHeld=>?_);clear hK K;try go_frame
  refine wT 14 hHeld ?_;try go_frame
  refine wT 15 hHeld ?_;try go_frame
  refine wO 16 (fun K hK=>?_);obtain⟨_,_,_,_,_,_,z0,z1,z2,z3,z4, -, -,hfz, -, -⟩:=QT GS.out.f HKF.out;have f0:=hfz (k*5);have f1:=hfz (k*5+1);have f2:=hfz (k*5+2);have f3:=hfz (k*5+3);have f4:=hfz (k*5+4);clear hfz;go_simp;clear z0 z1 z2 z3 z4 f0 f1 f2 f3 f4;refine hK.out _ _ ⟨yq (pc.out.at x1 hwg) hwF,yq (pc.out.at e0 h6g) h6F,yq (pc.out.at e1 h6g) h6F,yq (pc.out.at e2 h6g) h6F,yq (pc.out.at e3 h6g) h6F,yq (pc.out.at e4 h6g) h6F⟩ (fun hHeld=>?_);clear hK K;try go_frame
  refine wpAnyH_done (by kernel_rfl) ?_ _;have Y:=Kv y4 sF (k*5) (.slice ae (np+1) ce) (.int .i64 (fAt fs k).result) (.int .i64 (fAt fs k).body.op) (.int .i64 (fAt fs k).body.num) (.slice ab nb cb);have A9:=LH (GS.out.f.putF (k:=k) (f:=⟨(fAt fs k).params++ [v7],(fAt fs k).result,(fAt fs k).body⟩) rfl HKF.out RX.out RKK.out);have D9:=LH (GS.out.d.ext Y (fun k hk h=>hk.2 h));have HOS:=GS.out.s;have P3:=LH (GS.out.b3.e Y (by omega));have P4:=LH (GS.out.b4.e Y (by omega));have R9:=LH (GS.out.r.ext Y (fun k hk h=>by omega));have X9:=LH ((GS.out.x.mono (S':=fun k=>k=g∨k=sF) (fun k _ h=>.inl h)).trans (Y.mono (fun k _ h=>.inr h)));have FP:Hid (BM (fs.set k ⟨(fAt fs k).params++ [v7],(fAt fs k).result,(fAt fs k).body⟩)):=by
   intro i hi;rw[Jq HKF.out];by_cases h:i=k
   ·rw[if_pos h];exact(FB.out k HKF.out)
   ·rw[if_neg h];exact(FB.out i (by simpa using hi))
  have HQ9:Hid (_≤p+20000):=HQZ.out;have y0:=P3.out.x0;have y1:=P3.out.x1;have u0:=P4.out.x0;have u1:=P4.out.x1;have g0:=P4.out.f0;have g1:=P4.out.f1;go_wp2_with fail;refine bodyPost_ret (v:=.agg #[.slice a0 n0 c0,(.slice (some ⟨sF,0,none⟩) n c)]) (by simp[results,Tryz.results120,go_sem,u0,u1]) rfl (zB hQ ?_);exact gR A9.out.rdT D9.out P4.out R9.out HQ9.out X9.out FP.out hBl hlo hsw (fun m hm=>by rcases hm with h|h;omega;have:=Option.some.inj h;change sF=m at this;omega) (fun m hm=>by omega)
 have t1:(v==1)=false:=by rw[beq_eq_false_iff_ne];exact hv1c
 by_cases hv2c:v=2
 ·subst hv2c
  go_upto_region 9 with fail;have KD:zQ wq wq.drew:=(kD wq);replace GS:=LH (GS.out.k KD);replace RPP:=LH (RPP.out.k KD);replace RKK:=LH (RKK.out.k KD);replace E6:=LH (E6.out.k KD);have RKB:=RKK;clear KD;have x1:wq.drew.cell? ⟨w.heap.size,1,none⟩=some (.slice (some ⟨sF,0,none⟩) n c):=GS.out.b3.x1;have e0:wq.drew.cell? ⟨s6,0,none⟩=some (.slice ap np cp):=E6.out.c0;have e2:wq.drew.cell? ⟨s6,2,none⟩=some (.int .i64 (fAt fs k).body.op):=E6.out.c2;have e3:wq.drew.cell? ⟨s6,3,none⟩=some (.int .i64 (fAt fs k).body.num):=E6.out.c3;have e4:wq.drew.cell? ⟨s6,4,none⟩=some (.slice ab nb cb):=E6.out.c4;refine wp_region_held_drew (S:=fun w'=>w'.cell? ⟨w.heap.size,1,none⟩=some (.slice (some ⟨sF,0,none⟩) n c)∧w'.cell? ⟨s6,0,none⟩=some (.slice ap np cp)∧w'.cell? ⟨s6,2,none⟩=some (.int .i64 (fAt fs k).body.op)∧w'.cell? ⟨s6,3,none⟩=some (.int .i64 (fAt fs k).body.num)∧w'.cell? ⟨s6,4,none⟩=some (.slice ab nb cb)) (by kernel_rfl) ⟨x1,e0,e2,e3,e4⟩ (fun hHeld=>?_);have pc:Hid (Ext (·=g) wq.drew wq.drew):=Ext.refl _ _;generalize wq.drew=W0 at*;refine wT 0 hHeld ?_;try go_frame
  refine wT 1 hHeld ?_;try go_frame
  refine wT 2 hHeld ?_;try go_frame
  refine wT 3 hHeld ?_;try go_frame
  refine wT 4 hHeld ?_;try go_frame
  refine wT 5 hHeld ?_;try go_frame
  refine wT 8 hHeld ?_;try go_frame
  refine wT 9 hHeld ?_;try go_frame
  refine wO 6 (fun K hK=>?_);go_simp;obtain⟨sy1,y1,hsy1,hW,kk,hzy1,hisy1⟩:=SM W0 (.cells #[.int .i64 0,.int .i64 1,.int .i64 3,.int .i64 5,.int .i64 (-1)] 3);rw[←hsy1,←hW];have hws:=pc.out.size;have hlt:=GS.out.lt;have TY:Hid (Rd y1 (fun k=>k≠g) (zY [0,1,3,5, -1]) (.slice (some ⟨sy1,0,none⟩) 5 5)):=by
   rw[hW,hsy1];exact z6 W0 (fun k=>k≠g) 3 [0,1,3,5, -1] #[.int .i64 0,.int .i64 1,.int .i64 3,.int .i64 5,.int .i64 (-1)] 5 (by omega) rfl rfl (by omega)
  replace pc:=LH (pc.out.trans (zQ.to kk));replace RPP:=LH (RPP.out.k kk);replace RKK:=LH (RKK.out.k kk);replace GS:=LH (GS.out.k kk);clear kk hW hsy1 hws hlt;refine hK.out _ _ ⟨pc.out.at x1 hwg,pc.out.at e0 h6g,pc.out.at e2 h6g,pc.out.at e3 h6g,pc.out.at e4 h6g⟩ (fun hHeld=>?_);clear hK K;try go_frame
  refine wO 7 (fun K hK=>?_);go_simp;go_at_call 112;refine(W2 B g _ _ 5 5 [0,1,3,5, -1] (fun k=>k≠g) y1 GS.out.r (by have:=HPP.out;have:=hq.out;omega) TY.out.toInts (by omega) (by omega) (fun h=>h rfl)).mono ?_;rintro e y2 ⟨v7,hv,rfl,r6,xi⟩;replace pc:=LH (pc.out.trans xi);replace RPP:=LH (RPP.out.ext xi (fun k hk=>by omega));replace RKK:=LH (RKK.out.ext xi (fun k hk=>by omega));replace TY:=LH (TY.out.ext xi (fun k hk=>by omega));replace GS:=LH (GS.out.c xi r6);clear hv r6 xi;have HQZ:=LH (show q+1≤p+20000 by have h3:=hq.out;omega);refine hK.out _ _ ⟨pc.out.at x1 hwg,pc.out.at e0 h6g,pc.out.at e2 h6g,pc.out.at e3 h6g,pc.out.at e4 h6g⟩ (fun hHeld=>?_);clear hK K;try go_frame
  refine wT 10 hHeld ?_;try go_frame
  refine wT 11 hHeld ?_;try go_frame
  refine wO 12 (fun K hK=>?_);obtain⟨_,_,_,_,_,_,z0,z1,z2,z3,z4, -, -,hfz, -, -⟩:=QT GS.out.f HKF.out;have f0:=hfz (k*5);have f1:=hfz (k*5+1);have f2:=hfz (k*5+2);have f3:=hfz (k*5+3);have f4:=hfz (k*5+4);clear hfz;go_simp;clear z0 z1 z2 z3 z4 f0 f1 f2 f3 f4;refine hK.out _ _ ⟨yq (pc.out.at x1 hwg) hwF,yq (pc.out.at e0 h6g) h6F,yq (pc.out.at e2 h6g) h6F,yq (pc.out.at e3 h6g) h6F,yq (pc.out.at e4 h6g) h6F⟩ (fun hHeld=>?_);clear hK K;try go_frame
  refine wpAnyH_done (by kernel_rfl) ?_ _;have Y:=Kv y2 sF (k*5) (.slice ap np cp) (.int .i64 v7) (.int .i64 (fAt fs k).body.op) (.int .i64 (fAt fs k).body.num) (.slice ab nb cb);have A9:=LH (GS.out.f.putF (k:=k) (f:=⟨(fAt fs k).params,v7,(fAt fs k).body⟩) rfl HKF.out RPP.out RKK.out);have D9:=LH (GS.out.d.ext Y (fun k hk h=>hk.2 h));have HOS:=GS.out.s;have P3:=LH (GS.out.b3.e Y (by omega));have P4:=LH (GS.out.b4.e Y (by omega));have R9:=LH (GS.out.r.ext Y (fun k hk h=>by omega));have X9:=LH ((GS.out.x.mono (S':=fun k=>k=g∨k=sF) (fun k _ h=>.inl h)).trans (Y.mono (fun k _ h=>.inr h)));have FP:Hid (BM (fs.set k ⟨(fAt fs k).params,v7,(fAt fs k).body⟩)):=by
   intro i hi;rw[Jq HKF.out];by_cases h:i=k
   ·rw[if_pos h];exact(FB.out k HKF.out)
   ·rw[if_neg h];exact(FB.out i (by simpa using hi))
  have HQ9:Hid (_≤p+20000):=HQZ.out;have y0:=P3.out.x0;have y1:=P3.out.x1;have u0:=P4.out.x0;have u1:=P4.out.x1;have g0:=P4.out.f0;have g1:=P4.out.f1;go_wp2_with fail;refine bodyPost_ret (v:=.agg #[.slice a0 n0 c0,(.slice (some ⟨sF,0,none⟩) n c)]) (by simp[results,Tryz.results120,go_sem,u0,u1]) rfl (zB hQ ?_);exact gR A9.out.rdT D9.out P4.out R9.out HQ9.out X9.out FP.out hBl hlo hsw (fun m hm=>by rcases hm with h|h;omega;have:=Option.some.inj h;change sF=m at this;omega) (fun m hm=>by omega)
 have t2:(v==2)=false:=by rw[beq_eq_false_iff_ne];exact hv2c
 have HQZ:=LH (show q≤p+20000 by have:=hq.out;omega);by_cases hv3c:v=3
 ·subst hv3c
  go_wp2_with fail;refine(GF B g q wq GS.out.r (by have:=GS.out.lt;omega) (by have:=HPP.out;have:=hq.out;omega)).mono ?_;rintro e w7 ⟨vd,ds7,q7,hl7,hl3,rfl,hA7,r7,hq7,x7⟩;have hlt:=GS.out.lt;replace GS:=LH (GS.out.c x7 r7);obtain⟨b7,c7,rfl,hb7,_,_,_,_,_⟩:=hA7.open (by simp;omega);obtain⟨_,_,_,_,_,rd7⟩:=hA7.read (by omega);generalize hn7:(ds7.map yk).length=n7 at*;have y1:=GS.out.b3.x1;have y0:=GS.out.b3.x0;have f0:=GS.out.b3.f0;have Y:=J8 w7 w.heap.size 0 (.slice (some ⟨b7,0,none⟩) n7 c7);have P3:=LH (GS.out.b3.set0 (u:=.slice (some ⟨b7,0,none⟩) n7 c7));have P4:=LH (GS.out.b4.e Y (by omega));have A9:=LH (GS.out.f.extO Y (fun k hk h=>hk.2.1 h) (fun k hk h=>by have:=Option.some.inj hk;change sF=k at this;omega));have D9:Hid (Rd (w7.setCell ⟨w.heap.size,0,none⟩ (.slice (some ⟨b7,0,none⟩) n7 c7)) (fun m=>(lo≤m∧m≠w.heap.size∧m≠w.heap.size+1)∧m≠sF) (z5 ds7) (.slice (some ⟨b7,0,none⟩) n7 c7)):=(rd7.ext Y (fun m hm h=>by rcases hm with h1|h1<;>omega)).mono (fun m hm=>by rcases hm with h1|h1<;>omega);have R9:=LH (GS.out.r.ext Y (fun m hm h=>by omega));have X9:=LH ((GS.out.x.mono (S':=fun k=>k=g∨k=sF) (fun k _ h=>.inl h)).then_ Y (fun m hm h=>by omega));have HQ9:=LH (show q7≤p+20000 by have:=hq.out;omega);have FP:=FB;clear hA7 r7 x7 rd7 hn7;go_upto_region 14 with fail;generalize hW:w7.setCell ⟨w.heap.size,0,none⟩ (.slice (some ⟨b7,0,none⟩) n7 c7)=w9 at*;clear hW y0 y1 f0 Y GS;have y0:=P3.out.x0;have y1:=P3.out.x1;have u0:=P4.out.x0;have u1:=P4.out.x1;have g0:=P4.out.f0;have g1:=P4.out.f1;go_wp2_with fail;refine bodyPost_ret (v:=.agg #[.slice (some ⟨b7,0,none⟩) n7 c7,(.slice (some ⟨sF,0,none⟩) n c)]) (by simp[results,Tryz.results120,go_sem,u0,u1]) rfl (zB hQ ?_);exact gR A9.out.rdT D9.out P4.out R9.out HQ9.out X9.out FP.out hBl hlo hsw (fun m hm=>by rcases hm with h|h;omega;have:=Option.some.inj h;change sF=m at this;omega) (fun m hm=>by omega)
 have t3:(v==3)=false:=by rw[beq_eq_false_iff_ne];exact hv3c
 by_cases hv4c:v=4
 ·subst hv4c
  have x1:=GS.out.b3.x1;have e0:=E6.out.c0;have e1:=E6.out.c1;have e2:=E6.out.c2;have e3:=E6.out.c3;have e4:=E6.out.c4;have g1:=GS.out.b3.f1;have hbd:=GS.out.f.bound;have hzF:=(hbd sF rfl).2;have KF:=zQ.al wq (.cells #[.slice ap np cp,.int .i64 (fAt fs k).result,.int .i64 (fAt fs k).body.op,.int .i64 (fAt fs k).body.num,.slice ab nb cb] 60);have hz7:(wq.alloc (.cells #[.slice ap np cp,.int .i64 (fAt fs k).result,.int .i64 (fAt fs k).body.op,.int .i64 (fAt fs k).body.num,.slice ab nb cb] 60)).heap.size=wq.heap.size+1:=World.size_alloc _ _;have hlt:=GS.out.lt;have hX:=LH (ZY wq (fun m=>(lo≤m∧m≠w.heap.size∧m≠w.heap.size+1)∧m≠sF) 60 [fAt fs k] [.slice ap np cp,.int .i64 (fAt fs k).result,.int .i64 (fAt fs k).body.op,.int .i64 (fAt fs k).body.num,.slice ab nb cb] 1 (by omega) ⟨_,_,_,rfl,RPP.out,RKK.out,rfl⟩ rfl (by omega));have G7:=LH (GS.out.k KF);have HLR:=LH (show(fs.map xZ).length≤4 by rw[List.length_map];have:=HLN.out;omega);clear KF GS hbd;go_wp2_with (at_builtin;go_must (refine uz _ rfl (.tmp 74) (.tmp 76) 42 rfl sF 60 (.agg #[.slice none 0 0,.int .i64 0,.int .i64 0,.int .i64 0,.slice none 0 0]) 5 72 Tryz.underlying42 (by kernel_rfl) rfl (by omega) (fun m=>lo≤m∧m≠w.heap.size∧m≠w.heap.size+1) _ _ rfl G7.out.f _ 1 1 _ _ rfl hX.out (fun m _ hm=>⟨hm.1,fun e=>hm.2 (Option.some.inj e).symm⟩) (by have:=HLR.out;omega) (by have:=HLR.out;omega) (by omega) ?_);intro v9 w9 A9' x9 hO9;have A9:=LH A9';have D9:=LH (G7.out.d.ext x9 (fun m hm h=>hm.2 (Option.some.inj h).symm));have P3':=LH (G7.out.b3.e x9 (fun h=>hwF (Option.some.inj h).symm));have P4':=LH (G7.out.b4.e x9 (fun h=>by have:=Option.some.inj h;change sF=_ at this;omega));have R9':=LH (G7.out.r.ext x9 (fun m hm h=>by have:=Option.some.inj h;change sF=m at this;omega));have X9':=LH ((G7.out.x.mono (S':=fun k=>k=g∨k=sF) (fun k _ h=>.inl h)).trans (x9.mono (fun m _ h=>.inr (Option.some.inj h).symm)));have hb9:Hid (∀m,v9.ownBlock=some m→m=sF∨w.heap.size+2≤m):=(fun m hm=>by rcases hO9 with h|h;(rw[h]at hm;exact .inl (Option.some.inj hm).symm);(rw[h]at hm;right;have:=Option.some.inj hm;omega));obtain⟨a9,c9,e9,hc9,rd9⟩:=A9'.readO (by omega);rw[←List.map_append]at e9 rd9;have RD9:=LH rd9;generalize hn9:((fs++ [fAt fs k]).map xZ).length=n9 at*;subst e9;have y1:=P3'.out.x1;have f1:=P3'.out.f1;have y0:=P3'.out.x0;have u0:=P4'.out.x0;have u1:=P4'.out.x1;have g40:=P4'.out.f0;have g41:=P4'.out.f1;clear A9' x9 hO9 rd9 hc9 hn9);have Y:=J8 w9 w.heap.size 1 (.slice a9 n9 c9);have RE:=LH (RD9.out.ext Y (fun m hm h=>by rcases hm with h1|h1;omega;have:=hb9.out m h1;omega));have DE:=LH (D9.out.ext Y (fun m hm h=>hm.1.2.1 h));have P4:=LH (P4'.out.e Y (by omega));have R9:=LH (R9'.out.ext Y (fun m hm h=>by omega));have X9:=LH (X9'.out.then_ Y (fun m hm h=>by omega));have FP:Hid (BM (fs++ [fAt fs k])):=by
   intro i hi;rw[List.length_append]at hi;by_cases h:i<fs.length
   ·have e:fAt (fs++ [fAt fs k]) i=fAt fs i:=by unfold fAt;simp only[List.getD_eq_getElem?_getD];rw[List.getElem?_append_left h]
    rw[e];exact FB.out i h
   ·have e:fAt (fs++ [fAt fs k]) i=fAt fs k:=by
     have:i=fs.length:=by simp at hi;omega
     subst this;unfold fAt;simp only[List.getD_eq_getElem?_getD];rw[List.getElem?_append_right (Nat.le_refl _)];simp
    rw[e];exact FB.out k HKF.out
  refine bodyPost_ret (v:=.agg #[.slice a0 n0 c0,.slice a9 n9 c9]) (by simp[results,Tryz.results120,go_sem,u0,u1]) rfl (zB hQ ?_);exact gR RE.out DE.out P4.out R9.out HQZ.out X9.out FP.out hBl hlo hsw (fun m hm=>by rcases hm with h|h;omega;have:=hb9.out m h;omega) (fun m hm=>by omega)
 have t4:(v==4)=false:=by rw[beq_eq_false_iff_ne];exact hv4c
 have A9:=LH GS.out.f;have D9:=LH GS.out.d;have P3:=LH GS.out.b3;have P4:=LH GS.out.b4;have R9:=LH GS.out.r;have X9:=LH (GS.out.x.mono (S':=fun k=>k=g∨k=sF) (fun k _ h=>.inl h));have FP:=FB;have HQ9:=HQZ;clear GS;have y0:=P3.out.x0;have y1:=P3.out.x1;have u0:=P4.out.x0;have u1:=P4.out.x1;have g0:=P4.out.f0;have g1:=P4.out.f1;go_wp2_with fail;refine bodyPost_ret (v:=.agg #[.slice a0 n0 c0,(.slice (some ⟨sF,0,none⟩) n c)]) (by simp[results,Tryz.results120,go_sem,u0,u1]) rfl (zB hQ ?_);exact gR A9.out.rdT D9.out P4.out R9.out HQ9.out X9.out FP.out hBl hlo hsw (fun m hm=>by rcases hm with h|h;omega;have:=Option.some.inj h;change sF=m at this;omega) (fun m hm=>by omega)
theorem UM(B g:Nat)(p:Int)(w:World)(hr:Rdx w B g p)(hBw:B≤w.heap.size)(hp:p≤400000000000):
  Calls Tryz.prog 68 #[.pointer (some ⟨g,0,none⟩)] w (BV w.heap.size B g p 400000000 (fun _=>False) w):=by
 refine zV fun Q hQ=>?_;have HPP:=LH hp;have hgB:=hr.gB;have K1:=zQ.al w (.cells #[.slice none 0 0,.slice none 0 0] 44);have R0:=LH (hr.keep K1);have X0:=LH (zQ.to (S:=(·=g)) K1);have B0:=LH (Px.born w (.slice none 0 0) (.slice none 0 0));have hz0:(w.alloc (.cells #[.slice none 0 0,.slice none 0 0] 44)).heap.size=w.heap.size+1:=World.size_alloc _ _;clear hr K1 hp;go_in;go_upto_region 1 with fail;generalize hW:w.alloc (.cells #[.slice none 0 0,.slice none 0 0] 44)=W1 at*;clear hW;go_wp2_with fail;refine(J6 B g p W1 R0.out (by omega) (by have:=HPP.out;omega)).mono ?_;rintro e w1 ⟨ds,fs,a0,n0,c0,sF,m,q,rfl,hGP,hO,r1,hq,x1⟩;have hs1:=x1.size;have HGP:=LH hGP;have HO:=LH hO;have R1:=LH r1;have X1:=LH (X0.out.trans x1);have B1:=LH (B0.out.ext x1 (by omega));clear hGP hO r1 x1;go_wp2_with fail;refine(EV W1.heap.size B g q ds fs a0 n0 c0 sF m 4 w1 HGP.out HO.out (by omega) hs1 R1.out (by omega) (by have:=HPP.out;omega)).mono ?_;rintro e w2 ⟨ds2,fs2,a2,n2,c2,a3,n3,c3,q2,rfl,d2,f2,hf,r2,hq2,x2⟩;have hsl:=HO.out.s;have X2:Hid (Ext (fun k=>k=g∨False) w w2):=(X1.out.then_ x2 (fun k hk h=>by rcases h with h|h;exact h;omega)).mono (fun k _ h=>.inl h);have B2:=LH (B1.out.e x2 (by omega));have u0:=B2.out.x0;have u1:=B2.out.x1;have g0:=B2.out.f0;have g1:=B2.out.f1;have hs2:=x2.size;have Y:=(J8 w2 w.heap.size 0 (.slice a2 n2 c2)).trans (J8 _ w.heap.size 1 (.slice a3 n3 c3));have D2:=LH d2;have F2:=LH f2;have HF:=LH hf;have R2:=LH (r2.ext Y (fun k hk h=>by omega));have X3:=LH (X2.out.then_ Y (fun k hk h=>by omega));clear d2 f2 hf r2 x2;go_wp2_with fail;refine bodyPost_ret (v:=.agg #[.slice a2 n2 c2,.slice a3 n3 c3]) (by simp[results,Tryz.results68,go_sem,u0,u1]) rfl (zB hQ ?_);exact⟨ds2,fs2,a2,n2,c2,a3,n3,c3,q2,rfl,(D2.out.ext Y (fun k hk h=>by omega)).mono (fun k hk=>by omega),(F2.out.ext Y (fun k hk h=>by omega)).mono (fun k hk=>by omega),HF.out,R2.out,by omega,X3.out⟩
def IsRow(k:IntKind)(w:World)(a:Option Addr)(len cap:Nat)(zs:List Int):Prop:=
 (a=none∧len=0∧cap=0∧zs= [])∨
 ∃x,a=some x∧len≤cap∧cap≤maxLen∧zs.length=cap∧(∀i,i<zs.length→w.cell? (x.add i)=some (.int k (zs.getD i 0)))∧∀n∈zs,(Lit.int k n).wf=true
theorem Xq{w:World}{a:Option Addr}{len cap:Nat}{zs:List Int}(h:IsRow .u8 w a len cap zs):Byt w a len (fun i=>zs.getD i 0)∧len≤cap:=by
 rcases h with ⟨_,rfl,rfl,_⟩|⟨x,rfl,hl,_,hz,hc,hw⟩
 ·exact⟨fun h=>absurd h (by omega),Nat.le_refl _⟩
 ·refine⟨fun h0=>⟨x,rfl,?_,fun i hi=>⟨hc i (by omega),?_⟩⟩,hl⟩
  ·have:=World.block_lt_of_cell? w _ (hc 0 (by omega))
   rwa[vM]at this
  ·have hm:zs.getD i 0∈zs:=by
    have hi':i<zs.length:=by omega
    simp[List.getD,List.getElem?_eq_getElem hi']
   have:=hw _ hm;show 0≤zs.getD i 0∧zs.getD i 0<256;generalize zs.getD i 0=v at this ⊢;simp[Lit.wf,IntKind.min,IntKind.max,IntKind.signed,IntKind.bits]at this;omega
theorem law_bytes{P:Program}{f:FuncId}(core:∀(a:Option Addr) (len cap:Nat) (z:Nat→Int) (w:World),Byt w a len z→len≤cap→
   Calls P f #[.slice a len cap] w fun e w'=>e=.returned (.bool true)∧zQ w w')
  {a:Option Addr} {len cap:Nat} {zs:List Int} {w:World} (h:IsRow .u8 w a len cap zs):
  Calls P f #[.slice a len cap] w fun e w'=>e=.returned (.bool true)∧Below w.heap.size w w':=
 (core a len cap _ w (Xq h).1 (Xq h).2).mono fun _ _ ⟨he,hk⟩=>⟨he,hk.below (Nat.le_refl _) (fun _ _ h=>h)⟩
theorem Yq(a:Option Addr)(len cap:Nat)(z:Nat→Int)(w:World)(h:Byt w a len z)(hlc:len≤cap)(hl:len≤1048576):
  Calls Tryz.prog 28 #[.slice a len cap] w fun e w'=>∃(ds:List zG) (fs:List zA) (a0:Option Addr) (n0 c0:Nat) (a1:Option Addr) (n1 c1:Nat),e=.returned (.agg #[.slice a0 n0 c0,.slice a1 n1 c1])∧Rd w' (fun k=>w.heap.size≤k) (z5 ds) (.slice a0 n0 c0)∧Rd w' (fun k=>w.heap.size≤k) (qW fs) (.slice a1 n1 c1)∧BM fs∧zQ w w':=by
 refine zV fun Q hQ=>?_;have K1:=zQ.al w (.cells #[.slice none 0 0,.slice none 0 0] 44);have h1:=LH (h.ext K1 (fun _ _ _ h=>h));have hz0:(w.alloc (.cells #[.slice none 0 0,.slice none 0 0] 44)).heap.size=w.heap.size+1:=World.size_alloc _ _;have BR0:=LH (Px.born w (.slice none 0 0) (.slice none 0 0));have KK:=LH K1;clear h K1;go_in;go_upto_region 1 with fail;generalize hW:w.alloc (.cells #[.slice none 0 0,.slice none 0 0] 44)=W1 at*;clear hW;go_wp2_with fail;refine(Bj a len cap z W1 h1.out hlc hl).mono ?_;rintro e w1 ⟨g,hg,rfl,r1,k1⟩;have hs1:=k1.size;have hgB:=r1.gB;have BR1:=LH (BR0.out.k k1);clear BR0;have KK1:=LH (KK.out.trans k1);clear KK h1 k1;go_wp2_with fail;refine(UM w1.heap.size g 0 w1 r1 (Nat.le_refl _) (by omega)).mono ?_;rintro e w2 ⟨ds,fs,a0,n0,c0,a1,n1,c1,q,rfl,rd,rf,hf,r2,hq,x2⟩;have hs2:=x2.size;have BR:=LH (BR1.out.e x2 (fun h=>by rcases h with h|h;omega;exact h.elim));have u0:=BR.out.x0;have u1:=BR.out.x1;have g0:=BR.out.f0;have g1:=BR.out.f1;have Y:=(J8 w2 w.heap.size 0 (.slice a0 n0 c0)).trans (J8 _ w.heap.size 1 (.slice a1 n1 c1));have RD1:=LH (rd.ext Y (fun k hk h=>by omega));have RF1:=LH (rf.ext Y (fun k hk h=>by omega));have KE:=LH ((KK1.out.then_ x2 (fun k hk h=>by rcases h with h|h;omega;exact h.elim)).then_ Y (fun k hk h=>by omega));have HF:=LH hf;clear rd rf hf r2 hq x2 r1;go_wp2_with fail;refine bodyPost_ret (v:=.agg #[.slice a0 n0 c0,.slice a1 n1 c1]) (by simp[results,Tryz.results28,go_sem,u0,u1]) rfl (zB hQ ?_);exact⟨ds,fs,a0,n0,c0,a1,n1,c1,rfl,RD1.out.mono (fun k hk=>by omega),RF1.out.mono (fun k hk=>by omega),HF.out,KE.out⟩
end Go.Proofs.YtkapldpmjkdmcaaGreat
