/- The generator of programs: gen. -/
import Derived.Test.YtkapldpmjkdmcaaGreatUAI
import Derived.Test.YtkapldpmjkdmcaaGreatUAC
import Derived.Test.YtkapldpmjkdmcaaGreatUAB
namespace Go.Proofs.YtkapldpmjkdmcaaGreat
open Go.RowKit
set_option maxRecDepth 100000
set_option maxHeartbeats 8000000
theorem WY{b:Nat}(h:3≤b):8*pkG (b / 2)≤2*pkG b:=by
 obtain⟨c,rfl⟩:∃c,b=c+2:=⟨b-2,by omega⟩;have h2:pkG (c+2)=4*pkG c:=by rw[Zv,Zv];omega
 have:=QY (show(c+2) / 2≤c by omega);omega
theorem Gk(ds:List zG)(fs:List zA)(B g b2:Nat)(hG:jZ ds fs)(hb:1≤b2)(HI:∀b',b'<b2+2→J7 ds fs B g b'):J7 ds fs B g (b2+2):=by
 intro t vars av nv cv p a0 n0 c0 a1 n1 c1 w hT hpg hv hnv hr hBw hp;refine zV fun Q hQ=>?_;have HG:=LH hG;have HP:=LH hpg;have BW:=LH hBw;have hgB:=hr.gB;have hgw:g<w.heap.size:=by omega
 have K1:=(zQ.al w (.cells #[.slice a0 n0 c0,.slice a1 n1 c1] 44)).trans (zQ.al _ (.cells #[.int .i64 0,.int .i64 0,.slice none 0 0] 58));have B0:=LH (Bx.born w (.slice a0 n0 c0) (.slice a1 n1 c1));have hds:=hG.len4;have hfs:=hG.len;have hn0:n0≤4:=by have:=(zT hpg.d).1;omega
 have hn1:n1≤4:=by have:=(qZ hpg.f).1;omega
 have qr:=LH (hr.keep K1);have X1:=LH (zQ.to (S:=(·=g)) K1);have HT:=LH hT;have HV:=LH hv;have IH:=LH HI;have hpk3:=DW (show 3≤b2+2 by omega);have HPP:=LH hp;have hpp:p+100≤900000000000:=by omega
 have HPE:Hid (∃c:Nat,c=(b2+2) / 2):=⟨_,rfl⟩;obtain⟨c,hc⟩:=HPE.out;have HC:=LH hc;have hcb:c<b2+2:=by omega
 have hhalf:=LH (show 8*pkG c≤2*pkG (b2+2)by rw[hc];exact WY (by omega));have IHB:Hid (∀b',b'≤b2+1→J7 ds fs B g b'):=fun b' h=>IH.out b' (by omega);have hb3:¬(b2:Int)+2<3:=by omega
 clear hG hpg hv hr hBw hT HI hp HPE hc;go_in;go_wp2_with fail;refine(jD B g p _ _ qr.out (by omega) (by omega)).mono ?_;rintro e w1 ⟨v,rfl,hv,_,r1,x1⟩;obtain⟨hv0,hv1⟩:=hv (by omega);have b2x:=LH (B0.out.ext x1 hgw);have X2:=LH (X1.out.trans x1);have R2:=LH r1;have PD:=LH (HP.out.ext X2.out);have VD:=LH (HV.out.g X2.out);have BD:Hid (B≤w1.heap.size):=Nat.le_trans BW.out X2.out.size;have hs1:=X2.out.size;have hw3:=b2x.out.lt;have x0:=b2x.out.x0;have x1':=b2x.out.x1;have hvc:v=0∨(v=1∨v=2)∨v=3∨(v=4∨v=5∨v=6)∨(v=7∨v=8)∨(v=9∨v=10∨v=11):=by omega
 clear hv r1 x1 K1 B0 X1 qr hv0 hv1;have HX0:=LH x0;have HX1:=LH x1';rcases hvc with rfl|h|rfl|h|h|h
 ·go_wp2_with fail
  refine(Z9 ds fs B g HG.out t vars _ _ _ _ _ _ _ _ _ _ _ HT.out PD.out VD.out (by omega) R2.out BD.out (by omega)).mono ?_;rintro e w5 ⟨x,ax,nx,cx,q5,rfl,rx,fx,r5,hq5,X5⟩;have b5:=LH (b2x.out.ext X5 hgw);have X6:=LH (X2.out.trans X5);have RX:=LH (rx.mono (D':=fun k=>w.heap.size+2≤k) (fun k hk=>Nat.le_trans b2x.out.lt hk));have FX:=LH ((vT _ _).1 fx);have R5:=LH r5;have HQ5:=LH (show q5≤p+pkG (b2+2)by omega);clear rx fx r5 hq5 X5;have bz:=b5.out;have u0:=bz.u0;have u1:=bz.u1;have u2:=bz.u2;have f0:=bz.f0;have f1:=bz.f1;have f2:=bz.f2;clear bz;go_wp2_with fail;refine bodyPost_ret (v:=.agg #[.int .i64 x.op,.int .i64 x.num,.slice ax nx cx]) (by simp[results,Tryz.results228,go_sem,u0,u1,u2]) rfl (zB hQ ?_);exact xJ (ks:=x.kids) X6.out R5.out BW.out RX.out FX.out.1 FX.out.2 HQ5.out
 ·-- a let
  rcases h with rfl|rfl;all_goals
   go_wp2_with fail;refine(WS ds fs vars B g (p+1) _ _ _ _ _ _ _ _ _ _ PD.out hds hfs VD.out (by omega) R2.out BD.out (by omega)).mono ?_;rintro e w2 ⟨u,rfl,hu,r2,x2⟩;have HU:=LH hu;have b3:=LH (b2x.out.ext x2 hgw);have X3:=LH (X2.out.trans x2);have R3:=LH r2;have IHc:=LH (IH.out c hcb);have hdv:IntKind.i64.wrap (Int.tdiv ((b2:Int)+2) 2)=(c:Int):=by rw[IntWalk.i64_quo _ _ (by omega),HC.out,Int.natCast_ediv];rfl
   have hdv3:IntKind.i64.wrap (c:Int)=(c:Int):=IntWalk.i64_in _ (by omega);have hdv2:((b2:Int)+2) / 2=(c:Int):=by rw[HC.out,Int.natCast_ediv];rfl
   have y0:=b3.out.x0;have y1:=b3.out.x1;have hs2:=X3.out.size;have KKA:=LH ((kD w2));have KKB:=LH ((zQ.al w2 (.cells #[.int .i64 u] 3)).drew);have HQh:=LH (show p+1+1+pkG c≤900000000000 by have h1:=hhalf.out;have h2:=HPP.out;omega);have CA:=LH (IHc.out u vars av nv cv (p+1+1) _ _ _ _ _ _ _ HU.out (HP.out.ext (X3.out.trans (zQ.to KKA.out))) (HV.out.g (X3.out.trans (zQ.to KKA.out))) (by omega) (R3.out.keep KKA.out) (Nat.le_trans BW.out (X3.out.trans (zQ.to KKA.out)).size) HQh.out);have CB:=LH (IHc.out u vars av nv cv (p+1+1) _ _ _ _ _ _ _ HU.out (HP.out.ext (X3.out.trans (zQ.to KKB.out))) (HV.out.g (X3.out.trans (zQ.to KKB.out))) (by omega) (R3.out.keep KKB.out) (Nat.le_trans BW.out (X3.out.trans (zQ.to KKB.out)).size) HQh.out);have UB:=LH ((z6 w2 (fun k=>k≠g) 3 [u] #[.int .i64 u] 1 (by omega) rfl rfl (by omega)).k (Ext.refl (fun _=>False) (w2.alloc (.cells #[.int .i64 u] 3))).drew);clear hu r2 x2 x0 x1';go_wp2_with fail;go_region_held3 (fun w'=>w'.cell? ⟨w.heap.size,0,none⟩=some (.slice a0 n0 c0)∧w'.cell? ⟨w.heap.size,1,none⟩=some (.slice a1 n1 c1))
    (first|exact⟨y0,y1⟩|exact⟨kb0,kb1⟩|exact⟨kc0,kc1⟩|exact⟨kd0,kd1⟩|exact⟨ka0,ka1⟩|go_keep)
    (first
     |(have hgate:=HX0;go_at_call 228;(with_reducible refine CA.out.mono ?_);rintro e wa ⟨x,ax,nx,cx,qa,rfl,rx,fx,ra,hqa,xa⟩;have ka0:=xa.at ((zQ.to (S:=(·=g)) KKA.out).at y0 (by show w.heap.size≠g;omega)) (by show w.heap.size≠g;omega);have ka1:=xa.at ((zQ.to (S:=(·=g)) KKA.out).at y1 (by show w.heap.size≠g;omega)) (by show w.heap.size≠g;omega);have XA:=LH (((zQ.to (S:=(·=g)) KKA.out).trans xa).trans (zQ.to (zQ.al wa (.cells #[.int .i64 u] 3))));have RA:=LH (ra.keep (zQ.al wa (.cells #[.int .i64 u] 3)));have HQA:=LH hqa;have hsa:w2.heap.size≤wa.heap.size:=xa.size;have RX:=LH ((rx.mono (D':=fun k=>w2.heap.size≤k) (fun k hk=>hk)).k (zQ.al wa (.cells #[.int .i64 u] 3)));have FX:=LH fx;have UU:=LH (z6 wa (fun k=>k≠g) 3 [u] #[.int .i64 u] 1 (by omega) rfl rfl (by omega));clear rx fx ra hqa xa HX0)
     |(have hgate:=HX0;go_at_call 228;(with_reducible refine CB.out.mono ?_);rintro e wa ⟨x,ax,nx,cx,qa,rfl,rx,fx,ra,hqa,xa⟩;have ka0:=xa.at ((zQ.to (S:=(·=g)) KKB.out).at y0 (by show w.heap.size≠g;omega)) (by show w.heap.size≠g;omega);have ka1:=xa.at ((zQ.to (S:=(·=g)) KKB.out).at y1 (by show w.heap.size≠g;omega)) (by show w.heap.size≠g;omega);have XA:=LH ((zQ.to (S:=(·=g)) KKB.out).trans xa);have RA:=LH ra;have HQA:=LH hqa;have RX:=LH (rx.mono (D':=fun k=>w2.heap.size≤k) (fun k hk=>Nat.le_trans KKB.out.size hk));have FX:=LH fx;have UU:=LH (UB.out.g xa);clear rx fx ra hqa xa HX0)
     |(go_at_call 149;refine(yw av nv cv vars _ _ 1 1 [u] _ _ (HV.out.g (X3.out.trans XA.out)).toInts (by omega) UU.out.toInts (by omega)).mono ?_;rintro e wb ⟨ae,ne,ce,rfl,hne,hea,kb⟩;have kb0:=(XA.out.trans (zQ.to kb)).at y0 (by show w.heap.size≠g;omega);have kb1:=(XA.out.trans (zQ.to kb)).at y1 (by show w.heap.size≠g;omega);have hnl:=(zN VD.out).1;obtain rfl:ne=nv+1:=(by have h1:=hea.1;rw[List.length_append]at h1;simp at h1;omega);have XB:=LH (XA.out.trans (zQ.to kb));have RB:=LH (RA.out.keep kb);have hsA:=XA.out.size;have VB:=LH ((hea.read.toRd hne (by omega)).mono (D':=fun k=>k≠g) (fun k hk=>by omega));have RXB:=LH (RX.out.k kb);clear hea kb)
     |(go_at_call 228;refine(IHc.out t (vars++ [u]) ae (nv+1) ce qa _ _ _ _ _ _ _ HT.out (HP.out.ext (X3.out.trans XB.out)) VB.out (by omega) RB.out (Nat.le_trans BW.out (X3.out.trans XB.out).size) (by have h1:=hhalf.out;have h2:=HPP.out;have h3:=HQA.out;omega)).mono ?_;rintro e wc ⟨y,ay,ny,cy,qb,rfl,ry,fy,rb,hqb,xc⟩;have kc0:=(XB.out.trans xc).at y0 (by show w.heap.size≠g;omega);have kc1:=(XB.out.trans xc).at y1 (by show w.heap.size≠g;omega);have XC:=LH (XB.out.trans xc);have RC:=LH rb;have HQB:=LH hqb;have FY:=LH fy;have hsB:=XB.out.size;have hsC:=xc.size;have hb3l:=b3.out.lt;have RXY:=LH (yZ wc (fun k=>w.heap.size+2≤k) 58 x y ax nx cx ay ny cy (by omega) ((RXB.out.ext xc (fun k hk=>by omega)).mono (fun k hk=>by omega)) (ry.mono (fun k hk=>by omega)));have BXC:=LH (b3.out.ext (XB.out.trans xc) hgw);clear ry fy rb hqb xc)
     |(go_at_call 212;refine(zU _ _ _ _ _ _).mono ?_;rintro e w9 ⟨rfl,k9⟩;have kd0:=(zQ.to (S:=(·=g)) k9).at (zy kc0) (by show w.heap.size≠g;omega);have kd1:=(zQ.to (S:=(·=g)) k9).at (zy kc1) (by show w.heap.size≠g;omega);have K9:=LH ((zQ.al wc (.cells #[.int .i64 x.op,.int .i64 x.num,.slice ax nx cx,.int .i64 y.op,.int .i64 y.num,.slice ay ny cy] 58)).trans k9);have RD9:=LH (RXY.out.k k9);have u0:=(BXC.out.k K9.out).u0;have u1:=(BXC.out.k K9.out).u1;have u2:=(BXC.out.k K9.out).u2;have f0:=(BXC.out.k K9.out).f0;have f1:=(BXC.out.k K9.out).f1;have f2:=(BXC.out.k K9.out).f2;clear k9)
     |fail)
   all_goals
    have X9:=LH ((X3.out.trans XC.out).trans (zQ.to K9.out));have R9:=LH (RC.out.keep K9.out);have HFI:Hid (yX 1000 13 0):=⟨by omega,by omega⟩;have HFS:Hid (yS (yX 1000) [x,y]):=⟨FX.out,FY.out,trivial⟩;have HQ9:=LH (show qb≤p+pkG (b2+2)by have h1:=HQA.out;have h2:=HQB.out;have h3:=hhalf.out;omega);clear kd0 kd1 kc0 kc1 kb0 kb1 ka0 ka1 y0 y1;go_wp2_with fail;refine bodyPost_ret (v:=.agg #[.int .i64 13,.int .i64 0,.slice (some ⟨wc.heap.size,0,none⟩) 2 2]) (by simp[results,Tryz.results228,go_sem,u0,u1,u2]) rfl (zB hQ ?_);exact xJ (ks:= [x,y]) X9.out R9.out BW.out RD9.out HFI.out HFS.out HQ9.out
 ·-- a choice
  have X3:=LH (X2.out.trans (zQ.to (zQ.al w1 (.cells #[.int .i64 0,.int .i64 t,.int .i64 t] 3))));have z0:=zy (o:=(.cells #[.int .i64 0,.int .i64 t,.int .i64 t] 3)) x0;have z1:=zy (o:=(.cells #[.int .i64 0,.int .i64 t,.int .i64 t] 3)) x1';have TY:=LH (z6 w1 (fun k=>k≠g) 3 [0,t,t] #[.int .i64 0,.int .i64 t,.int .i64 t] 3 (by omega) rfl rfl (by omega));have hw1:IntKind.i64.wrap ((b2:Int)+1)=(b2:Int)+1:=IntWalk.i64_in _ (by omega);have hw0:IntKind.i64.wrap ((b2:Int)+2-1)=(b2:Int)+1:=by rw[show(b2:Int)+2-1=(b2:Int)+1 by omega];exact hw1
  have CA:=LH (vE ds fs B g (b2+1) ((b2:Int)+1) (pkG (b2+2)) (by omega) HG.out [0,t,t] IHB.out (by omega) rfl vars av nv cv (some ⟨w1.heap.size,0,none⟩) 3 3 (p+1) _ _ _ _ _ _ (w1.alloc (.cells #[.int .i64 0,.int .i64 t,.int .i64 t] 3)) (by intro z hz;simp only[List.mem_cons,List.not_mem_nil,or_false,or_self]at hz;rcases hz with hz|hz<;>rw[hz]<;>first|exact HT.out|exact⟨by omega,by omega⟩) (HP.out.ext X3.out) (HV.out.g X3.out) (by omega) TY.out (by omega) (R2.out.keep (zQ.al _ _)) (Nat.le_trans BW.out X3.out.size) (by have:=HPP.out;omega));go_wp2_with fail;refine CA.out.mono ?_;rintro e w5 ⟨es,a5,n5,c5,q5,rfl,rd5,_,fs5,r5,hq5,X5⟩;have b5:=LH ((b2x.out.k (zQ.al _ _)).ext X5 hgw);have X6:=LH (X3.out.trans X5);have RX:=LH (rd5.mono (D':=fun k=>w.heap.size+2≤k) (fun k hk=>by simp at hk;omega));have R5:=LH r5;have F5:=LH fs5;have HQ5:=LH hq5;clear z0 z1 x0 x1' rd5 r5 fs5 hq5 X5;go_wp2_with fail;refine(zU _ _ _ _ _ _).mono ?_;rintro e w9 ⟨rfl,k9⟩;have b9:=LH (b5.out.k k9);have X9:=LH (X6.out.trans (zQ.to k9));have R9:=LH (R5.out.keep k9);have RD9:=LH (RX.out.k k9);have HFI:Hid (yX 1000 7 0):=⟨by omega,by omega⟩;have HQ9:=LH (show q5≤p+pkG (b2+2)by have h1:=HQ5.out;omega);clear k9;have bz:=b9.out;have u0:=bz.u0;have u1:=bz.u1;have u2:=bz.u2;have f0:=bz.f0;have f1:=bz.f1;have f2:=bz.f2;clear bz;go_wp2_with fail;refine bodyPost_ret (v:=.agg #[.int .i64 7,.int .i64 0,.slice a5 n5 c5]) (by simp[results,Tryz.results228,go_sem,u0,u1,u2]) rfl (zB hQ ?_);exact xJ (ks:=es) X9.out R9.out BW.out RD9.out HFI.out F5.out HQ9.out
 ·-- a match
  rcases h with rfl|rfl|rfl;all_goals
   go_wp2_with fail;refine(GQ ds fs B g b2 HG.out hb IH.out t vars _ _ _ (p+1) _ _ _ _ _ _ _ (by omega) _ HT.out PD.out VD.out (by omega) R2.out BD.out (by have:=HPP.out;omega)).mono ?_;rintro e w5 ⟨x,ax,nx,cx,q5,rfl,rx,fx,r5,hq5,X5⟩;have b5:=LH (b2x.out.ext X5 hgw);have X6:=LH (X2.out.trans X5);have RX:=LH (rx.mono (D':=fun k=>w.heap.size+2≤k) (fun k hk=>Nat.le_trans b2x.out.lt hk));have FX:=LH ((vT _ _).1 fx);have R5:=LH r5;have HQ5:=LH (show q5≤p+pkG (b2+2)by omega);clear rx fx r5 hq5 X5;have bz:=b5.out;have u0:=bz.u0;have u1:=bz.u1;have u2:=bz.u2;have f0:=bz.f0;have f1:=bz.f1;have f2:=bz.f2;clear bz;go_wp2_with fail;refine bodyPost_ret (v:=.agg #[.int .i64 x.op,.int .i64 x.num,.slice ax nx cx]) (by simp[results,Tryz.results228,go_sem,u0,u1,u2]) rfl (zB hQ ?_);exact xJ (ks:=x.kids) X6.out R5.out BW.out RX.out FX.out.1 FX.out.2 HQ5.out
 ·-- a call
  rcases h with rfl|rfl;all_goals
   go_wp2_with fail;refine(GY ds fs t _ _ _ _ _ _ _ PD.out.pr hds hfs).mono ?_;rintro e w2 ⟨al,n,cl,xs,rfl,hnl,hn5,hx,hxs,k2⟩;have b3:=LH (b2x.out.k k2);have X3:=LH (X2.out.trans (zQ.to k2));have R3:=LH (R2.out.keep k2);have HXI:=LH hx;have HXS:=LH hxs;clear x0 x1' hx hxs k2;rcases Nat.eq_zero_or_pos n with h0|h0
   ·subst h0
    have y0:=b3.out.x0;have y1:=b3.out.x1;have PD3:=LH (HP.out.ext X3.out);have VD3:=LH (HV.out.g X3.out);have BD3:Hid (B≤w2.heap.size):=Nat.le_trans BW.out X3.out.size;go_wp2_with fail;refine(Yx ds fs B g b2 HG.out hb IH.out t vars _ _ _ (p+1) _ _ _ _ _ _ _ (by omega) _ HT.out PD3.out VD3.out (by omega) R3.out BD3.out (by have:=HPP.out;omega)).mono ?_;rintro e w5 ⟨x,ax,nx,cx,q5,rfl,rx,fx,r5,hq5,X5⟩;have b5:=LH (b3.out.ext X5 hgw);have X6:=LH (X3.out.trans X5);have RX:=LH (rx.mono (D':=fun k=>w.heap.size+2≤k) (fun k hk=>Nat.le_trans b3.out.lt hk));have FX:=LH ((vT _ _).1 fx);have R5:=LH r5;have HQ5:=LH (show q5≤p+pkG (b2+2)by omega);clear rx fx r5 hq5 X5;have bz:=b5.out;have u0:=bz.u0;have u1:=bz.u1;have u2:=bz.u2;have f0:=bz.f0;have f1:=bz.f1;have f2:=bz.f2;clear bz;go_wp2_with fail;refine bodyPost_ret (v:=.agg #[.int .i64 x.op,.int .i64 x.num,.slice ax nx cx]) (by simp[results,Tryz.results228,go_sem,u0,u1,u2]) rfl (zB hQ ?_);exact xJ (ks:=x.kids) X6.out R5.out BW.out RX.out FX.out.1 FX.out.2 HQ5.out
   ·have hd0:decide (0<n)=true:=decide_eq_true h0
    go_wp2_with fail;refine(jD B g (p+1) _ _ R3.out (by omega) (by omega)).mono ?_;rintro e w3 ⟨v,rfl,hv,_,r3,x3⟩;obtain⟨hv0,hv1⟩:=hv (by omega);obtain⟨i,rfl⟩:=Int.eq_ofNat_of_zero_le hv0;have hi:i<n:=by omega
    obtain⟨bc,oc,rfl,hbc,hcc⟩:=HXI.out.2 h0;have hbc2:w1.heap.size≤bc:=hbc;have d0:=x3.at (hcc i hi) (by show bc≠g;omega);have hcm:=HXS.out (iAt xs i) (by rw[jW (by have:=HXI.out.1;omega)];exact List.getElem_mem _);generalize iAt xs i=z at d0 hcm;obtain⟨k,rfl⟩:=Int.eq_ofNat_of_zero_le hcm.1;have hkf:k<fs.length:=by omega
    have b4:=LH (b3.out.ext x3 hgw);have X4:=LH (X3.out.trans x3);have R4:=LH r3;have FA:=LH (qZ (HP.out.f.lt.ext X4.out (fun k h=>h.1)));have hk1:k<n1:=by have:=FA.out.1;omega
    obtain⟨b,o,rfl,⟨hbg,hbw0⟩,ap,np,cp,ab,nb,cb,g0,_,_,_,_,rp,_⟩:=FA.out.2.2.2 k hk1;have hbne:¬b=w.heap.size+1:=by omega
    have hbne2:¬w.heap.size+1=b:=by omega
    have SG:=LH (HG.out.sig hkf);have hnp3:np≤3:=by have:=(HG.out.sig hkf).1;have:=(zN rp).1;omega
    have y0:=b4.out.x0;have y1:=b4.out.x1;have hw4:=b4.out.lt;have kk0:(0:Int)≤(k:Int):=by omega
    have kk1:(k:Int)<(n1:Int):=by omega
    have hw1:IntKind.i64.wrap ((b2:Int)+1)=(b2:Int)+1:=IntWalk.i64_in _ (by omega);have hw0:IntKind.i64.wrap ((b2:Int)+2-1)=(b2:Int)+1:=by rw[show(b2:Int)+2-1=(b2:Int)+1 by omega];exact hw1
    have KD:=LH ((kD w3));have BXD:=LH (b4.out.k KD.out);have CA:=LH (vE ds fs B g (b2+1) ((b2:Int)+1) (pkG (b2+2)) (by omega) HG.out (fAt fs k).params IHB.out (by omega) rfl vars av nv cv ap np cp (p+1+1) _ _ _ _ _ _ w3.drew SG.out.2.2 (HP.out.ext X4.out.drew) (HV.out.g X4.out.drew) (by omega) ((rp.mono (fun k h=>h.1)).k KD.out) hnp3 (R4.out.keep KD.out) (Nat.le_trans BW.out X4.out.drew.size) (by have:=HPP.out;omega));clear hcc hv hv0 r3 x3 hcm rp;go_wp2_with fail;clear d0;go_region_held3 (fun w'=>w'.cell? ⟨w.heap.size,0,none⟩=some (.slice a0 n0 c0)∧w'.cell? ⟨w.heap.size,1,none⟩=some (.slice (some ⟨b,o,none⟩) n1 c1)∧w'.cell? ⟨b,o+k*5,none⟩=some (.slice ap np cp))
     (first|exact⟨y0,y1,g0⟩|exact⟨kb0,kb1,kb2⟩|exact⟨kc0,kc1,kc2⟩|go_keep)
     (first
      |(go_at_call 235;(with_reducible refine CA.out.mono ?_);rintro e w5 ⟨es,a5,n5,c5,q5,rfl,rd5,_,fs5,r5,hq5,X5⟩;have kb0:=X5.at (w:=w3.drew) y0 (by show w.heap.size≠g;omega);have kb1:=X5.at (w:=w3.drew) y1 (by show w.heap.size≠g;omega);have kb2:=X5.at (w:=w3.drew) g0 hbg;have b5:=LH (BXD.out.ext X5 hgw);have X6:=LH (X4.out.drew.trans X5);have RX:=LH (rd5.mono (D':=fun k=>w.heap.size+2≤k) (fun k hk=>(by change w3.heap.size≤k at hk;omega)));have R5:=LH r5;have F5:=LH fs5;have HQ5:=LH hq5;clear rd5 r5 fs5 hq5 X5)
      |(go_at_call 212;refine(zU _ _ _ _ _ _).mono ?_;rintro e w9 ⟨rfl,k9⟩;have kc0:=(zQ.to (S:=(·=g)) k9).at kb0 (by show w.heap.size≠g;omega);have kc1:=(zQ.to (S:=(·=g)) k9).at kb1 (by show w.heap.size≠g;omega);have kc2:=(zQ.to (S:=(·=g)) k9).at kb2 hbg;have K9:=LH k9;have u0:=(b5.out.k K9.out).u0;have u1:=(b5.out.k K9.out).u1;have u2:=(b5.out.k K9.out).u2;have f0:=(b5.out.k K9.out).f0;have f1:=(b5.out.k K9.out).f1;have f2:=(b5.out.k K9.out).f2;clear k9)
      |fail)
    have X9:=LH (X6.out.trans (zQ.to K9.out));have R9:=LH (R5.out.keep K9.out);have RD9:=LH (RX.out.k K9.out);have HFI:Hid (yX 1000 9 (k:Int)):=⟨by omega,by omega⟩;have HQ9:=LH (show q5≤p+pkG (b2+2)by have h1:=HQ5.out;omega);clear kc0 kc1 kc2 kb0 kb1 kb2 y0 y1 g0;go_wp2_with fail;refine bodyPost_ret (v:=.agg #[.int .i64 9,.int .i64 (k:Int),.slice a5 n5 c5]) (by simp[results,Tryz.results228,go_sem,u0,u1,u2]) rfl (zB hQ ?_);exact xJ (ks:=es) X9.out R9.out BW.out RD9.out HFI.out F5.out HQ9.out
 ·rcases h with rfl|rfl|rfl
  all_goals
   go_wp2_with fail;refine(Yx ds fs B g b2 HG.out hb IH.out t vars _ _ _ (p+1) _ _ _ _ _ _ _ (by omega) _ HT.out PD.out VD.out (by omega) R2.out BD.out (by have:=HPP.out;omega)).mono ?_;rintro e w5 ⟨x,ax,nx,cx,q5,rfl,rx,fx,r5,hq5,X5⟩;have b5:=LH (b2x.out.ext X5 hgw);have X6:=LH (X2.out.trans X5);have RX:=LH (rx.mono (D':=fun k=>w.heap.size+2≤k) (fun k hk=>Nat.le_trans b2x.out.lt hk));have FX:=LH ((vT _ _).1 fx);have R5:=LH r5;have HQ5:=LH (show q5≤p+pkG (b2+2)by omega);clear rx fx r5 hq5 X5;have bz:=b5.out;have u0:=bz.u0;have u1:=bz.u1;have u2:=bz.u2;have f0:=bz.f0;have f1:=bz.f1;have f2:=bz.f2;clear bz;go_wp2_with fail;refine bodyPost_ret (v:=.agg #[.int .i64 x.op,.int .i64 x.num,.slice ax nx cx]) (by simp[results,Tryz.results228,go_sem,u0,u1,u2]) rfl (zB hQ ?_);exact xJ (ks:=x.kids) X6.out R5.out BW.out RX.out FX.out.1 FX.out.2 HQ5.out
theorem Jy(ds:List zG)(fs:List zA)(B g b:Nat)(hG:jZ ds fs)(hb:b<3)(t:Int)(vars:List Int)(av:Option Addr)(nv cv:Nat)(p:Int)(a0:Option Addr)(n0 c0:Nat)(a1:Option Addr)(n1 c1:Nat)(w:World)(hT:T5 t)(hpg:PG w g ds fs a0 n0 c0 a1 n1 c1)(hv:Rd w (fun k=>k≠g) (zY vars) (.slice av nv cv))(hnv:nv+3*b≤900)(hr:Rdx w B g p)(hBw:B≤w.heap.size)(hp:p+18≤900000000000):
  Calls Tryz.prog 228 #[.pointer (some ⟨g,0,none⟩),.agg #[.slice a0 n0 c0,.slice a1 n1 c1],.slice av nv cv,.int .i64 t,.int .i64 (b:Int)] w (Qx B g p 18 1000 4 w):=by
 refine zV fun Q hQ=>?_;have HG:=LH hG;have HP:=LH hpg;have BW:=LH hBw;have hgB:=hr.gB;have hgw:g<w.heap.size:=by omega
 have K1:=(zQ.al w (.cells #[.slice a0 n0 c0,.slice a1 n1 c1] 44)).trans (zQ.al _ (.cells #[.int .i64 0,.int .i64 0,.slice none 0 0] 58));have B0:=LH (Bx.born w (.slice a0 n0 c0) (.slice a1 n1 c1));have hds:=hG.len4;have hfs:=hG.len;have hn0:n0≤4:=by have:=(zT hpg.d).1;omega
 have hn1:n1≤4:=by have:=(qZ hpg.f).1;omega
 have qr:=LH (hr.keep K1);have X1:=LH (zQ.to (S:=(·=g)) K1);have PD:=LH (hpg.k K1);have VD:=LH (hv.k K1);have BD:Hid (B≤((w.alloc (.cells #[.slice a0 n0 c0,.slice a1 n1 c1] 44)).alloc (.cells #[.int .i64 0,.int .i64 0,.slice none 0 0] 58)).heap.size):=Nat.le_trans hBw X1.out.size;have HT:=LH hT;have hb3:(b:Int)<3:=by omega
 clear hG hpg hv hr hBw hT K1;go_in;go_wp2_with fail;refine(VN ds fs B g HG.out t vars _ _ _ _ _ _ _ _ _ _ _ HT.out PD.out VD.out (by omega) qr.out BD.out (by omega)).mono ?_;rintro e w5 ⟨x,ax,nx,cx,q5,rfl,rx,fx,sx,r5,hq5,X5⟩;have b5:=LH (B0.out.ext X5 hgw);have X6:=LH (X1.out.trans X5);have RX:=LH (rx.mono (D':=fun k=>w.heap.size+2≤k) (fun k hk=>by simp at hk;omega));have FX:=LH ((vT _ _).1 fx);have R5:=LH r5;have HQ5:=LH hq5;have HZ9:=LH (show nEs x.kids+1≤4 by rw[←uF];exact sx);clear rx fx sx r5 hq5 X5;have bz:=b5.out;have u0:=bz.u0;have u1:=bz.u1;have u2:=bz.u2;have f0:=bz.f0;have f1:=bz.f1;have f2:=bz.f2;clear bz;go_wp2_with fail;refine bodyPost_ret (v:=.agg #[.int .i64 x.op,.int .i64 x.num,.slice ax nx cx]) (by simp[results,Tryz.results228,go_sem,u0,u1,u2]) rfl (zB hQ ?_);exact vC (ks:=x.kids) X6.out R5.out BW.out RX.out FX.out.1 FX.out.2 HQ5.out HZ9.out
theorem Dq(ds:List zG)(fs:List zA)(B g:Nat)(hG:jZ ds fs)(N:Nat):∀b,b<N→J7 ds fs B g b:=by
 induction N with
 |zero=>intro b h;omega
 |succ N ih=>
 intro b hb;by_cases h3:3≤b
 ·obtain⟨b2,rfl⟩:∃b2,b=b2+2:=⟨b-2,by omega⟩
  exact Gk ds fs B g b2 hG (by omega) (fun b' h=>ih b' (by omega))
 ·intro t vars av nv cv p a0 n0 c0 a1 n1 c1 w hT hpg hv hnv hr hBw hp
  have hpb:=gv b;refine(Jy ds fs B g b hG (by omega) t vars av nv cv p a0 n0 c0 a1 n1 c1 w hT hpg hv hnv hr hBw (by omega)).mono ?_;rintro e w' ⟨x,a,n,c,q,h1,h2,h3,_,h4,h5,h6⟩;exact⟨x,a,n,c,q,h1,h2,h3,h4,by omega,h6⟩
theorem uK(ds:List zG)(fs:List zA)(B g:Nat)(hG:jZ ds fs)(b:Nat):J7 ds fs B g b:=Dq ds fs B g hG (b+1) b (Nat.lt_succ_self b)
theorem Kz(ds:List zG)(fs:List zA)(B g b:Nat)(hG:jZ ds fs)(t:Int)(vars:List Int)(av:Option Addr)(nv cv:Nat)(p:Int)(a0:Option Addr)(n0 c0:Nat)(a1:Option Addr)(n1 c1:Nat)(w:World)(hT:T5 t)(hpg:PG w g ds fs a0 n0 c0 a1 n1 c1)(hv:Rd w (fun k=>k≠g) (zY vars) (.slice av nv cv))(hnv:nv+3*b≤900)(hr:Rdx w B g p)(hBw:B≤w.heap.size)(hp:p+pkG b≤900000000000):
  Calls Tryz.prog 228 #[.pointer (some ⟨g,0,none⟩),.agg #[.slice a0 n0 c0,.slice a1 n1 c1],.slice av nv cv,.int .i64 t,.int .i64 (b:Int)] w fun e w'=>∃(x:zK) (a:Option Addr) (n c:Nat) (q:Int),
   e=.returned (.agg #[.int .i64 x.op,.int .i64 x.num,.slice a n c])∧Rd w' (fun k=>w.heap.size≤k) (zJ x.kids) (.slice a n c)∧yL (yX 1000) x∧(b<3→nE x≤4)∧Rdx w' B g q∧q≤p+pkG b∧Ext (·=g) w w':=by
 have hpb:=gv b;by_cases h3:b<3
 ·refine(Jy ds fs B g b hG h3 t vars av nv cv p a0 n0 c0 a1 n1 c1 w hT hpg hv hnv hr hBw (by omega)).mono ?_
  rintro e w' ⟨x,a,n,c,q,h1,h2,h3,h7,h4,h5,h6⟩;exact⟨x,a,n,c,q,h1,h2,h3,fun _=>h7,h4,by omega,h6⟩
 ·refine(uK ds fs B g hG b t vars av nv cv p a0 n0 c0 a1 n1 c1 w hT hpg hv hnv hr hBw hp).mono ?_
  rintro e w' ⟨x,a,n,c,q,h1,h2,h5,h4,h6,h7⟩;exact⟨x,a,n,c,q,h1,h2,h5,fun h=>absurd h h3,h4,h6,h7⟩
def lft(s:Nat)(left:Int):Int:=if(s:Int)≤left then left-(s:Int)else -1
theorem Q2{s:Nat}{left:Int}(h:(s:Int)≤left):lft s left=left-(s:Int):=if_pos h
theorem QQ{s:Nat}{left:Int}(h:left<(s:Int)):lft s left= -1:=if_neg (by omega)
theorem Jz(N:Nat):∀(op num:Int) (es:List zK),nEs es<N→∀(a:Option Addr) (n c:Nat) (D:Nat→Prop) (left:Int) (w:World),Rd w D (zJ es) (.slice a n c)→0≤left→left≤1048576→
  Calls Tryz.prog 144 #[.agg #[.int .i64 op,.int .i64 num,.slice a n c],.int .i64 left] w fun e w'=>e=.returned (.int .i64 (lft (nEs es+1) left))∧zQ w w':=by
 induction N with
 |zero=>intro _ _ es h;omega
 |succ N ihN=>
 intro op num es hN a n c D left w h h0 h1;refine zV fun Q hQ=>?_;obtain⟨e1,hnc,hm,hat⟩:=zx h;have HL:=LH e1;have HA:=LH hat;have IH:=LH (fun(j:Nat) (hj:j<es.length)=>ihN (eAt es j).op (eAt es j).num (eAt es j).kids (by have:=yN es hj;have:=uF (eAt es j);omega));clear e1 hat ihN hN;have K0:=zQ.al w (.cells #[.int .i64 op,.int .i64 num,.slice a n c] 58);by_cases hl:left<1
 ·have V:=LH (QQ (s:=nEs es+1) (left:=left) (by omega))
  go_in;go_wp2;exact zB hQ ⟨zE V.out.symm,K0⟩
 go_in;go_wp2;go_loopw [1,5] (fun lv iv wr=>∃j:Nat,j≤n∧iv=.int .i64 j∧lv=.int .i64 (left-1-(nEs (es.take j):Int))∧(nEs (es.take j):Int)≤left-1∧zQ (w.alloc (.cells #[.int .i64 op,.int .i64 num,.slice a n c] 58)) wr) (fun _ i _=>n-(intOf i).toNat)
 case atStart=>exact⟨0,Nat.zero_le _,rfl,by simp[nEs],by simp only[List.take_zero,nEs];omega,Ext.refl _ _⟩
 case round=>
  obtain⟨j,hj,rfl,rfl,hsz,hK⟩:=hrel;have x2:=xQ hK 2;simp at x2;by_cases hlt:j<n
  ·have hst:=vQ es (j:=j) (by have:=HL.out;omega)
   have hee:=uF (eAt es j);obtain⟨b,o,rfl,hd,a2,n2,c2,d0,d1,d2,r2⟩:=HA.out j hlt;have hKw:=K0.trans hK;obtain⟨g0,g1,g2⟩:=hKw.k3 d0 d1 d2;have q2:=r2.k hKw;have t0:0≤left-1-(nEs (es.take j):Int):=by omega
   have HS:=LH hst;have HE:=LH hee;clear d0 d1 d2 r2 hst hee;by_cases hf:(nEs (es.take (j+1)):Int)≤left-1
   ·have V:Hid (lft (nEs (eAt es j).kids+1) (left-1-(nEs (es.take j):Int))=left-1-(nEs (es.take (j+1)):Int)):=by
     show _=_;have:=HS.out;have:=HE.out;rw[Q2 (by omega)];omega
    have t1:0≤left-1-(nEs (es.take (j+1)):Int):=by omega
    go_wp2_with fail;refine(IH.out j (by have:=HL.out;omega) _ _ _ _ _ _ q2 (by omega) (by omega)).mono ?_;rw[V.out];rintro e w1 ⟨rfl,p1⟩;go_wp2_with fail;go_roundw
    case rel=>exact⟨j+1,by omega,by go_num,rfl,by omega,hK.trans p1⟩
    case measure=>simp[intOf];omega
   ·have V:Hid (lft (nEs (eAt es j).kids+1) (left-1-(nEs (es.take j):Int))= -1):=by
     have:=HS.out;have:=HE.out;exact QQ (by omega)
    have hle:=jA es (j+1);have V2:=LH (QQ (s:=nEs es+1) (left:=left) (by omega));go_wp2_with fail;refine(IH.out j (by have:=HL.out;omega) _ _ _ _ _ _ q2 (by omega) (by omega)).mono ?_;rw[V.out];rintro e w1 ⟨rfl,p1⟩;go_wp2_with fail;exact zB hQ ⟨zE V2.out.symm,(K0.trans hK).trans p1⟩
  ·have HJ:=LH (show j=n by omega)
   go_wp2;exact zB hQ ⟨zE (by
    have e:=HJ.out
    subst e
    rw[List.take_of_length_le (Nat.le_of_eq HL.out)]at hsz ⊢
    rw[Q2 (by omega)];omega),K0.trans hK⟩
theorem Q6(op num:Int)(es:List zK)(a:Option Addr)(n c:Nat)(D:Nat→Prop)(left:Int)(w:World)(h:Rd w D (zJ es) (.slice a n c))(h0:0≤left)(h1:left≤1048576):
  Calls Tryz.prog 144 #[.agg #[.int .i64 op,.int .i64 num,.slice a n c],.int .i64 left] w fun e w'=>e=.returned (.int .i64 (lft (nEs es+1) left))∧zQ w w':=
 Jz _ op num es (Nat.lt_succ_self _) a n c D left w h h0 h1
def j9(es:List zK):Int:=if nEs es+1≤30 then((nEs es+1:Nat):Int)else -1
theorem gj{es:List zK}(h:nEs es+1≤30):j9 es=((nEs es+1:Nat):Int):=if_pos h
theorem xU{es:List zK}(h:¬nEs es+1≤30):j9 es= -1:=if_neg h
theorem jT(op num:Int)(es:List zK)(a:Option Addr)(n c:Nat)(D:Nat→Prop)(w:World)(h:Rd w D (zJ es) (.slice a n c)):
  Calls Tryz.prog 98 #[.agg #[.int .i64 op,.int .i64 num,.slice a n c]] w fun e w'=>e=.returned (.int .i64 (j9 es))∧zQ w w':=by
 refine zV fun Q hQ=>?_;have K0:=zQ.al w (.cells #[.int .i64 op,.int .i64 num,.slice a n c] 58);by_cases hl:nEs es+1≤30
 ·have V:=LH (gj hl)
  have V2:=LH (Q2 (s:=nEs es+1) (left:=30) (by omega));have b1:0≤30-((nEs es+1:Nat):Int):=by omega
  generalize hm:nEs es+1=m at V V2 b1 hl;have HM:=LH hm;clear hm;go_in;go_wp2_with fail;refine(Q6 _ _ _ _ _ _ _ _ _ (h.k K0) (by omega) (by omega)).mono ?_;rw[HM.out,V2.out];rintro e w1 ⟨rfl,p1⟩;go_wp2_with fail;exact zB hQ ⟨zE (by rw[V.out];omega),K0.trans p1⟩
 ·have V:=LH (xU hl)
  have V2:=LH (QQ (s:=nEs es+1) (left:=30) (by omega));clear hl;go_in;go_wp2_with fail;refine(Q6 _ _ _ _ _ _ _ _ _ (h.k K0) (by omega) (by omega)).mono ?_;rw[V2.out];rintro e w1 ⟨rfl,p1⟩;go_wp2_with fail;exact zB hQ ⟨zE V.out.symm,K0.trans p1⟩
theorem kP(N:Nat):∀(op num:Int) (es:List zK),nEs es<N→∀(a:Option Addr) (n c p:Nat) (D:Nat→Prop) (m:Int) (w:World),Rd w D (zJ es) (.slice a n c)→¬D p→w.rowIs p 3 1 (fun _=>.int .i64 m)→0≤m→m≤30→
  Calls Tryz.prog 73 #[.agg #[.int .i64 op,.int .i64 num,.slice a n c],.pointer (some ⟨p,0,none⟩)] w fun e w'=>e=.returned (.bool (decide (m+((nEs es+1:Nat):Int)≤30)))∧
   (m+((nEs es+1:Nat):Int)≤30→w'.rowIs p 3 1 (fun _=>.int .i64 (m+((nEs es+1:Nat):Int))))∧Ext (·=p) w w':=by
 induction N with
 |zero=>intro _ _ es h;omega
 |succ N ihN=>
 intro op num es hN a n c p D m w h hDp hp h0 h1;refine zV fun Q hQ=>?_;obtain⟨e1,hnc,hm,hat⟩:=zx h;have HL:=LH e1;have HA:=LH hat;have IH:=LH (fun(j:Nat) (hj:j<es.length)=>ihN (eAt es j).op (eAt es j).num (eAt es j).kids (by have:=yN es hj;have:=uF (eAt es j);omega));have hbox:∀k,D k→k≠p:=fun k hk e=>hDp (e▸hk);clear e1 hat ihN hN;have hpl:=hp.lt;have v0:=hp.cell (i:=0) (by omega);have f0:=hp.frozen 0;have X0:Ext (·=p) w ((w.setCell ⟨p,0,none⟩ (.int .i64 (m+1))).alloc (.cells #[.int .i64 op,.int .i64 num,.slice a n c] 58)):=((Ext.refl (·=p) w).setCell (p:=⟨p,0,none⟩) (.inr rfl) _).alloc _;have R0:((w.setCell ⟨p,0,none⟩ (.int .i64 (m+1))).alloc (.cells #[.int .i64 op,.int .i64 num,.slice a n c] 58)).rowIs p 3 1 (fun _=>.int .i64 (m+1)):=
  ((hp.set 0 (.int .i64 (m+1))).alloc _).congr (fun i hi=>by rw[if_pos (by omega)])
 have HR0:=LH R0;have HX0:=LH X0;have Hh:=LH h;clear hp X0 R0 h;by_cases hm30:30<m+1
 ·go_in
  go_wp2;exact zB hQ ⟨qK (decide_eq_false (by omega)).symm,fun h=>by omega,HX0.out⟩
 go_in;go_wp2;go_loopw [19] (fun iv wr=>∃j:Nat,j≤n∧iv=.int .i64 j∧Hid (wr.rowIs p 3 1 (fun _=>.int .i64 (m+1+(nEs (es.take j):Int))))∧m+1+(nEs (es.take j):Int)≤30∧Ext (·=p) w wr) (fun i _=>n-(intOf i).toNat)
 case atStart=>exact⟨0,Nat.zero_le _,rfl,by show World.rowIs _ _ _ _ _;simpa [nEs]using HR0.out,by simp only[List.take_zero,nEs];omega,HX0.out⟩
 case round=>
  obtain⟨j,hj,rfl,hR,hsz,hX⟩:=hrel;by_cases hlt:j<n
  ·have hst:=vQ es (j:=j) (by have:=HL.out;omega)
   have hee:=uF (eAt es j);obtain⟨b,o,rfl,hd,a2,n2,c2,d0,d1,d2,r2⟩:=HA.out j hlt;obtain⟨g0,g1,g2⟩:=hX.e3 (hbox _ hd) d0 d1 d2;have q2:=(r2.ext hX (fun k hk=>hbox k hk)).k (zQ.al wr (.cells #[.int .i64 (eAt es j).op,.int .i64 (eAt es j).num,.slice a2 n2 c2] 58));have hR2:=LH (hR.out.alloc (.cells #[.int .i64 (eAt es j).op,.int .i64 (eAt es j).num,.slice a2 n2 c2] 58));have hX2:Ext (·=p) w (wr.alloc (.cells #[.int .i64 (eAt es j).op,.int .i64 (eAt es j).num,.slice a2 n2 c2] 58)):=hX.trans (zQ.to (zQ.al _ _));have HS:=LH hst;have HE:=LH hee;clear d0 d1 d2 r2 hst hee hR hX;by_cases hf:m+1+(nEs (es.take (j+1)):Int)≤30
   ·have V:Hid (decide (m+1+(nEs (es.take j):Int)+((nEs (eAt es j).kids+1:Nat):Int)≤30)=true):=by
     have:=HS.out;have:=HE.out;exact decide_eq_true (by omega)
    go_wp2_with fail;refine(IH.out j (by have:=HL.out;omega) _ _ _ p D _ _ q2 hDp hR2.out (by omega) hsz).mono ?_;rw[V.out];rintro e w1 ⟨rfl,hr1,p1⟩;have HR1:Hid (w1.rowIs p 3 1 (fun _=>.int .i64 (m+1+(nEs (es.take (j+1)):Int)))):=by
     have:=HS.out;have:=HE.out;show World.rowIs _ _ _ _ _;rw[show m+1+(nEs (es.take (j+1)):Int)=m+1+(nEs (es.take j):Int)+((nEs (eAt es j).kids+1:Nat):Int)by omega];exact hr1 (by omega)
    clear hr1;go_wp2_with fail;go_roundw
    case rel=>exact⟨j+1,by omega,by go_num,HR1,hf,hX2.trans p1⟩
    case measure=>simp[intOf];omega
   ·have V:Hid (decide (m+1+(nEs (es.take j):Int)+((nEs (eAt es j).kids+1:Nat):Int)≤30)=false):=by
     have:=HS.out;have:=HE.out;exact decide_eq_false (by omega)
    have hle:=jA es (j+1);have V2:¬m+((nEs es+1:Nat):Int)≤30:=by omega
    have V3:=LH (decide_eq_false V2);go_wp2_with fail;refine(IH.out j (by have:=HL.out;omega) _ _ _ p D _ _ q2 hDp hR2.out (by omega) hsz).mono ?_;rw[V.out];rintro e w1 ⟨rfl,_,p1⟩;go_wp2_with fail;exact zB hQ ⟨qK V3.out.symm,fun h=>by omega,hX2.trans p1⟩
  ·have HJ:=LH (show j=n by omega)
   have hfin:m+((nEs es+1:Nat):Int)=m+1+(nEs (es.take j):Int):=by
    have e:=HJ.out;subst e;rw[List.take_of_length_le (Nat.le_of_eq HL.out)];omega
   have HF:=LH hfin;clear hfin;go_wp2;exact zB hQ ⟨qK (decide_eq_true (by rw[HF.out];exact hsz)).symm,fun _=>by rw[HF.out];exact hR.out,hX⟩
theorem kZ(op num:Int)(es:List zK)(a:Option Addr)(n c:Nat)(D:Nat→Prop)(w:World)(h:Rd w D (zJ es) (.slice a n c)):
  Calls Tryz.prog 31 #[.agg #[.int .i64 op,.int .i64 num,.slice a n c]] w fun e w'=>e=.returned (.int .i64 (j9 es))∧zQ w w':=by
 refine zV fun Q hQ=>?_;have K0:=zQ.al w (.cells #[.int .i64 op,.int .i64 num,.slice a n c] 58);have K1:=zQ.al (w.alloc (.cells #[.int .i64 op,.int .i64 num,.slice a n c] 58)) (.cells #[.int .i64 0] 3);have R:=zP (w.alloc (.cells #[.int .i64 op,.int .i64 num,.slice a n c] 58)) #[.int .i64 0] 3;simp only[World.size_alloc]at R;replace R:=R.congr (g:=fun _=>.int .i64 0) (fun i hi=>by
  obtain rfl:i=0:=by simpa using hi
  rfl)
 have h':=((h.lt.k K0).k K1);have HR:=LH R;clear R;by_cases hl:nEs es+1≤30
 ·have V:=LH (gj hl)
  have V2:Hid (decide (0+((nEs es+1:Nat):Int)≤30)=true):=decide_eq_true (by omega);have hl2:0+((nEs es+1:Nat):Int)≤30:=by omega
  go_in;go_wp2_with fail;refine(kP _ op num es (Nat.lt_succ_self _) _ _ _ (w.heap.size+1) _ 0 _ h' (by omega) HR.out (by omega) (by omega)).mono ?_;rw[V2.out];rintro e w1 ⟨rfl,hr,p1⟩;have v0:=(hr hl2).cell (i:=0) (by omega);clear hr;go_wp2_with fail;exact zB hQ ⟨zE (by rw[V.out];omega),(K0.trans K1).then_ p1 (fun q hq e=>by omega)⟩
 ·have V:=LH (xU hl)
  have V2:Hid (decide (0+((nEs es+1:Nat):Int)≤30)=false):=decide_eq_false (by omega);clear hl;go_in;go_wp2_with fail;refine(kP _ op num es (Nat.lt_succ_self _) _ _ _ (w.heap.size+1) _ 0 _ h' (by omega) HR.out (by omega) (by omega)).mono ?_;rw[V2.out];rintro e w1 ⟨rfl,_,p1⟩;go_wp2_with fail;exact zB hQ ⟨zE V.out.symm,(K0.trans K1).then_ p1 (fun q hq e=>by omega)⟩
structure Ev(w:World)(s:Nat)(D:Nat→Prop)(x:zK)(a:Option Addr)(n c:Nat):Prop where
 r:w.rowIs s 58 3 (fun i=> #[Value.int .i64 x.op,Value.int .i64 x.num,Value.slice a n c].getD i undef)
 k:Rd w D (zJ x.kids) (.slice a n c)
section
variable {w w':World}{s:Nat}{D D':Nat→Prop}{x:zK}{a:Option Addr}{n c:Nat}
theorem Ev.born(w:World)(D:Nat→Prop)(x:zK)(a:Option Addr)(n c:Nat)(h:Rd w D (zJ x.kids) (.slice a n c)):Ev (w.alloc (.cells #[.int .i64 x.op,.int .i64 x.num,.slice a n c] 58)) w.heap.size D x a n c:=
 ⟨zP w #[.int .i64 x.op,.int .i64 x.num,.slice a n c] 58,h.k (zQ.al _ _)⟩
theorem Ev.ext{S:Nat→Prop}(h:Ev w s D x a n c)(hx:Ext S w w')(h0:¬S s)(h1:∀k,D k→¬S k):Ev w' s D x a n c:=⟨zX h.r hx h0,h.k.ext hx h1⟩
theorem Ev.keep(h:Ev w s D x a n c)(hx:zQ w w'):Ev w' s D x a n c:=⟨rwk h.r hx,h.k.k hx⟩
theorem Ev.mono(h:Ev w s D x a n c)(hd:∀k,D k→D' k):Ev w s D' x a n c:=⟨h.r,h.k.mono hd⟩
theorem Ev.v0(h:Ev w s D x a n c):w.cell? ⟨s,0,none⟩=some (.int .i64 x.op):=h.r.cell (i:=0) (by omega)
theorem Ev.v1(h:Ev w s D x a n c):w.cell? ⟨s,1,none⟩=some (.int .i64 x.num):=h.r.cell (i:=1) (by omega)
theorem Ev.v2(h:Ev w s D x a n c):w.cell? ⟨s,2,none⟩=some (.slice a n c):=h.r.cell (i:=2) (by omega)
theorem Ev.g0(h:Ev w s D x a n c):w.frozen? ⟨s,0,none⟩=false:=h.r.frozen 0
theorem Ev.g1(h:Ev w s D x a n c):w.frozen? ⟨s,1,none⟩=false:=h.r.frozen 1
theorem Ev.g2(h:Ev w s D x a n c):w.frozen? ⟨s,2,none⟩=false:=h.r.frozen 2
theorem Ev.lt(h:Ev w s D x a n c):s<w.heap.size:=h.r.lt
theorem J5(w:World)(s:Nat)(v0 v1 v2:Value):Ext (fun q=>q=s) w (((w.setCell ⟨s,0,none⟩ v0).setCell ⟨s,1,none⟩ v1).setCell ⟨s,2,none⟩ v2):=
 (((Ext.refl (fun q=>q=s) w).setCell (p:=⟨s,0,none⟩) (.inr rfl) v0).setCell (p:=⟨s,1,none⟩) (.inr rfl) v1).setCell (p:=⟨s,2,none⟩) (.inr rfl) v2
theorem Ev.store(h:Ev w s D x a n c){y:zK}{a':Option Addr}{n' c':Nat}(hy:Rd w D' (zJ y.kids) (.slice a' n' c'))(hs:∀k,D' k→k≠s):
  Ev (((w.setCell ⟨s,0,none⟩ (.int .i64 y.op)).setCell ⟨s,1,none⟩ (.int .i64 y.num)).setCell ⟨s,2,none⟩ (.slice a' n' c')) s D' y a' n' c':=by
 refine⟨(((h.r.set 0 _).set 1 _).set 2 _).congr (fun i hi=>?_),hy.ext (J5 _ _ _ _ _) hs⟩;rcases(show i=0∨i=1∨i=2 by omega)with rfl|rfl|rfl<;>rfl
end
theorem Yy(ds:List zG)(fs:List zA)(B g b:Nat)(hG:jZ ds fs)(t:Int)(vars:List Int)(av:Option Addr)(nv cv:Nat)(p:Int)(a0:Option Addr)(n0 c0:Nat)(a1:Option Addr)(n1 c1:Nat)(bi:Int)(hbi:bi=(b:Int))(w:World)(hT:T5 t)(hpg:PG w g ds fs a0 n0 c0 a1 n1 c1)(hv:Rd w (fun k=>k≠g) (zY vars) (.slice av nv cv))(hnv:nv+3*b≤900)(hr:Rdx w B g p)(hBw:B≤w.heap.size)(hp:p+2*pkG b≤900000000000):
  Calls Tryz.prog 221 #[.pointer (some ⟨g,0,none⟩),.agg #[.slice a0 n0 c0,.slice a1 n1 c1],.slice av nv cv,.int .i64 t,.int .i64 bi] w (Qx B g p (2*pkG b) 1000 30 w):=by
 subst hbi;refine zV fun Q hQ=>?_;have HG:=LH hG;have HP:=LH hpg;have BW:=LH hBw;have hgB:=hr.gB;have hgw:g<w.heap.size:=by omega
 have K1:=(zQ.al w (.cells #[.slice a0 n0 c0,.slice a1 n1 c1] 44)).trans (zQ.al _ (.cells #[.int .i64 0,.int .i64 0,.slice none 0 0] 58));have B0:=LH (Bx.born w (.slice a0 n0 c0) (.slice a1 n1 c1));have hds:=hG.len4;have hfs:=hG.len;have hn0:n0≤4:=by have:=(zT hpg.d).1;omega
 have hn1:n1≤4:=by have:=(qZ hpg.f).1;omega
 have qr:=LH (hr.keep K1);have X1:=LH (zQ.to (S:=(·=g)) K1);have HT:=LH hT;have HV:=LH hv;have HPP:=LH hp;have hpb:=gv b;have PD:=LH (hpg.k K1);have VD:=LH (hv.k K1);have BD:Hid (B≤((w.alloc (.cells #[.slice a0 n0 c0,.slice a1 n1 c1] 44)).alloc (.cells #[.int .i64 0,.int .i64 0,.slice none 0 0] 58)).heap.size):=Nat.le_trans hBw X1.out.size;clear hG hpg hv hr hBw hT hp K1;go_in;go_wp2_with fail;refine(Kz ds fs B g b HG.out t vars _ _ _ p _ _ _ _ _ _ _ HT.out PD.out VD.out hnv qr.out BD.out (by have:=HPP.out;omega)).mono ?_;rintro e w2 ⟨x,ax,nx,cx,q2,rfl,rx,fx,sx,r2,hq2,x2⟩;have b2x:=LH ((B0.out.ext x2 hgw).k (zQ.al w2 (.cells #[.int .i64 x.op,.int .i64 x.num,.slice ax nx cx] 58)));have X2:=LH ((X1.out.trans x2).trans (zQ.to (zQ.al w2 (.cells #[.int .i64 x.op,.int .i64 x.num,.slice ax nx cx] 58))));have R2:=LH (r2.keep (zQ.al w2 (.cells #[.int .i64 x.op,.int .i64 x.num,.slice ax nx cx] 58)));have hs2:=x2.size;have hws:w.heap.size+2≤w2.heap.size:=by simp at hs2;omega
 have E2:=LH (Ev.born w2 (fun k=>w.heap.size+2≤k∧k≠w2.heap.size) x ax nx cx (rx.lt.mono (fun k hk=>⟨by have:=hk.1;simp at this;omega,by omega⟩)));have FX:=LH fx;have HQ2:=LH hq2;have SX:Hid (b<3→nE x≤4):=sx;clear rx fx sx r2 hq2 x2 hs2 PD VD BD;go_wp2_with fail;go_loopw [4] (fun sv wr=>∃(k:Nat) (y:zK) (ay:Option Addr) (ny cy:Nat) (q:Int),sv=.int .i64 k∧k≤b∧Hid (Ev wr w2.heap.size (fun k=>w.heap.size+2≤k∧k≠w2.heap.size) y ay ny cy)∧Hid (yL (yX 1000) y)∧Hid (k<3→nE y≤4)∧Hid (Rdx wr B g q)∧Hid (q≤p+2*pkG b-pkG k)∧Hid (Bx wr w.heap.size (.slice a0 n0 c0) (.slice a1 n1 c1))∧Hid (Ext (·=g) w wr)) (fun i _=>(intOf i).toNat)
 case atStart=>exact⟨b,x,ax,nx,cx,q2,rfl,Nat.le_refl _,E2,FX,SX,R2,by show _≤_;have:=HQ2.out;omega,b2x,X2⟩
 case round=>
  clear E2 FX SX R2 HQ2 b2x;obtain⟨k,y,ay,ny,cy,q,rfl,hk,hE,hF,hS,hR,hq,hB,hX⟩:=hrel;have e0:=hE.out.v0;have e1:=hE.out.v1;have e2:=hE.out.v2;have HN:=LH (jT y.op y.num y.kids ay ny cy _ wr hE.out.k);by_cases hl:nEs y.kids+1≤30∨k≤2
  ·have HW:Hid (j9 y.kids<0→k≤2):=fun h=>hl.resolve_left (fun h1=>by rw[gj h1]at h;omega)
   clear hl;by_cases hz:j9 y.kids<0;all_goals
    first
     |(have hk2:(k:Int)≤2:=by have:=HW.out hz;omega)
     |(have hz2:0≤j9 y.kids:=by omega)
    go_wp2_with fail;refine HN.out.mono ?_;rintro e w3 ⟨rfl,k3⟩;have bz:=LH (hB.out.k k3);have EZ:=LH (hE.out.keep k3);have X9:=LH (hX.out.trans (zQ.to k3));have R9:=LH (hR.out.keep k3);have HZ9:Hid (nEs y.kids+1≤30):=by
     show _≤_;by_cases hn:nEs y.kids+1≤30
     ·exact hn
     ·have h1:=hS.out (by have:=HW.out (by rw[xU hn];omega);omega)
      rw[uF]at h1;omega
    have e0:=EZ.out.v0;have e1:=EZ.out.v1;have e2:=EZ.out.v2;have hff:=LH ((vT _ _).1 hF.out);have HQ9:=LH (show q≤p+2*pkG b by have:=hq.out;have:=gv k;omega);have RX:=LH (EZ.out.k.mono (D':=fun k=>w.heap.size+2≤k) (fun k h=>h.1));clear k3;have bz:=bz.out;have u0:=bz.u0;have u1:=bz.u1;have u2:=bz.u2;have f0:=bz.f0;have f1:=bz.f1;have f2:=bz.f2;clear bz;go_wp2_with fail;refine bodyPost_ret (v:=.agg #[.int .i64 y.op,.int .i64 y.num,.slice ay ny cy]) (by simp[results,Tryz.results221,go_sem,u0,u1,u2]) rfl (zB hQ ?_);exact vC (ks:=y.kids) X9.out R9.out BW.out RX.out hff.out.1 hff.out.2 HQ9.out HZ9.out
  ·have h1:¬nEs y.kids+1≤30:=fun h=>hl (.inl h)
   have h2:¬k≤2:=fun h=>hl (.inr h);have hz:j9 y.kids= -1:=xU h1;have HZ:=LH hz;have hk2:(2:Int)<(k:Int):=by omega
   clear hl h1 hz;obtain⟨c,hc⟩:∃c,c=k / 2:=⟨_,rfl⟩;have HC:=LH hc;have hck:c<k:=by omega
   have hhalf:=LH (show 8*pkG c≤2*pkG k by rw[hc];exact WY (by omega));have hdv:IntKind.i64.wrap (Int.tdiv (k:Int) 2)=(c:Int):=by rw[IntWalk.i64_quo _ _ (by omega),HC.out,Int.natCast_ediv];rfl
   have hdv3:IntKind.i64.wrap (c:Int)=(c:Int):=IntWalk.i64_in _ (by omega);have hdv2:(k:Int) / 2=(c:Int):=by rw[HC.out,Int.natCast_ediv];rfl
   have hpc:=gv c;clear hc;go_wp2_with fail;refine HN.out.mono ?_;rw[HZ.out];rintro e w3 ⟨rfl,k3⟩;have B3:=LH (hB.out.k k3);have EZ:=LH (hE.out.keep k3);have X3:=LH (hX.out.trans (zQ.to k3));have R3:=LH (hR.out.keep k3);have PD:=LH (HP.out.ext X3.out);have VD:=LH (HV.out.g X3.out);have BD:Hid (B≤w3.heap.size):=Nat.le_trans BW.out X3.out.size;have x0:=B3.out.x0;have x1:=B3.out.x1;clear k3 e0 e1 e2;go_wp2_with fail;refine(Kz ds fs B g c HG.out t vars _ _ _ q _ _ _ _ _ _ _ HT.out PD.out VD.out (by omega) R3.out BD.out (by have:=HPP.out;have:=hq.out;have:=hhalf.out;omega)).mono ?_;rintro e w4 ⟨z,az,nz,cz,q4,rfl,rz,fz,sz,r4,hq4,x4⟩;have E4:=LH (EZ.out.ext x4 (by have:=X2.out.size;omega) (fun k hk=>by omega));have hl2:=EZ.out.lt;have g0:=E4.out.v0;have g1:=E4.out.v1;have g2:=E4.out.v2;have f0:=E4.out.g0;have f1:=E4.out.g1;have f2:=E4.out.g2;have Y:=LH (J5 w4 w2.heap.size (.int .i64 z.op) (.int .i64 z.num) (.slice az nz cz));have E5:=LH (E4.out.store (y:=z) (D':=fun k=>w.heap.size+2≤k∧k≠w2.heap.size) (rz.mono (fun k hk=>by omega)) (fun k hk=>hk.2));have B5:=LH ((B3.out.ext x4 hgw).extS Y.out (by omega) (by omega));have X5:=LH ((X3.out.trans x4).then_ Y.out (fun i hi h=>by omega));have R5:=LH (r4.ext Y.out (fun k hk h=>by have:=BW.out;omega));have HF5:=LH fz;have HS5:Hid (c<3→nE z≤4):=sz;have HQ5:=LH (show q4≤p+2*pkG b-pkG c by have:=hq.out;have:=hhalf.out;omega);clear rz fz sz r4 hq4 x4 x0 x1;go_wp2_with fail;go_roundw
   case rel=>exact⟨c,z,az,nz,cz,q4,rfl,by omega,E5,HF5,HS5,R5,HQ5,B5,X5⟩
   case measure=>simp[intOf];omega
end Go.Proofs.YtkapldpmjkdmcaaGreat
