/- The reference's types of expressions: let, if, apply; all together. -/
import Derived.Test.YtkapldpmjkdmcaaGreatUAG
namespace Go.Proofs.YtkapldpmjkdmcaaGreat
open Go.RowKit
set_option maxRecDepth 100000
set_option maxHeartbeats 4000000
theorem Hk{es:List zK}(h:es.length=2):nE (eAt es 0)+nE (eAt es 1)=nEs es:=by
 match es,h with
 | [a,b],_=>simp[eAt,nEs]
section
variable (ds:List zG)(fs:List zA)(hok:qJ ds (fs.map zM)=true)
include hok
theorem Ex(num:Int)(es:List zK)(IH0:∀j,j<es.length→TyS ds fs (eAt es j)):TyS ds fs (.mk 13 num es):=by
 intro a0 n0 c0 a1 n1 c1 av nv cv vars a n c w hp hv h hlen hall;refine zV fun Q hQ=>?_;change Rd w (fun _=>True) (zJ es) _ at h;rw[nE]at hlen;simp only[zK.op,zK.num];have ht:=(zL hok).1;have hf:=Few.of_ok ht;have hd4:=z9 ht;have hn0:n0≤4:=by have:=(zT hp.1).1;omega
 have hnv:nv≤1049576:=by have:=(zN hv).1;omega
 have K0:=(zQ.al w (.cells #[.slice a0 n0 c0,.slice a1 n1 c1] 44)).trans (zQ.al _ (.cells #[.int .i64 13,.int .i64 num,.slice a n c] 58));have R0:=(zP w #[.slice a0 n0 c0,.slice a1 n1 c1] 44).alloc (.cells #[.int .i64 13,.int .i64 num,.slice a n c] 58);have R1:=zP (w.alloc (.cells #[.slice a0 n0 c0,.slice a1 n1 c1] 44)) #[.int .i64 13,.int .i64 num,.slice a n c] 58;simp only[World.size_alloc]at R1;obtain⟨e1,hnc,hnm,hat⟩:=zx h;have HL:=LH e1;have HA:=LH hat;have hn30:n≤262394:=by have:=qq es;omega
 have HOK:=LH hok;have HAll:=LH hall;have HLen:=LH hlen;have HT:=LH ht;have IH:=LH IH0;have TL:=LH (yy ds (fs.map zM) vars es);clear e1 hat hok hall ht IH0;have V0:=LH (LR ds (fs.map zM) vars num es);by_cases hz:num=0
 case neg=>
  have V:=LH (show tyE ds (fs.map zM) vars (.mk 13 num es)= -1 by rw[V0.out,if_neg (fun h=>hz h.1)]);have hz':(num==0)=false:=by simpa using hz
  clear hz;go_in;go_wp2_with fail;exact zB hQ ⟨zE V.out.symm,K0⟩
 subst hz;by_cases hn:n=2
 case neg=>
  have V:=LH (show tyE ds (fs.map zM) vars (.mk 13 0 es)= -1 by rw[V0.out,if_neg (fun h=>hn (by rw[←HL.out];exact h.2))]);have hz':((n:Int)==2)=false:=by simp;omega
  clear hn;go_in;go_wp2_with fail;exact zB hQ ⟨zE V.out.symm,K0⟩
 subst hn;obtain⟨b,o,rfl,_⟩:=HA.out 0 (by omega);have HE0:Hid (0<es.length):=by have:=HL.out;show _<_;omega
 have HB0:Hid (vars.length+4*nE (eAt es 0)≤1049576):=by have:=yN es HE0.out;have:=HLen.out;show _≤_;omega
 have HE1:Hid (1<es.length):=by have:=HL.out;show _<_;omega
 have HB1:Hid (vars.length+4*nE (eAt es 1)≤1049576):=by have:=yN es HE1.out;have:=HLen.out;show _≤_;omega
 obtain⟨t,hz0⟩:∃t,tyE ds (fs.map zM) vars (eAt es 0)=t:=⟨_,rfl⟩;have HZ0:=LH hz0;clear hz0;have V1:=LH (show tyE ds (fs.map zM) vars (.mk 13 0 es)=if 0≤t then tyE ds (fs.map zM) (vars++ [t]) (eAt es 1)else -1 by rw[V0.out,if_pos ⟨rfl,HL.out⟩,ZS _ _ _ HL.out,HZ0.out]);have TR:=LH (XU HOK.out (eAt es 0) HAll.out);have qp:=hp.k K0;have qv:=hv.k K0;by_cases ht:0≤t
 case neg=>
  have V:=LH (show tyE ds (fs.map zM) vars (.mk 13 0 es)= -1 by rw[V1.out,if_neg ht]);go_in;go_wp2_with fail;generalize ((w.alloc (.cells #[.slice a0 n0 c0,.slice a1 n1 c1] 44)).alloc (.cells #[.int .i64 13,.int .i64 0,.slice (some ⟨b,o,none⟩) 2 c] 58))=W at*;have x0:=R0.cell (i:=0) (by simp);have x1:=R0.cell (i:=1) (by simp);have y0:=R1.cell (i:=0) (by simp);have y1:=R1.cell (i:=1) (by simp);have y2:=R1.cell (i:=2) (by simp);simp at x0 x1 y0 y1 y2;have qpd:=qp.kd;have qvd:=qv.kd;obtain⟨b',o',e',_,ak,nk,ck,dk0,dk1,dk2,rk⟩:=HA.out 0 (by omega);injection e' with e'
  injection e' with e' e''
  subst e' e'';obtain⟨k0,k1,k2⟩:=K0.k3 dk0 dk1 dk2;simp only[Nat.zero_mul,Nat.add_zero]at k0 k1 k2;have qk:=(rk.k K0).kd;clear dk0 dk1 dk2 rk;have pc:=Ext.refl0 W;go_region_held3 (fun w'=>w'.cell? ⟨w.heap.size,0,none⟩=some (.slice a0 n0 c0)∧w'.cell? ⟨w.heap.size,1,none⟩=some (.slice a1 n1 c1)∧w'.cell? ⟨w.heap.size+1,2,none⟩=some (.slice (some ⟨b,o,none⟩) 2 c)∧w'.cell? ⟨b,o,none⟩=some (.int .i64 (eAt es 0).op)∧w'.cell? ⟨b,o+1,none⟩=some (.int .i64 (eAt es 0).num)∧w'.cell? ⟨b,o+2,none⟩=some (.slice ak nk ck))
   (first|exact⟨zQ.at pc x0,zQ.at pc x1,zQ.at pc y2,zQ.at pc k0,zQ.at pc k1,zQ.at pc k2⟩|exact⟨zQ.at (Ext.trans pc (zQ.al _ _)) x0,zQ.at (Ext.trans pc (zQ.al _ _)) x1,zQ.at (Ext.trans pc (zQ.al _ _)) y2,zQ.at (Ext.trans pc (zQ.al _ _)) k0,zQ.at (Ext.trans pc (zQ.al _ _)) k1,zQ.at (Ext.trans pc (zQ.al _ _)) k2⟩|go_keep)
   (first
    |(go_at_call 99;refine(IH.out 0 HE0.out _ _ _ _ _ _ _ _ _ _ _ _ _ _ (qpd.k pc) (qvd.k pc) (qk.k pc) HB0.out HAll.out).mono ?_;rw[HZ0.out];rintro e w2 ⟨rfl,p2⟩;replace pc:=Ext.trans pc p2))
  have KE:=LH (K0.trans (zQ.dt pc));have R0':=LH (zX R0 (zQ.dt pc) (fun h=>h));have R1':=LH (zX R1 (zQ.dt pc) (fun h=>h));have qp2:=qp.k (zQ.dt pc);have qv2:=qv.k (zQ.dt pc);clear pc qpd qvd qk k0 k1 k2 x0 x1 y0 y1 y2 R0 R1 K0 qp qv hp hv h;go_wp2_with fail;exact zB hQ ⟨zE V.out.symm,KE.out⟩
 obtain⟨u,hz1⟩:∃u,tyE ds (fs.map zM) (vars++ [t]) (eAt es 1)=u:=⟨_,rfl⟩;have HZ1:=LH hz1;clear hz1;have V:=LH (show tyE ds (fs.map zM) vars (.mk 13 0 es)=u by rw[V1.out,if_pos ht,HZ1.out]);have HT1:Hid (isT ds.length t=true):=by
  rcases TR.out with h|h
  ·rw[HZ0.out]at h;omega
  ·rw[HZ0.out]at h;exact h
 have HB1':Hid ((vars++ [t]).length+4*nE (eAt es 1)≤1049576):=by
  have h1:=Hk HL.out;have h2:=Ww (eAt es 0);have:=HLen.out;show _≤_;rw[List.length_append,List.length_singleton];omega
 go_in;go_wp2_with fail;generalize ((w.alloc (.cells #[.slice a0 n0 c0,.slice a1 n1 c1] 44)).alloc (.cells #[.int .i64 13,.int .i64 0,.slice (some ⟨b,o,none⟩) 2 c] 58))=W at*;have x0:=R0.cell (i:=0) (by simp);have x1:=R0.cell (i:=1) (by simp);have y0:=R1.cell (i:=0) (by simp);have y1:=R1.cell (i:=1) (by simp);have y2:=R1.cell (i:=2) (by simp);simp at x0 x1 y0 y1 y2;have qpd:=qp.kd;have qvd:=qv.kd;obtain⟨b',o',e',_,ak,nk,ck,dk0,dk1,dk2,rk⟩:=HA.out 0 (by omega);injection e' with e'
 injection e' with e' e''
 subst e' e'';obtain⟨k0,k1,k2⟩:=K0.k3 dk0 dk1 dk2;simp only[Nat.zero_mul,Nat.add_zero]at k0 k1 k2;have qk:=(rk.k K0).kd;clear dk0 dk1 dk2 rk;have pc:=Ext.refl0 W;go_region_held3 (fun w'=>w'.cell? ⟨w.heap.size,0,none⟩=some (.slice a0 n0 c0)∧w'.cell? ⟨w.heap.size,1,none⟩=some (.slice a1 n1 c1)∧w'.cell? ⟨w.heap.size+1,2,none⟩=some (.slice (some ⟨b,o,none⟩) 2 c)∧w'.cell? ⟨b,o,none⟩=some (.int .i64 (eAt es 0).op)∧w'.cell? ⟨b,o+1,none⟩=some (.int .i64 (eAt es 0).num)∧w'.cell? ⟨b,o+2,none⟩=some (.slice ak nk ck))
  (first|exact⟨zQ.at pc x0,zQ.at pc x1,zQ.at pc y2,zQ.at pc k0,zQ.at pc k1,zQ.at pc k2⟩|exact⟨zQ.at (Ext.trans pc (zQ.al _ _)) x0,zQ.at (Ext.trans pc (zQ.al _ _)) x1,zQ.at (Ext.trans pc (zQ.al _ _)) y2,zQ.at (Ext.trans pc (zQ.al _ _)) k0,zQ.at (Ext.trans pc (zQ.al _ _)) k1,zQ.at (Ext.trans pc (zQ.al _ _)) k2⟩|go_keep)
  (first
   |(go_at_call 99;refine(IH.out 0 HE0.out _ _ _ _ _ _ _ _ _ _ _ _ _ _ (qpd.k pc) (qvd.k pc) (qk.k pc) HB0.out HAll.out).mono ?_;rw[HZ0.out];rintro e w2 ⟨rfl,p2⟩;replace pc:=Ext.trans pc p2))
 have KE:=LH (K0.trans (zQ.dt pc));have R0':=LH (zX R0 (zQ.dt pc) (fun h=>h));have R1':=LH (zX R1 (zQ.dt pc) (fun h=>h));have qp2:=qp.k (zQ.dt pc);have qv2:=qv.k (zQ.dt pc);clear pc qpd qvd qk k0 k1 k2 x0 x1 y0 y1 y2 R0 R1 K0 qp qv hp hv h;have x0:=R0'.out.cell (i:=0) (by simp);have x1:=R0'.out.cell (i:=1) (by simp);have y2:=R1'.out.cell (i:=2) (by simp);simp at x0 x1 y2;have qpd:=qp2.kd;have qvd:=qv2.kd;obtain⟨b',o',e',_,ak,nk,ck,dk0,dk1,dk2,rk⟩:=HA.out 1 (by omega);injection e' with e'
 injection e' with e' e''
 subst e' e'';obtain⟨k0,k1,k2⟩:=KE.out.k3 dk0 dk1 dk2;simp only[Nat.one_mul]at k0 k1 k2;have qk:=(rk.k KE.out).kd;clear dk0 dk1 dk2 rk;go_wp2_with fail;have pc:=Ext.refl0 w2;go_region_held3 (fun w'=>w'.cell? ⟨w.heap.size,0,none⟩=some (.slice a0 n0 c0)∧w'.cell? ⟨w.heap.size,1,none⟩=some (.slice a1 n1 c1)∧w'.cell? ⟨w.heap.size+1,2,none⟩=some (.slice (some ⟨b,o,none⟩) 2 c)∧w'.cell? ⟨b,o+3,none⟩=some (.int .i64 (eAt es 1).op)∧w'.cell? ⟨b,o+3+1,none⟩=some (.int .i64 (eAt es 1).num)∧w'.cell? ⟨b,o+3+2,none⟩=some (.slice ak nk ck))
  (first|exact⟨zQ.at pc x0,zQ.at pc x1,zQ.at pc y2,zQ.at pc k0,zQ.at pc k1,zQ.at pc k2⟩|exact⟨zQ.at (Ext.trans pc (zQ.al _ _)) x0,zQ.at (Ext.trans pc (zQ.al _ _)) x1,zQ.at (Ext.trans pc (zQ.al _ _)) y2,zQ.at (Ext.trans pc (zQ.al _ _)) k0,zQ.at (Ext.trans pc (zQ.al _ _)) k1,zQ.at (Ext.trans pc (zQ.al _ _)) k2⟩|go_keep)
  (first
   |(go_at_call 149;have il:=Rd.toInts (j5 w2.drew 0 3 [t] #[.int .i64 t] 1 (Nat.zero_le _) rfl rfl (by omega)).t;replace pc:=Ext.trans pc (zQ.al w2.drew (.cells #[.int .i64 t] 3));refine(yw _ _ _ vars _ _ _ _ [t] _ _ (Rd.toInts (qvd.k pc)) (by omega) il (by omega)).mono ?_;rintro e wb ⟨xa,xn,xc,rfl,hxc,ox,pb⟩;replace pc:=Ext.trans pc pb)
   |(go_at_call 99;refine(IH.out 1 HE1.out _ _ _ _ _ _ _ _ _ _ _ _ _ _ (qpd.k pc) ((ox.read.toRd hxc (by have:=ox.1;simp at this;omega)).t) (qk.k pc) HB1'.out (jS HAll.out (UW HT1.out))).mono ?_;rw[HZ1.out];rintro e w4 ⟨rfl,p4⟩;replace pc:=Ext.trans pc p4))
 have KF:=LH (KE.out.trans (zQ.dt pc));go_wp2_with fail;exact zB hQ ⟨zE V.out.symm,KF.out⟩
theorem MT(num:Int)(es:List zK)(IH0:∀j,j<es.length→TyS ds fs (eAt es j)):TyS ds fs (.mk 7 num es):=by
 intro a0 n0 c0 a1 n1 c1 av nv cv vars a n c w hp hv h hlen hall;refine zV fun Q hQ=>?_;change Rd w (fun _=>True) (zJ es) _ at h;rw[nE]at hlen;simp only[zK.op,zK.num];have ht:=(zL hok).1;have hf:=Few.of_ok ht;have hd4:=z9 ht;have hn0:n0≤4:=by have:=(zT hp.1).1;omega
 have hnv:nv≤1049576:=by have:=(zN hv).1;omega
 have K0:=(zQ.al w (.cells #[.slice a0 n0 c0,.slice a1 n1 c1] 44)).trans (zQ.al _ (.cells #[.int .i64 7,.int .i64 num,.slice a n c] 58));have R0:=(zP w #[.slice a0 n0 c0,.slice a1 n1 c1] 44).alloc (.cells #[.int .i64 7,.int .i64 num,.slice a n c] 58);have R1:=zP (w.alloc (.cells #[.slice a0 n0 c0,.slice a1 n1 c1] 44)) #[.int .i64 7,.int .i64 num,.slice a n c] 58;simp only[World.size_alloc]at R1;obtain⟨e1,hnc,hnm,hat⟩:=zx h;have HL:=LH e1;have HA:=LH hat;have hn30:n≤262394:=by have:=qq es;omega
 have HOK:=LH hok;have HAll:=LH hall;have HLen:=LH hlen;have HT:=LH ht;have IH:=LH IH0;have TL:=LH (yy ds (fs.map zM) vars es);clear e1 hat hok hall ht IH0;have V0:=LH (NB ds (fs.map zM) vars num es);by_cases hz:num=0
 case neg=>
  have V:=LH (show tyE ds (fs.map zM) vars (.mk 7 num es)= -1 by rw[V0.out,if_neg (fun h=>hz h.1)]);have hz':(num==0)=false:=by simpa using hz
  clear hz;go_in;go_wp2_with fail;go_quiet (fail);go_wp2_with fail;exact zB hQ ⟨zE V.out.symm,by first|exact K0.drew|exact K0.drewN _⟩
 subst hz;by_cases hn:n=3
 case neg=>
  have V:=LH (show tyE ds (fs.map zM) vars (.mk 7 0 es)= -1 by rw[V0.out,if_neg (fun h=>hn (by rw[←HL.out];exact h.2.1))]);have hz':((n:Int)==3)=false:=by simp;omega
  clear hn;go_in;go_wp2_with fail;go_quiet (fail);go_wp2_with fail;exact zB hQ ⟨zE V.out.symm,by first|exact K0.drew|exact K0.drewN _⟩
 subst hn;obtain⟨b,o,rfl,_⟩:=HA.out 0 (by omega);have HE0:Hid (0<es.length):=by have:=HL.out;show _<_;omega
 have HB0:Hid (vars.length+4*nE (eAt es 0)≤1049576):=by have:=yN es HE0.out;have:=HLen.out;show _≤_;omega
 have HE1:Hid (1<es.length):=by have:=HL.out;show _<_;omega
 have HB1:Hid (vars.length+4*nE (eAt es 1)≤1049576):=by have:=yN es HE1.out;have:=HLen.out;show _≤_;omega
 have HE2:Hid (2<es.length):=by have:=HL.out;show _<_;omega
 have HB2:Hid (vars.length+4*nE (eAt es 2)≤1049576):=by have:=yN es HE2.out;have:=HLen.out;show _≤_;omega
 obtain⟨t,hz0⟩:∃t,tyE ds (fs.map zM) vars (eAt es 0)=t:=⟨_,rfl⟩;have HZ0:=LH hz0;clear hz0;obtain⟨t1,hz1⟩:∃t1,tyE ds (fs.map zM) vars (eAt es 1)=t1:=⟨_,rfl⟩;have HZ1:=LH hz1;clear hz1;obtain⟨t2,hz2⟩:∃t2,tyE ds (fs.map zM) vars (eAt es 2)=t2:=⟨_,rfl⟩;have HZ2:=LH hz2;clear hz2;have qp:=hp.k K0;have qv:=hv.k K0;have V1:Hid (tyE ds (fs.map zM) vars (.mk 7 0 es)=if t=0 then gk (kE ds (fs.map zM) vars es [[], []])else -1):=by
  show _=_;rw[V0.out,kJ _ _ _ HE0.out,HZ0.out];by_cases h:t=0
  ·rw[if_pos ⟨rfl,HL.out,h⟩,if_pos h]
  ·rw[if_neg (fun h'=>h h'.2.2),if_neg h]
 have T1:=LH (show iAt (kE ds (fs.map zM) vars es [[], []]) 0=t1 by rw[gG _ _ _ HE1.out,←HZ1.out];simp[cAt]);have T2:=LH (show iAt (kE ds (fs.map zM) vars es [[], []]) 1=t2 by rw[gG _ _ _ HE2.out,←HZ2.out];simp[cAt]);have TLL:=LH (show(kE ds (fs.map zM) vars es [[], []]).length=2 by rw[vA,HL.out]);have GE:Hid (-1≤t1):=by have:=(LV HOK.out (eAt es 1) HAll.out).1;rw[HZ1.out]at this;exact this
 by_cases ht:t=0
 case neg=>
  have V:=LH (show tyE ds (fs.map zM) vars (.mk 7 0 es)= -1 by rw[V1.out,if_neg ht]);have ht':(t==0)=false:=by simpa using ht
  clear ht;go_in;go_wp2_with fail;generalize ((w.alloc (.cells #[.slice a0 n0 c0,.slice a1 n1 c1] 44)).alloc (.cells #[.int .i64 7,.int .i64 0,.slice (some ⟨b,o,none⟩) 3 c] 58))=W at*;have x0:=R0.cell (i:=0) (by simp);have x1:=R0.cell (i:=1) (by simp);have y0:=R1.cell (i:=0) (by simp);have y1:=R1.cell (i:=1) (by simp);have y2:=R1.cell (i:=2) (by simp);simp at x0 x1 y0 y1 y2;have qpd:=qp.kd;have qvd:=qv.kd;obtain⟨b',o',e',_,ak,nk,ck,dk0,dk1,dk2,rk⟩:=HA.out 0 (by omega);injection e' with e'
  injection e' with e' e''
  subst e' e'';obtain⟨k0,k1,k2⟩:=K0.k3 dk0 dk1 dk2;simp only[Nat.zero_mul,Nat.add_zero]at k0 k1 k2;have qk:=(rk.k K0).kd;clear dk0 dk1 dk2 rk;have pc:=Ext.refl0 W;go_region_held3 (fun w'=>w'.cell? ⟨w.heap.size,0,none⟩=some (.slice a0 n0 c0)∧w'.cell? ⟨w.heap.size,1,none⟩=some (.slice a1 n1 c1)∧w'.cell? ⟨w.heap.size+1,2,none⟩=some (.slice (some ⟨b,o,none⟩) 3 c)∧w'.cell? ⟨b,o,none⟩=some (.int .i64 (eAt es 0).op)∧w'.cell? ⟨b,o+1,none⟩=some (.int .i64 (eAt es 0).num)∧w'.cell? ⟨b,o+2,none⟩=some (.slice ak nk ck))
   (first|exact⟨zQ.at pc x0,zQ.at pc x1,zQ.at pc y2,zQ.at pc k0,zQ.at pc k1,zQ.at pc k2⟩|exact⟨zQ.at (Ext.trans pc (zQ.al _ _)) x0,zQ.at (Ext.trans pc (zQ.al _ _)) x1,zQ.at (Ext.trans pc (zQ.al _ _)) y2,zQ.at (Ext.trans pc (zQ.al _ _)) k0,zQ.at (Ext.trans pc (zQ.al _ _)) k1,zQ.at (Ext.trans pc (zQ.al _ _)) k2⟩|go_keep)
   (first
    |(go_at_call 99;refine(IH.out 0 HE0.out _ _ _ _ _ _ _ _ _ _ _ _ _ _ (qpd.k pc) (qvd.k pc) (qk.k pc) HB0.out HAll.out).mono ?_;rw[HZ0.out];rintro e w2 ⟨rfl,p2⟩;replace pc:=Ext.trans pc p2))
  have KE:=LH (K0.trans (zQ.dt pc));have R0':=LH (zX R0 (zQ.dt pc) (fun h=>h));have R1':=LH (zX R1 (zQ.dt pc) (fun h=>h));have qp2:=qp.k (zQ.dt pc);have qv2:=qv.k (zQ.dt pc);clear pc qpd qvd qk k0 k1 k2 x0 x1 y0 y1 y2 R0 R1 K0 qp qv hp hv h;go_wp2_with fail;exact zB hQ ⟨zE V.out.symm,KE.out⟩
 subst ht;by_cases h12:t2=t1
 ·have h12':(t2==t1)=true:=by simpa using h12
  have V:Hid (tyE ds (fs.map zM) vars (.mk 7 0 es)=t1):=by
   show _=_;rw[V1.out,if_pos rfl];refine JY (by rw[TLL.out];omega) GE.out (fun i hi=>?_);rw[TLL.out]at hi;rcases(show i=0∨i=1 by omega)with rfl|rfl
   ·exact T1.out
   ·rw[T2.out];exact h12
  clear h12;go_in;go_wp2_with fail;generalize ((w.alloc (.cells #[.slice a0 n0 c0,.slice a1 n1 c1] 44)).alloc (.cells #[.int .i64 7,.int .i64 0,.slice (some ⟨b,o,none⟩) 3 c] 58))=W at*;have x0:=R0.cell (i:=0) (by simp);have x1:=R0.cell (i:=1) (by simp);have y0:=R1.cell (i:=0) (by simp);have y1:=R1.cell (i:=1) (by simp);have y2:=R1.cell (i:=2) (by simp);simp at x0 x1 y0 y1 y2;have qpd:=qp.kd;have qvd:=qv.kd;obtain⟨b',o',e',_,ak,nk,ck,dk0,dk1,dk2,rk⟩:=HA.out 0 (by omega);injection e' with e'
  injection e' with e' e''
  subst e' e'';obtain⟨k0,k1,k2⟩:=K0.k3 dk0 dk1 dk2;simp only[Nat.zero_mul,Nat.add_zero]at k0 k1 k2;have qk:=(rk.k K0).kd;clear dk0 dk1 dk2 rk;have pc:=Ext.refl0 W;go_region_held3 (fun w'=>w'.cell? ⟨w.heap.size,0,none⟩=some (.slice a0 n0 c0)∧w'.cell? ⟨w.heap.size,1,none⟩=some (.slice a1 n1 c1)∧w'.cell? ⟨w.heap.size+1,2,none⟩=some (.slice (some ⟨b,o,none⟩) 3 c)∧w'.cell? ⟨b,o,none⟩=some (.int .i64 (eAt es 0).op)∧w'.cell? ⟨b,o+1,none⟩=some (.int .i64 (eAt es 0).num)∧w'.cell? ⟨b,o+2,none⟩=some (.slice ak nk ck))
   (first|exact⟨zQ.at pc x0,zQ.at pc x1,zQ.at pc y2,zQ.at pc k0,zQ.at pc k1,zQ.at pc k2⟩|exact⟨zQ.at (Ext.trans pc (zQ.al _ _)) x0,zQ.at (Ext.trans pc (zQ.al _ _)) x1,zQ.at (Ext.trans pc (zQ.al _ _)) y2,zQ.at (Ext.trans pc (zQ.al _ _)) k0,zQ.at (Ext.trans pc (zQ.al _ _)) k1,zQ.at (Ext.trans pc (zQ.al _ _)) k2⟩|go_keep)
   (first
    |(go_at_call 99;refine(IH.out 0 HE0.out _ _ _ _ _ _ _ _ _ _ _ _ _ _ (qpd.k pc) (qvd.k pc) (qk.k pc) HB0.out HAll.out).mono ?_;rw[HZ0.out];rintro e w2 ⟨rfl,p2⟩;replace pc:=Ext.trans pc p2))
  have KE:=LH (K0.trans (zQ.dt pc));have R0':=LH (zX R0 (zQ.dt pc) (fun h=>h));have R1':=LH (zX R1 (zQ.dt pc) (fun h=>h));have qp2:=qp.k (zQ.dt pc);have qv2:=qv.k (zQ.dt pc);clear pc qpd qvd qk k0 k1 k2 x0 x1 y0 y1 y2 R0 R1 K0 qp qv hp hv h;have x0:=R0'.out.cell (i:=0) (by simp);have x1:=R0'.out.cell (i:=1) (by simp);have y2:=R1'.out.cell (i:=2) (by simp);simp at x0 x1 y2;have qpd:=qp2.kd;have qvd:=qv2.kd;obtain⟨b',o',e',_,ak,nk,ck,dk0,dk1,dk2,rk⟩:=HA.out 1 (by omega);injection e' with e'
  injection e' with e' e''
  subst e' e'';obtain⟨k0,k1,k2⟩:=KE.out.k3 dk0 dk1 dk2;simp only[Nat.one_mul]at k0 k1 k2;have qk:=(rk.k KE.out).kd;clear dk0 dk1 dk2 rk;go_wp2_with fail;have pc:=Ext.refl0 w2;go_region_held3 (fun w'=>w'.cell? ⟨w.heap.size,0,none⟩=some (.slice a0 n0 c0)∧w'.cell? ⟨w.heap.size,1,none⟩=some (.slice a1 n1 c1)∧w'.cell? ⟨w.heap.size+1,2,none⟩=some (.slice (some ⟨b,o,none⟩) 3 c)∧w'.cell? ⟨b,o+3,none⟩=some (.int .i64 (eAt es 1).op)∧w'.cell? ⟨b,o+3+1,none⟩=some (.int .i64 (eAt es 1).num)∧w'.cell? ⟨b,o+3+2,none⟩=some (.slice ak nk ck))
   (first|exact⟨zQ.at pc x0,zQ.at pc x1,zQ.at pc y2,zQ.at pc k0,zQ.at pc k1,zQ.at pc k2⟩|exact⟨zQ.at (Ext.trans pc (zQ.al _ _)) x0,zQ.at (Ext.trans pc (zQ.al _ _)) x1,zQ.at (Ext.trans pc (zQ.al _ _)) y2,zQ.at (Ext.trans pc (zQ.al _ _)) k0,zQ.at (Ext.trans pc (zQ.al _ _)) k1,zQ.at (Ext.trans pc (zQ.al _ _)) k2⟩|go_keep)
   (first
    |(go_at_call 99;refine(IH.out 1 HE1.out _ _ _ _ _ _ _ _ _ _ _ _ _ _ (qpd.k pc) (qvd.k pc) (qk.k pc) HB1.out HAll.out).mono ?_;rw[HZ1.out];rintro e w3 ⟨rfl,p3⟩;replace pc:=Ext.trans pc p3))
  have KF:=LH (KE.out.trans (zQ.dt pc));have R0'':=LH (zX R0'.out (zQ.dt pc) (fun h=>h));have R1'':=LH (zX R1'.out (zQ.dt pc) (fun h=>h));have qp3:=qp2.k (zQ.dt pc);have qv3:=qv2.k (zQ.dt pc);clear pc qpd qvd qk k0 k1 k2 x0 x1 y2 qp2 qv2;have x0:=R0''.out.cell (i:=0) (by simp);have x1:=R0''.out.cell (i:=1) (by simp);have y2:=R1''.out.cell (i:=2) (by simp);simp at x0 x1 y2;have qpd:=qp3.kd;have qvd:=qv3.kd;obtain⟨b',o',e',_,ak,nk,ck,dk0,dk1,dk2,rk⟩:=HA.out 2 (by omega);injection e' with e'
  injection e' with e' e''
  subst e' e'';obtain⟨k0,k1,k2⟩:=KF.out.k3 dk0 dk1 dk2;skip;have qk:=(rk.k KF.out).kd;clear dk0 dk1 dk2 rk;go_wp2_with fail;have pc:=Ext.refl0 w3;go_region_held3 (fun w'=>w'.cell? ⟨w.heap.size,0,none⟩=some (.slice a0 n0 c0)∧w'.cell? ⟨w.heap.size,1,none⟩=some (.slice a1 n1 c1)∧w'.cell? ⟨w.heap.size+1,2,none⟩=some (.slice (some ⟨b,o,none⟩) 3 c)∧w'.cell? ⟨b,o+2*3,none⟩=some (.int .i64 (eAt es 2).op)∧w'.cell? ⟨b,o+2*3+1,none⟩=some (.int .i64 (eAt es 2).num)∧w'.cell? ⟨b,o+2*3+2,none⟩=some (.slice ak nk ck))
   (first|exact⟨zQ.at pc x0,zQ.at pc x1,zQ.at pc y2,zQ.at pc k0,zQ.at pc k1,zQ.at pc k2⟩|exact⟨zQ.at (Ext.trans pc (zQ.al _ _)) x0,zQ.at (Ext.trans pc (zQ.al _ _)) x1,zQ.at (Ext.trans pc (zQ.al _ _)) y2,zQ.at (Ext.trans pc (zQ.al _ _)) k0,zQ.at (Ext.trans pc (zQ.al _ _)) k1,zQ.at (Ext.trans pc (zQ.al _ _)) k2⟩|go_keep)
   (first
    |(go_at_call 99;refine(IH.out 2 HE2.out _ _ _ _ _ _ _ _ _ _ _ _ _ _ (qpd.k pc) (qvd.k pc) (qk.k pc) HB2.out HAll.out).mono ?_;rw[HZ2.out];rintro e w4 ⟨rfl,p4⟩;replace pc:=Ext.trans pc p4))
  have KG:=LH (KF.out.trans (zQ.dt pc));go_wp2_with fail;exact zB hQ ⟨zE V.out.symm,KG.out⟩
 ·have h12':(t2==t1)=false:=by simpa using h12
  have V:Hid (tyE ds (fs.map zM) vars (.mk 7 0 es)= -1):=by
   show _=_;rw[V1.out,if_pos rfl,ZQ (i:=1) (by rw[TLL.out];omega) (.inl (by rw[T2.out,T1.out];exact h12))]
  clear h12;go_in;go_wp2_with fail;generalize ((w.alloc (.cells #[.slice a0 n0 c0,.slice a1 n1 c1] 44)).alloc (.cells #[.int .i64 7,.int .i64 0,.slice (some ⟨b,o,none⟩) 3 c] 58))=W at*;have x0:=R0.cell (i:=0) (by simp);have x1:=R0.cell (i:=1) (by simp);have y0:=R1.cell (i:=0) (by simp);have y1:=R1.cell (i:=1) (by simp);have y2:=R1.cell (i:=2) (by simp);simp at x0 x1 y0 y1 y2;have qpd:=qp.kd;have qvd:=qv.kd;obtain⟨b',o',e',_,ak,nk,ck,dk0,dk1,dk2,rk⟩:=HA.out 0 (by omega);injection e' with e'
  injection e' with e' e''
  subst e' e'';obtain⟨k0,k1,k2⟩:=K0.k3 dk0 dk1 dk2;simp only[Nat.zero_mul,Nat.add_zero]at k0 k1 k2;have qk:=(rk.k K0).kd;clear dk0 dk1 dk2 rk;have pc:=Ext.refl0 W;go_region_held3 (fun w'=>w'.cell? ⟨w.heap.size,0,none⟩=some (.slice a0 n0 c0)∧w'.cell? ⟨w.heap.size,1,none⟩=some (.slice a1 n1 c1)∧w'.cell? ⟨w.heap.size+1,2,none⟩=some (.slice (some ⟨b,o,none⟩) 3 c)∧w'.cell? ⟨b,o,none⟩=some (.int .i64 (eAt es 0).op)∧w'.cell? ⟨b,o+1,none⟩=some (.int .i64 (eAt es 0).num)∧w'.cell? ⟨b,o+2,none⟩=some (.slice ak nk ck))
   (first|exact⟨zQ.at pc x0,zQ.at pc x1,zQ.at pc y2,zQ.at pc k0,zQ.at pc k1,zQ.at pc k2⟩|exact⟨zQ.at (Ext.trans pc (zQ.al _ _)) x0,zQ.at (Ext.trans pc (zQ.al _ _)) x1,zQ.at (Ext.trans pc (zQ.al _ _)) y2,zQ.at (Ext.trans pc (zQ.al _ _)) k0,zQ.at (Ext.trans pc (zQ.al _ _)) k1,zQ.at (Ext.trans pc (zQ.al _ _)) k2⟩|go_keep)
   (first
    |(go_at_call 99;refine(IH.out 0 HE0.out _ _ _ _ _ _ _ _ _ _ _ _ _ _ (qpd.k pc) (qvd.k pc) (qk.k pc) HB0.out HAll.out).mono ?_;rw[HZ0.out];rintro e w2 ⟨rfl,p2⟩;replace pc:=Ext.trans pc p2))
  have KE:=LH (K0.trans (zQ.dt pc));have R0':=LH (zX R0 (zQ.dt pc) (fun h=>h));have R1':=LH (zX R1 (zQ.dt pc) (fun h=>h));have qp2:=qp.k (zQ.dt pc);have qv2:=qv.k (zQ.dt pc);clear pc qpd qvd qk k0 k1 k2 x0 x1 y0 y1 y2 R0 R1 K0 qp qv hp hv h;have x0:=R0'.out.cell (i:=0) (by simp);have x1:=R0'.out.cell (i:=1) (by simp);have y2:=R1'.out.cell (i:=2) (by simp);simp at x0 x1 y2;have qpd:=qp2.kd;have qvd:=qv2.kd;obtain⟨b',o',e',_,ak,nk,ck,dk0,dk1,dk2,rk⟩:=HA.out 1 (by omega);injection e' with e'
  injection e' with e' e''
  subst e' e'';obtain⟨k0,k1,k2⟩:=KE.out.k3 dk0 dk1 dk2;simp only[Nat.one_mul]at k0 k1 k2;have qk:=(rk.k KE.out).kd;clear dk0 dk1 dk2 rk;go_wp2_with fail;have pc:=Ext.refl0 w2;go_region_held3 (fun w'=>w'.cell? ⟨w.heap.size,0,none⟩=some (.slice a0 n0 c0)∧w'.cell? ⟨w.heap.size,1,none⟩=some (.slice a1 n1 c1)∧w'.cell? ⟨w.heap.size+1,2,none⟩=some (.slice (some ⟨b,o,none⟩) 3 c)∧w'.cell? ⟨b,o+3,none⟩=some (.int .i64 (eAt es 1).op)∧w'.cell? ⟨b,o+3+1,none⟩=some (.int .i64 (eAt es 1).num)∧w'.cell? ⟨b,o+3+2,none⟩=some (.slice ak nk ck))
   (first|exact⟨zQ.at pc x0,zQ.at pc x1,zQ.at pc y2,zQ.at pc k0,zQ.at pc k1,zQ.at pc k2⟩|exact⟨zQ.at (Ext.trans pc (zQ.al _ _)) x0,zQ.at (Ext.trans pc (zQ.al _ _)) x1,zQ.at (Ext.trans pc (zQ.al _ _)) y2,zQ.at (Ext.trans pc (zQ.al _ _)) k0,zQ.at (Ext.trans pc (zQ.al _ _)) k1,zQ.at (Ext.trans pc (zQ.al _ _)) k2⟩|go_keep)
   (first
    |(go_at_call 99;refine(IH.out 1 HE1.out _ _ _ _ _ _ _ _ _ _ _ _ _ _ (qpd.k pc) (qvd.k pc) (qk.k pc) HB1.out HAll.out).mono ?_;rw[HZ1.out];rintro e w3 ⟨rfl,p3⟩;replace pc:=Ext.trans pc p3))
  have KF:=LH (KE.out.trans (zQ.dt pc));have R0'':=LH (zX R0'.out (zQ.dt pc) (fun h=>h));have R1'':=LH (zX R1'.out (zQ.dt pc) (fun h=>h));have qp3:=qp2.k (zQ.dt pc);have qv3:=qv2.k (zQ.dt pc);clear pc qpd qvd qk k0 k1 k2 x0 x1 y2 qp2 qv2;have x0:=R0''.out.cell (i:=0) (by simp);have x1:=R0''.out.cell (i:=1) (by simp);have y2:=R1''.out.cell (i:=2) (by simp);simp at x0 x1 y2;have qpd:=qp3.kd;have qvd:=qv3.kd;obtain⟨b',o',e',_,ak,nk,ck,dk0,dk1,dk2,rk⟩:=HA.out 2 (by omega);injection e' with e'
  injection e' with e' e''
  subst e' e'';obtain⟨k0,k1,k2⟩:=KF.out.k3 dk0 dk1 dk2;skip;have qk:=(rk.k KF.out).kd;clear dk0 dk1 dk2 rk;go_wp2_with fail;have pc:=Ext.refl0 w3;go_region_held3 (fun w'=>w'.cell? ⟨w.heap.size,0,none⟩=some (.slice a0 n0 c0)∧w'.cell? ⟨w.heap.size,1,none⟩=some (.slice a1 n1 c1)∧w'.cell? ⟨w.heap.size+1,2,none⟩=some (.slice (some ⟨b,o,none⟩) 3 c)∧w'.cell? ⟨b,o+2*3,none⟩=some (.int .i64 (eAt es 2).op)∧w'.cell? ⟨b,o+2*3+1,none⟩=some (.int .i64 (eAt es 2).num)∧w'.cell? ⟨b,o+2*3+2,none⟩=some (.slice ak nk ck))
   (first|exact⟨zQ.at pc x0,zQ.at pc x1,zQ.at pc y2,zQ.at pc k0,zQ.at pc k1,zQ.at pc k2⟩|exact⟨zQ.at (Ext.trans pc (zQ.al _ _)) x0,zQ.at (Ext.trans pc (zQ.al _ _)) x1,zQ.at (Ext.trans pc (zQ.al _ _)) y2,zQ.at (Ext.trans pc (zQ.al _ _)) k0,zQ.at (Ext.trans pc (zQ.al _ _)) k1,zQ.at (Ext.trans pc (zQ.al _ _)) k2⟩|go_keep)
   (first
    |(go_at_call 99;refine(IH.out 2 HE2.out _ _ _ _ _ _ _ _ _ _ _ _ _ _ (qpd.k pc) (qvd.k pc) (qk.k pc) HB2.out HAll.out).mono ?_;rw[HZ2.out];rintro e w4 ⟨rfl,p4⟩;replace pc:=Ext.trans pc p4))
  have KG:=LH (KF.out.trans (zQ.dt pc));go_wp2_with fail;exact zB hQ ⟨zE V.out.symm,KG.out⟩
theorem FF(num:Int)(es:List zK)(IH0:∀j,j<es.length→TyS ds fs (eAt es j)):TyS ds fs (.mk 11 num es):=by
 intro a0 n0 c0 a1 n1 c1 av nv cv vars a n c w hp hv h hlen hall;refine zV fun Q hQ=>?_;change Rd w (fun _=>True) (zJ es) _ at h;rw[nE]at hlen;simp only[zK.op,zK.num];have ht:=(zL hok).1;have hf:=Few.of_ok ht;have hd4:=z9 ht;have hn0:n0≤4:=by have:=(zT hp.1).1;omega
 have hnv:nv≤1049576:=by have:=(zN hv).1;omega
 have K0:=(zQ.al w (.cells #[.slice a0 n0 c0,.slice a1 n1 c1] 44)).trans (zQ.al _ (.cells #[.int .i64 11,.int .i64 num,.slice a n c] 58));have R0:=(zP w #[.slice a0 n0 c0,.slice a1 n1 c1] 44).alloc (.cells #[.int .i64 11,.int .i64 num,.slice a n c] 58);have R1:=zP (w.alloc (.cells #[.slice a0 n0 c0,.slice a1 n1 c1] 44)) #[.int .i64 11,.int .i64 num,.slice a n c] 58;simp only[World.size_alloc]at R1;obtain⟨e1,hnc,hnm,hat⟩:=zx h;have HL:=LH e1;have HA:=LH hat;have hn30:n≤262394:=by have:=qq es;omega
 have HOK:=LH hok;have HAll:=LH hall;have HLen:=LH hlen;have HT:=LH ht;have IH:=LH IH0;have TL:=LH (yy ds (fs.map zM) vars es);clear e1 hat hok hall ht IH0;have V0:Hid (tyE ds (fs.map zM) vars (.mk 11 num es)=_):=(qH ds _ vars num es (by omega)).trans (VW ds (fs.map zM) num (jF ds (fs.map zM) vars es));by_cases hz:num=0
 case neg=>
  have V:=LH (show tyE ds (fs.map zM) vars (.mk 11 num es)= -1 by rw[V0.out,if_neg (fun h=>hz h.1)]);have hz':(num==0)=false:=by simpa using hz
  clear hz;go_in;go_wp2_with fail;exact zB hQ ⟨zE V.out.symm,K0⟩
 subst hz;by_cases hn:n=2
 case neg=>
  have V:=LH (show tyE ds (fs.map zM) vars (.mk 11 0 es)= -1 by rw[V0.out,if_neg (fun h=>hn (by rw[←HL.out,←TL.out];exact h.2.1))]);have hz':((n:Int)==2)=false:=by simp;omega
  clear hn;go_in;go_wp2_with fail;exact zB hQ ⟨zE V.out.symm,K0⟩
 subst hn;obtain⟨b,o,rfl,_⟩:=HA.out 0 (by omega);have HE0:Hid (0<es.length):=by have:=HL.out;show _<_;omega
 have HB0:Hid (vars.length+4*nE (eAt es 0)≤1049576):=by have:=yN es HE0.out;have:=HLen.out;show _≤_;omega
 have HE1:Hid (1<es.length):=by have:=HL.out;show _<_;omega
 have HB1:Hid (vars.length+4*nE (eAt es 1)≤1049576):=by have:=yN es HE1.out;have:=HLen.out;show _≤_;omega
 obtain⟨t,hz0⟩:∃t,tyE ds (fs.map zM) vars (eAt es 0)=t:=⟨_,rfl⟩;have HZ0:=LH hz0;clear hz0;obtain⟨t1,hz1⟩:∃t1,tyE ds (fs.map zM) vars (eAt es 1)=t1:=⟨_,rfl⟩;have HZ1:=LH hz1;clear hz1;have qp:=hp.k K0;have qv:=hv.k K0;have V1:Hid (tyE ds (fs.map zM) vars (.mk 11 0 es)=if xS ds t=true∧t1=(dAt ds (t.toNat-1)).from_ then(dAt ds (t.toNat-1)).to_ else -1):=by
  show _=_;rw[V0.out,ZX _ _ _ HE0.out,ZX _ _ _ HE1.out,HZ0.out,HZ1.out];by_cases h:xS ds t=true∧t1=(dAt ds (t.toNat-1)).from_
  ·rw[if_pos ⟨rfl,by rw[TL.out];exact HL.out,h⟩,if_pos h]
  ·rw[if_neg (fun h'=>h h'.2.2),if_neg h]
 clear V0;cases ha:xS ds t
 ·have V:=LH (show tyE ds (fs.map zM) vars (.mk 11 0 es)= -1 by rw[V1.out,if_neg (fun h=>by rw[ha]at h;cases h.1)])
  have HA0:=LH ha;clear ha;go_in;go_wp2_with fail;generalize ((w.alloc (.cells #[.slice a0 n0 c0,.slice a1 n1 c1] 44)).alloc (.cells #[.int .i64 11,.int .i64 0,.slice (some ⟨b,o,none⟩) 2 c] 58))=W at*;have x0:=R0.cell (i:=0) (by simp);have x1:=R0.cell (i:=1) (by simp);have y0:=R1.cell (i:=0) (by simp);have y1:=R1.cell (i:=1) (by simp);have y2:=R1.cell (i:=2) (by simp);simp at x0 x1 y0 y1 y2;have qpd:=qp.kd;have qvd:=qv.kd;obtain⟨b',o',e',_,ak,nk,ck,dk0,dk1,dk2,rk⟩:=HA.out 0 (by omega);injection e' with e'
  injection e' with e' e''
  subst e' e'';obtain⟨k0,k1,k2⟩:=K0.k3 dk0 dk1 dk2;simp only[Nat.zero_mul,Nat.add_zero]at k0 k1 k2;have qk:=(rk.k K0).kd;clear dk0 dk1 dk2 rk;have pc:=Ext.refl0 W;go_region_held3 (fun w'=>w'.cell? ⟨w.heap.size,0,none⟩=some (.slice a0 n0 c0)∧w'.cell? ⟨w.heap.size,1,none⟩=some (.slice a1 n1 c1)∧w'.cell? ⟨w.heap.size+1,2,none⟩=some (.slice (some ⟨b,o,none⟩) 2 c)∧w'.cell? ⟨b,o,none⟩=some (.int .i64 (eAt es 0).op)∧w'.cell? ⟨b,o+1,none⟩=some (.int .i64 (eAt es 0).num)∧w'.cell? ⟨b,o+2,none⟩=some (.slice ak nk ck))
   (first|exact⟨zQ.at pc x0,zQ.at pc x1,zQ.at pc y2,zQ.at pc k0,zQ.at pc k1,zQ.at pc k2⟩|exact⟨zQ.at (Ext.trans pc (zQ.al _ _)) x0,zQ.at (Ext.trans pc (zQ.al _ _)) x1,zQ.at (Ext.trans pc (zQ.al _ _)) y2,zQ.at (Ext.trans pc (zQ.al _ _)) k0,zQ.at (Ext.trans pc (zQ.al _ _)) k1,zQ.at (Ext.trans pc (zQ.al _ _)) k2⟩|go_keep)
   (first
    |(go_at_call 99;refine(IH.out 0 HE0.out _ _ _ _ _ _ _ _ _ _ _ _ _ _ (qpd.k pc) (qvd.k pc) (qk.k pc) HB0.out HAll.out).mono ?_;rw[HZ0.out];rintro e w2 ⟨rfl,p2⟩;replace pc:=Ext.trans pc p2))
  have KE:=LH (K0.trans (zQ.dt pc));have R0':=LH (zX R0 (zQ.dt pc) (fun h=>h));have R1':=LH (zX R1 (zQ.dt pc) (fun h=>h));have qp2:=qp.k (zQ.dt pc);have qv2:=qv.k (zQ.dt pc);clear pc qpd qvd qk k0 k1 k2 x0 x1 y0 y1 y2 R0 R1 K0 qp qv hp hv h;have x0:=R0'.out.cell (i:=0) (by simp);have x1:=R0'.out.cell (i:=1) (by simp);have y2:=R1'.out.cell (i:=2) (by simp);simp at x0 x1 y2;have qpd:=qp2.kd;have qvd:=qv2.kd;go_wp2_with fail;go_quiet ((go_at_call 152;exact Calls.quiet_of_same ((jx _ _ _ ds _ _ _ ((Rd.toDecls qp2.1).drewN _) (by omega)).mono fun _ _ q=>⟨q.1.trans (by rw[HA0.out]),q.2.symm⟩)));go_wp2_with fail;exact zB hQ ⟨zE V.out.symm,by first|exact KE.out.drew|exact KE.out.drewN _⟩
 obtain⟨g1,g2,_⟩:=uq ha;obtain⟨k,rfl⟩:∃k:Nat,t=(k:Int)+1:=⟨(t-1).toNat,by omega⟩;have hk:k<ds.length:=by omega
 have HK:=LH (show((k:Int)+1).toNat-1=k by omega);obtain⟨hdl,_,_,hda⟩:=zT hp.1;obtain⟨bd,od,rfl,_,ad2,nd2,cd2,dd0,dd1,_,_⟩:=hda k (by omega);have hkn:k<n0:=by omega
 have HA0:=LH ha;clear ha g1 g2 hda hdl;obtain⟨fr,hfr⟩:∃fr,(dAt ds k).from_=fr:=⟨_,rfl⟩;obtain⟨tq,hto⟩:∃tq,(dAt ds k).to_=tq:=⟨_,rfl⟩;rw[hfr]at dd0;rw[hto]at dd1;have HFR:=LH hfr;have HTO:=LH hto;clear hfr hto;have hw1:IntKind.i64.wrap (k:Int)=(k:Int):=by rw[IntWalk.i64_in _ (by omega)]
 have hw2:(0:Int)≤(k:Int):=by omega
 have hw3:(k:Int)<(n0:Int):=by omega
 by_cases he:t1=fr
 ·have he':(t1==fr)=true:=by simpa using he
  have V:=LH (show tyE ds (fs.map zM) vars (.mk 11 0 es)=tq by rw[V1.out,HK.out,HFR.out,HTO.out,if_pos ⟨HA0.out,he⟩]);clear he;go_in;go_wp2_with fail;generalize ((w.alloc (.cells #[.slice (some ⟨bd,od,none⟩) n0 c0,.slice a1 n1 c1] 44)).alloc (.cells #[.int .i64 11,.int .i64 0,.slice (some ⟨b,o,none⟩) 2 c] 58))=W at*;have x0:=R0.cell (i:=0) (by simp);have x1:=R0.cell (i:=1) (by simp);have y0:=R1.cell (i:=0) (by simp);have y1:=R1.cell (i:=1) (by simp);have y2:=R1.cell (i:=2) (by simp);simp at x0 x1 y0 y1 y2;have qpd:=qp.kd;have qvd:=qv.kd;obtain⟨b',o',e',_,ak,nk,ck,dk0,dk1,dk2,rk⟩:=HA.out 0 (by omega);injection e' with e'
  injection e' with e' e''
  subst e' e'';obtain⟨k0,k1,k2⟩:=K0.k3 dk0 dk1 dk2;simp only[Nat.zero_mul,Nat.add_zero]at k0 k1 k2;have qk:=(rk.k K0).kd;clear dk0 dk1 dk2 rk;have pc:=Ext.refl0 W;go_region_held3 (fun w'=>w'.cell? ⟨w.heap.size,0,none⟩=some (.slice (some ⟨bd,od,none⟩) n0 c0)∧w'.cell? ⟨w.heap.size,1,none⟩=some (.slice a1 n1 c1)∧w'.cell? ⟨w.heap.size+1,2,none⟩=some (.slice (some ⟨b,o,none⟩) 2 c)∧w'.cell? ⟨b,o,none⟩=some (.int .i64 (eAt es 0).op)∧w'.cell? ⟨b,o+1,none⟩=some (.int .i64 (eAt es 0).num)∧w'.cell? ⟨b,o+2,none⟩=some (.slice ak nk ck))
   (first|exact⟨zQ.at pc x0,zQ.at pc x1,zQ.at pc y2,zQ.at pc k0,zQ.at pc k1,zQ.at pc k2⟩|exact⟨zQ.at (Ext.trans pc (zQ.al _ _)) x0,zQ.at (Ext.trans pc (zQ.al _ _)) x1,zQ.at (Ext.trans pc (zQ.al _ _)) y2,zQ.at (Ext.trans pc (zQ.al _ _)) k0,zQ.at (Ext.trans pc (zQ.al _ _)) k1,zQ.at (Ext.trans pc (zQ.al _ _)) k2⟩|go_keep)
   (first
    |(go_at_call 99;refine(IH.out 0 HE0.out _ _ _ _ _ _ _ _ _ _ _ _ _ _ (qpd.k pc) (qvd.k pc) (qk.k pc) HB0.out HAll.out).mono ?_;rw[HZ0.out];rintro e w2 ⟨rfl,p2⟩;replace pc:=Ext.trans pc p2))
  have KE:=LH (K0.trans (zQ.dt pc));have R0':=LH (zX R0 (zQ.dt pc) (fun h=>h));have R1':=LH (zX R1 (zQ.dt pc) (fun h=>h));have qp2:=qp.k (zQ.dt pc);have qv2:=qv.k (zQ.dt pc);clear pc qpd qvd qk k0 k1 k2 x0 x1 y0 y1 y2 R0 R1 K0 qp qv hp hv h;have x0:=R0'.out.cell (i:=0) (by simp);have x1:=R0'.out.cell (i:=1) (by simp);have y2:=R1'.out.cell (i:=2) (by simp);simp at x0 x1 y2;have qpd:=qp2.kd;have qvd:=qv2.kd;obtain⟨b',o',e',_,ak,nk,ck,dk0,dk1,dk2,rk⟩:=HA.out 1 (by omega);injection e' with e'
  injection e' with e' e''
  subst e' e'';obtain⟨k0,k1,k2⟩:=KE.out.k3 dk0 dk1 dk2;simp only[Nat.one_mul]at k0 k1 k2;have qk:=(rk.k KE.out).kd;clear dk0 dk1 dk2 rk;have g0:=KE.out.q dd0;go_wp2_with fail;have pc:=Ext.refl0 w2;go_region_held3 (fun w'=>w'.cell? ⟨w.heap.size,0,none⟩=some (.slice (some ⟨bd,od,none⟩) n0 c0)∧w'.cell? ⟨w.heap.size,1,none⟩=some (.slice a1 n1 c1)∧w'.cell? ⟨w.heap.size+1,2,none⟩=some (.slice (some ⟨b,o,none⟩) 2 c)∧w'.cell? ⟨b,o+3,none⟩=some (.int .i64 (eAt es 1).op)∧w'.cell? ⟨b,o+3+1,none⟩=some (.int .i64 (eAt es 1).num)∧w'.cell? ⟨b,o+3+2,none⟩=some (.slice ak nk ck)∧w'.cell? ⟨bd,od+k*3,none⟩=some (.int .i64 fr))
   (first|exact⟨zQ.at pc x0,zQ.at pc x1,zQ.at pc y2,zQ.at pc k0,zQ.at pc k1,zQ.at pc k2,zQ.at pc g0⟩|exact⟨zQ.at (Ext.trans pc (zQ.al _ _)) x0,zQ.at (Ext.trans pc (zQ.al _ _)) x1,zQ.at (Ext.trans pc (zQ.al _ _)) y2,zQ.at (Ext.trans pc (zQ.al _ _)) k0,zQ.at (Ext.trans pc (zQ.al _ _)) k1,zQ.at (Ext.trans pc (zQ.al _ _)) k2,zQ.at (Ext.trans pc (zQ.al _ _)) g0⟩|go_keep)
   (first
    |(go_at_call 152;refine(jx _ _ _ ds _ _ _ (Rd.toDecls (qpd.k pc).1) (by omega)).mono ?_;rw[HA0.out];rintro e wz ⟨rfl,rfl⟩)
    |(go_at_call 99;refine(IH.out 1 HE1.out _ _ _ _ _ _ _ _ _ _ _ _ _ _ (qpd.k pc) (qvd.k pc) (qk.k pc) HB1.out HAll.out).mono ?_;rw[HZ1.out];rintro e w4 ⟨rfl,p4⟩;replace pc:=Ext.trans pc p4))
  have KF:=LH (KE.out.trans (zQ.dt pc));have u0:=zQ.at pc x0;have u1:=KF.out.q dd1;clear pc qpd qvd qk k0 k1 k2 x0 x1 y2 g0 dd0 dd1;go_wp2_with fail;exact zB hQ ⟨zE V.out.symm,KF.out⟩
 ·have he':(t1==fr)=false:=by simpa using he
  have V:=LH (show tyE ds (fs.map zM) vars (.mk 11 0 es)= -1 by rw[V1.out,HK.out,HFR.out,if_neg (fun h=>he h.2)]);clear he;go_in;go_wp2_with fail;generalize ((w.alloc (.cells #[.slice (some ⟨bd,od,none⟩) n0 c0,.slice a1 n1 c1] 44)).alloc (.cells #[.int .i64 11,.int .i64 0,.slice (some ⟨b,o,none⟩) 2 c] 58))=W at*;have x0:=R0.cell (i:=0) (by simp);have x1:=R0.cell (i:=1) (by simp);have y0:=R1.cell (i:=0) (by simp);have y1:=R1.cell (i:=1) (by simp);have y2:=R1.cell (i:=2) (by simp);simp at x0 x1 y0 y1 y2;have qpd:=qp.kd;have qvd:=qv.kd;obtain⟨b',o',e',_,ak,nk,ck,dk0,dk1,dk2,rk⟩:=HA.out 0 (by omega);injection e' with e'
  injection e' with e' e''
  subst e' e'';obtain⟨k0,k1,k2⟩:=K0.k3 dk0 dk1 dk2;simp only[Nat.zero_mul,Nat.add_zero]at k0 k1 k2;have qk:=(rk.k K0).kd;clear dk0 dk1 dk2 rk;have pc:=Ext.refl0 W;go_region_held3 (fun w'=>w'.cell? ⟨w.heap.size,0,none⟩=some (.slice (some ⟨bd,od,none⟩) n0 c0)∧w'.cell? ⟨w.heap.size,1,none⟩=some (.slice a1 n1 c1)∧w'.cell? ⟨w.heap.size+1,2,none⟩=some (.slice (some ⟨b,o,none⟩) 2 c)∧w'.cell? ⟨b,o,none⟩=some (.int .i64 (eAt es 0).op)∧w'.cell? ⟨b,o+1,none⟩=some (.int .i64 (eAt es 0).num)∧w'.cell? ⟨b,o+2,none⟩=some (.slice ak nk ck))
   (first|exact⟨zQ.at pc x0,zQ.at pc x1,zQ.at pc y2,zQ.at pc k0,zQ.at pc k1,zQ.at pc k2⟩|exact⟨zQ.at (Ext.trans pc (zQ.al _ _)) x0,zQ.at (Ext.trans pc (zQ.al _ _)) x1,zQ.at (Ext.trans pc (zQ.al _ _)) y2,zQ.at (Ext.trans pc (zQ.al _ _)) k0,zQ.at (Ext.trans pc (zQ.al _ _)) k1,zQ.at (Ext.trans pc (zQ.al _ _)) k2⟩|go_keep)
   (first
    |(go_at_call 99;refine(IH.out 0 HE0.out _ _ _ _ _ _ _ _ _ _ _ _ _ _ (qpd.k pc) (qvd.k pc) (qk.k pc) HB0.out HAll.out).mono ?_;rw[HZ0.out];rintro e w2 ⟨rfl,p2⟩;replace pc:=Ext.trans pc p2))
  have KE:=LH (K0.trans (zQ.dt pc));have R0':=LH (zX R0 (zQ.dt pc) (fun h=>h));have R1':=LH (zX R1 (zQ.dt pc) (fun h=>h));have qp2:=qp.k (zQ.dt pc);have qv2:=qv.k (zQ.dt pc);clear pc qpd qvd qk k0 k1 k2 x0 x1 y0 y1 y2 R0 R1 K0 qp qv hp hv h;have x0:=R0'.out.cell (i:=0) (by simp);have x1:=R0'.out.cell (i:=1) (by simp);have y2:=R1'.out.cell (i:=2) (by simp);simp at x0 x1 y2;have qpd:=qp2.kd;have qvd:=qv2.kd;obtain⟨b',o',e',_,ak,nk,ck,dk0,dk1,dk2,rk⟩:=HA.out 1 (by omega);injection e' with e'
  injection e' with e' e''
  subst e' e'';obtain⟨k0,k1,k2⟩:=KE.out.k3 dk0 dk1 dk2;simp only[Nat.one_mul]at k0 k1 k2;have qk:=(rk.k KE.out).kd;clear dk0 dk1 dk2 rk;have g0:=KE.out.q dd0;go_wp2_with fail;have pc:=Ext.refl0 w2;go_region_held3 (fun w'=>w'.cell? ⟨w.heap.size,0,none⟩=some (.slice (some ⟨bd,od,none⟩) n0 c0)∧w'.cell? ⟨w.heap.size,1,none⟩=some (.slice a1 n1 c1)∧w'.cell? ⟨w.heap.size+1,2,none⟩=some (.slice (some ⟨b,o,none⟩) 2 c)∧w'.cell? ⟨b,o+3,none⟩=some (.int .i64 (eAt es 1).op)∧w'.cell? ⟨b,o+3+1,none⟩=some (.int .i64 (eAt es 1).num)∧w'.cell? ⟨b,o+3+2,none⟩=some (.slice ak nk ck)∧w'.cell? ⟨bd,od+k*3,none⟩=some (.int .i64 fr))
   (first|exact⟨zQ.at pc x0,zQ.at pc x1,zQ.at pc y2,zQ.at pc k0,zQ.at pc k1,zQ.at pc k2,zQ.at pc g0⟩|exact⟨zQ.at (Ext.trans pc (zQ.al _ _)) x0,zQ.at (Ext.trans pc (zQ.al _ _)) x1,zQ.at (Ext.trans pc (zQ.al _ _)) y2,zQ.at (Ext.trans pc (zQ.al _ _)) k0,zQ.at (Ext.trans pc (zQ.al _ _)) k1,zQ.at (Ext.trans pc (zQ.al _ _)) k2,zQ.at (Ext.trans pc (zQ.al _ _)) g0⟩|go_keep)
   (first
    |(go_at_call 152;refine(jx _ _ _ ds _ _ _ (Rd.toDecls (qpd.k pc).1) (by omega)).mono ?_;rw[HA0.out];rintro e wz ⟨rfl,rfl⟩)
    |(go_at_call 99;refine(IH.out 1 HE1.out _ _ _ _ _ _ _ _ _ _ _ _ _ _ (qpd.k pc) (qvd.k pc) (qk.k pc) HB1.out HAll.out).mono ?_;rw[HZ1.out];rintro e w4 ⟨rfl,p4⟩;replace pc:=Ext.trans pc p4))
  have KF:=LH (KE.out.trans (zQ.dt pc));have u0:=zQ.at pc x0;have u1:=KF.out.q dd1;clear pc qpd qvd qk k0 k1 k2 x0 x1 y2 g0 dd0 dd1;go_wp2_with fail;exact zB hQ ⟨zE V.out.symm,KF.out⟩
theorem GD(N:Nat):∀e:zK,nE e<N→TyS ds fs e:=by
 induction N with
 |zero=>intro e h;omega
 |succ N ih=>
 intro e hN;obtain⟨op,num,es⟩:=e;have IH:∀j,j<es.length→TyS ds fs (eAt es j):=fun j hj=>ih _ (by have:=yN es hj;rw[nE]at hN;omega);by_cases hr:0≤op∧op≤13
 ·rcases(show op=0∨op=1∨op=2∨op=3∨op=4∨op=5∨op=6∨op=7∨op=8∨op=9∨op=10∨op=11∨op=12∨op=13 by omega)with rfl|rfl|rfl|rfl|rfl|rfl|rfl|rfl|rfl|rfl|rfl|rfl|rfl|rfl
  ·exact LE ds fs hok num es IH
  ·exact Hx ds fs hok num es IH
  ·exact MV ds fs hok num es IH
  ·exact L3 ds fs hok num es IH
  ·exact Lv ds fs hok num es IH
  ·exact Lx ds fs hok num es IH
  ·exact Lk ds fs hok num es IH
  ·exact MT ds fs hok num es IH
  ·exact Hw ds fs hok num es IH
  ·exact MH ds fs hok num es IH
  ·exact FZ ds fs hok num es IH
  ·exact FF ds fs hok num es IH
  ·exact EW ds fs hok num es IH
  ·exact Ex ds fs hok num es IH
 ·exact GJ ds fs hok op (by omega) num es IH
theorem Zy(e:zK):TyS ds fs e:=GD ds fs hok _ e (Nat.lt_succ_self _)
end
end Go.Proofs.YtkapldpmjkdmcaaGreat
