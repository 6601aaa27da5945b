/- ValidProgram of both packages. -/
import Derived.Test.YtkapldpmjkdmcaaGreatUBC
import Derived.Test.YtkapldpmjkdmcaaGreatUAR
import Derived.Test.YtkapldpmjkdmcaaGreatUAY
import Derived.Deep.RegionHeld3
import Derived.Test.YtkapldpmjkdmcaaGreatUAE
namespace Go.Proofs.YtkapldpmjkdmcaaGreat
open Go.RowKit
set_option maxRecDepth 100000
set_option maxHeartbeats 1000000
theorem vG(ds:List zG)(fs:List zA)(a0:Option Addr)(n0 c0:Nat)(a1:Option Addr)(n1 c1:Nat)(D0 D1:Nat→Prop)(w:World)(r0:Rd w D0 (z5 ds) (.slice a0 n0 c0))(r1:Rd w D1 (qW fs) (.slice a1 n1 c1)):
  Calls Tryz.prog 49 #[.agg #[.slice a0 n0 c0,.slice a1 n1 c1]] w fun e w'=>e=.returned (.bool (j4 ds fs))∧zQ w w':=by
 refine zV fun Q hQ=>?_;have K0:=zQ.al w (.cells #[.slice a0 n0 c0,.slice a1 n1 c1] 44);have hp:PR w ds fs a0 n0 c0 a1 n1 c1:=⟨r0.t,r1.t⟩;obtain⟨e1,hnc,hm,hat⟩:=qZ hp.2;have HL:=LH e1;have HA:=LH hat;clear e1 hat;cases v1:qJ ds (fs.map zM)
 ·have V:=LH (JA v1)
  have V1:=LH v1;clear v1;go_in;go_wp2_with fail;refine(j6 ds fs _ _ _ _ _ _ _ _ _ (r0.k K0) (r1.k K0)).mono ?_;rw[V1.out];rintro e w1 ⟨rfl,p1⟩;go_wp2_with fail;exact zB hQ ⟨qK V.out.symm,K0.trans p1⟩
 have V1:=LH v1;clear v1;go_in;go_wp2_with fail;refine(j6 ds fs _ _ _ _ _ _ _ _ _ (r0.k K0) (r1.k K0)).mono ?_;rw[V1.out];rintro e w1 ⟨rfl,p1⟩;have x1:=xQ p1 1;simp at x1;go_wp2_with fail;go_loopw [3] (fun iv wr=>∃j:Nat,j≤n1∧iv=.int .i64 j∧Hid (∀l,l<j→xw ds fs l=true)∧zQ (w.alloc (.cells #[.slice a0 n0 c0,.slice a1 n1 c1] 44)) wr) (fun i _=>n1-(intOf i).toNat)
 case atStart=>exact⟨0,Nat.zero_le _,rfl,fun j hj=>absurd hj (by omega),p1⟩
 case round=>
  obtain⟨wo,rfl⟩:∃wo:World,wo=wr:=⟨_,rfl⟩;obtain⟨j,hj,rfl,H,hK⟩:=hrel;have x0:=xQ hK 0;have x1:=xQ hK 1;simp at x0 x1;by_cases hlt:j<n1
  case neg=>
   have V:=LH (Jv (ds:=ds) V1.out (fun i hi=>H.out i (by have:=HL.out;omega)));clear x0;go_wp2_with fail;exact zB hQ ⟨qK V.out.symm,K0.trans hK⟩
  have HJ:Hid (j<fs.length):=by have:=HL.out;show _<_;omega
  have PT:=gH V1.out HJ.out;have AT:=LH PT.2.1;have PL:=LH PT.1;clear PT;obtain⟨b,o,rfl,hd,a3,n3,c3,a4,n4,c4,d0,d1,d2,d3,d4,r3,r4⟩:=HA.out j hlt;have hKw:=K0.trans hK;obtain⟨g0,g1,g2,g3,g4⟩:=hKw.k5 d0 d1 d2 d3 d4;have q0:=(hp.k hKw).kd;have q3:=((r3.t).k hKw).kd;have q4:=((r4.t).k hKw).kd;clear d0 d1 d2 d3 d4 r3 r4;obtain⟨nz,hnz⟩:∃z,j9 (fAt fs j).body.kids=z:=⟨_,rfl⟩;have HNZ:=LH hnz;by_cases hn:nz<0
  ·have V:=LH (JZ HJ.out (YN V1.out HJ.out (by rw[hnz];exact hn)))
   have HN1:Hid (j9 (fAt fs j).body.kids= -1):=by
    show _=_;refine xU (fun hc=>?_);rw[gj hc]at hnz;omega
   clear hnz hn;go_wp2_with fail;have pc:=Ext.refl0 wo;refine wp_region_held_drew (S:=fun w'=>w'.cell? ⟨w.heap.size,0,none⟩=some (.slice a0 n0 c0)∧w'.cell? ⟨w.heap.size,1,none⟩=some (.slice (some ⟨b,o,none⟩) n1 c1)∧w'.cell? ⟨b,o+j*5,none⟩=some (.slice a3 n3 c3)∧w'.cell? ⟨b,o+j*5+1,none⟩=some (.int .i64 (fAt fs j).result)∧w'.cell? ⟨b,o+j*5+2,none⟩=some (.int .i64 (fAt fs j).body.op)∧w'.cell? ⟨b,o+j*5+3,none⟩=some (.int .i64 (fAt fs j).body.num)∧w'.cell? ⟨b,o+j*5+4,none⟩=some (.slice a4 n4 c4)) (by kernel_rfl) ⟨zQ.at pc x0,zQ.at pc x1,zQ.at pc g0,zQ.at pc g1,zQ.at pc g2,zQ.at pc g3,zQ.at pc g4⟩ (fun hHeld=>?_);refine wT 0 hHeld ?_;try go_frame
   refine wT 1 hHeld ?_;try go_frame
   refine wT 2 hHeld ?_;try go_frame
   refine wT 3 hHeld ?_;try go_frame
   refine wT 4 hHeld ?_;try go_frame
   refine wT 5 hHeld ?_;try go_frame
   refine wO 6 (fun K hK=>?_);go_simp;refine(jT _ _ _ _ _ _ _ _ (q4.k pc)).mono ?_;rw[HN1.out];rintro e w2 ⟨rfl,p2⟩;replace pc:=Ext.trans pc p2;refine hK.out _ _ ⟨zQ.at pc x0,zQ.at pc x1,zQ.at pc g0,zQ.at pc g1,zQ.at pc g2,zQ.at pc g3,zQ.at pc g4⟩ (fun hHeld=>?_);clear hK K;try go_frame
   refine wT 7 hHeld ?_;try go_frame
   refine wT 8 hHeld ?_;try go_frame
   refine wS 9 hHeld ?_;try go_frame
   refine wS 10 hHeld ?_;try go_frame
   refine wS 11 hHeld ?_;try go_frame
   refine wS 12 hHeld ?_;try go_frame
   refine wS 13 hHeld ?_;try go_frame
   refine wS 14 hHeld ?_;try go_frame
   refine wS 15 hHeld ?_;try go_frame
   refine wS 16 hHeld ?_;try go_frame
   refine wS 17 hHeld ?_;try go_frame
   refine wS 18 hHeld ?_;try go_frame
   refine wS 19 hHeld ?_;try go_frame
   refine wS 20 hHeld ?_;try go_frame
   refine wS 21 hHeld ?_;try go_frame
   refine wS 22 hHeld ?_;try go_frame
   refine wS 23 hHeld ?_;try go_frame
   refine wS 24 hHeld ?_;try go_frame
   refine wS 25 hHeld ?_;try go_frame
   refine wS 26 hHeld ?_;try go_frame
   refine wS 27 hHeld ?_;try go_frame
   refine wS 28 hHeld ?_;try go_frame
   refine wS 29 hHeld ?_;try go_frame
   refine wT 30 hHeld ?_;try go_frame
   refine wpAnyH_done (by kernel_rfl) ?_ _;go_wp2_with fail;exact zB hQ ⟨qK V.out.symm,hKw.trans (zQ.dt pc)⟩
  have NN:=LH (VE V1.out HJ.out (by rw[hnz];exact hn));have HNE:Hid (nEs (fAt fs j).body.kids+1≤30):=by
   show _≤_;refine Decidable.byContradiction fun hc=>hn ?_;rw[←hnz,xU hc];omega
  have hn':decide (nz<0)=false:=decide_eq_false hn;have hn0:0≤nz:=by omega
  have HB:Hid ((fAt fs j).params.length+4*nE (fAt fs j).body≤1049576):=by
   have h1:=PL.out;have h2:=HNE.out;have h3:=uF (fAt fs j).body;show _≤_;omega
  obtain⟨z,hz⟩:∃z,tyE ds (fs.map zM) (fAt fs j).params (fAt fs j).body=z:=⟨_,rfl⟩;have HZ:=LH hz;clear hnz hn;by_cases ht:z=(fAt fs j).result
  ·have VB:=LH (show xw ds fs j=true by rw[NN.out,HZ.out];exact decide_eq_true ht)
   have ht':(z !=(fAt fs j).result)=false:=by simpa using ht
   clear ht;go_wp2_with fail;have pc:=Ext.refl0 wo;go_region_held3 (fun w'=>w'.cell? ⟨w.heap.size,0,none⟩=some (.slice a0 n0 c0)∧w'.cell? ⟨w.heap.size,1,none⟩=some (.slice (some ⟨b,o,none⟩) n1 c1)∧w'.cell? ⟨b,o+j*5,none⟩=some (.slice a3 n3 c3)∧w'.cell? ⟨b,o+j*5+1,none⟩=some (.int .i64 (fAt fs j).result)∧w'.cell? ⟨b,o+j*5+2,none⟩=some (.int .i64 (fAt fs j).body.op)∧w'.cell? ⟨b,o+j*5+3,none⟩=some (.int .i64 (fAt fs j).body.num)∧w'.cell? ⟨b,o+j*5+4,none⟩=some (.slice a4 n4 c4))
    (first|exact⟨zQ.at pc x0,zQ.at pc x1,zQ.at pc g0,zQ.at pc g1,zQ.at pc g2,zQ.at pc g3,zQ.at pc g4⟩|exact⟨zQ.at (Ext.trans pc (zQ.al _ _)) x0,zQ.at (Ext.trans pc (zQ.al _ _)) x1,zQ.at (Ext.trans pc (zQ.al _ _)) g0,zQ.at (Ext.trans pc (zQ.al _ _)) g1,zQ.at (Ext.trans pc (zQ.al _ _)) g2,zQ.at (Ext.trans pc (zQ.al _ _)) g3,zQ.at (Ext.trans pc (zQ.al _ _)) g4⟩|go_keep)
    (first
     |(go_at_call 98;refine(jT _ _ _ _ _ _ _ _ (q4.k pc)).mono ?_;rw[HNZ.out];rintro e w2 ⟨rfl,p2⟩;replace pc:=Ext.trans pc p2)
     |(go_at_call 99;refine(Zy ds fs V1.out (fAt fs j).body _ _ _ _ _ _ _ _ _ (fAt fs j).params _ _ _ _ (q0.k pc) (q3.k pc) (q4.k pc) HB.out AT.out).mono ?_;rw[HZ.out];rintro e w3 ⟨rfl,p3⟩;replace pc:=Ext.trans pc p3))
   have KE:=LH (hK.trans (zQ.dt pc));clear pc x0 x1 g0 g1 g2 g3 g4 q0 q3 q4;go_wp2_with fail;go_roundw
   case rel=>exact⟨j+1,by omega,by go_num,fun l hl=>by
    rcases Nat.lt_succ_iff_lt_or_eq.1 hl with h|rfl
    ·exact H.out l h
    ·exact VB.out,KE.out⟩
   case measure=>simp[intOf];omega
  ·have V:=LH (JZ HJ.out (show xw ds fs j=false by rw[NN.out,HZ.out];exact decide_eq_false ht))
   have ht':(z !=(fAt fs j).result)=true:=by simpa using ht
   clear ht;go_wp2_with fail;have pc:=Ext.refl0 wo;go_region_held3 (fun w'=>w'.cell? ⟨w.heap.size,0,none⟩=some (.slice a0 n0 c0)∧w'.cell? ⟨w.heap.size,1,none⟩=some (.slice (some ⟨b,o,none⟩) n1 c1)∧w'.cell? ⟨b,o+j*5,none⟩=some (.slice a3 n3 c3)∧w'.cell? ⟨b,o+j*5+1,none⟩=some (.int .i64 (fAt fs j).result)∧w'.cell? ⟨b,o+j*5+2,none⟩=some (.int .i64 (fAt fs j).body.op)∧w'.cell? ⟨b,o+j*5+3,none⟩=some (.int .i64 (fAt fs j).body.num)∧w'.cell? ⟨b,o+j*5+4,none⟩=some (.slice a4 n4 c4))
    (first|exact⟨zQ.at pc x0,zQ.at pc x1,zQ.at pc g0,zQ.at pc g1,zQ.at pc g2,zQ.at pc g3,zQ.at pc g4⟩|exact⟨zQ.at (Ext.trans pc (zQ.al _ _)) x0,zQ.at (Ext.trans pc (zQ.al _ _)) x1,zQ.at (Ext.trans pc (zQ.al _ _)) g0,zQ.at (Ext.trans pc (zQ.al _ _)) g1,zQ.at (Ext.trans pc (zQ.al _ _)) g2,zQ.at (Ext.trans pc (zQ.al _ _)) g3,zQ.at (Ext.trans pc (zQ.al _ _)) g4⟩|go_keep)
    (first
     |(go_at_call 98;refine(jT _ _ _ _ _ _ _ _ (q4.k pc)).mono ?_;rw[HNZ.out];rintro e w2 ⟨rfl,p2⟩;replace pc:=Ext.trans pc p2)
     |(go_at_call 99;refine(Zy ds fs V1.out (fAt fs j).body _ _ _ _ _ _ _ _ _ (fAt fs j).params _ _ _ _ (q0.k pc) (q3.k pc) (q4.k pc) HB.out AT.out).mono ?_;rw[HZ.out];rintro e w3 ⟨rfl,p3⟩;replace pc:=Ext.trans pc p3))
   go_wp2_with fail;exact zB hQ ⟨qK V.out.symm,hKw.trans (zQ.dt pc)⟩
theorem kx(ds:List zG)(fs:List zA)(a0:Option Addr)(n0 c0:Nat)(a1:Option Addr)(n1 c1:Nat)(D0 D1:Nat→Prop)(w:World)(r0:Rd w D0 (z5 ds) (.slice a0 n0 c0))(r1:Rd w D1 (qW fs) (.slice a1 n1 c1))(hfit:PZ fs):
  Calls Tryz.prog 24 #[.agg #[.slice a0 n0 c0,.slice a1 n1 c1]] w fun e w'=>e=.returned (.bool (j4 ds fs))∧zQ w w':=by
 refine zV fun Q hQ=>?_;have HFT:=LH hfit;clear hfit;have K0:=zQ.al w (.cells #[.slice a0 n0 c0,.slice a1 n1 c1] 44);have hp:PR w ds fs a0 n0 c0 a1 n1 c1:=⟨r0.t,r1.t⟩;obtain⟨e1,hnc,hm,hat⟩:=qZ hp.2;have HL:=LH e1;have HA:=LH hat;clear e1 hat;cases v1:qJ ds (fs.map zM)
 ·have V:=LH (JA v1)
  have V1:=LH v1;clear v1;go_in;go_wp2_with fail;refine(xk ds fs _ _ _ _ _ _ _ _ _ (r0.k K0) (r1.k K0)).mono ?_;rw[V1.out];rintro e w1 ⟨rfl,p1⟩;go_wp2_with fail;exact zB hQ ⟨qK V.out.symm,K0.trans p1⟩
 have V1:=LH v1;clear v1;go_in;go_wp2_with fail;refine(xk ds fs _ _ _ _ _ _ _ _ _ (r0.k K0) (r1.k K0)).mono ?_;rw[V1.out];rintro e w1 ⟨rfl,p1⟩;have x1:=xQ p1 1;simp at x1;go_wp2_with fail;go_loopw [11] (fun iv wr=>∃j:Nat,j≤n1∧iv=.int .i64 j∧Hid (∀l,l<j→xw ds fs l=true)∧zQ (w.alloc (.cells #[.slice a0 n0 c0,.slice a1 n1 c1] 44)) wr) (fun i _=>n1-(intOf i).toNat)
 case atStart=>exact⟨0,Nat.zero_le _,rfl,fun j hj=>absurd hj (by omega),p1⟩
 case round=>
  obtain⟨wo,rfl⟩:∃wo:World,wo=wr:=⟨_,rfl⟩;obtain⟨j,hj,rfl,H,hK⟩:=hrel;have x0:=xQ hK 0;have x1:=xQ hK 1;simp at x0 x1;by_cases hlt:j<n1
  case neg=>
   have V:=LH (Jv (ds:=ds) V1.out (fun i hi=>H.out i (by have:=HL.out;omega)));clear x0;go_wp2_with fail;exact zB hQ ⟨qK V.out.symm,K0.trans hK⟩
  have HJ:Hid (j<fs.length):=by have:=HL.out;show _<_;omega
  have PT:=gH V1.out HJ.out;have PL:=LH PT.1;have HF:=LH (HFT.out j HJ.out);clear PT;obtain⟨b,o,rfl,hd,a3,n3,c3,a4,n4,c4,d0,d1,d2,d3,d4,r3,r4⟩:=HA.out j hlt;have hKw:=K0.trans hK;obtain⟨g0,g1,g2,g3,g4⟩:=hKw.k5 d0 d1 d2 d3 d4;have ka:=zQ.al wo (.cells #[.slice a3 n3 c3,.int .i64 (fAt fs j).result,.int .i64 (fAt fs j).body.op,.int .i64 (fAt fs j).body.num,.slice a4 n4 c4] 60);have RB:=zP wo #[.slice a3 n3 c3,.int .i64 (fAt fs j).result,.int .i64 (fAt fs j).body.op,.int .i64 (fAt fs j).body.num,.slice a4 n4 c4] 60;have q0:=((hp.k hKw).k ka).kd;have q3:=(((r3.t).k hKw).k ka).kd;have q4:=(((r4.t).k hKw).k ka).kd;have hn3:n3≤1048576:=by have h1:=PL.out;have h2:=(zN r3).1;omega
  clear d0 d1 d2 d3 d4 r3 r4;obtain⟨z,hz⟩:∃z,jE ds fs (fAt fs j).params (fAt fs j).body=z:=⟨_,rfl⟩;have ee:zK.mk (fAt fs j).body.op (fAt fs j).body.num (fAt fs j).body.kids=(fAt fs j).body:=by cases (fAt fs j).body;rfl
  have HZ:=LH (show jE ds fs (fAt fs j).params (.mk (fAt fs j).body.op (fAt fs j).body.num (fAt fs j).body.kids)=z by rw[ee];exact hz);have HF2:=LH (show yL Q5 (.mk (fAt fs j).body.op (fAt fs j).body.num (fAt fs j).body.kids)by rw[ee];exact HF.out);have NN:=LH (show xw ds fs j=decide (z=(fAt fs j).result)by rw[xw,hz]);have KA:=LH (hK.trans ka);have KX:=LH (hKw.trans ka);clear hz ee;by_cases ht:z=(fAt fs j).result
  ·have VB:=LH (show xw ds fs j=true by rw[NN.out];exact decide_eq_true ht)
   have ht':(z !=(fAt fs j).result)=false:=by simpa using ht
   clear ht;go_wp2_with fail;generalize (wo.alloc (.cells #[.slice a3 n3 c3,.int .i64 (fAt fs j).result,.int .i64 (fAt fs j).body.op,.int .i64 (fAt fs j).body.num,.slice a4 n4 c4] 60))=W at*;have x0:=xQ KA.out 0;have x1:=xQ KA.out 1;have y0:=RB.cell (i:=0) (by simp);have y1:=RB.cell (i:=1) (by simp);have y2:=RB.cell (i:=2) (by simp);have y3:=RB.cell (i:=3) (by simp);have y4:=RB.cell (i:=4) (by simp);simp at x0 x1 y0 y1 y2 y3 y4;clear g0 g1 g2 g3 g4;have pc:=Ext.refl0 W;go_region_held3 (fun w'=>w'.cell? ⟨w.heap.size,0,none⟩=some (.slice a0 n0 c0)∧w'.cell? ⟨w.heap.size,1,none⟩=some (.slice (some ⟨b,o,none⟩) n1 c1)∧w'.cell? ⟨wo.heap.size,0,none⟩=some (.slice a3 n3 c3)∧w'.cell? ⟨wo.heap.size,1,none⟩=some (.int .i64 (fAt fs j).result)∧w'.cell? ⟨wo.heap.size,2,none⟩=some (.int .i64 (fAt fs j).body.op)∧w'.cell? ⟨wo.heap.size,3,none⟩=some (.int .i64 (fAt fs j).body.num)∧w'.cell? ⟨wo.heap.size,4,none⟩=some (.slice a4 n4 c4))
    (first|exact⟨zQ.at pc x0,zQ.at pc x1,zQ.at pc y0,zQ.at pc y1,zQ.at pc y2,zQ.at pc y3,zQ.at pc y4⟩|exact⟨zQ.at (Ext.trans pc (zQ.al _ _)) x0,zQ.at (Ext.trans pc (zQ.al _ _)) x1,zQ.at (Ext.trans pc (zQ.al _ _)) y0,zQ.at (Ext.trans pc (zQ.al _ _)) y1,zQ.at (Ext.trans pc (zQ.al _ _)) y2,zQ.at (Ext.trans pc (zQ.al _ _)) y3,zQ.at (Ext.trans pc (zQ.al _ _)) y4⟩|go_keep)
    (first
     |(go_at_call 63;refine(Qj ds fs _ _ _ _ _ _ _ _ _ (fAt fs j).params _ _ _ _ _ _ _ _ _ _ _ (q0.k pc).1 (q0.k pc).2 (q3.k pc) hn3 (q4.k pc) HF2.out).mono ?_;rw[HZ.out];rintro e w3 ⟨rfl,p3⟩;replace pc:=Ext.trans pc p3))
   have KE:=LH (KA.out.trans (zQ.dt pc));clear pc x0 x1 y0 y1 y2 y3 y4 q0 q3 q4;go_wp2_with fail;go_roundw
   case rel=>exact⟨j+1,by omega,by go_num,fun l hl=>by
    rcases Nat.lt_succ_iff_lt_or_eq.1 hl with h|rfl
    ·exact H.out l h
    ·exact VB.out,KE.out⟩
   case measure=>simp[intOf];omega
  ·have V:=LH (JZ HJ.out (show xw ds fs j=false by rw[NN.out];exact decide_eq_false ht))
   have ht':(z !=(fAt fs j).result)=true:=by simpa using ht
   clear ht;go_wp2_with fail;generalize (wo.alloc (.cells #[.slice a3 n3 c3,.int .i64 (fAt fs j).result,.int .i64 (fAt fs j).body.op,.int .i64 (fAt fs j).body.num,.slice a4 n4 c4] 60))=W at*;have x0:=xQ KA.out 0;have x1:=xQ KA.out 1;have y0:=RB.cell (i:=0) (by simp);have y1:=RB.cell (i:=1) (by simp);have y2:=RB.cell (i:=2) (by simp);have y3:=RB.cell (i:=3) (by simp);have y4:=RB.cell (i:=4) (by simp);simp at x0 x1 y0 y1 y2 y3 y4;clear g0 g1 g2 g3 g4;have pc:=Ext.refl0 W;go_region_held3 (fun w'=>w'.cell? ⟨w.heap.size,0,none⟩=some (.slice a0 n0 c0)∧w'.cell? ⟨w.heap.size,1,none⟩=some (.slice (some ⟨b,o,none⟩) n1 c1)∧w'.cell? ⟨wo.heap.size,0,none⟩=some (.slice a3 n3 c3)∧w'.cell? ⟨wo.heap.size,1,none⟩=some (.int .i64 (fAt fs j).result)∧w'.cell? ⟨wo.heap.size,2,none⟩=some (.int .i64 (fAt fs j).body.op)∧w'.cell? ⟨wo.heap.size,3,none⟩=some (.int .i64 (fAt fs j).body.num)∧w'.cell? ⟨wo.heap.size,4,none⟩=some (.slice a4 n4 c4))
    (first|exact⟨zQ.at pc x0,zQ.at pc x1,zQ.at pc y0,zQ.at pc y1,zQ.at pc y2,zQ.at pc y3,zQ.at pc y4⟩|exact⟨zQ.at (Ext.trans pc (zQ.al _ _)) x0,zQ.at (Ext.trans pc (zQ.al _ _)) x1,zQ.at (Ext.trans pc (zQ.al _ _)) y0,zQ.at (Ext.trans pc (zQ.al _ _)) y1,zQ.at (Ext.trans pc (zQ.al _ _)) y2,zQ.at (Ext.trans pc (zQ.al _ _)) y3,zQ.at (Ext.trans pc (zQ.al _ _)) y4⟩|go_keep)
    (first
     |(go_at_call 63;refine(Qj ds fs _ _ _ _ _ _ _ _ _ (fAt fs j).params _ _ _ _ _ _ _ _ _ _ _ (q0.k pc).1 (q0.k pc).2 (q3.k pc) hn3 (q4.k pc) HF2.out).mono ?_;rw[HZ.out];rintro e w3 ⟨rfl,p3⟩;replace pc:=Ext.trans pc p3))
   go_wp2_with fail;exact zB hQ ⟨qK V.out.symm,KX.out.trans (zQ.dt pc)⟩
end Go.Proofs.YtkapldpmjkdmcaaGreat
