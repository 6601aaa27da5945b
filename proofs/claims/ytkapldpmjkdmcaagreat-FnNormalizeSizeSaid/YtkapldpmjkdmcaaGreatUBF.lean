/- Clones of declarations and of constructors; cloneDecls of the program. -/
import Derived.Test.YtkapldpmjkdmcaaGreatUBB
import Derived.Test.YtkapldpmjkdmcaaGreatUAY
import Derived.Test.YtkapldpmjkdmcaaGreatUAT
import Derived.Test.YtkapldpmjkdmcaaGreatUBE
import Derived.Test.YtkapldpmjkdmcaaGreatUAZ
import Derived.Test.YtkapldpmjkdmcaaGreatUAE
import Derived.Test.YtkapldpmjkdmcaaGreatUAC
import Derived.StillTailTactics
import Derived.IntWalk
namespace Go.Proofs.YtkapldpmjkdmcaaGreat
open Go.RowKit
set_option maxRecDepth 100000
set_option maxHeartbeats 4000000
theorem Uy(A:Option Addr)(m c:Nat)(ds:List zG)(D:Nat→Prop)(w:World)(h:Rd w D (z5 ds) (.slice A m c))(hm:m≤1048576):
  Calls Tryz.prog 104 #[.slice A m c] w fun e w'=>∃v',e=.returned v'∧zq w' w.heap.size (fun k=>D k∧k<w.heap.size) 125 3 v' (ds.map yk)∧zQ w w':=by
 refine zV fun Q hQ=>?_;have hnil:=fun(wx:World)=>Lib.run_eql_slice_nil (P:=Tryz.prog) wx 27 125 A m c 0 0 Tryz.underlying27;obtain⟨a',c',e0,hc',hm',hsl⟩:=Rd.arr_inv (s:=3) (rows:=ds.map yk) h;injection e0 with e1 e2 e3
 have hml:(ds.map yk).length=m:=e2.symm;rcases A with _|x
 ·have h0:ds.map yk= []:=by
   rcases Nat.eq_zero_or_pos (ds.map yk).length with h0|h0
   ·exact List.eq_nil_of_length_eq_zero h0
   ·obtain⟨b,o,h1,_⟩:=hsl h0
    rw[←e1]at h1;cases h1
  have hm0:m=0:=by rw[←hml,h0];rfl
  have HZ:=LH h0;rw[HZ.out]at hQ;subst hm0;clear e2 e3 hml hsl e1 h h0 hc' hm';go_in;go_wp2_with fail;exact zB hQ ⟨_,rfl,zq.nil _ _ _ _ _,Ext.refl _ _⟩
 have HO:=LH (zq.made w (fun k=>D k∧k<w.heap.size) 125 3);have KA:=zQ.al w (.cells #[] 125);have H1:=LH ((h.lt).k KA);have HML:=LH hml;clear e1 e2 e3 hml hsl hc' hm' h;go_in;go_wp2_with (at_builtin;go_must (refine yz _ rfl (.tmp 5) (.tmp 6) 27 rfl w.heap.size 125 (.agg #[.int .i64 0,.int .i64 0,.slice none 0 0]) 3 40 Tryz.underlying27 (by kernel_rfl) rfl (by omega) (fun k=>D k∧k<w.heap.size) _ _ rfl HO.out (some x) m c (ds.map yk) (fun k=>D k∧k<w.heap.size) rfl H1.out (fun k _ hk=>⟨hk,fun e=>by have e':some w.heap.size=some k:=e;injection e' with e';omega⟩) (by simp;omega) (by simp;omega) (by simp) ?_);intro v' w' hA hx hs);exact zB hQ ⟨_,rfl,hA,KA.then_ hx (fun i hi h=>by omega)⟩
theorem GG(A:Option Addr)(m c:Nat)(ds:List (List Int))(D:Nat→Prop)(w:World)(h:Rd w D (qV ds) (.slice A m c))(hm:m≤1048576):
  Calls Tryz.prog 105 #[.slice A m c] w fun e w'=>∃v',e=.returned v'∧zq w' w.heap.size (fun k=>D k∧k<w.heap.size) 155 1 v' (ds.map xX)∧zQ w w':=by
 refine zV fun Q hQ=>?_;have hnil:=fun(wx:World)=>Lib.run_eql_slice_nil (P:=Tryz.prog) wx 123 155 A m c 0 0 Tryz.underlying123;obtain⟨a',c',e0,hc',hm',hsl⟩:=Rd.arr_inv (s:=1) (rows:=ds.map xX) h;injection e0 with e1 e2 e3
 have hml:(ds.map xX).length=m:=e2.symm;rcases A with _|x
 ·have h0:ds.map xX= []:=by
   rcases Nat.eq_zero_or_pos (ds.map xX).length with h0|h0
   ·exact List.eq_nil_of_length_eq_zero h0
   ·obtain⟨b,o,h1,_⟩:=hsl h0
    rw[←e1]at h1;cases h1
  have hm0:m=0:=by rw[←hml,h0];rfl
  have HZ:=LH h0;rw[HZ.out]at hQ;subst hm0;clear e2 e3 hml hsl e1 h h0 hc' hm';go_in;go_wp2_with fail;exact zB hQ ⟨_,rfl,zq.nil _ _ _ _ _,Ext.refl _ _⟩
 have HO:=LH (zq.made w (fun k=>D k∧k<w.heap.size) 155 1);have KA:=zQ.al w (.cells #[] 155);have H1:=LH ((h.lt).k KA);have HML:=LH hml;clear e1 e2 e3 hml hsl hc' hm' h;go_in;go_wp2_with (at_builtin;go_must (refine yz _ rfl (.tmp 5) (.tmp 6) 123 rfl w.heap.size 155 (.agg #[.slice none 0 0]) 1 24 Tryz.underlying123 (by kernel_rfl) rfl (by omega) (fun k=>D k∧k<w.heap.size) _ _ rfl HO.out (some x) m c (ds.map xX) (fun k=>D k∧k<w.heap.size) rfl H1.out (fun k _ hk=>⟨hk,fun e=>by have e':some w.heap.size=some k:=e;injection e' with e';omega⟩) (by simp;omega) (by simp;omega) (by simp) ?_);intro v' w' hA hx hs);exact zB hQ ⟨_,rfl,hA,KA.then_ hx (fun i hi h=>by omega)⟩
theorem Xw(ds:List zG)(hf:Few ds)(hfl:∀j k,(cAt (dAt ds j).cons k).length≤1000)(a:Option Addr)(n c:Nat)(D:Nat→Prop)(w:World)(h:Rd w D (z5 ds) (.slice a n c)):
  Calls Tryz.prog 52 #[.slice a n c] w fun e w'=>∃a' c',e=.returned (.slice a' n c')∧Own w' (fun k=>w.heap.size≤k) (z5 ds) (.slice a' n c')∧zQ w w':=by
 refine zV fun Q hQ=>?_;have hnl:ds.length=n:=(zT h).1;have hn4:n≤4:=by have:=hf.1;omega
 have HF:=LH hf;have HFL:=LH hfl;have HNL:=LH hnl;clear hf hfl;go_in;go_wp2_with fail;refine(Uy a n c ds D w h (by omega)).mono ?_;rintro e w1 ⟨v,rfl,hA,k1⟩;have K1:=LH k1;rcases Nat.eq_zero_or_pos n with h0|h0
 ·have hd:ds= []:=List.eq_nil_of_length_eq_zero (by omega)
  subst h0;subst hd;obtain⟨av,cv,rfl,_,_,_⟩:=hA.read (by omega);clear hA k1 h hnl;go_wp2_with fail;go_loopw [12] (fun iv wr=>iv=.int .i64 0∧wr=w1) (fun _ _=>0)
  case atStart=>exact⟨rfl,rfl⟩
  case round=>
   obtain⟨rfl,rfl⟩:=hrel;go_wp2_with fail;exact zB hQ ⟨_,_,rfl,.nil _ _ _ _,K1.out⟩
 obtain⟨b,cv,N,f,rfl,hb,hbl,hcv,hml,hN,hrow,hmix⟩:=hA.row (by simp;omega);rw[xV]at hcv hml hN;rw[hnl]at hcv hml hN;rw[show(ds.map yk).length=n by rw[xV];exact hnl];have HR0:=LH hrow;have HM0:=LH hmix;have E0:Hid (Ext (fun k=>k=b) w1 w1):=Ext.refl _ _;clear hA k1 h hrow hmix hnl;go_wp2_with fail;go_loopw [12] (fun iv wr=>∃(j:Nat) (f:Nat→Value) (hi:Nat),j≤n∧iv=.int .i64 j∧Hid (wr.rowIs b 125 N f)∧Hid (Mix wr (fun k=>(D k∧k<w.heap.size)∧k≠b∧k<w1.heap.size) w1.heap.size hi 3 f (ds.map yk) j)∧hi≤wr.heap.size∧Hid (Ext (fun k=>k=b) w1 wr)) (fun iv _=>n-(intOf iv).toNat)
 case atStart=>exact⟨0,f,w1.heap.size,Nat.zero_le _,rfl,HR0,HM0,Nat.le_refl _,E0⟩
 case round=>
  clear HR0 HM0 E0 f;obtain⟨j,f,hi,hj,rfl,HR,HM,hhi,HE⟩:=hrel;obtain⟨wo,rfl⟩:∃wo:World,wo=wr:=⟨_,rfl⟩;have hwo:=HE.out.size;by_cases hlt:j<n
  ·have hjl:j<ds.length:=by have:=HNL.out;omega
   have hlo:=HM.out.lo_le;have q0:=HM.out.at (l:=0) (by simpa using hjl) (by omega);have q1:=HM.out.at (l:=1) (by simpa using hjl) (by omega);have q2:=HM.out.at (l:=2) (by simpa using hjl) (by omega);rw[rAt,xD ds j hjl]at q0 q1 q2;have v0:=q0.num_inv;have v1:=q1.num_inv;obtain⟨ac,cc,v2,hcc,hmc,_⟩:=Rd.arr_inv (s:=1) (rows:=(dAt ds j).cons.map xX) q2;rw[v2]at q2;obtain⟨mc,hmce⟩:∃m,((dAt ds j).cons.map xX).length=m:=⟨_,rfl⟩;rw[hmce]at v2 q2 hcc hmc;have hcl:(dAt ds j).cons.length=mc:=by rw[←hmce];simp
   have hm3:mc≤3:=by rw[←hcl];exact(HF.out.2 j hjl)
   have HCL:=LH hcl;have d0:=HR.out.cell (i:=j*3) (by omega);have d1:=HR.out.cell (i:=j*3+1) (by omega);have d2:=HR.out.cell (i:=j*3+2) (by omega);have v0':f (j*3)=.int .i64 (dAt ds j).from_:=v0;rw[v0']at d0;rw[v1]at d1;rw[v2]at d2;have KB:=zQ.al wo (.cells #[.int .i64 (dAt ds j).from_,.int .i64 (dAt ds j).to_,.slice ac mc cc] 125);have RB:=zP wo #[.int .i64 (dAt ds j).from_,.int .i64 (dAt ds j).to_,.slice ac mc cc] 125;have QC:=LH (q2.k KB);have HR1:=LH (rwk HR.out KB);have sB:(wo.alloc (.cells #[.int .i64 (dAt ds j).from_,.int .i64 (dAt ds j).to_,.slice ac mc cc] 125)).heap.size=wo.heap.size+1:=by simp
   have hno:j*3+2<N:=by omega
   have KB':=LH KB;have RB:=LH RB;clear q0 q1 q2 v0 v1 v2 v0' hmce hcl KB;go_wp2_with fail;refine(GG ac mc cc (dAt ds j).cons _ _ QC.out (by omega)).mono ?_;rintro e w2 ⟨v2,rfl,hA2,k2⟩;have HA2:=LH hA2;have K22:=LH k2;have K2:=LH (KB'.out.trans k2);have hw2:=K2.out.size;have HR2:=LH (rwk HR1.out k2);have RB2:=rwk RB.out k2;have s0:=HR2.out.cell (i:=j*3+2) hno;have s1:=HR2.out.frozen (j*3+2);have bx2:w2.cell? ⟨wo.heap.size,2,none⟩=some (.slice ac mc cc):=RB2.cell (i:=2) (by simp);have X3:Hid (Ext (fun k=>k=b) w2 (w2.setCell ⟨b,j*3+2,none⟩ v2)):=(Ext.refl (fun k=>k=b) w2).setCell (p:=⟨b,j*3+2,none⟩) (.inr rfl) _;have HR3:Hid ((w2.setCell ⟨b,j*3+2,none⟩ v2).rowIs b 125 N (fun k=>if k=j*3+2 then v2 else f k)):=HR2.out.set _ _;have HM3:=LH ((HM.out.k K2.out).ext X3.out (fun k h1 h2 e=>by omega) (fun k hk e=>hk.2.1 e));have HE3:=LH (HE.out.trans (zQ.to K2.out)|>.trans X3.out);have HRW:=LH (show rAt (ds.map yk) j 2=qV (dAt ds j).cons by rw[rAt,xD ds j hjl];rfl);have hR0:∃z,rAt (ds.map yk) j 0=.num z:=⟨_,by rw[rAt,xD ds j hjl];rfl⟩;have hR1:∃z,rAt (ds.map yk) j 1=.num z:=⟨_,by rw[rAt,xD ds j hjl];rfl⟩;have HRN:Hid (∀l,l<3→l≠2→∃z,rAt (ds.map yk) j l=.num z):=fun l hl hl2=>by
    rcases(show l=0∨l=1 by omega)with rfl|rfl
    ·exact hR0
    ·exact hR1
   have HJL:=LH (show j<(ds.map yk).length by rw[xV];exact hjl);have hk2:=hA2.bound;clear hA2 RB2 hR0 hR1 k2;rcases Nat.eq_zero_or_pos mc with hm0|hm0
   ·have hcz:(dAt ds j).cons= []:=List.eq_nil_of_length_eq_zero (by have:=HCL.out;omega)
    obtain⟨a2,c2,e9,hc2,_,_⟩:=HA2.out.read (by omega);rw[hcz]at e9;change v2=.slice a2 0 c2 at e9;have HCZ:=LH hcz;subst hm0;subst e9;have HRF:=HR3;have HMF:Hid (Mix (w2.setCell ⟨b,j*3+2,none⟩ (.slice a2 0 c2)) (fun k=>(D k∧k<w.heap.size)∧k≠b∧k<w1.heap.size) w1.heap.size (w2.setCell ⟨b,j*3+2,none⟩ (.slice a2 0 c2)).heap.size 3 (fun k=>if k=j*3+2 then(.slice a2 0 c2:Value)else f k) (ds.map yk) (j+1)):=by
     refine HM3.out.next (l0:=2) (D2:=fun _=>False) HJL.out (by omega) HRN.out (fun k hk=>if_neg hk) ?_ (fun _ h=>h.elim) (by have:=X3.out.size;omega);rw[if_pos rfl,HRW.out,HCZ.out];exact .nil _ _ _ _
    have HEF:=HE3;clear hcz hk2 HA2;go_wp2_with fail;go_loopw [27] (fun iv2 wr2=>iv2=.int .i64 0∧wr2=w2.setCell ⟨b,j*3+2,none⟩ (.slice a2 0 c2)) (fun _ _=>0)
    case atStart=>exact⟨rfl,rfl⟩
    case round=>
     obtain⟨rfl,rfl⟩:=hrel;go_wp2_with fail;go_roundw
     case rel=>exact⟨j+1,_,(w2.setCell ⟨b,j*3+2,none⟩ (.slice a2 0 c2)).heap.size,by omega,by go_num,HRF.out,HMF.out,Nat.le_refl _,HEF.out⟩
     case measure=>simp[intOf];omega
   ·obtain⟨b2,c2,N2,g,rfl,hb2,hbl2,hc2,hml2,hN2,hrow2,hmix2⟩:=HA2.out.row (by rw[List.length_map];have:=HCL.out;omega)
    rw[show((dAt ds j).cons.map xX).length=mc by rw[List.length_map];exact HCL.out]at*;rw[Nat.mul_one]at hN2;have hb2':wo.heap.size+1≤b2:=by have:=hb2;rw[sB]at this;exact this
    have hnb:b2≠b:=by omega
    have HG3:=LH (zX hrow2 X3.out hnb);have HM0:=LH ((hmix2.mono (D1:=fun k=>(D k∧k<w.heap.size)∧k≠b2∧k<w2.heap.size) (fun k hk=>⟨hk.1.1.1,hk.2.1,hk.2.2⟩)).ext X3.out (fun k h1 h2 e=>by omega) (fun k hk e=>by have:=hk.1.2;omega));obtain⟨ec,hcc',hcm',hcat⟩:=gK QC.out;have HAT:=LH hcat;have E0:Hid (Ext (fun k=>k=b2) (w2.setCell ⟨b,j*3+2,none⟩ (.slice (some ⟨b2,0,none⟩) mc c2)) (w2.setCell ⟨b,j*3+2,none⟩ (.slice (some ⟨b2,0,none⟩) mc c2))):=Ext.refl _ _;have hsz3:(w2.setCell ⟨b,j*3+2,none⟩ (.slice (some ⟨b2,0,none⟩) mc c2)).heap.size=w2.heap.size:=by simp
    have HSZ3:=LH hsz3;clear hk2 HA2 hrow2 hmix2 hb2 hcat hsz3 ec;go_wp2_with fail;obtain⟨w3,hw3⟩:∃yW:World,yW=w2.setCell ⟨b,j*3+2,none⟩ (.slice (some ⟨b2,0,none⟩) mc c2):=⟨_,rfl⟩;rw[←hw3]at HG3 HM0 E0 HSZ3 X3 HR3 HM3 HE3;rw[←hw3];clear hw3;go_loopw [27] (fun iv2 wr2=>∃(i:Nat) (g:Nat→Value) (hi2:Nat),i≤mc∧iv2=.int .i64 i∧Hid (wr2.rowIs b2 155 N2 g)∧Hid (Mix wr2 (fun k=>(D k∧k<w.heap.size)∧k≠b2∧k<w2.heap.size) w2.heap.size hi2 1 g ((dAt ds j).cons.map xX) i)∧hi2≤wr2.heap.size∧Hid (Ext (fun k=>k=b2) w3 wr2)) (fun iv2 _=>mc-(intOf iv2).toNat)
    case atStart=>exact⟨0,g,w2.heap.size,Nat.zero_le _,rfl,HG3,HM0,by have:=HSZ3.out;omega,E0⟩
    case round=>
     clear HG3 HM0 E0 g;obtain⟨i,g,hi2,hi,rfl,HG,HM2,hhi2,HE2⟩:=hrel;obtain⟨wv,rfl⟩:∃wv:World,wv=wr:=⟨_,rfl⟩;have hwv:=HE2.out.size;have HR4:=zX HR3.out HE2.out (fun h=>hnb h.symm);by_cases hil:i<mc
     ·obtain⟨bo,oo,rfl,hbo,af,nf,cf,k0,rf⟩:=HAT.out i hil
      have hbo':bo<w.heap.size:=hbo.1.2;have k0:=HE2.out.cq (X3.out.cq (K22.out.cq k0 (fun h=>h)) (fun e=>by change bo=b at e;omega)) (fun e=>by change bo=b2 at e;omega);have KX:=zQ.al wv (.cells #[.slice af nf cf] 155);have RKB:=zP wv #[.slice af nf cf] 155;have RG2:=rwk HG.out KX;have RX:=rwk HR4 KX;have RF:=(((((rf.mono (D':=fun k=>k<w.heap.size) (fun k hk=>hk.1.2)).k K22.out).ext X3.out (fun k hk e=>by omega)).ext HE2.out (fun k hk e=>by omega)).k KX);have HKX:=LH KX;have hfi:=HFL.out j i;have hnf:(cAt (dAt ds j).cons i).length=nf:=(zN RF).1;have HFI:Hid ((cAt (dAt ds j).cons i).length≤1000):=hfi;have sX:(wv.alloc (.cells #[.slice af nf cf] 155)).heap.size=wv.heap.size+1:=by simp
      have hnf3:nf≤1000:=by omega
      have hv2:w2.heap.size≤wv.heap.size:=by have:=HSZ3.out;omega
      have RF:=LH RF;clear rf KX hnf hfi HR4;go_wp2_with fail;obtain⟨kb,hkb⟩:∃g,g=wv.heap.size:=⟨_,rfl⟩;have HKB:=LH hkb;rw[←hkb]at RKB;rw[←hkb];obtain⟨wx,hwx⟩:∃y:World,y=wv.alloc (.cells #[.slice af nf cf] 155):=⟨_,rfl⟩;rw[←hwx]at RKB RG2 RX RF HKX sX;rw[←hwx];have x0:wx.cell? ⟨kb,0,none⟩=some (.slice af nf cf):=RKB.cell (i:=0) (by simp);have z2:wx.cell? ⟨b,j*3+2,none⟩=some (.slice (some ⟨b2,0,none⟩) mc c2):=(RX.cell (i:=j*3+2) hno).trans (by rw[if_pos rfl]);have RG2:=LH RG2;have HSX:Hid (w2.heap.size≤wx.heap.size∧hi2≤wx.heap.size∧b2<wx.heap.size∧b<wx.heap.size):=⟨by omega,by omega,by omega,by omega⟩;clear hkb hwx RKB RX sX k0;refine wp_region_held_drew (S:=fun w'=>w'.cell? ⟨b,j*3+2,none⟩=some (.slice (some ⟨b2,0,none⟩) mc c2)∧w'.cell? ⟨kb,0,none⟩=some (.slice af nf cf)) (by kernel_rfl) ⟨z2,x0⟩ (fun hHeld=>?_);refine wT 0 hHeld ?_;try go_frame
      refine wT 1 hHeld ?_;try go_frame
      refine wT 2 hHeld ?_;try go_frame
      refine wT 3 hHeld ?_;try go_frame
      refine wT 4 hHeld ?_;try go_frame
      refine wT 5 hHeld ?_;try go_frame
      refine wT 6 hHeld ?_;try go_frame
      refine wT 7 hHeld ?_;try go_frame
      refine wO 8 (fun K hK=>?_);go_simp;go_at_call 54;refine(vN af nf cf (cAt (dAt ds j).cons i) _ wx.drew (RF.out.kd).toInts (by omega)).mono ?_;rintro e Y1 ⟨vf,rfl,hvf,kY1⟩;have z2Y1:=zQ.at kY1 z2;have x0Y1:=zQ.at kY1 x0;obtain⟨a9,c9,e9,hc9,_⟩:=hvf.slice;obtain⟨n9,hn9⟩:∃m,(cAt (dAt ds j).cons i).length=m:=⟨_,rfl⟩;rw[hn9]at e9;subst e9;have HVF:Hid (VR Y1 wx.heap.size (.slice a9 n9 c9) (cAt (dAt ds j).cons i)):=hvf.lower (Nat.le_refl _);have KY:=LH (zQ.dt kY1);have RG3:=LH (rwk RG2.out KY.out);clear hvf hc9 hn9;refine hK.out _ _ ⟨z2Y1,x0Y1⟩ (fun hHeld=>?_);clear hK K;try go_frame
      refine wT 9 hHeld ?_;try go_frame
      refine wT 10 hHeld ?_;try go_frame
      refine wO 11 (fun K hK=>?_);have g1:Y1.cell? ⟨b2,i,none⟩=some (g i):=RG3.out.cell (i:=i) (by omega);have g2:=RG3.out.frozen i;have hq1:b2≠b:=by omega
      have hq2:b2≠kb:=by have:=HKB.out;omega
      go_simp;obtain⟨wy,hWy⟩:∃yW:World,yW=Y1.setCell ⟨b2,i,none⟩ (.slice a9 n9 c9):=⟨_,rfl⟩;rw[←hWy];have XY:=LH (show Ext (fun k=>k=b2) Y1 wy by rw[hWy];exact(Ext.refl (fun k=>k=b2) Y1).setCell (p:=⟨b2,i,none⟩) (.inr rfl) _);have RY:Hid (wy.rowIs b2 155 N2 (fun k=>if k=i then(.slice a9 n9 c9:Value)else g k)):=by show World.rowIs _ _ _ _ _;rw[hWy];exact RG3.out.set i (.slice a9 n9 c9)
      replace hWy:=LH hWy;have z2y:=XY.out.cq z2Y1 (fun h=>hq1 h.symm);have x0y:=XY.out.cq x0Y1 (fun h=>hq2 h.symm);refine hK.out _ _ ⟨z2y,x0y⟩ (fun hHeld=>?_);clear hK K;try go_frame
      refine wpAnyH_done (by kernel_rfl) ?_ _;rotate_left;all_goals
       have MX2:=LH ((HM2.out.k HKX.out).k KY.out);have OF:=LH ((HVF.out.owns (by have:=HFI.out;omega)).ext XY.out (fun k hk e=>by have:=(HVF.out.lt k hk).1;have:=HSX.out;omega));have hfl:=HVF.out.lt;have MX3:Hid (Mix wy (fun k=>(D k∧k<w.heap.size)∧k≠b2∧k<w2.heap.size) w2.heap.size wy.heap.size 1 (fun k=>if k=i then(.slice a9 n9 c9:Value)else g k) ((dAt ds j).cons.map xX) (i+1)):=by
        show Mix _ _ _ _ _ _ _ _;refine(MX2.out.ext XY.out (fun k h1 h2 e=>by omega) (fun k hk e=>hk.2.1 e)).next (l0:=0) (D2:=fun k=>(Value.slice a9 n9 c9).ownBlock=some k) (by rw[List.length_map];have:=HCL.out;omega) (by omega) (fun l hl hl0=>by omega) (fun k hk=>if_neg (by omega)) ?_ (fun k hk=>⟨by have:=(hfl k hk).1;have:=HSX.out;omega,by have:=(hfl k hk).2;have:=XY.out.size;omega⟩) (by have:=XY.out.size;have:=KY.out.size;have:=HSX.out;omega);rw[if_pos (by omega),rAt,vS _ i (by have:=HCL.out;omega)];exact OF.out
       have XF:=LH ((((HE2.out.trans (zQ.to HKX.out)).trans (zQ.to KY.out)).then_ XY.out (fun i hi e=>e)));go_wp2;go_roundw
       case rel=>exact⟨i+1,_,wy.heap.size,by omega,by go_num,RY.out,MX3.out,Nat.le_refl _,XF.out⟩
       case measure=>simp[intOf];omega
     ·have him:i=mc:=by omega
      subst him;have OW:=HM2.out;rw[show i=((dAt ds j).cons.map xX).length by rw[List.length_map];exact HCL.out.symm]at OW;have OF:=(OW.own HG.out (by rw[List.length_map,HCL.out];omega) (c:=c2) (by rw[List.length_map,HCL.out];exact hc2) (by rw[List.length_map,HCL.out];exact hml2) (by omega) hbl2).lt;rw[List.length_map,HCL.out]at OF;have HRF:=LH HR4;have HMF:Hid (Mix wv (fun k=>(D k∧k<w.heap.size)∧k≠b∧k<w1.heap.size) w1.heap.size wv.heap.size 3 (fun k=>if k=j*3+2 then(.slice (some ⟨b2,0,none⟩) i c2:Value)else f k) (ds.map yk) (j+1)):=by
       refine(HM3.out.ext HE2.out (fun k h1 h2 e=>by omega) (fun k hk e=>by have:=hk.2.2;omega)).next (l0:=2) (D2:=fun k=>b2≤k∧k<wv.heap.size) HJL.out (by omega) HRN.out (fun k hk=>if_neg hk) ?_ (fun k hk=>⟨by have:=hk.1;omega,hk.2⟩) (by have:=HSZ3.out;omega);rw[if_pos rfl,HRW.out];exact OF
      have HEF:Hid (Ext (fun k=>k=b) w1 wv):=HE3.out.then_ HE2.out (fun k hk e=>by omega);clear OW OF HR4;go_wp2_with fail;go_roundw
      case rel=>exact⟨j+1,_,wv.heap.size,by omega,by go_num,HRF.out,HMF.out,Nat.le_refl _,HEF.out⟩
      case measure=>simp[intOf];omega
  ·have hjn:j=n:=by omega
   subst hjn;have OW:=HM.out;rw[show j=(ds.map yk).length by rw[xV];exact HNL.out.symm]at OW;have OF:=(OW.own HR.out (by rw[xV,HNL.out];exact hN) (c:=cv) (by rw[xV,HNL.out];exact hcv) (by rw[xV,HNL.out];exact hml) (by omega) hbl).mono (D':=fun k=>w.heap.size≤k) (fun k hk=>by omega);rw[xV,HNL.out]at OF;have OF:=LH OF;have KF:=LH (K1.out.then_ HE.out (fun i hi e=>by omega));clear OW;go_wp2_with fail;exact zB hQ ⟨_,_,rfl,OF.out,KF.out⟩
theorem Own.num_inv{w:World}{D:Nat→Prop}{z:Int}{v:Value}(h:Own w D (.num z) v):v=.int .i64 z:=by cases h;rfl
def MkC(f:FuncId)(d:Dat):Prop:=∀(a:Option Addr) (n c:Nat) (D:Nat→Prop) (k:Int) (w:World),Own w D d (.slice a n c)→0≤k→k+(z8 d:Int)≤4611686018427387904→
 Calls Tryz.prog f #[.slice a n c,.int .i64 k] w fun e w'=>∃k':Int,e=.returned (.int .i64 k')∧k'=k+(z8 d:Int)∧Own w' D (mkD d k) (.slice a n c)∧Ext D w w'
def HdC(f:FuncId)(d:Dat):Prop:=∀(a:Option Addr) (n c:Nat) (D:Nat→Prop) (k:Int) (w:World),Rd w D (mkD d k) (.slice a n c)→0≤k→k+(z8 d:Int)≤4611686018427387904→
 Calls Tryz.prog f #[.slice a n c,.int .i64 k] w fun e w'=>e=.returned (.int .i64 (k+(z8 d:Int)))∧zQ w w'
theorem ToS.two{lo hi:Nat}{w:World}{d0 d1:Dat}{u0 u1:Value}(h:ToS lo hi w [d0,d1] [u0,u1]):∃E0 E1:Nat→Prop,(∀k,E0 k→lo≤k∧k<hi)∧(∀k,E1 k→lo≤k∧k<hi)∧(∀k,E0 k→¬E1 k)∧Own w E0 d0 u0∧Own w E1 d1 u1:=by
 obtain⟨E,h1,h2,_,h4⟩:=h;obtain⟨v0,e0,o0⟩:=h4 0 (by simp);obtain⟨v1,e1,o1⟩:=h4 1 (by simp);injection e0 with e0
 injection e1 with e1
 subst e0 e1;exact⟨E 0,E 1,fun k=>h1 0 k,fun k=>h1 1 k,fun k hk hk'=>by have:=h2 0 1 k hk hk';omega,o0,o1⟩
theorem ToS.mk2{lo hi:Nat}{w:World}{d0 d1:Dat}{u0 u1:Value}{E0 E1:Nat→Prop}(h0:∀k,E0 k→lo≤k∧k<hi)(h1:∀k,E1 k→lo≤k∧k<hi)(hd:∀k,E0 k→¬E1 k)(o0:Own w E0 d0 u0)(o1:Own w E1 d1 u1):ToS lo hi w [d0,d1] [u0,u1]:=by
 refine⟨fun i k=>(i=0∧E0 k)∨(i=1∧E1 k),fun i k hk=>?_,fun i i' k hk hk'=>?_,rfl,fun i hi=>?_⟩
 ·rcases hk with ⟨_,hk⟩|⟨_,hk⟩
  ·exact h0 k hk
  ·exact h1 k hk
 ·rcases hk with ⟨rfl,hk⟩|⟨rfl,hk⟩<;>rcases hk' with ⟨rfl,hk'⟩|⟨rfl,hk'⟩
  ·rfl
  ·exact absurd hk' (hd k hk)
  ·exact absurd hk (hd k hk')
  ·rfl
 ·rcases(show i=0∨i=1 by simp at hi;omega)with rfl|rfl
  ·exact⟨u0,rfl,o0.mono (fun k hk=>.inl ⟨rfl,hk⟩)⟩
  ·exact⟨u1,rfl,o1.mono (fun k hk=>.inr ⟨rfl,hk⟩)⟩
end Go.Proofs.YtkapldpmjkdmcaaGreat
