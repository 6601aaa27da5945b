/- lower of the reference: choices by a number. -/
import Derived.Test.YtkapldpmjkdmcaaGreatUAV
import Derived.Test.YtkapldpmjkdmcaaGreatUAD
import Derived.Test.YtkapldpmjkdmcaaGreatUAE
import Derived.Test.YtkapldpmjkdmcaaGreatUAY
import Derived.Test.YtkapldpmjkdmcaaGreatUAT
namespace Go.Proofs.YtkapldpmjkdmcaaGreat
open Go.RowKit
set_option maxRecDepth 100000
set_option maxHeartbeats 4000000
section
variable (ds:List zG)(sg:List yJ)(hok:qJ ds sg=true)
include hok
theorem Eq(num:Int)(ks:List zK)(IH0:∀j,j<ks.length→LwS ds sg (eAt ks j)):LwS ds sg (.mk 7 num ks):=by
 intro vars env n N q base D D1 v rows a0 n0 c0 a1 n1 c1 av nv cv a m c w hL hN r0 rv re hAs hty hlen hB1 hB2 hB3;refine zV fun Q hQ=>?_;change Rd w D1 (zJ ks) _ at re;simp only[zK.op,zK.num];rw[nE]at hB1 hB2 hB3;have K0:=(zQ.al w (.cells #[.slice a0 n0 c0,.slice a1 n1 c1] 44)).trans (zQ.al _ (.cells #[.int .i64 7,.int .i64 num,.slice a m c] 58));have R0:=(zP w #[.slice a0 n0 c0,.slice a1 n1 c1] 44).alloc (.cells #[.int .i64 7,.int .i64 num,.slice a m c] 58);have R1:=zP (w.alloc (.cells #[.slice a0 n0 c0,.slice a1 n1 c1] 44)) #[.int .i64 7,.int .i64 num,.slice a m c] 58;simp only[World.size_alloc]at R1;have hq:=hL.qlt;have hv:=hL.own;have HE:Hid (∀k,j7 D1 w k→k≠q∧v.ownBlock≠some k):=by
  intro k hk;rcases hk with hk|rfl|rfl
  ·exact hAs k hk.1
  ·exact⟨by omega,fun e=>by have:=hv _ e;omega⟩
  ·exact⟨by omega,fun e=>by have:=hv _ e;omega⟩
 have rd0:=LH (((r0.lt).mono (D':=j7 D1 w) (fun k hk=>.inl hk)).k K0);have rdv:=LH (((rv.lt).mono (D':=j7 D1 w) (fun k hk=>.inl hk)).k K0);have rde:=LH (((re.lt).mono (D':=j7 D1 w) (fun k hk=>.inl hk)).k K0);have LW:=LH (hL.k K0);have KW:=LH K0;have sW:(((w.alloc (.cells #[.slice a0 n0 c0,.slice a1 n1 c1] 44)).alloc (.cells #[.int .i64 7,.int .i64 num,.slice a m c] 58))).heap.size=w.heap.size+2:=by simp
 clear hAs hL r0 rv re;obtain⟨t1,t2,t3⟩:=kS (.inl rfl) hty;have hf:=Few.of_ok (zL hok).1;have HF:=LH hf;have HFL:=LH (Yj (ds:=ds) hok 7 num);have TY2:=LH t2;have TY3:=LH t3;have HKL:=LH t1;have IH:=LH IH0;have IB:=LH (fun(j:Nat) (hj:j<ks.length)=>vY ds sg _ (IH0 j hj));have HTW:=LH (fun(j:Nat) (hj:j+1<ks.length)=>YL ks hj);have hq0:=yN ks (j:=0) (by omega);have VL:=LH (kV (num:=num) (ks:=ks) ds env n (op:=7) (.inl rfl) (by omega));rw[VL.out]at hQ;obtain⟨s1,hs1⟩:∃s,(qG ds (eAt ks 0) env n).1=s:=⟨_,rfl⟩;obtain⟨y1,hy1⟩:∃s,(qG ds (eAt ks 0) env n).2=s:=⟨_,rfl⟩;have hsl:s1.length≤nE (eAt ks 0):=by rw[←hs1];exact vK ds _ _ _
 rw[hs1,hy1]at hQ;have HS1:=LH hs1;have HY1:=LH hy1;obtain⟨e1,hnc,hnm,hat⟩:=zx rde.out;have HAT:=LH hat;have HM:=LH e1;obtain⟨b,o,rfl,hb0,ak,nk,ck,d0,d1,d2,rk⟩:=hat 0 (by omega);simp only[Nat.zero_mul,Nat.add_zero]at d0 d1 d2;have HN:=LH hN;have enl:env.length≤4000:=by omega
 have hm1:1≤m:=by omega
 have hm2:(0:Int)<(m:Int):=by omega
 have hm3:0<m:=by omega
 obtain⟨x0,x1⟩:C2 ((((w.alloc (.cells #[.slice a0 n0 c0,.slice a1 n1 c1] 44)).alloc (.cells #[.int .i64 7,.int .i64 num,.slice (some ⟨b,o,none⟩) m c] 58)))) (w.heap.size) (.slice a0 n0 c0) (.slice a1 n1 c1):=rc2 R0 (by simp);obtain⟨u0,u1,u2⟩:C3 ((((w.alloc (.cells #[.slice a0 n0 c0,.slice a1 n1 c1] 44)).alloc (.cells #[.int .i64 7,.int .i64 num,.slice (some ⟨b,o,none⟩) m c] 58)))) (w.heap.size+1) (.int .i64 7) (.int .i64 num) (.slice (some ⟨b,o,none⟩) m c):=rc3 R1 (by simp);have RK:=LH rk;have hv5:env.length=nv:=(zN rdv.out).1;clear hat VL hs1 hy1 t1 t2 t3 IH0 hty rk R0 R1 hN K0 e1 hf;go_in;go_wp2_with fail;have hW2:=LH sW;generalize hW:((w.alloc (.cells #[.slice a0 n0 c0,.slice a1 n1 c1] 44)).alloc (.cells #[.int .i64 7,.int .i64 num,.slice (some ⟨b,o,none⟩) m c] 58))=W at*;clear hW sW;go_still_tail 7,(by kernel_rfl);change wpList _ _ _ _ _ W.drew;go_wp2_with fail;refine(IH.out 0 (by have:=HM.out;omega) vars env n N q base D (j7 D1 w) v rows _ _ _ _ _ _ _ _ _ _ _ _ W.drew (LW.out.k (kD W)) HN.out rd0.out.kd rdv.out.kd RK.out.kd HE.out TY2.out hlen (by omega) (by omega) (by omega)).mono ?_;rw[HS1.out,HY1.out];rintro e w1 ⟨v1,D2,rfl,L1,T1⟩;have T1':=LH ((qM.keep (kD W)).trans T1);have HE1:=LH (ZD HE.out (by have:=hW2.out;omega) T1'.out);obtain⟨N1,hN1⟩:∃N1:Int,N1=((n+s1.length:Nat):Int):=⟨_,rfl⟩;have HN1:=LH hN1;have L1':=LH (show qL w1 base q 196 #[v1,.int .i64 N1] D2 v1 (rows++zk s1)by rw[hN1];exact L1);have hn0:0≤N1:=by omega
 have hn1:N1≤5000:=by omega
 have hw1:=T1'.out.ext.size;have x0:=z7 T1'.out HE.out x0 (.inr (.inl rfl));have x1:=z7 T1'.out HE.out x1 (.inr (.inl rfl));have u0:=z7 T1'.out HE.out u0 (.inr (.inr rfl));have u1:=z7 T1'.out HE.out u1 (.inr (.inr rfl));have u2:=z7 T1'.out HE.out u2 (.inr (.inr rfl));have KA:=zQ.al w1 (.cells #[] 69);have qd:=LH (rd0.out.low HE.out T1'.out);have qv:=LH (rdv.out.low HE.out T1'.out);have qk:Hid (∀(i:Nat),i<m→∃b' o',(some (⟨b,o,none⟩:Addr))=some ⟨b',o',none⟩∧b'<w1.heap.size∧∃a2 n2 c2,w1.cell? ⟨b',o'+i*3,none⟩=some (.int .i64 (eAt ks i).op)∧w1.cell? ⟨b',o'+i*3+1,none⟩=some (.int .i64 (eAt ks i).num)∧w1.cell? ⟨b',o'+i*3+2,none⟩=some (.slice a2 n2 c2)∧Rd w1 (j7 D1 w) (zJ (eAt ks i).kids) (.slice a2 n2 c2)):=by
  intro i hi;obtain⟨b',o',e',hb',a2,n2,c2,h0,h1,h2,r⟩:=HAT.out i hi;exact⟨b',o',e',by rcases hb' with h|h|h<;>(have:=hW2.out;omega),a2,n2,c2,z7 T1'.out HE.out h0 hb',z7 T1'.out HE.out h1 hb',z7 T1'.out HE.out h2 hb',r.low HE.out T1'.out⟩
 clear d0 d1 d2 T1 L1 hN1 rde rd0 rdv RK;obtain⟨xA0,xA1,uA1⟩:=KA.k3 x0 x1 u1;go_wp2_with fail;clear xA0 xA1 uA1;refine(jq _ _ _ ds _ _ _ (Rd.toDecls (qd.out.k KA)) HF.out).mono ?_;rintro e w2 ⟨ac,mc,cc,rfl,hmc,oc,p2⟩;have K12:=LH (KA.trans p2);have OC:=LH oc;have hw2:=K12.out.size;have hlo:w1.heap.size<w2.heap.size:=by have:=p2.size;simp at this;omega
 have A0:Hid (Acc w2 w1.heap.size (fun _=>False) 69 2 (.slice (some ⟨w1.heap.size,0,none⟩) 0 0) (yE ((jR ds (ks.drop 1) (qD ds 7 num) env (n+s1.length)).take 0))):=(Acc.made w1 (fun _=>False) 69 2).keep p2;have B0:Hid (∀k,(Value.slice (some ⟨w1.heap.size,0,none⟩) 0 0).ownBlock=some k→k=w1.heap.size∨w2.heap.size≤k):=fun k hk=>.inl (by have:w1.heap.size=k:=(by simpa [Value.ownBlock]using hk);omega);obtain⟨x0,x1,u0,u1,u2⟩:=K12.out.k5 x0 x1 u0 u1 u2;have L2:=LH (L1'.out.k K12.out);have X0:=LH x0;have X1:=LH x1;have U0:=LH u0;have U1:=LH u1;have U2:=LH u2;have hwW:w.heap.size+2≤w1.heap.size:=by have:=hW2.out;omega
 have HW1:=LH hwW;clear oc p2 KA x0 x1 u0 u1 u2;go_wp2_with fail;go_loopw [11,13] (fun ov iv wr=>∃(j:Nat) (I:Int) (DK:Nat→Prop) (vk:Value),vk=ov∧j+1≤m∧iv=.int .i64 I∧Hid (I=(j:Int)+1)∧Hid (Acc wr w1.heap.size DK 69 2 ov (yE ((jR ds (ks.drop 1) (qD ds 7 num) env (n+s1.length)).take j)))∧Hid (∀k,DK k→w1.heap.size≤k∧k<wr.heap.size)∧Hid (Ext (fun k=>k=w1.heap.size) w2 wr)∧Hid (∀k,ov.ownBlock=some k→k=w1.heap.size∨w2.heap.size≤k)) (fun _ iv _=>m-(intOf iv).toNat)
 case atStart=>exact⟨0,1,fun _=>False,_,rfl,by omega,rfl,rfl,A0,fun _ h=>h.elim,Ext.refl _ _,B0⟩
 case round=>
  obtain⟨j,I,DK,vk,rfl,hj,rfl,HI,HA,HD,HK,HB⟩:=hrel;obtain⟨wo,rfl⟩:∃wo:World,wo=wr:=⟨_,rfl⟩;clear A0 B0;have hI0:0≤I:=by have:=HI.out;omega
  have hI1:1≤I:=by have:=HI.out;omega
  have hI2:I≤(m:Int):=by have:=HI.out;omega
  have x0:=HK.out.cq X0.out (fun h=>by change w.heap.size=_ at h;omega);have x1:=HK.out.cq X1.out (fun h=>by change w.heap.size=_ at h;omega);have u0:=HK.out.cq U0.out (fun h=>by change w.heap.size+1=_ at h;omega);have u1:=HK.out.cq U1.out (fun h=>by change w.heap.size+1=_ at h;omega);have u2:=HK.out.cq U2.out (fun h=>by change w.heap.size+1=_ at h;omega);have hll:=Zw ds env (n+s1.length) (ks.drop 1) (qD ds 7 num);rw[List.length_drop]at hll;have hlk:((jR ds (ks.drop 1) (qD ds 7 num) env (n+s1.length)).take j).length=j:=by rw[List.length_take,hll];have:=HM.out;omega
  have HLK:=LH (show(yE ((jR ds (ks.drop 1) (qD ds 7 num) env (n+s1.length)).take j)).length=j by rw[jN,List.length_map];exact hlk);have hwo:=HK.out.size;by_cases hlt:I<(m:Int)
  ·have hjk:j+1<ks.length:=by have:=HI.out;have:=HM.out;omega
   have hj9:j≤4000:=by have:=qq ks;omega
   have HJD:=LH (show j<(ks.drop 1).length by rw[List.length_drop];omega);have HLA:=LH (QH ds env (n+s1.length) (fs:=qD ds 7 num) HJD.out);obtain⟨b',o',e',hb',ak,nk,ck,d0,d1,d2,rk⟩:=qk.out (j+1) (by have:=HM.out;omega);injection e' with e'
   injection e' with e' e''
   subst e' e'';have hIn:I.toNat=j+1:=by have:=HI.out;omega
   have d0:w1.cell? ⟨b,o+I.toNat*3,none⟩=some (.int .i64 (eAt ks (j+1)).op):=by rw[hIn];exact d0
   have d1:w1.cell? ⟨b,o+I.toNat*3+1,none⟩=some (.int .i64 (eAt ks (j+1)).num):=by rw[hIn];exact d1
   have d2:w1.cell? ⟨b,o+I.toNat*3+2,none⟩=some (.slice ak nk ck):=by rw[hIn];exact d2
   have KX:=(zQ.to K12.out).trans HK.out;have hnb:b≠w1.heap.size:=by omega
   obtain⟨d0,d1,d2⟩:=KX.e3 hnb d0 d1 d2;have hns:∀k,j7 D1 w k→k≠w1.heap.size:=by
    intro k hk;rcases hk with hk|hk|hk<;>omega
   have Qk:=LH ((rk.ext KX hns).t);have Qd:=LH ((qd.out.ext KX hns).t);have Qv:=LH ((qv.out.ext KX hns).t);obtain⟨fj,hfj⟩:∃f,(cAt (qD ds 7 num) j).length=f:=⟨_,rfl⟩;have HFJ:=LH hfj;have hf3:fj≤3:=by rw[←hfj];exact HFL.out j
   have TYJ:=LH (TY3.out j hjk);have hn2:=HTW.out j hjk;have LO:=LH (L2.out.ext HK.out (fun e=>by have:=L1'.out.qlt;omega) (fun k hk e=>by have:=L1'.out.lt k hk;omega) (fun k hk e=>by have:=L1'.out.own k hk;omega));have t1:wo.cell? ⟨q,1,none⟩=some (.int .i64 N1):=LO.out.row.cell (i:=1) (by simp);have hlen2:(vars++cAt (qD ds 7 num) j).length=(env++qj (n+s1.length) fj).length:=by rw[List.length_append,List.length_append,yT,hfj,hlen]
   have hlen3:(env++qj (n+s1.length) fj).length+4*nE (eAt ks (j+1))≤4000:=by rw[List.length_append,yT];omega
   have hlen4:n+s1.length+fj+4*nE (eAt ks (j+1))≤4000:=by omega
   have HL2:=LH hlen2;have HL3:=LH hlen3;have HL4:=LH hlen4;have HLO:=LH hlo;have HWO:=LH hwo;obtain⟨r,hr⟩:∃s,(qG ds (eAt ks (j+1)) (env++qj (n+s1.length) fj) (n+s1.length+fj)).2=s:=⟨_,rfl⟩;obtain⟨sb,hsb⟩:∃s,(qG ds (eAt ks (j+1)) (env++qj (n+s1.length) fj) (n+s1.length+fj)).1=s:=⟨_,rfl⟩;have HR:=LH hr;have HSB:=LH hsb;have HQ0:=LH hq0;have KXE:=LH KX;have HMJ:Hid ((0:Int)=(fj:Int)):=by
    show _=_;have h2:=HFJ.out;rw[qD,if_neg (by decide)]at h2;rcases j with _|_|j<;>simp[cAt]at h2<;>omega
   clear hfj rk KX hIn hlen2 hlen3 hlen4 hr hsb hn2 hll hlk hlo hwo hw2 hw1 hq0 hsl hns HW1;have Qd':=Qd;have Qv':=Qv;have Qk':=Qk;go_wp2_with fail;have hw5:IntKind.i64.wrap N1=N1:=IntWalk.i64_in _ (by omega);have QD:=LH Qd'.out.kd;have QV:=LH Qv'.out.kd;have QK:=LH Qk'.out.kd;have HA0:Hid (Acc wo.drew w1.heap.size DK 69 2 vk (yE ((jR ds (ks.drop 1) (qD ds 7 num) env (n+s1.length)).take j))):=HA.out.keep ((kD wo));have ZW:Hid (wo.heap.size≤wo.heap.size):=(Ext.refl (fun _=>False) wo).size;have KWK:=LH ((Ext.refl (fun _=>False) wo));refine wp_region_held_drew (S:=fun w'=>w'.cell? ⟨w.heap.size,0,none⟩=some (.slice a0 n0 c0)∧w'.cell? ⟨w.heap.size,1,none⟩=some (.slice a1 n1 c1)∧w'.cell? ⟨w.heap.size+1,2,none⟩=some (.slice (some ⟨b,o,none⟩) m c)∧w'.cell? ⟨b,o+I.toNat*3,none⟩=some (.int .i64 (eAt ks (j+1)).op)∧w'.cell? ⟨b,o+I.toNat*3+1,none⟩=some (.int .i64 (eAt ks (j+1)).num)∧w'.cell? ⟨b,o+I.toNat*3+2,none⟩=some (.slice ak nk ck)∧w'.cell? ⟨q,1,none⟩=some (.int .i64 N1)) (by kernel_rfl) ⟨x0,x1,u2,d0,d1,d2,t1⟩ (fun hHeld=>?_);refine wT 0 hHeld ?_;try go_frame
   refine wT 1 hHeld ?_;try go_frame
   refine wT 2 hHeld ?_;try go_frame
   refine wT 3 hHeld ?_;try go_frame
   refine wT 4 hHeld ?_;try go_frame
   refine wT 5 hHeld ?_;try go_frame
   refine wT 6 hHeld ?_;try go_frame
   refine wT 7 hHeld ?_;try go_frame
   refine wT 8 hHeld ?_;try go_frame
   refine wT 9 hHeld ?_;try go_frame
   refine wT 10 hHeld ?_;try go_frame
   refine wT 11 hHeld ?_;try go_frame
   refine wT 12 hHeld ?_;try go_frame
   refine wT 15 hHeld ?_;try go_frame
   refine wT 16 hHeld ?_;try go_frame
   refine wT 17 hHeld ?_;try go_frame
   refine wT 18 hHeld ?_;try go_frame
   refine wT 19 hHeld ?_;try go_frame
   refine wT 20 hHeld ?_;try go_frame
   refine wO 13 (fun K hK=>?_);go_simp;go_at_call 101;refine(uL (n+s1.length) fj N1 0 HN1.out HMJ.out wo.drew (by have:=HL4.out;omega) (by have:=HL4.out;omega)).mono ?_;rintro e wa ⟨vn,rfl,hvn,pa⟩;obtain⟨an,cn,rfl,hcn,on⟩:=hvn.slice;have x0a:=zQ.at pa x0;have x1a:=zQ.at pa x1;have u2a:=zQ.at pa u2;have d0a:=zQ.at pa d0;have d1a:=zQ.at pa d1;have d2a:=zQ.at pa d2;have t1a:=zQ.at pa t1;have ZA:Hid (wo.heap.size≤wa.heap.size):=pa.size;have PA:=LH pa;have ON:=LH on.read;clear pa on hvn;refine hK.out _ _ ⟨x0a,x1a,u2a,d0a,d1a,d2a,t1a⟩ (fun hHeld=>?_);clear hK K;try go_frame
   refine wO 14 (fun K hK=>?_);go_simp;go_at_call 149;refine(yw _ _ _ env _ _ _ _ (qj (n+s1.length) fj) _ wa (Rd.toInts (QV.out.k PA.out)) (by omega) ON.out (by rw[yT];omega)).mono ?_;rintro e wb ⟨xa,xn,xc,rfl,hxc,ox,pb⟩;obtain⟨x0b,x1b,u2b,d0b,d1b,d2b⟩:=pb.k6 x0a x1a u2a d0a d1a d2a;have t1b:=pb.q t1a;have ZB:Hid (wa.heap.size≤wb.heap.size):=pb.size;have PB:=LH pb;have OX:=LH ((ox.read.toRd hxc (by have:=ox.1;have:=HL3.out;omega)).t);clear pb ox;refine hK.out _ _ ⟨x0b,x1b,u2b,d0b,d1b,d2b,t1b⟩ (fun hHeld=>?_);clear hK K;try go_frame
   refine wO 21 (fun K hK=>?_);go_simp;go_at_call 100;refine(IB.out (j+1) hjk _ _ (n+s1.length+fj) _ _ _ _ _ _ _ _ _ _ _ _ _ wb (by have:=HN1.out;have:=HMJ.out;omega) ((QD.out.k PA.out).k PB.out) OX.out ((QK.out.k PA.out).k PB.out) TYJ.out HL2.out HL3.out HL4.out).mono ?_;rw[HR.out,HSB.out];rintro e wc ⟨ab,nb,cb,rfl,ob,pc⟩;obtain⟨x0c,x1c,u2c,d0c,d1c,d2c⟩:=pc.k6 x0b x1b u2b d0b d1b d2b;have t1c:=pc.q t1b;have ZC:Hid (wb.heap.size≤wc.heap.size):=pc.size;have OB:=LH (ob.lt);have PC:=LH pc;clear pc ob;refine hK.out _ _ ⟨x0c,x1c,u2c,d0c,d1c,d2c,t1c⟩ (fun hHeld=>?_);clear hK K;try go_frame
   refine wO 22 (fun K hK=>?_);go_simp;refine hK.out _ _ ⟨(zQ.al wc (.cells #[.slice ab nb cb,.int .i64 r] 69)).cq x0c (fun h=>h),(zQ.al wc (.cells #[.slice ab nb cb,.int .i64 r] 69)).cq x1c (fun h=>h),(zQ.al wc (.cells #[.slice ab nb cb,.int .i64 r] 69)).cq u2c (fun h=>h),(zQ.al wc (.cells #[.slice ab nb cb,.int .i64 r] 69)).cq d0c (fun h=>h),(zQ.al wc (.cells #[.slice ab nb cb,.int .i64 r] 69)).cq d1c (fun h=>h),(zQ.al wc (.cells #[.slice ab nb cb,.int .i64 r] 69)).cq d2c (fun h=>h),(zQ.al wc (.cells #[.slice ab nb cb,.int .i64 r] 69)).cq t1c (fun h=>h)⟩ (fun hHeld=>?_);clear hK K;try go_frame
   refine wO 23 (fun K hK=>?_);refine yU (ops:= #[]) (by rfl) (uE (by rfl) (.tmp 84) (.tmp 106) (by rfl) w1.heap.size vk _ (by rfl) (((((HA0.out.keep PA.out).keep PB.out).keep PC.out).keep (zQ.al wc (.cells #[.slice ab nb cb,.int .i64 r] 69)))) wc.heap.size 1 sb r (.slice ab nb cb) (fun k=>wb.heap.size≤k∧k<wc.heap.size) (by rfl) (j0 wc _ _) (OB.out.ext (zQ.al wc (.cells #[.slice ab nb cb,.int .i64 r] 69)) (fun _ _ h=>h)) (fun k hk=>⟨fun h=>by have:=(HD.out k h).2;have:=ZA.out;have:=ZB.out;have:=ZW.out;omega,fun h=>by have:=(HA.out.bound k h).2;have:=ZA.out;have:=ZB.out;have:=ZW.out;omega⟩) (by rw[HLK.out];omega) (by have:=ZA.out;have:=ZB.out;have:=ZC.out;have:=HLO.out;have:=HWO.out;have:=ZW.out;simp only[World.size_alloc];omega) ?_);intro a' n' c' w7 hA7 x7 s7 b7;have A7:=LH hA7;have X7:=LH x7;have B7:=LH b7;have hno:∀k,k<w1.heap.size→¬vk.ownBlock=some k:=fun k hk e=>by have:=(HA.out.bound k e).1;omega
   have hql1:=L1'.out.qlt;clear hA7 x7 b7;refine hK.out _ _ ⟨X7.out.cq ((zQ.al wc (.cells #[.slice ab nb cb,.int .i64 r] 69)).cq x0c (fun h=>h)) (hno _ (by show w.heap.size<_;omega)),X7.out.cq ((zQ.al wc (.cells #[.slice ab nb cb,.int .i64 r] 69)).cq x1c (fun h=>h)) (hno _ (by show w.heap.size<_;omega)),X7.out.cq ((zQ.al wc (.cells #[.slice ab nb cb,.int .i64 r] 69)).cq u2c (fun h=>h)) (hno _ (by show w.heap.size+1<_;omega)),X7.out.cq ((zQ.al wc (.cells #[.slice ab nb cb,.int .i64 r] 69)).cq d0c (fun h=>h)) (hno _ (by show b<_;omega)),X7.out.cq ((zQ.al wc (.cells #[.slice ab nb cb,.int .i64 r] 69)).cq d1c (fun h=>h)) (hno _ (by show b<_;omega)),X7.out.cq ((zQ.al wc (.cells #[.slice ab nb cb,.int .i64 r] 69)).cq d2c (fun h=>h)) (hno _ (by show b<_;omega)),X7.out.cq ((zQ.al wc (.cells #[.slice ab nb cb,.int .i64 r] 69)).cq t1c (fun h=>h)) (hno _ (by show q<_;omega))⟩ (fun hHeld=>?_);clear hK K;try go_frame
   refine wT 24 hHeld ?_;try go_frame
   refine wpAnyH_done (by kernel_rfl) ?_ _;all_goals
    have hx7:=X7.out.size;simp only[World.size_alloc]at hx7;have HX7:=LH hx7;have KR:=LH ((((((HK.out.trans (zQ.to KWK.out)).trans (zQ.to (zQ.dt PA.out))).trans (zQ.to PB.out)).trans (zQ.to PC.out)).trans (zQ.to (zQ.al wc (.cells #[.slice ab nb cb,.int .i64 r] 69)))).then_ X7.out (fun i hi h=>by rcases HB.out i h with h|h;exact h;omega));clear hx7;go_wp2;go_roundw
    case rel=>exact⟨j+1,I+1,_,_,rfl,by have:=HI.out;omega,by go_num,(by show _=_;have:=HI.out;omega),by
     show Acc _ _ _ _ _ _ _
     rw[HLA.out,jN,List.map_append,←jN,List.map_singleton,Vq,HFJ.out,QL,HSB.out,HR.out]
     exact A7.out,(fun k hk=>by
      have h1:=ZA.out;have h2:=ZB.out;have h3:=ZC.out;have h4:=HLO.out;have h5:=HWO.out;have h6:=HX7.out;have h7:=ZW.out
      rcases hk with hk|hk
      ·have:=HD.out k hk;omega
      ·have:=hk.1;omega),KR.out,(fun k hk=>by
      have h1:=ZA.out;have h2:=ZB.out;have h3:=ZC.out;have h5:=HWO.out;have h7:=ZW.out
      rcases B7.out k hk with h|h
      ·exact HB.out k h
      ·simp only[World.size_alloc]at h;exact .inr (by omega))⟩
    case measure=>simp[intOf];have:=HI.out;omega
  ·have HJ:Hid (j+1=m):=by have:=HI.out;show _=_;omega
   have HTK:=LH (show(jR ds (ks.drop 1) (qD ds 7 num) env (n+s1.length)).take j=jR ds (ks.drop 1) (qD ds 7 num) env (n+s1.length)by rw[List.take_of_length_le (by rw[hll];have:=HM.out;have:=HJ.out;omega)]);rw[HTK.out]at HA HLK;have KI:=zQ.al wo (.cells #[.int .i64 y1] 3);have KI':=LH KI;have LO:=LH (L2.out.ext HK.out (fun e=>by have:=L1'.out.qlt;omega) (fun k hk e=>by have:=L1'.out.lt k hk;omega) (fun k hk e=>by have:=L1'.out.own k hk;omega));have LJ:=LH (LO.out.k KI);obtain⟨aO,cO,e9,hcO,hoO⟩:=HA.out.own (by omega) (by rw[HLK.out];omega);rw[HLK.out]at e9;subst e9;have OB:Hid (Own (wo.alloc (.cells #[.int .i64 y1] 3)) (fun k=>w1.heap.size≤k∧k<wo.heap.size) (zC (jR ds (ks.drop 1) (qD ds 7 num) env (n+s1.length))) (.slice aO j cO)):=(hoO.lt.mono (D':=fun k=>w1.heap.size≤k∧k<wo.heap.size) (fun k hk=>⟨by rcases hk.1 with h|h;exact(HD.out k h).1;exact h,hk.2⟩)).ext KI (fun _ _ h=>h);have OA:=LH (kQ wo y1);have HLO:=LH hlo;have HWO:=LH hwo;have HTT:=LH ((T1'.out.post K12.out).aside HK.out (fun k hk=>by have:=T1'.out.ext.size;omega));clear KI hoO hll hlk;go_wp2_with fail;have HEA:Hid (∀k,(k=wo.heap.size)∨(w1.heap.size≤k∧k<wo.heap.size)→¬D2 k∧k≠q∧v1.ownBlock≠some k):=by
    intro k hk;have h1:w1.heap.size≤k:=by have:=HLO.out;have:=HWO.out;omega
    exact⟨fun h=>by have:=L1'.out.lt k h;omega,fun h=>by have:=L1'.out.qlt;omega,fun h=>by have:=L1'.out.own k h;omega⟩
   have HDA:Hid (∀k,k=wo.heap.size→¬(w1.heap.size≤k∧k<wo.heap.size)):=fun k h1 h2=>by omega
   have hrl:(rows++zk s1).length≤100000:=by rw[List.length_append,qx,List.length_map];omega
   have hn2:N1≤100000:=by omega
   have C:=GX base q v1 N1 D2 (rows++zk s1) 7 num 0 [y1] (jR ds (ks.drop 1) (qD ds 7 num) env (n+s1.length)) (some ⟨wo.heap.size,0,none⟩) 1 1 aO j cO (fun k=>k=wo.heap.size) (fun k=>w1.heap.size≤k∧k<wo.heap.size) (wo.alloc (.cells #[.int .i64 y1] 3)) LJ.out OA.out OB.out HEA.out HDA.out hrl hn0 hn2;refine C.mono ?_;clear C;rintro e w5 ⟨rfl,v5,D5,L5,S5,X5,B5⟩;have L5':=LH L5;have T5:=LH (HTT.out.add KI'.out X5 S5 (fun k hk=>by change k=wo.heap.size∨(w1.heap.size≤k∧k<wo.heap.size)at hk;have:=HLO.out;have:=HWO.out;have:=T1'.out.ext.size;omega) B5);clear L5 S5 X5 B5;go_wp2_with fail;refine zB hQ ⟨v5,D5,zE HN1.out,?_,(qM.keep KW.out).trans T5.out⟩;refine uX L5'.out (by rw[HN1.out,List.length_append,List.length_singleton];rfl) (by rw[xx,gT,List.append_assoc])
end
section
variable (ds:List zG)(sg:List yJ)(hok:qJ ds sg=true)
include hok
theorem Fv(num:Int)(ks:List zK)(IH0:∀j,j<ks.length→LwS ds sg (eAt ks j)):LwS ds sg (.mk 8 num ks):=by
 intro vars env n N q base D D1 v rows a0 n0 c0 a1 n1 c1 av nv cv a m c w hL hN r0 rv re hAs hty hlen hB1 hB2 hB3;refine zV fun Q hQ=>?_;change Rd w D1 (zJ ks) _ at re;simp only[zK.op,zK.num];rw[nE]at hB1 hB2 hB3;have K0:=(zQ.al w (.cells #[.slice a0 n0 c0,.slice a1 n1 c1] 44)).trans (zQ.al _ (.cells #[.int .i64 8,.int .i64 num,.slice a m c] 58));have R0:=(zP w #[.slice a0 n0 c0,.slice a1 n1 c1] 44).alloc (.cells #[.int .i64 8,.int .i64 num,.slice a m c] 58);have R1:=zP (w.alloc (.cells #[.slice a0 n0 c0,.slice a1 n1 c1] 44)) #[.int .i64 8,.int .i64 num,.slice a m c] 58;simp only[World.size_alloc]at R1;have hq:=hL.qlt;have hv:=hL.own;have HE:Hid (∀k,j7 D1 w k→k≠q∧v.ownBlock≠some k):=by
  intro k hk;rcases hk with hk|rfl|rfl
  ·exact hAs k hk.1
  ·exact⟨by omega,fun e=>by have:=hv _ e;omega⟩
  ·exact⟨by omega,fun e=>by have:=hv _ e;omega⟩
 have rd0:=LH (((r0.lt).mono (D':=j7 D1 w) (fun k hk=>.inl hk)).k K0);have rdv:=LH (((rv.lt).mono (D':=j7 D1 w) (fun k hk=>.inl hk)).k K0);have rde:=LH (((re.lt).mono (D':=j7 D1 w) (fun k hk=>.inl hk)).k K0);have LW:=LH (hL.k K0);have KW:=LH K0;have sW:(((w.alloc (.cells #[.slice a0 n0 c0,.slice a1 n1 c1] 44)).alloc (.cells #[.int .i64 8,.int .i64 num,.slice a m c] 58))).heap.size=w.heap.size+2:=by simp
 clear hAs hL r0 rv re;obtain⟨t1,t2,t3⟩:=kS (.inr rfl) hty;have hf:=Few.of_ok (zL hok).1;have HF:=LH hf;have HFL:=LH (Yj (ds:=ds) hok 8 num);have TY2:=LH t2;have TY3:=LH t3;have HKL:=LH t1;have IH:=LH IH0;have IB:=LH (fun(j:Nat) (hj:j<ks.length)=>vY ds sg _ (IH0 j hj));have HTW:=LH (fun(j:Nat) (hj:j+1<ks.length)=>YL ks hj);have hq0:=yN ks (j:=0) (by omega);have VL:=LH (kV (num:=num) (ks:=ks) ds env n (op:=8) (.inr rfl) (by omega));rw[VL.out]at hQ;obtain⟨s1,hs1⟩:∃s,(qG ds (eAt ks 0) env n).1=s:=⟨_,rfl⟩;obtain⟨y1,hy1⟩:∃s,(qG ds (eAt ks 0) env n).2=s:=⟨_,rfl⟩;have hsl:s1.length≤nE (eAt ks 0):=by rw[←hs1];exact vK ds _ _ _
 rw[hs1,hy1]at hQ;have HS1:=LH hs1;have HY1:=LH hy1;obtain⟨e1,hnc,hnm,hat⟩:=zx rde.out;have HAT:=LH hat;have HM:=LH e1;obtain⟨b,o,rfl,hb0,ak,nk,ck,d0,d1,d2,rk⟩:=hat 0 (by omega);simp only[Nat.zero_mul,Nat.add_zero]at d0 d1 d2;have HN:=LH hN;have enl:env.length≤4000:=by omega
 have hm1:1≤m:=by omega
 have hm2:(0:Int)<(m:Int):=by omega
 have hm3:0<m:=by omega
 obtain⟨x0,x1⟩:C2 ((((w.alloc (.cells #[.slice a0 n0 c0,.slice a1 n1 c1] 44)).alloc (.cells #[.int .i64 8,.int .i64 num,.slice (some ⟨b,o,none⟩) m c] 58)))) (w.heap.size) (.slice a0 n0 c0) (.slice a1 n1 c1):=rc2 R0 (by simp);obtain⟨u0,u1,u2⟩:C3 ((((w.alloc (.cells #[.slice a0 n0 c0,.slice a1 n1 c1] 44)).alloc (.cells #[.int .i64 8,.int .i64 num,.slice (some ⟨b,o,none⟩) m c] 58)))) (w.heap.size+1) (.int .i64 8) (.int .i64 num) (.slice (some ⟨b,o,none⟩) m c):=rc3 R1 (by simp);have RK:=LH rk;have hv5:env.length=nv:=(zN rdv.out).1;clear hat VL hs1 hy1 t1 t2 t3 IH0 hty rk R0 R1 hN K0 e1 hf;go_in;go_wp2_with fail;have hW2:=LH sW;generalize hW:((w.alloc (.cells #[.slice a0 n0 c0,.slice a1 n1 c1] 44)).alloc (.cells #[.int .i64 8,.int .i64 num,.slice (some ⟨b,o,none⟩) m c] 58))=W at*;clear hW sW;go_still_tail 7,(by kernel_rfl);change wpList _ _ _ _ _ W.drew;go_wp2_with fail;refine(IH.out 0 (by have:=HM.out;omega) vars env n N q base D (j7 D1 w) v rows _ _ _ _ _ _ _ _ _ _ _ _ W.drew (LW.out.k (kD W)) HN.out rd0.out.kd rdv.out.kd RK.out.kd HE.out TY2.out hlen (by omega) (by omega) (by omega)).mono ?_;rw[HS1.out,HY1.out];rintro e w1 ⟨v1,D2,rfl,L1,T1⟩;have T1':=LH ((qM.keep (kD W)).trans T1);have HE1:=LH (ZD HE.out (by have:=hW2.out;omega) T1'.out);obtain⟨N1,hN1⟩:∃N1:Int,N1=((n+s1.length:Nat):Int):=⟨_,rfl⟩;have HN1:=LH hN1;have L1':=LH (show qL w1 base q 196 #[v1,.int .i64 N1] D2 v1 (rows++zk s1)by rw[hN1];exact L1);have hn0:0≤N1:=by omega
 have hn1:N1≤5000:=by omega
 have hw1:=T1'.out.ext.size;have x0:=z7 T1'.out HE.out x0 (.inr (.inl rfl));have x1:=z7 T1'.out HE.out x1 (.inr (.inl rfl));have u0:=z7 T1'.out HE.out u0 (.inr (.inr rfl));have u1:=z7 T1'.out HE.out u1 (.inr (.inr rfl));have u2:=z7 T1'.out HE.out u2 (.inr (.inr rfl));have KA:=zQ.al w1 (.cells #[] 69);have qd:=LH (rd0.out.low HE.out T1'.out);have qv:=LH (rdv.out.low HE.out T1'.out);have qk:Hid (∀(i:Nat),i<m→∃b' o',(some (⟨b,o,none⟩:Addr))=some ⟨b',o',none⟩∧b'<w1.heap.size∧∃a2 n2 c2,w1.cell? ⟨b',o'+i*3,none⟩=some (.int .i64 (eAt ks i).op)∧w1.cell? ⟨b',o'+i*3+1,none⟩=some (.int .i64 (eAt ks i).num)∧w1.cell? ⟨b',o'+i*3+2,none⟩=some (.slice a2 n2 c2)∧Rd w1 (j7 D1 w) (zJ (eAt ks i).kids) (.slice a2 n2 c2)):=by
  intro i hi;obtain⟨b',o',e',hb',a2,n2,c2,h0,h1,h2,r⟩:=HAT.out i hi;exact⟨b',o',e',by rcases hb' with h|h|h<;>(have:=hW2.out;omega),a2,n2,c2,z7 T1'.out HE.out h0 hb',z7 T1'.out HE.out h1 hb',z7 T1'.out HE.out h2 hb',r.low HE.out T1'.out⟩
 clear d0 d1 d2 T1 L1 hN1 rde rd0 rdv RK;obtain⟨xA0,xA1,uA1⟩:=KA.k3 x0 x1 u1;go_wp2_with fail;clear xA0 xA1 uA1;refine(jq _ _ _ ds _ _ _ (Rd.toDecls (qd.out.k KA)) HF.out).mono ?_;rintro e w2 ⟨ac,mc,cc,rfl,hmc,oc,p2⟩;have K12:=LH (KA.trans p2);have OC:=LH oc;have hw2:=K12.out.size;have hlo:w1.heap.size<w2.heap.size:=by have:=p2.size;simp at this;omega
 have A0:Hid (Acc w2 w1.heap.size (fun _=>False) 69 2 (.slice (some ⟨w1.heap.size,0,none⟩) 0 0) (yE ((jR ds (ks.drop 1) (qD ds 8 num) env (n+s1.length)).take 0))):=(Acc.made w1 (fun _=>False) 69 2).keep p2;have B0:Hid (∀k,(Value.slice (some ⟨w1.heap.size,0,none⟩) 0 0).ownBlock=some k→k=w1.heap.size∨w2.heap.size≤k):=fun k hk=>.inl (by have:w1.heap.size=k:=(by simpa [Value.ownBlock]using hk);omega);obtain⟨x0,x1,u0,u1,u2⟩:=K12.out.k5 x0 x1 u0 u1 u2;have L2:=LH (L1'.out.k K12.out);have X0:=LH x0;have X1:=LH x1;have U0:=LH u0;have U1:=LH u1;have U2:=LH u2;have hwW:w.heap.size+2≤w1.heap.size:=by have:=hW2.out;omega
 have HW1:=LH hwW;have HKC:=LH (show m=1+(zv ds num).length by rw[←HM.out,HKL.out,qD,if_pos rfl,kN]);clear oc p2 KA x0 x1 u0 u1 u2;go_wp2_with fail;go_loopw [11,13] (fun ov iv wr=>∃(j:Nat) (I:Int) (DK:Nat→Prop) (vk:Value),vk=ov∧j+1≤m∧iv=.int .i64 I∧Hid (I=(j:Int)+1)∧Hid (Acc wr w1.heap.size DK 69 2 ov (yE ((jR ds (ks.drop 1) (qD ds 8 num) env (n+s1.length)).take j)))∧Hid (∀k,DK k→w1.heap.size≤k∧k<wr.heap.size)∧Hid (Ext (fun k=>k=w1.heap.size) w2 wr)∧Hid (∀k,ov.ownBlock=some k→k=w1.heap.size∨w2.heap.size≤k)) (fun _ iv _=>m-(intOf iv).toNat)
 case atStart=>exact⟨0,1,fun _=>False,_,rfl,by omega,rfl,rfl,A0,fun _ h=>h.elim,Ext.refl _ _,B0⟩
 case round=>
  obtain⟨j,I,DK,vk,rfl,hj,rfl,HI,HA,HD,HK,HB⟩:=hrel;obtain⟨wo,rfl⟩:∃wo:World,wo=wr:=⟨_,rfl⟩;clear A0 B0;have hI0:0≤I:=by have:=HI.out;omega
  have hI1:1≤I:=by have:=HI.out;omega
  have hI2:I≤(m:Int):=by have:=HI.out;omega
  have x0:=HK.out.cq X0.out (fun h=>by change w.heap.size=_ at h;omega);have x1:=HK.out.cq X1.out (fun h=>by change w.heap.size=_ at h;omega);have u0:=HK.out.cq U0.out (fun h=>by change w.heap.size+1=_ at h;omega);have u1:=HK.out.cq U1.out (fun h=>by change w.heap.size+1=_ at h;omega);have u2:=HK.out.cq U2.out (fun h=>by change w.heap.size+1=_ at h;omega);have hll:=Zw ds env (n+s1.length) (ks.drop 1) (qD ds 8 num);rw[List.length_drop]at hll;have hlk:((jR ds (ks.drop 1) (qD ds 8 num) env (n+s1.length)).take j).length=j:=by rw[List.length_take,hll];have:=HM.out;omega
  have HLK:=LH (show(yE ((jR ds (ks.drop 1) (qD ds 8 num) env (n+s1.length)).take j)).length=j by rw[jN,List.length_map];exact hlk);have hwo:=HK.out.size;by_cases hlt:I<(m:Int)
  ·have hjk:j+1<ks.length:=by have:=HI.out;have:=HM.out;omega
   have hj9:j≤4000:=by have:=qq ks;omega
   have HJD:=LH (show j<(ks.drop 1).length by rw[List.length_drop];omega);have HLA:=LH (QH ds env (n+s1.length) (fs:=qD ds 8 num) HJD.out);obtain⟨b',o',e',hb',ak,nk,ck,d0,d1,d2,rk⟩:=qk.out (j+1) (by have:=HM.out;omega);injection e' with e'
   injection e' with e' e''
   subst e' e'';have hIn:I.toNat=j+1:=by have:=HI.out;omega
   have d0:w1.cell? ⟨b,o+I.toNat*3,none⟩=some (.int .i64 (eAt ks (j+1)).op):=by rw[hIn];exact d0
   have d1:w1.cell? ⟨b,o+I.toNat*3+1,none⟩=some (.int .i64 (eAt ks (j+1)).num):=by rw[hIn];exact d1
   have d2:w1.cell? ⟨b,o+I.toNat*3+2,none⟩=some (.slice ak nk ck):=by rw[hIn];exact d2
   have KX:=(zQ.to K12.out).trans HK.out;have hnb:b≠w1.heap.size:=by omega
   obtain⟨d0,d1,d2⟩:=KX.e3 hnb d0 d1 d2;have hns:∀k,j7 D1 w k→k≠w1.heap.size:=by
    intro k hk;rcases hk with hk|hk|hk<;>omega
   have Qk:=LH ((rk.ext KX hns).t);have Qd:=LH ((qd.out.ext KX hns).t);have Qv:=LH ((qv.out.ext KX hns).t);obtain⟨fj,hfj⟩:∃f,(cAt (qD ds 8 num) j).length=f:=⟨_,rfl⟩;have HFJ:=LH hfj;have hf3:fj≤3:=by rw[←hfj];exact HFL.out j
   have TYJ:=LH (TY3.out j hjk);have hn2:=HTW.out j hjk;have LO:=LH (L2.out.ext HK.out (fun e=>by have:=L1'.out.qlt;omega) (fun k hk e=>by have:=L1'.out.lt k hk;omega) (fun k hk e=>by have:=L1'.out.own k hk;omega));have t1:wo.cell? ⟨q,1,none⟩=some (.int .i64 N1):=LO.out.row.cell (i:=1) (by simp);have hlen2:(vars++cAt (qD ds 8 num) j).length=(env++qj (n+s1.length) fj).length:=by rw[List.length_append,List.length_append,yT,hfj,hlen]
   have hlen3:(env++qj (n+s1.length) fj).length+4*nE (eAt ks (j+1))≤4000:=by rw[List.length_append,yT];omega
   have hlen4:n+s1.length+fj+4*nE (eAt ks (j+1))≤4000:=by omega
   have HL2:=LH hlen2;have HL3:=LH hlen3;have HL4:=LH hlen4;have HLO:=LH hlo;have HWO:=LH hwo;obtain⟨r,hr⟩:∃s,(qG ds (eAt ks (j+1)) (env++qj (n+s1.length) fj) (n+s1.length+fj)).2=s:=⟨_,rfl⟩;obtain⟨sb,hsb⟩:∃s,(qG ds (eAt ks (j+1)) (env++qj (n+s1.length) fj) (n+s1.length+fj)).1=s:=⟨_,rfl⟩;have HR:=LH hr;have HSB:=LH hsb;have HQ0:=LH hq0;have KXE:=LH KX;clear hfj rk KX hIn hlen2 hlen3 hlen4 hr hsb hn2 hll hlk hlo hwo hw2 hw1 hq0 hsl hns HW1;have hmc1:j<mc:=by have:=HI.out;have:=HKC.out;have:=OC.out.1;omega
   obtain⟨bc,occ,rfl,hbc,hcq⟩:=(OC.out.read).2 (by omega);have dj:=hcq j hmc1;have hI3:(I-1).toNat=j:=by have:=HI.out;omega
   have cq:=HK.out.cq dj (fun h=>by change bc=_ at h;simp at hbc;omega);have hI4:0≤I-1:=by omega
   have hI5:I-1<(mc:Int):=by have:=HI.out;omega
   have hw6:IntKind.i64.wrap (I-1)=I-1:=IntWalk.i64_in _ (by omega);clear hcq dj;have Qdd:=LH Qd.out.kd;go_wp2_with fail;go_still_tail 7,(by kernel_rfl);change wpList _ _ _ _ _ wo.drew;go_wp2_with fail;clear hI3;refine(xH _ _ _ ds _ _ _ (Rd.toDecls Qdd.out) HF.out).mono ?_;rintro e wf ⟨fa,fm,fc,rfl,hfc,fi,pf⟩;have KF:=LH (zQ.dt pf);have HMJ:Hid ((fm:Int)=(fj:Int)):=by
    have h1:=fi.1;have h2:=HFJ.out;rw[qD,if_pos rfl,QZ (by have:=HI.out;have:=HKC.out;omega)]at h2;show _=_;omega
   have hfm:(fm:Int)≤3:=by have:=HMJ.out;omega
   obtain⟨x0,x1,u2,d0,d1,d2⟩:=KF.out.k6 x0 x1 u2 d0 d1 d2;have t1:=KF.out.q t1;have Qd':=LH (Qd.out.k KF.out);have Qv':=LH (Qv.out.k KF.out);have Qk':=LH (Qk.out.k KF.out);clear cq fi pf;go_wp2_with fail;have hw5:IntKind.i64.wrap (N1+(fm:Int))=N1+(fm:Int):=IntWalk.i64_in _ (by omega);have QD:=LH Qd'.out.kd;have QV:=LH Qv'.out.kd;have QK:=LH Qk'.out.kd;have HA0:Hid (Acc wf.drew w1.heap.size DK 69 2 vk (yE ((jR ds (ks.drop 1) (qD ds 8 num) env (n+s1.length)).take j))):=HA.out.keep (KF.out.drew);have ZW:Hid (wo.heap.size≤wf.heap.size):=KF.out.size;have KWK:=LH (KF.out);refine wp_region_held_drew (S:=fun w'=>w'.cell? ⟨w.heap.size,0,none⟩=some (.slice a0 n0 c0)∧w'.cell? ⟨w.heap.size,1,none⟩=some (.slice a1 n1 c1)∧w'.cell? ⟨w.heap.size+1,2,none⟩=some (.slice (some ⟨b,o,none⟩) m c)∧w'.cell? ⟨b,o+I.toNat*3,none⟩=some (.int .i64 (eAt ks (j+1)).op)∧w'.cell? ⟨b,o+I.toNat*3+1,none⟩=some (.int .i64 (eAt ks (j+1)).num)∧w'.cell? ⟨b,o+I.toNat*3+2,none⟩=some (.slice ak nk ck)∧w'.cell? ⟨q,1,none⟩=some (.int .i64 N1)) (by kernel_rfl) ⟨x0,x1,u2,d0,d1,d2,t1⟩ (fun hHeld=>?_);refine wT 0 hHeld ?_;try go_frame
   refine wT 1 hHeld ?_;try go_frame
   refine wT 2 hHeld ?_;try go_frame
   refine wT 3 hHeld ?_;try go_frame
   refine wT 4 hHeld ?_;try go_frame
   refine wT 5 hHeld ?_;try go_frame
   refine wT 6 hHeld ?_;try go_frame
   refine wT 7 hHeld ?_;try go_frame
   refine wT 8 hHeld ?_;try go_frame
   refine wT 9 hHeld ?_;try go_frame
   refine wT 10 hHeld ?_;try go_frame
   refine wT 11 hHeld ?_;try go_frame
   refine wT 12 hHeld ?_;try go_frame
   refine wT 15 hHeld ?_;try go_frame
   refine wT 16 hHeld ?_;try go_frame
   refine wT 17 hHeld ?_;try go_frame
   refine wT 18 hHeld ?_;try go_frame
   refine wT 19 hHeld ?_;try go_frame
   refine wT 20 hHeld ?_;try go_frame
   refine wO 13 (fun K hK=>?_);go_simp;go_at_call 101;refine(uL (n+s1.length) fj N1 (fm:Int) HN1.out HMJ.out wf.drew (by have:=HL4.out;omega) (by have:=HL4.out;omega)).mono ?_;rintro e wa ⟨vn,rfl,hvn,pa⟩;obtain⟨an,cn,rfl,hcn,on⟩:=hvn.slice;have x0a:=zQ.at pa x0;have x1a:=zQ.at pa x1;have u2a:=zQ.at pa u2;have d0a:=zQ.at pa d0;have d1a:=zQ.at pa d1;have d2a:=zQ.at pa d2;have t1a:=zQ.at pa t1;have ZA:Hid (wf.heap.size≤wa.heap.size):=pa.size;have PA:=LH pa;have ON:=LH on.read;clear pa on hvn;refine hK.out _ _ ⟨x0a,x1a,u2a,d0a,d1a,d2a,t1a⟩ (fun hHeld=>?_);clear hK K;try go_frame
   refine wO 14 (fun K hK=>?_);go_simp;go_at_call 149;refine(yw _ _ _ env _ _ _ _ (qj (n+s1.length) fj) _ wa (Rd.toInts (QV.out.k PA.out)) (by omega) ON.out (by rw[yT];omega)).mono ?_;rintro e wb ⟨xa,xn,xc,rfl,hxc,ox,pb⟩;obtain⟨x0b,x1b,u2b,d0b,d1b,d2b⟩:=pb.k6 x0a x1a u2a d0a d1a d2a;have t1b:=pb.q t1a;have ZB:Hid (wa.heap.size≤wb.heap.size):=pb.size;have PB:=LH pb;have OX:=LH ((ox.read.toRd hxc (by have:=ox.1;have:=HL3.out;omega)).t);clear pb ox;refine hK.out _ _ ⟨x0b,x1b,u2b,d0b,d1b,d2b,t1b⟩ (fun hHeld=>?_);clear hK K;try go_frame
   refine wO 21 (fun K hK=>?_);go_simp;go_at_call 100;refine(IB.out (j+1) hjk _ _ (n+s1.length+fj) _ _ _ _ _ _ _ _ _ _ _ _ _ wb (by have:=HN1.out;have:=HMJ.out;omega) ((QD.out.k PA.out).k PB.out) OX.out ((QK.out.k PA.out).k PB.out) TYJ.out HL2.out HL3.out HL4.out).mono ?_;rw[HR.out,HSB.out];rintro e wc ⟨ab,nb,cb,rfl,ob,pc⟩;obtain⟨x0c,x1c,u2c,d0c,d1c,d2c⟩:=pc.k6 x0b x1b u2b d0b d1b d2b;have t1c:=pc.q t1b;have ZC:Hid (wb.heap.size≤wc.heap.size):=pc.size;have OB:=LH (ob.lt);have PC:=LH pc;clear pc ob;refine hK.out _ _ ⟨x0c,x1c,u2c,d0c,d1c,d2c,t1c⟩ (fun hHeld=>?_);clear hK K;try go_frame
   refine wO 22 (fun K hK=>?_);go_simp;refine hK.out _ _ ⟨(zQ.al wc (.cells #[.slice ab nb cb,.int .i64 r] 69)).cq x0c (fun h=>h),(zQ.al wc (.cells #[.slice ab nb cb,.int .i64 r] 69)).cq x1c (fun h=>h),(zQ.al wc (.cells #[.slice ab nb cb,.int .i64 r] 69)).cq u2c (fun h=>h),(zQ.al wc (.cells #[.slice ab nb cb,.int .i64 r] 69)).cq d0c (fun h=>h),(zQ.al wc (.cells #[.slice ab nb cb,.int .i64 r] 69)).cq d1c (fun h=>h),(zQ.al wc (.cells #[.slice ab nb cb,.int .i64 r] 69)).cq d2c (fun h=>h),(zQ.al wc (.cells #[.slice ab nb cb,.int .i64 r] 69)).cq t1c (fun h=>h)⟩ (fun hHeld=>?_);clear hK K;try go_frame
   refine wO 23 (fun K hK=>?_);refine yU (ops:= #[]) (by rfl) (uE (by rfl) (.tmp 84) (.tmp 106) (by rfl) w1.heap.size vk _ (by rfl) (((((HA0.out.keep PA.out).keep PB.out).keep PC.out).keep (zQ.al wc (.cells #[.slice ab nb cb,.int .i64 r] 69)))) wc.heap.size 1 sb r (.slice ab nb cb) (fun k=>wb.heap.size≤k∧k<wc.heap.size) (by rfl) (j0 wc _ _) (OB.out.ext (zQ.al wc (.cells #[.slice ab nb cb,.int .i64 r] 69)) (fun _ _ h=>h)) (fun k hk=>⟨fun h=>by have:=(HD.out k h).2;have:=ZA.out;have:=ZB.out;have:=ZW.out;omega,fun h=>by have:=(HA.out.bound k h).2;have:=ZA.out;have:=ZB.out;have:=ZW.out;omega⟩) (by rw[HLK.out];omega) (by have:=ZA.out;have:=ZB.out;have:=ZC.out;have:=HLO.out;have:=HWO.out;have:=ZW.out;simp only[World.size_alloc];omega) ?_);intro a' n' c' w7 hA7 x7 s7 b7;have A7:=LH hA7;have X7:=LH x7;have B7:=LH b7;have hno:∀k,k<w1.heap.size→¬vk.ownBlock=some k:=fun k hk e=>by have:=(HA.out.bound k e).1;omega
   have hql1:=L1'.out.qlt;clear hA7 x7 b7;refine hK.out _ _ ⟨X7.out.cq ((zQ.al wc (.cells #[.slice ab nb cb,.int .i64 r] 69)).cq x0c (fun h=>h)) (hno _ (by show w.heap.size<_;omega)),X7.out.cq ((zQ.al wc (.cells #[.slice ab nb cb,.int .i64 r] 69)).cq x1c (fun h=>h)) (hno _ (by show w.heap.size<_;omega)),X7.out.cq ((zQ.al wc (.cells #[.slice ab nb cb,.int .i64 r] 69)).cq u2c (fun h=>h)) (hno _ (by show w.heap.size+1<_;omega)),X7.out.cq ((zQ.al wc (.cells #[.slice ab nb cb,.int .i64 r] 69)).cq d0c (fun h=>h)) (hno _ (by show b<_;omega)),X7.out.cq ((zQ.al wc (.cells #[.slice ab nb cb,.int .i64 r] 69)).cq d1c (fun h=>h)) (hno _ (by show b<_;omega)),X7.out.cq ((zQ.al wc (.cells #[.slice ab nb cb,.int .i64 r] 69)).cq d2c (fun h=>h)) (hno _ (by show b<_;omega)),X7.out.cq ((zQ.al wc (.cells #[.slice ab nb cb,.int .i64 r] 69)).cq t1c (fun h=>h)) (hno _ (by show q<_;omega))⟩ (fun hHeld=>?_);clear hK K;try go_frame
   refine wT 24 hHeld ?_;try go_frame
   refine wpAnyH_done (by kernel_rfl) ?_ _;all_goals
    have hx7:=X7.out.size;simp only[World.size_alloc]at hx7;have HX7:=LH hx7;have KR:=LH ((((((HK.out.trans (zQ.to KWK.out)).trans (zQ.to (zQ.dt PA.out))).trans (zQ.to PB.out)).trans (zQ.to PC.out)).trans (zQ.to (zQ.al wc (.cells #[.slice ab nb cb,.int .i64 r] 69)))).then_ X7.out (fun i hi h=>by rcases HB.out i h with h|h;exact h;omega));clear hx7;go_wp2;go_roundw
    case rel=>exact⟨j+1,I+1,_,_,rfl,by have:=HI.out;omega,by go_num,(by show _=_;have:=HI.out;omega),by
     show Acc _ _ _ _ _ _ _
     rw[HLA.out,jN,List.map_append,←jN,List.map_singleton,Vq,HFJ.out,QL,HSB.out,HR.out]
     exact A7.out,(fun k hk=>by
      have h1:=ZA.out;have h2:=ZB.out;have h3:=ZC.out;have h4:=HLO.out;have h5:=HWO.out;have h6:=HX7.out;have h7:=ZW.out
      rcases hk with hk|hk
      ·have:=HD.out k hk;omega
      ·have:=hk.1;omega),KR.out,(fun k hk=>by
      have h1:=ZA.out;have h2:=ZB.out;have h3:=ZC.out;have h5:=HWO.out;have h7:=ZW.out
      rcases B7.out k hk with h|h
      ·exact HB.out k h
      ·simp only[World.size_alloc]at h;exact .inr (by omega))⟩
    case measure=>simp[intOf];have:=HI.out;omega
  ·have HJ:Hid (j+1=m):=by have:=HI.out;show _=_;omega
   have HTK:=LH (show(jR ds (ks.drop 1) (qD ds 8 num) env (n+s1.length)).take j=jR ds (ks.drop 1) (qD ds 8 num) env (n+s1.length)by rw[List.take_of_length_le (by rw[hll];have:=HM.out;have:=HJ.out;omega)]);rw[HTK.out]at HA HLK;have KI:=zQ.al wo (.cells #[.int .i64 y1] 3);have KI':=LH KI;have LO:=LH (L2.out.ext HK.out (fun e=>by have:=L1'.out.qlt;omega) (fun k hk e=>by have:=L1'.out.lt k hk;omega) (fun k hk e=>by have:=L1'.out.own k hk;omega));have LJ:=LH (LO.out.k KI);obtain⟨aO,cO,e9,hcO,hoO⟩:=HA.out.own (by omega) (by rw[HLK.out];omega);rw[HLK.out]at e9;subst e9;have OB:Hid (Own (wo.alloc (.cells #[.int .i64 y1] 3)) (fun k=>w1.heap.size≤k∧k<wo.heap.size) (zC (jR ds (ks.drop 1) (qD ds 8 num) env (n+s1.length))) (.slice aO j cO)):=(hoO.lt.mono (D':=fun k=>w1.heap.size≤k∧k<wo.heap.size) (fun k hk=>⟨by rcases hk.1 with h|h;exact(HD.out k h).1;exact h,hk.2⟩)).ext KI (fun _ _ h=>h);have OA:=LH (kQ wo y1);have HLO:=LH hlo;have HWO:=LH hwo;have HTT:=LH ((T1'.out.post K12.out).aside HK.out (fun k hk=>by have:=T1'.out.ext.size;omega));clear KI hoO hll hlk;go_wp2_with fail;have HEA:Hid (∀k,(k=wo.heap.size)∨(w1.heap.size≤k∧k<wo.heap.size)→¬D2 k∧k≠q∧v1.ownBlock≠some k):=by
    intro k hk;have h1:w1.heap.size≤k:=by have:=HLO.out;have:=HWO.out;omega
    exact⟨fun h=>by have:=L1'.out.lt k h;omega,fun h=>by have:=L1'.out.qlt;omega,fun h=>by have:=L1'.out.own k h;omega⟩
   have HDA:Hid (∀k,k=wo.heap.size→¬(w1.heap.size≤k∧k<wo.heap.size)):=fun k h1 h2=>by omega
   have hrl:(rows++zk s1).length≤100000:=by rw[List.length_append,qx,List.length_map];omega
   have hn2:N1≤100000:=by omega
   have C:=GX base q v1 N1 D2 (rows++zk s1) 8 num 0 [y1] (jR ds (ks.drop 1) (qD ds 8 num) env (n+s1.length)) (some ⟨wo.heap.size,0,none⟩) 1 1 aO j cO (fun k=>k=wo.heap.size) (fun k=>w1.heap.size≤k∧k<wo.heap.size) (wo.alloc (.cells #[.int .i64 y1] 3)) LJ.out OA.out OB.out HEA.out HDA.out hrl hn0 hn2;refine C.mono ?_;clear C;rintro e w5 ⟨rfl,v5,D5,L5,S5,X5,B5⟩;have L5':=LH L5;have T5:=LH (HTT.out.add KI'.out X5 S5 (fun k hk=>by change k=wo.heap.size∨(w1.heap.size≤k∧k<wo.heap.size)at hk;have:=HLO.out;have:=HWO.out;have:=T1'.out.ext.size;omega) B5);clear L5 S5 X5 B5;go_wp2_with fail;refine zB hQ ⟨v5,D5,zE HN1.out,?_,(qM.keep KW.out).trans T5.out⟩;refine uX L5'.out (by rw[HN1.out,List.length_append,List.length_singleton];rfl) (by rw[xx,gT,List.append_assoc])
end
section
variable (ds:List zG)(sg:List yJ)(hok:qJ ds sg=true)
include hok
theorem Ez(N:Nat):∀e:zK,nE e<N→LwS ds sg e:=by
 induction N with
 |zero=>intro e h;omega
 |succ N ih=>
 intro e hN;obtain⟨op,num,ks⟩:=e;rw[nE]at hN;have IH:∀j,j<ks.length→LwS ds sg (eAt ks j):=fun j hj=>ih _ (by have:=yN ks hj;omega);by_cases h12:op=12
 ·subst h12;exact WQ ds sg num ks
 by_cases h13:op=13
 ·subst h13;exact WG ds sg num ks IH
 by_cases h7:op=7
 ·subst h7;exact Eq ds sg hok num ks IH
 by_cases h8:op=8
 ·subst h8;exact Fv ds sg hok num ks IH
 exact Uj ds sg hok op num h12 h13 h7 h8 ks IH
theorem Hz(e:zK):LwS ds sg e:=Ez ds sg hok _ e (Nat.lt_succ_self _)
theorem UZ(e:zK):LwB ds sg e:=vY ds sg e (Hz ds sg hok e)
end
theorem Lz(w:World)(D:Nat→Prop)(T:TypeId)(xs:List Int)(a:Option Addr)(n c:Nat)(hB:D w.heap.size)(h:Rd w D (zY xs) (.slice a n c)):
  Rd (w.alloc (.cells #[.slice a n c] T)) D (.arr 1 [xX xs]) (.slice (some ⟨w.heap.size,0,none⟩) 1 1):=by
 refine Rd.litD w D T 1 _ [xX xs] 1 hB (by simp) (by omega) (by omega) (by simp) (fun i hi=>?_) (fun i j hi hj=>?_)
 ·obtain rfl:i=0:=by simp at hi;exact hi
  rfl
 ·obtain rfl:i=0:=by simp at hi;exact hi
  obtain rfl:j=0:=by omega
  exact⟨_,rfl,h⟩
theorem EM(w:World)(D:Nat→Prop)(T:TypeId)(d:zG)(a:Option Addr)(n c:Nat)(hB:D w.heap.size)(h:Rd w D (qV d.cons) (.slice a n c)):
  Rd (w.alloc (.cells #[.int .i64 d.from_,.int .i64 d.to_,.slice a n c] T)) D (.arr 3 [yk d]) (.slice (some ⟨w.heap.size,0,none⟩) 1 1):=by
 refine Rd.litD w D T 3 _ [yk d] 1 hB (by simp) (by omega) (by omega) (by simp) (fun i hi=>?_) (fun i j hi hj=>?_)
 ·obtain rfl:i=0:=by simp at hi;exact hi
  rfl
 ·obtain rfl:i=0:=by simp at hi;exact hi
  rcases(show j=0∨j=1∨j=2 by omega)with rfl|rfl|rfl
  ·exact⟨_,rfl,.num _⟩
  ·exact⟨_,rfl,.num _⟩
  ·exact⟨_,rfl,h⟩
theorem Uq(ds:List zG)(a:Option Addr)(n c:Nat)(D:Nat→Prop)(w:World)(h:Rd w D (z5 ds) (.slice a n c))(hf:Few ds)(hfl:∀j k,(cAt (dAt ds j).cons k).length≤1000):
  Calls Tryz.prog 79 #[.slice a n c] w fun e w'=>∃a' n' c',e=.returned (.slice a' n' c')∧Rd w' (fun k=>w.heap.size≤k) (z5 ds) (.slice a' n' c')∧zQ w w':=by
 refine zV fun Q hQ=>?_;obtain⟨e1,hnc,hm,hat⟩:=zT h;have HL:=LH e1;have HA0:=LH hat;have HF:=LH hf;have HFL:=LH hfl;have hn:n≤4:=by have:=hf.1;omega
 clear e1 hat h hf hfl;go_in;go_wp2;have A0:=zq.made w (fun q=>w.heap.size≤q) 125 3;go_loopw [3,4] (fun ov iv wr=>∃(j:Nat) (vd:Value),vd=ov∧j≤n∧iv=.int .i64 j∧Hid (zq wr w.heap.size (fun q=>w.heap.size≤q) 125 3 vd ((ds.take j).map yk))∧Hid (zQ w wr)) (fun _ i _=>n-(intOf i).toNat)
 case atStart=>exact⟨0,_,rfl,Nat.zero_le _,rfl,A0,zQ.al _ _⟩
 case round=>
  obtain⟨j,vd,rfl,hj,rfl,HA,HK⟩:=hrel;obtain⟨wo,rfl⟩:∃wo:World,wo=wr:=⟨_,rfl⟩;clear A0;by_cases hlt:j<n
  ·obtain⟨b,o,rfl,hd,a2,n2,c2,d0,d1,d2,r2⟩:=HA0.out j hlt
   have hbw:b<w.heap.size:=World.block_lt_of_cell? _ _ d0;obtain⟨d0,d1,d2⟩:=HK.out.k3 d0 d1 d2;have hjl:j<ds.length:=by have:=HL.out;omega
   have hn2:n2≤3:=by have h1:=(gK r2).1;have h2:=HF.out.2 j hjl;omega
   obtain⟨e2,hnc2,hm2,hat2⟩:=gK (r2.k HK.out);have HL2:=LH e2;have HA2:=LH hat2;have HS:=LH (show ds.take (j+1)=ds.take j++ [dAt ds j]by rw[List.take_succ_eq_append_getElem hjl,DH hjl]);have HLR:=LH (show((ds.take j).map yk).length=j by rw[List.length_map,List.length_take,HL.out];omega);have hwo:=HK.out.size;have hbd:=LH HA.out.bound;have D0:=LH d0;have D1:=LH d1;have D2:=LH d2;have C0:=LH (zq.made wo (fun q=>wo.heap.size≤q) 155 1);clear e2 hat2 r2 hjl;go_wp2;go_loopw [5,6] (fun ov iv wi=>∃(k:Nat) (vc:Value),vc=ov∧k≤n2∧iv=.int .i64 k∧Hid (zq wi wo.heap.size (fun q=>wo.heap.size≤q) 155 1 vc (((dAt ds j).cons.take k).map xX))∧Hid (zQ wo wi)) (fun _ i _=>n2-(intOf i).toNat)
   case atStart=>exact⟨0,_,rfl,Nat.zero_le _,rfl,C0,zQ.al _ _⟩
   case round=>
    obtain⟨k,vc,rfl,hk,rfl,HC,KI⟩:=hrel;obtain⟨wi,rfl⟩:∃wo:World,wo=wr:=⟨_,rfl⟩;clear C0 d0 d1 d2;obtain⟨d0,d1,d2⟩:=KI.out.k3 D0.out D1.out D2.out;have hwi:=KI.out.size;by_cases hlk:k<n2
    ·obtain⟨b3,o3,rfl,_,a4,n4,c4,g0,r4⟩:=HA2.out k hlk
     have g0:=KI.out.q g0;have R4:=LH (r4.k KI.out);have hn4:n4≤1000:=by have:=(zN r4).1;have:=HFL.out j k;omega
     have hkl:k<(dAt ds j).cons.length:=by have:=HL2.out;omega
     have HSK:=LH (show(dAt ds j).cons.take (k+1)=(dAt ds j).cons.take k++ [cAt (dAt ds j).cons k]by rw[List.take_succ_eq_append_getElem hkl,YU hkl]);have HLK:=LH (show(((dAt ds j).cons.take k).map xX).length=k by rw[List.length_map,List.length_take,HL2.out];omega);have hbc:=LH HC.out.bound;clear r4 hkl;go_wp2_with fail;refine(uV _ _ _ _ _ _ R4.out.toInts (by omega)).mono ?_;rintro e w1 ⟨a5,c5,rfl,hc5,o5,p1⟩;have hw1:=p1.size;have RL:=LH (Lz w1 (fun q=>wo.heap.size≤q∧vc.ownBlock≠some q) 155 _ a5 n4 c5 ⟨by omega,fun e=>by have:=(hbc.out _ e).2;omega⟩ ((o5.read.toRd hc5 (by omega)).mono (fun q hq=>⟨by omega,fun e=>by have:=(hbc.out _ e).2;omega⟩)));have AC:=LH ((HC.out.keep p1).keep (zQ.al w1 (.cells #[.slice a5 n4 c5] 155)));have KN:=LH (p1.trans (zQ.al w1 (.cells #[.slice a5 n4 c5] 155)));have hbs:wo.heap.size≤(w1.alloc (.cells #[.slice a5 n4 c5] 155)).heap.size:=by simp only[World.size_alloc];omega
     clear o5 p1 d0 d1 d2 g0;go_wp2_with (at_builtin;go_must (refine yz _ rfl (.tmp 25) (.tmp 37) 123 rfl wo.heap.size 155 (.agg #[.slice none 0 0]) 1 24 Tryz.underlying123 (by kernel_rfl) rfl (by omega) (fun q=>wo.heap.size≤q) _ _ rfl AC.out _ 1 1 [xX (cAt (dAt ds j).cons k)] _ rfl RL.out (fun q _ hq=>hq) (by rw[HLK.out];omega) (by rw[HLK.out];omega) hbs ?_);intro v1 w2 hA2 xA sA);have XA:=LH xA;have A2:=LH hA2;clear xA hA2;go_roundw
     case rel=>exact⟨k+1,v1,rfl,by omega,by go_num,by
      show zq _ _ _ _ _ _ _
      rw[HSK.out,List.map_append]
      exact A2.out,(KI.out.trans KN.out).then_ XA.out (fun i hi e=>by omega)⟩
     case measure=>simp[intOf];omega
    ·have HKJ:=LH (show k=n2 by omega)
     rw[List.take_of_length_le (by have:=HL2.out;have:=HKJ.out;omega)]at HC;obtain⟨ac,cc,rfl,hcc,hc63,rc⟩:=HC.out.read (by omega);have RC:Hid (Rd wi (fun q=>w.heap.size≤q∧vd.ownBlock≠some q) (qV (dAt ds j).cons) (.slice ac ((dAt ds j).cons.map xX).length cc)):=rc.mono (fun q hq=>by
      have h1:wo.heap.size≤q:=by rcases hq with h|h<;>exact h
      exact⟨by omega,fun e=>by have:=(hbd.out _ e).2;omega⟩)
     obtain⟨mc,hmc⟩:∃m,((dAt ds j).cons.map xX).length=m:=⟨_,rfl⟩;rw[hmc]at RC ⊢;have ZI:Hid (w.heap.size≤wi.heap.size∧wo.heap.size≤wi.heap.size):=⟨by omega,by omega⟩;clear rc hmc hcc hc63 hwi hwo;go_wp2_with fail;refine wp_region_held_drew (S:=fun w'=>w'.cell? ⟨b,o+j*3,none⟩=some (.int .i64 (dAt ds j).from_)∧w'.cell? ⟨b,o+j*3+1,none⟩=some (.int .i64 (dAt ds j).to_)) (by kernel_rfl) ⟨d0,d1⟩ (fun hHeld=>?_);refine wT 0 hHeld ?_;try go_frame
     refine wT 1 hHeld ?_;try go_frame
     refine wT 2 hHeld ?_;try go_frame
     refine wT 3 hHeld ?_;try go_frame
     refine wT 4 hHeld ?_;try go_frame
     refine wT 5 hHeld ?_;try go_frame
     refine wT 6 hHeld ?_;try go_frame
     refine wT 7 hHeld ?_;try go_frame
     refine wT 8 hHeld ?_;try go_frame
     refine wT 9 hHeld ?_;try go_frame
     refine wT 10 hHeld ?_;try go_frame
     refine wT 11 hHeld ?_;try go_frame
     refine wT 12 hHeld ?_;try go_frame
     refine wO 13 (fun K hK=>?_);go_simp;obtain⟨y1,hWy1,ky1,hzy1⟩:=SP wi (.cells #[.int .i64 (dAt ds j).from_,.int .i64 (dAt ds j).to_,.slice ac mc cc] 125);rw[←hWy1];have d0y1:=zQ.at ky1 d0;have d1y1:=zQ.at ky1 d1;have RL:Hid (Rd y1 (fun q=>w.heap.size≤q∧vd.ownBlock≠some q) (.arr 3 [yk (dAt ds j)]) (.slice (some ⟨wi.heap.size,0,none⟩) 1 1)):=by
      show Rd _ _ _ _;rw[hWy1];exact EM wi.drew _ 125 (dAt ds j) ac mc cc ⟨by show _≤wi.heap.size;have:=ZI.out;omega,fun e=>by have:=hbd.out _ e;change _∧wi.heap.size<_ at this;have:=ZI.out;omega⟩ RC.out.kd
     have AC:=LH ((HA.out.keep ((KI.out).trans (kD wi))).keep ky1);have hbs:w.heap.size≤y1.heap.size:=by have:=ky1.size;change wi.heap.size≤_ at this;have:=ZI.out;omega
     have KN:=LH ky1;clear RC;refine hK.out _ _ ⟨d0y1,d1y1⟩ (fun hHeld=>?_);clear hK K;try go_frame
     refine wO 14 (fun K hK=>?_);refine vB _ (.tmp 39) (.tmp 52) 27 rfl w.heap.size 125 (.agg #[.int .i64 0,.int .i64 0,.slice none 0 0]) 3 40 Tryz.underlying27 (by kernel_rfl) rfl (by omega) (fun q=>w.heap.size≤q) vd _ rfl AC.out _ 1 1 [yk (dAt ds j)] _ rfl RL.out (fun q _ hq=>hq) (by rw[HLR.out];omega) (by rw[HLR.out];omega) hbs ?_;intro v1 w2 hA2 xA b2;have XA:=LH xA;have A2:=LH hA2;have d0z:=XA.out.cq d0y1 (fun e=>by have:=(HA.out.bound _ e).1;change w.heap.size≤b at this;omega);have d1z:=XA.out.cq d1y1 (fun e=>by have:=(HA.out.bound _ e).1;change w.heap.size≤b at this;omega);clear hA2 xA b2;refine hK.out _ _ ⟨d0z,d1z⟩ (fun hHeld=>?_);clear hK K;try go_frame
     refine wT 15 hHeld ?_;try go_frame
     refine wpAnyH_done (by kernel_rfl) ?_ _;go_wp2;go_roundw
     case rel=>exact⟨j+1,v1,rfl,by omega,by go_num,by
      show zq _ _ _ _ _ _ _
      rw[HS.out,List.map_append]
      exact A2.out,((HK.out.trans KI.out).trans ((kD wi).trans KN.out)).then_ XA.out (fun i hi e=>by have:=(HA.out.bound _ e).1;omega)⟩
     case measure=>simp[intOf];omega
  ·have HJ:=LH (show j=n by omega)
   rw[List.take_of_length_le (by have:=HL.out;have:=HJ.out;omega)]at HA;obtain⟨ac,cc,rfl,hcc,hc63,rc⟩:=HA.out.read (by omega);have RC:Hid (Rd wo (fun q=>w.heap.size≤q) (z5 ds) (.slice ac (ds.map yk).length cc)):=rc.mono (fun q hq=>by rcases hq with h|h<;>exact h);clear rc;go_wp2;exact zB hQ ⟨_,_,_,rfl,RC.out,HK.out⟩
def PZ(fs:List zA):Prop:=∀i,i<fs.length→yL Q5 (fAt fs i).body
def xw(ds:List zG)(fs:List zA)(i:Nat):Bool:=decide (jE ds fs (fAt fs i).params (fAt fs i).body=(fAt fs i).result)
def j4(ds:List zG)(fs:List zA):Bool:=qJ ds (fs.map zM) && (List.range fs.length).all (xw ds fs)
section
variable {ds:List zG}{fs:List zA}
theorem JA(h:qJ ds (fs.map zM)=false):j4 ds fs=false:=by simp[j4,h]
theorem JZ{i:Nat}(hi:i<fs.length)(h:xw ds fs i=false):j4 ds fs=false:=by
 have e:(List.range fs.length).all (xw ds fs)=false:=jQ hi h;simp only[j4,e,Bool.and_false]
theorem Jv(h1:qJ ds (fs.map zM)=true)(h:∀i,i<fs.length→xw ds fs i=true):j4 ds fs=true:=by
 have e:(List.range fs.length).all (xw ds fs)=true:=J4.2 h;simp only[j4,e,h1,Bool.and_self]
theorem jw(h:j4 ds fs=true):qJ ds (fs.map zM)=true∧∀i,i<fs.length→xw ds fs i=true:=by
 simp only[j4,Bool.and_eq_true]at h;exact⟨h.1,J4.1 h.2⟩
theorem gH(h:qJ ds (fs.map zM)=true){i:Nat}(hi:i<fs.length):(fAt fs i).params.length≤3∧j8 ds.length (fAt fs i).params=true∧0≤(fAt fs i).result:=by
 have hs:=(zL h).2.2.2 i (by simpa using hi);rw[gN fs hi]at hs;obtain⟨h1,h2,h3,_⟩:=xL hs;exact⟨h1,h2,(uQ.1 h3).1⟩
theorem YV(h:j4 ds fs=true):1≤fs.length∧fs.length≤4:=by
 have:=zL (jw h).1;exact⟨by simpa using this.2.1,by simpa using this.2.2.1⟩
theorem YN(h:qJ ds (fs.map zM)=true){i:Nat}(hi:i<fs.length)(hn:j9 (fAt fs i).body.kids<0):xw ds fs i=false:=by
 have:=(gH h hi).2.2;refine decide_eq_false fun e=>?_;rw[jE,if_neg (fun h=>h.2.1 hn)]at e;omega
theorem VE(h:qJ ds (fs.map zM)=true){i:Nat}(hi:i<fs.length)(hn:¬j9 (fAt fs i).body.kids<0):xw ds fs i=decide (tyE ds (fs.map zM) (fAt fs i).params (fAt fs i).body=(fAt fs i).result):=by
 rw[xw,jE,if_pos ⟨h,hn,(gH h hi).2.1⟩]
theorem gY(h:qJ ds (fs.map zM)=true){i:Nat}(hi:i<fs.length)(hb:xw ds fs i=true):nEs (fAt fs i).body.kids+1≤30∧tyE ds (fs.map zM) (fAt fs i).params (fAt fs i).body=(fAt fs i).result:=by
 by_cases hn:j9 (fAt fs i).body.kids<0
 ·rw[YN h hi hn]at hb;cases hb
 ·rw[VE h hi hn]at hb
  refine⟨Decidable.byContradiction fun hc=>hn (by rw[xU hc];omega),of_decide_eq_true hb⟩
end
end Go.Proofs.YtkapldpmjkdmcaaGreat
