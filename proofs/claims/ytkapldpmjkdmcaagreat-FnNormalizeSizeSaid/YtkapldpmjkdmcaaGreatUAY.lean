/- The program's types of expressions: other operations. -/
import Derived.Test.YtkapldpmjkdmcaaGreatUAW
import Derived.Test.YtkapldpmjkdmcaaGreatUAX
import Derived.Test.YtkapldpmjkdmcaaGreatUAC
import Derived.Test.YtkapldpmjkdmcaaGreatUAV
import Derived.Test.YtkapldpmjkdmcaaGreatUAR
import Derived.Test.YtkapldpmjkdmcaaGreatUAU
import Derived.Test.YtkapldpmjkdmcaaGreatUAJ
import Derived.Test.YtkapldpmjkdmcaaGreatShelf
namespace Go.Proofs.YtkapldpmjkdmcaaGreat
open Go.RowKit
set_option maxRecDepth 100000
set_option maxHeartbeats 4000000
theorem BN{ds:List zG}{sg:List yJ}(hok:qJ ds sg=true){op num:Int}{tys:List Int}{i:Nat}(hi:i<tys.length)(h:iAt tys i<0):zS ds sg op num tys= -1:=by
 obtain⟨ht,_,_,hs⟩:=zL hok;have key:∀xs:List Int,(∀k,k<xs.length→0≤iAt xs k)→tys≠xs:=fun xs hx e=>by
  subst e;have:=hx i hi;omega
 have k2:∀k:Nat,k<2→0≤iAt [0,0] k:=fun k hk=>by
  rcases(show k=0∨k=1 by omega)with rfl|rfl<;>simp[iAt]
 have k1:∀k:Nat,k<1→0≤iAt [0] k:=fun k hk=>by
  obtain rfl:k=0:=by omega
  simp[iAt]
 unfold zS;split
 ·exact if_neg (fun h=>key [] (fun k hk=>absurd hk (by simp)) h.1)
 split
 ·exact if_neg (fun h=>key [0,0] k2 h.2)
 split
 ·exact if_neg (fun h=>key [0] k1 h.2)
 split
 ·refine if_neg (fun h'=>?_)
  obtain⟨_,h2,h3,h4⟩:=h';obtain⟨g1,g2,g3⟩:=uq h3;rcases(show i=0∨i=1 by omega)with rfl|rfl
  ·omega
  ·have:=uQ.1 (vJ (xC ht (k:=(iAt tys 0).toNat-1) (by omega)) g3).1
   omega
 split
 ·exact if_neg (fun h'=>key _ (fun k hk=>(ZL (yP ht num).2 hk).1) h'.2)
 split
 ·refine if_neg (fun h'=>key _ (fun k hk=>?_) h'.2.2)
  exact(ZL (xL (hs _ (by omega))).2.1 hk).1
 split
 ·refine if_neg (fun h'=>key _ (fun k hk=>?_) h'.2.2.2)
  have hk2:k<(yH sg num.toNat).params.length:=by rw[List.length_take]at hk;omega
  have h5:=(ZL (xL (hs num.toNat (by omega))).2.1 hk2).1;rw[List.length_take]at hk;have e:iAt ((yH sg num.toNat).params.take ((yH sg num.toNat).params.length-1)) k=iAt (yH sg num.toNat).params k:=by simp[iAt,List.getD,show k<(yH sg num.toNat).params.length-1 by omega,List.getElem?_eq_getElem hk2]
  rw[e];exact h5
 ·rfl
section
variable (ds:List zG)(sg:List yJ)(hok:qJ ds sg=true)
include hok
theorem Bw(op num:Int)(hnum:Q5 op num)(tys:List Int)(D:Nat→Prop)(a0:Option Addr)(n0 c0:Nat)(a1:Option Addr)(n1 c1:Nat)(a:Option Addr)(n c:Nat)(E:Nat→Prop)(w:World)(hp:SR w D ds sg a0 n0 c0 a1 n1 c1)(h:qN w E a n tys)(hn:n≤1049576):
  Calls Tryz.prog 162 #[.agg #[.slice a0 n0 c0,.slice a1 n1 c1],.int .i64 op,.int .i64 num,.slice a n c] w (Y8 ds sg op num tys w):=by
 by_cases hr:op<0∨13<op∨op=7∨op=8∨op=12∨op=13
 ·exact Uw ds sg hok op hr num tys D a0 n0 c0 a1 n1 c1 a n c E w hp h hn
 ·rcases(show op=0∨op=1∨op=2∨op=3∨op=4∨op=5∨op=6∨op=9∨op=10∨op=11 by omega)with rfl|rfl|rfl|rfl|rfl|rfl|rfl|rfl|rfl|rfl
  ·exact Ej ds sg hok num tys D a0 n0 c0 a1 n1 c1 a n c E w hp h hn
  ·exact EK ds sg hok num tys D a0 n0 c0 a1 n1 c1 a n c E w hp h hn
  ·exact HH ds sg hok num tys D a0 n0 c0 a1 n1 c1 a n c E w hp h hn
  ·exact F7 ds sg hok num tys D a0 n0 c0 a1 n1 c1 a n c E w hp h hn
  ·exact Dv ds sg hok num tys D a0 n0 c0 a1 n1 c1 a n c E w hp h hn
  ·exact FH ds sg hok num tys D a0 n0 c0 a1 n1 c1 a n c E w hp h hn
  ·exact DS ds sg hok num tys D a0 n0 c0 a1 n1 c1 a n c E w hp h hn hnum.1 hnum.2
  ·exact DT ds sg hok num tys D a0 n0 c0 a1 n1 c1 a n c E w hp h hn
  ·exact DY ds sg hok num tys D a0 n0 c0 a1 n1 c1 a n c E w hp h hn
  ·exact BF ds sg hok num tys D a0 n0 c0 a1 n1 c1 a n c E w hp h hn
theorem GL(op:Int)(hop:op≠12∧op≠13∧op≠7∧op≠8)(num:Int)(hnum:Q5 op num)(es:List zK)(IH0:∀j,j<es.length→TyI ds sg (eAt es j)):TyI ds sg (.mk op num es):=by
 intro a0 n0 c0 a1 n1 c1 v vars a n c w base D hp hv h hD hb hlen hall;refine zV fun Q hQ=>?_;change Rd w D (zJ es) _ at h;rw[nE]at hlen;simp only[zK.op,zK.num];obtain⟨av,cv,rfl,hvc,hvo⟩:=hv.slice;have VBL:=LH hv.lt;have ht:=(zL hok).1;have hf:=Few.of_ok ht;have hn0:n0≤4:=by have:=(zT hp.1).1;have:=z9 ht;omega
 have hvl:vars.length≤1049576:=by omega
 have K0:=(zQ.al w (.cells #[.slice a0 n0 c0,.slice a1 n1 c1] 130)).trans (zQ.al _ (.cells #[.int .i64 op,.int .i64 num,.slice a n c] 58));have R0:=(zP w #[.slice a0 n0 c0,.slice a1 n1 c1] 130).alloc (.cells #[.int .i64 op,.int .i64 num,.slice a n c] 58);have R1:=zP (w.alloc (.cells #[.slice a0 n0 c0,.slice a1 n1 c1] 130)) #[.int .i64 op,.int .i64 num,.slice a n c] 58;simp only[World.size_alloc]at R1;have hv0:=hv.k K0;have KT:=LH (zQ.to (S:=fun r=>(Value.slice av vars.length cv).ownBlock=some r) K0);obtain⟨e1,hnc,hnm,hat⟩:=zx h;have HL:=LH e1;have HA:=LH hat;have hn30:n≤262394:=by have:=qq es;omega
 have HOK:=LH hok;have HAll:=LH hall;have HLen:=LH hlen;have HT:=LH ht;have HD:=LH hD;have IH:=LH IH0;have HV:=LH hv;have HVO:=LH hvo;have HNUM:=LH hnum;clear e1 hat hok hall ht IH0 hD hv hvo hnum;have HP:=LH hp;have HB:=LH hb;clear hp hb;have V0:=LH (qH ds sg vars num es hop);have o12:(op==12)=false:=by simp;omega
 have o13:(op==13)=false:=by simp;omega
 have o7:(op==7)=false:=by simp;omega
 have o8:(op==8)=false:=by simp;omega
 have TL:=LH (yy ds sg vars es);have TA:=LH (fun i (hi:i<es.length)=>ZX ds sg vars (ks:=es) hi);have SG:=LH (fun i=>BN (ds:=ds) (sg:=sg) HOK.out (op:=op) (num:=num) (tys:=jF ds sg vars es) (i:=i));have TR:=LH (fun(e:zK)=>LV HOK.out e HAll.out);have hkz:w.heap.size+2=((w.alloc (.cells #[.slice a0 n0 c0,.slice a1 n1 c1] 130)).alloc (.cells #[.int .i64 op,.int .i64 num,.slice a n c] 58)).heap.size:=by simp
 have HKZ:=LH hkz;have nsD:Hid (∀q,D q→¬(Value.slice av vars.length cv).ownBlock=some q):=fun q hq e=>by have:=(VBL.out _ e).1;have:=HD.out _ hq;omega
 clear hop hkz;go_in;go_wp2_with (at_make;go_loud (refine ZV _ rfl _ _ 52 rfl 3 (.int .i64 0) #[.int .i64 0] 1 8 Tryz.underlying52 (by kernel_rfl) rfl rfl n rfl rfl (by omega) (by omega) ?_;intro w1 hrow hk1 hsz;have hsz2:w1.heap.size=w.heap.size+3:=(by rw[hsz,←HKZ.out]);have hrow2:w1.rowIs (w.heap.size+2) 3 n (fun _=>.int .i64 0):=(by rw[HKZ.out];have h2:=hrow;rw[Nat.mul_one]at h2;exact h2.congr (fun i hi=>by simp[Nat.mod_one]));have R0':=LH (rwk R0 hk1);have R1':=LH (rwk R1 hk1);have KT1:=LH (KT.out.trans (zQ.to (S:=fun r=>(Value.slice av vars.length cv).ownBlock=some r) hk1));have HV1:=LH (hv0.k hk1);have HROW:=LH hrow2;have HSZ:=LH hsz2;clear hrow hrow2 hsz hsz2 K0 hk1 hv0 R0 R1;have y0:=R1'.out.cell (i:=0) (by simp);have y1:=R1'.out.cell (i:=1) (by simp);have y2:=R1'.out.cell (i:=2) (by simp);simp at y0 y1 y2));go_loopw [163] (fun iv wr=>∃(j:Nat) (f:Nat→Value),j≤n∧iv=.int .i64 j∧Hid (wr.rowIs (w.heap.size+2) 3 n f∧∀l,l<j→f l=.int .i64 (iAt (jF ds sg vars es) l))∧Hid (VR wr base (.slice av vars.length cv) vars)∧Hid (Ext (fun q=>(Value.slice av vars.length cv).ownBlock=some q∨q=w.heap.size+2) w1 wr)) (fun iv _=>n-(intOf iv).toNat)
 case atStart=>exact⟨0,_,Nat.zero_le _,rfl,⟨HROW.out,fun l hl=>absurd hl (by omega)⟩,HV1.out,Ext.refl _ _⟩
 case round=>
  obtain⟨j,f,hj,rfl,hI,hV,hK⟩:=hrel;have KE:=LH (Ext.then_ KT1.out hK.out (fun q hq h=>by rcases h with h|h;exact h;omega));have RS:=zX R0'.out hK.out (fun e=>by rcases e with e|e;(have:=(VBL.out _ e).2;omega);omega);have RE:=zX R1'.out hK.out (fun e=>by rcases e with e|e;(have:=(VBL.out _ e).2;omega);omega);have hsw:w.heap.size+3≤wr.heap.size:=by have:=hK.out.size;have:=HSZ.out;omega
  have HSW:=LH hsw;by_cases hlt:j<n
  ·have HJ:Hid (j<es.length):=by have:=HL.out;show _<_;omega
   obtain⟨b,o,rfl,hd,a2,n2,c2,d0,d1,d2,r2⟩:=HA.out j hlt;have nsb:¬(Value.slice av vars.length cv).ownBlock=some b:=nsD.out _ hd;obtain⟨g0,g1,g2⟩:=KE.out.e3 nsb d0 d1 d2;have KB:=(zQ.al wr (.cells #[.int .i64 (eAt es j).op,.int .i64 (eAt es j).num,.slice a2 n2 c2] 58));have KX:=LH (KE.out.trans (zQ.to KB));have qp:=LH (HP.out.ext KX.out nsD.out);have qv:=LH (hV.out.k (zQ.al wr (.cells #[.int .i64 (eAt es j).op,.int .i64 (eAt es j).num,.slice a2 n2 c2] 58)));have qe:=LH (r2.ext KX.out nsD.out);have hbw:base≤wr.heap.size:=by have:=HB.out;omega
   have HBW:=LH hbw;have hbb:Hid (vars.length+4*nE (eAt es j)≤1049576):=by have:=yN es HJ.out;have:=HLen.out;show _≤_;omega
   have x0:=RS.cell (i:=0) (by simp);have x1:=RS.cell (i:=1) (by simp);have x0b:=(RS.alloc (.cells #[.int .i64 (eAt es j).op,.int .i64 (eAt es j).num,.slice a2 n2 c2] 58)).cell (i:=0) (by simp);have x1b:=(RS.alloc (.cells #[.int .i64 (eAt es j).op,.int .i64 (eAt es j).num,.slice a2 n2 c2] 58)).cell (i:=1) (by simp);simp only[Array.getD]at x0b x1b;simp at x0 x1;have HROW2:=LH (hI.out.1.alloc (.cells #[.int .i64 (eAt es j).op,.int .i64 (eAt es j).num,.slice a2 n2 c2] 58));have HK2:=LH (hK.out.trans (zQ.to KB));obtain⟨z,hz⟩:∃z,tyE ds sg vars (eAt es j)=z:=⟨_,rfl⟩;have HZ:=LH hz;have HT1:=LH (show iAt (jF ds sg vars es) j=z by rw[TA.out j HJ.out,hz]);clear d0 d1 d2 r2 hz KB hbw RS RE;go_wp2_with fail;refine(IH.out j HJ.out _ _ _ _ _ _ _ vars _ _ _ _ base D qp.out qv.out qe.out HD.out (by simp;have:=HBW.out;omega) hbb.out HAll.out).mono ?_;rw[HZ.out];rintro e w2 ⟨rfl,hv2,x2⟩;have hrw:=zX HROW2.out x2 (fun e=>by have:=(VBL.out _ e).2;omega);have fz:w2.frozen? ⟨w.heap.size+1+1,j,none⟩=false:=hrw.frozen j;have cz:w2.cell? ⟨w.heap.size+1+1,j,none⟩=some (f j):=hrw.cell hlt;have hrs:=LH (hrw.set j (.int .i64 z));have hs2:Ext (fun q=>q=w.heap.size+2) w2 (w2.setCell ⟨w.heap.size+1+1,j,none⟩ (.int .i64 z)):=Ext.setCell (S:=fun q=>q=w.heap.size+2) (Ext.refl _ w2) (p:=⟨w.heap.size+1+1,j,none⟩) (.inr rfl) _;have K2:=LH ((HK2.out.trans (x2.mono (fun _ _ h=>.inl h))).trans (hs2.mono (fun _ _ h=>.inr h)));have KF:=LH ((KX.out.trans x2).then_ hs2 (fun q hq h=>by omega));have HV2:=LH (hv2.ext hs2 (fun g hg h=>by have:=(VBL.out _ hg).2;omega));clear hrw hs2 x2 hv2 x0 x1 x0b x1b g0 g1 g2;have hzr:=TR.out (eAt es j);rw[HZ.out]at hzr;by_cases hz0:z<0
   ·have V:=LH (show tyE ds sg vars (.mk op num es)= -1 by rw[V0.out];exact SG.out j (by rw[TL.out];exact HJ.out) (by rw[HT1.out];exact hz0))
    go_wp2_with fail;exact zB hQ ⟨zE V.out.symm,HV2.out,KF.out⟩
   ·go_wp2_with fail
    go_roundw
    case rel=>exact⟨j+1,_,by omega,by go_num,⟨hrs.out,fun l hl=>by
     by_cases hlj:l=j
     ·rw[hlj,if_pos rfl,HT1.out]
     ·rw[if_neg hlj];exact hI.out.2 l (by omega)⟩,HV2.out,K2.out⟩
    case measure=>simp[intOf];omega
  ·have hjn:j=n:=by omega
   have hIL:qN wr (fun _=>True) (some ⟨w.heap.size+2,0,none⟩) n (jF ds sg vars es):=⟨by rw[TL.out];exact HL.out,fun _=>⟨_,_,rfl,trivial,fun i hi=>by
    rw[Nat.zero_add];exact(hI.out.1.cell hi).trans (congrArg some (hI.out.2 i (by omega)))⟩⟩
   have x0:=RS.cell (i:=0) (by simp);have x1:=RS.cell (i:=1) (by simp);have y0:=RE.cell (i:=0) (by simp);have y1:=RE.cell (i:=1) (by simp);simp at x0 x1 y0 y1;have qp:=LH (HP.out.ext KE.out nsD.out);have HIL:=LH hIL;obtain⟨u,hu⟩:∃u,zS ds sg op num (jF ds sg vars es)=u:=⟨_,rfl⟩;have HU:=LH hu;have SRG:=LH (YA HOK.out op num (jF ds sg vars es));have V:=LH (show tyE ds sg vars (.mk op num es)=u by rw[V0.out,hu]);clear hu hIL hI RS RE;go_wp2_with fail;refine(Bw ds sg HOK.out op num HNUM.out _ D _ _ _ _ _ _ _ _ _ _ _ qp.out HIL.out (by omega)).mono ?_;rintro e w2 ⟨t,ok,rfl,hok,ht,p2⟩;rw[HU.out]at hok ht;have KF:=LH (KE.out.trans (zQ.to p2));have HV2:=LH (hV.out.k p2);by_cases hu0:0≤u
   ·obtain rfl:ok=true:=by rw[hok];exact decide_eq_true hu0
    obtain rfl:t=u:=ht rfl;clear hok ht;go_wp2_with fail;exact zB hQ ⟨zE V.out.symm,HV2.out,KF.out⟩
   ·obtain rfl:ok=false:=by rw[hok];exact decide_eq_false hu0
    have V2:Hid (tyE ds sg vars (.mk op num es)= -1):=by
     show _=_;rw[V.out];rcases SRG.out with h|h
     ·rw[HU.out]at h;exact h
     ·rw[HU.out]at h;have:=uQ.1 h;omega
    clear hok ht;go_wp2_with fail;exact zB hQ ⟨zE V2.out.symm,HV2.out,KF.out⟩
end
section
variable (ds:List zG)(sg:List yJ)(hok:qJ ds sg=true)
include hok
theorem GW(N:Nat):∀e:zK,nE e<N→yL Q5 e→TyI ds sg e:=by
 induction N with
 |zero=>intro e h;omega
 |succ N ih=>
 intro e hN ha;obtain⟨op,num,es⟩:=e;have IH:∀j,j<es.length→TyI ds sg (eAt es j):=fun j hj=>ih _ (by have:=yN es hj;rw[nE]at hN;omega) (XH ha.2 hj);by_cases h12:op=12
 ·subst h12;exact FV ds sg hok num ha.1 es IH
 by_cases h13:op=13
 ·subst h13;exact FU ds sg hok num ha.1 es IH
 by_cases h7:op=7
 ·subst h7;exact LL ds sg hok num ha.1 es IH
 by_cases h8:op=8
 ·subst h8;exact LC ds sg hok num ha.1 es IH
 exact GL ds sg hok op ⟨h12,h13,h7,h8⟩ num ha.1 es IH
theorem WP(e:zK)(ha:yL Q5 e):TyI ds sg e:=GW ds sg hok _ e (Nat.lt_succ_self _) ha
end
theorem BB(fs:List zA)(a0:Option Addr)(n0 c0:Nat)(a1:Option Addr)(n1 c1:Nat)(D1:Nat→Prop)(w:World)(r1:Rd w D1 (qW fs) (.slice a1 n1 c1))(hn4:n1≤4):
  Calls Tryz.prog 116 #[.agg #[.slice a0 n0 c0,.slice a1 n1 c1]] w fun e w'=>∃a' c',e=.returned (.agg #[.slice a0 n0 c0,.slice a' n1 c'])∧Rd w' (fun _=>True) (Y4 (fs.map zM)) (.slice a' n1 c')∧zQ w w':=by
 refine zV fun Q hQ=>?_;obtain⟨e1,hnc,hm,hat⟩:=qZ r1;have HL:=LH e1;have HA:=LH hat;have HLM:=LH (show(fs.map zM).length=n1 by simp[e1]);have ER:Hid (∀j,j<n1→(fs.map zM).take (j+1)=(fs.map zM).take j++ [zM (fAt fs j)]):=fun j hj=>by
  have hj':j<(fs.map zM).length:=by have:=HLM.out;omega
  rw[List.take_succ_eq_append_getElem hj',←YM hj',gN _ (by simpa using hj')]
 clear e1 hat;go_in;have K0:=(((zQ.al w (.cells #[.slice a0 n0 c0,.slice a1 n1 c1] 44)).trans (zQ.al _ (.cells #[.slice none 0 0,.slice none 0 0] 130))).trans (zQ.al _ (.cells #[.slice a0 n0 c0,.slice none 0 0] 130)));have RB:=zP ((w.alloc (.cells #[.slice a0 n0 c0,.slice a1 n1 c1] 44)).alloc (.cells #[.slice none 0 0,.slice none 0 0] 130)) #[.slice a0 n0 c0,.slice none 0 0] 130;have RR:=(zP (w.alloc (.cells #[.slice a0 n0 c0,.slice a1 n1 c1] 44)) #[.slice none 0 0,.slice none 0 0] 130).alloc (.cells #[.slice a0 n0 c0,.slice none 0 0] 130);simp only[World.size_alloc]at RB RR;have HRB:=LH RB;have HRR:=LH RR;have HK0:=LH K0;have HW3:=LH (show(((w.alloc (.cells #[.slice a0 n0 c0,.slice a1 n1 c1] 44)).alloc (.cells #[.slice none 0 0,.slice none 0 0] 130)).alloc (.cells #[.slice a0 n0 c0,.slice none 0 0] 130)).heap.size=w.heap.size+3 by simp);clear RB RR K0;go_wp2_with fail;go_loopw [12] (fun iv wr=>∃(j:Nat) (sv:Value),j≤n1∧iv=.int .i64 j∧Hid (zq wr (w.heap.size+3) (fun k=>k<w.heap.size∨w.heap.size+3≤k) 164 3 sv (((fs.map zM).take j).map Vk))∧Hid (wr.rowIs (w.heap.size+2) 130 2 (fun i=>(#[.slice a0 n0 c0,sv]:Array Value).getD i undef))∧Hid (Ext (fun q=>q=w.heap.size+2) (((w.alloc (.cells #[.slice a0 n0 c0,.slice a1 n1 c1] 44)).alloc (.cells #[.slice none 0 0,.slice none 0 0] 130)).alloc (.cells #[.slice a0 n0 c0,.slice none 0 0] 130)) wr)) (fun iv _=>n1-(intOf iv).toNat)
 case atStart=>exact⟨0,.slice none 0 0,Nat.zero_le _,rfl,(show zq _ _ _ _ _ _ _ from by simpa using zq.nil _ _ _ _ _),HRB.out,Ext.refl _ _⟩
 case round=>
  obtain⟨j,sv,hj,rfl,hB,hR,hK⟩:=hrel;have hs:w.heap.size+3≤wr.heap.size:=by have:=hK.out.size;have:=HW3.out;omega
  have HS:=LH hs;have KW:=LH (HK0.out.then_ hK.out (fun q hq h=>by omega));by_cases hlt:j<n1
  ·obtain⟨b,o,rfl,hd,a3,n3,c3,a4,n4,c4,d0,d1,d2,d3,d4,r3,r4⟩:=HA.out j hlt
   obtain⟨g0,g1,g2,g3,g4⟩:=KW.out.k5 d0 d1 d2 d3 d4;have ka:=zQ.al wr (.cells #[.slice a3 n3 c3,.int .i64 (fAt fs j).result,.int .i64 (fAt fs j).body.op,.int .i64 (fAt fs j).body.num,.slice a4 n4 c4] 60);have bnd:=hB.out.bound;have q3:=((r3.lt.k KW.out).k ka).mono (D':=fun k=>(fun k=>k<w.heap.size∨w.heap.size+3≤k) k∧sv.ownBlock≠some k) (fun k hk=>⟨.inl (by omega),fun e=>by have:=bnd k e;omega⟩);have kl:=zQ.al (wr.alloc (.cells #[.slice a3 n3 c3,.int .i64 (fAt fs j).result,.int .i64 (fAt fs j).body.op,.int .i64 (fAt fs j).body.num,.slice a4 n4 c4] 60)) (.cells #[.slice a3 n3 c3,.slice none 0 0,.int .i64 (fAt fs j).result] 164);have hX:=DG (wr.alloc (.cells #[.slice a3 n3 c3,.int .i64 (fAt fs j).result,.int .i64 (fAt fs j).body.op,.int .i64 (fAt fs j).body.num,.slice a4 n4 c4] 60)) (fun k=>(fun k=>k<w.heap.size∨w.heap.size+3≤k) k∧sv.ownBlock≠some k) 164 (zM (fAt fs j)) a3 n3 c3 none 0 0 ⟨.inr (by simp;omega),fun e=>by have:=bnd _ e;simp at this;omega⟩ q3 (.nil 1 none 0);simp only[World.size_alloc,zM]at hX;have hO2:=(hB.out.keep ka).keep kl;have hlr:(((fs.map zM).take j).map Vk).length=j:=by
    rw[List.length_map,List.length_take,HLM.out];omega
   have HLR:=LH hlr;have hBB:=LH (hK.out.trans (zQ.to (ka.trans kl)));have hR1:=hR.out.alloc (.cells #[.slice a3 n3 c3,.int .i64 (fAt fs j).result,.int .i64 (fAt fs j).body.op,.int .i64 (fAt fs j).body.num,.slice a4 n4 c4] 60);have hR2:=hR1.alloc (.cells #[.slice a3 n3 c3,.slice none 0 0,.int .i64 (fAt fs j).result] 164);have HR2:=LH hR2;have y1:wr.cell? ⟨w.heap.size+1+1,1,none⟩=some sv:=hR.out.cell (i:=1) (by omega);have y1a:(wr.alloc (.cells #[.slice a3 n3 c3,.int .i64 (fAt fs j).result,.int .i64 (fAt fs j).body.op,.int .i64 (fAt fs j).body.num,.slice a4 n4 c4] 60)).cell? ⟨w.heap.size+1+1,1,none⟩=some sv:=hR1.cell (i:=1) (by omega);have y1b:((wr.alloc (.cells #[.slice a3 n3 c3,.int .i64 (fAt fs j).result,.int .i64 (fAt fs j).body.op,.int .i64 (fAt fs j).body.num,.slice a4 n4 c4] 60)).alloc (.cells #[.slice a3 n3 c3,.slice none 0 0,.int .i64 (fAt fs j).result] 164)).cell? ⟨w.heap.size+1+1,1,none⟩=some sv:=hR2.cell (i:=1) (by omega);clear d0 d1 d2 d3 d4 r3 r4 bnd q3 hlr ka kl hB hR1 hR2;go_wp2_with (at_builtin;go_must (refine yz _ rfl (.tmp 17) (.tmp 23) 128 rfl (w.heap.size+3) 164 (.agg #[.slice none 0 0,.slice none 0 0,.int .i64 0]) 3 56 Tryz.underlying128 (by kernel_rfl) rfl (by omega) (fun k=>k<w.heap.size∨w.heap.size+3≤k) _ _ rfl hO2 _ 1 1 _ _ rfl hX (fun k _ hk=>hk) (by rw[HLR.out];omega) (by rw[HLR.out];omega) (by simp;omega) ?_);intro v1 w10 hA2 xA sA;obtain⟨av,nv,cv,rfl⟩:∃av nv cv,v1=.slice av nv cv:=(by obtain⟨a9,c9,e9,_⟩:=hA2.read (by omega);exact⟨_,_,_,e9⟩);have hr10:=LH (zX HR2.out xA (fun(h:w.heap.size+3≤_)=>by omega));have fz:w10.frozen? ⟨w.heap.size+1+1,1,none⟩=false:=hr10.out.frozen 1;have cz:w10.cell? ⟨w.heap.size+1+1,1,none⟩=some sv:=hr10.out.cell (i:=1) (by omega);have HA2:=LH hA2;have HX10:=LH (hBB.out.then_ xA (fun q hq h=>by have:=HW3.out;omega));clear hA2 xA sA);have hs2:Ext (fun q=>q=w.heap.size+2) w10 (w10.setCell ⟨w.heap.size+1+1,1,none⟩ (.slice av nv cv)):=Ext.setCell (S:=fun q=>q=w.heap.size+2) (Ext.refl _ w10) (p:=⟨w.heap.size+1+1,1,none⟩) (.inr rfl) _;go_roundw
   case rel=>exact⟨j+1,.slice av nv cv,by omega,by go_num,by
    show zq _ _ _ _ _ _ _
    rw[ER.out j hlt,List.map_append];exact HA2.out.ext hs2 (fun k _ hk=>by rcases hk with (hk|hk)|hk<;>omega),by
    refine(hr10.out.set 1 (.slice av nv cv)).congr (fun i hi=>?_)
    rcases(show i=0∨i=1 by omega)with rfl|rfl<;>rfl,HX10.out.trans hs2⟩
   case measure=>simp[intOf];omega
  ·have HJ:=LH (show j=n1 by omega)
   have hB2:=hB.out;rw[List.take_of_length_le (by have:=HLM.out;have:=HJ.out;omega)]at hB2;obtain⟨a',c',e,_,_,rd⟩:=hB2.read (by omega);rw[List.length_map,HLM.out]at e;subst e;have RD:=LH rd;obtain⟨y0,y1⟩:C2 (wr) (w.heap.size+1+1) (.slice a0 n0 c0) (.slice a' n1 c'):=rc2 hR.out (by omega);have rr:=zX HRR.out hK.out (fun h=>by omega);have z0:=rr.cell (i:=0) (by simp);have z1:=rr.cell (i:=1) (by simp);simp at z0 z1;have fr:∀i,wr.frozen? ⟨w.heap.size+1,i,none⟩=false:=rr.frozen;have fr0:=fr 0;have fr1:=fr 1;clear hB hB2 rd rr fr;go_wp2_with fail;have sx:Ext (fun q=>q=w.heap.size+1) wr ((wr.setCell ⟨w.heap.size+1,0,none⟩ (.slice a0 n0 c0)).setCell ⟨w.heap.size+1,1,none⟩ (.slice a' n1 c')):=Ext.setCell (S:=fun q=>q=w.heap.size+1) (Ext.setCell (S:=fun q=>q=w.heap.size+1) (Ext.refl _ wr) (p:=⟨w.heap.size+1,0,none⟩) (.inr rfl) _) (p:=⟨w.heap.size+1,1,none⟩) (.inr rfl) _;refine bodyPost_ret (v:=.agg #[.slice a0 n0 c0,.slice a' n1 c']) (by simp[results,Tryz.results116,go_sem,z0,z1]) rfl (zB hQ ⟨a',c',rfl,(RD.out.ext sx (fun k hk=>by omega)).t,KW.out.then_ sx (fun q hq h=>by omega)⟩)
def jE(ds:List zG)(fs:List zA)(vars:List Int)(e:zK):Int:=
 if qJ ds (fs.map zM)=true∧¬j9 e.kids<0∧j8 ds.length vars=true then tyE ds (fs.map zM) vars e else -1
theorem vN(a:Option Addr)(n c:Nat)(xs:List Int)(D:Nat→Prop)(w:World)(h:qN w D a n xs)(hn:n≤1052000):
  Calls Tryz.prog 54 #[.slice a n c] w fun e w'=>∃v',e=.returned v'∧VR w' w.heap.size v' xs∧zQ w w':=by
 obtain⟨h1,h2⟩:=h;rcases Nat.eq_zero_or_pos n with h0|h0
 ·subst h0
  have hx:xs= []:=List.eq_nil_of_length_eq_zero h1;subst hx;rcases a with _|a
  ·refine(Tryz.slices_Clone_int_nil 0 c w).mono ?_
   rintro e w' ⟨rfl,rfl⟩;exact⟨_,rfl,World.ownsRow_nil _ _ _ _,Ext.refl _ _⟩
  ·refine(Tryz.slices_Clone_int_zero a c w).mono ?_
   rintro e w' ⟨v',rfl,ho,_,hb⟩;exact⟨_,rfl,ho,Ext.of_below hb⟩
 ·obtain⟨b,o,rfl,_,hc⟩:=h2 h0
  refine(Tryz.slices_Clone_int b o n c xs w (by omega) (by omega) (fun j hj=>hc j (by omega))).mono ?_;rintro e w' ⟨v',rfl,ho,_,hb⟩;rw[←h1,List.take_length]at ho;exact⟨_,rfl,ho,Ext.of_below hb⟩
theorem Qj(ds:List zG)(fs:List zA)(a0:Option Addr)(n0 c0:Nat)(a1:Option Addr)(n1 c1:Nat)(av:Option Addr)(nv cv:Nat)(vars:List Int)(op num:Int)(es:List zK)(a:Option Addr)(n c:Nat)(D0 D1 D2 D3:Nat→Prop)(w:World)
  (r0:Rd w D0 (z5 ds) (.slice a0 n0 c0)) (r1:Rd w D1 (qW fs) (.slice a1 n1 c1)) (hv:Rd w D2 (zY vars) (.slice av nv cv)) (hnv:nv≤1048576) (h:Rd w D3 (zJ es) (.slice a n c)) (ha:yL Q5 (.mk op num es)):
  Calls Tryz.prog 63 #[.agg #[.slice a0 n0 c0,.slice a1 n1 c1],.slice av nv cv,.agg #[.int .i64 op,.int .i64 num,.slice a n c]] w fun r w'=>r=.returned (.int .i64 (jE ds fs vars (.mk op num es)))∧zQ w w':=by
 refine zV fun Q hQ=>?_;have K0:=LH ((zQ.al w (.cells #[.slice a0 n0 c0,.slice a1 n1 c1] 44)).trans (zQ.al _ (.cells #[.int .i64 op,.int .i64 num,.slice a n c] 58)));have R0:=LH ((zP w #[.slice a0 n0 c0,.slice a1 n1 c1] 44).alloc (.cells #[.int .i64 op,.int .i64 num,.slice a n c] 58));have R1:=zP (w.alloc (.cells #[.slice a0 n0 c0,.slice a1 n1 c1] 44)) #[.int .i64 op,.int .i64 num,.slice a n c] 58;simp only[World.size_alloc]at R1;replace R1:=LH R1;have hvl:nv=vars.length:=(zN hv).1.symm;have HVL:=LH hvl;have V0:=LH (show jE ds fs vars (.mk op num es)=if qJ ds (fs.map zM)=true∧¬j9 es<0∧j8 n0 vars=true then tyE ds (fs.map zM) vars (.mk op num es)else -1 by rw[jE,(zT r0).1];rfl);clear hvl;by_cases hs:qJ ds (fs.map zM)=true
 case neg=>
  have HS:=LH (show qJ ds (fs.map zM)=false by simpa using hs);have V:=LH (show jE ds fs vars (.mk op num es)= -1 by rw[V0.out,if_neg (fun h=>hs h.1)]);clear hs;go_in;go_wp2_with fail;refine(xk ds fs _ _ _ _ _ _ _ _ _ (r0.k K0.out) (r1.k K0.out)).mono ?_;rw[HS.out];rintro e w1 ⟨rfl,p1⟩;have KX:=LH p1;have x0:=(rwk R0.out KX.out).cell (i:=0) (by simp);have x1:=(rwk R0.out KX.out).cell (i:=1) (by simp);have y0:=(rwk R1.out KX.out).cell (i:=0) (by simp);have y1:=(rwk R1.out KX.out).cell (i:=1) (by simp);have y2:=(rwk R1.out KX.out).cell (i:=2) (by simp);simp at x0 x1 y0 y1 y2;have KE:=LH (K0.out.trans p1);clear p1;go_wp2_with fail;exact zB hQ ⟨zE V.out.symm,KE.out⟩
 have HS:=LH hs;by_cases hl:j9 es<0
 case pos=>
  have V:=LH (show jE ds fs vars (.mk op num es)= -1 by rw[V0.out,if_neg (fun h=>h.2.1 hl)]);clear hs;go_in;go_wp2_with fail;refine(xk ds fs _ _ _ _ _ _ _ _ _ (r0.k K0.out) (r1.k K0.out)).mono ?_;rw[HS.out];rintro e w1 ⟨rfl,p1⟩;have KX:=LH p1;have x0:=(rwk R0.out KX.out).cell (i:=0) (by simp);have x1:=(rwk R0.out KX.out).cell (i:=1) (by simp);have y0:=(rwk R1.out KX.out).cell (i:=0) (by simp);have y1:=(rwk R1.out KX.out).cell (i:=1) (by simp);have y2:=(rwk R1.out KX.out).cell (i:=2) (by simp);simp at x0 x1 y0 y1 y2;have KE:=LH (K0.out.trans p1);clear p1;go_wp2_with fail;refine(kZ op num es _ _ _ _ _ (h.k KE.out)).mono ?_;rintro e w2 ⟨rfl,p2⟩;clear x0 x1 y0 y1 y2;have KE2:=LH (KE.out.trans p2);replace KX:=LH (KX.out.trans p2);clear p2;have x0:=(rwk R0.out KX.out).cell (i:=0) (by simp);have x1:=(rwk R0.out KX.out).cell (i:=1) (by simp);have y0:=(rwk R1.out KX.out).cell (i:=0) (by simp);have y1:=(rwk R1.out KX.out).cell (i:=1) (by simp);have y2:=(rwk R1.out KX.out).cell (i:=2) (by simp);simp at x0 x1 y0 y1 y2;go_wp2_with fail;exact zB hQ ⟨zE V.out.symm,KE2.out⟩
 have HNE:Hid (nEs es+1≤30):=by
  show _≤_;refine Decidable.byContradiction fun hc=>hl ?_;rw[xU hc];omega
 by_cases hat:j8 n0 vars=true
 case neg=>
  have HAT:=LH (show j8 n0 vars=false by simpa using hat);have V:=LH (show jE ds fs vars (.mk op num es)= -1 by rw[V0.out,if_neg (fun h=>hat h.2.2)]);clear hs hat;go_in;go_wp2_with fail;refine(xk ds fs _ _ _ _ _ _ _ _ _ (r0.k K0.out) (r1.k K0.out)).mono ?_;rw[HS.out];rintro e w1 ⟨rfl,p1⟩;have KX:=LH p1;have x0:=(rwk R0.out KX.out).cell (i:=0) (by simp);have x1:=(rwk R0.out KX.out).cell (i:=1) (by simp);have y0:=(rwk R1.out KX.out).cell (i:=0) (by simp);have y1:=(rwk R1.out KX.out).cell (i:=1) (by simp);have y2:=(rwk R1.out KX.out).cell (i:=2) (by simp);simp at x0 x1 y0 y1 y2;have KE:=LH (K0.out.trans p1);clear p1;go_wp2_with fail;refine(kZ op num es _ _ _ _ _ (h.k KE.out)).mono ?_;rintro e w2 ⟨rfl,p2⟩;clear x0 x1 y0 y1 y2;have KE2:=LH (KE.out.trans p2);replace KX:=LH (KX.out.trans p2);clear p2;have x0:=(rwk R0.out KX.out).cell (i:=0) (by simp);have x1:=(rwk R0.out KX.out).cell (i:=1) (by simp);have y0:=(rwk R1.out KX.out).cell (i:=0) (by simp);have y1:=(rwk R1.out KX.out).cell (i:=1) (by simp);have y2:=(rwk R1.out KX.out).cell (i:=2) (by simp);simp at x0 x1 y0 y1 y2;go_wp2_with fail;refine(xR _ _ _ _ _ _ vars _ _ (Rd.toInts (hv.k KE2.out)) (by omega)).mono ?_;rw[HAT.out];rintro e w3 ⟨rfl,rfl⟩;go_wp2_with fail;exact zB hQ ⟨zE V.out.symm,KE2.out⟩
 have HAT:=LH hat;have HALL:=LH (show j8 ds.length vars=true by rw[(zT r0).1];exact hat);obtain⟨z,hz⟩:∃z,tyE ds (fs.map zM) vars (.mk op num es)=z:=⟨_,rfl⟩;have HZ:=LH hz;have V:=LH (show jE ds fs vars (.mk op num es)=z by rw[V0.out,if_pos ⟨hs,hl,hat⟩,hz]);clear hs hat hz;have HA:=LH ha;have hn4:n1≤4:=by have h1:=(zL HS.out).2.2.1;have h2:=(qZ r1).1;simp at h1;omega
 go_in;go_wp2_with fail;refine(xk ds fs _ _ _ _ _ _ _ _ _ (r0.k K0.out) (r1.k K0.out)).mono ?_;rw[HS.out];rintro e w1 ⟨rfl,p1⟩;have KX:=LH p1;have x0:=(rwk R0.out KX.out).cell (i:=0) (by simp);have x1:=(rwk R0.out KX.out).cell (i:=1) (by simp);have y0:=(rwk R1.out KX.out).cell (i:=0) (by simp);have y1:=(rwk R1.out KX.out).cell (i:=1) (by simp);have y2:=(rwk R1.out KX.out).cell (i:=2) (by simp);simp at x0 x1 y0 y1 y2;have KE:=LH (K0.out.trans p1);clear p1;go_wp2_with fail;refine(kZ op num es _ _ _ _ _ (h.k KE.out)).mono ?_;rintro e w2 ⟨rfl,p2⟩;clear x0 x1 y0 y1 y2;have KE2:=LH (KE.out.trans p2);replace KX:=LH (KX.out.trans p2);clear p2;have x0:=(rwk R0.out KX.out).cell (i:=0) (by simp);have x1:=(rwk R0.out KX.out).cell (i:=1) (by simp);have y0:=(rwk R1.out KX.out).cell (i:=0) (by simp);have y1:=(rwk R1.out KX.out).cell (i:=1) (by simp);have y2:=(rwk R1.out KX.out).cell (i:=2) (by simp);simp at x0 x1 y0 y1 y2;go_wp2_with fail;refine(xR _ _ _ _ _ _ vars _ _ (Rd.toInts (hv.k KE2.out)) (by omega)).mono ?_;rw[HAT.out];rintro e w3 ⟨rfl,rfl⟩;have qr0:=(r0.k KE2.out).kd;have qr1:=(r1.k KE2.out).kd;have qv:=(hv.k KE2.out).kd;have qh:=(h.k KE2.out).kd;have pc:=Ext.refl0 w2;go_wp2_with fail;go_region_held3 (fun w'=>w'.cell? ⟨w.heap.size,0,none⟩=some (.slice a0 n0 c0)∧w'.cell? ⟨w.heap.size,1,none⟩=some (.slice a1 n1 c1)∧w'.cell? ⟨w.heap.size+1,0,none⟩=some (.int .i64 op)∧w'.cell? ⟨w.heap.size+1,1,none⟩=some (.int .i64 num)∧w'.cell? ⟨w.heap.size+1,2,none⟩=some (.slice a n c))
  (first|exact⟨zQ.at pc x0,zQ.at pc x1,zQ.at pc y0,zQ.at pc y1,zQ.at pc y2⟩|go_keep)
  (first
   |(go_at_call 116;refine(BB fs a0 n0 c0 a1 n1 c1 _ _ (qr1.k pc) hn4).mono ?_;rintro e wa ⟨asg,csg,rfl,hsg,pa⟩;replace pc:=Ext.trans pc pa)
   |(go_at_call 54;refine(vN av nv cv vars _ _ (Rd.toInts (qv.k pc)) (by omega)).mono ?_;rintro e wb ⟨v2,rfl,hv2,pb⟩;have qa:=(((qr0.k pc).lt.mono (fun k hk=>hk.2)).k pb);have qs:=((hsg.lt.mono (fun k hk=>hk.2)).k pb);have qe:=(((qh.k pc).lt.mono (fun k hk=>hk.2)).k pb);have hbs:=pb.size;have hbs0:=pc.size;replace pc:=Ext.trans pc pb)
   |(go_at_call 117;refine(WP ds (fs.map zM) HS.out (.mk op num es) HA.out a0 n0 c0 asg n1 csg v2 vars a n c _ wa.heap.size (fun k=>k<wa.heap.size) ⟨qa,qs⟩ hv2 qe (fun _ h=>h) hbs (by rw[nE];have:=HNE.out;have:=HVL.out;omega) HALL.out).mono ?_;rw[HZ.out];rintro e wc ⟨rfl,_,xc⟩;have hv3:=LH hv2.lt;replace pc:=Ext.then_ pc xc (fun i hi e=>by have h1:=(hv3.out i e).1;omega)))
 have KF:=LH (KE2.out.trans (zQ.dt pc));go_wp2_with fail;exact zB hQ ⟨zE V.out.symm,KF.out⟩
end Go.Proofs.YtkapldpmjkdmcaaGreat
