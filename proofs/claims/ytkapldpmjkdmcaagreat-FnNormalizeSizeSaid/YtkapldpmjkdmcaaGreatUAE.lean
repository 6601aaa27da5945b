/- The reference's types of expressions: its helpers over all kids. -/
import Derived.Test.YtkapldpmjkdmcaaGreatUAC
import Derived.Test.YtkapldpmjkdmcaaGreatUAB
import Derived.Test.YtkapldpmjkdmcaaGreatUAD
import Derived.Deep.RegionHeld3
import Derived.Test.YtkapldpmjkdmcaaGreatUAA
import Derived.Maps.RangeWalk
import Derived.IntWalk
namespace Go.Proofs.YtkapldpmjkdmcaaGreat
open Go.RowKit
set_option maxRecDepth 100000
set_option maxHeartbeats 4000000
theorem W5{xs ys:List Int}(h:xs.length=ys.length)(h2:∀i,i<xs.length→iAt xs i=iAt ys i):xs=ys:=by
 apply List.ext_getElem h;intro i h3 h4;have:=h2 i h3;rwa[gz h3,gz h4]at this
theorem DP{xs ys:List Int}(i:Nat)(h:iAt xs i≠iAt ys i):xs≠ys:=fun e=>h (by rw[e])
theorem DL{m i:Nat}(h:i<m):iAt (List.replicate m 0) i=0:=by simp[iAt,List.getD,h]
def PR(w:World)(ds:List zG)(fs:List zA)(a0:Option Addr)(n0 c0:Nat)(a1:Option Addr)(n1 c1:Nat):Prop:=
 Rd w (fun _=>True) (z5 ds) (.slice a0 n0 c0)∧Rd w (fun _=>True) (qW fs) (.slice a1 n1 c1)
theorem PR.k{w w':World}{ds:List zG}{fs:List zA}{a0:Option Addr}{n0 c0:Nat}{a1:Option Addr}{n1 c1:Nat}(h:PR w ds fs a0 n0 c0 a1 n1 c1)(k:zQ w w'):PR w' ds fs a0 n0 c0 a1 n1 c1:=⟨h.1.k k,h.2.k k⟩
theorem Rd.t{w:World}{D:Nat→Prop}{d:Dat}{v:Value}(h:Rd w D d v):Rd w (fun _=>True) d v:=h.mono (fun _ _=>trivial)
def TyS(ds:List zG)(fs:List zA)(e:zK):Prop:=∀(a0:Option Addr) (n0 c0:Nat) (a1:Option Addr) (n1 c1:Nat) (av:Option Addr) (nv cv:Nat) (vars:List Int) (a:Option Addr) (n c:Nat) (w:World),
 PR w ds fs a0 n0 c0 a1 n1 c1→Rd w (fun _=>True) (zY vars) (.slice av nv cv)→Rd w (fun _=>True) (zJ e.kids) (.slice a n c)→vars.length+4*nE e≤1049576→j8 ds.length vars=true→
 Calls Tryz.prog 99 #[.agg #[.slice a0 n0 c0,.slice a1 n1 c1],.slice av nv cv,.agg #[.int .i64 e.op,.int .i64 e.num,.slice a n c]] w fun r w'=>r=.returned (.int .i64 (tyE ds (fs.map zM) vars e))∧zQ w w'
section
variable (ds:List zG)(fs:List zA)
theorem gC(es:List zK)(IH0:∀j,j<es.length→TyS ds fs (eAt es j))(a0:Option Addr)(n0 c0:Nat)(a1:Option Addr)(n1 c1:Nat)(av:Option Addr)(nv cv:Nat)(vars:List Int)(a:Option Addr)(n c:Nat)(at_:Option Addr)(nt ct:Nat)(ts:List Int)(w:World)
  (hp:PR w ds fs a0 n0 c0 a1 n1 c1) (hv:Rd w (fun _=>True) (zY vars) (.slice av nv cv)) (h:Rd w (fun _=>True) (zJ es) (.slice a n c)) (ht:Rd w (fun _=>True) (zY ts) (.slice at_ nt ct)) (hlen:vars.length+4*nEs es≤1049576) (hall:j8 ds.length vars=true):
  Calls Tryz.prog 147 #[.agg #[.slice a0 n0 c0,.slice a1 n1 c1],.slice av nv cv,.slice a n c,.slice at_ nt ct] w fun r w'=>r=.returned (.bool (decide (jF ds (fs.map zM) vars es=ts)))∧zQ w w':=by
 refine zV fun Q hQ=>?_;have K0:=zQ.al w (.cells #[.slice a0 n0 c0,.slice a1 n1 c1] 44);have R0:=zP w #[.slice a0 n0 c0,.slice a1 n1 c1] 44;have hp1:=hp.k K0;have hv1:=hv.k K0;obtain⟨e1,hnc,hm,hat⟩:=zx h;obtain⟨e2,htc,htm,htat⟩:=zN ht;have HL:=LH e1;have HT:=LH e2;have HA:=LH hat;have HTA:=LH htat;have IH:=LH IH0;have HLen:=LH hlen;have HAll:=LH hall;have TL:=LH (yy ds (fs.map zM) vars es);have hnl:n≤1049576:=by have:=qq es;omega
 clear e1 e2 hat htat h ht hp hv IH0 hlen hall;by_cases hlt0:n=nt
 case neg=>
  have V:Hid (decide (jF ds (fs.map zM) vars es=ts)=false):=decide_eq_false (fun e=>hlt0 (by have:=congrArg List.length e;rw[TL.out]at this;have:=HL.out;have:=HT.out;omega));go_in;go_wp2_with fail;exact zB hQ ⟨qK V.out.symm,K0⟩
 subst hlt0;go_in;go_wp2_with fail;go_loopw [9] (fun iv wr=>∃j:Nat,j≤n∧iv=.int .i64 j∧Hid (∀l,l<j→iAt (jF ds (fs.map zM) vars es) l=iAt ts l)∧Hid (wr.rowIs w.heap.size 44 2 (fun i=>(#[.slice a0 n0 c0,.slice a1 n1 c1]:Array Value).getD i undef))∧zQ (w.alloc (.cells #[.slice a0 n0 c0,.slice a1 n1 c1] 44)) wr) (fun iv _=>n-(intOf iv).toNat)
 case atStart=>exact⟨0,Nat.zero_le _,rfl,fun l hl=>absurd hl (by omega),R0,Ext.refl _ _⟩
 case round=>
  obtain⟨j,hj,rfl,hI,hR,hK⟩:=hrel;by_cases hlt:j<n
  ·have HJ:Hid (j<es.length):=by have:=HL.out;show _<_;omega
   obtain⟨b,o,rfl,hd,a2,n2,c2,d0,d1,d2,r2⟩:=HA.out j hlt;obtain⟨b',o',rfl,hd',d3⟩:=HTA.out j hlt;have KW:zQ w wr:=K0.trans hK;obtain⟨g0,g1,g2,g3⟩:=KW.k4 d0 d1 d2 d3;have x0:=hR.out.cell (i:=0) (by simp);have x1:=hR.out.cell (i:=1) (by simp);simp at x0 x1;have q2:=(r2.k KW).k (w':=wr.drew) (kD wr);have qp:=(hp1.k hK).k (w':=wr.drew) (kD wr);have qv:=(hv1.k hK).k (w':=wr.drew) (kD wr);have hb:vars.length+4*nE (eAt es j)≤1049576:=by have:=yN es HJ.out;have:=HLen.out;omega
   have pc:zQ wr.drew wr.drew:=Ext.refl _ _;have HZ:=LH (ZX ds (fs.map zM) vars HJ.out);generalize hz:tyE ds (fs.map zM) vars (eAt es j)=z at HZ;have HZ2:=LH hz;generalize hu:iAt ts j=u at g3 d3;have HU:=LH hu;clear d0 d1 d2 d3 r2 hz hu;by_cases hzu:z=u
   ·have hzu':(z !=u)=false:=by simpa using hzu
    have HZU:=LH hzu;clear hzu;go_wp2_with fail;go_region_held3 (fun w'=>w'.cell? ⟨w.heap.size,0,none⟩=some (.slice a0 n0 c0)∧w'.cell? ⟨w.heap.size,1,none⟩=some (.slice a1 n1 c1)∧w'.cell? ⟨b,o+j*3,none⟩=some (.int .i64 (eAt es j).op)∧w'.cell? ⟨b,o+j*3+1,none⟩=some (.int .i64 (eAt es j).num)∧w'.cell? ⟨b,o+j*3+2,none⟩=some (.slice a2 n2 c2)∧w'.cell? ⟨b',o'+j,none⟩=some (.int .i64 u))
     (first|exact⟨zQ.at pc x0,zQ.at pc x1,zQ.at pc g0,zQ.at pc g1,zQ.at pc g2,zQ.at pc g3⟩|go_keep)
     ((go_at_call 99;refine(IH.out j HJ.out _ _ _ _ _ _ _ _ _ _ _ _ _ _ (qp.k pc) (qv.k pc) (q2.k pc) hb HAll.out).mono ?_;rw[HZ2.out];rintro e w1 ⟨rfl,p1⟩;replace pc:=pc.trans p1))
    have hI2:Hid (∀l,l<j+1→iAt (jF ds (fs.map zM) vars es) l=iAt ts l):=by
     intro l hl;rcases Nat.lt_succ_iff_lt_or_eq.1 hl with h|rfl
     ·exact hI.out l h
     ·rw[HZ.out,HZU.out];exact HU.out.symm
    have hR2:=LH (zX hR.out ((Ext.refl _ wr).drew.trans pc) (fun h=>h));have hK2:=hK.trans ((Ext.refl _ wr).drew.trans pc);clear pc qp qv q2 hI hR;go_wp2_with fail;go_roundw
    case rel=>exact⟨j+1,by omega,by go_num,hI2,hR2,hK2⟩
    case measure=>simp[intOf];omega
   ·have hzu':(z !=u)=true:=by simpa using hzu
    have HZU:=LH hzu;clear hzu;go_wp2_with fail;go_region_held3 (fun w'=>w'.cell? ⟨w.heap.size,0,none⟩=some (.slice a0 n0 c0)∧w'.cell? ⟨w.heap.size,1,none⟩=some (.slice a1 n1 c1)∧w'.cell? ⟨b,o+j*3,none⟩=some (.int .i64 (eAt es j).op)∧w'.cell? ⟨b,o+j*3+1,none⟩=some (.int .i64 (eAt es j).num)∧w'.cell? ⟨b,o+j*3+2,none⟩=some (.slice a2 n2 c2)∧w'.cell? ⟨b',o'+j,none⟩=some (.int .i64 u))
     (first|exact⟨zQ.at pc x0,zQ.at pc x1,zQ.at pc g0,zQ.at pc g1,zQ.at pc g2,zQ.at pc g3⟩|go_keep)
     ((go_at_call 99;refine(IH.out j HJ.out _ _ _ _ _ _ _ _ _ _ _ _ _ _ (qp.k pc) (qv.k pc) (q2.k pc) hb HAll.out).mono ?_;rw[HZ2.out];rintro e w1 ⟨rfl,p1⟩;replace pc:=pc.trans p1))
    have V:Hid (decide (jF ds (fs.map zM) vars es=ts)=false):=decide_eq_false (DP j (by rw[HZ.out,HU.out];exact HZU.out));have hK2:=KW.trans ((Ext.refl _ wr).drew.trans pc);go_wp2_with fail;exact zB hQ ⟨qK V.out.symm,hK2⟩
  ·have V:Hid (decide (jF ds (fs.map zM) vars es=ts)=true):=decide_eq_true (W5 (by rw[TL.out];have:=HL.out;have:=HT.out;omega) (fun l hl=>hI.out l (by rw[TL.out]at hl;have:=HL.out;omega)))
   go_wp2_with fail;exact zB hQ ⟨qK V.out.symm,K0.trans hK⟩
theorem jU(es:List zK)(IH0:∀j,j<es.length→TyS ds fs (eAt es j))(a0:Option Addr)(n0 c0:Nat)(a1:Option Addr)(n1 c1:Nat)(av:Option Addr)(nv cv:Nat)(vars:List Int)(a:Option Addr)(n c:Nat)(nt:Nat)(w:World)
  (hp:PR w ds fs a0 n0 c0 a1 n1 c1) (hv:Rd w (fun _=>True) (zY vars) (.slice av nv cv)) (h:Rd w (fun _=>True) (zJ es) (.slice a n c)) (hlen:vars.length+4*nEs es≤1049576) (hall:j8 ds.length vars=true):
  Calls Tryz.prog 145 #[.agg #[.slice a0 n0 c0,.slice a1 n1 c1],.slice av nv cv,.slice a n c,.int .i64 nt] w fun r w'=>r=.returned (.bool (decide (jF ds (fs.map zM) vars es=List.replicate nt 0)))∧zQ w w':=by
 refine zV fun Q hQ=>?_;have K0:=zQ.al w (.cells #[.slice a0 n0 c0,.slice a1 n1 c1] 44);have R0:=zP w #[.slice a0 n0 c0,.slice a1 n1 c1] 44;have hp1:=hp.k K0;have hv1:=hv.k K0;obtain⟨e1,hnc,hm,hat⟩:=zx h;have HL:=LH e1;have HA:=LH hat;have IH:=LH IH0;have HLen:=LH hlen;have HAll:=LH hall;have TL:=LH (yy ds (fs.map zM) vars es);have hnl:n≤1049576:=by have:=qq es;omega
 clear e1 hat h hp hv IH0 hlen hall;by_cases hlt0:n=nt
 case neg=>
  have V:Hid (decide (jF ds (fs.map zM) vars es=List.replicate nt 0)=false):=decide_eq_false (fun e=>hlt0 (by have:=congrArg List.length e;rw[TL.out,List.length_replicate]at this;have:=HL.out;omega));go_in;go_wp2_with fail;exact zB hQ ⟨qK V.out.symm,K0⟩
 subst hlt0;go_in;go_wp2_with fail;go_loopw [9] (fun iv wr=>∃j:Nat,j≤n∧iv=.int .i64 j∧Hid (∀l,l<j→iAt (jF ds (fs.map zM) vars es) l=iAt (List.replicate n 0) l)∧Hid (wr.rowIs w.heap.size 44 2 (fun i=>(#[.slice a0 n0 c0,.slice a1 n1 c1]:Array Value).getD i undef))∧zQ (w.alloc (.cells #[.slice a0 n0 c0,.slice a1 n1 c1] 44)) wr) (fun iv _=>n-(intOf iv).toNat)
 case atStart=>exact⟨0,Nat.zero_le _,rfl,fun l hl=>absurd hl (by omega),R0,Ext.refl _ _⟩
 case round=>
  obtain⟨j,hj,rfl,hI,hR,hK⟩:=hrel;by_cases hlt:j<n
  ·have HJ:Hid (j<es.length):=by have:=HL.out;show _<_;omega
   obtain⟨b,o,rfl,hd,a2,n2,c2,d0,d1,d2,r2⟩:=HA.out j hlt;have KW:zQ w wr:=K0.trans hK;obtain⟨g0,g1,g2⟩:=KW.k3 d0 d1 d2;have x0:=hR.out.cell (i:=0) (by simp);have x1:=hR.out.cell (i:=1) (by simp);simp at x0 x1;have q2:=(r2.k KW).k (w':=wr.drew) (kD wr);have qp:=(hp1.k hK).k (w':=wr.drew) (kD wr);have qv:=(hv1.k hK).k (w':=wr.drew) (kD wr);have hb:vars.length+4*nE (eAt es j)≤1049576:=by have:=yN es HJ.out;have:=HLen.out;omega
   have pc:zQ wr.drew wr.drew:=Ext.refl _ _;have HZ:=LH (ZX ds (fs.map zM) vars HJ.out);generalize hz:tyE ds (fs.map zM) vars (eAt es j)=z at HZ;have HZ2:=LH hz;clear d0 d1 d2 r2 hz;by_cases hzu:z=0
   ·have hzu':(z !=0)=false:=by simpa using hzu
    have HZU:=LH hzu;clear hzu;go_wp2_with fail;go_region_held3 (fun w'=>w'.cell? ⟨w.heap.size,0,none⟩=some (.slice a0 n0 c0)∧w'.cell? ⟨w.heap.size,1,none⟩=some (.slice a1 n1 c1)∧w'.cell? ⟨b,o+j*3,none⟩=some (.int .i64 (eAt es j).op)∧w'.cell? ⟨b,o+j*3+1,none⟩=some (.int .i64 (eAt es j).num)∧w'.cell? ⟨b,o+j*3+2,none⟩=some (.slice a2 n2 c2))
     (first|exact⟨zQ.at pc x0,zQ.at pc x1,zQ.at pc g0,zQ.at pc g1,zQ.at pc g2⟩|go_keep)
     ((go_at_call 99;refine(IH.out j HJ.out _ _ _ _ _ _ _ _ _ _ _ _ _ _ (qp.k pc) (qv.k pc) (q2.k pc) hb HAll.out).mono ?_;rw[HZ2.out];rintro e w1 ⟨rfl,p1⟩;replace pc:=pc.trans p1))
    have hI2:Hid (∀l,l<j+1→iAt (jF ds (fs.map zM) vars es) l=iAt (List.replicate n 0) l):=by
     intro l hl;rcases Nat.lt_succ_iff_lt_or_eq.1 hl with h|rfl
     ·exact hI.out l h
     ·rw[HZ.out,HZU.out];exact(DL (by omega)).symm
    have hR2:=LH (zX hR.out ((Ext.refl _ wr).drew.trans pc) (fun h=>h));have hK2:=hK.trans ((Ext.refl _ wr).drew.trans pc);clear pc qp qv q2 hI hR;go_wp2_with fail;go_roundw
    case rel=>exact⟨j+1,by omega,by go_num,hI2,hR2,hK2⟩
    case measure=>simp[intOf];omega
   ·have hzu':(z !=0)=true:=by simpa using hzu
    have HZU:=LH hzu;clear hzu;go_wp2_with fail;go_region_held3 (fun w'=>w'.cell? ⟨w.heap.size,0,none⟩=some (.slice a0 n0 c0)∧w'.cell? ⟨w.heap.size,1,none⟩=some (.slice a1 n1 c1)∧w'.cell? ⟨b,o+j*3,none⟩=some (.int .i64 (eAt es j).op)∧w'.cell? ⟨b,o+j*3+1,none⟩=some (.int .i64 (eAt es j).num)∧w'.cell? ⟨b,o+j*3+2,none⟩=some (.slice a2 n2 c2))
     (first|exact⟨zQ.at pc x0,zQ.at pc x1,zQ.at pc g0,zQ.at pc g1,zQ.at pc g2⟩|go_keep)
     ((go_at_call 99;refine(IH.out j HJ.out _ _ _ _ _ _ _ _ _ _ _ _ _ _ (qp.k pc) (qv.k pc) (q2.k pc) hb HAll.out).mono ?_;rw[HZ2.out];rintro e w1 ⟨rfl,p1⟩;replace pc:=pc.trans p1))
    have V:Hid (decide (jF ds (fs.map zM) vars es=(List.replicate n 0))=false):=decide_eq_false (DP j (by rw[HZ.out,DL hlt];exact HZU.out));have hK2:=KW.trans ((Ext.refl _ wr).drew.trans pc);go_wp2_with fail;exact zB hQ ⟨qK V.out.symm,hK2⟩
  ·have V:Hid (decide (jF ds (fs.map zM) vars es=(List.replicate n 0))=true):=decide_eq_true (W5 (by rw[TL.out];have:=HL.out;rw[List.length_replicate];omega) (fun l hl=>hI.out l (by rw[TL.out]at hl;have:=HL.out;omega)))
   go_wp2_with fail;exact zB hQ ⟨qK V.out.symm,K0.trans hK⟩
end
section
variable {P:Program}{md:Region.Mode}{ops:Array Oper}{Q:Exit→Act→World→Prop}{S:World→Prop}{i:Nat}{oi:Oper}{fuel:Nat}{listed:Array Bool}{a:Act}{w:World}
theorem zZ{v:Value}(hi:ops.toList[i]?=some oi)
  (hs:Region.noSelect ops=true) (hf:Region.free md ops listed i=true) (hr:(Region.ready md ops listed).contains i=true)
  (hQ:∀c a w,Q (.panic c) (a.put oi.dst v) w→Q (.panic c) a w) (hw:Region.wanted oi (yielded ops a.tmps)=true) (hS:S w) (hy:∀w,S w→(execOp a.eval oi).run P w=.ok (.value v) w)
  (h:wpAnyH P md ops Q S fuel (listed.setIfInBounds i true) (a.put oi.dst v) w):wpAnyH P md ops Q S (fuel+1) listed a w:=
 wpAnyH_take (by simpa using hi) hs hf hr hQ (.inl ⟨hw,hy⟩) hS h
theorem qY(hi:ops.toList[i]?=some oi)
  (hs:Region.noSelect ops=true) (hf:Region.free md ops listed i=true) (hr:(Region.ready md ops listed).contains i=true)
  (hQ:∀c a w,Q (.panic c) (a.put oi.dst undef) w→Q (.panic c) a w) (hw:Region.wanted oi (yielded ops a.tmps)=false) (hS:S w)
  (h:wpAnyH P md ops Q S fuel (listed.setIfInBounds i true) (a.put oi.dst undef) w):wpAnyH P md ops Q S (fuel+1) listed a w:=
 wpAnyH_take (by simpa using hi) hs hf hr hQ (.inr ⟨hw,rfl⟩) hS h
theorem zW(hi:ops.toList[i]?=some oi)(hr:Region.ready md ops listed= [i])(hw:Region.wanted oi (yielded ops a.tmps)=true)
  (h:∀K':Act→World→Prop,Shut (∀a w,S w→(S w→wpAnyH P md ops Q S fuel (listed.setIfInBounds i true) a w)→K' a w)→Oper.wp P oi a w K' Q):wpAnyH P md ops Q S (fuel+1) listed a w:=
 wpAnyH_ready hr (by simp) (AllReadyH.cons (by simpa using hi) (fun K' hK=>by rw[if_pos hw];exact h K' hK) AllReadyH.nil)
theorem wT{v:Value}(i:Nat)(hS:S w)(h:wpAnyH P md ops Q S fuel (listed.setIfInBounds i true) (a.put oi.dst v) w)(hi:ops.toList[i]?=some oi:=by rfl)
  (hs:Region.noSelect ops=true:=by kernel_rfl) (hf:Region.free md ops listed i=true:=by kernel_rfl) (hr:(Region.ready md ops listed).contains i=true:=by kernel_rfl)
  (hQ:∀c a w,Q (.panic c) (a.put oi.dst v) w→Q (.panic c) a w:=by exact fun _ _ _ h=>h) (hw:Region.wanted oi (yielded ops a.tmps)=true:=by rfl)
  (hy:∀w,S w→(execOp a.eval oi).run P w=.ok (.value v) w:=by(intro w hSw;(try dsimp only at hSw);go_simp;(try with_reducible rfl))):wpAnyH P md ops Q S (fuel+1) listed a w:=
 zZ hi hs hf hr hQ hw hS hy h
theorem wS(i:Nat)(hS:S w)(h:wpAnyH P md ops Q S fuel (listed.setIfInBounds i true) (a.put oi.dst undef) w)(hi:ops.toList[i]?=some oi:=by rfl)
  (hs:Region.noSelect ops=true:=by kernel_rfl) (hf:Region.free md ops listed i=true:=by kernel_rfl) (hr:(Region.ready md ops listed).contains i=true:=by kernel_rfl)
  (hQ:∀c a w,Q (.panic c) (a.put oi.dst undef) w→Q (.panic c) a w:=by exact fun _ _ _ h=>h) (hw:Region.wanted oi (yielded ops a.tmps)=false:=by rfl):wpAnyH P md ops Q S (fuel+1) listed a w:=
 qY hi hs hf hr hQ hw hS h
theorem wO(i:Nat)(h:∀K':Act→World→Prop,Shut (∀a w,S w→(S w→wpAnyH P md ops Q S fuel (listed.setIfInBounds i true) a w)→K' a w)→Oper.wp P oi a w K' Q)
  (hi:ops.toList[i]?=some oi:=by rfl) (hr:Region.ready md ops listed= [i]:=by kernel_rfl) (hw:Region.wanted oi (yielded ops a.tmps)=true:=by rfl):wpAnyH P md ops Q S (fuel+1) listed a w:=
 zW hi hr hw h
end
theorem zH{P:Program}{md:Region.Mode}{ops:Array Oper}{Q:Exit→Act→World→Prop}{S:World→Prop}{i:Nat}{oi:Oper}{fuel:Nat}{listed:Array Bool}{a:Act}{w:World}{rs:List Nat}(hi:ops.toList[i]?=some oi)(hw:Region.wanted oi (yielded ops a.tmps)=true)
  (h:∀K':Act→World→Prop,Shut (∀a w,S w→(S w→wpAnyH P md ops Q S fuel (listed.setIfInBounds i true) a w)→K' a w)→Oper.wp P oi a w K' Q)
  (hs:AllReadyH P md ops Q S fuel listed a w rs):AllReadyH P md ops Q S fuel listed a w (i::rs):=
 AllReadyH.cons (by simpa using hi) (fun K' hK=>by rw[if_pos hw];exact h K' hK) hs
theorem L8{P:Program}(w:World)(t ty:TypeId)
  (base:Nat) (e:TypeId) (z:Value) (size bytes:Nat) (ht:P.underlying t=some (.slice e)) (hinfo:(P.info? e).map (fun i=>(i.zero,i.size,i.bytes))=some (some z,size,bytes))
  (hzs:z.cells.size=size) (hsz:0<size)
  (D:Nat→Prop) (v:Value) (rows:List (List Dat)) (hacc:zq w base D e size v rows)
  (A:Option Addr) (m c:Nat) (rs:List (List Dat)) (D2:Nat→Prop) (hr:Rd w D2 (.arr size rs) (.slice A m c)) (hD2:∀k,k<w.heap.size→D2 k→D k∧v.ownBlock≠some k)
  (hbytes:(rows.length+m)*bytes≤140737488355328) (h63:rows.length+m≤9223372036854775807) (hbase:base≤w.heap.size):
  ∃v' w',(Builtin.append_ #[t,t] ty #[v,.slice A m c]).run P w=.ok v' w'∧zq w' base D e size v' (rows++rs)∧Ext (fun k=>v.ownBlock=some k) w w'∧(v'.ownBlock=v.ownBlock∨v'.ownBlock=some w.heap.size):=by
 have hr':=hr.lt;obtain⟨news,n1,n2,n3,n4⟩:=hr'.holds hsz;have hm:m=rs.length:=by obtain⟨a',c',e,_⟩:=hr.arr_inv;injection e
 obtain⟨xs,h1,_,_⟩:=id hacc;obtain⟨i,hi,hzz⟩:=Option.map_eq_some_iff.1 hinfo;simp only[Prod.mk.injEq]at hzz;obtain⟨hz,hsize,hby⟩:=hzz;obtain⟨v',w',hrun,q1,q2,q3⟩:=gL (P:=P) w base t ty e i z size bytes ht hi hz hsize hby hzs hsz v rows.length xs h1 A m c news n1 n2 (by simp only[maxLen];omega) hbytes hbase;refine⟨v',w',hrun,?_,⟨q2.os,q2.tape,q2.output,q2.size,fun k hk hn=>q2.block k hk (fun e=>hn e.symm)⟩,q3⟩;refine hacc.push (rs:=rs) (news:=news) n3 (fun i j hi hj=>?_) (fun xs' hxs'=>?_) q2 q3
 ·obtain⟨u,hu,hu2⟩:=n4 i j hi hj
  exact⟨u,hu,hu2.mono (fun k hk=>hD2 k hk.2 hk.1)⟩
 ·have:xs'=xs:=by
   rcases hxs'.2 with ⟨e1,e2⟩|⟨g,cap,cur,e1,_,hg,_,_,_,htake⟩
   ·have l1:=hxs'.1
    have l2:=h1.1;rw[e2,Nat.zero_mul]at l1 l2;rw[List.eq_nil_of_length_eq_zero l1,List.eq_nil_of_length_eq_zero l2]
   ·rcases h1.2 with ⟨f1,f2⟩|⟨g',cap',cur',f1,_,hg',_,_,_,htake'⟩
    ·have l1:=hxs'.1
     have l2:=h1.1;rw[f2,Nat.zero_mul]at l1 l2;rw[List.eq_nil_of_length_eq_zero l1,List.eq_nil_of_length_eq_zero l2]
    ·rw[e1]at f1
     injection f1 with f1
     injection f1 with f1
     injection f1 with f1
     subst f1;rw[hg]at hg';injection hg' with hg'
     injection hg' with hg'
     rw[←htake,←htake',hg']
  subst this;rw[←hm];exact q1
theorem vB{P:Program}(w:World){o:Oper}{a:Act}{K:Act→World→Prop}{Q:Exit→Act→World→Prop}(s x:Operand)(t:TypeId)
  (ho:o.op=.call {callee:=.builtin .append,args:= #[s,x],argTypes:= #[t,t]})
  (base:Nat) (e:TypeId) (z:Value) (size bytes:Nat) (ht:P.underlying t=some (.slice e)) (hinfo:(P.info? e).map (fun i=>(i.zero,i.size,i.bytes))=some (some z,size,bytes))
  (hzs:z.cells.size=size) (hsz:0<size)
  (D:Nat→Prop) (v:Value) (rows:List (List Dat)) (hs:a.eval s=v) (hacc:zq w base D e size v rows)
  (A:Option Addr) (m c:Nat) (rs:List (List Dat)) (D2:Nat→Prop) (hx:a.eval x=.slice A m c) (hr:Rd w D2 (.arr size rs) (.slice A m c)) (hD2:∀k,k<w.heap.size→D2 k→D k∧v.ownBlock≠some k)
  (hbytes:(rows.length+m)*bytes≤140737488355328) (h63:rows.length+m≤9223372036854775807) (hbase:base≤w.heap.size)
  (h:∀v' w',zq w' base D e size v' (rows++rs)→Ext (fun k=>v.ownBlock=some k) w w'→(v'.ownBlock=v.ownBlock∨v'.ownBlock=some w.heap.size)→K (a.put o.dst v') w'):Oper.wp P o a w K Q:=by
 obtain⟨v',w',hrun,h2,h3,h4⟩:=L8 (P:=P) w t o.type base e z size bytes ht hinfo hzs hsz D v rows hacc A m c rs D2 hr hD2 hbytes h63 hbase;unfold Oper.wp;simp[execOp,ho,resolve,invoke,builtin,hs,hx,hrun,Result.andThen];exact h v' w' h2 h3 h4
def Q4(B g:Nat)(p N K:Int)(w:World)(e:Ending)(w':World):Prop:=∃(x:zK) (a:Option Addr) (n c:Nat) (q:Int),
 e=.returned (.agg #[.int .i64 x.op,.int .i64 x.num,.slice a n c])∧Rd w' (fun k=>w.heap.size≤k) (zJ x.kids) (.slice a n c)∧yL (yX K) x∧Rdx w' B g q∧q≤p+N∧Ext (·=g) w w'
structure PG(w:World)(g:Nat)(ds:List zG)(fs:List zA)(a0:Option Addr)(n0 c0:Nat)(a1:Option Addr)(n1 c1:Nat):Prop where
 d:Rd w (fun k=>k≠g) (z5 ds) (.slice a0 n0 c0)
 f:Rd w (fun k=>k≠g) (qW fs) (.slice a1 n1 c1)
theorem PG.ext{w w':World}{g:Nat}{ds:List zG}{fs:List zA}{a0:Option Addr}{n0 c0:Nat}{a1:Option Addr}{n1 c1:Nat}(h:PG w g ds fs a0 n0 c0 a1 n1 c1)(hx:Ext (·=g) w w'):PG w' g ds fs a0 n0 c0 a1 n1 c1:=
 ⟨h.d.ext hx (fun _ h=>h),h.f.ext hx (fun _ h=>h)⟩
theorem PG.k{w w':World}{g:Nat}{ds:List zG}{fs:List zA}{a0:Option Addr}{n0 c0:Nat}{a1:Option Addr}{n1 c1:Nat}(h:PG w g ds fs a0 n0 c0 a1 n1 c1)(hx:zQ w w'):PG w' g ds fs a0 n0 c0 a1 n1 c1:=h.ext hx.to
theorem PG.pr{w:World}{g:Nat}{ds:List zG}{fs:List zA}{a0:Option Addr}{n0 c0:Nat}{a1:Option Addr}{n1 c1:Nat}(h:PG w g ds fs a0 n0 c0 a1 n1 c1):PR w ds fs a0 n0 c0 a1 n1 c1:=⟨h.d.t,h.f.t⟩
theorem jZ.few{ds:List zG}{fs:List zA}(h:jZ ds fs):Few ds:=Few.of_ok h.ok
theorem Rd.g{w w':World}{g:Nat}{d:Dat}{v:Value}(h:Rd w (fun k=>k≠g) d v)(hx:Ext (·=g) w w'):Rd w' (fun k=>k≠g) d v:=h.ext hx (fun _ h=>h)
theorem Ext.at{w w':World}{g:Nat}(k:Ext (·=g) w w'){p:Addr}{v:Value}(h:w.cell? p=some v)(hp:p.block≠g):w'.cell? p=some v:=by
 have hb:p.block<w.heap.size:=World.block_lt_of_cell? _ _ h;rw[k.cell hb hp];exact h
theorem Ext.fr{w w':World}{g:Nat}(k:Ext (·=g) w w'){p:Addr}{v:Value}{b:Bool}(h:w.cell? p=some v)(hf:w.frozen? p=b)(hp:p.block≠g):w'.frozen? p=b:=by
 have hb:p.block<w.heap.size:=World.block_lt_of_cell? _ _ h;rw[k.frozen hb hp];exact hf
theorem jH(n:Int)(w:World):
  Calls Tryz.prog 213 #[.int .i64 n] w fun e w'=>∃a c,e=.returned (.agg #[.int .i64 0,.int .i64 n,.slice a 0 c])∧zQ w w':=by
 refine zV fun Q hQ=>?_;go_in;go_wp2;refine bodyPost_ret (v:=.agg #[.int .i64 0,.int .i64 n,.slice (some ⟨w.heap.size+1,0,none⟩) 0 0]) (by simp[results,Tryz.results213,go_sem]) rfl (zB hQ ⟨_,_,rfl,?_⟩);first
  |exact((Ext.refl _ w).alloc _).alloc _
  |exact(((Ext.refl _ w).alloc _).alloc _).setCell (.inl (by simp)) _
  |exact((((Ext.refl _ w).alloc _).setCell (.inl (by simp)) _).setCell (.inl (by simp)) _).alloc _
theorem qR(n:Int)(w:World):
  Calls Tryz.prog 214 #[.int .i64 n] w fun e w'=>∃a c,e=.returned (.agg #[.int .i64 12,.int .i64 n,.slice a 0 c])∧zQ w w':=by
 refine zV fun Q hQ=>?_;go_in;go_wp2;refine bodyPost_ret (v:=.agg #[.int .i64 12,.int .i64 n,.slice (some ⟨w.heap.size+1,0,none⟩) 0 0]) (by simp[results,Tryz.results214,go_sem]) rfl (zB hQ ⟨_,_,rfl,?_⟩);exact((Ext.refl _ w).alloc _).alloc _
theorem zU(op num:Int)(a:Option Addr)(n c:Nat)(w:World):
  Calls Tryz.prog 212 #[.int .i64 op,.int .i64 num,.slice a n c] w fun e w'=>e=.returned (.agg #[.int .i64 op,.int .i64 num,.slice a n c])∧zQ w w':=by
 refine zV fun Q hQ=>?_;go_in;go_wp2;refine bodyPost_ret (v:=.agg #[.int .i64 op,.int .i64 num,.slice a n c]) (by simp[results,Tryz.results212,go_sem]) rfl (zB hQ ⟨rfl,?_⟩);exact(Ext.refl _ w).alloc _
theorem kj{P:Program}{ops:Array Oper}{o:Oper}{a:Act}{w:World}{K:Act→World→Prop}{Q:Exit→Act→World→Prop}{E:Prop}(hgd:o.guard=none)(s x:Operand)(t:TypeId)
  (ho:o.op=.call {callee:=.builtin .append,args:= #[s,x],argTypes:= #[t,t]})
  (base:Nat) (e:TypeId) (z:Value) (size bytes:Nat) (ht:P.underlying t=some (.slice e)) (hinfo:(P.info? e).map (fun i=>(i.zero,i.size,i.bytes))=some (some z,size,bytes))
  (hzs:z.cells.size=size) (hsz:0<size)
  (D:Nat→Prop) (v:Value) (rows:List (List Dat)) (hs:a.eval s=v) (hacc:zq w base D e size v rows)
  (A:Option Addr) (m c:Nat) (rs:List (List Dat)) (D2:Nat→Prop) (hx:a.eval x=.slice A m c) (hr:Rd w D2 (.arr size rs) (.slice A m c)) (hD2:∀k,k<w.heap.size→D2 k→D k∧v.ownBlock≠some k)
  (hbytes:(rows.length+m)*bytes≤140737488355328) (h63:rows.length+m≤9223372036854775807) (hbase:base≤w.heap.size)
  (h:∀v' w',zq w' base D e size v' (rows++rs)→Ext (fun k=>base≤k) w w'→w.heap.size≤w'.heap.size→K (a.put o.dst v') w'):
  if Region.wanted o (yielded ops a.tmps)=true then Oper.wp P o a w K Q else E:=by
 have hw:Region.wanted o (yielded ops a.tmps)=true:=by simp[Region.wanted,hgd]
 rw[if_pos hw];refine vB w s x t ho base e z size bytes ht hinfo hzs hsz D v rows hs hacc A m c rs D2 hx hr hD2 hbytes h63 hbase (fun v' w' h1 h2 h3=>h v' w' h1 (h2.mono (fun k _ hk=>(hacc.bound k hk).1)) h2.size)
theorem qN.take{w:World}{D:Nat→Prop}{a:Option Addr}{n:Nat}{xs:List Int}(h:qN w D a n xs){m:Nat}(hm:m≤n):qN w D a m (xs.take m):=by
 obtain⟨h1,h2⟩:=h;refine⟨by simp;omega,fun h0=>?_⟩;obtain⟨b,o,rfl,hd,hc⟩:=h2 (by omega);refine⟨b,o,rfl,hd,fun i hi=>?_⟩;rw[hc i (by omega)];simp[iAt,hi]
theorem kM{ds:List zG}{sg:List yJ}{op num:Int}{tys:List Int}(h:op=9∨op=10)(hn:¬(0≤num∧num<(sg.length:Int))):zS ds sg op num tys= -1:=by
 rcases h with rfl|rfl<;>simp[zS]<;>intros<;>omega
theorem YB{ds:List zG}{sg:List yJ}{k:Nat}{tys:List Int}(hk:k<sg.length):zS ds sg 9 (k:Int) tys=if tys=(yH sg k).params then(yH sg k).result else -1:=by
 rw[zS,if_neg (by omega),if_neg (by omega),if_neg (by omega),if_neg (by omega),if_neg (by omega),if_pos rfl];by_cases h:tys=(yH sg k).params
 ·rw[if_pos ⟨by omega,by omega,by simpa using h⟩,if_pos h];rfl
 ·rw[if_neg (fun h'=>h (by simpa using h'.2.2)),if_neg h]
theorem Q7{ds:List zG}{sg:List yJ}{k:Nat}{tys:List Int}(hk:k<sg.length):zS ds sg 10 (k:Int) tys=if 0<(yH sg k).params.length∧tys=(yH sg k).params.take ((yH sg k).params.length-1)then
  xG ds (iAt (yH sg k).params ((yH sg k).params.length-1)) (yH sg k).result else -1:=by
 rw[zS,if_neg (by omega),if_neg (by omega),if_neg (by omega),if_neg (by omega),if_neg (by omega),if_neg (by omega),if_pos rfl];by_cases h:0<(yH sg k).params.length∧tys=(yH sg k).params.take ((yH sg k).params.length-1)
 ·rw[if_pos ⟨by omega,by omega,by simpa using h.1,by simpa using h.2⟩,if_pos h];rfl
 ·rw[if_neg (fun h'=>h ⟨by simpa using h'.2.2.1,by simpa using h'.2.2.2⟩),if_neg h]
section
variable (ds:List zG)(fs:List zA)
theorem YE(op num:Int)(es:List zK)(hop:op=9∨op=10)(IH0:∀j,j<es.length→TyS ds fs (eAt es j))(a0:Option Addr)(n0 c0:Nat)(a1:Option Addr)(n1 c1:Nat)(av:Option Addr)(nv cv:Nat)(vars:List Int)(a:Option Addr)(n c:Nat)(w:World)
  (hp:PR w ds fs a0 n0 c0 a1 n1 c1) (hv:Rd w (fun _=>True) (zY vars) (.slice av nv cv)) (h:Rd w (fun _=>True) (zJ es) (.slice a n c)) (hlen:vars.length+4*nEs es≤1049576) (hall:j8 ds.length vars=true) (hds:ds.length≤4) (hfs:fs.length≤4):
  Calls Tryz.prog 151 #[.agg #[.slice a0 n0 c0,.slice a1 n1 c1],.slice av nv cv,.agg #[.int .i64 op,.int .i64 num,.slice a n c]] w fun r w'=>r=.returned (.int .i64 (zS ds (fs.map zM) op num (jF ds (fs.map zM) vars es)))∧zQ w w':=by
 refine zV fun Q hQ=>?_;have K0:=(zQ.al w (.cells #[.slice a0 n0 c0,.slice a1 n1 c1] 44)).trans (zQ.al _ (.cells #[.int .i64 op,.int .i64 num,.slice a n c] 58));have R0:=(zP w #[.slice a0 n0 c0,.slice a1 n1 c1] 44).alloc (.cells #[.int .i64 op,.int .i64 num,.slice a n c] 58);have R1:=zP (w.alloc (.cells #[.slice a0 n0 c0,.slice a1 n1 c1] 44)) #[.int .i64 op,.int .i64 num,.slice a n c] 58;simp only[World.size_alloc]at R1;obtain⟨e1,hf1,hf2,hat⟩:=qZ hp.2;have HL:=LH e1;have HA:=LH hat;have hn1:n1≤4:=by omega
 have SL:=LH (show(fs.map zM).length=n1 by rw[List.length_map];exact e1);clear e1 hat;by_cases hr:0≤num∧num<(n1:Int)
 case neg=>
  have V:=LH (kM (ds:=ds) (tys:=jF ds (fs.map zM) vars es) hop (by rw[SL.out];exact hr));have hd:decide (0≤num∧num≤(n1:Int)-1)=false:=decide_eq_false (fun h=>hr (by omega));clear hr;go_in;go_wp2_with fail;refine(qQ _ _ _ _).mono ?_;rw[hd];rintro e w1 ⟨rfl,rfl⟩;go_wp2_with fail;exact zB hQ ⟨zE V.out.symm,K0⟩
 obtain⟨k,rfl⟩:∃k:Nat,num=(k:Int):=⟨num.toNat,by omega⟩;have hk:k<n1:=by omega
 have hd:decide (0≤(k:Int)∧(k:Int)≤(n1:Int)-1)=true:=decide_eq_true (by omega);have HD:=LH hd;have HS:Hid (yH (fs.map zM) k=zM (fAt fs k)):=gN fs (by have:=HL.out;omega);clear hr hd;obtain⟨b,o,rfl,_,ap,np,cp,ab,nb,cb,d0,d1,d2,d3,d4,r0,r4⟩:=HA.out k hk;generalize hF:fAt fs k=f at d1 d2 d3 r0 r4 HS;have HF:=LH hF;obtain⟨g0,g1,g2,g3,g4⟩:=K0.k5 d0 d1 d2 d3 d4;have hpl:=(zN r0).1;have HPL:=LH hpl;have K1:=K0.trans (zQ.al _ (.cells #[.slice ap np cp,.int .i64 f.result,.int .i64 f.body.op,.int .i64 f.body.num,.slice ab nb cb] 60));clear d0 d1 d2 d3 d4 hF hpl;rcases hop with rfl|rfl
 ·have V0:=LH (YB (ds:=ds) (sg:=fs.map zM) (k:=k) (tys:=jF ds (fs.map zM) vars es) (by rw[SL.out];exact hk))
  have RF:=zP ((w.alloc (.cells #[.slice a0 n0 c0,.slice (some ⟨b,o,none⟩) n1 c1] 44)).alloc (.cells #[.int .i64 9,.int .i64 (k:Int),.slice a n c] 58)) #[.slice ap np cp,.int .i64 f.result,.int .i64 f.body.op,.int .i64 f.body.num,.slice ab nb cb] 60;simp only[World.size_alloc]at RF;by_cases ht:jF ds (fs.map zM) vars es=f.params
  ·have V:=LH (show zS ds (fs.map zM) 9 (k:Int) (jF ds (fs.map zM) vars es)=f.result by rw[V0.out,if_pos (by rw[HS.out];exact ht),HS.out];rfl)
   have HT:=LH (decide_eq_true ht);clear ht;go_in;go_wp2_with fail;refine(qQ _ _ _ _).mono ?_;rw[HD.out];rintro e w1 ⟨rfl,rfl⟩;go_wp2_with fail;refine(gC ds fs es IH0 _ _ _ _ _ _ _ _ _ vars _ _ _ _ _ _ _ _ (hp.k K1) (hv.k K1) (h.k K1) (r0.k K1) hlen hall).mono ?_;rw[HT.out];rintro e w2 ⟨rfl,p2⟩;have y1:=(rwk RF p2).cell (i:=1) (by simp);simp at y1;go_wp2_with fail;exact zB hQ ⟨zE V.out.symm,K1.trans p2⟩
  ·have V:=LH (show zS ds (fs.map zM) 9 (k:Int) (jF ds (fs.map zM) vars es)= -1 by rw[V0.out,if_neg (by rw[HS.out];exact ht)])
   have HT:=LH (decide_eq_false ht);clear ht;go_in;go_wp2_with fail;refine(qQ _ _ _ _).mono ?_;rw[HD.out];rintro e w1 ⟨rfl,rfl⟩;go_wp2_with fail;refine(gC ds fs es IH0 _ _ _ _ _ _ _ _ _ vars _ _ _ _ _ _ _ _ (hp.k K1) (hv.k K1) (h.k K1) (r0.k K1) hlen hall).mono ?_;rw[HT.out];rintro e w2 ⟨rfl,p2⟩;have y1:=(rwk RF p2).cell (i:=1) (by simp);simp at y1;go_wp2_with fail;exact zB hQ ⟨zE V.out.symm,K1.trans p2⟩
 ·have V0:=LH (Q7 (ds:=ds) (sg:=fs.map zM) (k:=k) (tys:=jF ds (fs.map zM) vars es) (by rw[SL.out];exact hk))
  have RF:=zP ((w.alloc (.cells #[.slice a0 n0 c0,.slice (some ⟨b,o,none⟩) n1 c1] 44)).alloc (.cells #[.int .i64 10,.int .i64 (k:Int),.slice a n c] 58)) #[.slice ap np cp,.int .i64 f.result,.int .i64 f.body.op,.int .i64 f.body.num,.slice ab nb cb] 60;simp only[World.size_alloc]at RF;rcases Nat.eq_zero_or_pos np with h0|h0
  ·subst h0
   have V:=LH (show zS ds (fs.map zM) 10 (k:Int) (jF ds (fs.map zM) vars es)= -1 by rw[V0.out,if_neg (by rw[HS.out];intro h;have:=HPL.out;have h1:0<f.params.length:=h.1;omega)]);go_in;go_wp2_with fail;refine(qQ _ _ _ _).mono ?_;rw[HD.out];rintro e w1 ⟨rfl,rfl⟩;go_wp2_with fail;go_quiet (fail);go_wp2_with fail;exact zB hQ ⟨zE V.out.symm,by first|exact K1.drew|exact K1.drewN _⟩
  ·obtain⟨m,rfl⟩:∃m,np=m+1:=⟨np-1,by omega⟩
   have hb:(((m+1:Nat):Int)==0)=false:=by simp;omega
   have MP:Hid (f.params.length=m+1):=HPL.out;obtain⟨b2,o2,rfl,_,_⟩:=(zN r0).2.2.2 0 (by omega);have hcp:m+1≤cp:=(zN r0).2.1;have hnp:m+1≤9223372036854775807:=(zN r0).2.2.1;have x0:=(R0.alloc (.cells #[.slice (some ⟨b2,o2,none⟩) (m+1) cp,.int .i64 f.result,.int .i64 f.body.op,.int .i64 f.body.num,.slice ab nb cb] 60)).cell (i:=0) (by simp);have x1:=(R0.alloc (.cells #[.slice (some ⟨b2,o2,none⟩) (m+1) cp,.int .i64 f.result,.int .i64 f.body.op,.int .i64 f.body.num,.slice ab nb cb] 60)).cell (i:=1) (by simp);have y2:=(R1.alloc (.cells #[.slice (some ⟨b2,o2,none⟩) (m+1) cp,.int .i64 f.result,.int .i64 f.body.op,.int .i64 f.body.num,.slice ab nb cb] 60)).cell (i:=2) (by simp);have z0:=RF.cell (i:=0) (by simp);have z1:=RF.cell (i:=1) (by simp);simp at x0 x1 y2 z0 z1;have qp:=hp.k K1;have qv:=hv.k K1;have qe:=h.k K1;have qt:=(((Rd.toInts r0).take (m:=m) (by omega)).toRd (c:=cp) (by have:=(zN r0).2.1;omega) (by have:=(zN r0).2.2.1;omega)).k K1;by_cases ht:jF ds (fs.map zM) vars es=f.params.take m
   ·have V:Hid (zS ds (fs.map zM) 10 (k:Int) (jF ds (fs.map zM) vars es)=xG ds (iAt f.params m) f.result):=by
     show _=_;rw[V0.out,HS.out,if_pos ⟨by show 0<f.params.length;rw[MP.out];omega,by show _=f.params.take (f.params.length-1);rw[MP.out];exact ht⟩];show xG ds (iAt f.params (f.params.length-1)) f.result=_;rw[MP.out];rfl
    have HT:=LH (decide_eq_true ht);clear ht;go_in;go_wp2_with fail;refine(qQ _ _ _ _).mono ?_;rw[HD.out];rintro e w1 ⟨rfl,rfl⟩;go_wp2_with fail;generalize hW:((w.alloc (.cells #[.slice a0 n0 c0,.slice (some ⟨b,o,none⟩) n1 c1] 44)).alloc (.cells #[.int .i64 10,.int .i64 (k:Int),.slice a n c] 58)).alloc (.cells #[.slice (some ⟨b2,o2,none⟩) (m+1) cp,.int .i64 f.result,.int .i64 f.body.op,.int .i64 f.body.num,.slice ab nb cb] 60)=W3 at*;have qpd:=qp.k (w':=W3.drew) (kD W3);have qvd:=qv.k (w':=W3.drew) (kD W3);have qed:=qe.k (w':=W3.drew) (kD W3);have qtd:=qt.k (w':=W3.drew) (kD W3);have pc:zQ W3.drew W3.drew:=Ext.refl _ _;clear hW;have hw8:IntKind.i64.wrap (m:Int)=(m:Int):=by rw[IntWalk.i64_in _ (by omega)]
    have hw3:(m:Int)≤(cp:Int):=by omega
    have hw4:(0:Int)≤(m:Int):=by omega
    go_region_held3 (fun w'=>w'.cell? ⟨w.heap.size,0,none⟩=some (.slice a0 n0 c0)∧w'.cell? ⟨w.heap.size,1,none⟩=some (.slice (some ⟨b,o,none⟩) n1 c1)∧w'.cell? ⟨w.heap.size+1,2,none⟩=some (.slice a n c)∧w'.cell? ⟨w.heap.size+2,0,none⟩=some (.slice (some ⟨b2,o2,none⟩) (m+1) cp))
     (first|exact⟨zQ.at pc x0,zQ.at pc x1,zQ.at pc y2,zQ.at pc z0⟩|go_keep)
     ((go_at_call 147;refine(gC ds fs es IH0 _ _ _ _ _ _ _ _ _ vars _ _ _ _ _ _ _ _ (qpd.k pc) (qvd.k pc) (qed.k pc) (qtd.k pc) hlen hall).mono ?_;rw[HT.out];rintro e w2 ⟨rfl,p2⟩;replace pc:=pc.trans p2))
    have K2:=LH ((kD W3).trans pc);have KE:=LH (K1.trans K2.out);obtain⟨b3,o3,e3,_,d3⟩:=(zN r0).2.2.2 m (by omega);injection e3 with e3
    injection e3 with e3 e4
    subst e3 e4;have u0:=zQ.at pc x0;have v0:=zQ.at pc z0;have v1:=zQ.at pc z1;have v2:=KE.out.q d3;have qd:=(((Rd.toDecls hp.1).ext KE.out (fun _ _ h=>h)).ext (S:=fun _=>False) (w':=w2.drew) (kD w2) (fun _ _ h=>h));have hn0:n0≤4:=by have:=(zT hp.1).1;omega
    have hw9:(m:Int)<(m:Int)+1:=by omega
    clear qpd qvd qed qtd pc x0 x1 y2 z0 z1 d3 g0 g1 g2 g3 g4 hw3;go_wp2_with fail;go_region_held3 (fun w'=>w'.cell? ⟨w.heap.size,0,none⟩=some (.slice a0 n0 c0)∧w'.cell? ⟨w.heap.size+2,0,none⟩=some (.slice (some ⟨b2,o2,none⟩) (m+1) cp)∧w'.cell? ⟨w.heap.size+2,1,none⟩=some (.int .i64 f.result)∧w'.cell? ⟨b2,o2+m,none⟩=some (.int .i64 (iAt f.params m)))
     (first|exact⟨u0,v0,v1,v2⟩|go_keep)
     ((go_at_call 198;refine(gV _ _ _ ds _ _ _ _ qd (by omega)).mono ?_;rintro e w3 ⟨rfl,rfl⟩))
    go_wp2_with fail;exact zB hQ ⟨zE V.out.symm,KE.out.drew⟩
   ·have V:Hid (zS ds (fs.map zM) 10 (k:Int) (jF ds (fs.map zM) vars es)= -1):=by
     show _=_;rw[V0.out,HS.out,if_neg (fun h=>ht (by have h1:_=f.params.take (f.params.length-1):=h.2;rw[MP.out]at h1;exact h1))]
    have HT:=LH (decide_eq_false ht);clear ht;go_in;go_wp2_with fail;refine(qQ _ _ _ _).mono ?_;rw[HD.out];rintro e w1 ⟨rfl,rfl⟩;go_wp2_with fail;generalize hW:((w.alloc (.cells #[.slice a0 n0 c0,.slice (some ⟨b,o,none⟩) n1 c1] 44)).alloc (.cells #[.int .i64 10,.int .i64 (k:Int),.slice a n c] 58)).alloc (.cells #[.slice (some ⟨b2,o2,none⟩) (m+1) cp,.int .i64 f.result,.int .i64 f.body.op,.int .i64 f.body.num,.slice ab nb cb] 60)=W3 at*;have qpd:=qp.k (w':=W3.drew) (kD W3);have qvd:=qv.k (w':=W3.drew) (kD W3);have qed:=qe.k (w':=W3.drew) (kD W3);have qtd:=qt.k (w':=W3.drew) (kD W3);have pc:zQ W3.drew W3.drew:=Ext.refl _ _;clear hW;have hw8:IntKind.i64.wrap (m:Int)=(m:Int):=by rw[IntWalk.i64_in _ (by omega)]
    have hw3:(m:Int)≤(cp:Int):=by omega
    have hw4:(0:Int)≤(m:Int):=by omega
    go_region_held3 (fun w'=>w'.cell? ⟨w.heap.size,0,none⟩=some (.slice a0 n0 c0)∧w'.cell? ⟨w.heap.size,1,none⟩=some (.slice (some ⟨b,o,none⟩) n1 c1)∧w'.cell? ⟨w.heap.size+1,2,none⟩=some (.slice a n c)∧w'.cell? ⟨w.heap.size+2,0,none⟩=some (.slice (some ⟨b2,o2,none⟩) (m+1) cp))
     (first|exact⟨zQ.at pc x0,zQ.at pc x1,zQ.at pc y2,zQ.at pc z0⟩|go_keep)
     ((go_at_call 147;refine(gC ds fs es IH0 _ _ _ _ _ _ _ _ _ vars _ _ _ _ _ _ _ _ (qpd.k pc) (qvd.k pc) (qed.k pc) (qtd.k pc) hlen hall).mono ?_;rw[HT.out];rintro e w2 ⟨rfl,p2⟩;replace pc:=pc.trans p2))
    have KE:=LH (K1.trans ((kD W3).trans pc));go_wp2_with fail;exact zB hQ ⟨zE V.out.symm,KE.out⟩
end
theorem WH(A:Option Addr)(m c:Nat)(ys:List Int)(D:Nat→Prop)(w:World)(h:qN w D A m ys)(hm:m≤2097152):
  Calls Tryz.prog 102 #[.slice A m c] w fun e w'=>∃v,e=.returned v∧w'.ownsRow w.heap.size 3 1 v m (ys.map (Value.int .i64))∧zQ w w':=by
 refine zV fun Q hQ=>?_;have HO:=LH (gE w);have hK:zQ w (w.alloc (.cells #[] 3)):=(Ext.refl _ w).alloc _;have h1:=h.ext hK (fun _ _ h=>h);go_in;go_wp2_with (at_builtin;refine xY _ rfl (.tmp 3) (.tmp 4) rfl w.heap.size (.slice (some ⟨w.heap.size,0,none⟩) 0 0) 0 [] rfl HO.out A m c ys D rfl h1 (by omega) (by simp) ?_;intro v' w' ho hg);have hk:zQ w w':=hK.grown hg (fun g hg'=>.inl (HO.out.lt g hg').1);obtain⟨a2,cc,rfl,hle,hoi⟩:=jV ho;exact zB hQ ⟨_,rfl,by simpa using ho,hk⟩
theorem yw(A:Option Addr)(m c:Nat)(ys:List Int)(D:Nat→Prop)(B:Option Addr)(k d:Nat)(zs:List Int)(E:Nat→Prop)(w:World)(h:qN w D A m ys)(hm:m≤2097152)(h2:qN w E B k zs)(hk:k≤2097152):
  Calls Tryz.prog 149 #[.slice A m c,.slice B k d] w fun e w'=>∃a' n' c',e=.returned (.slice a' n' c')∧n'≤c'∧jB w' (fun q=>w.heap.size≤q) a' n' (ys++zs)∧zQ w w':=by
 refine zV fun Q hQ=>?_;have H2:=LH h2;clear h2;go_in;go_wp2_with fail;refine(WH _ _ _ _ _ _ h hm).mono ?_;rintro e w1 ⟨v,rfl,o1,p1⟩;obtain⟨a1,c1,rfl,hc1,_⟩:=jV o1;have O1:=LH o1;have h3:=LH (H2.out.ext p1 (fun _ _ h=>h));clear o1;have hz:=p1.size;go_wp2_with (at_builtin;refine xY _ rfl (.tmp 6) (.tmp 7) rfl w.heap.size (.slice a1 m c1) m ys rfl O1.out B k d zs E rfl h3.out (by omega) hz ?_;intro v' w' ho hg);obtain⟨a2,cc,rfl,hle,hoi⟩:=jV ho;exact zB hQ ⟨a2,_,cc,rfl,hle,hoi,p1.grown hg (fun g hg'=>.inl (O1.out.lt g hg').1)⟩
end Go.Proofs.YtkapldpmjkdmcaaGreat
