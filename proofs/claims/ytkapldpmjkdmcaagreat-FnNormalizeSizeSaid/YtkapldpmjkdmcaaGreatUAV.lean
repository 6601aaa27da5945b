/- validSigs of the program. -/
import Derived.Test.YtkapldpmjkdmcaaGreatUAC
import Derived.Test.YtkapldpmjkdmcaaGreatUAT
import Derived.Test.YtkapldpmjkdmcaaGreatUAE
import Derived.Test.YtkapldpmjkdmcaaGreatUAU
import Derived.StillTailTactics
namespace Go.Proofs.YtkapldpmjkdmcaaGreat
open Go.RowKit
set_option maxRecDepth 100000
set_option maxHeartbeats 4000000
theorem Wv{s:yJ}{k:Nat}(h:iAt s.lent k<0):uw s k=false:=by
 have e:decide (0≤iAt s.lent k)=false:=decide_eq_false (by omega);simp only[uw,e,Bool.false_and]
theorem DZ{s:yJ}{k:Nat}(h:(s.params.length:Int)≤iAt s.lent k):uw s k=false:=by
 have e:decide (iAt s.lent k<(s.params.length:Int))=false:=decide_eq_false (by omega);simp only[uw,e,Bool.false_and,Bool.and_false]
theorem BH{s:yJ}{k v:Nat}(hv:iAt s.lent k=(v:Int))(h:iAt s.params v=0):uw s k=false:=by
 have e:decide (iAt s.params (iAt s.lent k).toNat≠0)=false:=decide_eq_false (by rw[hv,Int.toNat_natCast];simpa using h);simp only[uw,e,Bool.false_and,Bool.and_false]
theorem GT{s:yJ}{k:Nat}(hk:0<k)(h:iAt s.lent k≤iAt s.lent (k-1)):uw s k=false:=by
 have e:(decide (k=0) ||decide (iAt s.lent (k-1)<iAt s.lent k))=false:=by simp;omega
 simp only[uw,e,Bool.and_false]
theorem U5{s:yJ}{k v:Nat}(hv:iAt s.lent k=(v:Int))(h1:v<s.params.length)(h2:iAt s.params v≠0)(h3:k=0∨iAt s.lent (k-1)<iAt s.lent k):uw s k=true:=by
 have e:(decide (k=0) ||decide (iAt s.lent (k-1)<iAt s.lent k))=true:=by simpa using h3
 have e1:decide (0≤iAt s.lent k)=true:=decide_eq_true (by omega);have e2:decide (iAt s.lent k<(s.params.length:Int))=true:=decide_eq_true (by omega);have e3:decide (iAt s.params (iAt s.lent k).toNat≠0)=true:=decide_eq_true (by rw[hv,Int.toNat_natCast];exact h2);simp only[uw,e,e1,e2,e3,Bool.and_self]
theorem UC(ds:List zG)(sg:List yJ)(a0:Option Addr)(n0 c0:Nat)(a1:Option Addr)(n1 c1:Nat)(D0 D1:Nat→Prop)(w:World)(r0:Rd w D0 (z5 ds) (.slice a0 n0 c0))(r1:Rd w D1 (Y4 sg) (.slice a1 n1 c1)):
  Calls Tryz.prog 114 #[.slice a0 n0 c0,.slice a1 n1 c1] w fun e w'=>e=.returned (.bool (qJ ds sg))∧zQ w w':=by
 refine zV fun Q hQ=>?_;have hd0:=LH (r0.toDecls.1);have hnc0:=(zT r0).2.1;obtain⟨e1,hnc,hm,hat⟩:=G3 r1;have HL:=LH e1;have HA:=LH hat;clear e1 hat;cases v1:qU ds
 ·have V:=LH (Y6 (sg:=sg) v1)
  have V1:=LH v1;clear v1;go_in;go_wp2_with fail;refine(yB _ _ _ _ _ _ r0.toDecls hnc0).mono ?_;rw[V1.out];rintro e w1 ⟨rfl,p1⟩;go_wp2_with fail;exact zB hQ ⟨qK V.out.symm,p1⟩
 have V1:=LH v1;clear v1;by_cases hl1:1≤n1
 case neg=>
  have V:=LH (ZH (ds:=ds) (sg:=sg) (by have:=HL.out;omega));go_in;go_wp2_with fail;refine(yB _ _ _ _ _ _ r0.toDecls hnc0).mono ?_;rw[V1.out];rintro e w1 ⟨rfl,p1⟩;go_wp2_with fail;exact zB hQ ⟨qK V.out.symm,p1⟩
 by_cases hl4:n1≤4
 case neg=>
  have V:=LH (ZH (ds:=ds) (sg:=sg) (by have:=HL.out;omega));go_in;go_wp2_with fail;refine(yB _ _ _ _ _ _ r0.toDecls hnc0).mono ?_;rw[V1.out];rintro e w1 ⟨rfl,p1⟩;go_wp2_with fail;exact zB hQ ⟨qK V.out.symm,p1⟩
 obtain⟨b,o,rfl,hd,a3,n3,c3,a4,n4,c4,d0,d1,d2,r3,r4⟩:=HA.out 0 (by omega);rw[Nat.zero_mul,Nat.add_zero]at d0 d1 d2;have hP0:=LH r3.toInts.1;clear r3 r4 d1;by_cases h0:n3=0
 case neg=>
  have V:=LH (gW (ds:=ds) (sg:=sg) (fun h=>h0 (by have:=h.1;have:=hP0.out;omega)));go_in;go_wp2_with fail;refine(yB _ _ _ _ _ _ r0.toDecls hnc0).mono ?_;rw[V1.out];rintro e w1 ⟨rfl,p1⟩;obtain⟨g0,g2⟩:=p1.k2 d0 d2;go_wp2_with fail;exact zB hQ ⟨qK V.out.symm,p1⟩
 by_cases h5:(yH sg 0).result=0
 case neg=>
  have V:=LH (gW (ds:=ds) (sg:=sg) (fun h=>h5 h.2));have h5':((yH sg 0).result !=0)=true:=by simpa using h5
  subst h0;go_in;go_wp2_with fail;refine(yB _ _ _ _ _ _ r0.toDecls hnc0).mono ?_;rw[V1.out];rintro e w1 ⟨rfl,p1⟩;obtain⟨g0,g2⟩:=p1.k2 d0 d2;go_wp2_with fail;exact zB hQ ⟨qK V.out.symm,p1⟩
 have V5:=LH h5;subst h0;rw[h5]at d2;clear h5;go_in;go_wp2_with fail;refine(yB _ _ _ _ _ _ r0.toDecls hnc0).mono ?_;rw[V1.out];rintro e w1 ⟨rfl,p1⟩;obtain⟨g0,g2⟩:=p1.k2 d0 d2;go_wp2_with fail;clear g0 g2 d0 d2;go_loopw [39] (fun iv wr=>∃j:Nat,j≤n1∧iv=.int .i64 j∧Hid (∀l,l<j→uJ n0 (yH sg l)=true)∧zQ w wr) (fun i _=>n1-(intOf i).toNat)
 case atStart=>exact⟨0,Nat.zero_le _,rfl,fun j hj=>absurd hj (by omega),p1⟩
 case round=>
  obtain⟨wo,rfl⟩:∃wo:World,wo=wr:=⟨_,rfl⟩;obtain⟨j,hj,rfl,H,hK⟩:=hrel;by_cases hlt:j<n1
  ·obtain⟨_,_,e,hd,a3,n3,c3,a4,n4,c4,d0,d1,d2,r3,r4⟩:=HA.out j hlt
   injection e with e
   injection e with e1 e2
   subst e1;subst e2;obtain⟨g0,g1,g2⟩:=hK.k3 d0 d1 d2;have hP:=LH r3.toInts.1;have ka:=zQ.al wo (.cells #[.slice a3 n3 c3,.slice a4 n4 c4,.int .i64 (yH sg j).result] 164);have q3:=LH (((r3.k hK).k ka));have q4:=LH (((r4.k hK).k ka));have hKa:=LH (hK.trans ka);have hj':=LH (show j<sg.length by have:=HL.out;omega);clear d0 d1 d2 r3 r4 ka;by_cases h3:n3≤3
   case neg=>
    have V:=LH (xq (ds:=ds) hd0.out hj'.out (VM (n:=n0) (by have:=hP.out;omega)));go_wp2_with fail;exact zB hQ ⟨qK V.out.symm,hKa.out⟩
   cases v3:j8 n0 (yH sg j).params
   ·have V:=LH (xq (ds:=ds) hd0.out hj'.out (Yv v3))
    have V3:=LH v3;clear v3;go_wp2_with fail;refine(xR _ _ _ _ _ _ _ _ _ q3.out.toInts (by omega)).mono ?_;rw[V3.out];rintro e w2 ⟨rfl,rfl⟩;go_wp2_with fail;exact zB hQ ⟨qK V.out.symm,hKa.out⟩
   have V3:=LH v3;clear v3;cases v4:isT n0 (yH sg j).result
   ·have V:=LH (xq (ds:=ds) hd0.out hj'.out (YD v4))
    have V4:=LH v4;clear v4;go_wp2_with fail;refine(xR _ _ _ _ _ _ _ _ _ q3.out.toInts (by omega)).mono ?_;rw[V3.out];rintro e w2 ⟨rfl,rfl⟩;go_wp2_with fail;refine(vP _ _ _ _ _ V4.out).mono ?_;rintro e w2 ⟨rfl,rfl⟩;go_wp2_with fail;exact zB hQ ⟨qK V.out.symm,hKa.out⟩
   have V4:=LH v4;clear v4;go_wp2_with fail;refine(xR _ _ _ _ _ _ _ _ _ q3.out.toInts (by omega)).mono ?_;rw[V3.out];rintro e w2 ⟨rfl,rfl⟩;go_wp2_with fail;refine(yQ _ _ _ _ _ V4.out).mono ?_;rintro e w2 ⟨rfl,rfl⟩;go_wp2_with fail;clear g0 g1 g2;obtain⟨eP,_,_,hatP⟩:=zN q3.out;obtain⟨eL,_,hmL,hatL⟩:=zN q4.out;have HP:=LH hatP;have HLn:=LH hatL;have EL:=LH eL;clear eP eL hatP hatL;go_loopw [64] (fun iv wr=>∃k:Nat,k≤n4∧iv=.int .i64 k∧Hid (∀l,l<k→uw (yH sg j) l=true)∧zQ (wo.alloc (.cells #[.slice a3 n3 c3,.slice a4 n4 c4,.int .i64 (yH sg j).result] 164)) wr) (fun i _=>n4-(intOf i).toNat)
   case atStart=>exact⟨0,Nat.zero_le _,rfl,fun j hj=>absurd hj (by omega),Ext.refl _ _⟩
   case round=>
    obtain⟨wi,rfl⟩:∃wi:World,wi=wr:=⟨_,rfl⟩;obtain⟨k,hk,rfl,H2,hK2⟩:=hrel;have y0:=xQ hK2 0;have y1:=xQ hK2 1;simp only[List.getElem?_toArray,List.getElem?_cons_zero,List.getElem?_cons_succ]at y0 y1;by_cases hltk:k<n4
    ·obtain⟨b4,o4,rfl,_,f0⟩:=HLn.out k hltk
     have t0:=hK2.q f0;clear f0;have hk':=LH (show k<(yH sg j).lent.length by have:=EL.out;omega);by_cases c1:iAt (yH sg j).lent k<0
     ·have V:=LH (xq (ds:=ds) hd0.out hj'.out (ZN hk'.out (Wv c1)))
      go_wp2_with fail;exact zB hQ ⟨qK V.out.symm,hKa.out.trans hK2⟩
     by_cases c2:(n3:Int)≤iAt (yH sg j).lent k
     ·have V:=LH (xq (ds:=ds) hd0.out hj'.out (ZN hk'.out (DZ (by have:=hP.out;omega))))
      go_wp2_with fail;exact zB hQ ⟨qK V.out.symm,hKa.out.trans hK2⟩
     obtain⟨v,hv⟩:∃v:Nat,iAt (yH sg j).lent k=(v:Int):=⟨(iAt (yH sg j).lent k).toNat,by omega⟩;rw[hv]at t0 c1 c2;have hv3:v<n3:=by omega
     have HV:=LH hv;obtain⟨b3,o3,rfl,_,f3⟩:=HP.out v hv3;have t3:=hK2.q f3;clear f3 c1 c2 hv;by_cases c3:iAt (yH sg j).params v=0
     ·have V:=LH (xq (ds:=ds) hd0.out hj'.out (ZN hk'.out (BH HV.out c3)))
      rw[c3]at t3;clear c3;go_wp2_with fail;exact zB hQ ⟨qK V.out.symm,hKa.out.trans hK2⟩
     have c3':(iAt (yH sg j).params v==0)=false:=by simpa using c3
     by_cases c4:k=0
     ·have V:=LH (U5 HV.out (by have:=hP.out;omega) c3 (.inl c4))
      have HK0:=LH c4;have c4':¬(0:Int)<(k:Int):=by omega
      clear c3 c4;go_wp2_with fail;go_roundw
      case rel=>exact⟨k+1,by omega,by go_num,fun l hl=>by
       obtain rfl:l=k:=by have:=HK0.out;omega
       exact V.out,hK2⟩
      case measure=>simp[intOf];omega
     obtain⟨k,rfl⟩:∃m,k=m+1:=⟨k-1,by omega⟩;obtain⟨_,_,e,_,f5⟩:=HLn.out k (by omega);injection e with e
     injection e with e1 e2
     subst e1;subst e2;have t5:=hK2.q f5;clear f5 c4;have wr1:IntKind.i64.wrap (((k+1:Nat):Int)-1)=(k:Int):=by
      have:((k+1:Nat):Int)-1=(k:Int):=by omega
      rw[this];exact IntWalk.i64_in _ (by omega)
     have wr2:IntKind.i64.wrap ((k:Int)+1-1)=(k:Int):=by rw[show(k:Int)+1-1=(k:Int)by omega];exact IntWalk.i64_in _ (by omega)
     by_cases c5:(v:Int)≤iAt (yH sg j).lent k
     ·have V:=LH (xq (ds:=ds) hd0.out hj'.out (ZN hk'.out (GT (Nat.succ_pos k) (by rw[HV.out];exact c5))))
      clear c3;go_wp2_with fail;exact zB hQ ⟨qK V.out.symm,hKa.out.trans hK2⟩
     ·have V:=LH (U5 HV.out (by have:=hP.out;omega) c3 (.inr (by rw[HV.out];show iAt _ k<_;omega)))
      clear c3;go_wp2_with fail;go_roundw
      case rel=>exact⟨k+1+1,by omega,by go_num,fun l hl=>by
       rcases Nat.lt_succ_iff_lt_or_eq.1 hl with h|rfl
       ·exact H2.out l h
       ·exact V.out,hK2⟩
      case measure=>simp[intOf];omega
    ·have V:=LH (VS (n:=n0) (s:=yH sg j) (by have:=hP.out;omega) V3.out V4.out (fun l hl=>H2.out l (by have:=EL.out;omega)))
     go_wp2_with fail;go_roundw
     case rel=>exact⟨j+1,by omega,by go_num,fun l hl=>by
      rcases Nat.lt_succ_iff_lt_or_eq.1 hl with h|rfl
      ·exact H.out l h
      ·exact V.out,(hK.trans (zQ.al _ _)).trans hK2⟩
     case measure=>simp[intOf];omega
  ·have V:=LH (UV (n:=n0) hd0.out V1.out (by have:=HL.out;omega) (by have:=HL.out;omega) hP0.out V5.out (fun i hi=>H.out i (by have:=HL.out;omega)))
   go_wp2_with fail;exact zB hQ ⟨qK V.out.symm,hK⟩
theorem YF{P:Program}(w:World){ops:Array Oper}{rest:List Oper}{o:Oper}{a:Act}{Q:Exit→Act→World→Prop}
  (hg:o.guard=none) (l c:Operand) (t:TypeId) (hop:o.op=Op.makeSlice t l c)
  (base:Nat) (e:TypeId) (z:Value) (size bytes:Nat) (h1:P.underlying t=some (.slice e)) (hinfo:(P.info? e).map (fun i=>(i.zero,i.size,i.bytes))=some (some z,size,bytes))
  (C:Int) (n:Nat) (hl:a.eval l=.int .i64 0) (hc:a.eval c=.int .i64 C) (hC:C=(n:Int)) (b2:bytes*n≤281474976710656) (b3:n≤maxLen) (b4:base≤w.heap.size) (D:Nat→Prop)
  (hK:∀w',zq w' base D e size (.slice (some ⟨w.heap.size,0,none⟩) 0 n) []→zQ w w'→wpList P ops Q rest (a.put o.dst (.slice (some ⟨w.heap.size,0,none⟩) 0 n)) w'):
  wpList P ops Q (o::rest) a w:=by
 obtain⟨i,hi,hz0,hz1,hz2⟩:=info_parts hinfo;exact wpList_make_own w hg l c t hop base e i z size h1 hi hz0 hz1 .i64 .i64 C n hl hc hC (by rw[hz2];exact b2) b3 b4 (fun w' h g=>hK w' ⟨[],h,by simp,by simp⟩ (Ext.grown (Ext.refl _ _) g (fun k hk=>by cases hk)))
theorem DG(w:World)(D:Nat→Prop)(T:TypeId)(s:yJ)(a:Option Addr)(n c:Nat)(a':Option Addr)(n' c':Nat)(hB:D w.heap.size)(h:Rd w D (zY s.params) (.slice a n c))(h':Rd w D (zY s.lent) (.slice a' n' c')):
  Rd (w.alloc (.cells #[.slice a n c,.slice a' n' c',.int .i64 s.result] T)) D (Y4 [s]) (.slice (some ⟨w.heap.size,0,none⟩) 1 1):=by
 refine Rd.litD w D T 3 _ ([s].map Vk) 1 hB (by simp) (by omega) (by omega) (by simp) (fun i hi=>by rw[WK [s] i (by simpa using hi)];rfl) (fun i j hi hj=>?_);obtain rfl:i=0:=by simpa using hi
 rcases(show j=0∨j=1∨j=2 by omega)with rfl|rfl|rfl
 ·exact⟨_,rfl,h⟩
 ·exact⟨_,rfl,h'⟩
 ·exact⟨_,rfl,.num s.result⟩
theorem xk(ds:List zG)(fs:List zA)(a0:Option Addr)(n0 c0:Nat)(a1:Option Addr)(n1 c1:Nat)(D0 D1:Nat→Prop)(w:World)(r0:Rd w D0 (z5 ds) (.slice a0 n0 c0))(r1:Rd w D1 (qW fs) (.slice a1 n1 c1)):
  Calls Tryz.prog 62 #[.agg #[.slice a0 n0 c0,.slice a1 n1 c1]] w fun e w'=>e=.returned (.bool (qJ ds (fs.map zM)))∧zQ w w':=by
 refine zV fun Q hQ=>?_;have K0:=zQ.al w (.cells #[.slice a0 n0 c0,.slice a1 n1 c1] 44);obtain⟨e1,hnc,hm,hat⟩:=qZ r1;have HL:=LH e1;have HA:=LH hat;have HLM:=LH (show(fs.map zM).length=n1 by simp[e1]);clear e1 hat;by_cases hl4:n1≤4
 case neg=>
  have V:=LH (ZH (ds:=ds) (sg:=fs.map zM) (by have:=HLM.out;omega));go_in;go_wp2_with (at_make;refine YF _ rfl _ _ 128 rfl (w.heap.size+1) 164 (.agg #[.slice none 0 0,.slice none 0 0,.int .i64 0]) 3 56 Tryz.underlying128 (by kernel_rfl) 4 4 rfl rfl rfl (by omega) (by simp[maxLen]) (by simp) (fun k=>k≠w.heap.size) ?_;intro w1 hA hk1;have x1:=xQ hk1 1;simp at x1);exact zB hQ ⟨qK V.out.symm,K0.trans hk1⟩
 have ER:Hid (∀j,j<n1→(fs.map zM).take (j+1)=(fs.map zM).take j++ [zM (fAt fs j)]):=fun j hj=>by
  have hj':j<(fs.map zM).length:=by have:=HLM.out;omega
  rw[List.take_succ_eq_append_getElem hj',←YM hj',gN _ (by simpa using hj')]
 go_in;go_wp2_with (at_make;refine YF _ rfl _ _ 128 rfl (w.heap.size+1) 164 (.agg #[.slice none 0 0,.slice none 0 0,.int .i64 0]) 3 56 Tryz.underlying128 (by kernel_rfl) 4 4 rfl rfl rfl (by omega) (by simp[maxLen]) (by simp) (fun k=>k≠w.heap.size) ?_;intro w1 hA hk1;have x1:=xQ hk1 1;simp at x1);clear x1;go_loopw [3,14] (fun sv iv wr=>∃j:Nat,j≤n1∧iv=.int .i64 j∧zq wr (w.heap.size+1) (fun k=>k≠w.heap.size) 164 3 sv (((fs.map zM).take j).map Vk)∧zQ (w.alloc (.cells #[.slice a0 n0 c0,.slice a1 n1 c1] 44)) wr) (fun _ i _=>n1-(intOf i).toNat)
 case atStart=>exact⟨0,Nat.zero_le _,rfl,by simpa using hA,hk1⟩
 case round=>
  obtain⟨j,hj,rfl,hB,hK⟩:=hrel;have hs:=hK.size;simp at hs;by_cases hlt:j<n1
  ·obtain⟨b,o,rfl,hd,a3,n3,c3,a4,n4,c4,d0,d1,d2,d3,d4,r3,r4⟩:=HA.out j hlt
   have hKw:=K0.trans hK;obtain⟨g0,g1,g2,g3,g4⟩:=hKw.k5 d0 d1 d2 d3 d4;have ka:=zQ.al wr (.cells #[.slice a3 n3 c3,.int .i64 (fAt fs j).result,.int .i64 (fAt fs j).body.op,.int .i64 (fAt fs j).body.num,.slice a4 n4 c4] 60);have bnd:=hB.bound;have q3:=((r3.lt.k hKw).k ka).mono (D':=fun k=>k≠w.heap.size∧u3.ownBlock≠some k) (fun k hk=>⟨by omega,fun e=>by have:=bnd k e;omega⟩);have kl:=zQ.al (wr.alloc (.cells #[.slice a3 n3 c3,.int .i64 (fAt fs j).result,.int .i64 (fAt fs j).body.op,.int .i64 (fAt fs j).body.num,.slice a4 n4 c4] 60)) (.cells #[.slice a3 n3 c3,.slice none 0 0,.int .i64 (fAt fs j).result] 164);have hX:=DG (wr.alloc (.cells #[.slice a3 n3 c3,.int .i64 (fAt fs j).result,.int .i64 (fAt fs j).body.op,.int .i64 (fAt fs j).body.num,.slice a4 n4 c4] 60)) (fun k=>k≠w.heap.size∧u3.ownBlock≠some k) 164 (zM (fAt fs j)) a3 n3 c3 none 0 0 ⟨by simp;omega,fun e=>by have:=bnd _ e;simp at this;omega⟩ q3 (.nil 1 none 0);simp only[World.size_alloc,zM]at hX;have hO2:=(hB.keep ka).keep kl;have hlr:(((fs.map zM).take j).map Vk).length=j:=by
    rw[List.length_map,List.length_take,HLM.out];omega
   have HLR:=LH hlr;have hBB:=LH (hK.trans (ka.trans kl));clear d0 d1 d2 d3 d4 r3 r4 bnd q3 hlr hKw ka kl hB;go_wp2_with (at_builtin;go_must (refine yz _ rfl (.tmp 18) (.tmp 24) 128 rfl (w.heap.size+1) 164 (.agg #[.slice none 0 0,.slice none 0 0,.int .i64 0]) 3 56 Tryz.underlying128 (by kernel_rfl) rfl (by omega) (fun k=>k≠w.heap.size) _ _ rfl hO2 _ 1 1 _ _ rfl hX (fun k _ hk=>hk) (by rw[HLR.out];omega) (by rw[HLR.out];omega) (by simp;omega) ?_);intro v1 w10 hA2 xA sA);go_roundw
   case rel=>exact⟨j+1,by omega,by go_num,by rw[ER.out j hlt,List.map_append];exact hA2,hBB.out.then_ xA (fun q hq h=>by simp at hq;omega)⟩
   case measure=>simp[intOf];omega
  ·have HJ:=LH (show j=n1 by omega)
   have x0:=xQ hK 0;simp at x0;rw[List.take_of_length_le (by have:=HLM.out;have:=HJ.out;omega)]at hB;obtain⟨a',c',e,_,_,rd⟩:=hB.read (by omega);rw[List.length_map,HLM.out]at e;subst e;go_wp2_with fail;refine(UC ds (fs.map zM) a0 n0 c0 a' n1 c' _ _ wr (r0.k (K0.trans hK)) rd).mono ?_;rintro e w2 ⟨rfl,p2⟩;go_wp2_with fail;exact zB hQ ⟨rfl,(K0.trans hK).trans p2⟩
theorem ZJ(w:World){ops:Array Oper}{rest:List Oper}{o:Oper}{a:Act}{Q:Exit→Act→World→Prop}(hgd:o.guard=none)(s x:Operand)
  (ho:o.op=.call {callee:=.builtin .append,args:= #[s,x],argTypes:= #[52,52]})
  (base:Nat) (v:Value) (xs:List Int) (hs:a.eval s=v) (hown:VR w base v xs) (g c:Nat) (y:Int) (hx:a.eval x=.slice (some ⟨g,0,none⟩) 1 c) (hc:w.cell? ⟨g,0,none⟩=some (.int .i64 y)) (hn:xs.length≤4000000) (hbase:base≤w.heap.size)
  (h:∀v' w',DJ w base v xs y v' w'→wpList Tryz.prog ops Q rest (a.put o.dst v') w'):wpList Tryz.prog ops Q (o::rest) a w:=by
 refine wpList_plain hgd fun K hK=>?_;obtain⟨v',w',hrun,h1⟩:=KJ w o.type base v xs hown g c y hc hn hbase;unfold Oper.wp execOp;simp only[ho,resolve,invoke,builtin,Sem.run_bind,Sem.run_pure,Result.andThen_ok,List.map_toArray,List.map_cons,List.map_nil,hs,hx,hrun];exact hK _ _ (h v' w' h1)
theorem VR.made(w:World):VR (w.alloc (.cells #[] 3)) w.heap.size (.slice (some ⟨w.heap.size,0,none⟩) 0 0) []:=World.ownsRow_made w #[] 0 (Nat.le_refl _) (by simp[maxLen]) rfl
theorem xx(a b:List qE):zk (a++b)=zk a++zk b:=by simp[qx]
def j7(D1:Nat→Prop)(w:World)(k:Nat):Prop:=(D1 k∧k<w.heap.size)∨k=w.heap.size∨k=w.heap.size+1
theorem z7{w w':World}{q:Nat}{D D' E:Nat→Prop}{v v' u:Value}{p:Addr}(hx:qM w w' q D D' v v')(hE:∀k,E k→k≠q∧v.ownBlock≠some k)(h:w.cell? p=some u)(hp:E p.block):w'.cell? p=some u:=
 hx.cell h (hE _ hp).1 (hE _ hp).2
theorem ZD{w wa w':World}{q:Nat}{D D' D1:Nat→Prop}{v v':Value}(hE:∀k,j7 D1 w k→k≠q∧v.ownBlock≠some k)(hs:w.heap.size+2≤wa.heap.size)(hx:qM wa w' q D D' v v'):∀k,j7 D1 w k→k≠q∧v'.ownBlock≠some k:=
 V9 hE (fun k hk=>by rcases hk with hk|rfl|rfl<;>omega) hx
def LwS(ds:List zG)(sg:List yJ)(e:zK):Prop:=∀(vars env:List Int) (n:Nat) (N:Int) (q base:Nat) (D D1:Nat→Prop) (v:Value) (rows:List (List Dat)) (a0:Option Addr) (n0 c0:Nat) (a1:Option Addr) (n1 c1:Nat) (av:Option Addr) (nv cv:Nat) (a:Option Addr) (m c:Nat) (w:World),
 qL w base q 196 #[v,.int .i64 N] D v rows→N=(n:Int)→Rd w D1 (z5 ds) (.slice a0 n0 c0)→Rd w D1 (zY env) (.slice av nv cv)→Rd w D1 (zJ e.kids) (.slice a m c)→
 (∀k,D1 k→k≠q∧v.ownBlock≠some k)→0≤tyE ds sg vars e→vars.length=env.length→env.length+4*nE e≤4000→n+4*nE e≤4000→rows.length+nE e≤4000→
 Calls Tryz.prog 153 #[.pointer (some ⟨q,0,none⟩),.agg #[.slice a0 n0 c0,.slice a1 n1 c1],.agg #[.int .i64 e.op,.int .i64 e.num,.slice a m c],.slice av nv cv] w fun r w'=>
  ∃v' D',r=.returned (.int .i64 (qG ds e env n).2)∧qL w' base q 196 #[v',.int .i64 ((n+(qG ds e env n).1.length:Nat):Int)] D' v' (rows++zk (qG ds e env n).1)∧qM w w' q D D' v v'
theorem uL(n m:Nat)(N M:Int)(hN:N=(n:Int))(hM:M=(m:Int))(w:World)(hn:n≤100000)(hm:m≤100000):
  Calls Tryz.prog 101 #[.int .i64 N,.int .i64 M] w fun e w'=>∃v',e=.returned v'∧VR w' w.heap.size v' (qj n m)∧zQ w w':=by
 refine zV fun Q hQ=>?_;subst hM;have hN0:0≤N:=by omega
 have hN1:N≤100000:=by omega
 have HN:=LH hN;have A0:=VR.made w;clear hN;go_in;go_wp2;go_loopw [5,6] (fun ov iv wr=>∃j:Nat,j≤m∧iv=.int .i64 j∧VR wr w.heap.size ov (qj n j)∧zQ w wr) (fun _ i _=>m-(intOf i).toNat)
 case atStart=>exact⟨0,Nat.zero_le _,rfl,A0,zQ.al _ _⟩
 case round=>
  obtain⟨j,hj,rfl,hB,hK⟩:=hrel;by_cases hlt:j<m
  ·have hs:=hK.size
   have KA:=zQ.al wr (.cells #[.int .i64 (N+(j:Int))] 3);have hl:=yT n j;have B1:=LH (hB.k KA);have bl:=LH hB.lt;have hc0:(wr.alloc (.cells #[.int .i64 (N+(j:Int))] 3)).cell? ⟨wr.heap.size,0,none⟩=some (.int .i64 (N+(j:Int))):=by simp
   have K1:=LH (hK.trans KA);clear hB;go_wp2_with (at_builtin;go_must (refine ZJ _ rfl (.tmp 13) (.tmp 17) rfl w.heap.size _ (qj n j) rfl B1.out wr.heap.size 1 (N+(j:Int)) rfl hc0 (by omega) (by simp;omega) ?_);intro v1 w1 hV);have HV:=LH hV;clear hV;go_roundw
   case rel=>exact⟨j+1,by omega,by go_num,by
    rw[XP,show((n+j:Nat):Int)=N+(j:Int)by have:=HN.out;omega]
    exact HV.out.row,K1.out.then_ HV.out.ext (fun k hk e=>by have:=bl.out k e;omega)⟩
   case measure=>simp[intOf];omega
  ·have HJ:=LH (show j=m by omega)
   go_wp2;exact zB hQ ⟨_,rfl,by rw[HJ.out]at hB;exact hB,hK⟩
section
variable (ds:List zG)(sg:List yJ)(hok:qJ ds sg=true)
theorem WQ(num:Int)(ks:List zK):LwS ds sg (.mk 12 num ks):=by
 intro vars env n N q base D D1 v rows a0 n0 c0 a1 n1 c1 av nv cv a m c w hL hN r0 rv re hAs hty hlen hB1 hB2 hB3;refine zV fun Q hQ=>?_;change Rd w D1 (zJ ks) _ at re;simp only[zK.op,zK.num];rw[nE]at hB1 hB2 hB3;have K0:=(zQ.al w (.cells #[.slice a0 n0 c0,.slice a1 n1 c1] 44)).trans (zQ.al _ (.cells #[.int .i64 12,.int .i64 num,.slice a m c] 58));have R0:=(zP w #[.slice a0 n0 c0,.slice a1 n1 c1] 44).alloc (.cells #[.int .i64 12,.int .i64 num,.slice a m c] 58);have R1:=zP (w.alloc (.cells #[.slice a0 n0 c0,.slice a1 n1 c1] 44)) #[.int .i64 12,.int .i64 num,.slice a m c] 58;simp only[World.size_alloc]at R1;have hq:=hL.qlt;have hv:=hL.own;have HE:Hid (∀k,j7 D1 w k→k≠q∧v.ownBlock≠some k):=by
  intro k hk;rcases hk with hk|rfl|rfl
  ·exact hAs k hk.1
  ·exact⟨by omega,fun e=>by have:=hv _ e;omega⟩
  ·exact⟨by omega,fun e=>by have:=hv _ e;omega⟩
 have rd0:=LH (((r0.lt).mono (D':=j7 D1 w) (fun k hk=>.inl hk)).k K0);have rdv:=LH (((rv.lt).mono (D':=j7 D1 w) (fun k hk=>.inl hk)).k K0);have rde:=LH (((re.lt).mono (D':=j7 D1 w) (fun k hk=>.inl hk)).k K0);have LW:=LH (hL.k K0);have KW:=LH K0;have sW:(((w.alloc (.cells #[.slice a0 n0 c0,.slice a1 n1 c1] 44)).alloc (.cells #[.int .i64 12,.int .i64 num,.slice a m c] 58))).heap.size=w.heap.size+2:=by simp
 clear hAs hL r0 rv re;obtain⟨t1,t2⟩:=MK hty;obtain⟨i,rfl⟩:∃i:Nat,num=i:=⟨num.toNat,by omega⟩;obtain⟨e1,hnc,hnm,hat⟩:=zN rdv.out;obtain⟨b,o,rfl,_,d0⟩:=hat i (by omega);have V:=LH (show qG ds (.mk 12 (i:Int) ks) env n=([],iAt env i)by rw[Gy];rfl);rw[V.out]at hQ;have hi:(i:Int)<(nv:Int):=by omega
 have hi0:(0:Int)≤(i:Int):=by omega
 clear hat V t1 t2 hty;go_in;go_wp2_with fail;exact zB hQ ⟨v,D,rfl,by simpa [zk,hN]using LW.out,qM.keep KW.out⟩
theorem WG(num:Int)(ks:List zK)(IH0:∀j,j<ks.length→LwS ds sg (eAt ks j)):LwS ds sg (.mk 13 num ks):=by
 intro vars env n N q base D D1 v rows a0 n0 c0 a1 n1 c1 av nv cv a m c w hL hN r0 rv re hAs hty hlen hB1 hB2 hB3;refine zV fun Q hQ=>?_;change Rd w D1 (zJ ks) _ at re;simp only[zK.op,zK.num];rw[nE]at hB1 hB2 hB3;have K0:=(zQ.al w (.cells #[.slice a0 n0 c0,.slice a1 n1 c1] 44)).trans (zQ.al _ (.cells #[.int .i64 13,.int .i64 num,.slice a m c] 58));have R0:=(zP w #[.slice a0 n0 c0,.slice a1 n1 c1] 44).alloc (.cells #[.int .i64 13,.int .i64 num,.slice a m c] 58);have R1:=zP (w.alloc (.cells #[.slice a0 n0 c0,.slice a1 n1 c1] 44)) #[.int .i64 13,.int .i64 num,.slice a m c] 58;simp only[World.size_alloc]at R1;have hq:=hL.qlt;have hv:=hL.own;have HE:Hid (∀k,j7 D1 w k→k≠q∧v.ownBlock≠some k):=by
  intro k hk;rcases hk with hk|rfl|rfl
  ·exact hAs k hk.1
  ·exact⟨by omega,fun e=>by have:=hv _ e;omega⟩
  ·exact⟨by omega,fun e=>by have:=hv _ e;omega⟩
 have rd0:=LH (((r0.lt).mono (D':=j7 D1 w) (fun k hk=>.inl hk)).k K0);have rdv:=LH (((rv.lt).mono (D':=j7 D1 w) (fun k hk=>.inl hk)).k K0);have rde:=LH (((re.lt).mono (D':=j7 D1 w) (fun k hk=>.inl hk)).k K0);have LW:=LH (hL.k K0);have KW:=LH K0;have sW:(((w.alloc (.cells #[.slice a0 n0 c0,.slice a1 n1 c1] 44)).alloc (.cells #[.int .i64 13,.int .i64 num,.slice a m c] 58))).heap.size=w.heap.size+2:=by simp
 clear hAs hL r0 rv re;obtain⟨t1,t2,t3⟩:=LY hty;have TY2:=LH t2;have TY3:=LH t3;have IH:=LH IH0;have hq0:=yN ks (j:=0) (by omega);have hq1:nE (eAt ks 0)+nE (eAt ks 1)≤nEs ks:=by
  have h1:=vQ ks (j:=0) (by omega);have h2:=vQ ks (j:=1) (by omega);have h3:=jA ks 2;simp only[Nat.zero_add,List.take_zero,nEs,Nat.reduceAdd]at h1 h2;omega
 have VL:=LH (WL (num:=num) ds env n t1);rw[VL.out]at hQ;obtain⟨s1,hs1⟩:∃s,(qG ds (eAt ks 0) env n).1=s:=⟨_,rfl⟩;obtain⟨y1,hy1⟩:∃s,(qG ds (eAt ks 0) env n).2=s:=⟨_,rfl⟩;have hsl:s1.length≤nE (eAt ks 0):=by rw[←hs1];exact vK ds _ _ _
 rw[hs1,hy1]at hQ;have HS1:=LH hs1;have HY1:=LH hy1;obtain⟨s2,hs2⟩:∃s,(qG ds (eAt ks 1) (env++ [y1]) (n+s1.length)).1=s:=⟨_,rfl⟩;obtain⟨y2,hy2⟩:∃s,(qG ds (eAt ks 1) (env++ [y1]) (n+s1.length)).2=s:=⟨_,rfl⟩;rw[hs2,hy2]at hQ;have HS2:=LH hs2;have HY2:=LH hy2;obtain⟨e1,hnc,hnm,hat⟩:=zx rde.out;obtain⟨b,o,rfl,hb0,ak,nk,ck,d0,d1,d2,rk⟩:=hat 0 (by omega);obtain⟨b',o',e',_,ak',nk',ck',g0,g1,g2,rk'⟩:=hat 1 (by omega);injection e' with e'
 injection e' with e' e''
 subst e' e'';simp only[Nat.zero_mul,Nat.add_zero,Nat.one_mul]at d0 d1 d2 g0 g1 g2;have HN:=LH hN;have hm2:m=2:=by omega
 subst hm2;have enl:env.length≤4000:=by omega
 obtain⟨x0,x1⟩:C2 ((((w.alloc (.cells #[.slice a0 n0 c0,.slice a1 n1 c1] 44)).alloc (.cells #[.int .i64 13,.int .i64 num,.slice (some ⟨b,o,none⟩) 2 c] 58)))) (w.heap.size) (.slice a0 n0 c0) (.slice a1 n1 c1):=rc2 R0 (by simp);have u2:(((w.alloc (.cells #[.slice a0 n0 c0,.slice a1 n1 c1] 44)).alloc (.cells #[.int .i64 13,.int .i64 num,.slice (some ⟨b,o,none⟩) 2 c] 58))).cell? ⟨w.heap.size+1,2,none⟩=some (.slice (some ⟨b,o,none⟩) 2 c):=R1.cell (i:=2) (by simp);have RK:=LH rk;have RK':=LH rk';have hv5:env.length=nv:=(zN rdv.out).1;clear hat VL hs1 hy1 hs2 hy2 t2 t3 IH0 hty rk rk' R0 R1 hN K0;go_in;go_wp2_with fail;have hW2:=sW;generalize hW:((w.alloc (.cells #[.slice a0 n0 c0,.slice a1 n1 c1] 44)).alloc (.cells #[.int .i64 13,.int .i64 num,.slice (some ⟨b,o,none⟩) 2 c] 58))=W at*;clear hW sW;go_still_tail 7,(by kernel_rfl);change wpList _ _ _ _ _ W.drew;go_wp2_with fail;refine(IH.out 0 (by omega) vars env n N q base D (j7 D1 w) v rows _ _ _ _ _ _ _ _ _ _ _ _ W.drew (LW.out.k (kD W)) HN.out rd0.out.kd rdv.out.kd RK.out.kd HE.out TY2.out hlen (by omega) (by omega) (by omega)).mono ?_;rw[HS1.out,HY1.out];rintro e w1 ⟨v1,D2,rfl,L1,T1⟩;have T1':=LH ((qM.keep (kD W)).trans T1);have L1':=LH L1;have HE1:=LH (ZD HE.out (by omega) T1'.out);obtain⟨N1,hN1⟩:∃N1:Int,N1=((n+s1.length:Nat):Int):=⟨_,rfl⟩;have HN1:=LH hN1;have x0:=z7 T1'.out HE.out x0 (.inr (.inl rfl));have x1:=z7 T1'.out HE.out x1 (.inr (.inl rfl));have u2:=z7 T1'.out HE.out u2 (.inr (.inr rfl));have g0:=z7 T1'.out HE.out g0 hb0;have g1:=z7 T1'.out HE.out g1 hb0;have g2:=z7 T1'.out HE.out g2 hb0;have qd:=LH (rd0.out.low HE.out T1'.out).kd;have qv:=LH (rdv.out.low HE.out T1'.out).kd;have qk:=LH (RK'.out.low HE.out T1'.out).kd;have hw1:=T1'.out.ext.size;have LD:=LH (L1.k (kD w1));clear d0 d1 d2 T1 L1 hN1;go_wp2_with fail;have pc:=Ext.refl0 w1;go_region_held3 (fun w'=>w'.cell? ⟨w.heap.size,0,none⟩=some (.slice a0 n0 c0)∧w'.cell? ⟨w.heap.size,1,none⟩=some (.slice a1 n1 c1)∧w'.cell? ⟨w.heap.size+1,2,none⟩=some (.slice (some ⟨b,o,none⟩) 2 c)∧w'.cell? ⟨b,o+3,none⟩=some (.int .i64 (eAt ks 1).op)∧w'.cell? ⟨b,o+3+1,none⟩=some (.int .i64 (eAt ks 1).num)∧w'.cell? ⟨b,o+3+2,none⟩=some (.slice ak' nk' ck'))
  (first|exact⟨zQ.at pc x0,zQ.at pc x1,zQ.at pc u2,zQ.at pc g0,zQ.at pc g1,zQ.at pc g2⟩|exact⟨zQ.at (Ext.trans pc (zQ.al _ _)) x0,zQ.at (Ext.trans pc (zQ.al _ _)) x1,zQ.at (Ext.trans pc (zQ.al _ _)) u2,zQ.at (Ext.trans pc (zQ.al _ _)) g0,zQ.at (Ext.trans pc (zQ.al _ _)) g1,zQ.at (Ext.trans pc (zQ.al _ _)) g2⟩|exact⟨z7 p4 HE1.out (zQ.at pc x0) (.inr (.inl rfl)),z7 p4 HE1.out (zQ.at pc x1) (.inr (.inl rfl)),z7 p4 HE1.out (zQ.at pc u2) (.inr (.inr rfl)),z7 p4 HE1.out (zQ.at pc g0) hb0,z7 p4 HE1.out (zQ.at pc g1) hb0,z7 p4 HE1.out (zQ.at pc g2) hb0⟩|go_keep)
  (first
   |(go_at_call 149;have il:=Rd.toInts (j5 w1.drew 0 3 [y1] #[.int .i64 y1] 1 (Nat.zero_le _) rfl rfl (by omega)).t;replace pc:=Ext.trans pc (zQ.al w1.drew (.cells #[.int .i64 y1] 3));refine(yw _ _ _ env _ _ _ _ [y1] _ _ (Rd.toInts (qv.out.k pc)) (by omega) il (by omega)).mono ?_;rintro e wb ⟨xa,xn,xc,rfl,hxc,ox,pb⟩;have zb:=pb.size;simp at zb;have LB:=LH (LD.out.k (Ext.trans pc pb));replace pc:=Ext.trans pc pb;have OX:=LH ((ox.read.toRd hxc (by have:=ox.1;simp at this;omega)).lt))
   |(go_at_call 153;refine(IH.out 1 (by omega) (vars++ [tyE ds sg vars (eAt ks 0)]) (env++ [y1]) (n+s1.length) N1 q base D2 (fun k=>j7 D1 w k∨(w1.heap.size≤k∧k<wb.heap.size)) v1 (rows++zk s1) _ _ _ _ _ _ _ _ _ _ _ _ wb (by rw[HN1.out];exact LB.out) HN1.out ((qd.out.k pc).mono (fun k h=>.inl h)) (OX.out.mono (fun k h=>.inr ⟨by have:=h.1;simp at this;omega,h.2⟩)) ((qk.out.k pc).mono (fun k h=>.inl h)) (fun k hk=>by rcases hk with hk|hk;exact HE1.out k hk;exact⟨fun e=>by have:=L1'.out.qlt;omega,fun e=>by have:=L1'.out.own k e;omega⟩) TY3.out (by simp;omega) (by simp;omega) (by omega) (by rw[List.length_append,qx,List.length_map];omega)).mono ?_;rw[HS2.out,HY2.out];rintro e w4 ⟨v4,D4,rfl,L4,p4⟩))
 have KF:=LH (((qM.keep KW.out).trans T1'.out).trans ((qM.keep (zQ.dt pc)).trans p4));have L4':=LH L4;clear L4 pc p4;go_wp2_with fail;refine zB hQ ⟨v4,D4,rfl,?_,KF.out⟩;have:=L4'.out;rw[List.append_assoc,←xx]at this;simpa [Nat.add_assoc]using this
end
theorem QU(xs:List Int)(a:Option Addr)(n c:Nat)(a':Option Addr)(n' c':Nat)(D D':Nat→Prop)(w:World)(h:Rd w D (zY xs) (.slice a n c))(h':Rd w D' (zY xs) (.slice a' n' c')):
  Calls Tryz.prog 22 #[.slice a n c,.slice a' n' c'] w fun e w'=>e=.returned (.bool true)∧zQ w w':=by
 refine zV fun Q hQ=>?_;obtain⟨e1,hnc,hm,hat⟩:=zN h;obtain⟨e1',_,_,hat'⟩:=zN h';obtain rfl:n=n':=by omega
 have HA:=LH hat;have HA':=LH hat';have hb3:((n:Int) !=(n:Int))=false:=by simp
 clear h h' hat hat' e1 e1';go_in;go_wp2_with fail;go_loopw [5] (fun iv wr=>∃j:Nat,j≤n∧iv=.int .i64 j∧Hid (zQ w wr)) (fun iv _=>n-(intOf iv).toNat)
 case atStart=>exact⟨0,Nat.zero_le _,rfl,Ext.refl _ _⟩
 case round=>
  obtain⟨j,hj,rfl,K⟩:=hrel;obtain⟨wo,rfl⟩:∃wo:World,wo=wr:=⟨_,rfl⟩;by_cases hlt:j<n
  ·obtain⟨b,o,rfl,_,d0⟩:=HA.out j hlt
   obtain⟨b',o',rfl,_,g0⟩:=HA'.out j hlt;obtain⟨d0,g0⟩:=K.out.k2 d0 g0;have hb2:(iAt xs j !=iAt xs j)=false:=by simp
   go_wp2;go_quiet (fail);go_wp2;go_roundw
   case rel=>exact⟨j+1,by omega,by go_num,K.out.drewN nq⟩
   case measure=>simp[intOf];omega
  ·go_wp2_with fail
   exact zB hQ ⟨rfl,K.out⟩
theorem BX(ds:List zG)(a:Option Addr)(n c:Nat)(a':Option Addr)(n' c':Nat)(D D':Nat→Prop)(w:World)(h:Rd w D (z5 ds) (.slice a n c))(h':Rd w D' (z5 ds) (.slice a' n' c')):
  Calls Tryz.prog 70 #[.slice a n c,.slice a' n' c'] w fun e w'=>e=.returned (.bool true)∧zQ w w':=by
 refine zV fun Q hQ=>?_;obtain⟨e1,hnc,hm,hat⟩:=zT h;obtain⟨e1',_,_,hat'⟩:=zT h';obtain rfl:n=n':=by omega
 have HA:=LH hat;have HA':=LH hat';have hb3:((n:Int) !=(n:Int))=false:=by simp
 clear h h' hat hat' e1 e1';go_in;go_wp2_with fail;go_loopw [5] (fun iv wr=>∃j:Nat,j≤n∧iv=.int .i64 j∧Hid (zQ w wr)) (fun iv _=>n-(intOf iv).toNat)
 case atStart=>exact⟨0,Nat.zero_le _,rfl,Ext.refl _ _⟩
 case round=>
  obtain⟨j,hj,rfl,K⟩:=hrel;obtain⟨wo,rfl⟩:∃wo:World,wo=wr:=⟨_,rfl⟩;by_cases hlt:j<n
  ·obtain⟨b,o,rfl,_,a2,n2,c2,d0,d1,d2,rc⟩:=HA.out j hlt
   obtain⟨b',o',rfl,_,a3,n3,c3,g0,g1,g2,rc'⟩:=HA'.out j hlt;obtain⟨k1,hnc2,hm2,kat⟩:=gK rc;obtain⟨k1',_,_,kat'⟩:=gK rc';obtain rfl:n2=n3:=by omega
   have KA:=LH kat;have KA':=LH kat';have D2:=LH d2;have G2:=LH g2;obtain⟨d0,d1,d2,g0,g1,g2⟩:=K.out.k6 d0 d1 d2 g0 g1 g2;have hb4:((dAt ds j).from_ !=(dAt ds j).from_)=false:=by simp
   have hb5:((dAt ds j).to_ !=(dAt ds j).to_)=false:=by simp
   have hb6:((n2:Int) !=(n2:Int))=false:=by simp
   clear kat kat' rc rc' k1 k1';go_wp2;go_quiet (fail);have KQ:=LH (K.out.drewN nq);clear d0 d1 d2 g0 g1 g2;go_wp2_with fail;go_loopw [6] (fun iv wr=>∃i:Nat,i≤n2∧iv=.int .i64 i∧Hid (zQ w wr)) (fun iv _=>n2-(intOf iv).toNat)
   case atStart=>exact⟨0,Nat.zero_le _,rfl,KQ⟩
   case round=>
    clear KQ;obtain⟨i,hi,rfl,K2⟩:=hrel;obtain⟨wv,rfl⟩:∃wv:World,wv=wr:=⟨_,rfl⟩;obtain⟨d2,g2⟩:=K2.out.k2 D2.out G2.out;by_cases hil:i<n2
    ·obtain⟨bb,oo,rfl,_,a4,n4,c4,x0,rx⟩:=KA.out i hil
     obtain⟨bb',oo',rfl,_,a5,n5,c5,y0,ry⟩:=KA'.out i hil;obtain⟨x0,y0⟩:=K2.out.k2 x0 y0;have RX:=LH ((rx.k K2.out).kd);have RY:=LH ((ry.k K2.out).kd);clear rx ry;go_wp2_with fail;go_still_tail 18,(by kernel_rfl);change wpList _ _ _ _ _ wv.drew;clear d2 g2 x0 y0;go_wp2_with fail;refine(QU _ _ _ _ _ _ _ _ _ _ RX.out RY.out).mono ?_;rintro e w1 ⟨rfl,p1⟩;have K3:=LH (K2.out.trans (zQ.dt p1));clear p1;go_wp2_with fail;go_roundw
     case rel=>exact⟨i+1,by omega,by go_num,K3⟩
     case measure=>simp[intOf];omega
    ·go_wp2_with fail
     go_roundw
     case rel=>exact⟨j+1,by omega,by go_num,K2⟩
     case measure=>simp[intOf];omega
  ·go_wp2_with fail
   exact zB hQ ⟨rfl,K.out⟩
def Nv(ss:List qE)(res:Int):Prop:=∀(a:Option Addr) (n c:Nat) (a1:Option Addr) (n1 c1:Nat) (D D':Nat→Prop) (w:World),Rd w D (zF ss) (.slice a n c)→Rd w D' (zF ss) (.slice a1 n1 c1)→
 Calls Tryz.prog 71 #[.agg #[.slice a n c,.int .i64 res],.agg #[.slice a1 n1 c1,.int .i64 res]] w fun e w'=>e=.returned (.bool true)∧zQ w w'
theorem DA(op num into:Int)(args:List Int)(ks:List yK)(IH0:∀i,i<ks.length→Nv (bAt ks i).steps (bAt ks i).result)(a0:Option Addr)(n0 c0:Nat)(a1:Option Addr)(n1 c1:Nat)(b0:Option Addr)(n0' e0:Nat)(b1:Option Addr)(n1' e1:Nat)(D D':Nat→Prop)(w:World)(h0:Rd w D (zY args) (.slice a0 n0 c0))(h1:Rd w D (zC ks) (.slice a1 n1 c1))(g0:Rd w D' (zY args) (.slice b0 n0' e0))(g1:Rd w D' (zC ks) (.slice b1 n1' e1)):
  Calls Tryz.prog 122 #[.agg #[.int .i64 op,.int .i64 num,.int .i64 into,.slice a0 n0 c0,.slice a1 n1 c1],.agg #[.int .i64 op,.int .i64 num,.int .i64 into,.slice b0 n0' e0,.slice b1 n1' e1]] w fun e w'=>e=.returned (.bool true)∧zQ w w':=by
 refine zV fun Q hQ=>?_;have IH:=LH IH0;obtain rfl:n0=n0':=by have h2:=(zN h0).1;have h3:=(zN g0).1;omega
 obtain⟨l1,hnc,hm,hat⟩:=kR h1;obtain⟨l1',_,_,hat'⟩:=kR g1;obtain rfl:n1=n1':=by omega
 have HL:=LH l1;have K0:=(zQ.al w (.cells #[.int .i64 op,.int .i64 num,.int .i64 into,.slice a0 n0 c0,.slice a1 n1 c1] 136)).trans (zQ.al _ (.cells #[.int .i64 op,.int .i64 num,.int .i64 into,.slice b0 n0 e0,.slice b1 n1 e1] 136));have RX:=LH ((zP w #[.int .i64 op,.int .i64 num,.int .i64 into,.slice a0 n0 c0,.slice a1 n1 c1] 136).alloc (.cells #[.int .i64 op,.int .i64 num,.int .i64 into,.slice b0 n0 e0,.slice b1 n1 e1] 136));have RY0:=zP (w.alloc (.cells #[.int .i64 op,.int .i64 num,.int .i64 into,.slice a0 n0 c0,.slice a1 n1 c1] 136)) #[.int .i64 op,.int .i64 num,.int .i64 into,.slice b0 n0 e0,.slice b1 n1 e1] 136;simp only[World.size_alloc]at RY0;have RY:=LH RY0;clear RY0;have H0:=LH (h0.k K0);have G0:=LH (g0.k K0);have HA:=LH hat;have HA':=LH hat';have K:=LH K0;have hb1:(op !=op)=false:=by simp
 have hb2:(num !=num)=false:=by simp
 have hb3:(into !=into)=false:=by simp
 have hb4:((n1:Int) !=(n1:Int))=false:=by simp
 clear IH0 h0 h1 g0 g1 hat hat' l1 l1' K0;go_in;go_wp2_with fail;refine(QU _ _ _ _ _ _ _ _ _ _ H0.out G0.out).mono ?_;rintro e w1 ⟨rfl,p1⟩;have K1:=LH (K.out.trans p1);have RX1:=LH (rwk RX.out p1);have RY1:=LH (rwk RY.out p1);clear p1 K H0 G0 RX RY;have x4:w1.cell? ⟨w.heap.size,4,none⟩=some (.slice a1 n1 c1):=RX1.out.cell (i:=4) (by simp);have y4:w1.cell? ⟨w.heap.size+1,4,none⟩=some (.slice b1 n1 e1):=RY1.out.cell (i:=4) (by simp);have KE:Hid (zQ w1 w1):=Ext.refl _ _;go_wp2_with fail;go_loopw [5] (fun iv wr=>∃j:Nat,j≤n1∧iv=.int .i64 j∧Hid (zQ w1 wr)) (fun iv _=>n1-(intOf iv).toNat)
 case atStart=>exact⟨0,Nat.zero_le _,rfl,KE⟩
 case round=>
  clear KE;obtain⟨j,hj,rfl,KL⟩:=hrel;obtain⟨wo,rfl⟩:∃wo:World,wo=wr:=⟨_,rfl⟩;have KW:=LH (K1.out.trans KL.out);obtain⟨x4,y4⟩:=KL.out.k2 x4 y4;by_cases hlt:j<n1
  ·have hjl:j<ks.length:=by have:=HL.out;omega
   obtain⟨b,o,rfl,_,a4,n4,c4,d0,d1,rx⟩:=HA.out j hlt;obtain⟨b',o',rfl,_,a5,n5,c5,z0,z1,ry⟩:=HA'.out j hlt;obtain⟨d0,d1,z0,z1⟩:=KW.out.k4 d0 d1 z0 z1;have RX2:=LH ((rx.k KW.out).kd);have RY2:=LH ((ry.k KW.out).kd);clear rx ry;go_wp2_with fail;go_still_tail 10,(by kernel_rfl);change wpList _ _ _ _ _ wo.drew;clear d0 d1 z0 z1;go_wp2_with fail;refine(IH.out j hjl _ _ _ _ _ _ _ _ _ RX2.out RY2.out).mono ?_;rintro e w5 ⟨rfl,p5⟩;have K3:=LH (KL.out.trans (zQ.dt p5));clear p5;go_wp2_with fail;go_roundw
   case rel=>exact⟨j+1,by omega,by go_num,K3⟩
   case measure=>simp[intOf];omega
  ·go_wp2_with fail
   exact zB hQ ⟨rfl,KW.out⟩
theorem Fk(N:Nat):∀(ss:List qE) (res:Int),nSs ss<N→Nv ss res:=by
 induction N with
 |zero=>intro ss _ h;omega
 |succ N ih=>
 intro ss res hN a n c a1 n1 c1 D D' w h h';refine zV fun Q hQ=>?_;have IH:=LH (fun(j i:Nat) (hj:j<ss.length) (hi:i<(sAt ss j).kids.length)=>ih (bAt (sAt ss j).kids i).steps (bAt (sAt ss j).kids i).result (by have:=GC ss hj hi;omega));obtain⟨l1,hnc,hm,hat⟩:=gx h;obtain⟨l1',_,_,hat'⟩:=gx h';obtain rfl:n=n1:=by omega
 have HL:=LH l1;have K0:=(zQ.al w (.cells #[.slice a n c,.int .i64 res] 69)).trans (zQ.al _ (.cells #[.slice a1 n c1,.int .i64 res] 69));have RX:=LH ((zP w #[.slice a n c,.int .i64 res] 69).alloc (.cells #[.slice a1 n c1,.int .i64 res] 69));have RY0:=zP (w.alloc (.cells #[.slice a n c,.int .i64 res] 69)) #[.slice a1 n c1,.int .i64 res] 69;simp only[World.size_alloc]at RY0;have RY:=LH RY0;clear RY0;have HA:=LH hat;have HA':=LH hat';have K:=LH K0;have hb1:(res !=res)=false:=by simp
 have hb4:((n:Int) !=(n:Int))=false:=by simp
 clear ih hN h h' hat hat' l1 l1' K0;go_in;have hW2:Hid True:=trivial;go_upto_region 1 with fail;generalize hW:((w.alloc (.cells #[.slice a n c,.int .i64 res] 69)).alloc (.cells #[.slice a1 n c1,.int .i64 res] 69))=W at*;clear hW;obtain⟨x0,x1⟩:C2 (W) (w.heap.size) (.slice a n c) (.int .i64 res):=rc2 RX.out (by simp);obtain⟨y0,y1⟩:C2 (W) (w.heap.size+1) (.slice a1 n c1) (.int .i64 res):=rc2 RY.out (by simp);have KE:Hid (zQ W W):=Ext.refl _ _;go_wp2_with fail;go_loopw [5] (fun iv wr=>∃j:Nat,j≤n∧iv=.int .i64 j∧Hid (zQ W wr)) (fun iv _=>n-(intOf iv).toNat)
 case atStart=>exact⟨0,Nat.zero_le _,rfl,KE⟩
 case round=>
  clear KE;obtain⟨j,hj,rfl,KL⟩:=hrel;obtain⟨wo,rfl⟩:∃wo:World,wo=wr:=⟨_,rfl⟩;have KW:=LH (K.out.trans KL.out);obtain⟨x0,y0⟩:=KL.out.k2 x0 y0;by_cases hlt:j<n
  ·have hjl:j<ss.length:=by have:=HL.out;omega
   obtain⟨b,o,rfl,_,a3,n3,c3,a4,n4,c4,d0,d1,d2,d3,d4,ra,rk⟩:=HA.out j hlt;obtain⟨b',o',rfl,_,a5,n5,c5,a6,n6,c6,z0,z1,z2,z3,z4,ra',rk'⟩:=HA'.out j hlt;obtain⟨d0,d1,d2,d3,d4,z0⟩:=KW.out.k6 d0 d1 d2 d3 d4 z0;obtain⟨z1,z2,z3,z4⟩:=KW.out.k4 z1 z2 z3 z4;have RA:=LH ((ra.k KW.out).kd);have RK:=LH ((rk.k KW.out).kd);have RA':=LH ((ra'.k KW.out).kd);have RK':=LH ((rk'.k KW.out).kd);have ES:=LH (DA (sAt ss j).op (sAt ss j).num (sAt ss j).into (sAt ss j).args (sAt ss j).kids (fun i hi=>IH.out j i hjl hi));clear ra rk ra' rk';go_wp2_with fail;go_still_tail 10,(by kernel_rfl);change wpList _ _ _ _ _ wo.drew;clear d0 d1 d2 d3 d4 z0 z1 z2 z3 z4;go_wp2_with fail;refine(ES.out _ _ _ _ _ _ _ _ _ _ _ _ _ _ _ RA.out RK.out RA'.out RK'.out).mono ?_;rintro e w5 ⟨rfl,p5⟩;have K3:=LH (KL.out.trans (zQ.dt p5));clear p5;go_wp2_with fail;go_roundw
   case rel=>exact⟨j+1,by omega,by go_num,K3⟩
   case measure=>simp[intOf];omega
  ·go_wp2_with fail
   exact zB hQ ⟨rfl,KW.out⟩
theorem DQ(ss:List qE)(res:Int):Nv ss res:=Fk _ ss res (Nat.lt_succ_self _)
theorem JN(ds:List zG)(rs:List vz)(a0:Option Addr)(n0 c0:Nat)(a1:Option Addr)(n1 c1:Nat)(b0:Option Addr)(n0' e0:Nat)(b1:Option Addr)(n1' e1:Nat)(D0 D1 D2 D3:Nat→Prop)(w:World)(h0:Rd w D0 (z5 ds) (.slice a0 n0 c0))(h1:Rd w D1 (yx rs) (.slice a1 n1 c1))(g0:Rd w D2 (z5 ds) (.slice b0 n0' e0))(g1:Rd w D3 (yx rs) (.slice b1 n1' e1)):
  Calls Tryz.prog 29 #[.agg #[.slice a0 n0 c0,.slice a1 n1 c1],.agg #[.slice b0 n0' e0,.slice b1 n1' e1]] w fun e w'=>e=.returned (.bool true)∧zQ w w':=by
 refine zV fun Q hQ=>?_;obtain rfl:n0=n0':=by have h2:=(zT h0).1;have h3:=(zT g0).1;omega
 obtain⟨l1,hnc,hm,hat⟩:=Zk h1;obtain⟨l1',_,_,hat'⟩:=Zk g1;obtain rfl:n1=n1':=by omega
 have HL:=LH l1;have K0:=(zQ.al w (.cells #[.slice a0 n0 c0,.slice a1 n1 c1] 30)).trans (zQ.al _ (.cells #[.slice b0 n0 e0,.slice b1 n1 e1] 30));have RX:=LH ((zP w #[.slice a0 n0 c0,.slice a1 n1 c1] 30).alloc (.cells #[.slice b0 n0 e0,.slice b1 n1 e1] 30));have RY0:=zP (w.alloc (.cells #[.slice a0 n0 c0,.slice a1 n1 c1] 30)) #[.slice b0 n0 e0,.slice b1 n1 e1] 30;simp only[World.size_alloc]at RY0;have RY:=LH RY0;clear RY0;have H0:=LH (h0.k K0);have G0:=LH (g0.k K0);have HA:=LH hat;have HA':=LH hat';have K:=LH K0;have hb4:((n1:Int) !=(n1:Int))=false:=by simp
 clear h0 h1 g0 g1 hat hat' l1 l1' K0;go_in;go_wp2_with fail;refine(BX _ _ _ _ _ _ _ _ _ _ H0.out G0.out).mono ?_;rintro e w1 ⟨rfl,p1⟩;have K1:=LH (K.out.trans p1);have RX1:=LH (rwk RX.out p1);have RY1:=LH (rwk RY.out p1);clear p1 K H0 G0 RX RY;have x1:w1.cell? ⟨w.heap.size,1,none⟩=some (.slice a1 n1 c1):=RX1.out.cell (i:=1) (by simp);have y1:w1.cell? ⟨w.heap.size+1,1,none⟩=some (.slice b1 n1 e1):=RY1.out.cell (i:=1) (by simp);have KE:Hid (zQ w1 w1):=Ext.refl _ _;go_wp2_with fail;go_loopw [5] (fun iv wr=>∃j:Nat,j≤n1∧iv=.int .i64 j∧Hid (zQ w1 wr)) (fun iv _=>n1-(intOf iv).toNat)
 case atStart=>exact⟨0,Nat.zero_le _,rfl,KE⟩
 case round=>
  clear KE;obtain⟨j,hj,rfl,KL⟩:=hrel;obtain⟨wo,rfl⟩:∃wo:World,wo=wr:=⟨_,rfl⟩;have KW:=LH (K1.out.trans KL.out);obtain⟨x1,y1⟩:=KL.out.k2 x1 y1;by_cases hlt:j<n1
  ·have hjl:j<rs.length:=by have:=HL.out;omega
   obtain⟨b,o,rfl,_,p0,m0,f0,p1,m1,f1,p3,m3,f3,d0,d1,d2,d3,d4,rp,rl,rb⟩:=HA.out j hlt;obtain⟨b',o',rfl,_,q0,m0',g0,q1,m1',g1,q3,m3',g3,z0,z1,z2,z3,z4,rp',rl',rb'⟩:=HA'.out j hlt;obtain rfl:m0=m0':=by have h2:=(zN rp).1;have h3:=(zN rp').1;omega
   obtain rfl:m1=m1':=by have h2:=(zN rl).1;have h3:=(zN rl').1;omega
   obtain rfl:m3=m3':=by have h2:=(gx rb).1;have h3:=(gx rb').1;omega
   obtain⟨d0,d1,d2,d3,d4,z0⟩:=KW.out.k6 d0 d1 d2 d3 d4 z0;obtain⟨z1,z2,z3,z4⟩:=KW.out.k4 z1 z2 z3 z4;have y1':=(zQ.al wo (.cells #[.slice p0 m0 f0,.slice p1 m1 f1,.int .i64 (qF rs j).result,.slice p3 m3 f3,.int .i64 (qF rs j).body.result] 71)).cq y1 (fun h=>h);have z0':=(zQ.al wo (.cells #[.slice p0 m0 f0,.slice p1 m1 f1,.int .i64 (qF rs j).result,.slice p3 m3 f3,.int .i64 (qF rs j).body.result] 71)).cq z0 (fun h=>h);have z1':=(zQ.al wo (.cells #[.slice p0 m0 f0,.slice p1 m1 f1,.int .i64 (qF rs j).result,.slice p3 m3 f3,.int .i64 (qF rs j).body.result] 71)).cq z1 (fun h=>h);have z2':=(zQ.al wo (.cells #[.slice p0 m0 f0,.slice p1 m1 f1,.int .i64 (qF rs j).result,.slice p3 m3 f3,.int .i64 (qF rs j).body.result] 71)).cq z2 (fun h=>h);have z3':=(zQ.al wo (.cells #[.slice p0 m0 f0,.slice p1 m1 f1,.int .i64 (qF rs j).result,.slice p3 m3 f3,.int .i64 (qF rs j).body.result] 71)).cq z3 (fun h=>h);have z4':=(zQ.al wo (.cells #[.slice p0 m0 f0,.slice p1 m1 f1,.int .i64 (qF rs j).result,.slice p3 m3 f3,.int .i64 (qF rs j).body.result] 71)).cq z4 (fun h=>h);have K0:=(zQ.al wo (.cells #[.slice p0 m0 f0,.slice p1 m1 f1,.int .i64 (qF rs j).result,.slice p3 m3 f3,.int .i64 (qF rs j).body.result] 71)).trans (zQ.al _ (.cells #[.slice q0 m0 g0,.slice q1 m1 g1,.int .i64 (qF rs j).result,.slice q3 m3 g3,.int .i64 (qF rs j).body.result] 71));have RX:=LH ((zP wo #[.slice p0 m0 f0,.slice p1 m1 f1,.int .i64 (qF rs j).result,.slice p3 m3 f3,.int .i64 (qF rs j).body.result] 71).alloc (.cells #[.slice q0 m0 g0,.slice q1 m1 g1,.int .i64 (qF rs j).result,.slice q3 m3 g3,.int .i64 (qF rs j).body.result] 71));have RY0:=zP (wo.alloc (.cells #[.slice p0 m0 f0,.slice p1 m1 f1,.int .i64 (qF rs j).result,.slice p3 m3 f3,.int .i64 (qF rs j).body.result] 71)) #[.slice q0 m0 g0,.slice q1 m1 g1,.int .i64 (qF rs j).result,.slice q3 m3 g3,.int .i64 (qF rs j).body.result] 71;simp only[World.size_alloc]at RY0;have RY:=LH RY0;clear RY0;have KB:=LH (KL.out.trans K0);have KB2:=LH (KW.out.trans K0);have RP:=LH (rp.k KB2.out);have RL:=LH (rl.k KB2.out);have RB:=LH (rb.k KB2.out);have RP':=LH (rp'.k KB2.out);have RL':=LH (rl'.k KB2.out);have RB':=LH (rb'.k KB2.out);have hb5:((qF rs j).result !=(qF rs j).result)=false:=by simp
   clear rp rl rb rp' rl' rb' K0;go_wp2_with fail;refine(QU _ _ _ _ _ _ _ _ _ _ RP.out RP'.out).mono ?_;rintro e w2 ⟨rfl,k2⟩;have RXa:=LH (rwk RX.out k2);have RYa:=LH (rwk RY.out k2);have RLa:=LH (RL.out.k k2);have RLa':=LH (RL'.out.k k2);have RBa:=LH (RB.out.k k2);have RBa':=LH (RB'.out.k k2);have KBa:=LH (KB.out.trans k2);clear k2 d0 d1 d2 d3 d4 z0 z1 z2 z3 z4 z0' z1' z2' z3' z4' y1' RP RP' RL RL' RB RB' RX RY KB KB2;have u1:w2.cell? ⟨wo.heap.size,1,none⟩=some (.slice p1 m1 f1):=RXa.out.cell (i:=1) (by simp);have v1:w2.cell? ⟨wo.heap.size+1,1,none⟩=some (.slice q1 m1 g1):=RYa.out.cell (i:=1) (by simp);go_wp2_with fail;refine(QU _ _ _ _ _ _ _ _ _ _ RLa.out RLa'.out).mono ?_;rintro e w3 ⟨rfl,k3⟩;have RXb:=LH (rwk RXa.out k3);have RYb:=LH (rwk RYa.out k3);have RBb:=LH (RBa.out.k k3);have RBb':=LH (RBa'.out.k k3);have KBb:=LH (KBa.out.trans k3);clear k3 u1 v1 RLa RLa' RBa RBa' RXa RYa KBa;have u2:w3.cell? ⟨wo.heap.size,2,none⟩=some (.int .i64 (qF rs j).result):=RXb.out.cell (i:=2) (by simp);have v2:w3.cell? ⟨wo.heap.size+1,2,none⟩=some (.int .i64 (qF rs j).result):=RYb.out.cell (i:=2) (by simp);have u3:w3.cell? ⟨wo.heap.size,3,none⟩=some (.slice p3 m3 f3):=RXb.out.cell (i:=3) (by simp);have v3:w3.cell? ⟨wo.heap.size+1,3,none⟩=some (.slice q3 m3 g3):=RYb.out.cell (i:=3) (by simp);have u4:w3.cell? ⟨wo.heap.size,4,none⟩=some (.int .i64 (qF rs j).body.result):=RXb.out.cell (i:=4) (by simp);have v4:w3.cell? ⟨wo.heap.size+1,4,none⟩=some (.int .i64 (qF rs j).body.result):=RYb.out.cell (i:=4) (by simp);go_wp2_with fail;refine(DQ _ _ _ _ _ _ _ _ _ _ _ RBb.out RBb'.out).mono ?_;rintro e w4 ⟨rfl,k4⟩;have KBc:=LH (KBb.out.trans k4);clear k4 u2 v2 u3 v3 u4 v4;go_wp2_with fail;go_roundw
   case rel=>exact⟨j+1,by omega,by go_num,KBc⟩
   case measure=>simp[intOf];omega
  ·go_wp2_with fail
   exact zB hQ ⟨rfl,KW.out⟩
section
variable {w w' wo w1 w5:World}{base q:Nat}{TT:TypeId}{cs:Array Value}{D D' Dj D5 S EA EB:Nat→Prop}{v v' vj v1 v5 ov v2:Value}{rows:List (List Dat)}
theorem qM.aside{w'':World}(h:qM w w' q D D' v v')(hx:Ext S w' w'')(hS:∀k,S k→w.heap.size≤k):qM w w'' q D D' v v':=
 ⟨h.ext.then_ hx (fun i hi hs=>by have:=hS i hs;omega),h.sub,h.blk⟩
theorem gq(HO:∀k,ov.ownBlock=some k→k≠q∧vj.ownBlock≠some k∧¬Dj k)(hlt:∀k,ov.ownBlock=some k→k<wo.heap.size)(T1:qM wo w1 q Dj D' vj v1)(L1:qL w1 base q TT cs D' v1 rows)
  (hb:∀r,v2.ownBlock=some r→ov.ownBlock=some r∨w1.heap.size≤r):∀k,v2.ownBlock=some k→k≠q∧v1.ownBlock≠some k∧¬D' k:=by
 intro k hk;rcases hb k hk with h|h
 ·obtain⟨h1,h2,h3⟩:=HO k h
  have h4:=hlt k h;exact⟨h1,fun e=>by rcases T1.blk k e with h5|h5;exact h2 h5;omega,fun e=>by rcases T1.sub k e with h5|h5;exact h3 h5;omega⟩
 ·exact⟨fun e=>by have:=L1.qlt;omega,fun e=>by have:=L1.own k e;omega,fun e=>by have:=L1.lt k e;omega⟩
theorem qL.next{w2:World}(HO:∀k,ov.ownBlock=some k→k≠q∧vj.ownBlock≠some k∧¬Dj k)(hlt:∀k,ov.ownBlock=some k→k<wo.heap.size)(T1:qM wo w1 q Dj D' vj v1)(L1:qL w1 base q TT cs D' v1 rows)
  (hx:Ext (fun r=>ov.ownBlock=some r) w1 w2):qL w2 base q TT cs D' v1 rows:=by
 have h:=gq HO hlt T1 L1 (v2:=ov) (fun r hr=>.inl hr);exact L1.ext hx (fun e=>(h q e).1 rfl) (fun k hk e=>(h k e).2.2 hk) (fun k hk e=>(h k e).2.1 hk)
theorem qM.add{wo':World}(h:qM w wo q D Dj v vj)(hk:zQ wo wo')(hx:Ext (fun k=>k=q∨vj.ownBlock=some k) wo' w5)(hs:∀k,D5 k→Dj k∨EA k∨EB k)(he:∀k,EA k∨EB k→w.heap.size≤k)
  (hb:∀k,v5.ownBlock=some k→vj.ownBlock=some k∨wo'.heap.size≤k):qM w w5 q D D5 v v5:=by
 have h1:=h.ext.size;have h2:=hk.size;refine⟨(h.post hk).ext.then_ hx (fun i hi hs=>?_),fun k hk=>?_,fun k hk=>?_⟩
 ·rcases hs with e|e
  ·exact .inl e
  ·rcases h.blk i e with h3|h3
   ·exact .inr h3
   ·omega
 ·rcases hs k hk with h3|h3
  ·exact h.sub k h3
  ·exact .inr (he k h3)
 ·rcases hb k hk with h3|h3
  ·exact h.blk k h3
  ·exact .inr (by omega)
end
theorem uX{w:World}{base q:Nat}{TT:TypeId}{cs cs':Array Value}{D:Nat→Prop}{v:Value}{rows rows':List (List Dat)}(h:qL w base q TT cs D v rows)(h1:cs=cs')(h2:rows=rows'):qL w base q TT cs' D v rows':=h1▸h2▸h
theorem gT(s:qE):zk [s]= [Xy s]:=by simp[zk]
section
variable (ds:List zG)(sg:List yJ)(hok:qJ ds sg=true)
include hok
theorem Uj(op num:Int)(h12:¬op=12)(h13:¬op=13)(h7:¬op=7)(h8:¬op=8)(ks:List zK)(IH0:∀j,j<ks.length→LwS ds sg (eAt ks j)):LwS ds sg (.mk op num ks):=by
 intro vars env n N q base D D1 v rows a0 n0 c0 a1 n1 c1 av nv cv a m c w hL hN r0 rv re hAs hty hlen hB1 hB2 hB3;refine zV fun Q hQ=>?_;change Rd w D1 (zJ ks) _ at re;simp only[zK.op,zK.num];rw[nE]at hB1 hB2 hB3;have K0:=(zQ.al w (.cells #[.slice a0 n0 c0,.slice a1 n1 c1] 44)).trans (zQ.al _ (.cells #[.int .i64 op,.int .i64 num,.slice a m c] 58));have R0:=(zP w #[.slice a0 n0 c0,.slice a1 n1 c1] 44).alloc (.cells #[.int .i64 op,.int .i64 num,.slice a m c] 58);have R1:=zP (w.alloc (.cells #[.slice a0 n0 c0,.slice a1 n1 c1] 44)) #[.int .i64 op,.int .i64 num,.slice a m c] 58;simp only[World.size_alloc]at R1;have hq:=hL.qlt;have hv:=hL.own;have HE:Hid (∀k,j7 D1 w k→k≠q∧v.ownBlock≠some k):=by
  intro k hk;rcases hk with hk|rfl|rfl
  ·exact hAs k hk.1
  ·exact⟨by omega,fun e=>by have:=hv _ e;omega⟩
  ·exact⟨by omega,fun e=>by have:=hv _ e;omega⟩
 have rd0:=LH (((r0.lt).mono (D':=j7 D1 w) (fun k hk=>.inl hk)).k K0);have rdv:=LH (((rv.lt).mono (D':=j7 D1 w) (fun k hk=>.inl hk)).k K0);have rde:=LH (((re.lt).mono (D':=j7 D1 w) (fun k hk=>.inl hk)).k K0);have LW:=LH (hL.k K0);have KW:=LH K0;have sW:(((w.alloc (.cells #[.slice a0 n0 c0,.slice a1 n1 c1] 44)).alloc (.cells #[.int .i64 op,.int .i64 num,.slice a m c] 58))).heap.size=w.heap.size+2:=by simp
 clear hAs hL r0 rv re;have HTY:=LH (K4 hok h12 h13 h7 h8 hty);have IH:=LH IH0;have VL:=LH (Xv (num:=num) (ks:=ks) ds env n h12 h13 h7 h8);rw[VL.out]at hQ;obtain⟨e1,hnc,hnm,hat⟩:=zx rde.out;have HAT:=LH hat;have HM:=LH e1;have HN:=LH hN;have hkl:=qq ks;obtain⟨x0,x1⟩:C2 ((((w.alloc (.cells #[.slice a0 n0 c0,.slice a1 n1 c1] 44)).alloc (.cells #[.int .i64 op,.int .i64 num,.slice a m c] 58)))) (w.heap.size) (.slice a0 n0 c0) (.slice a1 n1 c1):=rc2 R0 (by simp);obtain⟨u0,u1,u2⟩:C3 ((((w.alloc (.cells #[.slice a0 n0 c0,.slice a1 n1 c1] 44)).alloc (.cells #[.int .i64 op,.int .i64 num,.slice a m c] 58)))) (w.heap.size+1) (.int .i64 op) (.int .i64 num) (.slice a m c):=rc3 R1 (by simp);have hv5:env.length=nv:=(zN rdv.out).1;clear hat e1 VL IH0 hty R0 R1 hN K0;go_in;go_wp2_with fail;generalize hW:((w.alloc (.cells #[.slice a0 n0 c0,.slice a1 n1 c1] 44)).alloc (.cells #[.int .i64 op,.int .i64 num,.slice a m c] 58))=W at*;clear hW;have hsW:=LH sW;have X0:=LH x0;have X1:=LH x1;have U0:=LH u0;have U1:=LH u1;have U2:=LH u2;have V0:Hid (VR (W.alloc (.cells #[] 3)) W.heap.size (.slice (some ⟨w.heap.size+2,0,none⟩) 0 0) (jG ds (ks.take 0) env n).2):=by
  show VR _ _ _ _;rw[List.take_zero,YR,←hsW.out];exact VR.made W
 have L0:Hid (qL (W.alloc (.cells #[] 3)) base q 196 #[v,.int .i64 ((n+(jG ds (ks.take 0) env n).1.length:Nat):Int)] D v (rows++zk (jG ds (ks.take 0) env n).1)):=by
  show qL _ _ _ _ _ _ _ _;have:=LW.out.k (zQ.al W (.cells #[] 3));rw[HN.out]at this;rw[List.take_zero,YR];simpa [zk]using this
 have T0:Hid (qM W (W.alloc (.cells #[] 3)) q D D v v):=qM.keep (zQ.al _ _);have O0:Hid (∀k,(Value.slice (some ⟨w.heap.size+2,0,none⟩) 0 0).ownBlock=some k→k≠q∧v.ownBlock≠some k∧¬D k):=by
  intro k hk;obtain rfl:w.heap.size+2=k:=by simpa [Value.ownBlock]using hk
  exact⟨fun e=>by have:=LW.out.qlt;have:=hsW.out;omega,fun e=>by have:=LW.out.own _ e;have:=hsW.out;omega,fun e=>by have:=LW.out.lt _ e;have:=hsW.out;omega⟩
 clear x0 x1 u0 u1 u2 sW;go_loopw [15,16] (fun ov iv wr=>∃(j:Nat) (vj:Value) (Dj:Nat→Prop),j≤m∧iv=.int .i64 j∧Hid (VR wr W.heap.size ov (jG ds (ks.take j) env n).2)∧Hid (qL wr base q 196 #[vj,.int .i64 ((n+(jG ds (ks.take j) env n).1.length:Nat):Int)] Dj vj (rows++zk (jG ds (ks.take j) env n).1))∧Hid (qM W wr q D Dj v vj)∧Hid (∀k,ov.ownBlock=some k→k≠q∧vj.ownBlock≠some k∧¬Dj k)) (fun _ iv _=>m-(intOf iv).toNat)
 case atStart=>exact⟨0,v,D,Nat.zero_le _,rfl,V0,L0,T0,O0⟩
 case round=>
  obtain⟨j,vj,Dj,hj,rfl,HV,HL,HT,HO⟩:=hrel;obtain⟨wo,rfl⟩:∃wo:World,wo=wr:=⟨_,rfl⟩;clear V0 L0 T0 O0;have hlj:(jG ds (ks.take j) env n).2.length=j:=by rw[XR,List.length_take,HM.out];omega
  have hs1:=VK ds (ks.take j) env n;have hs2:=jA ks j;obtain⟨sj,hsj⟩:∃s,(jG ds (ks.take j) env n).1=s:=⟨_,rfl⟩;obtain⟨vs,hvs⟩:∃s,(jG ds (ks.take j) env n).2=s:=⟨_,rfl⟩;have HSJ:=LH hsj;have HVS:=LH hvs;rw[hvs]at HV hlj;obtain⟨aO,cO,rfl,hcO,hoO⟩:=HV.out.slice;rw[hsj]at HL hs1;obtain⟨Nj,hNj⟩:∃N:Int,N=((n+sj.length:Nat):Int):=⟨_,rfl⟩;have HNJ:=LH hNj;have hnj0:0≤Nj:=by omega
  have hnj1:Nj≤100000:=by omega
  have HLJ:=LH hlj;have HEJ:=LH (ZD HE.out (by have:=hsW.out;omega) HT.out);have hwo:=HT.out.ext.size;have x0:=z7 HT.out HE.out X0.out (.inr (.inl rfl));have x1:=z7 HT.out HE.out X1.out (.inr (.inl rfl));have u0:=z7 HT.out HE.out U0.out (.inr (.inr rfl));have u1:=z7 HT.out HE.out U1.out (.inr (.inr rfl));have u2:=z7 HT.out HE.out U2.out (.inr (.inr rfl));have hro:rows.length+sj.length≤100000:=by omega
  have hsl:sj.length≤nEs (ks.take j):=hs1;clear hs1 hsj hvs hNj hlj;by_cases hlt:j<m
  ·have hjl:j<ks.length:=by have:=HM.out;omega
   have hq0:=vQ ks hjl;have hq1:=jA ks (j+1);have HLA:=LH (V6 ds env n hjl);obtain⟨b,o,rfl,hb0,ak,nk,ck,d0,d1,d2,rk⟩:=HAT.out j hlt;have d0:=z7 HT.out HE.out d0 hb0;have d1:=z7 HT.out HE.out d1 hb0;have d2:=z7 HT.out HE.out d2 hb0;have qd:=LH (rd0.out.low HE.out HT.out).kd;have qv:=LH (rdv.out.low HE.out HT.out).kd;have qk:=LH (rk.low HE.out HT.out).kd;have LJ:=LH (show qL wo.drew base q 196 #[vj,.int .i64 Nj] Dj vj (rows++zk sj)by rw[HNJ.out];exact HL.out.k (kD wo));clear rk;go_wp2_with fail;go_still_tail 8,(by kernel_rfl);change wpList _ _ _ _ _ wo.drew;go_wp2_with fail;refine(IH.out j hjl vars env (n+sj.length) Nj q base Dj (j7 D1 w) vj (rows++zk sj) _ _ _ _ _ _ _ _ _ _ _ _ wo.drew LJ.out HNJ.out qd.out qv.out qk.out HEJ.out (HTY.out j hjl) hlen (by omega) (by omega) (by rw[List.length_append,qx,List.length_map];omega)).mono ?_;obtain⟨y,hy⟩:∃s,(qG ds (eAt ks j) env (n+sj.length)).2=s:=⟨_,rfl⟩;rw[hy];rintro e w1 ⟨v1,D2,rfl,L1,T1⟩;have T1':=LH ((qM.keep (kD wo)).trans T1);have L1':=LH L1;have HY:=LH hy;have hw1:=T1'.out.ext.size;have hol:=LH (fun k hk=>(HV.out.lt k hk).2);have KA:=zQ.al w1 (.cells #[.int .i64 y] 3);have HV2:=LH ((HV.out.low (fun k hk=>⟨(HO.out k hk).1,(HO.out k hk).2.1⟩) T1'.out).k KA);have hc0:(w1.alloc (.cells #[.int .i64 y] 3)).cell? ⟨w1.heap.size,0,none⟩=some (.int .i64 y):=by simp
   have hbW:W.heap.size≤(w1.alloc (.cells #[.int .i64 y] 3)).heap.size:=by simp;omega
   have KA':=LH KA;clear L1 T1 hy x0 x1 u0 u1 u2 d0 d1 d2 KA;go_wp2_with (at_builtin;go_must (refine ZJ _ rfl (.tmp 135) (.tmp 137) rfl W.heap.size _ vs rfl HV2.out w1.heap.size 1 y rfl hc0 (by have:=HLJ.out;omega) hbW ?_);intro v2 w2 hV);have HV3:=LH hV;clear hV;go_roundw
   case rel=>exact⟨j+1,v1,D2,by omega,by go_num,by
    show VR _ _ _ _
    rw[HLA.out,HSJ.out,HVS.out,HY.out];exact HV3.out.row,by
    show qL _ _ _ _ _ _ _ _
    rw[HLA.out,HSJ.out]
    refine uX ((L1'.out.k KA'.out).ext HV3.out.ext ?_ ?_ ?_) (by rw[List.length_append,Nat.add_assoc]) (by rw[List.append_assoc,←xx])
    ·intro e;exact(gq HO.out hol.out T1'.out L1'.out (v2:=Value.slice aO vs.length cO) (fun r hr=>.inl hr) q e).1 rfl
    ·intro k hk e;exact(gq HO.out hol.out T1'.out L1'.out (v2:=Value.slice aO vs.length cO) (fun r hr=>.inl hr) k e).2.2 hk
    ·intro k hk e;exact(gq HO.out hol.out T1'.out L1'.out (v2:=Value.slice aO vs.length cO) (fun r hr=>.inl hr) k e).2.1 hk,((HT.out.trans T1'.out).post KA'.out).aside HV3.out.ext (fun k hk=>(HV.out.lt k hk).1),gq HO.out hol.out T1'.out L1'.out (fun r hr=>(HV3.out.blk r hr).imp id (fun h=>by simp at h;omega))⟩
   case measure=>simp[intOf];omega
  ·have HJ:=LH (show j=m by omega)
   have HTK:=LH (show ks.take j=ks by rw[HJ.out,←HM.out,List.take_length]);have KB:=zQ.al wo (.cells #[] 69);have KB':=LH KB;have LJ:=LH (show qL (wo.alloc (.cells #[] 69)) base q 196 #[vj,.int .i64 Nj] Dj vj (rows++zk sj)by rw[HNJ.out];exact HL.out.k KB);have OA:=LH ((HV.out.k KB).owns (by have:=HLJ.out;omega));have hol:=LH (fun k hk=>(HV.out.lt k hk).1);clear KB;go_wp2_with fail;refine(GX base q vj Nj Dj (rows++zk sj) op num 0 vs [] aO vs.length cO _ _ _ (fun k=>(Value.slice aO vs.length cO).ownBlock=some k) (fun _=>False) _ LJ.out OA.out (Own.nil _ _ _ _) (fun k hk=>by rcases hk with hk|hk;exact⟨(HO.out k hk).2.2,(HO.out k hk).1,(HO.out k hk).2.1⟩;exact hk.elim) (fun _ _ h=>h) (by rw[List.length_append,qx,List.length_map];omega) hnj0 hnj1).mono ?_;rintro e w5 ⟨rfl,v5,D5,L5,S5,X5,B5⟩;have L5':=LH L5;have T5:=LH (HT.out.add KB'.out X5 S5 (fun k hk=>by rcases hk with hk|hk;exact hol.out k hk;exact hk.elim) B5);clear L5 S5 X5 B5;go_wp2_with fail;refine zB hQ ⟨v5,D5,zE ?_,?_,(qM.keep KW.out).trans T5.out⟩
   ·rw[←HTK.out,HSJ.out];exact HNJ.out
   ·have e1:jG ds ks env n=(sj,vs):=by
     have h1:=HSJ.out;have h2:=HVS.out;rw[HTK.out]at h1 h2;rw[←h1,←h2]
    rw[e1];refine uX L5'.out (by rw[HNJ.out,show((n+sj.length:Nat):Int)+1=((n+(sj++ [qE.mk op num 0 vs []]).length:Nat):Int)by rw[List.length_append,List.length_singleton];omega]) (by rw[xx,gT,List.append_assoc])
end
theorem YL(ks:List zK){j:Nat}(h:j+1<ks.length):nE (eAt ks 0)+nE (eAt ks (j+1))≤nEs ks:=by
 match ks,h with
 |k::ks,h=>
  have:=yN ks (j:=j) (by simpa using h);have e1:eAt (k::ks) 0=k:=by simp[eAt]
  have e2:eAt (k::ks) (j+1)=eAt ks j:=by simp[eAt]
  rw[e1,e2,nEs];omega
theorem kQ(w:World)(x:Int):Own (w.alloc (.cells #[.int .i64 x] 3)) (fun k=>k=w.heap.size) (zY [x]) (.slice (some ⟨w.heap.size,0,none⟩) 1 1):=by
 refine jB.toOwn ⟨rfl,fun _=>⟨w.heap.size,_,_,rfl,rfl,Nat.le_refl _,zP w #[.int .i64 x] 3,fun i hi=>?_⟩⟩ (Nat.le_refl _) (by omega);obtain rfl:i=0:=by omega
 rfl
theorem yU{P:Program}{ops:Array Oper}{o:Oper}{a:Act}{w:World}{K:Act→World→Prop}{Q:Exit→Act→World→Prop}(hgd:o.guard=none)(h:if Region.wanted o (yielded ops a.tmps)=true then Oper.wp P o a w K Q else True):Oper.wp P o a w K Q:=by
 have hw:Region.wanted o (yielded ops a.tmps)=true:=by simp[Region.wanted,hgd]
 rwa[if_pos hw]at h
theorem uE{ops:Array Oper}{o:Oper}{a:Act}{w:World}{K:Act→World→Prop}{Q:Exit→Act→World→Prop}{E:Prop}(hgd:o.guard=none)(s x:Operand)
  (ho:o.op=.call {callee:=.builtin .append,args:= #[s,x],argTypes:= #[134,134]})
  (base:Nat) (v:Value) (rows:List (List Dat)) (hs:a.eval s=v) {D0:Nat→Prop} (hacc:Acc w base D0 69 2 v rows)
  (g c:Nat) (ss:List qE) (r:Int) (A:Value) (ES:Nat→Prop) (hx:a.eval x=.slice (some ⟨g,0,none⟩) 1 c) (hcells:∀j u, [A,.int .i64 r][j]?=some u→w.cell? ⟨g,j,none⟩=some u)
  (hA:Own w ES (zF ss) A) (hE:∀k,ES k→¬D0 k∧v.ownBlock≠some k) (hlen:rows.length≤100000) (hbase:base≤w.heap.size)
  (h:∀a' n' c' w',Acc w' base (fun k=>D0 k∨ES k∧k<w.heap.size) 69 2 (.slice a' n' c') (rows++ [BT (.mk ss r)])→Ext (fun k=>v.ownBlock=some k) w w'→w.heap.size≤w'.heap.size→(∀k,(Value.slice a' n' c').ownBlock=some k→v.ownBlock=some k∨w.heap.size≤k)→K (a.put o.dst (.slice a' n' c')) w'):
  if Region.wanted o (yielded ops a.tmps)=true then Oper.wp Tryz.prog o a w K Q else E:=by
 obtain⟨xs,E',h1,_⟩:=id hacc;have o1:A.oneCell'=true:=hA.read.one;refine Y5 hgd s x 134 ho base 69 (.agg #[.slice none 0 0,.int .i64 0]) 2 32 Tryz.underlying134 (by kernel_rfl) rfl (by omega) v rows.length xs hs h1 (some ⟨g,0,none⟩) 1 c [A,.int .i64 r] hx ⟨rfl,fun _=>⟨g,0,rfl,fun j u hj=>by rw[Nat.zero_add];exact hcells j u hj⟩⟩
  (by intro u hu;simp at hu;rcases hu with rfl|rfl<;>first|rfl|assumption) (by omega) (by omega) hbase (fun v' w' q1 q2 q3=>?_)
 have hfin:Acc w' base (fun k=>D0 k∨ES k∧k<w.heap.size) 69 2 v' (rows++ [BT (.mk ss r)]):=?_
 ·obtain⟨a',c',rfl,_,_⟩:=hfin.own (by omega) (by simp;omega)
  exact h _ _ _ w' hfin ⟨q2.os,q2.tape,q2.output,q2.size,fun k hk hn=>q2.block k hk (fun e=>hn e.symm)⟩ q2.size (fun k hk=>by
   rcases q3 with e|e
   ·rw[e]at hk;exact .inl hk
   ·rw[e]at hk;injection hk with hk;exact .inr (by omega))
 refine hacc.push (r:=BT (.mk ss r)) (news:= [A,.int .i64 r]) (D2:=fun j k=>(j=0∧ES k)∧k<w.heap.size) rfl rfl (fun j u hj=>?_) (fun j k hj hk=>⟨.inr ⟨hk.1.2,hk.2⟩,(hE k hk.1.2).1,(hE k hk.1.2).2,hk.2⟩) (fun j j' k _ _ h1 h2=>h1.1.1.trans h2.1.1.symm) (fun k hk=>.inl hk) (fun xs' hxs'=>?_) q2 q3
 ·rcases(show j=0∨j=1 by have:=(List.getElem?_eq_some_iff.1 hj).1;simp at this;omega)with rfl|rfl
  ·simp at hj;subst hj;exact hA.lt.mono (fun k hk=>⟨⟨rfl,hk.1⟩,hk.2⟩)
  ·simp at hj;subst hj;exact .num _ r
 ·rw[uy h1 hxs']
  exact q1
def LwB(ds:List zG)(sg:List yJ)(e:zK):Prop:=∀(vars env:List Int) (n:Nat) (N:Int) (a0:Option Addr) (n0 c0:Nat) (a1:Option Addr) (n1 c1:Nat) (av:Option Addr) (nv cv:Nat) (a:Option Addr) (m c:Nat) (w:World),
 N=(n:Int)→Rd w (fun _=>True) (z5 ds) (.slice a0 n0 c0)→Rd w (fun _=>True) (zY env) (.slice av nv cv)→Rd w (fun _=>True) (zJ e.kids) (.slice a m c)→
 0≤tyE ds sg vars e→vars.length=env.length→env.length+4*nE e≤4000→n+4*nE e≤4000→
 Calls Tryz.prog 100 #[.agg #[.slice a0 n0 c0,.slice a1 n1 c1],.agg #[.int .i64 e.op,.int .i64 e.num,.slice a m c],.slice av nv cv,.int .i64 N] w fun r w'=>
  ∃a' n' c',r=.returned (.agg #[.slice a' n' c',.int .i64 (qG ds e env n).2])∧Own w' (fun k=>w.heap.size≤k) (zF (qG ds e env n).1) (.slice a' n' c')∧zQ w w'
theorem vY(ds:List zG)(sg:List yJ)(e:zK)(IH0:LwS ds sg e):LwB ds sg e:=by
 intro vars env n N a0 n0 c0 a1 n1 c1 av nv cv a m c w hN r0 rv re hty hlen hB1 hB2;refine zV fun Q hQ=>?_;have IH:=LH IH0;obtain⟨op,hop⟩:∃o,e.op=o:=⟨_,rfl⟩;obtain⟨num,hnum⟩:∃o,e.num=o:=⟨_,rfl⟩;have HO:=LH hop;have HU:=LH hnum;rw[hop,hnum];have HN:=LH hN;have KA:=((zQ.al w (.cells #[.slice a0 n0 c0,.slice a1 n1 c1] 44)).trans (zQ.al _ (.cells #[.int .i64 op,.int .i64 num,.slice a m c] 58))).trans (zQ.al _ (.cells #[.slice none 0 0,.int .i64 0] 69));have RZ:=zP ((w.alloc (.cells #[.slice a0 n0 c0,.slice a1 n1 c1] 44)).alloc (.cells #[.int .i64 op,.int .i64 num,.slice a m c] 58)) #[.slice none 0 0,.int .i64 0] 69;simp only[World.size_alloc]at RZ;have sA:(((w.alloc (.cells #[.slice a0 n0 c0,.slice a1 n1 c1] 44)).alloc (.cells #[.int .i64 op,.int .i64 num,.slice a m c] 58)).alloc (.cells #[.slice none 0 0,.int .i64 0] 69)).heap.size=w.heap.size+3:=by simp
 have LA:Hid (qL (((((w.alloc (.cells #[.slice a0 n0 c0,.slice a1 n1 c1] 44)).alloc (.cells #[.int .i64 op,.int .i64 num,.slice a m c] 58)).alloc (.cells #[.slice none 0 0,.int .i64 0] 69)).alloc (.cells #[] 136)).alloc (.cells #[.slice (some ⟨w.heap.size+3,0,none⟩) 0 0,.int .i64 N] 196)) (w.heap.size+3) (w.heap.size+4) 196 #[.slice (some ⟨w.heap.size+3,0,none⟩) 0 0,.int .i64 N] (fun _=>False) (.slice (some ⟨w.heap.size+3,0,none⟩) 0 0) []):=by
  have h:=zP ((((w.alloc (.cells #[.slice a0 n0 c0,.slice a1 n1 c1] 44)).alloc (.cells #[.int .i64 op,.int .i64 num,.slice a m c] 58)).alloc (.cells #[.slice none 0 0,.int .i64 0] 69)).alloc (.cells #[] 136)) #[.slice (some ⟨w.heap.size+3,0,none⟩) 0 0,.int .i64 N] 196;have h2:=(Acc.made (((w.alloc (.cells #[.slice a0 n0 c0,.slice a1 n1 c1] 44)).alloc (.cells #[.int .i64 op,.int .i64 num,.slice a m c] 58)).alloc (.cells #[.slice none 0 0,.int .i64 0] 69)) (fun _=>False) 136 5).keep (zQ.al _ (.cells #[.slice (some ⟨w.heap.size+3,0,none⟩) 0 0,.int .i64 N] 196));simp only[World.size_alloc]at h h2;exact⟨h,h2,fun h=>h,fun k hk=>by have:w.heap.size+3=k:=(by simpa [Value.ownBlock]using hk);omega,fun _ h=>h.elim,by simp only[World.size_alloc];omega⟩
 have KB:=(KA.trans (zQ.al _ (.cells #[] 136))).trans (zQ.al _ (.cells #[.slice (some ⟨w.heap.size+3,0,none⟩) 0 0,.int .i64 N] 196));have RB:=LH ((RZ.alloc (.cells #[] 136)).alloc (.cells #[.slice (some ⟨w.heap.size+3,0,none⟩) 0 0,.int .i64 N] 196));have qd:=LH ((r0.lt.mono (D':=fun k=>k<w.heap.size) (fun k h=>h.2)).k KB);have qv:=LH ((rv.lt.mono (D':=fun k=>k<w.heap.size) (fun k h=>h.2)).k KB);have qk:=LH ((re.lt.mono (D':=fun k=>k<w.heap.size) (fun k h=>h.2)).k KB);have KB':=LH KB;obtain⟨s,hs⟩:∃s,(qG ds e env n).1=s:=⟨_,rfl⟩;obtain⟨y,hy⟩:∃s,(qG ds e env n).2=s:=⟨_,rfl⟩;have hsl:s.length≤nE e:=by rw[←hs];exact vK ds _ _ _
 rw[hs,hy]at hQ;have HS:=LH hs;have HY:=LH hy;clear KB KA RZ hs hy hN r0 rv re IH0 hop hnum sA;go_in;go_wp2_with fail;have hc:=IH.out vars env n N (w.heap.size+4) (w.heap.size+3) (fun _=>False) (fun k=>k<w.heap.size) (.slice (some ⟨w.heap.size+3,0,none⟩) 0 0) [] a0 n0 c0 a1 n1 c1 av nv cv a m c _ LA.out HN.out qd.out qv.out qk.out (fun k hk=>⟨by omega,fun e=>by have:w.heap.size+3=k:=(by simpa [Value.ownBlock]using e);omega⟩) hty hlen hB1 hB2 (by simp;omega);rw[HO.out,HU.out,HS.out,HY.out]at hc;refine hc.mono ?_;rintro e w1 ⟨v1,D1,rfl,L1,T1⟩;clear hc;obtain⟨a1',c1',rfl,hc1,ho1⟩:=L1.acc.own (by omega) (by rw[List.nil_append,qx,List.length_map];omega);rw[List.nil_append]at ho1 hc1;have hl:(zk s).length=s.length:=by rw[qx,List.length_map]
 have z0:=L1.row.cell (i:=0) (by simp);have hT:∀k,(k=w.heap.size+4∨(Value.slice (some ⟨w.heap.size+3,0,none⟩) 0 0).ownBlock=some k)→w.heap.size+3≤k:=by
  intro k hk;rcases hk with rfl|hk
  ·omega
  ·have:w.heap.size+3=k:=by simpa [Value.ownBlock]using hk
   omega
 have RZ2:=zX RB.out T1.ext (fun h=>by have:=hT _ h;omega);have b0:=RZ2.cell (i:=0) (by simp);have b1:=RZ2.cell (i:=1) (by simp);have f0:=RZ2.frozen 0;have f1:=RZ2.frozen 1;have hD1:∀k,(D1 k∨w.heap.size+3≤k)→w.heap.size+3≤k:=by
  intro k hk;rcases hk with hk|hk
  ·rcases T1.sub k hk with h|h
   ·exact h.elim
   ·simp at h;omega
  ·exact hk
 have KF:=(KB'.out.then_ T1.ext (fun i hi h=>by have:=hT _ h;omega)).then_ (((Ext.refl (fun k=>k=w.heap.size+2) w1).setCell (p:=⟨w.heap.size+2,0,none⟩) (.inr rfl) (.slice a1' ((([]:List (List Dat))++zk s).length) c1')).setCell (p:=⟨w.heap.size+2,1,none⟩) (.inr rfl) (.int .i64 y)) (fun i hi h=>by omega);have OF:=(ho1.ext (((Ext.refl (fun k=>k=w.heap.size+2) w1).setCell (p:=⟨w.heap.size+2,0,none⟩) (.inr rfl) (.slice a1' ((([]:List (List Dat))++zk s).length) c1')).setCell (p:=⟨w.heap.size+2,1,none⟩) (.inr rfl) (.int .i64 y)) (fun k hk e=>by have:=hD1 k hk;omega)).mono (D':=fun k=>w.heap.size≤k) (fun k hk=>by have:=hD1 k hk;omega);rw[List.nil_append,hl]at*;simp at z0 b0 b1;have OF':=LH OF;have KF':=LH KF;clear L1 T1 RZ2 OF KF ho1 hT hD1;go_wp2_with fail;exact bodyPost_ret (v:=.agg #[.slice a1' s.length c1',.int .i64 y]) (by simp[results,Tryz.results100,go_sem,b0,b1]) rfl (zB hQ ⟨a1',s.length,c1',rfl,OF'.out,KF'.out⟩)
end Go.Proofs.YtkapldpmjkdmcaaGreat
