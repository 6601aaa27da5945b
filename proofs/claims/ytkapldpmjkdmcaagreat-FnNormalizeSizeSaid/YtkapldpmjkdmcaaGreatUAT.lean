/- The steps of a block, counted by the reference and by the program. -/
import Derived.Test.YtkapldpmjkdmcaaGreatUAB
import Derived.Test.YtkapldpmjkdmcaaGreatUAC
import Derived.Test.YtkapldpmjkdmcaaGreatUAJ
import Derived.Test.YtkapldpmjkdmcaaGreatUAE
import Derived.Test.YtkapldpmjkdmcaaGreatUAF
import Derived.Test.YtkapldpmjkdmcaaGreatUAR
import Derived.Test.YtkapldpmjkdmcaaGreatUAA
import Derived.Deep.RegionHeld3
import Derived.Deep.DeepCutAuto
namespace Go.Proofs.YtkapldpmjkdmcaaGreat
open Go.RowKit
set_option maxRecDepth 100000
set_option maxHeartbeats 2000000
mutual
def nS:qE→Nat
 | .mk _ _ _ _ ks=>nBs ks+1
def nSs:List qE→Nat
 | []=>0
 |s::ss=>nS s+nSs ss
def nB:yK→Nat
 | .mk ss _=>nSs ss
def nBs:List yK→Nat
 | []=>0
 |b::bs=>nB b+nBs bs
end
theorem DF(s:qE):nS s=nBs s.kids+1:=by cases s;rw[nS];rfl
theorem Lq(b:yK):nB b=nSs b.steps:=by cases b;rw[nB];rfl
theorem vL(a b:List qE):nSs (a++b)=nSs a+nSs b:=by induction a<;>simp_all [nSs,Nat.add_assoc]
theorem UE(a b:List yK):nBs (a++b)=nBs a+nBs b:=by induction a<;>simp_all [nBs,Nat.add_assoc]
theorem XN(es:List qE){j:Nat}(h:j<es.length):nSs (es.take (j+1))=nSs (es.take j)+nS (sAt es j):=by rw[List.take_succ_eq_append_getElem h,DB h,vL];simp[nSs]
theorem UL(es:List yK){j:Nat}(h:j<es.length):nBs (es.take (j+1))=nBs (es.take j)+nB (bAt es j):=by rw[List.take_succ_eq_append_getElem h,Vw h,UE];simp[nBs]
theorem Zx(es:List qE)(j:Nat):nSs (es.take j)≤nSs es:=by
 conv=>rhs;rw[←List.take_append_drop j es,vL]
 omega
theorem QJ(es:List yK)(j:Nat):nBs (es.take j)≤nBs es:=by
 conv=>rhs;rw[←List.take_append_drop j es,UE]
 omega
theorem Pj(es:List qE){j:Nat}(h:j<es.length):nS (sAt es j)≤nSs es:=by
 have h1:=XN es h;have h2:=Zx es (j+1);omega
theorem RW(es:List yK){j:Nat}(h:j<es.length):nB (bAt es j)≤nBs es:=by
 have h1:=UL es h;have h2:=QJ es (j+1);omega
theorem GC(ss:List qE){j k:Nat}(h:j<ss.length)(h2:k<(sAt ss j).kids.length):nSs (bAt (sAt ss j).kids k).steps<nSs ss:=by
 have:=Pj ss h;have:=DF (sAt ss j);have:=RW (sAt ss j).kids h2;have:=Lq (bAt (sAt ss j).kids k);omega
def JW(ss:List qE):Int:=if nSs ss≤600 then(nSs ss:Int)else -1
theorem YY{ss:List qE}(h:nSs ss≤600):JW ss=(nSs ss:Int):=if_pos h
theorem VG{ss:List qE}(h:¬nSs ss≤600):JW ss= -1:=if_neg h
theorem kw(N:Nat):∀(ss:List qE) (res:Int),nSs ss<N→∀(a:Option Addr) (n c p:Nat) (D:Nat→Prop) (m:Int) (w:World),Rd w D (zF ss) (.slice a n c)→¬D p→w.rowIs p 3 1 (fun _=>.int .i64 m)→0≤m→m≤600→
  Calls Tryz.prog 72 #[.agg #[.slice a n c,.int .i64 res],.pointer (some ⟨p,0,none⟩)] w fun e w'=>e=.returned (.bool (decide (m+(nSs ss:Int)≤600)))∧
   (m+(nSs ss:Int)≤600→w'.rowIs p 3 1 (fun _=>.int .i64 (m+(nSs ss:Int))))∧Ext (·=p) w w':=by
 induction N with
 |zero=>intro ss _ h;omega
 |succ N ihN=>
 intro ss res hN a n c p D m w h hDp hp h0 h1;refine zV fun Q hQ=>?_;obtain⟨e1,hnc,hm,hat⟩:=gx h;have HL:=LH e1;have HA:=LH hat;have IH:=LH (fun(j k:Nat) (hj:j<ss.length) (hk:k<(sAt ss j).kids.length)=>ihN (bAt (sAt ss j).kids k).steps (bAt (sAt ss j).kids k).result (by have:=GC ss hj hk;omega));have hbox:∀k,D k→k≠p:=fun k hk e=>hDp (e▸hk);have HB:=LH hbox;clear e1 hat ihN hN hbox;have hpl:=hp.lt;have HP:=LH hp;have Hh:=LH h;clear hp h;have X0:Ext (·=p) w (w.alloc (.cells #[.slice a n c,.int .i64 res] 69)):=zQ.to (zQ.al _ _);have HX0:=LH X0;clear X0;have x0:=xQ (Ext.refl (fun _=>False) (w.alloc (.cells #[.slice a n c,.int .i64 res] 69))) 0;simp at x0;go_in;go_wp2;go_loopw [12] (fun iv wr=>∃j:Nat,j≤n∧iv=.int .i64 j∧Hid (wr.rowIs p 3 1 (fun _=>.int .i64 (m+(nSs (ss.take j):Int))))∧m+(nSs (ss.take j):Int)≤600∧Ext (·=p) w wr) (fun i _=>n-(intOf i).toNat)
 case atStart=>exact⟨0,Nat.zero_le _,rfl,by show World.rowIs _ _ _ _ _;simpa [nSs]using HP.out.alloc _,by simp only[List.take_zero,nSs];omega,HX0.out⟩
 case round=>
  obtain⟨wo,rfl⟩:∃wo:World,wo=wr:=⟨_,rfl⟩;obtain⟨j,hj,rfl,hR,hsz,hX⟩:=hrel;clear x0;by_cases hlt:j<n
  ·have hst:=XN ss (j:=j) (by have:=HL.out;omega)
   have hee:=DF (sAt ss j);have hle:=Zx ss (j+1);obtain⟨b,o,rfl,hd,a3,n3,c3,a4,n4,c4,d0,d1,d2,d3,d4,r3,r4⟩:=HA.out j hlt;have g0:=hX.cq d0 (HB.out _ hd);have g1:=hX.cq d1 (HB.out _ hd);have g2:=hX.cq d2 (HB.out _ hd);have g3:=hX.cq d3 (HB.out _ hd);have g4:=hX.cq d4 (HB.out _ hd);have q4:=r4.ext hX HB.out;have hRl:=hR.out.lt;have v0:=hR.out.cell (i:=0) (by omega);have f0:=hR.out.frozen 0;have X1:Ext (·=p) wo ((wo.setCell ⟨p,0,none⟩ (.int .i64 (m+(nSs (ss.take j):Int)+1))).alloc (.cells #[.int .i64 (sAt ss j).op,.int .i64 (sAt ss j).num,.int .i64 (sAt ss j).into,.slice a3 n3 c3,.slice a4 n4 c4] 136)):=((Ext.refl (·=p) wo).setCell (p:=⟨p,0,none⟩) (.inr rfl) _).alloc _;have R1:((wo.setCell ⟨p,0,none⟩ (.int .i64 (m+(nSs (ss.take j):Int)+1))).alloc (.cells #[.int .i64 (sAt ss j).op,.int .i64 (sAt ss j).num,.int .i64 (sAt ss j).into,.slice a3 n3 c3,.slice a4 n4 c4] 136)).rowIs p 3 1 (fun _=>.int .i64 (m+(nSs (ss.take j):Int)+1)):=
    ((hR.out.set 0 (.int .i64 (m+(nSs (ss.take j):Int)+1))).alloc _).congr (fun i hi=>by rw[if_pos (by omega)])
   have HX1:=LH X1;have HR1:=LH R1;have HS:=LH hst;have HE:=LH hee;have HLE:=LH hle;clear X1 R1 d0 d1 d2 d3 d4 r3 r4 hst hee hle;by_cases hm6:600<m+(nSs (ss.take j):Int)+1
   ·have V:¬m+(nSs ss:Int)≤600:=by have:=HS.out;have:=HE.out;have:=HLE.out;omega
    have V3:=LH (decide_eq_false V);clear q4;go_wp2_with fail;exact zB hQ ⟨qK V3.out.symm,fun h=>by omega,hX.trans HX1.out⟩
   obtain⟨e4,hnc4,hm4,hat4⟩:=kR (q4.ext HX1.out HB.out);have HL4:=LH e4;have HA4:=LH hat4;clear e4 hat4 q4;go_wp2_with fail;go_loopw [28] (fun iv wr=>∃k:Nat,k≤n4∧iv=.int .i64 k∧Hid (wr.rowIs p 3 1 (fun _=>.int .i64 (m+(nSs (ss.take j):Int)+1+(nBs ((sAt ss j).kids.take k):Int))))∧m+(nSs (ss.take j):Int)+1+(nBs ((sAt ss j).kids.take k):Int)≤600∧Ext (·=p) ((wo.setCell ⟨p,0,none⟩ (.int .i64 (m+(nSs (ss.take j):Int)+1))).alloc (.cells #[.int .i64 (sAt ss j).op,.int .i64 (sAt ss j).num,.int .i64 (sAt ss j).into,.slice a3 n3 c3,.slice a4 n4 c4] 136)) wr) (fun i _=>n4-(intOf i).toNat)
   case atStart=>exact⟨0,Nat.zero_le _,rfl,by show World.rowIs _ _ _ _ _;simpa [nBs]using HR1.out,by simp only[List.take_zero,nBs];omega,Ext.refl _ _⟩
   case round=>
    obtain⟨k,hk,rfl,hR2,hsz2,hX2⟩:=hrel;clear v0 f0 g0 g1 g2 g3 g4;by_cases hltk:k<n4
    ·have hstk:=UL (sAt ss j).kids (j:=k) (by have:=HL4.out;omega)
     have heek:=Lq (bAt (sAt ss j).kids k);have hlek:=QJ (sAt ss j).kids (k+1);obtain⟨b4,o4,rfl,hd4,a5,n5,c5,t0,t1,r5⟩:=HA4.out k hltk;have y0:=hX2.cq t0 (HB.out _ hd4);have y1:=hX2.cq t1 (HB.out _ hd4);have q5:=(r5.ext hX2 HB.out).k (zQ.al wr (.cells #[.slice a5 n5 c5,.int .i64 (bAt (sAt ss j).kids k).result] 69));have hR3:=LH (hR2.out.alloc (.cells #[.slice a5 n5 c5,.int .i64 (bAt (sAt ss j).kids k).result] 69));have hX3:=LH (hX2.trans (zQ.to (zQ.al wr (.cells #[.slice a5 n5 c5,.int .i64 (bAt (sAt ss j).kids k).result] 69))));have HSk:=LH hstk;have HEk:=LH heek;have HLk:=LH hlek;clear t0 t1 r5 hstk heek hlek hR2 hX2;by_cases hf:m+(nSs (ss.take j):Int)+1+(nBs ((sAt ss j).kids.take (k+1)):Int)≤600
     ·have V:Hid (decide (m+(nSs (ss.take j):Int)+1+(nBs ((sAt ss j).kids.take k):Int)+(nSs (bAt (sAt ss j).kids k).steps:Int)≤600)=true):=by
       have:=HSk.out;have:=HEk.out;exact decide_eq_true (by omega)
      go_wp2_with fail;refine(IH.out j k (by have:=HL.out;omega) (by have:=HL4.out;omega) _ _ _ p D _ _ q5 hDp hR3.out (by omega) hsz2).mono ?_;rw[V.out];rintro e w1 ⟨rfl,hr1,p1⟩;have HR4:Hid (w1.rowIs p 3 1 (fun _=>.int .i64 (m+(nSs (ss.take j):Int)+1+(nBs ((sAt ss j).kids.take (k+1)):Int)))):=by
       have:=HSk.out;have:=HEk.out;show World.rowIs _ _ _ _ _;rw[show m+(nSs (ss.take j):Int)+1+(nBs ((sAt ss j).kids.take (k+1)):Int)=m+(nSs (ss.take j):Int)+1+(nBs ((sAt ss j).kids.take k):Int)+(nSs (bAt (sAt ss j).kids k).steps:Int)by omega];exact hr1 (by omega)
      clear hr1;go_wp2_with fail;go_roundw
      case rel=>exact⟨k+1,by omega,by go_num,HR4,hf,hX3.out.trans p1⟩
      case measure=>simp[intOf];omega
     ·have V:Hid (decide (m+(nSs (ss.take j):Int)+1+(nBs ((sAt ss j).kids.take k):Int)+(nSs (bAt (sAt ss j).kids k).steps:Int)≤600)=false):=by
       have:=HSk.out;have:=HEk.out;exact decide_eq_false (by omega)
      have V2:¬m+(nSs ss:Int)≤600:=by have:=HS.out;have:=HE.out;have:=HLE.out;have:=HLk.out;omega
      have V3:=LH (decide_eq_false V2);go_wp2_with fail;refine(IH.out j k (by have:=HL.out;omega) (by have:=HL4.out;omega) _ _ _ p D _ _ q5 hDp hR3.out (by omega) hsz2).mono ?_;rw[V.out];rintro e w1 ⟨rfl,_,p1⟩;go_wp2_with fail;exact zB hQ ⟨qK V3.out.symm,fun h=>by omega,(hX.trans HX1.out).trans (hX3.out.trans p1)⟩
    ·have HK:=LH (show k=n4 by omega)
     have hz:(nSs (ss.take (j+1)):Int)=(nSs (ss.take j):Int)+1+(nBs ((sAt ss j).kids.take k):Int):=by
      have:=HS.out;have:=HE.out;rw[List.take_of_length_le (l:=(sAt ss j).kids) (i:=k) (by have:=HK.out;have:=HL4.out;omega)];omega
     have HZ:=LH hz;clear hz;go_wp2_with fail;go_roundw
     case rel=>exact⟨j+1,by omega,by go_num,by
      show World.rowIs _ _ _ _ _
      rw[show m+(nSs (ss.take (j+1)):Int)=m+(nSs (ss.take j):Int)+1+(nBs ((sAt ss j).kids.take k):Int)by have:=HZ.out;omega]
      exact hR2.out,by have:=HZ.out;omega,(hX.trans HX1.out).trans hX2⟩
     case measure=>simp[intOf];omega
  ·have HJ:=LH (show j=n by omega)
   have hfin:m+(nSs ss:Int)=m+(nSs (ss.take j):Int):=by
    have e:=HJ.out;subst e;rw[List.take_of_length_le (Nat.le_of_eq HL.out)]
   have HF:=LH hfin;clear hfin;go_wp2;exact zB hQ ⟨qK (decide_eq_true (by rw[HF.out];exact hsz)).symm,fun _=>by rw[HF.out];exact hR.out,hX⟩
theorem WT(ss:List qE)(res:Int)(a:Option Addr)(n c:Nat)(D:Nat→Prop)(w:World)(h:Rd w D (zF ss) (.slice a n c)):
  Calls Tryz.prog 30 #[.agg #[.slice a n c,.int .i64 res]] w fun e w'=>e=.returned (.int .i64 (JW ss))∧zQ w w':=by
 refine zV fun Q hQ=>?_;have K0:=zQ.al w (.cells #[.slice a n c,.int .i64 res] 69);have K1:=zQ.al (w.alloc (.cells #[.slice a n c,.int .i64 res] 69)) (.cells #[.int .i64 0] 3);have R:=zP (w.alloc (.cells #[.slice a n c,.int .i64 res] 69)) #[.int .i64 0] 3;simp only[World.size_alloc]at R;replace R:=R.congr (g:=fun _=>.int .i64 0) (fun i hi=>by
  obtain rfl:i=0:=by simpa using hi
  rfl)
 have h':=((h.lt.k K0).k K1);have HR:=LH R;clear R;by_cases hl:nSs ss≤600
 ·have V:=LH (YY hl)
  have V2:Hid (decide (0+(nSs ss:Int)≤600)=true):=decide_eq_true (by omega);have hl2:0+(nSs ss:Int)≤600:=by omega
  go_in;go_wp2_with fail;refine(kw _ ss res (Nat.lt_succ_self _) _ _ _ (w.heap.size+1) _ 0 _ h' (by omega) HR.out (by omega) (by omega)).mono ?_;rw[V2.out];rintro e w1 ⟨rfl,hr,p1⟩;have v0:=(hr hl2).cell (i:=0) (by omega);clear hr;go_wp2_with fail;exact zB hQ ⟨zE (by simp[V.out]),(K0.trans K1).then_ p1 (fun q hq e=>by omega)⟩
 ·have V:=LH (VG hl)
  have V2:Hid (decide (0+(nSs ss:Int)≤600)=false):=decide_eq_false (by omega);clear hl;go_in;go_wp2_with fail;refine(kw _ ss res (Nat.lt_succ_self _) _ _ _ (w.heap.size+1) _ 0 _ h' (by omega) HR.out (by omega) (by omega)).mono ?_;rw[V2.out];rintro e w1 ⟨rfl,_,p1⟩;go_wp2_with fail;exact zB hQ ⟨zE V.out.symm,(K0.trans K1).then_ p1 (fun q hq e=>by omega)⟩
def kG:List Int→Int→List Int
 | [],n=> [n]
 |x::xs,n=>if n<x then n::x::xs else if n=x then x::xs else x::kG xs n
def Asc(xs:List Int):Prop:=xs.Pairwise (· < ·)
theorem MN(xs:List Int)(n:Int):(kG xs n).length≤xs.length+1:=by
 induction xs with
 |nil=>simp[kG]
 |cons x xs ih=>
  simp only[kG];split
  ·simp
  ·split
   ·simp
   ·simp only[List.length_cons];omega
theorem WR(xs:List Int)(n x:Int):x∈kG xs n↔x=n∨x∈xs:=by
 induction xs with
 |nil=>simp[kG]
 |cons y ys ih=>
  simp only[kG];split
  ·simp
  ·split
   ·next h=>subst h;simp
   ·simp only[List.mem_cons,ih]
    constructor
    ·rintro(h|h|h)
     ·exact .inr (.inl h)
     ·exact .inl h
     ·exact .inr (.inr h)
    ·rintro(h|h|h)
     ·exact .inr (.inl h)
     ·exact .inl h
     ·exact .inr (.inr h)
theorem Lw{xs:List Int}{n:Int}(h:Asc xs):Asc (kG xs n):=by
 induction xs with
 |nil=>simp[kG,Asc]
 |cons y ys ih=>
  obtain⟨h1,h2⟩:=List.pairwise_cons.1 h;simp only[kG];split
  ·next hn=>
   refine List.pairwise_cons.2 ⟨fun z hz=>?_,h⟩;rcases List.mem_cons.1 hz with rfl|hz
   ·exact hn
   ·have:=h1 z hz;omega
  ·split
   ·exact h
   ·next hn hne=>
    refine List.pairwise_cons.2 ⟨fun z hz=>?_,ih h2⟩;rcases(WR ys n z).1 hz with rfl|hz
    ·omega
    ·exact h1 z hz
theorem DV:∀ {xs ys:List Int},Asc xs→Asc ys→(∀x,x∈xs↔x∈ys)→xs=ys
 | [], [],_,_,_=>rfl
 | [],y::ys,_,_,h=>absurd ((h y).2 (by simp)) (by simp)
 |x::xs, [],_,_,h=>absurd ((h x).1 (by simp)) (by simp)
 |x::xs,y::ys,hx,hy,h=>by
  obtain⟨hx1,hx2⟩:=List.pairwise_cons.1 hx
  obtain⟨hy1,hy2⟩:=List.pairwise_cons.1 hy
  have e:x=y:=by
   rcases List.mem_cons.1 ((h x).1 (by simp))with e|hm
   ·exact e
   ·rcases List.mem_cons.1 ((h y).2 (by simp))with e|hm'
    ·exact e.symm
    ·have:=hy1 x hm;have:=hx1 y hm';omega
  subst e
  have e2:xs=ys:=DV hx2 hy2 (fun z=>by
   constructor
   ·intro hz
    rcases List.mem_cons.1 ((h z).1 (by simp[hz]))with e|hm
    ·have:=hx1 z hz;omega
    ·exact hm
   ·intro hz
    rcases List.mem_cons.1 ((h z).2 (by simp[hz]))with e|hm
    ·have:=hy1 z hz;omega
    ·exact hm)
  rw[e2]
def ux(xs:List Int)(n:Int)(j:Nat)(out:List Int)(done:Bool):Prop:=
 if done=true then out++xs.drop j=kG xs n else out=xs.take j∧kG xs n=xs.take j++kG (xs.drop j) n
theorem ux.start(xs:List Int)(n:Int):ux xs n 0 [] false:=by simp[ux]
theorem YC{xs:List Int}{j:Nat}(h:j<xs.length):xs.drop j=iAt xs j::xs.drop (j+1):=by rw[List.drop_eq_getElem_cons h,gz h]
theorem LP{xs:List Int}{j:Nat}(h:j<xs.length):xs.take (j+1)=xs.take j++ [iAt xs j]:=by rw[List.take_succ_eq_append_getElem h,gz h]
section
variable {xs:List Int}{n:Int}{j:Nat}{out:List Int}
theorem ux.low(h:ux xs n j out false)(hj:j<xs.length)(hx:iAt xs j<n):ux xs n (j+1) (out++ [iAt xs j]) false:=by
 simp only[ux,Bool.false_eq_true,if_false]at h ⊢;obtain⟨h1,h2⟩:=h;rw[LP hj];refine⟨by rw[h1],?_⟩;rw[h2,YC hj,kG,if_neg (by omega),if_neg (by omega),List.append_assoc];rfl
theorem ux.same(h:ux xs n j out false)(hj:j<xs.length)(hx:iAt xs j=n):ux xs n (j+1) (out++ [iAt xs j]) true:=by
 simp only[ux,Bool.false_eq_true,if_false,if_true]at h ⊢;obtain⟨h1,h2⟩:=h;rw[h2,h1,YC hj,kG,if_neg (by omega),if_pos hx.symm,List.append_assoc];rfl
theorem ux.over(h:ux xs n j out false)(hj:j<xs.length)(hx:n<iAt xs j):ux xs n (j+1) (out++ [n]++ [iAt xs j]) true:=by
 simp only[ux,Bool.false_eq_true,if_false,if_true]at h ⊢;obtain⟨h1,h2⟩:=h;rw[h2,h1,YC hj,kG,if_pos hx];simp
theorem ux.rest(h:ux xs n j out true)(hj:j<xs.length):ux xs n (j+1) (out++ [iAt xs j]) true:=by
 simp only[ux,if_true]at h ⊢;rw[←h,YC hj];simp
theorem ux.done(h:ux xs n j out true)(hj:xs.length≤j):out=kG xs n:=by
 simp only[ux,if_true]at h;rw[List.drop_of_length_le hj,List.append_nil]at h;exact h
theorem ux.last(h:ux xs n j out false)(hj:xs.length≤j):out++ [n]=kG xs n:=by
 simp only[ux,Bool.false_eq_true,if_false]at h;obtain⟨h1,h2⟩:=h;rw[h2,h1,List.drop_of_length_le hj];rfl
end
def Q3(bs:List Bool)(i:Nat):Bool:=bs.getD i false
theorem Jj{bs:List Bool}{i:Nat}(h:i<bs.length):Q3 bs i=bs[i]:=by simp[Q3,List.getElem?_eq_getElem h]
def jL:Nat→List Bool→List Int
 |_, []=> []
 |k,b::bs=>if b=true then(k:Int)::jL (k+1) bs else jL (k+1) bs
def QX(bs:List Bool):List Int:=jL 0 bs
theorem JE(k:Nat)(bs:List Bool)(x:Int):x∈jL k bs↔∃i:Nat,i<bs.length∧x=((k+i:Nat):Int)∧Q3 bs i=true:=by
 induction bs generalizing k with
 |nil=>simp[jL]
 |cons b bs ih=>
  have hs:(∃i:Nat,i<(b::bs).length∧x=((k+i:Nat):Int)∧Q3 (b::bs) i=true)↔(x=(k:Int)∧b=true)∨∃i:Nat,i<bs.length∧x=((k+1+i:Nat):Int)∧Q3 bs i=true:=by
   constructor
   ·rintro⟨i,hi,hx,hb⟩
    rcases i with _|i
    ·exact .inl ⟨by simpa using hx,by simpa [Q3]using hb⟩
    ·exact .inr ⟨i,by simpa using hi,by rw[hx];congr 1;omega,by simpa [Q3]using hb⟩
   ·rintro(⟨hx,hb⟩|⟨i,hi,hx,hb⟩)
    ·exact⟨0,by simp,by simpa using hx,by simpa [Q3]using hb⟩
    ·exact⟨i+1,by simpa using hi,by rw[hx];congr 1;omega,by simpa [Q3]using hb⟩
  rw[hs,←ih (k+1)];simp only[jL];split
  ·next hb=>simp[hb]
  ·next hb=>simp[hb]
theorem UF(bs:List Bool)(x:Int):x∈QX bs↔∃i:Nat,i<bs.length∧x=(i:Int)∧Q3 bs i=true:=by
 rw[QX,JE];simp
theorem W7(k:Nat)(bs:List Bool):Asc (jL k bs):=by
 induction bs generalizing k with
 |nil=>simp[jL,Asc]
 |cons b bs ih=>
  simp only[jL];split
  ·refine List.pairwise_cons.2 ⟨fun z hz=>?_,ih _⟩
   obtain⟨i,_,rfl,_⟩:=(JE _ _ _).1 hz;omega
  ·exact ih _
theorem XV(bs:List Bool):Asc (QX bs):=W7 0 bs
def KV(op:Int):Bool:=decide (op=9) ||decide (op=10)
def Xj(op num:Int)(s:List Int):List Int:=if KV op then kG s num else s
def GZ(op num:Int)(s:List Bool):List Bool:=if KV op then s.set num.toNat true else s
def Fy(e:zK):List Int:=Yw Xj e []
def ZR(n:Nat)(op num:Int):Prop:=KV op=true→0≤num∧num<(n:Int)
theorem Ew(op num:Int)(s:List Int):(Xj op num s).length≤s.length+1:=by
 unfold Xj;split
 ·exact MN s num
 ·omega
mutual
theorem VH:∀(e:zK) (s:List Int),(Yw Xj e s).length≤s.length+nE e
 | .mk op num ks,s=>by
  have h:=UR ks (Xj op num s)
  have h1:=Ew op num s
  simp only[Yw,nE];omega
theorem UR:∀(es:List zK) (s:List Int),(xW Xj es s).length≤s.length+nEs es
 | [],s=>by simp[xW]
 |e::es,s=>by
  have h1:=VH e s
  have h2:=UR es (Yw Xj e s)
  simp only[xW,nEs];omega
end
theorem W4(op num:Int)(s:List Bool):(GZ op num s).length=s.length:=by unfold GZ;split<;>simp
mutual
theorem JD:∀(e:zK) (s:List Bool),(Yw GZ e s).length=s.length
 | .mk op num ks,s=>by rw[Yw,U3 ks,W4]
theorem U3:∀(es:List zK) (s:List Bool),(xW GZ es s).length=s.length
 | [],s=>rfl
 |e::es,s=>by rw[xW,U3 es,JD e]
end
theorem MC{s:List Bool}{x:Int}(h0:0≤x)(h1:x<(s.length:Int)):QX (s.set x.toNat true)=kG (QX s) x:=by
 refine DV (XV _) (Lw (XV _)) (fun y=>?_);rw[UF,WR,UF];constructor
 ·rintro⟨i,hi,rfl,hb⟩
  rw[List.length_set]at hi;by_cases e:x.toNat=i
  ·left;omega
  ·right
   refine⟨i,hi,rfl,?_⟩;simpa [Q3,List.getElem?_set,e]using hb
 ·rintro(rfl|⟨i,hi,rfl,hb⟩)
  ·refine⟨y.toNat,by rw[List.length_set];omega,by omega,?_⟩
   rw[Jj (by rw[List.length_set];omega)];simp
  ·refine⟨i,by rw[List.length_set];exact hi,rfl,?_⟩
   by_cases e:x.toNat=i
   ·subst e
    rw[Jj (by rw[List.length_set];exact hi)];simp
   ·simpa [Q3,List.getElem?_set,e]using hb
theorem FN{op num:Int}{s:List Bool}(h:ZR s.length op num):QX (GZ op num s)=Xj op num (QX s):=by
 unfold GZ Xj;split
 ·next hc=>exact MC (h hc).1 (h hc).2
 ·rfl
mutual
theorem VV:∀(e:zK) (s:List Bool),yL (ZR s.length) e→QX (Yw GZ e s)=Yw Xj e (QX s)
 | .mk op num ks,s,h=>by
  obtain⟨h1,h2⟩:=h
  rw[Yw,Yw,←FN h1]
  exact UX ks _ (by rw[W4];exact h2)
theorem UX:∀(es:List zK) (s:List Bool),yS (ZR s.length) es→QX (xW GZ es s)=xW Xj es (QX s)
 | [],s,_=>rfl
 |e::es,s,h=>by
  obtain⟨h1,h2⟩:=h
  rw[xW,xW,←VV e s h1]
  exact UX es _ (by rw[JD];exact h2)
end
section
variable {ds:List zG}{sg:List yJ}(hok:qJ ds sg=true)
include hok
theorem JS{op num:Int}{tys:List Int}(h:0≤zS ds sg op num tys):ZR sg.length op num∧∀i,i<tys.length→0≤iAt tys i:=by
 obtain⟨ht,_,_,hs⟩:=zL hok;unfold zS at h;have no:∀ {o:Int},o≠9→o≠10→ZR sg.length o num:=fun h1 h2 hc=>absurd hc (by simp[KV,h1,h2]);split at h
 ·next e=>
  subst e;split at h
  ·next h1=>exact⟨no (by omega) (by omega),fun i hi=>by rw[h1.1]at hi;simp at hi⟩
  ·omega
 split at h
 ·next e=>
  split at h
  ·next h1=>
   refine⟨no (by omega) (by omega),fun i hi=>?_⟩;rw[h1.2]at hi ⊢;rcases(show i=0∨i=1 by simp at hi;omega)with rfl|rfl<;>simp[iAt]
  ·omega
 split at h
 ·next e=>
  split at h
  ·next h1=>
   refine⟨no (by omega) (by omega),fun i hi=>?_⟩;rw[h1.2]at hi ⊢;rcases(show i=0 by simp at hi;omega)with rfl;simp[iAt]
  ·omega
 split at h
 ·next e=>
  split at h
  ·next h1=>
   obtain⟨_,h2,h3,h4⟩:=h1;obtain⟨q1,q2,q3⟩:=uq h3;have:=uQ.1 (vJ (xC ht (by omega)) q3).1;refine⟨no (by omega) (by omega),fun i hi=>?_⟩;rcases(show i=0∨i=1 by omega)with rfl|rfl<;>omega
  ·omega
 split at h
 ·next e=>
  split at h
  ·next h1=>
   refine⟨no (by omega) (by omega),fun i hi=>?_⟩;rw[h1.2]at hi ⊢;exact(ZL (yP ht num).2 hi).1
  ·omega
 split at h
 ·next e=>
  split at h
  ·next h1=>
   refine⟨fun _=>⟨h1.1,h1.2.1⟩,fun i hi=>?_⟩;rw[h1.2.2]at hi ⊢;exact(ZL (xL (hs _ (by omega))).2.1 hi).1
  ·omega
 split at h
 ·next e=>
  split at h
  ·next h1=>
   refine⟨fun _=>⟨h1.1,h1.2.1⟩,fun i hi=>?_⟩;obtain⟨_,h2,h3,h4⟩:=h1;rw[h4]at hi ⊢;rw[List.length_take]at hi;have e2:iAt (List.take ((yH sg num.toNat).params.length-1) (yH sg num.toNat).params) i=iAt (yH sg num.toNat).params i:=by
    rw[jW (by rw[List.length_take];exact hi),jW (by omega)];simp
   rw[e2];exact(ZL (xL (hs _ (by omega))).2.1 (by omega)).1
  ·omega
 ·omega
omit hok in
theorem YT{ts:List Int}(h:0≤gk ts){i:Nat}(hi:i<ts.length):0≤iAt ts i:=by
 by_cases h1:iAt ts i<0
 ·rw[ZQ hi (.inr h1)]at h;omega
 ·omega
end
def qj(n m:Nat):List Int:=(List.range m).map (fun i=>((n+i:Nat):Int))
theorem yT(n m:Nat):(qj n m).length=m:=by simp[qj]
theorem BU(n:Nat):qj n 0= []:=rfl
theorem XP(n m:Nat):qj n (m+1)=qj n m++ [((n+m:Nat):Int)]:=by simp[qj,List.range_succ]
mutual
def qG(ds:List zG):zK→List Int→Nat→List qE × Int
 | .mk op num ks,env,n=>
  if op=12 then([],iAt env num.toNat)
  else if op=13 then Zz ds ks env n
  else if op=7∨op=8 then uC ds op num ks env n
  else((jG ds ks env n).1++ [.mk op num 0 (jG ds ks env n).2 []],((n+(jG ds ks env n).1.length:Nat):Int))
def jG(ds:List zG):List zK→List Int→Nat→List qE × List Int
 | [],_,_=>([], [])
 |e::es,env,n=>((qG ds e env n).1++(jG ds es env (n+(qG ds e env n).1.length)).1,(qG ds e env n).2::(jG ds es env (n+(qG ds e env n).1.length)).2)
def Zz(ds:List zG):List zK→List Int→Nat→List qE × Int
 | [],_,_=>([],0)
 |e::es,env,n=>((qG ds e env n).1++(Yk ds es (env++ [(qG ds e env n).2]) (n+(qG ds e env n).1.length)).1,(Yk ds es (env++ [(qG ds e env n).2]) (n+(qG ds e env n).1.length)).2)
def Yk(ds:List zG):List zK→List Int→Nat→List qE × Int
 | [],_,_=>([],0)
 |e::_,env,n=>qG ds e env n
def uC(ds:List zG)(op num:Int):List zK→List Int→Nat→List qE × Int
 | [],_,_=>([],0)
 |e::es,env,n=>((qG ds e env n).1++ [.mk op num 0 [(qG ds e env n).2] (jR ds es (if op=8 then jY ds num else [[], []]) env (n+(qG ds e env n).1.length))],((n+(qG ds e env n).1.length:Nat):Int))
def jR(ds:List zG):List zK→List (List Int)→List Int→Nat→List yK
 | [],_,_,_=> []
 |e::es,fs,env,n=>.mk (qG ds e (env++qj n (fs.headD []).length) (n+(fs.headD []).length)).1 (qG ds e (env++qj n (fs.headD []).length) (n+(fs.headD []).length)).2::jR ds es fs.tail env n
end
section
variable (ds:List zG){num:Int}{ks:List zK}(env:List Int)(n:Nat)
theorem Gy:qG ds (.mk 12 num ks) env n=([],iAt env num.toNat):=by rw[qG,if_pos rfl]
theorem WL(h:ks.length=2):qG ds (.mk 13 num ks) env n=((qG ds (eAt ks 0) env n).1++(qG ds (eAt ks 1) (env++ [(qG ds (eAt ks 0) env n).2]) (n+(qG ds (eAt ks 0) env n).1.length)).1,(qG ds (eAt ks 1) (env++ [(qG ds (eAt ks 0) env n).2]) (n+(qG ds (eAt ks 0) env n).1.length)).2):=by
 match ks,h with
 | [a,b],_=>rw[qG,if_neg (by decide),if_pos rfl];simp[Zz,Yk,eAt]
def qD(ds:List zG)(op num:Int):List (List Int):=if op=8 then jY ds num else [[], []]
theorem kV{op:Int}(ho:op=7∨op=8)(h:0<ks.length):qG ds (.mk op num ks) env n=((qG ds (eAt ks 0) env n).1++ [.mk op num 0 [(qG ds (eAt ks 0) env n).2] (jR ds (ks.drop 1) (qD ds op num) env (n+(qG ds (eAt ks 0) env n).1.length))],((n+(qG ds (eAt ks 0) env n).1.length:Nat):Int)):=by
 match ks,h with
 |a::es,_=>
  rw[qG,if_neg (by omega),if_neg (by omega),if_pos ho];simp[uC,eAt,qD]
theorem Xv{op:Int}(h1:op≠12)(h2:op≠13)(h7:op≠7)(h8:op≠8):qG ds (.mk op num ks) env n=((jG ds ks env n).1++ [.mk op num 0 (jG ds ks env n).2 []],((n+(jG ds ks env n).1.length:Nat):Int)):=by
 rw[qG,if_neg h1,if_neg h2,if_neg (by omega)]
theorem YR:jG ds [] env n=([], []):=by rw[jG]
theorem FE(es:List zK)(e:zK)(n:Nat):jG ds (es++ [e]) env n=((jG ds es env n).1++(qG ds e env (n+(jG ds es env n).1.length)).1,(jG ds es env n).2++ [(qG ds e env (n+(jG ds es env n).1.length)).2]):=by
 induction es generalizing n with
 |nil=>simp[jG]
 |cons x xs ih=>
  rw[List.cons_append,jG,ih,jG];simp only[List.append_assoc,List.cons_append,List.length_append,Nat.add_assoc]
theorem V6{ks:List zK}{j:Nat}(h:j<ks.length):jG ds (ks.take (j+1)) env n=((jG ds (ks.take j) env n).1++(qG ds (eAt ks j) env (n+(jG ds (ks.take j) env n).1.length)).1,(jG ds (ks.take j) env n).2++ [(qG ds (eAt ks j) env (n+(jG ds (ks.take j) env n).1.length)).2]):=by
 rw[xj ks h,FE]
theorem XR(es:List zK)(n:Nat):(jG ds es env n).2.length=es.length:=by
 induction es generalizing n with
 |nil=>simp[jG]
 |cons x xs ih=>rw[jG];simp[ih]
def Vq(ds:List zG)(fs:List (List Int))(env:List Int)(n:Nat)(es:List zK)(i:Nat):yK:=.mk (qG ds (eAt es i) (env++qj n (cAt fs i).length) (n+(cAt fs i).length)).1 (qG ds (eAt es i) (env++qj n (cAt fs i).length) (n+(cAt fs i).length)).2
theorem Zw(es:List zK)(fs:List (List Int)):(jR ds es fs env n).length=es.length:=by
 induction es generalizing fs with
 |nil=>simp[jR]
 |cons x xs ih=>rw[jR];simp[ih]
theorem M4{es:List zK}{fs:List (List Int)}{i:Nat}(h:i<es.length):bAt (jR ds es fs env n) i=Vq ds fs env n es i:=by
 induction es generalizing fs i with
 |nil=>simp at h
 |cons x xs ih=>
  rw[jR];cases i with
  |zero=>cases fs<;>simp[bAt,Vq,eAt,cAt,List.headD]
  |succ i=>
   have:=ih (fs:=fs.tail) (i:=i) (by simpa using h);have e1:cAt fs.tail i=cAt fs (i+1):=by cases fs<;>simp[cAt]
   have e2:eAt (x::xs) (i+1)=eAt xs i:=by simp[eAt]
   simp only[bAt,List.getD_cons_succ]at this ⊢;rw[this,Vq,Vq,e1,e2]
theorem QH{es:List zK}{fs:List (List Int)}{i:Nat}(h:i<es.length):(jR ds es fs env n).take (i+1)=(jR ds es fs env n).take i++ [Vq ds fs env n es i]:=by
 have hl:i<(jR ds es fs env n).length:=by rw[Zw];exact h
 rw[List.take_succ_eq_append_getElem hl,←Vw hl,M4 ds env n h]
theorem QL{ks:List zK}{i:Nat}:eAt (ks.drop 1) i=eAt ks (i+1):=by cases ks<;>simp[eAt]
end
theorem WV(ss:List qE):ss.length≤nSs ss:=by
 induction ss with
 |nil=>simp
 |cons e es ih=>have:=DF e;simp only[List.length_cons,nSs];omega
theorem Yz(a b:List qE):zw (zk (a++b))=zw (zk a)+zw (zk b):=by rw[qx,qx,qx,List.map_append,ZM]
theorem QN(xs:List Int):z8 (zY xs)=xs.length:=by
 rw[zY,z8];induction xs with
 |nil=>rfl
 |cons x xs ih=>simp only[List.map_cons,zw,gZ,jy,z8,ih,List.length_cons];omega
mutual
theorem g8(ds:List zG):∀(e:zK) (env:List Int) (n:Nat),nSs (qG ds e env n).1≤nE e
 | .mk op num ks,env,n=>by
  rw[qG,nE]
  split
  ·simp[nSs]
  split
  ·have:=Bq ds ks env n;omega
  split
  ·exact Uv ds op num ks env n
  ·have:=Jw ds ks env n
   rw[vL];simp only[nSs,nS,nBs];omega
theorem Jw(ds:List zG):∀(es:List zK) (env:List Int) (n:Nat),nSs (jG ds es env n).1≤nEs es
 | [],env,n=>by simp[jG,nSs]
 |e::es,env,n=>by
  have h1:=g8 ds e env n
  have h2:=Jw ds es env (n+(qG ds e env n).1.length)
  rw[jG,nEs]
  simp only[vL];omega
theorem Bq(ds:List zG):∀(es:List zK) (env:List Int) (n:Nat),nSs (Zz ds es env n).1≤nEs es
 | [],env,n=>by simp[Zz,nSs]
 |e::es,env,n=>by
  have h1:=g8 ds e env n
  have h2:=EH ds es (env++ [(qG ds e env n).2]) (n+(qG ds e env n).1.length)
  rw[Zz,nEs]
  simp only[vL];omega
theorem EH(ds:List zG):∀(es:List zK) (env:List Int) (n:Nat),nSs (Yk ds es env n).1≤nEs es
 | [],env,n=>by simp[Yk,nSs]
 |e::es,env,n=>by
  have h1:=g8 ds e env n
  rw[Yk,nEs];omega
theorem Uv(ds:List zG)(op num:Int):∀(es:List zK) (env:List Int) (n:Nat),nSs (uC ds op num es env n).1≤nEs es+1
 | [],env,n=>by simp[uC,nSs]
 |e::es,env,n=>by
  have h1:=g8 ds e env n
  have h2:=W9 ds es (if op=8 then jY ds num else [[], []]) env (n+(qG ds e env n).1.length)
  rw[uC,nEs]
  simp only[vL,nSs,nS];omega
theorem W9(ds:List zG):∀(es:List zK) (fs:List (List Int)) (env:List Int) (n:Nat),nBs (jR ds es fs env n)≤nEs es
 | [],fs,env,n=>by simp[jR,nBs]
 |e::es,fs,env,n=>by
  have h1:=g8 ds e (env++qj n (fs.headD []).length) (n+(fs.headD []).length)
  have h2:=W9 ds es fs.tail env n
  rw[jR,nEs,nBs,nB];omega
end
theorem vK(ds:List zG)(e:zK)(env:List Int)(n:Nat):(qG ds e env n).1.length≤nE e:=Nat.le_trans (WV _) (g8 ds e env n)
theorem VK(ds:List zG)(es:List zK)(env:List Int)(n:Nat):(jG ds es env n).1.length≤nEs es:=Nat.le_trans (WV _) (Jw ds es env n)
mutual
theorem kT(ds:List zG):∀(e:zK) (env:List Int) (n:Nat),zw (zk (qG ds e env n).1)+2≤5*nE e
 | .mk op num ks,env,n=>by
  rw[qG,nE]
  split
  ·simp[zk,zw];omega
  split
  ·have:=DX ds ks env n;omega
  split
  ·have:=U9 ds op num ks env n;omega
  ·have:=Kx ds ks env n
   have h3:=QN (jG ds ks env n).2
   have h4:=XR ds env ks n
   rw[Yz];simp only[zk,Xy,zw,jy,z8,yE,h3];omega
theorem Kx(ds:List zG):∀(es:List zK) (env:List Int) (n:Nat),zw (zk (jG ds es env n).1)+2*es.length≤5*nEs es
 | [],env,n=>by simp[jG,zk,zw]
 |e::es,env,n=>by
  have h1:=kT ds e env n
  have h2:=Kx ds es env (n+(qG ds e env n).1.length)
  rw[jG,nEs]
  simp only[Yz,List.length_cons];omega
theorem DX(ds:List zG):∀(es:List zK) (env:List Int) (n:Nat),zw (zk (Zz ds es env n).1)≤5*nEs es
 | [],env,n=>by simp[Zz,zk,zw]
 |e::es,env,n=>by
  have h1:=kT ds e env n
  have h2:=DU ds es (env++ [(qG ds e env n).2]) (n+(qG ds e env n).1.length)
  rw[Zz,nEs]
  simp only[Yz];omega
theorem DU(ds:List zG):∀(es:List zK) (env:List Int) (n:Nat),zw (zk (Yk ds es env n).1)≤5*nEs es
 | [],env,n=>by simp[Yk,zk,zw]
 |e::es,env,n=>by
  have h1:=kT ds e env n
  rw[Yk,nEs];omega
theorem U9(ds:List zG)(op num:Int):∀(es:List zK) (env:List Int) (n:Nat),zw (zk (uC ds op num es env n).1)≤5*nEs es+2
 | [],env,n=>by simp[uC,zk,zw]
 |e::es,env,n=>by
  have h1:=kT ds e env n
  have h2:=Gv ds es (if op=8 then jY ds num else [[], []]) env (n+(qG ds e env n).1.length)
  have h3:=QN [(qG ds e env n).2]
  rw[uC,nEs]
  simp only[Yz,zk,Xy,zw,jy,z8,h3,List.length_singleton];omega
theorem Gv(ds:List zG):∀(es:List zK) (fs:List (List Int)) (env:List Int) (n:Nat),zw (yE (jR ds es fs env n))≤5*nEs es
 | [],fs,env,n=>by simp[jR,yE,zw]
 |e::es,fs,env,n=>by
  have h1:=kT ds e (env++qj n (fs.headD []).length) (n+(fs.headD []).length)
  have h2:=Gv ds es fs.tail env n
  rw[jR,nEs]
  simp only[yE,BT,zw,jy,z8];omega
end
section
variable {ds:List zG}{sg:List yJ}{num:Int}{ks:List zK}{vars:List Int}
theorem MK(h:0≤tyE ds sg vars (.mk 12 num ks)):0≤num∧num<(vars.length:Int):=by
 rw[tyE,if_pos rfl]at h;split at h
 ·next h1=>exact h1.2
 ·omega
theorem LY(h:0≤tyE ds sg vars (.mk 13 num ks)):ks.length=2∧0≤tyE ds sg vars (eAt ks 0)∧0≤tyE ds sg (vars++ [tyE ds sg vars (eAt ks 0)]) (eAt ks 1):=by
 rw[tyE,if_neg (by decide),if_pos rfl]at h;split at h
 ·next h1=>
  rw[ZS ds sg vars h1.2]at h;split at h
  ·next h0=>exact⟨h1.2,h0,h⟩
  ·omega
 ·omega
theorem kS{op:Int}(ho:op=7∨op=8)(h:0≤tyE ds sg vars (.mk op num ks)):ks.length=1+(qD ds op num).length∧0≤tyE ds sg vars (eAt ks 0)∧∀j,j+1<ks.length→0≤tyE ds sg (vars++cAt (qD ds op num) j) (eAt ks (j+1)):=by
 rw[tyE,if_neg (by omega),if_neg (by omega)]at h;rcases ho with rfl|rfl
 ·rw[if_pos rfl]at h
  split at h
  ·next h1=>
   have h2:=h1.2.2;rw[kJ ds sg vars (by omega)]at h2;refine⟨by simp[qD,h1.2.1],by omega,fun j hj=>?_⟩;have h5:=YT h (i:=j) (by rw[vA];omega);rw[gG ds sg vars (by omega)]at h5;simpa [qD]using h5
  ·omega
 ·rw[if_neg (by decide),if_pos rfl]at h
  split at h
  ·next h1=>
   have h2:=h1.2.2;rw[kJ ds sg vars (by omega)]at h2;refine⟨by simp[qD,h1.2.1],?_,fun j hj=>?_⟩
   ·rw[h2]
    refine Decidable.byContradiction fun hn=>?_;have:=h1.1;rw[jY,List.length_map,zv,if_neg (by omega)]at this;simp at this
   ·have h5:=YT h (i:=j) (by rw[vA];omega)
    rw[gG ds sg vars (by omega)]at h5;simpa [qD]using h5
  ·omega
theorem K4{op:Int}(hok:qJ ds sg=true)(h1:op≠12)(h2:op≠13)(h7:op≠7)(h8:op≠8)(h:0≤tyE ds sg vars (.mk op num ks)):∀j,j<ks.length→0≤tyE ds sg vars (eAt ks j):=by
 rw[tyE,if_neg h1,if_neg h2,if_neg h7,if_neg h8]at h;intro j hj;have h5:=(JS hok h).2 j (by rw[yy];exact hj);rwa[ZX ds sg vars hj]at h5
theorem Yj(hok:qJ ds sg=true)(op num:Int)(j:Nat):(cAt (qD ds op num) j).length≤3:=by
 unfold qD;split
 ·by_cases hj:j<(jY ds num).length
  ·rw[YU hj]
   obtain⟨c,_,hc⟩:=List.mem_map.1 (List.getElem_mem hj);rw[←hc];exact(yP (zL hok).1 c).1
  ·rw[cAt,List.getD,List.getElem?_eq_none (by omega)];simp
 ·rcases j with _|_|j<;>simp[cAt]
end
def xv(ds:List zG)(f:zA):vz:=⟨f.params, [],f.result,.mk (qG ds f.body (qj 0 f.params.length) f.params.length).1 (qG ds f.body (qj 0 f.params.length) f.params.length).2⟩
theorem jB.toOwn{w:World}{D:Nat→Prop}{a:Option Addr}{n c:Nat}{xs:List Int}(h:jB w D a n xs)(hc:n≤c)(hm:n≤9223372036854775807):Own w D (zY xs) (.slice a n c):=by
 obtain⟨h1,h2⟩:=h;subst h1;rcases Nat.eq_zero_or_pos xs.length with h0|h0
 ·have:xs= []:=List.eq_nil_of_length_eq_zero h0
  subst this;exact .nil _ 1 a c
 ·obtain⟨b,N,f,rfl,hd,hN,hr,hcell⟩:=h2 h0
  have q:=Own.arr (w:=w) D (fun _ _ _=>False) 1 (xs.map gZ) b c 3 N f hd (by simpa using h0) (by omega) (by simpa using hc) (by simpa using hm)
   (fun i hi=>by rw[vZ xs i (by simpa using hi)];rfl) (by simpa using hN) hr (fun _ _ _ _ _ h=>h.elim) (fun _ _ _ _ _ _ _ _ _ h=>h.elim) (fun i j hi hj=>by
    obtain rfl:j=0:=by omega
    rw[Nat.mul_one,Nat.add_zero,rAt,vZ xs i (by simpa using hi),hcell i (by simpa using hi)]
    exact .num _ _)
  rw[QW]at q;exact q
theorem Acc.extO{w w':World}{base:Nat}{D S:Nat→Prop}{T:TypeId}{s:Nat}{v:Value}{rows:List (List Dat)}(h:Acc w base D T s v rows)(hx:Ext S w w')(hs:∀k,k<w.heap.size→D k→¬S k)(ho:∀k,v.ownBlock=some k→¬S k):Acc w' base D T s v rows:=by
 obtain⟨xs,E,h1,h2,h3,h4,h5⟩:=h;refine⟨xs,E,⟨h1.1,?_⟩,h2,fun i j k hi hj hk=>⟨(h3 i j k hi hj hk).1,Nat.lt_of_lt_of_le (h3 i j k hi hj hk).2.1 hx.size,(h3 i j k hi hj hk).2.2⟩,h4,fun i j hi hj=>?_⟩
 ·rcases h1.2 with h|⟨g,cap,cur,e,hb,hg,rest⟩
  ·exact .inl h
  ·have hlt:g<w.heap.size:=(Array.getElem?_eq_some_iff.1 hg).1
   exact .inr ⟨g,cap,cur,e,hb,(hx.block g hlt (ho g (by rw[e];rfl))).trans hg,rest⟩
 ·obtain⟨u,hu,ho'⟩:=h5 i j hi hj
  exact⟨u,hu,ho'.ext hx (fun k hk=>hs k (h3 i j k hi hj hk).2.1 (h3 i j k hi hj hk).1)⟩
structure qL(w:World)(base q:Nat)(TT:TypeId)(cs:Array Value)(D:Nat→Prop)(v:Value)(rows:List (List Dat)):Prop where
 row:w.rowIs q TT cs.size (fun i=>cs.getD i undef)
 acc:Acc w base D 136 5 v rows
 nd:¬D q
 nv:∀k,v.ownBlock=some k→k≠q
 lt:∀k,D k→k<w.heap.size
 hb:base≤w.heap.size
structure qM(w w':World)(q:Nat)(D D':Nat→Prop)(v v':Value):Prop where
 ext:Ext (fun k=>k=q∨v.ownBlock=some k) w w'
 sub:∀k,D' k→D k∨w.heap.size≤k
 blk:∀k,v'.ownBlock=some k→v.ownBlock=some k∨w.heap.size≤k
section
variable {w w' w'':World}{base q:Nat}{TT:TypeId}{cs:Array Value}{D D' D'' S:Nat→Prop}{v v' v'':Value}{rows:List (List Dat)}
theorem qL.ext(h:qL w base q TT cs D v rows)(hx:Ext S w w')(hq:¬S q)(hD:∀k,D k→¬S k)(hv:∀k,v.ownBlock=some k→¬S k):qL w' base q TT cs D v rows:=
 ⟨zX h.row hx hq,h.acc.extO hx (fun k _=>hD k) hv,h.nd,h.nv,fun k hk=>Nat.lt_of_lt_of_le (h.lt k hk) hx.size,Nat.le_trans h.hb hx.size⟩
theorem qL.k(h:qL w base q TT cs D v rows)(hx:zQ w w'):qL w' base q TT cs D v rows:=h.ext hx (fun h=>h) (fun _ _ h=>h) (fun _ _ h=>h)
theorem qL.own(h:qL w base q TT cs D v rows):∀k,v.ownBlock=some k→base≤k∧k<w.heap.size:=h.acc.bound
theorem qL.qlt(h:qL w base q TT cs D v rows):q<w.heap.size:=h.row.lt
theorem qM.refl(w:World)(q:Nat)(D:Nat→Prop)(v:Value):qM w w q D D v v:=⟨Ext.refl _ _,fun _ h=>.inl h,fun _ h=>.inl h⟩
theorem qM.keep(h:zQ w w'):qM w w' q D D v v:=⟨zQ.to h,fun _ h=>.inl h,fun _ h=>.inl h⟩
theorem qM.trans(h:qM w w' q D D' v v')(k:qM w' w'' q D' D'' v' v''):qM w w'' q D D'' v v'':=by
 have hs:=h.ext.size;refine⟨h.ext.then_ k.ext (fun i hi hk=>?_),fun i hi=>?_,fun i hi=>?_⟩
 ·rcases hk with hk|hk
  ·exact .inl hk
  ·rcases h.blk i hk with e|e
   ·exact .inr e
   ·omega
 ·rcases k.sub i hi with e|e
  ·exact h.sub i e
  ·exact .inr (by omega)
 ·rcases k.blk i hi with e|e
  ·exact h.blk i e
  ·exact .inr (by omega)
theorem qM.post(h:qM w w' q D D' v v')(k:zQ w' w''):qM w w'' q D D' v v':=h.trans (qM.keep k)
theorem qM.pre(k:zQ w w')(h:qM w' w'' q D D' v v'):qM w w'' q D D' v v':=(qM.keep k).trans h
theorem Rd.low{d:Dat}{u:Value}{E:Nat→Prop}(h:Rd w E d u)(hE:∀k,E k→k≠q∧v.ownBlock≠some k)(hx:qM w w' q D D' v v'):Rd w' E d u:=
 h.ext hx.ext (fun k hk hS=>by
  rcases hS with hS|hS
  ·exact(hE k hk).1 hS
  ·exact(hE k hk).2 hS)
theorem V9{E:Nat→Prop}(hE:∀k,E k→k≠q∧v.ownBlock≠some k)(hl:∀k,E k→k<w.heap.size)(hx:qM w w' q D D' v v'):∀k,E k→k≠q∧v'.ownBlock≠some k:=fun k hk=>
 ⟨(hE k hk).1,fun e=>by
  rcases hx.blk k e with h|h
  ·exact(hE k hk).2 h
  ·have:=hl k hk;omega⟩
theorem qM.cell(hx:qM w w' q D D' v v'){p:Addr}{u:Value}(h:w.cell? p=some u)(h1:p.block≠q)(h2:v.ownBlock≠some p.block):w'.cell? p=some u:=
 hx.ext.cq h (fun hS=>by rcases hS with hS|hS;exact h1 hS;exact h2 hS)
theorem VR.low{bs:Nat}{u:Value}{xs:List Int}(h:VR w bs u xs)(hE:∀k,u.ownBlock=some k→k≠q∧v.ownBlock≠some k)(hx:qM w w' q D D' v v'):VR w' bs u xs:=
 h.ext hx.ext (fun k hk hS=>by
  rcases hS with hS|hS
  ·exact(hE k hk).1 hS
  ·exact(hE k hk).2 hS)
theorem Acc.low{bs s:Nat}{T:TypeId}{E:Nat→Prop}{u:Value}{rs:List (List Dat)}(h:Acc w bs E T s u rs)(hE:∀k,E k→k≠q∧v.ownBlock≠some k)(hu:∀k,u.ownBlock=some k→k≠q∧v.ownBlock≠some k)(hx:qM w w' q D D' v v'):Acc w' bs E T s u rs:=
 h.extO hx.ext (fun k _ hk hS=>by
  rcases hS with hS|hS
  ·exact(hE k hk).1 hS
  ·exact(hE k hk).2 hS) (fun k hk hS=>by
  rcases hS with hS|hS
  ·exact(hu k hk).1 hS
  ·exact(hu k hk).2 hS)
theorem VR.owns{bs:Nat}{u:Value}{xs:List Int}(h:VR w bs u xs)(hm:xs.length≤9223372036854775807):Own w (fun k=>u.ownBlock=some k) (zY xs) u:=by
 obtain⟨a,c,rfl,hc,ho⟩:=h.slice;exact ho.toOwn hc hm
end
theorem V8{ops:Array Oper}{o:Oper}{a:Act}{w:World}{K:Act→World→Prop}{Q:Exit→Act→World→Prop}{E:Prop}(hgd:o.guard=none)(s x:Operand)
  (ho:o.op=.call {callee:=.builtin .append,args:= #[s,x],argTypes:= #[67,67]})
  (base:Nat) (v:Value) (rows:List (List Dat)) (hs:a.eval s=v) {D0:Nat→Prop} (hacc:Acc w base D0 136 5 v rows)
  (g c:Nat) (op num into:Int) (args:List Int) (kids:List yK) (A B:Value) (EA EB:Nat→Prop) (hx:a.eval x=.slice (some ⟨g,0,none⟩) 1 c) (hcells:∀j u, [Value.int .i64 op,.int .i64 num,.int .i64 into,A,B][j]?=some u→w.cell? ⟨g,j,none⟩=some u)
  (hA:Own w EA (zY args) A) (hB:Own w EB (zC kids) B) (hE:∀k,EA k∨EB k→¬D0 k∧v.ownBlock≠some k) (hdis:∀k,EA k→¬EB k) (hlen:rows.length≤100000) (hbase:base≤w.heap.size)
  (h:∀a' n' c' w',Acc w' base (fun k=>D0 k∨(EA k∨EB k)∧k<w.heap.size) 136 5 (.slice a' n' c') (rows++ [Xy (.mk op num into args kids)])→Ext (fun k=>v.ownBlock=some k) w w'→w.heap.size≤w'.heap.size→(∀k,(Value.slice a' n' c').ownBlock=some k→v.ownBlock=some k∨w.heap.size≤k)→K (a.put o.dst (.slice a' n' c')) w'):
  if Region.wanted o (yielded ops a.tmps)=true then Oper.wp Tryz.prog o a w K Q else E:=by
 obtain⟨xs,E',h1,_⟩:=id hacc;have o1:A.oneCell'=true:=hA.read.one;have o2:B.oneCell'=true:=hB.read.one;refine Y5 hgd s x 67 ho base 136 (.agg #[.int .i64 0,.int .i64 0,.int .i64 0,.slice none 0 0,.slice none 0 0]) 5 72 Tryz.underlying67 (by kernel_rfl) rfl (by omega) v rows.length xs hs h1 (some ⟨g,0,none⟩) 1 c [.int .i64 op,.int .i64 num,.int .i64 into,A,B] hx ⟨rfl,fun _=>⟨g,0,rfl,fun j u hj=>by rw[Nat.zero_add];exact hcells j u hj⟩⟩
  (by intro u hu;simp at hu;rcases hu with rfl|rfl|rfl|rfl|rfl<;>first|rfl|assumption) (by omega) (by omega) hbase (fun v' w' q1 q2 q3=>?_)
 have hfin:Acc w' base (fun k=>D0 k∨(EA k∨EB k)∧k<w.heap.size) 136 5 v' (rows++ [Xy (.mk op num into args kids)]):=?_
 ·obtain⟨a',c',rfl,_,_⟩:=hfin.own (by omega) (by simp;omega)
  exact h _ _ _ w' hfin ⟨q2.os,q2.tape,q2.output,q2.size,fun k hk hn=>q2.block k hk (fun e=>hn e.symm)⟩ q2.size (fun k hk=>by
   rcases q3 with e|e
   ·rw[e]at hk;exact .inl hk
   ·rw[e]at hk;injection hk with hk;exact .inr (by omega))
 refine hacc.push (r:=Xy (.mk op num into args kids)) (news:= [.int .i64 op,.int .i64 num,.int .i64 into,A,B]) (D2:=fun j k=>(j=3∧EA k∨j=4∧EB k)∧k<w.heap.size) rfl rfl (fun j u hj=>?_) (fun j k hj hk=>?_) (fun j j' k _ _ h1 h2=>?_) (fun k hk=>.inl hk) (fun xs' hxs'=>?_) q2 q3
 ·rcases(show j=0∨j=1∨j=2∨j=3∨j=4 by have:=(List.getElem?_eq_some_iff.1 hj).1;simp at this;omega)with rfl|rfl|rfl|rfl|rfl
  ·simp at hj;subst hj;exact .num _ op
  ·simp at hj;subst hj;exact .num _ num
  ·simp at hj;subst hj;exact .num _ into
  ·simp at hj;subst hj;exact hA.lt.mono (fun k hk=>⟨.inl ⟨rfl,hk.1⟩,hk.2⟩)
  ·simp at hj;subst hj;exact hB.lt.mono (fun k hk=>⟨.inr ⟨rfl,hk.1⟩,hk.2⟩)
 ·have h5:EA k∨EB k:=by rcases hk.1 with h|h;exact .inl h.2;exact .inr h.2
  exact⟨.inr ⟨h5,hk.2⟩,(hE k h5).1,(hE k h5).2,hk.2⟩
 ·rcases h1.1 with h1|h1<;>rcases h2.1 with h2|h2
  ·omega
  ·exact absurd h2.2 (hdis k h1.2)
  ·exact absurd h1.2 (hdis k h2.2)
  ·omega
 ·rw[uy h1 hxs']
  exact q1
theorem qL.upd{w w2:World}{base q:Nat}{TT:TypeId}{cs:Array Value}{D D':Nat→Prop}{v v':Value}{rows rows':List (List Dat)}(h:qL w base q TT cs D v rows)(hx:Ext (fun k=>v.ownBlock=some k) w w2)
  (hA:Acc w2 base D' 136 5 v' rows') (hnd:¬D' q) (hnv:∀k,v'.ownBlock=some k→k≠q) (hlt:∀k,D' k→k<w2.heap.size):qL w2 base q TT cs D' v' rows':=
 ⟨zX h.row hx (fun e=>h.nv q e rfl),hA,hnd,hnv,hlt,Nat.le_trans h.hb hx.size⟩
theorem qL.added{w w2:World}{base q:Nat}{TT:TypeId}{cs:Array Value}{D EA EB:Nat→Prop}{v v':Value}{rows rows':List (List Dat)}(h:qL w base q TT cs D v rows)(hx:Ext (fun k=>v.ownBlock=some k) w w2)
  (hA:Acc w2 base (fun k=>D k∨(EA k∨EB k)∧k<w.heap.size) 136 5 v' rows') (hE:∀k,EA k∨EB k→k≠q) (hb:∀k,v'.ownBlock=some k→v.ownBlock=some k∨w.heap.size≤k):
  qL w2 base q TT cs (fun k=>D k∨(EA k∨EB k)∧k<w.heap.size) v' rows':=by
 have hs:=hx.size;refine h.upd hx hA (fun hk=>?_) (fun k hk e=>?_) (fun k hk=>?_)
 ·rcases hk with hk|hk
  ·exact h.nd hk
  ·exact hE q hk.1 rfl
 ·rcases hb k hk with h1|h1
  ·exact h.nv k h1 e
  ·have:=h.qlt;omega
 ·rcases hk with hk|hk
  ·have:=h.lt k hk;omega
  ·omega
theorem qL.put{w:World}{base q:Nat}{TT:TypeId}{cs cs':Array Value}{D:Nat→Prop}{v:Value}{rows:List (List Dat)}(h:qL w base q TT cs D v rows)(i:Nat)(u:Value)(hs:cs'.size=cs.size)(hc:∀j,j<cs.size→cs'.getD j undef=if j=i then u else cs.getD j undef):qL (w.setCell ⟨q,i,none⟩ u) base q TT cs' D v rows:=by
 have X:=(Ext.refl (fun k=>k=q) w).setCell (p:=⟨q,i,none⟩) (.inr rfl) u;have hr:=h.row.set i u;refine⟨?_,h.acc.extO X (fun k _ hk e=>h.nd (e▸hk)) (fun k hk e=>h.nv k hk e),h.nd,h.nv,fun k hk=>Nat.lt_of_lt_of_le (h.lt k hk) X.size,Nat.le_trans h.hb X.size⟩;rw[hs];exact hr.congr (fun j hj=>(hc j hj).symm)
theorem GX(base q:Nat)(v:Value)(N:Int)(D:Nat→Prop)(rows:List (List Dat))(op num into:Int)(args:List Int)(kids:List yK)(aa:Option Addr)(na ca:Nat)(ab:Option Addr)(nb cb:Nat)(EA EB:Nat→Prop)(w:World)
  (h:qL w base q 196 #[v,.int .i64 N] D v rows) (hA:Own w EA (zY args) (.slice aa na ca)) (hB:Own w EB (zC kids) (.slice ab nb cb)) (hE:∀k,EA k∨EB k→¬D k∧k≠q∧v.ownBlock≠some k) (hdis:∀k,EA k→¬EB k) (hlen:rows.length≤100000) (hN0:0≤N) (hN1:N≤100000):
  Calls Tryz.prog 199 #[.pointer (some ⟨q,0,none⟩),.agg #[.int .i64 op,.int .i64 num,.int .i64 into,.slice aa na ca,.slice ab nb cb]] w fun e w'=>e=.returned (.int .i64 N)∧∃v' D',qL w' base q 196 #[v',.int .i64 (N+1)] D' v' (rows++ [Xy (.mk op num into args kids)])∧(∀k,D' k→D k∨EA k∨EB k)∧
   Ext (fun k=>k=q∨v.ownBlock=some k) w w'∧∀k,v'.ownBlock=some k→v.ownBlock=some k∨w.heap.size≤k:=by
 refine zV fun Q hQ=>?_;have K0:=zQ.al w (.cells #[.int .i64 op,.int .i64 num,.int .i64 into,.slice aa na ca,.slice ab nb cb] 136);have hL:=h.k K0;have z0:(w.alloc (.cells #[.int .i64 op,.int .i64 num,.int .i64 into,.slice aa na ca,.slice ab nb cb] 136)).cell? ⟨w.heap.size,0,none⟩=some (.int .i64 op):=by simp
 have z1:(w.alloc (.cells #[.int .i64 op,.int .i64 num,.int .i64 into,.slice aa na ca,.slice ab nb cb] 136)).cell? ⟨w.heap.size,1,none⟩=some (.int .i64 num):=by simp
 have z2:(w.alloc (.cells #[.int .i64 op,.int .i64 num,.int .i64 into,.slice aa na ca,.slice ab nb cb] 136)).cell? ⟨w.heap.size,2,none⟩=some (.int .i64 into):=by simp
 have z3:(w.alloc (.cells #[.int .i64 op,.int .i64 num,.int .i64 into,.slice aa na ca,.slice ab nb cb] 136)).cell? ⟨w.heap.size,3,none⟩=some (.slice aa na ca):=by simp
 have z4:(w.alloc (.cells #[.int .i64 op,.int .i64 num,.int .i64 into,.slice aa na ca,.slice ab nb cb] 136)).cell? ⟨w.heap.size,4,none⟩=some (.slice ab nb cb):=by simp
 have qA:=(hA.lt).ext K0 (fun _ _ h=>h);have qB:=(hB.lt).ext K0 (fun _ _ h=>h);have sW:(w.alloc (.cells #[.int .i64 op,.int .i64 num,.int .i64 into,.slice aa na ca,.slice ab nb cb] 136)).heap.size=w.heap.size+1:=by simp
 have hql:=h.qlt;have hown:=LH h.own;have hE2:=LH hE;have hdis2:=LH hdis;go_in;go_upto_region 1 with fail;generalize w.alloc (.cells #[.int .i64 op,.int .i64 num,.int .i64 into,.slice aa na ca,.slice ab nb cb] 136)=W at*;have hLD:=hL.k (w':=W.drew) (kD W);have qA:=qA.ext (w':=W.drew) (kD W) (fun _ _ h=>h);have qB:=qB.ext (w':=W.drew) (kD W) (fun _ _ h=>h);obtain⟨hR,hAcc,hnd,hnv,hlt,hb⟩:=hL;have x0:W.cell? ⟨q,0,none⟩=some (v):=hR.cell (i:=0) (by simp);have f0:=hR.frozen 0;have x1:W.cell? ⟨q,1,none⟩=some (.int .i64 N):=hR.cell (i:=1) (by simp);have f1:=hR.frozen 1;have ko:=LH K0;have SW:=LH sW;have NE:Hid (q≠w.heap.size):=(by show _≠_;omega);have LD:=LH hLD;have QA:=LH qA;have QB:=LH qB;have XL:Hid (¬q=W.heap.size):=(by show ¬_;omega);have b0:(W.alloc (.cells #[.int .i64 op,.int .i64 num,.int .i64 into,.slice aa na ca,.slice ab nb cb] 136)).cell? ⟨q,0,none⟩=some v:=(zQ.al W _).cq x0 (fun h=>h);clear hR hAcc hLD qA qB hA hB h hE hdis K0 hlt hnv hnd sW;go_region_law (first
  |(refine V8 (by rfl) (.tmp 9) (.tmp 11) (by rfl) base v rows (by rfl) (LD.out.k (zQ.al _ _)).acc W.heap.size 1 op num into args kids (.slice aa na ca) (.slice ab nb cb) (fun k=>EA k∧k<w.heap.size) (fun k=>EB k∧k<w.heap.size) (by rfl) (j0 W.drew _ _) (QA.out.ext (zQ.al _ _) (fun _ _ h=>h)) (QB.out.ext (zQ.al _ _) (fun _ _ h=>h)) (fun k hk=>by have h1:=hE2.out k (by rcases hk with hk|hk;exact .inl hk.1;exact .inr hk.1);exact⟨h1.1,h1.2.2⟩) (fun k h1 h2=>hdis2.out k h1.1 h2.1) hlen (by simp;have:=SW.out;omega) ?_;intro a' n' c' w2 hA2 x2 s2 b2;have A2:=LH hA2;have X2:=LH x2;have B2:=LH b2;have L1:=LH ((LD.out.k (zQ.al W.drew (.cells #[.int .i64 op,.int .i64 num,.int .i64 into,.slice aa na ca,.slice ab nb cb] 136))).added X2.out A2.out (fun k hk=>by rcases hk with hk|hk;exact(hE2.out k (.inl hk.1)).2.1;exact(hE2.out k (.inr hk.1)).2.1) B2.out);have y0:w2.cell? ⟨q,0,none⟩=some (v):=(L1.out.row.cell (i:=0) (by simp));have g0:=L1.out.row.frozen 0;have y1:w2.cell? ⟨q,1,none⟩=some (.int .i64 N):=(L1.out.row.cell (i:=1) (by simp));have g1:=L1.out.row.frozen 1;clear hA2 x2 b2)
  |fail)
 all_goals
  go_wp2;have L2:=(L1.out.put (cs':= #[(.slice a' n' c'),.int .i64 N]) 0 (.slice a' n' c') rfl (fun j hj=>by rcases(show j=0∨j=1 by simp at hj;omega)with rfl|rfl<;>rfl)).put (cs':= #[(.slice a' n' c'),.int .i64 (N+1)]) 1 (.int .i64 (N+1)) rfl (fun j hj=>by rcases(show j=0∨j=1 by simp at hj;omega)with rfl|rfl<;>rfl);have XF:=((((zQ.to (ko.out.alloc _).drew:Ext (fun k=>k=q∨v.ownBlock=some k) w _).trans (X2.out.mono (fun k _ h=>.inr h))).setCell (p:=⟨q,0,none⟩) (.inr (.inl rfl)) (.slice a' n' c')).setCell (p:=⟨q,1,none⟩) (.inr (.inl rfl)) (.int .i64 (N+1)));exact zB hQ ⟨rfl,_,_,L2,(fun k hk=>by
   rcases hk with hk|hk
   ·exact .inl hk
   ·exact .inr (hk.1.imp (fun h=>h.1) (fun h=>h.1))),XF,(fun k hk=>(B2.out k hk).imp id (fun h=>by have:=SW.out;simp at h;omega))⟩
theorem G6(base q:Nat)(dv:Value)(v:Value)(N:Int)(D:Nat→Prop)(rows:List (List Dat))(op num into:Int)(args:List Int)(kids:List yK)(aa:Option Addr)(na ca:Nat)(ab:Option Addr)(nb cb:Nat)(EA EB:Nat→Prop)(w:World)
  (h:qL w base q 91 #[dv,.int .i64 N,v] D v rows) (hA:Own w EA (zY args) (.slice aa na ca)) (hB:Own w EB (zC kids) (.slice ab nb cb)) (hE:∀k,EA k∨EB k→¬D k∧k≠q∧v.ownBlock≠some k) (hdis:∀k,EA k→¬EB k) (hlen:rows.length≤100000) (hN0:0≤N) (hN1:N≤100000):
  Calls Tryz.prog 109 #[.pointer (some ⟨q,0,none⟩),.agg #[.int .i64 op,.int .i64 num,.int .i64 into,.slice aa na ca,.slice ab nb cb]] w fun e w'=>e=.returned (.int .i64 N)∧∃v' D',qL w' base q 91 #[dv,.int .i64 (N+1),v'] D' v' (rows++ [Xy (.mk op num into args kids)])∧(∀k,D' k→D k∨EA k∨EB k)∧
   Ext (fun k=>k=q∨v.ownBlock=some k) w w'∧∀k,v'.ownBlock=some k→v.ownBlock=some k∨w.heap.size≤k:=by
 refine zV fun Q hQ=>?_;have K0:=zQ.al w (.cells #[.int .i64 op,.int .i64 num,.int .i64 into,.slice aa na ca,.slice ab nb cb] 136);have hL:=h.k K0;have z0:(w.alloc (.cells #[.int .i64 op,.int .i64 num,.int .i64 into,.slice aa na ca,.slice ab nb cb] 136)).cell? ⟨w.heap.size,0,none⟩=some (.int .i64 op):=by simp
 have z1:(w.alloc (.cells #[.int .i64 op,.int .i64 num,.int .i64 into,.slice aa na ca,.slice ab nb cb] 136)).cell? ⟨w.heap.size,1,none⟩=some (.int .i64 num):=by simp
 have z2:(w.alloc (.cells #[.int .i64 op,.int .i64 num,.int .i64 into,.slice aa na ca,.slice ab nb cb] 136)).cell? ⟨w.heap.size,2,none⟩=some (.int .i64 into):=by simp
 have z3:(w.alloc (.cells #[.int .i64 op,.int .i64 num,.int .i64 into,.slice aa na ca,.slice ab nb cb] 136)).cell? ⟨w.heap.size,3,none⟩=some (.slice aa na ca):=by simp
 have z4:(w.alloc (.cells #[.int .i64 op,.int .i64 num,.int .i64 into,.slice aa na ca,.slice ab nb cb] 136)).cell? ⟨w.heap.size,4,none⟩=some (.slice ab nb cb):=by simp
 have qA:=(hA.lt).ext K0 (fun _ _ h=>h);have qB:=(hB.lt).ext K0 (fun _ _ h=>h);have sW:(w.alloc (.cells #[.int .i64 op,.int .i64 num,.int .i64 into,.slice aa na ca,.slice ab nb cb] 136)).heap.size=w.heap.size+1:=by simp
 have hql:=h.qlt;have hown:=LH h.own;have hE2:=LH hE;have hdis2:=LH hdis;go_in;go_upto_region 1 with fail;generalize w.alloc (.cells #[.int .i64 op,.int .i64 num,.int .i64 into,.slice aa na ca,.slice ab nb cb] 136)=W at*;have hLD:=hL.k (w':=W.drew) (kD W);have qA:=qA.ext (w':=W.drew) (kD W) (fun _ _ h=>h);have qB:=qB.ext (w':=W.drew) (kD W) (fun _ _ h=>h);obtain⟨hR,hAcc,hnd,hnv,hlt,hb⟩:=hL;have x0:W.cell? ⟨q,0,none⟩=some (dv):=hR.cell (i:=0) (by simp);have f0:=hR.frozen 0;have x1:W.cell? ⟨q,1,none⟩=some (.int .i64 N):=hR.cell (i:=1) (by simp);have f1:=hR.frozen 1;have x2:W.cell? ⟨q,2,none⟩=some (v):=hR.cell (i:=2) (by simp);have f2:=hR.frozen 2;have ko:=LH K0;have SW:=LH sW;have NE:Hid (q≠w.heap.size):=(by show _≠_;omega);have LD:=LH hLD;have QA:=LH qA;have QB:=LH qB;have XL:Hid (¬q=W.heap.size):=(by show ¬_;omega);have b0:(W.alloc (.cells #[.int .i64 op,.int .i64 num,.int .i64 into,.slice aa na ca,.slice ab nb cb] 136)).cell? ⟨q,2,none⟩=some v:=(zQ.al W _).cq x2 (fun h=>h);clear hR hAcc hLD qA qB hA hB h hE hdis K0 hlt hnv hnd sW;go_region_law (first
  |(refine V8 (by rfl) (.tmp 9) (.tmp 11) (by rfl) base v rows (by rfl) (LD.out.k (zQ.al _ _)).acc W.heap.size 1 op num into args kids (.slice aa na ca) (.slice ab nb cb) (fun k=>EA k∧k<w.heap.size) (fun k=>EB k∧k<w.heap.size) (by rfl) (j0 W.drew _ _) (QA.out.ext (zQ.al _ _) (fun _ _ h=>h)) (QB.out.ext (zQ.al _ _) (fun _ _ h=>h)) (fun k hk=>by have h1:=hE2.out k (by rcases hk with hk|hk;exact .inl hk.1;exact .inr hk.1);exact⟨h1.1,h1.2.2⟩) (fun k h1 h2=>hdis2.out k h1.1 h2.1) hlen (by simp;have:=SW.out;omega) ?_;intro a' n' c' w2 hA2 x2 s2 b2;have A2:=LH hA2;have X2:=LH x2;have B2:=LH b2;have L1:=LH ((LD.out.k (zQ.al W.drew (.cells #[.int .i64 op,.int .i64 num,.int .i64 into,.slice aa na ca,.slice ab nb cb] 136))).added X2.out A2.out (fun k hk=>by rcases hk with hk|hk;exact(hE2.out k (.inl hk.1)).2.1;exact(hE2.out k (.inr hk.1)).2.1) B2.out);have y0:w2.cell? ⟨q,0,none⟩=some (dv):=(L1.out.row.cell (i:=0) (by simp));have g0:=L1.out.row.frozen 0;have y1:w2.cell? ⟨q,1,none⟩=some (.int .i64 N):=(L1.out.row.cell (i:=1) (by simp));have g1:=L1.out.row.frozen 1;have y2:w2.cell? ⟨q,2,none⟩=some (v):=(L1.out.row.cell (i:=2) (by simp));have g2:=L1.out.row.frozen 2;clear hA2 x2 b2)
  |fail)
 all_goals
  go_wp2;have L2:=(L1.out.put (cs':= #[dv,.int .i64 N,(.slice a' n' c')]) 2 (.slice a' n' c') rfl (fun j hj=>by rcases(show j=0∨j=1∨j=2 by simp at hj;omega)with rfl|rfl|rfl<;>rfl)).put (cs':= #[dv,.int .i64 (N+1),(.slice a' n' c')]) 1 (.int .i64 (N+1)) rfl (fun j hj=>by rcases(show j=0∨j=1∨j=2 by simp at hj;omega)with rfl|rfl|rfl<;>rfl);have XF:=((((zQ.to (ko.out.alloc _).drew:Ext (fun k=>k=q∨v.ownBlock=some k) w _).trans (X2.out.mono (fun k _ h=>.inr h))).setCell (p:=⟨q,2,none⟩) (.inr (.inl rfl)) (.slice a' n' c')).setCell (p:=⟨q,1,none⟩) (.inr (.inl rfl)) (.int .i64 (N+1)));exact zB hQ ⟨rfl,_,_,L2,(fun k hk=>by
   rcases hk with hk|hk
   ·exact .inl hk
   ·exact .inr (hk.1.imp (fun h=>h.1) (fun h=>h.1))),XF,(fun k hk=>(B2.out k hk).imp id (fun h=>by have:=SW.out;simp at h;omega))⟩
end Go.Proofs.YtkapldpmjkdmcaaGreat
