/- ValidTypes of the program. -/
import Derived.Test.YtkapldpmjkdmcaaGreatUAB
import Derived.Deep.RegionHeld3
import Derived.IntWalk
namespace Go.Proofs.YtkapldpmjkdmcaaGreat
open Go.RowKit
set_option maxRecDepth 100000
set_option maxHeartbeats 2000000
theorem Dk{n:Nat}{c:List Int}:gX n c=true↔c.length≤3∧j8 n c=true:=by simp[gX]
theorem Pv(n:Nat):isT n 0=true:=by simp[isT]
theorem L9{ds:List zG}{n k:Nat}(hn:ds.length=n)(h:isT n (dAt ds k).from_=false):yY ds k=false:=by
 unfold yY;split
 ·have:(dAt ds k).from_≠0:=by intro e;rw[e,Pv]at h;cases h
  simp[this]
 ·rw[hn,h];simp
theorem MJ{ds:List zG}{n k:Nat}(hn:ds.length=n)(h:isT n (dAt ds k).to_=false):yY ds k=false:=by
 unfold yY;split
 ·have:(dAt ds k).to_≠0:=by intro e;rw[e,Pv]at h;cases h
  simp[this]
 ·rw[hn,h];simp
theorem LG{ds:List zG}{k:Nat}(h:3<(dAt ds k).cons.length):yY ds k=false:=by
 unfold yY;rw[if_pos (by omega)];simp;omega
theorem MR{ds:List zG}{k:Nat}(h:0<(dAt ds k).cons.length)(h2:(dAt ds k).from_≠0∨(dAt ds k).to_≠0):yY ds k=false:=by
 unfold yY;rw[if_pos h];rcases h2 with h2|h2<;>simp[h2]
theorem WX{ds:List zG}{n k j:Nat}(hn:ds.length=n)(hj:j<(dAt ds k).cons.length)(h2:gX n (cAt (dAt ds k).cons j)=false):yY ds k=false:=by
 unfold yY;rw[if_pos (by omega),hn,YW hj h2];simp
theorem L6{ds:List zG}{k j:Nat}(h:(dAt ds k).cons.length=0)(hj:j<k)(h2:yD (dAt ds j) (dAt ds k)=true):yY ds k=false:=by
 unfold yY;rw[if_neg (by omega),jQ hj (by simp[h2])];simp
theorem Fq{ds:List zG}{n k:Nat}(hn:ds.length=n)(h:0<(dAt ds k).cons.length)(h3:(dAt ds k).cons.length≤3)(h1:(dAt ds k).from_=0)(h2:(dAt ds k).to_=0)
  (hc:∀j,j<(dAt ds k).cons.length→gX n (cAt (dAt ds k).cons j)=true):yY ds k=true:=by
 unfold yY;rw[if_pos h,hn,LS.2 hc];simp[h1,h2,h3]
theorem H9{ds:List zG}{n k:Nat}(hn:ds.length=n)(h:(dAt ds k).cons.length=0)(h1:isT n (dAt ds k).from_=true)(h2:isT n (dAt ds k).to_=true)
  (hc:∀j,j<k→yD (dAt ds j) (dAt ds k)=false):yY ds k=true:=by
 unfold yY;rw[if_neg (by omega),hn,h1,h2];simp only[Bool.true_and];exact J4.2 fun j hj=>by simp[hc j hj]
theorem YP{w w2:World}{cs:Array Value}{T:TypeId}(h:zQ (w.alloc (.cells cs T)) w2)(i:Nat):w2.cell? ⟨w.heap.size,i,none⟩=cs[i]?:=by
 rw[h.cell (p:=⟨w.heap.size,i,none⟩) (by simp) (fun h=>h),cell_of_row _ w.heap.size i cs T (0,0) (heap_alloc_new w _)]
theorem yB(a:Option Addr)(n c:Nat)(ds:List zG)(D:Nat→Prop)(w:World)(h:qy w D a n ds)(hnc:n≤c):
  Calls Tryz.prog 159 #[.slice a n c] w fun e w'=>e=.returned (.bool (qU ds))∧zQ w w':=by
 refine zV fun Q hQ=>?_;have hlen:=h.1;by_cases h4:n≤4
 ·have hfin:Hid (qU ds=(List.range n).all (yY ds)):=by
   show _=_;simp[qU,hlen,h4]
  go_in;go_wp2;go_loopw [14] (fun i wr=>∃j:Nat,j≤n∧i=.int .i64 j∧zQ w wr∧Hid (∀l,l<j→yY ds l=true)) (fun i _=>n-(intOf i).toNat)
  case atStart=>exact⟨0,Nat.zero_le _,rfl,Ext.refl _ _,fun j hj=>absurd hj (by omega)⟩
  case round=>
   obtain⟨wo,rfl⟩:∃wo:World,wo=wr:=⟨_,rfl⟩;obtain⟨k,hk,rfl,hK,H⟩:=hrel;by_cases hlt:k<n
   ·have h1:=h.ext hK (fun _ _ h=>h)
    obtain⟨_,hcell⟩:=h1;obtain⟨b,o,rfl,hd,hc⟩:=hcell (by omega);obtain⟨c0,c1,a',m,c',c2,hmc,hcons⟩:=hc k hlt;have HL:=LH hlen;have HM:=LH hcons.1;generalize hF:(dAt ds k).from_=F at*;generalize hT:(dAt ds k).to_=T at*;have HF:=LH hF;have HT:=LH hT;clear hF hT hlen;have hKa:zQ wo (wo.alloc (.cells #[.int .i64 F,.int .i64 T,.slice a' m c'] 125)):=(Ext.refl _ wo).alloc _;cases v1:isT n F
    ·have V1:=LH v1
     clear hc hcell hcons;go_wp2_with (go_at_call 160;refine(vP _ _ _ _ _ V1.out).mono ?_;rintro e w1 ⟨rfl,rfl⟩);exact zB hQ ⟨qK (by rw[hfin.out,jQ hlt (L9 HL.out (by rw[HF.out];exact V1.out))]),hK.trans hKa⟩
    cases v2:isT n T
    ·have V1:=LH v1
     have V2:=LH v2;clear hc hcell hcons v1 v2;go_wp2_with fail;refine(yQ _ _ _ _ _ V1.out).mono ?_;rintro e w1 ⟨rfl,rfl⟩;go_wp2_with fail;refine(vP _ _ _ _ _ V2.out).mono ?_;rintro e w1 ⟨rfl,rfl⟩;go_wp2_with fail;exact zB hQ ⟨qK (by rw[hfin.out,jQ hlt (MJ HL.out (by rw[HT.out];exact V2.out))]),hK.trans hKa⟩
    have V1:=LH v1;have V2:=LH v2;have HC:=LH hc;have HCO:=LH hcons;clear v1 v2 hc hcell hcons;by_cases hm3:m≤3
    ·by_cases hm0:m=0
     ·subst hm0
      go_wp2_with fail;refine(yQ _ _ _ _ _ V1.out).mono ?_;rintro e w1 ⟨rfl,rfl⟩;go_wp2_with fail;refine(yQ _ _ _ _ _ V2.out).mono ?_;rintro e w1 ⟨rfl,rfl⟩;go_wp2_with fail;refine wp_loop_once ?_;go_wp2_with fail;go_loopw [76] (fun i w2=>∃j:Nat,j≤k∧i=.int .i64 j∧zQ (wo.alloc (.cells #[.int .i64 F,.int .i64 T,.slice a' 0 c'] 125)) w2∧Hid (∀l,l<j→yD (dAt ds l) (dAt ds k)=false)) (fun i _=>k-(intOf i).toNat)
      case atStart=>exact⟨0,Nat.zero_le _,rfl,Ext.refl _ _,fun j hj=>absurd hj (by omega)⟩
      case round=>
       obtain⟨w2,rfl⟩:∃w2:World,w2=wr:=⟨_,rfl⟩;obtain⟨j,hj,rfl,hK2,H2⟩:=hrel;by_cases hltj:j<k
       ·have hK3:zQ wo w2:=hKa.trans hK2
        obtain⟨e0,e1,a2,m2,c2',e2,_,e3⟩:=HC.out j (by omega);obtain⟨x0,x1,x2⟩:=hK3.k3 e0 e1 e2;have y0:=YP hK2 0;have y1:=YP hK2 1;have y2:=YP hK2 2;have y0':w2.cell? ⟨wo.heap.size,0,none⟩=some (.int .i64 F):=y0;have y1':w2.cell? ⟨wo.heap.size,1,none⟩=some (.int .i64 T):=y1;have y2':w2.cell? ⟨wo.heap.size,2,none⟩=some (.slice a' 0 c'):=y2;have E3:=LH e3.1;have hlt2:wo.heap.size<w2.heap.size:=by have:=hK2.size;simp at this;omega
        clear e0 e1 e2 e3 y0 y1 y2 c0 c1 c2;by_cases g0:m2=0
        ·subst g0
         cases g1:((dAt ds j).from_==F)
         ·have hs:Hid (yD (dAt ds j) (dAt ds k)=false):=by
           show _=_;simp only[yD,HF.out];simp only[beq_eq_false_iff_ne]at g1;simp[g1]
          go_wp2;go_roundw
          case rel=>exact⟨j+1,by omega,by go_num,hK2.trans ((Ext.refl _ _).alloc _),fun l hl=>by
           rcases Nat.lt_succ_iff_lt_or_eq.1 hl with h|rfl
           ·exact H2.out l h
           ·exact hs.out⟩
          case measure=>simp[intOf];omega
         ·cases g2:((dAt ds j).to_==T)
          ·have hs:Hid (yD (dAt ds j) (dAt ds k)=false):=by
            show _=_;simp only[yD,HT.out];simp only[beq_eq_false_iff_ne]at g2;simp[g2]
           go_wp2;go_roundw
           case rel=>exact⟨j+1,by omega,by go_num,hK2.trans ((Ext.refl _ _).alloc _),fun l hl=>by
            rcases Nat.lt_succ_iff_lt_or_eq.1 hl with h|rfl
            ·exact H2.out l h
            ·exact hs.out⟩
           case measure=>simp[intOf];omega
          ·have hs:Hid (yD (dAt ds j) (dAt ds k)=true):=by
            show _=_;simp only[yD,HF.out,HT.out];simp only[beq_iff_eq]at g1 g2;simp[g1,g2];exact List.eq_nil_of_length_eq_zero E3.out
           go_wp2;exact zB hQ ⟨qK (by rw[hfin.out,jQ hlt (L6 HM.out hltj hs.out)]),hK.trans (hK3.trans ((Ext.refl _ _).alloc _))⟩
        ·have g0':((m2:Int)==0)=false:=by simp;omega
         have hs:Hid (yD (dAt ds j) (dAt ds k)=false):=by
          show _=_;simp only[yD,E3.out];simp[g0]
         go_wp2;go_roundw
         case rel=>exact⟨j+1,by omega,by go_num,hK2.trans ((Ext.refl _ _).alloc _),fun l hl=>by
          rcases Nat.lt_succ_iff_lt_or_eq.1 hl with h|rfl
          ·exact H2.out l h
          ·exact hs.out⟩
         case measure=>simp[intOf];omega
       ·go_wp2
        go_roundw
        case rel=>exact⟨k+1,by omega,by go_num,hK.trans (hKa.trans hK2),fun l hl=>by
         rcases Nat.lt_succ_iff_lt_or_eq.1 hl with h|rfl
         ·exact H.out l h
         ·exact H9 HL.out HM.out (by rw[HF.out];exact V1.out) (by rw[HT.out];exact V2.out) (fun i hi=>H2.out i (by omega))⟩
        case measure=>simp[intOf];omega
     ·by_cases hz:F=0∧T=0
      ·obtain⟨rfl,rfl⟩:=hz
       go_wp2_with fail;refine(yQ _ _ _ _ _ V1.out).mono ?_;rintro e w1 ⟨rfl,rfl⟩;go_wp2_with fail;refine(yQ _ _ _ _ _ V2.out).mono ?_;rintro e w1 ⟨rfl,rfl⟩;go_wp2_with fail;go_loopw [56] (fun i w2=>∃j:Nat,j≤m∧i=.int .i64 j∧zQ (wo.alloc (.cells #[.int .i64 0,.int .i64 0,.slice a' m c'] 125)) w2∧Hid (∀l,l<j→gX n (cAt (dAt ds k).cons l)=true)) (fun i _=>m-(intOf i).toNat)
       case atStart=>exact⟨0,Nat.zero_le _,rfl,Ext.refl _ _,fun j hj=>absurd hj (by omega)⟩
       case round=>
        obtain⟨w2,rfl⟩:∃w2:World,w2=wr:=⟨_,rfl⟩;obtain⟨j,hj,rfl,hK2,H2⟩:=hrel;have hK3:zQ wo w2:=hKa.trans hK2;have hlt2:wo.heap.size<w2.heap.size:=by have:=hK2.size;simp at this;omega
        by_cases hltj:j<m
        ·have hco:=HCO.out.ext hK3 (fun _ _ h=>h)
         obtain⟨b1,o1,rfl,hd1,hc1⟩:=hco.2 (by omega);obtain⟨a2,m2,c2',x0,hmc2,hints⟩:=hc1 j hltj;have hints1:=hints.ext ((Ext.refl (fun _=>False) w2).alloc (.cells #[.slice a2 m2 c2'] 155)) (fun _ _ h=>h);have HL2:=LH hints.1;clear hc1 hco hints c0 c1 c2;by_cases g1:m2≤3
         ·cases hv:j8 n (cAt (dAt ds k).cons j)
          ·have V:=LH hv
           clear hv;go_wp2_with fail;refine(xR _ _ _ _ _ _ _ _ _ hints1 (by omega)).mono ?_;rw[V.out];rintro e w1 ⟨rfl,rfl⟩;go_wp2_with fail;exact zB hQ ⟨qK (by rw[hfin.out,jQ hlt (WX HL.out (j:=j) (by have:=HM.out;omega) (by simp[gX,V.out]))]),hK.trans (hK3.trans ((Ext.refl _ _).alloc _))⟩
          ·have V:=LH hv
           clear hv;go_wp2_with fail;refine(xR _ _ _ _ _ _ _ _ _ hints1 (by omega)).mono ?_;rw[V.out];rintro e w1 ⟨rfl,rfl⟩;go_wp2_with fail;go_roundw
           case rel=>exact⟨j+1,by omega,by go_num,hK2.trans ((Ext.refl _ _).alloc _),fun l hl=>by
            rcases Nat.lt_succ_iff_lt_or_eq.1 hl with h|rfl
            ·exact H2.out l h
            ·exact Dk.2 ⟨by have:=HL2.out;omega,V.out⟩⟩
           case measure=>simp[intOf];omega
         ·go_wp2_with fail
          exact zB hQ ⟨qK (by rw[hfin.out,jQ hlt (WX HL.out (j:=j) (by have:=HM.out;omega) (by have:=HL2.out;simp[gX];omega))]),hK.trans (hK3.trans ((Ext.refl _ _).alloc _))⟩
        ·have hm0':((m:Int)==0)=false:=by simp;omega
         have y2:w2.cell? ⟨wo.heap.size,2,none⟩=some (.slice a' m c'):=YP hK2 2;clear c0 c1 c2;go_wp2_with fail;go_loopw [76] (fun i w3=>∃l:Nat,l≤k∧i=.int .i64 l∧zQ w2 w3) (fun i _=>k-(intOf i).toNat)
         case atStart=>exact⟨0,Nat.zero_le _,rfl,Ext.refl _ _⟩
         case round=>
          obtain⟨w3,rfl⟩:∃w3:World,w3=wr:=⟨_,rfl⟩;obtain⟨l,hl,rfl,hK4⟩:=hrel;have z2:=(hK4.cell (p:=⟨wo.heap.size,2,none⟩) hlt2 (fun h=>h)).trans y2;have hlt3:wo.heap.size<w3.heap.size:=by have:=hK4.size;omega
          clear y2;by_cases hltl:l<k
          ·obtain⟨e0,e1,a2,m2,c2',e2,_,e3⟩:=HC.out l (by omega)
           have hK5:zQ wo w3:=hK3.trans hK4;obtain⟨x0,x1,x2⟩:=hK5.k3 e0 e1 e2;clear e0 e1 e2 e3;go_wp2_with fail;go_roundw
           case rel=>exact⟨l+1,by omega,by go_num,hK4.trans ((Ext.refl _ _).alloc _)⟩
           case measure=>simp[intOf];omega
          ·go_wp2_with fail
           go_roundw
           case rel=>exact⟨k+1,by omega,by go_num,hK.trans (hK3.trans hK4),fun l hl=>by
            rcases Nat.lt_succ_iff_lt_or_eq.1 hl with h|rfl
            ·exact H.out l h
            ·exact Fq HL.out (by have:=HM.out;omega) (by have:=HM.out;omega) HF.out HT.out (fun i hi=>H2.out i (by have:=HM.out;omega))⟩
           case measure=>simp[intOf];omega
      ·have hz':F≠0∨T≠0:=by
        by_cases h0:F=0
        ·exact .inr fun h1=>hz ⟨h0,h1⟩
        ·exact .inl h0
       have hb:=LH (MR (ds:=ds) (k:=k) (by have:=HM.out;omega) (by rw[HF.out,HT.out];exact hz'));clear hz;cases g0:(F !=0)
       ·have g1:(T !=0)=true:=by
         simp only[bne_eq_false_iff_eq]at g0;rcases hz' with h|h
         ·exact absurd g0 h
         ·simpa using h
        clear hz';go_wp2_with fail;refine(yQ _ _ _ _ _ V1.out).mono ?_;rintro e w1 ⟨rfl,rfl⟩;go_wp2_with fail;refine(yQ _ _ _ _ _ V2.out).mono ?_;rintro e w1 ⟨rfl,rfl⟩;go_wp2_with fail;exact zB hQ ⟨qK (by rw[hfin.out,jQ hlt hb.out]),hK.trans hKa⟩
       ·clear hz'
        go_wp2_with fail;refine(yQ _ _ _ _ _ V1.out).mono ?_;rintro e w1 ⟨rfl,rfl⟩;go_wp2_with fail;refine(yQ _ _ _ _ _ V2.out).mono ?_;rintro e w1 ⟨rfl,rfl⟩;go_wp2_with fail;exact zB hQ ⟨qK (by rw[hfin.out,jQ hlt hb.out]),hK.trans hKa⟩
    ·go_wp2_with fail
     refine(yQ _ _ _ _ _ V1.out).mono ?_;rintro e w1 ⟨rfl,rfl⟩;go_wp2_with fail;refine(yQ _ _ _ _ _ V2.out).mono ?_;rintro e w1 ⟨rfl,rfl⟩;go_wp2_with fail;exact zB hQ ⟨qK (by rw[hfin.out,jQ hlt (LG (by have:=HM.out;omega))]),hK.trans hKa⟩
   ·go_wp2
    exact zB hQ ⟨qK (by rw[hfin.out];exact(J4.2 (fun l hl=>H.out l (by omega))).symm),hK⟩
 ·have hfin:Hid (qU ds=false):=by
   show _=_;simp[qU,hlen,h4]
  go_in;go_wp2;exact zB hQ ⟨qK hfin.out.symm,Ext.refl _ _⟩
def uw(s:yJ)(k:Nat):Bool:=decide (0≤iAt s.lent k) && decide (iAt s.lent k<(s.params.length:Int)) && decide (iAt s.params (iAt s.lent k).toNat≠0) && (decide (k=0) ||decide (iAt s.lent (k-1)<iAt s.lent k))
def GU(s:yJ):Bool:=(List.range s.lent.length).all (uw s)
def uJ(n:Nat)(s:yJ):Bool:=decide (s.params.length≤3) && j8 n s.params && isT n s.result && GU s
def qJ(ds:List zG)(sg:List yJ):Bool:=
 qU ds && decide (1≤sg.length) && decide (sg.length≤4) && decide ((yH sg 0).params.length=0) && decide ((yH sg 0).result=0) && (List.range sg.length).all (fun i=>uJ ds.length (yH sg i))
def zM(f:zA):yJ:=⟨f.params, [],f.result⟩
theorem gN(fs:List zA){i:Nat}(h:i<fs.length):yH (fs.map zM) i=zM (fAt fs i):=by
 rw[YM (by simpa using h),YS h];simp
theorem Y6{ds sg}(h:qU ds=false):qJ ds sg=false:=by simp[qJ,h]
theorem ZH{ds}{sg:List yJ}(h:sg.length<1∨4<sg.length):qJ ds sg=false:=by
 rcases h with h|h
 ·have e:decide (1≤sg.length)=false:=decide_eq_false (by omega)
  simp only[qJ,e,Bool.and_false,Bool.false_and]
 ·have e:decide (sg.length≤4)=false:=decide_eq_false (by omega)
  simp only[qJ,e,Bool.and_false,Bool.false_and]
theorem gW{ds}{sg:List yJ}(h:¬((yH sg 0).params.length=0∧(yH sg 0).result=0)):qJ ds sg=false:=by
 by_cases h1:(yH sg 0).params.length=0
 ·have e:decide ((yH sg 0).result=0)=false:=decide_eq_false (fun h2=>h ⟨h1,h2⟩)
  simp only[qJ,e,Bool.and_false,Bool.false_and]
 ·have e:decide ((yH sg 0).params.length=0)=false:=decide_eq_false h1
  simp only[qJ,e,Bool.and_false,Bool.false_and]
theorem xq{ds}{sg:List yJ}{n i:Nat}(hn:ds.length=n)(hi:i<sg.length)(h:uJ n (yH sg i)=false):qJ ds sg=false:=by
 subst hn;have e:(List.range sg.length).all (fun i=>uJ ds.length (yH sg i))=false:=jQ hi h;simp only[qJ,e,Bool.and_false]
theorem UV{ds}{sg:List yJ}{n:Nat}(hn:ds.length=n)(h1:qU ds=true)(h2:1≤sg.length)(h3:sg.length≤4)(h4:(yH sg 0).params.length=0)(h5:(yH sg 0).result=0)
  (h:∀i,i<sg.length→uJ n (yH sg i)=true):qJ ds sg=true:=by
 subst hn;have e:(List.range sg.length).all (fun i=>uJ ds.length (yH sg i))=true:=J4.2 h;simp only[qJ,e,h1,h2,h3,h4,h5,decide_true,Bool.and_self]
theorem VM{n:Nat}{s:yJ}(h:3<s.params.length):uJ n s=false:=by
 have e:decide (s.params.length≤3)=false:=decide_eq_false (by omega);simp only[uJ,e,Bool.false_and]
theorem Yv{n:Nat}{s:yJ}(h:j8 n s.params=false):uJ n s=false:=by simp only[uJ,h,Bool.and_false,Bool.false_and]
theorem YD{n:Nat}{s:yJ}(h:isT n s.result=false):uJ n s=false:=by simp only[uJ,h,Bool.and_false,Bool.false_and]
theorem ZN{n:Nat}{s:yJ}{k:Nat}(hk:k<s.lent.length)(h:uw s k=false):uJ n s=false:=by
 have e:GU s=false:=jQ hk h;simp only[uJ,e,Bool.and_false]
theorem VS{n:Nat}{s:yJ}(h1:s.params.length≤3)(h2:j8 n s.params=true)(h3:isT n s.result=true)(h4:∀k,k<s.lent.length→uw s k=true):uJ n s=true:=by
 have e:GU s=true:=J4.2 h4;simp only[uJ,e,h1,h2,h3,decide_true,Bool.and_self]
theorem H7{f:zA}:(zM f).lent.length=0:=rfl
theorem vy(a:Option Addr)(n c:Nat)(ds:List zG)(D:Nat→Prop)(w:World)(h:Rd w D (z5 ds) (.slice a n c)):
  Calls Tryz.prog 142 #[.slice a n c] w fun e w'=>e=.returned (.bool (qU ds))∧zQ w w':=by
 by_cases h4:n≤4
 ·exact jK a n c ds D w h.toDecls (by omega)
 refine zV fun Q hQ=>?_;have hlen:=h.toDecls.1;have hfin:Hid (qU ds=false):=by
  show _=_;simp[qU,hlen,h4]
 go_in;go_wp2;exact zB hQ ⟨qK hfin.out.symm,Ext.refl _ _⟩
theorem j6(ds:List zG)(fs:List zA)(a0:Option Addr)(n0 c0:Nat)(a1:Option Addr)(n1 c1:Nat)(D0 D1:Nat→Prop)(w:World)(r0:Rd w D0 (z5 ds) (.slice a0 n0 c0))(r1:Rd w D1 (qW fs) (.slice a1 n1 c1)):
  Calls Tryz.prog 97 #[.agg #[.slice a0 n0 c0,.slice a1 n1 c1]] w fun e w'=>e=.returned (.bool (qJ ds (fs.map zM)))∧zQ w w':=by
 refine zV fun Q hQ=>?_;have K0:=zQ.al w (.cells #[.slice a0 n0 c0,.slice a1 n1 c1] 44);have hd0:=LH (r0.toDecls.1);obtain⟨e1,hnc,hm,hat⟩:=qZ r1;have HL:=LH e1;have HA:=LH hat;have HLM:=LH (show(fs.map zM).length=n1 by simp[e1]);clear e1 hat;cases v1:qU ds
 ·have V:=LH (Y6 (sg:=fs.map zM) v1)
  have V1:=LH v1;clear v1;go_in;go_wp2_with fail;refine(vy _ _ _ _ _ _ (r0.k K0)).mono ?_;rw[V1.out];rintro e w1 ⟨rfl,p1⟩;go_wp2_with fail;exact zB hQ ⟨qK V.out.symm,K0.trans p1⟩
 have V1:=LH v1;clear v1;by_cases hl:1≤n1∧n1≤4
 case neg=>
  have V:=LH (ZH (ds:=ds) (sg:=fs.map zM) (by have:=HLM.out;omega));have V2:Hid (decide ((1:Int)≤(n1:Int)∧(n1:Int)≤4)=false):=decide_eq_false (by omega);clear hl;go_in;go_wp2_with fail;refine(vy _ _ _ _ _ _ (r0.k K0)).mono ?_;rw[V1.out];rintro e w1 ⟨rfl,p1⟩;have x1:=xQ p1 1;simp at x1;go_wp2_with fail;refine(qQ _ _ _ _).mono ?_;rw[V2.out];rintro e w2 ⟨rfl,rfl⟩;go_wp2_with fail;exact zB hQ ⟨qK V.out.symm,K0.trans p1⟩
 obtain⟨hl1,hl4⟩:=hl;have V2:Hid (decide ((1:Int)≤(n1:Int)∧(n1:Int)≤4)=true):=decide_eq_true (by omega);go_in;go_wp2_with fail;refine(vy _ _ _ _ _ _ (r0.k K0)).mono ?_;rw[V1.out];rintro e w1 ⟨rfl,p1⟩;have x1:=xQ p1 1;simp at x1;go_wp2_with fail;refine(qQ _ _ _ _).mono ?_;rw[V2.out];rintro e w2 ⟨rfl,rfl⟩;go_wp2_with fail;clear x1;go_loopw [3] (fun iv wr=>∃j:Nat,j≤n1∧iv=.int .i64 j∧Hid (∀l,l<j→uJ n0 (yH (fs.map zM) l)=true)∧zQ (w.alloc (.cells #[.slice a0 n0 c0,.slice a1 n1 c1] 44)) wr) (fun i _=>n1-(intOf i).toNat)
 case atStart=>exact⟨0,Nat.zero_le _,rfl,fun j hj=>absurd hj (by omega),p1⟩
 case round=>
  obtain⟨wo,rfl⟩:∃wo:World,wo=wr:=⟨_,rfl⟩;obtain⟨j,hj,rfl,H,hK⟩:=hrel;have x0:=xQ hK 0;have x1:=xQ hK 1;simp at x0 x1;by_cases hlt:j<n1
  ·obtain⟨b,o,rfl,hd,a3,n3,c3,a4,n4,c4,d0,d1,d2,d3,d4,r3,r4⟩:=HA.out j hlt
   have hKw:=K0.trans hK;obtain⟨g0,g1,g2,g3,g4⟩:=hKw.k5 d0 d1 d2 d3 d4;have hP:=LH r3.toInts.1;have HG:=LH (gN fs (i:=j) (by have:=HL.out;omega));have ka:=zQ.al wo (.cells #[.slice a3 n3 c3,.int .i64 (fAt fs j).result,.int .i64 (fAt fs j).body.op,.int .i64 (fAt fs j).body.num,.slice a4 n4 c4] 60);have q3:=LH (((r3.k hKw).k ka).toInts);have hKa:=LH (hKw.trans ka);have hKb:=LH (hK.trans ka);have z0:=xQ hKb.out 0;simp only[List.getElem?_toArray,List.getElem?_cons_zero]at z0;clear d0 d1 d2 d3 d4 r3 r4 ka;by_cases h3:n3≤3
   case neg=>
    have V:=LH (xq (ds:=ds) hd0.out (by have:=HLM.out;omega) (show uJ n0 (yH (fs.map zM) j)=false from by rw[HG.out];exact VM (by have:=hP.out;show 3<(fAt fs j).params.length;omega)));go_wp2_with fail;exact zB hQ ⟨qK V.out.symm,hKa.out⟩
   cases v3:j8 n0 (fAt fs j).params
   ·have V:=LH (xq (ds:=ds) hd0.out (by have:=HLM.out;omega) (show uJ n0 (yH (fs.map zM) j)=false from by rw[HG.out];exact Yv v3))
    have V3:=LH v3;clear v3;go_wp2_with fail;refine(xT _ _ _ _ _ _ _ _ _ q3.out (by omega)).mono ?_;rw[V3.out];rintro e w2 ⟨rfl,rfl⟩;go_wp2_with fail;exact zB hQ ⟨qK V.out.symm,hKa.out⟩
   have V3:=LH v3;clear v3;cases v4:isT n0 (fAt fs j).result
   ·have V:=LH (xq (ds:=ds) hd0.out (by have:=HLM.out;omega) (show uJ n0 (yH (fs.map zM) j)=false from by rw[HG.out];exact YD v4))
    have V4:Hid (decide (0≤(fAt fs j).result∧(fAt fs j).result≤(n0:Int))=false):=v4;clear v4;go_wp2_with fail;refine(xT _ _ _ _ _ _ _ _ _ q3.out (by omega)).mono ?_;rw[V3.out];rintro e w2 ⟨rfl,rfl⟩;go_wp2_with fail;refine(qQ _ _ _ _).mono ?_;rw[V4.out];rintro e w2 ⟨rfl,rfl⟩;go_wp2_with fail;exact zB hQ ⟨qK V.out.symm,hKa.out⟩
   have V5:=LH v4;have V4:Hid (decide (0≤(fAt fs j).result∧(fAt fs j).result≤(n0:Int))=true):=v4;clear v4;go_wp2_with fail;refine(xT _ _ _ _ _ _ _ _ _ q3.out (by omega)).mono ?_;rw[V3.out];rintro e w2 ⟨rfl,rfl⟩;go_wp2_with fail;refine(qQ _ _ _ _).mono ?_;rw[V4.out];rintro e w2 ⟨rfl,rfl⟩;go_wp2_with fail;go_roundw
   case rel=>exact⟨j+1,by omega,by go_num,fun l hl=>by
    rcases Nat.lt_succ_iff_lt_or_eq.1 hl with h|rfl
    ·exact H.out l h
    ·rw[HG.out];exact VS (by have:=hP.out;show(fAt fs l).params.length≤3;omega) V3.out V5.out (fun k hk=>absurd hk (by rw[H7];omega)),hKb.out⟩
   case measure=>simp[intOf];omega
  ·obtain⟨b,o,rfl,hd,a3,n3,c3,a4,n4,c4,d0,d1,d2,d3,d4,r3,r4⟩:=HA.out 0 (by omega)
   have hKw:=K0.trans hK;obtain⟨g0,g1⟩:=hKw.k2 d0 d1;rw[Nat.zero_mul,Nat.add_zero]at g0 g1;have hP:=r3.toInts.1;have HG:=gN fs (i:=0) (by have:=HL.out;omega);have HJ:j=n1:=by omega
   clear d0 d1 d2 d3 d4 r3 r4;by_cases h0:n3=0
   ·by_cases h5:(fAt fs 0).result=0
    ·have V:=LH (UV (n:=n0) hd0.out V1.out (by have:=HLM.out;omega) (by have:=HLM.out;omega) (by rw[HG];show(fAt fs 0).params.length=0;omega) (by rw[HG];exact h5) (fun i hi=>H.out i (by have:=HLM.out;omega)))
     clear hP HG HJ;subst h0;rw[h5]at g1;go_wp2_with fail;exact zB hQ ⟨qK (by rw[V.out]),hKw⟩
    ·have V:=LH (gW (ds:=ds) (sg:=fs.map zM) (fun h=>h5 (by have:=h.2;rw[HG]at this;exact this)))
     have h5':((fAt fs 0).result==0)=false:=by simpa using h5
     clear hP HG HJ h5;subst h0;go_wp2_with fail;exact zB hQ ⟨qK (by rw[V.out]),hKw⟩
   ·have V:=LH (gW (ds:=ds) (sg:=fs.map zM) (fun h=>h0 (by have:=h.1;rw[HG]at this;have e:(fAt fs 0).params.length=0:=this;omega)))
    have h0':((n3:Int)==0)=false:=by simp;omega
    clear hP HG HJ h0;go_wp2_with fail;exact zB hQ ⟨qK (by rw[V.out]),hKw⟩
mutual
def nE:zK→Nat
 | .mk _ _ ks=>nEs ks+1
def nEs:List zK→Nat
 | []=>0
 |k::ks=>nE k+nEs ks
end
theorem uF(e:zK):nE e=nEs e.kids+1:=by cases e;rfl
theorem Ww(e:zK):1≤nE e:=by rw[uF];omega
theorem gS(a b:List zK):nEs (a++b)=nEs a+nEs b:=by induction a<;>simp_all [nEs,Nat.add_assoc]
theorem xj(es:List zK){j:Nat}(h:j<es.length):es.take (j+1)=es.take j++ [eAt es j]:=by rw[List.take_succ_eq_append_getElem h,Y7 h]
theorem vQ(es:List zK){j:Nat}(h:j<es.length):nEs (es.take (j+1))=nEs (es.take j)+nE (eAt es j):=by rw[xj es h,gS];simp[nEs]
theorem jA(es:List zK)(j:Nat):nEs (es.take j)≤nEs es:=by
 rw[←List.take_append_drop j es,gS];simp
theorem yN(es:List zK){j:Nat}(h:j<es.length):nE (eAt es j)≤nEs es:=by
 have h1:=vQ es h;have h2:=jA es (j+1);omega
theorem qq(es:List zK):es.length≤nEs es:=by
 induction es with
 |nil=>simp
 |cons e es ih=>have:=Ww e;simp only[List.length_cons,nEs];omega
mutual
def mE(v:Int):zK→Nat
 | .mk op num ks=>(if op=12∧num=v then 1 else 0)+mEs v ks
def mEs(v:Int):List zK→Nat
 | []=>0
 |k::ks=>mE v k+mEs v ks
end
mutual
theorem Pq(v:Int):∀e:zK,mE v e≤nE e
 | .mk op num ks=>by
  have:=MF v ks
  rw[mE,nE]
  split<;>omega
theorem MF(v:Int):∀es:List zK,mEs v es≤nEs es
 | []=>Nat.le_refl _
 |k::ks=>by
  have:=Pq v k
  have:=MF v ks
  rw[mEs,nEs]
  omega
end
def Few(ds:List zG):Prop:=ds.length≤4∧∀i,i<ds.length→(dAt ds i).cons.length≤3
def zj(ds:List zG):Nat→Nat
 |0=>0
 |k+1=>zj ds k+(dAt ds k).cons.length
def KP(ds:List zG):Nat:=zj ds ds.length
theorem BG{ds:List zG}{k:Nat}(h:yY ds k=true):(dAt ds k).cons.length≤3:=by
 unfold yY at h;split at h
 ·simp at h;omega
 ·omega
theorem Few.of_ok{ds:List zG}(h:qU ds=true):Few ds:=by
 simp only[qU,Bool.and_eq_true,decide_eq_true_eq]at h;exact⟨h.1,fun i hi=>BG (J4.1 h.2 i hi)⟩
theorem xz{ds:List zG}(h:Few ds){k:Nat}(hk:k≤ds.length):zj ds k≤3*k:=by
 induction k with
 |zero=>simp[zj]
 |succ k ih=>have:=h.2 k (by omega);have:=ih (by omega);simp only[zj];omega
def uW(n:Nat)(p:Nat→Bool):Option Nat:=(List.range n).find? p
theorem vX{n i:Nat}{p:Nat→Bool}(hi:i<n)(hp:p i=true)(hb:∀j,j<i→p j=false):uW n p=some i:=by
 unfold uW;rw[List.find?_range_eq_some];exact⟨hp,by simpa using hi,fun j hj=>by simp[hb j hj]⟩
theorem uY{n:Nat}{p:Nat→Bool}(hb:∀j,j<n→p j=false):uW n p=none:=by
 unfold uW;rw[List.find?_eq_none];intro j hj;simp at hj;simp[hb j hj]
theorem gM{n i:Nat}{p:Nat→Bool}(h:uW n p=some i):i<n∧p i=true∧∀j,j<i→p j=false:=by
 unfold uW at h;rw[List.find?_range_eq_some]at h;exact⟨by simpa using h.2.1,h.1,fun j hj=>by simpa using h.2.2 j hj⟩
def JV:Option Nat→Int
 |some i=>(i:Int)+1
 |none=> -1
def ZZ(ds:List zG)(c:Int)(i:Nat):Bool:=decide ((zj ds i:Int)≤c∧c<(zj ds (i+1):Int))
def kK(ds:List zG)(c:Int):Option Nat:=uW ds.length (ZZ ds c)
def yV(ds:List zG)(c:Int):Int:=JV (kK ds c)
def zR(ds:List zG)(c:Int):List Int:=
 match kK ds c with
 |some i=>cAt (dAt ds i).cons (c.toNat-zj ds i)
 |none=> []
def gy(ds:List zG)(f t:Int)(i:Nat):Bool:=decide ((dAt ds i).cons.length=0) && ((dAt ds i).from_==f) && ((dAt ds i).to_==t)
def xG(ds:List zG)(f t:Int):Int:=JV (uW ds.length (gy ds f t))
def zv(ds:List zG)(t:Int):List Int:=
 if 1≤t∧t≤(ds.length:Int)then(List.range (dAt ds (t.toNat-1)).cons.length).map fun i=>((zj ds (t.toNat-1)+i:Nat):Int)else []
def xS(ds:List zG)(t:Int):Bool:=decide (1≤t∧t≤(ds.length:Int)) && decide ((dAt ds (t.toNat-1)).cons.length=0)
def zS(ds:List zG)(sg:List yJ)(op num:Int)(tys:List Int):Int:=
 if op=0 then(if tys= []∧ -999≤num∧num≤999 then 0 else -1)
 else if op=1∨op=2∨op=3∨op=4 then(if num=0∧tys= [0,0]then 0 else -1)
 else if op=5 then(if num=0∧tys= [0]then 0 else -1)
 else if op=11 then(if num=0∧tys.length=2∧xS ds (iAt tys 0)=true∧iAt tys 1=(dAt ds ((iAt tys 0).toNat-1)).from_ then(dAt ds ((iAt tys 0).toNat-1)).to_ else -1)
 else if op=6 then(if 0<yV ds num∧tys=zR ds num then yV ds num else -1)
 else if op=9 then(if 0≤num∧num<(sg.length:Int)∧tys=(yH sg num.toNat).params then(yH sg num.toNat).result else -1)
 else if op=10 then(if 0≤num∧num<(sg.length:Int)∧0<(yH sg num.toNat).params.length∧tys=(yH sg num.toNat).params.take ((yH sg num.toNat).params.length-1)then
  xG ds (iAt (yH sg num.toNat).params ((yH sg num.toNat).params.length-1)) (yH sg num.toNat).result else -1)
 else -1
def gk:List Int→Int
 | []=> -1
 |t::ts=>if 0≤t∧ts.all (fun u=>decide (u=t))=true then t else -1
def jY(ds:List zG)(t:Int):List (List Int):=(zv ds t).map (zR ds)
mutual
def tyE(ds:List zG)(sg:List yJ)(vars:List Int):zK→Int
 | .mk op num ks=>
  if op=12 then(if ks.length=0∧0≤num∧num<(vars.length:Int)then iAt vars num.toNat else -1)
  else if op=13 then(if num=0∧ks.length=2 then DR ds sg vars ks else -1)
  else if op=7 then(if num=0∧ks.length=3∧Bz ds sg vars ks=0 then gk (kE ds sg vars ks [[], []])else -1)
  else if op=8 then(if 0<(jY ds num).length∧ks.length=1+(jY ds num).length∧Bz ds sg vars ks=num then gk (kE ds sg vars ks (jY ds num))else -1)
  else zS ds sg op num (jF ds sg vars ks)
def jF(ds:List zG)(sg:List yJ)(vars:List Int):List zK→List Int
 | []=> []
 |k::ks=>tyE ds sg vars k::jF ds sg vars ks
def Bz(ds:List zG)(sg:List yJ)(vars:List Int):List zK→Int
 | []=> -1
 |k::_=>tyE ds sg vars k
def kE(ds:List zG)(sg:List yJ)(vars:List Int):List zK→List (List Int)→List Int
 | [],_=> []
 |_::ks,fs=>xN ds sg vars ks fs
def xN(ds:List zG)(sg:List yJ)(vars:List Int):List zK→List (List Int)→List Int
 | [],_=> []
 |k::ks,fs=>tyE ds sg (vars++fs.headD []) k::xN ds sg vars ks fs.tail
def DR(ds:List zG)(sg:List yJ)(vars:List Int):List zK→Int
 | []=> -1
 |k::ks=>if 0≤tyE ds sg vars k then Bz ds sg (vars++ [tyE ds sg vars k]) ks else -1
end
section
variable (ds:List zG)(sg:List yJ)(vars:List Int)
theorem W6(ks:List zK):jF ds sg vars ks=ks.map (tyE ds sg vars):=by induction ks<;>simp_all [jF]
theorem yy(ks:List zK):(jF ds sg vars ks).length=ks.length:=by rw[W6];simp
theorem ZX{ks:List zK}{i:Nat}(h:i<ks.length):iAt (jF ds sg vars ks) i=tyE ds sg vars (eAt ks i):=by
 rw[W6,jW (by simpa using h),Y7 h];simp
theorem kJ{ks:List zK}(h:0<ks.length):Bz ds sg vars ks=tyE ds sg vars (eAt ks 0):=by
 cases ks with
 |nil=>simp at h
 |cons k ks=>rfl
theorem US(ks:List zK)(fs:List (List Int)):(xN ds sg vars ks fs).length=ks.length:=by
 induction ks generalizing fs with
 |nil=>rfl
 |cons k ks ih=>simp[xN,ih]
theorem VP{ks:List zK}{fs:List (List Int)}{i:Nat}(h:i<ks.length):iAt (xN ds sg vars ks fs) i=tyE ds sg (vars++cAt fs i) (eAt ks i):=by
 induction ks generalizing fs i with
 |nil=>simp at h
 |cons k ks ih=>
  cases i with
  |zero=>cases fs<;>simp[xN,iAt,cAt,eAt,List.headD]
  |succ i=>
   have:=ih (fs:=fs.tail) (i:=i) (by simpa using h);simp only[xN,iAt,List.getD_cons_succ]at this ⊢;rw[this];have e1:cAt fs.tail i=cAt fs (i+1):=by cases fs<;>simp[cAt]
   have e2:eAt (k::ks) (i+1)=eAt ks i:=by simp[eAt]
   rw[e1,e2]
theorem vA{ks:List zK}(fs:List (List Int)):(kE ds sg vars ks fs).length=ks.length-1:=by
 cases ks with
 |nil=>rfl
 |cons k ks=>simp[kE,US]
theorem gG{ks:List zK}{fs:List (List Int)}{i:Nat}(h:i+1<ks.length):iAt (kE ds sg vars ks fs) i=tyE ds sg (vars++cAt fs i) (eAt ks (i+1)):=by
 cases ks with
 |nil=>simp at h
 |cons k ks=>
  have:=VP ds sg vars (ks:=ks) (fs:=fs) (i:=i) (by simpa using h);rw[kE,this];simp[eAt]
theorem ZS{ks:List zK}(h:ks.length=2):DR ds sg vars ks=if 0≤tyE ds sg vars (eAt ks 0)then tyE ds sg (vars++ [tyE ds sg vars (eAt ks 0)]) (eAt ks 1)else -1:=by
 match ks,h with
 | [a,b],_=>simp[DR,Bz,eAt]
end
theorem M8{ts:List Int}(h0:0<ts.length)(h1:0≤iAt ts 0)(h:∀i,i<ts.length→iAt ts i=iAt ts 0):gk ts=iAt ts 0:=by
 cases ts with
 |nil=>simp at h0
 |cons t ts=>
  have e:iAt (t::ts) 0=t:=by simp[iAt]
  rw[e]at h1 h ⊢;have h2:ts.all (fun u=>decide (u=t))=true:=by
   rw[List.all_eq_true];intro u hu;obtain⟨i,hi,rfl⟩:=List.getElem_of_mem hu;have:=h (i+1) (by simpa using hi);simpa [iAt,hi]using this
  rw[gk,if_pos ⟨h1,h2⟩]
theorem ZQ{ts:List Int}{i:Nat}(hi:i<ts.length)(h:iAt ts i≠iAt ts 0∨iAt ts i<0):gk ts= -1:=by
 cases ts with
 |nil=>simp at hi
 |cons t ts=>
  have e:iAt (t::ts) 0=t:=by simp[iAt]
  rw[e]at h;rw[gk,if_neg ?_];rintro⟨h1,h2⟩;rw[List.all_eq_true]at h2;cases i with
  |zero=>rw[e]at h;omega
  |succ i=>
   have hi':i<ts.length:=by simpa using hi
   have:=h2 ts[i] (List.getElem_mem hi');have e2:iAt (t::ts) (i+1)=ts[i]:=by simp[iAt,hi']
   rw[e2]at h;simp at this;omega
theorem uQ{n:Nat}{t:Int}:isT n t=true↔0≤t∧t≤(n:Int):=by simp[isT]
theorem WJ{n:Nat}{xs:List Int}:j8 n xs=true↔∀i,i<xs.length→isT n (iAt xs i)=true:=M9
theorem jS{n:Nat}{xs ys:List Int}(h:j8 n xs=true)(h2:j8 n ys=true):j8 n (xs++ys)=true:=by simp only[j8,List.all_append,Bool.and_eq_true]at*;exact⟨h,h2⟩
theorem UW{n:Nat}{t:Int}(h:isT n t=true):j8 n [t]=true:=by simp[j8,h]
theorem ZL{n:Nat}{xs:List Int}(h:j8 n xs=true){i:Nat}(hi:i<xs.length):0≤iAt xs i∧iAt xs i≤(n:Int):=uQ.1 (WJ.1 h i hi)
theorem xC{ds:List zG}(h:qU ds=true){k:Nat}(hk:k<ds.length):yY ds k=true:=by
 simp only[qU,Bool.and_eq_true]at h;exact J4.1 h.2 k hk
theorem z9{ds:List zG}(h:qU ds=true):ds.length≤4:=by
 simp only[qU,Bool.and_eq_true,decide_eq_true_eq]at h;exact h.1
theorem vJ{ds:List zG}{k:Nat}(h:yY ds k=true)(h0:(dAt ds k).cons.length=0):isT ds.length (dAt ds k).from_=true∧isT ds.length (dAt ds k).to_=true:=by
 unfold yY at h;rw[if_neg (by omega)]at h;simp only[Bool.and_eq_true]at h;exact⟨h.1.1,h.1.2⟩
theorem yP{ds:List zG}(h:qU ds=true)(c:Int):(zR ds c).length≤3∧j8 ds.length (zR ds c)=true:=by
 unfold zR;split
 ·next i hi=>
  obtain⟨h1,h2,_⟩:=gM hi;have hd:=xC h h1;have h2:(zj ds i:Int)≤c∧c<(zj ds (i+1):Int):=of_decide_eq_true h2;have h3:zj ds (i+1)=zj ds i+(dAt ds i).cons.length:=rfl;have hc:c.toNat-zj ds i<(dAt ds i).cons.length:=by omega
  unfold yY at hd;rw[if_pos (by omega)]at hd;simp only[Bool.and_eq_true]at hd;have:=LS.1 hd.2 _ hc;simp only[gX,Bool.and_eq_true,decide_eq_true_eq]at this;exact this
 ·exact⟨by simp,rfl⟩
theorem gJ{n:Nat}{p:Nat→Bool}:JV (uW n p)= -1∨isT n (JV (uW n p))=true:=by
 cases h:uW n p with
 |none=>exact .inl rfl
 |some i=>
  obtain⟨h1,_⟩:=gM h;refine .inr (uQ.2 ?_);show 0≤(i:Int)+1∧(i:Int)+1≤n;omega
theorem zL{ds:List zG}{sg:List yJ}(h:qJ ds sg=true):qU ds=true∧1≤sg.length∧sg.length≤4∧∀i,i<sg.length→uJ ds.length (yH sg i)=true:=by
 simp only[qJ,Bool.and_eq_true,decide_eq_true_eq]at h;exact⟨h.1.1.1.1.1,h.1.1.1.1.2,h.1.1.1.2,fun i hi=>J4.1 h.2 i hi⟩
theorem xL{n:Nat}{s:yJ}(h:uJ n s=true):s.params.length≤3∧j8 n s.params=true∧isT n s.result=true∧GU s=true:=by
 simp only[uJ,Bool.and_eq_true,decide_eq_true_eq]at h;exact⟨h.1.1.1,h.1.1.2,h.1.2,h.2⟩
theorem uq{ds:List zG}{t:Int}(h:xS ds t=true):1≤t∧t≤(ds.length:Int)∧(dAt ds (t.toNat-1)).cons.length=0:=by
 simp only[xS,Bool.and_eq_true,decide_eq_true_eq]at h;exact⟨h.1.1,h.1.2,h.2⟩
section
variable {ds:List zG}{sg:List yJ}(hok:qJ ds sg=true)
include hok
theorem YA(op num:Int)(tys:List Int):zS ds sg op num tys= -1∨isT ds.length (zS ds sg op num tys)=true:=by
 obtain⟨ht,_,_,hs⟩:=zL hok;have z:isT ds.length 0=true:=uQ.2 ⟨by omega,by omega⟩;unfold zS;split
 ·split
  ·exact .inr z
  ·exact .inl rfl
 split
 ·split
  ·exact .inr z
  ·exact .inl rfl
 split
 ·split
  ·exact .inr z
  ·exact .inl rfl
 split
 ·split
  ·next h=>
   obtain⟨h1,h2,h3⟩:=uq h.2.2.1;exact .inr (vJ (xC ht (by omega)) h3).2
  ·exact .inl rfl
 split
 ·split
  ·exact gJ
  ·exact .inl rfl
 split
 ·split
  ·next h=>exact .inr (xL (hs _ (by omega))).2.2.1
  ·exact .inl rfl
 split
 ·split
  ·exact gJ
  ·exact .inl rfl
 ·exact .inl rfl
omit hok in
theorem UQ{ts:List Int}(h:∀i,i<ts.length→iAt ts i= -1∨isT ds.length (iAt ts i)=true):gk ts= -1∨isT ds.length (gk ts)=true:=by
 cases ts with
 |nil=>exact .inl rfl
 |cons t ts=>
  rw[gk];split
  ·have:=h 0 (by simp)
   simpa [iAt]using this
  ·exact .inl rfl
theorem Dy(N:Nat):∀(e:zK),nE e<N→∀vars,j8 ds.length vars=true→tyE ds sg vars e= -1∨isT ds.length (tyE ds sg vars e)=true:=by
 induction N with
 |zero=>intro e h;omega
 |succ N ih=>
 intro e hN vars hv;obtain⟨op,num,ks⟩:=e;have ht:=(zL hok).1;have hk:∀j,j<ks.length→nE (eAt ks j)<N:=fun j hj=>by have:=yN ks hj;rw[nE]at hN;omega
 have arms:∀i,i<(jY ds num).length→(cAt (jY ds num) i).length≤3∧j8 ds.length (cAt (jY ds num) i)=true:=fun i hi=>by
  have hi':i<(zv ds num).length:=by simpa [jY]using hi
  rw[YU hi];simp only[jY,List.getElem_map];exact yP ht _
 rw[tyE];split
 ·split
  ·next h=>exact .inr (WJ.1 hv _ (by omega))
  ·exact .inl rfl
 split
 ·split
  ·next h=>
   rw[ZS ds sg vars h.2];split
   ·next h0=>
    have h1:=ih _ (hk 0 (by omega)) vars hv;have h2:isT ds.length (tyE ds sg vars (eAt ks 0))=true:=by
     rcases h1 with h1|h1
     ·omega
     ·exact h1
    exact ih _ (hk 1 (by omega)) _ (jS hv (UW h2))
   ·exact .inl rfl
  ·exact .inl rfl
 split
 ·split
  ·next h=>
   refine UQ (fun i hi=>?_);rw[vA]at hi;rw[gG ds sg vars (by omega)];refine ih _ (hk _ (by omega)) _ (jS hv ?_);rcases(show i=0∨i=1 by omega)with rfl|rfl<;>rfl
  ·exact .inl rfl
 split
 ·split
  ·next h=>
   refine UQ (fun i hi=>?_);rw[vA]at hi;rw[gG ds sg vars (by omega)];exact ih _ (hk _ (by omega)) _ (jS hv (arms i (by omega)).2)
  ·exact .inl rfl
 ·exact YA hok _ _ _
theorem XU(e:zK){vars:List Int}(hv:j8 ds.length vars=true):tyE ds sg vars e= -1∨isT ds.length (tyE ds sg vars e)=true:=Dy hok _ e (Nat.lt_succ_self _) vars hv
theorem LV(e:zK){vars:List Int}(hv:j8 ds.length vars=true): -1≤tyE ds sg vars e∧tyE ds sg vars e≤(ds.length:Int):=by
 rcases XU hok e hv with h|h
 ·omega
 ·have:=uQ.1 h;omega
omit hok in
theorem JY{ts:List Int}{t:Int}(h0:0<ts.length)(h1: -1≤t)(h:∀i,i<ts.length→iAt ts i=t):gk ts=t:=by
 by_cases ht:0≤t
 ·rw[M8 h0 (by rw[h 0 h0];exact ht) (fun i hi=>by rw[h i hi,h 0 h0]),h 0 h0]
 ·rw[ZQ h0 (.inr (by rw[h 0 h0];omega))];omega
end
def shN(k d op num:Int):Int:=if op=12∧k≤num then wrap64 (num+d)else num
mutual
def shE(k d:Int):zK→zK
 | .mk op num ks=>.mk op (shN k d op num) (vH k d ks)
def vH(k d:Int):List zK→List zK
 | []=> []
 |e::es=>shE k d e::vH k d es
end
theorem jv(w:World)(D:Nat→Prop)(T:TypeId)(op num:Int)(ks:List zK)(a:Option Addr)(n c:Nat)(hB:D w.heap.size)(h:Rd w D (zJ ks) (.slice a n c)):
  Rd (w.alloc (.cells #[.int .i64 op,.int .i64 num,.slice a n c] T)) D (.arr 3 ([zK.mk op num ks].map yC)) (.slice (some ⟨w.heap.size,0,none⟩) 1 1):=by
 refine Rd.litD w D T 3 _ ([zK.mk op num ks].map yC) 1 hB (by simp) (by omega) (by omega) (by simp) (fun i hi=>by
  have e:i=0:=by simp at hi;exact hi
  subst e
  simp[qC,yC]) (fun i j hi hj=>?_)
 obtain rfl:i=0:=by simpa using hi
 rcases(show j=0∨j=1∨j=2 by omega)with rfl|rfl|rfl
 ·exact⟨_,rfl,.num op⟩
 ·exact⟨_,rfl,.num num⟩
 ·exact⟨_,rfl,h⟩
def JF(w:World)(b o:Nat):List Value→World
 | []=>w
 |u::us=>JF (w.setCell ⟨b,o,none⟩ u) b (o+1) us
theorem BQ(w:World)(b o:Nat)(us:List Value):Ext (fun k=>k=b) w (JF w b o us):=by
 induction us generalizing w o with
 |nil=>exact Ext.refl _ _
 |cons u us ih=>exact((Ext.refl (fun k=>k=b) w).setCell (p:=⟨b,o,none⟩) (.inr rfl) u).trans (ih _ _)
theorem BJ{w:World}{b N:Nat}{T:TypeId}{f:Nat→Value}(h:w.rowIs b T N f)(us:List Value)(o:Nat):(JF w b o us).rowIs b T N (fun k=>if o≤k∧k<o+us.length then us.getD (k-o) undef else f k):=by
 induction us generalizing w o f with
 |nil=>exact h.congr (fun i _=>by rw[if_neg (by simp)])
 |cons u us ih=>
  refine(ih (h.set o u) (o+1)).congr (fun i _=>?_);by_cases e:i=o
  ·subst e
   rw[if_neg (by omega),if_pos rfl,if_pos (by simp)];simp[List.getD]
  ·by_cases e1:o+1≤i∧i<o+1+us.length
   ·rw[if_pos e1,if_pos (by simp;omega),show i-o=(i-(o+1))+1 by omega]
    simp[List.getD]
   ·rw[if_neg e1,if_neg e,if_neg (by simp;omega)]
section
variable {D:Nat→Prop}{w:World}
theorem Own.cells{s:Nat}{rows:List (List Dat)}{a:Option Addr}{n c:Nat}(h:Own w D (.arr s rows) (.slice a n c)){j:Nat}(hj:j<n):∃b,a=some ⟨b,0,none⟩∧D b∧b<w.heap.size∧(∀o,w.frozen? ⟨b,o,none⟩=false)∧∀l,l<s→∃u,w.cell? ⟨b,j*s+l,none⟩=some u:=by
 cases h with
 |nil=>omega
 |arr D E s rows b c T N f hD h0 hs0 hc hm hs' hN hrow hE hdis hr=>
  exact⟨b,rfl,hD,hrow.lt,hrow.frozen,fun l hl=>⟨_,hrow.cell (Nat.lt_of_lt_of_le (qP hj hl) hN)⟩⟩
theorem Own.putRow{s:Nat}{rows:List (List Dat)}{b n c:Nat}(h:Own w D (.arr s rows) (.slice (some ⟨b,0,none⟩) n c)){j:Nat}(hj:j<n)(us:List Value)(ds:List Dat)(E:Nat→Nat→Prop)
  (hus:us.length=s) (hds:ds.length=s) (ho:∀i,i<s→∃u,us[i]?=some u∧Own w (E i) (jP ds i) u) (hE:∀i k,i<s→E i k→¬D k) (hdis:∀i i' k,i<s→i'<s→E i k→E i' k→i=i'):
  Own (JF w b (j*s) us) (fun k=>D k∨∃i,i<s∧E i k) (.arr s (rows.set j ds)) (.slice (some ⟨b,0,none⟩) n c):=by
 cases h with
 |nil=>omega
 |arr D E0 s rows b c T N f hD h0 hs0 hc hm hs' hN hrow hE0 hdis0 hr=>
  have hx:=BQ w b (j*s) us;have hlen:(rows.set j ds).length=rows.length:=by simp
  have q:=Own.arr (w:=JF w b (j*s) us) (fun k=>D k∨∃i,i<s∧E i k) (fun k l=>if k=j then E l else E0 k l) s (rows.set j ds) b c T N _ (.inl hD) (by rw[hlen];exact h0) hs0 (by rw[hlen];exact hc) (by rw[hlen];exact hm)
   (fun i hi=>by
    rw[hlen]at hi
    rw[xE hj]
    by_cases e:i=j
    ·rw[if_pos e,hds]
    ·rw[if_neg e,hs' i hi]) (by rw[hlen];exact hN) (BJ hrow us (j*s))
   (by
    rw[hlen]
    intro i l k hi hl hk
    by_cases e:i=j
    ·rw[if_pos e]at hk
     exact⟨.inr ⟨l,hl,hk⟩,fun e'=>hE l k hl hk (e'▸hD)⟩
    ·rw[if_neg e]at hk
     exact⟨.inl (hE0 i l k hi hl hk).1,(hE0 i l k hi hl hk).2⟩)
   (by
    rw[hlen]
    intro i l i' l' k hi hl hi' hl' hk hk'
    by_cases e:i=j<;>by_cases e':i'=j
    ·rw[if_pos e]at hk;rw[if_pos e']at hk'
     exact⟨by omega,hdis l l' k hl hl' hk hk'⟩
    ·rw[if_pos e]at hk;rw[if_neg e']at hk'
     exact absurd (hE0 i' l' k hi' hl' hk').1 (hE l k hl hk)
    ·rw[if_neg e]at hk;rw[if_pos e']at hk'
     exact absurd (hE0 i l k hi hl hk).1 (hE l' k hl' hk')
    ·rw[if_neg e]at hk;rw[if_neg e']at hk'
     exact hdis0 i l i' l' k hi hl hi' hl' hk hk')
   (fun i l hi hl=>by
    rw[hlen]at hi
    have hlt:=qP hi hl
    by_cases e:i=j
    ·subst e
     obtain⟨u,hu,hown⟩:=ho l hl
     have e1:(if i*s≤i*s+l∧i*s+l<i*s+us.length then us.getD (i*s+l-i*s) undef else f (i*s+l))=u:=by
      rw[if_pos (by omega),Nat.add_sub_cancel_left];simp[List.getD,hu]
     show Own _ (if i=i then E l else E0 i l) _ (if i*s≤i*s+l∧i*s+l<i*s+us.length then us.getD (i*s+l-i*s) undef else f (i*s+l))
     rw[if_pos rfl,e1,rAt,xE hj,if_pos rfl]
     exact hown.ext hx (fun k hk h=>hE l k hl hk (h▸hD))
    ·have hne:¬(j*s≤i*s+l∧i*s+l<j*s+us.length):=by
      rintro⟨q1,q2⟩
      have:i*s+l=j*s+(i*s+l-j*s):=by omega
      exact e (kY hl (by omega) this).1
     show Own _ (if i=j then E l else E0 i l) _ (if j*s≤i*s+l∧i*s+l<j*s+us.length then us.getD (i*s+l-j*s) undef else f (i*s+l))
     rw[if_neg e,if_neg hne,rAt,xE hj,if_neg e]
     exact(hr i l hi hl).ext hx (fun k hk h=>(hE0 i l k hi hl hk).2 h))
  rw[hlen]at q;exact q
end
def ToS(lo hi:Nat)(w:World)(ds:List Dat)(us:List Value):Prop:=∃E:Nat→Nat→Prop,(∀i k,E i k→lo≤k∧k<hi)∧(∀i i' k,E i k→E i' k→i=i')∧us.length=ds.length∧
 ∀i,i<ds.length→∃u,us[i]?=some u∧Own w (E i) (jP ds i) u
theorem ToS.nil(lo hi:Nat)(w:World):ToS lo hi w [] []:=⟨fun _ _=>False,by simp,by simp,rfl,by simp⟩
theorem ToS.ext{S:Nat→Prop}{lo hi:Nat}{w w':World}{ds:List Dat}{us:List Value}(h:ToS lo hi w ds us)(hx:Ext S w w')(hs:∀k,lo≤k→k<hi→¬S k):ToS lo hi w' ds us:=by
 obtain⟨E,h1,h2,h3,h4⟩:=h;exact⟨E,h1,h2,h3,fun i hi=>by obtain⟨u,hu,ho⟩:=h4 i hi;exact⟨u,hu,ho.ext hx (fun k hk=>hs k (h1 i k hk).1 (h1 i k hk).2)⟩⟩
theorem ToS.own{w:World}{m:Nat}{d:Dat}{u:Value}(h:Own w (fun k=>m≤k) d u):ToS m w.heap.size w [d] [u]:=by
 refine⟨fun i k=>i=0∧m≤k∧k<w.heap.size,fun i k hk=>hk.2,fun i i' k hk hk'=>by omega,rfl,fun i hi=>?_⟩;obtain rfl:i=0:=by simpa using hi
 exact⟨u,rfl,h.lt.mono (fun k hk=>⟨rfl,hk⟩)⟩
theorem ToS.int(lo hi:Nat)(w:World)(z:Int):ToS lo hi w [.num z] [.int .i64 z]:=by
 refine⟨fun _ _=>False,by simp,by simp,rfl,fun i hi=>?_⟩;obtain rfl:i=0:=by simpa using hi
 exact⟨_,rfl,.num _ z⟩
theorem ToS.app{lo m hi:Nat}{w:World}{ds ds2:List Dat}{us us2:List Value}(h:ToS lo m w ds us)(h2:ToS m hi w ds2 us2)(hlo:lo≤m)(hhi:m≤hi):ToS lo hi w (ds++ds2) (us++us2):=by
 obtain⟨E,q1,q2,q3,q4⟩:=h;obtain⟨E',r1,r2,r3,r4⟩:=h2;refine⟨fun i=>if i<ds.length then E i else E' (i-ds.length),fun i k hk=>?_,fun i i' k hk hk'=>?_,by simp[q3,r3],fun i hi=>?_⟩
 ·by_cases e:i<ds.length
  ·simp only[if_pos e]at hk;have:=q1 i k hk;omega
  ·simp only[if_neg e]at hk;have:=r1 _ k hk;omega
 ·by_cases e:i<ds.length<;>by_cases e':i'<ds.length
  ·simp only[if_pos e]at hk;simp only[if_pos e']at hk';exact q2 i i' k hk hk'
  ·simp only[if_pos e]at hk;simp only[if_neg e']at hk'
   have:=q1 i k hk;have:=r1 _ k hk';omega
  ·simp only[if_neg e]at hk;simp only[if_pos e']at hk'
   have:=q1 i' k hk';have:=r1 _ k hk;omega
  ·simp only[if_neg e]at hk;simp only[if_neg e']at hk'
   have:=r2 _ _ k hk hk';omega
 ·by_cases e:i<ds.length
  ·obtain⟨u,hu,ho⟩:=q4 i e
   refine⟨u,by rw[List.getElem?_append_left (by omega)];exact hu,?_⟩;show Own w (if i<ds.length then E i else E' (i-ds.length)) _ _;rw[if_pos e];have:jP (ds++ds2) i=jP ds i:=by simp[jP,List.getD,List.getElem?_append_left e]
   rw[this];exact ho
  ·have hl:i-ds.length<ds2.length:=by simp at hi;omega
   obtain⟨u,hu,ho⟩:=r4 _ hl;refine⟨u,by rw[List.getElem?_append_right (by omega),q3];exact hu,?_⟩;show Own w (if i<ds.length then E i else E' (i-ds.length)) _ _;rw[if_neg e];have:jP (ds++ds2) i=jP ds2 (i-ds.length):=by simp[jP,List.getD,List.getElem?_append_right (Nat.le_of_not_lt e)]
   rw[this];exact ho
theorem Own.put{w:World}{lo hi hi' s:Nat}{rows:List (List Dat)}{b n c:Nat}(h:Own w (fun k=>lo≤k∧k<hi) (.arr s rows) (.slice (some ⟨b,0,none⟩) n c)){j:Nat}(hj:j<n)(us:List Value)(ds:List Dat)
  (hds:ds.length=s) (ht:ToS hi hi' w ds us) (hlo:lo≤hi) (hhi:hi≤hi'):Own (JF w b (j*s) us) (fun k=>lo≤k∧k<hi') (.arr s (rows.set j ds)) (.slice (some ⟨b,0,none⟩) n c):=by
 obtain⟨E,h1,h2,h3,h4⟩:=ht;refine(h.putRow hj us ds E (by omega) hds (fun i hi=>h4 i (by omega)) (fun i k _ hk hk'=>by have:=h1 i k hk;omega) (fun i i' k _ _=>h2 i i' k)).mono (fun k hk=>?_);rcases hk with hk|⟨i,_,hk⟩
 ·omega
 ·have:=h1 i k hk;omega
theorem ToS.get{lo hi:Nat}{w:World}{ds:List Dat}{us:List Value}(h:ToS lo hi w ds us)(i:Nat)(d:Dat)(u:Value)(hd:ds[i]?=some d)(hu:us[i]?=some u):Own w (fun k=>lo≤k∧k<hi) d u:=by
 obtain⟨E,h1,_,h3,h4⟩:=h;obtain⟨hi',e⟩:=List.getElem?_eq_some_iff.1 hd;obtain⟨u',hu',ho⟩:=h4 i hi';rw[hu]at hu';injection hu' with hu'
 subst hu';have:jP ds i=d:=by rw[M7 hi',e]
 rw[this]at ho;exact ho.mono (fun k hk=>h1 i k hk)
theorem zP(w:World)(c:Array Value)(T:TypeId):(w.alloc (.cells c T)).rowIs w.heap.size T c.size (fun i=>c.getD i undef):=World.rowIs_alloc w c T _ (fun i hi=>by simp[Array.getD,hi])
def YG(rows:List (List Dat))(z:List Dat)(j:Nat):List (List Dat):=rows.take j++List.replicate (rows.length-j) z
theorem jJ{w w':World}(p:zQ w.drew w'){q:Addr}{v:Value}(h:w.cell? q=some v)(hf:w.frozen? q=false):w'.frozen? q=false:=by
 have hb:q.block<w.drew.heap.size:=World.block_lt_of_cell? _ _ h;rw[p.frozen hb (fun h=>h)];exact hf
def vfN(op num:Int):Bool:=decide (op≠12) ||decide (0≤num∧num≤99)
mutual
def vfE:zK→Bool
 | .mk op num ks=>vfN op num && kF ks
def kF:List zK→Bool
 | []=>true
 |e::es=>vfE e && kF es
end
section
variable {σ:Type}(vis:Int→Int→σ→σ)
mutual
def Yw:zK→σ→σ
 | .mk op num ks,s=>xW ks (vis op num s)
def xW:List zK→σ→σ
 | [],s=>s
 |k::ks,s=>xW ks (Yw k s)
end
end
mutual
def yL(P:Int→Int→Prop):zK→Prop
 | .mk op num ks=>P op num∧yS P ks
def yS(P:Int→Int→Prop):List zK→Prop
 | []=>True
 |k::ks=>yL P k∧yS P ks
end
theorem vT(P:Int→Int→Prop)(e:zK):yL P e↔P e.op e.num∧yS P e.kids:=by cases e;rfl
theorem XH{P:Int→Int→Prop}{es:List zK}(h:yS P es){j:Nat}(hj:j<es.length):yL P (eAt es j):=by
 induction es generalizing j with
 |nil=>simp at hj
 |cons e es ih=>
  cases j with
  |zero=>exact h.1
  |succ j=>exact ih h.2 (by simpa using hj)
mutual
theorem FQ:∀e:zK,yL (fun _ _=>True) e
 | .mk _ _ ks=>⟨trivial,Jk ks⟩
theorem Jk:∀es:List zK,yS (fun _ _=>True) es
 | []=>trivial
 |e::es=>⟨FQ e,Jk es⟩
end
structure StM(M:World→Nat→Prop)(w w':World):Prop where
 ext:Ext (M w) w w'
 old:∀r,r<w.heap.size→M w' r→M w r
theorem StM.refl(M:World→Nat→Prop)(w:World):StM M w w:=⟨Ext.refl _ _,fun _ _ h=>h⟩
theorem StM.trans{M:World→Nat→Prop}{w w' w'':World}(h:StM M w w')(k:StM M w' w''):StM M w w'':=
 ⟨h.ext.then_ k.ext (fun i hi hm=>h.old i hi hm),fun r hr hm=>h.old r hr (k.old r (Nat.lt_of_lt_of_le hr h.ext.size) hm)⟩
theorem uB(e:zK):zK.mk e.op e.num e.kids=e:=by cases e;rfl
mutual
theorem Mq:∀e:zK,vfE e=true↔yL (fun op num=>op=12→0≤num∧num≤99) e
 | .mk op num ks=>by
  have:=UA ks
  rw[vfE,yL,Bool.and_eq_true,this,vfN]
  simp only[Bool.or_eq_true,decide_eq_true_eq,ne_eq]
  constructor
  ·rintro⟨h1,h2⟩
   exact⟨fun h=>h1.resolve_left (fun hn=>hn h),h2⟩
  ·rintro⟨h1,h2⟩
   refine⟨?_,h2⟩
   by_cases h:op=12
   ·exact .inr (h1 h)
   ·exact .inl h
theorem UA:∀es:List zK,kF es=true↔yS (fun op num=>op=12→0≤num∧num≤99) es
 | []=>by simp[kF,yS]
 |e::es=>by
  have h1:=Mq e
  have h2:=UA es
  rw[kF,yS,Bool.and_eq_true,h1,h2]
end
theorem kC{k d op num:Int}(h:op=12→0≤num∧num≤99)(hd:0≤d∧d≤99):shN k d op num=if op=12∧k≤num then num+d else num:=by
 unfold shN;split
 ·next h1=>
  have:=h h1.1;rw[IntWalk.wrap64_in _ (by omega)]
 ·rfl
mutual
theorem MQ(k:Int):∀e:zK,vfE e=true→shE k 0 e=e
 | .mk op num ks=>fun h=>by
  rw[vfE,Bool.and_eq_true]at h
  have h1:=VC k ks h.2
  have h2:op=12→0≤num∧num≤99:=by have:=h.1;simp only[vfN,Bool.or_eq_true,decide_eq_true_eq,ne_eq]at this;exact fun e=>this.resolve_left (fun hn=>hn e)
  rw[shE,h1,kC h2 (by omega)]
  congr 1
  split<;>omega
theorem VC(k:Int):∀es:List zK,kF es=true→vH k 0 es=es
 | []=>fun _=>rfl
 |e::es=>fun h=>by
  rw[kF,Bool.and_eq_true]at h
  rw[vH,MQ k e h.1,VC k es h.2]
end
mutual
theorem N6(k d:Int):∀e:zK,nE (shE k d e)=nE e
 | .mk op num ks=>by rw[shE,nE,nE,WE k d ks]
theorem WE(k d:Int):∀es:List zK,nEs (vH k d es)=nEs es
 | []=>rfl
 |e::es=>by rw[vH,nEs,nEs,N6 k d e,WE k d es]
end
mutual
theorem F9(k:Int){d d2:Int}(hd:0≤d∧d≤99)(hd2:0≤d2∧d2≤99)(hs:d+d2≤99):∀e:zK,vfE e=true→vfE (shE k d e)=true→shE k d2 (shE k d e)=shE k (d+d2) e
 | .mk op num ks=>fun h h'=>by
  rw[shE,vfE,Bool.and_eq_true]at h'
  rw[vfE,Bool.and_eq_true]at h
  have h1:=XM k hd hd2 hs ks h.2 h'.2
  have h2:op=12→0≤num∧num≤99:=by have:=h.1;simp only[vfN,Bool.or_eq_true,decide_eq_true_eq,ne_eq]at this;exact fun e=>this.resolve_left (fun hn=>hn e)
  have h3:op=12→0≤shN k d op num∧shN k d op num≤99:=by have:=h'.1;simp only[vfN,Bool.or_eq_true,decide_eq_true_eq,ne_eq]at this;exact fun e=>this.resolve_left (fun hn=>hn e)
  rw[shE,shE,shE,h1]
  congr 1
  rw[kC h3 hd2,kC h2 hd,kC h2 (by omega)]
  by_cases h12:op=12<;>by_cases hk:k≤num<;>by_cases hk2:k≤num+d<;>simp[h12,hk,hk2]<;>omega
theorem XM(k:Int){d d2:Int}(hd:0≤d∧d≤99)(hd2:0≤d2∧d2≤99)(hs:d+d2≤99):∀es:List zK,kF es=true→kF (vH k d es)=true→vH k d2 (vH k d es)=vH k (d+d2) es
 | []=>fun _ _=>rfl
 |e::es=>fun h h'=>by
  rw[kF,Bool.and_eq_true]at h
  rw[vH,kF,Bool.and_eq_true]at h'
  rw[vH,vH,vH,F9 k hd hd2 hs e h.1 h'.1,XM k hd hd2 hs es h.2 h'.2]
end
def mSh(k d v:Int)(f:Int→Nat):Nat:=if v<k then f v else if k+d≤v then f (v-d)else 0
mutual
theorem Nk(k:Int){d:Int}(hd:0≤d∧d≤99)(v:Int):∀e:zK,vfE e=true→mE v (shE k d e)=mSh k d v (fun v=>mE v e)
 | .mk op num ks=>fun h=>by
  rw[vfE,Bool.and_eq_true]at h
  have h1:=Gx k hd v ks h.2
  have h2:op=12→0≤num∧num≤99:=by have:=h.1;simp only[vfN,Bool.or_eq_true,decide_eq_true_eq,ne_eq]at this;exact fun e=>this.resolve_left (fun hn=>hn e)
  rw[shE,mE,h1,kC h2 hd]
  unfold mSh
  simp only[mE]
  by_cases ho:op=12
  ·simp only[ho,true_and]
   by_cases a1:k≤num<;>by_cases a2:v<k<;>by_cases a3:k+d≤v<;>simp only[a1,a2,a3,if_true,if_false]<;>(first|omega|(split<;>(first|omega|(split<;>omega))))
  ·simp only[ho,false_and,if_false]
   split<;>(first|omega|(split<;>omega))
theorem Gx(k:Int){d:Int}(hd:0≤d∧d≤99)(v:Int):∀es:List zK,kF es=true→mEs v (vH k d es)=mSh k d v (fun v=>mEs v es)
 | []=>fun _=>by unfold mSh;simp[vH,mEs]
 |e::es=>fun h=>by
  rw[kF,Bool.and_eq_true]at h
  rw[vH,mEs,Nk k hd v e h.1,Gx k hd v es h.2]
  unfold mSh
  simp only[mEs]
  split<;>(first|rfl|(split<;>rfl))
end
mutual
theorem Ek{P P':Int→Int→Prop}(h:∀op num,P op num→P' op num):∀e:zK,yL P e→yL P' e
 | .mk _ _ ks=>fun he=>⟨h _ _ he.1,UP h ks he.2⟩
theorem UP{P P':Int→Int→Prop}(h:∀op num,P op num→P' op num):∀es:List zK,yS P es→yS P' es
 | []=>fun _=>trivial
 |e::es=>fun he=>⟨Ek h e he.1,UP h es he.2⟩
end
mutual
theorem ML{P P':Int→Int→Prop}(k d:Int)(h:∀op num,P op num→P' op (shN k d op num)):∀e:zK,yL P e→yL P' (shE k d e)
 | .mk _ _ ks=>fun he=>by rw[shE];exact⟨h _ _ he.1,UT k d h ks he.2⟩
theorem UT{P P':Int→Int→Prop}(k d:Int)(h:∀op num,P op num→P' op (shN k d op num)):∀es:List zK,yS P es→yS P' (vH k d es)
 | []=>fun _=>trivial
 |e::es=>fun he=>by rw[vH];exact⟨ML k d h e he.1,UT k d h es he.2⟩
end
def vR:List (List Int × Int):= [([],0),([1],0),([1,1],1),([1],1),([1,0],1),([2,1],1),([1,1],0),([3],0),([0],1),([0,1],1),([3,0],3),([3],1),([1,3,0],0),([0],0),([0,0],0),([1,0],0)]
structure jZ(ds:List zG)(fs:List zA):Prop where
 decls:∃k:Int,0≤k∧k<5∧ds=jj k
 sigs:∀i,i<fs.length→((fAt fs i).params,(fAt fs i).result)∈vR
 len:fs.length≤4
def T5(t:Int):Prop:=0≤t∧t≤4
def yX(K:Int)(_ num:Int):Prop:= -K≤num∧num≤K
theorem vq{k:Int}(h0:0≤k)(h5:k<5):k=0∨k=1∨k=2∨k=3∨k=4:=by omega
theorem T5.cases{t:Int}(h:T5 t):t=0∨t=1∨t=2∨t=3∨t=4:=by unfold T5 at h;omega
def Clo(ds:List zG)(fs:List zA)(t x:Int):Prop:=0≤x∧x<(fs.length:Int)∧0<(fAt fs x.toNat).params.length∧xG ds (iAt (fAt fs x.toNat).params ((fAt fs x.toNat).params.length-1)) (fAt fs x.toNat).result=t
def Rk(ds:List zG)(fs:List zA):Nat→Int→Prop
 |0,_=>False
 |n+1,t=>(∀c,c∈zv ds t→(c=iAt (zv ds t) 0∨t∉zR ds c)→∀f,f∈zR ds c→Rk ds fs n f)∧
   ((zv ds t).length=0→0<t→∀x,Clo ds fs t x→∀j,j+1<(fAt fs x.toNat).params.length→Rk ds fs n (iAt (fAt fs x.toNat).params j))
section
variable {ds:List zG}{fs:List zA}
theorem jZ.ok(h:jZ ds fs):qU ds=true:=by
 obtain⟨k,h0,h5,rfl⟩:=h.decls;rcases vq h0 h5 with rfl|rfl|rfl|rfl|rfl<;>decide
theorem jZ.len4(h:jZ ds fs):ds.length≤4:=z9 h.ok
theorem jZ.fields(h:jZ ds fs)(c:Int):(zR ds c).length≤3∧∀f,f∈zR ds c→T5 f:=by
 obtain⟨h1,h2⟩:=yP h.ok c;refine⟨h1,fun f hf=>?_⟩;obtain⟨i,hi,rfl⟩:=List.getElem_of_mem hf;have:=ZL h2 hi;rw[jW hi]at this;have:=h.len4;exact⟨by omega,by omega⟩
theorem jZ.cons(h:jZ ds fs)(t:Int):(zv ds t).length≤3∧∀c,c∈zv ds t→0≤c∧c≤15:=by
 by_cases ht:1≤t∧t≤(ds.length:Int)
 ·have h4:=h.len4
  obtain⟨k,h0,h5,rfl⟩:=h.decls;have ht2:t=1∨t=2∨t=3∨t=4:=by omega
  clear ht h4 h;rcases vq h0 h5 with rfl|rfl|rfl|rfl|rfl<;>rcases ht2 with rfl|rfl|rfl|rfl<;>decide
 ·rw[zv,if_neg ht];simp
theorem jZ.arrow(h:jZ ds fs){k:Nat}(hk:k<ds.length)(h0:(dAt ds k).cons.length=0):T5 (dAt ds k).from_∧T5 (dAt ds k).to_:=by
 have h4:=h.len4;obtain⟨h1,h2⟩:=vJ (xC h.ok hk) h0;have h3:=uQ.1 h1;have h5:=uQ.1 h2;exact⟨⟨by omega,by omega⟩,⟨by omega,by omega⟩⟩
theorem NY:∀s,s∈vR→s.1.length≤3∧(0≤s.2∧s.2≤4)∧∀f,f∈s.1→0≤f∧f≤4:=by decide
theorem jZ.sig(h:jZ ds fs){i:Nat}(hi:i<fs.length):(fAt fs i).params.length≤3∧T5 (fAt fs i).result∧∀f,f∈(fAt fs i).params→T5 f:=NY _ (h.sigs i hi)
theorem jZ.rk1(h:jZ ds fs){t:Int}(ht:t=0∨t=1∨t=3):Rk ds fs 1 t:=by
 obtain⟨k,h0,h5,rfl⟩:=h.decls;clear h;have h1:(∀c,c∈zv (jj k) t→(c=iAt (zv (jj k) t) 0∨t∉zR (jj k) c)→zR (jj k) c= [])∧((zv (jj k) t).length=0→¬0<t):=by
  rcases vq h0 h5 with rfl|rfl|rfl|rfl|rfl<;>rcases ht with rfl|rfl|rfl<;>decide
 refine⟨fun c hc hcc f hf=>?_,fun hl ht=>absurd ht (h1.2 hl)⟩;rw[h1.1 c hc hcc]at hf;cases hf
theorem jZ.rk2(h:jZ ds fs){t:Int}(ht:T5 t):Rk ds fs 2 t:=by
 have hs:=h.sigs;have hr:∀f,(f=0∨f=1∨f=3)→Rk ds fs 1 f:=fun f hf=>h.rk1 hf;obtain⟨k,h0,h5,rfl⟩:=h.decls;have h1:(∀c,c∈zv (jj k) t→(c=iAt (zv (jj k) t) 0∨t∉zR (jj k) c)→∀f,f∈zR (jj k) c→f=0∨f=1∨f=3):=by
  clear h hs hr;rcases vq h0 h5 with rfl|rfl|rfl|rfl|rfl<;>rcases ht.cases with rfl|rfl|rfl|rfl|rfl<;>decide
 have h2:∀s,s∈vR→0<s.1.length→0<xG (jj k) (iAt s.1 (s.1.length-1)) s.2→∀f,f∈s.1.take (s.1.length-1)→f=0∨f=1∨f=3:=by
  clear h hs hr h1;rcases vq h0 h5 with rfl|rfl|rfl|rfl|rfl<;>decide
 refine⟨fun c hc hcc f hf=>hr f (h1 c hc hcc f hf),fun _ ht x hx j hj=>hr _ ?_⟩;obtain⟨x0,x1,x2,x3⟩:=hx;refine h2 _ (hs x.toNat (by omega)) x2 (by rw[x3];exact ht) _ ?_;show iAt _ j∈(fAt fs x.toNat).params.take ((fAt fs x.toNat).params.length-1);rw[jW (by omega)];exact List.mem_take_iff_getElem.2 ⟨j,by omega,rfl⟩
def pkS:Nat→Int
 |0=>0
 |n+1=>4+3*pkS n
end
end Go.Proofs.YtkapldpmjkdmcaaGreat
