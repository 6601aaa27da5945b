/- The reference's types of expressions. -/
import Derived.Test.YtkapldpmjkdmcaaGreatUAE
import Derived.Test.YtkapldpmjkdmcaaGreatUAF
import Derived.Test.YtkapldpmjkdmcaaGreatUAD
import Derived.Test.YtkapldpmjkdmcaaGreatUAB
namespace Go.Proofs.YtkapldpmjkdmcaaGreat
open Go.RowKit
set_option maxRecDepth 100000
set_option maxHeartbeats 4000000
section
variable (ds:List zG)(sg:List yJ)(vars:List Int)
theorem LU(num:Int)(ks:List zK):tyE ds sg vars (.mk 12 num ks)=if ks.length=0∧0≤num∧num<(vars.length:Int)then iAt vars num.toNat else -1:=by rw[tyE,if_pos rfl]
theorem LR(num:Int)(ks:List zK):tyE ds sg vars (.mk 13 num ks)=if num=0∧ks.length=2 then DR ds sg vars ks else -1:=by rw[tyE,if_neg (by omega),if_pos rfl]
theorem NB(num:Int)(ks:List zK):tyE ds sg vars (.mk 7 num ks)=if num=0∧ks.length=3∧Bz ds sg vars ks=0 then gk (kE ds sg vars ks [[], []])else -1:=by rw[tyE,if_neg (by omega),if_neg (by omega),if_pos rfl]
theorem NS(num:Int)(ks:List zK):tyE ds sg vars (.mk 8 num ks)=uG ds sg vars num ks:=by rw[tyE,if_neg (by omega),if_neg (by omega),if_neg (by omega),if_pos rfl];rfl
theorem qH{op:Int}(num:Int)(ks:List zK)(h:op≠12∧op≠13∧op≠7∧op≠8):tyE ds sg vars (.mk op num ks)=zS ds sg op num (jF ds sg vars ks):=by rw[tyE,if_neg h.1,if_neg h.2.1,if_neg h.2.2.1,if_neg h.2.2.2]
theorem Kk(num:Int)(tys:List Int):zS ds sg 0 num tys=if tys= []∧ -999≤num∧num≤999 then 0 else -1:=by rw[zS,if_pos rfl]
theorem uZ{op:Int}(num:Int)(tys:List Int)(h:op=1∨op=2∨op=3∨op=4):zS ds sg op num tys=if num=0∧tys= [0,0]then 0 else -1:=by rw[zS,if_neg (by omega),if_pos h]
theorem Wk(num:Int)(tys:List Int):zS ds sg 5 num tys=if num=0∧tys= [0]then 0 else -1:=by rw[zS,if_neg (by omega),if_neg (by omega),if_pos rfl]
theorem VW(num:Int)(tys:List Int):zS ds sg 11 num tys=if num=0∧tys.length=2∧xS ds (iAt tys 0)=true∧iAt tys 1=(dAt ds ((iAt tys 0).toNat-1)).from_ then(dAt ds ((iAt tys 0).toNat-1)).to_ else -1:=by rw[zS,if_neg (by omega),if_neg (by omega),if_neg (by omega),if_pos rfl]
theorem KM(num:Int)(tys:List Int):zS ds sg 6 num tys=if 0<yV ds num∧tys=zR ds num then yV ds num else -1:=by rw[zS,if_neg (by omega),if_neg (by omega),if_neg (by omega),if_neg (by omega),if_pos rfl]
theorem GH{op:Int}(num:Int)(tys:List Int)(h:op<0∨13<op):zS ds sg op num tys= -1:=by
 rw[zS,if_neg (by omega),if_neg (by omega),if_neg (by omega),if_neg (by omega),if_neg (by omega),if_neg (by omega),if_neg (by omega)]
end
theorem jx(a:Option Addr)(n c:Nat)(ds:List zG)(D:Nat→Prop)(t:Int)(w:World)(h:qy w D a n ds)(hn:n≤1049576):
  Calls Tryz.prog 152 #[.slice a n c,.int .i64 t] w fun e w'=>e=.returned (.bool (xS ds t))∧w=w':=by
 refine zV fun Q hQ=>?_;have HL:=LH h.1;by_cases ht:1≤t∧t≤(n:Int)
 ·obtain⟨k,rfl⟩:∃k:Nat,t=(k:Int)+1:=⟨(t-1).toNat,by omega⟩
  have hd:decide (1≤(k:Int)+1∧(k:Int)+1≤(n:Int))=true:=decide_eq_true ht;have hk:k<n:=by omega
  obtain⟨b,o,rfl,_,hc⟩:=h.2 (by omega);obtain⟨_,_,a',m,c',c2,_,hcons⟩:=hc k hk;have V0:Hid (xS ds ((k:Int)+1)=decide (m=0)):=by
   show _=_;rw[xS,decide_eq_true (by have:=HL.out;omega),Bool.true_and,show((k:Int)+1).toNat-1=k by omega,hcons.1]
  clear hc hcons ht;rcases Nat.eq_zero_or_pos m with h0|h0
  ·subst h0
   go_in;go_wp2_with fail;refine(qQ _ _ _ _).mono ?_;rw[hd];rintro e w1 ⟨rfl,rfl⟩;go_wp2_with fail;exact zB hQ ⟨qK (by rw[V0.out];rfl),rfl⟩
  ·have hz:((m:Int)==0)=false:=by simp;omega
   go_in;go_wp2_with fail;refine(qQ _ _ _ _).mono ?_;rw[hd];rintro e w1 ⟨rfl,rfl⟩;go_wp2_with fail;exact zB hQ ⟨qK (by rw[V0.out];exact(decide_eq_false (by omega)).symm),rfl⟩
 ·have hd:decide (1≤t∧t≤(n:Int))=false:=decide_eq_false ht
  have V0:=LH (show xS ds t=false by rw[xS,decide_eq_false (by rw[HL.out];exact ht)];rfl);clear ht;go_in;go_wp2_with fail;refine(qQ _ _ _ _).mono ?_;rw[hd];rintro e w1 ⟨rfl,rfl⟩;go_wp2_with fail;exact zB hQ ⟨qK V0.out.symm,rfl⟩
section
variable (ds:List zG)(fs:List zA)(hok:qJ ds (fs.map zM)=true)
include hok
theorem LE(num:Int)(es:List zK)(IH0:∀j,j<es.length→TyS ds fs (eAt es j)):TyS ds fs (.mk 0 num es):=by
 intro a0 n0 c0 a1 n1 c1 av nv cv vars a n c w hp hv h hlen hall;refine zV fun Q hQ=>?_;change Rd w (fun _=>True) (zJ es) _ at h;rw[nE]at hlen;simp only[zK.op,zK.num];have ht:=(zL hok).1;have hf:=Few.of_ok ht;have hd4:=z9 ht;have hn0:n0≤4:=by have:=(zT hp.1).1;omega
 have hnv:nv≤1049576:=by have:=(zN hv).1;omega
 have K0:=(zQ.al w (.cells #[.slice a0 n0 c0,.slice a1 n1 c1] 44)).trans (zQ.al _ (.cells #[.int .i64 0,.int .i64 num,.slice a n c] 58));have R0:=(zP w #[.slice a0 n0 c0,.slice a1 n1 c1] 44).alloc (.cells #[.int .i64 0,.int .i64 num,.slice a n c] 58);have R1:=zP (w.alloc (.cells #[.slice a0 n0 c0,.slice a1 n1 c1] 44)) #[.int .i64 0,.int .i64 num,.slice a n c] 58;simp only[World.size_alloc]at R1;obtain⟨e1,hnc,hnm,hat⟩:=zx h;have HL:=LH e1;have HA:=LH hat;have hn30:n≤262394:=by have:=qq es;omega
 have HOK:=LH hok;have HAll:=LH hall;have HLen:=LH hlen;have HT:=LH ht;have IH:=LH IH0;have TL:=LH (yy ds (fs.map zM) vars es);clear e1 hat hok hall ht IH0;have V0:=LH (Kk ds (fs.map zM) num (jF ds (fs.map zM) vars es));rcases Nat.eq_zero_or_pos n with h0|h0
 ·subst h0
  have HN:Hid (jF ds (fs.map zM) vars es= []):=List.eq_nil_of_length_eq_zero (by rw[TL.out];exact HL.out);by_cases hr: -999≤num∧num≤999
  ·have V:=LH (show tyE ds (fs.map zM) vars (.mk 0 num es)=0 by rw[qH ds _ vars num es (by omega),V0.out,if_pos ⟨HN.out,hr⟩])
   have hd:decide (-999≤num∧num≤999)=true:=decide_eq_true hr;clear hr;go_in;go_wp2_with fail;refine(qQ _ _ _ _).mono ?_;rw[hd];rintro e w1 ⟨rfl,rfl⟩;go_wp2_with fail;exact zB hQ ⟨zE V.out.symm,K0⟩
  ·have V:=LH (show tyE ds (fs.map zM) vars (.mk 0 num es)= -1 by rw[qH ds _ vars num es (by omega),V0.out,if_neg (fun h=>hr h.2)])
   have hd:decide (-999≤num∧num≤999)=false:=decide_eq_false hr;clear hr;go_in;go_wp2_with fail;refine(qQ _ _ _ _).mono ?_;rw[hd];rintro e w1 ⟨rfl,rfl⟩;go_wp2_with fail;exact zB hQ ⟨zE V.out.symm,K0⟩
 ·have V:=LH (show tyE ds (fs.map zM) vars (.mk 0 num es)= -1 by rw[qH ds _ vars num es (by omega),V0.out,if_neg (fun h=>by have h1:=congrArg List.length h.1;rw[TL.out,HL.out]at h1;simp at h1;omega)])
  have hz:((n:Int)==0)=false:=by simp;omega
  go_in;go_wp2_with fail;exact zB hQ ⟨zE V.out.symm,K0⟩
theorem EW(num:Int)(es:List zK)(IH0:∀j,j<es.length→TyS ds fs (eAt es j)):TyS ds fs (.mk 12 num es):=by
 intro a0 n0 c0 a1 n1 c1 av nv cv vars a n c w hp hv h hlen hall;refine zV fun Q hQ=>?_;change Rd w (fun _=>True) (zJ es) _ at h;rw[nE]at hlen;simp only[zK.op,zK.num];have ht:=(zL hok).1;have hf:=Few.of_ok ht;have hd4:=z9 ht;have hn0:n0≤4:=by have:=(zT hp.1).1;omega
 have hnv:nv≤1049576:=by have:=(zN hv).1;omega
 have K0:=(zQ.al w (.cells #[.slice a0 n0 c0,.slice a1 n1 c1] 44)).trans (zQ.al _ (.cells #[.int .i64 12,.int .i64 num,.slice a n c] 58));have R0:=(zP w #[.slice a0 n0 c0,.slice a1 n1 c1] 44).alloc (.cells #[.int .i64 12,.int .i64 num,.slice a n c] 58);have R1:=zP (w.alloc (.cells #[.slice a0 n0 c0,.slice a1 n1 c1] 44)) #[.int .i64 12,.int .i64 num,.slice a n c] 58;simp only[World.size_alloc]at R1;obtain⟨e1,hnc,hnm,hat⟩:=zx h;have HL:=LH e1;have HA:=LH hat;have hn30:n≤262394:=by have:=qq es;omega
 have HOK:=LH hok;have HAll:=LH hall;have HLen:=LH hlen;have HT:=LH ht;have IH:=LH IH0;have TL:=LH (yy ds (fs.map zM) vars es);clear e1 hat hok hall ht IH0;have V0:=LH (LU ds (fs.map zM) vars num es);have HV:=LH (zN hv);rcases Nat.eq_zero_or_pos n with h0|h0
 ·subst h0
  by_cases hr:0≤num∧num<(nv:Int)
  ·obtain⟨k,rfl⟩:∃k:Nat,num=(k:Int):=⟨num.toNat,by omega⟩
   obtain⟨b,o,rfl,_,d0⟩:=HV.out.2.2.2 k (by omega);have V:=LH (show tyE ds (fs.map zM) vars (.mk 12 (k:Int) es)=iAt vars k by rw[V0.out,if_pos ⟨HL.out,by omega,by have:=HV.out.1;omega⟩];rfl);have g0:=K0.q d0;have hd:decide (0≤(k:Int)∧(k:Int)≤(nv:Int)-1)=true:=decide_eq_true (by omega);have hk:k<nv:=by omega
   clear hr d0;go_in;go_wp2_with fail;refine(qQ _ _ _ _).mono ?_;rw[hd];rintro e w1 ⟨rfl,rfl⟩;go_wp2_with fail;exact zB hQ ⟨zE V.out.symm,K0⟩
  ·have V:=LH (show tyE ds (fs.map zM) vars (.mk 12 num es)= -1 by rw[V0.out,if_neg (fun h=>hr ⟨h.2.1,by have:=h.2.2;have:=HV.out.1;omega⟩)])
   have hd:decide (0≤num∧num≤(nv:Int)-1)=false:=decide_eq_false (fun h=>hr ⟨h.1,by omega⟩);clear hr;go_in;go_wp2_with fail;refine(qQ _ _ _ _).mono ?_;rw[hd];rintro e w1 ⟨rfl,rfl⟩;go_wp2_with fail;exact zB hQ ⟨zE V.out.symm,K0⟩
 ·have V:=LH (show tyE ds (fs.map zM) vars (.mk 12 num es)= -1 by rw[V0.out,if_neg (fun h=>by have:=HL.out;omega)])
  have hz:((n:Int)==0)=false:=by simp;omega
  go_in;go_wp2_with fail;exact zB hQ ⟨zE V.out.symm,K0⟩
theorem Hx(num:Int)(es:List zK)(IH0:∀j,j<es.length→TyS ds fs (eAt es j)):TyS ds fs (.mk 1 num es):=by
 intro a0 n0 c0 a1 n1 c1 av nv cv vars a n c w hp hv h hlen hall;refine zV fun Q hQ=>?_;change Rd w (fun _=>True) (zJ es) _ at h;rw[nE]at hlen;simp only[zK.op,zK.num];have ht:=(zL hok).1;have hf:=Few.of_ok ht;have hd4:=z9 ht;have hn0:n0≤4:=by have:=(zT hp.1).1;omega
 have hnv:nv≤1049576:=by have:=(zN hv).1;omega
 have K0:=(zQ.al w (.cells #[.slice a0 n0 c0,.slice a1 n1 c1] 44)).trans (zQ.al _ (.cells #[.int .i64 1,.int .i64 num,.slice a n c] 58));have R0:=(zP w #[.slice a0 n0 c0,.slice a1 n1 c1] 44).alloc (.cells #[.int .i64 1,.int .i64 num,.slice a n c] 58);have R1:=zP (w.alloc (.cells #[.slice a0 n0 c0,.slice a1 n1 c1] 44)) #[.int .i64 1,.int .i64 num,.slice a n c] 58;simp only[World.size_alloc]at R1;obtain⟨e1,hnc,hnm,hat⟩:=zx h;have HL:=LH e1;have HA:=LH hat;have hn30:n≤262394:=by have:=qq es;omega
 have HOK:=LH hok;have HAll:=LH hall;have HLen:=LH hlen;have HT:=LH ht;have IH:=LH IH0;have TL:=LH (yy ds (fs.map zM) vars es);clear e1 hat hok hall ht IH0;have V0:=LH (uZ ds (fs.map zM) (op:=1) num (jF ds (fs.map zM) vars es) (by omega));by_cases hz:num=0
 case neg=>
  have V:=LH (show tyE ds (fs.map zM) vars (.mk 1 num es)= -1 by rw[qH ds _ vars num es (by omega),V0.out,if_neg (fun h=>hz h.1)]);have hz':(num==0)=false:=by simpa using hz
  clear hz;go_in;go_wp2_with fail;exact zB hQ ⟨zE V.out.symm,K0⟩
 subst hz;cases hd:decide (jF ds (fs.map zM) vars es=List.replicate 2 0)
 ·have V:=LH (show tyE ds (fs.map zM) vars (.mk 1 0 es)= -1 by rw[qH ds _ vars 0 es (by omega),V0.out,if_neg (fun h=>of_decide_eq_false hd h.2)])
  have HD:=LH hd;clear hd;go_in;go_wp2_with fail;refine(jU ds fs es IH.out _ _ _ _ _ _ _ _ _ vars _ _ _ _ _ (hp.k K0) (hv.k K0) (h.k K0) (by omega) HAll.out).mono ?_;rw[HD.out];rintro e w1 ⟨rfl,p1⟩;go_wp2_with fail;exact zB hQ ⟨zE V.out.symm,K0.trans p1⟩
 ·have V:=LH (show tyE ds (fs.map zM) vars (.mk 1 0 es)=0 by rw[qH ds _ vars 0 es (by omega),V0.out,if_pos ⟨rfl,of_decide_eq_true hd⟩])
  have HD:=LH hd;clear hd;go_in;go_wp2_with fail;refine(jU ds fs es IH.out _ _ _ _ _ _ _ _ _ vars _ _ _ _ _ (hp.k K0) (hv.k K0) (h.k K0) (by omega) HAll.out).mono ?_;rw[HD.out];rintro e w1 ⟨rfl,p1⟩;go_wp2_with fail;exact zB hQ ⟨zE V.out.symm,K0.trans p1⟩
theorem MV(num:Int)(es:List zK)(IH0:∀j,j<es.length→TyS ds fs (eAt es j)):TyS ds fs (.mk 2 num es):=by
 intro a0 n0 c0 a1 n1 c1 av nv cv vars a n c w hp hv h hlen hall;refine zV fun Q hQ=>?_;change Rd w (fun _=>True) (zJ es) _ at h;rw[nE]at hlen;simp only[zK.op,zK.num];have ht:=(zL hok).1;have hf:=Few.of_ok ht;have hd4:=z9 ht;have hn0:n0≤4:=by have:=(zT hp.1).1;omega
 have hnv:nv≤1049576:=by have:=(zN hv).1;omega
 have K0:=(zQ.al w (.cells #[.slice a0 n0 c0,.slice a1 n1 c1] 44)).trans (zQ.al _ (.cells #[.int .i64 2,.int .i64 num,.slice a n c] 58));have R0:=(zP w #[.slice a0 n0 c0,.slice a1 n1 c1] 44).alloc (.cells #[.int .i64 2,.int .i64 num,.slice a n c] 58);have R1:=zP (w.alloc (.cells #[.slice a0 n0 c0,.slice a1 n1 c1] 44)) #[.int .i64 2,.int .i64 num,.slice a n c] 58;simp only[World.size_alloc]at R1;obtain⟨e1,hnc,hnm,hat⟩:=zx h;have HL:=LH e1;have HA:=LH hat;have hn30:n≤262394:=by have:=qq es;omega
 have HOK:=LH hok;have HAll:=LH hall;have HLen:=LH hlen;have HT:=LH ht;have IH:=LH IH0;have TL:=LH (yy ds (fs.map zM) vars es);clear e1 hat hok hall ht IH0;have V0:=LH (uZ ds (fs.map zM) (op:=2) num (jF ds (fs.map zM) vars es) (by omega));by_cases hz:num=0
 case neg=>
  have V:=LH (show tyE ds (fs.map zM) vars (.mk 2 num es)= -1 by rw[qH ds _ vars num es (by omega),V0.out,if_neg (fun h=>hz h.1)]);have hz':(num==0)=false:=by simpa using hz
  clear hz;go_in;go_wp2_with fail;exact zB hQ ⟨zE V.out.symm,K0⟩
 subst hz;cases hd:decide (jF ds (fs.map zM) vars es=List.replicate 2 0)
 ·have V:=LH (show tyE ds (fs.map zM) vars (.mk 2 0 es)= -1 by rw[qH ds _ vars 0 es (by omega),V0.out,if_neg (fun h=>of_decide_eq_false hd h.2)])
  have HD:=LH hd;clear hd;go_in;go_wp2_with fail;refine(jU ds fs es IH.out _ _ _ _ _ _ _ _ _ vars _ _ _ _ _ (hp.k K0) (hv.k K0) (h.k K0) (by omega) HAll.out).mono ?_;rw[HD.out];rintro e w1 ⟨rfl,p1⟩;go_wp2_with fail;exact zB hQ ⟨zE V.out.symm,K0.trans p1⟩
 ·have V:=LH (show tyE ds (fs.map zM) vars (.mk 2 0 es)=0 by rw[qH ds _ vars 0 es (by omega),V0.out,if_pos ⟨rfl,of_decide_eq_true hd⟩])
  have HD:=LH hd;clear hd;go_in;go_wp2_with fail;refine(jU ds fs es IH.out _ _ _ _ _ _ _ _ _ vars _ _ _ _ _ (hp.k K0) (hv.k K0) (h.k K0) (by omega) HAll.out).mono ?_;rw[HD.out];rintro e w1 ⟨rfl,p1⟩;go_wp2_with fail;exact zB hQ ⟨zE V.out.symm,K0.trans p1⟩
theorem L3(num:Int)(es:List zK)(IH0:∀j,j<es.length→TyS ds fs (eAt es j)):TyS ds fs (.mk 3 num es):=by
 intro a0 n0 c0 a1 n1 c1 av nv cv vars a n c w hp hv h hlen hall;refine zV fun Q hQ=>?_;change Rd w (fun _=>True) (zJ es) _ at h;rw[nE]at hlen;simp only[zK.op,zK.num];have ht:=(zL hok).1;have hf:=Few.of_ok ht;have hd4:=z9 ht;have hn0:n0≤4:=by have:=(zT hp.1).1;omega
 have hnv:nv≤1049576:=by have:=(zN hv).1;omega
 have K0:=(zQ.al w (.cells #[.slice a0 n0 c0,.slice a1 n1 c1] 44)).trans (zQ.al _ (.cells #[.int .i64 3,.int .i64 num,.slice a n c] 58));have R0:=(zP w #[.slice a0 n0 c0,.slice a1 n1 c1] 44).alloc (.cells #[.int .i64 3,.int .i64 num,.slice a n c] 58);have R1:=zP (w.alloc (.cells #[.slice a0 n0 c0,.slice a1 n1 c1] 44)) #[.int .i64 3,.int .i64 num,.slice a n c] 58;simp only[World.size_alloc]at R1;obtain⟨e1,hnc,hnm,hat⟩:=zx h;have HL:=LH e1;have HA:=LH hat;have hn30:n≤262394:=by have:=qq es;omega
 have HOK:=LH hok;have HAll:=LH hall;have HLen:=LH hlen;have HT:=LH ht;have IH:=LH IH0;have TL:=LH (yy ds (fs.map zM) vars es);clear e1 hat hok hall ht IH0;have V0:=LH (uZ ds (fs.map zM) (op:=3) num (jF ds (fs.map zM) vars es) (by omega));by_cases hz:num=0
 case neg=>
  have V:=LH (show tyE ds (fs.map zM) vars (.mk 3 num es)= -1 by rw[qH ds _ vars num es (by omega),V0.out,if_neg (fun h=>hz h.1)]);have hz':(num==0)=false:=by simpa using hz
  clear hz;go_in;go_wp2_with fail;exact zB hQ ⟨zE V.out.symm,K0⟩
 subst hz;cases hd:decide (jF ds (fs.map zM) vars es=List.replicate 2 0)
 ·have V:=LH (show tyE ds (fs.map zM) vars (.mk 3 0 es)= -1 by rw[qH ds _ vars 0 es (by omega),V0.out,if_neg (fun h=>of_decide_eq_false hd h.2)])
  have HD:=LH hd;clear hd;go_in;go_wp2_with fail;refine(jU ds fs es IH.out _ _ _ _ _ _ _ _ _ vars _ _ _ _ _ (hp.k K0) (hv.k K0) (h.k K0) (by omega) HAll.out).mono ?_;rw[HD.out];rintro e w1 ⟨rfl,p1⟩;go_wp2_with fail;exact zB hQ ⟨zE V.out.symm,K0.trans p1⟩
 ·have V:=LH (show tyE ds (fs.map zM) vars (.mk 3 0 es)=0 by rw[qH ds _ vars 0 es (by omega),V0.out,if_pos ⟨rfl,of_decide_eq_true hd⟩])
  have HD:=LH hd;clear hd;go_in;go_wp2_with fail;refine(jU ds fs es IH.out _ _ _ _ _ _ _ _ _ vars _ _ _ _ _ (hp.k K0) (hv.k K0) (h.k K0) (by omega) HAll.out).mono ?_;rw[HD.out];rintro e w1 ⟨rfl,p1⟩;go_wp2_with fail;exact zB hQ ⟨zE V.out.symm,K0.trans p1⟩
theorem Lv(num:Int)(es:List zK)(IH0:∀j,j<es.length→TyS ds fs (eAt es j)):TyS ds fs (.mk 4 num es):=by
 intro a0 n0 c0 a1 n1 c1 av nv cv vars a n c w hp hv h hlen hall;refine zV fun Q hQ=>?_;change Rd w (fun _=>True) (zJ es) _ at h;rw[nE]at hlen;simp only[zK.op,zK.num];have ht:=(zL hok).1;have hf:=Few.of_ok ht;have hd4:=z9 ht;have hn0:n0≤4:=by have:=(zT hp.1).1;omega
 have hnv:nv≤1049576:=by have:=(zN hv).1;omega
 have K0:=(zQ.al w (.cells #[.slice a0 n0 c0,.slice a1 n1 c1] 44)).trans (zQ.al _ (.cells #[.int .i64 4,.int .i64 num,.slice a n c] 58));have R0:=(zP w #[.slice a0 n0 c0,.slice a1 n1 c1] 44).alloc (.cells #[.int .i64 4,.int .i64 num,.slice a n c] 58);have R1:=zP (w.alloc (.cells #[.slice a0 n0 c0,.slice a1 n1 c1] 44)) #[.int .i64 4,.int .i64 num,.slice a n c] 58;simp only[World.size_alloc]at R1;obtain⟨e1,hnc,hnm,hat⟩:=zx h;have HL:=LH e1;have HA:=LH hat;have hn30:n≤262394:=by have:=qq es;omega
 have HOK:=LH hok;have HAll:=LH hall;have HLen:=LH hlen;have HT:=LH ht;have IH:=LH IH0;have TL:=LH (yy ds (fs.map zM) vars es);clear e1 hat hok hall ht IH0;have V0:=LH (uZ ds (fs.map zM) (op:=4) num (jF ds (fs.map zM) vars es) (by omega));by_cases hz:num=0
 case neg=>
  have V:=LH (show tyE ds (fs.map zM) vars (.mk 4 num es)= -1 by rw[qH ds _ vars num es (by omega),V0.out,if_neg (fun h=>hz h.1)]);have hz':(num==0)=false:=by simpa using hz
  clear hz;go_in;go_wp2_with fail;exact zB hQ ⟨zE V.out.symm,K0⟩
 subst hz;cases hd:decide (jF ds (fs.map zM) vars es=List.replicate 2 0)
 ·have V:=LH (show tyE ds (fs.map zM) vars (.mk 4 0 es)= -1 by rw[qH ds _ vars 0 es (by omega),V0.out,if_neg (fun h=>of_decide_eq_false hd h.2)])
  have HD:=LH hd;clear hd;go_in;go_wp2_with fail;refine(jU ds fs es IH.out _ _ _ _ _ _ _ _ _ vars _ _ _ _ _ (hp.k K0) (hv.k K0) (h.k K0) (by omega) HAll.out).mono ?_;rw[HD.out];rintro e w1 ⟨rfl,p1⟩;go_wp2_with fail;exact zB hQ ⟨zE V.out.symm,K0.trans p1⟩
 ·have V:=LH (show tyE ds (fs.map zM) vars (.mk 4 0 es)=0 by rw[qH ds _ vars 0 es (by omega),V0.out,if_pos ⟨rfl,of_decide_eq_true hd⟩])
  have HD:=LH hd;clear hd;go_in;go_wp2_with fail;refine(jU ds fs es IH.out _ _ _ _ _ _ _ _ _ vars _ _ _ _ _ (hp.k K0) (hv.k K0) (h.k K0) (by omega) HAll.out).mono ?_;rw[HD.out];rintro e w1 ⟨rfl,p1⟩;go_wp2_with fail;exact zB hQ ⟨zE V.out.symm,K0.trans p1⟩
theorem Lx(num:Int)(es:List zK)(IH0:∀j,j<es.length→TyS ds fs (eAt es j)):TyS ds fs (.mk 5 num es):=by
 intro a0 n0 c0 a1 n1 c1 av nv cv vars a n c w hp hv h hlen hall;refine zV fun Q hQ=>?_;change Rd w (fun _=>True) (zJ es) _ at h;rw[nE]at hlen;simp only[zK.op,zK.num];have ht:=(zL hok).1;have hf:=Few.of_ok ht;have hd4:=z9 ht;have hn0:n0≤4:=by have:=(zT hp.1).1;omega
 have hnv:nv≤1049576:=by have:=(zN hv).1;omega
 have K0:=(zQ.al w (.cells #[.slice a0 n0 c0,.slice a1 n1 c1] 44)).trans (zQ.al _ (.cells #[.int .i64 5,.int .i64 num,.slice a n c] 58));have R0:=(zP w #[.slice a0 n0 c0,.slice a1 n1 c1] 44).alloc (.cells #[.int .i64 5,.int .i64 num,.slice a n c] 58);have R1:=zP (w.alloc (.cells #[.slice a0 n0 c0,.slice a1 n1 c1] 44)) #[.int .i64 5,.int .i64 num,.slice a n c] 58;simp only[World.size_alloc]at R1;obtain⟨e1,hnc,hnm,hat⟩:=zx h;have HL:=LH e1;have HA:=LH hat;have hn30:n≤262394:=by have:=qq es;omega
 have HOK:=LH hok;have HAll:=LH hall;have HLen:=LH hlen;have HT:=LH ht;have IH:=LH IH0;have TL:=LH (yy ds (fs.map zM) vars es);clear e1 hat hok hall ht IH0;have V0:=LH (Wk ds (fs.map zM) num (jF ds (fs.map zM) vars es));by_cases hz:num=0
 case neg=>
  have V:=LH (show tyE ds (fs.map zM) vars (.mk 5 num es)= -1 by rw[qH ds _ vars num es (by omega),V0.out,if_neg (fun h=>hz h.1)]);have hz':(num==0)=false:=by simpa using hz
  clear hz;go_in;go_wp2_with fail;exact zB hQ ⟨zE V.out.symm,K0⟩
 subst hz;cases hd:decide (jF ds (fs.map zM) vars es=List.replicate 1 0)
 ·have V:=LH (show tyE ds (fs.map zM) vars (.mk 5 0 es)= -1 by rw[qH ds _ vars 0 es (by omega),V0.out,if_neg (fun h=>of_decide_eq_false hd h.2)])
  have HD:=LH hd;clear hd;go_in;go_wp2_with fail;refine(jU ds fs es IH.out _ _ _ _ _ _ _ _ _ vars _ _ _ _ _ (hp.k K0) (hv.k K0) (h.k K0) (by omega) HAll.out).mono ?_;rw[HD.out];rintro e w1 ⟨rfl,p1⟩;go_wp2_with fail;exact zB hQ ⟨zE V.out.symm,K0.trans p1⟩
 ·have V:=LH (show tyE ds (fs.map zM) vars (.mk 5 0 es)=0 by rw[qH ds _ vars 0 es (by omega),V0.out,if_pos ⟨rfl,of_decide_eq_true hd⟩])
  have HD:=LH hd;clear hd;go_in;go_wp2_with fail;refine(jU ds fs es IH.out _ _ _ _ _ _ _ _ _ vars _ _ _ _ _ (hp.k K0) (hv.k K0) (h.k K0) (by omega) HAll.out).mono ?_;rw[HD.out];rintro e w1 ⟨rfl,p1⟩;go_wp2_with fail;exact zB hQ ⟨zE V.out.symm,K0.trans p1⟩
theorem Lk(num:Int)(es:List zK)(IH0:∀j,j<es.length→TyS ds fs (eAt es j)):TyS ds fs (.mk 6 num es):=by
 intro a0 n0 c0 a1 n1 c1 av nv cv vars a n c w hp hv h hlen hall;refine zV fun Q hQ=>?_;change Rd w (fun _=>True) (zJ es) _ at h;rw[nE]at hlen;simp only[zK.op,zK.num];have ht:=(zL hok).1;have hf:=Few.of_ok ht;have hd4:=z9 ht;have hn0:n0≤4:=by have:=(zT hp.1).1;omega
 have hnv:nv≤1049576:=by have:=(zN hv).1;omega
 have K0:=(zQ.al w (.cells #[.slice a0 n0 c0,.slice a1 n1 c1] 44)).trans (zQ.al _ (.cells #[.int .i64 6,.int .i64 num,.slice a n c] 58));have R0:=(zP w #[.slice a0 n0 c0,.slice a1 n1 c1] 44).alloc (.cells #[.int .i64 6,.int .i64 num,.slice a n c] 58);have R1:=zP (w.alloc (.cells #[.slice a0 n0 c0,.slice a1 n1 c1] 44)) #[.int .i64 6,.int .i64 num,.slice a n c] 58;simp only[World.size_alloc]at R1;obtain⟨e1,hnc,hnm,hat⟩:=zx h;have HL:=LH e1;have HA:=LH hat;have hn30:n≤262394:=by have:=qq es;omega
 have HOK:=LH hok;have HAll:=LH hall;have HLen:=LH hlen;have HT:=LH ht;have IH:=LH IH0;have TL:=LH (yy ds (fs.map zM) vars es);clear e1 hat hok hall ht IH0;have V0:=LH (KM ds (fs.map zM) num (jF ds (fs.map zM) vars es));have HFO:=LH (yP HT.out num);have hfo:=HFO.out.1;generalize hct:yV ds num=ct at V0;have HC:=LH hct;clear hct;have qp:=hp.k K0;have qv:=hv.k K0;have qe:=h.k K0;by_cases hc0:0<ct
 case neg=>
  have V:=LH (show tyE ds (fs.map zM) vars (.mk 6 num es)= -1 by rw[qH ds _ vars num es (by omega),V0.out,if_neg (fun h=>hc0 h.1)]);have hc0':decide (0<ct)=false:=decide_eq_false hc0;clear hc0;go_in;go_wp2_with fail;generalize ((w.alloc (.cells #[.slice a0 n0 c0,.slice a1 n1 c1] 44)).alloc (.cells #[.int .i64 6,.int .i64 num,.slice a n c] 58))=W at*;have x0:=R0.cell (i:=0) (by simp);have x1:=R0.cell (i:=1) (by simp);have y0:=R1.cell (i:=0) (by simp);have y1:=R1.cell (i:=1) (by simp);have y2:=R1.cell (i:=2) (by simp);simp at x0 x1 y0 y1 y2;have qpd:=qp.kd;have qvd:=qv.kd;go_quiet ((go_at_call 146;exact Calls.quiet_of_same ((jC _ _ _ ds _ _ _ ((Rd.toDecls qp.1).drewN _) hf).mono fun _ _ q=>⟨q.1.trans (by rw[HC.out]),q.2.symm⟩)));go_wp2_with fail;exact zB hQ ⟨zE V.out.symm,by first|exact K0.drew|exact K0.drewN _⟩
 have hc0':decide (0<ct)=true:=decide_eq_true hc0;cases hd:decide (jF ds (fs.map zM) vars es=zR ds num)
 ·have V:=LH (show tyE ds (fs.map zM) vars (.mk 6 num es)= -1 by rw[qH ds _ vars num es (by omega),V0.out,if_neg (fun h=>of_decide_eq_false hd h.2)])
  have HD:=LH hd;clear hd hc0;go_in;go_wp2_with fail;generalize ((w.alloc (.cells #[.slice a0 n0 c0,.slice a1 n1 c1] 44)).alloc (.cells #[.int .i64 6,.int .i64 num,.slice a n c] 58))=W at*;have x0:=R0.cell (i:=0) (by simp);have x1:=R0.cell (i:=1) (by simp);have y0:=R1.cell (i:=0) (by simp);have y1:=R1.cell (i:=1) (by simp);have y2:=R1.cell (i:=2) (by simp);simp at x0 x1 y0 y1 y2;have qpd:=qp.kd;have qvd:=qv.kd;have qed:=qe.kd;have pc:=Ext.refl0 W;go_region_held3 (fun w'=>w'.cell? ⟨w.heap.size,0,none⟩=some (.slice a0 n0 c0)∧w'.cell? ⟨w.heap.size,1,none⟩=some (.slice a1 n1 c1)∧w'.cell? ⟨w.heap.size+1,1,none⟩=some (.int .i64 num)∧w'.cell? ⟨w.heap.size+1,2,none⟩=some (.slice a n c))
   (first|exact⟨zQ.at pc x0,zQ.at pc x1,zQ.at pc y1,zQ.at pc y2⟩|exact⟨zQ.at (Ext.trans pc (zQ.al _ _)) x0,zQ.at (Ext.trans pc (zQ.al _ _)) x1,zQ.at (Ext.trans pc (zQ.al _ _)) y1,zQ.at (Ext.trans pc (zQ.al _ _)) y2⟩|go_keep)
   (first
    |(go_at_call 146;refine(jC _ _ _ ds _ _ _ (Rd.toDecls (qpd.k pc).1) hf).mono ?_;rw[HC.out];rintro e wz ⟨rfl,rfl⟩)
    |(go_at_call 148;refine(xH _ _ _ ds _ _ _ (Rd.toDecls (qpd.k pc).1) hf).mono ?_;rintro e wa ⟨fa,fm,fc,rfl,hfc,fi,pa⟩;replace pc:=Ext.trans pc pa)
    |(go_at_call 147;refine(gC ds fs es IH.out _ _ _ _ _ _ _ _ _ vars _ _ _ _ _ _ _ _ (qpd.k pc) (qvd.k pc) (qed.k pc) ((fi.toRd hfc (by have:=fi.1;omega)).t) (by omega) HAll.out).mono ?_;rw[HD.out];rintro e wb ⟨rfl,pb⟩;replace pc:=Ext.trans pc pb))
  have KE:=LH (K0.trans (zQ.dt pc));have u0:=zQ.at pc x0;have u1:=zQ.at pc y1;have qz:=LH (qp.k (zQ.dt pc));clear x0 x1 y0 y1 y2 pc qpd qvd qed qp qv qe;go_wp2_with fail;exact zB hQ ⟨zE V.out.symm,KE.out⟩
 ·have V:=LH (show tyE ds (fs.map zM) vars (.mk 6 num es)=ct by rw[qH ds _ vars num es (by omega),V0.out,if_pos ⟨hc0,of_decide_eq_true hd⟩])
  have HD:=LH hd;clear hd hc0;go_in;go_wp2_with fail;generalize ((w.alloc (.cells #[.slice a0 n0 c0,.slice a1 n1 c1] 44)).alloc (.cells #[.int .i64 6,.int .i64 num,.slice a n c] 58))=W at*;have x0:=R0.cell (i:=0) (by simp);have x1:=R0.cell (i:=1) (by simp);have y0:=R1.cell (i:=0) (by simp);have y1:=R1.cell (i:=1) (by simp);have y2:=R1.cell (i:=2) (by simp);simp at x0 x1 y0 y1 y2;have qpd:=qp.kd;have qvd:=qv.kd;have qed:=qe.kd;have pc:=Ext.refl0 W;go_region_held3 (fun w'=>w'.cell? ⟨w.heap.size,0,none⟩=some (.slice a0 n0 c0)∧w'.cell? ⟨w.heap.size,1,none⟩=some (.slice a1 n1 c1)∧w'.cell? ⟨w.heap.size+1,1,none⟩=some (.int .i64 num)∧w'.cell? ⟨w.heap.size+1,2,none⟩=some (.slice a n c))
   (first|exact⟨zQ.at pc x0,zQ.at pc x1,zQ.at pc y1,zQ.at pc y2⟩|exact⟨zQ.at (Ext.trans pc (zQ.al _ _)) x0,zQ.at (Ext.trans pc (zQ.al _ _)) x1,zQ.at (Ext.trans pc (zQ.al _ _)) y1,zQ.at (Ext.trans pc (zQ.al _ _)) y2⟩|go_keep)
   (first
    |(go_at_call 146;refine(jC _ _ _ ds _ _ _ (Rd.toDecls (qpd.k pc).1) hf).mono ?_;rw[HC.out];rintro e wz ⟨rfl,rfl⟩)
    |(go_at_call 148;refine(xH _ _ _ ds _ _ _ (Rd.toDecls (qpd.k pc).1) hf).mono ?_;rintro e wa ⟨fa,fm,fc,rfl,hfc,fi,pa⟩;replace pc:=Ext.trans pc pa)
    |(go_at_call 147;refine(gC ds fs es IH.out _ _ _ _ _ _ _ _ _ vars _ _ _ _ _ _ _ _ (qpd.k pc) (qvd.k pc) (qed.k pc) ((fi.toRd hfc (by have:=fi.1;omega)).t) (by omega) HAll.out).mono ?_;rw[HD.out];rintro e wb ⟨rfl,pb⟩;replace pc:=Ext.trans pc pb))
  have KE:=LH (K0.trans (zQ.dt pc));have u0:=zQ.at pc x0;have u1:=zQ.at pc y1;have qz:=LH (qp.k (zQ.dt pc));clear x0 x1 y0 y1 y2 pc qpd qvd qed qp qv qe;go_wp2_with fail;refine(jC _ _ _ ds _ _ _ (Rd.toDecls qz.out.1) hf).mono ?_;rw[HC.out];rintro e wz ⟨rfl,rfl⟩;go_wp2_with fail;exact zB hQ ⟨zE V.out.symm,KE.out⟩
theorem Hw(num:Int)(es:List zK)(IH0:∀j,j<es.length→TyS ds fs (eAt es j)):TyS ds fs (.mk 8 num es):=by
 intro a0 n0 c0 a1 n1 c1 av nv cv vars a n c w hp hv h hlen hall;refine zV fun Q hQ=>?_;change Rd w (fun _=>True) (zJ es) _ at h;rw[nE]at hlen;simp only[zK.op,zK.num];have ht:=(zL hok).1;have hf:=Few.of_ok ht;have hd4:=z9 ht;have hn0:n0≤4:=by have:=(zT hp.1).1;omega
 have hnv:nv≤1049576:=by have:=(zN hv).1;omega
 have K0:=(zQ.al w (.cells #[.slice a0 n0 c0,.slice a1 n1 c1] 44)).trans (zQ.al _ (.cells #[.int .i64 8,.int .i64 num,.slice a n c] 58));have R0:=(zP w #[.slice a0 n0 c0,.slice a1 n1 c1] 44).alloc (.cells #[.int .i64 8,.int .i64 num,.slice a n c] 58);have R1:=zP (w.alloc (.cells #[.slice a0 n0 c0,.slice a1 n1 c1] 44)) #[.int .i64 8,.int .i64 num,.slice a n c] 58;simp only[World.size_alloc]at R1;obtain⟨e1,hnc,hnm,hat⟩:=zx h;have HL:=LH e1;have HA:=LH hat;have hn30:n≤262394:=by have:=qq es;omega
 have HOK:=LH hok;have HAll:=LH hall;have HLen:=LH hlen;have HT:=LH ht;have IH:=LH IH0;have TL:=LH (yy ds (fs.map zM) vars es);clear e1 hat hok hall ht IH0;have V:=LH (NS ds (fs.map zM) vars num es);go_in;go_wp2_with fail;refine(U7 ds fs num es IH.out _ _ _ _ _ _ _ _ _ vars _ _ _ _ (hp.k K0) (hv.k K0) (h.k K0) (by omega) HAll.out HOK.out).mono ?_;rintro e w1 ⟨rfl,p1⟩;go_wp2_with fail;exact zB hQ ⟨zE V.out.symm,K0.trans p1⟩
theorem MH(num:Int)(es:List zK)(IH0:∀j,j<es.length→TyS ds fs (eAt es j)):TyS ds fs (.mk 9 num es):=by
 intro a0 n0 c0 a1 n1 c1 av nv cv vars a n c w hp hv h hlen hall;refine zV fun Q hQ=>?_;change Rd w (fun _=>True) (zJ es) _ at h;rw[nE]at hlen;simp only[zK.op,zK.num];have ht:=(zL hok).1;have hf:=Few.of_ok ht;have hd4:=z9 ht;have hn0:n0≤4:=by have:=(zT hp.1).1;omega
 have hnv:nv≤1049576:=by have:=(zN hv).1;omega
 have K0:=(zQ.al w (.cells #[.slice a0 n0 c0,.slice a1 n1 c1] 44)).trans (zQ.al _ (.cells #[.int .i64 9,.int .i64 num,.slice a n c] 58));have R0:=(zP w #[.slice a0 n0 c0,.slice a1 n1 c1] 44).alloc (.cells #[.int .i64 9,.int .i64 num,.slice a n c] 58);have R1:=zP (w.alloc (.cells #[.slice a0 n0 c0,.slice a1 n1 c1] 44)) #[.int .i64 9,.int .i64 num,.slice a n c] 58;simp only[World.size_alloc]at R1;obtain⟨e1,hnc,hnm,hat⟩:=zx h;have HL:=LH e1;have HA:=LH hat;have hn30:n≤262394:=by have:=qq es;omega
 have HOK:=LH hok;have HAll:=LH hall;have HLen:=LH hlen;have HT:=LH ht;have IH:=LH IH0;have TL:=LH (yy ds (fs.map zM) vars es);clear e1 hat hok hall ht IH0;have V:Hid (tyE ds (fs.map zM) vars (.mk 9 num es)=zS ds (fs.map zM) 9 num (jF ds (fs.map zM) vars es)):=qH ds _ vars num es (by omega);have hfs:fs.length≤4:=by have:=(zL HOK.out).2.2.1;simpa using this
 go_in;go_wp2_with fail;refine(YE ds fs 9 num es (by omega) IH.out _ _ _ _ _ _ _ _ _ vars _ _ _ _ (hp.k K0) (hv.k K0) (h.k K0) (by omega) HAll.out hd4 hfs).mono ?_;rintro e w1 ⟨rfl,p1⟩;go_wp2_with fail;exact zB hQ ⟨zE V.out.symm,K0.trans p1⟩
theorem FZ(num:Int)(es:List zK)(IH0:∀j,j<es.length→TyS ds fs (eAt es j)):TyS ds fs (.mk 10 num es):=by
 intro a0 n0 c0 a1 n1 c1 av nv cv vars a n c w hp hv h hlen hall;refine zV fun Q hQ=>?_;change Rd w (fun _=>True) (zJ es) _ at h;rw[nE]at hlen;simp only[zK.op,zK.num];have ht:=(zL hok).1;have hf:=Few.of_ok ht;have hd4:=z9 ht;have hn0:n0≤4:=by have:=(zT hp.1).1;omega
 have hnv:nv≤1049576:=by have:=(zN hv).1;omega
 have K0:=(zQ.al w (.cells #[.slice a0 n0 c0,.slice a1 n1 c1] 44)).trans (zQ.al _ (.cells #[.int .i64 10,.int .i64 num,.slice a n c] 58));have R0:=(zP w #[.slice a0 n0 c0,.slice a1 n1 c1] 44).alloc (.cells #[.int .i64 10,.int .i64 num,.slice a n c] 58);have R1:=zP (w.alloc (.cells #[.slice a0 n0 c0,.slice a1 n1 c1] 44)) #[.int .i64 10,.int .i64 num,.slice a n c] 58;simp only[World.size_alloc]at R1;obtain⟨e1,hnc,hnm,hat⟩:=zx h;have HL:=LH e1;have HA:=LH hat;have hn30:n≤262394:=by have:=qq es;omega
 have HOK:=LH hok;have HAll:=LH hall;have HLen:=LH hlen;have HT:=LH ht;have IH:=LH IH0;have TL:=LH (yy ds (fs.map zM) vars es);clear e1 hat hok hall ht IH0;have V:Hid (tyE ds (fs.map zM) vars (.mk 10 num es)=zS ds (fs.map zM) 10 num (jF ds (fs.map zM) vars es)):=qH ds _ vars num es (by omega);have hfs:fs.length≤4:=by have:=(zL HOK.out).2.2.1;simpa using this
 go_in;go_wp2_with fail;refine(YE ds fs 10 num es (by omega) IH.out _ _ _ _ _ _ _ _ _ vars _ _ _ _ (hp.k K0) (hv.k K0) (h.k K0) (by omega) HAll.out hd4 hfs).mono ?_;rintro e w1 ⟨rfl,p1⟩;go_wp2_with fail;exact zB hQ ⟨zE V.out.symm,K0.trans p1⟩
theorem GJ(op:Int)(hop:op<0∨13<op)(num:Int)(es:List zK)(IH0:∀j,j<es.length→TyS ds fs (eAt es j)):TyS ds fs (.mk op num es):=by
 intro a0 n0 c0 a1 n1 c1 av nv cv vars a n c w hp hv h hlen hall;refine zV fun Q hQ=>?_;change Rd w (fun _=>True) (zJ es) _ at h;rw[nE]at hlen;simp only[zK.op,zK.num];have ht:=(zL hok).1;have hf:=Few.of_ok ht;have hd4:=z9 ht;have hn0:n0≤4:=by have:=(zT hp.1).1;omega
 have hnv:nv≤1049576:=by have:=(zN hv).1;omega
 have K0:=(zQ.al w (.cells #[.slice a0 n0 c0,.slice a1 n1 c1] 44)).trans (zQ.al _ (.cells #[.int .i64 op,.int .i64 num,.slice a n c] 58));have R0:=(zP w #[.slice a0 n0 c0,.slice a1 n1 c1] 44).alloc (.cells #[.int .i64 op,.int .i64 num,.slice a n c] 58);have R1:=zP (w.alloc (.cells #[.slice a0 n0 c0,.slice a1 n1 c1] 44)) #[.int .i64 op,.int .i64 num,.slice a n c] 58;simp only[World.size_alloc]at R1;obtain⟨e1,hnc,hnm,hat⟩:=zx h;have HL:=LH e1;have HA:=LH hat;have hn30:n≤262394:=by have:=qq es;omega
 have HOK:=LH hok;have HAll:=LH hall;have HLen:=LH hlen;have HT:=LH ht;have IH:=LH IH0;have TL:=LH (yy ds (fs.map zM) vars es);clear e1 hat hok hall ht IH0;have V:=LH (show tyE ds (fs.map zM) vars (.mk op num es)= -1 by rw[qH ds _ vars num es (by omega),GH ds _ num _ hop]);have o0:(op==0)=false:=by simp;omega
 have o1:(op==1)=false:=by simp;omega
 have o2:(op==2)=false:=by simp;omega
 have o3:(op==3)=false:=by simp;omega
 have o4:(op==4)=false:=by simp;omega
 have o5:(op==5)=false:=by simp;omega
 have o6:(op==6)=false:=by simp;omega
 have o7:(op==7)=false:=by simp;omega
 have o8:(op==8)=false:=by simp;omega
 have o9:(op==9)=false:=by simp;omega
 have o10:(op==10)=false:=by simp;omega
 have o11:(op==11)=false:=by simp;omega
 have o12:(op==12)=false:=by simp;omega
 have o13:(op==13)=false:=by simp;omega
 clear hop;go_in;go_wp2_with fail;exact zB hQ ⟨zE V.out.symm,K0⟩
end
theorem Mk{xs:List Int}{y:Int}(h:y∈xs):∃i,i<xs.length∧iAt xs i=y:=by
 obtain⟨i,hi,rfl⟩:=List.getElem_of_mem h;exact⟨i,hi,jW hi⟩
theorem M2{xs:List Int}{i:Nat}(h:i<xs.length):iAt xs i∈xs:=by rw[jW h];exact List.getElem_mem h
theorem Kw(a:Option Addr)(n c:Nat)(xs:List Int)(x:Int)(D:Nat→Prop)(w:World)(h:qN w D a n xs)(hn:n≤1048576):
  Calls Tryz.prog 244 #[.slice a n c,.int .i64 x] w fun e w'=>e=.returned (.bool (decide (x∈xs)))∧w=w':=by
 refine zV fun Q hQ=>?_;go_in;go_wp2;go_loop [5] (fun i=>∃k:Nat,k≤n∧i=.int .i64 k∧Hid (∀j,j<k→iAt xs j≠x)) (fun i=>n-(intOf i).toNat)
 case atStart=>exact⟨0,Nat.zero_le _,rfl,fun j hj=>absurd hj (by omega)⟩
 case round=>
  obtain⟨k,hk,rfl,H⟩:=hrel;obtain⟨hlen,hcell⟩:=h;have HLN:=LH hlen;clear hlen;by_cases hlt:k<n
  ·obtain⟨b,o,rfl,hd,hc⟩:=hcell (by omega)
   have h1:=hc k hlt;clear hc hcell;obtain⟨y,hy⟩:∃y,iAt xs k=y:=⟨_,rfl⟩;rw[hy]at h1;have HY:=LH hy;clear hy;by_cases e:y=x
   ·have V:Hid (decide (x∈xs)=true):=decide_eq_true (by rw[←e,←HY.out];exact M2 (by have:=HLN.out;omega))
    have e':(y==x)=true:=by simpa using e
    clear e;go_wp2;exact zB hQ ⟨qK V.out.symm,rfl⟩
   ·have e':(y==x)=false:=by simpa using e
    have HN:=LH (show iAt xs k≠x by rw[HY.out];exact e);clear e;go_wp2;go_round
    case rel=>exact⟨k+1,by omega,by go_num,fun j hj=>by rcases Nat.lt_succ_iff_lt_or_eq.1 hj with h|rfl;exact H.out j h;exact HN.out⟩
    case measure=>simp[intOf];omega
  ·have V:Hid (decide (x∈xs)=false):=decide_eq_false (fun hm=>by
    obtain⟨i,hi,e⟩:=Mk hm
    exact H.out i (by have:=HLN.out;omega) e)
   clear hcell;go_wp2;exact zB hQ ⟨qK V.out.symm,rfl⟩
theorem JL(w:World)(v:Value)(T:TypeId):(w.alloc (.cells #[v] T)).cell? ⟨w.heap.size,0,none⟩=some v:=xQ (Ext.refl _ (w.alloc (.cells #[v] T))) 0
theorem YZ{w:World}{base:Nat}{e:TypeId}{size:Nat}{v:Value}{n:Nat}{xs:List Value}(h:w.ownsRow base e size v n xs)(q:Nat):(w.drewN q).ownsRow base e size v n xs:=h
theorem G4{P:Int→Prop}{xs:List Int}{y:Int}(h:∀x,x∈xs→P x)(hy:P y):∀x,x∈xs++ [y]→P x:=by
 intro x hx;rcases List.mem_append.1 hx with hx|hx
 ·exact h x hx
 ·rw[List.mem_singleton.1 hx];exact hy
theorem Y9(ds:List zG)(fs:List zA)(t:Int)(a0:Option Addr)(n0 c0:Nat)(a1:Option Addr)(n1 c1:Nat)(w:World)(hp:PR w ds fs a0 n0 c0 a1 n1 c1)(hds:ds.length≤4)(hfs:fs.length≤4):
  Calls Tryz.prog 243 #[.agg #[.slice a0 n0 c0,.slice a1 n1 c1],.int .i64 t] w fun e w'=>∃a n c xs,e=.returned (.slice a n c)∧n≤c∧n≤4∧qN w' (fun k=>w.heap.size≤k) a n xs∧(∀x,x∈xs→Clo ds fs t x)∧zQ w w':=by
 refine zV fun Q hQ=>?_;have K1:=zQ.al w (.cells #[.slice a0 n0 c0,.slice a1 n1 c1] 44);have R0:=zP w #[.slice a0 n0 c0,.slice a1 n1 c1] 44;have H0:=LH (gE (w.alloc (.cells #[.slice a0 n0 c0,.slice a1 n1 c1] 44)));obtain⟨e1,hf1,hf2,hat⟩:=qZ hp.2;have hn1:n1≤4:=by omega
 have hn0:n0≤4:=by have:=(zT hp.1).1;omega
 have HL:=LH e1;have HA:=LH hat;have HD:=LH (Rd.toDecls hp.1);clear e1 hat hp;go_in;go_wp2_with fail;go_loopw [5,6] (fun ov iv wr=>∃(j:Nat) (xs:List Int),j≤n1∧iv=.int .i64 j∧Hid (wr.ownsRow (w.heap.size+1) 3 1 ov xs.length (xs.map (Value.int .i64)))∧Hid (xs.length≤j)∧Hid (∀x,x∈xs→Clo ds fs t x)∧zQ (w.alloc (.cells #[.slice a0 n0 c0,.slice a1 n1 c1] 44)) wr) (fun _ i _=>n1-(intOf i).toNat)
 case atStart=>exact⟨0, [],Nat.zero_le _,rfl,by have h:=H0.out;simp only[World.size_alloc]at h;exact h,Nat.le_refl _,(by intro x hx;cases hx),zQ.al _ _⟩
 case round=>
  obtain⟨j,xs,hj,rfl,hown,hxl,hxs,hK⟩:=hrel;have x0:wr.cell? ⟨w.heap.size,0,none⟩=some (.slice a0 n0 c0):=(rwk R0 hK).cell (i:=0) (by simp);have x1:wr.cell? ⟨w.heap.size,1,none⟩=some (.slice a1 n1 c1):=(rwk R0 hK).cell (i:=1) (by simp);have hKw:=LH (K1.trans hK);have hsz:=hKw.out.size;have hsz1:w.heap.size+1≤wr.heap.size:=by have:=hK.size;simp at this;omega
  by_cases hlt:j<n1
  ·obtain⟨b,o,rfl,_,ap,np,cp,ab,nb,cb,d0,d1,_,_,_,r0,_⟩:=HA.out j hlt
   obtain⟨g0,g1⟩:=hKw.out.k2 d0 d1;have hpl:=LH (zN r0).1;clear d0 d1;rcases Nat.eq_zero_or_pos np with h0|h0
   ·subst h0
    go_wp2_with fail;go_quiet (fail);go_wp2_with fail;go_roundw
    case rel=>exact⟨j+1,xs,by omega,by go_num,YZ hown.out _,Nat.le_trans hxl.out (Nat.le_succ _),hxs,hK.drewN _⟩
    case measure=>simp[intOf];omega
   ·obtain⟨m,rfl⟩:∃m,np=m+1:=⟨np-1,by omega⟩
    obtain⟨b2,o2,rfl,_,d2⟩:=(zN r0).2.2.2 m (by omega);have g2:=hKw.out.q d2;have hm63:m+1≤9223372036854775807:=(zN r0).2.2.1;have hw8:IntKind.i64.wrap (m:Int)=(m:Int):=by rw[IntWalk.i64_in _ (by omega)]
    have hw9:(m:Int)<((m:Int)+1):=by omega
    have hw4:(0:Int)≤(m:Int):=by omega
    have qd:=LH (HD.out.ext hKw.out (fun _ _ h=>h));clear d2 r0;by_cases ht:xG ds (iAt (fAt fs j).params m) (fAt fs j).result=t
    ·have HT:=LH ht
     have hc:Hid (Clo ds fs t (j:Int)):=⟨by omega,by have:=HL.out;omega,by rw[Int.toNat_natCast];have:=hpl.out;omega,by rw[Int.toNat_natCast];have:=hpl.out;rw[show(fAt fs j).params.length-1=m by omega];exact HT.out⟩;clear ht;go_wp2_with fail;go_quiet ((go_at_call 198;exact Calls.quiet_of_same ((gV _ _ _ ds _ _ _ _ (qd.out.drewN _) (by omega)).mono fun _ _ q=>⟨q.1.trans (by rw[HT.out]),q.2.symm⟩)));go_wp2_with (at_builtin;go_must (refine yv _ rfl (.tmp 48) (.tmp 50) rfl (w.heap.size+1) u5 xs.length xs rfl ((YZ hown.out _).alloc _) wr.heap.size 1 (j:Int) rfl (JL (wr.drewN _) _ _) (by have:=hxl.out;omega) (by simp;omega) ?_);intro v' w' ho hg);go_roundw
     case rel=>exact⟨j+1,xs++ [(j:Int)],by omega,by go_num,by show World.ownsRow _ _ _ _ _ _ _;rw[List.length_append];exact ho,by show _≤_;rw[List.length_append];exact Nat.succ_le_succ hxl.out,G4 hxs.out hc.out,((hK.drewN _).alloc _).grown hg (fun q hq=>.inl (by have:=(hown.out.lt q hq).1;simp at this ⊢;omega))⟩
     case measure=>simp[intOf];omega
    ·have HT:=LH (show(xG ds (iAt (fAt fs j).params m) (fAt fs j).result==t)=false by simpa using ht)
     have HT2:=HT.out;clear ht;go_wp2_with fail;go_quiet ((go_at_call 198;exact Calls.quiet_of_same ((gV _ _ _ ds _ _ _ _ (qd.out.drewN _) (by omega)).mono fun _ _ q=>⟨q.1,q.2.symm⟩)));go_wp2_with fail;go_roundw
     case rel=>exact⟨j+1,xs,by omega,by go_num,YZ hown.out _,Nat.le_trans hxl.out (Nat.le_succ _),hxs,hK.drewN _⟩
     case measure=>simp[intOf];omega
  ·go_wp2
   obtain⟨a2,cc,rfl,hle,hoi⟩:=jV hown.out;have hx4:=LH (Nat.le_trans hxl.out hj);exact zB hQ ⟨a2,_,cc,xs,rfl,hle,by have:=hx4.out;omega,hoi.read.mono (fun k hk=>by omega),hxs.out,hKw.out⟩
end Go.Proofs.YtkapldpmjkdmcaaGreat
