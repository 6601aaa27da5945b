/- build of the program for every expression; Normalize of the program. -/
import Derived.Test.YtkapldpmjkdmcaaGreatUBB
import Derived.Test.YtkapldpmjkdmcaaGreatUBF
import Derived.Test.YtkapldpmjkdmcaaGreatUAS
import Derived.Test.YtkapldpmjkdmcaaGreatUAV
import Derived.Test.YtkapldpmjkdmcaaGreatUBE
import Derived.Test.YtkapldpmjkdmcaaGreatUAJ
import Derived.Test.YtkapldpmjkdmcaaGreatUAT
namespace Go.Proofs.YtkapldpmjkdmcaaGreat
open Go.RowKit
set_option maxRecDepth 100000
set_option maxHeartbeats 4000000
section
variable (ds:List zG)(sg:List yJ)(hok:qJ ds sg=true)
include hok
theorem H8(N:Nat):∀e:zK,nE e<N→LwI ds sg e:=by
 induction N with
 |zero=>intro e h;omega
 |succ N ih=>
 intro e hN;obtain⟨op,num,ks⟩:=e;rw[nE]at hN;have IH:∀j,j<ks.length→LwI ds sg (eAt ks j):=fun j hj=>ih _ (by have:=yN ks hj;omega);by_cases h12:op=12
 ·subst h12;exact WF ds sg num ks
 by_cases h13:op=13
 ·subst h13;exact Kq ds sg num ks IH
 by_cases h7:op=7
 ·subst h7;exact H5 ds sg hok num ks IH
 by_cases h8:op=8
 ·subst h8;exact FS ds sg hok num ks IH
 exact U8 ds sg hok op num h12 h13 h7 h8 ks IH
theorem Fz(e:zK):LwI ds sg e:=H8 ds sg hok _ e (Nat.lt_succ_self _)
end
theorem YK{ops:Array Oper}{o:Oper}{a:Act}{w:World}{K:Act→World→Prop}{Q:Exit→Act→World→Prop}{E:Prop}(hgd:o.guard=none)(s x:Operand)
  (ho:o.op=.call {callee:=.builtin .append,args:= #[s,x],argTypes:= #[28,28]})
  (base:Nat) (v:Value) (rows:List (List Dat)) (hs:a.eval s=v) {D0:Nat→Prop} (hacc:Acc w base D0 71 5 v rows)
  (g c:Nat) (f:vz) (A B C:Value) (EA EB EC:Nat→Prop) (hx:a.eval x=.slice (some ⟨g,0,none⟩) 1 c) (hcells:∀j u, [A,B,Value.int .i64 f.result,C,.int .i64 f.body.result][j]?=some u→w.cell? ⟨g,j,none⟩=some u)
  (hA:Own w EA (zY f.params) A) (hB:Own w EB (zY f.lent) B) (hC:Own w EC (zF f.body.steps) C) (hE:∀k,EA k∨EB k∨EC k→¬D0 k∧v.ownBlock≠some k) (d1:∀k,EA k→¬EB k) (d2:∀k,EA k→¬EC k) (d3:∀k,EB k→¬EC k) (hlen:rows.length≤100000) (hbase:base≤w.heap.size)
  (h:∀a' n' c' w',Acc w' base (fun k=>D0 k∨(EA k∨EB k∨EC k)∧k<w.heap.size) 71 5 (.slice a' n' c') (rows++ [yG f])→Ext (fun k=>v.ownBlock=some k) w w'→w.heap.size≤w'.heap.size→(∀k,(Value.slice a' n' c').ownBlock=some k→v.ownBlock=some k∨w.heap.size≤k)→K (a.put o.dst (.slice a' n' c')) w'):
  if Region.wanted o (yielded ops a.tmps)=true then Oper.wp Tryz.prog o a w K Q else E:=by
 obtain⟨xs,E',h1,_⟩:=id hacc;have o1:A.oneCell'=true:=hA.read.one;have o2:B.oneCell'=true:=hB.read.one;have o3:C.oneCell'=true:=hC.read.one;refine Y5 hgd s x 28 ho base 71 (.agg #[.slice none 0 0,.slice none 0 0,.int .i64 0,.slice none 0 0,.int .i64 0]) 5 88 Tryz.underlying28 (by kernel_rfl) rfl (by omega) v rows.length xs hs h1 (some ⟨g,0,none⟩) 1 c [A,B,.int .i64 f.result,C,.int .i64 f.body.result] hx ⟨rfl,fun _=>⟨g,0,rfl,fun j u hj=>by rw[Nat.zero_add];exact hcells j u hj⟩⟩
  (by intro u hu;simp at hu;rcases hu with rfl|rfl|rfl|rfl|rfl<;>first|rfl|assumption) (by omega) (by omega) hbase (fun v' w' q1 q2 q3=>?_)
 have hfin:Acc w' base (fun k=>D0 k∨(EA k∨EB k∨EC k)∧k<w.heap.size) 71 5 v' (rows++ [yG f]):=?_
 ·obtain⟨a',c',rfl,_,_⟩:=hfin.own (by omega) (by simp;omega)
  exact h _ _ _ w' hfin ⟨q2.os,q2.tape,q2.output,q2.size,fun k hk hn=>q2.block k hk (fun e=>hn e.symm)⟩ q2.size (fun k hk=>by
   rcases q3 with e|e
   ·rw[e]at hk;exact .inl hk
   ·rw[e]at hk;injection hk with hk;exact .inr (by omega))
 refine hacc.push (r:=yG f) (news:= [A,B,.int .i64 f.result,C,.int .i64 f.body.result]) (D2:=fun j k=>(j=0∧EA k∨j=1∧EB k∨j=3∧EC k)∧k<w.heap.size) rfl rfl (fun j u hj=>?_) (fun j k hj hk=>?_) (fun j j' k _ _ h1 h2=>?_) (fun k hk=>.inl hk) (fun xs' hxs'=>?_) q2 q3
 ·rcases(show j=0∨j=1∨j=2∨j=3∨j=4 by have:=(List.getElem?_eq_some_iff.1 hj).1;simp at this;omega)with rfl|rfl|rfl|rfl|rfl
  ·simp at hj;subst hj;exact hA.lt.mono (fun k hk=>⟨.inl ⟨rfl,hk.1⟩,hk.2⟩)
  ·simp at hj;subst hj;exact hB.lt.mono (fun k hk=>⟨.inr (.inl ⟨rfl,hk.1⟩),hk.2⟩)
  ·simp at hj;subst hj;exact .num _ _
  ·simp at hj;subst hj;exact hC.lt.mono (fun k hk=>⟨.inr (.inr ⟨rfl,hk.1⟩),hk.2⟩)
  ·simp at hj;subst hj;exact .num _ _
 ·have h5:EA k∨EB k∨EC k:=by
   rcases hk.1 with h|h|h
   ·exact .inl h.2
   ·exact .inr (.inl h.2)
   ·exact .inr (.inr h.2)
  exact⟨.inr ⟨h5,hk.2⟩,(hE k h5).1,(hE k h5).2,hk.2⟩
 ·rcases h1.1 with h1|h1|h1<;>rcases h2.1 with h2|h2|h2
  ·omega
  ·exact absurd h2.2 (d1 k h1.2)
  ·exact absurd h2.2 (d2 k h1.2)
  ·exact absurd h1.2 (d1 k h2.2)
  ·omega
  ·exact absurd h2.2 (d3 k h1.2)
  ·exact absurd h1.2 (d2 k h2.2)
  ·exact absurd h1.2 (d3 k h2.2)
  ·omega
 ·rw[uy h1 hxs']
  exact q1
theorem VQ(ds:List zG)(fs:List zA)(hfit:PZ fs)(a0:Option Addr)(n0 c0:Nat)(a1:Option Addr)(n1 c1:Nat)(D0 D1:Nat→Prop)(w:World)(r0:Rd w D0 (z5 ds) (.slice a0 n0 c0))(r1:Rd w D1 (qW fs) (.slice a1 n1 c1)):
  Calls Tryz.prog 17 #[.agg #[.slice a0 n0 c0,.slice a1 n1 c1]] w fun e w'=>∃ad nd cd ar nr cr,e=.returned (.tuple #[.agg #[.slice ad nd cd,.slice ar nr cr],.bool (j4 ds fs)])∧ToS w.heap.size w'.heap.size w' [z5 (J1 ds fs),yx (YQ ds fs)] [.slice ad nd cd,.slice ar nr cr]∧zQ w w':=by
 refine zV fun Q hQ=>?_;have HFT:=LH hfit;have K0:=(zQ.al w (.cells #[.slice a0 n0 c0,.slice a1 n1 c1] 44)).trans (zQ.al _ (.cells #[.slice none 0 0,.slice none 0 0] 30));have RZ0:=zP (w.alloc (.cells #[.slice a0 n0 c0,.slice a1 n1 c1] 44)) #[.slice none 0 0,.slice none 0 0] 30;have R0:=(zP w #[.slice a0 n0 c0,.slice a1 n1 c1] 44).alloc (.cells #[.slice none 0 0,.slice none 0 0] 30);simp only[World.size_alloc]at RZ0;have q0:=LH (r0.lt.k K0);have q1:=LH (r1.lt.k K0);clear hfit r0 r1;cases hp:j4 ds fs
 ·have HP:=LH hp
  have E1:=LH (show J1 ds fs= []by rw[J1,hp];rfl);have E2:=LH (show YQ ds fs= []by rw[YQ,hp];rfl);rw[hp,E1.out,E2.out]at hQ;have KW:=LH K0;have RZ:=LH RZ0;clear hp K0 RZ0;go_in;go_wp2_with fail;refine(kx _ _ _ _ _ _ _ _ _ _ _ q0.out q1.out HFT.out).mono ?_;rw[HP.out];rintro e w1 ⟨rfl,p1⟩;have RT:=rwk RZ.out p1;obtain⟨t0,t1⟩:C2 (w1) (w.heap.size+1) (.slice none 0 0) (.slice none 0 0):=rc2 RT (by simp);have t2:=RT.frozen 0;have t3:=RT.frozen 1;have KF:=LH ((KW.out.trans p1).then_ (((Ext.refl (fun k=>k=w.heap.size+1) w1).setCell (p:=⟨w.heap.size+1,0,none⟩) (.inr rfl) (.slice none 0 0)).setCell (p:=⟨w.heap.size+1,1,none⟩) (.inr rfl) (.slice none 0 0)) (fun i hi e=>by omega));clear RT q0 q1 R0 p1;go_wp2_with fail;exact bodyPost_ret (v:=.tuple #[.agg #[.slice none 0 0,.slice none 0 0],.bool false]) (by simp[results,Tryz.results17,go_sem,t0,t1]) rfl (zB hQ ⟨none,0,0,none,0,0,rfl,ToS.mk2 (E0:=fun _=>False) (E1:=fun _=>False) (fun _ h=>h.elim) (fun _ h=>h.elim) (fun _ h=>h.elim) (.nil _ _ _ _) (.nil _ _ _ _),KF.out⟩)
 ·have HP:=LH hp
  have E1:=LH (show J1 ds fs=ds by rw[J1,if_pos hp]);have E2:=LH (show YQ ds fs=fs.map (xv ds)by rw[YQ,if_pos hp]);rw[hp,E1.out,E2.out]at hQ;have hok:=(jw hp).1;have ht:=(zL hok).1;have HOK:=LH hok;have hnf:fs.length≤4:=(YV hp).2;have HFW:=Few.of_ok ht;have HFL:=LH (fun j k=>JU ht j k);have KW:=LH K0;have RZ:=LH RZ0;have RP:=LH R0;replace HFW:=LH HFW;clear hp K0 RZ0 R0 hok ht;go_in;go_wp2_with fail;refine(kx _ _ _ _ _ _ _ _ _ _ _ q0.out q1.out HFT.out).mono ?_;rw[HP.out];rintro e w1 ⟨rfl,p1⟩;replace q0:=LH (q0.out.k p1);replace q1:=LH (q1.out.k p1);have RP1:=LH (rwk RP.out p1);obtain⟨x0,x1⟩:C2 (w1) (w.heap.size) (.slice a0 n0 c0) (.slice a1 n1 c1):=rc2 RP1.out (by simp);have K1:=LH (KW.out.trans p1);have RZ1:=LH (rwk RZ.out p1);have hs:w.heap.size+2≤w1.heap.size:=by have:=p1.size;simp only[World.size_alloc]at this;omega
  clear p1;go_wp2_with fail;refine(Xw ds HFW.out HFL.out a0 n0 c0 _ w1 q0.out).mono ?_;rintro e w2 ⟨ad,cd,rfl,od,p2⟩;have OD:=LH (od.lt.mono (D':=fun k=>w1.heap.size≤k∧k<w2.heap.size) (fun k hk=>hk));have hw2:=p2.size;have KA:=p2.trans (zQ.al w2 (.cells #[.slice ad n0 cd,.slice none 0 0] 30));have RO0:=zP w2 #[.slice ad n0 cd,.slice none 0 0] 30;replace q0:=LH (q0.out.k KA);replace q1:=LH (q1.out.k KA);have RP2:=LH (rwk RP1.out KA);have RZ2:=LH (rwk RZ1.out KA);have K2:=LH (K1.out.trans KA);have x1:=p2.q x1;replace OD:=LH (OD.out.ext (zQ.al w2 (.cells #[.slice ad n0 cd,.slice none 0 0] 30)) (fun _ _ h=>h));have sL:(w2.alloc (.cells #[.slice ad n0 cd,.slice none 0 0] 30)).heap.size=w2.heap.size+1:=by simp
  have SL:=LH sL;replace RO0:=LH RO0;have x1:=(zQ.al w2 (.cells #[.slice ad n0 cd,.slice none 0 0] 30)).cq x1 (fun h=>h);clear od p2 KA x0 sL;go_wp2_with fail;obtain⟨ob,hob0⟩:∃g,g=w2.heap.size:=⟨_,rfl⟩;have HOB:=LH hob0;rw[←hob0]at RO0;rw[←hob0];obtain⟨wl,hwl⟩:∃yW:World,yW=w2.alloc (.cells #[.slice ad n0 cd,.slice none 0 0] 30):=⟨_,rfl⟩;rw[←hwl]at RO0 q0 q1 RP2 RZ2 K2 OD SL x1;rw[←hwl];clear hwl hob0;have A0:=LH (show Acc wl wl.heap.size (fun _=>False) 71 5 (.slice none 0 0) ((fs.take 0).map (fun f=>yG (xv ds f)))by rw[List.take_zero];exact Acc.nil _ _ _ _ _);have E0:Hid (Ext (fun k=>k=ob) wl wl):=Ext.refl _ _;have hsw:ob<wl.heap.size:=by have:=SL.out;have:=HOB.out;omega
  have hws:w.heap.size+2≤ob:=by have:=HOB.out;omega
  go_loopw [22] (fun iv wr=>∃(j:Nat) (DK:Nat→Prop) (ok:Value),j≤n1∧iv=.int .i64 j∧Hid (wr.rowIs ob 30 2 (fun i=>(#[.slice ad n0 cd,ok]:Array Value).getD i undef))∧Hid (Acc wr wl.heap.size DK 71 5 ok ((fs.take j).map (fun f=>yG (xv ds f))))∧Hid (∀k,DK k→wl.heap.size≤k∧k<wr.heap.size)∧Hid (Ext (fun k=>k=ob) wl wr)) (fun iv _=>n1-(intOf iv).toNat)
  case atStart=>exact⟨0,fun _=>False,_,Nat.zero_le _,rfl,RO0,A0,fun _ h=>h.elim,E0⟩
  case round=>
   clear A0 E0;obtain⟨j,DK,ok,hj,rfl,RSJ,HA,HD,HK⟩:=hrel;obtain⟨wo,rfl⟩:∃wo:World,wo=wr:=⟨_,rfl⟩;have hwo:=HK.out.size;obtain⟨e1,hnc,hnm,hat⟩:=qZ q1.out;have HL:=LH e1;by_cases hlt:j<n1
   ·have hjl:j<fs.length:=by omega
    obtain⟨bf,o,rfl,hbf,ap,np,cp,ak,nk,ck,d0,d1,d2,d3,d4,rp,rk⟩:=hat j hlt;have hns:∀k,(D1 k∧k<w.heap.size)→¬(k=ob):=fun k hk h=>by omega
    have hns0:∀k,(D0 k∧k<w.heap.size)→¬(k=ob):=fun k hk h=>by omega
    obtain⟨d0,d1,d2,d3,d4⟩:=HK.out.e5 (hns _ hbf) d0 d1 d2 d3 d4;have qp:=rp.ext HK.out hns;have qk:=rk.ext HK.out hns;have qd:=q0.out.ext HK.out hns0;have hnp:(fAt fs j).params.length=np:=(zN rp).1;have hpl:=(gH HOK.out hjl).1;have hbo:=gY HOK.out hjl ((jw HP.out).2 j hjl);have hnb:nE (fAt fs j).body≤30:=by rw[uF];exact hbo.1
    have TY:=LH (show 0≤tyE ds (fs.map zM) (fAt fs j).params (fAt fs j).body by rw[hbo.2];exact(gH HOK.out hjl).2.2);have hn3:np≤3:=by omega
    have HL9:=LH (show(fAt fs j).params.length=(qj 0 np).length by rw[yT,hnp]);have HB9:=LH (show(qj 0 np).length+4*nE (fAt fs j).body≤4000 by rw[yT];omega);have HC9:=LH (show np+4*nE (fAt fs j).body≤4000 by omega);have HD9:Hid (nE (fAt fs j).body≤30):=hnb;have LB:=LH (Fz ds (fs.map zM) HOK.out (fAt fs j).body);obtain⟨s9,hs9⟩:∃s,(qG ds (fAt fs j).body (qj 0 np) np).1=s:=⟨_,rfl⟩;obtain⟨y9,hy9⟩:∃s,(qG ds (fAt fs j).body (qj 0 np) np).2=s:=⟨_,rfl⟩;have hsl:s9.length≤30:=by rw[←hs9];exact Nat.le_trans (vK ds _ _ _) hnb
    have HS9:=LH hs9;have HY9:=LH hy9;have HNF:=LH (show yG (xv ds (fAt fs j))=yG ⟨(fAt fs j).params, [],(fAt fs j).result,.mk s9 y9⟩by rw[xv,hnp,hs9,hy9]);have HTK:=LH (show(fs.take (j+1)).map (fun f=>yG (xv ds f))=(fs.take j).map (fun f=>yG (xv ds f))++ [yG (xv ds (fAt fs j))]by rw[List.take_succ_eq_append_getElem hjl,List.map_append,YS hjl];rfl);have HLR:=LH (show((fs.take j).map (fun f=>yG (xv ds f))).length=j by rw[List.length_map,List.length_take];omega);have KF:=(zQ.al wo (.cells #[.slice ap np cp,.int .i64 (fAt fs j).result,.int .i64 (fAt fs j).body.op,.int .i64 (fAt fs j).body.num,.slice ak nk ck] 60)).trans (zQ.al _ (.cells #[.slice a0 n0 c0,.int .i64 (np:Int),.slice none 0 0] 91));have RF:=(zP wo #[.slice ap np cp,.int .i64 (fAt fs j).result,.int .i64 (fAt fs j).body.op,.int .i64 (fAt fs j).body.num,.slice ak nk ck] 60).alloc (.cells #[.slice a0 n0 c0,.int .i64 (np:Int),.slice none 0 0] 91);have RB:=zP (wo.alloc (.cells #[.slice ap np cp,.int .i64 (fAt fs j).result,.int .i64 (fAt fs j).body.op,.int .i64 (fAt fs j).body.num,.slice ak nk ck] 60)) #[.slice a0 n0 c0,.int .i64 (np:Int),.slice none 0 0] 91;simp only[World.size_alloc]at RB;have x0:wo.cell? ⟨w.heap.size,0,none⟩=some (.slice a0 n0 c0):=HK.out.cq (RP2.out.cell (i:=0) (by simp)) (fun h=>by change w.heap.size=ob at h;omega);have x0f:=(zQ.al wo (.cells #[.slice ap np cp,.int .i64 (fAt fs j).result,.int .i64 (fAt fs j).body.op,.int .i64 (fAt fs j).body.num,.slice ak nk ck] 60)).cq x0 (fun h=>h);have f0:=RF.cell (i:=0) (by simp);simp at f0;have QK:=LH (qk.k KF);have QD:=LH (qd.k KF);have QP:=LH (qp.k KF);have RF:=LH RF;have RB:=LH RB;have sF:((wo.alloc (.cells #[.slice ap np cp,.int .i64 (fAt fs j).result,.int .i64 (fAt fs j).body.op,.int .i64 (fAt fs j).body.num,.slice ak nk ck] 60)).alloc (.cells #[.slice a0 n0 c0,.int .i64 (np:Int),.slice none 0 0] 91)).heap.size=wo.heap.size+2:=by simp
    have SF:=LH sF;have KF':=LH KF;have HNP:=LH hnp;have hob:=LH (fun k hk=>(HA.out.bound k hk).2);have HNO:Hid (∀k,k<wl.heap.size→¬ok.ownBlock=some k):=fun k hk e=>by have:=(HA.out.bound k e).1;omega
    clear qp qk qd rp rk hnp hpl hbo hnb hs9 hy9 hat hns hns0 sF KF e1;go_wp2_with (at_make;go_must (refine ZV _ rfl _ _ 52 rfl 3 (.int .i64 0) #[.int .i64 0] 1 8 Tryz.underlying52 (by kernel_rfl) rfl rfl np rfl rfl (by omega) (by omega) ?_);intro we hrow hke hsz);go_wp2_with fail;obtain⟨fb,hfb⟩:∃g,g=wo.heap.size:=⟨_,rfl⟩;obtain⟨qb,hqb⟩:∃g,g=wo.heap.size+1:=⟨_,rfl⟩;obtain⟨eb,heb⟩:∃g,g=wo.heap.size+1+1:=⟨_,rfl⟩;have HFB:=LH hfb;have HQB:=LH hqb;have HEB:=LH heb;have hse:we.heap.size=eb+1:=by rw[hsz,heb,SF.out]
    rw[show((wo.alloc (.cells #[.slice ap np cp,.int .i64 (fAt fs j).result,.int .i64 (fAt fs j).body.op,.int .i64 (fAt fs j).body.num,.slice ak nk ck] 60)).alloc (.cells #[.slice a0 n0 c0,.int .i64 (np:Int),.slice none 0 0] 91)).heap.size=eb by rw[heb,SF.out],Nat.mul_one]at hrow;rw[←heb,←hqb,←hfb];have HSE:=LH hse;have RE0:Hid (we.rowIs eb 3 np (fun i=>if i<0 then .int .i64 (i:Int)else .int .i64 0)):=hrow.congr (fun i hi=>by simp[Nat.mod_one]);have KE:=LH hke;have XE0:Hid (Ext (fun k=>k=eb) we we):=Ext.refl _ _;have RF2:=LH (rwk RF.out hke);have RB2:=LH (rwk RB.out hke);rw[←hfb]at RF2;rw[←hqb]at RB2;have QK2:=LH (QK.out.k hke);have QD2:=LH (QD.out.k hke);have QP2:=LH (QP.out.k hke);clear hfb hqb heb hse hrow hke hsz RF RB x0 x0f f0 d0 d1 d2 d3 d4;go_loopw [38] (fun iv wr=>∃(k:Nat),k≤np∧iv=.int .i64 k∧Hid (wr.rowIs eb 3 np (fun i=>if i<k then .int .i64 (i:Int)else .int .i64 0))∧Hid (Ext (fun k=>k=eb) we wr)) (fun iv _=>np-(intOf iv).toNat)
    case atStart=>exact⟨0,Nat.zero_le _,rfl,RE0,XE0⟩
    case round=>
     clear RE0 XE0;obtain⟨k,hk,rfl,HRE,HXE⟩:=hrel;obtain⟨wv,rfl⟩:∃wv:World,wv=wr:=⟨_,rfl⟩;by_cases hkl:k<np
     ·have g1:=HRE.out.cell hkl
      rw[if_neg (Nat.lt_irrefl _)]at g1;have g2:=HRE.out.frozen k;go_wp2_with fail;go_roundw
      case rel=>exact⟨k+1,by omega,by go_num,(HRE.out.set k (.int .i64 (k:Int))).congr (fun i hi=>by
       by_cases e:i=k
       ·subst e;rw[if_pos rfl,if_pos (by omega)]
       ·rw[if_neg e]
        by_cases e2:i<k
        ·rw[if_pos e2,if_pos (by omega)]
        ·rw[if_neg e2,if_neg (by omega)]),HXE.out.setCell (p:=⟨eb,k,none⟩) (.inr rfl) _⟩
      case measure=>simp[intOf];omega
     ·have hkn:k=np:=by omega
      subst hkn;have hwv:=HXE.out.size;have hfe:fb≠eb:=by have h1:=HFB.out;have h2:=HEB.out;omega
      have hqe:qb≠eb:=by have h1:=HQB.out;have h2:=HEB.out;omega
      have RF3:=zX RF2.out HXE.out hfe;have RB3:=zX RB2.out HXE.out hqe;have f2:wv.cell? ⟨fb,2,none⟩=some (.int .i64 (fAt fs j).body.op):=RF3.cell (i:=2) (by simp);have f3:wv.cell? ⟨fb,3,none⟩=some (.int .i64 (fAt fs j).body.num):=RF3.cell (i:=3) (by simp);have f4:wv.cell? ⟨fb,4,none⟩=some (.slice ak nk ck):=RF3.cell (i:=4) (by simp);have hew:w.heap.size+2≤eb:=by have:=HEB.out;omega
      have hqw:w.heap.size+2≤qb:=by have:=HQB.out;omega
      have QE:Hid (Rd wv (fun k=>k≠qb) (zY (qj 0 k)) (.slice (some ⟨eb,0,none⟩) k k)):=by
       have hO:jB wv (fun k=>k≠qb) (some ⟨eb,0,none⟩) k (qj 0 k):=⟨yT 0 k,fun h=>⟨eb,k,_,rfl,fun e=>hqe e.symm,Nat.le_refl _,HRE.out,fun i hi=>by
        show(if i<k then Value.int .i64 (i:Int)else .int .i64 0)=_
        rw[if_pos hi,gz (by rw[yT];exact hi)]
        simp[qj]⟩⟩
       exact hO.read.toRd (Nat.le_refl _) (by omega)
      have QDv:=LH ((QD2.out.ext HXE.out (fun k hk e=>by omega)).mono (D':=fun k=>k≠qb) (fun k hk e=>by omega));have QKv:=LH ((QK2.out.ext HXE.out (fun k hk e=>by omega)).mono (D':=fun k=>k≠qb) (fun k hk e=>by omega));have QPv:=LH (QP2.out.ext HXE.out (fun k hk e=>by omega));have LQ:Hid (qL wv we.heap.size qb 91 #[.slice a0 n0 c0,.int .i64 (k:Int),.slice none 0 0] (fun _=>False) (.slice none 0 0) []):=⟨RB3,Acc.nil _ _ _ _ _,fun h=>h,fun k hk=>(by cases hk),fun _ h=>h.elim,hwv⟩;have hc:=LB.out (fAt fs j).params (qj 0 k) k (k:Int) qb we.heap.size (fun _=>False) (fun k=>k≠qb) (.slice none 0 0) [] a0 n0 c0 (some ⟨eb,0,none⟩) k k ak nk ck wv LQ.out rfl QDv.out QE.out QKv.out (fun k hk=>⟨hk,fun e=>by cases e⟩) TY.out HL9.out HB9.out HC9.out (by have:=HD9.out;simp;omega);rw[HS9.out,HY9.out]at hc;replace hc:=LH hc;have RF3':=LH RF3;clear RF3 RB3 hfe hqe;go_wp2_with fail;refine hc.out.mono ?_;clear hc;rintro e wx ⟨v5,D5,rfl,L5,T5⟩;obtain⟨az,cs,e9,hcs,hos⟩:=L5.acc.own (by omega) (by rw[List.nil_append,qx,List.length_map];omega);have hl:(zk s9).length=s9.length:=by rw[qx,List.length_map]
      rw[List.nil_append,hl]at e9;rw[List.nil_append]at hos;obtain⟨ns,hns9⟩:∃m,s9.length=m:=⟨_,rfl⟩;rw[hns9]at e9;subst e9;have q2:wx.cell? ⟨qb,2,none⟩=some (.slice az ns cs):=L5.row.cell (i:=2) (by simp);have hT:∀i,(i=qb∨(Value.slice none 0 0).ownBlock=some i)→i=qb:=fun i hi=>by
       rcases hi with hi|hi
       ·exact hi
       ·cases hi
      have hx5:=T5.ext.size;have RF5:=zX RF3'.out T5.ext (fun h=>by have h1:=hT _ h;have h2:=HFB.out;have h3:=HQB.out;omega);obtain⟨f0,f1⟩:C2 (wx) (fb) (.slice ap k cp) (.int .i64 (fAt fs j).result):=rc2 RF5 (by simp);have KXO:Hid (zQ wo wx):=by
       show zQ _ _;exact((KF'.out.trans KE.out).then_ HXE.out (fun i hi e=>by have:=HEB.out;omega)).then_ T5.ext (fun i hi e=>by have h1:=hT _ e;have h2:=HQB.out;omega)
      have RX:=LH (rwk RSJ.out KXO.out);have z1:wx.cell? ⟨ob,1,none⟩=some ok:=RX.out.cell (i:=1) (by omega);have HAX:=LH (HA.out.keep KXO.out);have hwx:=KXO.out.size;have OSX:Hid (Own wx (fun i=>wo.heap.size≤i∧i<wx.heap.size) (zF s9) (.slice az ns cs)):=hos.lt.mono (fun i hi=>⟨by
       have h1:=HSE.out
       have h2:=HEB.out
       rcases hi.1 with h|h
       ·rcases T5.sub i h with h|h
        ·exact h.elim
        ·omega
       ·omega,hi.2⟩)
      have QPX:=LH (QPv.out.ext T5.ext (fun i hi e=>by have h1:=hT _ e;omega));clear L5 T5 hos hT hcs hns9 RF5 f2 f3 f4;go_wp2_with fail;refine wp_region_held_drew (S:=fun w'=>w'.cell? ⟨fb,0,none⟩=some (.slice ap k cp)∧w'.cell? ⟨fb,1,none⟩=some (.int .i64 (fAt fs j).result)∧w'.cell? ⟨qb,2,none⟩=some (.slice az ns cs)) (by kernel_rfl) ⟨f0,f1,q2⟩ (fun hHeld=>?_);refine wT 0 hHeld ?_;try go_frame
      refine wT 2 hHeld ?_;try go_frame
      refine wT 3 hHeld ?_;try go_frame
      refine wT 5 hHeld ?_;try go_frame
      refine wT 6 hHeld ?_;try go_frame
      refine wT 7 hHeld ?_;try go_frame
      refine wT 8 hHeld ?_;try go_frame
      refine wT 9 hHeld ?_;try go_frame
      refine wT 10 hHeld ?_;try go_frame
      refine wpAnyH_ready (rs:= [1,4]) (by kernel_rfl) (by simp) ?_;refine zH rfl (by rfl) (fun K hK=>?_) (zH rfl (by rfl) (fun K hK=>?_) (AllReadyH.nil));go_simp;refine hK.out _ _ ⟨f0,f1,q2⟩ (fun hHeld=>?_);clear hK K;try go_frame
      refine wO 4 (fun K hK=>?_);go_simp;go_at_call 54;refine(vN ap k cp (fAt fs j).params _ wx.drew (QPX.out.kd).toInts (by omega)).mono ?_;rintro e Y1 ⟨vp,rfl,hvp,kY1⟩;have f0Y1:=zQ.at kY1 f0;have f1Y1:=zQ.at kY1 f1;have q2Y1:=zQ.at kY1 q2;have z1Y1:=zQ.at kY1 z1;obtain⟨a9,c9,e9,hc9,_⟩:=hvp.slice;obtain⟨n9,hn9⟩:∃m,(fAt fs j).params.length=m:=⟨_,rfl⟩;rw[hn9]at e9;subst e9;have HVP:Hid (VR Y1 wx.heap.size (.slice a9 n9 c9) (fAt fs j).params):=hvp.lower (Nat.le_refl _);have OVP:=LH (HVP.out.owns (by have:=HNP.out;omega));have hvl:=HVP.out.lt;have HVL:=LH hvl;have KY:=LH (zQ.dt kY1);clear hvp hc9 hn9 hvl;refine hK.out _ _ ⟨f0Y1,f1Y1,q2Y1⟩ (fun hHeld=>?_);clear hK K;try go_frame
      refine wT 11 hHeld ?_;try go_frame
      refine wO 12 (fun K hK=>?_);go_simp;obtain⟨Y2,hWY2,kY2,hzY2⟩:=SN Y1 (.cells #[.slice a9 n9 c9,.slice none 0 0,.int .i64 (fAt fs j).result,.slice az ns cs,.int .i64 y9] 71);rw[←hWY2];obtain⟨f0Y2,f1Y2,q2Y2,z1Y2⟩:=kY2.k4 f0Y1 f1Y1 q2Y1 z1Y1;have HCL:=LH (show ∀j' u, [(.slice a9 n9 c9:Value),.slice none 0 0,.int .i64 (fAt fs j).result,.slice az ns cs,.int .i64 y9][j']?=some u→Y2.cell? ⟨Y1.heap.size,j',none⟩=some u by rw[hWY2];exact j0 Y1 _ _);have KY2:=LH (KY.out.trans kY2);have OA2:=LH (OVP.out.ext kY2 (fun _ _ h=>h));have OS2:=LH (OSX.out.ext KY2.out (fun _ _ h=>h));replace hWY2:=LH hWY2;refine hK.out _ _ ⟨f0Y2,f1Y2,q2Y2⟩ (fun hHeld=>?_);clear hK K;try go_frame
      refine wO 13 (fun K hK=>?_);refine yU (ops:= #[]) (by rfl) (YK (by rfl) (.tmp 51) (.tmp 62) (by rfl) wl.heap.size ok _ (by rfl) (HAX.out.keep KY2.out) _ 1 ⟨(fAt fs j).params, [],(fAt fs j).result,.mk s9 y9⟩ (.slice a9 n9 c9) (.slice none 0 0) (.slice az ns cs) _ (fun _=>False) _ (by rfl) HCL.out OA2.out (.nil _ _ _ _) OS2.out (fun k hk=>?_) (fun _ _ h=>h) (fun k h1 h2=>?_) (fun _ h=>h.elim) (by have:=HLR.out;omega) (by have h1:=KY2.out.size;omega) ?_)
      ·have hge:wo.heap.size≤k:=by
        rcases hk with hk|hk|hk
        ·have:=(HVL.out k hk).1;omega
        ·exact hk.elim
        ·exact hk.1
       exact⟨fun h=>by have:=(HD.out k h).2;omega,fun h=>by have:=hob.out k h;omega⟩
      ·have h3:=(HVL.out k h1).1;have h4:=h2.2;omega
      intro a7 n7 c7 wz hA7 x7 s7 b7;have A7:=LH hA7;have X7:=LH x7;have B7:=LH b7;clear hA7 x7 s7 b7;have f0z:=X7.out.cq f0Y2 (fun e=>by have h1:=hob.out _ e;have h2:=HFB.out;change fb<_ at h1;omega);have f1z:=X7.out.cq f1Y2 (fun e=>by have h1:=hob.out _ e;have h2:=HFB.out;change fb<_ at h1;omega);have q2z:=X7.out.cq q2Y2 (fun e=>by have h1:=hob.out _ e;have h2:=HQB.out;change qb<_ at h1;omega);refine hK.out _ _ ⟨f0z,f1z,q2z⟩ (fun hHeld=>?_);clear hK K;try go_frame
      refine wT 14 hHeld ?_;try go_frame
      refine wO 15 (fun K hK=>?_);have RZ:=LH (zX (rwk RX.out KY2.out) X7.out (HNO.out _ hsw));have g1:wz.cell? ⟨ob,1,none⟩=some ok:=RZ.out.cell (i:=1) (by omega);have g2:=RZ.out.frozen 1;have hq1:ob≠fb:=by have:=HFB.out;omega
      have hq2:ob≠qb:=by have:=HQB.out;omega
      go_simp;obtain⟨wy,hWy⟩:∃y:World,y=wz.setCell ⟨ob,1,none⟩ (.slice a7 n7 c7):=⟨_,rfl⟩;rw[←hWy];have XY:=LH (show Ext (fun k=>k=ob) wz wy by rw[hWy];exact(Ext.refl (fun k=>k=ob) wz).setCell (p:=⟨ob,1,none⟩) (.inr rfl) _);have RY:Hid (wy.rowIs ob 30 2 (fun i=>(#[.slice ad n0 cd,.slice a7 n7 c7]:Array Value).getD i undef)):=by
       show World.rowIs _ _ _ _ _;rw[hWy];exact(RZ.out.set 1 _).congr (fun i hi=>by rcases(show i=0∨i=1 by omega)with rfl|rfl<;>rfl)
      replace hWy:=LH hWy;have f0y:=XY.out.cq f0z (fun h=>hq1 h.symm);have f1y:=XY.out.cq f1z (fun h=>hq1 h.symm);have q2y:=XY.out.cq q2z (fun h=>hq2 h.symm);refine hK.out _ _ ⟨f0y,f1y,q2y⟩ (fun hHeld=>?_);clear hK K;try go_frame
      refine wpAnyH_done (by kernel_rfl) ?_ _;rotate_left;go_simp;go_at_call 54;refine(vN ap k cp (fAt fs j).params _ wx.drew (QPX.out.kd).toInts (by omega)).mono ?_;rintro e Y1 ⟨vp,rfl,hvp,kY1⟩;have f0Y1:=zQ.at kY1 f0;have f1Y1:=zQ.at kY1 f1;have q2Y1:=zQ.at kY1 q2;have z1Y1:=zQ.at kY1 z1;obtain⟨a9,c9,e9,hc9,_⟩:=hvp.slice;obtain⟨n9,hn9⟩:∃m,(fAt fs j).params.length=m:=⟨_,rfl⟩;rw[hn9]at e9;subst e9;have HVP:Hid (VR Y1 wx.heap.size (.slice a9 n9 c9) (fAt fs j).params):=hvp.lower (Nat.le_refl _);have OVP:=LH (HVP.out.owns (by have:=HNP.out;omega));have hvl:=HVP.out.lt;have HVL:=LH hvl;have KY:=LH (zQ.dt kY1);clear hvp hc9 hn9 hvl;refine hK.out _ _ ⟨f0Y1,f1Y1,q2Y1⟩ (fun hHeld=>?_);clear hK K;try go_frame
      refine wT 11 hHeld ?_;try go_frame
      refine wpAnyH_ready (rs:= [1,12]) (by kernel_rfl) (by simp) ?_;refine zH rfl (by rfl) (fun K hK=>?_) (zH rfl (by rfl) (fun K hK=>?_) (AllReadyH.nil));go_simp;refine hK.out _ _ ⟨f0Y1,f1Y1,q2Y1⟩ (fun hHeld=>?_);clear hK K;try go_frame
      refine wO 12 (fun K hK=>?_);go_simp;obtain⟨Y2,hWY2,kY2,hzY2⟩:=SN Y1 (.cells #[.slice a9 n9 c9,.slice none 0 0,.int .i64 (fAt fs j).result,.slice az ns cs,.int .i64 y9] 71);rw[←hWY2];obtain⟨f0Y2,f1Y2,q2Y2,z1Y2⟩:=kY2.k4 f0Y1 f1Y1 q2Y1 z1Y1;have HCL:=LH (show ∀j' u, [(.slice a9 n9 c9:Value),.slice none 0 0,.int .i64 (fAt fs j).result,.slice az ns cs,.int .i64 y9][j']?=some u→Y2.cell? ⟨Y1.heap.size,j',none⟩=some u by rw[hWY2];exact j0 Y1 _ _);have KY2:=LH (KY.out.trans kY2);have OA2:=LH (OVP.out.ext kY2 (fun _ _ h=>h));have OS2:=LH (OSX.out.ext KY2.out (fun _ _ h=>h));replace hWY2:=LH hWY2;refine hK.out _ _ ⟨f0Y2,f1Y2,q2Y2⟩ (fun hHeld=>?_);clear hK K;try go_frame
      refine wO 13 (fun K hK=>?_);refine yU (ops:= #[]) (by rfl) (YK (by rfl) (.tmp 51) (.tmp 62) (by rfl) wl.heap.size ok _ (by rfl) (HAX.out.keep KY2.out) _ 1 ⟨(fAt fs j).params, [],(fAt fs j).result,.mk s9 y9⟩ (.slice a9 n9 c9) (.slice none 0 0) (.slice az ns cs) _ (fun _=>False) _ (by rfl) HCL.out OA2.out (.nil _ _ _ _) OS2.out (fun k hk=>?_) (fun _ _ h=>h) (fun k h1 h2=>?_) (fun _ h=>h.elim) (by have:=HLR.out;omega) (by have h1:=KY2.out.size;omega) ?_)
      ·have hge:wo.heap.size≤k:=by
        rcases hk with hk|hk|hk
        ·have:=(HVL.out k hk).1;omega
        ·exact hk.elim
        ·exact hk.1
       exact⟨fun h=>by have:=(HD.out k h).2;omega,fun h=>by have:=hob.out k h;omega⟩
      ·have h3:=(HVL.out k h1).1;have h4:=h2.2;omega
      intro a7 n7 c7 wz hA7 x7 s7 b7;have A7:=LH hA7;have X7:=LH x7;have B7:=LH b7;clear hA7 x7 s7 b7;have f0z:=X7.out.cq f0Y2 (fun e=>by have h1:=hob.out _ e;have h2:=HFB.out;change fb<_ at h1;omega);have f1z:=X7.out.cq f1Y2 (fun e=>by have h1:=hob.out _ e;have h2:=HFB.out;change fb<_ at h1;omega);have q2z:=X7.out.cq q2Y2 (fun e=>by have h1:=hob.out _ e;have h2:=HQB.out;change qb<_ at h1;omega);refine hK.out _ _ ⟨f0z,f1z,q2z⟩ (fun hHeld=>?_);clear hK K;try go_frame
      refine wT 14 hHeld ?_;try go_frame
      refine wO 15 (fun K hK=>?_);have RZ:=LH (zX (rwk RX.out KY2.out) X7.out (HNO.out _ hsw));have g1:wz.cell? ⟨ob,1,none⟩=some ok:=RZ.out.cell (i:=1) (by omega);have g2:=RZ.out.frozen 1;have hq1:ob≠fb:=by have:=HFB.out;omega
      have hq2:ob≠qb:=by have:=HQB.out;omega
      go_simp;obtain⟨wy,hWy⟩:∃y:World,y=wz.setCell ⟨ob,1,none⟩ (.slice a7 n7 c7):=⟨_,rfl⟩;rw[←hWy];have XY:=LH (show Ext (fun k=>k=ob) wz wy by rw[hWy];exact(Ext.refl (fun k=>k=ob) wz).setCell (p:=⟨ob,1,none⟩) (.inr rfl) _);have RY:Hid (wy.rowIs ob 30 2 (fun i=>(#[.slice ad n0 cd,.slice a7 n7 c7]:Array Value).getD i undef)):=by
       show World.rowIs _ _ _ _ _;rw[hWy];exact(RZ.out.set 1 _).congr (fun i hi=>by rcases(show i=0∨i=1 by omega)with rfl|rfl<;>rfl)
      replace hWy:=LH hWy;have f0y:=XY.out.cq f0z (fun h=>hq1 h.symm);have f1y:=XY.out.cq f1z (fun h=>hq1 h.symm);have q2y:=XY.out.cq q2z (fun h=>hq2 h.symm);refine hK.out _ _ ⟨f0y,f1y,q2y⟩ (fun hHeld=>?_);clear hK K;try go_frame
      refine wpAnyH_done (by kernel_rfl) ?_ _;rotate_left;go_simp;obtain⟨Y2,hWY2,kY2,hzY2⟩:=SN Y1 (.cells #[.slice a9 n9 c9,.slice none 0 0,.int .i64 (fAt fs j).result,.slice az ns cs,.int .i64 y9] 71);rw[←hWY2];obtain⟨f0Y2,f1Y2,q2Y2,z1Y2⟩:=kY2.k4 f0Y1 f1Y1 q2Y1 z1Y1;have HCL:=LH (show ∀j' u, [(.slice a9 n9 c9:Value),.slice none 0 0,.int .i64 (fAt fs j).result,.slice az ns cs,.int .i64 y9][j']?=some u→Y2.cell? ⟨Y1.heap.size,j',none⟩=some u by rw[hWY2];exact j0 Y1 _ _);have KY2:=LH (KY.out.trans kY2);have OA2:=LH (OVP.out.ext kY2 (fun _ _ h=>h));have OS2:=LH (OSX.out.ext KY2.out (fun _ _ h=>h));replace hWY2:=LH hWY2;refine hK.out _ _ ⟨f0Y2,f1Y2,q2Y2⟩ (fun hHeld=>?_);clear hK K;try go_frame
      refine wO 1 (fun K hK=>?_);go_simp;refine hK.out _ _ ⟨f0Y2,f1Y2,q2Y2⟩ (fun hHeld=>?_);clear hK K;try go_frame
      refine wO 13 (fun K hK=>?_);refine yU (ops:= #[]) (by rfl) (YK (by rfl) (.tmp 51) (.tmp 62) (by rfl) wl.heap.size ok _ (by rfl) (HAX.out.keep KY2.out) _ 1 ⟨(fAt fs j).params, [],(fAt fs j).result,.mk s9 y9⟩ (.slice a9 n9 c9) (.slice none 0 0) (.slice az ns cs) _ (fun _=>False) _ (by rfl) HCL.out OA2.out (.nil _ _ _ _) OS2.out (fun k hk=>?_) (fun _ _ h=>h) (fun k h1 h2=>?_) (fun _ h=>h.elim) (by have:=HLR.out;omega) (by have h1:=KY2.out.size;omega) ?_)
      ·have hge:wo.heap.size≤k:=by
        rcases hk with hk|hk|hk
        ·have:=(HVL.out k hk).1;omega
        ·exact hk.elim
        ·exact hk.1
       exact⟨fun h=>by have:=(HD.out k h).2;omega,fun h=>by have:=hob.out k h;omega⟩
      ·have h3:=(HVL.out k h1).1;have h4:=h2.2;omega
      intro a7 n7 c7 wz hA7 x7 s7 b7;have A7:=LH hA7;have X7:=LH x7;have B7:=LH b7;clear hA7 x7 s7 b7;have f0z:=X7.out.cq f0Y2 (fun e=>by have h1:=hob.out _ e;have h2:=HFB.out;change fb<_ at h1;omega);have f1z:=X7.out.cq f1Y2 (fun e=>by have h1:=hob.out _ e;have h2:=HFB.out;change fb<_ at h1;omega);have q2z:=X7.out.cq q2Y2 (fun e=>by have h1:=hob.out _ e;have h2:=HQB.out;change qb<_ at h1;omega);refine hK.out _ _ ⟨f0z,f1z,q2z⟩ (fun hHeld=>?_);clear hK K;try go_frame
      refine wT 14 hHeld ?_;try go_frame
      refine wO 15 (fun K hK=>?_);have RZ:=LH (zX (rwk RX.out KY2.out) X7.out (HNO.out _ hsw));have g1:wz.cell? ⟨ob,1,none⟩=some ok:=RZ.out.cell (i:=1) (by omega);have g2:=RZ.out.frozen 1;have hq1:ob≠fb:=by have:=HFB.out;omega
      have hq2:ob≠qb:=by have:=HQB.out;omega
      go_simp;obtain⟨wy,hWy⟩:∃y:World,y=wz.setCell ⟨ob,1,none⟩ (.slice a7 n7 c7):=⟨_,rfl⟩;rw[←hWy];have XY:=LH (show Ext (fun k=>k=ob) wz wy by rw[hWy];exact(Ext.refl (fun k=>k=ob) wz).setCell (p:=⟨ob,1,none⟩) (.inr rfl) _);have RY:Hid (wy.rowIs ob 30 2 (fun i=>(#[.slice ad n0 cd,.slice a7 n7 c7]:Array Value).getD i undef)):=by
       show World.rowIs _ _ _ _ _;rw[hWy];exact(RZ.out.set 1 _).congr (fun i hi=>by rcases(show i=0∨i=1 by omega)with rfl|rfl<;>rfl)
      replace hWy:=LH hWy;have f0y:=XY.out.cq f0z (fun h=>hq1 h.symm);have f1y:=XY.out.cq f1z (fun h=>hq1 h.symm);have q2y:=XY.out.cq q2z (fun h=>hq2 h.symm);refine hK.out _ _ ⟨f0y,f1y,q2y⟩ (fun hHeld=>?_);clear hK K;try go_frame
      refine wpAnyH_done (by kernel_rfl) ?_ _;rotate_left;all_goals
       have KR:=LH ((((HK.out.trans (zQ.to KXO.out)).trans (zQ.to KY2.out)).then_ X7.out (fun i hi h=>absurd h (HNO.out i hi))).trans XY.out);have hx7:=X7.out.size;have hk2:=KY2.out.size;have hxy:=XY.out.size;go_wp2;go_roundw
       case rel=>exact⟨j+1,_,.slice a7 n7 c7,by omega,by go_num,RY.out,(by
        show Acc _ _ _ _ _ _ _
        rw[HTK.out,HNF.out]
        refine A7.out.extO XY.out (fun k hk hd e=>?_) (fun k hk e=>?_)
        ·rcases hd with hd|hd
         ·have:=(HD.out k hd).1;omega
         ·rcases hd.1 with h|h|h
          ·have:=(HVL.out k h).1;omega
          ·exact h.elim
          ·have:=h.1;omega
        ·rcases B7.out k hk with h|h
         ·exact HNO.out k (by omega) h
         ·omega),(fun k hk=>by
        rcases hk with hk|hk
        ·have:=HD.out k hk;omega
        ·have h2:=hk.2
         rcases hk.1 with h|h|h
         ·have:=(HVL.out k h).1;omega
         ·exact h.elim
         ·have:=h.1;omega),KR.out⟩
       case measure=>simp[intOf];omega
   ·have hjn:j=n1:=by omega
    subst hjn;have HJ:=LH (show fs.take j=fs by rw[List.take_of_length_le (by have:=HL.out;omega)]);rw[HJ.out]at HA;obtain⟨ar,cr,e9,hcr,hor⟩:=HA.out.own (by omega) (by rw[List.length_map];omega);obtain⟨nr9,hnr9⟩:∃m,(fs.map (fun f=>yG (xv ds f))).length=m:=⟨_,rfl⟩;rw[hnr9]at e9;subst e9;have RT:=zX RZ2.out HK.out (fun h=>by omega);obtain⟨t0,t1⟩:C2 (wo) (w.heap.size+1) (.slice none 0 0) (.slice none 0 0):=rc2 RT (by simp);have t2:=RT.frozen 0;have t3:=RT.frozen 1;obtain⟨z0,z1⟩:C2 (wo) (ob) (.slice ad n0 cd) (.slice ar nr9 cr):=rc2 RSJ.out (by omega);have X:=(((Ext.refl (fun k=>k=w.heap.size+1) wo).setCell (p:=⟨w.heap.size+1,0,none⟩) (.inr rfl) (.slice ad n0 cd)).setCell (p:=⟨w.heap.size+1,1,none⟩) (.inr rfl) (.slice ar nr9 cr));have hol:=HOB.out;have KF:=LH ((K2.out.then_ HK.out (fun i hi e=>by omega)).then_ X (fun i hi e=>by omega));have hxs:=X.size;have TF:Hid (ToS w.heap.size (((wo.setCell ⟨w.heap.size+1,0,none⟩ (.slice ad n0 cd)).setCell ⟨w.heap.size+1,1,none⟩ (.slice ar nr9 cr))).heap.size ((wo.setCell ⟨w.heap.size+1,0,none⟩ (.slice ad n0 cd)).setCell ⟨w.heap.size+1,1,none⟩ (.slice ar nr9 cr)) [z5 ds,yx (fs.map (xv ds))] [.slice ad n0 cd,.slice ar nr9 cr]):=by
     have hsl:=SL.out;refine ToS.mk2 (E0:=fun k=>w1.heap.size≤k∧k<w2.heap.size) (E1:=fun k=>wl.heap.size≤k∧k<wo.heap.size) (fun k hk=>by omega) (fun k hk=>by omega) (fun k h1 h2=>by omega) ((OD.out.ext HK.out (fun k hk e=>by omega)).ext X (fun k hk e=>by omega)) ?_;rw[yx,List.map_map];exact(hor.lt.mono (D':=fun k=>wl.heap.size≤k∧k<wo.heap.size) (fun k hk=>⟨by rcases hk.1 with h|h;exact(HD.out k h).1;exact h,hk.2⟩)).ext X (fun k hk e=>by omega)
    clear RT X hor hnr9 hol;go_wp2_with fail;exact bodyPost_ret (v:=.tuple #[.agg #[.slice ad n0 cd,.slice ar nr9 cr],.bool true]) (by simp[results,Tryz.results17,go_sem,t0,t1]) rfl (zB hQ ⟨ad,n0,cd,ar,nr9,cr,rfl,TF.out,KF.out⟩)
theorem H6{ds:List zG}{fs:List zA}(h:j4 ds fs=true){j:Nat}(hj:j<fs.length):∃k m:Nat,k≤m∧m≤30∧JW (qF (YQ ds fs) j).body.steps=(k:Int)∧j9 (fAt fs j).body.kids=(m:Int):=by
 have hb:=(gY (jw h).1 hj ((jw h).2 j hj)).1;have h1:=g8 ds (fAt fs j).body (qj 0 (fAt fs j).params.length) (fAt fs j).params.length;have h2:=uF (fAt fs j).body;refine⟨nSs (qG ds (fAt fs j).body (qj 0 (fAt fs j).params.length) (fAt fs j).params.length).1,nEs (fAt fs j).body.kids+1,by omega,hb,?_,gj hb⟩;rw[YQ,if_pos h,show qF (fs.map (xv ds)) j=xv ds (fAt fs j)by rw[KH (by simpa using hj),YS hj];simp];exact YY (by show nSs (qG ds (fAt fs j).body (qj 0 (fAt fs j).params.length) (fAt fs j).params.length).1≤600;omega)
theorem WD(a:Option Addr)(len cap:Nat)(z:Nat→Int)(w:World)(h:Byt w a len z)(hlc:len≤cap):
  Calls Tryz.prog 6 #[.slice a len cap] w fun e w'=>e=.returned (.bool true)∧zQ w w':=by
 refine zV fun Q hQ=>?_;by_cases hl:len≤1048576
 ·go_in
  go_wp2_with fail;refine(Yq a len cap z w h hlc hl).mono ?_;rintro e w1 ⟨ds,fs,a0,n0,c0,a1,n1,c1,rfl,r0,r1,hf,k1⟩;have KO:=zQ.al w1 (.cells #[.slice a0 n0 c0,.slice a1 n1 c1] 44);have K:=LH (k1.trans KO);have P:=LH (Px.born w1 (.slice a0 n0 c0) (.slice a1 n1 c1));have RD:=LH (r0.k KO);have RF:=LH (r1.k KO);have HF:Hid (PZ fs):=hf;clear h r0 r1 k1 KO hf;go_upto_region 4 with fail;generalize hW:w1.alloc (.cells #[.slice a0 n0 c0,.slice a1 n1 c1] 44)=W at*;clear hW;generalize hS:w1.heap.size=s at*;clear hS;obtain⟨v,hv⟩:∃v,v=j4 ds fs:=⟨_,rfl⟩;have V:Hid (j4 ds fs=v):=hv.symm;clear hv;have p0:=P.out.x0;have p1:=P.out.x1;go_wp2_with fail;refine(VQ ds fs HF.out a0 n0 c0 a1 n1 c1 _ _ _ RD.out RF.out).mono ?_;rw[V.out];rintro e w2 ⟨ad,nd,cd,ar,nr,cr,rfl,ts,kk⟩;have KB:=zQ.al w2 (.cells #[.slice ad nd cd,.slice ar nr cr] 30);have KK:=kk.trans KB;have D1:=LH ((ts.get 0 _ _ rfl rfl).read.k KB);have R1:=LH ((ts.get 1 _ _ rfl rfl).read.k KB);have RO:=LH (zP w2 #[.slice ad nd cd,.slice ar nr cr] 30);replace K:=LH (K.out.trans KK);replace P:=LH (P.out.k KK);replace RD:=LH (RD.out.k KK);replace RF:=LH (RF.out.k KK);clear ts kk KB KK p0 p1;have p0:=P.out.x0;have p1:=P.out.x1;go_wp2_with fail;refine(Uk ds fs a0 n0 c0 a1 n1 c1 _ _ _ RD.out RF.out).mono ?_;rw[V.out];rintro e w3 ⟨bd,md,ed,br,mr,er,rfl,rd3,rr3,kk⟩;have KB:=zQ.al w3 (.cells #[.slice bd md ed,.slice br mr er] 30);have KK:=kk.trans KB;have D2:=LH (rd3.k KB);have R2:=LH (rr3.k KB);replace D1:=LH (D1.out.k KK);replace R1:=LH (R1.out.k KK);have RV:=LH (zP w3 #[.slice bd md ed,.slice br mr er] 30);replace RO:=LH (rwk RO.out KK);replace K:=LH (K.out.trans KK);replace P:=LH (P.out.k KK);replace RD:=LH (RD.out.k KK);replace RF:=LH (RF.out.k KK);clear rd3 rr3 kk KB KK p0 p1;obtain⟨o0,o1⟩:C2 ((w3.alloc (.cells #[.slice bd md ed,.slice br mr er] 30))) (w2.heap.size) (.slice ad nd cd) (.slice ar nr cr):=rc2 RO.out (by simp);obtain⟨v0,v1⟩:C2 ((w3.alloc (.cells #[.slice bd md ed,.slice br mr er] 30))) (w3.heap.size) (.slice bd md ed) (.slice br mr er):=rc2 RV.out (by simp);go_wp2_with fail;refine(JN (J1 ds fs) (YQ ds fs) _ _ _ _ _ _ _ _ _ _ _ _ _ _ _ _ _ D1.out R1.out D2.out R2.out).mono ?_;rintro e w4 ⟨rfl,kk⟩;replace D1:=LH (D1.out.k kk);replace R1:=LH (R1.out.k kk);replace D2:=LH (D2.out.k kk);replace R2:=LH (R2.out.k kk);replace RV:=LH (rwk RV.out kk);replace RO:=LH (rwk RO.out kk);replace K:=LH (K.out.trans kk);replace P:=LH (P.out.k kk);replace RD:=LH (RD.out.k kk);replace RF:=LH (RF.out.k kk);clear kk o0 o1 v0 v1;obtain⟨o0,o1⟩:C2 (w4) (w2.heap.size) (.slice ad nd cd) (.slice ar nr cr):=rc2 RO.out (by simp);obtain⟨v0,v1⟩:C2 (w4) (w3.heap.size) (.slice bd md ed) (.slice br mr er):=rc2 RV.out (by simp);cases v
  ·go_wp2_with fail
   refine(JN (J1 ds fs) (YQ ds fs) _ _ _ _ _ _ _ _ _ _ _ _ _ _ _ _ _ D1.out R1.out D2.out R2.out).mono ?_;rintro e w5 ⟨rfl,kk⟩;replace K:=LH (K.out.trans kk);clear kk o0 o1 v0 v1;go_wp2_with fail;exact zB hQ ⟨rfl,K.out⟩
  ·have HL:Hid (fs.length=n1):=(qZ RF.out).1
   have HL2:Hid (fs.length=nr):=by
    show _=_;have h1:=(Zk R1.out).1;rw[YQ,if_pos V.out,List.length_map]at h1;exact h1
   have hn4:n1≤4:=by have h1:=(YV V.out).2;have h2:=HL.out;omega
   have p0:=P.out.x0;have p1:=P.out.x1;have KE:Hid (zQ w4 w4):=Ext.refl _ _;clear v0 v1 o0;go_wp2_with fail;go_loopw [8] (fun iv wr=>∃(j:Nat),j≤n1∧iv=.int .i64 j∧Hid (zQ w4 wr)) (fun i _=>n1-(intOf i).toNat)
   case atStart=>exact⟨0,Nat.zero_le _,rfl,KE⟩
   case round=>
    clear KE;obtain⟨j,hj,rfl,KL⟩:=hrel;obtain⟨wo,rfl⟩:∃wo:World,wo=wr:=⟨_,rfl⟩;obtain⟨p1,o1⟩:=KL.out.k2 p1 o1;by_cases hlt:j<n1
    ·have hjl:j<fs.length:=by have:=HL.out;omega
     have hjr:j<nr:=by have:=HL2.out;have:=HL.out;omega
     obtain⟨k,m,hkm,hm3,hk,hm⟩:=H6 V.out hjl;have HKS:=LH hk;have HMN:=LH hm;obtain⟨b,o,rfl,_,a2,n2,c2,a3,n3,c3,a4,n4,c4,d0,d1,d2,d3,d4,rp,rl,rb⟩:=(Zk R1.out).2.2.2 j hjr;obtain⟨b',o',rfl,_,a5,n5,c5,a6,n6,c6,z0,z1,z2,z3,z4,rq,rk⟩:=(qZ RF.out).2.2.2 j hlt;obtain⟨d3,d4⟩:=KL.out.k2 d3 d4;have Z2:=LH z2;have Z3:=LH z3;have Z4:=LH z4;have RB:=LH (rb.k KL.out);have RK:=LH (rk.k KL.out);have P1:=LH p1;have hk1:¬((k:Int)<0):=by omega
     have hkm2:¬((m:Int)<(k:Int)):=by omega
     clear hk hm d0 d1 d2 rp rl rb rq rk z0 z1 z2 z3 z4;go_wp2_with fail;refine(WT _ _ _ _ _ _ _ RB.out).mono ?_;rw[HKS.out];rintro e w5 ⟨rfl,kk⟩;have K5:=LH (KL.out.trans kk);have p1:=kk.q P1.out;obtain⟨z2,z3,z4⟩:=K5.out.k3 Z2.out Z3.out Z4.out;have RK2:=LH (RK.out.k kk);clear kk d3 d4 o1;go_wp2_with fail;refine(kZ _ _ _ _ _ _ _ _ RK2.out).mono ?_;rw[HMN.out];rintro e w6 ⟨rfl,kk⟩;have K6:=LH (K5.out.trans kk);clear kk z2 z3 z4 p1;go_wp2_with fail;go_roundw
     case rel=>exact⟨j+1,by omega,by go_num,K6⟩
     case measure=>simp[intOf];omega
    ·go_wp2_with fail
     exact zB hQ ⟨rfl,K.out.trans KL.out⟩
 ·go_in
  go_wp2_with fail;exact zB hQ ⟨rfl,Ext.refl _ _⟩
end Go.Proofs.YtkapldpmjkdmcaaGreat
