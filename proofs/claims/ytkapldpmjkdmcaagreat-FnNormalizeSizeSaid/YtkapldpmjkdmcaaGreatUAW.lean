/- The program's types of expressions: variables, let. -/
import Derived.Test.YtkapldpmjkdmcaaGreatUAR
import Derived.Test.YtkapldpmjkdmcaaGreatUAU
import Derived.Test.YtkapldpmjkdmcaaGreatUAQ
import Derived.Test.YtkapldpmjkdmcaaGreatUAG
namespace Go.Proofs.YtkapldpmjkdmcaaGreat
open Go.RowKit
set_option maxRecDepth 100000
set_option maxHeartbeats 4000000
theorem Ext.atd{S:Nat→Prop}{w w':World}(k:Ext S w.drew w'){p:Addr}(hs:¬S p.block){v:Value}(h:w.cell? p=some v):w'.cell? p=some v:=
 (k.cell (World.block_lt_of_cell? w.drew _ h) hs).trans h
theorem DJ.grow{w w' w'':World}{base:Nat}{v v':Value}{xs:List Int}{y:Int}(h:DJ w base v xs y v' w')(hx:Ext (fun r=>v'.ownBlock=some r) w' w''):Ext (fun r=>v.ownBlock=some r) w w'':=
 h.ext.then_ hx (fun i hi e=>by
  rcases h.blk i e with h1|h1
  ·exact h1
  ·omega)
theorem Ext.dt{S:Nat→Prop}{w w':World}(h:Ext S w.drew w'):Ext S w w':=(Ext.refl _ w).drew.trans h
section
variable (ds:List zG)(sg:List yJ)(hok:qJ ds sg=true)
include hok
theorem FV(num:Int)(hnum:Q5 12 num)(es:List zK)(IH0:∀j,j<es.length→TyI ds sg (eAt es j)):TyI ds sg (.mk 12 num es):=by
 intro a0 n0 c0 a1 n1 c1 v vars a n c w base D hp hv h hD hb hlen hall;refine zV fun Q hQ=>?_;change Rd w D (zJ es) _ at h;rw[nE]at hlen;simp only[zK.op,zK.num];obtain⟨av,cv,rfl,hvc,hvo⟩:=hv.slice;have VBL:=LH hv.lt;have ht:=(zL hok).1;have hf:=Few.of_ok ht;have hn0:n0≤4:=by have:=(zT hp.1).1;have:=z9 ht;omega
 have hvl:vars.length≤1049576:=by omega
 have K0:=(zQ.al w (.cells #[.slice a0 n0 c0,.slice a1 n1 c1] 130)).trans (zQ.al _ (.cells #[.int .i64 12,.int .i64 num,.slice a n c] 58));have R0:=(zP w #[.slice a0 n0 c0,.slice a1 n1 c1] 130).alloc (.cells #[.int .i64 12,.int .i64 num,.slice a n c] 58);have R1:=zP (w.alloc (.cells #[.slice a0 n0 c0,.slice a1 n1 c1] 130)) #[.int .i64 12,.int .i64 num,.slice a n c] 58;simp only[World.size_alloc]at R1;have hv0:=hv.k K0;have KT:=LH (zQ.to (S:=fun r=>(Value.slice av vars.length cv).ownBlock=some r) K0);obtain⟨e1,hnc,hnm,hat⟩:=zx h;have HL:=LH e1;have HA:=LH hat;have hn30:n≤262394:=by have:=qq es;omega
 have HOK:=LH hok;have HAll:=LH hall;have HLen:=LH hlen;have HT:=LH ht;have HD:=LH hD;have IH:=LH IH0;have HV:=LH hv;have HVO:=LH hvo;have HNUM:=LH hnum;clear e1 hat hok hall ht IH0 hD hv hvo hnum;have V0:=LH (LU ds sg vars num es);rcases Nat.eq_zero_or_pos n with h0|h0
 ·subst h0
  by_cases hr:0≤num∧num<(vars.length:Int)
  ·obtain⟨k,rfl⟩:∃k:Nat,num=(k:Int):=⟨num.toNat,by omega⟩
   have hk:k<vars.length:=by omega
   obtain⟨b,o,rfl,_,d0⟩:=HV.out.ints.2.2 (by omega);have d1:=d0 k hk;have V:=LH (show tyE ds sg vars (.mk 12 (k:Int) es)=iAt vars k by rw[V0.out,if_pos ⟨HL.out,by omega,by omega⟩];rfl);have g0:=K0.q d1;have h00:decide ((0:Int)>0)=false:=rfl;clear hr d0 d1;go_in;go_wp2_with fail;exact zB hQ ⟨zE V.out.symm,hv0,KT.out⟩
  ·have V:=LH (show tyE ds sg vars (.mk 12 num es)= -1 by rw[V0.out,if_neg (fun h=>hr h.2)])
   by_cases h1:num<0
   ·clear hr
    go_in;go_wp2_with fail;exact zB hQ ⟨zE V.out.symm,hv0,KT.out⟩
   ·have h2:(vars.length:Int)≤num:=by omega
    clear hr;go_in;go_wp2_with fail;exact zB hQ ⟨zE V.out.symm,hv0,KT.out⟩
 ·have V:=LH (show tyE ds sg vars (.mk 12 num es)= -1 by rw[V0.out,if_neg (fun h=>by have:=HL.out;omega)])
  go_in;go_wp2_with fail;exact zB hQ ⟨zE V.out.symm,hv0,KT.out⟩
theorem FU(num:Int)(hnum:Q5 13 num)(es:List zK)(IH0:∀j,j<es.length→TyI ds sg (eAt es j)):TyI ds sg (.mk 13 num es):=by
 intro a0 n0 c0 a1 n1 c1 v vars a n c w base D hp hv h hD hb hlen hall;refine zV fun Q hQ=>?_;change Rd w D (zJ es) _ at h;rw[nE]at hlen;simp only[zK.op,zK.num];obtain⟨av,cv,rfl,hvc,hvo⟩:=hv.slice;have VBL:=LH hv.lt;have ht:=(zL hok).1;have hf:=Few.of_ok ht;have hn0:n0≤4:=by have:=(zT hp.1).1;have:=z9 ht;omega
 have hvl:vars.length≤1049576:=by omega
 have K0:=(zQ.al w (.cells #[.slice a0 n0 c0,.slice a1 n1 c1] 130)).trans (zQ.al _ (.cells #[.int .i64 13,.int .i64 num,.slice a n c] 58));have R0:=(zP w #[.slice a0 n0 c0,.slice a1 n1 c1] 130).alloc (.cells #[.int .i64 13,.int .i64 num,.slice a n c] 58);have R1:=zP (w.alloc (.cells #[.slice a0 n0 c0,.slice a1 n1 c1] 130)) #[.int .i64 13,.int .i64 num,.slice a n c] 58;simp only[World.size_alloc]at R1;have hv0:=hv.k K0;have KT:=LH (zQ.to (S:=fun r=>(Value.slice av vars.length cv).ownBlock=some r) K0);obtain⟨e1,hnc,hnm,hat⟩:=zx h;have HL:=LH e1;have HA:=LH hat;have hn30:n≤262394:=by have:=qq es;omega
 have HOK:=LH hok;have HAll:=LH hall;have HLen:=LH hlen;have HT:=LH ht;have HD:=LH hD;have IH:=LH IH0;have HV:=LH hv;have HVO:=LH hvo;have HNUM:=LH hnum;clear e1 hat hok hall ht IH0 hD hv hvo hnum;have V0:=LH (LR ds sg vars num es);by_cases hn:n=2
 case neg=>
  have V:=LH (show tyE ds sg vars (.mk 13 num es)= -1 by rw[V0.out,if_neg (fun h=>hn (by rw[←HL.out];exact h.2))]);have hz':((n:Int) !=2)=true:=by simp;omega
  clear hn;go_in;go_wp2_with fail;exact zB hQ ⟨zE V.out.symm,hv0,KT.out⟩
 subst hn;by_cases hz:num=0
 case neg=>
  have V:=LH (show tyE ds sg vars (.mk 13 num es)= -1 by rw[V0.out,if_neg (fun h=>hz h.1)]);have hz':(num !=0)=true:=by simpa using hz
  clear hz;go_in;go_wp2_with fail;exact zB hQ ⟨zE V.out.symm,hv0,KT.out⟩
 subst hz;obtain⟨b,o,rfl,hDb,_⟩:=HA.out 0 (by omega);have HDB:=LH hDb;clear hDb;have ns0:¬(Value.slice av vars.length cv).ownBlock=some w.heap.size:=fun e=>by have:=(VBL.out _ e).2;omega
 have ns1:¬(Value.slice av vars.length cv).ownBlock=some (w.heap.size+1):=fun e=>by have:=(VBL.out _ e).2;omega
 have nsb:¬(Value.slice av vars.length cv).ownBlock=some b:=fun e=>by have:=(VBL.out _ e).1;have:=HD.out _ HDB.out;omega
 have nsD:Hid (∀q,D q→¬(Value.slice av vars.length cv).ownBlock=some q):=fun q hq e=>by have:=(VBL.out _ e).1;have:=HD.out _ hq;omega
 have HE0:Hid (0<es.length):=by have:=HL.out;show _<_;omega
 have HB0:Hid (vars.length+4*nE (eAt es 0)≤1049576):=by have:=yN es HE0.out;have:=HLen.out;show _≤_;omega
 have HE1:Hid (1<es.length):=by have:=HL.out;show _<_;omega
 have HB1:Hid (vars.length+4*nE (eAt es 1)≤1049576):=by have:=yN es HE1.out;have:=HLen.out;show _≤_;omega
 obtain⟨t,hz0⟩:∃t,tyE ds sg vars (eAt es 0)=t:=⟨_,rfl⟩;have HZ0:=LH hz0;clear hz0;have V1:=LH (show tyE ds sg vars (.mk 13 0 es)=if 0≤t then tyE ds sg (vars++ [t]) (eAt es 1)else -1 by rw[V0.out,if_pos ⟨rfl,HL.out⟩,ZS _ _ _ HL.out,HZ0.out]);have TR:=LH (XU HOK.out (eAt es 0) HAll.out);by_cases ht:0≤t
 case neg=>
  have V:=LH (show tyE ds sg vars (.mk 13 0 es)= -1 by rw[V1.out,if_neg ht]);go_in;go_wp2_with fail;generalize hW:((w.alloc (.cells #[.slice a0 n0 c0,.slice a1 n1 c1] 130)).alloc (.cells #[.int .i64 13,.int .i64 0,.slice (some ⟨b,o,none⟩) 2 c] 58))=W at*;have x0:=R0.cell (i:=0) (by simp);have x1:=R0.cell (i:=1) (by simp);have y0:=R1.cell (i:=0) (by simp);have y1:=R1.cell (i:=1) (by simp);have y2:=R1.cell (i:=2) (by simp);simp at x0 x1 y0 y1 y2;have hWs:w.heap.size+2=W.heap.size:=by rw[←hW];simp
  clear hW;have qp:=hp.ext KT.out nsD.out;have qpd:=qp.k (w':=W.drew) (kD W);have hvd:=hv0.k (w':=W.drew) (kD W);have hbd:base≤W.drew.heap.size:=by show base≤W.heap.size;omega
  obtain⟨b',o',e',_,ak,nk,ck,dk0,dk1,dk2,rk⟩:=HA.out 0 (by omega);injection e' with e'
  injection e' with e' e''
  subst e' e'';obtain⟨k0,k1,k2⟩:=KT.out.e3 nsb dk0 dk1 dk2;simp only[Nat.zero_mul,Nat.add_zero]at k0 k1 k2;have qk:=rk.ext KT.out nsD.out;clear dk0 dk1 dk2 rk;have qkd:=qk.k (w':=W.drew) (kD W);have pc:Ext (fun r=>(Value.slice av vars.length cv).ownBlock=some r) W.drew W.drew:=Ext.refl _ _;go_region_held3 (fun w'=>w'.cell? ⟨w.heap.size,0,none⟩=some (.slice a0 n0 c0)∧w'.cell? ⟨w.heap.size,1,none⟩=some (.slice a1 n1 c1)∧w'.cell? ⟨w.heap.size+1,2,none⟩=some (.slice (some ⟨b,o,none⟩) 2 c)∧w'.cell? ⟨b,o,none⟩=some (.int .i64 (eAt es 0).op)∧w'.cell? ⟨b,o+1,none⟩=some (.int .i64 (eAt es 0).num)∧w'.cell? ⟨b,o+2,none⟩=some (.slice ak nk ck))
   (first|exact⟨Ext.atd pc ns0 x0,Ext.atd pc ns0 x1,Ext.atd pc ns1 y2,Ext.atd pc nsb k0,Ext.atd pc nsb k1,Ext.atd pc nsb k2⟩|exact⟨Ext.atd (Ext.trans pc (zQ.to (zQ.al _ _))) ns0 x0,Ext.atd (Ext.trans pc (zQ.to (zQ.al _ _))) ns0 x1,Ext.atd (Ext.trans pc (zQ.to (zQ.al _ _))) ns1 y2,Ext.atd (Ext.trans pc (zQ.to (zQ.al _ _))) nsb k0,Ext.atd (Ext.trans pc (zQ.to (zQ.al _ _))) nsb k1,Ext.atd (Ext.trans pc (zQ.to (zQ.al _ _))) nsb k2⟩|go_keep)
   (first
    |(go_at_call 117;refine(IH.out 0 HE0.out _ _ _ _ _ _ _ vars _ _ _ _ base D qpd hvd qkd HD.out hbd HB0.out HAll.out).mono ?_;rw[HZ0.out];rintro e w2 ⟨rfl,hv2,x2⟩;replace pc:=Ext.trans pc x2))
  have PW:=LH (Ext.dt pc);have KE:=LH (KT.out.trans PW.out);have HV2:=LH hv2;clear pc x2 hv2 qk qkd qpd hvd k0 k1 k2;go_wp2_with fail;exact zB hQ ⟨zE V.out.symm,HV2.out,KE.out⟩
 obtain⟨u,hz1⟩:∃u,tyE ds sg (vars++ [t]) (eAt es 1)=u:=⟨_,rfl⟩;have HZ1:=LH hz1;clear hz1;have V:=LH (show tyE ds sg vars (.mk 13 0 es)=u by rw[V1.out,if_pos ht,HZ1.out]);have HT1:Hid (isT ds.length t=true):=by
  rcases TR.out with h|h
  ·rw[HZ0.out]at h;omega
  ·rw[HZ0.out]at h;exact h
 have HB1':Hid ((vars++ [t]).length+4*nE (eAt es 1)≤1049576):=by
  have h1:=Hk HL.out;have h2:=Ww (eAt es 0);have:=HLen.out;show _≤_;rw[List.length_append,List.length_singleton];omega
 go_in;go_wp2_with fail;generalize hW:((w.alloc (.cells #[.slice a0 n0 c0,.slice a1 n1 c1] 130)).alloc (.cells #[.int .i64 13,.int .i64 0,.slice (some ⟨b,o,none⟩) 2 c] 58))=W at*;have x0:=R0.cell (i:=0) (by simp);have x1:=R0.cell (i:=1) (by simp);have y0:=R1.cell (i:=0) (by simp);have y1:=R1.cell (i:=1) (by simp);have y2:=R1.cell (i:=2) (by simp);simp at x0 x1 y0 y1 y2;have hWs:w.heap.size+2=W.heap.size:=by rw[←hW];simp
 clear hW;have qp:=hp.ext KT.out nsD.out;have qpd:=qp.k (w':=W.drew) (kD W);have hvd:=hv0.k (w':=W.drew) (kD W);have hbd:base≤W.drew.heap.size:=by show base≤W.heap.size;omega
 obtain⟨b',o',e',_,ak,nk,ck,dk0,dk1,dk2,rk⟩:=HA.out 0 (by omega);injection e' with e'
 injection e' with e' e''
 subst e' e'';obtain⟨k0,k1,k2⟩:=KT.out.e3 nsb dk0 dk1 dk2;simp only[Nat.zero_mul,Nat.add_zero]at k0 k1 k2;have qk:=rk.ext KT.out nsD.out;clear dk0 dk1 dk2 rk;have qkd:=qk.k (w':=W.drew) (kD W);have pc:Ext (fun r=>(Value.slice av vars.length cv).ownBlock=some r) W.drew W.drew:=Ext.refl _ _;go_region_held3 (fun w'=>w'.cell? ⟨w.heap.size,0,none⟩=some (.slice a0 n0 c0)∧w'.cell? ⟨w.heap.size,1,none⟩=some (.slice a1 n1 c1)∧w'.cell? ⟨w.heap.size+1,2,none⟩=some (.slice (some ⟨b,o,none⟩) 2 c)∧w'.cell? ⟨b,o,none⟩=some (.int .i64 (eAt es 0).op)∧w'.cell? ⟨b,o+1,none⟩=some (.int .i64 (eAt es 0).num)∧w'.cell? ⟨b,o+2,none⟩=some (.slice ak nk ck))
  (first|exact⟨Ext.atd pc ns0 x0,Ext.atd pc ns0 x1,Ext.atd pc ns1 y2,Ext.atd pc nsb k0,Ext.atd pc nsb k1,Ext.atd pc nsb k2⟩|exact⟨Ext.atd (Ext.trans pc (zQ.to (zQ.al _ _))) ns0 x0,Ext.atd (Ext.trans pc (zQ.to (zQ.al _ _))) ns0 x1,Ext.atd (Ext.trans pc (zQ.to (zQ.al _ _))) ns1 y2,Ext.atd (Ext.trans pc (zQ.to (zQ.al _ _))) nsb k0,Ext.atd (Ext.trans pc (zQ.to (zQ.al _ _))) nsb k1,Ext.atd (Ext.trans pc (zQ.to (zQ.al _ _))) nsb k2⟩|go_keep)
  (first
   |(go_at_call 117;refine(IH.out 0 HE0.out _ _ _ _ _ _ _ vars _ _ _ _ base D qpd hvd qkd HD.out hbd HB0.out HAll.out).mono ?_;rw[HZ0.out];rintro e w2 ⟨rfl,hv2,x2⟩;replace pc:=Ext.trans pc x2))
 have PW:=LH (Ext.dt pc);have KE:=LH (KT.out.trans PW.out);have HV2:=LH hv2;clear pc x2 hv2 qk qkd qpd hvd k0 k1 k2;obtain⟨x0',x1'⟩:=PW.out.e2 ns0 x0 x1;have y2':=PW.out.cq y2 ns1;clear x0 x1 y0 y1 y2;have qpd2:=(qp.ext PW.out nsD.out).k (w':=w2.drew) (kD w2);have hvd2:=HV2.out.k (w':=w2.drew) (kD w2);have hbd2:base≤w2.drew.heap.size:=by have:=PW.out.size;show base≤w2.heap.size;omega
 have hb2:base≤w2.heap.size:=hbd2;obtain⟨b',o',e',_,ak,nk,ck,dk0,dk1,dk2,rk⟩:=HA.out 1 (by omega);injection e' with e'
 injection e' with e' e''
 subst e' e'';obtain⟨k0,k1,k2⟩:=KE.out.e3 nsb dk0 dk1 dk2;simp only[Nat.one_mul]at k0 k1 k2;have qk2:=rk.ext KE.out nsD.out;clear dk0 dk1 dk2 rk;have qkd2:=qk2.k (w':=w2.drew) (kD w2);go_wp2_with fail;have pc:Ext (fun r=>(Value.slice av vars.length cv).ownBlock=some r) w2.drew w2.drew:=Ext.refl _ _;go_region_held3 (fun w'=>w'.cell? ⟨w.heap.size,0,none⟩=some (.slice a0 n0 c0)∧w'.cell? ⟨w.heap.size,1,none⟩=some (.slice a1 n1 c1)∧w'.cell? ⟨w.heap.size+1,2,none⟩=some (.slice (some ⟨b,o,none⟩) 2 c)∧w'.cell? ⟨b,o+3,none⟩=some (.int .i64 (eAt es 1).op)∧w'.cell? ⟨b,o+3+1,none⟩=some (.int .i64 (eAt es 1).num)∧w'.cell? ⟨b,o+3+2,none⟩=some (.slice ak nk ck))
  (first|exact⟨Ext.atd pc ns0 x0',Ext.atd pc ns0 x1',Ext.atd pc ns1 y2',Ext.atd pc nsb k0,Ext.atd pc nsb k1,Ext.atd pc nsb k2⟩|exact⟨Ext.atd (Ext.trans pc (zQ.to (zQ.al _ _))) ns0 x0',Ext.atd (Ext.trans pc (zQ.to (zQ.al _ _))) ns0 x1',Ext.atd (Ext.trans pc (zQ.to (zQ.al _ _))) ns1 y2',Ext.atd (Ext.trans pc (zQ.to (zQ.al _ _))) nsb k0,Ext.atd (Ext.trans pc (zQ.to (zQ.al _ _))) nsb k1,Ext.atd (Ext.trans pc (zQ.to (zQ.al _ _))) nsb k2⟩|go_keep)
  (first
   |(refine gP (by rfl) (.tmp 63) (.tmp 65) (by rfl) base (.slice av vars.length cv) vars (by rfl) (hvd2.k (zQ.al _ _)) w2.heap.size 1 t (by rfl) (xQ (w:=w2.drew) (Ext.refl _ _) 0) (by omega) (by simp;omega) ?_;intro v3 w3 hA;have HAA:=LH hA;have pl:=zQ.to (S:=fun r=>(Value.slice av vars.length cv).ownBlock=some r) (zQ.al w2.drew (.cells #[.int .i64 t] 3));have PL:=LH (Ext.trans pc pl);replace pc:=Ext.trans (Ext.trans pc pl) hA.ext;have hr3:=hA.row;clear hA pl)
   |(go_at_call 117;refine(IH.out 1 HE1.out _ _ _ _ _ _ v3 (vars++ [t]) _ _ _ _ base D (qpd2.ext pc nsD.out) hr3 (qkd2.ext pc nsD.out) HD.out (Nat.le_trans hbd2 pc.size) HB1'.out (jS HAll.out (UW HT1.out))).mono ?_;rw[HZ1.out];rintro e w4 ⟨rfl,hv4,x4⟩;have HBK:=LH (HAA.out.back w4 x4 hv4);replace pc:=Ext.trans PL.out (HAA.out.grow x4);clear x4 hv4 hr3))
 have KF:=LH (KE.out.trans (Ext.dt pc));go_wp2_with fail;exact zB hQ ⟨zE V.out.symm,HBK.out,KF.out⟩
end
theorem Rd.tailE{w:World}{D:Nat→Prop}{es:List zK}{b o n c:Nat}(h:Rd w D (zJ es) (.slice (some ⟨b,o,none⟩) (n+2) c)):Rd w D (zJ es.tail) (.slice (some ⟨b,o+3,none⟩) (n+1) (c-1)):=by
 obtain⟨e1,_⟩:=zx h;match es,e1 with
 |e::es',e1=>
  have hl:(yF es').length=n+1:=by rw[QF];simpa using e1
  have hl2:n+2=(yF (e::es')).length:=by rw[yF,List.length_cons,hl]
  rw[hl2]at h;cases h with
  |arr s rows b o c vs hD h0 hs0 hc hm hs hcell hr=>
   have q:=Rd.arr (w:=w) (D:=D) 3 (yF es') b (o+3) (c-1) (fun i j=>vs (i+1) j) hD (by omega) (by omega) (by omega) (by omega)
    (fun i hi=>by have:=hs (i+1) (by simp[yF];omega);simpa [qC,yF]using this)
    (fun i j hi hj=>by have:=hcell (i+1) j (by simp[yF];omega) hj;rw[show o+3+i*3+j=o+(i+1)*3+j by omega];exact this)
    (fun i j hi hj=>by have:=hr (i+1) j (by simp[yF];omega) hj;simpa [rAt,qC,yF]using this)
   rw[hl]at q;exact q
theorem W8{es:List zK}{j:Nat}:eAt es.tail j=eAt es (j+1):=by cases es<;>simp[eAt]
theorem WB(es:List zK):nEs es.tail≤nEs es:=by cases es<;>simp[nEs]
theorem VU(ds:List zG)(sg:List yJ)(vars:List Int)(es:List zK)(fs:List (List Int)):kE ds sg vars es fs=xN ds sg vars es.tail fs:=by cases es<;>simp[kE,xN]
section
variable (ds:List zG)(sg:List yJ)(hok:qJ ds sg=true)
include hok
theorem LL(num:Int)(hnum:Q5 7 num)(es:List zK)(IH0:∀j,j<es.length→TyI ds sg (eAt es j)):TyI ds sg (.mk 7 num es):=by
 intro a0 n0 c0 a1 n1 c1 v vars a n c w base D hp hv h hD hb hlen hall;refine zV fun Q hQ=>?_;change Rd w D (zJ es) _ at h;rw[nE]at hlen;simp only[zK.op,zK.num];obtain⟨av,cv,rfl,hvc,hvo⟩:=hv.slice;have VBL:=LH hv.lt;have ht:=(zL hok).1;have hf:=Few.of_ok ht;have hn0:n0≤4:=by have:=(zT hp.1).1;have:=z9 ht;omega
 have hvl:vars.length≤1049576:=by omega
 have K0:=(zQ.al w (.cells #[.slice a0 n0 c0,.slice a1 n1 c1] 130)).trans (zQ.al _ (.cells #[.int .i64 7,.int .i64 num,.slice a n c] 58));have R0:=(zP w #[.slice a0 n0 c0,.slice a1 n1 c1] 130).alloc (.cells #[.int .i64 7,.int .i64 num,.slice a n c] 58);have R1:=zP (w.alloc (.cells #[.slice a0 n0 c0,.slice a1 n1 c1] 130)) #[.int .i64 7,.int .i64 num,.slice a n c] 58;simp only[World.size_alloc]at R1;have hv0:=hv.k K0;have KT:=LH (zQ.to (S:=fun r=>(Value.slice av vars.length cv).ownBlock=some r) K0);obtain⟨e1,hnc,hnm,hat⟩:=zx h;have HL:=LH e1;have HA:=LH hat;have hn30:n≤262394:=by have:=qq es;omega
 have HOK:=LH hok;have HAll:=LH hall;have HLen:=LH hlen;have HT:=LH ht;have HD:=LH hD;have IH:=LH IH0;have HV:=LH hv;have HVO:=LH hvo;have HNUM:=LH hnum;clear e1 hat hok hall ht IH0 hD hv hvo hnum;have V0:=LH (NB ds sg vars num es);by_cases hn:n=3
 case neg=>
  have V:=LH (show tyE ds sg vars (.mk 7 num es)= -1 by rw[V0.out,if_neg (fun h=>hn (by rw[←HL.out];exact h.2.1))]);have hz':((n:Int) !=3)=true:=by simp;omega
  clear hn;go_in;go_wp2_with fail;go_quiet (fail);go_wp2_with fail;exact zB hQ ⟨zE V.out.symm,hv0.k (by first|exact(Ext.refl _ _).drewN _|exact(Ext.refl _ _).drew),by first|exact KT.out.drewN _|exact KT.out.drew⟩
 subst hn;by_cases hz:num=0
 case neg=>
  have V:=LH (show tyE ds sg vars (.mk 7 num es)= -1 by rw[V0.out,if_neg (fun h=>hz h.1)]);have hz':(num !=0)=true:=by simpa using hz
  clear hz;go_in;go_wp2_with fail;go_quiet (fail);go_wp2_with fail;exact zB hQ ⟨zE V.out.symm,hv0.k (by first|exact(Ext.refl _ _).drewN _|exact(Ext.refl _ _).drew),by first|exact KT.out.drewN _|exact KT.out.drew⟩
 subst hz;obtain⟨b,o,rfl,hDb,_⟩:=HA.out 0 (by omega);have HDB:=LH hDb;clear hDb;have ns0:¬(Value.slice av vars.length cv).ownBlock=some w.heap.size:=fun e=>by have:=(VBL.out _ e).2;omega
 have ns1:¬(Value.slice av vars.length cv).ownBlock=some (w.heap.size+1):=fun e=>by have:=(VBL.out _ e).2;omega
 have nsb:¬(Value.slice av vars.length cv).ownBlock=some b:=fun e=>by have:=(VBL.out _ e).1;have:=HD.out _ HDB.out;omega
 have nsD:Hid (∀q,D q→¬(Value.slice av vars.length cv).ownBlock=some q):=fun q hq e=>by have:=(VBL.out _ e).1;have:=HD.out _ hq;omega
 have HE0:Hid (0<es.length):=by have:=HL.out;show _<_;omega
 have HB0:Hid (vars.length+4*nE (eAt es 0)≤1049576):=by have:=yN es HE0.out;have:=HLen.out;show _≤_;omega
 have HE1:Hid (1<es.length):=by have:=HL.out;show _<_;omega
 have HB1:Hid (vars.length+4*nE (eAt es 1)≤1049576):=by have:=yN es HE1.out;have:=HLen.out;show _≤_;omega
 have HE2:Hid (2<es.length):=by have:=HL.out;show _<_;omega
 have HB2:Hid (vars.length+4*nE (eAt es 2)≤1049576):=by have:=yN es HE2.out;have:=HLen.out;show _≤_;omega
 obtain⟨t,hz0⟩:∃t,tyE ds sg vars (eAt es 0)=t:=⟨_,rfl⟩;have HZ0:=LH hz0;clear hz0;have V1:Hid (tyE ds sg vars (.mk 7 0 es)=if t=0 then gk (xN ds sg vars es.tail [[], []])else -1):=by
  show _=_;rw[V0.out,kJ _ _ _ HE0.out,HZ0.out,VU];by_cases h:t=0
  ·rw[if_pos ⟨rfl,HL.out,h⟩,if_pos h]
  ·rw[if_neg (fun h'=>h h'.2.2),if_neg h]
 by_cases ht:t=0
 case neg=>
  have V:=LH (show tyE ds sg vars (.mk 7 0 es)= -1 by rw[V1.out,if_neg ht]);have ht':(t !=0)=true:=by simpa using ht
  clear ht;go_in;go_wp2_with fail;generalize hW:((w.alloc (.cells #[.slice a0 n0 c0,.slice a1 n1 c1] 130)).alloc (.cells #[.int .i64 7,.int .i64 0,.slice (some ⟨b,o,none⟩) 3 c] 58))=W at*;have x0:=R0.cell (i:=0) (by simp);have x1:=R0.cell (i:=1) (by simp);have y0:=R1.cell (i:=0) (by simp);have y1:=R1.cell (i:=1) (by simp);have y2:=R1.cell (i:=2) (by simp);simp at x0 x1 y0 y1 y2;have hWs:w.heap.size+2=W.heap.size:=by rw[←hW];simp
  clear hW;have qp:=hp.ext KT.out nsD.out;have qpd:=qp.k (w':=W.drew) (kD W);have hvd:=hv0.k (w':=W.drew) (kD W);have hbd:base≤W.drew.heap.size:=by show base≤W.heap.size;omega
  obtain⟨b',o',e',_,ak,nk,ck,dk0,dk1,dk2,rk⟩:=HA.out 0 (by omega);injection e' with e'
  injection e' with e' e''
  subst e' e'';obtain⟨k0,k1,k2⟩:=KT.out.e3 nsb dk0 dk1 dk2;simp only[Nat.zero_mul,Nat.add_zero]at k0 k1 k2;have qk:=rk.ext KT.out nsD.out;clear dk0 dk1 dk2 rk;have qkd:=qk.k (w':=W.drew) (kD W);have pc:Ext (fun r=>(Value.slice av vars.length cv).ownBlock=some r) W.drew W.drew:=Ext.refl _ _;go_region_held3 (fun w'=>w'.cell? ⟨w.heap.size,0,none⟩=some (.slice a0 n0 c0)∧w'.cell? ⟨w.heap.size,1,none⟩=some (.slice a1 n1 c1)∧w'.cell? ⟨w.heap.size+1,1,none⟩=some (.int .i64 0)∧w'.cell? ⟨w.heap.size+1,2,none⟩=some (.slice (some ⟨b,o,none⟩) 3 c)∧w'.cell? ⟨b,o,none⟩=some (.int .i64 (eAt es 0).op)∧w'.cell? ⟨b,o+1,none⟩=some (.int .i64 (eAt es 0).num)∧w'.cell? ⟨b,o+2,none⟩=some (.slice ak nk ck))
   (first|exact⟨Ext.atd pc ns0 x0,Ext.atd pc ns0 x1,Ext.atd pc ns1 y1,Ext.atd pc ns1 y2,Ext.atd pc nsb k0,Ext.atd pc nsb k1,Ext.atd pc nsb k2⟩|exact⟨Ext.atd (Ext.trans pc (zQ.to (zQ.al _ _))) ns0 x0,Ext.atd (Ext.trans pc (zQ.to (zQ.al _ _))) ns0 x1,Ext.atd (Ext.trans pc (zQ.to (zQ.al _ _))) ns1 y1,Ext.atd (Ext.trans pc (zQ.to (zQ.al _ _))) ns1 y2,Ext.atd (Ext.trans pc (zQ.to (zQ.al _ _))) nsb k0,Ext.atd (Ext.trans pc (zQ.to (zQ.al _ _))) nsb k1,Ext.atd (Ext.trans pc (zQ.to (zQ.al _ _))) nsb k2⟩|go_keep)
   (first
    |(go_at_call 117;refine(IH.out 0 HE0.out _ _ _ _ _ _ _ vars _ _ _ _ base D qpd hvd qkd HD.out hbd HB0.out HAll.out).mono ?_;rw[HZ0.out];rintro e w2 ⟨rfl,hv2,x2⟩;replace pc:=Ext.trans pc x2))
  have PW:=LH (Ext.dt pc);have KE:=LH (KT.out.trans PW.out);have HV2:=LH hv2;clear pc x2 hv2 qk qkd qpd hvd k0 k1 k2;go_wp2_with fail;exact zB hQ ⟨zE V.out.symm,HV2.out,KE.out⟩
 subst ht;obtain⟨u,hu⟩:∃u,gk (xN ds sg vars es.tail [[], []])=u:=⟨_,rfl⟩;have HU:=LH hu;have V:=LH (show tyE ds sg vars (.mk 7 0 es)=u by rw[V1.out,if_pos rfl,hu]);clear hu;have hc1:¬c=1:=by omega
 have hc1':¬1=c:=by omega
 go_in;go_wp2_with fail;generalize hW:((w.alloc (.cells #[.slice a0 n0 c0,.slice a1 n1 c1] 130)).alloc (.cells #[.int .i64 7,.int .i64 0,.slice (some ⟨b,o,none⟩) 3 c] 58))=W at*;have x0:=R0.cell (i:=0) (by simp);have x1:=R0.cell (i:=1) (by simp);have y0:=R1.cell (i:=0) (by simp);have y1:=R1.cell (i:=1) (by simp);have y2:=R1.cell (i:=2) (by simp);simp at x0 x1 y0 y1 y2;have hWs:w.heap.size+2=W.heap.size:=by rw[←hW];simp
 clear hW;have qp:=hp.ext KT.out nsD.out;have qpd:=qp.k (w':=W.drew) (kD W);have hvd:=hv0.k (w':=W.drew) (kD W);have hbd:base≤W.drew.heap.size:=by show base≤W.heap.size;omega
 obtain⟨b',o',e',_,ak,nk,ck,dk0,dk1,dk2,rk⟩:=HA.out 0 (by omega);injection e' with e'
 injection e' with e' e''
 subst e' e'';obtain⟨k0,k1,k2⟩:=KT.out.e3 nsb dk0 dk1 dk2;simp only[Nat.zero_mul,Nat.add_zero]at k0 k1 k2;have qk:=rk.ext KT.out nsD.out;clear dk0 dk1 dk2 rk;have qkd:=qk.k (w':=W.drew) (kD W);have pc:Ext (fun r=>(Value.slice av vars.length cv).ownBlock=some r) W.drew W.drew:=Ext.refl _ _;go_region_held3 (fun w'=>w'.cell? ⟨w.heap.size,0,none⟩=some (.slice a0 n0 c0)∧w'.cell? ⟨w.heap.size,1,none⟩=some (.slice a1 n1 c1)∧w'.cell? ⟨w.heap.size+1,1,none⟩=some (.int .i64 0)∧w'.cell? ⟨w.heap.size+1,2,none⟩=some (.slice (some ⟨b,o,none⟩) 3 c)∧w'.cell? ⟨b,o,none⟩=some (.int .i64 (eAt es 0).op)∧w'.cell? ⟨b,o+1,none⟩=some (.int .i64 (eAt es 0).num)∧w'.cell? ⟨b,o+2,none⟩=some (.slice ak nk ck))
  (first|exact⟨Ext.atd pc ns0 x0,Ext.atd pc ns0 x1,Ext.atd pc ns1 y1,Ext.atd pc ns1 y2,Ext.atd pc nsb k0,Ext.atd pc nsb k1,Ext.atd pc nsb k2⟩|exact⟨Ext.atd (Ext.trans pc (zQ.to (zQ.al _ _))) ns0 x0,Ext.atd (Ext.trans pc (zQ.to (zQ.al _ _))) ns0 x1,Ext.atd (Ext.trans pc (zQ.to (zQ.al _ _))) ns1 y1,Ext.atd (Ext.trans pc (zQ.to (zQ.al _ _))) ns1 y2,Ext.atd (Ext.trans pc (zQ.to (zQ.al _ _))) nsb k0,Ext.atd (Ext.trans pc (zQ.to (zQ.al _ _))) nsb k1,Ext.atd (Ext.trans pc (zQ.to (zQ.al _ _))) nsb k2⟩|go_keep)
  (first
   |(go_at_call 117;refine(IH.out 0 HE0.out _ _ _ _ _ _ _ vars _ _ _ _ base D qpd hvd qkd HD.out hbd HB0.out HAll.out).mono ?_;rw[HZ0.out];rintro e w2 ⟨rfl,hv2,x2⟩;replace pc:=Ext.trans pc x2))
 have PW:=LH (Ext.dt pc);have KE:=LH (KT.out.trans PW.out);have HV2:=LH hv2;clear pc x2 hv2 qk qkd qpd hvd k0 k1 k2;obtain⟨x0',x1'⟩:=PW.out.e2 ns0 x0 x1;have y2':=PW.out.cq y2 ns1;clear x0 x1 y0 y1 y2;have qpd2:=(qp.ext PW.out nsD.out).k (w':=w2.drew) (kD w2);have hvd2:=HV2.out.k (w':=w2.drew) (kD w2);have hbd2:base≤w2.drew.heap.size:=by have:=PW.out.size;show base≤w2.heap.size;omega
 have qtl:=((Rd.tailE (n:=1) h).ext KE.out nsD.out).k (w':=w2.drew) (kD w2);have qml:=(ZE w2.drew 0 52 [[], []] [.slice none 0 0,.slice none 0 0] 2 (Nat.zero_le _) ⟨_,_,rfl,.nil 1 none 0,_,_,rfl,.nil 1 none 0,rfl⟩ rfl (by omega)).t;have HTL:∀j,j<es.tail.length→TyI ds sg (eAt es.tail j):=fun j hj=>by rw[W8];exact IH.out (j+1) (by simp at hj;omega)
 have hlt:vars.length+4+4*nEs es.tail≤1049576:=by have:=WB es;have:=HLen.out;omega
 have hfl2:([[], []]:List (List Int)).length=es.tail.length:=by have:=HL.out;simp;omega
 have pcx:zQ w2.drew w2.drew:=Ext.refl _ _;have hmk:∀w:World,(Instr.makeSlice 205 (.int .i64 2) (.int .i64 2)).run Tryz.prog w=.ok (.slice (some ⟨w.heap.size,0,none⟩) 2 2) (w.alloc (.cells #[.slice none 0 0,.slice none 0 0] 52)):=fun _=>by kernel_rfl
 go_wp2_with fail;go_region_held3 (fun w'=>w'.cell? ⟨w.heap.size,0,none⟩=some (.slice a0 n0 c0)∧w'.cell? ⟨w.heap.size,1,none⟩=some (.slice a1 n1 c1)∧w'.cell? ⟨w.heap.size+1,2,none⟩=some (.slice (some ⟨b,o,none⟩) 3 c))
  (first|exact⟨zQ.at pcx x0',zQ.at pcx x1',zQ.at pcx y2'⟩|exact⟨zQ.at (Ext.trans pcx (zQ.al _ _)) x0',zQ.at (Ext.trans pcx (zQ.al _ _)) x1',zQ.at (Ext.trans pcx (zQ.al _ _)) y2'⟩|go_keep)
  ((go_at_call 161;have pl:=zQ.al w2.drew (.cells #[.slice none 0 0,.slice none 0 0] 52);replace pcx:=Ext.trans pcx pl;refine(JR ds sg es.tail HTL _ _ _ _ _ _ _ _ _ vars _ _ _ _ _ _ [[], []] _ base D (qpd2.k pcx) (hvd2.k pcx) (qtl.k pcx) HD.out (Nat.le_trans hbd2 pcx.size) qml hfl2 hlt HAll.out (fun i hi=>by
    have hi2:i<2:=by simpa using hi
    rcases(show i=0∨i=1 by omega)with h|h<;>(rw[h];exact⟨by simp[cAt],rfl⟩))).mono ?_;rw[HU.out];rintro e w3 ⟨rfl,p3⟩;replace pcx:=Ext.trans pcx p3))
 have KF:=LH (KE.out.trans (zQ.to (S:=fun r=>(Value.slice av vars.length cv).ownBlock=some r) (zQ.dt pcx)));have HV3:=LH (HV2.out.k (zQ.dt pcx));go_wp2_with fail;exact zB hQ ⟨zE V.out.symm,HV3.out,KF.out⟩
end
theorem WW{ds:List zG}(hf:Few ds)(t:Int){i:Nat}(h:i<(zv ds t).length):0≤iAt (zv ds t) i∧iAt (zv ds t) i≤1049576:=by
 rw[gz h];have hm:=List.getElem_mem h;generalize (zv ds t)[i]=z at hm;unfold zv at hm;split at hm
 ·next hr=>
  obtain⟨k,hk,rfl⟩:=List.mem_map.1 hm;have h1:=List.mem_range.1 hk;have h2:=hf.2 (t.toNat-1) (by omega);have h3:=xz hf (k:=t.toNat-1) (by omega);have h4:=hf.1;omega
 ·simp at hm
theorem Rd.tailN{w:World}{D:Nat→Prop}{es:List zK}{b o n c:Nat}(hn:2≤n)(h:Rd w D (zJ es) (.slice (some ⟨b,o,none⟩) n c)):Rd w D (zJ es.tail) (.slice (some ⟨b,o+3,none⟩) (n-1) (c-1)):=by
 obtain⟨k,rfl⟩:∃k,n=k+2:=⟨n-2,by omega⟩;exact Rd.tailE h
theorem Rd.consI{w:World}{b m:Nat}{xs:List (List Int)}(f:Nat→Value)(hcell:∀i,i<m→w.cell? ⟨b,i,none⟩=some (f i))(hr:∀i,i<m→Rd w (fun _=>True) (zY (cAt xs i)) (f i))(h0:0<m)(hlen:xs.length=m)(hm:m≤1049576):
  Rd w (fun _=>True) (qV xs) (.slice (some ⟨b,0,none⟩) m m):=by
 subst hlen;have q:=Rd.arr (w:=w) (D:=fun _=>True) 1 (xs.map xX) b 0 xs.length (fun i _=>f i) trivial (by simpa using h0) (by omega) (by simp) (by simp;omega)
  (fun i hi=>by rw[vS xs i (by simpa using hi)];rfl)
  (fun i j hi hj=>by
   obtain rfl:j=0:=by omega
   rw[Nat.mul_one,Nat.add_zero,Nat.zero_add];exact hcell i (by simpa using hi))
  (fun i j hi hj=>by
   obtain rfl:j=0:=by omega
   rw[rAt,vS xs i (by simpa using hi)];exact hr i (by simpa using hi))
 rw[YH]at q;exact q
section
variable (ds:List zG)(sg:List yJ)(hok:qJ ds sg=true)
include hok
theorem LC(num:Int)(hnum:Q5 8 num)(es:List zK)(IH0:∀j,j<es.length→TyI ds sg (eAt es j)):TyI ds sg (.mk 8 num es):=by
 intro a0 n0 c0 a1 n1 c1 v vars a n c w base D hp hv h hD hb hlen hall;refine zV fun Q hQ=>?_;change Rd w D (zJ es) _ at h;rw[nE]at hlen;simp only[zK.op,zK.num];obtain⟨av,cv,rfl,hvc,hvo⟩:=hv.slice;have VBL:=LH hv.lt;have ht:=(zL hok).1;have hf:=Few.of_ok ht;have hn0:n0≤4:=by have:=(zT hp.1).1;have:=z9 ht;omega
 have hvl:vars.length≤1049576:=by omega
 have K0:=(zQ.al w (.cells #[.slice a0 n0 c0,.slice a1 n1 c1] 130)).trans (zQ.al _ (.cells #[.int .i64 8,.int .i64 num,.slice a n c] 58));have R0:=(zP w #[.slice a0 n0 c0,.slice a1 n1 c1] 130).alloc (.cells #[.int .i64 8,.int .i64 num,.slice a n c] 58);have R1:=zP (w.alloc (.cells #[.slice a0 n0 c0,.slice a1 n1 c1] 130)) #[.int .i64 8,.int .i64 num,.slice a n c] 58;simp only[World.size_alloc]at R1;have hv0:=hv.k K0;have KT:=LH (zQ.to (S:=fun r=>(Value.slice av vars.length cv).ownBlock=some r) K0);obtain⟨e1,hnc,hnm,hat⟩:=zx h;have HL:=LH e1;have HA:=LH hat;have hn30:n≤262394:=by have:=qq es;omega
 have HOK:=LH hok;have HAll:=LH hall;have HLen:=LH hlen;have HT:=LH ht;have HD:=LH hD;have IH:=LH IH0;have HV:=LH hv;have HVO:=LH hvo;have HNUM:=LH hnum;clear e1 hat hok hall ht IH0 hD hv hvo hnum;have HP:=LH hp;have hnc0:n0≤c0:=(zT hp.1).2.1;have HB:=LH hb;have HF:=LH hf;have hcl:=VY hf num;have HAL:=LH (kN ds num);have V0:=LH (NS ds sg vars num es);have nsD:Hid (∀q,D q→¬(Value.slice av vars.length cv).ownBlock=some q):=fun q hq e=>by have:=(VBL.out _ e).1;have:=HD.out _ hq;omega
 clear hp hb hf;rcases Nat.eq_zero_or_pos (zv ds num).length with hm0|hm0
 ·have V:=LH (show tyE ds sg vars (.mk 8 num es)= -1 by rw[V0.out,uG,if_neg (by rw[HAL.out];omega)])
  go_in;go_wp2_with fail;refine(uS _ _ _ ds _ _ _ (Rd.toDecls (HP.out.1.k K0)) hnc0 HF.out).mono ?_;rintro e w1 ⟨ac,m,cc,rfl,hmc,oc,p1⟩;have OC:=LH oc;have hml:m=(zv ds num).length:=oc.1.symm;have HM:=LH hml;have hm3:m≤3:=by omega
  have KT1:=LH (KT.out.trans (zQ.to (S:=fun r=>(Value.slice av vars.length cv).ownBlock=some r) p1));have R0':=LH (rwk R0 p1);have R1':=LH (rwk R1 p1);have hv1:=hv0.k p1;have HV1:=LH hv1;have hw1s:w.heap.size+2≤w1.heap.size:=by have:=p1.size;simpa using this
  have HW1:=LH hw1s;have x0:=R0'.out.cell (i:=0) (by simp);have x1:=R0'.out.cell (i:=1) (by simp);have y0:=R1'.out.cell (i:=0) (by simp);have y1:=R1'.out.cell (i:=1) (by simp);have y2:=R1'.out.cell (i:=2) (by simp);simp at x0 x1 y0 y1 y2;clear oc hml p1 R0 R1 K0 hv0 hcl hw1s;have hmz:m=0:=by have:=HM.out;omega
  subst hmz;go_wp2_with fail;go_quiet (fail);go_wp2_with fail;exact zB hQ ⟨zE V.out.symm,hv1.k (by first|exact(Ext.refl _ _).drewN _|exact(Ext.refl _ _).drew),by first|exact KT1.out.drewN _|exact KT1.out.drew⟩
 by_cases hn:n=1+(zv ds num).length
 case neg=>
  have V:=LH (show tyE ds sg vars (.mk 8 num es)= -1 by rw[V0.out,uG,if_neg (by rw[HAL.out];have:=HL.out;omega)]);go_in;go_wp2_with fail;refine(uS _ _ _ ds _ _ _ (Rd.toDecls (HP.out.1.k K0)) hnc0 HF.out).mono ?_;rintro e w1 ⟨ac,m,cc,rfl,hmc,oc,p1⟩;have OC:=LH oc;have hml:m=(zv ds num).length:=oc.1.symm;have HM:=LH hml;have hm3:m≤3:=by omega
  have KT1:=LH (KT.out.trans (zQ.to (S:=fun r=>(Value.slice av vars.length cv).ownBlock=some r) p1));have R0':=LH (rwk R0 p1);have R1':=LH (rwk R1 p1);have hv1:=hv0.k p1;have HV1:=LH hv1;have hw1s:w.heap.size+2≤w1.heap.size:=by have:=p1.size;simpa using this
  have HW1:=LH hw1s;have x0:=R0'.out.cell (i:=0) (by simp);have x1:=R0'.out.cell (i:=1) (by simp);have y0:=R1'.out.cell (i:=0) (by simp);have y1:=R1'.out.cell (i:=1) (by simp);have y2:=R1'.out.cell (i:=2) (by simp);simp at x0 x1 y0 y1 y2;clear oc hml p1 R0 R1 K0 hv0 hcl hw1s;have hmz:((m:Int)==0)=false:=by have:=HM.out;simp;omega
  have hmz2:((n:Int) !=1+(m:Int))=true:=by have:=HM.out;simp;omega
  have hmw:IntKind.i64.wrap (1+(m:Int))=1+(m:Int):=by rw[IntWalk.i64_in _ (by omega)]
  go_wp2_with fail;go_quiet (fail);go_wp2_with fail;exact zB hQ ⟨zE V.out.symm,hv1.k (by first|exact(Ext.refl _ _).drewN _|exact(Ext.refl _ _).drew),by first|exact KT1.out.drewN _|exact KT1.out.drew⟩
 have hnA:n≤1+(zv ds num).length:=by omega
 have hnB:1+(zv ds num).length≤n:=by omega
 clear hn;obtain⟨b,o,rfl,hDb,_⟩:=HA.out 0 (by omega);have HDB:=LH hDb;clear hDb;have ns0:¬(Value.slice av vars.length cv).ownBlock=some w.heap.size:=fun e=>by have:=(VBL.out _ e).2;omega
 have ns1:¬(Value.slice av vars.length cv).ownBlock=some (w.heap.size+1):=fun e=>by have:=(VBL.out _ e).2;omega
 have nsb:¬(Value.slice av vars.length cv).ownBlock=some b:=fun e=>by have:=(VBL.out _ e).1;have:=HD.out _ HDB.out;omega
 have _nsD:Hid (∀q,D q→¬(Value.slice av vars.length cv).ownBlock=some q):=fun q hq e=>by have:=(VBL.out _ e).1;have:=HD.out _ hq;omega
 have HE0:Hid (0<es.length):=by have:=HL.out;show _<_;omega
 have HB0:Hid (vars.length+4*nE (eAt es 0)≤1049576):=by have:=yN es HE0.out;have:=HLen.out;show _≤_;omega
 obtain⟨z,hz⟩:∃z,tyE ds sg vars (eAt es 0)=z:=⟨_,rfl⟩;have HZ0:=LH hz;have HZH:=LH ((kJ ds sg vars HE0.out).trans hz);clear hz;by_cases hzn:z=num
 case neg=>
  have V:=LH (show tyE ds sg vars (.mk 8 num es)= -1 by rw[V0.out,uG,if_neg (by rw[HZH.out];exact fun h=>hzn h.2.2)]);have hzn':(z !=num)=true:=by simpa using hzn
  clear hzn;go_in;go_wp2_with fail;refine(uS _ _ _ ds _ _ _ (Rd.toDecls (HP.out.1.k K0)) hnc0 HF.out).mono ?_;rintro e w1 ⟨ac,m,cc,rfl,hmc,oc,p1⟩;have OC:=LH oc;have hml:m=(zv ds num).length:=oc.1.symm;have HM:=LH hml;have hm3:m≤3:=by omega
  have KT1:=LH (KT.out.trans (zQ.to (S:=fun r=>(Value.slice av vars.length cv).ownBlock=some r) p1));have R0':=LH (rwk R0 p1);have R1':=LH (rwk R1 p1);have hv1:=hv0.k p1;have HV1:=LH hv1;have hw1s:w.heap.size+2≤w1.heap.size:=by have:=p1.size;simpa using this
  have HW1:=LH hw1s;have x0:=R0'.out.cell (i:=0) (by simp);have x1:=R0'.out.cell (i:=1) (by simp);have y0:=R1'.out.cell (i:=0) (by simp);have y1:=R1'.out.cell (i:=1) (by simp);have y2:=R1'.out.cell (i:=2) (by simp);simp at x0 x1 y0 y1 y2;clear oc hml p1 R0 R1 K0 hv0 hcl hw1s;have qp:=HP.out.ext KT1.out nsD.out;have qpd:=qp.k (w':=w1.drew) (kD w1);have hvd:=HV1.out.k (w':=w1.drew) (kD w1);have hbd:base≤w1.drew.heap.size:=by have:=HB.out;have:=HW1.out;show base≤w1.heap.size;omega
  have hmz:((m:Int)==0)=false:=by have:=HM.out;simp;omega
  have hmz2:((n:Int) !=1+(m:Int))=false:=by have:=HM.out;simp;omega
  have hmw:IntKind.i64.wrap (1+(m:Int))=1+(m:Int):=by rw[IntWalk.i64_in _ (by omega)]
  have hn0i:(0:Int)<(n:Int):=by omega
  have hn0':0<n:=by omega
  obtain⟨b',o',e',_,ak,nk,ck,dk0,dk1,dk2,rk⟩:=HA.out 0 (by omega);injection e' with e'
  injection e' with e' e''
  subst e' e'';obtain⟨k0,k1,k2⟩:=KT1.out.e3 nsb dk0 dk1 dk2;simp only[Nat.zero_mul,Nat.add_zero]at k0 k1 k2;have qk:=rk.ext KT1.out nsD.out;clear dk0 dk1 dk2 rk;have qkd:=qk.k (w':=w1.drew) (kD w1);go_wp2_with fail;have pc:Ext (fun r=>(Value.slice av vars.length cv).ownBlock=some r) w1.drew w1.drew:=Ext.refl _ _;go_region_held3 (fun w'=>w'.cell? ⟨w.heap.size,0,none⟩=some (.slice a0 n0 c0)∧w'.cell? ⟨w.heap.size,1,none⟩=some (.slice a1 n1 c1)∧w'.cell? ⟨w.heap.size+1,1,none⟩=some (.int .i64 num)∧w'.cell? ⟨w.heap.size+1,2,none⟩=some (.slice (some ⟨b,o,none⟩) n c)∧w'.cell? ⟨b,o,none⟩=some (.int .i64 (eAt es 0).op)∧w'.cell? ⟨b,o+1,none⟩=some (.int .i64 (eAt es 0).num)∧w'.cell? ⟨b,o+2,none⟩=some (.slice ak nk ck))
   (first|exact⟨Ext.atd pc ns0 x0,Ext.atd pc ns0 x1,Ext.atd pc ns1 y1,Ext.atd pc ns1 y2,Ext.atd pc nsb k0,Ext.atd pc nsb k1,Ext.atd pc nsb k2⟩|exact⟨Ext.atd (Ext.trans pc (zQ.to (zQ.al _ _))) ns0 x0,Ext.atd (Ext.trans pc (zQ.to (zQ.al _ _))) ns0 x1,Ext.atd (Ext.trans pc (zQ.to (zQ.al _ _))) ns1 y1,Ext.atd (Ext.trans pc (zQ.to (zQ.al _ _))) ns1 y2,Ext.atd (Ext.trans pc (zQ.to (zQ.al _ _))) nsb k0,Ext.atd (Ext.trans pc (zQ.to (zQ.al _ _))) nsb k1,Ext.atd (Ext.trans pc (zQ.to (zQ.al _ _))) nsb k2⟩|go_keep)
   (first
    |(go_at_call 117;refine(IH.out 0 HE0.out _ _ _ _ _ _ _ vars _ _ _ _ base D qpd hvd qkd HD.out hbd HB0.out HAll.out).mono ?_;rw[HZ0.out];rintro e w2 ⟨rfl,hv2,x2⟩;replace pc:=Ext.trans pc x2))
  have PW:=LH (Ext.dt pc);have KE:=LH (KT1.out.trans PW.out);have HV2:=LH hv2;clear pc x2 hv2 qk qkd qpd hvd k0 k1 k2 hmw hn0i hn0' hmz hmz2 qp hbd;go_wp2_with fail;exact zB hQ ⟨zE V.out.symm,HV2.out,KE.out⟩
 subst hzn;have hzz:(z !=z)=false:=by simp
 obtain⟨u,hu⟩:∃u,gk (xN ds sg vars es.tail (jY ds z))=u:=⟨_,rfl⟩;have HU:=LH hu;have V:=LH (show tyE ds sg vars (.mk 8 z es)=u by rw[V0.out,uG,if_pos ⟨by rw[HAL.out];exact hm0,by rw[HAL.out];have:=HL.out;omega,HZH.out⟩,VU,hu]);clear hu;go_in;go_wp2_with fail;refine(uS _ _ _ ds _ _ _ (Rd.toDecls (HP.out.1.k K0)) hnc0 HF.out).mono ?_;rintro e w1 ⟨ac,m,cc,rfl,hmc,oc,p1⟩;have OC:=LH oc;have hml:m=(zv ds z).length:=oc.1.symm;have HM:=LH hml;have hm3:m≤3:=by omega
 have KT1:=LH (KT.out.trans (zQ.to (S:=fun r=>(Value.slice av vars.length cv).ownBlock=some r) p1));have R0':=LH (rwk R0 p1);have R1':=LH (rwk R1 p1);have hv1:=hv0.k p1;have HV1:=LH hv1;have hw1s:w.heap.size+2≤w1.heap.size:=by have:=p1.size;simpa using this
 have HW1:=LH hw1s;have x0:=R0'.out.cell (i:=0) (by simp);have x1:=R0'.out.cell (i:=1) (by simp);have y0:=R1'.out.cell (i:=0) (by simp);have y1:=R1'.out.cell (i:=1) (by simp);have y2:=R1'.out.cell (i:=2) (by simp);simp at x0 x1 y0 y1 y2;clear oc hml p1 R0 R1 K0 hv0 hcl hw1s;have qp:=HP.out.ext KT1.out nsD.out;have qpd:=qp.k (w':=w1.drew) (kD w1);have hvd:=HV1.out.k (w':=w1.drew) (kD w1);have hbd:base≤w1.drew.heap.size:=by have:=HB.out;have:=HW1.out;show base≤w1.heap.size;omega
 have hmz:((m:Int)==0)=false:=by have:=HM.out;simp;omega
 have hmz2:((n:Int) !=1+(m:Int))=false:=by have:=HM.out;simp;omega
 have hmw:IntKind.i64.wrap (1+(m:Int))=1+(m:Int):=by rw[IntWalk.i64_in _ (by omega)]
 have hn0i:(0:Int)<(n:Int):=by omega
 have hn0':0<n:=by omega
 obtain⟨b',o',e',_,ak,nk,ck,dk0,dk1,dk2,rk⟩:=HA.out 0 (by omega);injection e' with e'
 injection e' with e' e''
 subst e' e'';obtain⟨k0,k1,k2⟩:=KT1.out.e3 nsb dk0 dk1 dk2;simp only[Nat.zero_mul,Nat.add_zero]at k0 k1 k2;have qk:=rk.ext KT1.out nsD.out;clear dk0 dk1 dk2 rk;have qkd:=qk.k (w':=w1.drew) (kD w1);go_wp2_with fail;have pc:Ext (fun r=>(Value.slice av vars.length cv).ownBlock=some r) w1.drew w1.drew:=Ext.refl _ _;go_region_held3 (fun w'=>w'.cell? ⟨w.heap.size,0,none⟩=some (.slice a0 n0 c0)∧w'.cell? ⟨w.heap.size,1,none⟩=some (.slice a1 n1 c1)∧w'.cell? ⟨w.heap.size+1,1,none⟩=some (.int .i64 z)∧w'.cell? ⟨w.heap.size+1,2,none⟩=some (.slice (some ⟨b,o,none⟩) n c)∧w'.cell? ⟨b,o,none⟩=some (.int .i64 (eAt es 0).op)∧w'.cell? ⟨b,o+1,none⟩=some (.int .i64 (eAt es 0).num)∧w'.cell? ⟨b,o+2,none⟩=some (.slice ak nk ck))
  (first|exact⟨Ext.atd pc ns0 x0,Ext.atd pc ns0 x1,Ext.atd pc ns1 y1,Ext.atd pc ns1 y2,Ext.atd pc nsb k0,Ext.atd pc nsb k1,Ext.atd pc nsb k2⟩|exact⟨Ext.atd (Ext.trans pc (zQ.to (zQ.al _ _))) ns0 x0,Ext.atd (Ext.trans pc (zQ.to (zQ.al _ _))) ns0 x1,Ext.atd (Ext.trans pc (zQ.to (zQ.al _ _))) ns1 y1,Ext.atd (Ext.trans pc (zQ.to (zQ.al _ _))) ns1 y2,Ext.atd (Ext.trans pc (zQ.to (zQ.al _ _))) nsb k0,Ext.atd (Ext.trans pc (zQ.to (zQ.al _ _))) nsb k1,Ext.atd (Ext.trans pc (zQ.to (zQ.al _ _))) nsb k2⟩|go_keep)
  (first
   |(go_at_call 117;refine(IH.out 0 HE0.out _ _ _ _ _ _ _ vars _ _ _ _ base D qpd hvd qkd HD.out hbd HB0.out HAll.out).mono ?_;rw[HZ0.out];rintro e w2 ⟨rfl,hv2,x2⟩;replace pc:=Ext.trans pc x2))
 have PW:=LH (Ext.dt pc);have KE:=LH (KT1.out.trans PW.out);have HV2:=LH hv2;clear pc x2 hv2 qk qkd qpd hvd k0 k1 k2 hmw hn0i hn0' hmz hmz2 qp hbd;have hsw2:w1.heap.size≤w2.heap.size:=PW.out.size;have HSW2:=LH hsw2;clear x0 x1 y0 y1 y2 hsw2;obtain⟨bq,oq,rfl,hd',hcq⟩:=OC.out.read.2 (by have:=HM.out;omega);have HDQ:Hid (w.heap.size+2≤bq):=by have h:=hd';simp at h;show _≤_;omega
 have HCQ:=LH hcq;clear hd' hcq;go_wp2_with (at_make;refine ZV _ rfl _ _ 205 rfl 52 (.slice none 0 0) #[.slice none 0 0] 1 24 Tryz.underlying205 (by kernel_rfl) rfl rfl m rfl rfl (by omega) (by omega) ?_;intro w3 hrow hk3 hsz;have HSZ:=LH (show w3.heap.size=w2.heap.size+1 from hsz);have HROW:=LH (show w3.rowIs w2.heap.size 52 m (fun _=>.slice none 0 0)from(by(have h2:=hrow;rw[Nat.mul_one]at h2;exact h2.congr (fun i hi=>by simp[Nat.mod_one]))));have PW3:=LH (PW.out.trans (zQ.to (S:=fun r=>(Value.slice av vars.length cv).ownBlock=some r) hk3));have KE3:=LH (KE.out.trans (zQ.to (S:=fun r=>(Value.slice av vars.length cv).ownBlock=some r) hk3));have HV3:=LH (HV2.out.k hk3);clear hrow hk3 hsz);go_loopw [136] (fun iv wr=>∃(j:Nat) (f:Nat→Value),j≤m∧iv=.int .i64 j∧Hid (wr.rowIs w2.heap.size 52 m f)∧Hid (∀l,l<j→Rd wr (fun q=>q≠w2.heap.size) (zY (cAt (jY ds z) l)) (f l))∧Hid (Ext (fun q=>q=w2.heap.size) w3 wr)) (fun iv _=>m-(intOf iv).toNat)
 case atStart=>exact⟨0,_,Nat.zero_le _,rfl,HROW.out,fun l hl=>absurd hl (by omega),Ext.refl _ _⟩
 case round=>
  obtain⟨j,f,hj,rfl,hR,hI,hK⟩:=hrel;have KW:=LH (Ext.then_ KE3.out hK.out (fun q hq h=>by have:=HW1.out;have:=HSW2.out;omega));have PX:=LH (Ext.then_ PW3.out hK.out (fun q hq h=>by have:=HSW2.out;omega));have VX:=LH (HV3.out.ext hK.out (fun g hg h=>by have:=(VBL.out _ hg).2;have:=HW1.out;have:=HSW2.out;omega));have RS:=zX R0'.out PX.out ns0;have x0:=RS.cell (i:=0) (by simp);have x1:=RS.cell (i:=1) (by simp);simp at x0 x1;have qp:=LH (HP.out.ext KW.out nsD.out);have HWR:Hid (w2.heap.size+1≤wr.heap.size):=by have:=hK.out.size;have:=HSZ.out;show _≤_;omega
  by_cases hlt:j<m
  ·have dj:=HCQ.out j hlt
   have cq0:=PX.out.cq dj (fun e=>by have:=(VBL.out bq e).2;have:=HDQ.out;omega);have HX:=LH (WW HF.out z (i:=j) (by have:=HM.out;omega));have HAJ:Hid (cAt (jY ds z) j=zR ds (iAt (zv ds z) j)):=QZ (by have:=HM.out;omega);have HFO:=LH (yP HT.out (iAt (zv ds z) j));generalize iAt (zv ds z) j=x at cq0 HX HAJ HFO;clear dj RS;go_wp2_with fail;refine(Y3 _ _ _ ds D _ _ (Rd.toDecls qp.out.1) HF.out (by have:=HX.out;omega) (by have:=HX.out;omega)).mono ?_;rintro e w4 ⟨fa,fm,fc,rfl,hfc,fi,p4⟩;have hrw:=rwk hR.out p4;have fz:w4.frozen? ⟨w2.heap.size,j,none⟩=false:=hrw.frozen j;have cz:w4.cell? ⟨w2.heap.size,j,none⟩=some (f j):=hrw.cell hlt;have hrs:=LH (hrw.set j (.slice fa fm fc));have hs2:Ext (fun q=>q=w2.heap.size) w4 (w4.setCell ⟨w2.heap.size,j,none⟩ (.slice fa fm fc)):=Ext.setCell (S:=fun q=>q=w2.heap.size) (Ext.refl _ w4) (p:=⟨w2.heap.size,j,none⟩) (.inr rfl) _;have K2:=LH ((hK.out.trans (zQ.to p4)).trans hs2);have hfm:fm≤3:=by have h1:=fi.1;have h2:=HFO.out.1;omega
   have FI:=LH (((fi.mono (D':=fun q=>q≠w2.heap.size) (fun k hk=>by
    have:=HWR.out;have:=HB.out;have:=HW1.out;have:=HSW2.out
    rcases hk with hk|hk
    ·have:=HD.out _ hk;show _≠_;omega
    ·show _≠_;omega)).toRd hfc (by omega)).ext hs2 (fun q h=>h))
   have HI2:=LH (fun l (hl:l<j)=>((hI.out l hl).k p4).ext hs2 (fun q h=>h));clear hrw hs2 p4 fi x0 x1 cq0;go_wp2_with fail;go_roundw
   case rel=>exact⟨j+1,_,by omega,by go_num,hrs.out,fun l hl=>by
    by_cases hlj:l=j
    ·rw[hlj,if_pos rfl,HAJ.out];exact FI.out
    ·rw[if_neg hlj];exact HI2.out l (by omega),K2.out⟩
   case measure=>simp[intOf];omega
  ·have hjn:j=m:=by omega
   have HCO:=LH (Rd.consI (w:=wr) (b:=w2.heap.size) (m:=m) (xs:=jY ds z) f (fun i hi=>hR.out.cell hi) (fun i hi=>(hI.out i (by omega)).t) (by have:=HM.out;omega) (by rw[HAL.out];exact HM.out.symm) (by omega));have y2:=(zX R1'.out PX.out ns1).cell (i:=2) (by simp);simp at y2;have qpd:=qp.out.k (w':=wr.drew) (kD wr);have hvd:=VX.out.k (w':=wr.drew) (kD wr);have hbd:base≤wr.drew.heap.size:=by have:=HB.out;have:=KW.out.size;show base≤wr.heap.size;omega
   have qtl:=((Rd.tailN (by have:=HM.out;omega) h).ext KW.out nsD.out).k (w':=wr.drew) (kD wr);have qml:=HCO.out.k (w':=wr.drew) (kD wr);have HTL:∀j,j<es.tail.length→TyI ds sg (eAt es.tail j):=fun j hj=>by rw[W8];exact IH.out (j+1) (by simp at hj;omega)
   have hlt2:vars.length+4+4*nEs es.tail≤1049576:=by have:=WB es;have:=HLen.out;omega
   have hfl2:(jY ds z).length=es.tail.length:=by have:=HL.out;have:=HAL.out;simp;omega
   have hfs2:∀i,i<(jY ds z).length→(cAt (jY ds z) i).length≤3∧j8 ds.length (cAt (jY ds z) i)=true:=fun i hi=>by
    rw[QZ (by rw[HAL.out]at hi;exact hi)];exact yP HT.out _
   have HFL2:=LH hfl2;have HFS2:=LH hfs2;have HTL2:=LH HTL;have pc:=Ext.refl0 wr;have hc1:¬c=1:=by have:=HM.out;omega
   have hc1':¬1=c:=by omega
   have hn2:(1:Int)≤(n:Int):=by omega
   have hn3:1≤n:=by omega
   clear hfl2 hfs2 HTL RS;go_wp2_with fail;go_region_held3 (fun w'=>w'.cell? ⟨w.heap.size,0,none⟩=some (.slice a0 n0 c0)∧w'.cell? ⟨w.heap.size,1,none⟩=some (.slice a1 n1 c1)∧w'.cell? ⟨w.heap.size+1,2,none⟩=some (.slice (some ⟨b,o,none⟩) n c))
    (first|exact⟨zQ.at pc x0,zQ.at pc x1,zQ.at pc y2⟩|go_keep)
    ((go_at_call 161;go_must (refine(JR ds sg es.tail HTL2.out _ _ _ _ _ _ _ _ _ vars _ _ _ _ _ _ (jY ds z) _ base D (qpd.k pc) (hvd.k pc) (qtl.k pc) HD.out (Nat.le_trans hbd pc.size) (qml.k pc) HFL2.out hlt2 HAll.out HFS2.out).mono ?_);rw[HU.out];rintro e w5 ⟨rfl,p5⟩;replace pc:=Ext.trans pc p5))
   have KF:=LH (KW.out.trans (zQ.to (S:=fun r=>(Value.slice av vars.length cv).ownBlock=some r) (zQ.dt pc)));have HV3:=LH (VX.out.k (zQ.dt pc));go_wp2_with fail;exact zB hQ ⟨zE V.out.symm,HV3.out,KF.out⟩
end
end Go.Proofs.YtkapldpmjkdmcaaGreat
