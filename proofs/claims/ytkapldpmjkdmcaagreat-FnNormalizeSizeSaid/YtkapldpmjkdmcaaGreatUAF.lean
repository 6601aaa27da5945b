/- The reference's types of expressions: matches. -/
import Derived.Test.YtkapldpmjkdmcaaGreatUAE
import Derived.Test.YtkapldpmjkdmcaaGreatUAC
import Derived.Test.YtkapldpmjkdmcaaGreatUAD
import Derived.IntWalk
namespace Go.Proofs.YtkapldpmjkdmcaaGreat
open Go.RowKit
set_option maxRecDepth 100000
set_option maxHeartbeats 8000000
theorem Ext.refl0(w:World):zQ w.drew w.drew:=Ext.refl _ _
theorem Rd.kd{w:World}{D:Nat→Prop}{d:Dat}{v:Value}(h:Rd w D d v):Rd w.drew D d v:=h.k (kD w)
theorem PR.kd{w:World}{ds:List zG}{fs:List zA}{a0:Option Addr}{n0 c0:Nat}{a1:Option Addr}{n1 c1:Nat}(h:PR w ds fs a0 n0 c0 a1 n1 c1):PR w.drew ds fs a0 n0 c0 a1 n1 c1:=h.k (kD w)
theorem zQ.dt{w w':World}(h:zQ w.drew w'):zQ w w':=(Ext.refl _ w).drew.trans h
def uG(ds:List zG)(sg:List yJ)(vars:List Int)(num:Int)(es:List zK):Int:=
 if 0<(jY ds num).length∧es.length=1+(jY ds num).length∧Bz ds sg vars es=num then gk (kE ds sg vars es (jY ds num))else -1
theorem kN(ds:List zG)(t:Int):(jY ds t).length=(zv ds t).length:=by simp[jY]
theorem QZ{ds:List zG}{t:Int}{i:Nat}(h:i<(zv ds t).length):cAt (jY ds t) i=zR ds (iAt (zv ds t) i):=by
 rw[YU (by rw[kN];exact h),gz h];simp[jY]
theorem VY{ds:List zG}(hf:Few ds)(t:Int):(zv ds t).length≤3:=by
 unfold zv;split
 ·next h=>rw[List.length_map,List.length_range];exact hf.2 _ (by omega)
 ·simp
section
variable (ds:List zG)(fs:List zA)
theorem U7(num:Int)(es:List zK)(IH0:∀j,j<es.length→TyS ds fs (eAt es j))(a0:Option Addr)(n0 c0:Nat)(a1:Option Addr)(n1 c1:Nat)(av:Option Addr)(nv cv:Nat)(vars:List Int)(a:Option Addr)(n c:Nat)(w:World)
  (hp:PR w ds fs a0 n0 c0 a1 n1 c1) (hv:Rd w (fun _=>True) (zY vars) (.slice av nv cv)) (h:Rd w (fun _=>True) (zJ es) (.slice a n c)) (hlen:vars.length+4*(nEs es+1)≤1049576) (hall:j8 ds.length vars=true) (hok:qJ ds (fs.map zM)=true):
  Calls Tryz.prog 150 #[.agg #[.slice a0 n0 c0,.slice a1 n1 c1],.slice av nv cv,.agg #[.int .i64 8,.int .i64 num,.slice a n c]] w fun r w'=>r=.returned (.int .i64 (uG ds (fs.map zM) vars num es))∧zQ w w':=by
 refine zV fun Q hQ=>?_;have ht:=(zL hok).1;have hf:=Few.of_ok ht;have K0:=(zQ.al w (.cells #[.slice a0 n0 c0,.slice a1 n1 c1] 44)).trans (zQ.al _ (.cells #[.int .i64 8,.int .i64 num,.slice a n c] 58));have R0:=(zP w #[.slice a0 n0 c0,.slice a1 n1 c1] 44).alloc (.cells #[.int .i64 8,.int .i64 num,.slice a n c] 58);have R1:=zP (w.alloc (.cells #[.slice a0 n0 c0,.slice a1 n1 c1] 44)) #[.int .i64 8,.int .i64 num,.slice a n c] 58;simp only[World.size_alloc]at R1;obtain⟨e1,hnc,hnm,hat⟩:=zx h;have HL:=LH e1;have HA:=LH hat;have hn30:n≤262394:=by have:=qq es;omega
 have hnv:nv≤1049576:=by have:=(zN hv).1;omega
 have HOK:=LH hok;have HAll:=LH hall;have HLen:=LH hlen;have HF:=LH hf;have HT:=LH ht;have IH:=LH IH0;have hcl:=VY hf num;have HAL:=LH (kN ds num);clear e1 hat hok hall ht IH0;rcases Nat.eq_zero_or_pos (zv ds num).length with hm0|hm0
 ·have V:=LH (show uG ds (fs.map zM) vars num es= -1 by rw[uG,if_neg (by rw[HAL.out];omega)])
  go_in;go_wp2_with fail;refine(jq _ _ _ ds _ _ _ (Rd.toDecls (hp.k K0).1) hf).mono ?_;rintro e w1 ⟨ac,m,cc,rfl,hmc,oc,p1⟩;have OC:=LH oc;have hml:m=(zv ds num).length:=oc.1.symm;have HM:=LH hml;have hm3:m≤3:=by omega
  have K1:=LH (K0.trans p1);have R0':=LH (rwk R0 p1);have R1':=LH (rwk R1 p1);have x0:=R0'.out.cell (i:=0) (by simp);have x1:=R0'.out.cell (i:=1) (by simp);have y0:=R1'.out.cell (i:=0) (by simp);have y1:=R1'.out.cell (i:=1) (by simp);have y2:=R1'.out.cell (i:=2) (by simp);simp at x0 x1 y0 y1 y2;have qp:=hp.k K1.out;have qv:=hv.k K1.out;have qe:=h.k K1.out;clear oc hml p1 R0 R1 K0 hp hv h hcl hlen;have hmz:m=0:=by have:=HM.out;omega
  subst hmz;go_wp2_with fail;go_quiet (fail);go_wp2_with fail;exact zB hQ ⟨zE V.out.symm,by first|exact K1.out.drew|exact K1.out.drewN _⟩
 by_cases hn:n=1+(zv ds num).length
 case neg=>
  have V:=LH (show uG ds (fs.map zM) vars num es= -1 by rw[uG,if_neg (by rw[HAL.out];have:=HL.out;omega)]);go_in;go_wp2_with fail;refine(jq _ _ _ ds _ _ _ (Rd.toDecls (hp.k K0).1) hf).mono ?_;rintro e w1 ⟨ac,m,cc,rfl,hmc,oc,p1⟩;have OC:=LH oc;have hml:m=(zv ds num).length:=oc.1.symm;have HM:=LH hml;have hm3:m≤3:=by omega
  have K1:=LH (K0.trans p1);have R0':=LH (rwk R0 p1);have R1':=LH (rwk R1 p1);have x0:=R0'.out.cell (i:=0) (by simp);have x1:=R0'.out.cell (i:=1) (by simp);have y0:=R1'.out.cell (i:=0) (by simp);have y1:=R1'.out.cell (i:=1) (by simp);have y2:=R1'.out.cell (i:=2) (by simp);simp at x0 x1 y0 y1 y2;have qp:=hp.k K1.out;have qv:=hv.k K1.out;have qe:=h.k K1.out;clear oc hml p1 R0 R1 K0 hp hv h hcl hlen;have hmz:((m:Int)==0)=false:=by have:=HM.out;simp;omega
  have hmz2:((n:Int) !=1+(m:Int))=true:=by have:=HM.out;simp;omega
  have hmw:IntKind.i64.wrap (1+(m:Int))=1+(m:Int):=by rw[IntWalk.i64_in _ (by omega)]
  go_wp2_with fail;go_quiet (fail);go_wp2_with fail;exact zB hQ ⟨zE V.out.symm,by first|exact K1.out.drew|exact K1.out.drewN _⟩
 have hnA:n≤1+(zv ds num).length:=by omega
 have hnB:1+(zv ds num).length≤n:=by omega
 clear hn;obtain⟨b,o,rfl,_,ak,nk,ck,dk0,dk1,dk2,rk⟩:=HA.out 0 (by omega);rw[Nat.zero_mul,Nat.add_zero]at dk0 dk1 dk2;have HE0:Hid (0<es.length):=by have:=HL.out;show _<_;omega
 have hb0:vars.length+4*nE (eAt es 0)≤1049576:=by have:=yN es HE0.out;omega
 have HZ:=LH (kJ ds (fs.map zM) vars HE0.out);generalize hz:tyE ds (fs.map zM) vars (eAt es 0)=z at HZ;have HZ2:=LH hz;clear hz;by_cases hzn:z=num
 case neg=>
  have V:=LH (show uG ds (fs.map zM) vars num es= -1 by rw[uG,if_neg (by rw[HZ.out];exact fun h=>hzn h.2.2)]);have hzn':(z !=num)=true:=by simpa using hzn
  clear hzn;go_in;go_wp2_with fail;refine(jq _ _ _ ds _ _ _ (Rd.toDecls (hp.k K0).1) hf).mono ?_;rintro e w1 ⟨ac,m,cc,rfl,hmc,oc,p1⟩;have OC:=LH oc;have hml:m=(zv ds num).length:=oc.1.symm;have HM:=LH hml;have hm3:m≤3:=by omega
  have K1:=LH (K0.trans p1);have R0':=LH (rwk R0 p1);have R1':=LH (rwk R1 p1);have x0:=R0'.out.cell (i:=0) (by simp);have x1:=R0'.out.cell (i:=1) (by simp);have y0:=R1'.out.cell (i:=0) (by simp);have y1:=R1'.out.cell (i:=1) (by simp);have y2:=R1'.out.cell (i:=2) (by simp);simp at x0 x1 y0 y1 y2;have qp:=hp.k K1.out;have qv:=hv.k K1.out;have qe:=h.k K1.out;clear oc hml p1 R0 R1 K0 hp hv h hcl hlen;obtain⟨k0,k1,k2⟩:=K1.out.k3 dk0 dk1 dk2;have qk:=(rk.k K1.out).kd;have qpd:=qp.kd;have qvd:=qv.kd;have hmz:((m:Int)==0)=false:=by have:=HM.out;simp;omega
  have hmz2:((n:Int) !=1+(m:Int))=false:=by have:=HM.out;simp;omega
  have hmw:IntKind.i64.wrap (1+(m:Int))=1+(m:Int):=by rw[IntWalk.i64_in _ (by omega)]
  have hn0:(0:Int)<(n:Int):=by omega
  have hn0':0<n:=by omega
  have pc:=Ext.refl0 w1;go_wp2_with fail;go_region_held3 (fun w'=>w'.cell? ⟨w.heap.size,0,none⟩=some (.slice a0 n0 c0)∧w'.cell? ⟨w.heap.size,1,none⟩=some (.slice a1 n1 c1)∧w'.cell? ⟨w.heap.size+1,1,none⟩=some (.int .i64 num)∧w'.cell? ⟨w.heap.size+1,2,none⟩=some (.slice (some ⟨b,o,none⟩) n c)∧w'.cell? ⟨b,o,none⟩=some (.int .i64 (eAt es 0).op)∧w'.cell? ⟨b,o+1,none⟩=some (.int .i64 (eAt es 0).num)∧w'.cell? ⟨b,o+2,none⟩=some (.slice ak nk ck))
   (first|exact⟨zQ.at pc x0,zQ.at pc x1,zQ.at pc y1,zQ.at pc y2,zQ.at pc k0,zQ.at pc k1,zQ.at pc k2⟩|go_keep)
   (first
    |(go_at_call 99;refine(IH.out 0 HE0.out _ _ _ _ _ _ _ _ _ _ _ _ _ _ (qpd.k pc) (qvd.k pc) (qk.k pc) hb0 HAll.out).mono ?_;rw[HZ2.out];rintro e w2 ⟨rfl,p2⟩;replace pc:=pc.trans p2))
  have KE:=LH (K1.out.trans (zQ.dt pc));go_wp2_with fail;exact zB hQ ⟨zE V.out.symm,KE.out⟩
 subst hzn;have HTL:∀i,i<(zv ds z).length→iAt (kE ds (fs.map zM) vars es (jY ds z)) i=tyE ds (fs.map zM) (vars++zR ds (iAt (zv ds z) i)) (eAt es (i+1)):=fun i hi=>by
  rw[gG ds (fs.map zM) vars (by have:=HL.out;omega),QZ hi]
 have HTL:=LH HTL;have HTLL:=LH (show(kE ds (fs.map zM) vars es (jY ds z)).length=(zv ds z).length by rw[vA];have:=HL.out;omega);have V0:=LH (show uG ds (fs.map zM) vars z es=gk (kE ds (fs.map zM) vars es (jY ds z))by rw[uG,if_pos ⟨by rw[HAL.out];exact hm0,by rw[HAL.out];have:=HL.out;omega,HZ.out⟩]);have hzz:(z !=z)=false:=by simp
 have GE:∀i,i<(zv ds z).length→ -1≤iAt (kE ds (fs.map zM) vars es (jY ds z)) i:=fun i hi=>by
  rw[HTL.out i hi];exact(LV HOK.out _ (jS HAll.out (yP HT.out _).2)).1
 have GE:=LH GE;go_in;go_wp2_with fail;refine(jq _ _ _ ds _ _ _ (Rd.toDecls (hp.k K0).1) hf).mono ?_;rintro e w1 ⟨ac,m,cc,rfl,hmc,oc,p1⟩;have OC:=LH oc;have hml:m=(zv ds z).length:=oc.1.symm;have HM:=LH hml;have hm3:m≤3:=by omega
 have K1:=LH (K0.trans p1);have R0':=LH (rwk R0 p1);have R1':=LH (rwk R1 p1);have x0:=R0'.out.cell (i:=0) (by simp);have x1:=R0'.out.cell (i:=1) (by simp);have y0:=R1'.out.cell (i:=0) (by simp);have y1:=R1'.out.cell (i:=1) (by simp);have y2:=R1'.out.cell (i:=2) (by simp);simp at x0 x1 y0 y1 y2;have qp:=hp.k K1.out;have qv:=hv.k K1.out;have qe:=h.k K1.out;clear oc hml p1 R0 R1 K0 hp hv h hcl hlen;obtain⟨k0,k1,k2⟩:=K1.out.k3 dk0 dk1 dk2;have qk:=(rk.k K1.out).kd;have qpd:=qp.kd;have qvd:=qv.kd;have hmz:((m:Int)==0)=false:=by have:=HM.out;simp;omega
 have hmz2:((n:Int) !=1+(m:Int))=false:=by have:=HM.out;simp;omega
 have hmw:IntKind.i64.wrap (1+(m:Int))=1+(m:Int):=by rw[IntWalk.i64_in _ (by omega)]
 have hn0:(0:Int)<(n:Int):=by omega
 have hn0':0<n:=by omega
 have pc:=Ext.refl0 w1;go_wp2_with fail;go_region_held3 (fun w'=>w'.cell? ⟨w.heap.size,0,none⟩=some (.slice a0 n0 c0)∧w'.cell? ⟨w.heap.size,1,none⟩=some (.slice a1 n1 c1)∧w'.cell? ⟨w.heap.size+1,1,none⟩=some (.int .i64 z)∧w'.cell? ⟨w.heap.size+1,2,none⟩=some (.slice (some ⟨b,o,none⟩) n c)∧w'.cell? ⟨b,o,none⟩=some (.int .i64 (eAt es 0).op)∧w'.cell? ⟨b,o+1,none⟩=some (.int .i64 (eAt es 0).num)∧w'.cell? ⟨b,o+2,none⟩=some (.slice ak nk ck))
  (first|exact⟨zQ.at pc x0,zQ.at pc x1,zQ.at pc y1,zQ.at pc y2,zQ.at pc k0,zQ.at pc k1,zQ.at pc k2⟩|go_keep)
  (first
   |(go_at_call 99;refine(IH.out 0 HE0.out _ _ _ _ _ _ _ _ _ _ _ _ _ _ (qpd.k pc) (qvd.k pc) (qk.k pc) hb0 HAll.out).mono ?_;rw[HZ2.out];rintro e w2 ⟨rfl,p2⟩;replace pc:=pc.trans p2))
 have KE:=LH (K1.out.trans (zQ.dt pc));have PC:=LH (zQ.dt pc);clear qk qpd qvd k0 k1 k2 x0 x1 y0 y1 y2 hmw hn0 hn0' hmz hmz2 pc;have x0:=(rwk R0'.out PC.out).cell (i:=0) (by simp);have x1:=(rwk R0'.out PC.out).cell (i:=1) (by simp);have y2:=(rwk R1'.out PC.out).cell (i:=2) (by simp);simp at x0 x1 y2;obtain⟨bc,oc,rfl,dc⟩:∃bc oc,ac=some ⟨bc,oc,none⟩∧∀i,i<m→w2.cell? ⟨bc,oc+i,none⟩=some (.int .i64 (iAt (zv ds z) i)):=by
  obtain⟨bc,oc,e,_,hc⟩:=(OC.out.read).2 (by have:=HM.out;omega);exact⟨bc,oc,e,fun i hi=>(PC.out.cell (World.block_lt_of_cell? _ _ (hc i hi)) (fun h=>h)).trans (hc i hi)⟩
 have DC:=LH dc;clear dc;obtain⟨b',o',e',_,ak,nk,ck,dk0,dk1,dk2,rk⟩:=HA.out 1 (by omega);injection e' with e'
 injection e' with e' e''
 subst e' e'';rw[Nat.one_mul]at dk0 dk1 dk2;obtain⟨k0,k1,k2⟩:=KE.out.k3 dk0 dk1 dk2;have qk:=(rk.k KE.out).kd;have qpd:=(qp.k PC.out).kd;have qvd:=(qv.k PC.out).kd;have cq0:=DC.out 0 (by have:=HM.out;omega);rw[Nat.add_zero]at cq0;have hm0'':0<m:=by have:=HM.out;omega
 have hm0':(0:Int)<(m:Int):=by omega
 have hn1:(1:Int)<(n:Int):=by omega
 have hn1':1<n:=by omega
 have HE1:Hid (1<es.length):=by have:=HL.out;show _<_;omega
 have hb1:vars.length+4*nE (eAt es 1)+4≤1049576:=by have:=yN es HE1.out;have:=HLen.out;omega
 have HFO:=LH (yP HT.out (iAt (zv ds z) 0));have hfo:(zR ds (iAt (zv ds z) 0)).length≤3:=HFO.out.1;have HY0:=LH (HTL.out 0 (by omega));generalize hy:tyE ds (fs.map zM) (vars++zR ds (iAt (zv ds z) 0)) (eAt es (0+1))=y at HY0;have HY:Hid (tyE ds (fs.map zM) (vars++zR ds (iAt (zv ds z) 0)) (eAt es 1)=y):=hy;clear hy dk0 dk1 dk2 rk;have pc:=Ext.refl0 w2;go_wp2_with fail;go_region_held3 (fun w'=>w'.cell? ⟨w.heap.size,0,none⟩=some (.slice a0 n0 c0)∧w'.cell? ⟨w.heap.size,1,none⟩=some (.slice a1 n1 c1)∧w'.cell? ⟨w.heap.size+1,2,none⟩=some (.slice (some ⟨b,o,none⟩) n c)∧w'.cell? ⟨bc,oc,none⟩=some (.int .i64 (iAt (zv ds z) 0))∧w'.cell? ⟨b,o+3,none⟩=some (.int .i64 (eAt es 1).op)∧w'.cell? ⟨b,o+3+1,none⟩=some (.int .i64 (eAt es 1).num)∧w'.cell? ⟨b,o+3+2,none⟩=some (.slice ak nk ck))
  (first|exact⟨zQ.at pc x0,zQ.at pc x1,zQ.at pc y2,zQ.at pc cq0,zQ.at pc k0,zQ.at pc k1,zQ.at pc k2⟩|go_keep)
  (first
   |(go_at_call 148;refine(xH _ _ _ ds _ _ _ (Rd.toDecls (qpd.k pc).1) HF.out).mono ?_;rintro e wa ⟨fa,fm,fc,rfl,hfc,fi,pa⟩;replace pc:=pc.trans pa)
   |(go_at_call 149;refine(yw _ _ _ vars _ _ _ _ _ _ _ (Rd.toInts (qvd.k pc)) (by omega) fi (by have:=fi.1;omega)).mono ?_;rintro e wb ⟨xa,xn,xc,rfl,hxc,ox,pb⟩;replace pc:=pc.trans pb)
   |(go_at_call 99;refine(IH.out 1 HE1.out _ _ _ _ _ _ _ _ _ _ _ _ _ _ (qpd.k pc) ((ox.read.toRd hxc (by have:=ox.1;simp at this;omega)).t) (qk.k pc) (by rw[List.length_append];omega) (jS HAll.out HFO.out.2)).mono ?_;rw[HY.out];rintro e w3 ⟨rfl,p3⟩;replace pc:=pc.trans p3))
 have KE3:=LH (KE.out.trans (zQ.dt pc));have PC3:=LH (PC.out.trans (zQ.dt pc));clear qk qpd qvd k0 k1 k2 x0 x1 y2 hn1 hn1' cq0 pc;go_wp2_with fail;go_loopw [9] (fun iv wr=>∃j:Nat,1≤j∧j≤m∧iv=.int .i64 j∧Hid (∀l,l<j→iAt (kE ds (fs.map zM) vars es (jY ds z)) l=y)∧Hid (zQ w1 wr)) (fun iv _=>m-(intOf iv).toNat)
 case atStart=>
  refine⟨1,Nat.le_refl _,by omega,rfl,fun l hl=>?_,PC3.out⟩;have hl0:l=0:=by omega
  rw[hl0];exact HY0.out
 case round=>
  obtain⟨j,hj1,hjm,rfl,hI,hK⟩:=hrel;by_cases hlt:j<m
  ·have KW:=LH (K1.out.trans hK.out)
   have x0:=(rwk R0'.out hK.out).cell (i:=0) (by simp);have x1:=(rwk R0'.out hK.out).cell (i:=1) (by simp);have y2:=(rwk R1'.out hK.out).cell (i:=2) (by simp);simp at x0 x1 y2;obtain⟨bq,oq,e',hd',hcq⟩:=(OC.out.read).2 (by have:=HM.out;omega);injection e' with e'
   injection e' with e' e''
   subst e' e'';have dj:=hcq j hlt;have cq0:=hK.out.q dj;obtain⟨b',o',e',_,ak,nk,ck,dk0,dk1,dk2,rk⟩:=HA.out (1+j) (by have:=HM.out;omega);injection e' with e'
   injection e' with e' e''
   subst e' e'';obtain⟨k0,k1,k2⟩:=KW.out.k3 dk0 dk1 dk2;have qk:=(rk.k KW.out).kd;have qpd:=(qp.k hK.out).kd;have qvd:=(qv.k hK.out).kd;have HEJ:Hid (1+j<es.length):=by have:=HL.out;have:=HM.out;show _<_;omega
   have hb1:vars.length+4*nE (eAt es (1+j))+4≤1049576:=by have:=yN es HEJ.out;have:=HLen.out;omega
   have HFO:=LH (yP HT.out (iAt (zv ds z) j));have hfo:(zR ds (iAt (zv ds z) j)).length≤3:=HFO.out.1;have HYJ:=HTL.out j (by have:=HM.out;omega);rw[show j+1=1+j by omega]at HYJ;generalize hyj:tyE ds (fs.map zM) (vars++zR ds (iAt (zv ds z) j)) (eAt es (1+j))=yj at HYJ;have HY2:=LH hyj;have HYJ2:=LH HYJ;have hw1:IntKind.i64.wrap (1+(j:Int))=1+(j:Int):=by rw[IntWalk.i64_in _ (by omega)]
   have hw2:(0:Int)≤1+(j:Int):=by omega
   have hw3:1+(j:Int)<(n:Int):=by have:=HM.out;omega
   have hw4:(1+(j:Int)).toNat=1+j:=by omega
   have hj0:(0:Int)≤(j:Int):=by omega
   have hjm':(j:Int)<(m:Int):=by omega
   clear hyj HYJ dk0 dk1 dk2 rk dj hcq;by_cases hyy:yj=y
   ·have hyy':(yj !=y)=false:=by simpa using hyy
    have HYY:=LH hyy;clear hyy;have pc:=Ext.refl0 wr;go_wp2_with fail;go_region_held3 (fun w'=>w'.cell? ⟨w.heap.size,0,none⟩=some (.slice a0 n0 c0)∧w'.cell? ⟨w.heap.size,1,none⟩=some (.slice a1 n1 c1)∧w'.cell? ⟨w.heap.size+1,2,none⟩=some (.slice (some ⟨b,o,none⟩) n c)∧w'.cell? ⟨bc,oc+j,none⟩=some (.int .i64 (iAt (zv ds z) j))∧w'.cell? ⟨b,o+(1+j)*3,none⟩=some (.int .i64 (eAt es (1+j)).op)∧w'.cell? ⟨b,o+(1+j)*3+1,none⟩=some (.int .i64 (eAt es (1+j)).num)∧w'.cell? ⟨b,o+(1+j)*3+2,none⟩=some (.slice ak nk ck))
     (first|exact⟨zQ.at pc x0,zQ.at pc x1,zQ.at pc y2,zQ.at pc cq0,zQ.at pc k0,zQ.at pc k1,zQ.at pc k2⟩|go_keep)
     (first
      |(go_at_call 148;refine(xH _ _ _ ds _ _ _ (Rd.toDecls (qpd.k pc).1) HF.out).mono ?_;rintro e wa ⟨fa,fm,fc,rfl,hfc,fi,pa⟩;replace pc:=pc.trans pa)
      |(go_at_call 149;refine(yw _ _ _ vars _ _ _ _ _ _ _ (Rd.toInts (qvd.k pc)) (by omega) fi (by have:=fi.1;omega)).mono ?_;rintro e wb ⟨xa,xn,xc,rfl,hxc,ox,pb⟩;replace pc:=pc.trans pb)
      |(go_at_call 99;refine(IH.out (1+j) HEJ.out _ _ _ _ _ _ _ _ _ _ _ _ _ _ (qpd.k pc) ((ox.read.toRd hxc (by have:=ox.1;simp at this;omega)).t) (qk.k pc) (by rw[List.length_append];omega) (jS HAll.out HFO.out.2)).mono ?_;rw[HY2.out];rintro e w4 ⟨rfl,p4⟩;replace pc:=pc.trans p4))
    have hI2:Hid (∀l,l<j+1→iAt (kE ds (fs.map zM) vars es (jY ds z)) l=y):=by
     intro l hl;rcases Nat.lt_succ_iff_lt_or_eq.1 hl with h|rfl
     ·exact hI.out l h
     ·rw[HYJ2.out,HYY.out]
    have hK2:=LH (hK.out.trans (zQ.dt pc));clear qk qpd qvd k0 k1 k2 x0 x1 y2 cq0 pc hw1 hw2 hw3 hw4 hI hK KW;go_wp2_with fail;go_roundw
    case rel=>exact⟨j+1,by omega,by omega,by go_num,hI2,hK2⟩
    case measure=>simp[intOf];omega
   ·have hyy':(yj !=y)=true:=by simpa using hyy
    have V:Hid (uG ds (fs.map zM) vars z es= -1):=by
     show _=_;rw[V0.out,ZQ (i:=j) (by rw[HTLL.out];have:=HM.out;omega) (.inl (by rw[HYJ2.out,hI.out 0 (by omega)];exact hyy))]
    clear hyy;have pc:=Ext.refl0 wr;go_wp2_with fail;go_region_held3 (fun w'=>w'.cell? ⟨w.heap.size,0,none⟩=some (.slice a0 n0 c0)∧w'.cell? ⟨w.heap.size,1,none⟩=some (.slice a1 n1 c1)∧w'.cell? ⟨w.heap.size+1,2,none⟩=some (.slice (some ⟨b,o,none⟩) n c)∧w'.cell? ⟨bc,oc+j,none⟩=some (.int .i64 (iAt (zv ds z) j))∧w'.cell? ⟨b,o+(1+j)*3,none⟩=some (.int .i64 (eAt es (1+j)).op)∧w'.cell? ⟨b,o+(1+j)*3+1,none⟩=some (.int .i64 (eAt es (1+j)).num)∧w'.cell? ⟨b,o+(1+j)*3+2,none⟩=some (.slice ak nk ck))
     (first|exact⟨zQ.at pc x0,zQ.at pc x1,zQ.at pc y2,zQ.at pc cq0,zQ.at pc k0,zQ.at pc k1,zQ.at pc k2⟩|go_keep)
     (first
      |(go_at_call 148;refine(xH _ _ _ ds _ _ _ (Rd.toDecls (qpd.k pc).1) HF.out).mono ?_;rintro e wa ⟨fa,fm,fc,rfl,hfc,fi,pa⟩;replace pc:=pc.trans pa)
      |(go_at_call 149;refine(yw _ _ _ vars _ _ _ _ _ _ _ (Rd.toInts (qvd.k pc)) (by omega) fi (by have:=fi.1;omega)).mono ?_;rintro e wb ⟨xa,xn,xc,rfl,hxc,ox,pb⟩;replace pc:=pc.trans pb)
      |(go_at_call 99;refine(IH.out (1+j) HEJ.out _ _ _ _ _ _ _ _ _ _ _ _ _ _ (qpd.k pc) ((ox.read.toRd hxc (by have:=ox.1;simp at this;omega)).t) (qk.k pc) (by rw[List.length_append];omega) (jS HAll.out HFO.out.2)).mono ?_;rw[HY2.out];rintro e w4 ⟨rfl,p4⟩;replace pc:=pc.trans p4))
    have hK2:=LH (KW.out.trans (zQ.dt pc));clear qk qpd qvd k0 k1 k2 x0 x1 y2 cq0 pc hw1 hw2 hw3 hw4 hI hK;go_wp2_with fail;exact zB hQ ⟨zE V.out.symm,hK2.out⟩
  ·have V:Hid (uG ds (fs.map zM) vars z es=y):=by
    show _=_;rw[V0.out];refine JY (by rw[HTLL.out];exact hm0) ?_ (fun i hi=>hI.out i (by rw[HTLL.out]at hi;have:=HM.out;omega));have:=GE.out 0 hm0;rw[hI.out 0 (by omega)]at this;exact this
   go_wp2_with fail;exact zB hQ ⟨zE V.out.symm,K1.out.trans hK.out⟩
end
end Go.Proofs.YtkapldpmjkdmcaaGreat
