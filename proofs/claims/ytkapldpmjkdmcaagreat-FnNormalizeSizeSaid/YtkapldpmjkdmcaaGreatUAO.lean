/- The generator of programs: placeIn, bodyOf. -/
import Derived.Test.YtkapldpmjkdmcaaGreatUAN
import Derived.Test.YtkapldpmjkdmcaaGreatUAB
namespace Go.Proofs.YtkapldpmjkdmcaaGreat
open Go.RowKit
set_option maxRecDepth 100000
set_option maxHeartbeats 8000000
theorem kB:pkG 18=26214400:=rfl
theorem MX:pkG 12=409600:=rfl
theorem WA(a:Option Addr)(n c:Nat)(xs:List Int)(x:Int)(D:Nat→Prop)(w:World)(h:qN w D a n xs)(hn:n≤1000):
  Calls Tryz.prog 216 #[.slice a n c,.int .i64 x] w fun e w'=>∃r:Int,e=.returned (.int .i64 r)∧(-1≤r∧r<(n:Int))∧w=w':=by
 refine zV fun Q hQ=>?_;go_in;go_wp2;go_loop [5] (fun i=>∃j:Nat,j≤n∧i=.int .i64 j) (fun i=>n-(intOf i).toNat)
 case atStart=>exact⟨0,Nat.zero_le _,rfl⟩
 case round=>
  obtain⟨j,hj,rfl⟩:=hrel;by_cases hlt:j<n
  ·obtain⟨b,o,rfl,hd,hc⟩:=h.2 (by omega)
   have d0:=hc j hlt;clear hc h;by_cases he:iAt xs j=x
   ·have t:=beq_iff_eq.2 he
    clear he;go_wp2;exact zB hQ ⟨_,rfl,⟨by omega,by omega⟩,rfl⟩
   ·have t:=beq_eq_false_iff_ne.2 he
    clear he;go_wp2;go_round
    case rel=>exact⟨j+1,by omega,by go_num⟩
    case measure=>simp[intOf];omega
  ·go_wp2
   exact zB hQ ⟨-1,rfl,⟨by omega,by omega⟩,rfl⟩
theorem Gs.finz{w w':World}{B g Mz:Nat}{ds:List zG}{fs:List zA}{a0:Option Addr}{n0 c0:Nat}{a1:Option Addr}{n1 c1:Nat}{q p N K op num:Int}{ks:List zK}{a:Option Addr}{n c:Nat}(h:Gs w w' B g ds fs a0 n0 c0 a1 n1 c1 q)(rd:Rd w' (fun k=>w.heap.size+2≤k) (zJ ks) (.slice a n c))(hf:yL (yX K) (.mk op num ks))(hq:q≤p+N)(hz:nEs ks+1≤Mz):
  Qx B g p N K Mz w (.returned (.agg #[.int .i64 op,.int .i64 num,.slice a n c])) (((w'.setCell ⟨w.heap.size+1,0,none⟩ (.int .i64 op)).setCell ⟨w.heap.size+1,1,none⟩ (.int .i64 num)).setCell ⟨w.heap.size+1,2,none⟩ (.slice a n c)):=vC h.x h.r h.bw rd hf.1 hf.2 hq hz
theorem BK(ds:List zG)(fs:List zA)(B g k:Nat)(hG:jZ ds fs)(hk:k<fs.length)(p:Int)(a0:Option Addr)(n0 c0:Nat)(a1:Option Addr)(n1 c1:Nat)(w:World)(hpg:PG w g ds fs a0 n0 c0 a1 n1 c1)(hr:Rdx w B g p)(hBw:B≤w.heap.size)(hp:p+70000000≤900000000000):
  Calls Tryz.prog 178 #[.pointer (some ⟨g,0,none⟩),.agg #[.slice a0 n0 c0,.slice a1 n1 c1],.int .i64 (k:Int)] w (Qx B g p 70000000 1000 30 w):=by
 refine zV fun Q hQ=>?_;have HG:=LH hG;have HPP:=LH hp;have HK:=LH hk;have hgB:=hr.gB;have hgw:g<w.heap.size:=by omega
 have G0:=LH (Gs.start hpg hr hBw);have hds:=hG.len4;have hfs:=hG.len;have hn0:n0≤4:=by have:=(zT hpg.d).1;omega
 have hn1:n1≤4:=by have:=(qZ hpg.f).1;omega
 obtain⟨b,o,rfl,⟨hbg,hbw⟩,ap,np,cp,ab,nb,cb,g0,g1,_,_,_,rp,_⟩:=(qZ hpg.f.lt).2.2.2 k (by have:=(qZ hpg.f).1;omega);have hk1:k<n1:=by have:=(qZ hpg.f).1;omega
 have HV:Hid (Rd w (fun k=>k≠g) (zY (fAt fs k).params) (.slice ap np cp)):=rp.mono (fun k h=>h.1);have SG:=LH (hG.sig hk);have HPL:=LH (zN rp).1;have hnp3:np≤3:=by have:=(hG.sig hk).1;have:=(zN rp).1;omega
 have kk0:(0:Int)≤(k:Int):=by omega
 have kk1:(k:Int)<(n1:Int):=by omega
 have gg0:=zy (o:=.cells #[.int .i64 0,.int .i64 0,.slice none 0 0] 58) (zy (o:=.cells #[.slice a0 n0 c0,.slice (some ⟨b,o,none⟩) n1 c1] 44) g0);have gg1:=zy (o:=.cells #[.int .i64 0,.int .i64 0,.slice none 0 0] 58) (zy (o:=.cells #[.slice a0 n0 c0,.slice (some ⟨b,o,none⟩) n1 c1] 44) g1);have hbne:¬b=w.heap.size:=by omega
 have hbne1:¬b=w.heap.size+1:=by omega
 clear hG hpg hr hBw g0 g1 rp hp hk;go_in;go_upto_region 3 with fail;generalize hW:(w.alloc (.cells #[.slice a0 n0 c0,.slice (some ⟨b,o,none⟩) n1 c1] 44)).alloc (.cells #[.int .i64 0,.int .i64 0,.slice none 0 0] 58)=W1 at*;clear hW gg0 gg1;go_wp2_with fail;refine(WA ap np cp (fAt fs k).params 1 _ W1 (HV.out.g G0.out.x).toInts (by omega)).mono ?_;rintro e w2 ⟨pl,rfl,hat,hw12⟩;have HAT:=LH hat;have S2:Hid (Gs w w2 B g ds fs a0 n0 c0 (some ⟨b,o,none⟩) n1 c1 p):=by rw[←hw12];exact G0.out
 clear hat hw12 G0;go_wp2_with fail;refine(jH _ _).mono ?_;rintro e w3 ⟨a3,c3,rfl,k3⟩;have S3:=LH ((S2.out.k k3).k (zQ.al w3 (.cells #[.int .i64 0,.int .i64 0,.slice a3 0 c3] 58)));have h10:=(S2.out.k k3).lt;have E3:=LH (Ev.born w3 (fun k=>w.heap.size+2≤k∧k≠w3.heap.size) (.mk 0 0 []) a3 0 c3 (.nil 3 _ _));clear k3 S2;go_upto_region 5 with fail;generalize hW:w3.alloc (.cells #[.int .i64 0,.int .i64 0,.slice a3 0 c3] 58)=wq at*;replace E3:Hid (Ev wq w3.heap.size (fun k=>w.heap.size+2≤k∧k≠w3.heap.size) (.mk 0 0 []) a3 0 c3):=by rw[←hW];exact E3
 clear hW;generalize hS:w3.heap.size=s10 at*;clear hS;go_wp2_with fail;refine(jD B g p 4 wq S3.out.r (by have:=HPP.out;omega) (by omega)).mono ?_;rintro e w4 ⟨v,rfl,hv,_,r4,x4⟩;obtain⟨hv0,hv1⟩:=hv (by omega);have S4:=LH (S3.out.c x4 r4);have E4:=LH (E3.out.ext x4 (by omega) (fun k hk=>by omega));clear hv r4 x4 S3 E3;go_upto_region 6 with fail;go_cut [34] (fun sb wx=>∃(bb:Bool),sb=.bool bb∧Hid (bb=true→True)∧w4=wx)
 case first=>
  by_cases hc1:v<3
  ·by_cases hc0:(k:Int)=0
   ·have tk:((k:Int)==0)=true:=by rw[hc0];rfl
    have Htk:=LH hc0;clear hc0;go_wp2_with fail;go_meet
    case rel=>exact⟨_,rfl,(fun _=>trivial),rfl⟩
   ·have tk:((k:Int)==0)=false:=by rw[beq_eq_false_iff_ne];exact hc0
    clear hc0;go_wp2_with fail;go_meet
    case rel=>exact⟨_,rfl,(fun h=>by cases h),rfl⟩
  ·go_wp2_with fail
   go_meet
   case rel=>exact⟨_,rfl,(fun h=>by cases h),rfl⟩
 case rest=>
 obtain⟨bb,rfl,HBB,rfl⟩:=hcut;go_upto_if 34 with fail;go_cut [] (fun wx=>OtC B g ds fs a0 n0 c0 (some ⟨b,o,none⟩) n1 c1 (p+60000000) s10 w wx)
 case first=>
  cases bb
  case true=>
   have x0:=S4.out.bx.x0;have x1:=S4.out.bx.x1;have hfit:True:=trivial;go_wp2_with fail;refine(GA ds fs B g HG.out (p+1) _ _ _ _ _ _ w4 S4.out.p S4.out.r S4.out.b (by have:=HPP.out;have h2:=kB;omega)).mono ?_;intro e w5 hgen;obtain⟨x,ax,nx,cx,q5,rfl,rx,fx,r5,hq5,x5⟩:=hgen;have S5:=LH (S4.out.c x5 r5);have hl:=S4.out.lt;have hl10:=E4.out.lt;have E5:=LH (E4.out.ext x5 (by omega) (fun k hk=>by omega));have RM:=LH (rx.mono (D':=fun k=>w.heap.size+2≤k∧k≠s10) (fun k hk=>by omega));have FX:=LH fx;have HQ5:=LH hq5;have c0:=E5.out.v0;have c1:=E5.out.v1;have c2:=E5.out.v2;have g0:=E5.out.g0;have g1:=E5.out.g1;have g2:=E5.out.g2;clear rx fx r5 hq5 x5 x0 x1;go_wp2_with fail;go_meet
   case rel=>exact OtC.mk (op:=x.op) (num:=x.num) (ks:=x.kids) S5.out E5.out RM.out h10 (by rw[uB];exact FX.out) (by have h1:=HQ5.out;have h2:=kB;omega)
  case false=>
   go_upto_region 8 with fail;go_cut [51] (fun sb wx=>∃(bb:Bool),sb=.bool bb∧Hid (bb=true→0≤pl)∧w4=wx)
   case first=>
    by_cases hc1:v<3
    ·by_cases hc0:0≤pl
     ·by_cases ha:(fAt fs k).result=0
      ·have ta:((fAt fs k).result==0)=true:=by rw[ha];rfl
       have HA:=LH ha;clear ha;go_wp2_with fail;go_meet
       case rel=>exact⟨_,rfl,(fun _=>by assumption),rfl⟩
      ·have ta:((fAt fs k).result==0)=false:=by rw[beq_eq_false_iff_ne];assumption
       clear ha;by_cases hb:(fAt fs k).result=1
       ·have tb:((fAt fs k).result==1)=true:=by rw[hb];rfl
        have HB:=LH hb;clear hb;go_wp2_with fail;go_meet
        case rel=>exact⟨_,rfl,(fun _=>by assumption),rfl⟩
       ·have tb:((fAt fs k).result==1)=false:=by rw[beq_eq_false_iff_ne];assumption
        clear hb;go_wp2_with fail;go_meet
        case rel=>exact⟨_,rfl,(fun h=>by cases h),rfl⟩
     ·go_wp2_with fail
      go_meet
      case rel=>exact⟨_,rfl,(fun h=>by cases h),rfl⟩
    ·go_wp2_with fail
     go_meet
     case rel=>exact⟨_,rfl,(fun h=>by cases h),rfl⟩
   case rest=>
   obtain⟨bb,rfl,HBB,rfl⟩:=hcut;go_upto_if 51 with fail;cases bb
   case true=>
    have hat0:0≤pl:=HBB.out rfl;obtain⟨m,rfl⟩:=Int.eq_ofNat_of_zero_le hat0;have hmm:m<(fAt fs k).params.length:=by have h:=HAT.out;have:=HPL.out;omega
    have x0:=S4.out.bx.x0;have x1:=S4.out.bx.x1;have hfit:True:=trivial;go_wp2_with fail;refine(GK ds fs B g k m HG.out HK.out hmm (p+1) _ _ _ _ _ _ w4 S4.out.p S4.out.r S4.out.b (by have:=HPP.out;have h2:=kB;omega)).mono ?_;intro e w5 hgen;obtain⟨x,ax,nx,cx,q5,rfl,rx,fx,r5,hq5,x5⟩:=hgen;have S5:=LH (S4.out.c x5 r5);have hl:=S4.out.lt;have hl10:=E4.out.lt;have E5:=LH (E4.out.ext x5 (by omega) (fun k hk=>by omega));have RM:=LH (rx.mono (D':=fun k=>w.heap.size+2≤k∧k≠s10) (fun k hk=>by omega));have FX:=LH fx;have HQ5:=LH hq5;have c0:=E5.out.v0;have c1:=E5.out.v1;have c2:=E5.out.v2;have g0:=E5.out.g0;have g1:=E5.out.g1;have g2:=E5.out.g2;clear rx fx r5 hq5 x5 x0 x1;go_wp2_with fail;go_meet
    case rel=>exact OtC.mk (op:=x.op) (num:=x.num) (ks:=x.kids) S5.out E5.out RM.out h10 (by rw[uB];exact FX.out) (by have h1:=HQ5.out;have h2:=kB;omega)
   case false=>
    go_upto_region 10 with fail;go_cut [77] (fun sb wx=>∃(bb:Bool),sb=.bool bb∧Hid (bb=true→True)∧w4=wx)
    case first=>
     by_cases hc2:v<3
     ·by_cases hc1:0<np
      ·have hn2:(0:Int)<(np:Int):=by omega
       obtain⟨b2',o2',rfl,hbp,hcp⟩:=(zN HV.out).2.2.2 0 (by omega);have d2:=S4.out.x.at hcp hbp;simp only[Nat.add_zero]at d2;clear hcp;by_cases hc0:iAt (fAt fs k).params 0=3
       ·have tp:(iAt (fAt fs k).params 0==3)=true:=by rw[hc0];rfl
        have Htp:=LH hc0;clear hc0;by_cases ha:(fAt fs k).result=0
        ·have ta:((fAt fs k).result==0)=true:=by rw[ha];rfl
         have HA:=LH ha;clear ha;go_wp2_with fail;go_meet
         case rel=>exact⟨_,rfl,(fun _=>trivial),rfl⟩
        ·have ta:((fAt fs k).result==0)=false:=by rw[beq_eq_false_iff_ne];assumption
         clear ha;by_cases hb:(fAt fs k).result=3
         ·have tb:((fAt fs k).result==3)=true:=by rw[hb];rfl
          have HB:=LH hb;clear hb;go_wp2_with fail;go_meet
          case rel=>exact⟨_,rfl,(fun _=>trivial),rfl⟩
         ·have tb:((fAt fs k).result==3)=false:=by rw[beq_eq_false_iff_ne];assumption
          clear hb;go_wp2_with fail;go_meet
          case rel=>exact⟨_,rfl,(fun h=>by cases h),rfl⟩
       ·have tp:(iAt (fAt fs k).params 0==3)=false:=by rw[beq_eq_false_iff_ne];exact hc0
        clear hc0;go_wp2_with fail;go_meet
        case rel=>exact⟨_,rfl,(fun h=>by cases h),rfl⟩
      ·obtain rfl:np=0:=(by omega)
       go_wp2_with fail;go_meet
       case rel=>exact⟨_,rfl,(fun h=>by cases h),rfl⟩
     ·go_wp2_with fail
      go_meet
      case rel=>exact⟨_,rfl,(fun h=>by cases h),rfl⟩
    case rest=>
    obtain⟨bb,rfl,HBB,rfl⟩:=hcut;go_upto_if 77 with fail;cases bb
    case true=>
     have x0:=S4.out.bx.x0;have x1:=S4.out.bx.x1;have hfit:True:=trivial;go_wp2_with fail;refine(Gz ds fs B g k HG.out HK.out (p+1) _ _ _ _ _ _ w4 S4.out.p S4.out.r S4.out.b (by have:=HPP.out;have h2:=kB;omega)).mono ?_;intro e w5 hgen;obtain⟨x,ax,nx,cx,q5,rfl,rx,fx,r5,hq5,x5⟩:=hgen;have S5:=LH (S4.out.c x5 r5);have hl:=S4.out.lt;have hl10:=E4.out.lt;have E5:=LH (E4.out.ext x5 (by omega) (fun k hk=>by omega));have RM:=LH (rx.mono (D':=fun k=>w.heap.size+2≤k∧k≠s10) (fun k hk=>by omega));have FX:=LH fx;have HQ5:=LH hq5;have c0:=E5.out.v0;have c1:=E5.out.v1;have c2:=E5.out.v2;have g0:=E5.out.g0;have g1:=E5.out.g1;have g2:=E5.out.g2;clear rx fx r5 hq5 x5 x0 x1;go_wp2_with fail;go_meet
     case rel=>exact OtC.mk (op:=x.op) (num:=x.num) (ks:=x.kids) S5.out E5.out RM.out h10 (by rw[uB];exact FX.out) (by have h1:=HQ5.out;have h2:=kB;omega)
    case false=>
     go_upto_region 12 with fail;go_cut [102] (fun sb wx=>∃(bb:Bool),sb=.bool bb∧Hid (bb=true→True)∧w4=wx)
     case first=>
      by_cases hc2:v<3
      ·by_cases hc1:0<np
       ·have hn2:(0:Int)<(np:Int):=by omega
        obtain⟨b2',o2',rfl,hbp,hcp⟩:=(zN HV.out).2.2.2 0 (by omega);have d2:=S4.out.x.at hcp hbp;simp only[Nat.add_zero]at d2;clear hcp;by_cases hc0:iAt (fAt fs k).params 0=0
        ·have tp:(iAt (fAt fs k).params 0==0)=true:=by rw[hc0];rfl
         have Htp:=LH hc0;clear hc0;by_cases ha:(fAt fs k).result=0
         ·have ta:((fAt fs k).result==0)=true:=by rw[ha];rfl
          have HA:=LH ha;clear ha;go_wp2_with fail;go_meet
          case rel=>exact⟨_,rfl,(fun _=>trivial),rfl⟩
         ·have ta:((fAt fs k).result==0)=false:=by rw[beq_eq_false_iff_ne];assumption
          clear ha;by_cases hb:(fAt fs k).result=1
          ·have tb:((fAt fs k).result==1)=true:=by rw[hb];rfl
           have HB:=LH hb;clear hb;go_wp2_with fail;go_meet
           case rel=>exact⟨_,rfl,(fun _=>trivial),rfl⟩
          ·have tb:((fAt fs k).result==1)=false:=by rw[beq_eq_false_iff_ne];assumption
           clear hb;go_wp2_with fail;go_meet
           case rel=>exact⟨_,rfl,(fun h=>by cases h),rfl⟩
        ·have tp:(iAt (fAt fs k).params 0==0)=false:=by rw[beq_eq_false_iff_ne];exact hc0
         clear hc0;go_wp2_with fail;go_meet
         case rel=>exact⟨_,rfl,(fun h=>by cases h),rfl⟩
       ·obtain rfl:np=0:=(by omega)
        go_wp2_with fail;go_meet
        case rel=>exact⟨_,rfl,(fun h=>by cases h),rfl⟩
      ·go_wp2_with fail
       go_meet
       case rel=>exact⟨_,rfl,(fun h=>by cases h),rfl⟩
     case rest=>
     obtain⟨bb,rfl,HBB,rfl⟩:=hcut;go_upto_if 102 with fail;cases bb
     case true=>
      have x0:=S4.out.bx.x0;have x1:=S4.out.bx.x1;have hfit:True:=trivial;go_wp2_with fail;refine(GV ds fs B g k HG.out HK.out (p+1) _ _ _ _ _ _ w4 S4.out.p S4.out.r S4.out.b (by have:=HPP.out;have h2:=kB;omega)).mono ?_;intro e w5 hgen;obtain⟨x,ax,nx,cx,q5,rfl,rx,fx,r5,hq5,x5⟩:=hgen;have S5:=LH (S4.out.c x5 r5);have hl:=S4.out.lt;have hl10:=E4.out.lt;have E5:=LH (E4.out.ext x5 (by omega) (fun k hk=>by omega));have RM:=LH (rx.mono (D':=fun k=>w.heap.size+2≤k∧k≠s10) (fun k hk=>by omega));have FX:=LH fx;have HQ5:=LH hq5;have c0:=E5.out.v0;have c1:=E5.out.v1;have c2:=E5.out.v2;have g0:=E5.out.g0;have g1:=E5.out.g1;have g2:=E5.out.g2;clear rx fx r5 hq5 x5 x0 x1;go_wp2_with fail;go_meet
      case rel=>exact OtC.mk (op:=x.op) (num:=x.num) (ks:=x.kids) S5.out E5.out RM.out h10 (by rw[uB];exact FX.out) (by have h1:=HQ5.out;have h2:=kB;omega)
     case false=>
      have x0:=S4.out.bx.x0;have x1:=S4.out.bx.x1;have hfit:True:=trivial;go_wp2_with fail;refine(Yy ds fs B g 18 HG.out (fAt fs k).result (fAt fs k).params ap np cp (p+1) _ _ _ _ _ _ 18 rfl w4 SG.out.2.1 S4.out.p (HV.out.g S4.out.x) (by omega) S4.out.r S4.out.b (by have:=HPP.out;have h2:=kB;omega)).mono ?_;intro e w5 hgen;obtain⟨x,ax,nx,cx,q5,rfl,rx,fx,r5,hq5,x5⟩:=hgen.gen;have S5:=LH (S4.out.c x5 r5);have hl:=S4.out.lt;have hl10:=E4.out.lt;have E5:=LH (E4.out.ext x5 (by omega) (fun k hk=>by omega));have RM:=LH (rx.mono (D':=fun k=>w.heap.size+2≤k∧k≠s10) (fun k hk=>by omega));have FX:=LH fx;have HQ5:=LH hq5;have c0:=E5.out.v0;have c1:=E5.out.v1;have c2:=E5.out.v2;have g0:=E5.out.g0;have g1:=E5.out.g1;have g2:=E5.out.g2;clear rx fx r5 hq5 x5 x0 x1;go_wp2_with fail;go_meet
      case rel=>exact OtC.mk (op:=x.op) (num:=x.num) (ks:=x.kids) S5.out E5.out RM.out h10 (by rw[uB];exact FX.out) (by have h1:=HQ5.out;have h2:=kB;omega)
 case rest=>
 clear S4 E4;obtain⟨y,ay,ny,cy,q,EZ,FY,GS,hq⟩:=hcut;have HN:=LH (jT y.op y.num y.kids ay ny cy _ wc EZ.out.k);have e0:=EZ.out.v0;have e1:=EZ.out.v1;have e2:=EZ.out.v2;by_cases hz:j9 y.kids<0
 ·go_wp2_with fail
  refine HN.out.mono ?_;rintro e w6 ⟨rfl,k6⟩;have GS6:=LH (GS.out.k k6);have x0:=GS6.out.bx.x0;have x1:=GS6.out.bx.x1;clear k6 e0 e1 e2;go_wp2_with fail;refine(Yy ds fs B g 12 HG.out (fAt fs k).result (fAt fs k).params ap np cp q _ _ _ _ _ _ 12 rfl w6 SG.out.2.1 GS6.out.p (HV.out.g GS6.out.x) (by omega) GS6.out.r GS6.out.b (by have:=HPP.out;have:=hq.out;have h2:=MX;omega)).mono ?_;rintro e w7 ⟨x,ax,nx,cx,q7,rfl,rx,fx,sx,r7,hq7,x7⟩;have hl:=GS6.out.lt;have GS7:=LH (GS6.out.c x7 r7);have RX:=LH (rx.mono (D':=fun k=>w.heap.size+2≤k) (fun k hk=>by omega));have FX:=LH (show yL (yX 1000) (.mk x.op x.num x.kids)by rw[uB];exact fx);have SX:=LH (show nEs x.kids+1≤30 by rw[←uF];exact sx);have HQ7:=LH (show q7≤p+70000000 by have:=hq.out;have h2:=MX;omega);clear rx fx sx r7 hq7 x7 x0 x1;have u0:=GS7.out.bx.u0;have u1:=GS7.out.bx.u1;have u2:=GS7.out.bx.u2;have f0:=GS7.out.bx.f0;have f1:=GS7.out.bx.f1;have f2:=GS7.out.bx.f2;go_wp2_with fail;refine bodyPost_ret (v:=.agg #[.int .i64 x.op,.int .i64 x.num,.slice ax nx cx]) (by simp[results,Tryz.results178,go_sem,u0,u1,u2]) rfl (zB hQ ?_);exact GS7.out.finz (ks:=x.kids) RX.out FX.out HQ7.out SX.out
 ·have hz2:0≤j9 y.kids:=by omega
  have SY:Hid (nEs y.kids+1≤30):=by
   show _≤_;by_cases h:nEs y.kids+1≤30
   ·exact h
   ·rw[xU h]at hz2;omega
  go_wp2_with fail;refine HN.out.mono ?_;rintro e w6 ⟨rfl,k6⟩;have GS6:=LH (GS.out.k k6);have E6:=LH (EZ.out.keep k6);have FY2:=LH (show yL (yX 1000) (.mk y.op y.num y.kids)by rw[uB];exact FY.out);have HQ7:=LH (show q≤p+70000000 by have:=hq.out;omega);clear k6 e0 e1 e2;have e0:=E6.out.v0;have e1:=E6.out.v1;have e2:=E6.out.v2;have u0:=GS6.out.bx.u0;have u1:=GS6.out.bx.u1;have u2:=GS6.out.bx.u2;have f0:=GS6.out.bx.f0;have f1:=GS6.out.bx.f1;have f2:=GS6.out.bx.f2;go_wp2_with fail;refine bodyPost_ret (v:=.agg #[.int .i64 y.op,.int .i64 y.num,.slice ay ny cy]) (by simp[results,Tryz.results178,go_sem,u0,u1,u2]) rfl (zB hQ ?_);exact GS6.out.finz (ks:=y.kids) (E6.out.k.mono (fun k hk=>hk.1)) FY2.out HQ7.out SY.out
def Vx(w:World)(D:Nat→Prop):List zA→List Value→Prop
 | [],us=>us= []
 |f::fs,us=>∃up uk us',us=up::.int .i64 f.result::.int .i64 f.body.op::.int .i64 f.body.num::uk::us'∧Rd w D (zY f.params) up∧Rd w D (zJ f.body.kids) uk∧Vx w D fs us'
theorem Vx.len{w:World}{D:Nat→Prop}{cs:List zA}{us:List Value}(h:Vx w D cs us):us.length=cs.length*5:=by
 induction cs generalizing us with
 |nil=>have:us= []:=h;simp[this]
 |cons c cs ih=>obtain⟨up,uk,us',rfl,_,_,h2⟩:=h;simp[ih h2,Nat.add_mul]
theorem Vx.at{w:World}{D:Nat→Prop}{cs:List zA}{us:List Value}(h:Vx w D cs us)(i:Nat)(hi:i<cs.length):us[i*5+1]?=some (.int .i64 (fAt cs i).result)∧us[i*5+2]?=some (.int .i64 (fAt cs i).body.op)∧us[i*5+3]?=some (.int .i64 (fAt cs i).body.num)∧
  ∃up uk,us[i*5]?=some up∧us[i*5+4]?=some uk∧Rd w D (zY (fAt cs i).params) up∧Rd w D (zJ (fAt cs i).body.kids) uk:=by
 induction cs generalizing us i with
 |nil=>simp at hi
 |cons c cs ih=>
  obtain⟨up,uk,us',rfl,h0,h1,h2⟩:=h;rcases i with _|i
  ·exact⟨rfl,rfl,rfl,up,uk,rfl,rfl,h0,h1⟩
  ·obtain⟨e1,e2,e3,up',uk',e0,e4,h3,h4⟩:=ih h2 i (by simpa using hi)
   have q:(i+1)*5=i*5+5:=by omega
   have qd:fAt (c::cs) (i+1)=fAt cs i:=by simp[fAt,List.getD]
   rw[qd];refine⟨?_,?_,?_,up',uk',?_,?_,h3,h4⟩
   ·rw[q,show i*5+5+1=i*5+1+5 by omega];simpa using e1
   ·rw[q,show i*5+5+2=i*5+2+5 by omega];simpa using e2
   ·rw[q,show i*5+5+3=i*5+3+5 by omega];simpa using e3
   ·rw[q];simpa using e0
   ·rw[q,show i*5+5+4=i*5+4+5 by omega];simpa using e4
theorem Vx.rd{w:World}{D:Nat→Prop}{cs:List zA}{us:List Value}(h:Vx w D cs us):∀i j,i<(cs.map xZ).length→j<5→∃u,us.toArray[i*5+j]?=some u∧Rd w D (rAt (cs.map xZ) i j) u:=by
 intro i j hi hj;have hi':i<cs.length:=by simpa using hi
 obtain⟨e1,e2,e3,up,uk,e0,e4,h0,h1⟩:=h.at i hi';rw[rAt,uU cs i hi'];rcases j with _|_|_|_|_|j
 ·exact⟨up,by simpa using e0,h0⟩
 ·exact⟨_,by simpa using e1,.num _⟩
 ·exact⟨_,by simpa using e2,.num _⟩
 ·exact⟨_,by simpa using e3,.num _⟩
 ·exact⟨uk,by simpa using e4,h1⟩
 ·omega
theorem ZY(w:World)(D:Nat→Prop)(T:TypeId)(fs:List zA)(us:List Value)(n:Nat)(hB:D w.heap.size)(h:Vx w D fs us)(hn:n=fs.length)(hm:n≤1000):
  Rd (w.alloc (.cells us.toArray T)) D (qW fs) (.slice (some ⟨w.heap.size,0,none⟩) n n):=by
 subst hn;exact Rd.litD w D T 5 us.toArray (fs.map xZ) fs.length hB (by simp) (by omega) (by omega) (by simp[h.len]) (fun i hi=>by rw[uU fs i (by simpa using hi)];rfl) h.rd
theorem FJ(w:World)(D:Nat→Prop)(T:TypeId)(fs:List zA)(us:List Value)(n:Nat)(h:Vx w D fs us)(hn:n=fs.length)(hm:n≤1000):
  zq (w.alloc (.cells us.toArray T)) w.heap.size D T 5 (.slice (some ⟨w.heap.size,0,none⟩) n n) (fs.map xZ):=by
 subst hn;exact zq.lit w D T 5 us.toArray (fs.map xZ) fs.length (by simp) (by omega) (by simp[h.len]) (fun i hi=>by rw[uU fs i (by simpa using hi)];rfl) h.rd
def sgF(ps:List Int)(r:Int):zA:=⟨ps,r,.mk 0 0 []⟩
def gU:List zA:= [sgF [1] 0,sgF [1,1] 1,sgF [1] 1,sgF [1,0] 1,sgF [2,1] 1,sgF [1,1] 0]
def g6:List zA:= [sgF [3] 0,sgF [0] 1,sgF [0,1] 1,sgF [3,0] 3,sgF [3] 1,sgF [1,3,0] 0]
def g5:List zA:= [sgF [0] 0,sgF [0,0] 0,sgF [1,0] 0,sgF [0] 1]
theorem NV:∀k,k<6→((fAt gU k).params,(fAt gU k).result)∈vR:=by decide
theorem Mx:∀k,k<6→((fAt g6 k).params,(fAt g6 k).result)∈vR:=by decide
theorem Mj:∀k,k<4→((fAt g5 k).params,(fAt g5 k).result)∈vR:=by decide
theorem FG:∀k,k<6→(fAt gU k).body=.mk 0 0 []:=by
 intro k hk;rcases(show k=0∨k=1∨k=2∨k=3∨k=4∨k=5 by omega)with rfl|rfl|rfl|rfl|rfl|rfl<;>rfl
theorem EG:∀k,k<6→(fAt g6 k).body=.mk 0 0 []:=by
 intro k hk;rcases(show k=0∨k=1∨k=2∨k=3∨k=4∨k=5 by omega)with rfl|rfl|rfl|rfl|rfl|rfl<;>rfl
theorem EE:∀k,k<4→(fAt g5 k).body=.mk 0 0 []:=by
 intro k hk;rcases(show k=0∨k=1∨k=2∨k=3 by omega)with rfl|rfl|rfl|rfl<;>rfl
theorem Bv{w:World}{D:Nat→Prop}{fs:List zA}{s n c:Nat}(h:Rd w D (qW fs) (.slice (some ⟨s,0,none⟩) n c)){k:Nat}(hk:k<n):
  ∃ap np cp ab nb cb,w.cell? ⟨s,k*5,none⟩=some (.slice ap np cp)∧w.cell? ⟨s,k*5+1,none⟩=some (.int .i64 (fAt fs k).result)∧w.cell? ⟨s,k*5+2,none⟩=some (.int .i64 (fAt fs k).body.op)∧w.cell? ⟨s,k*5+3,none⟩=some (.int .i64 (fAt fs k).body.num)∧
   w.cell? ⟨s,k*5+4,none⟩=some (.slice ab nb cb)∧Rd w D (zY (fAt fs k).params) (.slice ap np cp)∧Rd w D (zJ (fAt fs k).body.kids) (.slice ab nb cb)∧D s:=by
 obtain⟨b,o,e,hd,ap,np,cp,ab,nb,cb,z0,z1,z2,z3,z4,r0,r1⟩:=(qZ h).2.2.2 k hk;injection e with e
 injection e with e1 e2
 subst e1;subst e2;simp only[Nat.zero_add]at z0 z1 z2 z3 z4;exact⟨ap,np,cp,ab,nb,cb,z0,z1,z2,z3,z4,r0,r1,hd⟩
section
variable {w:World}{b o:Nat}{u0 u1 u2 u3 u4 v0 v1:Value}
theorem NA(h:w.cell? ⟨b,o,none⟩=some v0):(((((w.setCell ⟨b,o,none⟩ u0).setCell ⟨b,o+1,none⟩ u1).setCell ⟨b,o+2,none⟩ u2).setCell ⟨b,o+3,none⟩ u3).setCell ⟨b,o+4,none⟩ u4).cell? ⟨b,o,none⟩=some u0:=by
 rw[World.cell?_setCell_other _ _ _ _ (by simp),World.cell?_setCell_other _ _ _ _ (by simp),World.cell?_setCell_other _ _ _ _ (by simp),World.cell?_setCell_other _ _ _ _ (by simp)];exact World.cell?_setCell_same _ _ _ h
theorem N7(h:w.cell? ⟨b,o+1,none⟩=some v1):(((((w.setCell ⟨b,o,none⟩ u0).setCell ⟨b,o+1,none⟩ u1).setCell ⟨b,o+2,none⟩ u2).setCell ⟨b,o+3,none⟩ u3).setCell ⟨b,o+4,none⟩ u4).cell? ⟨b,o+1,none⟩=some u1:=by
 rw[World.cell?_setCell_other _ _ _ _ (by simp),World.cell?_setCell_other _ _ _ _ (by simp),World.cell?_setCell_other _ _ _ _ (by simp)];refine World.cell?_setCell_same _ _ _ (u:=v1) ?_;rw[World.cell?_setCell_other _ _ _ _ (by simp)];exact h
theorem yq{s i:Nat}{v:Value}(h:w.cell? ⟨s,i,none⟩=some v)(hs:s≠b):(((((w.setCell ⟨b,o,none⟩ u0).setCell ⟨b,o+1,none⟩ u1).setCell ⟨b,o+2,none⟩ u2).setCell ⟨b,o+3,none⟩ u3).setCell ⟨b,o+4,none⟩ u4).cell? ⟨s,i,none⟩=some v:=by
 rw[(Kv w b o u0 u1 u2 u3 u4).cell (World.block_lt_of_cell? _ _ h) hs];exact h
end
theorem Px.f1{w:World}{s:Nat}{v0 v1:Value}(h:Px w s v0 v1):w.frozen? ⟨s,1,none⟩=false:=h.p.frozen 1
theorem Px.f0{w:World}{s:Nat}{v0 v1:Value}(h:Px w s v0 v1):w.frozen? ⟨s,0,none⟩=false:=h.p.frozen 0
theorem Px.set1{w:World}{s:Nat}{v0 v1 u:Value}(h:Px w s v0 v1):Px (w.setCell ⟨s,1,none⟩ u) s v0 u:=by
 refine⟨(h.p.set 1 u).congr (fun i hi=>?_)⟩;rcases(show i=0∨i=1 by omega)with rfl|rfl<;>rfl
theorem Px.set0{w:World}{s:Nat}{v0 v1 u:Value}(h:Px w s v0 v1):Px (w.setCell ⟨s,0,none⟩ u) s u v1:=by
 refine⟨(h.p.set 0 u).congr (fun i hi=>?_)⟩;rcases(show i=0∨i=1 by omega)with rfl|rfl<;>rfl
theorem Px.e{S:Nat→Prop}{w w':World}{s:Nat}{v0 v1:Value}(h:Px w s v0 v1)(hx:Ext S w w')(hs:¬S s):Px w' s v0 v1:=⟨zX h.p hx hs⟩
theorem J8(w:World)(s i:Nat)(v:Value):Ext (fun q=>q=s) w (w.setCell ⟨s,i,none⟩ v):=(Ext.refl (fun q=>q=s) w).setCell (p:=⟨s,i,none⟩) (.inr rfl) v
theorem Ext.cl{S:Nat→Prop}{w w':World}(k:Ext S w w'){p:Addr}{v:Value}(h:w.cell? p=some v)(hp:¬S p.block):w'.cell? p=some v:=k.cq h hp
theorem QT{w:World}{base:Nat}{D:Nat→Prop}{T:TypeId}{fs:List zA}{s n c:Nat}(h:zq w base D T 5 (.slice (some ⟨s,0,none⟩) n c) (fs.map xZ)){k:Nat}(hk:k<fs.length):
  ∃ap np cp ab nb cb,w.cell? ⟨s,k*5,none⟩=some (.slice ap np cp)∧w.cell? ⟨s,k*5+1,none⟩=some (.int .i64 (fAt fs k).result)∧w.cell? ⟨s,k*5+2,none⟩=some (.int .i64 (fAt fs k).body.op)∧w.cell? ⟨s,k*5+3,none⟩=some (.int .i64 (fAt fs k).body.num)∧
   w.cell? ⟨s,k*5+4,none⟩=some (.slice ab nb cb)∧Rd w (fun m=>D m∧m≠s) (zY (fAt fs k).params) (.slice ap np cp)∧Rd w (fun m=>D m∧m≠s) (zJ (fAt fs k).body.kids) (.slice ab nb cb)∧(∀o,w.frozen? ⟨s,o,none⟩=false)∧n=fs.length∧n≤c:=by
 have hl:k<(fs.map xZ).length:=by simpa using hk
 obtain⟨b,c',e,_,_,hn,_,hfz,hcell⟩:=h.open (by omega);injection e with e1 e2 e3
 injection e1 with e1
 injection e1 with e1 _ _
 subst e1;subst e3;have hrow:=uU fs k hk;obtain⟨u0,q0,r0⟩:=hcell k 0 hl (by omega);obtain⟨u1,q1,r1⟩:=hcell k 1 hl (by omega);obtain⟨u2,q2,r2⟩:=hcell k 2 hl (by omega);obtain⟨u3,q3,r3⟩:=hcell k 3 hl (by omega);obtain⟨u4,q4,r4⟩:=hcell k 4 hl (by omega);simp only[rAt,hrow,jP,List.getD_cons_zero,List.getD_cons_succ]at r0 r1 r2 r3 r4;have h1:=r1.num_inv;have h2:=r2.num_inv;have h3:=r3.num_inv;subst h1;subst h2;subst h3;obtain⟨ap,np,cp,rfl,_,_⟩:=qT r0;obtain⟨ab,nb,cb,rfl,_,_⟩:=qT r4;exact⟨ap,np,cp,ab,nb,cb,q0,q1,q2,q3,q4,r0.mono (fun m hm=>⟨hm.1,hm.2.1⟩),r4.mono (fun m hm=>⟨hm.1,hm.2.1⟩),hfz,by simpa using e2,by rw[e2];exact hn⟩
theorem Jq{fs:List zA}{k i:Nat}{f:zA}(hk:k<fs.length):fAt (fs.set k f) i=if i=k then f else fAt fs i:=by
 unfold fAt;rw[List.getD_eq_getElem?_getD,List.getD_eq_getElem?_getD,List.getElem?_set];by_cases h:k=i
 ·subst h;simp[hk]
 ·rw[if_neg h,if_neg (fun e=>h e.symm)]
structure PJ(lo:Nat)(w:World)(ds:List zG)(fs:List zA)(a0:Option Addr)(n0 c0 sF n c:Nat):Prop where
 f:zq w sF (fun k=>lo≤k) 60 5 (.slice (some ⟨sF,0,none⟩) n c) (fs.map xZ)
 d:Rd w (fun k=>lo≤k∧k≠sF) (z5 ds) (.slice a0 n0 c0)
 s:lo≤sF
structure MG(ds:List zG)(fs:List zA):Prop where
 g:jZ ds fs
 two:2≤fs.length
 body:∀i,i<fs.length→yL (yX 1000) (fAt fs i).body∧nE (fAt fs i).body≤30
theorem VT(k:Int):(jj k).length=3∨(jj k).length=4:=by
 unfold jj;split
 ·exact .inr rfl
 ·exact .inl rfl
theorem zq.slot{w:World}{base:Nat}{D:Nat→Prop}{T:TypeId}{rows:List (List Dat)}{b n c k:Nat}(h:zq w base D T 3 (.slice (some ⟨b,0,none⟩) n c) rows)(hk:k<rows.length):
  (∃u,w.cell? ⟨b,k*3,none⟩=some u)∧(∃u,w.cell? ⟨b,k*3+1,none⟩=some u)∧(∃u,w.cell? ⟨b,k*3+2,none⟩=some u)∧w.frozen? ⟨b,k*3,none⟩=false∧w.frozen? ⟨b,k*3+1,none⟩=false∧w.frozen? ⟨b,k*3+2,none⟩=false:=by
 obtain⟨b',c',e,_,_,_,_,hfz,hcell⟩:=h.open (by omega);injection e with e1 e2 e3
 injection e1 with e1
 injection e1 with e1 _ _
 subst e1;obtain⟨u0,c0,_⟩:=hcell k 0 hk (by omega);obtain⟨u1,c1,_⟩:=hcell k 1 hk (by omega);obtain⟨u2,c2,_⟩:=hcell k 2 hk (by omega);exact⟨⟨u0,c0⟩,⟨u1,c1⟩,⟨u2,c2⟩,hfz _,hfz _,hfz _⟩
theorem ZU(w:World)(b o:Nat)(u0 u1 u2:Value):Ext (fun q=>q=b) w (((w.setCell ⟨b,o,none⟩ u0).setCell ⟨b,o+1,none⟩ u1).setCell ⟨b,o+2,none⟩ u2):=
 (((Ext.refl (fun q=>q=b) w).setCell (p:=⟨b,o,none⟩) (.inr rfl) _).setCell (p:=⟨b,o+1,none⟩) (.inr rfl) _).setCell (p:=⟨b,o+2,none⟩) (.inr rfl) _
theorem GF(B g:Nat)(p:Int)(w:World)(h:Rdx w B g p)(hBw:B≤w.heap.size)(hp:p≤800000000000):
  Calls Tryz.prog 175 #[.pointer (some ⟨g,0,none⟩)] w fun e w'=>∃(v:Value) (ds:List zG) (p':Int),ds.length≤6∧3≤ds.length∧e=.returned v∧zq w' w.heap.size (fun b=>w.heap.size≤b) 125 3 v (ds.map yk)∧
   Rdx w' B g p'∧p'≤p+6∧Ext (·=g) w w':=by
 refine zV fun Q hQ=>?_;have hgB:=h.gB;go_in;go_wp2_with fail;refine(Qy B g p w h hBw (by omega)).mono ?_;rintro e w1 ⟨v,kk,_,_,rfl,hA,hr,x1⟩;have hds:=VT kk;generalize jj kk=ds at hds hA;have hl:(ds.map yk).length=ds.length:=by simp
 obtain⟨b,c,rfl,hb1,hb2,hnc,hcm,_,_⟩:=hA.open (by omega);generalize hn:(ds.map yk).length=n at hA hnc;have HN:Hid (n=ds.length):=by show n=ds.length;omega
 have hn3:3≤n:=by omega
 have hn4:n≤4:=by omega
 clear hn hl hds;have z1:=x1.size;go_wp2_with fail;refine(jD B g _ _ _ hr (by omega) (by omega)).mono ?_;rintro e w2 ⟨k,rfl,hk,_,hr2,x2⟩;obtain⟨hk0,hk1⟩:=hk (by omega);obtain⟨k,rfl⟩:=Int.eq_ofNat_of_zero_le hk0;replace hk1:k<n:=by omega
 clear hk hk0;have z2:=x2.size;go_wp2_with fail;refine(jD B g _ _ _ hr2 (by omega) (by omega)).mono ?_;rintro e w3 ⟨z,rfl,hz,_,hrw3,x3⟩;obtain⟨hz0,hz1⟩:=hz (by omega);clear hz;have z3:=x3.size;have x13:=(x1.trans x2).trans x3;have hS:∀q:Nat,(w.heap.size≤q∨w.heap.size≤q)→¬q=g:=fun q hq=>by omega
 replace hA:=hA.ext (x2.trans x3) (fun q _ hq'=>hS q hq');have hb3:b<w3.heap.size:=by omega
 clear x1 x2 x3 hr hr2 h;have hkl:k<(ds.map yk).length:=by have:=HN.out;simp;omega
 have hkd:k<ds.length:=by have:=HN.out;omega
 have hlen:ds.length≤4∧3≤ds.length:=by have:=HN.out;omega
 have hbs:w.heap.size≤w3.heap.size:=by omega
 by_cases y0:z=0
 ·subst y0
  go_wp2_with fail;refine(GN B g _ [-1,5,0,2] 4 _ _ _ _ hrw3 (by omega) rfl rfl (by omega) (by omega)).mono ?_;rintro e w4 ⟨v4,_,rfl,hrw4,xw4⟩;have zw4:=xw4.size;replace hA:=hA.ext xw4 (fun q _ hq'=>hS q hq');go_wp2_with fail;refine(GN B g _ [0,1,5] 3 _ _ _ _ hrw4 (by omega) rfl rfl (by omega) (by omega)).mono ?_;rintro e w5 ⟨v5,_,rfl,hrw5,xw5⟩;have zw5:=xw5.size;replace hA:=hA.ext xw5 (fun q _ hq'=>hS q hq');obtain⟨⟨u0,c0⟩,⟨u1,c1⟩,⟨u2,c2⟩,g0,g1,g2⟩:=hA.slot hkl;go_wp2_with fail;exact zB hQ ⟨_,ds.set k ⟨v4,v5, []⟩,p+1+1+1+1+1,by simp;omega,by simp;omega,rfl,hA.putD rfl hkd (Rd.nilC _ _ none 0),hrw5.ext (ZU _ _ _ _ _ _) (fun q hq e=>by omega),by omega,((x13.trans xw4).trans xw5).then_ (ZU _ _ _ _ _ _) (fun q hq e=>by omega)⟩
 have t0:((z:Int)==0)=false:=beq_eq_false_iff_ne.2 y0;clear y0;by_cases y1:z=1
 ·subst y1
  go_wp2_with fail;refine(GN B g _ [-1,0,4,5] 4 _ _ _ _ hrw3 (by omega) rfl rfl (by omega) (by omega)).mono ?_;rintro e w4 ⟨v4,_,rfl,hrw4,xw4⟩;have zw4:=xw4.size;replace hA:=hA.ext xw4 (fun q _ hq'=>hS q hq');go_wp2_with fail;refine(xK _ _ _ _).mono ?_;rintro e w5 ⟨rfl,kw5⟩;have zw5:=kw5.size;simp at zw5;have kk:=(zQ.al _ _).trans kw5;have iw5:=(z6 w4 (fun q=>w.heap.size≤q∧q≠b) 3 [v4] _ 1 (by omega) rfl rfl (by omega)).k kw5;replace hA:=hA.keep kk;have hrw5:=hrw4.keep kk;have xw5:Ext (·=g) w4 w5:=zQ.to kk;clear kk;go_wp2_with fail;refine(xK _ _ _ _).mono ?_;rintro e w6 ⟨rfl,kw6⟩;have zw6:=kw6.size;simp at zw6;have kk:=(zQ.al _ _).trans kw6;replace iw5:=iw5.k kk;have iw6:=(z6 w5 (fun q=>w.heap.size≤q∧q≠b) 3 [0,0,0,0] _ 4 (by omega) rfl rfl (by omega)).k kw6;replace hA:=hA.keep kk;have hrw6:=hrw5.keep kk;have xw6:Ext (·=g) w5 w6:=zQ.to kk;clear kk;go_wp2_with fail;refine(xK _ _ _ _).mono ?_;rintro e w7 ⟨rfl,kw7⟩;have zw7:=kw7.size;simp at zw7;have kk:=(zQ.al _ _).trans kw7;replace iw5:=iw5.k kk;replace iw6:=iw6.k kk;have iw7:=(z6 w6 (fun q=>w.heap.size≤q∧q≠b) 3 [] _ 0 (by omega) rfl rfl (by omega)).k kw7;replace hA:=hA.keep kk;have hrw7:=hrw6.keep kk;have xw7:Ext (·=g) w6 w7:=zQ.to kk;clear kk;have hc:=QR w7 (fun q=>w.heap.size≤q∧q≠b) 155 [[v4], [0,0,0,0], []] [_,_,_] 3 (by omega) ⟨_,_,rfl,iw5,_,_,rfl,iw6,_,_,rfl,iw7,rfl⟩ rfl (by omega);replace hA:=hA.keep (zQ.al w7 (.cells #[.slice (some ⟨w4.heap.size,0,none⟩) 1 1,.slice (some ⟨w5.heap.size,0,none⟩) 4 4,.slice (some ⟨w6.heap.size,0,none⟩) 0 0] 155));obtain⟨⟨u0,c0⟩,⟨u1,c1⟩,⟨u2,c2⟩,g0,g1,g2⟩:=hA.slot hkl;go_wp2_with fail;have xe:=(zQ.to (S:=fun q=>q=b) (zQ.al w7 (.cells #[.slice (some ⟨w4.heap.size,0,none⟩) 1 1,.slice (some ⟨w5.heap.size,0,none⟩) 4 4,.slice (some ⟨w6.heap.size,0,none⟩) 0 0] 155))).trans (ZU _ b (k*3) (.int .i64 0) (.int .i64 0) (.slice (some ⟨w7.heap.size,0,none⟩) 3 3));exact zB hQ ⟨_,ds.set k ⟨0,0, [[v4], [0,0,0,0], []]⟩,p+1+1+1+1,by simp;omega,by simp;omega,rfl,hA.putD rfl hkd hc,hrw7.ext xe (fun q hq e=>by omega),by omega,((((x13.trans xw4).trans xw5).trans xw6).trans xw7).then_ xe (fun q hq e=>by omega)⟩
 have t1:((z:Int)==1)=false:=beq_eq_false_iff_ne.2 y1;clear y1;by_cases y2:z=2
 ·subst y2
  go_wp2_with fail;refine(xK _ _ _ _).mono ?_;rintro e w5 ⟨rfl,kw5⟩;have zw5:=kw5.size;simp at zw5;have kk:=(zQ.al _ _).trans kw5;have iw5:=(z6 w3 (fun q=>w.heap.size≤q∧q≠b) 3 [(k:Int)+1] _ 1 (by omega) rfl rfl (by omega)).k kw5;replace hA:=hA.keep kk;have hrw5:=hrw3.keep kk;have xw5:Ext (·=g) w3 w5:=zQ.to kk;clear kk;have hc:=QR w5 (fun q=>w.heap.size≤q∧q≠b) 155 [[(k:Int)+1]] [_] 1 (by omega) ⟨_,_,rfl,iw5,rfl⟩ rfl (by omega);replace hA:=hA.keep (zQ.al w5 (.cells #[.slice (some ⟨w3.heap.size,0,none⟩) 1 1] 155));obtain⟨⟨u0,c0⟩,⟨u1,c1⟩,⟨u2,c2⟩,g0,g1,g2⟩:=hA.slot hkl;go_wp2_with fail;have xe:=(zQ.to (S:=fun q=>q=b) (zQ.al w5 (.cells #[.slice (some ⟨w3.heap.size,0,none⟩) 1 1] 155))).trans (ZU _ b (k*3) (.int .i64 0) (.int .i64 0) (.slice (some ⟨w5.heap.size,0,none⟩) 1 1));exact zB hQ ⟨_,ds.set k ⟨0,0, [[(k:Int)+1]]⟩,p+1+1+1,by simp;omega,by simp;omega,rfl,hA.putD rfl hkd hc,hrw5.ext xe (fun q hq e=>by omega),by omega,(x13.trans xw5).then_ xe (fun q hq e=>by omega)⟩
 have t2:((z:Int)==2)=false:=beq_eq_false_iff_ne.2 y2;clear y2;by_cases y3:z=3
 ·subst y3
  go_wp2_with fail;refine(GN B g _ [0,2,1] 3 _ _ _ _ hrw3 (by omega) rfl rfl (by omega) (by omega)).mono ?_;rintro e w4 ⟨v4,_,rfl,hrw4,xw4⟩;have zw4:=xw4.size;replace hA:=hA.ext xw4 (fun q _ hq'=>hS q hq');have hX:=vF w4 (fun q=>w.heap.size≤q∧q≠b) 125 [(⟨2,v4, []⟩:zG)] [.int .i64 2,.int .i64 v4,.slice none 0 0] 1 (by omega) ⟨_,_,rfl,Rd.nilC _ _ none 0,rfl⟩ rfl (by omega);replace hA:=hA.keep (zQ.al w4 (.cells #[.int .i64 2,.int .i64 v4,.slice none 0 0] 125));go_wp2_with (at_builtin;refine yz _ rfl (.tmp 54) (.tmp 59) 27 rfl w.heap.size 125 (.agg #[.int .i64 0,.int .i64 0,.slice none 0 0]) 3 40 Tryz.underlying27 (by kernel_rfl) rfl (by omega) (fun b=>w.heap.size≤b) _ _ rfl hA _ 1 1 _ _ rfl hX (fun q _ hq=>⟨hq.1,by show some b≠some q;intro h;injection h;omega⟩) (by simp;omega) (by simp;omega) (by simp;omega) ?_;intro v1 w10 hB xB sB);have xa:=(zQ.to (S:=fun q=>w.heap.size≤q) (zQ.al _ _)).trans xB;have hB2:zq w10 w.heap.size (fun b=>w.heap.size≤b) 125 3 v1 ((ds++ [(⟨2,v4, []⟩:zG)]).map yk):=by rw[List.map_append];exact hB
  exact zB hQ ⟨v1,ds++ [(⟨2,v4, []⟩:zG)],p+1+1+1+1,by simp;omega,by simp;omega,rfl,hB2,hrw4.ext xa (fun q hq e=>by omega),by omega,(x13.trans xw4).then_ xa (fun q hq e=>by omega)⟩
 have t3:((z:Int)==3)=false:=beq_eq_false_iff_ne.2 y3;clear y3;by_cases y4:z=4
 ·subst y4
  go_wp2_with fail;refine(jD B g _ _ _ hrw3 (by omega) (by omega)).mono ?_;rintro e w4 ⟨v4,rfl,hv4,_,hrw4,xw4⟩;obtain⟨hv40,hv41⟩:=hv4 (by omega);clear hv4;have zw4:=xw4.size;replace hA:=hA.ext xw4 (fun q _ hq'=>hS q hq');go_wp2_with fail;refine(xK _ _ _ _).mono ?_;rintro e w5 ⟨rfl,kw5⟩;have zw5:=kw5.size;simp at zw5;have kk:=(zQ.al _ _).trans kw5;have iw5:=(z6 w4 (fun q=>w.heap.size≤q∧q≠b) 3 [] _ 0 (by omega) rfl rfl (by omega)).k kw5;replace hA:=hA.keep kk;have hrw5:=hrw4.keep kk;have xw5:Ext (·=g) w4 w5:=zQ.to kk;clear kk;go_wp2_with fail;refine(xK _ _ _ _).mono ?_;rintro e w6 ⟨rfl,kw6⟩;have zw6:=kw6.size;simp at zw6;have kk:=(zQ.al _ _).trans kw6;replace iw5:=iw5.k kk;have iw6:=(z6 w5 (fun q=>w.heap.size≤q∧q≠b) 3 [2] _ 1 (by omega) rfl rfl (by omega)).k kw6;replace hA:=hA.keep kk;have hrw6:=hrw5.keep kk;have xw6:Ext (·=g) w5 w6:=zQ.to kk;clear kk;go_wp2_with fail;refine(xK _ _ _ _).mono ?_;rintro e w7 ⟨rfl,kw7⟩;have zw7:=kw7.size;simp at zw7;have kk:=(zQ.al _ _).trans kw7;replace iw5:=iw5.k kk;replace iw6:=iw6.k kk;have iw7:=(z6 w6 (fun q=>w.heap.size≤q∧q≠b) 3 [] _ 0 (by omega) rfl rfl (by omega)).k kw7;replace hA:=hA.keep kk;have hrw7:=hrw6.keep kk;have xw7:Ext (·=g) w6 w7:=zQ.to kk;clear kk;go_wp2_with fail;refine(xK _ _ _ _).mono ?_;rintro e w8 ⟨rfl,kw8⟩;have zw8:=kw8.size;simp at zw8;have kk:=(zQ.al _ _).trans kw8;replace iw5:=iw5.k kk;replace iw6:=iw6.k kk;replace iw7:=iw7.k kk;have iw8:=(z6 w7 (fun q=>w.heap.size≤q∧q≠b) 3 [] _ 0 (by omega) rfl rfl (by omega)).k kw8;replace hA:=hA.keep kk;have hrw8:=hrw7.keep kk;have xw8:Ext (·=g) w7 w8:=zQ.to kk;clear kk;have hc:=QR w8 (fun q=>w.heap.size≤q∧q≠b) 155 [[], [2], [], []] [_,_,_,_] 4 (by omega) ⟨_,_,rfl,iw5,_,_,rfl,iw6,_,_,rfl,iw7,_,_,rfl,iw8,rfl⟩ rfl (by omega);have kk:=zQ.al w8 (.cells #[.slice (some ⟨w4.heap.size,0,none⟩) 0 0,.slice (some ⟨w5.heap.size,0,none⟩) 1 1,.slice (some ⟨w6.heap.size,0,none⟩) 0 0,.slice (some ⟨w7.heap.size,0,none⟩) 0 0] 155);replace hA:=hA.keep kk;replace hrw8:=hrw8.keep kk;go_wp2_with fail;refine(jD B g _ _ _ hrw8 (by omega) (by omega)).mono ?_;rintro e w9 ⟨v9,rfl,hv9,_,hrw9,xw9⟩;obtain⟨hv90,hv91⟩:=hv9 (by omega);clear hv9;have zw9:=xw9.size;replace hA:=hA.ext xw9 (fun q _ hq'=>hS q hq');simp at zw9;replace hc:=hc.ext xw9 (fun q hq e=>by omega);have x49:=((((((x13.trans xw4).trans xw5).trans xw6).trans xw7).trans xw8).trans (zQ.to kk)).trans xw9;have hv9:v9=0∨v9=1∨v9=2:=by omega
  clear iw5 iw6 iw7 iw8 kk xw4 xw5 xw6 xw7 xw8 xw9;obtain⟨⟨u0,c0⟩,⟨u1,c1⟩,⟨u2,c2⟩,g0,g1,g2⟩:=hA.slot hkl;rcases hv9 with rfl|rfl|rfl
  ·have hc2:=hc.suffix (m:=0) (by omega)
   simp only[List.drop_zero,List.map_cons,List.map_nil]at hc2;clear hc;go_wp2_with fail;exact zB hQ ⟨_,ds.set k ⟨v4,0, [[], [2], [], []]⟩,p+1+1+1+1+1,by simp;omega,by simp;omega,rfl,hA.putD rfl hkd hc2,hrw9.ext (ZU _ _ _ _ _ _) (fun q hq e=>by omega),by omega,x49.then_ (ZU _ _ _ _ _ _) (fun q hq e=>by omega)⟩
  ·have hc2:=hc.suffix (m:=1) (by omega)
   simp only[List.drop_zero,List.drop_succ_cons,List.map_cons,List.map_nil]at hc2;clear hc;go_wp2_with fail;exact zB hQ ⟨_,ds.set k ⟨v4,0, [[2], [], []]⟩,p+1+1+1+1+1,by simp;omega,by simp;omega,rfl,hA.putD rfl hkd hc2,hrw9.ext (ZU _ _ _ _ _ _) (fun q hq e=>by omega),by omega,x49.then_ (ZU _ _ _ _ _ _) (fun q hq e=>by omega)⟩
  ·have hc2:=hc.suffix (m:=2) (by omega)
   simp only[List.drop_zero,List.drop_succ_cons,List.map_cons,List.map_nil]at hc2;clear hc;go_wp2_with fail;exact zB hQ ⟨_,ds.set k ⟨v4,0, [[], []]⟩,p+1+1+1+1+1,by simp;omega,by simp;omega,rfl,hA.putD rfl hkd hc2,hrw9.ext (ZU _ _ _ _ _ _) (fun q hq e=>by omega),by omega,x49.then_ (ZU _ _ _ _ _ _) (fun q hq e=>by omega)⟩
 have t4:((z:Int)==4)=false:=beq_eq_false_iff_ne.2 y4;clear y4;by_cases y5:z=5
 ·subst y5
  have hX:=vF w3 (fun q=>w.heap.size≤q∧q≠b) 125 [(⟨0,0, []⟩:zG),(⟨3,0, []⟩:zG)] [.int .i64 0,.int .i64 0,.slice none 0 0,.int .i64 3,.int .i64 0,.slice none 0 0] 2 (by omega) ⟨_,_,rfl,Rd.nilC _ _ none 0,_,_,rfl,Rd.nilC _ _ none 0,rfl⟩ rfl (by omega);replace hA:=hA.keep (zQ.al w3 (.cells #[.int .i64 0,.int .i64 0,.slice none 0 0,.int .i64 3,.int .i64 0,.slice none 0 0] 125));go_wp2_with (at_builtin;refine yz _ rfl (.tmp 83) (.tmp 86) 27 rfl w.heap.size 125 (.agg #[.int .i64 0,.int .i64 0,.slice none 0 0]) 3 40 Tryz.underlying27 (by kernel_rfl) rfl (by omega) (fun b=>w.heap.size≤b) _ _ rfl hA _ 2 2 _ _ rfl hX (fun q _ hq=>⟨hq.1,by show some b≠some q;intro h;injection h;omega⟩) (by simp;omega) (by simp;omega) (by simp;omega) ?_;intro v1 w10 hB xB sB);have xa:=(zQ.to (S:=fun q=>w.heap.size≤q) (zQ.al _ _)).trans xB;have hB2:zq w10 w.heap.size (fun b=>w.heap.size≤b) 125 3 v1 ((ds++ [(⟨0,0, []⟩:zG),(⟨3,0, []⟩:zG)]).map yk):=by rw[List.map_append];exact hB
  exact zB hQ ⟨v1,ds++ [(⟨0,0, []⟩:zG),(⟨3,0, []⟩:zG)],p+1+1+1,by simp;omega,by simp;omega,rfl,hB2,hrw3.ext xa (fun q hq e=>by omega),by omega,x13.then_ xa (fun q hq e=>by omega)⟩
 have t5:((z:Int)==5)=false:=beq_eq_false_iff_ne.2 y5;clear y5;go_wp2_with fail;exact zB hQ ⟨_,ds,p+1+1+1,by omega,by omega,rfl,hA,hrw3,by omega,x13⟩
end Go.Proofs.YtkapldpmjkdmcaaGreat
