/- conCount, firstCon, conType, conAt and arrowOf of the program and of the reference. -/
import Derived.Test.YtkapldpmjkdmcaaGreatUAB
import Derived.Test.YtkapldpmjkdmcaaGreatUAC
namespace Go.Proofs.YtkapldpmjkdmcaaGreat
open Go.RowKit
set_option maxHeartbeats 1000000
theorem ME{w w2:World}{cs:Array Value}{T:TypeId}(h:zQ (w.alloc (.cells cs T)) w2)(i:Nat):w2.cell? ⟨w.heap.size,i,none⟩=cs[i]?:=by
 rw[h.cell (p:=⟨w.heap.size,i,none⟩) (by simp) (fun h=>h),cell_of_row _ w.heap.size i cs T (0,0) (heap_alloc_new w _)]
theorem implConCount0(a:Option Addr)(n c:Nat)(ds:List zG)(D:Nat→Prop)(w:World)(h:qy w D a n ds)(hf:Few ds):
  Calls Tryz.prog 155 #[.slice a n c] w fun e w'=>e=.returned (.int .i64 (KP ds))∧zQ w w':=by
 refine zV fun Q hQ=>?_;have hlen:=h.1;have HL:=LH hlen;have hn4:n≤4:=by have:=hf.1;omega
 clear hlen;go_in;go_wp2;go_loopw [3,8] (fun t i wr=>∃k:Nat,k≤n∧i=.int .i64 k∧t=.int .i64 (zj ds k)∧zQ w wr) (fun _ i _=>n-(intOf i).toNat)
 case atStart=>exact⟨0,Nat.zero_le _,rfl,rfl,Ext.refl _ _⟩
 case round=>
  obtain⟨k,hk,rfl,rfl,hK⟩:=hrel;by_cases hlt:k<n
  ·have h1:=h.ext hK (fun _ _ h=>h)
   obtain⟨b,o,rfl,hd,hc⟩:=h1.2 (by omega);obtain⟨c0,c1,a',m,c',c2,hmc,hcons⟩:=hc k hlt;have HM:=LH hcons.1;have b1:=xz hf (k:=k) (by have:=HL.out;omega);have b2:m≤3:=by have:=hf.2 k (by have:=HL.out;omega);have:=HM.out;omega
   clear hc hcons h1 h;go_wp2;go_roundw
   case rel=>exact⟨k+1,by omega,by go_num,by simp only[zj,HM.out];go_num,hK.trans ((Ext.refl _ _).alloc _)⟩
   case measure=>simp[intOf];omega
  ·go_wp2
   exact zB hQ ⟨zE (by rw[KP,HL.out,show k=n by omega]),hK⟩
theorem vV(a:Option Addr)(n c:Nat)(ds:List zG)(D:Nat→Prop)(at_:Nat)(w:World)(h:qy w D a n ds)(hf:Few ds)(hat:at_≤n):
  Calls Tryz.prog 196 #[.slice a n c,.int .i64 at_] w fun e w'=>e=.returned (.int .i64 (zj ds at_))∧w=w':=by
 refine zV fun Q hQ=>?_;have hlen:=h.1;have HL:=LH hlen;have hn4:n≤4:=by have:=hf.1;omega
 clear hlen;go_in;go_wp2;go_loop [5,6] (fun t i=>∃k:Nat,k≤at_∧i=.int .i64 k∧t=.int .i64 (zj ds k)) (fun _ i=>at_-(intOf i).toNat)
 case atStart=>exact⟨0,Nat.zero_le _,rfl,rfl⟩
 case round=>
  obtain⟨k,hk,rfl,rfl⟩:=hrel;by_cases hlt:k<at_
  ·obtain⟨b,o,rfl,hd,hc⟩:=h.2 (by omega)
   obtain⟨c0,c1,a',m,c',c2,hmc,hcons⟩:=hc k (by omega);have HM:=LH hcons.1;have b1:=xz hf (k:=k) (by have:=HL.out;omega);have b2:m≤3:=by have:=hf.2 k (by have:=HL.out;omega);have:=HM.out;omega
   clear hc hcons h;go_wp2;go_round
   case rel=>exact⟨k+1,by omega,by go_num,by simp only[zj,HM.out];go_num⟩
   case measure=>simp[intOf];omega
  ·go_wp2
   exact zB hQ ⟨zE (by rw[show k=at_ by omega]),rfl⟩
theorem jC(a:Option Addr)(n c:Nat)(ds:List zG)(D:Nat→Prop)(x:Int)(w:World)(h:qy w D a n ds)(hf:Few ds):
  Calls Tryz.prog 146 #[.slice a n c,.int .i64 x] w fun e w'=>e=.returned (.int .i64 (yV ds x))∧w=w':=by
 refine zV fun Q hQ=>?_;have hlen:=h.1;have HL:=LH hlen;have hn4:n≤4:=by have:=hf.1;omega
 clear hlen;go_in;go_wp2;go_loop [5] (fun i=>∃k:Nat,k≤n∧i=.int .i64 k∧Hid (∀j,j<k→ZZ ds x j=false)) (fun i=>n-(intOf i).toNat)
 case atStart=>exact⟨0,Nat.zero_le _,rfl,fun j hj=>absurd hj (by omega)⟩
 case round=>
  obtain⟨k,hk,rfl,H⟩:=hrel;by_cases hlt:k<n
  ·obtain⟨b,o,rfl,hd,hc⟩:=h.2 (by omega)
   obtain⟨c0,c1,a',m,c',c2,hmc,hcons⟩:=hc k (by omega);have HM:=LH hcons.1;have b1:=xz hf (k:=k) (by have:=HL.out;omega);have b2:m≤3:=by have:=hf.2 k (by have:=HL.out;omega);have:=HM.out;omega
   have HI:Hid (ZZ ds x k=decide ((zj ds k:Int)≤x∧x≤(zj ds k:Int)+(m:Int)-1)):=by
    show _=_;simp only[ZZ,zj,HM.out];congr 1;simp only[eq_iff_iff];omega
   clear hc hcons;cases hv:decide ((zj ds k:Int)≤x∧x≤(zj ds k:Int)+(m:Int)-1)
   ·go_wp2_with fail
    refine(vV _ _ _ _ _ _ _ h hf (by omega)).mono ?_;rintro e w1 ⟨rfl,rfl⟩;go_wp2_with (go_at_call 60;refine(qQ _ _ _ _).mono ?_;rintro e w1 ⟨rfl,rfl⟩);go_round
    case rel=>exact⟨k+1,by omega,by go_num,fun j hj=>by
     rcases Nat.lt_succ_iff_lt_or_eq.1 hj with h|rfl
     ·exact H.out j h
     ·rw[HI.out];exact hv⟩
    case measure=>simp[intOf];omega
   ·go_wp2_with fail
    refine(vV _ _ _ _ _ _ _ h hf (by omega)).mono ?_;rintro e w1 ⟨rfl,rfl⟩;go_wp2_with (go_at_call 60;refine(qQ _ _ _ _).mono ?_;rintro e w1 ⟨rfl,rfl⟩);exact zB hQ ⟨zE (by rw[yV,kK,vX (by have:=HL.out;omega) (by rw[HI.out];exact hv) H.out];rfl),rfl⟩
  ·go_wp2
   exact zB hQ ⟨zE (by rw[yV,kK,uY (fun j hj=>H.out j (by have:=HL.out;omega))];rfl),rfl⟩
theorem g7{ds:List zG}{x:Int}{k:Nat}:ZZ ds x k=true↔0≤x-(zj ds k:Int)∧x-(zj ds k:Int)<((dAt ds k).cons.length:Int):=by
 constructor
 ·intro h
  have:=of_decide_eq_true h;simp only[zj]at this;omega
 ·intro h
  refine decide_eq_true ?_;simp only[zj];omega
theorem VZ(a:Option Addr)(n c:Nat)(ds:List zG)(D:Nat→Prop)(x:Int)(w:World)(h:qy w D a n ds)(hf:Few ds)(hx1: -9223372036854775000≤x)(hx2:x≤9223372036854775807):
  Calls Tryz.prog 156 #[.slice a n c,.int .i64 x] w fun e w'=>∃a' m c',e=.returned (.tuple #[.int .i64 (yV ds x),.agg #[.slice a' m c']])∧m≤c'∧
   qN w D a' m (zR ds x)∧zQ w w':=by
 refine zV fun Q hQ=>?_;have hlen:=h.1;have HL:=LH hlen;have hn4:n≤4:=by have:=hf.1;omega
 clear hlen;go_in;go_wp2;go_loopw [1,10] (fun cv i wr=>∃k:Nat,k≤n∧i=.int .i64 k∧cv=.int .i64 (x-(zj ds k:Int))∧zQ (w.alloc (.cells #[.slice none 0 0] 155)) wr∧Hid (∀j,j<k→ZZ ds x j=false)) (fun _ i _=>n-(intOf i).toNat)
 case atStart=>exact⟨0,Nat.zero_le _,rfl,by simp[zj],Ext.refl _ _,fun j hj=>absurd hj (by omega)⟩
 case round=>
  obtain⟨k,hk,rfl,rfl,hK,H⟩:=hrel;have hK0:zQ w wr:=((Ext.refl _ w).alloc _).trans hK;have hr0:wr.cell? ⟨w.heap.size,0,none⟩=some (.slice none 0 0):=ME hK 0;have hr1:wr.frozen? ⟨w.heap.size,0,none⟩=false:=by rw[hK.frozen (p:=⟨w.heap.size,0,none⟩) (by simp) (fun h=>h)];simp
  have hsz:w.heap.size<wr.heap.size:=by have:=hK.size;simp at this;omega
  have b1:=xz hf (k:=k) (by have:=HL.out;omega);by_cases hlt:k<n
  ·have h1:=h.ext hK0 (fun _ _ h=>h)
   obtain⟨b,o,rfl,hd,hc0⟩:=h.2 (by omega);obtain⟨_,_,a',m,c',c2,hmc,hcons⟩:=hc0 k hlt;obtain⟨d0,d1,_,_,_,d2,_,_⟩:=hc0 k hlt;obtain⟨c0,c1,c3⟩:=hK0.k3 d0 d1 c2;have HM:=LH hcons.1;have HC:=LH hcons;have b2:m≤3:=by have:=hf.2 k (by have:=HL.out;omega);have:=HM.out;omega
   clear hc0 h1 h d0 d1 d2 c2 hcons;cases hv:ZZ ds x k
   ·have V:=LH hv
    clear hv;by_cases g:0≤x-(zj ds k:Int)
    ·have g2:¬x-(zj ds k:Int)<(m:Int):=by
      intro g2;have:=V.out;rw[g7.2 ⟨g,by rw[HM.out];exact g2⟩]at this;cases this
     go_wp2;go_roundw
     case rel=>exact⟨k+1,by omega,by go_num,by simp only[zj,HM.out];congr 1;omega,hK.trans ((Ext.refl _ _).alloc _),fun j hj=>by
      rcases Nat.lt_succ_iff_lt_or_eq.1 hj with h|rfl
      ·exact H.out j h
      ·exact V.out⟩
     case measure=>simp[intOf];omega
    ·go_wp2
     go_roundw
     case rel=>exact⟨k+1,by omega,by go_num,by simp only[zj,HM.out];congr 1;omega,hK.trans ((Ext.refl _ _).alloc _),fun j hj=>by
      rcases Nat.lt_succ_iff_lt_or_eq.1 hj with h|rfl
      ·exact H.out j h
      ·exact V.out⟩
     case measure=>simp[intOf];omega
   ·have V:=LH hv
    clear hv;have g:=g7.1 V.out;rw[HM.out]at g;obtain⟨g1,g2⟩:=g;obtain⟨j,hj⟩:=Int.eq_ofNat_of_zero_le g1;have hjm:j<m:=by omega
    obtain⟨b1',o1,rfl,hd1,hc1⟩:=HC.out.2 (by omega);obtain⟨a2,m2,c2',x0,hmc2,hints⟩:=hc1 j hjm;have x1:=hK0.q x0;have HJ:=LH hj;rw[hj]at g1 g2 ⊢;have hKa:zQ wr (wr.alloc (.cells #[.int .i64 (dAt ds k).from_,.int .i64 (dAt ds k).to_,.slice (some ⟨b1',o1,none⟩) m c'] 125)):=(Ext.refl _ _).alloc _;obtain⟨xa,ra⟩:=hKa.k2 x1 hr0;have rb:=(hKa.frozen (p:=⟨w.heap.size,0,none⟩) hsz (fun h=>h)).trans hr1;clear hj hc1 x0 hKa;go_wp2;go_region;all_goals go_wp2
    refine bodyPost_ret (v:=.tuple #[.int .i64 ((k:Int)+1),.agg #[.slice a2 m2 c2']]) (by simp[results,Tryz.results156,go_sem,hr0,hsz]) rfl (zB hQ ⟨a2,m2,c2',?_,hmc2,?_,?_⟩)
    ·rw[yV,kK,vX (by have:=HL.out;omega) V.out H.out];rfl
    ·rw[zR,kK,vX (by have:=HL.out;omega) V.out H.out]
     show qN w D a2 m2 (cAt (dAt ds k).cons (x.toNat-zj ds k));rw[show x.toNat-zj ds k=j by have:=HJ.out;omega];exact hints
    ·exact((hK0.setCell (p:=⟨w.heap.size,0,none⟩) (.inl (Nat.le_refl _)) _).alloc _).drew
  ·go_wp2
   refine bodyPost_ret (v:=.tuple #[.int .i64 (-1),.agg #[.slice none 0 0]]) (by simp[results,Tryz.results156,go_sem,hr0]) rfl (zB hQ ⟨none,0,0,?_,Nat.le_refl _,?_,?_⟩)
   ·rw[yV,kK,uY (fun j hj=>H.out j (by have:=HL.out;omega))];rfl
   ·rw[zR,kK,uY (fun j hj=>H.out j (by have:=HL.out;omega))];exact⟨rfl,fun h=>absurd h (by omega)⟩
   ·exact hK0.setCell (p:=⟨w.heap.size,0,none⟩) (.inl (Nat.le_refl _)) _
theorem LN{v:Int}{m k:Nat}(h1:v<0∨1000-3*(k:Int)≤v)(h2: -9223372036854775808≤v)(h3:v≤9223372036854775807)(hm:m≤3)(hk:k≤4):
  (wrap64 (v-(m:Int))<0∨1000-3*((k+1:Nat):Int)≤wrap64 (v-(m:Int)))∧ -9223372036854775808≤wrap64 (v-(m:Int))∧wrap64 (v-(m:Int))≤9223372036854775807:=by
 unfold wrap64;omega
theorem Uz(a:Option Addr)(n c:Nat)(ds:List zG)(D:Nat→Prop)(x:Int)(w:World)(h:qy w D a n ds)(hf:Few ds)(hx1: -9223372036854775808≤x)(hx2:x< -9223372036854775000):
  Calls Tryz.prog 156 #[.slice a n c,.int .i64 x] w fun e w'=>∃a' m c',e=.returned (.tuple #[.int .i64 (yV ds x),.agg #[.slice a' m c']])∧m≤c'∧
   qN w D a' m (zR ds x)∧zQ w w':=by
 refine zV fun Q hQ=>?_;have hlen:=h.1;have HL:=LH hlen;have hn4:n≤4:=by have:=hf.1;omega
 have HX:Hid (kK ds x=none):=uY (fun j _=>by
  cases hv:ZZ ds x j
  ·rfl
  ·have:=g7.1 hv;omega)
 clear hlen;go_in;go_wp2;go_loopw [1,10] (fun cv i wr=>∃(k:Nat) (v:Int),k≤n∧i=.int .i64 k∧cv=.int .i64 v∧(v<0∨1000-3*(k:Int)≤v)∧ -9223372036854775808≤v∧v≤9223372036854775807∧zQ (w.alloc (.cells #[.slice none 0 0] 155)) wr) (fun _ i _=>n-(intOf i).toNat)
 case atStart=>exact⟨0,x,Nat.zero_le _,rfl,rfl,by omega,by omega,by omega,Ext.refl _ _⟩
 case round=>
  obtain⟨k,v,hk,rfl,rfl,q1,q2,q3,hK⟩:=hrel;have hK0:zQ w wr:=((Ext.refl _ w).alloc _).trans hK;have hr0:wr.cell? ⟨w.heap.size,0,none⟩=some (.slice none 0 0):=ME hK 0;have hr1:wr.frozen? ⟨w.heap.size,0,none⟩=false:=by rw[hK.frozen (p:=⟨w.heap.size,0,none⟩) (by simp) (fun h=>h)];simp
  have hsz:w.heap.size<wr.heap.size:=by have:=hK.size;simp at this;omega
  by_cases hlt:k<n
  ·obtain⟨b,o,rfl,hd,hc0⟩:=h.2 (by omega)
   obtain⟨d0,d1,a',m,c',d2,hmc,hcons⟩:=hc0 k hlt;obtain⟨c0,c1,c3⟩:=hK0.k3 d0 d1 d2;have HM:=LH hcons.1;have b2:m≤3:=by have:=hf.2 k (by have:=HL.out;omega);have:=HM.out;omega
   have W1:=LH (LN q1 q2 q3 b2 (by omega));clear hc0 h d0 d1 d2 hcons;by_cases g:0≤v
   ·have g2:¬v<(m:Int):=by omega
    clear q1;go_wp2;go_roundw
    case rel=>exact⟨k+1,_,by omega,by go_num,rfl,by first|exact W1.out.1|(rw[←IntWalk.wrap64_in (v-(m:Int)) ⟨by omega,by omega⟩];exact W1.out.1),by first|exact W1.out.2.1|omega,by first|exact W1.out.2.2|omega,hK.trans ((Ext.refl _ _).alloc _)⟩
    case measure=>simp[intOf];omega
   ·clear q1
    go_wp2;go_roundw
    case rel=>exact⟨k+1,_,by omega,by go_num,rfl,W1.out.1,W1.out.2.1,W1.out.2.2,hK.trans ((Ext.refl _ _).alloc _)⟩
    case measure=>simp[intOf];omega
  ·go_wp2
   refine bodyPost_ret (v:=.tuple #[.int .i64 (-1),.agg #[.slice none 0 0]]) (by simp[results,Tryz.results156,go_sem,hr0]) rfl (zB hQ ⟨none,0,0,?_,Nat.le_refl _,?_,?_⟩)
   ·rw[yV,HX.out];rfl
   ·rw[zR,HX.out];exact⟨rfl,fun h=>absurd h (by omega)⟩
   ·exact hK0.setCell (p:=⟨w.heap.size,0,none⟩) (.inl (Nat.le_refl _)) _
theorem ky(a:Option Addr)(n c:Nat)(ds:List zG)(D:Nat→Prop)(x:Int)(w:World)(h:qy w D a n ds)(hf:Few ds)(hx1: -9223372036854775808≤x)(hx2:x≤9223372036854775807):
  Calls Tryz.prog 156 #[.slice a n c,.int .i64 x] w fun e w'=>∃a' m c',e=.returned (.tuple #[.int .i64 (yV ds x),.agg #[.slice a' m c']])∧m≤c'∧
   qN w D a' m (zR ds x)∧zQ w w':=by
 by_cases g: -9223372036854775000≤x
 ·exact VZ a n c ds D x w h hf g hx2
 ·exact Uz a n c ds D x w h hf hx1 (by omega)
theorem uj{ds:List zG}{f t:Int}{k:Nat}(h:(dAt ds k).cons.length≠0∨((dAt ds k).from_==f)=false∨((dAt ds k).to_==t)=false):gy ds f t k=false:=by
 unfold gy;rcases h with h|h|h<;>simp_all
theorem UH{ds:List zG}{f t:Int}{k:Nat}(h:(dAt ds k).cons.length=0)(h1:((dAt ds k).from_==f)=true)(h2:((dAt ds k).to_==t)=true):gy ds f t k=true:=by
 unfold gy;simp_all
theorem gF(a:Option Addr)(n c:Nat)(ds:List zG)(D:Nat→Prop)(f t:Int)(w:World)(h:qy w D a n ds)(hn4:n≤1048576):
  Calls Tryz.prog 204 #[.slice a n c,.int .i64 f,.int .i64 t] w fun e w'=>e=.returned (.int .i64 (xG ds f t))∧zQ w w':=by
 refine zV fun Q hQ=>?_;have hlen:=h.1;have HL:=LH hlen;clear hlen;go_in;go_wp2;go_loopw [11] (fun i wr=>∃k:Nat,k≤n∧i=.int .i64 k∧zQ w wr∧Hid (∀j,j<k→gy ds f t j=false)) (fun i _=>n-(intOf i).toNat)
 case atStart=>exact⟨0,Nat.zero_le _,rfl,Ext.refl _ _,fun j hj=>absurd hj (by omega)⟩
 case round=>
  obtain⟨k,hk,rfl,hK,H⟩:=hrel;by_cases hlt:k<n
  ·have h1:=h.ext hK (fun _ _ h=>h)
   obtain⟨b,o,rfl,hd,hc⟩:=h1.2 (by omega);obtain⟨c0,c1,a',m,c',c2,hmc,hcons⟩:=hc k (by omega);have HM:=LH hcons.1;clear hc hcons h1 h;by_cases g0:m=0
   ·subst g0
    cases g1:((dAt ds k).from_==f)
    ·have V:=LH (uj (ds:=ds) (f:=f) (t:=t) (k:=k) (.inr (.inl g1)))
     go_wp2;go_roundw
     case rel=>exact⟨k+1,by omega,by go_num,hK.trans ((Ext.refl _ _).alloc _),fun j hj=>by
      rcases Nat.lt_succ_iff_lt_or_eq.1 hj with h|rfl
      ·exact H.out j h
      ·exact V.out⟩
     case measure=>simp[intOf];omega
    ·cases g2:((dAt ds k).to_==t)
     ·have V:=LH (uj (ds:=ds) (f:=f) (t:=t) (k:=k) (.inr (.inr g2)))
      go_wp2;go_roundw
      case rel=>exact⟨k+1,by omega,by go_num,hK.trans ((Ext.refl _ _).alloc _),fun j hj=>by
       rcases Nat.lt_succ_iff_lt_or_eq.1 hj with h|rfl
       ·exact H.out j h
       ·exact V.out⟩
      case measure=>simp[intOf];omega
     ·have V:=LH (UH HM.out g1 g2)
      go_wp2;exact zB hQ ⟨zE (by rw[xG,vX (by have:=HL.out;omega) V.out H.out];rfl),hK.trans ((Ext.refl _ _).alloc _)⟩
   ·have g0':((m:Int)==0)=false:=by simp;omega
    have V:=LH (uj (ds:=ds) (f:=f) (t:=t) (k:=k) (.inl (by rw[HM.out];exact g0)));go_wp2;go_roundw
    case rel=>exact⟨k+1,by omega,by go_num,hK.trans ((Ext.refl _ _).alloc _),fun j hj=>by
     rcases Nat.lt_succ_iff_lt_or_eq.1 hj with h|rfl
     ·exact H.out j h
     ·exact V.out⟩
    case measure=>simp[intOf];omega
  ·go_wp2
   exact zB hQ ⟨zE (by rw[xG,uY (fun j hj=>H.out j (by have:=HL.out;omega))];rfl),hK⟩
theorem gV(a:Option Addr)(n c:Nat)(ds:List zG)(D:Nat→Prop)(f t:Int)(w:World)(h:qy w D a n ds)(hn4:n≤1048576):
  Calls Tryz.prog 198 #[.slice a n c,.int .i64 f,.int .i64 t] w fun e w'=>e=.returned (.int .i64 (xG ds f t))∧w=w':=by
 refine zV fun Q hQ=>?_;have hlen:=h.1;have HL:=LH hlen;clear hlen;go_in;go_wp2;go_loop [7] (fun i=>∃k:Nat,k≤n∧i=.int .i64 k∧Hid (∀j,j<k→gy ds f t j=false)) (fun i=>n-(intOf i).toNat)
 case atStart=>exact⟨0,Nat.zero_le _,rfl,fun j hj=>absurd hj (by omega)⟩
 case round=>
  obtain⟨k,hk,rfl,H⟩:=hrel;by_cases hlt:k<n
  ·obtain⟨b,o,rfl,hd,hc⟩:=h.2 (by omega)
   obtain⟨c0,c1,a',m,c',c2,hmc,hcons⟩:=hc k (by omega);have HM:=LH hcons.1;clear hc hcons h;by_cases g0:m=0
   ·subst g0
    cases g1:((dAt ds k).from_==f)
    ·have V:=LH (uj (ds:=ds) (f:=f) (t:=t) (k:=k) (.inr (.inl g1)))
     go_wp2;go_round
     case rel=>exact⟨k+1,by omega,by go_num,fun j hj=>by
      rcases Nat.lt_succ_iff_lt_or_eq.1 hj with h|rfl
      ·exact H.out j h
      ·exact V.out⟩
     case measure=>simp[intOf];omega
    ·cases g2:((dAt ds k).to_==t)
     ·have V:=LH (uj (ds:=ds) (f:=f) (t:=t) (k:=k) (.inr (.inr g2)))
      go_wp2;go_round
      case rel=>exact⟨k+1,by omega,by go_num,fun j hj=>by
       rcases Nat.lt_succ_iff_lt_or_eq.1 hj with h|rfl
       ·exact H.out j h
       ·exact V.out⟩
      case measure=>simp[intOf];omega
     ·have V:=LH (UH HM.out g1 g2)
      go_wp2;exact zB hQ ⟨zE (by rw[xG,vX (by have:=HL.out;omega) V.out H.out];rfl),rfl⟩
   ·have g0':((m:Int)==0)=false:=by simp;omega
    have V:=LH (uj (ds:=ds) (f:=f) (t:=t) (k:=k) (.inl (by rw[HM.out];exact g0)));go_wp2;go_round
    case rel=>exact⟨k+1,by omega,by go_num,fun j hj=>by
     rcases Nat.lt_succ_iff_lt_or_eq.1 hj with h|rfl
     ·exact H.out j h
     ·exact V.out⟩
    case measure=>simp[intOf];omega
  ·go_wp2
   exact zB hQ ⟨zE (by rw[xG,uY (fun j hj=>H.out j (by have:=HL.out;omega))];rfl),rfl⟩
def ZT(ds:List zG)(v:Int):Int:=if qU ds=true then v else -1
def kH(f k:Nat):List Int:=(List.range k).map fun i=>((f+i:Nat):Int)
theorem JC(f k:Nat):kH f (k+1)=kH f k++ [((f+k:Nat):Int)]:=by simp[kH,List.range_succ]
theorem Wx{ds:List zG}{k:Nat}(h:k<ds.length):zv ds ((k:Int)+1)=kH (zj ds k) (dAt ds k).cons.length:=by
 have e:((k:Int)+1).toNat-1=k:=by omega
 simp only[zv];rw[if_pos (by omega),e];rfl
theorem JX{ds:List zG}{t:Int}(h:¬(1≤t∧t≤(ds.length:Int))):zv ds t= []:=if_neg h
theorem jq(a:Option Addr)(n c:Nat)(ds:List zG)(D:Nat→Prop)(t:Int)(w:World)(h:qy w D a n ds)(hf:Few ds):
  Calls Tryz.prog 197 #[.slice a n c,.int .i64 t] w fun e w'=>∃a' m c',e=.returned (.slice a' m c')∧m≤c'∧jB w' (fun k=>w.heap.size≤k) a' m (zv ds t)∧zQ w w':=by
 refine zV fun Q hQ=>?_;have HL:=LH h.1;have hn4:n≤4:=by have:=hf.1;have:=h.1;omega
 have hK0:zQ w (w.alloc (.cells #[] 3)):=(Ext.refl _ w).alloc _;have hown0:(w.alloc (.cells #[] 3)).ownsRow w.heap.size 3 1 (.slice (some ⟨w.heap.size,0,none⟩) 0 0) 0 (([]:List Int).map (Value.int .i64)):=World.ownsRow_made w #[] 0 (Nat.le_refl _) (by simp[maxLen]) rfl;by_cases ht:1≤t∧t≤(n:Int)
 ·obtain⟨k,rfl⟩:∃k:Nat,t=(k:Int)+1:=⟨(t-1).toNat,by omega⟩
  have hkn:k<n:=by omega
  have hv:decide (1≤(k:Int)+1∧(k:Int)+1≤(n:Int))=true:=decide_eq_true ht;have h1:=h.ext hK0 (fun _ _ h=>h);obtain⟨b,o,rfl,hd,hc⟩:=h.2 (by omega);obtain⟨_,_,a',m,c',c2,hmc,hcons⟩:=hc k hkn;have HM:=LH hcons.1;have HC:=LH (show zv ds ((k:Int)+1)=kH (zj ds k) m by rw[Wx (by have:=HL.out;omega),HM.out]);have b2:m≤3:=by have:=hf.2 k (by have:=HL.out;omega);have:=HM.out;omega
  have b1:=xz hf (k:=k) (by have:=HL.out;omega);have HO:=LH hown0;have C2:=LH c2;clear hc hcons ht hown0 c2;go_in;go_wp2_with (go_at_call 60;refine(qQ _ _ _ _).mono ?_;rintro e w1 ⟨rfl,rfl⟩);go_loopw [5,6] (fun v i wr=>∃j:Nat,j≤m∧i=.int .i64 j∧Hid (wr.ownsRow w.heap.size 3 1 v j ((kH (zj ds k) j).map (Value.int .i64)))∧zQ w wr) (fun _ i _=>m-(intOf i).toNat)
  case atStart=>exact⟨0,Nat.zero_le _,rfl,HO,hK0⟩
  case round=>
   obtain⟨j,hj,rfl,hown,hK⟩:=hrel;have hx2:=hK.q C2.out;by_cases hlt:j<m
   ·have h2:=h.ext hK (fun _ _ h=>h)
    have hbs:w.heap.size≤wr.heap.size:=hK.size;go_wp2_with (first
     |(go_at_call 196;refine(vV _ _ _ _ _ _ _ h2 hf (by omega)).mono ?_;rintro e w1 ⟨rfl,rfl⟩)
     |(at_builtin;refine yv _ rfl (.tmp 25) (.tmp 32) rfl w.heap.size u5 j (kH (zj ds k) j) rfl (hown.out.alloc _) wr.heap.size 1 ((zj ds k:Int)+(j:Int)) rfl (by simp[go_sem]) (by omega) (by simp;omega) ?_;intro v' w' ho hg))
    go_roundw
    case rel=>exact⟨j+1,by omega,by go_num,by
     show World.ownsRow _ _ _ _ _ _ _
     rw[JC,Int.natCast_add];exact ho,(hK.alloc _).grown hg (fun g hg'=>.inl (hown.out.lt g hg').1)⟩
    case measure=>simp[intOf];omega
   ·have HJ:=LH (show j=m by omega)
    go_wp2;obtain⟨a2,cc,rfl,hle,hoi⟩:=jV hown.out;have:=HJ.out;subst this;exact zB hQ ⟨a2,j,cc,rfl,hle,by rw[HC.out];exact hoi,hK⟩
 ·have hv:decide (1≤t∧t≤(n:Int))=false:=decide_eq_false ht
  have HC:=LH (show zv ds t= []by exact JX (by rw[HL.out];exact ht));clear ht;go_in;go_wp2_with (go_at_call 60;refine(qQ _ _ _ _).mono ?_;rintro e w1 ⟨rfl,rfl⟩);exact zB hQ ⟨_,0,0,rfl,Nat.le_refl _,by rw[HC.out];exact⟨rfl,fun h=>absurd h (by omega)⟩,hK0⟩
theorem uS(a:Option Addr)(n c:Nat)(ds:List zG)(D:Nat→Prop)(t:Int)(w:World)(h:qy w D a n ds)(hnc:n≤c)(hf:Few ds):
  Calls Tryz.prog 106 #[.slice a n c,.int .i64 t] w fun e w'=>∃a' m c',e=.returned (.slice a' m c')∧m≤c'∧jB w' (fun k=>w.heap.size≤k) a' m (zv ds t)∧zQ w w':=by
 refine zV fun Q hQ=>?_;have HL:=LH h.1;have hn4:n≤4:=by have:=hf.1;have:=h.1;omega
 by_cases ht1:t<1
 ·have HC:=LH (show zv ds t= []from JX (by omega))
  go_in;go_wp2_with fail;exact zB hQ ⟨none,0,0,rfl,Nat.le_refl _,by rw[HC.out];exact⟨rfl,fun h=>absurd h (by omega)⟩,Ext.refl _ _⟩
 by_cases ht2:(n:Int)<t
 ·have HC:=LH (show zv ds t= []by exact JX (by have:=HL.out;omega))
  go_in;go_wp2_with fail;exact zB hQ ⟨none,0,0,rfl,Nat.le_refl _,by rw[HC.out];exact⟨rfl,fun h=>absurd h (by omega)⟩,Ext.refl _ _⟩
 obtain⟨k,rfl⟩:∃k:Nat,t=(k:Int)+1:=⟨(t-1).toNat,by omega⟩;have hkn:k<n:=by omega
 obtain⟨b,o,rfl,hd,hc⟩:=h.2 (by omega);obtain⟨_,_,a',m,c',c2,hmc,hcons⟩:=hc k hkn;have HM:=LH hcons.1;have HC:=LH (show zv ds ((k:Int)+1)=kH (zj ds k) m by rw[Wx (by have:=HL.out;omega),HM.out]);have b2:m≤3:=by have:=hf.2 k (by have:=HL.out;omega);have:=HM.out;omega
 have b1:=xz hf (k:=k) (by have:=HL.out;omega);have htk:qy w D (some ⟨b,o,none⟩) k (ds.take k):=⟨by have:=HL.out;simp;omega,fun _=>⟨b,o,rfl,hd,fun i hi=>by
  have:=hc i (by omega)
  rwa[show dAt (ds.take k) i=dAt ds i from by simp[dAt,hi]]⟩⟩
 have hft:Few (ds.take k):=⟨by have:=hf.1;simp;omega,fun i hi=>by
  have hi':i<k:=by simp at hi;omega
  rw[show dAt (ds.take k) i=dAt ds i from by simp[dAt,hi']]
  exact hf.2 i (by simp at hi;omega)⟩
 have hcn:Hid (KP (ds.take k)=zj ds k):=by
  show _=_;have hlk:(ds.take k).length=k:=by have:=HL.out;simp;omega
  rw[KP,hlk];have:∀j,j≤k→zj (ds.take k) j=zj ds j:=by
   intro j hj;induction j with
   |zero=>rfl
   |succ j ih=>simp only[zj];rw[ih (by omega),show dAt (ds.take k) j=dAt ds j from by simp[dAt,show j<k by omega]]
  exact this k (Nat.le_refl _)
 have C2:=LH c2;clear hc hcons c2;go_in;go_wp2_with fail;refine(implConCount0 _ _ _ _ _ _ htk hft).mono ?_;rw[hcn.out];rintro e w1 ⟨rfl,hk1⟩;have c3:=hk1.q C2.out;go_wp2_with fail;go_loopw [6,28] (fun v i wr=>∃j:Nat,j≤m∧i=.int .i64 j∧Hid (wr.ownsRow w.heap.size 3 1 v j ((kH (zj ds k) j).map (Value.int .i64)))∧zQ w wr) (fun _ i _=>m-(intOf i).toNat)
 case atStart=>exact⟨0,Nat.zero_le _,rfl,World.ownsRow_nil _ _ _ _,hk1⟩
 case round=>
  obtain⟨j,hj,rfl,hown,hK⟩:=hrel;by_cases hlt:j<m
  ·have hbs:w.heap.size≤wr.heap.size:=hK.size
   go_wp2_with (at_builtin;refine yv _ rfl (.tmp 31) (.tmp 35) rfl w.heap.size u6 j (kH (zj ds k) j) rfl (hown.out.alloc _) wr.heap.size 1 ((zj ds k:Int)+(j:Int)) rfl (by simp[go_sem]) (by omega) (by simp;omega) ?_;intro v' w' ho hg);go_roundw
   case rel=>exact⟨j+1,by omega,by go_num,by
    show World.ownsRow _ _ _ _ _ _ _
    rw[JC,Int.natCast_add];exact ho,(hK.alloc _).grown hg (fun g hg'=>.inl (hown.out.lt g hg').1)⟩
   case measure=>simp[intOf];omega
  ·have HJ:=LH (show j=m by omega)
   go_wp2;obtain⟨a2,cc,rfl,hle,hoi⟩:=jV hown.out;have:=HJ.out;subst this;exact zB hQ ⟨a2,j,cc,rfl,hle,by rw[HC.out];exact hoi,hK⟩
theorem uV(A:Option Addr)(m c:Nat)(ys:List Int)(D:Nat→Prop)(w:World)(h:qN w D A m ys)(hm:m≤1099511627776):
  Calls Tryz.prog 102 #[.slice A m c] w fun e w'=>∃a' c',e=.returned (.slice a' m c')∧m≤c'∧jB w' (fun k=>w.heap.size≤k) a' m ys∧zQ w w':=by
 refine zV fun Q hQ=>?_;have HO:=LH (gE w);have hK:zQ w (w.alloc (.cells #[] 3)):=(Ext.refl _ w).alloc _;have h1:=h.ext hK (fun _ _ h=>h);go_in;go_wp2_with (at_builtin;refine xY _ rfl (.tmp 3) (.tmp 4) rfl w.heap.size (.slice (some ⟨w.heap.size,0,none⟩) 0 0) 0 [] rfl HO.out A m c ys D rfl h1 (by omega) (by simp) ?_;intro v' w' ho hg);obtain⟨a2,cc,rfl,hle,hoi⟩:=jV ho;simp only[Nat.zero_add,List.nil_append]at hoi hle;have hk:zQ w w':=hK.grown hg (fun g hg'=>.inl (HO.out.lt g hg').1);rw[Nat.zero_add];exact zB hQ ⟨a2,cc,rfl,hle,hoi,hk⟩
theorem Qw{ds:List zG}{x:Int}{i:Nat}(h:kK ds x=some i):yV ds x=(i:Int)+1:=by rw[yV,h];rfl
theorem Q9{ds:List zG}{x:Int}(h:kK ds x=none):yV ds x= -1:=by rw[yV,h];rfl
theorem xH(a:Option Addr)(n c:Nat)(ds:List zG)(D:Nat→Prop)(x:Int)(w:World)(h:qy w D a n ds)(hf:Few ds):
  Calls Tryz.prog 148 #[.slice a n c,.int .i64 x] w fun e w'=>∃a' m c',e=.returned (.slice a' m c')∧m≤c'∧qN w' (fun k=>D k∨w.heap.size≤k) a' m (zR ds x)∧zQ w w':=by
 refine zV fun Q hQ=>?_;have HL:=LH h.1;have hn4:n≤4:=by have:=hf.1;have:=h.1;omega
 cases hv:kK ds x with
 |none=>
  have V:=LH (Q9 hv);have F:=LH (show zR ds x= []by rw[zR,hv]);clear hv;go_in;go_wp2_with (go_at_call 146;refine(jC _ _ _ _ _ _ _ h hf).mono ?_;rw[V.out];rintro e w1 ⟨rfl,rfl⟩);exact zB hQ ⟨_,0,0,rfl,Nat.le_refl _,by rw[F.out];exact⟨rfl,fun h=>absurd h (by omega)⟩,(Ext.refl _ _).alloc _⟩
 |some k=>
  obtain⟨q1,q2,_⟩:=gM hv;have V:=LH (Qw hv);have F:=LH (show zR ds x=cAt (dAt ds k).cons (x.toNat-zj ds k)by rw[zR,hv]);obtain⟨g1,g2⟩:=g7.1 q2;obtain⟨j,hj⟩:=Int.eq_ofNat_of_zero_le g1;obtain rfl:x=(zj ds k:Int)+(j:Int):=by omega
  have hkn:k<n:=by have:=HL.out;omega
  obtain⟨b,o,rfl,hd,hc⟩:=h.2 (by omega);obtain⟨_,_,a',m,c',c2,hmc,hcons⟩:=hc k hkn;have HM:=hcons.1;obtain⟨b1',o1,rfl,hd1,hc1⟩:=hcons.2 (by omega);obtain⟨a2,m2,c2',x0,hmc2,hints⟩:=hc1 j (by omega);have hjm:j<m:=by omega
  have b1:=xz hf (k:=k) (by have:=HL.out;omega);have hcl:=hf.2 k (by have:=HL.out;omega);have b3:m≤3:=by omega
  have HI:=LH hints;clear hc hcons hc1 hints hv q2 g1 g2 hj HM hcl;go_in;go_wp2_with (go_at_call 146;refine(jC _ _ _ _ _ _ _ h hf).mono ?_;rw[V.out];rintro e w1 ⟨rfl,rfl⟩);have e1:IntKind.i64.wrap ((k:Int)+1-1)=(k:Int):=by rw[show(k:Int)+1-1=(k:Int)by omega];exact IntWalk.i64_in _ (by omega)
  have e3:IntKind.i64.wrap (k:Int)=(k:Int):=IntWalk.i64_in _ (by omega);have e4:IntKind.i64.wrap (j:Int)=(j:Int):=IntWalk.i64_in _ (by omega);have e2:IntKind.i64.wrap ((zj ds k:Int)+(j:Int)-(zj ds k:Int))=(j:Int):=by rw[show(zj ds k:Int)+(j:Int)-(zj ds k:Int)=(j:Int)by omega];exact IntWalk.i64_in _ (by omega)
  go_quiet ((go_at_call 196;exact Calls.quiet_of_same ((vV _ _ _ _ _ _ _ (h.drewN _) hf (by omega)).mono fun _ _ q=>⟨q.1,q.2.symm⟩)));clear e1 e2 e3 e4;go_wp2;refine zB hQ ⟨a2,m2,c2',rfl,hmc2,?_,(Ext.refl _ _).drewN nq⟩;rw[F.out,show((zj ds k:Int)+(j:Int)).toNat-zj ds k=j by omega];exact(HI.out.drewN nq).mono (fun _ h=>.inl h)
end Go.Proofs.YtkapldpmjkdmcaaGreat
