/- The program's types of expressions: operations that neither bind nor choose. -/
import Derived.Test.YtkapldpmjkdmcaaGreatUAQ
import Derived.Test.YtkapldpmjkdmcaaGreatUAD
import Derived.Test.YtkapldpmjkdmcaaGreatUAB
import Derived.Deep.RegionLaw
import Derived.Test.YtkapldpmjkdmcaaGreatUAC
import Derived.ArgAppend
import Derived.Test.YtkapldpmjkdmcaaGreatShelf
namespace Go.Proofs.YtkapldpmjkdmcaaGreat
open Go.RowKit
set_option maxRecDepth 100000
set_option maxHeartbeats 4000000
theorem qw{ds:List zG}{sg:List yJ}{op num:Int}{tys:List Int}{w w':World}{t:Int}(h:zS ds sg op num tys= -1)(k:zQ w w'):Y8 ds sg op num tys w (.returned (.tuple #[.int .i64 t,.bool false])) w':=
 ⟨t,false,rfl,by rw[h];rfl,(fun h=>by cases h),k⟩
theorem uD{ds:List zG}{sg:List yJ}{op num:Int}{tys:List Int}{w w':World}{t:Int}(h:zS ds sg op num tys=t)(h0:0≤t)(k:zQ w w'):Y8 ds sg op num tys w (.returned (.tuple #[.int .i64 t,.bool true])) w':=
 ⟨t,true,rfl,by rw[h];exact(decide_eq_true h0).symm,fun _=>h.symm,k⟩
section
variable (ds:List zG)(sg:List yJ)(hok:qJ ds sg=true)
include hok
theorem Ej(num:Int)(tys:List Int)(D:Nat→Prop)(a0:Option Addr)(n0 c0:Nat)(a1:Option Addr)(n1 c1:Nat)(a:Option Addr)(n c:Nat)(E:Nat→Prop)(w:World)(hp:SR w D ds sg a0 n0 c0 a1 n1 c1)(h:qN w E a n tys)(hn:n≤1049576):
  Calls Tryz.prog 162 #[.agg #[.slice a0 n0 c0,.slice a1 n1 c1],.int .i64 0,.int .i64 num,.slice a n c] w (Y8 ds sg 0 num tys w):=by
 refine zV fun Q hQ=>?_;have ht:=(zL hok).1;have hf:=Few.of_ok ht;have hn0:n0≤4:=by have:=(zT hp.1).1;have:=z9 ht;omega
 have K0:=zQ.al w (.cells #[.slice a0 n0 c0,.slice a1 n1 c1] 130);have R0:=zP w #[.slice a0 n0 c0,.slice a1 n1 c1] 130;have HL:=LH h.1;have HOK:=LH hok;have HT:=LH ht;clear hok ht;have V0:=LH (Kk ds sg num tys);by_cases h1: -999≤num
 case neg=>
  have V:=LH (show zS ds sg 0 num tys= -1 by rw[V0.out,if_neg (fun h=>h1 h.2.1)]);go_in;go_wp2_with fail;exact zB hQ (qw V.out (K0))
 by_cases h2:num≤999
 case neg=>
  have V:=LH (show zS ds sg 0 num tys= -1 by rw[V0.out,if_neg (fun h=>h2 h.2.2)]);go_in;go_wp2_with fail;exact zB hQ (qw V.out (K0))
 rcases Nat.eq_zero_or_pos n with h0|h0
 ·subst h0
  have V:=LH (show zS ds sg 0 num tys=0 by rw[V0.out,if_pos ⟨List.eq_nil_of_length_eq_zero HL.out,h1,h2⟩]);go_in;go_wp2_with fail;exact zB hQ (uD V.out (by omega) (K0))
 ·have V:=LH (show zS ds sg 0 num tys= -1 by rw[V0.out,if_neg (fun h=>by have h1:=HL.out;rw[h.1]at h1;simp at h1;omega)])
  have hz:((n:Int)==0)=false:=by simp;omega
  go_in;go_wp2_with fail;exact zB hQ (qw V.out (K0))
theorem EK(num:Int)(tys:List Int)(D:Nat→Prop)(a0:Option Addr)(n0 c0:Nat)(a1:Option Addr)(n1 c1:Nat)(a:Option Addr)(n c:Nat)(E:Nat→Prop)(w:World)(hp:SR w D ds sg a0 n0 c0 a1 n1 c1)(h:qN w E a n tys)(hn:n≤1049576):
  Calls Tryz.prog 162 #[.agg #[.slice a0 n0 c0,.slice a1 n1 c1],.int .i64 1,.int .i64 num,.slice a n c] w (Y8 ds sg 1 num tys w):=by
 refine zV fun Q hQ=>?_;have ht:=(zL hok).1;have hf:=Few.of_ok ht;have hn0:n0≤4:=by have:=(zT hp.1).1;have:=z9 ht;omega
 have K0:=zQ.al w (.cells #[.slice a0 n0 c0,.slice a1 n1 c1] 130);have R0:=zP w #[.slice a0 n0 c0,.slice a1 n1 c1] 130;have HL:=LH h.1;have HOK:=LH hok;have HT:=LH ht;clear hok ht;have V0:=LH (uZ ds sg (op:=1) num tys (by omega));have K1:=K0.trans (zQ.al _ (.cells #[.int .i64 0,.int .i64 0] 3));by_cases hz:num=0
 case neg=>
  have V:=LH (show zS ds sg 1 num tys= -1 by rw[V0.out,if_neg (fun h=>hz h.1)]);have hz':(num==0)=false:=by simpa using hz
  clear hz;go_in;go_wp2_with fail;exact zB hQ (qw V.out (K1))
 subst hz;have il:=Rd.toInts (j5 (w.alloc (.cells #[.slice a0 n0 c0,.slice a1 n1 c1] 130)) 0 3 [0,0] #[.int .i64 0,.int .i64 0] 2 (Nat.zero_le _) rfl rfl (by omega)).t;simp only[World.size_alloc]at il;have h1:=h.ext K1 (fun _ _ h=>h);cases hd:decide (tys= [0,0])
 ·have V:=LH (show zS ds sg 1 0 tys= -1 by rw[V0.out,if_neg (fun h=>of_decide_eq_false hd h.2)])
  have HD:=LH hd;clear hd;go_in;go_wp2_with fail;refine(jX _ _ _ _ _ _ _ _ _ _ _ h1 il (by omega) (by omega)).mono ?_;rw[HD.out];rintro e w1 ⟨rfl,p1⟩;go_wp2_with fail;exact zB hQ (qw V.out (K1.trans p1))
 ·have V:=LH (show zS ds sg 1 0 tys=0 by rw[V0.out,if_pos ⟨rfl,of_decide_eq_true hd⟩])
  have HD:=LH hd;clear hd;go_in;go_wp2_with fail;refine(jX _ _ _ _ _ _ _ _ _ _ _ h1 il (by omega) (by omega)).mono ?_;rw[HD.out];rintro e w1 ⟨rfl,p1⟩;go_wp2_with fail;exact zB hQ (uD V.out (by omega) (K1.trans p1))
theorem HH(num:Int)(tys:List Int)(D:Nat→Prop)(a0:Option Addr)(n0 c0:Nat)(a1:Option Addr)(n1 c1:Nat)(a:Option Addr)(n c:Nat)(E:Nat→Prop)(w:World)(hp:SR w D ds sg a0 n0 c0 a1 n1 c1)(h:qN w E a n tys)(hn:n≤1049576):
  Calls Tryz.prog 162 #[.agg #[.slice a0 n0 c0,.slice a1 n1 c1],.int .i64 2,.int .i64 num,.slice a n c] w (Y8 ds sg 2 num tys w):=by
 refine zV fun Q hQ=>?_;have ht:=(zL hok).1;have hf:=Few.of_ok ht;have hn0:n0≤4:=by have:=(zT hp.1).1;have:=z9 ht;omega
 have K0:=zQ.al w (.cells #[.slice a0 n0 c0,.slice a1 n1 c1] 130);have R0:=zP w #[.slice a0 n0 c0,.slice a1 n1 c1] 130;have HL:=LH h.1;have HOK:=LH hok;have HT:=LH ht;clear hok ht;have V0:=LH (uZ ds sg (op:=2) num tys (by omega));have K1:=K0.trans (zQ.al _ (.cells #[.int .i64 0,.int .i64 0] 3));by_cases hz:num=0
 case neg=>
  have V:=LH (show zS ds sg 2 num tys= -1 by rw[V0.out,if_neg (fun h=>hz h.1)]);have hz':(num==0)=false:=by simpa using hz
  clear hz;go_in;go_wp2_with fail;exact zB hQ (qw V.out (K1))
 subst hz;have il:=Rd.toInts (j5 (w.alloc (.cells #[.slice a0 n0 c0,.slice a1 n1 c1] 130)) 0 3 [0,0] #[.int .i64 0,.int .i64 0] 2 (Nat.zero_le _) rfl rfl (by omega)).t;simp only[World.size_alloc]at il;have h1:=h.ext K1 (fun _ _ h=>h);cases hd:decide (tys= [0,0])
 ·have V:=LH (show zS ds sg 2 0 tys= -1 by rw[V0.out,if_neg (fun h=>of_decide_eq_false hd h.2)])
  have HD:=LH hd;clear hd;go_in;go_wp2_with fail;refine(jX _ _ _ _ _ _ _ _ _ _ _ h1 il (by omega) (by omega)).mono ?_;rw[HD.out];rintro e w1 ⟨rfl,p1⟩;go_wp2_with fail;exact zB hQ (qw V.out (K1.trans p1))
 ·have V:=LH (show zS ds sg 2 0 tys=0 by rw[V0.out,if_pos ⟨rfl,of_decide_eq_true hd⟩])
  have HD:=LH hd;clear hd;go_in;go_wp2_with fail;refine(jX _ _ _ _ _ _ _ _ _ _ _ h1 il (by omega) (by omega)).mono ?_;rw[HD.out];rintro e w1 ⟨rfl,p1⟩;go_wp2_with fail;exact zB hQ (uD V.out (by omega) (K1.trans p1))
theorem F7(num:Int)(tys:List Int)(D:Nat→Prop)(a0:Option Addr)(n0 c0:Nat)(a1:Option Addr)(n1 c1:Nat)(a:Option Addr)(n c:Nat)(E:Nat→Prop)(w:World)(hp:SR w D ds sg a0 n0 c0 a1 n1 c1)(h:qN w E a n tys)(hn:n≤1049576):
  Calls Tryz.prog 162 #[.agg #[.slice a0 n0 c0,.slice a1 n1 c1],.int .i64 3,.int .i64 num,.slice a n c] w (Y8 ds sg 3 num tys w):=by
 refine zV fun Q hQ=>?_;have ht:=(zL hok).1;have hf:=Few.of_ok ht;have hn0:n0≤4:=by have:=(zT hp.1).1;have:=z9 ht;omega
 have K0:=zQ.al w (.cells #[.slice a0 n0 c0,.slice a1 n1 c1] 130);have R0:=zP w #[.slice a0 n0 c0,.slice a1 n1 c1] 130;have HL:=LH h.1;have HOK:=LH hok;have HT:=LH ht;clear hok ht;have V0:=LH (uZ ds sg (op:=3) num tys (by omega));have K1:=K0.trans (zQ.al _ (.cells #[.int .i64 0,.int .i64 0] 3));by_cases hz:num=0
 case neg=>
  have V:=LH (show zS ds sg 3 num tys= -1 by rw[V0.out,if_neg (fun h=>hz h.1)]);have hz':(num==0)=false:=by simpa using hz
  clear hz;go_in;go_wp2_with fail;exact zB hQ (qw V.out (K1))
 subst hz;have il:=Rd.toInts (j5 (w.alloc (.cells #[.slice a0 n0 c0,.slice a1 n1 c1] 130)) 0 3 [0,0] #[.int .i64 0,.int .i64 0] 2 (Nat.zero_le _) rfl rfl (by omega)).t;simp only[World.size_alloc]at il;have h1:=h.ext K1 (fun _ _ h=>h);cases hd:decide (tys= [0,0])
 ·have V:=LH (show zS ds sg 3 0 tys= -1 by rw[V0.out,if_neg (fun h=>of_decide_eq_false hd h.2)])
  have HD:=LH hd;clear hd;go_in;go_wp2_with fail;refine(jX _ _ _ _ _ _ _ _ _ _ _ h1 il (by omega) (by omega)).mono ?_;rw[HD.out];rintro e w1 ⟨rfl,p1⟩;go_wp2_with fail;exact zB hQ (qw V.out (K1.trans p1))
 ·have V:=LH (show zS ds sg 3 0 tys=0 by rw[V0.out,if_pos ⟨rfl,of_decide_eq_true hd⟩])
  have HD:=LH hd;clear hd;go_in;go_wp2_with fail;refine(jX _ _ _ _ _ _ _ _ _ _ _ h1 il (by omega) (by omega)).mono ?_;rw[HD.out];rintro e w1 ⟨rfl,p1⟩;go_wp2_with fail;exact zB hQ (uD V.out (by omega) (K1.trans p1))
theorem Dv(num:Int)(tys:List Int)(D:Nat→Prop)(a0:Option Addr)(n0 c0:Nat)(a1:Option Addr)(n1 c1:Nat)(a:Option Addr)(n c:Nat)(E:Nat→Prop)(w:World)(hp:SR w D ds sg a0 n0 c0 a1 n1 c1)(h:qN w E a n tys)(hn:n≤1049576):
  Calls Tryz.prog 162 #[.agg #[.slice a0 n0 c0,.slice a1 n1 c1],.int .i64 4,.int .i64 num,.slice a n c] w (Y8 ds sg 4 num tys w):=by
 refine zV fun Q hQ=>?_;have ht:=(zL hok).1;have hf:=Few.of_ok ht;have hn0:n0≤4:=by have:=(zT hp.1).1;have:=z9 ht;omega
 have K0:=zQ.al w (.cells #[.slice a0 n0 c0,.slice a1 n1 c1] 130);have R0:=zP w #[.slice a0 n0 c0,.slice a1 n1 c1] 130;have HL:=LH h.1;have HOK:=LH hok;have HT:=LH ht;clear hok ht;have V0:=LH (uZ ds sg (op:=4) num tys (by omega));have K1:=K0.trans (zQ.al _ (.cells #[.int .i64 0,.int .i64 0] 3));by_cases hz:num=0
 case neg=>
  have V:=LH (show zS ds sg 4 num tys= -1 by rw[V0.out,if_neg (fun h=>hz h.1)]);have hz':(num==0)=false:=by simpa using hz
  clear hz;go_in;go_wp2_with fail;exact zB hQ (qw V.out (K1))
 subst hz;have il:=Rd.toInts (j5 (w.alloc (.cells #[.slice a0 n0 c0,.slice a1 n1 c1] 130)) 0 3 [0,0] #[.int .i64 0,.int .i64 0] 2 (Nat.zero_le _) rfl rfl (by omega)).t;simp only[World.size_alloc]at il;have h1:=h.ext K1 (fun _ _ h=>h);cases hd:decide (tys= [0,0])
 ·have V:=LH (show zS ds sg 4 0 tys= -1 by rw[V0.out,if_neg (fun h=>of_decide_eq_false hd h.2)])
  have HD:=LH hd;clear hd;go_in;go_wp2_with fail;refine(jX _ _ _ _ _ _ _ _ _ _ _ h1 il (by omega) (by omega)).mono ?_;rw[HD.out];rintro e w1 ⟨rfl,p1⟩;go_wp2_with fail;exact zB hQ (qw V.out (K1.trans p1))
 ·have V:=LH (show zS ds sg 4 0 tys=0 by rw[V0.out,if_pos ⟨rfl,of_decide_eq_true hd⟩])
  have HD:=LH hd;clear hd;go_in;go_wp2_with fail;refine(jX _ _ _ _ _ _ _ _ _ _ _ h1 il (by omega) (by omega)).mono ?_;rw[HD.out];rintro e w1 ⟨rfl,p1⟩;go_wp2_with fail;exact zB hQ (uD V.out (by omega) (K1.trans p1))
theorem FH(num:Int)(tys:List Int)(D:Nat→Prop)(a0:Option Addr)(n0 c0:Nat)(a1:Option Addr)(n1 c1:Nat)(a:Option Addr)(n c:Nat)(E:Nat→Prop)(w:World)(hp:SR w D ds sg a0 n0 c0 a1 n1 c1)(h:qN w E a n tys)(hn:n≤1049576):
  Calls Tryz.prog 162 #[.agg #[.slice a0 n0 c0,.slice a1 n1 c1],.int .i64 5,.int .i64 num,.slice a n c] w (Y8 ds sg 5 num tys w):=by
 refine zV fun Q hQ=>?_;have ht:=(zL hok).1;have hf:=Few.of_ok ht;have hn0:n0≤4:=by have:=(zT hp.1).1;have:=z9 ht;omega
 have K0:=zQ.al w (.cells #[.slice a0 n0 c0,.slice a1 n1 c1] 130);have R0:=zP w #[.slice a0 n0 c0,.slice a1 n1 c1] 130;have HL:=LH h.1;have HOK:=LH hok;have HT:=LH ht;clear hok ht;have V0:=LH (Wk ds sg num tys);have K1:=K0.trans (zQ.al _ (.cells #[.int .i64 0] 3));by_cases hz:num=0
 case neg=>
  have V:=LH (show zS ds sg 5 num tys= -1 by rw[V0.out,if_neg (fun h=>hz h.1)]);have hz':(num==0)=false:=by simpa using hz
  clear hz;go_in;go_wp2_with fail;exact zB hQ (qw V.out (K1))
 subst hz;have il:=Rd.toInts (j5 (w.alloc (.cells #[.slice a0 n0 c0,.slice a1 n1 c1] 130)) 0 3 [0] #[.int .i64 0] 1 (Nat.zero_le _) rfl rfl (by omega)).t;simp only[World.size_alloc]at il;have h1:=h.ext K1 (fun _ _ h=>h);cases hd:decide (tys= [0])
 ·have V:=LH (show zS ds sg 5 0 tys= -1 by rw[V0.out,if_neg (fun h=>of_decide_eq_false hd h.2)])
  have HD:=LH hd;clear hd;go_in;go_wp2_with fail;refine(jX _ _ _ _ _ _ _ _ _ _ _ h1 il (by omega) (by omega)).mono ?_;rw[HD.out];rintro e w1 ⟨rfl,p1⟩;go_wp2_with fail;exact zB hQ (qw V.out (K1.trans p1))
 ·have V:=LH (show zS ds sg 5 0 tys=0 by rw[V0.out,if_pos ⟨rfl,of_decide_eq_true hd⟩])
  have HD:=LH hd;clear hd;go_in;go_wp2_with fail;refine(jX _ _ _ _ _ _ _ _ _ _ _ h1 il (by omega) (by omega)).mono ?_;rw[HD.out];rintro e w1 ⟨rfl,p1⟩;go_wp2_with fail;exact zB hQ (uD V.out (by omega) (K1.trans p1))
theorem DS(num:Int)(tys:List Int)(D:Nat→Prop)(a0:Option Addr)(n0 c0:Nat)(a1:Option Addr)(n1 c1:Nat)(a:Option Addr)(n c:Nat)(E:Nat→Prop)(w:World)(hp:SR w D ds sg a0 n0 c0 a1 n1 c1)(h:qN w E a n tys)(hn:n≤1049576)(hx1: -9223372036854775808≤num)(hx2:num≤9223372036854775807):
  Calls Tryz.prog 162 #[.agg #[.slice a0 n0 c0,.slice a1 n1 c1],.int .i64 6,.int .i64 num,.slice a n c] w (Y8 ds sg 6 num tys w):=by
 refine zV fun Q hQ=>?_;have ht:=(zL hok).1;have hf:=Few.of_ok ht;have hn0:n0≤4:=by have:=(zT hp.1).1;have:=z9 ht;omega
 have K0:=zQ.al w (.cells #[.slice a0 n0 c0,.slice a1 n1 c1] 130);have R0:=zP w #[.slice a0 n0 c0,.slice a1 n1 c1] 130;have HL:=LH h.1;have HOK:=LH hok;have HT:=LH ht;clear hok ht;have V0:=LH (KM ds sg num tys);have hct:=gJ (n:=ds.length) (p:=ZZ ds num);change yV ds num= -1∨isT ds.length (yV ds num)=true at hct;have hfo:=(yP HT.out num).1;have hne0:yV ds num≠0:=by
  intro h;rcases hcx:kK ds num with _|i
  ·rw[yV,hcx]at h;simp[JV]at h
  ·rw[yV,hcx]at h;simp only[JV]at h;omega
 obtain⟨ct,hc⟩:∃ct,yV ds num=ct:=⟨_,rfl⟩;rw[hc]at hct hne0;have HC:=LH hc;have HR:=LH hct;clear hc hct;have h1:=h.ext K0 (fun _ _ h=>h);by_cases h0:0≤ct
 case neg=>
  have V:=LH (show zS ds sg 6 num tys= -1 by rw[V0.out,HC.out,if_neg (fun h=>by omega)]);go_in;go_wp2_with fail;refine(ky _ _ _ ds _ _ _ (Rd.toDecls (hp.k K0).1) hf hx1 hx2).mono ?_;rw[HC.out];rintro e w1 ⟨a',m,c',rfl,hmc,hi,p1⟩;go_wp2_with fail;exact zB hQ (qw V.out ((K0.trans p1).trans (zQ.al _ _)))
 have hpos:0<ct:=by omega
 cases hd:decide (tys=zR ds num)
 ·have V:=LH (show zS ds sg 6 num tys= -1 by rw[V0.out,HC.out,if_neg (fun h=>of_decide_eq_false hd h.2)])
  have HD:=LH hd;clear hd;go_in;go_wp2_with fail;refine(ky _ _ _ ds _ _ _ (Rd.toDecls (hp.k K0).1) hf hx1 hx2).mono ?_;rw[HC.out];rintro e w1 ⟨a',m,c',rfl,hmc,hi,p1⟩;have K2:=LH ((K0.trans p1).trans (zQ.al w1 (.cells #[.slice a' m c'] 155)));have h2:=LH (h1.ext (p1.trans (zQ.al w1 (.cells #[.slice a' m c'] 155))) (fun _ _ h=>h));have hi2:=LH (hi.ext (p1.trans (zQ.al w1 (.cells #[.slice a' m c'] 155))) (fun _ _ h=>h));have hml:m≤3:=by have:=hi.1;omega
  clear hi p1;go_wp2_with fail;refine(jX _ _ _ _ _ _ _ _ _ _ _ h2.out hi2.out (by omega) (by omega)).mono ?_;rw[HD.out];rintro e w2 ⟨rfl,p2⟩;go_wp2_with fail;exact zB hQ (qw V.out (K2.out.trans p2))
 ·have V:=LH (show zS ds sg 6 num tys=ct by rw[V0.out,HC.out,if_pos ⟨hpos,of_decide_eq_true hd⟩])
  have HD:=LH hd;clear hd;go_in;go_wp2_with fail;refine(ky _ _ _ ds _ _ _ (Rd.toDecls (hp.k K0).1) hf hx1 hx2).mono ?_;rw[HC.out];rintro e w1 ⟨a',m,c',rfl,hmc,hi,p1⟩;have K2:=LH ((K0.trans p1).trans (zQ.al w1 (.cells #[.slice a' m c'] 155)));have h2:=LH (h1.ext (p1.trans (zQ.al w1 (.cells #[.slice a' m c'] 155))) (fun _ _ h=>h));have hi2:=LH (hi.ext (p1.trans (zQ.al w1 (.cells #[.slice a' m c'] 155))) (fun _ _ h=>h));have hml:m≤3:=by have:=hi.1;omega
  clear hi p1;go_wp2_with fail;refine(jX _ _ _ _ _ _ _ _ _ _ _ h2.out hi2.out (by omega) (by omega)).mono ?_;rw[HD.out];rintro e w2 ⟨rfl,p2⟩;go_wp2_with fail;exact zB hQ (uD V.out h0 (K2.out.trans p2))
theorem Uw(op:Int)(hop:op<0∨13<op∨op=7∨op=8∨op=12∨op=13)(num:Int)(tys:List Int)(D:Nat→Prop)(a0:Option Addr)(n0 c0:Nat)(a1:Option Addr)(n1 c1:Nat)(a:Option Addr)(n c:Nat)(E:Nat→Prop)(w:World)(hp:SR w D ds sg a0 n0 c0 a1 n1 c1)(h:qN w E a n tys)(hn:n≤1049576):
  Calls Tryz.prog 162 #[.agg #[.slice a0 n0 c0,.slice a1 n1 c1],.int .i64 op,.int .i64 num,.slice a n c] w (Y8 ds sg op num tys w):=by
 refine zV fun Q hQ=>?_;have ht:=(zL hok).1;have hf:=Few.of_ok ht;have hn0:n0≤4:=by have:=(zT hp.1).1;have:=z9 ht;omega
 have K0:=zQ.al w (.cells #[.slice a0 n0 c0,.slice a1 n1 c1] 130);have R0:=zP w #[.slice a0 n0 c0,.slice a1 n1 c1] 130;have HL:=LH h.1;have HOK:=LH hok;have HT:=LH ht;clear hok ht;have V:Hid (zS ds sg op num tys= -1):=by
  show _=_;rw[zS,if_neg (by omega),if_neg (by omega),if_neg (by omega),if_neg (by omega),if_neg (by omega),if_neg (by omega),if_neg (by omega)]
 have o0:(op==0)=false:=by simp;omega
 have o1:(op==1)=false:=by simp;omega
 have o2:(op==2)=false:=by simp;omega
 have o3:(op==3)=false:=by simp;omega
 have o4:(op==4)=false:=by simp;omega
 have o5:(op==5)=false:=by simp;omega
 have o6:(op==6)=false:=by simp;omega
 have o9:(op==9)=false:=by simp;omega
 have o10:(op==10)=false:=by simp;omega
 have o11:(op==11)=false:=by simp;omega
 clear hop;have:=hn;go_in;go_wp2_with fail;exact zB hQ (qw V.out (K0))
theorem DT(num:Int)(tys:List Int)(D:Nat→Prop)(a0:Option Addr)(n0 c0:Nat)(a1:Option Addr)(n1 c1:Nat)(a:Option Addr)(n c:Nat)(E:Nat→Prop)(w:World)(hp:SR w D ds sg a0 n0 c0 a1 n1 c1)(h:qN w E a n tys)(hn:n≤1049576):
  Calls Tryz.prog 162 #[.agg #[.slice a0 n0 c0,.slice a1 n1 c1],.int .i64 9,.int .i64 num,.slice a n c] w (Y8 ds sg 9 num tys w):=by
 refine zV fun Q hQ=>?_;have ht:=(zL hok).1;have hf:=Few.of_ok ht;have hn0:n0≤4:=by have:=(zT hp.1).1;have:=z9 ht;omega
 have K0:=zQ.al w (.cells #[.slice a0 n0 c0,.slice a1 n1 c1] 130);have R0:=zP w #[.slice a0 n0 c0,.slice a1 n1 c1] 130;have HL:=LH h.1;have HOK:=LH hok;have HT:=LH ht;clear hok ht;obtain⟨e1,hf1,hf2,hat⟩:=G3 hp.2;have HN:=LH e1;have hn1:n1≤4:=by have:=(zL HOK.out).2.2.1;omega
 have h1:=h.ext K0 (fun _ _ h=>h);by_cases hr:0≤num∧num<(n1:Int)
 case neg=>
  have V:=LH (kM (ds:=ds) (sg:=sg) (op:=9) (num:=num) (tys:=tys) (by omega) (by rw[HN.out];exact hr));by_cases h2:num<0
  ·clear hr
   go_in;go_wp2_with fail;exact zB hQ (qw V.out (K0))
  ·have h3:(n1:Int)≤num:=by omega
   clear hr;go_in;go_wp2_with fail;exact zB hQ (qw V.out (K0))
 obtain⟨k,rfl⟩:∃k:Nat,num=(k:Int):=⟨num.toNat,by omega⟩;have hk:k<n1:=by omega
 have HKS:Hid (k<sg.length):=by have:=HN.out;show _<_;omega
 have HSO:=LH (xL ((zL HOK.out).2.2.2 k HKS.out));obtain⟨b,o,rfl,_,ap,np,cp,al,nl,cl,d0,d1,d2,r0,r1⟩:=hat k hk;obtain⟨s,hs⟩:∃s,yH sg k=s:=⟨_,rfl⟩;rw[hs]at d2 r0 r1 HSO;have HS:=LH hs;obtain⟨g0,g1,g2⟩:=K0.k3 d0 d1 d2;have HPL:=LH (zN r0).1;have hpl:np≤3:=by have:=HPL.out;have:=HSO.out.1;omega
 have RR:=LH (uQ.1 HSO.out.2.2.1);have qt:=(Rd.toInts r0).ext K0 (fun _ _ h=>h);clear d0 d1 d2 hs hr hat e1 r1;have V0:=LH (YB (ds:=ds) (sg:=sg) (k:=k) (tys:=tys) HKS.out);rw[HS.out]at V0;cases hd:decide (tys=s.params)
 ·have V:=LH (show zS ds sg 9 (k:Int) tys= -1 by rw[V0.out,if_neg (of_decide_eq_false hd)])
  have HD:=LH hd;clear hd;go_in;go_wp2_with fail;go_quiet (fail);go_wp2_with fail;refine(jX _ _ _ _ _ _ _ _ _ _ _ (h1.drewN _) (qt.drewN _) (by omega) (by omega)).mono ?_;rw[HD.out];rintro e w1 ⟨rfl,p1⟩;go_wp2_with fail;exact zB hQ (qw V.out ((K0.drewN _).trans p1))
 ·have V:=LH (show zS ds sg 9 (k:Int) tys=s.result by rw[V0.out,if_pos (of_decide_eq_true hd)])
  have HD:=LH hd;clear hd;go_in;go_wp2_with fail;go_quiet (fail);go_wp2_with fail;refine(jX _ _ _ _ _ _ _ _ _ _ _ (h1.drewN _) (qt.drewN _) (by omega) (by omega)).mono ?_;rw[HD.out];rintro e w1 ⟨rfl,p1⟩;go_wp2_with fail;exact zB hQ (uD V.out RR.out.1 ((K0.drewN _).trans p1))
theorem DY(num:Int)(tys:List Int)(D:Nat→Prop)(a0:Option Addr)(n0 c0:Nat)(a1:Option Addr)(n1 c1:Nat)(a:Option Addr)(n c:Nat)(E:Nat→Prop)(w:World)(hp:SR w D ds sg a0 n0 c0 a1 n1 c1)(h:qN w E a n tys)(hn:n≤1049576):
  Calls Tryz.prog 162 #[.agg #[.slice a0 n0 c0,.slice a1 n1 c1],.int .i64 10,.int .i64 num,.slice a n c] w (Y8 ds sg 10 num tys w):=by
 refine zV fun Q hQ=>?_;have ht:=(zL hok).1;have hf:=Few.of_ok ht;have hn0:n0≤4:=by have:=(zT hp.1).1;have:=z9 ht;omega
 have K0:=zQ.al w (.cells #[.slice a0 n0 c0,.slice a1 n1 c1] 130);have R0:=zP w #[.slice a0 n0 c0,.slice a1 n1 c1] 130;have HL:=LH h.1;have HOK:=LH hok;have HT:=LH ht;clear hok ht;obtain⟨e1,hf1,hf2,hat⟩:=G3 hp.2;have HN:=LH e1;have hn1:n1≤4:=by have:=(zL HOK.out).2.2.1;omega
 have h1:=h.ext K0 (fun _ _ h=>h);by_cases hr:0≤num∧num<(n1:Int)
 case neg=>
  have V:=LH (kM (ds:=ds) (sg:=sg) (op:=10) (num:=num) (tys:=tys) (by omega) (by rw[HN.out];exact hr));by_cases h2:num<0
  ·clear hr
   go_in;go_wp2_with fail;exact zB hQ (qw V.out (K0))
  ·have h3:(n1:Int)≤num:=by omega
   clear hr;go_in;go_wp2_with fail;exact zB hQ (qw V.out (K0))
 obtain⟨k,rfl⟩:∃k:Nat,num=(k:Int):=⟨num.toNat,by omega⟩;have hk:k<n1:=by omega
 have HKS:Hid (k<sg.length):=by have:=HN.out;show _<_;omega
 have HSO:=LH (xL ((zL HOK.out).2.2.2 k HKS.out));obtain⟨b,o,rfl,_,ap,np,cp,al,nl,cl,d0,d1,d2,r0,r1⟩:=hat k hk;obtain⟨s,hs⟩:∃s,yH sg k=s:=⟨_,rfl⟩;rw[hs]at d2 r0 r1 HSO;have HS:=LH hs;obtain⟨g0,g1,g2⟩:=K0.k3 d0 d1 d2;have HPL:=LH (zN r0).1;have hpl:np≤3:=by have:=HPL.out;have:=HSO.out.1;omega
 have RR:=LH (uQ.1 HSO.out.2.2.1);have qt:=(Rd.toInts r0).ext K0 (fun _ _ h=>h);clear d0 d1 d2 hs hr hat e1 r1;have V0:=LH (Q7 (ds:=ds) (sg:=sg) (k:=k) (tys:=tys) HKS.out);rw[HS.out]at V0;rcases Nat.eq_zero_or_pos np with h0|h0
 ·subst h0
  have V:=LH (show zS ds sg 10 (k:Int) tys= -1 by rw[V0.out,if_neg (fun h=>by have:=HPL.out;omega)]);go_in;go_wp2_with fail;go_quiet (fail);go_wp2_with fail;exact zB hQ (qw V.out (K0.drewN _))
 obtain⟨m,rfl⟩:∃m,np=m+1:=⟨np-1,by omega⟩;obtain⟨b2,o2,rfl,_,dm⟩:=(zN r0).2.2.2 m (by omega);have hcp:m+1≤cp:=(zN r0).2.1;have gm:=K0.q dm;have qtk:=qt.take (m:=m) (by omega);have V1:Hid (zS ds sg 10 (k:Int) tys=if tys=s.params.take m then xG ds (iAt s.params m) s.result else -1):=by
  show _=_;rw[V0.out,HPL.out];by_cases h:tys=s.params.take m
  ·rw[if_pos ⟨by omega,h⟩,if_pos h];rfl
  ·rw[if_neg (fun h'=>h h'.2),if_neg h]
 have hra:=gJ (n:=ds.length) (p:=gy ds (iAt s.params m) s.result);change xG ds _ _= -1∨isT ds.length (xG ds _ _)=true at hra;obtain⟨ar,har⟩:∃ar,xG ds (iAt s.params m) s.result=ar:=⟨_,rfl⟩;rw[har]at V1 hra;have HAR:=LH har;have hra2:ar= -1∨0≤ar:=by
  rcases hra with h|h
  ·exact .inl h
  ·exact .inr (uQ.1 h).1
 have HRA:=LH hra2;have hpk:=Rd.toDecls (hp.k K0).1;clear dm har hra hra2 V0;have hw1:IntKind.i64.wrap (m:Int)=(m:Int):=by rw[IntWalk.i64_in _ (by omega)]
 have hw2:(0:Int)≤(m:Int):=by omega
 have hw3:(m:Int)<(m:Int)+1:=by omega
 have hw4:(m:Int)≤(cp:Int):=by omega
 by_cases ha:0≤ar
 case neg=>
  have V:Hid (zS ds sg 10 (k:Int) tys= -1):=by
   show _=_;rw[V1.out];split
   ·rcases HRA.out with h|h
    ·exact h
    ·exact absurd h ha
   ·rfl
  go_in;go_wp2_with fail;go_quiet (fail);go_wp2_with fail;generalize hW:World.drewN (w.alloc (.cells #[.slice a0 n0 c0,.slice (some ⟨b,o,none⟩) n1 c1] 130)) nq=W at*;have KW:zQ w W:=by rw[←hW];exact K0.drewN nq
  have y0:W.cell? ⟨w.heap.size,0,none⟩=some (.slice a0 n0 c0):=by rw[←hW];simp
  have ym:W.cell? ⟨b2,o2+m,none⟩=some (.int .i64 (iAt s.params m)):=by rw[←hW];exact gm
  have qd:qy W.drew D a0 n0 ds:=by rw[←hW];exact(hpk.drewN nq).ext (S:=fun _=>False) (kD _) (fun _ _ h=>h)
  have q1:qN W E a n tys:=by rw[←hW];exact h1.drewN nq
  have q2:qN W D (some ⟨b2,o2,none⟩) m (s.params.take m):=by rw[←hW];exact qtk.drewN nq
  clear hW gm h1 qtk hpk g0 g1 g2 qt;have pc:=Ext.refl0 W;go_region_held3 (fun w'=>w'.cell? ⟨w.heap.size,0,none⟩=some (.slice a0 n0 c0)∧w'.cell? ⟨b2,o2+m,none⟩=some (.int .i64 (iAt s.params m)))
   (first|exact⟨zQ.at pc y0,zQ.at pc ym⟩|go_keep)
   ((go_at_call 204;refine(gF _ _ _ ds _ _ _ _ qd (by omega)).mono ?_;rw[HAR.out];rintro e w1 ⟨rfl,p1⟩;replace pc:=Ext.trans pc p1))
  have KE:=LH (KW.trans (zQ.dt pc));have q3:=LH (q1.ext (zQ.dt pc) (fun _ _ h=>h));have q4:=LH (q2.ext (zQ.dt pc) (fun _ _ h=>h));clear pc y0 ym qd q1 q2;go_wp2_with fail;exact zB hQ (qw V.out (KE.out))
 cases hd:decide (tys=s.params.take m)
 ·have V:=LH (show zS ds sg 10 (k:Int) tys= -1 by rw[V1.out,if_neg (of_decide_eq_false hd)])
  have HD:=LH hd;clear hd;go_in;go_wp2_with fail;go_quiet (fail);go_wp2_with fail;generalize hW:World.drewN (w.alloc (.cells #[.slice a0 n0 c0,.slice (some ⟨b,o,none⟩) n1 c1] 130)) nq=W at*;have KW:zQ w W:=by rw[←hW];exact K0.drewN nq
  have y0:W.cell? ⟨w.heap.size,0,none⟩=some (.slice a0 n0 c0):=by rw[←hW];simp
  have ym:W.cell? ⟨b2,o2+m,none⟩=some (.int .i64 (iAt s.params m)):=by rw[←hW];exact gm
  have qd:qy W.drew D a0 n0 ds:=by rw[←hW];exact(hpk.drewN nq).ext (S:=fun _=>False) (kD _) (fun _ _ h=>h)
  have q1:qN W E a n tys:=by rw[←hW];exact h1.drewN nq
  have q2:qN W D (some ⟨b2,o2,none⟩) m (s.params.take m):=by rw[←hW];exact qtk.drewN nq
  clear hW gm h1 qtk hpk g0 g1 g2 qt;have pc:=Ext.refl0 W;go_region_held3 (fun w'=>w'.cell? ⟨w.heap.size,0,none⟩=some (.slice a0 n0 c0)∧w'.cell? ⟨b2,o2+m,none⟩=some (.int .i64 (iAt s.params m)))
   (first|exact⟨zQ.at pc y0,zQ.at pc ym⟩|go_keep)
   ((go_at_call 204;refine(gF _ _ _ ds _ _ _ _ qd (by omega)).mono ?_;rw[HAR.out];rintro e w1 ⟨rfl,p1⟩;replace pc:=Ext.trans pc p1))
  have KE:=LH (KW.trans (zQ.dt pc));have q3:=LH (q1.ext (zQ.dt pc) (fun _ _ h=>h));have q4:=LH (q2.ext (zQ.dt pc) (fun _ _ h=>h));clear pc y0 ym qd q1 q2;go_wp2_with fail;refine(jX _ _ _ _ _ _ _ _ _ _ _ q3.out q4.out (by omega) (by omega)).mono ?_;rw[HD.out];rintro e w2 ⟨rfl,p2⟩;go_wp2_with fail;exact zB hQ (qw V.out (KE.out.trans p2))
 ·have V:=LH (show zS ds sg 10 (k:Int) tys=ar by rw[V1.out,if_pos (of_decide_eq_true hd)])
  have HD:=LH hd;clear hd;go_in;go_wp2_with fail;go_quiet (fail);go_wp2_with fail;generalize hW:World.drewN (w.alloc (.cells #[.slice a0 n0 c0,.slice (some ⟨b,o,none⟩) n1 c1] 130)) nq=W at*;have KW:zQ w W:=by rw[←hW];exact K0.drewN nq
  have y0:W.cell? ⟨w.heap.size,0,none⟩=some (.slice a0 n0 c0):=by rw[←hW];simp
  have ym:W.cell? ⟨b2,o2+m,none⟩=some (.int .i64 (iAt s.params m)):=by rw[←hW];exact gm
  have qd:qy W.drew D a0 n0 ds:=by rw[←hW];exact(hpk.drewN nq).ext (S:=fun _=>False) (kD _) (fun _ _ h=>h)
  have q1:qN W E a n tys:=by rw[←hW];exact h1.drewN nq
  have q2:qN W D (some ⟨b2,o2,none⟩) m (s.params.take m):=by rw[←hW];exact qtk.drewN nq
  clear hW gm h1 qtk hpk g0 g1 g2 qt;have pc:=Ext.refl0 W;go_region_held3 (fun w'=>w'.cell? ⟨w.heap.size,0,none⟩=some (.slice a0 n0 c0)∧w'.cell? ⟨b2,o2+m,none⟩=some (.int .i64 (iAt s.params m)))
   (first|exact⟨zQ.at pc y0,zQ.at pc ym⟩|go_keep)
   ((go_at_call 204;refine(gF _ _ _ ds _ _ _ _ qd (by omega)).mono ?_;rw[HAR.out];rintro e w1 ⟨rfl,p1⟩;replace pc:=Ext.trans pc p1))
  have KE:=LH (KW.trans (zQ.dt pc));have q3:=LH (q1.ext (zQ.dt pc) (fun _ _ h=>h));have q4:=LH (q2.ext (zQ.dt pc) (fun _ _ h=>h));clear pc y0 ym qd q1 q2;go_wp2_with fail;refine(jX _ _ _ _ _ _ _ _ _ _ _ q3.out q4.out (by omega) (by omega)).mono ?_;rw[HD.out];rintro e w2 ⟨rfl,p2⟩;go_wp2_with fail;exact zB hQ (uD V.out ha (KE.out.trans p2))
end
theorem Y5{P:Program}{ops:Array Oper}{o:Oper}{a:Act}{w:World}{K:Act→World→Prop}{Q:Exit→Act→World→Prop}{E:Prop}(hgd:o.guard=none)(s x:Operand)(t:TypeId)
  (ho:o.op=.call {callee:=.builtin .append,args:= #[s,x],argTypes:= #[t,t]})
  (base:Nat) (e:TypeId) (z:Value) (size bytes:Nat) (ht:P.underlying t=some (.slice e)) (hinfo:(P.info? e).map (fun i=>(i.zero,i.size,i.bytes))=some (some z,size,bytes))
  (hzs:z.cells.size=size) (hsz:0<size)
  (v:Value) (n:Nat) (xs:List Value) (hs:a.eval s=v) (hown:w.ownsRow base e size v n xs)
  (A:Option Addr) (m c:Nat) (news:List Value) (hx:a.eval x=.slice A m c) (hr:Vv w size A m news) (h1:∀u∈news,u.oneCell'=true)
  (hbytes:(n+m)*bytes≤140737488355328) (h63:n+m≤9223372036854775807) (hbase:base≤w.heap.size)
  (h:∀v' w',w'.ownsRow base e size v' (n+m) (xs++news)→w.grownBy w' v.ownBlock→(v'.ownBlock=v.ownBlock∨v'.ownBlock=some w.heap.size)→K (a.put o.dst v') w'):
  if Region.wanted o (yielded ops a.tmps)=true then Oper.wp P o a w K Q else E:=by
 have hw:Region.wanted o (yielded ops a.tmps)=true:=by simp[Region.wanted,hgd]
 rw[if_pos hw];obtain⟨i,hi,hzz⟩:=Option.map_eq_some_iff.1 hinfo;simp only[Prod.mk.injEq]at hzz;obtain⟨hz,hsize,hby⟩:=hzz;obtain⟨v',w',hrun,h2,h3,h4⟩:=gL (P:=P) w base t o.type e i z size bytes ht hi hz hsize hby hzs hsz v n xs hown A m c news hr h1 (by simp only[maxLen];omega) hbytes hbase;unfold Oper.wp;simp[execOp,ho,resolve,invoke,builtin,hs,hx,hrun,Result.andThen];exact h v' w' h2 h3 h4
theorem uy{w:World}{base:Nat}{e:TypeId}{size:Nat}{v:Value}{n:Nat}{xs xs':List Value}(h1:w.ownsRow base e size v n xs)(hxs':w.ownsRow base e size v n xs'):xs'=xs:=by
 rcases hxs'.2 with ⟨e1,e2⟩|⟨g,cap,cur,e1,_,hg,_,_,_,htake⟩
 ·have l1:=hxs'.1
  have l2:=h1.1;rw[e2,Nat.zero_mul]at l1 l2;rw[List.eq_nil_of_length_eq_zero l1,List.eq_nil_of_length_eq_zero l2]
 ·rcases h1.2 with ⟨f1,f2⟩|⟨g',cap',cur',f1,_,hg',_,_,_,htake'⟩
  ·have l1:=hxs'.1
   have l2:=h1.1;rw[f2,Nat.zero_mul]at l1 l2;rw[List.eq_nil_of_length_eq_zero l1,List.eq_nil_of_length_eq_zero l2]
  ·rw[e1]at f1
   injection f1 with f1
   injection f1 with f1
   injection f1 with f1
   subst f1;rw[hg]at hg';injection hg' with hg'
   injection hg' with hg'
   rw[←htake,←htake',hg']
theorem Acc.bound{w:World}{base:Nat}{D:Nat→Prop}{T:TypeId}{s:Nat}{v:Value}{rows:List (List Dat)}(h:Acc w base D T s v rows):∀k,v.ownBlock=some k→base≤k∧k<w.heap.size:=by
 obtain⟨xs,E,h1,_⟩:=h;exact h1.lt
theorem Acc.lt{w:World}{base:Nat}{D:Nat→Prop}{T:TypeId}{s:Nat}{v:Value}{rows:List (List Dat)}(h:Acc w base D T s v rows):Acc w base (fun k=>D k∧k<w.heap.size) T s v rows:=by
 obtain⟨xs,E,h1,h2,h3,h4,h5⟩:=h;exact⟨xs,E,h1,h2,fun i j k hi hj hk=>⟨⟨(h3 i j k hi hj hk).1,(h3 i j k hi hj hk).2.1⟩,(h3 i j k hi hj hk).2⟩,h4,h5⟩
theorem j0(w:World)(us:List Value)(T:TypeId):∀(j:Nat) (u:Value),us[j]?=some u→(w.alloc (.cells us.toArray T)).cell? ⟨w.heap.size,j,none⟩=some u:=by
 intro j u hj;rw[xQ (Ext.refl _ _) j];simpa using hj
theorem ToS.cons{lo m hi:Nat}{w:World}{d:Dat}{ds2:List Dat}{u:Value}{us2:List Value}(h:ToS lo m w [d] [u])(h2:ToS m hi w ds2 us2)(hlo:lo≤m)(hhi:m≤hi):ToS lo hi w (d::ds2) (u::us2):=h.app h2 hlo hhi
theorem ToS.consI{lo hi:Nat}{w:World}{z:Int}{ds2:List Dat}{us2:List Value}(h2:ToS lo hi w ds2 us2)(hhi:lo≤hi):ToS lo hi w (.num z::ds2) (.int .i64 z::us2):=(ToS.int lo lo w z).app h2 (Nat.le_refl _) hhi
theorem ToS.one{lo hi:Nat}{w:World}{D:Nat→Prop}{d:Dat}{u:Value}(h:Own w D d u)(hD:∀k,D k→k<w.heap.size→lo≤k∧k<hi):ToS lo hi w [d] [u]:=by
 refine⟨fun i k=>i=0∧lo≤k∧k<hi,fun i k hk=>hk.2,fun i i' k hk hk'=>by omega,rfl,fun i hi=>?_⟩;obtain rfl:i=0:=by simpa using hi
 exact⟨u,rfl,h.lt.mono (fun k hk=>⟨rfl,hD k hk.1 hk.2⟩)⟩
def VR(w:World)(base:Nat)(v:Value)(xs:List Int):Prop:=w.ownsRow base 3 1 v xs.length (xs.map (Value.int .i64))
theorem VR.ext{S:Nat→Prop}{w w':World}{base:Nat}{v:Value}{xs:List Int}(h:VR w base v xs)(hx:Ext S w w')(hs:∀g,v.ownBlock=some g→¬S g):VR w' base v xs:=by
 obtain⟨h1,h2⟩:=h;refine⟨h1,?_⟩;rcases h2 with h2|⟨g,cap,cur,e,hb,hg,rest⟩
 ·exact .inl h2
 ·exact .inr ⟨g,cap,cur,e,hb,(hx.block g (Array.getElem?_eq_some_iff.1 hg).1 (hs g (by rw[e];rfl))).trans hg,rest⟩
theorem VR.k{w w':World}{base:Nat}{v:Value}{xs:List Int}(h:VR w base v xs)(hx:zQ w w'):VR w' base v xs:=h.ext hx (fun _ _ h=>h)
theorem VR.lt{w:World}{base:Nat}{v:Value}{xs:List Int}(h:VR w base v xs):∀k,v.ownBlock=some k→base≤k∧k<w.heap.size:=World.ownsRow.lt h
theorem VR.slice{w:World}{base:Nat}{v:Value}{xs:List Int}(h:VR w base v xs):∃a c,v=.slice a xs.length c∧xs.length≤c∧jB w (fun k=>v.ownBlock=some k) a xs.length xs:=by
 have h0:=h;obtain⟨h1,h2⟩:=h;obtain⟨a,c,e,hc,ho⟩:=jV h0;refine⟨a,c,e,hc,ho.1,fun hn=>?_⟩;obtain⟨b,N,f,ea,hd,q1,q2,q3⟩:=ho.2 hn;exact⟨b,N,f,ea,by rw[e,ea];rfl,q1,q2,q3⟩
structure DJ(w:World)(base:Nat)(v:Value)(xs:List Int)(y:Int)(v':Value)(w':World):Prop where
 row:VR w' base v' (xs++ [y])
 ext:Ext (fun r=>v.ownBlock=some r) w w'
 old:VR w' base v xs
 back:∀w'',Ext (fun r=>v'.ownBlock=some r) w' w''→VR w'' base v' (xs++ [y])→VR w'' base v xs
 blk:∀r,v'.ownBlock=some r→v.ownBlock=some r∨w.heap.size≤r
theorem KJ(w:World)(ty:TypeId)(base:Nat)(v:Value)(xs:List Int)(hown:VR w base v xs)(g c:Nat)(y:Int)(hc:w.cell? ⟨g,0,none⟩=some (.int .i64 y))(hn:xs.length≤4000000)(hbase:base≤w.heap.size):
  ∃v' w',(Builtin.append_ #[52,52] ty #[v,.slice (some ⟨g,0,none⟩) 1 c]).run Tryz.prog w=.ok v' w'∧DJ w base v xs y v' w':=by
 obtain⟨i,hi,hzz⟩:=Option.map_eq_some_iff.1 (show(Tryz.prog.info? 3).map (fun i=>(i.zero,i.size,i.bytes))=some (some (.int .i64 0),1,8)by kernel_rfl);simp only[Prod.mk.injEq]at hzz;obtain⟨hz,hsize,hby⟩:=hzz;have hnews:∀(j:Nat) (u:Value), [Value.int .i64 y][j]?=some u→w.cell? ((⟨g,0,none⟩:Addr).add j)=some u:=by
  intro j u hj;rcases j with _|j
  ·simp at hj;subst hj;simpa [Addr.add]using hc
  ·simp at hj
 have hone:∀u∈ [Value.int .i64 y],u.oneCell'=true:=by simp[Value.oneCell']
 rcases hown.2 with ⟨rfl,h0⟩|⟨gg,cap,cur,rfl,hb,hg,hnc,hcm,hsz,htake⟩
 ·have hx:xs= []:=List.eq_nil_of_length_eq_zero h0
  subst hx;obtain⟨v',w',hrun,h2,h3,h4⟩:=gL (P:=Tryz.prog) w base 52 ty 3 i (.int .i64 0) 1 8 Tryz.underlying52 hi hz hsize hby rfl (by omega) (.slice none 0 0) 0 [] (World.ownsRow_nil _ _ _ _) (some ⟨g,0,none⟩) 1 c [.int .i64 y]
   ⟨rfl,fun _=>⟨g,0,rfl,fun j u hj=>by rw[Nat.zero_add];have:=hnews j u hj;rwa[Addr.add_lit,Nat.zero_add]at this⟩⟩ hone (by simp[maxLen]) (by omega) hbase
  exact⟨v',w',hrun,by simpa [VR]using h2,⟨h3.os,h3.tape,h3.output,h3.size,fun k hk hn=>h3.block k hk (fun e=>hn e.symm)⟩,World.ownsRow_nil _ _ _ _,fun _ _ _=>World.ownsRow_nil _ _ _ _,fun r hr=>by
   rcases h4 with h4|h4
   ·rw[h4]at hr;cases hr
   ·rw[h4]at hr;injection hr with hr;right;omega⟩
 ·rw[Nat.mul_one]at hsz htake
  by_cases hroom:xs.length+1≤cap
  ·have hrun:=run_append_room (P:=Tryz.prog) w 52 ty 3 i Tryz.underlying52 hi gg xs.length cap cur hg ⟨g,0,none⟩ 1 c [.int .i64 y] (by rw[hsize];rfl) hnews hone hroom (by rw[hsize];simp;omega)
   rw[hsize,Nat.mul_one]at hrun;have hlt:gg<w.heap.size:=(Array.getElem?_eq_some_iff.1 hg).1;have hclen:cur.toList.length=cap:=by simpa using hsz
   generalize hC:(cur.toList.take xs.length++ [Value.int .i64 y]++cur.toList.drop (xs.length+ [Value.int .i64 y].length)).toArray=C at hrun;have hCs:C.size=cap:=by rw[←hC];simp;omega
   have hCt:C.toList.take (xs.length+1)=(xs++ [y]).map (Value.int .i64):=by
    rw[←hC,htake,List.map_append];rw[List.take_append_of_le_length (by simp)];rw[List.take_of_length_le (by simp)];rfl
   have hX:Ext (fun r=>r=gg) w (w.setRow gg C):=⟨rfl,rfl,rfl,by simp[World.setRow],fun k hk hne=>setRow_other w gg k C (fun e=>hne e)⟩;have hg2:(w.setRow gg C).heap[gg]?=some (.cells C 3 (0,0)):=by simp[World.setRow,Array.getElem?_modify,hg]
   refine⟨_,_,hrun,⟨by simp,.inr ⟨gg,cap,C,by simp,hb,hg2,by simpa using hroom,hcm,by omega,by rw[Nat.mul_one];simpa using hCt⟩⟩,hX.mono (fun r _ hr=>by rw[hr];rfl),?_,?_,fun r hr=>.inl hr⟩
   ·refine⟨by simp,.inr ⟨gg,cap,C,rfl,hb,hg2,hnc,hcm,by omega,?_⟩⟩
    have:=congrArg (List.take xs.length) hCt;rw[List.take_take,Nat.min_eq_left (by omega),List.map_append,List.take_left' (by simp)]at this;rw[Nat.mul_one];exact this
   ·rintro w'' hx ⟨_,h2⟩
    rcases h2 with ⟨e,_⟩|⟨g',cap',cur',e,hb',hg',_,_,hsz',htake'⟩
    ·cases e
    ·injection e with e1 _ e3
     injection e1 with e1
     injection e1 with e1
     subst e1 e3;refine⟨by simp,.inr ⟨gg,cap,cur',rfl,hb,hg',hnc,hcm,hsz',?_⟩⟩;have:=congrArg (List.take xs.length) htake';rw[Nat.mul_one,List.take_take,List.length_append,Nat.min_eq_left (by simp),List.map_append,List.take_left' (by simp)]at this;rw[Nat.mul_one];exact this
  ·obtain⟨v',w',hrun,h2,h3⟩:=run_append_arg_grows (P:=Tryz.prog) w 52 ty 3 i (.int .i64 0) 1 8 Tryz.underlying52 hi hz hsize hby rfl (by omega) ⟨gg,0,none⟩ xs.length cap (xs.map (Value.int .i64)) (by simp) (fun j u hj=>by
     rw[Addr.add_lit,Nat.zero_add,cell_of_row _ gg j cur 3 (0,0) hg]
     have hj':j<xs.length:=by
      rcases Nat.lt_or_ge j xs.length with h|h
      ·exact h
      ·rw[List.getElem?_eq_none (by simpa using h)]at hj;cases hj
     rw[←htake,List.getElem?_take,if_pos hj',Array.getElem?_toList]at hj
     exact hj) ⟨g,0,none⟩ 1 c [.int .i64 y] rfl hnews (by omega) (by simp[maxLen];omega) (by omega)
   have hk:zQ w w':=⟨h3.os,h3.tape,h3.output,h3.size,fun k hk _=>h3.block k hk (by simp)⟩;have hold:VR w' base (.slice (some ⟨gg,0,none⟩) xs.length cap) xs:=hown.k hk;have hrow:VR w' w.heap.size v' (xs++ [y]):=by simpa [VR]using h2
   refine⟨v',w',hrun,?_,zQ.to hk,hold,fun w'' hx _=>hold.ext hx (fun q hq hq'=>?_),fun r hr=>.inr (hrow.lt r hr).1⟩
   ·obtain⟨q1,q2⟩:=hrow
    refine⟨q1,?_⟩;rcases q2 with q2|⟨g',cap',cur',e,hb',rest⟩
    ·exact .inl q2
    ·exact .inr ⟨g',cap',cur',e,Nat.le_trans hbase hb',rest⟩
   ·have h1:=(hown.lt q hq).2
    have h2:=(hrow.lt q hq').1;omega
theorem gP{ops:Array Oper}{o:Oper}{a:Act}{w:World}{K:Act→World→Prop}{Q:Exit→Act→World→Prop}{E:Prop}(hgd:o.guard=none)(s x:Operand)
  (ho:o.op=.call {callee:=.builtin .append,args:= #[s,x],argTypes:= #[52,52]})
  (base:Nat) (v:Value) (xs:List Int) (hs:a.eval s=v) (hown:VR w base v xs) (g c:Nat) (y:Int) (hx:a.eval x=.slice (some ⟨g,0,none⟩) 1 c) (hc:w.cell? ⟨g,0,none⟩=some (.int .i64 y)) (hn:xs.length≤4000000) (hbase:base≤w.heap.size)
  (h:∀v' w',DJ w base v xs y v' w'→K (a.put o.dst v') w'):
  if Region.wanted o (yielded ops a.tmps)=true then Oper.wp Tryz.prog o a w K Q else E:=by
 have hw:Region.wanted o (yielded ops a.tmps)=true:=by simp[Region.wanted,hgd]
 rw[if_pos hw];obtain⟨v',w',hrun,h1⟩:=KJ w o.type base v xs hown g c y hc hn hbase;unfold Oper.wp;simp[execOp,ho,resolve,invoke,builtin,hs,hx,hrun,Result.andThen];exact h v' w' h1
theorem NK(n:Nat)(w:World)(hn:n≤4000000):
  Calls Tryz.prog 225 #[.slice none 0 0,.int .i64 (n:Int)] w fun e w'=>∃v,e=.returned v∧VR w' w.heap.size v []∧zQ w w':=by
 rcases Nat.eq_zero_or_pos n with h0|h0
 ·subst h0
  refine(Tryz.slices_Grow_zero w).mono ?_;rintro e w' ⟨rfl,rfl⟩;exact⟨_,rfl,World.ownsRow_nil _ _ _ _,Ext.refl _ _⟩
 ·obtain⟨i,hi,hzz⟩:=Option.map_eq_some_iff.1 (show(Tryz.prog.info? 3).map (fun i=>(i.zero,i.size,i.bytes))=some (some (.int .i64 0),1,8)by kernel_rfl)
  simp only[Prod.mk.injEq]at hzz;obtain⟨hz,hsize,hby⟩:=hzz;refine(Tryz.slices_Grow_nil i (.int .i64 0) hi hz (by omega) n w (by omega) (by rw[hby];omega) (by omega)).mono ?_;rintro e w' ⟨rfl,rfl⟩;refine⟨_,rfl,?_,(Ext.refl _ w).drew.trans (zQ.al _ _)⟩;refine World.ownsRow_made (w:=w.drew) _ _ (Nat.le_refl _) ?_ ?_
  ·exact grownCap_le_maxLen _ _ _ _ (by simp[maxLen];omega)
  ·have h5:=grownCap_ge w (0+n) 0 3
   simp only[Nat.zero_add]at h5;simp[Builtin.zeroCells,Value.cells];omega
theorem FM(g cc:Nat)(a:Option Addr)(n c:Nat)(xs:List Int)(D:Nat→Prop)(a':Option Addr)(n' c':Nat)(ys:List Int)(D':Nat→Prop)(w:World)(h0:w.cell? ⟨g,0,none⟩=some (.slice a n c))(h1:w.cell? ⟨g,1,none⟩=some (.slice a' n' c'))(hx:qN w D a n xs)(hy:qN w D' a' n' ys)(hn:n≤1052000)(hn':n'≤1052000):
  Calls Tryz.prog 202 #[.slice (some ⟨g,0,none⟩) 2 cc] w fun e w'=>∃v,e=.returned v∧VR w' w.heap.size v (xs++ys)∧zQ w w':=by
 refine zV fun Q hQ=>?_;have HX:=LH hx;have HY:=LH hy;clear hx hy;go_in;go_wp2_with fail;go_loop [3,11] (fun sv iv=>(iv=.int .i64 (0:Nat)∧sv=.int .i64 (0:Nat))∨(iv=.int .i64 (1:Nat)∧sv=.int .i64 (n:Nat))∨(iv=.int .i64 (2:Nat)∧sv=.int .i64 ((n+n':Nat):Int))) (fun _ iv=>2-(intOf iv).toNat)
 case atStart=>exact .inl ⟨rfl,rfl⟩
 case round=>
  rcases hrel with ⟨rfl,rfl⟩|⟨rfl,rfl⟩|⟨rfl,rfl⟩
  ·go_wp2_with fail
   go_round
   case rel=>exact .inr (.inl ⟨by go_num,by go_num⟩)
   case measure=>simp[intOf]
  ·go_wp2_with fail
   go_round
   case rel=>exact .inr (.inr ⟨by go_num,by go_num⟩)
   case measure=>simp[intOf]
  ·go_wp2_with fail
   refine(NK (n+n') w (by omega)).mono ?_;rintro e w1 ⟨v,rfl,hv,p1⟩;have HV:=LH hv;have P1:=LH p1;clear hv;go_wp2_with fail;have G0:=LH h0;have G1:=LH h1;go_loopw [6,27] (fun v iv wr=>((iv=.int .i64 (0:Nat)∧Hid (VR wr w.heap.size v []))∨(iv=.int .i64 (1:Nat)∧Hid (VR wr w.heap.size v xs))∨(iv=.int .i64 (2:Nat)∧Hid (VR wr w.heap.size v (xs++ys))))∧Hid (zQ w wr)) (fun _ iv _=>2-(intOf iv).toNat)
   case atStart=>exact⟨.inl ⟨rfl,HV⟩,P1⟩
   case round=>
    obtain⟨hr,hK⟩:=hrel;clear h0 h1;obtain⟨k0,k1⟩:=hK.out.k2 G0.out G1.out;have hbs:w.heap.size≤wr.heap.size:=hK.out.size;rcases hr with ⟨rfl,hv⟩|⟨rfl,hv⟩|⟨rfl,hv⟩
    ·have hx2:=HX.out.ext hK.out (fun _ _ h=>h)
     go_wp2_with (at_builtin;refine xY _ rfl (.tmp 31) (.tmp 32) rfl w.heap.size u6 0 [] rfl hv.out a n c xs D rfl hx2 (by omega) (by omega) ?_;intro v' w' ho hg);have hv2:Hid (VR w' w.heap.size v' xs):=by have h:=ho;have hl:=HX.out.1;show VR _ _ _ _;rw[VR,hl];simpa using h
     have hK2:=LH (hK.out.grown hg (fun q hq=>.inl (hv.out.lt q hq).1));go_roundw
     case rel=>exact⟨.inr (.inl ⟨by go_num,hv2⟩),hK2⟩
     case measure=>simp[intOf]
    ·have hx2:=HY.out.ext hK.out (fun _ _ h=>h)
     have hxl:xs.length≤1052000:=by have:=HX.out.1;omega
     go_wp2_with (at_builtin;refine xY _ rfl (.tmp 31) (.tmp 32) rfl w.heap.size u6 xs.length xs rfl hv.out a' n' c' ys D' rfl hx2 (by omega) (by omega) ?_;intro v' w' ho hg);have hv2:Hid (VR w' w.heap.size v' (xs++ys)):=by have h:=ho;have hl:=HY.out.1;show VR _ _ _ _;rw[VR,List.length_append,hl];exact h
     have hK2:=LH (hK.out.grown hg (fun q hq=>.inl (hv.out.lt q hq).1));go_roundw
     case rel=>exact⟨.inr (.inr ⟨by go_num,hv2⟩),hK2⟩
     case measure=>simp[intOf]
    ·go_wp2_with fail
     exact zB hQ ⟨_,rfl,hv.out,hK.out⟩
def Q5(_ num:Int):Prop:= -9223372036854775808≤num∧num≤9223372036854775807
def TyI(ds:List zG)(sg:List yJ)(e:zK):Prop:=∀(a0:Option Addr) (n0 c0:Nat) (a1:Option Addr) (n1 c1:Nat) (v:Value) (vars:List Int) (a:Option Addr) (n c:Nat) (w:World) (base:Nat) (D:Nat→Prop),
 SR w D ds sg a0 n0 c0 a1 n1 c1→VR w base v vars→Rd w D (zJ e.kids) (.slice a n c)→(∀q,D q→q<base)→base≤w.heap.size→vars.length+4*nE e≤1049576→j8 ds.length vars=true→
 Calls Tryz.prog 117 #[.agg #[.slice a0 n0 c0,.slice a1 n1 c1],v,.agg #[.int .i64 e.op,.int .i64 e.num,.slice a n c]] w fun r w'=>r=.returned (.int .i64 (tyE ds sg vars e))∧VR w' base v vars∧Ext (fun r=>v.ownBlock=some r) w w'
theorem VR.mono{w:World}{base base':Nat}{v:Value}{xs:List Int}(h:VR w base v xs)(hb:base'≤base):VR w base' v xs:=by
 obtain⟨h1,h2⟩:=h;refine⟨h1,?_⟩;rcases h2 with h2|⟨g,cap,cur,e,hb',rest⟩
 ·exact .inl h2
 ·exact .inr ⟨g,cap,cur,e,Nat.le_trans hb hb',rest⟩
theorem VR.ints{w:World}{base:Nat}{a:Option Addr}{n c:Nat}{xs:List Int}(h:VR w base (.slice a n c) xs):n=xs.length∧qN w (fun _=>True) a n xs:=by
 obtain⟨a',c',e,_,ho⟩:=h.slice;injection e with e1 e2 e3
 subst e1 e2 e3;exact⟨rfl,ho.read.mono (fun _ _=>trivial)⟩
section
variable (ds:List zG)(sg:List yJ)
theorem JR(es:List zK)(IH0:∀j,j<es.length→TyI ds sg (eAt es j))(a0:Option Addr)(n0 c0:Nat)(a1:Option Addr)(n1 c1:Nat)(av:Option Addr)(nv cv:Nat)(vars:List Int)(a:Option Addr)(n c:Nat)(am:Option Addr)(nm cm:Nat)(fs:List (List Int))(w:World)(base:Nat)(D:Nat→Prop)
  (hp:SR w D ds sg a0 n0 c0 a1 n1 c1) (hv:VR w base (.slice av nv cv) vars) (h:Rd w D (zJ es) (.slice a n c)) (hD:∀q,D q→q<base) (hb:base≤w.heap.size) (hm:Rd w (fun _=>True) (qV fs) (.slice am nm cm)) (hfl:fs.length=es.length)
  (hlen:vars.length+4+4*nEs es≤1049576) (hall:j8 ds.length vars=true) (hfs:∀i,i<fs.length→(cAt fs i).length≤3∧j8 ds.length (cAt fs i)=true):
  Calls Tryz.prog 161 #[.agg #[.slice a0 n0 c0,.slice a1 n1 c1],.slice av nv cv,.slice a n c,.slice am nm cm] w fun r w'=>r=.returned (.int .i64 (gk (xN ds sg vars es fs)))∧zQ w w':=by
 refine zV fun Q hQ=>?_;have K0:=zQ.al w (.cells #[.slice a0 n0 c0,.slice a1 n1 c1] 130);have R0:=zP w #[.slice a0 n0 c0,.slice a1 n1 c1] 130;obtain⟨e1,hnc,hnm,hat⟩:=zx h;obtain⟨e2,hmc,hmm,hmat⟩:=gK hm;have HL:=LH e1;have HM:=LH e2;have HA:=LH hat;have HMA:=LH hmat;have IH:=LH IH0;have hn30:n≤262394:=by have:=qq es;omega
 have hnm2:nm=n:=by omega
 have HLen:=LH hlen;have HAll:=LH hall;have HFS:=LH hfs;have HFL:=LH hfl;have HD:=LH hD;have TL:=LH (US ds sg vars es fs);have TA:=LH (fun i (hi:i<es.length)=>VP ds sg vars (fs:=fs) hi);have hvn:nv=vars.length:=hv.ints.1;have HVN:=LH hvn;have hnv:nv≤1049576:=by omega
 subst hnm2;clear e1 e2 hat hmat IH0 hlen hall hfs hD hvn hfl h hm;go_in;go_wp2_with fail;go_loopw [9,15] (fun rv iv wr=>∃(j:Nat) (r:Int),j≤nm∧iv=.int .i64 j∧rv=.int .i64 r∧Hid (j=0→r= -1)∧Hid (0<j→0≤r∧∀l,l<j→iAt (xN ds sg vars es fs) l=r)∧Hid (zQ (w.alloc (.cells #[.slice a0 n0 c0,.slice a1 n1 c1] 130)) wr)) (fun _ iv _=>nm-(intOf iv).toNat)
 case atStart=>exact⟨0, -1,Nat.zero_le _,rfl,rfl,fun _=>rfl,fun h=>absurd h (by omega),Ext.refl _ _⟩
 case round=>
  obtain⟨j,r,hj,rfl,rfl,hI0,hI,hK⟩:=hrel;by_cases hlt:j<nm
  ·have HJ:Hid (j<es.length):=by have:=HL.out;show _<_;omega
   have KW:=LH (K0.trans hK.out);obtain⟨b,o,rfl,hd,a2,n2,c2,d0,d1,d2,r2⟩:=HA.out j hlt;obtain⟨bm,om,rfl,hdm,fa,fm,fc,dm,rm⟩:=HMA.out j hlt;have KB:=LH (zQ.al wr (.cells #[.int .i64 (eAt es j).op,.int .i64 (eAt es j).num,.slice a2 n2 c2] 58));obtain⟨g0,g1,g2⟩:=KW.out.k3 d0 d1 d2;have KX:=LH (KW.out.trans KB.out);have gm:=KX.out.q dm;have RS:=zX R0 (hK.out.trans KB.out) (fun h=>h);have RB:=zP wr #[.int .i64 (eAt es j).op,.int .i64 (eAt es j).num,.slice a2 n2 c2] 58;have hbw:base≤wr.heap.size:=Nat.le_trans hb KW.out.size;have HFO:=LH (HFS.out j (by have:=HFL.out;have:=HJ.out;omega));have hfm:fm=(cAt fs j).length:=(zN rm).1.symm;have HFM:=LH hfm;have hfm3:fm≤3:=by have:=HFO.out.1;omega
   have hbb:(vars++cAt fs j).length+4*nE (eAt es j)≤1049576:=by have:=yN es HJ.out;have:=HLen.out;have:=HFO.out.1;rw[List.length_append];omega
   have HZ:=LH (TA.out j HJ.out);obtain⟨z,hz⟩:∃z,tyE ds sg (vars++cAt fs j) (eAt es j)=z:=⟨_,rfl⟩;have HZ2:=LH hz;have qp:=LH (hp.k KX.out);have qv:=LH (hv.k KX.out);have qe:=LH (r2.k KX.out);have qm:=LH ((Rd.toInts rm).ext KX.out (fun _ _ h=>h));clear d0 d1 d2 dm r2 rm hz hfm;go_wp2_with fail;generalize hW:wr.alloc (.cells #[.int .i64 (eAt es j).op,.int .i64 (eAt es j).num,.slice a2 n2 c2] 58)=W at*;have x0:=RS.cell (i:=0) (by simp);have x1:=RS.cell (i:=1) (by simp);have b0:=RB.cell (i:=0) (by simp);have b1:=RB.cell (i:=1) (by simp);have b2:=RB.cell (i:=2) (by simp);simp at x0 x1 b0 b1 b2;have hWs:wr.heap.size+1=W.heap.size:=by rw[←hW];simp
   have HWS:=LH hWs;have pc:=Ext.refl0 W;clear hW g0 g1 g2 hWs;go_region_held3 (fun w'=>w'.cell? ⟨w.heap.size,0,none⟩=some (.slice a0 n0 c0)∧w'.cell? ⟨w.heap.size,1,none⟩=some (.slice a1 n1 c1)∧w'.cell? ⟨bm,om+j,none⟩=some (.slice fa fm fc)∧w'.cell? ⟨wr.heap.size,0,none⟩=some (.int .i64 (eAt es j).op)∧w'.cell? ⟨wr.heap.size,1,none⟩=some (.int .i64 (eAt es j).num)∧w'.cell? ⟨wr.heap.size,2,none⟩=some (.slice a2 n2 c2))
    (first|exact⟨zQ.at pc x0,zQ.at pc x1,zQ.at pc gm,zQ.at pc b0,zQ.at pc b1,zQ.at pc b2⟩|exact⟨zQ.at (Ext.trans pc (zQ.al _ _)) x0,zQ.at (Ext.trans pc (zQ.al _ _)) x1,zQ.at (Ext.trans pc (zQ.al _ _)) gm,zQ.at (Ext.trans pc (zQ.al _ _)) b0,zQ.at (Ext.trans pc (zQ.al _ _)) b1,zQ.at (Ext.trans pc (zQ.al _ _)) b2⟩|go_keep)
    (first
     |(go_at_call 202;have pl:=zQ.al W.drew (.cells #[.slice av nv cv,.slice fa fm fc] 52);replace pc:=Ext.trans pc pl;refine(FM _ _ _ _ _ vars _ _ _ _ (cAt fs j) _ _ (xQ (Ext.refl _ _) 0) (xQ (Ext.refl _ _) 1) ((VR.k qv.out (zQ.dt pc)).ints.2) (qm.out.ext (zQ.dt pc) (fun _ _ h=>h)) (by omega) (by omega)).mono ?_;rintro e wb ⟨v2,rfl,hv2,pb⟩;have hz2:=pc.size;have hz3:=pl.size;replace pc:=Ext.trans pc pb)
     |(go_at_call 117;refine(IH.out j HJ.out _ _ _ _ _ _ v2 (vars++cAt fs j) _ _ _ _ base D (qp.out.k (zQ.dt pc)) (hv2.mono (by simp;have:=HWS.out;omega)) (qe.out.k (zQ.dt pc)) HD.out (by have h1:=pc.size;change W.heap.size≤_ at h1;have:=HWS.out;omega) hbb (jS HAll.out HFO.out.2)).mono ?_;rw[HZ2.out];rintro e wc ⟨rfl,_,xc⟩;have hv3:=LH hv2.lt;replace pc:=Ext.then_ pc xc (fun i hi e=>by have h1:=(hv3.out i e).1;simp at h1;change i<W.heap.size at hi;omega)))
   have KN:=LH ((hK.out.trans KB.out).trans (zQ.dt pc));have KE:=LH (KX.out.trans (zQ.dt pc));have hTj:=LH (show iAt (xN ds sg vars es fs) j=z by rw[HZ.out,HZ2.out]);clear pc x0 x1 b0 b1 b2 gm RB RS;by_cases hz0:0≤z
   case neg=>
    have V:Hid (gk (xN ds sg vars es fs)= -1):=ZQ (i:=j) (by rw[TL.out];exact HJ.out) (.inr (by rw[hTj.out];omega));go_wp2_with fail;exact zB hQ ⟨zE V.out.symm,KE.out⟩
   rcases Nat.eq_zero_or_pos j with hj0|hj0
   ·subst hj0
    go_wp2_with fail;go_roundw
    case rel=>exact⟨1,z,by omega,by go_num,rfl,fun h=>absurd h (by omega),fun _=>⟨hz0,fun l hl=>by
     have hl0:l=0:=by omega
     rw[hl0];exact hTj.out⟩,KN⟩
    case measure=>simp[intOf];omega
   ·by_cases hzr:z=r
    ·have hzr':(z !=r)=false:=by simpa using hzr
     have HZR:=LH hzr;clear hzr;go_wp2_with fail;go_roundw
     case rel=>exact⟨j+1,z,by omega,by go_num,rfl,fun h=>absurd h (by omega),fun _=>⟨hz0,fun l hl=>by
      rcases Nat.lt_succ_iff_lt_or_eq.1 hl with h|h
      ·rw[HZR.out];exact(hI.out hj0).2 l h
      ·rw[h];exact hTj.out⟩,KN⟩
     case measure=>simp[intOf];omega
    ·have hzr':(z !=r)=true:=by simpa using hzr
     have V:Hid (gk (xN ds sg vars es fs)= -1):=ZQ (i:=j) (by rw[TL.out];exact HJ.out) (.inl (by rw[hTj.out,(hI.out hj0).2 0 hj0];exact hzr));clear hzr;go_wp2_with fail;exact zB hQ ⟨zE V.out.symm,KE.out⟩
  ·have V:Hid (gk (xN ds sg vars es fs)=r):=by
    show _=_;rcases Nat.eq_zero_or_pos j with hj0|hj0
    ·have h0:xN ds sg vars es fs= []:=List.eq_nil_of_length_eq_zero (by rw[TL.out];have:=HL.out;omega)
     rw[h0,hI0.out hj0];rfl
    ·exact JY (by rw[TL.out];have:=HL.out;omega) (by have:=(hI.out hj0).1;omega) (fun i hi=>(hI.out hj0).2 i (by rw[TL.out]at hi;have:=HL.out;omega))
   go_wp2_with fail;exact zB hQ ⟨zE V.out.symm,K0.trans hK.out⟩
end
end Go.Proofs.YtkapldpmjkdmcaaGreat
