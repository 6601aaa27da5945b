/- copies of expressions (reference). -/
import Derived.Test.YtkapldpmjkdmcaaGreatUAP
import Derived.Test.YtkapldpmjkdmcaaGreatUAC
import Derived.Test.YtkapldpmjkdmcaaGreatUAG
import Derived.Test.YtkapldpmjkdmcaaGreatShelf
import Derived.Test.YtkapldpmjkdmcaaGreatUAD
namespace Go.Proofs.YtkapldpmjkdmcaaGreat
open Go.RowKit
set_option maxRecDepth 100000
set_option maxHeartbeats 8000000
def CpC(e:zK):Prop:=∀(a:Option Addr) (n c:Nat) (D:Nat→Prop) (w:World),Rd w D (zJ e.kids) (.slice a n c)→
 Calls Tryz.prog 227 #[.agg #[.int .i64 e.op,.int .i64 e.num,.slice a n c]] w fun r w'=>
  ∃a' n' c',r=.returned (.agg #[.int .i64 e.op,.int .i64 e.num,.slice a' n' c'])∧Rd w' (fun q=>w.heap.size≤q) (zJ e.kids) (.slice a' n' c')∧zQ w w'
theorem kU(es:List zK)(IH0:∀j,j<es.length→CpC (eAt es j))(a:Option Addr)(n c:Nat)(D:Nat→Prop)(w:World)(h:Rd w D (zJ es) (.slice a n c))(hn:n≤1000000):
  Calls Tryz.prog 211 #[.slice a n c] w fun r w'=>
   ∃v,r=.returned v∧zq w' w.heap.size (fun q=>w.heap.size≤q) 58 3 v (es.map yC)∧zQ w w':=by
 refine zV fun Q hQ=>?_;obtain⟨e1,hnc,hm,hat⟩:=zx h;have HL:=LH e1;have HA:=LH hat;have IH:=LH IH0;clear e1 hat IH0 h;go_in;go_wp2;have A0:=zq.made w (fun q=>w.heap.size≤q) 58 3;go_loopw [3,4] (fun ov iv wr=>∃j:Nat,j≤n∧iv=.int .i64 j∧zq wr w.heap.size (fun q=>w.heap.size≤q) 58 3 ov ((es.take j).map yC)∧zQ w wr) (fun _ i _=>n-(intOf i).toNat)
 case atStart=>exact⟨0,Nat.zero_le _,rfl,A0,zQ.al _ _⟩
 case round=>
  obtain⟨j,hj,rfl,hB,hK⟩:=hrel;have hs:=hK.size;by_cases hlt:j<n
  ·obtain⟨b,o,rfl,hd,a2,n2,c2,d0,d1,d2,r2⟩:=HA.out j hlt
   obtain⟨g0,g1,g2⟩:=hK.k3 d0 d1 d2;have q2:=r2.k hK;have HS:=LH (xj es (j:=j) (by have:=HL.out;omega));have hlr:((es.take j).map yC).length=j:=by
    rw[List.length_map,List.length_take,HL.out];omega
   have HLR:=LH hlr;clear d0 d1 d2 r2 hlr;go_wp2_with fail;refine(IH.out j (by have:=HL.out;omega) _ _ _ _ _ q2).mono ?_;rintro e w1 ⟨a',n',c',rfl,r1,p1⟩;have hs1:=p1.size;have hB1:=hB.keep p1;have bnd:=hB.bound;have hX:=jv w1 (fun q=>w.heap.size≤q∧u3.ownBlock≠some q) 58 (eAt es j).op (eAt es j).num (eAt es j).kids a' n' c' ⟨by omega,fun e=>by have:=bnd _ e;omega⟩ (r1.mono (fun q hq=>⟨by omega,fun e=>by have:=bnd q e;omega⟩));have hB2:=hB1.keep (zQ.al w1 (.cells #[.int .i64 (eAt es j).op,.int .i64 (eAt es j).num,.slice a' n' c'] 58));have hKl:=LH ((hK.trans p1).trans (zQ.al w1 (.cells #[.int .i64 (eAt es j).op,.int .i64 (eAt es j).num,.slice a' n' c'] 58)));clear bnd r1 hB hB1 q2;go_wp2_with (at_builtin;go_must (refine yz _ rfl (.tmp 12) (.tmp 18) 56 rfl w.heap.size 58 (.agg #[.int .i64 0,.int .i64 0,.slice none 0 0]) 3 40 Tryz.underlying56 (by kernel_rfl) rfl (by omega) (fun q=>w.heap.size≤q) _ _ rfl hB2 _ 1 1 _ _ rfl hX (fun q _ hq=>hq) (by rw[HLR.out];omega) (by rw[HLR.out];omega) (by simp;omega) ?_);intro v1 w10 hA2 xA sA);go_roundw
   case rel=>exact⟨j+1,by omega,by go_num,by
    rw[HS.out,List.map_append]
    have:(.mk (eAt es j).op (eAt es j).num (eAt es j).kids:zK)=eAt es j:=by cases eAt es j;rfl
    rw[this]at hA2
    exact hA2,hKl.out.then_ xA (fun q hq h=>by omega)⟩
   case measure=>simp[intOf];omega
  ·have HJ:=LH (show j=n by omega)
   rw[List.take_of_length_le (by have:=HL.out;have:=HJ.out;omega)]at hB;go_wp2;exact zB hQ ⟨_,rfl,hB,hK⟩
theorem UG(N:Nat):∀e:zK,nE e<N→nE e≤1000000→CpC e:=by
 induction N with
 |zero=>intro e h;omega
 |succ N ihN=>
 intro e hN hsz;obtain⟨op,num,es⟩:=e;intro a n c D w h;have he:=uF (.mk op num es);have IH:=LH (fun(j:Nat) (hj:j<es.length)=>ihN (eAt es j) (by have:=yN es hj;have e:zK.kids (.mk op num es)=es:=rfl;rw[e]at he;omega) (by have:=yN es hj;have e:zK.kids (.mk op num es)=es:=rfl;rw[e]at he;omega));have hn:n≤1000000:=by
  have:=(zx h).1;have h2:=qq es;have e:zK.kids (.mk op num es)=es:=rfl;rw[e]at he this;omega
 clear ihN he hsz hN;refine zV fun Q hQ=>?_;change Rd w D (zJ es) _ at h;simp only[zK.op,zK.num];have K0:=(zQ.al w (.cells #[.int .i64 op,.int .i64 num,.slice a n c] 58)).trans (zQ.al _ (.cells #[.int .i64 0,.int .i64 0,.slice none 0 0] 58));have R0:=(zP w #[.int .i64 op,.int .i64 num,.slice a n c] 58).alloc (.cells #[.int .i64 0,.int .i64 0,.slice none 0 0] 58);have R1:=zP (w.alloc (.cells #[.int .i64 op,.int .i64 num,.slice a n c] 58)) #[.int .i64 0,.int .i64 0,.slice none 0 0] 58;simp only[World.size_alloc]at R1;obtain⟨x0,x1,x2⟩:C3 (((w.alloc (.cells #[.int .i64 op,.int .i64 num,.slice a n c] 58)).alloc (.cells #[.int .i64 0,.int .i64 0,.slice none 0 0] 58))) (w.heap.size) (.int .i64 op) (.int .i64 num) (.slice a n c):=rc3 R0 (by simp);obtain⟨u0,u1,u2⟩:C3 (((w.alloc (.cells #[.int .i64 op,.int .i64 num,.slice a n c] 58)).alloc (.cells #[.int .i64 0,.int .i64 0,.slice none 0 0] 58))) (w.heap.size+1) (.int .i64 0) (.int .i64 0) (.slice none 0 0):=rc3 R1 (by simp);have f0:=R1.frozen 0;have f1:=R1.frozen 1;have f2:=R1.frozen 2;go_in;go_wp2_with fail;have hsz:((w.alloc (.cells #[.int .i64 op,.int .i64 num,.slice a n c] 58)).alloc (.cells #[.int .i64 0,.int .i64 0,.slice none 0 0] 58)).heap.size=w.heap.size+2:=by simp
 generalize ((w.alloc (.cells #[.int .i64 op,.int .i64 num,.slice a n c] 58)).alloc (.cells #[.int .i64 0,.int .i64 0,.slice none 0 0] 58))=W at*;have q2:=(h.k K0).k (w':=W.drew) (kD _);have KD:=LH K0.drew;have hs2:w.heap.size≤W.drew.heap.size:=by show w.heap.size≤W.heap.size;omega
 clear R0 R1 K0 h;go_region_held3 (fun w'=>w'.cell? ⟨w.heap.size,0,none⟩=some (.int .i64 op)∧w'.cell? ⟨w.heap.size,1,none⟩=some (.int .i64 num)∧w'.cell? ⟨w.heap.size,2,none⟩=some (.slice a n c))
  (first|exact⟨zQ.at p1 x0,zQ.at p1 x1,zQ.at p1 x2⟩|go_keep)
  ((go_at_call 211;refine(kU es IH.out _ _ _ _ _ q2 hn).mono ?_;rintro e w1 ⟨v',rfl,hA,p1⟩;obtain⟨a',c',e',_,_,r0⟩:=hA.read (by omega);rw[List.length_map]at e';subst e';have v0:=zQ.at p1 u0;have v1:=zQ.at p1 u1;have v2:=zQ.at p1 u2;have g0:=jJ p1 u0 f0;have g1:=jJ p1 u1 f1;have g2:=jJ p1 u2 f2;have r1:Rd w1 (fun q=>W.heap.size≤q) (zJ es) (.slice a' es.length c'):=(by show Rd _ _ (.arr 3 (yF es)) _;rw[yR];exact r0.mono (fun k hk=>hk.elim id id));clear r0 hA))
 have X:=((((Ext.refl (fun q=>q=w.heap.size+1) w1).setCell (p:=⟨w.heap.size+1,0,none⟩) (.inr rfl) (.int .i64 op)).setCell (p:=⟨w.heap.size+1,1,none⟩) (.inr rfl) (.int .i64 num)).setCell (p:=⟨w.heap.size+1,2,none⟩) (.inr rfl) (.slice a' es.length c'));have r2:=(r1.ext X (fun q hq e=>by omega)).mono (D':=fun q=>w.heap.size≤q) (fun q hq=>Nat.le_trans hs2 hq);have KF:=LH ((KD.out.trans p1).then_ X (fun q hq e=>by omega));clear X;go_wp2_with fail;exact bodyPost_ret (v:=.agg #[.int .i64 op,.int .i64 num,.slice a' es.length c']) (by simp[results,Tryz.results227,go_sem,v0,v1,v2]) rfl (zB hQ ⟨a',es.length,c',rfl,r2,KF.out⟩)
theorem Vj(e:zK)(h:nE e≤1000000):CpC e:=UG _ e (Nat.lt_succ_self _) h
theorem Qz(es:List zK)(hsz:nEs es≤1000000)(a:Option Addr)(n c:Nat)(D:Nat→Prop)(w:World)(h:Rd w D (zJ es) (.slice a n c)):
  Calls Tryz.prog 211 #[.slice a n c] w fun r w'=>
   ∃v,r=.returned v∧zq w' w.heap.size (fun q=>w.heap.size≤q) 58 3 v (es.map yC)∧zQ w w':=
 kU es (fun j hj=>Vj _ (by have:=yN es hj;omega)) a n c D w h (by have h1:=(zx h).1;have h2:=qq es;omega)
def NP(B g:Nat)(p N K:Int)(M:Nat)(D:Nat→Prop)(w:World)(e:Ending)(w':World):Prop:=∃(x:zK) (a:Option Addr) (n c:Nat) (q:Int),
 e=.returned (.agg #[.int .i64 x.op,.int .i64 x.num,.slice a n c])∧Rd w' (fun k=>D k∨w.heap.size≤k) (zJ x.kids) (.slice a n c)∧yL (yX K) x∧nE x≤M∧Rdx w' B g q∧q≤p+N∧Ext (·=g) w w'
structure Bs(w w':World)(B g:Nat)(D:Nat→Prop)(x:zK)(a:Option Addr)(n c:Nat)(q:Int):Prop where
 r:Rdx w' B g q
 bw:B≤w.heap.size
 eb:Ev w' w.heap.size (fun k=>D k∧k<w.heap.size) x a n c
 rb:Ev w' (w.heap.size+1) (fun _=>False) (.mk 0 0 []) none 0 0
 x:Ext (·=g) w w'
 dg:∀k,D k→k≠g
section
variable {w w' w2:World}{B g:Nat}{D:Nat→Prop}{x:zK}{a:Option Addr}{n cc:Nat}{q q':Int}
theorem Bs.gw(h:Bs w w' B g D x a n cc q):g<w.heap.size:=Nat.lt_of_lt_of_le h.r.gB h.bw
theorem Bs.lt(h:Bs w w' B g D x a n cc q):w.heap.size+2≤w'.heap.size:=by have:=h.rb.lt;omega
theorem Bs.k(h:Bs w w' B g D x a n cc q)(K:zQ w' w2):Bs w w2 B g D x a n cc q:=⟨h.r.keep K,h.bw,h.eb.keep K,h.rb.keep K,h.x.trans (zQ.to K),h.dg⟩
theorem Bs.c(h:Bs w w' B g D x a n cc q)(X:Ext (·=g) w' w2)(r:Rdx w2 B g q'):Bs w w2 B g D x a n cc q':=
 ⟨r,h.bw,h.eb.ext X (by have:=h.gw;omega) (fun k hk e=>h.dg k hk.1 e),h.rb.ext X (by have:=h.gw;omega) (fun k hk=>hk.elim),h.x.trans X,h.dg⟩
theorem Bs.e{S:Nat→Prop}(h:Bs w w' B g D x a n cc q)(X:Ext S w' w2)(hs:∀k,S k→w.heap.size+2≤k):Bs w w2 B g D x a n cc q:=
 ⟨h.r.ext X (fun k hk e=>by have:=h.bw;have:=hs k e;omega),h.bw,h.eb.ext X (fun e=>by have:=hs _ e;omega) (fun k hk e=>by have:=hs k e;omega),h.rb.ext X (fun e=>by have:=hs _ e;omega) (fun k hk=>hk.elim),h.x.then_ X (fun k hk e=>by have:=hs k e;omega),h.dg⟩
theorem Bs.start(h:Rd w D (zJ x.kids) (.slice a n cc))(hr:Rdx w B g q)(hB:B≤w.heap.size)(hd:∀k,D k→k≠g):
  Bs w ((w.alloc (.cells #[.int .i64 x.op,.int .i64 x.num,.slice a n cc] 58)).alloc (.cells #[.int .i64 0,.int .i64 0,.slice none 0 0] 58)) B g D x a n cc q:=by
 have K1:=zQ.al w (.cells #[.int .i64 x.op,.int .i64 x.num,.slice a n cc] 58);have K2:=zQ.al (w.alloc (.cells #[.int .i64 x.op,.int .i64 x.num,.slice a n cc] 58)) (.cells #[.int .i64 0,.int .i64 0,.slice none 0 0] 58);have e2:=Ev.born (w.alloc (.cells #[.int .i64 x.op,.int .i64 x.num,.slice a n cc] 58)) (fun _=>False) (.mk 0 0 []) none 0 0 (.nil 3 _ _);rw[World.size_alloc]at e2;exact⟨hr.keep (K1.trans K2),hB,(Ev.born w _ x a n cc h.lt).keep K2,e2,zQ.to (K1.trans K2),hd⟩
theorem Bs.fin{p N K op num:Int}{M:Nat}{ks:List zK}{a':Option Addr}{n' c':Nat}(h:Bs w w' B g D x a n cc q)(rd:Rd w' (fun k=>(D k∧k<w.heap.size)∨w.heap.size+2≤k) (zJ ks) (.slice a' n' c'))(hf:yL (yX K) (.mk op num ks))(hz:nEs ks+1≤M)(hq:q≤p+N):
  NP B g p N K M D w (.returned (.agg #[.int .i64 op,.int .i64 num,.slice a' n' c'])) (((w'.setCell ⟨w.heap.size+1,0,none⟩ (.int .i64 op)).setCell ⟨w.heap.size+1,1,none⟩ (.int .i64 num)).setCell ⟨w.heap.size+1,2,none⟩ (.slice a' n' c')):=by
 have Y:=J5 w' (w.heap.size+1) (.int .i64 op) (.int .i64 num) (.slice a' n' c');have hgw:=h.gw;refine⟨.mk op num ks,a',n',c',q,rfl,?_,hf,by rw[nE];exact hz,h.r.ext Y (fun k hk e=>by have:=h.bw;omega),hq,h.x.then_ Y (fun k hk e=>by omega)⟩;refine(rd.ext Y (fun k hk e=>by omega)).mono (fun k hk=>?_);rcases hk with h|h
 ·exact .inl h.1
 ·exact .inr (by omega)
end
theorem zq.putE{w:World}{base:Nat}{D:Nat→Prop}{T:TypeId}{v:Value}{es:List zK}{b k:Nat}{x:zK}{u:Value}(h:zq w base D T 3 v (es.map yC))(hb:v.ownBlock=some b)(hk:k<es.length)
  (hu:Rd w (fun k=>D k∧k≠b) (zJ x.kids) u):
  zq (((w.setCell ⟨b,k*3,none⟩ (.int .i64 x.op)).setCell ⟨b,k*3+1,none⟩ (.int .i64 x.num)).setCell ⟨b,k*3+2,none⟩ u) base D T 3 v ((es.set k x).map yC):=by
 have hl:k<(es.map yC).length:=by simpa using hk
 have x1:Ext (fun m=>m=b) w (w.setCell ⟨b,k*3,none⟩ (.int .i64 x.op)):=(Ext.refl (fun m=>m=b) w).setCell (p:=⟨b,k*3,none⟩) (.inr rfl) _;have x2:Ext (fun m=>m=b) w ((w.setCell ⟨b,k*3,none⟩ (.int .i64 x.op)).setCell ⟨b,k*3+1,none⟩ (.int .i64 x.num)):=x1.setCell (p:=⟨b,k*3+1,none⟩) (.inr rfl) _;have h1:=h.put (i:=k) (j:=0) (d:=.num x.op) hb hl (by omega) (.num _);have h2:=h1.put (i:=k) (j:=1) (d:=.num x.num) hb (by rw[qX];exact hl) (by omega) (.num _);have h3:=h2.put (i:=k) (j:=2) (d:=zJ x.kids) hb (by rw[qX,qX];exact hl) (by omega) (hu.ext x2 (fun m hm h=>hm.2 h));have e:upd (upd (upd (es.map yC) k 0 (.num x.op)) k 1 (.num x.num)) k 2 (zJ x.kids)=(es.set k x).map yC:=by
  have r0:qC (es.map yC) k= [.num (eAt es k).op,.num (eAt es k).num,zJ (eAt es k).kids]:=by rw[←yR];exact kz es k hk
  simp only[upd];rw[xE (by simpa using hk),xE (by simpa using hk),if_pos rfl,if_pos rfl,r0];simp[List.map_set,jM]
 rw[e]at h3;exact h3
theorem NQ{es:List zK}{k:Nat}{x:zK}(hk:k<es.length)(hx:nE x≤nE (eAt es k)+1):nEs (es.set k x)≤nEs es+1:=by
 induction es generalizing k with
 |nil=>simp at hk
 |cons y ys ih=>
  rcases k with _|k
  ·have e:eAt (y::ys) 0=y:=rfl
   rw[e]at hx;simp only[List.set_cons_zero,nEs];omega
  ·have e:eAt (y::ys) (k+1)=eAt ys k:=by simp[eAt,List.getD]
   rw[e]at hx;have:=ih (k:=k) (by simpa using hk) hx;simp only[List.set_cons_succ,nEs];omega
theorem EF{P:Int→Int→Prop}{es:List zK}{k:Nat}{x:zK}(h:yS P es)(hx:yL P x):yS P (es.set k x):=by
 induction es generalizing k with
 |nil=>trivial
 |cons y ys ih=>
  rcases k with _|k
  ·exact⟨hx,h.2⟩
  ·exact⟨h.1,ih h.2⟩
mutual
theorem NZ{K K':Int}(hk:K≤K'):∀e:zK,yL (yX K) e→yL (yX K') e
 | .mk _ _ ks=>fun h=>⟨⟨by have:=h.1.1;omega,by have:=h.1.2;omega⟩,Xk hk ks h.2⟩
theorem Xk{K K':Int}(hk:K≤K'):∀es:List zK,yS (yX K) es→yS (yX K') es
 | []=>fun _=>trivial
 |e::es=>fun h=>⟨NZ hk e h.1,Xk hk es h.2⟩
end
theorem Mw{w:World}{base:Nat}{D:Nat→Prop}{T:TypeId}{es:List zK}{s n c:Nat}(h:zq w base D T 3 (.slice (some ⟨s,0,none⟩) n c) (es.map yC)){k:Nat}(hk:k<es.length):
  ∃ab nb cb,w.cell? ⟨s,k*3,none⟩=some (.int .i64 (eAt es k).op)∧w.cell? ⟨s,k*3+1,none⟩=some (.int .i64 (eAt es k).num)∧w.cell? ⟨s,k*3+2,none⟩=some (.slice ab nb cb)∧Rd w (fun m=>D m∧m≠s) (zJ (eAt es k).kids) (.slice ab nb cb)∧(∀o,w.frozen? ⟨s,o,none⟩=false):=by
 have hl:k<(es.map yC).length:=by simpa using hk
 obtain⟨b,c',e,_,_,hn,_,hfz,hcell⟩:=h.open (by omega);injection e with e1 e2 e3
 injection e1 with e1
 injection e1 with e1 _ _
 subst e1;subst e3;have hrow:qC (es.map yC) k= [.num (eAt es k).op,.num (eAt es k).num,zJ (eAt es k).kids]:=by rw[←yR];exact kz es k hk
 obtain⟨u0,q0,r0⟩:=hcell k 0 hl (by omega);obtain⟨u1,q1,r1⟩:=hcell k 1 hl (by omega);obtain⟨u2,q2,r2⟩:=hcell k 2 hl (by omega);simp only[rAt,hrow,jP,List.getD_cons_zero,List.getD_cons_succ]at r0 r1 r2;have h0:=r0.num_inv;have h1:=r1.num_inv;subst h0;subst h1;obtain⟨ab,nb,cb,rfl,_,_⟩:=qT r2;exact⟨ab,nb,cb,q0,q1,q2,r2.mono (fun m hm=>⟨hm.1,hm.2.1⟩),hfz⟩
def L7(B g:Nat)(K:Int)(e:zK):Prop:=∀(a:Option Addr) (n c:Nat) (D:Nat→Prop) (p:Int) (w:World),(∀k,D k→k≠g)→yL (yX K) e→Rd w D (zJ e.kids) (.slice a n c)→Rdx w B g p→B≤w.heap.size→p+10*(nE e:Int)≤900000000000→
 Calls Tryz.prog 174 #[.pointer (some ⟨g,0,none⟩),.agg #[.int .i64 e.op,.int .i64 e.num,.slice a n c]] w (NP B g p (10*(nE e:Int)) (K+1000) (nE e+1) D w)
theorem Bk(B g:Nat)(K:Int)(hK:0≤K∧K≤1000000)(N:Nat):∀e:zK,nE e<N→nE e≤900→L7 B g K e:=by
 induction N with
 |zero=>intro e h;omega
 |succ N ihN=>
 intro e hN hsz;obtain⟨op,num,es⟩:=e;intro a n c D p w hD hf h hr hB hp;have he:=uF (.mk op num es);have ek:zK.kids (.mk op num es)=es:=rfl;rw[ek]at he;have IH:Hid (∀j,j<es.length→L7 B g K (eAt es j)):=fun j hj=>ihN (eAt es j) (by have:=yN es hj;omega) (by have:=yN es hj;omega);have HM:Hid (nE (.mk op num es)=nEs es+1):=he;have hes:nEs es≤900:=by omega
 have HLEN:Hid (es.length=n):=(zx h).1;have hn:n≤900:=by have h1:=(zx h).1;have h2:=qq es;rw[ek]at h1;omega
 have HK:=LH hK;have HNUM:Hid (-K≤num∧num≤K):=hf.1;have FK0:Hid (yS (yX K) es):=hf.2;have FK:Hid (yS (yX (K+1000)) es):=Xk (by omega) es hf.2;have HPP:=LH (show p+10*((nEs es:Int)+1)≤900000000000 by rw[he]at hp;omega);have hMM:nEs es+1+1=nE (.mk op num es)+1:=by rw[he]
 refine zV fun Q hQ=>?_;rw[←hMM]at hQ;have hNN:10*(nE (.mk op num es):Int)=10*((nEs es:Int)+1):=by rw[he];omega
 rw[hNN]at hQ;have hgB:=hr.gB;have hgw:g<w.heap.size:=by omega
 have GS:=LH (Bs.start (x:=.mk op num es) h hr hB hD);clear ihN hN hsz hf h hr hp he ek hMM hNN hD hK;simp only[zK.op,zK.num];go_in;go_upto_region 1 with fail;replace GS:Hid (Bs w ((w.alloc (.cells #[.int .i64 op,.int .i64 num,.slice a n c] 58)).alloc (.cells #[.int .i64 0,.int .i64 0,.slice none 0 0] 58)) B g D (.mk op num es) a n c p):=GS;generalize hW:(w.alloc (.cells #[.int .i64 op,.int .i64 num,.slice a n c] 58)).alloc (.cells #[.int .i64 0,.int .i64 0,.slice none 0 0] 58)=wq at*;clear hW;have e2:=GS.out.eb.v2;go_cut [15] (fun sb wx=>∃(bb:Bool) (q:Int),sb=.bool bb∧Hid (bb=true→0<n)∧Hid (Bs w wx B g D (.mk op num es) a n c q)∧Hid (q≤p+1))
 case first=>
  by_cases hn0:0<n
  ·have hn1:(0:Int)<(n:Int):=by omega
   go_wp2_with fail;refine(jD B g p 3 wq GS.out.r (by have:=HPP.out;omega) (by omega)).mono ?_;rintro e w5 ⟨v,rfl,hv,_,r5,x5⟩;have G5:=LH (GS.out.c x5 r5);obtain⟨hv0,hv1⟩:=hv (by omega);clear hv r5 x5 GS e2;by_cases hv2:v>0;all_goals
    go_wp2_with fail;go_meet
    case rel=>exact⟨_,_,rfl,(fun _=>hn0),G5,(by show _≤_;omega)⟩
  ·obtain rfl:n=0:=(by omega)
   go_wp2_with fail;go_meet
   case rel=>exact⟨_,p,rfl,(fun h=>by cases h),GS,(by show _≤_;omega)⟩
 case rest=>
 clear GS e2;obtain⟨bb,q,rfl,HBB,GS,hq⟩:=hcut;go_upto_if 15 with fail;cases bb
 case true=>
  have hn0:0<n:=HBB.out rfl;have e2:=GS.out.eb.v2;go_wp2_with fail;refine(Qz es (by omega) a n c _ _ GS.out.eb.k).mono ?_;rintro e w5 ⟨v,rfl,hA,k5⟩;have hl1:=GS.out.lt;replace GS:=LH (GS.out.k k5);have HLR:=LH (show(es.map yC).length=n by rw[List.length_map];exact HLEN.out);obtain⟨bk,ck,rfl,hbk,hbk2,hnc,hcm,_,_⟩:=hA.open (by have:=HLR.out;omega);have hrl:=HLR.out;rw[hrl]at hA hnc;have AA:=LH hA;have e2:=GS.out.eb.v2;rw[hrl];clear hA k5 hrl hcm;go_wp2_with fail;refine(jD B g q n w5 GS.out.r (by have:=HPP.out;have:=hq.out;omega) (by omega)).mono ?_;rintro e w6 ⟨v,rfl,hv,_,r6,x6⟩;obtain⟨hv0,hv1⟩:=hv (by omega);obtain⟨k,rfl⟩:=Int.eq_ofNat_of_zero_le hv0;have hkn:k<n:=by omega
  replace GS:=LH (GS.out.c x6 r6);have hw6:=x6.size;replace AA:=LH (AA.out.ext x6 (fun k hk h e=>by rcases h with h|h<;>omega));clear hv r6 x6;have hkl:k<es.length:=by have:=HLEN.out;omega
  obtain⟨ab,nb,cb,z0,z1,z2,rk,hfz⟩:=Mw AA.out hkl;have RK:=LH rk;clear rk;go_wp2_with fail;refine(IH.out k hkl ab nb cb (fun m=>wc.heap.size≤m∧m≠bk) _ w6 (fun m hm=>by omega) (XH FK0.out hkl) RK.out GS.out.r (Nat.le_trans GS.out.bw GS.out.x.size) (by have h1:=HPP.out;have h2:=hq.out;have h3:=yN es hkl;omega)).mono ?_;rintro e w7 ⟨x,ax,nx,cx,q7,rfl,rx,fx,sx,r7,hq7,x7⟩;have hw7:=x7.size;replace GS:=LH (GS.out.c x7 r7);replace AA:=LH (AA.out.ext x7 (fun k hk h e=>by rcases h with h|h<;>omega));have hbkg:bk≠g:=by omega
  have y0:=x7.at z0 hbkg;have y1:=x7.at z1 hbkg;have y2:=x7.at z2 hbkg;have f0:=x7.fr z0 (hfz _) hbkg;have f1:=x7.fr z1 (hfz _) hbkg;have f2:=x7.fr z2 (hfz _) hbkg;have RX:=LH (rx.mono (D':=fun m=>wc.heap.size≤m∧m≠bk) (fun m hm=>by rcases hm with h|h<;>omega));have Y:=ZU w7 bk (k*3) (.int .i64 x.op) (.int .i64 x.num) (.slice ax nx cx);have A8:=LH (AA.out.putE (k:=k) (x:=x) rfl hkl RX.out);have G8:=LH (GS.out.e Y (fun m hm=>by omega));have FX:=LH fx;have SX:=LH sx;have HQ7:=LH (show q7≤p+10*((nEs es:Int)+1)by have h2:=hq.out;have h3:=yN es hkl;omega);clear hfz z0 z1 z2 rx fx sx r7 hq7 x7 AA RK;go_upto_region 5 with fail;generalize hW:((w7.setCell ⟨bk,k*3,none⟩ (.int .i64 x.op)).setCell ⟨bk,k*3+1,none⟩ (.int .i64 x.num)).setCell ⟨bk,k*3+2,none⟩ (.slice ax nx cx)=w8 at*;clear hW y0 y1 y2 f0 f1 f2 Y GS;have e0:w8.cell? ⟨w.heap.size,0,none⟩=some (.int .i64 op):=G8.out.eb.v0;have e1:w8.cell? ⟨w.heap.size,1,none⟩=some (.int .i64 num):=G8.out.eb.v1;go_wp2_with fail;refine(zU _ _ _ _ _ _).mono ?_;rintro e w9 ⟨rfl,k9⟩;have GS:=LH (G8.out.k k9);obtain⟨_,_,ea,_,_,rd⟩:=(A8.out.keep k9).read (by omega);have RD:Hid (Rd w9 (fun k=>(D k∧k<w.heap.size)∨w.heap.size+2≤k) (zJ (es.set k x)) (.slice (some ⟨bk,0,none⟩) n ck)):=by
   show Rd _ _ (.arr 3 (yF _)) _;rw[yR];exact rd.mono (fun m hm=>.inr (by rcases hm with h|h<;>omega))
  clear k9 G8 A8 rd e0 e1 ea;have c0:=GS.out.rb.v0;have c1:=GS.out.rb.v1;have c2:=GS.out.rb.v2;have g0:=GS.out.rb.g0;have g1:=GS.out.rb.g1;have g2:=GS.out.rb.g2;go_wp2_with fail;refine bodyPost_ret (v:=.agg #[.int .i64 op,.int .i64 num,.slice (some ⟨bk,0,none⟩) n ck]) (by simp[results,Tryz.results174,go_sem,c0,c1,c2]) rfl (zB hQ ?_);exact GS.out.fin (op:=op) (num:=num) (ks:=es.set k x) RD.out ⟨by have h1:=HNUM.out;exact⟨by omega,by omega⟩,EF FK.out FX.out⟩ (by have:=NQ hkl SX.out;omega) HQ7.out
 case false=>
 go_wp2_with fail;refine(jD B g q 5 _ GS.out.r (by have:=HPP.out;have:=hq.out;omega) (by omega)).mono ?_;rintro e wq ⟨v,rfl,hv,_,r6,x6⟩;replace GS:=LH (GS.out.c x6 r6);obtain⟨hv0,hv1⟩:=hv (by omega);have hvc:v=0∨v=1∨v=2∨v=3∨v=4:=by omega
 have hw1:w.heap.size≠w.heap.size+1:=by omega
 clear hv r6 x6 HBB hv0 hv1;rcases hvc with rfl|rfl|rfl|rfl|rfl
 ·go_upto_region 8 with fail
  have KD:zQ wq wq.drew:=(kD wq);replace GS:=LH (GS.out.k KD);clear KD;have e1:wq.drew.cell? ⟨w.heap.size,1,none⟩=some (.int .i64 num):=GS.out.eb.v1;have e2:wq.drew.cell? ⟨w.heap.size,2,none⟩=some (.slice a n c):=GS.out.eb.v2;refine wp_region_held_drew (S:=fun w'=>w'.cell? ⟨w.heap.size,1,none⟩=some (.int .i64 num)∧w'.cell? ⟨w.heap.size,2,none⟩=some (.slice a n c)) (by kernel_rfl) ⟨e1,e2⟩ (fun hHeld=>?_);have pc:Hid (Ext (·=g) wq.drew wq.drew):=Ext.refl _ _;generalize wq.drew=W0 at*;refine wT 0 hHeld ?_;try go_frame
  refine wT 2 hHeld ?_;try go_frame
  refine wT 3 hHeld ?_;try go_frame
  refine wT 4 hHeld ?_;try go_frame
  refine wT 5 hHeld ?_;try go_frame
  refine wO 1 (fun K hK=>?_);go_simp;go_at_call 158;refine(jD B g _ 15 W0 GS.out.r (by have:=HPP.out;have:=hq.out;omega) (by omega)).mono ?_;rintro e y1 ⟨v8,rfl,hv,_,r6,xi⟩;have hlt:=GS.out.lt;replace pc:=LH (pc.out.trans xi);replace GS:=LH (GS.out.c xi r6);obtain⟨hv0,hv1⟩:=hv (by omega);clear hv r6 xi;clear hlt;refine hK.out _ _ ⟨pc.out.at e1 (by show w.heap.size≠g;omega),pc.out.at e2 (by show w.heap.size≠g;omega)⟩ (fun hHeld=>?_);clear hK K;try go_frame
  refine wO 6 (fun K hK=>?_);go_simp;go_at_call 212;refine(zU v8 num _ _ _ _).mono ?_;rintro e y2 ⟨rfl,xi⟩;replace pc:=LH (pc.out.trans (zQ.to xi));replace GS:=LH (GS.out.k xi);clear xi;refine hK.out _ _ ⟨pc.out.at e1 (by show w.heap.size≠g;omega),pc.out.at e2 (by show w.heap.size≠g;omega)⟩ (fun hHeld=>?_);clear hK K;try go_frame
  refine wO 7 (fun K hK=>?_);have c0:=GS.out.rb.v0;have c1:=GS.out.rb.v1;have c2:=GS.out.rb.v2;have g0:=GS.out.rb.g0;have g1:=GS.out.rb.g1;have g2:=GS.out.rb.g2;go_simp;refine hK.out _ _ ⟨zD (pc.out.at e1 (by show w.heap.size≠g;omega)) hw1,zD (pc.out.at e2 (by show w.heap.size≠g;omega)) hw1⟩ (fun hHeld=>?_);clear hK K;try go_frame
  refine wpAnyH_done (by kernel_rfl) ?_ _;have u0:=GS.out.rb.v0;have u1:=GS.out.rb.v1;have u2:=GS.out.rb.v2;go_wp2_with fail;refine bodyPost_ret (v:=.agg #[.int .i64 v8,.int .i64 num,.slice a n c]) (by simp[results,Tryz.results174,go_sem,u0,u1,u2]) rfl (zB hQ ?_);exact GS.out.fin (op:=v8) (num:=num) (ks:=es) (GS.out.eb.k.mono (fun k hk=>.inl hk)) ⟨by have h1:=HNUM.out;exact⟨by omega,by omega⟩,FK.out⟩ (by omega) (by have:=hq.out;omega)
 ·go_upto_region 10 with fail
  have KD:zQ wq wq.drew:=(kD wq);replace GS:=LH (GS.out.k KD);clear KD;have e0:wq.drew.cell? ⟨w.heap.size,0,none⟩=some (.int .i64 op):=GS.out.eb.v0;have e1:wq.drew.cell? ⟨w.heap.size,1,none⟩=some (.int .i64 num):=GS.out.eb.v1;have e2:wq.drew.cell? ⟨w.heap.size,2,none⟩=some (.slice a n c):=GS.out.eb.v2;refine wp_region_held_drew (S:=fun w'=>w'.cell? ⟨w.heap.size,0,none⟩=some (.int .i64 op)∧w'.cell? ⟨w.heap.size,1,none⟩=some (.int .i64 num)∧w'.cell? ⟨w.heap.size,2,none⟩=some (.slice a n c)) (by kernel_rfl) ⟨e0,e1,e2⟩ (fun hHeld=>?_);have pc:Hid (Ext (·=g) wq.drew wq.drew):=Ext.refl _ _;generalize wq.drew=W0 at*;refine wT 0 hHeld ?_;try go_frame
  refine wT 1 hHeld ?_;try go_frame
  refine wT 2 hHeld ?_;try go_frame
  refine wT 3 hHeld ?_;try go_frame
  refine wT 4 hHeld ?_;try go_frame
  refine wT 8 hHeld ?_;try go_frame
  refine wT 9 hHeld ?_;try go_frame
  refine wO 5 (fun K hK=>?_);go_simp;obtain⟨sy1,y1,hsy1,hW,kk,hzy1,hisy1⟩:=SM W0 (.cells #[.int .i64 1,.int .i64 (-1),.int .i64 1000,.int .i64 2] 3);rw[←hsy1,←hW];have hlt:=GS.out.lt;have TY:Hid (Rd y1 (fun k=>k≠g) (zY [1, -1,1000,2]) (.slice (some ⟨sy1,0,none⟩) 4 4)):=by
   rw[hW,hsy1];exact z6 W0 (fun k=>k≠g) 3 [1, -1,1000,2] #[.int .i64 1,.int .i64 (-1),.int .i64 1000,.int .i64 2] 4 (by omega) rfl rfl (by omega)
  replace pc:=LH (pc.out.trans (zQ.to kk));replace GS:=LH (GS.out.k kk);clear kk hW hsy1;clear hlt;refine hK.out _ _ ⟨pc.out.at e0 (by show w.heap.size≠g;omega),pc.out.at e1 (by show w.heap.size≠g;omega),pc.out.at e2 (by show w.heap.size≠g;omega)⟩ (fun hHeld=>?_);clear hK K;try go_frame
  refine wO 6 (fun K hK=>?_);go_simp;go_at_call 112;refine(W2 B g _ _ 4 4 [1, -1,1000,2] (fun k=>k≠g) y1 GS.out.r (by have:=HPP.out;have:=hq.out;omega) TY.out.toInts (by omega) (by omega) (fun h=>h rfl)).mono ?_;rintro e y2 ⟨v10,hv,rfl,r6,xi⟩;have hlt:=GS.out.lt;replace pc:=LH (pc.out.trans xi);replace TY:=LH (TY.out.ext xi (fun k hk=>by omega));replace GS:=LH (GS.out.c xi r6);have HVv10:=LH hv;clear hv r6 xi;clear hlt;have HB10:Hid (-1000≤v10∧v10≤1000):=by
   have h:=HVv10.out;simp only[List.mem_cons,List.not_mem_nil,or_false]at h;show _∧_;omega
  have hsum:IntKind.i64.wrap (num+v10)=num+v10:=IntWalk.i64_in _ (by have h1:=HNUM.out;have h2:=HB10.out;have:=HK.out;omega);refine hK.out _ _ ⟨pc.out.at e0 (by show w.heap.size≠g;omega),pc.out.at e1 (by show w.heap.size≠g;omega),pc.out.at e2 (by show w.heap.size≠g;omega)⟩ (fun hHeld=>?_);clear hK K;try go_frame
  refine wT 7 hHeld ?_;try go_frame
  refine wO 10 (fun K hK=>?_);go_simp;go_at_call 212;refine(zU op (num+v10) _ _ _ _).mono ?_;rintro e y3 ⟨rfl,xi⟩;replace pc:=LH (pc.out.trans (zQ.to xi));replace GS:=LH (GS.out.k xi);clear xi;refine hK.out _ _ ⟨pc.out.at e0 (by show w.heap.size≠g;omega),pc.out.at e1 (by show w.heap.size≠g;omega),pc.out.at e2 (by show w.heap.size≠g;omega)⟩ (fun hHeld=>?_);clear hK K;try go_frame
  refine wO 11 (fun K hK=>?_);have c0:=GS.out.rb.v0;have c1:=GS.out.rb.v1;have c2:=GS.out.rb.v2;have g0:=GS.out.rb.g0;have g1:=GS.out.rb.g1;have g2:=GS.out.rb.g2;go_simp;refine hK.out _ _ ⟨zD (pc.out.at e0 (by show w.heap.size≠g;omega)) hw1,zD (pc.out.at e1 (by show w.heap.size≠g;omega)) hw1,zD (pc.out.at e2 (by show w.heap.size≠g;omega)) hw1⟩ (fun hHeld=>?_);clear hK K;try go_frame
  refine wpAnyH_done (by kernel_rfl) ?_ _;have u0:=GS.out.rb.v0;have u1:=GS.out.rb.v1;have u2:=GS.out.rb.v2;go_wp2_with fail;refine bodyPost_ret (v:=.agg #[.int .i64 op,.int .i64 (num+v10),.slice a n c]) (by simp[results,Tryz.results174,go_sem,u0,u1,u2]) rfl (zB hQ ?_);exact GS.out.fin (op:=op) (num:=(num+v10)) (ks:=es) (GS.out.eb.k.mono (fun k hk=>.inl hk)) ⟨by have h1:=HNUM.out;have h2:=HB10.out;exact⟨by omega,by omega⟩,FK.out⟩ (by omega) (by have:=hq.out;omega)
 ·go_upto_region 12 with fail
  have KD:zQ wq wq.drew:=(kD wq);replace GS:=LH (GS.out.k KD);clear KD;have e0:wq.drew.cell? ⟨w.heap.size,0,none⟩=some (.int .i64 op):=GS.out.eb.v0;have e1:wq.drew.cell? ⟨w.heap.size,1,none⟩=some (.int .i64 num):=GS.out.eb.v1;have e2:wq.drew.cell? ⟨w.heap.size,2,none⟩=some (.slice a n c):=GS.out.eb.v2;have HSZ:Hid (w.heap.size+2≤wq.drew.heap.size):=GS.out.lt;have HSZ2:Hid (wq.drew.heap.size≤wq.drew.heap.size):=Nat.le_refl _;refine wp_region_held_drew (S:=fun w'=>w'.cell? ⟨w.heap.size,0,none⟩=some (.int .i64 op)∧w'.cell? ⟨w.heap.size,1,none⟩=some (.int .i64 num)∧w'.cell? ⟨w.heap.size,2,none⟩=some (.slice a n c)) (by kernel_rfl) ⟨e0,e1,e2⟩ (fun hHeld=>?_);have pc:Hid (Ext (·=g) wq.drew wq.drew):=Ext.refl _ _;generalize wq.drew=W0 at*;refine wT 0 hHeld ?_;try go_frame
  refine wT 1 hHeld ?_;try go_frame
  refine wT 2 hHeld ?_;try go_frame
  refine wT 3 hHeld ?_;try go_frame
  refine wT 4 hHeld ?_;try go_frame
  refine wT 5 hHeld ?_;try go_frame
  refine wO 6 (fun K hK=>?_);go_simp;go_at_call 211;refine(Qz es (by omega) a n c _ W0 GS.out.eb.k).mono ?_;rintro e y1 ⟨vc,rfl,hA,xi⟩;replace pc:=LH (pc.out.trans (zQ.to xi));replace GS:=LH (GS.out.k xi);have hlB:=GS.out.lt;have AA:=LH hA;have hbs:w.heap.size+2≤W0.heap.size:=HSZ.out;have hws:=xi.size;clear xi hA;refine hK.out _ _ ⟨pc.out.at e0 (by show w.heap.size≠g;omega),pc.out.at e1 (by show w.heap.size≠g;omega),pc.out.at e2 (by show w.heap.size≠g;omega)⟩ (fun hHeld=>?_);clear hK K;try go_frame
  refine wO 7 (fun K hK=>?_);go_simp;go_at_call 213;refine(jH _ _).mono ?_;rintro e y2 ⟨iia,iic,rfl,xi⟩;replace pc:=LH (pc.out.trans (zQ.to xi));replace GS:=LH (GS.out.k xi);replace AA:=LH (AA.out.keep xi);clear xi;refine hK.out _ _ ⟨pc.out.at e0 (by show w.heap.size≠g;omega),pc.out.at e1 (by show w.heap.size≠g;omega),pc.out.at e2 (by show w.heap.size≠g;omega)⟩ (fun hHeld=>?_);clear hK K;try go_frame
  refine wO 8 (fun K hK=>?_);go_simp;obtain⟨sy3,y3,hsy3,hW,kk,hzy3,hisy3⟩:=SM y2 (.cells #[.int .i64 0,.int .i64 1,.slice iia 0 iic] 58);rw[←hsy3,←hW];have hlt:=GS.out.lt;have bnd:=AA.out.bound;have hpz:=pc.out.size;have hX:Hid (Rd y3 (fun q=>W0.heap.size≤q∧vc.ownBlock≠some q) (.arr 3 ([zK.mk 0 1 []].map yC)) (.slice (some ⟨sy3,0,none⟩) 1 1)):=by
   rw[hW,hsy3];exact jv y2 (fun q=>W0.heap.size≤q∧vc.ownBlock≠some q) 58 0 1 [] iia 0 iic ⟨by omega,fun e=>by have:=bnd _ e;omega⟩ (.nil 3 _ _)
  replace pc:=LH (pc.out.trans (zQ.to kk));replace GS:=LH (GS.out.k kk);replace AA:=LH (AA.out.keep kk);clear kk hW hsy3 bnd hpz;clear hlt;refine hK.out _ _ ⟨pc.out.at e0 (by show w.heap.size≠g;omega),pc.out.at e1 (by show w.heap.size≠g;omega),pc.out.at e2 (by show w.heap.size≠g;omega)⟩ (fun hHeld=>?_);clear hK K;try go_frame
  refine wO 9 (fun K hK=>?_);have bnd:=AA.out.bound;have hpz:=pc.out.size;have hLR:(es.map yC).length≤1000:=by rw[List.length_map];have:=qq es;omega
  refine vB y3 (.tmp 70) (.tmp 72) 56 rfl W0.heap.size 58 (.agg #[.int .i64 0,.int .i64 0,.slice none 0 0]) 3 40 Tryz.underlying56 (by kernel_rfl) rfl (by omega) (fun q=>W0.heap.size≤q) _ _ rfl AA.out _ 1 1 _ _ rfl hX.out (fun q _ hq=>hq) (by omega) (by omega) (by omega) ?_;rintro v9 y4 A9 x9 hv9;replace pc:=LH (pc.out.then_ x9 (fun q hq h=>by have:=(bnd q h).1;have:=HSZ2.out;omega));replace GS:=LH (GS.out.e x9 (fun k hk=>by have:=(bnd k hk).1;omega));obtain⟨a9,c9,e9,_,_,rd9⟩:=A9.read (by omega);have hl9:(es.map yC++ [zK.mk 0 1 []].map yC).length=n+1:=by have:=HLEN.out;simp;omega
  rw[hl9]at e9;subst e9;have RK:Hid (Rd y4 (fun k=>(D k∧k<w.heap.size)∨w.heap.size+2≤k) (zJ (es++ [.mk 0 1 []])) (.slice a9 (n+1) c9)):=by
   show Rd _ _ (.arr 3 (yF _)) _;rw[yR,List.map_append];exact rd9.mono (fun k hk=>.inr (by rcases hk with h|h<;>omega))
  clear A9 x9 hv9 rd9 bnd hX AA hLR hl9;refine hK.out _ _ ⟨pc.out.at e0 (by show w.heap.size≠g;omega),pc.out.at e1 (by show w.heap.size≠g;omega),pc.out.at e2 (by show w.heap.size≠g;omega)⟩ (fun hHeld=>?_);clear hK K;try go_frame
  refine wO 10 (fun K hK=>?_);go_simp;go_at_call 212;refine(zU op num _ _ _ _).mono ?_;rintro e y5 ⟨rfl,xi⟩;replace pc:=LH (pc.out.trans (zQ.to xi));replace GS:=LH (GS.out.k xi);replace RK:=LH (RK.out.k xi);clear xi;refine hK.out _ _ ⟨pc.out.at e0 (by show w.heap.size≠g;omega),pc.out.at e1 (by show w.heap.size≠g;omega),pc.out.at e2 (by show w.heap.size≠g;omega)⟩ (fun hHeld=>?_);clear hK K;try go_frame
  refine wO 11 (fun K hK=>?_);have c0:=GS.out.rb.v0;have c1:=GS.out.rb.v1;have c2:=GS.out.rb.v2;have g0:=GS.out.rb.g0;have g1:=GS.out.rb.g1;have g2:=GS.out.rb.g2;go_simp;refine hK.out _ _ ⟨zD (pc.out.at e0 (by show w.heap.size≠g;omega)) hw1,zD (pc.out.at e1 (by show w.heap.size≠g;omega)) hw1,zD (pc.out.at e2 (by show w.heap.size≠g;omega)) hw1⟩ (fun hHeld=>?_);clear hK K;try go_frame
  refine wpAnyH_done (by kernel_rfl) ?_ _;have u0:=GS.out.rb.v0;have u1:=GS.out.rb.v1;have u2:=GS.out.rb.v2;go_wp2_with fail;refine bodyPost_ret (v:=.agg #[.int .i64 op,.int .i64 num,.slice a9 (n+1) c9]) (by simp[results,Tryz.results174,go_sem,u0,u1,u2]) rfl (zB hQ ?_);exact GS.out.fin (op:=op) (num:=num) (ks:=(es++ [.mk 0 1 []])) RK.out ⟨by have h1:=HNUM.out;exact⟨by omega,by omega⟩,xP FK.out (show yL (yX (K+1000)) (zK.mk 0 1 [])from⟨⟨by have:=HK.out;omega,by have:=HK.out;omega⟩,trivial⟩)⟩ (by rw[gS];have:nEs [zK.mk 0 1 []]=1:=rfl;omega) (by have:=hq.out;omega)
 ·go_wp2_with fail
  refine(GN B g _ [0,1,2,5,100, -1] 6 6 3 _ wq GS.out.r (by have:=HPP.out;have:=hq.out;omega) rfl rfl (by omega) (by omega)).mono ?_;rintro e w7 ⟨vl,hm,rfl,r7,x7⟩;have HVL:Hid (-1000≤vl∧vl≤1000):=by
   simp only[List.mem_cons,List.not_mem_nil,or_false]at hm;show _∧_;omega
  replace GS:=LH (GS.out.c x7 r7);clear hm r7 x7;go_wp2_with fail;refine(qR _ _).mono ?_;rintro e w8 ⟨a8,c8,rfl,k8⟩;replace GS:=LH (GS.out.k k8);clear k8;have c0:=GS.out.rb.v0;have c1:=GS.out.rb.v1;have c2:=GS.out.rb.v2;have g0:=GS.out.rb.g0;have g1:=GS.out.rb.g1;have g2:=GS.out.rb.g2;go_wp2_with fail;refine bodyPost_ret (v:=.agg #[.int .i64 12,.int .i64 vl,.slice a8 0 c8]) (by simp[results,Tryz.results174,go_sem,c0,c1,c2]) rfl (zB hQ ?_);exact GS.out.fin (op:=12) (num:=vl) (ks:= []) (.nil 3 _ _) ⟨⟨by have:=HVL.out;have:=HK.out;omega,by have:=HVL.out;have:=HK.out;omega⟩,trivial⟩ (by show 0+1≤_;omega) (by have:=hq.out;omega)
 ·go_wp2_with fail
  refine(GN B g _ [0,1000, -1000,5] 4 4 3 _ wq GS.out.r (by have:=HPP.out;have:=hq.out;omega) rfl rfl (by omega) (by omega)).mono ?_;rintro e w7 ⟨vl,hm,rfl,r7,x7⟩;have HVL:Hid (-1000≤vl∧vl≤1000):=by
   simp only[List.mem_cons,List.not_mem_nil,or_false]at hm;show _∧_;omega
  replace GS:=LH (GS.out.c x7 r7);clear hm r7 x7;go_wp2_with fail;refine(jH _ _).mono ?_;rintro e w8 ⟨a8,c8,rfl,k8⟩;replace GS:=LH (GS.out.k k8);clear k8;have c0:=GS.out.rb.v0;have c1:=GS.out.rb.v1;have c2:=GS.out.rb.v2;have g0:=GS.out.rb.g0;have g1:=GS.out.rb.g1;have g2:=GS.out.rb.g2;go_wp2_with fail;refine bodyPost_ret (v:=.agg #[.int .i64 0,.int .i64 vl,.slice a8 0 c8]) (by simp[results,Tryz.results174,go_sem,c0,c1,c2]) rfl (zB hQ ?_);exact GS.out.fin (op:=0) (num:=vl) (ks:= []) (.nil 3 _ _) ⟨⟨by have:=HVL.out;have:=HK.out;omega,by have:=HVL.out;have:=HK.out;omega⟩,trivial⟩ (by show 0+1≤_;omega) (by have:=hq.out;omega)
theorem LM(B g:Nat)(K:Int)(hK:0≤K∧K≤1000000)(e:zK)(he:nE e≤900):L7 B g K e:=Bk B g K hK _ e (Nat.lt_succ_self _) he
theorem jX(a:Option Addr)(n c:Nat)(xs:List Int)(D:Nat→Prop)(a':Option Addr)(n' c':Nat)(ys:List Int)(D':Nat→Prop)(w:World)(h:qN w D a n xs)(h':qN w D' a' n' ys)(hn:n≤4000000)(hn':n'≤4000000):
  Calls Tryz.prog 203 #[.slice a n c,.slice a' n' c'] w fun e w'=>e=.returned (.bool (decide (xs=ys)))∧zQ w w':=by
 have h1:=h.1;have h2:=h'.1;by_cases he:n=n'
 ·rcases Nat.eq_zero_or_pos n with h0|h0
  ·subst he
   subst h0;refine(Tryz.slices_Equal_int_empty a a' c 0 c' w (by omega)).mono ?_;rintro e w' ⟨rfl,rfl⟩;have e1:xs= []:=List.eq_nil_of_length_eq_zero h1;have e2:ys= []:=List.eq_nil_of_length_eq_zero h2;exact⟨by simp[e1,e2],Ext.refl _ _⟩
  ·obtain⟨b1,o1,rfl,_,hc1⟩:=h.2 h0
   obtain⟨b2,o2,rfl,_,hc2⟩:=h'.2 (by omega);refine(Tryz.slices_Equal_int b1 o1 n c b2 o2 n' c' xs ys w (by omega) (by omega) (by omega) (by omega) (fun j hj=>hc1 j (by omega)) (fun j hj=>hc2 j (by omega))).mono ?_;rintro e w' ⟨rfl,q,rfl⟩;refine⟨?_,(Ext.refl _ w).drewN q⟩;rw[List.take_of_length_le (by omega),List.take_of_length_le (by omega)];by_cases hxy:xs=ys<;>simp[hxy]
 ·refine(Tryz.slices_Equal_int_lens a a' n c n' c' w he).mono ?_
  rintro e w' ⟨rfl,rfl⟩;exact⟨by rw[decide_eq_false (fun h=>he (by rw[←h1,←h2,h]))],Ext.refl _ _⟩
theorem xM(a:Option Addr)(n c:Nat)(ds:List zG)(D:Nat→Prop)(t:Int)(w:World)(h:qy w D a n ds)(hn:n≤1049576):
  Calls Tryz.prog 189 #[.slice a n c,.int .i64 t] w fun e w'=>∃f g a3 n3 c3,e=.returned (.tuple #[.agg #[.int .i64 f,.int .i64 g,.slice a3 n3 c3],.bool (xS ds t)])∧(xS ds t=true→f=(dAt ds (t.toNat-1)).from_∧g=(dAt ds (t.toNat-1)).to_)∧zQ w w':=by
 refine zV fun Q hQ=>?_;have K0:=zQ.al w (.cells #[.int .i64 0,.int .i64 0,.slice none 0 0] 125);have HL:=LH h.1;by_cases ht1:t<1
 ·have V:=LH (show xS ds t=false by rw[xS,decide_eq_false (by omega)];rfl)
  go_in;go_wp2_with fail;refine bodyPost_ret (v:=.tuple #[.agg #[.int .i64 0,.int .i64 0,.slice none 0 0],.bool false]) (by simp[results,Tryz.results189,go_sem]) rfl (zB hQ ⟨0,0,none,0,0,by rw[V.out],(fun h=>by rw[V.out]at h;cases h),?_⟩);exact zQ.al w _
 by_cases ht2:(n:Int)<t
 ·have V:=LH (show xS ds t=false by rw[xS,decide_eq_false (by have:=HL.out;omega)];rfl)
  go_in;go_wp2_with fail;refine bodyPost_ret (v:=.tuple #[.agg #[.int .i64 0,.int .i64 0,.slice none 0 0],.bool false]) (by simp[results,Tryz.results189,go_sem]) rfl (zB hQ ⟨0,0,none,0,0,by rw[V.out],(fun h=>by rw[V.out]at h;cases h),?_⟩);exact zQ.al w _
 obtain⟨k,rfl⟩:∃k:Nat,t=(k:Int)+1:=⟨(t-1).toNat,by omega⟩;have hk:k<n:=by omega
 obtain⟨b,o,rfl,_,hc⟩:=h.2 (by omega);obtain⟨d0,d1,a',m,c',d2,_,hcons⟩:=hc k hk;have HK:=LH (show((k:Int)+1).toNat-1=k by omega);have V0:Hid (xS ds ((k:Int)+1)=decide (m=0)):=by
  show _=_;rw[xS,decide_eq_true (by have:=HL.out;omega),Bool.true_and,HK.out,hcons.1]
 obtain⟨g0,g1,g2⟩:=K0.k3 d0 d1 d2;clear hc hcons d0 d1 d2 ht1 ht2;rcases Nat.eq_zero_or_pos m with h0|h0
 ·subst h0
  go_in;go_wp2_with fail;refine bodyPost_ret (v:=.tuple #[.agg #[.int .i64 (dAt ds k).from_,.int .i64 (dAt ds k).to_,.slice a' 0 c'],.bool true]) (by simp[results,Tryz.results189,go_sem]) rfl (zB hQ ⟨_,_,a',0,c',by rw[V0.out];rfl,fun _=>by rw[HK.out];exact⟨rfl,rfl⟩,?_⟩);exact zQ.al w _
 ·have V:Hid (xS ds ((k:Int)+1)=false):=V0.out.trans (decide_eq_false (by omega))
  go_in;go_wp2_with fail;refine bodyPost_ret (v:=.tuple #[.agg #[.int .i64 0,.int .i64 0,.slice none 0 0],.bool false]) (by simp[results,Tryz.results189,go_sem]) rfl (zB hQ ⟨0,0,none,0,0,by rw[V.out],(fun h=>by rw[V.out]at h;cases h),?_⟩);exact zQ.al w _
theorem Y3(a:Option Addr)(n c:Nat)(ds:List zG)(D:Nat→Prop)(x:Int)(w:World)(h:qy w D a n ds)(hf:Few ds)(hx1: -9223372036854775808≤x)(hx2:x≤9223372036854775807):
  Calls Tryz.prog 107 #[.slice a n c,.int .i64 x] w fun e w'=>∃a' m c',e=.returned (.slice a' m c')∧m≤c'∧qN w' (fun k=>D k∨w.heap.size≤k) a' m (zR ds x)∧zQ w w':=by
 refine zV fun Q hQ=>?_;go_in;go_wp2_with fail;refine(ky _ _ _ ds _ _ _ h hf hx1 hx2).mono ?_;rintro e w1 ⟨a',m,c',rfl,hmc,hi,p1⟩;go_wp2_with fail;exact zB hQ ⟨a',m,c',rfl,hmc,(hi.ext (p1.trans (zQ.al w1 _)) (fun _ _ h=>h)).mono (fun k hk=>.inl hk),p1.trans (zQ.al w1 _)⟩
def Y8(ds:List zG)(sg:List yJ)(op num:Int)(tys:List Int)(w:World)(e:Ending)(w':World):Prop:=
 ∃t ok,e=.returned (.tuple #[.int .i64 t,.bool ok])∧ok=decide (0≤zS ds sg op num tys)∧(ok=true→t=zS ds sg op num tys)∧zQ w w'
def SR(w:World)(D:Nat→Prop)(ds:List zG)(sg:List yJ)(a0:Option Addr)(n0 c0:Nat)(a1:Option Addr)(n1 c1:Nat):Prop:=
 Rd w D (z5 ds) (.slice a0 n0 c0)∧Rd w D (Y4 sg) (.slice a1 n1 c1)
theorem SR.ext{S D:Nat→Prop}{w w':World}{ds:List zG}{sg:List yJ}{a0:Option Addr}{n0 c0:Nat}{a1:Option Addr}{n1 c1:Nat}(h:SR w D ds sg a0 n0 c0 a1 n1 c1)(k:Ext S w w')(hs:∀q,D q→¬S q):SR w' D ds sg a0 n0 c0 a1 n1 c1:=⟨h.1.ext k hs,h.2.ext k hs⟩
theorem SR.k{D:Nat→Prop}{w w':World}{ds:List zG}{sg:List yJ}{a0:Option Addr}{n0 c0:Nat}{a1:Option Addr}{n1 c1:Nat}(h:SR w D ds sg a0 n0 c0 a1 n1 c1)(k:zQ w w'):SR w' D ds sg a0 n0 c0 a1 n1 c1:=h.ext k (fun _ _ h=>h)
end Go.Proofs.YtkapldpmjkdmcaaGreat
