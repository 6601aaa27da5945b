/- Words on memory that all texts of this seat use: a frame relation between worlds, and slices of integers that can be read. -/
import Derived.Test.YtkapldpmjkdmcaaGreatRows
import Derived.WalkKit
import Derived.ProofKit
import Derived.Lib.Hide
import Derived.WalkSpells
import Derived.WalkLawsBesides
import Derived.Deep.QuietTactic
import Derived.BigQuiet
import Derived.Deep.OwnRows
import Derived.Maps.AppendAt
namespace Go.Proofs.YtkapldpmjkdmcaaGreat
open Go.RowKit
set_option maxHeartbeats 800000
theorem zV{P:Program}{f:FuncId}{args:Array Value}{w:World}{R0:Ending→World→Prop}
  (h:∀Q:Ending→World→Prop,Hid (Q=R0)→Calls P f args w Q):Calls P f args w R0:=h R0 rfl
theorem zB{Q R0:Ending→World→Prop}{e:Ending}{w:World}(h:Hid (Q=R0))(h0:R0 e w):Q e w:=by rw[h.out];exact h0
theorem zE{a b:Int}(h:a=b):Ending.returned (.int .i64 a)=.returned (.int .i64 b):=by rw[h]
theorem qK{a b:Bool}(h:a=b):Ending.returned (.bool a)=.returned (.bool b):=by rw[h]
structure Ext(S:Nat→Prop)(w w':World):Prop where
 os:w'.os=w.os
 tape:w'.tape=w.tape
 output:w'.output=w.output
 size:w.heap.size≤w'.heap.size
 block:∀k,k<w.heap.size→¬S k→w'.heap[k]?=w.heap[k]?
section
variable {S S':Nat→Prop}{w w' w'':World}
theorem Ext.refl(S:Nat→Prop)(w:World):Ext S w w:=⟨rfl,rfl,rfl,Nat.le_refl _,fun _ _ _=>rfl⟩
theorem Ext.trans(h:Ext S w w')(k:Ext S w' w''):Ext S w w'':=
 ⟨k.os.trans h.os,k.tape.trans h.tape,k.output.trans h.output,Nat.le_trans h.size k.size,
  fun i hi hs=>(k.block i (Nat.lt_of_lt_of_le hi h.size) hs).trans (h.block i hi hs)⟩
theorem Ext.mono(h:Ext S w w')(hs:∀k,k<w.heap.size→S k→S' k):Ext S' w w':=
 ⟨h.os,h.tape,h.output,h.size,fun k hk hn=>h.block k hk fun h'=>hn (hs k hk h')⟩
theorem Ext.then_(h:Ext S w w')(k:Ext S' w' w'')(hs:∀i,i<w.heap.size→S' i→S i):Ext S w w'':=
 ⟨k.os.trans h.os,k.tape.trans h.tape,k.output.trans h.output,Nat.le_trans h.size k.size,
  fun i hi hn=>(k.block i (Nat.lt_of_lt_of_le hi h.size) (fun h'=>hn (hs i hi h'))).trans (h.block i hi hn)⟩
theorem Ext.drew(h:Ext S w w'):Ext S w w'.drew:=⟨h.os,h.tape,h.output,h.size,h.block⟩
theorem Ext.drewN(h:Ext S w w')(n:Nat):Ext S w (w'.drewN n):=⟨h.os,h.tape,h.output,h.size,h.block⟩
theorem Ext.alloc(h:Ext S w w')(o:Obj):Ext S w (w'.alloc o):=
 ⟨h.os,h.tape,h.output,by have:=h.size;simp;omega,fun k hk hn=>by
  rw[Below.heap_alloc _ _ _ (by have:=h.size;omega)];exact h.block k hk hn⟩
theorem Ext.setCell(h:Ext S w w'){p:Addr}(hp:w.heap.size≤p.block∨S p.block)(u:Value):Ext S w (w'.setCell p u):=
 ⟨h.os,h.tape,h.output,by simpa [World.setCell]using h.size,fun k hk hn=>by
  rw[Below.heap_setCell _ _ _ _ (by rintro rfl;rcases hp with hp|hp;omega;exact hn hp)];exact h.block k hk hn⟩
theorem Ext.grown{row:Option Nat}(h:Ext S w w')(hg:w'.grownBy w'' row)(hr:∀k,row=some k→w.heap.size≤k∨S k):Ext S w w'':=
 ⟨hg.os.trans h.os,hg.tape.trans h.tape,hg.output.trans h.output,Nat.le_trans h.size hg.size,fun k hk hn=>
  (hg.block k (Nat.lt_of_lt_of_le hk h.size) (fun e=>by rcases hr k e.symm with h1|h1;omega;exact hn h1)).trans (h.block k hk hn)⟩
theorem Ext.cell(h:Ext S w w'){p:Addr}(hp:p.block<w.heap.size)(hs:¬S p.block):w'.cell? p=w.cell? p:=World.cell?_of_block (h.block _ hp hs)
theorem Ext.frozen(h:Ext S w w'){p:Addr}(hp:p.block<w.heap.size)(hs:¬S p.block):w'.frozen? p=w.frozen? p:=World.frozen?_of_block (h.block _ hp hs)
theorem Ext.below(h:Ext S w w'){B:Nat}(hB:B≤w.heap.size)(hs:∀k,k<B→¬S k):Below B w w':=
 ⟨h.os,h.tape,h.output,h.size,fun k hk=>h.block k (by omega) (hs k hk)⟩
theorem Ext.of_below(h:Below w.heap.size w w'):Ext S w w':=⟨h.os,h.tape,h.output,h.size,fun k hk _=>h.block k hk⟩
end
abbrev zQ(w w':World):Prop:=Ext (fun _=>False) w w'
theorem zQ.to{S:Nat→Prop}{w w':World}(h:zQ w w'):Ext S w w':=h.mono fun _ _ h=>h.elim
theorem LH{p:Prop}(h:p):Hid p:=h
theorem Ext.cq{S:Nat→Prop}{w w':World}(k:Ext S w w'){p:Addr}{v:Value}(h:w.cell? p=some v)(hp:¬S p.block):w'.cell? p=some v:=by rw[k.cell (World.block_lt_of_cell? _ _ h) hp];exact h
theorem Ext.q{w w':World}(k:zQ w w'){p:Addr}{v:Value}(h:w.cell? p=some v):w'.cell? p=some v:=k.cq h (fun h=>h)
theorem Ext.k2{w w':World}(k:zQ w w'){p1 p2:Addr}{v1 v2:Value}(h1:w.cell? p1=some v1)(h2:w.cell? p2=some v2):w'.cell? p1=some v1∧w'.cell? p2=some v2:=⟨k.q h1,k.q h2⟩
theorem Ext.e2{S:Nat→Prop}{w w':World}(k:Ext S w w'){b:Nat}(hp:¬S b){i1 i2:Nat}{o1 o2:Option Nat}{v1 v2:Value}(h1:w.cell? ⟨b,i1,o1⟩=some v1)(h2:w.cell? ⟨b,i2,o2⟩=some v2):w'.cell? ⟨b,i1,o1⟩=some v1∧w'.cell? ⟨b,i2,o2⟩=some v2:=⟨k.cq h1 hp,k.cq h2 hp⟩
theorem Ext.k3{w w':World}(k:zQ w w'){p1 p2 p3:Addr}{v1 v2 v3:Value}(h1:w.cell? p1=some v1)(h2:w.cell? p2=some v2)(h3:w.cell? p3=some v3):w'.cell? p1=some v1∧w'.cell? p2=some v2∧w'.cell? p3=some v3:=⟨k.q h1,k.q h2,k.q h3⟩
theorem Ext.e3{S:Nat→Prop}{w w':World}(k:Ext S w w'){b:Nat}(hp:¬S b){i1 i2 i3:Nat}{o1 o2 o3:Option Nat}{v1 v2 v3:Value}(h1:w.cell? ⟨b,i1,o1⟩=some v1)(h2:w.cell? ⟨b,i2,o2⟩=some v2)(h3:w.cell? ⟨b,i3,o3⟩=some v3):w'.cell? ⟨b,i1,o1⟩=some v1∧w'.cell? ⟨b,i2,o2⟩=some v2∧w'.cell? ⟨b,i3,o3⟩=some v3:=⟨k.cq h1 hp,k.cq h2 hp,k.cq h3 hp⟩
theorem Ext.k4{w w':World}(k:zQ w w'){p1 p2 p3 p4:Addr}{v1 v2 v3 v4:Value}(h1:w.cell? p1=some v1)(h2:w.cell? p2=some v2)(h3:w.cell? p3=some v3)(h4:w.cell? p4=some v4):w'.cell? p1=some v1∧w'.cell? p2=some v2∧w'.cell? p3=some v3∧w'.cell? p4=some v4:=⟨k.q h1,k.q h2,k.q h3,k.q h4⟩
theorem Ext.e4{S:Nat→Prop}{w w':World}(k:Ext S w w'){b:Nat}(hp:¬S b){i1 i2 i3 i4:Nat}{o1 o2 o3 o4:Option Nat}{v1 v2 v3 v4:Value}(h1:w.cell? ⟨b,i1,o1⟩=some v1)(h2:w.cell? ⟨b,i2,o2⟩=some v2)(h3:w.cell? ⟨b,i3,o3⟩=some v3)(h4:w.cell? ⟨b,i4,o4⟩=some v4):w'.cell? ⟨b,i1,o1⟩=some v1∧w'.cell? ⟨b,i2,o2⟩=some v2∧w'.cell? ⟨b,i3,o3⟩=some v3∧w'.cell? ⟨b,i4,o4⟩=some v4:=⟨k.cq h1 hp,k.cq h2 hp,k.cq h3 hp,k.cq h4 hp⟩
theorem Ext.k5{w w':World}(k:zQ w w'){p1 p2 p3 p4 p5:Addr}{v1 v2 v3 v4 v5:Value}(h1:w.cell? p1=some v1)(h2:w.cell? p2=some v2)(h3:w.cell? p3=some v3)(h4:w.cell? p4=some v4)(h5:w.cell? p5=some v5):w'.cell? p1=some v1∧w'.cell? p2=some v2∧w'.cell? p3=some v3∧w'.cell? p4=some v4∧w'.cell? p5=some v5:=⟨k.q h1,k.q h2,k.q h3,k.q h4,k.q h5⟩
theorem Ext.e5{S:Nat→Prop}{w w':World}(k:Ext S w w'){b:Nat}(hp:¬S b){i1 i2 i3 i4 i5:Nat}{o1 o2 o3 o4 o5:Option Nat}{v1 v2 v3 v4 v5:Value}(h1:w.cell? ⟨b,i1,o1⟩=some v1)(h2:w.cell? ⟨b,i2,o2⟩=some v2)(h3:w.cell? ⟨b,i3,o3⟩=some v3)(h4:w.cell? ⟨b,i4,o4⟩=some v4)(h5:w.cell? ⟨b,i5,o5⟩=some v5):w'.cell? ⟨b,i1,o1⟩=some v1∧w'.cell? ⟨b,i2,o2⟩=some v2∧w'.cell? ⟨b,i3,o3⟩=some v3∧w'.cell? ⟨b,i4,o4⟩=some v4∧w'.cell? ⟨b,i5,o5⟩=some v5:=⟨k.cq h1 hp,k.cq h2 hp,k.cq h3 hp,k.cq h4 hp,k.cq h5 hp⟩
theorem Ext.k6{w w':World}(k:zQ w w'){p1 p2 p3 p4 p5 p6:Addr}{v1 v2 v3 v4 v5 v6:Value}(h1:w.cell? p1=some v1)(h2:w.cell? p2=some v2)(h3:w.cell? p3=some v3)(h4:w.cell? p4=some v4)(h5:w.cell? p5=some v5)(h6:w.cell? p6=some v6):w'.cell? p1=some v1∧w'.cell? p2=some v2∧w'.cell? p3=some v3∧w'.cell? p4=some v4∧w'.cell? p5=some v5∧w'.cell? p6=some v6:=⟨k.q h1,k.q h2,k.q h3,k.q h4,k.q h5,k.q h6⟩
theorem Ext.e6{S:Nat→Prop}{w w':World}(k:Ext S w w'){b:Nat}(hp:¬S b){i1 i2 i3 i4 i5 i6:Nat}{o1 o2 o3 o4 o5 o6:Option Nat}{v1 v2 v3 v4 v5 v6:Value}(h1:w.cell? ⟨b,i1,o1⟩=some v1)(h2:w.cell? ⟨b,i2,o2⟩=some v2)(h3:w.cell? ⟨b,i3,o3⟩=some v3)(h4:w.cell? ⟨b,i4,o4⟩=some v4)(h5:w.cell? ⟨b,i5,o5⟩=some v5)(h6:w.cell? ⟨b,i6,o6⟩=some v6):w'.cell? ⟨b,i1,o1⟩=some v1∧w'.cell? ⟨b,i2,o2⟩=some v2∧w'.cell? ⟨b,i3,o3⟩=some v3∧w'.cell? ⟨b,i4,o4⟩=some v4∧w'.cell? ⟨b,i5,o5⟩=some v5∧w'.cell? ⟨b,i6,o6⟩=some v6:=⟨k.cq h1 hp,k.cq h2 hp,k.cq h3 hp,k.cq h4 hp,k.cq h5 hp,k.cq h6 hp⟩
theorem kD(w:World):zQ w w.drew:=⟨rfl,rfl,rfl,Nat.le_refl _,fun _ _ _=>rfl⟩
theorem SM(w:World)(o:Obj):∃s N,s=w.heap.size∧N=w.alloc o∧zQ w N∧w.heap.size+1≤N.heap.size∧w.heap.size≤s:=⟨_,_,rfl,rfl,(Ext.refl (fun _=>False) w).alloc o,Nat.le_of_eq (World.size_alloc _ _).symm,Nat.le_refl _⟩
theorem SN(w:World)(o:Obj):∃N,N=w.alloc o∧zQ w N∧Hid (N.heap.size=w.heap.size+1):=⟨_,rfl,(Ext.refl (fun _=>False) w).alloc o,World.size_alloc _ _⟩
theorem SP(w:World)(o:Obj):∃N,N=(w.alloc o).drew∧zQ w.drew N∧Hid (N.heap.size=w.heap.size+1):=⟨_,rfl,(Ext.refl (fun _=>False) w.drew).alloc o,World.size_alloc _ _⟩
theorem vM(a:Addr)(n:Nat):(a.add n).block=a.block:=by unfold Addr.add;split<;>rfl
def Hv(w:World)(a:Option Addr)(len:Nat)(z:Nat→Int):Prop:=
 0<len→∃x,a=some x∧x.block<w.heap.size∧∀i,i<len→w.cell? (x.add i)=some (.int .i64 (z i))
def Byt(w:World)(a:Option Addr)(len:Nat)(z:Nat→Int):Prop:=
 0<len→∃x,a=some x∧x.block<w.heap.size∧∀i,i<len→w.cell? (x.add i)=some (.int .u8 (z i))∧0≤z i∧z i<256
def Rdr(w:World)(g:Nat)(p:Int):Prop:=
 ∃a len cap z,w.heap[g]?=some (.cells #[.slice a len cap,.int .i64 p] 174 (0,0))∧len≤2000∧Byt w a len z∧(∀x,a=some x→0<len→x.block≠g)∧0≤p
theorem BS(x y:Int)(hx:0≤x)(hx2:x<4611686018427387904)(hy:0≤y)(hy2:y<4611686018427387904):0≤bits BinOp.xor IntKind.i64 x y:=by
 obtain⟨a,rfl⟩:=Int.eq_ofNat_of_zero_le hx;obtain⟨b,rfl⟩:=Int.eq_ofNat_of_zero_le hy;have hxx:a ^^^ b<2 ^ 62:=Nat.xor_lt_two_pow (by omega) (by omega);have h1:(BitVec.ofInt 64 (a:Int)).toNat=a:=by
  rw[BitVec.ofInt_natCast,BitVec.toNat_ofNat];exact Nat.mod_eq_of_lt (by omega)
 have h2:(BitVec.ofInt 64 (b:Int)).toNat=b:=by
  rw[BitVec.ofInt_natCast,BitVec.toNat_ofNat];exact Nat.mod_eq_of_lt (by omega)
 show 0≤IntKind.i64.wrap ((BitVec.ofInt 64 (a:Int) ^^^ BitVec.ofInt 64 (b:Int)).toNat:Int);rw[BitVec.toNat_xor,h1,h2];simp[IntKind.wrap,IntKind.bits,IntKind.signed];omega
theorem Ky(g:Nat)(p n:Int)(w:World)(h:Rdr w g p)(hp:p≤1000000000000)(hn:n≤1000000):
  Calls Tryz.prog 158 #[.pointer (some ⟨g,0,none⟩),.int .i64 n] w fun e w'=>∃v:Int,e=.returned (.int .i64 v)∧(1≤n→0≤v∧v<n)∧(n<1→v=0)∧
   ∃m,w'=(w.setCell ⟨g,1,none⟩ (.int .i64 (p+1))).drewN m:=by
 refine zV fun Q hQ=>?_;obtain⟨a,len,cap,z,hg,hl,hb,hne,hp0⟩:=h;have c0:w.cell? ⟨g,0,none⟩=some (.slice a len cap):=by simp[World.cell?,hg]
 have c1:w.cell? ⟨g,1,none⟩=some (.int .i64 p):=by simp[World.cell?,hg]
 have f1:w.frozen? ⟨g,1,none⟩=false:=by simp[World.frozen?,hg]
 by_cases hn1:n<1
 ·go_in
  go_wp2;exact zB hQ ⟨0,rfl,fun h=>absurd h (by omega),fun _=>rfl,0,rfl⟩
 by_cases hlen:len=0
 ·subst hlen
  go_in;go_wp2;exact zB hQ ⟨0,rfl,fun h=>by omega,fun _=>rfl,0,rfl⟩
 obtain⟨x,rfl,hxb,hx⟩:=hb (by omega);have hxg:=hne x rfl (by omega);have hlb:((len:Int)==0)=false:=by simp;omega
 obtain⟨q,rfl⟩:=Int.eq_ofNat_of_zero_le hp0;have hcell:∀i,i<len→(w.setCell ⟨g,1,none⟩ (.int .i64 ((q:Int)+1))).cell? (x.add i)=some (.int .u8 (z i)):=by
  intro i hi;have:(w.setCell ⟨g,1,none⟩ (.int .i64 ((q:Int)+1))).cell? (x.add i)=w.cell? (x.add i):=
   World.cell?_setCell_other w _ _ _ (by intro e;have:(x.add i).block=g:=(by rw[←e]);unfold Addr.add at this;split at this<;>exact hxg this)
  rw[this];exact(hx i hi).1
 by_cases hk:q<len
 ·have c2:=hcell q hk
  obtain⟨_,z1,z2⟩:=hx q hk;clear hx hcell hne hg hb;go_in;go_wp2;exact zB hQ ⟨z q % n,rfl,fun h=>⟨Int.emod_nonneg _ (by omega),Int.emod_lt_of_pos _ (by omega)⟩,fun h=>absurd h (by omega),0,rfl⟩
 obtain⟨k1,hk1⟩:∃k1,k1=q % len:=⟨_,rfl⟩;obtain⟨k2,hk2⟩:∃k2,k2=(q*7+3) % len:=⟨_,rfl⟩;obtain⟨k3,hk3⟩:∃k3,k3=q / len:=⟨_,rfl⟩;have lk1:k1<len:=by rw[hk1];exact Nat.mod_lt _ (by omega)
 have lk2:k2<len:=by rw[hk2];exact Nat.mod_lt _ (by omega)
 have lk3:k3≤q:=by rw[hk3];exact Nat.div_le_self _ _
 have e1:((q:Int)).tmod (len:Int)=(k1:Int):=by rw[Int.tmod_eq_emod_of_nonneg (by omega),hk1,Int.natCast_emod]
 have e2:((q:Int)*7+3).tmod (len:Int)=(k2:Int):=by rw[Int.tmod_eq_emod_of_nonneg (by omega),hk2,Int.natCast_emod];rfl
 have e3:((q:Int)).tdiv (len:Int)=(k3:Int):=by rw[Int.tdiv_eq_ediv_of_nonneg (by omega),hk3,Int.natCast_ediv]
 have d1:=hcell k1 lk1;have d2:=hcell k2 lk2;obtain⟨_,y1,y2⟩:=hx k1 lk1;obtain⟨_,y3,y4⟩:=hx k2 lk2;clear hk1 hk2 hk3 hx hcell hne hg hb;go_in;go_wp2;go_quiet (fail);generalize hX:z k1*131+z k2*1117+(q:Int)*29+(k3:Int)*53=X;have X0:0≤X:=by omega
 have X1:X<4611686018427387904:=by omega
 clear hX d1 d2 e1 e2 e3;have X2:=BS X (X / 64) X0 X1 (by omega) (by omega);go_wp2;exact zB hQ ⟨bits BinOp.xor IntKind.i64 X (X / 64) % n,rfl,fun h=>⟨Int.emod_nonneg _ (by omega),Int.emod_lt_of_pos _ (by omega)⟩,fun h=>absurd h (by omega),nq,rfl⟩
theorem Byt.ext{S:Nat→Prop}{w w':World}{a:Option Addr}{len:Nat}{z:Nat→Int}(h:Byt w a len z)(hx:Ext S w w')(hs:∀x,a=some x→0<len→¬S x.block):Byt w' a len z:=by
 intro hl;obtain⟨x,rfl,hb,hc⟩:=h hl;exact⟨x,rfl,Nat.lt_of_lt_of_le hb hx.size,fun i hi=>⟨(hx.cell (by rw[vM];exact hb) (by rw[vM];exact hs x rfl hl)).trans (hc i hi).1,(hc i hi).2⟩⟩
theorem Rdr.ext{S:Nat→Prop}{w w':World}{g:Nat}{p:Int}(h:Rdr w g p)(hx:Ext S w w')(hs:∀k,k<w.heap.size→¬S k):Rdr w' g p:=by
 obtain⟨a,len,cap,z,hg,hl,hb,hne,hp0⟩:=h;have hlt:g<w.heap.size:=(Array.getElem?_eq_some_iff.1 hg).1;refine⟨a,len,cap,z,(hx.block g hlt (hs g hlt)).trans hg,hl,hb.ext hx ?_,hne,hp0⟩;intro x hax hl0;obtain⟨x',hx',hxb,_⟩:=hb hl0;rw[hax]at hx';injection hx' with hx'
 subst hx';exact hs _ hxb
theorem Rdr.lt{w:World}{g:Nat}{p:Int}(h:Rdr w g p):g<w.heap.size:=by
 obtain⟨a,len,cap,z,hg,_⟩:=h;exact(Array.getElem?_eq_some_iff.1 hg).1
theorem Rdr.pos{w:World}{g:Nat}{p:Int}(h:Rdr w g p):0≤p:=by
 obtain⟨a,len,cap,z,hg,_,_,_,h0⟩:=h;exact h0
theorem Hv.ext{S:Nat→Prop}{w w':World}{a:Option Addr}{len:Nat}{z:Nat→Int}(h:Hv w a len z)(hx:Ext S w w')(hs:∀x,a=some x→0<len→¬S x.block):Hv w' a len z:=by
 intro hl;obtain⟨x,rfl,hb,hc⟩:=h hl;exact⟨x,rfl,Nat.lt_of_lt_of_le hb hx.size,fun i hi=>(hx.cell (by rw[vM];exact hb) (by rw[vM];exact hs x rfl hl)).trans (hc i hi)⟩
theorem Rdr.born{w:World}{a:Option Addr}{len cap:Nat}{z:Nat→Int}(h:Byt w a len z)(hl:len≤2000):
  Rdr (w.alloc (.cells #[.slice a len cap,.int .i64 0] 174)) w.heap.size 0:=by
 refine⟨a,len,cap,z,heap_alloc_new w _,hl,h.ext ((Ext.refl (fun _=>False) w).alloc _) (fun _ _ _ h=>h),?_,by omega⟩;intro x hax hl0;obtain⟨x',hx',hxb,_⟩:=h hl0;rw[hax]at hx';injection hx' with hx'
 subst hx';omega
theorem Ux(a:Option Addr)(len cap:Nat)(z:Nat→Int)(w:World)(h:Byt w a len z)(hlc:len≤cap)(hl:len≤1048576):
  Calls Tryz.prog 69 #[.slice a len cap] w fun e w'=>∃g,w.heap.size≤g∧e=.returned (.pointer (some ⟨g,0,none⟩))∧Rdr w' g 0∧zQ w w':=by
 refine zV fun Q hQ=>?_;by_cases hb:len≤2000
 ·go_in
  go_wp2;exact zB hQ ⟨_,Nat.le_refl _,rfl,Rdr.born h hb,(Ext.refl _ _).alloc _⟩
 ·go_in
  go_wp2;have h2:Byt w a 2000 z:=fun _=>by
   obtain⟨x,hx,hxb,hc⟩:=h (by omega);exact⟨x,hx,hxb,fun i hi=>hc i (by omega)⟩
  exact zB hQ ⟨_,Nat.le_refl _,rfl,Rdr.born h2 (Nat.le_refl _),(Ext.refl _ _).alloc _⟩
inductive Dat where
 |num (z:Int)
 |arr (s:Nat) (rows:List (List Dat))
def jP(r:List Dat)(j:Nat):Dat:=r.getD j (.num 0)
def qC(rows:List (List Dat))(i:Nat):List Dat:=rows.getD i []
def rAt(rows:List (List Dat))(i j:Nat):Dat:=jP (qC rows i) j
def upd(rows:List (List Dat))(i j:Nat)(d:Dat):List (List Dat):=rows.set i ((qC rows i).set j d)
theorem GM{rows:List (List Dat)}{i:Nat}(h:i<rows.length):qC rows i=rows[i]:=by simp[qC,List.getD,h]
theorem M7{r:List Dat}{i:Nat}(h:i<r.length):jP r i=r[i]:=by simp[jP,List.getD,h]
theorem qX{rows:List (List Dat)}{i j:Nat}{d:Dat}:(upd rows i j d).length=rows.length:=by simp[upd]
theorem xE{rows:List (List Dat)}{i k:Nat}{r:List Dat}(h:i<rows.length):qC (rows.set i r) k=if k=i then r else qC rows k:=by
 by_cases e:k=i
 ·subst e;simp[qC,List.getD,h]
 ·rw[if_neg e];simp[qC,List.getD,List.getElem?_set_ne (fun h=>e h.symm)]
theorem LT{r:List Dat}{i k:Nat}{d:Dat}(h:i<r.length):jP (r.set i d) k=if k=i then d else jP r k:=by
 by_cases e:k=i
 ·subst e;simp[jP,List.getD,h]
 ·rw[if_neg e];simp[jP,List.getD,List.getElem?_set_ne (fun h=>e h.symm)]
theorem XT{rows:List (List Dat)}{i j k:Nat}{d:Dat}(h:i<rows.length):qC (upd rows i j d) k=if k=i then(qC rows i).set j d else qC rows k:=xE h
theorem Jx{rows:List (List Dat)}{i j k l:Nat}{d:Dat}(h:i<rows.length)(hj:j<(qC rows i).length):rAt (upd rows i j d) k l=if k=i∧l=j then d else rAt rows k l:=by
 unfold rAt;rw[XT h];by_cases e:k=i
 ·subst e
  rw[if_pos rfl,LT hj];by_cases e2:l=j<;>simp[e2]
 ·rw[if_neg e,if_neg (fun h=>e h.1)]
theorem uH{α:Type}(f:α→List Dat)(l:List α)(i:Nat)(h:i<l.length):qC (l.map f) i=f l[i]:=by rw[GM (by simpa using h)];simp
inductive Rd(w:World)(D:Nat→Prop):Dat→Value→Prop where
 |num (z:Int):Rd w D (.num z) (.int .i64 z)
 |nil (s:Nat) (a:Option Addr) (c:Nat):Rd w D (.arr s []) (.slice a 0 c)
 |arr (s:Nat) (rows:List (List Dat)) (b o c:Nat) (vs:Nat→Nat→Value) (hD:D b) (h0:0<rows.length) (hs0:0<s) (hc:rows.length≤c) (hm:rows.length≤9223372036854775807)
   (hs:∀i,i<rows.length→(qC rows i).length=s)
   (hcell:∀i j,i<rows.length→j<s→w.cell? ⟨b,o+i*s+j,none⟩=some (vs i j))
   (hr:∀i j,i<rows.length→j<s→Rd w D (rAt rows i j) (vs i j)):Rd w D (.arr s rows) (.slice (some ⟨b,o,none⟩) rows.length c)
section
variable {S D D':Nat→Prop}{w w':World}{d:Dat}{v:Value}
theorem Rd.ext(h:Rd w D d v)(hx:Ext S w w')(hs:∀k,D k→¬S k):Rd w' D d v:=by
 induction h with
 |num z=>exact .num z
 |nil s a c=>exact .nil s a c
 |arr s rows b o c vs hD h0 hs0 hc hm hs' hcell hr ih=>
  exact .arr s rows b o c vs hD h0 hs0 hc hm hs' (fun i j hi hj=>(hx.cell (World.block_lt_of_cell? w _ (hcell i j hi hj)) (hs _ hD)).trans (hcell i j hi hj)) ih
theorem Rd.mono(h:Rd w D d v)(hs:∀k,D k→D' k):Rd w D' d v:=by
 induction h with
 |num z=>exact .num z
 |nil s a c=>exact .nil s a c
 |arr s rows b o c vs hD h0 hs0 hc hm hs' hcell hr ih=>exact .arr s rows b o c vs (hs _ hD) h0 hs0 hc hm hs' hcell ih
theorem Rd.lt(h:Rd w D d v):Rd w (fun k=>D k∧k<w.heap.size) d v:=by
 induction h with
 |num z=>exact .num z
 |nil s a c=>exact .nil s a c
 |arr s rows b o c vs hD h0 hs0 hc hm hs' hcell hr ih=>
  exact .arr s rows b o c vs ⟨hD,World.block_lt_of_cell? w _ (hcell 0 0 h0 hs0)⟩ h0 hs0 hc hm hs' hcell ih
theorem Rd.num_inv{z:Int}(h:Rd w D (.num z) v):v=.int .i64 z:=by cases h;rfl
theorem Rd.arr_inv{s:Nat}{rows:List (List Dat)}(h:Rd w D (.arr s rows) v):∃a c,v=.slice a rows.length c∧rows.length≤c∧rows.length≤9223372036854775807∧
  (0<rows.length→∃b o,a=some ⟨b,o,none⟩∧D b∧∀i,i<rows.length→(qC rows i).length=s∧∀j,j<s→∃u,w.cell? ⟨b,o+i*s+j,none⟩=some u∧Rd w D (rAt rows i j) u):=by
 cases h with
 |nil s a c=>exact⟨a,c,rfl,Nat.zero_le _,by simp,fun h=>absurd h (by simp)⟩
 |arr s rows b o c vs hD h0 hs0 hc hm hs hcell hr=>
  exact⟨_,c,rfl,hc,hm,fun _=>⟨b,o,rfl,hD,fun i hi=>⟨hs i hi,fun j hj=>⟨_,hcell i j hi hj,hr i j hi hj⟩⟩⟩⟩
inductive Own(w:World):(Nat→Prop)→Dat→Value→Prop where
 |num (D:Nat→Prop) (z:Int):Own w D (.num z) (.int .i64 z)
 |nil (D:Nat→Prop) (s:Nat) (a:Option Addr) (c:Nat):Own w D (.arr s []) (.slice a 0 c)
 |arr (D:Nat→Prop) (E:Nat→Nat→Nat→Prop) (s:Nat) (rows:List (List Dat)) (b c:Nat) (T:TypeId) (N:Nat) (f:Nat→Value) (hD:D b) (h0:0<rows.length) (hs0:0<s) (hc:rows.length≤c) (hm:rows.length≤9223372036854775807)
   (hs:∀i,i<rows.length→(qC rows i).length=s) (hN:rows.length*s≤N) (hrow:w.rowIs b T N f)
   (hE:∀i j k,i<rows.length→j<s→E i j k→D k∧k≠b)
   (hdis:∀i j i' j' k,i<rows.length→j<s→i'<rows.length→j'<s→E i j k→E i' j' k→i=i'∧j=j')
   (hr:∀i j,i<rows.length→j<s→Own w (E i j) (rAt rows i j) (f (i*s+j))):Own w D (.arr s rows) (.slice (some ⟨b,0,none⟩) rows.length c)
theorem Own.mono(h:Own w D d v)(hs:∀k,D k→D' k):Own w D' d v:=by
 cases h with
 |num D z=>exact .num _ z
 |nil D s a c=>exact .nil _ s a c
 |arr D E s rows b c T N f hD h0 hs0 hc hm hs' hN hrow hE hdis hr=>exact .arr D' E s rows b c T N f (hs _ hD) h0 hs0 hc hm hs' hN hrow (fun i j k hi hj hk=>⟨hs _ (hE i j k hi hj hk).1,(hE i j k hi hj hk).2⟩) hdis hr
theorem Own.ext(h:Own w D d v)(hx:Ext S w w')(hs:∀k,D k→¬S k):Own w' D d v:=by
 induction h with
 |num D z=>exact .num _ z
 |nil D s a c=>exact .nil _ s a c
 |arr D E s rows b c T N f hD h0 hs0 hc hm hs' hN hrow hE hdis hr ih=>
  exact .arr D E s rows b c T N f hD h0 hs0 hc hm hs' hN (hrow.of_block (hx.block b hrow.lt (hs _ hD))) hE hdis (fun i j hi hj=>ih i j hi hj (fun k hk=>hs k (hE i j k hi hj hk).1))
theorem Own.read(h:Own w D d v):Rd w D d v:=by
 induction h with
 |num D z=>exact .num z
 |nil D s a c=>exact .nil s a c
 |arr D E s rows b c T N f hD h0 hs0 hc hm hs' hN hrow hE hdis hr ih=>
  refine .arr s rows b 0 c (fun i j=>f (i*s+j)) hD h0 hs0 hc hm hs' (fun i j hi hj=>?_) (fun i j hi hj=>(ih i j hi hj).mono fun k hk=>(hE i j k hi hj hk).1);rw[Nat.zero_add];refine hrow.cell (Nat.lt_of_lt_of_le ?_ hN);calc i*s+j<i*s+s:=by omega
   _=(i+1)*s:=by rw[Nat.succ_mul]
   _≤rows.length*s:=Nat.mul_le_mul_right s hi
theorem Own.lt(h:Own w D d v):Own w (fun k=>D k∧k<w.heap.size) d v:=by
 induction h with
 |num D z=>exact .num _ z
 |nil D s a c=>exact .nil _ s a c
 |arr D E s rows b c T N f hD h0 hs0 hc hm hs' hN hrow hE hdis hr ih=>
  exact .arr _ (fun i j k=>E i j k∧k<w.heap.size) s rows b c T N f ⟨hD,hrow.lt⟩ h0 hs0 hc hm hs' hN hrow (fun i j k hi hj hk=>⟨⟨(hE i j k hi hj hk.1).1,hk.2⟩,(hE i j k hi hj hk.1).2⟩) (fun i j i' j' k a1 a2 a3 a4 a5 a6=>hdis i j i' j' k a1 a2 a3 a4 a5.1 a6.1) ih
theorem qP{i j n s:Nat}(hi:i<n)(hj:j<s):i*s+j<n*s:=
 calc i*s+j<i*s+s:=by omega
  _=(i+1)*s:=by rw[Nat.succ_mul]
  _≤n*s:=Nat.mul_le_mul_right s hi
theorem kY{i j i' j' s:Nat}(hj:j<s)(hj':j'<s)(h:i*s+j=i'*s+j'):i=i'∧j=j':=by
 have h1:(i*s+j) / s=i:=by rw[Nat.mul_comm,Nat.mul_add_div (by omega),Nat.div_eq_of_lt hj,Nat.add_zero]
 have h2:(i'*s+j') / s=i':=by rw[Nat.mul_comm,Nat.mul_add_div (by omega),Nat.div_eq_of_lt hj',Nat.add_zero]
 have h3:(i*s+j) % s=j:=by rw[Nat.mul_comm,Nat.mul_add_mod,Nat.mod_eq_of_lt hj]
 have h4:(i'*s+j') % s=j':=by rw[Nat.mul_comm,Nat.mul_add_mod,Nat.mod_eq_of_lt hj']
 rw[h]at h1 h3;exact⟨h1.symm.trans h2,h3.symm.trans h4⟩
theorem Own.at{s:Nat}{rows:List (List Dat)}{a:Option Addr}{n c:Nat}(h:Own w D (.arr s rows) (.slice a n c)){i j:Nat}(hi:i<n)(hj:j<s):
  ∃b u E,a=some ⟨b,0,none⟩∧D b∧w.cell? ⟨b,i*s+j,none⟩=some u∧(∀o,w.frozen? ⟨b,o,none⟩=false)∧Own w E (rAt rows i j) u∧(∀k,E k→D k∧k≠b)∧
   (∀w' d',Ext E w w'→Own w' E d' u→Own w' D (.arr s (upd rows i j d')) (.slice a n c))∧
   (∀u' d' D2,Own w D2 d' u'→(∀k,D2 k→¬D k)→Own (w.setCell ⟨b,i*s+j,none⟩ u') (fun k=>D k∨D2 k) (.arr s (upd rows i j d')) (.slice a n c))∧
   (∀z,Own (w.setCell ⟨b,i*s+j,none⟩ (.int .i64 z)) D (.arr s (upd rows i j (.num z))) (.slice a n c)):=by
 cases h with
 |nil=>omega
 |arr D E s rows b c T N f hD h0 hs0 hc hm hs' hN hrow hE hdis hr=>
  have hlen:j<(qC rows i).length:=by rw[hs' i hi];exact hj
  have hsl:∀d' k,k<(upd rows i j d').length→(qC (upd rows i j d') k).length=s:=by
   intro d' k hk;rw[qX]at hk;rw[XT hi];by_cases e:k=i
   ·rw[if_pos e,List.length_set,hs' i hi]
   ·rw[if_neg e,hs' k hk]
  refine⟨b,_,E i j,rfl,hD,hrow.cell (Nat.lt_of_lt_of_le (qP hi hj) hN),hrow.frozen,hr i j hi hj,fun k hk=>hE i j k hi hj hk,?_,?_,?_⟩
  ·intro w' d' hx ho
   have hrow':w'.rowIs b T N f:=hrow.of_block (hx.block b hrow.lt (fun hk=>(hE i j b hi hj hk).2 rfl));have q:=Own.arr (w:=w') D E s (upd rows i j d') b c T N f hD (by rw[qX];exact h0) hs0 (by rw[qX];exact hc) (by rw[qX];exact hm) (hsl d') (by rw[qX];exact hN) hrow'
    (by rw[qX];exact hE) (by rw[qX];exact hdis) (fun k l hk hl=>by
     rw[qX]at hk
     rw[Jx hi hlen]
     by_cases e:k=i∧l=j
     ·rw[if_pos e];obtain⟨rfl,rfl⟩:=e;exact ho
     ·rw[if_neg e]
      exact(hr k l hk hl).ext hx (fun m hm hm'=>e (hdis k l i j m hk hl hi hj hm hm')))
   rw[qX]at q;exact q
  ·intro u' d' D2 ho hdd
   have hb2:¬D2 b:=fun h=>hdd b h hD;have q:=Own.arr (w:=w.setCell ⟨b,i*s+j,none⟩ u') (fun k=>D k∨D2 k) (fun k l=>if k=i∧l=j then D2 else E k l) s (upd rows i j d') b c T N _ (.inl hD) (by rw[qX];exact h0) hs0 (by rw[qX];exact hc) (by rw[qX];exact hm) (hsl d') (by rw[qX];exact hN) (hrow.set (i*s+j) u')
    (by
     rw[qX]
     intro k l m hk hl hm'
     by_cases e:k=i∧l=j
     ·rw[if_pos e]at hm';exact⟨.inr hm',fun h=>hb2 (h▸hm')⟩
     ·rw[if_neg e]at hm';exact⟨.inl (hE k l m hk hl hm').1,(hE k l m hk hl hm').2⟩)
    (by
     rw[qX]
     intro k l k' l' m hk hl hk' hl' h1 h2
     by_cases e:k=i∧l=j<;>by_cases e':k'=i∧l'=j
     ·exact⟨e.1.trans e'.1.symm,e.2.trans e'.2.symm⟩
     ·rw[if_pos e]at h1;rw[if_neg e']at h2
      exact absurd (hE k' l' m hk' hl' h2).1 (hdd m h1)
     ·rw[if_neg e]at h1;rw[if_pos e']at h2
      exact absurd (hE k l m hk hl h1).1 (hdd m h2)
     ·rw[if_neg e]at h1;rw[if_neg e']at h2
      exact hdis k l k' l' m hk hl hk' hl' h1 h2)
    (fun k l hk hl=>by
     rw[qX]at hk
     rw[Jx hi hlen]
     by_cases e:k=i∧l=j
     ·rw[if_pos e,if_pos e,if_pos (by rw[e.1,e.2])]
      exact ho.ext (S:=fun k=>k=b) ((Ext.refl (fun k=>k=b) w).setCell (p:=⟨b,i*s+j,none⟩) (.inr rfl) _) (fun m hm h=>hb2 (h▸hm))
     ·rw[if_neg e,if_neg e,if_neg (fun h=>e (kY hl hj h))]
      exact(hr k l hk hl).ext (S:=fun k=>k=b) ((Ext.refl (fun k=>k=b) w).setCell (p:=⟨b,i*s+j,none⟩) (.inr rfl) _) (fun m hm h=>(hE k l m hk hl hm).2 h))
   rw[qX]at q;exact q
  ·intro z
   have q:=Own.arr (w:=w.setCell ⟨b,i*s+j,none⟩ (.int .i64 z)) D (fun k l=>if k=i∧l=j then(fun _=>False)else E k l) s (upd rows i j (.num z)) b c T N _ hD (by rw[qX];exact h0) hs0 (by rw[qX];exact hc) (by rw[qX];exact hm) (hsl _) (by rw[qX];exact hN) (hrow.set (i*s+j) _)
    (by
     rw[qX]
     intro k l m hk hl hm'
     by_cases e:k=i∧l=j
     ·rw[if_pos e]at hm';exact hm'.elim
     ·rw[if_neg e]at hm';exact hE k l m hk hl hm')
    (by
     rw[qX]
     intro k l k' l' m hk hl hk' hl' h1 h2
     by_cases e:k=i∧l=j<;>by_cases e':k'=i∧l'=j
     ·exact⟨e.1.trans e'.1.symm,e.2.trans e'.2.symm⟩
     ·rw[if_pos e]at h1;exact h1.elim
     ·rw[if_pos e']at h2;exact h2.elim
     ·rw[if_neg e]at h1;rw[if_neg e']at h2
      exact hdis k l k' l' m hk hl hk' hl' h1 h2)
    (fun k l hk hl=>by
     rw[qX]at hk
     rw[Jx hi hlen]
     by_cases e:k=i∧l=j
     ·rw[if_pos e,if_pos e,if_pos (by rw[e.1,e.2])]
      exact .num _ z
     ·rw[if_neg e,if_neg e,if_neg (fun h=>e (kY hl hj h))]
      exact(hr k l hk hl).ext (S:=fun k=>k=b) ((Ext.refl (fun k=>k=b) w).setCell (p:=⟨b,i*s+j,none⟩) (.inr rfl) _) (fun m hm h=>(hE k l m hk hl hm).2 h))
   rw[qX]at q;exact q
def Acc(w:World)(base:Nat)(D:Nat→Prop)(T:TypeId)(s:Nat)(v:Value)(rows:List (List Dat)):Prop:=
 ∃(xs:List Value) (E:Nat→Nat→Nat→Prop),w.ownsRow base T s v rows.length xs∧(∀i,i<rows.length→(qC rows i).length=s)∧
  (∀i j k,i<rows.length→j<s→E i j k→D k∧k<w.heap.size∧v.ownBlock≠some k)∧
  (∀i j i' j' k,i<rows.length→j<s→i'<rows.length→j'<s→E i j k→E i' j' k→i=i'∧j=j')∧
  ∀i j,i<rows.length→j<s→∃u,xs[i*s+j]?=some u∧Own w (E i j) (rAt rows i j) u
theorem Acc.nil(w:World)(base:Nat)(D:Nat→Prop)(T:TypeId)(s:Nat):Acc w base D T s (.slice none 0 0) []:=
 ⟨[],fun _ _ _=>False,World.ownsRow_nil w base T s,by simp,by simp,by simp,by simp⟩
theorem Acc.made(w:World)(D:Nat→Prop)(T:TypeId)(s:Nat):Acc (w.alloc (.cells #[] T)) w.heap.size D T s (.slice (some ⟨w.heap.size,0,none⟩) 0 0) []:=
 ⟨[],fun _ _ _=>False,World.ownsRow_made w #[] 0 (Nat.le_refl _) (by simp[maxLen]) (by simp),by simp,by simp,by simp,by simp⟩
theorem Acc.mono{base:Nat}{T:TypeId}{s:Nat}{rows:List (List Dat)}(h:Acc w base D T s v rows)(hs:∀k,D k→D' k):Acc w base D' T s v rows:=by
 obtain⟨xs,E,h1,h2,h3,h4,h5⟩:=h;exact⟨xs,E,h1,h2,fun i j k hi hj hk=>⟨hs _ (h3 i j k hi hj hk).1,(h3 i j k hi hj hk).2⟩,h4,h5⟩
theorem Acc.ext{base:Nat}{T:TypeId}{s:Nat}{rows:List (List Dat)}(h:Acc w base D T s v rows)(hx:Ext S w w')(hs:∀k,k<w.heap.size→(D k∨base≤k)→¬S k):Acc w' base D T s v rows:=by
 obtain⟨xs,E,h1,h2,h3,h4,h5⟩:=h;refine⟨xs,E,⟨h1.1,?_⟩,h2,fun i j k hi hj hk=>⟨(h3 i j k hi hj hk).1,Nat.lt_of_lt_of_le (h3 i j k hi hj hk).2.1 hx.size,(h3 i j k hi hj hk).2.2⟩,h4,fun i j hi hj=>?_⟩
 ·rcases h1.2 with h|⟨g,cap,cur,e,hb,hg,rest⟩
  ·exact .inl h
  ·have hlt:g<w.heap.size:=(Array.getElem?_eq_some_iff.1 hg).1
   exact .inr ⟨g,cap,cur,e,hb,(hx.block g hlt (hs g hlt (.inr hb))).trans hg,rest⟩
 ·obtain⟨u,hu,ho⟩:=h5 i j hi hj
  exact⟨u,hu,ho.ext hx (fun k hk=>hs k (h3 i j k hi hj hk).2.1 (.inl (h3 i j k hi hj hk).1))⟩
theorem Acc.keep{base:Nat}{T:TypeId}{s:Nat}{rows:List (List Dat)}(h:Acc w base D T s v rows)(hx:zQ w w'):Acc w' base D T s v rows:=h.ext hx (fun _ _ _ h=>h)
theorem Acc.own{base:Nat}{T:TypeId}{s:Nat}{rows:List (List Dat)}(h:Acc w base D T s v rows)(hs0:0<s)(hm:rows.length≤9223372036854775807):
  ∃a c,v=.slice a rows.length c∧rows.length≤c∧Own w (fun k=>D k∨base≤k) (.arr s rows) v:=by
 obtain⟨xs,E,h1,h2,h3,h4,h5⟩:=h;rcases h1.2 with ⟨e,h0⟩|⟨g,cap,cur,e,hb,hg,hnc,_,hsz,htake⟩
 ·have:rows= []:=List.eq_nil_of_length_eq_zero h0
  subst this;subst e;exact⟨none,0,rfl,Nat.le_refl _,.nil _ _ _ _⟩
 ·subst e
  refine⟨_,cap,rfl,hnc,?_⟩;rcases Nat.eq_zero_or_pos rows.length with h0|h0
  ·have:rows= []:=List.eq_nil_of_length_eq_zero h0
   subst this;exact .nil _ _ _ _
  refine .arr _ E s rows g cap T (cap*s) (fun i=>cur.getD i undef) (.inr hb) h0 hs0 hnc hm h2 (Nat.mul_le_mul_right s hnc) ⟨cur,hg,hsz,fun i hi=>?_⟩ (fun i j k hi hj hk=>⟨.inl (h3 i j k hi hj hk).1,fun e=>(h3 i j k hi hj hk).2.2 (by rw[e];rfl)⟩) h4 (fun i j hi hj=>?_)
  ·simp[Array.getD,show i<cur.size by omega]
  ·obtain⟨u,hu,ho⟩:=h5 i j hi hj
   have hlt:=qP hi hj;have hlt2:i*s+j<cur.size:=by rw[hsz];exact Nat.lt_of_lt_of_le hlt (Nat.mul_le_mul_right s hnc)
   rw[←htake,List.getElem?_take,if_pos hlt,Array.getElem?_toList,Array.getElem?_eq_getElem hlt2]at hu;have:cur.getD (i*s+j) undef=u:=by simp[Array.getD,hlt2];simpa using hu
   rw[this];exact ho
theorem Acc.push{base:Nat}{T:TypeId}{s:Nat}{rows:List (List Dat)}{v':Value}{r:List Dat}{news:List Value}{D2:Nat→Nat→Prop}(h:Acc w base D T s v rows)
  (hr:r.length=s) (hn:news.length=s) (hnew:∀j u,news[j]?=some u→Own w (D2 j) (jP r j) u)
  (hD2:∀j k,j<s→D2 j k→D' k∧¬D k∧v.ownBlock≠some k∧k<w.heap.size) (hdis:∀j j' k,j<s→j'<s→D2 j k→D2 j' k→j=j') (hD:∀k,D k→D' k)
  (hown':∀xs,w.ownsRow base T s v rows.length xs→w'.ownsRow base T s v' (rows.length+1) (xs++news)) (hg:w.grownBy w' v.ownBlock) (hv:v'.ownBlock=v.ownBlock∨v'.ownBlock=some w.heap.size):Acc w' base D' T s v' (rows++ [r]):=by
 obtain⟨xs,E,h1,h2,h3,h4,h5⟩:=h;have hl:xs.length=rows.length*s:=h1.1;have hx:Ext (fun k=>v.ownBlock=some k) w w':=⟨hg.os,hg.tape,hg.output,hg.size,fun k hk hn=>hg.block k hk (fun e=>hn e.symm)⟩;have hblk:∀k,k<w.heap.size→v.ownBlock≠some k→v'.ownBlock≠some k:=by
  intro k hk hne;rcases hv with e|e
  ·rw[e];exact hne
  ·rw[e];intro h;injection h with h;omega
 have hlen:(rows++ [r]).length=rows.length+1:=by simp
 have hrg:∀i,i<rows.length→qC (rows++ [r]) i=qC rows i:=by intro i hi;simp[qC,List.getD,List.getElem?_append_left hi]
 have hrl:qC (rows++ [r]) rows.length=r:=by simp[qC,List.getD]
 refine⟨xs++news,fun i j=>if i=rows.length then D2 j else E i j,by rw[hlen];exact hown' xs h1,?_,?_,?_,?_⟩
 ·intro i hi
  rw[hlen]at hi;by_cases e:i=rows.length
  ·rw[e,hrl,hr]
  ·rw[hrg i (by omega),h2 i (by omega)]
 ·intro i j k hi hj hk
  rw[hlen]at hi;by_cases e:i=rows.length
  ·rw[if_pos e]at hk
   obtain⟨q1,q2,q3,q4⟩:=hD2 j k hj hk;exact⟨q1,Nat.lt_of_lt_of_le q4 hg.size,hblk k q4 q3⟩
  ·rw[if_neg e]at hk
   obtain⟨q1,q2,q3⟩:=h3 i j k (by omega) hj hk;exact⟨hD _ q1,Nat.lt_of_lt_of_le q2 hg.size,hblk k q2 q3⟩
 ·intro i j i' j' k hi hj hi' hj' hk hk'
  rw[hlen]at hi hi';by_cases e:i=rows.length<;>by_cases e':i'=rows.length
  ·rw[if_pos e]at hk;rw[if_pos e']at hk'
   exact⟨by omega,hdis j j' k hj hj' hk hk'⟩
  ·rw[if_pos e]at hk;rw[if_neg e']at hk'
   exact absurd (h3 i' j' k (by omega) hj' hk').1 (hD2 j k hj hk).2.1
  ·rw[if_neg e]at hk;rw[if_pos e']at hk'
   exact absurd (h3 i j k (by omega) hj hk).1 (hD2 j' k hj' hk').2.1
  ·rw[if_neg e]at hk;rw[if_neg e']at hk'
   exact h4 i j i' j' k (by omega) hj (by omega) hj' hk hk'
 ·intro i j hi hj
  rw[hlen]at hi;by_cases e:i=rows.length
  ·subst e
   rw[List.getElem?_append_right (by rw[hl];omega),hl,show rows.length*s+j-rows.length*s=j by omega];have hjn:j<news.length:=by omega
   refine⟨news[j],List.getElem?_eq_getElem hjn,?_⟩;show Own w' (if rows.length=rows.length then D2 j else E rows.length j) _ _;rw[if_pos rfl,rAt,hrl];exact(hnew j _ (List.getElem?_eq_getElem hjn)).ext hx (fun k hk h=>(hD2 j k hj hk).2.2.1 h)
  ·obtain⟨u,hu,ho⟩:=h5 i j (by omega) hj
   refine⟨u,?_,?_⟩
   ·rw[List.getElem?_append_left (by rw[hl];exact qP (by omega) hj)];exact hu
   ·show Own w' (if i=rows.length then D2 j else E i j) _ _
    rw[if_neg e,rAt,hrg i (by omega)];exact ho.ext hx (fun k hk h=>(h3 i j k (by omega) hj hk).2.2 h)
end
mutual
def szD:Dat→Nat
 | .num _=>0
 | .arr _ rows=>rows.length+J9 rows
def J9:List (List Dat)→Nat
 | []=>0
 |r::rs=>szR r+J9 rs
def szR:List Dat→Nat
 | []=>0
 |d::ds=>szD d+szR ds
end
mutual
def z8:Dat→Nat
 | .num _=>1
 | .arr _ rows=>zw rows
def zw:List (List Dat)→Nat
 | []=>0
 |r::rs=>jy r+zw rs
def jy:List Dat→Nat
 | []=>0
 |d::ds=>z8 d+jy ds
end
mutual
def uM:Dat→Nat
 | .num _=>1
 | .arr _ rows=>1+WN rows
def WN:List (List Dat)→Nat
 | []=>0
 |r::rs=>ED r+WN rs
def ED:List Dat→Nat
 | []=>0
 |d::ds=>uM d+ED ds
end
mutual
def mkD:Dat→Int→Dat
 | .num _,k=>.num k
 | .arr s rows,k=>.arr s (vD rows k)
def vD:List (List Dat)→Int→List (List Dat)
 | [],_=> []
 |r::rs,k=>mkR r k::vD rs (k+(jy r:Int))
def mkR:List Dat→Int→List Dat
 | [],_=> []
 |d::ds,k=>mkD d k::mkR ds (k+(z8 d:Int))
end
theorem ZM(a b:List (List Dat)):zw (a++b)=zw a+zw b:=by induction a<;>simp_all [zw,Nat.add_assoc]
def RH:Nat→Prop:=fun _=>True
def ZK(rows:List (List Dat))(k:Int)(j:Nat):List (List Dat):=(vD rows k).take j++rows.drop j
theorem VJ(n:Nat)(r:List Dat)(i:Nat)(h:i<n):qC (List.replicate n r) i=r:=by simp[qC,List.getD,h]
theorem Own.made{w:World}{b:Nat}{T:TypeId}{n s:Nat}{zs:Array Value}{zd:List Dat}(hrow:w.rowIs b T (n*s) (fun i=>zs.getD (i % s) undef))(hzd:zd.length=s)(hs0:0<s)(hn:n≤9223372036854775807)
  (hz:∀j,j<s→Own w (fun _=>False) (jP zd j) (zs.getD j undef)):Own w (fun k=>k=b) (.arr s (List.replicate n zd)) (.slice (some ⟨b,0,none⟩) n n):=by
 rcases Nat.eq_zero_or_pos n with rfl|h0
 ·exact .nil _ _ _ _
 ·have q:=Own.arr (w:=w) (fun k=>k=b) (fun _ _ _=>False) s (List.replicate n zd) b n T (n*s) (fun i=>zs.getD (i % s) undef) rfl (by simpa using h0) hs0 (by simp) (by simpa using hn)
   (fun i hi=>by rw[VJ n zd i (by simpa using hi)];exact hzd) (by simp) hrow (fun _ _ _ _ _ h=>h.elim) (fun _ _ _ _ _ _ _ _ _ h=>h.elim)
   (fun i j hi hj=>by
    show Own w _ _ (zs.getD ((i*s+j) % s) undef)
    rw[Nat.mul_comm,Nat.mul_add_mod,Nat.mod_eq_of_lt hj,rAt,VJ n zd i (by simpa using hi)]
    exact hz j hj)
  rw[List.length_replicate]at q;exact q
def iAt(xs:List Int)(i:Nat):Int:=xs.getD i 0
def cAt(cs:List (List Int))(i:Nat):List Int:=cs.getD i []
def qN(w:World)(D:Nat→Prop)(a:Option Addr)(n:Nat)(xs:List Int):Prop:=
 xs.length=n∧(0<n→∃b o,a=some ⟨b,o,none⟩∧D b∧∀i,i<n→w.cell? ⟨b,o+i,none⟩=some (.int .i64 (iAt xs i)))
def ZP(w:World)(D:Nat→Prop)(a:Option Addr)(n:Nat)(cs:List (List Int)):Prop:=
 cs.length=n∧(0<n→∃b o,a=some ⟨b,o,none⟩∧D b∧∀i,i<n→∃a' m c,w.cell? ⟨b,o+i,none⟩=some (.slice a' m c)∧m≤c∧qN w D a' m (cAt cs i))
structure zG where
 from_:Int
 to_:Int
 cons:List (List Int)
instance :Inhabited zG:=⟨⟨0,0, []⟩⟩
def dAt(ds:List zG)(i:Nat):zG:=ds.getD i default
def qy(w:World)(D:Nat→Prop)(a:Option Addr)(n:Nat)(ds:List zG):Prop:=
 ds.length=n∧(0<n→∃b o,a=some ⟨b,o,none⟩∧D b∧∀i,i<n→
  w.cell? ⟨b,o+i*3,none⟩=some (.int .i64 (dAt ds i).from_)∧w.cell? ⟨b,o+i*3+1,none⟩=some (.int .i64 (dAt ds i).to_)∧
  ∃a' m c,w.cell? ⟨b,o+i*3+2,none⟩=some (.slice a' m c)∧m≤c∧ZP w D a' m (dAt ds i).cons)
section
variable {S D D':Nat→Prop}{w w':World}
theorem qN.ext{a:Option Addr}{n:Nat}{xs:List Int}(h:qN w D a n xs)(hx:Ext S w w')(hs:∀k,D k→¬S k):qN w' D a n xs:=by
 refine⟨h.1,fun hn=>?_⟩;obtain⟨b,o,rfl,hd,hc⟩:=h.2 hn;refine⟨b,o,rfl,hd,fun i hi=>?_⟩;have hb:=World.block_lt_of_cell? w _ (hc i hi);exact(hx.cell hb (hs _ hd)).trans (hc i hi)
theorem qN.mono{a:Option Addr}{n:Nat}{xs:List Int}(h:qN w D a n xs)(hs:∀k,D k→D' k):qN w D' a n xs:=by
 refine⟨h.1,fun hn=>?_⟩;obtain⟨b,o,rfl,hd,hc⟩:=h.2 hn;exact⟨b,o,rfl,hs _ hd,hc⟩
theorem ZP.ext{a:Option Addr}{n:Nat}{cs:List (List Int)}(h:ZP w D a n cs)(hx:Ext S w w')(hs:∀k,D k→¬S k):ZP w' D a n cs:=by
 refine⟨h.1,fun hn=>?_⟩;obtain⟨b,o,rfl,hd,hc⟩:=h.2 hn;refine⟨b,o,rfl,hd,fun i hi=>?_⟩;obtain⟨a',m,c,h1,h2,h3⟩:=hc i hi;have hb:=World.block_lt_of_cell? w _ h1;exact⟨a',m,c,(hx.cell hb (hs _ hd)).trans h1,h2,h3.ext hx hs⟩
theorem ZP.mono{a:Option Addr}{n:Nat}{cs:List (List Int)}(h:ZP w D a n cs)(hs:∀k,D k→D' k):ZP w D' a n cs:=by
 refine⟨h.1,fun hn=>?_⟩;obtain⟨b,o,rfl,hd,hc⟩:=h.2 hn;refine⟨b,o,rfl,hs _ hd,fun i hi=>?_⟩;obtain⟨a',m,c,h1,h2,h3⟩:=hc i hi;exact⟨a',m,c,h1,h2,h3.mono hs⟩
theorem qy.ext{a:Option Addr}{n:Nat}{ds:List zG}(h:qy w D a n ds)(hx:Ext S w w')(hs:∀k,D k→¬S k):qy w' D a n ds:=by
 refine⟨h.1,fun hn=>?_⟩;obtain⟨b,o,rfl,hd,hc⟩:=h.2 hn;refine⟨b,o,rfl,hd,fun i hi=>?_⟩;obtain⟨h1,h2,a',m,c,h3,h4,h5⟩:=hc i hi;have hb1:=World.block_lt_of_cell? w _ h1;have hb2:=World.block_lt_of_cell? w _ h2;have hb3:=World.block_lt_of_cell? w _ h3;exact⟨(hx.cell hb1 (hs _ hd)).trans h1,(hx.cell hb2 (hs _ hd)).trans h2,
  a',m,c,(hx.cell hb3 (hs _ hd)).trans h3,h4,h5.ext hx hs⟩
theorem qy.mono{a:Option Addr}{n:Nat}{ds:List zG}(h:qy w D a n ds)(hs:∀k,D k→D' k):qy w D' a n ds:=by
 refine⟨h.1,fun hn=>?_⟩;obtain⟨b,o,rfl,hd,hc⟩:=h.2 hn;refine⟨b,o,rfl,hs _ hd,fun i hi=>?_⟩;obtain⟨h1,h2,a',m,c,h3,h4,h5⟩:=hc i hi;exact⟨h1,h2,a',m,c,h3,h4,h5.mono hs⟩
theorem qN.drewN{a:Option Addr}{n:Nat}{xs:List Int}(h:qN w D a n xs)(q:Nat):qN (w.drewN q) D a n xs:=h
theorem ZP.drewN{a:Option Addr}{n:Nat}{cs:List (List Int)}(h:ZP w D a n cs)(q:Nat):ZP (w.drewN q) D a n cs:=h.ext ((Ext.refl (fun _=>False) w).drewN q) (fun _ _ h=>h)
theorem qy.drewN{a:Option Addr}{n:Nat}{ds:List zG}(h:qy w D a n ds)(q:Nat):qy (w.drewN q) D a n ds:=h.ext ((Ext.refl (fun _=>False) w).drewN q) (fun _ _ h=>h)
end
end Go.Proofs.YtkapldpmjkdmcaaGreat
