/- Typed data: integers, constructors, declarations, expressions, functions, steps, blocks, routines; how they lie in memory. -/
import Derived.Test.YtkapldpmjkdmcaaGreatUAA
import Derived.Deep.OwnRows
import Derived.Maps.AppendAt
import Derived.Deep.AppendLies
import Derived.RegionTactic
import Derived.OwnWalk
namespace Go.Proofs.YtkapldpmjkdmcaaGreat
open Go.RowKit
set_option maxRecDepth 100000
set_option maxHeartbeats 1000000
def gZ(x:Int):List Dat:= [.num x]
def zY(xs:List Int):Dat:=.arr 1 (xs.map gZ)
def xX(f:List Int):List Dat:= [zY f]
def qV(cs:List (List Int)):Dat:=.arr 1 (cs.map xX)
def yk(d:zG):List Dat:= [.num d.from_,.num d.to_,qV d.cons]
def z5(ds:List zG):Dat:=.arr 3 (ds.map yk)
inductive zK where
 |mk (op num:Int) (kids:List zK)
def zK.op:zK→Int| .mk o _ _=>o
def zK.num:zK→Int| .mk _ n _=>n
def zK.kids:zK→List zK| .mk _ _ k=>k
instance :Inhabited zK:=⟨.mk 0 0 []⟩
def eAt(es:List zK)(i:Nat):zK:=es.getD i default
mutual
def yC:zK→List Dat
 | .mk op num ks=> [.num op,.num num,.arr 3 (yF ks)]
def yF:List zK→List (List Dat)
 | []=> []
 |e::es=>yC e::yF es
end
def zJ(es:List zK):Dat:=.arr 3 (yF es)
theorem yR(es:List zK):yF es=es.map yC:=by induction es<;>simp_all [yF]
theorem jM(e:zK):yC e= [.num e.op,.num e.num,zJ e.kids]:=by cases e;rfl
structure zA where
 params:List Int
 result:Int
 body:zK
instance :Inhabited zA:=⟨⟨[],0,default⟩⟩
def fAt(fs:List zA)(i:Nat):zA:=fs.getD i default
def xZ(f:zA):List Dat:= [zY f.params,.num f.result,.num f.body.op,.num f.body.num,zJ f.body.kids]
def qW(fs:List zA):Dat:=.arr 5 (fs.map xZ)
structure SB where
 decls:List zG
 funcs:List zA
mutual
inductive qE where
 |mk (op num into:Int) (args:List Int) (kids:List yK)
inductive yK where
 |mk (steps:List qE) (result:Int)
end
def qE.op:qE→Int| .mk o _ _ _ _=>o
def qE.num:qE→Int| .mk _ o _ _ _=>o
def qE.into:qE→Int| .mk _ _ o _ _=>o
def qE.args:qE→List Int| .mk _ _ _ o _=>o
def qE.kids:qE→List yK| .mk _ _ _ _ o=>o
def yK.steps:yK→List qE| .mk s _=>s
def yK.result:yK→Int| .mk _ r=>r
instance :Inhabited qE:=⟨.mk 0 0 0 [] []⟩
instance :Inhabited yK:=⟨.mk [] 0⟩
def sAt(es:List qE)(i:Nat):qE:=es.getD i default
def bAt(es:List yK)(i:Nat):yK:=es.getD i default
mutual
def Xy:qE→List Dat
 | .mk op num into args ks=> [.num op,.num num,.num into,zY args,.arr 2 (yE ks)]
def BT:yK→List Dat
 | .mk ss r=> [.arr 5 (zk ss),.num r]
def zk:List qE→List (List Dat)
 | []=> []
 |e::es=>Xy e::zk es
def yE:List yK→List (List Dat)
 | []=> []
 |e::es=>BT e::yE es
end
def zF(es:List qE):Dat:=.arr 5 (zk es)
def zC(es:List yK):Dat:=.arr 2 (yE es)
theorem qx(es:List qE):zk es=es.map Xy:=by induction es<;>simp_all [zk]
theorem jN(es:List yK):yE es=es.map BT:=by induction es<;>simp_all [yE]
theorem NX(e:qE):Xy e= [.num e.op,.num e.num,.num e.into,zY e.args,zC e.kids]:=by cases e;rfl
theorem Mv(e:yK):BT e= [zF e.steps,.num e.result]:=by cases e;rfl
structure vz where
 params:List Int
 lent:List Int
 result:Int
 body:yK
instance :Inhabited vz:=⟨⟨[], [],0,default⟩⟩
def qF(fs:List vz)(i:Nat):vz:=fs.getD i default
def yG(f:vz):List Dat:= [zY f.params,zY f.lent,.num f.result,zF f.body.steps,.num f.body.result]
def yx(fs:List vz):Dat:=.arr 5 (fs.map yG)
structure SK where
 decls:List zG
 routs:List vz
structure yJ where
 params:List Int
 lent:List Int
 result:Int
instance :Inhabited yJ:=⟨⟨[], [],0⟩⟩
def yH(fs:List yJ)(i:Nat):yJ:=fs.getD i default
def Vk(f:yJ):List Dat:= [zY f.params,zY f.lent,.num f.result]
def Y4(fs:List yJ):Dat:=.arr 3 (fs.map Vk)
def SD(f:List Int):List Dat:= [zY f]
theorem jW{xs:List Int}{i:Nat}(h:i<xs.length):iAt xs i=xs[i]:=by simp[iAt,List.getD,h]
theorem YU{xs:List (List Int)}{i:Nat}(h:i<xs.length):cAt xs i=xs[i]:=by simp[cAt,List.getD,h]
theorem DH{xs:List zG}{i:Nat}(h:i<xs.length):dAt xs i=xs[i]:=by simp[dAt,List.getD,h]
theorem Y7{xs:List zK}{i:Nat}(h:i<xs.length):eAt xs i=xs[i]:=by simp[eAt,List.getD,h]
theorem YS{xs:List zA}{i:Nat}(h:i<xs.length):fAt xs i=xs[i]:=by simp[fAt,List.getD,h]
theorem DB{xs:List qE}{i:Nat}(h:i<xs.length):sAt xs i=xs[i]:=by simp[sAt,List.getD,h]
theorem Vw{xs:List yK}{i:Nat}(h:i<xs.length):bAt xs i=xs[i]:=by simp[bAt,List.getD,h]
theorem KH{xs:List vz}{i:Nat}(h:i<xs.length):qF xs i=xs[i]:=by simp[qF,List.getD,h]
theorem YM{xs:List yJ}{i:Nat}(h:i<xs.length):yH xs i=xs[i]:=by simp[yH,List.getD,h]
section
variable {D:Nat→Prop}{w:World}{a:Option Addr}{n c:Nat}
theorem jz{s:Nat}{rows:List (List Dat)}(h:Rd w D (.arr s rows) (.slice a n c)):rows.length=n∧n≤c∧n≤9223372036854775807∧
  ∀i,i<n→∃b o,a=some ⟨b,o,none⟩∧D b∧∀j,j<s→∃u,w.cell? ⟨b,o+i*s+j,none⟩=some u∧Rd w D (jP (qC rows i) j) u:=by
 obtain⟨a',c',e,h1,h2,h3⟩:=h.arr_inv;injection e with e1 e2 e3
 subst e1 e2 e3;refine⟨rfl,h1,h2,fun i hi=>?_⟩;obtain⟨b,o,e,hd,hc⟩:=h3 (by omega);exact⟨b,o,e,hd,fun j hj=>(hc i hi).2 j hj⟩
theorem qT{s:Nat}{rows:List (List Dat)}{v:Value}(h:Rd w D (.arr s rows) v):∃a n c,v=.slice a n c∧n=rows.length∧n≤c:=by
 obtain⟨a',c',rfl,h1,_⟩:=h.arr_inv;exact⟨a',_,c',rfl,rfl,h1⟩
theorem vZ(xs:List Int)(i:Nat)(h:i<xs.length):qC (xs.map gZ) i= [.num (iAt xs i)]:=by rw[jW h,uH _ _ _ h];rfl
theorem QW(xs:List Int):(xs.map gZ).length=xs.length:=by simp
theorem zN{xs:List Int}(h:Rd w D (zY xs) (.slice a n c)):xs.length=n∧n≤c∧n≤9223372036854775807∧∀i,i<n→∃b o,a=some ⟨b,o,none⟩∧D b∧
  w.cell? ⟨b,o+i,none⟩=some (.int .i64 (iAt xs i)):=by
 obtain⟨h1,h2,h3,h4⟩:=jz (s:=1) (rows:=(xs.map gZ)) h;rw[QW]at h1;refine⟨h1,h2,h3,fun i hi=>?_⟩;obtain⟨b,o,e,hd,hc⟩:=h4 i hi;rw[vZ xs i (by omega)]at hc;obtain⟨u0,d0,r0⟩:=hc 0 (by omega);rw[Nat.mul_one,Nat.add_zero]at d0;obtain rfl:=Rd.num_inv (z:=iAt xs i) r0;exact⟨b,o,e,hd,d0⟩
theorem vS(xs:List (List Int))(i:Nat)(h:i<xs.length):qC (xs.map xX) i= [zY (cAt xs i)]:=by rw[YU h,uH _ _ _ h];rfl
theorem YH(xs:List (List Int)):(xs.map xX).length=xs.length:=by simp
theorem gK{xs:List (List Int)}(h:Rd w D (qV xs) (.slice a n c)):xs.length=n∧n≤c∧n≤9223372036854775807∧∀i,i<n→∃b o,a=some ⟨b,o,none⟩∧D b∧
  ∃a0 n0 c0,w.cell? ⟨b,o+i,none⟩=some (.slice a0 n0 c0)∧Rd w D (zY (cAt xs i)) (.slice a0 n0 c0):=by
 obtain⟨h1,h2,h3,h4⟩:=jz (s:=1) (rows:=(xs.map xX)) h;rw[YH]at h1;refine⟨h1,h2,h3,fun i hi=>?_⟩;obtain⟨b,o,e,hd,hc⟩:=h4 i hi;rw[vS xs i (by omega)]at hc;obtain⟨u0,d0,r0⟩:=hc 0 (by omega);rw[Nat.mul_one,Nat.add_zero]at d0;obtain⟨a0,n0,c0,rfl,_,_⟩:=qT (rows:=_) r0;exact⟨b,o,e,hd,a0,n0,c0,d0,r0⟩
theorem xD(xs:List zG)(i:Nat)(h:i<xs.length):qC (xs.map yk) i= [.num ((dAt xs i).from_),.num ((dAt xs i).to_),qV (dAt xs i).cons]:=by rw[DH h,uH _ _ _ h];rfl
theorem xV(xs:List zG):(xs.map yk).length=xs.length:=by simp
theorem zT{xs:List zG}(h:Rd w D (z5 xs) (.slice a n c)):xs.length=n∧n≤c∧n≤9223372036854775807∧∀i,i<n→∃b o,a=some ⟨b,o,none⟩∧D b∧
  ∃a2 n2 c2,w.cell? ⟨b,o+i*3,none⟩=some (.int .i64 ((dAt xs i).from_))∧w.cell? ⟨b,o+i*3+1,none⟩=some (.int .i64 ((dAt xs i).to_))∧w.cell? ⟨b,o+i*3+2,none⟩=some (.slice a2 n2 c2)∧Rd w D (qV (dAt xs i).cons) (.slice a2 n2 c2):=by
 obtain⟨h1,h2,h3,h4⟩:=jz (s:=3) (rows:=(xs.map yk)) h;rw[xV]at h1;refine⟨h1,h2,h3,fun i hi=>?_⟩;obtain⟨b,o,e,hd,hc⟩:=h4 i hi;rw[xD xs i (by omega)]at hc;obtain⟨u0,d0,r0⟩:=hc 0 (by omega);rw[Nat.add_zero]at d0;obtain rfl:=Rd.num_inv (z:=(dAt xs i).from_) r0;obtain⟨u1,d1,r1⟩:=hc 1 (by omega);obtain rfl:=Rd.num_inv (z:=(dAt xs i).to_) r1;obtain⟨u2,d2,r2⟩:=hc 2 (by omega);obtain⟨a2,n2,c2,rfl,_,_⟩:=qT (rows:=_) r2;exact⟨b,o,e,hd,a2,n2,c2,d0,d1,d2,r2⟩
theorem kz(xs:List zK)(i:Nat)(h:i<xs.length):qC (yF xs) i= [.num ((eAt xs i).op),.num ((eAt xs i).num),zJ (eAt xs i).kids]:=by rw[Y7 h,yR,uH _ _ _ h,jM]
theorem QF(xs:List zK):(yF xs).length=xs.length:=by rw[yR];simp
theorem zx{xs:List zK}(h:Rd w D (zJ xs) (.slice a n c)):xs.length=n∧n≤c∧n≤9223372036854775807∧∀i,i<n→∃b o,a=some ⟨b,o,none⟩∧D b∧
  ∃a2 n2 c2,w.cell? ⟨b,o+i*3,none⟩=some (.int .i64 ((eAt xs i).op))∧w.cell? ⟨b,o+i*3+1,none⟩=some (.int .i64 ((eAt xs i).num))∧w.cell? ⟨b,o+i*3+2,none⟩=some (.slice a2 n2 c2)∧Rd w D (zJ (eAt xs i).kids) (.slice a2 n2 c2):=by
 obtain⟨h1,h2,h3,h4⟩:=jz (s:=3) (rows:=(yF xs)) h;rw[QF]at h1;refine⟨h1,h2,h3,fun i hi=>?_⟩;obtain⟨b,o,e,hd,hc⟩:=h4 i hi;rw[kz xs i (by omega)]at hc;obtain⟨u0,d0,r0⟩:=hc 0 (by omega);rw[Nat.add_zero]at d0;obtain rfl:=Rd.num_inv (z:=(eAt xs i).op) r0;obtain⟨u1,d1,r1⟩:=hc 1 (by omega);obtain rfl:=Rd.num_inv (z:=(eAt xs i).num) r1;obtain⟨u2,d2,r2⟩:=hc 2 (by omega);obtain⟨a2,n2,c2,rfl,_,_⟩:=qT (rows:=_) r2;exact⟨b,o,e,hd,a2,n2,c2,d0,d1,d2,r2⟩
theorem uU(xs:List zA)(i:Nat)(h:i<xs.length):qC (xs.map xZ) i= [zY (fAt xs i).params,.num ((fAt xs i).result),.num ((fAt xs i).body.op),.num ((fAt xs i).body.num),zJ (fAt xs i).body.kids]:=by rw[YS h,uH _ _ _ h];rfl
theorem JH(xs:List zA):(xs.map xZ).length=xs.length:=by simp
theorem qZ{xs:List zA}(h:Rd w D (qW xs) (.slice a n c)):xs.length=n∧n≤c∧n≤9223372036854775807∧∀i,i<n→∃b o,a=some ⟨b,o,none⟩∧D b∧
  ∃a0 n0 c0 a4 n4 c4,w.cell? ⟨b,o+i*5,none⟩=some (.slice a0 n0 c0)∧w.cell? ⟨b,o+i*5+1,none⟩=some (.int .i64 ((fAt xs i).result))∧w.cell? ⟨b,o+i*5+2,none⟩=some (.int .i64 ((fAt xs i).body.op))∧w.cell? ⟨b,o+i*5+3,none⟩=some (.int .i64 ((fAt xs i).body.num))∧w.cell? ⟨b,o+i*5+4,none⟩=some (.slice a4 n4 c4)∧Rd w D (zY (fAt xs i).params) (.slice a0 n0 c0)∧Rd w D (zJ (fAt xs i).body.kids) (.slice a4 n4 c4):=by
 obtain⟨h1,h2,h3,h4⟩:=jz (s:=5) (rows:=(xs.map xZ)) h;rw[JH]at h1;refine⟨h1,h2,h3,fun i hi=>?_⟩;obtain⟨b,o,e,hd,hc⟩:=h4 i hi;rw[uU xs i (by omega)]at hc;obtain⟨u0,d0,r0⟩:=hc 0 (by omega);rw[Nat.add_zero]at d0;obtain⟨a0,n0,c0,rfl,_,_⟩:=qT (rows:=_) r0;obtain⟨u1,d1,r1⟩:=hc 1 (by omega);obtain rfl:=Rd.num_inv (z:=(fAt xs i).result) r1;obtain⟨u2,d2,r2⟩:=hc 2 (by omega);obtain rfl:=Rd.num_inv (z:=(fAt xs i).body.op) r2;obtain⟨u3,d3,r3⟩:=hc 3 (by omega);obtain rfl:=Rd.num_inv (z:=(fAt xs i).body.num) r3;obtain⟨u4,d4,r4⟩:=hc 4 (by omega);obtain⟨a4,n4,c4,rfl,_,_⟩:=qT (rows:=_) r4;exact⟨b,o,e,hd,a0,n0,c0,a4,n4,c4,d0,d1,d2,d3,d4,r0,r4⟩
theorem JK(xs:List qE)(i:Nat)(h:i<xs.length):qC (zk xs) i= [.num ((sAt xs i).op),.num ((sAt xs i).num),.num ((sAt xs i).into),zY (sAt xs i).args,zC (sAt xs i).kids]:=by rw[DB h,qx,uH _ _ _ h,NX]
theorem JB(xs:List qE):(zk xs).length=xs.length:=by rw[qx];simp
theorem gx{xs:List qE}(h:Rd w D (zF xs) (.slice a n c)):xs.length=n∧n≤c∧n≤9223372036854775807∧∀i,i<n→∃b o,a=some ⟨b,o,none⟩∧D b∧
  ∃a3 n3 c3 a4 n4 c4,w.cell? ⟨b,o+i*5,none⟩=some (.int .i64 ((sAt xs i).op))∧w.cell? ⟨b,o+i*5+1,none⟩=some (.int .i64 ((sAt xs i).num))∧w.cell? ⟨b,o+i*5+2,none⟩=some (.int .i64 ((sAt xs i).into))∧w.cell? ⟨b,o+i*5+3,none⟩=some (.slice a3 n3 c3)∧w.cell? ⟨b,o+i*5+4,none⟩=some (.slice a4 n4 c4)∧Rd w D (zY (sAt xs i).args) (.slice a3 n3 c3)∧Rd w D (zC (sAt xs i).kids) (.slice a4 n4 c4):=by
 obtain⟨h1,h2,h3,h4⟩:=jz (s:=5) (rows:=(zk xs)) h;rw[JB]at h1;refine⟨h1,h2,h3,fun i hi=>?_⟩;obtain⟨b,o,e,hd,hc⟩:=h4 i hi;rw[JK xs i (by omega)]at hc;obtain⟨u0,d0,r0⟩:=hc 0 (by omega);rw[Nat.add_zero]at d0;obtain rfl:=Rd.num_inv (z:=(sAt xs i).op) r0;obtain⟨u1,d1,r1⟩:=hc 1 (by omega);obtain rfl:=Rd.num_inv (z:=(sAt xs i).num) r1;obtain⟨u2,d2,r2⟩:=hc 2 (by omega);obtain rfl:=Rd.num_inv (z:=(sAt xs i).into) r2;obtain⟨u3,d3,r3⟩:=hc 3 (by omega);obtain⟨a3,n3,c3,rfl,_,_⟩:=qT (rows:=_) r3;obtain⟨u4,d4,r4⟩:=hc 4 (by omega);obtain⟨a4,n4,c4,rfl,_,_⟩:=qT (rows:=_) r4;exact⟨b,o,e,hd,a3,n3,c3,a4,n4,c4,d0,d1,d2,d3,d4,r3,r4⟩
theorem YJ(xs:List yK)(i:Nat)(h:i<xs.length):qC (yE xs) i= [zF (bAt xs i).steps,.num ((bAt xs i).result)]:=by rw[Vw h,jN,uH _ _ _ h,Mv]
theorem YX(xs:List yK):(yE xs).length=xs.length:=by rw[jN];simp
theorem kR{xs:List yK}(h:Rd w D (zC xs) (.slice a n c)):xs.length=n∧n≤c∧n≤9223372036854775807∧∀i,i<n→∃b o,a=some ⟨b,o,none⟩∧D b∧
  ∃a0 n0 c0,w.cell? ⟨b,o+i*2,none⟩=some (.slice a0 n0 c0)∧w.cell? ⟨b,o+i*2+1,none⟩=some (.int .i64 ((bAt xs i).result))∧Rd w D (zF (bAt xs i).steps) (.slice a0 n0 c0):=by
 obtain⟨h1,h2,h3,h4⟩:=jz (s:=2) (rows:=(yE xs)) h;rw[YX]at h1;refine⟨h1,h2,h3,fun i hi=>?_⟩;obtain⟨b,o,e,hd,hc⟩:=h4 i hi;rw[YJ xs i (by omega)]at hc;obtain⟨u0,d0,r0⟩:=hc 0 (by omega);rw[Nat.add_zero]at d0;obtain⟨a0,n0,c0,rfl,_,_⟩:=qT (rows:=_) r0;obtain⟨u1,d1,r1⟩:=hc 1 (by omega);obtain rfl:=Rd.num_inv (z:=(bAt xs i).result) r1;exact⟨b,o,e,hd,a0,n0,c0,d0,d1,r0⟩
theorem JG(xs:List vz)(i:Nat)(h:i<xs.length):qC (xs.map yG) i= [zY (qF xs i).params,zY (qF xs i).lent,.num ((qF xs i).result),zF (qF xs i).body.steps,.num ((qF xs i).body.result)]:=by rw[KH h,uH _ _ _ h];rfl
theorem JQ(xs:List vz):(xs.map yG).length=xs.length:=by simp
theorem Zk{xs:List vz}(h:Rd w D (yx xs) (.slice a n c)):xs.length=n∧n≤c∧n≤9223372036854775807∧∀i,i<n→∃b o,a=some ⟨b,o,none⟩∧D b∧
  ∃a0 n0 c0 a1 n1 c1 a3 n3 c3,w.cell? ⟨b,o+i*5,none⟩=some (.slice a0 n0 c0)∧w.cell? ⟨b,o+i*5+1,none⟩=some (.slice a1 n1 c1)∧w.cell? ⟨b,o+i*5+2,none⟩=some (.int .i64 ((qF xs i).result))∧w.cell? ⟨b,o+i*5+3,none⟩=some (.slice a3 n3 c3)∧w.cell? ⟨b,o+i*5+4,none⟩=some (.int .i64 ((qF xs i).body.result))∧Rd w D (zY (qF xs i).params) (.slice a0 n0 c0)∧Rd w D (zY (qF xs i).lent) (.slice a1 n1 c1)∧Rd w D (zF (qF xs i).body.steps) (.slice a3 n3 c3):=by
 obtain⟨h1,h2,h3,h4⟩:=jz (s:=5) (rows:=(xs.map yG)) h;rw[JQ]at h1;refine⟨h1,h2,h3,fun i hi=>?_⟩;obtain⟨b,o,e,hd,hc⟩:=h4 i hi;rw[JG xs i (by omega)]at hc;obtain⟨u0,d0,r0⟩:=hc 0 (by omega);rw[Nat.add_zero]at d0;obtain⟨a0,n0,c0,rfl,_,_⟩:=qT (rows:=_) r0;obtain⟨u1,d1,r1⟩:=hc 1 (by omega);obtain⟨a1,n1,c1,rfl,_,_⟩:=qT (rows:=_) r1;obtain⟨u2,d2,r2⟩:=hc 2 (by omega);obtain rfl:=Rd.num_inv (z:=(qF xs i).result) r2;obtain⟨u3,d3,r3⟩:=hc 3 (by omega);obtain⟨a3,n3,c3,rfl,_,_⟩:=qT (rows:=_) r3;obtain⟨u4,d4,r4⟩:=hc 4 (by omega);obtain rfl:=Rd.num_inv (z:=(qF xs i).body.result) r4;exact⟨b,o,e,hd,a0,n0,c0,a1,n1,c1,a3,n3,c3,d0,d1,d2,d3,d4,r0,r1,r3⟩
theorem WK(xs:List yJ)(i:Nat)(h:i<xs.length):qC (xs.map Vk) i= [zY (yH xs i).params,zY (yH xs i).lent,.num ((yH xs i).result)]:=by rw[YM h,uH _ _ _ h];rfl
theorem Ly(xs:List yJ):(xs.map Vk).length=xs.length:=by simp
theorem G3{xs:List yJ}(h:Rd w D (Y4 xs) (.slice a n c)):xs.length=n∧n≤c∧n≤9223372036854775807∧∀i,i<n→∃b o,a=some ⟨b,o,none⟩∧D b∧
  ∃a0 n0 c0 a1 n1 c1,w.cell? ⟨b,o+i*3,none⟩=some (.slice a0 n0 c0)∧w.cell? ⟨b,o+i*3+1,none⟩=some (.slice a1 n1 c1)∧w.cell? ⟨b,o+i*3+2,none⟩=some (.int .i64 ((yH xs i).result))∧Rd w D (zY (yH xs i).params) (.slice a0 n0 c0)∧Rd w D (zY (yH xs i).lent) (.slice a1 n1 c1):=by
 obtain⟨h1,h2,h3,h4⟩:=jz (s:=3) (rows:=(xs.map Vk)) h;rw[Ly]at h1;refine⟨h1,h2,h3,fun i hi=>?_⟩;obtain⟨b,o,e,hd,hc⟩:=h4 i hi;rw[WK xs i (by omega)]at hc;obtain⟨u0,d0,r0⟩:=hc 0 (by omega);rw[Nat.add_zero]at d0;obtain⟨a0,n0,c0,rfl,_,_⟩:=qT (rows:=_) r0;obtain⟨u1,d1,r1⟩:=hc 1 (by omega);obtain⟨a1,n1,c1,rfl,_,_⟩:=qT (rows:=_) r1;obtain⟨u2,d2,r2⟩:=hc 2 (by omega);obtain rfl:=Rd.num_inv (z:=(yH xs i).result) r2;exact⟨b,o,e,hd,a0,n0,c0,a1,n1,c1,d0,d1,d2,r0,r1⟩
end
section
variable {D:Nat→Prop}{w:World}{a:Option Addr}{n c:Nat}
theorem Rd.toInts{xs:List Int}(h:Rd w D (zY xs) (.slice a n c)):qN w D a n xs:=by
 obtain⟨h1,_,_,h4⟩:=zN h;refine⟨h1,fun hn=>?_⟩;obtain⟨b,o,e,hd,_⟩:=h4 0 hn;subst e;refine⟨b,o,rfl,hd,fun i hi=>?_⟩;obtain⟨b',o',e,_,hc⟩:=h4 i hi;injection e with e
 injection e with e1 e2
 subst e1 e2;exact hc
theorem qN.toRd{xs:List Int}(h:qN w D a n xs)(hc:n≤c)(hm:n≤9223372036854775807):Rd w D (zY xs) (.slice a n c):=by
 obtain⟨h1,h2⟩:=h;subst h1;rcases Nat.eq_zero_or_pos xs.length with h0|h0
 ·have:xs= []:=List.eq_nil_of_length_eq_zero h0
  subst this;exact .nil 1 a c
 ·obtain⟨b,o,rfl,hd,hcell⟩:=h2 h0
  have q:=Rd.arr (w:=w) (D:=D) 1 (xs.map gZ) b o c (fun i _=>.int .i64 (iAt xs i)) hd (by simpa using h0) (by omega) (by simpa using hc) (by simpa using hm)
   (fun i hi=>by rw[vZ xs i (by simpa using hi)];rfl) (fun i j hi hj=>by
    obtain rfl:j=0:=by omega
    rw[Nat.mul_one,Nat.add_zero];exact hcell i (by simpa using hi))
   (fun i j hi hj=>by
    obtain rfl:j=0:=by omega
    rw[rAt,vZ xs i (by simpa using hi)];exact .num _)
  rw[QW]at q;exact q
theorem Rd.toCons{xs:List (List Int)}(h:Rd w D (qV xs) (.slice a n c)):ZP w D a n xs:=by
 obtain⟨h1,_,_,h4⟩:=gK h;refine⟨h1,fun hn=>?_⟩;obtain⟨b,o,e,hd,_⟩:=h4 0 hn;subst e;refine⟨b,o,rfl,hd,fun i hi=>?_⟩;obtain⟨b',o',e,_,a2,n2,c2,hc,hr⟩:=h4 i hi;injection e with e
 injection e with e1 e2
 subst e1 e2;exact⟨a2,n2,c2,hc,(zN hr).2.1,hr.toInts⟩
theorem Rd.toDecls{xs:List zG}(h:Rd w D (z5 xs) (.slice a n c)):qy w D a n xs:=by
 obtain⟨h1,_,_,h4⟩:=zT h;refine⟨h1,fun hn=>?_⟩;obtain⟨b,o,e,hd,_⟩:=h4 0 hn;subst e;refine⟨b,o,rfl,hd,fun i hi=>?_⟩;obtain⟨b',o',e,_,a2,n2,c2,hc0,hc1,hc,hr⟩:=h4 i hi;injection e with e
 injection e with e1 e2
 subst e1 e2;exact⟨hc0,hc1,a2,n2,c2,hc,(gK hr).2.1,hr.toCons⟩
end
def zq(w:World)(base:Nat)(D:Nat→Prop)(T:TypeId)(s:Nat)(v:Value)(rows:List (List Dat)):Prop:=
 ∃(xs:List Value),w.ownsRow base T s v rows.length xs∧(∀i,i<rows.length→(qC rows i).length=s)∧
  ∀i j,i<rows.length→j<s→∃u,xs[i*s+j]?=some u∧Rd w (fun k=>D k∧v.ownBlock≠some k∧k<w.heap.size) (rAt rows i j) u
section
variable {S D D':Nat→Prop}{w w':World}{v:Value}{base:Nat}{T:TypeId}{s:Nat}{rows:List (List Dat)}
theorem zq.nil(w:World)(base:Nat)(D:Nat→Prop)(T:TypeId)(s:Nat):zq w base D T s (.slice none 0 0) []:=
 ⟨[],World.ownsRow_nil w base T s,by simp,by simp⟩
theorem zq.made(w:World)(D:Nat→Prop)(T:TypeId)(s:Nat):zq (w.alloc (.cells #[] T)) w.heap.size D T s (.slice (some ⟨w.heap.size,0,none⟩) 0 0) []:=
 ⟨[],World.ownsRow_made w #[] 0 (Nat.le_refl _) (by simp[maxLen]) (by simp),by simp,by simp⟩
theorem zq.lit(w:World)(D:Nat→Prop)(T:TypeId)(s:Nat)(cs:Array Value)(rows:List (List Dat))(n:Nat)(hn:n=rows.length)(hm:n≤9223372036854775807)(hcs:cs.size=n*s)
  (hl:∀i,i<rows.length→(qC rows i).length=s) (hr:∀i j,i<rows.length→j<s→∃u,cs[i*s+j]?=some u∧Rd w D (rAt rows i j) u):
  zq (w.alloc (.cells cs T)) w.heap.size D T s (.slice (some ⟨w.heap.size,0,none⟩) n n) rows:=by
 subst hn;refine⟨cs.toList,⟨by simpa using hcs,.inr ⟨w.heap.size,_,cs,rfl,Nat.le_refl _,heap_alloc_new w _,Nat.le_refl _,by simpa only[maxLen]using hm,hcs,List.take_of_length_le (by simp[hcs])⟩⟩,hl,fun i j hi hj=>?_⟩;obtain⟨u,hu,ho⟩:=hr i j hi hj;refine⟨u,by simpa using hu,(ho.lt.mono (fun k hk=>⟨hk.1,?_,?_⟩)).ext ((Ext.refl (fun _=>False) w).alloc _) (fun _ _ h=>h)⟩
 ·intro h;simp only[Value.ownBlock,Option.some.injEq]at h;omega
 ·simp;omega
theorem zq.mono(h:zq w base D T s v rows)(hs:∀k,D k→D' k):zq w base D' T s v rows:=by
 obtain⟨xs,h1,h2,h5⟩:=h;exact⟨xs,h1,h2,fun i j hi hj=>by obtain⟨u,hu,ho⟩:=h5 i j hi hj;exact⟨u,hu,ho.mono (fun k hk=>⟨hs _ hk.1,hk.2⟩)⟩⟩
theorem zq.lower(h:zq w base D T s v rows){base':Nat}(hb:base'≤base):zq w base' D T s v rows:=by
 obtain⟨xs,h1,h2,h5⟩:=h;refine⟨xs,⟨h1.1,?_⟩,h2,h5⟩;rcases h1.2 with h|⟨g,cap,cur,e,hg,rest⟩
 ·exact .inl h
 ·exact .inr ⟨g,cap,cur,e,by omega,rest⟩
theorem zq.ext(h:zq w base D T s v rows)(hx:Ext S w w')(hs:∀k,k<w.heap.size→(D k∨base≤k)→¬S k):zq w' base D T s v rows:=by
 obtain⟨xs,h1,h2,h5⟩:=h;refine⟨xs,⟨h1.1,?_⟩,h2,fun i j hi hj=>?_⟩
 ·rcases h1.2 with h|⟨g,cap,cur,e,hb,hg,rest⟩
  ·exact .inl h
  ·have hlt:g<w.heap.size:=(Array.getElem?_eq_some_iff.1 hg).1
   exact .inr ⟨g,cap,cur,e,hb,(hx.block g hlt (hs g hlt (.inr hb))).trans hg,rest⟩
 ·obtain⟨u,hu,ho⟩:=h5 i j hi hj
  exact⟨u,hu,(ho.ext hx (fun k hk=>hs k hk.2.2 (.inl hk.1))).mono (fun k hk=>⟨hk.1,hk.2.1,Nat.lt_of_lt_of_le hk.2.2 hx.size⟩)⟩
theorem zq.keep(h:zq w base D T s v rows)(hx:zQ w w'):zq w' base D T s v rows:=h.ext hx (fun _ _ _ h=>h)
theorem zq.read(h:zq w base D T s v rows)(hs0:0<s):∃a c,v=.slice a rows.length c∧rows.length≤c∧rows.length≤9223372036854775807∧Rd w (fun k=>D k∨base≤k) (.arr s rows) v:=by
 obtain⟨xs,h1,h2,h5⟩:=h;rcases h1.2 with ⟨e,h0⟩|⟨g,cap,cur,e,hb,hg,hnc,hmax,hsz,htake⟩
 ·have:rows= []:=List.eq_nil_of_length_eq_zero h0
  subst this;subst e;exact⟨none,0,rfl,Nat.le_refl _,by simp,.nil _ _ _⟩
 ·subst e
  have hm:rows.length≤9223372036854775807:=by simp only[maxLen]at hmax;omega
  refine⟨_,cap,rfl,hnc,hm,?_⟩;rcases Nat.eq_zero_or_pos rows.length with h0|h0
  ·have:rows= []:=List.eq_nil_of_length_eq_zero h0
   subst this;exact .nil _ _ _
  refine .arr s rows g 0 cap (fun i j=>xs.getD (i*s+j) undef) (.inr hb) h0 hs0 hnc hm h2 (fun i j hi hj=>?_) (fun i j hi hj=>?_)
  ·obtain⟨u,hu,ho⟩:=h5 i j hi hj
   have:=h1.cells (g:=g) rfl (i*s+j) u hu;rw[Addr.add_lit]at this;rw[Nat.add_assoc,this];simp[List.getD,hu]
  ·obtain⟨u,hu,ho⟩:=h5 i j hi hj
   have:xs.getD (i*s+j) undef=u:=by simp[List.getD,hu]
   show Rd w _ _ (xs.getD (i*s+j) undef);rw[this];exact ho.mono (fun k hk=>.inl hk.1)
theorem zq.push{v':Value}{rs:List (List Dat)}{news:List Value}(h:zq w base D T s v rows)
  (hr:∀i,i<rs.length→(qC rs i).length=s) (hnew:∀i j,i<rs.length→j<s→∃u,news[i*s+j]?=some u∧Rd w (fun k=>D k∧v.ownBlock≠some k) (rAt rs i j) u)
  (hown':∀xs,w.ownsRow base T s v rows.length xs→w'.ownsRow base T s v' (rows.length+rs.length) (xs++news)) (hg:w.grownBy w' v.ownBlock) (hv:v'.ownBlock=v.ownBlock∨v'.ownBlock=some w.heap.size):zq w' base D T s v' (rows++rs):=by
 obtain⟨xs,h1,h2,h5⟩:=h;have hl:xs.length=rows.length*s:=h1.1;have hx:Ext (fun k=>v.ownBlock=some k) w w':=⟨hg.os,hg.tape,hg.output,hg.size,fun k hk hn=>hg.block k hk (fun e=>hn e.symm)⟩;have hblk:∀k,k<w.heap.size→v.ownBlock≠some k→v'.ownBlock≠some k:=by
  intro k hk hne;rcases hv with e|e
  ·rw[e];exact hne
  ·rw[e];intro h;injection h with h;omega
 have hlen:(rows++rs).length=rows.length+rs.length:=by simp
 have hrg:∀i,i<rows.length→qC (rows++rs) i=qC rows i:=by intro i hi;simp[qC,List.getD,List.getElem?_append_left hi]
 have hrl:∀i,rows.length≤i→qC (rows++rs) i=qC rs (i-rows.length):=by intro i hi;simp[qC,List.getD,List.getElem?_append_right hi]
 refine⟨xs++news,by rw[hlen];exact hown' xs h1,?_,?_⟩
 ·intro i hi
  rw[hlen]at hi;by_cases e:i<rows.length
  ·rw[hrg i e,h2 i e]
  ·rw[hrl i (by omega),hr _ (by omega)]
 ·intro i j hi hj
  rw[hlen]at hi;by_cases e:i<rows.length
  ·obtain⟨u,hu,ho⟩:=h5 i j e hj
   refine⟨u,?_,?_⟩
   ·rw[List.getElem?_append_left (by rw[hl];exact qP e hj)];exact hu
   ·rw[rAt,hrg i e]
    exact(ho.ext hx (fun k hk h=>hk.2.1 h)).mono (fun k hk=>⟨hk.1,hblk k hk.2.2 hk.2.1,Nat.lt_of_lt_of_le hk.2.2 hg.size⟩)
  ·obtain⟨i',rfl⟩:∃i',i=rows.length+i':=⟨i-rows.length,by omega⟩
   obtain⟨u,hu,ho⟩:=hnew i' j (by omega) hj;have e1:(rows.length+i')*s+j=rows.length*s+(i'*s+j):=by rw[Nat.add_mul,Nat.add_assoc]
   refine⟨u,?_,?_⟩
   ·rw[e1,List.getElem?_append_right (by rw[hl];omega),hl,Nat.add_sub_cancel_left];exact hu
   ·rw[rAt,hrl _ (by omega),Nat.add_sub_cancel_left]
    exact(ho.lt.ext hx (fun k hk h=>hk.1.2 h)).mono (fun k hk=>⟨hk.1.1,hblk k hk.2 hk.1.2,Nat.lt_of_lt_of_le hk.2 hg.size⟩)
theorem zq.put{b:Nat}{i j:Nat}{d:Dat}{u:Value}(h:zq w base D T s v rows)(hb:v.ownBlock=some b)(hi:i<rows.length)(hj:j<s)(hu:Rd w (fun k=>D k∧k≠b) d u):
  zq (w.setCell ⟨b,i*s+j,none⟩ u) base D T s v (upd rows i j d):=by
 obtain⟨xs,h1,h2,h5⟩:=h;have hlt:=qP hi hj;have hx:Ext (fun k=>k=b) w (w.setCell ⟨b,i*s+j,none⟩ u):=(Ext.refl (fun k=>k=b) w).setCell (p:=⟨b,i*s+j,none⟩) (.inr rfl) _;have hsz:w.heap.size≤(w.setCell ⟨b,i*s+j,none⟩ u).heap.size:=hx.size;have hlen:j<(qC rows i).length:=by rw[h2 i hi];exact hj
 rcases h1.2 with ⟨e,h0⟩|⟨g,cap,cur,e,hbb,hg,hnc,hmax,hsz2,htake⟩
 ·subst e;simp[Value.ownBlock]at hb
 ·subst e
  simp only[Value.ownBlock,Option.some.injEq]at hb;subst hb;have hle:rows.length*s≤cur.size:=by rw[hsz2];exact Nat.mul_le_mul_right s hnc
  refine⟨xs.set (i*s+j) u,⟨by rw[qX,List.length_set];exact h1.1,.inr ⟨g,cap,cur.setIfInBounds (i*s+j) u,by rw[qX],hbb,?_,by rw[qX];exact hnc,hmax,by simpa using hsz2,?_⟩⟩,?_,?_⟩
  ·simp[World.setCell,Array.getElem?_modify,hg]
  ·rw[qX,Array.toList_setIfInBounds,←htake,List.take_set]
  ·intro k hk
   rw[qX]at hk;rw[XT hi];by_cases e:k=i
   ·rw[if_pos e,List.length_set,h2 i hi]
   ·rw[if_neg e,h2 k hk]
  ·intro k l hk hl
   rw[qX]at hk;rw[Jx hi hlen];by_cases e:k=i∧l=j
   ·rw[if_pos e]
    obtain⟨rfl,rfl⟩:=e;refine⟨u,by rw[List.getElem?_set_self];rw[h1.1];exact hlt,(hu.lt.ext hx (fun m hm h=>hm.1.2 h)).mono (fun m hm=>⟨hm.1.1,?_,by omega⟩)⟩;intro h;simp only[Value.ownBlock,Option.some.injEq]at h;exact hm.1.2 h.symm
   ·rw[if_neg e]
    obtain⟨u',hu',ho⟩:=h5 k l hk hl;refine⟨u',?_,(ho.ext hx (fun m hm h=>hm.2.1 (by rw[h];rfl))).mono (fun m hm=>⟨hm.1,hm.2.1,by omega⟩)⟩;rw[List.getElem?_set_ne]
    ·exact hu'
    ·intro h;exact e (kY hl hj h.symm)
theorem zq.open(h:zq w base D T s v rows)(h0:0<rows.length):∃b c,v=.slice (some ⟨b,0,none⟩) rows.length c∧base≤b∧b<w.heap.size∧rows.length≤c∧c≤9223372036854775807∧(∀o,w.frozen? ⟨b,o,none⟩=false)∧
  ∀i j,i<rows.length→j<s→∃u,w.cell? ⟨b,i*s+j,none⟩=some u∧Rd w (fun k=>D k∧k≠b∧k<w.heap.size) (rAt rows i j) u:=by
 obtain⟨xs,h1,h2,h5⟩:=h;rcases h1.2 with ⟨e,he⟩|⟨g,cap,cur,e,hb,hg,hnc,hmax,hsz,htake⟩
 ·omega
 ·subst e
  refine⟨g,cap,rfl,hb,(Array.getElem?_eq_some_iff.1 hg).1,hnc,hmax,fun o=>by simp[World.frozen?,hg],fun i j hi hj=>?_⟩;obtain⟨u,hu,ho⟩:=h5 i j hi hj;have:=h1.cells (g:=g) rfl (i*s+j) u hu;rw[Addr.add_lit,Nat.zero_add]at this;refine⟨u,this,ho.mono (fun k hk=>⟨hk.1,?_,hk.2.2⟩)⟩;intro e;exact hk.2.1 (by rw[e];rfl)
end
theorem Rd.suffix{w:World}{D:Nat→Prop}{s:Nat}{rows:List (List Dat)}{b o n c m:Nat}(h:Rd w D (.arr s rows) (.slice (some ⟨b,o,none⟩) n c))(hm:m≤n):Rd w D (.arr s (rows.drop m)) (.slice (some ⟨b,o+m*s,none⟩) (n-m) (c-m)):=by
 have hget:∀i,qC (rows.drop m) i=qC rows (m+i):=fun i=>by simp[qC,List.getD,List.getElem?_drop]
 cases h with
 |nil=>simp;exact .nil s _ _
 |arr s rows b o c vs hD h0 hs0 hc hmm hs hcell hr=>
  rcases Nat.eq_zero_or_pos (rows.length-m)with e|e
  ·have:rows.drop m= []:=List.drop_eq_nil_of_le (by omega)
   rw[this,e];exact .nil s _ _
  ·have q:=Rd.arr (w:=w) (D:=D) s (rows.drop m) b (o+m*s) (c-m) (fun i j=>vs (m+i) j) hD (by simpa using e) hs0 (by simp;omega) (by simp;omega)
    (fun i hi=>by rw[hget];exact hs _ (by simp at hi;omega)) (fun i j hi hj=>by
     have:=hcell (m+i) j (by simp at hi;omega) hj
     rw[Nat.add_mul]at this
     rw[show o+m*s+i*s+j=o+(m*s+i*s)+j by omega];exact this)
    (fun i j hi hj=>by rw[rAt,hget];exact hr (m+i) j (by simp at hi;omega) hj)
   rw[List.length_drop]at q;exact q
theorem zq.putD{w:World}{base:Nat}{D:Nat→Prop}{T:TypeId}{v:Value}{ds:List zG}{b k:Nat}{f t:Int}{cs:List (List Int)}{u:Value}(h:zq w base D T 3 v (ds.map yk))(hb:v.ownBlock=some b)(hk:k<ds.length)
  (hu:Rd w (fun k=>D k∧k≠b) (qV cs) u):
  zq (((w.setCell ⟨b,k*3,none⟩ (.int .i64 f)).setCell ⟨b,k*3+1,none⟩ (.int .i64 t)).setCell ⟨b,k*3+2,none⟩ u) base D T 3 v ((ds.set k ⟨f,t,cs⟩).map yk):=by
 have hl:k<(ds.map yk).length:=by simpa using hk
 have x1:Ext (fun m=>m=b) w (w.setCell ⟨b,k*3,none⟩ (.int .i64 f)):=(Ext.refl (fun m=>m=b) w).setCell (p:=⟨b,k*3,none⟩) (.inr rfl) _;have x2:Ext (fun m=>m=b) w ((w.setCell ⟨b,k*3,none⟩ (.int .i64 f)).setCell ⟨b,k*3+1,none⟩ (.int .i64 t)):=x1.setCell (p:=⟨b,k*3+1,none⟩) (.inr rfl) _;have h1:=h.put (i:=k) (j:=0) (d:=.num f) hb hl (by omega) (.num f);have h2:=h1.put (i:=k) (j:=1) (d:=.num t) hb (by rw[qX];exact hl) (by omega) (.num t);have h3:=h2.put (i:=k) (j:=2) (d:=qV cs) hb (by rw[qX,qX];exact hl) (by omega) (hu.ext x2 (fun m hm h=>hm.2 h));have e:upd (upd (upd (ds.map yk) k 0 (.num f)) k 1 (.num t)) k 2 (qV cs)=(ds.set k ⟨f,t,cs⟩).map yk:=by
  have r0:=xD ds k hk;simp only[upd];rw[xE (by simpa using hk),xE (by simpa using hk),if_pos rfl,if_pos rfl,r0];simp[List.map_set,yk]
 rw[e]at h3;exact h3
theorem Rd.litD(w:World)(D:Nat→Prop)(T:TypeId)(s:Nat)(cs:Array Value)(rows:List (List Dat))(n:Nat)(hB:D w.heap.size)(hn:n=rows.length)(hm:n≤9223372036854775807)(hs0:0<s)(hcs:cs.size=n*s)
  (hl:∀i,i<rows.length→(qC rows i).length=s) (hr:∀i j,i<rows.length→j<s→∃u,cs[i*s+j]?=some u∧Rd w D (rAt rows i j) u):
  Rd (w.alloc (.cells cs T)) D (.arr s rows) (.slice (some ⟨w.heap.size,0,none⟩) n n):=by
 subst hn;rcases Nat.eq_zero_or_pos rows.length with h0|h0
 ·have:rows= []:=List.eq_nil_of_length_eq_zero h0
  subst this;exact .nil s _ _
 refine .arr s rows w.heap.size 0 rows.length (fun i j=>cs.getD (i*s+j) undef) hB h0 hs0 (Nat.le_refl _) hm hl (fun i j hi hj=>?_) (fun i j hi hj=>?_)
 ·obtain⟨u,hu,_⟩:=hr i j hi hj
  rw[cell_of_row _ w.heap.size _ cs T (0,0) (heap_alloc_new w _),Nat.zero_add];obtain⟨hlt,e⟩:=Array.getElem?_eq_some_iff.1 hu;simp[Array.getD,hlt]
 ·obtain⟨u,hu,ho⟩:=hr i j hi hj
  obtain⟨hlt,e⟩:=Array.getElem?_eq_some_iff.1 hu;have:cs.getD (i*s+j) undef=u:=by simp[Array.getD,hlt,e]
  show Rd _ _ _ (cs.getD (i*s+j) undef);rw[this];exact ho.ext ((Ext.refl (fun _=>False) w).alloc _) (fun _ _ h=>h)
theorem z6(w:World)(D:Nat→Prop)(T:TypeId)(xs:List Int)(cs:Array Value)(n:Nat)(hB:D w.heap.size)(hc:cs=(xs.map (Value.int .i64)).toArray)(hn:n=xs.length)(hm:n≤1000):
  Rd (w.alloc (.cells cs T)) D (zY xs) (.slice (some ⟨w.heap.size,0,none⟩) n n):=by
 subst hc hn;refine Rd.litD w D T 1 _ (xs.map gZ) _ hB (by simp) (by omega) (by omega) (by simp) (fun i hi=>by rw[vZ xs i (by simpa using hi)];rfl) (fun i j hi hj=>?_);obtain rfl:j=0:=by omega
 have hi':i<xs.length:=by simpa using hi
 refine⟨.int .i64 (iAt xs i),by simp[hi',iAt],?_⟩;rw[rAt,vZ xs i hi'];exact .num _
theorem j5(w:World)(B:Nat)(T:TypeId)(xs:List Int)(cs:Array Value)(n:Nat)(hB:B≤w.heap.size)(hc:cs=(xs.map (Value.int .i64)).toArray)(hn:n=xs.length)(hm:n≤1000):
  Rd (w.alloc (.cells cs T)) (fun k=>B≤k) (zY xs) (.slice (some ⟨w.heap.size,0,none⟩) n n):=z6 w _ T xs cs n hB hc hn hm
def BZ(w:World)(D:Nat→Prop):List (List Int)→List Value→Prop
 | [],us=>us= []
 |c::cs,us=>∃u us',us=u::us'∧Rd w D (zY c) u∧BZ w D cs us'
theorem BZ.len{w:World}{D:Nat→Prop}{cs:List (List Int)}{us:List Value}(h:BZ w D cs us):us.length=cs.length:=by
 induction cs generalizing us with
 |nil=>have:us= []:=h;simp[this]
 |cons c cs ih=>obtain⟨u,us',rfl,_,h2⟩:=h;simp[ih h2]
theorem BZ.at{w:World}{D:Nat→Prop}{cs:List (List Int)}{us:List Value}(h:BZ w D cs us)(i:Nat)(hi:i<cs.length):∃u,us[i]?=some u∧Rd w D (zY (cAt cs i)) u:=by
 induction cs generalizing us i with
 |nil=>simp at hi
 |cons c cs ih=>
  obtain⟨u,us',rfl,h1,h2⟩:=h;rcases i with _|i
  ·exact⟨u,rfl,h1⟩
  ·obtain⟨u',e,h3⟩:=ih h2 i (by simpa using hi)
   exact⟨u',by simpa using e,h3⟩
theorem QR(w:World)(D:Nat→Prop)(T:TypeId)(xs:List (List Int))(us:List Value)(n:Nat)(hB:D w.heap.size)(h:BZ w D xs us)(hn:n=xs.length)(hm:n≤1000):
  Rd (w.alloc (.cells us.toArray T)) D (qV xs) (.slice (some ⟨w.heap.size,0,none⟩) n n):=by
 subst hn;refine Rd.litD w D T 1 _ (xs.map xX) _ hB (by simp) (by omega) (by omega) (by simp[h.len]) (fun i hi=>by rw[vS xs i (by simpa using hi)];rfl) (fun i j hi hj=>?_);obtain rfl:j=0:=by omega
 have hi':i<xs.length:=by simpa using hi
 obtain⟨u,hu,hr⟩:=h.at i hi';refine⟨u,by simpa using hu,?_⟩;rw[rAt,vS xs i hi'];exact hr
theorem ZE(w:World)(B:Nat)(T:TypeId)(xs:List (List Int))(us:List Value)(n:Nat)(hB:B≤w.heap.size)(h:BZ w (fun k=>B≤k) xs us)(hn:n=xs.length)(hm:n≤1000):
  Rd (w.alloc (.cells us.toArray T)) (fun k=>B≤k) (qV xs) (.slice (some ⟨w.heap.size,0,none⟩) n n):=QR w _ T xs us n hB h hn hm
def GR(w:World)(D:Nat→Prop):List zG→List Value→Prop
 | [],us=>us= []
 |d::ds,us=>∃u us',us=.int .i64 d.from_::.int .i64 d.to_::u::us'∧Rd w D (qV d.cons) u∧GR w D ds us'
theorem GR.len{w:World}{D:Nat→Prop}{cs:List zG}{us:List Value}(h:GR w D cs us):us.length=cs.length*3:=by
 induction cs generalizing us with
 |nil=>have:us= []:=h;simp[this]
 |cons c cs ih=>obtain⟨u,us',rfl,_,h2⟩:=h;simp[ih h2,Nat.add_mul]
theorem GR.at{w:World}{D:Nat→Prop}{cs:List zG}{us:List Value}(h:GR w D cs us)(i:Nat)(hi:i<cs.length):us[i*3]?=some (.int .i64 (dAt cs i).from_)∧us[i*3+1]?=some (.int .i64 (dAt cs i).to_)∧∃u,us[i*3+2]?=some u∧Rd w D (qV (dAt cs i).cons) u:=by
 induction cs generalizing us i with
 |nil=>simp at hi
 |cons c cs ih=>
  obtain⟨u,us',rfl,h1,h2⟩:=h;rcases i with _|i
  ·exact⟨rfl,rfl,u,rfl,h1⟩
  ·obtain⟨e0,e1,u',e,h3⟩:=ih h2 i (by simpa using hi)
   have q:(i+1)*3=i*3+3:=by omega
   have qd:dAt (c::cs) (i+1)=dAt cs i:=by simp[dAt,List.getD]
   rw[qd];refine⟨?_,?_,u',?_,h3⟩
   ·rw[q];simpa using e0
   ·rw[q,show i*3+3+1=i*3+1+3 by omega];simpa using e1
   ·rw[q,show i*3+3+2=i*3+2+3 by omega];simpa using e
theorem GR.rd{w:World}{D:Nat→Prop}{cs:List zG}{us:List Value}(h:GR w D cs us):∀i j,i<(cs.map yk).length→j<3→∃u,us.toArray[i*3+j]?=some u∧Rd w D (rAt (cs.map yk) i j) u:=by
 intro i j hi hj;have hi':i<cs.length:=by simpa using hi
 obtain⟨e0,e1,u,e2,hr⟩:=h.at i hi';rw[rAt,xD cs i hi'];rcases j with _|_|_|j
 ·exact⟨_,by simpa using e0,.num _⟩
 ·exact⟨_,by simpa using e1,.num _⟩
 ·exact⟨u,by simpa using e2,hr⟩
 ·omega
theorem vF(w:World)(D:Nat→Prop)(T:TypeId)(ds:List zG)(us:List Value)(n:Nat)(hB:D w.heap.size)(h:GR w D ds us)(hn:n=ds.length)(hm:n≤1000):
  Rd (w.alloc (.cells us.toArray T)) D (z5 ds) (.slice (some ⟨w.heap.size,0,none⟩) n n):=by
 subst hn;exact Rd.litD w D T 3 us.toArray (ds.map yk) ds.length hB (by simp) (by omega) (by omega) (by simp[h.len]) (fun i hi=>by rw[xD ds i (by simpa using hi)];rfl) h.rd
theorem Vz(w:World)(B:Nat)(T:TypeId)(ds:List zG)(us:List Value)(n:Nat)(hB:B≤w.heap.size)(h:GR w (fun k=>B≤k) ds us)(hn:n=ds.length)(hm:n≤1000):
  zq (w.alloc (.cells us.toArray T)) B (fun k=>B≤k) T 3 (.slice (some ⟨w.heap.size,0,none⟩) n n) (ds.map yk):=by
 subst hn;exact(zq.lit w (fun k=>B≤k) T 3 us.toArray (ds.map yk) ds.length (by simp) (by omega) (by simp[h.len]) (fun i hi=>by rw[xD ds i (by simpa using hi)];rfl) h.rd).lower hB
theorem Rd.nilC(w:World)(D:Nat→Prop)(a:Option Addr)(c:Nat):Rd w D (qV []) (.slice a 0 c):=.nil 1 a c
theorem Rd.k{w w':World}{D:Nat→Prop}{d:Dat}{v:Value}(h:Rd w D d v)(hx:zQ w w'):Rd w' D d v:=h.ext hx (fun _ _ h=>h)
theorem xQ{w w2:World}{cs:Array Value}{T:TypeId}(h:zQ (w.alloc (.cells cs T)) w2)(i:Nat):w2.cell? ⟨w.heap.size,i,none⟩=cs[i]?:=by
 rw[h.cell (by simp) (fun h=>h),cell_of_row _ w.heap.size i cs T (0,0) (heap_alloc_new w _)]
theorem zQ.at{w w':World}(k:zQ w.drew w'){p:Addr}{v:Value}(h:w.cell? p=some v):w'.cell? p=some v:=by
 have hb:p.block<w.drew.heap.size:=World.block_lt_of_cell? _ _ h;rw[k.cell hb (fun h=>h)];exact h
theorem zQ.al(w:World)(o:Obj):zQ w (w.alloc o):=(Ext.refl _ w).alloc o
def Rdx(w:World)(B g:Nat)(p:Int):Prop:=
 ∃a len cap z,w.heap[g]?=some (.cells #[.slice a len cap,.int .i64 p] 174 (0,0))∧len≤2000∧Byt w a len z∧(∀x,a=some x→0<len→x.block≠g∧x.block<B)∧0≤p∧g<B
theorem Rdx.rdr{w:World}{B g:Nat}{p:Int}(h:Rdx w B g p):Rdr w g p:=by
 obtain⟨a,len,cap,z,hg,hl,hb,hne,hp0,_⟩:=h;exact⟨a,len,cap,z,hg,hl,hb,fun x hx h0=>(hne x hx h0).1,hp0⟩
theorem Rdx.gB{w:World}{B g:Nat}{p:Int}(h:Rdx w B g p):g<B:=by
 obtain⟨_,_,_,_,_,_,_,_,_,h⟩:=h;exact h
theorem Rdx.ext{S:Nat→Prop}{w w':World}{B g:Nat}{p:Int}(h:Rdx w B g p)(hx:Ext S w w')(hs:∀k,k<B→¬S k):Rdx w' B g p:=by
 obtain⟨a,len,cap,z,hg,hl,hb,hne,hp0,hgB⟩:=h;have hlt:g<w.heap.size:=(Array.getElem?_eq_some_iff.1 hg).1;exact⟨a,len,cap,z,(hx.block g hlt (hs g hgB)).trans hg,hl,hb.ext hx (fun x hax hl0=>hs _ (hne x hax hl0).2),hne,hp0,hgB⟩
theorem Rdx.keep{w w':World}{B g:Nat}{p:Int}(h:Rdx w B g p)(hx:zQ w w'):Rdx w' B g p:=h.ext hx (fun _ _ h=>h)
theorem jD(B g:Nat)(p n:Int)(w:World)(h:Rdx w B g p)(hp:p≤1000000000000)(hn:n≤1000000):
  Calls Tryz.prog 158 #[.pointer (some ⟨g,0,none⟩),.int .i64 n] w fun e w'=>∃v:Int,e=.returned (.int .i64 v)∧(1≤n→0≤v∧v<n)∧(n<1→v=0)∧
   Rdx w' B g (p+1)∧Ext (·=g) w w':=by
 refine(Ky g p n w h.rdr hp hn).mono ?_;rintro e w' ⟨v,rfl,h1,h2,m,rfl⟩;have hx:Ext (·=g) w ((w.setCell ⟨g,1,none⟩ (.int .i64 (p+1))).drewN m):=((Ext.refl (·=g) w).setCell (p:=⟨g,1,none⟩) (.inr rfl) _).drewN m;refine⟨v,rfl,h1,h2,?_,hx⟩;obtain⟨a,len,cap,z,hg,hl,hb,hne,hp0,hgB⟩:=h;refine⟨a,len,cap,z,?_,hl,hb.ext hx (fun x hx h0=>(hne x hx h0).1),hne,by omega,hgB⟩;show(w.setCell ⟨g,1,none⟩ (.int .i64 (p+1))).heap[g]?=_;simp[World.setCell,Array.getElem?_modify,hg]
theorem W2(B g:Nat)(p:Int)(a:Option Addr)(len cap:Nat)(xs:List Int)(D:Nat→Prop)(w:World)(h:Rdx w B g p)(hp:p≤1000000000000)(hi:qN w D a len xs)(hl:1≤len)(hl2:len≤1000)(hD:¬D g):
  Calls Tryz.prog 112 #[.pointer (some ⟨g,0,none⟩),.slice a len cap] w fun e w'=>∃v,v∈xs∧e=.returned (.int .i64 v)∧
   Rdx w' B g (p+1)∧Ext (·=g) w w':=by
 refine zV fun Q hQ=>?_;obtain⟨hlen,hc⟩:=hi;obtain⟨b,o,rfl,hd,hc⟩:=hc (by omega);have hbg:b≠g:=fun e=>hD (e▸hd);go_in;go_wp2_with fail;refine(jD B g p _ w h hp (by omega)).mono ?_;rintro e w1 ⟨v,rfl,hv,_,hr,hx⟩;obtain⟨hv0,hv1⟩:=hv (by omega);obtain⟨i,rfl⟩:=Int.eq_ofNat_of_zero_le hv0;have hi:i<len:=by omega
 have c0:=hc i hi;have hc1:=(hx.cell (p:=⟨b,o+i,none⟩) (World.block_lt_of_cell? w _ c0) hbg).trans c0;clear hc hv c0;go_wp2_with fail;exact zB hQ ⟨iAt xs i,by rw[jW (by omega)];exact List.getElem_mem _,rfl,hr,hx⟩
theorem GN(B g:Nat)(p:Int)(l:List Int)(n c:Nat)(T:TypeId)(cs:Array Value)(w:World)(h:Rdx w B g p)(hp:p≤1000000000000)(hcs:cs=(l.map (Value.int .i64)).toArray)(hn:n=l.length)
  (hl:1≤n) (hl2:n≤1000):
  Calls Tryz.prog 112 #[.pointer (some ⟨g,0,none⟩),.slice (some ⟨w.heap.size,0,none⟩) n c] (w.alloc (.cells cs T)) fun e w'=>∃v,v∈l∧e=.returned (.int .i64 v)∧
   Rdx w' B g (p+1)∧Ext (·=g) w w':=by
 have hg:=h.rdr.lt;have hi:=(z6 w (fun k=>k=w.heap.size) T l cs n rfl hcs hn hl2).toInts;refine(W2 B g p _ n c l _ _ (h.keep (zQ.al _ _)) hp hi hl hl2 (by omega)).mono ?_;rintro e w' ⟨v,h1,h2,h3,h4⟩;exact⟨v,h1,h2,h3,(zQ.to (zQ.al _ _)).trans h4⟩
theorem Bj(a:Option Addr)(len cap:Nat)(z:Nat→Int)(w:World)(h:Byt w a len z)(hlc:len≤cap)(hl:len≤1048576):
  Calls Tryz.prog 69 #[.slice a len cap] w fun e w'=>∃g,w.heap.size≤g∧e=.returned (.pointer (some ⟨g,0,none⟩))∧Rdx w' w'.heap.size g 0∧zQ w w':=by
 refine(Ux a len cap z w h hlc hl).mono ?_;rintro e w' ⟨g,h1,rfl,h3,h4⟩;have hg:=h3.lt;refine⟨g,h1,rfl,?_,h4⟩;obtain⟨a',len',cap',z',hg',hl',hb,hne,hp0⟩:=h3;refine⟨a',len',cap',z',hg',hl',hb,fun x hx h0=>⟨hne x hx h0,?_⟩,hp0,hg⟩;obtain⟨x',e,hxb,_⟩:=hb h0;rw[hx]at e;injection e with e
 subst e;exact hxb
theorem gz{xs:List Int}{i:Nat}(h:i<xs.length):iAt xs i=xs[i]:=by simp[iAt,List.getElem?_eq_getElem h]
theorem Lj{xs:List (List Int)}{i:Nat}(h:i<xs.length):cAt xs i=xs[i]:=by simp[cAt,List.getElem?_eq_getElem h]
theorem M9{xs:List Int}{p:Int→Bool}:xs.all p=true↔∀i,i<xs.length→p (iAt xs i)=true:=by
 rw[List.all_eq_true];constructor
 ·intro h i hi;rw[gz hi];exact h _ (List.getElem_mem _)
 ·intro h x hx
  obtain⟨i,hi,rfl⟩:=List.getElem_of_mem hx;rw[←gz hi];exact h i hi
theorem LS{xs:List (List Int)}{p:List Int→Bool}:xs.all p=true↔∀i,i<xs.length→p (cAt xs i)=true:=by
 rw[List.all_eq_true];constructor
 ·intro h i hi;rw[Lj hi];exact h _ (List.getElem_mem _)
 ·intro h x hx
  obtain⟨i,hi,rfl⟩:=List.getElem_of_mem hx;rw[←Lj hi];exact h i hi
theorem J4{n:Nat}{p:Nat→Bool}:(List.range n).all p=true↔∀i,i<n→p i=true:=by
 simp[List.all_eq_true]
theorem XJ{xs:List Int}{p:Int→Bool}{i:Nat}(hi:i<xs.length)(h:p (iAt xs i)=false):xs.all p=false:=by
 cases hx:xs.all p
 ·rfl
 ·rw[M9]at hx;rw[hx i hi]at h;cases h
theorem YW{xs:List (List Int)}{p:List Int→Bool}{i:Nat}(hi:i<xs.length)(h:p (cAt xs i)=false):xs.all p=false:=by
 cases hx:xs.all p
 ·rfl
 ·rw[LS]at hx;rw[hx i hi]at h;cases h
theorem jQ{n:Nat}{p:Nat→Bool}{i:Nat}(hi:i<n)(h:p i=false):(List.range n).all p=false:=by
 cases hx:(List.range n).all p
 ·rfl
 ·rw[J4]at hx;rw[hx i hi]at h;cases h
def isT(n:Nat)(t:Int):Bool:=decide (0≤t∧t≤(n:Int))
def j8(n:Nat)(xs:List Int):Bool:=xs.all (isT n)
def gX(n:Nat)(c:List Int):Bool:=decide (c.length≤3) && j8 n c
def yD(d e:zG):Bool:=decide (d.cons.length=0) && decide (d.from_=e.from_) && decide (d.to_=e.to_)
def yY(ds:List zG)(k:Nat):Bool:=
 if 0<(dAt ds k).cons.length then decide ((dAt ds k).cons.length≤3∧(dAt ds k).from_=0∧(dAt ds k).to_=0) && (dAt ds k).cons.all (gX ds.length)
 else isT ds.length (dAt ds k).from_ && isT ds.length (dAt ds k).to_ && (List.range k).all fun i=> !yD (dAt ds i) (dAt ds k)
def qU(ds:List zG):Bool:=decide (ds.length≤4) && (List.range ds.length).all (yY ds)
section
variable {S D D':Nat→Prop}{w w':World}{b N:Nat}{T:TypeId}{f:Nat→Value}
theorem zX(h:w.rowIs b T N f)(hx:Ext S w w')(hs:¬S b):w'.rowIs b T N f:=h.of_block (hx.block b h.lt hs)
end
theorem rwk{w w':World}{b N:Nat}{T:TypeId}{f:Nat→Value}(h:w.rowIs b T N f)(hx:zQ w w'):w'.rowIs b T N f:=h.of_block (hx.block b h.lt (fun h=>h))
def C2(w:World)(b:Nat)(v1 v2:Value):Prop:=w.cell? ⟨b,0,none⟩=some v1∧w.cell? ⟨b,1,none⟩=some v2
theorem rc2{w:World}{b N:Nat}{t:TypeId}{f:Nat→Value}(h:w.rowIs b t N f)(hN:1<N):C2 w b (f 0) (f 1):=⟨h.cell (i:=0) (by omega),h.cell (i:=1) (by omega)⟩
def C3(w:World)(b:Nat)(v1 v2 v3:Value):Prop:=w.cell? ⟨b,0,none⟩=some v1∧w.cell? ⟨b,1,none⟩=some v2∧w.cell? ⟨b,2,none⟩=some v3
theorem rc3{w:World}{b N:Nat}{t:TypeId}{f:Nat→Value}(h:w.rowIs b t N f)(hN:2<N):C3 w b (f 0) (f 1) (f 2):=⟨h.cell (i:=0) (by omega),h.cell (i:=1) (by omega),h.cell (i:=2) (by omega)⟩
def C4(w:World)(b:Nat)(v1 v2 v3 v4:Value):Prop:=w.cell? ⟨b,0,none⟩=some v1∧w.cell? ⟨b,1,none⟩=some v2∧w.cell? ⟨b,2,none⟩=some v3∧w.cell? ⟨b,3,none⟩=some v4
theorem rc4{w:World}{b N:Nat}{t:TypeId}{f:Nat→Value}(h:w.rowIs b t N f)(hN:3<N):C4 w b (f 0) (f 1) (f 2) (f 3):=⟨h.cell (i:=0) (by omega),h.cell (i:=1) (by omega),h.cell (i:=2) (by omega),h.cell (i:=3) (by omega)⟩
def C5(w:World)(b:Nat)(v1 v2 v3 v4 v5:Value):Prop:=w.cell? ⟨b,0,none⟩=some v1∧w.cell? ⟨b,1,none⟩=some v2∧w.cell? ⟨b,2,none⟩=some v3∧w.cell? ⟨b,3,none⟩=some v4∧w.cell? ⟨b,4,none⟩=some v5
theorem rc5{w:World}{b N:Nat}{t:TypeId}{f:Nat→Value}(h:w.rowIs b t N f)(hN:4<N):C5 w b (f 0) (f 1) (f 2) (f 3) (f 4):=⟨h.cell (i:=0) (by omega),h.cell (i:=1) (by omega),h.cell (i:=2) (by omega),h.cell (i:=3) (by omega),h.cell (i:=4) (by omega)⟩
def C6(w:World)(b:Nat)(v1 v2 v3 v4 v5 v6:Value):Prop:=w.cell? ⟨b,0,none⟩=some v1∧w.cell? ⟨b,1,none⟩=some v2∧w.cell? ⟨b,2,none⟩=some v3∧w.cell? ⟨b,3,none⟩=some v4∧w.cell? ⟨b,4,none⟩=some v5∧w.cell? ⟨b,5,none⟩=some v6
theorem rc6{w:World}{b N:Nat}{t:TypeId}{f:Nat→Value}(h:w.rowIs b t N f)(hN:5<N):C6 w b (f 0) (f 1) (f 2) (f 3) (f 4) (f 5):=⟨h.cell (i:=0) (by omega),h.cell (i:=1) (by omega),h.cell (i:=2) (by omega),h.cell (i:=3) (by omega),h.cell (i:=4) (by omega),h.cell (i:=5) (by omega)⟩
theorem ZV{P:Program}(w:World){ops:Array Oper}{rest:List Oper}{o:Oper}{a:Act}{Q:Exit→Act→World→Prop}
  (hg:o.guard=none) (l c:Operand) (t:TypeId) (hop:o.op=Op.makeSlice t l c)
  (e:TypeId) (z:Value) (zs:Array Value) (s bytes:Nat) (h1:P.underlying t=some (.slice e)) (hinfo:(P.info? e).map (fun i=>(i.zero,i.size,i.bytes))=some (some z,s,bytes)) (hzs:z.cells=zs) (hsz:zs.size=s)
  (n:Nat) (hl:a.eval l=.int .i64 (n:Int)) (hc:a.eval c=.int .i64 (n:Int)) (b2:bytes*n≤281474976710656) (b3:n≤9223372036854775807)
  (hK:∀w',w'.rowIs w.heap.size e (n*s) (fun i=>zs.getD (i % s) undef)→zQ w w'→w'.heap.size=w.heap.size+1→wpList P ops Q rest (a.put o.dst (.slice (some ⟨w.heap.size,0,none⟩) n n)) w'):
  wpList P ops Q (o::rest) a w:=by
 refine wpList_plain hg fun K hK'=>?_;obtain⟨i,hi,hzz⟩:=Option.map_eq_some_iff.1 hinfo;simp only[Prod.mk.injEq]at hzz;obtain⟨hz,hs,hb⟩:=hzz;have hb':(i.bytes:Int)*(n:Int)≤281474976710656:=by
  have h:((bytes*n:Nat):Int)≤281474976710656:=by omega
  rw[Int.natCast_mul]at h;rw[hb];exact h
 have hrun:=run_make (P:=P) w t e i z h1 hi hz .i64 .i64 n n (by omega) (Int.le_refl _) hb' (by omega);simp only[Int.toNat_natCast,hs,hzs]at hrun;unfold Oper.wp;simp[execOp,hop,hl,hc,hrun,Result.andThen];refine hK' _ _ (hK _ ?_ ((Ext.refl _ w).alloc _) (by simp));refine⟨_,heap_alloc_new w _,size_madeCells _ _,fun j hj=>?_⟩;have hs0:0<s:=by
  rcases Nat.eq_zero_or_pos s with h|h
  ·rw[h]at hj;omega
  ·exact h
 have hjs:j % s<zs.size:=by rw[hsz];exact Nat.mod_lt _ hs0
 have e1:zs[j % s]! =zs.getD (j % s) undef:=by
  rw[getElem!_pos zs (j % s) hjs];simp[Array.getD,hjs]
 simp only[madeCells,hsz];rw[Array.getElem?_map,Array.getElem?_range];simp only[hj,if_true,Option.map_some];rw[e1]
def jB(w:World)(D:Nat→Prop)(a:Option Addr)(n:Nat)(xs:List Int):Prop:=
 xs.length=n∧(0<n→∃b N f,a=some ⟨b,0,none⟩∧D b∧n≤N∧w.rowIs b 3 N f∧∀i,i<n→f i=.int .i64 (iAt xs i))
def gD(w:World)(D:Nat→Prop)(a:Option Addr)(n:Nat)(cs:List (List Int)):Prop:=
 cs.length=n∧(0<n→∃b N f,a=some ⟨b,0,none⟩∧D b∧n≤N∧w.rowIs b 155 N f∧∀i,i<n→∃a' m c,f i=.slice a' m c∧m≤c∧jB w D a' m (cAt cs i))
def vU(w:World)(D:Nat→Prop)(a:Option Addr)(n:Nat)(ds:List zG):Prop:=
 ds.length=n∧(0<n→∃b N f,a=some ⟨b,0,none⟩∧D b∧n*3≤N∧w.rowIs b 125 N f∧∀i,i<n→f (i*3)=.int .i64 (dAt ds i).from_∧f (i*3+1)=.int .i64 (dAt ds i).to_∧
  ∃a' m c,f (i*3+2)=.slice a' m c∧m≤c∧gD w D a' m (dAt ds i).cons)
section
variable {S D D':Nat→Prop}{w w':World}{a:Option Addr}{n:Nat}
theorem jB.ext{xs:List Int}(h:jB w D a n xs)(hx:Ext S w w')(hs:∀k,D k→¬S k):jB w' D a n xs:=by
 refine⟨h.1,fun hn=>?_⟩;obtain⟨b,N,f,rfl,hd,hN,hr,hc⟩:=h.2 hn;exact⟨b,N,f,rfl,hd,hN,zX hr hx (hs _ hd),hc⟩
theorem jB.mono{xs:List Int}(h:jB w D a n xs)(hs:∀k,D k→D' k):jB w D' a n xs:=by
 refine⟨h.1,fun hn=>?_⟩;obtain⟨b,N,f,rfl,hd,hN,hr,hc⟩:=h.2 hn;exact⟨b,N,f,rfl,hs _ hd,hN,hr,hc⟩
theorem jB.read{xs:List Int}(h:jB w D a n xs):qN w D a n xs:=by
 refine⟨h.1,fun hn=>?_⟩;obtain⟨b,N,f,rfl,hd,hN,hr,hc⟩:=h.2 hn;exact⟨b,0,rfl,hd,fun i hi=>by rw[Nat.zero_add,hr.cell (by omega),hc i hi]⟩
theorem gD.ext{cs:List (List Int)}(h:gD w D a n cs)(hx:Ext S w w')(hs:∀k,D k→¬S k):gD w' D a n cs:=by
 refine⟨h.1,fun hn=>?_⟩;obtain⟨b,N,f,rfl,hd,hN,hr,hc⟩:=h.2 hn;refine⟨b,N,f,rfl,hd,hN,zX hr hx (hs _ hd),fun i hi=>?_⟩;obtain⟨a',m,c,h1,h2,h3⟩:=hc i hi;exact⟨a',m,c,h1,h2,h3.ext hx hs⟩
theorem gD.mono{cs:List (List Int)}(h:gD w D a n cs)(hs:∀k,D k→D' k):gD w D' a n cs:=by
 refine⟨h.1,fun hn=>?_⟩;obtain⟨b,N,f,rfl,hd,hN,hr,hc⟩:=h.2 hn;refine⟨b,N,f,rfl,hs _ hd,hN,hr,fun i hi=>?_⟩;obtain⟨a',m,c,h1,h2,h3⟩:=hc i hi;exact⟨a',m,c,h1,h2,h3.mono hs⟩
theorem gD.read{cs:List (List Int)}(h:gD w D a n cs):ZP w D a n cs:=by
 refine⟨h.1,fun hn=>?_⟩;obtain⟨b,N,f,rfl,hd,hN,hr,hc⟩:=h.2 hn;refine⟨b,0,rfl,hd,fun i hi=>?_⟩;obtain⟨a',m,c,h1,h2,h3⟩:=hc i hi;exact⟨a',m,c,by rw[Nat.zero_add,hr.cell (by omega),h1],h2,h3.read⟩
theorem vU.ext{ds:List zG}(h:vU w D a n ds)(hx:Ext S w w')(hs:∀k,D k→¬S k):vU w' D a n ds:=by
 refine⟨h.1,fun hn=>?_⟩;obtain⟨b,N,f,rfl,hd,hN,hr,hc⟩:=h.2 hn;refine⟨b,N,f,rfl,hd,hN,zX hr hx (hs _ hd),fun i hi=>?_⟩;obtain⟨h0,h1,a',m,c,h2,h3,h4⟩:=hc i hi;exact⟨h0,h1,a',m,c,h2,h3,h4.ext hx hs⟩
theorem vU.mono{ds:List zG}(h:vU w D a n ds)(hs:∀k,D k→D' k):vU w D' a n ds:=by
 refine⟨h.1,fun hn=>?_⟩;obtain⟨b,N,f,rfl,hd,hN,hr,hc⟩:=h.2 hn;refine⟨b,N,f,rfl,hs _ hd,hN,hr,fun i hi=>?_⟩;obtain⟨h0,h1,a',m,c,h2,h3,h4⟩:=hc i hi;exact⟨h0,h1,a',m,c,h2,h3,h4.mono hs⟩
theorem vU.read{ds:List zG}(h:vU w D a n ds):qy w D a n ds:=by
 refine⟨h.1,fun hn=>?_⟩;obtain⟨b,N,f,rfl,hd,hN,hr,hc⟩:=h.2 hn;refine⟨b,0,rfl,hd,fun i hi=>?_⟩;obtain⟨h0,h1,a',m,c,h2,h3,h4⟩:=hc i hi;exact⟨by rw[Nat.zero_add,hr.cell (by omega),h0],by rw[Nat.zero_add,hr.cell (by omega),h1],a',m,c,by rw[Nat.zero_add,hr.cell (by omega),h2],h3,h4.read⟩
end
def Vv(w:World)(s:Nat)(A:Option Addr)(m:Nat)(xs:List Value):Prop:=
 xs.length=m*s∧(0<m→∃b o,A=some ⟨b,o,none⟩∧∀j u,xs[j]?=some u→w.cell? ⟨b,o+j,none⟩=some u)
section
variable {P:Program}(w:World)
theorem J3(base:Nat)(t ty e:TypeId)(i:TypeInfo)(size:Nat)(ht:P.underlying t=some (.slice e))(hi:P.info? e=some i)
  (v:Value) (n:Nat) (xs:List Value) (hown:w.ownsRow base e size v n xs) (c:Nat):(Builtin.append_ #[t,t] ty #[v,.slice none 0 c]).run P w=.ok v w:=by
 rcases hown.2 with ⟨rfl,rfl⟩|⟨g,cap,cur,rfl,_,_,hnc,_⟩
 ·simp[Builtin.append_,run_underlying ht,sizeOf,typeInfo,hi,Builtin.lenOf,Builtin.firstCells]
 ·simp[Builtin.append_,run_underlying ht,sizeOf,typeInfo,hi,Builtin.lenOf,Builtin.firstCells,hnc,storeCells]
theorem gL(base:Nat)(t ty e:TypeId)(i:TypeInfo)(z:Value)(size bytes:Nat)(ht:P.underlying t=some (.slice e))(hi:P.info? e=some i)(hz:i.zero=some z)
  (hsize:i.size=size) (hby:i.bytes=bytes) (hzs:z.cells.size=size) (hsz:0<size)
  (v:Value) (n:Nat) (xs:List Value) (hown:w.ownsRow base e size v n xs)
  (A:Option Addr) (m c:Nat) (news:List Value) (hr:Vv w size A m news) (h1:∀u∈news,u.oneCell'=true)
  (h63:n+m≤maxLen) (hbytes:(n+m)*bytes≤140737488355328) (hbase:base≤w.heap.size):
  ∃v' w',(Builtin.append_ #[t,t] ty #[v,.slice A m c]).run P w=.ok v' w'∧w'.ownsRow base e size v' (n+m) (xs++news)∧w.grownBy w' v.ownBlock∧
   (v'.ownBlock=v.ownBlock∨v'.ownBlock=some w.heap.size):=by
 rcases A with _|ad
 ·have hm:m=0:=by
   rcases Nat.eq_zero_or_pos m with h0|h0
   ·exact h0
   ·obtain⟨b,o,h,_⟩:=hr.2 h0
    cases h
  subst hm;have hn:news= []:=List.eq_nil_of_length_eq_zero (by simpa using hr.1);subst hn;exact⟨v,w,J3 w base t ty e i size ht hi v n xs hown c,by simpa using hown,World.grownBy.refl w _,.inl rfl⟩
 ·have hcells:∀j u,news[j]?=some u→w.cell? (ad.add j)=some u:=by
   intro j u hu;rcases Nat.eq_zero_or_pos m with h0|h0
   ·subst h0
    have hn:news= []:=List.eq_nil_of_length_eq_zero (by simpa using hr.1);subst hn;simp at hu
   ·obtain⟨b,o,h,hc⟩:=hr.2 h0
    injection h with h
    subst h;rw[Addr.add_lit];exact hc j u hu
  obtain⟨v',w',hrun,h2,h3,_,h5⟩:=run_append_own_at (P:=P) w base t ty e i z size bytes ht hi hz hsize hby hzs hsz v n xs hown ad m c news hr.1 hcells h1 h63 hbytes hbase;exact⟨v',w',hrun,h2,h3,h5⟩
theorem gA{ops:Array Oper}{rest:List Oper}{o:Oper}{a:Act}{Q:Exit→Act→World→Prop}(hgd:o.guard=none)(s x:Operand)(t:TypeId)
  (ho:o.op=.call {callee:=.builtin .append,args:= #[s,x],argTypes:= #[t,t]})
  (base:Nat) (e:TypeId) (z:Value) (size bytes:Nat) (ht:P.underlying t=some (.slice e)) (hinfo:(P.info? e).map (fun i=>(i.zero,i.size,i.bytes))=some (some z,size,bytes))
  (hzs:z.cells.size=size) (hsz:0<size)
  (v:Value) (n:Nat) (xs:List Value) (hs:a.eval s=v) (hown:w.ownsRow base e size v n xs)
  (A:Option Addr) (m c:Nat) (news:List Value) (hx:a.eval x=.slice A m c) (hr:Vv w size A m news) (h1:∀u∈news,u.oneCell'=true)
  (hbytes:(n+m)*bytes≤140737488355328) (h63:n+m≤9223372036854775807) (hbase:base≤w.heap.size)
  (h:∀v' w',w'.ownsRow base e size v' (n+m) (xs++news)→w.grownBy w' v.ownBlock→(v'.ownBlock=v.ownBlock∨v'.ownBlock=some w.heap.size)→wpList P ops Q rest (a.put o.dst v') w'):wpList P ops Q (o::rest) a w:=by
 obtain⟨i,hi,hzz⟩:=Option.map_eq_some_iff.1 hinfo;simp only[Prod.mk.injEq]at hzz;obtain⟨hz,hsize,hby⟩:=hzz;refine wpList_plain hgd fun K hK=>?_;obtain⟨v',w',hrun,h2,h3,h4⟩:=gL (P:=P) w base t o.type e i z size bytes ht hi hz hsize hby hzs hsz v n xs hown A m c news hr h1 (by simp only[maxLen];omega) hbytes hbase;unfold Oper.wp execOp;simp only[ho,resolve,invoke,builtin,Sem.run_bind,Sem.run_pure,Result.andThen_ok,List.map_toArray,List.map_cons,List.map_nil,hs,hx,hrun];exact hK _ _ (h v' w' h2 h3 h4)
end
theorem yv(w:World){ops:Array Oper}{rest:List Oper}{o:Oper}{a:Act}{Q:Exit→Act→World→Prop}(hgd:o.guard=none)(s x:Operand)
  (ho:o.op=.call {callee:=.builtin .append,args:= #[s,x],argTypes:= #[52,52]})
  (base:Nat) (v:Value) (n:Nat) (xs:List Int) (hs:a.eval s=v) (hown:w.ownsRow base 3 1 v n (xs.map (Value.int .i64)))
  (g c:Nat) (y:Int) (hx:a.eval x=.slice (some ⟨g,0,none⟩) 1 c) (hc:w.cell? ⟨g,0,none⟩=some (.int .i64 y)) (hn:n≤1099511627776) (hbase:base≤w.heap.size)
  (h:∀v' w',w'.ownsRow base 3 1 v' (n+1) ((xs++ [y]).map (Value.int .i64))→w.grownBy w' v.ownBlock→wpList Tryz.prog ops Q rest (a.put o.dst v') w'):wpList Tryz.prog ops Q (o::rest) a w:=by
 refine gA w hgd s x 52 ho base 3 (.int .i64 0) 1 8 Tryz.underlying52 (by kernel_rfl) rfl (by omega) v n _ hs hown (some ⟨g,0,none⟩) 1 c [.int .i64 y] hx ⟨rfl,fun _=>⟨g,0,rfl,fun j u hj=>?_⟩⟩ (by simp[Value.oneCell']) (by omega) (by omega) hbase
  (fun v' w' h1 h2 _=>h v' w' (by simpa using h1) h2)
 rcases j with _|j
 ·simp at hj;subst hj;simpa using hc
 ·simp at hj
theorem xY(w:World){ops:Array Oper}{rest:List Oper}{o:Oper}{a:Act}{Q:Exit→Act→World→Prop}(hgd:o.guard=none)(s x:Operand)
  (ho:o.op=.call {callee:=.builtin .append,args:= #[s,x],argTypes:= #[52,52]})
  (base:Nat) (v:Value) (n:Nat) (xs:List Int) (hs:a.eval s=v) (hown:w.ownsRow base 3 1 v n (xs.map (Value.int .i64)))
  (A:Option Addr) (m c:Nat) (ys:List Int) (D:Nat→Prop) (hx:a.eval x=.slice A m c) (hr:qN w D A m ys) (hn:n+m≤1099511627776) (hbase:base≤w.heap.size)
  (h:∀v' w',w'.ownsRow base 3 1 v' (n+m) ((xs++ys).map (Value.int .i64))→w.grownBy w' v.ownBlock→wpList Tryz.prog ops Q rest (a.put o.dst v') w'):wpList Tryz.prog ops Q (o::rest) a w:=by
 refine gA w hgd s x 52 ho base 3 (.int .i64 0) 1 8 Tryz.underlying52 (by kernel_rfl) rfl (by omega) v n _ hs hown A m c (ys.map (Value.int .i64)) hx ⟨by simp[hr.1],fun hm=>?_⟩ (by simp[Value.oneCell']) (by omega) (by omega) hbase
  (fun v' w' h1 h2 _=>h v' w' (by simpa using h1) h2)
 obtain⟨b,o,rfl,_,hc⟩:=hr.2 hm;refine⟨b,o,rfl,fun j u hj=>?_⟩;have hjl:j<ys.length:=by
  rcases Nat.lt_or_ge j ys.length with h|h
  ·exact h
  ·rw[List.getElem?_eq_none (by simpa using h)]at hj;cases hj
 rw[hc j (by have:=hr.1;omega),gz hjl];simpa [List.getElem?_eq_getElem hjl]using hj
theorem jV{w:World}{base:Nat}{v:Value}{n:Nat}{xs:List Int}(h:w.ownsRow base 3 1 v n (xs.map (Value.int .i64))):
  ∃a c,v=.slice a n c∧n≤c∧jB w (fun k=>base≤k) a n xs:=by
 have hl:xs.length=n:=by simpa using h.1
 rcases h.2 with ⟨rfl,rfl⟩|⟨g,cap,cur,rfl,hb,hg,hnc,_,hsz,htake⟩
 ·exact⟨none,0,rfl,Nat.le_refl _,hl,fun h=>absurd h (by omega)⟩
 ·refine⟨_,cap,rfl,hnc,hl,fun hn=>⟨g,cap,fun i=>cur.getD i undef,rfl,hb,hnc,⟨cur,hg,by omega,fun i hi=>?_⟩,fun i hi=>?_⟩⟩
  ·simp[Array.getD,show i<cur.size by omega]
  ·have h1:(cur.toList.take (n*1))[i]?=(xs.map (Value.int .i64))[i]?:=by rw[htake]
   rw[List.getElem?_take,if_pos (by omega),List.getElem?_map,List.getElem?_eq_getElem (show i<xs.length by omega)]at h1;rw[gz (by omega)];have h2:i<cur.size:=by omega
   rw[Array.getElem?_toList,Array.getElem?_eq_getElem h2]at h1;simp[Array.getD,h2];simpa using h1
theorem gE(w:World):(w.alloc (.cells #[] 3)).ownsRow w.heap.size 3 1 (.slice (some ⟨w.heap.size,0,none⟩) 0 0) 0 (([]:List Int).map (Value.int .i64)):=
 World.ownsRow_made w #[] 0 (Nat.le_refl _) (by simp[maxLen]) rfl
theorem Rd.one{w:World}{D:Nat→Prop}{d:Dat}{v:Value}(h:Rd w D d v):v.oneCell'=true:=by cases h<;>rfl
theorem Rd.holds{w:World}{D:Nat→Prop}{s:Nat}{rs:List (List Dat)}{A:Option Addr}{m c:Nat}(h:Rd w D (.arr s rs) (.slice A m c))(hs0:0<s):
  ∃news,Vv w s A m news∧(∀u∈news,u.oneCell'=true)∧(∀i,i<rs.length→(qC rs i).length=s)∧∀i j,i<rs.length→j<s→∃u,news[i*s+j]?=some u∧Rd w D (rAt rs i j) u:=by
 cases h with
 |nil=>exact⟨[],⟨by simp,fun h=>absurd h (by omega)⟩,by simp,by simp,by simp⟩
 |arr s rows b o c vs hD h0 hs0' hc hm hs hcell hr=>
  have hget:∀k,k<rs.length*s→((List.range (rs.length*s)).map fun k=>vs (k / s) (k % s))[k]?=some (vs (k / s) (k % s)):=by
   intro k hk;rw[List.getElem?_map,List.getElem?_range hk];rfl
  have hq:∀k,k<rs.length*s→k / s<rs.length∧k % s<s∧k / s*s+k % s=k:=by
   intro k hk;refine⟨(Nat.div_lt_iff_lt_mul hs0).2 hk,Nat.mod_lt _ hs0,?_⟩;rw[Nat.mul_comm];exact Nat.div_add_mod k s
  refine⟨(List.range (rs.length*s)).map fun k=>vs (k / s) (k % s),⟨by simp,fun _=>⟨b,o,rfl,fun k u hk=>?_⟩⟩,?_,hs,fun i j hi hj=>?_⟩
  ·have hlt:k<rs.length*s:=by
    rcases Nat.lt_or_ge k (rs.length*s)with h|h
    ·exact h
    ·rw[List.getElem?_eq_none (by simpa using h)]at hk;cases hk
   rw[hget k hlt]at hk;injection hk with hk
   subst hk;obtain⟨q1,q2,q3⟩:=hq k hlt;have:=hcell (k / s) (k % s) q1 q2;rw[Nat.add_assoc,q3]at this;exact this
  ·intro u hu
   obtain⟨k,hk,rfl⟩:=List.mem_map.1 hu;obtain⟨q1,q2,_⟩:=hq k (by simpa using hk);exact(hr _ _ q1 q2).one
  ·have hlt:=qP hi hj
   have h1:(i*s+j) / s=i:=by rw[Nat.mul_comm,Nat.mul_add_div (by omega),Nat.div_eq_of_lt hj,Nat.add_zero]
   have h2:(i*s+j) % s=j:=by rw[Nat.mul_comm,Nat.mul_add_mod,Nat.mod_eq_of_lt hj]
   have:=hget _ hlt;rw[h1,h2]at this;exact⟨_,this,hr i j hi hj⟩
theorem zq.bound{w:World}{base:Nat}{D:Nat→Prop}{T:TypeId}{s:Nat}{v:Value}{rows:List (List Dat)}(h:zq w base D T s v rows):∀k,v.ownBlock=some k→base≤k∧k<w.heap.size:=by
 obtain⟨xs,h1,_⟩:=h;exact h1.lt
theorem yz{P:Program}(w:World){ops:Array Oper}{rest:List Oper}{o:Oper}{a:Act}{Q:Exit→Act→World→Prop}(hgd:o.guard=none)(s x:Operand)(t:TypeId)
  (ho:o.op=.call {callee:=.builtin .append,args:= #[s,x],argTypes:= #[t,t]})
  (base:Nat) (e:TypeId) (z:Value) (size bytes:Nat) (ht:P.underlying t=some (.slice e)) (hinfo:(P.info? e).map (fun i=>(i.zero,i.size,i.bytes))=some (some z,size,bytes))
  (hzs:z.cells.size=size) (hsz:0<size)
  (D:Nat→Prop) (v:Value) (rows:List (List Dat)) (hs:a.eval s=v) (hacc:zq w base D e size v rows)
  (A:Option Addr) (m c:Nat) (rs:List (List Dat)) (D2:Nat→Prop) (hx:a.eval x=.slice A m c) (hr:Rd w D2 (.arr size rs) (.slice A m c)) (hD2:∀k,k<w.heap.size→D2 k→D k∧v.ownBlock≠some k)
  (hbytes:(rows.length+m)*bytes≤140737488355328) (h63:rows.length+m≤9223372036854775807) (hbase:base≤w.heap.size)
  (h:∀v' w',zq w' base D e size v' (rows++rs)→Ext (fun k=>base≤k) w w'→w.heap.size≤w'.heap.size→wpList P ops Q rest (a.put o.dst v') w'):wpList P ops Q (o::rest) a w:=by
 have hr':=hr.lt;obtain⟨news,n1,n2,n3,n4⟩:=hr'.holds hsz;have hm:m=rs.length:=by obtain⟨a',c',e,_⟩:=hr.arr_inv;injection e
 obtain⟨xs,h1,_,_⟩:=id hacc;refine gA w hgd s x t ho base e z size bytes ht hinfo hzs hsz v rows.length xs hs h1 A m c news hx n1 n2 hbytes h63 hbase (fun v' w' q1 q2 q3=>?_);refine h v' w' ?_ ⟨q2.os,q2.tape,q2.output,q2.size,fun k hk hn=>q2.block k hk (fun e=>hn (h1.lt k e.symm).1)⟩ q2.size;refine hacc.push (rs:=rs) (news:=news) n3 (fun i j hi hj=>?_) (fun xs' hxs'=>?_) q2 q3
 ·obtain⟨u,hu,hu2⟩:=n4 i j hi hj
  exact⟨u,hu,hu2.mono (fun k hk=>hD2 k hk.2 hk.1)⟩
 ·have:xs'=xs:=by
   rcases hxs'.2 with ⟨e1,e2⟩|⟨g,cap,cur,e1,_,hg,_,_,_,htake⟩
   ·have l1:=hxs'.1
    have l2:=h1.1;rw[e2,Nat.zero_mul]at l1 l2;rw[List.eq_nil_of_length_eq_zero l1,List.eq_nil_of_length_eq_zero l2]
   ·rcases h1.2 with ⟨f1,f2⟩|⟨g',cap',cur',f1,_,hg',_,_,_,htake'⟩
    ·have l1:=hxs'.1
     have l2:=h1.1;rw[f2,Nat.zero_mul]at l1 l2;rw[List.eq_nil_of_length_eq_zero l1,List.eq_nil_of_length_eq_zero l2]
    ·rw[e1]at f1
     injection f1 with f1
     injection f1 with f1
     injection f1 with f1
     subst f1;rw[hg]at hg';injection hg' with hg'
     injection hg' with hg'
     rw[←htake,←htake',hg']
  subst this;rw[←hm];exact q1
theorem qQ(n lo hi:Int)(w:World):
  Calls Tryz.prog 60 #[.int .i64 n,.int .i64 lo,.int .i64 hi] w fun e w'=>e=.returned (.bool (decide (lo≤n∧n≤hi)))∧w=w':=by
 by_cases h1:lo≤n;all_goals by_cases h2:n≤hi
 all_goals
  go_in;go_wp2;all_goals (go_ret;exact⟨by simp[*],rfl⟩)
theorem U6(a:Option Addr)(n c:Nat)(t:Int)(w:World):
  Calls Tryz.prog 160 #[.slice a n c,.int .i64 t] w fun e w'=>e=.returned (.bool (isT n t))∧w=w':=by
 refine zV fun Q hQ=>?_;by_cases h1:0≤t;all_goals by_cases h2:t≤n
 all_goals
  go_in;go_wp2;exact zB hQ ⟨by simp[isT, *],rfl⟩
theorem yQ(a:Option Addr)(n c:Nat)(t:Int)(w:World)(h:isT n t=true):
  Calls Tryz.prog 160 #[.slice a n c,.int .i64 t] w fun e w'=>e=.returned (.bool true)∧w=w':=by
 rw[←h];exact U6 a n c t w
theorem vP(a:Option Addr)(n c:Nat)(t:Int)(w:World)(h:isT n t=false):
  Calls Tryz.prog 160 #[.slice a n c,.int .i64 t] w fun e w'=>e=.returned (.bool false)∧w=w':=by
 rw[←h];exact U6 a n c t w
theorem xR(a:Option Addr)(n c:Nat)(a':Option Addr)(m c':Nat)(xs:List Int)(D:Nat→Prop)(w:World)(h:qN w D a' m xs)(hm:m≤1099511627776):
  Calls Tryz.prog 115 #[.slice a n c,.slice a' m c'] w fun e w'=>e=.returned (.bool (j8 n xs))∧w=w':=by
 refine zV fun Q hQ=>?_;go_in;go_wp2;go_loop [9] (fun i=>∃k:Nat,k≤m∧i=.int .i64 k∧Hid (∀j,j<k→isT n (iAt xs j)=true)) (fun i=>m-(intOf i).toNat)
 case atStart=>exact⟨0,Nat.zero_le _,rfl,fun j hj=>absurd hj (by omega)⟩
 case round=>
  obtain⟨k,hk,rfl,H⟩:=hrel;obtain⟨hlen,hcell⟩:=h;by_cases hlt:k<m
  ·obtain⟨b,o,rfl,hd,hc⟩:=hcell (by omega)
   have h1:=hc k hlt;clear hc hcell;cases hv:isT n (iAt xs k)
   ·have V:=LH hv
    go_wp2_with (go_at_call 160;refine(vP _ _ _ _ _ V.out).mono ?_;rintro e w1 ⟨rfl,rfl⟩);exact zB hQ ⟨qK (XJ (by omega) V.out).symm,rfl⟩
   ·have V:=LH hv
    go_wp2_with (go_at_call 160;refine(yQ _ _ _ _ _ V.out).mono ?_;rintro e w1 ⟨rfl,rfl⟩);go_round
    case rel=>exact⟨k+1,by omega,by go_num,fun j hj=>by rcases Nat.lt_succ_iff_lt_or_eq.1 hj with h|rfl;exact H.out j h;exact V.out⟩
    case measure=>simp[intOf];omega
  ·go_wp2
   exact zB hQ ⟨qK (M9.2 (fun j hj=>H.out j (by omega))).symm,rfl⟩
theorem xT(a:Option Addr)(n c:Nat)(a':Option Addr)(m c':Nat)(xs:List Int)(D:Nat→Prop)(w:World)(h:qN w D a' m xs)(hm:m≤1099511627776):
  Calls Tryz.prog 143 #[.slice a n c,.slice a' m c'] w fun e w'=>e=.returned (.bool (j8 n xs))∧w=w':=by
 refine zV fun Q hQ=>?_;go_in;go_wp2;go_loop [5] (fun i=>∃k:Nat,k≤m∧i=.int .i64 k∧Hid (∀j,j<k→isT n (iAt xs j)=true)) (fun i=>m-(intOf i).toNat)
 case atStart=>exact⟨0,Nat.zero_le _,rfl,fun j hj=>absurd hj (by omega)⟩
 case round=>
  obtain⟨k,hk,rfl,H⟩:=hrel;obtain⟨hlen,hcell⟩:=h;by_cases hlt:k<m
  ·obtain⟨b,o,rfl,hd,hc⟩:=hcell (by omega)
   have h1:=hc k hlt;clear hc hcell;cases hv:isT n (iAt xs k)
   ·have hv':decide (0≤iAt xs k∧iAt xs k≤(n:Int))=false:=hv
    have V:=LH hv;clear hv;go_wp2_with (go_at_call 60;refine(qQ _ _ _ _).mono ?_;rintro e w1 ⟨rfl,rfl⟩);exact zB hQ ⟨qK (XJ (by omega) V.out).symm,rfl⟩
   ·have hv':decide (0≤iAt xs k∧iAt xs k≤(n:Int))=true:=hv
    have V:=LH hv;clear hv;go_wp2_with (go_at_call 60;refine(qQ _ _ _ _).mono ?_;rintro e w1 ⟨rfl,rfl⟩);go_round
    case rel=>exact⟨k+1,by omega,by go_num,fun j hj=>by rcases Nat.lt_succ_iff_lt_or_eq.1 hj with h|rfl;exact H.out j h;exact V.out⟩
    case measure=>simp[intOf];omega
  ·go_wp2
   exact zB hQ ⟨qK (M9.2 (fun j hj=>H.out j (by omega))).symm,rfl⟩
theorem Wj{n:Nat}{c:List Int}:gX n c=true↔c.length≤3∧j8 n c=true:=by simp[gX]
theorem Qq(a:Option Addr)(n c:Nat)(ds:List zG)(D:Nat→Prop)(k:Nat)(w:World)(h:qy w D a n ds)(hk:k<n)(hn:n≤1099511627776):
  Calls Tryz.prog 195 #[.slice a n c,.int .i64 k] w fun e w'=>e=.returned (.bool (yY ds k))∧zQ w w':=by
 refine zV fun Q hQ=>?_;obtain⟨hlen,hcell⟩:=h;obtain⟨b,o,rfl,hd,hc⟩:=hcell (by omega);obtain⟨c0,c1,a',m,c',c2,hmc,hcons⟩:=hc k hk;have hml:=hcons.1;have hK:zQ w (w.alloc (.cells #[.int .i64 (dAt ds k).from_,.int .i64 (dAt ds k).to_,.slice a' m c'] 125)):=(Ext.refl _ w).alloc _;by_cases hm:0<m
 ·by_cases h1:m≤3
  ·by_cases h2:(dAt ds k).from_=0
   ·by_cases h3:(dAt ds k).to_=0
    ·have hfin:Hid (yY ds k=(dAt ds k).cons.all (gX n)):=by
      show _=_;unfold yY;rw[if_pos (by omega),hlen];simp[h2,h3,hml,h1]
     have hcons1:=hcons.ext hK (fun _ _ h=>h);rw[h2,h3]at hcons1 hK;rw[h2]at c0;rw[h3]at c1;clear hc hcell hcons;go_in;go_wp2;go_loop [6] (fun i=>∃j:Nat,j≤m∧i=.int .i64 j∧Hid (∀l,l<j→gX n (cAt (dAt ds k).cons l)=true)) (fun i=>m-(intOf i).toNat)
     case atStart=>exact⟨0,Nat.zero_le _,rfl,fun j hj=>absurd hj (by omega)⟩
     case round=>
      obtain⟨j,hj,rfl,H⟩:=hrel;obtain⟨_,hcell⟩:=hcons1;by_cases hlt:j<m
      ·obtain⟨b1,o1,rfl,hd1,hc1⟩:=hcell (by omega)
       obtain⟨a2,m2,c2',x0,hmc2,hints⟩:=hc1 j hlt;have hl2:=hints.1;clear hc1 hcell;by_cases g1:m2≤3
       ·cases hv:j8 n (cAt (dAt ds k).cons j)
        ·have V:=LH hv
         go_wp2_with (go_at_call 143;refine(xT _ _ _ _ _ _ _ _ _ hints (by omega)).mono ?_;rw[V.out];rintro e w1 ⟨rfl,rfl⟩);exact zB hQ ⟨qK (by rw[hfin.out,YW (i:=j) (by omega) (by simp[gX,V.out])]),hK⟩
        ·have V:=LH hv
         go_wp2_with (go_at_call 143;refine(xT _ _ _ _ _ _ _ _ _ hints (by omega)).mono ?_;rw[V.out];rintro e w1 ⟨rfl,rfl⟩);go_round
         case rel=>exact⟨j+1,by omega,by go_num,fun l hl=>by
          rcases Nat.lt_succ_iff_lt_or_eq.1 hl with h|rfl
          ·exact H.out l h
          ·exact Wj.2 ⟨by omega,V.out⟩⟩
         case measure=>simp[intOf];omega
       ·go_wp2_with fail
        exact zB hQ ⟨qK (by rw[hfin.out,YW (i:=j) (by omega) (by simp[gX];omega)]),hK⟩
      ·go_wp2
       exact zB hQ ⟨qK (by rw[hfin.out];exact(LS.2 (fun l hl=>H.out l (by omega))).symm),hK⟩
    ·have hfin:Hid (yY ds k=false):=by
      show _=_;unfold yY;rw[if_pos (by omega)];simp[h3]
     have h3':((dAt ds k).to_ !=0)=true:=by simp[h3]
     have h2':((dAt ds k).from_ !=0)=false:=by simp[h2]
     clear hc hcell hcons h2 h3;go_in;go_wp2;exact zB hQ ⟨qK hfin.out.symm,hK⟩
   ·have hfin:Hid (yY ds k=false):=by
     show _=_;unfold yY;rw[if_pos (by omega)];simp[h2]
    have h2':((dAt ds k).from_ !=0)=true:=by simp[h2]
    clear hc hcell hcons h2;go_in;go_wp2;exact zB hQ ⟨qK hfin.out.symm,hK⟩
  ·have hfin:Hid (yY ds k=false):=by
    show _=_;unfold yY;rw[if_pos (by omega)];simp;omega
   clear hc hcell hcons;go_in;go_wp2;exact zB hQ ⟨qK hfin.out.symm,hK⟩
 ·have hm0:m=0:=by omega
  subst hm0;have hfin:Hid (yY ds k=(isT n (dAt ds k).from_ && isT n (dAt ds k).to_ && (List.range k).all fun i=> !yD (dAt ds i) (dAt ds k))):=by
   show _=_;unfold yY;rw[if_neg (by omega),hlen]
  have hc1:∀i,i<n→∃a2 m2 c2,(w.alloc (.cells #[.int .i64 (dAt ds k).from_,.int .i64 (dAt ds k).to_,.slice a' 0 c'] 125)).cell? ⟨b,o+i*3,none⟩=some (.int .i64 (dAt ds i).from_)∧
    (w.alloc (.cells #[.int .i64 (dAt ds k).from_,.int .i64 (dAt ds k).to_,.slice a' 0 c'] 125)).cell? ⟨b,o+i*3+1,none⟩=some (.int .i64 (dAt ds i).to_)∧
    (w.alloc (.cells #[.int .i64 (dAt ds k).from_,.int .i64 (dAt ds k).to_,.slice a' 0 c'] 125)).cell? ⟨b,o+i*3+2,none⟩=some (.slice a2 m2 c2)∧(dAt ds i).cons.length=m2:=by
   intro i hi;obtain⟨e0,e1,a2,m2,c2,e2,_,e3⟩:=hc i hi;exact⟨a2,m2,c2,hK.cq e0 (fun h=>h),hK.cq e1 (fun h=>h),
    hK.cq e2 (fun h=>h),e3.1⟩
  generalize hF:(dAt ds k).from_=F at*;generalize hT:(dAt ds k).to_=T at*;have HF:=LH hF;have HT:=LH hT;have HM:=LH hml;clear hc hcell hcons hF hT hml;go_in;go_wp2;go_loopw [7] (fun i wr=>∃j q:Nat,j≤k∧i=.int .i64 j∧wr=(w.alloc (.cells #[.int .i64 F,.int .i64 T,.slice a' 0 c'] 125)).drewN q∧Hid (∀l,l<j→yD (dAt ds l) (dAt ds k)=false)) (fun i _=>k-(intOf i).toNat)
  case atStart=>exact⟨0,0,Nat.zero_le _,rfl,rfl,fun j hj=>absurd hj (by omega)⟩
  case round=>
   obtain⟨j,q,hj,rfl,rfl,H⟩:=hrel;by_cases hlt:j<k
   ·obtain⟨a2,m2,c2,e0,e1,e2,e3⟩:=hc1 j (by omega)
    have E3:=LH e3;clear e3 hc1;by_cases g0:m2=0
    ·subst g0
     cases g1:((dAt ds j).from_==F)
     ·have hs:Hid (yD (dAt ds j) (dAt ds k)=false):=by
       show _=_;simp only[yD,HF.out];simp only[beq_eq_false_iff_ne]at g1;simp[g1]
      go_wp2;go_quiet (fail);go_wp2;go_roundw
      case rel=>exact⟨j+1,q+nq,by omega,by go_num,by rfl,fun l hl=>by
       rcases Nat.lt_succ_iff_lt_or_eq.1 hl with h|rfl
       ·exact H.out l h
       ·exact hs.out⟩
      case measure=>simp[intOf];omega
     ·cases g2:((dAt ds j).to_==T)
      ·have hs:Hid (yD (dAt ds j) (dAt ds k)=false):=by
        show _=_;simp only[yD,HT.out];simp only[beq_eq_false_iff_ne]at g2;simp[g2]
       go_wp2;go_quiet (fail);go_wp2;go_roundw
       case rel=>exact⟨j+1,q+nq,by omega,by go_num,by rfl,fun l hl=>by
        rcases Nat.lt_succ_iff_lt_or_eq.1 hl with h|rfl
        ·exact H.out l h
        ·exact hs.out⟩
       case measure=>simp[intOf];omega
      ·have hs:Hid (yD (dAt ds j) (dAt ds k)=true):=by
        show _=_;simp only[yD,HF.out,HT.out];simp only[beq_iff_eq]at g1 g2;simp[g1,g2];exact List.eq_nil_of_length_eq_zero E3.out
       go_wp2;go_quiet (fail);go_wp2;exact zB hQ ⟨qK (by rw[hfin.out,jQ hlt (by simp[hs.out])];simp),(hK.drewN q).drewN nq⟩
    ·have g0':((m2:Int)==0)=false:=by simp;omega
     have hs:Hid (yD (dAt ds j) (dAt ds k)=false):=by
      show _=_;simp only[yD,E3.out];simp[g0]
     go_wp2;go_quiet (fail);go_wp2;go_roundw
     case rel=>exact⟨j+1,q+nq,by omega,by go_num,by rfl,fun l hl=>by
      rcases Nat.lt_succ_iff_lt_or_eq.1 hl with h|rfl
      ·exact H.out l h
      ·exact hs.out⟩
     case measure=>simp[intOf];omega
   ·have hall:Hid ((List.range k).all (fun i=> !yD (dAt ds i) (dAt ds k))=true):=by
     show _=_;exact J4.2 (fun l hl=>by simp[H.out l (by omega)])
    clear hc1;cases v1:isT n F
    ·have d1:decide (0≤F∧F≤(n:Int))=false:=v1
     have V1:=LH v1;clear v1;go_wp2_with (go_at_call 60;refine(qQ _ _ _ _).mono ?_;rintro e w1 ⟨rfl,rfl⟩);exact zB hQ ⟨qK (by rw[hfin.out,V1.out];simp),hK.drewN q⟩
    ·have d1:decide (0≤F∧F≤(n:Int))=true:=v1
     have V1:=LH v1;clear v1;go_wp2_with (go_at_call 60;refine(qQ _ _ _ _).mono ?_;rintro e w1 ⟨rfl,rfl⟩);exact zB hQ ⟨qK (by rw[hfin.out,V1.out,hall.out];simp[isT]),hK.drewN q⟩
theorem jK(a:Option Addr)(n c:Nat)(ds:List zG)(D:Nat→Prop)(w:World)(h:qy w D a n ds)(hn:n≤1099511627776):
  Calls Tryz.prog 142 #[.slice a n c] w fun e w'=>e=.returned (.bool (qU ds))∧zQ w w':=by
 refine zV fun Q hQ=>?_;have hlen:=h.1;by_cases h4:n≤4
 ·have hfin:Hid (qU ds=(List.range n).all (yY ds)):=by
   show _=_;simp[qU,hlen,h4]
  go_in;go_wp2;go_loopw [3] (fun i wr=>∃j:Nat,j≤n∧i=.int .i64 j∧zQ w wr∧Hid (∀l,l<j→yY ds l=true)) (fun i _=>n-(intOf i).toNat)
  case atStart=>exact⟨0,Nat.zero_le _,rfl,Ext.refl _ _,fun j hj=>absurd hj (by omega)⟩
  case round=>
   obtain⟨j,hj,rfl,hK,H⟩:=hrel;by_cases hlt:j<n
   ·have h1:=h.ext hK (fun _ _ h=>h)
    cases hv:yY ds j
    ·have V:=LH hv
     go_wp2_with (go_at_call 195;refine(Qq _ _ _ _ _ _ _ h1 (by omega) (by omega)).mono ?_;rw[V.out];rintro e w1 ⟨rfl,hk1⟩);exact zB hQ ⟨qK (by rw[hfin.out,jQ hlt V.out]),hK.trans hk1⟩
    ·have V:=LH hv
     go_wp2_with (go_at_call 195;refine(Qq _ _ _ _ _ _ _ h1 (by omega) (by omega)).mono ?_;rw[V.out];rintro e w1 ⟨rfl,hk1⟩);go_roundw
     case rel=>exact⟨j+1,by omega,by go_num,hK.trans hk1,fun l hl=>by
      rcases Nat.lt_succ_iff_lt_or_eq.1 hl with h|rfl
      ·exact H.out l h
      ·exact V.out⟩
     case measure=>simp[intOf];omega
   ·go_wp2
    exact zB hQ ⟨qK (by rw[hfin.out];exact(J4.2 (fun l hl=>H.out l (by omega))).symm),hK⟩
 ·have hfin:Hid (qU ds=false):=by
   show _=_;simp[qU,hlen,h4]
  go_in;go_wp2;exact zB hQ ⟨qK hfin.out.symm,Ext.refl _ _⟩
theorem xK(a:Option Addr)(n c:Nat)(w:World):
  Calls Tryz.prog 215 #[.slice a n c] w fun e w'=>e=.returned (.agg #[.slice a n c])∧zQ w w':=by
 refine zV fun Q hQ=>?_;go_in;go_wp2;refine bodyPost_ret (v:=.agg #[.slice a n c]) (by simp[results,Tryz.results215,go_sem]) rfl (zB hQ ⟨rfl,(Ext.refl _ _).alloc _⟩)
def MY:zG:=⟨0,0, [[], [0,1]]⟩
def MW:zG:=⟨0,0, [[], [3,0,3]]⟩
def Py(k:Int):zG:=if k=0 then⟨0,0, [[1,3]]⟩else if k=1 then⟨1,0, []⟩else if k=2 then⟨0,0, [[1,1,0], [0], [3]]⟩else⟨0,1, []⟩
def jj(k:Int):List zG:=if k<4 then [MY,⟨0,0, []⟩,MW,Py k]else [MY,⟨0,0, []⟩,MW]
theorem Qy(B g:Nat)(p:Int)(w:World)(h:Rdx w B g p)(hBw:B≤w.heap.size)(hp:p≤900000000000):
  Calls Tryz.prog 176 #[.pointer (some ⟨g,0,none⟩)] w fun e w'=>∃(v:Value) (k:Int),0≤k∧k<5∧e=.returned v∧zq w' w.heap.size (fun b=>w.heap.size≤b) 125 3 v ((jj k).map yk)∧
   Rdx w' B g (p+1)∧Ext (·=g) w w':=by
 refine zV fun Q hQ=>?_;have hB:=Nat.le_refl w.heap.size;have hgB:=h.gB;go_in;go_wp2_with fail;refine(xK _ _ _ _).mono ?_;rintro e w1 ⟨rfl,k1⟩;have s1:=k1.size;simp at s1;have kk:zQ w w1:=(zQ.al _ _).trans (k1);clear kk;have c1:=(j5 _ w.heap.size 3 [] _ 0 (by omega) rfl rfl (by omega)).k k1;go_wp2_with fail;refine(xK _ _ _ _).mono ?_;rintro e w2 ⟨rfl,k2⟩;have s2:=k2.size;simp at s2;have kk:zQ w1 w2:=(zQ.al _ _).trans (k2);replace c1:=c1.k kk;clear kk;have c2:=(j5 _ w.heap.size 3 [0,1] _ 2 (by omega) rfl rfl (by omega)).k k2;have d1:=ZE w2 w.heap.size 155 [[], [0,1]] [_,_] 2 (by omega) ⟨_,_,rfl,c1,_,_,rfl,c2,rfl⟩ rfl (by omega);clear c1 c2;go_wp2_with fail;refine(xK _ _ _ _).mono ?_;rintro e w3 ⟨rfl,k3⟩;have s3:=k3.size;simp at s3;replace d1:=d1.k ((zQ.al _ _).trans ((zQ.al _ _).trans k3));have b1:=(zQ.al _ _).trans k3;have c3:=(j5 _ w.heap.size 3 [] _ 0 (by simp;omega) rfl rfl (by omega)).k k3;simp at c3;go_wp2_with fail;refine(xK _ _ _ _).mono ?_;rintro e w4 ⟨rfl,k4⟩;have s4:=k4.size;simp at s4;have kk:zQ w3 w4:=(zQ.al _ _).trans (k4);replace d1:=d1.k kk;replace c3:=c3.k kk;clear kk;have c4:=(j5 _ w.heap.size 3 [3,0,3] _ 3 (by omega) rfl rfl (by omega)).k k4;replace b1:=b1.trans ((zQ.al _ _).trans k4);have d2:=ZE w4 w.heap.size 155 [[], [3,0,3]] [_,_] 2 (by omega) ⟨_,_,rfl,c3,_,_,rfl,c4,rfl⟩ rfl (by omega);clear c3 c4;go_wp2_with fail;refine(xK _ _ _ _).mono ?_;rintro e w5 ⟨rfl,k5⟩;have s5:=k5.size;simp at s5;replace d1:=d1.k ((zQ.al _ _).trans ((zQ.al _ _).trans ((zQ.al _ _).trans k5)));replace d2:=d2.k ((zQ.al _ _).trans ((zQ.al _ _).trans k5));replace b1:=b1.trans ((zQ.al _ _).trans ((zQ.al _ _).trans ((zQ.al _ _).trans k5)));have b2:=(zQ.al _ _).trans k5;have c5:=(j5 _ w.heap.size 3 [1,3] _ 2 (by simp;omega) rfl rfl (by omega)).k k5;simp at c5;have d3:=ZE w5 w.heap.size 155 [[1,3]] [_] 1 (by omega) ⟨_,_,rfl,c5,rfl⟩ rfl (by omega);clear c5;go_wp2_with fail;refine(xK _ _ _ _).mono ?_;rintro e w6 ⟨rfl,k6⟩;have s6:=k6.size;simp at s6;have kk:=(zQ.al _ _).trans ((zQ.al _ _).trans k6);replace d1:=d1.k kk;replace d2:=d2.k kk;replace b1:=b1.trans kk;replace b2:=b2.trans kk;replace d3:=d3.k ((zQ.al _ _).trans k6);clear kk;have c6:=(j5 _ w.heap.size 3 [1,1,0] _ 3 (by simp;omega) rfl rfl (by omega)).k k6;simp at c6;go_wp2_with fail;refine(xK _ _ _ _).mono ?_;rintro e w7 ⟨rfl,k7⟩;have s7:=k7.size;simp at s7;have kk:=(zQ.al _ _).trans k7;replace d1:=d1.k kk;replace d2:=d2.k kk;replace d3:=d3.k kk;replace c6:=c6.k kk;replace b1:=b1.trans kk;replace b2:=b2.trans kk;clear kk;have c7:=(j5 _ w.heap.size 3 [0] _ 1 (by omega) rfl rfl (by omega)).k k7;go_wp2_with fail;refine(xK _ _ _ _).mono ?_;rintro e w8 ⟨rfl,k8⟩;have s8:=k8.size;simp at s8;have kk:=(zQ.al _ _).trans k8;replace d1:=d1.k kk;replace d2:=d2.k kk;replace d3:=d3.k kk;replace c6:=c6.k kk;replace c7:=c7.k kk;replace b1:=b1.trans kk;replace b2:=b2.trans kk;clear kk;have c8:=(j5 _ w.heap.size 3 [3] _ 1 (by omega) rfl rfl (by omega)).k k8;have d4:=ZE w8 w.heap.size 155 [[1,1,0], [0], [3]] [_,_,_] 3 (by omega) ⟨_,_,rfl,c6,_,_,rfl,c7,_,_,rfl,c8,rfl⟩ rfl (by omega);clear c6 c7 c8;have x0:=xQ b1 0;have x1:=xQ b1 1;have x2:=xQ b1 2;have y0:=xQ b2 0;have y1:=xQ b2 1;have y2:=xQ b2 2;simp at x0 x1 x2 y0 y1 y2;have q1:w2.heap.size+1<w8.heap.size:=by omega
 have q3:w2.heap.size<w8.heap.size:=by omega
 have q4:w4.heap.size<w8.heap.size:=by omega
 have q2:w4.heap.size+1<w8.heap.size:=by omega
 have hgl:g<w.heap.size:=by omega
 have K8:zQ w w8:=((((((((zQ.al _ _).trans k1).trans ((zQ.al _ _).trans k2)).trans ((zQ.al _ _).trans ((zQ.al _ _).trans ((zQ.al _ _).trans k3)))).trans ((zQ.al _ _).trans k4)).trans ((zQ.al _ _).trans ((zQ.al _ _).trans ((zQ.al _ _).trans k5)))).trans ((zQ.al _ _).trans ((zQ.al _ _).trans k6))).trans ((zQ.al _ _).trans k7)).trans ((zQ.al _ _).trans k8);clear k1 k2 k3 k4 k5 k6 k7 k8 b1 b2;have d4k:=zQ.al w8 (.cells #[.slice (some ⟨w5.heap.size+1,0,none⟩) 3 3,.slice (some ⟨w6.heap.size,0,none⟩) 1 1,.slice (some ⟨w7.heap.size,0,none⟩) 1 1] 155);replace d1:=d1.k d4k;replace d2:=d2.k d4k;replace d3:=d3.k d4k;replace K8:=K8.trans d4k;have hL:=Vz _ w.heap.size 125 [⟨0,0, [[1,3]]⟩,⟨1,0, []⟩,⟨0,0, [[1,1,0], [0], [3]]⟩,⟨0,1, []⟩] _ 4 K8.size ⟨_,_,rfl,d3,_,_,rfl,Rd.nilC _ _ none 0,_,_,rfl,d4,_,_,rfl,Rd.nilC _ _ none 0,rfl⟩ rfl (by omega);have kL:=zQ.al (w8.alloc (.cells #[.slice (some ⟨w5.heap.size+1,0,none⟩) 3 3,.slice (some ⟨w6.heap.size,0,none⟩) 1 1,.slice (some ⟨w7.heap.size,0,none⟩) 1 1] 155)) (.cells #[.int .i64 0,.int .i64 0,.slice (some ⟨w5.heap.size,0,none⟩) 1 1,.int .i64 1,.int .i64 0,.slice none 0 0,.int .i64 0,.int .i64 0,.slice (some ⟨w8.heap.size,0,none⟩) 3 3,.int .i64 0,.int .i64 1,.slice none 0 0] 125);replace d1:=d1.k kL;replace d2:=d2.k kL;replace d3:=d3.k kL;replace d4:=d4.k kL;replace K8:=K8.trans kL;have hO:=Vz _ w.heap.size 125 [MY,⟨0,0, []⟩,MW] _ 3 K8.size ⟨_,_,rfl,d1,_,_,rfl,Rd.nilC _ _ none 0,_,_,rfl,d2,rfl⟩ rfl (by omega);clear d1 d2 hL d4k kL;simp at hO;go_wp2_with fail;refine(jD B g p _ _ (h.keep (K8.trans (zQ.al _ _))) (by omega) (by omega)).mono ?_;rintro e w9 ⟨k,rfl,hk,_,hr9,x9⟩;obtain⟨hk0,hk5⟩:=hk (by omega);have K9:=(zQ.to (K8.trans (zQ.al _ _))).trans x9;have hS:∀k:Nat,w.heap.size≤k→¬k=g:=fun k hk=>by omega
 replace hO:=hO.ext x9 (fun k _ hk=>hS k (hk.elim id id));replace d3:=((d3.lt.mono (D':=fun k=>w.heap.size≤k∧k≠w8.heap.size+2) (fun k hk=>by simp at hk;omega)).k (zQ.al _ _)).ext x9 (fun k hk=>hS k hk.1);replace d4:=((d4.lt.mono (D':=fun k=>w.heap.size≤k∧k≠w8.heap.size+2) (fun k hk=>by simp at hk;omega)).k (zQ.al _ _)).ext x9 (fun k hk=>hS k hk.1);have s9:=x9.size;simp at s9;have z:∀i,i<12→w9.cell? ⟨w8.heap.size+1,i,none⟩=(#[.int .i64 0,.int .i64 0,.slice (some ⟨w5.heap.size,0,none⟩) 1 1,.int .i64 1,.int .i64 0,.slice none 0 0,.int .i64 0,.int .i64 0,.slice (some ⟨w8.heap.size,0,none⟩) 3 3,.int .i64 0,.int .i64 1,.slice none 0 0]:Array Value)[i]?:=fun i _=>by
  rw[x9.cell (by simp) (by show ¬w8.heap.size+1=g;omega),World.cell?_alloc_past _ _ _ (by simp),World.cell?_alloc_at _ _ _ _ (by simp)]
 clear x0 x1 x2 y0 y1 y2 q1 q2 q3 q4 x9 K8;have hbs:w.heap.size≤w9.heap.size:=by omega
 have hk:k=0∨k=1∨k=2∨k=3∨k=4:=by omega
 rcases hk with rfl|rfl|rfl|rfl|rfl
 ·have z0:=z 0 (by omega)
  have z1:=z 1 (by omega);have z2:=z 2 (by omega);simp at z0 z1 z2;have hX:=vF w9 (fun k=>w.heap.size≤k∧k≠w8.heap.size+2) 125 [⟨0,0, [[1,3]]⟩] _ 1 (by omega) ⟨_,_,rfl,d3,rfl⟩ rfl (by omega);have hO2:=hO.keep (zQ.al w9 (.cells #[.int .i64 0,.int .i64 0,.slice (some ⟨w5.heap.size,0,none⟩) 1 1] 125));clear z d3 d4 hO;go_wp2_with (at_builtin;refine yz _ rfl (.tmp 43) (.tmp 48) 27 rfl w.heap.size 125 (.agg #[.int .i64 0,.int .i64 0,.slice none 0 0]) 3 40 Tryz.underlying27 (by kernel_rfl) rfl (by omega) (fun b=>w.heap.size≤b) _ _ rfl hO2 _ 1 1 _ _ rfl hX (fun k _ hk=>⟨hk.1,by show some (w8.heap.size+1+1)≠some k;intro h;injection h;omega⟩) (by simp) (by simp) (by simp;omega) ?_;intro v1 w10 hA xA sA);have xa:=(zQ.to (S:=fun k=>w.heap.size≤k) (zQ.al _ _)).trans xA;exact zB hQ ⟨v1,0,by omega,by omega,rfl,hA,hr9.ext xa (fun k hk h=>by omega),K9.then_ xa (fun i hi h=>by omega)⟩
 ·have z0:=z 3 (by omega)
  have z1:=z 4 (by omega);have z2:=z 5 (by omega);simp at z0 z1 z2;have hX:=vF w9 (fun k=>w.heap.size≤k∧k≠w8.heap.size+2) 125 [⟨1,0, []⟩] _ 1 (by omega) ⟨_,_,rfl,Rd.nilC _ _ none 0,rfl⟩ rfl (by omega);have hO2:=hO.keep (zQ.al w9 (.cells #[.int .i64 1,.int .i64 0,.slice none 0 0] 125));clear z d3 d4 hO;go_wp2_with (at_builtin;refine yz _ rfl (.tmp 43) (.tmp 48) 27 rfl w.heap.size 125 (.agg #[.int .i64 0,.int .i64 0,.slice none 0 0]) 3 40 Tryz.underlying27 (by kernel_rfl) rfl (by omega) (fun b=>w.heap.size≤b) _ _ rfl hO2 _ 1 1 _ _ rfl hX (fun k _ hk=>⟨hk.1,by show some (w8.heap.size+1+1)≠some k;intro h;injection h;omega⟩) (by simp) (by simp) (by simp;omega) ?_;intro v1 w10 hA xA sA);have xa:=(zQ.to (S:=fun k=>w.heap.size≤k) (zQ.al _ _)).trans xA;exact zB hQ ⟨v1,1,by omega,by omega,rfl,hA,hr9.ext xa (fun k hk h=>by omega),K9.then_ xa (fun i hi h=>by omega)⟩
 ·have z0:=z 6 (by omega)
  have z1:=z 7 (by omega);have z2:=z 8 (by omega);simp at z0 z1 z2;have hX:=vF w9 (fun k=>w.heap.size≤k∧k≠w8.heap.size+2) 125 [⟨0,0, [[1,1,0], [0], [3]]⟩] _ 1 (by omega) ⟨_,_,rfl,d4,rfl⟩ rfl (by omega);have hO2:=hO.keep (zQ.al w9 (.cells #[.int .i64 0,.int .i64 0,.slice (some ⟨w8.heap.size,0,none⟩) 3 3] 125));clear z d3 d4 hO;go_wp2_with (at_builtin;refine yz _ rfl (.tmp 43) (.tmp 48) 27 rfl w.heap.size 125 (.agg #[.int .i64 0,.int .i64 0,.slice none 0 0]) 3 40 Tryz.underlying27 (by kernel_rfl) rfl (by omega) (fun b=>w.heap.size≤b) _ _ rfl hO2 _ 1 1 _ _ rfl hX (fun k _ hk=>⟨hk.1,by show some (w8.heap.size+1+1)≠some k;intro h;injection h;omega⟩) (by simp) (by simp) (by simp;omega) ?_;intro v1 w10 hA xA sA);have xa:=(zQ.to (S:=fun k=>w.heap.size≤k) (zQ.al _ _)).trans xA;exact zB hQ ⟨v1,2,by omega,by omega,rfl,hA,hr9.ext xa (fun k hk h=>by omega),K9.then_ xa (fun i hi h=>by omega)⟩
 ·have z0:=z 9 (by omega)
  have z1:=z 10 (by omega);have z2:=z 11 (by omega);simp at z0 z1 z2;have hX:=vF w9 (fun k=>w.heap.size≤k∧k≠w8.heap.size+2) 125 [⟨0,1, []⟩] _ 1 (by omega) ⟨_,_,rfl,Rd.nilC _ _ none 0,rfl⟩ rfl (by omega);have hO2:=hO.keep (zQ.al w9 (.cells #[.int .i64 0,.int .i64 1,.slice none 0 0] 125));clear z d3 d4 hO;go_wp2_with (at_builtin;refine yz _ rfl (.tmp 43) (.tmp 48) 27 rfl w.heap.size 125 (.agg #[.int .i64 0,.int .i64 0,.slice none 0 0]) 3 40 Tryz.underlying27 (by kernel_rfl) rfl (by omega) (fun b=>w.heap.size≤b) _ _ rfl hO2 _ 1 1 _ _ rfl hX (fun k _ hk=>⟨hk.1,by show some (w8.heap.size+1+1)≠some k;intro h;injection h;omega⟩) (by simp) (by simp) (by simp;omega) ?_;intro v1 w10 hA xA sA);have xa:=(zQ.to (S:=fun k=>w.heap.size≤k) (zQ.al _ _)).trans xA;exact zB hQ ⟨v1,3,by omega,by omega,rfl,hA,hr9.ext xa (fun k hk h=>by omega),K9.then_ xa (fun i hi h=>by omega)⟩
 ·go_wp2
  exact zB hQ ⟨_,4,by omega,by omega,rfl,hO,hr9,K9⟩
end Go.Proofs.YtkapldpmjkdmcaaGreat
