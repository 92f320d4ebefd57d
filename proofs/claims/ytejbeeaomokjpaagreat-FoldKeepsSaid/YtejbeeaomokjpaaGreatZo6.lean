/-
  Texts of the proof, part 6.
-/
import Derived.Test.YtejbeeaomokjpaaGreatZo5
import Derived.MapKept
set_option maxRecDepth 10000
open List Go.RowKit
open List renaming length -> ae
namespace Go.Mor
def jd{α β:Type}[BEq α]:List (α×β)->α->Option β
 |[],_=>none
 |(k,v)::r,s=>match s==k with
  |true=>some v
  |false=>jd r s
def upk{α β:Type}[BEq α]:List (α×β)->α->β->List (α×β)
 |[],s,v=>[(s,v)]
 |(k,u)::r,s,v=>match s==k with
  |true=>(s,v)::r
  |false=>(k,u)::upk r s v
def yc(a b:Int):Int:=IntKind.i64.wrap ((BitVec.ofInt 64 a&&&BitVec.ofInt 64 b).toNat:Int)
def bOr(a b:Int):Int:=IntKind.i64.wrap ((BitVec.ofInt 64 a|||BitVec.ofInt 64 b).toNat:Int)
def vm(a b:Int):Int:=IntKind.i64.wrap ((BitVec.ofInt 64 a^^^BitVec.ofInt 64 b).toNat:Int)
def yd(b:Int):Int:=IntKind.u64.wrap ((BitVec.ofInt 64 (IntKind.u64.wrap b)&&&BitVec.ofInt 64 63).toNat:Int)
def Lg(a n:Int):Int:=IntKind.i64.wrap (a*2^min n.toNat 64)
def IX(a n:Int):Int:=a.fdiv (2^min n.toNat 64)
def mR(op a b:Int):Int×Int:=if b=0 then(0,3)else if b= -1/\op=4 then(IntKind.i64.wrap (0-a),0)else if b= -1 then(0,0)else if op=4 then(IntKind.i64.wrap (a.tdiv b),0)else(a.tmod b,0)
def cW(op a b:Int):Int×Int:=if op=1 then(IntKind.i64.wrap (a+b),0)else if op=2 then(IntKind.i64.wrap (a-b),0)else if op=3 then(IntKind.i64.wrap (a*b),0)else if op=4\/op=5 then mR op a b else if op=6 then(yc a b,0)else if op=7 then(bOr a b,0)else if op=8 then(vm a b,0)else if op=9 then(Lg a (yd b),0)else if op=10 then(IX a (yd b),0)else if op=11 then(dN (decide (a=b)),0)else if op=12 then(dN (a !=b),0)else if op=13 then(dN (decide (a<b)),0)else if op=14 then(dN (decide (a<=b)),0)else if op=15 then(dN (decide (a>b)),0)else if op=16 then(dN (decide (a>=b)),0)else(0,-1)
def nD(op a:Int):Int×Int:=if op=1 then(IntKind.i64.wrap (0-a),0)else if op=2 then(vm (-1) a,0)else if op=3 then(dN (decide (a=0)),0)else(0,-1)
theorem GH{op a b:Int}(h:b=0):mR op a b=(0,3):=by unfold mR;rw[ax h]
theorem GI{op a b:Int}(h:b= -1)(h1:op=4):mR op a b=(IntKind.i64.wrap (0-a),0):=by unfold mR;rw[ao oM,ax ⟨h,h1⟩]
theorem GJ{op a b:Int}(h:b= -1)(h1:op≠4):mR op a b=(0,0):=by unfold mR;rw[ao oM,ao (λe=>h1 e.2),ax h]
theorem GK{op a b:Int}(h:b≠0)(h2:b≠-1)(h1:op=4):mR op a b=(IntKind.i64.wrap (a.tdiv b),0):=by unfold mR;rw[ao h,ao (λe=>h2 e.1),ao h2,ax h1]
theorem GL{op a b:Int}(h:b≠0)(h2:b≠-1)(h1:op≠4):mR op a b=(a.tmod b,0):=by unfold mR;rw[ao h,ao (λe=>h2 e.1),ao h2,ao h1]
theorem ki{op a b:Int}(h:¬(1<=op/\op<=16)):cW op a b=(0,-1):=by
 unfold cW;rw[ao oM,ao oM,ao oM,ao oM,ao oM,ao oM,ao oM,ao oM,ao oM,ao oM,ao oM,ao oM,ao oM,ao oM,ao oM]
theorem tW{op a b:Int}(h:op=4\/op=5):cW op a b=((mR op a b).1,(mR op a b).2):=by
 unfold cW;rw[ao oM,ao oM,ao oM,ax h]
theorem yf{op a:Int}(h1:¬op=1)(h2:¬op=2)(h3:¬op=3):nD op a=(0,-1):=by unfold nD;rw[ao h1,ao h2,ao h3]
section
variable{op a b:Int}
theorem bo1(h:op=1:=by assumption):cW op a b=(IntKind.i64.wrap (a+b),0):=by subst h;rfl
theorem bo2(h:op=2:=by assumption):cW op a b=(IntKind.i64.wrap (a-b),0):=by subst h;rfl
theorem bo3(h:op=3:=by assumption):cW op a b=(IntKind.i64.wrap (a*b),0):=by subst h;rfl
theorem bo6(h:op=6:=by assumption):cW op a b=(yc a b,0):=by subst h;rfl
theorem bo7(h:op=7:=by assumption):cW op a b=(bOr a b,0):=by subst h;rfl
theorem bo8(h:op=8:=by assumption):cW op a b=(vm a b,0):=by subst h;rfl
theorem bo9(h:op=9:=by assumption):cW op a b=(Lg a (yd b),0):=by subst h;rfl
theorem QjP(h:op=10:=by assumption):cW op a b=(IX a (yd b),0):=by subst h;rfl
theorem QjQ(h:op=11:=by assumption):cW op a b=(dN (decide (a=b)),0):=by subst h;rfl
theorem QjR(h:op=12:=by assumption):cW op a b=(dN (a !=b),0):=by subst h;rfl
theorem QjS(h:op=13:=by assumption):cW op a b=(dN (decide (a<b)),0):=by subst h;rfl
theorem QjT(h:op=14:=by assumption):cW op a b=(dN (decide (a<=b)),0):=by subst h;rfl
theorem QjU(h:op=15:=by assumption):cW op a b=(dN (decide (a>b)),0):=by subst h;rfl
theorem QjV(h:op=16:=by assumption):cW op a b=(dN (decide (a>=b)),0):=by subst h;rfl
theorem uo1(h:op=1:=by assumption):nD op a=(IntKind.i64.wrap (0-a),0):=by subst h;rfl
theorem uo2(h:op=2:=by assumption):nD op a=(vm (-1) a,0):=by subst h;rfl
theorem uo3(h:op=3:=by assumption):nD op a=(dN (decide (a=0)),0):=by subst h;rfl
end
structure dT where
 mem:ah
 next:Int
 pos:Nat
 out:ah
 steps:Int
 opened:Int
inductive eH(α:Type)where
 |ok(a:α)(s:dT)
 |stop(k c:Int)(s:dT)
def eH.bind{α β:Type}(g:eH α)(f:α->dT->eH β):eH β:=match g with
 | .ok a s=>f a s
 | .stop k c s=> .stop k c s
structure gg where
 nm:bo
 wk:Bool
 pa:Int
 va:Int
 A:ar
 c:Nat
 bF:List aG
 qA:ar
 qc:Nat
 bO:List (ar×Nat×ah)
def gg.cells(f:gg):bh:=fV f.nm f.wk f.pa f.va f.A f.c f.bF
def gg.src(f:gg)(k:Nat):ah:=(f.bO.getD k (none,0,[])).2.2
structure Env0 where
 fns:List gg
 names:List (bo×Int)
 data:List (bo×Int)
 inp:ah
 cJ:Nat
 fuel:Int
def ey(E:Env0)(s:dT):eH Unit:=if s.steps=E.fuel then .stop 0 0 s else .ok () {s with steps:=s.steps+1}
def yR(n:Int)(s:dT):eH Nat:=if n<1\/n>=s.next then .stop 5 0 s else .ok n.toNat s
def a0(l:ah):Int:=l.getD 0 0
def a1(l:ah):Int:=l.getD 1 0
def cP(E:Env0)(call:Int->ah->dT->eH Int)(i:aQ)(l:ah)(s:dT):eH Int:=
 if i.op=1 then .ok i.n s
 else if i.op=2 then(yR (IntKind.i64.wrap (a0 l+i.n)) s).bind λk s=> .ok (s.mem.getD k 0) s
 else if i.op=3 then(yR (IntKind.i64.wrap (a0 l+i.n)) s).bind λk s=> .ok 0 {s with mem:=s.mem.set k (a1 l)}
 else if i.op=4 then match jd E.names i.name with
  |some n=>call n l s
  |none=> .stop 5 0 s
 else if i.op=5 then call (a0 l) l.tail s
 else if i.op=6 then match jd E.data i.name with
  |some n=> .ok n s
  |none=> .stop 5 0 s
 else if i.op=7 then match jd E.names i.name with
  |some n=> .ok n s
  |none=> .stop 5 0 s
 else if i.op=8 then if a0 l<0 then .stop 5 0 s else if a0 l>(E.cJ:Int)-s.next then .stop 3 0 s else .ok s.next {s with next:=s.next+a0 l}
 else if i.op=9 then if s.pos<ae E.inp then .ok (E.inp.getD s.pos 0) {s with pos:=s.pos+1}else .ok (-1) s
 else if i.op=10 then .ok 0 (if ae s.out<4096 then {s with out:=s.out++[IntKind.u8.wrap (a0 l)]}else s)
 else if i.op=11 then if a0 l=0 then .stop 2 i.n s else .ok 0 s
 else if i.op=12 then .ok (a0 l) s
 else if i.op>=40 then .ok (nD (i.op-40) (a0 l)).1 s
 else if(cW (i.op-16) (a0 l) (a1 l)).2=0 then .ok (cW (i.op-16) (a0 l) (a1 l)).1 s else .stop 2 (cW (i.op-16) (a0 l) (a1 l)).2 s
section
variable{E:Env0}{call:Int -> List Int -> dT -> eH Int}{i:aQ}{l:List Int}{s:dT}
theorem sr(h:i.op=1):cP E call i l s= .ok i.n s:=by unfold cP;rw[ax h]
theorem tX(h:i.op=2):cP E call i l s=(yR (IntKind.i64.wrap (a0 l+i.n)) s).bind λk s=> .ok (s.mem.getD k 0) s:=by unfold cP;rw[h];rfl
theorem tY(h:i.op=3):cP E call i l s=(yR (IntKind.i64.wrap (a0 l+i.n)) s).bind λk s=> .ok 0 {s with mem:=s.mem.set k (a1 l)}:=by unfold cP;rw[h];rfl
theorem wG(h:i.op=4):cP E call i l s=match jd E.names i.name with|some n=>call n l s|none=> .stop 5 0 s:=by unfold cP;rw[h];rfl
theorem wH(h:i.op=5):cP E call i l s=call (a0 l) l.tail s:=by unfold cP;rw[h];rfl
theorem tZ(h:i.op=6):cP E call i l s=match jd E.data i.name with|some n=> .ok n s|none=> .stop 5 0 s:=by unfold cP;rw[h];rfl
theorem ua(h:i.op=7):cP E call i l s=match jd E.names i.name with|some n=> .ok n s|none=> .stop 5 0 s:=by unfold cP;rw[h];rfl
theorem wI(h:i.op=8):cP E call i l s=if a0 l<0 then .stop 5 0 s else if a0 l>(E.cJ:Int)-s.next then .stop 3 0 s else .ok s.next {s with next:=s.next+a0 l}:=by
 unfold cP;rw[h];rfl
theorem wJ(h:i.op=9):cP E call i l s=if s.pos<ae E.inp then .ok (E.inp.getD s.pos 0) {s with pos:=s.pos+1}else .ok (-1) s:=by
 unfold cP;rw[h];rfl
theorem su(h:i.op=10):cP E call i l s= .ok 0 (if ae s.out<4096 then {s with out:=s.out++[IntKind.u8.wrap (a0 l)]}else s):=by
 unfold cP;rw[h];rfl
theorem qx(h:i.op=11):cP E call i l s=if a0 l=0 then .stop 2 i.n s else .ok 0 s:=by
 unfold cP;rw[h];rfl
theorem sv(h:i.op=12):cP E call i l s= .ok (a0 l) s:=by
 unfold cP;rw[h];rfl
theorem qy(h:i.op>=40):cP E call i l s= .ok (nD (i.op-40) (a0 l)).1 s:=by
 unfold cP;rw[ao oM,ao oM,ao oM,ao oM,ao oM,ao oM,ao oM,ao oM,ao oM,ao oM,ao oM,ao oM,ax h]
theorem oa (h : i.op < 1 \/ 13 <= i.op) (h2 : i.op < 40) : cP E call i l s = if (cW (i.op - 16) (a0 l) (a1 l)).2 = 0 then .ok (cW (i.op - 16) (a0 l) (a1 l)).1 s else .stop 2 (cW (i.op - 16) (a0 l) (a1 l)).2 s := by
 unfold cP; rw [ao oM, ao oM, ao oM, ao oM, ao oM, ao oM, ao oM, ao oM, ao oM, ao oM, ao oM, ao oM, ao oM]
end
theorem QC{n:Int}{s:dT}(h:n<1\/n>=s.next):yR n s= .stop 5 0 s:=by unfold yR;rw[ax h]
theorem Xt{n:Int}{s:dT}(h:¬(n<1\/n>=s.next)):yR n s= .ok n.toNat s:=by unfold yR;rw[ao h]
theorem Qcr{E:Env0}{s:dT}(h:s.steps=E.fuel):ey E s= .stop 0 0 s:=by unfold ey;rw[ax h]
theorem Lh{E:Env0}{s:dT}(h:¬s.steps=E.fuel):ey E s= .ok () {s with steps:=s.steps+1}:=by unfold ey;rw[ao h]
def gb(bN:ah)(args:ah):ah:=args.map (λv=>bN.getD v.toNat 0)
def dZ(E:Env0)(call:Int->ah->dT->eH Int):List aQ->ah->dT->eH ah
 |[],bN,s=> .ok bN s
 |i::r,bN,s=>(ey E s).bind λ_ s=>(cP E call i (gb bN i.args) s).bind λv s=>
  dZ E call r (if 0<=i.dst/\aJ i.op then bN.set i.dst.toNat v else bN) s
def lL(bN:ah):List (Int×Int)->ah
 |[]=>bN
 |(d,v)::r=>lL (bN.set d.toNat v) r
def kv(ps:List cV)(at_:Nat)(bN:ah):ah:=lL bN (ps.map (λp=>(p.dst,bN.getD (p.args.getD at_ 0).toNat 0)))
def gI:ah->Int->Nat
 |[],_=>0
 |x::r,v=>if x=v then 0 else gI r v+1
def iH(E:Env0)(call:Int->ah->dT->eH Int)(f:gg)(k from_:Int)(bN:ah)(s:dT):eH (Int×Int×ah):=
 match f.bF[k.toNat]? with
 |none=> .stop 5 0 s
 |some x=>(dZ E call x.insts (kv x.ak (gI (f.src k.toNat) from_) bN) s).bind λbN s=>(ey E s).bind λ_ s=>
  if x.e=0 then .ok (x.a,0,bN) s
  else if x.e=1 then .ok (if bN.getD x.v.toNat 0≠0 then x.a else x.b,0,bN) s
  else if x.e=3 then .stop 2 x.a s
  else .ok (-1,if x.v>=0 then bN.getD x.v.toNat 0 else 0,bN) s
def je(E:Env0)(body:gg->Int->Int->ah->dT->eH Int)(n:Int)(l:ah)(s:dT):eH Int:=if n<1\/n>=(ae E.fns:Int)+1 then .stop 5 0 s else match E.fns[(n-1).toNat]? with
 |none=> .stop 5 0 s
 |some f=>if(ae l:Int)≠f.pa then .stop 5 0 s else if s.opened=1200 then .stop 4 0 s else body f 0 (-1) (l++List.replicate (f.va.toNat-ae l) 0) {s with opened:=s.opened+1}
def lT(E:Env0):Nat->gg->Int->Int->ah->dT->eH Int
 |0,_,_,_,_,s=> .stop 5 0 s
 |g+1,f,k,from_,bN,s=>(iH E (je E (lT E g)) f k from_ bN s).bind λr s=>
  if r.1<0 then .ok r.2.1 {s with opened:=s.opened-1}else lT E g f r.1 k r.2.2 s
def cX(E:Env0)(g:Nat):Int->ah->dT->eH Int:=je E (lT E g)
def kK(E:Env0)(g:Nat):List bo->dT->eH Unit
 |[],s=> .ok () s
 |b::r,s=>match jd E.names b with
  |none=> .stop 5 0 s
  |some n=>(cX E g n [] s).bind λ_ s=>kK E g r s
theorem Rk(x:Int):In64 (IntKind.i64.wrap x):=by
 have h:∀m:Int,0<=m->m<18446744073709551616->In64 (if 9223372036854775808<=m then m-18446744073709551616 else m):=λm h0 h1=>by
  unfold In64;by_cases hm:9223372036854775808<=m
  ·rw[ax hm];omega
  ·rw[ao hm];omega
 have h2:=h (x % 18446744073709551616) oM oM;unfold IntKind.wrap;simpa[IntKind.signed,IntKind.bits]using h2
theorem yp{n:Int}(h0:0<=n)(h1:n<=9223372036854775807):In64 n:=⟨oM,h1⟩
theorem jf:In64 0:=⟨dQ,dQ⟩
theorem LM(b:Bool):In64 (dN b):=by cases b<;>exact⟨dQ,dQ⟩
theorem Qc2{a b:Int}(h:In64 a):In64 (a.tmod b):=by
 unfold In64 at*;have h2:(a.tmod b).natAbs<=a.natAbs:=by rw[Int.natAbs_tmod];exact Nat.mod_le _ _
 by_cases h0:0<=a
 ·have:=Int.tmod_nonneg b h0;omega
 ·have h3:=Int.tmod_nonneg b (show 0<=-a by omega);rw[Int.neg_tmod]at h3;omega
theorem Qc3{a:Int}{n:Nat}(h:In64 a):In64 (a.fdiv (2^n)):=by
 unfold In64 at*;have hp:(1:Int)<=2^n:=by have:(1:Nat)<=2^n:=Nat.one_le_two_pow;exact_mod_cast this
 rw[Int.fdiv_eq_ediv_of_nonneg _ oM];by_cases h0:0<=a
 ·have h1:=Int.ediv_le_self (2^n:Int) h0;have h2:0<=a / 2^n:=Int.ediv_nonneg h0 oM;omega
 ·have h1:a / 2^n<0:=Int.ediv_lt_of_lt_mul oM oM;have h2:a<=a / 2^n:=by rw[Int.le_ediv_iff_mul_le oM];have h4:=Int.mul_le_mul_of_nonneg_left hp (show 0<=-a by omega);rw[Int.neg_mul,Int.neg_mul]at h4;omega
  omega
theorem Jc{P:Prop}[Decidable P]{p q:Int×Int}(hp:In64 p.1)(hq:In64 q.1):In64 (if P then p else q).1:=by
 split
 ·exact hp
 ·exact hq
theorem Yl{op a b:Int}(ha:In64 a):In64 (cW op a b).1:=by
 unfold cW mR IX;repeat' apply Jc
 all_goals first|exact Rk _|exact jf|exact LM _|exact Qc2 ha|exact Qc3 ha
theorem Qfk{op a:Int}:In64 (nD op a).1:=by
 unfold nD;repeat' apply Jc
 all_goals first|exact Rk _|exact jf|exact LM _
structure Vy where
 op:Int
 n:Int
 nm:bo
 A:ar
 c:Nat
 kids:List Vy
structure Rr where
 op:Int
 n:Int
 eA:ar
 ec:Nat
 exprs:List Vy
 bA:ar
 bc:Nat
 body:List Rr
 lA:ar
 lc:Nat
 els:List Rr
structure Eu where
 nm:bo
 wk:Bool
 pa:Int
 lo:Int
 A:ar
 c:Nat
 body:List Rr
structure Qdj extends Env0 where
 qF:List Eu
structure Frm where
 loc:ah
 deep:Int
 back:Int
def ur(E:Env0)(n:Int)(s:dT):eH Int:=if n<0 then .stop 5 0 s else if n>(E.cJ:Int)-s.next then .stop 3 0 s else .ok s.next {s with next:=s.next+n}
def He(E:Env0)(s:dT):eH Int:=if s.pos<ae E.inp then .ok (E.inp.getD s.pos 0) {s with pos:=s.pos+1}else .ok (-1) s
def Jj(v:Int)(s:dT):dT:=if ae s.out<4096 then {s with out:=s.out++[IntKind.u8.wrap v]}else s
section
variable{α β:Type}
theorem Ys{g:eH α}{f:α->dT->eH β}{x:α}{s:dT}(h:g= .ok x s):g.bind f=f x s:=by rw[h];rfl
theorem Pb{g:eH α}{f:α->dT->eH β}{k c:Int}{s:dT}(h:g= .stop k c s):g.bind f= .stop k c s:=by rw[h];rfl
end
def Qns(s s':dT):Prop:=s.steps<=s'.steps/\s'.opened=s.opened
def Yt{α:Type}(s:dT)(g:eH α):Prop:=∀x s',g= .ok x s'->Qns s s'
end Go.Mor
