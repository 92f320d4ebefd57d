/-
  Texts of the proof, part 7.
-/
import Derived.Test.YthgbejihcchcnaaDoorZd6
import Derived.Laws.IdiomCopy
import Derived.Laws.Cover3
import Derived.Laws.StructEq
import Derived.ChangeKeysEq
set_option maxRecDepth 10000
namespace Go.Mor
open Go.RowKit
def qV(x y:Nat):Nat:=(BitVec.ofNat 64 x&&& ~~~BitVec.ofNat 64 y).toNat
theorem GV(x y:Nat):qV x y<2^64:=(BitVec.ofNat 64 x&&& ~~~BitVec.ofNat 64 y).isLt
theorem yV(x:Nat):BitVec.ofInt IntKind.u64.bits (x:Int)=BitVec.ofNat 64 x:=by
 apply BitVec.eq_of_toNat_eq;simp[IntKind.bits]
theorem Ln{x y j:Nat}(hj:j<64):(qV x y).testBit j=(x.testBit j&& !(y.testBit j)):=by
 unfold qV;rw[BitVec.testBit_toNat,BitVec.getLsbD_and,BitVec.getLsbD_not,BitVec.getLsbD_ofNat,BitVec.getLsbD_ofNat];simp[hj]
section
variable {P : Program} {t : TypeId}
theorem Lo{x y:Nat}(w:World):(binOp .andNot t (.int .u64 (x:Int)) (.int .u64 (y:Int))).run P w= .ok (.int .u64 ((qV x y:Nat):Int)) w:=by
 have hw:IntKind.u64.wrap ((qV x y:Nat):Int)=((qV x y:Nat):Int):=wrap_u64 (GV x y);have hb:(BitVec.ofInt IntKind.u64.bits (x:Int)&&& ~~~BitVec.ofInt IntKind.u64.bits (y:Int)).toNat=qV x y:=by rw[yV,yV];rfl
 show(Op.intBits .andNot .u64 (x:Int) (y:Int)).run P w=_;simp only[Op.intBits,Sem.run_pure,hb,hw]
theorem QZ{x:Nat}(h0:0<x)(h:x<2^64)(w:World):(binOp .sub t (.int .u64 (x:Int)) (.int .u64 1)).run P w= .ok (.int .u64 ((x-1:Nat):Int)) w:=by
 have hw:IntKind.u64.wrap ((x:Int)-1)=((x-1:Nat):Int):=by rw[show(x:Int)-1=((x-1:Nat):Int)by omega];exact wrap_u64 oM
 simp[binOp,Op.intArith,hw]
theorem Lp{x y:Nat}(w:World):(binOp .mul t (.int .u64 (x:Int)) (.int .u64 (y:Int))).run P w= .ok (.int .u64 ((x*y % 2^64:Nat):Int)) w:=by
 have hw:IntKind.u64.wrap ((x:Int)*(y:Int))=((x*y % 2^64:Nat):Int):=by show((x:Int)*(y:Int)) % 2^64=_;rw[←Int.natCast_mul];omega
 simp[binOp,Op.intArith,hw]
theorem Ij{x:Nat}(w:World):(binOp .shr t (.int .u64 (x:Int)) (.int .u64 58)).run P w= .ok (.int .u64 ((x / 2^58:Nat):Int)) w:=by
 have e:(x:Int).fdiv (2^58)=((x / 2^58:Nat):Int):=by rw[Int.fdiv_eq_ediv_of_nonneg _ dQ];omega
 show(Op.shift .shr .u64 (x:Int) .u64 58).run P w=_;unfold Op.shift;rw[if_neg dQ];simp only[show min (58:Int).toNat IntKind.u64.bits=58 from rfl,e,Sem.run_pure]
theorem Vz{x:Nat}(h0:0<x)(h:x<2^64)(w:World):(Op.unary .neg (.int .u64 (x:Int))).run P w= .ok (.int .u64 ((2^64-x:Nat):Int)) w:=by
 have hw:IntKind.u64.wrap (-(x:Int))=((2^64-x:Nat):Int):=by show(-(x:Int)) % 2^64=_;omega
 simp[Op.unary,Op.intArith,hw]
end
theorem VA{x:Nat}(h0:x≠0)(h:x<2^64):∃k m,k<64∧x=2^k*(2*m+1):=by
 have key:∀n x,x≠0→x<2^n→∃k m,k<n∧x=2^k*(2*m+1):=by
  intro n;induction n with
  |zero=>intro x h0 h;omega
  |succ n ih=>
   intro x h0 h;by_cases hp:x % 2=1
   ·exact⟨0,x / 2,oM,oM⟩
   ·obtain⟨k,m,hk,he⟩:=ih (x / 2) oM (by rw[Nat.pow_succ]at h;omega);refine⟨k+1,m,oM,?_⟩;rw[Nat.pow_succ,Nat.mul_comm (2^k) 2,Nat.mul_assoc,←he];omega
 exact key 64 x h0 h
section
variable {k m : Nat}
theorem pf(i:Nat):(2^k*(2*m+1)).testBit i=if i<k then false else if i=k then true else m.testBit (i-k-1):=by
 have h:=Nat.testBit_two_pow_mul_add (2*m+1) (b:=0) (i:=k) (Nat.two_pow_pos k) i;rw[Nat.add_zero]at h;rw[h];by_cases h1:i<k
 ·simp[h1]
 ·rw[if_neg h1,if_neg h1];by_cases h2:i=k
  ·subst h2;simp
  ·rw[if_neg h2,show i-k=(i-k-1)+1 by omega,Nat.testBit_succ,show(2*m+1) / 2=m by omega];simp
theorem yW(i:Nat):(2^k*(2*m+1)-1).testBit i=if i<k then true else if i=k then false else m.testBit (i-k-1):=by
 have hp:=Nat.two_pow_pos k;have e:2^k*(2*m+1)-1=2^k*(2*m)+(2^k-1):=by rw[Nat.mul_add];omega
 rw[e,Nat.testBit_two_pow_mul_add (2*m) oM i];by_cases h1:i<k
 ·simp[h1,Nat.testBit_two_pow_sub_one]
 ·rw[if_neg h1,if_neg h1];by_cases h2:i=k
  ·subst h2;simp
  ·rw[if_neg h2,show i-k=(i-k-1)+1 by omega,Nat.testBit_succ,show(2*m) / 2=m by omega];simp
theorem yX(i:Nat):(2^k*(2*m+1)&&&(2^k*(2*m+1)-1)).testBit i=((2^k*(2*m+1)).testBit i&& !decide (i=k)):=by
 rw[Nat.testBit_and,pf,yW];by_cases h1:i<k
 ·simp[h1]
 ·by_cases h2:i=k
  ·subst h2;simp
  ·simp[h1,h2]
theorem Q0(h:2^k*(2*m+1)<2^64):2^k*(2*m+1)&&&(2^64-2^k*(2*m+1))=2^k:=by
 have hp:=Nat.two_pow_pos k;have h0:0<2^k*(2*m+1):=Nat.mul_pos hp oM;apply Nat.eq_of_testBit_eq;intro i;have e:2^64-2^k*(2*m+1)=2^64-((2^k*(2*m+1)-1)+1):=oM;rw[Nat.testBit_and,e,Nat.testBit_two_pow_sub_succ oM,yW,pf,Nat.testBit_two_pow];by_cases h1:i<k
 ·have:¬k=i:=oM;simp[h1,this]
 ·by_cases h2:i=k
  ·subst h2;have hk:i<64:=by
    rcases Nat.lt_or_ge i 64 with h3|h3
    ·exact h3
    ·have h4:(2:Nat)^64≤2^i:=Nat.pow_le_pow_right dQ h3;have h5:2^i*1≤2^i*(2*m+1):=Nat.mul_le_mul_left _ oM;omega
   simp[hk]
  ·have:¬k=i:=oM;simp[h1,h2,this];intro a _;exact a
end
section
variable {P : Program} {c : Code} {K : Act → World → Prop} {Q : Exit → Act → World → Prop} {a : Act} {w w0 : World} {S : Nat → Prop} {L : List aL} {k k' : Nat} {N : FN} {env : Env}
variable {d : Option Nat} {ty : Nat} {g : Option (Nat × Bool)}
theorem Lq{t:TypeId}{x y:Operand}(hk:ao c k=some (d,.indexAddr t x y,ty,g))(hF:Fr a N env)(hg:bu c g env=some true)(hd:gL d N=true)(im:k+1=k'){ad:Addr}{n e size:Nat}{kd:IntKind}{i:Int}(hx:ev env x=some (vP ad))(hy:ev env y=some (.int kd i))(ht:P.underlying t=some (.array n e))(hs:(P.info? e).map (·.size)=some size)(h0:0≤i)(h1:i<n)(h:∀a',a'=a.put d (vP (ad.add (i.toNat*size)))→Fr a' N (dN env d (vP (ad.add (i.toNat*size))))→bw P c K Q k' a' w):bw P c K Q k a w:=by
 refine dR hk hF hg hd im (fun o ho=> ?_) h;unfold execOp;rw[ho];cases hi:P.info? e with
 |none=>simp[hi]at hs
 |some inf=>
  simp only[hi,Option.map_some,Option.some.injEq]at hs;subst hs;simp[Instr.indexAt,asIntOf,run_underlying ht,hF.ev hx,hF.ev hy,Instr.sureAddr,sizeOf,typeInfo,hi,h0,h1]
theorem qB{t:TypeId}{x:Operand}(hk:ao c k=some (d,.slice t x none none none,ty,g))(hF:Fr a N env)(hg:bu c g env=some true)(hd:gL d N=true)(im:k+1=k'){b n e size:Nat}(hx:ev env x=some (vP (aZ b)))(ht:P.underlying t=some (.array n e))(hs:(P.info? e).map (·.size)=some size)(h:∀a',a'=a.put d (vS (some (aZ b)) n n)→Fr a' N (dN env d (vS (some (aZ b)) n n))→bw P c K Q k' a' w):bw P c K Q k a w:=by
 refine dR hk hF hg hd im (fun o ho=> ?_) h;unfold execOp;rw[ho];cases hi:P.info? e with
 |none=>simp[hi]at hs
 |some inf=>simp[Instr.sliceAt,Instr.sliceBounds,run_underlying ht,hF.ev hx,Instr.sureAddr,sizeOf,typeInfo,hi,Addr.add]
theorem rW{b t:Nat}:∀(xs:bp) (o:Nat) (cs:bp) (w:World),(aL.ak b t cs).holds w→o+xs.length≤cs.length→Mem (aL.ak b t cs).fp w (w.setCells b o xs) [.ak b t (cs.take o++xs++cs.drop (o+xs.length))]
 |[],o,cs,w,hb,_=>by simpa[World.setCells]using Mem.kr hb
 |y::ys,o,cs,w,hb,hl=>by
  simp only[bk]at hl;have hm:=Mem.zX (i:=o) hb y;have ih:=rW ys (o+1) (cs.set o y) (w.setCell (aq b o) y) (hm.get 0 rfl) (by simp;omega);have e:(cs.set o y).take (o+1)++ys++(cs.set o y).drop (o+1+ys.length)=cs.take o++(y::ys)++cs.drop (o+(y::ys).length):=by
   have e1:(cs.set o y).take (o+1)=cs.take o++[y]:=by
    have:o<(cs.set o y).length:=by simp;omega
    rw[List.take_succ_eq_append_getElem this];simp[List.take_set_of_le]
   have e2:(cs.set o y).drop (o+1+ys.length)=cs.drop (o+(y::ys).length):=by rw[List.drop_set_of_lt oM,bk,show o+1+ys.length=o+(ys.length+1)by omega]
   rw[e1,e2];simp
  rw[e]at ih;exact hm.mod 0 rfl ih
theorem ER{t u:TypeId}{x y:Operand}(hk:ao c k=some (d,.call {callee:= .builtin .copy,args:=#[x,y],argTypes:=#[t,u]},ty,g))(hF:Fr a N env)(hg:bu c g env=some true)(hd:gL d N=true)(im:k+1=k'){e b t0 dn dc n cap:Nat}{A:aA}{xs cs:bp}(ht:P.underlying t=some (.slice e))(hs:(P.info? e).map (·.size)=some 1)(hx:ev env x=some (vS (some (aZ b)) dn dc))(hy:ev env y=some (vS A n cap))(hM:Mem S w0 w L)(i:Nat)(hL:L[i]?=some (.ak b t0 cs))(z3:(aL.rd A xs).holds w)(hn:n=xs.length)(uA:n≤dn)(hl:xs.length≤cs.length)(h1:∀v∈xs,v.oneCell'=true)(h:∀w',Mem S w0 w' (L.set i (.ak b t0 (xs++cs.drop xs.length)))→∀a',a'=a.put d (goInt xs.length)→Fr a' N (dN env d (goInt xs.length))→bw P c K Q k' a' w'):bw P c K Q k a w:=by
 subst im;have hb:=hM.get i hL;have K6:Nat.min n dn=n:=Nat.min_eq_left uA;have K0:(Builtin.copy_ #[t,u] ty #[.slice (some (aZ b)) dn dc,.slice A n cap]).run P w= .ok (goInt xs.length) (w.setCells b 0 xs):=by
  cases xs with
  |nil=>
   have:n=0:=hn;subst this;exact run_copy_none w t u ty e _ A dn dc 0 cap ht hs sI
  |cons v vs=>
   obtain⟨ad,hA,_⟩:=z3 0 v rfl;subst hA;refine run_copy_cells w t u ty e b 0 dn dc ad n cap (v::vs) ht hs (by rw[K6,hn]) (fun j u hj=> ?_) (fun j hj=> ?_) (fun j hj=>qI hb) h1
   ·obtain⟨a',mT,hc⟩:=z3 j u hj;injection mT with mT;subst mT;exact hc
   ·have Ez:j<cs.length:=oM;rw[Nat.zero_add,aa hb (List.getElem?_eq_getElem Ez)];rfl
 have hm:=rW xs 0 cs w hb oM;have eD:=hM.mod i hL hm;refine gF hk hF hg (v:=goInt xs.length) (w':=w.setCells b 0 xs) (fun o ho hty=> ?_) (h _ (by simpa using eD) _ rfl (hF.put hd _));unfold execOp;rw[ho,hty];simp only[resolve,invoke,builtin,Sem.run_bind,Sem.run_pure,Result.andThen_ok,List.map_toArray,List.map_cons,List.map_nil,hF.ev hx,hF.ev hy,K0]
end
theorem Q1{P:Program}{t e:TypeId}(ht:P.underlying t=some (.array 4 e))(he:P.underlying e=some (.int .u64))(hs:P.cellsOf e=1)(hi:(P.info? e).isSome=true)(x0 x1 x2 x3 y0 y1 y2 y3:Int)(w:World):(binOp .eql t (.agg #[.int .u64 x0,.int .u64 x1,.int .u64 x2,.int .u64 x3]) (.agg #[.int .u64 y0,.int .u64 y1,.int .u64 y2,.int .u64 y3])).run P w= .ok (vB (x0==y0&&(x1==y1&&(x2==y2&&x3==y3)))) w:=by
 obtain⟨inf,Qde⟩:=Option.isSome_iff_exists.1 hi;rw[run_eql_struct,run_equalIn_array w 9999 _ _ ht Qde,hs];have Ik:(isAgg e).run P w= .ok false w:=by simp[isAgg,run_underlying he]
 have hp:∀(cs:Array Value) (i:Nat) (v:Value),cs[i]?=some v→(part e cs i).run P w= .ok v w:=by intro cs i v hv;simp only[part,Sem.run_bind,Ik,Result.andThen_ok,Bool.false_eq_true,if_false,hv];rfl
 have hq:∀(u v:Int),(Op.equalIn 9999 e (.int .u64 u) (.int .u64 v)).run P w= .ok (u==v) w:=by intro u v;rw[Op.equalIn,Sem.run_bind,run_underlying he,Result.andThen_ok];simp
 have step:∀(cs ds:Array Value) (i:Nat) (u v:Int) (is:List Nat),cs[i]?=some (.int .u64 u)→ds[i]?=some (.int .u64 v)→(Op.eqItems 9999 e 1 cs ds (i::is)).run P w=if u==v then(Op.eqItems 9999 e 1 cs ds is).run P w else .ok false w:=by intro cs ds i u v is h1 h2;simp only[Op.eqItems,Sem.run_bind,Nat.mul_one,hp _ _ _ h1,hp _ _ _ h2,Result.andThen_ok,hq];cases u==v<;>simp
 rw[show List.range 4=[0,1,2,3]from rfl,step _ _ 0 x0 y0 _ rfl rfl,step _ _ 1 x1 y1 _ rfl rfl,step _ _ 2 x2 y2 _ rfl rfl,step _ _ 3 x3 y3 _ rfl rfl];simp only[Op.eqItems,Sem.run_pure];cases x0==y0<;>cases x1==y1<;>cases x2==y2<;>cases x3==y3<;>rfl
end Go.Mor
namespace Go.Mor
open Go.RowKit
abbrev Il:=(Int→Bool)×ar
def cC(S:Int→Bool)(t:Int):Int→Bool:=fun x=>(x==t)||S x
inductive Kids(T:Int→ar):ar→Il→Il→Prop where
 |nil {s}:Kids T [] s s
 |skip {t ts S o s'}:S t=true→Kids T ts (S,o) s'→Kids T (t::ts) (S,o) s'
 |go {t ts S o s1 s'}:S t=false→Kids T (T t) (cC S t,o) s1→Kids T ts (s1.1,s1.2++[t]) s'→Kids T (t::ts) (S,o) s'
theorem Kids.mono{T:Int→ar}{ts:ar}{s s':Il}(h:Kids T ts s s'):∀x,s.1 x=true→s'.1 x=true:=by
 induction h with
 |nil=>exact fun _ h=>h
 |skip _ _ ih=>exact ih
 |go _ _ _ PT PU=>exact fun x hx=>PU x (PT x (by have Ku:=hx;simp only at Ku;simp[cC,Ku]))
def lV(T:Int→ar):Nat→ar→Il→Il
 |0,_,s=>s
 |_+1,[],s=>s
 |f+1,t::ts,s=>match s.1 t with
  |true=>lV T f ts s
  |false=>lV T f ts ((lV T f (T t) (cC s.1 t,s.2)).1,(lV T f (T t) (cC s.1 t,s.2)).2++[t])
def fW(n:Nat)(S:Int→Bool):Nat:=((List.range n).filter (fun i:Nat=> !S (i:Int))).length
theorem v8{n:Nat}{S S':Int→Bool}(h:∀x,S x=true→S' x=true):fW n S'≤fW n S:=by
 unfold fW;refine List.Sublist.length_le ?_;have:(List.range n).filter (fun i:Nat=> !S' (i:Int))=((List.range n).filter (fun i:Nat=> !S (i:Int))).filter (fun i:Nat=> !S' (i:Int)):=by rw[List.filter_filter];apply List.filter_congr;intro i _;cases h1:S (i:Int)<;>cases h2:S' (i:Int)<;>simp;rw[h _ h1]at h2;cases h2
 rw[this];exact List.filter_sublist
theorem gH{n:Nat}{S:Int→Bool}{t:Int}(h0:0≤t)(h1:t<n)(hS:S t=false):fW n (cC S t)+1≤fW n S:=by
 unfold fW
 have kl:(List.range n).filter (fun i:Nat=> !cC S t (i:Int))=((List.range n).filter (fun i:Nat=> !S (i:Int))).filter (fun i:Nat=> !((i:Int)==t)):=by
  rw[List.filter_filter]
  apply List.filter_congr
  intro i _
  simp[cC]
 rw[kl]
 obtain⟨k,rfl⟩:=Int.eq_ofNat_of_zero_le h0
 have cn:k∈(List.range n).filter (fun i:Nat=> !S (i:Int)):=List.mem_filter.2 ⟨List.mem_range.2 oM,by rw[hS];rfl⟩
 have:=List.length_filter_lt_length_iff_exists (p:=fun i:Nat=> !((i:Int)==(k:Int)))|>.2 ⟨k,cn,sI⟩
 omega
theorem kS(n:Nat)(S:Int→Bool):fW n S≤n:=by
 unfold fW;exact Nat.le_trans (bx _ _) sI
theorem v9{T:Int→ar}{n:Nat}(hT:∀t,(T t).length≤2)(hR:∀t x,x∈T t→0≤x∧x<n):∀(f:Nat) (ts:ar) (s:Il),(∀x,x∈ts→0≤x∧x<n)→3*fW n s.1+ts.length+1≤f→Kids T ts s (lV T f ts s):=by
 intro f;induction f with
 |zero=>intro ts s _ h;omega
 |succ f ih=>
  intro ts s PV hf;obtain⟨S,o⟩:=s;cases ts with
  |nil=>exact .nil
  |cons t ts=>
   have ht:=PV t (List.mem_cons_self ..);have Qab:∀x,x∈ts→0≤x∧x<(n:Int):=fun x hx=>PV x (List.mem_cons_of_mem _ hx)
   simp only[bk]at hf;cases hS:S t with
   |true=>
    have:lV T (f+1) (t::ts) (S,o)=lV T f ts (S,o):=by simp only[lV,hS]
    rw[this];exact .skip hS (ih ts (S,o) Qab (by simp only at hf⊢;omega))
   |false=>
    have e:lV T (f+1) (t::ts) (S,o)=lV T f ts ((lV T f (T t) (cC S t,o)).1,(lV T f (T t) (cC S t,o)).2++[t]):=by simp only[lV,hS]
    rw[e];have hu:=gH (S:=S) ht.1 ht.2 hS;have h1:=ih (T t) (cC S t,o) (hR t) (by have:=hT t;simp only at hf⊢;omega);refine .go hS h1 (ih ts _ Qab ?_);have hm:=v8 (n:=n) (Kids.mono h1);simp only at hf hm⊢;omega
theorem Kids.count{T:Int→ar}{n:Nat}(hR:∀t x,x∈T t→0≤x∧x<n){ts:ar}{s s':Il}(h:Kids T ts s s')(PV:∀x,x∈ts→0≤x∧x<(n:Int)):s'.2.length+fW n s'.1≤s.2.length+fW n s.1:=by
 induction h with
 |nil=>exact Nat.le_refl _
 |skip _ _ ih=>exact ih (fun x hx=>PV x (List.mem_cons_of_mem _ hx))
 | @go t ts S o s1 s' hS _ _ PT PU=>
  have ht:=PV t (List.mem_cons_self ..);have h1:=PT (hR t);have h2:=PU (fun x hx=>PV x (List.mem_cons_of_mem _ hx));have h3:=gH (S:=S) ht.1 ht.2 hS;simp only[List.length_append,bk,List.length_nil]at h1 h2⊢;omega
def CO(bs:List SB):ar:=(lV (tg bs) (3*bs.length+3) (tg bs 0) (cC (fun _=>false) 0,[])).2++[0]
def au(bs:List SB):ar:=if bs.length=0 then[]else(CO bs).reverse
theorem tj(bs:List SB):∃s,Kids (tg bs) (tg bs 0) (cC (fun _=>false) 0,[]) s∧s.2++[0]=CO bs:=by
 refine⟨_,v9 (n:=bs.length) (fun t=>mZ bs t) (fun t x h=>nY h) (3*bs.length+3) _ _ (fun x h=>nY h) ?_,rfl⟩;have h1:=mZ bs 0;have h2:=kS bs.length (cC (fun _=>false) 0);simp only;by_cases h:bs.length=0
 ·have:tg bs 0=[]:=vX oM;rw[this];simp;omega
 ·have:=gH (n:=bs.length) (S:=fun _=>false) (t:=0) oM oM rfl;have h3:=kS bs.length (fun _=>false);omega
theorem Im{bs:List SB}(h:0<bs.length):(CO bs).length≤bs.length:=by
 obtain⟨s,h1,h2⟩:=tj bs;have h3:=Kids.count (n:=bs.length) (fun t x h=>nY h) h1 (fun x h=>nY h);have h4:=gH (n:=bs.length) (S:=fun _=>false) (t:=0) oM oM rfl;have h5:=kS bs.length (fun _=>false);rw[←h2,List.length_append];simp only[List.length_nil,bk]at h3⊢;omega
def CP(T:Int→ar):List (Int×Nat)→Il→ar→Prop
 |[],s,R=>s.2=R
 |(b,k)::rest,s,R=>∃s',Kids T ((T b).drop k) s s'∧CP T rest (s'.1,s'.2++[b]) R
theorem Q2{T:Int→ar}{b:Int}{k:Nat}{rest:List (Int×Nat)}{s:Il}{R:ar}(h:CP T ((b,k)::rest) s R)(hk:(T b).length≤k):CP T rest (s.1,s.2++[b]) R:=by
 obtain⟨s',h1,h2⟩:=h;rw[List.drop_of_length_le hk]at h1;cases h1;exact h2
theorem Ls{T:Int→ar}{b t:Int}{k:Nat}{rest:List (Int×Nat)}{S:Int→Bool}{o:ar}{R:ar}(h:CP T ((b,k)::rest) (S,o) R)(hk:(T b)[k]?=some t)(ht:S t=true):CP T ((b,k+1)::rest) (S,o) R:=by
 obtain⟨s',h1,h2⟩:=h;obtain⟨fo,he⟩:=List.getElem?_eq_some_iff.1 hk;rw[List.drop_eq_getElem_cons fo,he]at h1;cases h1 with
 |skip _ h1=>exact⟨s',h1,h2⟩
 |go h' _ _=>rw[ht]at h';cases h'
theorem Lt{T:Int→ar}{b t:Int}{k:Nat}{rest:List (Int×Nat)}{S:Int→Bool}{o:ar}{R:ar}(h:CP T ((b,k)::rest) (S,o) R)(hk:(T b)[k]?=some t)(ht:S t=false):CP T ((t,0)::(b,k+1)::rest) (cC S t,o) R:=by
 obtain⟨s',h1,h2⟩:=h;obtain⟨fo,he⟩:=List.getElem?_eq_some_iff.1 hk;rw[List.drop_eq_getElem_cons fo,he]at h1;cases h1 with
 |skip h' _=>rw[ht]at h';cases h'
 |go _ ha hb=>exact⟨_,by simpa using ha,⟨s',hb,h2⟩⟩
def aX(l:List Bool):bp:=l.map Value.bool
theorem fq{l:List Bool}{i:Nat}(h:i<l.length):(aX l)[i]?=some (vB (l.getD i false)):=by simp[aX,List.getD,h]
theorem jc(l:List Bool):(aX l).length=l.length:=by simp[aX]
theorem eH(l:List Bool)(i:Nat)(v:Bool):aX (l.set i v)=(aX l).set i (vB v):=by simp[aX,List.map_set]
def bK(n:Nat)(l:List Bool)(S:Int→Bool):Prop:=l.length=n∧∀i:Nat,i<n→l.getD i false=S (i:Int)
theorem bK.start(n:Nat):bK n (List.replicate n false) (fun _=>false):=⟨sI,fun i hi=>by simp[List.getD,hi]⟩
theorem bK.put{n:Nat}{l:List Bool}{S:Int→Bool}(h:bK n l S){i:Nat}(_hi:i<n):bK n (l.set i true) (cC S (i:Int)):=by
 refine⟨by simp[h.1],fun j hj=> ?_⟩;unfold cC;by_cases e:i=j
 ·subst e;have:i<l.length:=by rw[h.1];exact hj
  simp[List.getD,this]
 ·have e2:¬((j:Int)=(i:Int)):=oM;rw[←h.2 j hj];simp[List.getD,List.getElem?_set_ne e,e2]
def yY(p:Int×Nat):bp:=[vI p.1,vI (p.2:Int)]
def pg(st:List (Int×Nat)):bp:=st.reverse.flatMap yY
theorem lO(p:Int×Nat)(st:List (Int×Nat)):pg (p::st)=pg st++yY p:=by simp[pg]
theorem wa(st:List (Int×Nat)):(pg st).length=st.length*2:=by
 induction st with
 |nil=>rfl
 |cons p st ih=>rw[lO,List.length_append,ih];simp[yY];omega
theorem rX{b:Int}{k:Nat}{st:List (Int×Nat)}:(pg ((b,k)::st))[st.length*2]?=some (vI b)∧(pg ((b,k)::st))[st.length*2+1]?=some (vI (k:Int)):=by
 rw[lO,←wa];constructor
 ·rw[List.getElem?_append_right (Nat.le_refl _)];simp[yY]
 ·rw[List.getElem?_append_right oM];simp[yY]
theorem Q3{b:Int}{k:Nat}{st:List (Int×Nat)}:(pg ((b,k)::st)).take (st.length*2)=pg st:=by
 rw[lO,←wa,List.take_left]
theorem Q4{b:Int}{k:Nat}{st:List (Int×Nat)}:(pg ((b,k)::st)).set (st.length*2+1) (vI ((k:Int)+1))=pg ((b,k+1)::st):=by
 rw[lO,lO,←wa,List.set_append_right _ _ oM];simp[yY]
structure Q5(n:Nat)(ws:List Nat)(S:Int→Bool):Prop where
 len:ws.length=(n+63) / 64
 fit:Fit ws
 bits:∀i:Nat,i<n→tb ws i=S (i:Int)
theorem Q5.start(n:Nat):Q5 n (List.replicate ((n+63) / 64) 0) (fun _=>false):=⟨sI,Fit.zero _,fun i _=>Aj _ i⟩
theorem Q5.put{n:Nat}{ws:List Nat}{S:Int→Bool}(h:Q5 n ws S){i:Nat}(hi:i<n):Q5 n (kP ws i) (cC S (i:Int)):=by
 refine⟨by simp[kP,h.len],h.fit.put i,fun j hj=> ?_⟩;rw[EF (by rw[h.len];omega),h.bits j hj];unfold cC;congr 1;by_cases e:i=j
 ·subst e;simp
 ·have:¬((j:Int)=(i:Int)):=oM;simp[e,this]
theorem Q5.idx{n:Nat}{ws:List Nat}{S:Int→Bool}(h:Q5 n ws S){i:Nat}(hi:i<n):i / 64<ws.length:=by rw[h.len];omega
def CQ(T:Int→ar):List (Int×Nat)→Nat
 |[]=>0
 |(b,k)::r=>((T b).length-k+1)+CQ T r
def yZ(T:Int→ar)(st:List (Int×Nat)):Prop:=∀p,p∈st→p.2≤(T p.1).length
theorem Q6(T:Int→ar)(b:Int):yZ T [(b,0)]:=by
 intro p hp;simp only[List.mem_singleton]at hp;subst hp;exact Nat.zero_le _
theorem Lu{T:Int→ar}{b t:Int}{k:Nat}{r:List (Int×Nat)}(h:yZ T ((b,k)::r))(hk:k+1≤(T b).length):yZ T ((t,0)::(b,k+1)::r):=by
 intro p hp;rcases List.mem_cons.1 hp with rfl|hp
 ·exact Nat.zero_le _
 ·rcases List.mem_cons.1 hp with rfl|hp
  ·exact hk
  ·exact h p (List.mem_cons_of_mem _ hp)
theorem Q7{T:Int→ar}{b:Int}{k:Nat}{r:List (Int×Nat)}(h:yZ T ((b,k)::r))(hk:k+1≤(T b).length):yZ T ((b,k+1)::r):=by
 intro p hp;rcases List.mem_cons.1 hp with rfl|hp
 ·exact hk
 ·exact h p (List.mem_cons_of_mem _ hp)
theorem CR{bs:List SB}{b:Int}{k:Nat}(h:k<(tg bs b).length):∃ti:Nat,(tg bs b)[k]?=some (ti:Int)∧ti<bs.length:=by
 have h1:=nY (List.getElem_mem h);obtain⟨ti,he⟩:=Int.eq_ofNat_of_zero_le h1.1;exact⟨ti,by rw[List.getElem?_eq_getElem h,he],oM⟩
def rZ(l m:ar)(k:Nat):Prop:=m.length=l.length∧∀p,p<l.length→m.getD p 0=if p<k∨l.length≤p+k then l.getD (l.length-1-p) 0 else l.getD p 0
theorem x8(l:ar):rZ l l 0:=⟨rfl,fun p hp=>by rw[if_neg oM]⟩
theorem CS{m:ar}{i p:Nat}{v:Int}(hi:i<m.length):(m.set i v).getD p 0=if i=p then v else m.getD p 0:=by
 by_cases h:i=p
 ·subst h;simp[List.getD,hi]
 ·simp[List.getD,List.getElem?_set_ne h,h]
theorem AH{l m:ar}{k q:Nat}(h:rZ l m k)(hq:k<q∧q+k+1=l.length):rZ l ((m.set k (m.getD q 0)).set q (m.getD k 0)) (k+1):=by
 obtain⟨h1,h2⟩:=h;refine⟨by simp[h1],fun p hp=> ?_⟩;rw[CS (by simp;omega),CS oM];by_cases e1:q=p
 ·subst e1;rw[if_pos rfl,if_pos oM,h2 k oM,if_neg oM,show l.length-1-q=k by omega]
 ·rw[if_neg e1];by_cases e2:k=p
  ·subst e2;rw[if_pos rfl,if_pos oM,h2 q oM,if_neg oM,show l.length-1-k=q by omega]
  ·rw[if_neg e2,h2 p hp];by_cases e3:p<k∨l.length≤p+k
   ·rw[if_pos e3,if_pos oM]
   ·rw[if_neg e3,if_neg oM]
theorem CT{l m:ar}{k:Nat}(h:rZ l m k)(hk:2*k≤l.length∧l.length≤2*k+1):m=l.reverse:=by
 obtain⟨h1,h2⟩:=h;apply List.ext_getElem?;intro p;by_cases hp:p<l.length
 ·have h3:=h2 p hp;have e:∀x:ar,p<x.length→x[p]?=some (x.getD p 0):=by intro x hx;simp[List.getD,hx]
  rw[e m oM,e l.reverse (by simpa using hp),h3];have e4:l.reverse.getD p 0=l.getD (l.length-1-p) 0:=by simp[List.getD,List.getElem?_reverse hp]
  rw[e4];split
  ·rfl
  ·rw[show l.length-1-p=p by omega]
 ·rw[List.getElem?_eq_none oM,List.getElem?_eq_none (by simp;omega)]
end Go.Mor
namespace Go.Mor
open Go.RowKit
inductive Reach(T:Int→ar):Int→Prop
 |zero:Reach T 0
 |step {x t:Int}:Reach T x→t∈T x→Reach T t
def Eh(T:Int→ar)(bar:Int)(x:Int):ar:=(T x).filter (fun t=> !(t==bar))
theorem jd{T:Int→ar}{bar x t:Int}:t∈Eh T bar x↔t∈T x∧t≠bar:=by simp[Eh]
theorem Q8{T:Int→ar}(hT:∀t,(T t).length≤2)(bar:Int)(t:Int):(Eh T bar t).length≤2:=Nat.le_trans (bx _ _) (hT t)
theorem CU{T:Int→ar}{ts:ar}{s s':Il}(h:Go.Mor.Kids T ts s s'):(∀x,x∈ts→s'.1 x=true)∧(∀x,s'.1 x=true→s.1 x=true∨∀t,t∈T x→s'.1 t=true):=by
 induction h with
 |nil=>exact⟨fun x hx=>(List.not_mem_nil hx).elim,fun x hx=> .inl hx⟩
 | @skip t ts S o s' hS h ih=>
  refine⟨fun x hx=> ?_,ih.2⟩;rcases List.mem_cons.1 hx with rfl|hx
  ·exact Kids.mono h _ hS
  ·exact ih.1 x hx
 | @go t ts S o s1 s' hS h1 h2 PT PU=>
  have m1:=Kids.mono h1;have m2:=Kids.mono h2;have ht:s1.1 t=true:=m1 t (by simp[cC]);refine⟨fun x hx=> ?_,fun x hx=> ?_⟩
  ·rcases List.mem_cons.1 hx with rfl|hx
   ·exact m2 _ ht
   ·exact PU.1 x hx
  ·rcases PU.2 x hx with hx|hx
   ·rcases PT.2 x hx with hx|hx
    ·by_cases e:x=t
     ·subst e;exact .inr fun y hy=>m2 y (PT.1 y hy)
     ·left;have:(x==t||S x)=true:=hx;simpa[e]using this
    ·exact .inr fun y hy=>m2 y (hx y hy)
   ·exact .inr hx
theorem ES{T:Int→ar}{ts:ar}{s s':Il}(h:Go.Mor.Kids T ts s s')(PV:∀x,x∈ts→Reach T x)(hs:∀x,s.1 x=true→Reach T x):∀x,s'.1 x=true→Reach T x:=by
 induction h with
 |nil=>exact hs
 |skip _ _ ih=>exact ih (fun x hx=>PV x (List.mem_cons_of_mem _ hx)) hs
 | @go t ts S o s1 s' hS h1 h2 PT PU=>
  have ht:=PV t (List.mem_cons_self ..);refine PU (fun x hx=>PV x (List.mem_cons_of_mem _ hx)) (PT (fun x hx=> .step ht hx) (fun x hx=> ?_));have hx:(x==t||S x)=true:=hx;by_cases e:x=t
  ·exact e▸ht
  ·exact hs x (by simpa[e]using hx)
theorem Lv{T:Int→ar}{ts:ar}{s s':Il}(h:Go.Mor.Kids T ts s s'):∃nw,s'.2=s.2++nw∧(∀x,s'.1 x=true↔s.1 x=true∨x∈nw)∧nw.Nodup∧(∀x,x∈nw→s.1 x=false)∧
  (∀l1 x l2,nw=l1++x::l2→x∈ts∨∃y,y∈l2∧x∈T y):=by
 induction h with
 |nil=>exact⟨[],sI,sI,sI,sI,sI⟩
 | @skip t ts S o s' hS h ih=>
  obtain⟨nw,h1,h2,h3,h4,h5⟩:=ih
  exact⟨nw,h1,h2,h3,h4,fun l1 x l2 e=>(h5 l1 x l2 e).imp (fun h=>List.mem_cons_of_mem _ h) id⟩
 | @go t ts S o s1 s' hS h1 h2 PT PU=>
  obtain⟨n1,a1,a2,a3,a4,a5⟩:=PT
  obtain⟨n2,b1,b2,b3,b4,b5⟩:=PU
  have a2':∀x,s1.1 x=true↔(S x=true∨x=t)∨x∈n1:=by
   intro x
   rw[a2 x]
   have:(cC S t x=true)↔(S x=true∨x=t):=by simp[cC,or_comm]
   exact or_congr this Iff.rfl
  have b4':∀x,x∈n2→S x=false∧x≠t∧x∉n1:=by
   intro x hx
   have h0:s1.1 x=false:=b4 x hx
   have:¬s1.1 x=true:=by rw[h0];simp
   rw[a2' x]at this
   refine⟨by simpa using fun h=>this (.inl (.inl h)),fun h=>this (.inl (.inr h)),fun h=>this (.inr h)⟩
  have a4':∀x,x∈n1→S x=false∧x≠t:=by
   intro x hx
   have h0:=a4 x hx
   have:¬(cC S t x=true):=by
    have h0:cC S t x=false:=h0
    rw[h0];simp
   have h3:¬(x=t∨S x=true):=by simpa[cC]using this
   exact⟨by simpa using fun h=>h3 (.inr h),fun h=>h3 (.inl h)⟩
  refine⟨n1++t::n2,?_,?_,?_,?_,?_⟩
  ·rw[b1]
   simp only[a1]
   simp
  ·intro x
   rw[b2 x]
   have:=a2' x
   simp only[this,List.mem_append,List.mem_cons]
   constructor
   ·rintro(((h|h)|h)|h)
    ·exact .inl h
    ·exact .inr (.inr (.inl h))
    ·exact .inr (.inl h)
    ·exact .inr (.inr (.inr h))
   ·rintro(h|h|h|h)
    ·exact .inl (.inl (.inl h))
    ·exact .inl (.inr h)
    ·exact .inl (.inl (.inr h))
    ·exact .inr h
  ·rw[List.nodup_append]
   refine⟨a3,List.nodup_cons.2 ⟨fun h=>(b4' t h).2.1 rfl,b3⟩,fun x hx y hy=> ?_⟩
   rcases List.mem_cons.1 hy with rfl|hy
   ·exact(a4' x hx).2
   ·rintro rfl
    exact(b4' x hy).2.2 hx
  ·intro x hx
   rcases List.mem_append.1 hx with hx|hx
   ·exact(a4' x hx).1
   ·rcases List.mem_cons.1 hx with rfl|hx
    ·exact hS
    ·exact(b4' x hx).1
  ·intro l1 x l2 e
   rcases List.append_eq_append_iff.1 e with⟨p,e1,e2⟩|⟨p,e1,e2⟩
   ·
    cases p with
    |nil=>
     simp only[mA,List.cons.injEq]at e2
     exact .inl (by rw[←e2.1];exact List.mem_cons_self ..)
    |cons q p=>
     simp only[gX,List.cons.injEq]at e2
     rcases b5 p x l2 e2.2 with h|⟨y,hy,h⟩
     ·exact .inl (List.mem_cons_of_mem _ h)
     ·exact .inr ⟨y,hy,h⟩
   ·cases p with
    |nil=>
     simp only[mA,List.cons.injEq]at e2
     exact .inl (by rw[e2.1];exact List.mem_cons_self ..)
    |cons q p=>
     simp only[gX,List.cons.injEq]at e2
     obtain⟨rfl,e2⟩:=e2
     right
     rcases a5 l1 x p e1 with h|⟨y,hy,h⟩
     ·exact⟨t,by rw[e2];simp,h⟩
     ·exact⟨y,by rw[e2];simp[hy],h⟩
def VB(T:Int→ar)(n:Nat):Int→Bool:=(lV T (3*n+3) (T 0) (cC (fun _=>false) 0,[])).1
theorem Lw{T:Int→ar}{n:Nat}(hT:∀t,(T t).length≤2)(hR:∀t x,x∈T t→0≤x∧x<n):∃s,Go.Mor.Kids T (T 0) (cC (fun _=>false) 0,[]) s∧s.1=VB T n:=by
 refine⟨_,v9 (n:=n) hT hR (3*n+3) _ _ (fun x h=>hR 0 x h) ?_,rfl⟩;have h1:=hT 0;have h2:=kS n (cC (fun _=>false) 0);simp only;by_cases h:n=0
 ·have:T 0=[]:=by
   cases h3:T 0 with
   |nil=>rfl
   |cons x l=>have:=hR 0 x (by rw[h3];exact List.mem_cons_self ..);omega
  rw[this];simp;omega
 ·have:=gH (n:=n) (S:=fun _=>false) (t:=0) oM oM rfl;have h3:=kS n (fun _=>false);omega
theorem y4{T:Int→ar}{s:Il}(h:Go.Mor.Kids T (T 0) (cC (fun _=>false) 0,[]) s)(x:Int):s.1 x=true↔Reach T x:=by
 constructor
 ·refine ES h (fun x hx=> .step .zero hx) (fun x hx=> ?_) x;have:x=0:=by simpa[cC]using hx
  exact this▸ .zero
 ·obtain⟨c1,c2⟩:=CU h;have h0:s.1 0=true:=Kids.mono h 0 (by simp[cC]);intro hr;induction hr with
  |zero=>exact h0
  | @step x t _ ht ih=>
   rcases c2 x ih with hx|hx
   ·have:x=0:=by simpa[cC]using hx
    exact c1 t (this▸ht)
   ·exact hx t ht
theorem Io{T:Int→ar}{n:Nat}(hT:∀t,(T t).length≤2)(hR:∀t x,x∈T t→0≤x∧x<n)(x:Int):VB T n x=true↔Reach T x:=by
 obtain⟨s,h,e⟩:=Lw hT hR;rw[←e];exact y4 h x
theorem Lx{T:Int→ar}{n:Nat}(hn:0<n)(hR:∀t x,x∈T t→0≤x∧x<(n:Int)){x:Int}(h:Reach T x):0≤x∧x<n:=by
 cases h with
 |zero=>omega
 |step _ ht=>exact hR _ _ ht
def gn(bs:List SB)(bar:Int)(x:Int):Bool:=!(bar==0)&&VB (Eh (tg bs) bar) bs.length x
def gI(bs:List SB)(bar:Int):List Bool:=(List.range bs.length).map (fun i:Nat=>gn bs bar (i:Int))
theorem lP(bs:List SB)(bar:Int):(gI bs bar).length=bs.length:=by simp[gI]
theorem jL{bs:List SB}{bar:Int}{i:Nat}(h:i<bs.length):(gI bs bar).getD i false=gn bs bar (i:Int):=by
 simp[gI,List.getD,h]
theorem ph(bs:List SB)(bar:Int)(x:Int):gn bs bar x=true↔bar≠0∧Reach (Eh (tg bs) bar) x:=by
 unfold gn;rw[Bool.and_eq_true,Io (fun t=>Q8 (fun t=>mZ bs t) bar t) (fun t x h=>nY (jd.1 h).1) x];simp
theorem tn{n:Nat}{l:List Bool}{S:Int→Bool}(h:bK n l S){m:List Bool}(hm:m.length=n)(hg:∀i:Nat,i<n→m.getD i false=S (i:Int)):l=m:=by
 apply List.ext_getElem?;intro i;by_cases hi:i<n
 ·have h1:=h.2 i hi;have h2:=hg i hi;have e1:i<l.length:=by rw[h.1];exact hi
  have e2:i<m.length:=by rw[hm];exact hi
  simp only[List.getD,List.getElem?_eq_getElem e1,List.getElem?_eq_getElem e2,Option.getD_some]at h1 h2⊢;rw[h1,h2]
 ·rw[List.getElem?_eq_none (by rw[h.1];omega),List.getElem?_eq_none (by rw[hm];omega)]
structure CV(T:Int→ar)(bar:Int)(S:Int→Bool)(todo:ar)(i k:Nat):Prop where
 mem:∀x,S x=true↔x∈todo
 reach:∀x,x∈todo→Reach (Eh T bar) x
 zero:(0:Int)∈todo
 done:∀j x,j<i→todo[j]?=some x→∀t,t∈T x→t≠bar→t∈todo
 part:∀x,todo[i]?=some x→∀t,t∈(T x).take k→t≠bar→t∈todo
theorem CV.start(T:Int→ar)(bar:Int):CV T bar (cC (fun _=>false) 0) [0] 0 0:=by
 refine⟨fun x=>by simp[cC],fun x hx=> ?_,sI,fun j x h=>oM,fun x _ t h=>by simp at h⟩;have:x=0:=by simpa using hx
 exact this▸ .zero
theorem CV.skip{T:Int→ar}{bar:Int}{S:Int→Bool}{todo:ar}{i k:Nat}{b t:Int}(h:CV T bar S todo i k)(hi:todo[i]?=some b)(hk:(T b)[k]?=some t)(ht:S t=true∨t=bar):CV T bar S todo i (k+1):=by
 refine⟨h.mem,h.reach,h.zero,h.done,fun x hx y hy dG=> ?_⟩;rw[hi]at hx;injection hx with hx;subst hx;obtain⟨fo,he⟩:=List.getElem?_eq_some_iff.1 hk;rw[List.take_succ_eq_append_getElem fo,he]at hy;rcases List.mem_append.1 hy with hy|hy
 ·exact h.part b hi y hy dG
 ·have:y=t:=by simpa using hy
  subst this;rcases ht with ht|ht
  ·exact(h.mem y).1 ht
  ·exact(dG ht).elim
theorem CV.push{T:Int→ar}{bar:Int}{S:Int→Bool}{todo:ar}{i k:Nat}{b t:Int}(h:CV T bar S todo i k)(hi:todo[i]?=some b)(hk:(T b)[k]?=some t)(ht:t≠bar):CV T bar (cC S t) (todo++[t]) i (k+1):=by
 have fo:i<todo.length:=(List.getElem?_eq_some_iff.1 hi).1;obtain⟨vR,he⟩:=List.getElem?_eq_some_iff.1 hk;refine⟨fun x=> ?_,fun x hx=> ?_,List.mem_append_left _ h.zero,fun j x hj hx y hy dG=> ?_,fun x hx y hy dG=> ?_⟩
 ·have:=h.mem x;simp[cC,this,or_comm]
 ·rcases List.mem_append.1 hx with hx|hx
  ·exact h.reach x hx
  ·have:x=t:=by simpa using hx
   subst this;exact .step (h.reach b (List.mem_of_getElem? hi)) (jd.2 ⟨List.mem_of_getElem? hk,ht⟩)
 ·rw[List.getElem?_append_left oM]at hx;exact List.mem_append_left _ (h.done j x hj hx y hy dG)
 ·rw[List.getElem?_append_left fo,hi]at hx;injection hx with hx;subst hx;rw[List.take_succ_eq_append_getElem vR,he]at hy;rcases List.mem_append.1 hy with hy|hy
  ·exact List.mem_append_left _ (h.part b hi y hy dG)
  ·exact List.mem_append_right _ hy
theorem CV.next{T:Int→ar}{bar:Int}{S:Int→Bool}{todo:ar}{i k:Nat}{b:Int}(h:CV T bar S todo i k)(hi:todo[i]?=some b)(hk:(T b).length≤k):CV T bar S todo (i+1) 0:=by
 refine⟨h.mem,h.reach,h.zero,fun j x hj hx y hy dG=> ?_,fun x _ y hy=>by simp at hy⟩;by_cases e:j=i
 ·subst e;rw[hi]at hx;injection hx with hx;subst hx;exact h.part b hi y (by rw[List.take_of_length_le hk];exact hy) dG
 ·exact h.done j x oM hx y hy dG
theorem CV.fin{T:Int→ar}{bar:Int}{S:Int→Bool}{todo:ar}{i k:Nat}(h:CV T bar S todo i k)(hi:todo.length≤i)(x:Int):S x=true↔Reach (Eh T bar) x:=by
 rw[h.mem x];refine⟨h.reach x,fun hr=> ?_⟩;induction hr with
 |zero=>exact h.zero
 | @step x t _ ht ih=>
  obtain⟨ht,dG⟩:=jd.1 ht;obtain⟨j,hj,e⟩:=List.mem_iff_getElem.1 ih;exact h.done j x oM (by rw[List.getElem?_eq_getElem hj,e]) t ht dG
theorem Ly{bs:List SB}{bar:Int}{S:Int→Bool}{inl:List Bool}{todo:ar}{i k:Nat}(pY:bK bs.length inl S)(h:CV (tg bs) bar S todo i k)(hi:todo.length≤i)(hb:bar≠0):inl=gI bs bar:=by
 refine tn pY (lP _ _) (fun j hj=> ?_);rw[jL hj,Bool.eq_iff_iff,ph,h.fin hi];exact⟨fun h=>h.2,fun h=>⟨hb,h⟩⟩
theorem y5{bs:List SB}{bar:Int}(h:bs.length=0∨bar=0):List.replicate bs.length false=gI bs bar:=by
 refine tn (bK.start bs.length) (lP _ _) (fun j hj=> ?_);rw[jL hj];have:bar=0:=oM;simp[gn,this]
end Go.Mor
namespace Go.Mor
open Go.RowKit
def dx{α:Type}(enc:α→Value)(rows:List dg)(l:List (List α)):Prop:=rows.map (fun r=>(r.n,r.xs))=l.map (fun x=>(x.length,x.map enc))
section
variable {α : Type} {enc : α → Value} {rows : List dg} {l : List (List α)}
theorem dx.len(h:dx enc rows l):rows.length=l.length:=by
 have:=congrArg List.length h;simpa using this
theorem dx.nil:dx enc [] ([]:List (List α)):=rfl
theorem dx.get(h:dx enc rows l){i:Nat}{x:List α}(hi:l[i]?=some x):∃A c,rows[i]?=some ⟨A,x.length,c,x.map enc⟩:=by
 have h1:(rows.map (fun r=>(r.n,r.xs)))[i]?=(l.map (fun x=>(x.length,x.map enc)))[i]?:=by rw[h]
 simp only[List.getElem?_map,hi,Option.map_some]at h1;cases h2:rows[i]? with
 |none=>rw[h2]at h1;simp at h1
 |some r=>
  rw[h2]at h1;simp only[Option.map_some,Option.some.injEq,Prod.mk.injEq]at h1;obtain⟨A,n,c,xs⟩:=r;simp only at h1;obtain⟨rfl,rfl⟩:=h1;exact⟨A,c,rfl⟩
theorem dx.push(h:dx enc rows l){A:aA}{n c:Nat}{xs:bp}{x:List α}(hn:n=x.length)(hx:xs=x.map enc):dx enc (rows++[⟨A,n,c,xs⟩]) (l++[x]):=by
 subst hn;subst hx;unfold dx at h⊢;rw[List.map_append,List.map_append,h];rfl
theorem dx.next{d:Nat}(h:dx enc rows (l.take d)){A:aA}{n c:Nat}{xs:bp}{x:List α}(hd:l[d]?=some x)(hn:n=x.length)(hx:xs=x.map enc):dx enc (rows++[⟨A,n,c,xs⟩]) (l.take (d+1)):=by
 obtain⟨fo,he⟩:=List.getElem?_eq_some_iff.1 hd;rw[List.take_succ_eq_append_getElem fo,he];exact h.push hn hx
theorem dx.set(h:dx enc rows l){A:aA}{n c i:Nat}{xs:bp}{x:List α}(hn:n=x.length)(hx:xs=x.map enc):dx enc (rows.set i ⟨A,n,c,xs⟩) (l.set i x):=by
 subst hn;subst hx;unfold dx at h⊢;rw[List.map_set,List.map_set,h]
theorem dx.all{d:Nat}(h:dx enc rows (l.take d))(hd:l.length≤d):dx enc rows l:=by rwa [List.take_of_length_le hd]at h
theorem dx.VC(n:Nat):dx enc (List.replicate n fg) (List.replicate n ([]:List α)):=by
 unfold dx;simp[fg]
end
theorem ee{w:World}{e:Nat}{rows:List dg}{A:aA}{n c i:Nat}{xs:bp}(h:(aL.bo e rows).holds w)(hi:rows[i]?=some ⟨A,n,c,xs⟩):(aL.rd A xs).holds w:=az (GL h hi)
theorem RO.ee{S:Nat→Prop}{w:World}{e:Nat}{rows:List dg}{A:aA}{n c i:Nat}{xs:bp}(h:RO S w (.bo e rows))(hi:rows[i]?=some ⟨A,n,c,xs⟩):RO S w (.row e 1 A n c xs):=⟨GL h.1 hi,fun g hg=>h.2 g ⟨_,List.mem_of_getElem? hi,hg⟩⟩
def mD(bs:List SB)(d b:Int):Bool:=gn bs (-1) d&&(gn bs (-1) b&& !(gn bs d b))
def gZ(bs:List SB):List (List Bool):=(List.range bs.length).map (fun d:Nat=>(List.range bs.length).map (fun b:Nat=>mD bs (d:Int) (b:Int)))
theorem kC(bs:List SB):(gZ bs).length=bs.length:=by simp[gZ]
theorem y6{bs:List SB}{d:Nat}{m:List Bool}(hd:d<bs.length)(h:bK bs.length m (mD bs (d:Int))):(gZ bs)[d]?=some m:=by
 have:m=(List.range bs.length).map (fun b:Nat=>mD bs (d:Int) (b:Int)):=tn h sI (fun j hj=>by simp[List.getD,hj]);rw[this];simp[gZ,hd]
theorem bK.congr{n:Nat}{l:List Bool}{S S':Int→Bool}(h:bK n l S)(e:∀i:Nat,i<n→S (i:Int)=S' (i:Int)):bK n l S':=⟨h.1,fun i hi=>(h.2 i hi).trans (e i hi)⟩
theorem Ip{bs:List SB}{d:Nat}(h:gn bs (-1) (d:Int)=false):bK bs.length (List.replicate bs.length false) (mD bs (d:Int)):=(bK.start bs.length).congr (fun i _=>by simp[mD,h])
def m6(bs:List SB)(d:Int)(k:Nat)(b:Int):Bool:=decide (b<(k:Int))&&mD bs d b
theorem ET(bs:List SB)(d:Int):bK bs.length (List.replicate bs.length false) (m6 bs d 0):=(bK.start bs.length).congr (fun i _=>by
  have:decide ((i:Int)<((0:Nat):Int))=false:=sI;rw[m6,this];rfl)
theorem y7{bs:List SB}{d:Int}{k:Nat}{m:List Bool}{v:Bool}(h:bK bs.length m (m6 bs d k))(hk:k<bs.length)(hv:v=mD bs d (k:Int)):bK bs.length (m.set k v) (m6 bs d (k+1)):=by
 refine⟨by simp[h.1],fun j hj=> ?_⟩;by_cases e:k=j
 ·subst e;have:k<m.length:=by rw[h.1];exact hk
  have h2:decide ((k:Int)<((k+1:Nat):Int))=true:=by simp;omega
  simp only[m6,h2,Bool.true_and];simp[List.getD,this,hv]
 ·have h1:=h.2 j hj;have h2:decide ((j:Int)<((k+1:Nat):Int))=decide ((j:Int)<(k:Int)):=by rw[decide_eq_decide];omega
  rw[m6,h2];rw[m6]at h1;rw[←h1];simp[List.getD,List.getElem?_set_ne e]
theorem Iq{bs:List SB}{d:Int}{k:Nat}{m:List Bool}(h:bK bs.length m (m6 bs d k))(hk:bs.length≤k):bK bs.length m (mD bs d):=h.congr (fun i hi=>by
  have:decide ((i:Int)<(k:Int))=true:=by simp;omega
  rw[m6,this];rfl)
theorem Lz{bs:List SB}{d:Nat}{b:Nat}(hd:gn bs (-1) (d:Int)=true)(hb:gn bs (-1) (b:Int)=true):(!(gn bs (d:Int) (b:Int)))=mD bs (d:Int) (b:Int):=by simp[mD,hd,hb]
theorem LA{bs:List SB}{d b:Int}(hb:gn bs (-1) b=false):false=mD bs d b:=by simp[mD,hb]
def EU(l:List (List Bool))(i j:Nat):Bool:=(l.getD i []).getD j false
def ka(l:List (List Bool))(b:Nat):Nat→Int
 |0=> -1
 |k+1=>if k≠b∧EU l k b=true∧(ka l b k<0∨EU l (ka l b k).toNat k=true)then(k:Int)else ka l b k
def pj(l:List (List Bool)):ar:=(List.range l.length).map (fun b=>ka l b l.length)
def VD(l:List (List Bool)):Prop:=∀(i:Nat) (x:List Bool),l[i]?=some x→x.length=l.length
theorem AJ(bs:List SB):VD (gZ bs):=by
 intro i x h;rw[kC];have:=List.mem_of_getElem? h;simp only[gZ,List.mem_map]at this;obtain⟨d,_,rfl⟩:=this;simp
theorem VE{l:List (List Bool)}(i:Nat)(hi:i<l.length):∃x,l[i]?=some x:=⟨_,List.getElem?_eq_getElem hi⟩
theorem VF{l:List (List Bool)}{i j:Nat}{x:List Bool}(h:l[i]?=some x):EU l i j=x.getD j false:=by simp[EU,List.getD,h]
def fF(bs:List SB):ar:=pj (gZ bs)
theorem LB{bs:List SB}{y x:Int}(h:x∈bW bs y):0≤x∧x<bs.length:=by
 simp only[bW,eL,List.mem_map,List.mem_filter,List.mem_range]at h;obtain⟨i,⟨h1,_⟩,rfl⟩:=h;omega
end Go.Mor
namespace Go.Mor
open Go.RowKit
theorem Ir(n:Nat)(x:SB):(CH n x).Nodup:=by
 unfold CH;refine KP _ ?_;split
 ·simp
 ·split
  ·split
   ·simp
   ·rename_i h;simp[h]
  ·simp
theorem LC(bs:List SB)(b:Int):(tg bs b).Nodup:=by
 unfold tg;split
 ·split
  ·exact Ir _ _
  ·simp
 ·simp
def tV(bs:List SB)(i:Nat):List ar:=(List.range bs.length).map (fun t:Nat=>eL bs (t:Int) i)
def wb(bs:List SB):List ar:=(List.range bs.length).map (fun t:Nat=>bW bs (t:Int))
def lj(bs:List SB)(i k:Nat):List ar:=(List.range bs.length).map (fun t:Nat=>eL bs (t:Int) i++(if((tg bs (i:Int)).take k).contains (t:Int)=true then[(i:Int)]else[]))
theorem It(bs:List SB):tV bs 0=List.replicate bs.length []:=by
 unfold tV;apply List.ext_getElem?;intro t;by_cases h:t<bs.length
 ·simp[h,eL]
 ·rw[List.getElem?_eq_none (by simpa using h),List.getElem?_eq_none (by simpa using h)]
theorem Q9(bs:List SB)(i:Nat):lj bs i 0=tV bs i:=by
 unfold lj tV;simp
theorem LD{bs:List SB}{i k:Nat}(hk:(tg bs (i:Int)).length≤k):lj bs i k=tV bs (i+1):=by
 unfold lj tV;apply List.map_congr_left;intro t _;rw[o9,List.take_of_length_le hk]
theorem Ra(bs:List SB):tV bs bs.length=wb bs:=rfl
theorem Rb{bs:List SB}{i k ti:Nat}(hk:(tg bs (i:Int))[k]?=some (ti:Int))(ht:ti<bs.length):(lj bs i k)[ti]?=some (eL bs (ti:Int) i):=by
 have hn:=LC bs (i:Int);have VG:¬(ti:Int)∈(tg bs (i:Int)).take k:=by intro h;obtain⟨fo,he⟩:=List.getElem?_eq_some_iff.1 hk;obtain⟨j,hj,he2⟩:=List.mem_take_iff_getElem.1 h;exact List.pairwise_iff_getElem.1 hn j k oM fo oM (he2.trans he.symm)
 unfold lj;rw[List.getElem?_map,List.getElem?_range ht];simp[VG]
theorem Rc{bs:List SB}{i k ti:Nat}(hk:(tg bs (i:Int))[k]?=some (ti:Int))(ht:ti<bs.length):(lj bs i k).set ti (eL bs (ti:Int) i++[(i:Int)])=lj bs i (k+1):=by
 obtain⟨fo,he⟩:=List.getElem?_eq_some_iff.1 hk;apply List.ext_getElem?;intro t;by_cases h:ti=t
 ·subst h;rw[List.getElem?_set_self (by simpa[lj]using ht)];unfold lj;rw[List.getElem?_map,List.getElem?_range ht,List.take_succ_eq_append_getElem fo,he];simp
 ·rw[List.getElem?_set_ne h];unfold lj;rw[List.getElem?_map,List.getElem?_map];by_cases h2:t<bs.length
  ·rw[List.getElem?_range h2,List.take_succ_eq_append_getElem fo,he];have h3:¬((t:Int)=(ti:Int)):=oM;simp[h3]
  ·rw[List.getElem?_eq_none (by simpa using h2)];rfl
theorem r5{bs:List SB}{t:Nat}(h:t<bs.length):(wb bs)[t]?=some (bW bs (t:Int)):=by simp[wb,h]
theorem LF(bs:List SB):(wb bs).length=bs.length:=by simp[wb]
theorem je{rows:List dg}{i:Nat}{r:dg}:(rows.set i fg).set i r=rows.set i r:=List.set_set ..
end Go.Mor
namespace Go.Mor
open Go.RowKit
section
variable (T : Int → List Int)
def Dm(d x:Int):Prop:=¬(d≠0∧Reach (Eh T d) x)
inductive RA(pl:Int→Int)(d:Int):Nat→Int→Prop
 |zero (k:Nat):d≠0→RA pl d k 0
 |PW {k:Nat} {x t:Int}:RA pl d k x→t∈T x→t≠d→pl x<pl t→RA pl d k t
 |ret {k:Nat} {x t:Int}:RA pl d k x→t∈T x→t≠d→RA pl d (k+1) t
structure Kv(pl:Int→Int):Prop where
 reach:∀x,0≤pl x↔Reach T x
 zero:pl 0=0
 inj:∀x y,0≤pl x→pl x=pl y→x=y
 src:∀x,0≤pl x→x≠0→∃s,0≤pl s∧pl s<pl x∧x∈T s
end
section
variable {T : Int → List Int} {pl : Int → Int}
theorem RA.self{d:Int}{k:Nat}:¬RA T pl d k d:=by
 intro h;cases h with
 |zero _ h=>exact h rfl
 |PW _ _ h _=>exact h rfl
 |ret _ _ h=>exact h rfl
theorem RA.mono{d x:Int}{k:Nat}(h:RA T pl d k x):RA T pl d (k+1) x:=by
 induction h with
 |zero k h=>exact .zero _ h
 |PW _ ht dG hl ih=>exact .PW ih ht dG hl
 |ret _ ht dG ih=>exact .ret ih ht dG
theorem RA.le{d x:Int}{k m:Nat}(h:RA T pl d k x)(hk:k≤m):RA T pl d m x:=by
 induction hk with
 |refl=>exact h
 |step _ ih=>exact ih.mono
theorem RA.reach{d x:Int}{k:Nat}(h:RA T pl d k x):Reach T x:=by
 induction h with
 |zero=>exact .zero
 |PW _ ht _ _ ih=>exact .step ih ht
 |ret _ ht _ ih=>exact .step ih ht
theorem RA.ex{d x:Int}(hd:d≠0)(h:Reach (Eh T d) x):∃k,RA T pl d k x:=by
 induction h with
 |zero=>exact⟨0,.zero 0 hd⟩
 |step _ ht ih=>
  obtain⟨k,hk⟩:=ih;exact⟨k+1,.ret hk (jd.1 ht).1 (jd.1 ht).2⟩
theorem RA.cut{d b x:Int}{k:Nat}(h:RA T pl d k x):RA T pl b k x∨RA T pl d k b:=by
 induction h with
 |zero k h=>
  by_cases e:b=0
  ·subst e;exact .inr (.zero k h)
  ·exact .inl (.zero k e)
 | @PW k x t hx ht dG hl ih=>
  rcases ih with ih|ih
  ·by_cases e:t=b
   ·subst e;exact .inr (.PW hx ht dG hl)
   ·exact .inl (.PW ih ht e hl)
  ·exact .inr ih
 | @ret k x t hx ht dG ih=>
  rcases ih with ih|ih
  ·by_cases e:t=b
   ·subst e;exact .inr (.ret hx ht dG)
   ·exact .inl (.ret ih ht e)
  ·exact .inr ih.mono
theorem RA.fL{d:Int}{k:Nat}(hs:∀x,RA T pl d (k+1) x→RA T pl d k x):∀m x,RA T pl d m x→RA T pl d k x:=by
 intro m x h;induction h with
 |zero _ h=>exact .zero k h
 |PW _ ht dG hl ih=>exact .PW ih ht dG hl
 |ret _ ht dG ih=>exact hs _ (.ret ih ht dG)
open Classical in
theorem RA.grow{n:Nat}(hR:∀x,Reach T x→0≤x∧x<(n:Int))(d:Int)(k:Nat):(∃j,j≤k∧∀x,RA T pl d (j+1) x→RA T pl d j x)∨fW n (fun x=>decide (RA T pl d k x))+k≤n:=by
 induction k with
 |zero=>exact .inr (by have:=kS n (fun x=>decide (RA T pl d 0 x));omega)
 |succ k ih=>
  rcases ih with⟨j,hj,h⟩|ih
  ·exact .inl ⟨j,oM,h⟩
  ·by_cases hs:∀x,RA T pl d (k+1) x→RA T pl d k x
   ·exact .inl ⟨k,oM,hs⟩
   ·right;have⟨x,hx⟩:=Classical.not_forall.1 hs;have⟨h1,h2⟩:=Classical.not_imp.1 hx;obtain⟨r0,r1⟩:=hR x h1.reach;have hu:=gH (n:=n) (S:=fun x=>decide (RA T pl d k x)) (t:=x) r0 r1 (by simpa using h2);have hm:=v8 (n:=n) (S:=cC (fun x=>decide (RA T pl d k x)) x) (S':=fun x=>decide (RA T pl d (k+1) x)) (fun y hy=>by
     simp only[cC,Bool.or_eq_true,beq_iff_eq,decide_eq_true_eq]at hy⊢;rcases hy with rfl|hy
     ·exact h1
     ·exact hy.mono)
    omega
theorem RA.all{n:Nat}(hR:∀x,Reach T x→0≤x∧x<(n:Int)){d x:Int}(h:¬RA T pl d (n+1) x):Dm T d x:=by
 rintro⟨hd,hr⟩;obtain⟨m,hm⟩:=RA.ex (pl:=pl) hd hr;rcases RA.grow (pl:=pl) hR d (n+1)with⟨j,hj,hs⟩|hu
 ·exact h ((RA.fL hs m x hm).le hj)
 ·omega
theorem Dm.self(x:Int):Dm T x x:=by
 rintro⟨h0,h⟩;cases h with
 |zero=>exact h0 rfl
 |step _ ht=>exact(jd.1 ht).2 rfl
theorem Dm.AN{d:Int}(h:Dm T d 0):d=0:=by
 by_cases e:d=0
 ·exact e
 ·exact absurd ⟨e,Reach.zero⟩ h
theorem Dm.src{d x s:Int}(h:Dm T d x)(dG:d≠x)(hx:x∈T s):Dm T d s:=by
 rintro⟨hd,hr⟩;exact h ⟨hd,.step hr (jd.2 ⟨hx,fun e=>dG e.symm⟩)⟩
theorem Dm.le(hp:Kv T pl){d x:Int}(hx:0≤pl x)(h:Dm T d x):pl d≤pl x:=by
 by_cases fo:pl d≤pl x
 ·exact fo
 ·exfalso;have hd:d≠0:=by rintro rfl;rw[hp.zero]at fo;omega
  refine h ⟨hd,?_⟩;clear h;have key:∀(m:Nat) (x:Int),0≤pl x→pl x<pl d→(pl x).toNat≤m→Reach (Eh T d) x:=by
   intro m;induction m with
   |zero=>
    intro x h0 _ hm;have:x=0:=hp.inj x 0 h0 (by rw[hp.zero];omega);exact this▸ .zero
   |succ m ih=>
    intro x h0 h1 hm;by_cases e:x=0
    ·exact e▸ .zero
    ·obtain⟨s,s0,s1,hs⟩:=hp.src x h0 e;exact .step (ih s s0 oM oM) (jd.2 ⟨hs,fun e=>by subst e;omega⟩)
  exact key _ x hx oM (Nat.le_refl _)
theorem Dm.reach{d x:Int}(hx:Reach T x)(h:Dm T d x):Reach T d:=by
 by_cases hd:Reach T d
 ·exact hd
 ·exfalso;refine h ⟨fun e=>hd (e▸ .zero),?_⟩;induction hx with
  |zero=>exact .zero
  | @step y t hy ht ih=>
   have hih:Reach (Eh T d) y:=by
    by_cases h2:Dm T d y
    ·exact ih h2
    ·exact(Classical.not_not.1 h2).2
   exact .step hih (jd.2 ⟨ht,fun e=>hd (e▸ .step hy ht)⟩)
inductive iE(up:Int→Int):Int→Int→Prop
 |refl (x:Int):iE up x x
 |step {x d:Int}:x≠0→iE up (up x) d→iE up x d
theorem iE.trans{up:Int→Int}{x y z:Int}(h:iE up x y)(h':iE up y z):iE up x z:=by
 induction h with
 |refl=>exact h'
 |step dG _ ih=>exact .step dG (ih h')
def km(pl up:Int→Int)(x:Int):Prop:=0≤pl x∧(x=0∨0≤up x)
structure Up(T:Int→ar)(pl up:Int→Int):Prop where
 low:∀x,km pl up x→x≠0→km pl up (up x)∧pl (up x)<pl x
 LG:∀x d,km pl up x→x≠0→Dm T d x→d≠x→Dm T d (up x)
theorem iE.zero{up:Int→Int}{d:Int}(h:iE up 0 d):d=0:=by
 cases h with
 |refl=>rfl
 |step h _=>exact absurd rfl h
theorem iE.EV{up:Int→Int}(hu:Up T pl up){x d:Int}(h:iE up x d)(hx:km pl up x):km pl up d∧pl d≤pl x∧(d≠x→pl d<pl x):=by
 induction h with
 |refl=>exact⟨hx,Int.le_refl _,fun h=>absurd rfl h⟩
 | @step x d dG _ ih=>
  obtain⟨h1,h2⟩:=hu.low x hx dG;obtain⟨a,b,c⟩:=ih h1;exact⟨a,oM,fun _=>oM⟩
theorem Up.EW{up:Int→Int}(hu:Up T pl up){x d:Int}(hx:km pl up x)(h:Dm T d x):iE up x d:=by
 have key:∀(m:Nat) (x:Int),km pl up x→(pl x).toNat≤m→Dm T d x→iE up x d:=by
  intro m;induction m with
  |zero=>
   intro x hx hm h;by_cases e:d=x
   ·exact e▸ .refl _
   ·by_cases e0:x=0
    ·subst e0;exact absurd h.AN e
    ·have h2:=hu.low x hx e0;have:=h2.1.1;omega
  |succ m ih=>
   intro x hx hm h;by_cases e:d=x
   ·exact e▸ .refl _
   ·by_cases e0:x=0
    ·subst e0;exact absurd h.AN e
    ·have h2:=hu.low x hx e0;have:=h2.1.1;exact .step e0 (ih _ h2.1 oM (hu.LG x d hx e0 h e))
 exact key _ x hx (Nat.le_refl _) h
inductive lW(pl up:Int→Int):Int→Int→Int→Prop
 |done (x:Int):lW pl up x x x
 |left {a b c:Int}:pl b<pl a→lW pl up (up a) b c→lW pl up a b c
 |right {a b c:Int}:pl a<pl b→lW pl up a (up b) c→lW pl up a b c
theorem lW.Qdf{up:Int→Int}(hp:Kv T pl)(hu:Up T pl up){a b c:Int}(h:lW pl up a b c)(ha:km pl up a)(hb:km pl up b):km pl up c∧iE up a c∧iE up b c∧∀d,Dm T d a→Dm T d b→Dm T d c:=by
 induction h with
 |done x=>exact⟨ha,.refl _,.refl _,fun d h _=>h⟩
 | @left a b c fo _ ih=>
  have dG:a≠0:=by rintro rfl;rw[hp.zero]at fo;have:=hb.1;omega
  obtain⟨h1,_⟩:=hu.low a ha dG;obtain⟨q1,q2,q3,q4⟩:=ih h1 hb;refine⟨q1,.step dG q2,q3,fun d hd Ei=>q4 d (hu.LG a d ha dG hd ?_) Ei⟩;rintro rfl;have:=Dm.le hp hb.1 Ei;omega
 | @right a b c fo _ ih=>
  have dG:b≠0:=by rintro rfl;rw[hp.zero]at fo;have:=ha.1;omega
  obtain⟨h1,_⟩:=hu.low b hb dG;obtain⟨q1,q2,q3,q4⟩:=ih ha h1;refine⟨q1,q2,.step dG q3,fun d hd Ei=>q4 d hd (hu.LG b d hb dG Ei ?_)⟩;rintro rfl;have:=Dm.le hp ha.1 hd;omega
end
end Go.Mor
namespace Go.Mor
open Go.RowKit
section
variable {T : Int → List Int} {pl : Int → Int}
structure AP(T:Int→ar)(pl up:Int→Int)(k:Nat)(j:Int):Prop where
 ok:Up T pl up
 some:∀x,0≤pl x→x≠0→(pl x≤j∨1≤k)→0≤up x
 off:∀x,(pl x<0∨x=0)→up x= -1
 non:k=0→∀x,j<pl x→up x= -1
 lo:∀x d,km pl up x→pl x≤j→iE up x d→¬RA T pl d k x
 hi:1≤k→∀x d,km pl up x→iE up x d→¬RA T pl d (k-1) x
def Fold(T:Int→ar)(pl up:Int→Int)(ss:ar)(to:Int):Prop:=(to= -1∧∀s,s∈ss→¬km pl up s)∨(km pl up to∧(∃s,s∈ss∧km pl up s)∧(∀s,s∈ss→km pl up s→iE up s to)∧∀d,(∀s,s∈ss→km pl up s→Dm T d s)→Dm T d to)
variable {up : Int → Int}
theorem Fold.start:Fold T pl up [] (-1):= .inl ⟨rfl,fun _ h=>(List.not_mem_nil h).elim⟩
theorem Fold.skip{ss:ar}{to s:Int}(h:Fold T pl up ss to)(hs:¬km pl up s):Fold T pl up (ss++[s]) to:=by
 have hm:∀x,x∈ss++[s]→km pl up x→x∈ss:=by
  intro x hx hp;rcases List.mem_append.1 hx with hx|hx
  ·exact hx
  ·simp only[List.mem_singleton]at hx;exact absurd (hx▸hp) hs
 rcases h with⟨h1,h2⟩|⟨h1,⟨q,hq,hqp⟩,h2,h3⟩
 ·exact .inl ⟨h1,fun x hx hp=>h2 x (hm x hx hp) hp⟩
 ·exact .inr ⟨h1,⟨q,List.mem_append_left _ hq,hqp⟩,fun x hx hp=>h2 x (hm x hx hp) hp,fun d hd=>h3 d (fun x hx hp=>hd x (List.mem_append_left _ hx) hp)⟩
theorem Fold.first{ss:ar}{to s:Int}(h:Fold T pl up ss to)(hto:to<0)(hr:∀x,0≤pl x→0≤x)(hs:km pl up s):Fold T pl up (ss++[s]) s:=by
 rcases h with⟨h1,h2⟩|⟨h1,_⟩
 ·refine .inr ⟨hs,⟨s,sI,hs⟩,fun x hx hp=> ?_,fun d hd=>hd s sI hs⟩;rcases List.mem_append.1 hx with hx|hx
  ·exact absurd hp (h2 x hx)
  ·simp only[List.mem_singleton]at hx;exact hx▸ .refl _
 ·have:=hr to h1.1;omega
theorem Fold.meet{ss:ar}{to s c:Int}(hp:Kv T pl)(hu:Up T pl up)(h:Fold T pl up ss to)(hto:0≤to)(hs:km pl up s)(hc:lW pl up to s c):Fold T pl up (ss++[s]) c:=by
 rcases h with⟨h1,h2⟩|⟨h1,h0,h2,h3⟩
 ·omega
 ·obtain⟨q1,q2,q3,q4⟩:=hc.Qdf hp hu h1 hs;refine .inr ⟨q1,⟨s,sI,hs⟩,fun x hx hp=> ?_,fun d hd=>q4 d (h3 d (fun x hx hp=>hd x (List.mem_append_left _ hx) hp)) (hd s sI hs)⟩;rcases List.mem_append.1 hx with hx|hx
  ·exact(h2 x hx hp).trans q2
  ·simp only[List.mem_singleton]at hx;exact hx▸q3
theorem Fold.EV{ss:ar}{to:Int}(h:Fold T pl up ss to)(hto:0≤to):km pl up to:=by
 rcases h with⟨h1,_⟩|⟨h1,_⟩
 ·omega
 ·exact h1
def qW(up:Int→Int)(b c:Int):Int→Int:=fun x=>if x=b then c else up x
theorem LH{b:Int}:qW up b (up b)=up:=by
 funext x;unfold qW;split
 ·subst_vars;rfl
 ·rfl
theorem tq{b c:Int}:qW up b c b=c:=by simp[qW]
theorem m7{b c x:Int}(h:x≠b):qW up b c x=up x:=by simp[qW,h]
section
variable {b c : Int}
theorem GW(hc:0≤c){x:Int}(h:km pl up x):km pl (qW up b c) x:=by
 refine⟨h.1,h.2.imp id fun h=> ?_⟩;by_cases e:x=b
 ·subst e;rw[tq];exact hc
 ·rw[m7 e];exact h
theorem uZ{x:Int}(h:km pl (qW up b c) x)(e:x≠b):km pl up x:=by
 refine⟨h.1,h.2.imp id fun h=> ?_⟩;rwa [m7 e]at h
theorem GX{x d:Int}(h:iE (qW up b c) x d):iE up x d∨(iE up x b∧iE (qW up b c) b d):=by
 induction h with
 |refl x=>exact .inl (.refl x)
 | @step x d dG h ih=>
  by_cases e:x=b
  ·subst e;exact .inr ⟨.refl _,.step dG h⟩
  ·rw[m7 e]at ih;rcases ih with ih|⟨ih,h2⟩
   ·exact .inl (.step dG ih)
   ·exact .inr ⟨.step dG ih,h2⟩
theorem Iu(hu:Up T pl up){x d:Int}(h:iE (qW up b c) x d)(hx:km pl up x)(fo:pl x<pl b):iE up x d:=by
 induction h with
 |refl x=>exact .refl x
 | @step x d dG h ih=>
  have e:x≠b:=by rintro rfl;omega
  rw[m7 e]at h ih;obtain⟨h1,h2⟩:=hu.low x hx dG;exact .step dG (ih h1 oM)
theorem AP.step{k:Nat}{j:Int}{ss:ar}(hp:Kv T pl)(hr:∀x,0≤pl x→0≤x)(h:AP T pl up k j)(hj:0≤j)(hb:pl b=j+1)(hss:∀s,0≤pl s→(s∈ss↔b∈T s))(hc:Fold T pl up ss c):0≤c∧km pl up c∧pl c<pl b∧(∀s,km pl up s→b∈T s→iE up s c)∧(∀d,d≠b→Dm T d b→Dm T d c)∧AP T pl (qW up b c) k (j+1):=by
 have y8:b≠0:=by rintro rfl;rw[hp.zero]at hb;omega
 have Kw:0≤pl b:=oM;obtain⟨s0,p0,p1,ps⟩:=hp.src b Kw y8;have EX:∀x,0≤pl x→pl x≤j∨1≤k→km pl up x:=by
  intro x h0 h1;refine⟨h0,?_⟩;by_cases e:x=0
  ·exact .inl e
  ·exact .inr (h.some x h0 e h1)
 have Vi:km pl up s0:=EX s0 p0 (.inl oM);rcases hc with⟨_,h2⟩|⟨Iv,_,h2,h3⟩
 ·exact absurd Vi (h2 s0 ((hss s0 p0).2 ps))
 ·have a2:∀s,km pl up s→b∈T s→iE up s c:=fun s hs Kx=>h2 s ((hss s hs.1).2 Kx) hs
  have a0:=(a2 s0 Vi ps).EV h.ok Vi;have EY:pl c<pl b:=oM;have Y3:0≤c:=hr c Iv.1;have a3:∀d,d≠b→Dm T d b→Dm T d c:=fun d dG hd=>h3 d (fun s hs H8=>hd.src dG ((hss s H8.1).1 hs))
  have Qac:c≠b:=by rintro rfl;omega
  have ab:∀d,iE (qW up b c) b d→d=b∨iE up c d:=by
   intro d hd;cases hd with
   |refl=>exact .inl rfl
   |step _ hd=>
    rw[tq]at hd;exact .inr (Iu h.ok hd Iv EY)
  have nb:∀d,iE (qW up b c) b d→¬RA T pl d k b:=by
   intro d hd;rcases ab d hd with rfl|hd
   ·exact RA.self
   ·intro Iw;cases Iw with
    |zero=>exact y8 rfl
    | @PW _ s _ hs Kx dG hl=>
     have vU:=(hp.reach s).2 hs.reach;have H8:=EX s vU (.inl oM);exact h.lo s d H8 oM ((a2 s H8 Kx).trans hd) hs
    | @ret k' s _ hs Kx dG=>
     have vU:=(hp.reach s).2 hs.reach;have H8:=EX s vU (.inr oM);exact h.hi oM s d H8 ((a2 s H8 Kx).trans hd) (by simpa using hs)
  refine⟨Y3,Iv,EY,a2,a3,⟨⟨fun x hx dG=> ?_,fun x d hx dG hd hdx=> ?_⟩,fun x hx dG Ez=> ?_,fun x hx=> ?_,fun hk x hx=> ?_,fun x d hx Ez hd Iw=> ?_,fun hk x d hx hd Iw=> ?_⟩⟩
  ·by_cases e:x=b
   ·subst e;rw[tq];exact⟨GW Y3 Iv,EY⟩
   ·rw[m7 e];obtain⟨h1,h2⟩:=h.ok.low x (uZ hx e) dG;exact⟨GW Y3 h1,h2⟩
  ·by_cases e:x=b
   ·subst e;rw[tq];exact a3 d hdx hd
   ·rw[m7 e];exact h.ok.LG x d (uZ hx e) dG hd hdx
  ·by_cases e:x=b
   ·subst e;rw[tq];exact Y3
   ·rw[m7 e];refine h.some x hx dG (Ez.imp (fun h1=> ?_) id);by_cases e2:pl x=j+1
    ·exact absurd (hp.inj x b hx oM) e
    ·omega
  ·have e:x≠b:=by rintro rfl;omega
   rw[m7 e];exact h.off x hx
  ·have e:x≠b:=by rintro rfl;omega
   rw[m7 e];exact h.non hk x oM
  ·by_cases e:x=b
   ·subst e;exact nb d hd Iw
   ·have Ku:=uZ hx e;have hxj:pl x≤j:=by
     by_cases e2:pl x=j+1
     ·exact absurd (hp.inj x b hx.1 oM) e
     ·omega
    rcases GX hd with hd|⟨VH,hd⟩
    ·exact h.lo x d Ku hxj hd Iw
    ·rcases RA.cut (b:=b) Iw with h1|h1
     ·exact h.lo x b Ku hxj VH h1
     ·exact nb d hd h1
  ·by_cases e:x=b
   ·subst e;exact nb d hd (Iw.le oM)
   ·have Ku:=uZ hx e;rcases GX hd with hd|⟨VH,hd⟩
    ·exact h.hi hk x d Ku hd Iw
    ·rcases RA.cut (b:=b) Iw with h1|h1
     ·exact h.hi hk x b Ku VH h1
     ·exact nb d hd (h1.le oM)
end
theorem AP.start(hp:Kv T pl):AP T pl (fun _=> -1) 0 0:=by
 have hz:∀x,km pl (fun _=> -1) x→x=0:=by
  rintro x ⟨_,h|h⟩
  ·exact h
  ·have h:(0:Int)≤-1:=h;omega
 refine⟨⟨fun x hx dG=>absurd (hz x hx) dG,fun x d hx dG=>absurd (hz x hx) dG⟩,fun x hx dG h=> ?_,fun _ _=>rfl,fun _ _ _=>rfl,fun x d hx _ hd=> ?_,fun h=>absurd h dQ⟩
 ·exfalso;rcases h with h|h
  ·exact dG (hp.inj x 0 hx (by rw[hp.zero];omega))
  ·omega
 ·have:=hz x hx;subst this;rw[hd.zero];exact RA.self
theorem AP.Qdg{k:Nat}{j:Int}(hp:Kv T pl)(h:AP T pl up k j)(hj:∀x,pl x≤j):AP T pl up (k+1) 0:=by
 refine⟨h.ok,fun x hx dG _=>h.some x hx dG (.inl (hj x)),h.off,fun h=>absurd h oM,fun x d hx h0 hd=> ?_,fun _ x d hx hd=>by simpa using h.lo x d hx (hj x) hd⟩;have:x=0:=hp.inj x 0 hx.1 (by have:=hx.1;rw[hp.zero];omega);subst this;rw[hd.zero];exact RA.self
theorem AP.full{k n:Nat}{j:Int}{b c:Int}(hp:Kv T pl)(hR:∀x,Reach T x→0≤x∧x<(n:Int))(h:AP T pl up k j)(hk:n+2≤k)(hb:0≤pl b)(y8:b≠0)(Iv:km pl up c)(EY:pl c<pl b)(a2:∀s,km pl up s→b∈T s→iE up s c)(a3:∀d,d≠b→Dm T d b→Dm T d c):up b=c:=by
 have EV:∀x,0≤pl x→km pl up x:=fun x h0=>⟨h0,by
  by_cases e:x=0
  ·exact .inl e
  ·exact .inr (h.some x h0 e (.inr oM))⟩
 have dm:∀x d,km pl up x→iE up x d→Dm T d x:=fun x d hx hd=>RA.all (pl:=pl) hR (n:=n) (fun Iw=>h.hi oM x d hx hd (Iw.le oM))
 have Y4:=EV b hb;obtain⟨h1,h2⟩:=h.ok.low b Y4 y8;have hub:up b≠b:=by intro e;rw[e]at h2;omega
 have e1:iE up c (up b):=h.ok.EW Iv (a3 _ hub (dm b _ Y4 (.step y8 (.refl _))));have Qac:c≠b:=by rintro rfl;omega
 have dcb:Dm T c b:=by
  rintro⟨Y3,hr⟩;cases hr with
  |zero=>exact y8 rfl
  | @step s _ hs Kx=>
   have Qdh:=(jd.1 Kx).1;have vU:Reach T s:=by
    have key:∀x,Reach (Eh T c) x→Reach T x:=by
     intro x hx;induction hx with
     |zero=>exact .zero
     |step _ ht ih=>exact .step ih (jd.1 ht).1
    exact key s hs
   have H8:=EV s ((hp.reach s).2 vU);exact dm s c H8 (a2 s H8 Qdh) ⟨Y3,hs⟩
 have e2:iE up (up b) c:=h.ok.EW h1 (h.ok.LG b c Y4 y8 dcb Qac);have q1:=(e1.EV h.ok Iv).2.1;have q2:=(e2.EV h.ok h1).2.1;exact hp.inj _ _ h1.1 oM
def Ix(T:Int→ar)(pl up:Int→Int)(j:Int):Prop:=∀b s,1≤pl b→pl b≤j→0≤pl s→b∈T s→iE up s (up b)
theorem Ix.start:Ix T pl up 0:=fun b s h h'=>oM
theorem Ix.next{j b:Int}(hp:Kv T pl)(h:Ix T pl up j)(hb:pl b=j+1)(ha:∀s,0≤pl s→b∈T s→iE up s (up b)):Ix T pl up (j+1):=by
 intro x s h1 h2 hs hx;by_cases e:pl x=j+1
 ·have:x=b:=hp.inj x b oM oM;exact this▸ha s hs (this▸hx)
 ·exact h x s h1 oM hs hx
theorem Ix.dm{j:Int}(hp:Kv T pl)(h:Ix T pl up j)(hj:∀x,pl x≤j){x d:Int}(ha:iE up x d):Dm T d x:=by
 rintro⟨hd,hr⟩;have toR:∀x,Reach (Eh T d) x→Reach T x:=by
  intro x hx;induction hx with
  |zero=>exact .zero
  |step _ ht ih=>exact .step ih (jd.1 ht).1
 induction hr with
 |zero=>exact hd ha.zero
 | @step y t hy ht ih=>
  obtain⟨ht',dG⟩:=jd.1 ht;cases ha with
  |refl=>exact dG rfl
  |step h0 ha=>
   have hyr:=(hp.reach y).2 (toR y hy);have Lm:=(hp.reach t).2 (.step (toR y hy) ht');have:1≤pl t:=by
    by_cases e:pl t=0
    ·exact absurd (hp.inj t 0 Lm (by rw[hp.zero];exact e)) h0
    ·omega
   exact ih ((h t y this (hj t) hyr ht').trans ha)
theorem iE.total{x y z:Int}(h:iE up x y)(h':iE up x z):iE up y z∨iE up z y:=by
 induction h with
 |refl=>exact .inl h'
 | @step x d dG h ih=>
  cases h' with
  |refl=>exact .inr (.step dG h)
  |step _ h'=>exact ih h'
end
end Go.Mor
namespace Go.Mor
open Go.RowKit
def cE(n:Nat)(l:ar)(f:Int→Int):Prop:=l.length=n∧∀i:Nat,i<n→l.getD i 0=f (i:Int)
theorem cE.ext{n:Nat}{l m:ar}{f:Int→Int}(h:cE n l f)(h':cE n m f):l=m:=by
 apply List.ext_getElem?;intro i;by_cases hi:i<n
 ·have h1:=h.2 i hi;have h2:=h'.2 i hi;have e1:i<l.length:=by rw[h.1];exact hi
  have e2:i<m.length:=by rw[h'.1];exact hi
  simp only[List.getD,List.getElem?_eq_getElem e1,List.getElem?_eq_getElem e2,Option.getD_some]at h1 h2⊢;rw[h1,h2]
 ·rw[List.getElem?_eq_none (by rw[h.1];omega),List.getElem?_eq_none (by rw[h'.1];omega)]
theorem cE.set{n:Nat}{l:ar}{f g:Int→Int}(h:cE n l f){i:Nat}{v:Int}(_hi:i<n)(hg:g (i:Int)=v)(dG:∀j:Nat,j<n→j≠i→g (j:Int)=f (j:Int)):cE n (l.set i v) g:=by
 refine⟨by simp[h.1],fun j hj=> ?_⟩;by_cases e:i=j
 ·subst e;have:i<l.length:=by rw[h.1];exact hj
  simp[List.getD,this,hg]
 ·rw[dG j hj (fun h=>e h.symm),←h.2 j hj];simp[List.getD,List.getElem?_set_ne e]
theorem cE.get{n:Nat}{l:ar}{f:Int→Int}(h:cE n l f){i:Nat}(hi:i<n):l[i]?=some (f (i:Int)):=by
 have h1:=h.2 i hi;have e1:i<l.length:=by rw[h.1];exact hi
 simp only[List.getD,List.getElem?_eq_getElem e1,Option.getD_some]at h1;rw[List.getElem?_eq_getElem e1,h1]
theorem cE.congr{n:Nat}{l:ar}{f g:Int→Int}(h:cE n l f)(e:∀i:Nat,i<n→f (i:Int)=g (i:Int)):cE n l g:=⟨h.1,fun i hi=>(h.2 i hi).trans (e i hi)⟩
def qC(k:Nat)(x:Int):Int:=if x<(k:Int)then-1 else 0
theorem wc(n:Nat):cE n (List.replicate n 0) (qC 0):=⟨sI,fun i hi=>by
 have:¬((i:Int)<((0:Nat):Int)):=oM;rw[qC,if_neg this];simp[List.getD,hi]⟩
theorem y9{n k:Nat}{l:ar}(h:cE n l (qC k))(hk:k<n):cE n (l.set k (-1)) (qC (k+1)):=by
 refine h.set hk ?_ fun j _ dG=> ?_
 ·rw[qC,if_pos oM]
 ·unfold qC;by_cases e:(j:Int)<(k:Int)
  ·rw[if_pos e,if_pos oM]
  ·rw[if_neg e,if_neg oM]
theorem CW{n k:Nat}{l:ar}(h:cE n l (qC k))(hk:n≤k):cE n l (fun _=> -1):=h.congr (fun i hi=>by rw[qC,if_pos oM])
def tr(l:ar)(x:Int):Int:=oG (fun y=>y==x) l
theorem ll{l:ar}(hn:l.Nodup){i:Nat}{x:Int}(h:l[i]?=some x):tr l x=(i:Int):=by
 obtain⟨fo,he⟩:=List.getElem?_eq_some_iff.1 h;refine CI (j:=i) ?_ (by simp[List.getD,fo,he]) fo;rw[List.any_eq_false];intro y hy;obtain⟨j,hj,he2⟩:=List.mem_take_iff_getElem.1 hy;simp only[beq_iff_eq];intro e;exact List.pairwise_iff_getElem.1 hn j i oM fo oM (by rw[he2,he,e])
theorem AQ{l:ar}{x:Int}(h:x∉l):tr l x= -1:=by
 refine yQ (j:=l.length) ?_ (Nat.le_refl _);rw[List.any_eq_false];intro y hy;simp only[beq_iff_eq];rintro rfl;exact h (List.mem_of_mem_take hy)
theorem u1{l:ar}(hn:l.Nodup){x:Int}:0≤tr l x↔x∈l:=by
 constructor
 ·intro h;by_cases e:x∈l
  ·exact e
  ·rw[AQ e]at h;omega
 ·intro h;obtain⟨i,hi⟩:=List.mem_iff_getElem?.1 h;rw[ll hn hi];omega
theorem Rd{l:ar}(hn:l.Nodup){x:Int}{i:Nat}(h:tr l x=(i:Int)):l[i]?=some x:=by
 have hm:=(u1 hn (x:=x)).1 oM;obtain⟨j,hj⟩:=List.mem_iff_getElem?.1 hm;have:=ll hn hj;rw[this]at h;have:j=i:=oM;exact this▸hj
theorem VI{l:ar}{x:Int}:tr l x<l.length:=(Av _ l).2
theorem CX{l:ar}(hn:l.Nodup){k:Nat}{b:Int}(hk:l[k]?=some b)(x:Int):tr (l.take (k+1)) x=if x=b then(k:Int)else tr (l.take k) x:=by
 obtain⟨fo,he⟩:=List.getElem?_eq_some_iff.1 hk;have CY:(l.take (k+1)).Nodup:=hn.sublist (List.take_sublist _ _);have Re:(l.take k).Nodup:=hn.sublist (List.take_sublist _ _);by_cases e:x=b
 ·subst e;rw[if_pos rfl];exact ll CY (by rw[List.getElem?_take_of_lt oM];exact hk)
 ·rw[if_neg e];by_cases hm:x∈l.take k
  ·obtain⟨j,hj⟩:=List.mem_iff_getElem?.1 hm;rw[ll Re hj];have hjk:j<k:=by have:=(List.getElem?_eq_some_iff.1 hj).1;simp at this;omega
   rw[List.getElem?_take_of_lt hjk]at hj;exact ll CY (by rw[List.getElem?_take_of_lt oM];exact hj)
  ·rw[AQ hm,AQ];rw[List.take_succ_eq_append_getElem fo,he];simp only[List.mem_append,List.mem_singleton,not_or];exact⟨hm,e⟩
structure LI(T:Int→ar)(l:ar):Prop where
 head:l[0]?=some 0
 nodup:l.Nodup
 mem:∀x,x∈l↔Reach T x
 src:∀x,x∈l→x≠0→∃s,tr l s<tr l x∧0≤tr l s∧x∈T s
theorem lX{bs:List SB}(h:0<bs.length):LI (tg bs) (au bs):=by
 obtain⟨s,hk,he⟩:=tj bs;have hz:=y4 hk;obtain⟨nw,h1,h2,h3,h4,h5⟩:=Lv hk;simp only[mA]at h1;have hl:au bs=0::nw.reverse:=by unfold au;rw[if_neg oM,←he,h1];simp
 have h0:(0:Int)∉nw:=by intro hm;have:=h4 0 hm;simp[cC]at this
 have uA:(au bs).Nodup:=by rw[hl,List.nodup_cons];exact⟨by simpa using h0,List.pairwise_reverse.2 (h3.imp (fun h=>fun e=>h e.symm))⟩
 refine⟨by rw[hl];rfl,uA,fun x=> ?_,fun x hx dG=> ?_⟩
 ·rw[←hz x,h2 x,hl];simp[cC]
 ·have Ku:x∈nw:=by rw[hl]at hx;simpa[dG]using hx
  obtain⟨l1,l2,e⟩:=List.append_of_mem Ku;have oD:au bs=(0::l2.reverse)++x::l1.reverse:=by rw[hl,e];simp
  have px:tr (au bs) x=((0::l2.reverse).length:Int):=by refine ll uA ?_;rw[oD,List.getElem?_append_right (Nat.le_refl _)];simp
  have py:∀y,y∈(0:Int)::l2.reverse→tr (au bs) y<tr (au bs) x∧0≤tr (au bs) y:=by
   intro y hy;obtain⟨j,hj,VJ⟩:=List.mem_iff_getElem.1 hy;have:tr (au bs) y=(j:Int):=by refine ll uA ?_;rw[oD,List.getElem?_append_left hj,List.getElem?_eq_getElem hj,VJ]
   omega
  rcases h5 l1 x l2 e with h|⟨y,hy,h⟩
  ·exact⟨0,(py 0 sI).1,(py 0 sI).2,h⟩
  ·have:=py y (by simp[hy]);exact⟨y,this.1,this.2,h⟩
theorem LI.tr{T:Int→ar}{l:ar}(h:LI T l):Kv T (tr l)where
 reach:=fun x=>(u1 h.nodup).trans (h.mem x)
 zero:=ll h.nodup h.head;inj:=fun x y hx e=>by obtain⟨i,hi⟩:=List.mem_iff_getElem?.1 ((u1 h.nodup).1 hx);have e1:=ll h.nodup hi;have e2:=Rd h.nodup (x:=y) (i:=i) oM;rw[hi]at e2;injection e2
 src:=fun x hx dG=>by obtain⟨s,h1,h2,h3⟩:=h.src x ((u1 h.nodup).1 hx) dG;exact⟨s,h2,h1,h3⟩
def jf(bs:List SB)(x:Int):Int:=tr (au bs) x
theorem jg{bs:List SB}(h:0<bs.length):Kv (tg bs) (jf bs):=(lX h).tr
theorem pZ{bs:List SB}(h:0<bs.length){x:Int}(hx:Reach (tg bs) x):0≤x∧x<(bs.length:Int):=Lx h (fun _ _ h=>nY h) hx
theorem kL{bs:List SB}(h:0<bs.length){x:Int}(hx:0≤jf bs x):0≤x∧x<(bs.length:Int):=pZ h (((jg h).reach x).1 hx)
def tt(bs:List SB):ar:=(List.range bs.length).map (fun i:Nat=>jf bs (i:Int))
theorem LJ(bs:List SB):cE bs.length (tt bs) (jf bs):=⟨by simp[tt],fun i hi=>by simp[tt,List.getD,hi]⟩
theorem LK{bs:List SB}{b s:Int}:s∈bW bs b↔(0≤s∧s<bs.length)∧b∈tg bs s:=by
 simp only[bW,eL,List.mem_map,List.mem_filter,List.mem_range,List.contains_eq_mem,decide_eq_true_eq];constructor
 ·rintro⟨i,⟨h1,h2⟩,rfl⟩;exact⟨oM,h2⟩
 ·rintro⟨h1,h2⟩;obtain⟨k,rfl⟩:=Int.eq_ofNat_of_zero_le h1.1;exact⟨k,⟨oM,h2⟩,rfl⟩
theorem lY{bs:List SB}{x:Int}:gn bs (-1) x=true↔Reach (tg bs) x:=by
 rw[ph];have e:∀y,Eh (tg bs) (-1) y=tg bs y:=by intro y;unfold Eh;rw[List.filter_eq_self];intro t ht;have:=nY ht;simp only[Bool.not_eq_true',beq_eq_false_iff_ne,ne_eq];omega
 have e2:Eh (tg bs) (-1)=tg bs:=funext e;rw[e2];exact⟨fun h=>h.2,fun h=>⟨dQ,h⟩⟩
theorem Rf{bs:List SB}{d x:Int}:gn bs d x=false↔Dm (tg bs) d x:=by
 unfold Dm;rw[←ph];simp
theorem r7{bs:List SB}{d b:Nat}(hd:d<bs.length)(hb:b<bs.length):EU (gZ bs) d b=true↔Reach (tg bs) (b:Int)∧Dm (tg bs) (d:Int) (b:Int):=by
 have:EU (gZ bs) d b=mD bs (d:Int) (b:Int):=by simp[EU,gZ,List.getD,hd,hb]
 rw[this];simp only[mD,Bool.and_eq_true,Bool.not_eq_true'];rw[lY,lY,Rf];exact⟨fun h=>h.2,fun h=>⟨Dm.reach h.1 h.2,h⟩⟩
theorem za{l:List (List Bool)}{b k:Nat}(h:∀d:Nat,d<k→d≠b→EU l d b=false):ka l b k= -1:=by
 induction k with
 |zero=>rfl
 |succ k ih=>
  unfold ka;rw[ih (fun d hd=>h d oM)];refine if_neg fun hh=> ?_
  rw[h k oM hh.1]at hh;exact Bool.noConfusion hh.2.1
theorem LL{bs:List SB}{up:Int→Int}(h0:0<bs.length)(hu:Up (tg bs) (jf bs) up)(hp:∀x,0≤jf bs x→km (jf bs) up x)(hd:∀x d,0≤jf bs x→iE up x d→Dm (tg bs) d x){b:Nat}(hb:b<bs.length)(hr:0≤jf bs (b:Int)):∀k,k≤bs.length→(ka (gZ bs) b k= -1∧∀d:Nat,d<k→d≠b→¬Dm (tg bs) (d:Int) (b:Int))∨(∃d:Nat,ka (gZ bs) b k=(d:Int)∧d<k∧d≠b∧Dm (tg bs) (d:Int) (b:Int)∧∀e:Nat,e<k→e≠b→Dm (tg bs) (e:Int) (b:Int)→Dm (tg bs) (e:Int) (d:Int)):=by
 have hP:=jg h0;have Kw:=(hP.reach _).1 hr;have rd:∀d x,0≤jf bs x→Dm (tg bs) d x→0≤jf bs d:=fun d x hx h=>(hP.reach d).2 (Dm.reach ((hP.reach x).1 hx) h)
 intro k;induction k with
 |zero=>exact fun _=> .inl ⟨rfl,fun d h=>oM⟩
 |succ k ih=>
  intro hk;have PX:EU (gZ bs) k b=true↔Dm (tg bs) (k:Int) (b:Int):=by rw[r7 oM hb];exact⟨fun h=>h.2,fun h=>⟨Kw,h⟩⟩
  rcases ih oM with⟨h1,h2⟩|⟨d,h1,h2,h3,h4,h5⟩
  ·by_cases c:k≠b∧EU (gZ bs) k b=true
   ·right;refine⟨k,?_,oM,c.1,PX.1 c.2,fun e he dG Ei=> ?_⟩
    ·unfold ka;exact if_pos ⟨c.1,c.2,.inl oM⟩
    ·by_cases e2:e=k
     ·subst e2;exact Dm.self _
     ·exact absurd Ei (h2 e oM dG)
   ·left;refine⟨?_,fun e he dG Ei=> ?_⟩
    ·unfold ka;rw[if_neg (fun hh=>c ⟨hh.1,hh.2.1⟩)];exact h1
    ·by_cases e2:e=k
     ·subst e2;exact c ⟨dG,PX.2 Ei⟩
     ·exact h2 e oM dG Ei
  ·have Qy:EU (gZ bs) d k=true↔Reach (tg bs) (k:Int)∧Dm (tg bs) (d:Int) (k:Int):=r7 oM oM;by_cases c:k≠b∧EU (gZ bs) k b=true
   ·have hkb:=PX.1 c.2;have vV:=rd _ _ hr hkb;by_cases c2:EU (gZ bs) d k=true
    ·right;refine⟨k,?_,oM,c.1,hkb,fun e he dG Ei=> ?_⟩
     ·unfold ka;exact if_pos ⟨c.1,c.2,.inr (by rw[h1];exact c2)⟩
     ·by_cases e2:e=k
      ·subst e2;exact Dm.self _
      ·have a1:=hu.EW (hp _ vV) (Qy.1 c2).2;have a2:=hu.EW (hp _ (rd _ _ vV (Qy.1 c2).2)) (h5 e oM dG Ei);exact hd _ _ vV (a1.trans a2)
    ·right;refine⟨d,?_,oM,h3,h4,fun e he dG Ei=> ?_⟩
     ·unfold ka;rw[if_neg]
      ·exact h1
      ·rintro⟨_,_,hh⟩;rw[h1]at hh;rcases hh with hh|hh
       ·omega
       ·exact c2 hh
     ·by_cases e2:e=k
      ·subst e2;have hdr:=rd _ _ hr h4;rcases iE.total (hu.EW (hp _ hr) hkb) (hu.EW (hp _ hr) h4)with t|t
       ·exact absurd (Qy.2 ⟨(hP.reach _).1 vV,hd _ _ vV t⟩) c2
       ·exact hd _ _ hdr t
      ·exact h5 e oM dG Ei
   ·right;refine⟨d,?_,oM,h3,h4,fun e he dG Ei=> ?_⟩
    ·unfold ka;rw[if_neg (fun hh=>c ⟨hh.1,hh.2.1⟩)];exact h1
    ·by_cases e2:e=k
     ·subst e2;exact absurd ⟨dG,PX.2 Ei⟩ c
     ·exact h5 e oM dG Ei
theorem Iy{bs:List SB}{up:Int→Int}{ab:ar}{k:Nat}{i j:Int}(h0:0<bs.length)(hr:AP (tg bs) (jf bs) up k i)(hk:1≤k)(hs:Ix (tg bs) (jf bs) up j)(hj:∀x,jf bs x≤j)(PY:cE bs.length ab up):ab=fF bs:=by
 have hP:=jg h0;have hp:∀x,0≤jf bs x→km (jf bs) up x:=fun x h=>⟨h,by
  by_cases e:x=0
  ·exact .inl e
  ·exact .inr (hr.some x h e (.inr hk))⟩
 have hd:∀x d,0≤jf bs x→iE up x d→Dm (tg bs) d x:=fun x d _ h=>hs.dm hP hj h
 refine PY.ext ⟨by simp[fF,pj,kC],fun b hb=> ?_⟩;have e1:(fF bs).getD b 0=ka (gZ bs) b bs.length:=by simp[fF,pj,kC,List.getD,hb]
 rw[e1];have Tt:∀d:Nat,d<bs.length→¬Dm (tg bs) (d:Int) (b:Int)∨¬Reach (tg bs) (b:Int)→EU (gZ bs) d b=false:=by
  intro d vW hh;rw[←Bool.not_eq_true];intro ht;have:=(r7 vW hb).1 ht;rcases hh with hh|hh
  ·exact hh this.2
  ·exact hh this.1
 by_cases Kw:0≤jf bs (b:Int)
 ·by_cases y8:b=0
  ·subst y8;rw[show up ((0:Nat):Int)= -1 from hr.off _ (.inr rfl)];refine za fun d vW dG=>Tt d vW (.inl fun h=> ?_)
   have:=h.AN;omega
  ·have VK:(b:Int)≠0:=oM;obtain⟨l1,l2⟩:=hr.ok.low _ (hp _ Kw) VK;have lne:up (b:Int)≠(b:Int):=by intro e;rw[e]at l2;omega
   have lr:=kL h0 l1.1;obtain⟨u,hu⟩:=Int.eq_ofNat_of_zero_le lr.1;have du:Dm (tg bs) (up (b:Int)) (b:Int):=hd _ _ Kw (.step VK (.refl _));rcases LL h0 hr.ok hp hd hb Kw bs.length (Nat.le_refl _)with⟨_,h2⟩|⟨d,h1,h2,h3,h4,h5⟩
   ·exact absurd (hu▸du) (h2 u oM (fun e=>lne (by rw[hu,e])))
   ·rw[h1];have dG:(d:Int)≠(b:Int):=oM;have d1:Dm (tg bs) (up (b:Int)) (d:Int):=by rw[hu];exact h5 u oM (fun e=>lne (by rw[hu,e])) (hu▸du)
    have hdr:0≤jf bs (d:Int):=(hP.reach _).2 (Dm.reach ((hP.reach _).1 Kw) h4);have d2:Dm (tg bs) (d:Int) (up (b:Int)):=hr.ok.LG _ _ (hp _ Kw) VK h4 dG;have q1:=Dm.le hP hdr d1;have q2:=Dm.le hP l1.1 d2;exact hP.inj _ _ hdr oM
 ·rw[hr.off _ (.inl oM)];exact za fun d vW _=>Tt d vW (.inr fun h=>Kw ((hP.reach _).2 h))
end Go.Mor
namespace Go.Mor
open Go.RowKit
def nu(ws:List Nat)(i:Nat):List Nat:=ws.set (i / 64) (qV (ws.getD (i / 64) 0) (2^(i % 64)))
theorem GY{ws:List Nat}{i:Nat}(hi:i / 64<ws.length)(j:Nat):tb (nu ws i) j=(!decide (i=j)&&tb ws j):=by
 unfold tb nu;by_cases h:i / 64=j / 64
 ·have e:(ws.set (i / 64) (qV (ws.getD (i / 64) 0) (2^(i % 64)))).getD (j / 64) 0=qV (ws.getD (i / 64) 0) (2^(i % 64)):=by rw[←h];simp[List.getD,hi]
  rw[e,Ln (Nat.mod_lt _ dQ),Nat.testBit_two_pow,←h];have e2:(i % 64=j % 64)↔i=j:=oM;simp only[e2];rw[Bool.and_comm]
 ·have e:(ws.set (i / 64) (qV (ws.getD (i / 64) 0) (2^(i % 64)))).getD (j / 64) 0=ws.getD (j / 64) 0:=by simp[List.getD,List.getElem?_set_ne h]
  rw[e];have:¬i=j:=fun e=>h (by rw[e])
  simp[this]
theorem Fit.take{ws:List Nat}(h:Fit ws)(i:Nat):Fit (nu ws i):=by
 intro x hx;unfold nu at hx;rcases List.mem_or_eq_of_mem_set hx with h1|h1
 ·exact h x h1
 ·subst h1;exact GV _ _
def kD(S:Int→Bool)(t:Int):Int→Bool:=fun x=> !(x==t)&&S x
structure fi(n:Nat)(ws:List Nat)(S:Int→Bool):Prop where
 len:ws.length=(n+63) / 64
 fit:Fit ws
 bits:∀i:Nat,i<n→tb ws i=S (i:Int)
 high:∀i:Nat,n≤i→tb ws i=false
section
variable {n : Nat} {ws : List Nat} {S : Int → Bool}
theorem fi.start(n:Nat):fi n (List.replicate ((n+63) / 64) 0) (fun _=>false):=⟨sI,Fit.zero _,fun i _=>Aj _ i,fun i _=>Aj _ i⟩
theorem fi.idx(h:fi n ws S){i:Nat}(hi:i<n):i / 64<ws.length:=by rw[h.len];omega
theorem fi.put(h:fi n ws S){i:Nat}(hi:i<n):fi n (kP ws i) (cC S (i:Int)):=by
 refine⟨by simp[kP,h.len],h.fit.put i,fun j hj=> ?_,fun j hj=> ?_⟩
 ·rw[EF (h.idx hi),h.bits j hj];unfold cC;congr 1;by_cases e:i=j
  ·subst e;simp
  ·have:¬((j:Int)=(i:Int)):=oM;simp[e,this]
 ·rw[EF (h.idx hi),h.high j hj];have:¬i=j:=oM;simp[this]
theorem fi.take(h:fi n ws S){i:Nat}(hi:i<n):fi n (nu ws i) (kD S (i:Int)):=by
 refine⟨by simp[nu,h.len],h.fit.take i,fun j hj=> ?_,fun j hj=> ?_⟩
 ·rw[GY (h.idx hi),h.bits j hj];unfold kD;congr 1;by_cases e:i=j
  ·subst e;simp
  ·have:¬((j:Int)=(i:Int)):=oM;simp[e,this]
 ·rw[GY (h.idx hi),h.high j hj];simp
theorem fi.congr{S':Int→Bool}(h:fi n ws S)(e:∀i:Nat,i<n→S (i:Int)=S' (i:Int)):fi n ws S':=⟨h.len,h.fit,fun i hi=>(h.bits i hi).trans (e i hi),h.high⟩
theorem fi.ext{GZ:List Nat}(h:fi n ws S)(h':fi n GZ S):ws=GZ:=by
 have hb:∀i,tb ws i=tb GZ i:=by
  intro i;rcases Nat.lt_or_ge i n with hi|hi
  ·rw[h.bits i hi,h'.bits i hi]
  ·rw[h.high i hi,h'.high i hi]
 apply List.ext_getElem?;intro q;by_cases hq:q<ws.length
 ·have qx:q<GZ.length:=by rw[h'.len,←h.len];exact hq
  rw[List.getElem?_eq_getElem hq,List.getElem?_eq_getElem qx];congr 1;apply Nat.eq_of_testBit_eq;intro r;rcases Nat.lt_or_ge r 64 with hr|hr
  ·have:=hb (64*q+r);unfold tb at this;rw[show(64*q+r) / 64=q by omega,show(64*q+r) % 64=r by omega]at this;simpa[List.getD,hq,qx]using this
  ·have h1:=h.fit _ (List.getElem_mem hq);have h2:=h'.fit _ (List.getElem_mem qx);rw[Nat.testBit_lt_two_pow (Nat.lt_of_lt_of_le h1 (Nat.pow_le_pow_right dQ hr)),Nat.testBit_lt_two_pow (Nat.lt_of_lt_of_le h2 (Nat.pow_le_pow_right dQ hr))]
 ·have qx:¬q<GZ.length:=by rw[h'.len,←h.len];exact hq
  rw[List.getElem?_eq_none oM,List.getElem?_eq_none oM]
theorem fi.same{GZ:List Nat}{S':Int→Bool}(h:fi n ws S)(h':fi n GZ S'):ws=GZ↔∀i:Nat,i<n→S (i:Int)=S' (i:Int):=by
 constructor
 ·rintro rfl i hi;rw[←h.bits i hi,h'.bits i hi]
 ·intro e;exact h.ext (h'.congr (fun i hi=>(e i hi).symm))
def m8(ws xs:List Nat):Nat→List Nat
 |0=>ws
 |k+1=>(m8 ws xs k).set k ((m8 ws xs k).getD k 0|||xs.getD k 0)
theorem r8(ws xs:List Nat)(k:Nat):(m8 ws xs k).length=ws.length:=by
 induction k with
 |zero=>rfl
 |succ k ih=>simp[m8,ih]
theorem LM(ws xs:List Nat)(k q:Nat):(m8 ws xs k).getD q 0=if q<k∧q<ws.length then ws.getD q 0|||xs.getD q 0 else ws.getD q 0:=by
 induction k with
 |zero=>simp[m8]
 |succ k ih=>
  unfold m8;by_cases e:k=q
  ·subst e;by_cases hq:k<ws.length
   ·rw[if_pos ⟨oM,hq⟩];have:k<(m8 ws xs k).length:=by rw[r8];exact hq
    rw[show(List.set (m8 ws xs k) k ((m8 ws xs k).getD k 0|||xs.getD k 0)).getD k 0=(m8 ws xs k).getD k 0|||xs.getD k 0 by simp[List.getD,this],ih,if_neg oM]
   ·rw[if_neg oM];have h1:¬k<(m8 ws xs k).length:=by rw[r8];exact hq
    simp[List.getD,h1,hq]
  ·rw[show(List.set (m8 ws xs k) k ((m8 ws xs k).getD k 0|||xs.getD k 0)).getD q 0=(m8 ws xs k).getD q 0 by simp[List.getD,List.getElem?_set_ne e],ih];by_cases h1:q<k∧q<ws.length
   ·rw[if_pos h1,if_pos ⟨oM,h1.2⟩]
   ·rw[if_neg h1,if_neg oM]
theorem CZ{ws xs:List Nat}(h:Fit ws)(hx:Fit xs)(k:Nat):Fit (m8 ws xs k):=by
 induction k with
 |zero=>exact h
 |succ k ih=>
  intro x hm;unfold m8 at hm;rcases List.mem_or_eq_of_mem_set hm with h1|h1
  ·exact ih x h1
  ·subst h1;exact Nat.or_lt_two_pow (ih.get _) (hx.get _)
def Tu(S T:Int→Bool):Int→Bool:=fun x=>S x||T x
theorem fi.or{xs:List Nat}{T:Int→Bool}(h:fi n ws S)(hx:fi n xs T):fi n (m8 ws xs xs.length) (Tu S T):=by
 have hb:∀i,tb (m8 ws xs xs.length) i=(tb ws i||tb xs i):=by
  intro i;unfold tb;rw[LM];have hl:xs.length=ws.length:=by rw[h.len,hx.len]
  by_cases hq:i / 64<ws.length
  ·rw[if_pos ⟨oM,hq⟩,Nat.testBit_or]
  ·rw[if_neg oM];have h2:¬i / 64<xs.length:=oM;simp[List.getD,h2]
 refine⟨by rw[r8,h.len],CZ h.fit hx.fit _,fun i hi=> ?_,fun i hi=> ?_⟩
 ·rw[hb,h.bits i hi,hx.bits i hi];rfl
 ·rw[hb,h.high i hi,hx.high i hi];rfl
def ag(n:Nat)(S:Int→Bool):ar:=((List.range n).filter (fun i:Nat=>S (i:Int))).map (fun i:Nat=>(i:Int))
def mE(q w:Nat):List Nat:=((List.range 64).filter (fun r=>w.testBit r)).map (fun r=>q*64+r)
def jM:List Nat→Nat→List Nat
 |[],_=>[]
 |w::ws,q=>mE q w++jM ws (q+1)
theorem gR(p:Nat→Bool)(a b:Nat):(List.range (a+b)).filter p=(List.range a).filter p++((List.range b).filter (fun r=>p (a+r))).map (fun r=>a+r):=by
 rw[List.range_add,List.filter_append,List.filter_map];rfl
theorem Iz(ws:List Nat):∀q,jM ws q=((List.range (64*ws.length)).filter (fun i=>tb ws i)).map (fun i=>q*64+i):=by
 induction ws with
 |nil=>intro q;rfl
 |cons w ws ih=>
  intro q;rw[jM,ih,bk,Nat.mul_add,Nat.mul_one,Nat.add_comm (64*ws.length) 64,gR,List.map_append];have h1:mE q w=((List.range 64).filter (fun i=>tb (w::ws) i)).map (fun i=>q*64+i):=by unfold mE;refine congrArg _ (List.filter_congr (fun r hr=> ?_));rw[List.mem_range]at hr;unfold tb;rw[show r / 64=0 by omega,Nat.mod_eq_of_lt hr];rfl
  have h2:((List.range (64*ws.length)).filter (fun i=>tb ws i)).map (fun i=>(q+1)*64+i)=(((List.range (64*ws.length)).filter (fun r=>tb (w::ws) (64+r))).map (fun r=>64+r)).map (fun i=>q*64+i):=by
   rw[List.map_map];have e:(fun r=>tb (w::ws) (64+r))=(fun r=>tb ws r):=by funext r;unfold tb;rw[show(64+r) / 64=r / 64+1 by omega,show(64+r) % 64=r % 64 by omega];rfl
   rw[e];apply List.map_congr_left;intro r _;simp only[Function.comp];omega
  rw[h1];exact congrArg _ h2
theorem fi.each(h:fi n ws S):(jM ws 0).map (fun i:Nat=>(i:Int))=ag n S:=by
 rw[Iz];unfold ag;rw[List.map_map];have hle:n≤64*ws.length:=by rw[h.len];omega
 obtain⟨m,hm⟩:=Nat.le.dest hle;rw[←hm,gR,List.map_append];have e2:(List.range m).filter (fun r=>tb ws (n+r))=[]:=by rw[List.filter_eq_nil_iff];intro r _;rw[h.high _ oM];simp
 rw[e2,List.map_nil,List.map_nil,List.append_nil];have e3:(List.range n).filter (fun i=>tb ws i)=(List.range n).filter (fun i:Nat=>S (i:Int)):=by apply List.filter_congr;intro i hi;exact h.bits i (List.mem_range.1 hi)
 rw[e3];apply List.map_congr_left;intro i _;simp
end
theorem EZ(q:Nat):mE q 0=[]:=by simp[mE]
theorem tu{q k m:Nat}(hk:k<64):mE q (2^k*(2*m+1))=(q*64+k)::mE q (2^k*(2*m+1)&&&(2^k*(2*m+1)-1)):=by
 unfold mE;obtain⟨d,hd⟩:=Nat.le.dest (show k+1≤64 by omega);have s1:=gR (fun r=>(2^k*(2*m+1)).testBit r) (k+1) d;have s2:=gR (fun r=>(2^k*(2*m+1)&&&(2^k*(2*m+1)-1)).testBit r) (k+1) d;rw[hd]at s1 s2;rw[s1,s2];have e1:(List.range (k+1)).filter (fun r=>(2^k*(2*m+1)).testBit r)=[k]:=by
  rw[List.range_succ,List.filter_append];have:(List.range k).filter (fun r=>(2^k*(2*m+1)).testBit r)=[]:=by rw[List.filter_eq_nil_iff];intro r hr;rw[List.mem_range]at hr;rw[pf,if_pos hr];simp
  rw[this];have h2:(2^k*(2*m+1)).testBit k=true:=by rw[pf,if_neg oM,if_pos rfl]
  simp[h2]
 have e2:(List.range (k+1)).filter (fun r=>(2^k*(2*m+1)&&&(2^k*(2*m+1)-1)).testBit r)=[]:=by
  rw[List.filter_eq_nil_iff];intro r hr;rw[List.mem_range]at hr;rw[yX,pf];by_cases h1:r<k
  ·rw[if_pos h1];simp
  ·have:r=k:=oM;simp[this]
 have e3:(List.range d).filter (fun r=>(2^k*(2*m+1)&&&(2^k*(2*m+1)-1)).testBit (k+1+r))=(List.range d).filter (fun r=>(2^k*(2*m+1)).testBit (k+1+r)):=by apply List.filter_congr;intro r _;rw[yX];have:¬(k+1+r=k):=oM;simp[this]
 rw[e1,e2,e3];simp
end Go.Mor
namespace Go.Mor
theorem IA(q w:Nat):(mE q w).length≤64:=by
 unfold mE;rw[List.length_map];exact Nat.le_trans (bx _ _) sI
theorem LN(ws:List Nat):∀q,(jM ws q).length≤64*ws.length:=by
 induction ws with
 |nil=>intro q;simp[jM]
 |cons w ws ih=>
  intro q;have h1:=IA q w;have h2:=ih (q+1);simp only[jM,List.length_append,bk];omega
theorem IB{ws:List Nat}{q w:Nat}(h:ws[q]?=some w)(k:Nat):jM (ws.drop q) k=mE k w++jM (ws.drop (q+1)) (k+1):=by
 obtain⟨hq,he⟩:=List.getElem?_eq_some_iff.1 h;rw[List.drop_eq_getElem_cons hq,he];rfl
end Go.Mor
namespace Go.Mor
def gS(fs:List aI)(k:Nat):Nat:=((fs.take k).map (fun x=>x.aE.length+x.insts.length)).sum
def eb(fs:List aI):Nat:=fs.length+gS fs fs.length
theorem po(fs:List aI):gS fs 0=0:=by simp[gS]
theorem gP{fs:List aI}{k:Nat}{x:aI}(h:fs[k]?=some x):gS fs (k+1)=gS fs k+(x.aE.length+x.insts.length):=by
 obtain⟨hk,he⟩:=List.getElem?_eq_some_iff.1 h;unfold gS;rw[List.take_succ_eq_append_getElem hk,he];simp
theorem tv{fs:List aI}(h:rp fs)(k:Nat)(hk:k≤fs.length):gS fs k≤k*562949953421312:=by
 induction k with
 |zero=>simp[po]
 |succ k ih=>
  obtain⟨x,hx⟩:=ba (l:=fs) (i:=k) oM;have h1:x.aE.length≤281474976710656:=(h.get hx).lp;have h2:x.insts.length≤281474976710656:=(h.get hx).li;rw[gP hx];have:=ih oM;omega
def ft(fs:List aI)(k:Nat):Nat:=((fs.take k).map (fun x=>min x.aE.length 5000+min x.insts.length 5000)).sum
theorem AR(fs:List aI):ft fs 0=0:=by simp[ft]
theorem r9{fs:List aI}{k:Nat}{x:aI}(h:fs[k]?=some x):ft fs (k+1)=ft fs k+(min x.aE.length 5000+min x.insts.length 5000):=by
 obtain⟨hk,he⟩:=List.getElem?_eq_some_iff.1 h;unfold ft;rw[List.take_succ_eq_append_getElem hk,he];simp
theorem E0(fs:List aI)(k:Nat)(hk:k≤fs.length):ft fs k≤k*10000:=by
 induction k with
 |zero=>simp[AR]
 |succ k ih=>
  obtain⟨x,hx⟩:=ba (l:=fs) (i:=k) oM;rw[r9 hx];have:=ih oM;omega
def gT(va:Int)(fs:List aI):Prop:=((60<fs.length∨3000<va)∧(va≤20000∨60<fs.length))∨(¬(60<fs.length∨3000<va)∧3000<ft fs fs.length)
instance (va : Int) (fs : List aI) : Decidable (gT va fs) := by unfold gT; infer_instance
theorem we{va:Int}{fs:List aI}(h:¬gT va fs):fs.length≤60:=by
 unfold gT at h;omega
theorem IC{P:Program}{t:TypeId}(i j:Int)(w:World):(binOp .sub t (vI i) (vI j)).run P w= .ok (vI (IntKind.i64.wrap (i-j))) w:=by simp[binOp,Op.intArith]
def pq(b:Bool):Int:=cond b 1 0
theorem bc{b:Bool}{P R:Prop}[Decidable R](h:b=true↔P)(e:P↔R):Value.bool b=Value.bool (decide R):=by
 congr 1;rw[Bool.eq_iff_iff,decide_eq_true_eq];exact h.trans e
theorem jh(s:eV):((s.toList==(⟨#[]⟩:eV).toList)=true)=(s.size=0):=by
 rw[beq_iff_eq,ByteArray.toList_eq,ByteArray.toList_eq];apply propext;constructor
 ·intro h;have h1:=congrArg List.length h;have e:s.data.toList.length=s.size:=Array.length_toList;rw[e]at h1;exact h1
 ·intro h;have h2:s.data=#[]:=Array.eq_empty_of_size_eq_zero h;rw[h2]
def bG(s:eV):Prop:=1≤s.size∧s.size≤60
instance (s : ByteArray) : Decidable (bG s) := by unfold bG; infer_instance
def bf(op:Int):Prop:=op≠3∧op≠10∧op≠11
instance (op : Int) : Decidable (bf op) := by unfold bf; infer_instance
def dF(n:Int):Prop:=1≤n∧n≤999
instance (n : Int) : Decidable (dF n) := by unfold dF; infer_instance
def dq(n:Int):Prop:=0≤n∧n≤2147483647
instance (n : Int) : Decidable (dq n) := by unfold dq; infer_instance
def kb(N:Int)(x:aI):Prop:=(x.e=0∧(0≤x.a∧x.a<N)∧x.v=0∧x.b=0)∨(x.e=1∧(0≤x.a∧x.a<N)∧(0≤x.b∧x.b<N)∧x.a≠x.b)∨(x.e=2∧x.a=0∧x.b=0)∨(x.e=3∧dF x.a∧x.v=0∧x.b=0)
instance (N : Int) (x : aI) : Decidable (kb N x) := by unfold kb; infer_instance
def nv(N:Int)(x:aI):Prop:=kb N x∧(x.e=2→-1≤x.v)
instance (N : Int) (x : aI) : Decidable (nv N x) := by unfold nv; infer_instance
def bU(i:cV):Prop:=(bf i.op∨i.dst= -1)∧((i.op=1∧i.name.size=0∧i.args.length=0)∨(i.op=2∧dq i.n∧i.name.size=0∧i.args.length=1)∨(i.op=3∧dq i.n∧i.name.size=0∧i.args.length=2)∨(i.op=4∧i.n=0∧bG i.name∧i.args.length≤16)∨(i.op=5∧i.n=0∧i.name.size=0∧1≤i.args.length∧i.args.length≤17)∨((i.op=6∨i.op=7)∧i.n=0∧bG i.name∧i.args.length=0)∨((i.op=8∨i.op=10∨i.op=12)∧i.n=0∧i.name.size=0∧i.args.length=1)∨(i.op=9∧i.n=0∧i.name.size=0∧i.args.length=0)∨(i.op=11∧dF i.n∧i.name.size=0∧i.args.length=1)∨((17≤i.op∧i.op≤32)∧i.n=0∧i.name.size=0∧i.args.length=2)∨((41≤i.op∧i.op≤43)∧i.n=0∧i.name.size=0∧i.args.length=1))
instance (i : cV) : Decidable (bU i) := by unfold bU; infer_instance
theorem G0{i:cV}(h:i.op=1):bU i↔(i.name.size=0∧i.args.length=0):=by
 unfold bU bf bG dF dq;rw[h];simp only[Int.reduceEq,Int.reduceNe,Int.reduceLE,false_and,true_and,and_true,or_false,false_or,true_or,ne_eq,not_false_eq_true,not_true_eq_false,and_false,or_true,and_self]
theorem AU{i:cV}(h:i.op=2):bU i↔((0≤i.n∧i.n≤2147483647)∧i.name.size=0∧i.args.length=1):=by
 unfold bU bf bG dF dq;rw[h];simp only[Int.reduceEq,Int.reduceNe,Int.reduceLE,false_and,true_and,and_true,or_false,false_or,true_or,ne_eq,not_false_eq_true,not_true_eq_false,and_false,or_true,and_self]
theorem AV{i:cV}(h:i.op=3):bU i↔(i.dst= -1∧(0≤i.n∧i.n≤2147483647)∧i.name.size=0∧i.args.length=2):=by
 unfold bU bf bG dF dq;rw[h];simp only[Int.reduceEq,Int.reduceNe,Int.reduceLE,false_and,true_and,and_true,or_false,false_or,true_or,ne_eq,not_false_eq_true,not_true_eq_false,and_false,or_true,and_self]
theorem G1{i:cV}(h:i.op=4):bU i↔(i.n=0∧(1≤i.name.size∧i.name.size≤60)∧i.args.length≤16):=by
 unfold bU bf bG dF dq;rw[h];simp only[Int.reduceEq,Int.reduceNe,Int.reduceLE,false_and,true_and,and_true,or_false,false_or,true_or,ne_eq,not_false_eq_true,not_true_eq_false,and_false,or_true,and_self]
theorem jn{i:cV}(h:i.op=5):bU i↔(i.n=0∧i.name.size=0∧1≤i.args.length∧i.args.length≤17):=by
 unfold bU bf bG dF dq;rw[h];simp only[Int.reduceEq,Int.reduceNe,Int.reduceLE,false_and,true_and,and_true,or_false,false_or,true_or,ne_eq,not_false_eq_true,not_true_eq_false,and_false,or_true,and_self]
theorem G3{i:cV}(h:i.op=6):bU i↔(i.n=0∧(1≤i.name.size∧i.name.size≤60)∧i.args.length=0):=by
 unfold bU bf bG dF dq;rw[h];simp only[Int.reduceEq,Int.reduceNe,Int.reduceLE,false_and,true_and,and_true,or_false,false_or,true_or,ne_eq,not_false_eq_true,not_true_eq_false,and_false,or_true,and_self]
theorem G4{i:cV}(h:i.op=7):bU i↔(i.n=0∧(1≤i.name.size∧i.name.size≤60)∧i.args.length=0):=by
 unfold bU bf bG dF dq;rw[h];simp only[Int.reduceEq,Int.reduceNe,Int.reduceLE,false_and,true_and,and_true,or_false,false_or,true_or,ne_eq,not_false_eq_true,not_true_eq_false,and_false,or_true,and_self]
theorem G5{i:cV}(h:i.op=8):bU i↔(i.n=0∧i.name.size=0∧i.args.length=1):=by
 unfold bU bf bG dF dq;rw[h];simp only[Int.reduceEq,Int.reduceNe,Int.reduceLE,false_and,true_and,and_true,or_false,false_or,true_or,ne_eq,not_false_eq_true,not_true_eq_false,and_false,or_true,and_self]
theorem G6{i:cV}(h:i.op=9):bU i↔(i.n=0∧i.name.size=0∧i.args.length=0):=by
 unfold bU bf bG dF dq;rw[h];simp only[Int.reduceEq,Int.reduceNe,Int.reduceLE,false_and,true_and,and_true,or_false,false_or,true_or,ne_eq,not_false_eq_true,not_true_eq_false,and_false,or_true,and_self]
theorem C0{i:cV}(h:i.op=10):bU i↔(i.dst= -1∧i.n=0∧i.name.size=0∧i.args.length=1):=by
 unfold bU bf bG dF dq;rw[h];simp only[Int.reduceEq,Int.reduceNe,Int.reduceLE,false_and,true_and,and_true,or_false,false_or,true_or,ne_eq,not_false_eq_true,not_true_eq_false,and_false,or_true,and_self]
theorem wg{i:cV}(h:i.op=11):bU i↔(i.dst= -1∧(1≤i.n∧i.n≤999)∧i.name.size=0∧i.args.length=1):=by
 unfold bU bf bG dF dq;rw[h];simp only[Int.reduceEq,Int.reduceNe,Int.reduceLE,false_and,true_and,and_true,or_false,false_or,true_or,ne_eq,not_false_eq_true,not_true_eq_false,and_false,or_true,and_self]
theorem C1{i:cV}(h:i.op=12):bU i↔(i.n=0∧i.name.size=0∧i.args.length=1):=by
 unfold bU bf bG dF dq;rw[h];simp only[Int.reduceEq,Int.reduceNe,Int.reduceLE,false_and,true_and,and_true,or_false,false_or,true_or,ne_eq,not_false_eq_true,not_true_eq_false,and_false,or_true,and_self]
theorem p6{i:cV}(h:¬(1≤i.op∧i.op≤12)):bU i↔(((17≤i.op∧i.op≤32)∧i.n=0∧i.name.size=0∧i.args.length=2)∨((41≤i.op∧i.op≤43)∧i.n=0∧i.name.size=0∧i.args.length=1)):=by
 have e:∀k:Int,1≤k→k≤12→(i.op=k)=False:=fun k h1 h2=>eq_false (fun e=>h ⟨oM,oM⟩)
 unfold bU bf;simp only[ne_eq,e 1 dQ dQ,e 2 dQ dQ,e 3 dQ dQ,e 4 dQ dQ,e 5 dQ dQ,e 6 dQ dQ,e 7 dQ dQ,e 8 dQ dQ,e 9 dQ dQ,e 10 dQ dQ,e 11 dQ dQ,e 12 dQ dQ,false_and,true_and,or_false,false_or,true_or,not_false_eq_true,and_self]
theorem Qad{op:Int}(h1:¬op=1)(h12:¬op=12)(h8:¬op=8)(u0:¬op=10)(h2:¬op=2)(h3:¬op=3)(h4:¬op=4)(h5:¬op=5)(h6:¬op=6)(h7:¬op=7)(h9:¬op=9)(h11:¬op=11):¬(1≤op∧op≤12):=by
 rintro⟨a,b⟩;have e:op=1∨op=2∨op=3∨op=4∨op=5∨op=6∨op=7∨op=8∨op=9∨op=10∨op=11∨op=12:=by clear h1 h2 h3 h4 h5 h6 h7 h8 h9 u0 h11 h12;omega
 rcases e with e|e|e|e|e|e|e|e|e|e|e|e<;>contradiction
theorem LO{i:cV}{cd:Int}(h0:¬(1≤i.op∧i.op≤12))(h1:i.op<40)(ho: -9223372036854775808≤i.op∧i.op≤9223372036854775807)(hc:cd=0↔1≤IntKind.i64.wrap (i.op-16)∧IntKind.i64.wrap (i.op-16)≤16):((((cd=0)∧(i.n=0))∧(i.name.size=0))∧((i.args.length:Int)=2))↔bU i:=by
 rw[p6 h0];have hw:=IntKind.wrap_i64 (i.op-16);have e:(1≤IntKind.i64.wrap (i.op-16)∧IntKind.i64.wrap (i.op-16)≤16)↔(17≤i.op∧i.op≤32):=by rw[hw];omega
 rw[e]at hc;rw[hc];constructor
 ·rintro⟨⟨⟨a,b⟩,c⟩,d⟩;exact .inl ⟨a,b,c,oM⟩
 ·rintro(⟨a,b,c,d⟩|⟨a,_⟩)
  ·exact⟨⟨⟨a,b⟩,c⟩,oM⟩
  ·omega
theorem LP{i:cV}{cd:Int}(h1:¬i.op<40)(hc:cd=0↔1≤i.op-40∧i.op-40≤3):((((cd=0)∧(i.n=0))∧(i.name.size=0))∧((i.args.length:Int)=1))↔bU i:=by
 rw[p6 oM];have e:(1≤i.op-40∧i.op-40≤3)↔(41≤i.op∧i.op≤43):=oM;rw[e]at hc;rw[hc];constructor
 ·rintro⟨⟨⟨a,b⟩,c⟩,d⟩;exact .inr ⟨a,b,c,oM⟩
 ·rintro(⟨a,_⟩|⟨a,b,c,d⟩)
  ·omega
  ·exact⟨⟨⟨a,b⟩,c⟩,oM⟩
theorem IE{i:cV}(h:(¬(bf i.op))∧(i.dst≠-1)):False↔bU i:=⟨False.elim,fun e=>e.1.elim h.1 h.2⟩
end Go.Mor
namespace Go.Mor
open Go.RowKit
def iw(l:List (Int×Int)):bp:=l.flatMap (fun p=>[vI p.1,vI p.2])
theorem AW(l:List (Int×Int)):(iw l).length=l.length*2:=by
 induction l with
 |nil=>rfl
 |cons x l ih=>simp[iw]at ih⊢;omega
theorem LQ{l:List (Int×Int)}{i:Nat}{p:Int×Int}(h:l[i]?=some p):(iw l)[i*2]?=some (vI p.1)∧(iw l)[i*2+1]?=some (vI p.2):=by
 induction l generalizing i with
 |nil=>simp at h
 |cons x l ih=>
  have e:iw (x::l)=vI x.1:: .int .i64 x.2::iw l:=rfl;rw[e];cases i with
  |zero=>simp at h;subst h;exact⟨rfl,rfl⟩
  |succ i=>
   simp at h;obtain⟨h1,h2⟩:=ih h;refine⟨?_,?_⟩
   ·rw[show(i+1)*2=i*2+1+1 by omega];simpa using h1
   ·rw[show(i+1)*2+1=i*2+1+1+1 by omega];simpa using h2
theorem AX{l:List (Int×Int)}{i:Nat}(a b:Int)(h:i<l.length):setAt (iw l) (i*2) [vI a,vI b]=iw (l.set i (a,b)):=by
 induction l generalizing i with
 |nil=>simp at h
 |cons x l ih=>
  have e:iw (x::l)=vI x.1:: .int .i64 x.2::iw l:=rfl;cases i with
  |zero=>rfl
  |succ i=>
   have:=ih (i:=i) (by simpa using h);rw[e,show(i+1)*2=i*2+1+1 by omega,List.set_cons_succ];show setAt (.int .i64 x.1:: .int .i64 x.2::iw l) (i*2+1+1) [vI a,vI b]=vI x.1:: .int .i64 x.2::iw (l.set i (a,b));rw[←this];simp[setAt]
theorem C2{l:List (Int×Int)}{i:Nat}{p:Int×Int}(a:Int)(h:l[i]?=some p):(iw l).set (i*2) (vI a)=iw (l.set i (a,p.2)):=by
 induction l generalizing i with
 |nil=>simp at h
 |cons x l ih=>
  have e:iw (x::l)=vI x.1:: .int .i64 x.2::iw l:=rfl;cases i with
  |zero=>simp at h;subst h;rfl
  |succ i=>
   simp at h;have:=ih h;rw[e,show(i+1)*2=i*2+1+1 by omega];show .int .i64 x.1:: .int .i64 x.2::(iw l).set (i*2) (vI a)=vI x.1:: .int .i64 x.2::iw (l.set i (a,p.2));rw[this]
theorem G7(n:Nat)(a b:Int):(List.replicate n [vI a,vI b]).flatten=iw (List.replicate n (a,b)):=by
 induction n with
 |zero=>rfl
 |succ n ih=>rw[List.replicate_succ,List.replicate_succ,List.flatten_cons,ih];rfl
theorem G8{w:World}{A:aA}{ad:Addr}{l:List (Int×Int)}(h:(aL.rd A (iw l)).holds w)(hA:A=some ad){i:Nat}{p:Int×Int}(hi:l[i]?=some p):∀j v,[vI p.1,vI p.2][j]?=some v→w.cell? ((ad.add (i*2)).add j)=some v:=by
 intro j v hj;obtain⟨h1,h2⟩:=LQ hi;rw[pe];have key:∀q u,(iw l)[q]?=some u→w.cell? (ad.add q)=some u:=by intro q u hu;obtain⟨a',mT,hc⟩:=h q u hu;rw[hA]at mT;injection mT with mT;subst mT;exact hc
 match j,hj with
 |0,hj=>simp at hj;subst hj;exact key _ _ h1
 |1,hj=>simp at hj;subst hj;exact key _ _ h2
theorem wh{w:World}{A:aA}{ad:Addr}{l:List (Int×Int)}(h:(aL.rd A (iw l)).holds w)(hA:A=some ad){i:Nat}{p:Int×Int}(hi:l[i]?=some p):w.cell? (ad.add (i*2))=some (vI p.1):=by
 have:=G8 h hA hi 0 _ rfl;rwa [pe]at this
theorem ny{α:Type}{l:List α}{i:Nat}(d:α)(h:i<l.length):l[i]?=some (l.getD i d):=by simp[List.getD,List.getElem?_eq_getElem h]
def kT(lo hi:Int)(l:List (Int×Int))(v:Int):Prop:=(lo≤v∧v<hi)∧(l.getD v.toNat (0,0)).1<0
instance (lo hi : Int) (l : List (Int × Int)) (v : Int) : Decidable (kT lo hi l v) := by unfold kT; infer_instance
abbrev uB:=List (Int×Int×Int)
def dJ(b:Int)(l:List fI):uB:=l.map (fun p=>(p.dst,b,-1))
def ei(b:Int)(l:List cV):uB:=(l.zipIdx.filter (fun x=>decide (bf x.1.op))).map (fun x=>(x.1.dst,b,(x.2:Int)))
def kc(b:Int)(x:aI):uB:=dJ b x.aE++ei b x.insts
def en(fs:List aI)(n:Nat):uB:=((fs.take n).zipIdx).flatMap (fun x=>kc (x.2:Int) x.1)
def cX(fs:List aI):uB:=en fs fs.length
theorem jl{b:Int}{l:List fI}{k:Nat}{p:fI}(h:l[k]?=some p):dJ b (l.take (k+1))=dJ b (l.take k)++[(p.dst,b,-1)]:=by
 obtain⟨hk,he⟩:=List.getElem?_eq_some_iff.1 h;rw[List.take_succ_eq_append_getElem hk,he];simp[dJ]
theorem pr{α:Type}{l:List α}{k:Nat}{p:α}(h:l[k]?=some p):(l.take (k+1)).zipIdx=(l.take k).zipIdx++[(p,k)]:=by
 obtain⟨hk,he⟩:=List.getElem?_eq_some_iff.1 h;rw[List.take_succ_eq_append_getElem hk,he,List.zipIdx_append];simp[Nat.min_eq_left (Nat.le_of_lt hk)]
theorem jN{b:Int}{l:List cV}{k:Nat}{p:cV}(h:l[k]?=some p)(hm:bf p.op):ei b (l.take (k+1))=ei b (l.take k)++[(p.dst,b,(k:Int))]:=by
 unfold ei;rw[pr h,List.filter_append,List.map_append];simp[hm]
theorem oh{b:Int}{l:List cV}{k:Nat}{p:cV}(h:l[k]?=some p)(hm:¬bf p.op):ei b (l.take (k+1))=ei b (l.take k):=by
 unfold ei;rw[pr h,List.filter_append,List.map_append];simp[hm]
theorem mG(fs:List aI):en fs 0=[]:=by simp[en]
theorem iR{fs:List aI}{k:Nat}{x:aI}(h:fs[k]?=some x):en fs (k+1)=en fs k++kc (k:Int) x:=by
 unfold en;rw[pr h,List.flatMap_append];simp
theorem sa{fs:List aI}{n:Nat}{d:Int×Int×Int}(h:d∈en fs n):0≤d.2.1∧d.2.1<n∧-1≤d.2.2:=by
 unfold en at h;rw[List.mem_flatMap]at h;obtain⟨x,hx,hd⟩:=h;have hx2:x.2<n:=by
  have:=List.snd_lt_of_mem_zipIdx hx;have h2:(fs.take n).length≤n:=by simp;omega
  omega
 unfold kc at hd;rcases List.mem_append.1 hd with hd|hd
 ·unfold dJ at hd;obtain⟨p,_,rfl⟩:=List.mem_map.1 hd;exact⟨Int.natCast_nonneg _,by show(x.2:Int)<n;omega,by show(-1:Int)≤-1;omega⟩
 ·unfold ei at hd;obtain⟨p,_,rfl⟩:=List.mem_map.1 hd;exact⟨Int.natCast_nonneg _,by show(x.2:Int)<n;omega,by show(-1:Int)≤(p.2:Int);omega⟩
def findD(ds:uB)(v:Int):Option (Int×Int):=(ds.find? (fun d=>d.1==v)).map (·.2)
theorem iT{ds:uB}{v:Int}(h:v∉ds.map (·.1)):findD ds v=none:=by
 unfold findD;rw[Option.map_eq_none_iff,List.find?_eq_none];intro d hd he;rw[beq_iff_eq]at he;exact h (List.mem_map.2 ⟨d,hd,he⟩)
theorem kE{ds:uB}{v:Int}(h:v∈ds.map (·.1)):∃p,findD ds v=some p∧(v,p)∈ds:=by
 unfold findD;obtain⟨d,hd,hv⟩:=List.mem_map.1 h;cases hf:ds.find? (fun d=>d.1==v)with
 |none=>
  have:=List.find?_eq_none.1 hf d hd;simp[hv]at this
 |some e=>
  have h1:=List.find?_some hf;have h2:=List.mem_of_find?_eq_some hf;rw[beq_iff_eq]at h1;refine⟨e.2,rfl,?_⟩;rw[←h1];exact h2
theorem AY{ds:uB}{v b k:Int}(h:v∉ds.map (·.1))(u:Int):findD (ds++[(v,b,k)]) u=if u=v then some (b,k)else findD ds u:=by
 unfold findD;rw[List.find?_append];by_cases e:u=v
 ·subst e;have:ds.find? (fun d=>d.1==u)=none:=by rw[List.find?_eq_none];intro d hd he;rw[beq_iff_eq]at he;exact h (List.mem_map.2 ⟨d,hd,he⟩)
  rw[this];simp
 ·rw[if_neg e];have:([(v,b,k)]:uB).find? (fun d=>d.1==u)=none:=by rw[List.find?_eq_none];intro d hd he;simp at hd;subst hd;rw[beq_iff_eq]at he;exact e he.symm
  rw[this];simp
structure zb(n:Nat)(base:Nat→Int×Int)(enc:Int×Int→Int×Int)(ds:uB)(l:List (Int×Int)):Prop where
 len:l.length=n
 at_:∀v:Nat,v<n→l[v]?=some (match findD ds (v:Int)with
  |some p=>enc p
  |none=>base v)
def fR(lo hi:Int)(ds:uB):Prop:=(∀d,d∈ds→lo≤d.1∧d.1<hi)∧(ds.map (·.1)).Nodup
theorem fR.nil(lo hi:Int):fR lo hi []:=⟨sI,sI⟩
theorem fR.snoc{lo hi:Int}{ds:uB}{v b k:Int}:fR lo hi (ds++[(v,b,k)])↔fR lo hi ds∧(lo≤v∧v<hi)∧v∉ds.map (·.1):=by
 unfold fR;constructor
 ·rintro⟨h1,h2⟩;rw[List.map_append,List.nodup_append]at h2;refine⟨⟨fun d hd=>h1 d (List.mem_append_left _ hd),h2.1⟩,h1 (v,b,k) sI,fun hm=>h2.2.2 v hm v sI rfl⟩
 ·rintro⟨⟨h1,h2⟩,h3,h4⟩;refine⟨fun d hd=> ?_,?_⟩
  ·rcases List.mem_append.1 hd with hd|hd
   ·exact h1 d hd
   ·simp at hd;subst hd;exact h3
  ·rw[List.map_append,List.nodup_append];refine⟨h2,sI,fun a ha c hc e=> ?_⟩;simp at hc;subst hc;subst e;exact h4 ha
theorem fR.pre{lo hi:Int}{ds es:uB}(h:fR lo hi (ds++es)):fR lo hi ds:=by
 obtain⟨h1,h2⟩:=h;rw[List.map_append,List.nodup_append]at h2;exact⟨fun d hd=>h1 d (List.mem_append_left _ hd),h2.1⟩
theorem zb.put{n:Nat}{base:Nat→Int×Int}{enc:Int×Int→Int×Int}{ds:uB}{l:List (Int×Int)}(h:zb n base enc ds l){v b k:Int}(h0:0≤v)(h1:v<n)(hv:v∉ds.map (·.1)):zb n base enc (ds++[(v,b,k)]) (l.set v.toNat (enc (b,k)))where
 len:=by rw[List.length_set,h.len]
 at_:=fun u hu=>by
  rw[AY hv];by_cases e:(u:Int)=v
  ·have:u=v.toNat:=oM;rw[if_pos e,this,List.getElem?_set_self (by rw[h.len];omega)]
  ·rw[if_neg e,List.getElem?_set_ne oM];exact h.at_ u hu
end Go.Mor
namespace Go.Mor
open Go.RowKit
def VQ(pa va:Int)(fs:List aI):Prop:=(∀x,x∈fs→∀p,p∈x.insts→bU p)∧fR pa va (cX fs)
def kU(fs:List aI)(k:Nat):Prop:=∀(i:Nat) (x:aI),i<k→fs[i]?=some x→∀p,p∈x.insts→bU p
def nz(x:aI)(j:Nat):Prop:=∀(i:Nat) (p:cV),i<j→x.insts[i]?=some p→bU p
theorem kU.next{fs:List aI}{k:Nat}{x:aI}(h:kU fs k)(hx:fs[k]?=some x)(hi:nz x x.insts.length):kU fs (k+1):=by
 intro i y hik hy p hp;rcases Nat.lt_or_ge i k with h1|h1
 ·exact h i y h1 hy p hp
 ·have:i=k:=oM;subst this;rw[hx]at hy;injection hy with hy;subst hy;obtain⟨j,hj⟩:=List.mem_iff_getElem?.1 hp;exact hi j p (List.getElem?_eq_some_iff.1 hj).1 hj
theorem nz.next{x:aI}{j:Nat}{p:cV}(h:nz x j)(hp:x.insts[j]?=some p)(hs:bU p):nz x (j+1):=by
 intro i q hij hq;rcases Nat.lt_or_ge i j with h1|h1
 ·exact h i q h1 hq
 ·have:i=j:=oM;subst this;rw[hp]at hq;injection hq with hq;exact hq▸hs
theorem kU.all{fs:List aI}(h:kU fs fs.length):∀x,x∈fs→∀p,p∈x.insts→bU p:=by
 intro x hx;obtain⟨i,hi⟩:=List.mem_iff_getElem?.1 hx;exact h i x (List.getElem?_eq_some_iff.1 hi).1 hi
theorem wi{fs:List aI}(k:Nat):∀n,k≤n→n≤fs.length→∃es,en fs n=en fs k++es:=by
 intro n;induction n with
 |zero=>intro h _;exact⟨[],by rw[Nat.le_zero.1 h];simp⟩
 |succ n ih=>
  intro h hn;rcases Nat.lt_or_ge n k with h1|h1
  ·have:k=n+1:=oM;subst this;exact⟨[],sI⟩
  ·obtain⟨es,he⟩:=ih h1 oM;obtain⟨x,hx⟩:=ba (l:=fs) (i:=n) oM;exact⟨es++kc n x,by rw[iR hx,he,List.append_assoc]⟩
theorem Rg(b:Int)(l:List fI)(j:Nat):∃es,dJ b l=dJ b (l.take j)++es:=⟨dJ b (l.drop j),by unfold dJ;rw[←List.map_append,List.take_append_drop]⟩
theorem Rh(b:Int)(l:List cV)(j:Nat):∃es,ei b l=ei b (l.take j)++es:=by
 have e:l.zipIdx=(l.take j).zipIdx++(l.drop j).zipIdx (0+(l.take j).length):=by rw[←List.zipIdx_append,List.take_append_drop]
 refine⟨(((l.drop j).zipIdx (0+(l.take j).length)).filter (fun x=>decide (bf x.1.op))).map (fun x=>(x.1.dst,b,(x.2:Int))),?_⟩;unfold ei;rw[e,List.filter_append,List.map_append]
theorem C3{fs:List aI}{pa va:Int}{k:Nat}{x:aI}(hx:fs[k]?=some x)(j:Nat)(h:fR pa va (cX fs)):fR pa va (en fs k++dJ k (x.aE.take j)):=by
 have hk:=(List.getElem?_eq_some_iff.1 hx).1;obtain⟨es,he⟩:=wi (fs:=fs) (k+1) fs.length hk (Nat.le_refl _);obtain⟨e2,h2⟩:=Rg k x.aE j;have:cX fs=(en fs k++dJ k (x.aE.take j))++(e2++ei k x.insts++es):=by unfold cX;rw[he,iR hx,kc,h2];simp only[List.append_assoc]
 rw[this]at h;exact h.pre
theorem C4{fs:List aI}{pa va:Int}{k:Nat}{x:aI}(hx:fs[k]?=some x)(j:Nat)(h:fR pa va (cX fs)):fR pa va (en fs k++dJ k x.aE++ei k (x.insts.take j)):=by
 have hk:=(List.getElem?_eq_some_iff.1 hx).1;obtain⟨es,he⟩:=wi (fs:=fs) (k+1) fs.length hk (Nat.le_refl _);obtain⟨e2,h2⟩:=Rh k x.insts j;have:cX fs=(en fs k++dJ k x.aE++ei k (x.insts.take j))++(e2++es):=by unfold cX;rw[he,iR hx,kc,h2];simp only[List.append_assoc]
 rw[this]at h;exact h.pre
structure Enc(lo pa:Int)(n:Nat)(base:Nat→Int×Int)(enc:Int×Int→Int×Int):Prop where
 base:∀v:Nat,v<n→lo≤(v:Int)→((base v).1<0↔pa≤(v:Int))
 enc:∀p,0≤p.1→0≤(enc p).1
def NonNeg(ds:uB):Prop:=∀d,d∈ds→0≤d.2.1
theorem LR{pa lo hi:Int}{n:Nat}{base:Nat→Int×Int}{enc:Int×Int→Int×Int}{ds:uB}{l:List (Int×Int)}(h:zb n base enc ds l)(he:Enc lo pa n base enc)(hd:NonNeg ds)(h0:0≤lo)(h1:lo≤pa)(hn:hi=(n:Int))(v:Int):kT lo hi l v↔(pa≤v∧v<hi)∧v∉ds.map (·.1):=by
 unfold kT;constructor
 ·rintro⟨⟨a,b⟩,c⟩;have hv:l[v.toNat]?=some (match findD ds (v.toNat:Int)with|some p=>enc p|none=>base v.toNat):=h.at_ v.toNat oM;have ev:(v.toNat:Int)=v:=oM;rw[ev]at hv;have hg:l.getD v.toNat (0,0)=(match findD ds v with|some p=>enc p|none=>base v.toNat):=by simp[List.getD,hv]
  rw[hg]at c;by_cases hm:v∈ds.map (·.1)
  ·obtain⟨p,hp,cn⟩:=kE hm;rw[hp]at c;have:=he.enc p (hd _ cn);simp only at c;omega
  ·rw[iT hm]at c;have:=(he.base v.toNat oM oM).1 c;exact⟨⟨oM,b⟩,hm⟩
 ·rintro⟨⟨a,b⟩,hm⟩;have hv:l[v.toNat]?=some (match findD ds (v.toNat:Int)with|some p=>enc p|none=>base v.toNat):=h.at_ v.toNat oM;have ev:(v.toNat:Int)=v:=oM;rw[ev,iT hm]at hv;have hg:l.getD v.toNat (0,0)=base v.toNat:=by simp[List.getD,hv]
  rw[hg];exact⟨⟨oM,b⟩,(he.base v.toNat oM oM).2 oM⟩
theorem lZ(fs:List aI)(k j:Nat)(l:List fI):NonNeg (en fs k++dJ k (l.take j)):=by
 intro d hd;rcases List.mem_append.1 hd with hd|hd
 ·exact(sa hd).1
 ·unfold dJ at hd;obtain⟨p,_,rfl⟩:=List.mem_map.1 hd;exact Int.natCast_nonneg _
theorem wj(fs:List aI)(k j:Nat)(l:List fI)(m:List cV):NonNeg (en fs k++dJ k l++ei k (m.take j)):=by
 intro d hd;rcases List.mem_append.1 hd with hd|hd
 ·have:=lZ fs k l.length l d (by rw[List.take_length];exact hd);exact this
 ·unfold ei at hd;obtain⟨p,_,rfl⟩:=List.mem_map.1 hd;exact Int.natCast_nonneg _
theorem lQ{pa lo hi:Int}{n:Nat}{base:Nat→Int×Int}{enc:Int×Int→Int×Int}{ds:uB}{l:List (Int×Int)}(h:zb n base enc ds l)(he:Enc lo pa n base enc)(hd:NonNeg ds)(h0:0≤lo)(h1:lo≤pa)(hn:hi=(n:Int))(ho:fR pa hi ds)(v b k:Int):(kT lo hi l v→zb n base enc (ds++[(v,b,k)]) (l.set v.toNat (enc (b,k)))∧fR pa hi (ds++[(v,b,k)]))∧(¬kT lo hi l v→¬fR pa hi (ds++[(v,b,k)])):=by
 have key:=LR h he hd h0 h1 hn v;constructor
 ·intro hp;obtain⟨h2,h3⟩:=key.1 hp;exact⟨h.put oM oM h3,fR.snoc.2 ⟨ho,h2,h3⟩⟩
 ·intro hp hq;obtain⟨_,h2,h3⟩:=fR.snoc.1 hq;exact hp (key.2 ⟨h2,h3⟩)
def mH(n k:Nat):List (Int×Int):=List.replicate k (-1,0)++List.replicate (n-k) (0,0)
theorem E1(n:Nat):mH n 0=List.replicate n (0,0):=by simp[mH]
theorem Y5{n k:Nat}(h:k≤n):(mH n k).length=n:=by simp[mH];omega
theorem IG{n k:Nat}(h:k<n):(mH n k)[k]?=some (0,0):=by
 unfold mH;rw[List.getElem?_append_right sI,List.length_replicate,Nat.sub_self,show n-k=(n-(k+1))+1 by omega];rfl
theorem E2{n k:Nat}(h:k<n):(mH n k).set k (-1,0)=mH n (k+1):=by
 unfold mH;rw[List.set_append_right _ _ sI,List.replicate_succ',List.append_assoc];congr 1;rw[List.length_replicate,Nat.sub_self,show n-k=(n-(k+1))+1 by omega,List.replicate_succ];rfl
theorem IH(n:Nat):zb n (fun _=>(-1,0)) (fun p=>(p.1,p.2+1)) [] (mH n n)where
 len:=by simp[mH]
 at_:=fun v hv=>by have:findD [] (v:Int)=none:=rfl;rw[this];simp[mH,hv]
theorem Ri(pa:Int)(n:Nat):Enc pa pa n (fun _=>(-1,0)) (fun p=>(p.1,p.2+1)):=⟨fun _ _ h=>⟨fun _=>h,fun _=>dQ⟩,fun p h=>h⟩
end Go.Mor
namespace Go.Mor
open Go.RowKit
def ke(pa:Int)(v:Nat):Int×Int:=if(v:Int)<pa then(0,-2)else(-1,0)
def jx(pa:Int)(n k:Nat):List (Int×Int):=(List.range k).map (ke pa)++List.replicate (n-k) (0,0)
theorem E3(pa:Int)(n:Nat):jx pa n 0=List.replicate n (0,0):=by simp[jx]
theorem II{pa:Int}{n k:Nat}(h:k≤n):(jx pa n k).length=n:=by simp[jx];omega
theorem IJ{pa:Int}{n k:Nat}(h:k<n):(jx pa n k)[k]?=some (0,0):=by
 unfold jx;rw[List.getElem?_append_right sI,List.length_map,List.length_range,Nat.sub_self,show n-k=(n-(k+1))+1 by omega];rfl
theorem zc{pa:Int}{n k:Nat}{p:Int×Int}(h:k<n)(hp:ke pa k=p):(jx pa n k).set k p=jx pa n (k+1):=by
 unfold jx;rw[List.set_append_right _ _ sI,List.range_succ,List.map_append,List.append_assoc];congr 1;rw[List.length_map,List.length_range,Nat.sub_self,show n-k=(n-(k+1))+1 by omega,List.replicate_succ,←hp];rfl
theorem LS{pa:Int}{n k:Nat}(h:k<n)(hp:¬(k:Int)<pa):(jx pa n k).set k (-1,0)=jx pa n (k+1):=zc h (by simp[ke,hp])
theorem IK{pa:Int}{n k:Nat}(h:k<n)(hp:(k:Int)<pa):((jx pa n k).set k (-1,0)).set k (0,-2)=jx pa n (k+1):=by
 rw[List.set_set];exact zc h (by simp[ke,hp])
theorem IL(pa:Int)(n:Nat):zb n (ke pa) (fun p=>p) [] (jx pa n n)where
 len:=by simp[jx]
 at_:=fun v hv=>by have:findD [] (v:Int)=none:=rfl;rw[this];simp[jx,hv]
theorem Rj(pa:Int)(n:Nat):Enc 0 pa n (ke pa) (fun p=>p):=⟨fun v _ _=>by unfold ke;split<;>simp<;>omega,fun p h=>h⟩
end Go.Mor
namespace Go.Mor
open Go.RowKit
theorem cE.at_{n:Nat}{l:ar}{f:Int→Int}(h:cE n l f){x:Int}(h0:0≤x)(h1:x<n):(ints l)[x.toNat]?=some (vI (f x)):=by
 obtain⟨i,rfl⟩:=Int.eq_ofNat_of_zero_le h0;have:=h.get (i:=i) oM;simp[ints,this]
structure Rk(T:Int→ar)(pl up:Int→Int)(n:Nat)(PZ ab:ar):Prop where
 tr:Kv T pl
 ok:Up T pl up
 Ej:∀x,0≤pl x→0≤x∧x<(n:Int)
 PX:cE n PZ pl
 PY:cE n ab up
section
variable {T : Int → List Int} {pl up : Int → Int} {n : Nat} {PZ ab : List Int}
theorem Rk.at0(h:Rk T pl up n PZ ab){x:Int}(hx:km pl up x):(ints PZ)[x.toNat]?=some (vI (pl x)):=h.PX.at_ (h.Ej x hx.1).1 (h.Ej x hx.1).2
theorem Rk.up0(h:Rk T pl up n PZ ab){x:Int}(hx:km pl up x):(ints ab)[x.toNat]?=some (vI (up x)):=h.PY.at_ (h.Ej x hx.1).1 (h.Ej x hx.1).2
theorem Rk.ne0(h:Rk T pl up n PZ ab){a b:Int}(hb:km pl up b)(fo:pl a>pl b):a≠0:=by
 rintro rfl;rw[h.tr.zero]at fo;have:=hb.1;omega
theorem LU(h:Rk T pl up n PZ ab){a b a2 b2:Int}(ha:km pl up a)(E4:km pl up a2)(wm:km pl up b2)(dG:a≠b)(h1:a2=a∨pl a2<pl a)(h2:b2=b∨pl b2<pl b)(g1:¬pl a2>pl b)(g2:¬pl b2>pl a2):(pl a2+pl b2).toNat<(pl a+pl b).toNat:=by
 have p1:=E4.1;have p2:=wm.1;rcases h1 with rfl|h1
 ·rcases h2 with rfl|h2
  ·exact absurd (h.tr.inj _ _ ha.1 oM) dG
  ·omega
 ·rcases h2 with rfl|h2<;>omega
end
end Go.Mor
namespace Go.Mor
open Go.RowKit
theorem gU(bs:List SB):(au bs).length≤bs.length:=by
 unfold au;split
 ·simp
 ·rw[List.length_reverse];exact Im oM
theorem mI{bs:List SB}{k:Nat}(hk:k<(au bs).length):∃bi:Nat,(au bs)[k]?=some (bi:Int)∧bi<bs.length∧jf bs (bi:Int)=(k:Int):=by
 have hl:=gU bs;have ho:=lX (bs:=bs) oM;have hg:(au bs)[k]?=some (au bs)[k]:=List.getElem?_eq_getElem hk;have hr:=pZ oM ((ho.mem _).1 (List.mem_of_getElem? hg));obtain⟨q,hq⟩:=Int.eq_ofNat_of_zero_le hr.1;rw[hq]at hg;exact⟨q,hg,oM,ll ho.nodup hg⟩
theorem LW{bs:List SB}{j:Nat}(hk:j+1<(au bs).length):∃bi:Nat,((au bs).drop 1)[j]?=some (bi:Int)∧bi<bs.length∧jf bs (bi:Int)=(j:Int)+1:=by
 obtain⟨bi,h1,h2,h3⟩:=mI hk;exact⟨bi,by rw[List.getElem?_drop,Nat.add_comm];exact h1,h2,oM⟩
theorem Rl{w:World}{ad:Addr}{l:ar}(h:(aL.rd (some ad) (ints l)).holds w):(aL.rd (some (ad.add (1*1))) (ints (l.drop 1))).holds w:=by
 have:=QF h 1;simpa[ints]using this
theorem Ba(bs:List SB){l:ar}(h:cE bs.length l (fun _=> -1)):cE bs.length l (tr ((au bs).take 0)):=h.congr (fun i _=>(AQ sI).symm)
theorem C5{bs:List SB}{l:ar}{k bi:Nat}(h:cE bs.length l (tr ((au bs).take k)))(hk:(au bs)[k]?=some (bi:Int))(hb:bi<bs.length):cE bs.length (l.set bi (k:Int)) (tr ((au bs).take (k+1))):=by
 have fo:=(List.getElem?_eq_some_iff.1 hk).1;have hl:=gU bs;have ho:=lX (bs:=bs) oM;refine h.set hb ?_ fun j _ dG=> ?_
 ·rw[CX ho.nodup hk,if_pos rfl]
 ·rw[CX ho.nodup hk,if_neg oM]
theorem E5{bs:List SB}{l:ar}{k:Nat}(h:cE bs.length l (tr ((au bs).take k)))(hk:(au bs).length≤k):cE bs.length l (jf bs):=by
 rw[List.take_of_length_le hk]at h;exact h
theorem jm{l:ar}{q:Nat}{x:Int}(h:l[q]?=some x):l.take (q+1)=l.take q++[x]:=by
 obtain⟨fo,he⟩:=List.getElem?_eq_some_iff.1 h;rw[List.take_succ_eq_append_getElem fo,he]
theorem p7{bs:List SB}{b:Int}{q:Nat}(h:q<(bW bs b).length):∃si:Nat,(bW bs b)[q]?=some (si:Int)∧si<bs.length:=by
 have h1:=LB (List.getElem_mem h);obtain⟨k,he⟩:=Int.eq_ofNat_of_zero_le h1.1;exact⟨k,by rw[List.getElem?_eq_getElem h,he],oM⟩
theorem Rm{bs:List SB}(h:0<bs.length){b:Int}:∀s,0≤jf bs s→(s∈bW bs b↔b∈tg bs s):=fun s hs=>by
 rw[LK];exact⟨fun h=>h.2,fun hb=>⟨kL h hs,hb⟩⟩
theorem LX(bs:List SB)(x:Int):jf bs x<(au bs).length:=VI
theorem LY{bs:List SB}{up:Int→Int}{ab:ar}{k:Nat}{j:Int}(hr:0<bs.length→AP (tg bs) (jf bs) up k 0)(hk:1≤k)(hs:Ix (tg bs) (jf bs) up j)(hj:∀x,jf bs x≤j)(PY:cE bs.length ab up):ab=fF bs:=by
 rcases Nat.eq_zero_or_pos bs.length with h0|h0
 ·have e1:ab=[]:=List.eq_nil_of_length_eq_zero (by rw[PY.1,h0]);have e2:fF bs=[]:=List.eq_nil_of_length_eq_zero (by simp[fF,pj,kC,h0]);rw[e1,e2]
 ·exact Iy h0 (hr h0) hk hs hj PY
theorem LZ{n k:Nat}{b:Bool}(hf:n+2≤k→b=false)(h:b=true):k+1≤n+2:=by
 by_cases h8:n+2≤k
 ·rw[hf h8]at h;cases h
 ·omega
theorem C6(bs:List SB):(fF bs).length=bs.length:=by simp[fF,pj,kC]
theorem Rn(bs:List SB):(tt bs).length=bs.length:=by simp[tt]
theorem AP.keep{bs:List SB}{up:Int→Int}{k:Nat}{j b to:Int}(h:AP (tg bs) (jf bs) up k j)(hb:jf bs b=j+1)(hto:0≤to)(he:up b=to)(ha:∀s,km (jf bs) up s→b∈tg bs s→iE up s to):∀s,0≤jf bs s→b∈tg bs s→iE up s (up b):=by
 intro s hs hx;rw[he];refine ha s ⟨hs,?_⟩ hx;by_cases e:s=0
 ·exact .inl e
 ·refine .inr (h.some s hs e (.inr ?_));by_cases hk:k=0
  ·have:=h.non hk b oM;omega
  ·omega
end Go.Mor
namespace Go.Mor
open Go.RowKit
structure Bc(bs:List SB)(up:Int→Int):Prop where
 of:cE bs.length (fF bs) up
 ok:Up (tg bs) (jf bs) up
 EV:∀x,0≤jf bs x→km (jf bs) up x
 off:∀x,(jf bs x<0∨x=0)→up x= -1
 dm:∀x d,iE up x d→Dm (tg bs) d x
def Tv(bs:List SB):Prop:=0<bs.length→∃up,Bc bs up
theorem VL{bs:List SB}{up:Int→Int}{ab:ar}{k:Nat}{j:Int}(hr:0<bs.length→AP (tg bs) (jf bs) up k 0)(hk:1≤k)(hs:Ix (tg bs) (jf bs) up j)(hj:∀x,jf bs x≤j)(PY:cE bs.length ab up):Tv bs:=by
 intro h0;have H5:=hr h0;refine⟨up,LY hr hk hs hj PY▸PY,H5.ok,fun x h=>⟨h,?_⟩,H5.off,fun x d h=>hs.dm (jg h0) hj h⟩;by_cases e:x=0
 ·exact .inl e
 ·exact .inr (H5.some x h e (.inr hk))
end Go.Mor
namespace Go.Mor
open Go.RowKit
abbrev m9:=List (Int×Nat×Nat)
mutual
inductive x9(K:Int→ar):Int→Nat→Nat→m9→Prop
 |mk {b:Int} {n m:Nat} {r:m9}:gV K (K b) (n+1) m r→x9 K b n (m+1) (r++[(b,n+1,m+1)])
inductive gV(K:Int→ar):ar→Nat→Nat→m9→Prop
 |nil {n:Nat}:gV K [] n n []
 |snoc {l:ar} {c:Int} {n m p:Nat} {r s:m9}:gV K l n m r→x9 K c m p s→gV K (l++[c]) n p (r++s)
end
structure TreeU(K:Int→ar)(pl up:Int→Int):Prop where
 L0:∀b c,c∈K b→up c=b∧c≠0∧pl b<pl c
 IM:∀b,(K b).Nodup
section
variable {K : Int → List Int} {pl up : Int → Int}
theorem TreeU.EW(h:TreeU K pl up){b c:Int}(hc:c∈K b):iE up c b:= .step (h.L0 b c hc).2.1 (by rw[(h.L0 b c hc).1];exact .refl _)
mutual
theorem x9.facts(h:TreeU K pl up){b:Int}{n m:Nat}{r:m9}:x9 K b n m r→(∀x i o,(x,i,o)∈r→iE up x b∧n<i∧i<o∧o≤m)∧n<m
 | .mk (m:=m) hl=>by
  have ih:=gV.facts h hl;constructor
  ·intro x i o hx;rcases List.mem_append.1 hx with hx|hx
   ·obtain⟨⟨c,hc,ha⟩,h1,h2,h3⟩:=ih.1 x i o hx;exact⟨ha.trans (h.EW hc),oM,h2,oM⟩
   ·simp only[List.mem_singleton,Prod.mk.injEq]at hx;obtain⟨rfl,rfl,rfl⟩:=hx;have:=ih.2;exact⟨.refl _,oM,oM,oM⟩
  ·have:=ih.2;omega
theorem gV.facts(h:TreeU K pl up){l:ar}{n m:Nat}{r:m9}:gV K l n m r→(∀x i o,(x,i,o)∈r→(∃c,c∈l∧iE up x c)∧n<i∧i<o∧o≤m)∧n≤m
 | .nil=>⟨fun x i o hx=>by simp at hx,Nat.le_refl _⟩
 | .snoc (l:=l) (c:=c) (m:=m0) hl hv=>by
  have i1:=gV.facts h hl;have i2:=x9.facts h hv;refine⟨fun x i o hx=> ?_,by have:=i1.2;have:=i2.2;omega⟩;rcases List.mem_append.1 hx with hx|hx
  ·obtain⟨⟨c',hc,ha⟩,h1,h2,h3⟩:=i1.1 x i o hx;have:=i2.2;exact⟨⟨c',List.mem_append_left _ hc,ha⟩,h1,h2,oM⟩
  ·obtain⟨ha,h1,h2,h3⟩:=i2.1 x i o hx;have:=i1.2;exact⟨⟨c,sI,ha⟩,oM,h2,h3⟩
end
theorem iE.chain{x a b:Int}(ha:iE up x a)(hb:iE up x b):iE up a b∨iE up b a:=by
 induction ha with
 |refl=>exact .inl hb
 | @step x d dG h ih=>
  cases hb with
  |refl=>exact .inr (.step dG h)
  |step _ hb=>exact ih hb
theorem TreeU.sub(h:TreeU K pl up){b c c' y:Int}(hc:c∈K b)(ru:c'∈K b)(hp:∀x d,iE up x d→0≤pl x→pl d≤pl x)(hb:0≤pl b)(h1:iE up y c)(h2:iE up y c'):c=c':=by
 have key:∀c c',c∈K b→c'∈K b→iE up c c'→c=c':=by
  intro c c' hc ru ha;cases ha with
  |refl=>rfl
  |step dG ha=>
   rw[(h.L0 b c hc).1]at ha;have:=hp _ _ ha hb;have:=(h.L0 b c' ru).2.2;omega
 rcases iE.chain h1 h2 with h3|h3
 ·exact key c c' hc ru h3
 ·exact(key c' c ru hc h3).symm
structure mJ(K:Int→ar)(pl up:Int→Int):Prop extends TreeU K pl up where
 le:∀x d,iE up x d→0≤pl x→pl d≤pl x
 pos:∀b,0≤pl b→∀c,c∈K b→0≤pl c
 neg:∀x d,pl x<0→0≤pl d→¬iE up x d
mutual
theorem x9.hold(h:mJ K pl up){b:Int}(hb:0≤pl b){n m:Nat}{r:m9}:x9 K b n m r→∀x i o y i' o',(x,i,o)∈r→(y,i',o')∈r→((i≤i'∧o'≤o)↔iE up y x)
 | .mk (m:=m) (r:=r) hl=>by
  intro x i o y i' o' hx hy;have f:=gV.facts h.toTreeU hl;rcases List.mem_append.1 hx with x1|x1<;>rcases List.mem_append.1 hy with y1|y1
  ·exact gV.hold h hb (fun c hc=>hc) (h.IM b) hl x i o y i' o' x1 y1
  ·simp only[List.mem_singleton,Prod.mk.injEq]at y1;obtain⟨e1,e2,e3⟩:=y1;obtain⟨⟨c,hc,ha⟩,h1,h2,h3⟩:=f.1 x i o x1;constructor
   ·intro hh;omega
   ·intro hh;rw[e1]at hh;have h4:=(h.L0 _ _ hc).2.2;have h5:=h.le _ _ hh hb;have h6:=h.pos b hb c hc;have h7:=h.le _ _ (hh.trans ha) hb;omega
  ·simp only[List.mem_singleton,Prod.mk.injEq]at x1;obtain⟨e1,e2,e3⟩:=x1;obtain⟨⟨c,hc,ha⟩,h1,h2,h3⟩:=f.1 y i' o' y1;rw[e1];exact⟨fun _=>ha.trans (h.EW hc),fun _=>⟨by omega,by omega⟩⟩
  ·simp only[List.mem_singleton,Prod.mk.injEq]at x1 y1;obtain⟨e1,e2,e3⟩:=x1;obtain⟨e4,e5,e6⟩:=y1;rw[e1,e4];exact⟨fun _=> .refl _,fun _=>⟨by omega,by omega⟩⟩
theorem gV.hold(h:mJ K pl up){b:Int}(hb:0≤pl b){l:ar}(kl:∀c,c∈l→c∈K b)(uA:l.Nodup){n m:Nat}{r:m9}:gV K l n m r→(∀x i o y i' o',(x,i,o)∈r→(y,i',o')∈r→((i≤i'∧o'≤o)↔iE up y x))
 | .nil=>fun x i o y i' o' hx _=>by simp at hx
 | .snoc (l:=l) (c:=c) hl hv=>by
  have f1:=gV.facts h.toTreeU hl;have f2:=x9.facts h.toTreeU hv;have Ky:=kl c (by simp);have Iv:=h.pos b hb c Ky;rw[List.nodup_append]at uA;have apart:∀y,iE up y c→∀c',c'∈l→¬iE up y c':=by intro y h1 c' ru h2;have:=h.sub Ky (kl c' (List.mem_append_left _ ru)) h.le hb h1 h2;exact uA.2.2 c' ru c (by simp) this.symm
  intro x i o y i' o' hx hy;rcases List.mem_append.1 hx with x1|x1<;>rcases List.mem_append.1 hy with y1|y1
  ·exact gV.hold h hb (fun c hc=>kl c (List.mem_append_left _ hc)) uA.1 hl x i o y i' o' x1 y1
  ·obtain⟨⟨c',ru,ha⟩,h1,h2,h3⟩:=f1.1 x i o x1;obtain⟨GI,h4,h5,h6⟩:=f2.1 y i' o' y1;constructor
   ·intro hh;omega
   ·intro hh;exact absurd (hh.trans ha) (apart y GI c' ru)
  ·obtain⟨⟨c',ru,ha⟩,h1,h2,h3⟩:=f1.1 y i' o' y1;obtain⟨GI,h4,h5,h6⟩:=f2.1 x i o x1;constructor
   ·intro hh;omega
   ·intro hh;exact absurd ha (apart y (hh.trans GI) c' ru)
  ·exact x9.hold h Iv hv x i o y i' o' x1 y1
end
end
end Go.Mor
namespace Go.Mor
open Go.RowKit
def VM(bs:List SB)(k:Nat):Nat:=((List.range k).filter (fun i:Nat=>gn bs (-1) (i:Int))).length
theorem wo{l:List Nat}(h:l.Nodup):(l.map (fun i:Nat=>(i:Int))).Nodup:=by
 rw[List.Nodup,yI];exact h.imp (fun h e=>h oM)
theorem Ro(bs:List SB):VM bs bs.length=(au bs).length:=by
 by_cases h0:bs.length=0
 ·unfold VM au;rw[if_pos h0,h0];rfl
 ·have ho:=lX (bs:=bs) oM;have hn:(((List.range bs.length).filter (fun i:Nat=>gn bs (-1) (i:Int))).map (fun i:Nat=>(i:Int))).Nodup:=wo (jX.sublist List.filter_sublist);have hp:=(List.perm_ext_iff_of_nodup ho.nodup hn).2 (fun x=>by
   rw[ho.mem x];constructor
   ·intro hx;obtain⟨h1,h2⟩:=pZ oM hx;exact List.mem_map.2 ⟨x.toNat,List.mem_filter.2 ⟨List.mem_range.2 oM,by rw[Int.toNat_of_nonneg h1];exact lY.2 hx⟩,Int.toNat_of_nonneg h1⟩
   ·intro hx;obtain⟨i,hi,rfl⟩:=List.mem_map.1 hx;exact lY.1 (List.mem_filter.1 hi).2)
  rw[hp.length_eq,List.length_map];rfl
theorem zd{n:Nat}{l:ar}{f:Int→Int}(h:cE n l f){x v:Int}(h0:0≤x)(h1:x<n)(e:f x=v):(ints l)[x.toNat]?=some (vI v):=by rw[←e];exact h.at_ h0 h1
end Go.Mor
namespace Go.Mor
open Go.RowKit
inductive L1(K:Int→ar):List (Int×Int)→Int→Nat→List (Int×Nat)→m9→Prop
 |nil:L1 K [] 0 0 [] []
 |snoc {ws:List (Int×Int)} {b c:Int} {n0 n1 j:Nat} {op:List (Int×Nat)} {rs r:m9}:L1 K ws b n0 op rs→gV K ((K b).take j) (n0+1) n1 r→(K b)[j]?=some c→
   L1 K (ws++[(b,(j:Int)+1)]) c n1 (op++[(b,n0+1)]) (rs++r)
def G9(f:Int→Int)(op:List (Int×Nat))(rs:m9):Prop:=∀x:Int,(∀i:Nat,(x,i)∈op→f x=i)∧(∀i o:Nat,(x,i,o)∈rs→f x=i)∧((∀i:Nat,(x,i)∉op)→(∀i o:Nat,(x,i,o)∉rs)→f x=0)
def Be(g:Int→Int)(rs:m9):Prop:=∀x:Int,(∀i o:Nat,(x,i,o)∈rs→g x=o)∧((∀i o:Nat,(x,i,o)∉rs)→g x=0)
def ya(f:Int→Int)(b v:Int):Int→Int:=fun x=>if x=b then v else f x
section
variable {K : Int → List Int} {pl up : Int → Int}
theorem gV.len{l:ar}{n m:Nat}{r:m9}(h:gV K l n m r):m=n+2*r.length:=by
 refine gV.rec (motive_1:=fun _ n m r _=>m=n+2*r.length) (motive_2:=fun _ n m r _=>m=n+2*r.length) ?_ ?_ ?_ h
 ·intro b n m r _ ih;simp only[List.length_append,bk,List.length_nil];omega
 ·intro n;simp
 ·intro l c n m p r s _ _ i1 i2;simp only[List.length_append];omega
mutual
theorem x9.IM(h:mJ K pl up){b:Int}(hb:0≤pl b){n m:Nat}{r:m9}:x9 K b n m r→(r.map (·.1)).Nodup
 | .mk (m:=m) (r:=r) hl=>by have f:=gV.facts h.toTreeU hl;rw[List.map_append,List.nodup_append];refine⟨gV.IM h hb (fun c hc=>hc) (h.IM b) hl,sI,fun x hx y hy e=> ?_⟩;simp at hy;subst hy;subst e;obtain⟨⟨x,i,o⟩,mx,rfl⟩:=List.mem_map.1 hx;obtain⟨⟨c,hc,ha⟩,_⟩:=f.1 x i o mx;have h4:=(h.L0 _ _ hc).2.2;have h5:=h.le _ _ ha hb;simp only at h4;omega
theorem gV.IM(h:mJ K pl up){b:Int}(hb:0≤pl b){l:ar}(kl:∀c,c∈l→c∈K b)(uA:l.Nodup){n m:Nat}{r:m9}:gV K l n m r→(r.map (·.1)).Nodup
 | .nil=>sI
 | .snoc (l:=l) (c:=c) hl hv=>by have f1:=gV.facts h.toTreeU hl;have f2:=x9.facts h.toTreeU hv;have Ky:=kl c sI;rw[List.nodup_append]at uA;rw[List.map_append,List.nodup_append];refine⟨gV.IM h hb (fun c hc=>kl c (List.mem_append_left _ hc)) uA.1 hl,x9.IM h (h.pos b hb c Ky) hv,fun x hx y hy e=> ?_⟩;obtain⟨⟨x,i,o⟩,mx,rfl⟩:=List.mem_map.1 hx;obtain⟨⟨y,i',o'⟩,my,rfl⟩:=List.mem_map.1 hy;simp only at e;subst e;obtain⟨⟨c',ru,ha⟩,_⟩:=f1.1 x i o mx;obtain⟨GI,_⟩:=f2.1 x i' o' my;have:=h.sub Ky (kl c' (List.mem_append_left _ ru)) h.le hb GI ha;exact uA.2.2 c' ru c sI this.symm
end
theorem L1.facts(h:mJ K pl up)(h0:0≤pl 0){ws:List (Int×Int)}{b:Int}{n0:Nat}{op:List (Int×Nat)}{rs:m9}(hl:L1 K ws b n0 op rs):0≤pl b∧(∀x i,(x,i)∈op→iE up b x∧pl x<pl b∧0≤pl x∧1≤i)∧(∀x i o,(x,i,o)∈rs→¬iE up x b∧0≤pl x)∧(op.map (·.1)++rs.map (·.1)).Nodup∧n0=op.length+2*rs.length:=by
 induction hl with
 |nil=>exact⟨h0,sI,sI,sI,sI⟩
 | @snoc ws b c n0 n1 j op rs r hl hv hc ih=>
  obtain⟨hb,h1,h2,h3,h4⟩:=ih;have Ky:c∈K b:=List.mem_of_getElem? hc;have Iv:=h.pos b hb c Ky;have hk:=h.L0 b c Ky;have kl:∀x,x∈(K b).take j→x∈K b:=fun x hx=>List.mem_of_mem_take hx
  have fr:=gV.facts h.toTreeU hv;have Qdi:∀x,x∈(K b).take j→x≠c:=by
   rintro x hx rfl;obtain⟨i,hi,he⟩:=List.mem_take_iff_getElem.1 hx;have qM:(K b)[i]?=some x:=by rw[List.getElem?_eq_getElem oM,he]
   have hd:=h.IM b;obtain⟨hj,VJ⟩:=List.getElem?_eq_some_iff.1 hc;have:=(List.nodup_iff_pairwise_ne.1 hd);rw[List.pairwise_iff_getElem]at this;exact this i j oM hj oM (by rw[he,VJ])
  have hr:∀x i o,(x,i,o)∈r→¬iE up x c∧iE up x b∧0≤pl x∧x≠b:=by
   intro x i o hx;obtain⟨⟨c',ru,ha⟩,_⟩:=fr.1 x i o hx;have im:=h.L0 b c' (kl c' ru);refine⟨fun mT=>Qdi c' ru (h.sub (kl c' ru) Ky h.le hb ha mT),ha.trans (h.EW (kl c' ru)),?_,?_⟩
   ·rcases Int.lt_or_le (pl x) 0 with h7|h7
    ·exfalso;exact absurd ha (h.neg x c' h7 (h.pos b hb c' (kl c' ru)))
    ·exact h7
   ·rintro rfl;have:=h.le _ _ ha hb;omega
  refine⟨Iv,fun x i hx=> ?_,fun x i o hx=> ?_,?_,?_⟩
  ·rcases List.mem_append.1 hx with hx|hx
   ·obtain⟨a1,a2,a3,a4⟩:=h1 x i hx;exact⟨(h.EW Ky).trans a1,oM,a3,a4⟩
   ·simp only[List.mem_singleton,Prod.mk.injEq]at hx;obtain⟨rfl,rfl⟩:=hx;exact⟨h.EW Ky,hk.2.2,hb,oM⟩
  ·rcases List.mem_append.1 hx with hx|hx
   ·obtain⟨a1,a2⟩:=h2 x i o hx;refine⟨fun ha=> ?_,a2⟩;exact a1 (ha.trans (h.EW Ky))
   ·exact⟨(hr x i o hx).1,(hr x i o hx).2.2.1⟩
  ·rw[List.nodup_append]at h3;rw[List.map_append,List.map_append,List.nodup_append,List.nodup_append,List.nodup_append];refine⟨⟨h3.1,sI,fun x hx y hy e=> ?_⟩,⟨h3.2.1,gV.IM h hb kl ((h.IM b).sublist (List.take_sublist _ _)) hv,fun x hx y hy e=> ?_⟩,fun x hx y hy e=> ?_⟩
   ·simp at hy;subst hy;subst e;obtain⟨⟨x,i⟩,mx,rfl⟩:=List.mem_map.1 hx;have:=(h1 x i mx).2.1;simp only at this;omega
   ·obtain⟨⟨x,i,o⟩,mx,rfl⟩:=List.mem_map.1 hx;obtain⟨⟨y,i',o'⟩,my,rfl⟩:=List.mem_map.1 hy;simp only at e;subst e;exact(h2 x i o mx).1 (hr x i' o' my).2.1
   ·rcases List.mem_append.1 hx with hx|hx<;>rcases List.mem_append.1 hy with hy|hy
    ·exact h3.2.2 x hx y hy e
    ·obtain⟨⟨x,i⟩,mx,rfl⟩:=List.mem_map.1 hx;obtain⟨⟨y,i',o'⟩,my,rfl⟩:=List.mem_map.1 hy;simp only at e;subst e;have a1:=(hr x i' o' my).2.1;have a2:=h.le _ _ a1 (hr x i' o' my).2.2.1;have:=(h1 x i mx).2.1;omega
    ·simp at hx;subst hx;subst e;obtain⟨⟨y,i',o'⟩,my,rfl⟩:=List.mem_map.1 hy;exact(h2 y i' o' my).1 (.refl _)
    ·simp at hx;subst hx;subst e;obtain⟨⟨y,i',o'⟩,my,rfl⟩:=List.mem_map.1 hy;exact(hr y i' o' my).2.2.2 rfl
  ·have:=gV.len hv;simp only[List.length_append,bk,List.length_nil];omega
end
end Go.Mor
namespace Go.Mor
open Go.RowKit
def mV(K:Int→ar)(ws:List (Int×Int))(b:Int)(n:Nat)(f g:Int→Int):Prop:=∃op rs,L1 K ws b n op rs∧G9 f op rs∧Be g rs
def Ha(K:Int→ar)(ws:List (Int×Int))(b:Int)(k n:Nat)(f g:Int→Int):Prop:=∃op rs n0 r,L1 K ws b n0 op rs∧gV K ((K b).take k) (n0+1) n r∧k≤(K b).length∧G9 f (op++[(b,n0+1)]) (rs++r)∧Be g (rs++r)
def Tw(K:Int→ar)(n:Nat)(f g:Int→Int):Prop:=∃rs,x9 K 0 0 n rs∧G9 f [] rs∧Be g rs
def Bf(K:Int→ar)(p9:List (Int×Int))(n:Nat)(f g:Int→Int):Prop:=(p9=[]∧Tw K n f g)∨∃(ws:List (Int×Int)) (b:Int) (k:Nat),p9=ws++[(b,(k:Int))]∧((k=0∧mV K ws b n f g)∨(1≤k∧Ha K ws b k n f g))
section
variable {K : Int → List Int} {pl up : Int → Int} {ws : List (Int × Int)} {b : Int} {n k : Nat} {f g : Int → Int}
theorem mV.start(h:mJ K pl up)(h0:0≤pl 0)(hu:mV K ws b n f g):Ha K ws b 0 (n+1) (ya f b ((n:Int)+1)) g:=by
 obtain⟨op,rs,hl,hf,hg⟩:=hu;obtain⟨f1,f2,f3,f4,f5⟩:=hl.facts h h0;refine⟨op,rs,n,[],hl,by rw[List.take_zero];exact .nil,Nat.zero_le _,?_,by rw[List.append_nil];exact hg⟩;rw[List.append_nil];intro x;unfold ya;by_cases e:x=b
 ·subst e;rw[if_pos rfl];refine⟨fun i hi=> ?_,fun i o hi=> ?_,fun hi _=> ?_⟩
  ·rcases List.mem_append.1 hi with hi|hi
   ·have:=(f2 x i hi).2.1;omega
   ·simp only[List.mem_singleton,Prod.mk.injEq]at hi;obtain⟨_,rfl⟩:=hi;simp
  ·exact absurd (.refl _) (f3 x i o hi).1
  ·exact absurd (sI:(x,n+1)∈op++[(x,n+1)]) (hi (n+1))
 ·rw[if_neg e];refine⟨fun i hi=> ?_,(hf x).2.1,fun hi hj=>(hf x).2.2 (fun i hm=>hi i (List.mem_append_left _ hm)) hj⟩;rcases List.mem_append.1 hi with hi|hi
  ·exact(hf x).1 i hi
  ·simp only[List.mem_singleton,Prod.mk.injEq]at hi;exact absurd hi.1 e
theorem Ha.pos(h:mJ K pl up)(h0:0≤pl 0)(hs:Ha K ws b k n f g):0≤pl b:=by
 obtain⟨op,rs,n0,r,hl,_⟩:=hs;exact(hl.facts h h0).1
theorem mV.pos(h:mJ K pl up)(h0:0≤pl 0)(hs:mV K ws b n f g):0≤pl b:=by
 obtain⟨op,rs,hl,_⟩:=hs;exact(hl.facts h h0).1
theorem Ha.push(hs:Ha K ws b k n f g){c:Int}(hc:(K b)[k]?=some c):mV K (ws++[(b,(k:Int)+1)]) c n f g:=by
 obtain⟨op,rs,n0,r,hl,hv,hk,hf,hg⟩:=hs;exact⟨_,_,.snoc hl hv hc,hf,hg⟩
theorem Ha.finish(h:mJ K pl up)(h0:0≤pl 0)(hs:Ha K ws b (K b).length n f g):Bf K ws (n+1) f (ya g b ((n:Int)+1)):=by
 obtain⟨op,rs,n0,r,hl,hv,hk,hf,hg⟩:=hs;obtain⟨f1,f2,f3,f4,f5⟩:=hl.facts h h0;rw[List.take_length]at hv;have fr:=gV.facts h.toTreeU hv;have Qae:x9 K b n0 (n+1) (r++[(b,n0+1,n+1)]):= .mk hv;have hnr:∀i o:Nat,(b,i,o)∉rs++r:=by
  intro i o hm;rcases List.mem_append.1 hm with hm|hm
  ·exact(f3 b i o hm).1 (.refl _)
  ·obtain⟨⟨c,hc,ha⟩,_⟩:=fr.1 b i o hm;have:=h.le _ _ ha f1;have:=(h.L0 b c hc).2.2;omega
 have hf':G9 f op (rs++(r++[(b,n0+1,n+1)])):=by
  intro x;refine⟨fun i hi=>(hf x).1 i (List.mem_append_left _ hi),fun i o hi=> ?_,fun hi hj=>(hf x).2.2 (fun i hm=> ?_) (fun i o hm=>hj i o ?_)⟩
  ·rw[←List.append_assoc]at hi;rcases List.mem_append.1 hi with hi|hi
   ·exact(hf x).2.1 i o hi
   ·simp only[List.mem_singleton,Prod.mk.injEq]at hi;obtain⟨rfl,rfl,rfl⟩:=hi;exact(hf x).1 (n0+1) sI
  ·rcases List.mem_append.1 hm with hm|hm
   ·exact hi i hm
   ·simp only[List.mem_singleton,Prod.mk.injEq]at hm;obtain⟨rfl,rfl⟩:=hm;exact hj (n0+1) (n+1) sI
  ·rw[←List.append_assoc];exact List.mem_append_left _ hm
 have lM:Be (ya g b ((n:Int)+1)) (rs++(r++[(b,n0+1,n+1)])):=by
  intro x;unfold ya;rw[←List.append_assoc];by_cases e:x=b
  ·subst e;rw[if_pos rfl];refine⟨fun i o hi=> ?_,fun hi=>absurd (sI:(x,n0+1,n+1)∈rs++r++[(x,n0+1,n+1)]) (hi _ _)⟩;rcases List.mem_append.1 hi with hi|hi
   ·exact absurd hi (hnr i o)
   ·simp only[List.mem_singleton,Prod.mk.injEq]at hi;obtain⟨_,_,rfl⟩:=hi;simp
  ·rw[if_neg e];refine⟨fun i o hi=> ?_,fun hi=>(hg x).2 (fun i o hm=>hi i o (List.mem_append_left _ hm))⟩;rcases List.mem_append.1 hi with hi|hi
   ·exact(hg x).1 i o hi
   ·simp only[List.mem_singleton,Prod.mk.injEq]at hi;exact absurd hi.1 e
 cases hl with
 |nil=>
  exact .inl ⟨rfl,_,by simpa using Qae,by simpa using hf',by simpa using lM⟩
 | @snoc GZ b' _ m0 _ j op' rs' r' hl' Vy ru=>
  refine .inr ⟨GZ,b',j+1,sI,.inr ⟨oM,op',rs',m0,r'++(r++[(b,n0+1,n+1)]),hl',?_,?_,?_,?_⟩⟩
  ·obtain⟨hj,VJ⟩:=List.getElem?_eq_some_iff.1 ru;rw[List.take_succ_eq_append_getElem hj,VJ];exact .snoc Vy Qae
  ·exact(List.getElem?_eq_some_iff.1 ru).1
  ·rw[List.append_assoc]at hf';exact hf'
  ·rw[List.append_assoc]at lM;exact lM
theorem C7{l:ar}{N:Nat}(hn:l.Nodup)(hr:∀x,x∈l→0≤x∧x<(N:Int)):l.length≤N:=by
 have hp:=(List.perm_ext_iff_of_nodup hn (l₂:=((List.range N).filter (fun i:Nat=>decide ((i:Int)∈l))).map (fun i:Nat=>(i:Int))) (wo (jX.sublist List.filter_sublist))).2 (fun x=>by
  constructor
  ·intro hx;obtain⟨h1,h2⟩:=hr x hx;have e:(x.toNat:Int)=x:=Int.toNat_of_nonneg h1;exact List.mem_map.2 ⟨x.toNat,List.mem_filter.2 ⟨List.mem_range.2 oM,by rw[e];simpa using hx⟩,e⟩
  ·intro hx;obtain⟨i,hi,rfl⟩:=List.mem_map.1 hx;simpa using(List.mem_filter.1 hi).2)
 rw[hp.length_eq,List.length_map];exact Nat.le_trans (bx _ _) sI
theorem L1.bound(h:mJ K pl up)(h0:0≤pl 0){N:Nat}(hN:∀x,0≤pl x→0≤x∧x<(N:Int)){op:List (Int×Nat)}{rs:m9}(hl:L1 K ws b n op rs):n+2≤2*N:=by
 obtain⟨f1,f2,f3,f4,f5⟩:=hl.facts h h0;have uA:(b::(op.map (·.1)++rs.map (·.1))).Nodup:=by
  rw[List.nodup_cons];refine⟨fun hm=> ?_,f4⟩;rcases List.mem_append.1 hm with hm|hm
  ·obtain⟨⟨x,i⟩,mx,rfl⟩:=List.mem_map.1 hm;have:=(f2 x i mx).2.1;simp only at this;omega
  ·obtain⟨⟨x,i,o⟩,mx,rfl⟩:=List.mem_map.1 hm;exact(f3 x i o mx).1 (.refl _)
 have:=C7 (N:=N) uA (fun x hx=>by
  rcases List.mem_cons.1 hx with rfl|hx
  ·exact hN _ f1
  ·rcases List.mem_append.1 hx with hm|hm
   ·obtain⟨⟨x,i⟩,mx,rfl⟩:=List.mem_map.1 hm;exact hN _ (f2 x i mx).2.2.1
   ·obtain⟨⟨x,i,o⟩,mx,rfl⟩:=List.mem_map.1 hm;exact hN _ (f3 x i o mx).2)
 simp only[bk,List.length_append,List.length_map]at this;omega
theorem mV.bound(h:mJ K pl up)(h0:0≤pl 0){N:Nat}(hN:∀x,0≤pl x→0≤x∧x<(N:Int))(hu:mV K ws b n f g):n+2≤2*N:=by
 obtain⟨op,rs,hl,_⟩:=hu;exact hl.bound h h0 hN
theorem Ha.bound(h:mJ K pl up)(h0:0≤pl 0){N:Nat}(hN:∀x,0≤pl x→0≤x∧x<(N:Int))(hs:Ha K ws b k n f g):n+1≤2*N:=by
 obtain⟨op,rs,n0,r,hl,hv,hk,_,_⟩:=hs;obtain⟨f1,f2,f3,f4,f5⟩:=hl.facts h h0;have fr:=gV.facts h.toTreeU hv;have kl:∀x,x∈(K b).take k→x∈K b:=fun x hx=>List.mem_of_mem_take hx
 have oH:∀x i o,(x,i,o)∈r→iE up x b∧0≤pl x∧x≠b:=by
  intro x i o hx;obtain⟨⟨c',ru,ha⟩,_⟩:=fr.1 x i o hx;have im:=h.L0 b c' (kl c' ru);refine⟨ha.trans (h.EW (kl c' ru)),?_,?_⟩
  ·rcases Int.lt_or_le (pl x) 0 with h7|h7
   ·exact absurd ha (h.neg x c' h7 (h.pos b f1 c' (kl c' ru)))
   ·exact h7
  ·rintro rfl;have:=h.le _ _ ha f1;omega
 have uA:(b::((op.map (·.1)++rs.map (·.1))++r.map (·.1))).Nodup:=by
  rw[List.nodup_cons,List.nodup_append];refine⟨fun hm=> ?_,f4,gV.IM h f1 kl ((h.IM b).sublist (List.take_sublist _ _)) hv,fun x hx y hy e=> ?_⟩
  ·rcases List.mem_append.1 hm with hm|hm
   ·rcases List.mem_append.1 hm with hm|hm
    ·obtain⟨⟨x,i⟩,mx,rfl⟩:=List.mem_map.1 hm;have:=(f2 x i mx).2.1;simp only at this;omega
    ·obtain⟨⟨x,i,o⟩,mx,rfl⟩:=List.mem_map.1 hm;exact(f3 x i o mx).1 (.refl _)
   ·obtain⟨⟨x,i,o⟩,mx,rfl⟩:=List.mem_map.1 hm;exact(oH x i o mx).2.2 rfl
  ·obtain⟨⟨y,i',o'⟩,my,rfl⟩:=List.mem_map.1 hy;rcases List.mem_append.1 hx with hx|hx
   ·obtain⟨⟨x,i⟩,mx,rfl⟩:=List.mem_map.1 hx;simp only at e;subst e;have:=(f2 x i mx).2.1;have:=h.le _ _ (oH x i' o' my).1 (oH x i' o' my).2.1;omega
   ·obtain⟨⟨x,i,o⟩,mx,rfl⟩:=List.mem_map.1 hx;simp only at e;subst e;exact(f3 x i o mx).1 (oH x i' o' my).1
 have:=C7 (N:=N) uA (fun x hx=>by
  rcases List.mem_cons.1 hx with rfl|hx
  ·exact hN _ f1
  ·rcases List.mem_append.1 hx with hx|hx
   ·rcases List.mem_append.1 hx with hm|hm
    ·obtain⟨⟨x,i⟩,mx,rfl⟩:=List.mem_map.1 hm;exact hN _ (f2 x i mx).2.2.1
    ·obtain⟨⟨x,i,o⟩,mx,rfl⟩:=List.mem_map.1 hm;exact hN _ (f3 x i o mx).2
   ·obtain⟨⟨x,i,o⟩,mx,rfl⟩:=List.mem_map.1 hx;exact hN _ (oH x i o mx).2.1)
 have hlen:=gV.len hv;simp only[bk,List.length_append,List.length_map]at this;omega
end
section
variable {K : Int → List Int} {pl up : Int → Int}
mutual
theorem x9.kids{b:Int}{n m:Nat}{r:m9}:x9 K b n m r→(∃i o,(b,i,o)∈r)∧∀x i o,(x,i,o)∈r→∀c,c∈K x→∃i' o',(c,i',o')∈r
 | .mk (m:=m) (r:=r) hl=>by
  have ih:=gV.kids hl;refine⟨⟨n+1,m+1,sI⟩,fun x i o hx c hc=> ?_⟩;rcases List.mem_append.1 hx with hx|hx
  ·obtain⟨i',o',h'⟩:=ih.2 x i o hx c hc;exact⟨i',o',List.mem_append_left _ h'⟩
  ·simp only[List.mem_singleton,Prod.mk.injEq]at hx;obtain⟨rfl,_,_⟩:=hx;obtain⟨i',o',h'⟩:=ih.1 c hc;exact⟨i',o',List.mem_append_left _ h'⟩
theorem gV.kids{l:ar}{n m:Nat}{r:m9}:gV K l n m r→(∀c,c∈l→∃i o,(c,i,o)∈r)∧∀x i o,(x,i,o)∈r→∀c,c∈K x→∃i' o',(c,i',o')∈r
 | .nil=>⟨fun c hc=>by simp at hc,fun x i o hx=>by simp at hx⟩
 | .snoc (l:=l) (c:=c0) hl hv=>by
  have i1:=gV.kids hl;have i2:=x9.kids hv;refine⟨fun c hc=> ?_,fun x i o hx c hc=> ?_⟩
  ·rcases List.mem_append.1 hc with hc|hc
   ·obtain⟨i',o',h'⟩:=i1.1 c hc;exact⟨i',o',List.mem_append_left _ h'⟩
   ·simp only[List.mem_singleton]at hc;subst hc;obtain⟨i',o',h'⟩:=i2.1;exact⟨i',o',List.mem_append_right _ h'⟩
  ·rcases List.mem_append.1 hx with hx|hx
   ·obtain⟨i',o',h'⟩:=i1.2 x i o hx c hc;exact⟨i',o',List.mem_append_left _ h'⟩
   ·obtain⟨i',o',h'⟩:=i2.2 x i o hx c hc;exact⟨i',o',List.mem_append_right _ h'⟩
end
theorem Tw.VN{n:Nat}{f g:Int→Int}(h:mJ K pl up)(h0:0≤pl 0)(cr:∀x,0≤pl x→x≠0→x∈K (up x)∧0≤pl (up x)∧pl (up x)<pl x)(hf:Tw K n f g){x y:Int}(hx:0≤pl x)(hy:0≤pl y):(0<f x∧0<f y∧f x≤f y∧g y≤g x)↔iE up y x:=by
 obtain⟨rs,hv,pY,na⟩:=hf;have hk:=x9.kids hv;have key:∀(m:Nat) (x:Int),0≤pl x→(pl x).toNat≤m→∃i o,(x,i,o)∈rs:=by
  intro m;induction m with
  |zero=>
   intro x hx hm;by_cases e:x=0
   ·subst e;exact hk.1
   ·have:=cr x hx e;omega
  |succ m ih=>
   intro x hx hm;by_cases e:x=0
   ·subst e;exact hk.1
   ·obtain⟨h1,h2,h3⟩:=cr x hx e;obtain⟨i,o,H7⟩:=ih (up x) h2 oM;exact hk.2 _ i o H7 x h1
 obtain⟨i,o,mx⟩:=key _ x hx (Nat.le_refl _);obtain⟨i',o',my⟩:=key _ y hy (Nat.le_refl _);have fr:=x9.facts h.toTreeU hv;obtain⟨_,p1,p2,_⟩:=fr.1 x i o mx;obtain⟨_,p3,p4,_⟩:=fr.1 y i' o' my;rw[(pY x).2.1 i o mx,(pY y).2.1 i' o' my,(na x).1 i o mx,(na y).1 i' o' my,←x9.hold h h0 hv x i o y i' o' mx my];omega
end
end Go.Mor
namespace Go.Mor
open Go.RowKit
def eJ(bs:List SB)(up:Int→Int)(k:Nat)(d:Int):ar:=((au bs).take k).filter (fun x=>up x==d)
def kF(bs:List SB)(up:Int→Int)(k:Nat):List ar:=(List.range bs.length).map (fun d:Nat=>eJ bs up k (d:Int))
def fH(bs:List SB)(up:Int→Int)(b:Int):ar:=if 0≤b then(au bs).filter (fun x=>up x==b)else[]
section
variable {bs : List SB} {up : Int → Int}
theorem IP(k:Nat)(d:Int):(eJ bs up k d).length≤bs.length:=by
 have:=gU bs;have h2:=bx (fun x=>up x==d) ((au bs).take k);have:((au bs).take k).length≤(au bs).length:=by simp;omega
 unfold eJ;omega
theorem C8:kF bs up 0=List.replicate bs.length []:=by
 unfold kF eJ;apply List.ext_getElem?;intro t;by_cases h:t<bs.length
 ·simp[h]
 ·rw[List.getElem?_eq_none (by simpa using h),List.getElem?_eq_none (by simpa using h)]
theorem qX(k:Nat):(kF bs up k).length=bs.length:=by simp[kF]
theorem l5{k d:Nat}(hd:d<bs.length):(kF bs up k)[d]?=some (eJ bs up k (d:Int)):=by simp[kF,hd]
theorem C9{k d:Nat}{b:Int}(hk:(au bs)[k]?=some b)(hu:up b=(d:Int))(hd:d<bs.length):(kF bs up k).set d (eJ bs up k (d:Int)++[b])=kF bs up (k+1):=by
 apply List.ext_getElem?;intro t;by_cases e:d=t
 ·subst e;rw[List.getElem?_set_self (by rw[qX];exact hd),l5 hd];congr 1;unfold eJ;rw[jm hk,List.filter_append];simp[hu]
 ·rw[List.getElem?_set_ne e];by_cases h:t<bs.length
  ·rw[l5 h,l5 h];congr 1;unfold eJ;rw[jm hk,List.filter_append];have:¬up b=(t:Int):=by rw[hu];omega
   simp[this]
  ·rw[List.getElem?_eq_none (by rw[qX];omega),List.getElem?_eq_none (by rw[qX];omega)]
theorem Da{k:Nat}{b:Int}(hk:(au bs)[k]?=some b)(hu:up b<0):kF bs up k=kF bs up (k+1):=by
 unfold kF;apply List.map_congr_left;intro t _;unfold eJ;rw[jm hk,List.filter_append];have:¬up b=(t:Int):=oM;simp[this]
theorem IQ{k b:Nat}(hk:(au bs).length≤k)(hb:b<bs.length):(kF bs up k)[b]?=some (fH bs up (b:Int)):=by
 rw[l5 hb];unfold eJ fH;rw[List.take_of_length_le hk,if_pos oM]
theorem se{b c:Int}:c∈fH bs up b↔0≤b∧c∈au bs∧up c=b:=by
 unfold fH;split
 ·rename_i h;simp[h]
 ·rename_i h;simp[h]
theorem IT(b:Int):(fH bs up b).length≤bs.length:=by
 unfold fH;have:=gU bs;split
 ·have h2:=bx (fun x=>up x==b) (au bs);omega
 ·simp
theorem wq(h0:0<bs.length){c:Int}:c∈au bs↔0≤jf bs c:=by
 rw[(jg h0).reach,(lX h0).mem]
theorem Bc.tree(h0:0<bs.length)(hf:Bc bs up):mJ (fH bs up) (jf bs) up where
 L0 b c hc:=by
  obtain⟨h1,h2,h3⟩:=se.1 hc;have hp:=(wq h0).1 h2;have dG:c≠0:=by rintro rfl;have:=hf.off 0 (.inr rfl);omega
  have:=(hf.ok.low c (hf.EV c hp) dG).2;rw[h3]at this;exact⟨h3,dG,this⟩
 IM b:=by
  unfold fH;split
  ·exact(lX h0).nodup.sublist List.filter_sublist
  ·exact List.nodup_nil
 le x d h hx:=(iE.EV hf.ok h (hf.EV x hx)).2.1;pos b hb c hc:=(wq h0).1 (se.1 hc).2.1;neg x d hx hd h:=by
  induction h with
  |refl=>omega
  | @step x d dG h ih=>
   refine ih ?_ hd;rw[hf.off x (.inl hx)];rcases Int.lt_or_le (jf bs (-1)) 0 with h1|h1
   ·exact h1
   ·have:=kL h0 h1;omega
theorem Bc.cr(h0:0<bs.length)(hf:Bc bs up):∀x,0≤jf bs x→x≠0→x∈fH bs up (up x)∧0≤jf bs (up x)∧jf bs (up x)<jf bs x:=by
 intro x hx dG;obtain⟨h1,h2⟩:=hf.ok.low x (hf.EV x hx) dG;have:=kL h0 h1.1;exact⟨se.2 ⟨this.1,(wq h0).2 hx,rfl⟩,h1.1,h2⟩
theorem VO(h0:0<bs.length)(hf:Bc bs up){b:Int}(hb:0≤jf bs b)(hu:0≤up b):∃d:Nat,up b=(d:Int)∧d<bs.length:=by
 have dG:b≠0:=by rintro rfl;have:=hf.off 0 (.inr rfl);omega
 have h:=kL h0 (hf.cr h0 b hb dG).2.1;exact⟨(up b).toNat,(Int.toNat_of_nonneg h.1).symm,oM⟩
theorem Rp(h0:0<bs.length){b:Int}{k:Nat}(hk:k<(fH bs up b).length):∃ci:Nat,(fH bs up b)[k]?=some (ci:Int)∧ci<bs.length:=by
 have hm:(fH bs up b)[k]∈fH bs up b:=List.getElem_mem hk;have hp:=(wq h0).1 (se.1 hm).2.1;have:=kL h0 hp;exact⟨((fH bs up b)[k]).toNat,by rw[List.getElem?_eq_getElem hk,Int.toNat_of_nonneg this.1],oM⟩
end
theorem sf(ws:List (Int×Int))(b k:Int):iw ws++[vI b,vI k]=iw (ws++[(b,k)]):=by simp[iw]
theorem mK(ws:List (Int×Int))(b k:Int):(iw (ws++[(b,k)]))[ws.length*2]?=some (vI b)∧(iw (ws++[(b,k)]))[ws.length*2+1]?=some (vI k):=LQ (p:=(b,k)) sI
theorem Rq(ws:List (Int×Int))(b k:Int):(iw (ws++[(b,k)])).take (ws.length*2)=iw ws:=by
 rw[←sf,List.take_left' (by rw[AW])]
theorem Rr(ws:List (Int×Int))(b k v:Int):(iw (ws++[(b,k)])).set (ws.length*2+1) (vI v)=iw (ws++[(b,v)]):=by
 rw[←sf,←sf,List.set_append_right _ _ (by rw[AW];omega),AW,show ws.length*2+1-ws.length*2=1 by omega];rfl
theorem cE.upd{n:Nat}{l:ar}{f:Int→Int}(h:cE n l f){b v:Int}(h0:0≤b)(h1:b<(n:Int)):cE n (l.set b.toNat v) (ya f b v):=by
 refine h.set oM (by simp[ya,Int.toNat_of_nonneg h0]) (fun j _ dG=> ?_);unfold ya;rw[if_neg oM]
theorem ze(n:Nat):cE n (List.replicate n 0) (fun _=>0):=⟨sI,fun i hi=>by simp[List.getD,hi]⟩
section
variable {K : Int → List Int} {ws : List (Int × Int)} {b : Int} {n k : Nat} {f g : Int → Int}
theorem gV.le{l:ar}{n m:Nat}{r:m9}(h:gV K l n m r):n≤m:=by have:=gV.len h;omega
theorem L1.IU{op:List (Int×Nat)}{rs:m9}(h:L1 K ws b n op rs):ws.length≤n:=by
 induction h with
 |nil=>simp
 |snoc _ hv _ ih=>have:=hv.le;simp only[List.length_append,bk,List.length_nil];omega
theorem mV.IU(h:mV K ws b n f g):ws.length≤n:=by
 obtain⟨op,rs,hl,_⟩:=h;exact hl.IU
theorem Ha.IU(h:Ha K ws b k n f g):ws.length+1≤n:=by
 obtain⟨op,rs,n0,r,hl,hv,_⟩:=h;have:=hl.IU;have:=hv.le;omega
theorem Bf.start:Bf K [(0,0)] 0 (fun _=>0) (fun _=>0):= .inr ⟨[],0,0,sI,.inl ⟨rfl,[],[],.nil,fun x=>⟨sI,sI,fun _ _=>rfl⟩,fun x=>⟨sI,fun _=>rfl⟩⟩⟩
theorem Bf.none(h:Bf K [] n f g):Tw K n f g:=by
 rcases h with⟨_,h⟩|⟨ws,b,k,e,_⟩
 ·exact h
 ·simp at e
theorem Bf.some{p9:List (Int×Int)}(h:Bf K p9 n f g)(hw:0<p9.length):∃(ws:List (Int×Int)) (b:Int) (k:Nat),p9=ws++[(b,(k:Int))]∧((k=0∧mV K ws b n f g)∨(1≤k∧Ha K ws b k n f g)):=by
 rcases h with⟨rfl,_⟩|h
 ·simp at hw
 ·exact h
def wu(p9:List (Int×Int)):Nat:=match p9.getLast? with
 |some (_,k)=>if k=0 then 0 else 1
 |none=>0
theorem L3(p9:List (Int×Int)):wu p9≤1:=by
 unfold wu;split
 ·split<;>omega
 ·omega
theorem qY(ws:List (Int×Int))(b k:Int):wu (ws++[(b,k)])=if k=0 then 0 else 1:=by simp[wu]
end
end Go.Mor
namespace Go.Mor
open Go.RowKit
def eo(f g:Int→Int)(a b:Int):Prop:=0<f a∧0<f b∧f a≤f b∧g b≤g a
instance (f g : Int → Int) (a b : Int) : Decidable (eo f g a b) := by unfold eo; infer_instance
def dh(D:Int→Int→Prop)(pa va:Int)(ds:uB)(v b q:Int):Prop:=0≤v∧v<va∧(v<pa∨∃p,findD ds v=some p∧((p.1=b∧p.2<q)∨(p.1≠b∧D p.1 b)))
noncomputable instance (D : Int → Int → Prop) (pa va : Int) (ds : uB) (v b q : Int) : Decidable (dh D pa va ds v b q) := Classical.propDecidable _
section
variable {D : Int → Int → Prop} {pa va : Int} {n : Nat} {ds : uB} {l : List (Int × Int)} {v b q : Int} {pm : Int × Int}
theorem zf(h:v<0∨va≤v):¬dh D pa va ds v b q:=fun⟨h1,h2,_⟩=>oM
theorem IV(h0:0≤v)(h1:v<va)(h2:v<pa):dh D pa va ds v b q:=⟨h0,h1,.inl h2⟩
theorem tx{base:Nat→Int×Int}{enc:Int×Int→Int×Int}(ht:zb n base enc ds l)(mC:l[v.toNat]?=some pm)(h0:0≤v)(h1:v<(n:Int)):pm=(match findD ds v with|some p=>enc p|none=>base v.toNat):=by
 have:=ht.at_ v.toNat oM;rw[mC,Int.toNat_of_nonneg h0]at this;exact dT this
theorem pt(hn:NonNeg ds){p:Int×Int}(h:findD ds v=some p):0≤p.1:=by
 by_cases hm:v∈ds.map (·.1)
 ·obtain⟨p',h1,h2⟩:=kE hm;rw[h]at h1;injection h1 with h1;subst h1;exact hn _ h2
 ·rw[iT hm]at h;cases h
abbrev E6(n:Nat)(ds:uB)(l:List (Int×Int)):Prop:=zb n (fun _=>(-1,0)) (fun p=>(p.1,p.2+1)) ds l
theorem L4(ht:E6 n ds l)(hn:NonNeg ds)(mC:l[v.toNat]?=some pm)(h0:0≤v)(h1:v<(n:Int))(hv:¬v<pa)(h2:pm.1<0):¬dh D pa va ds v b q:=by
 rintro⟨_,_,h|⟨p,hp,_⟩⟩
 ·exact hv h
 ·have:=tx ht mC h0 h1;rw[hp]at this;have h3:=pt hn hp;rw[this]at h2;simp only at h2;omega
theorem qZ(ht:E6 n ds l)(mC:l[v.toNat]?=some pm)(h0:0≤v)(h1:v<(n:Int))(h2:0≤pm.1):findD ds v=some (pm.1,pm.2-1):=by
 have:=tx ht mC h0 h1;cases hf:findD ds v with
 |none=>
  rw[hf]at this;rw[this]at h2;simp only at h2;omega
 |some p=>
  rw[hf]at this;rw[this];simp only[Int.add_sub_cancel]
theorem E7(ht:E6 n ds l)(mC:l[v.toNat]?=some pm)(h0:0≤v)(h1:v<(n:Int))(g9:va=(n:Int))(hv:¬v<pa)(h2:0≤pm.1)(h3:pm.1=b):pm.2≤q↔dh D pa va ds v b q:=by
 have hf:=qZ ht mC h0 h1 h2;constructor
 ·intro h;exact⟨h0,oM,.inr ⟨_,hf,.inl ⟨h3,by show pm.2-1<q;omega⟩⟩⟩
 ·rintro⟨_,_,h|⟨p,hp,h⟩⟩
  ·exact absurd h hv
  ·rw[hf]at hp;injection hp with hp;subst hp;rcases h with⟨_,h⟩|⟨h,_⟩
   ·simp only at h;omega
   ·exact absurd h3 h
theorem L5(ht:E6 n ds l)(mC:l[v.toNat]?=some pm)(h0:0≤v)(h1:v<(n:Int))(g9:va=(n:Int))(hv:¬v<pa)(h2:0≤pm.1)(h3:¬pm.1=b):D pm.1 b↔dh D pa va ds v b q:=by
 have hf:=qZ ht mC h0 h1 h2;constructor
 ·intro h;exact⟨h0,oM,.inr ⟨_,hf,.inr ⟨h3,h⟩⟩⟩
 ·rintro⟨_,_,h|⟨p,hp,h⟩⟩
  ·exact absurd h hv
  ·rw[hf]at hp;injection hp with hp;subst hp;rcases h with⟨h,_⟩|⟨_,h⟩
   ·exact absurd h h3
   ·exact h
theorem IW{N:Nat}(ht:E6 n ds l)(hd:∀d,d∈ds→0≤d.2.1∧d.2.1<(N:Int)∧-1≤d.2.2)(mC:l[v.toNat]?=some pm)(h0:0≤v)(h1:v<(n:Int))(h2:0≤pm.1):pm.1<(N:Int):=by
 have hf:=qZ ht mC h0 h1 h2;by_cases hm:v∈ds.map (·.1)
 ·obtain⟨p,h3,h4⟩:=kE hm;rw[hf]at h3;injection h3 with h3;subst h3;exact(hd _ h4).2.1
 ·rw[iT hm]at hf;cases hf
theorem E8{N:Nat}(ht:zb n (ke pa) (fun p=>p) ds l)(hd:∀d,d∈ds→0≤d.2.1∧d.2.1<(N:Int)∧-1≤d.2.2)(mC:l[v.toNat]?=some pm)(h0:0≤v)(h1:v<(n:Int))(hN:0<N):pm.1<(N:Int):=by
 have h4:=tx ht mC h0 h1;by_cases hm:v∈ds.map (·.1)
 ·obtain⟨p,h5,h6⟩:=kE hm;rw[h5]at h4;rw[h4];exact(hd _ h6).2.1
 ·rw[iT hm]at h4;rw[h4];show(ke pa v.toNat).1<(N:Int);unfold ke;split<;>simp only<;>omega
abbrev Db(pa:Int)(n:Nat)(ds:uB)(l:List (Int×Int)):Prop:=zb n (ke pa) (fun p=>p) ds l
theorem IX(ht:Db pa n ds l)(hn:NonNeg ds)(mC:l[v.toNat]?=some pm)(h0:0≤v)(h1:v<(n:Int))(h2:pm.1<0):¬dh D pa va ds v b q:=by
 have h3:=tx ht mC h0 h1;rintro⟨_,_,h|⟨p,hp,_⟩⟩
 ·cases hf:findD ds v with
  |none=>
   rw[hf]at h3;have:(v.toNat:Int)<pa:=oM;simp only[ke,this,if_true]at h3;rw[h3]at h2;exact absurd h2 dQ
  |some p=>
   rw[hf]at h3;have:=pt hn hf;have e:pm=p:=h3;rw[e]at h2;omega
 ·rw[hp]at h3;have:=pt hn hp;have e:pm=p:=h3;rw[e]at h2;omega
theorem E9(ht:Db pa n ds l)(hk:∀d,d∈ds→-1≤d.2.2)(mC:l[v.toNat]?=some pm)(h0:0≤v)(h1:v<(n:Int))(g9:va=(n:Int))(h2:0≤pm.1)(h3:pm.2= -2):dh D pa va ds v b q:=by
 have h4:=tx ht mC h0 h1;cases hf:findD ds v with
 |none=>
  rw[hf]at h4;by_cases h:(v.toNat:Int)<pa
  ·exact⟨h0,oM,.inl oM⟩
  ·simp only[ke,h,if_false]at h4;rw[h4]at h2;exact absurd h2 dQ
 |some p=>
  exfalso;rw[hf]at h4;by_cases hm:v∈ds.map (·.1)
  ·obtain⟨p',h5,h6⟩:=kE hm;rw[hf]at h5;injection h5 with h5;subst h5;have:=hk _ h6;simp only at this h4;rw[←h4]at this;omega
  ·rw[iT hm]at hf;cases hf
theorem tW(ht:Db pa n ds l)(mC:l[v.toNat]?=some pm)(h0:0≤v)(h1:v<(n:Int))(h2:0≤pm.1)(h3:¬pm.2= -2):findD ds v=some pm:=by
 have h4:=tx ht mC h0 h1;cases hf:findD ds v with
 |none=>
  rw[hf]at h4;by_cases h:(v.toNat:Int)<pa
  ·simp only[ke,h,if_true]at h4;rw[h4]at h3;exact absurd rfl h3
  ·simp only[ke,h,if_false]at h4;rw[h4]at h2;exact absurd h2 dQ
 |some p=>rw[hf]at h4;rw[h4]
theorem Dc(ho:∀p,findD ds v=some p→¬v<pa)(ht:Db pa n ds l)(mC:l[v.toNat]?=some pm)(h0:0≤v)(h1:v<(n:Int))(g9:va=(n:Int))(h2:0≤pm.1)(h3:¬pm.2= -2)(h4:pm.1=b):pm.2<q↔dh D pa va ds v b q:=by
 have hf:=tW ht mC h0 h1 h2 h3;have hv:=ho _ hf;constructor
 ·intro h;exact⟨h0,oM,.inr ⟨_,hf,.inl ⟨h4,h⟩⟩⟩
 ·rintro⟨_,_,h|⟨p,hp,h⟩⟩
  ·exact absurd h hv
  ·rw[hf]at hp;injection hp with hp;subst hp;rcases h with⟨_,h⟩|⟨h,_⟩
   ·exact h
   ·exact absurd h4 h
theorem IY(ho:∀p,findD ds v=some p→¬v<pa)(ht:Db pa n ds l)(mC:l[v.toNat]?=some pm)(h0:0≤v)(h1:v<(n:Int))(g9:va=(n:Int))(h2:0≤pm.1)(h3:¬pm.2= -2)(h4:¬pm.1=b):D pm.1 b↔dh D pa va ds v b q:=by
 have hf:=tW ht mC h0 h1 h2 h3;have hv:=ho _ hf;constructor
 ·intro h;exact⟨h0,oM,.inr ⟨_,hf,.inr ⟨h4,h⟩⟩⟩
 ·rintro⟨_,_,h|⟨p,hp,h⟩⟩
  ·exact absurd h hv
  ·rw[hf]at hp;injection hp with hp;subst hp;rcases h with⟨h,_⟩|⟨_,h⟩
   ·exact absurd h h4
   ·exact h
theorem Fa(ht:Db pa n ds l)(hn:NonNeg ds)(g9:va=(n:Int))(h:¬(0≤v∧v<(n:Int)∧0≤(l.getD v.toNat (0,0)).1)):¬dh D pa va ds v b q:=by
 by_cases hv:0≤v∧v<(n:Int)
 ·have hl:=ht.len;exact IX ht hn (ny (0,0) oM) hv.1 hv.2 oM
 ·exact zf oM
theorem Dd(ho:∀d,d∈ds→pa≤d.1):∀p,findD ds v=some p→¬v<pa:=by
 intro p hp;by_cases hm:v∈ds.map (·.1)
 ·obtain⟨d,hd,rfl⟩:=List.mem_map.1 hm;have:=ho d hd;omega
 ·rw[iT hm]at hp;cases hp
def iU(bs:List SB)(a b:Int):Prop:=EU (gZ bs) a.toNat b.toNat=true
end
structure Bg(D:Int→Int→Prop)(E:Int→Int)(R:aI→Prop)(pa va:Int)(fs:List aI)(k:Nat)(x:aI):Prop where
 aE:∀(j:Nat) (p:fI),x.aE[j]?=some p→p.args.length=(bW (ae fs) (k:Int)).length∧
  ∀(i:Nat) (a s:Int),p.args[i]?=some a→(bW (ae fs) (k:Int))[i]?=some s→dh D pa va (cX fs) a s (E s)
 insts:∀(j:Nat) (p:cV),x.insts[j]?=some p→∀(i:Nat) (a:Int),p.args[i]?=some a→dh D pa va (cX fs) a (k:Int) (j:Int)
 fin:R x→dh D pa va (cX fs) x.v (k:Int) (E (k:Int))
def fS(D:Int→Int→Prop)(E:Int→Int)(R:aI→Prop)(pa va:Int)(fs:List aI)(k:Nat):Prop:=∃x,fs[k]?=some x∧Bg D E R pa va fs k x
noncomputable instance (D : Int → Int → Prop) (E : Int → Int) (R : aI → Prop) (pa va : Int) (fs : List aI) (k : Nat) : Decidable (fS D E R pa va fs k) := Classical.propDecidable _
def uC(fs:List aI)(b:Int):Int:=match fs[b.toNat]? with
 |some x=>(x.insts.length:Int)
 |none=>0
theorem u4{fs:List aI}{k:Nat}{x:aI}(h:fs[k]?=some x):uC fs (k:Int)=(x.insts.length:Int):=by simp[uC,h]
def gu(x:aI):Prop:=x.e=1∨(x.e=2∧0≤x.v)
def yb(x:aI):Prop:=x.e=1∨(x.e=2∧x.v≠-1)
section
variable {D : Int → Int → Prop} {E : Int → Int} {R : aI → Prop} {pa va : Int} {fs : List aI} {k : Nat} {x : aI}
def tX(D:Int→Int→Prop)(E:Int→Int)(pa va:Int)(fs:List aI)(k:Nat)(x:aI)(j:Nat):Prop:=∀(j':Nat) (p:fI),j'<j→x.aE[j']?=some p→p.args.length=(bW (ae fs) (k:Int)).length∧∀(i:Nat) (a s:Int),p.args[i]?=some a→(bW (ae fs) (k:Int))[i]?=some s→dh D pa va (cX fs) a s (E s)
def zh(D:Int→Int→Prop)(E:Int→Int)(pa va:Int)(fs:List aI)(k:Nat)(p:fI)(i:Nat):Prop:=∀(i':Nat) (a s:Int),i'<i→p.args[i']?=some a→(bW (ae fs) (k:Int))[i']?=some s→dh D pa va (cX fs) a s (E s)
def tY(D:Int→Int→Prop)(pa va:Int)(fs:List aI)(k:Nat)(x:aI)(j:Nat):Prop:=∀(j':Nat) (p:cV),j'<j→x.insts[j']?=some p→∀(i:Nat) (a:Int),p.args[i]?=some a→dh D pa va (cX fs) a (k:Int) (j':Int)
def IZ(D:Int→Int→Prop)(pa va:Int)(fs:List aI)(k j:Nat)(p:cV)(i:Nat):Prop:=∀(i':Nat) (a:Int),i'<i→p.args[i']?=some a→dh D pa va (cX fs) a (k:Int) (j:Int)
theorem nc{P:Nat→Prop}{n:Nat}(h:∀i,i<n→P i)(hn:P n):∀i,i<n+1→P i:=fun i hi=>by
 by_cases e:i=n
 ·subst e;exact hn
 ·exact h i oM
theorem tX.next{j:Nat}{p:fI}(h:tX D E pa va fs k x j)(hp:x.aE[j]?=some p)(hl:p.args.length=(bW (ae fs) (k:Int)).length)(ha:zh D E pa va fs k p p.args.length):tX D E pa va fs k x (j+1):=by
 intro j' p' hj Ew;by_cases e:j'=j
 ·subst e;rw[hp]at Ew;injection Ew with Ew;subst Ew;exact⟨hl,fun i a s hi=>ha i a s (List.getElem?_eq_some_iff.1 hi).1 hi⟩
 ·exact h j' p' oM Ew
theorem zh.next{i:Nat}{p:fI}{a s:Int}(h:zh D E pa va fs k p i)(hi:p.args[i]?=some a)(hs:(bW (ae fs) (k:Int))[i]?=some s)(ht:dh D pa va (cX fs) a s (E s)):zh D E pa va fs k p (i+1):=by
 intro i' a' s' fo h1 h2;by_cases e:i'=i
 ·subst e;rw[hi]at h1;rw[hs]at h2;injection h1 with h1;injection h2 with h2;subst h1;subst h2;exact ht
 ·exact h i' a' s' oM h1 h2
theorem tY.next{j:Nat}{p:cV}(h:tY D pa va fs k x j)(hp:x.insts[j]?=some p)(ha:IZ D pa va fs k j p p.args.length):tY D pa va fs k x (j+1):=by
 intro j' p' hj Ew;by_cases e:j'=j
 ·subst e;rw[hp]at Ew;injection Ew with Ew;subst Ew;exact fun i a hi=>ha i a (List.getElem?_eq_some_iff.1 hi).1 hi
 ·exact h j' p' oM Ew
theorem IZ.next{j i:Nat}{p:cV}{a:Int}(h:IZ D pa va fs k j p i)(hi:p.args[i]?=some a)(ht:dh D pa va (cX fs) a (k:Int) (j:Int)):IZ D pa va fs k j p (i+1):=by
 intro i' a' fo h1;by_cases e:i'=i
 ·subst e;rw[hi]at h1;injection h1 with h1;subst h1;exact ht
 ·exact h i' a' oM h1
theorem qa(hx:fs[k]?=some x)(h1:tX D E pa va fs k x x.aE.length)(h2:tY D pa va fs k x x.insts.length)(h3:R x→dh D pa va (cX fs) x.v (k:Int) (E (k:Int))):fS D E R pa va fs k:=⟨x,hx,fun j p hp=>h1 j p (List.getElem?_eq_some_iff.1 hp).1 hp,fun j p hp=>h2 j p (List.getElem?_eq_some_iff.1 hp).1 hp,h3⟩
theorem pv(hx:fs[k]?=some x)(h:fS D E R pa va fs k):Bg D E R pa va fs k x:=by
 obtain⟨y,hy,h⟩:=h;rw[hx]at hy;injection hy with hy;subst hy;exact h
theorem zi(hx:fs[k]?=some x){j:Nat}{p:fI}(hp:x.aE[j]?=some p)(hl:¬p.args.length=(bW (ae fs) (k:Int)).length):¬fS D E R pa va fs k:=fun h=>hl ((pv hx h).aE j p hp).1
theorem zj(hx:fs[k]?=some x){j i:Nat}{p:fI}{a s:Int}(hp:x.aE[j]?=some p)(hi:p.args[i]?=some a)(hs:(bW (ae fs) (k:Int))[i]?=some s)(ht:¬dh D pa va (cX fs) a s (E s)):¬fS D E R pa va fs k:=fun h=>ht (((pv hx h).aE j p hp).2 i a s hi hs)
theorem De(hx:fs[k]?=some x){j i:Nat}{p:cV}{a:Int}(hp:x.insts[j]?=some p)(hi:p.args[i]?=some a)(ht:¬dh D pa va (cX fs) a (k:Int) (j:Int)):¬fS D E R pa va fs k:=fun h=>ht ((pv hx h).insts j p hp i a hi)
end
end Go.Mor
namespace Go.Mor
open Go.RowKit
structure mL(nm:eV)(pa va:Int)(fs:List aI):Prop where
 name:bG nm
 par:0≤pa∧pa≤16∧pa≤va
 pos:0<fs.length
 aE:∀x,fs[0]?=some x→x.aE.length=0
 src:(bW (ae fs) 0).length=0
 all:(au (ae fs)).length=fs.length
 ends:∀x,x∈fs→kb (fs.length:Int) x
 Df:VQ pa va fs
 reads:∀k,k<fs.length→fS (Dm (tg (ae fs))) (fun _=>20000) yb pa va fs k
noncomputable instance (nm : ByteArray) (pa va : Int) (fs : List aI) : Decidable (mL nm pa va fs) := Classical.propDecidable _
noncomputable def dE(nm:eV)(pa va:Int)(fs:List aI):Int:=if(eb fs:Int)>20000∨va>20000 then 12 else if mL nm pa va fs then 0 else 4
section
variable {nm : ByteArray} {pa va : Int} {fs : List aI}
theorem Dg(h:(eb fs:Int)>20000∨va>20000):(12:Int)=dE nm pa va fs:=by rw[dE,if_pos h]
theorem fQ(h:¬((eb fs:Int)>20000∨va>20000))(hg:¬mL nm pa va fs):(4:Int)=dE nm pa va fs:=by rw[dE,if_neg h,if_neg hg]
theorem Bn(h:¬((eb fs:Int)>20000∨va>20000))(hg:mL nm pa va fs):(0:Int)=dE nm pa va fs:=by rw[dE,if_neg h,if_pos hg]
end
section
variable {bs : List SB}
theorem wx:(au bs).length=bs.length↔∀i:Nat,i<bs.length→gn bs (-1) (i:Int)=true:=by
 rw[←Ro];unfold VM;have h:=List.length_filter_eq_length_iff (p:=fun i:Nat=>gn bs (-1) (i:Int)) (l:=List.range bs.length);rw[List.length_range]at h;rw[h];simp only[List.mem_range]
theorem qb(hl:(au bs).length=bs.length){b:Int}(h0:0≤b)(h1:b<(bs.length:Int)):0≤jf bs b:=by
 have hp:0<bs.length:=oM;have:=wx.1 hl b.toNat oM;rw[Int.toNat_of_nonneg h0]at this;exact((jg hp).reach _).2 (lY.1 this)
theorem L6{up:Int→Int}{n:Nat}{f g:Int→Int}(h0:0<bs.length)(hl:(au bs).length=bs.length)(hf:Bc bs up)(hn:Tw (fH bs up) n f g){a b:Int}(ha:0≤a∧a<(bs.length:Int))(hb:0≤b∧b<(bs.length:Int)):eo f g a b↔Dm (tg bs) a b:=by
 have pa:=qb hl ha.1 ha.2;have pb:=qb hl hb.1 hb.2;have VP:0≤jf bs 0:=by rw[(jg h0).zero];omega
 rw[eo,Tw.VN (hf.tree h0) VP (hf.cr h0) hn pa pb];exact⟨hf.dm b a,hf.ok.EW (hf.EV b pb)⟩
theorem Rs(h0:0<bs.length)(hl:(au bs).length=bs.length){a b:Int}(ha:0≤a∧a<(bs.length:Int))(hb:0≤b∧b<(bs.length:Int)):iU bs a b↔Dm (tg bs) a b:=by
 have pb:=((jg h0).reach _).1 (qb hl hb.1 hb.2);unfold iU;rw[r7 oM oM,Int.toNat_of_nonneg ha.1,Int.toNat_of_nonneg hb.1];exact⟨fun h=>h.2,fun h=>⟨pb,h⟩⟩
end
theorem Fb{fs:List aI}{d:Int×Int×Int}(h:d∈cX fs):∃x,fs[d.2.1.toNat]?=some x∧d.2.2<(x.insts.length:Int):=by
 unfold cX en at h;rw[List.mem_flatMap]at h;obtain⟨x,hx,hd⟩:=h;rw[List.take_length]at hx;have Y6:fs[x.2]?=some x.1:=List.mem_zipIdx_iff_getElem?.1 hx;unfold kc at hd;rcases List.mem_append.1 hd with hd|hd
 ·unfold dJ at hd;obtain⟨p,_,rfl⟩:=List.mem_map.1 hd;refine⟨x.1,by simpa using Y6,?_⟩;show(-1:Int)<_;omega
 ·unfold ei at hd;obtain⟨p,hp,rfl⟩:=List.mem_map.1 hd;have hp1:x.1.insts[p.2]?=some p.1:=List.mem_zipIdx_iff_getElem?.1 (List.mem_filter.1 hp).1;have:=(List.getElem?_eq_some_iff.1 hp1).1;refine⟨x.1,by simpa using Y6,?_⟩;show(p.2:Int)<_;omega
theorem wy{fs:List aI}{k:Nat}{x:aI}(h:fs[k]?=some x):x.insts.length≤eb fs:=by
 have hk:=(List.getElem?_eq_some_iff.1 h).1;have key:∀n,k<n→n≤fs.length→x.insts.length≤gS fs n:=by
  intro n;induction n with
  |zero=>intro h1;omega
  |succ n ih=>
   intro h1 h2;obtain⟨y,hy⟩:=ba (l:=fs) (i:=n) oM;rw[gP hy];by_cases e:k=n
   ·subst e;rw[h]at hy;injection hy with hy;subst hy;omega
   ·have:=ih oM oM;omega
 have:=key fs.length hk (Nat.le_refl _);unfold eb;omega
section
variable {D D' : Int → Int → Prop} {E E' : Int → Int} {R R' : aI → Prop} {pa va : Int} {fs : List aI}
structure pw(D D':Int→Int→Prop)(E E':Int→Int)(fs:List aI):Prop where
 LG:∀a b:Int,0≤a∧a<(fs.length:Int)→0≤b∧b<(fs.length:Int)→(D a b↔D' a b)
 fin:∀d,d∈cX fs→(d.2.2<E d.2.1↔d.2.2<E' d.2.1)
theorem pw.symm(h:pw D D' E E' fs):pw D' D E' E fs:=⟨fun a b ha hb=>(h.LG a b ha hb).symm,fun d hd=>(h.fin d hd).symm⟩
theorem pw.there(h:pw D D' E E' fs){v b q q':Int}(hb:0≤b∧b<(fs.length:Int))(hq:(q=E b∧q'=E' b)∨q=q')(ht:dh D pa va (cX fs) v b q):dh D' pa va (cX fs) v b q':=by
 obtain⟨h1,h2,h3|⟨p,hp,h3⟩⟩:=ht
 ·exact⟨h1,h2,.inl h3⟩
 ·refine⟨h1,h2,.inr ⟨p,hp,?_⟩⟩;have hm:(v,p)∈cX fs:=by
   by_cases hm:v∈(cX fs).map (·.1)
   ·obtain⟨p',h4,h5⟩:=kE hm;rw[hp]at h4;injection h4 with h4;subst h4;exact h5
   ·rw[iT hm]at hp;cases hp
  have hr:=sa hm;rcases h3 with⟨h3,h4⟩|⟨h3,h4⟩
  ·refine .inl ⟨h3,?_⟩;rcases hq with⟨rfl,rfl⟩|rfl
   ·have:=h.fin _ hm;simp only[h3]at this;exact this.1 h4
   ·exact h4
  ·exact .inr ⟨h3,(h.LG _ _ ⟨hr.1,hr.2.1⟩ hb).1 h4⟩
theorem pw.reads(h:pw D D' E E' fs){k:Nat}{x:aI}(hk:k<fs.length)(hR:R' x→R x)(hr:Bg D E R pa va fs k x):Bg D' E' R' pa va fs k x where
 aE j p hp:=by obtain⟨h1,h2⟩:=hr.aE j p hp;refine⟨h1,fun i a s ha hs=>h.there ?_ (.inl ⟨rfl,rfl⟩) (h2 i a s ha hs)⟩;have hi:=(List.getElem?_eq_some_iff.1 hs).1;obtain⟨si,h3,h4⟩:=p7 hi;rw[hs]at h3;injection h3 with h3;subst h3;rw[bS]at h4;omega
 insts j p hp i a ha:=h.there oM (.inr rfl) (hr.insts j p hp i a ha);fin hx:=h.there oM (.inl ⟨rfl,rfl⟩) (hr.fin (hR hx))
theorem pw.fS(h:pw D D' E E' fs){k:Nat}(hR:∀x,fs[k]?=some x→R' x→R x)(hr:fS D E R pa va fs k):fS D' E' R' pa va fs k:=by
 obtain⟨x,hx,hr⟩:=hr;exact⟨x,hx,h.reads (List.getElem?_eq_some_iff.1 hx).1 (hR x hx) hr⟩
end
section
variable {pa va : Int} {fs : List aI}
theorem I0{up:Int→Int}{n:Nat}{f g:Int→Int}(h0:0<fs.length)(hl:(au (ae fs)).length=fs.length)(hf:Bc (ae fs) up)(hn:Tw (fH (ae fs) up) n f g)(hs:(eb fs:Int)≤20000):pw (eo f g) (Dm (tg (ae fs))) (uC fs) (fun _=>20000) fs where
 LG a b ha hb:=L6 (by rw[bS];exact h0) (by rw[bS];exact hl) hf hn (by rw[bS];exact ha) (by rw[bS];exact hb);fin d hd:=by
  obtain⟨x,hx,h1⟩:=Fb hd;have:=wy hx;have h2:uC fs d.2.1=(x.insts.length:Int):=by simp[uC,hx]
  rw[h2];constructor<;>intro<;>omega
theorem I1(h0:0<fs.length)(hl:(au (ae fs)).length=fs.length):pw (iU (ae fs)) (Dm (tg (ae fs))) (fun _=>20000) (fun _=>20000) fs where
 LG a b ha hb:=Rs (by rw[bS];exact h0) (by rw[bS];exact hl) (by rw[bS];exact ha) (by rw[bS];exact hb);fin d hd:=Iff.rfl
theorem L7{N:Int}{x:aI}(h:nv N x):yb x↔gu x:=by
 unfold yb gu;have:=h.2;omega
theorem Rt{nm:eV}(h:mL nm pa va fs):∀x,x∈fs→nv (fs.length:Int) x:=by
 intro x hx;refine⟨h.ends x hx,fun he=> ?_⟩;obtain⟨k,hk⟩:=List.mem_iff_getElem?.1 hx;obtain⟨y,hy,hr⟩:=h.reads k (List.getElem?_eq_some_iff.1 hk).1;rw[hk]at hy;injection hy with hy;subst hy;by_cases hv:x.v= -1
 ·omega
 ·have:=(hr.fin (.inr ⟨he,hv⟩)).1;omega
end
end Go.Mor
namespace Go.Mor
theorem zk{fs:List aI}{Q:aI→Prop}{m:Nat}{x:aI}(h:∀(i:Nat) (x:aI),i<m→fs[i]?=some x→Q x)(hx:fs[m]?=some x)(hq:Q x):∀(i:Nat) (x:aI),i<m+1→fs[i]?=some x→Q x:=by
 intro i y hi hy;by_cases e:i=m
 ·subst e;rw[hx]at hy;injection hy with hy;exact hy▸hq
 ·exact h i y oM hy
end Go.Mor
namespace Go.Mor
theorem I2{Bk Bv B:Bool}{Wk:Nat→Bool}{k:Nat}(h:Bk=true↔Bv=true∧∀i:Nat,i<k→Wk i=true)(hB:B=true↔Bk=true):(B&&Wk k)=true↔Bv=true∧∀i:Nat,i<k+1→Wk i=true:=by
 rw[Bool.and_eq_true,hB,h];constructor
 ·rintro⟨⟨h1,h2⟩,h3⟩;exact⟨h1,nc h2 h3⟩
 ·rintro⟨h1,h2⟩;exact⟨⟨h1,fun i hi=>h2 i oM⟩,h2 k oM⟩
end Go.Mor
namespace Go.Mor
open Go.RowKit
def q0(S:Int→Bool)(l:ar):Int→Bool:=fun v=>l.contains v||S v
def gp(S:Int→Bool)(d:Int):Int→Bool:=if 0≤d then kD S d else S
def yc(p:cV)(S:Int→Bool):Int→Bool:=q0 (gp S p.dst) p.args
def bH(l:List cV)(S:Int→Bool):Int→Bool:=l.foldr yc S
def Bo(l:List fI)(S:Int→Bool):Int→Bool:=l.foldl (fun S p=>kD S p.dst) S
noncomputable def bV(x:aI)(S:Int→Bool):Int→Bool:=fun v=>S v|| @decide (gu x∧x.v=v) (Classical.propDecidable _)
noncomputable def l7(x:aI)(S:Int→Bool):Int→Bool:=Bo x.aE (bH x.insts (bV x S))
theorem sh(S:Int→Bool):q0 S []=S:=by funext v;simp[q0]
theorem qc{S:Int→Bool}{l:ar}{k:Nat}{a:Int}(h:l[k]?=some a):cC (q0 S (l.take k)) a=q0 S (l.take (k+1)):=by
 funext v;obtain⟨hk,he⟩:=List.getElem?_eq_some_iff.1 h;rw[List.take_succ_eq_append_getElem hk,he];unfold cC q0;rw[Bool.eq_iff_iff];simp only[Bool.or_eq_true,beq_iff_eq,List.contains_eq_mem,List.mem_append,List.mem_singleton,decide_eq_true_eq];constructor
 ·rintro(h|h|h)
  ·exact .inl (.inr h)
  ·exact .inl (.inl h)
  ·exact .inr h
 ·rintro((h|h)|h)
  ·exact .inr (.inl h)
  ·exact .inl h
  ·exact .inr (.inr h)
theorem q5{l:List cV}{j:Nat}{p:cV}(h:l[j]?=some p)(S:Int→Bool):bH (l.drop j) S=yc p (bH (l.drop (j+1)) S):=by
 obtain⟨hj,he⟩:=List.getElem?_eq_some_iff.1 h;rw[List.drop_eq_getElem_cons hj,he];rfl
theorem qd(l:List cV)(S:Int→Bool):bH (l.drop l.length) S=S:=by rw[List.drop_length];rfl
theorem I3{l:List fI}{j:Nat}{p:fI}(h:l[j]?=some p)(S:Int→Bool):Bo (l.take (j+1)) S=kD (Bo (l.take j) S) p.dst:=by
 obtain⟨hj,he⟩:=List.getElem?_eq_some_iff.1 h;rw[List.take_succ_eq_append_getElem hj,he];unfold Bo;rw[List.foldl_append];rfl
theorem wz{x:aI}(h:gu x)(S:Int→Bool):cC S x.v=bV x S:=by
 funext v;unfold cC bV;rw[Bool.or_comm,Bool.eq_iff_iff];simp only[Bool.or_eq_true,beq_iff_eq,decide_eq_true_eq];constructor
 ·rintro(a|a)
  ·exact .inl a
  ·exact .inr ⟨h,a.symm⟩
 ·rintro(a|a)
  ·exact .inl a
  ·exact .inr a.2.symm
theorem Bp{x:aI}(h:¬gu x)(S:Int→Bool):S=bV x S:=by
 funext v;unfold bV;rw[Bool.eq_iff_iff];simp only[Bool.or_eq_true,decide_eq_true_eq];exact⟨.inl,fun a=>a.elim id (fun a=>absurd a.1 h)⟩
structure VR(n:Nat)(x:aI):Prop where
 aE:∀p,p∈x.aE→0≤p.dst∧p.dst<(n:Int)
 insts:∀p,p∈x.insts→-1≤p.dst∧p.dst<(n:Int)∧∀a,a∈p.args→0≤a∧a<(n:Int)
 fin:gu x→0≤x.v∧x.v<(n:Int)
def lx:List cV→Int→Prop
 |[],_=>False
 |p::l,v=>v∈p.args∨(p.dst≠v∧lx l v)
def qD(l:List cV)(v:Int):Prop:=∀p,p∈l→p.dst≠v
theorem I4{l:List cV}{S:Int→Bool}{v:Int}(hv:0≤v):bH l S v=true↔lx l v∨(S v=true∧qD l v):=by
 induction l with
 |nil=>simp[bH,lx,qD]
 |cons p l ih=>
  have e:bH (p::l) S=yc p (bH l S):=rfl;rw[e];unfold yc q0;simp only[Bool.or_eq_true,List.contains_eq_mem,decide_eq_true_eq];have e2:gp (bH l S) p.dst v=true↔p.dst≠v∧bH l S v=true:=by
   unfold gp;split
   ·unfold kD;simp only[Bool.and_eq_true,Bool.not_eq_true',beq_eq_false_iff_ne,ne_eq];constructor<;>rintro⟨a,b⟩<;>exact⟨fun e=>a e.symm,b⟩
   ·constructor
    ·intro h;exact⟨oM,h⟩
    ·exact fun h=>h.2
  rw[e2,ih];have e3:lx (p::l) v↔v∈p.args∨(p.dst≠v∧lx l v):=Iff.rfl;rw[e3];unfold qD;simp only[List.mem_cons,forall_eq_or_imp];constructor
  ·rintro(h|⟨h1,h2|⟨h2,h3⟩⟩)
   ·exact .inl (.inl h)
   ·exact .inl (.inr ⟨h1,h2⟩)
   ·exact .inr ⟨h2,h1,h3⟩
  ·rintro((h|⟨h1,h2⟩)|⟨h2,h1,h3⟩)
   ·exact .inl h
   ·exact .inr ⟨h1,.inl h2⟩
   ·exact .inr ⟨h1,.inr ⟨h2,h3⟩⟩
theorem Dh{l:List fI}{S:Int→Bool}{v:Int}:Bo l S v=true↔S v=true∧∀p,p∈l→p.dst≠v:=by
 induction l generalizing S with
 |nil=>simp[Bo]
 |cons p l ih=>
  have e:Bo (p::l) S=Bo l (kD S p.dst):=rfl;rw[e,ih];unfold kD;simp only[Bool.and_eq_true,Bool.not_eq_true',beq_eq_false_iff_ne,ne_eq,List.mem_cons,forall_eq_or_imp];constructor
  ·rintro⟨⟨a,b⟩,c⟩;exact⟨b,fun e=>a e.symm,c⟩
  ·rintro⟨b,a,c⟩;exact⟨⟨fun e=>a e.symm,b⟩,c⟩
def wA(x:aI)(v:Int):Prop:=(∃p,p∈x.aE∧p.dst=v)∨∃p,p∈x.insts∧p.dst=v
def yd(x:aI)(v:Int):Prop:=(∀p,p∈x.aE→p.dst≠v)∧(lx x.insts v∨(gu x∧x.v=v∧qD x.insts v))
theorem jO{x:aI}{S:Int→Bool}{v:Int}(hv:0≤v):l7 x S v=true↔yd x v∨(S v=true∧¬wA x v):=by
 have hm:¬wA x v↔(∀p,p∈x.aE→p.dst≠v)∧qD x.insts v:=by
  unfold wA qD;constructor
  ·intro h;exact⟨fun p hp e=>h (.inl ⟨p,hp,e⟩),fun p hp e=>h (.inr ⟨p,hp,e⟩)⟩
  ·rintro⟨h1,h2⟩ (⟨p,hp,e⟩|⟨p,hp,e⟩)
   ·exact h1 p hp e
   ·exact h2 p hp e
 unfold l7 yd;rw[Dh,I4 hv,hm];unfold bV;simp only[Bool.or_eq_true,decide_eq_true_eq];constructor
 ·rintro⟨h1|⟨h1|⟨h1,h4⟩,h2⟩,h3⟩
  ·exact .inl ⟨h3,.inl h1⟩
  ·exact .inr ⟨h1,h3,h2⟩
  ·exact .inl ⟨h3,.inr ⟨h1,h4,h2⟩⟩
 ·rintro(⟨h3,h1|⟨h1,h4,h2⟩⟩|⟨h1,h3,h2⟩)
  ·exact⟨.inl h1,h3⟩
  ·exact⟨.inr ⟨.inr ⟨h1,h4⟩,h2⟩,h3⟩
  ·exact⟨.inr ⟨.inl h1,h2⟩,h3⟩
def q6(fs:List aI)(b v:Int):Prop:=∃(t:Nat) (x:aI) (j:Nat) (p:fI) (i:Nat),fs[t]?=some x∧x.aE[j]?=some p∧(bW (ae fs) (t:Int))[i]?=some b∧p.args[i]?=some v
inductive LV(fs:List aI):Bool→Int→Int→Prop
 |use {b:Nat} {x:aI} {v:Int}:fs[b]?=some x→yd x v→LV fs true (b:Int) v
 |Fc {b:Nat} {x:aI} {v:Int}:fs[b]?=some x→LV fs false (b:Int) v→¬wA x v→LV fs true (b:Int) v
 |uW {b v:Int}:q6 fs b v→LV fs false b v
 |I5 {b t v:Int}:t∈tg (ae fs) b→LV fs true t v→LV fs false b v
section
variable {fs : List aI} {SI SO : Int → Int → Bool}
theorem wB{n:Nat}(hr:∀x,x∈fs→VR n x)(hp:∀b v,q6 fs b v→0≤v∧v<(n:Int)){q:Bool}{b v:Int}(h:LV fs q b v):0≤v∧v<(n:Int):=by
 have Qaf:∀(l:List cV),(∀p,p∈l→∀a,a∈p.args→0≤a∧a<(n:Int))→∀v,lx l v→0≤v∧v<(n:Int):=by
  intro l;induction l with
  |nil=>intro _ v h;exact h.elim
  |cons p l ih=>
   rintro h v (h1|⟨_,h1⟩)
   ·exact h p sI v h1
   ·exact ih (fun q hq=>h q (List.mem_cons_of_mem _ hq)) v h1
 induction h with
 |use hx hu=>
  have hv:=hr _ (List.mem_of_getElem? hx);rcases hu.2 with h1|⟨h1,h2,_⟩
  ·exact Qaf _ (fun p hp=>(hv.insts p hp).2.2) _ h1
  ·rw[←h2];exact hv.fin h1
 |Fc _ _ _ ih=>exact ih
 |uW h=>exact hp _ _ h
 |I5 _ _ ih=>exact ih
end
end Go.Mor
namespace Go.Mor
open Go.RowKit
structure ku(n nb:Nat)(rows:List dg)(SS:Int→Int→Bool):Prop where
 len:rows.length=nb
 at_:∀k:Nat,k<nb→∃A c ws,rows[k]?=some ⟨A,(n+63) / 64,c,aW ws⟩∧fi n ws (SS (k:Int))
structure l8(n nb k:Nat)(rows:List dg):Prop where
 len:rows.length=nb
 at_:∀q:Nat,q<k→∃A c ws,rows[q]?=some ⟨A,(n+63) / 64,c,aW ws⟩∧fi n ws (fun _=>false)
 nil:∀q:Nat,k≤q→q<nb→rows[q]?=some fg
def bM(SS:Int→Int→Bool)(k:Int)(S:Int→Bool):Int→Int→Bool:=fun b=>if b=k then S else SS b
theorem fc{SS:Int→Int→Bool}{k:Int}{S:Int→Bool}:bM SS k S k=S:=by simp[bM]
theorem gC{SS:Int→Int→Bool}{k b:Int}{S:Int→Bool}(h:b≠k):bM SS k S b=SS b:=by simp[bM,h]
section
variable {n nb k : Nat} {rows : List dg} {SS : Int → Int → Bool}
theorem ku.set(h:ku n nb rows SS){A:aA}{c:Nat}{ws:List Nat}{S:Int→Bool}(hS:fi n ws S):ku n nb (rows.set k ⟨A,(n+63) / 64,c,aW ws⟩) (bM SS (k:Int) S):=by
 refine⟨by rw[List.length_set,h.len],fun q hq=> ?_⟩;by_cases e:k=q
 ·subst e;exact⟨A,c,ws,List.getElem?_set_self (by rw[h.len];exact hq),by rw[fc];exact hS⟩
 ·obtain⟨A',c',GZ,h1,h2⟩:=h.at_ q hq;exact⟨A',c',GZ,by rw[List.getElem?_set_ne e];exact h1,by rw[gC oM];exact h2⟩
theorem l8.start:l8 n nb 0 (List.replicate nb fg):=⟨sI,fun q hq=>absurd hq (Nat.not_lt_zero _),fun q _ hq=>by simp[hq]⟩
theorem l8.next(h:l8 n nb k rows){A:aA}{c:Nat}(hk:k<nb):l8 n nb (k+1) (rows.set k ⟨A,(n+63) / 64,c,aW (List.replicate ((n+63) / 64) 0)⟩):=by
 refine⟨by rw[List.length_set,h.len],fun q hq=> ?_,fun q hq hn=> ?_⟩
 ·by_cases e:k=q
  ·subst e;exact⟨A,c,_,List.getElem?_set_self (by rw[h.len];exact hk),fi.start n⟩
  ·obtain⟨A',c',GZ,h1,h2⟩:=h.at_ q oM;exact⟨A',c',GZ,by rw[List.getElem?_set_ne e];exact h1,h2⟩
 ·rw[List.getElem?_set_ne oM];exact h.nil q oM hn
theorem l8.all(h:l8 n nb k rows)(hk:nb≤k):ku n nb rows (fun _ _=>false):=⟨h.len,fun q hq=>h.at_ q oM⟩
end
structure eG(fs:List aI)(m j i:Nat)(SO:Int→Int→Bool):Prop where
 sound:∀b v,SO b v=true→q6 fs b v
 Ru:∀(t:Nat) (x:aI) (q:Nat) (p:fI) (r:Nat) (b v:Int),t<m→fs[t]?=some x→x.aE[q]?=some p→(bW (ae fs) (t:Int))[r]?=some b→p.args[r]?=some v→SO b v=true
 aE:∀(x:aI) (q:Nat) (p:fI) (r:Nat) (b v:Int),q<j→fs[m]?=some x→x.aE[q]?=some p→(bW (ae fs) (m:Int))[r]?=some b→p.args[r]?=some v→SO b v=true
 args:∀(x:aI) (p:fI) (r:Nat) (b v:Int),r<i→fs[m]?=some x→x.aE[j]?=some p→(bW (ae fs) (m:Int))[r]?=some b→p.args[r]?=some v→SO b v=true
section
variable {fs : List aI} {m j i : Nat} {SO : Int → Int → Bool}
theorem eG.start:eG fs 0 0 0 (fun _ _=>false):=⟨fun _ _ h=>Bool.noConfusion h,fun _ _ _ _ _ _ _ h=>absurd h (Nat.not_lt_zero _),fun _ _ _ _ _ _ h=>absurd h (Nat.not_lt_zero _),fun _ _ _ _ _ h=>absurd h (Nat.not_lt_zero _)⟩
theorem eG.arg(h:eG fs m j i SO){x:aI}{p:fI}{b v:Int}(hx:fs[m]?=some x)(hp:x.aE[j]?=some p)(hb:(bW (ae fs) (m:Int))[i]?=some b)(hv:p.args[i]?=some v):eG fs m j (i+1) (bM SO b (cC (SO b) v)):=by
 have keep:∀b' v',SO b' v'=true→bM SO b (cC (SO b) v) b' v'=true:=by
  intro b' v' h';by_cases e:b'=b
  ·subst e;rw[fc];unfold cC;rw[h',dw]
  ·rw[gC e];exact h'
 refine⟨fun b' v' h'=> ?_,fun t y q p' r b' v' h1 h2 h3 h4 h5=>keep _ _ (h.Ru t y q p' r b' v' h1 h2 h3 h4 h5),fun y q p' r b' v' h1 h2 h3 h4 h5=>keep _ _ (h.aE y q p' r b' v' h1 h2 h3 h4 h5),fun y p' r b' v' h1 h2 h3 h4 h5=> ?_⟩
 ·by_cases e:b'=b
  ·subst e;rw[fc]at h';unfold cC at h';simp only[Bool.or_eq_true,beq_iff_eq]at h';rcases h' with h'|h'
   ·subst h';exact⟨m,x,j,p,i,hx,hp,hb,hv⟩
   ·exact h.sound _ _ h'
  ·rw[gC e]at h';exact h.sound _ _ h'
 ·by_cases e:r=i
  ·subst e;rw[hx]at h2;injection h2 with h2;subst h2;rw[hp]at h3;injection h3 with h3;subst h3;rw[hb]at h4;injection h4 with h4;subst h4;rw[hv]at h5;injection h5 with h5;subst h5;rw[fc];simp[cC]
  ·exact keep _ _ (h.args y p' r b' v' oM h2 h3 h4 h5)
theorem eG.uW(h:eG fs m j i SO){x:aI}(_hx:fs[m]?=some x)(hi:(bW (ae fs) (m:Int)).length≤i):eG fs m (j+1) 0 SO:=by
 refine⟨h.sound,h.Ru,fun y q p r b v h1 h2 h3 h4 h5=> ?_,fun _ _ _ _ _ h=>absurd h (Nat.not_lt_zero _)⟩;by_cases e:q=j
 ·subst e;exact h.args y p r b v (by have:=(List.getElem?_eq_some_iff.1 h4).1;omega) h2 h3 h4 h5
 ·exact h.aE y q p r b v oM h2 h3 h4 h5
theorem eG.ak(h:eG fs m j i SO){x:aI}(hx:fs[m]?=some x)(hj:x.aE.length≤j):eG fs (m+1) 0 0 SO:=by
 refine⟨h.sound,fun t y q p r b v h1 h2 h3 h4 h5=> ?_,fun _ _ _ _ _ _ h=>absurd h (Nat.not_lt_zero _),fun _ _ _ _ _ h=>absurd h (Nat.not_lt_zero _)⟩;by_cases e:t=m
 ·subst e;rw[hx]at h2;injection h2 with h2;subst h2;exact h.aE x q p r b v (by have:=(List.getElem?_eq_some_iff.1 h3).1;omega) hx h3 h4 h5
 ·exact h.Ru t y q p r b v oM h2 h3 h4 h5
theorem eG.all(h:eG fs m j i SO)(hm:fs.length≤m):∀b v,q6 fs b v→SO b v=true:=by
 rintro b v ⟨t,x,q,p,r,h1,h2,h3,h4⟩;exact h.Ru t x q p r b v (by have:=(List.getElem?_eq_some_iff.1 h1).1;omega) h1 h2 h3 h4
end
structure Di(n:Nat)(fs:List aI)(SI SO:Int→Int→Bool):Prop where
 P0:∀b v,SI b v=true→LV fs true b v
 out:∀b v,SO b v=true→LV fs false b v
 uW:∀b v,q6 fs b v→SO b v=true
 less:∀(b:Nat) (x:aI),fs[b]?=some x→∀v,0≤v→SI (b:Int) v=true→l7 x (SO (b:Int)) v=true
def kM(n:Nat)(fs:List aI)(SI SO:Int→Int→Bool)(b:Int):Prop:=(∀t v,t∈tg (ae fs) b→0≤v→v<(n:Int)→SI t v=true→SO b v=true)∧∀x,fs[b.toNat]?=some x→∀v,0≤v→v<(n:Int)→(l7 x (SO b) v=true→SI b v=true)
def mM(n:Nat)(fs:List aI)(SI SO:Int→Int→Bool):Prop:=∀b:Nat,b<fs.length→∀v:Int,0≤v→v<(n:Int)→(SI (b:Int) v=true↔LV fs true (b:Int) v)∧(SO (b:Int) v=true↔LV fs false (b:Int) v)
def cR(n nb:Nat)(SS:Int→Int→Bool):Nat:=((List.range nb).map (fun k:Nat=>fW n (SS (k:Int)))).sum
section
variable {n : Nat} {fs : List aI} {SI SO : Int → Int → Bool}
theorem wC{x:aI}{S T:Int→Bool}{v:Int}(hv:0≤v)(h:S v=true→T v=true)(hi:l7 x S v=true):l7 x T v=true:=by
 rw[jO hv]at hi⊢;rcases hi with h1|⟨h1,h2⟩
 ·exact .inl h1
 ·exact .inr ⟨h h1,h2⟩
theorem Di.start{m j i:Nat}(h:eG fs m j i SO)(hm:fs.length≤m):Di n fs (fun _ _=>false) SO:=⟨fun _ _ h=>Bool.noConfusion h,fun b v h'=> .uW (h.sound b v h'),h.all hm,fun _ _ _ _ _ h=>Bool.noConfusion h⟩
theorem Di.or(h:Di n fs SI SO){b t:Int}(ht:t∈tg (ae fs) b):Di n fs SI (bM SO b (Tu (SO b) (SI t))):=by
 have keep:∀b' v',SO b' v'=true→bM SO b (Tu (SO b) (SI t)) b' v'=true:=by
  intro b' v' h';by_cases e:b'=b
  ·subst e;rw[fc];unfold Tu;rw[h',Bool.true_or]
  ·rw[gC e];exact h'
 refine⟨h.P0,fun b' v' h'=> ?_,fun b' v' h'=>keep _ _ (h.uW b' v' h'),fun b' x hx v hv hs=>wC hv (keep _ v) (h.less b' x hx v hv hs)⟩;by_cases e:b'=b
 ·subst e;rw[fc]at h';unfold Tu at h';rw[Bool.or_eq_true]at h';rcases h' with h'|h'
  ·exact h.out _ _ h'
  ·exact .I5 ht (h.P0 _ _ h')
 ·rw[gC e]at h';exact h.out _ _ h'
theorem Di.Qdj(h:Di n fs SI SO){b:Nat}{x:aI}(hx:fs[b]?=some x){S:Int→Bool}(hS:∀v,S v=true→0≤v∧l7 x (SO (b:Int)) v=true):Di n fs (bM SI (b:Int) S) SO:=by
 refine⟨fun b' v' h'=> ?_,h.out,h.uW,fun b' y hy v hv hs=> ?_⟩
 ·by_cases e:b'=(b:Int)
  ·subst e;rw[fc]at h';obtain⟨h0,h1⟩:=hS v' h';rw[jO h0]at h1;rcases h1 with h1|⟨h1,h2⟩
   ·exact .use hx h1
   ·exact .Fc hx (h.out _ _ h1) h2
  ·rw[gC e]at h';exact h.P0 _ _ h'
 ·by_cases e:(b':Int)=(b:Int)
  ·have:b'=b:=oM;subst this;rw[hx]at hy;injection hy with hy;subst hy;rw[fc]at hs;exact(hS v hs).2
  ·rw[gC e]at hs;exact h.less b' y hy v hv hs
theorem zl(hr:∀x,x∈fs→VR n x)(hp:∀b v,q6 fs b v→0≤v∧v<(n:Int))(h:Di n fs SI SO)(hc:∀b:Nat,b<fs.length→kM n fs SI SO (b:Int)):mM n fs SI SO:=by
 have key:∀{q:Bool} {b v:Int},LV fs q b v→0≤b→b<(fs.length:Int)→(if q then SI b v else SO b v)=true:=by
  intro q b v hl;induction hl with
  | @use b x v hx hu=>
   intro _ _;have hb:=(List.getElem?_eq_some_iff.1 hx).1;have hv:=wB hr hp (LV.use hx hu);exact(hc b hb).2 x (by simpa using hx) v hv.1 hv.2 ((jO hv.1).2 (.inl hu))
  | @Fc b x v hx hl hm ih=>
   intro h0 h1;have hb:=(List.getElem?_eq_some_iff.1 hx).1;have hv:=wB hr hp hl;exact(hc b hb).2 x (by simpa using hx) v hv.1 hv.2 ((jO hv.1).2 (.inr ⟨by simpa using ih h0 h1,hm⟩))
  |uW h'=>intro _ _;exact h.uW _ _ h'
  | @I5 b t v ht hl ih=>
   intro h0 h1;have hv:=wB hr hp hl;have Lm:=nY ht;rw[bS]at Lm;have EY:=hc b.toNat oM;rw[Int.toNat_of_nonneg h0]at EY;exact EY.1 t v ht hv.1 hv.2 (by simpa using ih Lm.1 Lm.2)
 intro b hb v Cj z2;exact⟨⟨h.P0 _ _,fun hl=>by simpa using key hl oM oM⟩,⟨h.out _ _,fun hl=>by simpa using key hl oM oM⟩⟩
theorem wD{nb b:Nat}(hb:b<nb){S:Int→Bool}:cR n nb (bM SI (b:Int) S)+fW n (SI (b:Int))=cR n nb SI+fW n S:=by
 unfold cR;induction nb with
 |zero=>omega
 |succ nb ih=>
  rw[List.range_succ,List.map_append,List.map_append,List.sum_append,List.sum_append];simp only[List.map_cons,List.map_nil,List.sum_cons,List.sum_nil,Nat.add_zero];by_cases e:b=nb
  ·subst e;rw[fc];have:(List.range b).map (fun k:Nat=>fW n (bM SI (b:Int) S (k:Int)))=(List.range b).map (fun k:Nat=>fW n (SI (k:Int))):=by apply List.map_congr_left;intro k hk;rw[List.mem_range]at hk;rw[gC oM]
   rw[this];omega
  ·have:=ih oM;rw[gC (show(nb:Int)≠(b:Int)by omega)];omega
theorem wE{S T:Int→Bool}(h:∀i:Nat,i<n→S (i:Int)=true→T (i:Int)=true)(hn:¬∀i:Nat,i<n→T (i:Int)=S (i:Int)):fW n T<fW n S:=by
 unfold fW;have hx:∃i:Nat,i<n∧T (i:Int)=true∧S (i:Int)=false:=by
  by_cases hq:∃i:Nat,i<n∧T (i:Int)=true∧S (i:Int)=false
  ·exact hq
  ·exfalso;apply hn;intro i hi;cases hs:S (i:Int)with
   |true=>exact h i hi hs
   |false=>
    cases ht:T (i:Int)with
    |false=>rfl
    |true=>exact absurd ⟨i,hi,ht,hs⟩ hq
 obtain⟨i,hi,ht,hs⟩:=hx;have e:(List.range n).filter (fun i:Nat=> !T (i:Int))=((List.range n).filter (fun i:Nat=> !S (i:Int))).filter (fun i:Nat=> !T (i:Int)):=by
  rw[List.filter_filter];apply List.filter_congr;intro q hq;rw[List.mem_range]at hq;cases h1:S (q:Int)with
  |true=>simp[h q hq h1]
  |false=>simp
 rw[e];exact List.length_filter_lt_length_iff_exists.2 ⟨i,by simp[hi,hs],by simp[ht]⟩
end
end Go.Mor
namespace Go.Mor
noncomputable def wF(x:aI)(S:Int→Bool):Int→Bool:=fun v=>decide (0≤v)&&l7 x S v
theorem Rv{x:aI}{S:Int→Bool}{v:Int}:wF x S v=true→0≤v∧l7 x S v=true:=by
 unfold wF;rw[Bool.and_eq_true,decide_eq_true_eq];exact id
theorem Dj{n:Nat}{ws:List Nat}{x:aI}{S:Int→Bool}(h:fi n ws (l7 x S)):fi n ws (wF x S):=h.congr (fun i _=>by
 unfold wF;rw[decide_eq_true (show(0:Int)≤(i:Int)by omega),Bool.true_and])
theorem Fe{n:Nat}{fs:List aI}{SI SO:Int→Int→Bool}{b:Nat}{x:aI}{S:Int→Bool}(hx:fs[b]?=some x)(ht:∀t v,t∈tg (ae fs) (b:Int)→SI t v=true→S v=true)(he:∀i:Nat,i<n→l7 x S (i:Int)=SI (b:Int) (i:Int)):kM n fs SI (bM SO (b:Int) S) (b:Int):=by
 constructor
 ·intro t v h1 _ _ h2;rw[fc];exact ht t v h1 h2
 ·intro y hy v h0 h1 h2;rw[fc]at h2;rw[Int.toNat_natCast,hx]at hy;injection hy with hy;subst hy;have:=he v.toNat oM;rw[Int.toNat_of_nonneg h0]at this;rw[←this];exact h2
theorem Ff{n:Nat}{fs:List aI}{SI SO:Int→Int→Bool}{b k:Int}{S:Int→Bool}(h:kM n fs SI SO b)(dG:b≠k):kM n fs SI (bM SO k S) b:=by
 unfold kM at h⊢;rw[gC dG];exact h
theorem I6{bs:List SB}(hl:(au bs).length=bs.length){b:Nat}(hb:b<bs.length):∃q:Nat,q<(au bs).length∧(au bs)[q]?=some (b:Int):=by
 have h0:0<bs.length:=oM;have hm:=(wq h0).2 (qb hl (b:=(b:Int)) oM oM);obtain⟨q,hq⟩:=List.mem_iff_getElem?.1 hm;exact⟨q,(List.getElem?_eq_some_iff.1 hq).1,hq⟩
theorem L8{bs:List SB}(h0:0<bs.length){q r:Nat}{a b:Int}(hq:(au bs)[q]?=some a)(hr:(au bs)[r]?=some b)(dG:q≠r):a≠b:=by
 rintro rfl;have hn:=(lX h0).nodup;have h1:=ll hn hq;have h2:=ll hn hr;omega
end Go.Mor
namespace Go.Mor
theorem pz{rows:List dg}{t:Nat}{A:aA}{n c:Nat}{xs:bp}(h:rows[t]?=some ⟨A,n,c,xs⟩)(ys:bp):bt rows=bt (rows.set t ⟨A,n,c,ys⟩):=by
 rw[nX];apply List.ext_getElem?;intro q;by_cases e:t=q
 ·subst e;have:=(List.getElem?_eq_some_iff.1 h).1;rw[List.getElem?_set_self (by rw[lG];exact this),da h]
 ·rw[List.getElem?_set_ne e]
end Go.Mor
namespace Go.Mor
open Go.RowKit
theorem I7{SS:Int→Int→Bool}{k:Int}:bM SS k (SS k)=SS:=by
 funext b;unfold bM;split
 ·rename_i h;rw[h]
 ·rfl
theorem Fg{SS:Int→Int→Bool}{k:Int}{S T:Int→Bool}:bM (bM SS k S) k T=bM SS k T:=by
 funext b;unfold bM;split<;>rfl
theorem Rw{tl:ar}{q:Nat}{t:Int}{SI:Int→Int→Bool}{Sk:Int→Bool}(h:∀(r:Nat) (t v:Int),r<q→tl[r]?=some t→SI t v=true→Sk v=true)(ht:tl[q]?=some t):∀(r:Nat) (t' v:Int),r<q+1→tl[r]?=some t'→SI t' v=true→Tu Sk (SI t) v=true:=by
 intro r t' v hr h1 h2;unfold Tu;by_cases e:r=q
 ·subst e;rw[ht]at h1;injection h1 with h1;subst h1;rw[h2,dw]
 ·rw[h r t' v oM h1 h2,Bool.true_or]
theorem L9{fs:List aI}{k:Nat}{x:aI}{p:fI}(hx:fs[k]?=some x)(hp:p∈x.aE):(p.dst,(k:Int),-1)∈cX fs:=by
 unfold cX en;rw[List.take_length,List.mem_flatMap];exact⟨(x,k),List.mem_zipIdx_iff_getElem?.2 hx,List.mem_append_left _ (List.mem_map.2 ⟨p,hp,rfl⟩)⟩
theorem Ma{fs:List aI}{k j:Nat}{x:aI}{p:cV}(hx:fs[k]?=some x)(hp:x.insts[j]?=some p)(hm:bf p.op):(p.dst,(k:Int),(j:Int))∈cX fs:=by
 unfold cX en;rw[List.take_length,List.mem_flatMap];exact⟨(x,k),List.mem_zipIdx_iff_getElem?.2 hx,List.mem_append_right _ (List.mem_map.2 ⟨(p,j),List.mem_filter.2 ⟨List.mem_zipIdx_iff_getElem?.2 hp,by simpa using hm⟩,rfl⟩)⟩
section
variable {nm : ByteArray} {pa va : Int} {fs : List aI} {n : Nat}
theorem oi(h:mL nm pa va fs)(g9:va=(n:Int)):∀x,x∈fs→VR n x:=by
 intro x hx;obtain⟨k,hk⟩:=List.mem_iff_getElem?.1 hx;have P1:=(List.getElem?_eq_some_iff.1 hk).1;obtain⟨y,hy,hr⟩:=h.reads k P1;rw[hk]at hy;injection hy with hy;subst hy;have hp0:=h.par;refine⟨fun p hp=> ?_,fun p hp=> ?_,fun hf=> ?_⟩
 ·have:=h.Df.2.1 _ (L9 hk hp);simp only at this;omega
 ·obtain⟨j,hj⟩:=List.mem_iff_getElem?.1 hp;have ha:∀a,a∈p.args→0≤a∧a<(n:Int):=by intro a ha;obtain⟨i,hi⟩:=List.mem_iff_getElem?.1 ha;have:=hr.insts j p hj i a hi;exact⟨this.1,by rw[←g9];exact this.2.1⟩
  by_cases hm:bf p.op
  ·have:=h.Df.2.1 _ (Ma hk hj hm);simp only at this;exact⟨oM,oM,ha⟩
  ·rcases(h.Df.1 x hx p hp).1 with h1|h1
   ·exact absurd h1 hm
   ·exact⟨oM,oM,ha⟩
 ·have:=hr.fin (by unfold gu at hf;unfold yb;omega);exact⟨this.1,by rw[←g9];exact this.2.1⟩
theorem Dk(h:mL nm pa va fs)(g9:va=(n:Int)):∀b v,q6 fs b v→0≤v∧v<(n:Int):=by
 rintro b v ⟨t,x,j,p,i,hx,hp,hs,ha⟩;obtain⟨y,hy,hr⟩:=h.reads t (List.getElem?_eq_some_iff.1 hx).1;rw[hx]at hy;injection hy with hy;subst hy;have:=(hr.aE j p hp).2 i v b ha hs;exact⟨this.1,by rw[←g9];exact this.2.1⟩
theorem I8{SI SO:Int→Int→Bool}(h:mL nm pa va fs)(g9:va=(n:Int))(hl:Di n fs SI SO)(hc:∀(q:Nat) (b:Int),q<(au (ae fs)).length→(au (ae fs))[q]?=some b→kM n fs SI SO b):mM n fs SI SO:=by
 refine zl (oi h g9) (Dk h g9) hl (fun b hb=> ?_);obtain⟨q,hq,hqb⟩:=I6 (bs:=ae fs) (by rw[bS];exact h.all) (b:=b) (by rw[bS];exact hb);exact hc q b hq hqb
end
theorem I9{n j0 b:Nat}{fs:List aI}{x:aI}{tb:Bool}{SI SO:Int→Int→Bool}{Sk:Int→Bool}(h0:0<fs.length)(hx:fs[b]?=some x)(z5:(au (ae fs))[j0]?=some (b:Int))(hc:tb=false→∀(q:Nat) (b:Int),j0+1≤q→q<(au (ae fs)).length→(au (ae fs))[q]?=some b→kM n fs SI SO b)(ht:∀(r:Nat) (t v:Int),r<(tg (ae fs) (b:Int)).length→(tg (ae fs) (b:Int))[r]?=some t→SI t v=true→Sk v=true)(he:∀i:Nat,i<n→l7 x Sk (i:Int)=SI (b:Int) (i:Int)):tb=false→∀(q:Nat) (b':Int),j0≤q→q<(au (ae fs)).length→(au (ae fs))[q]?=some b'→kM n fs SI (bM SO (b:Int) Sk) b':=by
 intro ry q b' h1 h2 h3;by_cases e:q=j0
 ·subst e;rw[z5]at h3;injection h3 with h3;subst h3;refine Fe hx (fun t v h4 h5=> ?_) he;obtain⟨r,hr⟩:=List.mem_iff_getElem?.1 h4;exact ht r t v (List.getElem?_eq_some_iff.1 hr).1 hr h5
 ·exact Ff (hc ry q b' oM h2 h3) (L8 (by rw[bS];exact h0) h3 z5 e)
theorem Ja{n b:Nat}{fs:List aI}{x:aI}{SI SO:Int→Int→Bool}{Sk:Int→Bool}(hx:fs[b]?=some x)(hl:Di n fs SI (bM SO (b:Int) Sk))(dG:¬∀i:Nat,i<n→wF x Sk (i:Int)=SI (b:Int) (i:Int)):cR n fs.length (bM SI (b:Int) (wF x Sk))<cR n fs.length SI:=by
 have h1:=wD (n:=n) (SI:=SI) (List.getElem?_eq_some_iff.1 hx).1 (S:=wF x Sk);have h2:=wE (n:=n) (S:=SI (b:Int)) (T:=wF x Sk) (fun i _ hs=>by have:=hl.less b x hx (i:Int) oM hs;rw[fc]at this;unfold wF;rw[this,decide_eq_true (show(0:Int)≤(i:Int)by omega)];rfl) dG
 omega
end Go.Mor
namespace Go.Mor
open Go.RowKit
section
variable {n nb k : Nat} {SS TT : Int → Int → Bool}
theorem jP{S T:Int→Bool}(h:∀i:Nat,i<n→S (i:Int)=T (i:Int)):ag n S=ag n T:=by
 unfold ag;refine congrArg _ (List.filter_congr (fun i hi=> ?_));rw[List.mem_range]at hi;rw[h i hi]
end
theorem q7{nm:eV}{pa va:Int}{fs:List aI}(h:dE nm pa va fs=0):mL nm pa va fs∧va≤20000∧(eb fs:Int)≤20000:=by
 unfold dE at h;split at h
 ·omega
 ·split at h
  ·rename_i h1 h2;exact⟨h2,oM,oM⟩
  ·omega
end Go.Mor
namespace Go.Mor
open Go.RowKit
def Rx(x:aI)(k:Nat)(M:Int→Bool):Prop:=∀i:Nat,M (i:Int)=true↔∃p,p∈x.aE.take k∧p.dst=(i:Int)
def Hb(x:aI)(k:Nat)(M:Int→Bool):Prop:=∀i:Nat,M (i:Int)=true↔(∃p,p∈x.aE∧p.dst=(i:Int))∨∃p,p∈x.insts.take k∧p.dst=(i:Int)
def Mb(x:aI)(k:Nat)(U:Int→Bool):Prop:=∀i:Nat,U (i:Int)=true↔(∀p,p∈x.aE→p.dst≠(i:Int))∧lx (x.insts.take k) (i:Int)
def P2(x:aI)(k:Nat)(mX:ar)(q:Nat)(U:Int→Bool):Prop:=∀i:Nat,U (i:Int)=true↔(∀p,p∈x.aE→p.dst≠(i:Int))∧(lx (x.insts.take k) (i:Int)∨(qD (x.insts.take k) (i:Int)∧(i:Int)∈mX.take q))
theorem Fh{l:List cV}{p:cV}{v:Int}:lx (l++[p]) v↔lx l v∨(qD l v∧v∈p.args):=by
 induction l with
 |nil=>
  show(v∈p.args∨(p.dst≠v∧False))↔_;simp[lx,qD]
 |cons a l ih=>
  show(v∈a.args∨(a.dst≠v∧lx (l++[p]) v))↔(v∈a.args∨(a.dst≠v∧lx l v))∨_;rw[ih];unfold qD;simp only[List.mem_cons,forall_eq_or_imp];constructor
  ·rintro(h|⟨h1,h2|⟨h2,h3⟩⟩)
   ·exact .inl (.inl h)
   ·exact .inl (.inr ⟨h1,h2⟩)
   ·exact .inr ⟨⟨h1,h2⟩,h3⟩
  ·rintro((h|⟨h1,h2⟩)|⟨⟨h1,h2⟩,h3⟩)
   ·exact .inl h
   ·exact .inr ⟨h1,.inl h2⟩
   ·exact .inr ⟨h1,.inr ⟨h2,h3⟩⟩
theorem cS{α:Type}{l:List α}{k:Nat}{a:α}(h:l[k]?=some a):l.take (k+1)=l.take k++[a]:=by
 obtain⟨hk,he⟩:=List.getElem?_eq_some_iff.1 h;rw[List.take_succ_eq_append_getElem hk,he]
theorem fY{S:Int→Bool}{a v:Int}:cC S a v=true↔v=a∨S v=true:=by simp[cC]
section
variable {x : aI} {k q : Nat} {M U : Int → Bool}
theorem Rx.start:Rx x 0 (fun _=>false):=fun i=>sI
theorem Rx.next(h:Rx x k M){p:fI}(hp:x.aE[k]?=some p){d:Int}(hd:p.dst=d):Rx x (k+1) (cC M d):=by
 subst hd;intro i;rw[fY,h i,cS hp];simp only[List.mem_append,List.mem_singleton];constructor
 ·rintro(e|⟨r,hr,e⟩)
  ·exact⟨p,.inr rfl,e.symm⟩
  ·exact⟨r,.inl hr,e⟩
 ·rintro⟨r,hr|rfl,e⟩
  ·exact .inr ⟨r,hr,e⟩
  ·exact .inl e.symm
theorem Rx.all(h:Rx x k M)(hk:x.aE.length≤k):Hb x 0 M:=by
 intro i;rw[h i,List.take_of_length_le hk];simp
theorem Hb.next(h:Hb x k M){p:cV}(hp:x.insts[k]?=some p){d:Int}(hd:p.dst=d):Hb x (k+1) (cC M d):=by
 subst hd;intro i;rw[fY,h i,cS hp];simp only[List.mem_append,List.mem_singleton];constructor
 ·rintro(e|e|⟨r,hr,e⟩)
  ·exact .inr ⟨p,.inr rfl,e.symm⟩
  ·exact .inl e
  ·exact .inr ⟨r,.inl hr,e⟩
 ·rintro(e|⟨r,hr|rfl,e⟩)
  ·exact .inr (.inl e)
  ·exact .inr (.inr ⟨r,hr,e⟩)
  ·exact .inl e.symm
theorem Hb.skip(h:Hb x k M){p:cV}(hp:x.insts[k]?=some p)(hd:¬0≤p.dst):Hb x (k+1) M:=by
 intro i;rw[h i,cS hp];simp only[List.mem_append,List.mem_singleton];constructor
 ·rintro(e|⟨r,hr,e⟩)
  ·exact .inl e
  ·exact .inr ⟨r,.inl hr,e⟩
 ·rintro(e|⟨r,hr|rfl,e⟩)
  ·exact .inl e
  ·exact .inr ⟨r,hr,e⟩
  ·omega
theorem Mb.start:Mb x 0 (fun _=>false):=fun i=>by simp[lx]
theorem Mb.args(h:Mb x k U)(mX:ar):P2 x k mX 0 U:=fun i=>by rw[h i];simp
theorem P2.made{mX:ar}(h:P2 x k mX q U)(hm:Hb x k M){a:Nat}(ha:mX[q]?=some (a:Int))(hM:M (a:Int)=true):P2 x k mX (q+1) U:=by
 intro i;rw[h i,cS ha];simp only[List.mem_append,List.mem_singleton];constructor
 ·rintro⟨h1,h2|⟨h2,h3⟩⟩
  ·exact⟨h1,.inl h2⟩
  ·exact⟨h1,.inr ⟨h2,.inl h3⟩⟩
 ·rintro⟨h1,h2|⟨h2,h3|h3⟩⟩
  ·exact⟨h1,.inl h2⟩
  ·exact⟨h1,.inr ⟨h2,h3⟩⟩
  ·exfalso;rw[←h3]at hM;rcases(hm i).1 hM with⟨p,hp,e⟩|⟨p,hp,e⟩
   ·exact h1 p hp e
   ·exact h2 p hp e
theorem P2.read{mX:ar}(h:P2 x k mX q U)(hm:Hb x k M){a:Nat}(ha:mX[q]?=some (a:Int))(hM:M (a:Int)=false):P2 x k mX (q+1) (cC U (a:Int)):=by
 intro i;rw[fY,h i,cS ha];simp only[List.mem_append,List.mem_singleton];constructor
 ·rintro(e|⟨h1,h2|⟨h2,h3⟩⟩)
  ·have xM:¬M (i:Int)=true:=by rw[e,hM];simp
   rw[hm i]at xM;exact⟨fun p hp e=>xM (.inl ⟨p,hp,e⟩),.inr ⟨fun p hp e=>xM (.inr ⟨p,hp,e⟩),.inr e⟩⟩
  ·exact⟨h1,.inl h2⟩
  ·exact⟨h1,.inr ⟨h2,.inl h3⟩⟩
 ·rintro⟨h1,h2|⟨h2,h3|h3⟩⟩
  ·exact .inr ⟨h1,.inl h2⟩
  ·exact .inr ⟨h1,.inr ⟨h2,h3⟩⟩
  ·exact .inl h3
theorem P2.all{p:cV}(h:P2 x k p.args q U)(hp:x.insts[k]?=some p)(hq:p.args.length≤q):Mb x (k+1) U:=by
 intro i;rw[h i,cS hp,Fh,List.take_of_length_le hq]
end
noncomputable def pB(fs:List aI)(b v:Int):Bool:=@decide (0≤b∧∃x,fs[b.toNat]?=some x∧wA x v) (Classical.propDecidable _)
noncomputable def wG(fs:List aI)(b v:Int):Bool:=@decide (0≤b∧∃x,fs[b.toNat]?=some x∧yd x v) (Classical.propDecidable _)
section
variable {fs : List aI} {b k : Nat} {x : aI} {M U : Int → Bool} {n : Nat} {l : List Bool}
theorem tz(hx:fs[b]?=some x){v:Int}:pB fs (b:Int) v=true↔wA x v:=by
 unfold pB;simp only[decide_eq_true_eq,Int.toNat_natCast,hx];constructor
 ·rintro⟨_,y,hy,h⟩;injection hy with hy;exact hy▸h
 ·exact fun h=>⟨oM,x,rfl,h⟩
theorem sk(hx:fs[b]?=some x){v:Int}:wG fs (b:Int) v=true↔yd x v:=by
 unfold wG;simp only[decide_eq_true_eq,Int.toNat_natCast,hx];constructor
 ·rintro⟨_,y,hy,h⟩;injection hy with hy;exact hy▸h
 ·exact fun h=>⟨oM,x,rfl,h⟩
theorem Hb.made(h:Hb x k M)(hx:fs[b]?=some x)(hk:x.insts.length≤k)(hl:bK n l M):bK n l (pB fs (b:Int)):=hl.congr (fun i _=>by
 rw[Bool.eq_iff_iff,h i,tz hx,List.take_of_length_le hk];rfl)
theorem Mb.use(h:Mb x k U)(hm:Hb x k M)(hx:fs[b]?=some x)(hk:x.insts.length≤k)(hf:gu x→∃a:Nat,x.v=(a:Int)∧M (a:Int)=true)(hl:bK n l U):bK n l (wG fs (b:Int)):=hl.congr (fun i _=>by
 rw[Bool.eq_iff_iff,h i,sk hx,List.take_of_length_le hk];unfold yd;constructor
 ·rintro⟨h1,h2⟩;exact⟨h1,.inl h2⟩
 ·rintro⟨h1,h2|⟨h2,h3,h4⟩⟩
  ·exact⟨h1,h2⟩
  ·exfalso;obtain⟨a,ha,hM⟩:=hf h2;rw[←ha,h3]at hM;rcases(hm i).1 hM with⟨p,hp,e⟩|⟨p,hp,e⟩
   ·exact h1 p hp e
   ·rw[List.take_of_length_le hk]at hp;exact h4 p hp e)
theorem Mb.Ry(h:Mb x k U)(hm:Hb x k M)(hx:fs[b]?=some x)(hk:x.insts.length≤k)(hf:gu x){a:Nat}(ha:x.v=(a:Int))(hM:M (a:Int)=false)(hl:bK n l (cC U (a:Int))):bK n l (wG fs (b:Int)):=hl.congr (fun i _=>by
 rw[Bool.eq_iff_iff,fY,h i,sk hx,List.take_of_length_le hk];unfold yd;constructor
 ·rintro(e|⟨h1,h2⟩)
  ·have xM:¬M (i:Int)=true:=by rw[e,hM];simp
   rw[hm i,List.take_of_length_le hk]at xM;exact⟨fun p hp e=>xM (.inl ⟨p,hp,e⟩),.inr ⟨hf,by rw[ha,e],fun p hp e=>xM (.inr ⟨p,hp,e⟩)⟩⟩
  ·exact⟨h1,.inl h2⟩
 ·rintro⟨h1,h2|⟨h2,h3,h4⟩⟩
  ·exact .inr ⟨h1,h2⟩
  ·exact .inl (by rw[←h3,ha]))
end
structure fN(n nb:Nat)(rows:List dg)(SS:Int→Int→Bool):Prop where
 len:rows.length=nb
 at_:∀k:Nat,k<nb→∃A c l,rows[k]?=some ⟨A,n,c,aX l⟩∧bK n l (SS (k:Int))
section
variable {n nb k : Nat} {rows : List dg} {SS : Int → Int → Bool}
theorem fN.nil:fN n 0 [] SS:=⟨rfl,fun _ h=>absurd h (Nat.not_lt_zero _)⟩
theorem fN.push(h:fN n k rows SS){A:aA}{c:Nat}{l:List Bool}(hl:bK n l (SS (k:Int))):fN n (k+1) (rows++[⟨A,n,c,aX l⟩]) SS:=by
 refine⟨by rw[List.length_append,h.len];rfl,fun q hq=> ?_⟩;by_cases e:q=k
 ·subst e;exact⟨A,c,l,by rw[List.getElem?_append_right (by rw[h.len];exact Nat.le_refl _),h.len,Nat.sub_self];rfl,hl⟩
 ·obtain⟨A',c',l',h1,h2⟩:=h.at_ q oM;exact⟨A',c',l',by rw[List.getElem?_append_left (by rw[h.len];omega)];exact h1,h2⟩
theorem fN.set(h:fN n nb rows SS){A:aA}{c:Nat}{l:List Bool}{S:Int→Bool}(hS:bK n l S):fN n nb (rows.set k ⟨A,n,c,aX l⟩) (bM SS (k:Int) S):=by
 refine⟨by rw[List.length_set,h.len],fun q hq=> ?_⟩;by_cases e:k=q
 ·subst e;exact⟨A,c,l,List.getElem?_set_self (by rw[h.len];exact hq),by rw[fc];exact hS⟩
 ·obtain⟨A',c',l',h1,h2⟩:=h.at_ q hq;exact⟨A',c',l',by rw[List.getElem?_set_ne e];exact h1,by rw[gC oM];exact h2⟩
end
structure Ek(n:Nat)(fs:List aI)(SI SO:Int→Int→Bool):Prop where
 ok:Di n fs SI SO
 use:∀(b:Nat) (x:aI) (v:Int),fs[b]?=some x→yd x v→SI (b:Int) v=true
def Y7(fs:List aI)(SI SO:Int→Int→Bool)(b:Nat)(v:Int):Prop:=(∀t,t∈tg (ae fs) (b:Int)→SI t v=true→SO (b:Int) v=true)∧(SO (b:Int) v=true→pB fs (b:Int) v=false→SI (b:Int) v=true)
section
variable {n : Nat} {fs : List aI} {SI SO : Int → Int → Bool} {b : Nat} {x : aI} {v : Int}
theorem Ek.start{m j i:Nat}(h:eG fs m j i SO)(hm:fs.length≤m):Ek n fs (wG fs) SO:=by
 have hu:∀b v,wG fs b v=true→∃(k:Nat) (x:aI),b=(k:Int)∧fs[k]?=some x∧yd x v:=by intro b v hb;unfold wG at hb;simp only[decide_eq_true_eq]at hb;obtain⟨h0,x,hx,hq⟩:=hb;exact⟨b.toNat,x,oM,hx,hq⟩
 refine⟨⟨fun b v h'=> ?_,fun b v h'=> .uW (h.sound b v h'),h.all hm,fun b x hx v hv h'=> ?_⟩,fun b x v hx hq=>(sk hx).2 hq⟩
 ·obtain⟨k,x,rfl,hx,hq⟩:=hu b v h';exact .use hx hq
 ·exact(jO hv).2 (.inl ((sk hx).1 h'))
theorem Ek.out(h:Ek n fs SI SO){t:Int}(ht:t∈tg (ae fs) (b:Int))(hi:SI t v=true):Ek n fs SI (bM SO (b:Int) (cC (SO (b:Int)) v)):=by
 have keep:∀b' v',SO b' v'=true→bM SO (b:Int) (cC (SO (b:Int)) v) b' v'=true:=by
  intro b' v' h';by_cases e:b'=(b:Int)
  ·subst e;rw[fc,fY];exact .inr h'
  ·rw[gC e];exact h'
 refine⟨⟨h.ok.P0,fun b' v' h'=> ?_,fun b' v' h'=>keep _ _ (h.ok.uW b' v' h'),fun b' x hx v hv hs=>wC hv (keep _ v) (h.ok.less b' x hx v hv hs)⟩,h.use⟩;by_cases e:b'=(b:Int)
 ·subst e;rw[fc,fY]at h';rcases h' with rfl|h'
  ·exact .I5 ht (h.ok.P0 _ _ hi)
  ·exact h.ok.out _ _ h'
 ·rw[gC e]at h';exact h.ok.out _ _ h'
theorem Ek.P0(h:Ek n fs SI SO)(hx:fs[b]?=some x)(ho:SO (b:Int) v=true)(hm:pB fs (b:Int) v=false):Ek n fs (bM SI (b:Int) (cC (SI (b:Int)) v)) SO:=by
 have hmq:¬wA x v:=fun hq=>by rw[(tz hx).2 hq]at hm;cases hm
 refine⟨⟨fun b' v' h'=> ?_,h.ok.out,h.ok.uW,fun b' y hy v' hv hs=> ?_⟩,fun b' y v' hy hq=> ?_⟩
 ·by_cases e:b'=(b:Int)
  ·subst e;rw[fc,fY]at h';rcases h' with rfl|h'
   ·exact .Fc hx (h.ok.out _ _ ho) hmq
   ·exact h.ok.P0 _ _ h'
  ·rw[gC e]at h';exact h.ok.P0 _ _ h'
 ·by_cases e:(b':Int)=(b:Int)
  ·have:b'=b:=oM;subst this;rw[hx]at hy;injection hy with hy;subst hy;rw[fc,fY]at hs;rcases hs with rfl|hs
   ·exact(jO hv).2 (.inr ⟨ho,hmq⟩)
   ·exact h.ok.less _ _ hx _ hv hs
  ·rw[gC e]at hs;exact h.ok.less b' y hy v' hv hs
 ·by_cases e:(b':Int)=(b:Int)
  ·rw[e,fc,fY];have:=h.use b' y v' hy hq;rw[e]at this;exact .inr this
  ·rw[gC e];exact h.use b' y v' hy hq
theorem Fi{S:Int→Bool}{i:Nat}(hi:i<n)(hs:S (i:Int)=false):fW n (cC S (i:Int))<fW n S:=by
 refine wE (fun j _ h=>fY.2 (.inr h)) (fun h=> ?_);have:=h i hi;rw[hs]at this;rw[fY.2 (.inl rfl)]at this;cases this
theorem wH{nb i:Nat}(hb:b<nb)(hi:i<n)(hs:SI (b:Int) (i:Int)=false):cR n nb (bM SI (b:Int) (cC (SI (b:Int)) (i:Int)))<cR n nb SI:=by
 have h1:=wD (n:=n) (SI:=SI) hb (S:=cC (SI (b:Int)) (i:Int));have h2:=Fi (n:=n) hi hs;omega
theorem Jb{nm:eV}{pa va:Int}(hg:mL nm pa va fs)(g9:va=(n:Int))(h:Ek n fs SI SO)(hc:∀b:Nat,b<fs.length→∀v:Nat,v<n→Y7 fs SI SO b (v:Int)):mM n fs SI SO:=by
 refine zl (oi hg g9) (Dk hg g9) h.ok (fun b hb=>⟨fun t v ht h0 h1 hs=> ?_,fun x hx v h0 h1 hs=> ?_⟩)
 ·have:=(hc b hb v.toNat oM).1 t ht;rw[Int.toNat_of_nonneg h0]at this;exact this hs
 ·rw[Int.toNat_natCast]at hx;rcases(jO h0).1 hs with hu|⟨ho,hm⟩
  ·exact h.use b x v hx hu
  ·have:=(hc b hb v.toNat oM).2;rw[Int.toNat_of_nonneg h0]at this;refine this ho ?_;cases hq:pB fs (b:Int) v with
   |false=>rfl
   |true=>exact absurd ((tz hx).1 hq) hm
end
structure GTo(n:Nat)(fs:List aI)(SI SO u6 u7:Int→Int→Bool)(b m:Nat)(mb:Bool):Prop where
 ok:Ek n fs u6 u7
 no:mb=false→u6=SI∧u7=SO∧∀v:Nat,v<m→Y7 fs SI SO b (v:Int)
 le:cR n fs.length u6+cR n fs.length u7≤cR n fs.length SI+cR n fs.length SO
 yes:mb=true→cR n fs.length u6+cR n fs.length u7<cR n fs.length SI+cR n fs.length SO
structure uD(n:Nat)(fs:List aI)(SI SO u6 u7:Int→Int→Bool)(b m q:Nat)(mb:Bool):Prop extends GTo n fs SI SO u6 u7 b m mb where
 tgs:∀(r:Nat) (t:Int),r<q→(tg (ae fs) (b:Int))[r]?=some t→u6 t (m:Int)=true→u7 (b:Int) (m:Int)=true
section
variable {n : Nat} {fs : List aI} {SI SO u6 u7 : Int → Int → Bool} {b m q : Nat} {mb : Bool}
theorem GTo.start(h:Ek n fs SI SO):GTo n fs SI SO SI SO b 0 false:=⟨h,fun _=>⟨rfl,rfl,fun _ h=>absurd h (Nat.not_lt_zero _)⟩,Nat.le_refl _,fun h=>Bool.noConfusion h⟩
theorem GTo.mid(h:GTo n fs SI SO u6 u7 b m mb):uD n fs SI SO u6 u7 b m 0 mb:=⟨h,fun _ _ h=>absurd h (Nat.not_lt_zero _)⟩
theorem uD.skip(h:uD n fs SI SO u6 u7 b m q mb){t:Int}(ht:(tg (ae fs) (b:Int))[q]?=some t)(hs:u6 t (m:Int)=true→u7 (b:Int) (m:Int)=true):uD n fs SI SO u6 u7 b m (q+1) mb:=by
 refine⟨h.toGTo,fun r t' hr h1 h2=> ?_⟩;by_cases e:r=q
 ·subst e;rw[ht]at h1;injection h1 with h1;subst h1;exact hs h2
 ·exact h.tgs r t' oM h1 h2
theorem uD.put(h:uD n fs SI SO u6 u7 b m q mb)(hb:b<fs.length)(hm:m<n){t:Int}(ht:(tg (ae fs) (b:Int))[q]?=some t)(hs:u6 t (m:Int)=true)(ho:u7 (b:Int) (m:Int)=false):uD n fs SI SO u6 (bM u7 (b:Int) (cC (u7 (b:Int)) (m:Int))) b m (q+1) true:=by
 have hu:=wH (n:=n) (SI:=u7) hb hm ho;have hl:=h.le;refine⟨⟨h.ok.out (List.mem_of_getElem? ht) hs,fun h=>Bool.noConfusion h,oM,fun _=>oM⟩,fun r t' _ _ _=> ?_⟩;rw[fc,fY];exact .inl rfl
theorem uD.same(h:uD n fs SI SO u6 u7 b m q mb)(hq:(tg (ae fs) (b:Int)).length≤q)(hc:u7 (b:Int) (m:Int)=true→pB fs (b:Int) (m:Int)=false→u6 (b:Int) (m:Int)=true):GTo n fs SI SO u6 u7 b (m+1) mb:=by
 refine⟨h.ok,fun hmb=> ?_,h.le,h.yes⟩;obtain⟨h1,h2,h3⟩:=h.no hmb;refine⟨h1,h2,fun v hv=> ?_⟩;by_cases e:v=m
 ·subst e;have ht:=h.tgs;rw[h1,h2]at ht hc;refine⟨fun t h4 h5=> ?_,hc⟩;obtain⟨r,hr⟩:=List.mem_iff_getElem?.1 h4;exact ht r t (by have:=(List.getElem?_eq_some_iff.1 hr).1;omega) hr h5
 ·exact h3 v oM
theorem uD.Qdk(h:uD n fs SI SO u6 u7 b m q mb)(hm:m<n){x:aI}(hx:fs[b]?=some x)(ho:u7 (b:Int) (m:Int)=true)(zm:pB fs (b:Int) (m:Int)=false)(hi:u6 (b:Int) (m:Int)=false):GTo n fs SI SO (bM u6 (b:Int) (cC (u6 (b:Int)) (m:Int))) u7 b (m+1) true:=by
 have hu:=wH (n:=n) (SI:=u6) (List.getElem?_eq_some_iff.1 hx).1 hm hi;have hl:=h.le;exact⟨h.ok.P0 hx ho zm,fun h=>Bool.noConfusion h,oM,fun _=>oM⟩
end
def ep(l:List Bool)(k:Nat):ar:=((List.range k).filter (fun i:Nat=>l.getD i false)).map (fun i:Nat=>(i:Int))
theorem wI{l:List Bool}{k:Nat}(h:l.getD k false=true):ep l (k+1)=ep l k++[(k:Int)]:=by
 unfold ep;rw[List.range_succ,List.filter_append,List.map_append];simp only[List.filter_cons,List.filter_nil,h,if_true,List.map_cons,List.map_nil]
theorem zn{l:List Bool}{k:Nat}(h:l.getD k false=false):ep l (k+1)=ep l k:=by
 unfold ep;rw[List.range_succ,List.filter_append,List.map_append];simp only[List.filter_cons,List.filter_nil,h,List.map_nil,List.append_nil,Bool.false_eq_true,if_false]
theorem Fj(l:List Bool)(k:Nat):(ep l k).length≤k:=by
 unfold ep;rw[List.length_map];exact Nat.le_trans (bx _ _) sI
theorem wJ{n:Nat}{l:List Bool}{S:Int→Bool}(h:bK n l S):ep l n=ag n S:=by
 unfold ep ag;refine congrArg _ (List.filter_congr (fun i hi=> ?_));rw[List.mem_range]at hi;rw[h.2 i hi]
section
variable {n : Nat} {fs : List aI} {Hc Hd nd qe VS El : Int → Int → Bool} {j0 : Nat} {tb mb : Bool}
theorem Mc(hU:cR n fs.length nd+cR n fs.length qe≤cR n fs.length Hc+cR n fs.length Hd∧(tb=true→cR n fs.length nd+cR n fs.length qe<cR n fs.length Hc+cR n fs.length Hd))(h:GTo n fs nd qe VS El j0 n mb):cR n fs.length VS+cR n fs.length El≤cR n fs.length Hc+cR n fs.length Hd∧((mb||tb)=true→cR n fs.length VS+cR n fs.length El<cR n fs.length Hc+cR n fs.length Hd):=by
 have h1:=hU.1;have h2:=h.le;refine⟨oM,fun hb=> ?_⟩;cases mb with
 |true=>have:=h.yes rfl;omega
 |false=>have:=hU.2 (by simpa using hb);omega
theorem Md(hc:tb=false→∀b:Nat,j0+1≤b→b<fs.length→∀v:Nat,v<n→Y7 fs nd qe b (v:Int))(h:GTo n fs nd qe VS El j0 n mb):(mb||tb)=false→∀b:Nat,j0≤b→b<fs.length→∀v:Nat,v<n→Y7 fs VS El b (v:Int):=by
 intro hb b h1 h2 v hv;rw[Bool.or_eq_false_iff]at hb;obtain⟨e1,e2,e3⟩:=h.no hb.1;rw[e1,e2];by_cases e:b=j0
 ·rw[e];exact e3 v hv
 ·exact hc hb.2 b oM h2 v hv
end
end Go.Mor
namespace Go.Mor
open Go.RowKit
def l9(n:Nat)(S:Int→Bool):Nat:=(ag n S).length
section
variable {n : Nat} {S T : Int → Bool}
theorem pC(h:∀i:Nat,i<n→S (i:Int)=T (i:Int)):l9 n S=l9 n T:=by rw[l9,l9,jP h]
theorem q8(n:Nat)(S:Int→Bool):l9 (n+1) S=l9 n S+cond (S (n:Int)) 1 0:=by
 unfold l9 ag;rw[List.range_succ,List.filter_append,List.map_append,List.length_append];cases h:S (n:Int)<;>simp[h]
theorem nA:l9 n S≤n:=by
 induction n with
 |zero=>simp[l9,ag]
 |succ n ih=>rw[q8];cases S (n:Int)<;>simp<;>omega
theorem zo{v:Int}(h:S v=true):cC S v=S:=by
 funext x;unfold cC;by_cases e:x=v
 ·subst e;simp[h]
 ·simp[e]
theorem zp{v:Int}(h:S v=false):kD S v=S:=by
 funext x;unfold kD;by_cases e:x=v
 ·subst e;simp[h]
 ·simp[e]
theorem Jc{i:Nat}(hi:i<n)(h:S (i:Int)=false):l9 n (cC S (i:Int))=l9 n S+1:=by
 induction n with
 |zero=>omega
 |succ n ih=>
  rw[q8,q8];by_cases e:i=n
  ·subst e;rw[h,fY.2 (.inl rfl),pC (T:=S) (fun j hj=> ?_)]
   ·rfl
   ·unfold cC;have:¬((j:Int)=(i:Int)):=oM;simp[this]
  ·rw[ih oM];have:cC S (i:Int) (n:Int)=S (n:Int):=by unfold cC;have:¬((n:Int)=(i:Int)):=oM;simp[this]
   rw[this];omega
end
def fm(S:Int→Bool)(d:Int):Int→Bool:=if 0≤d then cC S d else S
theorem sm(S:Int→Bool)(d:Int):gp (fm S d) d=gp S d:=by
 unfold gp fm;split
 ·funext x;unfold cC kD;cases h:(x==d)with
  |true=>simp
  |false=>show(!false&&((x==d)||S x))=_;rw[h,Bool.false_or]
 ·rfl
def nJ(n:Nat):List cV→(Int→Bool)→List ar
 |[],_=>[]
 |p::l,E=>ag n (fm (bH l E) p.dst)::nJ n l E
theorem Br(n:Nat)(l:List cV)(E:Int→Bool):(nJ n l E).length=l.length:=by
 induction l with
 |nil=>rfl
 |cons p l ih=>simp[nJ,ih]
theorem fZ{n j:Nat}{l:List cV}{E:Int→Bool}{p:cV}(h:l[j]?=some p):(nJ n l E)[j]?=some (ag n (fm (bH (l.drop (j+1)) E) p.dst)):=by
 induction l generalizing j with
 |nil=>simp at h
 |cons a l ih=>
  cases j with
  |zero=>simp at h;subst h;simp[nJ]
  |succ j=>simp at h;simpa[nJ]using ih h
theorem Dl{n j:Nat}{l:List cV}{E:Int→Bool}{p:cV}(h:l[j]?=some p):nJ n (l.drop j) E=ag n (fm (bH (l.drop (j+1)) E) p.dst)::nJ n (l.drop (j+1)) E:=by
 obtain⟨hj,he⟩:=List.getElem?_eq_some_iff.1 h;rw[List.drop_eq_getElem_cons hj,he];rfl
def mx(l:List Nat):Nat:=l.foldr max 0
theorem jr(a:Nat)(l:List Nat):mx (a::l)=max a (mx l):=rfl
theorem jZ(l m:List Nat):mx (l++m)=max (mx l) (mx m):=by
 induction l with
 |nil=>simp[mx]
 |cons a l ih=>rw[gX,jr,jr,ih];omega
def q9(l:List fI)(S:Int→Bool):Int→Bool:=l.foldl (fun S p=>cC S p.dst) S
theorem wK{l:List fI}{j:Nat}{p:fI}(h:l[j]?=some p)(S:Int→Bool):q9 (l.take (j+1)) S=cC (q9 (l.take j) S) p.dst:=by
 unfold q9;rw[cS h,List.foldl_append];rfl
theorem vb{l:List fI}{S:Int→Bool}{v:Int}:q9 l S v=true↔S v=true∨∃p,p∈l∧p.dst=v:=by
 induction l generalizing S with
 |nil=>simp[q9]
 |cons p l ih=>
  have e:q9 (p::l) S=q9 l (cC S p.dst):=rfl;rw[e,ih,fY];simp only[List.mem_cons];constructor
  ·rintro((h|h)|⟨q,hq,h⟩)
   ·exact .inr ⟨p,.inl rfl,h.symm⟩
   ·exact .inl h
   ·exact .inr ⟨q,.inr hq,h⟩
  ·rintro(h|⟨q,rfl|hq,h⟩)
   ·exact .inl (.inr h)
   ·exact .inl (.inl h.symm)
   ·exact .inr ⟨q,hq,h⟩
def Em(k:Nat)(S:Int→Bool):Int→Bool:=fun v=>decide (0≤v∧v<(k:Int))||S v
theorem sn(S:Int→Bool):Em 0 S=S:=by
 funext v;unfold Em;rw[decide_eq_false oM,Bool.false_or]
theorem wL(k:Nat)(S:Int→Bool):Em (k+1) S=cC (Em k S) (k:Int):=by
 funext v;unfold Em cC;rw[Bool.eq_iff_iff];simp only[Bool.or_eq_true,decide_eq_true_eq,beq_iff_eq];constructor
 ·rintro(h|h)
  ·by_cases e:v=(k:Int)
   ·exact .inl e
   ·exact .inr (.inl ⟨h.1,oM⟩)
  ·exact .inr (.inr h)
 ·rintro(h|h|h)
  ·exact .inl ⟨oM,oM⟩
  ·exact .inl ⟨h.1,oM⟩
  ·exact .inr h
noncomputable def cY(pa:Nat)(k:Nat)(x:aI)(S:Int→Bool):Int→Bool:=if k=0 then Em pa (q9 x.aE (bH x.insts (bV x S)))else q9 x.aE (bH x.insts (bV x S))
noncomputable def tA(n pa k:Nat)(x:aI)(S:Int→Bool):List ar:=ag n (cY pa k x S)::nJ n x.insts (bV x S)
noncomputable def Fk(n pa:Nat)(fs:List aI)(SO:Int→Int→Bool)(k:Nat):List ar:=match fs[k]? with|some x=>tA n pa k x (SO (k:Int))|none=>[]
noncomputable def df(n pa:Nat)(fs:List aI)(SO:Int→Int→Bool)(k:Nat):List ar:=(List.range k).flatMap (Fk n pa fs SO)
def gz(l:List ar):Nat:=mx (l.map List.length)
theorem eO(a:ar)(l:List ar):gz (a::l)=max a.length (gz l):=rfl
theorem ig(l m:List ar):gz (l++m)=max (gz l) (gz m):=by rw[gz,List.map_append,jZ];rfl
theorem rY:gz []=0:=rfl
section
variable {n pa k : Nat} {fs : List aI} {SO TO : Int → Int → Bool} {x : aI}
theorem Fl:df n pa fs SO 0=[]:=rfl
theorem ma(hx:fs[k]?=some x):df n pa fs SO (k+1)=df n pa fs SO k++tA n pa k x (SO (k:Int)):=by
 unfold df;rw[List.range_succ,List.flatMap_append];simp[Fk,hx]
theorem Dn{l:List cV}{S T:Int→Bool}{v:Int}(h:S v=T v):bH l S v=bH l T v:=by
 induction l with
 |nil=>exact h
 |cons p l ih=>
  show yc p (bH l S) v=yc p (bH l T) v;unfold yc q0 gp;split
  ·unfold kD;rw[ih]
  ·rw[ih]
theorem He{S T:Int→Bool}{v:Int}(h:S v=T v):bV x S v=bV x T v:=by unfold bV;rw[h]
theorem VT{l:List fI}{S T:Int→Bool}{v:Int}(h:S v=T v):q9 l S v=q9 l T v:=by
 rw[Bool.eq_iff_iff,vb,vb,h]
theorem Jd{S T:Int→Bool}{v:Int}(h:S v=T v):cY pa k x S v=cY pa k x T v:=by
 have e:=VT (l:=x.aE) (Dn (l:=x.insts) (He (x:=x) h));unfold cY;split
 ·unfold Em;rw[e]
 ·exact e
theorem Rz{S T:Int→Bool}{d v:Int}(h:S v=T v):fm S d v=fm T d v:=by
 unfold fm;split
 ·unfold cC;rw[h]
 ·exact h
theorem Je{l:List cV}{S T:Int→Bool}(h:∀i:Nat,i<n→S (i:Int)=T (i:Int)):nJ n l S=nJ n l T:=by
 induction l with
 |nil=>rfl
 |cons p l ih=>
  show ag n _::nJ n l S=ag n _::nJ n l T;rw[ih,jP (fun i hi=>Rz (Dn (h i hi)))]
theorem Dp(h:∀b:Nat,b<fs.length→∀i:Nat,i<n→SO (b:Int) (i:Int)=TO (b:Int) (i:Int)):df n pa fs SO k=df n pa fs TO k:=by
 unfold df;have e:Fk n pa fs SO=Fk n pa fs TO:=by
  funext b;unfold Fk;cases hx:fs[b]? with
  |none=>rfl
  |some x=>
   have hb:=(List.getElem?_eq_some_iff.1 hx).1;show tA n pa b x _=tA n pa b x _;unfold tA;rw[jP (fun i hi=>Jd (h b hb i hi)),Je (fun i hi=>He (h b hb i hi))]
 rw[e]
end
noncomputable def bO(n pa:Nat)(fs:List aI):Nat:=gz (df n pa fs (fun b v=> @decide (LV fs false b v) (Classical.propDecidable _)) fs.length)
theorem j4{n pa:Nat}{fs:List aI}{SI SO:Int→Int→Bool}(h:mM n fs SI SO):gz (df n pa fs SO fs.length)=bO n pa fs:=by
 unfold bO;rw[Dp (fun b hb i hi=> ?_)];rw[Bool.eq_iff_iff];simp only[decide_eq_true_eq];exact(h b hb (i:Int) oM oM).2
end Go.Mor
namespace Go.Mor
open Go.RowKit
def Fm(l:ar)(i j:Nat):ar:=(l.set i (l.getD j 0)).set j (l.getD i 0)
theorem kf{l:ar}{i j:Nat}:(Fm l i j).length=l.length:=by simp[Fm]
def En:Nat→ar→Nat→ar
 |0,l,_=>l
 |f+1,l,j=>if(j-1) / 2=j∨¬l.getD j 0<l.getD ((j-1) / 2) 0 then l else En f (Fm l ((j-1) / 2) j) ((j-1) / 2)
def Eo(l:ar)(j n:Nat):Nat:=if j+1<n∧l.getD (j+1) 0<l.getD j 0 then j+1 else j
theorem VU{l:ar}{j n:Nat}(h:j<n):Eo l j n<n:=by unfold Eo;split<;>omega
theorem VV{l:ar}{j n:Nat}:j≤Eo l j n:=by unfold Eo;split<;>omega
def Dq:Nat→ar→Nat→Nat→ar
 |0,l,_,_=>l
 |f+1,l,i,n=>if n≤2*i+1∨¬l.getD (Eo l (2*i+1) n) 0<l.getD i 0 then l else Dq f (Fm l i (Eo l (2*i+1) n)) (Eo l (2*i+1) n) n
theorem RB{f:Nat}{l:ar}{j:Nat}:(En f l j).length=l.length:=by
 induction f generalizing l j with
 |zero=>rfl
 |succ f ih=>unfold En;split;rfl;rw[ih,kf]
theorem RC{f:Nat}{l:ar}{i n:Nat}:(Dq f l i n).length=l.length:=by
 induction f generalizing l i with
 |zero=>rfl
 |succ f ih=>unfold Dq;split;rfl;rw[ih,kf]
theorem Dr{f:Nat}{l:ar}{j:Nat}(h:(j-1) / 2=j∨¬l.getD j 0<l.getD ((j-1) / 2) 0):En (f+1) l j=l:=by unfold En;rw[if_pos h]
theorem VW{f:Nat}{l:ar}{j:Nat}(h:¬(j-1) / 2=j)(h2:l.getD j 0<l.getD ((j-1) / 2) 0):En (f+1) l j=En f (Fm l ((j-1) / 2) j) ((j-1) / 2):=by
 rw[En,if_neg (by rintro(h3|h3);exact h h3;exact h3 h2)]
theorem Me{f:Nat}{l:ar}{i n:Nat}(h:n≤2*i+1∨¬l.getD (Eo l (2*i+1) n) 0<l.getD i 0):Dq (f+1) l i n=l:=by unfold Dq;rw[if_pos h]
theorem VX{f:Nat}{l:ar}{i n:Nat}(h:¬n≤2*i+1)(h2:l.getD (Eo l (2*i+1) n) 0<l.getD i 0):Dq (f+1) l i n=Dq f (Fm l i (Eo l (2*i+1) n)) (Eo l (2*i+1) n) n:=by
 rw[Dq,if_neg (by rintro(h3|h3);exact h h3;exact h3 h2)]
theorem zq{f:Nat}{l:ar}{i n:Nat}(h:n≤2*i+1∨¬l.getD (Eo l (2*i+1) n) 0<l.getD i 0):Dq f l i n=l:=by
 cases f with
 |zero=>rfl
 |succ f=>exact Me h
def wM(l:ar)(v:Int):ar:=En (l.length+1) (l++[v]) l.length
def ly(l:ar):ar:=Dq l.length (Fm l 0 (l.length-1)) 0 (l.length-1)
def pD(l:ar):Int:=(ly l).getD (l.length-1) 0
def tB(l:ar):ar:=(ly l).take (l.length-1)
theorem zr(l:ar)(v:Int):(wM l v).length=l.length+1:=by simp[wM,RB]
theorem qf(l:ar):(ly l).length=l.length:=by simp[ly,RC,kf]
theorem Ds(l:ar):(tB l).length=l.length-1:=by simp[tB,qf]
theorem wN{l:ar}{i j:Nat}(hi:i<l.length)(hj:j<l.length):(Fm l i j).Perm l:=by
 unfold Fm;rw[List.perm_iff_count];intro a;have g1:l.getD j 0=l[j]:=by simp[List.getD,hj]
 have g2:l.getD i 0=l[i]:=by simp[List.getD,hi]
 rw[g1,g2];have h:=List.set_set_perm (i:=i) (j:=j) hi hj;exact(List.perm_iff_count.1 h) a
end Go.Mor
namespace Go.Mor
open Go.RowKit
theorem Mf{P:Program}{c:Code}{K:Act→World→Prop}{Q:Exit→Act→World→Prop}{a:Act}{w:World}{k k':Nat}{N:FN}{env:Env}{d:Option Nat}{ty:Nat}{g:Option (Nat×Bool)}{ts:Array TypeId}{x y:Operand}(hk:ao c k=some (d,.call {callee:= .builtin .max,args:=#[x,y],argTypes:=ts},ty,g))(hF:Fr a N env)(hg:bu c g env=some true)(hd:gL d N=true)(im:k+1=k'){kd:IntKind}{i j:Int}(hx:ev env x=some (.int kd i))(hy:ev env y=some (.int kd j))(z:Int)(hz:z=if i<j then j else i)(h:∀a',a'=a.put d (.int kd z)→Fr a' N (dN env d (.int kd z))→bw P c K Q k' a' w):bw P c K Q k a w:=by
 refine dR hk hF hg hd im (fun o ho=> ?_) h;unfold execOp;rw[ho];simp only[resolve,invoke,builtin,Sem.run_bind,Sem.run_pure,Result.andThen_ok,List.map_toArray,List.map_cons,List.map_nil,hF.ev hx,hF.ev hy,Builtin.max_,List.foldlM];subst hz;simp[Builtin.max2];try (split<;>simp_all<;>omega)
theorem Mem.cat{S:Nat→Prop}{w0 w:World}{L:List aL}{e:Nat}{r1 r2:List dg}(h:Mem S w0 w (.bo e r1:: .bo e r2::L)):Mem S w0 w (.bo e (r1++r2)::L):=by
 have hp:=List.pairwise_cons.1 h.apart;have hq:=List.pairwise_cons.1 hp.2;obtain⟨⟨hh,Tp⟩,hS⟩:=h.own _ (List.mem_cons_self ..);obtain⟨⟨hh2,Qdl⟩,zt⟩:=h.own _ (List.mem_cons_of_mem _ (List.mem_cons_self ..));refine⟨h.os,h.tape,h.output,h.size,h.kept,?_,List.pairwise_cons.2 ⟨?_,hq.2⟩⟩
 ·intro q qx;rcases List.mem_cons.1 qx with rfl|qx
  ·refine⟨⟨fun s hs=> ?_,?_⟩,fun g hg=> ?_⟩
   ·rcases List.mem_append.1 hs with hs|hs
    ·exact hh s hs
    ·exact hh2 s hs
   ·exact List.pairwise_append.2 ⟨Tp,Qdl,fun s hs s' YU g hg lM=>hp.1 _ (List.mem_cons_self ..) g ⟨s,hs,hg⟩ ⟨s',YU,lM⟩⟩
   ·obtain⟨s,hs,hg⟩:=hg;rcases List.mem_append.1 hs with hs|hs
    ·exact hS g ⟨s,hs,hg⟩
    ·exact zt g ⟨s,hs,hg⟩
  ·exact h.own q (List.mem_cons_of_mem _ (List.mem_cons_of_mem _ qx))
 ·rintro q qx g ⟨s,hs,hg⟩ lM;rcases List.mem_append.1 hs with hs|hs
  ·exact hp.1 q (List.mem_cons_of_mem _ qx) g ⟨s,hs,hg⟩ lM
  ·exact hq.1 q qx g ⟨s,hs,hg⟩ lM
theorem RD(r1 r2:List dg):bt (r1++r2)=bt r1++bt r2:=by simp[bt]
section
variable {P : Program} {c : Code} {Q : Exit → Act → World → Prop} {N : FN} {env0 : Env} {wr : World} {sp : Nat → Spec} {i : Nat}
theorem dMN(kd:IntKind)(i1 j1 z:Int)(x y:Operand)(ts:Array TypeId)(ty:Nat)(g:Option (Nat×Bool))(hz:z=if j1<i1 then j1 else i1)(hv:sp i= .aQ (.int kd z):=by rfl)(h0:ao (one c i) 0=some (bg c i,.call {callee:= .builtin .min,args:=#[x,y],argTypes:=ts},ty,g):=by kernel_rfl)(hg:∀vs,kB c i (bR c i sp vs env0)=some true:=by intro _;kernel_rfl)(h1:∀vs,bu (one c i) g (bR c i sp vs env0)=some true:=by intro _;kernel_rfl)(h2:gL (bg c i) N=true:=by kernel_rfl)(hx:∀vs,ev (bR c i sp vs env0) x=some (.int kd i1):=by intro _;kernel_rfl)(hy:∀vs,ev (bR c i sp vs env0) y=some (.int kd j1):=by intro _;kernel_rfl)(he:ao (one c i) 1=none:=by kernel_rfl):jt P c Q N env0 wr sp i:=by
 refine nt hg (fun w vs hK hp a hF=> ?_);exact CG h0 hF (h1 vs) h2 rfl (hx vs) (hy vs) z hz (fun a' ea _=>aF he ⟨_,ea,Kp.refl w,by rw[hv];rfl⟩)
end
end Go.Mor
namespace Go.Mor
open Go.RowKit
end Go.Mor
