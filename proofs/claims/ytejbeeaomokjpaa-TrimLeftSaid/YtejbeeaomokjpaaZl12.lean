/-
  Texts of the proof, part 12.
-/
import Derived.Test.YtejbeeaomokjpaaZl11
import Derived.Scope
set_option maxRecDepth 10000
namespace Go.Mor
open Go.RowKit
section
variable {P : Program} {c : Code} {K : Act → World → Prop} {Q : Exit → Act → World → Prop} {w : World} {N : FN} {env : Env}
theorem zng(h:∀a,Fr a N env→Q .ret a w):∀a,Fr a N env→Exit.noGoto Q .ret a w:=h
end
end Go.Mor
namespace Go.Mor
open Go.RowKit
theorem zB{w:World}{g t:Nat}{cs vs:aW}(h:(bo.au g t cs).holds w)(off:Nat)(he:(cs.drop off).take vs.length=vs)(j:Nat)(v:Value)(hj:vs[j]?=some v):w.cell? (((ak g off):Addr).add j)=some v:=by
 have h1:cs[off+j]?=some v:=by have h2:=hj;rw[←he,List.getElem?_take_of_lt (List.getElem?_eq_some_iff.1 hj).1,List.getElem?_drop]at h2;exact h2
 have e:((ak g off):Addr).add j=⟨g,off+j,none⟩:=by unfold Addr.add;split<;>simp_all
 rw[e];exact ae h h1
end Go.Mor
namespace Go.Mor
open Go.RowKit
def cnC(c:Bool×Int):aW:=[.bool c.1,vI c.2]
def nv(kn:KN):aW:=kn.flatMap cnC
theorem QcO(c:Bool×Int):(cnC c).length=2:=rfl
theorem SL(kn:KN):(nv kn).length=kn.length*2:=hX QcO kn
theorem Xf{w:World}{A:aX}{ad:Addr}{kn:KN}{i:Nat}{c:Bool×Int}(h:(bo.rd A (nv kn)).holds w)(hA:A=some ad)(hi:kn[i]?=some c):∀j v,[.bool c.1,vI c.2][j]?=some v→w.cell? ((ad.add (i*2)).add j)=some v:=e8 (cs:=cnC c) (jt (f:=cnC) QcO oM h) hA (by rw[List.getElem?_map,hi];rfl)
theorem Qdm{kn:KN}{v:Int}(h0:0≤v)(h1:v<(kn.length:Int)):∃c,kn[v.toNat]?=some c∧XU kn v=c.1∧qv kn v=c.2:=by
 obtain⟨c,hc⟩:=bu (l:=kn) (i:=v.toNat) oM;refine⟨c,hc,?_,?_⟩
 ·unfold XU;rw[List.getD_eq_getElem?_getD,hc];rfl
 ·unfold qv;rw[List.getD_eq_getElem?_getD,hc];rfl
theorem Qfi{kn:KN}{v:Int}(h1:v.toNat<kn.length)(c:Bool×Int):setAt (nv kn) (v.toNat*2) [.bool c.1,vI c.2]=nv (kn.set v.toNat c):=Pe QcO c kn v.toNat h1
theorem Qgn(n:Nat):(List.replicate n [Value.bool false,vI 0]).flatten=nv (List.replicate n (false,0)):=by
 unfold nv;rw[List.flatMap_replicate];rfl
theorem QgZ{α:Type}{l:List α}(h:l.length=1):∃a,l=[a]:=by
 match l,h with
 |[a],_=>exact⟨a,rfl⟩
theorem Qeq(l:List aO)(z:KN):oo (l.map aO.e0) z=oo l z:=by
 unfold oo;rw[List.foldl_map];rfl
theorem QdN(l m:List aO)(z:KN):oo (l++m) z=oo m (oo l z):=by unfold oo;rw[Qf3]
def Lg(gs:List bz):List aO:=gs.flatMap (fun x=>x.insts)
theorem Qer(gs:List bz)(n:Nat):qN (gs.map bz.k) n=oo (Lg gs) (List.replicate n (false,0)):=by
 unfold qN;rw[←Qeq (Lg gs)];congr 1;unfold sX Lg;rw[Oc,List.map_flatMap];rfl
theorem QdO{gs:List bz}{k:Nat}{x:bz}(hx:gs[k]?=some x):Lg (gs.take (k+1))=Lg (gs.take k)++x.insts:=by
 obtain⟨q1,q2⟩:=List.getElem?_eq_some_iff.1 hx;unfold Lg;rw[QjK q1,q2,Qi0,iC,List.flatMap_nil,QiY]
theorem Xp{l:List aO}{m:Nat}{i:aO}(hi:l[m]?=some i)(z:KN):oo (l.take (m+1)) z=if i.op=1 then(oo (l.take m) z).set i.dst.toNat (true,i.n)else oo (l.take m) z:=by
 obtain⟨q1,q2⟩:=List.getElem?_eq_some_iff.1 hi;rw[QjK q1,q2,Xl]
end Go.Mor
namespace Go.Mor
open Go.RowKit
section
variable {nm : ByteArray} {pa va : Int} {n : Nat} {fs fd : List ay} {gs oT nE : List bz} {kn jU : KN} {tb : Bool}
theorem Qh7(gs:List bz):sP (gs.map bz.k):=by
 intro x hx;obtain⟨y,_,rfl⟩:=jd.1 hx;show(y.insts.map aO.e0).map aO.e0=y.insts.map aO.e0;rw[Qcn];rfl
theorem Qce(jv:(hY (fK (gs.map bz.k)):Int)≤20000){x:bz}(hx:x∈gs):x.ah.length≤20000∧x.insts.length≤20000:=by
 have nB:x.k∈gs.map bz.k:=jd.2 ⟨x,hx,rfl⟩;have RM:∀(l:List Nat) (a:Nat),a∈l→a≤l.sum:=by
  intro l;induction l with
  |nil=>intro a h;cases h
  |cons b l ih=>
   intro a h;rw[B5];rcases Qcx.1 h with h|h
   ·omega
   ·have:=ih a h;omega
 have hs:=vR (gs.map bz.k);have hl:(fun x:gO=>x.ah.length+x.insts.length) x.k≤((gs.map bz.k).map (fun x=>x.ah.length+x.insts.length)).sum:=RM _ _ (jd.2 ⟨x.k,nB,rfl⟩);have xo:x.k.ah.length+x.k.insts.length≤((gs.map bz.k).map (fun x=>x.ah.length+x.insts.length)).sum:=hl;have h1:x.k.insts.length=x.insts.length:=QjN ..;have h2:x.k.ah.length=x.ah.length:=QjN ..;omega
theorem Qfp(hg:vU nm pa va (gs.map bz.k)):∀x,x∈gs→x.gone=true→x.insts=[]:=by
 intro x hx Hx;have h1:=(hg.UT.gone x.k (jd.2 ⟨x,hx,rfl⟩) Hx).2.1;have h2:(x.insts.map aO.e0).length=0:=by rw[show x.insts.map aO.e0=[]from h1];rfl
 rw[QjN]at h2;exact Qf5.1 h2
theorem Qfq(kx:va=(n:Int))(hg:vU nm pa va (gs.map bz.k)):∀x,x∈gs→∀i,i∈x.insts→i.op=1→0≤i.dst∧i.dst<(n:Int):=by
 intro x hx i hi h1;have nB:x.k∈gs.map bz.k:=jd.2 ⟨x,hx,rfl⟩;obtain⟨k,hk⟩:=jF.1 nB;obtain⟨j,hj⟩:=jF.1 (jd.2 ⟨i,hi,rfl⟩:i.e0∈x.k.insts);have hd:=hg.once.1 _ (sq.2 ⟨k,x.k.f,K3 hk,rfl,.inr ⟨j,i.e0,hj,by show aU i.op;rw[h1];exact NQ,rfl,rfl⟩⟩);have LC:pa≤i.dst:=hd.1;have Vm:i.dst<va:=hd.2;have ZJ:=hg.par;omega
theorem Qcf(hg:vU nm pa va (gs.map bz.k))(jv:(hY (fK (gs.map bz.k)):Int)≤20000)(hN:gs.length≤1000):∀x,x∈gs→Qgl x:=by
 intro x hx;refine⟨(Qce jv hx).1,fun p hp=> ?_⟩;obtain⟨k,hk⟩:=jF.1 hx;have nB:(gs.map bz.k)[k]?=some x.k:=by rw[List.getElem?_map,hk];rfl
 have hpk:p.k∈x.k.ah:=jd.2 ⟨p,hp,rfl⟩;have hP:=hg.pK k x.k nB p.k hpk;have h1:p.args.length=p.from_.length:=hP.len;have h2:p.from_.length≤(gs.map bz.k).length:=VB hg nB hpk;rw[QjN]at h2;exact⟨h1,oM⟩
theorem Qfr(hg:vU nm pa va (gs.map bz.k))(ht:EJ (gs.map bz.k))(jv:(hY (fK (gs.map bz.k)):Int)≤20000)(hN:gs.length≤1000):∀x,x∈gs.map bz.k→Rh (gs.length:Int) x:=by
 intro y hy;obtain⟨x,hx,rfl⟩:=jd.1 hy;have JY:=Qcf hg jv hN x hx;obtain⟨k,hk⟩:=jF.1 hx;have nB:(gs.map bz.k)[k]?=some x.k:=by rw[List.getElem?_map,hk];rfl
 have QeS:x.k.e=0∨x.k.e=1→O9 (gs.length:Int) x.k:=by
  intro he;cases Hx:x.k.gone with
  |true=>
   have:=(hg.UT.gone x.k hy Hx).2.2.1;omega
  |false=>
   have:=hg.UT.ends x.k hy Hx;rwa [QjN]at this
 refine⟨?_,fun p hp=> ?_,fun e=> ?_,fun e=> ?_⟩
 ·show(x.ah.map cI.k).length≤20000;rw[QjN];exact JY.1
 ·have hP:=hg.pK k x.k nB p hp;have Gg:=VB hg nB hp;rw[QjN]at Gg;refine⟨?_,oM,hP.len,fun s hs=>by have:=hP.yW s hs;rwa [QjN]at this⟩;have Hx:x.k.gone=false:=by
   cases Hx:x.k.gone with
   |false=>rfl
   |true=>
    have h1:=(hg.UT.gone x.k hy Hx).1;rw[h1]at hp;cases hp
  have hr:=ht.reach _ (.mk' nB Hx);have EI:k≠0:=by rintro rfl;have h1:=hg.uJ x.k nB;rw[h1]at hp;cases hp
  have key:∀t:Int,Go.Mor.Reach (tK (gs.map bz.k)) t→t≠0→∃s,t∈tK (gs.map bz.k) s:=by
   intro t h cU;cases h with
   |zero=>exact absurd rfl cU
   |step _ h2=>exact⟨_,h2⟩
  obtain⟨s,hs⟩:=key _ hr oM;exact QdG (hP.all s hs)
 ·rcases QeS (.inl e)with h|h|h|h
  ·exact h.2.1
  ·have:=h.1;omega
  ·have:=h.1;omega
  ·have:=h.1;omega
 ·rcases QeS (.inr e)with h|h|h|h
  ·have:=h.1;omega
  ·exact⟨h.2.1,h.2.2.1⟩
  ·have:=h.1;omega
  ·have:=h.1;omega
end
end Go.Mor
namespace Go.Mor
open Go.RowKit
section
variable {kn : KN} {l : List aO} {m : Nat} {i : aO} {a : Int}
theorem QmG(h:i.op≠11):W9 kn i=false:=by
 unfold W9;rw[show(i.op==11)=false by simpa using h];rfl
theorem XN(h:i.args=[a]):QfH i=a:=by unfold QfH;rw[h];rfl
theorem QmH(ha:i.args=[a])(h:XU kn a=false):W9 kn i=false:=by
 unfold W9;rw[XN ha,h,Bool.and_false]
theorem QmI(ho:i.op=11)(ha:i.args=[a])(h:XU kn a=true):W9 kn i=true:=by
 unfold W9;rw[XN ha,h,ho];rfl
theorem QlM(ha:i.args=[a])(h:W9 kn i=true):flQ kn i=decide (qv kn a=0):=by
 unfold flQ;rw[h,XN ha,Bool.true_and];rw[xJ];simp
theorem QlN(h:W9 kn i=false):flQ kn i=false:=by unfold flQ;rw[h,Bool.false_and]
theorem QhU(hi:l[m]?=some i)(h:W9 kn i=false):pq kn (l.take (m+1))=pq kn (l.take m)++[i]:=QkU hi h
theorem Qk5(hi:l[m]?=some i)(h:W9 kn i=true):pq kn (l.take (m+1))=pq kn (l.take m):=Qlq hi h
theorem Qkp{tb:Bool}(hi:l[m]?=some i):(tb||(l.take (m+1)).any (W9 kn))=(tb||(l.take m).any (W9 kn)||W9 kn i):=by
 obtain⟨q1,q2⟩:=List.getElem?_eq_some_iff.1 hi;rw[QjK q1,QjB,q2];simp[Qfk]
theorem QiC(hi:l[m]?=some i)(h:∀j,j∈l.take m→flQ kn j=false)(hf:flQ kn i=false):∀j,j∈l.take (m+1)→flQ kn j=false:=by
 obtain⟨q1,q2⟩:=List.getElem?_eq_some_iff.1 hi;intro j hj;rw[QjK q1,q2]at hj;rcases QiU.1 hj with hj|hj
 ·exact h j hj
 ·rw[QcC.1 hj];exact hf
theorem QlO(l:List aO):(pq kn l).length≤l.length:=Qjt _ _
end
section
variable {kn : KN} {gs hd : List bz} {x y : bz} {k : Nat}
theorem QkH(l:List aO):pq kn (l.map aO.e0)=(pq kn l).map aO.e0:=by
 unfold pq;rw[NI];rfl
theorem QlP(l:List aO):(l.map aO.e0).findIdx? (flQ kn)=l.findIdx? (flQ kn):=by
 rw[List.findIdx?_map];rfl
theorem QlQ(A:aX)(c:Nat)(h:∀j,j∈x.insts→flQ kn j=false):(⟨x.g,x.pA,x.pc,x.ah,A,c,pq kn x.insts,x.e,x.v,x.a,x.b,x.gone⟩:bz).k=Qe5 kn x.k:=by
 have e:x.k.insts.findIdx? (flQ kn)=none:=by show(x.insts.map aO.e0).findIdx? (flQ kn)=none;rw[QlP,List.findIdx?_eq_none_iff];exact h
 unfold Qe5;rw[e];show _={x.k with insts:=pq kn (x.insts.map aO.e0)};rw[QkH];rfl
theorem QlR(A:aX)(c:Nat){m:Nat}{i:aO}(hi:x.insts[m]?=some i)(hf:flQ kn i=true)(h:∀j,j∈x.insts.take m→flQ kn j=false):(⟨x.g,x.pA,x.pc,x.ah,A,c,pq kn (x.insts.take m),3,0,i.n,0,x.gone⟩:bz).k=Qe5 kn x.k:=by
 obtain⟨q1,q2⟩:=List.getElem?_eq_some_iff.1 hi;have e:x.k.insts.findIdx? (flQ kn)=some m:=by show(x.insts.map aO.e0).findIdx? (flQ kn)=some m;rw[QlP,List.findIdx?_eq_some_iff_getElem];refine⟨q1,by rw[q2];exact hf,fun j hj=> ?_⟩;have:=h x.insts[j] (Qdt.2 ⟨j,oM,rfl⟩);rw[this];decide
 unfold Qe5;rw[e];show _=({x.k with insts:=pq kn ((x.insts.map aO.e0).take m),e:=3,v:=0,a:=nAt (x.insts.map aO.e0) m,b:=0}:gO);have e2:nAt (x.insts.map aO.e0) m=i.n:=by unfold nAt;rw[List.getElem?_map,hi];rfl
 rw[e2,←bl,QkH];rfl
theorem Qj5(hh:hd.map bz.k=(Qbp kn (gs.map bz.k)).take k)(hx:gs[k]?=some x)(hy:y.k=Qe5 kn x.k):(hd++[y]).map bz.k=(Qbp kn (gs.map bz.k)).take (k+1):=by
 have h1:(Qbp kn (gs.map bz.k))[k]?=some (Qe5 kn x.k):=by unfold Qbp;rw[List.getElem?_map,List.getElem?_map,hx];rfl
 obtain⟨hk,he⟩:=List.getElem?_eq_some_iff.1 h1;rw[QjK hk,he,Qjy,hh,←hy];rfl
theorem QmJ(kn:KN)(gs:List bz):Ds kn (gs.map bz.k)=(Lg gs).any (W9 kn):=by
 have e:sX (gs.map bz.k)=(Lg gs).map aO.e0:=by unfold sX Lg;rw[Oc,List.map_flatMap];rfl
 unfold Ds;rw[e,List.any_map];rfl
theorem QhV{tb:Bool}(hx:gs[k]?=some x)(h:tb=(Lg (gs.take k)).any (W9 kn)){vf:Bool}(h2:vf=(tb||x.insts.any (W9 kn))):vf=(Lg (gs.take (k+1))).any (W9 kn):=by
 rw[QdO hx,QjB,←h,h2]
structure Qol(n:Nat)(x:bz):Prop where
 li:x.insts.length≤20000
 al:∀i,i∈x.insts→i.op=11→∃a,i.args=[a]∧0≤a∧a<(n:Int)
theorem QfK{n:Nat}{nm:cV}{pa va:Int}(kx:va=(n:Int))(h:vU nm pa va (gs.map bz.k))(jv:(hY (fK (gs.map bz.k)):Int)≤20000):∀x,x∈gs→Qol n x:=by
 intro x hx;have nB:x.k∈gs.map bz.k:=jd.2 ⟨x,hx,rfl⟩;refine⟨(Qce jv hx).2,fun i hi ho=> ?_⟩;have hm:i.e0∈x.k.insts:=jd.2 ⟨i,hi,rfl⟩;have Ss:bJ i.e0:=h.Xv x.k nB _ hm;have h2:=Ss.2;have VX:i.e0.op=i.op:=rfl;have Vh:i.e0.args.length=i.args.length:=rfl;obtain⟨a,ha⟩:=QgZ (show i.args.length=1 by omega);have hr:=h.iv x.k nB i.e0 hm a (by show a∈i.args;rw[ha];simp);exact⟨a,ha,hr.1,oM⟩
end
end Go.Mor
namespace Go.Mor
open Go.RowKit
structure QdC(nm:cV)(pa va:Int)(n:Nat)(fs:List ay)(gs:List bz):Prop where
 q:xw nm pa va (gs.map bz.k)
 tr:Rm n (gs.map bz.k)=Qfj va fs
section
variable {nm : ByteArray} {pa va : Int} {n : Nat} {fs fd : List ay} {gs oT nE gs4 gs5 : List bz}
theorem QdC.start(hv:bV nm pa va fs=0)(Ma:gs.map bz.k=lN fs)(kx:va=(n:Int)):QdC nm pa va n fs gs:=by
 refine⟨by rw[Ma];exact(Xh hv).1,?_⟩;rw[Ma];unfold Qfj;rw[show va.toNat=n by omega]
theorem QdC.k(h:QdC nm pa va n fs gs)(hk:oT.map bz.k=Qbp (qN (gs.map bz.k) n) (gs.map bz.k)):xw nm pa va (oT.map bz.k)∧(Ds (qN (gs.map bz.k) n) (gs.map bz.k)=true→QdC nm pa va n fs oT∧wT (oT.map bz.k)<wT (gs.map bz.k))∧(Ds (qN (gs.map bz.k) n) (gs.map bz.k)=false→oT.map bz.k=gs.map bz.k):=by
 rw[hk];refine⟨h.q.knw _,fun h1=>⟨⟨by rw[hk];exact h.q.knw _,by rw[hk,QnC h.q h1,h.tr]⟩,QkE h.q h1⟩,fun h1=>QlE h1⟩
theorem QdC.p(h:QdC nm pa va n fs gs)(e2:oT.map bz.k=gs.map bz.k)(h1:Ds (qN (gs.map bz.k) n) (gs.map bz.k)=false)(LD:nE.map bz.k=kg (oT.map bz.k)):xw nm pa va (nE.map bz.k)∧EJ (nE.map bz.k)∧(sW (oT.map bz.k)=true→QdC nm pa va n fs nE∧wT (nE.map bz.k)<wT (gs.map bz.k)):=by
 rw[e2]at LD⊢;have hp:=(yn h.q.UH).2;refine⟨by rw[LD];exact h.q.prune,by rw[LD];exact hp,fun h2=>⟨⟨by rw[LD];exact h.q.prune,by rw[LD,QnD h.q h1 h2,h.tr]⟩,by rw[LD];exact Qgc h2⟩⟩
theorem QdC.j(h:QdC nm pa va n fs gs)(e2:oT.map bz.k=gs.map bz.k)(h1:Ds (qN (gs.map bz.k) n) (gs.map bz.k)=false)(h2:sW (oT.map bz.k)=false)(LD:nE.map bz.k=kg (oT.map bz.k))(hk4:gs4.map bz.k=jnK (nE.map bz.k)):xw nm pa va (gs4.map bz.k)∧EJ (gs4.map bz.k)∧(jnT (nE.map bz.k)=true→QdC nm pa va n fs gs4∧wT (gs4.map bz.k)<wT (gs.map bz.k))∧(jnT (nE.map bz.k)=false→gs4.map bz.k=nE.map bz.k):=by
 rw[e2]at LD h2;have hp:=(yn h.q.UH).2;have hw0:=Qbt (gs.map bz.k);rw[hk4,LD];obtain⟨q1,q2,_⟩:=h.q.prune.join hp;refine⟨q1,q2,fun h3=>⟨⟨by rw[hk4,LD];exact q1,by rw[hk4,LD,QnE h.q h1 h2 h3,h.tr]⟩,by have:=Qic h.q.prune hp h3;omega⟩,fun h3=>(QkD h.q.prune hp h3).1⟩
theorem QdC.a(h:QdC nm pa va n fs gs)(e2:oT.map bz.k=gs.map bz.k)(h1:Ds (qN (gs.map bz.k) n) (gs.map bz.k)=false)(h2:sW (oT.map bz.k)=false)(LD:nE.map bz.k=kg (oT.map bz.k))(h3:jnT (nE.map bz.k)=false)(e4:gs4.map bz.k=nE.map bz.k)(hk5:gs5.map bz.k=agK (gs4.map bz.k)):(agT (gs4.map bz.k)=true→QdC nm pa va n fs gs5∧wT (gs5.map bz.k)<wT (gs.map bz.k))∧(agT (gs4.map bz.k)=false→gs5.map bz.k=Qfj va fs∧vU nm pa va (gs5.map bz.k)∧EJ (gs5.map bz.k)∧(hY (fK (gs5.map bz.k)):Int)≤20000):=by
 rw[e4]at hk5⊢;rw[e2]at LD h2;rw[LD]at hk5 h3⊢;have hp:=(yn h.q.UH).2;have hw0:=Qbt (gs.map bz.k);refine⟨fun h4=>⟨⟨by rw[hk5];exact h.q.prune.ag,by rw[hk5,QlH h.q h1 h2 h3 h4,h.tr]⟩,by rw[hk5];have:=QmA h4;omega⟩,fun h4=> ?_⟩;rw[hk5,Qmx h4];exact⟨by rw[←h.tr,QlI h1 h2 h3 h4],h.q.prune.UH,hp,h.q.prune.size⟩
theorem QlS(hk:gs.map bz.k=Qfj va fs)(hg:vU nm pa va (gs.map bz.k))(ht:EJ (gs.map bz.k))(Ut:Yi (gs.map bz.k) fd):ec fd (Qbk va fs):=by
 have h:=Qf9 hg ht Ut (Qf8 (Qh7 gs));unfold Qbk;rw[←hk];exact h
end
end Go.Mor
namespace Go.Mor
open Go.RowKit
def ix2(k a:Nat):Nat:=if a<k then a else a-1
def ki{α:Type}(l:List α)(k a:Nat):List α:=(l.eraseIdx k).eraseIdx (ix2 k a)
theorem QmK{α:Type}{l:List α}{k a:Nat}(cU:k≠a):(l.eraseIdx k)[ix2 k a]?=l[a]?:=by
 unfold ix2;by_cases h:a<k
 ·rw[dd h,List.getElem?_eraseIdx,dd h]
 ·rw[QcA h,List.getElem?_eraseIdx,QcA oM];congr 1;omega
theorem Mem.QnF{S:Nat→Prop}{w0 w:World}{l L:List bo}{r s:bo}{k a:Nat}(h:Mem S w0 w (.pk l::L))(hk:l[k]?=some r)(ha:l[a]?=some s)(cU:k≠a):Mem S w0 w (r::s:: .pk (ki l k a)::L):=by
 have h1:=(h.Jb k hk).perm (Qjw ..);have h2:=h1.Jb (ix2 k a) (by rw[QmK cU];exact ha);exact h2.perm ((List.Perm.cons _ (Qjw ..)).trans (Qjw ..))
theorem Qk6{α:Type}{l:List α}{k a:Nat}(v:α)(cU:k≠a):(l.eraseIdx k).set (ix2 k a) v=(l.set a v).eraseIdx k:=by
 unfold ix2;by_cases h:a<k
 ·rw[dd h,List.eraseIdx_set_gt h]
 ·rw[QcA h,List.eraseIdx_set_lt oM]
theorem Mem.Qk7{S:Nat→Prop}{w0 w:World}{l L:List bo}{r s:bo}{k a:Nat}(h:Mem S w0 w (r::s:: .pk (ki l k a)::L))(hk:k<l.length)(ha:a<l.length)(cU:k≠a):Mem S w0 w (.pk ((l.set a s).set k r)::L):=by
 have h1:Mem S w0 w (s:: .pk (ki l k a)::r::L):=h.perm ((Qjw ..).trans (List.Perm.cons _ (Qjw ..)));have h2:=h1.PE (l:=l.eraseIdx k) (by rw[List.length_eraseIdx,dd hk];unfold ix2;split<;>omega);rw[Qk6 s cU]at h2;exact(h2.perm (Qjw ..)).PE (by rw[u6];exact hk)
def tt(a k:Int)(p:cI):cI:={p with from_:=p.from_.map (oH a k)}
def Qfl(a k:Int)(x:bz):bz:={x with ah:=x.ah.map (tt a k)}
def XO(b x:bz)(A:aX)(c:Nat):bz:={b with iA:=A,ic:=c,insts:=b.insts++x.insts,e:=x.e,v:=x.v,a:=x.a,b:=x.b}
def QdD(gs:List bz)(k a:Nat)(b x:bz)(A:aX)(c:Nat):List bz:=(gs.set a (Oa x)).set k (XO b x A c)
def rU(a k:Int)(l:ar)(gs:List bz):List bz:=gs.zipIdx.map (fun q=>if(q.2:Int)∈l then Qfl a k q.1 else q.1)
section
variable {a k : Int} {l : List Int} {gs : List bz} {t j : Nat} {y : bz} {S : List (List Int)} {r : List Int}
theorem SN:(rU a k l gs).length=gs.length:=by simp[rU]
theorem Jx(h:gs[t]?=some y):(rU a k l gs)[t]?=some (if(t:Int)∈l then Qfl a k y else y):=by
 unfold rU;rw[List.getElem?_map,List.getElem?_zipIdx,h];simp
theorem Qk8:rU a k [] gs=gs:=by
 refine QdX fun i=> ?_
 cases h:gs[i]? with
 |none=>rw[List.getElem?_eq_none (by rw[SN];exact List.getElem?_eq_none_iff.1 h)]
 |some y=>rw[Jx h,QcA sI]
theorem QlT:QfG a k [] S=S:=by
 refine QdX fun i=> ?_
 cases h:S[i]? with
 |none=>rw[List.getElem?_eq_none (by rw[TI];exact List.getElem?_eq_none_iff.1 h)]
 |some y=>rw[QcJ h,QcA sI]
theorem Qkq(hn:l.Nodup)(hj:l[j]?=some (t:Int))(hy:gs[t]?=some y):(rU a k (l.take j) gs)[t]?=some y∧(rU a k (l.take j) gs).set t (Qfl a k y)=rU a k (l.take (j+1)) gs:=by
 have Zz:=Qfd hn hj;refine⟨by rw[Jx hy,QcA Zz],QdX fun i=> ?_⟩;obtain⟨hl,he⟩:=List.getElem?_eq_some_iff.1 hj;rw[List.getElem?_set,SN];by_cases e:t=i
 ·subst e;rw[dd rfl,dd (List.getElem?_eq_some_iff.1 hy).1,Jx hy,dd (by rw[QjK hl,he];simp)]
 ·rw[QcA e];cases h:gs[i]? with
  |none=>rw[List.getElem?_eq_none (by rw[SN];exact List.getElem?_eq_none_iff.1 h),List.getElem?_eq_none (by rw[SN];exact List.getElem?_eq_none_iff.1 h)]
  |some z=>
   rw[Jx h,Jx h];have:((i:Int)∈l.take (j+1))↔(i:Int)∈l.take j:=by rw[QjK hl,he,QiU,QcC];exact⟨fun h=>h.elim id fun h=>absurd h oM,.inl⟩
   simp only[this]
theorem Qk9(hn:l.Nodup)(hj:l[j]?=some (t:Int))(hr:S[t]?=some r):(QfG a k (l.take j) S)[t]?=some r∧(QfG a k (l.take j) S).set t (r.map (oH a k))=QfG a k (l.take (j+1)) S:=by
 have Zz:=Qfd hn hj;refine⟨by rw[QcJ hr,QcA Zz],QdX fun i=> ?_⟩;obtain⟨hl,he⟩:=List.getElem?_eq_some_iff.1 hj;rw[List.getElem?_set,TI];by_cases e:t=i
 ·subst e;rw[dd rfl,dd (List.getElem?_eq_some_iff.1 hr).1,QcJ hr,dd (by rw[QjK hl,he];simp)]
 ·rw[QcA e];cases h:S[i]? with
  |none=>rw[List.getElem?_eq_none (by rw[TI];exact List.getElem?_eq_none_iff.1 h),List.getElem?_eq_none (by rw[TI];exact List.getElem?_eq_none_iff.1 h)]
  |some z=>
   rw[QcJ h,QcJ h];have:((i:Int)∈l.take (j+1))↔(i:Int)∈l.take j:=by rw[QjK hl,he,QiU,QcC];exact⟨fun h=>h.elim id fun h=>absurd h oM,.inl⟩
   simp only[this]
theorem QnG{α:Type}{f:α→α}{l:List α}{j:Nat}{x:α}(hx:l[j]?=some x)(h:f x=x):mix f l (j+1)=mix f l j:=by
 have h2:=QcB (f:=f) hx;rw[h]at h2;rw[←h2];exact Qe0 (Qcc hx)
theorem QmL{l:ar}{a k:Int}{i:Nat}(hn:l.Nodup)(hi:l[i]?=some a):l.set i k=l.map (oH a k):=by
 refine QdX fun j=> ?_
 rw[List.getElem?_set,List.getElem?_map];by_cases e:i=j
 ·subst e;rw[dd rfl,dd (List.getElem?_eq_some_iff.1 hi).1,hi];show _=some (oH a k a);unfold oH;rw[dd rfl]
 ·rw[QcA e];cases h:l[j]? with
  |none=>rfl
  |some c=>
   have cU:c≠a:=by rintro rfl;exact e ((List.getElem?_inj (List.getElem?_eq_some_iff.1 hi).1 hn).1 (hi.trans h.symm))
   show _=some (oH a k c);rw[QcF cU]
theorem QmM{l:ar}{a:Int}(h:a∈l):∃i:Nat,nH (fun x=>x==a) l=(i:Int)∧l[i]?=some a∧i<l.length:=by
 unfold nH;cases hf:l.findIdx? (fun x=>x==a)with
 |none=>
  rw[List.findIdx?_eq_none_iff]at hf;have:=hf a h;simp at this
 |some i=>
  obtain⟨h1,h2,_⟩:=List.findIdx?_eq_some_iff_getElem.1 hf;refine⟨i,rfl,?_,h1⟩;rw[List.getElem?_eq_getElem h1];exact Qi9 some (by simpa using h2)
theorem QmN(l:List cI)(m:Nat):zc (mix (tt a k) l m)=zc l:=by
 unfold zc mix;rw[Qi0];have e:((l.take m).map (tt a k)).flatMap cI.cells=(l.take m).flatMap cI.cells:=by rw[Oc];refine Qi9 (fun f=>(l.take m).flatMap f) (funext fun p=> ?_);unfold tt cI.cells;simp
 rw[e,←Qi0,xK]
end
section
variable {nm : ByteArray} {pa va : Int} {n k a : Nat} {s : JS} {gs : List bz} {b x y : bz}
theorem Qek(h:gs.map bz.k=s.ks)(hb:gs[k]?=some b):s.ks[k]?=some b.k∧xe s.ks k=b.k:=by
 have:s.ks[k]?=some b.k:=by rw[←h,List.getElem?_map,hb];rfl
 exact⟨this,Qf6 this⟩
theorem QnH(h:gs.map bz.k=s.ks){z:gO}(hz:s.ks[k]?=some z):∃b,gs[k]?=some b∧b.k=z:=by
 rw[←h,List.getElem?_map,Jo]at hz;exact hz
theorem QmO(h:gs.map bz.k=s.ks)(hb:gs[k]?=some b)(hg:b.gone=true):¬I5 s k:=fun hc=>by
 have h1:=hc.1;rw[(Qek h hb).2]at h1;exact Bool.noConfusion (h1.symm.trans hg)
theorem QoZ(h:gs.map bz.k=s.ks)(hb:gs[k]?=some b)(he:b.e≠0):¬I5 s k:=fun hc=>by
 have h1:=hc.2.1;rw[(Qek h hb).2]at h1;exact he h1
theorem Qom(h:JI nm pa va n s)(hk:gs.map bz.k=s.ks)(hb:gs[k]?=some b)(he:b.e=0):∃(a:Nat) (x:bz) (r:ar),b.a=(a:Int)∧gs[a]?=some x∧x.gone=false∧UO s k=a∧s.S[a]?=some r:=by
 obtain⟨h1,h2⟩:=Qek hk hb;have ht:b.a∈tK s.ks (k:Int):=by rw[h.q.vj h1];unfold wL;rw[dd (show b.k.e=0 from he)];show b.a∈[b.a];simp
 obtain⟨a,z,hae,hz,BB⟩:=h.q.live ht;obtain⟨x,hx,rfl⟩:=QnH hk hz;obtain⟨r,hr⟩:=bu (l:=s.S) (i:=a) (by rw[h.sl,←h.len];exact(List.getElem?_eq_some_iff.1 hz).1);exact⟨a,x,r,hae,hx,BB,by unfold UO;rw[h2];show b.a.toNat=a;omega,hr⟩
theorem QnI{r:ar}(hg:UO s k=a)(hr:s.S[a]?=some r)(hl:r.length≠1∨a=k):¬I5 s k:=fun hc=>by
 obtain⟨_,_,h3,h4,_⟩:=hc;rw[hg]at h3 h4;rw[List.getD_eq_getElem?_getD,hr]at h3;rcases hl with hl|hl
 ·exact hl h3
 ·exact h4 hl
theorem QnJ{r:ar}(hk:gs.map bz.k=s.ks)(hb:gs[k]?=some b)(hgb:b.gone=false)(he:b.e=0)(hg:UO s k=a)(hr:s.S[a]?=some r)(hl:r.length=1)(cU:a≠k)(hx:gs[a]?=some x)(uC:x.gone=false):I5 s k:=by
 refine⟨by rw[(Qek hk hb).2];exact hgb,by rw[(Qek hk hb).2];exact he,?_,by rw[hg];exact cU,by rw[hg,(Qek hk hx).2];exact uC⟩;rw[hg,List.getD_eq_getElem?_getD,hr];exact hl
theorem QmP(h:JI nm pa va n s)(hk:gs.map bz.k=s.ks)(hx:x∈gs)(hg:x.gone=false):O9 (n:Int) x.k:=by
 have hm:x.k∈s.ks:=by rw[←hk];exact jd.2 ⟨x,hx,rfl⟩
 have h1:=h.q.UH.UT.ends (BC s.sg x.k) (jd.2 ⟨x.k,hm,rfl⟩) hg;have hl:(um s.sg s.ks).length=n:=by unfold um;rw[QjN,h.len]
 rw[hl]at h1;have e0:(BC s.sg x.k).e=x.k.e:=rfl;have hv:¬xL x.k.e x.k.v→(BC s.sg x.k).v=x.k.v:=fun hr=>QcA hr
 unfold O9 at h1⊢;rcases h1 with⟨e,h2,h3,h4⟩|h1|h1|⟨e,h2,h3,h4⟩
 ·rw[hv (by unfold xL;omega)]at h3;exact .inl ⟨e,h2,h3,h4⟩
 ·exact .inr (.inl h1)
 ·exact .inr (.inr (.inl h1))
 ·rw[hv (by unfold xL;omega)]at h3;exact .inr (.inr (.inr ⟨e,h2,h3,h4⟩))
structure DoQ(nm:cV)(pa va:Int)(n:Nat)(s:JS)(gs:List bz)(k a:Nat)(b x:bz):Prop where
 ji:JI nm pa va n s
 hk:gs.map bz.k=s.ks
 hb:gs[k]?=some b
 hx:gs[a]?=some x
 go:UO s k=a
 can:I5 s k
theorem DoQ.q(h:DoQ nm pa va n s gs k a b x):Qmt s.ks k a b.k x.k:=by
 have:=h.ji.can h.can;rw[h.go,(Qek h.hk h.hb).2,(Qek h.hk h.hx).2]at this;exact this
theorem DoQ.doS(h:DoQ nm pa va n s gs k a b x):doJ s k=⟨Qc9 s.ks k a x.k,QfG a k (wL x.k) s.S,Qkl s.sg x.k,true⟩:=by
 unfold doJ;rw[h.go,(Qek h.hk h.hx).2]
theorem DoQ.ta(h:DoQ nm pa va n s gs k a b x):tK s.ks (a:Int)=wL x.k:=h.ji.q.vj (Qek h.hk h.hx).1
theorem DoQ.xg(h:DoQ nm pa va n s gs k a b x):x.gone=false:=by
 have:=h.can.2.2.2.2;rw[h.go,(Qek h.hk h.hx).2]at this;exact this
theorem DoQ.not(h:DoQ nm pa va n s gs k a b x):(a:Int)∉wL x.k:=fun hm=>by
 have:=h.q.src (a:Int) (by rw[h.ta];exact hm);have:=h.q.ne;omega
theorem DoQ.yW(h:DoQ nm pa va n s gs k a b x):(wL x.k).Nodup∧∀t,t∈wL x.k→0≤t∧t<(n:Int):=Qea (QmP h.ji h.hk (Qcs h.hx) h.xg)
theorem DoQ.gl(h:DoQ nm pa va n s gs k a b x):gs.length=n:=by rw[←h.ji.len,←h.hk,QjN]
theorem QkI(h:DoQ nm pa va n s gs k a b x){t:Nat}{y:bz}(hy:gs[t]?=some y){p:cI}(hp:p∈y.ah):p.from_.Nodup∧p.from_.length≤n∧((a:Int)∈p.from_↔(t:Int)∈wL x.k):=by
 have hyk:=(Qek h.hk hy).1;have hpk:QcG s.sg p.k∈(BC s.sg y.k).ah:=jd.2 ⟨p.k,jd.2 ⟨p,hp,rfl⟩,rfl⟩;have hP:=h.ji.q.UH.pK t _ (Qbn hyk) _ hpk;have hS:=h.ji.q.tight.bS t _ (Qbn hyk) _ hpk (a:Int);have hA:=hP.all (a:Int);rw[QfF,h.ta]at hS hA;refine⟨hP.nd,?_,hS,hA⟩;have hl:(um s.sg s.ks).length=n:=by unfold um;rw[QjN,h.ji.len]
 rw[←hl];exact Qem hP.nd hP.yW
theorem DoQ.at1(h:DoQ nm pa va n s gs k a b x)(A:aX)(c:Nat){t:Nat}(ht:(t:Int)∈wL x.k):∃y z,gs[t]?=some y∧(QdD gs k a b x A c)[t]?=some z∧z.ah=y.ah∧z.g=y.g:=by
 have hta:t≠a:=by rintro rfl;exact h.not ht
 obtain⟨y,hy⟩:=bu (l:=gs) (i:=t) (by rw[h.gl];have:=h.yW.2 _ ht;omega);unfold QdD;by_cases e:k=t
 ·subst e;rw[h.hb]at hy;injection hy with hy;subst hy;exact⟨b,_,h.hb,List.getElem?_set_self (by rw[u6];exact(List.getElem?_eq_some_iff.1 h.hb).1),rfl,rfl⟩
 ·exact⟨y,y,hy,by rw[List.getElem?_set_ne e,List.getElem?_set_ne (fun e=>hta e.symm)];exact hy,rfl,rfl⟩
theorem QkJ(h:DoQ nm pa va n s gs k a b x)(A:aX)(c:Nat):(rU a k (wL x.k) (QdD gs k a b x A c)).map bz.k=(doJ s k).ks∧(rU a k (wL x.k) (QdD gs k a b x A c)).map (fun x=>x.g)=gs.map (fun x=>x.g):=by
 rw[h.doS];have hq:=h.q;have cU:=hq.ne;have Jm:=(List.getElem?_eq_some_iff.1 h.hb).1;have Vh:=(List.getElem?_eq_some_iff.1 h.hx).1;have Jp:(QdD gs k a b x A c).length=gs.length:=by unfold QdD;rw[u6,u6]
 have X7:∀{t:Nat} {y:bz},gs[t]?=some y→(t:Int)∉wL x.k→∀p,p∈y.ah→tt a k p=p:=fun {t y} hy hn p hp=>by
  obtain⟨_,_,h3⟩:=QkI h hy hp;have hna:(a:Int)∉p.from_:=fun hm=>hn (h3.1 hm)
  unfold tt;have:p.from_.map (oH a k)=p.from_:=(Qch fun(c:Int) hc=>QcF (fun(e:c=(a:Int))=>hna (by rw[←e];exact hc))).trans (Qbi p.from_);rw[this]
 have QlB:∀{t:Nat} {y:bz},gs[t]?=some y→(if(t:Int)∈wL x.k then y.ah.map (tt a k)else y.ah)=y.ah.map (tt a k):=fun {t y} hy=>by
  by_cases hm:(t:Int)∈wL x.k
  ·rw[dd hm]
  ·rw[QcA hm];exact((Qch fun p hp=>X7 hy hm p hp).trans (Qbi y.ah)).symm
 have hpk:∀l:List cI,(l.map (tt a k)).map cI.k=(l.map cI.k).map (QeA a k):=fun l=>by rw[Qcn,Qcn];rfl
 constructor
 ·refine QdX fun i=> ?_
  rw[List.getElem?_map];by_cases hi:i<gs.length
  ·obtain⟨y,hy⟩:=bu (l:=gs) hi;by_cases ea:i=a
   ·subst ea;rw[h.hx]at hy;injection hy with hy;subst hy;have e1:(QdD gs k i b x A c)[i]?=some (Oa x):=by unfold QdD;rw[List.getElem?_set_ne cU,List.getElem?_set_self Vh]
    rw[Jx e1,QcA h.not];exact(Qe1 hq.hx cU).symm
   ·by_cases ek:i=k
    ·subst ek;rw[h.hb]at hy;injection hy with hy;subst hy;have e1:(QdD gs i a b x A c)[i]?=some (XO b x A c):=by unfold QdD;rw[List.getElem?_set_self (by rw[u6];exact Jm)]
     rw[Jx e1];refine Eq.trans ?_ (Qde hq.hb hq.hx cU).symm;rw[s9];congr 1;have h2:=QlB h.hb;have e2:bz.k (if(i:Int)∈wL x.k then Qfl a i (XO b x A c)else XO b x A c)=⟨(if(i:Int)∈wL x.k then b.ah.map (tt a i)else b.ah).map cI.k,(b.insts++x.insts).map aO.e0,x.e,x.v,x.a,x.b,b.gone⟩:=by split<;>rfl
     rw[e2,h2,hpk,Qjy];rfl
    ·have e1:(QdD gs k a b x A c)[i]?=some y:=by unfold QdD;rw[List.getElem?_set_ne (fun e=>ek e.symm),List.getElem?_set_ne (fun e=>ea e.symm)];exact hy
     rw[Jx e1];refine Eq.trans ?_ (Qe2 (Qek h.hk hy).1 ek ea).symm;rw[s9];congr 1;have h2:=QlB hy;have e2:bz.k (if(i:Int)∈wL x.k then Qfl a k y else y)=⟨(if(i:Int)∈wL x.k then y.ah.map (tt a k)else y.ah).map cI.k,y.insts.map aO.e0,y.e,y.v,y.a,y.b,y.gone⟩:=by split<;>rfl
     rw[e2,h2,hpk];rfl
  ·rw[List.getElem?_eq_none (by rw[SN,Jp];omega),List.getElem?_eq_none (by show(Qc9 s.ks k a x.k).length≤i;rw[QcI,←h.hk,QjN];omega)];rfl
 ·refine QdX fun i=> ?_
  rw[List.getElem?_map,List.getElem?_map];by_cases hi:i<gs.length
  ·obtain⟨y,hy⟩:=bu (l:=gs) hi;obtain⟨z,hz,hg⟩:∃z,(QdD gs k a b x A c)[i]?=some z∧z.g=y.g:=by
    unfold QdD;by_cases ek:k=i
    ·subst ek;rw[h.hb]at hy;injection hy with hy;subst hy;exact⟨_,List.getElem?_set_self (by rw[u6];exact Jm),rfl⟩
    ·rw[List.getElem?_set_ne ek];by_cases ea:a=i
     ·subst ea;rw[h.hx]at hy;injection hy with hy;subst hy;exact⟨_,List.getElem?_set_self Vh,rfl⟩
     ·exact⟨y,by rw[List.getElem?_set_ne ea];exact hy,rfl⟩
   rw[Jx hz,hy,s9,s9];congr 1;rw[←hg];split<;>rfl
  ·rw[List.getElem?_eq_none (by rw[SN,Jp];omega),List.getElem?_eq_none oM]
end
end Go.Mor
namespace Go.Mor
open Go.RowKit
theorem QmQ{σ:Int→Int}{p:vb}{u:Int}(h:p.args=[u]):stJ σ p=link σ p.dst (σ u):=by unfold stJ;rw[h];rfl
theorem QmR{s:JS}{k:Nat}(h:I5 s k):(xe (doJ s k).ks k).gone=false:=by
 obtain⟨hb,hx,cU⟩:=Qib h;have:(doJ s k).ks[k]?=_:=Qde hb hx cU;rw[Qf6 this];exact h.1
theorem Qkr{va:Int}{n:Nat}(hn:va=(n:Int)):Le va (Te va) (gD (List.range n)) id:=Qlu hn fun v hv=>hv
theorem QmS(l m:List aO):zL (l++m)=zL l++zL m:=by simp[zL]
theorem QmT(l:List aO):∀u∈zL l,u.oneCell'=true:=by
 intro u hu;obtain⟨i,_,hu⟩:=pZ.1 hu;unfold aO.cells at hu;simp only[Qcx,QjD,Qck]at hu;rcases hu with rfl|rfl|rfl|rfl|rfl<;>simp[Value.oneCell']
theorem QmU(l:List aO):(zL l).length=l.length*5:=hX (f:=aO.cells) (k:=5) gI l
theorem QnK(a k:Int)(z:bz):gL (Qfl a k z)=[.au z.g 65 (gV z),s3 z.pA z.pc z.ah,dJ z.iA z.ic z.insts,.pk ((z.ah.map (tt a k)).map fz),.pk (z.ah.map fj),.pk (z.insts.map de)]:=by
 have e1:zc (z.ah.map (tt a k))=zc z.ah:=by have:=QmN (a:=a) (k:=k) z.ah z.ah.length;rwa [Qb8 (Qjn _)]at this
 have e2:(z.ah.map (tt a k)).map fj=z.ah.map fj:=by rw[Qcn];rfl
 show[bo.au z.g _ [.slice z.pA (z.ah.map (tt a k)).length z.pc,_,_,_,_,_,_],.row _ 3 z.pA (z.ah.map (tt a k)).length z.pc (zc (z.ah.map (tt a k))),_,_,.pk ((z.ah.map (tt a k)).map fj),_]=_;rw[e1,e2,QjN];rfl
theorem QnL(σ:Int→Int)(gs:List bz):(gs.map (r2 σ)).map bz.k=um σ (gs.map bz.k):=by
 unfold um;rw[Qcn,Qcn];refine Qch fun x _=> ?_
 show(r2 σ x).k=BC σ x.k;unfold r2 BC bz.k;simp only[Qcn,gO.mk.injEq,pQ,D2];refine⟨rfl,rfl,?_⟩;by_cases h:Li x
 ·rw[dd h,dd (show xL x.e x.v from h)]
 ·rw[QcA h,QcA (show¬xL x.e x.v from h)]
theorem QlU{rows:List fJ}{t:Nat}{A:aX}{n c:Nat}{xs ys:aW}(h:rows[t]?=some ⟨A,n,c,xs⟩):fq (rows.set t ⟨A,n,c,ys⟩)=fq rows:=by
 rw[Ef];exact Qe0 (by have h9:=ia h;exact h9)
def Qla(s:JS):Prop:=∀(t:Nat) (r:ar),s.S[t]?=some r→r.length≤1000
theorem Qks{ks:List gO}(h:ks.length≤1000):Qla (q6 ks):=by
 intro t r hr;have hr:(Qge ks)[t]?=some r:=hr;have ht:=(List.getElem?_eq_some_iff.1 hr).1;rw[QgE]at ht;rw[Qfc ht]at hr;injection hr with hr;subst hr;exact pX (Qfb ks _) h
theorem Qla.step{s:JS}(h:Qla s)(k:Nat):Qla (doJ s k):=by
 intro t r hr;have hr:(QfG _ _ _ s.S)[t]?=some r:=hr;obtain⟨r0,Fc⟩:=bu (l:=s.S) (i:=t) (by have:=(List.getElem?_eq_some_iff.1 hr).1;rwa [TI]at this);rw[QcJ Fc]at hr;injection hr with hr;have:=h t r0 Fc;rw[←hr];split
 ·rw[QjN];exact this
 ·exact this
section
variable {nm : ByteArray} {pa va : Int} {n : Nat} {s : JS} {gs : List bz}
theorem QnM(h:JI nm pa va n s)(hk:gs.map bz.k=s.ks)(hn:n≤1000):∀x,x∈gs→Qnf (Te va) x:=by
 intro x hx;have hm:x.k∈s.ks:=by rw[←hk];exact jd.2 ⟨x,hx,rfl⟩
 obtain⟨i,hi⟩:=jF.1 hm;have hl:=Qce (by rw[hk];exact h.q.size) hx;have hg:=h.q.UH;have hul:(um s.sg s.ks).length=n:=by unfold um;rw[QjN,h.len]
 refine⟨hl.1,hl.2,fun p hp=> ?_,fun j hj=> ?_,fun hh=>h.q.er x.k hm hh⟩
 ·have hpk:p.k∈x.k.ah:=jd.2 ⟨p,hp,rfl⟩;have hP:=hg.pK i _ (Qbn hi) (QcG s.sg p.k) (jd.2 ⟨p.k,hpk,rfl⟩);have h1:(p.args.map s.sg).length=p.from_.length:=hP.len;rw[QjN]at h1;have h2:p.from_.length≤(um s.sg s.ks).length:=Qem hP.nd hP.yW;exact⟨oM,fun u hu=>h.q.pr x.k hm p.k hpk u hu⟩
 ·have hjk:j.e0∈x.k.insts:=jd.2 ⟨j,hj,rfl⟩;have Ss:=(hg.Xv (BC s.sg x.k) (jd.2 ⟨x.k,hm,rfl⟩) (QeZ s.sg j.e0) (jd.2 ⟨j.e0,hjk,rfl⟩)).2;have Vh:(QeZ s.sg j.e0).args.length=j.args.length:=by show(j.args.map s.sg).length=_;rw[QjN]
  exact⟨oM,fun u hu=>h.q.ir x.k hm j.e0 hjk u hu⟩
theorem Qlb(h:Pf (gs.map bz.k)):∀x,x∈gs→QgT (gs.length:Int) x.k:=fun x hx hg=>by
 have:=h.ends x.k (jd.2 ⟨x,hx,rfl⟩) hg;rwa [QjN]at this
end
end Go.Mor
namespace Go.Mor
open Go.RowKit
def vM(l:List (Int×Int)):List (Int×Value):=l.map (fun p=>(p.1,vI p.2))
theorem QnN(l:List (Int×Int))(s:Int):lkp (vM l) s=(lkp l s).map vI:=by
 induction l with
 |nil=>rfl
 |cons x r ih=>
  obtain⟨k,v⟩:=x;show lkp ((k,vI v)::vM r) s=_;unfold lkp;cases s==k with
  |true=>rfl
  |false=>exact ih
theorem QnO(l:List (Int×Int))(s v:Int):upk (vM l) s (vI v)=vM (upk l s v):=by
 induction l with
 |nil=>rfl
 |cons x r ih=>
  obtain⟨k,u⟩:=x;show upk ((k,vI u)::vM r) s _=_;unfold upk;cases s==k with
  |true=>rfl
  |false=>show _::upk (vM r) s _=_;rw[ih];rfl
theorem Qon(l:List (Int×Int))(s:Int):lkV false (lkp (vM l) s) (vI 0)=vI ((lkp l s).getD 0):=by
 rw[QnN];unfold lkV;cases lkp l s<;>rfl
theorem QkK(l:List (Int×Int))(s v t:Int):lkp (upk l s v) t=if t=s then some v else lkp l t:=by
 induction l with
 |nil=>
  unfold upk lkp;by_cases h:t=s
  ·subst h;simp
  ·have:(t==s)=false:=by simpa using h
   rw[this,QcA h];rfl
 |cons x r ih=>
  obtain⟨k,u⟩:=x;unfold upk;cases hk:s==k with
  |true=>
   have e:s=k:=by simpa using hk
   subst e;simp only[lkp];cases ht:t==s with
   |true=>rw[dd (by simpa using ht)]
   |false=>rw[QcA (by simpa using ht)]
  |false=>
   simp only[lkp];cases ht:t==k with
   |true=>
    have e:t=k:=by simpa using ht
    subst e;have:¬t=s:=fun e=>by rw[e]at hk;simp at hk
    rw[QcA this]
   |false=>exact ih
def QcM(h:List (Int×Int))(v:Int):Int:=(lkp h v).getD 0
def rI(l:List aO):List (Int×Int):=l.foldl (fun h i=>if i.op=11 then upk h (QfH i) (QcM h (QfH i)+1)else h) []
section
variable {l : List aO} {j : Nat} {i : aO} {a : Int} {Q : Int → Prop} {f g : Int → Int} {k : Int} {R : List Int}
theorem QlV(hi:l[j]?=some i)(h:i.op≠11):rI (l.take (j+1))=rI (l.take j):=by
 unfold rI;rw[uh _ _ hi,QcA h]
theorem QmV(hi:l[j]?=some i)(h:i.op=11)(ha:i.args=[a]):rI (l.take (j+1))=upk (rI (l.take j)) a (QcM (rI (l.take j)) a+1):=by
 have e:=XN ha;unfold rI;rw[uh _ _ hi,dd h,e]
theorem LB{v:Int}(hi:l[j]?=some i):Qc7 (l.take (j+1)) v↔Qc7 (l.take j) v∨(i.op=11∧QfH i=v):=by
 obtain⟨q1,q2⟩:=List.getElem?_eq_some_iff.1 hi;unfold Qc7;rw[QjK q1,q2];constructor
 ·rintro⟨c,hc,h1,h2⟩;rcases QiU.1 hc with hc|hc
  ·exact .inl ⟨c,hc,h1,h2⟩
  ·rw[QcC.1 hc]at h1 h2;exact .inr ⟨h1,h2⟩
 ·rintro(⟨c,hc,h⟩|h)
  ·exact⟨c,Qi6 _ hc,h⟩
  ·exact⟨i,sI,h⟩
theorem QiD(l:List aO):∀(j:Nat),j≤l.length→∀v:Int,0≤QcM (rI (l.take j)) v∧QcM (rI (l.take j)) v≤(j:Int)∧(0<QcM (rI (l.take j)) v↔Qc7 (l.take j) v)
 |0,_,v=>by
  refine⟨QiS _,QiS _,?_⟩;constructor
  ·intro h;exact absurd (show(0:Int)<0 from h) dQ
  ·rintro⟨c,hc,_⟩;simp at hc
 |j+1,hj,v=>by
  obtain⟨i,hi⟩:=bu (l:=l) (i:=j) oM;obtain⟨h1,h2,h3⟩:=QiD l j oM v;rw[LB hi];by_cases ho:i.op=11
  ·have e:QcM (rI (l.take (j+1))) v=if v=QfH i then QcM (rI (l.take j)) (QfH i)+1 else QcM (rI (l.take j)) v:=by unfold rI;rw[uh _ _ hi,dd ho];show(lkp (upk _ _ _) v).getD 0=_;rw[QkK];split<;>rfl
   rw[e];by_cases hv:v=QfH i
   ·subst hv;rw[dd rfl];exact⟨oM,oM,fun _=> .inr ⟨ho,rfl⟩,fun _=>oM⟩
   ·rw[QcA hv];exact⟨h1,oM,fun h=> .inl (h3.1 h),fun h=>h.elim h3.2 fun h=>absurd h.2.symm hv⟩
  ·rw[QlV hi ho];exact⟨h1,oM,fun h=> .inl (h3.1 h),fun h=>h.elim h3.2 fun h=>absurd h.1 ho⟩
def abQ(f g:Int→Int)(k a:Int):Bool:=decide (a≠k∧dH f g a k)
theorem QmW(hi:l[j]?=some i)(h:i.op≠11):gH Q l j=false:=by
 cases hs:gH Q l j with
 |false=>rfl
 |true=>
  obtain⟨c,hc,h1,_⟩:=Cl.1 hs;rw[hi]at hc;injection hc with hc;subst hc;exact absurd h1 h
theorem QlW(hi:l[j]?=some i)(h:i.op=11)(ha:i.args=[a])(hR:R.any (abQ f g k)=true↔Q a):gH Q l j=(decide (QcM (rI (l.take j)) a+1>1)||R.any (abQ f g k)):=by
 have hl:=(List.getElem?_eq_some_iff.1 hi).1;obtain⟨h1,_,h3⟩:=QiD l j oM a;rw[xJ,Cl,QiZ,decide_eq_true_iff,hR];constructor
 ·rintro⟨c,hc,_,h2⟩;rw[hi]at hc;injection hc with hc;subst hc;rw[XN ha]at h2;rcases h2 with h2|h2
  ·exact .inr h2
  ·exact .inl (by have:=h3.2 h2;omega)
 ·intro h2;refine⟨i,hi,h,?_⟩;rw[XN ha];rcases h2 with h2|h2
  ·exact .inr (h3.1 oM)
  ·exact .inl h2
def Qby(P:Nat→Bool)(j:Nat):Bool:=(List.range j).any P
theorem Qlc(P:Nat→Bool):Qby P 0=false:=rfl
theorem QdB(P:Nat→Bool)(j:Nat):Qby P (j+1)=(Qby P j||P j):=by
 unfold Qby;rw[lh,QjB];simp
def Qel(P:Nat→Bool)(n:Nat):Int:=match(List.range n).findIdx? P with
 |some i=>(i:Int)
 |none=> -1
def QfY(P:Nat→Bool)(n:Nat):Nat:=match(List.range n).findIdx? P with
 |some i=>i+1
 |none=>n
variable {P : Nat → Bool} {n : Nat}
theorem Qhg(hn:∀i,i<j→P i=false)(hj:j<n)(hp:P j=true):Qel P n=(j:Int)∧QfY P n=j+1:=by
 have:(List.range n).findIdx? P=some j:=by rw[List.findIdx?_eq_some_iff_getElem];refine⟨by simpa using hj,by simpa using hp,fun i hi=> ?_⟩;have:=hn i hi;simp[this]
 unfold Qel QfY;rw[this];exact⟨rfl,rfl⟩
theorem QfL(hn:∀i,i<n→P i=false):Qel P n= -1∧QfY P n=n:=by
 have:(List.range n).findIdx? P=none:=by rw[List.findIdx?_eq_none_iff];intro i hi;exact hn i (Qi4.1 hi)
 unfold Qel QfY;rw[this];exact⟨rfl,rfl⟩
theorem Qhh(P:Nat→Bool)(n:Nat):(Qel P n= -1∧QfY P n=n∧∀i,i<n→P i=false)∨∃i:Nat,Qel P n=(i:Int)∧QfY P n=i+1∧i<n∧P i=true∧∀j,j<i→P j=false:=by
 cases h:(List.range n).findIdx? P with
 |none=>
  rw[List.findIdx?_eq_none_iff]at h;have hn:∀i,i<n→P i=false:=fun i hi=>h i (Qi4.2 hi)
  exact .inl ⟨(QfL hn).1,(QfL hn).2,hn⟩
 |some i=>
  obtain⟨h1,h2,h3⟩:=List.findIdx?_eq_some_iff_getElem.1 h;rw[Qdc]at h1;rw[List.getElem_range]at h2;have hn:∀j,j<i→P j=false:=fun j hj=>by have:=h3 j hj;simpa using this
  exact .inr ⟨i,(Qhg hn h1 h2).1,(Qhg hn h1 h2).2,h1,h2,hn⟩
theorem Qj6{α:Type}{l:List α}{P:Nat→Bool}(h:Qel P l.length≠-1):∃i:Nat,Qel P l.length=(i:Int)∧QfY P l.length=i+1∧i<l.length∧lj P l (i+1)=l.take i:=by
 rcases Qhh P l.length with⟨h1,_⟩|⟨i,h1,h2,h3,h4,h5⟩
 ·exact absurd h1 h
 ·obtain⟨x,hx⟩:=bu (l:=l) h3;exact⟨i,h1,h2,h3,by rw[QgP hx h4,QcK h5 oM]⟩
theorem Qld{α:Type}{l:List α}{P:Nat→Bool}(h:Qel P l.length= -1):lj P l l.length=l∧QfY P l.length=l.length:=by
 rcases Qhh P l.length with⟨_,h2,h3⟩|⟨i,h1,_⟩
 ·exact⟨by rw[QcK h3 (Qjn _),Qcg],h2⟩
 ·omega
theorem QkL(P:Nat→Bool)(n:Nat): -1≤Qel P n∧Qel P n<(n:Int):=by
 rcases Qhh P n with⟨h,_⟩|⟨i,h,_,h2,_⟩<;>rw[h]<;>omega
theorem Qle{j:Nat}(hn:∀i,i<j→P i=false)(hp:P j=false):∀i,i<j+1→P i=false:=fun i hi=>by
 by_cases h:i=j
 ·rw[h];exact hp
 ·exact hn i oM
theorem Qlf{α:Type}(p:α→Bool)(l:List α):l.any p=decide (QfW p l≥0):=by
 rw[xJ,decide_eq_true_iff];unfold QfW;cases h:l.findIdx? p with
 |none=>
  rw[List.findIdx?_eq_none_iff]at h;constructor
  ·intro h2;obtain⟨x,hx,hp⟩:=Qju.1 h2;rw[h x hx]at hp;cases hp
  ·intro h2;have h3:(-1:Int)≥0:=h2;omega
 |some i=>
  obtain⟨h1,h2,_⟩:=List.findIdx?_eq_some_iff_getElem.1 h;constructor
  ·intro _;show(i:Int)≥0;omega
  ·intro _;exact Qju.2 ⟨_,Qi7 h1,h2⟩
end
end Go.Mor
namespace Go.Mor
open Go.RowKit
def yr(x:ay):bo:= .pk [qE x.pA x.pc x.ah,.pk (x.ah.map di)]
def Qql(y:ay):aX×Nat×List aO:=(y.iA,y.ic,y.insts)
def Qqm(x:bz):aX×Nat×List aO:=(x.iA,x.ic,x.insts)
def liG(gs:List bz):List bz:=gs.filter (fun x=> !x.gone)
section
variable {gs : List bz} {k : Nat} {x : bz}
theorem Qqw(hx:gs[k]?=some x)(h:x.k.gone=true):liG (gs.take (k+1))=liG (gs.take k):=by
 obtain⟨hk,he⟩:=List.getElem?_eq_some_iff.1 hx;have h:x.gone=true:=h;unfold liG;rw[QjK hk,he,xH];simp[h]
theorem Qqn(hx:gs[k]?=some x)(h:x.k.gone=false):liG (gs.take (k+1))=liG (gs.take k)++[x]:=by
 obtain⟨hk,he⟩:=List.getElem?_eq_some_iff.1 hx;have h:x.gone=false:=h;unfold liG;rw[QjK hk,he,xH];simp[h]
end
theorem Qkd{S:Nat→Prop}{w0 w:World}{r:bo}:∀(gs:List bz) (fd ac:List ay),fd.map Qql=(liG gs).map Qqm→Mem S w0 w [.pk (gs.map gB),.pk (fd.map yr),.pk (ac.map bT),r]→Mem S w0 w [.pk ((ac++fd).map bT),r]
 |[],fd,ac,he,h=>by have:fd=[]:=List.map_eq_nil_iff.1 he;subst this;exact(h.od [3,3] 2).cast sI
 |x::gs,fd,ac,he,h=>by
  have h1:=Qp4 [gB x,.pk (gs.map gB),.pk (fd.map yr),.pk (ac.map bT),r] (h.tU);cases hg:x.gone with
  |true=>
   have e:liG (x::gs)=liG gs:=by unfold liG;rw[Qjz,hg];rfl
   rw[e]at he;exact Qkd gs fd ac he (h1.od [4,4,4,4] 4)
  |false=>
   have e:liG (x::gs)=x::liG gs:=by unfold liG;rw[Qjz,hg];rfl
   rw[e]at he;match fd,he,h1 with
   |⟨pA,pc,ah,iA,ic,insts,ye,yv,ya,yb⟩::fd,he,h1=>
    rw[lR,lR]at he;injection he with e1 e2;unfold Qql Qqm at e1;simp only[eh]at e1;obtain⟨rfl,rfl,rfl⟩:=e1;obtain⟨y,hy⟩:∃y:ay,y=⟨pA,pc,ah,x.iA,x.ic,x.insts,ye,yv,ya,yb⟩:=⟨_,rfl⟩;rw[←hy]at h1;have e3:dJ x.iA x.ic x.insts=dJ y.iA y.ic y.insts:=by rw[hy]
    have e4:x.insts.map de=y.insts.map de:=by rw[hy]
    have h2:=Qp4 [.au x.g 65 (gV x),s3 x.pA x.pc x.ah,dJ x.iA x.ic x.insts,.pk (x.ah.map fz),.pk (x.ah.map fj),.pk (x.insts.map de),.pk (gs.map gB),.pk (yr y::fd.map yr),.pk (ac.map bT),r] (Mem.unpack (l:=gL x) h1);have h3:=(h2.od [7] 10).tU;have h4:=Qp4 [qE y.pA y.pc y.ah,.pk (y.ah.map di),.pk (fd.map yr),.au x.g 65 (gV x),s3 x.pA x.pc x.ah,dJ x.iA x.ic x.insts,.pk (x.ah.map fz),.pk (x.ah.map fj),.pk (x.insts.map de),.pk (gs.map gB),.pk (ac.map bT),r] (Mem.unpack (l:=[qE y.pA y.pc y.ah,.pk (y.ah.map di)]) h3);have h5:=h4.od [11,11,4,11,11,6,9,7] 8;rw[e3,e4]at h5;have h6:=(Mem.pack (l:=F9 y) h5).od [4,3,3,3,4] 5;have h7:=h6.kG.od [3,1,3,3] 4;have h8:=Qkd gs fd (ac++[y]) e2 (by rw[Qjy];exact h7)
    rw[xD]at h8;rw[←hy];exact h8
end Go.Mor
namespace Go.Mor
open Go.RowKit
def SI(gs:List bz):List bz:=gs.filter (fun x=> !x.gone)
section
variable {gs : List bz} {x : bz} {j k : Nat}
theorem QlX(gs:List bz):(SI gs).map bz.k=pP (gs.map bz.k):=by
 unfold SI pP;rw[NI];rfl
theorem Qbz:∀{gs:List bz} {j:Nat},(SI gs)[j]?=some x→∃i,gs[i]?=some x∧x.gone=false∧rK (nh (gs.map bz.k)) i=j
 |[],j,h=>by simp[SI]at h
 |y::gs,j,h=>by
  cases hg:y.gone with
  |true=>
   have e:SI (y::gs)=SI gs:=by unfold SI;rw[Qjz,hg];rfl
   rw[e]at h;obtain⟨i,h1,h2,h3⟩:=Qbz h;refine⟨i+1,h1,h2,?_⟩;show rK (y.gone::nh (gs.map bz.k)) (i+1)=j;rw[QbK,hg,h3];simp
  |false=>
   have e:SI (y::gs)=y::SI gs:=by unfold SI;rw[Qjz,hg];rfl
   rw[e]at h;cases j with
   |zero=>
    injection h with h;subst h;exact⟨0,rfl,hg,rfl⟩
   |succ j=>
    obtain⟨i,h1,h2,h3⟩:=Qbz (gs:=gs) (j:=j) h;refine⟨i+1,h1,h2,?_⟩;show rK (y.gone::nh (gs.map bz.k)) (i+1)=j+1;rw[QbK,hg,h3];simp;omega
theorem QiE(gs:List bz):(SI gs).length≤gs.length:=Qjt _ _
theorem QmX(hx:gs[k]?=some x)(hg:x.gone=false):SI (gs.take (k+1))=SI (gs.take k)++[x]:=by
 obtain⟨q1,q2⟩:=List.getElem?_eq_some_iff.1 hx;unfold SI;rw[QjK q1,q2,xH,Qjz,hg];rfl
theorem QnP(hx:gs[k]?=some x)(hg:x.gone=true):SI (gs.take (k+1))=SI (gs.take k):=by
 obtain⟨q1,q2⟩:=List.getElem?_eq_some_iff.1 hx;unfold SI;rw[QjK q1,q2,xH,Qjz,hg];simp
theorem QlY(l m:List bz):jA (l++m)=jA l++jA m:=by simp[jA]
end
def AtQ(ls:List bz)(j m:Nat)(S:List ar):Prop:=∀(v:Nat) (r:ar),S[v]?=some r→(∀a:Int,a∈r↔∃(i:Nat) (y:bz),a=(i:Int)∧ls[i]?=some y∧((i<j∧Qc7 y.insts (v:Int))∨(i=j∧Qc7 (y.insts.take m) (v:Int))))∧r.length≤(Lg (ls.take j)).length+m
section
variable {ls : List bz} {j m n : Nat} {S : List (List Int)} {x : bz} {i : aO}
theorem AtQ.start(ls:List bz)(n:Nat):AtQ ls 0 0 (List.replicate n []):=by
 intro v r hr;rw[List.getElem?_replicate]at hr;split at hr
 ·injection hr with hr;subst hr;refine⟨fun a=>⟨fun h=>(by cases h),?_⟩,Qdv _⟩;rintro⟨i,y,_,_,h|⟨_,c,hc,_⟩⟩
  ·omega
  ·simp at hc
 ·cases hr
theorem AtQ.skip(h:AtQ ls j m S)(hx:ls[j]?=some x)(hi:x.insts[m]?=some i)(ho:i.op≠11):AtQ ls j (m+1) S:=by
 intro v r hr;obtain⟨h1,h2⟩:=h v r hr;refine⟨fun a=>(h1 a).trans ?_,oM⟩;constructor
 ·rintro⟨b,y,e,hy,hq⟩;refine⟨b,y,e,hy,hq.imp id ?_⟩;rintro⟨rfl,h9⟩;rw[hx]at hy;injection hy with hy;subst hy;exact⟨rfl,(LB hi).2 (.inl h9)⟩
 ·rintro⟨b,y,e,hy,hq⟩;refine⟨b,y,e,hy,hq.imp id ?_⟩;rintro⟨rfl,h9⟩;rw[hx]at hy;injection hy with hy;subst hy;exact⟨rfl,((LB hi).1 h9).resolve_right fun h=>ho h.1⟩
theorem AtQ.add(h:AtQ ls j m S)(hx:ls[j]?=some x)(hi:x.insts[m]?=some i)(ho:i.op=11){a:Nat}(ha:i.args=[(a:Int)]){r0:ar}(Fc:S[a]?=some r0):AtQ ls j (m+1) (S.set a (r0++[(j:Int)])):=by
 intro v r hr;have hac:=XN ha;rw[List.getElem?_set]at hr;by_cases e:a=v
 ·subst e;rw[dd rfl,dd (List.getElem?_eq_some_iff.1 Fc).1]at hr;injection hr with hr;subst hr;obtain⟨h1,h2⟩:=h a r0 Fc;refine⟨fun c=> ?_,by rw[rV,Qcz];omega⟩;rw[QiU,QcC,h1];constructor
  ·rintro(⟨b,y,e,hy,hq⟩|rfl)
   ·refine⟨b,y,e,hy,hq.imp id ?_⟩;rintro⟨rfl,h9⟩;rw[hx]at hy;injection hy with hy;subst hy;exact⟨rfl,(LB hi).2 (.inl h9)⟩
   ·exact⟨j,x,rfl,hx,.inr ⟨rfl,(LB hi).2 (.inr ⟨ho,hac⟩)⟩⟩
  ·rintro⟨b,y,e,hy,hq|⟨rfl,_⟩⟩
   ·exact .inl ⟨b,y,e,hy,.inl hq⟩
   ·exact .inr e
 ·rw[QcA e]at hr;obtain⟨h1,h2⟩:=h v r hr;refine⟨fun c=>(h1 c).trans ?_,oM⟩;constructor
  ·rintro⟨b,y,e,hy,hq⟩;refine⟨b,y,e,hy,hq.imp id ?_⟩;rintro⟨rfl,h9⟩;rw[hx]at hy;injection hy with hy;subst hy;exact⟨rfl,(LB hi).2 (.inl h9)⟩
  ·rintro⟨b,y,e2,hy,hq⟩;refine⟨b,y,e2,hy,hq.imp id ?_⟩;rintro⟨rfl,h9⟩;rw[hx]at hy;injection hy with hy;subst hy;exact⟨rfl,((LB hi).1 h9).resolve_right fun h=>e (by have:=h.2;rw[hac]at this;omega)⟩
theorem AtQ.next(h:AtQ ls j m S)(hx:ls[j]?=some x)(hm:m=x.insts.length):AtQ ls (j+1) 0 S:=by
 intro v r hr;obtain⟨h1,h2⟩:=h v r hr;refine⟨fun a=>(h1 a).trans ?_,by rw[QdO hx,rV];omega⟩;constructor
 ·rintro⟨b,y,e,hy,⟨hb,hq⟩|⟨rfl,hq⟩⟩
  ·exact⟨b,y,e,hy,.inl ⟨oM,hq⟩⟩
  ·rw[hx]at hy;injection hy with hy;subst hy;rw[uK oM]at hq;exact⟨b,x,e,hx,.inl ⟨oM,hq⟩⟩
 ·rintro⟨b,y,e,hy,⟨hb,hq⟩|⟨_,c,hc,_⟩⟩
  ·by_cases hbj:b=j
   ·subst hbj;rw[hx]at hy;injection hy with hy;subst hy;exact⟨b,x,e,hx,.inr ⟨rfl,by rw[uK oM];exact hq⟩⟩
   ·exact⟨b,y,e,hy,.inl ⟨oM,hq⟩⟩
  ·simp at hc
theorem AtQ.yW(h:AtQ ls j 0 S){r:ar}(hr:r∈S):∀a,a∈r→0≤a∧a<(ls.length:Int):=by
 obtain⟨v,hv⟩:=jF.1 hr;intro a ha;obtain⟨i,y,rfl,hy,_⟩:=((h v r hv).1 a).1 ha;have:=(List.getElem?_eq_some_iff.1 hy).1;omega
theorem AtQ.Qoo(h:AtQ ls j m S){r:ar}(hr:r∈S):r.length≤(Lg (ls.take j)).length+m:=by
 obtain⟨v,hv⟩:=jF.1 hr;exact(h v r hv).2
end
theorem QhW{l m:List bz}(h:l.Sublist m):(Lg l).length≤(Lg m).length:=by
 have:(Lg l).Sublist (Lg m):=by
  unfold Lg;induction h with
  |slnil=>exact Qdr _
  |cons a _ ih=>rw[iC];exact ih.trans (Qh3 _ _)
  |cons_cons a _ ih=>rw[iC,iC];exact(Qdr _).append ih
 exact this.length_le
theorem Qlg(gs:List bz):(Lg gs).length≤hY (fK (gs.map bz.k)):=by
 rw[vR,Qcn];unfold Lg;rw[List.length_flatMap];have:(gs.map (fun x=>x.insts.length)).sum≤(gs.map ((fun x:gO=>x.ah.length+x.insts.length)∘bz.k)).sum:=by
  refine XV (l:=gs.map ((fun x:gO=>x.ah.length+x.insts.length)∘bz.k)) (m:=gs.map (fun x=>x.insts.length)) (f:=id) (g:=id) ⟨sI,fun i a b ha hb=> ?_⟩|>fun h=>by simpa using h
  rw[List.getElem?_map,Jo]at ha hb;obtain⟨x,hx,rfl⟩:=ha;obtain⟨y,hy,rfl⟩:=hb;rw[hx]at hy;injection hy with hy;subst hy;show x.insts.length≤(x.ah.map _).length+(x.insts.map _).length;rw[QjN,QjN];omega
 omega
theorem Qgm(l:List aO)(v:Int):Qc7 (l.map aO.e0) v↔Qc7 l v:=by
 constructor
 ·rintro⟨c,hc,h1,h2⟩;obtain⟨i,hi,rfl⟩:=jd.1 hc;exact⟨i,hi,h1,h2⟩
 ·rintro⟨i,hi,h1,h2⟩;exact⟨i.e0,jd.2 ⟨i,hi,rfl⟩,h1,h2⟩
theorem Qhi(Q:Int→Prop)(l:List aO)(j:Nat):QdS Q (l.map aO.e0) j↔QdS Q l j:=by
 unfold QdS;constructor
 ·rintro⟨c,hc,h1,h2⟩;rw[List.getElem?_map,Jo]at hc;obtain⟨i,hi,rfl⟩:=hc;exact⟨i,hi,h1,h2.imp id fun h=>by rw[←bl]at h;exact(Qgm _ _).1 h⟩
 ·rintro⟨i,hi,h1,h2⟩;exact⟨i.e0,by rw[List.getElem?_map,hi];rfl,h1,h2.imp id fun h=>by rw[←bl];exact(Qgm _ _).2 h⟩
theorem QlZ(Q:Int→Prop)(l:List aO):gH Q (l.map aO.e0)=gH Q l:=by
 funext j;rw[xJ,Cl,Cl];exact Qhi Q l j
section
variable {nm : ByteArray} {pa va : Int} {gs : List bz} {fd : List ay}
theorem Qo0(hc:Pf (gs.map bz.k))(Ut:Yi (gs.map bz.k) fd)(hd:j9 nm pa va fd){up:Int→Int}{nT:Nat}{f g:Int→Int}(YE:QcE (af fd) up)(QbG:PC (eN (af fd) up) nT f g){S:List ar}(LM:AtQ (SI gs) (SI gs).length 0 S){i j:Nat}{x:bz}(hx:gs[i]?=some x)(hg:x.gone=false)(hj:rK (nh (gs.map bz.k)) i=j){v:Nat}{r:ar}(hr:S[v]?=some r):r.any (abQ f g (j:Int))=true↔nU (gs.map bz.k) i (v:Int):=by
 have nB:(gs.map bz.k)[i]?=some x.k:=by rw[List.getElem?_map,hx];rfl
 have yi:mB (gs.map bz.k) (i:Int):= .mk' nB hg;have hnu:=K2 nB (show x.k.gone=false from hg);rw[hj]at hnu;have bh:=Pg Ut yi;rw[hnu]at bh;have h0:=hd.pos;have key:∀{b:Nat} {y:bz},gs[b]?=some y→y.gone=false→(dH f g (rK (nh (gs.map bz.k)) b:Int) (j:Int)↔Dm (tK (gs.map bz.k)) (b:Int) (i:Int)):=fun {b y} hy hgy=>by
  have hyk:(gs.map bz.k)[b]?=some y.k:=by rw[List.getElem?_map,hy];rfl
  have hlb:mB (gs.map bz.k) (b:Int):= .mk' hyk hgy;have hnb:=K2 hyk (show y.k.gone=false from hgy);have Ex:=Pg Ut hlb;rw[hnb]at Ex;rw[←Qhn hc Ut hlb yi,hnb,hnu];exact I0 (by rw[bE];exact h0) (by rw[bE];exact hd.all) YE QbG (by rw[bE];exact Ex) (by rw[bE];exact bh)
 have hm:=(LM v r hr).1;rw[Qju];constructor
 ·rintro⟨a,ha,Hl⟩;obtain⟨cU,qZ⟩:=nF Hl;obtain⟨b',y,rfl,hy,hq⟩:=(hm a).1 ha;obtain⟨b,hyb,hgy,Uu⟩:=Qbz hy;have hq:Qc7 y.insts (v:Int):=by
   rcases hq with⟨_,hq⟩|⟨_,c,hc,_⟩
   ·exact hq
   ·simp at hc
  refine⟨b,y.k,by rw[List.getElem?_map,hyb];rfl,fun e=> ?_,(Qgm _ _).2 hq,?_⟩
  ·subst e;rw[hj]at Uu;exact cU (by rw[Uu])
  ·rw[←Uu]at qZ;exact(key hyb hgy).1 qZ
 ·rintro⟨b,z,hz,cU,hq,hdm⟩;rw[List.getElem?_map,Jo]at hz;obtain⟨y,hyb,rfl⟩:=hz;have hq:=(Qgm _ _).1 (show Qc7 (y.insts.map aO.e0) (v:Int)from hq);have hgy:y.gone=false:=by
   cases h:y.gone with
   |false=>rfl
   |true=>
    obtain⟨c,lW,_⟩:=hq;have:=(hc.gone y.k (jd.2 ⟨y,Qcs hyb,rfl⟩) h).2.1;have:y.insts=[]:=List.map_eq_nil_iff.1 this;rw[this]at lW;cases lW
  have hyk:(gs.map bz.k)[b]?=some y.k:=by rw[List.getElem?_map,hyb];rfl
  have hla:=QfN hyk (show y.k.gone=false from hgy);rw[←QlX,List.getElem?_map,Jo]at hla;obtain⟨y2,hy2,u9⟩:=hla;obtain⟨b2,tP,hg2,lW⟩:=Qbz hy2;have X2:b=b2:=by
   have h1:=K2 hyk (show y.k.gone=false from hgy);have Qop:(gs.map bz.k)[b2]?=some y2.k:=by rw[List.getElem?_map,tP];rfl
   have h2:=K2 Qop (show y2.k.gone=false from hg2);have:=D9 (.mk' hyk hgy) (.mk' Qop hg2) (by rw[h1,h2,lW]);omega
  subst X2;rw[hyb]at tP;injection tP with tP;subst tP;have fm:=(List.getElem?_eq_some_iff.1 hy2).1;refine⟨(rK (nh (gs.map bz.k)) b:Int),(hm _).2 ⟨_,y,rfl,hy2,.inl ⟨fm,hq⟩⟩,?_⟩;unfold abQ;refine B2 ⟨fun e=>cU ?_,(key hyb hgy).2 hdm⟩;have h1:=K2 hyk (show y.k.gone=false from hgy);have:=D9 (.mk' hyk hgy) yi (by rw[h1,hnu];exact e);omega
end
end Go.Mor
namespace Go.Mor
open Go.RowKit
structure AgI(gs gj:List bz)(j:Nat)(tb:Bool):Prop where
 ptr:gj.map (fun x=>x.g)=gs.map (fun x=>x.g)
 yes:∀(i:Nat) (x y:bz),gs[i]?=some x→gj[i]?=some y→x.gone=false→rK (nh (gs.map bz.k)) i<j→y.k=agB (gs.map bz.k) i x.k
 no:∀(i:Nat) (x y:bz),gs[i]?=some x→gj[i]?=some y→¬(x.gone=false∧rK (nh (gs.map bz.k)) i<j)→y=x
 tb:tb=true↔∃(i:Nat) (x:bz) (m:Nat),gs[i]?=some x∧x.gone=false∧rK (nh (gs.map bz.k)) i<j∧QdS (nU (gs.map bz.k) i) x.insts m
theorem Qlh{α:Type}{P:Nat→Bool}{l:List α}(j:Nat):(lj P l j).Sublist l:=by
 unfold lj;have h1:(((l.take j).zipIdx.filter (fun q=> !P q.2)).map (·.1)).Sublist ((l.take j).zipIdx.map (·.1)):=(QjC).map _;rw[List.zipIdx_map_fst]at h1;exact h1.trans (D3 ..)
section
variable {gs gj : List bz} {j i : Nat} {tb : Bool} {x : bz}
theorem AgI.start(gs:List bz):AgI gs gs 0 false:=by
 refine⟨rfl,fun i x y _ _ _ h=>absurd h (zF _),fun i x y hx hy _=> ?_,?_⟩
 ·rw[hx]at hy;injection hy with hy;exact hy.symm
 ·constructor
  ·intro h;cases h
  ·rintro⟨_,_,_,_,_,h,_⟩;exact absurd h (zF _)
theorem AgI.len(h:AgI gs gj j tb):gj.length=gs.length:=by
 have:=Qi9 List.length h.ptr;simpa using this
theorem AgI.now(h:AgI gs gj j tb)(hx:gs[i]?=some x)(hj:rK (nh (gs.map bz.k)) i=j):gj[i]?=some x:=by
 obtain⟨y,hy⟩:=bu (l:=gj) (i:=i) (by rw[h.len];exact(List.getElem?_eq_some_iff.1 hx).1);rw[hy,h.no i x y hx hy oM]
theorem QkM{ks:List gO}{a b:Nat}{y z:gO}(hy:ks[a]?=some y)(hz:ks[b]?=some z)(hgy:y.gone=false)(BB:z.gone=false)(h:rK (nh ks) a=rK (nh ks) b):a=b:=by
 have:=D9 (.mk' hy hgy) (.mk' hz BB) (by rw[K2 hy hgy,K2 hz BB,h]);omega
theorem Ql0{Q:Int→Prop}{l:List aO}:Qby (gH Q l) l.length=true↔∃m,QdS Q l m:=by
 unfold Qby;rw[Qju];constructor
 ·rintro⟨m,_,hm⟩;exact⟨m,Cl.1 hm⟩
 ·rintro⟨m,hm⟩;have dY:=hm;obtain⟨c,hc,_⟩:=dY;exact⟨m,Qi4.2 (List.getElem?_eq_some_iff.1 hc).1,Cl.2 hm⟩
theorem AgI.step(h:AgI gs gj j tb)(hx:gs[i]?=some x)(hg:x.gone=false)(hj:rK (nh (gs.map bz.k)) i=j)(A:aX)(c:Nat):AgI gs (gj.set i {x with iA:=A,ic:=c,insts:=lj (gH (nU (gs.map bz.k) i) x.insts) x.insts x.insts.length}) (j+1) (tb||Qby (gH (nU (gs.map bz.k) i) x.insts) x.insts.length):=by
 have QmY:=h.now hx hj;have q8:=(List.getElem?_eq_some_iff.1 QmY).1;have hk:∀{b:Nat} {y:bz},gs[b]?=some y→(gs.map bz.k)[b]?=some y.k:=fun {b y} hy=>by rw[List.getElem?_map,hy];rfl
 refine⟨?_,fun b y z hy hz hgy fm=> ?_,fun b y z hy hz X7=> ?_,?_⟩
 ·rw[qB];rw[show(({x with iA:=A,ic:=c,insts:=lj (gH (nU (gs.map bz.k) i) x.insts) x.insts x.insts.length}:bz).g)=x.g from rfl];rw[h.ptr];exact Qe0 (by rw[List.getElem?_map,hx];rfl)
 ·rw[List.getElem?_set]at hz;by_cases e:i=b
  ·subst e;rw[dd rfl,dd q8]at hz;injection hz with hz;subst hz;rw[hx]at hy;injection hy with hy;subst hy;unfold agB;show(⟨x.ah.map cI.k,(lj _ x.insts x.insts.length).map aO.e0,x.e,x.v,x.a,x.b,x.gone⟩:gO)=⟨x.ah.map cI.k,lj (gH _ (x.insts.map aO.e0)) (x.insts.map aO.e0) (x.insts.map aO.e0).length,x.e,x.v,x.a,x.b,x.gone⟩;rw[QlZ,QjN,Qk2]
  ·rw[QcA e]at hz;refine h.yes b y z hy hz hgy ?_;by_cases e2:rK (nh (gs.map bz.k)) b=j
   ·exact absurd (QkM (hk hx) (hk hy) hg hgy (hj.trans e2.symm)) e
   ·omega
 ·rw[List.getElem?_set]at hz;by_cases e:i=b
  ·subst e;rw[hx]at hy;injection hy with hy;subst hy;exact absurd ⟨hg,oM⟩ X7
  ·rw[QcA e]at hz;exact h.no b y z hy hz fun hh=>X7 ⟨hh.1,oM⟩
 ·rw[QiZ,h.tb,Ql0];constructor
  ·rintro(⟨b,y,m,h1,h2,h3,h4⟩|⟨m,hm⟩)
   ·exact⟨b,y,m,h1,h2,oM,h4⟩
   ·exact⟨i,x,m,hx,hg,oM,hm⟩
  ·rintro⟨b,y,m,h1,h2,h3,h4⟩;by_cases e2:rK (nh (gs.map bz.k)) b=j
   ·have e:=QkM (hk hx) (hk h1) hg h2 (hj.trans e2.symm);subst e;rw[hx]at h1;injection h1 with h1;subst h1;exact .inr ⟨m,h4⟩
   ·exact .inl ⟨b,y,m,h1,h2,oM,h4⟩
theorem AgI.fin(h:AgI gs gj j tb)(hc:Pf (gs.map bz.k))(hj:(SI gs).length≤j):gj.map bz.k=agK (gs.map bz.k)∧tb=agT (gs.map bz.k):=by
 have fm:∀{i:Nat} {x:bz},gs[i]?=some x→x.gone=false→rK (nh (gs.map bz.k)) i<j:=fun {i x} hx hg=>by
  have nB:(gs.map bz.k)[i]?=some x.k:=by rw[List.getElem?_map,hx];rfl
  have:=(List.getElem?_eq_some_iff.1 (QfN nB (show x.k.gone=false from hg))).1;rw[←QlX,QjN]at this;omega
 constructor
 ·refine QdX fun i=> ?_
  rw[List.getElem?_map];by_cases hi:i<gs.length
  ·obtain⟨x,hx⟩:=bu (l:=gs) hi;obtain⟨y,hy⟩:=bu (l:=gj) (i:=i) (by rw[h.len];exact hi);have nB:(gs.map bz.k)[i]?=some x.k:=by rw[List.getElem?_map,hx];rfl
   rw[hy,QgQ nB,s9];congr 1;cases hg:x.gone with
   |false=>exact h.yes i x y hx hy hg (fm hx hg)
   |true=>
    rw[h.no i x y hx hy (fun hh=>by rw[hg]at hh;cases hh.1)];have hn:=(hc.gone x.k (jd.2 ⟨x,Qcs hx,rfl⟩) hg).2.1;unfold agB;have:lj (gH (nU (gs.map bz.k) i) x.k.insts) x.k.insts x.k.insts.length=x.k.insts:=by rw[hn];rfl
    rw[this]
  ·rw[List.getElem?_eq_none (by rw[h.len];omega),List.getElem?_eq_none (by rw[Qe6,QjN];omega)];rfl
 ·rw[xJ,h.tb,QcL];constructor
  ·rintro⟨i,x,m,hx,hg,_,hs⟩;exact⟨i,x.k,m,by rw[List.getElem?_map,hx];rfl,(Qhi _ _ _).2 hs⟩
  ·rintro⟨i,z,m,hz,hs⟩;rw[List.getElem?_map,Jo]at hz;obtain⟨x,hx,rfl⟩:=hz;have hg:x.gone=false:=by
    cases h9:x.gone with
    |false=>rfl
    |true=>
     have hn:=(hc.gone x.k (jd.2 ⟨x,Qcs hx,rfl⟩) h9).2.1;obtain⟨c,lW,_⟩:=hs;rw[hn]at lW;simp at lW
   exact⟨i,x,m,hx,hg,fm hx hg,(Qhi _ _ _).1 hs⟩
end
end Go.Mor
