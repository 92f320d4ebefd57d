/-
  Texts of the proof, part 9.
-/
import Derived.Test.YtejbeeaomokjpaaGreatZo8
import Derived.Laws.IdiomCopy
import Derived.Laws.Cover3
import Derived.Laws.StructEq
import Derived.ChangeKeysEq
set_option maxRecDepth 10000
open List Go.RowKit
open List renaming length -> ae
namespace Go.Mor
def s2aE(P:Program)(c:Code)(N:FN)(env:Env)(k:Nat):Option (Option Nat×Nat×Value):=match aB c k with
 |some (d,.sliceToArrayPointer t x,_,g)=>match bU c g env,jW d N,ev env x,P.underlying t with
  |some true,true,some v,some (.array m _)=>some (d,m,v)
  |_,_,_,_=>none
 |_=>none
def bnE(c:Code)(N:FN)(env:Env)(k:Nat):Option (Option Nat×BinOp×TypeId×Value×Value):=match aB c k with
 |some (d,.binOp op t x y _,_,g)=>match bU c g env,jW d N,ev env x,ev env y with
  |some true,true,some u,some v=>some (d,op,t,u,v)
  |_,_,_,_=>none
 |_=>none
def boI(op:BinOp)(kd:IntKind)(a b:Int):Option Int:=match op with
 | .add=>some (kd.wrap (a+b))
 | .sub=>some (kd.wrap (a-b))
 | .mul=>some (kd.wrap (a*b))
 | .and=>some (kd.wrap ((BitVec.ofInt kd.bits a&&&BitVec.ofInt kd.bits b).toNat:Int))
 | .or=>some (kd.wrap ((BitVec.ofInt kd.bits a|||BitVec.ofInt kd.bits b).toNat:Int))
 | .xor=>some (kd.wrap ((BitVec.ofInt kd.bits a^^^BitVec.ofInt kd.bits b).toNat:Int))
 |_=>none
theorem QO{P:Program}{op:BinOp}{kd:IntKind}{a b z:Int}(h:boI op kd a b=some z)(t:TypeId)(w:World):(binOp op t (.int kd a) (.int kd b)).run P w= .ok (.int kd z) w:=by
 cases op<;>simp only[boI]at h<;>first
  |(cases h;done)
  |(injection h with h;subst h;simp[binOp,Op.intArith,Op.intBits])
def boP(op:BinOp)(kd:IntKind)(a b:Int):Option Int:=match op with
 | .quo=>some (kd.wrap (a.tdiv b))
 | .rem=>some (a.tmod b)
 |_=>none
theorem Qb9{P:Program}{op:BinOp}{kd:IntKind}{a b z:Int}(h:boP op kd a b=some z)(hb:b≠0)(t:TypeId)(w:World):(binOp op t (.int kd a) (.int kd b)).run P w= .ok (.int kd z) w:=by
 cases op<;>simp only[boP]at h<;>first
  |(cases h;done)
  |(injection h with h;subst h;simp[binOp,Op.intDiv,hb])
def boS(op:BinOp)(kd:IntKind)(a b:Int):Option Int:=match op with
 | .shl=>some (kd.wrap (a*2^min b.toNat kd.bits))
 | .shr=>some (a.fdiv (2^min b.toNat kd.bits))
 |_=>none
theorem Qca{P:Program}{op:BinOp}{kd k2:IntKind}{a b z:Int}(h:boS op kd a b=some z)(hb:0<=b)(t:TypeId)(w:World):(binOp op t (.int kd a) (.int k2 b)).run P w= .ok (.int kd z) w:=by
 have hn:¬b<0:=oM;cases op<;>simp only[boS]at h<;>first
  |(cases h;done)
  |(injection h with h;subst h;simp[binOp,Op.shift,hn])
section
variable{P:Program}{c:Code}{K:Act -> World -> Prop}{Q:Exit -> Act -> World -> Prop}{w w0:World}{S:Nat -> Prop}{L:List bD}{k:Nat}{N:FN}{env:Env}
theorem x6{a:Act}{d:Option Nat}{op:BinOp}{t:TypeId}{kd k2:IntKind}{i j z:Int}(hF:Fr a N env)(hk:bnE c N env k=some (d,op,t,.int kd i,.int k2 j))(hr:(binOp op t (.int kd i) (.int k2 j)).run P w= .ok (.int kd z) w)(h:∀a',a'=a.put d (.int kd z)->Fr a' N (eJ env d (.int kd z))->bL P c K Q (k+1) a' w):bL P c K Q k a w:=by
 unfold bnE at hk;split at hk
 ·rename_i g0;split at hk
  ·rename_i g1 g2 g3 g4;simp only[eO,dg]at hk;obtain⟨e1,e2,e3,e4,e5⟩:=hk;refine gq g0 hF g1 (by rw[e1]at g2;exact e1▸g2) rfl (λo ho=> ?_) (by rw[e1];exact h);unfold execOp;rw[ho,e2,e3];have hq:∀x y,(eqGuard op t x y (.int kd i) (.int k2 j)).run P w= .ok () w:=by intro x y;simp only[eqGuard];split<;>simp
   simp only[hF.ev g3,hF.ev g4,e4,e5,gG,hq,hr,ig];rfl
  ·cases hk
 ·cases hk
def biE(f:BinOp->IntKind->Int->Int->Option Int)(c:Code)(N:FN)(env:Env)(k:Nat):Option (Option Nat×IntKind×IntKind×Int×Int):=match bnE c N env k with
 |some (d,op,_,.int kd i,.int k2 j)=>match f op kd i j with
  |some z=>some (d,kd,k2,j,z)
  |none=>none
 |_=>none
theorem CC{f:BinOp->IntKind->Int->Int->Option Int}{d:Option Nat}{kd k2:IntKind}{j z:Int}(h:biE f c N env k=some (d,kd,k2,j,z)):∃op t i,bnE c N env k=some (d,op,t,.int kd i,.int k2 j)/\f op kd i j=some z:=by
 unfold biE at h;split at h
 ·rename_i h0;split at h
  ·rename_i h1;simp only[eO,dg]at h;obtain⟨rfl,rfl,rfl,rfl,rfl⟩:=h;exact⟨_,_,_,h0,h1⟩
  ·cases h
 ·cases h
theorem Nf(kd:IntKind)(z:Int)(j:Int)(h:∀a,Fr a N (eJ env (bC c k) (.int kd z))->bL P c K Q (k+1) a w)(hk:biE boI c N env k=some (bC c k,kd,kd,j,z):=by kernel_rfl):∀a,Fr a N env->bL P c K Q k a w:=λ_ hF=>by
 obtain⟨op,t,i,h0,h1⟩:=CC hk;exact x6 hF h0 (QO h1 t w) (λa' _=>h a')
theorem zbd(kd:IntKind)(z:Int)(j:Int)(hj:j≠0)(h:∀a,Fr a N (eJ env (bC c k) (.int kd z))->bL P c K Q (k+1) a w)(hk:biE boP c N env k=some (bC c k,kd,kd,j,z):=by kernel_rfl):∀a,Fr a N env->bL P c K Q k a w:=λ_ hF=>by
 obtain⟨op,t,i,h0,h1⟩:=CC hk;exact x6 hF h0 (Qb9 h1 hj t w) (λa' _=>h a')
theorem zbs(kd k2:IntKind)(z:Int)(j:Int)(hj:0<=j)(h:∀a,Fr a N (eJ env (bC c k) (.int kd z))->bL P c K Q (k+1) a w)(hk:biE boS c N env k=some (bC c k,kd,k2,j,z):=by kernel_rfl):∀a,Fr a N env->bL P c K Q k a w:=λ_ hF=>by
 obtain⟨op,t,i,h0,h1⟩:=CC hk;exact x6 hF h0 (Qca h1 hj t w) (λa' _=>h a')
def unE(c:Code)(N:FN)(env:Env)(k:Nat):Option (Option Nat×UnOp×IntKind×Int):=match aB c k with
 |some (d,.unOp op _ x,_,g)=>match bU c g env,jW d N,ev env x with
  |some true,true,some (.int kd i)=>some (d,op,kd,i)
  |_,_,_=>none
 |_=>none
def unI(op:UnOp)(kd:IntKind)(a:Int):Option Int:=match op with
 | .neg=>some (kd.wrap (0-a))
 | .xor=>some (kd.wrap ((BitVec.ofInt kd.bits (if kd.signed then-1 else kd.max)^^^BitVec.ofInt kd.bits a).toNat:Int))
 |_=>none
theorem zui(op:UnOp)(i:Int)(kd:IntKind)(z:Int)(h:∀a,Fr a N (eJ env (bC c k) (.int kd z))->bL P c K Q (k+1) a w)(hk:unE c N env k=some (bC c k,op,kd,i):=by kernel_rfl)(hz:unI op kd i=some z:=by kernel_rfl):∀a,Fr a N env->bL P c K Q k a w:=λa hF=>by
 unfold unE at hk;split at hk
 ·rename_i g0;split at hk
  ·rename_i g1 g2 g3;simp only[eO,dg]at hk;obtain⟨rfl,rfl,rfl,rfl⟩:=hk;refine Wu g0 hF g1 g2 rfl g3 (z:= .int _ z) (λw=> ?_) (λa' _=>h a');unfold unI at hz;split at hz
   ·injection hz with hz;subst hz;simp[Op.unary,Op.intArith]
   ·injection hz with hz;subst hz;simp[Op.unary,Op.intBits]
   ·cases hz
  ·cases hk
 ·cases hk
def cvE(P:Program)(c:Code)(N:FN)(env:Env)(k:Nat):Option (Option Nat×IntKind×Int):=match aB c k with
 |some (d,.convert t t' x,_,g)=>match bU c g env,jW d N,ev env x,P.underlying t,P.underlying t' with
  |some true,true,some (.int _ i),some (.int _),some (.int kd)=>some (d,kd,i)
  |_,_,_,_,_=>none
 |_=>none
theorem zcv(i:Int)(kd:IntKind)(z:Int)(h:∀a,Fr a N (eJ env (bC c k) (.int kd z))->bL P c K Q (k+1) a w)(hz:kd.wrap i=z)(hk:cvE P c N env k=some (bC c k,kd,i):=by kernel_rfl):∀a,Fr a N env->bL P c K Q k a w:=λa hF=>by
 unfold cvE at hk;split at hk
 ·rename_i g0;split at hk
  ·rename_i g1 g2 g3 g4 g5;simp only[eO,dg]at hk;obtain⟨rfl,rfl,rfl⟩:=hk;exact Sq g0 hF g1 g2 rfl g3 g4 g5 hz (λa' _=>h a')
  ·cases hk
 ·cases hk
end
section
variable{P:Program}{c:Code}{Q:Exit -> Act -> World -> Prop}{N:FN}{i:Nat}{env0:Env}{wr:World}{sp:Nat -> Spec}
theorem dB(kd:IntKind)(z y:Int)(hv:sp i= .bd (.int kd z):=by rfl)(hg:∀vs,n5 c i (cO c i sp vs env0)=some true:=by intro _;kernel_rfl)(hk:∀vs,biE boI (one c i) N (cO c i sp vs env0) 0=some (bC c i,kd,kd,y,z):=by intro _;kernel_rfl)(he:aB (one c i) 1=none:=by kernel_rfl):l8 P c Q N env0 wr sp i:=by
 refine vC hg (λw vs hK hp a hF=> ?_);obtain⟨op,t,x,h0,h1⟩:=CC (hk vs);exact x6 hF h0 (QO h1 t w) (λa' ea _=>aX he ⟨_,ea,Kp.refl w,by rw[hv];rfl⟩)
end
def QjI(l:List bD):Prop:=l.Pairwise (λr s=>∀g,r.fp g->¬s.fp g)
def bD.pk(l:List bD):bD where
 fp k:=∃r,r∈l/\r.fp k
 holds w:=(∀r,r∈l->r.holds w)/\QjI l
 kD:=λh hw=>⟨λr hr=>r.kD (λg hg=>h g ⟨r,hr,hg⟩) (hw.1 r hr),hw.2⟩
 lt:=fun⟨h1,_⟩ ⟨r,hr,hg⟩=>r.lt (h1 r hr) hg
section
variable{S:Nat -> Prop}{w0 w w':World}{l l' L:List bD}{r:bD}
theorem Mem.te(h:(bD.pk l).holds w):Mem (bD.pk l).fp w w l:=⟨rfl,rfl,rfl,cH _,λ_ _ _=>rfl,λr hr=>⟨h.1 r hr,λ_ hg=> .inl ⟨r,hr,hg⟩⟩,h.2⟩
theorem Mem.dd(h:Mem S w0 w (l++L)):(bD.pk l).holds w:=⟨λr hr=>(h.own r (ej _ hr)).1,(vU.1 h.apart).1⟩
theorem Mem.pack(h:Mem S w0 w (l++L)):Mem S w0 w (.pk l::L):=by
 obtain⟨h1,h2,h3⟩:=vU.1 h.apart;refine⟨h.os,h.tape,h.output,h.size,h.kept,λr hr=> ?_,l7.2 ⟨?_,h2⟩⟩
 ·rcases cG.1 hr with rfl|hr
  ·exact⟨h.dd,λg ⟨q,hq,hg⟩=>(h.own q (ej _ hq)).2 g hg⟩
  ·exact h.own r (kF _ hr)
 ·rintro r hr g ⟨q,hq,hg⟩;exact h3 q hq r hr g hg
theorem Mem.unpack(h:Mem S w0 w (.pk l::L)):Mem S w0 w (l++L):=by
 obtain⟨h1,h2⟩:=l7.1 h.apart;obtain⟨⟨h3,h4⟩,h5⟩:=h.own _ (cK ..);refine⟨h.os,h.tape,h.output,h.size,h.kept,λr hr=> ?_,vU.2 ⟨h4,h2,λq hq r hr g hg=>h1 r hr g ⟨q,hq,hg⟩⟩⟩;rcases bV.1 hr with hr|hr
 ·exact⟨h3 r hr,λg hg=>h5 g ⟨r,hr,hg⟩⟩
 ·exact h.own r (cr _ hr)
theorem Mem.uX(h:Mem S w0 w (l++L))(h':Mem (bD.pk l).fp w w' l'):Mem S w0 w' (l'++L):=by
 have h1:Mem (bD.pk l).fp w w' (l'++[]):=by rw[iq];exact h'
 have h2:=h.pack.mod 0 rfl h1.pack;exact Mem.unpack (by simpa using h2)
theorem RO.vD(hA:RO S w0 r)(h:Mem S w0 w (l++L)):RO (bD.pk l).fp w r:=by
 refine⟨h.ro hA,λg hg ⟨q,hq,hgq⟩=> ?_⟩;have h1:=r.lt hA.1 hg;rcases(h.own q (ej _ hq)).2 g hgq with h2|h2
 ·exact hA.2 g hg h2
 ·omega
theorem RO.tT(h:Mem S w0 w (l++L))(i:Nat)(hi:L[i]?=some r):RO (bD.pk l).fp w r:=by
 have hm:=aI hi;refine⟨(h.own r (kF _ hm)).1,λg hg ⟨q,hq,hgq⟩=> ?_⟩;exact(vU.1 h.apart).2.2 q hq r hm g hgq hg
end
def tU(c:Code)(m:Nat):Bool:=(List.range (opsOf c).size).all λi=>Nat.blt i m||(List.range i).all (λj=>reach c (opsOf c).size i j)
theorem K2{c:Code}(nI:iT c=true):∀{n j i:Nat},j<(opsOf c).size->reach c n j i=true->i<j
 |0,j,i,_,h=>by simp[reach]at h
 |n+1,j,i,hj,h=>by
  have hp:∀k,k∈eo c j->k<j:=by intro k hk;simp only[iT,gQ,dp]at nI;have:=nI j hj k hk;simpa[p6]using this
  simp only[reach,dt,Df]at h;rcases h with h|⟨k,hk,h⟩
  ·exact hp i (lQ.1 h)
  ·have h1:=hp k hk;have:=K2 nI oM h;omega
theorem l9{c:Code}(nI:iT c=true){aD:Array Bool}(iX:aD.size=(opsOf c).size)(hr:Region.ready .any (opsOf c) aD=[]):∀j,j<(opsOf c).size->aD.getD j false=true:=by
 intro j;induction j using Nat.strongRecOn with
 |_ j ih=>
  intro hj;cases hq:aD.getD j false with
  |true=>rfl
  |false=>
   exfalso;have:j∈Region.ready .any (opsOf c) aD:=by
    simp only[Region.ready,dY,dp,bu,oi];have Vl:j<aD.size:=oM;refine⟨hj,?_,?_⟩
    ·simp[Array.getD,Vl]at hq⊢;exact hq
    ·have ho:(opsOf c)[j]?=some (opsOf c)[j]:=by simp[hj]
     simp only[ho,ft,nu];rw[HY];intro e he;cases hb:Region.binds .any e with
     |false=>rfl
     |true=>
      have nt:e.on∈eo c j:=by simp only[eo,ho,aO,dY];exact⟨e,⟨HZ.2 he,hb⟩,rfl⟩
      have ir:e.on<j:=by simp only[iT,gQ,dp]at nI;have:=nI j hj e.on nt;simpa[p6]using this
      simp[ih e.on ir oM]
   rw[hr]at this;simp at this
theorem qq{c:Code}{aD:Array Bool}{i:Nat}(hr:i∈Region.ready .any (opsOf c) aD):∀j,j∈eo c i->aD.getD j false=true:=by
 obtain⟨_,_,o,ho,NG⟩:=im hr;intro j hj;simp only[eo,ho,aO,dY]at hj;obtain⟨e,⟨he,hb⟩,rfl⟩:=hj;exact NG e he hb
theorem uY{c:Code}{aD:Array Bool}(iX:aD.size=(opsOf c).size){i:Nat}(hr:i∈Region.ready .any (opsOf c) aD):aD.getD i false=false:=by
 obtain⟨ir,Qo,_⟩:=im hr;have:i<aD.size:=oM;simp[Array.getD,this]at Qo⊢;exact Qo
def DK(c:Code)(m:Nat):Env->Env
 |[]=>[]
 |(t,v)::r=>match cJ ((List.range m).filterMap (bC c)) t with
  |true=>DK c m r
  |false=>(t,v)::DK c m r
theorem sg{c:Code}{m:Nat}:∀{env:Env} {t:Nat} {v:Value},look (DK c m env) t=some v->(t,v)∈env/\∀j,j<m->bC c j≠some t
 |[],t,v,h=>by simp[DK,look]at h
 |(k,u)::r,t,v,h=>by
  unfold DK at h;cases hm:cJ ((List.range m).filterMap (bC c)) k with
  |true=>
   rw[hm]at h;obtain⟨h1,h2⟩:=sg h;exact⟨cr _ h1,h2⟩
  |false=>
   rw[hm]at h;simp only[look]at h;cases hq:Nat.beq k t with
   |false=>
    rw[hq]at h;obtain⟨h1,h2⟩:=sg h;exact⟨cr _ h1,h2⟩
   |true=>
    rw[hq]at h;injection h with h;have:=ko hq;subst this;subst h;refine⟨cK ..,λj hj vl=> ?_⟩;have:cJ ((List.range m).filterMap (bC c)) k=true:=lQ.2 (mem_filterMap.2 ⟨j,dp.2 hj,vl⟩);rw[this]at hm;cases hm
section
variable{P:Program}{c:Code}{K:Act -> World -> Prop}{Q:Exit -> Act -> World -> Prop}{N:FN}{env0:Env}{wr:World}{sp:Nat -> Spec}
theorem x7{aD:Array Bool}{i j:Nat}(hi:i<aD.size):(aD.setIfInBounds i true).getD j false=(decide (j=i)||aD.getD j false):=by
 by_cases e:i=j
 ·subst e;simp[mH,hi]
 ·have:¬j=i:=λh=>e h.symm
  simp[mH,tw e,this]
theorem K3(nI:iT c=true){m:Nat}(ht:tU c m=true):∀(n fuel k:Nat) (aD:Array Bool) (a:Act) (w:World),aD.size=(opsOf c).size->(opsOf c).size<=k+n->n<=fuel->m<=k->k<=(opsOf c).size->(∀j,j<(opsOf c).size->aD.getD j false=decide (j<k))->bL P c K Q k a w->wpAny P .any (opsOf c) (Exit.then K Q) fuel aD a w:=by
 intro n;induction n with
 |zero=>
  intro fuel k aD a w iX hs hf nB QP hl h;have hk:k=(opsOf c).size:=oM;subst hk;have hK:K a w:=by unfold bL at h;rw[F7 sI]at h;exact h
  have E9:∀i,¬i∈Region.ready .any (opsOf c) aD:=λi hi=>by have h1:=uY iX hi;have h2:=(im hi).1;rw[hl i h2]at h1;simp[h2]at h1
  cases fuel with
  |zero=>exact⟨eq_nil_iff_forall_not_mem.2 E9,hK⟩
  |succ fuel=>exact⟨λ_=>hK,λi hi=>absurd hi (E9 i)⟩
 |succ n ih=>
  intro fuel k aD a w iX hs hf nB QP hl h;by_cases hk:k<(opsOf c).size
  ·cases fuel with
   |zero=>omega
   |succ fuel=>
    refine⟨λhr=> ?_,λi hi=> ?_⟩
    ·have:=l9 nI iX hr k hk;rw[hl k hk]at this;simp at this
    ·have rI:=uY iX hi;have QgR:=(im hi).1;have hik:i=k:=by
      rw[hl i QgR]at rI;have hge:k<=i:=by simpa using rI
      rcases Nat.lt_or_eq_of_le hge with hgt|he
      ·exfalso;simp only[tU,gQ,dp,dt]at ht;have h1:reach c (opsOf c).size i k=true:=by
        rcases ht i QgR with h1|h1
        ·have:i<m:=by simpa[p6]using h1
         omega
        ·exact h1 k hgt
       cases hn:(opsOf c).size with
       |zero=>omega
       |succ N'=>
        rw[hn]at h1;simp only[reach,dt,Df]at h1;rcases h1 with h1|⟨q,hq,h1⟩
        ·have:=qq hi k (lQ.1 h1);rw[hl k hk]at this;simp at this
        ·have h2:=qq hi q hq;have hqi:q<i:=by simp only[iT,gQ,dp]at nI;have:=nI i QgR q hq;simpa[p6]using this
         rw[hl q oM]at h2;have h3:q<k:=by simpa using h2
         have:=K2 nI oM h1;omega
      ·exact he.symm
     subst hik;have ho:(opsOf c)[i]?=some (opsOf c)[i]:=by simp[hk]
     generalize hoo:(opsOf c)[i]=o at ho;unfold bL at h;rw[HI ho]at h;unfold wpList at h;have next:∀a' w',wpList P (opsOf c) (Exit.then K Q) ((opsOf c).toList.drop (i+1)) a' w'->wpAny P .any (opsOf c) (Exit.then K Q) fuel (aD.setIfInBounds i true) a' w':=by
      intro a' w' h';refine ih fuel (i+1) _ a' w' (by simpa using iX) oM oM oM oM (λj hj=> ?_) h';rw[x7 oM,hl j hj];by_cases e:j=i
      ·subst e;simp
      ·have:(j<i+1)↔(j<i):=oM;simp[e,this]
     unfold wpOp;rw[ho];simp only[];split at h
     ·rename_i hw;rw[ax hw];exact h.imp (Oper.wp_mono next) id
     ·rename_i hw;rw[ao hw];exact next _ _ h
  ·exact ih fuel k aD a w iX oM oM nB QP hl h
theorem S7(hd:mL c=true)(td:∀i d,bC c i=some d->d<N.n)(nI:iT c=true){m:Nat}(ht:tU c m=true)(hm:m<=(opsOf c).size)(rW:∀i,i<m->l8 P c Q N env0 wr sp i)(Dd:∀a w,(∀aD:Array Bool,(∀j,j<m->aD.getD j false=true)->(∀j,m<=j->aD.getD j false=false)->xD c N env0 wr sp aD a w->bL P c K Q m a w)):∀(n fuel:Nat) (aD:Array Bool) (a:Act) (w:World),aD.size=(opsOf c).size->ae ((List.range (opsOf c).size).filter (λj=> !aD.getD j false))=n->n<=fuel->(∀j,m<=j->aD.getD j false=false)->xD c N env0 wr sp aD a w->wpAny P .any (opsOf c) (Exit.then K Q) fuel aD a w:=by
 intro n;induction n using Nat.strongRecOn with
 |_ n ih=>
  intro fuel aD a w iX hn hf Ol hk;by_cases cY:∀j,j<m->aD.getD j false=true
  ·have hlen:(opsOf c).size<=m+n:=by
    have h1:ae ((List.range (opsOf c).size).filter (λj=> !aD.getD j false))=(opsOf c).size-m:=by
     have e:(List.range (opsOf c).size).filter (λj=> !aD.getD j false)=(List.range (opsOf c).size).filter (λj=>decide (m<=j)):=by
      apply qH;intro j _;by_cases hj:j<m
      ·rw[cY j hj];simp;omega
      ·rw[Ol j oM];simp;omega
     rw[e];have key:∀N,ae ((List.range N).filter (λj=>decide (m<=j)))=N-m:=by
      intro N;induction N with
      |zero=>simp
      |succ N ihN=>
       rw[oH,e8,dG,ihN];by_cases h:m<=N
       ·simp[h];omega
       ·simp[h];omega
     exact key _
    omega
   refine K3 nI ht n fuel m aD a w iX hlen hf (cH _) hm (λj hj=> ?_) (Dd a w aD cY Ol hk);by_cases h:j<m
   ·rw[cY j h];simp[h]
   ·rw[Ol j oM];simp[h]
  ·have II:0<n:=by
    rcases C5 n with h0|h0
    ·exfalso;apply cY;intro j hj;cases hq:aD.getD j false with
     |true=>rfl
     |false=>
      have:j∈(List.range (opsOf c).size).filter (λj=> !aD.getD j false):=dY.2 ⟨dp.2 oM,by rw[hq];rfl⟩;have:=tB this;omega
    ·exact h0
   cases fuel with
   |zero=>omega
   |succ fuel=>
    refine⟨λhr=>absurd (λj hj=>l9 nI iX hr j oM) cY,λi hi=> ?_⟩;obtain⟨h1,h2,_⟩:=im hi;have Ng:i<m:=by
     rcases ns i m with h|h
     ·exact h
     ·exfalso;apply cY;intro j hj;simp only[tU,gQ,dp,dt]at ht;have hre:reach c (opsOf c).size i j=true:=by
       rcases ht i h1 with h3|h3
       ·have:i<m:=by simpa[p6]using h3
        omega
       ·exact h3 j oM
      exact rX (ls:=λq=>aD.getD q false) (λj hj q hq=>hk.2.2.2.1 j hj q hq) (λq hq=>qq hi q hq) hre
    have Sk:=uY iX hi;have qY:i<aD.size:=oM;refine Gc hd td (rW i Ng) iX hi hk (λa' w' lI=> ?_);have ir:ae ((List.range (opsOf c).size).filter (λj=> !(aD.setIfInBounds i true).getD j false))<n:=by
     rw[<-hn];have kE:((List.range (opsOf c).size).filter (λj=> !(aD.setIfInBounds i true).getD j false))=((List.range (opsOf c).size).filter (λj=> !aD.getD j false)).filter (λj=> !(Nat.beq j i)):=by
      rw[y9];apply qH;intro j _;rw[x7 qY];by_cases e:j=i
      ·subst e;simp
      ·have hb:Nat.beq j i=false:=by
        cases hq:Nat.beq j i with
        |false=>rfl
        |true=>exact absurd (ko hq) e
       simp[e,hb]
     rw[kE];have nt:i∈(List.range (opsOf c).size).filter (λj=> !aD.getD j false):=dY.2 ⟨dp.2 h1,by rw[Sk];rfl⟩;exact De.2 ⟨i,nt,sI⟩
    refine ih _ ir fuel _ a' w' (by simpa using iX) rfl oM (λj hj=> ?_) lI;rw[x7 qY,Ol j hj];have:j≠i:=oM;simp[this]
theorem BD(m:Nat)(sp:Nat->Spec){a:Act}(hF:Fr a N env0)(rW:∀i,i<m->l8 P c Q N env0 wr sp i)(h:∀a' w' (vs:Nat->Value),Kp wr w'->(∀j,j<m->(sp j).ok (vs j) w')->Fr a' N (sR c sp vs (List.range m)++DK c m env0)->bL P c K Q m a' w')(ht:tU c m=true:=by kernel_rfl)(F8:Nat.ble m (opsOf c).size=true:=by kernel_rfl)(hk:kind c= .region true:=by kernel_rfl)(hm:P.follows .mixedOrders=true:=by kernel_rfl)(hd:mL c=true:=by kernel_rfl)(nI:iT c=true:=by kernel_rfl)(tC:rV env0=true:=by kernel_rfl)(td:(List.range (opsOf c).size).all (λi=>jW (bC c i) N)=true:=by kernel_rfl):W P c K Q a wr:=by
 have NJ:∀i d,bC c i=some d->d<N.n:=by
  intro i d hi;have ir:i<(opsOf c).size:=by
   simp only[bC]at hi;cases ho:(opsOf c)[i]? with
   |none=>simp[ho]at hi
   |some o=>exact(tA.1 ho).1
  simp only[gQ,dp]at td;have:=td i ir;rw[hi]at this;simpa[jW,p6]using this
 have fI:=C4 F8;cases c<;>simp[kind]at hk;rename_i id ops dr;subst hk;refine wp_region_any hm ?_;have S8:∀j,(Array.replicate ops.size false).getD j false=false:=by intro j;simp only[mH,H0];split<;>rfl
 have h0:xD (.region id ops true) N env0 wr sp (Array.replicate ops.size false) a {wr with drawn:=wr.drawn+1}:=by
  refine⟨Mem.drew wr,hF.defers,hF.size,?_,⟨λ_=>undef,?_⟩,λt v htv _=>hF.slot t v (q7 tC htv)⟩
  ·intro j hj;rw[S8 j]at hj;cases hj
  ·intro j hj;rw[S8 j]at hj;cases hj
 refine S7 (c:= .region id ops true) hd NJ nI ht fI rW ?_ _ ops.size _ a _ (by simp[opsOf]) rfl ?_ (λj _=>S8 j) h0
 ·intro a' w' aD cY Ol hk;obtain⟨hkp,vk,iX,_,⟨vs,Ah⟩,q8⟩:=hk;refine h a' w' vs hkp (λj hj=>(Ah j (cY j hj)).1) ⟨vk,iX,λt v hv=> ?_⟩;rcases mi hv with h1|h1
  ·obtain⟨j,hj,vl,rfl⟩:=oU h1;obtain⟨h2,h3⟩:=Ah j (cY j (dp.1 hj));rw[Spec.y6 h2];exact h3 t vl
  ·obtain⟨h2,h3⟩:=sg h1;refine q8 t v h2 (λj hj=> ?_);rcases ns j m with hjm|hjm
   ·exact h3 j hjm
   ·rw[Ol j hjm]at hj;cases hj
 ·refine iz (j6 _ _) ?_;simp[opsOf]
variable{i:Nat}
end
section
variable{P:Program}{t:TypeId}{f0 f1 f2 f3 f4:Field}
abbrev K5:=Int×Int×bo×Int×Int
end
def vK(l:ah):bh:=l.map (Value.int .u8)
theorem QcE(l:ah):ae (vK l)=ae l:=by simp[vK]
theorem OT(l m:ah):vK (l++m)=vK l++vK m:=by simp[vK]
structure RC where
 E:Env0
 r:Nat
 fA:ar
 fc:Nat
 sA:ar
 sc:Nat
 mB:Nat
 dB:Nat
 mG:Nat
 iA:ar
 ic:Nat
 oP:Addr
def QcF(f:gg):bh:=f.bO.map (λq=> .slice q.1 (ae q.2.2) q.2.1)
structure Qfe(f:gg)(k:Nat)(x:aG):Prop where
 lp:ae x.ak<=20000
 li:ae x.insts<=20000
 ends:jm (ae f.bF) x
 vIf:x.e=1->0<=x.v/\x.v<f.va
 Qni:x.e=2->-1<=x.v/\x.v<f.va
 shape:∀i,i∈x.insts->cA i
 args:∀i,i∈x.insts->∀v,v∈i.args->0<=v/\v<f.va
 dst:∀i,i∈x.insts->aJ i.op->0<=i.dst/\i.dst<f.va
 Qnj:∀p,p∈x.ak->0<=p.dst/\p.dst<f.va
 Qnk:∀p,p∈x.ak->ae p.args=ae (f.src k)
 Qkj:∀p,p∈x.ak->∀v,v∈p.args->0<=v/\v<f.va
structure gg.WF(f:gg):Prop where
 ok:rH f.bF
 pos:0<ae f.bF
 len:ae f.bF<=1000
 pa0:0<=f.pa
 pav:f.pa<=f.va
 va:f.va<=20000
 first:∀x,f.bF[0]?=some x->x.ak=[]
 aM:∀k x,f.bF[k]?=some x->Qfe f k x
 Qkk:ae f.bO=ae f.bF
 Qnl:∀(k:Nat) (x:aG) (t:Int),f.bF[k]?=some x->(x.e=0/\t=x.a\/x.e=1/\(t=x.a\/t=x.b))->(k:Int)∈f.src t.toNat
 Qnm:∀k,ae (f.src k)<=1000
structure eY where
 nm:bo
 wk:Bool
 pa:Int
 va:Int
 A:ar
 c:Nat
 bF:List aG
def eY.cells(f:eY):bh:=fV f.nm f.wk f.pa f.va f.A f.c f.bF
structure cR where
 nm:bo
 wk:Bool
 wA:ar
 wc:Nat
 words:ah
 rA:ar
 rc:Nat
 refs:List (Int×bo)
def cR.cells(d:cR):bh:=[.string d.nm,.bool d.wk,.slice d.wA (ae d.words) d.wc,.slice d.rA (ae d.refs) d.rc]
def Ea(r:Int×bo):bh:=[vI r.1,.string r.2]
instance : LawfulBEq ByteArray where
  eq_of_beq {a b} h := by simpa [MapKept.bytes_beq] using h
  rfl {a} := by simp [MapKept.bytes_beq]
section
variable{α β:Type}[BEq α][LawfulBEq α]
theorem Q4(s:α)(v:β)(t:α):∀l:List (α×β),jd (upk l s v) t=if t==s then some v else jd l t
 |[]=>by show(match t==s with|true=>some v|false=>none)=_;cases t==s<;>rfl
 |(k,u)::r=>by
  have ih:=Q4 s v t r;unfold upk;cases h:s==k with
  |true=>
   have e:=eq_of_beq h;subst e;show(match t==s with|true=>some v|false=>jd r t)=if t==s then some v else(match t==s with|true=>some u|false=>jd r t);cases t==s<;>rfl
  |false=>
   show(match t==k with|true=>some u|false=>jd (upk r s v) t)=if t==s then some v else(match t==k with|true=>some u|false=>jd r t);cases hk:t==k with
   |true=>
    have e:=eq_of_beq hk;subst e;have:(t==s)=false:=by
     cases hq:t==s
     ·rfl
     ·have e2:=eq_of_beq hq;subst e2;rw[BEq.rfl]at h;cases h
    rw[this];rfl
   |false=>rw[ih]
theorem Q5{l:List (α×β)}{s:α}{v:β}(h:jd l s=some v):(s,v)∈l:=by
 induction l with
 |nil=>cases h
 |cons p r ih=>
  obtain⟨k,u⟩:=p;unfold jd at h;split at h
  ·rename_i hq;have e:=eq_of_beq hq;subst e;injection h with h;subst h;exact cK ..
  ·exact cr _ (ih h)
theorem Ls{l:List (α×β)}{s:α}(h:s∉l.map (·.1)):jd l s=none:=by
 induction l with
 |nil=>rfl
 |cons p r ih=>
  obtain⟨k,u⟩:=p;simp only[gu,cG,not_or]at h;unfold jd;rw[xR.2 h.1];exact ih h.2
theorem Q6{s:α}(v:β):∀{l:List (α×β)},s∉l.map (·.1)->upk l s v=l++[(s,v)]
 |[],_=>rfl
 |(k,u)::r,h=>by simp only[gu,cG,not_or]at h;unfold upk;rw[xR.2 h.1];show(k,u)::upk r s v=_;rw[Q6 v h.2];rfl
theorem XS{l:List (α×β)}{s:α}{v:β}(h:s∉l.map (·.1))(t:α):jd (l++[(s,v)]) t=if t==s then some v else jd l t:=by
 rw[<-Q6 v h,Q4]
end
abbrev NW:=List (bo×Bool)
def jU(nw:NW)(k i:Nat):Bool:=match nw[k]?,nw[i]? with
 |some x,some y=>x.1==y.1&&((!x.2&&y.2)||(x.2==y.2&&decide (k<i)))
 |_,_=>false
def GW(nw:NW)(i:Nat):Bool:=(List.range (ae nw)).all λk=> !jU nw k i
def GX(nw:NW):Nat->List (bo×Int)
 |0=>[]
 |k+1=>match nw[k]? with
  |none=>GX nw k
  |some x=>match jd (GX nw k) x.1 with
   |none=>upk (GX nw k) x.1 (k:Int)
   |some a=>match nw[a.toNat]? with
    |none=>GX nw k
    |some y=>if(!y.2||x.2)=true then GX nw k else upk (GX nw k) x.1 (k:Int)
section
variable{nw:NW}{k i j:Nat}{x y:ByteArray × Bool}
theorem XT(hk:nw[k]?=some x)(hi:nw[i]?=some y):jU nw k i=(x.1==y.1&&((!x.2&&y.2)||(x.2==y.2&&decide (k<i)))):=by unfold jU;rw[hk,hi]
theorem GY:GW nw i=true↔∀k,k<ae nw->jU nw k i=false:=by
 unfold GW;simp[gQ]
end
def cy{α:Type}(nw:NW)(l:List α)(i:Nat):List α:=((List.range i).filter (GW nw)).filterMap (λk=>l[k]?)
section
variable{α:Type}{nw:NW}{l:List α}{i:Nat}{x:α}
theorem I6(hx:l[i]?=some x)(h:GW nw i=true):cy nw l (i+1)=cy nw l i++[x]:=by
 unfold cy;rw[oH,e8,filterMap_append];simp[h,hx]
theorem Lt(h:GW nw i=false):cy nw l (i+1)=cy nw l i:=by
 unfold cy;rw[oH,e8,filterMap_append];simp[h]
theorem lD:ae (cy nw l i)<=i:=by
 unfold cy;refine iz (length_filterMap_le _ _) (iz (j6 _ _) ?_);simp
theorem jx(h:x∈cy nw l i):x∈l:=by
 unfold cy at h;obtain⟨k,_,hk⟩:=mem_filterMap.1 h;exact aI hk
end
def iW(fs:List eY):List eY:=cy (fs.map λf=>(f.nm,f.wk)) fs (ae fs)
def bz(ds:List cR):List cR:=cy (ds.map λd=>(d.nm,d.wk)) ds (ae ds)
def cc(ds:List cR)(j:Nat):Nat:=1+((ds.take j).map (λd=>ae d.words)).sum
def gJ(ds:List cR)(j:Nat):List (bo×Int):=(ds.take j).zipIdx.map (λp=>(p.1.nm,(cc ds p.2:Int)))
theorem Lu(ds:List cR):cc ds 0=1:=rfl
section
variable{ds:List cR}{j:Nat}{d:cR}
theorem oe(h:ds[j]?=some d):cc ds (j+1)=cc ds j+ae d.words:=by
 have h1:=(aW.1 h);unfold cc;rw[qB,h];simp;omega
theorem uh:∀{i:Nat},j<=i->cc ds j<=cc ds i:=by
 intro i h;induction h with
 |refl=>exact cH _
 |step h ih=>
  rename_i m;refine iz ih ?_;cases hm:ds[m]? with
  |none=>
   unfold cc;rw[qB,hm];simp
  |some d=>rw[oe hm];omega
theorem Eb:1<=cc ds j:=by unfold cc;omega
theorem Lv:gJ ds 0=[]:=by simp[gJ]
theorem AG(h:ds[j]?=some d):gJ ds (j+1)=gJ ds j++[(d.nm,(cc ds j:Int))]:=by
 unfold gJ;rw[qd h,bZ];rfl
theorem AH:∀(j:Nat),j<=ae ds->(gJ ds j).map (·.1)=(ds.take j).map (·.nm)
 |0,_=>by simp[Lv]
 |j+1,hj=>by obtain⟨d,hd⟩:=aP (l:=ds) (i:=j) oM;rw[AG hd,bZ,AH j oM,qB,hd];simp
theorem Ec(hn:(ds.map (·.nm)).Nodup)(h:ds[j]?=some d):d.nm∉(gJ ds j).map (·.1):=by
 have hj:=(aW.1 h).1;rw[AH j oM];intro hm;have e:ds.map (·.nm)=(ds.take j).map (·.nm)++(ds.drop j).map (·.nm):=by rw[<-bZ,oI]
 rw[e,jL]at hn;refine hn.2.2 d.nm hm d.nm ?_ rfl;rw[aO];exact⟨d,by
  have:(ds.drop j)[0]?=some d:=by rw[zb];simpa using h
  exact aI this,rfl⟩
theorem OY(hn:(ds.map (·.nm)).Nodup)(h:ds[j]?=some d):∀(i:Nat),j<i->i<=ae ds->jd (gJ ds i) d.nm=some (cc ds j:Int)
 |0,hi,_=>oM
 |i+1,hi,hl=>by
  obtain⟨e,he⟩:=aP (l:=ds) (i:=i) oM;rw[AG he,XS (Ec hn he)];by_cases hji:j=i
  ·subst hji;rw[h]at he;injection he with he;subst he;rw[BEq.rfl];rfl
  ·have ih:=OY hn h i oM oM;have eC:d.nm≠e.nm:=by intro heq;have:=Ec hn he;rw[<-heq]at this;rw[Ls this]at ih;cases ih
   rw[xR.2 eC];exact ih
end
def ie(m:ah)(p:Nat)(ws:ah):ah:=m.take p++ws++m.drop (p+ae ws)
def XU(names data:List (bo×Int))(s:bo):Int:=match jd data s with
 |some n=>n
 |none=>(jd names s).getD 0
def lE(names data:List (bo×Int))(p:Nat)(m:ah)(rs:List (Int×bo)):ah:=rs.foldl (λm r=>m.set (p+r.1.toNat) (XU names data r.2)) m
def oy(names data:List (bo×Int))(ds:List cR)(cJ:Nat):Nat->ah
 |0=>List.replicate cJ 0
 |j+1=>match ds[j]? with
  |none=>oy names data ds cJ j
  |some d=>lE names data (cc ds j) (ie (oy names data ds cJ j) (cc ds j) d.words) d.refs
section
variable{names data:List (ByteArray × Int)}{ds:List cR}{cJ j:Nat}{d:cR}{m:List Int}{p:Nat}
theorem AI{ws:ah}(h:p+ae ws<=ae m):ae (ie m p ws)=ae m:=by
 unfold ie;simp;omega
theorem ui:∀(rs:List (Int×bo)) (m:ah),ae (lE names data p m rs)=ae m
 |[],_=>rfl
 |r::rs,m=>(ui rs (m.set (p+r.1.toNat) (XU names data r.2))).trans sI
theorem Ed(h:ds[j]?=some d):oy names data ds cJ (j+1)=lE names data (cc ds j) (ie (oy names data ds cJ j) (cc ds j) d.words) d.refs:=by
 show(match ds[j]? with
  |none=>oy names data ds cJ j
  |some d=>lE names data (cc ds j) (ie (oy names data ds cJ j) (cc ds j) d.words) d.refs)=_
 rw[h]
theorem GZ:∀(j:Nat),j<=ae ds->cc ds (ae ds)<=cJ->ae (oy names data ds cJ j)=cJ
 |0,_,_=>by simp[oy]
 |j+1,hj,hm=>by obtain⟨d,hd⟩:=aP (l:=ds) (i:=j) oM;have ih:=GZ j oM hm;rw[Ed hd,ui,AI,ih];have:=uh (ds:=ds) (j:=j+1) (i:=ae ds) oM;rw[oe hd]at this;omega
end
theorem Pa{fs:List aG}{k:Nat}{x:aG}(h:fs[k]?=some x):ae x.ak<=de fs:=by
 have hk:=(aW.1 h).1;have key:∀n,k<n->n<=ae fs->ae x.ak<=ma fs n:=by
  intro n;induction n with
  |zero=>intro h1;omega
  |succ n ih=>
   intro h1 h2;obtain⟨y,hy⟩:=aP (l:=fs) (i:=n) oM;rw[nS hy];by_cases e:k=n
   ·subst e;rw[h]at hy;injection hy with hy;subst hy;omega
   ·have:=ih oM oM;omega
 have:=key (ae fs) hk (cH _);unfold de;omega
theorem LX{fs:List aG}{k:Nat}{x:aG}(h:fs[k]?=some x){d:Int×Int×Int}(hd:d∈gO (k:Int) x):d∈bQ fs:=by
 unfold bQ ff;rw[fG];refine⟨(x,k),?_,hd⟩;rw[gC];exact nP.2 h
theorem TG{fs:List aG}{k:Nat}{x:aG}(h:fs[k]?=some x){p:cV}(hp:p∈x.ak):(p.dst,(k:Int),-1)∈bQ fs:=LX h (ej _ (aO.2 ⟨p,hp,rfl⟩))
theorem TH{fs:List aG}{k:Nat}{x:aG}(h:fs[k]?=some x){i:Nat}{p:aQ}(hp:x.insts[i]?=some p)(hm:aJ p.op):(p.dst,(k:Int),(i:Int))∈bQ fs:=by
 refine LX h (kF _ ?_);unfold eh;rw[aO];exact⟨(p,i),dY.2 ⟨nP.2 hp,by simpa using hm⟩,rfl⟩
structure Qfm(f:gg):Prop where
 len:ae f.bO=ae f.bF
 at_:∀k:Nat,k<ae f.bF->f.src k=bO (au f.bF) (k:Int)
theorem Qdi{f:gg}(h:Qfm f){k:Nat}(hk:¬k<ae f.bF):f.src k=[]:=by
 unfold gg.src;rw[et,db (by rw[h.len];omega)];rfl
theorem Qku{f:gg}(kC:rH f.bF)(hn:ae f.bF<=1000)(hv:cS f.nm f.pa f.va f.bF=0)(hs:Qfm f):f.WF:=by
 unfold cS at hv;by_cases mg:(de f.bF:Int)>20000\/f.va>20000
 ·rw[ax mg]at hv;cases hv
 rw[ao mg]at hv;have hg:eU f.nm f.pa f.va f.bF:=ym λhg=>by rw[ao hg]at hv;cases hv
 have Ft:=hg.par;have rd:∀(k:Nat) (x:aG),f.bF[k]?=some x->zp (Dm (tg (au f.bF))) (λ_=>20000) tP f.pa f.va f.bF k x:=λk x hx=>by have hk:=(aW.1 hx).1;exact rm hx (hg.reads k hk)
 refine⟨kC,hg.pos,hn,Ft.1,Ft.2.2,oM,λx hx=>y2 (hg.ak x hx),λk x hx=> ?_,hs.len,λk x t hx ht=> ?_,λk=> ?_⟩
 ·have hk:=(aW.1 hx).1;have hm:=aI hx;have hr:=rd k x hx;refine⟨by have:=Pa hx;omega,by have:=DF hx;omega,hg.ends x hm,λhe=> ?_,λhe=> ?_,hg.bN.1 x hm,λi hi v hv=> ?_,λi hi nB=> ?_,λp hp=> ?_,λp hp=> ?_,λp hp v hv=> ?_⟩
  ·have:=hr.fin (.inl he);exact⟨this.1,this.2.1⟩
  ·refine⟨(QF hg x hm).2 he,?_⟩;by_cases hv:x.v= -1
   ·omega
   ·exact(hr.fin (.inr ⟨he,hv⟩)).2.1
  ·obtain⟨j,hj⟩:=bq.1 hi;obtain⟨q,hq⟩:=bq.1 hv;have:=hr.insts j i hj q v hq;exact⟨this.1,this.2.1⟩
  ·obtain⟨j,hj⟩:=bq.1 hi;have:=hg.bN.2.1 _ (TH hx hj nB);simp only at this;omega
  ·have:=hg.bN.2.1 _ (TG hx hp);simp only at this;omega
  ·obtain⟨j,hj⟩:=bq.1 hp;rw[hs.at_ k hk];exact(hr.ak j p hj).1
  ·obtain⟨j,hj⟩:=bq.1 hp;obtain⟨q,hq⟩:=bq.1 hv;have h1:=hr.ak j p hj;obtain⟨s,hsq⟩:=aP (l:=bO (au f.bF) (k:Int)) (i:=q) (by rw[<-h1.1];exact(aW.1 hq).1);have:=h1.2 q v s hq hsq;exact⟨this.1,this.2.1⟩
 ·have hk:=(aW.1 hx).1;have he:=hg.ends x (aI hx);have ht0:0<=t/\t<(ae f.bF:Int):=by rcases he with⟨h0,ha,_⟩|⟨h0,ha,hb,_⟩|⟨h0,_⟩|⟨h0,_⟩<;>rcases ht with⟨h1,h2⟩|⟨h1,h2⟩<;>first|omega|(rcases h2 with h2|h2<;>omega)
  rw[hs.at_ t.toNat oM,jM ht0.1,pt,bM];refine⟨⟨oM,oM⟩,?_⟩;rw[xF oM (x:=x.sb) (by rw[cN];exact gS hx)];unfold Ch;rw[dY,bM];refine⟨?_,by simp[jS,ht0]⟩;show t∈(if x.e=0 then[x.a]else if x.e=1 then(if x.a=x.b then[x.a]else[x.a,x.b])else[]);rcases ht with⟨h1,h2⟩|⟨h1,h2⟩
  ·rw[ax h1,h2];simp
  ·rw[ao oM,ax h1];by_cases e:x.a=x.b
   ·rw[ax e];rcases h2 with h2|h2<;>simp[h2,e]
   ·rw[ao e];rcases h2 with h2|h2<;>simp[h2]
 ·by_cases hk:k<ae f.bF
  ·rw[hs.at_ k hk];have:=jz (au f.bF) (k:Int) (ae (au f.bF));unfold bO;rw[bM]at this⊢;omega
  ·rw[Qdi hs hk];simp
section
variable{P:Program}{c:Code}{K:Act -> World -> Prop}{Q:Exit -> Act -> World -> Prop}{N:FN}{env0:Env}{wr:World}{sp:Nat -> Spec}{J:(Nat -> Bool) -> (Nat -> Value) -> World -> Prop}
theorem Pc(hd:mL c=true)(td:∀i d,bC c i=some d->d<N.n)(Dh:∀j v w w',(sp j).ok v w->(sp j).ok v w')(nI:iT c=true){m:Nat}(ht:tU c m=true)(hm:m<=(opsOf c).size)(rW:∀i,i<m->sS P c Q N env0 sp J i)(Dd:∀a w,(∀aD:Array Bool,aD.size=(opsOf c).size->(∀j,j<m->aD.getD j false=true)->(∀j,m<=j->aD.getD j false=false)->rY c N env0 sp J aD a w->bL P c K Q m a w)):∀(n fuel:Nat) (aD:Array Bool) (a:Act) (w:World),aD.size=(opsOf c).size->ae ((List.range (opsOf c).size).filter (λj=> !aD.getD j false))=n->n<=fuel->(∀j,m<=j->aD.getD j false=false)->rY c N env0 sp J aD a w->wpAny P .any (opsOf c) (Exit.then K Q) fuel aD a w:=by
 intro n;induction n using Nat.strongRecOn with
 |_ n ih=>
  intro fuel aD a w iX hn hf Ol hk;by_cases cY:∀j,j<m->aD.getD j false=true
  ·have hlen:(opsOf c).size<=m+n:=by
    have h1:ae ((List.range (opsOf c).size).filter (λj=> !aD.getD j false))=(opsOf c).size-m:=by
     have e:(List.range (opsOf c).size).filter (λj=> !aD.getD j false)=(List.range (opsOf c).size).filter (λj=>decide (m<=j)):=by
      apply qH;intro j _;by_cases hj:j<m
      ·rw[cY j hj];simp;omega
      ·rw[Ol j oM];simp;omega
     rw[e];have key:∀N,ae ((List.range N).filter (λj=>decide (m<=j)))=N-m:=by
      intro N;induction N with
      |zero=>simp
      |succ N ihN=>
       rw[oH,e8,dG,ihN];by_cases h:m<=N
       ·simp[h];omega
       ·simp[h];omega
     exact key _
    omega
   refine K3 nI ht n fuel m aD a w iX hlen hf (cH _) hm (λj hj=> ?_) (Dd a w aD iX cY Ol hk);by_cases h:j<m
   ·rw[cY j h];simp[h]
   ·rw[Ol j oM];simp[h]
  ·have II:0<n:=by
    rcases C5 n with h0|h0
    ·exfalso;apply cY;intro j hj;cases hq:aD.getD j false with
     |true=>rfl
     |false=>
      have:j∈(List.range (opsOf c).size).filter (λj=> !aD.getD j false):=dY.2 ⟨dp.2 oM,by rw[hq];rfl⟩;have:=tB this;omega
    ·exact h0
   cases fuel with
   |zero=>omega
   |succ fuel=>
    refine⟨λhr=>absurd (λj hj=>l9 nI iX hr j oM) cY,λi hi=> ?_⟩;obtain⟨h1,h2,_⟩:=im hi;have Af:qK c (λq=>aD.getD q false):=by
     obtain⟨ls,vs,hls,qQ,_,_,_,Af,_⟩:=hk;have e:ls=λq=>aD.getD q false:=by
      funext q;rcases ns q aD.size with h|h
      ·exact hls q h
      ·rw[qQ q h];simp[Array.getD,Nat.not_lt.2 h]
     rw[<-e];exact Af
    have Ng:i<m:=by
     rcases ns i m with h|h
     ·exact h
     ·exfalso;apply cY;intro j hj;simp only[tU,gQ,dp,dt]at ht;have hre:reach c (opsOf c).size i j=true:=by
       rcases ht i h1 with h3|h3
       ·have:i<m:=by simpa[p6]using h3
        omega
       ·exact h3 j oM
      exact rX Af (λq hq=>qq hi q hq) hre
    have Sk:=uY iX hi;have qY:i<aD.size:=oM;refine Dg hd td Dh (rW i Ng) iX hi hk (λa' w' lI=> ?_);have ir:ae ((List.range (opsOf c).size).filter (λj=> !(aD.setIfInBounds i true).getD j false))<n:=by
     rw[<-hn];have kE:((List.range (opsOf c).size).filter (λj=> !(aD.setIfInBounds i true).getD j false))=((List.range (opsOf c).size).filter (λj=> !aD.getD j false)).filter (λj=> !(Nat.beq j i)):=by
      rw[y9];apply qH;intro j _;rw[x7 qY];by_cases e:j=i
      ·subst e;simp
      ·have hb:Nat.beq j i=false:=by
        cases hq:Nat.beq j i with
        |false=>rfl
        |true=>exact absurd (ko hq) e
       simp[e,hb]
     rw[kE];have nt:i∈(List.range (opsOf c).size).filter (λj=> !aD.getD j false):=dY.2 ⟨dp.2 h1,by rw[Sk];rfl⟩;exact De.2 ⟨i,nt,sI⟩
    refine ih _ ir fuel _ a' w' (by simpa using iX) rfl oM (λj hj=> ?_) lI;rw[x7 qY,Ol j hj];have:j≠i:=oM;simp[this]
theorem Qnt(m:Nat)(sp:Nat->Spec)(J:(Nat->Bool)->(Nat->Value)->World->Prop){a:Act}(hF:Fr a N env0)(Dh:∀j v w w',(sp j).ok v w->(sp j).ok v w')(h0:J (λ_=>false) (λ_=>undef) wr.drew)(rW:∀i,i<m->sS P c Q N env0 sp J i)(h:∀a' w' (ls:Nat->Bool) (vs:Nat->Value),(∀j,j<m->ls j=true)->J ls vs w'->(∀j,j<m->(sp j).ok (vs j) w')->Fr a' N (sR c sp vs (List.range m)++DK c m env0)->bL P c K Q m a' w')(ht:tU c m=true:=by kernel_rfl)(F8:Nat.ble m (opsOf c).size=true:=by kernel_rfl)(hk:kind c= .region true:=by kernel_rfl)(hm:P.follows .mixedOrders=true:=by kernel_rfl)(hd:mL c=true:=by kernel_rfl)(nI:iT c=true:=by kernel_rfl)(tC:rV env0=true:=by kernel_rfl)(td:(List.range (opsOf c).size).all (λi=>jW (bC c i) N)=true:=by kernel_rfl):W P c K Q a wr:=by
 have NJ:∀i d,bC c i=some d->d<N.n:=by
  intro i d hi;have ir:i<(opsOf c).size:=by
   simp only[bC]at hi;cases ho:(opsOf c)[i]? with
   |none=>simp[ho]at hi
   |some o=>exact(tA.1 ho).1
  simp only[gQ,dp]at td;have:=td i ir;rw[hi]at this;simpa[jW,p6]using this
 have fI:=C4 F8;cases c<;>simp[kind]at hk;rename_i id ops dr;subst hk;refine wp_region_any hm ?_;have S8:∀j,(Array.replicate ops.size false).getD j false=false:=by intro j;simp only[mH,H0];split<;>rfl
 have h1:rY (.region id ops true) N env0 sp J (Array.replicate ops.size false) a {wr with drawn:=wr.drawn+1}:=⟨λ_=>false,λ_=>undef,λj _=>(S8 j).symm,λ_ _=>rfl,h0,hF.defers,hF.size,(λ_ hj=>absurd hj sI),(λ_ hj=>absurd hj sI),λt v htv _=>hF.slot t v (q7 tC htv)⟩;refine Pc (c:= .region id ops true) hd NJ Dh nI ht fI rW ?_ _ ops.size _ a _ (by simp[opsOf]) rfl ?_ (λj _=>S8 j) h1
 ·intro a' w' aD hsz0 cY Ol hk;obtain⟨ls,vs,hls,qQ,hJ,vk,Qgv,_,Ah,q8⟩:=hk;have ir:∀j,j<m->ls j=true:=λj hj=>by rw[hls j oM];exact cY j hj
  refine h a' w' ls vs ir hJ (λj hj=>(Ah j (ir j hj)).1) ⟨vk,Qgv,λt v hv=> ?_⟩;rcases mi hv with h1|h1
  ·obtain⟨j,hj,vl,rfl⟩:=oU h1;obtain⟨h2,h3⟩:=Ah j (ir j (dp.1 hj));rw[Spec.y6 h2];exact h3 t vl
  ·obtain⟨h2,h3⟩:=sg h1;refine q8 t v h2 (λj hj=> ?_);rcases ns j m with hjm|hjm
   ·exact h3 j hjm
   ·rcases ns j aD.size with hq|hq
    ·rw[hls j hq,Ol j hjm]at hj;cases hj
    ·rw[qQ j hq]at hj;cases hj
 ·refine iz (j6 _ _) ?_;simp[opsOf]
end
def Vy.cells(e:Vy):bh:=[vI e.op,vI e.n,.string e.nm,.slice e.A (ae e.kids) e.c]
def Rr.cells(x:Rr):bh:=[vI x.op,vI x.n,.slice x.eA (ae x.exprs) x.ec,.slice x.bA (ae x.body) x.bc,.slice x.lA (ae x.els) x.lc]
def Eu.cells(f:Eu):bh:=[.string f.nm,.bool f.wk,vI f.pa,vI f.lo,.slice f.A (ae f.body) f.c]
mutual
def Qkv:Vy->List bD
 |⟨_,_,_,A,_,kids⟩=> .qU A 4 (kids.map Vy.cells)::Pd kids
def Pd:List Vy->List bD
 |[]=>[]
 |e::r=>Qkv e++Pd r
end
mutual
def Qkw:Rr->List bD
 |⟨_,_,eA,_,exprs,bA,_,body,lA,_,els⟩=> .qU eA 4 (exprs.map Vy.cells):: .qU bA 5 (body.map Rr.cells):: .qU lA 5 (els.map Rr.cells)::(Pd exprs++(Jk body++Jk els))
def Jk:List Rr->List bD
 |[]=>[]
 |x::r=>Qkw x++Jk r
end
def Eu.parts(f:Eu):List bD:= .qU f.A 5 (f.body.map Rr.cells)::Jk f.body
structure TC where
 E:Qdj
 r:Nat
 fA:ar
 fc:Nat
 mB:Nat
 dB:Nat
 mG:Nat
 iA:ar
 ic:Nat
mutual
def exN:Vy->Nat
 |⟨_,_,_,_,_,kids⟩=>1+Qhr kids
def Qhr:List Vy->Nat
 |[]=>0
 |e::r=>exN e+Qhr r
end
mutual
def stN:Rr->Nat
 |⟨_,_,_,_,exprs,_,_,body,_,_,els⟩=>1+Qhr exprs+Qdm body+Qdm els
def Qdm:List Rr->Nat
 |[]=>0
 |x::r=>stN x+Qdm r
end
end Go.Mor
namespace Go.Mor
open List
open List renaming length -> ae
open Go.RowKit
def slE(P:Program)(c:Code)(N:FN)(env:Env)(k:Nat):Option (Option Nat×ar×Nat×Nat×Int×Nat):=match aB c k with
 |some (d,.slice t x (some y) none none,_,g)=>match bU c g env,jW d N,ev env x,ev env y,P.underlying t with
  |some true,true,some (.slice A n cap),some (.int _ i),some (.slice e)=>match(P.info? e).map (·.size)with
   |some size=>some (d,A,n,cap,i,size)
   |none=>none
  |_,_,_,_,_=>none
 |_=>none
theorem Qcb{P:Program}{c:Code}{N:FN}{env:Env}{k:Nat}{d:Option Nat}{A:ar}{n cap size:Nat}{i:Int}(h:slE P c N env k=some (d,A,n,cap,i,size)):∃t x y ty g e kd,aB c k=some (d,.slice t x (some y) none none,ty,g)/\bU c g env=some true/\jW d N=true/\ev env x=some (vS A n cap)/\ev env y=some (.int kd i)/\P.underlying t=some (.slice e)/\(P.info? e).map (·.size)=some size:=by
 unfold slE at h;split at h
 ·rename_i h0;split at h
  ·rename_i h1 h2 h3 h4 h5;split at h
   ·rename_i h6;simp only[eO,dg]at h;obtain⟨rfl,rfl,rfl,rfl,rfl,rfl⟩:=h;exact⟨_,_,_,_,_,_,_,h0,h1,h2,h3,h4,h5,h6⟩
   ·cases h
  ·cases h
 ·cases h
abbrev QjJ(A:ar)(n cap m size:Nat):Value:=vS (if cap=m then A else A.map (·.add (m*size))) (n-m) (cap-m)
section
variable{P:Program}{c:Code}{Q:Exit -> Act -> World -> Prop}{N:FN}{i:Nat}{env0:Env}{wr:World}{sp:Nat -> Spec}
theorem dSl(A:ar)(n cap size m:Nat)(hm:m<=n)(hv:sp i= .bd (QjJ A n cap m size):=by rfl)(hg:∀vs,n5 c i (cO c i sp vs env0)=some true:=by intro _;kernel_rfl)(hk:∀us,slE P (one c i) N (cO c i sp us env0) 0=some (bC c i,A,n,cap,(m:Int),size):=by intro _;kernel_rfl)(he:aB (one c i) 1=none:=by kernel_rfl):l8 P c Q N env0 wr sp i:=by
 refine vC hg (λw vs hK hp a hF=> ?_);obtain⟨t,x,y,ty,g,e,kd,h0,h1,h2,h3,h4,h5,h6⟩:=Qcb (hk vs);exact rT h0 hF h1 h2 rfl m h3 h4 rfl h5 h6 hm (λa' ea _=>aX he ⟨_,ea,Kp.refl w,by rw[hv];rfl⟩)
end
theorem Om{w:World}{A:ar}{v:Value}{vs:bh}{cap:Nat}(h:(bD.rd A (v::vs)).holds w)(hc:ae vs+1<=cap):(bD.rd (if cap=1 then A else A.map (·.add (1*1))) vs).holds w:=by
 intro j u hj;have Vl:=(aW.1 hj).1;obtain⟨a,hA,sQ⟩:=h (j+1) u (by simpa using hj);rw[ao oM,hA];refine⟨_,rfl,?_⟩;rw[pf];rwa [show 1*1+j=j+1 by omega]
theorem RO.Om{S:Nat->Prop}{w:World}{A:ar}{v:Value}{vs:bh}{cap:Nat}(h:RO S w (.rd A (v::vs)))(hc:ae vs+1<=cap):RO S w (.rd (if cap=1 then A else A.map (·.add (1*1))) vs):=by
 refine⟨Mor.Om h.1 hc,λg hg=>h.2 g ?_⟩;obtain⟨eC,a,ha,hb⟩:=hg;refine⟨sI,?_⟩;split at ha
 ·exact⟨a,ha,hb⟩
 ·cases A with
  |none=>cases ha
  |some a0=>
   injection ha with ha;subst ha;exact⟨a0,rfl,by rw[<-hb,block_add]⟩
end Go.Mor
namespace Go.Mor
open List
open List renaming length -> ae
open Go.RowKit
end Go.Mor
namespace Go.Mor
open List
open List renaming length -> ae
end Go.Mor
namespace Go.Mor
open List
open List renaming length -> ae
open Go.RowKit
end Go.Mor
namespace Go.Mor
open List
open List renaming length -> ae
end Go.Mor
namespace Go.Mor
def QjK(P:Program)(c:Code)(N:FN)(env:Env)(k:Nat):Option (Option Nat×ar×Nat×Int):=match aB c k with
 |some (d,.slice t x none (some y) none,_,g)=>match bU c g env,jW d N,ev env x,ev env y,P.underlying t with
  |some true,true,some (.slice A _ cap),some (.int _ i),some (.slice e)=>match(P.info? e).map (·.size)with
   |some _=>some (d,A,cap,i)
   |none=>none
  |_,_,_,_,_=>none
 |_=>none
section
variable{P:Program}{c:Code}{K:Act -> World -> Prop}{Q:Exit -> Act -> World -> Prop}{w w0:World}{S:Nat -> Prop}{L:List bD}{k:Nat}{N:FN}{env:Env}
theorem zhi{A:ar}{cap:Nat}{i:Int}(m:Nat)(hi:i=(m:Int))(hm:m<=cap)(h:∀a,Fr a N (eJ env (bC c k) (vS A m cap))->bL P c K Q (k+1) a w)(hk:QjK P c N env k=some (bC c k,A,cap,i)):∀a,Fr a N env->bL P c K Q k a w:=λa hF=>by
 unfold QjK at hk;split at hk
 ·rename_i h0;split at hk
  ·rename_i h1 h2 h3 h4 h5;split at hk
   ·rename_i sz h6;simp only[eO,dg]at hk;obtain⟨rfl,rfl,rfl,rfl⟩:=hk;exact mI h0 hF h1 h2 rfl m h3 h4 hi h5 h6 hm (λa' _=>h a')
   ·cases hk
  ·cases hk
 ·cases hk
end
theorem wC{α:Type}{f:α->bh}{size:Nat}(hf:∀x,ae (f x)=size):∀(l:List α) (i:Nat) (x:α),l[i]?=some x->∀(j:Nat) (v:Value),(f x)[j]?=some v->(l.flatMap f)[i*size+j]?=some v
 |[],i,x,h,_,_,_=>by simp at h
 |y::l,0,x,h,j,v,hv=>by simp at h;subst h;rw[iE,xK,nK,o9 (aW.1 hv).1];exact hv
 |y::l,i+1,x,h,j,v,hv=>by
  have h':l[i]?=some x:=by simpa using h
  have ih:=wC hf l i x h' j v hv;have e:(i+1)*size+j-ae (f y)=i*size+j:=by rw[hf,Nat.add_mul];omega
  rw[iE,lJ (by rw[hf,Nat.add_mul];omega),e];exact ih
section
variable{P:Program}{c:Code}{K:Act -> World -> Prop}{Q:Exit -> Act -> World -> Prop}{w:World}{k:Nat}{N:FN}{env:Env}
theorem AA{m:Bool}{a:Act}{d:Option Nat}{ty:Nat}{g:Option (Nat×Bool)}{ts:Array TypeId}{x y:Operand}(hk:aB c k=some (d,.call {callee:= .builtin (if m then .max else .min),args:=#[x,y],argTypes:=ts},ty,g))(hF:Fr a N env)(hg:bU c g env=some true)(hd:jW d N=true){kd:IntKind}{i j:Int}(hx:ev env x=some (.int kd i))(hy:ev env y=some (.int kd j))(z:Int)(hz:z=if m then max i j else min i j)(h:∀a,Fr a N (eJ env d (.int kd z))->bL P c K Q (k+1) a w):bL P c K Q k a w:=by
 cases m
 ·refine Dp hk hF hg hd rfl hx hy z ?_ (λa _ hF=>h a hF);rw[hz];simp only[v8,mJ];split<;>omega
 ·refine Xb hk hF hg hd rfl hx hy z ?_ (λa _ hF=>h a hF);rw[hz];simp only[mM];split<;>omega
theorem zmx(d:Option Nat)(x y:Operand)(ts:Array TypeId)(ty:Nat)(kd:IntKind)(i j:Int)(h:∀a,Fr a N (eJ env d (.int kd (max i j)))->bL P c K Q (k+1) a w)(hk:aB c k=some (d,.call {callee:= .builtin .max,args:=#[x,y],argTypes:=ts},ty,none):=by kernel_rfl)(hd:jW d N=true:=by kernel_rfl)(hx:ev env x=some (.int kd i):=by kernel_rfl)(hy:ev env y=some (.int kd j):=by kernel_rfl):∀a,Fr a N env->bL P c K Q k a w:=λ_ hF=>AA (m:=true) hk hF rfl hd hx hy _ rfl h
theorem zmn(d:Option Nat)(x y:Operand)(ts:Array TypeId)(ty:Nat)(kd:IntKind)(i j:Int)(h:∀a,Fr a N (eJ env d (.int kd (min i j)))->bL P c K Q (k+1) a w)(hk:aB c k=some (d,.call {callee:= .builtin .min,args:=#[x,y],argTypes:=ts},ty,none):=by kernel_rfl)(hd:jW d N=true:=by kernel_rfl)(hx:ev env x=some (.int kd i):=by kernel_rfl)(hy:ev env y=some (.int kd j):=by kernel_rfl):∀a,Fr a N env->bL P c K Q k a w:=λ_ hF=>AA (m:=false) hk hF rfl hd hx hy _ rfl h
end
theorem RO.QmZ{S:Nat->Prop}{w:World}:RO S w (.rd none []):=⟨λj v h=>by simp at h,λg hg=>absurd rfl hg.1⟩
section
variable{S:Nat -> Prop}{w0 w:World}{l l' L:List bD}{r r':bD}{k:Nat}
theorem Mem.Xc(h:Mem S w0 w L):Mem S w0 w (.pk []::L):=Mem.pack (l:=[]) h
theorem Mem.qu(h:Mem S w0 w (.pk (r::l)::L)):Mem S w0 w (r:: .pk l::L):=((Mem.pack (l:=l) (h.unpack.perm ((perm_middle (a:=r) (l₁:=l) (l₂:=L)).symm))).perm (we ..):_)
theorem Mem.ib(h:Mem S w0 w (.pk l::r::L)):Mem S w0 w (.pk (l++[r])::L):=Mem.pack (l:=l++[r]) (by simpa using h.unpack)
theorem vE:∀{l:List bD} {k:Nat} {r:bD},l[k]?=some r->l.Perm (r::l.eraseIdx k)
 |[],k,r,h=>by simp at h
 |x::l,0,r,h=>by simp at h;subst h;simp
 |x::l,k+1,r,h=>by simp at h;simp only[NM];exact((vE h).cons x).trans (we ..)
theorem set_perm:∀{l:List bD} {k:Nat} (r:bD),k<ae l->(l.set k r).Perm (r::l.eraseIdx k)
 |[],k,r,h=>by simp at h
 |x::l,0,r,_=>sI
 |x::l,k+1,r,h=>by simp only[Cq,NM];exact((set_perm r (by simpa using h)).cons x).trans (we ..)
theorem Mem.Xd(h:Mem S w0 w (.pk l::L))(k:Nat)(hk:l[k]?=some r):Mem S w0 w (r:: .pk (l.eraseIdx k)::L):=by
 have h1:Mem S w0 w ((r::l.eraseIdx k)++L):=h.unpack.perm ((vE hk).append_right L);have h2:Mem S w0 w (l.eraseIdx k++(r::L)):=h1.perm (by simpa using(perm_middle (a:=r) (l₁:=l.eraseIdx k) (l₂:=L)).symm);exact h2.pack.perm (we ..)
theorem Mem.Qfa(h:Mem S w0 w (r':: .pk (l.eraseIdx k)::L))(hk:k<ae l):Mem S w0 w (.pk (l.set k r')::L):=by
 have h1:Mem S w0 w (.pk (l.eraseIdx k)::r'::L):=h.perm (we ..);have h2:Mem S w0 w (l.eraseIdx k++(r'::L)):=h1.unpack;refine Mem.pack (l:=l.set k r') (h2.perm ?_);refine(perm_middle (a:=r') (l₁:=l.eraseIdx k) (l₂:=L)).trans ?_;exact((set_perm r' hk).symm.append_right L)
theorem Mem.n8(w:World):Mem bI w w [.pk []]:=Mem.Xc (Mem.init w)
theorem iw{α:Type}(l:List α)(x:α):ae (l++[x])=ae l+1:=sI
theorem ix{α β:Type}(f:α->β)(l:List α)(x:α):(l++[x]).map f=l.map f++[f x]:=sI
theorem K4{w:World}{l:ah}(h:(bD.rd none (ints l)).holds w):l=[]:=by
 cases l with
 |nil=>rfl
 |cons x l=>obtain⟨ad,h1,_⟩:=h 0 _ rfl;cases h1
theorem jZ{α β:Type}(f:α->β){l:List α}{k:Nat}{x:α}(h:l[k]?=some x):(l.drop k).map f=f x::(l.drop (k+1)).map f:=by
 obtain⟨hk,he⟩:=aW.1 h;rw[Ae hk,he,gu]
theorem K6{w:World}{A:ar}{ad:Addr}{l:List Bool}(h:(bD.rd A (gf l)).holds w)(hA:A=some ad){i:Int}(h0:0<=i)(h1:i<ae l):w.cell? (ad.add (i.toNat*1))=some (vB (l.getD i.toNat false)):=bW h hA (nv oM)
theorem qv{w:World}{l:List bD}{r:bD}(h:(bD.pk l).holds w)(hr:r∈l):r.holds w:=h.1 r hr
theorem RO.tV(h:RO S w (.pk l))(hr:r∈l):RO S w r:=⟨h.1.1 r hr,λg hg=>h.2 g ⟨r,hr,hg⟩⟩
end
section
variable{P:Program}{c:Code}{K:Act -> World -> Prop}{Q:Exit -> Act -> World -> Prop}{w w0:World}{S:Nat -> Prop}{L:List bD}{k:Nat}{N:FN}{env:Env}{a:Act}
theorem zB0(d:Nat)(t:TypeId)(ty:TypeId)(hF:Fr a N env){e size:Nat}(hM:Mem S w0 w L)(h:∀b w',w0.heap.size<=b->w.heap.size<=b->Mem S w0 w' (L++[.row e size (some (aZ b)) 0 0 []])->Mem bI w w' [.row e size (some (aZ b)) 0 0 []]->∀a',a'=a.put (some d) (vS (some (aZ b)) 0 0)->Fr a' N (eJ env (some d) (vS (some (aZ b)) 0 0))->bL P c K Q (k+1) a' w')(hk:aB c k=some (some d,.buildSlice t 0 #[],ty,none):=by kernel_rfl)(hd:jW (some d) N=true:=by kernel_rfl)(ht:P.underlying t=some (.slice e):=by kernel_rfl)(hi:(P.info? e).map (λi=>i.size)=some size:=by kernel_rfl):bL P c K Q k a w:=qb hk hF rfl hd rfl ht hi hM h
end
theorem On{fn:Func}{t u:Tmp}{ty:TypeId}(h:fn.results=#[.cell t ty,.tmp u])(tmps:Array Value)(P:Program)(w:World){ad:Addr}{vs:bh}{v':Value}(hp:tmps[t]?=some (vP ad))(hq:tmps[u]?=some v')(ht:y5 P ty=some (ae vs))(hc:∀(j:Nat) (v:Value),vs[j]?=some v->w.cell? (ad.add j)=some v):(results fn tmps).run P w= .ok (.tuple #[.agg vs.toArray,v']) w:=by
 obtain⟨h1,h2⟩:=oT ht w;have ha:(asAddr (vP ad)).run P w= .ok ad w:=rfl;have hl:(loadVar ty ad).run P w= .ok (.agg vs.toArray) w:=by simp[loadVar,h1,h2,HO (P:=P) w ad vs hc]
 simp only[results,h];simp[gG,Result.andThen,mH,hp,hq,ha,hl]
def ctE(fn:Func)(env:Env):Option (Addr×TypeId×Value):=match fn.results.toList with
 |[.cell t ty,.tmp u]=>match look env t,look env u with
  |some (.pointer (some ad)),some v=>some (ad,ty,v)
  |_,_=>none
 |_=>none
theorem Qcc{P:Program}{fn:Func}{Φ:Value->World->Prop}{N:FN}{env:Env}{w:World}(ad:Addr)(ty:TypeId)(vs:bh)(v':Value)(hc:∀(j:Nat) (v:Value),vs[j]?=some v->w.cell? (ad.add j)=some v)(h:Φ (.tuple #[.agg vs.toArray,v']) w)(ht:y5 P ty=some (ae vs):=by kernel_rfl)(hk:ctE fn env=some (ad,ty,v'):=by kernel_rfl)(hD:N.D=[]:=by rfl):∀a,Fr a N env->bodyPost P fn (gp Φ) .ret a w:=λa hF=>by
 unfold ctE at hk;split at hk
 ·rename_i t ty0 u hr;split at hk
  ·rename_i ad0 v0 h1 h2;simp only[eO,dg]at hk;obtain⟨rfl,rfl,rfl⟩:=hk;refine bodyPost_ret (v:= .tuple #[.agg vs.toArray,v0]) ?_ (hF.defers.trans hD) ⟨_,rfl,h⟩;refine On (by apply o4;simpa using hr) _ _ _ ?_ ?_ ht hc
   ·exact hF.slot _ _ h1
   ·exact hF.slot _ _ h2
  ·cases hk
 ·cases hk
def jB(p:cV):bD:= .row 3 1 p.A (ae p.args) p.c (ints p.args)
def fD(p:aQ):bD:= .row 3 1 p.A (ae p.args) p.c (ints p.args)
def yQ(l:List cV):bh:=l.flatMap cV.cells
def ow(l:List aQ):bh:=l.flatMap aQ.cells
def rJ(l:List aG):bh:=l.flatMap xV
def Vr(A:ar)(c:Nat)(l:List cV):bD:= .row 100 2 A (ae l) c (yQ l)
def jC(A:ar)(c:Nat)(l:List aQ):bD:= .row 45 5 A (ae l) c (ow l)
def Nh(A:ar)(c:Nat)(l:List aG):bD:= .row 49 6 A (ae l) c (rJ l)
abbrev Qcd(x:aG):List bD:=[Vr x.pA x.pc x.ak,jC x.iA x.ic x.insts,.pk (x.ak.map jB),.pk (x.insts.map fD)]
def iy(x:aG):bD:= .pk (Qcd x)
abbrev Oo(A:ar)(c:Nat)(fs:List aG):List bD:=[Nh A c fs,.pk (fs.map iy)]
theorem K7(l:List cV)(x:cV):yQ (l++[x])=yQ l++x.cells:=by simp[yQ]
theorem Xe(l:List aQ)(x:aQ):ow (l++[x])=ow l++x.cells:=by simp[ow]
theorem K8(l:List aG)(x:aG):rJ (l++[x])=rJ l++xV x:=by simp[rJ]
theorem qS(p:cV):ae p.cells=2:=rfl
theorem kB(p:aQ):ae p.cells=5:=rfl
theorem DM(x:aG):ae (xV x)=6:=rfl
theorem pD{α:Type}{f:α->bh}{k:Nat}(hf:∀x,ae (f x)=k){w:World}{A:ar}{l:List α}(hk:0<k)(h:(bD.rd A (l.flatMap f)).holds w):(bD.qU A k (l.map f)).holds w:=by
 intro i cs hi;rw[aL,jJ]at hi;obtain⟨x,hx,rfl⟩:=hi;have h0:∃v,(f x)[0]?=some v:=⟨_,dF (by rw[hf];exact hk)⟩;obtain⟨v0,IL⟩:=h0;obtain⟨ad,hA,_⟩:=h _ v0 (IK hf l i x hx 0 v0 IL);refine⟨ad,hA,λj v hj=> ?_⟩;obtain⟨ad',hA',hc⟩:=h _ v (IK hf l i x hx j v hj);rw[hA]at hA';injection hA' with hA';subst hA';rw[pf];exact hc
theorem GC{w:World}{A:ar}{c:Nat}{fs:List aG}(h1:(Nh A c fs).holds w)(h2:(bD.pk (fs.map iy)).holds w):(bD.fn A fs).holds w:=by
 intro r hr;rcases cG.1 hr with rfl|hr
 ·have:=pD (f:=xV) DM oM (aF h1);unfold bD.blocks;rw[show(au fs).map SB.cells=fs.map xV by unfold au;rw[dz];rfl];exact this
 ·obtain⟨x,hx,hr⟩:=fG.1 hr;have hb:(iy x).holds w:=qv h2 (aO.2 ⟨x,hx,rfl⟩);have b1:(Vr x.pA x.pc x.ak).holds w:=qv hb sI;have b2:(jC x.iA x.ic x.insts).holds w:=qv hb sI;have b3:(bD.pk (x.ak.map jB)).holds w:=qv hb sI;have b4:(bD.pk (x.insts.map fD)).holds w:=qv hb sI;unfold aG.parts at hr;rcases cG.1 hr with rfl|hr
  ·exact pD qS oM (aF b1)
  rcases cG.1 hr with rfl|hr
  ·exact pD kB oM (aF b2)
  rcases bV.1 hr with hr|hr
  ·obtain⟨p,hp,rfl⟩:=aO.1 hr;exact aF (qv b3 (aO.2 ⟨p,hp,rfl⟩))
  ·obtain⟨p,hp,rfl⟩:=aO.1 hr;exact aF (qv b4 (aO.2 ⟨p,hp,rfl⟩))
theorem Qce{fs:List aG}{gd:List aG}{k:Nat}{x y:aG}(h:gd.map aG.e0=(fs.take k).map aG.e0)(hx:fs[k]?=some x)(hy:y.e0=x.e0):(gd++[y]).map aG.e0=(fs.take (k+1)).map aG.e0:=by
 obtain⟨hk,he⟩:=aW.1 hx;rw[bZ,h,dh hk,bZ,he];simp[hy]
theorem Qcf{l:List cV}{d:List cV}{k:Nat}{x y:cV}(h:d.map cV.e0=(l.take k).map cV.e0)(hx:l[k]?=some x)(hy:y.e0=x.e0):(d++[y]).map cV.e0=(l.take (k+1)).map cV.e0:=by
 obtain⟨hk,he⟩:=aW.1 hx;rw[bZ,h,dh hk,bZ,he];simp[hy]
theorem Qcg{l:List aQ}{d:List aQ}{k:Nat}{x y:aQ}(h:d.map aQ.e0=(l.take k).map aQ.e0)(hx:l[k]?=some x)(hy:y.e0=x.e0):(d++[y]).map aQ.e0=(l.take (k+1)).map aQ.e0:=by
 obtain⟨hk,he⟩:=aW.1 hx;rw[bZ,h,dh hk,bZ,he];simp[hy]
theorem K9{α β γ:Type}{f:α->γ}{g:β->γ}{l:List α}{m:List β}(h:l.map f=m.map g):ae l=ae m:=by simpa using aK List.length h
theorem oJ{α β:Type}{f:α->β}{l m:List α}(h:l.map f=m.map f):ae l=ae m:=by simpa using aK List.length h
structure FSm(fs:List aG):Prop where
 lp:∀x,x∈fs->ae x.ak<=20000
 li:∀x,x∈fs->ae x.insts<=20000
 ap:∀x,x∈fs->∀p,p∈x.ak->ae p.args<=20000
 ai:∀x,x∈fs->∀p,p∈x.insts->ae p.args<=20000
structure fN where
 dst:Int
 fA:ar
 fc:Nat
 from_:ah
 aA:ar
 ac:Nat
 args:ah
def fN.cells(p:fN):bh:=[vI p.dst,.slice p.fA (ae p.from_) p.fc,.slice p.aA (ae p.args) p.ac]
abbrev gpV(p:fN):bh:=[vI p.dst,.slice p.fA (ae p.from_) p.fc,.slice p.aA (ae p.args) p.ac]
structure aY where
 g:Nat
 pA:ar
 pc:Nat
 ak:List fN
 iA:ar
 ic:Nat
 insts:List aQ
 e:Int
 v:Int
 a:Int
 b:Int
 gone:Bool
abbrev gV(x:aY):bh:=[.slice x.pA (ae x.ak) x.pc,.slice x.iA (ae x.insts) x.ic,vI x.e,vI x.v,vI x.a,vI x.b,.bool x.gone]
def fm(p:fN):bD:= .row 3 1 p.fA (ae p.from_) p.fc (ints p.from_)
def fz(p:fN):bD:= .row 3 1 p.aA (ae p.args) p.ac (ints p.args)
def om(l:List fN):bh:=l.flatMap fN.cells
def rK(A:ar)(c:Nat)(l:List fN):bD:= .row 81 3 A (ae l) c (om l)
abbrev gL(x:aY):List bD:=[.aM x.g 79 (gV x),rK x.pA x.pc x.ak,jC x.iA x.ic x.insts,.pk (x.ak.map fm),.pk (x.ak.map fz),.pk (x.insts.map fD)]
def gB(x:aY):bD:= .pk (gL x)
theorem Xf(l:List fN)(x:fN):om (l++[x])=om l++x.cells:=by simp[om]
def nh(gs:List aY):bh:=gs.map (λx=> .pointer (some (aZ x.g)))
def jH(A:ar)(c:Nat)(gs:List aY):bD:= .row 76 1 A (ae gs) c (nh gs)
abbrev gF(q:Nat)(nm:bo)(wk:Bool)(pa va:Int)(bA:ar)(bn bc:Nat)(A:ar)(c:Nat)(gs:List aY):List bD:=[.aM q 75 (cg nm wk pa va bA bn bc A (ae gs) c),jH A c gs,.pk (gs.map gB)]
structure da where
 dst:Int
 from_:ah
 args:ah
structure bp where
 ak:List da
 insts:List aQ
 e:Int
 v:Int
 a:Int
 b:Int
 gone:Bool
def fN.k(p:fN):da:=⟨p.dst,p.from_,p.args⟩
def aY.k(x:aY):bp:=⟨x.ak.map fN.k,x.insts.map aQ.e0,x.e,x.v,x.a,x.b,x.gone⟩
def qw(s:ah)(p:cV):da:=⟨p.dst,s,p.args⟩
def x8(fs:List aG)(k:Nat)(x:aG):bp:=⟨x.ak.map (qw (bO (au fs) (k:Int))),x.insts.map aQ.e0,x.e,x.v,x.a,x.b,false⟩
def gM(fs:List aG):List bp:=fs.zipIdx.map (λp=>x8 fs p.2 p.1)
section
variable{fs gs:List aG}{k:Nat}{x:aG}
theorem mq(h:fs[k]?=some x):(gM fs)[k]?=some (x8 fs k x):=by
 unfold gM;rw[aL,l6,h];simp
theorem jh(fs:List aG):ae (gM fs)=ae fs:=by simp[gM]
theorem Oq{l:List aY}{y:aY}(hl:l.map aY.k=(gM fs).take k)(hx:fs[k]?=some x)(hy:y.k=x8 fs k x):(l++[y]).map aY.k=(gM fs).take (k+1):=by
 obtain⟨h1,h2⟩:=aW.1 (mq hx);rw[bZ,hl,dh h1,h2,<-hy];rfl
theorem Ot{s:ah}{l:List cV}{d:List fN}{j:Nat}{p:cV}{y:fN}(hl:d.map fN.k=(l.take j).map (qw s))(hp:l[j]?=some p)(hy:y.k=qw s p):(d++[y]).map fN.k=(l.take (j+1)).map (qw s):=by
 obtain⟨h1,h2⟩:=aW.1 hp;rw[bZ,hl,dh h1,bZ,h2];simp[hy]
theorem AB(h:fY gs fs):gM gs=gM fs:=by
 have hs:=zr (QG h);refine fM λk=> ?_
 cases hx:fs[k]? with
 |none=>
  have:gs[k]?=none:=by rw[getElem?_eq_none_iff]at hx⊢;rw[h.len];exact hx
  rw[getElem?_eq_none_iff]at hx this;rw[db (by rw[jh];exact this),db (by rw[jh];exact hx)]
 |some x=>
  obtain⟨y,hy,e⟩:=tR h.symm hx;rw[mq hx,mq hy];unfold x8;rw[hs,W8 e,W9 e,QgP e,QgQ e];have e1:=tS e;have e2:∀s,y.ak.map (qw s)=x.ak.map (qw s):=by intro s;have:qw s=qw s∘cV.e0:=rfl;rw[this,<-dz,<-dz,uT e]
  rw[e1,e2]
theorem FSm.alike(h:fY gs fs)(hs:FSm fs):FSm gs:=by
 have key:∀x,x∈gs->∃y,y∈fs/\x.e0=y.e0:=by intro x hx;obtain⟨k,hk⟩:=bq.1 hx;obtain⟨y,hy,e⟩:=tR h hk;exact⟨y,aI hy,e⟩
 refine⟨λx hx=> ?_,λx hx=> ?_,λx hx p hp=> ?_,λx hx p hp=> ?_⟩
 ·obtain⟨y,hy,e⟩:=key x hx;rw[oJ (uT e)];exact hs.lp y hy
 ·obtain⟨y,hy,e⟩:=key x hx;rw[oJ (tS e)];exact hs.li y hy
 ·obtain⟨y,hy,e⟩:=key x hx;obtain⟨j,hj⟩:=bq.1 hp;obtain⟨q,hq,_,e2⟩:=Og e hj;rw[e2];exact hs.ap y hy q (aI hq)
 ·obtain⟨y,hy,e⟩:=key x hx;obtain⟨j,hj⟩:=bq.1 hp;obtain⟨q,hq,_,_,_,_,e2⟩:=IC e hj;rw[e2];exact hs.ai y hy q (aI hq)
end
section
variable{w:World}{A:Option Addr}{c:Nat}{ad:Addr}{k:Nat}
theorem Qch{fs:List aG}{x:aG}(h:(Nh A c fs).holds w)(hA:A=some ad)(hx:fs[k]?=some x):∀j v,(xV x)[j]?=some v->w.cell? ((ad.add (k*6)).add j)=some v:=bS (cs:=xV x) (pD (f:=xV) DM oM (aF h)) hA (by rw[aL,hx];rfl)
theorem Qci{l:List cV}{p:cV}(h:(Vr A c l).holds w)(hA:A=some ad)(hp:l[k]?=some p):∀j v,(pV p)[j]?=some v->w.cell? ((ad.add (k*2)).add j)=some v:=bS (cs:=p.cells) (pD (f:=cV.cells) qS oM (aF h)) hA (by rw[aL,hp];rfl)
theorem lv{l:List aQ}{p:aQ}(h:(jC A c l).holds w)(hA:A=some ad)(hp:l[k]?=some p):∀j v,(iV p)[j]?=some v->w.cell? ((ad.add (k*5)).add j)=some v:=bS (cs:=p.cells) (pD (f:=aQ.cells) kB oM (aF h)) hA (by rw[aL,hp];rfl)
theorem mQ(p:fN):ae p.cells=3:=rfl
theorem Ou{l:List fN}{p:fN}(h:(rK A c l).holds w)(hA:A=some ad)(hp:l[k]?=some p):∀j v,(gpV p)[j]?=some v->w.cell? ((ad.add (k*3)).add j)=some v:=bS (cs:=p.cells) (pD (f:=fN.cells) mQ oM (aF h)) hA (by rw[aL,hp];rfl)
theorem QgS{fs:List aG}(h:(Nh A c fs).holds w):(bD.blocks A (au fs)).holds w:=by
 have:=pD (f:=xV) DM oM (aF h);unfold bD.blocks;rw[show(au fs).map SB.cells=fs.map xV by unfold au;rw[dz];rfl];exact this
theorem lK{e size n:Nat}{xs:bh}(h:(bD.row e size A n c xs).holds w)(hn:0<ae xs):∃ad,A=some ad:=rd_some (aF h) hn
end
def Qm0(rl:List Bool):Nat:=rl.countP (λb=>b)
structure VR(n:Nat)(x:aG):Prop where
 ak:∀p,p∈x.ak->0<=p.dst/\p.dst<(n:Int)
 insts:∀p,p∈x.insts->-1<=p.dst/\p.dst<(n:Int)/\∀a,a∈p.args->0<=a/\a<(n:Int)
 fin:Fs x->0<=x.v/\x.v<(n:Int)
def cR.parts(d:cR):List bD:=[.rd d.wA (ints d.words),.qU d.rA 2 (d.refs.map Ea)]
def bD.gE(A:ar)(ds:List cR):bD:= .all (.qU A 4 (ds.map cR.cells)::ds.flatMap cR.parts)
section
variable{S:Nat -> Prop}{w:World}{A:Option Addr}{ds:List cR}{d:cR}
theorem RO.Qg8(h:RO S w (.gE A ds)):RO S w (.qU A 4 (ds.map cR.cells)):=h.sub (cK ..)
theorem RO.Qg9(h:RO S w (.gE A ds))(hd:d∈ds):RO S w (.rd d.wA (ints d.words)):=h.sub (cr _ (fG.2 ⟨d,hd,by simp[cR.parts]⟩))
theorem RO.Qkl(h:RO S w (.gE A ds))(hd:d∈ds):RO S w (.qU d.rA 2 (d.refs.map Ea)):=h.sub (cr _ (fG.2 ⟨d,hd,by simp[cR.parts]⟩))
end
structure cR.WF(d:cR):Prop where
 name:bX d.nm
 len:ae d.words<=16384
 rlen:ae d.refs<=16384
 refs:∀r,r∈d.refs->0<=r.1/\r.1<ae d.words
abbrev lyS(mem:ah)(n:Int):dT:=⟨mem,n,0,[],0,0⟩
theorem mV{α:Type}{f:α->bh}{w:World}{e size n c:Nat}{A:ar}{l:List α}(hf:∀x,ae (f x)=size)(h0:0<size)(h:(bD.row e size A n c (l.flatMap f)).holds w):(bD.qU A size (l.map f)).holds w:=by
 have hr:=aF h;intro i cs hi;rw[aL]at hi;cases hx:l[i]? with
 |none=>rw[hx]at hi;cases hi
 |some x=>
  rw[hx]at hi;injection hi with hi;subst hi;have eC:0<ae (f x):=by rw[hf];exact h0
  obtain⟨a,hA,_⟩:=hr (i*size+0) (f x)[0] (wC hf l i x hx 0 _ (by rw[dF eC]));refine⟨a,hA,λj v hv=> ?_⟩;obtain⟨a',hA',hc⟩:=hr (i*size+j) v (wC hf l i x hx j v hv);rw[hA]at hA';injection hA' with hA';subst hA';rw[add_add];exact hc
theorem RO.all{S:Nat->Prop}{w:World}{l:List bD}(h:∀r,r∈l->RO S w r):RO S w (.all l):=⟨λr hr=>(h r hr).1,λg ⟨r,hr,hg⟩=>(h r hr).2 g hg⟩
def Tu:eH Unit->Int×Int×dT
 | .ok _ s=>(1,0,s)
 | .stop k c s=>(k,c,s)
theorem RO.mono{S:Nat->Prop}{w:World}{r r':bD}(h:RO S w r)(hh:r.holds w->r'.holds w)(hf:∀g,r'.fp g->r.fp g):RO S w r':=⟨hh h.1,λg hg=>h.2 g (hf g hg)⟩
theorem XW(n:Nat):List.replicate n (vI 0)=ints (List.replicate n 0):=by simp[ints]
theorem Mem.pk2{S:Nat->Prop}{w0 w:World}{X l L:List bD}(h:Mem S w0 w (.pk X::(l++L))):Mem S w0 w (.pk (X++l)::L):=by
 have h1:=h.unpack;rw[<-dV]at h1;exact h1.pack
theorem Mem.pk0{S:Nat->Prop}{w0 w:World}{L:List bD}(h:Mem S w0 w L):Mem S w0 w (.pk []::L):=Mem.pack (l:=[]) h
abbrev Out:=Int×Int×ah×Int
def oz(g:eH Unit):Out:=((Tu g).1,(Tu g).2.1,(Tu g).2.2.out,(Tu g).2.2.steps)
abbrev Qno(o:Out)(oA:ar)(oc:Nat):Value:= .agg #[vI o.1,vI o.2.1,.slice oA (ae o.2.2.1) oc,vI o.2.2.2]
def u7{α:Type}:eH α->dT
 | .ok _ s=>s
 | .stop _ _ s=>s
def dE(s s':dT):Prop:=s.steps<=s'.steps/\∃t,s'.out=s.out++t
theorem dE.refl(s:dT):dE s s:=⟨dv _,[],(iq _).symm⟩
theorem dE.trans{a b c:dT}(h:dE a b)(h2:dE b c):dE a c:=by
 obtain⟨h1,t,ht⟩:=h;obtain⟨h3,u,hu⟩:=h2;exact⟨Int.le_trans h1 h3,t++u,by rw[hu,ht,dV]⟩
section
variable{α β:Type}{F:Int}
theorem kW{r:eH α}{f:α->dT->eH β}(hf:∀a s,dE s (u7 (f a s))):dE (u7 r) (u7 (r.bind f)):=by
 cases r with
 |ok a s=>exact hf a s
 |stop k c s=>exact dE.refl s
end
section
variable{E:Env0}
theorem wR{E:Env0}{s:dT}:dE s (u7 (ey E s)):=by
 unfold ey;split
 ·exact dE.refl s
 ·exact⟨by show s.steps<=s.steps+1;omega,[],(iq _).symm⟩
theorem Lw{α:Type}{n:Int}{s:dT}{f:Nat->dT->eH α}(hf:∀a,dE s (u7 (f a s))):dE s (u7 ((yR n s).bind f)):=by
 unfold yR;split
 ·exact dE.refl s
 ·exact hf _
theorem Lx{α:Type}{s s':dT}{r:eH α}{v:α}(h:dE s (u7 r))(e:r= .ok v s'):s.steps<=s'.steps:=by
 subst e;exact h.1
theorem G0{s s':dT}{u:Unit}(h:ey E s= .ok u s'):s.steps<s'.steps:=by
 unfold ey at h;split at h
 ·cases h
 ·injection h with _ h;rw[<-h];show s.steps<s.steps+1;omega
end
structure gP where
 pkg:bo
 fA:ar
 fc:Nat
 fns:List Eu
 dA:ar
 dc:Nat
 gE:List cR
def gP.cells(m:gP):bh:=[.string m.pkg,.slice m.fA (ae m.fns) m.fc,.slice m.dA (ae m.gE) m.dc]
def flD(ms:List gP):List cR:=ms.flatMap (·.gE)
def nwD(ms:List gP):NW:=(flD ms).map λd=>(d.nm,d.wk)
section
variable{α β:Type}{g:α -> List β}{ms:List α}{j k:Nat}{m:α}{x:β}
def vq(g:α->List β)(ms:List α)(j:Nat):Nat:=ae ((ms.take j).flatMap g)
theorem LY(h:ms[j]?=some m):vq g ms (j+1)=vq g ms j+ae (g m):=by
 unfold vq;rw[qB,h];simp
theorem Qdk(h:ae ms<=j):vq g ms j=ae (ms.flatMap g):=by unfold vq;rw[cL h]
theorem TI(h:ms[j]?=some m)(hx:(g m)[k]?=some x):(ms.flatMap g)[vq g ms j+k]?=some x:=by
 obtain⟨ir,he⟩:=aW.1 h;have e:ms=ms.take j++m::ms.drop (j+1):=by rw[<-he,<-Ae ir,oI]
 have hk:=(aW.1 hx).1;unfold vq;generalize hp:(ms.take j).flatMap g=p;rw[e,qf,hp,iE,lJ oM,show ae p+k-ae p=k by omega,o9 hk];exact hx
theorem Qhp(h:ms[j]?=some m):vq g ms j+ae (g m)<=ae (ms.flatMap g):=by
 rcases C5 (ae (g m))with h0|h0
 ·rw[h0];have:(ms.take j).flatMap g++(ms.drop j).flatMap g=ms.flatMap g:=by rw[<-qf,oI]
  have h2:=aK List.length this;rw[dG]at h2;unfold vq;omega
 ·obtain⟨x,hx⟩:=aP (l:=g m) (i:=ae (g m)-1) oM;have:=(aW.1 (TI h hx)).1;omega
end
abbrev Ev:=bo×Bool
theorem Qhq{a b:bo}(h:a.data.toList=b.data.toList):a=b:=by
 cases a;cases b;simp only at h;congr 1;exact o4 h
def csD(ms:List gP):List cR:=cy (nwD ms) (flD ms) (ae (flD ms))
def Hf(cs:List Eu)(j:Nat):List (bo×Int):=(cs.take j).zipIdx.map (λp=>(p.1.nm,((p.2+1:Nat):Int)))
def gP.parts(m:gP):List bD:= .qU m.fA 5 (m.fns.map Eu.cells):: .qU m.dA 4 (m.gE.map cR.cells)::(m.fns.flatMap Eu.parts++m.gE.flatMap cR.parts)
def bD.Qdl(A:ar)(ms:List gP):bD:= .all (.qU A 3 (ms.map gP.cells)::ms.flatMap gP.parts)
section
variable{S:Nat -> Prop}{w:World}{A:Option Addr}{ms:List gP}{m:gP}{f:Eu}{d:cR}
theorem RO.Yu(h:RO S w (.Qdl A ms)):RO S w (.qU A 3 (ms.map gP.cells)):=h.sub (cK ..)
end
def lyT(names data:List (bo×Int))(cJ:Nat)(cs:List cR):ah:=if cc cs (ae cs)<=cJ then oy names data cs cJ (ae cs)else List.replicate cJ 0
def esQ(lo op n:Int)(sz k:Nat):Prop:=(op=1/\k=0/\sz=0)\/(op=2/\k=0/\sz=0/\0<=n/\n<lo)\/(op=3/\k=2/\sz=0/\1<=n/\n<=16)\/(op=4/\k=1/\sz=0/\1<=n/\n<=3)\/(op=5/\k=1/\sz=0/\0<=n/\n<=2147483647)\/(op=6/\k<=16/\1<=sz/\sz<=60/\n=0)\/(op=7/\1<=k/\k<=17/\sz=0/\n=0)\/(op=8/\k=0/\1<=sz/\sz<=60/\n=0)\/(op=9/\k=0/\1<=sz/\sz<=60/\n=0)\/(op=10/\k=1/\sz=0/\n=0)\/(op=11/\k=0/\sz=0/\n=0)\/(op=12/\k=3/\sz=0/\n=0)\/(op=13/\k=2/\sz=0/\1<=n/\n<=999)
instance (lo op n : Int) (sz k : Nat) : Decidable (esQ lo op n sz k) := by unfold esQ; infer_instance
def sfQ(lo lp op n:Int)(ke kb kl:Nat):Prop:=(op=1/\ke=1/\kb=0/\kl=0/\0<=n/\n<lo)\/(op=2/\ke=2/\kb=0/\kl=0/\0<=n/\n<=2147483647)\/(op=3/\ke=1/\kb=0/\kl=0/\n=0)\/(op=4/\ke=1/\kb=0/\kl=0/\n=0)\/(op=5/\ke=1/\n=0)\/(op=6/\ke=0/\kl=0/\n=0)\/(op=7/\ke=0/\kb=0/\kl=0/\0<=n/\n<lp)\/(op=8/\ke=0/\kb=0/\kl=0/\0<=n/\n<lp)\/(op=9/\(ke=0\/ke=1)/\kb=0/\kl=0/\n=0)\/(op=10/\ke=0/\kb=0/\kl=0/\1<=n/\n<=999)
instance (lo lp op n : Int) (ke kb kl : Nat) : Decidable (sfQ lo lp op n ke kb kl) := by unfold sfQ; infer_instance
mutual
def exV(lo:Int):Int->Vy->Bool
 |d,⟨op,n,nm,_,_,kids⟩=>decide (d<=100/\esQ lo op n nm.size (ae kids))&&Qhs lo (d+1) kids
def Qhs(lo:Int):Int->List Vy->Bool
 |_,[]=>true
 |d,e::r=>exV lo d e&&Qhs lo d r
end
abbrev inner(op lp:Int):Int:=if op=6 then lp+1 else lp
mutual
def stV(lo:Int):Int->Int->Rr->Bool
 |lp,d,⟨op,n,_,_,exprs,_,_,body,_,_,els⟩=>decide (d<=100/\sfQ lo lp op n (ae exprs) (ae body) (ae els))&&(Qhs lo (d+1) exprs&&(Qdn lo (inner op lp) (d+1) body&&Qdn lo (inner op lp) (d+1) els))
def Qdn(lo:Int):Int->Int->List Rr->Bool
 |_,_,[]=>true
 |lp,d,x::r=>stV lo lp d x&&Qdn lo lp d r
end
def fnQ(f:Eu):Prop:=bX f.nm/\(0<=f.pa/\f.pa<=16)/\(f.pa<=f.lo/\f.lo<=2000)
instance (f : Eu) : Decidable (fnQ f) := by unfold fnQ; infer_instance
def fnV(f:Eu):Bool:=decide (fnQ f)&&Qdn f.lo 0 0 f.body
def uu(d:cR):Prop:=(∀(j:Nat) (r:Int×bo),d.refs[j]?=some r->bX r.2/\(0<=r.1/\r.1<(ae d.words:Int))/\r.1∉(d.refs.take j).map (·.1))/\bX d.nm
noncomputable instance (d : cR) : Decidable (uu d) := Classical.propDecidable _
end Go.Mor
namespace Go.Mor
open List
open List renaming length -> ae
open Go.RowKit
end Go.Mor
namespace Go.Mor
open List
open List renaming length -> ae
end Go.Mor
namespace Go.Mor
open List
open List renaming length -> ae
end Go.Mor
namespace Go.Mor
open List
open List renaming length -> ae
open Go.RowKit
theorem Xk{fs:List aG}{k:Nat}{x:aG}{p:cV}(hx:fs[k]?=some x)(hp:p∈x.ak):(p.dst,(k:Int),-1)∈bQ fs:=by
 unfold bQ ff;rw[gC,fG];exact⟨(x,k),nP.2 hx,ej _ (aO.2 ⟨p,hp,rfl⟩)⟩
theorem Lf{fs:List aG}{k j:Nat}{x:aG}{p:aQ}(hx:fs[k]?=some x)(hp:x.insts[j]?=some p)(hm:aJ p.op):(p.dst,(k:Int),(j:Int))∈bQ fs:=by
 unfold bQ ff;rw[gC,fG];exact⟨(x,k),nP.2 hx,kF _ (aO.2 ⟨(p,j),dY.2 ⟨nP.2 hp,by simpa using hm⟩,rfl⟩)⟩
section
variable{nm:ByteArray}{pa va:Int}{fs:List aG}{n:Nat}
theorem Qco(h:eU nm pa va fs)(kr:va=(n:Int)):∀x,x∈fs->VR n x:=by
 intro x hx;obtain⟨k,hk⟩:=bq.1 hx;have BG:=(aW.1 hk).1;obtain⟨y,hy,hr⟩:=h.reads k BG;rw[hk]at hy;injection hy with hy;subst hy;have hp0:=h.par;refine⟨λp hp=> ?_,λp hp=> ?_,λhf=> ?_⟩
 ·have:=h.bN.2.1 _ (Xk hk hp);simp only at this;omega
 ·obtain⟨j,hj⟩:=bq.1 hp;have ha:∀a,a∈p.args->0<=a/\a<(n:Int):=by intro a ha;obtain⟨i,hi⟩:=bq.1 ha;have:=hr.insts j p hj i a hi;exact⟨this.1,by rw[<-kr];exact this.2.1⟩
  by_cases hm:aJ p.op
  ·have:=h.bN.2.1 _ (Lf hk hj hm);simp only at this;exact⟨oM,oM,ha⟩
  ·rcases(h.bN.1 x hx p hp).1 with h1|h1
   ·exact absurd h1 hm
   ·exact⟨oM,oM,ha⟩
 ·have:=hr.fin (by unfold Fs at hf;unfold tP;omega);exact⟨this.1,by rw[<-kr];exact this.2.1⟩
end
end Go.Mor
namespace Go.Mor
theorem kh{nm:bo}{pa va:Int}{fs:List aG}(h:cS nm pa va fs=0):eU nm pa va fs/\va<=20000/\(de fs:Int)<=20000:=by
 unfold cS at h;split at h
 ·omega
 ·split at h
  ·rename_i h1 h2;exact⟨h2,oM,oM⟩
  ·omega
end Go.Mor
