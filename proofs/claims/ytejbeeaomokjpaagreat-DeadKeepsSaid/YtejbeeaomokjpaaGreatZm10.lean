/-
  Texts of the proof, part 10.
-/
import Derived.Test.YtejbeeaomokjpaaGreatZm9
import Derived.Laws.IdiomCopy
import Derived.Laws.Cover3
import Derived.Laws.StructEq
import Derived.ChangeKeysEq
set_option maxRecDepth 10000
namespace Go.Mor
open Go.RowKit
end Go.Mor
namespace Go.Mor
open Go.RowKit
def s2aE(P:Program)(c:Code)(N:FN)(env:Env)(k:Nat):Option (Option Nat×Nat×Value):=match ax c k with
 |some (d,.sliceToArrayPointer t x,_,g)=>match bD c g env,gp d N,ev env x,P.underlying t with
  |some true,true,some v,some (.array m _)=>some (d,m,v)
  |_,_,_,_=>none
 |_=>none
def bnE(c:Code)(N:FN)(env:Env)(k:Nat):Option (Option Nat×BinOp×TypeId×Value×Value):=match ax c k with
 |some (d,.binOp op t x y _,_,g)=>match bD c g env,gp d N,ev env x,ev env y with
  |some true,true,some u,some v=>some (d,op,t,u,v)
  |_,_,_,_=>none
 |_=>none
end Go.Mor
namespace Go.Mor
open Go.RowKit
def boI(op:BinOp)(kd:IntKind)(a b:Int):Option Int:=match op with
 | .add=>some (kd.wrap (a+b))
 | .sub=>some (kd.wrap (a-b))
 | .mul=>some (kd.wrap (a*b))
 | .and=>some (kd.wrap ((BitVec.ofInt kd.bits a&&&BitVec.ofInt kd.bits b).toNat:Int))
 | .or=>some (kd.wrap ((BitVec.ofInt kd.bits a|||BitVec.ofInt kd.bits b).toNat:Int))
 | .xor=>some (kd.wrap ((BitVec.ofInt kd.bits a^^^BitVec.ofInt kd.bits b).toNat:Int))
 |_=>none
theorem Ks{P:Program}{op:BinOp}{kd:IntKind}{a b z:Int}(h:boI op kd a b=some z)(t:TypeId)(w:World):(binOp op t (.int kd a) (.int kd b)).run P w= .ok (.int kd z) w:=by
 cases op<;>simp only[boI]at h<;>first
  |(cases h;done)
  |(injection h with h;subst h;simp[binOp,Op.intArith,Op.intBits])
def boP(op:BinOp)(kd:IntKind)(a b:Int):Option Int:=match op with
 | .quo=>some (kd.wrap (a.tdiv b))
 | .rem=>some (a.tmod b)
 |_=>none
theorem V4{P:Program}{op:BinOp}{kd:IntKind}{a b z:Int}(h:boP op kd a b=some z)(hb:b≠0)(t:TypeId)(w:World):(binOp op t (.int kd a) (.int kd b)).run P w= .ok (.int kd z) w:=by
 cases op<;>simp only[boP]at h<;>first
  |(cases h;done)
  |(injection h with h;subst h;simp[binOp,Op.intDiv,hb])
def boS(op:BinOp)(kd:IntKind)(a b:Int):Option Int:=match op with
 | .shl=>some (kd.wrap (a*2^min b.toNat kd.bits))
 | .shr=>some (a.fdiv (2^min b.toNat kd.bits))
 |_=>none
theorem V5{P:Program}{op:BinOp}{kd k2:IntKind}{a b z:Int}(h:boS op kd a b=some z)(hb:0≤b)(t:TypeId)(w:World):(binOp op t (.int kd a) (.int k2 b)).run P w= .ok (.int kd z) w:=by
 have hn:¬b<0:=oM;cases op<;>simp only[boS]at h<;>first
  |(cases h;done)
  |(injection h with h;subst h;simp[binOp,Op.shift,hn])
section
variable {P : Program} {c : Code} {K : Act → World → Prop} {Q : Exit → Act → World → Prop} {w w0 : World} {S : Nat → Prop} {L : List bx} {k : Nat} {N : FN} {env : Env}
theorem tu{a:Act}{d:Option Nat}{op:BinOp}{t:TypeId}{kd k2:IntKind}{i j z:Int}(hF:Fr a N env)(hk:bnE c N env k=some (d,op,t,.int kd i,.int k2 j))(hr:(binOp op t (.int kd i) (.int k2 j)).run P w= .ok (.int kd z) w)(h:∀a',a'=a.put d (.int kd z)→Fr a' N (dq env d (.int kd z))→bz P c K Q (k+1) a' w):bz P c K Q k a w:=by
 unfold bnE at hk;split at hk
 ·rename_i g0;split at hk
  ·rename_i g1 g2 g3 g4;simp only[Option.some.injEq,Prod.mk.injEq]at hk;obtain⟨e1,e2,e3,e4,e5⟩:=hk;refine eC g0 hF g1 (by rw[e1]at g2;exact e1▸g2) rfl (fun o ho=> ?_) (by rw[e1];exact h);unfold execOp;rw[ho,e2,e3];have hq:∀x y,(eqGuard op t x y (.int kd i) (.int k2 j)).run P w= .ok () w:=by intro x y;simp only[eqGuard];split<;>simp
   simp only[hF.ev g3,hF.ev g4,e4,e5,Sem.run_bind,hq,hr,Result.andThen_ok];rfl
  ·cases hk
 ·cases hk
def biE(f:BinOp→IntKind→Int→Int→Option Int)(c:Code)(N:FN)(env:Env)(k:Nat):Option (Option Nat×IntKind×IntKind×Int×Int):=match bnE c N env k with
 |some (d,op,_,.int kd i,.int k2 j)=>match f op kd i j with
  |some z=>some (d,kd,k2,j,z)
  |none=>none
 |_=>none
theorem xj{f:BinOp→IntKind→Int→Int→Option Int}{d:Option Nat}{kd k2:IntKind}{j z:Int}(h:biE f c N env k=some (d,kd,k2,j,z)):∃op t i,bnE c N env k=some (d,op,t,.int kd i,.int k2 j)∧f op kd i j=some z:=by
 unfold biE at h;split at h
 ·rename_i h0;split at h
  ·rename_i h1;simp only[Option.some.injEq,Prod.mk.injEq]at h;obtain⟨rfl,rfl,rfl,rfl,rfl⟩:=h;exact⟨_,_,_,h0,h1⟩
  ·cases h
 ·cases h
theorem Hx(kd:IntKind)(z:Int)(j:Int)(h:∀a,Fr a N (dq env (bp c k) (.int kd z))→bz P c K Q (k+1) a w)(hk:biE boI c N env k=some (bp c k,kd,kd,j,z):=by kernel_rfl):∀a,Fr a N env→bz P c K Q k a w:=fun _ hF=>by
 obtain⟨op,t,i,h0,h1⟩:=xj hk;exact tu hF h0 (Ks h1 t w) (fun a' _=>h a')
theorem zbd(kd:IntKind)(z:Int)(j:Int)(hj:j≠0)(h:∀a,Fr a N (dq env (bp c k) (.int kd z))→bz P c K Q (k+1) a w)(hk:biE boP c N env k=some (bp c k,kd,kd,j,z):=by kernel_rfl):∀a,Fr a N env→bz P c K Q k a w:=fun _ hF=>by
 obtain⟨op,t,i,h0,h1⟩:=xj hk;exact tu hF h0 (V4 h1 hj t w) (fun a' _=>h a')
theorem zbs(kd k2:IntKind)(z:Int)(j:Int)(hj:0≤j)(h:∀a,Fr a N (dq env (bp c k) (.int kd z))→bz P c K Q (k+1) a w)(hk:biE boS c N env k=some (bp c k,kd,k2,j,z):=by kernel_rfl):∀a,Fr a N env→bz P c K Q k a w:=fun _ hF=>by
 obtain⟨op,t,i,h0,h1⟩:=xj hk;exact tu hF h0 (V5 h1 hj t w) (fun a' _=>h a')
def unE(c:Code)(N:FN)(env:Env)(k:Nat):Option (Option Nat×UnOp×IntKind×Int):=match ax c k with
 |some (d,.unOp op _ x,_,g)=>match bD c g env,gp d N,ev env x with
  |some true,true,some (.int kd i)=>some (d,op,kd,i)
  |_,_,_=>none
 |_=>none
def unI(op:UnOp)(kd:IntKind)(a:Int):Option Int:=match op with
 | .neg=>some (kd.wrap (0-a))
 | .xor=>some (kd.wrap ((BitVec.ofInt kd.bits (if kd.signed then-1 else kd.max)^^^BitVec.ofInt kd.bits a).toNat:Int))
 |_=>none
theorem zui(op:UnOp)(i:Int)(kd:IntKind)(z:Int)(h:∀a,Fr a N (dq env (bp c k) (.int kd z))→bz P c K Q (k+1) a w)(hk:unE c N env k=some (bp c k,op,kd,i):=by kernel_rfl)(hz:unI op kd i=some z:=by kernel_rfl):∀a,Fr a N env→bz P c K Q k a w:=fun a hF=>by
 unfold unE at hk;split at hk
 ·rename_i g0;split at hk
  ·rename_i g1 g2 g3;simp only[Option.some.injEq,Prod.mk.injEq]at hk;obtain⟨rfl,rfl,rfl,rfl⟩:=hk;refine P2 g0 hF g1 g2 rfl g3 (z:= .int _ z) (fun w=> ?_) (fun a' _=>h a');unfold unI at hz;split at hz
   ·injection hz with hz;subst hz;simp[Op.unary,Op.intArith]
   ·injection hz with hz;subst hz;simp[Op.unary,Op.intBits]
   ·cases hz
  ·cases hk
 ·cases hk
def cvE(P:Program)(c:Code)(N:FN)(env:Env)(k:Nat):Option (Option Nat×IntKind×Int):=match ax c k with
 |some (d,.convert t t' x,_,g)=>match bD c g env,gp d N,ev env x,P.underlying t,P.underlying t' with
  |some true,true,some (.int _ i),some (.int _),some (.int kd)=>some (d,kd,i)
  |_,_,_,_,_=>none
 |_=>none
theorem zcv(i:Int)(kd:IntKind)(z:Int)(h:∀a,Fr a N (dq env (bp c k) (.int kd z))→bz P c K Q (k+1) a w)(hz:kd.wrap i=z)(hk:cvE P c N env k=some (bp c k,kd,i):=by kernel_rfl):∀a,Fr a N env→bz P c K Q k a w:=fun a hF=>by
 unfold cvE at hk;split at hk
 ·rename_i g0;split at hk
  ·rename_i g1 g2 g3 g4 g5;simp only[Option.some.injEq,Prod.mk.injEq]at hk;obtain⟨rfl,rfl,rfl⟩:=hk;exact L1 g0 hF g1 g2 rfl g3 g4 g5 hz (fun a' _=>h a')
  ·cases hk
 ·cases hk
end
section
variable {P : Program} {c : Code} {Q : Exit → Act → World → Prop} {N : FN} {i : Nat} {env0 : Env} {wr : World} {sp : Nat → Spec}
theorem dB(kd:IntKind)(z y:Int)(hv:sp i= .aU (.int kd z):=by rfl)(hg:∀vs,kx c i (bW c i sp vs env0)=some true:=by intro _;kernel_rfl)(hk:∀vs,biE boI (one c i) N (bW c i sp vs env0) 0=some (bp c i,kd,kd,y,z):=by intro _;kernel_rfl)(he:ax (one c i) 1=none:=by kernel_rfl):jc P c Q N env0 wr sp i:=by
 refine rG hg (fun w vs hK hp a hF=> ?_);obtain⟨op,t,x,h0,h1⟩:=xj (hk vs);exact tu hF h0 (Ks h1 t w) (fun a' ea _=>aL he ⟨_,ea,Kp.refl w,by rw[hv];rfl⟩)
end
end Go.Mor
namespace Go.Mor
open Go.RowKit
def QeC(l:List bx):Prop:=l.Pairwise (fun r s=>∀g,r.fp g→¬s.fp g)
def bx.pk(l:List bx):bx where
 fp k:=∃r,r∈l∧r.fp k
 holds w:=(∀r,r∈l→r.holds w)∧QeC l
 gO:=fun h hw=>⟨fun r hr=>r.gO (fun g hg=>h g ⟨r,hr,hg⟩) (hw.1 r hr),hw.2⟩
 lt:=fun⟨h1,_⟩ ⟨r,hr,hg⟩=>r.lt (h1 r hr) hg
section
variable {S : Nat → Prop} {w0 w w' : World} {l l' L : List bx} {r : bx}
theorem Mem.uO(h:(bx.pk l).holds w):Mem (bx.pk l).fp w w l:=⟨rfl,rfl,rfl,Nat.le_refl _,fun _ _ _=>rfl,fun r hr=>⟨h.1 r hr,fun _ hg=> .inl ⟨r,hr,hg⟩⟩,h.2⟩
theorem Mem.cD(h:Mem S w0 w (l++L)):(bx.pk l).holds w:=⟨fun r hr=>(h.own r (List.mem_append_left _ hr)).1,(List.pairwise_append.1 h.apart).1⟩
theorem Mem.pack(h:Mem S w0 w (l++L)):Mem S w0 w (.pk l::L):=by
 obtain⟨h1,h2,h3⟩:=List.pairwise_append.1 h.apart;refine⟨h.os,h.tape,h.output,h.size,h.kept,fun r hr=> ?_,List.pairwise_cons.2 ⟨?_,h2⟩⟩
 ·rcases List.mem_cons.1 hr with rfl|hr
  ·exact⟨h.cD,fun g ⟨q,hq,hg⟩=>(h.own q (List.mem_append_left _ hq)).2 g hg⟩
  ·exact h.own r (List.mem_append_right _ hr)
 ·rintro r hr g ⟨q,hq,hg⟩;exact h3 q hq r hr g hg
theorem Mem.unpack(h:Mem S w0 w (.pk l::L)):Mem S w0 w (l++L):=by
 obtain⟨h1,h2⟩:=List.pairwise_cons.1 h.apart;obtain⟨⟨h3,h4⟩,h5⟩:=h.own _ (List.mem_cons_self ..);refine⟨h.os,h.tape,h.output,h.size,h.kept,fun r hr=> ?_,List.pairwise_append.2 ⟨h4,h2,fun q hq r hr g hg=>h1 r hr g ⟨q,hq,hg⟩⟩⟩;rcases List.mem_append.1 hr with hr|hr
 ·exact⟨h3 r hr,fun g hg=>h5 g ⟨r,hr,hg⟩⟩
 ·exact h.own r (List.mem_cons_of_mem _ hr)
theorem Mem.rH(h:Mem S w0 w (l++L))(h':Mem (bx.pk l).fp w w' l'):Mem S w0 w' (l'++L):=by
 have h1:Mem (bx.pk l).fp w w' (l'++[]):=by rw[List.append_nil];exact h'
 have h2:=h.pack.mod 0 rfl h1.pack;exact Mem.unpack (by simpa using h2)
theorem RO.rI(hA:RO S w0 r)(h:Mem S w0 w (l++L)):RO (bx.pk l).fp w r:=by
 refine⟨h.ro hA,fun g hg ⟨q,hq,hgq⟩=> ?_⟩;have h1:=r.lt hA.1 hg;rcases(h.own q (List.mem_append_left _ hq)).2 g hgq with h2|h2
 ·exact hA.2 g hg h2
 ·omega
theorem RO.mQ(h:Mem S w0 w (l++L))(i:Nat)(hi:L[i]?=some r):RO (bx.pk l).fp w r:=by
 have hm:=List.mem_of_getElem? hi;refine⟨(h.own r (List.mem_append_right _ hm)).1,fun g hg ⟨q,hq,hgq⟩=> ?_⟩;exact(List.pairwise_append.1 h.apart).2.2 q hq r hm g hgq hg
end
end Go.Mor
namespace Go.Mor
open Go.RowKit
def yf(c:Code)(m:Nat):Bool:=(List.range (opsOf c).size).all fun i=>Nat.blt i m||(List.range i).all (fun j=>reach c (opsOf c).size i j)
theorem Fg{c:Code}(kY:fZ c=true):∀{n j i:Nat},j<(opsOf c).size→reach c n j i=true→i<j
 |0,j,i,_,h=>by simp[reach]at h
 |n+1,j,i,hj,h=>by
  have hp:∀k,k∈cY c j→k<j:=by intro k hk;simp only[fZ,List.all_eq_true,List.mem_range]at kY;have:=kY j hj k hk;simpa[Nat.blt_eq]using this
  simp only[reach,Bool.or_eq_true,List.any_eq_true]at h;rcases h with h|⟨k,hk,h⟩
  ·exact hp i (iT.1 h)
  ·have h1:=hp k hk;have:=Fg kY oM h;omega
theorem jZ{c:Code}(kY:fZ c=true){aG:Array Bool}(jB:aG.size=(opsOf c).size)(hr:Region.ready .any (opsOf c) aG=[]):∀j,j<(opsOf c).size→aG.getD j false=true:=by
 intro j;induction j using Nat.strongRecOn with
 |_ j ih=>
  intro hj;cases hq:aG.getD j false with
  |true=>rfl
  |false=>
   exfalso;have:j∈Region.ready .any (opsOf c) aG:=by
    simp only[Region.ready,List.mem_filter,List.mem_range,Bool.and_eq_true,Bool.not_eq_true'];have Kf:j<aG.size:=oM;refine⟨hj,?_,?_⟩
    ·simp[Array.getD,Kf]at hq⊢;exact hq
    ·have ho:(opsOf c)[j]?=some (opsOf c)[j]:=by simp[hj]
     simp only[ho,Option.map_some,Option.getD_some];rw[Array.all_eq_true_iff_forall_mem];intro e he;cases hb:Region.binds .any e with
     |false=>rfl
     |true=>
      have pv:e.on∈cY c j:=by simp only[cY,ho,List.mem_map,List.mem_filter];exact⟨e,⟨Array.mem_toList_iff.2 he,hb⟩,rfl⟩
      have eV:e.on<j:=by simp only[fZ,List.all_eq_true,List.mem_range]at kY;have:=kY j hj e.on pv;simpa[Nat.blt_eq]using this
      simp[ih e.on eV oM]
   rw[hr]at this;simp at this
theorem p6{c:Code}{aG:Array Bool}{i:Nat}(hr:i∈Region.ready .any (opsOf c) aG):∀j,j∈cY c i→aG.getD j false=true:=by
 obtain⟨_,_,o,ho,HZ⟩:=fy hr;intro j hj;simp only[cY,ho,List.mem_map,List.mem_filter]at hj;obtain⟨e,⟨he,hb⟩,rfl⟩:=hj;exact HZ e he hb
theorem uP{c:Code}{aG:Array Bool}(jB:aG.size=(opsOf c).size){i:Nat}(hr:i∈Region.ready .any (opsOf c) aG):aG.getD i false=false:=by
 obtain⟨eV,Kd,_⟩:=fy hr;have:i<aG.size:=oM;simp[Array.getD,this]at Kd⊢;exact Kd
def Bf(c:Code)(m:Nat):Env→Env
 |[]=>[]
 |(t,v)::r=>match bR ((List.range m).filterMap (bp c)) t with
  |true=>Bf c m r
  |false=>(t,v)::Bf c m r
theorem sh{c:Code}{m:Nat}:∀{env:Env} {t:Nat} {v:Value},look (Bf c m env) t=some v→(t,v)∈env∧∀j,j<m→bp c j≠some t
 |[],t,v,h=>by simp[Bf,look]at h
 |(k,u)::r,t,v,h=>by
  unfold Bf at h;cases hm:bR ((List.range m).filterMap (bp c)) k with
  |true=>
   rw[hm]at h;obtain⟨h1,h2⟩:=sh h;exact⟨List.mem_cons_of_mem _ h1,h2⟩
  |false=>
   rw[hm]at h;simp only[look]at h;cases hq:Nat.beq k t with
   |false=>
    rw[hq]at h;obtain⟨h1,h2⟩:=sh h;exact⟨List.mem_cons_of_mem _ h1,h2⟩
   |true=>
    rw[hq]at h;injection h with h;have:=Nat.eq_of_beq_eq_true hq;subst this;subst h;refine⟨List.mem_cons_self ..,fun j hj r5=> ?_⟩;have:bR ((List.range m).filterMap (bp c)) k=true:=iT.2 (List.mem_filterMap.2 ⟨j,List.mem_range.2 hj,r5⟩);rw[this]at hm;cases hm
section
variable {P : Program} {c : Code} {K : Act → World → Prop} {Q : Exit → Act → World → Prop} {N : FN} {env0 : Env} {wr : World} {sp : Nat → Spec}
theorem C8{aG:Array Bool}{i j:Nat}(hi:i<aG.size):(aG.setIfInBounds i true).getD j false=(decide (j=i)||aG.getD j false):=by
 by_cases e:i=j
 ·subst e;simp[Array.getD_eq_getD_getElem?,hi]
 ·have:¬j=i:=fun h=>e h.symm
  simp[Array.getD_eq_getD_getElem?,Array.getElem?_setIfInBounds_ne e,this]
theorem P8(kY:fZ c=true){m:Nat}(ht:yf c m=true):∀(n fuel k:Nat) (aG:Array Bool) (a:Act) (w:World),aG.size=(opsOf c).size→(opsOf c).size≤k+n→n≤fuel→m≤k→k≤(opsOf c).size→(∀j,j<(opsOf c).size→aG.getD j false=decide (j<k))→bz P c K Q k a w→wpAny P .any (opsOf c) (Exit.then K Q) fuel aG a w:=by
 intro n;induction n with
 |zero=>
  intro fuel k aG a w jB hs hf k0 Bg hl h;have hk:k=(opsOf c).size:=oM;subst hk;have hK:K a w:=by unfold bz at h;rw[List.drop_eq_nil_of_le sI]at h;exact h
  have EE:∀i,¬i∈Region.ready .any (opsOf c) aG:=fun i hi=>by have h1:=uP jB hi;have h2:=(fy hi).1;rw[hl i h2]at h1;simp[h2]at h1
  cases fuel with
  |zero=>exact⟨List.eq_nil_iff_forall_not_mem.2 EE,hK⟩
  |succ fuel=>exact⟨fun _=>hK,fun i hi=>absurd hi (EE i)⟩
 |succ n ih=>
  intro fuel k aG a w jB hs hf k0 Bg hl h;by_cases hk:k<(opsOf c).size
  ·cases fuel with
   |zero=>omega
   |succ fuel=>
    refine⟨fun hr=> ?_,fun i hi=> ?_⟩
    ·have:=jZ kY jB hr k hk;rw[hl k hk]at this;simp at this
    ·have nY:=uP jB hi;have QbB:=(fy hi).1;have hik:i=k:=by
      rw[hl i QbB]at nY;have hge:k≤i:=by simpa using nY
      rcases Nat.lt_or_eq_of_le hge with hgt|he
      ·exfalso;simp only[yf,List.all_eq_true,List.mem_range,Bool.or_eq_true]at ht;have h1:reach c (opsOf c).size i k=true:=by
        rcases ht i QbB with h1|h1
        ·have:i<m:=by simpa[Nat.blt_eq]using h1
         omega
        ·exact h1 k hgt
       cases hn:(opsOf c).size with
       |zero=>omega
       |succ N'=>
        rw[hn]at h1;simp only[reach,Bool.or_eq_true,List.any_eq_true]at h1;rcases h1 with h1|⟨q,hq,h1⟩
        ·have:=p6 hi k (iT.1 h1);rw[hl k hk]at this;simp at this
        ·have h2:=p6 hi q hq;have hqi:q<i:=by simp only[fZ,List.all_eq_true,List.mem_range]at kY;have:=kY i QbB q hq;simpa[Nat.blt_eq]using this
         rw[hl q oM]at h2;have h3:q<k:=by simpa using h2
         have:=Fg kY oM h1;omega
      ·exact he.symm
     subst hik;have ho:(opsOf c)[i]?=some (opsOf c)[i]:=by simp[hk]
     generalize hoo:(opsOf c)[i]=o at ho;unfold bz at h;rw[CV ho]at h;unfold wpList at h;have next:∀a' w',wpList P (opsOf c) (Exit.then K Q) ((opsOf c).toList.drop (i+1)) a' w'→wpAny P .any (opsOf c) (Exit.then K Q) fuel (aG.setIfInBounds i true) a' w':=by
      intro a' w' h';refine ih fuel (i+1) _ a' w' (by simpa using jB) oM oM oM oM (fun j hj=> ?_) h';rw[C8 oM,hl j hj];by_cases e:j=i
      ·subst e;simp
      ·have:(j<i+1)↔(j<i):=oM;simp[e,this]
     unfold wpOp;rw[ho];simp only[];split at h
     ·rename_i hw;rw[if_pos hw];exact h.imp (Oper.wp_mono next) id
     ·rename_i hw;rw[if_neg hw];exact next _ _ h
  ·exact ih fuel k aG a w jB oM oM k0 Bg hl h
theorem L4(hd:kN c=true)(rn:∀i d,bp c i=some d→d<N.n)(kY:fZ c=true){m:Nat}(ht:yf c m=true)(hm:m≤(opsOf c).size)(r6:∀i,i<m→jc P c Q N env0 wr sp i)(C1:∀a w,(∀aG:Array Bool,(∀j,j<m→aG.getD j false=true)→(∀j,m≤j→aG.getD j false=false)→tn c N env0 wr sp aG a w→bz P c K Q m a w)):∀(n fuel:Nat) (aG:Array Bool) (a:Act) (w:World),aG.size=(opsOf c).size→((List.range (opsOf c).size).filter (fun j=> !aG.getD j false)).length=n→n≤fuel→(∀j,m≤j→aG.getD j false=false)→tn c N env0 wr sp aG a w→wpAny P .any (opsOf c) (Exit.then K Q) fuel aG a w:=by
 intro n;induction n using Nat.strongRecOn with
 |_ n ih=>
  intro fuel aG a w jB hn hf hup hk;by_cases cV:∀j,j<m→aG.getD j false=true
  ·have hlen:(opsOf c).size≤m+n:=by
    have h1:((List.range (opsOf c).size).filter (fun j=> !aG.getD j false)).length=(opsOf c).size-m:=by
     have e:(List.range (opsOf c).size).filter (fun j=> !aG.getD j false)=(List.range (opsOf c).size).filter (fun j=>decide (m≤j)):=by
      apply List.filter_congr;intro j _;by_cases hj:j<m
      ·rw[cV j hj];simp;omega
      ·rw[hup j oM];simp;omega
     rw[e];have key:∀N,((List.range N).filter (fun j=>decide (m≤j))).length=N-m:=by
      intro N;induction N with
      |zero=>simp
      |succ N ihN=>
       rw[List.range_succ,List.filter_append,List.length_append,ihN];by_cases h:m≤N
       ·simp[h];omega
       ·simp[h];omega
     exact key _
    omega
   refine P8 kY ht n fuel m aG a w jB hlen hf (Nat.le_refl _) hm (fun j hj=> ?_) (C1 a w aG cV hup hk);by_cases h:j<m
   ·rw[cV j h];simp[h]
   ·rw[hup j oM];simp[h]
  ·have L5:0<n:=by
    rcases Nat.eq_zero_or_pos n with h0|h0
    ·exfalso;apply cV;intro j hj;cases hq:aG.getD j false with
     |true=>rfl
     |false=>
      have:j∈(List.range (opsOf c).size).filter (fun j=> !aG.getD j false):=List.mem_filter.2 ⟨List.mem_range.2 oM,by rw[hq];rfl⟩;have:=List.length_pos_of_mem this;omega
    ·exact h0
   cases fuel with
   |zero=>omega
   |succ fuel=>
    refine⟨fun hr=>absurd (fun j hj=>jZ kY jB hr j oM) cV,fun i hi=> ?_⟩;obtain⟨h1,h2,_⟩:=fy hi;have EF:i<m:=by
     rcases Nat.lt_or_ge i m with h|h
     ·exact h
     ·exfalso;apply cV;intro j hj;simp only[yf,List.all_eq_true,List.mem_range,Bool.or_eq_true]at ht;have hre:reach c (opsOf c).size i j=true:=by
       rcases ht i h1 with h3|h3
       ·have:i<m:=by simpa[Nat.blt_eq]using h3
        omega
       ·exact h3 j oM
      exact r9 (ls:=fun q=>aG.getD q false) (fun j hj q hq=>hk.2.2.2.1 j hj q hq) (fun q hq=>p6 hi q hq) hre
    have hni:=uP jB hi;have pQ:i<aG.size:=oM;refine A8 hd rn (r6 i EF) jB hi hk (fun a' w' iO=> ?_);have eV:((List.range (opsOf c).size).filter (fun j=> !(aG.setIfInBounds i true).getD j false)).length<n:=by
     rw[←hn];have kv:((List.range (opsOf c).size).filter (fun j=> !(aG.setIfInBounds i true).getD j false))=((List.range (opsOf c).size).filter (fun j=> !aG.getD j false)).filter (fun j=> !(Nat.beq j i)):=by
      rw[List.filter_filter];apply List.filter_congr;intro j _;rw[C8 pQ];by_cases e:j=i
      ·subst e;simp
      ·have hb:Nat.beq j i=false:=by
        cases hq:Nat.beq j i with
        |false=>rfl
        |true=>exact absurd (Nat.eq_of_beq_eq_true hq) e
       simp[e,hb]
     rw[kv];have pv:i∈(List.range (opsOf c).size).filter (fun j=> !aG.getD j false):=List.mem_filter.2 ⟨List.mem_range.2 h1,by rw[hni];rfl⟩;exact List.length_filter_lt_length_iff_exists.2 ⟨i,pv,sI⟩
    refine ih _ eV fuel _ a' w' (by simpa using jB) rfl oM (fun j hj=> ?_) iO;rw[C8 pQ,hup j hj];have:j≠i:=oM;simp[this]
theorem wB(m:Nat)(sp:Nat→Spec){a:Act}(hF:Fr a N env0)(r6:∀i,i<m→jc P c Q N env0 wr sp i)(h:∀a' w' (vs:Nat→Value),Kp wr w'→(∀j,j<m→(sp j).ok (vs j) w')→Fr a' N (pU c sp vs (List.range m)++Bf c m env0)→bz P c K Q m a' w')(ht:yf c m=true:=by kernel_rfl)(Px:Nat.ble m (opsOf c).size=true:=by kernel_rfl)(hk:kind c= .region true:=by kernel_rfl)(hm:P.follows .mixedOrders=true:=by kernel_rfl)(hd:kN c=true:=by kernel_rfl)(kY:fZ c=true:=by kernel_rfl)(tt:pW env0=true:=by kernel_rfl)(rn:(List.range (opsOf c).size).all (fun i=>gp (bp c i) N)=true:=by kernel_rfl):W P c K Q a wr:=by
 have PH:∀i d,bp c i=some d→d<N.n:=by
  intro i d hi;have eV:i<(opsOf c).size:=by
   simp only[bp]at hi;cases ho:(opsOf c)[i]? with
   |none=>simp[ho]at hi
   |some o=>exact(Array.getElem?_eq_some_iff.1 ho).1
  simp only[List.all_eq_true,List.mem_range]at rn;have:=rn i eV;rw[hi]at this;simpa[gp,Nat.blt_eq]using this
 have dH:=Nat.le_of_ble_eq_true Px;cases c<;>simp[kind]at hk;rename_i id ops dr;subst hk;refine wp_region_any hm ?_;have QbC:∀j,(Array.replicate ops.size false).getD j false=false:=by intro j;simp only[Array.getD_eq_getD_getElem?,Array.getElem?_replicate];split<;>rfl
 have h0:tn (.region id ops true) N env0 wr sp (Array.replicate ops.size false) a {wr with drawn:=wr.drawn+1}:=by
  refine⟨Mem.drew wr,hF.defers,hF.size,?_,⟨fun _=>undef,?_⟩,fun t v htv _=>hF.slot t v (qN tt htv)⟩
  ·intro j hj;rw[QbC j]at hj;cases hj
  ·intro j hj;rw[QbC j]at hj;cases hj
 refine L4 (c:= .region id ops true) hd PH kY ht dH r6 ?_ _ ops.size _ a _ (by simp[opsOf]) rfl ?_ (fun j _=>QbC j) h0
 ·intro a' w' aG cV hup hk;obtain⟨ZU,xU,jB,_,⟨vs,xW⟩,pX⟩:=hk;refine h a' w' vs ZU (fun j hj=>(xW j (cV j hj)).1) ⟨xU,jB,fun t v hv=> ?_⟩;rcases ku hv with h1|h1
  ·obtain⟨j,hj,r5,rfl⟩:=np h1;obtain⟨h2,h3⟩:=xW j (cV j (List.mem_range.1 hj));rw[Spec.xR h2];exact h3 t r5
  ·obtain⟨h2,h3⟩:=sh h1;refine pX t v h2 (fun j hj=> ?_);rcases Nat.lt_or_ge j m with hjm|hjm
   ·exact h3 j hjm
   ·rw[hup j hjm]at hj;cases hj
 ·refine Nat.le_trans (List.length_filter_le _ _) ?_;simp[opsOf]
variable {i : Nat}
end
end Go.Mor
namespace Go.Mor
def jd(fs:List aE)(k:Nat):Nat:=((fs.take k).map (fun x=>x.au.length+x.insts.length)).sum
def dw(fs:List aE):Nat:=fs.length+jd fs fs.length
theorem p7(fs:List aE):jd fs 0=0:=by simp[jd]
theorem ky{fs:List aE}{k:Nat}{x:aE}(h:fs[k]?=some x):jd fs (k+1)=jd fs k+(x.au.length+x.insts.length):=by
 obtain⟨hk,he⟩:=List.getElem?_eq_some_iff.1 h;unfold jd;rw[List.take_succ_eq_append_getElem hk,he];simp
theorem uQ{fs:List aE}(h:pz fs)(k:Nat)(hk:k≤fs.length):jd fs k≤k*562949953421312:=by
 induction k with
 |zero=>simp[p7]
 |succ k ih=>
  obtain⟨x,hx⟩:=aM (l:=fs) (i:=k) oM;have h1:x.au.length≤281474976710656:=(h.get hx).lp;have h2:x.insts.length≤281474976710656:=(h.get hx).li;rw[ky hx];have:=ih oM;omega
def eY(fs:List aE)(k:Nat):Nat:=((fs.take k).map (fun x=>min x.au.length 5000+min x.insts.length 5000)).sum
theorem C9(fs:List aE):eY fs 0=0:=by simp[eY]
theorem tv{fs:List aE}{k:Nat}{x:aE}(h:fs[k]?=some x):eY fs (k+1)=eY fs k+(min x.au.length 5000+min x.insts.length 5000):=by
 obtain⟨hk,he⟩:=List.getElem?_eq_some_iff.1 h;unfold eY;rw[List.take_succ_eq_append_getElem hk,he];simp
theorem Ik(fs:List aE)(k:Nat)(hk:k≤fs.length):eY fs k≤k*10000:=by
 induction k with
 |zero=>simp[C9]
 |succ k ih=>
  obtain⟨x,hx⟩:=aM (l:=fs) (i:=k) oM;rw[tv hx];have:=ih oM;omega
def fS(va:Int)(fs:List aE):Prop:=((60<fs.length∨3000<va)∧(va≤20000∨60<fs.length))∨(¬(60<fs.length∨3000<va)∧3000<eY fs fs.length)
instance (va : Int) (fs : List aE) : Decidable (fS va fs) := by unfold fS; infer_instance
theorem sj{va:Int}{fs:List aE}(h:¬fS va fs):fs.length≤60:=by
 unfold fS at h;omega
theorem L6{P:Program}{t:TypeId}(i j:Int)(w:World):(binOp .sub t (vI i) (vI j)).run P w= .ok (vI (IntKind.i64.wrap (i-j))) w:=by simp[binOp,Op.intArith]
def cO(b:Bool):Int:=cond b 1 0
theorem aY{b:Bool}{P R:Prop}[Decidable R](h:b=true↔P)(e:P↔R):Value.bool b=Value.bool (decide R):=by
 congr 1;rw[Bool.eq_iff_iff,decide_eq_true_eq];exact h.trans e
theorem iw(s:aV):((s.toList==(⟨#[]⟩:aV).toList)=true)=(s.size=0):=by
 rw[beq_iff_eq,Kt,Kt];apply propext;constructor
 ·intro h;have h1:=congrArg List.length h;have e:s.data.toList.length=s.size:=Array.length_toList;rw[e]at h1;exact h1
 ·intro h;have h2:s.data=#[]:=Array.eq_empty_of_size_eq_zero h;rw[h2]
def bB(s:aV):Prop:=1≤s.size∧s.size≤60
instance (s : ByteArray) : Decidable (bB s) := by unfold bB; infer_instance
def aK(op:Int):Prop:=op≠3∧op≠10∧op≠11
instance (op : Int) : Decidable (aK op) := by unfold aK; infer_instance
def dj(n:Int):Prop:=1≤n∧n≤999
instance (n : Int) : Decidable (dj n) := by unfold dj; infer_instance
def de(n:Int):Prop:=0≤n∧n≤2147483647
instance (n : Int) : Decidable (de n) := by unfold de; infer_instance
def fU(N:Int)(x:aE):Prop:=(x.e=0∧(0≤x.a∧x.a<N)∧x.v=0∧x.b=0)∨(x.e=1∧(0≤x.a∧x.a<N)∧(0≤x.b∧x.b<N)∧x.a≠x.b)∨(x.e=2∧x.a=0∧x.b=0)∨(x.e=3∧dj x.a∧x.v=0∧x.b=0)
instance (N : Int) (x : aE) : Decidable (fU N x) := by unfold fU; infer_instance
def nr(N:Int)(x:aE):Prop:=fU N x∧(x.e=2→-1≤x.v)
instance (N : Int) (x : aE) : Decidable (nr N x) := by unfold nr; infer_instance
def bQ(i:bl):Prop:=(aK i.op∨i.dst= -1)∧((i.op=1∧i.name.size=0∧i.args.length=0)∨(i.op=2∧de i.n∧i.name.size=0∧i.args.length=1)∨(i.op=3∧de i.n∧i.name.size=0∧i.args.length=2)∨(i.op=4∧i.n=0∧bB i.name∧i.args.length≤16)∨(i.op=5∧i.n=0∧i.name.size=0∧1≤i.args.length∧i.args.length≤17)∨((i.op=6∨i.op=7)∧i.n=0∧bB i.name∧i.args.length=0)∨((i.op=8∨i.op=10∨i.op=12)∧i.n=0∧i.name.size=0∧i.args.length=1)∨(i.op=9∧i.n=0∧i.name.size=0∧i.args.length=0)∨(i.op=11∧dj i.n∧i.name.size=0∧i.args.length=1)∨((17≤i.op∧i.op≤32)∧i.n=0∧i.name.size=0∧i.args.length=2)∨((41≤i.op∧i.op≤43)∧i.n=0∧i.name.size=0∧i.args.length=1))
instance (i : bl) : Decidable (bQ i) := by unfold bQ; infer_instance
theorem Ku{i:bl}(h:i.op=1):bQ i↔(i.name.size=0∧i.args.length=0):=by
 unfold bQ aK bB dj de;rw[h];simp only[Int.reduceEq,Int.reduceNe,Int.reduceLE,false_and,true_and,and_true,or_false,false_or,true_or,ne_eq,not_false_eq_true,not_true_eq_false,and_false,or_true,and_self]
theorem xl{i:bl}(h:i.op=2):bQ i↔((0≤i.n∧i.n≤2147483647)∧i.name.size=0∧i.args.length=1):=by
 unfold bQ aK bB dj de;rw[h];simp only[Int.reduceEq,Int.reduceNe,Int.reduceLE,false_and,true_and,and_true,or_false,false_or,true_or,ne_eq,not_false_eq_true,not_true_eq_false,and_false,or_true,and_self]
theorem tw{i:bl}(h:i.op=3):bQ i↔(i.dst= -1∧(0≤i.n∧i.n≤2147483647)∧i.name.size=0∧i.args.length=2):=by
 unfold bQ aK bB dj de;rw[h];simp only[Int.reduceEq,Int.reduceNe,Int.reduceLE,false_and,true_and,and_true,or_false,false_or,true_or,ne_eq,not_false_eq_true,not_true_eq_false,and_false,or_true,and_self]
theorem Da{i:bl}(h:i.op=4):bQ i↔(i.n=0∧(1≤i.name.size∧i.name.size≤60)∧i.args.length≤16):=by
 unfold bQ aK bB dj de;rw[h];simp only[Int.reduceEq,Int.reduceNe,Int.reduceLE,false_and,true_and,and_true,or_false,false_or,true_or,ne_eq,not_false_eq_true,not_true_eq_false,and_false,or_true,and_self]
theorem Db{i:bl}(h:i.op=5):bQ i↔(i.n=0∧i.name.size=0∧1≤i.args.length∧i.args.length≤17):=by
 unfold bQ aK bB dj de;rw[h];simp only[Int.reduceEq,Int.reduceNe,Int.reduceLE,false_and,true_and,and_true,or_false,false_or,true_or,ne_eq,not_false_eq_true,not_true_eq_false,and_false,or_true,and_self]
theorem Kv{i:bl}(h:i.op=6):bQ i↔(i.n=0∧(1≤i.name.size∧i.name.size≤60)∧i.args.length=0):=by
 unfold bQ aK bB dj de;rw[h];simp only[Int.reduceEq,Int.reduceNe,Int.reduceLE,false_and,true_and,and_true,or_false,false_or,true_or,ne_eq,not_false_eq_true,not_true_eq_false,and_false,or_true,and_self]
theorem Kw{i:bl}(h:i.op=7):bQ i↔(i.n=0∧(1≤i.name.size∧i.name.size≤60)∧i.args.length=0):=by
 unfold bQ aK bB dj de;rw[h];simp only[Int.reduceEq,Int.reduceNe,Int.reduceLE,false_and,true_and,and_true,or_false,false_or,true_or,ne_eq,not_false_eq_true,not_true_eq_false,and_false,or_true,and_self]
theorem Dc{i:bl}(h:i.op=8):bQ i↔(i.n=0∧i.name.size=0∧i.args.length=1):=by
 unfold bQ aK bB dj de;rw[h];simp only[Int.reduceEq,Int.reduceNe,Int.reduceLE,false_and,true_and,and_true,or_false,false_or,true_or,ne_eq,not_false_eq_true,not_true_eq_false,and_false,or_true,and_self]
theorem Kx{i:bl}(h:i.op=9):bQ i↔(i.n=0∧i.name.size=0∧i.args.length=0):=by
 unfold bQ aK bB dj de;rw[h];simp only[Int.reduceEq,Int.reduceNe,Int.reduceLE,false_and,true_and,and_true,or_false,false_or,true_or,ne_eq,not_false_eq_true,not_true_eq_false,and_false,or_true,and_self]
theorem yg{i:bl}(h:i.op=10):bQ i↔(i.dst= -1∧i.n=0∧i.name.size=0∧i.args.length=1):=by
 unfold bQ aK bB dj de;rw[h];simp only[Int.reduceEq,Int.reduceNe,Int.reduceLE,false_and,true_and,and_true,or_false,false_or,true_or,ne_eq,not_false_eq_true,not_true_eq_false,and_false,or_true,and_self]
theorem tx{i:bl}(h:i.op=11):bQ i↔(i.dst= -1∧(1≤i.n∧i.n≤999)∧i.name.size=0∧i.args.length=1):=by
 unfold bQ aK bB dj de;rw[h];simp only[Int.reduceEq,Int.reduceNe,Int.reduceLE,false_and,true_and,and_true,or_false,false_or,true_or,ne_eq,not_false_eq_true,not_true_eq_false,and_false,or_true,and_self]
theorem yh{i:bl}(h:i.op=12):bQ i↔(i.n=0∧i.name.size=0∧i.args.length=1):=by
 unfold bQ aK bB dj de;rw[h];simp only[Int.reduceEq,Int.reduceNe,Int.reduceLE,false_and,true_and,and_true,or_false,false_or,true_or,ne_eq,not_false_eq_true,not_true_eq_false,and_false,or_true,and_self]
theorem ns{i:bl}(h:¬(1≤i.op∧i.op≤12)):bQ i↔(((17≤i.op∧i.op≤32)∧i.n=0∧i.name.size=0∧i.args.length=2)∨((41≤i.op∧i.op≤43)∧i.n=0∧i.name.size=0∧i.args.length=1)):=by
 have e:∀k:Int,1≤k→k≤12→(i.op=k)=False:=fun k h1 h2=>eq_false (fun e=>h ⟨oM,oM⟩)
 unfold bQ aK;simp only[ne_eq,e 1 dQ dQ,e 2 dQ dQ,e 3 dQ dQ,e 4 dQ dQ,e 5 dQ dQ,e 6 dQ dQ,e 7 dQ dQ,e 8 dQ dQ,e 9 dQ dQ,e 10 dQ dQ,e 11 dQ dQ,e 12 dQ dQ,false_and,true_and,or_false,false_or,true_or,not_false_eq_true,and_self]
theorem QeD{op:Int}(h1:¬op=1)(Ky:¬op=12)(h8:¬op=8)(xm:¬op=10)(h2:¬op=2)(h3:¬op=3)(h4:¬op=4)(h5:¬op=5)(h6:¬op=6)(h7:¬op=7)(h9:¬op=9)(Hy:¬op=11):¬(1≤op∧op≤12):=by
 rintro⟨a,b⟩;have e:op=1∨op=2∨op=3∨op=4∨op=5∨op=6∨op=7∨op=8∨op=9∨op=10∨op=11∨op=12:=by clear h1 h2 h3 h4 h5 h6 h7 h8 h9 xm Hy Ky;omega
 rcases e with e|e|e|e|e|e|e|e|e|e|e|e<;>contradiction
theorem P9{i:bl}{cd:Int}(h0:¬(1≤i.op∧i.op≤12))(h1:i.op<40)(ho: -9223372036854775808≤i.op∧i.op≤9223372036854775807)(hc:cd=0↔1≤IntKind.i64.wrap (i.op-16)∧IntKind.i64.wrap (i.op-16)≤16):((((cd=0)∧(i.n=0))∧(i.name.size=0))∧((i.args.length:Int)=2))↔bQ i:=by
 rw[ns h0];have hw:=IntKind.wrap_i64 (i.op-16);have e:(1≤IntKind.i64.wrap (i.op-16)∧IntKind.i64.wrap (i.op-16)≤16)↔(17≤i.op∧i.op≤32):=by rw[hw];omega
 rw[e]at hc;rw[hc];constructor
 ·rintro⟨⟨⟨a,b⟩,c⟩,d⟩;exact .inl ⟨a,b,c,oM⟩
 ·rintro(⟨a,b,c,d⟩|⟨a,_⟩)
  ·exact⟨⟨⟨a,b⟩,c⟩,oM⟩
  ·omega
theorem Qa{i:bl}{cd:Int}(h1:¬i.op<40)(hc:cd=0↔1≤i.op-40∧i.op-40≤3):((((cd=0)∧(i.n=0))∧(i.name.size=0))∧((i.args.length:Int)=1))↔bQ i:=by
 rw[ns oM];have e:(1≤i.op-40∧i.op-40≤3)↔(41≤i.op∧i.op≤43):=oM;rw[e]at hc;rw[hc];constructor
 ·rintro⟨⟨⟨a,b⟩,c⟩,d⟩;exact .inr ⟨a,b,c,oM⟩
 ·rintro(⟨a,_⟩|⟨a,b,c,d⟩)
  ·omega
  ·exact⟨⟨⟨a,b⟩,c⟩,oM⟩
theorem L7{i:bl}(h:(¬(aK i.op))∧(i.dst≠-1)):False↔bQ i:=⟨False.elim,fun e=>e.1.elim h.1 h.2⟩
end Go.Mor
namespace Go.Mor
open Go.RowKit
def ia(l:List (Int×Int)):aP:=l.flatMap (fun p=>[vI p.1,vI p.2])
theorem Dd(l:List (Int×Int)):(ia l).length=l.length*2:=by
 induction l with
 |nil=>rfl
 |cons x l ih=>simp[ia]at ih⊢;omega
theorem Qb{l:List (Int×Int)}{i:Nat}{p:Int×Int}(h:l[i]?=some p):(ia l)[i*2]?=some (vI p.1)∧(ia l)[i*2+1]?=some (vI p.2):=by
 induction l generalizing i with
 |nil=>simp at h
 |cons x l ih=>
  have e:ia (x::l)=vI x.1:: .int .i64 x.2::ia l:=rfl;rw[e];cases i with
  |zero=>simp at h;subst h;exact⟨rfl,rfl⟩
  |succ i=>
   simp at h;obtain⟨h1,h2⟩:=ih h;refine⟨?_,?_⟩
   ·rw[show(i+1)*2=i*2+1+1 by omega];simpa using h1
   ·rw[show(i+1)*2+1=i*2+1+1+1 by omega];simpa using h2
theorem De{l:List (Int×Int)}{i:Nat}(a b:Int)(h:i<l.length):setAt (ia l) (i*2) [vI a,vI b]=ia (l.set i (a,b)):=by
 induction l generalizing i with
 |nil=>simp at h
 |cons x l ih=>
  have e:ia (x::l)=vI x.1:: .int .i64 x.2::ia l:=rfl;cases i with
  |zero=>rfl
  |succ i=>
   have:=ih (i:=i) (by simpa using h);rw[e,show(i+1)*2=i*2+1+1 by omega,List.set_cons_succ];show setAt (.int .i64 x.1:: .int .i64 x.2::ia l) (i*2+1+1) [vI a,vI b]=vI x.1:: .int .i64 x.2::ia (l.set i (a,b));rw[←this];simp[setAt]
theorem Fh{l:List (Int×Int)}{i:Nat}{p:Int×Int}(a:Int)(h:l[i]?=some p):(ia l).set (i*2) (vI a)=ia (l.set i (a,p.2)):=by
 induction l generalizing i with
 |nil=>simp at h
 |cons x l ih=>
  have e:ia (x::l)=vI x.1:: .int .i64 x.2::ia l:=rfl;cases i with
  |zero=>simp at h;subst h;rfl
  |succ i=>
   simp at h;have:=ih h;rw[e,show(i+1)*2=i*2+1+1 by omega];show .int .i64 x.1:: .int .i64 x.2::(ia l).set (i*2) (vI a)=vI x.1:: .int .i64 x.2::ia (l.set i (a,p.2));rw[this]
theorem Kz(n:Nat)(a b:Int):(List.replicate n [vI a,vI b]).flatten=ia (List.replicate n (a,b)):=by
 induction n with
 |zero=>rfl
 |succ n ih=>rw[List.replicate_succ,List.replicate_succ,List.flatten_cons,ih];rfl
theorem KA{w:World}{A:ar}{ad:Addr}{l:List (Int×Int)}(h:(bx.rd A (ia l)).holds w)(hA:A=some ad){i:Nat}{p:Int×Int}(hi:l[i]?=some p):∀j v,[vI p.1,vI p.2][j]?=some v→w.cell? ((ad.add (i*2)).add j)=some v:=by
 intro j v hj;obtain⟨h1,h2⟩:=Qb hi;rw[lF];have key:∀q u,(ia l)[q]?=some u→w.cell? (ad.add q)=some u:=by intro q u hu;obtain⟨a',nW,hc⟩:=h q u hu;rw[hA]at nW;injection nW with nW;subst nW;exact hc
 match j,hj with
 |0,hj=>simp at hj;subst hj;exact key _ _ h1
 |1,hj=>simp at hj;subst hj;exact key _ _ h2
theorem yi{w:World}{A:ar}{ad:Addr}{l:List (Int×Int)}(h:(bx.rd A (ia l)).holds w)(hA:A=some ad){i:Nat}{p:Int×Int}(hi:l[i]?=some p):w.cell? (ad.add (i*2))=some (vI p.1):=by
 have:=KA h hA hi 0 _ rfl;rwa [lF]at this
theorem p8{α:Type}{l:List α}{i:Nat}(d:α)(h:i<l.length):l[i]?=some (l.getD i d):=by simp[List.getD,List.getElem?_eq_getElem h]
def kz(lo hi:Int)(l:List (Int×Int))(v:Int):Prop:=(lo≤v∧v<hi)∧(l.getD v.toNat (0,0)).1<0
instance (lo hi : Int) (l : List (Int × Int)) (v : Int) : Decidable (kz lo hi l v) := by unfold kz; infer_instance
abbrev tz:=List (Int×Int×Int)
def cW(b:Int)(l:List bZ):tz:=l.map (fun p=>(p.dst,b,-1))
def dv(b:Int)(l:List bl):tz:=(l.zipIdx.filter (fun x=>decide (aK x.1.op))).map (fun x=>(x.1.dst,b,(x.2:Int)))
def eZ(b:Int)(x:aE):tz:=cW b x.au++dv b x.insts
def dz(fs:List aE)(n:Nat):tz:=((fs.take n).zipIdx).flatMap (fun x=>eZ (x.2:Int) x.1)
def bO(fs:List aE):tz:=dz fs fs.length
theorem ix{b:Int}{l:List bZ}{k:Nat}{p:bZ}(h:l[k]?=some p):cW b (l.take (k+1))=cW b (l.take k)++[(p.dst,b,-1)]:=by
 obtain⟨hk,he⟩:=List.getElem?_eq_some_iff.1 h;rw[List.take_succ_eq_append_getElem hk,he];simp[cW]
theorem mn{α:Type}{l:List α}{k:Nat}{p:α}(h:l[k]?=some p):(l.take (k+1)).zipIdx=(l.take k).zipIdx++[(p,k)]:=by
 obtain⟨hk,he⟩:=List.getElem?_eq_some_iff.1 h;rw[List.take_succ_eq_append_getElem hk,he,List.zipIdx_append];simp[Nat.min_eq_left (Nat.le_of_lt hk)]
theorem jg{b:Int}{l:List bl}{k:Nat}{p:bl}(h:l[k]?=some p)(hm:aK p.op):dv b (l.take (k+1))=dv b (l.take k)++[(p.dst,b,(k:Int))]:=by
 unfold dv;rw[mn h,List.filter_append,List.map_append];simp[hm]
theorem ow{b:Int}{l:List bl}{k:Nat}{p:bl}(h:l[k]?=some p)(hm:¬aK p.op):dv b (l.take (k+1))=dv b (l.take k):=by
 unfold dv;rw[mn h,List.filter_append,List.map_append];simp[hm]
theorem mq(fs:List aE):dz fs 0=[]:=by simp[dz]
theorem ie{fs:List aE}{k:Nat}{x:aE}(h:fs[k]?=some x):dz fs (k+1)=dz fs k++eZ (k:Int) x:=by
 unfold dz;rw[mn h,List.flatMap_append];simp
theorem tA{fs:List aE}{n:Nat}{d:Int×Int×Int}(h:d∈dz fs n):0≤d.2.1∧d.2.1<n∧-1≤d.2.2:=by
 unfold dz at h;rw[List.mem_flatMap]at h;obtain⟨x,hx,hd⟩:=h;have Df:x.2<n:=by
  have:=List.snd_lt_of_mem_zipIdx hx;have h2:(fs.take n).length≤n:=by simp;omega
  omega
 unfold eZ at hd;rcases List.mem_append.1 hd with hd|hd
 ·unfold cW at hd;obtain⟨p,_,rfl⟩:=List.mem_map.1 hd;exact⟨Int.natCast_nonneg _,by show(x.2:Int)<n;omega,by show(-1:Int)≤-1;omega⟩
 ·unfold dv at hd;obtain⟨p,_,rfl⟩:=List.mem_map.1 hd;exact⟨Int.natCast_nonneg _,by show(x.2:Int)<n;omega,by show(-1:Int)≤(p.2:Int);omega⟩
def findD(ds:tz)(v:Int):Option (Int×Int):=(ds.find? (fun d=>d.1==v)).map (·.2)
theorem gy{ds:tz}{v:Int}(h:v∉ds.map (·.1)):findD ds v=none:=by
 unfold findD;rw[Option.map_eq_none_iff,List.find?_eq_none];intro d hd he;rw[beq_iff_eq]at he;exact h (List.mem_map.2 ⟨d,hd,he⟩)
theorem ig{ds:tz}{v:Int}(h:v∈ds.map (·.1)):∃p,findD ds v=some p∧(v,p)∈ds:=by
 unfold findD;obtain⟨d,hd,hv⟩:=List.mem_map.1 h;cases hf:ds.find? (fun d=>d.1==v)with
 |none=>
  have:=List.find?_eq_none.1 hf d hd;simp[hv]at this
 |some e=>
  have h1:=List.find?_some hf;have h2:=List.mem_of_find?_eq_some hf;rw[beq_iff_eq]at h1;refine⟨e.2,rfl,?_⟩;rw[←h1];exact h2
theorem Dg{ds:tz}{v b k:Int}(h:v∉ds.map (·.1))(u:Int):findD (ds++[(v,b,k)]) u=if u=v then some (b,k)else findD ds u:=by
 unfold findD;rw[List.find?_append];by_cases e:u=v
 ·subst e;have:ds.find? (fun d=>d.1==u)=none:=by rw[List.find?_eq_none];intro d hd he;rw[beq_iff_eq]at he;exact h (List.mem_map.2 ⟨d,hd,he⟩)
  rw[this];simp
 ·rw[if_neg e];have:([(v,b,k)]:tz).find? (fun d=>d.1==u)=none:=by rw[List.find?_eq_none];intro d hd he;simp at hd;subst hd;rw[beq_iff_eq]at he;exact e he.symm
  rw[this];simp
structure Bn(n:Nat)(base:Nat→Int×Int)(enc:Int×Int→Int×Int)(ds:tz)(l:List (Int×Int)):Prop where
 len:l.length=n
 at_:∀v:Nat,v<n→l[v]?=some (match findD ds (v:Int)with
  |some p=>enc p
  |none=>base v)
def eO(lo hi:Int)(ds:tz):Prop:=(∀d,d∈ds→lo≤d.1∧d.1<hi)∧(ds.map (·.1)).Nodup
theorem eO.nil(lo hi:Int):eO lo hi []:=⟨sI,sI⟩
theorem eO.snoc{lo hi:Int}{ds:tz}{v b k:Int}:eO lo hi (ds++[(v,b,k)])↔eO lo hi ds∧(lo≤v∧v<hi)∧v∉ds.map (·.1):=by
 unfold eO;constructor
 ·rintro⟨h1,h2⟩;rw[List.map_append,List.nodup_append]at h2;refine⟨⟨fun d hd=>h1 d (List.mem_append_left _ hd),h2.1⟩,h1 (v,b,k) sI,fun hm=>h2.2.2 v hm v sI rfl⟩
 ·rintro⟨⟨h1,h2⟩,h3,h4⟩;refine⟨fun d hd=> ?_,?_⟩
  ·rcases List.mem_append.1 hd with hd|hd
   ·exact h1 d hd
   ·simp at hd;subst hd;exact h3
  ·rw[List.map_append,List.nodup_append];refine⟨h2,sI,fun a ha c hc e=> ?_⟩;simp at hc;subst hc;subst e;exact h4 ha
theorem eO.pre{lo hi:Int}{ds es:tz}(h:eO lo hi (ds++es)):eO lo hi ds:=by
 obtain⟨h1,h2⟩:=h;rw[List.map_append,List.nodup_append]at h2;exact⟨fun d hd=>h1 d (List.mem_append_left _ hd),h2.1⟩
theorem Bn.put{n:Nat}{base:Nat→Int×Int}{enc:Int×Int→Int×Int}{ds:tz}{l:List (Int×Int)}(h:Bn n base enc ds l){v b k:Int}(h0:0≤v)(h1:v<n)(hv:v∉ds.map (·.1)):Bn n base enc (ds++[(v,b,k)]) (l.set v.toNat (enc (b,k)))where
 len:=by rw[List.length_set,h.len]
 at_:=fun u hu=>by
  rw[Dg hv];by_cases e:(u:Int)=v
  ·have:u=v.toNat:=oM;rw[if_pos e,this,List.getElem?_set_self (by rw[h.len];omega)]
  ·rw[if_neg e,List.getElem?_set_ne oM];exact h.at_ u hu
end Go.Mor
namespace Go.Mor
def tB(a b:Int):Int:=IntKind.i64.wrap ((BitVec.ofInt 64 a&&&BitVec.ofInt 64 b).toNat:Int)
def Z3(a b:Int):Int:=IntKind.i64.wrap ((BitVec.ofInt 64 a|||BitVec.ofInt 64 b).toNat:Int)
def rp(a b:Int):Int:=IntKind.i64.wrap ((BitVec.ofInt 64 a^^^BitVec.ofInt 64 b).toNat:Int)
def tC(b:Int):Int:=IntKind.u64.wrap ((BitVec.ofInt 64 (IntKind.u64.wrap b)&&&BitVec.ofInt 64 63).toNat:Int)
def Fi(a n:Int):Int:=IntKind.i64.wrap (a*2^min n.toNat 64)
def Dh(a n:Int):Int:=a.fdiv (2^min n.toNat 64)
def jE(op a b:Int):Int×Int:=if b=0 then(0,3)else if b= -1∧op=4 then(IntKind.i64.wrap (0-a),0)else if b= -1 then(0,0)else if op=4 then(IntKind.i64.wrap (a.tdiv b),0)else(a.tmod b,0)
def cA(op a b:Int):Int×Int:=if op=1 then(IntKind.i64.wrap (a+b),0)else if op=2 then(IntKind.i64.wrap (a-b),0)else if op=3 then(IntKind.i64.wrap (a*b),0)else if op=4∨op=5 then jE op a b else if op=6 then(tB a b,0)else if op=7 then(Z3 a b,0)else if op=8 then(rp a b,0)else if op=9 then(Fi a (tC b),0)else if op=10 then(Dh a (tC b),0)else if op=11 then(cO (decide (a=b)),0)else if op=12 then(cO (a !=b),0)else if op=13 then(cO (decide (a<b)),0)else if op=14 then(cO (decide (a≤b)),0)else if op=15 then(cO (decide (a>b)),0)else if op=16 then(cO (decide (a≥b)),0)else(0,-1)
def rJ(op a:Int):Int×Int:=if op=1 then(IntKind.i64.wrap (0-a),0)else if op=2 then(rp (-1) a,0)else if op=3 then(cO (decide (a=0)),0)else(0,-1)
theorem Bo{op a b:Int}(h:b=0):jE op a b=(0,3):=by unfold jE;rw[if_pos h]
theorem Bp{op a b:Int}(h:b= -1)(h1:op=4):jE op a b=(IntKind.i64.wrap (0-a),0):=by unfold jE;rw[if_neg oM,if_pos ⟨h,h1⟩]
theorem Br{op a b:Int}(h:b= -1)(h1:op≠4):jE op a b=(0,0):=by unfold jE;rw[if_neg oM,if_neg (fun e=>h1 e.2),if_pos h]
theorem Bs{op a b:Int}(h:b≠0)(h2:b≠-1)(h1:op=4):jE op a b=(IntKind.i64.wrap (a.tdiv b),0):=by unfold jE;rw[if_neg h,if_neg (fun e=>h2 e.1),if_neg h2,if_pos h1]
theorem Bx{op a b:Int}(h:b≠0)(h2:b≠-1)(h1:op≠4):jE op a b=(a.tmod b,0):=by unfold jE;rw[if_neg h,if_neg (fun e=>h2 e.1),if_neg h2,if_neg h1]
theorem gz{op a b:Int}(h:¬(1≤op∧op≤16)):cA op a b=(0,-1):=by
 unfold cA;rw[if_neg oM,if_neg oM,if_neg oM,if_neg oM,if_neg oM,if_neg oM,if_neg oM,if_neg oM,if_neg oM,if_neg oM,if_neg oM,if_neg oM,if_neg oM,if_neg oM,if_neg oM]
theorem p9{op a b:Int}(h:op=4∨op=5):cA op a b=((jE op a b).1,(jE op a b).2):=by
 unfold cA;rw[if_neg oM,if_neg oM,if_neg oM,if_pos h]
theorem tD{op a:Int}(h1:¬op=1)(h2:¬op=2)(h3:¬op=3):rJ op a=(0,-1):=by unfold rJ;rw[if_neg h1,if_neg h2,if_neg h3]
section
variable {op a b : Int}
theorem bo1(h:op=1:=by assumption):cA op a b=(IntKind.i64.wrap (a+b),0):=by subst h;rfl
theorem bo2(h:op=2:=by assumption):cA op a b=(IntKind.i64.wrap (a-b),0):=by subst h;rfl
theorem bo3(h:op=3:=by assumption):cA op a b=(IntKind.i64.wrap (a*b),0):=by subst h;rfl
theorem bo6(h:op=6:=by assumption):cA op a b=(tB a b,0):=by subst h;rfl
theorem bo7(h:op=7:=by assumption):cA op a b=(Z3 a b,0):=by subst h;rfl
theorem bo8(h:op=8:=by assumption):cA op a b=(rp a b,0):=by subst h;rfl
theorem bo9(h:op=9:=by assumption):cA op a b=(Fi a (tC b),0):=by subst h;rfl
theorem QeE(h:op=10:=by assumption):cA op a b=(Dh a (tC b),0):=by subst h;rfl
theorem QeF(h:op=11:=by assumption):cA op a b=(cO (decide (a=b)),0):=by subst h;rfl
theorem QeG(h:op=12:=by assumption):cA op a b=(cO (a !=b),0):=by subst h;rfl
theorem QeH(h:op=13:=by assumption):cA op a b=(cO (decide (a<b)),0):=by subst h;rfl
theorem QeI(h:op=14:=by assumption):cA op a b=(cO (decide (a≤b)),0):=by subst h;rfl
theorem QeJ(h:op=15:=by assumption):cA op a b=(cO (decide (a>b)),0):=by subst h;rfl
theorem QeK(h:op=16:=by assumption):cA op a b=(cO (decide (a≥b)),0):=by subst h;rfl
theorem Z4(h:op=1:=by assumption):rJ op a=(IntKind.i64.wrap (0-a),0):=by subst h;rfl
theorem Z5(h:op=2:=by assumption):rJ op a=(rp (-1) a,0):=by subst h;rfl
theorem Z6(h:op=3:=by assumption):rJ op a=(cO (decide (a=0)),0):=by subst h;rfl
end
structure cQ where
 mem:af
 next:Int
 pos:Nat
 out:af
 steps:Int
 opened:Int
inductive dp(α:Type)where
 |ok(a:α)(s:cQ)
 |stop(k c:Int)(s:cQ)
def dp.bind{α β:Type}(g:dp α)(f:α→cQ→dp β):dp β:=match g with
 | .ok a s=>f a s
 | .stop k c s=> .stop k c s
structure et where
 nm:aV
 wk:Bool
 pa:Int
 va:Int
 A:ar
 c:Nat
 bh:List aE
 qA:ar
 qc:Nat
 bG:List (ar×Nat×af)
def et.cells(f:et):aP:=fV f.nm f.wk f.pa f.va f.A f.c f.bh
def et.src(f:et)(k:Nat):af:=(f.bG.getD k (none,0,[])).2.2
structure Env0 where
 fns:List et
 names:List (aV×Int)
 data:List (aV×Int)
 inp:af
 bR:Nat
 fuel:Int
def cT(E:Env0)(s:cQ):dp Unit:=if s.steps=E.fuel then .stop 0 0 s else .ok () {s with steps:=s.steps+1}
def uy(n:Int)(s:cQ):dp Nat:=if n<1∨n≥s.next then .stop 5 0 s else .ok n.toNat s
def a0(l:af):Int:=l.getD 0 0
def a1(l:af):Int:=l.getD 1 0
def bV(E:Env0)(call:Int→af→cQ→dp Int)(i:bl)(l:af)(s:cQ):dp Int:=
 if i.op=1 then .ok i.n s
 else if i.op=2 then(uy (IntKind.i64.wrap (a0 l+i.n)) s).bind fun k s=> .ok (s.mem.getD k 0) s
 else if i.op=3 then(uy (IntKind.i64.wrap (a0 l+i.n)) s).bind fun k s=> .ok 0 {s with mem:=s.mem.set k (a1 l)}
 else if i.op=4 then match fh E.names i.name with
  |some n=>call n l s
  |none=> .stop 5 0 s
 else if i.op=5 then call (a0 l) l.tail s
 else if i.op=6 then match fh E.data i.name with
  |some n=> .ok n s
  |none=> .stop 5 0 s
 else if i.op=7 then match fh E.names i.name with
  |some n=> .ok n s
  |none=> .stop 5 0 s
 else if i.op=8 then if a0 l<0 then .stop 5 0 s else if a0 l>(E.bR:Int)-s.next then .stop 3 0 s else .ok s.next {s with next:=s.next+a0 l}
 else if i.op=9 then if s.pos<E.inp.length then .ok (E.inp.getD s.pos 0) {s with pos:=s.pos+1}else .ok (-1) s
 else if i.op=10 then .ok 0 (if s.out.length<4096 then {s with out:=s.out++[IntKind.u8.wrap (a0 l)]}else s)
 else if i.op=11 then if a0 l=0 then .stop 2 i.n s else .ok 0 s
 else if i.op=12 then .ok (a0 l) s
 else if i.op≥40 then .ok (rJ (i.op-40) (a0 l)).1 s
 else if(cA (i.op-16) (a0 l) (a1 l)).2=0 then .ok (cA (i.op-16) (a0 l) (a1 l)).1 s else .stop 2 (cA (i.op-16) (a0 l) (a1 l)).2 s
section
variable {E : Env0} {call : Int → List Int → cQ → dp Int} {i : bl} {l : List Int} {s : cQ}
theorem qa(h:i.op=1):bV E call i l s= .ok i.n s:=by unfold bV;rw[if_pos h]
theorem qb(h:i.op=2):bV E call i l s=(uy (IntKind.i64.wrap (a0 l+i.n)) s).bind fun k s=> .ok (s.mem.getD k 0) s:=by unfold bV;rw[h];rfl
theorem qd(h:i.op=3):bV E call i l s=(uy (IntKind.i64.wrap (a0 l+i.n)) s).bind fun k s=> .ok 0 {s with mem:=s.mem.set k (a1 l)}:=by unfold bV;rw[h];rfl
theorem sm(h:i.op=4):bV E call i l s=match fh E.names i.name with|some n=>call n l s|none=> .stop 5 0 s:=by unfold bV;rw[h];rfl
theorem sn(h:i.op=5):bV E call i l s=call (a0 l) l.tail s:=by unfold bV;rw[h];rfl
theorem ox(h:i.op=6):bV E call i l s=match fh E.data i.name with|some n=> .ok n s|none=> .stop 5 0 s:=by unfold bV;rw[h];rfl
theorem oy(h:i.op=7):bV E call i l s=match fh E.names i.name with|some n=> .ok n s|none=> .stop 5 0 s:=by unfold bV;rw[h];rfl
theorem sq(h:i.op=8):bV E call i l s=if a0 l<0 then .stop 5 0 s else if a0 l>(E.bR:Int)-s.next then .stop 3 0 s else .ok s.next {s with next:=s.next+a0 l}:=by
 unfold bV;rw[h];rfl
theorem sr(h:i.op=9):bV E call i l s=if s.pos<E.inp.length then .ok (E.inp.getD s.pos 0) {s with pos:=s.pos+1}else .ok (-1) s:=by
 unfold bV;rw[h];rfl
theorem oz(h:i.op=10):bV E call i l s= .ok 0 (if s.out.length<4096 then {s with out:=s.out++[IntKind.u8.wrap (a0 l)]}else s):=by
 unfold bV;rw[h];rfl
theorem mr(h:i.op=11):bV E call i l s=if a0 l=0 then .stop 2 i.n s else .ok 0 s:=by
 unfold bV;rw[h];rfl
theorem mu(h:i.op=12):bV E call i l s= .ok (a0 l) s:=by
 unfold bV;rw[h];rfl
theorem mv(h:i.op≥40):bV E call i l s= .ok (rJ (i.op-40) (a0 l)).1 s:=by
 unfold bV;rw[if_neg oM,if_neg oM,if_neg oM,if_neg oM,if_neg oM,if_neg oM,if_neg oM,if_neg oM,if_neg oM,if_neg oM,if_neg oM,if_neg oM,if_pos h]
theorem kB (h : i.op < 1 ∨ 13 ≤ i.op) (h2 : i.op < 40) : bV E call i l s = if (cA (i.op - 16) (a0 l) (a1 l)).2 = 0 then .ok (cA (i.op - 16) (a0 l) (a1 l)).1 s else .stop 2 (cA (i.op - 16) (a0 l) (a1 l)).2 s := by
 unfold bV; rw [if_neg oM, if_neg oM, if_neg oM, if_neg oM, if_neg oM, if_neg oM, if_neg oM, if_neg oM, if_neg oM, if_neg oM, if_neg oM, if_neg oM, if_neg oM]
end
theorem KB{n:Int}{s:cQ}(h:n<1∨n≥s.next):uy n s= .stop 5 0 s:=by unfold uy;rw[if_pos h]
theorem Qc{n:Int}{s:cQ}(h:¬(n<1∨n≥s.next)):uy n s= .ok n.toNat s:=by unfold uy;rw[if_neg h]
theorem KC{E:Env0}{s:cQ}(h:s.steps=E.fuel):cT E s= .stop 0 0 s:=by unfold cT;rw[if_pos h]
theorem yj{E:Env0}{s:cQ}(h:¬s.steps=E.fuel):cT E s= .ok () {s with steps:=s.steps+1}:=by unfold cT;rw[if_neg h]
def eo(bC:af)(args:af):af:=args.map (fun v=>bC.getD v.toNat 0)
def cS(E:Env0)(call:Int→af→cQ→dp Int):List bl→af→cQ→dp af
 |[],bC,s=> .ok bC s
 |i::r,bC,s=>(cT E s).bind fun _ s=>(bV E call i (eo bC i.args) s).bind fun v s=>
  cS E call r (if 0≤i.dst∧aK i.op then bC.set i.dst.toNat v else bC) s
def jF(bC:af):List (Int×Int)→af
 |[]=>bC
 |(d,v)::r=>jF (bC.set d.toNat v) r
def gr(ps:List bZ)(at_:Nat)(bC:af):af:=jF bC (ps.map (fun p=>(p.dst,bC.getD (p.args.getD at_ 0).toNat 0)))
def eG:af→Int→Nat
 |[],_=>0
 |x::r,v=>if x=v then 0 else eG r v+1
def fi(E:Env0)(call:Int→af→cQ→dp Int)(f:et)(k from_:Int)(bC:af)(s:cQ):dp (Int×Int×af):=
 match f.bh[k.toNat]? with
 |none=> .stop 5 0 s
 |some x=>(cS E call x.insts (gr x.au (eG (f.src k.toNat) from_) bC) s).bind fun bC s=>(cT E s).bind fun _ s=>
  if x.e=0 then .ok (x.a,0,bC) s
  else if x.e=1 then .ok (if bC.getD x.v.toNat 0≠0 then x.a else x.b,0,bC) s
  else if x.e=3 then .stop 2 x.a s
  else .ok (-1,if x.v≥0 then bC.getD x.v.toNat 0 else 0,bC) s
def fF(E:Env0)(body:et→Int→Int→af→cQ→dp Int)(n:Int)(l:af)(s:cQ):dp Int:=if n<1∨n≥(E.fns.length:Int)+1 then .stop 5 0 s else match E.fns[(n-1).toNat]? with
 |none=> .stop 5 0 s
 |some f=>if(l.length:Int)≠f.pa then .stop 5 0 s else if s.opened=1200 then .stop 4 0 s else body f 0 (-1) (l++List.replicate (f.va.toNat-l.length) 0) {s with opened:=s.opened+1}
def iW(E:Env0):Nat→et→Int→Int→af→cQ→dp Int
 |0,_,_,_,_,s=> .stop 5 0 s
 |g+1,f,k,from_,bC,s=>(fi E (fF E (iW E g)) f k from_ bC s).bind fun r s=>
  if r.1<0 then .ok r.2.1 {s with opened:=s.opened-1}else iW E g f r.1 k r.2.2 s
def cc(E:Env0)(g:Nat):Int→af→cQ→dp Int:=fF E (iW E g)
def gW(E:Env0)(g:Nat):List aV→cQ→dp Unit
 |[],s=> .ok () s
 |b::r,s=>match fh E.names b with
  |none=> .stop 5 0 s
  |some n=>(cc E g n [] s).bind fun _ s=>gW E g r s
end Go.Mor
