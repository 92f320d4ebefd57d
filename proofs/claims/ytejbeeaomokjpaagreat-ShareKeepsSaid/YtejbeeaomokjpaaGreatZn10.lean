/-
  Texts of the proof, part 10.
-/
import Derived.Test.YtejbeeaomokjpaaGreatZn9
import Derived.Laws.IdiomCopy
import Derived.Laws.Cover3
import Derived.Laws.StructEq
import Derived.ChangeKeysEq
set_option maxRecDepth 10000
namespace Go.Mor
open Go.RowKit
end Go.Mor
namespace Go.Mor
open Go.RowKit
def s2aE(P:Program)(c:Code)(N:FN)(env:Env)(k:Nat):Option (Option Nat×Nat×Value):=match ax c k with
 |some (d,.sliceToArrayPointer t x,_,g)=>match bD c g env,gp d N,ev env x,P.underlying t with
  |some true,true,some v,some (.array m _)=>some (d,m,v)
  |_,_,_,_=>none
 |_=>none
def Uo(c:Code)(N:FN)(env:Env)(k:Nat):Option (Option Nat×BinOp×TypeId×Value×Value):=match ax c k with
 |some (d,.binOp op t x y _,_,g)=>match bD c g env,gp d N,ev env x,ev env y with
  |some true,true,some u,some v=>some (d,op,t,u,v)
  |_,_,_,_=>none
 |_=>none
end Go.Mor
namespace Go.Mor
open Go.RowKit
def boI(op:BinOp)(kd:IntKind)(a b:Int):Option Int:=match op with
 | .add=>some (kd.wrap (a+b))
 | .sub=>some (kd.wrap (a-b))
 | .mul=>some (kd.wrap (a*b))
 | .and=>some (kd.wrap ((BitVec.ofInt kd.bits a&&&BitVec.ofInt kd.bits b).toNat:Int))
 | .or=>some (kd.wrap ((BitVec.ofInt kd.bits a|||BitVec.ofInt kd.bits b).toNat:Int))
 | .xor=>some (kd.wrap ((BitVec.ofInt kd.bits a^^^BitVec.ofInt kd.bits b).toNat:Int))
 |_=>none
theorem Ks{P:Program}{op:BinOp}{kd:IntKind}{a b z:Int}(h:boI op kd a b=some z)(t:TypeId)(w:World):(binOp op t (.int kd a) (.int kd b)).run P w= .ok (.int kd z) w:=by
 cases op<;>simp only[boI]at h<;>first
  |(cases h;done)
  |(injection h with h;subst h;simp[binOp,Op.intArith,Op.intBits])
def boP(op:BinOp)(kd:IntKind)(a b:Int):Option Int:=match op with
 | .quo=>some (kd.wrap (a.tdiv b))
 | .rem=>some (a.tmod b)
 |_=>none
theorem V4{P:Program}{op:BinOp}{kd:IntKind}{a b z:Int}(h:boP op kd a b=some z)(hb:b≠0)(t:TypeId)(w:World):(binOp op t (.int kd a) (.int kd b)).run P w= .ok (.int kd z) w:=by
 cases op<;>simp only[boP]at h<;>first
  |(cases h;done)
  |(injection h with h;subst h;simp[binOp,Op.intDiv,hb])
def boS(op:BinOp)(kd:IntKind)(a b:Int):Option Int:=match op with
 | .shl=>some (kd.wrap (a*2^min b.toNat kd.bits))
 | .shr=>some (a.fdiv (2^min b.toNat kd.bits))
 |_=>none
theorem V5{P:Program}{op:BinOp}{kd k2:IntKind}{a b z:Int}(h:boS op kd a b=some z)(hb:0≤b)(t:TypeId)(w:World):(binOp op t (.int kd a) (.int k2 b)).run P w= .ok (.int kd z) w:=by
 have hn:¬b<0:=oM;cases op<;>simp only[boS]at h<;>first
  |(cases h;done)
  |(injection h with h;subst h;simp[binOp,Op.shift,hn])
section
variable {P : Program} {c : Code} {K : Act → World → Prop} {Q : Exit → Act → World → Prop} {w w0 : World} {S : Nat → Prop} {L : List bx} {k : Nat} {N : FN} {env : Env}
theorem tu{a:Act}{d:Option Nat}{op:BinOp}{t:TypeId}{kd k2:IntKind}{i j z:Int}(hF:Fr a N env)(hk:Uo c N env k=some (d,op,t,.int kd i,.int k2 j))(hr:(binOp op t (.int kd i) (.int k2 j)).run P w= .ok (.int kd z) w)(h:∀a',a'=a.put d (.int kd z)→Fr a' N (dq env d (.int kd z))→bz P c K Q (k+1) a' w):bz P c K Q k a w:=by
 unfold Uo at hk;split at hk
 ·rename_i g0;split at hk
  ·rename_i g1 g2 g3 g4;simp only[Kr,Qaq]at hk;obtain⟨e1,e2,e3,e4,e5⟩:=hk;refine eC g0 hF g1 (by rw[e1]at g2;exact e1▸g2) rfl (fun o ho=> ?_) (by rw[e1];exact h);unfold execOp;rw[ho,e2,e3];have hq:∀x y,(eqGuard op t x y (.int kd i) (.int k2 j)).run P w= .ok () w:=by intro x y;simp only[eqGuard];split<;>simp
   simp only[hF.ev g3,hF.ev g4,e4,e5,Qor,hq,hr,QnS];rfl
  ·cases hk
 ·cases hk
def Uq(f:BinOp→IntKind→Int→Int→Option Int)(c:Code)(N:FN)(env:Env)(k:Nat):Option (Option Nat×IntKind×IntKind×Int×Int):=match Uo c N env k with
 |some (d,op,_,.int kd i,.int k2 j)=>match f op kd i j with
  |some z=>some (d,kd,k2,j,z)
  |none=>none
 |_=>none
theorem xj{f:BinOp→IntKind→Int→Int→Option Int}{d:Option Nat}{kd k2:IntKind}{j z:Int}(h:Uq f c N env k=some (d,kd,k2,j,z)):∃op t i,Uo c N env k=some (d,op,t,.int kd i,.int k2 j)∧f op kd i j=some z:=by
 unfold Uq at h;split at h
 ·rename_i h0;split at h
  ·rename_i h1;simp only[Kr,Qaq]at h;obtain⟨rfl,rfl,rfl,rfl,rfl⟩:=h;exact⟨_,_,_,h0,h1⟩
  ·cases h
 ·cases h
theorem Hx(kd:IntKind)(z:Int)(j:Int)(h:∀a,Fr a N (dq env (bp c k) (.int kd z))→bz P c K Q (k+1) a w)(hk:Uq boI c N env k=some (bp c k,kd,kd,j,z):=by kernel_rfl):∀a,Fr a N env→bz P c K Q k a w:=fun _ hF=>by
 obtain⟨op,t,i,h0,h1⟩:=xj hk;exact tu hF h0 (Ks h1 t w) (fun a' _=>h a')
theorem Ur(kd:IntKind)(z:Int)(j:Int)(hj:j≠0)(h:∀a,Fr a N (dq env (bp c k) (.int kd z))→bz P c K Q (k+1) a w)(hk:Uq boP c N env k=some (bp c k,kd,kd,j,z):=by kernel_rfl):∀a,Fr a N env→bz P c K Q k a w:=fun _ hF=>by
 obtain⟨op,t,i,h0,h1⟩:=xj hk;exact tu hF h0 (V4 h1 hj t w) (fun a' _=>h a')
theorem zbs(kd k2:IntKind)(z:Int)(j:Int)(hj:0≤j)(h:∀a,Fr a N (dq env (bp c k) (.int kd z))→bz P c K Q (k+1) a w)(hk:Uq boS c N env k=some (bp c k,kd,k2,j,z):=by kernel_rfl):∀a,Fr a N env→bz P c K Q k a w:=fun _ hF=>by
 obtain⟨op,t,i,h0,h1⟩:=xj hk;exact tu hF h0 (V5 h1 hj t w) (fun a' _=>h a')
def unE(c:Code)(N:FN)(env:Env)(k:Nat):Option (Option Nat×UnOp×IntKind×Int):=match ax c k with
 |some (d,.unOp op _ x,_,g)=>match bD c g env,gp d N,ev env x with
  |some true,true,some (.int kd i)=>some (d,op,kd,i)
  |_,_,_=>none
 |_=>none
def unI(op:UnOp)(kd:IntKind)(a:Int):Option Int:=match op with
 | .neg=>some (kd.wrap (0-a))
 | .xor=>some (kd.wrap ((BitVec.ofInt kd.bits (if kd.signed then-1 else kd.max)^^^BitVec.ofInt kd.bits a).toNat:Int))
 |_=>none
theorem Mo(op:UnOp)(i:Int)(kd:IntKind)(z:Int)(h:∀a,Fr a N (dq env (bp c k) (.int kd z))→bz P c K Q (k+1) a w)(hk:unE c N env k=some (bp c k,op,kd,i):=by kernel_rfl)(hz:unI op kd i=some z:=by kernel_rfl):∀a,Fr a N env→bz P c K Q k a w:=fun a hF=>by
 unfold unE at hk;split at hk
 ·rename_i g0;split at hk
  ·rename_i g1 g2 g3;simp only[Kr,Qaq]at hk;obtain⟨rfl,rfl,rfl,rfl⟩:=hk;refine P2 g0 hF g1 g2 rfl g3 (z:= .int _ z) (fun w=> ?_) (fun a' _=>h a');unfold unI at hz;split at hz
   ·injection hz with hz;subst hz;simp[Op.unary,Op.intArith]
   ·injection hz with hz;subst hz;simp[Op.unary,Op.intBits]
   ·cases hz
  ·cases hk
 ·cases hk
def cvE(P:Program)(c:Code)(N:FN)(env:Env)(k:Nat):Option (Option Nat×IntKind×Int):=match ax c k with
 |some (d,.convert t t' x,_,g)=>match bD c g env,gp d N,ev env x,P.underlying t,P.underlying t' with
  |some true,true,some (.int _ i),some (.int _),some (.int kd)=>some (d,kd,i)
  |_,_,_,_,_=>none
 |_=>none
theorem zcv(i:Int)(kd:IntKind)(z:Int)(h:∀a,Fr a N (dq env (bp c k) (.int kd z))→bz P c K Q (k+1) a w)(hz:kd.wrap i=z)(hk:cvE P c N env k=some (bp c k,kd,i):=by kernel_rfl):∀a,Fr a N env→bz P c K Q k a w:=fun a hF=>by
 unfold cvE at hk;split at hk
 ·rename_i g0;split at hk
  ·rename_i g1 g2 g3 g4 g5;simp only[Kr,Qaq]at hk;obtain⟨rfl,rfl,rfl⟩:=hk;exact L1 g0 hF g1 g2 rfl g3 g4 g5 hz (fun a' _=>h a')
  ·cases hk
 ·cases hk
end
section
variable {P : Program} {c : Code} {Q : Exit → Act → World → Prop} {N : FN} {i : Nat} {env0 : Env} {wr : World} {sp : Nat → Spec}
theorem dB(kd:IntKind)(z y:Int)(hv:sp i= .aU (.int kd z):=by rfl)(hg:∀vs,kx c i (bW c i sp vs env0)=some true:=by intro _;kernel_rfl)(hk:∀vs,Uq boI (one c i) N (bW c i sp vs env0) 0=some (bp c i,kd,kd,y,z):=by intro _;kernel_rfl)(he:ax (one c i) 1=none:=by kernel_rfl):jc P c Q N env0 wr sp i:=by
 refine rG hg (fun w vs hK hp a hF=> ?_);obtain⟨op,t,x,h0,h1⟩:=xj (hk vs);exact tu hF h0 (Ks h1 t w) (fun a' ea _=>aL he ⟨_,ea,Kp.refl w,by rw[hv];rfl⟩)
end
end Go.Mor
namespace Go.Mor
open Go.RowKit
def QeC(l:List bx):Prop:=l.Pairwise (fun r s=>∀g,r.fp g→¬s.fp g)
def bx.pk(l:List bx):bx where
 fp k:=∃r,r∈l∧r.fp k
 holds w:=(∀r,r∈l→r.holds w)∧QeC l
 gO:=fun h hw=>⟨fun r hr=>r.gO (fun g hg=>h g ⟨r,hr,hg⟩) (hw.1 r hr),hw.2⟩
 lt:=fun⟨h1,_⟩ ⟨r,hr,hg⟩=>r.lt (h1 r hr) hg
section
variable {S : Nat → Prop} {w0 w w' : World} {l l' L : List bx} {r : bx}
theorem Mem.uO(h:(bx.pk l).holds w):Mem (bx.pk l).fp w w l:=⟨rfl,rfl,rfl,kQ _,fun _ _ _=>rfl,fun r hr=>⟨h.1 r hr,fun _ hg=> .inl ⟨r,hr,hg⟩⟩,h.2⟩
theorem Mem.cD(h:Mem S w0 w (l++L)):(bx.pk l).holds w:=⟨fun r hr=>(h.own r (Qox _ hr)).1,(QpF.1 h.apart).1⟩
theorem Mem.pack(h:Mem S w0 w (l++L)):Mem S w0 w (.pk l::L):=by
 obtain⟨h1,h2,h3⟩:=QpF.1 h.apart;refine⟨h.os,h.tape,h.output,h.size,h.kept,fun r hr=> ?_,Qpi.2 ⟨?_,h2⟩⟩
 ·rcases Qon.1 hr with rfl|hr
  ·exact⟨h.cD,fun g ⟨q,hq,hg⟩=>(h.own q (Qox _ hq)).2 g hg⟩
  ·exact h.own r (Qo5 _ hr)
 ·rintro r hr g ⟨q,hq,hg⟩;exact h3 q hq r hr g hg
theorem Mem.unpack(h:Mem S w0 w (.pk l::L)):Mem S w0 w (l++L):=by
 obtain⟨h1,h2⟩:=Qpi.1 h.apart;obtain⟨⟨h3,h4⟩,h5⟩:=h.own _ (Qop ..);refine⟨h.os,h.tape,h.output,h.size,h.kept,fun r hr=> ?_,QpF.2 ⟨h4,h2,fun q hq r hr g hg=>h1 r hr g ⟨q,hq,hg⟩⟩⟩;rcases Qn2.1 hr with hr|hr
 ·exact⟨h3 r hr,fun g hg=>h5 g ⟨r,hr,hg⟩⟩
 ·exact h.own r (Qmq _ hr)
theorem Mem.rH(h:Mem S w0 w (l++L))(h':Mem (bx.pk l).fp w w' l'):Mem S w0 w' (l'++L):=by
 have h1:Mem (bx.pk l).fp w w' (l'++[]):=by rw[QoZ];exact h'
 have h2:=h.pack.mod 0 rfl h1.pack;exact Mem.unpack (by simpa using h2)
theorem RO.rI(hA:RO S w0 r)(h:Mem S w0 w (l++L)):RO (bx.pk l).fp w r:=by
 refine⟨h.ro hA,fun g hg ⟨q,hq,hgq⟩=> ?_⟩;have h1:=r.lt hA.1 hg;rcases(h.own q (Qox _ hq)).2 g hgq with h2|h2
 ·exact hA.2 g hg h2
 ·omega
theorem RO.mQ(h:Mem S w0 w (l++L))(i:Nat)(hi:L[i]?=some r):RO (bx.pk l).fp w r:=by
 have hm:=D7 hi;refine⟨(h.own r (Qo5 _ hm)).1,fun g hg ⟨q,hq,hgq⟩=> ?_⟩;exact(QpF.1 h.apart).2.2 q hq r hm g hgq hg
end
end Go.Mor
namespace Go.Mor
open Go.RowKit
def yf(c:Code)(m:Nat):Bool:=(List.range (opsOf c).size).all fun i=>Nat.blt i m||(List.range i).all (fun j=>reach c (opsOf c).size i j)
theorem Fg{c:Code}(kY:fZ c=true):∀{n j i:Nat},j<(opsOf c).size→reach c n j i=true→i<j
 |0,j,i,_,h=>by simp[reach]at h
 |n+1,j,i,hj,h=>by
  have hp:∀k,k∈cY c j→k<j:=by intro k hk;simp only[fZ,QoP,QoA]at kY;have:=kY j hj k hk;simpa[Ke]using this
  simp only[reach,Qos,Qp8]at h;rcases h with h|⟨k,hk,h⟩
  ·exact hp i (iT.1 h)
  ·have h1:=hp k hk;have:=Fg kY oM h;omega
theorem jZ{c:Code}(kY:fZ c=true){aG:Array Bool}(jB:aG.size=(opsOf c).size)(hr:Region.ready .any (opsOf c) aG=[]):∀j,j<(opsOf c).size→aG.getD j false=true:=by
 intro j;induction j using Nat.strongRecOn with
 |_ j ih=>
  intro hj;cases hq:aG.getD j false with
  |true=>rfl
  |false=>
   exfalso;have:j∈Region.ready .any (opsOf c) aG:=by
    simp only[Region.ready,Qov,QoA,QlP,Qpt];have Kf:j<aG.size:=oM;refine⟨hj,?_,?_⟩
    ·simp[Array.getD,Kf]at hq⊢;exact hq
    ·have ho:(opsOf c)[j]?=some (opsOf c)[j]:=by simp[hj]
     simp only[ho,Fc,Qpf];rw[Qqh];intro e he;cases hb:Region.binds .any e with
     |false=>rfl
     |true=>
      have pv:e.on∈cY c j:=by simp only[cY,ho,Qhz,Qov];exact⟨e,⟨Qqi.2 he,hb⟩,rfl⟩
      have eV:e.on<j:=by simp only[fZ,QoP,QoA]at kY;have:=kY j hj e.on pv;simpa[Ke]using this
      simp[ih e.on eV oM]
   rw[hr]at this;simp at this
theorem p6{c:Code}{aG:Array Bool}{i:Nat}(hr:i∈Region.ready .any (opsOf c) aG):∀j,j∈cY c i→aG.getD j false=true:=by
 obtain⟨_,_,o,ho,HZ⟩:=fy hr;intro j hj;simp only[cY,ho,Qhz,Qov]at hj;obtain⟨e,⟨he,hb⟩,rfl⟩:=hj;exact HZ e he hb
theorem uP{c:Code}{aG:Array Bool}(jB:aG.size=(opsOf c).size){i:Nat}(hr:i∈Region.ready .any (opsOf c) aG):aG.getD i false=false:=by
 obtain⟨eV,Kd,_⟩:=fy hr;have:i<aG.size:=oM;simp[Array.getD,this]at Kd⊢;exact Kd
def Bf(c:Code)(m:Nat):Env→Env
 |[]=>[]
 |(t,v)::r=>match bR ((List.range m).filterMap (bp c)) t with
  |true=>Bf c m r
  |false=>(t,v)::Bf c m r
theorem sh{c:Code}{m:Nat}:∀{env:Env} {t:Nat} {v:Value},look (Bf c m env) t=some v→(t,v)∈env∧∀j,j<m→bp c j≠some t
 |[],t,v,h=>by simp[Bf,look]at h
 |(k,u)::r,t,v,h=>by
  unfold Bf at h;cases hm:bR ((List.range m).filterMap (bp c)) k with
  |true=>
   rw[hm]at h;obtain⟨h1,h2⟩:=sh h;exact⟨Qmq _ h1,h2⟩
  |false=>
   rw[hm]at h;simp only[look]at h;cases hq:Nat.beq k t with
   |false=>
    rw[hq]at h;obtain⟨h1,h2⟩:=sh h;exact⟨Qmq _ h1,h2⟩
   |true=>
    rw[hq]at h;injection h with h;have:=Kb hq;subst this;subst h;refine⟨Qop ..,fun j hj r5=> ?_⟩;have:bR ((List.range m).filterMap (bp c)) k=true:=iT.2 (List.mem_filterMap.2 ⟨j,QoA.2 hj,r5⟩);rw[this]at hm;cases hm
section
variable {P : Program} {c : Code} {K : Act → World → Prop} {Q : Exit → Act → World → Prop} {N : FN} {env0 : Env} {wr : World} {sp : Nat → Spec}
theorem C8{aG:Array Bool}{i j:Nat}(hi:i<aG.size):(aG.setIfInBounds i true).getD j false=(decide (j=i)||aG.getD j false):=by
 by_cases e:i=j
 ·subst e;simp[Ka,hi]
 ·have:¬j=i:=fun h=>e h.symm
  simp[Ka,Array.getElem?_setIfInBounds_ne e,this]
theorem P8(kY:fZ c=true){m:Nat}(ht:yf c m=true):∀(n fuel k:Nat) (aG:Array Bool) (a:Act) (w:World),aG.size=(opsOf c).size→(opsOf c).size≤k+n→n≤fuel→m≤k→k≤(opsOf c).size→(∀j,j<(opsOf c).size→aG.getD j false=decide (j<k))→bz P c K Q k a w→wpAny P .any (opsOf c) (Exit.then K Q) fuel aG a w:=by
 intro n;induction n with
 |zero=>
  intro fuel k aG a w jB hs hf pJ Bg hl h;have hk:k=(opsOf c).size:=oM;subst hk;have hK:K a w:=by unfold bz at h;rw[E6 sI]at h;exact h
  have EE:∀i,¬i∈Region.ready .any (opsOf c) aG:=fun i hi=>by have h1:=uP jB hi;have h2:=(fy hi).1;rw[hl i h2]at h1;simp[h2]at h1
  cases fuel with
  |zero=>exact⟨List.eq_nil_iff_forall_not_mem.2 EE,hK⟩
  |succ fuel=>exact⟨fun _=>hK,fun i hi=>absurd hi (EE i)⟩
 |succ n ih=>
  intro fuel k aG a w jB hs hf pJ Bg hl h;by_cases hk:k<(opsOf c).size
  ·cases fuel with
   |zero=>omega
   |succ fuel=>
    refine⟨fun hr=> ?_,fun i hi=> ?_⟩
    ·have:=jZ kY jB hr k hk;rw[hl k hk]at this;simp at this
    ·have nY:=uP jB hi;have QbB:=(fy hi).1;have hik:i=k:=by
      rw[hl i QbB]at nY;have hge:k≤i:=by simpa using nY
      rcases Nat.lt_or_eq_of_le hge with hgt|he
      ·exfalso;simp only[yf,QoP,QoA,Qos]at ht;have h1:reach c (opsOf c).size i k=true:=by
        rcases ht i QbB with h1|h1
        ·have:i<m:=by simpa[Ke]using h1
         omega
        ·exact h1 k hgt
       cases hn:(opsOf c).size with
       |zero=>omega
       |succ N'=>
        rw[hn]at h1;simp only[reach,Qos,Qp8]at h1;rcases h1 with h1|⟨q,hq,h1⟩
        ·have:=p6 hi k (iT.1 h1);rw[hl k hk]at this;simp at this
        ·have h2:=p6 hi q hq;have hqi:q<i:=by simp only[fZ,QoP,QoA]at kY;have:=kY i QbB q hq;simpa[Ke]using this
         rw[hl q oM]at h2;have h3:q<k:=by simpa using h2
         have:=Fg kY oM h1;omega
      ·exact he.symm
     subst hik;have ho:(opsOf c)[i]?=some (opsOf c)[i]:=by simp[hk]
     generalize hoo:(opsOf c)[i]=o at ho;unfold bz at h;rw[CV ho]at h;unfold wpList at h;have next:∀a' w',wpList P (opsOf c) (Exit.then K Q) ((opsOf c).toList.drop (i+1)) a' w'→wpAny P .any (opsOf c) (Exit.then K Q) fuel (aG.setIfInBounds i true) a' w':=by
      intro a' w' h';refine ih fuel (i+1) _ a' w' (by simpa using jB) oM oM oM oM (fun j hj=> ?_) h';rw[C8 oM,hl j hj];by_cases e:j=i
      ·subst e;simp
      ·have:(j<i+1)↔(j<i):=oM;simp[e,this]
     unfold wpOp;rw[ho];simp only[];split at h
     ·rename_i hw;rw[Kt hw];exact h.imp (Oper.wp_mono next) id
     ·rename_i hw;rw[Ds hw];exact next _ _ h
  ·exact ih fuel k aG a w jB oM oM pJ Bg hl h
theorem L4(hd:kN c=true)(rn:∀i d,bp c i=some d→d<N.n)(kY:fZ c=true){m:Nat}(ht:yf c m=true)(hm:m≤(opsOf c).size)(r6:∀i,i<m→jc P c Q N env0 wr sp i)(C1:∀a w,(∀aG:Array Bool,(∀j,j<m→aG.getD j false=true)→(∀j,m≤j→aG.getD j false=false)→GD c N env0 wr sp aG a w→bz P c K Q m a w)):∀(n fuel:Nat) (aG:Array Bool) (a:Act) (w:World),aG.size=(opsOf c).size→((List.range (opsOf c).size).filter (fun j=> !aG.getD j false)).length=n→n≤fuel→(∀j,m≤j→aG.getD j false=false)→GD c N env0 wr sp aG a w→wpAny P .any (opsOf c) (Exit.then K Q) fuel aG a w:=by
 intro n;induction n using Nat.strongRecOn with
 |_ n ih=>
  intro fuel aG a w jB hn hf FY hk;by_cases cV:∀j,j<m→aG.getD j false=true
  ·have hlen:(opsOf c).size≤m+n:=by
    have h1:((List.range (opsOf c).size).filter (fun j=> !aG.getD j false)).length=(opsOf c).size-m:=by
     have e:(List.range (opsOf c).size).filter (fun j=> !aG.getD j false)=(List.range (opsOf c).size).filter (fun j=>decide (m≤j)):=by
      apply Qpu;intro j _;by_cases hj:j<m
      ·rw[cV j hj];simp;omega
      ·rw[FY j oM];simp;omega
     rw[e];have key:∀N,((List.range N).filter (fun j=>decide (m≤j))).length=N-m:=by
      intro N;induction N with
      |zero=>simp
      |succ N ihN=>
       rw[QpH,QoW,QoG,ihN];by_cases h:m≤N
       ·simp[h];omega
       ·simp[h];omega
     exact key _
    omega
   refine P8 kY ht n fuel m aG a w jB hlen hf (kQ _) hm (fun j hj=> ?_) (C1 a w aG cV FY hk);by_cases h:j<m
   ·rw[cV j h];simp[h]
   ·rw[FY j oM];simp[h]
  ·have L5:0<n:=by
    rcases Qqe n with h0|h0
    ·exfalso;apply cV;intro j hj;cases hq:aG.getD j false with
     |true=>rfl
     |false=>
      have:j∈(List.range (opsOf c).size).filter (fun j=> !aG.getD j false):=Qov.2 ⟨QoA.2 oM,by rw[hq];rfl⟩;have:=QpU this;omega
    ·exact h0
   cases fuel with
   |zero=>omega
   |succ fuel=>
    refine⟨fun hr=>absurd (fun j hj=>jZ kY jB hr j oM) cV,fun i hi=> ?_⟩;obtain⟨h1,h2,_⟩:=fy hi;have EF:i<m:=by
     rcases MW i m with h|h
     ·exact h
     ·exfalso;apply cV;intro j hj;simp only[yf,QoP,QoA,Qos]at ht;have hre:reach c (opsOf c).size i j=true:=by
       rcases ht i h1 with h3|h3
       ·have:i<m:=by simpa[Ke]using h3
        omega
       ·exact h3 j oM
      exact r9 (ls:=fun q=>aG.getD q false) (fun j hj q hq=>hk.2.2.2.1 j hj q hq) (fun q hq=>p6 hi q hq) hre
    have hni:=uP jB hi;have pQ:i<aG.size:=oM;refine A8 hd rn (r6 i EF) jB hi hk (fun a' w' iO=> ?_);have eV:((List.range (opsOf c).size).filter (fun j=> !(aG.setIfInBounds i true).getD j false)).length<n:=by
     rw[←hn];have kv:((List.range (opsOf c).size).filter (fun j=> !(aG.setIfInBounds i true).getD j false))=((List.range (opsOf c).size).filter (fun j=> !aG.getD j false)).filter (fun j=> !(Nat.beq j i)):=by
      rw[Qp6];apply Qpu;intro j _;rw[C8 pQ];by_cases e:j=i
      ·subst e;simp
      ·have hb:Nat.beq j i=false:=by
        cases hq:Nat.beq j i with
        |false=>rfl
        |true=>exact absurd (Kb hq) e
       simp[e,hb]
     rw[kv];have pv:i∈(List.range (opsOf c).size).filter (fun j=> !aG.getD j false):=Qov.2 ⟨QoA.2 h1,by rw[hni];rfl⟩;exact Qqj.2 ⟨i,pv,sI⟩
    refine ih _ eV fuel _ a' w' (by simpa using jB) rfl oM (fun j hj=> ?_) iO;rw[C8 pQ,FY j hj];have:j≠i:=oM;simp[this]
theorem wB(m:Nat)(sp:Nat→Spec){a:Act}(hF:Fr a N env0)(r6:∀i,i<m→jc P c Q N env0 wr sp i)(h:∀a' w' (vs:Nat→Value),Kp wr w'→(∀j,j<m→(sp j).ok (vs j) w')→Fr a' N (pU c sp vs (List.range m)++Bf c m env0)→bz P c K Q m a' w')(ht:yf c m=true:=by kernel_rfl)(Px:Nat.ble m (opsOf c).size=true:=by kernel_rfl)(hk:kind c= .region true:=by kernel_rfl)(hm:P.follows .mixedOrders=true:=by kernel_rfl)(hd:kN c=true:=by kernel_rfl)(kY:fZ c=true:=by kernel_rfl)(tt:pW env0=true:=by kernel_rfl)(rn:(List.range (opsOf c).size).all (fun i=>gp (bp c i) N)=true:=by kernel_rfl):W P c K Q a wr:=by
 have PH:∀i d,bp c i=some d→d<N.n:=by
  intro i d hi;have eV:i<(opsOf c).size:=by
   simp only[bp]at hi;cases ho:(opsOf c)[i]? with
   |none=>simp[ho]at hi
   |some o=>exact(Array.getElem?_eq_some_iff.1 ho).1
  simp only[QoP,QoA]at rn;have:=rn i eV;rw[hi]at this;simpa[gp,Ke]using this
 have dH:=Qqd Px;cases c<;>simp[kind]at hk;rename_i id ops dr;subst hk;refine wp_region_any hm ?_;have QbC:∀j,(Array.replicate ops.size false).getD j false=false:=by intro j;simp only[Ka,Array.getElem?_replicate];split<;>rfl
 have h0:GD (.region id ops true) N env0 wr sp (Array.replicate ops.size false) a {wr with drawn:=wr.drawn+1}:=by
  refine⟨Mem.drew wr,hF.defers,hF.size,?_,⟨fun _=>undef,?_⟩,fun t v htv _=>hF.slot t v (qN tt htv)⟩
  ·intro j hj;rw[QbC j]at hj;cases hj
  ·intro j hj;rw[QbC j]at hj;cases hj
 refine L4 (c:= .region id ops true) hd PH kY ht dH r6 ?_ _ ops.size _ a _ (by simp[opsOf]) rfl ?_ (fun j _=>QbC j) h0
 ·intro a' w' aG cV FY hk;obtain⟨ZU,xU,jB,_,⟨vs,xW⟩,pX⟩:=hk;refine h a' w' vs ZU (fun j hj=>(xW j (cV j hj)).1) ⟨xU,jB,fun t v hv=> ?_⟩;rcases ku hv with h1|h1
  ·obtain⟨j,hj,r5,rfl⟩:=np h1;obtain⟨h2,h3⟩:=xW j (cV j (QoA.1 hj));rw[Spec.xR h2];exact h3 t r5
  ·obtain⟨h2,h3⟩:=sh h1;refine pX t v h2 (fun j hj=> ?_);rcases MW j m with hjm|hjm
   ·exact h3 j hjm
   ·rw[FY j hjm]at hj;cases hj
 ·refine QoJ (QoI _ _) ?_;simp[opsOf]
variable {i : Nat}
end
end Go.Mor
namespace Go.Mor
open Go.RowKit
def slE(P:Program)(c:Code)(N:FN)(env:Env)(k:Nat):Option (Option Nat×ar×Nat×Nat×Int×Nat):=match ax c k with
 |some (d,.slice t x (some y) none none,_,g)=>match bD c g env,gp d N,ev env x,ev env y,P.underlying t with
  |some true,true,some (.slice A n cap),some (.int _ i),some (.slice e)=>match(P.info? e).map (·.size)with
   |some size=>some (d,A,n,cap,i,size)
   |none=>none
  |_,_,_,_,_=>none
 |_=>none
theorem WM{P:Program}{c:Code}{N:FN}{env:Env}{k:Nat}{d:Option Nat}{A:ar}{n cap size:Nat}{i:Int}(h:slE P c N env k=some (d,A,n,cap,i,size)):∃t x y ty g e kd,ax c k=some (d,.slice t x (some y) none none,ty,g)∧bD c g env=some true∧gp d N=true∧ev env x=some (vS A n cap)∧ev env y=some (.int kd i)∧P.underlying t=some (.slice e)∧(P.info? e).map (·.size)=some size:=by
 unfold slE at h;split at h
 ·rename_i h0;split at h
  ·rename_i h1 h2 h3 h4 h5;split at h
   ·rename_i h6;simp only[Kr,Qaq]at h;obtain⟨rfl,rfl,rfl,rfl,rfl,rfl⟩:=h;exact⟨_,_,_,_,_,_,_,h0,h1,h2,h3,h4,h5,h6⟩
   ·cases h
  ·cases h
 ·cases h
abbrev Qfd(A:ar)(n cap m size:Nat):Value:=vS (if cap=m then A else A.map (·.add (m*size))) (n-m) (cap-m)
section
variable {P : Program} {c : Code} {Q : Exit → Act → World → Prop} {N : FN} {i : Nat} {env0 : Env} {wr : World} {sp : Nat → Spec}
theorem dSl(A:ar)(n cap size m:Nat)(hm:m≤n)(hv:sp i= .aU (Qfd A n cap m size):=by rfl)(hg:∀vs,kx c i (bW c i sp vs env0)=some true:=by intro _;kernel_rfl)(hk:∀us,slE P (one c i) N (bW c i sp us env0) 0=some (bp c i,A,n,cap,(m:Int),size):=by intro _;kernel_rfl)(he:ax (one c i) 1=none:=by kernel_rfl):jc P c Q N env0 wr sp i:=by
 refine rG hg (fun w vs hK hp a hF=> ?_);obtain⟨t,x,y,ty,g,e,kd,h0,h1,h2,h3,h4,h5,h6⟩:=WM (hk vs);exact jA h0 hF h1 h2 rfl m h3 h4 rfl h5 h6 hm (fun a' ea _=>aL he ⟨_,ea,Kp.refl w,by rw[hv];rfl⟩)
end
theorem IC{w:World}{A:ar}{v:Value}{vs:aP}{cap:Nat}(h:(bx.rd A (v::vs)).holds w)(hc:vs.length+1≤cap):(bx.rd (if cap=1 then A else A.map (·.add (1*1))) vs).holds w:=by
 intro j u hj;have Kf:=(List.getElem?_eq_some_iff.1 hj).1;obtain⟨a,hA,vU⟩:=h (j+1) u (by simpa using hj);rw[Ds oM,hA];refine⟨_,rfl,?_⟩;rw[lF];rwa [show 1*1+j=j+1 by omega]
theorem RO.IC{S:Nat→Prop}{w:World}{A:ar}{v:Value}{vs:aP}{cap:Nat}(h:RO S w (.rd A (v::vs)))(hc:vs.length+1≤cap):RO S w (.rd (if cap=1 then A else A.map (·.add (1*1))) vs):=by
 refine⟨Mor.IC h.1 hc,fun g hg=>h.2 g ?_⟩;obtain⟨dt,a,ha,hb⟩:=hg;refine⟨sI,?_⟩;split at ha
 ·exact⟨a,ha,hb⟩
 ·cases A with
  |none=>cases ha
  |some a0=>
   injection ha with ha;subst ha;exact⟨a0,rfl,by rw[←hb,block_add]⟩
end Go.Mor
namespace Go.Mor
open Go.RowKit
end Go.Mor
namespace Go.Mor
end Go.Mor
namespace Go.Mor
open Go.RowKit
end Go.Mor
namespace Go.Mor
open Go.RowKit
section
variable {P : Program} {c : Code} {K : Act → World → Prop} {Q : Exit → Act → World → Prop} {w w0 : World} {S : Nat → Prop} {L : List bx} {k k' : Nat} {N : FN} {env : Env}
theorem zlv{kt e t:TypeId}{kd:TypeDesc}{α:Type}[BEq α]{inj:α→Value}(KL:Qej P kt kd inj)(s:α)(z:Value){b:Nat}{l:List (α×Value)}(hm:UP w b (pP inj l))(ok:Bool){v:Value}(e':CC ok (fh l s) z=v)(h:∀a,Fr a N (dq env (bp c k) v)→bz P c K Q (k+1) a w)(ht:P.underlying t=some (.map kt e))(hz:(P.info? e).map (·.zero)=some (some z):=by kernel_rfl)(hk:lkE c N env k=some (bp c k,t,b,inj s,ok):=by kernel_rfl):∀a,Fr a N env→bz P c K Q k a w:=by
 subst e';exact zlk KL s z hm ok h ht hz hk
end
theorem sE{α:Type}{f:α→aP}{size:Nat}(hf:∀x,(f x).length=size):∀(l:List α) (i:Nat) (x:α),l[i]?=some x→∀(j:Nat) (v:Value),(f x)[j]?=some v→(l.flatMap f)[i*size+j]?=some v
 |[],i,x,h,_,_,_=>by simp at h
 |y::l,0,x,h,j,v,hv=>by simp at h;subst h;rw[Qpg,Nat.zero_mul,Qpd,List.getElem?_append_left (List.getElem?_eq_some_iff.1 hv).1];exact hv
 |y::l,i+1,x,h,j,v,hv=>by
  have h':l[i]?=some x:=by simpa using h
  have ih:=sE hf l i x h' j v hv;have e:(i+1)*size+j-(f y).length=i*size+j:=by rw[hf,Nat.add_mul];omega
  rw[Qpg,List.getElem?_append_right (by rw[hf,Nat.add_mul];omega),e];exact ih
end Go.Mor
namespace Go.Mor
open Go.RowKit
section
variable {P : Program} {c : Code} {K : Act → World → Prop} {Q : Exit → Act → World → Prop} {w : World} {k : Nat} {N : FN} {env : Env}
theorem vE{m:Bool}{a:Act}{d:Option Nat}{ty:Nat}{g:Option (Nat×Bool)}{ts:Array TypeId}{x y:Operand}(hk:ax c k=some (d,.call {callee:= .builtin (if m then .max else .min),args:=#[x,y],argTypes:=ts},ty,g))(hF:Fr a N env)(hg:bD c g env=some true)(hd:gp d N=true){kd:IntKind}{i j:Int}(hx:ev env x=some (.int kd i))(hy:ev env y=some (.int kd j))(z:Int)(hz:z=if m then max i j else min i j)(h:∀a,Fr a N (dq env d (.int kd z))→bz P c K Q (k+1) a w):bz P c K Q k a w:=by
 cases m
 ·refine x6 hk hF hg hd rfl hx hy z ?_ (fun a _ hF=>h a hF);rw[hz];simp only[Qpp,Qo0];split<;>omega
 ·refine P7 hk hF hg hd rfl hx hy z ?_ (fun a _ hF=>h a hF);rw[hz];simp only[Qpj];split<;>omega
theorem zmx(d:Option Nat)(x y:Operand)(ts:Array TypeId)(ty:Nat)(kd:IntKind)(i j:Int)(h:∀a,Fr a N (dq env d (.int kd (max i j)))→bz P c K Q (k+1) a w)(hk:ax c k=some (d,.call {callee:= .builtin .max,args:=#[x,y],argTypes:=ts},ty,none):=by kernel_rfl)(hd:gp d N=true:=by kernel_rfl)(hx:ev env x=some (.int kd i):=by kernel_rfl)(hy:ev env y=some (.int kd j):=by kernel_rfl):∀a,Fr a N env→bz P c K Q k a w:=fun _ hF=>vE (m:=true) hk hF rfl hd hx hy _ rfl h
theorem zmn(d:Option Nat)(x y:Operand)(ts:Array TypeId)(ty:Nat)(kd:IntKind)(i j:Int)(h:∀a,Fr a N (dq env d (.int kd (min i j)))→bz P c K Q (k+1) a w)(hk:ax c k=some (d,.call {callee:= .builtin .min,args:=#[x,y],argTypes:=ts},ty,none):=by kernel_rfl)(hd:gp d N=true:=by kernel_rfl)(hx:ev env x=some (.int kd i):=by kernel_rfl)(hy:ev env y=some (.int kd j):=by kernel_rfl):∀a,Fr a N env→bz P c K Q k a w:=fun _ hF=>vE (m:=false) hk hF rfl hd hx hy _ rfl h
end
theorem RO.Qfg{S:Nat→Prop}{w:World}:RO S w (.rd none []):=⟨fun j v h=>by simp at h,fun g hg=>absurd rfl hg.1⟩
end Go.Mor
namespace Go.Mor
open Go.RowKit
end Go.Mor
namespace Go.Mor
open Go.RowKit
section
variable {S : Nat → Prop} {w0 w : World} {l l' L : List bx} {r r' : bx} {k : Nat}
theorem Mem.Qb2(h:Mem S w0 w L):Mem S w0 w (.pk []::L):=Mem.pack (l:=[]) h
theorem Mem.xw(h:Mem S w0 w (.pk (r::l)::L)):Mem S w0 w (r:: .pk l::L):=((Mem.pack (l:=l) (h.unpack.perm ((List.perm_middle (a:=r) (l₁:=l) (l₂:=L)).symm))).perm (QpO ..):_)
theorem Mem.km(h:Mem S w0 w (.pk l::r::L)):Mem S w0 w (.pk (l++[r])::L):=Mem.pack (l:=l++[r]) (by simpa using h.unpack)
theorem Qbv:∀{l:List bx} {k:Nat} {r:bx},l[k]?=some r→l.Perm (r::l.eraseIdx k)
 |[],k,r,h=>by simp at h
 |x::l,0,r,h=>by simp at h;subst h;simp
 |x::l,k+1,r,h=>by simp at h;simp only[Qqq];exact((Qbv h).cons x).trans (QpO ..)
theorem set_perm:∀{l:List bx} {k:Nat} (r:bx),k<l.length→(l.set k r).Perm (r::l.eraseIdx k)
 |[],k,r,h=>by simp at h
 |x::l,0,r,_=>sI
 |x::l,k+1,r,h=>by simp only[Qqu,Qqq];exact((set_perm r (by simpa using h)).cons x).trans (QpO ..)
theorem Mem.Qkl(h:Mem S w0 w (.pk l::L))(k:Nat)(hk:l[k]?=some r):Mem S w0 w (r:: .pk (l.eraseIdx k)::L):=by
 have h1:Mem S w0 w ((r::l.eraseIdx k)++L):=h.unpack.perm ((Qbv hk).append_right L);have h2:Mem S w0 w (l.eraseIdx k++(r::L)):=h1.perm (by simpa using(List.perm_middle (a:=r) (l₁:=l.eraseIdx k) (l₂:=L)).symm);exact h2.pack.perm (QpO ..)
theorem Mem.QlA(h:Mem S w0 w (r':: .pk (l.eraseIdx k)::L))(hk:k<l.length):Mem S w0 w (.pk (l.set k r')::L):=by
 have h1:Mem S w0 w (.pk (l.eraseIdx k)::r'::L):=h.perm (QpO ..);have h2:Mem S w0 w (l.eraseIdx k++(r'::L)):=h1.unpack;refine Mem.pack (l:=l.set k r') (h2.perm ?_);refine(List.perm_middle (a:=r') (l₁:=l.eraseIdx k) (l₂:=L)).trans ?_;exact((set_perm r' hk).symm.append_right L)
theorem Mem.kS(h:Mem S w0 w (.pk l::L))(hs:l'.Sublist l):Mem S w0 w (.pk l'::L):=by
 have h1:=h.unpack;have h2:=QpF.1 h1.apart;exact Mem.pack (l:=l') ⟨h1.os,h1.tape,h1.output,h1.size,h1.kept,fun r hr=>h1.own r (by
  rcases Qn2.1 hr with hr|hr
  ·exact Qox _ (hs.subset hr)
  ·exact Qo5 _ hr),h1.apart.sublist (hs.append_right L)⟩
theorem Mem.rO(w:World):Mem bq w w [.pk []]:=Mem.Qb2 (Mem.init w)
theorem ij{α:Type}(l:List α)(x:α):(l++[x]).length=l.length+1:=sI
theorem jJ{α β:Type}(f:α→β)(l:List α)(x:α):(l++[x]).map f=l.map f++[f x]:=sI
theorem FL{w:World}{l:af}(h:(bx.rd none (ints l)).holds w):l=[]:=by
 cases l with
 |nil=>rfl
 |cons x l=>obtain⟨ad,h1,_⟩:=h 0 _ rfl;cases h1
theorem mz{α β:Type}(f:α→β){l:List α}{k:Nat}{x:α}(h:l[k]?=some x):(l.drop k).map f=f x::(l.drop (k+1)).map f:=by
 obtain⟨hk,he⟩:=List.getElem?_eq_some_iff.1 h;rw[Fb hk,he,QoK]
theorem yM{w:World}{l:List bx}{r:bx}(h:(bx.pk l).holds w)(hr:r∈l):r.holds w:=h.1 r hr
theorem RO.kS(h:RO S w (.pk l))(hr:r∈l):RO S w r:=⟨h.1.1 r hr,fun g hg=>h.2 g ⟨r,hr,hg⟩⟩
end
section
variable {P : Program} {c : Code} {K : Act → World → Prop} {Q : Exit → Act → World → Prop} {w w0 : World} {S : Nat → Prop} {L : List bx} {k : Nat} {N : FN} {env : Env} {a : Act}
theorem zB0(d:Nat)(t:TypeId)(ty:TypeId)(hF:Fr a N env){e size:Nat}(hM:Mem S w0 w L)(h:∀b w',w0.heap.size≤b→w.heap.size≤b→Mem S w0 w' (L++[.row e size (some (aZ b)) 0 0 []])→Mem bq w w' [.row e size (some (aZ b)) 0 0 []]→∀a',a'=a.put (some d) (vS (some (aZ b)) 0 0)→Fr a' N (dq env (some d) (vS (some (aZ b)) 0 0))→bz P c K Q (k+1) a' w')(hk:ax c k=some (some d,.buildSlice t 0 #[],ty,none):=by kernel_rfl)(hd:gp (some d) N=true:=by kernel_rfl)(ht:P.underlying t=some (.slice e):=by kernel_rfl)(hi:(P.info? e).map (fun i=>i.size)=some size:=by kernel_rfl):bz P c K Q k a w:=mm hk hF rfl hd rfl ht hi hM h
end
theorem IK{fn:Func}{t u:Tmp}{ty:TypeId}(h:fn.results=#[.cell t ty,.tmp u])(tmps:Array Value)(P:Program)(w:World){ad:Addr}{vs:aP}{v':Value}(hp:tmps[t]?=some (vP ad))(hq:tmps[u]?=some v')(ht:uJ P ty=some vs.length)(hc:∀(j:Nat) (v:Value),vs[j]?=some v→w.cell? (ad.add j)=some v):(results fn tmps).run P w= .ok (.tuple #[.agg vs.toArray,v']) w:=by
 obtain⟨h1,h2⟩:=lg ht w;have ha:(asAddr (vP ad)).run P w= .ok ad w:=rfl;have hl:(loadVar ty ad).run P w= .ok (.agg vs.toArray) w:=by simp[loadVar,h1,h2,run_loadCells_list (P:=P) w ad vs hc]
 simp only[results,h];simp[Qor,Result.andThen,Ka,hp,hq,ha,hl]
def ctE(fn:Func)(env:Env):Option (Addr×TypeId×Value):=match fn.results.toList with
 |[.cell t ty,.tmp u]=>match look env t,look env u with
  |some (.pointer (some ad)),some v=>some (ad,ty,v)
  |_,_=>none
 |_=>none
theorem Qfh{P:Program}{fn:Func}{Φ:Value→World→Prop}{N:FN}{env:Env}{w:World}(ad:Addr)(ty:TypeId)(vs:aP)(v':Value)(hc:∀(j:Nat) (v:Value),vs[j]?=some v→w.cell? (ad.add j)=some v)(h:Φ (.tuple #[.agg vs.toArray,v']) w)(ht:uJ P ty=some vs.length:=by kernel_rfl)(hk:ctE fn env=some (ad,ty,v'):=by kernel_rfl)(hD:N.D=[]:=by rfl):∀a,Fr a N env→bodyPost P fn (ez Φ) .ret a w:=fun a hF=>by
 unfold ctE at hk;split at hk
 ·rename_i t ty0 u hr;split at hk
  ·rename_i Vd v0 h1 h2;simp only[Kr,Qaq]at hk;obtain⟨rfl,rfl,rfl⟩:=hk;refine bodyPost_ret (v:= .tuple #[.agg vs.toArray,v0]) ?_ (hF.defers.trans hD) ⟨_,rfl,h⟩;refine IK (by apply Qpe;simpa using hr) _ _ _ ?_ ?_ ht hc
   ·exact hF.slot _ _ h1
   ·exact hF.slot _ _ h2
  ·cases hk
 ·cases hk
end Go.Mor
namespace Go.Mor
open Go.RowKit
section
variable {P : Program} {c : Code} {K : Act → World → Prop} {Q : Exit → Act → World → Prop} {a : Act} {w w0 : World} {S : Nat → Prop} {L : List bx} {k k' : Nat} {N : FN} {env : Env}
variable {d : Option Nat} {ty : Nat} {g : Option (Nat × Bool)}
theorem DU{t:TypeId}{x y:Operand}(hk:ax c k=some (d,.call {callee:= .builtin .append,args:=#[x,y],argTypes:=#[t,t]},ty,g))(hF:Fr a N env)(hg:bD c g env=some true)(hd:gp d N=true)(iO:k+1=k'){e size bytes:Nat}{z:Value}(ht:P.underlying t=some (.slice e))(hi:(P.info? e).map (fun i=>(i.size,i.bytes,i.zero))=some (size,bytes,some z))(HX:Nat.beq z.cells.size size=true)(jB:Nat.blt 0 size=true){A B:ar}{n cap m cap':Nat}{xs news:aP}(hx:ev env x=some (vS A n cap))(hy:ev env y=some (vS B m cap'))(hM:Mem S w0 w L)(i:Nat)(hL:L[i]?=some (.row e size A n cap xs))(r4:(bx.rd B news).holds w)(hl:news.length=m*size)(h1:∀u∈news,u.oneCell'=true)(hb:(n+m)*bytes≤140737488355328)(HY:n+m≤maxLen)(nn:Nat)(ys:aP)(hn:n+m=nn)(hys:xs++news=ys)(h:∀A' c' w',Mem S w0 w' (L.set i (.row e size A' nn c' ys))→Mem (bx.row e size A n cap xs).fp w w' [.row e size A' nn c' ys]→∀a',a'=a.put d (vS A' nn c')→Fr a' N (dq env d (vS A' nn c'))→bz P c K Q k' a' w'):bz P c K Q k a w:=by
 subst hn hys;exact vu hk hF hg hd iO ht hi HX jB hx hy hM i hL r4 hl h1 hb HY h
end
theorem kG{α:Type}{f:α→aP}{k:Nat}(hf:∀x,(f x).length=k)(l:List α):(l.flatMap f).length=l.length*k:=by
 induction l with
 |nil=>simp
 |cons x l ih=>rw[Qpg,QoG,hf,ih,QoE,QpP];omega
theorem DV{α:Type}{f:α→aP}{k:Nat}(hf:∀x,(f x).length=k):∀(l:List α) (i:Nat) (x:α),l[i]?=some x→∀(j:Nat) (v:Value),(f x)[j]?=some v→(l.flatMap f)[i*k+j]?=some v
 |[],i,x,h,_,_,_=>by simp at h
 |y::l,0,x,h,j,v,hv=>by simp at h;subst h;rw[Qpg,Nat.zero_mul,Qpd,List.getElem?_append_left (List.getElem?_eq_some_iff.1 hv).1];exact hv
 |y::l,i+1,x,h,j,v,hv=>by simp at h;rw[Qpg,List.getElem?_append_right (by rw[hf,QpP];omega),hf,show(i+1)*k+j-k=i*k+j by rw[QpP];omega];exact DV hf l i x h j v hv
end Go.Mor
namespace Go.Mor
open Go.RowKit
def eN(p:bZ):bx:= .row 3 1 p.A p.args.length p.c (ints p.args)
def fz(p:bl):bx:= .row 3 1 p.A p.args.length p.c (ints p.args)
def sT(l:List bZ):aP:=l.flatMap bZ.cells
def Ry(l:List bl):aP:=l.flatMap bl.cells
def lu(l:List aE):aP:=l.flatMap xV
def EM(A:ar)(c:Nat)(l:List bZ):bx:= .row 100 2 A l.length c (sT l)
def gS(A:ar)(c:Nat)(l:List bl):bx:= .row 45 5 A l.length c (Ry l)
def y6(A:ar)(c:Nat)(l:List aE):bx:= .row 49 6 A l.length c (lu l)
abbrev Xj(x:aE):List bx:=[EM x.pA x.pc x.au,gS x.iA x.ic x.insts,.pk (x.au.map eN),.pk (x.insts.map fz)]
def dG(x:aE):bx:= .pk (Xj x)
abbrev I8(A:ar)(c:Nat)(fs:List aE):List bx:=[y6 A c fs,.pk (fs.map dG)]
theorem Gm(l:List bZ)(x:bZ):sT (l++[x])=sT l++x.cells:=by simp[sT]
theorem Rz(l:List bl)(x:bl):Ry (l++[x])=Ry l++x.cells:=by simp[Ry]
theorem Gn(l:List aE)(x:aE):lu (l++[x])=lu l++xV x:=by simp[lu]
theorem mY(p:bZ):p.cells.length=2:=rfl
theorem kn(p:bl):p.cells.length=5:=rfl
theorem y7(x:aE):(xV x).length=6:=rfl
theorem jN{α:Type}{f:α→aP}{k:Nat}(hf:∀x,(f x).length=k){w:World}{A:ar}{l:List α}(hk:0<k)(h:(bx.rd A (l.flatMap f)).holds w):(bx.l7 A k (l.map f)).holds w:=by
 intro i cs hi;rw[List.getElem?_map,QoQ]at hi;obtain⟨x,hx,rfl⟩:=hi;have h0:∃v,(f x)[0]?=some v:=⟨_,List.getElem?_eq_getElem (by rw[hf];exact hk)⟩;obtain⟨v0,zY⟩:=h0;obtain⟨ad,hA,_⟩:=h _ v0 (DV hf l i x hx 0 v0 zY);refine⟨ad,hA,fun j v hj=> ?_⟩;obtain⟨ad',WO,hc⟩:=h _ v (DV hf l i x hx j v hj);rw[hA]at WO;injection WO with WO;subst WO;rw[lF];exact hc
theorem u7{w:World}{A:ar}{c:Nat}{fs:List aE}(h1:(y6 A c fs).holds w)(h2:(bx.pk (fs.map dG)).holds w):(bx.fn A fs).holds w:=by
 intro r hr;rcases Qon.1 hr with rfl|hr
 ·have:=jN (f:=xV) y7 oM (aD h1);unfold bx.blocks;rw[show(aq fs).map SB.cells=fs.map xV by unfold aq;rw[QlQ];rfl];exact this
 ·obtain⟨x,hx,hr⟩:=Qo8.1 hr;have hb:(dG x).holds w:=yM h2 (Qhz.2 ⟨x,hx,rfl⟩);have b1:(EM x.pA x.pc x.au).holds w:=yM hb sI;have b2:(gS x.iA x.ic x.insts).holds w:=yM hb sI;have b3:(bx.pk (x.au.map eN)).holds w:=yM hb sI;have b4:(bx.pk (x.insts.map fz)).holds w:=yM hb sI;unfold aE.parts at hr;rcases Qon.1 hr with rfl|hr
  ·exact jN mY oM (aD b1)
  rcases Qon.1 hr with rfl|hr
  ·exact jN kn oM (aD b2)
  rcases Qn2.1 hr with hr|hr
  ·obtain⟨p,hp,rfl⟩:=Qhz.1 hr;exact aD (yM b3 (Qhz.2 ⟨p,hp,rfl⟩))
  ·obtain⟨p,hp,rfl⟩:=Qhz.1 hr;exact aD (yM b4 (Qhz.2 ⟨p,hp,rfl⟩))
theorem Xk{fs:List aE}{gd:List aE}{k:Nat}{x y:aE}(h:gd.map aE.e0=(fs.take k).map aE.e0)(hx:fs[k]?=some x)(hy:y.e0=x.e0):(gd++[y]).map aE.e0=(fs.take (k+1)).map aE.e0:=by
 obtain⟨hk,he⟩:=List.getElem?_eq_some_iff.1 hx;rw[Qou,h,Qow hk,Qou,he];simp[hy]
theorem Xl{l:List bZ}{d:List bZ}{k:Nat}{x y:bZ}(h:d.map bZ.e0=(l.take k).map bZ.e0)(hx:l[k]?=some x)(hy:y.e0=x.e0):(d++[y]).map bZ.e0=(l.take (k+1)).map bZ.e0:=by
 obtain⟨hk,he⟩:=List.getElem?_eq_some_iff.1 hx;rw[Qou,h,Qow hk,Qou,he];simp[hy]
theorem Xm{l:List bl}{d:List bl}{k:Nat}{x y:bl}(h:d.map bl.e0=(l.take k).map bl.e0)(hx:l[k]?=some x)(hy:y.e0=x.e0):(d++[y]).map bl.e0=(l.take (k+1)).map bl.e0:=by
 obtain⟨hk,he⟩:=List.getElem?_eq_some_iff.1 hx;rw[Qou,h,Qow hk,Qou,he];simp[hy]
theorem Gp{α β γ:Type}{f:α→γ}{g:β→γ}{l:List α}{m:List β}(h:l.map f=m.map g):l.length=m.length:=by simpa using Qlh List.length h
theorem mJ{α β:Type}{f:α→β}{l m:List α}(h:l.map f=m.map f):l.length=m.length:=by simpa using Qlh List.length h
structure Us(fs:List aE):Prop where
 lp:∀x,x∈fs→x.au.length≤20000
 li:∀x,x∈fs→x.insts.length≤20000
 ap:∀x,x∈fs→∀p,p∈x.au→p.args.length≤20000
 ai:∀x,x∈fs→∀p,p∈x.insts→p.args.length≤20000
structure dh where
 dst:Int
 fA:ar
 fc:Nat
 from_:af
 aA:ar
 ac:Nat
 args:af
def dh.cells(p:dh):aP:=[vI p.dst,.slice p.fA p.from_.length p.fc,.slice p.aA p.args.length p.ac]
abbrev gpV(p:dh):aP:=[vI p.dst,.slice p.fA p.from_.length p.fc,.slice p.aA p.args.length p.ac]
structure bN where
 g:Nat
 pA:ar
 pc:Nat
 au:List dh
 iA:ar
 ic:Nat
 insts:List bl
 e:Int
 v:Int
 a:Int
 b:Int
 gone:Bool
abbrev gV(x:bN):aP:=[.slice x.pA x.au.length x.pc,.slice x.iA x.insts.length x.ic,vI x.e,vI x.v,vI x.a,vI x.b,.bool x.gone]
def fW(p:dh):bx:= .row 3 1 p.fA p.from_.length p.fc (ints p.from_)
def fN(p:dh):bx:= .row 3 1 p.aA p.args.length p.ac (ints p.args)
def D2(l:List dh):aP:=l.flatMap dh.cells
def xz(A:ar)(c:Nat)(l:List dh):bx:= .row 81 3 A l.length c (D2 l)
abbrev gL(x:bN):List bx:=[.aB x.g 79 (gV x),xz x.pA x.pc x.au,gS x.iA x.ic x.insts,.pk (x.au.map fW),.pk (x.au.map fN),.pk (x.insts.map fz)]
def gB(x:bN):bx:= .pk (gL x)
theorem RB(l:List dh)(x:dh):D2 (l++[x])=D2 l++x.cells:=by simp[D2]
def jW(gs:List bN):aP:=gs.map (fun x=> .pointer (some (aZ x.g)))
def jS(A:ar)(c:Nat)(gs:List bN):bx:= .row 76 1 A gs.length c (jW gs)
abbrev gF(q:Nat)(nm:aV)(wk:Bool)(pa va:Int)(bA:ar)(bn bc:Nat)(A:ar)(c:Nat)(gs:List bN):List bx:=[.aB q 75 (cg nm wk pa va bA bn bc A gs.length c),jS A c gs,.pk (gs.map gB)]
end Go.Mor
namespace Go.Mor
open Go.RowKit
structure y8 where
 dst:Int
 from_:af
 args:af
structure gT where
 au:List y8
 insts:List bl
 e:Int
 v:Int
 a:Int
 b:Int
 gone:Bool
def dh.k(p:dh):y8:=⟨p.dst,p.from_,p.args⟩
def bN.k(x:bN):gT:=⟨x.au.map dh.k,x.insts.map bl.e0,x.e,x.v,x.a,x.b,x.gone⟩
def qy(s:af)(p:bZ):y8:=⟨p.dst,s,p.args⟩
def Gq(fs:List aE)(k:Nat)(x:aE):gT:=⟨x.au.map (qy (bG (aq fs) (k:Int))),x.insts.map bl.e0,x.e,x.v,x.a,x.b,false⟩
def mK(fs:List aE):List gT:=fs.zipIdx.map (fun p=>Gq fs p.2 p.1)
section
variable {fs gs : List aE} {k : Nat} {x : aE}
theorem nH(h:fs[k]?=some x):(mK fs)[k]?=some (Gq fs k x):=by
 unfold mK;rw[List.getElem?_map,List.getElem?_zipIdx,h];simp
theorem j8(fs:List aE):(mK fs).length=fs.length:=by simp[mK]
theorem I9{l:List bN}{y:bN}(hl:l.map bN.k=(mK fs).take k)(hx:fs[k]?=some x)(hy:y.k=Gq fs k x):(l++[y]).map bN.k=(mK fs).take (k+1):=by
 obtain⟨h1,h2⟩:=List.getElem?_eq_some_iff.1 (nH hx);rw[Qou,hl,Qow h1,h2,←hy];rfl
theorem Ja{s:af}{l:List bZ}{d:List dh}{j:Nat}{p:bZ}{y:dh}(hl:d.map dh.k=(l.take j).map (qy s))(hp:l[j]?=some p)(hy:y.k=qy s p):(d++[y]).map dh.k=(l.take (j+1)).map (qy s):=by
 obtain⟨h1,h2⟩:=List.getElem?_eq_some_iff.1 hp;rw[Qou,hl,Qow h1,Qou,h2];simp[hy]
theorem Gr(h:eH gs fs):mK gs=mK fs:=by
 have hs:=j7 (DR h);refine QoL fun k=> ?_
 cases hx:fs[k]? with
 |none=>
  have:gs[k]?=none:=by rw[List.getElem?_eq_none_iff]at hx⊢;rw[h.len];exact hx
  rw[List.getElem?_eq_none_iff]at hx this;rw[List.getElem?_eq_none (by rw[j8];exact this),List.getElem?_eq_none (by rw[j8];exact hx)]
 |some x=>
  obtain⟨y,hy,e⟩:=qu h.symm hx;rw[nH hx,nH hy];unfold Gq;rw[hs,Rh e,MR e,Qb8 e,Qb9 e];have e1:=tT e;have e2:∀s,y.au.map (qy s)=x.au.map (qy s):=by intro s;have:qy s=qy s∘bZ.e0:=rfl;rw[this,←QlQ,←QlQ,tS e]
  rw[e1,e2]
theorem Us.alike(h:eH gs fs)(hs:Us fs):Us gs:=by
 have key:∀x,x∈gs→∃y,y∈fs∧x.e0=y.e0:=by intro x hx;obtain⟨k,hk⟩:=Qmp.1 hx;obtain⟨y,hy,e⟩:=qu h hk;exact⟨y,D7 hy,e⟩
 refine⟨fun x hx=> ?_,fun x hx=> ?_,fun x hx p hp=> ?_,fun x hx p hp=> ?_⟩
 ·obtain⟨y,hy,e⟩:=key x hx;rw[mJ (tS e)];exact hs.lp y hy
 ·obtain⟨y,hy,e⟩:=key x hx;rw[mJ (tT e)];exact hs.li y hy
 ·obtain⟨y,hy,e⟩:=key x hx;obtain⟨j,hj⟩:=Qmp.1 hp;obtain⟨q,hq,_,e2⟩:=IZ e hj;rw[e2];exact hs.ap y hy q (D7 hq)
 ·obtain⟨y,hy,e⟩:=key x hx;obtain⟨j,hj⟩:=Qmp.1 hp;obtain⟨q,hq,_,_,_,_,e2⟩:=tU e hj;rw[e2];exact hs.ai y hy q (D7 hq)
end
section
variable {w : World} {A : Option Addr} {c : Nat} {ad : Addr} {k : Nat}
theorem Xn{fs:List aE}{x:aE}(h:(y6 A c fs).holds w)(hA:A=some ad)(hx:fs[k]?=some x):∀j v,(xV x)[j]?=some v→w.cell? ((ad.add (k*6)).add j)=some v:=aQ (cs:=xV x) (jN (f:=xV) y7 oM (aD h)) hA (by rw[List.getElem?_map,hx];rfl)
theorem Xo{l:List bZ}{p:bZ}(h:(EM A c l).holds w)(hA:A=some ad)(hp:l[k]?=some p):∀j v,(pV p)[j]?=some v→w.cell? ((ad.add (k*2)).add j)=some v:=aQ (cs:=p.cells) (jN (f:=bZ.cells) mY oM (aD h)) hA (by rw[List.getElem?_map,hp];rfl)
theorem Xp{l:List bl}{p:bl}(h:(gS A c l).holds w)(hA:A=some ad)(hp:l[k]?=some p):∀j v,(iV p)[j]?=some v→w.cell? ((ad.add (k*5)).add j)=some v:=aQ (cs:=p.cells) (jN (f:=bl.cells) kn oM (aD h)) hA (by rw[List.getElem?_map,hp];rfl)
theorem oH(p:dh):p.cells.length=3:=rfl
theorem RD{l:List dh}{p:dh}(h:(xz A c l).holds w)(hA:A=some ad)(hp:l[k]?=some p):∀j v,(gpV p)[j]?=some v→w.cell? ((ad.add (k*3)).add j)=some v:=aQ (cs:=p.cells) (jN (f:=dh.cells) oH oM (aD h)) hA (by rw[List.getElem?_map,hp];rfl)
theorem Qck{fs:List aE}(h:(y6 A c fs).holds w):(bx.blocks A (aq fs)).holds w:=by
 have:=jN (f:=xV) y7 oM (aD h);unfold bx.blocks;rw[show(aq fs).map SB.cells=fs.map xV by unfold aq;rw[QlQ];rfl];exact this
theorem oI{e size n:Nat}{xs:aP}(h:(bx.row e size A n c xs).holds w)(hn:0<xs.length):∃ad,A=some ad:=rd_some (aD h) hn
end
end Go.Mor
namespace Go.Mor
open Go.RowKit
end Go.Mor
namespace Go.Mor
open Go.RowKit
def za(rl:List Bool):Nat:=rl.countP (fun b=>b)
end Go.Mor
