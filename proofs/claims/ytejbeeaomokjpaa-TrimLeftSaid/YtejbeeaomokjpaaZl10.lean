/-
  Texts of the proof, part 10.
-/
import Derived.Test.YtejbeeaomokjpaaZl9
import Derived.Laws.IdiomCopy
import Derived.Laws.Cover3
import Derived.Laws.StructEq
import Derived.ChangeKeysEq
set_option maxRecDepth 10000
namespace Go.Mor
open Go.RowKit
end Go.Mor
namespace Go.Mor
open Go.RowKit
def s2aE(P:Program)(c:Code)(N:FN)(env:Env)(k:Nat):Option (Option Nat×Nat×Value):=match ao c k with
 |some (d,.sliceToArrayPointer t x,_,g)=>match bw c g env,iy d N,ev env x,P.underlying t with
  |some true,true,some v,some (.array m _)=>some (d,m,v)
  |_,_,_,_=>none
 |_=>none
def iK(c:Code)(N:FN)(env:Env)(k:Nat):Option (Option Nat×BinOp×TypeId×Value×Value):=match ao c k with
 |some (d,.binOp op t x y _,_,g)=>match bw c g env,iy d N,ev env x,ev env y with
  |some true,true,some u,some v=>some (d,op,t,u,v)
  |_,_,_,_=>none
 |_=>none
end Go.Mor
namespace Go.Mor
open Go.RowKit
end Go.Mor
namespace Go.Mor
open Go.RowKit
def UE(l:List bo):Prop:=l.Pairwise (fun r s=>∀g,r.fp g→¬s.fp g)
def bo.pk(l:List bo):bo where
 fp k:=∃r,r∈l∧r.fp k
 holds w:=(∀r,r∈l→r.holds w)∧UE l
 gJ:=fun h hw=>⟨fun r hr=>r.gJ (fun g hg=>h g ⟨r,hr,hg⟩) (hw.1 r hr),hw.2⟩
 lt:=fun⟨h1,_⟩ ⟨r,hr,hg⟩=>r.lt (h1 r hr) hg
section
variable {S : Nat → Prop} {w0 w w' : World} {l l' L : List bo} {r : bo}
theorem Mem.UF(h:(bo.pk l).holds w):Mem (bo.pk l).fp w w l:=⟨rfl,rfl,rfl,Qjn _,fun _ _ _=>rfl,fun r hr=>⟨h.1 r hr,fun _ hg=> .inl ⟨r,hr,hg⟩⟩,h.2⟩
theorem Mem.mz(h:Mem S w0 w (l++L)):(bo.pk l).holds w:=⟨fun r hr=>(h.own r (Qi6 _ hr)).1,(o0.1 h.apart).1⟩
theorem Mem.pack(h:Mem S w0 w (l++L)):Mem S w0 w (.pk l::L):=by
 obtain⟨h1,h2,h3⟩:=o0.1 h.apart;refine⟨h.os,h.tape,h.output,h.size,h.kept,fun r hr=> ?_,zE.2 ⟨?_,h2⟩⟩
 ·rcases Qcx.1 hr with rfl|hr
  ·exact⟨h.mz,fun g ⟨q,hq,hg⟩=>(h.own q (Qi6 _ hq)).2 g hg⟩
  ·exact h.own r (Qjl _ hr)
 ·rintro r hr g ⟨q,hq,hg⟩;exact h3 q hq r hr g hg
theorem Mem.unpack(h:Mem S w0 w (.pk l::L)):Mem S w0 w (l++L):=by
 obtain⟨h1,h2⟩:=zE.1 h.apart;obtain⟨⟨h3,h4⟩,h5⟩:=h.own _ (en ..);refine⟨h.os,h.tape,h.output,h.size,h.kept,fun r hr=> ?_,o0.2 ⟨h4,h2,fun q hq r hr g hg=>h1 r hr g ⟨q,hq,hg⟩⟩⟩;rcases QiU.1 hr with hr|hr
 ·exact⟨h3 r hr,fun g hg=>h5 g ⟨r,hr,hg⟩⟩
 ·exact h.own r (QiV _ hr)
theorem Mem.UG(h:Mem S w0 w (l++L))(h':Mem (bo.pk l).fp w w' l'):Mem S w0 w' (l'++L):=by
 have h1:Mem (bo.pk l).fp w w' (l'++[]):=by rw[QiY];exact h'
 have h2:=h.pack.mod 0 rfl h1.pack;exact Mem.unpack (by simpa using h2)
theorem RO.xO(hA:RO S w0 r)(h:Mem S w0 w (l++L)):RO (bo.pk l).fp w r:=by
 refine⟨h.ro hA,fun g hg ⟨q,hq,hgq⟩=> ?_⟩;have h1:=r.lt hA.1 hg;rcases(h.own q (Qi6 _ hq)).2 g hgq with h2|h2
 ·exact hA.2 g hg h2
 ·omega
theorem RO.y9(h:Mem S w0 w (l++L))(i:Nat)(hi:L[i]?=some r):RO (bo.pk l).fp w r:=by
 have hm:=Qcs hi;refine⟨(h.own r (Qjl _ hm)).1,fun g hg ⟨q,hq,hgq⟩=> ?_⟩;exact(o0.1 h.apart).2.2 q hq r hm g hgq hg
end
end Go.Mor
namespace Go.Mor
open Go.RowKit
def u5(c:Code)(m:Nat):Bool:=(List.range (opsOf c).size).all fun i=>Nat.blt i m||(List.range i).all (fun j=>reach c (opsOf c).size i j)
theorem Bn{c:Code}(kT:fF c=true):∀{n j i:Nat},j<(opsOf c).size→reach c n j i=true→i<j
 |0,j,i,_,h=>by simp[reach]at h
 |n+1,j,i,hj,h=>by
  have hp:∀k,k∈cR c j→k<j:=by intro k hk;simp only[fF,Qjq,Qi4]at kT;have:=kT j hj k hk;simpa[Qdg]using this
  simp only[reach,QiZ,Qju]at h;rcases h with h|⟨k,hk,h⟩
  ·exact hp i (iE.1 h)
  ·have h1:=hp k hk;have:=Bn kT oM h;omega
theorem jJ{c:Code}(kT:fF c=true){ax:Array Bool}(jv:ax.size=(opsOf c).size)(hr:Region.ready .any (opsOf c) ax=[]):∀j,j<(opsOf c).size→ax.getD j false=true:=by
 intro j;induction j using Nat.strongRecOn with
 |_ j ih=>
  intro hj;cases hq:ax.getD j false with
  |true=>rfl
  |false=>
   exfalso;have:j∈Region.ready .any (opsOf c) ax:=by
    simp only[Region.ready,Qjr,Qi4,Qjo,dB];have Fl:j<ax.size:=oM;refine⟨hj,?_,?_⟩
    ·simp[Array.getD,Fl]at hq⊢;exact hq
    ·have ho:(opsOf c)[j]?=some (opsOf c)[j]:=by simp[hj]
     simp only[ho,s9,Qjs];rw[Od];intro e he;cases hb:Region.binds .any e with
     |false=>rfl
     |true=>
      have nG:e.on∈cR c j:=by simp only[cR,ho,jd,Qjr];exact⟨e,⟨Qcy.2 he,hb⟩,rfl⟩
      have fm:e.on<j:=by simp only[fF,Qjq,Qi4]at kT;have:=kT j hj e.on nG;simpa[Qdg]using this
      simp[ih e.on fm oM]
   rw[hr]at this;simp at this
theorem oD{c:Code}{ax:Array Bool}{i:Nat}(hr:i∈Region.ready .any (opsOf c) ax):∀j,j∈cR c i→ax.getD j false=true:=by
 obtain⟨_,_,o,ho,CE⟩:=eX hr;intro j hj;simp only[cR,ho,jd,Qjr]at hj;obtain⟨e,⟨he,hb⟩,rfl⟩:=hj;exact CE e he hb
theorem sv{c:Code}{ax:Array Bool}(jv:ax.size=(opsOf c).size){i:Nat}(hr:i∈Region.ready .any (opsOf c) ax):ax.getD i false=false:=by
 obtain⟨fm,Ee,_⟩:=eX hr;have:i<ax.size:=oM;simp[Array.getD,this]at Ee⊢;exact Ee
def xF(c:Code)(m:Nat):Env→Env
 |[]=>[]
 |(t,v)::r=>match qd ((List.range m).filterMap (eo c)) t with
  |true=>xF c m r
  |false=>(t,v)::xF c m r
theorem qz{c:Code}{m:Nat}:∀{env:Env} {t:Nat} {v:Value},look (xF c m env) t=some v→(t,v)∈env∧∀j,j<m→eo c j≠some t
 |[],t,v,h=>by simp[xF,look]at h
 |(k,u)::r,t,v,h=>by
  unfold xF at h;cases hm:qd ((List.range m).filterMap (eo c)) k with
  |true=>
   rw[hm]at h;obtain⟨h1,h2⟩:=qz h;exact⟨QiV _ h1,h2⟩
  |false=>
   rw[hm]at h;simp only[look]at h;cases hq:Nat.beq k t with
   |false=>
    rw[hq]at h;obtain⟨h1,h2⟩:=qz h;exact⟨QiV _ h1,h2⟩
   |true=>
    rw[hq]at h;injection h with h;have:=sZ hq;subst this;subst h;refine⟨en ..,fun j hj qe=> ?_⟩;have:qd ((List.range m).filterMap (eo c)) k=true:=iE.2 (List.mem_filterMap.2 ⟨j,Qi4.2 hj,qe⟩);rw[this]at hm;cases hm
section
variable {P : Program} {c : Code} {K : Act → World → Prop} {Q : Exit → Act → World → Prop} {N : FN} {env0 : Env} {wr : World} {sp : Nat → Spec}
theorem za{ax:Array Bool}{i j:Nat}(hi:i<ax.size):(ax.setIfInBounds i true).getD j false=(decide (j=i)||ax.getD j false):=by
 by_cases e:i=j
 ·subst e;simp[vV,hi]
 ·have:¬j=i:=fun h=>e h.symm
  simp[vV,Array.getElem?_setIfInBounds_ne e,this]
theorem Ja(kT:fF c=true){m:Nat}(ht:u5 c m=true):∀(n fuel k:Nat) (ax:Array Bool) (a:Act) (w:World),ax.size=(opsOf c).size→(opsOf c).size≤k+n→n≤fuel→m≤k→k≤(opsOf c).size→(∀j,j<(opsOf c).size→ax.getD j false=decide (j<k))→br P c K Q k a w→wpAny P .any (opsOf c) (Exit.then K Q) fuel ax a w:=by
 intro n;induction n with
 |zero=>
  intro fuel k ax a w jv hs hf k9 xG hl h;have hk:k=(opsOf c).size:=oM;subst hk;have hK:K a w:=by unfold br at h;rw[QjH sI]at h;exact h
  have X7:∀i,¬i∈Region.ready .any (opsOf c) ax:=fun i hi=>by have h1:=sv jv hi;have h2:=(eX hi).1;rw[hl i h2]at h1;simp[h2]at h1
  cases fuel with
  |zero=>exact⟨List.eq_nil_iff_forall_not_mem.2 X7,hK⟩
  |succ fuel=>exact⟨fun _=>hK,fun i hi=>absurd hi (X7 i)⟩
 |succ n ih=>
  intro fuel k ax a w jv hs hf k9 xG hl h;by_cases hk:k<(opsOf c).size
  ·cases fuel with
   |zero=>omega
   |succ fuel=>
    refine⟨fun hr=> ?_,fun i hi=> ?_⟩
    ·have:=jJ kT jv hr k hk;rw[hl k hk]at this;simp at this
    ·have o8:=sv jv hi;have Ra:=(eX hi).1;have ft:i=k:=by
      rw[hl i Ra]at o8;have hge:k≤i:=by simpa using o8
      rcases Nat.lt_or_eq_of_le hge with hgt|he
      ·exfalso;simp only[u5,Qjq,Qi4,QiZ]at ht;have h1:reach c (opsOf c).size i k=true:=by
        rcases ht i Ra with h1|h1
        ·have:i<m:=by simpa[Qdg]using h1
         omega
        ·exact h1 k hgt
       cases hn:(opsOf c).size with
       |zero=>omega
       |succ N'=>
        rw[hn]at h1;simp only[reach,QiZ,Qju]at h1;rcases h1 with h1|⟨q,hq,h1⟩
        ·have:=oD hi k (iE.1 h1);rw[hl k hk]at this;simp at this
        ·have h2:=oD hi q hq;have hqi:q<i:=by simp only[fF,Qjq,Qi4]at kT;have:=kT i Ra q hq;simpa[Qdg]using this
         rw[hl q oM]at h2;have h3:q<k:=by simpa using h2
         have:=Bn kT oM h1;omega
      ·exact he.symm
     subst ft;have ho:(opsOf c)[i]?=some (opsOf c)[i]:=by simp[hk]
     generalize rM:(opsOf c)[i]=o at ho;unfold br at h;rw[yg ho]at h;unfold wpList at h;have next:∀a' w',wpList P (opsOf c) (Exit.then K Q) ((opsOf c).toList.drop (i+1)) a' w'→wpAny P .any (opsOf c) (Exit.then K Q) fuel (ax.setIfInBounds i true) a' w':=by
      intro a' w' h';refine ih fuel (i+1) _ a' w' (by simpa using jv) oM oM oM oM (fun j hj=> ?_) h';rw[za oM,hl j hj];by_cases e:j=i
      ·subst e;simp
      ·have:(j<i+1)↔(j<i):=oM;simp[e,this]
     unfold wpOp;rw[ho];simp only[];split at h
     ·rename_i hw;rw[dd hw];exact h.imp (Oper.wp_mono next) id
     ·rename_i hw;rw[QcA hw];exact next _ _ h
  ·exact ih fuel k ax a w jv oM oM k9 xG hl h
theorem F7(hd:kl c=true)(pD:∀i d,eo c i=some d→d<N.n)(kT:fF c=true){m:Nat}(ht:u5 c m=true)(hm:m≤(opsOf c).size)(qf:∀i,i<m→jw P c Q N env0 wr sp i)(CF:∀a w,(∀ax:Array Bool,(∀j,j<m→ax.getD j false=true)→(∀j,m≤j→ax.getD j false=false)→re c N env0 wr sp ax a w→br P c K Q m a w)):∀(n fuel:Nat) (ax:Array Bool) (a:Act) (w:World),ax.size=(opsOf c).size→((List.range (opsOf c).size).filter (fun j=> !ax.getD j false)).length=n→n≤fuel→(∀j,m≤j→ax.getD j false=false)→re c N env0 wr sp ax a w→wpAny P .any (opsOf c) (Exit.then K Q) fuel ax a w:=by
 intro n;induction n using Nat.strongRecOn with
 |_ n ih=>
  intro fuel ax a w jv hn hf Tu hk;by_cases cA:∀j,j<m→ax.getD j false=true
  ·have hlen:(opsOf c).size≤m+n:=by
    have h1:((List.range (opsOf c).size).filter (fun j=> !ax.getD j false)).length=(opsOf c).size-m:=by
     have e:(List.range (opsOf c).size).filter (fun j=> !ax.getD j false)=(List.range (opsOf c).size).filter (fun j=>decide (m≤j)):=by
      apply I4;intro j _;by_cases hj:j<m
      ·rw[cA j hj];simp;omega
      ·rw[Tu j oM];simp;omega
     rw[e];have key:∀N,((List.range N).filter (fun j=>decide (m≤j))).length=N-m:=by
      intro N;induction N with
      |zero=>simp
      |succ N ihN=>
       rw[lh,xH,rV,ihN];by_cases h:m≤N
       ·simp[h];omega
       ·simp[h];omega
     exact key _
    omega
   refine Ja kT ht n fuel m ax a w jv hlen hf (Qjn _) hm (fun j hj=> ?_) (CF a w ax cA Tu hk);by_cases h:j<m
   ·rw[cA j h];simp[h]
   ·rw[Tu j oM];simp[h]
  ·have F8:0<n:=by
    rcases Qcv n with h0|h0
    ·exfalso;apply cA;intro j hj;cases hq:ax.getD j false with
     |true=>rfl
     |false=>
      have:j∈(List.range (opsOf c).size).filter (fun j=> !ax.getD j false):=Qjr.2 ⟨Qi4.2 oM,by rw[hq];rfl⟩;have:=QdG this;omega
    ·exact h0
   cases fuel with
   |zero=>omega
   |succ fuel=>
    refine⟨fun hr=>absurd (fun j hj=>jJ kT jv hr j oM) cA,fun i hi=> ?_⟩;obtain⟨h1,h2,_⟩:=eX hi;have LO:i<m:=by
     rcases iO i m with h|h
     ·exact h
     ·exfalso;apply cA;intro j hj;simp only[u5,Qjq,Qi4,QiZ]at ht;have Xm:reach c (opsOf c).size i j=true:=by
       rcases ht i h1 with h3|h3
       ·have:i<m:=by simpa[Qdg]using h3
        omega
       ·exact h3 j oM
      exact aG (ls:=fun q=>ax.getD q false) (fun j hj q hq=>hk.2.2.2.1 j hj q hq) (fun q hq=>oD hi q hq) Xm
    have Ue:=sv jv hi;have q8:i<ax.size:=oM;refine wU hd pD (qf i LO) jv hi hk (fun a' w' ja=> ?_);have fm:((List.range (opsOf c).size).filter (fun j=> !(ax.setIfInBounds i true).getD j false)).length<n:=by
     rw[←hn];have j5:((List.range (opsOf c).size).filter (fun j=> !(ax.setIfInBounds i true).getD j false))=((List.range (opsOf c).size).filter (fun j=> !ax.getD j false)).filter (fun j=> !(Nat.beq j i)):=by
      rw[Qji];apply I4;intro j _;rw[za q8];by_cases e:j=i
      ·subst e;simp
      ·have hb:Nat.beq j i=false:=by
        cases hq:Nat.beq j i with
        |false=>rfl
        |true=>exact absurd (sZ hq) e
       simp[e,hb]
     rw[j5];have nG:i∈(List.range (opsOf c).size).filter (fun j=> !ax.getD j false):=Qjr.2 ⟨Qi4.2 h1,by rw[Ue];rfl⟩;exact uv.2 ⟨i,nG,sI⟩
    refine ih _ fm fuel _ a' w' (by simpa using jv) rfl oM (fun j hj=> ?_) ja;rw[za q8,Tu j hj];have:j≠i:=oM;simp[this]
theorem Yg(m:Nat)(sp:Nat→Spec){a:Act}(hF:Fr a N env0)(qf:∀i,i<m→jw P c Q N env0 wr sp i)(h:∀a' w' (vs:Nat→Value),Kp wr w'→(∀j,j<m→(sp j).ok (vs j) w')→Fr a' N (n8 c sp vs (List.range m)++xF c m env0)→br P c K Q m a' w')(ht:u5 c m=true:=by kernel_rfl)(HK:Nat.ble m (opsOf c).size=true:=by kernel_rfl)(hk:kind c= .region true:=by kernel_rfl)(hm:P.follows .mixedOrders=true:=by kernel_rfl)(hd:kl c=true:=by kernel_rfl)(kT:fF c=true:=by kernel_rfl)(ri:oa env0=true:=by kernel_rfl)(pD:(List.range (opsOf c).size).all (fun i=>iy (eo c i) N)=true:=by kernel_rfl):W P c K Q a wr:=by
 have HW:∀i d,eo c i=some d→d<N.n:=by
  intro i d hi;have fm:i<(opsOf c).size:=by
   simp only[eo]at hi;cases ho:(opsOf c)[i]? with
   |none=>simp[ho]at hi
   |some o=>exact(Array.getElem?_eq_some_iff.1 ho).1
  simp only[Qjq,Qi4]at pD;have:=pD i fm;rw[hi]at this;simpa[iy,Qdg]using this
 have dY:=nL HK;cases c<;>simp[kind]at hk;rename_i id ops dr;subst hk;refine wp_region_any hm ?_;have Rb:∀j,(Array.replicate ops.size false).getD j false=false:=by intro j;simp only[vV,Array.getElem?_replicate];split<;>rfl
 have h0:re (.region id ops true) N env0 wr sp (Array.replicate ops.size false) a {wr with drawn:=wr.drawn+1}:=by
  refine⟨Mem.drew wr,hF.defers,hF.size,?_,⟨fun _=>undef,?_⟩,fun t v Uf _=>hF.slot t v (oZ ri Uf)⟩
  ·intro j hj;rw[Rb j]at hj;cases hj
  ·intro j hj;rw[Rb j]at hj;cases hj
 refine F7 (c:= .region id ops true) hd HW kT ht dY qf ?_ _ ops.size _ a _ (by simp[opsOf]) rfl ?_ (fun j _=>Rb j) h0
 ·intro a' w' ax cA Tu hk;obtain⟨Ti,uA,jv,_,⟨vs,Cp⟩,ob⟩:=hk;refine h a' w' vs Ti (fun j hj=>(Cp j (cA j hj)).1) ⟨uA,jv,fun t v hv=> ?_⟩;rcases j4 hv with h1|h1
  ·obtain⟨j,hj,qe,rfl⟩:=mh h1;obtain⟨h2,h3⟩:=Cp j (cA j (Qi4.1 hj));rw[Spec.uy h2];exact h3 t qe
  ·obtain⟨h2,h3⟩:=qz h1;refine ob t v h2 (fun j hj=> ?_);rcases iO j m with ZE|ZE
   ·exact h3 j ZE
   ·rw[Tu j ZE]at hj;cases hj
 ·refine pX (Qjt _ _) ?_;simp[opsOf]
variable {i : Nat}
end
end Go.Mor
namespace Go.Mor
open Go.RowKit
end Go.Mor
namespace Go.Mor
open Go.RowKit
end Go.Mor
namespace Go.Mor
end Go.Mor
namespace Go.Mor
open Go.RowKit
def Qhm(P:Program)(c:Code)(N:FN)(env:Env)(k:Nat):Option (Option Nat×aX×Nat×Int):=match ao c k with
 |some (d,.slice t x none (some y) none,_,g)=>match bw c g env,iy d N,ev env x,ev env y,P.underlying t with
  |some true,true,some (.slice A _ cap),some (.int _ i),some (.slice e)=>match(P.info? e).map (·.size)with
   |some _=>some (d,A,cap,i)
   |none=>none
  |_,_,_,_,_=>none
 |_=>none
section
variable {P : Program} {c : Code} {K : Act → World → Prop} {Q : Exit → Act → World → Prop} {w w0 : World} {S : Nat → Prop} {L : List bo} {k : Nat} {N : FN} {env : Env}
theorem zhi{A:aX}{cap:Nat}{i:Int}(m:Nat)(hi:i=(m:Int))(hm:m≤cap)(h:∀a,Fr a N (dE env (eo c k) (vS A m cap))→br P c K Q (k+1) a w)(hk:Qhm P c N env k=some (eo c k,A,cap,i)):∀a,Fr a N env→br P c K Q k a w:=fun a hF=>by
 unfold Qhm at hk;split at hk
 ·rename_i h0;split at hk
  ·rename_i h1 h2 h3 h4 h5;split at hk
   ·rename_i sz h6;simp only[p5,eh]at hk;obtain⟨rfl,rfl,rfl,rfl⟩:=hk;exact fW h0 hF h1 h2 rfl m h3 h4 hi h5 h6 hm (fun a' _=>h a')
   ·cases hk
  ·cases hk
 ·cases hk
end
end Go.Mor
namespace Go.Mor
open Go.RowKit
section
variable {P : Program} {c : Code} {K : Act → World → Prop} {Q : Exit → Act → World → Prop} {w w0 : World} {S : Nat → Prop} {L : List bo} {k k' : Nat} {N : FN} {env : Env}
theorem zlv{kt e t:TypeId}{kd:TypeDesc}{α:Type}[BEq α]{inj:α→Value}(KL:Qhs P kt kd inj)(s:α)(z:Value){b:Nat}{l:List (α×Value)}(hm:Qgr w b (kL inj l))(ok:Bool){v:Value}(e':lkV ok (lkp l s) z=v)(h:∀a,Fr a N (dE env (eo c k) v)→br P c K Q (k+1) a w)(ht:P.underlying t=some (.map kt e))(hz:(P.info? e).map (·.zero)=some (some z):=by kernel_rfl)(hk:lkE c N env k=some (eo c k,t,b,inj s,ok):=by kernel_rfl):∀a,Fr a N env→br P c K Q k a w:=by
 subst e';exact zlk KL s z hm ok h ht hz hk
end
end Go.Mor
namespace Go.Mor
open Go.RowKit
end Go.Mor
namespace Go.Mor
open Go.RowKit
end Go.Mor
namespace Go.Mor
open Go.RowKit
section
variable {S : Nat → Prop} {w0 w : World} {l l' L : List bo} {r r' : bo} {k : Nat}
theorem Mem.Rc(h:Mem S w0 w L):Mem S w0 w (.pk []::L):=Mem.pack (l:=[]) h
theorem Mem.tU(h:Mem S w0 w (.pk (r::l)::L)):Mem S w0 w (r:: .pk l::L):=((Mem.pack (l:=l) (h.unpack.perm ((Qf2 (a:=r) (l₁:=l) (l₂:=L)).symm))).perm (Qjw ..):_)
theorem Mem.kG(h:Mem S w0 w (.pk l::r::L)):Mem S w0 w (.pk (l++[r])::L):=Mem.pack (l:=l++[r]) (by simpa using h.unpack)
theorem Mem.Qnr(h:Mem S w0 w (.pk l:: .pk l'::L)):Mem S w0 w (.pk (l++l')::L):=by
 have h1:Mem S w0 w (l++(.pk l'::L)):=h.unpack;have h2:Mem S w0 w (.pk l'::(l++L)):=h1.perm Qf2;have h3:Mem S w0 w (l'++(l++L)):=h2.unpack;refine Mem.pack (l:=l++l') (h3.perm ?_);rw[←xD];exact(List.perm_append_comm).append_right L
theorem pO:∀{l:List bo} {k:Nat} {r:bo},l[k]?=some r→l.Perm (r::l.eraseIdx k)
 |[],k,r,h=>by simp at h
 |x::l,0,r,h=>by simp at h;subst h;simp
 |x::l,k+1,r,h=>by simp at h;simp only[Qjv];exact((pO h).cons x).trans (Qjw ..)
theorem set_perm:∀{l:List bo} {k:Nat} (r:bo),k<l.length→(l.set k r).Perm (r::l.eraseIdx k)
 |[],k,r,h=>by simp at h
 |x::l,0,r,_=>sI
 |x::l,k+1,r,h=>by simp only[QdT,Qjv];exact((set_perm r (by simpa using h)).cons x).trans (Qjw ..)
theorem Mem.Jb(h:Mem S w0 w (.pk l::L))(k:Nat)(hk:l[k]?=some r):Mem S w0 w (r:: .pk (l.eraseIdx k)::L):=by
 have h1:Mem S w0 w ((r::l.eraseIdx k)++L):=h.unpack.perm ((pO hk).append_right L);have h2:Mem S w0 w (l.eraseIdx k++(r::L)):=h1.perm (by simpa using(Qf2 (a:=r) (l₁:=l.eraseIdx k) (l₂:=L)).symm);exact h2.pack.perm (Qjw ..)
theorem Mem.PE(h:Mem S w0 w (r':: .pk (l.eraseIdx k)::L))(hk:k<l.length):Mem S w0 w (.pk (l.set k r')::L):=by
 have h1:Mem S w0 w (.pk (l.eraseIdx k)::r'::L):=h.perm (Qjw ..);have h2:Mem S w0 w (l.eraseIdx k++(r'::L)):=h1.unpack;refine Mem.pack (l:=l.set k r') (h2.perm ?_);refine(Qf2 (a:=r') (l₁:=l.eraseIdx k) (l₂:=L)).trans ?_;exact((set_perm r' hk).symm.append_right L)
theorem Mem.l8(h:Mem S w0 w (.pk l::L))(hs:l'.Sublist l):Mem S w0 w (.pk l'::L):=by
 have h1:=h.unpack;have h2:=o0.1 h1.apart;exact Mem.pack (l:=l') ⟨h1.os,h1.tape,h1.output,h1.size,h1.kept,fun r hr=>h1.own r (by
  rcases QiU.1 hr with hr|hr
  ·exact Qi6 _ (hs.subset hr)
  ·exact Qjl _ hr),h1.apart.sublist (hs.append_right L)⟩
theorem Mem.rH(w:World):Mem bK w w [.pk []]:=Mem.Rc (Mem.init w)
theorem jr{α:Type}(l:List α)(x:α):(l++[x]).length=l.length+1:=sI
theorem ka{α β:Type}(f:α→β)(l:List α)(x:α):(l++[x]).map f=l.map f++[f x]:=sI
theorem Bo{w:World}{l:ar}(h:(bo.rd none (ints l)).holds w):l=[]:=by
 cases l with
 |nil=>rfl
 |cons x l=>obtain⟨ad,h1,_⟩:=h 0 _ rfl;cases h1
theorem lM{α β:Type}(f:α→β){l:List α}{k:Nat}{x:α}(h:l[k]?=some x):(l.drop k).map f=f x::(l.drop (k+1)).map f:=by
 obtain⟨hk,he⟩:=List.getElem?_eq_some_iff.1 h;rw[tl hk,he,lR]
theorem QcX{w:World}{A:aX}{ad:Addr}{l:List Bool}(h:(bo.rd A (bD l)).holds w)(hA:A=some ad){i:Int}(h0:0≤i)(h1:i<l.length):w.cell? (ad.add (i.toNat*1))=some (vB (l.getD i.toNat false)):=bB h hA (jM oM)
theorem oE{w:World}{l:List bo}{r:bo}(h:(bo.pk l).holds w)(hr:r∈l):r.holds w:=h.1 r hr
theorem RO.l8(h:RO S w (.pk l))(hr:r∈l):RO S w r:=⟨h.1.1 r hr,fun g hg=>h.2 g ⟨r,hr,hg⟩⟩
end
section
variable {P : Program} {c : Code} {K : Act → World → Prop} {Q : Exit → Act → World → Prop} {w w0 : World} {S : Nat → Prop} {L : List bo} {k : Nat} {N : FN} {env : Env} {a : Act}
theorem zB0(d:Nat)(t:TypeId)(ty:TypeId)(hF:Fr a N env){e size:Nat}(hM:Mem S w0 w L)(h:∀b w',w0.heap.size≤b→w.heap.size≤b→Mem S w0 w' (L++[.row e size (some (aZ b)) 0 0 []])→Mem bK w w' [.row e size (some (aZ b)) 0 0 []]→∀a',a'=a.put (some d) (vS (some (aZ b)) 0 0)→Fr a' N (dE env (some d) (vS (some (aZ b)) 0 0))→br P c K Q (k+1) a' w')(hk:ao c k=some (some d,.buildSlice t 0 #[],ty,none):=by kernel_rfl)(hd:iy (some d) N=true:=by kernel_rfl)(ht:P.underlying t=some (.slice e):=by kernel_rfl)(hi:(P.info? e).map (fun i=>i.size)=some size:=by kernel_rfl):br P c K Q k a w:=lA hk hF rfl hd rfl ht hi hM h
end
theorem Qgy(zs:aW)(n:Nat)(hz:0<zs.length):(Builtin.zeroCells zs.toArray n).toList=(List.replicate n zs).flatten:=by
 have:=mm zs n hz;exact this
section
variable {P : Program} {c : Code} {K : Act → World → Prop} {Q : Exit → Act → World → Prop} {a : Act} {w w0 : World} {S : Nat → Prop} {L : List bo} {k k' : Nat} {N : FN} {env : Env}
variable {d : Option Nat} {ty : Nat} {g : Option (Nat × Bool)}
theorem Qjm{t:TypeId}{x:Operand}(hk:ao c k=some (d,.call {callee:= .builtin .clear,args:=#[x],argTypes:=#[t]},ty,g))(hF:Fr a N env)(hg:bw c g env=some true)(hd:iy d N=true)(ja:k+1=k'){e size:Nat}{z:Value}{zs:aW}(ht:P.underlying t=some (.slice e))(hi:(P.info? e).map (fun i=>(i.size,i.zero))=some (size,some z))(hz:z.cells=zs.toArray)(hzl:zs.length=size)(h0:0<size)(h1:∀v∈zs,v.oneCell'=true){ad:Addr}{off m cap' n cap:Nat}{xs:aW}(hx:ev env x=some (vS (some (ad.add (off*size))) m cap'))(hM:Mem S w0 w L)(i:Nat)(hL:L[i]?=some (.row e size (some ad) n cap xs))(hm:off+m≤n)(h:∀w',Mem S w0 w' (L.set i (.row e size (some ad) n cap (xs.take (off*size)++(List.replicate m zs).flatten++xs.drop ((off+m)*size))))→True→∀a',a'=a.put d undef→Fr a' N (dE env d undef)→br P c K Q k' a' w'):br P c K Q k a w:=by
 subst ja;have j0:=hM.get i hL;have hlen:=tA j0;have Mh:((List.replicate m zs).flatten).length=m*size:=by simp[hzl]
 have hle:(off+m)*size≤n*size:=Qjj size hm;rw[Nat.add_mul]at hle;obtain⟨w',hr,QD⟩:=kV (P:=P) ((List.replicate m zs).flatten) (off*size) 0 (by intro v hv;obtain⟨l,hl,hv⟩:=List.mem_flatten.1 hv;rw[Jf hl]at hv;exact h1 v hv) j0 (by rw[Mh];omega)
 simp only[Nat.add_zero,Mh,←Nat.add_mul]at QD;refine gX hk hF hg (v:=undef) (w':=w') (fun o ho Zg=> ?_) (h w' (by simpa using hM.mod i hL QD) trivial _ rfl (hF.put hd _));unfold execOp;rw[ho];cases ln:P.info? e with
 |none=>simp[ln]at hi
 |some inf=>
  simp only[ln,s9,p5,eh]at hi;obtain⟨hs,z8⟩:=hi;have T8:(zeroValue e).run P w= .ok z w:=by simp[zeroValue,typeInfo,ln,z8]
  simp only[resolve,invoke,builtin,xf,Qjp,Qdu,Qdx,lR,Qi3,hF.ev hx,Builtin.clear_];simp only[show(#[t]:Array TypeId)[0]?=some t from rfl,show(#[Value.slice (some (ad.add (off*size))) m cap']:Array Value)[0]?=some (vS (some (ad.add (off*size))) m cap')from rfl,xf,vc ht,Qdu];cases m with
  |zero=>
   simp only[List.replicate_zero,List.flatten_nil,storeCells,Qjp,Result.ok.injEq,pQ]at hr;subst hr;simp[undef]
  |succ m=>
   simp only[xf,T8,Qdu,hz,Qgy zs _ oM,hr];rfl
end
theorem Dj{fn:Func}{t u:Tmp}{ty:TypeId}(h:fn.results=#[.cell t ty,.tmp u])(tmps:Array Value)(P:Program)(w:World){ad:Addr}{vs:aW}{v':Value}(hp:tmps[t]?=some (vP ad))(hq:tmps[u]?=some v')(ht:tf P ty=some vs.length)(hc:∀(j:Nat) (v:Value),vs[j]?=some v→w.cell? (ad.add j)=some v):(results fn tmps).run P w= .ok (.tuple #[.agg vs.toArray,v']) w:=by
 obtain⟨h1,h2⟩:=mg ht w;have ha:(asAddr (vP ad)).run P w= .ok ad w:=rfl;have hl:(loadVar ty ad).run P w= .ok (.agg vs.toArray) w:=by simp[loadVar,h1,h2,run_loadCells_list (P:=P) w ad vs hc]
 simp only[results,h];simp[xf,Result.andThen,vV,hp,hq,ha,hl]
def iL(fn:Func)(env:Env):Option (Addr×TypeId×Value):=match fn.results.toList with
 |[.cell t ty,.tmp u]=>match look env t,look env u with
  |some (.pointer (some ad)),some v=>some (ad,ty,v)
  |_,_=>none
 |_=>none
theorem UI{P:Program}{fn:Func}{Φ:Value→World→Prop}{N:FN}{env:Env}{w:World}(ad:Addr)(ty:TypeId)(vs:aW)(v':Value)(hc:∀(j:Nat) (v:Value),vs[j]?=some v→w.cell? (ad.add j)=some v)(h:Φ (.tuple #[.agg vs.toArray,v']) w)(ht:tf P ty=some vs.length:=by kernel_rfl)(hk:iL fn env=some (ad,ty,v'):=by kernel_rfl)(hD:N.D=[]:=by rfl):∀a,Fr a N env→bodyPost P fn (fE Φ) .ret a w:=fun a hF=>by
 unfold iL at hk;split at hk
 ·rename_i t ty0 u hr;split at hk
  ·rename_i LP v0 h1 h2;simp only[p5,eh]at hk;obtain⟨rfl,rfl,rfl⟩:=hk;refine bodyPost_ret (v:= .tuple #[.agg vs.toArray,v0]) ?_ (hF.defers.trans hD) ⟨_,rfl,h⟩;refine Dj (by apply qC;simpa using hr) _ _ _ ?_ ?_ ht hc
   ·exact hF.slot _ _ h1
   ·exact hF.slot _ _ h2
  ·cases hk
 ·cases hk
end Go.Mor
namespace Go.Mor
open Go.RowKit
theorem Pd:∀(vs xs:aW) (u:Value) (j:Nat),setAt (u::xs) (j+1) vs=u::setAt xs j vs
 |[],_,_,_=>rfl
 |v::vs,xs,u,j=>by show setAt (u::xs.set j v) (j+1+1) vs=u::setAt (xs.set j v) (j+1) vs;exact Pd vs (xs.set j v) u (j+1)
theorem Y7:∀(vs xs ys:aW),vs.length=xs.length→setAt (xs++ys) 0 vs=vs++ys
 |[],xs,ys,h=>by obtain rfl:xs=[]:=ze h.symm;rfl
 |v::vs,[],ys,h=>by simp at h
 |v::vs,x::xs,ys,h=>by show setAt (v::(xs++ys)) 1 vs=v::(vs++ys);rw[←Y7 vs xs ys (by simpa using h)];exact Pd vs (xs++ys) v 0
theorem QbI:∀(us xs vs:aW) (j:Nat),setAt (us++xs) (us.length+j) vs=us++setAt xs j vs
 |[],xs,vs,j=>sI
 |u::us,xs,vs,j=>by rw[show(u::us).length+j=(us.length+j)+1 by simp;omega,ph,Pd,QbI us xs vs j,ph]
theorem Pe{α:Type}{f:α→aW}{k:Nat}(hf:∀x,(f x).length=k)(y:α):∀(l:List α) (m:Nat),m<l.length→setAt (l.flatMap f) (m*k) (f y)=(l.set m y).flatMap f
 |[],m,h=>by simp at h
 |x::l,0,_=>by rw[iC,Nat.zero_mul,Y7 _ _ _ (by rw[hf,hf])];rfl
 |x::l,m+1,h=>by rw[iC,show(m+1)*k=(f x).length+m*k by rw[hf,Qcl];omega,QbI,Pe hf y l m (by simpa using h)];rfl
theorem hX{α:Type}{f:α→aW}{k:Nat}(hf:∀x,(f x).length=k)(l:List α):(l.flatMap f).length=l.length*k:=by
 induction l with
 |nil=>simp
 |cons x l ih=>rw[iC,rV,hf,ih,je,Qcl];omega
theorem zb{α:Type}{f:α→aW}{k:Nat}(hf:∀x,(f x).length=k):∀(l:List α) (i:Nat) (x:α),l[i]?=some x→∀(j:Nat) (v:Value),(f x)[j]?=some v→(l.flatMap f)[i*k+j]?=some v
 |[],i,x,h,_,_,_=>by simp at h
 |y::l,0,x,h,j,v,hv=>by simp at h;subst h;rw[iC,Nat.zero_mul,Qgu,List.getElem?_append_left (List.getElem?_eq_some_iff.1 hv).1];exact hv
 |y::l,i+1,x,h,j,v,hv=>by simp at h;rw[iC,List.getElem?_append_right (by rw[hf,Qcl];omega),hf,show(i+1)*k+j-k=i*k+j by rw[Qcl];omega];exact zb hf l i x h j v hv
end Go.Mor
namespace Go.Mor
open Go.RowKit
def di(p:bI):bo:= .row 3 1 p.A p.args.length p.c (ints p.args)
def de(p:aO):bo:= .row 3 1 p.A p.args.length p.c (ints p.args)
def qD(l:List bI):aW:=l.flatMap bI.cells
def zL(l:List aO):aW:=l.flatMap aO.cells
def ko(l:List ay):aW:=l.flatMap xV
def qE(A:aX)(c:Nat)(l:List bI):bo:= .row 79 2 A l.length c (qD l)
def dJ(A:aX)(c:Nat)(l:List aO):bo:= .row 39 5 A l.length c (zL l)
def nK(A:aX)(c:Nat)(l:List ay):bo:= .row 36 6 A l.length c (ko l)
abbrev F9(x:ay):List bo:=[qE x.pA x.pc x.ah,dJ x.iA x.ic x.insts,.pk (x.ah.map di),.pk (x.insts.map de)]
def bT(x:ay):bo:= .pk (F9 x)
abbrev Ns(A:aX)(c:Nat)(fs:List ay):List bo:=[nK A c fs,.pk (fs.map bT)]
theorem Bp(l:List bI)(x:bI):qD (l++[x])=qD l++x.cells:=by simp[qD]
theorem Jc(l:List aO)(x:aO):zL (l++[x])=zL l++x.cells:=by simp[zL]
theorem Br(l:List ay)(x:ay):ko (l++[x])=ko l++xV x:=by simp[ko]
theorem l9(p:bI):p.cells.length=2:=rfl
theorem gI(p:aO):p.cells.length=5:=rfl
theorem sw(x:ay):(xV x).length=6:=rfl
theorem jt{α:Type}{f:α→aW}{k:Nat}(hf:∀x,(f x).length=k){w:World}{A:aX}{l:List α}(hk:0<k)(h:(bo.rd A (l.flatMap f)).holds w):(bo.Hi A k (l.map f)).holds w:=by
 intro i cs hi;rw[List.getElem?_map,Jo]at hi;obtain⟨x,hx,rfl⟩:=hi;have h0:∃v,(f x)[0]?=some v:=⟨_,List.getElem?_eq_getElem (by rw[hf];exact hk)⟩;obtain⟨v0,xI⟩:=h0;obtain⟨ad,hA,_⟩:=h _ v0 (zb hf l i x hx 0 v0 xI);refine⟨ad,hA,fun j v hj=> ?_⟩;obtain⟨ad',Yh,hc⟩:=h _ v (zb hf l i x hx j v hj);rw[hA]at Yh;injection Yh with Yh;subst Yh;rw[mn];exact hc
theorem jQ{w:World}{A:aX}{c:Nat}{fs:List ay}(h1:(nK A c fs).holds w)(h2:(bo.pk (fs.map bT)).holds w):(bo.fn A fs).holds w:=by
 intro r hr;rcases Qcx.1 hr with rfl|hr
 ·have:=jt (f:=xV) sw oM (aB h1);unfold bo.blocks;rw[show(af fs).map SB.cells=fs.map xV by unfold af;rw[Qcn];rfl];exact this
 ·obtain⟨x,hx,hr⟩:=pZ.1 hr;have hb:(bT x).holds w:=oE h2 (jd.2 ⟨x,hx,rfl⟩);have b1:(qE x.pA x.pc x.ah).holds w:=oE hb sI;have b2:(dJ x.iA x.ic x.insts).holds w:=oE hb sI;have b3:(bo.pk (x.ah.map di)).holds w:=oE hb sI;have b4:(bo.pk (x.insts.map de)).holds w:=oE hb sI;unfold ay.parts at hr;rcases Qcx.1 hr with rfl|hr
  ·exact jt l9 oM (aB b1)
  rcases Qcx.1 hr with rfl|hr
  ·exact jt gI oM (aB b2)
  rcases QiU.1 hr with hr|hr
  ·obtain⟨p,hp,rfl⟩:=jd.1 hr;exact aB (oE b3 (jd.2 ⟨p,hp,rfl⟩))
  ·obtain⟨p,hp,rfl⟩:=jd.1 hr;exact aB (oE b4 (jd.2 ⟨p,hp,rfl⟩))
theorem Nt{fs:List ay}{gd:List ay}{k:Nat}{x y:ay}(h:gd.map ay.e0=(fs.take k).map ay.e0)(hx:fs[k]?=some x)(hy:y.e0=x.e0):(gd++[y]).map ay.e0=(fs.take (k+1)).map ay.e0:=by
 obtain⟨hk,he⟩:=List.getElem?_eq_some_iff.1 hx;rw[Qjy,h,QjK hk,Qjy,he];simp[hy]
theorem Nu{l:List bI}{d:List bI}{k:Nat}{x y:bI}(h:d.map bI.e0=(l.take k).map bI.e0)(hx:l[k]?=some x)(hy:y.e0=x.e0):(d++[y]).map bI.e0=(l.take (k+1)).map bI.e0:=by
 obtain⟨hk,he⟩:=List.getElem?_eq_some_iff.1 hx;rw[Qjy,h,QjK hk,Qjy,he];simp[hy]
theorem Nv{l:List aO}{d:List aO}{k:Nat}{x y:aO}(h:d.map aO.e0=(l.take k).map aO.e0)(hx:l[k]?=some x)(hy:y.e0=x.e0):(d++[y]).map aO.e0=(l.take (k+1)).map aO.e0:=by
 obtain⟨hk,he⟩:=List.getElem?_eq_some_iff.1 hx;rw[Qjy,h,QjK hk,Qjy,he];simp[hy]
theorem Bs{α β γ:Type}{f:α→γ}{g:β→γ}{l:List α}{m:List β}(h:l.map f=m.map g):l.length=m.length:=by simpa using Qi9 List.length h
theorem eM{α β:Type}{f:α→β}{l m:List α}(h:l.map f=m.map f):l.length=m.length:=by simpa using Qi9 List.length h
structure Re(fs:List ay):Prop where
 lp:∀x,x∈fs→x.ah.length≤20000
 li:∀x,x∈fs→x.insts.length≤20000
 ap:∀x,x∈fs→∀p,p∈x.ah→p.args.length≤20000
 ai:∀x,x∈fs→∀p,p∈x.insts→p.args.length≤20000
structure cI where
 dst:Int
 fA:aX
 fc:Nat
 from_:ar
 aA:aX
 ac:Nat
 args:ar
def cI.cells(p:cI):aW:=[vI p.dst,.slice p.fA p.from_.length p.fc,.slice p.aA p.args.length p.ac]
abbrev gpV(p:cI):aW:=[vI p.dst,.slice p.fA p.from_.length p.fc,.slice p.aA p.args.length p.ac]
structure bz where
 g:Nat
 pA:aX
 pc:Nat
 ah:List cI
 iA:aX
 ic:Nat
 insts:List aO
 e:Int
 v:Int
 a:Int
 b:Int
 gone:Bool
abbrev gV(x:bz):aW:=[.slice x.pA x.ah.length x.pc,.slice x.iA x.insts.length x.ic,vI x.e,vI x.v,vI x.a,vI x.b,.bool x.gone]
def fz(p:cI):bo:= .row 3 1 p.fA p.from_.length p.fc (ints p.from_)
def fj(p:cI):bo:= .row 3 1 p.aA p.args.length p.ac (ints p.args)
def zc(l:List cI):aW:=l.flatMap cI.cells
def s3(A:aX)(c:Nat)(l:List cI):bo:= .row 67 3 A l.length c (zc l)
abbrev gL(x:bz):List bo:=[.au x.g 65 (gV x),s3 x.pA x.pc x.ah,dJ x.iA x.ic x.insts,.pk (x.ah.map fz),.pk (x.ah.map fj),.pk (x.insts.map de)]
def gB(x:bz):bo:= .pk (gL x)
theorem Jd(l:List cI)(x:cI):zc (l++[x])=zc l++x.cells:=by simp[zc]
def jA(gs:List bz):aW:=gs.map (fun x=> .pointer (some (aZ x.g)))
def jh(A:aX)(c:Nat)(gs:List bz):bo:= .row 62 1 A gs.length c (jA gs)
abbrev gF(q:Nat)(nm:cV)(wk:Bool)(pa va:Int)(bA:aX)(bn bc:Nat)(A:aX)(c:Nat)(gs:List bz):List bo:=[.au q 61 (Qp2 nm wk pa va bA bn bc A gs.length c),jh A c gs,.pk (gs.map gB)]
end Go.Mor
namespace Go.Mor
open Go.RowKit
structure vb where
 dst:Int
 from_:ar
 args:ar
structure gO where
 ah:List vb
 insts:List aO
 e:Int
 v:Int
 a:Int
 b:Int
 gone:Bool
def cI.k(p:cI):vb:=⟨p.dst,p.from_,p.args⟩
def bz.k(x:bz):gO:=⟨x.ah.map cI.k,x.insts.map aO.e0,x.e,x.v,x.a,x.b,x.gone⟩
def oG(s:ar)(p:bI):vb:=⟨p.dst,s,p.args⟩
def Bx(fs:List ay)(k:Nat)(x:ay):gO:=⟨x.ah.map (oG (bS (af fs) (k:Int))),x.insts.map aO.e0,x.e,x.v,x.a,x.b,false⟩
def lN(fs:List ay):List gO:=fs.zipIdx.map (fun p=>Bx fs p.2 p.1)
section
variable {fs gs : List ay} {k : Nat} {x : ay}
theorem mA(h:fs[k]?=some x):(lN fs)[k]?=some (Bx fs k x):=by
 unfold lN;rw[List.getElem?_map,List.getElem?_zipIdx,h];simp
theorem jR(fs:List ay):(lN fs).length=fs.length:=by simp[lN]
theorem Dk{l:List bz}{y:bz}(hl:l.map bz.k=(lN fs).take k)(hx:fs[k]?=some x)(hy:y.k=Bx fs k x):(l++[y]).map bz.k=(lN fs).take (k+1):=by
 obtain⟨h1,h2⟩:=List.getElem?_eq_some_iff.1 (mA hx);rw[Qjy,hl,QjK h1,h2,←hy];rfl
theorem Dl{s:ar}{l:List bI}{d:List cI}{j:Nat}{p:bI}{y:cI}(hl:d.map cI.k=(l.take j).map (oG s))(hp:l[j]?=some p)(hy:y.k=oG s p):(d++[y]).map cI.k=(l.take (j+1)).map (oG s):=by
 obtain⟨h1,h2⟩:=List.getElem?_eq_some_iff.1 hp;rw[Qjy,hl,QjK h1,Qjy,h2];simp[hy]
theorem BA(h:ec gs fs):lN gs=lN fs:=by
 have hs:=mw (Ey h);refine QdX fun k=> ?_
 cases hx:fs[k]? with
 |none=>
  have:gs[k]?=none:=by rw[List.getElem?_eq_none_iff]at hx⊢;rw[h.len];exact hx
  rw[List.getElem?_eq_none_iff]at hx this;rw[List.getElem?_eq_none (by rw[jR];exact this),List.getElem?_eq_none (by rw[jR];exact hx)]
 |some x=>
  obtain⟨y,hy,e⟩:=oB h.symm hx;rw[mA hx,mA hy];unfold Bx;rw[hs,I3 e,F0 e,UA e,UB e];have e1:=rD e;have e2:∀s,y.ah.map (oG s)=x.ah.map (oG s):=by intro s;have:oG s=oG s∘bI.e0:=rfl;rw[this,←Qcn,←Qcn,rC e]
  rw[e1,e2]
theorem Re.alike(h:ec gs fs)(hs:Re fs):Re gs:=by
 have key:∀x,x∈gs→∃y,y∈fs∧x.e0=y.e0:=by intro x hx;obtain⟨k,hk⟩:=jF.1 hx;obtain⟨y,hy,e⟩:=oB h hk;exact⟨y,Qcs hy,e⟩
 refine⟨fun x hx=> ?_,fun x hx=> ?_,fun x hx p hp=> ?_,fun x hx p hp=> ?_⟩
 ·obtain⟨y,hy,e⟩:=key x hx;rw[eM (rC e)];exact hs.lp y hy
 ·obtain⟨y,hy,e⟩:=key x hx;rw[eM (rD e)];exact hs.li y hy
 ·obtain⟨y,hy,e⟩:=key x hx;obtain⟨j,hj⟩:=jF.1 hp;obtain⟨q,hq,_,e2⟩:=Df e hj;rw[e2];exact hs.ap y hy q (Qcs hq)
 ·obtain⟨y,hy,e⟩:=key x hx;obtain⟨j,hj⟩:=jF.1 hp;obtain⟨q,hq,_,_,_,_,e2⟩:=rE e hj;rw[e2];exact hs.ai y hy q (Qcs hq)
end
section
variable {w : World} {A : Option Addr} {c : Nat} {ad : Addr} {k : Nat}
theorem tV{fs:List ay}{x:ay}(h:(nK A c fs).holds w)(hA:A=some ad)(hx:fs[k]?=some x):∀j v,(xV x)[j]?=some v→w.cell? ((ad.add (k*6)).add j)=some v:=e8 (cs:=xV x) (jt (f:=xV) sw oM (aB h)) hA (by rw[List.getElem?_map,hx];rfl)
theorem Nw{l:List bI}{p:bI}(h:(qE A c l).holds w)(hA:A=some ad)(hp:l[k]?=some p):∀j v,(pV p)[j]?=some v→w.cell? ((ad.add (k*2)).add j)=some v:=e8 (cs:=p.cells) (jt (f:=bI.cells) l9 oM (aB h)) hA (by rw[List.getElem?_map,hp];rfl)
theorem zd{l:List aO}{p:aO}(h:(dJ A c l).holds w)(hA:A=some ad)(hp:l[k]?=some p):∀j v,(iV p)[j]?=some v→w.cell? ((ad.add (k*5)).add j)=some v:=e8 (cs:=p.cells) (jt (f:=aO.cells) gI oM (aB h)) hA (by rw[List.getElem?_map,hp];rfl)
theorem xM(p:cI):p.cells.length=3:=rfl
theorem Je{l:List cI}{p:cI}(h:(s3 A c l).holds w)(hA:A=some ad)(hp:l[k]?=some p):∀j v,(gpV p)[j]?=some v→w.cell? ((ad.add (k*3)).add j)=some v:=e8 (cs:=p.cells) (jt (f:=cI.cells) xM oM (aB h)) hA (by rw[List.getElem?_map,hp];rfl)
theorem Rf{fs:List ay}(h:(nK A c fs).holds w):(bo.blocks A (af fs)).holds w:=by
 have:=jt (f:=xV) sw oM (aB h);unfold bo.blocks;rw[show(af fs).map SB.cells=fs.map xV by unfold af;rw[Qcn];rfl];exact this
theorem kq{e size n:Nat}{xs:aW}(h:(bo.row e size A n c xs).holds w)(hn:0<xs.length):∃ad,A=some ad:=rd_some (aB h) hn
end
end Go.Mor
namespace Go.Mor
open Go.RowKit
section
variable {α : Type} {p : α → Bool} {l : List α} {j : Nat} {x : α}
def QfW(p:α→Bool)(l:List α):Int:=match l.findIdx? p with
 |some i=>(i:Int)
 |none=> -1
def QhB(p:α→Bool)(l:List α)(j:Nat):List α:=(l.take j).filter (fun x=> !p x)
theorem QkU(hx:l[j]?=some x)(hc:p x=false):QhB p l (j+1)=QhB p l j++[x]:=by
 obtain⟨hj,he⟩:=List.getElem?_eq_some_iff.1 hx;unfold QhB;rw[QjK hj,xH,he];simp[hc]
theorem Qlq(hx:l[j]?=some x)(hc:p x=true):QhB p l (j+1)=QhB p l j:=by
 obtain⟨hj,he⟩:=List.getElem?_eq_some_iff.1 hx;unfold QhB;rw[QjK hj,xH,he];simp[hc]
theorem QkV(hn:(l.take j).any p=false)(hx:l[j]?=some x)(hc:p x=false):(l.take (j+1)).any p=false:=by
 obtain⟨hj,he⟩:=List.getElem?_eq_some_iff.1 hx;rw[QjK hj,QjB,hn,he];simp[hc]
theorem QkW(hn:(l.take j).any p=false)(hx:l[j]?=some x)(hc:p x=true):QfW p l=(j:Int):=by
 obtain⟨hj,he⟩:=List.getElem?_eq_some_iff.1 hx;have:l.findIdx? p=some j:=by rw[List.findIdx?_eq_some_iff_getElem];refine⟨hj,by rw[he];exact hc,fun i hi=> ?_⟩;rw[vA]at hn;exact hn _ (Qdt.2 ⟨i,oM,rfl⟩)
 unfold QfW;rw[this]
theorem Qkf(hn:(l.take j).any p=false)(hj:l.length≤j):QfW p l= -1:=by
 have:l.findIdx? p=none:=by rw[List.findIdx?_eq_none_iff];intro x hx;rw[uK hj,vA]at hn;have:=hn x hx;simpa using this
 unfold QfW;rw[this]
def QgA(l m k:List α)(j:Nat):Prop:=m.length=l.length∧m.take k.length=k∧m.drop j=l.drop j∧k.length<j
variable {m k : List α}
theorem QkX(h:QgA l m k j):m[j]?=l[j]?:=by
 obtain⟨h1,_,h3,_⟩:=h;have e:∀x:List α,x[j]?=(x.drop j)[0]?:=fun x=>sI
 rw[e m,e l,h3]
theorem Qlr(h:QgA l m k j):QgA l m k (j+1):=by
 obtain⟨h1,h2,h3,h4⟩:=h;refine⟨h1,h2,?_,oM⟩;rw[←xC,←xC,h3]
theorem QkY(h:QgA l m k j)(hj:j<l.length)(v:α):QgA l (m.set k.length v) (k++[v]) (j+1):=by
 obtain⟨h1,h2,h3,h4⟩:=h;refine⟨by simpa using h1,?_,?_,by simp;omega⟩
 ·rw[rV,Qcz,QjK (by simp;omega)];rw[Qjh (Qjn _),h2];simp
 ·rw[ej,dd oM,←xC,←xC,h3]
theorem QjF{i:Nat}(hi:i<l.length):QgA l l (l.take i) (i+1):=by
 refine⟨rfl,sI,rfl,by simp;omega⟩
theorem QhC{f:α→aW}{q:Nat}(hf:∀x,(f x).length=q):∀(l:List α) (n:Nat),(l.flatMap f).take (n*q)=(l.take n).flatMap f
 |[],n=>sI
 |x::l,0=>sI
 |x::l,n+1=>by rw[iC,List.take_succ_cons,iC,←QhC hf l n,Qcl,Nat.add_comm,←hf x,List.take_length_add_append]
theorem Qls{f:α→aW}{q:Nat}(hf:∀x,(f x).length=q)(h2:m.take k.length=k)(z y:aW):((m.flatMap f).take (k.length*q)++z++y).take (k.length*q)=k.flatMap f:=by
 have hl:k.length≤m.length:=by have:=Qi9 List.length h2;simp at this;omega
 rw[QhC hf,h2,xD];have:k.length*q=(k.flatMap f).length:=(hX hf k).symm;rw[this,List.take_left]
end
end Go.Mor
namespace Go.Mor
open Go.RowKit
def vd(rl:List Bool):Nat:=rl.countP (fun b=>b)
end Go.Mor
