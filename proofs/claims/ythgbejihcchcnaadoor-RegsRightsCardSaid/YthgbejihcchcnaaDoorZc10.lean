/-
  Texts of the proof, part 10.
-/
import Derived.Test.YthgbejihcchcnaaDoorZc9
import Derived.Recover
set_option maxRecDepth 10000
namespace Go.Mor
open Go.RowKit
end Go.Mor
namespace Go.Mor
open Go.RowKit
def Spec.ptr(xs:bp):Spec:= .any (fun v w=>∃ad,v= .pointer (some ad)∧(aL.rd (some ad) xs).holds w) (fun _ _ _ hK ⟨ad,hv,h⟩=>⟨ad,hv,(aL.rd (some ad) xs).fL (fun g hg=>hK.kept g ((aL.rd (some ad) xs).lt h hg) (fun h=>h)) h⟩)
def Qag(P:Program)(c:Code)(N:FN)(env:Env)(k:Nat):Option (Option Nat×Nat×Value):=match ao c k with
 |some (d,.sliceToArrayPointer t x,_,g)=>match bu c g env,gL d N,ev env x,P.underlying t with
  |some true,true,some v,some (.array m _)=>some (d,m,v)
  |_,_,_,_=>none
 |_=>none
def lvE(P:Program)(c:Code)(N:FN)(env:Env)(k:Nat):Option (Option Nat×Value×Option Nat):=match ao c k with
 |some (d,.load t x,_,g)=>match bu c g env,gL d N,ev env x with
  |some true,true,some v=>some (d,v,vy P t)
  |_,_,_=>none
 |_=>none
def bnE(c:Code)(N:FN)(env:Env)(k:Nat):Option (Option Nat×BinOp×TypeId×Value×Value):=match ao c k with
 |some (d,.binOp op t x y _,_,g)=>match bu c g env,gL d N,ev env x,ev env y with
  |some true,true,some u,some v=>some (d,op,t,u,v)
  |_,_,_,_=>none
 |_=>none
theorem Mi{w:World}{b t:Nat}{cs:bp}(h:(aL.ak b t cs).holds w):(aL.rd (some (aZ b)) cs).holds w:=by
 intro j v hj;refine⟨_,rfl,?_⟩;have e:(aZ b).add j=(aq b j):=by unfold Addr.add;split<;>simp_all
 rw[e];exact aa h hj
section
variable {P : Program} {c : Code} {Q : Exit → Act → World → Prop} {N : FN} {i : Nat} {env0 : Env} {wr : World} {sp : Nat → Spec}
theorem dA2(j n:Nat)(xs:bp)(hx:xs≠[]){m:Nat}(hmn:m≤n)(hj:o4 (dj c i) j=true:=by kernel_rfl)(hs:sp j=Spec.sl n xs:=by rfl)(oA:sp i=Spec.ptr xs:=by rfl)(hg:∀vs,kB c i (bR c i sp vs env0)=some true:=by intro _;kernel_rfl)(hk:∀vs,Qag P (one c i) N (bR c i sp vs env0) 0=some (bg c i,m,vs j):=by intro _;kernel_rfl)(he:ao (one c i) 1=none:=by kernel_rfl):jt P c Q N env0 wr sp i:=by
 refine nt hg (fun w vs hK hp a hF=> ?_);have h0:=hp j (gY.1 hj);rw[hs]at h0;obtain⟨A,cc,hv,hr⟩:=h0;have hA:∃ad,A=some ad:=by
  cases xs with
  |nil=>exact absurd rfl hx
  |cons x r=>obtain⟨ad,h1,_⟩:=hr 0 x rfl;exact⟨ad,h1⟩
 obtain⟨ad,rfl⟩:=hA;have h1:=hk vs;unfold Qag at h1;split at h1
 ·rename_i g0;split at h1
  ·rename_i v0 m0 e0 g1 g2 g3 g4;simp only[dT,dw]at h1;obtain⟨rfl,rfl,rfl⟩:=h1;refine dR g0 hF g1 g2 rfl (fun o ho=> ?_) (fun a' ea _=>aF he ⟨_,ea,Kp.refl w,?_⟩) (v:= .pointer (some ad))
   ·unfold execOp;rw[ho];have Iw:=run_arrayAt (P:=P) w _ e0 m0 (some ad) n cc g4 hmn;simp only[hF.ev g3,hv,db,Iw,dk];rfl
   ·rw[oA];exact⟨ad,rfl,hr⟩
  ·cases h1
 ·cases h1
theorem dLA(j:Nat)(xs:bp)(hj:o4 (dj c i) j=true:=by kernel_rfl)(hs:sp j=Spec.ptr xs:=by rfl)(oA:sp i= .aQ (.agg xs.toArray):=by rfl)(hg:∀vs,kB c i (bR c i sp vs env0)=some true:=by intro _;kernel_rfl)(hk:∀vs,lvE P (one c i) N (bR c i sp vs env0) 0=some (bg c i,vs j,some xs.length):=by intro _;kernel_rfl)(he:ao (one c i) 1=none:=by kernel_rfl):jt P c Q N env0 wr sp i:=by
 refine nt hg (fun w vs hK hp a hF=> ?_);have h0:=hp j (gY.1 hj);rw[hs]at h0;obtain⟨ad,hv,hr⟩:=h0;have h1:=hk vs;unfold lvE at h1;split at h1
 ·rename_i g0;split at h1
  ·rename_i v0 g1 g2 g3;simp only[dT,dw]at h1;obtain⟨rfl,rfl,h4⟩:=h1;refine eZ g0 hF g1 g2 rfl (by rw[g3,hv]) h4 (fun q v hq=> ?_) (fun a' ea _=>aF he ⟨_,ea,Kp.refl w,by rw[oA];rfl⟩);obtain⟨a0,ha,hc⟩:=hr q v hq;injection ha with ha;subst ha;exact hc
  ·cases h1
 ·cases h1
theorem dEA{t:TypeId}{xs ys:Array Value}{b B:Bool}(hr:∀w,(binOp .eql t (.agg xs) (.agg ys)).run P w= .ok (vB b) w)(hb:B=b)(hu:P.eqGuardType P.depth t=false:=by kernel_rfl)(oA:sp i= .aQ (vB B):=by rfl)(hg:∀vs,kB c i (bR c i sp vs env0)=some true:=by intro _;kernel_rfl)(hk:∀vs,bnE (one c i) N (bR c i sp vs env0) 0=some (bg c i,.eql,t,.agg xs,.agg ys):=by intro _;kernel_rfl)(he:ao (one c i) 1=none:=by kernel_rfl):jt P c Q N env0 wr sp i:=by
 refine nt hg (fun w vs hK hp a hF=> ?_);have h1:=hk vs;unfold bnE at h1;split at h1
 ·rename_i g0;split at h1
  ·rename_i g1 g2 g3 g4;simp only[dT,dw]at h1;obtain⟨rfl,rfl,e3,e4,e5⟩:=h1;refine dR g0 hF g1 g2 rfl (fun o ho=> ?_) (fun a' ea _=>aF he ⟨_,ea,Kp.refl w,?_⟩) (v:=vB b)
   ·unfold execOp;rw[ho,e3];have hq:∀x y,(eqGuard .eql t x y (.agg xs) (.agg ys)).run P w= .ok () w:=by intro x y;simp[eqGuard,run_program,hu]
    simp only[hF.ev g3,hF.ev g4,e4,e5,db,hq,hr,dk];rfl
   ·rw[oA,hb];rfl
  ·cases h1
 ·cases h1
end
end Go.Mor
namespace Go.Mor
open Go.RowKit
end Go.Mor
namespace Go.Mor
open Go.RowKit
def Qah(l:List aL):Prop:=l.Pairwise (fun r s=>∀g,r.fp g→¬s.fp g)
def aL.pk(l:List aL):aL where
 fp k:=∃r,r∈l∧r.fp k
 holds w:=(∀r,r∈l→r.holds w)∧Qah l
 fL:=fun h hw=>⟨fun r hr=>r.fL (fun g hg=>h g ⟨r,hr,hg⟩) (hw.1 r hr),hw.2⟩
 lt:=fun⟨h1,_⟩ ⟨r,hr,hg⟩=>r.lt (h1 r hr) hg
section
variable {S : Nat → Prop} {w0 w w' : World} {l l' L : List aL} {r : aL}
theorem Mem.ye(h:(aL.pk l).holds w):Mem (aL.pk l).fp w w l:=⟨rfl,rfl,rfl,cH _,fun _ _ _=>rfl,fun r hr=>⟨h.1 r hr,fun _ hg=> .inl ⟨r,hr,hg⟩⟩,h.2⟩
theorem Mem.et(h:Mem S w0 w (l++L)):(aL.pk l).holds w:=⟨fun r hr=>(h.own r (ej _ hr)).1,(oU.1 h.apart).1⟩
theorem Mem.pack(h:Mem S w0 w (l++L)):Mem S w0 w (.pk l::L):=by
 obtain⟨h1,h2,h3⟩:=oU.1 h.apart;refine⟨h.os,h.tape,h.output,h.size,h.kept,fun r hr=> ?_,gb.2 ⟨?_,h2⟩⟩
 ·rcases cW.1 hr with rfl|hr
  ·exact⟨h.et,fun g ⟨q,hq,hg⟩=>(h.own q (ej _ hq)).2 g hg⟩
  ·exact h.own r (mX _ hr)
 ·rintro r hr g ⟨q,hq,hg⟩;exact h3 q hq r hr g hg
theorem Mem.unpack(h:Mem S w0 w (.pk l::L)):Mem S w0 w (l++L):=by
 obtain⟨h1,h2⟩:=gb.1 h.apart;obtain⟨⟨h3,h4⟩,h5⟩:=h.own _ (dV ..);refine⟨h.os,h.tape,h.output,h.size,h.kept,fun r hr=> ?_,oU.2 ⟨h4,h2,fun q hq r hr g hg=>h1 r hr g ⟨q,hq,hg⟩⟩⟩;rcases bN.1 hr with hr|hr
 ·exact⟨h3 r hr,fun g hg=>h5 g ⟨r,hr,hg⟩⟩
 ·exact h.own r (cf _ hr)
theorem Mem.Bx(h:Mem S w0 w (l++L))(h':Mem (aL.pk l).fp w w' l'):Mem S w0 w' (l'++L):=by
 have h1:Mem (aL.pk l).fp w w' (l'++[]):=by rw[iM];exact h'
 have h2:=h.pack.mod 0 rfl h1.pack;exact Mem.unpack (by simpa using h2)
theorem RO.fC(hA:RO S w0 r)(h:Mem S w0 w (l++L)):RO (aL.pk l).fp w r:=by
 refine⟨h.ro hA,fun g hg ⟨q,hq,hgq⟩=> ?_⟩;have h1:=r.lt hA.1 hg;rcases(h.own q (ej _ hq)).2 g hgq with h2|h2
 ·exact hA.2 g hg h2
 ·omega
theorem RO.gh(h:Mem S w0 w (l++L))(i:Nat)(hi:L[i]?=some r):RO (aL.pk l).fp w r:=by
 have hm:=bh hi;refine⟨(h.own r (mX _ hm)).1,fun g hg ⟨q,hq,hgq⟩=> ?_⟩;exact(oU.1 h.apart).2.2 q hq r hm g hgq hg
end
end Go.Mor
namespace Go.Mor
open Go.RowKit
def pE(c:Code)(m:Nat):Bool:=(List.range (opsOf c).size).all fun i=>Nat.blt i m||(List.range i).all (fun j=>reach c (opsOf c).size i j)
theorem Du{c:Code}(gl:fO c=true):∀{n j i:Nat},j<(opsOf c).size→reach c n j i=true→i<j
 |0,j,i,_,h=>by simp[reach]at h
 |n+1,j,i,hj,h=>by
  have hp:∀k,k∈dj c j→k<j:=by intro k hk;simp only[fO,iK,cJ]at gl;have:=gl j hj k hk;simpa[mA]using this
  simp only[reach,cG,vL]at h;rcases h with h|⟨k,hk,h⟩
  ·exact hp i (gY.1 h)
  ·have h1:=hp k hk;have:=Du gl oM h;omega
theorem jE{c:Code}(gl:fO c=true){listed:Array Bool}(jo:listed.size=(opsOf c).size)(hr:Region.ready .any (opsOf c) listed=[]):∀j,j<(opsOf c).size→listed.getD j false=true:=by
 intro j;induction j using Nat.strongRecOn with
 |_ j ih=>
  intro hj;cases hq:listed.getD j false with
  |true=>rfl
  |false=>
   exfalso;have:j∈Region.ready .any (opsOf c) listed:=by
    simp only[Region.ready,ed,cJ,aY,mU];have Eg:j<listed.size:=oM;refine⟨hj,?_,?_⟩
    ·simp[Array.getD,Eg]at hq⊢;exact hq
    ·have ho:(opsOf c)[j]?=some (opsOf c)[j]:=by simp[hj]
     simp only[ho,jX,iL];rw[z5];intro e he;cases hb:Region.binds .any e with
     |false=>rfl
     |true=>
      have nq:e.on∈dj c j:=by simp only[dj,ho,bJ,ed];exact⟨e,⟨z7.2 he,hb⟩,rfl⟩
      have fo:e.on<j:=by simp only[fO,iK,cJ]at gl;have:=gl j hj e.on nq;simpa[mA]using this
      simp[ih e.on fo oM]
   rw[hr]at this;simp at this
theorem mN{c:Code}{listed:Array Bool}{i:Nat}(hr:i∈Region.ready .any (opsOf c) listed):∀j,j∈dj c i→listed.getD j false=true:=by
 obtain⟨_,_,o,ho,Ey⟩:=fB hr;intro j hj;simp only[dj,ho,bJ,ed]at hj;obtain⟨e,⟨he,hb⟩,rfl⟩:=hj;exact Ey e he hb
theorem qg{c:Code}{listed:Array Bool}(jo:listed.size=(opsOf c).size){i:Nat}(hr:i∈Region.ready .any (opsOf c) listed):listed.getD i false=false:=by
 obtain⟨fo,QB,_⟩:=fB hr;have:i<listed.size:=oM;simp[Array.getD,this]at QB⊢;exact QB
def wP(c:Code)(m:Nat):Env→Env
 |[]=>[]
 |(t,v)::r=>match o4 ((List.range m).filterMap (bg c)) t with
  |true=>wP c m r
  |false=>(t,v)::wP c m r
theorem oj{c:Code}{m:Nat}:∀{env:Env} {t:Nat} {v:Value},look (wP c m env) t=some v→(t,v)∈env∧∀j,j<m→bg c j≠some t
 |[],t,v,h=>by simp[wP,look]at h
 |(k,u)::r,t,v,h=>by
  unfold wP at h;cases hm:o4 ((List.range m).filterMap (bg c)) k with
  |true=>
   rw[hm]at h;obtain⟨h1,h2⟩:=oj h;exact⟨cf _ h1,h2⟩
  |false=>
   rw[hm]at h;simp only[look]at h;cases hq:Nat.beq k t with
   |false=>
    rw[hq]at h;obtain⟨h1,h2⟩:=oj h;exact⟨cf _ h1,h2⟩
   |true=>
    rw[hq]at h;injection h with h;have:=gX hq;subst this;subst h;refine⟨dV ..,fun j hj ql=> ?_⟩;have:o4 ((List.range m).filterMap (bg c)) k=true:=gY.2 (List.mem_filterMap.2 ⟨j,cJ.2 hj,ql⟩);rw[this]at hm;cases hm
section
variable {P : Program} {c : Code} {K : Act → World → Prop} {Q : Exit → Act → World → Prop} {N : FN} {env0 : Env} {wr : World} {sp : Nat → Spec}
theorem sq{listed:Array Bool}{i j:Nat}(hi:i<listed.size):(listed.setIfInBounds i true).getD j false=(decide (j=i)||listed.getD j false):=by
 by_cases e:i=j
 ·subst e;simp[kq,hi]
 ·have:¬j=i:=fun h=>e h.symm
  simp[kq,Array.getElem?_setIfInBounds_ne e,this]
theorem Dv(gl:fO c=true){m:Nat}(ht:pE c m=true):∀(n fuel k:Nat) (listed:Array Bool) (a:Act) (w:World),listed.size=(opsOf c).size→(opsOf c).size≤k+n→n≤fuel→m≤k→k≤(opsOf c).size→(∀j,j<(opsOf c).size→listed.getD j false=decide (j<k))→bw P c K Q k a w→wpAny P .any (opsOf c) (Exit.then K Q) fuel listed a w:=by
 intro n;induction n with
 |zero=>
  intro fuel k listed a w jo hs hf ng Tz hl h;have hk:k=(opsOf c).size:=oM;subst hk;have hK:K a w:=by unfold bw at h;rw[List.drop_eq_nil_of_le sI]at h;exact h
  have VG:∀i,¬i∈Region.ready .any (opsOf c) listed:=fun i hi=>by have h1:=qg jo hi;have h2:=(fB hi).1;rw[hl i h2]at h1;simp[h2]at h1
  cases fuel with
  |zero=>exact⟨List.eq_nil_iff_forall_not_mem.2 VG,hK⟩
  |succ fuel=>exact⟨fun _=>hK,fun i hi=>absurd hi (VG i)⟩
 |succ n ih=>
  intro fuel k listed a w jo hs hf ng Tz hl h;by_cases hk:k<(opsOf c).size
  ·cases fuel with
   |zero=>omega
   |succ fuel=>
    refine⟨fun hr=> ?_,fun i hi=> ?_⟩
    ·have:=jE gl jo hr k hk;rw[hl k hk]at this;simp at this
    ·have pY:=qg jo hi;have VY:=(fB hi).1;have hik:i=k:=by
      rw[hl i VY]at pY;have RG:k≤i:=by simpa using pY
      rcases Nat.lt_or_eq_of_le RG with hgt|he
      ·exfalso;simp only[pE,iK,cJ,cG]at ht;have h1:reach c (opsOf c).size i k=true:=by
        rcases ht i VY with h1|h1
        ·have:i<m:=by simpa[mA]using h1
         omega
        ·exact h1 k hgt
       cases hn:(opsOf c).size with
       |zero=>omega
       |succ N'=>
        rw[hn]at h1;simp only[reach,cG,vL]at h1;rcases h1 with h1|⟨q,hq,h1⟩
        ·have:=mN hi k (gY.1 h1);rw[hl k hk]at this;simp at this
        ·have h2:=mN hi q hq;have hqi:q<i:=by simp only[fO,iK,cJ]at gl;have:=gl i VY q hq;simpa[mA]using this
         rw[hl q oM]at h2;have h3:q<k:=by simpa using h2
         have:=Du gl oM h1;omega
      ·exact he.symm
     subst hik;have ho:(opsOf c)[i]?=some (opsOf c)[i]:=by simp[hk]
     generalize hoo:(opsOf c)[i]=o at ho;unfold bw at h;rw[zW ho]at h;unfold wpList at h;have next:∀a' w',wpList P (opsOf c) (Exit.then K Q) ((opsOf c).toList.drop (i+1)) a' w'→wpAny P .any (opsOf c) (Exit.then K Q) fuel (listed.setIfInBounds i true) a' w':=by
      intro a' w' h';refine ih fuel (i+1) _ a' w' (by simpa using jo) oM oM oM oM (fun j hj=> ?_) h';rw[sq oM,hl j hj];by_cases e:j=i
      ·subst e;simp
      ·have:(j<i+1)↔(j<i):=oM;simp[e,this]
     unfold wpOp;rw[ho];simp only[];split at h
     ·rename_i hw;rw[bx hw];exact h.imp (Oper.wp_mono next) id
     ·rename_i hw;rw[bk hw];exact next _ _ h
  ·exact ih fuel k listed a w jo oM oM ng Tz hl h
theorem Jh(hd:j6 c=true)(gK:∀i d,bg c i=some d→d<N.n)(gl:fO c=true){m:Nat}(ht:pE c m=true)(hm:m≤(opsOf c).size)(nR:∀i,i<m→jt P c Q N env0 wr sp i)(z8:∀a w,(∀listed:Array Bool,(∀j,j<m→listed.getD j false=true)→(∀j,m≤j→listed.getD j false=false)→rL c N env0 wr sp listed a w→bw P c K Q m a w)):∀(n fuel:Nat) (listed:Array Bool) (a:Act) (w:World),listed.size=(opsOf c).size→((List.range (opsOf c).size).filter (fun j=> !listed.getD j false)).length=n→n≤fuel→(∀j,m≤j→listed.getD j false=false)→rL c N env0 wr sp listed a w→wpAny P .any (opsOf c) (Exit.then K Q) fuel listed a w:=by
 intro n;induction n using Nat.strongRecOn with
 |_ n ih=>
  intro fuel listed a w jo hn hf Dw hk;by_cases cr:∀j,j<m→listed.getD j false=true
  ·have hlen:(opsOf c).size≤m+n:=by
    have h1:((List.range (opsOf c).size).filter (fun j=> !listed.getD j false)).length=(opsOf c).size-m:=by
     have e:(List.range (opsOf c).size).filter (fun j=> !listed.getD j false)=(List.range (opsOf c).size).filter (fun j=>decide (m≤j)):=by
      apply ib;intro j _;by_cases hj:j<m
      ·rw[cr j hj];simp;omega
      ·rw[Dw j oM];simp;omega
     rw[e];have key:∀N,((List.range N).filter (fun j=>decide (m≤j))).length=N-m:=by
      intro N;induction N with
      |zero=>simp
      |succ N ihN=>
       rw[j8,ig,eE,ihN];by_cases h:m≤N
       ·simp[h];omega
       ·simp[h];omega
     exact key _
    omega
   refine Dv gl ht n fuel m listed a w jo hlen hf (cH _) hm (fun j hj=> ?_) (z8 a w listed cr Dw hk);by_cases h:j<m
   ·rw[cr j h];simp[h]
   ·rw[Dw j oM];simp[h]
  ·have wQ:0<n:=by
    rcases vD n with h0|h0
    ·exfalso;apply cr;intro j hj;cases hq:listed.getD j false with
     |true=>rfl
     |false=>
      have:j∈(List.range (opsOf c).size).filter (fun j=> !listed.getD j false):=ed.2 ⟨cJ.2 oM,by rw[hq];rfl⟩;have:=z9 this;omega
    ·exact h0
   cases fuel with
   |zero=>omega
   |succ fuel=>
    refine⟨fun hr=>absurd (fun j hj=>jE gl jo hr j oM) cr,fun i hi=> ?_⟩;obtain⟨h1,h2,_⟩:=fB hi;have him:i<m:=by
     rcases jD i m with h|h
     ·exact h
     ·exfalso;apply cr;intro j hj;simp only[pE,iK,cJ,cG]at ht;have hre:reach c (opsOf c).size i j=true:=by
       rcases ht i h1 with h3|h3
       ·have:i<m:=by simpa[mA]using h3
        omega
       ·exact h3 j oM
      exact bd (ls:=fun q=>listed.getD q false) (fun j hj q hq=>hk.2.2.2.1 j hj q hq) (fun q hq=>mN hi q hq) hre
    have Vk:=qg jo hi;have uU:i<listed.size:=oM;refine yM hd gK (nR i him) jo hi hk (fun a' w' im=> ?_);have fo:((List.range (opsOf c).size).filter (fun j=> !(listed.setIfInBounds i true).getD j false)).length<n:=by
     rw[←hn];have kl:((List.range (opsOf c).size).filter (fun j=> !(listed.setIfInBounds i true).getD j false))=((List.range (opsOf c).size).filter (fun j=> !listed.getD j false)).filter (fun j=> !(Nat.beq j i)):=by
      rw[qO];apply ib;intro j _;rw[sq uU];by_cases e:j=i
      ·subst e;simp
      ·have hb:Nat.beq j i=false:=by
        cases hq:Nat.beq j i with
        |false=>rfl
        |true=>exact absurd (gX hq) e
       simp[e,hb]
     rw[kl];have nq:i∈(List.range (opsOf c).size).filter (fun j=> !listed.getD j false):=ed.2 ⟨cJ.2 h1,by rw[Vk];rfl⟩;exact s7.2 ⟨i,nq,sI⟩
    refine ih _ fo fuel _ a' w' (by simpa using jo) rfl oM (fun j hj=> ?_) im;rw[sq uU,Dw j hj];have:j≠i:=oM;simp[this]
theorem Mj(m:Nat)(sp:Nat→Spec){a:Act}(hF:Fr a N env0)(nR:∀i,i<m→jt P c Q N env0 wr sp i)(h:∀a' w' (vs:Nat→Value),Kp wr w'→(∀j,j<m→(sp j).ok (vs j) w')→Fr a' N (oz c sp vs (List.range m)++wP c m env0)→bw P c K Q m a' w')(ht:pE c m=true:=by kernel_rfl)(H7:Nat.ble m (opsOf c).size=true:=by kernel_rfl)(hk:kind c= .region true:=by kernel_rfl)(hm:P.follows .mixedOrders=true:=by kernel_rfl)(hd:j6 c=true:=by kernel_rfl)(gl:fO c=true:=by kernel_rfl)(o5:nQ env0=true:=by kernel_rfl)(gK:(List.range (opsOf c).size).all (fun i=>gL (bg c i) N)=true:=by kernel_rfl):W P c K Q a wr:=by
 have EA:∀i d,bg c i=some d→d<N.n:=by
  intro i d hi;have fo:i<(opsOf c).size:=by
   simp only[bg]at hi;cases ho:(opsOf c)[i]? with
   |none=>simp[ho]at hi
   |some o=>exact(Array.getElem?_eq_some_iff.1 ho).1
  simp only[iK,cJ]at gK;have:=gK i fo;rw[hi]at this;simpa[gL,mA]using this
 have eD:=vC H7;cases c<;>simp[kind]at hk;rename_i id ops dr;subst hk;refine wp_region_any hm ?_;have Ji:∀j,(Array.replicate ops.size false).getD j false=false:=by intro j;simp only[kq,Array.getElem?_replicate];split<;>rfl
 have h0:rL (.region id ops true) N env0 wr sp (Array.replicate ops.size false) a {wr with drawn:=wr.drawn+1}:=by
  refine⟨Mem.drew wr,hF.defers,hF.size,?_,⟨fun _=>undef,?_⟩,fun t v Vm _=>hF.slot t v (nr o5 Vm)⟩
  ·intro j hj;rw[Ji j]at hj;cases hj
  ·intro j hj;rw[Ji j]at hj;cases hj
 refine Jh (c:= .region id ops true) hd EA gl ht eD nR ?_ _ ops.size _ a _ (by simp[opsOf]) rfl ?_ (fun j _=>Ji j) h0
 ·intro a' w' listed cr Dw hk;obtain⟨YS,s6,jo,_,⟨vs,xZ⟩,ns⟩:=hk;refine h a' w' vs YS (fun j hj=>(xZ j (cr j hj)).1) ⟨s6,jo,fun t v hv=> ?_⟩;rcases jK hv with h1|h1
  ·obtain⟨j,hj,ql,rfl⟩:=lN h1;obtain⟨h2,h3⟩:=xZ j (cr j (cJ.1 hj));rw[Spec.s5 h2];exact h3 t ql
  ·obtain⟨h2,h3⟩:=oj h1;refine ns t v h2 (fun j hj=> ?_);rcases jD j m with VZ|VZ
   ·exact h3 j VZ
   ·rw[Dw j VZ]at hj;cases hj
 ·refine gd (ie _ _) ?_;simp[opsOf]
variable {i : Nat}
end
end Go.Mor
namespace Go.Mor
open Go.RowKit
end Go.Mor
namespace Go.Mor
open Go.RowKit
end Go.Mor
namespace Go.Mor
end Go.Mor
namespace Go.Mor
open Go.RowKit
def Qai(P:Program)(c:Code)(N:FN)(env:Env)(k:Nat):Option (Option Nat×aA×Nat×Int):=match ao c k with
 |some (d,.slice t x none (some y) none,_,g)=>match bu c g env,gL d N,ev env x,ev env y,P.underlying t with
  |some true,true,some (.slice A _ cap),some (.int _ i),some (.slice e)=>match(P.info? e).map (·.size)with
   |some _=>some (d,A,cap,i)
   |none=>none
  |_,_,_,_,_=>none
 |_=>none
section
variable {P : Program} {c : Code} {K : Act → World → Prop} {Q : Exit → Act → World → Prop} {w w0 : World} {S : Nat → Prop} {L : List aL} {k : Nat} {N : FN} {env : Env}
theorem zhi{A:aA}{cap:Nat}{i:Int}(m:Nat)(hi:i=(m:Int))(hm:m≤cap)(h:∀a,Fr a N (dN env (bg c k) (vS A m cap))→bw P c K Q (k+1) a w)(hk:Qai P c N env k=some (bg c k,A,cap,i)):∀a,Fr a N env→bw P c K Q k a w:=fun a hF=>by
 unfold Qai at hk;split at hk
 ·rename_i h0;split at hk
  ·rename_i h1 h2 h3 h4 h5;split at hk
   ·rename_i sz h6;simp only[dT,dw]at hk;obtain⟨rfl,rfl,rfl,rfl⟩:=hk;exact j2 h0 hF h1 h2 rfl m h3 h4 hi h5 h6 hm (fun a' _=>h a')
   ·cases hk
  ·cases hk
 ·cases hk
end
end Go.Mor
namespace Go.Mor
open Go.RowKit
section
variable {P : Program} {c : Code} {K : Act → World → Prop} {Q : Exit → Act → World → Prop} {w w0 : World} {S : Nat → Prop} {L : List aL} {k k' : Nat} {N : FN} {env : Env}
theorem Mk{kt e t:TypeId}{kd:TypeDesc}{α:Type}[BEq α]{inj:α→Value}(KL:uE P kt kd inj)(s:α)(z:Value){b:Nat}{l:List (α×Value)}(hm:tZ w b (bP inj l))(ok:Bool){v:Value}(e':Mg ok (dX l s) z=v)(h:∀a,Fr a N (dN env (bg c k) v)→bw P c K Q (k+1) a w)(ht:P.underlying t=some (.map kt e))(hz:(P.info? e).map (·.zero)=some (some z):=by kernel_rfl)(hk:lkE c N env k=some (bg c k,t,b,inj s,ok):=by kernel_rfl):∀a,Fr a N env→bw P c K Q k a w:=by
 subst e';exact zlk KL s z hm ok h ht hz hk
end
end Go.Mor
namespace Go.Mor
open Go.RowKit
theorem RO.Qdn{S:Nat→Prop}{w:World}:RO S w (.rd none []):=⟨fun j v h=>by simp at h,fun g hg=>absurd rfl hg.1⟩
end Go.Mor
namespace Go.Mor
open Go.RowKit
def ciE(c:Code)(N:FN)(env:Env)(k:Nat):Option (Option Nat×Value×String×bp):=match ao c k with
 |some (d,.call ⟨.invoke r nm,args,_⟩,_,g)=>match bu c g env,gL d N,Kt env args.toList with
  |some true,true,some vs=>match ev env r with
   |some v=>some (d,v,nm,vs)
   |none=>none
  |_,_,_=>none
 |_=>none
def mbE(c:Code)(N:FN)(env:Env)(k:Nat):Option (Option Nat×Builtin×TypeId×Nat):=match ao c k with
 |some (d,.call ⟨.builtin b,args,RH⟩,_,g)=>match bu c g env,gL d N,Kt env args.toList,RH with
  |some true,true,some [.map (some m)],⟨[t]⟩=>some (d,b,t,m)
  |_,_,_,_=>none
 |_=>none
section
variable {P : Program} {c : Code} {K : Act → World → Prop} {Q : Exit → Act → World → Prop} {w w0 : World} {S : Nat → Prop} {L : List aL} {k : Nat} {N : FN} {env : Env}
theorem RI{a:Act}(d:Option Nat)(rv:Value)(nm:String)(vs:bp)(hF:Fr a N env)(hk:ciE c N env k=some (d,rv,nm,vs)){f:FuncId}{us:Array Value}(hm:(callMethod rv nm vs.toArray).run P w= .ok (.enter f us) w){Φ:Value→World→Prop}(hc:Calls P f us w (eU Φ))(h:∀v w',Φ v w'→∀a',Fr a' N (dN env d v)→bw P c K Q (k+1) a' w'):bw P c K Q k a w:=by
 unfold ciE at hk;split at hk
 ·rename_i d0 r nm0 args RH ty g CC;split at hk
  ·rename_i vs0 hg hd KW;split at hk
   ·rename_i v0 H5;simp only[dT,dw]at hk;obtain⟨rfl,rfl,rfl,rfl⟩:=hk;refine uT CC hF hg fun o h1 h2 h3 K' KQ=> ?_
    unfold Oper.wp;have hr:(execOp a.eval o).run P w= .ok (.enter f us) w:=by
     unfold execOp;rw[h2];have e1:=nP hF KW;have e2:args.map a.eval=vs0.toArray:=by apply jZ;simpa using e1
     have e4:(#[v0]++vs0.toArray).extract 1 (#[v0]++vs0.toArray).size=vs0.toArray:=by apply jZ;simp
     have e5:(#[v0]++vs0.toArray)[0]?=some v0:=sI;simp only[resolve,hF.ev H5,e2,db,gf,dk,invoke,e4,e5,hm]
    rw[hr,Oper.upon_enter];refine hc.mono ?_;rintro e w' ⟨v,rfl,hv⟩;rw[h1];exact KQ _ _ (h v w' hv _ (hF.put hd v))
   ·cases hk
  ·cases hk
 ·cases hk
theorem P3{rv:Value}{nm:String}{vs:bp}{f:FuncId}{us:Array Value}{Φ:Value→World→Prop}(hc:Calls P f us w (eU Φ))(h:∀v w',Φ v w'→∀a,Fr a N (dN env (bg c k) v)→bw P c K Q (k+1) a w')(hm:(callMethod rv nm vs.toArray).run P w= .ok (.enter f us) w)(hk:ciE c N env k=some (bg c k,rv,nm,vs):=by kernel_rfl):∀a,Fr a N env→bw P c K Q k a w:=fun _ hF=>RI _ rv nm vs hF hk hm hc h
theorem Hg{a:Act}{d:Option Nat}{x:Operand}{xt t ty:TypeId}{g:Option (Nat×Bool)}{k':Nat}(hk:ao c k=some (d,.typeAssert x xt t false,ty,g))(hF:Fr a N env)(hg:bu c g env=some true)(hd:gL d N=true)(im:k+1=k'){X v:Value}(hx:ev env x=some X)(hr:(Instr.typeAssert X xt t false).run P w= .ok v w)(h:∀a',a'=a.put d v→Fr a' N (dN env d v)→bw P c K Q k' a' w):bw P c K Q k a w:=by
 refine dR hk hF hg hd im (v:=v) (fun o ho=> ?_) h;unfold execOp;rw[ho];simp[hF.ev hx,hr]
theorem Hh{d:Option Nat}{b:Builtin}{t:TypeId}{m:Nat}(h:mbE c N env k=some (d,b,t,m)):∃args RH ty g,ao c k=some (d,.call ⟨.builtin b,args,RH⟩,ty,g)∧bu c g env=some true∧gL d N=true∧Kt env args.toList=some [.map (some m)]∧RH=#[t]:=by
 unfold mbE at h;split at h
 ·rename_i d0 b0 args RH ty g h0;split at h
  ·rename_i m0 t0 h1 h2 h3;simp only[dT,dw]at h;obtain⟨rfl,rfl,rfl,rfl⟩:=h;exact⟨_,_,_,_,h0,h1,h2,h3,rfl⟩
  ·cases h
 ·cases h
theorem zmc{b:Nat}{l:List (Value×Value)}{t kt e:TypeId}(hM:Mem S w0 w L)(i:Nat)(hi:L[i]?=some (.map b l))(ht:P.underlying t=some (.map kt e))(h:∀w',Mem S w0 w' (L.set i (.map b []))→∀a,Fr a N (dN env (bg c k) (.tuple #[]))→bw P c K Q (k+1) a w')(hk:mbE c N env k=some (bg c k,.clear,t,b):=by kernel_rfl):∀a,Fr a N env→bw P c K Q k a w:=fun a hF=>by
 obtain⟨args,RH,ty,g,h0,h1,h2,h3,rfl⟩:=Hh hk;obtain⟨es,clock,hb,hl,fo,uA⟩:=hM.get i hi;have nB:b<w.heap.size:=kz hb;have uy:∀o:Obj,(setObj b o).run P w= .ok () {w with heap:=w.heap.setIfInBounds b o}:=fun o=>by simp only[setObj,Sem.run,hb]
 have hm:Mem (aL.map b l).fp w {w with heap:=w.heap.setIfInBounds b (.map #[] clock)} [.map b []]:=by refine Mem.Fp ⟨es,clock,hb,hl,fo,uA⟩ ⟨#[],clock,?_,rfl,sI,sI⟩;show(w.heap.setIfInBounds b _)[b]?=_;rw[Array.getElem?_setIfInBounds_self_of_lt nB]
 have xM:Mem S w0 {w with heap:=w.heap.setIfInBounds b (.map #[] clock)} (L.set i (.map b [])):=by simpa using hM.mod i hi hm
 refine gF h0 hF h1 (v:= .tuple #[]) (w':={w with heap:=w.heap.setIfInBounds b (.map #[] clock)}) (fun o ho _=> ?_) (h _ xM _ (hF.put h2 _));unfold execOp;rw[ho];have e2:args.map a.eval=#[.map (some b)]:=by apply jZ;simpa using nP hF h3
 simp[resolve,e2,invoke,builtin,Builtin.clear_,ef ht,db,gf,mc hb,uy,Result.andThen]
end
theorem Ml{P:Program}{t:TypeId}{j:Nat}(h1:j≤1000000)(w:World):(binOp .quo t (vI ((j:Int)-1)) (vI 2)).run P w= .ok (vI (((j-1) / 2:Nat):Int)) w:=by
 rcases vD j with h|h
 ·subst h;exact(show(binOp .quo t (vI (-1)) (vI 2)).run P w= .ok (vI 0) w by kernel_rfl)
 ·have h2:=kO (P:=P) (t:=t) (i:=j-1) 2 oM dQ w;rw[show((j-1:Nat):Int)=(j:Int)-1 by omega]at h2;exact h2
theorem BA{P:Program}{w:World}{t:TypeId}{ad:Addr}{v:Value}(ht:uw P t=true)(hc:w.cell? ad=some v):(loadVar t ad).run P w= .ok v w:=by
 simp[loadVar,yJ ht,hc]
def Mm(P:Program)(t:TypeId)(nm:String):Option (FuncId×Bool):=match P.info? t with
 |some ti=>match ti.methods.find? (·.name==nm)with
  |some m=>match m.path with
   |⟨[]⟩=>m.func
   |_=>none
  |none=>none
 |none=>none
theorem Mn{P:Program}{w:World}{t:TypeId}{v rv:Value}{nm:String}{f:FuncId}{b:Bool}{n:Nat}(hm:Mm P t nm=some (f,b))(hr:(receiverAt t (.val v) b (some ((nm.splitOn ".").getLastD nm))).run P w= .ok rv w):(method (n+1) t v nm).run P w= .ok (f,rv) w:=by
 unfold Mm at hm;split at hm
 ·rename_i ti uF;split at hm
  ·rename_i m hfi;split at hm
   ·rename_i hp;unfold method;have h1:(typeInfo t).run P w= .ok ti w:=by simp[typeInfo,uF]
    have e:m.path.isEmpty=true:=by rw[hp];rfl
    simp only[db,h1,dk,hfi,hp,follow,gf,hm,k9];have e2:(if(#[]:Array FieldStep).isEmpty=true then some ((nm.splitOn ".").getLastD nm)else none)=some ((nm.splitOn ".").getLastD nm):=rfl;rw[e2,hr];rfl
   ·cases hm
  ·cases hm
 ·cases hm
theorem Fq{P:Program}{w:World}{t:TypeId}{v rv:Value}{nm:String}{f:FuncId}{b:Bool}{args us:Array Value}(hm:Mm P t nm=some (f,b))(hr:(receiverAt t (.val v) b (some ((nm.splitOn ".").getLastD nm))).run P w= .ok rv w)(hf:s4 P f=true)(hu: #[rv]++args=us):(callMethod (.iface t v) nm args).run P w= .ok (.enter f us) w:=by
 have hn:P.types.size+Made.depth=(P.types.size+(Made.depth-1))+1:=cK (P.types.size+·) (show Made.depth=(Made.depth-1)+1 by decide);unfold callMethod;simp only[db,run_program,dk];rw[hn,Mn hm hr];simp only[dk,rH hf,hu]
section
variable {P : Program} {fn : Func} {w : World} {N : FN} {env : Env} {Φ : Value → World → Prop}
theorem zr0(h:Φ (.tuple #[]) w)(hk:fn.results=#[]:=by rfl)(hD:N.D=[]:=by rfl):∀a,Fr a N env→bodyPost P fn (eU Φ) .ret a w:=fun _ hF=>⟨hF.defers.trans hD,_,results_none hk _ _ _,_,rfl,h⟩
def Qaj(fn:Func)(env:Env):Option (Value×Value×Value):=match fn.results.toList with
 |[.tmp t,.tmp u,.tmp x]=>match look env t,look env u,look env x with
  |some v,some v',some v''=>some (v,v',v'')
  |_,_,_=>none
 |_=>none
theorem zo3(v v' v'':Value)(h:Φ (.tuple #[v,v',v'']) w)(hk:Qaj fn env=some (v,v',v''):=by kernel_rfl)(hD:N.D=[]:=by rfl):∀a,Fr a N env→bodyPost P fn (eU Φ) .ret a w:=fun a hF=>by
 unfold Qaj at hk;split at hk
 ·rename_i t u x ht;split at hk
  ·rename_i h1 h2 h3;simp only[dT,dw]at hk;obtain⟨rfl,rfl,rfl⟩:=hk;have hr:fn.results=#[.tmp t,.tmp u,.tmp x]:=by apply jZ;simpa using ht
   refine bodyPost_ret (v:= .tuple #[_,_,_]) ?_ (hF.defers.trans hD) ⟨_,rfl,h⟩;have e1:=hF.ev (x:= .tmp t) h1;have e2:=hF.ev (x:= .tmp u) h2;have e3:=hF.ev (x:= .tmp x) h3;simp only[Act.eval]at e1 e2 e3;rw[←e1,←e2,←e3];simp[results,hr]
  ·cases hk
 ·cases hk
end
def mxE(c:Code)(N:FN)(env:Env)(k:Nat):Option (Option Nat×Int×Int):=match ao c k with
 |some (d,.call ⟨.builtin .max,⟨[x,y]⟩,_⟩,_,g)=>match bu c g env,gL d N,ev env x,ev env y with
  |some true,true,some (.int .i64 i),some (.int .i64 j)=>some (d,i,j)
  |_,_,_,_=>none
 |_=>none
theorem dMX{P:Program}{c:Code}{Q:Exit→Act→World→Prop}{N:FN}{i:Nat}{env0:Env}{wr:World}{sp:Nat→Spec}(x y:Int)(hv:sp i= .aQ (vI (max x y)):=by rfl)(hg:∀vs,kB c i (bR c i sp vs env0)=some true:=by intro _;kernel_rfl)(hk:∀vs,mxE (one c i) N (bR c i sp vs env0) 0=some (bg c i,x,y):=by intro _;kernel_rfl)(he:ao (one c i) 1=none:=by kernel_rfl):jt P c Q N env0 wr sp i:=by
 refine nt hg (fun w vs hK hp a hF=> ?_);have h:=hk vs;unfold mxE at h;split at h
 ·rename_i d x0 y0 RH ty g h0;split at h
  ·rename_i i0 j0 h1 h2 h3 h4;simp only[dT,dw]at h;obtain⟨hd,rfl,rfl⟩:=h;refine Mf h0 hF h1 h2 rfl h3 h4 (max i0 j0) (by split<;>omega) (fun a' ea _=>aF he ⟨_,by rw[←hd];exact ea,Kp.refl w,by rw[hv];rfl⟩)
  ·cases h
 ·cases h
theorem dML{P:Program}{c:Code}{Q:Exit→Act→World→Prop}{N:FN}{i:Nat}{env0:Env}{wr:World}{sp:Nat→Spec}{b:Nat}{t kt e:TypeId}{l:List (Value×Value)}(hm:∀w,Kp wr w→tZ w b l)(ht:P.underlying t=some (.map kt e))(hv:sp i= .aQ (vI (l.length:Int)):=by rfl)(hg:∀vs,kB c i (bR c i sp vs env0)=some true:=by intro _;kernel_rfl)(hk:∀vs,mbE (one c i) N (bR c i sp vs env0) 0=some (bg c i,.len,t,b):=by intro _;kernel_rfl)(he:ao (one c i) 1=none:=by kernel_rfl):jt P c Q N env0 wr sp i:=by
 refine nt hg (fun w vs hK hp a hF=> ?_);obtain⟨args,RH,ty,g,h0,h1,h2,h3,rfl⟩:=Hh (hk vs);obtain⟨es,clock,hb,hl,fo,uA⟩:=hm w hK;refine dR h0 hF h1 h2 rfl (v:=vI (l.length:Int)) (fun o ho=> ?_) (fun a' ea _=>aF he ⟨_,ea,Kp.refl w,by rw[hv];rfl⟩);unfold execOp;rw[ho];have e2:args.map a.eval=#[.map (some b)]:=by apply jZ;simpa using nP hF h3
 have e3:l.length=es.size:=by rw[←hl];simp
 simp[resolve,e2,invoke,builtin,Builtin.len_,ef ht,db,gf,mc hb,Result.andThen,goInt,e3]
end Go.Mor
namespace Go.Proofs.YthgbejihcchcnaaDoor
open Go.Mor Go.RowKit
theorem Qak(ad:Addr)(v:Value)(w:World)(hc:w.cell? ad=some v):(callMethod (.iface 126 (vP ad)) "Len" #[]).run Tryd.prog w= .ok (.enter 115 #[v]) w:=by
 refine Fq (b:=false) kR ?_ kR (by rfl);exact(show _=(loadVar 68 ad).run Tryd.prog w by kernel_rfl).trans (BA kR hc)
theorem Mo(ad:Addr)(v:Value)(x y:Value)(w:World)(hc:w.cell? ad=some v):(callMethod (.iface 126 (vP ad)) "Less" #[x,y]).run Tryd.prog w= .ok (.enter 116 #[v,x,y]) w:=by
 refine Fq (b:=false) kR ?_ kR (by rfl);exact(show _=(loadVar 68 ad).run Tryd.prog w by kernel_rfl).trans (BA kR hc)
theorem Mp(ad:Addr)(v:Value)(x y:Value)(w:World)(hc:w.cell? ad=some v):(callMethod (.iface 126 (vP ad)) "Swap" #[x,y]).run Tryd.prog w= .ok (.enter 117 #[v,x,y]) w:=by
 refine Fq (b:=false) kR ?_ kR (by rfl);exact(show _=(loadVar 68 ad).run Tryd.prog w by kernel_rfl).trans (BA kR hc)
theorem Qal(p x:Value)(w:World):(callMethod (.iface 126 p) "Push" #[x]).run Tryd.prog w= .ok (.enter 119 #[p,x]) w:=kR
theorem Qdo(p:Value)(w:World):(callMethod (.iface 126 p) "Pop" #[]).run Tryd.prog w= .ok (.enter 118 #[p]) w:=kR
end Go.Proofs.YthgbejihcchcnaaDoor
namespace Go.Proofs.YthgbejihcchcnaaDoor
open Go.Mor
theorem Mq(A:aA)(n c:Nat)(w:World):Calls Tryd.prog 115 #[vS A n c] w (eU fun v w'=>v=vI (n:Int)∧Mem aR w w' []):=by
 refine fK 5 [vS A n c] Tryd.func115 ?_;have hM:=Mem.init w;refine bz<|bz<|cU<|dv (vI (n:Int)) ?_;exact⟨rfl,hM⟩
theorem BB(l:ar)(A:aA)(len c i j:Nat)(w:World)(hn:l.length=len)(hi:i<len)(hj:j<len)(hr:RO aR w (.rd A (ints l))):Calls Tryd.prog 116 #[vS A len c,nV i,nV j] w (eU fun v w'=>v=vB (decide (l.getD i 0<l.getD j 0))∧Mem aR w w' []):=by
 obtain⟨x,hx⟩:=ba (l:=l) (i:=i) oM;obtain⟨y,hy⟩:=ba (l:=l) (i:=j) oM;have ex:l.getD i 0=x:=by simp[List.getD,hx]
 have ey:l.getD j 0=y:=by simp[List.getD,hy]
 refine fK 16 [vS A len c,nV i,nV j] Tryd.func116 ?_;have hM:=Mem.init w;refine bz<|bb ?_;obtain⟨ub,rfl⟩:=rd_some (hM.ro hr) (by simp[ints];omega);refine eu [0,1,2] ?_;intro aC fr;refine Mj 8 (bI [eS (some ub) len c,.aQ (nV i),eA ub (i:Int) 1,eI x,eS (some ub) len c,.aQ (nV j),eA ub (j:Int) 1,eI y]) fr (rz lz dP dP (dI ub len 1 (i:Int)) (dL (aN ub (i:Int) 1) _ fun w_ hK=>(dd ((hM.ay hK).ro hr) rfl hx)) dP dP (dI ub len 1 (j:Int)) (dL (aN ub (j:Int) 1) _ fun w_ hK=>(dd ((hM.ay hK).ro hr) rfl hy))) ?_;intro aC w6 vs hK hv fr;revert aC;refine cT [(10,vI x),(14,vI y)] ?_;have M7:=hM.ay hK;clear hK hv fr aC hM;clear vs;refine ah 2<|ax<|cU<|dv (vB (decide ((x:Int)<y))) ?_;exact⟨by rw[ex,ey],M7⟩
theorem BC(l:ar)(A:aA)(len c i j:Nat)(w:World)(hn:l.length=len)(hi:i<len)(hj:j<len)(hr:(aL.row 3 1 A len c (ints l)).holds w):Calls Tryd.prog 117 #[vS A len c,nV i,nV j] w (eU fun v w'=>v= .tuple #[]∧Mem (aL.row 3 1 A len c (ints l)).fp w w' [.row 3 1 A len c (ints (Fm l i j))]):=by
 obtain⟨x,hx⟩:=ba (l:=l) (i:=i) oM;obtain⟨y,hy⟩:=ba (l:=l) (i:=j) oM;have ex:l.getD i 0=x:=by simp[List.getD,hx]
 have ey:l.getD j 0=y:=by simp[List.getD,hy]
 refine fK 20 [vS A len c,nV i,nV j] Tryd.func117 ?_;have hM:=Mem.kr hr;obtain⟨g1,rfl⟩:=bB (hM.get 0 rfl) oM;refine eu [0,1,2] ?_;intro aC fr;refine xN (bI [eS (sM g1) len c,.aQ (nV i),eS (sM g1) len c,.aQ (nV j),eS (sM g1) len c,.aQ (nV j),eA (aZ g1) (j:Int) 1,eI y,eS (sM g1) len c,.aQ (nV i),eA (aZ g1) (i:Int) 1,eI x,eA (aZ g1) (i:Int) 1,.aQ undef,eA (aZ g1) (j:Int) 1,.aQ undef]) (fun ls vs w_=>match ls 15 with|true=>(Mem (aL.row 3 1 (sM g1) len c (ints l)).fp w w_ [.row 3 1 (sM g1) len c (((ints l).set (((i:Int)).toNat*1) (vI y)).set (((j:Int)).toNat*1) (vI x))])|false=>(match ls 13 with|true=>(Mem (aL.row 3 1 (sM g1) len c (ints l)).fp w w_ [.row 3 1 (sM g1) len c ((ints l).set (((i:Int)).toNat*1) (vI y))])|false=>(Mem (aL.row 3 1 (sM g1) len c (ints l)).fp w w_ [.row 3 1 (sM g1) len c (ints l)]))) fr (dW (.aQ (.aQ (.aQ (.aQ (.aQ (.aQ (.aQ (.aQ (.aQ (.aQ (.aQ (.aQ (.aQ (.aQ (.aQ (.aQ .nil))))))))))))))))) (hM.ay (Mem.drew _)) (la (oJ (gM lz (eW fun _ _ _ _ h=>h) (eW fun _ _ _ _ h=>h) (eW fun _ _ _ _ h=>h) (eW fun _ _ _ _ h=>h) (eW fun _ _ _ _ h=>h) (eW fun _ _ _ _ h=>h) (oC (aZ g1) len 1 (j:Int) fun _ _ _ _ h=>h) (nj (aN (aZ g1) (j:Int) 1) (vI y) (fun _ _ _ _ h=>h) ?_) (eW fun _ _ _ _ h=>h) (eW fun _ _ _ _ h=>h) (oC (aZ g1) len 1 (i:Int) fun _ _ _ _ h=>h) (nj (aN (aZ g1) (i:Int) 1) (vI x) (fun _ _ _ _ h=>h) ?_)) (oC (aZ g1) len 1 (i:Int) fun _ _ _ _ h=>h) ?_ (oC (aZ g1) len 1 (j:Int) fun _ _ _ _ h=>h)) ?_) ?_;intro w_ ls vs hJ bD bE hp;have f13:ls 13=false:=aH bE bD (n:=16) kR;have f15:ls 15=false:=aH bE bD (n:=16) kR;have aO:=hJ;simp only[f13,f15]at aO;exact(dd (az (aO.get 0 rfl)) rfl hy);intro w_ ls vs hJ bD bE hp;have f13:ls 13=false:=aH bE bD (n:=16) kR;have f15:ls 15=false:=aH bE bD (n:=16) kR;have aO:=hJ;simp only[f13,f15]at aO;exact(dd (az (aO.get 0 rfl)) rfl hx);intro dt w_ ls vs bT hJ bD bE hp hF;refine hZ (g0:=none) ?_;replace hF:Fr dt 20 [(13,vI y),(18,(vP (aN (aZ g1) (i:Int) 1)))]:=hF.kp [13,18];have f13:ls 13=false:=bD;have f15:ls 15=false:=aH bE bD (n:=16) kR;have aO:=hJ;simp only[f13,f15]at aO;refine cD (kR:ao _ 0=some (none,.store 3 (.tmp 18) (.tmp 13),0,none)) hF kR kR (k':=1) rfl (ad:=(aZ g1)) (j:=(((i:Int)).toNat*1)) (e:=3) (size:=1) (n:=len) (cap:=c) (v:=(vI y)) (xs:=(ints l)) (ad':=(aN (aZ g1) (i:Int) 1)) kR rfl kR kR rfl aO 0 rfl oM ?_;intro w2 eD _ a2 ea _;refine aF kR ?_;refine aP (d:=none) kR ea rfl ?_;show match ls 15 with|true=>_|false=>(_)
 rw[f15];exact eD;intro dt w_ ls vs bT hJ bD bE hp hF;refine hZ (g0:=none) ?_;replace hF:Fr dt 20 [(17,vI x),(19,(vP (aN (aZ g1) (j:Int) 1)))]:=hF.kp [17,19];have f13:ls 13=true:=bd bE (fun k hk=>(hp k hk).1) (n:=16) kR;have f15:ls 15=false:=bD;have aO:=hJ;simp only[f13,f15]at aO;refine cD (kR:ao _ 0=some (none,.store 3 (.tmp 19) (.tmp 17),0,none)) hF kR kR (k':=1) rfl (ad:=(aZ g1)) (j:=(((j:Int)).toNat*1)) (e:=3) (size:=1) (n:=len) (cap:=c) (v:=(vI x)) (xs:=((ints l).set (((i:Int)).toNat*1) (vI y))) (ad':=(aN (aZ g1) (j:Int) 1)) kR rfl kR kR rfl aO 0 rfl oM ?_;intro w2 eD _ a2 ea _;refine aF kR ?_;refine aP (d:=none) kR ea rfl ?_;show _;exact eD;intro aC w6 ls vs cr M7 hv fr;simp only[show ls 15=true from cr 15 dQ]at M7;revert aC;refine cT [] ?_;clear cr hv fr aC hM;clear vs ls;refine tf ?_;have M8:Mem (aL.row 3 1 (sM g1) len c (ints l)).fp w w6 [.row 3 1 (sM g1) len c (ints (Fm l i j))]:=M7.cast (by simp only[br,cQ,Fm,ints_set,ex,ey]);exact⟨rfl,M8⟩
theorem V0(g:Nat)(pl nx:Value)(l:ar)(A:aA)(c:Nat)(w:World)(h0:0<l.length)(hb:(aL.ak g 70 [pl,.slice A l.length c,nx]).holds w)(hr:(aL.row 3 1 A l.length c (ints l)).holds w)(qk:∀k,(aL.ak g 70 [pl,.slice A l.length c,nx]).fp k→¬(aL.row 3 1 A l.length c (ints l)).fp k)(vc:l.length≤1000000):Calls Tryd.prog 118 #[pT g 1] w (eU fun v w'=>v= .iface 3 (vI (l.getD (l.length-1) 0))∧Mem ((aL.ak g 70 [pl,.slice A l.length c,nx]).and (aL.row 3 1 A l.length c (ints l))).fp w w' [.ak g 70 [pl,.slice A (l.length-1) c,nx],.row 3 1 A (l.length-1) c (ints (l.take (l.length-1)))]):=by
 refine fK 23 [pT g 1] Tryd.func118 ?_;have hM:=Mem.vQ hb hr qk;refine bz<|aK<|ah 2<|bl (aq g 1) _ (aa (hM.get 0 rfl) rfl)<|ah 1<|ax<|aK ?_;obtain⟨x,hx⟩:=ba (l:=l) (i:=l.length-1) oM;have ex:l.getD (l.length-1) 0=x:=by simp[List.getD,hx]
 have uV:=vx hr;refine ah 3 ?_;intro aC fr;refine mB (some 11) ((l.length-1:Nat):Int) fr (z0:=(l.length:Int)-1) kR oM oM oM ?_;intro aC fr;obtain⟨g6,rfl⟩:=bB (hM.get 1 rfl) oM;revert aC;refine ek (aZ g6) l.length 1 ((l.length-1:Nat):Int)<|bl (aN (aZ g6) ((l.length-1:Nat):Int) 1) _ (dd (az (hM.get 1 rfl)) rfl hx)<|ah 1<|ax<|aK<|ah 4<|dB ((l.length:Int)-1) ?_;refine zhi (A:=(sM g6)) (cap:=c) (i:=(l.length:Int)-1) (l.length-1) oM oM ?_ kR;refine eu [4,14,19]<|ah 1<|AD (ho:=sI) hM 0 1 (vS (sM g6) (l.length-1) c) rfl fun w7 M8=> ?_
 replace M8:=M8.nf;clear hM;refine ax<|bz<|cU<|dv (.iface 3 (vI x)) ?_;have M9:Mem ((aL.ak g 70 [pl,.slice (sM g6) l.length c,nx]).and (aL.row 3 1 (sM g6) l.length c (ints l))).fp w w7 [.ak g 70 [pl,vS (sM g6) (l.length-1) c,nx],.row 3 1 (sM g6) (l.length-1) c (ints (l.take (l.length-1)))]:=(M8.o7 1 rfl (l.length-1) oM).cast (by simp[ints,Az]);exact⟨by rw[ex],M9⟩
theorem RJ(g:Nat)(pl nx:Value)(l:ar)(A:aA)(c:Nat)(x:Int)(w:World)(hb:(aL.ak g 70 [pl,.slice A l.length c,nx]).holds w)(hr:(aL.row 3 1 A l.length c (ints l)).holds w)(qk:∀k,(aL.ak g 70 [pl,.slice A l.length c,nx]).fp k→¬(aL.row 3 1 A l.length c (ints l)).fp k)(vc:l.length≤1000000):Calls Tryd.prog 119 #[pT g 1,.iface 3 (vI x)] w (eU fun v w'=>∃A' c',v= .tuple #[]∧Mem ((aL.ak g 70 [pl,.slice A l.length c,nx]).and (aL.row 3 1 A l.length c (ints l))).fp w w' [.ak g 70 [pl,.slice A' (l.length+1) c',nx],.row 3 1 A' (l.length+1) c' (ints (l++[x]))]):=by
 refine fK 13 [pT g 1,.iface 3 (vI x)] Tryd.func119 ?_;have hM:=Mem.vQ hb hr qk;refine eu [0,1] ?_;intro aC fr;refine xN (bI [eR g 1,eR g 1,eR g 1,eS A l.length c,.aQ (.iface 3 (vI x)),eI x,Spec.free,Spec.free,eR g 1,.aQ undef]) (fun ls vs w_=>match ls 9 with|true=>(∃(g1:Nat) (A2:aA) (c3:Nat),vs 6=(vS (sM g1) 1 1)∧vs 7=(vS A2 (l.length+1) c3)∧Mem ((aL.ak g 70 [pl,.slice A l.length c,nx]).and (aL.row 3 1 A l.length c (ints l))).fp w w_ [.ak g 70 [pl,vS A2 (l.length+1) c3,nx],.row 3 1 A2 (l.length+1) c3 ((ints l)++[vI x]),.row 3 1 (sM g1) 1 1 [vI x]])|false=>(match ls 7 with|true=>(∃(g1:Nat) (A2:aA) (c3:Nat),vs 6=(vS (sM g1) 1 1)∧vs 7=(vS A2 (l.length+1) c3)∧Mem ((aL.ak g 70 [pl,.slice A l.length c,nx]).and (aL.row 3 1 A l.length c (ints l))).fp w w_ [.ak g 70 [pl,vS A l.length c,nx],.row 3 1 A2 (l.length+1) c3 ((ints l)++[vI x]),.row 3 1 (sM g1) 1 1 [vI x]])|false=>(match ls 6 with|true=>(∃(g1:Nat),vs 6=(vS (sM g1) 1 1)∧Mem ((aL.ak g 70 [pl,.slice A l.length c,nx]).and (aL.row 3 1 A l.length c (ints l))).fp w w_ [.ak g 70 [pl,vS A l.length c,nx],.row 3 1 A l.length c (ints l),.row 3 1 (sM g1) 1 1 [vI x]])|false=>(Mem ((aL.ak g 70 [pl,.slice A l.length c,nx]).and (aL.row 3 1 A l.length c (ints l))).fp w w_ [.ak g 70 [pl,vS A l.length c,nx],.row 3 1 A l.length c (ints l)])))) fr (dW (.aQ (.aQ (.aQ (.aQ (.aQ (.aQ (.free (.free (.aQ (.aQ .nil))))))))))) (hM.ay (Mem.drew _)) (ra (rz lz (eW fun _ _ _ _ h=>h) (eW fun _ _ _ _ h=>h) (eW fun _ _ _ _ h=>h) (nj (aq g 1) (vS A l.length c) (fun _ _ _ _ h=>h) ?_) (eW fun _ _ _ _ h=>h) ?_ ?_ ?_) (eW fun _ _ _ _ h=>h) ?_) ?_;intro w_ ls vs hJ bD bE hp;have f7:ls 7=false:=aH bE bD (n:=10) kR;have f9:ls 9=false:=aH bE bD (n:=10) kR;have aO:=hJ;simp only[f7,f9]at aO;cases fu:ls 6;simp only[fu]at aO;exact(aa (aO.get 0 rfl) rfl);simp only[fu]at aO;obtain⟨_,_,aO⟩:=aO;exact(aa (aO.get 0 rfl) rfl);intro dt w_ ls vs bT hJ bD bE hp hF;refine hZ (g0:=none) ?_;replace hF:Fr dt 13 [(8,.iface 3 (vI x))]:=hF.kp [8];have f6:ls 6=false:=aH bE bD (n:=10) kR;have f7:ls 7=false:=aH bE bD (n:=10) kR;have f9:ls 9=false:=aH bE bD (n:=10) kR;have aO:=hJ;simp only[f6,f7,f9]at aO;refine Hg (kR:ao _ 0=some (some 9,.typeAssert (.tmp 8) 20 3 false,3,none)) hF kR kR (k':=1) rfl (X:=(.iface 3 (vI x))) (v:=(vI x)) kR kR ?_;intro a2 ea _;refine aF kR ?_;exact aP (d:=some 9) kR ea rfl hJ;intro dt w_ ls vs bT hJ bD bE hp hF;refine hZ (g0:=none) ?_;replace hF:Fr dt 13 [(9,vI x)]:=hF.kp [9];have f6:ls 6=false:=bD;have f7:ls 7=false:=aH bE bD (n:=10) kR;have f9:ls 9=false:=aH bE bD (n:=10) kR;have aO:=hJ;simp only[f6,f7,f9]at aO;refine rr 10 68 1 #[(0,.tmp 9)] 68 hF (e:=3) (size:=1) (zs:=[vI 0]) (vs:=[(0,vI x)]) (cs:=[vI x]) aO ?_;intro Y8 w2 _ _ eD _ a2 ea _;refine aF kR ?_;refine aP (d:=some 10) kR ea trivial ?_;show match ls 9 with|true=>_|false=>(match ls 7 with|true=>_|false=>(∃(g1:Nat),_))
 rw[f9,f7];exact⟨Y8,rfl,eD⟩;intro dt w_ ls vs bT hJ bD bE hp hF;refine hZ (g0:=none) ?_;replace hF:Fr dt 13 [(7,vS A l.length c),(10,vs 6)]:=hF.kp [7,10];have f6:ls 6=true:=bd bE (fun k hk=>(hp k hk).1) (n:=10) kR;have f7:ls 7=false:=bD;have f9:ls 9=false:=aH bE bD (n:=10) kR;have aO:=hJ;simp only[f6,f7,f9]at aO;obtain⟨Y8,Hi,aO⟩:=aO;try rw[Hi]at hF
 refine th 11 (.tmp 7) (.tmp 10) 68 68 hF (e:=3) (size:=1) (bytes:=8) (z:=(vI 0)) (A:=A) (B:=(sM Y8)) (n:=l.length) (cap:=c) (m:=1) (cap':=1) (xs:=(ints l)) (news:=[vI x]) aO 1 rfl (az (aO.get 2 rfl)) rfl (by simp[Value.oneCell']) oM (by simp only[maxLen];omega) ?_;intro Y9 Za w2 eD _ a2 ea _;refine aF kR ?_;refine aP (d:=some 11) kR ea trivial ?_;show match ls 9 with|true=>_|false=>(∃(g1:Nat) (A2:aA) (c3:Nat),_)
 rw[f9];exact⟨Y8,Y9,Za,Hi,rfl,eD⟩;intro dt w_ ls vs bT hJ bD bE hp hF;refine hZ (g0:=none) ?_;replace hF:Fr dt 13 [(11,vs 7),(12,pT g 1)]:=hF.kp [11,12];have f6:ls 6=true:=bd bE (fun k hk=>(hp k hk).1) (n:=10) kR;have f7:ls 7=true:=bd bE (fun k hk=>(hp k hk).1) (n:=10) kR;have f9:ls 9=false:=bD;have aO:=hJ;simp only[f6,f7,f9]at aO;obtain⟨Y8,Y9,Za,Hi,tC,aO⟩:=aO;try rw[Hi]at hF
 try rw[tC]at hF
 refine oW (kR:ao _ 0=some (none,.store 68 (.tmp 12) (.tmp 11),0,none)) hF kR kR (k':=1) rfl (b:=g) (off:=1) (t0:=70) (v:=(vS Y9 (l.length+1) Za)) (cs:=[pl,vS A l.length c,nx]) kR kR kR rfl aO 0 rfl sI ?_;intro w2 eD _ a2 ea _;refine aF kR ?_;refine aP (d:=none) kR ea rfl ?_;show∃(g1:Nat) (A2:aA) (c3:Nat),_;exact⟨Y8,Y9,Za,Hi,tC,eD⟩;intro aC w8 ls vs cr M9 hv fr;simp only[show ls 9=true from cr 9 dQ]at M9;revert aC;refine cT [] ?_;obtain⟨g1,A2,c3,Hi,tC,M9⟩:=M9;try rw[Hi]
 try rw[tC]
 clear Hi tC;clear cr hv fr aC hM;clear vs ls;refine tf ?_;have me:Mem ((aL.ak g 70 [pl,.slice A l.length c,nx]).and (aL.row 3 1 A l.length c (ints l))).fp w w8 [.ak g 70 [pl,vS A2 (l.length+1) c3,nx],.row 3 1 A2 (l.length+1) c3 (ints (l++[x])),.row 3 1 (sM g1) 1 1 [vI x]]:=M9.cast (by simp[ints]);have nC:=me.od [1,1] 2;exact⟨_,_,rfl,nC⟩
end Go.Proofs.YthgbejihcchcnaaDoor
namespace Go.Proofs.YthgbejihcchcnaaDoor
open Go.Mor
theorem Qdp(g:Nat)(pl nx:Value)(l:ar)(A:aA)(len c:Nat)(j0:Nat)(w:World)(hj0:j0<len)(hn:l.length=len)(hb:(aL.ak g 70 [pl,.slice A len c,nx]).holds w)(hr:(aL.row 3 1 A len c (ints l)).holds w)(qk:∀k,(aL.ak g 70 [pl,.slice A len c,nx]).fp k→¬(aL.row 3 1 A len c (ints l)).fp k)(vc:len≤1000000):Calls Tryd.prog 95 #[.iface 126 (pT g 1),nV j0] w (eU fun v w'=>v= .tuple #[]∧Mem ((aL.ak g 70 [pl,.slice A len c,nx]).and (aL.row 3 1 A len c (ints l))).fp w w' [.ak g 70 [pl,.slice A len c,nx],.row 3 1 A len c (ints (En (j0+1) l j0))]):=by
 refine fK 23 [.iface 126 (pT g 1),nV j0] Tryd.func95 ?_;have hM:=Mem.vQ hb hr qk;refine cp 0 ?_;intro aC fr;refine fk (fun n_ a_ w_=>∃(f:Nat) (j:Nat) (m:ar),n_=2*f∧Fr a_ 23 [(0,.iface 126 (pT g 1)),(1,nV j)]∧Mem ((aL.ak g 70 [pl,.slice A len c,nx]).and (aL.row 3 1 A len c (ints l))).fp w w_ [.ak g 70 [pl,vS A len c,nx],.row 3 1 A len c (ints m)]∧(j<f)∧(j<len)∧(m.length=len)∧(En f m j=En (j0+1) l j0)) (n:=_) ⟨(j0+1),j0,l,rfl,fr.kp [0,1],hM,oM,oM,hn,rfl⟩ ?_;clear fr aC hM;rintro n aC w3 ⟨f,j,m,rfl,fr,M4,hf,hj,hm,Dw⟩;revert aC;refine cp 1<|aK ?_;obtain⟨f0,rfl⟩:∃f0,f=f0+1:=⟨f-1,oM⟩;refine ah 1<|dB ((j:Int)-1) ?_;intro aC fr;refine bL (kR:ao _ 2=some (some 7,.binOp .quo 3 (.tmp 6) (.const (vI 2)) 3,3,none)) fr kR kR (k':=3) rfl (kd:= .i64) (kd':= .i64) (i:=(j:Int)-1) (j:=2) (z:=vI ((((j-1) / 2):Nat):Int)) kR kR (fun w=>Ml oM w) ?_;intro aC ea fr;clear ea;revert aC;refine ah 1<|ax<|bb<|aK<|ah 4 ?_;obtain⟨Zb,V1⟩:∃B:Bool,B=((((((j-1) / 2):Nat):Int):Int)==(j:Int)):=⟨_,rfl⟩;refine cT [(0,.iface 126 (pT g 1)),(1,nV j),(4,(vI ((((j-1) / 2):Nat):Int))),(11,(vB ((((((j-1) / 2):Nat):Int):Int)==(j:Int))))] ?_;rw[←V1];have Qam:Zb=true↔((((((j-1) / 2):Nat):Int):Int)=(j:Int)):=by rw[V1];simp only[aw]
 clear V1;intro aC fr;refine cP 3 7 [12,13,14] fr (news:=[(12,cond (!Zb) (.iface 126 (pT g 1)) undef),(13,cond (!Zb) (nV j) undef),(14,(cond (!Zb) (vI ((((j-1) / 2):Nat):Int)) undef))]) (by cases Zb<;>kernel_rfl) ?_;intro aC fr;cases Zb;have Ck:¬((((((j-1) / 2):Nat):Int):Int)=(j:Int)):=kg Qam.2;revert aC;refine P3 (rv:=(.iface 126 (pT g 1))) (nm:= "Less") (vs:=[nV j,(vI ((((j-1) / 2):Nat):Int))]) (BB m A len c j ((j-1) / 2) w3 hm oM oM (RO.of (az (M4.get 1 rfl)))) ?_ (Mo _ _ _ _ _ (aa (M4.get 0 rfl) rfl));rintro _ Ep ⟨rfl,Qdq⟩;have mm:=M4.cl Qdq;refine ah 2<|ax<|fa (!(decide (m.getD j 0<m.getD ((j-1) / 2) 0))) (¬(m.getD j 0<m.getD ((j-1) / 2) 0)) (by simp only[jG,aJ]) (fun iy=> ?_) (fun iy=> ?_);refine eX 0<|zbm<|eY<|tf ?_;have kv:Mem ((aL.ak g 70 [pl,.slice A len c,nx]).and (aL.row 3 1 A len c (ints l))).fp w Ep [.ak g 70 [pl,vS A len c,nx],.row 3 1 A len c (ints (En (j0+1) l j0))]:=mm.cast (by rw[←Dw,Dr (by first|exact .inl oM|exact .inr (by assumption))]);exact⟨rfl,kv⟩;refine bZ<|aK<|ah 3 ?_;refine P3 (rv:=(.iface 126 (pT g 1))) (nm:= "Swap") (vs:=[(vI ((((j-1) / 2):Nat):Int)),nV j]) (BC m A len c ((j-1) / 2) j Ep hm oM oM (mm.get 1 rfl)) ?_ (Mp _ _ _ _ _ (aa (mm.get 0 rfl) rfl));rintro _ w20 ⟨rfl,V2⟩;have wR:=mm.md 1 rfl V2;refine ax<|Ci ?_;intro aC fr;exact⟨2*f0,oM,f0,((j-1) / 2),(Fm m ((j-1) / 2) j),rfl,fr.kp [0,1],wR,oM,oM,by rw[kf];exact hm,by rw[←Dw];exact(VW oM (by first|assumption|exact eO.1 (by assumption))).symm⟩;have Ck:((((((j-1) / 2):Nat):Int):Int)=(j:Int)):=Qam.1 rfl;revert aC;refine ah 3<|ax<|gO<|eX 0<|zbm<|eY<|tf ?_;have qn:Mem ((aL.ak g 70 [pl,.slice A len c,nx]).and (aL.row 3 1 A len c (ints l))).fp w w3 [.ak g 70 [pl,vS A len c,nx],.row 3 1 A len c (ints (En (j0+1) l j0))]:=M4.cast (by rw[←Dw,Dr (by first|exact .inl oM|exact .inr (by assumption))]);exact⟨rfl,qn⟩
theorem V3(g:Nat)(pl nx:Value)(l:ar)(A:aA)(len c:Nat)(F0 i0 n0:Nat)(w:World)(V4:i0<len)(Re:n0≤len)(V5:n0<F0+i0)(hn:l.length=len)(hb:(aL.ak g 70 [pl,.slice A len c,nx]).holds w)(hr:(aL.row 3 1 A len c (ints l)).holds w)(qk:∀k,(aL.ak g 70 [pl,.slice A len c,nx]).fp k→¬(aL.row 3 1 A len c (ints l)).fp k)(vc:len≤1000000):Calls Tryd.prog 94 #[.iface 126 (pT g 1),nV i0,nV n0] w (eU fun v w'=>∃b,v=vB b∧Mem ((aL.ak g 70 [pl,.slice A len c,nx]).and (aL.row 3 1 A len c (ints l))).fp w w' [.ak g 70 [pl,.slice A len c,nx],.row 3 1 A len c (ints (Dq F0 l i0 n0))]):=by
 refine fK 48 [.iface 126 (pT g 1),nV i0,nV n0] Tryd.func94 ?_;have hM:=Mem.vQ hb hr qk;refine bz<|bz<|bb<|cp 0 ?_;intro aC fr;refine fk (fun n_ a_ w_=>∃(f:Nat) (i:Nat) (m:ar),n_=2*f∧Fr a_ 48 [(0,.iface 126 (pT g 1)),(1,nV i0),(2,nV n0),(7,nV i)]∧Mem ((aL.ak g 70 [pl,.slice A len c,nx]).and (aL.row 3 1 A len c (ints l))).fp w w_ [.ak g 70 [pl,vS A len c,nx],.row 3 1 A len c (ints m)]∧(n0<f+i)∧(i<len)∧(m.length=len)∧(Dq f m i n0=Dq F0 l i0 n0)) (n:=_) ⟨F0,i0,l,rfl,fr.kp [0,1,2,7],hM,oM,oM,hn,rfl⟩ ?_;clear fr aC hM;rintro n aC w3 ⟨f,i,m,rfl,fr,M4,hf,hi,hm,gK⟩;revert aC;refine cp 1<|aK<|ah 1 ?_;intro aC fr;refine mB (some 13) ((2*i:Nat):Int) fr (z0:=2*(i:Int)) kR oM oM oM ?_;intro aC fr;refine mB (some 14) ((2*i+1:Nat):Int) fr (z0:=((2*i:Nat):Int)+1) kR oM oM oM ?_;intro aC fr;revert aC;refine ah 1<|ax<|bb<|aK<|ah 4 ?_;obtain⟨Hj,Fs⟩:∃B:Bool,B=decide ((((2*i+1:Nat):Int):Int)≥(n0:Int)):=⟨_,rfl⟩;refine cT [(0,.iface 126 (pT g 1)),(1,nV i0),(2,nV n0),(7,nV i),(8,(vI ((2*i+1:Nat):Int))),(18,(vB (decide ((((2*i+1:Nat):Int):Int)≥(n0:Int)))))] ?_;rw[←Fs];have RK:Hj=true↔((((2*i+1:Nat):Int):Int)≥(n0:Int)):=by rw[Fs];simp only[aJ]
 clear Fs;intro aC fr;refine cP 3 7 [21] fr (news:=[(21,(vB (Hj||decide ((((2*i+1:Nat):Int):Int)<0))))]) (by cases Hj<;>kernel_rfl) ?_;intro aC fr;revert aC;refine ax<|fa (Hj||decide ((((2*i+1:Nat):Int):Int)<0)) (((((2*i+1:Nat):Int):Int)≥(n0:Int))∨((((2*i+1:Nat):Int):Int)<0)) (by simp only[cG,aJ,RK]) (fun iy=> ?_) (fun iy=> ?_);refine eX 0<|zbm<|eY<|bz<|cU<|dv (vB (decide ((i:Int)>(i0:Int)))) ?_;have kv:Mem ((aL.ak g 70 [pl,.slice A len c,nx]).and (aL.row 3 1 A len c (ints l))).fp w w3 [.ak g 70 [pl,vS A len c,nx],.row 3 1 A len c (ints (Dq F0 l i0 n0))]:=M4.cast (by rw[←gK,zq (by first|exact .inl oM|exact .inr (by rw[←hjj];assumption))]);exact⟨_,rfl,kv⟩;refine bZ<|bz<|bb<|aK<|ah 1 ?_;intro aC fr;refine mB (some 24) ((2*i+1+1:Nat):Int) fr (z0:=((2*i+1:Nat):Int)+1) kR oM oM oM ?_;intro aC fr;revert aC;refine ah 1<|ax ?_;intro aC fr;refine kN (fun a_ w_=>∃(jj:Nat),Fr a_ 48 [(0,.iface 126 (pT g 1)),(1,nV i0),(2,nV n0),(7,nV i),(9,nV jj)]∧Mem ((aL.ak g 70 [pl,.slice A len c,nx]).and (aL.row 3 1 A len c (ints l))).fp w w_ [.ak g 70 [pl,vS A len c,nx],.row 3 1 A len c (ints m)]∧(jj<n0)∧(jj=(Eo m (2*i+1) n0))) ?_ ?_;clear fr aC M4;rintro aC P4 ⟨jj,fr,k8,Eg,hjj⟩;revert aC;refine bb<|aK ?_;have hjg:i<jj:=by have:=VV (l:=m) (j:=2*i+1) (n:=n0);omega
 refine ah 3 ?_;refine P3 (rv:=(.iface 126 (pT g 1))) (nm:= "Less") (vs:=[nV jj,nV i]) (BB m A len c jj i P4 hm oM oM (RO.of (az (k8.get 1 rfl)))) ?_ (Mo _ _ _ _ _ (aa (k8.get 0 rfl) rfl));rintro _ P5 ⟨rfl,Qdr⟩;have pF:=k8.cl Qdr;refine ah 1<|ax<|fa (!(decide (m.getD jj 0<m.getD i 0))) (¬(m.getD jj 0<m.getD i 0)) (by simp only[jG,aJ]) (fun rA=> ?_) (fun rA=> ?_);refine eX 0<|zbm<|eY<|bz<|cU<|dv (vB (decide ((i:Int)>(i0:Int)))) ?_;have uG:Mem ((aL.ak g 70 [pl,.slice A len c,nx]).and (aL.row 3 1 A len c (ints l))).fp w P5 [.ak g 70 [pl,vS A len c,nx],.row 3 1 A len c (ints (Dq F0 l i0 n0))]:=pF.cast (by rw[←gK,zq (by first|exact .inl oM|exact .inr (by rw[←hjj];assumption))]);exact⟨_,rfl,uG⟩;refine bZ<|aK ?_;obtain⟨f0,rfl⟩:∃f0,f=f0+1:=⟨f-1,oM⟩;refine ah 3 ?_;refine P3 (rv:=(.iface 126 (pT g 1))) (nm:= "Swap") (vs:=[nV i,nV jj]) (BC m A len c i jj P5 hm oM oM (pF.get 1 rfl)) ?_ (Mp _ _ _ _ _ (aa (pF.get 0 rfl) rfl));rintro _ Ft ⟨rfl,V6⟩;have kG:=pF.md 1 rfl V6;refine ax<|Ci ?_;intro aC fr;exact⟨2*f0,oM,f0,jj,(Fm m i jj),rfl,fr.kp [0,1,2,7],kG,oM,oM,by rw[kf];exact hm,by rw[←gK,hjj];exact(VX oM (by rw[←hjj];first|assumption|exact eO.1 (by assumption))).symm⟩;revert aC;refine aK<|ah 4 ?_;obtain⟨Jj,Fu⟩:∃B:Bool,B=decide ((((2*i+1+1:Nat):Int):Int)<(n0:Int)):=⟨_,rfl⟩;refine cT [(0,.iface 126 (pT g 1)),(1,nV i0),(2,nV n0),(7,nV i),(8,(vI ((2*i+1:Nat):Int))),(9,(vI ((2*i+1:Nat):Int))),(10,(vI ((2*i+1+1:Nat):Int))),(28,(vB (decide ((((2*i+1+1:Nat):Int):Int)<(n0:Int)))))] ?_;rw[←Fu];have RL:Jj=true↔((((2*i+1+1:Nat):Int):Int)<(n0:Int)):=by rw[Fu];simp only[aJ]
 clear Fu;intro aC fr;refine cP 3 7 [29,30,31] fr (news:=[(29,cond Jj (.iface 126 (pT g 1)) undef),(30,(cond Jj (vI ((2*i+1+1:Nat):Int)) undef)),(31,(cond Jj (vI ((2*i+1:Nat):Int)) undef))]) (by cases Jj<;>kernel_rfl) ?_;intro aC fr;cases Jj;have c38:¬((((2*i+1+1:Nat):Int):Int)<(n0:Int)):=kg RL.2;revert aC;refine ah 2<|ax<|il<|bZ ?_;intro aC fr;exact⟨2*i+1,fr.kp [0,1,2,7,9],M4,oM,by unfold Eo;first|(rw[bx ⟨oM,by assumption⟩])|(rw[bk (fun h=>by have h1:=h.1;have h2:=h.2;first|omega|contradiction)])⟩;have c38:((((2*i+1+1:Nat):Int):Int)<(n0:Int)):=RL.1 rfl;revert aC;refine P3 (rv:=(.iface 126 (pT g 1))) (nm:= "Less") (vs:=[(vI ((2*i+1+1:Nat):Int)),(vI ((2*i+1:Nat):Int))]) (BB m A len c (2*i+1+1) (2*i+1) w3 hm oM oM (RO.of (az (M4.get 1 rfl)))) ?_ (Mo _ _ _ _ _ (aa (M4.get 0 rfl) rfl));rintro _ Mr ⟨rfl,Jk⟩;have lD:=M4.cl Jk;refine ah 1<|ax<|fJ (m.getD (2*i+1+1) 0<m.getD (2*i+1) 0) (fun RM=> ?_) (fun RM=> ?_);refine Ci ?_;intro aC fr;exact⟨2*i+1+1,fr.kp [0,1,2,7,9],lD,oM,by unfold Eo;first|(rw[bx ⟨oM,by assumption⟩])|(rw[bk (fun h=>by have h1:=h.1;have h2:=h.2;first|omega|contradiction)])⟩;refine bZ ?_;intro aC fr;exact⟨2*i+1,fr.kp [0,1,2,7,9],lD,oM,by unfold Eo;first|(rw[bx ⟨oM,by assumption⟩])|(rw[bk (fun h=>by have h1:=h.1;have h2:=h.2;first|omega|contradiction)])⟩
end Go.Proofs.YthgbejihcchcnaaDoor
namespace Go.Proofs.YthgbejihcchcnaaDoor
open Go.Mor
theorem V7(g:Nat)(pl nx:Value)(l:ar)(A:aA)(c:Nat)(x:Int)(w:World)(vc:l.length≤900000)(hb:(aL.ak g 70 [pl,.slice A l.length c,nx]).holds w)(hr:(aL.row 3 1 A l.length c (ints l)).holds w)(qk:∀k,(aL.ak g 70 [pl,.slice A l.length c,nx]).fp k→¬(aL.row 3 1 A l.length c (ints l)).fp k):Calls Tryd.prog 87 #[.iface 126 (pT g 1),.iface 3 (vI x)] w (eU fun v w'=>∃A' c',v= .tuple #[]∧Mem ((aL.ak g 70 [pl,.slice A l.length c,nx]).and (aL.row 3 1 A l.length c (ints l))).fp w w' [.ak g 70 [pl,.slice A' (l.length+1) c',nx],.row 3 1 A' (l.length+1) c' (ints (wM l x))]):=by
 refine fK 12 [.iface 126 (pT g 1),.iface 3 (vI x)] Tryd.func87 ?_;have hM:=Mem.vQ hb hr qk;refine aK<|ah 2 ?_;refine P3 (rv:=(.iface 126 (pT g 1))) (nm:= "Push") (vs:=[.iface 3 (vI x)]) (RJ g pl nx l A c x w (hM.get 0 rfl) (hM.get 1 rfl) (hM.Ev (i:=0) (j:=1) rfl rfl dQ) oM) ?_ (Qal _ _ _);rintro _ w3 ⟨A1,c2,rfl,M4x⟩;have M4:=hM.md2 M4x;clear M4x hM;refine ax<|cN<|ah 2 ?_;refine P3 (rv:=(.iface 126 (pT g 1))) (nm:= "Len") (vs:=[]) (Mq A1 (l.length+1) c2 w3) ?_ (Qak _ _ _ (aa (M4.get 0 rfl) rfl));rintro _ w5 ⟨rfl,M6x⟩;have M6:=M4.cl M6x;intro aC fr;refine mB (some 10) (l.length:Int) fr (z0:=(((l.length+1):Nat):Int)-1) kR oM oM oM ?_;intro aC fr;revert aC;refine dZ (Qdp g pl nx (l++[x]) A1 (l.length+1) c2 l.length w5 oM sI (M6.get 0 rfl) (M6.get 1 rfl) (M6.Ev (i:=0) (j:=1) rfl rfl dQ) oM) ?_;rintro _ yf ⟨rfl,V8⟩;have iz:=M6.md2 V8;refine ax<|tf ?_;exact⟨_,_,rfl,iz⟩
theorem Qan(g:Nat)(pl nx:Value)(l:ar)(A:aA)(c:Nat)(w:World)(h0:0<l.length)(vc:l.length≤900000)(hb:(aL.ak g 70 [pl,.slice A l.length c,nx]).holds w)(hr:(aL.row 3 1 A l.length c (ints l)).holds w)(qk:∀k,(aL.ak g 70 [pl,.slice A l.length c,nx]).fp k→¬(aL.row 3 1 A l.length c (ints l)).fp k):Calls Tryd.prog 86 #[.iface 126 (pT g 1)] w (eU fun v w'=>v= .iface 3 (vI (pD l))∧Mem ((aL.ak g 70 [pl,.slice A l.length c,nx]).and (aL.row 3 1 A l.length c (ints l))).fp w w' [.ak g 70 [pl,.slice A (l.length-1) c,nx],.row 3 1 A (l.length-1) c (ints (tB l))]):=by
 refine fK 15 [.iface 126 (pT g 1)] Tryd.func86 ?_;have hM:=Mem.vQ hb hr qk;refine bz<|aK<|ah 1 ?_;refine P3 (rv:=(.iface 126 (pT g 1))) (nm:= "Len") (vs:=[]) (Mq A l.length c w) ?_ (Qak _ _ _ (aa (hM.get 0 rfl) rfl));rintro _ w1 ⟨rfl,Hk⟩;have M2:=hM.cl Hk;clear Hk hM;intro aC fr;refine mB (some 6) ((l.length-1:Nat):Int) fr (z0:=(l.length:Int)-1) kR oM oM oM ?_;intro aC fr;revert aC;refine ah 1<|ax<|aK<|ah 2 ?_;refine P3 (rv:=(.iface 126 (pT g 1))) (nm:= "Swap") (vs:=[vI 0,(vI ((l.length-1:Nat):Int))]) (BC l A l.length c 0 (l.length-1) w1 rfl oM oM (M2.get 1 rfl)) ?_ (Mp _ _ _ _ _ (aa (M2.get 0 rfl) rfl));rintro _ w7 ⟨rfl,Hl⟩;have M8:=M2.md 1 rfl Hl;refine ax<|aK<|ah 2<|dZ (V3 g pl nx (Fm l 0 (l.length-1)) A l.length c l.length 0 (l.length-1) w7 oM oM oM kf (M8.get 0 rfl) (M8.get 1 rfl) (M8.Ev (i:=0) (j:=1) rfl rfl dQ) oM) ?_;rintro _ Ms ⟨bb9,rfl,Mt⟩;have nC:=M8.md2 Mt;refine ax<|aK ?_;have TA:(ly l).length=l.length:=qf l;have iz:Mem ((aL.ak g 70 [pl,.slice A l.length c,nx]).and (aL.row 3 1 A l.length c (ints l))).fp w Ms [.ak g 70 [pl,vS A ((ly l).length) c,nx],.row 3 1 A ((ly l).length) c (ints (ly l))]:=nC.cast (by rw[qf];rfl);refine ah 1 ?_;refine P3 (rv:=(.iface 126 (pT g 1))) (nm:= "Pop") (vs:=[]) (V0 g pl nx (ly l) A c Ms oM (iz.get 0 rfl) (iz.get 1 rfl) (iz.Ev (i:=0) (j:=1) rfl rfl dQ) oM) ?_ (Qdo _ _);rintro _ TB ⟨rfl,Mu⟩;have sS:=iz.md2 Mu;refine ah 1<|ax<|cU<|dv (.iface 3 (vI ((ly l).getD ((ly l).length-1) 0))) ?_;refine⟨by rw[pD,TA],?_⟩;exact sS.cast (by simp only[TA,tB])
end Go.Proofs.YthgbejihcchcnaaDoor
namespace Go.Mor
open Go.RowKit
structure nK where
 pl:ar
 fr:ar
 nx:Int
def fv(s:nK)(v:Nat):nK:=if 0<s.fr.length then⟨s.pl.set v (pD s.fr),tB s.fr,s.nx⟩else⟨s.pl.set v s.nx,s.fr,s.nx+1⟩
def gq(s:nK)(v:Nat):nK:=⟨s.pl,wM s.fr (s.pl.getD v 0),s.nx⟩
theorem Jl{s:nK}{v:Nat}(h:0<s.fr.length):fv s v=⟨s.pl.set v (pD s.fr),tB s.fr,s.nx⟩:=by unfold fv;rw[bx h]
theorem Jm{s:nK}{v:Nat}(h:¬0<s.fr.length):fv s v=⟨s.pl.set v s.nx,s.fr,s.nx+1⟩:=by unfold fv;rw[bk h]
end Go.Mor
namespace Go.Proofs.YthgbejihcchcnaaDoor
open Go.Mor Go.RowKit
abbrev ga(g:Nat)(PA:aA)(pc:Nat)(A:aA)(c:Nat)(s:nK):List aL:=[.ak g 70 [.slice PA s.pl.length pc,.slice A s.fr.length c,vI s.nx],.row 3 1 A s.fr.length c (ints s.fr),.row 3 1 PA s.pl.length pc (ints s.pl)]
end Go.Proofs.YthgbejihcchcnaaDoor
namespace Go.Mor
open Go.RowKit
def vM(l:List (Int×Int)):List (Int×Value):=l.map (fun p=>(p.1,vI p.2))
theorem Mv(l:List (Int×Int))(s:Int):dX (vM l) s=(dX l s).map vI:=by
 induction l with
 |nil=>rfl
 |cons x r ih=>
  obtain⟨k,v⟩:=x;show dX ((k,vI v)::vM r) s=_;unfold dX;cases s==k with
  |true=>rfl
  |false=>exact ih
theorem pG(l:List (Int×Int))(s v:Int):oI (vM l) s (vI v)=vM (oI l s v):=by
 induction l with
 |nil=>rfl
 |cons x r ih=>
  obtain⟨k,u⟩:=x;show oI ((k,vI u)::vM r) s _=_;unfold oI;cases s==k with
  |true=>rfl
  |false=>show _::oI (vM r) s _=_;rw[ih];rfl
theorem BD(l:List (Int×Int))(s:Int):Mg false (dX (vM l) s) (vI 0)=vI ((dX l s).getD 0):=by
 rw[Mv];unfold Mg;cases dX l s<;>rfl
theorem Qao(l:List (Int×Int))(s:Int):Mg true (dX (vM l) s) (vI 0)= .tuple #[vI ((dX l s).getD 0),.bool (dX l s).isSome]:=by
 rw[Mv];unfold Mg;cases dX l s<;>rfl
theorem qh(l:List (Int×Int))(s v t:Int):dX (oI l s v) t=if t=s then some v else dX l t:=by
 induction l with
 |nil=>
  unfold oI dX;by_cases h:t=s
  ·subst h;simp
  ·have:(t==s)=false:=by simpa using h
   rw[this,bk h];rfl
 |cons x r ih=>
  obtain⟨k,u⟩:=x;unfold oI;cases hk:s==k with
  |true=>
   have e:s=k:=by simpa using hk
   subst e;simp only[dX];cases ht:t==s with
   |true=>rw[bx (by simpa using ht)]
   |false=>rw[bk (by simpa using ht)]
  |false=>
   simp only[dX];cases ht:t==k with
   |true=>
    have e:t=k:=by simpa using ht
    subst e;have:¬t=s:=fun e=>by rw[e]at hk;simp at hk
    rw[bk this]
   |false=>exact ih
def BE(l:List (Int×Int))(v:Int):List (Int×Int):=if(dX l v).isSome=true then l else oI l v (-1)
theorem Mw{l:List (Int×Int)}{v:Int}(h:(dX l v).isSome=true):BE l v=l:=by unfold BE;rw[bx h]
theorem Mx{l:List (Int×Int)}{v:Int}(h:¬(dX l v).isSome=true):BE l v=oI l v (-1):=by unfold BE;rw[bk h]
def mf(l:List (Int×Int))(vs:ar)(i:Int):List (Int×Int):=vs.foldl (fun l v=>oI l v i) l
theorem zu{l:List (Int×Int)}{vs:ar}{i:Int}{j:Nat}{v:Int}(h:vs[j]?=some v):mf l (vs.take (j+1)) i=oI (mf l (vs.take j) i) v i:=by
 unfold mf;rw[cS h,jn];rfl
instance (x : aI) : Decidable (gu x) := by unfold gu; exact inferInstance
noncomputable def BF(l:List (Int×Int))(x:aI)(n:Nat)(S:Int→Bool):List (Int×Int):=if gu x then oI (mf l (ag n S) (x.insts.length:Int)) x.v (x.insts.length:Int)else mf l (ag n S) (x.insts.length:Int)
theorem Dx{l:List (Int×Int)}{x:aI}{n:Nat}{S:Int→Bool}(h:gu x):BF l x n S=oI (mf l (ag n S) (x.insts.length:Int)) x.v (x.insts.length:Int):=by unfold BF;rw[bx h]
theorem RN{l:List (Int×Int)}{x:aI}{n:Nat}{S:Int→Bool}(h:¬gu x):BF l x n S=mf l (ag n S) (x.insts.length:Int):=by unfold BF;rw[bk h]
def Jn(l:List (Int×Int))(d:Int):List (Int×Int):=if 0≤d then BE l d else l
def lI:List (Int×Int)→List cV→Nat→List (Int×Int)
 |l,_,0=>l
 |l,is,j+1=>match is[j]? with
  |some p=>Jn (mf (lI l is j) p.args (j:Int)) p.dst
  |none=>lI l is j
theorem zv{l:List (Int×Int)}{is:List cV}{j:Nat}{p:cV}(h:is[j]?=some p):lI l is (j+1)=Jn (mf (lI l is j) p.args (j:Int)) p.dst:=by
 show(match is[j]? with|some p=>_|none=>_)=_;rw[h]
def RP(l:List (Int×Int))(ps:List fI):List (Int×Int):=ps.foldl (fun l p=>BE l p.dst) l
theorem My{l:List (Int×Int)}{ps:List fI}{j:Nat}{p:fI}(h:ps[j]?=some p):RP l (ps.take (j+1))=BE (RP l (ps.take j)) p.dst:=by
 unfold RP;rw[cS h,jn];rfl
noncomputable def aj(x:aI)(n:Nat)(S:Int→Bool):List (Int×Int):=BF (RP (lI [] x.insts x.insts.length) x.aE) x n S
end Go.Mor
namespace Go.Mor
open Go.RowKit
def P6(pl:ar)(S:Int→Bool)(x:Int):Int→Bool:=fun v=>S v&&(pl.getD v.toNat 0==x)
def kV(n:Nat)(pl:ar)(S:Int→Bool)(x:Int):Nat:=l9 n (P6 pl S x)
def Fv(n:Nat)(pl:ar)(S:Int→Bool):Nat:=(pl.eraseDups.filter (fun x=>decide (2≤kV n pl S x))).length
theorem Dy(l:List Int):l.eraseDups.Nodup:=by
 match l with
 |[]=>simp
 |a::r=>
  rw[List.eraseDups_cons,List.nodup_cons]
  refine⟨fun h=> ?_,Dy _⟩
  have h2:=(List.mem_filter.1 (List.mem_eraseDups.1 h)).2
  simp at h2
 termination_by l.length
 decreasing_by
  have:=List.length_filter_le (fun b=> !b==a) r
  simp only[List.length_cons]
  omega
theorem Mz{D:ar}(hn:D.Nodup){x0:Int}(hx:x0∈D){P Q:Int→Bool}(h:∀x,x≠x0→P x=Q x):(D.filter Q).length+cond (P x0) 1 0=(D.filter P).length+cond (Q x0) 1 0:=by
 induction D with
 |nil=>cases hx
 |cons a D ih=>
  obtain⟨h1,h2⟩:=oe.1 hn;rcases cW.1 hx with e|e
  ·subst e;have e2:D.filter Q=D.filter P:=ib (fun x hxD=>(h x (fun e=>by subst e;exact h1 hxD)).symm);rw[pd,pd,e2];cases P x0<;>cases Q x0<;>simp
  ·have h3:=ih h2 e;have h4:a≠x0:=fun e2=>by subst e2;exact h1 e
   rw[pd,pd,h a h4];cases Q a<;>simp<;>omega
section
variable {n : Nat} {pl : List Int} {S : Int → Bool} {i : Nat}
theorem wS{T:Int→Bool}(h:∀i:Nat,i<n→S (i:Int)=T (i:Int))(x:Int):kV n pl S x=kV n pl T x:=pC (fun i hi=>by unfold P6;rw[h i hi])
theorem Jo{T:Int→Bool}(h:∀i:Nat,i<n→S (i:Int)=T (i:Int)):Fv n pl S=Fv n pl T:=by
 unfold Fv;congr 1;exact ib (fun x _=>by rw[wS h])
theorem RQ(x:Int):kV n pl S x≤n:=nA
theorem sr(hi:i<n)(h:S (i:Int)=false)(x:Int):kV n pl (cC S (i:Int)) x=kV n pl S x+if pl.getD i 0=x then 1 else 0:=by
 unfold kV;by_cases e:pl.getD i 0=x
 ·rw[bx e];have e2:P6 pl (cC S (i:Int)) x=cC (P6 pl S x) (i:Int):=by
   funext v;unfold P6 cC;by_cases ev:v=(i:Int)
   ·subst ev;rw[br,e];simp
   ·have:(v==(i:Int))=false:=by simpa using ev
    simp[this]
  rw[e2,Jc hi (by unfold P6;rw[h];rfl)]
 ·rw[bk e];refine pC (fun j hj=> ?_);unfold P6 cC;by_cases ev:(j:Int)=(i:Int)
  ·have:j=i:=oM;subst this;have e3:(pl.getD j 0==x)=false:=by simpa using e
   rw[br,e3];simp
  ·have:((j:Int)==(i:Int))=false:=by simpa using ev
   rw[this,u9]
theorem Hm(h:S (i:Int)=true):cC (kD S (i:Int)) (i:Int)=S:=by
 funext x;unfold cC kD;by_cases e:x=(i:Int)
 ·subst e;rw[h];simp
 ·have:(x==(i:Int))=false:=by simpa using e
  rw[this];simp
theorem zw(hi:i<n)(h:S (i:Int)=true)(x:Int):kV n pl (kD S (i:Int)) x+(if pl.getD i 0=x then 1 else 0)=kV n pl S x:=by
 have:=sr (pl:=pl) (S:=kD S (i:Int)) hi (by simp[kD]) x;rw[Hm h]at this;omega
theorem Hn(hp:i<pl.length):pl.getD i 0∈pl.eraseDups:=by
 have:pl.getD i 0=pl[i]:=by simp[List.getD,hp]
 rw[this];exact List.mem_eraseDups.2 (mY hp)
theorem Ho(hi:i<n)(hp:i<pl.length)(h:S (i:Int)=false):Fv n pl (cC S (i:Int))=Fv n pl S+if kV n pl S (pl.getD i 0)+1=2 then 1 else 0:=by
 have h1:=Mz (Dy pl) (Hn hp) (P:=fun x=>decide (2≤kV n pl S x)) (Q:=fun x=>decide (2≤kV n pl (cC S (i:Int)) x)) (fun x hx=>by show decide _=decide _;rw[sr hi h,bk (fun e=>hx e.symm)];rfl)
 have h2:=sr (pl:=pl) hi h (pl.getD i 0);rw[bx rfl]at h2;unfold Fv;simp only[h2]at h1;split
 ·rename_i e;rw[fZ (show¬2≤kV n pl S (pl.getD i 0)by omega),fX (show 2≤kV n pl S (pl.getD i 0)+1 by omega)]at h1;simpa using h1
 ·rename_i e;by_cases e2:2≤kV n pl S (pl.getD i 0)
  ·rw[fX e2,fX (show 2≤kV n pl S (pl.getD i 0)+1 by omega)]at h1;simpa using h1
  ·rw[fZ e2,fZ (show¬2≤kV n pl S (pl.getD i 0)+1 by omega)]at h1;simpa using h1
theorem ME(hi:i<n)(hp:i<pl.length)(h:S (i:Int)=true):Fv n pl (kD S (i:Int))+(if kV n pl S (pl.getD i 0)=2 then 1 else 0)=Fv n pl S:=by
 have h1:=Ho (pl:=pl) (S:=kD S (i:Int)) hi hp (by simp[kD]);have h2:=zw (pl:=pl) hi h (pl.getD i 0);rw[Hm h]at h1;rw[bx rfl]at h2;rw[h1];split<;>split<;>omega
structure Fits(n:Nat)(pl:ar)(S:Int→Bool)(M:List (Int×Int))(tw:Int):Prop where
 TC:∀x,(dX M x).getD 0=(kV n pl S x:Int)
 tw:tw=(Fv n pl S:Int)
theorem Fits.congr{M:List (Int×Int)}{tw:Int}{T:Int→Bool}(h:Fits n pl S M tw)(e:∀i:Nat,i<n→S (i:Int)=T (i:Int)):Fits n pl T M tw:=⟨fun x=>by rw[h.TC,wS e],by rw[h.tw,Jo e]⟩
theorem zx(x:Int):kV n pl (fun _=>false) x=0:=by
 unfold kV l9 ag;rw[gg,mF.2 (fun i _=>by simp[P6])];rfl
theorem Fits.none:Fits n pl (fun _=>false) [] 0:=⟨fun x=>by rw[zx];rfl,by
  unfold Fv;rw[mF.2 (fun x _=>by rw[zx];simp)];rfl⟩
def lE(pl:ar)(M:List (Int×Int))(v:Nat)(d:Int):List (Int×Int):=oI M (pl.getD v 0) ((dX M (pl.getD v 0)).getD 0+d)
def BG(pl:ar)(M:List (Int×Int))(v:Nat)(tw:Int):Int:=if(dX M (pl.getD v 0)).getD 0+1=2 then tw+1 else tw
def Fw(pl:ar)(M:List (Int×Int))(v:Nat)(tw:Int):Int:=if(dX M (pl.getD v 0)).getD 0-1=1 then tw-1 else tw
theorem Fits.put{M:List (Int×Int)}{tw:Int}(h:Fits n pl S M tw)(hi:i<n)(hp:i<pl.length)(hS:S (i:Int)=false):Fits n pl (cC S (i:Int)) (lE pl M i 1) (BG pl M i tw):=by
 refine⟨fun x=> ?_,?_⟩
 ·unfold lE;rw[qh,sr hi hS,h.TC];by_cases e:pl.getD i 0=x
  ·rw[bx e.symm,bx e];subst e;simp only[iL];omega
  ·rw[bk (fun e2=>e e2.symm),bk e,h.TC];omega
 ·unfold BG;rw[Ho hi hp hS,h.TC,h.tw];split<;>split<;>omega
theorem Fits.take{M:List (Int×Int)}{tw:Int}(h:Fits n pl S M tw)(hi:i<n)(hp:i<pl.length)(hS:S (i:Int)=true):Fits n pl (kD S (i:Int)) (lE pl M i (-1)) (Fw pl M i tw):=by
 refine⟨fun x=> ?_,?_⟩
 ·unfold lE;have h1:=zw (pl:=pl) hi hS x;rw[qh,h.TC];by_cases e:pl.getD i 0=x
  ·rw[bx e.symm];rw[bx e]at h1;subst e;simp only[iL];omega
  ·rw[bk (fun e2=>e e2.symm),h.TC];rw[bk e]at h1;omega
 ·unfold Fw;have h1:=ME (pl:=pl) hi hp hS;rw[h.TC,h.tw];split
  ·rw[bx oM]at h1;omega
  ·rw[bk oM]at h1;omega
def eg(pl:ar)(l:ar):Bool:=decide ((l.map (fun v=>pl.getD v.toNat 0)).Nodup)
theorem Jp{l:ar}:l.Nodup↔∀x,l.count x≤1:=by
 induction l with
 |nil=>simp
 |cons a l ih=>
  rw[oe,ih];constructor
  ·rintro⟨h1,h2⟩ x;rw[List.count_cons];by_cases e:a=x
   ·subst e;have:l.count a=0:=List.count_eq_zero.2 h1;simp[this]
   ·have:(a==x)=false:=by simpa using e
    simp[this];exact h2 x
  ·intro h;refine⟨fun h1=> ?_,fun x=> ?_⟩
   ·have h2:=h a;rw[List.count_cons]at h2;have h3:=List.count_pos_iff.2 h1;simp at h2;omega
   ·have h2:=h x;rw[List.count_cons]at h2;omega
theorem Dz(x:Int):((ag n S).map (fun v=>pl.getD v.toNat 0)).count x=kV n pl S x:=by
 unfold kV l9 ag List.count;rw[List.countP_map,List.countP_map,List.countP_filter,List.countP_eq_length_filter,gg];congr 1;refine ib (fun i _=> ?_);simp only[Function.comp,P6,br];rw[Bool.and_comm]
theorem Fits.sep{M:List (Int×Int)}{tw:Int}(h:Fits n pl S M tw)(hp:n≤pl.length):decide (tw=0)=eg pl (ag n S):=by
 unfold eg;rw[decide_eq_decide,Jp,h.tw];constructor
 ·intro h0 x;rw[Dz];have h1:Fv n pl S=0:=oM;unfold Fv at h1;have h2:=vw h1;by_cases hx:x∈pl.eraseDups
  ·have h3:=mF.1 h2 x hx;have h4:¬2≤kV n pl S x:=by simpa using h3
   omega
  ·have h5:kV n pl S x=0:=by
    unfold kV l9 ag;rw[gg,mF.2 (fun i hi h6=> ?_)]
    ·rfl
    ·simp only[P6,aY,aw,br]at h6;have h7:=cJ.1 hi;exact hx (h6.2▸Hn oM)
   omega
 ·intro h0;have h1:Fv n pl S=0:=by unfold Fv;rw[mF.2 (fun x _=>by have:=h0 x;rw[Dz]at this;simp;omega)];rfl
  omega
theorem MF(l:List Int):l.eraseDups.length≤l.length:=by
 match l with
 |[]=>simp
 |a::r=>
  rw[List.eraseDups_cons,List.length_cons,List.length_cons]
  have h1:=MF (r.filter (fun b=> !b==a))
  have h2:=List.length_filter_le (fun b=> !b==a) r
  omega
 termination_by l.length
 decreasing_by
  have:=List.length_filter_le (fun b=> !b==a) r
  simp only[List.length_cons]
  omega
theorem Fits.btw{M:List (Int×Int)}{tw:Int}(h:Fits n pl S M tw)(hp:pl.length≤20000): -1000000≤tw∧tw≤1000000:=by
 have h1:=h.tw;have h2:Fv n pl S≤pl.length:=gd (ie _ _) (MF pl);omega
theorem Fits.bcn{M:List (Int×Int)}{tw:Int}(h:Fits n pl S M tw)(hn:n≤20000):∀x,-1000000≤(dX M x).getD 0∧(dX M x).getD 0≤1000000:=by
 intro x;have h1:=h.TC x;have h2:=RQ (n:=n) (pl:=pl) (S:=S) x;omega
def yg(l:ar):Int→Bool:=fun v=>decide (v∈l)
theorem MG:yg []=fun _=>false:=by funext v;simp[yg]
theorem Jq{l:ar}{j:Nat}{v:Int}(h:l[j]?=some v):yg (l.take (j+1))=cC (yg (l.take j)) v:=by
 funext x;unfold yg cC;rw[cS h,fE];simp only[bN,cn,aJ,cG,aw];exact Or.comm
theorem DA:(ag n S).Nodup:=by
 unfold ag List.Nodup;rw[List.pairwise_map];have h0:((List.range n).filter (fun i:Nat=>S (i:Int))).Pairwise (fun a b=>a≠b):=List.Pairwise.filter _ List.nodup_range;refine List.Pairwise.imp ?_ h0;intro a b h e;have e2:(a:Int)=(b:Int):=e;exact h oM
theorem MH{l:ar}(hn:l.Nodup){j:Nat}{v:Int}(h:l[j]?=some v):yg (l.take j) v=false:=by
 unfold yg;refine fZ (fun hm=> ?_);obtain⟨i,hi⟩:=ff.1 hm;have uU:i<j:=by have:=(List.getElem?_eq_some_iff.1 hi).1;rw[s8]at this;omega
 rw[List.getElem?_take,bx uU]at hi;obtain⟨h1,h2⟩:=List.getElem?_eq_some_iff.1 hi;obtain⟨h3,h4⟩:=List.getElem?_eq_some_iff.1 h;unfold List.Nodup at hn;exact mR.1 hn i j h1 h3 uU (h2.trans h4.symm)
theorem MI:∀i:Nat,i<n→yg (ag n S) (i:Int)=S (i:Int):=by
 intro i hi;unfold yg;rw[fE,decide_eq_true_iff];unfold ag;rw[bJ];constructor
 ·rintro⟨j,hj,e⟩;have:j=i:=oM;subst this;exact(ed.1 hj).2
 ·intro h;exact⟨i,ed.2 ⟨cJ.2 hi,h⟩,rfl⟩
theorem Qap(a b c:Bool):((a&&b)&&c)=(a&&(c&&b)):=by cases a<;>cases b<;>cases c<;>rfl
end
end Go.Mor
namespace Go.Mor
open Go.RowKit
def hH(pl:ar)(vs:ar):List (Int×Int):=vs.foldl (fun l v=>oI l (pl.getD v.toNat 0) ((dX l (pl.getD v.toNat 0)).getD 0+1)) []
def uc(pl:ar)(vs:ar):Int:=vs.foldl (fun n v=>max n (pl.getD v.toNat 0+1)) 0
def fT(h:List (Int×Int))(k:Nat):ar:=((List.range k).filter (fun p:Nat=>(dX h (p:Int)).getD 0==0)).map (fun p:Nat=>(p:Int))
def al(s:nK)(vs:ar):nK:=⟨s.pl,fT (hH s.pl vs) (uc s.pl vs).toNat,uc s.pl vs⟩
section
variable {pl vs : List Int} {j : Nat} {v : Int}
theorem Jr(h:vs[j]?=some v):hH pl (vs.take (j+1))=oI (hH pl (vs.take j)) (pl.getD v.toNat 0) ((dX (hH pl (vs.take j)) (pl.getD v.toNat 0)).getD 0+1):=by
 unfold hH;rw[cS h,jn];rfl
theorem MJ(h:vs[j]?=some v):uc pl (vs.take (j+1))=max (uc pl (vs.take j)) (pl.getD v.toNat 0+1):=by
 unfold uc;rw[cS h,jn];rfl
theorem RR(p:Int):0≤(dX (hH pl vs) p).getD 0∧(dX (hH pl vs) p).getD 0≤(vs.length:Int):=by
 have key:∀(vs:ar) (l:List (Int×Int)) (n:Nat),(∀p,0≤(dX l p).getD 0∧(dX l p).getD 0≤(n:Int))→∀p,0≤(dX (vs.foldl (fun l v=>oI l (pl.getD v.toNat 0) ((dX l (pl.getD v.toNat 0)).getD 0+1)) l) p).getD 0∧(dX (vs.foldl (fun l v=>oI l (pl.getD v.toNat 0) ((dX l (pl.getD v.toNat 0)).getD 0+1)) l) p).getD 0≤((n+vs.length:Nat):Int):=by
  intro vs;induction vs with
  |nil=>intro l n h p;simpa using h p
  |cons v vs ih=>
   intro l n h p;have h2:=ih (oI l (pl.getD v.toNat 0) ((dX l (pl.getD v.toNat 0)).getD 0+1)) (n+1) (fun q=> ?_) p
   ·rw[dp,show n+(vs.length+1)=n+1+vs.length by omega];exact h2
   ·rw[qh];have h3:=h (pl.getD v.toNat 0);have h4:=h q;split
    ·simp only[iL];omega
    ·omega
 have h:=key vs [] 0 (fun q=>by simp[dX]) p;rw[jb]at h;exact h
theorem Fx:0≤uc pl vs:=by
 have key:∀(vs:ar) (n:Int),0≤n→0≤vs.foldl (fun n v=>max n (pl.getD v.toNat 0+1)) n:=by
  intro vs;induction vs with
  |nil=>intro n h;exact h
  |cons v vs ih=>intro n h;exact ih _ (show 0≤max n (pl.getD v.toNat 0+1)by omega)
 exact key vs 0 oM
theorem Fy{K:Int}(hK:1≤K)(h:∀x,x∈pl→x<K):uc pl vs≤K:=by
 have h0:∀i:Nat,pl.getD i 0+1≤K:=by
  intro i;by_cases hi:i<pl.length
  ·have h1:pl.getD i 0=pl[i]:=by simp[List.getD,hi]
   have h2:=h pl[i] (mY hi);rw[h1];omega
  ·have:pl.getD i 0=0:=by simp[List.getD,List.getElem?_eq_none (Nat.le_of_not_lt hi)]
   omega
 have key:∀(vs:ar) (n:Int),n≤K→vs.foldl (fun n v=>max n (pl.getD v.toNat 0+1)) n≤K:=by
  intro vs;induction vs with
  |nil=>intro n h;exact h
  |cons v vs ih=>intro n h;exact ih _ (show max n (pl.getD v.toNat 0+1)≤K by have:=h0 v.toNat;omega)
 exact key vs 0 oM
theorem ud(h:List (Int×Int))(k:Nat):fT h (k+1)=if(dX h (k:Int)).getD 0=0 then fT h k++[(k:Int)]else fT h k:=by
 unfold fT;rw[j8,ig,dH];by_cases e:(dX h (k:Int)).getD 0=0
 ·rw[bx e];simp[e]
 ·rw[bk e];simp[e]
theorem wT(h:List (Int×Int))(k:Nat):(fT h k).length≤k:=by
 unfold fT;rw[gg];exact gd (ie _ _) sI
end
end Go.Mor
namespace Go.Mor
open Go.RowKit
theorem ML{f:Nat}{l:ar}{j:Nat}(hj:j<l.length):(En f l j).Perm l:=by
 induction f generalizing l j with
 |zero=>exact oc _
 |succ f ih=>
  unfold En;split
  ·exact oc _
  ·exact(ih (by rw[kf];omega)).trans (wN oM hj)
theorem MM{f:Nat}{l:ar}{i n:Nat}(hi:i<l.length)(hn:n≤l.length):(Dq f l i n).Perm l:=by
 induction f generalizing l i with
 |zero=>exact oc _
 |succ f ih=>
  unfold Dq;split
  ·exact oc _
  ·rename_i h;have h1:2*i+1<n:=Nat.lt_of_not_le (fun h2=>h (.inl h2));have h2:=VU (l:=l) h1;exact(ih (by rw[kf];omega) (by rw[kf];omega)).trans (wN hi oM)
theorem Fz(l:ar)(v:Int):(wM l v).Perm (l++[v]):=ML sI
theorem FA{l:ar}(h:0<l.length):(ly l).Perm l:=(MM (by rw[kf];exact h) (by rw[kf];omega)).trans (wN h oM)
theorem Js{l:ar}(h:0<l.length):(tB l++[pD l]).Perm l:=by
 have h1:=qf l;have e:tB l++[pD l]=ly l:=by
  unfold tB pD;have h2:l.length-1<(ly l).length:=oM;have h3:(ly l).getD (l.length-1) 0=(ly l)[l.length-1]:=by simp[List.getD,h2]
  rw[h3,←e8 h2];exact ez oM
 rw[e];exact FA h
structure GB(n:Nat)(s:nK)(K:Nat):Prop where
 len:s.pl.length=n
 V9:0≤s.nx
 Wa:s.nx≤(K:Int)
 MN:s.fr.length≤K
 RS:∀x,x∈s.pl→0≤x∧x<(K:Int)
 frs:∀x,x∈s.fr→0≤x∧x<(K:Int)
section
variable {n K : Nat} {s : nK}
theorem GB.mono(h:GB n s K){K':Nat}(hk:K≤K'):GB n s K':=⟨h.len,h.V9,by have:=h.Wa;omega,by have:=h.MN;omega,fun x hx=>by have:=h.RS x hx;omega,fun x hx=>by have:=h.frs x hx;omega⟩
theorem GB.FB(h:GB n s K)(v:Nat):GB n (fv s v) (K+1):=by
 unfold fv;split
 ·rename_i h0;have hp:=Js h0;have hm:∀x,x∈tB s.fr++[pD s.fr]→0≤x∧x<(K:Int):=fun x hx=>h.frs x (hp.mem_iff.1 hx)
  refine⟨by simp[h.len],h.V9,by have:=h.Wa;show s.nx≤_;omega,?_,fun x hx=> ?_,fun x hx=> ?_⟩
  ·show(tB s.fr).length≤_;rw[Ds];have:=h.MN;omega
  ·rcases ta hx with h1|h1
   ·have:=h.RS x h1;omega
   ·rw[h1];have:=hm (pD s.fr) sI;omega
  ·have:=hm x (ej _ hx);omega
 ·refine⟨by simp[h.len],by have:=h.V9;show 0≤s.nx+1;omega,by have:=h.Wa;show s.nx+1≤_;omega,by have:=h.MN;show s.fr.length≤_;omega,fun x hx=> ?_,fun x hx=>by have:=h.frs x hx;omega⟩;rcases ta hx with h1|h1
  ·have:=h.RS x h1;omega
  ·rw[h1];have:=h.V9;have:=h.Wa;omega
theorem GB.back(h:GB n s K){v:Nat}(hv:v<n):GB n (gq s v) (K+1):=by
 have Vy:v<s.pl.length:=by rw[h.len];exact hv
 have e:s.pl.getD v 0=s.pl[v]:=by simp[List.getD,Vy]
 refine⟨h.len,h.V9,by have:=h.Wa;show s.nx≤_;omega,?_,fun x hx=>by have:=h.RS x hx;omega,fun x hx=> ?_⟩
 ·show(wM s.fr _).length≤_;rw[zr];have:=h.MN;omega
 ·have h1:=(Fz s.fr (s.pl.getD v 0)).mem_iff.1 hx;rcases bN.1 h1 with h2|h2
  ·have:=h.frs x h2;omega
  ·rw[cn]at h2;rw[h2,e];have:=h.RS s.pl[v] (mY Vy);omega
theorem FC{h:List (Int×Int)}{k:Nat}{x:Int}(hx:x∈fT h k):0≤x∧x<(k:Int):=by
 unfold fT at hx;obtain⟨i,hi,rfl⟩:=bJ.1 hx;have:=cJ.1 (ed.1 hi).1;omega
theorem GB.begin(h:GB n s K)(hK:1≤K)(vs:ar):GB n (al s vs) K:=by
 have h0:=Fx (pl:=s.pl) (vs:=vs);have h1:=Fy (pl:=s.pl) (vs:=vs) (K:=(K:Int)) oM (fun x hx=>(h.RS x hx).2);refine⟨h.len,h0,h1,?_,h.RS,fun x hx=> ?_⟩
 ·have:=wT (hH s.pl vs) (uc s.pl vs).toNat;show(fT _ _).length≤_;omega
 ·have:=FC hx;omega
end
def aD(s:nK)(l:ar):nK:=l.foldl (fun s v=>fv s v.toNat) s
theorem ue{s:nK}{l:ar}{j:Nat}{v:Int}(h:l[j]?=some v):aD s (l.take (j+1))=fv (aD s (l.take j)) v.toNat:=by
 unfold aD;rw[cS h,jn];rfl
def uf(af:List (Int×Int))(s:nK)(v:Int):nK:=if(dX af v).isSome=true∧0≤(dX af v).getD 0 then s else gq s v.toNat
def aG(af:List (Int×Int))(s:nK)(l:ar):nK:=l.foldl (uf af) s
theorem mO{af:List (Int×Int)}{s:nK}{l:ar}{j:Nat}{v:Int}(h:l[j]?=some v):aG af s (l.take (j+1))=uf af (aG af s (l.take j)) v:=by
 unfold aG;rw[cS h,jn];rfl
def Wb(af:List (Int×Int))(i:Nat)(args:ar)(s:nK)(j:Nat):nK:=match args[j]? with
 |some v=>if(dX af v).getD 0=(i:Int)∧¬v∈args.take j then gq s v.toNat else s
 |none=>s
def bF(af:List (Int×Int))(i:Nat)(args:ar)(s:nK):Nat→nK
 |0=>s
 |j+1=>Wb af i args (bF af i args s j) j
def BH(af:List (Int×Int))(i:Nat)(s:nK)(d:Int):nK:=if 0≤d then(if(dX af d).getD 0≤(i:Int)then gq (fv s d.toNat) d.toNat else fv s d.toNat)else s
def bC(af:List (Int×Int))(is:List cV)(s:nK):Nat→nK
 |0=>s
 |j+1=>match is[j]? with
  |some p=>BH af j (bF af j p.args (bC af is s j) p.args.length) p.dst
  |none=>bC af is s j
theorem iW{af:List (Int×Int)}{i:Nat}{args:ar}{s:nK}{j:Nat}{v:Int}(h:args[j]?=some v):bF af i args s (j+1)=if(dX af v).getD 0=(i:Int)∧¬v∈args.take j then gq (bF af i args s j) v.toNat else bF af i args s j:=by
 show Wb af i args (bF af i args s j) j=_;unfold Wb;rw[h]
theorem jH{af:List (Int×Int)}{is:List cV}{s:nK}{j:Nat}{p:cV}(h:is[j]?=some p):bC af is s (j+1)=BH af j (bF af j p.args (bC af is s j) p.args.length) p.dst:=by
 show(match is[j]? with|some p=>_|none=>_)=_;rw[h]
def ai(pa k:Nat)(x:aI):ar:=(if k=0 then(List.range pa).map (fun i:Nat=>(i:Int))else[])++x.aE.map (·.dst)
def kH(af:List (Int×Int))(ins:ar)(pa k:Nat)(x:aI)(s:nK):nK:=bC af x.insts (aG af (aD (al s ins) (ai pa k x)) (ai pa k x)) x.insts.length
def lF(is:List cV):Nat:=(is.map (fun p=>p.args.length+2)).foldl (·+·) 0
theorem rb{is:List cV}{j:Nat}{p:cV}(h:is[j]?=some p):lF (is.take (j+1))=lF (is.take j)+(p.args.length+2):=by
 unfold lF;rw[cS h,dH,jn];rfl
theorem MO{is:List cV}:∀{j:Nat},lF (is.take j)≤lF is:=by
 intro j;unfold lF;have key:∀(l:List Nat) (a:Nat),a≤l.foldl (·+·) a:=by
  intro l;induction l with
  |nil=>intro a;exact cH _
  |cons b l ih=>intro a;exact gd (Nat.le_add_right a b) (ih (a+b))
 conv=>rhs;rw[←AZ j is,dH,jn]
 exact key _ _
def qE(pa k:Nat)(x:aI):Nat:=2*(ai pa k x).length+lF x.insts
end Go.Mor
namespace Go.Mor
open Go.RowKit
theorem DB{n pn k:Nat}{x:aI}(hp:pn≤n)(hv:VR n x):∀v,v∈ai pn k x→0≤v∧v<(n:Int):=by
 intro v h;unfold ai at h;rcases bN.1 h with h|h
 ·split at h
  ·obtain⟨i,hi,rfl⟩:=bJ.1 h;have:=cJ.1 hi;omega
  ·cases h
 ·obtain⟨p,mC,rfl⟩:=bJ.1 h;exact hv.aE p mC
theorem su{n:Nat}{S:Int→Bool}:∀v,v∈ag n S→0≤v∧v<(n:Int):=by
 intro v h;unfold ag at h;obtain⟨i,hi,rfl⟩:=bJ.1 h;have:=cJ.1 (ed.1 hi).1;omega
theorem wU{l:List fI}{q:Nat}{p:fI}(h:l[q]?=some p)(M:ar):M++(l.take (q+1)).map (·.dst)=(M++(l.take q).map (·.dst))++[p.dst]:=by
 rw[cS h,dH,dy];rfl
theorem ug(u:Nat):(List.range (u+1)).map (fun i:Nat=>(i:Int))=(List.range u).map (fun i:Nat=>(i:Int))++[(u:Int)]:=by
 rw[j8,dH];rfl
theorem Jt{pn k:Nat}{x:aI}:(ai pn k x).length≤pn+x.aE.length:=by
 unfold ai;rw[eE,gg];split<;>simp
theorem MP{w:World}{A:aA}{l:bp}{n:Nat}(h:(aL.rd A l).holds w):(aL.rd A (l.take n)).holds w:=by
 intro i v hi;refine h i v ?_;simp only[List.getElem?_take]at hi;split at hi
 ·exact hi
 ·cases hi
end Go.Mor
namespace Go.Mor
open Go.RowKit
theorem MQ{l m:List Nat}(h:l.Perm m):l.sum=m.sum:=by
 induction h with
 |nil=>rfl
 |cons x _ ih=>simp[ih]
 |swap x y l=>simp;omega
 |trans _ _ h1 h2=>rw[h1,h2]
theorem om(f:Nat→Nat):∀(m:Nat) (l:List Nat),l.Nodup→(∀x,x∈l→x<m)→(l.map f).sum≤((List.range m).map f).sum
 |0,l,_,hx=>by
  cases l with
  |nil=>simp
  |cons a l=>exact absurd (hx a (dV ..)) (dz _)
 |m+1,l,hn,hx=>by
  rw[j8,dH,sj];by_cases h:m∈l
  ·have hp:=List.perm_cons_erase h;have h1:=om f m (l.erase m) (hn.erase m) (fun x YY=>by
    have h2:=hx x (List.mem_of_mem_erase YY);have h3:x≠m:=fun e=>by subst e;exact(hn.not_mem_erase) YY
    omega)
   have h2:=MQ (hp.map f);rw[h2,jr,List.sum_cons];simp;omega
  ·have h1:=om f m l hn (fun x Vx=>by
    have h2:=hx x Vx;have h3:x≠m:=fun e=>by subst e;exact h Vx
    omega)
   simp;omega
noncomputable def liI(fs:List aI):Int→Int→Bool:=fun b v=> @decide (LV fs true b v) (Classical.propDecidable _)
noncomputable def MR(fs:List aI):Int→Int→Bool:=fun b v=> @decide (LV fs false b v) (Classical.propDecidable _)
section
variable {n : Nat} {fs : List aI} {SI SO : Int → Int → Bool}
theorem mM.TD(h:mM n fs SI SO){b:Nat}(hb:b<fs.length):ag n (SI (b:Int))=ag n (liI fs (b:Int)):=jP (fun i hi=>by
  have h1:=(h b hb (i:Int) oM oM).1;rw[fE,h1];exact(@decide_eq_true_iff _ (Classical.propDecidable _)).symm)
theorem mM.MS(h:mM n fs SI SO){b:Nat}(hb:b<fs.length):ag n (SO (b:Int))=ag n (MR fs (b:Int)):=jP (fun i hi=>by
  have h1:=(h b hb (i:Int) oM oM).2;rw[fE,h1];exact(@decide_eq_true_iff _ (Classical.propDecidable _)).symm)
theorem FD{l:List (Int×Int)}{x:aI}{S T:Int→Bool}(h:ag n S=ag n T):BF l x n S=BF l x n T:=by
 unfold BF;rw[h]
theorem uh{x:aI}{S T:Int→Bool}(h:ag n S=ag n T):aj x n S=aj x n T:=FD h
end
noncomputable def stepG(n pn:Nat)(fs:List aI)(s:nK)(b:Int):nK:=match fs[b.toNat]? with
 |some x=>kH (aj x n (MR fs b)) (if 0<b.toNat then ag n (liI fs b)else[]) pn b.toNat x s
 |none=>s
noncomputable def bA(n pn:Nat)(fs:List aI):nK:=(au (ae fs)).foldl (stepG n pn fs) ⟨List.replicate n 0,[],0⟩
noncomputable def bQ(n pn:Nat)(fs:List aI)(j:Nat):nK:=((au (ae fs)).take j).foldl (stepG n pn fs) ⟨List.replicate n 0,[],0⟩
theorem sv{n pn:Nat}{fs:List aI}{j:Nat}{b:Nat}{x:aI}(h:(au (ae fs))[j]?=some (b:Int))(hx:fs[b]?=some x):bQ n pn fs (j+1)=kH (aj x n (MR fs (b:Int))) (if 0<b then ag n (liI fs (b:Int))else[]) pn b x (bQ n pn fs j):=by
 unfold bQ;rw[cS h,jn];show stepG n pn fs _ (b:Int)=_;unfold stepG;rw[br,hx]
def fG(k:Int)(pl:ar):List (Int×Int):=pl.foldl (fun l p=>if k≤p then oI l p ((dX l p).getD 0+1)else l) []
theorem FE{k:Int}{pl:ar}{j:Nat}{p:Int}(h:pl[j]?=some p)(hk:k≤p):fG k (pl.take (j+1))=oI (fG k (pl.take j)) p ((dX (fG k (pl.take j)) p).getD 0+1):=by
 unfold fG;rw[cS h,jn];show(if k≤p then _ else _)=_;rw[bx hk]
theorem Ju{k:Int}{pl:ar}{j:Nat}{p:Int}(h:pl[j]?=some p)(hk:¬k≤p):fG k (pl.take (j+1))=fG k (pl.take j):=by
 unfold fG;rw[cS h,jn];show(if k≤p then _ else _)=_;rw[bk hk]
theorem Jv{k:Int}{pl:ar}(p:Int):0≤(dX (fG k pl) p).getD 0∧(dX (fG k pl) p).getD 0≤(pl.length:Int):=by
 have key:∀(pl:ar) (l:List (Int×Int)) (n:Nat),(∀q,0≤(dX l q).getD 0∧(dX l q).getD 0≤(n:Int))→∀q,0≤(dX (pl.foldl (fun l p=>if k≤p then oI l p ((dX l p).getD 0+1)else l) l) q).getD 0∧(dX (pl.foldl (fun l p=>if k≤p then oI l p ((dX l p).getD 0+1)else l) l) q).getD 0≤((n+pl.length:Nat):Int):=by
  intro pl;induction pl with
  |nil=>intro l n h q;simpa using h q
  |cons v pl ih=>
   intro l n h q;rw[dp,show n+(pl.length+1)=n+1+pl.length by omega];refine ih _ (n+1) (fun r=> ?_) q;show 0≤(dX (if k≤v then oI l v ((dX l v).getD 0+1)else l) r).getD 0∧(dX (if k≤v then oI l v ((dX l v).getD 0+1)else l) r).getD 0≤((n+1:Nat):Int);have h3:=h v;have h4:=h r;split
   ·rw[qh];split
    ·simp only[iL];omega
    ·omega
   ·omega
 have h:=key pl [] 0 (fun q=>by simp[dX]) p;rw[jb]at h;exact h
noncomputable def ln(nm:eV)(pa va:Int)(fs:List aI)(k:Int):ar×Int×Int:=if dE nm pa va fs≠0 then([],0,dE nm pa va fs)else if k<1∨16<k then([],0,1)else((bA va.toNat pa.toNat fs).pl,((fG k (bA va.toNat pa.toNat fs).pl).length:Int),0)
section
variable {nm : ByteArray} {pa va k : Int} {fs : List aI}
theorem wV(h:dE nm pa va fs≠0):ln nm pa va fs k=([],0,dE nm pa va fs):=by unfold ln;rw[bx h]
theorem wW(h:dE nm pa va fs=0)(hk:k<1∨16<k):ln nm pa va fs k=([],0,1):=by unfold ln;rw[bk (by simp[h]),bx hk]
theorem tD(h:dE nm pa va fs=0)(hk:¬(k<1∨16<k)):ln nm pa va fs k=((bA va.toNat pa.toNat fs).pl,((fG k (bA va.toNat pa.toNat fs).pl).length:Int),0):=by
 unfold ln;rw[bk (by simp[h]),bk hk]
end
def ui(pn:Nat)(fs:List aI)(i:Nat):Nat:=match fs[i]? with
 |some x=>qE pn i x
 |none=>0
def sw(pn:Nat)(fs:List aI)(j:Nat):Nat:=(((au (ae fs)).take j).map (fun b=>ui pn fs b.toNat)).sum
theorem wX{pn:Nat}{fs:List aI}{j b:Nat}{x:aI}(h:(au (ae fs))[j]?=some (b:Int))(hx:fs[b]?=some x):sw pn fs (j+1)=sw pn fs j+qE pn b x:=by
 unfold sw;rw[cS h,dH,sj];simp[ui,hx]
theorem FF{i:cV}(h:bU i):i.args.length≤17:=by
 obtain⟨_,h⟩:=h;rcases h with h|h|h|h|h|h|h|h|h|h|h<;>omega
theorem DC{is:List cV}(h:∀p,p∈is→p.args.length≤17):lF is≤19*is.length:=by
 have key:∀(j:Nat),j≤is.length→lF (is.take j)≤19*j:=by
  intro j;induction j with
  |zero=>intro _;simp[lF]
  |succ j ih=>
   intro hj;obtain⟨p,hp⟩:=ba (l:=is) (i:=j) oM;have h1:=rb hp;have h2:=h p (bh hp);have h3:=ih oM;omega
 have:=key is.length (cH _);rwa [eF]at this
theorem DD{pn:Nat}{fs:List aI}(hs:∀x,x∈fs→∀p,p∈x.insts→bU p){i:Nat}{x:aI}(hx:fs[i]?=some x):ui pn fs i≤(if i=0 then 2*pn else 0)+19*(x.aE.length+x.insts.length):=by
 unfold ui;rw[hx];show qE pn i x≤_;have h1:=DC (is:=x.insts) (fun p hp=>FF (hs x (bh hx) p hp));have h2:(ai pn i x).length=(if i=0 then pn else 0)+x.aE.length:=by unfold ai;rw[eE,gg];split<;>simp
 unfold qE;rw[h2];split<;>omega
theorem DE{pn:Nat}{fs:List aI}(hs:∀x,x∈fs→∀p,p∈x.insts→bU p):((List.range fs.length).map (ui pn fs)).sum≤2*pn+19*eb fs:=by
 have key:∀m,m≤fs.length→((List.range m).map (ui pn fs)).sum≤(if m=0 then 0 else 2*pn)+19*gS fs m:=by
  intro m;induction m with
  |zero=>intro _;simp
  |succ m ih=>
   intro hm;obtain⟨x,hx⟩:=ba (l:=fs) (i:=m) oM;rw[j8,dH,sj,gP hx];have h1:=ih oM;have h2:=DD (pn:=pn) hs hx;simp only[jr,ia,List.sum_cons,List.sum_nil,Nat.add_zero];rw[bk (Nat.succ_ne_zero m)];by_cases h0:m=0
   ·subst h0;simp at h1 h2⊢;omega
   ·rw[bk h0]at h1 h2;omega
 have h:=key fs.length (cH _);unfold eb;split at h<;>omega
theorem DF(bs:List SB):((au bs).map Int.toNat).Nodup:=by
 unfold List.Nodup;rw[mR];intro i j hi hj hij e;simp only[gg]at hi hj;simp only[List.getElem_map]at e;obtain⟨b1,h1,_,p1⟩:=mI hi;obtain⟨b2,h2,_,p2⟩:=mI hj;rw[List.getElem?_eq_getElem hi]at h1;rw[List.getElem?_eq_getElem hj]at h2;injection h1 with h1;injection h2 with h2;rw[h1,h2]at e;have e2:b1=b2:=by simpa using e
 rw[e2]at p1;omega
theorem uj{pn:Nat}{fs:List aI}(hs:∀x,x∈fs→∀p,p∈x.insts→bU p){j:Nat}:sw pn fs j≤2*pn+19*eb fs:=by
 refine gd ?_ (DE hs);unfold sw;have e:((au (ae fs)).take j).map (fun b=>ui pn fs b.toNat)=(((au (ae fs)).take j).map Int.toNat).map (ui pn fs):=by rw[List.map_map];rfl
 rw[e];refine om _ _ _ ?_ ?_
 ·rw[Az];exact(DF _).sublist (r6 _ _)
 ·intro x hx;obtain⟨y,hy,rfl⟩:=bJ.1 hx;obtain⟨i,hi⟩:=ff.1 (u0 hy);obtain⟨b,h1,h2,_⟩:=mI (List.getElem?_eq_some_iff.1 hi).1;rw[hi]at h1;injection h1 with h1;rw[h1,br];rwa [bS]at h2
theorem uk{n pn:Nat}{fs:List aI}{j:Nat}(h:(au (ae fs)).length≤j):bQ n pn fs j=bA n pn fs:=by
 unfold bQ bA;rw[ez h]
theorem RT{l:List (Int×Int)}:(bP vI (vM l)).length=l.length:=by simp[bP,vM]
section
variable {n pn K k : Nat} {s : nK} {x : aI} {af : List (Int × Int)}
theorem GB.Qaq(h:GB n s K)(l:ar):GB n (aD s l) (K+l.length):=by
 unfold aD;induction l generalizing s K with
 |nil=>exact h
 |cons v l ih=>
  have:=ih (h.FB v.toNat);rw[dp,show K+(l.length+1)=K+1+l.length by omega];exact this
theorem GB.Qar(h:GB n s K)(l:ar)(hl:∀v,v∈l→0≤v∧v<(n:Int)):GB n (aG af s l) (K+l.length):=by
 unfold aG;induction l generalizing s K with
 |nil=>exact h
 |cons v l ih=>
  have h1:GB n (uf af s v) (K+1):=by
   unfold uf;split
   ·exact h.mono oM
   ·have:=hl v (dV ..);exact h.back oM
  have:=ih h1 (fun u hu=>hl u (cf _ hu));rw[dp,show K+(l.length+1)=K+1+l.length by omega];exact this
theorem GB.args(h:GB n s K){i:Nat}{args:ar}(hl:∀v,v∈args→0≤v∧v<(n:Int)):∀j,j≤args.length→GB n (bF af i args s j) (K+j)
 |0,_=>h
 |j+1,hj=>by
  obtain⟨v,hv⟩:=ba (l:=args) (i:=j) oM;have ih:=GB.args (i:=i) h hl j oM;rw[iW hv];split
  ·have:=hl v (bh hv);exact ih.back oM
  ·exact ih.mono oM
theorem GB.ins(h:GB n s K){is:List cV}(hl:∀p,p∈is→p.dst<(n:Int)∧∀v,v∈p.args→0≤v∧v<(n:Int)):∀j,j≤is.length→GB n (bC af is s j) (K+lF (is.take j))
 |0,_=>h.mono oM
 |j+1,hj=>by
  obtain⟨p,hp⟩:=ba (l:=is) (i:=j) oM;have ih:=GB.ins h hl j oM;obtain⟨h1,h2⟩:=hl p (bh hp);have h3:=GB.args (af:=af) (i:=j) ih h2 p.args.length (cH _);rw[jH hp,rb hp];unfold BH;split
  ·split
   ·exact((h3.FB p.dst.toNat).back oM).mono oM
   ·exact(h3.FB p.dst.toNat).mono oM
  ·exact h3.mono oM
theorem GB.block(h:GB n s K)(hK:1≤K)(hv:VR n x)(hp:pn≤n)(af:List (Int×Int))(ins:ar):GB n (kH af ins pn k x s) (K+qE pn k x):=by
 have h1:=(((h.begin hK ins).Qaq (ai pn k x)).Qar (af:=af) (ai pn k x) (DB hp hv));have h2:=GB.ins (af:=af) h1 (is:=x.insts) (fun p hp=>⟨(hv.insts p hp).2.1,(hv.insts p hp).2.2⟩) x.insts.length (cH _);rw[eF]at h2;exact h2.mono (by unfold qE;omega)
end
theorem Jw{fs:List aI}{k:Nat}{x:aI}(h:fs[k]?=some x):x.aE.length≤eb fs:=by
 have hk:=(List.getElem?_eq_some_iff.1 h).1;have key:∀n,k<n→n≤fs.length→x.aE.length≤gS fs n:=by
  intro n;induction n with
  |zero=>intro h;omega
  |succ n ih=>
   intro h1 h2;obtain⟨y,hy⟩:=ba (l:=fs) (i:=n) oM;rw[gP hy];by_cases e:k=n
   ·subst e;rw[h]at hy;injection hy with hy;subst hy;omega
   ·have:=ih oM oM;omega
 have:=key fs.length hk (cH _);unfold eb;omega
end Go.Mor
namespace Go.Mor
open Go.RowKit
theorem sx{n pn:Nat}{fs:List aI}{SI SO:Int→Int→Bool}(h:mM n fs SI SO)(k:Nat):df n pn fs SO k=df n pn fs (MR fs) k:=Dp (fun b hb i hi=>by
  rw[fE];unfold MR;rw[@decide_eq_true_iff _ (Classical.propDecidable _)];exact(h b hb (i:Int) oM oM).2)
noncomputable def mg(nm:eV)(pa va:Int)(fs:List aI)(pl:ar):Bool:=if dE nm pa va fs≠0∨(pl.length:Int)≠va then false else if¬(∀x,x∈pl→0≤x)then false else(df va.toNat pa.toNat fs (MR fs) fs.length).all (eg pl)
section
variable {nm : ByteArray} {pa va : Int} {fs : List aI} {pl : List Int}
theorem wY(h:dE nm pa va fs≠0∨(pl.length:Int)≠va):mg nm pa va fs pl=false:=by unfold mg;rw[bx h]
theorem wZ(h:¬(dE nm pa va fs≠0∨(pl.length:Int)≠va)){x:Int}(hx:x∈pl)(h0:x<0):mg nm pa va fs pl=false:=by
 unfold mg;rw[bk h,bx (fun h2=>by have:=h2 x hx;omega)]
theorem nD(h:¬(dE nm pa va fs≠0∨(pl.length:Int)≠va))(h2:∀x,x∈pl→0≤x):mg nm pa va fs pl=(df va.toNat pa.toNat fs (MR fs) fs.length).all (eg pl):=by
 unfold mg;rw[bk h,bk (fun h3=>h3 h2)]
end
end Go.Mor
namespace Go.Mor
open Go.RowKit
theorem bK.take{n:Nat}{l:List Bool}{S:Int→Bool}(h:bK n l S){i:Nat}:bK n (l.set i false) (kD S (i:Int)):=by
 refine⟨by simp[h.1],fun j hj=> ?_⟩;unfold kD;by_cases e:i=j
 ·subst e;have:i<l.length:=by rw[h.1];exact hj
  simp[List.getD,this]
 ·have e2:((j:Int)==(i:Int))=false:=by rw[u2];omega
  rw[←h.2 j hj,e2];simp[List.getD,List.getElem?_set_ne e]
def yh(n:Nat)(l:List cV)(E:Int→Bool)(j:Nat):List ar:=List.replicate j []++nJ n (l.drop j) E
section
variable {n j : Nat} {l : List cV} {E : Int → Bool}
theorem FG:yh n l E l.length=List.replicate l.length []:=by
 unfold yh;rw[u5];simp[nJ]
theorem MT:(yh n l E (j+1))[j]?=some []:=by
 unfold yh;rw[List.getElem?_append_left sI];simp
theorem Jx{p:cV}(h:l[j]?=some p):yh n l E j=(yh n l E (j+1)).set j (ag n (fm (bH (l.drop (j+1)) E) p.dst)):=by
 unfold yh;rw[Dl h,List.replicate_succ',dy,rY _ _ sI];simp
theorem Jy:yh n l E 0=nJ n l E:=by
 unfold yh;simp
end
theorem dx.cat{α:Type}{enc:α→Value}{r1 r2:List dg}{l1 l2:List (List α)}(h1:dx enc r1 l1)(h2:dx enc r2 l2):dx enc (r1++r2) (l1++l2):=by
 unfold dx at*;rw[dH,dH,h1,h2]
theorem FH{n pn k:Nat}{fs:List aI}{SI SO:Int→Int→Bool}{x:aI}(h:mM n fs SI SO)(hx:fs[k]?=some x){F:Int→Bool}(hF:F=if k=0 then Em pn (q9 x.aE (SI (k:Int)))else q9 x.aE (SI (k:Int))):ag n F=ag n (cY pn k x (SO (k:Int))):=by
 have hk:=(List.getElem?_eq_some_iff.1 hx).1;refine jP (fun i hi=> ?_);have key:q9 x.aE (SI (k:Int)) (i:Int)=q9 x.aE (bH x.insts (bV x (SO (k:Int)))) (i:Int):=by
  rw[fE,vb,vb];obtain⟨h1,h2⟩:=h k hk (i:Int) oM oM;have h3:SI (k:Int) (i:Int)=true↔l7 x (SO (k:Int)) (i:Int)=true:=by
   rw[h1,jO oM,h2];constructor
   ·intro hl;generalize hq:true=q at hl;generalize hb:(k:Int)=b at hl;generalize hv:(i:Int)=v at hl;cases hl with
    | @use b' y' v' hy hu=>
     have P7:b'=k:=oM;rw[P7]at hy;rw[hx]at hy;injection hy with hy;subst hy;exact .inl hu
    | @Fc b' y' v' hy hl hm=>
     have P7:b'=k:=oM;rw[P7]at hy;rw[hx]at hy;injection hy with hy;subst hy;exact .inr ⟨hl,hm⟩
    |uW _=>cases hq
    |I5 _ _=>cases hq
   ·rintro(hu|⟨hl,hm⟩)
    ·exact .use hx hu
    ·exact .Fc hx hl hm
  rw[h3];unfold l7;rw[Dh];constructor
  ·rintro(⟨a,_⟩|a)
   ·exact .inl a
   ·exact .inr a
  ·rintro(a|a)
   ·by_cases e:∃p,p∈x.aE∧p.dst=(i:Int)
    ·exact .inr e
    ·exact .inl ⟨a,fun p hp he=>e ⟨p,hp,he⟩⟩
   ·exact .inr a
 rw[hF];unfold cY;split
 ·unfold Em;rw[key]
 ·exact key
theorem Hq{n pn k:Nat}{fs:List aI}{SO:Int→Int→Bool}(hk:k≤fs.length):(df n pn fs SO k).length≤eb fs:=by
 have h1:∀k,k≤fs.length→(df n pn fs SO k).length≤k+gS fs k:=by
  intro k;induction k with
  |zero=>intro _;simp[Fl]
  |succ k ih=>
   intro hk;obtain⟨x,hx⟩:=ba (l:=fs) (i:=k) oM;have:=ih oM;rw[ma hx,gP hx,eE,tA,dp,Br];omega
 have h2:gS fs k≤gS fs fs.length:=by
  have:∀d,k+d≤fs.length→gS fs k≤gS fs (k+d):=by
   intro d;induction d with
   |zero=>intro _;exact cH _
   |succ d ih=>
    intro h;obtain⟨x,hx⟩:=ba (l:=fs) (i:=k+d) oM;rw[←mS,gP hx];have:=ih oM;omega
  have:=this (fs.length-k) oM;rwa [Nat.add_sub_cancel' hk]at this
 have:=h1 k hk;unfold eb;omega
theorem DG{n pn k:Nat}{fs:List aI}{SO:Int→Int→Bool}{x:aI}(hx:fs[k]?=some x):(df n pn fs SO k).length+1+x.insts.length=(df n pn fs SO (k+1)).length:=by
 rw[ma hx,eE,tA,dp,Br];omega
end Go.Mor
namespace Go.Mor
open Go.RowKit
def Kz(pl y:ar)(u:Nat):Int:=pl.getD (y.getD u 0).toNat 0
section
variable {n pn : Nat} {fs : List aI} {SO : Int → Int → Bool} {pl y : List Int}
theorem Wc{l:List cV}{E:Int→Bool}:∀y,y∈nJ n l E→∀v,v∈y→0≤v∧v<(n:Int):=by
 induction l with
 |nil=>intro y hy;cases hy
 |cons p l ih=>
  intro y hy;unfold nJ at hy;rcases cW.1 hy with rfl|hy
  ·exact su
  ·exact ih y hy
theorem Wd{k:Nat}(h:y∈df n pn fs SO k):∀v,v∈y→0≤v∧v<(n:Int):=by
 unfold df at h;obtain⟨j,_,hj⟩:=j9.1 h;unfold Fk at hj;split at hj
 ·unfold tA at hj;rcases cW.1 hj with rfl|hj
  ·exact su
  ·exact Wc y hj
 ·cases hj
theorem BI{u:Nat}(hu:u<y.length):(y.map (fun v=>pl.getD v.toNat 0))[u]'(by simpa using hu)=Kz pl y u:=by
 unfold Kz;simp[List.getD,hu]
theorem We{u v:Nat}(huv:u<v)(hv:v<y.length)(e:Kz pl y v=Kz pl y u):eg pl y=false:=by
 unfold eg;refine fZ (fun h=> ?_);unfold List.Nodup at h;have h2:=mR.1 h u v (by simp;omega) (by simp;omega) huv;rw[BI oM,BI hv]at h2;exact h2 e.symm
theorem RU(h:∀v,v<y.length→∀u,u<v→Kz pl y v≠Kz pl y u):eg pl y=true:=by
 unfold eg;refine fX ?_;unfold List.Nodup;rw[mR];intro u v hu hv huv e;simp only[gg]at hu hv;rw[BI hu,BI hv]at e;exact h v hv u huv e.symm
theorem Wf{l:List ar}(h:y∈l)(e:eg pl y=false):l.all (eg pl)=false:=by
 rw[List.all_eq_false];exact⟨y,h,by rw[e];exact uX⟩
theorem MU{u v:Nat}{x:Int}(h1:y[u]?=some (v:Int))(h2:pl[v]?=some x):Kz pl y u=x:=by
 unfold Kz;simp[List.getD,h1,h2]
theorem Qas{k:Nat}(h:y∈df n pn fs SO k):y.length≤n:=by
 have key:∀(l:List cV) (E:Int→Bool) (y:ar),y∈nJ n l E→y.length≤n:=by
  intro l;induction l with
  |nil=>intro E y hy;cases hy
  |cons p l ih=>
   intro E y hy;unfold nJ at hy;rcases cW.1 hy with rfl|hy
   ·exact nA
   ·exact ih E y hy
 unfold df at h;obtain⟨j,_,hj⟩:=j9.1 h;unfold Fk at hj;split at hj
 ·unfold tA at hj;rcases cW.1 hj with rfl|hj
  ·exact nA
  ·exact key _ _ y hj
 ·cases hj
end
end Go.Mor
namespace Go.Proofs.YthgbejihcchcnaaDoor
open Go.Mor
theorem MV(g:Nat)(PA:aA)(pc:Nat)(A:aA)(c:Nat)(s:nK)(q:Nat)(w:World)(hG:(aL.pk (ga g PA pc A c s)).holds w)(gl:s.pl.length≤100000)(YR:s.fr.length≤100000)(hq:q<s.pl.length)(hnx:0≤s.nx∧s.nx≤1000000):Calls Tryd.prog 68 #[pT g 0,nV q] w (eU fun v w'=>∃A' c',v= .tuple #[]∧Mem (aL.pk (ga g PA pc A c s)).fp w w' (ga g PA pc A' c' (fv s q))):=by
 refine fK 39 [pT g 0,nV q] Tryd.func68 ?_;have hM:=Mem.ye hG;refine bb<|aK<|ah 3<|bl (aq g 1) _ (aa (hM.get 0 rfl) rfl)<|ah 2<|ax<|fJ ((s.fr.length:Int)>0) (fun c1=> ?_) (fun c1=> ?_);refine bb ?_;obtain⟨g2,rfl⟩:=bB (hM.get 2 rfl) oM;refine eu [0,1] ?_;intro aC fr;refine xN (bI [eR g 0,eR g 0,eR g 0,eS (sM g2) s.pl.length pc,.aQ (nV q),eR g 0,eR g 0,eR g 1,.aQ (.iface 126 (pT g 1)),Spec.free,eI (pD s.fr),eA (aZ g2) (q:Int) 1,.aQ undef]) (fun ls vs w_=>match ls 12 with|true=>(vs 9=(.iface 3 (vI (pD s.fr)))∧Mem (aL.pk (ga g (sM g2) pc A c s)).fp w w_ [.ak g 70 [vS (sM g2) s.pl.length pc,vS A (s.fr.length-1) c,vI s.nx],.row 3 1 A (s.fr.length-1) c (ints (tB s.fr)),.row 3 1 (sM g2) s.pl.length pc ((ints s.pl).set (((q:Int)).toNat*1) (vI (pD s.fr)))])|false=>(match ls 9 with|true=>(vs 9=(.iface 3 (vI (pD s.fr)))∧Mem (aL.pk (ga g (sM g2) pc A c s)).fp w w_ [.ak g 70 [vS (sM g2) s.pl.length pc,vS A (s.fr.length-1) c,vI s.nx],.row 3 1 A (s.fr.length-1) c (ints (tB s.fr)),.row 3 1 (sM g2) s.pl.length pc (ints s.pl)])|false=>(Mem (aL.pk (ga g (sM g2) pc A c s)).fp w w_ [.ak g 70 [vS (sM g2) s.pl.length pc,vS A s.fr.length c,vI s.nx],.row 3 1 A s.fr.length c (ints s.fr),.row 3 1 (sM g2) s.pl.length pc (ints s.pl)]))) fr (dW (.aQ (.aQ (.aQ (.aQ (.aQ (.aQ (.aQ (.aQ (.aQ (.free (.aQ (.aQ (.aQ .nil)))))))))))))) (hM.ay (Mem.drew _)) (la (gM lz (eW fun _ _ _ _ h=>h) (eW fun _ _ _ _ h=>h) (eW fun _ _ _ _ h=>h) (nj (aZ g) (vS (sM g2) s.pl.length pc) (fun _ _ _ _ h=>h) ?_) (eW fun _ _ _ _ h=>h) (eW fun _ _ _ _ h=>h) (eW fun _ _ _ _ h=>h) (eW fun _ _ _ _ h=>h) (eW fun _ _ _ _ h=>h) ?_ ?_ (oC (aZ g2) s.pl.length 1 (q:Int) fun _ _ _ _ h=>h)) ?_) ?_;intro w_ ls vs hJ bD bE hp;have f12:ls 12=false:=aH bE bD (n:=13) kR;have aO:=hJ;simp only[f12]at aO;cases fu:ls 9;simp only[fu]at aO;exact(aa (aO.get 0 rfl) rfl);simp only[fu]at aO;obtain⟨_,aO⟩:=aO;exact(aa (aO.get 0 rfl) rfl);intro dt w_ ls vs bT hJ bD bE hp hF;refine hZ (g0:=none) ?_;replace hF:Fr dt 39 [(18,.iface 126 (pT g 1))]:=hF.kp [18];have f9:ls 9=false:=bD;have f12:ls 12=false:=aH bE bD (n:=13) kR;have aO:=hJ;simp only[f9,f12]at aO;refine dY (kR:ao _ 0=some (some 19,(.call {callee:=(.value (.func 86)),args:=#[.tmp 18],argTypes:=#[137]}),20,none)) hF kR kR (k':=1) rfl (f:=86) (vs:=[.iface 126 (pT g 1)]) (cap:=[]) kR kR kR (Qan g (vS (sM g2) s.pl.length pc) (vI s.nx) s.fr A c w_ oM oM (aO.get 0 rfl) (aO.get 1 rfl) (aO.Ev (i:=0) (j:=1) rfl rfl dQ)) ?_;rintro _ w2 ⟨rfl,eD⟩ a2 ea _;have yi:=aO.Vp eD;refine aF kR ?_;refine aP (d:=some 19) kR ea trivial ?_;show match ls 12 with|true=>_|false=>(_)
 rw[f12];exact⟨rfl,yi⟩;intro dt w_ ls vs bT hJ bD bE hp hF;refine hZ (g0:=none) ?_;replace hF:Fr dt 39 [(19,vs 9)]:=hF.kp [19];have f9:ls 9=true:=bd bE (fun k hk=>(hp k hk).1) (n:=13) kR;have f12:ls 12=false:=aH bE bD (n:=13) kR;have aO:=hJ;simp only[f9,f12]at aO;obtain⟨Jz,aO⟩:=aO;try rw[Jz]at hF
 refine Hg (kR:ao _ 0=some (some 20,.typeAssert (.tmp 19) 20 3 false,3,none)) hF kR kR (k':=1) rfl (X:=(.iface 3 (vI (pD s.fr)))) (v:=(vI (pD s.fr))) kR kR ?_;intro a2 ea _;refine aF kR ?_;exact aP (d:=some 20) kR ea rfl hJ;intro dt w_ ls vs bT hJ bD bE hp hF;refine hZ (g0:=none) ?_;replace hF:Fr dt 39 [(20,vI (pD s.fr)),(21,(vP (aN (aZ g2) (q:Int) 1)))]:=hF.kp [20,21];have f9:ls 9=true:=bd bE (fun k hk=>(hp k hk).1) (n:=13) kR;have f12:ls 12=false:=bD;have aO:=hJ;simp only[f9,f12]at aO;obtain⟨Jz,aO⟩:=aO;try rw[Jz]at hF
 refine cD (kR:ao _ 0=some (none,.store 3 (.tmp 21) (.tmp 20),0,none)) hF kR kR (k':=1) rfl (ad:=(aZ g2)) (j:=(((q:Int)).toNat*1)) (e:=3) (size:=1) (n:=s.pl.length) (cap:=pc) (v:=(vI (pD s.fr))) (xs:=(ints s.pl)) (ad':=(aN (aZ g2) (q:Int) 1)) kR rfl kR kR rfl aO 2 rfl oM ?_;intro w2 eD _ a2 ea _;refine aF kR ?_;refine aP (d:=none) kR ea rfl ?_;show _;exact⟨Jz,eD⟩;intro aC w7 ls vs cr M8 hv fr;simp only[show ls 12=true from cr 12 dQ]at M8;revert aC;refine cT [] ?_;obtain⟨Jz,M8⟩:=M8;try rw[Jz]
 clear Jz;clear cr hv fr aC hM;clear vs ls;refine cU<|zr0 ?_;refine⟨A,c,rfl,?_⟩;rw[Jl oM];exact M8.cast (by simp[ga,ints_set,Ds]);refine bZ<|bb<|eu [0,1] ?_;intro aC fr;refine Mj 9 (bI [eR g 0,eR g 0,eR g 0,eS PA s.pl.length pc,.aQ (nV q),eR g 0,eR g 0,eR g 2,eI s.nx]) fr (la (rz lz dP dP dP (dL (aZ g) _ fun w_ hK=>(aa ((hM.ay hK).get 0 rfl) rfl)) dP dP dP dP) (dL (aq g 2) _ fun w_ hK=>(aa ((hM.ay hK).get 0 rfl) rfl))) ?_;intro aC TB vs hK hv fr;revert aC;refine cT [(0,pT g 0),(25,vS PA s.pl.length pc),(26,nV q),(30,vI s.nx)] ?_;have sS:=hM.ay hK;clear hK hv fr aC hM;clear vs;obtain⟨g16,rfl⟩:=bB (sS.get 2 rfl) oM;refine ek (aZ g16) s.pl.length 1 (q:Int)<|sR sS 2 (aN (aZ g16) (q:Int) 1) (((q:Int)).toNat*1) (vI s.nx) rfl rfl oM fun Wg jW=> ?_
 replace jW:=jW.nf;refine ax<|cN<|ah 3<|bl (aq g 2) _ (aa (jW.get 0 rfl) rfl)<|dB (s.nx+1)<|ah 2<|AD (ho:=sI) jW 0 2 (vI (s.nx+1)) rfl fun KA lJ=> ?_
 replace lJ:=lJ.nf;refine ax<|tf ?_;refine⟨A,c,rfl,?_⟩;rw[Jm oM];exact lJ.cast (by simp[ga,ints_set])
theorem FI(g:Nat)(PA:aA)(pc:Nat)(A:aA)(c:Nat)(s:nK)(q:Nat)(w:World)(hG:(aL.pk (ga g PA pc A c s)).holds w)(gl:s.pl.length≤100000)(YR:s.fr.length≤100000)(hq:q<s.pl.length):Calls Tryd.prog 69 #[pT g 0,nV q] w (eU fun v w'=>∃A' c',v= .tuple #[]∧Mem (aL.pk (ga g PA pc A c s)).fp w w' (ga g PA pc A' c' (gq s q))):=by
 refine fK 17 [pT g 0,nV q] Tryd.func69 ?_;have hM:=Mem.ye hG;obtain⟨x,hx⟩:=ba (l:=s.pl) (i:=q) oM;have ex:s.pl.getD q 0=x:=by simp[List.getD,hx]
 obtain⟨g1,rfl⟩:=bB (hM.get 2 rfl) oM;obtain⟨x,hx⟩:=ba (l:=s.pl) (i:=q) oM;have ex:s.pl.getD q 0=x:=by simp[List.getD,hx]
 refine eu [0,1] ?_;intro aC fr;refine xN (bI [eR g 0,eR g 0,eR g 1,.aQ (.iface 126 (pT g 1)),eR g 0,eR g 0,eR g 0,eS (sM g1) s.pl.length pc,.aQ (nV q),eA (aZ g1) (q:Int) 1,eI x,.aQ (.iface 3 (vI x)),Spec.free]) (fun ls vs w_=>match ls 12 with|true=>(∃(A2:aA) (c3:Nat),vs 12=(.tuple #[])∧Mem (aL.pk (ga g (sM g1) pc A c s)).fp w w_ [.ak g 70 [vS (sM g1) s.pl.length pc,vS A2 (s.fr.length+1) c3,vI s.nx],.row 3 1 A2 (s.fr.length+1) c3 (ints (wM s.fr x)),.row 3 1 (sM g1) s.pl.length pc (ints s.pl)])|false=>(Mem (aL.pk (ga g (sM g1) pc A c s)).fp w w_ [.ak g 70 [vS (sM g1) s.pl.length pc,vS A s.fr.length c,vI s.nx],.row 3 1 A s.fr.length c (ints s.fr),.row 3 1 (sM g1) s.pl.length pc (ints s.pl)])) fr (dW (.aQ (.aQ (.aQ (.aQ (.aQ (.aQ (.aQ (.aQ (.aQ (.aQ (.aQ (.aQ (.free .nil)))))))))))))) (hM.ay (Mem.drew _)) (la (gM lz (eW fun _ _ _ _ h=>h) (eW fun _ _ _ _ h=>h) (eW fun _ _ _ _ h=>h) (eW fun _ _ _ _ h=>h) (eW fun _ _ _ _ h=>h) (eW fun _ _ _ _ h=>h) (eW fun _ _ _ _ h=>h) (nj (aZ g) (vS (sM g1) s.pl.length pc) (fun _ _ _ _ h=>h) ?_) (eW fun _ _ _ _ h=>h) (oC (aZ g1) s.pl.length 1 (q:Int) fun _ _ _ _ h=>h) (nj (aN (aZ g1) (q:Int) 1) (vI x) (fun _ _ _ _ h=>h) ?_) (eW fun _ _ _ _ h=>h)) ?_) ?_;intro w_ ls vs hJ bD bE hp;have f12:ls 12=false:=aH bE bD (n:=13) kR;have aO:=hJ;simp only[f12]at aO;exact(aa (aO.get 0 rfl) rfl);intro w_ ls vs hJ bD bE hp;have f12:ls 12=false:=aH bE bD (n:=13) kR;have aO:=hJ;simp only[f12]at aO;exact(dd (az (aO.get 2 rfl)) rfl hx);intro dt w_ ls vs bT hJ bD bE hp hF;refine hZ (g0:=none) ?_;replace hF:Fr dt 17 [(7,.iface 126 (pT g 1)),(15,.iface 3 (vI x))]:=hF.kp [7,15];have f12:ls 12=false:=bD;have aO:=hJ;simp only[f12]at aO;refine dY (kR:ao _ 0=some (some 16,(.call {callee:=(.value (.func 87)),args:=#[.tmp 7,.tmp 15],argTypes:=#[137,20]}),0,none)) hF kR kR (k':=1) rfl (f:=87) (vs:=[.iface 126 (pT g 1),.iface 3 (vI x)]) (cap:=[]) kR kR kR (V7 g (vS (sM g1) s.pl.length pc) (vI s.nx) s.fr A c x w_ oM (aO.get 0 rfl) (aO.get 1 rfl) (aO.Ev (i:=0) (j:=1) rfl rfl dQ)) ?_;rintro _ w2 ⟨Y9,Za,rfl,eD⟩ a2 ea _;have yi:=aO.Vp eD;refine aF kR ?_;refine aP (d:=some 16) kR ea trivial ?_;show∃(A2:aA) (c3:Nat),_;exact⟨Y9,Za,rfl,yi⟩;intro aC w8 ls vs cr M9 hv fr;simp only[show ls 12=true from cr 12 dQ]at M9;revert aC;refine cT [] ?_;obtain⟨A2,c3,DH,M9⟩:=M9;try rw[DH]
 clear DH;clear cr hv fr aC hM;clear vs ls;refine tf ?_;exact⟨A2,c3,rfl,M9.cast (by simp only[ga,gq,ex,zr])⟩
end Go.Proofs.YthgbejihcchcnaaDoor
