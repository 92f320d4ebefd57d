/-
  Texts of the proof, part 10.
-/
import Derived.Test.YthgbejihcchcnaaDoorZd9
import Derived.Recover
set_option maxRecDepth 10000
namespace Go.Mor
open Go.RowKit
end Go.Mor
namespace Go.Mor
open Go.RowKit
def Spec.ptr(xs:bp):Spec:= .any (fun v w=>∃ad,v= .pointer (some ad)∧(aL.rd (some ad) xs).holds w) (fun _ _ _ hK ⟨ad,hv,h⟩=>⟨ad,hv,(aL.rd (some ad) xs).fL (fun g hg=>hK.kept g ((aL.rd (some ad) xs).lt h hg) (fun h=>h)) h⟩)
def Qag(P:Program)(c:Code)(N:FN)(env:Env)(k:Nat):Option (Option Nat×Nat×Value):=match ao c k with
 |some (d,.sliceToArrayPointer t x,_,g)=>match bu c g env,gL d N,ev env x,P.underlying t with
  |some true,true,some v,some (.array m _)=>some (d,m,v)
  |_,_,_,_=>none
 |_=>none
def lvE(P:Program)(c:Code)(N:FN)(env:Env)(k:Nat):Option (Option Nat×Value×Option Nat):=match ao c k with
 |some (d,.load t x,_,g)=>match bu c g env,gL d N,ev env x with
  |some true,true,some v=>some (d,v,vy P t)
  |_,_,_=>none
 |_=>none
def bnE(c:Code)(N:FN)(env:Env)(k:Nat):Option (Option Nat×BinOp×TypeId×Value×Value):=match ao c k with
 |some (d,.binOp op t x y _,_,g)=>match bu c g env,gL d N,ev env x,ev env y with
  |some true,true,some u,some v=>some (d,op,t,u,v)
  |_,_,_,_=>none
 |_=>none
theorem Mi{w:World}{b t:Nat}{cs:bp}(h:(aL.ak b t cs).holds w):(aL.rd (some (aZ b)) cs).holds w:=by
 intro j v hj;refine⟨_,rfl,?_⟩;have e:(aZ b).add j=(aq b j):=by unfold Addr.add;split<;>simp_all
 rw[e];exact aa h hj
section
variable {P : Program} {c : Code} {Q : Exit → Act → World → Prop} {N : FN} {i : Nat} {env0 : Env} {wr : World} {sp : Nat → Spec}
theorem dA2(j n:Nat)(xs:bp)(hx:xs≠[]){m:Nat}(hmn:m≤n)(hj:o4 (dj c i) j=true:=by kernel_rfl)(hs:sp j=Spec.sl n xs:=by rfl)(oA:sp i=Spec.ptr xs:=by rfl)(hg:∀vs,kB c i (bR c i sp vs env0)=some true:=by intro _;kernel_rfl)(hk:∀vs,Qag P (one c i) N (bR c i sp vs env0) 0=some (bg c i,m,vs j):=by intro _;kernel_rfl)(he:ao (one c i) 1=none:=by kernel_rfl):jt P c Q N env0 wr sp i:=by
 refine nt hg (fun w vs hK hp a hF=> ?_);have h0:=hp j (gY.1 hj);rw[hs]at h0;obtain⟨A,cc,hv,hr⟩:=h0;have hA:∃ad,A=some ad:=by
  cases xs with
  |nil=>exact absurd rfl hx
  |cons x r=>obtain⟨ad,h1,_⟩:=hr 0 x rfl;exact⟨ad,h1⟩
 obtain⟨ad,rfl⟩:=hA;have h1:=hk vs;unfold Qag at h1;split at h1
 ·rename_i g0;split at h1
  ·rename_i v0 m0 e0 g1 g2 g3 g4;simp only[Option.some.injEq,Prod.mk.injEq]at h1;obtain⟨rfl,rfl,rfl⟩:=h1;refine dR g0 hF g1 g2 rfl (fun o ho=> ?_) (fun a' ea _=>aF he ⟨_,ea,Kp.refl w,?_⟩) (v:= .pointer (some ad))
   ·unfold execOp;rw[ho];have Iw:=run_arrayAt (P:=P) w _ e0 m0 (some ad) n cc g4 hmn;simp only[hF.ev g3,hv,Sem.run_bind,Iw,Result.andThen_ok];rfl
   ·rw[oA];exact⟨ad,rfl,hr⟩
  ·cases h1
 ·cases h1
theorem dLA(j:Nat)(xs:bp)(hj:o4 (dj c i) j=true:=by kernel_rfl)(hs:sp j=Spec.ptr xs:=by rfl)(oA:sp i= .aQ (.agg xs.toArray):=by rfl)(hg:∀vs,kB c i (bR c i sp vs env0)=some true:=by intro _;kernel_rfl)(hk:∀vs,lvE P (one c i) N (bR c i sp vs env0) 0=some (bg c i,vs j,some xs.length):=by intro _;kernel_rfl)(he:ao (one c i) 1=none:=by kernel_rfl):jt P c Q N env0 wr sp i:=by
 refine nt hg (fun w vs hK hp a hF=> ?_);have h0:=hp j (gY.1 hj);rw[hs]at h0;obtain⟨ad,hv,hr⟩:=h0;have h1:=hk vs;unfold lvE at h1;split at h1
 ·rename_i g0;split at h1
  ·rename_i v0 g1 g2 g3;simp only[Option.some.injEq,Prod.mk.injEq]at h1;obtain⟨rfl,rfl,h4⟩:=h1;refine eZ g0 hF g1 g2 rfl (by rw[g3,hv]) h4 (fun q v hq=> ?_) (fun a' ea _=>aF he ⟨_,ea,Kp.refl w,by rw[oA];rfl⟩);obtain⟨a0,ha,hc⟩:=hr q v hq;injection ha with ha;subst ha;exact hc
  ·cases h1
 ·cases h1
theorem dEA{t:TypeId}{xs ys:Array Value}{b B:Bool}(hr:∀w,(binOp .eql t (.agg xs) (.agg ys)).run P w= .ok (vB b) w)(hb:B=b)(hu:P.eqGuardType P.depth t=false:=by kernel_rfl)(oA:sp i= .aQ (vB B):=by rfl)(hg:∀vs,kB c i (bR c i sp vs env0)=some true:=by intro _;kernel_rfl)(hk:∀vs,bnE (one c i) N (bR c i sp vs env0) 0=some (bg c i,.eql,t,.agg xs,.agg ys):=by intro _;kernel_rfl)(he:ao (one c i) 1=none:=by kernel_rfl):jt P c Q N env0 wr sp i:=by
 refine nt hg (fun w vs hK hp a hF=> ?_);have h1:=hk vs;unfold bnE at h1;split at h1
 ·rename_i g0;split at h1
  ·rename_i g1 g2 g3 g4;simp only[Option.some.injEq,Prod.mk.injEq]at h1;obtain⟨rfl,rfl,e3,e4,e5⟩:=h1;refine dR g0 hF g1 g2 rfl (fun o ho=> ?_) (fun a' ea _=>aF he ⟨_,ea,Kp.refl w,?_⟩) (v:=vB b)
   ·unfold execOp;rw[ho,e3];have hq:∀x y,(eqGuard .eql t x y (.agg xs) (.agg ys)).run P w= .ok () w:=by intro x y;simp[eqGuard,run_program,hu]
    simp only[hF.ev g3,hF.ev g4,e4,e5,Sem.run_bind,hq,hr,Result.andThen_ok];rfl
   ·rw[oA,hb];rfl
  ·cases h1
 ·cases h1
end
end Go.Mor
namespace Go.Mor
open Go.RowKit
end Go.Mor
namespace Go.Mor
open Go.RowKit
def Qah(l:List aL):Prop:=l.Pairwise (fun r s=>∀g,r.fp g→¬s.fp g)
def aL.pk(l:List aL):aL where
 fp k:=∃r,r∈l∧r.fp k
 holds w:=(∀r,r∈l→r.holds w)∧Qah l
 fL:=fun h hw=>⟨fun r hr=>r.fL (fun g hg=>h g ⟨r,hr,hg⟩) (hw.1 r hr),hw.2⟩
 lt:=fun⟨h1,_⟩ ⟨r,hr,hg⟩=>r.lt (h1 r hr) hg
section
variable {S : Nat → Prop} {w0 w w' : World} {l l' L : List aL} {r : aL}
theorem Mem.ye(h:(aL.pk l).holds w):Mem (aL.pk l).fp w w l:=⟨rfl,rfl,rfl,Nat.le_refl _,fun _ _ _=>rfl,fun r hr=>⟨h.1 r hr,fun _ hg=> .inl ⟨r,hr,hg⟩⟩,h.2⟩
theorem Mem.et(h:Mem S w0 w (l++L)):(aL.pk l).holds w:=⟨fun r hr=>(h.own r (List.mem_append_left _ hr)).1,(List.pairwise_append.1 h.apart).1⟩
theorem Mem.pack(h:Mem S w0 w (l++L)):Mem S w0 w (.pk l::L):=by
 obtain⟨h1,h2,h3⟩:=List.pairwise_append.1 h.apart;refine⟨h.os,h.tape,h.output,h.size,h.kept,fun r hr=> ?_,List.pairwise_cons.2 ⟨?_,h2⟩⟩
 ·rcases List.mem_cons.1 hr with rfl|hr
  ·exact⟨h.et,fun g ⟨q,hq,hg⟩=>(h.own q (List.mem_append_left _ hq)).2 g hg⟩
  ·exact h.own r (List.mem_append_right _ hr)
 ·rintro r hr g ⟨q,hq,hg⟩;exact h3 q hq r hr g hg
theorem Mem.unpack(h:Mem S w0 w (.pk l::L)):Mem S w0 w (l++L):=by
 obtain⟨h1,h2⟩:=List.pairwise_cons.1 h.apart;obtain⟨⟨h3,h4⟩,h5⟩:=h.own _ (List.mem_cons_self ..);refine⟨h.os,h.tape,h.output,h.size,h.kept,fun r hr=> ?_,List.pairwise_append.2 ⟨h4,h2,fun q hq r hr g hg=>h1 r hr g ⟨q,hq,hg⟩⟩⟩;rcases List.mem_append.1 hr with hr|hr
 ·exact⟨h3 r hr,fun g hg=>h5 g ⟨r,hr,hg⟩⟩
 ·exact h.own r (List.mem_cons_of_mem _ hr)
theorem Mem.Bx(h:Mem S w0 w (l++L))(h':Mem (aL.pk l).fp w w' l'):Mem S w0 w' (l'++L):=by
 have h1:Mem (aL.pk l).fp w w' (l'++[]):=by rw[List.append_nil];exact h'
 have h2:=h.pack.mod 0 rfl h1.pack;exact Mem.unpack (by simpa using h2)
theorem RO.fC(hA:RO S w0 r)(h:Mem S w0 w (l++L)):RO (aL.pk l).fp w r:=by
 refine⟨h.ro hA,fun g hg ⟨q,hq,hgq⟩=> ?_⟩;have h1:=r.lt hA.1 hg;rcases(h.own q (List.mem_append_left _ hq)).2 g hgq with h2|h2
 ·exact hA.2 g hg h2
 ·omega
theorem RO.gh(h:Mem S w0 w (l++L))(i:Nat)(hi:L[i]?=some r):RO (aL.pk l).fp w r:=by
 have hm:=List.mem_of_getElem? hi;refine⟨(h.own r (List.mem_append_right _ hm)).1,fun g hg ⟨q,hq,hgq⟩=> ?_⟩;exact(List.pairwise_append.1 h.apart).2.2 q hq r hm g hgq hg
end
end Go.Mor
namespace Go.Mor
open Go.RowKit
def pE(c:Code)(m:Nat):Bool:=(List.range (opsOf c).size).all fun i=>Nat.blt i m||(List.range i).all (fun j=>reach c (opsOf c).size i j)
theorem Du{c:Code}(gl:fO c=true):∀{n j i:Nat},j<(opsOf c).size→reach c n j i=true→i<j
 |0,j,i,_,h=>by simp[reach]at h
 |n+1,j,i,hj,h=>by
  have hp:∀k,k∈dj c j→k<j:=by intro k hk;simp only[fO,List.all_eq_true,List.mem_range]at gl;have:=gl j hj k hk;simpa[Nat.blt_eq]using this
  simp only[reach,Bool.or_eq_true,List.any_eq_true]at h;rcases h with h|⟨k,hk,h⟩
  ·exact hp i (gY.1 h)
  ·have h1:=hp k hk;have:=Du gl oM h;omega
theorem jE{c:Code}(gl:fO c=true){listed:Array Bool}(jo:listed.size=(opsOf c).size)(hr:Region.ready .any (opsOf c) listed=[]):∀j,j<(opsOf c).size→listed.getD j false=true:=by
 intro j;induction j using Nat.strongRecOn with
 |_ j ih=>
  intro hj;cases hq:listed.getD j false with
  |true=>rfl
  |false=>
   exfalso;have:j∈Region.ready .any (opsOf c) listed:=by
    simp only[Region.ready,List.mem_filter,List.mem_range,Bool.and_eq_true,Bool.not_eq_true'];have Eg:j<listed.size:=oM;refine⟨hj,?_,?_⟩
    ·simp[Array.getD,Eg]at hq⊢;exact hq
    ·have ho:(opsOf c)[j]?=some (opsOf c)[j]:=by simp[hj]
     simp only[ho,Option.map_some,Option.getD_some];rw[Array.all_eq_true_iff_forall_mem];intro e he;cases hb:Region.binds .any e with
     |false=>rfl
     |true=>
      have cn:e.on∈dj c j:=by simp only[dj,ho,List.mem_map,List.mem_filter];exact⟨e,⟨Array.mem_toList_iff.2 he,hb⟩,rfl⟩
      have fo:e.on<j:=by simp only[fO,List.all_eq_true,List.mem_range]at gl;have:=gl j hj e.on cn;simpa[Nat.blt_eq]using this
      simp[ih e.on fo oM]
   rw[hr]at this;simp at this
theorem mN{c:Code}{listed:Array Bool}{i:Nat}(hr:i∈Region.ready .any (opsOf c) listed):∀j,j∈dj c i→listed.getD j false=true:=by
 obtain⟨_,_,o,ho,Ey⟩:=fB hr;intro j hj;simp only[dj,ho,List.mem_map,List.mem_filter]at hj;obtain⟨e,⟨he,hb⟩,rfl⟩:=hj;exact Ey e he hb
theorem qg{c:Code}{listed:Array Bool}(jo:listed.size=(opsOf c).size){i:Nat}(hr:i∈Region.ready .any (opsOf c) listed):listed.getD i false=false:=by
 obtain⟨fo,QB,_⟩:=fB hr;have:i<listed.size:=oM;simp[Array.getD,this]at QB⊢;exact QB
def wP(c:Code)(m:Nat):Env→Env
 |[]=>[]
 |(t,v)::r=>match o4 ((List.range m).filterMap (bg c)) t with
  |true=>wP c m r
  |false=>(t,v)::wP c m r
theorem oj{c:Code}{m:Nat}:∀{env:Env} {t:Nat} {v:Value},look (wP c m env) t=some v→(t,v)∈env∧∀j,j<m→bg c j≠some t
 |[],t,v,h=>by simp[wP,look]at h
 |(k,u)::r,t,v,h=>by
  unfold wP at h;cases hm:o4 ((List.range m).filterMap (bg c)) k with
  |true=>
   rw[hm]at h;obtain⟨h1,h2⟩:=oj h;exact⟨List.mem_cons_of_mem _ h1,h2⟩
  |false=>
   rw[hm]at h;simp only[look]at h;cases hq:Nat.beq k t with
   |false=>
    rw[hq]at h;obtain⟨h1,h2⟩:=oj h;exact⟨List.mem_cons_of_mem _ h1,h2⟩
   |true=>
    rw[hq]at h;injection h with h;have:=Nat.eq_of_beq_eq_true hq;subst this;subst h;refine⟨List.mem_cons_self ..,fun j hj ql=> ?_⟩;have:o4 ((List.range m).filterMap (bg c)) k=true:=gY.2 (List.mem_filterMap.2 ⟨j,List.mem_range.2 hj,ql⟩);rw[this]at hm;cases hm
section
variable {P : Program} {c : Code} {K : Act → World → Prop} {Q : Exit → Act → World → Prop} {N : FN} {env0 : Env} {wr : World} {sp : Nat → Spec}
theorem sq{listed:Array Bool}{i j:Nat}(hi:i<listed.size):(listed.setIfInBounds i true).getD j false=(decide (j=i)||listed.getD j false):=by
 by_cases e:i=j
 ·subst e;simp[Array.getD_eq_getD_getElem?,hi]
 ·have:¬j=i:=fun h=>e h.symm
  simp[Array.getD_eq_getD_getElem?,Array.getElem?_setIfInBounds_ne e,this]
theorem Dv(gl:fO c=true){m:Nat}(ht:pE c m=true):∀(n fuel k:Nat) (listed:Array Bool) (a:Act) (w:World),listed.size=(opsOf c).size→(opsOf c).size≤k+n→n≤fuel→m≤k→k≤(opsOf c).size→(∀j,j<(opsOf c).size→listed.getD j false=decide (j<k))→bw P c K Q k a w→wpAny P .any (opsOf c) (Exit.then K Q) fuel listed a w:=by
 intro n;induction n with
 |zero=>
  intro fuel k listed a w jo hs hf ng Tz hl h;have hk:k=(opsOf c).size:=oM;subst hk;have hK:K a w:=by unfold bw at h;rw[List.drop_eq_nil_of_le sI]at h;exact h
  have VG:∀i,¬i∈Region.ready .any (opsOf c) listed:=fun i hi=>by have h1:=qg jo hi;have h2:=(fB hi).1;rw[hl i h2]at h1;simp[h2]at h1
  cases fuel with
  |zero=>exact⟨List.eq_nil_iff_forall_not_mem.2 VG,hK⟩
  |succ fuel=>exact⟨fun _=>hK,fun i hi=>absurd hi (VG i)⟩
 |succ n ih=>
  intro fuel k listed a w jo hs hf ng Tz hl h;by_cases hk:k<(opsOf c).size
  ·cases fuel with
   |zero=>omega
   |succ fuel=>
    refine⟨fun hr=> ?_,fun i hi=> ?_⟩
    ·have:=jE gl jo hr k hk;rw[hl k hk]at this;simp at this
    ·have pY:=qg jo hi;have VY:=(fB hi).1;have hik:i=k:=by
      rw[hl i VY]at pY;have RG:k≤i:=by simpa using pY
      rcases Nat.lt_or_eq_of_le RG with hgt|he
      ·exfalso;simp only[pE,List.all_eq_true,List.mem_range,Bool.or_eq_true]at ht;have h1:reach c (opsOf c).size i k=true:=by
        rcases ht i VY with h1|h1
        ·have:i<m:=by simpa[Nat.blt_eq]using h1
         omega
        ·exact h1 k hgt
       cases hn:(opsOf c).size with
       |zero=>omega
       |succ N'=>
        rw[hn]at h1;simp only[reach,Bool.or_eq_true,List.any_eq_true]at h1;rcases h1 with h1|⟨q,hq,h1⟩
        ·have:=mN hi k (gY.1 h1);rw[hl k hk]at this;simp at this
        ·have h2:=mN hi q hq;have hqi:q<i:=by simp only[fO,List.all_eq_true,List.mem_range]at gl;have:=gl i VY q hq;simpa[Nat.blt_eq]using this
         rw[hl q oM]at h2;have h3:q<k:=by simpa using h2
         have:=Du gl oM h1;omega
      ·exact he.symm
     subst hik;have ho:(opsOf c)[i]?=some (opsOf c)[i]:=by simp[hk]
     generalize hoo:(opsOf c)[i]=o at ho;unfold bw at h;rw[zW ho]at h;unfold wpList at h;have next:∀a' w',wpList P (opsOf c) (Exit.then K Q) ((opsOf c).toList.drop (i+1)) a' w'→wpAny P .any (opsOf c) (Exit.then K Q) fuel (listed.setIfInBounds i true) a' w':=by
      intro a' w' h';refine ih fuel (i+1) _ a' w' (by simpa using jo) oM oM oM oM (fun j hj=> ?_) h';rw[sq oM,hl j hj];by_cases e:j=i
      ·subst e;simp
      ·have:(j<i+1)↔(j<i):=oM;simp[e,this]
     unfold wpOp;rw[ho];simp only[];split at h
     ·rename_i hw;rw[if_pos hw];exact h.imp (Oper.wp_mono next) id
     ·rename_i hw;rw[if_neg hw];exact next _ _ h
  ·exact ih fuel k listed a w jo oM oM ng Tz hl h
theorem Jh(hd:j6 c=true)(gK:∀i d,bg c i=some d→d<N.n)(gl:fO c=true){m:Nat}(ht:pE c m=true)(hm:m≤(opsOf c).size)(nR:∀i,i<m→jt P c Q N env0 wr sp i)(z8:∀a w,(∀listed:Array Bool,(∀j,j<m→listed.getD j false=true)→(∀j,m≤j→listed.getD j false=false)→rL c N env0 wr sp listed a w→bw P c K Q m a w)):∀(n fuel:Nat) (listed:Array Bool) (a:Act) (w:World),listed.size=(opsOf c).size→((List.range (opsOf c).size).filter (fun j=> !listed.getD j false)).length=n→n≤fuel→(∀j,m≤j→listed.getD j false=false)→rL c N env0 wr sp listed a w→wpAny P .any (opsOf c) (Exit.then K Q) fuel listed a w:=by
 intro n;induction n using Nat.strongRecOn with
 |_ n ih=>
  intro fuel listed a w jo hn hf Dw hk;by_cases cr:∀j,j<m→listed.getD j false=true
  ·have hlen:(opsOf c).size≤m+n:=by
    have h1:((List.range (opsOf c).size).filter (fun j=> !listed.getD j false)).length=(opsOf c).size-m:=by
     have e:(List.range (opsOf c).size).filter (fun j=> !listed.getD j false)=(List.range (opsOf c).size).filter (fun j=>decide (m≤j)):=by
      apply List.filter_congr;intro j _;by_cases hj:j<m
      ·rw[cr j hj];simp;omega
      ·rw[Dw j oM];simp;omega
     rw[e];have key:∀N,((List.range N).filter (fun j=>decide (m≤j))).length=N-m:=by
      intro N;induction N with
      |zero=>simp
      |succ N ihN=>
       rw[List.range_succ,List.filter_append,List.length_append,ihN];by_cases h:m≤N
       ·simp[h];omega
       ·simp[h];omega
     exact key _
    omega
   refine Dv gl ht n fuel m listed a w jo hlen hf (Nat.le_refl _) hm (fun j hj=> ?_) (z8 a w listed cr Dw hk);by_cases h:j<m
   ·rw[cr j h];simp[h]
   ·rw[Dw j oM];simp[h]
  ·have wQ:0<n:=by
    rcases Nat.eq_zero_or_pos n with h0|h0
    ·exfalso;apply cr;intro j hj;cases hq:listed.getD j false with
     |true=>rfl
     |false=>
      have:j∈(List.range (opsOf c).size).filter (fun j=> !listed.getD j false):=List.mem_filter.2 ⟨List.mem_range.2 oM,by rw[hq];rfl⟩;have:=List.length_pos_of_mem this;omega
    ·exact h0
   cases fuel with
   |zero=>omega
   |succ fuel=>
    refine⟨fun hr=>absurd (fun j hj=>jE gl jo hr j oM) cr,fun i hi=> ?_⟩;obtain⟨h1,h2,_⟩:=fB hi;have him:i<m:=by
     rcases Nat.lt_or_ge i m with h|h
     ·exact h
     ·exfalso;apply cr;intro j hj;simp only[pE,List.all_eq_true,List.mem_range,Bool.or_eq_true]at ht;have hre:reach c (opsOf c).size i j=true:=by
       rcases ht i h1 with h3|h3
       ·have:i<m:=by simpa[Nat.blt_eq]using h3
        omega
       ·exact h3 j oM
      exact bd (ls:=fun q=>listed.getD q false) (fun j hj q hq=>hk.2.2.2.1 j hj q hq) (fun q hq=>mN hi q hq) hre
    have Vk:=qg jo hi;have uU:i<listed.size:=oM;refine yM hd gK (nR i him) jo hi hk (fun a' w' im=> ?_);have fo:((List.range (opsOf c).size).filter (fun j=> !(listed.setIfInBounds i true).getD j false)).length<n:=by
     rw[←hn];have kl:((List.range (opsOf c).size).filter (fun j=> !(listed.setIfInBounds i true).getD j false))=((List.range (opsOf c).size).filter (fun j=> !listed.getD j false)).filter (fun j=> !(Nat.beq j i)):=by
      rw[List.filter_filter];apply List.filter_congr;intro j _;rw[sq uU];by_cases e:j=i
      ·subst e;simp
      ·have hb:Nat.beq j i=false:=by
        cases hq:Nat.beq j i with
        |false=>rfl
        |true=>exact absurd (Nat.eq_of_beq_eq_true hq) e
       simp[e,hb]
     rw[kl];have cn:i∈(List.range (opsOf c).size).filter (fun j=> !listed.getD j false):=List.mem_filter.2 ⟨List.mem_range.2 h1,by rw[Vk];rfl⟩;exact List.length_filter_lt_length_iff_exists.2 ⟨i,cn,sI⟩
    refine ih _ fo fuel _ a' w' (by simpa using jo) rfl oM (fun j hj=> ?_) im;rw[sq uU,Dw j hj];have:j≠i:=oM;simp[this]
theorem Mj(m:Nat)(sp:Nat→Spec){a:Act}(hF:Fr a N env0)(nR:∀i,i<m→jt P c Q N env0 wr sp i)(h:∀a' w' (vs:Nat→Value),Kp wr w'→(∀j,j<m→(sp j).ok (vs j) w')→Fr a' N (oz c sp vs (List.range m)++wP c m env0)→bw P c K Q m a' w')(ht:pE c m=true:=by kernel_rfl)(H7:Nat.ble m (opsOf c).size=true:=by kernel_rfl)(hk:kind c= .region true:=by kernel_rfl)(hm:P.follows .mixedOrders=true:=by kernel_rfl)(hd:j6 c=true:=by kernel_rfl)(gl:fO c=true:=by kernel_rfl)(o5:nQ env0=true:=by kernel_rfl)(gK:(List.range (opsOf c).size).all (fun i=>gL (bg c i) N)=true:=by kernel_rfl):W P c K Q a wr:=by
 have EA:∀i d,bg c i=some d→d<N.n:=by
  intro i d hi;have fo:i<(opsOf c).size:=by
   simp only[bg]at hi;cases ho:(opsOf c)[i]? with
   |none=>simp[ho]at hi
   |some o=>exact(Array.getElem?_eq_some_iff.1 ho).1
  simp only[List.all_eq_true,List.mem_range]at gK;have:=gK i fo;rw[hi]at this;simpa[gL,Nat.blt_eq]using this
 have eD:=Nat.le_of_ble_eq_true H7;cases c<;>simp[kind]at hk;rename_i id ops dr;subst hk;refine wp_region_any hm ?_;have Ji:∀j,(Array.replicate ops.size false).getD j false=false:=by intro j;simp only[Array.getD_eq_getD_getElem?,Array.getElem?_replicate];split<;>rfl
 have h0:rL (.region id ops true) N env0 wr sp (Array.replicate ops.size false) a {wr with drawn:=wr.drawn+1}:=by
  refine⟨Mem.drew wr,hF.defers,hF.size,?_,⟨fun _=>undef,?_⟩,fun t v Vm _=>hF.slot t v (nr o5 Vm)⟩
  ·intro j hj;rw[Ji j]at hj;cases hj
  ·intro j hj;rw[Ji j]at hj;cases hj
 refine Jh (c:= .region id ops true) hd EA gl ht eD nR ?_ _ ops.size _ a _ (by simp[opsOf]) rfl ?_ (fun j _=>Ji j) h0
 ·intro a' w' listed cr Dw hk;obtain⟨YS,s6,jo,_,⟨vs,xZ⟩,ns⟩:=hk;refine h a' w' vs YS (fun j hj=>(xZ j (cr j hj)).1) ⟨s6,jo,fun t v hv=> ?_⟩;rcases jK hv with h1|h1
  ·obtain⟨j,hj,ql,rfl⟩:=lN h1;obtain⟨h2,h3⟩:=xZ j (cr j (List.mem_range.1 hj));rw[Spec.s5 h2];exact h3 t ql
  ·obtain⟨h2,h3⟩:=oj h1;refine ns t v h2 (fun j hj=> ?_);rcases Nat.lt_or_ge j m with VZ|VZ
   ·exact h3 j VZ
   ·rw[Dw j VZ]at hj;cases hj
 ·refine Nat.le_trans (bx _ _) ?_;simp[opsOf]
variable {i : Nat}
end
end Go.Mor
namespace Go.Mor
open Go.RowKit
end Go.Mor
namespace Go.Mor
open Go.RowKit
end Go.Mor
namespace Go.Mor
end Go.Mor
namespace Go.Mor
open Go.RowKit
def Qai(P:Program)(c:Code)(N:FN)(env:Env)(k:Nat):Option (Option Nat×aA×Nat×Int):=match ao c k with
 |some (d,.slice t x none (some y) none,_,g)=>match bu c g env,gL d N,ev env x,ev env y,P.underlying t with
  |some true,true,some (.slice A _ cap),some (.int _ i),some (.slice e)=>match(P.info? e).map (·.size)with
   |some _=>some (d,A,cap,i)
   |none=>none
  |_,_,_,_,_=>none
 |_=>none
section
variable {P : Program} {c : Code} {K : Act → World → Prop} {Q : Exit → Act → World → Prop} {w w0 : World} {S : Nat → Prop} {L : List aL} {k : Nat} {N : FN} {env : Env}
theorem zhi{A:aA}{cap:Nat}{i:Int}(m:Nat)(hi:i=(m:Int))(hm:m≤cap)(h:∀a,Fr a N (dN env (bg c k) (vS A m cap))→bw P c K Q (k+1) a w)(hk:Qai P c N env k=some (bg c k,A,cap,i)):∀a,Fr a N env→bw P c K Q k a w:=fun a hF=>by
 unfold Qai at hk;split at hk
 ·rename_i h0;split at hk
  ·rename_i h1 h2 h3 h4 h5;split at hk
   ·rename_i sz h6;simp only[Option.some.injEq,Prod.mk.injEq]at hk;obtain⟨rfl,rfl,rfl,rfl⟩:=hk;exact j2 h0 hF h1 h2 rfl m h3 h4 hi h5 h6 hm (fun a' _=>h a')
   ·cases hk
  ·cases hk
 ·cases hk
end
end Go.Mor
namespace Go.Mor
open Go.RowKit
section
variable {P : Program} {c : Code} {K : Act → World → Prop} {Q : Exit → Act → World → Prop} {w w0 : World} {S : Nat → Prop} {L : List aL} {k k' : Nat} {N : FN} {env : Env}
theorem Mk{kt e t:TypeId}{kd:TypeDesc}{α:Type}[BEq α]{inj:α→Value}(KL:uE P kt kd inj)(s:α)(z:Value){b:Nat}{l:List (α×Value)}(hm:tZ w b (bP inj l))(ok:Bool){v:Value}(e':Mg ok (dX l s) z=v)(h:∀a,Fr a N (dN env (bg c k) v)→bw P c K Q (k+1) a w)(ht:P.underlying t=some (.map kt e))(hz:(P.info? e).map (·.zero)=some (some z):=by kernel_rfl)(hk:z7 c N env k=some (bg c k,t,b,inj s,ok):=by kernel_rfl):∀a,Fr a N env→bw P c K Q k a w:=by
 subst e';exact zlk KL s z hm ok h ht hz hk
end
end Go.Mor
namespace Go.Mor
open Go.RowKit
section
variable {P : Program} {c : Code} {K : Act → World → Prop} {Q : Exit → Act → World → Prop} {w : World} {k : Nat} {N : FN} {env : Env}
theorem ef{m:Bool}{a:Act}{d:Option Nat}{ty:Nat}{g:Option (Nat×Bool)}{ts:Array TypeId}{x y:Operand}(hk:ao c k=some (d,.call {callee:= .builtin (if m then .max else .min),args:=#[x,y],argTypes:=ts},ty,g))(hF:Fr a N env)(hg:bu c g env=some true)(hd:gL d N=true){kd:IntKind}{i j:Int}(hx:ev env x=some (.int kd i))(hy:ev env y=some (.int kd j))(z:Int)(hz:z=if m then max i j else min i j)(h:∀a,Fr a N (dN env d (.int kd z))→bw P c K Q (k+1) a w):bw P c K Q k a w:=by
 cases m
 ·refine CG hk hF hg hd rfl hx hy z ?_ (fun a _ hF=>h a hF);rw[hz];simp only[Bool.false_eq_true,if_false];split<;>omega
 ·refine Mf hk hF hg hd rfl hx hy z ?_ (fun a _ hF=>h a hF);rw[hz];simp only[if_true];split<;>omega
theorem zmx(d:Option Nat)(x y:Operand)(ts:Array TypeId)(ty:Nat)(kd:IntKind)(i j:Int)(h:∀a,Fr a N (dN env d (.int kd (max i j)))→bw P c K Q (k+1) a w)(hk:ao c k=some (d,.call {callee:= .builtin .max,args:=#[x,y],argTypes:=ts},ty,none):=by kernel_rfl)(hd:gL d N=true:=by kernel_rfl)(hx:ev env x=some (.int kd i):=by kernel_rfl)(hy:ev env y=some (.int kd j):=by kernel_rfl):∀a,Fr a N env→bw P c K Q k a w:=fun _ hF=>ef (m:=true) hk hF rfl hd hx hy _ rfl h
end
theorem RO.Qdn{S:Nat→Prop}{w:World}:RO S w (.rd none []):=⟨fun j v h=>by simp at h,fun g hg=>absurd rfl hg.1⟩
end Go.Mor
namespace Go.Mor
open Go.RowKit
def ciE(c:Code)(N:FN)(env:Env)(k:Nat):Option (Option Nat×Value×String×bp):=match ao c k with
 |some (d,.call ⟨.invoke r nm,args,_⟩,_,g)=>match bu c g env,gL d N,Kt env args.toList with
  |some true,true,some vs=>match ev env r with
   |some v=>some (d,v,nm,vs)
   |none=>none
  |_,_,_=>none
 |_=>none
def mbE(c:Code)(N:FN)(env:Env)(k:Nat):Option (Option Nat×Builtin×TypeId×Nat):=match ao c k with
 |some (d,.call ⟨.builtin b,args,RH⟩,_,g)=>match bu c g env,gL d N,Kt env args.toList,RH with
  |some true,true,some [.map (some m)],⟨[t]⟩=>some (d,b,t,m)
  |_,_,_,_=>none
 |_=>none
section
variable {P : Program} {c : Code} {K : Act → World → Prop} {Q : Exit → Act → World → Prop} {w w0 : World} {S : Nat → Prop} {L : List aL} {k : Nat} {N : FN} {env : Env}
theorem RI{a:Act}(d:Option Nat)(rv:Value)(nm:String)(vs:bp)(hF:Fr a N env)(hk:ciE c N env k=some (d,rv,nm,vs)){f:FuncId}{us:Array Value}(hm:(callMethod rv nm vs.toArray).run P w= .ok (.enter f us) w){Φ:Value→World→Prop}(hc:Calls P f us w (eU Φ))(h:∀v w',Φ v w'→∀a',Fr a' N (dN env d v)→bw P c K Q (k+1) a' w'):bw P c K Q k a w:=by
 unfold ciE at hk;split at hk
 ·rename_i d0 r nm0 args RH ty g CC;split at hk
  ·rename_i z9 hg hd KW;split at hk
   ·rename_i v0 H5;simp only[Option.some.injEq,Prod.mk.injEq]at hk;obtain⟨rfl,rfl,rfl,rfl⟩:=hk;refine uT CC hF hg fun o h1 h2 h3 K' KQ=> ?_
    unfold Oper.wp;have hr:(execOp a.eval o).run P w= .ok (.enter f us) w:=by
     unfold execOp;rw[h2];have e1:=nP hF KW;have e2:args.map a.eval=z9.toArray:=by apply Array.ext';simpa using e1
     have e4:(#[v0]++z9.toArray).extract 1 (#[v0]++z9.toArray).size=z9.toArray:=by apply Array.ext';simp
     have e5:(#[v0]++z9.toArray)[0]?=some v0:=sI;simp only[resolve,hF.ev H5,e2,Sem.run_bind,Sem.run_pure,Result.andThen_ok,invoke,e4,e5,hm]
    rw[hr,Oper.upon_enter];refine hc.mono ?_;rintro e w' ⟨v,rfl,hv⟩;rw[h1];exact KQ _ _ (h v w' hv _ (hF.put hd v))
   ·cases hk
  ·cases hk
 ·cases hk
theorem P3{rv:Value}{nm:String}{vs:bp}{f:FuncId}{us:Array Value}{Φ:Value→World→Prop}(hc:Calls P f us w (eU Φ))(h:∀v w',Φ v w'→∀a,Fr a N (dN env (bg c k) v)→bw P c K Q (k+1) a w')(hm:(callMethod rv nm vs.toArray).run P w= .ok (.enter f us) w)(hk:ciE c N env k=some (bg c k,rv,nm,vs):=by kernel_rfl):∀a,Fr a N env→bw P c K Q k a w:=fun _ hF=>RI _ rv nm vs hF hk hm hc h
theorem Hg{a:Act}{d:Option Nat}{x:Operand}{xt t ty:TypeId}{g:Option (Nat×Bool)}{k':Nat}(hk:ao c k=some (d,.typeAssert x xt t false,ty,g))(hF:Fr a N env)(hg:bu c g env=some true)(hd:gL d N=true)(im:k+1=k'){X v:Value}(hx:ev env x=some X)(hr:(Instr.typeAssert X xt t false).run P w= .ok v w)(h:∀a',a'=a.put d v→Fr a' N (dN env d v)→bw P c K Q k' a' w):bw P c K Q k a w:=by
 refine dR hk hF hg hd im (v:=v) (fun o ho=> ?_) h;unfold execOp;rw[ho];simp[hF.ev hx,hr]
theorem Hh{d:Option Nat}{b:Builtin}{t:TypeId}{m:Nat}(h:mbE c N env k=some (d,b,t,m)):∃args RH ty g,ao c k=some (d,.call ⟨.builtin b,args,RH⟩,ty,g)∧bu c g env=some true∧gL d N=true∧Kt env args.toList=some [.map (some m)]∧RH=#[t]:=by
 unfold mbE at h;split at h
 ·rename_i d0 b0 args RH ty g h0;split at h
  ·rename_i m0 t0 h1 h2 h3;simp only[Option.some.injEq,Prod.mk.injEq]at h;obtain⟨rfl,rfl,rfl,rfl⟩:=h;exact⟨_,_,_,_,h0,h1,h2,h3,rfl⟩
  ·cases h
 ·cases h
theorem zmc{b:Nat}{l:List (Value×Value)}{t kt e:TypeId}(hM:Mem S w0 w L)(i:Nat)(hi:L[i]?=some (.map b l))(ht:P.underlying t=some (.map kt e))(h:∀w',Mem S w0 w' (L.set i (.map b []))→∀a,Fr a N (dN env (bg c k) (.tuple #[]))→bw P c K Q (k+1) a w')(hk:mbE c N env k=some (bg c k,.clear,t,b):=by kernel_rfl):∀a,Fr a N env→bw P c K Q k a w:=fun a hF=>by
 obtain⟨args,RH,ty,g,h0,h1,h2,h3,rfl⟩:=Hh hk;obtain⟨es,clock,hb,hl,fo,uA⟩:=hM.get i hi;have nB:b<w.heap.size:=kz hb;have uy:∀o:Obj,(setObj b o).run P w= .ok () {w with heap:=w.heap.setIfInBounds b o}:=fun o=>by simp only[setObj,Sem.run,hb]
 have hm:Mem (aL.map b l).fp w {w with heap:=w.heap.setIfInBounds b (.map #[] clock)} [.map b []]:=by refine Mem.Fp ⟨es,clock,hb,hl,fo,uA⟩ ⟨#[],clock,?_,rfl,sI,sI⟩;show(w.heap.setIfInBounds b _)[b]?=_;rw[Array.getElem?_setIfInBounds_self_of_lt nB]
 have xM:Mem S w0 {w with heap:=w.heap.setIfInBounds b (.map #[] clock)} (L.set i (.map b [])):=by simpa using hM.mod i hi hm
 refine gF h0 hF h1 (v:= .tuple #[]) (w':={w with heap:=w.heap.setIfInBounds b (.map #[] clock)}) (fun o ho _=> ?_) (h _ xM _ (hF.put h2 _));unfold execOp;rw[ho];have e2:args.map a.eval=#[.map (some b)]:=by apply Array.ext';simpa using nP hF h3
 simp[resolve,e2,invoke,builtin,Builtin.clear_,run_underlying ht,Sem.run_bind,Sem.run_pure,mc hb,uy,Result.andThen]
end
theorem Ml{P:Program}{t:TypeId}{j:Nat}(h1:j≤1000000)(w:World):(binOp .quo t (vI ((j:Int)-1)) (vI 2)).run P w= .ok (vI (((j-1) / 2:Nat):Int)) w:=by
 rcases Nat.eq_zero_or_pos j with h|h
 ·subst h;exact(show(binOp .quo t (vI (-1)) (vI 2)).run P w= .ok (vI 0) w by kernel_rfl)
 ·have h2:=kO (P:=P) (t:=t) (i:=j-1) 2 oM dQ w;rw[show((j-1:Nat):Int)=(j:Int)-1 by omega]at h2;exact h2
theorem BA{P:Program}{w:World}{t:TypeId}{ad:Addr}{v:Value}(ht:uw P t=true)(hc:w.cell? ad=some v):(loadVar t ad).run P w= .ok v w:=by
 simp[loadVar,yJ ht,hc]
def Mm(P:Program)(t:TypeId)(nm:String):Option (FuncId×Bool):=match P.info? t with
 |some ti=>match ti.methods.find? (·.name==nm)with
  |some m=>match m.path with
   |⟨[]⟩=>m.func
   |_=>none
  |none=>none
 |none=>none
theorem Mn{P:Program}{w:World}{t:TypeId}{v rv:Value}{nm:String}{f:FuncId}{b:Bool}{n:Nat}(hm:Mm P t nm=some (f,b))(hr:(receiverAt t (.val v) b (some ((nm.splitOn ".").getLastD nm))).run P w= .ok rv w):(method (n+1) t v nm).run P w= .ok (f,rv) w:=by
 unfold Mm at hm;split at hm
 ·rename_i ti uF;split at hm
  ·rename_i m hfi;split at hm
   ·rename_i hp;unfold method;have h1:(typeInfo t).run P w= .ok ti w:=by simp[typeInfo,uF]
    have e:m.path.isEmpty=true:=by rw[hp];rfl
    simp only[Sem.run_bind,h1,Result.andThen_ok,hfi,hp,follow,Sem.run_pure,hm,if_true];have e2:(if(#[]:Array FieldStep).isEmpty=true then some ((nm.splitOn ".").getLastD nm)else none)=some ((nm.splitOn ".").getLastD nm):=rfl;rw[e2,hr];rfl
   ·cases hm
  ·cases hm
 ·cases hm
theorem Fq{P:Program}{w:World}{t:TypeId}{v rv:Value}{nm:String}{f:FuncId}{b:Bool}{args us:Array Value}(hm:Mm P t nm=some (f,b))(hr:(receiverAt t (.val v) b (some ((nm.splitOn ".").getLastD nm))).run P w= .ok rv w)(hf:s4 P f=true)(hu: #[rv]++args=us):(callMethod (.iface t v) nm args).run P w= .ok (.enter f us) w:=by
 have hn:P.types.size+Made.depth=(P.types.size+(Made.depth-1))+1:=congrArg (P.types.size+·) (show Made.depth=(Made.depth-1)+1 by decide);unfold callMethod;simp only[Sem.run_bind,run_program,Result.andThen_ok];rw[hn,Mn hm hr];simp only[Result.andThen_ok,rH hf,hu]
section
variable {P : Program} {fn : Func} {w : World} {N : FN} {env : Env} {Φ : Value → World → Prop}
theorem zr0(h:Φ (.tuple #[]) w)(hk:fn.results=#[]:=by rfl)(hD:N.D=[]:=by rfl):∀a,Fr a N env→bodyPost P fn (eU Φ) .ret a w:=fun _ hF=>⟨hF.defers.trans hD,_,results_none hk _ _ _,_,rfl,h⟩
def Qaj(fn:Func)(env:Env):Option (Value×Value×Value):=match fn.results.toList with
 |[.tmp t,.tmp u,.tmp x]=>match look env t,look env u,look env x with
  |some v,some v',some v''=>some (v,v',v'')
  |_,_,_=>none
 |_=>none
theorem zo3(v v' v'':Value)(h:Φ (.tuple #[v,v',v'']) w)(hk:Qaj fn env=some (v,v',v''):=by kernel_rfl)(hD:N.D=[]:=by rfl):∀a,Fr a N env→bodyPost P fn (eU Φ) .ret a w:=fun a hF=>by
 unfold Qaj at hk;split at hk
 ·rename_i t u x ht;split at hk
  ·rename_i h1 h2 h3;simp only[Option.some.injEq,Prod.mk.injEq]at hk;obtain⟨rfl,rfl,rfl⟩:=hk;have hr:fn.results=#[.tmp t,.tmp u,.tmp x]:=by apply Array.ext';simpa using ht
   refine bodyPost_ret (v:= .tuple #[_,_,_]) ?_ (hF.defers.trans hD) ⟨_,rfl,h⟩;have e1:=hF.ev (x:= .tmp t) h1;have e2:=hF.ev (x:= .tmp u) h2;have e3:=hF.ev (x:= .tmp x) h3;simp only[Act.eval]at e1 e2 e3;rw[←e1,←e2,←e3];simp[results,hr]
  ·cases hk
 ·cases hk
end
def mxE(c:Code)(N:FN)(env:Env)(k:Nat):Option (Option Nat×Int×Int):=match ao c k with
 |some (d,.call ⟨.builtin .max,⟨[x,y]⟩,_⟩,_,g)=>match bu c g env,gL d N,ev env x,ev env y with
  |some true,true,some (.int .i64 i),some (.int .i64 j)=>some (d,i,j)
  |_,_,_,_=>none
 |_=>none
theorem dMX{P:Program}{c:Code}{Q:Exit→Act→World→Prop}{N:FN}{i:Nat}{env0:Env}{wr:World}{sp:Nat→Spec}(x y:Int)(hv:sp i= .aQ (vI (max x y)):=by rfl)(hg:∀vs,kB c i (bR c i sp vs env0)=some true:=by intro _;kernel_rfl)(hk:∀vs,mxE (one c i) N (bR c i sp vs env0) 0=some (bg c i,x,y):=by intro _;kernel_rfl)(he:ao (one c i) 1=none:=by kernel_rfl):jt P c Q N env0 wr sp i:=by
 refine nt hg (fun w vs hK hp a hF=> ?_);have h:=hk vs;unfold mxE at h;split at h
 ·rename_i d x0 y0 RH ty g h0;split at h
  ·rename_i i0 j0 h1 h2 h3 h4;simp only[Option.some.injEq,Prod.mk.injEq]at h;obtain⟨hd,rfl,rfl⟩:=h;refine Mf h0 hF h1 h2 rfl h3 h4 (max i0 j0) (by split<;>omega) (fun a' ea _=>aF he ⟨_,by rw[←hd];exact ea,Kp.refl w,by rw[hv];rfl⟩)
  ·cases h
 ·cases h
theorem zmg{P:Program}{c:Code}{K:Act→World→Prop}{Q:Exit→Act→World→Prop}{w:World}{k:Nat}{N:FN}{env:Env}(g:Nat×Bool)(d:Option Nat)(x y:Operand)(ts:Array TypeId)(ty:Nat)(kd:IntKind)(i j:Int)(h:∀a,Fr a N (dN env d (.int kd (max i j)))→bw P c K Q (k+1) a w)(hk:ao c k=some (d,.call {callee:= .builtin .max,args:=#[x,y],argTypes:=ts},ty,some g):=by kernel_rfl)(hg:bu c (some g) env=some true:=by kernel_rfl)(hd:gL d N=true:=by kernel_rfl)(hx:ev env x=some (.int kd i):=by kernel_rfl)(hy:ev env y=some (.int kd j):=by kernel_rfl):∀a,Fr a N env→bw P c K Q k a w:=fun _ hF=>ef (m:=true) hk hF hg hd hx hy _ rfl h
theorem dML{P:Program}{c:Code}{Q:Exit→Act→World→Prop}{N:FN}{i:Nat}{env0:Env}{wr:World}{sp:Nat→Spec}{b:Nat}{t kt e:TypeId}{l:List (Value×Value)}(hm:∀w,Kp wr w→tZ w b l)(ht:P.underlying t=some (.map kt e))(hv:sp i= .aQ (vI (l.length:Int)):=by rfl)(hg:∀vs,kB c i (bR c i sp vs env0)=some true:=by intro _;kernel_rfl)(hk:∀vs,mbE (one c i) N (bR c i sp vs env0) 0=some (bg c i,.len,t,b):=by intro _;kernel_rfl)(he:ao (one c i) 1=none:=by kernel_rfl):jt P c Q N env0 wr sp i:=by
 refine nt hg (fun w vs hK hp a hF=> ?_);obtain⟨args,RH,ty,g,h0,h1,h2,h3,rfl⟩:=Hh (hk vs);obtain⟨es,clock,hb,hl,fo,uA⟩:=hm w hK;refine dR h0 hF h1 h2 rfl (v:=vI (l.length:Int)) (fun o ho=> ?_) (fun a' ea _=>aF he ⟨_,ea,Kp.refl w,by rw[hv];rfl⟩);unfold execOp;rw[ho];have e2:args.map a.eval=#[.map (some b)]:=by apply Array.ext';simpa using nP hF h3
 have e3:l.length=es.size:=by rw[←hl];simp
 simp[resolve,e2,invoke,builtin,Builtin.len_,run_underlying ht,Sem.run_bind,Sem.run_pure,mc hb,Result.andThen,goInt,e3]
end Go.Mor
namespace Go.Proofs.YthgbejihcchcnaaDoor
open Go.Mor Go.RowKit
theorem Qak(ad:Addr)(v:Value)(w:World)(hc:w.cell? ad=some v):(callMethod (.iface 126 (vP ad)) "Len" #[]).run Tryd.prog w= .ok (.enter 115 #[v]) w:=by
 refine Fq (b:=false) kR ?_ kR (by rfl);exact(show _=(loadVar 68 ad).run Tryd.prog w by kernel_rfl).trans (BA kR hc)
theorem Mo(ad:Addr)(v:Value)(x y:Value)(w:World)(hc:w.cell? ad=some v):(callMethod (.iface 126 (vP ad)) "Less" #[x,y]).run Tryd.prog w= .ok (.enter 116 #[v,x,y]) w:=by
 refine Fq (b:=false) kR ?_ kR (by rfl);exact(show _=(loadVar 68 ad).run Tryd.prog w by kernel_rfl).trans (BA kR hc)
theorem Mp(ad:Addr)(v:Value)(x y:Value)(w:World)(hc:w.cell? ad=some v):(callMethod (.iface 126 (vP ad)) "Swap" #[x,y]).run Tryd.prog w= .ok (.enter 117 #[v,x,y]) w:=by
 refine Fq (b:=false) kR ?_ kR (by rfl);exact(show _=(loadVar 68 ad).run Tryd.prog w by kernel_rfl).trans (BA kR hc)
theorem Qal(p x:Value)(w:World):(callMethod (.iface 126 p) "Push" #[x]).run Tryd.prog w= .ok (.enter 119 #[p,x]) w:=kR
theorem Qdo(p:Value)(w:World):(callMethod (.iface 126 p) "Pop" #[]).run Tryd.prog w= .ok (.enter 118 #[p]) w:=kR
end Go.Proofs.YthgbejihcchcnaaDoor
namespace Go.Proofs.YthgbejihcchcnaaDoor
open Go.Mor
theorem Mq(A:aA)(n c:Nat)(w:World):Calls Tryd.prog 115 #[vS A n c] w (eU fun v w'=>v=vI (n:Int)∧Mem aR w w' []):=by
 refine fK 5 [vS A n c] Tryd.func115 ?_;have hM:=Mem.init w;refine bz<|bz<|cU<|dv (vI (n:Int)) ?_;exact⟨rfl,hM⟩
theorem BB(l:ar)(A:aA)(len c i j:Nat)(w:World)(hn:l.length=len)(hi:i<len)(hj:j<len)(hr:RO aR w (.rd A (ints l))):Calls Tryd.prog 116 #[vS A len c,nV i,nV j] w (eU fun v w'=>v=vB (decide (l.getD i 0<l.getD j 0))∧Mem aR w w' []):=by
 obtain⟨x,hx⟩:=ba (l:=l) (i:=i) oM;obtain⟨y,hy⟩:=ba (l:=l) (i:=j) oM;have ex:l.getD i 0=x:=by simp[List.getD,hx]
 have ey:l.getD j 0=y:=by simp[List.getD,hy]
 refine fK 16 [vS A len c,nV i,nV j] Tryd.func116 ?_;have hM:=Mem.init w;refine bz<|bb ?_;obtain⟨ub,rfl⟩:=rd_some (hM.ro hr) (by simp[ints];omega);refine aJ [0,1,2] ?_;intro aC fr;refine Mj 8 (bI [eS (some ub) len c,.aQ (nV i),eA ub (i:Int) 1,eI x,eS (some ub) len c,.aQ (nV j),eA ub (j:Int) 1,eI y]) fr (rz lz dP dP (dI ub len 1 (i:Int)) (dL (aN ub (i:Int) 1) _ fun w_ hK=>(dd ((hM.ay hK).ro hr) rfl hx)) dP dP (dI ub len 1 (j:Int)) (dL (aN ub (j:Int) 1) _ fun w_ hK=>(dd ((hM.ay hK).ro hr) rfl hy))) ?_;intro aC w6 vs hK hv fr;revert aC;refine cT [(10,vI x),(14,vI y)] ?_;have M7:=hM.ay hK;clear hK hv fr aC hM;clear vs;refine ah 2<|ax<|cU<|dv (vB (decide ((x:Int)<y))) ?_;exact⟨by rw[ex,ey],M7⟩
theorem BC(l:ar)(A:aA)(len c i j:Nat)(w:World)(hn:l.length=len)(hi:i<len)(hj:j<len)(hr:(aL.row 3 1 A len c (ints l)).holds w):Calls Tryd.prog 117 #[vS A len c,nV i,nV j] w (eU fun v w'=>v= .tuple #[]∧Mem (aL.row 3 1 A len c (ints l)).fp w w' [.row 3 1 A len c (ints (Fm l i j))]):=by
 obtain⟨x,hx⟩:=ba (l:=l) (i:=i) oM;obtain⟨y,hy⟩:=ba (l:=l) (i:=j) oM;have ex:l.getD i 0=x:=by simp[List.getD,hx]
 have ey:l.getD j 0=y:=by simp[List.getD,hy]
 refine fK 20 [vS A len c,nV i,nV j] Tryd.func117 ?_;have hM:=Mem.kr hr;obtain⟨g1,rfl⟩:=bB (hM.get 0 rfl) oM;refine aJ [0,1,2] ?_;intro aC fr;refine xN (bI [eS (sM g1) len c,.aQ (nV i),eS (sM g1) len c,.aQ (nV j),eS (sM g1) len c,.aQ (nV j),eA (aZ g1) (j:Int) 1,eI y,eS (sM g1) len c,.aQ (nV i),eA (aZ g1) (i:Int) 1,eI x,eA (aZ g1) (i:Int) 1,.aQ undef,eA (aZ g1) (j:Int) 1,.aQ undef]) (fun ls vs w_=>match ls 15 with|true=>(Mem (aL.row 3 1 (sM g1) len c (ints l)).fp w w_ [.row 3 1 (sM g1) len c (((ints l).set (((i:Int)).toNat*1) (vI y)).set (((j:Int)).toNat*1) (vI x))])|false=>(match ls 13 with|true=>(Mem (aL.row 3 1 (sM g1) len c (ints l)).fp w w_ [.row 3 1 (sM g1) len c ((ints l).set (((i:Int)).toNat*1) (vI y))])|false=>(Mem (aL.row 3 1 (sM g1) len c (ints l)).fp w w_ [.row 3 1 (sM g1) len c (ints l)]))) fr (dW (.aQ (.aQ (.aQ (.aQ (.aQ (.aQ (.aQ (.aQ (.aQ (.aQ (.aQ (.aQ (.aQ (.aQ (.aQ (.aQ .nil))))))))))))))))) (hM.ay (Mem.drew _)) (la (oJ (gM lz (eW fun _ _ _ _ h=>h) (eW fun _ _ _ _ h=>h) (eW fun _ _ _ _ h=>h) (eW fun _ _ _ _ h=>h) (eW fun _ _ _ _ h=>h) (eW fun _ _ _ _ h=>h) (oC (aZ g1) len 1 (j:Int) fun _ _ _ _ h=>h) (nj (aN (aZ g1) (j:Int) 1) (vI y) (fun _ _ _ _ h=>h) ?_) (eW fun _ _ _ _ h=>h) (eW fun _ _ _ _ h=>h) (oC (aZ g1) len 1 (i:Int) fun _ _ _ _ h=>h) (nj (aN (aZ g1) (i:Int) 1) (vI x) (fun _ _ _ _ h=>h) ?_)) (oC (aZ g1) len 1 (i:Int) fun _ _ _ _ h=>h) ?_ (oC (aZ g1) len 1 (j:Int) fun _ _ _ _ h=>h)) ?_) ?_;intro w_ ls vs hJ bD bE hp;have f13:ls 13=false:=aH bE bD (n:=16) kR;have f15:ls 15=false:=aH bE bD (n:=16) kR;have aO:=hJ;simp only[f13,f15]at aO;exact(dd (az (aO.get 0 rfl)) rfl hy);intro w_ ls vs hJ bD bE hp;have f13:ls 13=false:=aH bE bD (n:=16) kR;have f15:ls 15=false:=aH bE bD (n:=16) kR;have aO:=hJ;simp only[f13,f15]at aO;exact(dd (az (aO.get 0 rfl)) rfl hx);intro dt w_ ls vs bT hJ bD bE hp hF;refine hZ (g0:=none) ?_;replace hF:Fr dt 20 [(13,vI y),(18,(vP (aN (aZ g1) (i:Int) 1)))]:=hF.kp [13,18];have f13:ls 13=false:=bD;have f15:ls 15=false:=aH bE bD (n:=16) kR;have aO:=hJ;simp only[f13,f15]at aO;refine cD (kR:ao _ 0=some (none,.store 3 (.tmp 18) (.tmp 13),0,none)) hF kR kR (k':=1) rfl (ad:=(aZ g1)) (j:=(((i:Int)).toNat*1)) (e:=3) (size:=1) (n:=len) (cap:=c) (v:=(vI y)) (xs:=(ints l)) (ad':=(aN (aZ g1) (i:Int) 1)) kR rfl kR kR rfl aO 0 rfl oM ?_;intro w2 eD _ a2 ea _;refine aF kR ?_;refine aP (d:=none) kR ea rfl ?_;show match ls 15 with|true=>_|false=>(_)
 rw[f15];exact eD;intro dt w_ ls vs bT hJ bD bE hp hF;refine hZ (g0:=none) ?_;replace hF:Fr dt 20 [(17,vI x),(19,(vP (aN (aZ g1) (j:Int) 1)))]:=hF.kp [17,19];have f13:ls 13=true:=bd bE (fun k hk=>(hp k hk).1) (n:=16) kR;have f15:ls 15=false:=bD;have aO:=hJ;simp only[f13,f15]at aO;refine cD (kR:ao _ 0=some (none,.store 3 (.tmp 19) (.tmp 17),0,none)) hF kR kR (k':=1) rfl (ad:=(aZ g1)) (j:=(((j:Int)).toNat*1)) (e:=3) (size:=1) (n:=len) (cap:=c) (v:=(vI x)) (xs:=((ints l).set (((i:Int)).toNat*1) (vI y))) (ad':=(aN (aZ g1) (j:Int) 1)) kR rfl kR kR rfl aO 0 rfl oM ?_;intro w2 eD _ a2 ea _;refine aF kR ?_;refine aP (d:=none) kR ea rfl ?_;show _;exact eD;intro aC w6 ls vs cr M7 hv fr;simp only[show ls 15=true from cr 15 dQ]at M7;revert aC;refine cT [] ?_;clear cr hv fr aC hM;clear vs ls;refine tf ?_;have M8:Mem (aL.row 3 1 (sM g1) len c (ints l)).fp w w6 [.row 3 1 (sM g1) len c (ints (Fm l i j))]:=M7.cast (by simp only[Int.toNat_natCast,Nat.mul_one,Fm,ints_set,ex,ey]);exact⟨rfl,M8⟩
theorem V0(g:Nat)(pl nx:Value)(l:ar)(A:aA)(c:Nat)(w:World)(h0:0<l.length)(hb:(aL.ak g 70 [pl,.slice A l.length c,nx]).holds w)(hr:(aL.row 3 1 A l.length c (ints l)).holds w)(qk:∀k,(aL.ak g 70 [pl,.slice A l.length c,nx]).fp k→¬(aL.row 3 1 A l.length c (ints l)).fp k)(vc:l.length≤1000000):Calls Tryd.prog 118 #[pT g 1] w (eU fun v w'=>v= .iface 3 (vI (l.getD (l.length-1) 0))∧Mem ((aL.ak g 70 [pl,.slice A l.length c,nx]).and (aL.row 3 1 A l.length c (ints l))).fp w w' [.ak g 70 [pl,.slice A (l.length-1) c,nx],.row 3 1 A (l.length-1) c (ints (l.take (l.length-1)))]):=by
 refine fK 23 [pT g 1] Tryd.func118 ?_;have hM:=Mem.vQ hb hr qk;refine bz<|aK<|ah 2<|bl (aq g 1) _ (aa (hM.get 0 rfl) rfl)<|ah 1<|ax<|aK ?_;obtain⟨x,hx⟩:=ba (l:=l) (i:=l.length-1) oM;have ex:l.getD (l.length-1) 0=x:=by simp[List.getD,hx]
 have uV:=vx hr;refine ah 3 ?_;intro aC fr;refine mB (some 11) ((l.length-1:Nat):Int) fr (z0:=(l.length:Int)-1) kR oM oM oM ?_;intro aC fr;obtain⟨g6,rfl⟩:=bB (hM.get 1 rfl) oM;revert aC;refine ek (aZ g6) l.length 1 ((l.length-1:Nat):Int)<|bl (aN (aZ g6) ((l.length-1:Nat):Int) 1) _ (dd (az (hM.get 1 rfl)) rfl hx)<|ah 1<|ax<|aK<|ah 4<|dB ((l.length:Int)-1) ?_;refine zhi (A:=(sM g6)) (cap:=c) (i:=(l.length:Int)-1) (l.length-1) oM oM ?_ kR;refine aJ [4,14,19]<|ah 1<|AD (ho:=sI) hM 0 1 (vS (sM g6) (l.length-1) c) rfl fun w7 M8=> ?_
 replace M8:=M8.nf;clear hM;refine ax<|bz<|cU<|dv (.iface 3 (vI x)) ?_;have M9:Mem ((aL.ak g 70 [pl,.slice (sM g6) l.length c,nx]).and (aL.row 3 1 (sM g6) l.length c (ints l))).fp w w7 [.ak g 70 [pl,vS (sM g6) (l.length-1) c,nx],.row 3 1 (sM g6) (l.length-1) c (ints (l.take (l.length-1)))]:=(M8.o7 1 rfl (l.length-1) oM).cast (by simp[ints,List.map_take]);exact⟨by rw[ex],M9⟩
theorem RJ(g:Nat)(pl nx:Value)(l:ar)(A:aA)(c:Nat)(x:Int)(w:World)(hb:(aL.ak g 70 [pl,.slice A l.length c,nx]).holds w)(hr:(aL.row 3 1 A l.length c (ints l)).holds w)(qk:∀k,(aL.ak g 70 [pl,.slice A l.length c,nx]).fp k→¬(aL.row 3 1 A l.length c (ints l)).fp k)(vc:l.length≤1000000):Calls Tryd.prog 119 #[pT g 1,.iface 3 (vI x)] w (eU fun v w'=>∃A' c',v= .tuple #[]∧Mem ((aL.ak g 70 [pl,.slice A l.length c,nx]).and (aL.row 3 1 A l.length c (ints l))).fp w w' [.ak g 70 [pl,.slice A' (l.length+1) c',nx],.row 3 1 A' (l.length+1) c' (ints (l++[x]))]):=by
 refine fK 13 [pT g 1,.iface 3 (vI x)] Tryd.func119 ?_;have hM:=Mem.vQ hb hr qk;refine aJ [0,1] ?_;intro aC fr;refine xN (bI [eR g 1,eR g 1,eR g 1,eS A l.length c,.aQ (.iface 3 (vI x)),eI x,Spec.free,Spec.free,eR g 1,.aQ undef]) (fun ls vs w_=>match ls 9 with|true=>(∃(g1:Nat) (A2:aA) (c3:Nat),vs 6=(vS (sM g1) 1 1)∧vs 7=(vS A2 (l.length+1) c3)∧Mem ((aL.ak g 70 [pl,.slice A l.length c,nx]).and (aL.row 3 1 A l.length c (ints l))).fp w w_ [.ak g 70 [pl,vS A2 (l.length+1) c3,nx],.row 3 1 A2 (l.length+1) c3 ((ints l)++[vI x]),.row 3 1 (sM g1) 1 1 [vI x]])|false=>(match ls 7 with|true=>(∃(g1:Nat) (A2:aA) (c3:Nat),vs 6=(vS (sM g1) 1 1)∧vs 7=(vS A2 (l.length+1) c3)∧Mem ((aL.ak g 70 [pl,.slice A l.length c,nx]).and (aL.row 3 1 A l.length c (ints l))).fp w w_ [.ak g 70 [pl,vS A l.length c,nx],.row 3 1 A2 (l.length+1) c3 ((ints l)++[vI x]),.row 3 1 (sM g1) 1 1 [vI x]])|false=>(match ls 6 with|true=>(∃(g1:Nat),vs 6=(vS (sM g1) 1 1)∧Mem ((aL.ak g 70 [pl,.slice A l.length c,nx]).and (aL.row 3 1 A l.length c (ints l))).fp w w_ [.ak g 70 [pl,vS A l.length c,nx],.row 3 1 A l.length c (ints l),.row 3 1 (sM g1) 1 1 [vI x]])|false=>(Mem ((aL.ak g 70 [pl,.slice A l.length c,nx]).and (aL.row 3 1 A l.length c (ints l))).fp w w_ [.ak g 70 [pl,vS A l.length c,nx],.row 3 1 A l.length c (ints l)])))) fr (dW (.aQ (.aQ (.aQ (.aQ (.aQ (.aQ (.free (.free (.aQ (.aQ .nil))))))))))) (hM.ay (Mem.drew _)) (ra (rz lz (eW fun _ _ _ _ h=>h) (eW fun _ _ _ _ h=>h) (eW fun _ _ _ _ h=>h) (nj (aq g 1) (vS A l.length c) (fun _ _ _ _ h=>h) ?_) (eW fun _ _ _ _ h=>h) ?_ ?_ ?_) (eW fun _ _ _ _ h=>h) ?_) ?_;intro w_ ls vs hJ bD bE hp;have f7:ls 7=false:=aH bE bD (n:=10) kR;have f9:ls 9=false:=aH bE bD (n:=10) kR;have aO:=hJ;simp only[f7,f9]at aO;cases fu:ls 6;simp only[fu]at aO;exact(aa (aO.get 0 rfl) rfl);simp only[fu]at aO;obtain⟨_,_,aO⟩:=aO;exact(aa (aO.get 0 rfl) rfl);intro dt w_ ls vs bT hJ bD bE hp hF;refine hZ (g0:=none) ?_;replace hF:Fr dt 13 [(8,.iface 3 (vI x))]:=hF.kp [8];have f6:ls 6=false:=aH bE bD (n:=10) kR;have f7:ls 7=false:=aH bE bD (n:=10) kR;have f9:ls 9=false:=aH bE bD (n:=10) kR;have aO:=hJ;simp only[f6,f7,f9]at aO;refine Hg (kR:ao _ 0=some (some 9,.typeAssert (.tmp 8) 20 3 false,3,none)) hF kR kR (k':=1) rfl (X:=(.iface 3 (vI x))) (v:=(vI x)) kR kR ?_;intro a2 ea _;refine aF kR ?_;exact aP (d:=some 9) kR ea rfl hJ;intro dt w_ ls vs bT hJ bD bE hp hF;refine hZ (g0:=none) ?_;replace hF:Fr dt 13 [(9,vI x)]:=hF.kp [9];have f6:ls 6=false:=bD;have f7:ls 7=false:=aH bE bD (n:=10) kR;have f9:ls 9=false:=aH bE bD (n:=10) kR;have aO:=hJ;simp only[f6,f7,f9]at aO;refine rr 10 68 1 #[(0,.tmp 9)] 68 hF (e:=3) (size:=1) (zs:=[vI 0]) (vs:=[(0,vI x)]) (cs:=[vI x]) aO ?_;intro Y8 w2 _ _ eD _ a2 ea _;refine aF kR ?_;refine aP (d:=some 10) kR ea trivial ?_;show match ls 9 with|true=>_|false=>(match ls 7 with|true=>_|false=>(∃(g1:Nat),_))
 rw[f9,f7];exact⟨Y8,rfl,eD⟩;intro dt w_ ls vs bT hJ bD bE hp hF;refine hZ (g0:=none) ?_;replace hF:Fr dt 13 [(7,vS A l.length c),(10,vs 6)]:=hF.kp [7,10];have f6:ls 6=true:=bd bE (fun k hk=>(hp k hk).1) (n:=10) kR;have f7:ls 7=false:=bD;have f9:ls 9=false:=aH bE bD (n:=10) kR;have aO:=hJ;simp only[f6,f7,f9]at aO;obtain⟨Y8,Hi,aO⟩:=aO;try rw[Hi]at hF
 refine th 11 (.tmp 7) (.tmp 10) 68 68 hF (e:=3) (size:=1) (bytes:=8) (z:=(vI 0)) (A:=A) (B:=(sM Y8)) (n:=l.length) (cap:=c) (m:=1) (cap':=1) (xs:=(ints l)) (news:=[vI x]) aO 1 rfl (az (aO.get 2 rfl)) rfl (by simp[Value.oneCell']) oM (by simp only[maxLen];omega) ?_;intro Y9 Za w2 eD _ a2 ea _;refine aF kR ?_;refine aP (d:=some 11) kR ea trivial ?_;show match ls 9 with|true=>_|false=>(∃(g1:Nat) (A2:aA) (c3:Nat),_)
 rw[f9];exact⟨Y8,Y9,Za,Hi,rfl,eD⟩;intro dt w_ ls vs bT hJ bD bE hp hF;refine hZ (g0:=none) ?_;replace hF:Fr dt 13 [(11,vs 7),(12,pT g 1)]:=hF.kp [11,12];have f6:ls 6=true:=bd bE (fun k hk=>(hp k hk).1) (n:=10) kR;have f7:ls 7=true:=bd bE (fun k hk=>(hp k hk).1) (n:=10) kR;have f9:ls 9=false:=bD;have aO:=hJ;simp only[f6,f7,f9]at aO;obtain⟨Y8,Y9,Za,Hi,tC,aO⟩:=aO;try rw[Hi]at hF
 try rw[tC]at hF
 refine oW (kR:ao _ 0=some (none,.store 68 (.tmp 12) (.tmp 11),0,none)) hF kR kR (k':=1) rfl (b:=g) (off:=1) (t0:=70) (v:=(vS Y9 (l.length+1) Za)) (cs:=[pl,vS A l.length c,nx]) kR kR kR rfl aO 0 rfl sI ?_;intro w2 eD _ a2 ea _;refine aF kR ?_;refine aP (d:=none) kR ea rfl ?_;show∃(g1:Nat) (A2:aA) (c3:Nat),_;exact⟨Y8,Y9,Za,Hi,tC,eD⟩;intro aC w8 ls vs cr M9 hv fr;simp only[show ls 9=true from cr 9 dQ]at M9;revert aC;refine cT [] ?_;obtain⟨g1,A2,c3,Hi,tC,M9⟩:=M9;try rw[Hi]
 try rw[tC]
 clear Hi tC;clear cr hv fr aC hM;clear vs ls;refine tf ?_;have me:Mem ((aL.ak g 70 [pl,.slice A l.length c,nx]).and (aL.row 3 1 A l.length c (ints l))).fp w w8 [.ak g 70 [pl,vS A2 (l.length+1) c3,nx],.row 3 1 A2 (l.length+1) c3 (ints (l++[x])),.row 3 1 (sM g1) 1 1 [vI x]]:=M9.cast (by simp[ints]);have nC:=me.od [1,1] 2;exact⟨_,_,rfl,nC⟩
end Go.Proofs.YthgbejihcchcnaaDoor
namespace Go.Proofs.YthgbejihcchcnaaDoor
open Go.Mor
theorem Qdp(g:Nat)(pl nx:Value)(l:ar)(A:aA)(len c:Nat)(j0:Nat)(w:World)(hj0:j0<len)(hn:l.length=len)(hb:(aL.ak g 70 [pl,.slice A len c,nx]).holds w)(hr:(aL.row 3 1 A len c (ints l)).holds w)(qk:∀k,(aL.ak g 70 [pl,.slice A len c,nx]).fp k→¬(aL.row 3 1 A len c (ints l)).fp k)(vc:len≤1000000):Calls Tryd.prog 95 #[.iface 126 (pT g 1),nV j0] w (eU fun v w'=>v= .tuple #[]∧Mem ((aL.ak g 70 [pl,.slice A len c,nx]).and (aL.row 3 1 A len c (ints l))).fp w w' [.ak g 70 [pl,.slice A len c,nx],.row 3 1 A len c (ints (En (j0+1) l j0))]):=by
 refine fK 23 [.iface 126 (pT g 1),nV j0] Tryd.func95 ?_;have hM:=Mem.vQ hb hr qk;refine cp 0 ?_;intro aC fr;refine fk (fun n_ a_ w_=>∃(f:Nat) (j:Nat) (m:ar),n_=2*f∧Fr a_ 23 [(0,.iface 126 (pT g 1)),(1,nV j)]∧Mem ((aL.ak g 70 [pl,.slice A len c,nx]).and (aL.row 3 1 A len c (ints l))).fp w w_ [.ak g 70 [pl,vS A len c,nx],.row 3 1 A len c (ints m)]∧(j<f)∧(j<len)∧(m.length=len)∧(En f m j=En (j0+1) l j0)) (n:=_) ⟨(j0+1),j0,l,rfl,fr.kp [0,1],hM,oM,oM,hn,rfl⟩ ?_;clear fr aC hM;rintro n aC w3 ⟨f,j,m,rfl,fr,M4,hf,hj,hm,Dw⟩;revert aC;refine cp 1<|aK ?_;obtain⟨f0,rfl⟩:∃f0,f=f0+1:=⟨f-1,oM⟩;refine ah 1<|dB ((j:Int)-1) ?_;intro aC fr;refine bL (kR:ao _ 2=some (some 7,.binOp .quo 3 (.tmp 6) (.const (vI 2)) 3,3,none)) fr kR kR (k':=3) rfl (kd:= .i64) (kd':= .i64) (i:=(j:Int)-1) (j:=2) (z:=vI ((((j-1) / 2):Nat):Int)) kR kR (fun w=>Ml oM w) ?_;intro aC ea fr;clear ea;revert aC;refine ah 1<|ax<|bb<|aK<|ah 4 ?_;obtain⟨Zb,V1⟩:∃B:Bool,B=((((((j-1) / 2):Nat):Int):Int)==(j:Int)):=⟨_,rfl⟩;refine cT [(0,.iface 126 (pT g 1)),(1,nV j),(4,(vI ((((j-1) / 2):Nat):Int))),(11,(vB ((((((j-1) / 2):Nat):Int):Int)==(j:Int))))] ?_;rw[←V1];have Qam:Zb=true↔((((((j-1) / 2):Nat):Int):Int)=(j:Int)):=by rw[V1];simp only[beq_iff_eq]
 clear V1;intro aC fr;refine cP 3 7 [12,13,14] fr (news:=[(12,cond (!Zb) (.iface 126 (pT g 1)) undef),(13,cond (!Zb) (nV j) undef),(14,(cond (!Zb) (vI ((((j-1) / 2):Nat):Int)) undef))]) (by cases Zb<;>kernel_rfl) ?_;intro aC fr;cases Zb;have Ck:¬((((((j-1) / 2):Nat):Int):Int)=(j:Int)):=kg Qam.2;revert aC;refine P3 (rv:=(.iface 126 (pT g 1))) (nm:= "Less") (vs:=[nV j,(vI ((((j-1) / 2):Nat):Int))]) (BB m A len c j ((j-1) / 2) w3 hm oM oM (RO.of (az (M4.get 1 rfl)))) ?_ (Mo _ _ _ _ _ (aa (M4.get 0 rfl) rfl));rintro _ Ep ⟨rfl,Qdq⟩;have mm:=M4.cl Qdq;refine ah 2<|ax<|fa (!(decide (m.getD j 0<m.getD ((j-1) / 2) 0))) (¬(m.getD j 0<m.getD ((j-1) / 2) 0)) (by simp only[jG,decide_eq_true_eq]) (fun iy=> ?_) (fun iy=> ?_);refine eX 0<|zbm<|eY<|tf ?_;have kv:Mem ((aL.ak g 70 [pl,.slice A len c,nx]).and (aL.row 3 1 A len c (ints l))).fp w Ep [.ak g 70 [pl,vS A len c,nx],.row 3 1 A len c (ints (En (j0+1) l j0))]:=mm.cast (by rw[←Dw,Dr (by first|exact .inl oM|exact .inr (by assumption))]);exact⟨rfl,kv⟩;refine bZ<|aK<|ah 3 ?_;refine P3 (rv:=(.iface 126 (pT g 1))) (nm:= "Swap") (vs:=[(vI ((((j-1) / 2):Nat):Int)),nV j]) (BC m A len c ((j-1) / 2) j Ep hm oM oM (mm.get 1 rfl)) ?_ (Mp _ _ _ _ _ (aa (mm.get 0 rfl) rfl));rintro _ Ac ⟨rfl,V2⟩;have wR:=mm.md 1 rfl V2;refine ax<|Ci ?_;intro aC fr;exact⟨2*f0,oM,f0,((j-1) / 2),(Fm m ((j-1) / 2) j),rfl,fr.kp [0,1],wR,oM,oM,by rw[kf];exact hm,by rw[←Dw];exact(VW oM (by first|assumption|exact Classical.not_not.1 (by assumption))).symm⟩;have Ck:((((((j-1) / 2):Nat):Int):Int)=(j:Int)):=Qam.1 rfl;revert aC;refine ah 3<|ax<|gO<|eX 0<|zbm<|eY<|tf ?_;have qn:Mem ((aL.ak g 70 [pl,.slice A len c,nx]).and (aL.row 3 1 A len c (ints l))).fp w w3 [.ak g 70 [pl,vS A len c,nx],.row 3 1 A len c (ints (En (j0+1) l j0))]:=M4.cast (by rw[←Dw,Dr (by first|exact .inl oM|exact .inr (by assumption))]);exact⟨rfl,qn⟩
theorem V3(g:Nat)(pl nx:Value)(l:ar)(A:aA)(len c:Nat)(F0 i0 n0:Nat)(w:World)(V4:i0<len)(Re:n0≤len)(V5:n0<F0+i0)(hn:l.length=len)(hb:(aL.ak g 70 [pl,.slice A len c,nx]).holds w)(hr:(aL.row 3 1 A len c (ints l)).holds w)(qk:∀k,(aL.ak g 70 [pl,.slice A len c,nx]).fp k→¬(aL.row 3 1 A len c (ints l)).fp k)(vc:len≤1000000):Calls Tryd.prog 94 #[.iface 126 (pT g 1),nV i0,nV n0] w (eU fun v w'=>∃b,v=vB b∧Mem ((aL.ak g 70 [pl,.slice A len c,nx]).and (aL.row 3 1 A len c (ints l))).fp w w' [.ak g 70 [pl,.slice A len c,nx],.row 3 1 A len c (ints (Dq F0 l i0 n0))]):=by
 refine fK 48 [.iface 126 (pT g 1),nV i0,nV n0] Tryd.func94 ?_;have hM:=Mem.vQ hb hr qk;refine bz<|bz<|bb<|cp 0 ?_;intro aC fr;refine fk (fun n_ a_ w_=>∃(f:Nat) (i:Nat) (m:ar),n_=2*f∧Fr a_ 48 [(0,.iface 126 (pT g 1)),(1,nV i0),(2,nV n0),(7,nV i)]∧Mem ((aL.ak g 70 [pl,.slice A len c,nx]).and (aL.row 3 1 A len c (ints l))).fp w w_ [.ak g 70 [pl,vS A len c,nx],.row 3 1 A len c (ints m)]∧(n0<f+i)∧(i<len)∧(m.length=len)∧(Dq f m i n0=Dq F0 l i0 n0)) (n:=_) ⟨F0,i0,l,rfl,fr.kp [0,1,2,7],hM,oM,oM,hn,rfl⟩ ?_;clear fr aC hM;rintro n aC w3 ⟨f,i,m,rfl,fr,M4,hf,hi,hm,gK⟩;revert aC;refine cp 1<|aK<|ah 1 ?_;intro aC fr;refine mB (some 13) ((2*i:Nat):Int) fr (z0:=2*(i:Int)) kR oM oM oM ?_;intro aC fr;refine mB (some 14) ((2*i+1:Nat):Int) fr (z0:=((2*i:Nat):Int)+1) kR oM oM oM ?_;intro aC fr;revert aC;refine ah 1<|ax<|bb<|aK<|ah 4 ?_;obtain⟨Hj,Fs⟩:∃B:Bool,B=decide ((((2*i+1:Nat):Int):Int)≥(n0:Int)):=⟨_,rfl⟩;refine cT [(0,.iface 126 (pT g 1)),(1,nV i0),(2,nV n0),(7,nV i),(8,(vI ((2*i+1:Nat):Int))),(18,(vB (decide ((((2*i+1:Nat):Int):Int)≥(n0:Int)))))] ?_;rw[←Fs];have RK:Hj=true↔((((2*i+1:Nat):Int):Int)≥(n0:Int)):=by rw[Fs];simp only[decide_eq_true_eq]
 clear Fs;intro aC fr;refine cP 3 7 [21] fr (news:=[(21,(vB (Hj||decide ((((2*i+1:Nat):Int):Int)<0))))]) (by cases Hj<;>kernel_rfl) ?_;intro aC fr;revert aC;refine ax<|fa (Hj||decide ((((2*i+1:Nat):Int):Int)<0)) (((((2*i+1:Nat):Int):Int)≥(n0:Int))∨((((2*i+1:Nat):Int):Int)<0)) (by simp only[Bool.or_eq_true,decide_eq_true_eq,RK]) (fun iy=> ?_) (fun iy=> ?_);refine eX 0<|zbm<|eY<|bz<|cU<|dv (vB (decide ((i:Int)>(i0:Int)))) ?_;have kv:Mem ((aL.ak g 70 [pl,.slice A len c,nx]).and (aL.row 3 1 A len c (ints l))).fp w w3 [.ak g 70 [pl,vS A len c,nx],.row 3 1 A len c (ints (Dq F0 l i0 n0))]:=M4.cast (by rw[←gK,zq (by first|exact .inl oM|exact .inr (by rw[←hjj];assumption))]);exact⟨_,rfl,kv⟩;refine bZ<|bz<|bb<|aK<|ah 1 ?_;intro aC fr;refine mB (some 24) ((2*i+1+1:Nat):Int) fr (z0:=((2*i+1:Nat):Int)+1) kR oM oM oM ?_;intro aC fr;revert aC;refine ah 1<|ax ?_;intro aC fr;refine kN (fun a_ w_=>∃(jj:Nat),Fr a_ 48 [(0,.iface 126 (pT g 1)),(1,nV i0),(2,nV n0),(7,nV i),(9,nV jj)]∧Mem ((aL.ak g 70 [pl,.slice A len c,nx]).and (aL.row 3 1 A len c (ints l))).fp w w_ [.ak g 70 [pl,vS A len c,nx],.row 3 1 A len c (ints m)]∧(jj<n0)∧(jj=(Eo m (2*i+1) n0))) ?_ ?_;clear fr aC M4;rintro aC P4 ⟨jj,fr,k8,Eg,hjj⟩;revert aC;refine bb<|aK ?_;have hjg:i<jj:=by have:=VV (l:=m) (j:=2*i+1) (n:=n0);omega
 refine ah 3 ?_;refine P3 (rv:=(.iface 126 (pT g 1))) (nm:= "Less") (vs:=[nV jj,nV i]) (BB m A len c jj i P4 hm oM oM (RO.of (az (k8.get 1 rfl)))) ?_ (Mo _ _ _ _ _ (aa (k8.get 0 rfl) rfl));rintro _ P5 ⟨rfl,Qdr⟩;have pF:=k8.cl Qdr;refine ah 1<|ax<|fa (!(decide (m.getD jj 0<m.getD i 0))) (¬(m.getD jj 0<m.getD i 0)) (by simp only[jG,decide_eq_true_eq]) (fun rA=> ?_) (fun rA=> ?_);refine eX 0<|zbm<|eY<|bz<|cU<|dv (vB (decide ((i:Int)>(i0:Int)))) ?_;have uG:Mem ((aL.ak g 70 [pl,.slice A len c,nx]).and (aL.row 3 1 A len c (ints l))).fp w P5 [.ak g 70 [pl,vS A len c,nx],.row 3 1 A len c (ints (Dq F0 l i0 n0))]:=pF.cast (by rw[←gK,zq (by first|exact .inl oM|exact .inr (by rw[←hjj];assumption))]);exact⟨_,rfl,uG⟩;refine bZ<|aK ?_;obtain⟨f0,rfl⟩:∃f0,f=f0+1:=⟨f-1,oM⟩;refine ah 3 ?_;refine P3 (rv:=(.iface 126 (pT g 1))) (nm:= "Swap") (vs:=[nV i,nV jj]) (BC m A len c i jj P5 hm oM oM (pF.get 1 rfl)) ?_ (Mp _ _ _ _ _ (aa (pF.get 0 rfl) rfl));rintro _ Ft ⟨rfl,V6⟩;have kG:=pF.md 1 rfl V6;refine ax<|Ci ?_;intro aC fr;exact⟨2*f0,oM,f0,jj,(Fm m i jj),rfl,fr.kp [0,1,2,7],kG,oM,oM,by rw[kf];exact hm,by rw[←gK,hjj];exact(VX oM (by rw[←hjj];first|assumption|exact Classical.not_not.1 (by assumption))).symm⟩;revert aC;refine aK<|ah 4 ?_;obtain⟨Jj,Fu⟩:∃B:Bool,B=decide ((((2*i+1+1:Nat):Int):Int)<(n0:Int)):=⟨_,rfl⟩;refine cT [(0,.iface 126 (pT g 1)),(1,nV i0),(2,nV n0),(7,nV i),(8,(vI ((2*i+1:Nat):Int))),(9,(vI ((2*i+1:Nat):Int))),(10,(vI ((2*i+1+1:Nat):Int))),(28,(vB (decide ((((2*i+1+1:Nat):Int):Int)<(n0:Int)))))] ?_;rw[←Fu];have RL:Jj=true↔((((2*i+1+1:Nat):Int):Int)<(n0:Int)):=by rw[Fu];simp only[decide_eq_true_eq]
 clear Fu;intro aC fr;refine cP 3 7 [29,30,31] fr (news:=[(29,cond Jj (.iface 126 (pT g 1)) undef),(30,(cond Jj (vI ((2*i+1+1:Nat):Int)) undef)),(31,(cond Jj (vI ((2*i+1:Nat):Int)) undef))]) (by cases Jj<;>kernel_rfl) ?_;intro aC fr;cases Jj;have Af:¬((((2*i+1+1:Nat):Int):Int)<(n0:Int)):=kg RL.2;revert aC;refine ah 2<|ax<|il<|bZ ?_;intro aC fr;exact⟨2*i+1,fr.kp [0,1,2,7,9],M4,oM,by unfold Eo;first|(rw[if_pos ⟨oM,by assumption⟩])|(rw[if_neg (fun h=>by have h1:=h.1;have h2:=h.2;first|omega|contradiction)])⟩;have Af:((((2*i+1+1:Nat):Int):Int)<(n0:Int)):=RL.1 rfl;revert aC;refine P3 (rv:=(.iface 126 (pT g 1))) (nm:= "Less") (vs:=[(vI ((2*i+1+1:Nat):Int)),(vI ((2*i+1:Nat):Int))]) (BB m A len c (2*i+1+1) (2*i+1) w3 hm oM oM (RO.of (az (M4.get 1 rfl)))) ?_ (Mo _ _ _ _ _ (aa (M4.get 0 rfl) rfl));rintro _ Mr ⟨rfl,Jk⟩;have lD:=M4.cl Jk;refine ah 1<|ax<|fJ (m.getD (2*i+1+1) 0<m.getD (2*i+1) 0) (fun RM=> ?_) (fun RM=> ?_);refine Ci ?_;intro aC fr;exact⟨2*i+1+1,fr.kp [0,1,2,7,9],lD,oM,by unfold Eo;first|(rw[if_pos ⟨oM,by assumption⟩])|(rw[if_neg (fun h=>by have h1:=h.1;have h2:=h.2;first|omega|contradiction)])⟩;refine bZ ?_;intro aC fr;exact⟨2*i+1,fr.kp [0,1,2,7,9],lD,oM,by unfold Eo;first|(rw[if_pos ⟨oM,by assumption⟩])|(rw[if_neg (fun h=>by have h1:=h.1;have h2:=h.2;first|omega|contradiction)])⟩
end Go.Proofs.YthgbejihcchcnaaDoor
namespace Go.Proofs.YthgbejihcchcnaaDoor
open Go.Mor
theorem V7(g:Nat)(pl nx:Value)(l:ar)(A:aA)(c:Nat)(x:Int)(w:World)(vc:l.length≤900000)(hb:(aL.ak g 70 [pl,.slice A l.length c,nx]).holds w)(hr:(aL.row 3 1 A l.length c (ints l)).holds w)(qk:∀k,(aL.ak g 70 [pl,.slice A l.length c,nx]).fp k→¬(aL.row 3 1 A l.length c (ints l)).fp k):Calls Tryd.prog 87 #[.iface 126 (pT g 1),.iface 3 (vI x)] w (eU fun v w'=>∃A' c',v= .tuple #[]∧Mem ((aL.ak g 70 [pl,.slice A l.length c,nx]).and (aL.row 3 1 A l.length c (ints l))).fp w w' [.ak g 70 [pl,.slice A' (l.length+1) c',nx],.row 3 1 A' (l.length+1) c' (ints (wM l x))]):=by
 refine fK 12 [.iface 126 (pT g 1),.iface 3 (vI x)] Tryd.func87 ?_;have hM:=Mem.vQ hb hr qk;refine aK<|ah 2 ?_;refine P3 (rv:=(.iface 126 (pT g 1))) (nm:= "Push") (vs:=[.iface 3 (vI x)]) (RJ g pl nx l A c x w (hM.get 0 rfl) (hM.get 1 rfl) (hM.Ev (i:=0) (j:=1) rfl rfl dQ) oM) ?_ (Qal _ _ _);rintro _ w3 ⟨A1,c2,rfl,M4x⟩;have M4:=hM.vL M4x;clear M4x hM;refine ax<|cN<|ah 2 ?_;refine P3 (rv:=(.iface 126 (pT g 1))) (nm:= "Len") (vs:=[]) (Mq A1 (l.length+1) c2 w3) ?_ (Qak _ _ _ (aa (M4.get 0 rfl) rfl));rintro _ w5 ⟨rfl,M6x⟩;have M6:=M4.cl M6x;intro aC fr;refine mB (some 10) (l.length:Int) fr (z0:=(((l.length+1):Nat):Int)-1) kR oM oM oM ?_;intro aC fr;revert aC;refine dZ (Qdp g pl nx (l++[x]) A1 (l.length+1) c2 l.length w5 oM sI (M6.get 0 rfl) (M6.get 1 rfl) (M6.Ev (i:=0) (j:=1) rfl rfl dQ) oM) ?_;rintro _ yf ⟨rfl,V8⟩;have iz:=M6.vL V8;refine ax<|tf ?_;exact⟨_,_,rfl,iz⟩
theorem Qan(g:Nat)(pl nx:Value)(l:ar)(A:aA)(c:Nat)(w:World)(h0:0<l.length)(vc:l.length≤900000)(hb:(aL.ak g 70 [pl,.slice A l.length c,nx]).holds w)(hr:(aL.row 3 1 A l.length c (ints l)).holds w)(qk:∀k,(aL.ak g 70 [pl,.slice A l.length c,nx]).fp k→¬(aL.row 3 1 A l.length c (ints l)).fp k):Calls Tryd.prog 86 #[.iface 126 (pT g 1)] w (eU fun v w'=>v= .iface 3 (vI (pD l))∧Mem ((aL.ak g 70 [pl,.slice A l.length c,nx]).and (aL.row 3 1 A l.length c (ints l))).fp w w' [.ak g 70 [pl,.slice A (l.length-1) c,nx],.row 3 1 A (l.length-1) c (ints (tB l))]):=by
 refine fK 15 [.iface 126 (pT g 1)] Tryd.func86 ?_;have hM:=Mem.vQ hb hr qk;refine bz<|aK<|ah 1 ?_;refine P3 (rv:=(.iface 126 (pT g 1))) (nm:= "Len") (vs:=[]) (Mq A l.length c w) ?_ (Qak _ _ _ (aa (hM.get 0 rfl) rfl));rintro _ w1 ⟨rfl,Hk⟩;have M2:=hM.cl Hk;clear Hk hM;intro aC fr;refine mB (some 6) ((l.length-1:Nat):Int) fr (z0:=(l.length:Int)-1) kR oM oM oM ?_;intro aC fr;revert aC;refine ah 1<|ax<|aK<|ah 2 ?_;refine P3 (rv:=(.iface 126 (pT g 1))) (nm:= "Swap") (vs:=[vI 0,(vI ((l.length-1:Nat):Int))]) (BC l A l.length c 0 (l.length-1) w1 rfl oM oM (M2.get 1 rfl)) ?_ (Mp _ _ _ _ _ (aa (M2.get 0 rfl) rfl));rintro _ w7 ⟨rfl,Hl⟩;have M8:=M2.md 1 rfl Hl;refine ax<|aK<|ah 2<|dZ (V3 g pl nx (Fm l 0 (l.length-1)) A l.length c l.length 0 (l.length-1) w7 oM oM oM kf (M8.get 0 rfl) (M8.get 1 rfl) (M8.Ev (i:=0) (j:=1) rfl rfl dQ) oM) ?_;rintro _ Ms ⟨bb9,rfl,Mt⟩;have nC:=M8.vL Mt;refine ax<|aK ?_;have TA:(ly l).length=l.length:=qf l;have iz:Mem ((aL.ak g 70 [pl,.slice A l.length c,nx]).and (aL.row 3 1 A l.length c (ints l))).fp w Ms [.ak g 70 [pl,vS A ((ly l).length) c,nx],.row 3 1 A ((ly l).length) c (ints (ly l))]:=nC.cast (by rw[qf];rfl);refine ah 1 ?_;refine P3 (rv:=(.iface 126 (pT g 1))) (nm:= "Pop") (vs:=[]) (V0 g pl nx (ly l) A c Ms oM (iz.get 0 rfl) (iz.get 1 rfl) (iz.Ev (i:=0) (j:=1) rfl rfl dQ) oM) ?_ (Qdo _ _);rintro _ TB ⟨rfl,Mu⟩;have sS:=iz.vL Mu;refine ah 1<|ax<|cU<|dv (.iface 3 (vI ((ly l).getD ((ly l).length-1) 0))) ?_;refine⟨by rw[pD,TA],?_⟩;exact sS.cast (by simp only[TA,tB])
end Go.Proofs.YthgbejihcchcnaaDoor
namespace Go.Mor
open Go.RowKit
structure nK where
 pl:ar
 fr:ar
 nx:Int
def fv(s:nK)(v:Nat):nK:=if 0<s.fr.length then⟨s.pl.set v (pD s.fr),tB s.fr,s.nx⟩else⟨s.pl.set v s.nx,s.fr,s.nx+1⟩
def gq(s:nK)(v:Nat):nK:=⟨s.pl,wM s.fr (s.pl.getD v 0),s.nx⟩
theorem Jl{s:nK}{v:Nat}(h:0<s.fr.length):fv s v=⟨s.pl.set v (pD s.fr),tB s.fr,s.nx⟩:=by unfold fv;rw[if_pos h]
theorem Jm{s:nK}{v:Nat}(h:¬0<s.fr.length):fv s v=⟨s.pl.set v s.nx,s.fr,s.nx+1⟩:=by unfold fv;rw[if_neg h]
theorem cH{s:nK}{v:Nat}:(fv s v).pl.length=s.pl.length:=by unfold fv;split<;>simp
end Go.Mor
namespace Go.Proofs.YthgbejihcchcnaaDoor
open Go.Mor Go.RowKit
abbrev ga(g:Nat)(PA:aA)(pc:Nat)(A:aA)(c:Nat)(s:nK):List aL:=[.ak g 70 [.slice PA s.pl.length pc,.slice A s.fr.length c,vI s.nx],.row 3 1 A s.fr.length c (ints s.fr),.row 3 1 PA s.pl.length pc (ints s.pl)]
end Go.Proofs.YthgbejihcchcnaaDoor
namespace Go.Mor
open Go.RowKit
def vM(l:List (Int×Int)):List (Int×Value):=l.map (fun p=>(p.1,vI p.2))
theorem Mv(l:List (Int×Int))(s:Int):dX (vM l) s=(dX l s).map vI:=by
 induction l with
 |nil=>rfl
 |cons x r ih=>
  obtain⟨k,v⟩:=x;show dX ((k,vI v)::vM r) s=_;unfold dX;cases s==k with
  |true=>rfl
  |false=>exact ih
theorem pG(l:List (Int×Int))(s v:Int):oI (vM l) s (vI v)=vM (oI l s v):=by
 induction l with
 |nil=>rfl
 |cons x r ih=>
  obtain⟨k,u⟩:=x;show oI ((k,vI u)::vM r) s _=_;unfold oI;cases s==k with
  |true=>rfl
  |false=>show _::oI (vM r) s _=_;rw[ih];rfl
theorem BD(l:List (Int×Int))(s:Int):Mg false (dX (vM l) s) (vI 0)=vI ((dX l s).getD 0):=by
 rw[Mv];unfold Mg;cases dX l s<;>rfl
theorem Qao(l:List (Int×Int))(s:Int):Mg true (dX (vM l) s) (vI 0)= .tuple #[vI ((dX l s).getD 0),.bool (dX l s).isSome]:=by
 rw[Mv];unfold Mg;cases dX l s<;>rfl
theorem qh(l:List (Int×Int))(s v t:Int):dX (oI l s v) t=if t=s then some v else dX l t:=by
 induction l with
 |nil=>
  unfold oI dX;by_cases h:t=s
  ·subst h;simp
  ·have:(t==s)=false:=by simpa using h
   rw[this,if_neg h];rfl
 |cons x r ih=>
  obtain⟨k,u⟩:=x;unfold oI;cases hk:s==k with
  |true=>
   have e:s=k:=by simpa using hk
   subst e;simp only[dX];cases ht:t==s with
   |true=>rw[if_pos (by simpa using ht)]
   |false=>rw[if_neg (by simpa using ht)]
  |false=>
   simp only[dX];cases ht:t==k with
   |true=>
    have e:t=k:=by simpa using ht
    subst e;have:¬t=s:=fun e=>by rw[e]at hk;simp at hk
    rw[if_neg this]
   |false=>exact ih
def BE(l:List (Int×Int))(v:Int):List (Int×Int):=if(dX l v).isSome=true then l else oI l v (-1)
theorem Mw{l:List (Int×Int)}{v:Int}(h:(dX l v).isSome=true):BE l v=l:=by unfold BE;rw[if_pos h]
theorem Mx{l:List (Int×Int)}{v:Int}(h:¬(dX l v).isSome=true):BE l v=oI l v (-1):=by unfold BE;rw[if_neg h]
def mf(l:List (Int×Int))(vs:ar)(i:Int):List (Int×Int):=vs.foldl (fun l v=>oI l v i) l
theorem zu{l:List (Int×Int)}{vs:ar}{i:Int}{j:Nat}{v:Int}(h:vs[j]?=some v):mf l (vs.take (j+1)) i=oI (mf l (vs.take j) i) v i:=by
 unfold mf;rw[cS h,List.foldl_append];rfl
instance (x : aI) : Decidable (gu x) := by unfold gu; exact inferInstance
noncomputable def BF(l:List (Int×Int))(x:aI)(n:Nat)(S:Int→Bool):List (Int×Int):=if gu x then oI (mf l (ag n S) (x.insts.length:Int)) x.v (x.insts.length:Int)else mf l (ag n S) (x.insts.length:Int)
theorem Dx{l:List (Int×Int)}{x:aI}{n:Nat}{S:Int→Bool}(h:gu x):BF l x n S=oI (mf l (ag n S) (x.insts.length:Int)) x.v (x.insts.length:Int):=by unfold BF;rw[if_pos h]
theorem RN{l:List (Int×Int)}{x:aI}{n:Nat}{S:Int→Bool}(h:¬gu x):BF l x n S=mf l (ag n S) (x.insts.length:Int):=by unfold BF;rw[if_neg h]
def Jn(l:List (Int×Int))(d:Int):List (Int×Int):=if 0≤d then BE l d else l
def lI:List (Int×Int)→List cV→Nat→List (Int×Int)
 |l,_,0=>l
 |l,is,j+1=>match is[j]? with
  |some p=>Jn (mf (lI l is j) p.args (j:Int)) p.dst
  |none=>lI l is j
theorem zv{l:List (Int×Int)}{is:List cV}{j:Nat}{p:cV}(h:is[j]?=some p):lI l is (j+1)=Jn (mf (lI l is j) p.args (j:Int)) p.dst:=by
 show(match is[j]? with|some p=>_|none=>_)=_;rw[h]
def RP(l:List (Int×Int))(ps:List fI):List (Int×Int):=ps.foldl (fun l p=>BE l p.dst) l
theorem My{l:List (Int×Int)}{ps:List fI}{j:Nat}{p:fI}(h:ps[j]?=some p):RP l (ps.take (j+1))=BE (RP l (ps.take j)) p.dst:=by
 unfold RP;rw[cS h,List.foldl_append];rfl
noncomputable def aj(x:aI)(n:Nat)(S:Int→Bool):List (Int×Int):=BF (RP (lI [] x.insts x.insts.length) x.aE) x n S
end Go.Mor
namespace Go.Mor
open Go.RowKit
def hH(pl:ar)(vs:ar):List (Int×Int):=vs.foldl (fun l v=>oI l (pl.getD v.toNat 0) ((dX l (pl.getD v.toNat 0)).getD 0+1)) []
def uc(pl:ar)(vs:ar):Int:=vs.foldl (fun n v=>max n (pl.getD v.toNat 0+1)) 0
def fT(h:List (Int×Int))(k:Nat):ar:=((List.range k).filter (fun p:Nat=>(dX h (p:Int)).getD 0==0)).map (fun p:Nat=>(p:Int))
def al(s:nK)(vs:ar):nK:=⟨s.pl,fT (hH s.pl vs) (uc s.pl vs).toNat,uc s.pl vs⟩
section
variable {pl vs : List Int} {j : Nat} {v : Int}
theorem Jr(h:vs[j]?=some v):hH pl (vs.take (j+1))=oI (hH pl (vs.take j)) (pl.getD v.toNat 0) ((dX (hH pl (vs.take j)) (pl.getD v.toNat 0)).getD 0+1):=by
 unfold hH;rw[cS h,List.foldl_append];rfl
theorem MJ(h:vs[j]?=some v):uc pl (vs.take (j+1))=max (uc pl (vs.take j)) (pl.getD v.toNat 0+1):=by
 unfold uc;rw[cS h,List.foldl_append];rfl
theorem RR(p:Int):0≤(dX (hH pl vs) p).getD 0∧(dX (hH pl vs) p).getD 0≤(vs.length:Int):=by
 have key:∀(vs:ar) (l:List (Int×Int)) (n:Nat),(∀p,0≤(dX l p).getD 0∧(dX l p).getD 0≤(n:Int))→∀p,0≤(dX (vs.foldl (fun l v=>oI l (pl.getD v.toNat 0) ((dX l (pl.getD v.toNat 0)).getD 0+1)) l) p).getD 0∧(dX (vs.foldl (fun l v=>oI l (pl.getD v.toNat 0) ((dX l (pl.getD v.toNat 0)).getD 0+1)) l) p).getD 0≤((n+vs.length:Nat):Int):=by
  intro vs;induction vs with
  |nil=>intro l n h p;simpa using h p
  |cons v vs ih=>
   intro l n h p;have h2:=ih (oI l (pl.getD v.toNat 0) ((dX l (pl.getD v.toNat 0)).getD 0+1)) (n+1) (fun q=> ?_) p
   ·rw[bk,show n+(vs.length+1)=n+1+vs.length by omega];exact h2
   ·rw[qh];have h3:=h (pl.getD v.toNat 0);have h4:=h q;split
    ·simp only[Option.getD_some];omega
    ·omega
 have h:=key vs [] 0 (fun q=>by simp[dX]) p;rw[Nat.zero_add]at h;exact h
theorem Fx:0≤uc pl vs:=by
 have key:∀(vs:ar) (n:Int),0≤n→0≤vs.foldl (fun n v=>max n (pl.getD v.toNat 0+1)) n:=by
  intro vs;induction vs with
  |nil=>intro n h;exact h
  |cons v vs ih=>intro n h;exact ih _ (show 0≤max n (pl.getD v.toNat 0+1)by omega)
 exact key vs 0 oM
theorem Fy{K:Int}(hK:1≤K)(h:∀x,x∈pl→x<K):uc pl vs≤K:=by
 have h0:∀i:Nat,pl.getD i 0+1≤K:=by
  intro i;by_cases hi:i<pl.length
  ·have h1:pl.getD i 0=pl[i]:=by simp[List.getD,hi]
   have h2:=h pl[i] (List.getElem_mem hi);rw[h1];omega
  ·have:pl.getD i 0=0:=by simp[List.getD,List.getElem?_eq_none (Nat.le_of_not_lt hi)]
   omega
 have key:∀(vs:ar) (n:Int),n≤K→vs.foldl (fun n v=>max n (pl.getD v.toNat 0+1)) n≤K:=by
  intro vs;induction vs with
  |nil=>intro n h;exact h
  |cons v vs ih=>intro n h;exact ih _ (show max n (pl.getD v.toNat 0+1)≤K by have:=h0 v.toNat;omega)
 exact key vs 0 oM
theorem ud(h:List (Int×Int))(k:Nat):fT h (k+1)=if(dX h (k:Int)).getD 0=0 then fT h k++[(k:Int)]else fT h k:=by
 unfold fT;rw[List.range_succ,List.filter_append,List.map_append];by_cases e:(dX h (k:Int)).getD 0=0
 ·rw[if_pos e];simp[e]
 ·rw[if_neg e];simp[e]
theorem wT(h:List (Int×Int))(k:Nat):(fT h k).length≤k:=by
 unfold fT;rw[List.length_map];exact Nat.le_trans (bx _ _) sI
end
end Go.Mor
namespace Go.Mor
open Go.RowKit
theorem ML{f:Nat}{l:ar}{j:Nat}(hj:j<l.length):(En f l j).Perm l:=by
 induction f generalizing l j with
 |zero=>exact List.Perm.refl _
 |succ f ih=>
  unfold En;split
  ·exact List.Perm.refl _
  ·exact(ih (by rw[kf];omega)).trans (wN oM hj)
theorem MM{f:Nat}{l:ar}{i n:Nat}(hi:i<l.length)(hn:n≤l.length):(Dq f l i n).Perm l:=by
 induction f generalizing l i with
 |zero=>exact List.Perm.refl _
 |succ f ih=>
  unfold Dq;split
  ·exact List.Perm.refl _
  ·rename_i h;have h1:2*i+1<n:=Nat.lt_of_not_le (fun h2=>h (.inl h2));have h2:=VU (l:=l) h1;exact(ih (by rw[kf];omega) (by rw[kf];omega)).trans (wN hi oM)
theorem Fz(l:ar)(v:Int):(wM l v).Perm (l++[v]):=ML sI
theorem FA{l:ar}(h:0<l.length):(ly l).Perm l:=(MM (by rw[kf];exact h) (by rw[kf];omega)).trans (wN h oM)
theorem Js{l:ar}(h:0<l.length):(tB l++[pD l]).Perm l:=by
 have h1:=qf l;have e:tB l++[pD l]=ly l:=by
  unfold tB pD;have h2:l.length-1<(ly l).length:=oM;have h3:(ly l).getD (l.length-1) 0=(ly l)[l.length-1]:=by simp[List.getD,h2]
  rw[h3,←List.take_succ_eq_append_getElem h2];exact List.take_of_length_le oM
 rw[e];exact FA h
structure GB(n:Nat)(s:nK)(K:Nat):Prop where
 len:s.pl.length=n
 V9:0≤s.nx
 Wa:s.nx≤(K:Int)
 MN:s.fr.length≤K
 RS:∀x,x∈s.pl→0≤x∧x<(K:Int)
 frs:∀x,x∈s.fr→0≤x∧x<(K:Int)
section
variable {n K : Nat} {s : nK}
theorem GB.mono(h:GB n s K){K':Nat}(hk:K≤K'):GB n s K':=⟨h.len,h.V9,by have:=h.Wa;omega,by have:=h.MN;omega,fun x hx=>by have:=h.RS x hx;omega,fun x hx=>by have:=h.frs x hx;omega⟩
theorem GB.FB(h:GB n s K)(v:Nat):GB n (fv s v) (K+1):=by
 unfold fv;split
 ·rename_i h0;have hp:=Js h0;have hm:∀x,x∈tB s.fr++[pD s.fr]→0≤x∧x<(K:Int):=fun x hx=>h.frs x (hp.mem_iff.1 hx)
  refine⟨by simp[h.len],h.V9,by have:=h.Wa;show s.nx≤_;omega,?_,fun x hx=> ?_,fun x hx=> ?_⟩
  ·show(tB s.fr).length≤_;rw[Ds];have:=h.MN;omega
  ·rcases List.mem_or_eq_of_mem_set hx with h1|h1
   ·have:=h.RS x h1;omega
   ·rw[h1];have:=hm (pD s.fr) sI;omega
  ·have:=hm x (List.mem_append_left _ hx);omega
 ·refine⟨by simp[h.len],by have:=h.V9;show 0≤s.nx+1;omega,by have:=h.Wa;show s.nx+1≤_;omega,by have:=h.MN;show s.fr.length≤_;omega,fun x hx=> ?_,fun x hx=>by have:=h.frs x hx;omega⟩;rcases List.mem_or_eq_of_mem_set hx with h1|h1
  ·have:=h.RS x h1;omega
  ·rw[h1];have:=h.V9;have:=h.Wa;omega
theorem GB.back(h:GB n s K){v:Nat}(hv:v<n):GB n (gq s v) (K+1):=by
 have Vy:v<s.pl.length:=by rw[h.len];exact hv
 have e:s.pl.getD v 0=s.pl[v]:=by simp[List.getD,Vy]
 refine⟨h.len,h.V9,by have:=h.Wa;show s.nx≤_;omega,?_,fun x hx=>by have:=h.RS x hx;omega,fun x hx=> ?_⟩
 ·show(wM s.fr _).length≤_;rw[zr];have:=h.MN;omega
 ·have h1:=(Fz s.fr (s.pl.getD v 0)).mem_iff.1 hx;rcases List.mem_append.1 h1 with h2|h2
  ·have:=h.frs x h2;omega
  ·rw[List.mem_singleton]at h2;rw[h2,e];have:=h.RS s.pl[v] (List.getElem_mem Vy);omega
theorem FC{h:List (Int×Int)}{k:Nat}{x:Int}(hx:x∈fT h k):0≤x∧x<(k:Int):=by
 unfold fT at hx;obtain⟨i,hi,rfl⟩:=List.mem_map.1 hx;have:=List.mem_range.1 (List.mem_filter.1 hi).1;omega
theorem GB.begin(h:GB n s K)(hK:1≤K)(vs:ar):GB n (al s vs) K:=by
 have h0:=Fx (pl:=s.pl) (vs:=vs);have h1:=Fy (pl:=s.pl) (vs:=vs) (K:=(K:Int)) oM (fun x hx=>(h.RS x hx).2);refine⟨h.len,h0,h1,?_,h.RS,fun x hx=> ?_⟩
 ·have:=wT (hH s.pl vs) (uc s.pl vs).toNat;show(fT _ _).length≤_;omega
 ·have:=FC hx;omega
end
def aD(s:nK)(l:ar):nK:=l.foldl (fun s v=>fv s v.toNat) s
theorem ue{s:nK}{l:ar}{j:Nat}{v:Int}(h:l[j]?=some v):aD s (l.take (j+1))=fv (aD s (l.take j)) v.toNat:=by
 unfold aD;rw[cS h,List.foldl_append];rfl
def uf(af:List (Int×Int))(s:nK)(v:Int):nK:=if(dX af v).isSome=true∧0≤(dX af v).getD 0 then s else gq s v.toNat
def aG(af:List (Int×Int))(s:nK)(l:ar):nK:=l.foldl (uf af) s
theorem mO{af:List (Int×Int)}{s:nK}{l:ar}{j:Nat}{v:Int}(h:l[j]?=some v):aG af s (l.take (j+1))=uf af (aG af s (l.take j)) v:=by
 unfold aG;rw[cS h,List.foldl_append];rfl
def Wb(af:List (Int×Int))(i:Nat)(args:ar)(s:nK)(j:Nat):nK:=match args[j]? with
 |some v=>if(dX af v).getD 0=(i:Int)∧¬v∈args.take j then gq s v.toNat else s
 |none=>s
def bF(af:List (Int×Int))(i:Nat)(args:ar)(s:nK):Nat→nK
 |0=>s
 |j+1=>Wb af i args (bF af i args s j) j
def BH(af:List (Int×Int))(i:Nat)(s:nK)(d:Int):nK:=if 0≤d then(if(dX af d).getD 0≤(i:Int)then gq (fv s d.toNat) d.toNat else fv s d.toNat)else s
def bC(af:List (Int×Int))(is:List cV)(s:nK):Nat→nK
 |0=>s
 |j+1=>match is[j]? with
  |some p=>BH af j (bF af j p.args (bC af is s j) p.args.length) p.dst
  |none=>bC af is s j
theorem iW{af:List (Int×Int)}{i:Nat}{args:ar}{s:nK}{j:Nat}{v:Int}(h:args[j]?=some v):bF af i args s (j+1)=if(dX af v).getD 0=(i:Int)∧¬v∈args.take j then gq (bF af i args s j) v.toNat else bF af i args s j:=by
 show Wb af i args (bF af i args s j) j=_;unfold Wb;rw[h]
theorem jH{af:List (Int×Int)}{is:List cV}{s:nK}{j:Nat}{p:cV}(h:is[j]?=some p):bC af is s (j+1)=BH af j (bF af j p.args (bC af is s j) p.args.length) p.dst:=by
 show(match is[j]? with|some p=>_|none=>_)=_;rw[h]
def ai(pa k:Nat)(x:aI):ar:=(if k=0 then(List.range pa).map (fun i:Nat=>(i:Int))else[])++x.aE.map (·.dst)
def kH(af:List (Int×Int))(ins:ar)(pa k:Nat)(x:aI)(s:nK):nK:=bC af x.insts (aG af (aD (al s ins) (ai pa k x)) (ai pa k x)) x.insts.length
def lF(is:List cV):Nat:=(is.map (fun p=>p.args.length+2)).foldl (·+·) 0
theorem rb{is:List cV}{j:Nat}{p:cV}(h:is[j]?=some p):lF (is.take (j+1))=lF (is.take j)+(p.args.length+2):=by
 unfold lF;rw[cS h,List.map_append,List.foldl_append];rfl
theorem MO{is:List cV}:∀{j:Nat},lF (is.take j)≤lF is:=by
 intro j;unfold lF;have key:∀(l:List Nat) (a:Nat),a≤l.foldl (·+·) a:=by
  intro l;induction l with
  |nil=>intro a;exact Nat.le_refl _
  |cons b l ih=>intro a;exact Nat.le_trans (Nat.le_add_right a b) (ih (a+b))
 conv=>rhs;rw[←List.take_append_drop j is,List.map_append,List.foldl_append]
 exact key _ _
def qE(pa k:Nat)(x:aI):Nat:=2*(ai pa k x).length+lF x.insts
end Go.Mor
namespace Go.Mor
open Go.RowKit
theorem DB{n pn k:Nat}{x:aI}(hp:pn≤n)(hv:VR n x):∀v,v∈ai pn k x→0≤v∧v<(n:Int):=by
 intro v h;unfold ai at h;rcases List.mem_append.1 h with h|h
 ·split at h
  ·obtain⟨i,hi,rfl⟩:=List.mem_map.1 h;have:=List.mem_range.1 hi;omega
  ·cases h
 ·obtain⟨p,mC,rfl⟩:=List.mem_map.1 h;exact hv.aE p mC
theorem su{n:Nat}{S:Int→Bool}:∀v,v∈ag n S→0≤v∧v<(n:Int):=by
 intro v h;unfold ag at h;obtain⟨i,hi,rfl⟩:=List.mem_map.1 h;have:=List.mem_range.1 (List.mem_filter.1 hi).1;omega
theorem wU{l:List fI}{q:Nat}{p:fI}(h:l[q]?=some p)(M:ar):M++(l.take (q+1)).map (·.dst)=(M++(l.take q).map (·.dst))++[p.dst]:=by
 rw[cS h,List.map_append,List.append_assoc];rfl
theorem ug(u:Nat):(List.range (u+1)).map (fun i:Nat=>(i:Int))=(List.range u).map (fun i:Nat=>(i:Int))++[(u:Int)]:=by
 rw[List.range_succ,List.map_append];rfl
theorem Jt{pn k:Nat}{x:aI}:(ai pn k x).length≤pn+x.aE.length:=by
 unfold ai;rw[List.length_append,List.length_map];split<;>simp
theorem MP{w:World}{A:aA}{l:bp}{n:Nat}(h:(aL.rd A l).holds w):(aL.rd A (l.take n)).holds w:=by
 intro i v hi;refine h i v ?_;simp only[List.getElem?_take]at hi;split at hi
 ·exact hi
 ·cases hi
end Go.Mor
namespace Go.Mor
open Go.RowKit
theorem MQ{l m:List Nat}(h:l.Perm m):l.sum=m.sum:=by
 induction h with
 |nil=>rfl
 |cons x _ ih=>simp[ih]
 |swap x y l=>simp;omega
 |trans _ _ h1 h2=>rw[h1,h2]
theorem om(f:Nat→Nat):∀(m:Nat) (l:List Nat),l.Nodup→(∀x,x∈l→x<m)→(l.map f).sum≤((List.range m).map f).sum
 |0,l,_,hx=>by
  cases l with
  |nil=>simp
  |cons a l=>exact absurd (hx a (List.mem_cons_self ..)) (Nat.not_lt_zero _)
 |m+1,l,hn,hx=>by
  rw[List.range_succ,List.map_append,List.sum_append];by_cases h:m∈l
  ·have hp:=List.perm_cons_erase h;have h1:=om f m (l.erase m) (hn.erase m) (fun x YY=>by
    have h2:=hx x (List.mem_of_mem_erase YY);have h3:x≠m:=fun e=>by subst e;exact(hn.not_mem_erase) YY
    omega)
   have h2:=MQ (hp.map f);rw[h2,List.map_cons,List.sum_cons];simp;omega
  ·have h1:=om f m l hn (fun x Vx=>by
    have h2:=hx x Vx;have h3:x≠m:=fun e=>by subst e;exact h Vx
    omega)
   simp;omega
noncomputable def jB(fs:List aI):Int→Int→Bool:=fun b v=> @decide (LV fs true b v) (Classical.propDecidable _)
noncomputable def MR(fs:List aI):Int→Int→Bool:=fun b v=> @decide (LV fs false b v) (Classical.propDecidable _)
section
variable {n : Nat} {fs : List aI} {SI SO : Int → Int → Bool}
theorem mM.TD(h:mM n fs SI SO){b:Nat}(hb:b<fs.length):ag n (SI (b:Int))=ag n (jB fs (b:Int)):=jP (fun i hi=>by
  have h1:=(h b hb (i:Int) oM oM).1;rw[Bool.eq_iff_iff,h1];exact(@decide_eq_true_iff _ (Classical.propDecidable _)).symm)
theorem mM.MS(h:mM n fs SI SO){b:Nat}(hb:b<fs.length):ag n (SO (b:Int))=ag n (MR fs (b:Int)):=jP (fun i hi=>by
  have h1:=(h b hb (i:Int) oM oM).2;rw[Bool.eq_iff_iff,h1];exact(@decide_eq_true_iff _ (Classical.propDecidable _)).symm)
theorem FD{l:List (Int×Int)}{x:aI}{S T:Int→Bool}(h:ag n S=ag n T):BF l x n S=BF l x n T:=by
 unfold BF;rw[h]
theorem uh{x:aI}{S T:Int→Bool}(h:ag n S=ag n T):aj x n S=aj x n T:=FD h
end
noncomputable def stepG(n pn:Nat)(fs:List aI)(s:nK)(b:Int):nK:=match fs[b.toNat]? with
 |some x=>kH (aj x n (MR fs b)) (if 0<b.toNat then ag n (jB fs b)else[]) pn b.toNat x s
 |none=>s
noncomputable def bA(n pn:Nat)(fs:List aI):nK:=(au (ae fs)).foldl (stepG n pn fs) ⟨List.replicate n 0,[],0⟩
noncomputable def bQ(n pn:Nat)(fs:List aI)(j:Nat):nK:=((au (ae fs)).take j).foldl (stepG n pn fs) ⟨List.replicate n 0,[],0⟩
theorem sv{n pn:Nat}{fs:List aI}{j:Nat}{b:Nat}{x:aI}(h:(au (ae fs))[j]?=some (b:Int))(hx:fs[b]?=some x):bQ n pn fs (j+1)=kH (aj x n (MR fs (b:Int))) (if 0<b then ag n (jB fs (b:Int))else[]) pn b x (bQ n pn fs j):=by
 unfold bQ;rw[cS h,List.foldl_append];show stepG n pn fs _ (b:Int)=_;unfold stepG;rw[Int.toNat_natCast,hx]
def fG(k:Int)(pl:ar):List (Int×Int):=pl.foldl (fun l p=>if k≤p then oI l p ((dX l p).getD 0+1)else l) []
theorem FE{k:Int}{pl:ar}{j:Nat}{p:Int}(h:pl[j]?=some p)(hk:k≤p):fG k (pl.take (j+1))=oI (fG k (pl.take j)) p ((dX (fG k (pl.take j)) p).getD 0+1):=by
 unfold fG;rw[cS h,List.foldl_append];show(if k≤p then _ else _)=_;rw[if_pos hk]
theorem Ju{k:Int}{pl:ar}{j:Nat}{p:Int}(h:pl[j]?=some p)(hk:¬k≤p):fG k (pl.take (j+1))=fG k (pl.take j):=by
 unfold fG;rw[cS h,List.foldl_append];show(if k≤p then _ else _)=_;rw[if_neg hk]
theorem Jv{k:Int}{pl:ar}(p:Int):0≤(dX (fG k pl) p).getD 0∧(dX (fG k pl) p).getD 0≤(pl.length:Int):=by
 have key:∀(pl:ar) (l:List (Int×Int)) (n:Nat),(∀q,0≤(dX l q).getD 0∧(dX l q).getD 0≤(n:Int))→∀q,0≤(dX (pl.foldl (fun l p=>if k≤p then oI l p ((dX l p).getD 0+1)else l) l) q).getD 0∧(dX (pl.foldl (fun l p=>if k≤p then oI l p ((dX l p).getD 0+1)else l) l) q).getD 0≤((n+pl.length:Nat):Int):=by
  intro pl;induction pl with
  |nil=>intro l n h q;simpa using h q
  |cons v pl ih=>
   intro l n h q;rw[bk,show n+(pl.length+1)=n+1+pl.length by omega];refine ih _ (n+1) (fun r=> ?_) q;show 0≤(dX (if k≤v then oI l v ((dX l v).getD 0+1)else l) r).getD 0∧(dX (if k≤v then oI l v ((dX l v).getD 0+1)else l) r).getD 0≤((n+1:Nat):Int);have h3:=h v;have h4:=h r;split
   ·rw[qh];split
    ·simp only[Option.getD_some];omega
    ·omega
   ·omega
 have h:=key pl [] 0 (fun q=>by simp[dX]) p;rw[Nat.zero_add]at h;exact h
noncomputable def ln(nm:eV)(pa va:Int)(fs:List aI)(k:Int):ar×Int×Int:=if dE nm pa va fs≠0 then([],0,dE nm pa va fs)else if k<1∨16<k then([],0,1)else((bA va.toNat pa.toNat fs).pl,((fG k (bA va.toNat pa.toNat fs).pl).length:Int),0)
section
variable {nm : ByteArray} {pa va k : Int} {fs : List aI}
theorem wV(h:dE nm pa va fs≠0):ln nm pa va fs k=([],0,dE nm pa va fs):=by unfold ln;rw[if_pos h]
theorem wW(h:dE nm pa va fs=0)(hk:k<1∨16<k):ln nm pa va fs k=([],0,1):=by unfold ln;rw[if_neg (by simp[h]),if_pos hk]
theorem tD(h:dE nm pa va fs=0)(hk:¬(k<1∨16<k)):ln nm pa va fs k=((bA va.toNat pa.toNat fs).pl,((fG k (bA va.toNat pa.toNat fs).pl).length:Int),0):=by
 unfold ln;rw[if_neg (by simp[h]),if_neg hk]
end
def ui(pn:Nat)(fs:List aI)(i:Nat):Nat:=match fs[i]? with
 |some x=>qE pn i x
 |none=>0
def sw(pn:Nat)(fs:List aI)(j:Nat):Nat:=(((au (ae fs)).take j).map (fun b=>ui pn fs b.toNat)).sum
theorem wX{pn:Nat}{fs:List aI}{j b:Nat}{x:aI}(h:(au (ae fs))[j]?=some (b:Int))(hx:fs[b]?=some x):sw pn fs (j+1)=sw pn fs j+qE pn b x:=by
 unfold sw;rw[cS h,List.map_append,List.sum_append];simp[ui,hx]
theorem FF{i:cV}(h:bU i):i.args.length≤17:=by
 obtain⟨_,h⟩:=h;rcases h with h|h|h|h|h|h|h|h|h|h|h<;>omega
theorem DC{is:List cV}(h:∀p,p∈is→p.args.length≤17):lF is≤19*is.length:=by
 have key:∀(j:Nat),j≤is.length→lF (is.take j)≤19*j:=by
  intro j;induction j with
  |zero=>intro _;simp[lF]
  |succ j ih=>
   intro hj;obtain⟨p,hp⟩:=ba (l:=is) (i:=j) oM;have h1:=rb hp;have h2:=h p (List.mem_of_getElem? hp);have h3:=ih oM;omega
 have:=key is.length (Nat.le_refl _);rwa [List.take_length]at this
theorem DD{pn:Nat}{fs:List aI}(hs:∀x,x∈fs→∀p,p∈x.insts→bU p){i:Nat}{x:aI}(hx:fs[i]?=some x):ui pn fs i≤(if i=0 then 2*pn else 0)+19*(x.aE.length+x.insts.length):=by
 unfold ui;rw[hx];show qE pn i x≤_;have h1:=DC (is:=x.insts) (fun p hp=>FF (hs x (List.mem_of_getElem? hx) p hp));have h2:(ai pn i x).length=(if i=0 then pn else 0)+x.aE.length:=by unfold ai;rw[List.length_append,List.length_map];split<;>simp
 unfold qE;rw[h2];split<;>omega
theorem DE{pn:Nat}{fs:List aI}(hs:∀x,x∈fs→∀p,p∈x.insts→bU p):((List.range fs.length).map (ui pn fs)).sum≤2*pn+19*eb fs:=by
 have key:∀m,m≤fs.length→((List.range m).map (ui pn fs)).sum≤(if m=0 then 0 else 2*pn)+19*gS fs m:=by
  intro m;induction m with
  |zero=>intro _;simp
  |succ m ih=>
   intro hm;obtain⟨x,hx⟩:=ba (l:=fs) (i:=m) oM;rw[List.range_succ,List.map_append,List.sum_append,gP hx];have h1:=ih oM;have h2:=DD (pn:=pn) hs hx;simp only[List.map_cons,List.map_nil,List.sum_cons,List.sum_nil,Nat.add_zero];rw[if_neg (Nat.succ_ne_zero m)];by_cases h0:m=0
   ·subst h0;simp at h1 h2⊢;omega
   ·rw[if_neg h0]at h1 h2;omega
 have h:=key fs.length (Nat.le_refl _);unfold eb;split at h<;>omega
theorem DF(bs:List SB):((au bs).map Int.toNat).Nodup:=by
 unfold List.Nodup;rw[List.pairwise_iff_getElem];intro i j hi hj hij e;simp only[List.length_map]at hi hj;simp only[List.getElem_map]at e;obtain⟨b1,h1,_,p1⟩:=mI hi;obtain⟨b2,h2,_,p2⟩:=mI hj;rw[List.getElem?_eq_getElem hi]at h1;rw[List.getElem?_eq_getElem hj]at h2;injection h1 with h1;injection h2 with h2;rw[h1,h2]at e;have e2:b1=b2:=by simpa using e
 rw[e2]at p1;omega
theorem uj{pn:Nat}{fs:List aI}(hs:∀x,x∈fs→∀p,p∈x.insts→bU p){j:Nat}:sw pn fs j≤2*pn+19*eb fs:=by
 refine Nat.le_trans ?_ (DE hs);unfold sw;have e:((au (ae fs)).take j).map (fun b=>ui pn fs b.toNat)=(((au (ae fs)).take j).map Int.toNat).map (ui pn fs):=by rw[List.map_map];rfl
 rw[e];refine om _ _ _ ?_ ?_
 ·rw[List.map_take];exact(DF _).sublist (List.take_sublist _ _)
 ·intro x hx;obtain⟨y,hy,rfl⟩:=List.mem_map.1 hx;obtain⟨i,hi⟩:=List.mem_iff_getElem?.1 (List.mem_of_mem_take hy);obtain⟨b,h1,h2,_⟩:=mI (List.getElem?_eq_some_iff.1 hi).1;rw[hi]at h1;injection h1 with h1;rw[h1,Int.toNat_natCast];rwa [bS]at h2
theorem uk{n pn:Nat}{fs:List aI}{j:Nat}(h:(au (ae fs)).length≤j):bQ n pn fs j=bA n pn fs:=by
 unfold bQ bA;rw[List.take_of_length_le h]
theorem RT{l:List (Int×Int)}:(bP vI (vM l)).length=l.length:=by simp[bP,vM]
section
variable {n pn K k : Nat} {s : nK} {x : aI} {af : List (Int × Int)}
theorem GB.Qaq(h:GB n s K)(l:ar):GB n (aD s l) (K+l.length):=by
 unfold aD;induction l generalizing s K with
 |nil=>exact h
 |cons v l ih=>
  have:=ih (h.FB v.toNat);rw[bk,show K+(l.length+1)=K+1+l.length by omega];exact this
theorem GB.Qar(h:GB n s K)(l:ar)(hl:∀v,v∈l→0≤v∧v<(n:Int)):GB n (aG af s l) (K+l.length):=by
 unfold aG;induction l generalizing s K with
 |nil=>exact h
 |cons v l ih=>
  have h1:GB n (uf af s v) (K+1):=by
   unfold uf;split
   ·exact h.mono oM
   ·have:=hl v (List.mem_cons_self ..);exact h.back oM
  have:=ih h1 (fun u hu=>hl u (List.mem_cons_of_mem _ hu));rw[bk,show K+(l.length+1)=K+1+l.length by omega];exact this
theorem GB.args(h:GB n s K){i:Nat}{args:ar}(hl:∀v,v∈args→0≤v∧v<(n:Int)):∀j,j≤args.length→GB n (bF af i args s j) (K+j)
 |0,_=>h
 |j+1,hj=>by
  obtain⟨v,hv⟩:=ba (l:=args) (i:=j) oM;have ih:=GB.args (i:=i) h hl j oM;rw[iW hv];split
  ·have:=hl v (List.mem_of_getElem? hv);exact ih.back oM
  ·exact ih.mono oM
theorem GB.ins(h:GB n s K){is:List cV}(hl:∀p,p∈is→p.dst<(n:Int)∧∀v,v∈p.args→0≤v∧v<(n:Int)):∀j,j≤is.length→GB n (bC af is s j) (K+lF (is.take j))
 |0,_=>h.mono oM
 |j+1,hj=>by
  obtain⟨p,hp⟩:=ba (l:=is) (i:=j) oM;have ih:=GB.ins h hl j oM;obtain⟨h1,h2⟩:=hl p (List.mem_of_getElem? hp);have h3:=GB.args (af:=af) (i:=j) ih h2 p.args.length (Nat.le_refl _);rw[jH hp,rb hp];unfold BH;split
  ·split
   ·exact((h3.FB p.dst.toNat).back oM).mono oM
   ·exact(h3.FB p.dst.toNat).mono oM
  ·exact h3.mono oM
theorem GB.block(h:GB n s K)(hK:1≤K)(hv:VR n x)(hp:pn≤n)(af:List (Int×Int))(ins:ar):GB n (kH af ins pn k x s) (K+qE pn k x):=by
 have h1:=(((h.begin hK ins).Qaq (ai pn k x)).Qar (af:=af) (ai pn k x) (DB hp hv));have h2:=GB.ins (af:=af) h1 (is:=x.insts) (fun p hp=>⟨(hv.insts p hp).2.1,(hv.insts p hp).2.2⟩) x.insts.length (Nat.le_refl _);rw[List.take_length]at h2;exact h2.mono (by unfold qE;omega)
end
theorem Jw{fs:List aI}{k:Nat}{x:aI}(h:fs[k]?=some x):x.aE.length≤eb fs:=by
 have hk:=(List.getElem?_eq_some_iff.1 h).1;have key:∀n,k<n→n≤fs.length→x.aE.length≤gS fs n:=by
  intro n;induction n with
  |zero=>intro h;omega
  |succ n ih=>
   intro h1 h2;obtain⟨y,hy⟩:=ba (l:=fs) (i:=n) oM;rw[gP hy];by_cases e:k=n
   ·subst e;rw[h]at hy;injection hy with hy;subst hy;omega
   ·have:=ih oM oM;omega
 have:=key fs.length hk (Nat.le_refl _);unfold eb;omega
end Go.Mor
namespace Go.Mor
open Go.RowKit
def P6(pl:ar)(S:Int→Bool)(x:Int):Int→Bool:=fun v=>S v&&(pl.getD v.toNat 0==x)
def kV(n:Nat)(pl:ar)(S:Int→Bool)(x:Int):Nat:=l9 n (P6 pl S x)
def Fv(n:Nat)(pl:ar)(S:Int→Bool):Nat:=(pl.eraseDups.filter (fun x=>decide (2≤kV n pl S x))).length
theorem Dy(l:List Int):l.eraseDups.Nodup:=by
 match l with
 |[]=>simp
 |a::r=>
  rw[List.eraseDups_cons,List.nodup_cons]
  refine⟨fun h=> ?_,Dy _⟩
  have h2:=(List.mem_filter.1 (List.mem_eraseDups.1 h)).2
  simp at h2
 termination_by l.length
 decreasing_by
  have:=List.length_filter_le (fun b=> !b==a) r
  simp only[List.length_cons]
  omega
theorem Mz{D:ar}(hn:D.Nodup){x0:Int}(hx:x0∈D){P Q:Int→Bool}(h:∀x,x≠x0→P x=Q x):(D.filter Q).length+cond (P x0) 1 0=(D.filter P).length+cond (Q x0) 1 0:=by
 induction D with
 |nil=>cases hx
 |cons a D ih=>
  obtain⟨h1,h2⟩:=List.nodup_cons.1 hn;rcases List.mem_cons.1 hx with e|e
  ·subst e;have e2:D.filter Q=D.filter P:=List.filter_congr (fun x hxD=>(h x (fun e=>by subst e;exact h1 hxD)).symm);rw[List.filter_cons,List.filter_cons,e2];cases P x0<;>cases Q x0<;>simp
  ·have h3:=ih h2 e;have h4:a≠x0:=fun e2=>by subst e2;exact h1 e
   rw[List.filter_cons,List.filter_cons,h a h4];cases Q a<;>simp<;>omega
section
variable {n : Nat} {pl : List Int} {S : Int → Bool} {i : Nat}
theorem wS{T:Int→Bool}(h:∀i:Nat,i<n→S (i:Int)=T (i:Int))(x:Int):kV n pl S x=kV n pl T x:=pC (fun i hi=>by unfold P6;rw[h i hi])
theorem Jo{T:Int→Bool}(h:∀i:Nat,i<n→S (i:Int)=T (i:Int)):Fv n pl S=Fv n pl T:=by
 unfold Fv;congr 1;exact List.filter_congr (fun x _=>by rw[wS h])
theorem RQ(x:Int):kV n pl S x≤n:=nA
theorem sr(hi:i<n)(h:S (i:Int)=false)(x:Int):kV n pl (cC S (i:Int)) x=kV n pl S x+if pl.getD i 0=x then 1 else 0:=by
 unfold kV;by_cases e:pl.getD i 0=x
 ·rw[if_pos e];have e2:P6 pl (cC S (i:Int)) x=cC (P6 pl S x) (i:Int):=by
   funext v;unfold P6 cC;by_cases ev:v=(i:Int)
   ·subst ev;rw[Int.toNat_natCast,e];simp
   ·have:(v==(i:Int))=false:=by simpa using ev
    simp[this]
  rw[e2,Jc hi (by unfold P6;rw[h];rfl)]
 ·rw[if_neg e];refine pC (fun j hj=> ?_);unfold P6 cC;by_cases ev:(j:Int)=(i:Int)
  ·have:j=i:=oM;subst this;have e3:(pl.getD j 0==x)=false:=by simpa using e
   rw[Int.toNat_natCast,e3];simp
  ·have:((j:Int)==(i:Int))=false:=by simpa using ev
   rw[this,Bool.false_or]
theorem Hm(h:S (i:Int)=true):cC (kD S (i:Int)) (i:Int)=S:=by
 funext x;unfold cC kD;by_cases e:x=(i:Int)
 ·subst e;rw[h];simp
 ·have:(x==(i:Int))=false:=by simpa using e
  rw[this];simp
theorem zw(hi:i<n)(h:S (i:Int)=true)(x:Int):kV n pl (kD S (i:Int)) x+(if pl.getD i 0=x then 1 else 0)=kV n pl S x:=by
 have:=sr (pl:=pl) (S:=kD S (i:Int)) hi (by simp[kD]) x;rw[Hm h]at this;omega
theorem Hn(hp:i<pl.length):pl.getD i 0∈pl.eraseDups:=by
 have:pl.getD i 0=pl[i]:=by simp[List.getD,hp]
 rw[this];exact List.mem_eraseDups.2 (List.getElem_mem hp)
theorem Ho(hi:i<n)(hp:i<pl.length)(h:S (i:Int)=false):Fv n pl (cC S (i:Int))=Fv n pl S+if kV n pl S (pl.getD i 0)+1=2 then 1 else 0:=by
 have h1:=Mz (Dy pl) (Hn hp) (P:=fun x=>decide (2≤kV n pl S x)) (Q:=fun x=>decide (2≤kV n pl (cC S (i:Int)) x)) (fun x hx=>by show decide _=decide _;rw[sr hi h,if_neg (fun e=>hx e.symm)];rfl)
 have h2:=sr (pl:=pl) hi h (pl.getD i 0);rw[if_pos rfl]at h2;unfold Fv;simp only[h2]at h1;split
 ·rename_i e;rw[decide_eq_false (show¬2≤kV n pl S (pl.getD i 0)by omega),decide_eq_true (show 2≤kV n pl S (pl.getD i 0)+1 by omega)]at h1;simpa using h1
 ·rename_i e;by_cases e2:2≤kV n pl S (pl.getD i 0)
  ·rw[decide_eq_true e2,decide_eq_true (show 2≤kV n pl S (pl.getD i 0)+1 by omega)]at h1;simpa using h1
  ·rw[decide_eq_false e2,decide_eq_false (show¬2≤kV n pl S (pl.getD i 0)+1 by omega)]at h1;simpa using h1
theorem ME(hi:i<n)(hp:i<pl.length)(h:S (i:Int)=true):Fv n pl (kD S (i:Int))+(if kV n pl S (pl.getD i 0)=2 then 1 else 0)=Fv n pl S:=by
 have h1:=Ho (pl:=pl) (S:=kD S (i:Int)) hi hp (by simp[kD]);have h2:=zw (pl:=pl) hi h (pl.getD i 0);rw[Hm h]at h1;rw[if_pos rfl]at h2;rw[h1];split<;>split<;>omega
structure Fits(n:Nat)(pl:ar)(S:Int→Bool)(M:List (Int×Int))(tw:Int):Prop where
 TC:∀x,(dX M x).getD 0=(kV n pl S x:Int)
 tw:tw=(Fv n pl S:Int)
theorem Fits.congr{M:List (Int×Int)}{tw:Int}{T:Int→Bool}(h:Fits n pl S M tw)(e:∀i:Nat,i<n→S (i:Int)=T (i:Int)):Fits n pl T M tw:=⟨fun x=>by rw[h.TC,wS e],by rw[h.tw,Jo e]⟩
theorem zx(x:Int):kV n pl (fun _=>false) x=0:=by
 unfold kV l9 ag;rw[List.length_map,List.filter_eq_nil_iff.2 (fun i _=>by simp[P6])];rfl
theorem Fits.none:Fits n pl (fun _=>false) [] 0:=⟨fun x=>by rw[zx];rfl,by
  unfold Fv;rw[List.filter_eq_nil_iff.2 (fun x _=>by rw[zx];simp)];rfl⟩
def lE(pl:ar)(M:List (Int×Int))(v:Nat)(d:Int):List (Int×Int):=oI M (pl.getD v 0) ((dX M (pl.getD v 0)).getD 0+d)
def BG(pl:ar)(M:List (Int×Int))(v:Nat)(tw:Int):Int:=if(dX M (pl.getD v 0)).getD 0+1=2 then tw+1 else tw
def Fw(pl:ar)(M:List (Int×Int))(v:Nat)(tw:Int):Int:=if(dX M (pl.getD v 0)).getD 0-1=1 then tw-1 else tw
theorem Fits.put{M:List (Int×Int)}{tw:Int}(h:Fits n pl S M tw)(hi:i<n)(hp:i<pl.length)(hS:S (i:Int)=false):Fits n pl (cC S (i:Int)) (lE pl M i 1) (BG pl M i tw):=by
 refine⟨fun x=> ?_,?_⟩
 ·unfold lE;rw[qh,sr hi hS,h.TC];by_cases e:pl.getD i 0=x
  ·rw[if_pos e.symm,if_pos e];subst e;simp only[Option.getD_some];omega
  ·rw[if_neg (fun e2=>e e2.symm),if_neg e,h.TC];omega
 ·unfold BG;rw[Ho hi hp hS,h.TC,h.tw];split<;>split<;>omega
theorem Fits.take{M:List (Int×Int)}{tw:Int}(h:Fits n pl S M tw)(hi:i<n)(hp:i<pl.length)(hS:S (i:Int)=true):Fits n pl (kD S (i:Int)) (lE pl M i (-1)) (Fw pl M i tw):=by
 refine⟨fun x=> ?_,?_⟩
 ·unfold lE;have h1:=zw (pl:=pl) hi hS x;rw[qh,h.TC];by_cases e:pl.getD i 0=x
  ·rw[if_pos e.symm];rw[if_pos e]at h1;subst e;simp only[Option.getD_some];omega
  ·rw[if_neg (fun e2=>e e2.symm),h.TC];rw[if_neg e]at h1;omega
 ·unfold Fw;have h1:=ME (pl:=pl) hi hp hS;rw[h.TC,h.tw];split
  ·rw[if_pos oM]at h1;omega
  ·rw[if_neg oM]at h1;omega
def eg(pl:ar)(l:ar):Bool:=decide ((l.map (fun v=>pl.getD v.toNat 0)).Nodup)
theorem Jp{l:ar}:l.Nodup↔∀x,l.count x≤1:=by
 induction l with
 |nil=>simp
 |cons a l ih=>
  rw[List.nodup_cons,ih];constructor
  ·rintro⟨h1,h2⟩ x;rw[List.count_cons];by_cases e:a=x
   ·subst e;have:l.count a=0:=List.count_eq_zero.2 h1;simp[this]
   ·have:(a==x)=false:=by simpa using e
    simp[this];exact h2 x
  ·intro h;refine⟨fun h1=> ?_,fun x=> ?_⟩
   ·have h2:=h a;rw[List.count_cons]at h2;have h3:=List.count_pos_iff.2 h1;simp at h2;omega
   ·have h2:=h x;rw[List.count_cons]at h2;omega
theorem Dz(x:Int):((ag n S).map (fun v=>pl.getD v.toNat 0)).count x=kV n pl S x:=by
 unfold kV l9 ag List.count;rw[List.countP_map,List.countP_map,List.countP_filter,List.countP_eq_length_filter,List.length_map];congr 1;refine List.filter_congr (fun i _=> ?_);simp only[Function.comp,P6,Int.toNat_natCast];rw[Bool.and_comm]
theorem Fits.sep{M:List (Int×Int)}{tw:Int}(h:Fits n pl S M tw)(hp:n≤pl.length):decide (tw=0)=eg pl (ag n S):=by
 unfold eg;rw[decide_eq_decide,Jp,h.tw];constructor
 ·intro h0 x;rw[Dz];have h1:Fv n pl S=0:=oM;unfold Fv at h1;have h2:=List.eq_nil_of_length_eq_zero h1;by_cases hx:x∈pl.eraseDups
  ·have h3:=List.filter_eq_nil_iff.1 h2 x hx;have h4:¬2≤kV n pl S x:=by simpa using h3
   omega
  ·have h5:kV n pl S x=0:=by
    unfold kV l9 ag;rw[List.length_map,List.filter_eq_nil_iff.2 (fun i hi h6=> ?_)]
    ·rfl
    ·simp only[P6,Bool.and_eq_true,beq_iff_eq,Int.toNat_natCast]at h6;have h7:=List.mem_range.1 hi;exact hx (h6.2▸Hn oM)
   omega
 ·intro h0;have h1:Fv n pl S=0:=by unfold Fv;rw[List.filter_eq_nil_iff.2 (fun x _=>by have:=h0 x;rw[Dz]at this;simp;omega)];rfl
  omega
theorem MF(l:List Int):l.eraseDups.length≤l.length:=by
 match l with
 |[]=>simp
 |a::r=>
  rw[List.eraseDups_cons,List.length_cons,List.length_cons]
  have h1:=MF (r.filter (fun b=> !b==a))
  have h2:=List.length_filter_le (fun b=> !b==a) r
  omega
 termination_by l.length
 decreasing_by
  have:=List.length_filter_le (fun b=> !b==a) r
  simp only[List.length_cons]
  omega
theorem Fits.btw{M:List (Int×Int)}{tw:Int}(h:Fits n pl S M tw)(hp:pl.length≤20000): -1000000≤tw∧tw≤1000000:=by
 have h1:=h.tw;have h2:Fv n pl S≤pl.length:=Nat.le_trans (bx _ _) (MF pl);omega
theorem Fits.bcn{M:List (Int×Int)}{tw:Int}(h:Fits n pl S M tw)(hn:n≤20000):∀x,-1000000≤(dX M x).getD 0∧(dX M x).getD 0≤1000000:=by
 intro x;have h1:=h.TC x;have h2:=RQ (n:=n) (pl:=pl) (S:=S) x;omega
def yg(l:ar):Int→Bool:=fun v=>decide (v∈l)
theorem MG:yg []=fun _=>false:=by funext v;simp[yg]
theorem Jq{l:ar}{j:Nat}{v:Int}(h:l[j]?=some v):yg (l.take (j+1))=cC (yg (l.take j)) v:=by
 funext x;unfold yg cC;rw[cS h,Bool.eq_iff_iff];simp only[List.mem_append,List.mem_singleton,decide_eq_true_eq,Bool.or_eq_true,beq_iff_eq];exact Or.comm
theorem DA:(ag n S).Nodup:=by
 unfold ag List.Nodup;rw[yI];have h0:((List.range n).filter (fun i:Nat=>S (i:Int))).Pairwise (fun a b=>a≠b):=KP _ jX;refine jD ?_ h0;intro a b h e;have e2:(a:Int)=(b:Int):=e;exact h oM
theorem MH{l:ar}(hn:l.Nodup){j:Nat}{v:Int}(h:l[j]?=some v):yg (l.take j) v=false:=by
 unfold yg;refine decide_eq_false (fun hm=> ?_);obtain⟨i,hi⟩:=List.mem_iff_getElem?.1 hm;have uU:i<j:=by have:=(List.getElem?_eq_some_iff.1 hi).1;rw[List.length_take]at this;omega
 rw[List.getElem?_take,if_pos uU]at hi;obtain⟨h1,h2⟩:=List.getElem?_eq_some_iff.1 hi;obtain⟨h3,h4⟩:=List.getElem?_eq_some_iff.1 h;unfold List.Nodup at hn;exact List.pairwise_iff_getElem.1 hn i j h1 h3 uU (h2.trans h4.symm)
theorem MI:∀i:Nat,i<n→yg (ag n S) (i:Int)=S (i:Int):=by
 intro i hi;unfold yg;rw[Bool.eq_iff_iff,decide_eq_true_iff];unfold ag;rw[List.mem_map];constructor
 ·rintro⟨j,hj,e⟩;have:j=i:=oM;subst this;exact(List.mem_filter.1 hj).2
 ·intro h;exact⟨i,List.mem_filter.2 ⟨List.mem_range.2 hi,h⟩,rfl⟩
theorem Qap(a b c:Bool):((a&&b)&&c)=(a&&(c&&b)):=by cases a<;>cases b<;>cases c<;>rfl
end
end Go.Mor
namespace Go.Mor
open Go.RowKit
end Go.Mor
namespace Go.Mor
open Go.RowKit
end Go.Mor
namespace Go.Mor
open Go.RowKit
def HY(va:Int)(fs:List aI):Prop:=gT va fs∨1500<eb fs∨800<va
instance (va : Int) (fs : List aI) : Decidable (HY va fs) := by unfold HY; infer_instance
def gD(A7 A5:aA):aI:=⟨none,0,[],A7,3,[⟨1,0,1,⟨#[]⟩,none,0,[]⟩,⟨1,1,2,⟨#[]⟩,none,0,[]⟩,⟨17,2,0,⟨#[]⟩,A5,2,[0,1]⟩],2,2,0,0⟩
def HZ:eV:=⟨#[102]⟩
section
variable {A5 A7 A9 : Option Addr}
theorem H0{w:World}{e size n c:Nat}{A:aA}{xs:bp}{K8:List bp}(h:(aL.row e size A n c xs).holds w)(hx:∀i cs,K8[i]?=some cs→cs≠[]∧∀j v,cs[j]?=some v→xs[i*size+j]?=some v):(aL.GM A size K8).holds w:=by
 have hr:=az h;intro i cs hi;obtain⟨dG,hg⟩:=hx i cs hi;obtain⟨v0,Cj⟩:∃v,cs[0]?=some v:=⟨_,List.getElem?_eq_getElem (List.length_pos_iff.2 dG)⟩;obtain⟨a,ha,_⟩:=hr (i*size+0) v0 (hg 0 v0 Cj);refine⟨a,ha,fun j v hj=> ?_⟩;obtain⟨a',mT,hc⟩:=hr (i*size+j) v (hg j v hj);rw[ha]at mT;injection mT with mT;subst mT;rw[add_add];exact hc
theorem QcF{w:World}{e5 e7 e9 n5 n7 n9 c5 c7 c9:Nat}(h5:(aL.row e5 1 A5 n5 c5 (ints [0,1])).holds w)(h7:(aL.row e7 5 A7 n7 c7 ((gD A7 A5).insts.flatMap cV.cells)).holds w)(h9:(aL.row e9 6 A9 n9 c9 (gD A7 A5).sb.cells).holds w):RO aR w (.fn A9 [gD A7 A5]):=by
 refine RO.of (fun r hr=> ?_);have e:(aL.blocks A9 (ae [gD A7 A5])::[gD A7 A5].flatMap aI.parts)=[.blocks A9 (ae [gD A7 A5]),.GM none 2 [],.GM A7 5 ((gD A7 A5).insts.map cV.cells),.rd none (ints []),.rd none (ints []),.rd A5 (ints [0,1])]:=rfl;rw[e]at hr;simp only[List.mem_cons,List.not_mem_nil,or_false]at hr;rcases hr with rfl|rfl|rfl|rfl|rfl|rfl
 ·refine H0 h9 (fun i cs hi=> ?_);match i,hi with
  |0,hi=>
   have:(gD A7 A5).sb.cells=cs:=by simpa[ae]using hi
   subst this;exact⟨by simp[gD,aI.sb,SB.cells],fun j v hj=>by simpa using hj⟩
  |i+1,hi=>simp[ae]at hi
 ·intro i cs hi;simp at hi
 ·refine H0 h7 (fun i cs hi=> ?_);match i,hi with
  |0,hi=>
   simp[gD]at hi;subst hi;exact⟨by simp[cV.cells],fun j v hj=>by
    have:j<5:=(List.getElem?_eq_some_iff.1 hj).1;match j,hj with
    |0,hj=>exact hj
    |1,hj=>exact hj
    |2,hj=>exact hj
    |3,hj=>exact hj
    |4,hj=>exact hj
    |j+5,hj=>omega⟩
  |1,hi=>
   simp[gD]at hi;subst hi;exact⟨by simp[cV.cells],fun j v hj=>by
    have:j<5:=(List.getElem?_eq_some_iff.1 hj).1;match j,hj with
    |0,hj=>exact hj
    |1,hj=>exact hj
    |2,hj=>exact hj
    |3,hj=>exact hj
    |4,hj=>exact hj
    |j+5,hj=>omega⟩
  |2,hi=>
   simp[gD]at hi;subst hi;exact⟨by simp[cV.cells],fun j v hj=>by
    have:j<5:=(List.getElem?_eq_some_iff.1 hj).1;match j,hj with
    |0,hj=>exact hj
    |1,hj=>exact hj
    |2,hj=>exact hj
    |3,hj=>exact hj
    |4,hj=>exact hj
    |j+5,hj=>omega⟩
  |i+3,hi=>simp[gD]at hi
 ·intro i v hi;simp[ints]at hi
 ·intro i v hi;simp[ints]at hi
 ·exact az h5
theorem Pr:rp [gD A7 A5]:=by
 intro x hx;rw[List.mem_singleton]at hx;subst hx;refine⟨by simp[gD,jq],fun p hp=>by simp[gD]at hp,by simp[gD,jq],fun p hp=> ?_,by simp[gD,In64],by simp[gD,In64],by simp[gD,In64],by simp[gD,In64]⟩;simp only[gD,List.mem_cons,List.not_mem_nil,or_false]at hp;rcases hp with rfl|rfl|rfl
 ·exact⟨by simp[In64],by simp[In64],by simp[In64],by show(0:Nat)≤_;omega,by simp[jq],fun x hx=>by simp at hx⟩
 ·exact⟨by simp[In64],by simp[In64],by simp[In64],by show(0:Nat)≤_;omega,by simp[jq],fun x hx=>by simp at hx⟩
 ·exact⟨by simp[In64],by simp[In64],by simp[In64],by show(0:Nat)≤_;omega,by simp[jq],fun x hx=>by simp at hx;rcases hx with rfl|rfl<;>simp[In64]⟩
theorem vp:cX [gD A7 A5]=[(0,0,0),(1,0,1),(2,0,2)]:=rfl
theorem Tf:mL HZ 0 3 [gD A7 A5]where
 name:=⟨dQ,dQ⟩;par:=oM;pos:=sI;aE x hx:=by simp at hx;subst hx;rfl
 src:=rfl;all:=rfl;ends x hx:=by rw[List.mem_singleton]at hx;subst hx;exact .inr (.inr (.inl ⟨rfl,rfl,rfl⟩))
 Df:=by
  refine⟨fun x hx p hp=> ?_,?_⟩
  ·rw[List.mem_singleton]at hx;subst hx;simp only[gD,List.mem_cons,List.not_mem_nil,or_false]at hp;have e0:(⟨#[]⟩:eV).size=0:=rfl;rcases hp with rfl|rfl|rfl<;>simp[bU,bf,e0]
  ·rw[vp];exact⟨sI,sI⟩
 reads k hk:=by
  obtain rfl:k=0:=by simp at hk;exact hk
  refine⟨gD A7 A5,rfl,⟨fun j p hp=>by simp[gD]at hp,fun j p hp i a ha=> ?_,fun _=> ?_⟩⟩
  ·match j,hp with
   |0,hp=>simp[gD]at hp;subst hp;simp at ha
   |1,hp=>simp[gD]at hp;subst hp;simp at ha
   |2,hp=>
    simp[gD]at hp;subst hp;match i,ha with
    |0,ha=>simp at ha;subst ha;exact⟨oM,oM,.inr ⟨(0,0),by rw[vp];rfl,.inl ⟨rfl,sI⟩⟩⟩
    |1,ha=>simp at ha;subst ha;exact⟨oM,oM,.inr ⟨(0,1),by rw[vp];rfl,.inl ⟨rfl,sI⟩⟩⟩
    |i+2,ha=>simp at ha
   |j+3,hp=>simp[gD]at hp
  ·exact⟨by simp[gD],by simp[gD],.inr ⟨(0,2),by rw[vp];rfl,.inl ⟨rfl,sI⟩⟩⟩
theorem xI:dE HZ 0 3 [gD A7 A5]=0:=(Bn (by rintro(h|h)<;>simp[eb,gS,gD]at h) Tf).symm
theorem YF{v:Int}:¬yd (gD A7 A5) v:=by
 rintro⟨_,h|⟨_,h,h2⟩⟩
 ·simp only[gD,lx,List.not_mem_nil,false_or,List.mem_cons,or_false,and_false]at h;omega
 ·exact h2 _ (List.mem_cons_of_mem _ (List.mem_cons_of_mem _ List.mem_cons_self)) h
theorem QcG(b:Int)(hb:b=0):tg (ae [gD A7 A5]) b=[]:=by subst hb;rfl
theorem H2{q:Bool}{b v:Int}(h:LV [gD A7 A5] q b v):b≠0:=by
 intro hb;induction h with
 | @use b x v hx hu=>
  obtain rfl:b=0:=oM;simp at hx;subst hx;exact YF hu
 |Fc _ _ _ ih=>exact ih hb
 | @uW b v h=>
  obtain⟨t,x,j,p,i,hx,hp,_⟩:=h;have:=List.mem_of_getElem? hx;rw[List.mem_singleton]at this;subst this;simp[gD]at hp
 | @I5 b t v ht _ _=>
  rw[QcG b hb]at ht;simp at ht
theorem D9:mM 3 [gD A7 A5] (fun _ _=>false) (fun _ _=>false):=by
 intro b hb v _ _;obtain rfl:b=0:=by simp at hb;exact hb
 exact⟨⟨fun h=>Bool.noConfusion h,fun h=>absurd rfl (H2 h)⟩,⟨fun h=>Bool.noConfusion h,fun h=>absurd rfl (H2 h)⟩⟩
theorem YG:bV (gD A7 A5) (fun _=>false)=fun v=>v==2:=by
 funext v;unfold bV;rw[Bool.eq_iff_iff];simp only[Bool.false_or,decide_eq_true_eq,beq_iff_eq];constructor
 ·rintro⟨_,h⟩;exact h.symm
 ·rintro rfl;exact⟨.inr ⟨rfl,by simp[gD]⟩,rfl⟩
end
end Go.Mor
namespace Go.Mor
open Go.RowKit
end Go.Mor
namespace Go.Mor
open Go.RowKit
theorem aY{n:Nat}{S:Int→Bool}{v:Int}:v∈ag n S↔0≤v∧v<(n:Int)∧S v=true:=by
 unfold ag;simp only[List.mem_map,List.mem_filter,List.mem_range];constructor
 ·rintro⟨i,⟨h1,h2⟩,rfl⟩;exact⟨oM,oM,h2⟩
 ·rintro⟨h0,h1,h2⟩;exact⟨v.toNat,⟨oM,by rw[Int.toNat_of_nonneg h0];exact h2⟩,Int.toNat_of_nonneg h0⟩
theorem dy{ds:uB}{v:Int}{p:Int×Int}(h:findD ds v=some p):(v,p)∈ds:=by
 by_cases hm:v∈ds.map (·.1)
 ·obtain⟨p',h4,h5⟩:=kE hm;rw[h]at h4;injection h4 with h4;subst h4;exact h5
 ·rw[iT hm]at h;cases h
theorem fP{fs:List aI}{d:Int×Int×Int}(h:d∈cX fs):∃(k:Nat) (x:aI),d.2.1=(k:Int)∧fs[k]?=some x∧((∃p,p∈x.aE∧p.dst=d.1)∨∃(j:Nat) (p:cV),x.insts[j]?=some p∧d.2.2=(j:Int)∧p.dst=d.1):=by
 unfold cX en at h;rw[List.mem_flatMap]at h;obtain⟨x,hx,hd⟩:=h;rw[List.take_length]at hx;have Y6:fs[x.2]?=some x.1:=List.mem_zipIdx_iff_getElem?.1 hx;unfold kc at hd;rcases List.mem_append.1 hd with hd|hd
 ·unfold dJ at hd;obtain⟨p,hp,rfl⟩:=List.mem_map.1 hd;exact⟨x.2,x.1,rfl,Y6,.inl ⟨p,hp,rfl⟩⟩
 ·unfold ei at hd;obtain⟨p,hp,rfl⟩:=List.mem_map.1 hd;exact⟨x.2,x.1,rfl,Y6,.inr ⟨p.2,p.1,List.mem_zipIdx_iff_getElem?.1 (List.mem_filter.1 hp).1,rfl,rfl⟩⟩
theorem mY{l:List cV}{v:Int}(h:lx l v):∃(j:Nat) (p:cV) (i:Nat),l[j]?=some p∧p.args[i]?=some v∧∀(j':Nat) (p':cV),j'<j→l[j']?=some p'→p'.dst≠v:=by
 induction l with
 |nil=>exact h.elim
 |cons p l ih=>
  rcases h with h|⟨h1,h2⟩
  ·obtain⟨i,hi⟩:=List.mem_iff_getElem?.1 h;exact⟨0,p,i,rfl,hi,fun j' _ h _=>absurd h (Nat.not_lt_zero _)⟩
  ·obtain⟨j,q,i,h3,h4,h5⟩:=ih h2;refine⟨j+1,q,i,by simpa using h3,h4,fun j' p' hj hp=> ?_⟩;cases j' with
   |zero=>simp at hp;subst hp;exact h1
   |succ j'=>exact h5 j' p' oM (by simpa using hp)
section
variable {nm : ByteArray} {pa va : Int} {fs : List aI}
theorem ob(h:mL nm pa va fs){q:Bool}{b v:Int}(hl:LV fs q b v):v<pa∨∃p,findD (cX fs) v=some p∧Dm (tg (ae fs)) p.1 b∧(q=true→p.1≠b):=by
 have made:∀{p:Int×Int} {b:Nat} {x:aI} {v:Int},findD (cX fs) v=some p→p.1=(b:Int)→fs[b]?=some x→(∃r,r∈x.aE∧r.dst=v)∨∃(j:Nat) (r:cV),x.insts[j]?=some r∧p.2=(j:Int)∧r.dst=v:=by
  intro p b x v hp e hx;obtain⟨k,y,h1,h2,h3⟩:=fP (dy hp);have:k=b:=by simp only at h1;omega
  subst this;rw[hx]at h2;injection h2 with h2;subst h2;exact h3
 induction hl with
 | @use b x v hx hu=>
  obtain⟨y,hy,hr⟩:=h.reads b (List.getElem?_eq_some_iff.1 hx).1;rw[hx]at hy;injection hy with hy;subst hy;rcases hu.2 with JG|⟨hf,hv,hn⟩
  ·obtain⟨j,p,i,hp,ha,VG⟩:=mY JG;obtain⟨_,_,h3|⟨d,hd,h3⟩⟩:=hr.insts j p hp i v ha
   ·exact .inl h3
   ·rcases h3 with⟨h3,h4⟩|⟨h3,h4⟩
    ·exfalso;rcases made hd h3 hx with⟨r,h5,h6⟩|⟨j',r,h5,h6,h7⟩
     ·exact hu.1 r h5 h6
     ·exact VG j' r oM h5 h7
    ·exact .inr ⟨d,hd,h4,fun _=>h3⟩
  ·obtain⟨_,_,h3|⟨d,hd,h3⟩⟩:=hr.fin (by unfold gu at hf;unfold yb;omega)
   ·exact .inl (by rw[←hv];exact h3)
   ·rw[hv]at hd;rcases h3 with⟨h3,h4⟩|⟨h3,h4⟩
    ·exfalso;rcases made hd h3 hx with⟨r,h5,h6⟩|⟨j',r,h5,_,h7⟩
     ·exact hu.1 r h5 h6
     ·exact hn r (List.mem_of_getElem? h5) h7
    ·exact .inr ⟨d,hd,h4,fun _=>h3⟩
 | @Fc b x v hx hl hm ih=>
  rcases ih with ih|⟨d,hd,h4,_⟩
  ·exact .inl ih
  ·refine .inr ⟨d,hd,h4,fun _ e=>hm ?_⟩;rcases made hd e hx with⟨r,h5,h6⟩|⟨j',r,h5,_,h7⟩
   ·exact .inl ⟨r,h5,h6⟩
   ·exact .inr ⟨r,List.mem_of_getElem? h5,h7⟩
 | @uW b v hp=>
  obtain⟨t,x,j,p,i,hx,hp,hs,ha⟩:=hp;obtain⟨y,hy,hr⟩:=h.reads t (List.getElem?_eq_some_iff.1 hx).1;rw[hx]at hy;injection hy with hy;subst hy;obtain⟨_,_,h3|⟨d,hd,h3⟩⟩:=(hr.aE j p hp).2 i v b ha hs
  ·exact .inl h3
  ·rcases h3 with⟨h3,_⟩|⟨_,h4⟩
   ·exact .inr ⟨d,hd,h3▸Dm.self _,fun e=>Bool.noConfusion e⟩
   ·exact .inr ⟨d,hd,h4,fun e=>Bool.noConfusion e⟩
 | @I5 b t v ht hl ih=>
  rcases ih with ih|⟨d,hd,h4,h5⟩
  ·exact .inl ih
  ·exact .inr ⟨d,hd,h4.src (h5 rfl) ht,fun e=>Bool.noConfusion e⟩
theorem oc(h:mL nm pa va fs){v:Int}(hl:LV fs true 0 v):v<pa:=by
 rcases ob h hl with h1|⟨d,_,h2,h3⟩
 ·exact h1
 ·exact absurd h2.AN (h3 rfl)
end
end Go.Mor
namespace Go.Mor
open Go.RowKit
structure mS(n:Nat)(s:nK)(T:Int→Bool):Prop where
 len:s.pl.length=n
 V9:0≤s.nx
 Ej:∀u:Nat,u<n→T (u:Int)=true→0≤s.pl.getD u 0∧s.pl.getD u 0<s.nx
 sep:∀u v:Nat,u<n→v<n→T (u:Int)=true→T (v:Int)=true→s.pl.getD u 0=s.pl.getD v 0→u=v
 r4:∀p:Int,p∈s.fr↔0≤p∧p<s.nx∧∀u:Nat,u<n→T (u:Int)=true→s.pl.getD u 0≠p
 IM:s.fr.Nodup
section
variable {n : Nat} {s : nK} {T : Int → Bool} {v : Nat}
theorem mS.congr(h:mS n s T){U:Int→Bool}(e:∀u:Nat,u<n→T (u:Int)=U (u:Int)):mS n s U:=⟨h.len,h.V9,fun u hu ht=>h.Ej u hu ((e u hu).trans ht),fun u w hu hw h1 h2=>h.sep u w hu hw ((e u hu).trans h1) ((e w hw).trans h2),fun p=>by
    rw[h.r4 p];constructor
    · rintro⟨h1,h2,h3⟩;exact⟨h1,h2,fun u hu ht=>h3 u hu ((e u hu).trans ht)⟩
    · rintro⟨h1,h2,h3⟩;exact⟨h1,h2,fun u hu ht=>h3 u hu ((e u hu).symm.trans ht)⟩,h.IM⟩
theorem bh{l:ar}{i:Nat}{x:Int}(h:i<l.length):(l.set i x).getD i 0=x:=by simp[List.getD,h]
theorem getD_set_ne{l:ar}{i j:Nat}{x:Int}(h:i≠j):(l.set i x).getD j 0=l.getD j 0:=by simp[List.getD,List.getElem?_set_ne h]
theorem br{u:Nat}:cC T (v:Int) (u:Int)=true↔u=v∨T (u:Int)=true:=by
 rw[fY];constructor
 ·rintro(h|h)
  ·exact .inl oM
  ·exact .inr h
 ·rintro(h|h)
  ·exact .inl oM
  ·exact .inr h
theorem bN{u:Nat}:kD T (v:Int) (u:Int)=true↔u≠v∧T (u:Int)=true:=by
 unfold kD;rw[Bool.and_eq_true,Bool.not_eq_true',beq_eq_false_iff_ne];constructor
 ·rintro⟨h1,h2⟩;exact⟨fun e=>h1 oM,h2⟩
 ·rintro⟨h1,h2⟩;exact⟨fun e=>h1 oM,h2⟩
theorem mS.FB(h:mS n s T)(hv:v<n)(ht:T (v:Int)=false):mS n (fv s v) (cC T (v:Int)):=by
 have ZJ:v<s.pl.length:=by rw[h.len];exact hv
 unfold fv;split
 ·rename_i h0;have hp:=Js h0;have hm:∀x,x∈s.fr↔x∈tB s.fr∨x=pD s.fr:=fun x=>by rw[←hp.mem_iff,List.mem_append,List.mem_singleton]
  have hn:(tB s.fr++[pD s.fr]).Nodup:=hp.nodup_iff.2 h.IM;rw[List.nodup_append]at hn;obtain⟨CY,_,nk⟩:=hn;have htf:=(h.r4 (pD s.fr)).1 ((hm _).2 (.inr rfl));have hnt:pD s.fr∉tB s.fr:=fun hx=>nk _ hx _ sI rfl
  refine⟨by simp[h.len],h.V9,fun u hu eE=> ?_,fun u w hu hw h1 h2 e=> ?_,fun p=> ?_,CY⟩
  ·show 0≤(s.pl.set v (pD s.fr)).getD u 0∧(s.pl.set v (pD s.fr)).getD u 0<s.nx;by_cases eu:u=v
   ·subst eu;rw[bh ZJ];exact⟨htf.1,htf.2.1⟩
   ·rw[getD_set_ne (fun e=>eu e.symm)];exact h.Ej u hu ((br.1 eE).resolve_left eu)
  ·have e:(s.pl.set v (pD s.fr)).getD u 0=(s.pl.set v (pD s.fr)).getD w 0:=e;by_cases eu:u=v
   ·by_cases ew:w=v
    ·omega
    ·subst eu;rw[bh ZJ,getD_set_ne (fun e=>ew e.symm)]at e;exact absurd e.symm (htf.2.2 w hw ((br.1 h2).resolve_left ew))
   ·by_cases ew:w=v
    ·subst ew;rw[bh ZJ,getD_set_ne (fun e=>eu e.symm)]at e;exact absurd e (htf.2.2 u hu ((br.1 h1).resolve_left eu))
    ·rw[getD_set_ne (fun e=>eu e.symm),getD_set_ne (fun e=>ew e.symm)]at e;exact h.sep u w hu hw ((br.1 h1).resolve_left eu) ((br.1 h2).resolve_left ew) e
  ·show p∈tB s.fr↔0≤p∧p<s.nx∧∀u:Nat,u<n→cC T (v:Int) (u:Int)=true→(s.pl.set v (pD s.fr)).getD u 0≠p;constructor
   ·intro rV;obtain⟨h1,h2,h3⟩:=(h.r4 p).1 ((hm p).2 (.inl rV));refine⟨h1,h2,fun u hu eE=> ?_⟩;by_cases eu:u=v
    ·subst eu;rw[bh ZJ];exact fun e=>hnt (e▸rV)
    ·rw[getD_set_ne (fun e=>eu e.symm)];exact h3 u hu ((br.1 eE).resolve_left eu)
   ·rintro⟨h1,h2,h3⟩;have h4:p∈s.fr:=(h.r4 p).2 ⟨h1,h2,fun u hu eE=>by
     have h5:=h3 u hu (br.2 (.inr eE));have eu:u≠v:=fun e=>by subst e;rw[ht]at eE;cases eE
     rwa [getD_set_ne (fun e=>eu e.symm)]at h5⟩
    rcases(hm p).1 h4 with h5|h5
    ·exact h5
    ·have h6:=h3 v hv (br.2 (.inl rfl));rw[bh ZJ]at h6;exact absurd h5.symm h6
 ·rename_i h0;have hfr:s.fr=[]:=List.eq_nil_of_length_eq_zero oM;refine⟨by simp[h.len],by have:=h.V9;show 0≤s.nx+1;omega,fun u hu eE=> ?_,fun u w hu hw h1 h2 e=> ?_,fun p=> ?_,h.IM⟩
  ·show 0≤(s.pl.set v s.nx).getD u 0∧(s.pl.set v s.nx).getD u 0<s.nx+1;by_cases eu:u=v
   ·subst eu;rw[bh ZJ];have:=h.V9;omega
   ·rw[getD_set_ne (fun e=>eu e.symm)];have:=h.Ej u hu ((br.1 eE).resolve_left eu);omega
  ·have e:(s.pl.set v s.nx).getD u 0=(s.pl.set v s.nx).getD w 0:=e;by_cases eu:u=v
   ·by_cases ew:w=v
    ·omega
    ·subst eu;rw[bh ZJ,getD_set_ne (fun e=>ew e.symm)]at e;have:=h.Ej w hw ((br.1 h2).resolve_left ew);omega
   ·by_cases ew:w=v
    ·subst ew;rw[bh ZJ,getD_set_ne (fun e=>eu e.symm)]at e;have:=h.Ej u hu ((br.1 h1).resolve_left eu);omega
    ·rw[getD_set_ne (fun e=>eu e.symm),getD_set_ne (fun e=>ew e.symm)]at e;exact h.sep u w hu hw ((br.1 h1).resolve_left eu) ((br.1 h2).resolve_left ew) e
  ·show p∈s.fr↔0≤p∧p<s.nx+1∧∀u:Nat,u<n→cC T (v:Int) (u:Int)=true→(s.pl.set v s.nx).getD u 0≠p;constructor
   ·intro rV;rw[hfr]at rV;cases rV
   ·rintro⟨h1,h2,h3⟩;have h6:=h3 v hv (br.2 (.inl rfl));rw[bh ZJ]at h6;exact(h.r4 p).2 ⟨h1,oM,fun u hu eE=>by
     have h5:=h3 u hu (br.2 (.inr eE));have eu:u≠v:=fun e=>by subst e;rw[ht]at eE;cases eE
     rwa [getD_set_ne (fun e=>eu e.symm)]at h5⟩
theorem mS.back(h:mS n s T)(hv:v<n)(ht:T (v:Int)=true):mS n (gq s v) (kD T (v:Int)):=by
 have hp:=Fz s.fr (s.pl.getD v 0);have hm:∀x,x∈wM s.fr (s.pl.getD v 0)↔x∈s.fr∨x=s.pl.getD v 0:=fun x=>by rw[hp.mem_iff,List.mem_append,List.mem_singleton]
 have uN:=h.Ej v hv ht;have hnf:s.pl.getD v 0∉s.fr:=fun hx=>((h.r4 _).1 hx).2.2 v hv ht rfl
 refine⟨h.len,h.V9,fun u hu eE=>h.Ej u hu (bN.1 eE).2,fun u w hu hw h1 h2 e=>h.sep u w hu hw (bN.1 h1).2 (bN.1 h2).2 e,fun p=> ?_,?_⟩
 ·show p∈wM s.fr (s.pl.getD v 0)↔0≤p∧p<s.nx∧∀u:Nat,u<n→kD T (v:Int) (u:Int)=true→s.pl.getD u 0≠p;rw[hm p];constructor
  ·rintro(h1|h1)
   ·obtain⟨h2,h3,h4⟩:=(h.r4 p).1 h1;exact⟨h2,h3,fun u hu eE=>h4 u hu (bN.1 eE).2⟩
   ·subst h1;exact⟨uN.1,uN.2,fun u hu eE e=>(bN.1 eE).1 (h.sep u v hu hv (bN.1 eE).2 ht e)⟩
  ·rintro⟨h1,h2,h3⟩;by_cases e:p=s.pl.getD v 0
   ·exact .inr e
   ·exact .inl ((h.r4 p).2 ⟨h1,h2,fun u hu eE=>by
     by_cases eu:u=v
     ·subst eu;exact fun e2=>e e2.symm
     ·exact h3 u hu (bN.2 ⟨eu,eE⟩)⟩)
 ·show(wM s.fr (s.pl.getD v 0)).Nodup;rw[hp.nodup_iff,List.nodup_append];exact⟨h.IM,sI,fun a ha b hb e=>by rw[List.mem_singleton]at hb;subst hb;subst e;exact hnf ha⟩
theorem dz{l m:ar}(hn:l.Nodup)(h:∀x,x∈l→x∈m):l.length≤m.length:=by
 induction l generalizing m with
 |nil=>exact Nat.zero_le _
 |cons a l ih=>
  obtain⟨h1,h2⟩:=List.nodup_cons.1 hn;have ha:=h a (List.mem_cons_self ..);have h3:=ih h2 (m:=m.erase a) (fun x hx=>by
   have dG:x≠a:=fun e=>by subst e;exact h1 hx
   exact(List.mem_erase_of_ne dG).2 (h x (List.mem_cons_of_mem _ hx)))
  rw[List.length_erase_of_mem ha]at h3;have:0<m.length:=List.length_pos_of_mem ha;rw[bk];omega
theorem mS.full(h:mS n s T)(h0:s.fr=[]):s.nx≤(l9 n T:Int):=by
 have h1:((List.range s.nx.toNat).map (fun i:Nat=>(i:Int))).length≤((ag n T).map (fun v=>s.pl.getD v.toNat 0)).length:=by
  refine dz ?_ (fun p hp=> ?_)
  ·unfold List.Nodup;rw[yI];have h2:(List.range s.nx.toNat).Pairwise (fun a b=>a≠b):=jX;refine jD ?_ h2;intro a b h3 e;have e2:(a:Int)=(b:Int):=e;exact h3 oM
  ·obtain⟨i,hi,rfl⟩:=List.mem_map.1 hp;have hi:=List.mem_range.1 hi;have h3:¬∀u:Nat,u<n→T (u:Int)=true→s.pl.getD u 0≠(i:Int):=fun h4=>by have h5:=(h.r4 (i:Int)).2 ⟨oM,oM,h4⟩;rw[h0]at h5;cases h5
   obtain⟨u,hu⟩:=Classical.not_forall.1 h3;obtain⟨hu1,hu⟩:=Classical.not_imp.1 hu;obtain⟨eE,hu⟩:=Classical.not_imp.1 hu;exact List.mem_map.2 ⟨(u:Int),aY.2 ⟨oM,oM,eE⟩,by rw[Int.toNat_natCast];exact Classical.not_not.1 hu⟩
 simp only[List.length_map,List.length_range]at h1;have h2:=h.V9;unfold l9;omega
end
end Go.Mor
namespace Go.Mor
open Go.RowKit
def vD(is:List cV)(q:Nat)(v:Int):Prop:=∃p,is[q]?=some p∧v∈p.args
def cJ(is:List cV)(j:Nat)(v:Int)(o:Option Int):Prop:=(∃q:Nat,q<j∧vD is q v∧(∀q',q<q'→q'<j→¬vD is q' v)∧o=some (q:Int))∨((∀q,q<j→¬vD is q v)∧(o=none∨o=some (-1)))
theorem e8{l:List (Int×Int)}{vs:ar}{i v:Int}:dX (mf l vs i) v=if v∈vs then some i else dX l v:=by
 induction vs generalizing l with
 |nil=>simp[mf]
 |cons a vs ih=>
  show dX (mf (oI l a i) vs i) v=_;rw[ih,qh];by_cases h:v∈vs
  ·rw[if_pos h,if_pos (List.mem_cons_of_mem _ h)]
  ·rw[if_neg h];by_cases e:v=a
   ·subst e;simp
   ·rw[if_neg e,if_neg (by simp[e,h])]
theorem gA{l:List (Int×Int)}{d v:Int}:dX (BE l d) v=dX l v∨(dX l v=none∧dX (BE l d) v=some (-1)):=by
 unfold BE;split
 ·exact .inl rfl
 ·rename_i h;rw[qh];by_cases e:v=d
  ·subst e;rw[if_pos rfl];refine .inr ⟨?_,rfl⟩;cases h2:dX l v with
   |none=>rfl
   |some x=>rw[h2]at h;exact absurd rfl h
  ·rw[if_neg e];exact .inl rfl
theorem cJ.see{is:List cV}{j:Nat}{v:Int}{o o2:Option Int}(h:cJ is j v o)(e:o2=o∨(o=none∧o2=some (-1))):cJ is j v o2:=by
 rcases e with e|⟨e1,e2⟩
 ·rw[e];exact h
 ·rcases h with⟨q,_,_,_,h4⟩|⟨h1,_⟩
  ·rw[e1]at h4;cases h4
  ·exact .inr ⟨h1,.inr e2⟩
theorem gB{is:List cV}{v:Int}:∀{j:Nat},j≤is.length→cJ is j v (dX (lI [] is j) v)
 |0,_=> .inr ⟨fun q h=>absurd h (Nat.not_lt_zero _),.inl rfl⟩
 |j+1,hj=>by
  obtain⟨p,hp⟩:=ba (l:=is) (i:=j) oM;have ih:=gB (is:=is) (v:=v) (j:=j) oM;rw[zv hp];have h1:cJ is (j+1) v (dX (mf (lI [] is j) p.args (j:Int)) v):=by
   rw[e8];by_cases hm:v∈p.args
   ·rw[if_pos hm];exact .inl ⟨j,oM,⟨p,hp,hm⟩,fun q' h1 h2=>oM,rfl⟩
   ·rw[if_neg hm];have hn:¬vD is j v:=by rintro⟨p',h1,h2⟩;rw[hp]at h1;injection h1 with h1;subst h1;exact hm h2
    rcases ih with⟨q,h1,h2,h3,h4⟩|⟨h1,h2⟩
    ·refine .inl ⟨q,oM,h2,fun q' h5 h6=> ?_,h4⟩;by_cases e:q'=j
     ·subst e;exact hn
     ·exact h3 q' h5 oM
    ·refine .inr ⟨fun q h3=> ?_,h2⟩;by_cases e:q=j
     ·subst e;exact hn
     ·exact h1 q oM
  unfold Jn;split
  ·exact h1.see gA
  ·exact h1
theorem oe{is:List cV}{v:Int}{ps:List fI}{l:List (Int×Int)}{j:Nat}(h:cJ is j v (dX l v)):cJ is j v (dX (RP l ps) v):=by
 unfold RP;induction ps generalizing l with
 |nil=>exact h
 |cons p ps ih=>exact ih (l:=BE l p.dst) (h.see gA)
section
variable {x : aI} {n : Nat} {S : Int → Bool} {v : Int}
theorem j8(h0:0≤v)(h1:v<(n:Int)):(bV x S v=true∧dX (aj x n S) v=some (x.insts.length:Int))∨(bV x S v=false∧cJ x.insts x.insts.length v (dX (aj x n S) v)):=by
 have hb:cJ x.insts x.insts.length v (dX (RP (lI [] x.insts x.insts.length) x.aE) v):=oe (gB (Nat.le_refl _));have hl:v∈ag n S↔S v=true:=by rw[aY];exact⟨fun h=>h.2.2,fun h=>⟨h0,h1,h⟩⟩
 unfold aj;by_cases hf:gu x
 ·rw[Dx hf,qh,e8];by_cases e:v=x.v
  ·rw[if_pos e];exact .inl ⟨by rw[←wz hf,fY];exact .inl e,rfl⟩
  ·rw[if_neg e];by_cases hs:S v=true
   ·rw[if_pos (hl.2 hs)];exact .inl ⟨by rw[←wz hf,fY];exact .inr hs,rfl⟩
   ·rw[if_neg (fun h=>hs (hl.1 h))];refine .inr ⟨?_,hb⟩;rw[←wz hf,Bool.eq_false_iff];intro h;rw[fY]at h;exact h.elim e hs
 ·rw[RN hf,e8];by_cases hs:S v=true
  ·rw[if_pos (hl.2 hs)];exact .inl ⟨by rw[←Bp hf];exact hs,rfl⟩
  ·rw[if_neg (fun h=>hs (hl.1 h))];exact .inr ⟨by rw[←Bp hf];simpa using hs,hb⟩
theorem iq{l:List cV}(h:qD l v):lx l v↔∃p,p∈l∧v∈p.args:=by
 induction l with
 |nil=>simp[lx]
 |cons p l ih=>
  have h2:qD l v:=fun q hq=>h q (List.mem_cons_of_mem _ hq)
  have e:lx (p::l) v↔v∈p.args∨(p.dst≠v∧lx l v):=Iff.rfl;rw[e,ih h2];constructor
  ·rintro(h3|⟨_,q,h3,h4⟩)
   ·exact⟨p,List.mem_cons_self ..,h3⟩
   ·exact⟨q,List.mem_cons_of_mem _ h3,h4⟩
  ·rintro⟨q,h3,h4⟩;rcases List.mem_cons.1 h3 with e|h3
   ·subst e;exact .inl h4
   ·exact .inr ⟨h p (List.mem_cons_self ..),q,h3,h4⟩
theorem j9{l:List cV}{i:Nat}{E:Int→Bool}(h0:0≤v)(h:∀q p,i≤q→l[q]?=some p→p.dst≠v):bH (l.drop i) E v=true↔(∃q,i≤q∧vD l q v)∨E v=true:=by
 have hn:qD (l.drop i) v:=fun p hp=>by obtain⟨q,hq⟩:=List.mem_iff_getElem?.1 hp;rw[List.getElem?_drop]at hq;exact h _ p oM hq
 rw[I4 h0,iq hn];constructor
 ·rintro(⟨p,h1,h2⟩|⟨h1,_⟩)
  ·obtain⟨q,hq⟩:=List.mem_iff_getElem?.1 h1;rw[List.getElem?_drop]at hq;exact .inl ⟨i+q,oM,p,hq,h2⟩
  ·exact .inr h1
 ·rintro(⟨q,h1,p,h2,h3⟩|h1)
  ·refine .inl ⟨p,?_,h3⟩;refine List.mem_iff_getElem?.2 ⟨q-i,?_⟩;rw[List.getElem?_drop,show i+(q-i)=q by omega];exact h2
  ·exact .inr ⟨h1,hn⟩
theorem cA(h0:0≤v)(h1:v<(n:Int)){i:Nat}(hi:i≤x.insts.length)(h:∀q p,i≤q→x.insts[q]?=some p→p.dst≠v):((∃q:Nat,(q:Int)=(dX (aj x n S) v).getD (-1)∧i≤q)↔bH (x.insts.drop i) (bV x S) v=true)∧((dX (aj x n S) v).getD (-1)= -1∨∃q:Nat,(dX (aj x n S) v).getD (-1)=(q:Int)∧(vD x.insts q v∨bV x S v=true)∧q≤x.insts.length):=by
 rw[j9 h0 h];rcases j8 (x:=x) (S:=S) h0 h1 with⟨h2,h3⟩|⟨h2,h3⟩
 ·rw[h3,Option.getD_some];exact⟨⟨fun _=> .inr h2,fun _=>⟨x.insts.length,rfl,hi⟩⟩,.inr ⟨x.insts.length,rfl,.inr h2,Nat.le_refl _⟩⟩
 ·rcases h3 with⟨q,h4,h5,h6,h7⟩|⟨h4,h5⟩
  ·rw[h7,Option.getD_some];refine⟨⟨?_,?_⟩,.inr ⟨q,rfl,.inl h5,oM⟩⟩
   ·rintro⟨q2,e,h8⟩;have:q2=q:=oM;subst this;exact .inl ⟨q2,h8,h5⟩
   ·rintro(⟨q2,h8,h9⟩|h8)
    ·refine⟨q,rfl,?_⟩;rcases Nat.lt_or_ge q q2 with u0|u0
     ·obtain⟨p,hp,_⟩:=h9;exact absurd ⟨p,hp,‹_›⟩ (h6 q2 u0 (List.getElem?_eq_some_iff.1 hp).1)
     ·omega
    ·rw[h2]at h8;cases h8
  ·have e:(dX (aj x n S) v).getD (-1)= -1:=by rcases h5 with h5|h5<;>rw[h5]<;>rfl
   rw[e];refine⟨⟨?_,?_⟩,.inl rfl⟩
   ·rintro⟨q,h6,_⟩;omega
   ·rintro(⟨q,_,h6⟩|h6)
    ·obtain⟨p,hp,h7⟩:=h6;exact absurd ⟨p,hp,h7⟩ (h4 q (List.getElem?_eq_some_iff.1 hp).1)
    ·rw[h2]at h6;cases h6
end
end Go.Mor
namespace Go.Mor
open Go.RowKit
structure bJ(n:Nat)(s:nK)(T:Int→Bool)(M:Int)(G:Int→Prop)(L:ar→Prop):Prop where
 u2:mS n s T
 nx:s.nx≤M
 Ej:∀u:Nat,u<n→0≤s.pl.getD u 0∧s.pl.getD u 0<M
 sep:∀l,L l→eg s.pl l=true∧∀v,v∈l→0≤v∧G v
 tg:∀u:Nat,u<n→T (u:Int)=true→G (u:Int)
theorem ir{n:Nat}{S T:Int→Bool}(h:∀u:Nat,u<n→S (u:Int)=true→T (u:Int)=true):l9 n S≤l9 n T:=by
 induction n with
 |zero=>simp[l9,ag]
 |succ n ih=>
  rw[q8,q8];have h1:=ih (fun u hu=>h u oM);have h2:=h n oM;cases hs:S (n:Int)with
  |false=>simp;omega
  |true=>rw[h2 hs];simp;omega
theorem iu{pl pl2:ar}{l:ar}(h:∀v,v∈l→pl.getD v.toNat 0=pl2.getD v.toNat 0):eg pl l=eg pl2 l:=by
 unfold eg;rw[List.map_congr_left h]
theorem kK{l:ar}{f:Int→Int}(h:l.Nodup)(hf:∀u v,u∈l→v∈l→f u=f v→u=v):(l.map f).Nodup:=by
 induction l with
 |nil=>simp
 |cons a l ih=>
  obtain⟨h1,h2⟩:=List.nodup_cons.1 h;rw[List.map_cons,List.nodup_cons];refine⟨fun hm=> ?_,ih h2 (fun u v hu hv=>hf u v (List.mem_cons_of_mem _ hu) (List.mem_cons_of_mem _ hv))⟩;obtain⟨b,hb,e⟩:=List.mem_map.1 hm;have:=hf b a (List.mem_cons_of_mem _ hb) (List.mem_cons_self ..) e;subst this;exact h1 hb
theorem k9{l:ar}{f:Int→Int}(h:(l.map f).Nodup){u v:Int}(hu:u∈l)(hv:v∈l)(e:f u=f v):u=v:=by
 induction l with
 |nil=>cases hu
 |cons a l ih=>
  rw[List.map_cons,List.nodup_cons]at h;obtain⟨h1,h2⟩:=h;rcases List.mem_cons.1 hu with e1|e1
  ·rcases List.mem_cons.1 hv with e2|e2
   ·rw[e1,e2]
   ·exact absurd (List.mem_map.2 ⟨v,e2,by rw[←e,e1]⟩) h1
  ·rcases List.mem_cons.1 hv with e2|e2
   ·exact absurd (List.mem_map.2 ⟨u,e1,by rw[e,e2]⟩) h1
   ·exact ih h2 e1 e2
section
variable {n : Nat} {s : nK} {T : Int → Bool} {M : Int} {G : Int → Prop} {L : List Int → Prop} {v : Nat}
theorem bJ.congr(h:bJ n s T M G L){U:Int→Bool}(e:∀u:Nat,u<n→(U (u:Int)=true↔T (u:Int)=true)):bJ n s U M G L:=⟨h.u2.congr (fun u hu=>by rw[Bool.eq_iff_iff];exact(e u hu).symm),h.nx,h.Ej,h.sep,fun u hu ht=>h.tg u hu ((e u hu).1 ht)⟩
theorem bJ.mono(h:bJ n s T M G L){G2:Int→Prop}{L2:ar→Prop}(hG:∀v,G v→G2 v)(hL:∀l,L2 l→L l):bJ n s T M G2 L2:=⟨h.u2,h.nx,h.Ej,fun l hl=>⟨(h.sep l (hL l hl)).1,fun v hv=>⟨((h.sep l (hL l hl)).2 v hv).1,hG v ((h.sep l (hL l hl)).2 v hv).2⟩⟩,fun u hu ht=>hG _ (h.tg u hu ht)⟩
theorem bJ.FB(h:bJ n s T M G L)(hv:v<n)(hG:¬G (v:Int))(hc:(l9 n (cC T (v:Int)):Int)≤M):bJ n (fv s v) (cC T (v:Int)) M (fun u=>G u∨u=(v:Int)) L:=by
 have ht:T (v:Int)=false:=by
  cases e:T (v:Int)with
  |false=>rfl
  |true=>exact absurd (h.tg v hv e) hG
 have ho:=h.u2.FB hv ht;have hx:(fv s v).nx≤M:=by
  by_cases h0:0<s.fr.length
  ·rw[Jl h0];exact h.nx
  ·rw[Jm h0];have h1:=h.u2.full (List.eq_nil_of_length_eq_zero oM);rw[Jc hv ht]at hc;show s.nx+1≤M;omega
 have dG:∀u:Nat,u≠v→(fv s v).pl.getD u 0=s.pl.getD u 0:=by intro u hu;unfold fv;split<;>exact getD_set_ne (fun e=>hu e.symm)
 refine⟨ho,hx,fun u hu=> ?_,fun l hl=> ?_,fun u hu h2=> ?_⟩
 ·by_cases e:u=v
  ·subst e;have:=ho.Ej u hu (br.2 (.inl rfl));omega
  ·rw[dG u e];exact h.Ej u hu
 ·obtain⟨h1,h2⟩:=h.sep l hl;refine⟨?_,fun w hw=>⟨(h2 w hw).1,.inl (h2 w hw).2⟩⟩;rw[←h1];refine iu (fun w hw=>dG _ (fun e=>hG ?_));obtain⟨h3,h4⟩:=h2 w hw;have:w=(v:Int):=oM;rw[←this];exact h4
 ·rcases br.1 h2 with e|e
  ·subst e;exact .inr rfl
  ·exact .inl (h.tg u hu e)
theorem bJ.back(h:bJ n s T M G L)(hv:v<n)(ht:T (v:Int)=true):bJ n (gq s v) (kD T (v:Int)) M G L:=⟨h.u2.back hv ht,h.nx,h.Ej,h.sep,fun u hu h2=>h.tg u hu (bN.1 h2).2⟩
theorem bJ.list(h:bJ n s T M G L):bJ n s T M G (fun l=>L l∨l=ag n T):=by
 refine⟨h.u2,h.nx,h.Ej,fun l hl=> ?_,h.tg⟩;rcases hl with hl|hl
 ·exact h.sep l hl
 ·subst hl;refine⟨?_,fun v hv=> ?_⟩
  ·unfold eg;refine decide_eq_true (kK DA (fun u v hu hv e=> ?_));obtain⟨h1,h2,h3⟩:=aY.1 hu;obtain⟨h4,h5,h6⟩:=aY.1 hv;have:=h.u2.sep u.toNat v.toNat oM oM (by rw[Int.toNat_of_nonneg h1];exact h3) (by rw[Int.toNat_of_nonneg h4];exact h6) e;omega
  ·obtain⟨h1,h2,h3⟩:=aY.1 hv;have:=h.tg v.toNat oM (by rw[Int.toNat_of_nonneg h1];exact h3);rw[Int.toNat_of_nonneg h1]at this;exact⟨h1,this⟩
theorem bJ.Qaq:∀{l:ar} {s:nK} {T:Int→Bool} {G:Int→Prop},bJ n s T M G L→l.Nodup→(∀v,v∈l→0≤v∧v<(n:Int)∧¬G v)→(l9 n (q0 T l):Int)≤M→bJ n (aD s l) (q0 T l) M (fun u=>G u∨u∈l) L
 |[],s,T,G,h,_,_,_=>by rw[sh];exact h.mono (fun v hv=> .inl hv) (fun l hl=>hl)
 |a::l,s,T,G,h,hn,hr,hc=>by
  obtain⟨h1,h2⟩:=List.nodup_cons.1 hn;obtain⟨uz,xW,haG⟩:=hr a (List.mem_cons_self ..);have ea:(a.toNat:Int)=a:=Int.toNat_of_nonneg uz;have e:q0 (cC T a) l=q0 T (a::l):=by
   funext u;unfold q0 cC;rw[Bool.eq_iff_iff];simp only[Bool.or_eq_true,List.contains_eq_mem,decide_eq_true_eq,beq_iff_eq,List.mem_cons];constructor
   ·rintro(h|h|h)
    ·exact .inl (.inr h)
    ·exact .inl (.inl h)
    ·exact .inr h
   ·rintro((h|h)|h)
    ·exact .inr (.inl h)
    ·exact .inl h
    ·exact .inr (.inr h)
  rw[←e]at hc⊢;have hg:=h.FB (v:=a.toNat) oM (by rw[ea];exact haG) (by rw[ea];have:=ir (n:=n) (S:=cC T a) (T:=q0 (cC T a) l) (fun u _ hu=>by unfold q0;rw[hu,dw]);omega)
  rw[ea]at hg;have:=bJ.Qaq (l:=l) hg h2 (fun v hv=>by obtain⟨h3,h4,h5⟩:=hr v (List.mem_cons_of_mem _ hv);exact⟨h3,h4,fun h6=>h6.elim h5 (fun e=>h1 (e▸hv))⟩) hc
  exact this.mono (fun v hv=>by
   rcases hv with(hv|hv)|hv
   ·exact .inl hv
   ·exact .inr (hv▸List.mem_cons_self ..)
   ·exact .inr (List.mem_cons_of_mem _ hv)) (fun l hl=>hl)
def ff(af:List (Int×Int))(v:Int):Prop:=(dX af v).isSome=true∧0≤(dX af v).getD 0
instance (af : List (Int × Int)) (v : Int) : Decidable (ff af v) := by unfold ff; infer_instance
theorem bJ.Qar {af : List (Int × Int)} : ∀ {l : List Int} {s : nK} {T U : Int → Bool}, bJ n s T M G L → l.Nodup → (∀ v, v ∈ l → 0 ≤ v ∧ v < (n : Int) ∧ T v = true) → (∀ u : Nat, u < n → (U (u : Int) = true ↔ T (u : Int) = true ∧ ¬ ((u : Int) ∈ l ∧ ¬ ff af (u : Int)))) → bJ n (aG af s l) U M G L
  | [], s, T, U, h, _, _, hU => h.congr (fun u hu => by rw [hU u hu]; exact ⟨fun h => h.1, fun h => ⟨h, fun h2 => by cases h2.1⟩⟩)
  | a :: l, s, T, U, h, hn, hr, hU => by
    obtain ⟨h1, h2⟩ := List.nodup_cons.1 hn
    obtain ⟨uz, xW, haT⟩ := hr a (List.mem_cons_self ..)
    have ea : (a.toNat : Int) = a := Int.toNat_of_nonneg uz
    show bJ n (aG af (uf af s a) l) U M G L
    by_cases hk : ff af a
    · have e : uf af s a = s := by unfold uf; exact if_pos hk
      rw [e]
      refine bJ.Qar h h2 (fun v hv => hr v (List.mem_cons_of_mem _ hv)) (fun u hu => ?_)
      rw [hU u hu]
      constructor
      · rintro ⟨h3, h4⟩; exact ⟨h3, fun h5 => h4 ⟨List.mem_cons_of_mem _ h5.1, h5.2⟩⟩
      · rintro ⟨h3, h4⟩
        refine ⟨h3, fun h5 => ?_⟩
        rcases List.mem_cons.1 h5.1 with e2 | e2
        · rw [e2] at h5; exact h5.2 hk
        · exact h4 ⟨e2, h5.2⟩
    · have e : uf af s a = gq s a.toNat := by unfold uf; exact if_neg hk
      rw [e]
      have hb := h.back (v := a.toNat) (by omega) (by rw [ea]; exact haT)
      refine bJ.Qar hb h2 (fun v hv => ?_) (fun u hu => ?_)
      · obtain ⟨h3, h4, h5⟩ := hr v (List.mem_cons_of_mem _ hv)
        refine ⟨h3, h4, ?_⟩
        have := bN (T := T) (v := a.toNat) (u := v.toNat)
        rw [Int.toNat_of_nonneg h3] at this
        exact this.2 ⟨fun e => h1 (by have : v = a := by omega
                                      rw [← this]; exact hv), h5⟩
      · rw [hU u hu, bN]
        constructor
        · rintro ⟨h3, h4⟩
          refine ⟨⟨fun e => h4 ⟨?_, ?_⟩, h3⟩, fun h5 => h4 ⟨List.mem_cons_of_mem _ h5.1, h5.2⟩⟩
          · rw [e, ea]; exact List.mem_cons_self ..
          · rw [e, ea]; exact hk
        · rintro ⟨⟨h3, h4⟩, h5⟩
          refine ⟨h4, fun h6 => ?_⟩
          rcases List.mem_cons.1 h6.1 with e2 | e2
          · exact h3 (by omega)
          · exact h5 ⟨e2, h6.2⟩
theorem bJ.args{af:List (Int×Int)}{i:Nat}{args:ar}(h:bJ n s T M G L)(hr:∀v,v∈args→0≤v∧v<(n:Int)∧T v=true):∀{j:Nat},j≤args.length→∀{U:Int→Bool},(∀u:Nat,u<n→(U (u:Int)=true↔T (u:Int)=true∧¬((u:Int)∈args.take j∧(dX af (u:Int)).getD 0=(i:Int))))→bJ n (bF af i args s j) U M G L
 |0,_,U,hU=>h.congr (fun u hu=>by rw[hU u hu];exact⟨fun h=>h.1,fun h=>⟨h,fun h2=>by simp at h2⟩⟩)
 |j+1,hj,U,hU=>by
  have ha:args[j]?=some args[j]:=List.getElem?_eq_getElem oM;generalize hv:args[j]=v at ha;obtain⟨h0,h1,h2⟩:=hr v (List.mem_of_getElem? ha);have ev:(v.toNat:Int)=v:=Int.toNat_of_nonneg h0;have ih:=bJ.args h hr (af:=af) (i:=i) (j:=j) oM (U:=fun u=>T u&& !(decide (u∈args.take j∧(dX af u).getD 0=(i:Int)))) (fun u hu=>by simp only[Bool.and_eq_true,Bool.not_eq_true',kq])
  have hm:∀u:Int,u∈args.take (j+1)↔u∈args.take j∨u=v:=fun u=>by rw[cS ha,List.mem_append,List.mem_singleton]
  rw[iW ha];by_cases hc:(dX af v).getD 0=(i:Int)∧¬v∈args.take j
  ·rw[if_pos hc];have hb:=ih.back (v:=v.toNat) oM (by rw[ev];simp only[Bool.and_eq_true,Bool.not_eq_true',kq];exact⟨h2,fun h3=>hc.2 h3.1⟩)
   refine hb.congr (fun u hu=> ?_);rw[hU u hu,bN,hm];simp only[Bool.and_eq_true,Bool.not_eq_true',kq];constructor
   ·rintro⟨h3,h4⟩;refine⟨fun e=>h4 ⟨.inr oM,?_⟩,h3,fun h5=>h4 ⟨.inl h5.1,h5.2⟩⟩;rw[show(u:Int)=v by omega];exact hc.1
   ·rintro⟨h3,h4,h5⟩;refine⟨h4,?_⟩;rintro⟨h6|h6,h7⟩
    ·exact h5 ⟨h6,h7⟩
    ·exact h3 oM
  ·rw[if_neg hc];refine ih.congr (fun u hu=> ?_);rw[hU u hu,hm];simp only[Bool.and_eq_true,Bool.not_eq_true',kq];constructor
   ·rintro⟨h3,h4⟩;exact⟨h3,fun h5=>h4 ⟨.inl h5.1,h5.2⟩⟩
   ·rintro⟨h3,h4⟩;refine⟨h3,?_⟩;rintro⟨h6|h6,h7⟩
    ·exact h4 ⟨h6,h7⟩
    ·rw[h6]at h7 h4;by_cases h8:v∈args.take j
     ·exact h4 ⟨h8,h7⟩
     ·exact hc ⟨h7,h8⟩
end
end Go.Mor
namespace Go.Mor
open Go.RowKit
structure BQ(n pn b:Nat)(x:aI)(I S:Int→Bool):Prop where
 arg:∀(j:Nat) (p:cV) (a:Int),x.insts[j]?=some p→a∈p.args→(0≤a∧a<(n:Int))∧∀q p',j≤q→x.insts[q]?=some p'→p'.dst≠a
 dst:∀(j:Nat) (p:cV),x.insts[j]?=some p→p.dst<(n:Int)∧(0≤p.dst→∀q p',q≠j→x.insts[q]?=some p'→p'.dst≠p.dst)
 made:∀v,v∈ai pn b x→(0≤v∧v<(n:Int))∧I v=false∧∀(q:Nat) p,x.insts[q]?=some p→p.dst≠v
 IM:(ai pn b x).Nodup
 P0:∀v:Nat,v<n→(cY pn b x S (v:Int)=true↔I (v:Int)=true∨(v:Int)∈ai pn b x)
 sub:∀v:Nat,v<n→I (v:Int)=true→bH x.insts (bV x S) (v:Int)=true
section
variable {n pn b : Nat} {x : aI} {I S : Int → Bool} {s : nK} {M : Int} {G : Int → Prop} {L : List Int → Prop} {j : Nat} {p : cV}
theorem cK{o:Option Int}{q:Nat}(h:(q:Int)=o.getD (-1)):o=some (q:Int):=by
 cases o with
 |none=>rw[Option.getD_none]at h;omega
 |some y=>rw[Option.getD_some]at h;rw[h]
theorem fE{p:cV}{S:Int→Bool}{u:Int}:yc p S u=true↔u∈p.args∨gp S p.dst u=true:=by
 unfold yc q0;rw[Bool.or_eq_true,List.contains_eq_mem,decide_eq_true_eq]
theorem ld{S:Int→Bool}{d u:Int}(hu:0≤u):gp S d u=true↔u≠d∧S u=true:=by
 unfold gp;split
 ·unfold kD;simp only[Bool.and_eq_true,Bool.not_eq_true',beq_eq_false_iff_ne]
 ·exact⟨fun h=>⟨oM,h⟩,fun h=>h.2⟩
theorem fX{S:Int→Bool}{d:Int}(hd:0≤d):cC (gp S d) d=fm S d:=by
 funext u;unfold cC gp fm;rw[if_pos hd,if_pos hd];unfold kD cC;cases h:(u==d)<;>simp
theorem bJ.inst(hq:BQ n pn b x I S)(hp:x.insts[j]?=some p)(h:bJ n s (bH (x.insts.drop j) (bV x S)) M G L)(hG:0≤p.dst→¬G p.dst)(hc:((ag n (fm (bH (x.insts.drop (j+1)) (bV x S)) p.dst)).length:Int)≤M):bJ n (BH (aj x n S) j (bF (aj x n S) j p.args s p.args.length) p.dst) (bH (x.insts.drop (j+1)) (bV x S)) M (fun v=>G v∨(0≤v∧v=p.dst)) (fun l=>L l∨l=ag n (fm (bH (x.insts.drop (j+1)) (bV x S)) p.dst)):=by
 have Eg:j+1≤x.insts.length:=(List.getElem?_eq_some_iff.1 hp).1;have eB:=q5 hp (bV x S);have h1:=h.args (af:=aj x n S) (i:=j) (args:=p.args) (fun v hv=>by
  obtain⟨⟨h2,h3⟩,_⟩:=hq.arg j p v hp hv;exact⟨h2,h3,by rw[eB,fE];exact .inl hv⟩) (Nat.le_refl _) (U:=gp (bH (x.insts.drop (j+1)) (bV x S)) p.dst) (fun u hu=>by
   rw[List.take_length,eB,fE];by_cases ha:(u:Int)∈p.args
   ·obtain⟨_,VG⟩:=hq.arg j p u hp ha;have g1:=(cA (x:=x) (S:=S) (v:=(u:Int)) (n:=n) oM oM (i:=j) oM VG).1;have g2:=(cA (x:=x) (S:=S) (v:=(u:Int)) (n:=n) oM oM (i:=j+1) Eg (fun q p' h2=>VG q p' oM)).1;obtain⟨q,e,Ah⟩:=g1.2 (by rw[eB,fE];exact .inl ha);have e2:=cK e;have hd:(u:Int)≠p.dst:=fun e=>VG j p (Nat.le_refl _) hp e.symm
    rw[ld oM,←g2,e2];simp only[Option.getD_some];constructor
    ·rintro⟨_,q2,h2,h3⟩;exact⟨.inl ha,fun h4=>oM⟩
    ·rintro⟨_,h4⟩;refine⟨hd,q,rfl,?_⟩;have:¬(q:Int)=(j:Int):=fun e=>h4 ⟨ha,e⟩
     omega
   ·constructor
    ·exact fun h2=>⟨.inr h2,fun h3=>ha h3.1⟩
    ·exact fun h2=>h2.1.resolve_left ha)
 unfold BH;by_cases hd:0≤p.dst
 ·rw[if_pos hd];obtain⟨gK,VG⟩:=hq.dst j p hp;have ed:(p.dst.toNat:Int)=p.dst:=Int.toNat_of_nonneg hd;have g2:=cA (x:=x) (S:=S) (v:=p.dst) (n:=n) hd gK (i:=j+1) Eg (fun q p' h2 h3=>VG hd q p' oM h3);have h2:=h1.FB (v:=p.dst.toNat) oM (by rw[ed];exact hG hd) (by rw[ed,fX hd];exact hc);rw[ed,fX hd]at h2;have h3:=(h2.mono (G2:=fun v=>G v∨(0≤v∧v=p.dst)) (fun v hv=>hv.elim .inl (fun e=> .inr ⟨oM,e⟩)) (fun l hl=>hl)).list;by_cases hk:(dX (aj x n S) p.dst).getD 0≤(j:Int)
  ·rw[if_pos hk];have hb:bH (x.insts.drop (j+1)) (bV x S) p.dst=false:=by rw[Bool.eq_false_iff];intro h4;obtain⟨q,e,h5⟩:=g2.1.2 h4;rw[cK e,Option.getD_some]at hk;omega
   have h4:=h3.back (v:=p.dst.toNat) oM (by rw[ed];unfold fm;rw[if_pos hd,fY];exact .inl rfl);rw[ed]at h4;refine h4.congr (fun u hu=> ?_);have:=bN (T:=fm (bH (x.insts.drop (j+1)) (bV x S)) p.dst) (v:=p.dst.toNat) (u:=u);rw[ed]at this;rw[this];unfold fm;rw[if_pos hd,fY];constructor
   ·intro h5;exact⟨fun e=>(by rw[show(u:Int)=p.dst by omega,hb]at h5;cases h5),.inr h5⟩
   ·rintro⟨h5,h6|h6⟩
    ·omega
    ·exact h6
  ·rw[if_neg hk];refine h3.congr (fun u hu=> ?_);unfold fm;rw[if_pos hd,fY];constructor
   ·exact fun h5=> .inr h5
   ·rintro(h5|h5)
    ·rw[h5,←g2.1];rcases g2.2 with e|⟨q,e,_,_⟩
     ·exfalso;cases e2:dX (aj x n S) p.dst with
      |none=>rw[e2,Option.getD_none]at hk;omega
      |some y=>rw[e2,Option.getD_some]at hk e;omega
     ·refine⟨q,e.symm,?_⟩;rw[cK e.symm,Option.getD_some]at hk;omega
    ·exact h5
 ·rw[if_neg hd];have e1:gp (bH (x.insts.drop (j+1)) (bV x S)) p.dst=bH (x.insts.drop (j+1)) (bV x S):=by unfold gp;rw[if_neg hd]
  have e2:fm (bH (x.insts.drop (j+1)) (bV x S)) p.dst=bH (x.insts.drop (j+1)) (bV x S):=by unfold fm;rw[if_neg hd]
  rw[e1]at h1;rw[e2];exact(h1.mono (fun v hv=> .inl hv) (fun l hl=>hl)).list
theorem jC{is:List cV}{E:Int→Bool}{l:ar}(h:l∈nJ n is E):∃(q:Nat) (p:cV),is[q]?=some p∧l=ag n (fm (bH (is.drop (q+1)) E) p.dst):=by
 obtain⟨q,hq⟩:=List.mem_iff_getElem?.1 h;have hl:=(List.getElem?_eq_some_iff.1 hq).1;rw[Br]at hl;obtain⟨p,hp⟩:=ba (l:=is) (i:=q) hl;rw[fZ hp]at hq;exact⟨q,p,hp,(dT hq).symm⟩
theorem bJ.block(hq:BQ n pn b x I S)(h:bJ n s I M G L)(hG:∀v,(v∈ai pn b x∨∃p,p∈x.insts∧0≤p.dst∧v=p.dst)→¬G v)(hc:∀l,l∈tA n pn b x S→(l.length:Int)≤M):bJ n (bC (aj x n S) x.insts (aG (aj x n S) (aD s (ai pn b x)) (ai pn b x)) x.insts.length) (bV x S) M (fun v=>G v∨v∈ai pn b x∨∃p,p∈x.insts∧0≤p.dst∧v=p.dst) (fun l=>L l∨l∈tA n pn b x S):=by
 have e1:ag n (q0 I (ai pn b x))=ag n (cY pn b x S):=jP (fun u hu=>by rw[Bool.eq_iff_iff,hq.P0 u hu];unfold q0;rw[Bool.or_eq_true,List.contains_eq_mem,decide_eq_true_eq];exact Or.comm)
 have h1:=(h.Qaq hq.IM (fun v hv=>⟨(hq.made v hv).1.1,(hq.made v hv).1.2,hG v (.inl hv)⟩) (by show((ag n _).length:Int)≤M;rw[e1];exact hc _ (List.mem_cons_self ..))).list
 rw[e1]at h1;have h2:=h1.Qar (af:=aj x n S) hq.IM (U:=bH (x.insts.drop 0) (bV x S)) (fun v hv=>⟨(hq.made v hv).1.1,(hq.made v hv).1.2,by
  unfold q0;rw[Bool.or_eq_true,List.contains_eq_mem,decide_eq_true_eq];exact .inl hv⟩) (fun u hu=>by
   unfold q0;rw[Bool.or_eq_true,List.contains_eq_mem,decide_eq_true_eq];by_cases hm:(u:Int)∈ai pn b x
   ·obtain⟨_,_,VG⟩:=hq.made u hm;have g:=cA (x:=x) (S:=S) (v:=(u:Int)) (n:=n) oM oM (i:=0) oM (fun q p' _ h3=>VG q p' h3);rw[←g.1];constructor
    ·rintro⟨q,e,_⟩;refine⟨.inl hm,fun h4=>h4.2 ?_⟩;unfold ff;rw[cK e];exact⟨rfl,by rw[Option.getD_some];omega⟩
    ·rintro⟨_,h4⟩;have h5:ff (aj x n S) (u:Int):=Classical.not_not.1 (fun h6=>h4 ⟨hm,h6⟩);unfold ff at h5;cases e:dX (aj x n S) (u:Int)with
     |none=>rw[e]at h5;cases h5.1
     |some y=>
      rw[e,Option.getD_some]at h5;exact⟨y.toNat,by rw[Option.getD_some];omega,Nat.zero_le _⟩
   ·rw[List.drop_zero];constructor
    ·intro h4;refine⟨.inr ((hq.P0 u hu).1 ?_|>.resolve_right hm),fun h5=>hm h5.1⟩;unfold cY;split
     ·unfold Em;rw[vb.2 (.inl h4),dw]
     ·exact vb.2 (.inl h4)
    ·rintro⟨h4|h4,_⟩
     ·exact absurd h4 hm
     ·exact hq.sub u hu h4)
 have key:∀j,j≤x.insts.length→bJ n (bC (aj x n S) x.insts (aG (aj x n S) (aD s (ai pn b x)) (ai pn b x)) j) (bH (x.insts.drop j) (bV x S)) M (fun v=>(G v∨v∈ai pn b x)∨∃(q:Nat) (p:cV),q<j∧x.insts[q]?=some p∧0≤p.dst∧v=p.dst) (fun l=>(L l∨l=ag n (cY pn b x S))∨∃(q:Nat) (p:cV),q<j∧x.insts[q]?=some p∧l=ag n (fm (bH (x.insts.drop (q+1)) (bV x S)) p.dst)):=by
  intro j;induction j with
  |zero=>
   intro _;refine h2.mono (fun v hv=> .inl hv) (fun l hl=> ?_);rcases hl with hl|⟨q,_,h3,_⟩
   ·exact hl
   ·exact absurd h3 (Nat.not_lt_zero _)
  |succ j ih=>
   intro hj;obtain⟨p,hp⟩:=ba (l:=x.insts) (i:=j) oM;have h3:=(ih oM).inst hq hp (fun hd=>by
    rintro((h4|h4)|⟨q,p',h4,h5,h6,h7⟩)
    ·exact hG p.dst (.inr ⟨p,List.mem_of_getElem? hp,hd,rfl⟩) h4
    ·exact(hq.made _ h4).2.2 j p hp rfl
    ·exact(hq.dst j p hp).2 hd q p' oM h5 h7.symm) (hc _ (List.mem_cons_of_mem _ (List.mem_of_getElem? (fZ hp))))
   rw[jH hp];refine h3.mono (fun v hv=> ?_) (fun l hl=> ?_)
   ·rcases hv with(hv|⟨q,p',h4,h5,h6⟩)|⟨h4,h5⟩
    ·exact .inl hv
    ·exact .inr ⟨q,p',oM,h5,h6⟩
    ·exact .inr ⟨j,p,oM,hp,oM,h5⟩
   ·rcases hl with hl|⟨q,p',h4,h5,h6⟩
    ·exact .inl (.inl hl)
    ·by_cases e:q=j
     ·subst e;rw[hp]at h5;injection h5 with h5;subst h5;exact .inr h6
     ·exact .inl (.inr ⟨q,p',oM,h5,h6⟩)
 have h3:=key x.insts.length (Nat.le_refl _);rw[qd]at h3;refine h3.mono (fun v hv=> ?_) (fun l hl=> ?_)
 ·rcases hv with(hv|hv)|⟨q,p,_,h5,h6⟩
  ·exact .inl hv
  ·exact .inr (.inl hv)
  ·exact .inr (.inr ⟨p,List.mem_of_getElem? h5,h6⟩)
 ·rcases hl with hl|hl
  ·exact .inl (.inl hl)
  ·rcases List.mem_cons.1 hl with hl|hl
   ·exact .inl (.inr hl)
   ·obtain⟨q,p,h4,h5⟩:=jC hl;exact .inr ⟨q,p,(List.getElem?_eq_some_iff.1 h4).1,h4,h5⟩
end
end Go.Mor
namespace Go.Mor
open Go.RowKit
theorem bK.take{n:Nat}{l:List Bool}{S:Int→Bool}(h:bK n l S){i:Nat}:bK n (l.set i false) (kD S (i:Int)):=by
 refine⟨by simp[h.1],fun j hj=> ?_⟩;unfold kD;by_cases e:i=j
 ·subst e;have:i<l.length:=by rw[h.1];exact hj
  simp[List.getD,this]
 ·have e2:((j:Int)==(i:Int))=false:=by rw[beq_eq_false_iff_ne];omega
  rw[←h.2 j hj,e2];simp[List.getD,List.getElem?_set_ne e]
def yh(n:Nat)(l:List cV)(E:Int→Bool)(j:Nat):List ar:=List.replicate j []++nJ n (l.drop j) E
section
variable {n j : Nat} {l : List cV} {E : Int → Bool}
theorem FG:yh n l E l.length=List.replicate l.length []:=by
 unfold yh;rw[List.drop_length];simp[nJ]
theorem MT:(yh n l E (j+1))[j]?=some []:=by
 unfold yh;rw[List.getElem?_append_left sI];simp
theorem Jx{p:cV}(h:l[j]?=some p):yh n l E j=(yh n l E (j+1)).set j (ag n (fm (bH (l.drop (j+1)) E) p.dst)):=by
 unfold yh;rw[Dl h,List.replicate_succ',List.append_assoc,List.set_append_right _ _ sI];simp
theorem Jy:yh n l E 0=nJ n l E:=by
 unfold yh;simp
end
theorem dx.cat{α:Type}{enc:α→Value}{r1 r2:List dg}{l1 l2:List (List α)}(h1:dx enc r1 l1)(h2:dx enc r2 l2):dx enc (r1++r2) (l1++l2):=by
 unfold dx at*;rw[List.map_append,List.map_append,h1,h2]
theorem FH{n pn k:Nat}{fs:List aI}{SI SO:Int→Int→Bool}{x:aI}(h:mM n fs SI SO)(hx:fs[k]?=some x){F:Int→Bool}(hF:F=if k=0 then Em pn (q9 x.aE (SI (k:Int)))else q9 x.aE (SI (k:Int))):ag n F=ag n (cY pn k x (SO (k:Int))):=by
 have hk:=(List.getElem?_eq_some_iff.1 hx).1;refine jP (fun i hi=> ?_);have key:q9 x.aE (SI (k:Int)) (i:Int)=q9 x.aE (bH x.insts (bV x (SO (k:Int)))) (i:Int):=by
  rw[Bool.eq_iff_iff,vb,vb];obtain⟨h1,h2⟩:=h k hk (i:Int) oM oM;have h3:SI (k:Int) (i:Int)=true↔l7 x (SO (k:Int)) (i:Int)=true:=by
   rw[h1,jO oM,h2];constructor
   ·intro hl;generalize hq:true=q at hl;generalize hb:(k:Int)=b at hl;generalize hv:(i:Int)=v at hl;cases hl with
    | @use b' y' v' hy hu=>
     have P7:b'=k:=oM;rw[P7]at hy;rw[hx]at hy;injection hy with hy;subst hy;exact .inl hu
    | @Fc b' y' v' hy hl hm=>
     have P7:b'=k:=oM;rw[P7]at hy;rw[hx]at hy;injection hy with hy;subst hy;exact .inr ⟨hl,hm⟩
    |uW _=>cases hq
    |I5 _ _=>cases hq
   ·rintro(hu|⟨hl,hm⟩)
    ·exact .use hx hu
    ·exact .Fc hx hl hm
  rw[h3];unfold l7;rw[Dh];constructor
  ·rintro(⟨a,_⟩|a)
   ·exact .inl a
   ·exact .inr a
  ·rintro(a|a)
   ·by_cases e:∃p,p∈x.aE∧p.dst=(i:Int)
    ·exact .inr e
    ·exact .inl ⟨a,fun p hp he=>e ⟨p,hp,he⟩⟩
   ·exact .inr a
 rw[hF];unfold cY;split
 ·unfold Em;rw[key]
 ·exact key
theorem og{l:List ar}{i:Nat}{a:ar}(h:l[i]?=some a):gz (l.take (i+1))=max (gz (l.take i)) a.length:=by
 rw[cS h,ig,eO,rY];omega
theorem Hq{n pn k:Nat}{fs:List aI}{SO:Int→Int→Bool}(hk:k≤fs.length):(df n pn fs SO k).length≤eb fs:=by
 have h1:∀k,k≤fs.length→(df n pn fs SO k).length≤k+gS fs k:=by
  intro k;induction k with
  |zero=>intro _;simp[Fl]
  |succ k ih=>
   intro hk;obtain⟨x,hx⟩:=ba (l:=fs) (i:=k) oM;have:=ih oM;rw[ma hx,gP hx,List.length_append,tA,bk,Br];omega
 have h2:gS fs k≤gS fs fs.length:=by
  have:∀d,k+d≤fs.length→gS fs k≤gS fs (k+d):=by
   intro d;induction d with
   |zero=>intro _;exact Nat.le_refl _
   |succ d ih=>
    intro h;obtain⟨x,hx⟩:=ba (l:=fs) (i:=k+d) oM;rw[←Nat.add_assoc,gP hx];have:=ih oM;omega
  have:=this (fs.length-k) oM;rwa [Nat.add_sub_cancel' hk]at this
 have:=h1 k hk;unfold eb;omega
theorem DG{n pn k:Nat}{fs:List aI}{SO:Int→Int→Bool}{x:aI}(hx:fs[k]?=some x):(df n pn fs SO k).length+1+x.insts.length=(df n pn fs SO (k+1)).length:=by
 rw[ma hx,List.length_append,tA,bk,Br];omega
end Go.Mor
namespace Go.Mor
open Go.RowKit
theorem dH{ds:uB}(h:(ds.map (·.1)).Nodup){v:Int}{p q:Int×Int}(h1:(v,p)∈ds)(h2:(v,q)∈ds):p=q:=by
 induction ds with
 |nil=>cases h1
 |cons d ds ih=>
  rw[List.map_cons,List.nodup_cons]at h;obtain⟨h3,h4⟩:=h;rcases List.mem_cons.1 h1 with e1|e1
  ·rcases List.mem_cons.1 h2 with e2|e2
   ·rw[←e1]at e2;injection e2 with _ e2;exact e2.symm
   ·exact absurd (List.mem_map.2 ⟨(v,q),e2,by rw[←e1]⟩) h3
  ·rcases List.mem_cons.1 h2 with e2|e2
   ·exact absurd (List.mem_map.2 ⟨(v,p),e1,by rw[←e2]⟩) h3
   ·exact ih h4 e1 e2
noncomputable def qO(fs:List aI)(b:Nat):Int→Bool:=if 0<b then jB fs (b:Int)else fun _=>false
theorem oU{n:Nat}{fs:List aI}{b:Nat}:(if 0<b then ag n (jB fs (b:Int))else[])=ag n (qO fs b):=by
 unfold qO;split
 ·rfl
 ·unfold ag;rw[List.filter_eq_nil_iff.2 (fun i _=>sI)];rfl
theorem cv{fs:List aI}{b v:Int}:jB fs b v=true↔LV fs true b v:=by
 unfold jB;exact @decide_eq_true_iff _ (Classical.propDecidable _)
theorem eF{fs:List aI}{b v:Int}:MR fs b v=true↔LV fs false b v:=by
 unfold MR;exact @decide_eq_true_iff _ (Classical.propDecidable _)
theorem r6{n:Nat}{fs:List aI}:mM n fs (jB fs) (MR fs):=fun _ _ _ _ _=>⟨cv,eF⟩
theorem sc{fs:List aI}{b:Nat}{x:aI}{v:Int}(hx:fs[b]?=some x)(hv:0≤v)(h:LV fs true (b:Int) v):l7 x (MR fs (b:Int)) v=true:=by
 rw[jO hv,eF];generalize hq:true=q at h;generalize hb:(b:Int)=b2 at h;cases h with
 | @use b' y' v' hy hu=>
  have P7:b'=b:=oM;rw[P7,hx]at hy;injection hy with hy;subst hy;exact .inl hu
 | @Fc b' y' v' hy hl hm=>
  have P7:b'=b:=oM;rw[P7,hx]at hy;injection hy with hy;subst hy;exact .inr ⟨hl,hm⟩
 |uW _=>cases hq
 |I5 _ _=>cases hq
theorem jY{fs:List aI}{b:Nat}{x:aI}(hx:fs[b]?=some x){d:Int×Int×Int}(hd:d∈kc (b:Int) x):d∈cX fs:=by
 unfold cX en;rw[List.take_length,List.mem_flatMap];exact⟨(x,b),List.mem_zipIdx_iff_getElem?.2 hx,hd⟩
theorem gb{fs:List aI}{b:Nat}{x:aI}(hx:fs[b]?=some x){p:fI}(hp:p∈x.aE):(p.dst,(b:Int),(-1:Int))∈cX fs:=jY hx (List.mem_append_left _ (List.mem_map.2 ⟨p,hp,rfl⟩))
section
variable {nm : ByteArray} {pa va : Int} {fs : List aI} {b : Nat} {x : aI} {v : Int} {n pn : Nat}
theorem cf(h:mL nm pa va fs)(hx:fs[b]?=some x){j:Nat}{p:cV}(hp:x.insts[j]?=some p)(hd:0≤p.dst):(p.dst,(b:Int),(j:Int))∈cX fs:=by
 refine jY hx (List.mem_append_right _ ?_);unfold ei;have hm:bf p.op:=((h.Df.1 x (List.mem_of_getElem? hx) p (List.mem_of_getElem? hp)).1).resolve_right oM;exact List.mem_map.2 ⟨(p,j),List.mem_filter.2 ⟨List.mem_zipIdx_iff_getElem?.2 hp,decide_eq_true hm⟩,rfl⟩
theorem cQ(h:mL nm pa va fs){p q:Int×Int}(h1:(v,p)∈cX fs)(h2:findD (cX fs) v=some q):q=p:=dH h.Df.2.2 (dy h2) h1
theorem oZ(h:mL nm pa va fs){p:Int×Int}(h1:(v,p)∈cX fs):findD (cX fs) v=some p:=by
 obtain⟨q,h2,_⟩:=kE (List.mem_map.2 ⟨_,h1,rfl⟩:v∈(cX fs).map (·.1));rw[h2,cQ h h1 h2]
theorem o0(h:mL nm pa va fs)(hx:fs[b]?=some x):(x.aE.map (·.dst)).Nodup:=by
 have h1:=(C3 hx x.aE.length h.Df.2).2;rw[List.take_length,List.map_append,List.nodup_append]at h1;have h2:=h1.2.1;unfold dJ at h2;rw[List.map_map]at h2;exact h2
theorem cW{k:Nat}:v∈ai pn k x↔(k=0∧0≤v∧v<(pn:Int))∨∃p,p∈x.aE∧p.dst=v:=by
 unfold ai;rw[List.mem_append,List.mem_map];refine or_congr ?_ Iff.rfl;split
 ·rename_i e;rw[List.mem_map];constructor
  ·rintro⟨i,hi,rfl⟩;have:=List.mem_range.1 hi;exact⟨e,oM,oM⟩
  ·rintro⟨_,h1,h2⟩;exact⟨v.toNat,List.mem_range.2 oM,Int.toNat_of_nonneg h1⟩
 ·rename_i e;constructor
  ·intro h;cases h
  ·exact fun h=>absurd h.1 e
theorem sd(h:mL nm pa va fs)(hx:fs[b]?=some x)(hn:va=(n:Int))(Uz:pa=(pn:Int)):BQ n pn b x (qO fs b) (MR fs (b:Int)):=by
 have hb:=(List.getElem?_eq_some_iff.1 hx).1;have Qi:=h.par;obtain⟨y,hy,hr⟩:=h.reads b hb;rw[hx]at hy;injection hy with hy;subst hy;have sg:∀{d:Int×Int×Int},d∈cX fs→pa≤d.1∧d.1<va:=fun hd=>h.Df.2.1 _ hd
 have h0:b=0→x.aE=[]:=fun e=>by subst e;exact List.eq_nil_of_length_eq_zero (h.aE x hx)
 have hF:=fun(F:Int→Bool) hF=>FH (n:=n) (pn:=pn) (SI:=jB fs) (SO:=MR fs) r6 hx (F:=F) hF
 have QgU:∀v:Nat,v<n→(cY pn b x (MR fs (b:Int)) (v:Int)=true↔(if b=0 then Em pn (q9 x.aE (jB fs (b:Int)))else q9 x.aE (jB fs (b:Int))) (v:Int)=true):=by
  intro v hv;have e:=hF _ rfl;constructor
  ·intro h1;have:(v:Int)∈ag n (cY pn b x (MR fs (b:Int))):=aY.2 ⟨oM,oM,h1⟩;rw[←e]at this;exact(aY.1 this).2.2
  ·intro h1;have:(v:Int)∈ag n (if b=0 then Em pn (q9 x.aE (jB fs (b:Int)))else q9 x.aE (jB fs (b:Int))):=aY.2 ⟨oM,oM,h1⟩;rw[e]at this;exact(aY.1 this).2.2
 refine⟨fun j p a hp ha=> ?_,fun j p hp=> ?_,fun v hv=> ?_,?_,fun v hv=> ?_,fun v hv hi=> ?_⟩
 ·obtain⟨i,hi⟩:=List.mem_iff_getElem?.1 ha;obtain⟨h1,h2,h3⟩:=hr.insts j p hp i a hi;refine⟨⟨h1,oM⟩,fun q p' hq Ew e=> ?_⟩;have hd:=cf h hx Ew oM;have hg:=sg hd;rcases h3 with h3|⟨pp,h3,h4⟩
  ·simp only at hg;omega
  ·have e2:=cQ h (e▸hd) h3;subst e2;rcases h4 with⟨_,h4⟩|⟨h4,_⟩
   ·simp only at h4;omega
   ·exact h4 rfl
 ·refine⟨?_,fun hd q p' hq Ew e=> ?_⟩
  ·by_cases hd:0≤p.dst
   ·have:=sg (cf h hx hp hd);simp only at this;omega
   ·omega
  ·have h1:=cf h hx hp hd;have h2:=cf h hx Ew oM;rw[e]at h2;have:=dH h.Df.2.2 h1 h2;injection this with _ this;omega
 ·rcases cW.1 hv with⟨e,h1,h2⟩|⟨p,hp,rfl⟩
  ·refine⟨⟨h1,oM⟩,by unfold qO;rw[if_neg oM],fun q p hp e2=> ?_⟩;have:=sg (cf h hx hp oM);simp only at this;omega
  ·have hd:=gb hx hp;have hg:=sg hd;simp only at hg;refine⟨⟨oM,oM⟩,?_,fun q p' Ew e2=> ?_⟩
   ·rw[Bool.eq_false_iff];intro h1;unfold qO at h1;split at h1
    ·rcases ob h (cv.1 h1)with h2|⟨pp,h2,_,h3⟩
     ·omega
     ·have e2:=cQ h hd h2;subst e2;exact h3 rfl rfl
    ·cases h1
   ·have h2:=cf h hx Ew oM;rw[e2]at h2;have:=dH h.Df.2.2 hd h2;injection this with _ this;omega
 ·unfold ai;split
  ·rename_i e;rw[h0 e,List.map_nil,List.append_nil];unfold List.Nodup;rw[yI];have h2:(List.range pn).Pairwise (fun a b=>a≠b):=jX;refine jD ?_ h2;intro a b h3 e;have e2:(a:Int)=(b:Int):=e;exact h3 oM
  ·rw[mA];exact o0 h hx
 ·rw[QgU v hv,cW];unfold qO;by_cases e:b=0
  ·subst e;rw[if_pos rfl,if_neg oM,h0 rfl];unfold Em;rw[Bool.or_eq_true,decide_eq_true_eq,vb];constructor
   ·rintro(h1|h1|⟨p,hp,_⟩)
    ·exact .inr (.inl ⟨rfl,oM,oM⟩)
    ·have:=oc h (cv.1 h1);exact .inr (.inl ⟨rfl,oM,oM⟩)
    ·cases hp
   ·rintro(h1|⟨_,h1,h2⟩|⟨p,hp,_⟩)
    ·cases h1
    ·exact .inl ⟨oM,oM⟩
    ·cases hp
  ·rw[if_neg e,if_pos oM,vb];constructor
   ·rintro(h1|h1)
    ·exact .inl h1
    ·exact .inr (.inr h1)
   ·rintro(h1|h1|h1)
    ·exact .inl h1
    ·exact absurd h1.1 e
    ·exact .inr h1
 ·unfold qO at hi;split at hi
  ·have:=sc hx oM (cv.1 hi);unfold l7 at this;rw[Dh]at this;exact this.1
  ·cases hi
end
end Go.Mor
namespace Go.Mor
open Go.RowKit
theorem sx{n pn:Nat}{fs:List aI}{SI SO:Int→Int→Bool}(h:mM n fs SI SO)(k:Nat):df n pn fs SO k=df n pn fs (MR fs) k:=Dp (fun b hb i hi=>by
  rw[Bool.eq_iff_iff];unfold MR;rw[@decide_eq_true_iff _ (Classical.propDecidable _)];exact(h b hb (i:Int) oM oM).2)
noncomputable def mg(nm:eV)(pa va:Int)(fs:List aI)(pl:ar):Bool:=if dE nm pa va fs≠0∨(pl.length:Int)≠va then false else if¬(∀x,x∈pl→0≤x)then false else(df va.toNat pa.toNat fs (MR fs) fs.length).all (eg pl)
section
variable {nm : ByteArray} {pa va : Int} {fs : List aI} {pl : List Int}
theorem wY(h:dE nm pa va fs≠0∨(pl.length:Int)≠va):mg nm pa va fs pl=false:=by unfold mg;rw[if_pos h]
theorem wZ(h:¬(dE nm pa va fs≠0∨(pl.length:Int)≠va)){x:Int}(hx:x∈pl)(h0:x<0):mg nm pa va fs pl=false:=by
 unfold mg;rw[if_neg h,if_pos (fun h2=>by have:=h2 x hx;omega)]
theorem nD(h:¬(dE nm pa va fs≠0∨(pl.length:Int)≠va))(h2:∀x,x∈pl→0≤x):mg nm pa va fs pl=(df va.toNat pa.toNat fs (MR fs) fs.length).all (eg pl):=by
 unfold mg;rw[if_neg h,if_neg (fun h3=>h3 h2)]
end
end Go.Mor
namespace Go.Mor
open Go.RowKit
theorem pd{pl vs:ar}(p:Int):(dX (hH pl vs) p).getD 0=(vs.countP (fun v=>pl.getD v.toNat 0==p):Int):=by
 have key:∀(vs:ar) (l:List (Int×Int)),(dX (vs.foldl (fun l v=>oI l (pl.getD v.toNat 0) ((dX l (pl.getD v.toNat 0)).getD 0+1)) l) p).getD 0=(dX l p).getD 0+(vs.countP (fun v=>pl.getD v.toNat 0==p):Int):=by
  intro vs;induction vs with
  |nil=>intro l;simp
  |cons v vs ih=>
   intro l;rw[List.foldl_cons,ih,qh,List.countP_cons];by_cases e:p=pl.getD v.toNat 0
   ·rw[if_pos e,e];simp;omega
   ·rw[if_neg e];have:(pl.getD v.toNat 0==p)=false:=by rw[beq_eq_false_iff_ne];exact fun e2=>e e2.symm
    rw[this];simp
 have:=key vs [];unfold hH;rw[this];simp[dX]
theorem sj{pl vs:ar}{v:Int}(h:v∈vs):pl.getD v.toNat 0+1≤uc pl vs:=by
 have key:∀(vs:ar) (a:Int),a≤vs.foldl (fun n v=>max n (pl.getD v.toNat 0+1)) a∧∀v,v∈vs→pl.getD v.toNat 0+1≤vs.foldl (fun n v=>max n (pl.getD v.toNat 0+1)) a:=by
  intro vs;induction vs with
  |nil=>intro a;exact⟨Int.le_refl _,fun v hv=>by cases hv⟩
  |cons u vs ih=>
   intro a;obtain⟨h1,h2⟩:=ih (max a (pl.getD u.toNat 0+1));rw[List.foldl_cons];refine⟨oM,fun v hv=> ?_⟩;rcases List.mem_cons.1 hv with e|e
   ·subst e;omega
   ·exact h2 v e
 exact(key vs 0).2 v h
structure sQ(n:Nat)(s:nK)(M:Int)(G:Int→Prop)(L:ar→Prop):Prop where
 len:s.pl.length=n
 Ej:∀u:Nat,u<n→0≤s.pl.getD u 0∧s.pl.getD u 0<M
 sep:∀l,L l→eg s.pl l=true∧∀v,v∈l→0≤v∧G v
section
variable {n : Nat} {s : nK} {T : Int → Bool} {M : Int} {G : Int → Prop} {L : List Int → Prop}
theorem bJ.pl(h:bJ n s T M G L):sQ n s M G L:=⟨h.u2.len,h.Ej,h.sep⟩
theorem sQ.begin(h:sQ n s M G L)(hM:1≤M)(hT:∀u:Nat,u<n→T (u:Int)=true→G (u:Int))(hs:∀u v:Nat,u<n→v<n→T (u:Int)=true→T (v:Int)=true→s.pl.getD u 0=s.pl.getD v 0→u=v):bJ n (al s (ag n T)) T M G L:=by
 have h0:=Fx (pl:=s.pl) (vs:=ag n T);have pY:∀u:Nat,u<n→T (u:Int)=true→(u:Int)∈ag n T:=fun u hu ht=>aY.2 ⟨oM,oM,ht⟩
 have hx:uc s.pl (ag n T)≤M:=Fy hM (fun x hx=>by
  obtain⟨i,hi⟩:=List.mem_iff_getElem?.1 hx;have h1:=(List.getElem?_eq_some_iff.1 hi).1;have h2:=h.Ej i (by rw[h.len]at h1;exact h1);have e:s.pl.getD i 0=x:=by simp[List.getD,hi]
  omega)
 refine⟨⟨h.len,h0,fun u hu ht=> ?_,hs,fun p=> ?_,?_⟩,hx,h.Ej,h.sep,hT⟩
 ·have h1:=sj (pl:=s.pl) (pY u hu ht);rw[Int.toNat_natCast]at h1;have h2:=h.Ej u hu;show 0≤s.pl.getD u 0∧s.pl.getD u 0<uc s.pl (ag n T);omega
 ·show p∈fT (hH s.pl (ag n T)) (uc s.pl (ag n T)).toNat↔0≤p∧p<uc s.pl (ag n T)∧∀u:Nat,u<n→T (u:Int)=true→s.pl.getD u 0≠p;have hz:(dX (hH s.pl (ag n T)) p).getD 0=0↔∀u:Nat,u<n→T (u:Int)=true→s.pl.getD u 0≠p:=by
   rw[pd];constructor
   ·intro h1 u hu ht e;have h2:(ag n T).countP (fun v=>s.pl.getD v.toNat 0==p)=0:=oM;rw[List.countP_eq_zero]at h2;have h3:=h2 _ (pY u hu ht);rw[Int.toNat_natCast,beq_iff_eq]at h3;exact h3 e
   ·intro h1;have h2:(ag n T).countP (fun v=>s.pl.getD v.toNat 0==p)=0:=by rw[List.countP_eq_zero];intro v hv;obtain⟨h3,h4,h5⟩:=aY.1 hv;rw[beq_iff_eq];exact h1 v.toNat oM (by rw[Int.toNat_of_nonneg h3];exact h5)
    omega
  rw[←hz];unfold fT;rw[List.mem_map];constructor
  ·rintro⟨i,hi,rfl⟩;obtain⟨h1,h2⟩:=List.mem_filter.1 hi;have h3:=List.mem_range.1 h1;exact⟨oM,oM,by rw[beq_iff_eq]at h2;exact h2⟩
  ·rintro⟨h1,h2,h3⟩;refine⟨p.toNat,List.mem_filter.2 ⟨List.mem_range.2 oM,?_⟩,Int.toNat_of_nonneg h1⟩;rw[Int.toNat_of_nonneg h1,beq_iff_eq];exact h3
 ·show(fT (hH s.pl (ag n T)) (uc s.pl (ag n T)).toNat).Nodup;unfold fT List.Nodup;rw[yI];refine jD ?_ (KP _ (jX (n:=(uc s.pl (ag n T)).toNat):List.Pairwise (fun a b=>a≠b) _));intro a b h3 e;have e2:(a:Int)=(b:Int):=e;exact h3 oM
end
theorem pW{n pn b:Nat}{x:aI}{S:Int→Bool}:∃l,l∈tA n pn b x S∧∀v:Nat,v<n→S (v:Int)=true→(v:Int)∈l:=by
 have hE:∀v,S v=true→bV x S v=true:=fun v h=>by unfold bV;rw[h,Bool.true_or]
 by_cases h0:x.insts.length=0
 ·refine⟨_,List.mem_cons_self ..,fun v hv h=>aY.2 ⟨oM,oM,?_⟩⟩;have e:x.insts=[]:=List.eq_nil_of_length_eq_zero h0;have h1:q9 x.aE (bH x.insts (bV x S)) (v:Int)=true:=vb.2 (.inl (by rw[e];exact hE _ h));unfold cY;split
  ·unfold Em;rw[h1,dw]
  ·exact h1
 ·obtain⟨p,hp⟩:=ba (l:=x.insts) (i:=x.insts.length-1) oM;refine⟨_,List.mem_cons_of_mem _ (List.mem_of_getElem? (fZ hp)),fun v hv h=>aY.2 ⟨oM,oM,?_⟩⟩;rw[show x.insts.length-1+1=x.insts.length by omega,qd];unfold fm;split
  ·exact fY.2 (.inr (hE _ h))
  ·exact hE _ h
theorem s3{l:ar}{ls:List ar}(h:l∈ls):l.length≤gz ls:=by
 induction ls with
 |nil=>cases h
 |cons a ls ih=>
  rw[eO];rcases List.mem_cons.1 h with e|e
  ·subst e;omega
  ·have:=ih e;omega
theorem dM{n pn:Nat}{fs:List aI}{SO:Int→Int→Bool}{l:ar}{k:Nat}:l∈df n pn fs SO k↔∃(b:Nat) (x:aI),b<k∧fs[b]?=some x∧l∈tA n pn b x (SO (b:Int)):=by
 unfold df;rw[List.mem_flatMap];constructor
 ·rintro⟨b,hb,hl⟩;unfold Fk at hl;cases hx:fs[b]? with
  |none=>rw[hx]at hl;cases hl
  |some x=>rw[hx]at hl;exact⟨b,x,List.mem_range.1 hb,hx,hl⟩
 ·rintro⟨b,x,hb,hx,hl⟩;refine⟨b,List.mem_range.2 hb,?_⟩;unfold Fk;rw[hx];exact hl
def vH(pa:Int)(fs:List aI)(j:Nat)(v:Int):Prop:=(0<j∧v<pa)∨∃p,findD (cX fs) v=some p∧0≤jf (ae fs) p.1∧jf (ae fs) p.1<(j:Int)
def lsQ(n pn:Nat)(fs:List aI)(j:Nat)(l:ar):Prop:=∃(b:Nat) (x:aI),fs[b]?=some x∧0≤jf (ae fs) (b:Int)∧jf (ae fs) (b:Int)<(j:Int)∧l∈tA n pn b x (MR fs (b:Int))
section
variable {nm : ByteArray} {pa va : Int} {fs : List aI} {b j n pn : Nat} {x : aI} {s : nK} {M : Int}
theorem s7(h:mL nm pa va fs){v:Int}(hl:LV fs true (b:Int) v)(hj:jf (ae fs) (b:Int)=(j:Int))(h0:0<j):vH pa fs j v:=by
 rcases ob h hl with h1|⟨p,h1,h2,h3⟩
 ·exact .inl ⟨h0,h1⟩
 ·have hp:=jg (bs:=ae fs) (by rw[bS];exact h.pos);have h4:=Dm.le hp (by rw[hj];omega) h2;obtain⟨k,y,e,hy,_⟩:=fP (dy h1);have e:p.1=(k:Int):=e;have hk:=(List.getElem?_eq_some_iff.1 hy).1;have h5:0≤jf (ae fs) p.1:=qb (by rw[bS];exact h.all) oM (by rw[bS];omega);refine .inr ⟨p,h1,h5,?_⟩;have h6:jf (ae fs) p.1≠jf (ae fs) (b:Int):=fun e2=>h3 rfl (hp.inj _ _ h5 e2)
  omega
theorem sQ.step(h:mL nm pa va fs)(hn:va=(n:Int))(Uz:pa=(pn:Int))(hM:1≤M)(hm:(bO n pn fs:Int)≤M)(hp:sQ n s M (vH pa fs j) (lsQ n pn fs j))(hx:fs[b]?=some x)(hj:jf (ae fs) (b:Int)=(j:Int)):sQ n (kH (aj x n (MR fs (b:Int))) (if 0<b then ag n (jB fs (b:Int))else[]) pn b x s) M (vH pa fs (j+1)) (lsQ n pn fs (j+1)):=by
 have hb:=(List.getElem?_eq_some_iff.1 hx).1;have hP:=jg (bs:=ae fs) (by rw[bS];exact h.pos);have hj0:0<b→0<j:=fun h0=>by
  rcases Nat.eq_zero_or_pos j with e|e
  ·exfalso;have:=hP.inj (b:Int) 0 oM (by rw[hP.zero,hj,e];rfl);omega
  ·exact e
 have y8:b=0→j=0:=fun e=>by subst e;have:=hP.zero;have h2:jf (ae fs) ((0:Nat):Int)=jf (ae fs) 0:=rfl;omega
 have hq:=sd h hx hn Uz;rw[oU];have h1:=hp.begin (T:=qO fs b) hM (fun u hu ht=> ?_) (fun u v hu hv h1 h2 e=> ?_)
 ·have h2:=h1.block hq (fun v hv hk=> ?_) (fun l hl=> ?_)
  ·refine⟨h2.pl.len,h2.pl.Ej,fun l hl=> ?_⟩;obtain⟨b',x',Ku,kn,wm,hl⟩:=hl;have hLG:=h2.sep l (by
    by_cases e:jf (ae fs) (b':Int)<(j:Int)
    ·exact .inl ⟨b',x',Ku,kn,e,hl⟩
    ·have e2:=hP.inj (b':Int) (b:Int) kn oM;have e3:b'=b:=oM;subst e3;rw[hx]at Ku;injection Ku with Ku;subst Ku;exact .inr hl)
   refine⟨hLG.1,fun v hv=>⟨(hLG.2 v hv).1,?_⟩⟩;have u3:∀{k:Int},(v,(b:Int),k)∈cX fs→vH pa fs (j+1) v:=fun hd=> .inr ⟨_,oZ h hd,by simp only[hj];omega,by simp only[hj];omega⟩
   rcases(hLG.2 v hv).2 with hk|hk|⟨p,hk,hd,rfl⟩
   ·rcases hk with⟨h3,h4⟩|⟨p,h3,h4,h5⟩
    ·exact .inl ⟨oM,h4⟩
    ·exact .inr ⟨p,h3,h4,oM⟩
   ·rcases cW.1 hk with⟨_,_,h3⟩|⟨p,h3,rfl⟩
    ·exact .inl ⟨oM,oM⟩
    ·exact u3 (gb hx h3)
   ·obtain⟨q,Ah⟩:=List.mem_iff_getElem?.1 hk;exact u3 (cf h hx Ah hd)
  ·have VG:∀{k:Int},(v,(b:Int),k)∈cX fs→False:=fun hd=>by
    have hr:=h.Df.2.1 _ hd;rcases hk with⟨_,h4⟩|⟨p,h3,h4,h5⟩
    ·simp only at hr;omega
    ·have:=cQ h hd h3;subst this;simp only[hj]at h5;omega
   rcases hv with hv|⟨p,hv,hd,rfl⟩
   ·rcases cW.1 hv with⟨e,_,_⟩|⟨p,h3,rfl⟩
    ·have:=y8 e;subst this;rcases hk with⟨h3,_⟩|⟨p,_,h4,h5⟩
     ·omega
     ·omega
    ·exact VG (gb hx h3)
   ·obtain⟨q,Ah⟩:=List.mem_iff_getElem?.1 hv;exact VG (cf h hx Ah hd)
  ·have h3:l∈df n pn fs (MR fs) fs.length:=dM.2 ⟨b,x,hb,hx,hl⟩;have h4:l.length≤bO n pn fs:=s3 h3;omega
 ·unfold qO at ht;split at ht
  ·rename_i h0;exact s7 h (cv.1 ht) hj (hj0 h0)
  ·cases ht
 ·unfold qO at h1 h2;split at h1
  ·rename_i h0;rw[if_pos h0]at h2;obtain⟨z,vC,hz1,hz2⟩:=hP.src (b:Int) oM oM;have hzr:=kL (bs:=ae fs) (by rw[bS];exact h.pos) vC;rw[bS]at hzr;obtain⟨y,hy⟩:=ba (l:=fs) (i:=z.toNat) oM;have ez:(z.toNat:Int)=z:=Int.toNat_of_nonneg hzr.1;obtain⟨l,hl,pY⟩:=pW (n:=n) (pn:=pn) (b:=z.toNat) (x:=y) (S:=MR fs z);have hs:=(hp.sep l ⟨z.toNat,y,hy,by rw[ez];exact vC,by rw[ez];omega,by rw[ez];exact hl⟩).1;unfold eg at hs;have hs:=of_decide_eq_true hs;have:=k9 hs (pY u hu (eF.2 (.I5 hz2 (cv.1 h1)))) (pY v hv (eF.2 (.I5 hz2 (cv.1 h2)))) e;omega
  ·cases h1
theorem pX(h:mL nm pa va fs)(hn:va=(n:Int))(Uz:pa=(pn:Int))(hM:1≤M)(hm:(bO n pn fs:Int)≤M):sQ n (bA n pn fs) M (vH pa fs fs.length) (lsQ n pn fs fs.length):=by
 have Wq:(au (ae fs)).length=fs.length:=h.all;have key:∀j,j≤fs.length→sQ n (bQ n pn fs j) M (vH pa fs j) (lsQ n pn fs j):=by
  intro j;induction j with
  |zero=>
   intro _;refine⟨by unfold bQ;simp,fun u hu=> ?_,fun l hl=> ?_⟩
   ·have e:(bQ n pn fs 0).pl.getD u 0=0:=by unfold bQ;simp[List.getD,hu]
    omega
   ·obtain⟨_,_,_,h1,h2,_⟩:=hl;omega
  |succ j ih=>
   intro hj;obtain⟨b,h1,h2,h3⟩:=mI (bs:=ae fs) (k:=j) oM;rw[bS]at h2;obtain⟨x,hx⟩:=ba (l:=fs) (i:=b) h2;rw[sv h1 hx];exact sQ.step h hn Uz hM hm (ih oM) hx h3
 have h2:=key fs.length (Nat.le_refl _);unfold bQ at h2;rw[List.take_of_length_le oM]at h2;exact h2
theorem gQ(h:mL nm pa va fs)(hn:va=(n:Int))(Uz:pa=(pn:Int)):(bA n pn fs).pl.length=n∧(∀p,p∈(bA n pn fs).pl→0≤p∧p<max 1 (bO n pn fs:Int))∧(df n pn fs (MR fs) fs.length).all (eg (bA n pn fs).pl)=true:=by
 have hP:=pX h hn Uz (M:=max 1 (bO n pn fs:Int)) oM oM;refine⟨hP.len,fun p hp=> ?_,?_⟩
 ·obtain⟨i,hi⟩:=List.mem_iff_getElem?.1 hp;have h1:=(List.getElem?_eq_some_iff.1 hi).1;have h2:=hP.Ej i (by rw[hP.len]at h1;exact h1);have e:(bA n pn fs).pl.getD i 0=p:=by simp[List.getD,hi]
  omega
 ·rw[List.all_eq_true];intro l hl;obtain⟨b,x,hb,hx,hl⟩:=dM.1 hl;have h1:=qb (bs:=ae fs) (by rw[bS];exact h.all) (b:=(b:Int)) oM (by rw[bS];omega);have h2:=LX (ae fs) (b:Int);have h3:(au (ae fs)).length=fs.length:=h.all;exact(hP.sep l ⟨b,x,hx,h1,oM,hl⟩).1
end
end Go.Mor
namespace Go.Mor
open Go.RowKit
def kh(va:Int)(fs:List aI):Prop:=gT va fs∨800<eb fs∨500<va
instance (va : Int) (fs : List aI) : Decidable (kh va fs) := by unfold kh; infer_instance
section
variable {A5 A7 A9 : Option Addr}
theorem Ps:au (ae [gD A7 A5])=[0]:=by rfl
theorem YH : ag 3 (MR [gD A7 A5] ((0 : Nat) : Int)) = [] := by
 rw [← D9.MS (b := 0) (by simp)]
 rfl
theorem YI:gu (gD A7 A5):= .inr ⟨rfl,by simp[gD]⟩
theorem Tg : aj (gD A7 A5) 3 (MR [gD A7 A5] ((0 : Nat) : Int)) = oI (lI [] (gD A7 A5).insts 3) 2 3 := by
 unfold aj
 rw [Dx YI, YH]
 rfl
theorem Pt : (bA 3 0 [gD A7 A5]).pl = [0, 1, 0] := by
 unfold bA
 rw [Ps]
 show (kH (aj (gD A7 A5) 3 (MR [gD A7 A5] ((0 : Nat) : Int))) [] 0 0 (gD A7 A5) ⟨List.replicate 3 0, [], 0⟩).pl = _
 rw [Tg]
 kernel_rfl
theorem Pu:ln HZ 0 3 [gD A7 A5] 2=([0,1,0],0,0):=by
 rw[tD xI oM];show((bA 3 0 [gD A7 A5]).pl,((fG 2 (bA 3 0 [gD A7 A5]).pl).length:Int),(0:Int))=_;rw[Pt];kernel_rfl
theorem Pv:df 3 0 [gD A7 A5] (MR [gD A7 A5]) [gD A7 A5].length=[[],[0],[0,1],[2]]:=by
 rw[←sx D9];have e:df 3 0 [gD A7 A5] (fun _ _=>false) [gD A7 A5].length=tA 3 0 0 (gD A7 A5) (fun _=>false):=by show df 3 0 [gD A7 A5] (fun _ _=>false) (0+1)=_;rw[ma (x:=gD A7 A5) rfl];rfl
 rw[e];unfold tA cY;rw[YG];rfl
theorem Pw:mg HZ 0 3 [gD A7 A5] [0,1,0]=true:=by
 rw[nD (by rw[xI];simp) sI,show(3:Int).toNat=3 from rfl,show(0:Int).toNat=0 from rfl,Pv];kernel_rfl
theorem Px:mg HZ 0 3 [gD A7 A5] [0,0,0]=false:=by
 rw[nD (by rw[xI];simp) sI,show(3:Int).toNat=3 from rfl,show(0:Int).toNat=0 from rfl,Pv];kernel_rfl
end
def Py:Spec:= .any (fun v w=>∃A5 A7 A9,v=fA HZ false 0 3 A9 1 [gD A7 A5]∧RO aR w (.fn A9 [gD A7 A5])) (fun _ _ _ hK ⟨A5,A7,A9,hv,h⟩=>⟨A5,A7,A9,hv,RO.later h hK⟩)
end Go.Mor
namespace Go.Mor
open Go.RowKit
theorem ia{s:nK}{l:ar}:(aD s l).pl.length=s.pl.length:=by
 unfold aD;induction l generalizing s with
 |nil=>rfl
 |cons v l ih=>exact(ih (s:=fv s v.toNat)).trans cH
theorem ib{s:nK}{af:List (Int×Int)}{l:ar}:(aG af s l).pl.length=s.pl.length:=by
 unfold aG;induction l generalizing s with
 |nil=>rfl
 |cons v l ih=>
  refine(ih (s:=uf af s v)).trans ?_;unfold uf;split<;>rfl
theorem ej{s:nK}{af:List (Int×Int)}{i:Nat}{args:ar}:∀j,(bF af i args s j).pl.length=s.pl.length
 |0=>rfl
 |j+1=>by
  refine Eq.trans ?_ (ej (s:=s) (af:=af) (i:=i) (args:=args) j);show(Wb af i args (bF af i args s j) j).pl.length=_;unfold Wb;split
  ·split<;>rfl
  ·rfl
theorem fM{s:nK}{af:List (Int×Int)}{is:List cV}:∀j,(bC af is s j).pl.length=s.pl.length
 |0=>rfl
 |j+1=>by
  refine Eq.trans ?_ (fM (s:=s) (af:=af) (is:=is) j);show(match is[j]? with|some p=>BH af j (bF af j p.args (bC af is s j) p.args.length) p.dst|none=>bC af is s j).pl.length=_;split
  ·rename_i p _;have h:=ej (s:=bC af is s j) (af:=af) (i:=j) (args:=p.args) p.args.length;unfold BH;split
   ·split
    ·exact cH.trans h
    ·exact cH.trans h
   ·exact h
  ·rfl
theorem ix{n pn:Nat}{fs:List aI}:(bA n pn fs).pl.length=n:=by
 have key:∀(l:ar) (s:nK),(l.foldl (stepG n pn fs) s).pl.length=s.pl.length:=by
  intro l;induction l with
  |nil=>intro s;rfl
  |cons b l ih=>
   intro s;refine(ih (stepG n pn fs s b)).trans ?_;unfold stepG;split
   ·unfold kH;rw[fM,ib,ia];rfl
   ·rfl
 unfold bA;rw[key];simp
theorem iK{nm:eV}{pa va k:Int}{fs:List aI}:(ln nm pa va fs k).1.length≤20000:=by
 unfold ln;split
 ·exact Nat.zero_le _
 ·split
  ·exact Nat.zero_le _
  ·rename_i h0 _;show(bA va.toNat pa.toNat fs).pl.length≤20000;rw[ix];have h1:dE nm pa va fs=0:=Classical.not_not.1 h0;have:=(q7 h1).2.1;omega
theorem Ko{va:Int}{fs:List aI}(h:¬kh va fs):fs.length≤60∧eb fs≤800:=by
 unfold kh at h;have h1:¬gT va fs:=fun e=>h (.inl e)
 have h2:¬800<eb fs:=fun e=>h (.inr (.inl e))
 exact⟨we h1,oM⟩
end Go.Mor
namespace Go.Mor
open Go.RowKit
theorem ie(l:List (Int×Int))(s v:Int):(oI l s v).map (·.1)=if s∈l.map (·.1)then l.map (·.1)else l.map (·.1)++[s]:=by
 induction l with
 |nil=>rfl
 |cons x r ih=>
  obtain⟨k,u⟩:=x;unfold oI;by_cases e:s=k
  ·subst e;simp
  ·have h:(s==k)=false:=by simpa using e
   rw[h];show k::(oI r s v).map (·.1)=_;rw[ih];by_cases h2:s∈r.map (·.1)
   ·rw[if_pos h2,if_pos (by rw[List.map_cons];exact List.mem_cons_of_mem _ h2)];rfl
   ·rw[if_neg h2,if_neg (by rw[List.map_cons,List.mem_cons];rintro(h3|h3);exact e h3;exact h2 h3)];rfl
def cG(k:Int)(pl:ar):ar:=(fG k pl).map (·.1)
section
variable {k p : Int} {pl : List Int} {i : Nat}
theorem s8:(cG k pl).length=(fG k pl).length:=by simp[cG]
theorem iL(h:pl[i]?=some p)(hk:¬(k≤p∧¬(cG k (pl.take i)).contains p=true)):cG k (pl.take (i+1))=cG k (pl.take i):=by
 unfold cG at hk⊢;by_cases h1:k≤p
 ·rw[FE h h1,ie,if_pos];have h2:((fG k (pl.take i)).map (·.1)).contains p=true:=Classical.not_not.1 (fun h3=>hk ⟨h1,h3⟩);rw[List.contains_eq_mem]at h2;exact of_decide_eq_true h2
 ·rw[Ju h h1]
theorem gd(h:pl[i]?=some p)(hk:k≤p∧¬(cG k (pl.take i)).contains p=true):cG k (pl.take (i+1))=cG k (pl.take i)++[p]:=by
 unfold cG at hk⊢;rw[FE h hk.1,ie,if_neg];intro h2;have h3:=hk.2;rw[List.contains_eq_mem,decide_eq_true_eq]at h3;exact h3 h2
theorem db(k:Int)(pl:ar):∀{j:Nat},j≤pl.length→(cG k (pl.take j)).Nodup∧∀x,x∈cG k (pl.take j)→k≤x∧x∈pl
 |0,_=>⟨by simp[cG,fG],fun x hx=>by simp[cG,fG]at hx⟩
 |j+1,hj=>by
  obtain⟨p,hp⟩:=ba (l:=pl) (i:=j) oM;obtain⟨h1,h2⟩:=db k pl (j:=j) oM;by_cases h:k≤p∧¬(cG k (pl.take j)).contains p=true
  ·rw[gd hp h];refine⟨?_,fun x hx=> ?_⟩
   ·rw[List.nodup_append];refine⟨h1,sI,fun a ha b hb e=> ?_⟩;rw[List.mem_singleton]at hb;have h3:=h.2;rw[List.contains_eq_mem,decide_eq_true_eq]at h3;exact h3 (by rw[←hb,←e];exact ha)
   ·rcases List.mem_append.1 hx with hx|hx
    ·exact h2 x hx
    ·rw[List.mem_singleton]at hx;rw[hx];exact⟨h.1,List.mem_of_getElem? hp⟩
  ·rw[iL hp h];exact⟨h1,h2⟩
theorem lf(h:i≤pl.length):(cG k (pl.take i)).length≤pl.length:=dz (db k pl h).1 (fun x hx=>((db k pl h).2 x hx).2)
theorem u5{M:Int}(h:∀p,p∈pl→0≤p∧p<M):((cG k pl).length:Int)≤max 0 (M-k):=by
 have h1:=db k pl (Nat.le_refl _);rw[List.take_length]at h1;have h2:=dz h1.1 (m:=(List.range (M-k).toNat).map (fun i:Nat=>k+(i:Int))) (fun x hx=>by obtain⟨h3,h4⟩:=h1.2 x hx;have h5:=h x h4;exact List.mem_map.2 ⟨(x-k).toNat,List.mem_range.2 oM,oM⟩)
 rw[List.length_map,List.length_range]at h2;omega
end
theorem ta(n pn:Nat)(fs:List aI):bO n pn fs≤n:=by
 have key:∀ls:List ar,(∀l,l∈ls→l.length≤n)→gz ls≤n:=by
  intro ls;induction ls with
  |nil=>intro _;exact Nat.zero_le _
  |cons a ls ih=>
   intro h;rw[eO];have h1:=h a (List.mem_cons_self ..);have h2:=ih (fun l hl=>h l (List.mem_cons_of_mem _ hl));omega
 refine key _ (fun l hl=> ?_);obtain⟨b,x,_,_,hl⟩:=dM.1 hl;rcases List.mem_cons.1 hl with hl|hl
 ·rw[hl];exact nA
 ·obtain⟨q,p,_,hl⟩:=jC hl;rw[hl];exact nA
theorem mF{nm:eV}{pa va k:Int}{fs:List aI}(h:(dE nm pa va fs≠0∨k<1)∨k>16):∃e,ln nm pa va fs k=([],0,e)∧e=if dE nm pa va fs≠0 then dE nm pa va fs else 1:=by
 by_cases h0:dE nm pa va fs≠0
 ·exact⟨_,wV h0,by rw[if_pos h0]⟩
 ·exact⟨_,wW oM oM,by rw[if_neg h0]⟩
theorem mR{nm:eV}{pa va k:Int}{fs:List aI}{n pn:Nat}(h:mL nm pa va fs)(h0:dE nm pa va fs=0)(hn:va=(n:Int))(Uz:pa=(pn:Int))(hk:¬(k<1∨16<k)):∃pl:ar,ln nm pa va fs k=(pl,((cG k pl).length:Int),0)∧pl.length=n∧mg nm pa va fs pl=true∧(∀p,p∈pl→0≤p∧p<max 1 (bO n pn fs:Int))∧((cG k pl).length:Int)≤max 0 (max 1 (bO n pn fs:Int)-k):=by
 have e1:va.toNat=n:=oM;have e2:pa.toNat=pn:=oM;obtain⟨h1,h2,h3⟩:=gQ h hn Uz;refine⟨(bA n pn fs).pl,?_,h1,?_,h2,u5 h2⟩
 ·rw[tD h0 hk,e1,e2,s8]
 ·rw[nD (by rw[h0,h1];omega) (fun x hx=>(h2 x hx).1),e1,e2];exact h3
end Go.Mor
namespace Go.Proofs.YthgbejihcchcnaaDoor
open Go.Mor
theorem MV(g:Nat)(PA:aA)(pc:Nat)(A:aA)(c:Nat)(s:nK)(q:Nat)(w:World)(hG:(aL.pk (ga g PA pc A c s)).holds w)(gl:s.pl.length≤100000)(YR:s.fr.length≤100000)(hq:q<s.pl.length)(hnx:0≤s.nx∧s.nx≤1000000):Calls Tryd.prog 68 #[pT g 0,nV q] w (eU fun v w'=>∃A' c',v= .tuple #[]∧Mem (aL.pk (ga g PA pc A c s)).fp w w' (ga g PA pc A' c' (fv s q))):=by
 refine fK 39 [pT g 0,nV q] Tryd.func68 ?_;have hM:=Mem.ye hG;refine bb<|aK<|ah 3<|bl (aq g 1) _ (aa (hM.get 0 rfl) rfl)<|ah 2<|ax<|fJ ((s.fr.length:Int)>0) (fun c1=> ?_) (fun c1=> ?_);refine bb ?_;obtain⟨g2,rfl⟩:=bB (hM.get 2 rfl) oM;refine aJ [0,1] ?_;intro aC fr;refine xN (bI [eR g 0,eR g 0,eR g 0,eS (sM g2) s.pl.length pc,.aQ (nV q),eR g 0,eR g 0,eR g 1,.aQ (.iface 126 (pT g 1)),Spec.free,eI (pD s.fr),eA (aZ g2) (q:Int) 1,.aQ undef]) (fun ls vs w_=>match ls 12 with|true=>(vs 9=(.iface 3 (vI (pD s.fr)))∧Mem (aL.pk (ga g (sM g2) pc A c s)).fp w w_ [.ak g 70 [vS (sM g2) s.pl.length pc,vS A (s.fr.length-1) c,vI s.nx],.row 3 1 A (s.fr.length-1) c (ints (tB s.fr)),.row 3 1 (sM g2) s.pl.length pc ((ints s.pl).set (((q:Int)).toNat*1) (vI (pD s.fr)))])|false=>(match ls 9 with|true=>(vs 9=(.iface 3 (vI (pD s.fr)))∧Mem (aL.pk (ga g (sM g2) pc A c s)).fp w w_ [.ak g 70 [vS (sM g2) s.pl.length pc,vS A (s.fr.length-1) c,vI s.nx],.row 3 1 A (s.fr.length-1) c (ints (tB s.fr)),.row 3 1 (sM g2) s.pl.length pc (ints s.pl)])|false=>(Mem (aL.pk (ga g (sM g2) pc A c s)).fp w w_ [.ak g 70 [vS (sM g2) s.pl.length pc,vS A s.fr.length c,vI s.nx],.row 3 1 A s.fr.length c (ints s.fr),.row 3 1 (sM g2) s.pl.length pc (ints s.pl)]))) fr (dW (.aQ (.aQ (.aQ (.aQ (.aQ (.aQ (.aQ (.aQ (.aQ (.free (.aQ (.aQ (.aQ .nil)))))))))))))) (hM.ay (Mem.drew _)) (la (gM lz (eW fun _ _ _ _ h=>h) (eW fun _ _ _ _ h=>h) (eW fun _ _ _ _ h=>h) (nj (aZ g) (vS (sM g2) s.pl.length pc) (fun _ _ _ _ h=>h) ?_) (eW fun _ _ _ _ h=>h) (eW fun _ _ _ _ h=>h) (eW fun _ _ _ _ h=>h) (eW fun _ _ _ _ h=>h) (eW fun _ _ _ _ h=>h) ?_ ?_ (oC (aZ g2) s.pl.length 1 (q:Int) fun _ _ _ _ h=>h)) ?_) ?_;intro w_ ls vs hJ bD bE hp;have f12:ls 12=false:=aH bE bD (n:=13) kR;have aO:=hJ;simp only[f12]at aO;cases fu:ls 9;simp only[fu]at aO;exact(aa (aO.get 0 rfl) rfl);simp only[fu]at aO;obtain⟨_,aO⟩:=aO;exact(aa (aO.get 0 rfl) rfl);intro dt w_ ls vs bT hJ bD bE hp hF;refine hZ (g0:=none) ?_;replace hF:Fr dt 39 [(18,.iface 126 (pT g 1))]:=hF.kp [18];have f9:ls 9=false:=bD;have f12:ls 12=false:=aH bE bD (n:=13) kR;have aO:=hJ;simp only[f9,f12]at aO;refine dY (kR:ao _ 0=some (some 19,(.call {callee:=(.value (.func 86)),args:=#[.tmp 18],argTypes:=#[137]}),20,none)) hF kR kR (k':=1) rfl (f:=86) (vs:=[.iface 126 (pT g 1)]) (cap:=[]) kR kR kR (Qan g (vS (sM g2) s.pl.length pc) (vI s.nx) s.fr A c w_ oM oM (aO.get 0 rfl) (aO.get 1 rfl) (aO.Ev (i:=0) (j:=1) rfl rfl dQ)) ?_;rintro _ w2 ⟨rfl,eD⟩ a2 ea _;have yi:=aO.Vp eD;refine aF kR ?_;refine aP (d:=some 19) kR ea trivial ?_;show match ls 12 with|true=>_|false=>(_)
 rw[f12];exact⟨rfl,yi⟩;intro dt w_ ls vs bT hJ bD bE hp hF;refine hZ (g0:=none) ?_;replace hF:Fr dt 39 [(19,vs 9)]:=hF.kp [19];have f9:ls 9=true:=bd bE (fun k hk=>(hp k hk).1) (n:=13) kR;have f12:ls 12=false:=aH bE bD (n:=13) kR;have aO:=hJ;simp only[f9,f12]at aO;obtain⟨Jz,aO⟩:=aO;try rw[Jz]at hF
 refine Hg (kR:ao _ 0=some (some 20,.typeAssert (.tmp 19) 20 3 false,3,none)) hF kR kR (k':=1) rfl (X:=(.iface 3 (vI (pD s.fr)))) (v:=(vI (pD s.fr))) kR kR ?_;intro a2 ea _;refine aF kR ?_;exact aP (d:=some 20) kR ea rfl hJ;intro dt w_ ls vs bT hJ bD bE hp hF;refine hZ (g0:=none) ?_;replace hF:Fr dt 39 [(20,vI (pD s.fr)),(21,(vP (aN (aZ g2) (q:Int) 1)))]:=hF.kp [20,21];have f9:ls 9=true:=bd bE (fun k hk=>(hp k hk).1) (n:=13) kR;have f12:ls 12=false:=bD;have aO:=hJ;simp only[f9,f12]at aO;obtain⟨Jz,aO⟩:=aO;try rw[Jz]at hF
 refine cD (kR:ao _ 0=some (none,.store 3 (.tmp 21) (.tmp 20),0,none)) hF kR kR (k':=1) rfl (ad:=(aZ g2)) (j:=(((q:Int)).toNat*1)) (e:=3) (size:=1) (n:=s.pl.length) (cap:=pc) (v:=(vI (pD s.fr))) (xs:=(ints s.pl)) (ad':=(aN (aZ g2) (q:Int) 1)) kR rfl kR kR rfl aO 2 rfl oM ?_;intro w2 eD _ a2 ea _;refine aF kR ?_;refine aP (d:=none) kR ea rfl ?_;show _;exact⟨Jz,eD⟩;intro aC w7 ls vs cr M8 hv fr;simp only[show ls 12=true from cr 12 dQ]at M8;revert aC;refine cT [] ?_;obtain⟨Jz,M8⟩:=M8;try rw[Jz]
 clear Jz;clear cr hv fr aC hM;clear vs ls;refine cU<|zr0 ?_;refine⟨A,c,rfl,?_⟩;rw[Jl oM];exact M8.cast (by simp[ga,ints_set,Ds]);refine bZ<|bb<|aJ [0,1] ?_;intro aC fr;refine Mj 9 (bI [eR g 0,eR g 0,eR g 0,eS PA s.pl.length pc,.aQ (nV q),eR g 0,eR g 0,eR g 2,eI s.nx]) fr (la (rz lz dP dP dP (dL (aZ g) _ fun w_ hK=>(aa ((hM.ay hK).get 0 rfl) rfl)) dP dP dP dP) (dL (aq g 2) _ fun w_ hK=>(aa ((hM.ay hK).get 0 rfl) rfl))) ?_;intro aC TB vs hK hv fr;revert aC;refine cT [(0,pT g 0),(25,vS PA s.pl.length pc),(26,nV q),(30,vI s.nx)] ?_;have sS:=hM.ay hK;clear hK hv fr aC hM;clear vs;obtain⟨g16,rfl⟩:=bB (sS.get 2 rfl) oM;refine ek (aZ g16) s.pl.length 1 (q:Int)<|sR sS 2 (aN (aZ g16) (q:Int) 1) (((q:Int)).toNat*1) (vI s.nx) rfl rfl oM fun Wg jW=> ?_
 replace jW:=jW.nf;refine ax<|cN<|ah 3<|bl (aq g 2) _ (aa (jW.get 0 rfl) rfl)<|dB (s.nx+1)<|ah 2<|AD (ho:=sI) jW 0 2 (vI (s.nx+1)) rfl fun KA lJ=> ?_
 replace lJ:=lJ.nf;refine ax<|tf ?_;refine⟨A,c,rfl,?_⟩;rw[Jm oM];exact lJ.cast (by simp[ga,ints_set])
theorem FI(g:Nat)(PA:aA)(pc:Nat)(A:aA)(c:Nat)(s:nK)(q:Nat)(w:World)(hG:(aL.pk (ga g PA pc A c s)).holds w)(gl:s.pl.length≤100000)(YR:s.fr.length≤100000)(hq:q<s.pl.length):Calls Tryd.prog 69 #[pT g 0,nV q] w (eU fun v w'=>∃A' c',v= .tuple #[]∧Mem (aL.pk (ga g PA pc A c s)).fp w w' (ga g PA pc A' c' (gq s q))):=by
 refine fK 17 [pT g 0,nV q] Tryd.func69 ?_;have hM:=Mem.ye hG;obtain⟨x,hx⟩:=ba (l:=s.pl) (i:=q) oM;have ex:s.pl.getD q 0=x:=by simp[List.getD,hx]
 obtain⟨g1,rfl⟩:=bB (hM.get 2 rfl) oM;obtain⟨x,hx⟩:=ba (l:=s.pl) (i:=q) oM;have ex:s.pl.getD q 0=x:=by simp[List.getD,hx]
 refine aJ [0,1] ?_;intro aC fr;refine xN (bI [eR g 0,eR g 0,eR g 1,.aQ (.iface 126 (pT g 1)),eR g 0,eR g 0,eR g 0,eS (sM g1) s.pl.length pc,.aQ (nV q),eA (aZ g1) (q:Int) 1,eI x,.aQ (.iface 3 (vI x)),Spec.free]) (fun ls vs w_=>match ls 12 with|true=>(∃(A2:aA) (c3:Nat),vs 12=(.tuple #[])∧Mem (aL.pk (ga g (sM g1) pc A c s)).fp w w_ [.ak g 70 [vS (sM g1) s.pl.length pc,vS A2 (s.fr.length+1) c3,vI s.nx],.row 3 1 A2 (s.fr.length+1) c3 (ints (wM s.fr x)),.row 3 1 (sM g1) s.pl.length pc (ints s.pl)])|false=>(Mem (aL.pk (ga g (sM g1) pc A c s)).fp w w_ [.ak g 70 [vS (sM g1) s.pl.length pc,vS A s.fr.length c,vI s.nx],.row 3 1 A s.fr.length c (ints s.fr),.row 3 1 (sM g1) s.pl.length pc (ints s.pl)])) fr (dW (.aQ (.aQ (.aQ (.aQ (.aQ (.aQ (.aQ (.aQ (.aQ (.aQ (.aQ (.aQ (.free .nil)))))))))))))) (hM.ay (Mem.drew _)) (la (gM lz (eW fun _ _ _ _ h=>h) (eW fun _ _ _ _ h=>h) (eW fun _ _ _ _ h=>h) (eW fun _ _ _ _ h=>h) (eW fun _ _ _ _ h=>h) (eW fun _ _ _ _ h=>h) (eW fun _ _ _ _ h=>h) (nj (aZ g) (vS (sM g1) s.pl.length pc) (fun _ _ _ _ h=>h) ?_) (eW fun _ _ _ _ h=>h) (oC (aZ g1) s.pl.length 1 (q:Int) fun _ _ _ _ h=>h) (nj (aN (aZ g1) (q:Int) 1) (vI x) (fun _ _ _ _ h=>h) ?_) (eW fun _ _ _ _ h=>h)) ?_) ?_;intro w_ ls vs hJ bD bE hp;have f12:ls 12=false:=aH bE bD (n:=13) kR;have aO:=hJ;simp only[f12]at aO;exact(aa (aO.get 0 rfl) rfl);intro w_ ls vs hJ bD bE hp;have f12:ls 12=false:=aH bE bD (n:=13) kR;have aO:=hJ;simp only[f12]at aO;exact(dd (az (aO.get 2 rfl)) rfl hx);intro dt w_ ls vs bT hJ bD bE hp hF;refine hZ (g0:=none) ?_;replace hF:Fr dt 17 [(7,.iface 126 (pT g 1)),(15,.iface 3 (vI x))]:=hF.kp [7,15];have f12:ls 12=false:=bD;have aO:=hJ;simp only[f12]at aO;refine dY (kR:ao _ 0=some (some 16,(.call {callee:=(.value (.func 87)),args:=#[.tmp 7,.tmp 15],argTypes:=#[137,20]}),0,none)) hF kR kR (k':=1) rfl (f:=87) (vs:=[.iface 126 (pT g 1),.iface 3 (vI x)]) (cap:=[]) kR kR kR (V7 g (vS (sM g1) s.pl.length pc) (vI s.nx) s.fr A c x w_ oM (aO.get 0 rfl) (aO.get 1 rfl) (aO.Ev (i:=0) (j:=1) rfl rfl dQ)) ?_;rintro _ w2 ⟨Y9,Za,rfl,eD⟩ a2 ea _;have yi:=aO.Vp eD;refine aF kR ?_;refine aP (d:=some 16) kR ea trivial ?_;show∃(A2:aA) (c3:Nat),_;exact⟨Y9,Za,rfl,yi⟩;intro aC w8 ls vs cr M9 hv fr;simp only[show ls 12=true from cr 12 dQ]at M9;revert aC;refine cT [] ?_;obtain⟨A2,c3,DH,M9⟩:=M9;try rw[DH]
 clear DH;clear cr hv fr aC hM;clear vs ls;refine tf ?_;exact⟨A2,c3,rfl,M9.cast (by simp only[ga,gq,ex,zr])⟩
end Go.Proofs.YthgbejihcchcnaaDoor
