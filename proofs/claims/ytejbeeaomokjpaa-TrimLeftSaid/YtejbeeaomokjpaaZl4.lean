/-
  Texts of the proof, part 4.
-/
import Derived.Test.YtejbeeaomokjpaaZl3
import Derived.Orders
set_option maxRecDepth 10000
namespace Go.Mor
open Go.RowKit
abbrev Kp(w w':World):Prop:=Mem bK w w' []
theorem Kp.refl(w:World):Kp w w:=Mem.init w
theorem Kp.trans{a b c:World}(h:Kp a b)(h':Kp b c):Kp a c:=by simpa using h.call h'
theorem Mem.kp{w w':World}{L:List bo}(h:Mem bK w w' L):Kp w w':=⟨h.os,h.tape,h.output,h.size,h.kept,sI,jT⟩
theorem Mem.aD{S:Nat→Prop}{w0 w w':World}{L:List bo}(h:Mem S w0 w L)(h':Kp w w'):Mem S w0 w' L:=by simpa using h.call h'
theorem Mem.cast{S:Nat→Prop}{w0 w:World}{L L':List bo}(h:Mem S w0 w L)(e:L=L'):Mem S w0 w L':=e▸h
inductive Spec where
 |bG(v:Value)
 |any(Φ:Value→World→Prop)(h:∀v w w',Kp w w'→Φ v w→Φ v w')
def Spec.ok:Spec→Value→World→Prop
 | .bG u,v,_=>v=u
 | .any Φ _,v,w=>Φ v w
def Spec.val:Spec→Value→Value
 | .bG u,_=>u
 | .any _ _,v=>v
theorem Spec.uy{s:Spec}{v:Value}{w:World}(h:s.ok v w):s.val v=v:=by
 cases s with
 |bG u=>exact h.symm
 |any Φ _=>rfl
theorem Spec.gJ(s:Spec)(v:Value)(w w':World)(hK:Kp w w')(h:s.ok v w):s.ok v w':=by
 cases s with
 |bG u=>exact h
 |any Φ hs=>exact hs v w w' hK h
def bL:List Spec→Nat→Spec
 |[],_=> .bG undef
 |s::_,0=>s
 |_::r,n+1=>bL r n
def eo(c:Code)(j:Nat):Option Nat:=((opsOf c)[j]?).bind (·.dst)
def cR(c:Code)(i:Nat):List Nat:=match(opsOf c)[i]? with
 |some o=>(o.after.toList.filter (fun e=>Region.binds .any e)).map (·.on)
 |none=>[]
def qd:List Nat→Nat→Bool
 |[],_=>false
 |x::r,t=>match Nat.beq x t with
  |true=>true
  |false=>qd r t
theorem iE{l:List Nat}{t:Nat}:qd l t=true↔t∈l:=by
 induction l with
 |nil=>simp[qd]
 |cons x r ih=>
  unfold qd;cases hq:Nat.beq x t with
  |true=>simp[sZ hq]
  |false=>
   have cU:¬t=x:=fun e=>by subst e;simp at hq
   simp[ih,cU]
def uz(c:Code)(i t:Nat):Nat→Bool
 |0=>true
 |j+1=>uz c i t j&&(match eo c j with
  |some d=>match Nat.beq d t with
   |true=>qd (cR c j) i
   |false=>true
  |none=>true)
def Qhy(c:Code)(i:Nat):Env→Env
 |[]=>[]
 |(t,v)::r=>match uz c i t (opsOf c).size with
  |true=>(t,v)::Qhy c i r
  |false=>Qhy c i r
def n8(c:Code)(sp:Nat→Spec)(vs:Nat→Value):List Nat→Env
 |[]=>[]
 |j::r=>match eo c j with
  |some d=>(d,(sp j).val (vs j))::n8 c sp vs r
  |none=>n8 c sp vs r
def bM(c:Code)(i:Nat)(sp:Nat→Spec)(vs:Nat→Value)(env0:Env):Env:=n8 c sp vs (cR c i)++Qhy c i env0
def one(c:Code)(i:Nat):Code:=match(opsOf c)[i]? with
 |some o=> .region 0 #[{o with guard:=none}] false
 |none=> .skip
def jw(P:Program)(c:Code)(Q:Exit→Act→World→Prop)(N:FN)(env0:Env)(wr:World)(sp:Nat→Spec)(i:Nat):Prop:=∀(a:Act) (w:World) (vs:Nat→Value) (rest:Env),Kp wr w→(∀j,j∈cR c i→(sp j).ok (vs j) w)→Fr a N (bM c i sp vs env0++rest)→∃b,(∀g,(ao c i).map (·.2.2.2)=some g→bw c g (bM c i sp vs env0++rest)=some b)∧(b=true→br P (one c i) (fun a' w'=>∃v,a'=a.put (eo c i) v∧Kp w w'∧(sp i).ok v w') Q 0 a w)∧(b=false→(sp i).ok undef w)
def kl(c:Code):Bool:=(List.range (opsOf c).size).all fun i=>(List.range i).all fun j=>match eo c i,eo c j with
 |some d,some e=> !(Nat.beq d e)
 |_,_=>true
theorem Ed{c:Code}(h:kl c=true){i j d:Nat}(hi:eo c i=some d)(hj:eo c j=some d):i=j:=by
 have lt:∀{k e},eo c k=some e→k<(opsOf c).size:=by
  intro k e hk;simp only[eo]at hk;cases ho:(opsOf c)[k]? with
  |none=>simp[ho]at hk
  |some o=>exact(Array.getElem?_eq_some_iff.1 ho).1
 have key:∀{i j d},eo c i=some d→eo c j=some d→j<i→False:=by intro i j d hi hj fm;simp only[kl,Qjq,Qi4]at h;have:=h i (lt hi) j fm;simp[hi,hj]at this
 rcases iR i j with h1|h1|h1
 ·exact(key hj hi h1).elim
 ·exact h1
 ·exact(key hi hj h1).elim
theorem j4{E F:Env}{t:Nat}{v:Value}(h:look (E++F) t=some v):look E t=some v∨look F t=some v:=by
 induction E with
 |nil=>exact .inr h
 |cons x r ih=>
  obtain⟨k,u⟩:=x;simp only[ph,look]at h⊢;cases hq:Nat.beq k t with
  |true=>rw[hq]at h;exact .inl h
  |false=>rw[hq]at h;exact ih h
theorem mh{c:Code}{sp:Nat→Spec}{vs:Nat→Value}{l:List Nat}{t:Nat}{v:Value}(h:look (n8 c sp vs l) t=some v):∃j,j∈l∧eo c j=some t∧v=(sp j).val (vs j):=by
 induction l with
 |nil=>simp[n8,look]at h
 |cons j r ih=>
  unfold n8 at h;cases hd:eo c j with
  |none=>
   rw[hd]at h;obtain⟨j',h1,h2⟩:=ih h;exact⟨j',QiV _ h1,h2⟩
  |some d=>
   rw[hd]at h;simp only[look]at h;cases hq:Nat.beq d t with
   |true=>
    rw[hq]at h;injection h with h;have:=sZ hq;subst this;exact⟨j,en ..,hd,h.symm⟩
   |false=>
    rw[hq]at h;obtain⟨j',h1,h2⟩:=ih h;exact⟨j',QiV _ h1,h2⟩
theorem free_spec{c:Code}{i t:Nat}:∀{n:Nat},uz c i t n=true→∀j,j<n→eo c j=some t→i∈cR c j
 |0,_,j,hj,_=>absurd hj oM
 |n+1,h,j,hj,hd=>by
  simp only[uz,Qjo]at h;by_cases e:j=n
  ·subst e;have h2:=h.2;rw[hd]at h2;simp at h2;exact iE.1 h2
  ·exact free_spec h.1 j oM hd
theorem oY{c:Code}{i:Nat}:∀{env:Env} {t:Nat} {v:Value},look (Qhy c i env) t=some v→(t,v)∈env∧∀j,eo c j=some t→i∈cR c j
 |[],t,v,h=>by simp[Qhy,look]at h
 |(k,u)::r,t,v,h=>by
  unfold Qhy at h;cases hf:uz c i k (opsOf c).size with
  |false=>
   rw[hf]at h;obtain⟨h1,h2⟩:=oY h;exact⟨QiV _ h1,h2⟩
  |true=>
   rw[hf]at h;simp only[look]at h;cases hq:Nat.beq k t with
   |false=>
    rw[hq]at h;obtain⟨h1,h2⟩:=oY h;exact⟨QiV _ h1,h2⟩
   |true=>
    rw[hq]at h;injection h with h;have:=sZ hq;subst this;subst h;refine⟨en ..,fun j hj=>free_spec hf j ?_ hj⟩;simp only[eo]at hj;cases ho:(opsOf c)[j]? with
    |none=>simp[ho]at hj
    |some o=>exact(Array.getElem?_eq_some_iff.1 ho).1
def oa:Env→Bool
 |[]=>true
 |(k,_)::r=> !(qd (r.map (·.1)) k)&&oa r
theorem oZ:∀{env:Env},oa env=true→∀{t:Nat} {v:Value},(t,v)∈env→look env t=some v
 |[],_,t,v,h=>by simp at h
 |(k,u)::r,hk,t,v,h=>by
  simp only[oa,Qjo,dB]at hk;simp only[look];rcases Qcx.1 h with h|h
  ·injection h with h1 h2;subst h1;subst h2;simp
  ·cases hq:Nat.beq k t with
   |false=>exact oZ hk.2 h
   |true=>
    have:=sZ hq;subst this;have hm:qd (r.map (·.1)) k=true:=iE.2 (jd.2 ⟨_,h,rfl⟩);rw[hm]at hk;cases hk.1
def rb(c:Code):Env→Env
 |[]=>[]
 |(t,v)::r=>match qd ((List.range (opsOf c).size).filterMap (eo c)) t with
  |true=>rb c r
  |false=>(t,v)::rb c r
theorem G9{c:Code}:∀{env:Env} {t:Nat} {v:Value},look (rb c env) t=some v→(t,v)∈env∧∀j,eo c j≠some t
 |[],t,v,h=>by simp[rb,look]at h
 |(k,u)::r,t,v,h=>by
  unfold rb at h;cases hm:qd ((List.range (opsOf c).size).filterMap (eo c)) k with
  |true=>
   rw[hm]at h;obtain⟨h1,h2⟩:=G9 h;exact⟨QiV _ h1,h2⟩
  |false=>
   rw[hm]at h;simp only[look]at h;cases hq:Nat.beq k t with
   |false=>
    rw[hq]at h;obtain⟨h1,h2⟩:=G9 h;exact⟨QiV _ h1,h2⟩
   |true=>
    rw[hq]at h;injection h with h;have:=sZ hq;subst this;subst h;refine⟨en ..,fun j hj=> ?_⟩;have fm:j<(opsOf c).size:=by
     simp only[eo]at hj;cases ho:(opsOf c)[j]? with
     |none=>simp[ho]at hj
     |some o=>exact(Array.getElem?_eq_some_iff.1 ho).1
    have:qd ((List.range (opsOf c).size).filterMap (eo c)) k=true:=iE.2 (List.mem_filterMap.2 ⟨j,Qi4.2 fm,hj⟩);rw[this]at hm;cases hm
def fF(c:Code):Bool:=(List.range (opsOf c).size).all fun i=>(cR c i).all fun j=>Nat.blt j i
section
variable {P : Program} {c : Code} {K : Act → World → Prop} {Q : Exit → Act → World → Prop} {N : FN} {env0 : Env} {wr : World} {sp : Nat → Spec}
def re(c:Code)(N:FN)(env0:Env)(wr:World)(sp:Nat→Spec)(ax:Array Bool)(a:Act)(w:World):Prop:=Kp wr w∧a.defers=N.D∧a.tmps.size=N.n∧(∀j,ax.getD j false=true→∀i,i∈cR c j→ax.getD i false=true)∧(∃vs:Nat→Value,∀j,ax.getD j false=true→(sp j).ok (vs j) w∧∀d,eo c j=some d→a.tmps[d]?=some (vs j))∧(∀t v,(t,v)∈env0→(∀j,ax.getD j false=true→eo c j≠some t)→a.tmps[t]?=some v)
theorem rf{i:Nat}{o:Oper}(ho:(opsOf c)[i]?=some o):opsOf (one c i)=#[{o with guard:=none}]:=by
 unfold one;rw[ho];rfl
theorem eX{ops:Array Oper}{ax:Array Bool}{i:Nat}(h:i∈Region.ready .any ops ax):i<ops.size∧ax.getD i true=false∧∃o,ops[i]?=some o∧∀e,e∈o.after.toList→Region.binds .any e=true→ax.getD e.on false=true:=by
 simp only[Region.ready,Qjr,Qi4,Qjo,dB]at h;obtain⟨h1,h2,h3⟩:=h;refine⟨h1,h2,?_⟩;cases ho:ops[i]? with
 |none=>simp[ho]at h3
 |some o=>
  refine⟨o,rfl,fun e he hb=> ?_⟩;simp only[ho,s9,Qjs]at h3;have h4:=(Od.1 h3) e (Qcy.1 he);simpa[hb]using h4
theorem wU(hd:kl c=true)(pD:∀i d,eo c i=some d→d<N.n){i:Nat}(hi:jw P c Q N env0 wr sp i){ax:Array Bool}{a:Act}{w:World}(hn:ax.size=(opsOf c).size)(hr:i∈Region.ready .any (opsOf c) ax)(hk:re c N env0 wr sp ax a w){G:Act→World→Prop}(hG:∀a' w',re c N env0 wr sp (ax.setIfInBounds i true) a' w'→G a' w'):wpOp P (opsOf c) (Exit.then K Q) i G a w:=by
 obtain⟨fm,Ee,o,ho,CE⟩:=eX hr;obtain⟨Ti,uA,jv,CD,⟨vs,Cp⟩,ob⟩:=hk;have Fj:ax.getD i false=false:=by have:i<ax.size:=oM;simp[Array.getD,this]at Ee⊢;exact Ee
 have kT:∀j,j∈cR c i→ax.getD j false=true:=by intro j hj;simp only[cR,ho,jd,Qjr]at hj;obtain⟨e,⟨he,hb⟩,rfl⟩:=hj;exact CE e he hb
 have HO:eo c i=o.dst:=by simp[eo,ho]
 have hF:Fr a N (bM c i sp vs env0++[]):=by
  refine⟨uA,jv,fun t v hv=> ?_⟩;rw[QiY]at hv;rcases j4 hv with h1|h1
  ·obtain⟨j,hj,qe,rfl⟩:=mh h1;obtain⟨h2,h3⟩:=Cp j (kT j hj);rw[Spec.uy h2];exact h3 t qe
  ·obtain⟨h2,h3⟩:=oY h1;refine ob t v h2 (fun j hj qe=> ?_);have:=CD j hj i (h3 j qe);rw[Fj]at this;cases this
 obtain⟨b,hb,QB,HQ⟩:=hi a w vs [] Ti (fun j hj=>(Cp j (kT j hj)).1) hF;have HR:ao c i=some (o.dst,o.op,o.type,o.guard):=by simp[ao,ho]
 have hw:=q7 (c:=c) hF rfl (hb _ (by rw[HR];rfl));have next:∀v w',Kp w w'→(sp i).ok v w'→re c N env0 wr sp (ax.setIfInBounds i true) (a.put o.dst v) w':=by
  intro v w' Ud hv;have rh:∀j,(ax.setIfInBounds i true).getD j false=true→j=i∨ax.getD j false=true:=by
   intro j hj;by_cases e:i=j
   ·exact .inl e.symm
   ·refine .inr ?_;simpa[vV,Array.getElem?_setIfInBounds_ne e]using hj
  have HS:∀j,ax.getD j false=true→(ax.setIfInBounds i true).getD j false=true:=by
   intro j hj;by_cases e:i=j
   ·subst e;have:i<ax.size:=oM;simp[vV,this]
   ·simpa[vV,Array.getElem?_setIfInBounds_ne e]using hj
  refine⟨Ti.trans Ud,by cases HU:o.dst<;>simp[Act.put,uA],by cases HU:o.dst<;>simp[Act.put,jv],?_,⟨fun j=>if j=i then v else vs j,?_⟩,?_⟩
  ·intro j hj k hk;rcases rh j hj with rfl|h1
   ·exact HS k (kT k hk)
   ·exact HS k (CD j h1 k hk)
  ·intro j hj;rcases rh j hj with rfl|h1
   ·refine⟨by simpa using hv,fun d qe=> ?_⟩;rw[HO]at qe;simp only[qe,Act.put,Qi5];have:=pD j d (by rw[HO];exact qe);rw[Array.getElem?_setIfInBounds_self_of_lt oM]
   ·have cU:j≠i:=fun e=>by subst e;rw[Fj]at h1;cases h1
    obtain⟨h2,h3⟩:=Cp j h1;refine⟨by simpa[cU]using(sp j).gJ _ _ _ Ud h2,fun d qe=> ?_⟩;simp only[cU,sy];cases HU:o.dst with
    |none=>exact h3 d qe
    |some d'=>
     simp only[Act.put];have:d'≠d:=fun e=>by subst e;exact cU (Ed hd qe (by rw[HO];exact HU))
     rw[Array.getElem?_setIfInBounds_ne this];exact h3 d qe
  ·intro t u Zk hj;have h1:=ob t u Zk (fun j Fk=>hj j (HS j Fk));cases HU:o.dst with
   |none=>exact h1
   |some d'=>
    simp only[Act.put];have:d'≠t:=fun e=>by
     subst e;have ln:(ax.setIfInBounds i true).getD i false=true:=by have:i<ax.size:=oM;simp[vV,this]
     exact hj i ln (by rw[HO];exact HU)
    rw[Array.getElem?_setIfInBounds_ne this];exact h1
 unfold wpOp;rw[ho];simp only[];rw[hw];cases b with
 |false=>
  simp only[Qcr,sy];exact hG _ _ (next undef w (Kp.refl w) (HQ rfl))
 |true=>
  simp only[Qi5];have h1:=QB rfl;unfold br at h1;rw[rf ho]at h1;simp only[List.drop_zero]at h1;unfold wpList at h1;rw[dd (by simp[Region.wanted])]at h1;rcases h1 with h1|⟨h1,h2⟩
  ·refine .inl ?_;have e1:∀(K':Act→World→Prop) (Q':Exit→Act→World→Prop),({o with guard:=none}:Oper).wp P a w K' Q'=o.wp P a w K' Q':=fun _ _=>rfl
   rw[e1]at h1;have:o.wp P a w (fun a' w'=>∃v,a'=a.put (eo c i) v∧Kp w w'∧(sp i).ok v w') (Exit.then (fun a' w'=>∃v,a'=a.put (eo c i) v∧Kp w w'∧(sp i).ok v w') Q):=h1;have h3:o.wp P a w (fun a' w'=>∃v,a'=a.put (eo c i) v∧Kp w w'∧(sp i).ok v w') (Exit.then K Q):=by
    unfold Oper.wp at this⊢;generalize (execOp a.eval o).run P w=r at*;cases r with
    |ok n w'=>
     cases n<;>simp only[Oper.upon]at this⊢<;>first
      |exact this
      |exact Calls.mono this (fun e yO he=>by cases e<;>exact he)
    |halt x w'=>cases x<;>simp only[Oper.upon]at this⊢<;>exact this
   refine Oper.wp_mono ?_ h3;rintro a' w' ⟨v,rfl,yQ,hv⟩;rw[HO];exact hG _ _ (next v w' yQ hv)
  ·refine .inr ⟨?_,?_⟩
   ·exact h1
   ·obtain⟨a0,w0,h0⟩:=h2;exact⟨a0,w0,h0⟩
theorem HV(hd:kl c=true)(pD:∀i d,eo c i=some d→d<N.n)(kT:fF c=true)(qf:∀i,i<(opsOf c).size→jw P c Q N env0 wr sp i)(CF:∀a w,(∀ax:Array Bool,(∀j,j<(opsOf c).size→ax.getD j false=true)→re c N env0 wr sp ax a w→K a w)):∀(fuel:Nat) (ax:Array Bool) (a:Act) (w:World),ax.size=(opsOf c).size→((List.range (opsOf c).size).filter (fun j=> !ax.getD j false)).length≤fuel→re c N env0 wr sp ax a w→wpAny P .any (opsOf c) (Exit.then K Q) fuel ax a w:=by
 have jJ:∀ax:Array Bool,ax.size=(opsOf c).size→Region.ready .any (opsOf c) ax=[]→∀j,j<(opsOf c).size→ax.getD j false=true:=by
  intro ax jv hr j;induction j using Nat.strongRecOn with
  |_ j ih=>
   intro hj;cases hq:ax.getD j false with
   |true=>rfl
   |false=>
    exfalso;have:j∈Region.ready .any (opsOf c) ax:=by
     simp only[Region.ready,Qjr,Qi4,Qjo,dB];have Fl:j<ax.size:=oM;refine⟨hj,?_,?_⟩
     ·simp[Array.getD,Fl]at hq⊢;exact hq
     ·have ho:(opsOf c)[j]?=some (opsOf c)[j]:=by simp[hj]
      simp only[ho,s9,Qjs];rw[Od];intro e he;cases hb:Region.binds .any e with
      |false=>rfl
      |true=>
       have nG:e.on∈cR c j:=by simp only[cR,ho,jd,Qjr];exact⟨e,⟨Qcy.2 he,hb⟩,rfl⟩
       have fm:e.on<j:=by simp only[fF,Qjq,Qi4]at kT;have:=kT j hj e.on nG;simpa[Qdg]using this
       simp[ih e.on fm oM]
    rw[hr]at this;simp at this
 intro fuel;induction fuel with
 |zero=>
  intro ax a w jv hf hk;have cA:∀j,j<(opsOf c).size→ax.getD j false=true:=by
   intro j hj;cases hq:ax.getD j false with
   |true=>rfl
   |false=>
    have:j∈(List.range (opsOf c).size).filter (fun j=> !ax.getD j false):=Qjr.2 ⟨Qi4.2 hj,by rw[hq];rfl⟩;have:=QdG this;omega
  refine⟨?_,CF a w ax cA hk⟩;cases hr:Region.ready .any (opsOf c) ax with
  |nil=>rfl
  |cons i r=>
   exfalso;have hi:i∈Region.ready .any (opsOf c) ax:=by rw[hr];simp
   obtain⟨h1,h2,_⟩:=eX hi;have:=cA i h1;have q8:i<ax.size:=oM;simp[Array.getD,q8]at h2 this;rw[h2]at this;cases this
 |succ fuel ih=>
  intro ax a w jv hf hk;refine⟨fun hr=>CF a w ax (jJ ax jv hr) hk,fun i hi=> ?_⟩;obtain⟨h1,h2,_⟩:=eX hi;refine wU hd pD (qf i h1) jv hi hk (fun a' w' ja=> ?_);refine ih _ a' w' (by simpa using jv) ?_ ja;have q8:i<ax.size:=oM;have Ue:ax.getD i false=false:=by simp[Array.getD,q8]at h2⊢;exact h2
  have fm:((List.range (opsOf c).size).filter (fun j=> !(ax.setIfInBounds i true).getD j false)).length<((List.range (opsOf c).size).filter (fun j=> !ax.getD j false)).length:=by
   have j5:((List.range (opsOf c).size).filter (fun j=> !(ax.setIfInBounds i true).getD j false))=((List.range (opsOf c).size).filter (fun j=> !ax.getD j false)).filter (fun j=> !(Nat.beq j i)):=by
    rw[Qji];apply I4;intro j _;by_cases e:i=j
    ·subst e;simp[vV,q8]
    ·have hb:Nat.beq j i=false:=by
      cases hq:Nat.beq j i with
      |false=>rfl
      |true=>exact absurd (sZ hq).symm e
     simp[vV,Array.getElem?_setIfInBounds_ne e,hb]
   rw[j5];have nG:i∈(List.range (opsOf c).size).filter (fun j=> !ax.getD j false):=Qjr.2 ⟨Qi4.2 h1,by rw[Ue];rfl⟩;refine uv.2 ⟨i,nG,sI⟩
  omega
theorem QC(hk:kind c= .region true)(hm:P.follows .mixedOrders=true){a:Act}(sp:Nat→Spec)(hd:kl c=true)(kT:fF c=true)(hF:Fr a N env0)(ri:oa env0=true)(pD:(List.range (opsOf c).size).all (fun i=>iy (eo c i) N)=true)(qf:∀i,i<(opsOf c).size→jw P c Q N env0 wr sp i)(h:∀a' w' (vs:Nat→Value),Kp wr w'→(∀j,j<(opsOf c).size→(sp j).ok (vs j) w')→Fr a' N (n8 c sp vs (List.range (opsOf c).size)++rb c env0)→K a' w'):W P c K Q a wr:=by
 have HW:∀i d,eo c i=some d→d<N.n:=by
  intro i d hi;have fm:i<(opsOf c).size:=by
   simp only[eo]at hi;cases ho:(opsOf c)[i]? with
   |none=>simp[ho]at hi
   |some o=>exact(Array.getElem?_eq_some_iff.1 ho).1
  simp only[Qjq,Qi4]at pD;have:=pD i fm;rw[hi]at this;simpa[iy,Qdg]using this
 cases c<;>simp[kind]at hk;rename_i id ops dr;subst hk;refine wp_region_any hm ?_;have h0:re (.region id ops true) N env0 wr sp (Array.replicate ops.size false) a {wr with drawn:=wr.drawn+1}:=by
  refine⟨Mem.drew wr,hF.defers,hF.size,?_,⟨fun _=>undef,?_⟩,fun t v Uf _=>hF.slot t v (oZ ri Uf)⟩
  ·intro j hj;simp[vV,Array.getElem?_replicate]at hj;split at hj<;>simp at hj
  ·intro j hj;simp[vV,Array.getElem?_replicate]at hj;split at hj<;>simp at hj
 refine HV (c:= .region id ops true) hd HW kT qf ?_ ops.size _ a _ (by simp[opsOf]) ?_ h0
 ·intro a' w' ax cA hk;obtain⟨Ti,uA,jv,_,⟨vs,Cp⟩,ob⟩:=hk;refine h a' w' vs Ti (fun j hj=>(Cp j (cA j hj)).1) ⟨uA,jv,fun t v hv=> ?_⟩;rcases j4 hv with h1|h1
  ·obtain⟨j,hj,qe,rfl⟩:=mh h1;obtain⟨h2,h3⟩:=Cp j (cA j (Qi4.1 hj));rw[Spec.uy h2];exact h3 t qe
  ·obtain⟨h2,h3⟩:=G9 h1;exact ob t v h2 (fun j _=>h3 j)
 ·refine pX (Qjt _ _) ?_;simp[opsOf]
end
theorem Ae{p:Nat→Prop}:∀i,i<0→p i:=fun i h=>absurd h oM
theorem Af{p:Nat→Prop}{n:Nat}(h:∀i,i<n→p i)(hn:p n):∀i,i<n+1→p i:=fun i hi=>by
 by_cases e:i=n
 ·subst e;exact hn
 ·exact h i oM
theorem qg{c:Code}{i:Nat}{E:Env}{b:Bool}{g0:Option (Nat×Bool)}(h0:(ao c i).map (·.2.2.2)=some g0)(h:bw c g0 E=some b):∀g,(ao c i).map (·.2.2.2)=some g→bw c g E=some b:=by
 intro g hg;rw[h0]at hg;injection hg with hg;subst hg;exact h
theorem tC{c:Code}{i:Nat}{d:Option Nat}{a a':Act}{w w':World}{v:Value}{s:Spec}(hd:eo c i=d)(ea:a'=a.put d v)(hK:Kp w w')(h:s.ok v w'):∃v,a'=a.put (eo c i) v∧Kp w w'∧s.ok v w':=⟨v,by rw[hd];exact ea,hK,h⟩
theorem Fm{c:Code}{i j:Nat}(h:qd (cR c i) j=true):j∈cR c i:=iE.1 h
def Spec.sl(n:Nat)(xs:aW):Spec:= .any (fun v w=>∃A c,v=vS A n c∧(bo.rd A xs).holds w) (fun _ _ _ hK ⟨A,c,hv,h⟩=>⟨A,c,hv,(bo.rd A xs).gJ (fun g hg=>hK.kept g ((bo.rd A xs).lt h hg) (fun h=>h)) h⟩)
theorem RO.of{w:World}{r:bo}(h:r.holds w):RO bK w r:=⟨h,fun _ _ h=>h⟩
abbrev eI(x:Int):Spec:= .bG (.int .i64 x)
abbrev eS(A:Option Addr)(n c:Nat):Spec:= .bG (.slice A n c)
abbrev eB(b:Bool):Spec:= .bG (.bool b)
abbrev eT(s:ByteArray):Spec:= .bG (.string s)
abbrev eP(a:Addr):Spec:= .bG (.pointer (some a))
abbrev eR(b o:Nat):Spec:= .bG (.pointer (some ⟨b,o,none⟩))
abbrev eA(a:Addr)(i:Int)(k:Nat):Spec:= .bG (.pointer (some (a.add (i.toNat*k))))
end Go.Mor
namespace Go.Mor
open Go.RowKit
theorem kV{e size n c:Nat}{ad:Addr}{P:Program}:∀(vs:aW) (off i:Nat) {xs:aW} {w:World},(∀v∈vs,v.oneCell'=true)→(bo.row e size (some ad) n c xs).holds w→off+i+vs.length≤xs.length→∃w',(storeCells (ad.add off) vs i).run P w= .ok () w'∧Mem (bo.row e size (some ad) n c xs).fp w w' [.row e size (some ad) n c (xs.take (off+i)++vs++xs.drop (off+i+vs.length))]
 |[],off,i,xs,w,_,hb,_=>⟨w,by simp[storeCells],by simpa using Mem.nr hb⟩
 |v::vs,off,i,xs,w,h1,hb,hl=>by
  simp only[je]at hl;have hm:=Mem.yj (j:=off+i) hb v;have Co:=hm.get 0 rfl;obtain⟨w',hr,HK⟩:=kV vs off (i+1) (fun u hu=>h1 u (QiV _ hu)) Co (by simp;omega);refine⟨w',?_,?_⟩
  ·have fm:off+i<xs.length:=oM;obtain⟨a',nQ,nZ⟩:=aB hb (off+i) xs[off+i] (by simp[fm]);injection nQ with nQ;subst nQ;have qZ:(store (ad.add (off+i)) v).run P w= .ok () (w.setCell (ad.add (off+i)) v):=by rw[run_store P w _ v .plain (h1 v (en ..)),nZ];simp[mK hb]
   simp only[storeCells,xf,add_add,qZ,Qdu];simpa[add_add]using hr
  ·have HL:(xs.set (off+i) v).take (off+(i+1))++vs++(xs.set (off+i) v).drop (off+(i+1)+vs.length)=xs.take (off+i)++v::vs++xs.drop (off+i+(v::vs).length):=by rw[←Qjg,QjK (by simp;omega),ej,dd oM];simp[Qjh (Qjn _),Qjg,Nat.add_comm 1]
   rw[HL]at HK;have:=hm.mod 0 rfl HK;simpa using this
theorem wg(z:Value)(n:Nat):(Builtin.zeroCells #[z] n).toList=List.replicate n z:=by
 apply QdX;intro j;by_cases hj:j<n
 ·simp[Builtin.zeroCells,hj,Nat.mod_one]
 ·simp[Builtin.zeroCells,hj]
section
variable {P : Program} {c : Code} {K : Act → World → Prop} {Q : Exit → Act → World → Prop} {a : Act} {w w0 : World} {S : Nat → Prop} {L : List bo} {k k' : Nat} {N : FN} {env : Env}
variable {d : Option Nat} {ty : Nat} {g : Option (Nat × Bool)}
theorem CG{t:TypeId}{x:Operand}(hk:ao c k=some (d,.call {callee:= .builtin .clear,args:=#[x],argTypes:=#[t]},ty,g))(hF:Fr a N env)(hg:bw c g env=some true)(hd:iy d N=true)(ja:k+1=k'){e:Nat}{z:Value}(ht:P.underlying t=some (.slice e))(hi:(P.info? e).map (fun i=>(i.size,i.zero))=some (1,some z))(hz:z.oneCell'=true){ad:Addr}{off m cap' n cap:Nat}{xs:aW}(hx:ev env x=some (vS (some (ad.add off)) m cap'))(hM:Mem S w0 w L)(i:Nat)(hL:L[i]?=some (.row e 1 (some ad) n cap xs))(hm:off+m≤n)(h:∀w',Mem S w0 w' (L.set i (.row e 1 (some ad) n cap (xs.take off++List.replicate m z++xs.drop (off+m))))→True→∀a',a'=a.put d undef→Fr a' N (dE env d undef)→br P c K Q k' a' w'):br P c K Q k a w:=by
 subst ja;have j0:=hM.get i hL;have hlen:=tA j0;obtain⟨w',hr,QD⟩:=kV (P:=P) (List.replicate m z) off 0 (by intro v hv;rw[Jf hv];exact hz) j0 (by simp;omega);simp only[Nat.add_zero,Qct]at QD;refine gX hk hF hg (v:=undef) (w':=w') (fun o ho Zg=> ?_) (h w' (by simpa using hM.mod i hL QD) trivial _ rfl (hF.put hd _));unfold execOp;rw[ho];cases ln:P.info? e with
 |none=>simp[ln]at hi
 |some inf=>
  simp only[ln,s9,p5,eh]at hi;obtain⟨hs,z8⟩:=hi;have T8:(zeroValue e).run P w= .ok z w:=by simp[zeroValue,typeInfo,ln,z8]
  simp only[resolve,invoke,builtin,xf,Qjp,Qdu,Qdx,lR,Qi3,hF.ev hx,Builtin.clear_];simp only[show(#[t]:Array TypeId)[0]?=some t from rfl,show(#[Value.slice (some (ad.add off)) m cap']:Array Value)[0]?=some (vS (some (ad.add off)) m cap')from rfl,xf,vc ht,Qdu];cases m with
  |zero=>
   simp only[List.replicate_zero,storeCells,Qjp,Result.ok.injEq,pQ]at hr;subst hr;simp[undef]
  |succ m=>
   simp only[xf,T8,Qdu,oW hz,wg,hr];rfl
end
theorem Mem.kW{S:Nat→Prop}{w0 w:World}{L:List bo}{e size n cap:Nat}{A:aX}{xs:aW}(hM:Mem S w0 w L)(i:Nat)(hL:L[i]?=some (.row e size A n cap xs))(m:Nat)(hm:m≤n):Mem S w0 w (L.set i (.row e size A m cap (xs.take (m*size)))):=by
 refine hM.Ze i hL (fun h=> ?_) (fun g hg=>hg);have hlen:=tA h;rcases h.2 with⟨h1,h2⟩|⟨g,cap',cur,hv,hb,hg,Ps,T6,Cn,ht⟩
 ·injection h1 with h1 h3 h4;have:m=0:=oM;subst h1;subst h4;subst this;refine⟨sI,.inl ⟨rfl,rfl⟩⟩
 ·injection hv with hv h2 h3;subst hv;subst h3;have hms:m*size≤n*size:=Qjj _ hm;refine⟨by rw[QjL,hlen];omega,.inr ⟨g,cap,cur,rfl,hb,hg,oM,T6,Cn,?_⟩⟩;rw[←ht,List.take_take];congr 1;omega
end Go.Mor
namespace Go.Mor
open Go.RowKit
def mj(ls:Nat→Bool)(i:Nat):Nat→Bool:=fun j=>match Nat.beq j i with
 |true=>true
 |false=>ls j
def rj(vs:Nat→Value)(i:Nat)(v:Value):Nat→Value:=fun j=>match Nat.beq j i with
 |true=>v
 |false=>vs j
def r7(c:Code)(ls:Nat→Bool):Prop:=∀j,ls j=true→∀k,k∈cR c j→ls k=true
def reach(c:Code):Nat→Nat→Nat→Bool
 |0,_,_=>false
 |n+1,j,i=>qd (cR c j) i||(cR c j).any (fun k=>reach c n k i)
theorem az{c:Code}{ls:Nat→Bool}(hc:r7 c ls){i:Nat}(hi:ls i=false):∀{n j:Nat},reach c n j i=true→ls j=false
 |0,j,h=>by simp[reach]at h
 |n+1,j,h=>by
  cases hq:ls j with
  |false=>rfl
  |true=>
   exfalso;simp only[reach,QiZ,Qju]at h;rcases h with h|⟨k,hk,h⟩
   ·rw[hc j hq i (iE.1 h)]at hi;cases hi
   ·have:=az hc hi h;rw[hc j hq k hk]at this;cases this
theorem aG{c:Code}{ls:Nat→Bool}(hc:r7 c ls){i:Nat}(hp:∀k,k∈cR c i→ls k=true):∀{n j:Nat},reach c n i j=true→ls j=true:=by
 have key:∀{n i' j:Nat},ls i'=true→reach c n i' j=true→ls j=true:=by
  intro n;induction n with
  |zero=>intro i' j _ h;simp[reach]at h
  |succ n ih=>
   intro i' j hi h;simp only[reach,QiZ,Qju]at h;rcases h with h|⟨k,hk,h⟩
   ·exact hc i' hi j (iE.1 h)
   ·exact ih (hc i' hi k hk) h
 intro n j h;cases n with
 |zero=>simp[reach]at h
 |succ n=>
  simp only[reach,QiZ,Qju]at h;rcases h with h|⟨k,hk,h⟩
  ·exact hp j (iE.1 h)
  ·exact key (hp k hk) h
def rk(P:Program)(c:Code)(Q:Exit→Act→World→Prop)(N:FN)(env0:Env)(sp:Nat→Spec)(J:(Nat→Bool)→(Nat→Value)→World→Prop)(i:Nat):Prop:=∀(a:Act) (w:World) (ls:Nat→Bool) (vs:Nat→Value) (rest:Env),J ls vs w→ls i=false→r7 c ls→(∀j,j∈cR c i→ls j=true∧(sp j).ok (vs j) w)→Fr a N (bM c i sp vs env0++rest)→∃b,(∀g,(ao c i).map (·.2.2.2)=some g→bw c g (bM c i sp vs env0++rest)=some b)∧(b=true→br P (one c i) (fun a' w'=>∃v,a'=a.put (eo c i) v∧(sp i).ok v w'∧J (mj ls i) (rj vs i v) w') Q 0 a w)∧(b=false→(sp i).ok undef w∧J (mj ls i) (rj vs i undef) w)
theorem iW{c:Code}{i:Nat}{E:Env}{g0:Option (Nat×Bool)}{X Y:Prop}(hx:X)(h0:(ao c i).map (·.2.2.2)=some g0:=by kernel_rfl)(h:bw c g0 E=some true:=by kernel_rfl):∃b,(∀g,(ao c i).map (·.2.2.2)=some g→bw c g E=some b)∧(b=true→X)∧(b=false→Y):=⟨true,qg h0 h,fun _=>hx,fun h=>Bool.noConfusion h⟩
section
variable {P : Program} {c : Code} {K : Act → World → Prop} {Q : Exit → Act → World → Prop} {N : FN} {env0 : Env} {sp : Nat → Spec} {J : (Nat → Bool) → (Nat → Value) → World → Prop}
def r8(c:Code)(N:FN)(env0:Env)(sp:Nat→Spec)(J:(Nat→Bool)→(Nat→Value)→World→Prop)(ax:Array Bool)(a:Act)(w:World):Prop:=∃(ls:Nat→Bool) (vs:Nat→Value),(∀j,j<ax.size→ls j=ax.getD j false)∧(∀j,ax.size≤j→ls j=false)∧J ls vs w∧a.defers=N.D∧a.tmps.size=N.n∧r7 c ls∧(∀j,ls j=true→(sp j).ok (vs j) w∧∀d,eo c j=some d→a.tmps[d]?=some (vs j))∧(∀t v,(t,v)∈env0→(∀j,ls j=true→eo c j≠some t)→a.tmps[t]?=some v)
theorem CI(hd:kl c=true)(pD:∀i d,eo c i=some d→d<N.n)(CJ:∀j v w w',(sp j).ok v w→(sp j).ok v w'){i:Nat}(hi:rk P c Q N env0 sp J i){ax:Array Bool}{a:Act}{w:World}(hn:ax.size=(opsOf c).size)(hr:i∈Region.ready .any (opsOf c) ax)(hk:r8 c N env0 sp J ax a w){G:Act→World→Prop}(hG:∀a' w',r8 c N env0 sp J (ax.setIfInBounds i true) a' w'→G a' w'):wpOp P (opsOf c) (Exit.then K Q) i G a w:=by
 obtain⟨fm,Ee,o,ho,CE⟩:=eX hr;obtain⟨ls,vs,Tj,Ug,hJ,uA,jv,CD,Cp,ob⟩:=hk;have Fj:ls i=false:=by rw[Tj i oM];have:i<ax.size:=oM;simp[Array.getD,this]at Ee⊢;exact Ee
 have zf:∀j,ls j=true→j<ax.size:=by
  intro j hj;rcases iO j ax.size with h|h
  ·exact h
  ·rw[Ug j h]at hj;cases hj
 have kT:∀j,j∈cR c i→ls j=true:=by
  intro j hj;simp only[cR,ho,jd,Qjr]at hj;obtain⟨e,⟨he,hb⟩,rfl⟩:=hj;have h1:=CE e he hb;have h2:e.on<ax.size:=by
   rcases iO e.on ax.size with h|h
   ·exact h
   ·have h3:¬(e.on<ax.size):=oM;simp[Array.getD,h3]at h1
  rw[Tj _ h2];exact h1
 have HO:eo c i=o.dst:=by simp[eo,ho]
 have hF:Fr a N (bM c i sp vs env0++[]):=by
  refine⟨uA,jv,fun t v hv=> ?_⟩;rw[QiY]at hv;rcases j4 hv with h1|h1
  ·obtain⟨j,hj,qe,rfl⟩:=mh h1;obtain⟨h2,h3⟩:=Cp j (kT j hj);rw[Spec.uy h2];exact h3 t qe
  ·obtain⟨h2,h3⟩:=oY h1;refine ob t v h2 (fun j hj qe=> ?_);have:=CD j hj i (h3 j qe);rw[Fj]at this;cases this
 obtain⟨b,hb,QB,HQ⟩:=hi a w ls vs [] hJ Fj CD (fun j hj=>⟨kT j hj,(Cp j (kT j hj)).1⟩) hF;have HR:ao c i=some (o.dst,o.op,o.type,o.guard):=by simp[ao,ho]
 have hw:=q7 (c:=c) hF rfl (hb _ (by rw[HR];rfl));have vW:∀j,mj ls i j=true→j=i∨ls j=true:=by
  intro j hj;simp only[mj]at hj;cases hq:Nat.beq j i with
  |true=>exact .inl (sZ hq)
  |false=>rw[hq]at hj;exact .inr hj
 have QE:∀j,ls j=true→mj ls i j=true:=by intro j hj;simp only[mj];cases hq:Nat.beq j i<;>simp[hj]
 have Uh:mj ls i i=true:=by simp[mj]
 have zZ:rj vs i=fun v j=>if j=i then v else vs j:=by
  funext v j;simp only[rj];cases hq:Nat.beq j i with
  |true=>simp[sZ hq]
  |false=>
   have:j≠i:=fun e=>by subst e;simp at hq
   simp[this]
 have next:∀v w',(sp i).ok v w'→J (mj ls i) (rj vs i v) w'→r8 c N env0 sp J (ax.setIfInBounds i true) (a.put o.dst v) w':=by
  intro v w' hv CH;refine⟨mj ls i,rj vs i v,?_,?_,CH,by cases HU:o.dst<;>simp[Act.put,uA],by cases HU:o.dst<;>simp[Act.put,jv],?_,?_,?_⟩
  ·intro j hj;have Fk:j<ax.size:=by simpa using hj
   by_cases e:i=j
   ·subst e;rw[Uh];simp[vV,Fk]
   ·have hb:Nat.beq j i=false:=by
     cases hq:Nat.beq j i with
     |false=>rfl
     |true=>exact absurd (sZ hq).symm e
    simp only[mj,hb];rw[Tj j Fk];simp[vV,Array.getElem?_setIfInBounds_ne e]
  ·intro j hj;have Fk:ax.size≤j:=by simpa using hj
   have hb:Nat.beq j i=false:=by
    cases hq:Nat.beq j i with
    |false=>rfl
    |true=>have:=sZ hq;omega
   simp only[mj,hb];exact Ug j Fk
  ·intro j hj k hk;rcases vW j hj with rfl|h1
   ·exact QE k (kT k hk)
   ·exact QE k (CD j h1 k hk)
  ·intro j hj;rw[zZ];rcases vW j hj with rfl|h1
   ·refine⟨by simpa using hv,fun d qe=> ?_⟩;rw[HO]at qe;simp only[qe,Act.put,Qi5];have:=pD j d (by rw[HO];exact qe);rw[Array.getElem?_setIfInBounds_self_of_lt oM]
   ·have cU:j≠i:=fun e=>by subst e;rw[Fj]at h1;cases h1
    obtain⟨h2,h3⟩:=Cp j h1;refine⟨by simpa[cU]using CJ j _ _ _ h2,fun d qe=> ?_⟩;simp only[cU,sy];cases HU:o.dst with
    |none=>exact h3 d qe
    |some d'=>
     simp only[Act.put];have:d'≠d:=fun e=>by subst e;exact cU (Ed hd qe (by rw[HO];exact HU))
     rw[Array.getElem?_setIfInBounds_ne this];exact h3 d qe
  ·intro t u Zk hj;have h1:=ob t u Zk (fun j Fk=>hj j (QE j Fk));cases HU:o.dst with
   |none=>exact h1
   |some d'=>
    simp only[Act.put];have:d'≠t:=fun e=>by subst e;exact hj i Uh (by rw[HO];exact HU)
    rw[Array.getElem?_setIfInBounds_ne this];exact h1
 unfold wpOp;rw[ho];simp only[];rw[hw];cases b with
 |false=>
  simp only[Qcr,sy];obtain⟨h1,h2⟩:=HQ rfl;exact hG _ _ (next undef w h1 h2)
 |true=>
  simp only[Qi5];have h1:=QB rfl;unfold br at h1;rw[rf ho]at h1;simp only[List.drop_zero]at h1;unfold wpList at h1;rw[dd (by simp[Region.wanted])]at h1;rcases h1 with h1|⟨h1,h2⟩
  ·refine .inl ?_;have h3:o.wp P a w (fun a' w'=>∃v,a'=a.put (eo c i) v∧(sp i).ok v w'∧J (mj ls i) (rj vs i v) w') (Exit.then K Q):=by
    have this:o.wp P a w (fun a' w'=>∃v,a'=a.put (eo c i) v∧(sp i).ok v w'∧J (mj ls i) (rj vs i v) w') (Exit.then (fun a' w'=>∃v,a'=a.put (eo c i) v∧(sp i).ok v w'∧J (mj ls i) (rj vs i v) w') Q):=h1;unfold Oper.wp at this⊢;generalize (execOp a.eval o).run P w=r at*;cases r with
    |ok n w'=>
     cases n<;>simp only[Oper.upon]at this⊢<;>first
      |exact this
      |exact Calls.mono this (fun e yO he=>by cases e<;>exact he)
    |halt x w'=>cases x<;>simp only[Oper.upon]at this⊢<;>exact this
   refine Oper.wp_mono ?_ h3;rintro a' w' ⟨v,rfl,hv,CL⟩;rw[HO];exact hG _ _ (next v w' hv CL)
  ·refine .inr ⟨h1,?_⟩;obtain⟨a0,w0,h0⟩:=h2;exact⟨a0,w0,h0⟩
theorem Fo(hd:kl c=true)(pD:∀i d,eo c i=some d→d<N.n)(CJ:∀j v w w',(sp j).ok v w→(sp j).ok v w')(kT:fF c=true)(qf:∀i,i<(opsOf c).size→rk P c Q N env0 sp J i)(CF:∀a w,(∀ax:Array Bool,ax.size=(opsOf c).size→(∀j,j<(opsOf c).size→ax.getD j false=true)→r8 c N env0 sp J ax a w→K a w)):∀(fuel:Nat) (ax:Array Bool) (a:Act) (w:World),ax.size=(opsOf c).size→((List.range (opsOf c).size).filter (fun j=> !ax.getD j false)).length≤fuel→r8 c N env0 sp J ax a w→wpAny P .any (opsOf c) (Exit.then K Q) fuel ax a w:=by
 have jJ:∀ax:Array Bool,ax.size=(opsOf c).size→Region.ready .any (opsOf c) ax=[]→∀j,j<(opsOf c).size→ax.getD j false=true:=by
  intro ax jv hr j;induction j using Nat.strongRecOn with
  |_ j ih=>
   intro hj;cases hq:ax.getD j false with
   |true=>rfl
   |false=>
    exfalso;have:j∈Region.ready .any (opsOf c) ax:=by
     simp only[Region.ready,Qjr,Qi4,Qjo,dB];have Fl:j<ax.size:=oM;refine⟨hj,?_,?_⟩
     ·simp[Array.getD,Fl]at hq⊢;exact hq
     ·have ho:(opsOf c)[j]?=some (opsOf c)[j]:=by simp[hj]
      simp only[ho,s9,Qjs];rw[Od];intro e he;cases hb:Region.binds .any e with
      |false=>rfl
      |true=>
       have nG:e.on∈cR c j:=by simp only[cR,ho,jd,Qjr];exact⟨e,⟨Qcy.2 he,hb⟩,rfl⟩
       have fm:e.on<j:=by simp only[fF,Qjq,Qi4]at kT;have:=kT j hj e.on nG;simpa[Qdg]using this
       simp[ih e.on fm oM]
    rw[hr]at this;simp at this
 intro fuel;induction fuel with
 |zero=>
  intro ax a w jv hf hk;have cA:∀j,j<(opsOf c).size→ax.getD j false=true:=by
   intro j hj;cases hq:ax.getD j false with
   |true=>rfl
   |false=>
    have:j∈(List.range (opsOf c).size).filter (fun j=> !ax.getD j false):=Qjr.2 ⟨Qi4.2 hj,by rw[hq];rfl⟩;have:=QdG this;omega
  refine⟨?_,CF a w ax jv cA hk⟩;cases hr:Region.ready .any (opsOf c) ax with
  |nil=>rfl
  |cons i r=>
   exfalso;have hi:i∈Region.ready .any (opsOf c) ax:=by rw[hr];simp
   obtain⟨h1,h2,_⟩:=eX hi;have:=cA i h1;have q8:i<ax.size:=oM;simp[Array.getD,q8]at h2 this;rw[h2]at this;cases this
 |succ fuel ih=>
  intro ax a w jv hf hk;refine⟨fun hr=>CF a w ax jv (jJ ax jv hr) hk,fun i hi=> ?_⟩;obtain⟨h1,h2,_⟩:=eX hi;refine CI hd pD CJ (qf i h1) jv hi hk (fun a' w' ja=> ?_);refine ih _ a' w' (by simpa using jv) ?_ ja;have q8:i<ax.size:=oM;have Ue:ax.getD i false=false:=by simp[Array.getD,q8]at h2⊢;exact h2
  have fm:((List.range (opsOf c).size).filter (fun j=> !(ax.setIfInBounds i true).getD j false)).length<((List.range (opsOf c).size).filter (fun j=> !ax.getD j false)).length:=by
   have j5:((List.range (opsOf c).size).filter (fun j=> !(ax.setIfInBounds i true).getD j false))=((List.range (opsOf c).size).filter (fun j=> !ax.getD j false)).filter (fun j=> !(Nat.beq j i)):=by
    rw[Qji];apply I4;intro j _;by_cases e:i=j
    ·subst e;simp[vV,q8]
    ·have hb:Nat.beq j i=false:=by
      cases hq:Nat.beq j i with
      |false=>rfl
      |true=>exact absurd (sZ hq).symm e
     simp[vV,Array.getElem?_setIfInBounds_ne e,hb]
   rw[j5];have nG:i∈(List.range (opsOf c).size).filter (fun j=> !ax.getD j false):=Qjr.2 ⟨Qi4.2 h1,by rw[Ue];rfl⟩;refine uv.2 ⟨i,nG,sI⟩
  omega
theorem Ml(hk:kind c= .region true)(hm:P.follows .mixedOrders=true){a:Act}{wr:World}(sp:Nat→Spec)(J:(Nat→Bool)→(Nat→Value)→World→Prop)(hd:kl c=true)(kT:fF c=true)(hF:Fr a N env0)(ri:oa env0=true)(pD:(List.range (opsOf c).size).all (fun i=>iy (eo c i) N)=true)(CJ:∀j v w w',(sp j).ok v w→(sp j).ok v w')(h0:J (fun _=>false) (fun _=>undef) wr.drew)(qf:∀i,i<(opsOf c).size→rk P c Q N env0 sp J i)(h:∀a' w' (ls:Nat→Bool) (vs:Nat→Value),(∀j,j<(opsOf c).size→ls j=true)→J ls vs w'→(∀j,j<(opsOf c).size→(sp j).ok (vs j) w')→Fr a' N (n8 c sp vs (List.range (opsOf c).size)++rb c env0)→K a' w'):W P c K Q a wr:=by
 have HW:∀i d,eo c i=some d→d<N.n:=by
  intro i d hi;have fm:i<(opsOf c).size:=by
   simp only[eo]at hi;cases ho:(opsOf c)[i]? with
   |none=>simp[ho]at hi
   |some o=>exact(Array.getElem?_eq_some_iff.1 ho).1
  simp only[Qjq,Qi4]at pD;have:=pD i fm;rw[hi]at this;simpa[iy,Qdg]using this
 cases c<;>simp[kind]at hk;rename_i id ops dr;subst hk;refine wp_region_any hm ?_;have h1:r8 (.region id ops true) N env0 sp J (Array.replicate ops.size false) a {wr with drawn:=wr.drawn+1}:=by refine⟨fun _=>false,fun _=>undef,?_,fun _ _=>rfl,h0,hF.defers,hF.size,(fun _ hj=>absurd hj sI),(fun _ hj=>absurd hj sI),fun t v Uf _=>hF.slot t v (oZ ri Uf)⟩;intro j hj;simp at hj;simp[vV,hj]
 refine Fo (c:= .region id ops true) hd HW CJ kT qf ?_ ops.size _ a _ (by simp[opsOf]) ?_ h1
 ·intro a' w' ax jv cA hk;obtain⟨ls,vs,Tj,_,hJ,uA,Zl,_,Cp,ob⟩:=hk;have fm:∀j,j<(opsOf (.region id ops true)).size→ls j=true:=fun j hj=>by rw[Tj j oM];exact cA j hj
  refine h a' w' ls vs fm hJ (fun j hj=>(Cp j (fm j hj)).1) ⟨uA,Zl,fun t v hv=> ?_⟩;rcases j4 hv with h1|h1
  ·obtain⟨j,hj,qe,rfl⟩:=mh h1;obtain⟨h2,h3⟩:=Cp j (fm j (Qi4.1 hj));rw[Spec.uy h2];exact h3 t qe
  ·obtain⟨h2,h3⟩:=G9 h1;exact ob t v h2 (fun j _=>h3 j)
 ·refine pX (Qjt _ _) ?_;simp[opsOf]
end
def Spec.free:Spec:= .any (fun _ _=>True) (fun _ _ _ _ _=>trivial)
theorem aY{c:Code}{i:Nat}{d:Option Nat}{a a':Act}{w':World}{v:Value}{s:Spec}{Z:Value→Prop}(hd:eo c i=d)(ea:a'=a.put d v)(h:s.ok v w')(hJ:Z v):∃v,a'=a.put (eo c i) v∧s.ok v w'∧Z v:=⟨v,by rw[hd];exact ea,h,hJ⟩
inductive Plain:List Spec→Prop where
 |nil:Plain []
 |bG {v r}:Plain r→Plain (.bG v::r)
 |free {r}:Plain r→Plain (Spec.free::r)
theorem oK{l:List Spec}(h:Plain l):∀(j:Nat) (v:Value) (w w':World),(bL l j).ok v w→(bL l j).ok v w':=by
 induction h with
 |nil=>intro j v w w' h;exact h
 |bG _ ih=>
  intro j v w w' h;cases j with
  |zero=>exact h
  |succ j=>exact ih j v w w' h
 |free _ ih=>
  intro j v w w' h;cases j with
  |zero=>exact h
  |succ j=>exact ih j v w w' h
section
variable {S : Nat → Prop} {w0 w w' : World} {L : List bo}
theorem CK{α:Type}{L:List α}{i:Nat}{r:α}(hi:L[i]?=some r):L.Perm (r::L.eraseIdx i):=by
 induction L generalizing i with
 |nil=>simp at hi
 |cons x L ih=>
  cases i with
  |zero=>simp at hi;subst hi;simp
  |succ i=>
   simp at hi;rw[Qjv];exact((ih hi).cons x).trans (Qjw r x _)
theorem Mem.front(h:Mem S w0 w L)(i:Nat){r:bo}(hi:L[i]?=some r):Mem S w0 w (r::L.eraseIdx i):=h.perm (CK hi)
end
end Go.Mor
namespace Go.Mor
open Go.RowKit
theorem dq{P:Program}{c:Code}{K:Act→World→Prop}{Q:Exit→Act→World→Prop}{a:Act}{w:World}{k k':Nat}{N:FN}{env:Env}{d:Option Nat}{ty:Nat}{g:Option (Nat×Bool)}{op:BinOp}{t t':TypeId}{x y:Operand}(hk:ao c k=some (d,.binOp op t x y t',ty,g))(hF:Fr a N env)(hg:bw c g env=some true)(hd:iy d N=true)(ja:k+1=k'){kd kd':IntKind}{i j:Int}{z:Value}(hx:ev env x=some (.int kd i))(hy:ev env y=some (.int kd' j))(hb:∀w,(binOp op t (.int kd i) (.int kd' j)).run P w= .ok z w)(h:∀a',a'=a.put d z→Fr a' N (dE env d z)→br P c K Q k' a' w):br P c K Q k a w:=by
 refine eO hk hF hg hd ja (fun o ho=> ?_) h;unfold execOp;rw[ho];have he:(eqGuard op t x y (.int kd i) (.int kd' j)).run P w= .ok () w:=by cases op<;>simp[eqGuard]
 simp only[hF.ev hx,hF.ev hy,xf,he,Qdu,hb];rfl
section
variable {P : Program} {t : TypeId}
theorem Mm{i:Int}(m:Int)(h0:0≤i)(h1:i≤9223372036854775807)(hm:0<m)(w:World):(binOp .quo t (vI i) (vI m)).run P w= .ok (vI (i / m)) w:=by
 have cU:m≠0:=oM;have hle:i / m≤i:=Int.ediv_le_self _ h0;have h2:0≤i / m:=Int.ediv_nonneg h0 oM;have hw:IntKind.i64.wrap (i.tdiv m)=i / m:=by rw[Int.tdiv_eq_ediv_of_nonneg h0];exact IntWalk.i64_in _ ⟨oM,oM⟩
 simp[binOp,Op.intDiv,cU,hw]
theorem Mn{i:Int}(m:Int)(h0:0≤i)(hm:0<m)(w:World):(binOp .rem t (vI i) (vI m)).run P w= .ok (vI (i % m)) w:=by
 have cU:m≠0:=oM;simp[binOp,Op.intDiv,cU,Int.tmod_eq_emod_of_nonneg h0]
theorem uF{i:Nat}(m:Nat)(h1:i≤9223372036854775807)(hm:0<m)(w:World):(binOp .quo t (vI (i:Int)) (vI (m:Int))).run P w= .ok (vI ((i / m:Nat):Int)) w:=Mm (i:=(i:Int)) (m:Int) oM oM oM w
theorem Ag{i:Nat}(m:Nat)(hm:0<m)(w:World):(binOp .rem t (vI (i:Int)) (vI (m:Int))).run P w= .ok (vI ((i % m:Nat):Int)) w:=Mn (i:=(i:Int)) (m:Int) oM oM w
theorem qi{r:Nat}(h:r<64):(2:Nat)^r<2^64:=Nat.pow_lt_pow_right dQ h
theorem wrap_u64{q:Nat}(h:q<2^64):IntKind.u64.wrap (q:Int)=(q:Int):=Qjx _ ⟨oM,oM⟩
theorem Mo{r:Nat}(h:r<64)(w:World):(binOp .shl t (.int .u64 1) (vI (r:Int))).run P w= .ok (.int .u64 ((2^r:Nat):Int)) w:=by
 have h1:¬((r:Int)<0):=oM;have QF:min (r:Int).toNat IntKind.u64.bits=r:=by simp[IntKind.bits];omega
 have hw:IntKind.u64.wrap (1*2^r:Int)=((2^r:Nat):Int):=by have e:(1*2^r:Int)=((2^r:Nat):Int):=sI;rw[e];exact wrap_u64 (qi h)
 show(Op.shift .shl .u64 1 .i64 (r:Int)).run P w=_;unfold Op.shift;rw[QcA h1];simp only[QF,hw,Qjp]
theorem QG{x y:Nat}(hx:x<2^64)(hy:y<2^64)(w:World):(binOp .or t (.int .u64 (x:Int)) (.int .u64 (y:Int))).run P w= .ok (.int .u64 ((x|||y:Nat):Int)) w:=by
 have h3:x|||y<2^64:=Nat.or_lt_two_pow hx hy;have hw:IntKind.u64.wrap ((x|||y:Nat):Int)=((x|||y:Nat):Int):=Qjx _ ⟨oM,oM⟩;have hb:(BitVec.ofInt IntKind.u64.bits (x:Int)|||BitVec.ofInt IntKind.u64.bits (y:Int)).toNat=x|||y:=by
  have e1:BitVec.ofInt IntKind.u64.bits (x:Int)=BitVec.ofNat 64 x:=by apply Qjk;simp[IntKind.bits]
  have e2:BitVec.ofInt IntKind.u64.bits (y:Int)=BitVec.ofNat 64 y:=by apply Qjk;simp[IntKind.bits]
  rw[e1,e2];show(BitVec.ofNat 64 x|||BitVec.ofNat 64 y).toNat=_;rw[BitVec.toNat_or,QdH,QdH,QjM hx,QjM hy]
 show(Op.intBits .or .u64 (x:Int) (y:Int)).run P w=_;simp only[Op.intBits,Qjp,hb,hw]
theorem Mp{x y:Nat}(hx:x<2^64)(hy:y<2^64)(w:World):(binOp .and t (.int .u64 (x:Int)) (.int .u64 (y:Int))).run P w= .ok (.int .u64 ((x&&&y:Nat):Int)) w:=by
 have h3:x&&&y<2^64:=Nat.lt_of_le_of_lt Nat.and_le_left hx;have hw:IntKind.u64.wrap ((x&&&y:Nat):Int)=((x&&&y:Nat):Int):=Qjx _ ⟨oM,oM⟩;have hb:(BitVec.ofInt IntKind.u64.bits (x:Int)&&&BitVec.ofInt IntKind.u64.bits (y:Int)).toNat=x&&&y:=by
  have e1:BitVec.ofInt IntKind.u64.bits (x:Int)=BitVec.ofNat 64 x:=by apply Qjk;simp[IntKind.bits]
  have e2:BitVec.ofInt IntKind.u64.bits (y:Int)=BitVec.ofNat 64 y:=by apply Qjk;simp[IntKind.bits]
  rw[e1,e2];show(BitVec.ofNat 64 x&&&BitVec.ofNat 64 y).toNat=_;rw[BitVec.toNat_and,QdH,QdH,QjM hx,QjM hy]
 show(Op.intBits .and .u64 (x:Int) (y:Int)).run P w=_;simp only[Op.intBits,Qjp,hb,hw]
theorem HX{x:Nat}(hx:x<2^64)(w:World):(binOp .and t (.int .u64 (x:Int)) (.int .u64 1)).run P w= .ok (.int .u64 ((x&&&1:Nat):Int)) w:=Mp (y:=1) hx dQ w
theorem Mq{x r:Nat}(h:r<64)(w:World):(binOp .shr t (.int .u64 (x:Int)) (vI (r:Int))).run P w= .ok (.int .u64 ((x / 2^r:Nat):Int)) w:=by
 have h1:¬((r:Int)<0):=oM;have QF:min (r:Int).toNat IntKind.u64.bits=r:=by simp[IntKind.bits];omega
 have e:(x:Int).fdiv (2^r)=((x / 2^r:Nat):Int):=by have e2:(2^r:Int)=((2^r:Nat):Int):=sI;rw[e2,Int.fdiv_eq_ediv_of_nonneg _ (dF _)];rfl
 show(Op.shift .shr .u64 (x:Int) .i64 (r:Int)).run P w=_;unfold Op.shift;rw[QcA h1];simp only[QF,e,Qjp]
end
def kz(ws:List Nat):aW:=ws.map (fun x:Nat=>Value.int .u64 (x:Int))
def tb(ws:List Nat)(i:Nat):Bool:=(ws.getD (i / 64) 0).testBit (i % 64)
def uG(ws:List Nat)(i:Nat):List Nat:=ws.set (i / 64) (ws.getD (i / 64) 0|||2^(i % 64))
theorem Ah{ws:List Nat}{i:Nat}(h:i<ws.length):(kz ws)[i]?=some (.int .u64 ((ws.getD i 0:Nat):Int)):=by
 simp[kz,List.getD,h]
theorem HY(ws:List Nat)(i x:Nat):kz (ws.set i x)=(kz ws).set i (.int .u64 (x:Int)):=by simp[kz,qB]
theorem HZ(ws:List Nat):(kz ws).length=ws.length:=by simp[kz]
theorem QH{ws:List Nat}{i:Nat}(hi:i / 64<ws.length)(j:Nat):tb (uG ws i) j=(decide (i=j)||tb ws j):=by
 unfold tb uG;by_cases h:i / 64=j / 64
 ·have e:(ws.set (i / 64) (ws.getD (i / 64) 0|||2^(i % 64))).getD (j / 64) 0=(ws.getD (i / 64) 0|||2^(i % 64)):=by rw[←h];simp[List.getD,hi]
  rw[e,Nat.testBit_or,Nat.testBit_two_pow,←h];have e2:(i % 64=j % 64)↔i=j:=oM;simp only[e2];rw[Bool.or_comm]
 ·have e:(ws.set (i / 64) (ws.getD (i / 64) 0|||2^(i % 64))).getD (j / 64) 0=ws.getD (j / 64) 0:=by simp[List.getD,List.getElem?_set_ne h]
  rw[e];have:¬i=j:=fun e=>h (by rw[e])
  simp[this]
theorem Mr(k j:Nat):tb (List.replicate k 0) j=false:=by
 unfold tb;have:(List.replicate k 0).getD (j / 64) 0=0:=by
  by_cases h:j / 64<k
  ·simp[List.getD,h]
  ·simp[List.getD,h]
 rw[this,Nat.zero_testBit]
theorem QI(x r:Nat):(((x / 2^r&&&1:Nat):Int)==1)=x.testBit r:=by
 rw[Nat.testBit,Nat.shiftRight_eq_div_pow,Nat.and_comm 1];rcases Nat.mod_two_eq_zero_or_one (x / 2^r)with h|h
 ·rw[Nat.and_one_is_mod,h];rfl
 ·rw[Nat.and_one_is_mod,h];rfl
def Fit(ws:List Nat):Prop:=∀x,x∈ws→x<2^64
theorem Fit.get{ws:List Nat}(h:Fit ws)(i:Nat):ws.getD i 0<2^64:=by
 unfold List.getD;cases hx:ws[i]? with
 |none=>simp
 |some x=>exact h x (Qcs hx)
theorem Fit.put{ws:List Nat}(h:Fit ws)(i:Nat):Fit (uG ws i):=by
 intro x hx;unfold uG at hx;rcases List.mem_or_eq_of_mem_set hx with h1|h1
 ·exact h x h1
 ·subst h1;exact Nat.or_lt_two_pow (h.get _) (qi (Nat.mod_lt _ dQ))
theorem Fit.zero(k:Nat):Fit (List.replicate k 0):=by
 intro x hx;rw[Jf hx];decide
end Go.Mor
namespace Go.Mor
open Go.RowKit
structure fJ where
 A:aX
 n:Nat
 c:Nat
 xs:aW
def jx:fJ:=⟨none,0,0,[]⟩
def fJ.res(e:Nat)(r:fJ):bo:= .row e 1 r.A r.n r.c r.xs
def fq(rows:List fJ):aW:=rows.map (fun r=>Value.slice r.A r.n r.c)
def bo.lO(e:Nat)(rows:List fJ):bo where
 fp:=fun g=>∃r,r∈rows∧(r.res e).fp g
 holds w:=(∀r,r∈rows→(r.res e).holds w)∧rows.Pairwise (fun(r s:fJ)=>∀g:Nat,(r.res e).fp g→¬(s.res e).fp g)
 gJ h hw:=⟨fun r hr=>(r.res e).gJ (fun g hg=>h g ⟨r,hr,hg⟩) (hw.1 r hr),hw.2⟩
 lt:=by
  rintro w g hw ⟨r,hr,hg⟩
  exact(r.res e).lt (hw.1 r hr) hg
theorem r9{e:Nat}{g:Nat}:¬(jx.res e).fp g:=by
 rintro⟨a,ha,_⟩;cases ha
theorem wV(e:Nat)(w:World):(jx.res e).holds w:=Ea w e 1
theorem Ms{w:World}{e:Nat}{rows:List fJ}(h:(bo.lO e rows).holds w){t:Nat}{r:fJ}(ht:rows[t]?=some r):(bo.row e 1 r.A r.n r.c r.xs).holds w:=h.1 r (Qcs ht)
theorem ia{rows:List fJ}{t:Nat}{r:fJ}(ht:rows[t]?=some r):(fq rows)[t]?=some (vS r.A r.n r.c):=by simp[fq,ht]
theorem Mt(rows:List fJ):(fq rows).length=rows.length:=by simp[fq]
theorem Ef(rows:List fJ)(t:Nat)(r:fJ):fq (rows.set t r)=(fq rows).set t (vS r.A r.n r.c):=by simp[fq,qB]
theorem uH(rows:List fJ)(r:fJ):fq (rows++[r])=fq rows++[.slice r.A r.n r.c]:=by simp[fq]
theorem Mem.CM(w:World)(e n:Nat):Mem bK w w [.lO e (List.replicate n jx)]:=by
 refine⟨rfl,rfl,rfl,Qjn _,fun _ _ _=>rfl,?_,cc _ _⟩;simp only[QcC];rintro _ rfl;refine⟨⟨fun r hr=>by rw[Jf hr];exact wV e w,?_⟩,fun g hg=> ?_⟩
 ·rw[List.pairwise_replicate];exact .inr (fun g hg=>(r9 hg).elim)
 ·obtain⟨r,hr,hg⟩:=hg;rw[Jf hr]at hg;exact(r9 hg).elim
section
variable {S : Nat → Prop} {w0 w : World} {L : List bo}
theorem Mem.focus{e:Nat}{rows:List fJ}(h:Mem S w0 w (.lO e rows::L))(t:Nat){r:fJ}(ht:rows[t]?=some r):Mem S w0 w (.lO e (rows.set t jx):: .row e 1 r.A r.n r.c r.xs::L):=by
 have hp:=zE.1 h.apart;have hf:=h.own _ (en ..);obtain⟨⟨hh,Tk⟩,hS⟩:=hf;have hr:r∈rows:=Qcs ht;have CN:∀s,s∈rows.set t jx→s=jx∨∃j,j≠t∧rows[j]?=some s:=by
  intro s hs;obtain⟨j,hj⟩:=jF.1 hs;by_cases e1:t=j
  ·subst e1;have fm:=(List.getElem?_eq_some_iff.1 ht).1;rw[List.getElem?_set_self fm]at hj;injection hj with hj;exact .inl hj.symm
  ·rw[List.getElem?_set_ne e1]at hj;exact .inr ⟨j,fun h=>e1 h.symm,hj⟩
 have sym:∀x y:fJ,(∀g,(x.res e).fp g→¬(y.res e).fp g)→∀g,(y.res e).fp g→¬(x.res e).fp g:=fun x y h g hy hx=>h g hx hy
 refine⟨h.os,h.tape,h.output,h.size,h.kept,?_,?_⟩
 ·intro q hq;rcases Qcx.1 hq with rfl|hq
  ·refine⟨⟨fun s hs=> ?_,?_⟩,fun g hg=> ?_⟩
   ·rcases CN s hs with rfl|⟨j,_,hj⟩
    ·exact wV e w
    ·exact hh s (Qcs hj)
   ·rw[QiW];intro i j hi hj Mu g hg mG;have gi:(rows.set t jx)[i]?=some (rows.set t jx)[i]:=List.getElem?_eq_getElem hi;have gj:(rows.set t jx)[j]?=some (rows.set t jx)[j]:=List.getElem?_eq_getElem hj;generalize (rows.set t jx)[i]=x at*;generalize (rows.set t jx)[j]=y at*;have fm:=(List.getElem?_eq_some_iff.1 ht).1;by_cases e1:t=i
    ·subst e1;rw[List.getElem?_set_self fm]at gi;injection gi with gi;subst gi;exact r9 hg
    ·by_cases e2:t=j
     ·subst e2;rw[List.getElem?_set_self fm]at gj;injection gj with gj;subst gj;exact r9 mG
     ·rw[List.getElem?_set_ne e1]at gi;rw[List.getElem?_set_ne e2]at gj;exact kQ sym Tk gi gj oM g hg mG
   ·obtain⟨s,hs,hg⟩:=hg;rcases CN s hs with rfl|⟨j,_,hj⟩
    ·exact(r9 hg).elim
    ·exact hS g ⟨s,Qcs hj,hg⟩
  ·rcases Qcx.1 hq with rfl|hq
   ·exact⟨hh r hr,fun g hg=>hS g ⟨r,hr,hg⟩⟩
   ·exact h.own q (QiV _ hq)
 ·refine zE.2 ⟨?_,zE.2 ⟨?_,hp.2⟩⟩
  ·rintro q hq g ⟨s,hs,hg⟩ mG;rcases CN s hs with rfl|⟨j,hj,hs⟩
   ·exact r9 hg
   ·rcases Qcx.1 hq with rfl|hq
    ·exact kQ sym Tk hs ht hj g hg mG
    ·exact hp.1 q hq g ⟨s,Qcs hs,hg⟩ mG
  ·intro q hq g hg mG;exact hp.1 q hq g ⟨r,hr,hg⟩ mG
theorem Mem.Eg{e n c:Nat}{A:aX}{xs:aW}{rows:List fJ}(h:Mem S w0 w (.lO e rows:: .row e 1 A n c xs::L))(t:Nat)(ht:rows[t]?=some jx):Mem S w0 w (.lO e (rows.set t ⟨A,n,c,xs⟩)::L):=by
 have hp:=zE.1 h.apart;have hq:=zE.1 hp.2;obtain⟨⟨hh,Tk⟩,hS⟩:=h.own _ (en ..);have hr:=h.own _ (QiV _ (en ..));have fm:=(List.getElem?_eq_some_iff.1 ht).1;have Pr:∀s,s∈rows→∀g,(s.res e).fp g→¬(bo.row e 1 A n c xs).fp g:=fun s hs g hg=>hp.1 _ (en ..) g ⟨s,hs,hg⟩
 have CN:∀s,s∈rows.set t ⟨A,n,c,xs⟩→s=⟨A,n,c,xs⟩∨s∈rows:=by intro s hs;exact(List.mem_or_eq_of_mem_set hs).symm
 have sym:∀x y:fJ,(∀g,(x.res e).fp g→¬(y.res e).fp g)→∀g,(y.res e).fp g→¬(x.res e).fp g:=fun x y h g hy hx=>h g hx hy
 refine⟨h.os,h.tape,h.output,h.size,h.kept,?_,zE.2 ⟨?_,hq.2⟩⟩
 ·intro q Fp;rcases Qcx.1 Fp with rfl|Fp
  ·refine⟨⟨fun s hs=> ?_,?_⟩,fun g hg=> ?_⟩
   ·rcases CN s hs with rfl|hs
    ·exact hr.1
    ·exact hh s hs
   ·rw[QiW];intro i j hi hj Mu g hg mG;have gi:(rows.set t ⟨A,n,c,xs⟩)[i]?=some (rows.set t ⟨A,n,c,xs⟩)[i]:=List.getElem?_eq_getElem hi;have gj:(rows.set t ⟨A,n,c,xs⟩)[j]?=some (rows.set t ⟨A,n,c,xs⟩)[j]:=List.getElem?_eq_getElem hj;generalize (rows.set t ⟨A,n,c,xs⟩)[i]=x at*;generalize (rows.set t ⟨A,n,c,xs⟩)[j]=y at*;by_cases e1:t=i
    ·subst e1;rw[List.getElem?_set_self fm]at gi;injection gi with gi;subst gi;rw[List.getElem?_set_ne oM]at gj;exact Pr y (Qcs gj) g mG hg
    ·rw[List.getElem?_set_ne e1]at gi;by_cases e2:t=j
     ·subst e2;rw[List.getElem?_set_self fm]at gj;injection gj with gj;subst gj;exact Pr x (Qcs gi) g hg mG
     ·rw[List.getElem?_set_ne e2]at gj;exact kQ sym Tk gi gj oM g hg mG
   ·obtain⟨s,hs,hg⟩:=hg;rcases CN s hs with rfl|hs
    ·exact hr.2 g hg
    ·exact hS g ⟨s,hs,hg⟩
  ·exact h.own q (QiV _ (QiV _ Fp))
 ·rintro q Fp g ⟨s,hs,hg⟩ mG;rcases CN s hs with rfl|hs
  ·exact hq.1 q Fp g hg mG
  ·exact hp.1 q (QiV _ Fp) g ⟨s,hs,hg⟩ mG
theorem Mem.push{e n c:Nat}{A:aX}{xs:aW}{rows:List fJ}(h:Mem S w0 w (.lO e rows:: .row e 1 A n c xs::L)):Mem S w0 w (.lO e (rows++[⟨A,n,c,xs⟩])::L):=by
 have hp:=zE.1 h.apart;have hq:=zE.1 hp.2;obtain⟨⟨hh,Tk⟩,hS⟩:=h.own _ (en ..);have hr:=h.own _ (QiV _ (en ..));refine⟨h.os,h.tape,h.output,h.size,h.kept,?_,zE.2 ⟨?_,hq.2⟩⟩
 ·intro q Fp;rcases Qcx.1 Fp with rfl|Fp
  ·refine⟨⟨fun s hs=> ?_,?_⟩,fun g hg=> ?_⟩
   ·rcases QiU.1 hs with hs|hs
    ·exact hh s hs
    ·simp only[QcC]at hs;subst hs;exact hr.1
   ·refine o0.2 ⟨Tk,cc _ _,fun s hs s' QJ g hg mG=> ?_⟩;simp only[QcC]at QJ;subst QJ;exact hp.1 _ (en ..) g ⟨s,hs,hg⟩ mG
   ·obtain⟨s,hs,hg⟩:=hg;rcases QiU.1 hs with hs|hs
    ·exact hS g ⟨s,hs,hg⟩
    ·simp only[QcC]at hs;subst hs;exact hr.2 g hg
  ·exact h.own q (QiV _ (QiV _ Fp))
 ·rintro q Fp g ⟨s,hs,hg⟩ mG;rcases QiU.1 hs with hs|hs
  ·exact hp.1 q (QiV _ Fp) g ⟨s,hs,hg⟩ mG
  ·simp only[QcC]at hs;subst hs;exact hq.1 q Fp g hg mG
end
end Go.Mor
namespace Go.Mor
open Go.RowKit
theorem Ai{P:Program}{c:Code}{K:Act→World→Prop}{Q:Exit→Act→World→Prop}{a:Act}{w:World}{k k':Nat}{N:FN}{env:Env}{d:Option Nat}{ty:Nat}{g:Option (Nat×Bool)}{ts:Array TypeId}{x y:Operand}(hk:ao c k=some (d,.call {callee:= .builtin .min,args:=#[x,y],argTypes:=ts},ty,g))(hF:Fr a N env)(hg:bw c g env=some true)(hd:iy d N=true)(ja:k+1=k'){kd:IntKind}{i j:Int}(hx:ev env x=some (.int kd i))(hy:ev env y=some (.int kd j))(z:Int)(hz:z=if j<i then j else i)(h:∀a',a'=a.put d (.int kd z)→Fr a' N (dE env d (.int kd z))→br P c K Q k' a' w):br P c K Q k a w:=by
 refine eO hk hF hg hd ja (fun o ho=> ?_) h;unfold execOp;rw[ho];simp only[resolve,invoke,builtin,xf,Qjp,Qdu,Qdx,lR,Qi3,hF.ev hx,hF.ev hy,Builtin.min_,List.foldlM];subst hz;simp[Builtin.min2];try (split<;>simp_all<;>omega)
theorem Mv{w:World}{ad:Addr}{xs:aW}(h:(bo.rd (some ad) xs).holds w)(m:Nat):(bo.rd (some (ad.add (m*1))) (xs.drop m)).holds w:=by
 intro i v hi;rw[List.getElem?_drop]at hi;obtain⟨a',ha,hc⟩:=h (m+i) v hi;injection ha with ha;subst ha;refine⟨_,rfl,?_⟩;rw[add_add,QiX];exact hc
end Go.Mor
namespace Go.Mor
open Go.RowKit
theorem wh{fn:Func}{t:Tmp}{ty:TypeId}(h:fn.results=#[.cell t ty])(tmps:Array Value)(P:Program)(w:World){ad:Addr}{vs:aW}(hp:tmps.getD t undef= .pointer (some ad))(ht:tf P ty=some vs.length)(hc:∀(j:Nat) (v:Value),vs[j]?=some v→w.cell? (ad.add j)=some v):(results fn tmps).run P w= .ok (.agg vs.toArray) w:=by
 obtain⟨h1,h2⟩:=mg ht w;have e:tmps[t]?.getD undef= .pointer (some ad):=by simpa using hp
 have ha:(asAddr (vP ad)).run P w= .ok ad w:=rfl;have hl:(loadVar ty ad).run P w= .ok (.agg vs.toArray) w:=by simp[loadVar,h1,h2,run_loadCells_list (P:=P) w ad vs hc]
 simp only[results,h];simp[xf,Result.andThen,e,ha,hl]
theorem QK{P:Program}{fn:Func}{R:Ending→World→Prop}{a:Act}{w:World}{N:FN}{env:Env}{t:Tmp}{ty:TypeId}{ad:Addr}{vs:aW}(hF:Fr a N env)(hr:fn.results=#[.cell t ty])(hv:look env t=some (vP ad))(ht:tf P ty=some vs.length)(hc:∀(j:Nat) (v:Value),vs[j]?=some v→w.cell? (ad.add j)=some v)(h:R (.returned (.agg vs.toArray)) w)(hD:N.D=[]:=by rfl):bodyPost P fn R .ret a w:=by
 refine bodyPost_ret (v:= .agg vs.toArray) ?_ (hF.defers.trans hD) h;refine wh hr _ _ _ ?_ ht hc;have:=hF.ev (x:= .tmp t) hv;simpa only[Act.eval]using this
end Go.Mor
