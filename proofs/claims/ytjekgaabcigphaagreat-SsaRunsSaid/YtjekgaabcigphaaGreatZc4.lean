/-
  Texts of the proof, part 4.
-/
import Derived.Test.YtjekgaabcigphaaGreatZc3
import Derived.Orders
set_option maxRecDepth 10000
namespace Go.Mor
open Go.RowKit
abbrev Kp(w w':World):Prop:=Mem aX w w' []
theorem Kp.refl(w:World):Kp w w:=Mem.init w
theorem Kp.trans{a b c:World}(h:Kp a b)(h':Kp b c):Kp a c:=by simpa using h.call h'
theorem Mem.kp{w w':World}{L:List bx}(h:Mem aX w w' L):Kp w w':=⟨h.os,h.tape,h.output,h.size,h.kept,sI,List.Pairwise.nil⟩
theorem Mem.an{S:Nat→Prop}{w0 w w':World}{L:List bx}(h:Mem S w0 w L)(h':Kp w w'):Mem S w0 w' L:=by simpa using h.call h'
theorem Mem.cast{S:Nat→Prop}{w0 w:World}{L L':List bx}(h:Mem S w0 w L)(e:L=L'):Mem S w0 w L':=e▸h
inductive Spec where
 |bb(v:Value)
 |any(Φ:Value→World→Prop)(h:∀v w w',Kp w w'→Φ v w→Φ v w')
def Spec.ok:Spec→Value→World→Prop
 | .bb u,v,_=>v=u
 | .any Φ _,v,w=>Φ v w
def Spec.val:Spec→Value→Value
 | .bb u,_=>u
 | .any _ _,v=>v
theorem Spec.yM{s:Spec}{v:Value}{w:World}(h:s.ok v w):s.val v=v:=by
 cases s with
 |bb u=>exact h.symm
 |any Φ _=>rfl
theorem Spec.gZ(s:Spec)(v:Value)(w w':World)(hK:Kp w w')(h:s.ok v w):s.ok v w':=by
 cases s with
 |bb u=>exact h
 |any Φ hs=>exact hs v w w' hK h
def aP:List Spec→Nat→Spec
 |[],_=> .bb undef
 |s::_,0=>s
 |_::r,n+1=>aP r n
def aQ(c:Code)(j:Nat):Option Nat:=((opsOf c)[j]?).bind (·.dst)
def dW(c:Code)(i:Nat):List Nat:=match(opsOf c)[i]? with
 |some o=>(o.after.toList.filter (fun e=>Region.binds .any e)).map (·.on)
 |none=>[]
def memN:List Nat→Nat→Bool
 |[],_=>false
 |x::r,t=>match Nat.beq x t with
  |true=>true
  |false=>memN r t
theorem jX{l:List Nat}{t:Nat}:memN l t=true↔t∈l:=by
 induction l with
 |nil=>simp[memN]
 |cons x r ih=>
  unfold memN;cases hq:Nat.beq x t with
  |true=>simp[iq hq]
  |false=>
   have dN:¬t=x:=fun e=>by subst e;simp at hq
   simp[ih,dN]
def yN(c:Code)(i t:Nat):Nat→Bool
 |0=>true
 |j+1=>yN c i t j&&(match aQ c j with
  |some d=>match Nat.beq d t with
   |true=>memN (dW c j) i
   |false=>true
  |none=>true)
def B3(c:Code)(i:Nat):Env→Env
 |[]=>[]
 |(t,v)::r=>match yN c i t (opsOf c).size with
  |true=>(t,v)::B3 c i r
  |false=>B3 c i r
def qC(c:Code)(sp:Nat→Spec)(vs:Nat→Value):List Nat→Env
 |[]=>[]
 |j::r=>match aQ c j with
  |some d=>(d,(sp j).val (vs j))::qC c sp vs r
  |none=>qC c sp vs r
def bW(c:Code)(i:Nat)(sp:Nat→Spec)(vs:Nat→Value)(env0:Env):Env:=qC c sp vs (dW c i)++B3 c i env0
def one(c:Code)(i:Nat):Code:=match(opsOf c)[i]? with
 |some o=> .region 0 #[{o with guard:=none}] false
 |none=> .skip
def jx(P:Program)(c:Code)(Q:Exit→Act→World→Prop)(N:FN)(env0:Env)(wr:World)(sp:Nat→Spec)(i:Nat):Prop:=∀(a:Act) (w:World) (vs:Nat→Value) (rest:Env),Kp wr w→(∀j,j∈dW c i→(sp j).ok (vs j) w)→Fr a N (bW c i sp vs env0++rest)→∃b,(∀g,(ay c i).map (·.2.2.2)=some g→bt c g (bW c i sp vs env0++rest)=some b)∧(b=true→aV P (one c i) (fun a' w'=>∃v,a'=a.put (aQ c i) v∧Kp w w'∧(sp i).ok v w') Q 0 a w)∧(b=false→(sp i).ok undef w)
def ml(c:Code):Bool:=(List.range (opsOf c).size).all fun i=>(List.range i).all fun j=>match aQ c i,aQ c j with
 |some d,some e=> !(Nat.beq d e)
 |_,_=>true
theorem KJ{c:Code}(h:ml c=true){i j d:Nat}(hi:aQ c i=some d)(hj:aQ c j=some d):i=j:=by
 have lt:∀{k e},aQ c k=some e→k<(opsOf c).size:=by
  intro k e hk;simp only[aQ]at hk;cases ho:(opsOf c)[k]? with
  |none=>simp[ho]at hk
  |some o=>exact(Array.getElem?_eq_some_iff.1 ho).1
 have key:∀{i j d},aQ c i=some d→aQ c j=some d→j<i→False:=by intro i j d hi hj fM;simp only[ml,fW,ew]at h;have:=h i (lt hi) j fM;simp[hi,hj]at this
 rcases Nat.lt_trichotomy i j with h1|h1|h1
 ·exact(key hj hi h1).elim
 ·exact h1
 ·exact(key hi hj h1).elim
theorem lW{E F:Env}{t:Nat}{v:Value}(h:look (E++F) t=some v):look E t=some v∨look F t=some v:=by
 induction E with
 |nil=>exact .inr h
 |cons x r ih=>
  obtain⟨k,u⟩:=x;simp only[yO,look]at h⊢;cases hq:Nat.beq k t with
  |true=>rw[hq]at h;exact .inl h
  |false=>rw[hq]at h;exact ih h
theorem oO{c:Code}{sp:Nat→Spec}{vs:Nat→Value}{l:List Nat}{t:Nat}{v:Value}(h:look (qC c sp vs l) t=some v):∃j,j∈l∧aQ c j=some t∧v=(sp j).val (vs j):=by
 induction l with
 |nil=>simp[qC,look]at h
 |cons j r ih=>
  unfold qC at h;cases hd:aQ c j with
  |none=>
   rw[hd]at h;obtain⟨j',h1,h2⟩:=ih h;exact⟨j',bT _ h1,h2⟩
  |some d=>
   rw[hd]at h;simp only[look]at h;cases hq:Nat.beq d t with
   |true=>
    rw[hq]at h;injection h with h;have:=iq hq;subst this;exact⟨j,cJ ..,hd,h.symm⟩
   |false=>
    rw[hq]at h;obtain⟨j',h1,h2⟩:=ih h;exact⟨j',bT _ h1,h2⟩
theorem free_spec{c:Code}{i t:Nat}:∀{n:Nat},yN c i t n=true→∀j,j<n→aQ c j=some t→i∈dW c j
 |0,_,j,hj,_=>absurd hj oM
 |n+1,h,j,hj,hd=>by
  simp only[yN,bo]at h;by_cases e:j=n
  ·subst e;have h2:=h.2;rw[hd]at h2;simp at h2;exact jX.1 h2
  ·exact free_spec h.1 j oM hd
theorem rB{c:Code}{i:Nat}:∀{env:Env} {t:Nat} {v:Value},look (B3 c i env) t=some v→(t,v)∈env∧∀j,aQ c j=some t→i∈dW c j
 |[],t,v,h=>by simp[B3,look]at h
 |(k,u)::r,t,v,h=>by
  unfold B3 at h;cases hf:yN c i k (opsOf c).size with
  |false=>
   rw[hf]at h;obtain⟨h1,h2⟩:=rB h;exact⟨bT _ h1,h2⟩
  |true=>
   rw[hf]at h;simp only[look]at h;cases hq:Nat.beq k t with
   |false=>
    rw[hq]at h;obtain⟨h1,h2⟩:=rB h;exact⟨bT _ h1,h2⟩
   |true=>
    rw[hq]at h;injection h with h;have:=iq hq;subst this;subst h;refine⟨cJ ..,fun j hj=>free_spec hf j ?_ hj⟩;simp only[aQ]at hj;cases ho:(opsOf c)[j]? with
    |none=>simp[ho]at hj
    |some o=>exact(Array.getElem?_eq_some_iff.1 ho).1
def qD:Env→Bool
 |[]=>true
 |(k,_)::r=> !(memN (r.map (·.1)) k)&&qD r
theorem rC:∀{env:Env},qD env=true→∀{t:Nat} {v:Value},(t,v)∈env→look env t=some v
 |[],_,t,v,h=>by simp at h
 |(k,u)::r,hk,t,v,h=>by
  simp only[qD,bo,jP]at hk;simp only[look];rcases db.1 h with h|h
  ·injection h with h1 h2;subst h1;subst h2;simp
  ·cases hq:Nat.beq k t with
   |false=>exact rC hk.2 h
   |true=>
    have:=iq hq;subst this;have hm:memN (r.map (·.1)) k=true:=jX.2 (bD.2 ⟨_,h,rfl⟩);rw[hm]at hk;cases hk.1
def tI(c:Code):Env→Env
 |[]=>[]
 |(t,v)::r=>match memN ((List.range (opsOf c).size).filterMap (aQ c)) t with
  |true=>tI c r
  |false=>(t,v)::tI c r
theorem rD{c:Code}:∀{env:Env} {t:Nat} {v:Value},look (tI c env) t=some v→(t,v)∈env∧∀j,aQ c j≠some t
 |[],t,v,h=>by simp[tI,look]at h
 |(k,u)::r,t,v,h=>by
  unfold tI at h;cases hm:memN ((List.range (opsOf c).size).filterMap (aQ c)) k with
  |true=>
   rw[hm]at h;obtain⟨h1,h2⟩:=rD h;exact⟨bT _ h1,h2⟩
  |false=>
   rw[hm]at h;simp only[look]at h;cases hq:Nat.beq k t with
   |false=>
    rw[hq]at h;obtain⟨h1,h2⟩:=rD h;exact⟨bT _ h1,h2⟩
   |true=>
    rw[hq]at h;injection h with h;have:=iq hq;subst this;subst h;refine⟨cJ ..,fun j hj=> ?_⟩;have fM:j<(opsOf c).size:=by
     simp only[aQ]at hj;cases ho:(opsOf c)[j]? with
     |none=>simp[ho]at hj
     |some o=>exact(Array.getElem?_eq_some_iff.1 ho).1
    have:memN ((List.range (opsOf c).size).filterMap (aQ c)) k=true:=jX.2 (Ds.2 ⟨j,ew.2 fM,hj⟩);rw[this]at hm;cases hm
def gU(c:Code):Bool:=(List.range (opsOf c).size).all fun i=>(dW c i).all fun j=>Nat.blt j i
section
variable {P : Program} {c : Code} {K : Act → World → Prop} {Q : Exit → Act → World → Prop} {N : FN} {env0 : Env} {wr : World} {sp : Nat → Spec}
def tJ(c:Code)(N:FN)(env0:Env)(wr:World)(sp:Nat→Spec)(aD:Array Bool)(a:Act)(w:World):Prop:=Kp wr w∧a.defers=N.D∧a.tmps.size=N.n∧(∀j,aD.getD j false=true→∀i,i∈dW c j→aD.getD i false=true)∧(∃vs:Nat→Value,∀j,aD.getD j false=true→(sp j).ok (vs j) w∧∀d,aQ c j=some d→a.tmps[d]?=some (vs j))∧(∀t v,(t,v)∈env0→(∀j,aD.getD j false=true→aQ c j≠some t)→a.tmps[t]?=some v)
theorem tK{i:Nat}{o:Oper}(ho:(opsOf c)[i]?=some o):opsOf (one c i)=#[{o with guard:=none}]:=by
 unfold one;rw[ho];rfl
theorem gu{ops:Array Oper}{aD:Array Bool}{i:Nat}(h:i∈Region.ready .any ops aD):i<ops.size∧aD.getD i true=false∧∃o,ops[i]?=some o∧∀e,e∈o.after.toList→Region.binds .any e=true→aD.getD e.on false=true:=by
 simp only[Region.ready,e8,ew,bo,jP]at h;obtain⟨h1,h2,h3⟩:=h;refine⟨h1,h2,?_⟩;cases ho:ops[i]? with
 |none=>simp[ho]at h3
 |some o=>
  refine⟨o,rfl,fun e he hb=> ?_⟩;simp only[ho,gC,kK]at h3;have h4:=(Dt.1 h3) e (Du.1 he);simpa[hb]using h4
theorem Ca(hd:ml c=true)(tv:∀i d,aQ c i=some d→d<N.n){i:Nat}(hi:jx P c Q N env0 wr sp i){aD:Array Bool}{a:Act}{w:World}(hn:aD.size=(opsOf c).size)(hr:i∈Region.ready .any (opsOf c) aD)(hk:tJ c N env0 wr sp aD a w){G:Act→World→Prop}(hG:∀a' w',tJ c N env0 wr sp (aD.setIfInBounds i true) a' w'→G a' w'):wpOp P (opsOf c) (Exit.then K Q) i G a w:=by
 obtain⟨fM,VT,o,ho,Im⟩:=gu hr;obtain⟨hkp,yP,kZ,u9,⟨vs,yQ⟩,qE⟩:=hk;have Mx:aD.getD i false=false:=by have:i<aD.size:=oM;simp[Array.getD,this]at VT⊢;exact VT
 have nE:∀j,j∈dW c i→aD.getD j false=true:=by intro j hj;simp only[dW,ho,bD,e8]at hj;obtain⟨e,⟨he,hb⟩,rfl⟩:=hj;exact Im e he hb
 have Dv:aQ c i=o.dst:=by simp[aQ,ho]
 have hF:Fr a N (bW c i sp vs env0++[]):=by
  refine⟨yP,kZ,fun t v hv=> ?_⟩;rw[mm]at hv;rcases lW hv with h1|h1
  ·obtain⟨j,hj,sO,rfl⟩:=oO h1;obtain⟨h2,h3⟩:=yQ j (nE j hj);rw[Spec.yM h2];exact h3 t sO
  ·obtain⟨h2,h3⟩:=rB h1;refine qE t v h2 (fun j hj sO=> ?_);have:=u9 j hj i (h3 j sO);rw[Mx]at this;cases this
 obtain⟨b,hb,Dw,Qa⟩:=hi a w vs [] hkp (fun j hj=>(yQ j (nE j hj)).1) hF;have yR:ay c i=some (o.dst,o.op,o.type,o.guard):=by simp[ay,ho]
 have hw:=tF (c:=c) hF rfl (hb _ (by rw[yR];rfl));have next:∀v w',Kp w w'→(sp i).ok v w'→tJ c N env0 wr sp (aD.setIfInBounds i true) (a.put o.dst v) w':=by
  intro v w' QeC hv;have Qb:∀j,(aD.setIfInBounds i true).getD j false=true→j=i∨aD.getD j false=true:=by
   intro j hj;by_cases e:i=j
   ·exact .inl e.symm
   ·refine .inr ?_;simpa[lg,Array.getElem?_setIfInBounds_ne e]using hj
  have Qc:∀j,aD.getD j false=true→(aD.setIfInBounds i true).getD j false=true:=by
   intro j hj;by_cases e:i=j
   ·subst e;have:i<aD.size:=oM;simp[lg,this]
   ·simpa[lg,Array.getElem?_setIfInBounds_ne e]using hj
  refine⟨hkp.trans QeC,by cases Qd:o.dst<;>simp[Act.put,yP],by cases Qd:o.dst<;>simp[Act.put,kZ],?_,⟨fun j=>if j=i then v else vs j,?_⟩,?_⟩
  ·intro j hj k hk;rcases Qb j hj with rfl|h1
   ·exact Qc k (nE k hk)
   ·exact Qc k (u9 j h1 k hk)
  ·intro j hj;rcases Qb j hj with rfl|h1
   ·refine⟨by simpa using hv,fun d sO=> ?_⟩;rw[Dv]at sO;simp only[sO,Act.put,mn];have:=tv j d (by rw[Dv];exact sO);rw[Array.getElem?_setIfInBounds_self_of_lt oM]
   ·have dN:j≠i:=fun e=>by subst e;rw[Mx]at h1;cases h1
    obtain⟨h2,h3⟩:=yQ j h1;refine⟨by simpa[dN]using(sp j).gZ _ _ _ QeC h2,fun d sO=> ?_⟩;simp only[dN,iP];cases Qd:o.dst with
    |none=>exact h3 d sO
    |some d'=>
     simp only[Act.put];have:d'≠d:=fun e=>by subst e;exact dN (KJ hd sO (by rw[Dv];exact Qd))
     rw[Array.getElem?_setIfInBounds_ne this];exact h3 d sO
  ·intro t u htu hj;have h1:=qE t u htu (fun j FF=>hj j (Qc j FF));cases Qd:o.dst with
   |none=>exact h1
   |some d'=>
    simp only[Act.put];have:d'≠t:=fun e=>by
     subst e;have vb:(aD.setIfInBounds i true).getD i false=true:=by have:i<aD.size:=oM;simp[lg,this]
     exact hj i vb (by rw[Dv];exact Qd)
    rw[Array.getElem?_setIfInBounds_ne this];exact h1
 unfold wpOp;rw[ho];simp only[];rw[hw];cases b with
 |false=>
  simp only[m4,iP];exact hG _ _ (next undef w (Kp.refl w) (Qa rfl))
 |true=>
  simp only[mn];have h1:=Dw rfl;unfold aV at h1;rw[tK ho]at h1;simp only[Dx]at h1;unfold wpList at h1;rw[bC (by simp[Region.wanted])]at h1;rcases h1 with h1|⟨h1,h2⟩
  ·refine .inl ?_;have e1:∀(K':Act→World→Prop) (Q':Exit→Act→World→Prop),({o with guard:=none}:Oper).wp P a w K' Q'=o.wp P a w K' Q':=fun _ _=>rfl
   rw[e1]at h1;have:o.wp P a w (fun a' w'=>∃v,a'=a.put (aQ c i) v∧Kp w w'∧(sp i).ok v w') (Exit.then (fun a' w'=>∃v,a'=a.put (aQ c i) v∧Kp w w'∧(sp i).ok v w') Q):=h1;have h3:o.wp P a w (fun a' w'=>∃v,a'=a.put (aQ c i) v∧Kp w w'∧(sp i).ok v w') (Exit.then K Q):=by
    unfold Oper.wp at this⊢;generalize (execOp a.eval o).run P w=r at*;cases r with
    |ok n w'=>
     cases n<;>simp only[Oper.upon]at this⊢<;>first
      |exact this
      |exact Calls.mono this (fun e w'' he=>by cases e<;>exact he)
    |halt x w'=>cases x<;>simp only[Oper.upon]at this⊢<;>exact this
   refine Oper.wp_mono ?_ h3;rintro a' w' ⟨v,rfl,hkv,hv⟩;rw[Dv];exact hG _ _ (next v w' hkv hv)
  ·refine .inr ⟨?_,?_⟩
   ·exact h1
   ·obtain⟨a0,w0,h0⟩:=h2;exact⟨a0,w0,h0⟩
theorem Qe(hd:ml c=true)(tv:∀i d,aQ c i=some d→d<N.n)(nE:gU c=true)(oQ:∀i,i<(opsOf c).size→jx P c Q N env0 wr sp i)(xw:∀a w,(∀aD:Array Bool,(∀j,j<(opsOf c).size→aD.getD j false=true)→tJ c N env0 wr sp aD a w→K a w)):∀(fuel:Nat) (aD:Array Bool) (a:Act) (w:World),aD.size=(opsOf c).size→((List.range (opsOf c).size).filter (fun j=> !aD.getD j false)).length≤fuel→tJ c N env0 wr sp aD a w→wpAny P .any (opsOf c) (Exit.then K Q) fuel aD a w:=by
 have lx:∀aD:Array Bool,aD.size=(opsOf c).size→Region.ready .any (opsOf c) aD=[]→∀j,j<(opsOf c).size→aD.getD j false=true:=by
  intro aD kZ hr j;induction j using Nat.strongRecOn with
  |_ j ih=>
   intro hj;cases hq:aD.getD j false with
   |true=>rfl
   |false=>
    exfalso;have:j∈Region.ready .any (opsOf c) aD:=by
     simp only[Region.ready,e8,ew,bo,jP];have FG:j<aD.size:=oM;refine⟨hj,?_,?_⟩
     ·simp[Array.getD,FG]at hq⊢;exact hq
     ·have ho:(opsOf c)[j]?=some (opsOf c)[j]:=by simp[hj]
      simp only[ho,gC,kK];rw[Dt];intro e he;cases hb:Region.binds .any e with
      |false=>rfl
      |true=>
       have kH:e.on∈dW c j:=by simp only[dW,ho,bD,e8];exact⟨e,⟨Du.2 he,hb⟩,rfl⟩
       have fM:e.on<j:=by simp only[gU,fW,ew]at nE;have:=nE j hj e.on kH;simpa[pW]using this
       simp[ih e.on fM oM]
    rw[hr]at this;simp at this
 intro fuel;induction fuel with
 |zero=>
  intro aD a w kZ hf hk;have dT:∀j,j<(opsOf c).size→aD.getD j false=true:=by
   intro j hj;cases hq:aD.getD j false with
   |true=>rfl
   |false=>
    have:j∈(List.range (opsOf c).size).filter (fun j=> !aD.getD j false):=e8.2 ⟨ew.2 hj,by rw[hq];rfl⟩;have:=Io this;omega
  refine⟨?_,xw a w aD dT hk⟩;cases hr:Region.ready .any (opsOf c) aD with
  |nil=>rfl
  |cons i r=>
   exfalso;have hi:i∈Region.ready .any (opsOf c) aD:=by rw[hr];simp
   obtain⟨h1,h2,_⟩:=gu hi;have:=dT i h1;have wx:i<aD.size:=oM;simp[Array.getD,wx]at h2 this;rw[h2]at this;cases this
 |succ fuel ih=>
  intro aD a w kZ hf hk;refine⟨fun hr=>xw a w aD (lx aD kZ hr) hk,fun i hi=> ?_⟩;obtain⟨h1,h2,_⟩:=gu hi;refine Ca hd tv (oQ i h1) kZ hi hk (fun a' w' jN=> ?_);refine ih _ a' w' (by simpa using kZ) ?_ jN;have wx:i<aD.size:=oM;have hni:aD.getD i false=false:=by simp[Array.getD,wx]at h2⊢;exact h2
  have fM:((List.range (opsOf c).size).filter (fun j=> !(aD.setIfInBounds i true).getD j false)).length<((List.range (opsOf c).size).filter (fun j=> !aD.getD j false)).length:=by
   have kz:((List.range (opsOf c).size).filter (fun j=> !(aD.setIfInBounds i true).getD j false))=((List.range (opsOf c).size).filter (fun j=> !aD.getD j false)).filter (fun j=> !(Nat.beq j i)):=by
    rw[vc];apply qF;intro j _;by_cases e:i=j
    ·subst e;simp[lg,wx]
    ·have hb:Nat.beq j i=false:=by
      cases hq:Nat.beq j i with
      |false=>rfl
      |true=>exact absurd (iq hq).symm e
     simp[lg,Array.getElem?_setIfInBounds_ne e,hb]
   rw[kz];have kH:i∈(List.range (opsOf c).size).filter (fun j=> !aD.getD j false):=e8.2 ⟨ew.2 h1,by rw[hni];rfl⟩;refine yS.2 ⟨i,kH,sI⟩
  omega
theorem Qbs(hk:kind c= .region true)(hm:P.follows .mixedOrders=true){a:Act}(sp:Nat→Spec)(hd:ml c=true)(nE:gU c=true)(hF:Fr a N env0)(tL:qD env0=true)(tv:(List.range (opsOf c).size).all (fun i=>gq (aQ c i) N)=true)(oQ:∀i,i<(opsOf c).size→jx P c Q N env0 wr sp i)(h:∀a' w' (vs:Nat→Value),Kp wr w'→(∀j,j<(opsOf c).size→(sp j).ok (vs j) w')→Fr a' N (qC c sp vs (List.range (opsOf c).size)++tI c env0)→K a' w'):W P c K Q a wr:=by
 have Qf:∀i d,aQ c i=some d→d<N.n:=by
  intro i d hi;have fM:i<(opsOf c).size:=by
   simp only[aQ]at hi;cases ho:(opsOf c)[i]? with
   |none=>simp[ho]at hi
   |some o=>exact(Array.getElem?_eq_some_iff.1 ho).1
  simp only[fW,ew]at tv;have:=tv i fM;rw[hi]at this;simpa[gq,pW]using this
 cases c<;>simp[kind]at hk;rename_i id ops dr;subst hk;refine wp_region_any hm ?_;have h0:tJ (.region id ops true) N env0 wr sp (Array.replicate ops.size false) a {wr with drawn:=wr.drawn+1}:=by
  refine⟨Mem.drew wr,hF.defers,hF.size,?_,⟨fun _=>undef,?_⟩,fun t v htv _=>hF.slot t v (rC tL htv)⟩
  ·intro j hj;simp[lg,Array.getElem?_replicate]at hj;split at hj<;>simp at hj
  ·intro j hj;simp[lg,Array.getElem?_replicate]at hj;split at hj<;>simp at hj
 refine Qe (c:= .region id ops true) hd Qf nE oQ ?_ ops.size _ a _ (by simp[opsOf]) ?_ h0
 ·intro a' w' aD dT hk;obtain⟨hkp,yP,kZ,_,⟨vs,yQ⟩,qE⟩:=hk;refine h a' w' vs hkp (fun j hj=>(yQ j (dT j hj)).1) ⟨yP,kZ,fun t v hv=> ?_⟩;rcases lW hv with h1|h1
  ·obtain⟨j,hj,sO,rfl⟩:=oO h1;obtain⟨h2,h3⟩:=yQ j (dT j (ew.1 hj));rw[Spec.yM h2];exact h3 t sO
  ·obtain⟨h2,h3⟩:=rD h1;exact qE t v h2 (fun j _=>h3 j)
 ·refine iv (m5 _ _) ?_;simp[opsOf]
end
theorem FH{p:Nat→Prop}:∀i,i<0→p i:=fun i h=>absurd h oM
theorem FI{p:Nat→Prop}{n:Nat}(h:∀i,i<n→p i)(hn:p n):∀i,i<n+1→p i:=fun i hi=>by
 by_cases e:i=n
 ·subst e;exact hn
 ·exact h i oM
theorem sP{c:Code}{i:Nat}{E:Env}{b:Bool}{g0:Option (Nat×Bool)}(h0:(ay c i).map (·.2.2.2)=some g0)(h:bt c g0 E=some b):∀g,(ay c i).map (·.2.2.2)=some g→bt c g E=some b:=by
 intro g hg;rw[h0]at hg;injection hg with hg;subst hg;exact h
theorem xW{c:Code}{i:Nat}{d:Option Nat}{a a':Act}{w w':World}{v:Value}{s:Spec}(hd:aQ c i=d)(ea:a'=a.put d v)(hK:Kp w w')(h:s.ok v w'):∃v,a'=a.put (aQ c i) v∧Kp w w'∧s.ok v w':=⟨v,by rw[hd];exact ea,hK,h⟩
theorem My{c:Code}{i j:Nat}(h:memN (dW c i) j=true):j∈dW c i:=jX.1 h
def Spec.sl(n:Nat)(xs:aO):Spec:= .any (fun v w=>∃A c,v=vS A n c∧(bx.rd A xs).holds w) (fun _ _ _ hK ⟨A,c,hv,h⟩=>⟨A,c,hv,(bx.rd A xs).gZ (fun g hg=>hK.kept g ((bx.rd A xs).lt h hg) (fun h=>h)) h⟩)
theorem RO.of{w:World}{r:bx}(h:r.holds w):RO aX w r:=⟨h,fun _ _ h=>h⟩
abbrev eI(x:Int):Spec:= .bb (.int .i64 x)
abbrev eS(A:Option Addr)(n c:Nat):Spec:= .bb (.slice A n c)
abbrev eB(b:Bool):Spec:= .bb (.bool b)
abbrev eT(s:ByteArray):Spec:= .bb (.string s)
abbrev eP(a:Addr):Spec:= .bb (.pointer (some a))
abbrev eR(b o:Nat):Spec:= .bb (.pointer (some ⟨b,o,none⟩))
abbrev eA(a:Addr)(i:Int)(k:Nat):Spec:= .bb (.pointer (some (a.add (i.toNat*k))))
end Go.Mor
namespace Go.Mor
open Go.RowKit
theorem qG{e size n c:Nat}{ad:Addr}{P:Program}:∀(vs:aO) (off i:Nat) {xs:aO} {w:World},(∀v∈vs,v.oneCell'=true)→(bx.row e size (some ad) n c xs).holds w→off+i+vs.length≤xs.length→∃w',(storeCells (ad.add off) vs i).run P w= .ok () w'∧Mem (bx.row e size (some ad) n c xs).fp w w' [.row e size (some ad) n c (xs.take (off+i)++vs++xs.drop (off+i+vs.length))]
 |[],off,i,xs,w,_,hb,_=>⟨w,by simp[storeCells],by simpa using Mem.qv hb⟩
 |v::vs,off,i,xs,w,h1,hb,hl=>by
  simp only[eZ]at hl;have hm:=Mem.xU (j:=off+i) hb v;have KH:=hm.get 0 rfl;obtain⟨w',hr,P6⟩:=qG vs off (i+1) (fun u hu=>h1 u (bT _ hu)) KH (by simp;omega);refine⟨w',?_,?_⟩
  ·have fM:off+i<xs.length:=oM;obtain⟨a',lM,pX⟩:=aF hb (off+i) xs[off+i] (by simp[fM]);injection lM with lM;subst lM;have ry:(store (ad.add (off+i)) v).run P w= .ok () (w.setCell (ad.add (off+i)) v):=by rw[run_store P w _ v .plain (h1 v (cJ ..)),pX];simp[mX hb]
   simp only[storeCells,cT,add_add,ry,dz];simpa[add_add]using hr
  ·have P7:(xs.set (off+i) v).take (off+(i+1))++vs++(xs.set (off+i) v).drop (off+(i+1)+vs.length)=xs.take (off+i)++v::vs++xs.drop (off+i+(v::vs).length):=by rw[←pf,fO (by simp;omega),List.drop_set,bC oM];simp[Dp (cB _),pf,Nat.add_comm 1]
   rw[P7]at P6;have:=hm.mod 0 rfl P6;simpa using this
theorem Bg(z:Value)(n:Nat):(Builtin.zeroCells #[z] n).toList=List.replicate n z:=by
 apply kg;intro j;by_cases hj:j<n
 ·simp[Builtin.zeroCells,hj,Nat.mod_one]
 ·simp[Builtin.zeroCells,hj]
section
variable {P : Program} {c : Code} {K : Act → World → Prop} {Q : Exit → Act → World → Prop} {a : Act} {w w0 : World} {S : Nat → Prop} {L : List bx} {k k' : Nat} {N : FN} {env : Env}
variable {d : Option Nat} {ty : Nat} {g : Option (Nat × Bool)}
theorem Ip{t:TypeId}{x:Operand}(hk:ay c k=some (d,.call {callee:= .builtin .clear,args:=#[x],argTypes:=#[t]},ty,g))(hF:Fr a N env)(hg:bt c g env=some true)(hd:gq d N=true)(jN:k+1=k'){e:Nat}{z:Value}(ht:P.underlying t=some (.slice e))(hi:(P.info? e).map (fun i=>(i.size,i.zero))=some (1,some z))(hz:z.oneCell'=true){ad:Addr}{off m cap' n cap:Nat}{xs:aO}(hx:ev env x=some (vS (some (ad.add off)) m cap'))(hM:Mem S w0 w L)(i:Nat)(hL:L[i]?=some (.row e 1 (some ad) n cap xs))(hm:off+m≤n)(h:∀w',Mem S w0 w' (L.set i (.row e 1 (some ad) n cap (xs.take off++List.replicate m z++xs.drop (off+m))))→True→∀a',a'=a.put d undef→Fr a' N (cO env d undef)→aV P c K Q k' a' w'):aV P c K Q k a w:=by
 subst jN;have qe:=hM.get i hL;have hlen:=Dn qe;obtain⟨w',hr,KK⟩:=qG (P:=P) (List.replicate m z) off 0 (by intro v hv;rw[Dy hv];exact hz) qe (by simp;omega);simp only[Nat.add_zero,Dz]at KK;refine fH hk hF hg (v:=undef) (w':=w') (fun o ho Mw=> ?_) (h w' (by simpa using hM.mod i hL KK) trivial _ rfl (hF.put hd _));unfold execOp;rw[ho];cases vb:P.info? e with
 |none=>simp[vb]at hi
 |some inf=>
  simp only[vb,gC,cP,cF]at hi;obtain⟨hs,Ik⟩:=hi;have hz0:(zeroValue e).run P w= .ok z w:=by simp[zeroValue,typeInfo,vb,Ik]
  simp only[resolve,invoke,builtin,cT,jO,dz,qB,ga,kc,hF.ev hx,Builtin.clear_];simp only[show(#[t]:Array TypeId)[0]?=some t from rfl,show(#[Value.slice (some (ad.add off)) m cap']:Array Value)[0]?=some (vS (some (ad.add off)) m cap')from rfl,cT,eY ht,dz];cases m with
  |zero=>
   simp only[List.replicate_zero,storeCells,jO,Result.ok.injEq,gP]at hr;subst hr;simp[undef]
  |succ m=>
   simp only[cT,hz0,dz,rv hz,Bg,hr];rfl
end
theorem Mem.tM{S:Nat→Prop}{w0 w:World}{L:List bx}{e size n cap:Nat}{A:ao}{xs:aO}(hM:Mem S w0 w L)(i:Nat)(hL:L[i]?=some (.row e size A n cap xs))(m:Nat)(hm:m≤n):Mem S w0 w (L.set i (.row e size A m cap (xs.take (m*size)))):=by
 refine hM.say i hL (fun h=> ?_) (fun g hg=>hg);have hlen:=Dn h;rcases h.2 with⟨h1,h2⟩|⟨g,cap',cur,hv,hb,hg,hnc,hcm,jW,ht⟩
 ·injection h1 with h1 h3 h4;have:m=0:=oM;subst h1;subst h4;subst this;refine⟨sI,.inl ⟨rfl,rfl⟩⟩
 ·injection hv with hv h2 h3;subst hv;subst h3;have DA:m*size≤n*size:=Nat.mul_le_mul_right _ hm;refine⟨by rw[mq,hlen];omega,.inr ⟨g,cap,cur,rfl,hb,hg,oM,hcm,jW,?_⟩⟩;rw[←ht,List.take_take];congr 1;omega
end Go.Mor
namespace Go.Mor
open Go.RowKit
def pj(ls:Nat→Bool)(i:Nat):Nat→Bool:=fun j=>match Nat.beq j i with
 |true=>true
 |false=>ls j
def vd(vs:Nat→Value)(i:Nat)(v:Value):Nat→Value:=fun j=>match Nat.beq j i with
 |true=>v
 |false=>vs j
def ve(c:Code)(ls:Nat→Bool):Prop:=∀j,ls j=true→∀k,k∈dW c j→ls k=true
def reach(c:Code):Nat→Nat→Nat→Bool
 |0,_,_=>false
 |n+1,j,i=>memN (dW c j) i||(dW c j).any (fun k=>reach c n k i)
theorem bw{c:Code}{ls:Nat→Bool}(hc:ve c ls){i:Nat}(hi:ls i=false):∀{n j:Nat},reach c n j i=true→ls j=false
 |0,j,h=>by simp[reach]at h
 |n+1,j,h=>by
  cases hq:ls j with
  |false=>rfl
  |true=>
   exfalso;simp only[reach,cg,yT]at h;rcases h with h|⟨k,hk,h⟩
   ·rw[hc j hq i (jX.1 h)]at hi;cases hi
   ·have:=bw hc hi h;rw[hc j hq k hk]at this;cases this
theorem bI{c:Code}{ls:Nat→Bool}(hc:ve c ls){i:Nat}(hp:∀k,k∈dW c i→ls k=true):∀{n j:Nat},reach c n i j=true→ls j=true:=by
 have key:∀{n i' j:Nat},ls i'=true→reach c n i' j=true→ls j=true:=by
  intro n;induction n with
  |zero=>intro i' j _ h;simp[reach]at h
  |succ n ih=>
   intro i' j hi h;simp only[reach,cg,yT]at h;rcases h with h|⟨k,hk,h⟩
   ·exact hc i' hi j (jX.1 h)
   ·exact ih (hc i' hi k hk) h
 intro n j h;cases n with
 |zero=>simp[reach]at h
 |succ n=>
  simp only[reach,cg,yT]at h;rcases h with h|⟨k,hk,h⟩
  ·exact hp j (jX.1 h)
  ·exact key (hp k hk) h
def wz(P:Program)(c:Code)(Q:Exit→Act→World→Prop)(N:FN)(env0:Env)(sp:Nat→Spec)(J:(Nat→Bool)→(Nat→Value)→World→Prop)(i:Nat):Prop:=∀(a:Act) (w:World) (ls:Nat→Bool) (vs:Nat→Value) (rest:Env),J ls vs w→ls i=false→ve c ls→(∀j,j∈dW c i→ls j=true∧(sp j).ok (vs j) w)→Fr a N (bW c i sp vs env0++rest)→∃b,(∀g,(ay c i).map (·.2.2.2)=some g→bt c g (bW c i sp vs env0++rest)=some b)∧(b=true→aV P (one c i) (fun a' w'=>∃v,a'=a.put (aQ c i) v∧(sp i).ok v w'∧J (pj ls i) (vd vs i v) w') Q 0 a w)∧(b=false→(sp i).ok undef w∧J (pj ls i) (vd vs i undef) w)
theorem mO{c:Code}{i:Nat}{E:Env}{g0:Option (Nat×Bool)}{X Y:Prop}(hx:X)(h0:(ay c i).map (·.2.2.2)=some g0:=by kernel_rfl)(h:bt c g0 E=some true:=by kernel_rfl):∃b,(∀g,(ay c i).map (·.2.2.2)=some g→bt c g E=some b)∧(b=true→X)∧(b=false→Y):=⟨true,sP h0 h,fun _=>hx,fun h=>Bool.noConfusion h⟩
section
variable {P : Program} {c : Code} {K : Act → World → Prop} {Q : Exit → Act → World → Prop} {N : FN} {env0 : Env} {sp : Nat → Spec} {J : (Nat → Bool) → (Nat → Value) → World → Prop}
def vf(c:Code)(N:FN)(env0:Env)(sp:Nat→Spec)(J:(Nat→Bool)→(Nat→Value)→World→Prop)(aD:Array Bool)(a:Act)(w:World):Prop:=∃(ls:Nat→Bool) (vs:Nat→Value),(∀j,j<aD.size→ls j=aD.getD j false)∧(∀j,aD.size≤j→ls j=false)∧J ls vs w∧a.defers=N.D∧a.tmps.size=N.n∧ve c ls∧(∀j,ls j=true→(sp j).ok (vs j) w∧∀d,aQ c j=some d→a.tmps[d]?=some (vs j))∧(∀t v,(t,v)∈env0→(∀j,ls j=true→aQ c j≠some t)→a.tmps[t]?=some v)
theorem Iq(hd:ml c=true)(tv:∀i d,aQ c i=some d→d<N.n)(Ir:∀j v w w',(sp j).ok v w→(sp j).ok v w'){i:Nat}(hi:wz P c Q N env0 sp J i){aD:Array Bool}{a:Act}{w:World}(hn:aD.size=(opsOf c).size)(hr:i∈Region.ready .any (opsOf c) aD)(hk:vf c N env0 sp J aD a w){G:Act→World→Prop}(hG:∀a' w',vf c N env0 sp J (aD.setIfInBounds i true) a' w'→G a' w'):wpOp P (opsOf c) (Exit.then K Q) i G a w:=by
 obtain⟨fM,VT,o,ho,Im⟩:=gu hr;obtain⟨ls,vs,hls,QeD,hJ,yP,kZ,u9,yQ,qE⟩:=hk;have Mx:ls i=false:=by rw[hls i oM];have:i<aD.size:=oM;simp[Array.getD,this]at VT⊢;exact VT
 have hlts:∀j,ls j=true→j<aD.size:=by
  intro j hj;rcases pe j aD.size with h|h
  ·exact h
  ·rw[QeD j h]at hj;cases hj
 have nE:∀j,j∈dW c i→ls j=true:=by
  intro j hj;simp only[dW,ho,bD,e8]at hj;obtain⟨e,⟨he,hb⟩,rfl⟩:=hj;have h1:=Im e he hb;have h2:e.on<aD.size:=by
   rcases pe e.on aD.size with h|h
   ·exact h
   ·have h3:¬(e.on<aD.size):=oM;simp[Array.getD,h3]at h1
  rw[hls _ h2];exact h1
 have Dv:aQ c i=o.dst:=by simp[aQ,ho]
 have hF:Fr a N (bW c i sp vs env0++[]):=by
  refine⟨yP,kZ,fun t v hv=> ?_⟩;rw[mm]at hv;rcases lW hv with h1|h1
  ·obtain⟨j,hj,sO,rfl⟩:=oO h1;obtain⟨h2,h3⟩:=yQ j (nE j hj);rw[Spec.yM h2];exact h3 t sO
  ·obtain⟨h2,h3⟩:=rB h1;refine qE t v h2 (fun j hj sO=> ?_);have:=u9 j hj i (h3 j sO);rw[Mx]at this;cases this
 obtain⟨b,hb,Dw,Qa⟩:=hi a w ls vs [] hJ Mx u9 (fun j hj=>⟨nE j hj,(yQ j (nE j hj)).1⟩) hF;have yR:ay c i=some (o.dst,o.op,o.type,o.guard):=by simp[ay,ho]
 have hw:=tF (c:=c) hF rfl (hb _ (by rw[yR];rfl));have AO:∀j,pj ls i j=true→j=i∨ls j=true:=by
  intro j hj;simp only[pj]at hj;cases hq:Nat.beq j i with
  |true=>exact .inl (iq hq)
  |false=>rw[hq]at hj;exact .inr hj
 have Qbt:∀j,ls j=true→pj ls i j=true:=by intro j hj;simp only[pj];cases hq:Nat.beq j i<;>simp[hj]
 have QeE:pj ls i i=true:=by simp[pj]
 have hvi:vd vs i=fun v j=>if j=i then v else vs j:=by
  funext v j;simp only[vd];cases hq:Nat.beq j i with
  |true=>simp[iq hq]
  |false=>
   have:j≠i:=fun e=>by subst e;simp at hq
   simp[this]
 have next:∀v w',(sp i).ok v w'→J (pj ls i) (vd vs i v) w'→vf c N env0 sp J (aD.setIfInBounds i true) (a.put o.dst v) w':=by
  intro v w' hv hJ';refine⟨pj ls i,vd vs i v,?_,?_,hJ',by cases Qd:o.dst<;>simp[Act.put,yP],by cases Qd:o.dst<;>simp[Act.put,kZ],?_,?_,?_⟩
  ·intro j hj;have FF:j<aD.size:=by simpa using hj
   by_cases e:i=j
   ·subst e;rw[QeE];simp[lg,FF]
   ·have hb:Nat.beq j i=false:=by
     cases hq:Nat.beq j i with
     |false=>rfl
     |true=>exact absurd (iq hq).symm e
    simp only[pj,hb];rw[hls j FF];simp[lg,Array.getElem?_setIfInBounds_ne e]
  ·intro j hj;have FF:aD.size≤j:=by simpa using hj
   have hb:Nat.beq j i=false:=by
    cases hq:Nat.beq j i with
    |false=>rfl
    |true=>have:=iq hq;omega
   simp only[pj,hb];exact QeD j FF
  ·intro j hj k hk;rcases AO j hj with rfl|h1
   ·exact Qbt k (nE k hk)
   ·exact Qbt k (u9 j h1 k hk)
  ·intro j hj;rw[hvi];rcases AO j hj with rfl|h1
   ·refine⟨by simpa using hv,fun d sO=> ?_⟩;rw[Dv]at sO;simp only[sO,Act.put,mn];have:=tv j d (by rw[Dv];exact sO);rw[Array.getElem?_setIfInBounds_self_of_lt oM]
   ·have dN:j≠i:=fun e=>by subst e;rw[Mx]at h1;cases h1
    obtain⟨h2,h3⟩:=yQ j h1;refine⟨by simpa[dN]using Ir j _ _ _ h2,fun d sO=> ?_⟩;simp only[dN,iP];cases Qd:o.dst with
    |none=>exact h3 d sO
    |some d'=>
     simp only[Act.put];have:d'≠d:=fun e=>by subst e;exact dN (KJ hd sO (by rw[Dv];exact Qd))
     rw[Array.getElem?_setIfInBounds_ne this];exact h3 d sO
  ·intro t u htu hj;have h1:=qE t u htu (fun j FF=>hj j (Qbt j FF));cases Qd:o.dst with
   |none=>exact h1
   |some d'=>
    simp only[Act.put];have:d'≠t:=fun e=>by subst e;exact hj i QeE (by rw[Dv];exact Qd)
    rw[Array.getElem?_setIfInBounds_ne this];exact h1
 unfold wpOp;rw[ho];simp only[];rw[hw];cases b with
 |false=>
  simp only[m4,iP];obtain⟨h1,h2⟩:=Qa rfl;exact hG _ _ (next undef w h1 h2)
 |true=>
  simp only[mn];have h1:=Dw rfl;unfold aV at h1;rw[tK ho]at h1;simp only[Dx]at h1;unfold wpList at h1;rw[bC (by simp[Region.wanted])]at h1;rcases h1 with h1|⟨h1,h2⟩
  ·refine .inl ?_;have h3:o.wp P a w (fun a' w'=>∃v,a'=a.put (aQ c i) v∧(sp i).ok v w'∧J (pj ls i) (vd vs i v) w') (Exit.then K Q):=by
    have this:o.wp P a w (fun a' w'=>∃v,a'=a.put (aQ c i) v∧(sp i).ok v w'∧J (pj ls i) (vd vs i v) w') (Exit.then (fun a' w'=>∃v,a'=a.put (aQ c i) v∧(sp i).ok v w'∧J (pj ls i) (vd vs i v) w') Q):=h1;unfold Oper.wp at this⊢;generalize (execOp a.eval o).run P w=r at*;cases r with
    |ok n w'=>
     cases n<;>simp only[Oper.upon]at this⊢<;>first
      |exact this
      |exact Calls.mono this (fun e w'' he=>by cases e<;>exact he)
    |halt x w'=>cases x<;>simp only[Oper.upon]at this⊢<;>exact this
   refine Oper.wp_mono ?_ h3;rintro a' w' ⟨v,rfl,hv,hJv⟩;rw[Dv];exact hG _ _ (next v w' hv hJv)
  ·refine .inr ⟨h1,?_⟩;obtain⟨a0,w0,h0⟩:=h2;exact⟨a0,w0,h0⟩
theorem Mz(hd:ml c=true)(tv:∀i d,aQ c i=some d→d<N.n)(Ir:∀j v w w',(sp j).ok v w→(sp j).ok v w')(nE:gU c=true)(oQ:∀i,i<(opsOf c).size→wz P c Q N env0 sp J i)(xw:∀a w,(∀aD:Array Bool,aD.size=(opsOf c).size→(∀j,j<(opsOf c).size→aD.getD j false=true)→vf c N env0 sp J aD a w→K a w)):∀(fuel:Nat) (aD:Array Bool) (a:Act) (w:World),aD.size=(opsOf c).size→((List.range (opsOf c).size).filter (fun j=> !aD.getD j false)).length≤fuel→vf c N env0 sp J aD a w→wpAny P .any (opsOf c) (Exit.then K Q) fuel aD a w:=by
 have lx:∀aD:Array Bool,aD.size=(opsOf c).size→Region.ready .any (opsOf c) aD=[]→∀j,j<(opsOf c).size→aD.getD j false=true:=by
  intro aD kZ hr j;induction j using Nat.strongRecOn with
  |_ j ih=>
   intro hj;cases hq:aD.getD j false with
   |true=>rfl
   |false=>
    exfalso;have:j∈Region.ready .any (opsOf c) aD:=by
     simp only[Region.ready,e8,ew,bo,jP];have FG:j<aD.size:=oM;refine⟨hj,?_,?_⟩
     ·simp[Array.getD,FG]at hq⊢;exact hq
     ·have ho:(opsOf c)[j]?=some (opsOf c)[j]:=by simp[hj]
      simp only[ho,gC,kK];rw[Dt];intro e he;cases hb:Region.binds .any e with
      |false=>rfl
      |true=>
       have kH:e.on∈dW c j:=by simp only[dW,ho,bD,e8];exact⟨e,⟨Du.2 he,hb⟩,rfl⟩
       have fM:e.on<j:=by simp only[gU,fW,ew]at nE;have:=nE j hj e.on kH;simpa[pW]using this
       simp[ih e.on fM oM]
    rw[hr]at this;simp at this
 intro fuel;induction fuel with
 |zero=>
  intro aD a w kZ hf hk;have dT:∀j,j<(opsOf c).size→aD.getD j false=true:=by
   intro j hj;cases hq:aD.getD j false with
   |true=>rfl
   |false=>
    have:j∈(List.range (opsOf c).size).filter (fun j=> !aD.getD j false):=e8.2 ⟨ew.2 hj,by rw[hq];rfl⟩;have:=Io this;omega
  refine⟨?_,xw a w aD kZ dT hk⟩;cases hr:Region.ready .any (opsOf c) aD with
  |nil=>rfl
  |cons i r=>
   exfalso;have hi:i∈Region.ready .any (opsOf c) aD:=by rw[hr];simp
   obtain⟨h1,h2,_⟩:=gu hi;have:=dT i h1;have wx:i<aD.size:=oM;simp[Array.getD,wx]at h2 this;rw[h2]at this;cases this
 |succ fuel ih=>
  intro aD a w kZ hf hk;refine⟨fun hr=>xw a w aD kZ (lx aD kZ hr) hk,fun i hi=> ?_⟩;obtain⟨h1,h2,_⟩:=gu hi;refine Iq hd tv Ir (oQ i h1) kZ hi hk (fun a' w' jN=> ?_);refine ih _ a' w' (by simpa using kZ) ?_ jN;have wx:i<aD.size:=oM;have hni:aD.getD i false=false:=by simp[Array.getD,wx]at h2⊢;exact h2
  have fM:((List.range (opsOf c).size).filter (fun j=> !(aD.setIfInBounds i true).getD j false)).length<((List.range (opsOf c).size).filter (fun j=> !aD.getD j false)).length:=by
   have kz:((List.range (opsOf c).size).filter (fun j=> !(aD.setIfInBounds i true).getD j false))=((List.range (opsOf c).size).filter (fun j=> !aD.getD j false)).filter (fun j=> !(Nat.beq j i)):=by
    rw[vc];apply qF;intro j _;by_cases e:i=j
    ·subst e;simp[lg,wx]
    ·have hb:Nat.beq j i=false:=by
      cases hq:Nat.beq j i with
      |false=>rfl
      |true=>exact absurd (iq hq).symm e
     simp[lg,Array.getElem?_setIfInBounds_ne e,hb]
   rw[kz];have kH:i∈(List.range (opsOf c).size).filter (fun j=> !aD.getD j false):=e8.2 ⟨ew.2 h1,by rw[hni];rfl⟩;refine yS.2 ⟨i,kH,sI⟩
  omega
theorem VU(hk:kind c= .region true)(hm:P.follows .mixedOrders=true){a:Act}{wr:World}(sp:Nat→Spec)(J:(Nat→Bool)→(Nat→Value)→World→Prop)(hd:ml c=true)(nE:gU c=true)(hF:Fr a N env0)(tL:qD env0=true)(tv:(List.range (opsOf c).size).all (fun i=>gq (aQ c i) N)=true)(Ir:∀j v w w',(sp j).ok v w→(sp j).ok v w')(h0:J (fun _=>false) (fun _=>undef) wr.drew)(oQ:∀i,i<(opsOf c).size→wz P c Q N env0 sp J i)(h:∀a' w' (ls:Nat→Bool) (vs:Nat→Value),(∀j,j<(opsOf c).size→ls j=true)→J ls vs w'→(∀j,j<(opsOf c).size→(sp j).ok (vs j) w')→Fr a' N (qC c sp vs (List.range (opsOf c).size)++tI c env0)→K a' w'):W P c K Q a wr:=by
 have Qf:∀i d,aQ c i=some d→d<N.n:=by
  intro i d hi;have fM:i<(opsOf c).size:=by
   simp only[aQ]at hi;cases ho:(opsOf c)[i]? with
   |none=>simp[ho]at hi
   |some o=>exact(Array.getElem?_eq_some_iff.1 ho).1
  simp only[fW,ew]at tv;have:=tv i fM;rw[hi]at this;simpa[gq,pW]using this
 cases c<;>simp[kind]at hk;rename_i id ops dr;subst hk;refine wp_region_any hm ?_;have h1:vf (.region id ops true) N env0 sp J (Array.replicate ops.size false) a {wr with drawn:=wr.drawn+1}:=by refine⟨fun _=>false,fun _=>undef,?_,fun _ _=>rfl,h0,hF.defers,hF.size,(fun _ hj=>absurd hj sI),(fun _ hj=>absurd hj sI),fun t v htv _=>hF.slot t v (rC tL htv)⟩;intro j hj;simp at hj;simp[lg,hj]
 refine Mz (c:= .region id ops true) hd Qf Ir nE oQ ?_ ops.size _ a _ (by simp[opsOf]) ?_ h1
 ·intro a' w' aD kZ dT hk;obtain⟨ls,vs,hls,_,hJ,yP,QhX,_,yQ,qE⟩:=hk;have fM:∀j,j<(opsOf (.region id ops true)).size→ls j=true:=fun j hj=>by rw[hls j oM];exact dT j hj
  refine h a' w' ls vs fM hJ (fun j hj=>(yQ j (fM j hj)).1) ⟨yP,QhX,fun t v hv=> ?_⟩;rcases lW hv with h1|h1
  ·obtain⟨j,hj,sO,rfl⟩:=oO h1;obtain⟨h2,h3⟩:=yQ j (fM j (ew.1 hj));rw[Spec.yM h2];exact h3 t sO
  ·obtain⟨h2,h3⟩:=rD h1;exact qE t v h2 (fun j _=>h3 j)
 ·refine iv (m5 _ _) ?_;simp[opsOf]
end
def Spec.free:Spec:= .any (fun _ _=>True) (fun _ _ _ _ _=>trivial)
theorem bL{c:Code}{i:Nat}{d:Option Nat}{a a':Act}{w':World}{v:Value}{s:Spec}{Z:Value→Prop}(hd:aQ c i=d)(ea:a'=a.put d v)(h:s.ok v w')(hJ:Z v):∃v,a'=a.put (aQ c i) v∧s.ok v w'∧Z v:=⟨v,by rw[hd];exact ea,h,hJ⟩
inductive Plain:List Spec→Prop where
 |nil:Plain []
 |bb {v r}:Plain r→Plain (.bb v::r)
 |free {r}:Plain r→Plain (Spec.free::r)
theorem gH{l:List Spec}(h:Plain l):∀(j:Nat) (v:Value) (w w':World),(aP l j).ok v w→(aP l j).ok v w':=by
 induction h with
 |nil=>intro j v w w' h;exact h
 |bb _ ih=>
  intro j v w w' h;cases j with
  |zero=>exact h
  |succ j=>exact ih j v w w' h
 |free _ ih=>
  intro j v w w' h;cases j with
  |zero=>exact h
  |succ j=>exact ih j v w w' h
section
variable {S : Nat → Prop} {w0 w w' : World} {L : List bx}
theorem It{α:Type}{L:List α}{i:Nat}{r:α}(hi:L[i]?=some r):L.Perm (r::L.eraseIdx i):=by
 induction L generalizing i with
 |nil=>simp at hi
 |cons x L ih=>
  cases i with
  |zero=>simp at hi;subst hi;simp
  |succ i=>
   simp at hi;rw[List.eraseIdx_cons_succ];exact((ih hi).cons x).trans (List.Perm.swap r x _)
theorem Mem.front(h:Mem S w0 w L)(i:Nat){r:bx}(hi:L[i]?=some r):Mem S w0 w (r::L.eraseIdx i):=h.perm (It hi)
end
end Go.Mor
namespace Go.Mor
open Go.RowKit
theorem iK{P:Program}{c:Code}{K:Act→World→Prop}{Q:Exit→Act→World→Prop}{a:Act}{w:World}{k k':Nat}{N:FN}{env:Env}{d:Option Nat}{ty:Nat}{g:Option (Nat×Bool)}{op:BinOp}{t t':TypeId}{x y:Operand}(hk:ay c k=some (d,.binOp op t x y t',ty,g))(hF:Fr a N env)(hg:bt c g env=some true)(hd:gq d N=true)(jN:k+1=k'){kd kd':IntKind}{i j:Int}{z:Value}(hx:ev env x=some (.int kd i))(hy:ev env y=some (.int kd' j))(hb:∀w,(binOp op t (.int kd i) (.int kd' j)).run P w= .ok z w)(h:∀a',a'=a.put d z→Fr a' N (cO env d z)→aV P c K Q k' a' w):aV P c K Q k a w:=by
 refine eD hk hF hg hd jN (fun o ho=> ?_) h;unfold execOp;rw[ho];have he:(eqGuard op t x y (.int kd i) (.int kd' j)).run P w= .ok () w:=by cases op<;>simp[eqGuard]
 simp only[hF.ev hx,hF.ev hy,cT,he,dz,hb];rfl
section
variable {P : Program} {t : TypeId}
theorem VV{i:Int}(m:Int)(h0:0≤i)(h1:i≤9223372036854775807)(hm:0<m)(w:World):(binOp .quo t (vI i) (vI m)).run P w= .ok (vI (i / m)) w:=by
 have dN:m≠0:=oM;have hle:i / m≤i:=Int.ediv_le_self _ h0;have h2:0≤i / m:=Int.ediv_nonneg h0 oM;have hw:IntKind.i64.wrap (i.tdiv m)=i / m:=by rw[Int.tdiv_eq_ediv_of_nonneg h0];exact yI _ ⟨oM,oM⟩
 simp[binOp,Op.intDiv,dN,hw]
theorem VW{i:Int}(m:Int)(h0:0≤i)(hm:0<m)(w:World):(binOp .rem t (vI i) (vI m)).run P w= .ok (vI (i % m)) w:=by
 have dN:m≠0:=oM;simp[binOp,Op.intDiv,dN,Int.tmod_eq_emod_of_nonneg h0]
theorem yU{i:Nat}(m:Nat)(h1:i≤9223372036854775807)(hm:0<m)(w:World):(binOp .quo t (vI (i:Int)) (vI (m:Int))).run P w= .ok (vI ((i / m:Nat):Int)) w:=VV (i:=(i:Int)) (m:Int) oM oM oM w
theorem FJ{i:Nat}(m:Nat)(hm:0<m)(w:World):(binOp .rem t (vI (i:Int)) (vI (m:Int))).run P w= .ok (vI ((i % m:Nat):Int)) w:=VW (i:=(i:Int)) (m:Int) oM oM w
theorem sQ{r:Nat}(h:r<64):(2:Nat)^r<2^64:=Nat.pow_lt_pow_right dQ h
theorem wrap_u64{q:Nat}(h:q<2^64):IntKind.u64.wrap (q:Int)=(q:Int):=IntWalk.u64_in _ ⟨oM,oM⟩
theorem VX{r:Nat}(h:r<64)(w:World):(binOp .shl t (.int .u64 1) (vI (r:Int))).run P w= .ok (.int .u64 ((2^r:Nat):Int)) w:=by
 have h1:¬((r:Int)<0):=oM;have Iu:min (r:Int).toNat IntKind.u64.bits=r:=by simp[IntKind.bits];omega
 have hw:IntKind.u64.wrap (1*2^r:Int)=((2^r:Nat):Int):=by have e:(1*2^r:Int)=((2^r:Nat):Int):=sI;rw[e];exact wrap_u64 (sQ h)
 show(Op.shift .shl .u64 1 .i64 (r:Int)).run P w=_;unfold Op.shift;rw[aB h1];simp only[Iu,hw,jO]
theorem Qbu{x y:Nat}(hx:x<2^64)(hy:y<2^64)(w:World):(binOp .or t (.int .u64 (x:Int)) (.int .u64 (y:Int))).run P w= .ok (.int .u64 ((x|||y:Nat):Int)) w:=by
 have h3:x|||y<2^64:=Nat.or_lt_two_pow hx hy;have hw:IntKind.u64.wrap ((x|||y:Nat):Int)=((x|||y:Nat):Int):=IntWalk.u64_in _ ⟨oM,oM⟩;have hb:(BitVec.ofInt IntKind.u64.bits (x:Int)|||BitVec.ofInt IntKind.u64.bits (y:Int)).toNat=x|||y:=by
  have e1:BitVec.ofInt IntKind.u64.bits (x:Int)=BitVec.ofNat 64 x:=by apply yV;simp[IntKind.bits]
  have e2:BitVec.ofInt IntKind.u64.bits (y:Int)=BitVec.ofNat 64 y:=by apply yV;simp[IntKind.bits]
  rw[e1,e2];show(BitVec.ofNat 64 x|||BitVec.ofNat 64 y).toNat=_;rw[BitVec.toNat_or,DB,DB,DD hx,DD hy]
 show(Op.intBits .or .u64 (x:Int) (y:Int)).run P w=_;simp only[Op.intBits,jO,hb,hw]
theorem VY{x y:Nat}(hx:x<2^64)(hy:y<2^64)(w:World):(binOp .and t (.int .u64 (x:Int)) (.int .u64 (y:Int))).run P w= .ok (.int .u64 ((x&&&y:Nat):Int)) w:=by
 have h3:x&&&y<2^64:=Nat.lt_of_le_of_lt Nat.and_le_left hx;have hw:IntKind.u64.wrap ((x&&&y:Nat):Int)=((x&&&y:Nat):Int):=IntWalk.u64_in _ ⟨oM,oM⟩;have hb:(BitVec.ofInt IntKind.u64.bits (x:Int)&&&BitVec.ofInt IntKind.u64.bits (y:Int)).toNat=x&&&y:=by
  have e1:BitVec.ofInt IntKind.u64.bits (x:Int)=BitVec.ofNat 64 x:=by apply yV;simp[IntKind.bits]
  have e2:BitVec.ofInt IntKind.u64.bits (y:Int)=BitVec.ofNat 64 y:=by apply yV;simp[IntKind.bits]
  rw[e1,e2];show(BitVec.ofNat 64 x&&&BitVec.ofNat 64 y).toNat=_;rw[BitVec.toNat_and,DB,DB,DD hx,DD hy]
 show(Op.intBits .and .u64 (x:Int) (y:Int)).run P w=_;simp only[Op.intBits,jO,hb,hw]
theorem Qg{x:Nat}(hx:x<2^64)(w:World):(binOp .and t (.int .u64 (x:Int)) (.int .u64 1)).run P w= .ok (.int .u64 ((x&&&1:Nat):Int)) w:=VY (y:=1) hx dQ w
theorem VZ{x r:Nat}(h:r<64)(w:World):(binOp .shr t (.int .u64 (x:Int)) (vI (r:Int))).run P w= .ok (.int .u64 ((x / 2^r:Nat):Int)) w:=by
 have h1:¬((r:Int)<0):=oM;have Iu:min (r:Int).toNat IntKind.u64.bits=r:=by simp[IntKind.bits];omega
 have e:(x:Int).fdiv (2^r)=((x / 2^r:Nat):Int):=by have e2:(2^r:Int)=((2^r:Nat):Int):=sI;rw[e2,Int.fdiv_eq_ediv_of_nonneg _ (yW _)];rfl
 show(Op.shift .shr .u64 (x:Int) .i64 (r:Int)).run P w=_;unfold Op.shift;rw[aB h1];simp only[Iu,e,jO]
end
def mI(ws:List Nat):aO:=ws.map (fun x:Nat=>Value.int .u64 (x:Int))
def tb(ws:List Nat)(i:Nat):Bool:=(ws.getD (i / 64) 0).testBit (i % 64)
def yX(ws:List Nat)(i:Nat):List Nat:=ws.set (i / 64) (ws.getD (i / 64) 0|||2^(i % 64))
theorem FK{ws:List Nat}{i:Nat}(h:i<ws.length):(mI ws)[i]?=some (.int .u64 ((ws.getD i 0:Nat):Int)):=by
 simp[mI,List.getD,h]
theorem Qh(ws:List Nat)(i x:Nat):mI (ws.set i x)=(mI ws).set i (.int .u64 (x:Int)):=by simp[mI,po]
theorem Qi(ws:List Nat):(mI ws).length=ws.length:=by simp[mI]
theorem Qbv{ws:List Nat}{i:Nat}(hi:i / 64<ws.length)(j:Nat):tb (yX ws i) j=(decide (i=j)||tb ws j):=by
 unfold tb yX;by_cases h:i / 64=j / 64
 ·have e:(ws.set (i / 64) (ws.getD (i / 64) 0|||2^(i % 64))).getD (j / 64) 0=(ws.getD (i / 64) 0|||2^(i % 64)):=by rw[←h];simp[List.getD,hi]
  rw[e,Nat.testBit_or,Nat.testBit_two_pow,←h];have e2:(i % 64=j % 64)↔i=j:=oM;simp only[e2];rw[Bool.or_comm]
 ·have e:(ws.set (i / 64) (ws.getD (i / 64) 0|||2^(i % 64))).getD (j / 64) 0=ws.getD (j / 64) 0:=by simp[List.getD,List.getElem?_set_ne h]
  rw[e];have:¬i=j:=fun e=>h (by rw[e])
  simp[this]
theorem V0(k j:Nat):tb (List.replicate k 0) j=false:=by
 unfold tb;have:(List.replicate k 0).getD (j / 64) 0=0:=by
  by_cases h:j / 64<k
  ·simp[List.getD,h]
  ·simp[List.getD,h]
 rw[this,Nat.zero_testBit]
theorem Qbw(x r:Nat):(((x / 2^r&&&1:Nat):Int)==1)=x.testBit r:=by
 rw[Nat.testBit,Nat.shiftRight_eq_div_pow,Nat.and_comm 1];rcases Nat.mod_two_eq_zero_or_one (x / 2^r)with h|h
 ·rw[Nat.and_one_is_mod,h];rfl
 ·rw[Nat.and_one_is_mod,h];rfl
def Fit(ws:List Nat):Prop:=∀x,x∈ws→x<2^64
theorem Fit.get{ws:List Nat}(h:Fit ws)(i:Nat):ws.getD i 0<2^64:=by
 unfold List.getD;cases hx:ws[i]? with
 |none=>simp
 |some x=>exact h x (bu hx)
theorem Fit.put{ws:List Nat}(h:Fit ws)(i:Nat):Fit (yX ws i):=by
 intro x hx;unfold yX at hx;rcases Iv hx with h1|h1
 ·exact h x h1
 ·subst h1;exact Nat.or_lt_two_pow (h.get _) (sQ (vh _ dQ))
theorem Fit.zero(k:Nat):Fit (List.replicate k 0):=by
 intro x hx;rw[Dy hx];decide
end Go.Mor
namespace Go.Mor
open Go.RowKit
structure fy where
 A:ao
 n:Nat
 c:Nat
 xs:aO
def k8:fy:=⟨none,0,0,[]⟩
def fy.res(e:Nat)(r:fy):bx:= .row e 1 r.A r.n r.c r.xs
def hH(rows:List fy):aO:=rows.map (fun r=>Value.slice r.A r.n r.c)
def bx.iQ(e:Nat)(rows:List fy):bx where
 fp:=fun g=>∃r,r∈rows∧(r.res e).fp g
 holds w:=(∀r,r∈rows→(r.res e).holds w)∧rows.Pairwise (fun(r s:fy)=>∀g:Nat,(r.res e).fp g→¬(s.res e).fp g)
 gZ h hw:=⟨fun r hr=>(r.res e).gZ (fun g hg=>h g ⟨r,hr,hg⟩) (hw.1 r hr),hw.2⟩
 lt:=by
  rintro w g hw ⟨r,hr,hg⟩
  exact(r.res e).lt (hw.1 r hr) hg
theorem vi{e:Nat}{g:Nat}:¬(k8.res e).fp g:=by
 rintro⟨a,ha,_⟩;cases ha
theorem Cb(e:Nat)(w:World):(k8.res e).holds w:=KE w e 1
theorem V1{w:World}{e:Nat}{rows:List fy}(h:(bx.iQ e rows).holds w){t:Nat}{r:fy}(ht:rows[t]?=some r):(bx.row e 1 r.A r.n r.c r.xs).holds w:=h.1 r (bu ht)
theorem j5{rows:List fy}{t:Nat}{r:fy}(ht:rows[t]?=some r):(hH rows)[t]?=some (vS r.A r.n r.c):=by simp[hH,ht]
theorem V2(rows:List fy):(hH rows).length=rows.length:=by simp[hH]
theorem KM(rows:List fy)(t:Nat)(r:fy):hH (rows.set t r)=(hH rows).set t (vS r.A r.n r.c):=by simp[hH,po]
theorem yY(rows:List fy)(r:fy):hH (rows++[r])=hH rows++[.slice r.A r.n r.c]:=by simp[hH]
theorem Mem.Iw(w:World)(e n:Nat):Mem aX w w [.iQ e (List.replicate n k8)]:=by
 refine⟨rfl,rfl,rfl,cB _,fun _ _ _=>rfl,?_,jM _ _⟩;simp only[cI];rintro _ rfl;refine⟨⟨fun r hr=>by rw[Dy hr];exact Cb e w,?_⟩,fun g hg=> ?_⟩
 ·rw[List.pairwise_replicate];exact .inr (fun g hg=>(vi hg).elim)
 ·obtain⟨r,hr,hg⟩:=hg;rw[Dy hr]at hg;exact(vi hg).elim
section
variable {S : Nat → Prop} {w0 w : World} {L : List bx}
theorem Mem.focus{e:Nat}{rows:List fy}(h:Mem S w0 w (.iQ e rows::L))(t:Nat){r:fy}(ht:rows[t]?=some r):Mem S w0 w (.iQ e (rows.set t k8):: .row e 1 r.A r.n r.c r.xs::L):=by
 have hp:=ln.1 h.apart;have hf:=h.own _ (cJ ..);obtain⟨⟨hh,V3⟩,hS⟩:=hf;have hr:r∈rows:=bu ht;have xx:∀s,s∈rows.set t k8→s=k8∨∃j,j≠t∧rows[j]?=some s:=by
  intro s hs;obtain⟨j,hj⟩:=dv.1 hs;by_cases e1:t=j
  ·subst e1;have fM:=(List.getElem?_eq_some_iff.1 ht).1;rw[List.getElem?_set_self fM]at hj;injection hj with hj;exact .inl hj.symm
  ·rw[List.getElem?_set_ne e1]at hj;exact .inr ⟨j,fun h=>e1 h.symm,hj⟩
 have sym:∀x y:fy,(∀g,(x.res e).fp g→¬(y.res e).fp g)→∀g,(y.res e).fp g→¬(x.res e).fp g:=fun x y h g hy hx=>h g hx hy
 refine⟨h.os,h.tape,h.output,h.size,h.kept,?_,?_⟩
 ·intro q hq;rcases db.1 hq with rfl|hq
  ·refine⟨⟨fun s hs=> ?_,?_⟩,fun g hg=> ?_⟩
   ·rcases xx s hs with rfl|⟨j,_,hj⟩
    ·exact Cb e w
    ·exact hh s (bu hj)
   ·rw[qx];intro i j hi hj Z1 g hg o7;have gi:(rows.set t k8)[i]?=some (rows.set t k8)[i]:=List.getElem?_eq_getElem hi;have gj:(rows.set t k8)[j]?=some (rows.set t k8)[j]:=List.getElem?_eq_getElem hj;generalize (rows.set t k8)[i]=x at*;generalize (rows.set t k8)[j]=y at*;have fM:=(List.getElem?_eq_some_iff.1 ht).1;by_cases e1:t=i
    ·subst e1;rw[List.getElem?_set_self fM]at gi;injection gi with gi;subst gi;exact vi hg
    ·by_cases e2:t=j
     ·subst e2;rw[List.getElem?_set_self fM]at gj;injection gj with gj;subst gj;exact vi o7
     ·rw[List.getElem?_set_ne e1]at gi;rw[List.getElem?_set_ne e2]at gj;exact qw sym V3 gi gj oM g hg o7
   ·obtain⟨s,hs,hg⟩:=hg;rcases xx s hs with rfl|⟨j,_,hj⟩
    ·exact(vi hg).elim
    ·exact hS g ⟨s,bu hj,hg⟩
  ·rcases db.1 hq with rfl|hq
   ·exact⟨hh r hr,fun g hg=>hS g ⟨r,hr,hg⟩⟩
   ·exact h.own q (bT _ hq)
 ·refine ln.2 ⟨?_,ln.2 ⟨?_,hp.2⟩⟩
  ·rintro q hq g ⟨s,hs,hg⟩ o7;rcases xx s hs with rfl|⟨j,hj,hs⟩
   ·exact vi hg
   ·rcases db.1 hq with rfl|hq
    ·exact qw sym V3 hs ht hj g hg o7
    ·exact hp.1 q hq g ⟨s,bu hs,hg⟩ o7
  ·intro q hq g hg o7;exact hp.1 q hq g ⟨r,hr,hg⟩ o7
theorem Mem.KN{e n c:Nat}{A:ao}{xs:aO}{rows:List fy}(h:Mem S w0 w (.iQ e rows:: .row e 1 A n c xs::L))(t:Nat)(ht:rows[t]?=some k8):Mem S w0 w (.iQ e (rows.set t ⟨A,n,c,xs⟩)::L):=by
 have hp:=ln.1 h.apart;have hq:=ln.1 hp.2;obtain⟨⟨hh,V3⟩,hS⟩:=h.own _ (cJ ..);have hr:=h.own _ (bT _ (cJ ..));have fM:=(List.getElem?_eq_some_iff.1 ht).1;have ZZ:∀s,s∈rows→∀g,(s.res e).fp g→¬(bx.row e 1 A n c xs).fp g:=fun s hs g hg=>hp.1 _ (cJ ..) g ⟨s,hs,hg⟩
 have xx:∀s,s∈rows.set t ⟨A,n,c,xs⟩→s=⟨A,n,c,xs⟩∨s∈rows:=by intro s hs;exact(Iv hs).symm
 have sym:∀x y:fy,(∀g,(x.res e).fp g→¬(y.res e).fp g)→∀g,(y.res e).fp g→¬(x.res e).fp g:=fun x y h g hy hx=>h g hx hy
 refine⟨h.os,h.tape,h.output,h.size,h.kept,?_,ln.2 ⟨?_,hq.2⟩⟩
 ·intro q MA;rcases db.1 MA with rfl|MA
  ·refine⟨⟨fun s hs=> ?_,?_⟩,fun g hg=> ?_⟩
   ·rcases xx s hs with rfl|hs
    ·exact hr.1
    ·exact hh s hs
   ·rw[qx];intro i j hi hj Z1 g hg o7;have gi:(rows.set t ⟨A,n,c,xs⟩)[i]?=some (rows.set t ⟨A,n,c,xs⟩)[i]:=List.getElem?_eq_getElem hi;have gj:(rows.set t ⟨A,n,c,xs⟩)[j]?=some (rows.set t ⟨A,n,c,xs⟩)[j]:=List.getElem?_eq_getElem hj;generalize (rows.set t ⟨A,n,c,xs⟩)[i]=x at*;generalize (rows.set t ⟨A,n,c,xs⟩)[j]=y at*;by_cases e1:t=i
    ·subst e1;rw[List.getElem?_set_self fM]at gi;injection gi with gi;subst gi;rw[List.getElem?_set_ne oM]at gj;exact ZZ y (bu gj) g o7 hg
    ·rw[List.getElem?_set_ne e1]at gi;by_cases e2:t=j
     ·subst e2;rw[List.getElem?_set_self fM]at gj;injection gj with gj;subst gj;exact ZZ x (bu gi) g hg o7
     ·rw[List.getElem?_set_ne e2]at gj;exact qw sym V3 gi gj oM g hg o7
   ·obtain⟨s,hs,hg⟩:=hg;rcases xx s hs with rfl|hs
    ·exact hr.2 g hg
    ·exact hS g ⟨s,hs,hg⟩
  ·exact h.own q (bT _ (bT _ MA))
 ·rintro q MA g ⟨s,hs,hg⟩ o7;rcases xx s hs with rfl|hs
  ·exact hq.1 q MA g hg o7
  ·exact hp.1 q (bT _ MA) g ⟨s,hs,hg⟩ o7
theorem Mem.push{e n c:Nat}{A:ao}{xs:aO}{rows:List fy}(h:Mem S w0 w (.iQ e rows:: .row e 1 A n c xs::L)):Mem S w0 w (.iQ e (rows++[⟨A,n,c,xs⟩])::L):=by
 have hp:=ln.1 h.apart;have hq:=ln.1 hp.2;obtain⟨⟨hh,V3⟩,hS⟩:=h.own _ (cJ ..);have hr:=h.own _ (bT _ (cJ ..));refine⟨h.os,h.tape,h.output,h.size,h.kept,?_,ln.2 ⟨?_,hq.2⟩⟩
 ·intro q MA;rcases db.1 MA with rfl|MA
  ·refine⟨⟨fun s hs=> ?_,?_⟩,fun g hg=> ?_⟩
   ·rcases bX.1 hs with hs|hs
    ·exact hh s hs
    ·simp only[cI]at hs;subst hs;exact hr.1
   ·refine sH.2 ⟨V3,jM _ _,fun s hs s' hs' g hg o7=> ?_⟩;simp only[cI]at hs';subst hs';exact hp.1 _ (cJ ..) g ⟨s,hs,hg⟩ o7
   ·obtain⟨s,hs,hg⟩:=hg;rcases bX.1 hs with hs|hs
    ·exact hS g ⟨s,hs,hg⟩
    ·simp only[cI]at hs;subst hs;exact hr.2 g hg
  ·exact h.own q (bT _ (bT _ MA))
 ·rintro q MA g ⟨s,hs,hg⟩ o7;rcases bX.1 hs with hs|hs
  ·exact hp.1 q (bT _ MA) g ⟨s,hs,hg⟩ o7
  ·simp only[cI]at hs;subst hs;exact hq.1 q MA g hg o7
end
end Go.Mor
namespace Go.Mor
open Go.RowKit
theorem y0{P:Program}{c:Code}{K:Act→World→Prop}{Q:Exit→Act→World→Prop}{a:Act}{w:World}{k k':Nat}{N:FN}{env:Env}{d:Option Nat}{ty:Nat}{g:Option (Nat×Bool)}{ts:Array TypeId}{x y:Operand}(hk:ay c k=some (d,.call {callee:= .builtin .min,args:=#[x,y],argTypes:=ts},ty,g))(hF:Fr a N env)(hg:bt c g env=some true)(hd:gq d N=true)(jN:k+1=k'){kd:IntKind}{i j:Int}(hx:ev env x=some (.int kd i))(hy:ev env y=some (.int kd j))(z:Int)(hz:z=if j<i then j else i)(h:∀a',a'=a.put d (.int kd z)→Fr a' N (cO env d (.int kd z))→aV P c K Q k' a' w):aV P c K Q k a w:=by
 refine eD hk hF hg hd jN (fun o ho=> ?_) h;unfold execOp;rw[ho];simp only[resolve,invoke,builtin,cT,jO,dz,qB,ga,kc,hF.ev hx,hF.ev hy,Builtin.min_,List.foldlM];subst hz;simp[Builtin.min2];try (split<;>simp_all<;>omega)
theorem V4{w:World}{ad:Addr}{xs:aO}(h:(bx.rd (some ad) xs).holds w)(m:Nat):(bx.rd (some (ad.add (m*1))) (xs.drop m)).holds w:=by
 intro i v hi;rw[List.getElem?_drop]at hi;obtain⟨a',ha,hc⟩:=h (m+i) v hi;injection ha with ha;subst ha;refine⟨_,rfl,?_⟩;rw[add_add,eE];exact hc
end Go.Mor
namespace Go.Mor
open Go.RowKit
theorem Bn{fn:Func}{t:Tmp}{ty:TypeId}(h:fn.results=#[.cell t ty])(tmps:Array Value)(P:Program)(w:World){ad:Addr}{vs:aO}(hp:tmps.getD t undef= .pointer (some ad))(ht:yH P ty=some vs.length)(hc:∀(j:Nat) (v:Value),vs[j]?=some v→w.cell? (ad.add j)=some v):(results fn tmps).run P w= .ok (.agg vs.toArray) w:=by
 obtain⟨h1,h2⟩:=oN ht w;have e:tmps[t]?.getD undef= .pointer (some ad):=by simpa using hp
 have ha:(asAddr (vP ad)).run P w= .ok ad w:=rfl;have hl:(loadVar ty ad).run P w= .ok (.agg vs.toArray) w:=by simp[loadVar,h1,h2,run_loadCells_list (P:=P) w ad vs hc]
 simp only[results,h];simp[cT,Result.andThen,e,ha,hl]
theorem FM{P:Program}{fn:Func}{R:Ending→World→Prop}{a:Act}{w:World}{N:FN}{env:Env}{t:Tmp}{ty:TypeId}{ad:Addr}{vs:aO}(hF:Fr a N env)(hr:fn.results=#[.cell t ty])(hv:look env t=some (vP ad))(ht:yH P ty=some vs.length)(hc:∀(j:Nat) (v:Value),vs[j]?=some v→w.cell? (ad.add j)=some v)(h:R (.returned (.agg vs.toArray)) w)(hD:N.D=[]:=by rfl):bodyPost P fn R .ret a w:=by
 refine bodyPost_ret (v:= .agg vs.toArray) ?_ (hF.defers.trans hD) h;refine Bn hr _ _ _ ?_ ht hc;have:=hF.ev (x:= .tmp t) hv;simpa only[Act.eval]using this
end Go.Mor
