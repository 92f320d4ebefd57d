/-
  Texts of the proof, part 4.
-/
import Derived.Test.YtejbeeaomokjpaaGreatZn3
import Derived.Orders
set_option maxRecDepth 10000
namespace Go.Mor
open Go.RowKit
abbrev Kp(w w':World):Prop:=Mem bq w w' []
theorem Kp.refl(w:World):Kp w w:=Mem.init w
theorem Kp.trans{a b c:World}(h:Kp a b)(h':Kp b c):Kp a c:=by simpa using h.call h'
theorem Mem.kp{w w':World}{L:List bx}(h:Mem bq w w' L):Kp w w':=⟨h.os,h.tape,h.output,h.size,h.kept,sI,u6⟩
theorem Mem.aw{S:Nat→Prop}{w0 w w':World}{L:List bx}(h:Mem S w0 w L)(h':Kp w w'):Mem S w0 w' L:=by simpa using h.call h'
theorem Mem.cast{S:Nat→Prop}{w0 w:World}{L L':List bx}(h:Mem S w0 w L)(e:L=L'):Mem S w0 w L':=e▸h
inductive Spec where
 |aU(v:Value)
 |any(Φ:Value→World→Prop)(h:∀v w w',Kp w w'→Φ v w→Φ v w')
def Spec.ok:Spec→Value→World→Prop
 | .aU u,v,_=>v=u
 | .any Φ _,v,w=>Φ v w
def Spec.val:Spec→Value→Value
 | .aU u,_=>u
 | .any _ _,v=>v
theorem Spec.xR{s:Spec}{v:Value}{w:World}(h:s.ok v w):s.val v=v:=by
 cases s with
 |aU u=>exact h.symm
 |any Φ _=>rfl
theorem Spec.gO(s:Spec)(v:Value)(w w':World)(hK:Kp w w')(h:s.ok v w):s.ok v w':=by
 cases s with
 |aU u=>exact h
 |any Φ hs=>exact hs v w w' hK h
def bo:List Spec→Nat→Spec
 |[],_=> .aU undef
 |s::_,0=>s
 |_::r,n+1=>bo r n
def bp(c:Code)(j:Nat):Option Nat:=((opsOf c)[j]?).bind (·.dst)
def cY(c:Code)(i:Nat):List Nat:=match(opsOf c)[i]? with
 |some o=>(o.after.toList.filter (fun e=>Region.binds .any e)).map (·.on)
 |none=>[]
def bR:List Nat→Nat→Bool
 |[],_=>false
 |x::r,t=>match Nat.beq x t with
  |true=>true
  |false=>bR r t
theorem iT{l:List Nat}{t:Nat}:bR l t=true↔t∈l:=by
 induction l with
 |nil=>simp[bR]
 |cons x r ih=>
  unfold bR;cases hq:Nat.beq x t with
  |true=>simp[Kb hq]
  |false=>
   have dt:¬t=x:=fun e=>by subst e;simp at hq
   simp[ih,dt]
def xT(c:Code)(i t:Nat):Nat→Bool
 |0=>true
 |j+1=>xT c i t j&&(match bp c j with
  |some d=>match Nat.beq d t with
   |true=>bR (cY c j) i
   |false=>true
  |none=>true)
def Qaj(c:Code)(i:Nat):Env→Env
 |[]=>[]
 |(t,v)::r=>match xT c i t (opsOf c).size with
  |true=>(t,v)::Qaj c i r
  |false=>Qaj c i r
def pU(c:Code)(sp:Nat→Spec)(vs:Nat→Value):List Nat→Env
 |[]=>[]
 |j::r=>match bp c j with
  |some d=>(d,(sp j).val (vs j))::pU c sp vs r
  |none=>pU c sp vs r
def bW(c:Code)(i:Nat)(sp:Nat→Spec)(vs:Nat→Value)(env0:Env):Env:=pU c sp vs (cY c i)++Qaj c i env0
def one(c:Code)(i:Nat):Code:=match(opsOf c)[i]? with
 |some o=> .region 0 #[{o with guard:=none}] false
 |none=> .skip
def jc(P:Program)(c:Code)(Q:Exit→Act→World→Prop)(N:FN)(env0:Env)(wr:World)(sp:Nat→Spec)(i:Nat):Prop:=∀(a:Act) (w:World) (vs:Nat→Value) (rest:Env),Kp wr w→(∀j,j∈cY c i→(sp j).ok (vs j) w)→Fr a N (bW c i sp vs env0++rest)→∃b,(∀g,(ax c i).map (·.2.2.2)=some g→bD c g (bW c i sp vs env0++rest)=some b)∧(b=true→bz P (one c i) (fun a' w'=>∃v,a'=a.put (bp c i) v∧Kp w w'∧(sp i).ok v w') Q 0 a w)∧(b=false→(sp i).ok undef w)
def kN(c:Code):Bool:=(List.range (opsOf c).size).all fun i=>(List.range i).all fun j=>match bp c i,bp c j with
 |some d,some e=> !(Nat.beq d e)
 |_,_=>true
theorem Kc{c:Code}(h:kN c=true){i j d:Nat}(hi:bp c i=some d)(hj:bp c j=some d):i=j:=by
 have lt:∀{k e},bp c k=some e→k<(opsOf c).size:=by
  intro k e hk;simp only[bp]at hk;cases ho:(opsOf c)[k]? with
  |none=>simp[ho]at hk
  |some o=>exact(Array.getElem?_eq_some_iff.1 ho).1
 have key:∀{i j d},bp c i=some d→bp c j=some d→j<i→False:=by intro i j d hi hj eV;simp only[kN,QoP,QoA]at h;have:=h i (lt hi) j eV;simp[hi,hj]at this
 rcases Qqf i j with h1|h1|h1
 ·exact(key hj hi h1).elim
 ·exact h1
 ·exact(key hi hj h1).elim
theorem ku{E F:Env}{t:Nat}{v:Value}(h:look (E++F) t=some v):look E t=some v∨look F t=some v:=by
 induction E with
 |nil=>exact .inr h
 |cons x r ih=>
  obtain⟨k,u⟩:=x;simp only[Qqg,look]at h⊢;cases hq:Nat.beq k t with
  |true=>rw[hq]at h;exact .inl h
  |false=>rw[hq]at h;exact ih h
theorem np{c:Code}{sp:Nat→Spec}{vs:Nat→Value}{l:List Nat}{t:Nat}{v:Value}(h:look (pU c sp vs l) t=some v):∃j,j∈l∧bp c j=some t∧v=(sp j).val (vs j):=by
 induction l with
 |nil=>simp[pU,look]at h
 |cons j r ih=>
  unfold pU at h;cases hd:bp c j with
  |none=>
   rw[hd]at h;obtain⟨j',h1,h2⟩:=ih h;exact⟨j',Qmq _ h1,h2⟩
  |some d=>
   rw[hd]at h;simp only[look]at h;cases hq:Nat.beq d t with
   |true=>
    rw[hq]at h;injection h with h;have:=Kb hq;subst this;exact⟨j,Qop ..,hd,h.symm⟩
   |false=>
    rw[hq]at h;obtain⟨j',h1,h2⟩:=ih h;exact⟨j',Qmq _ h1,h2⟩
theorem free_spec{c:Code}{i t:Nat}:∀{n:Nat},xT c i t n=true→∀j,j<n→bp c j=some t→i∈cY c j
 |0,_,j,hj,_=>absurd hj oM
 |n+1,h,j,hj,hd=>by
  simp only[xT,QlP]at h;by_cases e:j=n
  ·subst e;have h2:=h.2;rw[hd]at h2;simp at h2;exact iT.1 h2
  ·exact free_spec h.1 j oM hd
theorem qM{c:Code}{i:Nat}:∀{env:Env} {t:Nat} {v:Value},look (Qaj c i env) t=some v→(t,v)∈env∧∀j,bp c j=some t→i∈cY c j
 |[],t,v,h=>by simp[Qaj,look]at h
 |(k,u)::r,t,v,h=>by
  unfold Qaj at h;cases hf:xT c i k (opsOf c).size with
  |false=>
   rw[hf]at h;obtain⟨h1,h2⟩:=qM h;exact⟨Qmq _ h1,h2⟩
  |true=>
   rw[hf]at h;simp only[look]at h;cases hq:Nat.beq k t with
   |false=>
    rw[hq]at h;obtain⟨h1,h2⟩:=qM h;exact⟨Qmq _ h1,h2⟩
   |true=>
    rw[hq]at h;injection h with h;have:=Kb hq;subst this;subst h;refine⟨Qop ..,fun j hj=>free_spec hf j ?_ hj⟩;simp only[bp]at hj;cases ho:(opsOf c)[j]? with
    |none=>simp[ho]at hj
    |some o=>exact(Array.getElem?_eq_some_iff.1 ho).1
def pW:Env→Bool
 |[]=>true
 |(k,_)::r=> !(bR (r.map (·.1)) k)&&pW r
theorem qN:∀{env:Env},pW env=true→∀{t:Nat} {v:Value},(t,v)∈env→look env t=some v
 |[],_,t,v,h=>by simp at h
 |(k,u)::r,hk,t,v,h=>by
  simp only[pW,QlP,Qpt]at hk;simp only[look];rcases Qon.1 h with h|h
  ·injection h with h1 h2;subst h1;subst h2;simp
  ·cases hq:Nat.beq k t with
   |false=>exact qN hk.2 h
   |true=>
    have:=Kb hq;subst this;have hm:bR (r.map (·.1)) k=true:=iT.2 (Qhz.2 ⟨_,h,rfl⟩);rw[hm]at hk;cases hk.1
def tm(c:Code):Env→Env
 |[]=>[]
 |(t,v)::r=>match bR ((List.range (opsOf c).size).filterMap (bp c)) t with
  |true=>tm c r
  |false=>(t,v)::tm c r
theorem qO{c:Code}:∀{env:Env} {t:Nat} {v:Value},look (tm c env) t=some v→(t,v)∈env∧∀j,bp c j≠some t
 |[],t,v,h=>by simp[tm,look]at h
 |(k,u)::r,t,v,h=>by
  unfold tm at h;cases hm:bR ((List.range (opsOf c).size).filterMap (bp c)) k with
  |true=>
   rw[hm]at h;obtain⟨h1,h2⟩:=qO h;exact⟨Qmq _ h1,h2⟩
  |false=>
   rw[hm]at h;simp only[look]at h;cases hq:Nat.beq k t with
   |false=>
    rw[hq]at h;obtain⟨h1,h2⟩:=qO h;exact⟨Qmq _ h1,h2⟩
   |true=>
    rw[hq]at h;injection h with h;have:=Kb hq;subst this;subst h;refine⟨Qop ..,fun j hj=> ?_⟩;have eV:j<(opsOf c).size:=by
     simp only[bp]at hj;cases ho:(opsOf c)[j]? with
     |none=>simp[ho]at hj
     |some o=>exact(Array.getElem?_eq_some_iff.1 ho).1
    have:bR ((List.range (opsOf c).size).filterMap (bp c)) k=true:=iT.2 (List.mem_filterMap.2 ⟨j,QoA.2 eV,hj⟩);rw[this]at hm;cases hm
def fZ(c:Code):Bool:=(List.range (opsOf c).size).all fun i=>(cY c i).all fun j=>Nat.blt j i
section
variable {P : Program} {c : Code} {K : Act → World → Prop} {Q : Exit → Act → World → Prop} {N : FN} {env0 : Env} {wr : World} {sp : Nat → Spec}
def GD(c:Code)(N:FN)(env0:Env)(wr:World)(sp:Nat→Spec)(aG:Array Bool)(a:Act)(w:World):Prop:=Kp wr w∧a.defers=N.D∧a.tmps.size=N.n∧(∀j,aG.getD j false=true→∀i,i∈cY c j→aG.getD i false=true)∧(∃vs:Nat→Value,∀j,aG.getD j false=true→(sp j).ok (vs j) w∧∀d,bp c j=some d→a.tmps[d]?=some (vs j))∧(∀t v,(t,v)∈env0→(∀j,aG.getD j false=true→bp c j≠some t)→a.tmps[t]?=some v)
theorem tq{i:Nat}{o:Oper}(ho:(opsOf c)[i]?=some o):opsOf (one c i)=#[{o with guard:=none}]:=by
 unfold one;rw[ho];rfl
theorem fy{ops:Array Oper}{aG:Array Bool}{i:Nat}(h:i∈Region.ready .any ops aG):i<ops.size∧aG.getD i true=false∧∃o,ops[i]?=some o∧∀e,e∈o.after.toList→Region.binds .any e=true→aG.getD e.on false=true:=by
 simp only[Region.ready,Qov,QoA,QlP,Qpt]at h;obtain⟨h1,h2,h3⟩:=h;refine⟨h1,h2,?_⟩;cases ho:ops[i]? with
 |none=>simp[ho]at h3
 |some o=>
  refine⟨o,rfl,fun e he hb=> ?_⟩;simp only[ho,Fc,Qpf]at h3;have h4:=(Qqh.1 h3) e (Qqi.1 he);simpa[hb]using h4
theorem A8(hd:kN c=true)(rn:∀i d,bp c i=some d→d<N.n){i:Nat}(hi:jc P c Q N env0 wr sp i){aG:Array Bool}{a:Act}{w:World}(hn:aG.size=(opsOf c).size)(hr:i∈Region.ready .any (opsOf c) aG)(hk:GD c N env0 wr sp aG a w){G:Act→World→Prop}(hG:∀a' w',GD c N env0 wr sp (aG.setIfInBounds i true) a' w'→G a' w'):wpOp P (opsOf c) (Exit.then K Q) i G a w:=by
 obtain⟨eV,Kd,o,ho,HZ⟩:=fy hr;obtain⟨ZU,xU,jB,zR,⟨vs,xW⟩,pX⟩:=hk;have LU:aG.getD i false=false:=by have:i<aG.size:=oM;simp[Array.getD,this]at Kd⊢;exact Kd
 have kY:∀j,j∈cY c i→aG.getD j false=true:=by intro j hj;simp only[cY,ho,Qhz,Qov]at hj;obtain⟨e,⟨he,hb⟩,rfl⟩:=hj;exact HZ e he hb
 have LV:bp c i=o.dst:=by simp[bp,ho]
 have hF:Fr a N (bW c i sp vs env0++[]):=by
  refine⟨xU,jB,fun t v hv=> ?_⟩;rw[QoZ]at hv;rcases ku hv with h1|h1
  ·obtain⟨j,hj,r5,rfl⟩:=np h1;obtain⟨h2,h3⟩:=xW j (kY j hj);rw[Spec.xR h2];exact h3 t r5
  ·obtain⟨h2,h3⟩:=qM h1;refine pX t v h2 (fun j hj r5=> ?_);have:=zR j hj i (h3 j r5);rw[LU]at this;cases this
 obtain⟨b,hb,Qbq,PC⟩:=hi a w vs [] ZU (fun j hj=>(xW j (kY j hj)).1) hF;have PD:ax c i=some (o.dst,o.op,o.type,o.guard):=by simp[ax,ho]
 have hw:=th (c:=c) hF rfl (hb _ (by rw[PD];rfl));have next:∀v w',Kp w w'→(sp i).ok v w'→GD c N env0 wr sp (aG.setIfInBounds i true) (a.put o.dst v) w':=by
  intro v w' Qew hv;have tr:∀j,(aG.setIfInBounds i true).getD j false=true→j=i∨aG.getD j false=true:=by
   intro j hj;by_cases e:i=j
   ·exact .inl e.symm
   ·refine .inr ?_;simpa[Ka,Array.getElem?_setIfInBounds_ne e]using hj
  have PE:∀j,aG.getD j false=true→(aG.setIfInBounds i true).getD j false=true:=by
   intro j hj;by_cases e:i=j
   ·subst e;have:i<aG.size:=oM;simp[Ka,this]
   ·simpa[Ka,Array.getElem?_setIfInBounds_ne e]using hj
  refine⟨ZU.trans Qew,by cases PF:o.dst<;>simp[Act.put,xU],by cases PF:o.dst<;>simp[Act.put,jB],?_,⟨fun j=>if j=i then v else vs j,?_⟩,?_⟩
  ·intro j hj k hk;rcases tr j hj with rfl|h1
   ·exact PE k (kY k hk)
   ·exact PE k (zR j h1 k hk)
  ·intro j hj;rcases tr j hj with rfl|h1
   ·refine⟨by simpa using hv,fun d r5=> ?_⟩;rw[LV]at r5;simp only[r5,Act.put,Qpj];have:=rn j d (by rw[LV];exact r5);rw[Array.getElem?_setIfInBounds_self_of_lt oM]
   ·have dt:j≠i:=fun e=>by subst e;rw[LU]at h1;cases h1
    obtain⟨h2,h3⟩:=xW j h1;refine⟨by simpa[dt]using(sp j).gO _ _ _ Qew h2,fun d r5=> ?_⟩;simp only[dt,Qo0];cases PF:o.dst with
    |none=>exact h3 d r5
    |some d'=>
     simp only[Act.put];have:d'≠d:=fun e=>by subst e;exact dt (Kc hd r5 (by rw[LV];exact PF))
     rw[Array.getElem?_setIfInBounds_ne this];exact h3 d r5
  ·intro t u htu hj;have h1:=pX t u htu (fun j E1=>hj j (PE j E1));cases PF:o.dst with
   |none=>exact h1
   |some d'=>
    simp only[Act.put];have:d'≠t:=fun e=>by
     subst e;have l6:(aG.setIfInBounds i true).getD i false=true:=by have:i<aG.size:=oM;simp[Ka,this]
     exact hj i l6 (by rw[LV];exact PF)
    rw[Array.getElem?_setIfInBounds_ne this];exact h1
 unfold wpOp;rw[ho];simp only[];rw[hw];cases b with
 |false=>
  simp only[Qpp,Qo0];exact hG _ _ (next undef w (Kp.refl w) (PC rfl))
 |true=>
  simp only[Qpj];have h1:=Qbq rfl;unfold bz at h1;rw[tq ho]at h1;simp only[List.drop_zero]at h1;unfold wpList at h1;rw[Kt (by simp[Region.wanted])]at h1;rcases h1 with h1|⟨h1,h2⟩
  ·refine .inl ?_;have e1:∀(K':Act→World→Prop) (Q':Exit→Act→World→Prop),({o with guard:=none}:Oper).wp P a w K' Q'=o.wp P a w K' Q':=fun _ _=>rfl
   rw[e1]at h1;have:o.wp P a w (fun a' w'=>∃v,a'=a.put (bp c i) v∧Kp w w'∧(sp i).ok v w') (Exit.then (fun a' w'=>∃v,a'=a.put (bp c i) v∧Kp w w'∧(sp i).ok v w') Q):=h1;have h3:o.wp P a w (fun a' w'=>∃v,a'=a.put (bp c i) v∧Kp w w'∧(sp i).ok v w') (Exit.then K Q):=by
    unfold Oper.wp at this⊢;generalize (execOp a.eval o).run P w=r at*;cases r with
    |ok n w'=>
     cases n<;>simp only[Oper.upon]at this⊢<;>first
      |exact this
      |exact Calls.mono this (fun e w'' he=>by cases e<;>exact he)
    |halt x w'=>cases x<;>simp only[Oper.upon]at this⊢<;>exact this
   refine Oper.wp_mono ?_ h3;rintro a' w' ⟨v,rfl,hkv,hv⟩;rw[LV];exact hG _ _ (next v w' hkv hv)
  ·refine .inr ⟨?_,?_⟩
   ·exact h1
   ·obtain⟨a0,w0,h0⟩:=h2;exact⟨a0,w0,h0⟩
theorem PG(hd:kN c=true)(rn:∀i d,bp c i=some d→d<N.n)(kY:fZ c=true)(r6:∀i,i<(opsOf c).size→jc P c Q N env0 wr sp i)(C1:∀a w,(∀aG:Array Bool,(∀j,j<(opsOf c).size→aG.getD j false=true)→GD c N env0 wr sp aG a w→K a w)):∀(fuel:Nat) (aG:Array Bool) (a:Act) (w:World),aG.size=(opsOf c).size→((List.range (opsOf c).size).filter (fun j=> !aG.getD j false)).length≤fuel→GD c N env0 wr sp aG a w→wpAny P .any (opsOf c) (Exit.then K Q) fuel aG a w:=by
 have jZ:∀aG:Array Bool,aG.size=(opsOf c).size→Region.ready .any (opsOf c) aG=[]→∀j,j<(opsOf c).size→aG.getD j false=true:=by
  intro aG jB hr j;induction j using Nat.strongRecOn with
  |_ j ih=>
   intro hj;cases hq:aG.getD j false with
   |true=>rfl
   |false=>
    exfalso;have:j∈Region.ready .any (opsOf c) aG:=by
     simp only[Region.ready,Qov,QoA,QlP,Qpt];have Kf:j<aG.size:=oM;refine⟨hj,?_,?_⟩
     ·simp[Array.getD,Kf]at hq⊢;exact hq
     ·have ho:(opsOf c)[j]?=some (opsOf c)[j]:=by simp[hj]
      simp only[ho,Fc,Qpf];rw[Qqh];intro e he;cases hb:Region.binds .any e with
      |false=>rfl
      |true=>
       have pv:e.on∈cY c j:=by simp only[cY,ho,Qhz,Qov];exact⟨e,⟨Qqi.2 he,hb⟩,rfl⟩
       have eV:e.on<j:=by simp only[fZ,QoP,QoA]at kY;have:=kY j hj e.on pv;simpa[Ke]using this
       simp[ih e.on eV oM]
    rw[hr]at this;simp at this
 intro fuel;induction fuel with
 |zero=>
  intro aG a w jB hf hk;have cV:∀j,j<(opsOf c).size→aG.getD j false=true:=by
   intro j hj;cases hq:aG.getD j false with
   |true=>rfl
   |false=>
    have:j∈(List.range (opsOf c).size).filter (fun j=> !aG.getD j false):=Qov.2 ⟨QoA.2 hj,by rw[hq];rfl⟩;have:=QpU this;omega
  refine⟨?_,C1 a w aG cV hk⟩;cases hr:Region.ready .any (opsOf c) aG with
  |nil=>rfl
  |cons i r=>
   exfalso;have hi:i∈Region.ready .any (opsOf c) aG:=by rw[hr];simp
   obtain⟨h1,h2,_⟩:=fy hi;have:=cV i h1;have pQ:i<aG.size:=oM;simp[Array.getD,pQ]at h2 this;rw[h2]at this;cases this
 |succ fuel ih=>
  intro aG a w jB hf hk;refine⟨fun hr=>C1 a w aG (jZ aG jB hr) hk,fun i hi=> ?_⟩;obtain⟨h1,h2,_⟩:=fy hi;refine A8 hd rn (r6 i h1) jB hi hk (fun a' w' iO=> ?_);refine ih _ a' w' (by simpa using jB) ?_ iO;have pQ:i<aG.size:=oM;have hni:aG.getD i false=false:=by simp[Array.getD,pQ]at h2⊢;exact h2
  have eV:((List.range (opsOf c).size).filter (fun j=> !(aG.setIfInBounds i true).getD j false)).length<((List.range (opsOf c).size).filter (fun j=> !aG.getD j false)).length:=by
   have kv:((List.range (opsOf c).size).filter (fun j=> !(aG.setIfInBounds i true).getD j false))=((List.range (opsOf c).size).filter (fun j=> !aG.getD j false)).filter (fun j=> !(Nat.beq j i)):=by
    rw[Qp6];apply Qpu;intro j _;by_cases e:i=j
    ·subst e;simp[Ka,pQ]
    ·have hb:Nat.beq j i=false:=by
      cases hq:Nat.beq j i with
      |false=>rfl
      |true=>exact absurd (Kb hq).symm e
     simp[Ka,Array.getElem?_setIfInBounds_ne e,hb]
   rw[kv];have pv:i∈(List.range (opsOf c).size).filter (fun j=> !aG.getD j false):=Qov.2 ⟨QoA.2 h1,by rw[hni];rfl⟩;refine Qqj.2 ⟨i,pv,sI⟩
  omega
theorem Qbr(hk:kind c= .region true)(hm:P.follows .mixedOrders=true){a:Act}(sp:Nat→Spec)(hd:kN c=true)(kY:fZ c=true)(hF:Fr a N env0)(tt:pW env0=true)(rn:(List.range (opsOf c).size).all (fun i=>gp (bp c i) N)=true)(r6:∀i,i<(opsOf c).size→jc P c Q N env0 wr sp i)(h:∀a' w' (vs:Nat→Value),Kp wr w'→(∀j,j<(opsOf c).size→(sp j).ok (vs j) w')→Fr a' N (pU c sp vs (List.range (opsOf c).size)++tm c env0)→K a' w'):W P c K Q a wr:=by
 have PH:∀i d,bp c i=some d→d<N.n:=by
  intro i d hi;have eV:i<(opsOf c).size:=by
   simp only[bp]at hi;cases ho:(opsOf c)[i]? with
   |none=>simp[ho]at hi
   |some o=>exact(Array.getElem?_eq_some_iff.1 ho).1
  simp only[QoP,QoA]at rn;have:=rn i eV;rw[hi]at this;simpa[gp,Ke]using this
 cases c<;>simp[kind]at hk;rename_i id ops dr;subst hk;refine wp_region_any hm ?_;have h0:GD (.region id ops true) N env0 wr sp (Array.replicate ops.size false) a {wr with drawn:=wr.drawn+1}:=by
  refine⟨Mem.drew wr,hF.defers,hF.size,?_,⟨fun _=>undef,?_⟩,fun t v htv _=>hF.slot t v (qN tt htv)⟩
  ·intro j hj;simp[Ka,Array.getElem?_replicate]at hj;split at hj<;>simp at hj
  ·intro j hj;simp[Ka,Array.getElem?_replicate]at hj;split at hj<;>simp at hj
 refine PG (c:= .region id ops true) hd PH kY r6 ?_ ops.size _ a _ (by simp[opsOf]) ?_ h0
 ·intro a' w' aG cV hk;obtain⟨ZU,xU,jB,_,⟨vs,xW⟩,pX⟩:=hk;refine h a' w' vs ZU (fun j hj=>(xW j (cV j hj)).1) ⟨xU,jB,fun t v hv=> ?_⟩;rcases ku hv with h1|h1
  ·obtain⟨j,hj,r5,rfl⟩:=np h1;obtain⟨h2,h3⟩:=xW j (cV j (QoA.1 hj));rw[Spec.xR h2];exact h3 t r5
  ·obtain⟨h2,h3⟩:=qO h1;exact pX t v h2 (fun j _=>h3 j)
 ·refine QoJ (QoI _ _) ?_;simp[opsOf]
end
theorem E2{p:Nat→Prop}:∀i,i<0→p i:=fun i h=>absurd h oM
theorem E3{p:Nat→Prop}{n:Nat}(h:∀i,i<n→p i)(hn:p n):∀i,i<n+1→p i:=fun i hi=>by
 by_cases e:i=n
 ·subst e;exact hn
 ·exact h i oM
theorem r7{c:Code}{i:Nat}{E:Env}{b:Bool}{g0:Option (Nat×Bool)}(h0:(ax c i).map (·.2.2.2)=some g0)(h:bD c g0 E=some b):∀g,(ax c i).map (·.2.2.2)=some g→bD c g E=some b:=by
 intro g hg;rw[h0]at hg;injection hg with hg;subst hg;exact h
theorem xg{c:Code}{i:Nat}{d:Option Nat}{a a':Act}{w w':World}{v:Value}{s:Spec}(hd:bp c i=d)(ea:a'=a.put d v)(hK:Kp w w')(h:s.ok v w'):∃v,a'=a.put (bp c i) v∧Kp w w'∧s.ok v w':=⟨v,by rw[hd];exact ea,hK,h⟩
theorem LW{c:Code}{i j:Nat}(h:bR (cY c i) j=true):j∈cY c i:=iT.1 h
def Spec.sl(n:Nat)(xs:aP):Spec:= .any (fun v w=>∃A c,v=vS A n c∧(bx.rd A xs).holds w) (fun _ _ _ hK ⟨A,c,hv,h⟩=>⟨A,c,hv,(bx.rd A xs).gO (fun g hg=>hK.kept g ((bx.rd A xs).lt h hg) (fun h=>h)) h⟩)
theorem RO.of{w:World}{r:bx}(h:r.holds w):RO bq w r:=⟨h,fun _ _ h=>h⟩
abbrev eI(x:Int):Spec:= .aU (.int .i64 x)
abbrev eS(A:Option Addr)(n c:Nat):Spec:= .aU (.slice A n c)
abbrev eB(b:Bool):Spec:= .aU (.bool b)
abbrev eT(s:ByteArray):Spec:= .aU (.string s)
abbrev eP(a:Addr):Spec:= .aU (.pointer (some a))
abbrev eR(b o:Nat):Spec:= .aU (.pointer (some ⟨b,o,none⟩))
abbrev eA(a:Addr)(i:Int)(k:Nat):Spec:= .aU (.pointer (some (a.add (i.toNat*k))))
end Go.Mor
namespace Go.Mor
open Go.RowKit
theorem lC{e size n c:Nat}{ad:Addr}{P:Program}:∀(vs:aP) (off i:Nat) {xs:aP} {w:World},(∀v∈vs,v.oneCell'=true)→(bx.row e size (some ad) n c xs).holds w→off+i+vs.length≤xs.length→∃w',(storeCells (ad.add off) vs i).run P w= .ok () w'∧Mem (bx.row e size (some ad) n c xs).fp w w' [.row e size (some ad) n c (xs.take (off+i)++vs++xs.drop (off+i+vs.length))]
 |[],off,i,xs,w,_,hb,_=>⟨w,by simp[storeCells],by simpa using Mem.oY hb⟩
 |v::vs,off,i,xs,w,h1,hb,hl=>by
  simp only[QoE]at hl;have hm:=Mem.CX (j:=off+i) hb v;have AX:=hm.get 0 rfl;obtain⟨w',hr,Px⟩:=lC vs off (i+1) (fun u hu=>h1 u (Qmq _ hu)) AX (by simp;omega);refine⟨w',?_,?_⟩
  ·have eV:off+i<xs.length:=oM;obtain⟨a',nW,vU⟩:=aD hb (off+i) xs[off+i] (by simp[eV]);injection nW with nW;subst nW;have rZ:(store (ad.add (off+i)) v).run P w= .ok () (w.setCell (ad.add (off+i)) v):=by rw[run_store P w _ v .plain (h1 v (Qop ..)),vU];simp[oe hb]
   simp only[storeCells,Qor,add_add,rZ,QnS];simpa[add_add]using hr
  ·have Py:(xs.set (off+i) v).take (off+(i+1))++vs++(xs.set (off+i) v).drop (off+(i+1)+vs.length)=xs.take (off+i)++v::vs++xs.drop (off+i+(v::vs).length):=by rw[←QpG,Qow (by simp;omega),Qqc,Kt oM];simp[Qp4 (kQ _),QpG,Nat.add_comm 1]
   rw[Py]at Px;have:=hm.mod 0 rfl Px;simpa using this
theorem Ae(z:Value)(n:Nat):(Builtin.zeroCells #[z] n).toList=List.replicate n z:=by
 apply QoL;intro j;by_cases hj:j<n
 ·simp[Builtin.zeroCells,hj,Nat.mod_one]
 ·simp[Builtin.zeroCells,hj]
section
variable {P : Program} {c : Code} {K : Act → World → Prop} {Q : Exit → Act → World → Prop} {a : Act} {w w0 : World} {S : Nat → Prop} {L : List bx} {k k' : Nat} {N : FN} {env : Env}
variable {d : Option Nat} {ty : Nat} {g : Option (Nat × Bool)}
theorem H0{t:TypeId}{x:Operand}(hk:ax c k=some (d,.call {callee:= .builtin .clear,args:=#[x],argTypes:=#[t]},ty,g))(hF:Fr a N env)(hg:bD c g env=some true)(hd:gp d N=true)(iO:k+1=k'){e:Nat}{z:Value}(ht:P.underlying t=some (.slice e))(hi:(P.info? e).map (fun i=>(i.size,i.zero))=some (1,some z))(hz:z.oneCell'=true){ad:Addr}{off m cap' n cap:Nat}{xs:aP}(hx:ev env x=some (vS (some (ad.add off)) m cap'))(hM:Mem S w0 w L)(i:Nat)(hL:L[i]?=some (.row e 1 (some ad) n cap xs))(hm:off+m≤n)(h:∀w',Mem S w0 w' (L.set i (.row e 1 (some ad) n cap (xs.take off++List.replicate m z++xs.drop (off+m))))→True→∀a',a'=a.put d undef→Fr a' N (dq env d undef)→bz P c K Q k' a' w'):bz P c K Q k a w:=by
 subst iO;have rX:=hM.get i hL;have hlen:=xe rX;obtain⟨w',hr,H2⟩:=lC (P:=P) (List.replicate m z) off 0 (by intro v hv;rw[Qqk hv];exact hz) rX (by simp;omega);simp only[Nat.add_zero,Qp7]at H2;refine ib hk hF hg (v:=undef) (w':=w') (fun o ho hty=> ?_) (h w' (by simpa using hM.mod i hL H2) trivial _ rfl (hF.put hd _));unfold execOp;rw[ho];cases l6:P.info? e with
 |none=>simp[l6]at hi
 |some inf=>
  simp only[l6,Fc,Kr,Qaq]at hi;obtain⟨hs,E0⟩:=hi;have hz0:(zeroValue e).run P w= .ok z w:=by simp[zeroValue,typeInfo,l6,E0]
  simp only[resolve,invoke,builtin,Qor,Qo4,QnS,Qp5,QoK,Qps,hF.ev hx,Builtin.clear_];simp only[show(#[t]:Array TypeId)[0]?=some t from rfl,show(#[Value.slice (some (ad.add off)) m cap']:Array Value)[0]?=some (vS (some (ad.add off)) m cap')from rfl,Qor,QoH ht,QnS];cases m with
  |zero=>
   simp only[List.replicate_zero,storeCells,Qo4,Result.ok.injEq,QoO]at hr;subst hr;simp[undef]
  |succ m=>
   simp only[Qor,hz0,QnS,qL hz,Ae,hr];rfl
end
theorem Mem.lD{S:Nat→Prop}{w0 w:World}{L:List bx}{e size n cap:Nat}{A:ar}{xs:aP}(hM:Mem S w0 w L)(i:Nat)(hL:L[i]?=some (.row e size A n cap xs))(m:Nat)(hm:m≤n):Mem S w0 w (L.set i (.row e size A m cap (xs.take (m*size)))):=by
 refine hM.say i hL (fun h=> ?_) (fun g hg=>hg);have hlen:=xe h;rcases h.2 with⟨h1,h2⟩|⟨g,cap',cur,hv,hb,hg,Vs,ZT,oZ,ht⟩
 ·injection h1 with h1 h3 h4;have:m=0:=oM;subst h1;subst h4;subst this;refine⟨sI,.inl ⟨rfl,rfl⟩⟩
 ·injection hv with hv h2 h3;subst hv;subst h3;have C2:m*size≤n*size:=Nat.mul_le_mul_right _ hm;refine⟨by rw[QoT,hlen];omega,.inr ⟨g,cap,cur,rfl,hb,hg,oM,ZT,oZ,?_⟩⟩;rw[←ht,List.take_take];congr 1;omega
end Go.Mor
namespace Go.Mor
open Go.RowKit
def mO(ls:Nat→Bool)(i:Nat):Nat→Bool:=fun j=>match Nat.beq j i with
 |true=>true
 |false=>ls j
def r8(vs:Nat→Value)(i:Nat)(v:Value):Nat→Value:=fun j=>match Nat.beq j i with
 |true=>v
 |false=>vs j
def og(c:Code)(ls:Nat→Bool):Prop:=∀j,ls j=true→∀k,k∈cY c j→ls k=true
def reach(c:Code):Nat→Nat→Nat→Bool
 |0,_,_=>false
 |n+1,j,i=>bR (cY c j) i||(cY c j).any (fun k=>reach c n k i)
theorem PI{c:Code}{ls:Nat→Bool}(hc:og c ls){i:Nat}(hi:ls i=false):∀{n j:Nat},reach c n j i=true→ls j=false
 |0,j,h=>by simp[reach]at h
 |n+1,j,h=>by
  cases hq:ls j with
  |false=>rfl
  |true=>
   exfalso;simp only[reach,Qos,Qp8]at h;rcases h with h|⟨k,hk,h⟩
   ·rw[hc j hq i (iT.1 h)]at hi;cases hi
   ·have:=PI hc hi h;rw[hc j hq k hk]at this;cases this
theorem r9{c:Code}{ls:Nat→Bool}(hc:og c ls){i:Nat}(hp:∀k,k∈cY c i→ls k=true):∀{n j:Nat},reach c n i j=true→ls j=true:=by
 have key:∀{n i' j:Nat},ls i'=true→reach c n i' j=true→ls j=true:=by
  intro n;induction n with
  |zero=>intro i' j _ h;simp[reach]at h
  |succ n ih=>
   intro i' j hi h;simp only[reach,Qos,Qp8]at h;rcases h with h|⟨k,hk,h⟩
   ·exact hc i' hi j (iT.1 h)
   ·exact ih (hc i' hi k hk) h
 intro n j h;cases n with
 |zero=>simp[reach]at h
 |succ n=>
  simp only[reach,Qos,Qp8]at h;rcases h with h|⟨k,hk,h⟩
  ·exact hp j (iT.1 h)
  ·exact key (hp k hk) h
def rD(P:Program)(c:Code)(Q:Exit→Act→World→Prop)(N:FN)(env0:Env)(sp:Nat→Spec)(J:(Nat→Bool)→(Nat→Value)→World→Prop)(i:Nat):Prop:=∀(a:Act) (w:World) (ls:Nat→Bool) (vs:Nat→Value) (rest:Env),J ls vs w→ls i=false→og c ls→(∀j,j∈cY c i→ls j=true∧(sp j).ok (vs j) w)→Fr a N (bW c i sp vs env0++rest)→∃b,(∀g,(ax c i).map (·.2.2.2)=some g→bD c g (bW c i sp vs env0++rest)=some b)∧(b=true→bz P (one c i) (fun a' w'=>∃v,a'=a.put (bp c i) v∧(sp i).ok v w'∧J (mO ls i) (r8 vs i v) w') Q 0 a w)∧(b=false→(sp i).ok undef w∧J (mO ls i) (r8 vs i undef) w)
theorem jv{c:Code}{i:Nat}{E:Env}{g0:Option (Nat×Bool)}{X Y:Prop}(hx:X)(h0:(ax c i).map (·.2.2.2)=some g0:=by kernel_rfl)(h:bD c g0 E=some true:=by kernel_rfl):∃b,(∀g,(ax c i).map (·.2.2.2)=some g→bD c g E=some b)∧(b=true→X)∧(b=false→Y):=⟨true,r7 h0 h,fun _=>hx,fun h=>Bool.noConfusion h⟩
section
variable {P : Program} {c : Code} {K : Act → World → Prop} {Q : Exit → Act → World → Prop} {N : FN} {env0 : Env} {sp : Nat → Spec} {J : (Nat → Bool) → (Nat → Value) → World → Prop}
def uL(c:Code)(N:FN)(env0:Env)(sp:Nat→Spec)(J:(Nat→Bool)→(Nat→Value)→World→Prop)(aG:Array Bool)(a:Act)(w:World):Prop:=∃(ls:Nat→Bool) (vs:Nat→Value),(∀j,j<aG.size→ls j=aG.getD j false)∧(∀j,aG.size≤j→ls j=false)∧J ls vs w∧a.defers=N.D∧a.tmps.size=N.n∧og c ls∧(∀j,ls j=true→(sp j).ok (vs j) w∧∀d,bp c j=some d→a.tmps[d]?=some (vs j))∧(∀t v,(t,v)∈env0→(∀j,ls j=true→bp c j≠some t)→a.tmps[t]?=some v)
theorem H3(hd:kN c=true)(rn:∀i d,bp c i=some d→d<N.n)(H4:∀j v w w',(sp j).ok v w→(sp j).ok v w'){i:Nat}(hi:rD P c Q N env0 sp J i){aG:Array Bool}{a:Act}{w:World}(hn:aG.size=(opsOf c).size)(hr:i∈Region.ready .any (opsOf c) aG)(hk:uL c N env0 sp J aG a w){G:Act→World→Prop}(hG:∀a' w',uL c N env0 sp J (aG.setIfInBounds i true) a' w'→G a' w'):wpOp P (opsOf c) (Exit.then K Q) i G a w:=by
 obtain⟨eV,Kd,o,ho,HZ⟩:=fy hr;obtain⟨ls,vs,hls,Qex,hJ,xU,jB,zR,xW,pX⟩:=hk;have LU:ls i=false:=by rw[hls i oM];have:i<aG.size:=oM;simp[Array.getD,this]at Kd⊢;exact Kd
 have hlts:∀j,ls j=true→j<aG.size:=by
  intro j hj;rcases MW j aG.size with h|h
  ·exact h
  ·rw[Qex j h]at hj;cases hj
 have kY:∀j,j∈cY c i→ls j=true:=by
  intro j hj;simp only[cY,ho,Qhz,Qov]at hj;obtain⟨e,⟨he,hb⟩,rfl⟩:=hj;have h1:=HZ e he hb;have h2:e.on<aG.size:=by
   rcases MW e.on aG.size with h|h
   ·exact h
   ·have h3:¬(e.on<aG.size):=oM;simp[Array.getD,h3]at h1
  rw[hls _ h2];exact h1
 have LV:bp c i=o.dst:=by simp[bp,ho]
 have hF:Fr a N (bW c i sp vs env0++[]):=by
  refine⟨xU,jB,fun t v hv=> ?_⟩;rw[QoZ]at hv;rcases ku hv with h1|h1
  ·obtain⟨j,hj,r5,rfl⟩:=np h1;obtain⟨h2,h3⟩:=xW j (kY j hj);rw[Spec.xR h2];exact h3 t r5
  ·obtain⟨h2,h3⟩:=qM h1;refine pX t v h2 (fun j hj r5=> ?_);have:=zR j hj i (h3 j r5);rw[LU]at this;cases this
 obtain⟨b,hb,Qbq,PC⟩:=hi a w ls vs [] hJ LU zR (fun j hj=>⟨kY j hj,(xW j (kY j hj)).1⟩) hF;have PD:ax c i=some (o.dst,o.op,o.type,o.guard):=by simp[ax,ho]
 have hw:=th (c:=c) hF rfl (hb _ (by rw[PD];rfl));have zS:∀j,mO ls i j=true→j=i∨ls j=true:=by
  intro j hj;simp only[mO]at hj;cases hq:Nat.beq j i with
  |true=>exact .inl (Kb hq)
  |false=>rw[hq]at hj;exact .inr hj
 have Qbs:∀j,ls j=true→mO ls i j=true:=by intro j hj;simp only[mO];cases hq:Nat.beq j i<;>simp[hj]
 have Qey:mO ls i i=true:=by simp[mO]
 have hvi:r8 vs i=fun v j=>if j=i then v else vs j:=by
  funext v j;simp only[r8];cases hq:Nat.beq j i with
  |true=>simp[Kb hq]
  |false=>
   have:j≠i:=fun e=>by subst e;simp at hq
   simp[this]
 have next:∀v w',(sp i).ok v w'→J (mO ls i) (r8 vs i v) w'→uL c N env0 sp J (aG.setIfInBounds i true) (a.put o.dst v) w':=by
  intro v w' hv hJ';refine⟨mO ls i,r8 vs i v,?_,?_,hJ',by cases PF:o.dst<;>simp[Act.put,xU],by cases PF:o.dst<;>simp[Act.put,jB],?_,?_,?_⟩
  ·intro j hj;have E1:j<aG.size:=by simpa using hj
   by_cases e:i=j
   ·subst e;rw[Qey];simp[Ka,E1]
   ·have hb:Nat.beq j i=false:=by
     cases hq:Nat.beq j i with
     |false=>rfl
     |true=>exact absurd (Kb hq).symm e
    simp only[mO,hb];rw[hls j E1];simp[Ka,Array.getElem?_setIfInBounds_ne e]
  ·intro j hj;have E1:aG.size≤j:=by simpa using hj
   have hb:Nat.beq j i=false:=by
    cases hq:Nat.beq j i with
    |false=>rfl
    |true=>have:=Kb hq;omega
   simp only[mO,hb];exact Qex j E1
  ·intro j hj k hk;rcases zS j hj with rfl|h1
   ·exact Qbs k (kY k hk)
   ·exact Qbs k (zR j h1 k hk)
  ·intro j hj;rw[hvi];rcases zS j hj with rfl|h1
   ·refine⟨by simpa using hv,fun d r5=> ?_⟩;rw[LV]at r5;simp only[r5,Act.put,Qpj];have:=rn j d (by rw[LV];exact r5);rw[Array.getElem?_setIfInBounds_self_of_lt oM]
   ·have dt:j≠i:=fun e=>by subst e;rw[LU]at h1;cases h1
    obtain⟨h2,h3⟩:=xW j h1;refine⟨by simpa[dt]using H4 j _ _ _ h2,fun d r5=> ?_⟩;simp only[dt,Qo0];cases PF:o.dst with
    |none=>exact h3 d r5
    |some d'=>
     simp only[Act.put];have:d'≠d:=fun e=>by subst e;exact dt (Kc hd r5 (by rw[LV];exact PF))
     rw[Array.getElem?_setIfInBounds_ne this];exact h3 d r5
  ·intro t u htu hj;have h1:=pX t u htu (fun j E1=>hj j (Qbs j E1));cases PF:o.dst with
   |none=>exact h1
   |some d'=>
    simp only[Act.put];have:d'≠t:=fun e=>by subst e;exact hj i Qey (by rw[LV];exact PF)
    rw[Array.getElem?_setIfInBounds_ne this];exact h1
 unfold wpOp;rw[ho];simp only[];rw[hw];cases b with
 |false=>
  simp only[Qpp,Qo0];obtain⟨h1,h2⟩:=PC rfl;exact hG _ _ (next undef w h1 h2)
 |true=>
  simp only[Qpj];have h1:=Qbq rfl;unfold bz at h1;rw[tq ho]at h1;simp only[List.drop_zero]at h1;unfold wpList at h1;rw[Kt (by simp[Region.wanted])]at h1;rcases h1 with h1|⟨h1,h2⟩
  ·refine .inl ?_;have h3:o.wp P a w (fun a' w'=>∃v,a'=a.put (bp c i) v∧(sp i).ok v w'∧J (mO ls i) (r8 vs i v) w') (Exit.then K Q):=by
    have this:o.wp P a w (fun a' w'=>∃v,a'=a.put (bp c i) v∧(sp i).ok v w'∧J (mO ls i) (r8 vs i v) w') (Exit.then (fun a' w'=>∃v,a'=a.put (bp c i) v∧(sp i).ok v w'∧J (mO ls i) (r8 vs i v) w') Q):=h1;unfold Oper.wp at this⊢;generalize (execOp a.eval o).run P w=r at*;cases r with
    |ok n w'=>
     cases n<;>simp only[Oper.upon]at this⊢<;>first
      |exact this
      |exact Calls.mono this (fun e w'' he=>by cases e<;>exact he)
    |halt x w'=>cases x<;>simp only[Oper.upon]at this⊢<;>exact this
   refine Oper.wp_mono ?_ h3;rintro a' w' ⟨v,rfl,hv,hJv⟩;rw[LV];exact hG _ _ (next v w' hv hJv)
  ·refine .inr ⟨h1,?_⟩;obtain⟨a0,w0,h0⟩:=h2;exact⟨a0,w0,h0⟩
theorem LX(hd:kN c=true)(rn:∀i d,bp c i=some d→d<N.n)(H4:∀j v w w',(sp j).ok v w→(sp j).ok v w')(kY:fZ c=true)(r6:∀i,i<(opsOf c).size→rD P c Q N env0 sp J i)(C1:∀a w,(∀aG:Array Bool,aG.size=(opsOf c).size→(∀j,j<(opsOf c).size→aG.getD j false=true)→uL c N env0 sp J aG a w→K a w)):∀(fuel:Nat) (aG:Array Bool) (a:Act) (w:World),aG.size=(opsOf c).size→((List.range (opsOf c).size).filter (fun j=> !aG.getD j false)).length≤fuel→uL c N env0 sp J aG a w→wpAny P .any (opsOf c) (Exit.then K Q) fuel aG a w:=by
 have jZ:∀aG:Array Bool,aG.size=(opsOf c).size→Region.ready .any (opsOf c) aG=[]→∀j,j<(opsOf c).size→aG.getD j false=true:=by
  intro aG jB hr j;induction j using Nat.strongRecOn with
  |_ j ih=>
   intro hj;cases hq:aG.getD j false with
   |true=>rfl
   |false=>
    exfalso;have:j∈Region.ready .any (opsOf c) aG:=by
     simp only[Region.ready,Qov,QoA,QlP,Qpt];have Kf:j<aG.size:=oM;refine⟨hj,?_,?_⟩
     ·simp[Array.getD,Kf]at hq⊢;exact hq
     ·have ho:(opsOf c)[j]?=some (opsOf c)[j]:=by simp[hj]
      simp only[ho,Fc,Qpf];rw[Qqh];intro e he;cases hb:Region.binds .any e with
      |false=>rfl
      |true=>
       have pv:e.on∈cY c j:=by simp only[cY,ho,Qhz,Qov];exact⟨e,⟨Qqi.2 he,hb⟩,rfl⟩
       have eV:e.on<j:=by simp only[fZ,QoP,QoA]at kY;have:=kY j hj e.on pv;simpa[Ke]using this
       simp[ih e.on eV oM]
    rw[hr]at this;simp at this
 intro fuel;induction fuel with
 |zero=>
  intro aG a w jB hf hk;have cV:∀j,j<(opsOf c).size→aG.getD j false=true:=by
   intro j hj;cases hq:aG.getD j false with
   |true=>rfl
   |false=>
    have:j∈(List.range (opsOf c).size).filter (fun j=> !aG.getD j false):=Qov.2 ⟨QoA.2 hj,by rw[hq];rfl⟩;have:=QpU this;omega
  refine⟨?_,C1 a w aG jB cV hk⟩;cases hr:Region.ready .any (opsOf c) aG with
  |nil=>rfl
  |cons i r=>
   exfalso;have hi:i∈Region.ready .any (opsOf c) aG:=by rw[hr];simp
   obtain⟨h1,h2,_⟩:=fy hi;have:=cV i h1;have pQ:i<aG.size:=oM;simp[Array.getD,pQ]at h2 this;rw[h2]at this;cases this
 |succ fuel ih=>
  intro aG a w jB hf hk;refine⟨fun hr=>C1 a w aG jB (jZ aG jB hr) hk,fun i hi=> ?_⟩;obtain⟨h1,h2,_⟩:=fy hi;refine H3 hd rn H4 (r6 i h1) jB hi hk (fun a' w' iO=> ?_);refine ih _ a' w' (by simpa using jB) ?_ iO;have pQ:i<aG.size:=oM;have hni:aG.getD i false=false:=by simp[Array.getD,pQ]at h2⊢;exact h2
  have eV:((List.range (opsOf c).size).filter (fun j=> !(aG.setIfInBounds i true).getD j false)).length<((List.range (opsOf c).size).filter (fun j=> !aG.getD j false)).length:=by
   have kv:((List.range (opsOf c).size).filter (fun j=> !(aG.setIfInBounds i true).getD j false))=((List.range (opsOf c).size).filter (fun j=> !aG.getD j false)).filter (fun j=> !(Nat.beq j i)):=by
    rw[Qp6];apply Qpu;intro j _;by_cases e:i=j
    ·subst e;simp[Ka,pQ]
    ·have hb:Nat.beq j i=false:=by
      cases hq:Nat.beq j i with
      |false=>rfl
      |true=>exact absurd (Kb hq).symm e
     simp[Ka,Array.getElem?_setIfInBounds_ne e,hb]
   rw[kv];have pv:i∈(List.range (opsOf c).size).filter (fun j=> !aG.getD j false):=Qov.2 ⟨QoA.2 h1,by rw[hni];rfl⟩;refine Qqj.2 ⟨i,pv,sI⟩
  omega
theorem Vy(hk:kind c= .region true)(hm:P.follows .mixedOrders=true){a:Act}{wr:World}(sp:Nat→Spec)(J:(Nat→Bool)→(Nat→Value)→World→Prop)(hd:kN c=true)(kY:fZ c=true)(hF:Fr a N env0)(tt:pW env0=true)(rn:(List.range (opsOf c).size).all (fun i=>gp (bp c i) N)=true)(H4:∀j v w w',(sp j).ok v w→(sp j).ok v w')(h0:J (fun _=>false) (fun _=>undef) wr.drew)(r6:∀i,i<(opsOf c).size→rD P c Q N env0 sp J i)(h:∀a' w' (ls:Nat→Bool) (vs:Nat→Value),(∀j,j<(opsOf c).size→ls j=true)→J ls vs w'→(∀j,j<(opsOf c).size→(sp j).ok (vs j) w')→Fr a' N (pU c sp vs (List.range (opsOf c).size)++tm c env0)→K a' w'):W P c K Q a wr:=by
 have PH:∀i d,bp c i=some d→d<N.n:=by
  intro i d hi;have eV:i<(opsOf c).size:=by
   simp only[bp]at hi;cases ho:(opsOf c)[i]? with
   |none=>simp[ho]at hi
   |some o=>exact(Array.getElem?_eq_some_iff.1 ho).1
  simp only[QoP,QoA]at rn;have:=rn i eV;rw[hi]at this;simpa[gp,Ke]using this
 cases c<;>simp[kind]at hk;rename_i id ops dr;subst hk;refine wp_region_any hm ?_;have h1:uL (.region id ops true) N env0 sp J (Array.replicate ops.size false) a {wr with drawn:=wr.drawn+1}:=by refine⟨fun _=>false,fun _=>undef,?_,fun _ _=>rfl,h0,hF.defers,hF.size,(fun _ hj=>absurd hj sI),(fun _ hj=>absurd hj sI),fun t v htv _=>hF.slot t v (qN tt htv)⟩;intro j hj;simp at hj;simp[Ka,hj]
 refine LX (c:= .region id ops true) hd PH H4 kY r6 ?_ ops.size _ a _ (by simp[opsOf]) ?_ h1
 ·intro a' w' aG jB cV hk;obtain⟨ls,vs,hls,_,hJ,xU,QhS,_,xW,pX⟩:=hk;have eV:∀j,j<(opsOf (.region id ops true)).size→ls j=true:=fun j hj=>by rw[hls j oM];exact cV j hj
  refine h a' w' ls vs eV hJ (fun j hj=>(xW j (eV j hj)).1) ⟨xU,QhS,fun t v hv=> ?_⟩;rcases ku hv with h1|h1
  ·obtain⟨j,hj,r5,rfl⟩:=np h1;obtain⟨h2,h3⟩:=xW j (eV j (QoA.1 hj));rw[Spec.xR h2];exact h3 t r5
  ·obtain⟨h2,h3⟩:=qO h1;exact pX t v h2 (fun j _=>h3 j)
 ·refine QoJ (QoI _ _) ?_;simp[opsOf]
end
def Spec.free:Spec:= .any (fun _ _=>True) (fun _ _ _ _ _=>trivial)
theorem bu{c:Code}{i:Nat}{d:Option Nat}{a a':Act}{w':World}{v:Value}{s:Spec}{Z:Value→Prop}(hd:bp c i=d)(ea:a'=a.put d v)(h:s.ok v w')(hJ:Z v):∃v,a'=a.put (bp c i) v∧s.ok v w'∧Z v:=⟨v,by rw[hd];exact ea,h,hJ⟩
inductive Plain:List Spec→Prop where
 |nil:Plain []
 |aU {v r}:Plain r→Plain (.aU v::r)
 |free {r}:Plain r→Plain (Spec.free::r)
theorem eL{l:List Spec}(h:Plain l):∀(j:Nat) (v:Value) (w w':World),(bo l j).ok v w→(bo l j).ok v w':=by
 induction h with
 |nil=>intro j v w w' h;exact h
 |aU _ ih=>
  intro j v w w' h;cases j with
  |zero=>exact h
  |succ j=>exact ih j v w w' h
 |free _ ih=>
  intro j v w w' h;cases j with
  |zero=>exact h
  |succ j=>exact ih j v w w' h
section
variable {S : Nat → Prop} {w0 w w' : World} {L : List bx}
theorem QfE{α:Type}{L:List α}{i:Nat}{r:α}(hi:L[i]?=some r):L.Perm (r::L.eraseIdx i):=by
 induction L generalizing i with
 |nil=>simp at hi
 |cons x L ih=>
  cases i with
  |zero=>simp at hi;subst hi;simp
  |succ i=>
   simp at hi;rw[Qqq];exact((ih hi).cons x).trans (QpO r x _)
theorem Mem.front(h:Mem S w0 w L)(i:Nat){r:bx}(hi:L[i]?=some r):Mem S w0 w (r::L.eraseIdx i):=h.perm (QfE hi)
end
end Go.Mor
namespace Go.Mor
open Go.RowKit
theorem gM{P:Program}{c:Code}{K:Act→World→Prop}{Q:Exit→Act→World→Prop}{a:Act}{w:World}{k k':Nat}{N:FN}{env:Env}{d:Option Nat}{ty:Nat}{g:Option (Nat×Bool)}{op:BinOp}{t t':TypeId}{x y:Operand}(hk:ax c k=some (d,.binOp op t x y t',ty,g))(hF:Fr a N env)(hg:bD c g env=some true)(hd:gp d N=true)(iO:k+1=k'){kd kd':IntKind}{i j:Int}{z:Value}(hx:ev env x=some (.int kd i))(hy:ev env y=some (.int kd' j))(hb:∀w,(binOp op t (.int kd i) (.int kd' j)).run P w= .ok z w)(h:∀a',a'=a.put d z→Fr a' N (dq env d z)→bz P c K Q k' a' w):bz P c K Q k a w:=by
 refine eC hk hF hg hd iO (fun o ho=> ?_) h;unfold execOp;rw[ho];have he:(eqGuard op t x y (.int kd i) (.int kd' j)).run P w= .ok () w:=by cases op<;>simp[eqGuard]
 simp only[hF.ev hx,hF.ev hy,Qor,he,QnS,hb];rfl
section
variable {P : Program} {t : TypeId}
theorem Vz{i:Int}(m:Int)(h0:0≤i)(h1:i≤9223372036854775807)(hm:0<m)(w:World):(binOp .quo t (vI i) (vI m)).run P w= .ok (vI (i / m)) w:=by
 have dt:m≠0:=oM;have hle:i / m≤i:=Int.ediv_le_self _ h0;have h2:0≤i / m:=Int.ediv_nonneg h0 oM;have hw:IntKind.i64.wrap (i.tdiv m)=i / m:=by rw[Int.tdiv_eq_ediv_of_nonneg h0];exact IntWalk.i64_in _ ⟨oM,oM⟩
 simp[binOp,Op.intDiv,dt,hw]
theorem VA{i:Int}(m:Int)(h0:0≤i)(hm:0<m)(w:World):(binOp .rem t (vI i) (vI m)).run P w= .ok (vI (i % m)) w:=by
 have dt:m≠0:=oM;simp[binOp,Op.intDiv,dt,Int.tmod_eq_emod_of_nonneg h0]
theorem xX{i:Nat}(m:Nat)(h1:i≤9223372036854775807)(hm:0<m)(w:World):(binOp .quo t (vI (i:Int)) (vI (m:Int))).run P w= .ok (vI ((i / m:Nat):Int)) w:=Vz (i:=(i:Int)) (m:Int) oM oM oM w
theorem E4{i:Nat}(m:Nat)(hm:0<m)(w:World):(binOp .rem t (vI (i:Int)) (vI (m:Int))).run P w= .ok (vI ((i % m:Nat):Int)) w:=VA (i:=(i:Int)) (m:Int) oM oM w
theorem sa{r:Nat}(h:r<64):(2:Nat)^r<2^64:=Nat.pow_lt_pow_right dQ h
theorem wrap_u64{q:Nat}(h:q<2^64):IntKind.u64.wrap (q:Int)=(q:Int):=IntWalk.u64_in _ ⟨oM,oM⟩
theorem VB{r:Nat}(h:r<64)(w:World):(binOp .shl t (.int .u64 1) (vI (r:Int))).run P w= .ok (.int .u64 ((2^r:Nat):Int)) w:=by
 have h1:¬((r:Int)<0):=oM;have Qbt:min (r:Int).toNat IntKind.u64.bits=r:=by simp[IntKind.bits];omega
 have hw:IntKind.u64.wrap (1*2^r:Int)=((2^r:Nat):Int):=by have e:(1*2^r:Int)=((2^r:Nat):Int):=sI;rw[e];exact wrap_u64 (sa h)
 show(Op.shift .shl .u64 1 .i64 (r:Int)).run P w=_;unfold Op.shift;rw[Ds h1];simp only[Qbt,hw,Qo4]
theorem Qbu{x y:Nat}(hx:x<2^64)(hy:y<2^64)(w:World):(binOp .or t (.int .u64 (x:Int)) (.int .u64 (y:Int))).run P w= .ok (.int .u64 ((x|||y:Nat):Int)) w:=by
 have h3:x|||y<2^64:=Nat.or_lt_two_pow hx hy;have hw:IntKind.u64.wrap ((x|||y:Nat):Int)=((x|||y:Nat):Int):=IntWalk.u64_in _ ⟨oM,oM⟩;have hb:(BitVec.ofInt IntKind.u64.bits (x:Int)|||BitVec.ofInt IntKind.u64.bits (y:Int)).toNat=x|||y:=by
  have e1:BitVec.ofInt IntKind.u64.bits (x:Int)=BitVec.ofNat 64 x:=by apply Qp9;simp[IntKind.bits]
  have e2:BitVec.ofInt IntKind.u64.bits (y:Int)=BitVec.ofNat 64 y:=by apply Qp9;simp[IntKind.bits]
  rw[e1,e2];show(BitVec.ofNat 64 x|||BitVec.ofNat 64 y).toNat=_;rw[BitVec.toNat_or,Qql,Qql,Qqm hx,Qqm hy]
 show(Op.intBits .or .u64 (x:Int) (y:Int)).run P w=_;simp only[Op.intBits,Qo4,hb,hw]
theorem VC{x y:Nat}(hx:x<2^64)(hy:y<2^64)(w:World):(binOp .and t (.int .u64 (x:Int)) (.int .u64 (y:Int))).run P w= .ok (.int .u64 ((x&&&y:Nat):Int)) w:=by
 have h3:x&&&y<2^64:=Nat.lt_of_le_of_lt Nat.and_le_left hx;have hw:IntKind.u64.wrap ((x&&&y:Nat):Int)=((x&&&y:Nat):Int):=IntWalk.u64_in _ ⟨oM,oM⟩;have hb:(BitVec.ofInt IntKind.u64.bits (x:Int)&&&BitVec.ofInt IntKind.u64.bits (y:Int)).toNat=x&&&y:=by
  have e1:BitVec.ofInt IntKind.u64.bits (x:Int)=BitVec.ofNat 64 x:=by apply Qp9;simp[IntKind.bits]
  have e2:BitVec.ofInt IntKind.u64.bits (y:Int)=BitVec.ofNat 64 y:=by apply Qp9;simp[IntKind.bits]
  rw[e1,e2];show(BitVec.ofNat 64 x&&&BitVec.ofNat 64 y).toNat=_;rw[BitVec.toNat_and,Qql,Qql,Qqm hx,Qqm hy]
 show(Op.intBits .and .u64 (x:Int) (y:Int)).run P w=_;simp only[Op.intBits,Qo4,hb,hw]
theorem PJ{x:Nat}(hx:x<2^64)(w:World):(binOp .and t (.int .u64 (x:Int)) (.int .u64 1)).run P w= .ok (.int .u64 ((x&&&1:Nat):Int)) w:=VC (y:=1) hx dQ w
theorem VD{x r:Nat}(h:r<64)(w:World):(binOp .shr t (.int .u64 (x:Int)) (vI (r:Int))).run P w= .ok (.int .u64 ((x / 2^r:Nat):Int)) w:=by
 have h1:¬((r:Int)<0):=oM;have Qbt:min (r:Int).toNat IntKind.u64.bits=r:=by simp[IntKind.bits];omega
 have e:(x:Int).fdiv (2^r)=((x / 2^r:Nat):Int):=by have e2:(2^r:Int)=((2^r:Nat):Int):=sI;rw[e2,Int.fdiv_eq_ediv_of_nonneg _ (Qqa _)];rfl
 show(Op.shift .shr .u64 (x:Int) .i64 (r:Int)).run P w=_;unfold Op.shift;rw[Ds h1];simp only[Qbt,e,Qo4]
end
def kZ(ws:List Nat):aP:=ws.map (fun x:Nat=>Value.int .u64 (x:Int))
def tb(ws:List Nat)(i:Nat):Bool:=(ws.getD (i / 64) 0).testBit (i % 64)
def xY(ws:List Nat)(i:Nat):List Nat:=ws.set (i / 64) (ws.getD (i / 64) 0|||2^(i % 64))
theorem E5{ws:List Nat}{i:Nat}(h:i<ws.length):(kZ ws)[i]?=some (.int .u64 ((ws.getD i 0:Nat):Int)):=by
 simp[kZ,List.getD,h]
theorem PK(ws:List Nat)(i x:Nat):kZ (ws.set i x)=(kZ ws).set i (.int .u64 (x:Int)):=by simp[kZ,Qpk]
theorem PL(ws:List Nat):(kZ ws).length=ws.length:=by simp[kZ]
theorem Qkw{ws:List Nat}{i:Nat}(hi:i / 64<ws.length)(j:Nat):tb (xY ws i) j=(decide (i=j)||tb ws j):=by
 unfold tb xY;by_cases h:i / 64=j / 64
 ·have e:(ws.set (i / 64) (ws.getD (i / 64) 0|||2^(i % 64))).getD (j / 64) 0=(ws.getD (i / 64) 0|||2^(i % 64)):=by rw[←h];simp[List.getD,hi]
  rw[e,Nat.testBit_or,Nat.testBit_two_pow,←h];have e2:(i % 64=j % 64)↔i=j:=oM;simp only[e2];rw[Bool.or_comm]
 ·have e:(ws.set (i / 64) (ws.getD (i / 64) 0|||2^(i % 64))).getD (j / 64) 0=ws.getD (j / 64) 0:=by simp[List.getD,List.getElem?_set_ne h]
  rw[e];have:¬i=j:=fun e=>h (by rw[e])
  simp[this]
theorem VE(k j:Nat):tb (List.replicate k 0) j=false:=by
 unfold tb;have:(List.replicate k 0).getD (j / 64) 0=0:=by
  by_cases h:j / 64<k
  ·simp[List.getD,h]
  ·simp[List.getD,h]
 rw[this,Nat.zero_testBit]
theorem Qbw(x r:Nat):(((x / 2^r&&&1:Nat):Int)==1)=x.testBit r:=by
 rw[Nat.testBit,Nat.shiftRight_eq_div_pow,Nat.and_comm 1];rcases Nat.mod_two_eq_zero_or_one (x / 2^r)with h|h
 ·rw[Nat.and_one_is_mod,h];rfl
 ·rw[Nat.and_one_is_mod,h];rfl
def Fit(ws:List Nat):Prop:=∀x,x∈ws→x<2^64
theorem Fit.get{ws:List Nat}(h:Fit ws)(i:Nat):ws.getD i 0<2^64:=by
 unfold List.getD;cases hx:ws[i]? with
 |none=>simp
 |some x=>exact h x (D7 hx)
theorem Fit.put{ws:List Nat}(h:Fit ws)(i:Nat):Fit (xY ws i):=by
 intro x hx;unfold xY at hx;rcases List.mem_or_eq_of_mem_set hx with h1|h1
 ·exact h x h1
 ·subst h1;exact Nat.or_lt_two_pow (h.get _) (sa (Nat.mod_lt _ dQ))
theorem Fit.zero(k:Nat):Fit (List.replicate k 0):=by
 intro x hx;rw[Qqk hx];decide
end Go.Mor
namespace Go.Mor
open Go.RowKit
structure gb where
 A:ar
 n:Nat
 c:Nat
 xs:aP
def jT:gb:=⟨none,0,0,[]⟩
def gb.res(e:Nat)(r:gb):bx:= .row e 1 r.A r.n r.c r.xs
def gq(rows:List gb):aP:=rows.map (fun r=>Value.slice r.A r.n r.c)
def bx.gU(e:Nat)(rows:List gb):bx where
 fp:=fun g=>∃r,r∈rows∧(r.res e).fp g
 holds w:=(∀r,r∈rows→(r.res e).holds w)∧rows.Pairwise (fun(r s:gb)=>∀g:Nat,(r.res e).fp g→¬(s.res e).fp g)
 gO h hw:=⟨fun r hr=>(r.res e).gO (fun g hg=>h g ⟨r,hr,hg⟩) (hw.1 r hr),hw.2⟩
 lt:=by
  rintro w g hw ⟨r,hr,hg⟩
  exact(r.res e).lt (hw.1 r hr) hg
theorem uM{e:Nat}{g:Nat}:¬(jT.res e).fp g:=by
 rintro⟨a,ha,_⟩;cases ha
theorem Ba(e:Nat)(w:World):(jT.res e).holds w:=J7 w e 1
theorem VF{w:World}{e:Nat}{rows:List gb}(h:(bx.gU e rows).holds w){t:Nat}{r:gb}(ht:rows[t]?=some r):(bx.row e 1 r.A r.n r.c r.xs).holds w:=h.1 r (D7 ht)
theorem ir{rows:List gb}{t:Nat}{r:gb}(ht:rows[t]?=some r):(gq rows)[t]?=some (vS r.A r.n r.c):=by simp[gq,ht]
theorem VG(rows:List gb):(gq rows).length=rows.length:=by simp[gq]
theorem Kg(rows:List gb)(t:Nat)(r:gb):gq (rows.set t r)=(gq rows).set t (vS r.A r.n r.c):=by simp[gq,Qpk]
theorem xZ(rows:List gb)(r:gb):gq (rows++[r])=gq rows++[.slice r.A r.n r.c]:=by simp[gq]
theorem Mem.H6(w:World)(e n:Nat):Mem bq w w [.gU e (List.replicate n jT)]:=by
 refine⟨rfl,rfl,rfl,kQ _,fun _ _ _=>rfl,?_,Jb _ _⟩;simp only[yX];rintro _ rfl;refine⟨⟨fun r hr=>by rw[Qqk hr];exact Ba e w,?_⟩,fun g hg=> ?_⟩
 ·rw[List.pairwise_replicate];exact .inr (fun g hg=>(uM hg).elim)
 ·obtain⟨r,hr,hg⟩:=hg;rw[Qqk hr]at hg;exact(uM hg).elim
section
variable {S : Nat → Prop} {w0 w : World} {L : List bx}
theorem Mem.focus{e:Nat}{rows:List gb}(h:Mem S w0 w (.gU e rows::L))(t:Nat){r:gb}(ht:rows[t]?=some r):Mem S w0 w (.gU e (rows.set t jT):: .row e 1 r.A r.n r.c r.xs::L):=by
 have hp:=Qpi.1 h.apart;have hf:=h.own _ (Qop ..);obtain⟨⟨hh,VH⟩,hS⟩:=hf;have hr:r∈rows:=D7 ht;have H7:∀s,s∈rows.set t jT→s=jT∨∃j,j≠t∧rows[j]?=some s:=by
  intro s hs;obtain⟨j,hj⟩:=Qmp.1 hs;by_cases e1:t=j
  ·subst e1;have eV:=(List.getElem?_eq_some_iff.1 ht).1;rw[List.getElem?_set_self eV]at hj;injection hj with hj;exact .inl hj.symm
  ·rw[List.getElem?_set_ne e1]at hj;exact .inr ⟨j,fun h=>e1 h.symm,hj⟩
 have sym:∀x y:gb,(∀g,(x.res e).fp g→¬(y.res e).fp g)→∀g,(y.res e).fp g→¬(x.res e).fp g:=fun x y h g hy hx=>h g hx hy
 refine⟨h.os,h.tape,h.output,h.size,h.kept,?_,?_⟩
 ·intro q hq;rcases Qon.1 hq with rfl|hq
  ·refine⟨⟨fun s hs=> ?_,?_⟩,fun g hg=> ?_⟩
   ·rcases H7 s hs with rfl|⟨j,_,hj⟩
    ·exact Ba e w
    ·exact hh s (D7 hj)
   ·rw[QpB];intro i j hi hj LY g hg nU;have gi:(rows.set t jT)[i]?=some (rows.set t jT)[i]:=List.getElem?_eq_getElem hi;have gj:(rows.set t jT)[j]?=some (rows.set t jT)[j]:=List.getElem?_eq_getElem hj;generalize (rows.set t jT)[i]=x at*;generalize (rows.set t jT)[j]=y at*;have eV:=(List.getElem?_eq_some_iff.1 ht).1;by_cases e1:t=i
    ·subst e1;rw[List.getElem?_set_self eV]at gi;injection gi with gi;subst gi;exact uM hg
    ·by_cases e2:t=j
     ·subst e2;rw[List.getElem?_set_self eV]at gj;injection gj with gj;subst gj;exact uM nU
     ·rw[List.getElem?_set_ne e1]at gi;rw[List.getElem?_set_ne e2]at gj;exact lv sym VH gi gj oM g hg nU
   ·obtain⟨s,hs,hg⟩:=hg;rcases H7 s hs with rfl|⟨j,_,hj⟩
    ·exact(uM hg).elim
    ·exact hS g ⟨s,D7 hj,hg⟩
  ·rcases Qon.1 hq with rfl|hq
   ·exact⟨hh r hr,fun g hg=>hS g ⟨r,hr,hg⟩⟩
   ·exact h.own q (Qmq _ hq)
 ·refine Qpi.2 ⟨?_,Qpi.2 ⟨?_,hp.2⟩⟩
  ·rintro q hq g ⟨s,hs,hg⟩ nU;rcases H7 s hs with rfl|⟨j,hj,hs⟩
   ·exact uM hg
   ·rcases Qon.1 hq with rfl|hq
    ·exact lv sym VH hs ht hj g hg nU
    ·exact hp.1 q hq g ⟨s,D7 hs,hg⟩ nU
  ·intro q hq g hg nU;exact hp.1 q hq g ⟨r,hr,hg⟩ nU
theorem Mem.Kh{e n c:Nat}{A:ar}{xs:aP}{rows:List gb}(h:Mem S w0 w (.gU e rows:: .row e 1 A n c xs::L))(t:Nat)(ht:rows[t]?=some jT):Mem S w0 w (.gU e (rows.set t ⟨A,n,c,xs⟩)::L):=by
 have hp:=Qpi.1 h.apart;have hq:=Qpi.1 hp.2;obtain⟨⟨hh,VH⟩,hS⟩:=h.own _ (Qop ..);have hr:=h.own _ (Qmq _ (Qop ..));have eV:=(List.getElem?_eq_some_iff.1 ht).1;have UT:∀s,s∈rows→∀g,(s.res e).fp g→¬(bx.row e 1 A n c xs).fp g:=fun s hs g hg=>hp.1 _ (Qop ..) g ⟨s,hs,hg⟩
 have H7:∀s,s∈rows.set t ⟨A,n,c,xs⟩→s=⟨A,n,c,xs⟩∨s∈rows:=by intro s hs;exact(List.mem_or_eq_of_mem_set hs).symm
 have sym:∀x y:gb,(∀g,(x.res e).fp g→¬(y.res e).fp g)→∀g,(y.res e).fp g→¬(x.res e).fp g:=fun x y h g hy hx=>h g hx hy
 refine⟨h.os,h.tape,h.output,h.size,h.kept,?_,Qpi.2 ⟨?_,hq.2⟩⟩
 ·intro q hq';rcases Qon.1 hq' with rfl|hq'
  ·refine⟨⟨fun s hs=> ?_,?_⟩,fun g hg=> ?_⟩
   ·rcases H7 s hs with rfl|hs
    ·exact hr.1
    ·exact hh s hs
   ·rw[QpB];intro i j hi hj LY g hg nU;have gi:(rows.set t ⟨A,n,c,xs⟩)[i]?=some (rows.set t ⟨A,n,c,xs⟩)[i]:=List.getElem?_eq_getElem hi;have gj:(rows.set t ⟨A,n,c,xs⟩)[j]?=some (rows.set t ⟨A,n,c,xs⟩)[j]:=List.getElem?_eq_getElem hj;generalize (rows.set t ⟨A,n,c,xs⟩)[i]=x at*;generalize (rows.set t ⟨A,n,c,xs⟩)[j]=y at*;by_cases e1:t=i
    ·subst e1;rw[List.getElem?_set_self eV]at gi;injection gi with gi;subst gi;rw[List.getElem?_set_ne oM]at gj;exact UT y (D7 gj) g nU hg
    ·rw[List.getElem?_set_ne e1]at gi;by_cases e2:t=j
     ·subst e2;rw[List.getElem?_set_self eV]at gj;injection gj with gj;subst gj;exact UT x (D7 gi) g hg nU
     ·rw[List.getElem?_set_ne e2]at gj;exact lv sym VH gi gj oM g hg nU
   ·obtain⟨s,hs,hg⟩:=hg;rcases H7 s hs with rfl|hs
    ·exact hr.2 g hg
    ·exact hS g ⟨s,hs,hg⟩
  ·exact h.own q (Qmq _ (Qmq _ hq'))
 ·rintro q hq' g ⟨s,hs,hg⟩ nU;rcases H7 s hs with rfl|hs
  ·exact hq.1 q hq' g hg nU
  ·exact hp.1 q (Qmq _ hq') g ⟨s,hs,hg⟩ nU
theorem Mem.push{e n c:Nat}{A:ar}{xs:aP}{rows:List gb}(h:Mem S w0 w (.gU e rows:: .row e 1 A n c xs::L)):Mem S w0 w (.gU e (rows++[⟨A,n,c,xs⟩])::L):=by
 have hp:=Qpi.1 h.apart;have hq:=Qpi.1 hp.2;obtain⟨⟨hh,VH⟩,hS⟩:=h.own _ (Qop ..);have hr:=h.own _ (Qmq _ (Qop ..));refine⟨h.os,h.tape,h.output,h.size,h.kept,?_,Qpi.2 ⟨?_,hq.2⟩⟩
 ·intro q hq';rcases Qon.1 hq' with rfl|hq'
  ·refine⟨⟨fun s hs=> ?_,?_⟩,fun g hg=> ?_⟩
   ·rcases Qn2.1 hs with hs|hs
    ·exact hh s hs
    ·simp only[yX]at hs;subst hs;exact hr.1
   ·refine QpF.2 ⟨VH,Jb _ _,fun s hs s' PN g hg nU=> ?_⟩;simp only[yX]at PN;subst PN;exact hp.1 _ (Qop ..) g ⟨s,hs,hg⟩ nU
   ·obtain⟨s,hs,hg⟩:=hg;rcases Qn2.1 hs with hs|hs
    ·exact hS g ⟨s,hs,hg⟩
    ·simp only[yX]at hs;subst hs;exact hr.2 g hg
  ·exact h.own q (Qmq _ (Qmq _ hq'))
 ·rintro q hq' g ⟨s,hs,hg⟩ nU;rcases Qn2.1 hs with hs|hs
  ·exact hp.1 q (Qmq _ hq') g ⟨s,hs,hg⟩ nU
  ·simp only[yX]at hs;subst hs;exact hq.1 q hq' g hg nU
end
end Go.Mor
namespace Go.Mor
open Go.RowKit
theorem x6{P:Program}{c:Code}{K:Act→World→Prop}{Q:Exit→Act→World→Prop}{a:Act}{w:World}{k k':Nat}{N:FN}{env:Env}{d:Option Nat}{ty:Nat}{g:Option (Nat×Bool)}{ts:Array TypeId}{x y:Operand}(hk:ax c k=some (d,.call {callee:= .builtin .min,args:=#[x,y],argTypes:=ts},ty,g))(hF:Fr a N env)(hg:bD c g env=some true)(hd:gp d N=true)(iO:k+1=k'){kd:IntKind}{i j:Int}(hx:ev env x=some (.int kd i))(hy:ev env y=some (.int kd j))(z:Int)(hz:z=if j<i then j else i)(h:∀a',a'=a.put d (.int kd z)→Fr a' N (dq env d (.int kd z))→bz P c K Q k' a' w):bz P c K Q k a w:=by
 refine eC hk hF hg hd iO (fun o ho=> ?_) h;unfold execOp;rw[ho];simp only[resolve,invoke,builtin,Qor,Qo4,QnS,Qp5,QoK,Qps,hF.ev hx,hF.ev hy,Builtin.min_,List.foldlM];subst hz;simp[Builtin.min2];try (split<;>simp_all<;>omega)
theorem VI{w:World}{ad:Addr}{xs:aP}(h:(bx.rd (some ad) xs).holds w)(m:Nat):(bx.rd (some (ad.add (m*1))) (xs.drop m)).holds w:=by
 intro i v hi;rw[List.getElem?_drop]at hi;obtain⟨a',ha,hc⟩:=h (m+i) v hi;injection ha with ha;subst ha;refine⟨_,rfl,?_⟩;rw[add_add,Qoz];exact hc
end Go.Mor
namespace Go.Mor
open Go.RowKit
theorem Af{fn:Func}{t:Tmp}{ty:TypeId}(h:fn.results=#[.cell t ty])(tmps:Array Value)(P:Program)(w:World){ad:Addr}{vs:aP}(hp:tmps.getD t undef= .pointer (some ad))(ht:uJ P ty=some vs.length)(hc:∀(j:Nat) (v:Value),vs[j]?=some v→w.cell? (ad.add j)=some v):(results fn tmps).run P w= .ok (.agg vs.toArray) w:=by
 obtain⟨h1,h2⟩:=lg ht w;have e:tmps[t]?.getD undef= .pointer (some ad):=by simpa using hp
 have ha:(asAddr (vP ad)).run P w= .ok ad w:=rfl;have hl:(loadVar ty ad).run P w= .ok (.agg vs.toArray) w:=by simp[loadVar,h1,h2,run_loadCells_list (P:=P) w ad vs hc]
 simp only[results,h];simp[Qor,Result.andThen,e,ha,hl]
theorem C3{P:Program}{fn:Func}{R:Ending→World→Prop}{a:Act}{w:World}{N:FN}{env:Env}{t:Tmp}{ty:TypeId}{ad:Addr}{vs:aP}(hF:Fr a N env)(hr:fn.results=#[.cell t ty])(hv:look env t=some (vP ad))(ht:uJ P ty=some vs.length)(hc:∀(j:Nat) (v:Value),vs[j]?=some v→w.cell? (ad.add j)=some v)(h:R (.returned (.agg vs.toArray)) w)(hD:N.D=[]:=by rfl):bodyPost P fn R .ret a w:=by
 refine bodyPost_ret (v:= .agg vs.toArray) ?_ (hF.defers.trans hD) h;refine Af hr _ _ _ ?_ ht hc;have:=hF.ev (x:= .tmp t) hv;simpa only[Act.eval]using this
end Go.Mor
