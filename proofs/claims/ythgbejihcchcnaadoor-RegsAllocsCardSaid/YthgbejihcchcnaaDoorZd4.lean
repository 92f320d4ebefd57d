/-
  Texts of the proof, part 4.
-/
import Derived.Test.YthgbejihcchcnaaDoorZd3
import Derived.Orders
set_option maxRecDepth 10000
namespace Go.Mor
open Go.RowKit
abbrev Kp(w w':World):Prop:=Mem aR w w' []
theorem Kp.refl(w:World):Kp w w:=Mem.init w
theorem Kp.trans{a b c:World}(h:Kp a b)(h':Kp b c):Kp a c:=by simpa using h.call h'
theorem Mem.kp{w w':World}{L:List aL}(h:Mem aR w w' L):Kp w w':=⟨h.os,h.tape,h.output,h.size,h.kept,sI,List.Pairwise.nil⟩
theorem Mem.ay{S:Nat→Prop}{w0 w w':World}{L:List aL}(h:Mem S w0 w L)(h':Kp w w'):Mem S w0 w' L:=by simpa using h.call h'
theorem Mem.cast{S:Nat→Prop}{w0 w:World}{L L':List aL}(h:Mem S w0 w L)(e:L=L'):Mem S w0 w L':=e▸h
inductive Spec where
 |aQ(v:Value)
 |any(Φ:Value→World→Prop)(h:∀v w w',Kp w w'→Φ v w→Φ v w')
def Spec.ok:Spec→Value→World→Prop
 | .aQ u,v,_=>v=u
 | .any Φ _,v,w=>Φ v w
def Spec.val:Spec→Value→Value
 | .aQ u,_=>u
 | .any _ _,v=>v
theorem Spec.s5{s:Spec}{v:Value}{w:World}(h:s.ok v w):s.val v=v:=by
 cases s with
 |aQ u=>exact h.symm
 |any Φ _=>rfl
theorem Spec.fL(s:Spec)(v:Value)(w w':World)(hK:Kp w w')(h:s.ok v w):s.ok v w':=by
 cases s with
 |aQ u=>exact h
 |any Φ hs=>exact hs v w w' hK h
def bI:List Spec→Nat→Spec
 |[],_=> .aQ undef
 |s::_,0=>s
 |_::r,n+1=>bI r n
def bg(c:Code)(j:Nat):Option Nat:=((opsOf c)[j]?).bind (·.dst)
def dj(c:Code)(i:Nat):List Nat:=match(opsOf c)[i]? with
 |some o=>(o.after.toList.filter (fun e=>Region.binds .any e)).map (·.on)
 |none=>[]
def o4:List Nat→Nat→Bool
 |[],_=>false
 |x::r,t=>match Nat.beq x t with
  |true=>true
  |false=>o4 r t
theorem gY{l:List Nat}{t:Nat}:o4 l t=true↔t∈l:=by
 induction l with
 |nil=>simp[o4]
 |cons x r ih=>
  unfold o4;cases hq:Nat.beq x t with
  |true=>simp[Nat.eq_of_beq_eq_true hq]
  |false=>
   have dG:¬t=x:=fun e=>by subst e;simp at hq
   simp[ih,dG]
def vG(c:Code)(i t:Nat):Nat→Bool
 |0=>true
 |j+1=>vG c i t j&&(match bg c j with
  |some d=>match Nat.beq d t with
   |true=>o4 (dj c j) i
   |false=>true
  |none=>true)
def yL(c:Code)(i:Nat):Env→Env
 |[]=>[]
 |(t,v)::r=>match vG c i t (opsOf c).size with
  |true=>(t,v)::yL c i r
  |false=>yL c i r
def oz(c:Code)(sp:Nat→Spec)(vs:Nat→Value):List Nat→Env
 |[]=>[]
 |j::r=>match bg c j with
  |some d=>(d,(sp j).val (vs j))::oz c sp vs r
  |none=>oz c sp vs r
def bR(c:Code)(i:Nat)(sp:Nat→Spec)(vs:Nat→Value)(env0:Env):Env:=oz c sp vs (dj c i)++yL c i env0
def one(c:Code)(i:Nat):Code:=match(opsOf c)[i]? with
 |some o=> .region 0 #[{o with guard:=none}] false
 |none=> .skip
def jt(P:Program)(c:Code)(Q:Exit→Act→World→Prop)(N:FN)(env0:Env)(wr:World)(sp:Nat→Spec)(i:Nat):Prop:=∀(a:Act) (w:World) (vs:Nat→Value) (rest:Env),Kp wr w→(∀j,j∈dj c i→(sp j).ok (vs j) w)→Fr a N (bR c i sp vs env0++rest)→∃b,(∀g,(ao c i).map (·.2.2.2)=some g→bu c g (bR c i sp vs env0++rest)=some b)∧(b=true→bw P (one c i) (fun a' w'=>∃v,a'=a.put (bg c i) v∧Kp w w'∧(sp i).ok v w') Q 0 a w)∧(b=false→(sp i).ok undef w)
def j6(c:Code):Bool:=(List.range (opsOf c).size).all fun i=>(List.range i).all fun j=>match bg c i,bg c j with
 |some d,some e=> !(Nat.beq d e)
 |_,_=>true
theorem GJ{c:Code}(h:j6 c=true){i j d:Nat}(hi:bg c i=some d)(hj:bg c j=some d):i=j:=by
 have lt:∀{k e},bg c k=some e→k<(opsOf c).size:=by
  intro k e hk;simp only[bg]at hk;cases ho:(opsOf c)[k]? with
  |none=>simp[ho]at hk
  |some o=>exact(Array.getElem?_eq_some_iff.1 ho).1
 have key:∀{i j d},bg c i=some d→bg c j=some d→j<i→False:=by intro i j d hi hj fo;simp only[j6,List.all_eq_true,List.mem_range]at h;have:=h i (lt hi) j fo;simp[hi,hj]at this
 rcases Nat.lt_trichotomy i j with h1|h1|h1
 ·exact(key hj hi h1).elim
 ·exact h1
 ·exact(key hi hj h1).elim
theorem jK{E F:Env}{t:Nat}{v:Value}(h:look (E++F) t=some v):look E t=some v∨look F t=some v:=by
 induction E with
 |nil=>exact .inr h
 |cons x r ih=>
  obtain⟨k,u⟩:=x;simp only[gX,look]at h⊢;cases hq:Nat.beq k t with
  |true=>rw[hq]at h;exact .inl h
  |false=>rw[hq]at h;exact ih h
theorem lN{c:Code}{sp:Nat→Spec}{vs:Nat→Value}{l:List Nat}{t:Nat}{v:Value}(h:look (oz c sp vs l) t=some v):∃j,j∈l∧bg c j=some t∧v=(sp j).val (vs j):=by
 induction l with
 |nil=>simp[oz,look]at h
 |cons j r ih=>
  unfold oz at h;cases hd:bg c j with
  |none=>
   rw[hd]at h;obtain⟨j',h1,h2⟩:=ih h;exact⟨j',List.mem_cons_of_mem _ h1,h2⟩
  |some d=>
   rw[hd]at h;simp only[look]at h;cases hq:Nat.beq d t with
   |true=>
    rw[hq]at h;injection h with h;have:=Nat.eq_of_beq_eq_true hq;subst this;exact⟨j,List.mem_cons_self ..,hd,h.symm⟩
   |false=>
    rw[hq]at h;obtain⟨j',h1,h2⟩:=ih h;exact⟨j',List.mem_cons_of_mem _ h1,h2⟩
theorem free_spec{c:Code}{i t:Nat}:∀{n:Nat},vG c i t n=true→∀j,j<n→bg c j=some t→i∈dj c j
 |0,_,j,hj,_=>absurd hj oM
 |n+1,h,j,hj,hd=>by
  simp only[vG,Bool.and_eq_true]at h;by_cases e:j=n
  ·subst e;have h2:=h.2;rw[hd]at h2;simp at h2;exact gY.1 h2
  ·exact free_spec h.1 j oM hd
theorem pR{c:Code}{i:Nat}:∀{env:Env} {t:Nat} {v:Value},look (yL c i env) t=some v→(t,v)∈env∧∀j,bg c j=some t→i∈dj c j
 |[],t,v,h=>by simp[yL,look]at h
 |(k,u)::r,t,v,h=>by
  unfold yL at h;cases hf:vG c i k (opsOf c).size with
  |false=>
   rw[hf]at h;obtain⟨h1,h2⟩:=pR h;exact⟨List.mem_cons_of_mem _ h1,h2⟩
  |true=>
   rw[hf]at h;simp only[look]at h;cases hq:Nat.beq k t with
   |false=>
    rw[hq]at h;obtain⟨h1,h2⟩:=pR h;exact⟨List.mem_cons_of_mem _ h1,h2⟩
   |true=>
    rw[hq]at h;injection h with h;have:=Nat.eq_of_beq_eq_true hq;subst this;subst h;refine⟨List.mem_cons_self ..,fun j hj=>free_spec hf j ?_ hj⟩;simp only[bg]at hj;cases ho:(opsOf c)[j]? with
    |none=>simp[ho]at hj
    |some o=>exact(Array.getElem?_eq_some_iff.1 ho).1
def nQ:Env→Bool
 |[]=>true
 |(k,_)::r=> !(o4 (r.map (·.1)) k)&&nQ r
theorem nr:∀{env:Env},nQ env=true→∀{t:Nat} {v:Value},(t,v)∈env→look env t=some v
 |[],_,t,v,h=>by simp at h
 |(k,u)::r,hk,t,v,h=>by
  simp only[nQ,Bool.and_eq_true,Bool.not_eq_true']at hk;simp only[look];rcases List.mem_cons.1 h with h|h
  ·injection h with h1 h2;subst h1;subst h2;simp
  ·cases hq:Nat.beq k t with
   |false=>exact nr hk.2 h
   |true=>
    have:=Nat.eq_of_beq_eq_true hq;subst this;have hm:o4 (r.map (·.1)) k=true:=gY.2 (List.mem_map.2 ⟨_,h,rfl⟩);rw[hm]at hk;cases hk.1
def rK(c:Code):Env→Env
 |[]=>[]
 |(t,v)::r=>match o4 ((List.range (opsOf c).size).filterMap (bg c)) t with
  |true=>rK c r
  |false=>(t,v)::rK c r
theorem pS{c:Code}:∀{env:Env} {t:Nat} {v:Value},look (rK c env) t=some v→(t,v)∈env∧∀j,bg c j≠some t
 |[],t,v,h=>by simp[rK,look]at h
 |(k,u)::r,t,v,h=>by
  unfold rK at h;cases hm:o4 ((List.range (opsOf c).size).filterMap (bg c)) k with
  |true=>
   rw[hm]at h;obtain⟨h1,h2⟩:=pS h;exact⟨List.mem_cons_of_mem _ h1,h2⟩
  |false=>
   rw[hm]at h;simp only[look]at h;cases hq:Nat.beq k t with
   |false=>
    rw[hq]at h;obtain⟨h1,h2⟩:=pS h;exact⟨List.mem_cons_of_mem _ h1,h2⟩
   |true=>
    rw[hq]at h;injection h with h;have:=Nat.eq_of_beq_eq_true hq;subst this;subst h;refine⟨List.mem_cons_self ..,fun j hj=> ?_⟩;have fo:j<(opsOf c).size:=by
     simp only[bg]at hj;cases ho:(opsOf c)[j]? with
     |none=>simp[ho]at hj
     |some o=>exact(Array.getElem?_eq_some_iff.1 ho).1
    have:o4 ((List.range (opsOf c).size).filterMap (bg c)) k=true:=gY.2 (List.mem_filterMap.2 ⟨j,List.mem_range.2 fo,hj⟩);rw[this]at hm;cases hm
def fO(c:Code):Bool:=(List.range (opsOf c).size).all fun i=>(dj c i).all fun j=>Nat.blt j i
section
variable {P : Program} {c : Code} {K : Act → World → Prop} {Q : Exit → Act → World → Prop} {N : FN} {env0 : Env} {wr : World} {sp : Nat → Spec}
def rL(c:Code)(N:FN)(env0:Env)(wr:World)(sp:Nat→Spec)(listed:Array Bool)(a:Act)(w:World):Prop:=Kp wr w∧a.defers=N.D∧a.tmps.size=N.n∧(∀j,listed.getD j false=true→∀i,i∈dj c j→listed.getD i false=true)∧(∃vs:Nat→Value,∀j,listed.getD j false=true→(sp j).ok (vs j) w∧∀d,bg c j=some d→a.tmps[d]?=some (vs j))∧(∀t v,(t,v)∈env0→(∀j,listed.getD j false=true→bg c j≠some t)→a.tmps[t]?=some v)
theorem rN{i:Nat}{o:Oper}(ho:(opsOf c)[i]?=some o):opsOf (one c i)=#[{o with guard:=none}]:=by
 unfold one;rw[ho];rfl
theorem fB{ops:Array Oper}{listed:Array Bool}{i:Nat}(h:i∈Region.ready .any ops listed):i<ops.size∧listed.getD i true=false∧∃o,ops[i]?=some o∧∀e,e∈o.after.toList→Region.binds .any e=true→listed.getD e.on false=true:=by
 simp only[Region.ready,List.mem_filter,List.mem_range,Bool.and_eq_true,Bool.not_eq_true']at h;obtain⟨h1,h2,h3⟩:=h;refine⟨h1,h2,?_⟩;cases ho:ops[i]? with
 |none=>simp[ho]at h3
 |some o=>
  refine⟨o,rfl,fun e he hb=> ?_⟩;simp only[ho,Option.map_some,Option.getD_some]at h3;have h4:=(Array.all_eq_true_iff_forall_mem.1 h3) e (Array.mem_toList_iff.1 he);simpa[hb]using h4
theorem yM(hd:j6 c=true)(gK:∀i d,bg c i=some d→d<N.n){i:Nat}(hi:jt P c Q N env0 wr sp i){listed:Array Bool}{a:Act}{w:World}(hn:listed.size=(opsOf c).size)(hr:i∈Region.ready .any (opsOf c) listed)(hk:rL c N env0 wr sp listed a w){G:Act→World→Prop}(hG:∀a' w',rL c N env0 wr sp (listed.setIfInBounds i true) a' w'→G a' w'):wpOp P (opsOf c) (Exit.then K Q) i G a w:=by
 obtain⟨fo,QB,o,ho,Ey⟩:=fB hr;obtain⟨YS,s6,jo,uV,⟨vs,xZ⟩,ns⟩:=hk;have Ib:listed.getD i false=false:=by have:i<listed.size:=oM;simp[Array.getD,this]at QB⊢;exact QB
 have gl:∀j,j∈dj c i→listed.getD j false=true:=by intro j hj;simp only[dj,ho,List.mem_map,List.mem_filter]at hj;obtain⟨e,⟨he,hb⟩,rfl⟩:=hj;exact Ey e he hb
 have KZ:bg c i=o.dst:=by simp[bg,ho]
 have hF:Fr a N (bR c i sp vs env0++[]):=by
  refine⟨s6,jo,fun t v hv=> ?_⟩;rw[List.append_nil]at hv;rcases jK hv with h1|h1
  ·obtain⟨j,hj,ql,rfl⟩:=lN h1;obtain⟨h2,h3⟩:=xZ j (gl j hj);rw[Spec.s5 h2];exact h3 t ql
  ·obtain⟨h2,h3⟩:=pR h1;refine ns t v h2 (fun j hj ql=> ?_);have:=uV j hj i (h3 j ql);rw[Ib]at this;cases this
 obtain⟨b,hb,K0,K1⟩:=hi a w vs [] YS (fun j hj=>(xZ j (gl j hj)).1) hF;have CC:ao c i=some (o.dst,o.op,o.type,o.guard):=by simp[ao,ho]
 have hw:=rE (c:=c) hF rfl (hb _ (by rw[CC];rfl));have next:∀v w',Kp w w'→(sp i).ok v w'→rL c N env0 wr sp (listed.setIfInBounds i true) (a.put o.dst v) w':=by
  intro v w' Z0 hv;have K2:∀j,(listed.setIfInBounds i true).getD j false=true→j=i∨listed.getD j false=true:=by
   intro j hj;by_cases e:i=j
   ·exact .inl e.symm
   ·refine .inr ?_;simpa[Array.getD_eq_getD_getElem?,Array.getElem?_setIfInBounds_ne e]using hj
  have K3:∀j,listed.getD j false=true→(listed.setIfInBounds i true).getD j false=true:=by
   intro j hj;by_cases e:i=j
   ·subst e;have:i<listed.size:=oM;simp[Array.getD_eq_getD_getElem?,this]
   ·simpa[Array.getD_eq_getD_getElem?,Array.getElem?_setIfInBounds_ne e]using hj
  refine⟨YS.trans Z0,by cases K4:o.dst<;>simp[Act.put,s6],by cases K4:o.dst<;>simp[Act.put,jo],?_,⟨fun j=>if j=i then v else vs j,?_⟩,?_⟩
  ·intro j hj k hk;rcases K2 j hj with rfl|h1
   ·exact K3 k (gl k hk)
   ·exact K3 k (uV j h1 k hk)
  ·intro j hj;rcases K2 j hj with rfl|h1
   ·refine⟨by simpa using hv,fun d ql=> ?_⟩;rw[KZ]at ql;simp only[ql,Act.put,if_true];have:=gK j d (by rw[KZ];exact ql);rw[Array.getElem?_setIfInBounds_self_of_lt oM]
   ·have dG:j≠i:=fun e=>by subst e;rw[Ib]at h1;cases h1
    obtain⟨h2,h3⟩:=xZ j h1;refine⟨by simpa[dG]using(sp j).fL _ _ _ Z0 h2,fun d ql=> ?_⟩;simp only[dG,if_false];cases K4:o.dst with
    |none=>exact h3 d ql
    |some d'=>
     simp only[Act.put];have:d'≠d:=fun e=>by subst e;exact dG (GJ hd ql (by rw[KZ];exact K4))
     rw[Array.getElem?_setIfInBounds_ne this];exact h3 d ql
  ·intro t u htu hj;have h1:=ns t u htu (fun j Ez=>hj j (K3 j Ez));cases K4:o.dst with
   |none=>exact h1
   |some d'=>
    simp only[Act.put];have:d'≠t:=fun e=>by
     subst e;have qM:(listed.setIfInBounds i true).getD i false=true:=by have:i<listed.size:=oM;simp[Array.getD_eq_getD_getElem?,this]
     exact hj i qM (by rw[KZ];exact K4)
    rw[Array.getElem?_setIfInBounds_ne this];exact h1
 unfold wpOp;rw[ho];simp only[];rw[hw];cases b with
 |false=>
  simp only[Bool.false_eq_true,if_false];exact hG _ _ (next undef w (Kp.refl w) (K1 rfl))
 |true=>
  simp only[if_true];have h1:=K0 rfl;unfold bw at h1;rw[rN ho]at h1;simp only[List.drop_zero]at h1;unfold wpList at h1;rw[if_pos (by simp[Region.wanted])]at h1;rcases h1 with h1|⟨h1,h2⟩
  ·refine .inl ?_;have e1:∀(K':Act→World→Prop) (Q':Exit→Act→World→Prop),({o with guard:=none}:Oper).wp P a w K' Q'=o.wp P a w K' Q':=fun _ _=>rfl
   rw[e1]at h1;have:o.wp P a w (fun a' w'=>∃v,a'=a.put (bg c i) v∧Kp w w'∧(sp i).ok v w') (Exit.then (fun a' w'=>∃v,a'=a.put (bg c i) v∧Kp w w'∧(sp i).ok v w') Q):=h1;have h3:o.wp P a w (fun a' w'=>∃v,a'=a.put (bg c i) v∧Kp w w'∧(sp i).ok v w') (Exit.then K Q):=by
    unfold Oper.wp at this⊢;generalize (execOp a.eval o).run P w=r at*;cases r with
    |ok n w'=>
     cases n<;>simp only[Oper.upon]at this⊢<;>first
      |exact this
      |exact Calls.mono this (fun e w'' he=>by cases e<;>exact he)
    |halt x w'=>cases x<;>simp only[Oper.upon]at this⊢<;>exact this
   refine Oper.wp_mono ?_ h3;rintro a' w' ⟨v,rfl,hkv,hv⟩;rw[KZ];exact hG _ _ (next v w' hkv hv)
  ·refine .inr ⟨?_,?_⟩
   ·exact h1
   ·obtain⟨a0,w0,h0⟩:=h2;exact⟨a0,w0,h0⟩
theorem K5(hd:j6 c=true)(gK:∀i d,bg c i=some d→d<N.n)(gl:fO c=true)(nR:∀i,i<(opsOf c).size→jt P c Q N env0 wr sp i)(z8:∀a w,(∀listed:Array Bool,(∀j,j<(opsOf c).size→listed.getD j false=true)→rL c N env0 wr sp listed a w→K a w)):∀(fuel:Nat) (listed:Array Bool) (a:Act) (w:World),listed.size=(opsOf c).size→((List.range (opsOf c).size).filter (fun j=> !listed.getD j false)).length≤fuel→rL c N env0 wr sp listed a w→wpAny P .any (opsOf c) (Exit.then K Q) fuel listed a w:=by
 have jE:∀listed:Array Bool,listed.size=(opsOf c).size→Region.ready .any (opsOf c) listed=[]→∀j,j<(opsOf c).size→listed.getD j false=true:=by
  intro listed jo hr j;induction j using Nat.strongRecOn with
  |_ j ih=>
   intro hj;cases hq:listed.getD j false with
   |true=>rfl
   |false=>
    exfalso;have:j∈Region.ready .any (opsOf c) listed:=by
     simp only[Region.ready,List.mem_filter,List.mem_range,Bool.and_eq_true,Bool.not_eq_true'];have Eg:j<listed.size:=oM;refine⟨hj,?_,?_⟩
     ·simp[Array.getD,Eg]at hq⊢;exact hq
     ·have ho:(opsOf c)[j]?=some (opsOf c)[j]:=by simp[hj]
      simp only[ho,Option.map_some,Option.getD_some];rw[Array.all_eq_true_iff_forall_mem];intro e he;cases hb:Region.binds .any e with
      |false=>rfl
      |true=>
       have cn:e.on∈dj c j:=by simp only[dj,ho,List.mem_map,List.mem_filter];exact⟨e,⟨Array.mem_toList_iff.2 he,hb⟩,rfl⟩
       have fo:e.on<j:=by simp only[fO,List.all_eq_true,List.mem_range]at gl;have:=gl j hj e.on cn;simpa[Nat.blt_eq]using this
       simp[ih e.on fo oM]
    rw[hr]at this;simp at this
 intro fuel;induction fuel with
 |zero=>
  intro listed a w jo hf hk;have cr:∀j,j<(opsOf c).size→listed.getD j false=true:=by
   intro j hj;cases hq:listed.getD j false with
   |true=>rfl
   |false=>
    have:j∈(List.range (opsOf c).size).filter (fun j=> !listed.getD j false):=List.mem_filter.2 ⟨List.mem_range.2 hj,by rw[hq];rfl⟩;have:=List.length_pos_of_mem this;omega
  refine⟨?_,z8 a w listed cr hk⟩;cases hr:Region.ready .any (opsOf c) listed with
  |nil=>rfl
  |cons i r=>
   exfalso;have hi:i∈Region.ready .any (opsOf c) listed:=by rw[hr];simp
   obtain⟨h1,h2,_⟩:=fB hi;have:=cr i h1;have uU:i<listed.size:=oM;simp[Array.getD,uU]at h2 this;rw[h2]at this;cases this
 |succ fuel ih=>
  intro listed a w jo hf hk;refine⟨fun hr=>z8 a w listed (jE listed jo hr) hk,fun i hi=> ?_⟩;obtain⟨h1,h2,_⟩:=fB hi;refine yM hd gK (nR i h1) jo hi hk (fun a' w' im=> ?_);refine ih _ a' w' (by simpa using jo) ?_ im;have uU:i<listed.size:=oM;have Vk:listed.getD i false=false:=by simp[Array.getD,uU]at h2⊢;exact h2
  have fo:((List.range (opsOf c).size).filter (fun j=> !(listed.setIfInBounds i true).getD j false)).length<((List.range (opsOf c).size).filter (fun j=> !listed.getD j false)).length:=by
   have kl:((List.range (opsOf c).size).filter (fun j=> !(listed.setIfInBounds i true).getD j false))=((List.range (opsOf c).size).filter (fun j=> !listed.getD j false)).filter (fun j=> !(Nat.beq j i)):=by
    rw[List.filter_filter];apply List.filter_congr;intro j _;by_cases e:i=j
    ·subst e;simp[Array.getD_eq_getD_getElem?,uU]
    ·have hb:Nat.beq j i=false:=by
      cases hq:Nat.beq j i with
      |false=>rfl
      |true=>exact absurd (Nat.eq_of_beq_eq_true hq).symm e
     simp[Array.getD_eq_getD_getElem?,Array.getElem?_setIfInBounds_ne e,hb]
   rw[kl];have cn:i∈(List.range (opsOf c).size).filter (fun j=> !listed.getD j false):=List.mem_filter.2 ⟨List.mem_range.2 h1,by rw[Vk];rfl⟩;refine List.length_filter_lt_length_iff_exists.2 ⟨i,cn,sI⟩
  omega
theorem Vl(hk:kind c= .region true)(hm:P.follows .mixedOrders=true){a:Act}(sp:Nat→Spec)(hd:j6 c=true)(gl:fO c=true)(hF:Fr a N env0)(o5:nQ env0=true)(gK:(List.range (opsOf c).size).all (fun i=>gL (bg c i) N)=true)(nR:∀i,i<(opsOf c).size→jt P c Q N env0 wr sp i)(h:∀a' w' (vs:Nat→Value),Kp wr w'→(∀j,j<(opsOf c).size→(sp j).ok (vs j) w')→Fr a' N (oz c sp vs (List.range (opsOf c).size)++rK c env0)→K a' w'):W P c K Q a wr:=by
 have EA:∀i d,bg c i=some d→d<N.n:=by
  intro i d hi;have fo:i<(opsOf c).size:=by
   simp only[bg]at hi;cases ho:(opsOf c)[i]? with
   |none=>simp[ho]at hi
   |some o=>exact(Array.getElem?_eq_some_iff.1 ho).1
  simp only[List.all_eq_true,List.mem_range]at gK;have:=gK i fo;rw[hi]at this;simpa[gL,Nat.blt_eq]using this
 cases c<;>simp[kind]at hk;rename_i id ops dr;subst hk;refine wp_region_any hm ?_;have h0:rL (.region id ops true) N env0 wr sp (Array.replicate ops.size false) a {wr with drawn:=wr.drawn+1}:=by
  refine⟨Mem.drew wr,hF.defers,hF.size,?_,⟨fun _=>undef,?_⟩,fun t v Vm _=>hF.slot t v (nr o5 Vm)⟩
  ·intro j hj;simp[Array.getD_eq_getD_getElem?,Array.getElem?_replicate]at hj;split at hj<;>simp at hj
  ·intro j hj;simp[Array.getD_eq_getD_getElem?,Array.getElem?_replicate]at hj;split at hj<;>simp at hj
 refine K5 (c:= .region id ops true) hd EA gl nR ?_ ops.size _ a _ (by simp[opsOf]) ?_ h0
 ·intro a' w' listed cr hk;obtain⟨YS,s6,jo,_,⟨vs,xZ⟩,ns⟩:=hk;refine h a' w' vs YS (fun j hj=>(xZ j (cr j hj)).1) ⟨s6,jo,fun t v hv=> ?_⟩;rcases jK hv with h1|h1
  ·obtain⟨j,hj,ql,rfl⟩:=lN h1;obtain⟨h2,h3⟩:=xZ j (cr j (List.mem_range.1 hj));rw[Spec.s5 h2];exact h3 t ql
  ·obtain⟨h2,h3⟩:=pS h1;exact ns t v h2 (fun j _=>h3 j)
 ·refine Nat.le_trans (bx _ _) ?_;simp[opsOf]
end
theorem CD{p:Nat→Prop}:∀i,i<0→p i:=fun i h=>absurd h oM
theorem CE{p:Nat→Prop}{n:Nat}(h:∀i,i<n→p i)(hn:p n):∀i,i<n+1→p i:=fun i hi=>by
 by_cases e:i=n
 ·subst e;exact hn
 ·exact h i oM
theorem jF{c:Code}{i:Nat}{E:Env}{b:Bool}{g0:Option (Nat×Bool)}(h0:(ao c i).map (·.2.2.2)=some g0)(h:bu c g0 E=some b):∀g,(ao c i).map (·.2.2.2)=some g→bu c g E=some b:=by
 intro g hg;rw[h0]at hg;injection hg with hg;subst hg;exact h
theorem kJ{c:Code}{i:Nat}{d:Option Nat}{a a':Act}{w w':World}{v:Value}{s:Spec}(hd:bg c i=d)(ea:a'=a.put d v)(hK:Kp w w')(h:s.ok v w'):∃v,a'=a.put (bg c i) v∧Kp w w'∧s.ok v w':=⟨v,by rw[hd];exact ea,hK,h⟩
theorem yN{c:Code}{i j:Nat}(h:o4 (dj c i) j=true):j∈dj c i:=gY.1 h
def Spec.sl(n:Nat)(xs:bp):Spec:= .any (fun v w=>∃A c,v=vS A n c∧(aL.rd A xs).holds w) (fun _ _ _ hK ⟨A,c,hv,h⟩=>⟨A,c,hv,(aL.rd A xs).fL (fun g hg=>hK.kept g ((aL.rd A xs).lt h hg) (fun h=>h)) h⟩)
theorem RO.later{w w':World}{r:aL}(h:RO aR w r)(hK:Kp w w'):RO aR w' r:=RO.at_ h hK
theorem RO.of{w:World}{r:aL}(h:r.holds w):RO aR w r:=⟨h,fun _ _ h=>h⟩
abbrev eI(x:Int):Spec:= .aQ (.int .i64 x)
abbrev eS(A:Option Addr)(n c:Nat):Spec:= .aQ (.slice A n c)
abbrev eB(b:Bool):Spec:= .aQ (.bool b)
abbrev eT(s:ByteArray):Spec:= .aQ (.string s)
abbrev eP(a:Addr):Spec:= .aQ (.pointer (some a))
abbrev eR(b o:Nat):Spec:= .aQ (.pointer (some ⟨b,o,none⟩))
abbrev eA(a:Addr)(i:Int)(k:Nat):Spec:= .aQ (.pointer (some (a.add (i.toNat*k))))
end Go.Mor
namespace Go.Mor
open Go.RowKit
theorem o6{e size n c:Nat}{ad:Addr}{P:Program}:∀(vs:bp) (off i:Nat) {xs:bp} {w:World},(∀v∈vs,v.oneCell'=true)→(aL.row e size (some ad) n c xs).holds w→off+i+vs.length≤xs.length→∃w',(storeCells (ad.add off) vs i).run P w= .ok () w'∧Mem (aL.row e size (some ad) n c xs).fp w w' [.row e size (some ad) n c (xs.take (off+i)++vs++xs.drop (off+i+vs.length))]
 |[],off,i,xs,w,_,hb,_=>⟨w,by simp[storeCells],by simpa using Mem.kr hb⟩
 |v::vs,off,i,xs,w,h1,hb,hl=>by
  simp only[bk]at hl;have hm:=Mem.zY (j:=off+i) hb v;have GI:=hm.get 0 rfl;obtain⟨w',hr,H7⟩:=o6 vs off (i+1) (fun u hu=>h1 u (List.mem_cons_of_mem _ hu)) GI (by simp;omega);refine⟨w',?_,?_⟩
  ·have fo:off+i<xs.length:=oM;obtain⟨a',mT,oX⟩:=az hb (off+i) xs[off+i] (by simp[fo]);injection mT with mT;subst mT;have pQ:(store (ad.add (off+i)) v).run P w= .ok () (w.setCell (ad.add (off+i)) v):=by rw[run_store P w _ v .plain (h1 v (List.mem_cons_self ..)),oX];simp[qJ hb]
   simp only[storeCells,Sem.run_bind,add_add,pQ,Result.andThen_ok];simpa[add_add]using hr
  ·have KU:(xs.set (off+i) v).take (off+(i+1))++vs++(xs.set (off+i) v).drop (off+(i+1)+vs.length)=xs.take (off+i)++v::vs++xs.drop (off+i+(v::vs).length):=by rw[←Nat.add_assoc,List.take_succ_eq_append_getElem (by simp;omega),List.drop_set,if_pos oM];simp[List.take_set_of_le (Nat.le_refl _),Nat.add_assoc,Nat.add_comm 1]
   rw[KU]at H7;have:=hm.mod 0 rfl H7;simpa using this
theorem x6(z:Value)(n:Nat):(Builtin.zeroCells #[z] n).toList=List.replicate n z:=by
 apply List.ext_getElem?;intro j;by_cases hj:j<n
 ·simp[Builtin.zeroCells,hj,Nat.mod_one]
 ·simp[Builtin.zeroCells,hj]
section
variable {P : Program} {c : Code} {K : Act → World → Prop} {Q : Exit → Act → World → Prop} {a : Act} {w w0 : World} {S : Nat → Prop} {L : List aL} {k k' : Nat} {N : FN} {env : Env}
variable {d : Option Nat} {ty : Nat} {g : Option (Nat × Bool)}
theorem EB{t:TypeId}{x:Operand}(hk:ao c k=some (d,.call {callee:= .builtin .clear,args:=#[x],argTypes:=#[t]},ty,g))(hF:Fr a N env)(hg:bu c g env=some true)(hd:gL d N=true)(im:k+1=k'){e:Nat}{z:Value}(ht:P.underlying t=some (.slice e))(hi:(P.info? e).map (fun i=>(i.size,i.zero))=some (1,some z))(hz:z.oneCell'=true){ad:Addr}{off m cap' n cap:Nat}{xs:bp}(hx:ev env x=some (vS (some (ad.add off)) m cap'))(hM:Mem S w0 w L)(i:Nat)(hL:L[i]?=some (.row e 1 (some ad) n cap xs))(hm:off+m≤n)(h:∀w',Mem S w0 w' (L.set i (.row e 1 (some ad) n cap (xs.take off++List.replicate m z++xs.drop (off+m))))→True→∀a',a'=a.put d undef→Fr a' N (dN env d undef)→bw P c K Q k' a' w'):bw P c K Q k a w:=by
 subst im;have kj:=hM.get i hL;have hlen:=z1 kj;obtain⟨w',hr,YT⟩:=o6 (P:=P) (List.replicate m z) off 0 (by intro v hv;rw[List.eq_of_mem_replicate hv];exact hz) kj (by simp;omega);simp only[Nat.add_zero,List.length_replicate]at YT;refine gF hk hF hg (v:=undef) (w':=w') (fun o ho hty=> ?_) (h w' (by simpa using hM.mod i hL YT) trivial _ rfl (hF.put hd _));unfold execOp;rw[ho];cases qM:P.info? e with
 |none=>simp[qM]at hi
 |some inf=>
  simp only[qM,Option.map_some,Option.some.injEq,Prod.mk.injEq]at hi;obtain⟨hs,Ex⟩:=hi;have vC:(zeroValue e).run P w= .ok z w:=by simp[zeroValue,typeInfo,qM,Ex]
  simp only[resolve,invoke,builtin,Sem.run_bind,Sem.run_pure,Result.andThen_ok,List.map_toArray,List.map_cons,List.map_nil,hF.ev hx,Builtin.clear_];simp only[show(#[t]:Array TypeId)[0]?=some t from rfl,show(#[Value.slice (some (ad.add off)) m cap']:Array Value)[0]?=some (vS (some (ad.add off)) m cap')from rfl,Sem.run_bind,run_underlying ht,Result.andThen_ok];cases m with
  |zero=>
   simp only[List.replicate_zero,storeCells,Sem.run_pure,Result.ok.injEq,true_and]at hr;subst hr;simp[undef]
  |succ m=>
   simp only[Sem.run_bind,vC,Result.andThen_ok,pP hz,x6,hr];rfl
end
theorem Mem.o7{S:Nat→Prop}{w0 w:World}{L:List aL}{e size n cap:Nat}{A:aA}{xs:bp}(hM:Mem S w0 w L)(i:Nat)(hL:L[i]?=some (.row e size A n cap xs))(m:Nat)(hm:m≤n):Mem S w0 w (L.set i (.row e size A m cap (xs.take (m*size)))):=by
 refine hM.say i hL (fun h=> ?_) (fun g hg=>hg);have hlen:=z1 h;rcases h.2 with⟨h1,h2⟩|⟨g,cap',cur,hv,hb,hg,YQ,hcm,zZ,ht⟩
 ·injection h1 with h1 h3 h4;have:m=0:=oM;subst h1;subst h4;subst this;refine⟨sI,.inl ⟨rfl,rfl⟩⟩
 ·injection hv with hv h2 h3;subst hv;subst h3;have hms:m*size≤n*size:=Nat.mul_le_mul_right _ hm;refine⟨by rw[List.length_take,hlen];omega,.inr ⟨g,cap,cur,rfl,hb,hg,oM,hcm,zZ,?_⟩⟩;rw[←ht,List.take_take];congr 1;omega
end Go.Mor
namespace Go.Mor
open Go.RowKit
def nS(ls:Nat→Bool)(i:Nat):Nat→Bool:=fun j=>match Nat.beq j i with
 |true=>true
 |false=>ls j
def s9(vs:Nat→Value)(i:Nat)(v:Value):Nat→Value:=fun j=>match Nat.beq j i with
 |true=>v
 |false=>vs j
def qP(c:Code)(ls:Nat→Bool):Prop:=∀j,ls j=true→∀k,k∈dj c j→ls k=true
def reach(c:Code):Nat→Nat→Nat→Bool
 |0,_,_=>false
 |n+1,j,i=>o4 (dj c j) i||(dj c j).any (fun k=>reach c n k i)
theorem aH{c:Code}{ls:Nat→Bool}(hc:qP c ls){i:Nat}(hi:ls i=false):∀{n j:Nat},reach c n j i=true→ls j=false
 |0,j,h=>by simp[reach]at h
 |n+1,j,h=>by
  cases hq:ls j with
  |false=>rfl
  |true=>
   exfalso;simp only[reach,Bool.or_eq_true,List.any_eq_true]at h;rcases h with h|⟨k,hk,h⟩
   ·rw[hc j hq i (gY.1 h)]at hi;cases hi
   ·have:=aH hc hi h;rw[hc j hq k hk]at this;cases this
theorem bd{c:Code}{ls:Nat→Bool}(hc:qP c ls){i:Nat}(hp:∀k,k∈dj c i→ls k=true):∀{n j:Nat},reach c n i j=true→ls j=true:=by
 have key:∀{n i' j:Nat},ls i'=true→reach c n i' j=true→ls j=true:=by
  intro n;induction n with
  |zero=>intro i' j _ h;simp[reach]at h
  |succ n ih=>
   intro i' j hi h;simp only[reach,Bool.or_eq_true,List.any_eq_true]at h;rcases h with h|⟨k,hk,h⟩
   ·exact hc i' hi j (gY.1 h)
   ·exact ih (hc i' hi k hk) h
 intro n j h;cases n with
 |zero=>simp[reach]at h
 |succ n=>
  simp only[reach,Bool.or_eq_true,List.any_eq_true]at h;rcases h with h|⟨k,hk,h⟩
  ·exact hp j (gY.1 h)
  ·exact key (hp k hk) h
def qw(P:Program)(c:Code)(Q:Exit→Act→World→Prop)(N:FN)(env0:Env)(sp:Nat→Spec)(J:(Nat→Bool)→(Nat→Value)→World→Prop)(i:Nat):Prop:=∀(a:Act) (w:World) (ls:Nat→Bool) (vs:Nat→Value) (rest:Env),J ls vs w→ls i=false→qP c ls→(∀j,j∈dj c i→ls j=true∧(sp j).ok (vs j) w)→Fr a N (bR c i sp vs env0++rest)→∃b,(∀g,(ao c i).map (·.2.2.2)=some g→bu c g (bR c i sp vs env0++rest)=some b)∧(b=true→bw P (one c i) (fun a' w'=>∃v,a'=a.put (bg c i) v∧(sp i).ok v w'∧J (nS ls i) (s9 vs i v) w') Q 0 a w)∧(b=false→(sp i).ok undef w∧J (nS ls i) (s9 vs i undef) w)
theorem hZ{c:Code}{i:Nat}{E:Env}{g0:Option (Nat×Bool)}{X Y:Prop}(hx:X)(h0:(ao c i).map (·.2.2.2)=some g0:=by kernel_rfl)(h:bu c g0 E=some true:=by kernel_rfl):∃b,(∀g,(ao c i).map (·.2.2.2)=some g→bu c g E=some b)∧(b=true→X)∧(b=false→Y):=⟨true,jF h0 h,fun _=>hx,fun h=>Bool.noConfusion h⟩
section
variable {P : Program} {c : Code} {K : Act → World → Prop} {Q : Exit → Act → World → Prop} {N : FN} {env0 : Env} {sp : Nat → Spec} {J : (Nat → Bool) → (Nat → Value) → World → Prop}
def nU(c:Code)(N:FN)(env0:Env)(sp:Nat→Spec)(J:(Nat→Bool)→(Nat→Value)→World→Prop)(listed:Array Bool)(a:Act)(w:World):Prop:=∃(ls:Nat→Bool) (vs:Nat→Value),(∀j,j<listed.size→ls j=listed.getD j false)∧(∀j,listed.size≤j→ls j=false)∧J ls vs w∧a.defers=N.D∧a.tmps.size=N.n∧qP c ls∧(∀j,ls j=true→(sp j).ok (vs j) w∧∀d,bg c j=some d→a.tmps[d]?=some (vs j))∧(∀t v,(t,v)∈env0→(∀j,ls j=true→bg c j≠some t)→a.tmps[t]?=some v)
theorem vN(hd:j6 c=true)(gK:∀i d,bg c i=some d→d<N.n)(vO:∀j v w w',(sp j).ok v w→(sp j).ok v w'){i:Nat}(hi:qw P c Q N env0 sp J i){listed:Array Bool}{a:Act}{w:World}(hn:listed.size=(opsOf c).size)(hr:i∈Region.ready .any (opsOf c) listed)(hk:nU c N env0 sp J listed a w){G:Act→World→Prop}(hG:∀a' w',nU c N env0 sp J (listed.setIfInBounds i true) a' w'→G a' w'):wpOp P (opsOf c) (Exit.then K Q) i G a w:=by
 obtain⟨fo,QB,o,ho,Ey⟩:=fB hr;obtain⟨ls,vs,PR,Z1,hJ,s6,jo,uV,xZ,ns⟩:=hk;have Ib:ls i=false:=by rw[PR i oM];have:i<listed.size:=oM;simp[Array.getD,this]at QB⊢;exact QB
 have hlts:∀j,ls j=true→j<listed.size:=by
  intro j hj;rcases Nat.lt_or_ge j listed.size with h|h
  ·exact h
  ·rw[Z1 j h]at hj;cases hj
 have gl:∀j,j∈dj c i→ls j=true:=by
  intro j hj;simp only[dj,ho,List.mem_map,List.mem_filter]at hj;obtain⟨e,⟨he,hb⟩,rfl⟩:=hj;have h1:=Ey e he hb;have h2:e.on<listed.size:=by
   rcases Nat.lt_or_ge e.on listed.size with h|h
   ·exact h
   ·have h3:¬(e.on<listed.size):=oM;simp[Array.getD,h3]at h1
  rw[PR _ h2];exact h1
 have KZ:bg c i=o.dst:=by simp[bg,ho]
 have hF:Fr a N (bR c i sp vs env0++[]):=by
  refine⟨s6,jo,fun t v hv=> ?_⟩;rw[List.append_nil]at hv;rcases jK hv with h1|h1
  ·obtain⟨j,hj,ql,rfl⟩:=lN h1;obtain⟨h2,h3⟩:=xZ j (gl j hj);rw[Spec.s5 h2];exact h3 t ql
  ·obtain⟨h2,h3⟩:=pR h1;refine ns t v h2 (fun j hj ql=> ?_);have:=uV j hj i (h3 j ql);rw[Ib]at this;cases this
 obtain⟨b,hb,K0,K1⟩:=hi a w ls vs [] hJ Ib uV (fun j hj=>⟨gl j hj,(xZ j (gl j hj)).1⟩) hF;have CC:ao c i=some (o.dst,o.op,o.type,o.guard):=by simp[ao,ho]
 have hw:=rE (c:=c) hF rfl (hb _ (by rw[CC];rfl));have oA:∀j,nS ls i j=true→j=i∨ls j=true:=by
  intro j hj;simp only[nS]at hj;cases hq:Nat.beq j i with
  |true=>exact .inl (Nat.eq_of_beq_eq_true hq)
  |false=>rw[hq]at hj;exact .inr hj
 have Vn:∀j,ls j=true→nS ls i j=true:=by intro j hj;simp only[nS];cases hq:Nat.beq j i<;>simp[hj]
 have Z2:nS ls i i=true:=by simp[nS]
 have hvi:s9 vs i=fun v j=>if j=i then v else vs j:=by
  funext v j;simp only[s9];cases hq:Nat.beq j i with
  |true=>simp[Nat.eq_of_beq_eq_true hq]
  |false=>
   have:j≠i:=fun e=>by subst e;simp at hq
   simp[this]
 have next:∀v w',(sp i).ok v w'→J (nS ls i) (s9 vs i v) w'→nU c N env0 sp J (listed.setIfInBounds i true) (a.put o.dst v) w':=by
  intro v w' hv hJ';refine⟨nS ls i,s9 vs i v,?_,?_,hJ',by cases K4:o.dst<;>simp[Act.put,s6],by cases K4:o.dst<;>simp[Act.put,jo],?_,?_,?_⟩
  ·intro j hj;have Ez:j<listed.size:=by simpa using hj
   by_cases e:i=j
   ·subst e;rw[Z2];simp[Array.getD_eq_getD_getElem?,Ez]
   ·have hb:Nat.beq j i=false:=by
     cases hq:Nat.beq j i with
     |false=>rfl
     |true=>exact absurd (Nat.eq_of_beq_eq_true hq).symm e
    simp only[nS,hb];rw[PR j Ez];simp[Array.getD_eq_getD_getElem?,Array.getElem?_setIfInBounds_ne e]
  ·intro j hj;have Ez:listed.size≤j:=by simpa using hj
   have hb:Nat.beq j i=false:=by
    cases hq:Nat.beq j i with
    |false=>rfl
    |true=>have:=Nat.eq_of_beq_eq_true hq;omega
   simp only[nS,hb];exact Z1 j Ez
  ·intro j hj k hk;rcases oA j hj with rfl|h1
   ·exact Vn k (gl k hk)
   ·exact Vn k (uV j h1 k hk)
  ·intro j hj;rw[hvi];rcases oA j hj with rfl|h1
   ·refine⟨by simpa using hv,fun d ql=> ?_⟩;rw[KZ]at ql;simp only[ql,Act.put,if_true];have:=gK j d (by rw[KZ];exact ql);rw[Array.getElem?_setIfInBounds_self_of_lt oM]
   ·have dG:j≠i:=fun e=>by subst e;rw[Ib]at h1;cases h1
    obtain⟨h2,h3⟩:=xZ j h1;refine⟨by simpa[dG]using vO j _ _ _ h2,fun d ql=> ?_⟩;simp only[dG,if_false];cases K4:o.dst with
    |none=>exact h3 d ql
    |some d'=>
     simp only[Act.put];have:d'≠d:=fun e=>by subst e;exact dG (GJ hd ql (by rw[KZ];exact K4))
     rw[Array.getElem?_setIfInBounds_ne this];exact h3 d ql
  ·intro t u htu hj;have h1:=ns t u htu (fun j Ez=>hj j (Vn j Ez));cases K4:o.dst with
   |none=>exact h1
   |some d'=>
    simp only[Act.put];have:d'≠t:=fun e=>by subst e;exact hj i Z2 (by rw[KZ];exact K4)
    rw[Array.getElem?_setIfInBounds_ne this];exact h1
 unfold wpOp;rw[ho];simp only[];rw[hw];cases b with
 |false=>
  simp only[Bool.false_eq_true,if_false];obtain⟨h1,h2⟩:=K1 rfl;exact hG _ _ (next undef w h1 h2)
 |true=>
  simp only[if_true];have h1:=K0 rfl;unfold bw at h1;rw[rN ho]at h1;simp only[List.drop_zero]at h1;unfold wpList at h1;rw[if_pos (by simp[Region.wanted])]at h1;rcases h1 with h1|⟨h1,h2⟩
  ·refine .inl ?_;have h3:o.wp P a w (fun a' w'=>∃v,a'=a.put (bg c i) v∧(sp i).ok v w'∧J (nS ls i) (s9 vs i v) w') (Exit.then K Q):=by
    have this:o.wp P a w (fun a' w'=>∃v,a'=a.put (bg c i) v∧(sp i).ok v w'∧J (nS ls i) (s9 vs i v) w') (Exit.then (fun a' w'=>∃v,a'=a.put (bg c i) v∧(sp i).ok v w'∧J (nS ls i) (s9 vs i v) w') Q):=h1;unfold Oper.wp at this⊢;generalize (execOp a.eval o).run P w=r at*;cases r with
    |ok n w'=>
     cases n<;>simp only[Oper.upon]at this⊢<;>first
      |exact this
      |exact Calls.mono this (fun e w'' he=>by cases e<;>exact he)
    |halt x w'=>cases x<;>simp only[Oper.upon]at this⊢<;>exact this
   refine Oper.wp_mono ?_ h3;rintro a' w' ⟨v,rfl,hv,hJv⟩;rw[KZ];exact hG _ _ (next v w' hv hJv)
  ·refine .inr ⟨h1,?_⟩;obtain⟨a0,w0,h0⟩:=h2;exact⟨a0,w0,h0⟩
theorem Ic(hd:j6 c=true)(gK:∀i d,bg c i=some d→d<N.n)(vO:∀j v w w',(sp j).ok v w→(sp j).ok v w')(gl:fO c=true)(nR:∀i,i<(opsOf c).size→qw P c Q N env0 sp J i)(z8:∀a w,(∀listed:Array Bool,listed.size=(opsOf c).size→(∀j,j<(opsOf c).size→listed.getD j false=true)→nU c N env0 sp J listed a w→K a w)):∀(fuel:Nat) (listed:Array Bool) (a:Act) (w:World),listed.size=(opsOf c).size→((List.range (opsOf c).size).filter (fun j=> !listed.getD j false)).length≤fuel→nU c N env0 sp J listed a w→wpAny P .any (opsOf c) (Exit.then K Q) fuel listed a w:=by
 have jE:∀listed:Array Bool,listed.size=(opsOf c).size→Region.ready .any (opsOf c) listed=[]→∀j,j<(opsOf c).size→listed.getD j false=true:=by
  intro listed jo hr j;induction j using Nat.strongRecOn with
  |_ j ih=>
   intro hj;cases hq:listed.getD j false with
   |true=>rfl
   |false=>
    exfalso;have:j∈Region.ready .any (opsOf c) listed:=by
     simp only[Region.ready,List.mem_filter,List.mem_range,Bool.and_eq_true,Bool.not_eq_true'];have Eg:j<listed.size:=oM;refine⟨hj,?_,?_⟩
     ·simp[Array.getD,Eg]at hq⊢;exact hq
     ·have ho:(opsOf c)[j]?=some (opsOf c)[j]:=by simp[hj]
      simp only[ho,Option.map_some,Option.getD_some];rw[Array.all_eq_true_iff_forall_mem];intro e he;cases hb:Region.binds .any e with
      |false=>rfl
      |true=>
       have cn:e.on∈dj c j:=by simp only[dj,ho,List.mem_map,List.mem_filter];exact⟨e,⟨Array.mem_toList_iff.2 he,hb⟩,rfl⟩
       have fo:e.on<j:=by simp only[fO,List.all_eq_true,List.mem_range]at gl;have:=gl j hj e.on cn;simpa[Nat.blt_eq]using this
       simp[ih e.on fo oM]
    rw[hr]at this;simp at this
 intro fuel;induction fuel with
 |zero=>
  intro listed a w jo hf hk;have cr:∀j,j<(opsOf c).size→listed.getD j false=true:=by
   intro j hj;cases hq:listed.getD j false with
   |true=>rfl
   |false=>
    have:j∈(List.range (opsOf c).size).filter (fun j=> !listed.getD j false):=List.mem_filter.2 ⟨List.mem_range.2 hj,by rw[hq];rfl⟩;have:=List.length_pos_of_mem this;omega
  refine⟨?_,z8 a w listed jo cr hk⟩;cases hr:Region.ready .any (opsOf c) listed with
  |nil=>rfl
  |cons i r=>
   exfalso;have hi:i∈Region.ready .any (opsOf c) listed:=by rw[hr];simp
   obtain⟨h1,h2,_⟩:=fB hi;have:=cr i h1;have uU:i<listed.size:=oM;simp[Array.getD,uU]at h2 this;rw[h2]at this;cases this
 |succ fuel ih=>
  intro listed a w jo hf hk;refine⟨fun hr=>z8 a w listed jo (jE listed jo hr) hk,fun i hi=> ?_⟩;obtain⟨h1,h2,_⟩:=fB hi;refine vN hd gK vO (nR i h1) jo hi hk (fun a' w' im=> ?_);refine ih _ a' w' (by simpa using jo) ?_ im;have uU:i<listed.size:=oM;have Vk:listed.getD i false=false:=by simp[Array.getD,uU]at h2⊢;exact h2
  have fo:((List.range (opsOf c).size).filter (fun j=> !(listed.setIfInBounds i true).getD j false)).length<((List.range (opsOf c).size).filter (fun j=> !listed.getD j false)).length:=by
   have kl:((List.range (opsOf c).size).filter (fun j=> !(listed.setIfInBounds i true).getD j false))=((List.range (opsOf c).size).filter (fun j=> !listed.getD j false)).filter (fun j=> !(Nat.beq j i)):=by
    rw[List.filter_filter];apply List.filter_congr;intro j _;by_cases e:i=j
    ·subst e;simp[Array.getD_eq_getD_getElem?,uU]
    ·have hb:Nat.beq j i=false:=by
      cases hq:Nat.beq j i with
      |false=>rfl
      |true=>exact absurd (Nat.eq_of_beq_eq_true hq).symm e
     simp[Array.getD_eq_getD_getElem?,Array.getElem?_setIfInBounds_ne e,hb]
   rw[kl];have cn:i∈(List.range (opsOf c).size).filter (fun j=> !listed.getD j false):=List.mem_filter.2 ⟨List.mem_range.2 h1,by rw[Vk];rfl⟩;refine List.length_filter_lt_length_iff_exists.2 ⟨i,cn,sI⟩
  omega
theorem QC(hk:kind c= .region true)(hm:P.follows .mixedOrders=true){a:Act}{wr:World}(sp:Nat→Spec)(J:(Nat→Bool)→(Nat→Value)→World→Prop)(hd:j6 c=true)(gl:fO c=true)(hF:Fr a N env0)(o5:nQ env0=true)(gK:(List.range (opsOf c).size).all (fun i=>gL (bg c i) N)=true)(vO:∀j v w w',(sp j).ok v w→(sp j).ok v w')(h0:J (fun _=>false) (fun _=>undef) wr.drew)(nR:∀i,i<(opsOf c).size→qw P c Q N env0 sp J i)(h:∀a' w' (ls:Nat→Bool) (vs:Nat→Value),(∀j,j<(opsOf c).size→ls j=true)→J ls vs w'→(∀j,j<(opsOf c).size→(sp j).ok (vs j) w')→Fr a' N (oz c sp vs (List.range (opsOf c).size)++rK c env0)→K a' w'):W P c K Q a wr:=by
 have EA:∀i d,bg c i=some d→d<N.n:=by
  intro i d hi;have fo:i<(opsOf c).size:=by
   simp only[bg]at hi;cases ho:(opsOf c)[i]? with
   |none=>simp[ho]at hi
   |some o=>exact(Array.getElem?_eq_some_iff.1 ho).1
  simp only[List.all_eq_true,List.mem_range]at gK;have:=gK i fo;rw[hi]at this;simpa[gL,Nat.blt_eq]using this
 cases c<;>simp[kind]at hk;rename_i id ops dr;subst hk;refine wp_region_any hm ?_;have h1:nU (.region id ops true) N env0 sp J (Array.replicate ops.size false) a {wr with drawn:=wr.drawn+1}:=by refine⟨fun _=>false,fun _=>undef,?_,fun _ _=>rfl,h0,hF.defers,hF.size,(fun _ hj=>absurd hj sI),(fun _ hj=>absurd hj sI),fun t v Vm _=>hF.slot t v (nr o5 Vm)⟩;intro j hj;simp at hj;simp[Array.getD_eq_getD_getElem?,hj]
 refine Ic (c:= .region id ops true) hd EA vO gl nR ?_ ops.size _ a _ (by simp[opsOf]) ?_ h1
 ·intro a' w' listed jo cr hk;obtain⟨ls,vs,PR,_,hJ,s6,Vo,_,xZ,ns⟩:=hk;have fo:∀j,j<(opsOf (.region id ops true)).size→ls j=true:=fun j hj=>by rw[PR j oM];exact cr j hj
  refine h a' w' ls vs fo hJ (fun j hj=>(xZ j (fo j hj)).1) ⟨s6,Vo,fun t v hv=> ?_⟩;rcases jK hv with h1|h1
  ·obtain⟨j,hj,ql,rfl⟩:=lN h1;obtain⟨h2,h3⟩:=xZ j (fo j (List.mem_range.1 hj));rw[Spec.s5 h2];exact h3 t ql
  ·obtain⟨h2,h3⟩:=pS h1;exact ns t v h2 (fun j _=>h3 j)
 ·refine Nat.le_trans (bx _ _) ?_;simp[opsOf]
end
def Spec.free:Spec:= .any (fun _ _=>True) (fun _ _ _ _ _=>trivial)
theorem aP{c:Code}{i:Nat}{d:Option Nat}{a a':Act}{w':World}{v:Value}{s:Spec}{Z:Value→Prop}(hd:bg c i=d)(ea:a'=a.put d v)(h:s.ok v w')(hJ:Z v):∃v,a'=a.put (bg c i) v∧s.ok v w'∧Z v:=⟨v,by rw[hd];exact ea,h,hJ⟩
inductive Plain:List Spec→Prop where
 |nil:Plain []
 |aQ {v r}:Plain r→Plain (.aQ v::r)
 |free {r}:Plain r→Plain (Spec.free::r)
theorem dW{l:List Spec}(h:Plain l):∀(j:Nat) (v:Value) (w w':World),(bI l j).ok v w→(bI l j).ok v w':=by
 induction h with
 |nil=>intro j v w w' h;exact h
 |aQ _ ih=>
  intro j v w w' h;cases j with
  |zero=>exact h
  |succ j=>exact ih j v w w' h
 |free _ ih=>
  intro j v w w' h;cases j with
  |zero=>exact h
  |succ j=>exact ih j v w w' h
def aL.and(r s:aL):aL where
 fp:=fun g=>r.fp g∨s.fp g
 holds w:=r.holds w∧s.holds w
 fL h hw:=⟨r.fL (fun g hg=>h g (.inl hg)) hw.1,s.fL (fun g hg=>h g (.inr hg)) hw.2⟩
 lt hw hg:=hg.elim (r.lt hw.1) (s.lt hw.2)
theorem Mem.vQ{w:World}{r s:aL}(hr:r.holds w)(hs:s.holds w)(ha:∀g,r.fp g→¬s.fp g):Mem (r.and s).fp w w [r,s]:=by
 refine⟨rfl,rfl,rfl,Nat.le_refl _,fun _ _ _=>rfl,?_,?_⟩
 ·intro q hq;simp only[List.mem_cons,List.not_mem_nil,or_false]at hq;rcases hq with rfl|rfl
  ·exact⟨hr,fun g hg=> .inl (.inl hg)⟩
  ·exact⟨hs,fun g hg=> .inl (.inr hg)⟩
 ·refine List.pairwise_cons.2 ⟨?_,List.pairwise_singleton _ _⟩;intro q hq;simp only[List.mem_singleton]at hq;subst hq;exact ha
section
variable {S : Nat → Prop} {w0 w w' : World} {L : List aL}
theorem ED{α:Type}{L:List α}{i:Nat}{r:α}(hi:L[i]?=some r):L.Perm (r::L.eraseIdx i):=by
 induction L generalizing i with
 |nil=>simp at hi
 |cons x L ih=>
  cases i with
  |zero=>simp at hi;subst hi;simp
  |succ i=>
   simp at hi;rw[List.eraseIdx_cons_succ];exact((ih hi).cons x).trans (List.Perm.swap r x _)
theorem Mem.front(h:Mem S w0 w L)(i:Nat){r:aL}(hi:L[i]?=some r):Mem S w0 w (r::L.eraseIdx i):=h.perm (ED hi)
theorem Mem.join{r s:aL}(h:Mem S w0 w (r::s::L)):Mem S w0 w (r.and s::L):=by
 have hp:=List.pairwise_cons.1 h.apart;have hq:=List.pairwise_cons.1 hp.2;refine⟨h.os,h.tape,h.output,h.size,h.kept,?_,List.pairwise_cons.2 ⟨?_,hq.2⟩⟩
 ·intro q qx;rcases List.mem_cons.1 qx with rfl|qx
  ·have h1:=h.own r (List.mem_cons_self ..);have h2:=h.own s (List.mem_cons_of_mem _ (List.mem_cons_self ..));exact⟨⟨h1.1,h2.1⟩,fun g hg=>hg.elim (h1.2 g) (h2.2 g)⟩
  ·exact h.own q (List.mem_cons_of_mem _ (List.mem_cons_of_mem _ qx))
 ·intro q qx g hg lM;rcases hg with hg|hg
  ·exact hp.1 q (List.mem_cons_of_mem _ qx) g hg lM
  ·exact hq.1 q qx g hg lM
theorem Mem.Vp{Lr:List aL}{r s r' s':aL}(h:Mem S w0 w (r::s::L))(h':Mem (r.and s).fp w w' (r'::s'::Lr)):Mem S w0 w' (r'::s'::(L++Lr)):=by
 have Ew:=List.pairwise_cons.1 h'.apart;have h1:=h.join.mod 0 rfl (r':=r') (Lr:=s'::Lr) h';simp only[List.set_cons_zero,gX]at h1;refine h1.perm (List.Perm.cons r' ?_);exact List.perm_middle
end
end Go.Mor
namespace Go.Mor
open Go.RowKit
theorem bL{P:Program}{c:Code}{K:Act→World→Prop}{Q:Exit→Act→World→Prop}{a:Act}{w:World}{k k':Nat}{N:FN}{env:Env}{d:Option Nat}{ty:Nat}{g:Option (Nat×Bool)}{op:BinOp}{t t':TypeId}{x y:Operand}(hk:ao c k=some (d,.binOp op t x y t',ty,g))(hF:Fr a N env)(hg:bu c g env=some true)(hd:gL d N=true)(im:k+1=k'){kd kd':IntKind}{i j:Int}{z:Value}(hx:ev env x=some (.int kd i))(hy:ev env y=some (.int kd' j))(hb:∀w,(binOp op t (.int kd i) (.int kd' j)).run P w= .ok z w)(h:∀a',a'=a.put d z→Fr a' N (dN env d z)→bw P c K Q k' a' w):bw P c K Q k a w:=by
 refine dR hk hF hg hd im (fun o ho=> ?_) h;unfold execOp;rw[ho];have he:(eqGuard op t x y (.int kd i) (.int kd' j)).run P w= .ok () w:=by cases op<;>simp[eqGuard]
 simp only[hF.ev hx,hF.ev hy,Sem.run_bind,he,Result.andThen_ok,hb];rfl
section
variable {P : Program} {t : TypeId}
theorem QD{i:Int}(m:Int)(h0:0≤i)(h1:i≤9223372036854775807)(hm:0<m)(w:World):(binOp .quo t (vI i) (vI m)).run P w= .ok (vI (i / m)) w:=by
 have dG:m≠0:=oM;have hle:i / m≤i:=Int.ediv_le_self _ h0;have h2:0≤i / m:=Int.ediv_nonneg h0 oM;have hw:IntKind.i64.wrap (i.tdiv m)=i / m:=by rw[Int.tdiv_eq_ediv_of_nonneg h0];exact IntWalk.i64_in _ ⟨oM,oM⟩
 simp[binOp,Op.intDiv,dG,hw]
theorem QE{i:Int}(m:Int)(h0:0≤i)(hm:0<m)(w:World):(binOp .rem t (vI i) (vI m)).run P w= .ok (vI (i % m)) w:=by
 have dG:m≠0:=oM;simp[binOp,Op.intDiv,dG,Int.tmod_eq_emod_of_nonneg h0]
theorem kO{i:Nat}(m:Nat)(h1:i≤9223372036854775807)(hm:0<m)(w:World):(binOp .quo t (vI (i:Int)) (vI (m:Int))).run P w= .ok (vI ((i / m:Nat):Int)) w:=QD (i:=(i:Int)) (m:Int) oM oM oM w
theorem o8{i:Nat}(m:Nat)(hm:0<m)(w:World):(binOp .rem t (vI (i:Int)) (vI (m:Int))).run P w= .ok (vI ((i % m:Nat):Int)) w:=QE (i:=(i:Int)) (m:Int) oM oM w
theorem nW{r:Nat}(h:r<64):(2:Nat)^r<2^64:=Nat.pow_lt_pow_right dQ h
theorem wrap_u64{q:Nat}(h:q<2^64):IntKind.u64.wrap (q:Int)=(q:Int):=IntWalk.u64_in _ ⟨oM,oM⟩
theorem Ae{r:Nat}(h:r<64)(w:World):(binOp .shl t (.int .u64 1) (vI (r:Int))).run P w= .ok (.int .u64 ((2^r:Nat):Int)) w:=by
 have h1:¬((r:Int)<0):=oM;have K6:min (r:Int).toNat IntKind.u64.bits=r:=by simp[IntKind.bits];omega
 have hw:IntKind.u64.wrap (1*2^r:Int)=((2^r:Nat):Int):=by have e:(1*2^r:Int)=((2^r:Nat):Int):=sI;rw[e];exact wrap_u64 (nW h)
 show(Op.shift .shl .u64 1 .i64 (r:Int)).run P w=_;unfold Op.shift;rw[if_neg h1];simp only[K6,hw,Sem.run_pure]
theorem EE{x y:Nat}(hx:x<2^64)(hy:y<2^64)(w:World):(binOp .or t (.int .u64 (x:Int)) (.int .u64 (y:Int))).run P w= .ok (.int .u64 ((x|||y:Nat):Int)) w:=by
 have h3:x|||y<2^64:=Nat.or_lt_two_pow hx hy;have hw:IntKind.u64.wrap ((x|||y:Nat):Int)=((x|||y:Nat):Int):=IntWalk.u64_in _ ⟨oM,oM⟩;have hb:(BitVec.ofInt IntKind.u64.bits (x:Int)|||BitVec.ofInt IntKind.u64.bits (y:Int)).toNat=x|||y:=by
  have e1:BitVec.ofInt IntKind.u64.bits (x:Int)=BitVec.ofNat 64 x:=by apply BitVec.eq_of_toNat_eq;simp[IntKind.bits]
  have e2:BitVec.ofInt IntKind.u64.bits (y:Int)=BitVec.ofNat 64 y:=by apply BitVec.eq_of_toNat_eq;simp[IntKind.bits]
  rw[e1,e2];show(BitVec.ofNat 64 x|||BitVec.ofNat 64 y).toNat=_;rw[BitVec.toNat_or,BitVec.toNat_ofNat,BitVec.toNat_ofNat,Nat.mod_eq_of_lt hx,Nat.mod_eq_of_lt hy]
 show(Op.intBits .or .u64 (x:Int) (y:Int)).run P w=_;simp only[Op.intBits,Sem.run_pure,hb,hw]
theorem Ag{x y:Nat}(hx:x<2^64)(hy:y<2^64)(w:World):(binOp .and t (.int .u64 (x:Int)) (.int .u64 (y:Int))).run P w= .ok (.int .u64 ((x&&&y:Nat):Int)) w:=by
 have h3:x&&&y<2^64:=Nat.lt_of_le_of_lt Nat.and_le_left hx;have hw:IntKind.u64.wrap ((x&&&y:Nat):Int)=((x&&&y:Nat):Int):=IntWalk.u64_in _ ⟨oM,oM⟩;have hb:(BitVec.ofInt IntKind.u64.bits (x:Int)&&&BitVec.ofInt IntKind.u64.bits (y:Int)).toNat=x&&&y:=by
  have e1:BitVec.ofInt IntKind.u64.bits (x:Int)=BitVec.ofNat 64 x:=by apply BitVec.eq_of_toNat_eq;simp[IntKind.bits]
  have e2:BitVec.ofInt IntKind.u64.bits (y:Int)=BitVec.ofNat 64 y:=by apply BitVec.eq_of_toNat_eq;simp[IntKind.bits]
  rw[e1,e2];show(BitVec.ofNat 64 x&&&BitVec.ofNat 64 y).toNat=_;rw[BitVec.toNat_and,BitVec.toNat_ofNat,BitVec.toNat_ofNat,Nat.mod_eq_of_lt hx,Nat.mod_eq_of_lt hy]
 show(Op.intBits .and .u64 (x:Int) (y:Int)).run P w=_;simp only[Op.intBits,Sem.run_pure,hb,hw]
theorem CF{x:Nat}(hx:x<2^64)(w:World):(binOp .and t (.int .u64 (x:Int)) (.int .u64 1)).run P w= .ok (.int .u64 ((x&&&1:Nat):Int)) w:=Ag (y:=1) hx dQ w
theorem GK{x r:Nat}(h:r<64)(w:World):(binOp .shr t (.int .u64 (x:Int)) (vI (r:Int))).run P w= .ok (.int .u64 ((x / 2^r:Nat):Int)) w:=by
 have h1:¬((r:Int)<0):=oM;have K6:min (r:Int).toNat IntKind.u64.bits=r:=by simp[IntKind.bits];omega
 have e:(x:Int).fdiv (2^r)=((x / 2^r:Nat):Int):=by have e2:(2^r:Int)=((2^r:Nat):Int):=sI;rw[e2,Int.fdiv_eq_ediv_of_nonneg _ (Int.natCast_nonneg _)];rfl
 show(Op.shift .shr .u64 (x:Int) .i64 (r:Int)).run P w=_;unfold Op.shift;rw[if_neg h1];simp only[K6,e,Sem.run_pure]
end
def aW(ws:List Nat):bp:=ws.map (fun x:Nat=>Value.int .u64 (x:Int))
def tb(ws:List Nat)(i:Nat):Bool:=(ws.getD (i / 64) 0).testBit (i % 64)
def kP(ws:List Nat)(i:Nat):List Nat:=ws.set (i / 64) (ws.getD (i / 64) 0|||2^(i % 64))
theorem jw{ws:List Nat}{i:Nat}(h:i<ws.length):(aW ws)[i]?=some (.int .u64 ((ws.getD i 0:Nat):Int)):=by
 simp[aW,List.getD,h]
theorem rR(ws:List Nat)(i x:Nat):aW (ws.set i x)=(aW ws).set i (.int .u64 (x:Int)):=by simp[aW,List.map_set]
theorem iP(ws:List Nat):(aW ws).length=ws.length:=by simp[aW]
theorem EF{ws:List Nat}{i:Nat}(hi:i / 64<ws.length)(j:Nat):tb (kP ws i) j=(decide (i=j)||tb ws j):=by
 unfold tb kP;by_cases h:i / 64=j / 64
 ·have e:(ws.set (i / 64) (ws.getD (i / 64) 0|||2^(i % 64))).getD (j / 64) 0=(ws.getD (i / 64) 0|||2^(i % 64)):=by rw[←h];simp[List.getD,hi]
  rw[e,Nat.testBit_or,Nat.testBit_two_pow,←h];have e2:(i % 64=j % 64)↔i=j:=oM;simp only[e2];rw[Bool.or_comm]
 ·have e:(ws.set (i / 64) (ws.getD (i / 64) 0|||2^(i % 64))).getD (j / 64) 0=ws.getD (j / 64) 0:=by simp[List.getD,List.getElem?_set_ne h]
  rw[e];have:¬i=j:=fun e=>h (by rw[e])
  simp[this]
theorem Aj(k j:Nat):tb (List.replicate k 0) j=false:=by
 unfold tb;have:(List.replicate k 0).getD (j / 64) 0=0:=by
  by_cases h:j / 64<k
  ·simp[List.getD,h]
  ·simp[List.getD,h]
 rw[this,Nat.zero_testBit]
theorem K7(x r:Nat):(((x / 2^r&&&1:Nat):Int)==1)=x.testBit r:=by
 rw[Nat.testBit,Nat.shiftRight_eq_div_pow,Nat.and_comm 1];rcases Nat.mod_two_eq_zero_or_one (x / 2^r)with h|h
 ·rw[Nat.and_one_is_mod,h];rfl
 ·rw[Nat.and_one_is_mod,h];rfl
def Fit(ws:List Nat):Prop:=∀x,x∈ws→x<2^64
theorem Fit.get{ws:List Nat}(h:Fit ws)(i:Nat):ws.getD i 0<2^64:=by
 unfold List.getD;cases hx:ws[i]? with
 |none=>simp
 |some x=>exact h x (List.mem_of_getElem? hx)
theorem Fit.put{ws:List Nat}(h:Fit ws)(i:Nat):Fit (kP ws i):=by
 intro x hx;unfold kP at hx;rcases List.mem_or_eq_of_mem_set hx with h1|h1
 ·exact h x h1
 ·subst h1;exact Nat.or_lt_two_pow (h.get _) (nW (Nat.mod_lt _ dQ))
theorem Fit.zero(k:Nat):Fit (List.replicate k 0):=by
 intro x hx;rw[List.eq_of_mem_replicate hx];decide
end Go.Mor
namespace Go.Mor
open Go.RowKit
structure dg where
 A:aA
 n:Nat
 c:Nat
 xs:bp
def fg:dg:=⟨none,0,0,[]⟩
def dg.res(e:Nat)(r:dg):aL:= .row e 1 r.A r.n r.c r.xs
def bt(rows:List dg):bp:=rows.map (fun r=>Value.slice r.A r.n r.c)
def aL.bo(e:Nat)(rows:List dg):aL where
 fp:=fun g=>∃r,r∈rows∧(r.res e).fp g
 holds w:=(∀r,r∈rows→(r.res e).holds w)∧rows.Pairwise (fun(r s:dg)=>∀g:Nat,(r.res e).fp g→¬(s.res e).fp g)
 fL h hw:=⟨fun r hr=>(r.res e).fL (fun g hg=>h g ⟨r,hr,hg⟩) (hw.1 r hr),hw.2⟩
 lt:=by
  rintro w g hw ⟨r,hr,hg⟩
  exact(r.res e).lt (hw.1 r hr) hg
theorem tc{e:Nat}{g:Nat}:¬(fg.res e).fp g:=by
 rintro⟨a,ha,_⟩;cases ha
theorem yO(e:Nat)(w:World):(fg.res e).holds w:=GG w e 1
theorem GL{w:World}{e:Nat}{rows:List dg}(h:(aL.bo e rows).holds w){t:Nat}{r:dg}(ht:rows[t]?=some r):(aL.row e 1 r.A r.n r.c r.xs).holds w:=h.1 r (List.mem_of_getElem? ht)
theorem da{rows:List dg}{t:Nat}{r:dg}(ht:rows[t]?=some r):(bt rows)[t]?=some (vS r.A r.n r.c):=by simp[bt,ht]
theorem lG(rows:List dg):(bt rows).length=rows.length:=by simp[bt]
theorem nX(rows:List dg)(t:Nat)(r:dg):bt (rows.set t r)=(bt rows).set t (vS r.A r.n r.c):=by simp[bt,List.map_set]
theorem kA(rows:List dg)(r:dg):bt (rows++[r])=bt rows++[.slice r.A r.n r.c]:=by simp[bt]
theorem Mem.mW(w:World)(e n:Nat):Mem aR w w [.bo e (List.replicate n fg)]:=by
 refine⟨rfl,rfl,rfl,Nat.le_refl _,fun _ _ _=>rfl,?_,List.pairwise_singleton _ _⟩;simp only[List.mem_singleton];rintro _ rfl;refine⟨⟨fun r hr=>by rw[List.eq_of_mem_replicate hr];exact yO e w,?_⟩,fun g hg=> ?_⟩
 ·rw[List.pairwise_replicate];exact .inr (fun g hg=>(tc hg).elim)
 ·obtain⟨r,hr,hg⟩:=hg;rw[List.eq_of_mem_replicate hr]at hg;exact(tc hg).elim
section
variable {S : Nat → Prop} {w0 w : World} {L : List aL}
theorem Mem.focus{e:Nat}{rows:List dg}(h:Mem S w0 w (.bo e rows::L))(t:Nat){r:dg}(ht:rows[t]?=some r):Mem S w0 w (.bo e (rows.set t fg):: .row e 1 r.A r.n r.c r.xs::L):=by
 have hp:=List.pairwise_cons.1 h.apart;have hf:=h.own _ (List.mem_cons_self ..);obtain⟨⟨hh,Tp⟩,hS⟩:=hf;have hr:r∈rows:=List.mem_of_getElem? ht;have uy:∀s,s∈rows.set t fg→s=fg∨∃j,j≠t∧rows[j]?=some s:=by
  intro s hs;obtain⟨j,hj⟩:=List.mem_iff_getElem?.1 hs;by_cases e1:t=j
  ·subst e1;have fo:=(List.getElem?_eq_some_iff.1 ht).1;rw[List.getElem?_set_self fo]at hj;injection hj with hj;exact .inl hj.symm
  ·rw[List.getElem?_set_ne e1]at hj;exact .inr ⟨j,fun h=>e1 h.symm,hj⟩
 have sym:∀x y:dg,(∀g,(x.res e).fp g→¬(y.res e).fp g)→∀g,(y.res e).fp g→¬(x.res e).fp g:=fun x y h g hy hx=>h g hx hy
 refine⟨h.os,h.tape,h.output,h.size,h.kept,?_,?_⟩
 ·intro q hq;rcases List.mem_cons.1 hq with rfl|hq
  ·refine⟨⟨fun s hs=> ?_,?_⟩,fun g hg=> ?_⟩
   ·rcases uy s hs with rfl|⟨j,_,hj⟩
    ·exact yO e w
    ·exact hh s (List.mem_of_getElem? hj)
   ·rw[List.pairwise_iff_getElem];intro i j hi hj hij g hg lM;have gi:(rows.set t fg)[i]?=some (rows.set t fg)[i]:=List.getElem?_eq_getElem hi;have gj:(rows.set t fg)[j]?=some (rows.set t fg)[j]:=List.getElem?_eq_getElem hj;generalize (rows.set t fg)[i]=x at*;generalize (rows.set t fg)[j]=y at*;have fo:=(List.getElem?_eq_some_iff.1 ht).1;by_cases e1:t=i
    ·subst e1;rw[List.getElem?_set_self fo]at gi;injection gi with gi;subst gi;exact tc hg
    ·by_cases e2:t=j
     ·subst e2;rw[List.getElem?_set_self fo]at gj;injection gj with gj;subst gj;exact tc lM
     ·rw[List.getElem?_set_ne e1]at gi;rw[List.getElem?_set_ne e2]at gj;exact oT sym Tp gi gj oM g hg lM
   ·obtain⟨s,hs,hg⟩:=hg;rcases uy s hs with rfl|⟨j,_,hj⟩
    ·exact(tc hg).elim
    ·exact hS g ⟨s,List.mem_of_getElem? hj,hg⟩
  ·rcases List.mem_cons.1 hq with rfl|hq
   ·exact⟨hh r hr,fun g hg=>hS g ⟨r,hr,hg⟩⟩
   ·exact h.own q (List.mem_cons_of_mem _ hq)
 ·refine List.pairwise_cons.2 ⟨?_,List.pairwise_cons.2 ⟨?_,hp.2⟩⟩
  ·rintro q hq g ⟨s,hs,hg⟩ lM;rcases uy s hs with rfl|⟨j,hj,hs⟩
   ·exact tc hg
   ·rcases List.mem_cons.1 hq with rfl|hq
    ·exact oT sym Tp hs ht hj g hg lM
    ·exact hp.1 q hq g ⟨s,List.mem_of_getElem? hs,hg⟩ lM
  ·intro q hq g hg lM;exact hp.1 q hq g ⟨r,hr,hg⟩ lM
theorem Mem.j7{e n c:Nat}{A:aA}{xs:bp}{rows:List dg}(h:Mem S w0 w (.bo e rows:: .row e 1 A n c xs::L))(t:Nat)(ht:rows[t]?=some fg):Mem S w0 w (.bo e (rows.set t ⟨A,n,c,xs⟩)::L):=by
 have hp:=List.pairwise_cons.1 h.apart;have hq:=List.pairwise_cons.1 hp.2;obtain⟨⟨hh,Tp⟩,hS⟩:=h.own _ (List.mem_cons_self ..);have hr:=h.own _ (List.mem_cons_of_mem _ (List.mem_cons_self ..));have fo:=(List.getElem?_eq_some_iff.1 ht).1;have Ev:∀s,s∈rows→∀g,(s.res e).fp g→¬(aL.row e 1 A n c xs).fp g:=fun s hs g hg=>hp.1 _ (List.mem_cons_self ..) g ⟨s,hs,hg⟩
 have uy:∀s,s∈rows.set t ⟨A,n,c,xs⟩→s=⟨A,n,c,xs⟩∨s∈rows:=by intro s hs;exact(List.mem_or_eq_of_mem_set hs).symm
 have sym:∀x y:dg,(∀g,(x.res e).fp g→¬(y.res e).fp g)→∀g,(y.res e).fp g→¬(x.res e).fp g:=fun x y h g hy hx=>h g hx hy
 refine⟨h.os,h.tape,h.output,h.size,h.kept,?_,List.pairwise_cons.2 ⟨?_,hq.2⟩⟩
 ·intro q qx;rcases List.mem_cons.1 qx with rfl|qx
  ·refine⟨⟨fun s hs=> ?_,?_⟩,fun g hg=> ?_⟩
   ·rcases uy s hs with rfl|hs
    ·exact hr.1
    ·exact hh s hs
   ·rw[List.pairwise_iff_getElem];intro i j hi hj hij g hg lM;have gi:(rows.set t ⟨A,n,c,xs⟩)[i]?=some (rows.set t ⟨A,n,c,xs⟩)[i]:=List.getElem?_eq_getElem hi;have gj:(rows.set t ⟨A,n,c,xs⟩)[j]?=some (rows.set t ⟨A,n,c,xs⟩)[j]:=List.getElem?_eq_getElem hj;generalize (rows.set t ⟨A,n,c,xs⟩)[i]=x at*;generalize (rows.set t ⟨A,n,c,xs⟩)[j]=y at*;by_cases e1:t=i
    ·subst e1;rw[List.getElem?_set_self fo]at gi;injection gi with gi;subst gi;rw[List.getElem?_set_ne oM]at gj;exact Ev y (List.mem_of_getElem? gj) g lM hg
    ·rw[List.getElem?_set_ne e1]at gi;by_cases e2:t=j
     ·subst e2;rw[List.getElem?_set_self fo]at gj;injection gj with gj;subst gj;exact Ev x (List.mem_of_getElem? gi) g hg lM
     ·rw[List.getElem?_set_ne e2]at gj;exact oT sym Tp gi gj oM g hg lM
   ·obtain⟨s,hs,hg⟩:=hg;rcases uy s hs with rfl|hs
    ·exact hr.2 g hg
    ·exact hS g ⟨s,hs,hg⟩
  ·exact h.own q (List.mem_cons_of_mem _ (List.mem_cons_of_mem _ qx))
 ·rintro q qx g ⟨s,hs,hg⟩ lM;rcases uy s hs with rfl|hs
  ·exact hq.1 q qx g hg lM
  ·exact hp.1 q (List.mem_cons_of_mem _ qx) g ⟨s,hs,hg⟩ lM
theorem Mem.push{e n c:Nat}{A:aA}{xs:bp}{rows:List dg}(h:Mem S w0 w (.bo e rows:: .row e 1 A n c xs::L)):Mem S w0 w (.bo e (rows++[⟨A,n,c,xs⟩])::L):=by
 have hp:=List.pairwise_cons.1 h.apart;have hq:=List.pairwise_cons.1 hp.2;obtain⟨⟨hh,Tp⟩,hS⟩:=h.own _ (List.mem_cons_self ..);have hr:=h.own _ (List.mem_cons_of_mem _ (List.mem_cons_self ..));refine⟨h.os,h.tape,h.output,h.size,h.kept,?_,List.pairwise_cons.2 ⟨?_,hq.2⟩⟩
 ·intro q qx;rcases List.mem_cons.1 qx with rfl|qx
  ·refine⟨⟨fun s hs=> ?_,?_⟩,fun g hg=> ?_⟩
   ·rcases List.mem_append.1 hs with hs|hs
    ·exact hh s hs
    ·simp only[List.mem_singleton]at hs;subst hs;exact hr.1
   ·refine List.pairwise_append.2 ⟨Tp,List.pairwise_singleton _ _,fun s hs s' YU g hg lM=> ?_⟩;simp only[List.mem_singleton]at YU;subst YU;exact hp.1 _ (List.mem_cons_self ..) g ⟨s,hs,hg⟩ lM
   ·obtain⟨s,hs,hg⟩:=hg;rcases List.mem_append.1 hs with hs|hs
    ·exact hS g ⟨s,hs,hg⟩
    ·simp only[List.mem_singleton]at hs;subst hs;exact hr.2 g hg
  ·exact h.own q (List.mem_cons_of_mem _ (List.mem_cons_of_mem _ qx))
 ·rintro q qx g ⟨s,hs,hg⟩ lM;rcases List.mem_append.1 hs with hs|hs
  ·exact hp.1 q (List.mem_cons_of_mem _ qx) g ⟨s,hs,hg⟩ lM
  ·simp only[List.mem_singleton]at hs;subst hs;exact hq.1 q qx g hg lM
end
end Go.Mor
namespace Go.Mor
open Go.RowKit
theorem CG{P:Program}{c:Code}{K:Act→World→Prop}{Q:Exit→Act→World→Prop}{a:Act}{w:World}{k k':Nat}{N:FN}{env:Env}{d:Option Nat}{ty:Nat}{g:Option (Nat×Bool)}{ts:Array TypeId}{x y:Operand}(hk:ao c k=some (d,.call {callee:= .builtin .min,args:=#[x,y],argTypes:=ts},ty,g))(hF:Fr a N env)(hg:bu c g env=some true)(hd:gL d N=true)(im:k+1=k'){kd:IntKind}{i j:Int}(hx:ev env x=some (.int kd i))(hy:ev env y=some (.int kd j))(z:Int)(hz:z=if j<i then j else i)(h:∀a',a'=a.put d (.int kd z)→Fr a' N (dN env d (.int kd z))→bw P c K Q k' a' w):bw P c K Q k a w:=by
 refine dR hk hF hg hd im (fun o ho=> ?_) h;unfold execOp;rw[ho];simp only[resolve,invoke,builtin,Sem.run_bind,Sem.run_pure,Result.andThen_ok,List.map_toArray,List.map_cons,List.map_nil,hF.ev hx,hF.ev hy,Builtin.min_,List.foldlM];subst hz;simp[Builtin.min2];try (split<;>simp_all<;>omega)
theorem QF{w:World}{ad:Addr}{xs:bp}(h:(aL.rd (some ad) xs).holds w)(m:Nat):(aL.rd (some (ad.add (m*1))) (xs.drop m)).holds w:=by
 intro i v hi;rw[List.getElem?_drop]at hi;obtain⟨a',ha,hc⟩:=h (m+i) v hi;injection ha with ha;subst ha;refine⟨_,rfl,?_⟩;rw[add_add,Nat.mul_one];exact hc
end Go.Mor
namespace Go.Mor
open Go.RowKit
theorem x7{fn:Func}{t:Tmp}{ty:TypeId}(h:fn.results=#[.cell t ty])(tmps:Array Value)(P:Program)(w:World){ad:Addr}{vs:bp}(hp:tmps.getD t undef= .pointer (some ad))(ht:vy P ty=some vs.length)(hc:∀(j:Nat) (v:Value),vs[j]?=some v→w.cell? (ad.add j)=some v):(results fn tmps).run P w= .ok (.agg vs.toArray) w:=by
 obtain⟨h1,h2⟩:=pO ht w;have e:tmps[t]?.getD undef= .pointer (some ad):=by simpa using hp
 have ha:(asAddr (vP ad)).run P w= .ok ad w:=rfl;have hl:(loadVar ty ad).run P w= .ok (.agg vs.toArray) w:=by simp[loadVar,h1,h2,run_loadCells_list (P:=P) w ad vs hc]
 simp only[results,h];simp[Sem.run_bind,Result.andThen,e,ha,hl]
theorem Z3{P:Program}{fn:Func}{R:Ending→World→Prop}{a:Act}{w:World}{N:FN}{env:Env}{t:Tmp}{ty:TypeId}{ad:Addr}{vs:bp}(hF:Fr a N env)(hr:fn.results=#[.cell t ty])(hv:look env t=some (vP ad))(ht:vy P ty=some vs.length)(hc:∀(j:Nat) (v:Value),vs[j]?=some v→w.cell? (ad.add j)=some v)(h:R (.returned (.agg vs.toArray)) w)(hD:N.D=[]:=by rfl):bodyPost P fn R .ret a w:=by
 refine bodyPost_ret (v:= .agg vs.toArray) ?_ (hF.defers.trans hD) h;refine x7 hr _ _ _ ?_ ht hc;have:=hF.ev (x:= .tmp t) hv;simpa only[Act.eval]using this
end Go.Mor
