/-
  Texts of the proof, part 4.
-/
import Derived.Test.YtejbeeaomokjpaaGreatZo3
import Derived.Orders
set_option maxRecDepth 10000
open List Go.RowKit
open List renaming length -> ae
namespace Go.Mor
abbrev Kp(w w':World):Prop:=Mem bI w w' []
theorem Kp.refl(w:World):Kp w w:=Mem.init w
theorem Kp.trans{a b c:World}(h:Kp a b)(h':Kp b c):Kp a c:=by simpa using h.call h'
theorem Mem.kp{w w':World}{L:List bD}(h:Mem bI w w' L):Kp w w':=⟨h.os,h.tape,h.output,h.size,h.kept,sI,HK⟩
theorem Mem.aw{S:Nat->Prop}{w0 w w':World}{L:List bD}(h:Mem S w0 w L)(h':Kp w w'):Mem S w0 w' L:=by simpa using h.call h'
theorem Mem.cast{S:Nat->Prop}{w0 w:World}{L L':List bD}(h:Mem S w0 w L)(e:L=L'):Mem S w0 w L':=e▸h
inductive Spec where
 |bd(v:Value)
 |any(Φ:Value->World->Prop)(h:∀v w w',Kp w w'->Φ v w->Φ v w')
def Spec.ok:Spec->Value->World->Prop
 | .bd u,v,_=>v=u
 | .any Φ _,v,w=>Φ v w
def Spec.val:Spec->Value->Value
 | .bd u,_=>u
 | .any _ _,v=>v
theorem Spec.y6{s:Spec}{v:Value}{w:World}(h:s.ok v w):s.val v=v:=by
 cases s with
 |bd u=>exact h.symm
 |any Φ _=>rfl
theorem Spec.kD(s:Spec)(v:Value)(w w':World)(hK:Kp w w')(h:s.ok v w):s.ok v w':=by
 cases s with
 |bd u=>exact h
 |any Φ hs=>exact hs v w w' hK h
def bE:List Spec->Nat->Spec
 |[],_=> .bd undef
 |s::_,0=>s
 |_::r,n+1=>bE r n
def bC(c:Code)(j:Nat):Option Nat:=((opsOf c)[j]?).bind (·.dst)
def eo(c:Code)(i:Nat):List Nat:=match(opsOf c)[i]? with
 |some o=>(o.after.toList.filter (λe=>Region.binds .any e)).map (·.on)
 |none=>[]
def cJ:List Nat->Nat->Bool
 |[],_=>false
 |x::r,t=>match Nat.beq x t with
  |true=>true
  |false=>cJ r t
theorem lQ{l:List Nat}{t:Nat}:cJ l t=true↔t∈l:=by
 induction l with
 |nil=>simp[cJ]
 |cons x r ih=>
  unfold cJ;cases hq:Nat.beq x t with
  |true=>simp[ko hq]
  |false=>
   have eC:¬t=x:=λe=>by subst e;simp at hq
   simp[ih,eC]
def Dc(c:Code)(i t:Nat):Nat->Bool
 |0=>true
 |j+1=>Dc c i t j&&(match bC c j with
  |some d=>match Nat.beq d t with
   |true=>cJ (eo c j) i
   |false=>true
  |none=>true)
def Gb(c:Code)(i:Nat):Env->Env
 |[]=>[]
 |(t,v)::r=>match Dc c i t (opsOf c).size with
  |true=>(t,v)::Gb c i r
  |false=>Gb c i r
def sR(c:Code)(sp:Nat->Spec)(vs:Nat->Value):List Nat->Env
 |[]=>[]
 |j::r=>match bC c j with
  |some d=>(d,(sp j).val (vs j))::sR c sp vs r
  |none=>sR c sp vs r
def cO(c:Code)(i:Nat)(sp:Nat->Spec)(vs:Nat->Value)(env0:Env):Env:=sR c sp vs (eo c i)++Gb c i env0
def one(c:Code)(i:Nat):Code:=match(opsOf c)[i]? with
 |some o=> .region 0 #[{o with guard:=none}] false
 |none=> .skip
def l8(P:Program)(c:Code)(Q:Exit->Act->World->Prop)(N:FN)(env0:Env)(wr:World)(sp:Nat->Spec)(i:Nat):Prop:=∀(a:Act) (w:World) (vs:Nat->Value) (rest:Env),Kp wr w->(∀j,j∈eo c i->(sp j).ok (vs j) w)->Fr a N (cO c i sp vs env0++rest)->∃b,(∀g,(aB c i).map (·.2.2.2)=some g->bU c g (cO c i sp vs env0++rest)=some b)/\(b=true->bL P (one c i) (λa' w'=>∃v,a'=a.put (bC c i) v/\Kp w w'/\(sp i).ok v w') Q 0 a w)/\(b=false->(sp i).ok undef w)
def mL(c:Code):Bool:=(List.range (opsOf c).size).all λi=>(List.range i).all λj=>match bC c i,bC c j with
 |some d,some e=> !(Nat.beq d e)
 |_,_=>true
theorem Qn{c:Code}(h:mL c=true){i j d:Nat}(hi:bC c i=some d)(hj:bC c j=some d):i=j:=by
 have lt:∀{k e},bC c k=some e->k<(opsOf c).size:=by
  intro k e hk;simp only[bC]at hk;cases ho:(opsOf c)[k]? with
  |none=>simp[ho]at hk
  |some o=>exact(tA.1 ho).1
 have key:∀{i j d},bC c i=some d->bC c j=some d->j<i->False:=by intro i j d hi hj ir;simp only[mL,gQ,dp]at h;have:=h i (lt hi) j ir;simp[hi,hj]at this
 rcases HX i j with h1|h1|h1
 ·exact(key hj hi h1).elim
 ·exact h1
 ·exact(key hi hj h1).elim
theorem mi{E F:Env}{t:Nat}{v:Value}(h:look (E++F) t=some v):look E t=some v\/look F t=some v:=by
 induction E with
 |nil=>exact .inr h
 |cons x r ih=>
  obtain⟨k,u⟩:=x;simp only[y7,look]at h⊢;cases hq:Nat.beq k t with
  |true=>rw[hq]at h;exact .inl h
  |false=>rw[hq]at h;exact ih h
theorem oU{c:Code}{sp:Nat->Spec}{vs:Nat->Value}{l:List Nat}{t:Nat}{v:Value}(h:look (sR c sp vs l) t=some v):∃j,j∈l/\bC c j=some t/\v=(sp j).val (vs j):=by
 induction l with
 |nil=>simp[sR,look]at h
 |cons j r ih=>
  unfold sR at h;cases hd:bC c j with
  |none=>
   rw[hd]at h;obtain⟨j',h1,h2⟩:=ih h;exact⟨j',cr _ h1,h2⟩
  |some d=>
   rw[hd]at h;simp only[look]at h;cases hq:Nat.beq d t with
   |true=>
    rw[hq]at h;injection h with h;have:=ko hq;subst this;exact⟨j,cK ..,hd,h.symm⟩
   |false=>
    rw[hq]at h;obtain⟨j',h1,h2⟩:=ih h;exact⟨j',cr _ h1,h2⟩
theorem free_spec{c:Code}{i t:Nat}:∀{n:Nat},Dc c i t n=true->∀j,j<n->bC c j=some t->i∈eo c j
 |0,_,j,hj,_=>absurd hj oM
 |n+1,h,j,hj,hd=>by
  simp only[Dc,bu]at h;by_cases e:j=n
  ·subst e;have h2:=h.2;rw[hd]at h2;simp at h2;exact lQ.1 h2
  ·exact free_spec h.1 j oM hd
theorem uL{c:Code}{i:Nat}:∀{env:Env} {t:Nat} {v:Value},look (Gb c i env) t=some v->(t,v)∈env/\∀j,bC c j=some t->i∈eo c j
 |[],t,v,h=>by simp[Gb,look]at h
 |(k,u)::r,t,v,h=>by
  unfold Gb at h;cases hf:Dc c i k (opsOf c).size with
  |false=>
   rw[hf]at h;obtain⟨h1,h2⟩:=uL h;exact⟨cr _ h1,h2⟩
  |true=>
   rw[hf]at h;simp only[look]at h;cases hq:Nat.beq k t with
   |false=>
    rw[hq]at h;obtain⟨h1,h2⟩:=uL h;exact⟨cr _ h1,h2⟩
   |true=>
    rw[hq]at h;injection h with h;have:=ko hq;subst this;subst h;refine⟨cK ..,λj hj=>free_spec hf j ?_ hj⟩;simp only[bC]at hj;cases ho:(opsOf c)[j]? with
    |none=>simp[ho]at hj
    |some o=>exact(tA.1 ho).1
def rV:Env->Bool
 |[]=>true
 |(k,_)::r=> !(cJ (r.map (·.1)) k)&&rV r
theorem q7:∀{env:Env},rV env=true->∀{t:Nat} {v:Value},(t,v)∈env->look env t=some v
 |[],_,t,v,h=>by simp at h
 |(k,u)::r,hk,t,v,h=>by
  simp only[rV,bu,oi]at hk;simp only[look];rcases cG.1 h with h|h
  ·injection h with h1 h2;subst h1;subst h2;simp
  ·cases hq:Nat.beq k t with
   |false=>exact q7 hk.2 h
   |true=>
    have:=ko hq;subst this;have hm:cJ (r.map (·.1)) k=true:=lQ.2 (aO.2 ⟨_,h,rfl⟩);rw[hm]at hk;cases hk.1
def xC(c:Code):Env->Env
 |[]=>[]
 |(t,v)::r=>match cJ ((List.range (opsOf c).size).filterMap (bC c)) t with
  |true=>xC c r
  |false=>(t,v)::xC c r
theorem uM{c:Code}:∀{env:Env} {t:Nat} {v:Value},look (xC c env) t=some v->(t,v)∈env/\∀j,bC c j≠some t
 |[],t,v,h=>by simp[xC,look]at h
 |(k,u)::r,t,v,h=>by
  unfold xC at h;cases hm:cJ ((List.range (opsOf c).size).filterMap (bC c)) k with
  |true=>
   rw[hm]at h;obtain⟨h1,h2⟩:=uM h;exact⟨cr _ h1,h2⟩
  |false=>
   rw[hm]at h;simp only[look]at h;cases hq:Nat.beq k t with
   |false=>
    rw[hq]at h;obtain⟨h1,h2⟩:=uM h;exact⟨cr _ h1,h2⟩
   |true=>
    rw[hq]at h;injection h with h;have:=ko hq;subst this;subst h;refine⟨cK ..,λj hj=> ?_⟩;have ir:j<(opsOf c).size:=by
     simp only[bC]at hj;cases ho:(opsOf c)[j]? with
     |none=>simp[ho]at hj
     |some o=>exact(tA.1 ho).1
    have:cJ ((List.range (opsOf c).size).filterMap (bC c)) k=true:=lQ.2 (mem_filterMap.2 ⟨j,dp.2 ir,hj⟩);rw[this]at hm;cases hm
def iT(c:Code):Bool:=(List.range (opsOf c).size).all λi=>(eo c i).all λj=>Nat.blt j i
section
variable{P:Program}{c:Code}{K:Act -> World -> Prop}{Q:Exit -> Act -> World -> Prop}{N:FN}{env0:Env}{wr:World}{sp:Nat -> Spec}
def xD(c:Code)(N:FN)(env0:Env)(wr:World)(sp:Nat->Spec)(aD:Array Bool)(a:Act)(w:World):Prop:=Kp wr w/\a.defers=N.D/\a.tmps.size=N.n/\(∀j,aD.getD j false=true->∀i,i∈eo c j->aD.getD i false=true)/\(∃vs:Nat->Value,∀j,aD.getD j false=true->(sp j).ok (vs j) w/\∀d,bC c j=some d->a.tmps[d]?=some (vs j))/\(∀t v,(t,v)∈env0->(∀j,aD.getD j false=true->bC c j≠some t)->a.tmps[t]?=some v)
theorem xE{i:Nat}{o:Oper}(ho:(opsOf c)[i]?=some o):opsOf (one c i)=#[{o with guard:=none}]:=by
 unfold one;rw[ho];rfl
theorem im{ops:Array Oper}{aD:Array Bool}{i:Nat}(h:i∈Region.ready .any ops aD):i<ops.size/\aD.getD i true=false/\∃o,ops[i]?=some o/\∀e,e∈o.after.toList->Region.binds .any e=true->aD.getD e.on false=true:=by
 simp only[Region.ready,dY,dp,bu,oi]at h;obtain⟨h1,h2,h3⟩:=h;refine⟨h1,h2,?_⟩;cases ho:ops[i]? with
 |none=>simp[ho]at h3
 |some o=>
  refine⟨o,rfl,λe he hb=> ?_⟩;simp only[ho,ft,nu]at h3;have h4:=(HY.1 h3) e (HZ.1 he);simpa[hb]using h4
theorem Gc(hd:mL c=true)(td:∀i d,bC c i=some d->d<N.n){i:Nat}(hi:l8 P c Q N env0 wr sp i){aD:Array Bool}{a:Act}{w:World}(hn:aD.size=(opsOf c).size)(hr:i∈Region.ready .any (opsOf c) aD)(hk:xD c N env0 wr sp aD a w){G:Act->World->Prop}(hG:∀a' w',xD c N env0 wr sp (aD.setIfInBounds i true) a' w'->G a' w'):wpOp P (opsOf c) (Exit.then K Q) i G a w:=by
 obtain⟨ir,Qo,o,ho,NG⟩:=im hr;obtain⟨hkp,vk,iX,Af,⟨vs,Ah⟩,q8⟩:=hk;have Si:aD.getD i false=false:=by have:i<aD.size:=oM;simp[Array.getD,this]at Qo⊢;exact Qo
 have nI:∀j,j∈eo c i->aD.getD j false=true:=by intro j hj;simp only[eo,ho,aO,dY]at hj;obtain⟨e,⟨he,hb⟩,rfl⟩:=hj;exact NG e he hb
 have Vk:bC c i=o.dst:=by simp[bC,ho]
 have hF:Fr a N (cO c i sp vs env0++[]):=by
  refine⟨vk,iX,λt v hv=> ?_⟩;rw[iq]at hv;rcases mi hv with h1|h1
  ·obtain⟨j,hj,vl,rfl⟩:=oU h1;obtain⟨h2,h3⟩:=Ah j (nI j hj);rw[Spec.y6 h2];exact h3 t vl
  ·obtain⟨h2,h3⟩:=uL h1;refine q8 t v h2 (λj hj vl=> ?_);have:=Af j hj i (h3 j vl);rw[Si]at this;cases this
 obtain⟨b,hb,Qgs,V7⟩:=hi a w vs [] hkp (λj hj=>(Ah j (nI j hj)).1) hF;have V8:aB c i=some (o.dst,o.op,o.type,o.guard):=by simp[aB,ho]
 have hw:=xz (c:=c) hF rfl (hb _ (by rw[V8];rfl));have next:∀v w',Kp w w'->(sp i).ok v w'->xD c N env0 wr sp (aD.setIfInBounds i true) (a.put o.dst v) w':=by
  intro v w' Qjz hv;have NH:∀j,(aD.setIfInBounds i true).getD j false=true->j=i\/aD.getD j false=true:=by
   intro j hj;by_cases e:i=j
   ·exact .inl e.symm
   ·refine .inr ?_;simpa[mH,tw e]using hj
  have V9:∀j,aD.getD j false=true->(aD.setIfInBounds i true).getD j false=true:=by
   intro j hj;by_cases e:i=j
   ·subst e;have:i<aD.size:=oM;simp[mH,this]
   ·simpa[mH,tw e]using hj
  refine⟨hkp.trans Qjz,by cases Sj:o.dst<;>simp[Act.put,vk],by cases Sj:o.dst<;>simp[Act.put,iX],?_,⟨λj=>if j=i then v else vs j,?_⟩,?_⟩
  ·intro j hj k hk;rcases NH j hj with rfl|h1
   ·exact V9 k (nI k hk)
   ·exact V9 k (Af j h1 k hk)
  ·intro j hj;rcases NH j hj with rfl|h1
   ·refine⟨by simpa using hv,λd vl=> ?_⟩;rw[Vk]at vl;simp only[vl,Act.put,mM];have:=td j d (by rw[Vk];exact vl);rw[VZ oM]
   ·have eC:j≠i:=λe=>by subst e;rw[Si]at h1;cases h1
    obtain⟨h2,h3⟩:=Ah j h1;refine⟨by simpa[eC]using(sp j).kD _ _ _ Qjz h2,λd vl=> ?_⟩;simp only[eC,mJ];cases Sj:o.dst with
    |none=>exact h3 d vl
    |some d'=>
     simp only[Act.put];have:d'≠d:=λe=>by subst e;exact eC (Qn hd vl (by rw[Vk];exact Sj))
     rw[tw this];exact h3 d vl
  ·intro t u htu hj;have h1:=q8 t u htu (λj NI=>hj j (V9 j NI));cases Sj:o.dst with
   |none=>exact h1
   |some d'=>
    simp only[Act.put];have:d'≠t:=λe=>by
     subst e;have tc:(aD.setIfInBounds i true).getD i false=true:=by have:i<aD.size:=oM;simp[mH,this]
     exact hj i tc (by rw[Vk];exact Sj)
    rw[tw this];exact h1
 unfold wpOp;rw[ho];simp only[];rw[hw];cases b with
 |false=>
  simp only[v8,mJ];exact hG _ _ (next undef w (Kp.refl w) (V7 rfl))
 |true=>
  simp only[mM];have h1:=Qgs rfl;unfold bL at h1;rw[xE ho]at h1;simp only[y8]at h1;unfold wpList at h1;rw[ax (by simp[Region.wanted])]at h1;rcases h1 with h1|⟨h1,h2⟩
  ·refine .inl ?_;have e1:∀(K':Act->World->Prop) (Q':Exit->Act->World->Prop),({o with guard:=none}:Oper).wp P a w K' Q'=o.wp P a w K' Q':=λ_ _=>rfl
   rw[e1]at h1;have:o.wp P a w (λa' w'=>∃v,a'=a.put (bC c i) v/\Kp w w'/\(sp i).ok v w') (Exit.then (λa' w'=>∃v,a'=a.put (bC c i) v/\Kp w w'/\(sp i).ok v w') Q):=h1;have h3:o.wp P a w (λa' w'=>∃v,a'=a.put (bC c i) v/\Kp w w'/\(sp i).ok v w') (Exit.then K Q):=by
    unfold Oper.wp at this⊢;generalize (execOp a.eval o).run P w=r at*;cases r with
    |ok n w'=>
     cases n<;>simp only[Oper.upon]at this⊢<;>first
      |exact this
      |exact Calls.mono this (λe w'' he=>by cases e<;>exact he)
    |halt x w'=>cases x<;>simp only[Oper.upon]at this⊢<;>exact this
   refine Oper.wp_mono ?_ h3;rintro a' w' ⟨v,rfl,hkv,hv⟩;rw[Vk];exact hG _ _ (next v w' hkv hv)
  ·refine .inr ⟨?_,?_⟩
   ·exact h1
   ·obtain⟨a0,w0,h0⟩:=h2;exact⟨a0,w0,h0⟩
theorem Wa(hd:mL c=true)(td:∀i d,bC c i=some d->d<N.n)(nI:iT c=true)(rW:∀i,i<(opsOf c).size->l8 P c Q N env0 wr sp i)(Dd:∀a w,(∀aD:Array Bool,(∀j,j<(opsOf c).size->aD.getD j false=true)->xD c N env0 wr sp aD a w->K a w)):∀(fuel:Nat) (aD:Array Bool) (a:Act) (w:World),aD.size=(opsOf c).size->ae ((List.range (opsOf c).size).filter (λj=> !aD.getD j false))<=fuel->xD c N env0 wr sp aD a w->wpAny P .any (opsOf c) (Exit.then K Q) fuel aD a w:=by
 have l9:∀aD:Array Bool,aD.size=(opsOf c).size->Region.ready .any (opsOf c) aD=[]->∀j,j<(opsOf c).size->aD.getD j false=true:=by
  intro aD iX hr j;induction j using Nat.strongRecOn with
  |_ j ih=>
   intro hj;cases hq:aD.getD j false with
   |true=>rfl
   |false=>
    exfalso;have:j∈Region.ready .any (opsOf c) aD:=by
     simp only[Region.ready,dY,dp,bu,oi];have Vl:j<aD.size:=oM;refine⟨hj,?_,?_⟩
     ·simp[Array.getD,Vl]at hq⊢;exact hq
     ·have ho:(opsOf c)[j]?=some (opsOf c)[j]:=by simp[hj]
      simp only[ho,ft,nu];rw[HY];intro e he;cases hb:Region.binds .any e with
      |false=>rfl
      |true=>
       have nt:e.on∈eo c j:=by simp only[eo,ho,aO,dY];exact⟨e,⟨HZ.2 he,hb⟩,rfl⟩
       have ir:e.on<j:=by simp only[iT,gQ,dp]at nI;have:=nI j hj e.on nt;simpa[p6]using this
       simp[ih e.on ir oM]
    rw[hr]at this;simp at this
 intro fuel;induction fuel with
 |zero=>
  intro aD a w iX hf hk;have cY:∀j,j<(opsOf c).size->aD.getD j false=true:=by
   intro j hj;cases hq:aD.getD j false with
   |true=>rfl
   |false=>
    have:j∈(List.range (opsOf c).size).filter (λj=> !aD.getD j false):=dY.2 ⟨dp.2 hj,by rw[hq];rfl⟩;have:=tB this;omega
  refine⟨?_,Dd a w aD cY hk⟩;cases hr:Region.ready .any (opsOf c) aD with
  |nil=>rfl
  |cons i r=>
   exfalso;have hi:i∈Region.ready .any (opsOf c) aD:=by rw[hr];simp
   obtain⟨h1,h2,_⟩:=im hi;have:=cY i h1;have qY:i<aD.size:=oM;simp[Array.getD,qY]at h2 this;rw[h2]at this;cases this
 |succ fuel ih=>
  intro aD a w iX hf hk;refine⟨λhr=>Dd a w aD (l9 aD iX hr) hk,λi hi=> ?_⟩;obtain⟨h1,h2,_⟩:=im hi;refine Gc hd td (rW i h1) iX hi hk (λa' w' lI=> ?_);refine ih _ a' w' (by simpa using iX) ?_ lI;have qY:i<aD.size:=oM;have Sk:aD.getD i false=false:=by simp[Array.getD,qY]at h2⊢;exact h2
  have ir:ae ((List.range (opsOf c).size).filter (λj=> !(aD.setIfInBounds i true).getD j false))<ae ((List.range (opsOf c).size).filter (λj=> !aD.getD j false)):=by
   have kE:((List.range (opsOf c).size).filter (λj=> !(aD.setIfInBounds i true).getD j false))=((List.range (opsOf c).size).filter (λj=> !aD.getD j false)).filter (λj=> !(Nat.beq j i)):=by
    rw[y9];apply qH;intro j _;by_cases e:i=j
    ·subst e;simp[mH,qY]
    ·have hb:Nat.beq j i=false:=by
      cases hq:Nat.beq j i with
      |false=>rfl
      |true=>exact absurd (ko hq).symm e
     simp[mH,tw e,hb]
   rw[kE];have nt:i∈(List.range (opsOf c).size).filter (λj=> !aD.getD j false):=dY.2 ⟨dp.2 h1,by rw[Sk];rfl⟩;refine De.2 ⟨i,nt,sI⟩
  omega
theorem Qgt(hk:kind c= .region true)(hm:P.follows .mixedOrders=true){a:Act}(sp:Nat->Spec)(hd:mL c=true)(nI:iT c=true)(hF:Fr a N env0)(tC:rV env0=true)(td:(List.range (opsOf c).size).all (λi=>jW (bC c i) N)=true)(rW:∀i,i<(opsOf c).size->l8 P c Q N env0 wr sp i)(h:∀a' w' (vs:Nat->Value),Kp wr w'->(∀j,j<(opsOf c).size->(sp j).ok (vs j) w')->Fr a' N (sR c sp vs (List.range (opsOf c).size)++xC c env0)->K a' w'):W P c K Q a wr:=by
 have NJ:∀i d,bC c i=some d->d<N.n:=by
  intro i d hi;have ir:i<(opsOf c).size:=by
   simp only[bC]at hi;cases ho:(opsOf c)[i]? with
   |none=>simp[ho]at hi
   |some o=>exact(tA.1 ho).1
  simp only[gQ,dp]at td;have:=td i ir;rw[hi]at this;simpa[jW,p6]using this
 cases c<;>simp[kind]at hk;rename_i id ops dr;subst hk;refine wp_region_any hm ?_;have h0:xD (.region id ops true) N env0 wr sp (Array.replicate ops.size false) a {wr with drawn:=wr.drawn+1}:=by
  refine⟨Mem.drew wr,hF.defers,hF.size,?_,⟨λ_=>undef,?_⟩,λt v htv _=>hF.slot t v (q7 tC htv)⟩
  ·intro j hj;simp[mH,H0]at hj;split at hj<;>simp at hj
  ·intro j hj;simp[mH,H0]at hj;split at hj<;>simp at hj
 refine Wa (c:= .region id ops true) hd NJ nI rW ?_ ops.size _ a _ (by simp[opsOf]) ?_ h0
 ·intro a' w' aD cY hk;obtain⟨hkp,vk,iX,_,⟨vs,Ah⟩,q8⟩:=hk;refine h a' w' vs hkp (λj hj=>(Ah j (cY j hj)).1) ⟨vk,iX,λt v hv=> ?_⟩;rcases mi hv with h1|h1
  ·obtain⟨j,hj,vl,rfl⟩:=oU h1;obtain⟨h2,h3⟩:=Ah j (cY j (dp.1 hj));rw[Spec.y6 h2];exact h3 t vl
  ·obtain⟨h2,h3⟩:=uM h1;exact q8 t v h2 (λj _=>h3 j)
 ·refine iz (j6 _ _) ?_;simp[opsOf]
end
theorem Kj{p:Nat->Prop}:∀i,i<0->p i:=λi h=>absurd h oM
theorem Kk{p:Nat->Prop}{n:Nat}(h:∀i,i<n->p i)(hn:p n):∀i,i<n+1->p i:=λi hi=>by
 by_cases e:i=n
 ·subst e;exact hn
 ·exact h i oM
theorem wa{c:Code}{i:Nat}{E:Env}{b:Bool}{g0:Option (Nat×Bool)}(h0:(aB c i).map (·.2.2.2)=some g0)(h:bU c g0 E=some b):∀g,(aB c i).map (·.2.2.2)=some g->bU c g E=some b:=by
 intro g hg;rw[h0]at hg;injection hg with hg;subst hg;exact h
theorem Cg{c:Code}{i:Nat}{d:Option Nat}{a a':Act}{w w':World}{v:Value}{s:Spec}(hd:bC c i=d)(ea:a'=a.put d v)(hK:Kp w w')(h:s.ok v w'):∃v,a'=a.put (bC c i) v/\Kp w w'/\s.ok v w':=⟨v,by rw[hd];exact ea,hK,h⟩
theorem Sl{c:Code}{i j:Nat}(h:cJ (eo c i) j=true):j∈eo c i:=lQ.1 h
def Spec.sl(n:Nat)(xs:bh):Spec:= .any (λv w=>∃A c,v=vS A n c/\(bD.rd A xs).holds w) (λ_ _ _ hK ⟨A,c,hv,h⟩=>⟨A,c,hv,(bD.rd A xs).kD (λg hg=>hK.kept g ((bD.rd A xs).lt h hg) (λh=>h)) h⟩)
theorem RO.of{w:World}{r:bD}(h:r.holds w):RO bI w r:=⟨h,λ_ _ h=>h⟩
abbrev eI(x:Int):Spec:= .bd (.int .i64 x)
abbrev eS(A:Option Addr)(n c:Nat):Spec:= .bd (.slice A n c)
abbrev eB(b:Bool):Spec:= .bd (.bool b)
abbrev eT(s:ByteArray):Spec:= .bd (.string s)
abbrev eP(a:Addr):Spec:= .bd (.pointer (some a))
abbrev eR(b o:Nat):Spec:= .bd (.pointer (some ⟨b,o,none⟩))
abbrev eA(a:Addr)(i:Int)(k:Nat):Spec:= .bd (.pointer (some (a.add (i.toNat*k))))
theorem tD{e size n c:Nat}{ad:Addr}{P:Program}:∀(vs:bh) (off i:Nat) {xs:bh} {w:World},(∀v∈vs,v.oneCell'=true)->(bD.row e size (some ad) n c xs).holds w->off+i+ae vs<=ae xs->∃w',(storeCells (ad.add off) vs i).run P w= .ok () w'/\Mem (bD.row e size (some ad) n c xs).fp w w' [.row e size (some ad) n c (xs.take (off+i)++vs++xs.drop (off+i+ae vs))]
 |[],off,i,xs,w,_,hb,_=>⟨w,by simp[storeCells],by simpa using Mem.vv hb⟩
 |v::vs,off,i,xs,w,h1,hb,hl=>by
  simp only[fh]at hl;have hm:=Mem.HM (j:=off+i) hb v;have HR:=hm.get 0 rfl;obtain⟨w',hr,F8⟩:=tD vs off (i+1) (λu hu=>h1 u (cr _ hu)) HR (by simp;omega);refine⟨w',?_,?_⟩
  ·have ir:off+i<ae xs:=oM;obtain⟨a',pS,sQ⟩:=aF hb (off+i) xs[off+i] (by simp[ir]);injection pS with pS;subst pS;have rS:(store (ad.add (off+i)) v).run P w= .ok () (w.setCell (ad.add (off+i)) v):=by rw[run_store P w _ v .plain (h1 v (cK ..)),sQ];simp[rQ hb]
   simp only[storeCells,gG,add_add,rS,ig];simpa[add_add]using hr
  ·have V4:(xs.set (off+i) v).take (off+(i+1))++vs++(xs.set (off+i) v).drop (off+(i+1)+ae vs)=xs.take (off+i)++v::vs++xs.drop (off+i+ae (v::vs)):=by rw[<-vV,dh (by simp;omega),drop_set,ax oM];simp[NC (cH _),vV,Nat.add_comm 1]
   rw[V4]at F8;have:=hm.mod 0 rfl F8;simpa using this
theorem Fk(z:Value)(n:Nat):(Builtin.zeroCells #[z] n).toList=List.replicate n z:=by
 apply fM;intro j;by_cases hj:j<n
 ·simp[Builtin.zeroCells,hj,Nat.mod_one]
 ·simp[Builtin.zeroCells,hj]
section
variable{P:Program}{c:Code}{K:Act -> World -> Prop}{Q:Exit -> Act -> World -> Prop}{a:Act}{w w0:World}{S:Nat -> Prop}{L:List bD}{k k':Nat}{N:FN}{env:Env}
variable{d:Option Nat}{ty:Nat}{g:Option (Nat × Bool)}
theorem NK{t:TypeId}{x:Operand}(hk:aB c k=some (d,.call {callee:= .builtin .clear,args:=#[x],argTypes:=#[t]},ty,g))(hF:Fr a N env)(hg:bU c g env=some true)(hd:jW d N=true)(lI:k+1=k'){e:Nat}{z:Value}(ht:P.underlying t=some (.slice e))(hi:(P.info? e).map (λi=>(i.size,i.zero))=some (1,some z))(hz:z.oneCell'=true){ad:Addr}{off m cap' n cap:Nat}{xs:bh}(hx:ev env x=some (vS (some (ad.add off)) m cap'))(hM:Mem S w0 w L)(i:Nat)(hL:L[i]?=some (.row e 1 (some ad) n cap xs))(hm:off+m<=n)(h:∀w',Mem S w0 w' (L.set i (.row e 1 (some ad) n cap (xs.take off++List.replicate m z++xs.drop (off+m))))->True->∀a',a'=a.put d undef->Fr a' N (eJ env d undef)->bL P c K Q k' a' w'):bL P c K Q k a w:=by
 subst lI;have o6:=hM.get i hL;have hlen:=HN o6;obtain⟨w',hr,Wb⟩:=tD (P:=P) (List.replicate m z) off 0 (by intro v hv;rw[H2 hv];exact hz) o6 (by simp;omega);simp only[Nat.add_zero,qI]at Wb;refine lP hk hF hg (v:=undef) (w':=w') (λo ho hty=> ?_) (h w' (by simpa using hM.mod i hL Wb) trivial _ rfl (hF.put hd _));unfold execOp;rw[ho];cases tc:P.info? e with
 |none=>simp[tc]at hi
 |some inf=>
  simp only[tc,ft,eO,dg]at hi;obtain⟨hs,NB⟩:=hi;have hz0:(zeroValue e).run P w= .ok z w:=by simp[zeroValue,typeInfo,tc,NB]
  simp only[resolve,invoke,builtin,gG,o7,ig,C8,gu,qG,hF.ev hx,Builtin.clear_];simp only[show(#[t]:Array TypeId)[0]?=some t from rfl,show(#[Value.slice (some (ad.add off)) m cap']:Array Value)[0]?=some (vS (some (ad.add off)) m cap')from rfl,gG,iM ht,ig];cases m with
  |zero=>
   simp only[replicate_zero,storeCells,o7,Result.ok.injEq,jR]at hr;subst hr;simp[undef]
  |succ m=>
   simp only[gG,hz0,ig,uK hz,Fk,hr];rfl
end
theorem Mem.tE{S:Nat->Prop}{w0 w:World}{L:List bD}{e size n cap:Nat}{A:ar}{xs:bh}(hM:Mem S w0 w L)(i:Nat)(hL:L[i]?=some (.row e size A n cap xs))(m:Nat)(hm:m<=n):Mem S w0 w (L.set i (.row e size A m cap (xs.take (m*size)))):=by
 refine hM.say i hL (λh=> ?_) (λg hg=>hg);have hlen:=HN h;rcases h.2 with⟨h1,h2⟩|⟨g,cap',cur,hv,hb,hg,hnc,Vi,rP,ht⟩
 ·injection h1 with h1 h3 h4;have:m=0:=oM;subst h1;subst h4;subst this;refine⟨sI,.inl ⟨rfl,rfl⟩⟩
 ·injection hv with hv h2 h3;subst hv;subst h3;have hms:m*size<=n*size:=Nat.mul_le_mul_right _ hm;refine⟨by rw[ja,hlen];omega,.inr ⟨g,cap,cur,rfl,hb,hg,oM,Vi,rP,?_⟩⟩;rw[<-ht,take_take];congr 1;omega
def qJ(ls:Nat->Bool)(i:Nat):Nat->Bool:=λj=>match Nat.beq j i with
 |true=>true
 |false=>ls j
def wb(vs:Nat->Value)(i:Nat)(v:Value):Nat->Value:=λj=>match Nat.beq j i with
 |true=>v
 |false=>vs j
def qK(c:Code)(ls:Nat->Bool):Prop:=∀j,ls j=true->∀k,k∈eo c j->ls k=true
def reach(c:Code):Nat->Nat->Nat->Bool
 |0,_,_=>false
 |n+1,j,i=>cJ (eo c j) i||(eo c j).any (λk=>reach c n k i)
theorem Wc{c:Code}{ls:Nat->Bool}(hc:qK c ls){i:Nat}(hi:ls i=false):∀{n j:Nat},reach c n j i=true->ls j=false
 |0,j,h=>by simp[reach]at h
 |n+1,j,h=>by
  cases hq:ls j with
  |false=>rfl
  |true=>
   exfalso;simp only[reach,dt,Df]at h;rcases h with h|⟨k,hk,h⟩
   ·rw[hc j hq i (lQ.1 h)]at hi;cases hi
   ·have:=Wc hc hi h;rw[hc j hq k hk]at this;cases this
theorem rX{c:Code}{ls:Nat->Bool}(hc:qK c ls){i:Nat}(hp:∀k,k∈eo c i->ls k=true):∀{n j:Nat},reach c n i j=true->ls j=true:=by
 have key:∀{n i' j:Nat},ls i'=true->reach c n i' j=true->ls j=true:=by
  intro n;induction n with
  |zero=>intro i' j _ h;simp[reach]at h
  |succ n ih=>
   intro i' j hi h;simp only[reach,dt,Df]at h;rcases h with h|⟨k,hk,h⟩
   ·exact hc i' hi j (lQ.1 h)
   ·exact ih (hc i' hi k hk) h
 intro n j h;cases n with
 |zero=>simp[reach]at h
 |succ n=>
  simp only[reach,dt,Df]at h;rcases h with h|⟨k,hk,h⟩
  ·exact hp j (lQ.1 h)
  ·exact key (hp k hk) h
def sS(P:Program)(c:Code)(Q:Exit->Act->World->Prop)(N:FN)(env0:Env)(sp:Nat->Spec)(J:(Nat->Bool)->(Nat->Value)->World->Prop)(i:Nat):Prop:=∀(a:Act) (w:World) (ls:Nat->Bool) (vs:Nat->Value) (rest:Env),J ls vs w->ls i=false->qK c ls->(∀j,j∈eo c i->ls j=true/\(sp j).ok (vs j) w)->Fr a N (cO c i sp vs env0++rest)->∃b,(∀g,(aB c i).map (·.2.2.2)=some g->bU c g (cO c i sp vs env0++rest)=some b)/\(b=true->bL P (one c i) (λa' w'=>∃v,a'=a.put (bC c i) v/\(sp i).ok v w'/\J (qJ ls i) (wb vs i v) w') Q 0 a w)/\(b=false->(sp i).ok undef w/\J (qJ ls i) (wb vs i undef) w)
theorem lX{c:Code}{i:Nat}{E:Env}{g0:Option (Nat×Bool)}{X Y:Prop}(hx:X)(h0:(aB c i).map (·.2.2.2)=some g0:=by kernel_rfl)(h:bU c g0 E=some true:=by kernel_rfl):∃b,(∀g,(aB c i).map (·.2.2.2)=some g->bU c g E=some b)/\(b=true->X)/\(b=false->Y):=⟨true,wa h0 h,λ_=>hx,λh=>Bool.noConfusion h⟩
section
variable{P:Program}{c:Code}{K:Act -> World -> Prop}{Q:Exit -> Act -> World -> Prop}{N:FN}{env0:Env}{sp:Nat -> Spec}{J:(Nat -> Bool) -> (Nat -> Value) -> World -> Prop}
def rY(c:Code)(N:FN)(env0:Env)(sp:Nat->Spec)(J:(Nat->Bool)->(Nat->Value)->World->Prop)(aD:Array Bool)(a:Act)(w:World):Prop:=∃(ls:Nat->Bool) (vs:Nat->Value),(∀j,j<aD.size->ls j=aD.getD j false)/\(∀j,aD.size<=j->ls j=false)/\J ls vs w/\a.defers=N.D/\a.tmps.size=N.n/\qK c ls/\(∀j,ls j=true->(sp j).ok (vs j) w/\∀d,bC c j=some d->a.tmps[d]?=some (vs j))/\(∀t v,(t,v)∈env0->(∀j,ls j=true->bC c j≠some t)->a.tmps[t]?=some v)
theorem Dg(hd:mL c=true)(td:∀i d,bC c i=some d->d<N.n)(Dh:∀j v w w',(sp j).ok v w->(sp j).ok v w'){i:Nat}(hi:sS P c Q N env0 sp J i){aD:Array Bool}{a:Act}{w:World}(hn:aD.size=(opsOf c).size)(hr:i∈Region.ready .any (opsOf c) aD)(hk:rY c N env0 sp J aD a w){G:Act->World->Prop}(hG:∀a' w',rY c N env0 sp J (aD.setIfInBounds i true) a' w'->G a' w'):wpOp P (opsOf c) (Exit.then K Q) i G a w:=by
 obtain⟨ir,Qo,o,ho,NG⟩:=im hr;obtain⟨ls,vs,hls,QjA,hJ,vk,iX,Af,Ah,q8⟩:=hk;have Si:ls i=false:=by rw[hls i oM];have:i<aD.size:=oM;simp[Array.getD,this]at Qo⊢;exact Qo
 have hlts:∀j,ls j=true->j<aD.size:=by
  intro j hj;rcases ns j aD.size with h|h
  ·exact h
  ·rw[QjA j h]at hj;cases hj
 have nI:∀j,j∈eo c i->ls j=true:=by
  intro j hj;simp only[eo,ho,aO,dY]at hj;obtain⟨e,⟨he,hb⟩,rfl⟩:=hj;have h1:=NG e he hb;have h2:e.on<aD.size:=by
   rcases ns e.on aD.size with h|h
   ·exact h
   ·have h3:¬(e.on<aD.size):=oM;simp[Array.getD,h3]at h1
  rw[hls _ h2];exact h1
 have Vk:bC c i=o.dst:=by simp[bC,ho]
 have hF:Fr a N (cO c i sp vs env0++[]):=by
  refine⟨vk,iX,λt v hv=> ?_⟩;rw[iq]at hv;rcases mi hv with h1|h1
  ·obtain⟨j,hj,vl,rfl⟩:=oU h1;obtain⟨h2,h3⟩:=Ah j (nI j hj);rw[Spec.y6 h2];exact h3 t vl
  ·obtain⟨h2,h3⟩:=uL h1;refine q8 t v h2 (λj hj vl=> ?_);have:=Af j hj i (h3 j vl);rw[Si]at this;cases this
 obtain⟨b,hb,Qgs,V7⟩:=hi a w ls vs [] hJ Si Af (λj hj=>⟨nI j hj,(Ah j (nI j hj)).1⟩) hF;have V8:aB c i=some (o.dst,o.op,o.type,o.guard):=by simp[aB,ho]
 have hw:=xz (c:=c) hF rfl (hb _ (by rw[V8];rfl));have uN:∀j,qJ ls i j=true->j=i\/ls j=true:=by
  intro j hj;simp only[qJ]at hj;cases hq:Nat.beq j i with
  |true=>exact .inl (ko hq)
  |false=>rw[hq]at hj;exact .inr hj
 have Qgu:∀j,ls j=true->qJ ls i j=true:=by intro j hj;simp only[qJ];cases hq:Nat.beq j i<;>simp[hj]
 have QjB:qJ ls i i=true:=by simp[qJ]
 have hvi:wb vs i=λv j=>if j=i then v else vs j:=by
  funext v j;simp only[wb];cases hq:Nat.beq j i with
  |true=>simp[ko hq]
  |false=>
   have:j≠i:=λe=>by subst e;simp at hq
   simp[this]
 have next:∀v w',(sp i).ok v w'->J (qJ ls i) (wb vs i v) w'->rY c N env0 sp J (aD.setIfInBounds i true) (a.put o.dst v) w':=by
  intro v w' hv hJ';refine⟨qJ ls i,wb vs i v,?_,?_,hJ',by cases Sj:o.dst<;>simp[Act.put,vk],by cases Sj:o.dst<;>simp[Act.put,iX],?_,?_,?_⟩
  ·intro j hj;have NI:j<aD.size:=by simpa using hj
   by_cases e:i=j
   ·subst e;rw[QjB];simp[mH,NI]
   ·have hb:Nat.beq j i=false:=by
     cases hq:Nat.beq j i with
     |false=>rfl
     |true=>exact absurd (ko hq).symm e
    simp only[qJ,hb];rw[hls j NI];simp[mH,tw e]
  ·intro j hj;have NI:aD.size<=j:=by simpa using hj
   have hb:Nat.beq j i=false:=by
    cases hq:Nat.beq j i with
    |false=>rfl
    |true=>have:=ko hq;omega
   simp only[qJ,hb];exact QjA j NI
  ·intro j hj k hk;rcases uN j hj with rfl|h1
   ·exact Qgu k (nI k hk)
   ·exact Qgu k (Af j h1 k hk)
  ·intro j hj;rw[hvi];rcases uN j hj with rfl|h1
   ·refine⟨by simpa using hv,λd vl=> ?_⟩;rw[Vk]at vl;simp only[vl,Act.put,mM];have:=td j d (by rw[Vk];exact vl);rw[VZ oM]
   ·have eC:j≠i:=λe=>by subst e;rw[Si]at h1;cases h1
    obtain⟨h2,h3⟩:=Ah j h1;refine⟨by simpa[eC]using Dh j _ _ _ h2,λd vl=> ?_⟩;simp only[eC,mJ];cases Sj:o.dst with
    |none=>exact h3 d vl
    |some d'=>
     simp only[Act.put];have:d'≠d:=λe=>by subst e;exact eC (Qn hd vl (by rw[Vk];exact Sj))
     rw[tw this];exact h3 d vl
  ·intro t u htu hj;have h1:=q8 t u htu (λj NI=>hj j (Qgu j NI));cases Sj:o.dst with
   |none=>exact h1
   |some d'=>
    simp only[Act.put];have:d'≠t:=λe=>by subst e;exact hj i QjB (by rw[Vk];exact Sj)
    rw[tw this];exact h1
 unfold wpOp;rw[ho];simp only[];rw[hw];cases b with
 |false=>
  simp only[v8,mJ];obtain⟨h1,h2⟩:=V7 rfl;exact hG _ _ (next undef w h1 h2)
 |true=>
  simp only[mM];have h1:=Qgs rfl;unfold bL at h1;rw[xE ho]at h1;simp only[y8]at h1;unfold wpList at h1;rw[ax (by simp[Region.wanted])]at h1;rcases h1 with h1|⟨h1,h2⟩
  ·refine .inl ?_;have h3:o.wp P a w (λa' w'=>∃v,a'=a.put (bC c i) v/\(sp i).ok v w'/\J (qJ ls i) (wb vs i v) w') (Exit.then K Q):=by
    have this:o.wp P a w (λa' w'=>∃v,a'=a.put (bC c i) v/\(sp i).ok v w'/\J (qJ ls i) (wb vs i v) w') (Exit.then (λa' w'=>∃v,a'=a.put (bC c i) v/\(sp i).ok v w'/\J (qJ ls i) (wb vs i v) w') Q):=h1;unfold Oper.wp at this⊢;generalize (execOp a.eval o).run P w=r at*;cases r with
    |ok n w'=>
     cases n<;>simp only[Oper.upon]at this⊢<;>first
      |exact this
      |exact Calls.mono this (λe w'' he=>by cases e<;>exact he)
    |halt x w'=>cases x<;>simp only[Oper.upon]at this⊢<;>exact this
   refine Oper.wp_mono ?_ h3;rintro a' w' ⟨v,rfl,hv,hJv⟩;rw[Vk];exact hG _ _ (next v w' hv hJv)
  ·refine .inr ⟨h1,?_⟩;obtain⟨a0,w0,h0⟩:=h2;exact⟨a0,w0,h0⟩
theorem Sm(hd:mL c=true)(td:∀i d,bC c i=some d->d<N.n)(Dh:∀j v w w',(sp j).ok v w->(sp j).ok v w')(nI:iT c=true)(rW:∀i,i<(opsOf c).size->sS P c Q N env0 sp J i)(Dd:∀a w,(∀aD:Array Bool,aD.size=(opsOf c).size->(∀j,j<(opsOf c).size->aD.getD j false=true)->rY c N env0 sp J aD a w->K a w)):∀(fuel:Nat) (aD:Array Bool) (a:Act) (w:World),aD.size=(opsOf c).size->ae ((List.range (opsOf c).size).filter (λj=> !aD.getD j false))<=fuel->rY c N env0 sp J aD a w->wpAny P .any (opsOf c) (Exit.then K Q) fuel aD a w:=by
 have l9:∀aD:Array Bool,aD.size=(opsOf c).size->Region.ready .any (opsOf c) aD=[]->∀j,j<(opsOf c).size->aD.getD j false=true:=by
  intro aD iX hr j;induction j using Nat.strongRecOn with
  |_ j ih=>
   intro hj;cases hq:aD.getD j false with
   |true=>rfl
   |false=>
    exfalso;have:j∈Region.ready .any (opsOf c) aD:=by
     simp only[Region.ready,dY,dp,bu,oi];have Vl:j<aD.size:=oM;refine⟨hj,?_,?_⟩
     ·simp[Array.getD,Vl]at hq⊢;exact hq
     ·have ho:(opsOf c)[j]?=some (opsOf c)[j]:=by simp[hj]
      simp only[ho,ft,nu];rw[HY];intro e he;cases hb:Region.binds .any e with
      |false=>rfl
      |true=>
       have nt:e.on∈eo c j:=by simp only[eo,ho,aO,dY];exact⟨e,⟨HZ.2 he,hb⟩,rfl⟩
       have ir:e.on<j:=by simp only[iT,gQ,dp]at nI;have:=nI j hj e.on nt;simpa[p6]using this
       simp[ih e.on ir oM]
    rw[hr]at this;simp at this
 intro fuel;induction fuel with
 |zero=>
  intro aD a w iX hf hk;have cY:∀j,j<(opsOf c).size->aD.getD j false=true:=by
   intro j hj;cases hq:aD.getD j false with
   |true=>rfl
   |false=>
    have:j∈(List.range (opsOf c).size).filter (λj=> !aD.getD j false):=dY.2 ⟨dp.2 hj,by rw[hq];rfl⟩;have:=tB this;omega
  refine⟨?_,Dd a w aD iX cY hk⟩;cases hr:Region.ready .any (opsOf c) aD with
  |nil=>rfl
  |cons i r=>
   exfalso;have hi:i∈Region.ready .any (opsOf c) aD:=by rw[hr];simp
   obtain⟨h1,h2,_⟩:=im hi;have:=cY i h1;have qY:i<aD.size:=oM;simp[Array.getD,qY]at h2 this;rw[h2]at this;cases this
 |succ fuel ih=>
  intro aD a w iX hf hk;refine⟨λhr=>Dd a w aD iX (l9 aD iX hr) hk,λi hi=> ?_⟩;obtain⟨h1,h2,_⟩:=im hi;refine Dg hd td Dh (rW i h1) iX hi hk (λa' w' lI=> ?_);refine ih _ a' w' (by simpa using iX) ?_ lI;have qY:i<aD.size:=oM;have Sk:aD.getD i false=false:=by simp[Array.getD,qY]at h2⊢;exact h2
  have ir:ae ((List.range (opsOf c).size).filter (λj=> !(aD.setIfInBounds i true).getD j false))<ae ((List.range (opsOf c).size).filter (λj=> !aD.getD j false)):=by
   have kE:((List.range (opsOf c).size).filter (λj=> !(aD.setIfInBounds i true).getD j false))=((List.range (opsOf c).size).filter (λj=> !aD.getD j false)).filter (λj=> !(Nat.beq j i)):=by
    rw[y9];apply qH;intro j _;by_cases e:i=j
    ·subst e;simp[mH,qY]
    ·have hb:Nat.beq j i=false:=by
      cases hq:Nat.beq j i with
      |false=>rfl
      |true=>exact absurd (ko hq).symm e
     simp[mH,tw e,hb]
   rw[kE];have nt:i∈(List.range (opsOf c).size).filter (λj=> !aD.getD j false):=dY.2 ⟨dp.2 h1,by rw[Sk];rfl⟩;refine De.2 ⟨i,nt,sI⟩
  omega
theorem Qbk(hk:kind c= .region true)(hm:P.follows .mixedOrders=true){a:Act}{wr:World}(sp:Nat->Spec)(J:(Nat->Bool)->(Nat->Value)->World->Prop)(hd:mL c=true)(nI:iT c=true)(hF:Fr a N env0)(tC:rV env0=true)(td:(List.range (opsOf c).size).all (λi=>jW (bC c i) N)=true)(Dh:∀j v w w',(sp j).ok v w->(sp j).ok v w')(h0:J (λ_=>false) (λ_=>undef) wr.drew)(rW:∀i,i<(opsOf c).size->sS P c Q N env0 sp J i)(h:∀a' w' (ls:Nat->Bool) (vs:Nat->Value),(∀j,j<(opsOf c).size->ls j=true)->J ls vs w'->(∀j,j<(opsOf c).size->(sp j).ok (vs j) w')->Fr a' N (sR c sp vs (List.range (opsOf c).size)++xC c env0)->K a' w'):W P c K Q a wr:=by
 have NJ:∀i d,bC c i=some d->d<N.n:=by
  intro i d hi;have ir:i<(opsOf c).size:=by
   simp only[bC]at hi;cases ho:(opsOf c)[i]? with
   |none=>simp[ho]at hi
   |some o=>exact(tA.1 ho).1
  simp only[gQ,dp]at td;have:=td i ir;rw[hi]at this;simpa[jW,p6]using this
 cases c<;>simp[kind]at hk;rename_i id ops dr;subst hk;refine wp_region_any hm ?_;have h1:rY (.region id ops true) N env0 sp J (Array.replicate ops.size false) a {wr with drawn:=wr.drawn+1}:=by refine⟨λ_=>false,λ_=>undef,?_,λ_ _=>rfl,h0,hF.defers,hF.size,(λ_ hj=>absurd hj sI),(λ_ hj=>absurd hj sI),λt v htv _=>hF.slot t v (q7 tC htv)⟩;intro j hj;simp at hj;simp[mH,hj]
 refine Sm (c:= .region id ops true) hd NJ Dh nI rW ?_ ops.size _ a _ (by simp[opsOf]) ?_ h1
 ·intro a' w' aD iX cY hk;obtain⟨ls,vs,hls,_,hJ,vk,Qgv,_,Ah,q8⟩:=hk;have ir:∀j,j<(opsOf (.region id ops true)).size->ls j=true:=λj hj=>by rw[hls j oM];exact cY j hj
  refine h a' w' ls vs ir hJ (λj hj=>(Ah j (ir j hj)).1) ⟨vk,Qgv,λt v hv=> ?_⟩;rcases mi hv with h1|h1
  ·obtain⟨j,hj,vl,rfl⟩:=oU h1;obtain⟨h2,h3⟩:=Ah j (ir j (dp.1 hj));rw[Spec.y6 h2];exact h3 t vl
  ·obtain⟨h2,h3⟩:=uM h1;exact q8 t v h2 (λj _=>h3 j)
 ·refine iz (j6 _ _) ?_;simp[opsOf]
end
def Spec.free:Spec:= .any (λ_ _=>True) (λ_ _ _ _ _=>trivial)
theorem bB{c:Code}{i:Nat}{d:Option Nat}{a a':Act}{w':World}{v:Value}{s:Spec}{Z:Value->Prop}(hd:bC c i=d)(ea:a'=a.put d v)(h:s.ok v w')(hJ:Z v):∃v,a'=a.put (bC c i) v/\s.ok v w'/\Z v:=⟨v,by rw[hd];exact ea,h,hJ⟩
inductive Plain:List Spec->Prop where
 |nil:Plain []
 |bd {v r}:Plain r->Plain (.bd v::r)
 |free {r}:Plain r->Plain (Spec.free::r)
theorem fU{l:List Spec}(h:Plain l):∀(j:Nat) (v:Value) (w w':World),(bE l j).ok v w->(bE l j).ok v w':=by
 induction h with
 |nil=>intro j v w w' h;exact h
 |bd _ ih=>
  intro j v w w' h;cases j with
  |zero=>exact h
  |succ j=>exact ih j v w w' h
 |free _ ih=>
  intro j v w w' h;cases j with
  |zero=>exact h
  |succ j=>exact ih j v w w' h
section
variable{S:Nat -> Prop}{w0 w w':World}{L:List bD}
theorem NL{α:Type}{L:List α}{i:Nat}{r:α}(hi:L[i]?=some r):L.Perm (r::L.eraseIdx i):=by
 induction L generalizing i with
 |nil=>simp at hi
 |cons x L ih=>
  cases i with
  |zero=>simp at hi;subst hi;simp
  |succ i=>
   simp at hi;rw[NM];exact((ih hi).cons x).trans (we r x _)
theorem Mem.front(h:Mem S w0 w L)(i:Nat){r:bD}(hi:L[i]?=some r):Mem S w0 w (r::L.eraseIdx i):=h.perm (NL hi)
end
theorem kz{P:Program}{c:Code}{K:Act->World->Prop}{Q:Exit->Act->World->Prop}{a:Act}{w:World}{k k':Nat}{N:FN}{env:Env}{d:Option Nat}{ty:Nat}{g:Option (Nat×Bool)}{op:BinOp}{t t':TypeId}{x y:Operand}(hk:aB c k=some (d,.binOp op t x y t',ty,g))(hF:Fr a N env)(hg:bU c g env=some true)(hd:jW d N=true)(lI:k+1=k'){kd kd':IntKind}{i j:Int}{z:Value}(hx:ev env x=some (.int kd i))(hy:ev env y=some (.int kd' j))(hb:∀w,(binOp op t (.int kd i) (.int kd' j)).run P w= .ok z w)(h:∀a',a'=a.put d z->Fr a' N (eJ env d z)->bL P c K Q k' a' w):bL P c K Q k a w:=by
 refine gq hk hF hg hd lI (λo ho=> ?_) h;unfold execOp;rw[ho];have he:(eqGuard op t x y (.int kd i) (.int kd' j)).run P w= .ok () w:=by cases op<;>simp[eqGuard]
 simp only[hF.ev hx,hF.ev hy,gG,he,ig,hb];rfl
section
variable{P:Program}{t:TypeId}
theorem Qbl{i:Int}(m:Int)(h0:0<=i)(h1:i<=9223372036854775807)(hm:0<m)(w:World):(binOp .quo t (vI i) (vI m)).run P w= .ok (vI (i / m)) w:=by
 have eC:m≠0:=oM;have hle:i / m<=i:=Int.ediv_le_self _ h0;have h2:0<=i / m:=Int.ediv_nonneg h0 oM;have hw:IntKind.i64.wrap (i.tdiv m)=i / m:=by rw[Int.tdiv_eq_ediv_of_nonneg h0];exact HQ _ ⟨oM,oM⟩
 simp[binOp,Op.intDiv,eC,hw]
theorem Qbm{i:Int}(m:Int)(h0:0<=i)(hm:0<m)(w:World):(binOp .rem t (vI i) (vI m)).run P w= .ok (vI (i % m)) w:=by
 have eC:m≠0:=oM;simp[binOp,Op.intDiv,eC,Int.tmod_eq_emod_of_nonneg h0]
theorem Di{i:Nat}(m:Nat)(h1:i<=9223372036854775807)(hm:0<m)(w:World):(binOp .quo t (vI (i:Int)) (vI (m:Int))).run P w= .ok (vI ((i / m:Nat):Int)) w:=Qbl (i:=(i:Int)) (m:Int) oM oM oM w
theorem Kl{i:Nat}(m:Nat)(hm:0<m)(w:World):(binOp .rem t (vI (i:Int)) (vI (m:Int))).run P w= .ok (vI ((i % m:Nat):Int)) w:=Qbm (i:=(i:Int)) (m:Int) oM oM w
theorem wg{r:Nat}(h:r<64):(2:Nat)^r<2^64:=Nat.pow_lt_pow_right dQ h
theorem wrap_u64{q:Nat}(h:q<2^64):IntKind.u64.wrap (q:Int)=(q:Int):=IntWalk.u64_in _ ⟨oM,oM⟩
theorem Qbn{r:Nat}(h:r<64)(w:World):(binOp .shl t (.int .u64 1) (vI (r:Int))).run P w= .ok (.int .u64 ((2^r:Nat):Int)) w:=by
 have h1:¬((r:Int)<0):=oM;have Qgw:min (r:Int).toNat IntKind.u64.bits=r:=by simp[IntKind.bits];omega
 have hw:IntKind.u64.wrap (1*2^r:Int)=((2^r:Nat):Int):=by have e:(1*2^r:Int)=((2^r:Nat):Int):=sI;rw[e];exact wrap_u64 (wg h)
 show(Op.shift .shl .u64 1 .i64 (r:Int)).run P w=_;unfold Op.shift;rw[ao h1];simp only[Qgw,hw,o7]
theorem Qgx{x y:Nat}(hx:x<2^64)(hy:y<2^64)(w:World):(binOp .or t (.int .u64 (x:Int)) (.int .u64 (y:Int))).run P w= .ok (.int .u64 ((x|||y:Nat):Int)) w:=by
 have h3:x|||y<2^64:=Nat.or_lt_two_pow hx hy;have hw:IntKind.u64.wrap ((x|||y:Nat):Int)=((x|||y:Nat):Int):=IntWalk.u64_in _ ⟨oM,oM⟩;have hb:(BitVec.ofInt IntKind.u64.bits (x:Int)|||BitVec.ofInt IntKind.u64.bits (y:Int)).toNat=x|||y:=by
  have e1:BitVec.ofInt IntKind.u64.bits (x:Int)=BitVec.ofNat 64 x:=by apply Dj;simp[IntKind.bits]
  have e2:BitVec.ofInt IntKind.u64.bits (y:Int)=BitVec.ofNat 64 y:=by apply Dj;simp[IntKind.bits]
  rw[e1,e2];show(BitVec.ofNat 64 x|||BitVec.ofNat 64 y).toNat=_;rw[BitVec.toNat_or,H3,H3,H4 hx,H4 hy]
 show(Op.intBits .or .u64 (x:Int) (y:Int)).run P w=_;simp only[Op.intBits,o7,hb,hw]
theorem Qbo{x y:Nat}(hx:x<2^64)(hy:y<2^64)(w:World):(binOp .and t (.int .u64 (x:Int)) (.int .u64 (y:Int))).run P w= .ok (.int .u64 ((x&&&y:Nat):Int)) w:=by
 have h3:x&&&y<2^64:=Nat.lt_of_le_of_lt Nat.and_le_left hx;have hw:IntKind.u64.wrap ((x&&&y:Nat):Int)=((x&&&y:Nat):Int):=IntWalk.u64_in _ ⟨oM,oM⟩;have hb:(BitVec.ofInt IntKind.u64.bits (x:Int)&&&BitVec.ofInt IntKind.u64.bits (y:Int)).toNat=x&&&y:=by
  have e1:BitVec.ofInt IntKind.u64.bits (x:Int)=BitVec.ofNat 64 x:=by apply Dj;simp[IntKind.bits]
  have e2:BitVec.ofInt IntKind.u64.bits (y:Int)=BitVec.ofNat 64 y:=by apply Dj;simp[IntKind.bits]
  rw[e1,e2];show(BitVec.ofNat 64 x&&&BitVec.ofNat 64 y).toNat=_;rw[BitVec.toNat_and,H3,H3,H4 hx,H4 hy]
 show(Op.intBits .and .u64 (x:Int) (y:Int)).run P w=_;simp only[Op.intBits,o7,hb,hw]
theorem Wd{x:Nat}(hx:x<2^64)(w:World):(binOp .and t (.int .u64 (x:Int)) (.int .u64 1)).run P w= .ok (.int .u64 ((x&&&1:Nat):Int)) w:=Qbo (y:=1) hx dQ w
theorem Qbp{x r:Nat}(h:r<64)(w:World):(binOp .shr t (.int .u64 (x:Int)) (vI (r:Int))).run P w= .ok (.int .u64 ((x / 2^r:Nat):Int)) w:=by
 have h1:¬((r:Int)<0):=oM;have Qgw:min (r:Int).toNat IntKind.u64.bits=r:=by simp[IntKind.bits];omega
 have e:(x:Int).fdiv (2^r)=((x / 2^r:Nat):Int):=by have e2:(2^r:Int)=((2^r:Nat):Int):=sI;rw[e2,Int.fdiv_eq_ediv_of_nonneg _ (Dk _)];rfl
 show(Op.shift .shr .u64 (x:Int) .i64 (r:Int)).run P w=_;unfold Op.shift;rw[ao h1];simp only[Qgw,e,o7]
end
def oE(ws:List Nat):bh:=ws.map (λx:Nat=>Value.int .u64 (x:Int))
def tb(ws:List Nat)(i:Nat):Bool:=(ws.getD (i / 64) 0).testBit (i % 64)
def Dl(ws:List Nat)(i:Nat):List Nat:=ws.set (i / 64) (ws.getD (i / 64) 0|||2^(i % 64))
theorem Km{ws:List Nat}{i:Nat}(h:i<ae ws):(oE ws)[i]?=some (.int .u64 ((ws.getD i 0:Nat):Int)):=by
 simp[oE,List.getD,h]
theorem We(ws:List Nat)(i x:Nat):oE (ws.set i x)=(oE ws).set i (.int .u64 (x:Int)):=by simp[oE,qL]
theorem Wf(ws:List Nat):ae (oE ws)=ae ws:=by simp[oE]
theorem Qgy{ws:List Nat}{i:Nat}(hi:i / 64<ae ws)(j:Nat):tb (Dl ws i) j=(decide (i=j)||tb ws j):=by
 unfold tb Dl;by_cases h:i / 64=j / 64
 ·have e:(ws.set (i / 64) (ws.getD (i / 64) 0|||2^(i % 64))).getD (j / 64) 0=(ws.getD (i / 64) 0|||2^(i % 64)):=by rw[<-h];simp[List.getD,hi]
  rw[e,Nat.testBit_or,Nat.testBit_two_pow,<-h];have e2:(i % 64=j % 64)↔i=j:=oM;simp only[e2];rw[Bool.or_comm]
 ·have e:(ws.set (i / 64) (ws.getD (i / 64) 0|||2^(i % 64))).getD (j / 64) 0=ws.getD (j / 64) 0:=by simp[List.getD,jP h]
  rw[e];have:¬i=j:=λe=>h (by rw[e])
  simp[this]
theorem Qbq(k j:Nat):tb (List.replicate k 0) j=false:=by
 unfold tb;have:(List.replicate k 0).getD (j / 64) 0=0:=by
  by_cases h:j / 64<k
  ·simp[List.getD,h]
  ·simp[List.getD,h]
 rw[this,Nat.zero_testBit]
theorem Qgz(x r:Nat):(((x / 2^r&&&1:Nat):Int)==1)=x.testBit r:=by
 rw[Nat.testBit,Nat.shiftRight_eq_div_pow,Nat.and_comm 1];rcases Nat.mod_two_eq_zero_or_one (x / 2^r)with h|h
 ·rw[Nat.and_one_is_mod,h];rfl
 ·rw[Nat.and_one_is_mod,h];rfl
def Fit(ws:List Nat):Prop:=∀x,x∈ws->x<2^64
theorem Fit.get{ws:List Nat}(h:Fit ws)(i:Nat):ws.getD i 0<2^64:=by
 unfold List.getD;cases hx:ws[i]? with
 |none=>simp
 |some x=>exact h x (aI hx)
theorem Fit.put{ws:List Nat}(h:Fit ws)(i:Nat):Fit (Dl ws i):=by
 intro x hx;unfold Dl at hx;rcases H5 hx with h1|h1
 ·exact h x h1
 ·subst h1;exact Nat.or_lt_two_pow (h.get _) (wg (Nat.mod_lt _ dQ))
theorem Fit.zero(k:Nat):Fit (List.replicate k 0):=by
 intro x hx;rw[H2 hx];decide
structure jl where
 A:ar
 n:Nat
 c:Nat
 xs:bh
def nR:jl:=⟨none,0,0,[]⟩
def jl.res(e:Nat)(r:jl):bD:= .row e 1 r.A r.n r.c r.xs
def jI(rows:List jl):bh:=rows.map (λr=>Value.slice r.A r.n r.c)
def bD.kq(e:Nat)(rows:List jl):bD where
 fp:=λg=>∃r,r∈rows/\(r.res e).fp g
 holds w:=(∀r,r∈rows->(r.res e).holds w)/\rows.Pairwise (fun(r s:jl)=>∀g:Nat,(r.res e).fp g->¬(s.res e).fp g)
 kD h hw:=⟨λr hr=>(r.res e).kD (λg hg=>h g ⟨r,hr,hg⟩) (hw.1 r hr),hw.2⟩
 lt:=by
  rintro w g hw ⟨r,hr,hg⟩
  exact(r.res e).lt (hw.1 r hr) hg
theorem za{e:Nat}{g:Nat}:¬(nR.res e).fp g:=by
 rintro⟨a,ha,_⟩;cases ha
theorem Gd(e:Nat)(w:World):(nR.res e).holds w:=Ql w e 1
theorem Qp{w:World}{e:Nat}{rows:List jl}(h:(bD.kq e rows).holds w){t:Nat}{r:jl}(ht:rows[t]?=some r):(bD.row e 1 r.A r.n r.c r.xs).holds w:=h.1 r (aI ht)
theorem j7{rows:List jl}{t:Nat}{r:jl}(ht:rows[t]?=some r):(jI rows)[t]?=some (vS r.A r.n r.c):=by simp[jI,ht]
theorem Qbr(rows:List jl):ae (jI rows)=ae rows:=by simp[jI]
theorem H6(rows:List jl)(t:Nat)(r:jl):jI (rows.set t r)=(jI rows).set t (vS r.A r.n r.c):=by simp[jI,qL]
theorem Dn(rows:List jl)(r:jl):jI (rows++[r])=jI rows++[.slice r.A r.n r.c]:=by simp[jI]
theorem Mem.H7(w:World)(e n:Nat):Mem bI w w [.kq e (List.replicate n nR)]:=by
 refine⟨rfl,rfl,rfl,cH _,λ_ _ _=>rfl,?_,oh _ _⟩;simp only[cF];rintro _ rfl;refine⟨⟨λr hr=>by rw[H2 hr];exact Gd e w,?_⟩,λg hg=> ?_⟩
 ·rw[pairwise_replicate];exact .inr (λg hg=>(za hg).elim)
 ·obtain⟨r,hr,hg⟩:=hg;rw[H2 hr]at hg;exact(za hg).elim
section
variable{S:Nat -> Prop}{w0 w:World}{L:List bD}
theorem Mem.focus{e:Nat}{rows:List jl}(h:Mem S w0 w (.kq e rows::L))(t:Nat){r:jl}(ht:rows[t]?=some r):Mem S w0 w (.kq e (rows.set t nR):: .row e 1 r.A r.n r.c r.xs::L):=by
 have hp:=l7.1 h.apart;have hf:=h.own _ (cK ..);obtain⟨⟨hh,hpw⟩,hS⟩:=hf;have hr:r∈rows:=aI ht;have NN:∀s,s∈rows.set t nR->s=nR\/∃j,j≠t/\rows[j]?=some s:=by
  intro s hs;obtain⟨j,hj⟩:=bq.1 hs;by_cases e1:t=j
  ·subst e1;have ir:=(aW.1 ht).1;rw[kP ir]at hj;injection hj with hj;exact .inl hj.symm
  ·rw[jP e1]at hj;exact .inr ⟨j,λh=>e1 h.symm,hj⟩
 have sym:∀x y:jl,(∀g,(x.res e).fp g->¬(y.res e).fp g)->∀g,(y.res e).fp g->¬(x.res e).fp g:=λx y h g hy hx=>h g hx hy
 refine⟨h.os,h.tape,h.output,h.size,h.kept,?_,?_⟩
 ·intro q hq;rcases cG.1 hq with rfl|hq
  ·refine⟨⟨λs hs=> ?_,?_⟩,λg hg=> ?_⟩
   ·rcases NN s hs with rfl|⟨j,_,hj⟩
    ·exact Gd e w
    ·exact hh s (aI hj)
   ·rw[tx];intro i j hi hj hij g hg rG;have gi:(rows.set t nR)[i]?=some (rows.set t nR)[i]:=dF hi;have gj:(rows.set t nR)[j]?=some (rows.set t nR)[j]:=dF hj;generalize (rows.set t nR)[i]=x at*;generalize (rows.set t nR)[j]=y at*;have ir:=(aW.1 ht).1;by_cases e1:t=i
    ·subst e1;rw[kP ir]at gi;injection gi with gi;subst gi;exact za hg
    ·by_cases e2:t=j
     ·subst e2;rw[kP ir]at gj;injection gj with gj;subst gj;exact za rG
     ·rw[jP e1]at gi;rw[jP e2]at gj;exact qX sym hpw gi gj oM g hg rG
   ·obtain⟨s,hs,hg⟩:=hg;rcases NN s hs with rfl|⟨j,_,hj⟩
    ·exact(za hg).elim
    ·exact hS g ⟨s,aI hj,hg⟩
  ·rcases cG.1 hq with rfl|hq
   ·exact⟨hh r hr,λg hg=>hS g ⟨r,hr,hg⟩⟩
   ·exact h.own q (cr _ hq)
 ·refine l7.2 ⟨?_,l7.2 ⟨?_,hp.2⟩⟩
  ·rintro q hq g ⟨s,hs,hg⟩ rG;rcases NN s hs with rfl|⟨j,hj,hs⟩
   ·exact za hg
   ·rcases cG.1 hq with rfl|hq
    ·exact qX sym hpw hs ht hj g hg rG
    ·exact hp.1 q hq g ⟨s,aI hs,hg⟩ rG
  ·intro q hq g hg rG;exact hp.1 q hq g ⟨r,hr,hg⟩ rG
theorem Mem.H8{e n c:Nat}{A:ar}{xs:bh}{rows:List jl}(h:Mem S w0 w (.kq e rows:: .row e 1 A n c xs::L))(t:Nat)(ht:rows[t]?=some nR):Mem S w0 w (.kq e (rows.set t ⟨A,n,c,xs⟩)::L):=by
 have hp:=l7.1 h.apart;have hq:=l7.1 hp.2;obtain⟨⟨hh,hpw⟩,hS⟩:=h.own _ (cK ..);have hr:=h.own _ (cr _ (cK ..));have ir:=(aW.1 ht).1;have far:∀s,s∈rows->∀g,(s.res e).fp g->¬(bD.row e 1 A n c xs).fp g:=λs hs g hg=>hp.1 _ (cK ..) g ⟨s,hs,hg⟩
 have NN:∀s,s∈rows.set t ⟨A,n,c,xs⟩->s=⟨A,n,c,xs⟩\/s∈rows:=by intro s hs;exact(H5 hs).symm
 have sym:∀x y:jl,(∀g,(x.res e).fp g->¬(y.res e).fp g)->∀g,(y.res e).fp g->¬(x.res e).fp g:=λx y h g hy hx=>h g hx hy
 refine⟨h.os,h.tape,h.output,h.size,h.kept,?_,l7.2 ⟨?_,hq.2⟩⟩
 ·intro q Sn;rcases cG.1 Sn with rfl|Sn
  ·refine⟨⟨λs hs=> ?_,?_⟩,λg hg=> ?_⟩
   ·rcases NN s hs with rfl|hs
    ·exact hr.1
    ·exact hh s hs
   ·rw[tx];intro i j hi hj hij g hg rG;have gi:(rows.set t ⟨A,n,c,xs⟩)[i]?=some (rows.set t ⟨A,n,c,xs⟩)[i]:=dF hi;have gj:(rows.set t ⟨A,n,c,xs⟩)[j]?=some (rows.set t ⟨A,n,c,xs⟩)[j]:=dF hj;generalize (rows.set t ⟨A,n,c,xs⟩)[i]=x at*;generalize (rows.set t ⟨A,n,c,xs⟩)[j]=y at*;by_cases e1:t=i
    ·subst e1;rw[kP ir]at gi;injection gi with gi;subst gi;rw[jP oM]at gj;exact far y (aI gj) g rG hg
    ·rw[jP e1]at gi;by_cases e2:t=j
     ·subst e2;rw[kP ir]at gj;injection gj with gj;subst gj;exact far x (aI gi) g hg rG
     ·rw[jP e2]at gj;exact qX sym hpw gi gj oM g hg rG
   ·obtain⟨s,hs,hg⟩:=hg;rcases NN s hs with rfl|hs
    ·exact hr.2 g hg
    ·exact hS g ⟨s,hs,hg⟩
  ·exact h.own q (cr _ (cr _ Sn))
 ·rintro q Sn g ⟨s,hs,hg⟩ rG;rcases NN s hs with rfl|hs
  ·exact hq.1 q Sn g hg rG
  ·exact hp.1 q (cr _ Sn) g ⟨s,hs,hg⟩ rG
theorem Mem.push{e n c:Nat}{A:ar}{xs:bh}{rows:List jl}(h:Mem S w0 w (.kq e rows:: .row e 1 A n c xs::L)):Mem S w0 w (.kq e (rows++[⟨A,n,c,xs⟩])::L):=by
 have hp:=l7.1 h.apart;have hq:=l7.1 hp.2;obtain⟨⟨hh,hpw⟩,hS⟩:=h.own _ (cK ..);have hr:=h.own _ (cr _ (cK ..));refine⟨h.os,h.tape,h.output,h.size,h.kept,?_,l7.2 ⟨?_,hq.2⟩⟩
 ·intro q Sn;rcases cG.1 Sn with rfl|Sn
  ·refine⟨⟨λs hs=> ?_,?_⟩,λg hg=> ?_⟩
   ·rcases bV.1 hs with hs|hs
    ·exact hh s hs
    ·simp only[cF]at hs;subst hs;exact hr.1
   ·refine vU.2 ⟨hpw,oh _ _,λs hs s' Wg g hg rG=> ?_⟩;simp only[cF]at Wg;subst Wg;exact hp.1 _ (cK ..) g ⟨s,hs,hg⟩ rG
   ·obtain⟨s,hs,hg⟩:=hg;rcases bV.1 hs with hs|hs
    ·exact hS g ⟨s,hs,hg⟩
    ·simp only[cF]at hs;subst hs;exact hr.2 g hg
  ·exact h.own q (cr _ (cr _ Sn))
 ·rintro q Sn g ⟨s,hs,hg⟩ rG;rcases bV.1 hs with hs|hs
  ·exact hp.1 q (cr _ Sn) g ⟨s,hs,hg⟩ rG
  ·simp only[cF]at hs;subst hs;exact hq.1 q Sn g hg rG
end
theorem Dp{P:Program}{c:Code}{K:Act->World->Prop}{Q:Exit->Act->World->Prop}{a:Act}{w:World}{k k':Nat}{N:FN}{env:Env}{d:Option Nat}{ty:Nat}{g:Option (Nat×Bool)}{ts:Array TypeId}{x y:Operand}(hk:aB c k=some (d,.call {callee:= .builtin .min,args:=#[x,y],argTypes:=ts},ty,g))(hF:Fr a N env)(hg:bU c g env=some true)(hd:jW d N=true)(lI:k+1=k'){kd:IntKind}{i j:Int}(hx:ev env x=some (.int kd i))(hy:ev env y=some (.int kd j))(z:Int)(hz:z=if j<i then j else i)(h:∀a',a'=a.put d (.int kd z)->Fr a' N (eJ env d (.int kd z))->bL P c K Q k' a' w):bL P c K Q k a w:=by
 refine gq hk hF hg hd lI (λo ho=> ?_) h;unfold execOp;rw[ho];simp only[resolve,invoke,builtin,gG,o7,ig,C8,gu,qG,hF.ev hx,hF.ev hy,Builtin.min_,List.foldlM];subst hz;simp[Builtin.min2];try (split<;>simp_all<;>omega)
theorem Qbs{w:World}{ad:Addr}{xs:bh}(h:(bD.rd (some ad) xs).holds w)(m:Nat):(bD.rd (some (ad.add (m*1))) (xs.drop m)).holds w:=by
 intro i v hi;rw[zb]at hi;obtain⟨a',ha,hc⟩:=h (m+i) v hi;injection ha with ha;subst ha;refine⟨_,rfl,?_⟩;rw[add_add,fx];exact hc
theorem Fl{fn:Func}{t:Tmp}{ty:TypeId}(h:fn.results=#[.cell t ty])(tmps:Array Value)(P:Program)(w:World){ad:Addr}{vs:bh}(hp:tmps.getD t undef= .pointer (some ad))(ht:y5 P ty=some (ae vs))(hc:∀(j:Nat) (v:Value),vs[j]?=some v->w.cell? (ad.add j)=some v):(results fn tmps).run P w= .ok (.agg vs.toArray) w:=by
 obtain⟨h1,h2⟩:=oT ht w;have e:tmps[t]?.getD undef= .pointer (some ad):=by simpa using hp
 have ha:(asAddr (vP ad)).run P w= .ok ad w:=rfl;have hl:(loadVar ty ad).run P w= .ok (.agg vs.toArray) w:=by simp[loadVar,h1,h2,HO (P:=P) w ad vs hc]
 simp only[results,h];simp[gG,Result.andThen,e,ha,hl]
theorem NO{P:Program}{fn:Func}{R:Ending->World->Prop}{a:Act}{w:World}{N:FN}{env:Env}{t:Tmp}{ty:TypeId}{ad:Addr}{vs:bh}(hF:Fr a N env)(hr:fn.results=#[.cell t ty])(hv:look env t=some (vP ad))(ht:y5 P ty=some (ae vs))(hc:∀(j:Nat) (v:Value),vs[j]?=some v->w.cell? (ad.add j)=some v)(h:R (.returned (.agg vs.toArray)) w)(hD:N.D=[]:=by rfl):bodyPost P fn R .ret a w:=by
 refine bodyPost_ret (v:= .agg vs.toArray) ?_ (hF.defers.trans hD) h;refine Fl hr _ _ _ ?_ ht hc;have:=hF.ev (x:= .tmp t) hv;simpa only[Act.eval]using this
def bD.qU(A:ar)(size:Nat)(Wi:List bh):bD where
 fp:=λk=>(∃i cs,Wi[i]?=some cs/\cs≠[])/\∃a,A=some a/\a.block=k
 holds w:=∀i cs,Wi[i]?=some cs->∃ad,A=some ad/\∀j v,cs[j]?=some v->w.cell? ((ad.add (i*size)).add j)=some v
 kD:=by
  intro w w' h hw i cs hi
  obtain⟨a,ha,hc⟩:=hw i cs hi
  refine⟨a,ha,λj v hj=> ?_⟩
  rw[<-hc j v hj]
  refine World.cell?_of_block ?_
  rw[block_add,block_add]
  exact h a.block ⟨⟨i,cs,hi,by rintro rfl;simp at hj⟩,a,ha,rfl⟩
 lt:=by
  rintro w k hw ⟨⟨i,cs,hi,eC⟩,a,rfl,rfl⟩
  obtain⟨a',ha,hc⟩:=hw i cs hi
  injection ha with ha
  subst ha
  cases cs with
  |nil=>exact absurd rfl eC
  |cons x cs=>
   have h0:=hc 0 x rfl
   unfold World.cell? at h0
   split at h0
   ·rename_i h;have:=rO h;rwa [block_add,block_add]at this
   ·cases h0
theorem bS{w:World}{A:ar}{size:Nat}{Wi:List bh}{ad:Addr}(h:(bD.qU A size Wi).holds w)(hA:A=some ad){i:Nat}{cs:bh}(hi:Wi[i]?=some cs):∀j v,cs[j]?=some v->w.cell? ((ad.add (i*size)).add j)=some v:=by
 obtain⟨a',ha,hc⟩:=h i cs hi;rw[hA]at ha;injection ha with ha;subst ha;exact hc
theorem cU{w:World}{A:ar}{size:Nat}{Wi:List bh}{cs:bh}{i:Nat}(h:(bD.qU A size Wi).holds w)(hi:Wi[i]?=some cs):∃ad,A=some ad:=by
 obtain⟨a',ha,_⟩:=h i cs hi;exact⟨a',ha⟩
structure SB where
 pA:ar
 pn:Nat
 pc:Nat
 iA:ar
 ik:Nat
 ic:Nat
 e:Int
 v:Int
 a:Int
 b:Int
def SB.cells(x:SB):bh:=[.slice x.pA x.pn x.pc,.slice x.iA x.ik x.ic,vI x.e,vI x.v,vI x.a,vI x.b]
def bD.blocks(A:ar)(bs:List SB):bD:= .qU A 6 (bs.map SB.cells)
theorem fF{w:World}{A:ar}{bs:List SB}{i:Nat}{x:SB}(h:(bD.blocks A bs).holds w)(hi:bs[i]?=some x):∃ad,A=some ad:=cU (cs:=x.cells) (i:=i) h (by simp[hi])
theorem wh{w:World}{A:ar}{bs:List SB}{ad:Addr}{i:Nat}{x:SB}(h:(bD.blocks A bs).holds w)(hA:A=some ad)(hi:bs[i]?=some x):∀j v,[.slice x.pA x.pn x.pc,.slice x.iA x.ik x.ic,vI x.e,vI x.v,vI x.a,vI x.b][j]?=some v->w.cell? ((ad.add (i*6)).add j)=some v:=bS (cs:=x.cells) h hA (by simp[hi])
theorem Wj{α:Type}{l:List α}{i:Int}(h0:0<=i)(h:i<ae l):∃x,l[i.toNat]?=some x:=⟨_,dF oM⟩
theorem Wl{l:ah}{k:Int}{j:Nat}(h:(l.take j).contains k=false)(hc:¬(l.getD (j:Int).toNat 0=k))(hj:j<ae l):(l.take (j+1)).contains k=false:=by
 rw[dh hj];simp only[cN,List.getD,dF hj,nu]at hc;simp only[zc,Dq,bV,cF]at h⊢;exact λhh=>hh.elim h (λe=>hc e.symm)
theorem Qbt{l:ah}{k:Int}{j:Nat}(hc:l.getD (j:Int).toNat 0=k)(hj:j<ae l):l.contains k=true:=by
 simp only[cN,List.getD,dF hj,nu]at hc;simp only[zc,aU];exact hc▸p7 hj
theorem QgA{l:ah}{k:Int}{j:Nat}(h:(l.take j).contains k=false)(hj:ae l<=j):l.contains k=false:=by
 rwa [cL hj]at h
theorem oG{w w':World}{A:ar}{n c:Nat}{l l0:ah}(hM:Mem bI w w' [.row 3 1 A n c (ints l)])(e:l=l0)(hn:n=ae l):∃A' c',Value.slice A n c=vS A' (ae l0) c'/\Mem bI w w' [.row 3 1 A' (ae l0) c' (ints l0)]:=by
 subst e;subst hn;exact⟨A,c,rfl,hM⟩
theorem r3{w w':World}{l0:ah}(hM:Mem bI w w' [])(e:l0=[]):∃A' c',Value.slice none 0 0=vS A' (ae l0) c'/\Mem bI w w' [.row 3 1 A' (ae l0) c' (ints l0)]:=by
 subst e;exact⟨none,0,rfl,hM.call (Mem.fi _ 3 1)⟩
def jS(n:Nat)(t:Int):Bool:=decide (0<=t)&&decide (t<n)
def Ch(n:Nat)(x:SB):ah:=(if x.e=0 then[x.a]else if x.e=1 then(if x.a=x.b then[x.a]else[x.a,x.b])else[]).filter (jS n)
def tg(bs:List SB)(b:Int):ah:=if 0<=b then(match bs[b.toNat]? with
 |some x=>Ch (ae bs) x
 |none=>[])else[]
theorem zd{bs:List SB}{b:Int}(h:b<0\/(ae bs:Int)<=b):tg bs b=[]:=by
 unfold tg;split
 ·rw[db oM]
 ·rfl
theorem xF{bs:List SB}{b:Int}{x:SB}(h:0<=b)(hx:bs[b.toNat]?=some x):tg bs b=Ch (ae bs) x:=by
 unfold tg;rw[ax h,hx]
theorem Qbu(n:Nat)(x:SB):ae (Ch n x)<=2:=by
 unfold Ch;refine iz (j6 _ _) ?_;split
 ·simp
 ·split
  ·split<;>simp
  ·simp
theorem tF(bs:List SB)(b:Int):ae (tg bs b)<=2:=by
 unfold tg;split
 ·split
  ·exact Qbu _ _
  ·simp
 ·simp
theorem r4{bs:List SB}{b t:Int}(h:t∈tg bs b):0<=t/\t<ae bs:=by
 unfold tg at h;split at h
 ·split at h
  ·simp only[Ch,dY,jS,bu,aU]at h;exact h.2
  ·simp at h
 ·simp at h
theorem QgB{n:Nat}{t:Int}(h:t<0):jS n t=false:=by
 unfold jS;simp;omega
theorem QgC{n:Nat}{t:Int}(h:¬t<0):decide (t>=(n:Int))=!(jS n t):=by
 unfold jS;have h0:decide (0<=t)=true:=by simp;omega
 rw[h0,Bool.true_and];by_cases h1:t<(n:Int)
 ·simp[h1]
 ·simp[h1];omega
theorem ints_set(l:ah)(i:Nat)(v:Int):ints (l.set i v)=(ints l).set i (vI v):=by simp[ints,qL]
theorem r5(n:Nat)(l:ah):l.filter (λx=> !((λx=> !(jS n x)) x))=l.filter (jS n):=by
 apply qH;intro x _;simp
theorem Wm{n:Nat}{x:SB}(h0:¬x.e=0)(h1:¬x.e=1):([]:ah).filter (λx=> !((λx=> !(jS n x)) x))=Ch n x:=by
 rw[r5];unfold Ch;rw[ao h0,ao h1]
theorem Qq{n:Nat}{x:SB}(h:x.e=0\/(¬x.e=0/\x.e=1/\x.a=x.b)):[x.a].filter (λx=> !((λx=> !(jS n x)) x))=Ch n x:=by
 rw[r5];unfold Ch;rcases h with h|⟨h,h1,h2⟩
 ·rw[ax h]
 ·rw[ao h,ax h1,ax h2]
theorem Qbv{n:Nat}{x:SB}(h:x.e=1)(h2:¬x.a=x.b):[x.a,x.b].filter (λx=> !((λx=> !(jS n x)) x))=Ch n x:=by
 rw[r5];unfold Ch;rw[ao oM,ax h,ao h2]
def rt1(n:Nat)(x:SB):ah:=if jS n x.a then[x.a]else[]
def rt2(n:Nat)(x:SB):ah:=if x.e=1/\x.b≠x.a/\jS n x.b=true then[x.b]else[]
theorem rt_eq{n:Nat}{x:SB}(h:x.e=0\/x.e=1):rt1 n x++rt2 n x=Ch n x:=by
 unfold rt1 rt2 Ch;rcases h with h|h
 ·rw[ax h,ao (show¬(x.e=1/\x.b≠x.a/\jS n x.b=true)by rintro⟨h1,_⟩;omega)];by_cases h1:jS n x.a=true<;>simp[h1]
 ·rw[ao (show¬x.e=0 by omega),ax h];by_cases h0:x.a=x.b
  ·rw[ax h0,ao (show¬(x.e=1/\x.b≠x.a/\jS n x.b=true)from λhh=>hh.2.1 h0.symm)];by_cases h1:jS n x.a=true<;>simp[h1]
  ·rw[ao h0];have h0':x.b≠x.a:=λe=>h0 e.symm
   by_cases h1:jS n x.a=true<;>by_cases h2:jS n x.b=true
   ·rw[ax h1,ax ⟨h,h0',h2⟩];simp[h1,h2]
   ·rw[ax h1,ao (λhh=>h2 hh.2.2)];simp[h1,h2]
   ·rw[ao h1,ax ⟨h,h0',h2⟩];simp[h1,h2]
   ·rw[ao h1,ao (λhh=>h2 hh.2.2)];simp[h1,h2]
theorem Qbw{n:Nat}{x:SB}(h0:¬x.e=0)(h1:¬x.e=1):Ch n x=[]:=by
 unfold Ch;rw[ao h0,ao h1];rfl
theorem Qbx{n:Nat}{x:SB}(h0:x.a>=0)(h1:x.a<n):rt1 n x=[x.a]:=by simp[rt1,jS,h0,h1]
theorem Wn{n:Nat}{x:SB}(h:x.a<0\/¬x.a<n):rt1 n x=[]:=by
 unfold rt1 jS;rw[ao];simp only[bu,aU];omega
theorem Qby{n:Nat}{x:SB}(h:x.e=1)(h':x.b≠x.a)(h0:x.b>=0)(h1:x.b<n):rt2 n x=[x.b]:=by simp[rt2,jS,h,h',h0,h1]
theorem H9{n:Nat}{x:SB}(h:¬x.e=1\/¬x.b≠x.a\/¬(x.b>=0)\/¬x.b<n):rt2 n x=[]:=by
 unfold rt2 jS;rw[ao];simp only[bu,aU];omega
theorem Qr(n:Nat)(x:SB):ae (rt1 n x)<=1:=by unfold rt1;split<;>simp
def gR(bs:List SB)(b:Int)(k:Nat):ah:=((List.range k).filter (λi:Nat=>(tg bs (i:Int)).contains b)).map (λi:Nat=>(i:Int))
def bO(bs:List SB)(b:Int):ah:=gR bs b (ae bs)
theorem tG(bs:List SB)(b:Int)(k:Nat):gR bs b (k+1)=gR bs b k++(if(tg bs (k:Int)).contains b=true then[(k:Int)]else[]):=by
 unfold gR;rw[oH,e8,bZ];congr 1;by_cases h:(tg bs (k:Int)).contains b=true
 ·rw[ax h];simp only[gN,h,mM,Ci,gu,qG]
 ·rw[ao h];rw[Cj]at h;simp only[gN,h,v8,mJ,Ci,qG]
theorem jz(bs:List SB)(b:Int)(k:Nat):ae (gR bs b k)<=k:=by
 unfold gR;rw[bl];exact iz (j6 _ _) sI
def pX(p:Int->Bool)(l:ah):Int:=match l.findIdx? p with
 |some i=>(i:Int)
 |none=> -1
theorem Ko{p:Int->Bool}{l:ah}{j:Nat}(h:(l.take j).any p=false)(hc:p (l.getD (j:Int).toNat 0)=false)(hj:j<ae l):(l.take (j+1)).any p=false:=by
 rw[dh hj];simp only[cN,List.getD,dF hj,nu]at hc;rw[any_append,h];simp[hc]
theorem Dr{p:Int->Bool}{l:ah}{j:Nat}(h:(l.take j).any p=false)(hc:p (l.getD (j:Int).toNat 0)=true)(hj:j<ae l):pX p l=(j:Int):=by
 simp only[cN,List.getD,dF hj,nu]at hc;unfold pX;have:l.findIdx? p=some j:=by rw[Ck];refine⟨hj,hc,λi hi=> ?_⟩;simp only[any_eq_false]at h;exact h _ (Cl.2 ⟨i,by simp;omega,sI⟩)
 rw[this]
theorem ze{p:Int->Bool}{l:ah}{j:Nat}(h:(l.take j).any p=false)(hj:ae l<=j):pX p l= -1:=by
 rw[cL hj]at h;unfold pX;have:l.findIdx? p=none:=by rw[Ia];simpa using h
 rw[this]
theorem Ib(p:Int->Bool)(l:ah): -1<=pX p l/\pX p l<ae l:=by
 unfold pX;cases h:l.findIdx? p with
 |none=>simp only[];omega
 |some i=>
  rw[Ck]at h;obtain⟨h1,_⟩:=h;simp only[];omega
theorem Fm(l:ah)(k:Int):decide (pX (λx=>x==k) l>=0)=l.contains k:=by
 unfold pX;cases h:l.findIdx? (λx=>x==k)with
 |none=>
  rw[Ia]at h;have:l.contains k=false:=by simp only[zc,Dq];intro hk;have:=h k hk;simp at this
  rw[this];simp
 |some i=>
  rw[Ck]at h;obtain⟨h1,h2,_⟩:=h;have:l.contains k=true:=by
   simp only[zc,aU];have h3:l[i]=k:=by simpa using h2
   exact h3▸p7 h1
  rw[this];simp only[ge_iff_le,aU];omega
def kept(p:Int->Bool)(l:ah)(j:Nat):ah:=(l.take j).filter (λx=> !p x)
theorem Wo{p:Int->Bool}{l:ah}{j:Nat}(hj:j<ae l)(hc:p (l.getD (j:Int).toNat 0)=false):kept p l (j+1)=kept p l j++[l.getD (j:Int).toNat 0]:=by
 unfold kept;simp only[cN,List.getD,dF hj,nu]at hc⊢;rw[dh hj,e8];simp[hc]
theorem Qbz{p:Int->Bool}{l:ah}{j:Nat}(hj:j<ae l)(hc:p (l.getD (j:Int).toNat 0)=true):kept p l (j+1)=kept p l j:=by
 unfold kept;simp only[cN,List.getD,dF hj,nu]at hc⊢;rw[dh hj,e8];simp[hc]
theorem Kq{p:Int->Bool}{l:ah}{j:Nat}(hj:ae l<=j):kept p l j=l.filter (λx=> !p x):=by
 unfold kept;rw[cL hj]
theorem any_filter{p:Int->Bool}{l:ah}(h:pX p l= -1):l.filter (λx=> !p x)=l:=by
 unfold pX at h;cases hh:l.findIdx? p with
 |some i=>rw[hh]at h;simp only[]at h;omega
 |none=>
  rw[Ia]at hh;rw[Ic];intro x hx;simp[hh x hx]
theorem NP{p:Int->Bool}{l:ah}(h:pX p l≠-1):∃i:Nat,pX p l=(i:Int)/\i<ae l/\kept p l (i+1)=l.take i:=by
 unfold pX at h⊢;cases hh:l.findIdx? p with
 |none=>rw[hh]at h;simp at h
 |some i=>
  rw[Ck]at hh;obtain⟨h1,h2,h3⟩:=hh;refine⟨i,rfl,h1,?_⟩;unfold kept;rw[dh h1,e8];have:[l[i]].filter (λx=> !p x)=[]:=by simp[h2]
  rw[this,iq,Ic];intro x hx;obtain⟨j,hj,rfl⟩:=Cl.1 hx;simp at hj;have:=h3 j oM;simpa using this
def NQ(l m k:ah)(j:Nat):Prop:=ae m=ae l/\m.take (ae k)=k/\m.drop j=l.drop j/\ae k<j
theorem Wp{l m k:ah}{j:Nat}(h:NQ l m k j):m.getD (j:Int).toNat 0=l.getD (j:Int).toNat 0:=by
 obtain⟨h1,_,h3,_⟩:=h;simp only[cN,List.getD];have e:∀x:ah,x[j]?=(x.drop j)[0]?:=λx=>sI
 rw[e m,e l,h3]
theorem QbA{l m k:ah}{j:Nat}(h:NQ l m k j):NQ l m k (j+1):=by
 obtain⟨h1,h2,h3,h4⟩:=h;refine⟨h1,h2,?_,oM⟩;rw[<-Cm,<-Cm,h3]
theorem Wq{l m k:ah}{j:Nat}(h:NQ l m k j)(hj:j<ae l)(v:Int):NQ l (m.set (ae k) v) (k++[v]) (j+1):=by
 obtain⟨h1,h2,h3,h4⟩:=h;refine⟨by simpa using h1,?_,?_,by simp;omega⟩
 ·rw[dG,length_singleton,dh (by simp;omega)];rw[NC (cH _),h2];simp
 ·rw[drop_set,ax oM,<-Cm,<-Cm,h3]
theorem halfL_start{l:ah}{i:Nat}(hi:i<ae l):NQ l l (l.take i) (i+1):=by
 refine⟨rfl,sI,rfl,by simp;omega⟩
theorem QbB{k m:ah}(h2:m.take (ae k)=k)(z y:bh):((ints m).take (ae k*1)++z++y).take (ae k*1)=ints k:=by
 have hl:ae k<=ae m:=by have:=aK List.length h2;simp at this;omega
 have hi:(ints m).take (ae k*1)=ints k:=by rw[fx];unfold ints;rw[<-map_take,h2]
 rw[hi,dV];have:ae k*1=ae (ints k):=by rw[fj,fx]
 rw[this,take_left]
abbrev SD:=(Int->Bool)×ah
def jo(S:Int->Bool)(t:Int):Int->Bool:=λx=>(x==t)||S x
inductive Kids(T:Int->ah):ah->SD->SD->Prop where
 |nil {s}:Kids T [] s s
 |skip {t ts S o s'}:S t=true->Kids T ts (S,o) s'->Kids T (t::ts) (S,o) s'
 |go {t ts S o s1 s'}:S t=false->Kids T (T t) (jo S t,o) s1->Kids T ts (s1.1,s1.2++[t]) s'->Kids T (t::ts) (S,o) s'
theorem Kids.mono{T:Int->ah}{ts:ah}{s s':SD}(h:Kids T ts s s'):∀x,s.1 x=true->s'.1 x=true:=by
 induction h with
 |nil=>exact λ_ h=>h
 |skip _ _ ih=>exact ih
 |go _ _ _ ih1 ih2=>exact λx hx=>ih2 x (ih1 x (by have rR:=hx;simp only at rR;simp[jo,rR]))
def pj(T:Int->ah):Nat->ah->SD->SD
 |0,_,s=>s
 |_+1,[],s=>s
 |f+1,t::ts,s=>match s.1 t with
  |true=>pj T f ts s
  |false=>pj T f ts ((pj T f (T t) (jo s.1 t,s.2)).1,(pj T f (T t) (jo s.1 t,s.2)).2++[t])
def mO(n:Nat)(S:Int->Bool):Nat:=ae ((List.range n).filter (λi:Nat=> !S (i:Int)))
theorem Dy{n:Nat}{S S':Int->Bool}(h:∀x,S x=true->S' x=true):mO n S'<=mO n S:=by
 unfold mO;refine List.Sublist.length_le ?_;have:(List.range n).filter (λi:Nat=> !S' (i:Int))=((List.range n).filter (λi:Nat=> !S (i:Int))).filter (λi:Nat=> !S' (i:Int)):=by rw[y9];apply qH;intro i _;cases h1:S (i:Int)<;>cases h2:S' (i:Int)<;>simp;rw[h _ h1]at h2;cases h2
 rw[this];exact xL
theorem jT{n:Nat}{S:Int->Bool}{t:Int}(h0:0<=t)(h1:t<n)(hS:S t=false):mO n (jo S t)+1<=mO n S:=by
 unfold mO
 have kE:(List.range n).filter (λi:Nat=> !jo S t (i:Int))=((List.range n).filter (λi:Nat=> !S (i:Int))).filter (λi:Nat=> !((i:Int)==t)):=by
  rw[y9]
  apply qH
  intro i _
  simp[jo]
 rw[kE]
 obtain⟨k,rfl⟩:=lk h0
 have nt:k∈(List.range n).filter (λi:Nat=> !S (i:Int)):=dY.2 ⟨dp.2 oM,by rw[hS];rfl⟩
 have:=De (p:=λi:Nat=> !((i:Int)==(k:Int)))|>.2 ⟨k,nt,sI⟩
 omega
theorem nX(n:Nat)(S:Int->Bool):mO n S<=n:=by
 unfold mO;exact iz (j6 _ _) sI
theorem Dz{T:Int->ah}{n:Nat}(hT:∀t,ae (T t)<=2)(hR:∀t x,x∈T t->0<=x/\x<n):∀(f:Nat) (ts:ah) (s:SD),(∀x,x∈ts->0<=x/\x<n)->3*mO n s.1+ae ts+1<=f->Kids T ts s (pj T f ts s):=by
 intro f;induction f with
 |zero=>intro ts s _ h;omega
 |succ f ih=>
  intro ts s hts hf;obtain⟨S,o⟩:=s;cases ts with
  |nil=>exact .nil
  |cons t ts=>
   have ht:=hts t (cK ..);have QjF:∀x,x∈ts->0<=x/\x<(n:Int):=λx hx=>hts x (cr _ hx)
   simp only[fh]at hf;cases hS:S t with
   |true=>
    have:pj T (f+1) (t::ts) (S,o)=pj T f ts (S,o):=by simp only[pj,hS]
    rw[this];exact .skip hS (ih ts (S,o) QjF (by simp only at hf⊢;omega))
   |false=>
    have e:pj T (f+1) (t::ts) (S,o)=pj T f ts ((pj T f (T t) (jo S t,o)).1,(pj T f (T t) (jo S t,o)).2++[t]):=by simp only[pj,hS]
    rw[e];have hu:=jT (S:=S) ht.1 ht.2 hS;have h1:=ih (T t) (jo S t,o) (hR t) (by have:=hT t;simp only at hf⊢;omega);refine .go hS h1 (ih ts _ QjF ?_);have hm:=Dy (n:=n) (Kids.mono h1);simp only at hf hm⊢;omega
theorem Kids.count{T:Int->ah}{n:Nat}(hR:∀t x,x∈T t->0<=x/\x<n){ts:ah}{s s':SD}(h:Kids T ts s s')(hts:∀x,x∈ts->0<=x/\x<(n:Int)):ae s'.2+mO n s'.1<=ae s.2+mO n s.1:=by
 induction h with
 |nil=>exact cH _
 |skip _ _ ih=>exact ih (λx hx=>hts x (cr _ hx))
 | @go t ts S o s1 s' hS _ _ ih1 ih2=>
  have ht:=hts t (cK ..);have h1:=ih1 (hR t);have h2:=ih2 (λx hx=>hts x (cr _ hx));have h3:=jT (S:=S) ht.1 ht.2 hS;simp only[dG,fh,gX]at h1 h2⊢;omega
def Kw(bs:List SB):ah:=(pj (tg bs) (3*ae bs+3) (tg bs 0) (jo (λ_=>false) 0,[])).2++[0]
def aR(bs:List SB):ah:=if ae bs=0 then[]else(Kw bs).reverse
theorem zi(bs:List SB):∃s,Kids (tg bs) (tg bs 0) (jo (λ_=>false) 0,[]) s/\s.2++[0]=Kw bs:=by
 refine⟨_,Dz (n:=ae bs) (λt=>tF bs t) (λt x h=>r4 h) (3*ae bs+3) _ _ (λx h=>r4 h) ?_,rfl⟩;have h1:=tF bs 0;have h2:=nX (ae bs) (jo (λ_=>false) 0);simp only;by_cases h:ae bs=0
 ·have:tg bs 0=[]:=zd oM;rw[this];simp;omega
 ·have:=jT (n:=ae bs) (S:=λ_=>false) (t:=0) oM oM rfl;have h3:=nX (ae bs) (λ_=>false);omega
theorem SE{bs:List SB}(h:0<ae bs):ae (Kw bs)<=ae bs:=by
 obtain⟨s,h1,h2⟩:=zi bs;have h3:=Kids.count (n:=ae bs) (λt x h=>r4 h) h1 (λx h=>r4 h);have h4:=jT (n:=ae bs) (S:=λ_=>false) (t:=0) oM oM rfl;have h5:=nX (ae bs) (λ_=>false);rw[<-h2,dG];simp only[gX,fh]at h3⊢;omega
def Kx(T:Int->ah):List (Int×Nat)->SD->ah->Prop
 |[],s,R=>s.2=R
 |(b,k)::rest,s,R=>∃s',Kids T ((T b).drop k) s s'/\Kx T rest (s'.1,s'.2++[b]) R
theorem QbJ{T:Int->ah}{b:Int}{k:Nat}{rest:List (Int×Nat)}{s:SD}{R:ah}(h:Kx T ((b,k)::rest) s R)(hk:ae (T b)<=k):Kx T rest (s.1,s.2++[b]) R:=by
 obtain⟨s',h1,h2⟩:=h;rw[drop_of_length_le hk]at h1;cases h1;exact h2
theorem WC{T:Int->ah}{b t:Int}{k:Nat}{rest:List (Int×Nat)}{S:Int->Bool}{o:ah}{R:ah}(h:Kx T ((b,k)::rest) (S,o) R)(hk:(T b)[k]?=some t)(ht:S t=true):Kx T ((b,k+1)::rest) (S,o) R:=by
 obtain⟨s',h1,h2⟩:=h;obtain⟨ir,he⟩:=aW.1 hk;rw[Ae ir,he]at h1;cases h1 with
 |skip _ h1=>exact⟨s',h1,h2⟩
 |go h' _ _=>rw[ht]at h';cases h'
theorem WD{T:Int->ah}{b t:Int}{k:Nat}{rest:List (Int×Nat)}{S:Int->Bool}{o:ah}{R:ah}(h:Kx T ((b,k)::rest) (S,o) R)(hk:(T b)[k]?=some t)(ht:S t=false):Kx T ((t,0)::(b,k+1)::rest) (jo S t,o) R:=by
 obtain⟨s',h1,h2⟩:=h;obtain⟨ir,he⟩:=aW.1 hk;rw[Ae ir,he]at h1;cases h1 with
 |skip h' _=>rw[ht]at h';cases h'
 |go _ ha hb=>exact⟨_,by simpa using ha,⟨s',hb,h2⟩⟩
def gf(l:List Bool):bh:=l.map Value.bool
theorem nv{l:List Bool}{i:Nat}(h:i<ae l):(gf l)[i]?=some (vB (l.getD i false)):=by simp[gf,List.getD,h]
theorem ri(l:List Bool)(i:Nat)(v:Bool):gf (l.set i v)=(gf l).set i (vB v):=by simp[gf,qL]
def fX(n:Nat)(l:List Bool)(S:Int->Bool):Prop:=ae l=n/\∀i:Nat,i<n->l.getD i false=S (i:Int)
theorem fX.start(n:Nat):fX n (List.replicate n false) (λ_=>false):=⟨sI,λi hi=>by simp[List.getD,hi]⟩
theorem fX.put{n:Nat}{l:List Bool}{S:Int->Bool}(h:fX n l S){i:Nat}(_hi:i<n):fX n (l.set i true) (jo S (i:Int)):=by
 refine⟨by simp[h.1],λj hj=> ?_⟩;unfold jo;by_cases e:i=j
 ·subst e;have:i<ae l:=by rw[h.1];exact hj
  simp[List.getD,this]
 ·have e2:¬((j:Int)=(i:Int)):=oM;rw[<-h.2 j hj];simp[List.getD,jP e,e2]
def Gi(p:Int×Nat):bh:=[vI p.1,vI (p.2:Int)]
def tJ(st:List (Int×Nat)):bh:=st.reverse.flatMap Gi
theorem oW(p:Int×Nat)(st:List (Int×Nat)):tJ (p::st)=tJ st++Gi p:=by simp[tJ]
theorem DA(st:List (Int×Nat)):ae (tJ st)=ae st*2:=by
 induction st with
 |nil=>rfl
 |cons p st ih=>rw[oW,dG,ih];simp[Gi];omega
theorem xM{b:Int}{k:Nat}{st:List (Int×Nat)}:(tJ ((b,k)::st))[ae st*2]?=some (vI b)/\(tJ ((b,k)::st))[ae st*2+1]?=some (vI (k:Int)):=by
 rw[oW,<-DA];constructor
 ·rw[lJ (cH _)];simp[Gi]
 ·rw[lJ oM];simp[Gi]
theorem QbK{b:Int}{k:Nat}{st:List (Int×Nat)}:(tJ ((b,k)::st)).take (ae st*2)=tJ st:=by
 rw[oW,<-DA,take_left]
theorem QbL{b:Int}{k:Nat}{st:List (Int×Nat)}:(tJ ((b,k)::st)).set (ae st*2+1) (vI ((k:Int)+1))=tJ ((b,k+1)::st):=by
 rw[oW,oW,<-DA,qi _ _ oM];simp[Gi]
structure MetL(n:Nat)(ws:List Nat)(S:Int->Bool):Prop where
 len:ae ws=(n+63) / 64
 fit:Fit ws
 bits:∀i:Nat,i<n->tb ws i=S (i:Int)
theorem MetL.start(n:Nat):MetL n (List.replicate ((n+63) / 64) 0) (λ_=>false):=⟨sI,Fit.zero _,λi _=>Qbq _ i⟩
theorem MetL.put{n:Nat}{ws:List Nat}{S:Int->Bool}(h:MetL n ws S){i:Nat}(hi:i<n):MetL n (Dl ws i) (jo S (i:Int)):=by
 refine⟨by simp[Dl,h.len],h.fit.put i,λj hj=> ?_⟩;rw[Qgy (by rw[h.len];omega),h.bits j hj];unfold jo;congr 1;by_cases e:i=j
 ·subst e;simp
 ·have:¬((j:Int)=(i:Int)):=oM;simp[e,this]
theorem MetL.idx{n:Nat}{ws:List Nat}{S:Int->Bool}(h:MetL n ws S){i:Nat}(hi:i<n):i / 64<ae ws:=by rw[h.len];omega
def Ky(T:Int->ah):List (Int×Nat)->Nat
 |[]=>0
 |(b,k)::r=>(ae (T b)-k+1)+Ky T r
def Gj(T:Int->ah)(st:List (Int×Nat)):Prop:=∀p,p∈st->p.2<=ae (T p.1)
theorem QbM(T:Int->ah)(b:Int):Gj T [(b,0)]:=by
 intro p hp;simp only[cF]at hp;subst hp;exact cI _
theorem WE{T:Int->ah}{b t:Int}{k:Nat}{r:List (Int×Nat)}(h:Gj T ((b,k)::r))(hk:k+1<=ae (T b)):Gj T ((t,0)::(b,k+1)::r):=by
 intro p hp;rcases cG.1 hp with rfl|hp
 ·exact cI _
 ·rcases cG.1 hp with rfl|hp
  ·exact hk
  ·exact h p (cr _ hp)
theorem QbN{T:Int->ah}{b:Int}{k:Nat}{r:List (Int×Nat)}(h:Gj T ((b,k)::r))(hk:k+1<=ae (T b)):Gj T ((b,k+1)::r):=by
 intro p hp;rcases cG.1 hp with rfl|hp
 ·exact hk
 ·exact h p (cr _ hp)
theorem WG{bs:List SB}{b:Int}{k:Nat}(h:k<ae (tg bs b)):∃ti:Nat,(tg bs b)[k]?=some (ti:Int)/\ti<ae bs:=by
 have h1:=r4 (p7 h);obtain⟨ti,he⟩:=lk h1.1;exact⟨ti,by rw[dF h,he],oM⟩
def xN(l m:ah)(k:Nat):Prop:=ae m=ae l/\∀p,p<ae l->m.getD p 0=if p<k\/ae l<=p+k then l.getD (ae l-1-p) 0 else l.getD p 0
theorem Fo(l:ah):xN l l 0:=⟨rfl,λp hp=>by rw[ao oM]⟩
theorem Kz{m:ah}{i p:Nat}{v:Int}(hi:i<ae m):(m.set i v).getD p 0=if i=p then v else m.getD p 0:=by
 by_cases h:i=p
 ·subst h;simp[List.getD,hi]
 ·simp[List.getD,jP h,h]
theorem Io{l m:ah}{k q:Nat}(h:xN l m k)(hq:k<q/\q+k+1=ae l):xN l ((m.set k (m.getD q 0)).set q (m.getD k 0)) (k+1):=by
 obtain⟨h1,h2⟩:=h;refine⟨by simp[h1],λp hp=> ?_⟩;rw[Kz (by simp;omega),Kz oM];by_cases e1:q=p
 ·subst e1;rw[ax rfl,ax oM,h2 k oM,ao oM,show ae l-1-q=k by omega]
 ·rw[ao e1];by_cases e2:k=p
  ·subst e2;rw[ax rfl,ax oM,h2 q oM,ao oM,show ae l-1-k=q by omega]
  ·rw[ao e2,h2 p hp];by_cases e3:p<k\/ae l<=p+k
   ·rw[ax e3,ax oM]
   ·rw[ao e3,ao oM]
theorem KB{l m:ah}{k:Nat}(h:xN l m k)(hk:2*k<=ae l/\ae l<=2*k+1):m=l.reverse:=by
 obtain⟨h1,h2⟩:=h;apply fM;intro p;by_cases hp:p<ae l
 ·have h3:=h2 p hp;have e:∀x:ah,p<ae x->x[p]?=some (x.getD p 0):=by intro x hx;simp[List.getD,hx]
  rw[e m oM,e l.reverse (by simpa using hp),h3];have e4:l.reverse.getD p 0=l.getD (ae l-1-p) 0:=by simp[List.getD,getElem?_reverse hp]
  rw[e4];split
  ·rfl
  ·rw[show ae l-1-p=p by omega]
 ·rw[db oM,db (by simp;omega)]
inductive Reach(T:Int->ah):Int->Prop
 |zero:Reach T 0
 |step {x t:Int}:Reach T x->t∈T x->Reach T t
def Gk(T:Int->ah)(bar:Int)(x:Int):ah:=(T x).filter (λt=> !(t==bar))
theorem jq{T:Int->ah}{bar x t:Int}:t∈Gk T bar x↔t∈T x/\t≠bar:=by simp[Gk]
theorem QbO{T:Int->ah}(hT:∀t,ae (T t)<=2)(bar:Int)(t:Int):ae (Gk T bar t)<=2:=iz (j6 _ _) (hT t)
theorem KC{T:Int->ah}{ts:ah}{s s':SD}(h:Go.Mor.Kids T ts s s'):(∀x,x∈ts->s'.1 x=true)/\(∀x,s'.1 x=true->s.1 x=true\/∀t,t∈T x->s'.1 t=true):=by
 induction h with
 |nil=>exact⟨λx hx=>(jt hx).elim,λx hx=> .inl hx⟩
 | @skip t ts S o s' hS h ih=>
  refine⟨λx hx=> ?_,ih.2⟩;rcases cG.1 hx with rfl|hx
  ·exact Kids.mono h _ hS
  ·exact ih.1 x hx
 | @go t ts S o s1 s' hS h1 h2 ih1 ih2=>
  have m1:=Kids.mono h1;have m2:=Kids.mono h2;have ht:s1.1 t=true:=m1 t (by simp[jo]);refine⟨λx hx=> ?_,λx hx=> ?_⟩
  ·rcases cG.1 hx with rfl|hx
   ·exact m2 _ ht
   ·exact ih2.1 x hx
  ·rcases ih2.2 x hx with hx|hx
   ·rcases ih1.2 x hx with hx|hx
    ·by_cases e:x=t
     ·subst e;exact .inr λy hy=>m2 y (ih1.1 y hy)
     ·left;have:(x==t||S x)=true:=hx;simpa[e]using this
    ·exact .inr λy hy=>m2 y (hx y hy)
   ·exact .inr hx
theorem N3{T:Int->ah}{ts:ah}{s s':SD}(h:Go.Mor.Kids T ts s s')(hts:∀x,x∈ts->Reach T x)(hs:∀x,s.1 x=true->Reach T x):∀x,s'.1 x=true->Reach T x:=by
 induction h with
 |nil=>exact hs
 |skip _ _ ih=>exact ih (λx hx=>hts x (cr _ hx)) hs
 | @go t ts S o s1 s' hS h1 h2 ih1 ih2=>
  have ht:=hts t (cK ..);refine ih2 (λx hx=>hts x (cr _ hx)) (ih1 (λx hx=> .step ht hx) (λx hx=> ?_));have hx:(x==t||S x)=true:=hx;by_cases e:x=t
  ·exact e▸ht
  ·exact hs x (by simpa[e]using hx)
theorem WH{T:Int->ah}{ts:ah}{s s':SD}(h:Go.Mor.Kids T ts s s'):∃nw,s'.2=s.2++nw/\(∀x,s'.1 x=true↔s.1 x=true\/x∈nw)/\nw.Nodup/\(∀x,x∈nw->s.1 x=false)/\
  (∀l1 x l2,nw=l1++x::l2->x∈ts\/∃y,y∈l2/\x∈T y):=by
 induction h with
 |nil=>exact⟨[],sI,sI,sI,sI,sI⟩
 | @skip t ts S o s' hS h ih=>
  obtain⟨nw,h1,h2,h3,h4,h5⟩:=ih
  exact⟨nw,h1,h2,h3,h4,λl1 x l2 e=>(h5 l1 x l2 e).imp (λh=>cr _ h) id⟩
 | @go t ts S o s1 s' hS h1 h2 ih1 ih2=>
  obtain⟨n1,a1,a2,a3,a4,a5⟩:=ih1
  obtain⟨n2,b1,b2,b3,b4,b5⟩:=ih2
  have a2':∀x,s1.1 x=true↔(S x=true\/x=t)\/x∈n1:=by
   intro x
   rw[a2 x]
   have:(jo S t x=true)↔(S x=true\/x=t):=by simp[jo,or_comm]
   exact or_congr this ju
  have b4':∀x,x∈n2->S x=false/\x≠t/\x∉n1:=by
   intro x hx
   have h0:s1.1 x=false:=b4 x hx
   have:¬s1.1 x=true:=by rw[h0];simp
   rw[a2' x]at this
   refine⟨by simpa using λh=>this (.inl (.inl h)),λh=>this (.inl (.inr h)),λh=>this (.inr h)⟩
  have a4':∀x,x∈n1->S x=false/\x≠t:=by
   intro x hx
   have h0:=a4 x hx
   have:¬(jo S t x=true):=by
    have h0:jo S t x=false:=h0
    rw[h0];simp
   have h3:¬(x=t\/S x=true):=by simpa[jo]using this
   exact⟨by simpa using λh=>h3 (.inr h),λh=>h3 (.inl h)⟩
  refine⟨n1++t::n2,?_,?_,?_,?_,?_⟩
  ·rw[b1]
   simp only[a1]
   simp
  ·intro x
   rw[b2 x]
   have:=a2' x
   simp only[this,bV,cG]
   constructor
   ·rintro(((h|h)|h)|h)
    ·exact .inl h
    ·exact .inr (.inr (.inl h))
    ·exact .inr (.inl h)
    ·exact .inr (.inr (.inr h))
   ·rintro(h|h|h|h)
    ·exact .inl (.inl (.inl h))
    ·exact .inl (.inr h)
    ·exact .inl (.inl (.inr h))
    ·exact .inr h
  ·rw[jL]
   refine⟨a3,qk.2 ⟨λh=>(b4' t h).2.1 rfl,b3⟩,λx hx y hy=> ?_⟩
   rcases cG.1 hy with rfl|hy
   ·exact(a4' x hx).2
   ·rintro rfl
    exact(b4' x hy).2.2 hx
  ·intro x hx
   rcases bV.1 hx with hx|hx
   ·exact(a4' x hx).1
   ·rcases cG.1 hx with rfl|hx
    ·exact hS
    ·exact(b4' x hx).1
  ·intro l1 x l2 e
   rcases append_eq_append_iff.1 e with⟨p,e1,e2⟩|⟨p,e1,e2⟩
   ·
    cases p with
    |nil=>
     simp only[qa,Cr]at e2
     exact .inl (by rw[<-e2.1];exact cK ..)
    |cons q p=>
     simp only[y7,Cr]at e2
     rcases b5 p x l2 e2.2 with h|⟨y,hy,h⟩
     ·exact .inl (cr _ h)
     ·exact .inr ⟨y,hy,h⟩
   ·cases p with
    |nil=>
     simp only[qa,Cr]at e2
     exact .inl (by rw[e2.1];exact cK ..)
    |cons q p=>
     simp only[y7,Cr]at e2
     obtain⟨rfl,e2⟩:=e2
     right
     rcases a5 l1 x p e1 with h|⟨y,hy,h⟩
     ·exact⟨t,by rw[e2];simp,h⟩
     ·exact⟨y,by rw[e2];simp[hy],h⟩
def QgE(T:Int->ah)(n:Nat):Int->Bool:=(pj T (3*n+3) (T 0) (jo (λ_=>false) 0,[])).1
theorem WI{T:Int->ah}{n:Nat}(hT:∀t,ae (T t)<=2)(hR:∀t x,x∈T t->0<=x/\x<n):∃s,Go.Mor.Kids T (T 0) (jo (λ_=>false) 0,[]) s/\s.1=QgE T n:=by
 refine⟨_,Dz (n:=n) hT hR (3*n+3) _ _ (λx h=>hR 0 x h) ?_,rfl⟩;have h1:=hT 0;have h2:=nX n (jo (λ_=>false) 0);simp only;by_cases h:n=0
 ·have:T 0=[]:=by
   cases h3:T 0 with
   |nil=>rfl
   |cons x l=>have:=hR 0 x (by rw[h3];exact cK ..);omega
  rw[this];simp;omega
 ·have:=jT (n:=n) (S:=λ_=>false) (t:=0) oM oM rfl;have h3:=nX n (λ_=>false);omega
theorem Gl{T:Int->ah}{s:SD}(h:Go.Mor.Kids T (T 0) (jo (λ_=>false) 0,[]) s)(x:Int):s.1 x=true↔Reach T x:=by
 constructor
 ·refine N3 h (λx hx=> .step .zero hx) (λx hx=> ?_) x;have:x=0:=by simpa[jo]using hx
  exact this▸ .zero
 ·obtain⟨c1,c2⟩:=KC h;have h0:s.1 0=true:=Kids.mono h 0 (by simp[jo]);intro hr;induction hr with
  |zero=>exact h0
  | @step x t _ ht ih=>
   rcases c2 x ih with hx|hx
   ·have:x=0:=by simpa[jo]using hx
    exact c1 t (this▸ht)
   ·exact hx t ht
theorem SF{T:Int->ah}{n:Nat}(hT:∀t,ae (T t)<=2)(hR:∀t x,x∈T t->0<=x/\x<n)(x:Int):QgE T n x=true↔Reach T x:=by
 obtain⟨s,h,e⟩:=WI hT hR;rw[<-e];exact Gl h x
theorem WJ{T:Int->ah}{n:Nat}(hn:0<n)(hR:∀t x,x∈T t->0<=x/\x<(n:Int)){x:Int}(h:Reach T x):0<=x/\x<n:=by
 cases h with
 |zero=>omega
 |step _ ht=>exact hR _ _ ht
def jv(bs:List SB)(bar:Int)(x:Int):Bool:=!(bar==0)&&QgE (Gk (tg bs) bar) (ae bs) x
def kT(bs:List SB)(bar:Int):List Bool:=(List.range (ae bs)).map (λi:Nat=>jv bs bar (i:Int))
theorem oX(bs:List SB)(bar:Int):ae (kT bs bar)=ae bs:=by simp[kT]
theorem mn{bs:List SB}{bar:Int}{i:Nat}(h:i<ae bs):(kT bs bar).getD i false=jv bs bar (i:Int):=by
 simp[kT,List.getD,h]
theorem tL(bs:List SB)(bar:Int)(x:Int):jv bs bar x=true↔bar≠0/\Reach (Gk (tg bs) bar) x:=by
 unfold jv;rw[bu,SF (λt=>QbO (λt=>tF bs t) bar t) (λt x h=>r4 (jq.1 h).1) x];simp
theorem zk{n:Nat}{l:List Bool}{S:Int->Bool}(h:fX n l S){m:List Bool}(hm:ae m=n)(hg:∀i:Nat,i<n->m.getD i false=S (i:Int)):l=m:=by
 apply fM;intro i;by_cases hi:i<n
 ·have h1:=h.2 i hi;have h2:=hg i hi;have e1:i<ae l:=by rw[h.1];exact hi
  have e2:i<ae m:=by rw[hm];exact hi
  simp only[List.getD,dF e1,dF e2,nu]at h1 h2⊢;rw[h1,h2]
 ·rw[db (by rw[h.1];omega),db (by rw[hm];omega)]
structure KD(T:Int->ah)(bar:Int)(S:Int->Bool)(todo:ah)(i k:Nat):Prop where
 mem:∀x,S x=true↔x∈todo
 reach:∀x,x∈todo->Reach (Gk T bar) x
 zero:(0:Int)∈todo
 done:∀j x,j<i->todo[j]?=some x->∀t,t∈T x->t≠bar->t∈todo
 part:∀x,todo[i]?=some x->∀t,t∈(T x).take k->t≠bar->t∈todo
theorem KD.start(T:Int->ah)(bar:Int):KD T bar (jo (λ_=>false) 0) [0] 0 0:=by
 refine⟨λx=>by simp[jo],λx hx=> ?_,sI,λj x h=>oM,λx _ t h=>by simp at h⟩;have:x=0:=by simpa using hx
 exact this▸ .zero
theorem KD.skip{T:Int->ah}{bar:Int}{S:Int->Bool}{todo:ah}{i k:Nat}{b t:Int}(h:KD T bar S todo i k)(hi:todo[i]?=some b)(hk:(T b)[k]?=some t)(ht:S t=true\/t=bar):KD T bar S todo i (k+1):=by
 refine⟨h.mem,h.reach,h.zero,h.done,λx hx y hy eC=> ?_⟩;rw[hi]at hx;injection hx with hx;subst hx;obtain⟨ir,he⟩:=aW.1 hk;rw[dh ir,he]at hy;rcases bV.1 hy with hy|hy
 ·exact h.part b hi y hy eC
 ·have:y=t:=by simpa using hy
  subst this;rcases ht with ht|ht
  ·exact(h.mem y).1 ht
  ·exact(eC ht).elim
theorem KD.push{T:Int->ah}{bar:Int}{S:Int->Bool}{todo:ah}{i k:Nat}{b t:Int}(h:KD T bar S todo i k)(hi:todo[i]?=some b)(hk:(T b)[k]?=some t)(ht:t≠bar):KD T bar (jo S t) (todo++[t]) i (k+1):=by
 have ir:i<ae todo:=(aW.1 hi).1;obtain⟨hlk,he⟩:=aW.1 hk;refine⟨λx=> ?_,λx hx=> ?_,ej _ h.zero,λj x hj hx y hy eC=> ?_,λx hx y hy eC=> ?_⟩
 ·have:=h.mem x;simp[jo,this,or_comm]
 ·rcases bV.1 hx with hx|hx
  ·exact h.reach x hx
  ·have:x=t:=by simpa using hx
   subst this;exact .step (h.reach b (aI hi)) (jq.2 ⟨aI hk,ht⟩)
 ·rw[o9 oM]at hx;exact ej _ (h.done j x hj hx y hy eC)
 ·rw[o9 ir,hi]at hx;injection hx with hx;subst hx;rw[dh hlk,he]at hy;rcases bV.1 hy with hy|hy
  ·exact ej _ (h.part b hi y hy eC)
  ·exact kF _ hy
theorem KD.next{T:Int->ah}{bar:Int}{S:Int->Bool}{todo:ah}{i k:Nat}{b:Int}(h:KD T bar S todo i k)(hi:todo[i]?=some b)(hk:ae (T b)<=k):KD T bar S todo (i+1) 0:=by
 refine⟨h.mem,h.reach,h.zero,λj x hj hx y hy eC=> ?_,λx _ y hy=>by simp at hy⟩;by_cases e:j=i
 ·subst e;rw[hi]at hx;injection hx with hx;subst hx;exact h.part b hi y (by rw[cL hk];exact hy) eC
 ·exact h.done j x oM hx y hy eC
theorem KD.fin{T:Int->ah}{bar:Int}{S:Int->Bool}{todo:ah}{i k:Nat}(h:KD T bar S todo i k)(hi:ae todo<=i)(x:Int):S x=true↔Reach (Gk T bar) x:=by
 rw[h.mem x];refine⟨h.reach x,λhr=> ?_⟩;induction hr with
 |zero=>exact h.zero
 | @step x t _ ht ih=>
  obtain⟨ht,eC⟩:=jq.1 ht;obtain⟨j,hj,e⟩:=Cl.1 ih;exact h.done j x oM (by rw[dF hj,e]) t ht eC
theorem WK{bs:List SB}{bar:Int}{S:Int->Bool}{inl:List Bool}{todo:ah}{i k:Nat}(rI:fX (ae bs) inl S)(h:KD (tg bs) bar S todo i k)(hi:ae todo<=i)(hb:bar≠0):inl=kT bs bar:=by
 refine zk rI (oX _ _) (λj hj=> ?_);rw[mn hj,Bool.eq_iff_iff,tL,h.fin hi];exact⟨λh=>h.2,λh=>⟨hb,h⟩⟩
theorem Gm{bs:List SB}{bar:Int}(h:ae bs=0\/bar=0):List.replicate (ae bs) false=kT bs bar:=by
 refine zk (fX.start (ae bs)) (oX _ _) (λj hj=> ?_);rw[mn hj];have:bar=0:=oM;simp[jv,this]
def fW{α:Type}(enc:α->Value)(rows:List jl)(l:List (List α)):Prop:=rows.map (λr=>(r.n,r.xs))=l.map (λx=>(ae x,x.map enc))
section
variable{α:Type}{enc:α -> Value}{rows:List jl}{l:List (List α)}
theorem fW.len(h:fW enc rows l):ae rows=ae l:=by
 have:=aK List.length h;simpa using this
theorem fW.get(h:fW enc rows l){i:Nat}{x:List α}(hi:l[i]?=some x):∃A c,rows[i]?=some ⟨A,ae x,c,x.map enc⟩:=by
 have h1:(rows.map (λr=>(r.n,r.xs)))[i]?=(l.map (λx=>(ae x,x.map enc)))[i]?:=by rw[h]
 simp only[aL,hi,ft]at h1;cases h2:rows[i]? with
 |none=>rw[h2]at h1;simp at h1
 |some r=>
  rw[h2]at h1;simp only[ft,eO,dg]at h1;obtain⟨A,n,c,xs⟩:=r;simp only at h1;obtain⟨rfl,rfl⟩:=h1;exact⟨A,c,rfl⟩
theorem fW.push(h:fW enc rows l){A:ar}{n c:Nat}{xs:bh}{x:List α}(hn:n=ae x)(hx:xs=x.map enc):fW enc (rows++[⟨A,n,c,xs⟩]) (l++[x]):=by
 subst hn;subst hx;unfold fW at h⊢;rw[bZ,bZ,h];rfl
theorem fW.next{d:Nat}(h:fW enc rows (l.take d)){A:ar}{n c:Nat}{xs:bh}{x:List α}(hd:l[d]?=some x)(hn:n=ae x)(hx:xs=x.map enc):fW enc (rows++[⟨A,n,c,xs⟩]) (l.take (d+1)):=by
 obtain⟨ir,he⟩:=aW.1 hd;rw[dh ir,he];exact h.push hn hx
theorem fW.set(h:fW enc rows l){A:ar}{n c i:Nat}{xs:bh}{x:List α}(hn:n=ae x)(hx:xs=x.map enc):fW enc (rows.set i ⟨A,n,c,xs⟩) (l.set i x):=by
 subst hn;subst hx;unfold fW at h⊢;rw[qL,qL,h]
theorem fW.all{d:Nat}(h:fW enc rows (l.take d))(hd:ae l<=d):fW enc rows l:=by rwa [cL hd]at h
theorem fW.QgF(n:Nat):fW enc (List.replicate n nR) (List.replicate n ([]:List α)):=by
 unfold fW;simp[nR]
end
theorem po{w:World}{e:Nat}{rows:List jl}{A:ar}{n c i:Nat}{xs:bh}(h:(bD.kq e rows).holds w)(hi:rows[i]?=some ⟨A,n,c,xs⟩):(bD.rd A xs).holds w:=aF (Qp h hi)
theorem RO.po{S:Nat->Prop}{w:World}{e:Nat}{rows:List jl}{A:ar}{n c i:Nat}{xs:bh}(h:RO S w (.kq e rows))(hi:rows[i]?=some ⟨A,n,c,xs⟩):RO S w (.row e 1 A n c xs):=⟨Qp h.1 hi,λg hg=>h.2 g ⟨_,aI hi,hg⟩⟩
theorem QbP{α:Type}{l:List α}{i:Nat}{x d:α}(h:l[i]?=some x):l.getD i d=x:=by simp[List.getD,h]
def ql(bs:List SB)(d b:Int):Bool:=jv bs (-1) d&&(jv bs (-1) b&& !(jv bs d b))
def jY(bs:List SB):List (List Bool):=(List.range (ae bs)).map (λd:Nat=>(List.range (ae bs)).map (λb:Nat=>ql bs (d:Int) (b:Int)))
theorem ny(bs:List SB):ae (jY bs)=ae bs:=by simp[jY]
theorem Gn{bs:List SB}{d:Nat}{m:List Bool}(hd:d<ae bs)(h:fX (ae bs) m (ql bs (d:Int))):(jY bs)[d]?=some m:=by
 have:m=(List.range (ae bs)).map (λb:Nat=>ql bs (d:Int) (b:Int)):=zk h sI (λj hj=>by simp[List.getD,hj]);rw[this];simp[jY,hd]
theorem fX.congr{n:Nat}{l:List Bool}{S S':Int->Bool}(h:fX n l S)(e:∀i:Nat,i<n->S (i:Int)=S' (i:Int)):fX n l S':=⟨h.1,λi hi=>(h.2 i hi).trans (e i hi)⟩
theorem SG{bs:List SB}{d:Nat}(h:jv bs (-1) (d:Int)=false):fX (ae bs) (List.replicate (ae bs) false) (ql bs (d:Int)):=(fX.start (ae bs)).congr (λi _=>by simp[ql,h])
def qM(bs:List SB)(d:Int)(k:Nat)(b:Int):Bool:=decide (b<(k:Int))&&ql bs d b
theorem N4(bs:List SB)(d:Int):fX (ae bs) (List.replicate (ae bs) false) (qM bs d 0):=(fX.start (ae bs)).congr (λi _=>by
  have:decide ((i:Int)<((0:Nat):Int))=false:=sI;rw[qM,this];rfl)
theorem Gp{bs:List SB}{d:Int}{k:Nat}{m:List Bool}{v:Bool}(h:fX (ae bs) m (qM bs d k))(hk:k<ae bs)(hv:v=ql bs d (k:Int)):fX (ae bs) (m.set k v) (qM bs d (k+1)):=by
 refine⟨by simp[h.1],λj hj=> ?_⟩;by_cases e:k=j
 ·subst e;have:k<ae m:=by rw[h.1];exact hk
  have h2:decide ((k:Int)<((k+1:Nat):Int))=true:=by simp;omega
  simp only[qM,h2,Bool.true_and];simp[List.getD,this,hv]
 ·have h1:=h.2 j hj;have h2:decide ((j:Int)<((k+1:Nat):Int))=decide ((j:Int)<(k:Int)):=by rw[decide_eq_decide];omega
  rw[qM,h2];rw[qM]at h1;rw[<-h1];simp[List.getD,jP e]
theorem SH{bs:List SB}{d:Int}{k:Nat}{m:List Bool}(h:fX (ae bs) m (qM bs d k))(hk:ae bs<=k):fX (ae bs) m (ql bs d):=h.congr (λi hi=>by
  have:decide ((i:Int)<(k:Int))=true:=by simp;omega
  rw[qM,this];rfl)
theorem WL{bs:List SB}{d:Nat}{b:Nat}(hd:jv bs (-1) (d:Int)=true)(hb:jv bs (-1) (b:Int)=true):(!(jv bs (d:Int) (b:Int)))=ql bs (d:Int) (b:Int):=by simp[ql,hd,hb]
theorem WM{bs:List SB}{d b:Int}(hb:jv bs (-1) b=false):false=ql bs d b:=by simp[ql,hb]
def Nc(l:List (List Bool))(i j:Nat):Bool:=(l.getD i []).getD j false
def mP(l:List (List Bool))(b:Nat):Nat->Int
 |0=> -1
 |k+1=>if k≠b/\Nc l k b=true/\(mP l b k<0\/Nc l (mP l b k).toNat k=true)then(k:Int)else mP l b k
def tM(l:List (List Bool)):ah:=(List.range (ae l)).map (λb=>mP l b (ae l))
def QgG(l:List (List Bool)):Prop:=∀(i:Nat) (x:List Bool),l[i]?=some x->ae x=ae l
theorem Ip(bs:List SB):QgG (jY bs):=by
 intro i x h;rw[ny];have:=aI h;simp only[jY,aO]at this;obtain⟨d,_,rfl⟩:=this;simp
theorem QgH{l:List (List Bool)}(i:Nat)(hi:i<ae l):∃x,l[i]?=some x:=⟨_,dF hi⟩
theorem QgI{l:List (List Bool)}{i j:Nat}{x:List Bool}(h:l[i]?=some x):Nc l i j=x.getD j false:=by simp[Nc,List.getD,h]
def jw(bs:List SB):ah:=tM (jY bs)
theorem KE{bs:List SB}{y x:Int}(h:x∈bO bs y):0<=x/\x<ae bs:=by
 simp only[bO,gR,aO,dY,dp]at h;obtain⟨i,⟨h1,_⟩,rfl⟩:=h;omega
theorem SI(n:Nat)(x:SB):(Ch n x).Nodup:=by
 unfold Ch;refine List.Pairwise.filter _ ?_;split
 ·simp
 ·split
  ·split
   ·simp
   ·rename_i h;simp[h]
  ·simp
theorem WN(bs:List SB)(b:Int):(tg bs b).Nodup:=by
 unfold tg;split
 ·split
  ·exact SI _ _
  ·simp
 ·simp
def Ap(bs:List SB)(i:Nat):List ah:=(List.range (ae bs)).map (λt:Nat=>gR bs (t:Int) i)
def xO(bs:List SB):List ah:=(List.range (ae bs)).map (λt:Nat=>bO bs (t:Int))
def oj(bs:List SB)(i k:Nat):List ah:=(List.range (ae bs)).map (λt:Nat=>gR bs (t:Int) i++(if((tg bs (i:Int)).take k).contains (t:Int)=true then[(i:Int)]else[]))
theorem SJ(bs:List SB):Ap bs 0=List.replicate (ae bs) []:=by
 unfold Ap;apply fM;intro t;by_cases h:t<ae bs
 ·simp[h,gR]
 ·rw[db (by simpa using h),db (by simpa using h)]
theorem QbQ(bs:List SB)(i:Nat):oj bs i 0=Ap bs i:=by
 unfold oj Ap;simp
theorem WO{bs:List SB}{i k:Nat}(hk:ae (tg bs (i:Int))<=k):oj bs i k=Ap bs (i+1):=by
 unfold oj Ap;apply nL;intro t _;rw[tG,cL hk]
theorem QbR(bs:List SB):Ap bs (ae bs)=xO bs:=rfl
theorem QbS{bs:List SB}{i k ti:Nat}(hk:(tg bs (i:Int))[k]?=some (ti:Int))(ht:ti<ae bs):(oj bs i k)[ti]?=some (gR bs (ti:Int) i):=by
 have hn:=WN bs (i:Int);have E9:¬(ti:Int)∈(tg bs (i:Int)).take k:=by intro h;obtain⟨ir,he⟩:=aW.1 hk;obtain⟨j,hj,he2⟩:=Iq.1 h;exact tx.1 hn j k oM ir oM (he2.trans he.symm)
 unfold oj;rw[aL,nN ht];simp[E9]
theorem QbT{bs:List SB}{i k ti:Nat}(hk:(tg bs (i:Int))[k]?=some (ti:Int))(ht:ti<ae bs):(oj bs i k).set ti (gR bs (ti:Int) i++[(i:Int)])=oj bs i (k+1):=by
 obtain⟨ir,he⟩:=aW.1 hk;apply fM;intro t;by_cases h:ti=t
 ·subst h;rw[kP (by simpa[oj]using ht)];unfold oj;rw[aL,nN ht,dh ir,he];simp
 ·rw[jP h];unfold oj;rw[aL,aL];by_cases h2:t<ae bs
  ·rw[nN h2,dh ir,he];have h3:¬((t:Int)=(ti:Int)):=oM;simp[h3]
  ·rw[db (by simpa using h2)];rfl
theorem pq{bs:List SB}{t:Nat}(h:t<ae bs):(xO bs)[t]?=some (bO bs (t:Int)):=by simp[xO,h]
theorem DB(bs:List SB):ae (xO bs)=ae bs:=by simp[xO]
theorem zl{rows:List jl}{i:Nat}{r:jl}:(rows.set i nR).set i r=rows.set i r:=set_set ..
section
variable (T:Int -> List Int)
def Dm(d x:Int):Prop:=¬(d≠0/\Reach (Gk T d) x)
inductive RA(pl:Int->Int)(d:Int):Nat->Int->Prop
 |zero (k:Nat):d≠0->RA pl d k 0
 |adv {k:Nat} {x t:Int}:RA pl d k x->t∈T x->t≠d->pl x<pl t->RA pl d k t
 |ret {k:Nat} {x t:Int}:RA pl d k x->t∈T x->t≠d->RA pl d (k+1) t
structure Vo(pl:Int->Int):Prop where
 reach:∀x,0<=pl x↔Reach T x
 zero:pl 0=0
 inj:∀x y,0<=pl x->pl x=pl y->x=y
 src:∀x,0<=pl x->x≠0->∃s,0<=pl s/\pl s<pl x/\x∈T s
end
section
variable{T:Int -> List Int}{pl:Int -> Int}
theorem RA.self{d:Int}{k:Nat}:¬RA T pl d k d:=by
 intro h;cases h with
 |zero _ h=>exact h rfl
 |adv _ _ h _=>exact h rfl
 |ret _ _ h=>exact h rfl
theorem RA.mono{d x:Int}{k:Nat}(h:RA T pl d k x):RA T pl d (k+1) x:=by
 induction h with
 |zero k h=>exact .zero _ h
 |adv _ ht eC hl ih=>exact .adv ih ht eC hl
 |ret _ ht eC ih=>exact .ret ih ht eC
theorem RA.le{d x:Int}{k m:Nat}(h:RA T pl d k x)(hk:k<=m):RA T pl d m x:=by
 induction hk with
 |refl=>exact h
 |step _ ih=>exact ih.mono
theorem RA.reach{d x:Int}{k:Nat}(h:RA T pl d k x):Reach T x:=by
 induction h with
 |zero=>exact .zero
 |adv _ ht _ _ ih=>exact .step ih ht
 |ret _ ht _ ih=>exact .step ih ht
theorem RA.ex{d x:Int}(hd:d≠0)(h:Reach (Gk T d) x):∃k,RA T pl d k x:=by
 induction h with
 |zero=>exact⟨0,.zero 0 hd⟩
 |step _ ht ih=>
  obtain⟨k,hk⟩:=ih;exact⟨k+1,.ret hk (jq.1 ht).1 (jq.1 ht).2⟩
theorem RA.cut{d b x:Int}{k:Nat}(h:RA T pl d k x):RA T pl b k x\/RA T pl d k b:=by
 induction h with
 |zero k h=>
  by_cases e:b=0
  ·subst e;exact .inr (.zero k h)
  ·exact .inl (.zero k e)
 | @adv k x t hx ht eC hl ih=>
  rcases ih with ih|ih
  ·by_cases e:t=b
   ·subst e;exact .inr (.adv hx ht eC hl)
   ·exact .inl (.adv ih ht e hl)
  ·exact .inr ih
 | @ret k x t hx ht eC ih=>
  rcases ih with ih|ih
  ·by_cases e:t=b
   ·subst e;exact .inr (.ret hx ht eC)
   ·exact .inl (.ret ih ht e)
  ·exact .inr ih.mono
theorem RA.kD{d:Int}{k:Nat}(hs:∀x,RA T pl d (k+1) x->RA T pl d k x):∀m x,RA T pl d m x->RA T pl d k x:=by
 intro m x h;induction h with
 |zero _ h=>exact .zero k h
 |adv _ ht eC hl ih=>exact .adv ih ht eC hl
 |ret _ ht eC ih=>exact hs _ (.ret ih ht eC)
open Classical in
theorem RA.grow{n:Nat}(hR:∀x,Reach T x->0<=x/\x<(n:Int))(d:Int)(k:Nat):(∃j,j<=k/\∀x,RA T pl d (j+1) x->RA T pl d j x)\/mO n (λx=>decide (RA T pl d k x))+k<=n:=by
 induction k with
 |zero=>exact .inr (by have:=nX n (λx=>decide (RA T pl d 0 x));omega)
 |succ k ih=>
  rcases ih with⟨j,hj,h⟩|ih
  ·exact .inl ⟨j,oM,h⟩
  ·by_cases hs:∀x,RA T pl d (k+1) x->RA T pl d k x
   ·exact .inl ⟨k,oM,hs⟩
   ·right;have⟨x,hx⟩:=Classical.not_forall.1 hs;have⟨h1,h2⟩:=Classical.not_imp.1 hx;obtain⟨r0,r1⟩:=hR x h1.reach;have hu:=jT (n:=n) (S:=λx=>decide (RA T pl d k x)) (t:=x) r0 r1 (by simpa using h2);have hm:=Dy (n:=n) (S:=jo (λx=>decide (RA T pl d k x)) x) (S':=λx=>decide (RA T pl d (k+1) x)) (λy hy=>by
     simp only[jo,dt,az,aU]at hy⊢;rcases hy with rfl|hy
     ·exact h1
     ·exact hy.mono)
    omega
theorem RA.all{n:Nat}(hR:∀x,Reach T x->0<=x/\x<(n:Int)){d x:Int}(h:¬RA T pl d (n+1) x):Dm T d x:=by
 rintro⟨hd,hr⟩;obtain⟨m,hm⟩:=RA.ex (pl:=pl) hd hr;rcases RA.grow (pl:=pl) hR d (n+1)with⟨j,hj,hs⟩|hu
 ·exact h ((RA.kD hs m x hm).le hj)
 ·omega
theorem Dm.self(x:Int):Dm T x x:=by
 rintro⟨h0,h⟩;cases h with
 |zero=>exact h0 rfl
 |step _ ht=>exact(jq.1 ht).2 rfl
theorem Dm.Cs{d:Int}(h:Dm T d 0):d=0:=by
 by_cases e:d=0
 ·exact e
 ·exact absurd ⟨e,Reach.zero⟩ h
theorem Dm.src{d x s:Int}(h:Dm T d x)(eC:d≠x)(hx:x∈T s):Dm T d s:=by
 rintro⟨hd,hr⟩;exact h ⟨hd,.step hr (jq.2 ⟨hx,λe=>eC e.symm⟩)⟩
theorem Dm.le(hp:Vo T pl){d x:Int}(hx:0<=pl x)(h:Dm T d x):pl d<=pl x:=by
 by_cases ir:pl d<=pl x
 ·exact ir
 ·exfalso;have hd:d≠0:=by rintro rfl;rw[hp.zero]at ir;omega
  refine h ⟨hd,?_⟩;clear h;have key:∀(m:Nat) (x:Int),0<=pl x->pl x<pl d->(pl x).toNat<=m->Reach (Gk T d) x:=by
   intro m;induction m with
   |zero=>
    intro x h0 _ hm;have:x=0:=hp.inj x 0 h0 (by rw[hp.zero];omega);exact this▸ .zero
   |succ m ih=>
    intro x h0 h1 hm;by_cases e:x=0
    ·exact e▸ .zero
    ·obtain⟨s,s0,s1,hs⟩:=hp.src x h0 e;exact .step (ih s s0 oM oM) (jq.2 ⟨hs,λe=>by subst e;omega⟩)
  exact key _ x hx oM (cH _)
theorem Dm.reach{d x:Int}(hx:Reach T x)(h:Dm T d x):Reach T d:=by
 by_cases hd:Reach T d
 ·exact hd
 ·exfalso;refine h ⟨λe=>hd (e▸ .zero),?_⟩;induction hx with
  |zero=>exact .zero
  | @step y t hy ht ih=>
   have hih:Reach (Gk T d) y:=by
    by_cases h2:Dm T d y
    ·exact ih h2
    ·exact(fy.1 h2).2
   exact .step hih (jq.2 ⟨ht,λe=>hd (e▸ .step hy ht)⟩)
inductive kN(up:Int->Int):Int->Int->Prop
 |refl (x:Int):kN up x x
 |step {x d:Int}:x≠0->kN up (up x) d->kN up x d
theorem kN.trans{up:Int->Int}{x y z:Int}(h:kN up x y)(h':kN up y z):kN up x z:=by
 induction h with
 |refl=>exact h'
 |step eC _ ih=>exact .step eC (ih h')
def ng(pl up:Int->Int)(x:Int):Prop:=0<=pl x/\(x=0\/0<=up x)
structure Up(T:Int->ah)(pl up:Int->Int):Prop where
 low:∀x,ng pl up x->x≠0->ng pl up (up x)/\pl (up x)<pl x
 WQ:∀x d,ng pl up x->x≠0->Dm T d x->d≠x->Dm T d (up x)
theorem kN.zero{up:Int->Int}{d:Int}(h:kN up 0 d):d=0:=by
 cases h with
 |refl=>rfl
 |step h _=>exact absurd rfl h
theorem kN.N5{up:Int->Int}(hu:Up T pl up){x d:Int}(h:kN up x d)(hx:ng pl up x):ng pl up d/\pl d<=pl x/\(d≠x->pl d<pl x):=by
 induction h with
 |refl=>exact⟨hx,dv _,λh=>absurd rfl h⟩
 | @step x d eC _ ih=>
  obtain⟨h1,h2⟩:=hu.low x hx eC;obtain⟨a,b,c⟩:=ih h1;exact⟨a,oM,λ_=>oM⟩
theorem Up.N6{up:Int->Int}(hu:Up T pl up){x d:Int}(hx:ng pl up x)(h:Dm T d x):kN up x d:=by
 have key:∀(m:Nat) (x:Int),ng pl up x->(pl x).toNat<=m->Dm T d x->kN up x d:=by
  intro m;induction m with
  |zero=>
   intro x hx hm h;by_cases e:d=x
   ·exact e▸ .refl _
   ·by_cases e0:x=0
    ·subst e0;exact absurd h.Cs e
    ·have h2:=hu.low x hx e0;have:=h2.1.1;omega
  |succ m ih=>
   intro x hx hm h;by_cases e:d=x
   ·exact e▸ .refl _
   ·by_cases e0:x=0
    ·subst e0;exact absurd h.Cs e
    ·have h2:=hu.low x hx e0;have:=h2.1.1;exact .step e0 (ih _ h2.1 oM (hu.WQ x d hx e0 h e))
 exact key _ x hx (cH _) h
inductive pr(pl up:Int->Int):Int->Int->Int->Prop
 |done (x:Int):pr pl up x x x
 |left {a b c:Int}:pl b<pl a->pr pl up (up a) b c->pr pl up a b c
 |right {a b c:Int}:pl a<pl b->pr pl up a (up b) c->pr pl up a b c
theorem pr.QmW{up:Int->Int}(hp:Vo T pl)(hu:Up T pl up){a b c:Int}(h:pr pl up a b c)(ha:ng pl up a)(hb:ng pl up b):ng pl up c/\kN up a c/\kN up b c/\∀d,Dm T d a->Dm T d b->Dm T d c:=by
 induction h with
 |done x=>exact⟨ha,.refl _,.refl _,λd h _=>h⟩
 | @left a b c ir _ ih=>
  have eC:a≠0:=by rintro rfl;rw[hp.zero]at ir;have:=hb.1;omega
  obtain⟨h1,_⟩:=hu.low a ha eC;obtain⟨q1,q2,q3,q4⟩:=ih h1 hb;refine⟨q1,.step eC q2,q3,λd hd J0=>q4 d (hu.WQ a d ha eC hd ?_) J0⟩;rintro rfl;have:=Dm.le hp hb.1 J0;omega
 | @right a b c ir _ ih=>
  have eC:b≠0:=by rintro rfl;rw[hp.zero]at ir;have:=ha.1;omega
  obtain⟨h1,_⟩:=hu.low b hb eC;obtain⟨q1,q2,q3,q4⟩:=ih ha h1;refine⟨q1,q2,.step eC q3,λd hd J0=>q4 d hd (hu.WQ b d hb eC J0 ?_)⟩;rintro rfl;have:=Dm.le hp ha.1 hd;omega
end
section
variable{T:Int -> List Int}{pl:Int -> Int}
structure Ir(T:Int->ah)(pl up:Int->Int)(k:Nat)(j:Int):Prop where
 ok:Up T pl up
 some:∀x,0<=pl x->x≠0->(pl x<=j\/1<=k)->0<=up x
 off:∀x,(pl x<0\/x=0)->up x= -1
 non:k=0->∀x,j<pl x->up x= -1
 lo:∀x d,ng pl up x->pl x<=j->kN up x d->¬RA T pl d k x
 hi:1<=k->∀x d,ng pl up x->kN up x d->¬RA T pl d (k-1) x
def Fold(T:Int->ah)(pl up:Int->Int)(ss:ah)(to:Int):Prop:=(to= -1/\∀s,s∈ss->¬ng pl up s)\/(ng pl up to/\(∃s,s∈ss/\ng pl up s)/\(∀s,s∈ss->ng pl up s->kN up s to)/\∀d,(∀s,s∈ss->ng pl up s->Dm T d s)->Dm T d to)
variable{up:Int -> Int}
theorem Fold.start:Fold T pl up [] (-1):= .inl ⟨rfl,λ_ h=>(jt h).elim⟩
theorem Fold.skip{ss:ah}{to s:Int}(h:Fold T pl up ss to)(hs:¬ng pl up s):Fold T pl up (ss++[s]) to:=by
 have hm:∀x,x∈ss++[s]->ng pl up x->x∈ss:=by
  intro x hx hp;rcases bV.1 hx with hx|hx
  ·exact hx
  ·simp only[cF]at hx;exact absurd (hx▸hp) hs
 rcases h with⟨h1,h2⟩|⟨h1,⟨q,hq,hqp⟩,h2,h3⟩
 ·exact .inl ⟨h1,λx hx hp=>h2 x (hm x hx hp) hp⟩
 ·exact .inr ⟨h1,⟨q,ej _ hq,hqp⟩,λx hx hp=>h2 x (hm x hx hp) hp,λd hd=>h3 d (λx hx hp=>hd x (ej _ hx) hp)⟩
theorem Fold.first{ss:ah}{to s:Int}(h:Fold T pl up ss to)(hto:to<0)(hr:∀x,0<=pl x->0<=x)(hs:ng pl up s):Fold T pl up (ss++[s]) s:=by
 rcases h with⟨h1,h2⟩|⟨h1,_⟩
 ·refine .inr ⟨hs,⟨s,sI,hs⟩,λx hx hp=> ?_,λd hd=>hd s sI hs⟩;rcases bV.1 hx with hx|hx
  ·exact absurd hp (h2 x hx)
  ·simp only[cF]at hx;exact hx▸ .refl _
 ·have:=hr to h1.1;omega
theorem Fold.meet{ss:ah}{to s c:Int}(hp:Vo T pl)(hu:Up T pl up)(h:Fold T pl up ss to)(hto:0<=to)(hs:ng pl up s)(hc:pr pl up to s c):Fold T pl up (ss++[s]) c:=by
 rcases h with⟨h1,h2⟩|⟨h1,h0,h2,h3⟩
 ·omega
 ·obtain⟨q1,q2,q3,q4⟩:=hc.QmW hp hu h1 hs;refine .inr ⟨q1,⟨s,sI,hs⟩,λx hx hp=> ?_,λd hd=>q4 d (h3 d (λx hx hp=>hd x (ej _ hx) hp)) (hd s sI hs)⟩;rcases bV.1 hx with hx|hx
  ·exact(h2 x hx hp).trans q2
  ·simp only[cF]at hx;exact hx▸q3
theorem Fold.N5{ss:ah}{to:Int}(h:Fold T pl up ss to)(hto:0<=to):ng pl up to:=by
 rcases h with⟨h1,_⟩|⟨h1,_⟩
 ·omega
 ·exact h1
def wo(up:Int->Int)(b c:Int):Int->Int:=λx=>if x=b then c else up x
theorem WR{b:Int}:wo up b (up b)=up:=by
 funext x;unfold wo;split
 ·subst_vars;rfl
 ·rfl
theorem zm{b c:Int}:wo up b c b=c:=by simp[wo]
theorem qN{b c x:Int}(h:x≠b):wo up b c x=up x:=by simp[wo,h]
section
variable{b c:Int}
theorem Qz(hc:0<=c){x:Int}(h:ng pl up x):ng pl (wo up b c) x:=by
 refine⟨h.1,h.2.imp id λh=> ?_⟩;by_cases e:x=b
 ·subst e;rw[zm];exact hc
 ·rw[qN e];exact h
theorem Ct{x:Int}(h:ng pl (wo up b c) x)(e:x≠b):ng pl up x:=by
 refine⟨h.1,h.2.imp id λh=> ?_⟩;rwa [qN e]at h
theorem QA{x d:Int}(h:kN (wo up b c) x d):kN up x d\/(kN up x b/\kN (wo up b c) b d):=by
 induction h with
 |refl x=>exact .inl (.refl x)
 | @step x d eC h ih=>
  by_cases e:x=b
  ·subst e;exact .inr ⟨.refl _,.step eC h⟩
  ·rw[qN e]at ih;rcases ih with ih|⟨ih,h2⟩
   ·exact .inl (.step eC ih)
   ·exact .inr ⟨.step eC ih,h2⟩
theorem SK(hu:Up T pl up){x d:Int}(h:kN (wo up b c) x d)(hx:ng pl up x)(ir:pl x<pl b):kN up x d:=by
 induction h with
 |refl x=>exact .refl x
 | @step x d eC h ih=>
  have e:x≠b:=by rintro rfl;omega
  rw[qN e]at h ih;obtain⟨h1,h2⟩:=hu.low x hx eC;exact .step eC (ih h1 oM)
theorem Ir.step{k:Nat}{j:Int}{ss:ah}(hp:Vo T pl)(hr:∀x,0<=pl x->0<=x)(h:Ir T pl up k j)(hj:0<=j)(hb:pl b=j+1)(hss:∀s,0<=pl s->(s∈ss↔b∈T s))(hc:Fold T pl up ss c):0<=c/\ng pl up c/\pl c<pl b/\(∀s,ng pl up s->b∈T s->kN up s c)/\(∀d,d≠b->Dm T d b->Dm T d c)/\Ir T pl (wo up b c) k (j+1):=by
 have xP:b≠0:=by rintro rfl;rw[hp.zero]at hb;omega
 have Vp:0<=pl b:=oM;obtain⟨s0,p0,p1,ps⟩:=hp.src b Vp xP;have N7:∀x,0<=pl x->pl x<=j\/1<=k->ng pl up x:=by
  intro x h0 h1;refine⟨h0,?_⟩;by_cases e:x=0
  ·exact .inl e
  ·exact .inr (h.some x h0 e h1)
 have hs0:ng pl up s0:=N7 s0 p0 (.inl oM);rcases hc with⟨_,h2⟩|⟨SL,_,h2,h3⟩
 ·exact absurd hs0 (h2 s0 ((hss s0 p0).2 ps))
 ·have a2:∀s,ng pl up s->b∈T s->kN up s c:=λs hs Ww=>h2 s ((hss s hs.1).2 Ww) hs
  have a0:=(a2 s0 hs0 ps).N5 h.ok hs0;have hcb:pl c<pl b:=oM;have hc0:0<=c:=hr c SL.1;have a3:∀d,d≠b->Dm T d b->Dm T d c:=λd eC hd=>h3 d (λs hs Vj=>hd.src eC ((hss s Vj.1).1 hs))
  have QbU:c≠b:=by rintro rfl;omega
  have ab:∀d,kN (wo up b c) b d->d=b\/kN up c d:=by
   intro d hd;cases hd with
   |refl=>exact .inl rfl
   |step _ hd=>
    rw[zm]at hd;exact .inr (SK h.ok hd SL hcb)
  have nb:∀d,kN (wo up b c) b d->¬RA T pl d k b:=by
   intro d hd;rcases ab d hd with rfl|hd
   ·exact RA.self
   ·intro KF;cases KF with
    |zero=>exact xP rfl
    | @adv _ s _ hs Ww eC hl=>
     have QB:=(hp.reach s).2 hs.reach;have Vj:=N7 s QB (.inl oM);exact h.lo s d Vj oM ((a2 s Vj Ww).trans hd) hs
    | @ret k' s _ hs Ww eC=>
     have QB:=(hp.reach s).2 hs.reach;have Vj:=N7 s QB (.inr oM);exact h.hi oM s d Vj ((a2 s Vj Ww).trans hd) (by simpa using hs)
  refine⟨hc0,SL,hcb,a2,a3,⟨⟨λx hx eC=> ?_,λx d hx eC hd hdx=> ?_⟩,λx hx eC NI=> ?_,λx hx=> ?_,λhk x hx=> ?_,λx d hx NI hd KF=> ?_,λhk x d hx hd KF=> ?_⟩⟩
  ·by_cases e:x=b
   ·subst e;rw[zm];exact⟨Qz hc0 SL,hcb⟩
   ·rw[qN e];obtain⟨h1,h2⟩:=h.ok.low x (Ct hx e) eC;exact⟨Qz hc0 h1,h2⟩
  ·by_cases e:x=b
   ·subst e;rw[zm];exact a3 d hdx hd
   ·rw[qN e];exact h.ok.WQ x d (Ct hx e) eC hd hdx
  ·by_cases e:x=b
   ·subst e;rw[zm];exact hc0
   ·rw[qN e];refine h.some x hx eC (NI.imp (λh1=> ?_) id);by_cases e2:pl x=j+1
    ·exact absurd (hp.inj x b hx oM) e
    ·omega
  ·have e:x≠b:=by rintro rfl;omega
   rw[qN e];exact h.off x hx
  ·have e:x≠b:=by rintro rfl;omega
   rw[qN e];exact h.non hk x oM
  ·by_cases e:x=b
   ·subst e;exact nb d hd KF
   ·have rR:=Ct hx e;have hxj:pl x<=j:=by
     by_cases e2:pl x=j+1
     ·exact absurd (hp.inj x b hx.1 oM) e
     ·omega
    rcases QA hd with hd|⟨hxb,hd⟩
    ·exact h.lo x d rR hxj hd KF
    ·rcases RA.cut (b:=b) KF with h1|h1
     ·exact h.lo x b rR hxj hxb h1
     ·exact nb d hd h1
  ·by_cases e:x=b
   ·subst e;exact nb d hd (KF.le oM)
   ·have rR:=Ct hx e;rcases QA hd with hd|⟨hxb,hd⟩
    ·exact h.hi hk x d rR hd KF
    ·rcases RA.cut (b:=b) KF with h1|h1
     ·exact h.hi hk x b rR hxb h1
     ·exact nb d hd (h1.le oM)
end
theorem Ir.start(hp:Vo T pl):Ir T pl (λ_=> -1) 0 0:=by
 have hz:∀x,ng pl (λ_=> -1) x->x=0:=by
  rintro x ⟨_,h|h⟩
  ·exact h
  ·have h:(0:Int)<=-1:=h;omega
 refine⟨⟨λx hx eC=>absurd (hz x hx) eC,λx d hx eC=>absurd (hz x hx) eC⟩,λx hx eC h=> ?_,λ_ _=>rfl,λ_ _ _=>rfl,λx d hx _ hd=> ?_,λh=>absurd h dQ⟩
 ·exfalso;rcases h with h|h
  ·exact eC (hp.inj x 0 hx (by rw[hp.zero];omega))
  ·omega
 ·have:=hz x hx;subst this;rw[hd.zero];exact RA.self
theorem Ir.QmX{k:Nat}{j:Int}(hp:Vo T pl)(h:Ir T pl up k j)(hj:∀x,pl x<=j):Ir T pl up (k+1) 0:=by
 refine⟨h.ok,λx hx eC _=>h.some x hx eC (.inl (hj x)),h.off,λh=>absurd h oM,λx d hx h0 hd=> ?_,λ_ x d hx hd=>by simpa using h.lo x d hx (hj x) hd⟩;have:x=0:=hp.inj x 0 hx.1 (by have:=hx.1;rw[hp.zero];omega);subst this;rw[hd.zero];exact RA.self
theorem Ir.full{k n:Nat}{j:Int}{b c:Int}(hp:Vo T pl)(hR:∀x,Reach T x->0<=x/\x<(n:Int))(h:Ir T pl up k j)(hk:n+2<=k)(hb:0<=pl b)(xP:b≠0)(SL:ng pl up c)(hcb:pl c<pl b)(a2:∀s,ng pl up s->b∈T s->kN up s c)(a3:∀d,d≠b->Dm T d b->Dm T d c):up b=c:=by
 have N5:∀x,0<=pl x->ng pl up x:=λx h0=>⟨h0,by
  by_cases e:x=0
  ·exact .inl e
  ·exact .inr (h.some x h0 e (.inr oM))⟩
 have dm:∀x d,ng pl up x->kN up x d->Dm T d x:=λx d hx hd=>RA.all (pl:=pl) hR (n:=n) (λKF=>h.hi oM x d hx hd (KF.le oM))
 have hbp:=N5 b hb;obtain⟨h1,h2⟩:=h.ok.low b hbp xP;have hub:up b≠b:=by intro e;rw[e]at h2;omega
 have e1:kN up c (up b):=h.ok.N6 SL (a3 _ hub (dm b _ hbp (.step xP (.refl _))));have QbU:c≠b:=by rintro rfl;omega
 have dcb:Dm T c b:=by
  rintro⟨hc0,hr⟩;cases hr with
  |zero=>exact xP rfl
  | @step s _ hs Ww=>
   have QmY:=(jq.1 Ww).1;have QB:Reach T s:=by
    have key:∀x,Reach (Gk T c) x->Reach T x:=by
     intro x hx;induction hx with
     |zero=>exact .zero
     |step _ ht ih=>exact .step ih (jq.1 ht).1
    exact key s hs
   have Vj:=N5 s ((hp.reach s).2 QB);exact dm s c Vj (a2 s Vj QmY) ⟨hc0,hs⟩
 have e2:kN up (up b) c:=h.ok.N6 h1 (h.ok.WQ b c hbp xP dcb QbU);have q1:=(e1.N5 h.ok SL).2.1;have q2:=(e2.N5 h.ok h1).2.1;exact hp.inj _ _ h1.1 oM
def SM(T:Int->ah)(pl up:Int->Int)(j:Int):Prop:=∀b s,1<=pl b->pl b<=j->0<=pl s->b∈T s->kN up s (up b)
theorem SM.start:SM T pl up 0:=λb s h h'=>oM
theorem SM.next{j b:Int}(hp:Vo T pl)(h:SM T pl up j)(hb:pl b=j+1)(ha:∀s,0<=pl s->b∈T s->kN up s (up b)):SM T pl up (j+1):=by
 intro x s h1 h2 hs hx;by_cases e:pl x=j+1
 ·have:x=b:=hp.inj x b oM oM;exact this▸ha s hs (this▸hx)
 ·exact h x s h1 oM hs hx
theorem SM.dm{j:Int}(hp:Vo T pl)(h:SM T pl up j)(hj:∀x,pl x<=j){x d:Int}(ha:kN up x d):Dm T d x:=by
 rintro⟨hd,hr⟩;have toR:∀x,Reach (Gk T d) x->Reach T x:=by
  intro x hx;induction hx with
  |zero=>exact .zero
  |step _ ht ih=>exact .step ih (jq.1 ht).1
 induction hr with
 |zero=>exact hd ha.zero
 | @step y t hy ht ih=>
  obtain⟨ht',eC⟩:=jq.1 ht;cases ha with
  |refl=>exact eC rfl
  |step h0 ha=>
   have hyr:=(hp.reach y).2 (toR y hy);have Ge:=(hp.reach t).2 (.step (toR y hy) ht');have:1<=pl t:=by
    by_cases e:pl t=0
    ·exact absurd (hp.inj t 0 Ge (by rw[hp.zero];exact e)) h0
    ·omega
   exact ih ((h t y this (hj t) hyr ht').trans ha)
theorem kN.total{x y z:Int}(h:kN up x y)(h':kN up x z):kN up y z\/kN up z y:=by
 induction h with
 |refl=>exact .inl h'
 | @step x d eC h ih=>
  cases h' with
  |refl=>exact .inr (.step eC h)
  |step _ h'=>exact ih h'
end
def di(n:Nat)(l:ah)(f:Int->Int):Prop:=ae l=n/\∀i:Nat,i<n->l.getD i 0=f (i:Int)
theorem di.ext{n:Nat}{l m:ah}{f:Int->Int}(h:di n l f)(h':di n m f):l=m:=by
 apply fM;intro i;by_cases hi:i<n
 ·have h1:=h.2 i hi;have h2:=h'.2 i hi;have e1:i<ae l:=by rw[h.1];exact hi
  have e2:i<ae m:=by rw[h'.1];exact hi
  simp only[List.getD,dF e1,dF e2,nu]at h1 h2⊢;rw[h1,h2]
 ·rw[db (by rw[h.1];omega),db (by rw[h'.1];omega)]
theorem di.set{n:Nat}{l:ah}{f g:Int->Int}(h:di n l f){i:Nat}{v:Int}(_hi:i<n)(hg:g (i:Int)=v)(eC:∀j:Nat,j<n->j≠i->g (j:Int)=f (j:Int)):di n (l.set i v) g:=by
 refine⟨by simp[h.1],λj hj=> ?_⟩;by_cases e:i=j
 ·subst e;have:i<ae l:=by rw[h.1];exact hj
  simp[List.getD,this,hg]
 ·rw[eC j hj (λh=>e h.symm),<-h.2 j hj];simp[List.getD,jP e]
theorem di.get{n:Nat}{l:ah}{f:Int->Int}(h:di n l f){i:Nat}(hi:i<n):l[i]?=some (f (i:Int)):=by
 have h1:=h.2 i hi;have e1:i<ae l:=by rw[h.1];exact hi
 simp only[List.getD,dF e1,nu]at h1;rw[dF e1,h1]
theorem di.congr{n:Nat}{l:ah}{f g:Int->Int}(h:di n l f)(e:∀i:Nat,i<n->f (i:Int)=g (i:Int)):di n l g:=⟨h.1,λi hi=>(h.2 i hi).trans (e i hi)⟩
def vy(k:Nat)(x:Int):Int:=if x<(k:Int)then-1 else 0
theorem DC(n:Nat):di n (List.replicate n 0) (vy 0):=⟨sI,λi hi=>by
 have:¬((i:Int)<((0:Nat):Int)):=oM;rw[vy,ao this];simp[List.getD,hi]⟩
theorem Gq{n k:Nat}{l:ah}(h:di n l (vy k))(hk:k<n):di n (l.set k (-1)) (vy (k+1)):=by
 refine h.set hk ?_ λj _ eC=> ?_
 ·rw[vy,ax oM]
 ·unfold vy;by_cases e:(j:Int)<(k:Int)
  ·rw[ax e,ax oM]
  ·rw[ao e,ao oM]
theorem KG{n k:Nat}{l:ah}(h:di n l (vy k))(hk:n<=k):di n l (λ_=> -1):=h.congr (λi hi=>by rw[vy,ax oM])
def zn(l:ah)(x:Int):Int:=pX (λy=>y==x) l
theorem qO{l:ah}(hn:l.Nodup){i:Nat}{x:Int}(h:l[i]?=some x):zn l x=(i:Int):=by
 obtain⟨ir,he⟩:=aW.1 h;refine Dr (j:=i) ?_ (by simp[List.getD,ir,he]) ir;rw[any_eq_false];intro y hy;obtain⟨j,hj,he2⟩:=Iq.1 hy;simp only[az];intro e;exact tx.1 hn j i oM ir oM (by rw[he2,he,e])
theorem It{l:ah}{x:Int}(h:x∉l):zn l x= -1:=by
 refine ze (j:=ae l) ?_ (cH _);rw[any_eq_false];intro y hy;simp only[az];rintro rfl;exact h (Cu hy)
theorem Cv{l:ah}(hn:l.Nodup){x:Int}:0<=zn l x↔x∈l:=by
 constructor
 ·intro h;by_cases e:x∈l
  ·exact e
  ·rw[It e]at h;omega
 ·intro h;obtain⟨i,hi⟩:=bq.1 h;rw[qO hn hi];omega
theorem QbV{l:ah}(hn:l.Nodup){x:Int}{i:Nat}(h:zn l x=(i:Int)):l[i]?=some x:=by
 have hm:=(Cv hn (x:=x)).1 oM;obtain⟨j,hj⟩:=bq.1 hm;have:=qO hn hj;rw[this]at h;have:j=i:=oM;exact this▸hj
theorem QgJ{l:ah}{x:Int}:zn l x<ae l:=(Ib _ l).2
theorem KH{l:ah}(hn:l.Nodup){k:Nat}{b:Int}(hk:l[k]?=some b)(x:Int):zn (l.take (k+1)) x=if x=b then(k:Int)else zn (l.take k) x:=by
 obtain⟨ir,he⟩:=aW.1 hk;have Iu:(l.take (k+1)).Nodup:=hn.sublist (xQ _ _);have hn0:(l.take k).Nodup:=hn.sublist (xQ _ _);by_cases e:x=b
 ·subst e;rw[ax rfl];exact qO Iu (by rw[uQ oM];exact hk)
 ·rw[ao e];by_cases hm:x∈l.take k
  ·obtain⟨j,hj⟩:=bq.1 hm;rw[qO hn0 hj];have hjk:j<k:=by have:=(aW.1 hj).1;simp at this;omega
   rw[uQ hjk]at hj;exact qO Iu (by rw[uQ oM];exact hj)
  ·rw[It hm,It];rw[dh ir,he];simp only[bV,cF,not_or];exact⟨hm,e⟩
structure WS(T:Int->ah)(l:ah):Prop where
 head:l[0]?=some 0
 nodup:l.Nodup
 mem:∀x,x∈l↔Reach T x
 src:∀x,x∈l->x≠0->∃s,zn l s<zn l x/\0<=zn l s/\x∈T s
theorem rj{bs:List SB}(h:0<ae bs):WS (tg bs) (aR bs):=by
 obtain⟨s,hk,he⟩:=zi bs;have hz:=Gl hk;obtain⟨nw,h1,h2,h3,h4,h5⟩:=WH hk;simp only[qa]at h1;have hl:aR bs=0::nw.reverse:=by unfold aR;rw[ao oM,<-he,h1];simp
 have h0:(0:Int)∉nw:=by intro hm;have:=h4 0 hm;simp[jo]at this
 have yO:(aR bs).Nodup:=by rw[hl,qk];exact⟨by simpa using h0,pairwise_reverse.2 (h3.imp (λh=>λe=>h e.symm))⟩
 refine⟨by rw[hl];rfl,yO,λx=> ?_,λx hx eC=> ?_⟩
 ·rw[<-hz x,h2 x,hl];simp[jo]
 ·have rR:x∈nw:=by rw[hl]at hx;simpa[eC]using hx
  obtain⟨l1,l2,e⟩:=append_of_mem rR;have Aq:aR bs=(0::l2.reverse)++x::l1.reverse:=by rw[hl,e];simp
  have px:zn (aR bs) x=(ae (0::l2.reverse):Int):=by refine qO yO ?_;rw[Aq,lJ (cH _)];simp
  have py:∀y,y∈(0:Int)::l2.reverse->zn (aR bs) y<zn (aR bs) x/\0<=zn (aR bs) y:=by
   intro y hy;obtain⟨j,hj,hje⟩:=Cl.1 hy;have:zn (aR bs) y=(j:Int):=by refine qO yO ?_;rw[Aq,o9 hj,dF hj,hje]
   omega
  rcases h5 l1 x l2 e with h|⟨y,hy,h⟩
  ·exact⟨0,(py 0 sI).1,(py 0 sI).2,h⟩
  ·have:=py y (by simp[hy]);exact⟨y,this.1,this.2,h⟩
theorem WS.zn{T:Int->ah}{l:ah}(h:WS T l):Vo T (zn l)where
 reach:=λx=>(Cv h.nodup).trans (h.mem x)
 zero:=qO h.nodup h.head;inj:=λx y hx e=>by obtain⟨i,hi⟩:=bq.1 ((Cv h.nodup).1 hx);have e1:=qO h.nodup hi;have e2:=QbV h.nodup (x:=y) (i:=i) oM;rw[hi]at e2;injection e2
 src:=λx hx eC=>by obtain⟨s,h1,h2,h3⟩:=h.src x ((Cv h.nodup).1 hx) eC;exact⟨s,h2,h1,h3⟩
def ll(bs:List SB)(x:Int):Int:=zn (aR bs) x
theorem ln{bs:List SB}(h:0<ae bs):Vo (tg bs) (ll bs):=(rj h).zn
theorem rk{bs:List SB}(h:0<ae bs){x:Int}(hx:Reach (tg bs) x):0<=x/\x<(ae bs:Int):=WJ h (λ_ _ h=>r4 h) hx
theorem nO{bs:List SB}(h:0<ae bs){x:Int}(hx:0<=ll bs x):0<=x/\x<(ae bs:Int):=rk h (((ln h).reach x).1 hx)
def Nd(bs:List SB):ah:=(List.range (ae bs)).map (λi:Nat=>ll bs (i:Int))
theorem WT(bs:List SB):di (ae bs) (Nd bs) (ll bs):=⟨by simp[Nd],λi hi=>by simp[Nd,List.getD,hi]⟩
theorem pt{bs:List SB}{b s:Int}:s∈bO bs b↔(0<=s/\s<ae bs)/\b∈tg bs s:=by
 simp only[bO,gR,aO,dY,dp,zc,aU];constructor
 ·rintro⟨i,⟨h1,h2⟩,rfl⟩;exact⟨oM,h2⟩
 ·rintro⟨h1,h2⟩;obtain⟨k,rfl⟩:=lk h1.1;exact⟨k,⟨oM,h2⟩,rfl⟩
theorem kU{bs:List SB}{x:Int}:jv bs (-1) x=true↔Reach (tg bs) x:=by
 rw[tL];have e:∀y,Gk (tg bs) (-1) y=tg bs y:=by intro y;unfold Gk;rw[Ic];intro t ht;have:=r4 ht;simp only[oi,xR,jK];omega
 have e2:Gk (tg bs) (-1)=tg bs:=funext e;rw[e2];exact⟨λh=>h.2,λh=>⟨dQ,h⟩⟩
theorem QbW{bs:List SB}{d x:Int}:jv bs d x=false↔Dm (tg bs) d x:=by
 unfold Dm;rw[<-tL];simp
theorem xT{bs:List SB}{d b:Nat}(hd:d<ae bs)(hb:b<ae bs):Nc (jY bs) d b=true↔Reach (tg bs) (b:Int)/\Dm (tg bs) (d:Int) (b:Int):=by
 have:Nc (jY bs) d b=ql bs (d:Int) (b:Int):=by simp[Nc,jY,List.getD,hd,hb]
 rw[this];simp only[ql,bu,oi];rw[kU,kU,QbW];exact⟨λh=>h.2,λh=>⟨Dm.reach h.1 h.2,h⟩⟩
theorem Gr{l:List (List Bool)}{b k:Nat}(h:∀d:Nat,d<k->d≠b->Nc l d b=false):mP l b k= -1:=by
 induction k with
 |zero=>rfl
 |succ k ih=>
  unfold mP;rw[ih (λd hd=>h d oM)];refine ao λhh=> ?_
  rw[h k oM hh.1]at hh;exact Bool.noConfusion hh.2.1
theorem WU{bs:List SB}{up:Int->Int}(h0:0<ae bs)(hu:Up (tg bs) (ll bs) up)(hp:∀x,0<=ll bs x->ng (ll bs) up x)(hd:∀x d,0<=ll bs x->kN up x d->Dm (tg bs) d x){b:Nat}(hb:b<ae bs)(hr:0<=ll bs (b:Int)):∀k,k<=ae bs->(mP (jY bs) b k= -1/\∀d:Nat,d<k->d≠b->¬Dm (tg bs) (d:Int) (b:Int))\/(∃d:Nat,mP (jY bs) b k=(d:Int)/\d<k/\d≠b/\Dm (tg bs) (d:Int) (b:Int)/\∀e:Nat,e<k->e≠b->Dm (tg bs) (e:Int) (b:Int)->Dm (tg bs) (e:Int) (d:Int)):=by
 have hP:=ln h0;have Vp:=(hP.reach _).1 hr;have rd:∀d x,0<=ll bs x->Dm (tg bs) d x->0<=ll bs d:=λd x hx h=>(hP.reach d).2 (Dm.reach ((hP.reach x).1 hx) h)
 intro k;induction k with
 |zero=>exact λ_=> .inl ⟨rfl,λd h=>oM⟩
 |succ k ih=>
  intro hk;have Cw:Nc (jY bs) k b=true↔Dm (tg bs) (k:Int) (b:Int):=by rw[xT oM hb];exact⟨λh=>h.2,λh=>⟨Vp,h⟩⟩
  rcases ih oM with⟨h1,h2⟩|⟨d,h1,h2,h3,h4,h5⟩
  ·by_cases c:k≠b/\Nc (jY bs) k b=true
   ·right;refine⟨k,?_,oM,c.1,Cw.1 c.2,λe he eC J0=> ?_⟩
    ·unfold mP;exact ax ⟨c.1,c.2,.inl oM⟩
    ·by_cases e2:e=k
     ·subst e2;exact Dm.self _
     ·exact absurd J0 (h2 e oM eC)
   ·left;refine⟨?_,λe he eC J0=> ?_⟩
    ·unfold mP;rw[ao (λhh=>c ⟨hh.1,hh.2.1⟩)];exact h1
    ·by_cases e2:e=k
     ·subst e2;exact c ⟨eC,Cw.2 J0⟩
     ·exact h2 e oM eC J0
  ·have had:Nc (jY bs) d k=true↔Reach (tg bs) (k:Int)/\Dm (tg bs) (d:Int) (k:Int):=xT oM oM;by_cases c:k≠b/\Nc (jY bs) k b=true
   ·have hkb:=Cw.1 c.2;have SN:=rd _ _ hr hkb;by_cases c2:Nc (jY bs) d k=true
    ·right;refine⟨k,?_,oM,c.1,hkb,λe he eC J0=> ?_⟩
     ·unfold mP;exact ax ⟨c.1,c.2,.inr (by rw[h1];exact c2)⟩
     ·by_cases e2:e=k
      ·subst e2;exact Dm.self _
      ·have a1:=hu.N6 (hp _ SN) (had.1 c2).2;have a2:=hu.N6 (hp _ (rd _ _ SN (had.1 c2).2)) (h5 e oM eC J0);exact hd _ _ SN (a1.trans a2)
    ·right;refine⟨d,?_,oM,h3,h4,λe he eC J0=> ?_⟩
     ·unfold mP;rw[ao]
      ·exact h1
      ·rintro⟨_,_,hh⟩;rw[h1]at hh;rcases hh with hh|hh
       ·omega
       ·exact c2 hh
     ·by_cases e2:e=k
      ·subst e2;have hdr:=rd _ _ hr h4;rcases kN.total (hu.N6 (hp _ hr) hkb) (hu.N6 (hp _ hr) h4)with t|t
       ·exact absurd (had.2 ⟨(hP.reach _).1 SN,hd _ _ SN t⟩) c2
       ·exact hd _ _ hdr t
      ·exact h5 e oM eC J0
   ·right;refine⟨d,?_,oM,h3,h4,λe he eC J0=> ?_⟩
    ·unfold mP;rw[ao (λhh=>c ⟨hh.1,hh.2.1⟩)];exact h1
    ·by_cases e2:e=k
     ·subst e2;exact absurd ⟨eC,Cw.2 J0⟩ c
     ·exact h5 e oM eC J0
theorem SO{bs:List SB}{up:Int->Int}{ab:ah}{k:Nat}{i j:Int}(h0:0<ae bs)(hr:Ir (tg bs) (ll bs) up k i)(hk:1<=k)(hs:SM (tg bs) (ll bs) up j)(hj:∀x,ll bs x<=j)(KJ:di (ae bs) ab up):ab=jw bs:=by
 have hP:=ln h0;have hp:∀x,0<=ll bs x->ng (ll bs) up x:=λx h=>⟨h,by
  by_cases e:x=0
  ·exact .inl e
  ·exact .inr (hr.some x h e (.inr hk))⟩
 have hd:∀x d,0<=ll bs x->kN up x d->Dm (tg bs) d x:=λx d _ h=>hs.dm hP hj h
 refine KJ.ext ⟨by simp[jw,tM,ny],λb hb=> ?_⟩;have e1:(jw bs).getD b 0=mP (jY bs) b (ae bs):=by simp[jw,tM,ny,List.getD,hb]
 rw[e1];have QC:∀d:Nat,d<ae bs->¬Dm (tg bs) (d:Int) (b:Int)\/¬Reach (tg bs) (b:Int)->Nc (jY bs) d b=false:=by
  intro d hdl hh;rw[<-Cj];intro ht;have:=(xT hdl hb).1 ht;rcases hh with hh|hh
  ·exact hh this.2
  ·exact hh this.1
 by_cases Vp:0<=ll bs (b:Int)
 ·by_cases xP:b=0
  ·subst xP;rw[show up ((0:Nat):Int)= -1 from hr.off _ (.inr rfl)];refine Gr λd hdl eC=>QC d hdl (.inl λh=> ?_)
   have:=h.Cs;omega
  ·have QgK:(b:Int)≠0:=oM;obtain⟨l1,l2⟩:=hr.ok.low _ (hp _ Vp) QgK;have lne:up (b:Int)≠(b:Int):=by intro e;rw[e]at l2;omega
   have lr:=nO h0 l1.1;obtain⟨u,hu⟩:=lk lr.1;have du:Dm (tg bs) (up (b:Int)) (b:Int):=hd _ _ Vp (.step QgK (.refl _));rcases WU h0 hr.ok hp hd hb Vp (ae bs) (cH _)with⟨_,h2⟩|⟨d,h1,h2,h3,h4,h5⟩
   ·exact absurd (hu▸du) (h2 u oM (λe=>lne (by rw[hu,e])))
   ·rw[h1];have eC:(d:Int)≠(b:Int):=oM;have d1:Dm (tg bs) (up (b:Int)) (d:Int):=by rw[hu];exact h5 u oM (λe=>lne (by rw[hu,e])) (hu▸du)
    have hdr:0<=ll bs (d:Int):=(hP.reach _).2 (Dm.reach ((hP.reach _).1 Vp) h4);have d2:Dm (tg bs) (d:Int) (up (b:Int)):=hr.ok.WQ _ _ (hp _ Vp) QgK h4 eC;have q1:=Dm.le hP hdr d1;have q2:=Dm.le hP l1.1 d2;exact hP.inj _ _ hdr oM
 ·rw[hr.off _ (.inl oM)];exact Gr λd hdl _=>QC d hdl (.inr λh=>Vp ((hP.reach _).2 h))
theorem di.at_{n:Nat}{l:ah}{f:Int->Int}(h:di n l f){x:Int}(h0:0<=x)(h1:x<n):(ints l)[x.toNat]?=some (vI (f x)):=by
 obtain⟨i,rfl⟩:=lk h0;have:=h.get (i:=i) oM;simp[ints,this]
structure Mok(T:Int->ah)(pl up:Int->Int)(n:Nat)(atl ab:ah):Prop where
 zn:Vo T pl
 ok:Up T pl up
 xo:∀x,0<=pl x->0<=x/\x<(n:Int)
 Cw:di n atl pl
 KJ:di n ab up
section
variable{T:Int -> List Int}{pl up:Int -> Int}{n:Nat}{atl ab:List Int}
theorem Mok.at0(h:Mok T pl up n atl ab){x:Int}(hx:ng pl up x):(ints atl)[x.toNat]?=some (vI (pl x)):=h.Cw.at_ (h.xo x hx.1).1 (h.xo x hx.1).2
theorem Mok.up0(h:Mok T pl up n atl ab){x:Int}(hx:ng pl up x):(ints ab)[x.toNat]?=some (vI (up x)):=h.KJ.at_ (h.xo x hx.1).1 (h.xo x hx.1).2
theorem Mok.ne0(h:Mok T pl up n atl ab){a b:Int}(hb:ng pl up b)(ir:pl a>pl b):a≠0:=by
 rintro rfl;rw[h.zn.zero]at ir;have:=hb.1;omega
theorem WV(h:Mok T pl up n atl ab){a b a2 b2:Int}(ha:ng pl up a)(Iv:ng pl up a2)(tm:ng pl up b2)(eC:a≠b)(h1:a2=a\/pl a2<pl a)(h2:b2=b\/pl b2<pl b)(g1:¬pl a2>pl b)(g2:¬pl b2>pl a2):(pl a2+pl b2).toNat<(pl a+pl b).toNat:=by
 have p1:=Iv.1;have p2:=tm.1;rcases h1 with rfl|h1
 ·rcases h2 with rfl|h2
  ·exact absurd (h.zn.inj _ _ ha.1 oM) eC
  ·omega
 ·rcases h2 with rfl|h2<;>omega
end
theorem mb(bs:List SB):ae (aR bs)<=ae bs:=by
 unfold aR;split
 ·simp
 ·rw[length_reverse];exact SE oM
theorem Iw{bs:List SB}{k:Nat}(hk:k<ae (aR bs)):∃bi:Nat,(aR bs)[k]?=some (bi:Int)/\bi<ae bs/\ll bs (bi:Int)=(k:Int):=by
 have hl:=mb bs;have ho:=rj (bs:=bs) oM;have hg:(aR bs)[k]?=some (aR bs)[k]:=dF hk;have hr:=rk oM ((ho.mem _).1 (aI hg));obtain⟨q,hq⟩:=lk hr.1;rw[hq]at hg;exact⟨q,hg,oM,qO ho.nodup hg⟩
theorem WW{bs:List SB}{j:Nat}(hk:j+1<ae (aR bs)):∃bi:Nat,((aR bs).drop 1)[j]?=some (bi:Int)/\bi<ae bs/\ll bs (bi:Int)=(j:Int)+1:=by
 obtain⟨bi,h1,h2,h3⟩:=Iw hk;exact⟨bi,by rw[zb,Nat.add_comm];exact h1,h2,oM⟩
theorem QbX{w:World}{ad:Addr}{l:ah}(h:(bD.rd (some ad) (ints l)).holds w):(bD.rd (some (ad.add (1*1))) (ints (l.drop 1))).holds w:=by
 have:=Qbs h 1;simpa[ints]using this
theorem Ix(bs:List SB){l:ah}(h:di (ae bs) l (λ_=> -1)):di (ae bs) l (zn ((aR bs).take 0)):=h.congr (λi _=>(It sI).symm)
theorem KK{bs:List SB}{l:ah}{k bi:Nat}(h:di (ae bs) l (zn ((aR bs).take k)))(hk:(aR bs)[k]?=some (bi:Int))(hb:bi<ae bs):di (ae bs) (l.set bi (k:Int)) (zn ((aR bs).take (k+1))):=by
 have ir:=(aW.1 hk).1;have hl:=mb bs;have ho:=rj (bs:=bs) oM;refine h.set hb ?_ λj _ eC=> ?_
 ·rw[KH ho.nodup hk,ax rfl]
 ·rw[KH ho.nodup hk,ao oM]
theorem N8{bs:List SB}{l:ah}{k:Nat}(h:di (ae bs) l (zn ((aR bs).take k)))(hk:ae (aR bs)<=k):di (ae bs) l (ll bs):=by
 rw[cL hk]at h;exact h
theorem lu{l:ah}{q:Nat}{x:Int}(h:l[q]?=some x):l.take (q+1)=l.take q++[x]:=by
 obtain⟨ir,he⟩:=aW.1 h;rw[dh ir,he]
theorem Cx{bs:List SB}{b:Int}{q:Nat}(h:q<ae (bO bs b)):∃si:Nat,(bO bs b)[q]?=some (si:Int)/\si<ae bs:=by
 have h1:=KE (p7 h);obtain⟨k,he⟩:=lk h1.1;exact⟨k,by rw[dF h,he],oM⟩
theorem QbY{bs:List SB}(h:0<ae bs){b:Int}:∀s,0<=ll bs s->(s∈bO bs b↔b∈tg bs s):=λs hs=>by
 rw[pt];exact⟨λh=>h.2,λhb=>⟨nO h hs,hb⟩⟩
theorem WX(bs:List SB)(x:Int):ll bs x<ae (aR bs):=QgJ
theorem WY{bs:List SB}{up:Int->Int}{ab:ah}{k:Nat}{j:Int}(hr:0<ae bs->Ir (tg bs) (ll bs) up k 0)(hk:1<=k)(hs:SM (tg bs) (ll bs) up j)(hj:∀x,ll bs x<=j)(KJ:di (ae bs) ab up):ab=jw bs:=by
 rcases C5 (ae bs)with h0|h0
 ·have e1:ab=[]:=y2 (by rw[KJ.1,h0]);have e2:jw bs=[]:=y2 (by simp[jw,tM,ny,h0]);rw[e1,e2]
 ·exact SO h0 (hr h0) hk hs hj KJ
theorem WZ{n k:Nat}{b:Bool}(hf:n+2<=k->b=false)(h:b=true):k+1<=n+2:=by
 by_cases h8:n+2<=k
 ·rw[hf h8]at h;cases h
 ·omega
theorem KL(bs:List SB):ae (jw bs)=ae bs:=by simp[jw,tM,ny]
theorem QbZ(bs:List SB):ae (Nd bs)=ae bs:=by simp[Nd]
theorem Ir.keep{bs:List SB}{up:Int->Int}{k:Nat}{j b to:Int}(h:Ir (tg bs) (ll bs) up k j)(hb:ll bs b=j+1)(hto:0<=to)(he:up b=to)(ha:∀s,ng (ll bs) up s->b∈tg bs s->kN up s to):∀s,0<=ll bs s->b∈tg bs s->kN up s (up b):=by
 intro s hs hx;rw[he];refine ha s ⟨hs,?_⟩ hx;by_cases e:s=0
 ·exact .inl e
 ·refine .inr (h.some s hs e (.inr ?_));by_cases hk:k=0
  ·have:=h.non hk b oM;omega
  ·omega
structure Iy(bs:List SB)(up:Int->Int):Prop where
 of:di (ae bs) (jw bs) up
 ok:Up (tg bs) (ll bs) up
 N5:∀x,0<=ll bs x->ng (ll bs) up x
 off:∀x,(ll bs x<0\/x=0)->up x= -1
 dm:∀x d,kN up x d->Dm (tg bs) d x
def Qe8(bs:List SB):Prop:=0<ae bs->∃up,Iy bs up
theorem QgL{bs:List SB}{up:Int->Int}{ab:ah}{k:Nat}{j:Int}(hr:0<ae bs->Ir (tg bs) (ll bs) up k 0)(hk:1<=k)(hs:SM (tg bs) (ll bs) up j)(hj:∀x,ll bs x<=j)(KJ:di (ae bs) ab up):Qe8 bs:=by
 intro h0;have BA:=hr h0;refine⟨up,WY hr hk hs hj KJ▸KJ,BA.ok,λx h=>⟨h,?_⟩,BA.off,λx d h=>hs.dm (ln h0) hj h⟩;by_cases e:x=0
 ·exact .inl e
 ·exact .inr (BA.some x h e (.inr hk))
def QgM(bs:List SB)(k:Nat):Nat:=ae ((List.range k).filter (λi:Nat=>jv bs (-1) (i:Int)))
theorem DD{l:List Nat}(h:l.Nodup):(l.map (λi:Nat=>(i:Int))).Nodup:=by
 rw[List.Nodup,uR];exact h.imp (λh e=>h oM)
theorem Qb0(bs:List SB):QgM bs (ae bs)=ae (aR bs):=by
 by_cases h0:ae bs=0
 ·unfold QgM aR;rw[ax h0,h0];rfl
 ·have ho:=rj (bs:=bs) oM;have hn:(((List.range (ae bs)).filter (λi:Nat=>jv bs (-1) (i:Int))).map (λi:Nat=>(i:Int))).Nodup:=DD (xU.sublist xL);have hp:=(perm_ext_iff_of_nodup ho.nodup hn).2 (λx=>by
   rw[ho.mem x];constructor
   ·intro hx;obtain⟨h1,h2⟩:=rk oM hx;exact aO.2 ⟨x.toNat,dY.2 ⟨dp.2 oM,by rw[jM h1];exact kU.2 hx⟩,jM h1⟩
   ·intro hx;obtain⟨i,hi,rfl⟩:=aO.1 hx;exact kU.1 (dY.1 hi).2)
  rw[hp.length_eq,bl];rfl
theorem Gs{n:Nat}{l:ah}{f:Int->Int}(h:di n l f){x v:Int}(h0:0<=x)(h1:x<n)(e:f x=v):(ints l)[x.toNat]?=some (vI v):=by rw[<-e];exact h.at_ h0 h1
end Go.Mor
