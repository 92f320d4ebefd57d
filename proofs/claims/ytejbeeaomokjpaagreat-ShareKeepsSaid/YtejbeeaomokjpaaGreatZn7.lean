/-
  Texts of the proof, part 7.
-/
import Derived.Test.YtejbeeaomokjpaaGreatZn6
import Derived.MapKept
set_option maxRecDepth 10000
namespace Go.Mor
open Go.RowKit
def UP(w:World)(b:Nat)(l:List (Value×Value)):Prop:=∃es clock,w.heap[b]?=some (.map es clock)∧es.toList.map (fun e=>(e.key,e.val))=l∧(∀e,e∈es.toList→e.born<clock)∧(es.toList.map (·.born)).Nodup
def bx.map(b:Nat)(l:List (Value×Value)):bx where
 fp:=fun k=>k=b
 holds w:=UP w b l
 gO:=fun h ⟨es,clock,hb,hr⟩=>⟨es,clock,by rw[h b rfl];exact hb,hr⟩
 lt:=fun⟨_,_,hb,_⟩ e=>by subst e;exact ob hb
def fh{α β:Type}[BEq α]:List (α×β)→α→Option β
 |[],_=>none
 |(k,v)::r,s=>match s==k with
  |true=>some v
  |false=>fh r s
def V3{α β:Type}[BEq α]:List (α×β)→α→β→List (α×β)
 |[],s,v=>[(s,v)]
 |(k,u)::r,s,v=>match s==k with
  |true=>(s,v)::r
  |false=>(k,u)::V3 r s v
def iM{α β:Type}[BEq α]:List (α×β)→α→Option (Nat×β)
 |[],_=>none
 |(k,v)::r,s=>match s==k with
  |true=>some (0,v)
  |false=>(iM r s).map (fun p=>(p.1+1,p.2))
theorem Qmj{α β:Type}[BEq α](l:List (α×β))(s:α):(iM l s).map (·.2)=fh l s:=by
 induction l with
 |nil=>rfl
 |cons x r ih=>
  obtain⟨k,v⟩:=x;unfold iM fh;cases s==k with
  |true=>rfl
  |false=>simp only[Option.map_map];rw[←ih];rfl
def pP{α:Type}(inj:α→Value)(l:List (α×Value)):List (Value×Value):=l.map (fun p=>(inj p.1,p.2))
section
variable {P : Program} {w : World} {kt e t : TypeId} {kd : TypeDesc} {α : Type} [BEq α] {inj : α → Value}
structure Qej(P:Program)(k:TypeId)(kd:TypeDesc){α:Type}[BEq α](inj:α→Value):Prop where
 chk:∀(em:Bool) (a:α) (w:World),(Instr.checkKey em 10000 k (inj a)).run P w= .ok () w
 fnd:∀(s:α) (es:List MapEntry) (l:List (α×Value)) (w:World),es.map (fun e=>(e.key,e.val))=pP inj l→(Instr.findKey k (inj s) es).run P w= .ok (iM l s) w
 stays:∀(a:α) (w:World),(Instr.keyThatStays (inj a) (inj a)).run P w= .ok (inj a) w
 eqv:∀a b:α,(a==b)=true→a=b
theorem UQ(KL:Qej P kt kd inj)(s:α){es:List MapEntry}{l:List (α×Value)}(h:es.map (fun e=>(e.key,e.val))=pP inj l):(Instr.findKey kt (inj s) es).run P w= .ok (iM l s) w:=KL.fnd s es l w h
def CC(ok:Bool)(o:Option Value)(z:Value):Value:=match ok with
 |true=> .tuple #[o.getD z,.bool o.isSome]
 |false=>o.getD z
theorem Ga{b:Nat}{es:Array MapEntry}{clock:Nat}(hb:w.heap[b]?=some (.map es clock)):(getObj b).run P w= .ok (.map es clock) w:=MapKept.run_getObj_map hb
theorem Qly(KL:Qej P kt kd inj)(ht:P.underlying t=some (.map kt e)){z:Value}(hz:(P.info? e).map (·.zero)=some (some z))(s:α){b:Nat}{l:List (α×Value)}(hm:UP w b (pP inj l))(ok:Bool):(Instr.lookup t (.map (some b)) (inj s) ok).run P w= .ok (CC ok (fh l s) z) w:=by
 obtain⟨es,clock,hb,hl,_⟩:=hm;have hzv:(zeroValue e).run P w= .ok z w:=by
  cases hi:P.info? e with
  |none=>simp[hi]at hz
  |some inf=>simp[hi]at hz;simp[zeroValue,typeInfo,hi,hz]
 unfold Instr.lookup;rw[Qor,QoH ht];simp only[QnS,Qor,Ga hb,Qo4,KL.chk,UQ KL s hl];rw[←Qmj];cases iM l s with
 |none=>cases ok<;>simp[hzv,CC]
 |some p=>cases ok<;>simp[CC]
theorem QkF(KL:Qej P kt kd inj)(s:α)(v:Value):∀(es:List MapEntry) (l:List (α×Value)) {i:Nat} {u:Value},es.map (fun e=>(e.key,e.val))=pP inj l→iM l s=some (i,u)→(es[i]?).map (·.key)=some (inj s)∧(es.modify i (fun e=>{e with key:=inj s,val:=v})).map (fun e=>(e.key,e.val))=pP inj (V3 l s v)
 |[],l,i,u,h,hi=>by
  cases l with
  |nil=>simp[iM]at hi
  |cons x r=>simp[pP]at h
 |x::es,l,i,u,h,hi=>by
  cases l with
  |nil=>simp[pP]at h
  |cons y r=>
   obtain⟨k0,v0⟩:=y;simp only[pP,QoK,QpM,Qaq]at h;obtain⟨⟨h1,h2⟩,h3⟩:=h;unfold iM at hi;unfold V3;cases hs:s==k0 with
   |true=>
    rw[hs]at hi;simp only[Kr,Qaq]at hi;obtain⟨rfl,rfl⟩:=hi;refine⟨by simp[h1,KL.eqv s k0 hs],?_⟩;simp[pP,h3]
   |false=>
    rw[hs]at hi;simp only[QoQ,Qaq]at hi;obtain⟨p,hp,rfl,rfl⟩:=hi;obtain⟨h4,h5⟩:=QkF KL s v es r h3 hp;refine⟨by simpa using h4,?_⟩;simp only[List.modify_succ_cons,QoK,pP,h1,h2];congr 1
theorem Qhv(s:α)(v:Value):∀(l:List (α×Value)),iM l s=none→V3 l s v=l++[(s,v)]
 |[],_=>rfl
 |(k0,v0)::r,h=>by
  unfold iM at h;unfold V3;cases hs:s==k0 with
  |true=>rw[hs]at h;simp at h
  |false=>
   rw[hs]at h;simp only[PM]at h;rw[Qhv s v r h];rfl
theorem Mem.Qlz{b:Nat}{l l':List (Value×Value)}{o:Obj}(_h:(bx.map b l).holds w)(h':UP {w with heap:=w.heap.setIfInBounds b o} b l'):Mem (bx.map b l).fp w {w with heap:=w.heap.setIfInBounds b o} [.map b l']:=by
 refine⟨rfl,rfl,rfl,sI,fun k hk hs=> ?_,?_,Jb _ _⟩
 ·have:k≠b:=fun e=>hs e
  show(w.heap.setIfInBounds b o)[k]?=_;rw[Array.getElem?_setIfInBounds_ne (fun e=>this e.symm)]
 ·simp only[yX];rintro _ rfl;exact⟨h',fun g hg=> .inl hg⟩
theorem Qlc(KL:Qej P kt kd inj)(ht:P.underlying t=some (.map kt e))(s:α)(v:Value){b:Nat}{l:List (α×Value)}(hm:UP w b (pP inj l)):∃w',(Instr.mapUpdate t (.map (some b)) (inj s) v).run P w= .ok () w'∧Mem (bx.map b (pP inj l)).fp w w' [.map b (pP inj (V3 l s v))]:=by
 obtain⟨es,clock,hb,hl,eV,HF⟩:=hm;have Ay:b<w.heap.size:=ob hb;have H7:∀o:Obj,(setObj b o).run P w= .ok () {w with heap:=w.heap.setIfInBounds b o}:=fun o=>by simp only[setObj,Sem.run,hb]
 have tr:∀o:Obj,({w with heap:=w.heap.setIfInBounds b o}:World).heap[b]?=some o:=fun o=>by show(w.heap.setIfInBounds b o)[b]?=_;rw[Array.getElem?_setIfInBounds_self_of_lt Ay]
 cases hi:iM l s with
 |none=>
  refine⟨{w with heap:=w.heap.setIfInBounds b (.map (es.push {key:=inj s,val:=v,born:=clock}) (clock+1))},?_,Mem.Qlz ⟨es,clock,hb,hl,eV,HF⟩ ?_⟩
  ·unfold Instr.mapUpdate;rw[Qor,QoH ht];simp only[QnS,Qor,Ga hb,KL.chk,UQ KL s hl,hi,H7]
  ·refine⟨_,_,tr _,?_,?_,?_⟩
   ·rw[Qhv s v l hi];simp[pP]at hl⊢;exact hl
   ·intro x hx;simp only[Array.toList_push,Qn2,yX]at hx;rcases hx with hx|rfl
    ·have:=eV x hx;omega
    ·exact Nat.lt_succ_self _
   ·simp only[Array.toList_push,Qou,QoK,Qps];rw[QoS];refine⟨HF,sI,fun a ha c hc e=> ?_⟩;simp only[yX]at hc;subst hc;obtain⟨x,hx,rfl⟩:=Qhz.1 ha;have:=eV x hx;omega
 |some p=>
  obtain⟨i,u⟩:=p;obtain⟨h4,h5⟩:=QkF KL s v es.toList l hl hi;have QnP:(es[i]?).map (·.key)=some (inj s):=by simpa using h4
  have rZ:(Instr.keyThatStays (((es[i]?).map (·.key)).getD (inj s)) (inj s)).run P w= .ok (inj s) w:=by rw[QnP];exact KL.stays s _
  refine⟨{w with heap:=w.heap.setIfInBounds b (.map (es.modify i (fun e=>{e with key:=inj s,val:=v})) clock)},?_,Mem.Qlz ⟨es,clock,hb,hl,eV,HF⟩ ?_⟩
  ·unfold Instr.mapUpdate;rw[Qor,QoH ht];simp only[QnS,Qor,Ga hb,KL.chk,UQ KL s hl,hi,rZ,H7]
  ·have QmP:(es.toList.modify i (fun e=>{e with key:=inj s,val:=v})).map (·.born)=es.toList.map (·.born):=by
    apply QoL;intro j;simp only[List.getElem?_map,List.getElem?_modify];by_cases e:i=j
    ·subst e;cases es.toList[i]?<;>simp
    ·simp[e]
   refine⟨_,_,tr _,?_,?_,?_⟩
   ·rw[Qqp];exact h5
   ·intro x hx;rw[Qqp]at hx;have:x.born∈es.toList.map (·.born):=by rw[←QmP];exact Qhz.2 ⟨x,hx,rfl⟩
    obtain⟨y,hy,Um⟩:=Qhz.1 this;rw[←Um];exact eV y hy
   ·rw[Qqp,QmP];exact HF
end
def lkE(c:Code)(N:FN)(env:Env)(k:Nat):Option (Option Nat×TypeId×Nat×Value×Bool):=match ax c k with
 |some (d,.lookup t x y ok,_,g)=>match bD c g env,gp d N,ev env x,ev env y with
  |some true,true,some (.map (some b)),some s=>some (d,t,b,s,ok)
  |_,_,_,_=>none
 |_=>none
theorem Qmk{c:Code}{N:FN}{env:Env}{k:Nat}{d:Option Nat}{t:TypeId}{b:Nat}{s:Value}{ok:Bool}(h:lkE c N env k=some (d,t,b,s,ok)):∃x y ty g,ax c k=some (d,.lookup t x y ok,ty,g)∧bD c g env=some true∧gp d N=true∧ev env x=some (.map (some b))∧ev env y=some s:=by
 unfold lkE at h;split at h
 ·rename_i h0;split at h
  ·rename_i h1 h2 h3 h4;simp only[Kr,Qaq]at h;obtain⟨rfl,rfl,rfl,rfl,rfl⟩:=h;exact⟨_,_,_,_,h0,h1,h2,h3,h4⟩
  ·cases h
 ·cases h
def muE(c:Code)(N:FN)(env:Env)(k:Nat):Option (Option Nat×TypeId×Nat×Value×Value):=match ax c k with
 |some (d,.mapUpdate t x y u,_,g)|some (d,.insert t x y u,_,g)=>match bD c g env,gp d N,ev env x,ev env y,ev env u with
  |some true,true,some (.map (some b)),some s,some v=>some (d,t,b,s,v)
  |_,_,_,_,_=>none
 |_=>none
section
variable {P : Program} {c : Code} {K : Act → World → Prop} {Q : Exit → Act → World → Prop} {w w0 : World} {S : Nat → Prop} {L : List bx} {k : Nat} {N : FN} {env : Env} {kt e t : TypeId} {kd : TypeDesc} {α : Type} [BEq α] {inj : α → Value}
theorem Qld{a:Act}{d:Option Nat}(KL:Qej P kt kd inj)(ht:P.underlying t=some (.map kt e)){z:Value}(hz:(P.info? e).map (·.zero)=some (some z))(s:α){b:Nat}{l:List (α×Value)}(hm:UP w b (pP inj l)){ok:Bool}(hF:Fr a N env)(hk:lkE c N env k=some (d,t,b,inj s,ok))(h:∀a',a'=a.put d (CC ok (fh l s) z)→Fr a' N (dq env d (CC ok (fh l s) z))→bz P c K Q (k+1) a' w):bz P c K Q k a w:=by
 obtain⟨x,y,ty,g,h0,h1,h2,h3,h4⟩:=Qmk hk;refine eC h0 hF h1 h2 rfl (fun o ho=> ?_) h;unfold execOp;rw[ho];simp only[hF.ev h3,hF.ev h4,Qor,Qly KL ht hz s hm,QnS];rfl
theorem zlk(KL:Qej P kt kd inj)(s:α)(z:Value){b:Nat}{l:List (α×Value)}(hm:UP w b (pP inj l))(ok:Bool)(h:∀a,Fr a N (dq env (bp c k) (CC ok (fh l s) z))→bz P c K Q (k+1) a w)(ht:P.underlying t=some (.map kt e))(hz:(P.info? e).map (·.zero)=some (some z):=by kernel_rfl)(hk:lkE c N env k=some (bp c k,t,b,inj s,ok):=by kernel_rfl):∀a,Fr a N env→bz P c K Q k a w:=fun _ hF=>Qld KL ht hz s hm hF hk (fun a' _=>h a')
theorem zmu(KL:Qej P kt kd inj)(hM:Mem S w0 w L)(i:Nat)(s:α)(v:Value){b:Nat}{l:List (α×Value)}(hi:L[i]?=some (.map b (pP inj l)))(ht:P.underlying t=some (.map kt e))(h:∀w',Mem S w0 w' (L.set i (.map b (pP inj (V3 l s v))))→∀a,Fr a N (dq env (bp c k) undef)→bz P c K Q (k+1) a w')(hk:muE c N env k=some (bp c k,t,b,inj s,v):=by kernel_rfl):∀a,Fr a N env→bz P c K Q k a w:=fun a hF=>by
 obtain⟨w',hr,hm⟩:=Qlc KL ht s v (hM.get i hi);have P5:Mem S w0 w' (L.set i (.map b (pP inj (V3 l s v)))):=by simpa using hM.mod i hi hm
 unfold muE at hk;split at hk
 ·rename_i d0 t0 x y u ty g h0;split at hk
  ·rename_i h1 h2 h3 h4 h5;simp only[Kr,Qaq]at hk;obtain⟨rfl,rfl,rfl,rfl,rfl⟩:=hk;refine ni h0 hF h1 (w':=w') (fun o ho=> ?_) (h w' P5 _ (hF.put h2 _));unfold execOp;rw[ho];simp only[hF.ev h3,hF.ev h4,hF.ev h5,Qor,hr,QnS];rfl
  ·cases hk
 ·rename_i d0 t0 x y u ty g h0;split at hk
  ·rename_i h1 h2 h3 h4 h5;simp only[Kr,Qaq]at hk;obtain⟨rfl,rfl,rfl,rfl,rfl⟩:=hk;refine ni h0 hF h1 (w':=w') (fun o ho=> ?_) (h w' P5 _ (hF.put h2 _));unfold execOp;rw[ho];simp only[hF.ev h3,hF.ev h4,hF.ev h5,Qor,hr,QnS];rfl
  ·cases hk
 ·cases hk
def mkE(c:Code)(N:FN)(env:Env)(k:Nat):Option (Option Nat):=match ax c k with
 |some (d,.makeMap _ none,_,g)=>match bD c g env,gp d N with
  |some true,true=>some d
  |_,_=>none
 |_=>none
theorem zmm(hM:Mem S w0 w L)(h:∀b w',w0.heap.size≤b→Mem S w0 w' (L++[.map b []])→∀a,Fr a N (dq env (bp c k) (.map (some b)))→bz P c K Q (k+1) a w')(hk:mkE c N env k=some (bp c k):=by kernel_rfl):∀a,Fr a N env→bz P c K Q k a w:=fun a hF=>by
 unfold mkE at hk;split at hk
 ·rename_i d0 t0 ty g h0;split at hk
  ·rename_i h1 h2;simp only[Kr]at hk;subst hk;have hm:Mem bq w (w.alloc (.map #[] 0)) [.map w.heap.size []]:=by
    refine⟨rfl,rfl,rfl,by show w.heap.size≤(w.heap.push _).size;simp,fun k hk _=> ?_,?_,Jb _ _⟩
    ·show(w.heap.push _)[k]?=_;rw[Array.getElem?_push_lt hk,Array.getElem?_eq_getElem hk]
    ·simp only[yX];rintro _ rfl;refine⟨⟨#[],0,?_,rfl,sI,sI⟩,fun g hg=> .inr (by rw[hg];exact kQ _)⟩;show(w.heap.push _)[w.heap.size]?=_;simp
   refine ib h0 hF h1 (v:= .map (some w.heap.size)) (w':=w.alloc (.map #[] 0)) (fun o ho _=> ?_) (h w.heap.size _ hM.size (hM.call hm) _ (hF.put h2 _));unfold execOp;rw[ho];simp only[Option.map_none,Instr.makeMap,Qor,Qo4,run_newObj,QnS];rfl
  ·cases hk
 ·cases hk
end
end Go.Mor
