/-
  Texts of the proof, part 7.
-/
import Derived.Test.YtejbeeaomokjpaaZl6
import Derived.MapKept
set_option maxRecDepth 10000
namespace Go.Mor
open Go.RowKit
def Qgr(w:World)(b:Nat)(l:List (Value×Value)):Prop:=∃es clock,w.heap[b]?=some (.map es clock)∧es.toList.map (fun e=>(e.key,e.val))=l∧(∀e,e∈es.toList→e.born<clock)∧(es.toList.map (·.born)).Nodup
def bo.map(b:Nat)(l:List (Value×Value)):bo where
 fp:=fun k=>k=b
 holds w:=Qgr w b l
 gJ:=fun h ⟨es,clock,hb,hr⟩=>⟨es,clock,by rw[h b rfl];exact hb,hr⟩
 lt:=fun⟨_,_,hb,_⟩ e=>by subst e;exact mI hb
def lkp{α β:Type}[BEq α]:List (α×β)→α→Option β
 |[],_=>none
 |(k,v)::r,s=>match s==k with
  |true=>some v
  |false=>lkp r s
def upk{α β:Type}[BEq α]:List (α×β)→α→β→List (α×β)
 |[],s,v=>[(s,v)]
 |(k,u)::r,s,v=>match s==k with
  |true=>(s,v)::r
  |false=>(k,u)::upk r s v
def ixk{α β:Type}[BEq α]:List (α×β)→α→Option (Nat×β)
 |[],_=>none
 |(k,v)::r,s=>match s==k with
  |true=>some (0,v)
  |false=>(ixk r s).map (fun p=>(p.1+1,p.2))
theorem Qmg{α β:Type}[BEq α](l:List (α×β))(s:α):(ixk l s).map (·.2)=lkp l s:=by
 induction l with
 |nil=>rfl
 |cons x r ih=>
  obtain⟨k,v⟩:=x;unfold ixk lkp;cases s==k with
  |true=>rfl
  |false=>simp only[Option.map_map];rw[←ih];rfl
structure QiO(P:Program)(k:TypeId)(kd:TypeDesc){α:Type}[BEq α](inj:α→Value):Prop where
 und:P.underlying k=some kd
 isk:∀a,MapKept.IsKey kd (inj a)
 same:∀a b,Instr.sameNow kd (inj a) (inj b)=some (a==b)
 eqv:∀a b:α,(a==b)=true→a=b
def kL{α:Type}(inj:α→Value)(l:List (α×Value)):List (Value×Value):=l.map (fun p=>(inj p.1,p.2))
section
variable {P : Program} {w : World} {kt e t : TypeId} {kd : TypeDesc} {α : Type} [BEq α] {inj : α → Value}
theorem QfV(KL:QiO P kt kd inj)(s:α):∀(es:List MapEntry) (l:List (α×Value)) (i:Nat),es.map (fun e=>(e.key,e.val))=kL inj l→Instr.findNow kd (inj s) es i=some ((ixk l s).map (fun p=>(i+p.1,p.2)))
 |[],l,i,h=>by
  cases l with
  |nil=>rfl
  |cons x r=>simp[kL]at h
 |x::es,l,i,h=>by
  cases l with
  |nil=>simp[kL]at h
  |cons y r=>
   obtain⟨k0,v0⟩:=y;simp only[kL,lR,Qjd,eh]at h;obtain⟨⟨h1,h2⟩,h3⟩:=h;unfold Instr.findNow ixk;rw[h1,KL.same s k0,h2];cases s==k0 with
   |true=>rfl
   |false=>
    simp only[];rw[QfV KL s es r (i+1) h3];cases ixk r s with
    |none=>rfl
    |some p=>simp only[s9];congr 2;rw[Nat.add_right_comm,Qjg]
theorem QkR(KL:QiO P kt kd inj)(s:α){es:List MapEntry}{l:List (α×Value)}(h:es.map (fun e=>(e.key,e.val))=kL inj l):(Instr.findKey kt (inj s) es).run P w= .ok (ixk l s) w:=by
 unfold Instr.findKey;rw[xf,vc KL.und];simp only[Qdu,QfV KL s es l 0 h];cases ixk l s<;>simp
structure Qhs(P:Program)(k:TypeId)(kd:TypeDesc){α:Type}[BEq α](inj:α→Value):Prop where
 chk:∀(em:Bool) (a:α) (w:World),(Instr.checkKey em 10000 k (inj a)).run P w= .ok () w
 fnd:∀(s:α) (es:List MapEntry) (l:List (α×Value)) (w:World),es.map (fun e=>(e.key,e.val))=kL inj l→(Instr.findKey k (inj s) es).run P w= .ok (ixk l s) w
 stays:∀(a:α) (w:World),(Instr.keyThatStays (inj a) (inj a)).run P w= .ok (inj a) w
 eqv:∀a b:α,(a==b)=true→a=b
theorem QiO.law(KL:QiO P kt kd inj):Qhs P kt kd inj:=⟨fun em a _=>MapKept.run_checkKey KL.und (KL.isk a) em 9999,fun s _ _ _ h=>QkR KL s h,fun a _=>MapKept.run_keyThatStays (KL.isk a),KL.eqv⟩
theorem Qke{P:Program}{k:TypeId}(h:P.underlying k=some (.int .i64)):Qhs P k (.int .i64) vI:=QiO.law ⟨h,fun _=>rfl,fun a b=>by simp[Instr.sameNow],fun _ _ e=>Js.1 e⟩
theorem Qgx(KL:Qhs P kt kd inj)(s:α){es:List MapEntry}{l:List (α×Value)}(h:es.map (fun e=>(e.key,e.val))=kL inj l):(Instr.findKey kt (inj s) es).run P w= .ok (ixk l s) w:=KL.fnd s es l w h
def lkV(ok:Bool)(o:Option Value)(z:Value):Value:=match ok with
 |true=> .tuple #[o.getD z,.bool o.isSome]
 |false=>o.getD z
theorem Qd4{b:Nat}{es:Array MapEntry}{clock:Nat}(hb:w.heap[b]?=some (.map es clock)):(getObj b).run P w= .ok (.map es clock) w:=MapKept.run_getObj_map hb
theorem Qlo(KL:Qhs P kt kd inj)(ht:P.underlying t=some (.map kt e)){z:Value}(hz:(P.info? e).map (·.zero)=some (some z))(s:α){b:Nat}{l:List (α×Value)}(hm:Qgr w b (kL inj l))(ok:Bool):(Instr.lookup t (.map (some b)) (inj s) ok).run P w= .ok (lkV ok (lkp l s) z) w:=by
 obtain⟨es,clock,hb,hl,_⟩:=hm;have hzv:(zeroValue e).run P w= .ok z w:=by
  cases hi:P.info? e with
  |none=>simp[hi]at hz
  |some inf=>simp[hi]at hz;simp[zeroValue,typeInfo,hi,hz]
 unfold Instr.lookup;rw[xf,vc ht];simp only[Qdu,xf,Qd4 hb,Qjp,KL.chk,Qgx KL s hl];rw[←Qmg];cases ixk l s with
 |none=>cases ok<;>simp[hzv,lkV]
 |some p=>cases ok<;>simp[lkV]
theorem Qky(KL:Qhs P kt kd inj)(s:α)(v:Value):∀(es:List MapEntry) (l:List (α×Value)) {i:Nat} {u:Value},es.map (fun e=>(e.key,e.val))=kL inj l→ixk l s=some (i,u)→(es[i]?).map (·.key)=some (inj s)∧(es.modify i (fun e=>{e with key:=inj s,val:=v})).map (fun e=>(e.key,e.val))=kL inj (upk l s v)
 |[],l,i,u,h,hi=>by
  cases l with
  |nil=>simp[ixk]at hi
  |cons x r=>simp[kL]at h
 |x::es,l,i,u,h,hi=>by
  cases l with
  |nil=>simp[kL]at h
  |cons y r=>
   obtain⟨k0,v0⟩:=y;simp only[kL,lR,Qjd,eh]at h;obtain⟨⟨h1,h2⟩,h3⟩:=h;unfold ixk at hi;unfold upk;cases hs:s==k0 with
   |true=>
    rw[hs]at hi;simp only[p5,eh]at hi;obtain⟨rfl,rfl⟩:=hi;refine⟨by simp[h1,KL.eqv s k0 hs],?_⟩;simp[kL,h3]
   |false=>
    rw[hs]at hi;simp only[Jo,eh]at hi;obtain⟨p,hp,rfl,rfl⟩:=hi;obtain⟨h4,h5⟩:=Qky KL s v es r h3 hp;refine⟨by simpa using h4,?_⟩;simp only[List.modify_succ_cons,lR,kL,h1,h2];congr 1
theorem Qi8(s:α)(v:Value):∀(l:List (α×Value)),ixk l s=none→upk l s v=l++[(s,v)]
 |[],_=>rfl
 |(k0,v0)::r,h=>by
  unfold ixk at h;unfold upk;cases hs:s==k0 with
  |true=>rw[hs]at h;simp at h
  |false=>
   rw[hs]at h;simp only[QjQ]at h;rw[Qi8 s v r h];rfl
theorem Mem.Qlp{b:Nat}{l l':List (Value×Value)}{o:Obj}(_h:(bo.map b l).holds w)(h':Qgr {w with heap:=w.heap.setIfInBounds b o} b l'):Mem (bo.map b l).fp w {w with heap:=w.heap.setIfInBounds b o} [.map b l']:=by
 refine⟨rfl,rfl,rfl,sI,fun k hk hs=> ?_,?_,cc _ _⟩
 ·have:k≠b:=fun e=>hs e
  show(w.heap.setIfInBounds b o)[k]?=_;rw[Array.getElem?_setIfInBounds_ne (fun e=>this e.symm)]
 ·simp only[QcC];rintro _ rfl;exact⟨h',fun g hg=> .inl hg⟩
theorem QkS(KL:Qhs P kt kd inj)(ht:P.underlying t=some (.map kt e))(s:α)(v:Value){b:Nat}{l:List (α×Value)}(hm:Qgr w b (kL inj l)):∃w',(Instr.mapUpdate t (.map (some b)) (inj s) v).run P w= .ok () w'∧Mem (bo.map b (kL inj l)).fp w w' [.map b (kL inj (upk l s v))]:=by
 obtain⟨es,clock,hb,hl,fm,C7⟩:=hm;have wA:b<w.heap.size:=mI hb;have CN:∀o:Obj,(setObj b o).run P w= .ok () {w with heap:=w.heap.setIfInBounds b o}:=fun o=>by simp only[setObj,Sem.run,hb]
 have rh:∀o:Obj,({w with heap:=w.heap.setIfInBounds b o}:World).heap[b]?=some o:=fun o=>by show(w.heap.setIfInBounds b o)[b]?=_;rw[Array.getElem?_setIfInBounds_self_of_lt wA]
 cases hi:ixk l s with
 |none=>
  refine⟨{w with heap:=w.heap.setIfInBounds b (.map (es.push {key:=inj s,val:=v,born:=clock}) (clock+1))},?_,Mem.Qlp ⟨es,clock,hb,hl,fm,C7⟩ ?_⟩
  ·unfold Instr.mapUpdate;rw[xf,vc ht];simp only[Qdu,xf,Qd4 hb,KL.chk,Qgx KL s hl,hi,CN]
  ·refine⟨_,_,rh _,?_,?_,?_⟩
   ·rw[Qi8 s v l hi];simp[kL]at hl⊢;exact hl
   ·intro x hx;simp only[Array.toList_push,QiU,QcC]at hx;rcases hx with hx|rfl
    ·have:=fm x hx;omega
    ·exact Nat.lt_succ_self _
   ·simp only[Array.toList_push,Qjy,lR,Qi3];rw[Tg];refine⟨C7,sI,fun a ha c hc e=> ?_⟩;simp only[QcC]at hc;subst hc;obtain⟨x,hx,rfl⟩:=jd.1 ha;have:=fm x hx;omega
 |some p=>
  obtain⟨i,u⟩:=p;obtain⟨h4,h5⟩:=Qky KL s v es.toList l hl hi;have QoU:(es[i]?).map (·.key)=some (inj s):=by simpa using h4
  have qZ:(Instr.keyThatStays (((es[i]?).map (·.key)).getD (inj s)) (inj s)).run P w= .ok (inj s) w:=by rw[QoU];exact KL.stays s _
  refine⟨{w with heap:=w.heap.setIfInBounds b (.map (es.modify i (fun e=>{e with key:=inj s,val:=v})) clock)},?_,Mem.Qlp ⟨es,clock,hb,hl,fm,C7⟩ ?_⟩
  ·unfold Instr.mapUpdate;rw[xf,vc ht];simp only[Qdu,xf,Qd4 hb,KL.chk,Qgx KL s hl,hi,qZ,CN]
  ·have Qne:(es.toList.modify i (fun e=>{e with key:=inj s,val:=v})).map (·.born)=es.toList.map (·.born):=by
    apply QdX;intro j;simp only[List.getElem?_map,List.getElem?_modify];by_cases e:i=j
    ·subst e;cases es.toList[i]?<;>simp
    ·simp[e]
   refine⟨_,_,rh _,?_,?_,?_⟩
   ·rw[QjG];exact h5
   ·intro x hx;rw[QjG]at hx;have:x.born∈es.toList.map (·.born):=by rw[←Qne];exact jd.2 ⟨x,hx,rfl⟩
    obtain⟨y,hy,hyx⟩:=jd.1 this;rw[←hyx];exact fm y hy
   ·rw[QjG,Qne];exact C7
end
def lkE(c:Code)(N:FN)(env:Env)(k:Nat):Option (Option Nat×TypeId×Nat×Value×Bool):=match ao c k with
 |some (d,.lookup t x y ok,_,g)=>match bw c g env,iy d N,ev env x,ev env y with
  |some true,true,some (.map (some b)),some s=>some (d,t,b,s,ok)
  |_,_,_,_=>none
 |_=>none
theorem Qmh{c:Code}{N:FN}{env:Env}{k:Nat}{d:Option Nat}{t:TypeId}{b:Nat}{s:Value}{ok:Bool}(h:lkE c N env k=some (d,t,b,s,ok)):∃x y ty g,ao c k=some (d,.lookup t x y ok,ty,g)∧bw c g env=some true∧iy d N=true∧ev env x=some (.map (some b))∧ev env y=some s:=by
 unfold lkE at h;split at h
 ·rename_i h0;split at h
  ·rename_i h1 h2 h3 h4;simp only[p5,eh]at h;obtain⟨rfl,rfl,rfl,rfl,rfl⟩:=h;exact⟨_,_,_,_,h0,h1,h2,h3,h4⟩
  ·cases h
 ·cases h
def muE(c:Code)(N:FN)(env:Env)(k:Nat):Option (Option Nat×TypeId×Nat×Value×Value):=match ao c k with
 |some (d,.mapUpdate t x y u,_,g)|some (d,.insert t x y u,_,g)=>match bw c g env,iy d N,ev env x,ev env y,ev env u with
  |some true,true,some (.map (some b)),some s,some v=>some (d,t,b,s,v)
  |_,_,_,_,_=>none
 |_=>none
section
variable {P : Program} {c : Code} {K : Act → World → Prop} {Q : Exit → Act → World → Prop} {w w0 : World} {S : Nat → Prop} {L : List bo} {k : Nat} {N : FN} {env : Env} {kt e t : TypeId} {kd : TypeDesc} {α : Type} [BEq α] {inj : α → Value}
theorem QkT{a:Act}{d:Option Nat}(KL:Qhs P kt kd inj)(ht:P.underlying t=some (.map kt e)){z:Value}(hz:(P.info? e).map (·.zero)=some (some z))(s:α){b:Nat}{l:List (α×Value)}(hm:Qgr w b (kL inj l)){ok:Bool}(hF:Fr a N env)(hk:lkE c N env k=some (d,t,b,inj s,ok))(h:∀a',a'=a.put d (lkV ok (lkp l s) z)→Fr a' N (dE env d (lkV ok (lkp l s) z))→br P c K Q (k+1) a' w):br P c K Q k a w:=by
 obtain⟨x,y,ty,g,h0,h1,h2,h3,h4⟩:=Qmh hk;refine eO h0 hF h1 h2 rfl (fun o ho=> ?_) h;unfold execOp;rw[ho];simp only[hF.ev h3,hF.ev h4,xf,Qlo KL ht hz s hm,Qdu];rfl
theorem zlk(KL:Qhs P kt kd inj)(s:α)(z:Value){b:Nat}{l:List (α×Value)}(hm:Qgr w b (kL inj l))(ok:Bool)(h:∀a,Fr a N (dE env (eo c k) (lkV ok (lkp l s) z))→br P c K Q (k+1) a w)(ht:P.underlying t=some (.map kt e))(hz:(P.info? e).map (·.zero)=some (some z):=by kernel_rfl)(hk:lkE c N env k=some (eo c k,t,b,inj s,ok):=by kernel_rfl):∀a,Fr a N env→br P c K Q k a w:=fun _ hF=>QkT KL ht hz s hm hF hk (fun a' _=>h a')
theorem zmu(KL:Qhs P kt kd inj)(hM:Mem S w0 w L)(i:Nat)(s:α)(v:Value){b:Nat}{l:List (α×Value)}(hi:L[i]?=some (.map b (kL inj l)))(ht:P.underlying t=some (.map kt e))(h:∀w',Mem S w0 w' (L.set i (.map b (kL inj (upk l s v))))→∀a,Fr a N (dE env (eo c k) undef)→br P c K Q (k+1) a w')(hk:muE c N env k=some (eo c k,t,b,inj s,v):=by kernel_rfl):∀a,Fr a N env→br P c K Q k a w:=fun a hF=>by
 obtain⟨w',hr,hm⟩:=QkS KL ht s v (hM.get i hi);have Np:Mem S w0 w' (L.set i (.map b (kL inj (upk l s v)))):=by simpa using hM.mod i hi hm
 unfold muE at hk;split at hk
 ·rename_i d0 t0 x y u ty g h0;split at hk
  ·rename_i h1 h2 h3 h4 h5;simp only[p5,eh]at hk;obtain⟨rfl,rfl,rfl,rfl,rfl⟩:=hk;refine oU h0 hF h1 (w':=w') (fun o ho=> ?_) (h w' Np _ (hF.put h2 _));unfold execOp;rw[ho];simp only[hF.ev h3,hF.ev h4,hF.ev h5,xf,hr,Qdu];rfl
  ·cases hk
 ·rename_i d0 t0 x y u ty g h0;split at hk
  ·rename_i h1 h2 h3 h4 h5;simp only[p5,eh]at hk;obtain⟨rfl,rfl,rfl,rfl,rfl⟩:=hk;refine oU h0 hF h1 (w':=w') (fun o ho=> ?_) (h w' Np _ (hF.put h2 _));unfold execOp;rw[ho];simp only[hF.ev h3,hF.ev h4,hF.ev h5,xf,hr,Qdu];rfl
  ·cases hk
 ·cases hk
def mkE(c:Code)(N:FN)(env:Env)(k:Nat):Option (Option Nat):=match ao c k with
 |some (d,.makeMap _ none,_,g)=>match bw c g env,iy d N with
  |some true,true=>some d
  |_,_=>none
 |_=>none
theorem zmm(hM:Mem S w0 w L)(h:∀b w',w0.heap.size≤b→Mem S w0 w' (L++[.map b []])→∀a,Fr a N (dE env (eo c k) (.map (some b)))→br P c K Q (k+1) a w')(hk:mkE c N env k=some (eo c k):=by kernel_rfl):∀a,Fr a N env→br P c K Q k a w:=fun a hF=>by
 unfold mkE at hk;split at hk
 ·rename_i d0 t0 ty g h0;split at hk
  ·rename_i h1 h2;simp only[p5]at hk;subst hk;have hm:Mem bK w (w.alloc (.map #[] 0)) [.map w.heap.size []]:=by
    refine⟨rfl,rfl,rfl,by show w.heap.size≤(w.heap.push _).size;simp,fun k hk _=> ?_,?_,cc _ _⟩
    ·show(w.heap.push _)[k]?=_;rw[Array.getElem?_push_lt hk,Array.getElem?_eq_getElem hk]
    ·simp only[QcC];rintro _ rfl;refine⟨⟨#[],0,?_,rfl,sI,sI⟩,fun g hg=> .inr (by rw[hg];exact Qjn _)⟩;show(w.heap.push _)[w.heap.size]?=_;simp
   refine gX h0 hF h1 (v:= .map (some w.heap.size)) (w':=w.alloc (.map #[] 0)) (fun o ho _=> ?_) (h w.heap.size _ hM.size (hM.call hm) _ (hF.put h2 _));unfold execOp;rw[ho];simp only[Option.map_none,Instr.makeMap,xf,Qjp,run_newObj,Qdu];rfl
  ·cases hk
 ·cases hk
end
end Go.Mor
