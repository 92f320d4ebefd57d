/-
  Texts of the proof, part 7.
-/
import Derived.Test.YtjekgaabcigphaaGreatZc6
import Derived.MapKept
set_option maxRecDepth 10000
namespace Go.Mor
open Go.RowKit
def sv(w:World)(b:Nat)(l:List (Value×Value)):Prop:=∃es clock,w.heap[b]?=some (.map es clock)∧es.toList.map (fun e=>(e.key,e.val))=l∧(∀e,e∈es.toList→e.born<clock)∧(es.toList.map (·.born)).Nodup
def bx.map(b:Nat)(l:List (Value×Value)):bx where
 fp:=fun k=>k=b
 holds w:=sv w b l
 gZ:=fun h ⟨es,clock,hb,hr⟩=>⟨es,clock,by rw[h b rfl];exact hb,hr⟩
 lt:=fun⟨_,_,hb,_⟩ e=>by subst e;exact gr hb
def dt{α β:Type}[BEq α]:List (α×β)→α→Option β
 |[],_=>none
 |(k,v)::r,s=>match s==k with
  |true=>some v
  |false=>dt r s
def ft{α β:Type}[BEq α]:List (α×β)→α→β→List (α×β)
 |[],s,v=>[(s,v)]
 |(k,u)::r,s,v=>match s==k with
  |true=>(s,v)::r
  |false=>(k,u)::ft r s v
def IT{α β:Type}[BEq α]:List (α×β)→α→Option (Nat×β)
 |[],_=>none
 |(k,v)::r,s=>match s==k with
  |true=>some (0,v)
  |false=>(IT r s).map (fun p=>(p.1+1,p.2))
theorem Wq{α β:Type}[BEq α](l:List (α×β))(s:α):(IT l s).map (·.2)=dt l s:=by
 induction l with
 |nil=>rfl
 |cons x r ih=>
  obtain⟨k,v⟩:=x;unfold IT dt;cases s==k with
  |true=>rfl
  |false=>simp only[Option.map_map];rw[←ih];rfl
structure tU(P:Program)(k:TypeId)(kd:TypeDesc){α:Type}[BEq α](inj:α→Value):Prop where
 und:P.underlying k=some kd
 isk:∀a,MapKept.IsKey kd (inj a)
 same:∀a b,Instr.sameNow kd (inj a) (inj b)=some (a==b)
 eqv:∀a b:α,(a==b)=true→a=b
theorem fJ{P:Program}{k:TypeId}(h:P.underlying k=some .string):tU P k .string Value.string:=⟨h,fun _=>trivial,fun _ _=>rfl,fun a b e=>by simpa[MapKept.bytes_beq]using e⟩
theorem km{P:Program}{k:TypeId}(h:P.underlying k=some (.int .i64)):tU P k (.int .i64) vI:=⟨h,fun _=>rfl,fun a b=>by simp[Instr.sameNow],fun _ _ e=>ax.1 e⟩
theorem tU.chk{P:Program}{k:TypeId}{kd:TypeDesc}{α:Type}[BEq α]{inj:α→Value}(KL:tU P k kd inj)(em:Bool)(a:α)(w:World):(Instr.checkKey em 10000 k (inj a)).run P w= .ok () w:=MapKept.run_checkKey KL.und (KL.isk a) em 9999
def dx{α:Type}(inj:α→Value)(l:List (α×Value)):List (Value×Value):=l.map (fun p=>(inj p.1,p.2))
section
variable {P : Program} {w : World} {kt e t : TypeId} {kd : TypeDesc} {α : Type} [BEq α] {inj : α → Value}
theorem wD(KL:tU P kt kd inj)(s:α):∀(es:List MapEntry) (l:List (α×Value)) (i:Nat),es.map (fun e=>(e.key,e.val))=dx inj l→Instr.findNow kd (inj s) es i=some ((IT l s).map (fun p=>(i+p.1,p.2)))
 |[],l,i,h=>by
  cases l with
  |nil=>rfl
  |cons x r=>simp[dx]at h
 |x::es,l,i,h=>by
  cases l with
  |nil=>simp[dx]at h
  |cons y r=>
   obtain⟨k0,v0⟩:=y;simp only[dx,ga,rH,cF]at h;obtain⟨⟨h1,h2⟩,h3⟩:=h;unfold Instr.findNow IT;rw[h1,KL.same s k0,h2];cases s==k0 with
   |true=>rfl
   |false=>
    simp only[];rw[wD KL s es r (i+1) h3];cases IT r s with
    |none=>rfl
    |some p=>simp only[gC];congr 2;rw[Nat.add_right_comm,pf]
theorem zh(KL:tU P kt kd inj)(s:α){es:List MapEntry}{l:List (α×Value)}(h:es.map (fun e=>(e.key,e.val))=dx inj l):(Instr.findKey kt (inj s) es).run P w= .ok (IT l s) w:=by
 unfold Instr.findKey;rw[cT,eY KL.und];simp only[dz,wD KL s es l 0 h];cases IT l s<;>simp
def Vk(ok:Bool)(o:Option Value)(z:Value):Value:=match ok with
 |true=> .tuple #[o.getD z,.bool o.isSome]
 |false=>o.getD z
theorem pB{b:Nat}{es:Array MapEntry}{clock:Nat}(hb:w.heap[b]?=some (.map es clock)):(getObj b).run P w= .ok (.map es clock) w:=MapKept.run_getObj_map hb
theorem QG(KL:tU P kt kd inj)(ht:P.underlying t=some (.map kt e)){z:Value}(hz:(P.info? e).map (·.zero)=some (some z))(s:α){b:Nat}{l:List (α×Value)}(hm:sv w b (dx inj l))(ok:Bool):(Instr.lookup t (.map (some b)) (inj s) ok).run P w= .ok (Vk ok (dt l s) z) w:=by
 obtain⟨es,clock,hb,hl,_⟩:=hm;have hzv:(zeroValue e).run P w= .ok z w:=by
  cases hi:P.info? e with
  |none=>simp[hi]at hz
  |some inf=>simp[hi]at hz;simp[zeroValue,typeInfo,hi,hz]
 unfold Instr.lookup;rw[cT,eY ht];simp only[dz,cT,pB hb,jO,KL.chk,zh KL s hl];rw[←Wq];cases IT l s with
 |none=>cases ok<;>simp[hzv,Vk]
 |some p=>cases ok<;>simp[Vk]
theorem K4(KL:tU P kt kd inj)(s:α)(v:Value):∀(es:List MapEntry) (l:List (α×Value)) {i:Nat} {u:Value},es.map (fun e=>(e.key,e.val))=dx inj l→IT l s=some (i,u)→(es[i]?).map (·.key)=some (inj s)∧(es.modify i (fun e=>{e with key:=inj s,val:=v})).map (fun e=>(e.key,e.val))=dx inj (ft l s v)
 |[],l,i,u,h,hi=>by
  cases l with
  |nil=>simp[IT]at hi
  |cons x r=>simp[dx]at h
 |x::es,l,i,u,h,hi=>by
  cases l with
  |nil=>simp[dx]at h
  |cons y r=>
   obtain⟨k0,v0⟩:=y;simp only[dx,ga,rH,cF]at h;obtain⟨⟨h1,h2⟩,h3⟩:=h;unfold IT at hi;unfold ft;cases hs:s==k0 with
   |true=>
    rw[hs]at hi;simp only[cP,cF]at hi;obtain⟨rfl,rfl⟩:=hi;refine⟨by simp[h1,KL.eqv s k0 hs],?_⟩;simp[dx,h3]
   |false=>
    rw[hs]at hi;simp only[jy,cF]at hi;obtain⟨p,hp,rfl,rfl⟩:=hi;obtain⟨h4,h5⟩:=K4 KL s v es r h3 hp;refine⟨by simpa using h4,?_⟩;simp only[List.modify_succ_cons,ga,dx,h1,h2];congr 1
theorem F1(s:α)(v:Value):∀(l:List (α×Value)),IT l s=none→ft l s v=l++[(s,v)]
 |[],_=>rfl
 |(k0,v0)::r,h=>by
  unfold IT at h;unfold ft;cases hs:s==k0 with
  |true=>rw[hs]at h;simp at h
  |false=>
   rw[hs]at h;simp only[P1]at h;rw[F1 s v r h];rfl
theorem Mem.IU{b:Nat}{l l':List (Value×Value)}{o:Obj}(_h:(bx.map b l).holds w)(h':sv {w with heap:=w.heap.setIfInBounds b o} b l'):Mem (bx.map b l).fp w {w with heap:=w.heap.setIfInBounds b o} [.map b l']:=by
 refine⟨rfl,rfl,rfl,sI,fun k hk hs=> ?_,?_,jM _ _⟩
 ·have:k≠b:=fun e=>hs e
  show(w.heap.setIfInBounds b o)[k]?=_;rw[Array.getElem?_setIfInBounds_ne (fun e=>this e.symm)]
 ·simp only[cI];rintro _ rfl;exact⟨h',fun g hg=> .inl hg⟩
theorem MK(KL:tU P kt kd inj)(ht:P.underlying t=some (.map kt e))(s:α)(v:Value){b:Nat}{l:List (α×Value)}(hm:sv w b (dx inj l)):∃w',(Instr.mapUpdate t (.map (some b)) (inj s) v).run P w= .ok () w'∧Mem (bx.map b (dx inj l)).fp w w' [.map b (dx inj (ft l s v))]:=by
 obtain⟨es,clock,hb,hl,fM,qp⟩:=hm;have xy:b<w.heap.size:=gr hb;have xx:∀o:Obj,(setObj b o).run P w= .ok () {w with heap:=w.heap.setIfInBounds b o}:=fun o=>by simp only[setObj,Sem.run,hb]
 have Qb:∀o:Obj,({w with heap:=w.heap.setIfInBounds b o}:World).heap[b]?=some o:=fun o=>by show(w.heap.setIfInBounds b o)[b]?=_;rw[Array.getElem?_setIfInBounds_self_of_lt xy]
 cases hi:IT l s with
 |none=>
  refine⟨{w with heap:=w.heap.setIfInBounds b (.map (es.push {key:=inj s,val:=v,born:=clock}) (clock+1))},?_,Mem.IU ⟨es,clock,hb,hl,fM,qp⟩ ?_⟩
  ·unfold Instr.mapUpdate;rw[cT,eY ht];simp only[dz,cT,pB hb,KL.chk,zh KL s hl,hi,xx]
  ·refine⟨_,_,Qb _,?_,?_,?_⟩
   ·rw[F1 s v l hi];simp[dx]at hl⊢;exact hl
   ·intro x hx;simp only[Array.toList_push,bX,cI]at hx;rcases hx with hx|rfl
    ·have:=fM x hx;omega
    ·exact Nat.lt_succ_self _
   ·simp only[Array.toList_push,di,ga,kc];rw[gJ];refine⟨qp,sI,fun a ha c hc e=> ?_⟩;simp only[cI]at hc;subst hc;obtain⟨x,hx,rfl⟩:=bD.1 ha;have:=fM x hx;omega
 |some p=>
  obtain⟨i,u⟩:=p;obtain⟨h4,h5⟩:=K4 KL s v es.toList l hl hi;have Qh1:(es[i]?).map (·.key)=some (inj s):=by simpa using h4
  have ry:(Instr.keyThatStays (((es[i]?).map (·.key)).getD (inj s)) (inj s)).run P w= .ok (inj s) w:=by rw[Qh1];exact MapKept.run_keyThatStays (KL.isk s)
  refine⟨{w with heap:=w.heap.setIfInBounds b (.map (es.modify i (fun e=>{e with key:=inj s,val:=v})) clock)},?_,Mem.IU ⟨es,clock,hb,hl,fM,qp⟩ ?_⟩
  ·unfold Instr.mapUpdate;rw[cT,eY ht];simp only[dz,cT,pB hb,KL.chk,zh KL s hl,hi,ry,xx]
  ·have Qaa:(es.toList.modify i (fun e=>{e with key:=inj s,val:=v})).map (·.born)=es.toList.map (·.born):=by
    apply kg;intro j;simp only[List.getElem?_map,List.getElem?_modify];by_cases e:i=j
    ·subst e;cases es.toList[i]?<;>simp
    ·simp[e]
   refine⟨_,_,Qb _,?_,?_,?_⟩
   ·rw[DU];exact h5
   ·intro x hx;rw[DU]at hx;have:x.born∈es.toList.map (·.born):=by rw[←Qaa];exact bD.2 ⟨x,hx,rfl⟩
    obtain⟨y,hy,hyx⟩:=bD.1 this;rw[←hyx];exact fM y hy
   ·rw[DU,Qaa];exact qp
end
def lkE(c:Code)(N:FN)(env:Env)(k:Nat):Option (Option Nat×TypeId×Nat×Value×Bool):=match ay c k with
 |some (d,.lookup t x y ok,_,g)=>match bt c g env,gq d N,ev env x,ev env y with
  |some true,true,some (.map (some b)),some s=>some (d,t,b,s,ok)
  |_,_,_,_=>none
 |_=>none
theorem Wr{c:Code}{N:FN}{env:Env}{k:Nat}{d:Option Nat}{t:TypeId}{b:Nat}{s:Value}{ok:Bool}(h:lkE c N env k=some (d,t,b,s,ok)):∃x y ty g,ay c k=some (d,.lookup t x y ok,ty,g)∧bt c g env=some true∧gq d N=true∧ev env x=some (.map (some b))∧ev env y=some s:=by
 unfold lkE at h;split at h
 ·rename_i h0;split at h
  ·rename_i h1 h2 h3 h4;simp only[cP,cF]at h;obtain⟨rfl,rfl,rfl,rfl,rfl⟩:=h;exact⟨_,_,_,_,h0,h1,h2,h3,h4⟩
  ·cases h
 ·cases h
def muE(c:Code)(N:FN)(env:Env)(k:Nat):Option (Option Nat×TypeId×Nat×Value×Value):=match ay c k with
 |some (d,.mapUpdate t x y u,_,g)|some (d,.insert t x y u,_,g)=>match bt c g env,gq d N,ev env x,ev env y,ev env u with
  |some true,true,some (.map (some b)),some s,some v=>some (d,t,b,s,v)
  |_,_,_,_,_=>none
 |_=>none
section
variable {P : Program} {c : Code} {K : Act → World → Prop} {Q : Exit → Act → World → Prop} {w w0 : World} {S : Nat → Prop} {L : List bx} {k : Nat} {N : FN} {env : Env} {kt e t : TypeId} {kd : TypeDesc} {α : Type} [BEq α] {inj : α → Value}
theorem Cg{a:Act}{d:Option Nat}(KL:tU P kt kd inj)(ht:P.underlying t=some (.map kt e)){z:Value}(hz:(P.info? e).map (·.zero)=some (some z))(s:α){b:Nat}{l:List (α×Value)}(hm:sv w b (dx inj l)){ok:Bool}(hF:Fr a N env)(hk:lkE c N env k=some (d,t,b,inj s,ok))(h:∀a',a'=a.put d (Vk ok (dt l s) z)→Fr a' N (cO env d (Vk ok (dt l s) z))→aV P c K Q (k+1) a' w):aV P c K Q k a w:=by
 obtain⟨x,y,ty,g,h0,h1,h2,h3,h4⟩:=Wr hk;refine eD h0 hF h1 h2 rfl (fun o ho=> ?_) h;unfold execOp;rw[ho];simp only[hF.ev h3,hF.ev h4,cT,QG KL ht hz s hm,dz];rfl
theorem zlk(KL:tU P kt kd inj)(s:α)(z:Value){b:Nat}{l:List (α×Value)}(hm:sv w b (dx inj l))(ok:Bool)(h:∀a,Fr a N (cO env (aQ c k) (Vk ok (dt l s) z))→aV P c K Q (k+1) a w)(ht:P.underlying t=some (.map kt e))(hz:(P.info? e).map (·.zero)=some (some z):=by kernel_rfl)(hk:lkE c N env k=some (aQ c k,t,b,inj s,ok):=by kernel_rfl):∀a,Fr a N env→aV P c K Q k a w:=fun _ hF=>Cg KL ht hz s hm hF hk (fun a' _=>h a')
theorem Ch(KL:tU P kt kd inj)(hM:Mem S w0 w L)(i:Nat)(s:α)(v:Value){b:Nat}{l:List (α×Value)}(hi:L[i]?=some (.map b (dx inj l)))(ht:P.underlying t=some (.map kt e))(h:∀w',Mem S w0 w' (L.set i (.map b (dx inj (ft l s v))))→∀a,Fr a N (cO env (aQ c k) undef)→aV P c K Q (k+1) a w')(hk:muE c N env k=some (aQ c k,t,b,inj s,v):=by kernel_rfl):∀a,Fr a N env→aV P c K Q k a w:=fun a hF=>by
 obtain⟨w',hr,hm⟩:=MK KL ht s v (hM.get i hi);have AP:Mem S w0 w' (L.set i (.map b (dx inj (ft l s v)))):=by simpa using hM.mod i hi hm
 unfold muE at hk;split at hk
 ·rename_i d0 t0 x y u ty g h0;split at hk
  ·rename_i h1 h2 h3 h4 h5;simp only[cP,cF]at hk;obtain⟨rfl,rfl,rfl,rfl,rfl⟩:=hk;refine ll h0 hF h1 (w':=w') (fun o ho=> ?_) (h w' AP _ (hF.put h2 _));unfold execOp;rw[ho];simp only[hF.ev h3,hF.ev h4,hF.ev h5,cT,hr,dz];rfl
  ·cases hk
 ·rename_i d0 t0 x y u ty g h0;split at hk
  ·rename_i h1 h2 h3 h4 h5;simp only[cP,cF]at hk;obtain⟨rfl,rfl,rfl,rfl,rfl⟩:=hk;refine ll h0 hF h1 (w':=w') (fun o ho=> ?_) (h w' AP _ (hF.put h2 _));unfold execOp;rw[ho];simp only[hF.ev h3,hF.ev h4,hF.ev h5,cT,hr,dz];rfl
  ·cases hk
 ·cases hk
def mkE(c:Code)(N:FN)(env:Env)(k:Nat):Option (Option Nat):=match ay c k with
 |some (d,.makeMap _ none,_,g)=>match bt c g env,gq d N with
  |some true,true=>some d
  |_,_=>none
 |_=>none
theorem zmm(hM:Mem S w0 w L)(h:∀b w',w0.heap.size≤b→Mem S w0 w' (L++[.map b []])→∀a,Fr a N (cO env (aQ c k) (.map (some b)))→aV P c K Q (k+1) a w')(hk:mkE c N env k=some (aQ c k):=by kernel_rfl):∀a,Fr a N env→aV P c K Q k a w:=fun a hF=>by
 unfold mkE at hk;split at hk
 ·rename_i d0 t0 ty g h0;split at hk
  ·rename_i h1 h2;simp only[cP]at hk;subst hk;have hm:Mem aX w (w.alloc (.map #[] 0)) [.map w.heap.size []]:=by
    refine⟨rfl,rfl,rfl,by show w.heap.size≤(w.heap.push _).size;simp,fun k hk _=> ?_,?_,jM _ _⟩
    ·show(w.heap.push _)[k]?=_;rw[Array.getElem?_push_lt hk,Array.getElem?_eq_getElem hk]
    ·simp only[cI];rintro _ rfl;refine⟨⟨#[],0,?_,rfl,sI,sI⟩,fun g hg=> .inr (by rw[hg];exact cB _)⟩;show(w.heap.push _)[w.heap.size]?=_;simp
   refine fH h0 hF h1 (v:= .map (some w.heap.size)) (w':=w.alloc (.map #[] 0)) (fun o ho _=> ?_) (h w.heap.size _ hM.size (hM.call hm) _ (hF.put h2 _));unfold execOp;rw[ho];simp only[Option.map_none,Instr.makeMap,cT,jO,run_newObj,dz];rfl
  ·cases hk
 ·cases hk
end
section
variable {P : Program} {c : Code} {Q : Exit → Act → World → Prop} {N : FN} {i : Nat} {env0 : Env} {wr : World} {sp : Nat → Spec} {kt e t : TypeId} {kd : TypeDesc} {α : Type} [BEq α] {inj : α → Value}
theorem dM(KL:tU P kt kd inj)(ht:P.underlying t=some (.map kt e))(s:α)(z:Value){b:Nat}{l:List (α×Value)}(hm:∀w,Kp wr w→sv w b (dx inj l))(ok:Bool)(hz:(P.info? e).map (·.zero)=some (some z):=by kernel_rfl)(hv:sp i= .bb (Vk ok (dt l s) z):=by rfl)(hg:∀vs,lE c i (bW c i sp vs env0)=some true:=by intro _;kernel_rfl)(hk:∀vs,lkE (one c i) N (bW c i sp vs env0) 0=some (aQ c i,t,b,inj s,ok):=by intro _;kernel_rfl)(he:ay (one c i) 1=none:=by kernel_rfl):jx P c Q N env0 wr sp i:=by
 refine oU hg (fun w vs hK hp a hF=> ?_);exact Cg KL ht hz s (hm w hK) hF (hk vs) (fun a' ea _=>bl he ⟨_,ea,Kp.refl w,by rw[hv];rfl⟩)
end
end Go.Mor
namespace Go.Mor
def tV(a b:Int):Int:=IntKind.i64.wrap ((BitVec.ofInt 64 a&&&BitVec.ofInt 64 b).toNat:Int)
def bOr(a b:Int):Int:=IntKind.i64.wrap ((BitVec.ofInt 64 a|||BitVec.ofInt 64 b).toNat:Int)
def r7(a b:Int):Int:=IntKind.i64.wrap ((BitVec.ofInt 64 a^^^BitVec.ofInt 64 b).toNat:Int)
def tW(b:Int):Int:=IntKind.u64.wrap ((BitVec.ofInt 64 (IntKind.u64.wrap b)&&&BitVec.ofInt 64 63).toNat:Int)
def F2(a n:Int):Int:=IntKind.i64.wrap (a*2^min n.toNat 64)
def DV(a n:Int):Int:=a.fdiv (2^min n.toNat 64)
def kL(op a b:Int):Int×Int:=if b=0 then(0,3)else if b= -1∧op=4 then(IntKind.i64.wrap (0-a),0)else if b= -1 then(0,0)else if op=4 then(IntKind.i64.wrap (a.tdiv b),0)else(a.tmod b,0)
def cA(op a b:Int):Int×Int:=if op=1 then(IntKind.i64.wrap (a+b),0)else if op=2 then(IntKind.i64.wrap (a-b),0)else if op=3 then(IntKind.i64.wrap (a*b),0)else if op=4∨op=5 then kL op a b else if op=6 then(tV a b,0)else if op=7 then(bOr a b,0)else if op=8 then(r7 a b,0)else if op=9 then(F2 a (tW b),0)else if op=10 then(DV a (tW b),0)else if op=11 then(dg (decide (a=b)),0)else if op=12 then(dg (a !=b),0)else if op=13 then(dg (decide (a<b)),0)else if op=14 then(dg (decide (a≤b)),0)else if op=15 then(dg (decide (a>b)),0)else if op=16 then(dg (decide (a≥b)),0)else(0,-1)
def oL(op a:Int):Int×Int:=if op=1 then(IntKind.i64.wrap (0-a),0)else if op=2 then(r7 (-1) a,0)else if op=3 then(dg (decide (a=0)),0)else(0,-1)
theorem Ci{op a b:Int}(h:b=0):kL op a b=(0,3):=by unfold kL;rw[bC h]
theorem Cj{op a b:Int}(h:b= -1)(h1:op=4):kL op a b=(IntKind.i64.wrap (0-a),0):=by unfold kL;rw[aB oM,bC ⟨h,h1⟩]
theorem Ck{op a b:Int}(h:b= -1)(h1:op≠4):kL op a b=(0,0):=by unfold kL;rw[aB oM,aB (fun e=>h1 e.2),bC h]
theorem Cl{op a b:Int}(h:b≠0)(h2:b≠-1)(h1:op=4):kL op a b=(IntKind.i64.wrap (a.tdiv b),0):=by unfold kL;rw[aB h,aB (fun e=>h2 e.1),aB h2,bC h1]
theorem Cm{op a b:Int}(h:b≠0)(h2:b≠-1)(h1:op≠4):kL op a b=(a.tmod b,0):=by unfold kL;rw[aB h,aB (fun e=>h2 e.1),aB h2,aB h1]
theorem iB{op a b:Int}(h:¬(1≤op∧op≤16)):cA op a b=(0,-1):=by
 unfold cA;rw[aB oM,aB oM,aB oM,aB oM,aB oM,aB oM,aB oM,aB oM,aB oM,aB oM,aB oM,aB oM,aB oM,aB oM,aB oM]
theorem qO{op a b:Int}(h:op=4∨op=5):cA op a b=((kL op a b).1,(kL op a b).2):=by
 unfold cA;rw[aB oM,aB oM,aB oM,bC h]
theorem tX{op a:Int}(h1:¬op=1)(h2:¬op=2)(h3:¬op=3):oL op a=(0,-1):=by unfold oL;rw[aB h1,aB h2,aB h3]
section
variable {op a b : Int}
theorem bo1(h:op=1:=by assumption):cA op a b=(IntKind.i64.wrap (a+b),0):=by subst h;rfl
theorem bo2(h:op=2:=by assumption):cA op a b=(IntKind.i64.wrap (a-b),0):=by subst h;rfl
theorem bo3(h:op=3:=by assumption):cA op a b=(IntKind.i64.wrap (a*b),0):=by subst h;rfl
theorem bo6(h:op=6:=by assumption):cA op a b=(tV a b,0):=by subst h;rfl
theorem bo7(h:op=7:=by assumption):cA op a b=(bOr a b,0):=by subst h;rfl
theorem bo8(h:op=8:=by assumption):cA op a b=(r7 a b,0):=by subst h;rfl
theorem bo9(h:op=9:=by assumption):cA op a b=(F2 a (tW b),0):=by subst h;rfl
theorem QeH(h:op=10:=by assumption):cA op a b=(DV a (tW b),0):=by subst h;rfl
theorem QeI(h:op=11:=by assumption):cA op a b=(dg (decide (a=b)),0):=by subst h;rfl
theorem QeJ(h:op=12:=by assumption):cA op a b=(dg (a !=b),0):=by subst h;rfl
theorem QeK(h:op=13:=by assumption):cA op a b=(dg (decide (a<b)),0):=by subst h;rfl
theorem QeL(h:op=14:=by assumption):cA op a b=(dg (decide (a≤b)),0):=by subst h;rfl
theorem QeM(h:op=15:=by assumption):cA op a b=(dg (decide (a>b)),0):=by subst h;rfl
theorem QeN(h:op=16:=by assumption):cA op a b=(dg (decide (a≥b)),0):=by subst h;rfl
theorem uo1(h:op=1:=by assumption):oL op a=(IntKind.i64.wrap (0-a),0):=by subst h;rfl
theorem uo2(h:op=2:=by assumption):oL op a=(r7 (-1) a,0):=by subst h;rfl
theorem uo3(h:op=3:=by assumption):oL op a=(dg (decide (a=0)),0):=by subst h;rfl
end
structure cV where
 mem:af
 next:Int
 pos:Nat
 out:af
 steps:Int
 opened:Int
inductive ed(α:Type)where
 |ok(a:α)(s:cV)
 |stop(k c:Int)(s:cV)
def ed.bind{α β:Type}(g:ed α)(f:α→cV→ed β):ed β:=match g with
 | .ok a s=>f a s
 | .stop k c s=> .stop k c s
structure dZ where
 nm:aM
 wk:Bool
 pa:Int
 va:Int
 A:ao
 c:Nat
 aJ:List bF
 qA:ao
 qc:Nat
 bO:List (ao×Nat×af)
def dZ.cells(f:dZ):aO:=fV f.nm f.wk f.pa f.va f.A f.c f.aJ
def dZ.src(f:dZ)(k:Nat):af:=(f.bO.getD k (none,0,[])).2.2
structure Env0 where
 fns:List dZ
 names:List (aM×Int)
 data:List (aM×Int)
 inp:af
 memN:Nat
 fuel:Int
def eN(E:Env0)(s:cV):ed Unit:=if s.steps=E.fuel then .stop 0 0 s else .ok () {s with steps:=s.steps+1}
def AU(n:Int)(s:cV):ed Nat:=if n<1∨n≥s.next then .stop 5 0 s else .ok n.toNat s
def a0(l:af):Int:=l.getD 0 0
def a1(l:af):Int:=l.getD 1 0
def bU(E:Env0)(call:Int→af→cV→ed Int)(i:cH)(l:af)(s:cV):ed Int:=
 if i.op=1 then .ok i.n s
 else if i.op=2 then(AU (IntKind.i64.wrap (a0 l+i.n)) s).bind fun k s=> .ok (s.mem.getD k 0) s
 else if i.op=3 then(AU (IntKind.i64.wrap (a0 l+i.n)) s).bind fun k s=> .ok 0 {s with mem:=s.mem.set k (a1 l)}
 else if i.op=4 then match dt E.names i.name with
  |some n=>call n l s
  |none=> .stop 5 0 s
 else if i.op=5 then call (a0 l) l.tail s
 else if i.op=6 then match dt E.data i.name with
  |some n=> .ok n s
  |none=> .stop 5 0 s
 else if i.op=7 then match dt E.names i.name with
  |some n=> .ok n s
  |none=> .stop 5 0 s
 else if i.op=8 then if a0 l<0 then .stop 5 0 s else if a0 l>(E.memN:Int)-s.next then .stop 3 0 s else .ok s.next {s with next:=s.next+a0 l}
 else if i.op=9 then if s.pos<E.inp.length then .ok (E.inp.getD s.pos 0) {s with pos:=s.pos+1}else .ok (-1) s
 else if i.op=10 then .ok 0 (if s.out.length<4096 then {s with out:=s.out++[IntKind.u8.wrap (a0 l)]}else s)
 else if i.op=11 then if a0 l=0 then .stop 2 i.n s else .ok 0 s
 else if i.op=12 then .ok (a0 l) s
 else if i.op≥40 then .ok (oL (i.op-40) (a0 l)).1 s
 else if(cA (i.op-16) (a0 l) (a1 l)).2=0 then .ok (cA (i.op-16) (a0 l) (a1 l)).1 s else .stop 2 (cA (i.op-16) (a0 l) (a1 l)).2 s
section
variable {E : Env0} {call : Int → List Int → cV → ed Int} {i : cH} {l : List Int} {s : cV}
theorem DW(h:i.op=1):bU E call i l s= .ok i.n s:=by unfold bU;rw[bC h]
theorem vq(h:i.op=2):bU E call i l s=(AU (IntKind.i64.wrap (a0 l+i.n)) s).bind fun k s=> .ok (s.mem.getD k 0) s:=by unfold bU;rw[h];rfl
theorem vr(h:i.op=3):bU E call i l s=(AU (IntKind.i64.wrap (a0 l+i.n)) s).bind fun k s=> .ok 0 {s with mem:=s.mem.set k (a1 l)}:=by unfold bU;rw[h];rfl
theorem vt(h:i.op=4):bU E call i l s=match dt E.names i.name with|some n=>call n l s|none=> .stop 5 0 s:=by unfold bU;rw[h];rfl
theorem zi(h:i.op=5):bU E call i l s=call (a0 l) l.tail s:=by unfold bU;rw[h];rfl
theorem vu(h:i.op=6):bU E call i l s=match dt E.data i.name with|some n=> .ok n s|none=> .stop 5 0 s:=by unfold bU;rw[h];rfl
theorem vv(h:i.op=7):bU E call i l s=match dt E.names i.name with|some n=> .ok n s|none=> .stop 5 0 s:=by unfold bU;rw[h];rfl
theorem vw(h:i.op=8):bU E call i l s=if a0 l<0 then .stop 5 0 s else if a0 l>(E.memN:Int)-s.next then .stop 3 0 s else .ok s.next {s with next:=s.next+a0 l}:=by
 unfold bU;rw[h];rfl
theorem zk(h:i.op=9):bU E call i l s=if s.pos<E.inp.length then .ok (E.inp.getD s.pos 0) {s with pos:=s.pos+1}else .ok (-1) s:=by
 unfold bU;rw[h];rfl
theorem tY(h:i.op=10):bU E call i l s= .ok 0 (if s.out.length<4096 then {s with out:=s.out++[IntKind.u8.wrap (a0 l)]}else s):=by
 unfold bU;rw[h];rfl
theorem rI(h:i.op=11):bU E call i l s=if a0 l=0 then .stop 2 i.n s else .ok 0 s:=by
 unfold bU;rw[h];rfl
theorem ya(h:i.op=12):bU E call i l s= .ok (a0 l) s:=by
 unfold bU;rw[h];rfl
theorem yb(h:i.op≥40):bU E call i l s= .ok (oL (i.op-40) (a0 l)).1 s:=by
 unfold bU;rw[aB oM,aB oM,aB oM,aB oM,aB oM,aB oM,aB oM,aB oM,aB oM,aB oM,aB oM,aB oM,bC h]
theorem qP (h : i.op < 1 ∨ 13 ≤ i.op) (h2 : i.op < 40) : bU E call i l s = if (cA (i.op - 16) (a0 l) (a1 l)).2 = 0 then .ok (cA (i.op - 16) (a0 l) (a1 l)).1 s else .stop 2 (cA (i.op - 16) (a0 l) (a1 l)).2 s := by
 unfold bU; rw [aB oM, aB oM, aB oM, aB oM, aB oM, aB oM, aB oM, aB oM, aB oM, aB oM, aB oM, aB oM, aB oM]
end
theorem F3{n:Int}{s:cV}(h:n<1∨n≥s.next):AU n s= .stop 5 0 s:=by unfold AU;rw[bC h]
theorem QH{n:Int}{s:cV}(h:¬(n<1∨n≥s.next)):AU n s= .ok n.toNat s:=by unfold AU;rw[aB h]
theorem Ws{E:Env0}{s:cV}(h:s.steps=E.fuel):eN E s= .stop 0 0 s:=by unfold eN;rw[bC h]
theorem QI{E:Env0}{s:cV}(h:¬s.steps=E.fuel):eN E s= .ok () {s with steps:=s.steps+1}:=by unfold eN;rw[aB h]
def eG(vals:af)(args:af):af:=args.map (fun v=>vals.getD v.toNat 0)
def fe(E:Env0)(call:Int→af→cV→ed Int):List cH→af→cV→ed af
 |[],vals,s=> .ok vals s
 |i::r,vals,s=>(eN E s).bind fun _ s=>(bU E call i (eG vals i.args) s).bind fun v s=>
  fe E call r (if 0≤i.dst∧aR i.op then vals.set i.dst.toNat v else vals) s
def ox(vals:af):List (Int×Int)→af
 |[]=>vals
 |(d,v)::r=>ox (vals.set d.toNat v) r
def lh(ps:List gv)(at_:Nat)(vals:af):af:=ox vals (ps.map (fun p=>(p.dst,vals.getD (p.args.getD at_ 0).toNat 0)))
def fm:af→Int→Nat
 |[],_=>0
 |x::r,v=>if x=v then 0 else fm r v+1
def gG(E:Env0)(call:Int→af→cV→ed Int)(f:dZ)(k from_:Int)(vals:af)(s:cV):ed (Int×Int×af):=
 match f.aJ[k.toNat]? with
 |none=> .stop 5 0 s
 |some x=>(fe E call x.insts (lh x.aK (fm (f.src k.toNat) from_) vals) s).bind fun vals s=>(eN E s).bind fun _ s=>
  if x.e=0 then .ok (x.a,0,vals) s
  else if x.e=1 then .ok (if vals.getD x.v.toNat 0≠0 then x.a else x.b,0,vals) s
  else if x.e=3 then .stop 2 x.a s
  else .ok (-1,if x.v≥0 then vals.getD x.v.toNat 0 else 0,vals) s
def jR(E:Env0)(body:dZ→Int→Int→af→cV→ed Int)(n:Int)(l:af)(s:cV):ed Int:=if n<1∨n≥(E.fns.length:Int)+1 then .stop 5 0 s else match E.fns[(n-1).toNat]? with
 |none=> .stop 5 0 s
 |some f=>if(l.length:Int)≠f.pa then .stop 5 0 s else if s.opened=1200 then .stop 4 0 s else body f 0 (-1) (l++List.replicate (f.va.toNat-l.length) 0) {s with opened:=s.opened+1}
def kM(E:Env0):Nat→dZ→Int→Int→af→cV→ed Int
 |0,_,_,_,_,s=> .stop 5 0 s
 |g+1,f,k,from_,vals,s=>(gG E (jR E (kM E g)) f k from_ vals s).bind fun r s=>
  if r.1<0 then .ok r.2.1 {s with opened:=s.opened-1}else kM E g f r.1 k r.2.2 s
def cv(E:Env0)(g:Nat):Int→af→cV→ed Int:=jR E (kM E g)
def lj(E:Env0)(g:Nat):List aM→cV→ed Unit
 |[],s=> .ok () s
 |b::r,s=>match dt E.names b with
  |none=> .stop 5 0 s
  |some n=>(cv E g n [] s).bind fun _ s=>lj E g r s
end Go.Mor
namespace Go.Mor
open Go.RowKit
structure Po where
 op:Int
 n:Int
 nm:aM
 A:ao
 c:Nat
 kids:List Po
structure K5 where
 op:Int
 n:Int
 eA:ao
 ec:Nat
 exprs:List Po
 bA:ao
 bc:Nat
 body:List K5
 lA:ao
 lc:Nat
 Wt:List K5
structure tw where
 nm:aM
 wk:Bool
 pa:Int
 lo:Int
 A:ao
 c:Nat
 body:List K5
structure Wu extends Env0 where
 nH:List tw
structure Frm where
 loc:af
 deep:Int
 back:Int
def qQ(E:Env0)(n:Int)(s:cV):ed Int:=if n<0 then .stop 5 0 s else if n>(E.memN:Int)-s.next then .stop 3 0 s else .ok s.next {s with next:=s.next+n}
def Cn(E:Env0)(s:cV):ed Int:=if s.pos<E.inp.length then .ok (E.inp.getD s.pos 0) {s with pos:=s.pos+1}else .ok (-1) s
def DX(v:Int)(s:cV):cV:=if s.out.length<4096 then {s with out:=s.out++[IntKind.u8.wrap v]}else s
end Go.Mor
namespace Go.Mor
open Go.RowKit
section
variable {α β : Type}
theorem QJ{g:ed α}{f:α→cV→ed β}{x:α}{s:cV}(h:g= .ok x s):g.bind f=f x s:=by rw[h];rfl
theorem IV{g:ed α}{f:α→cV→ed β}{k c:Int}{s:cV}(h:g= .stop k c s):g.bind f= .stop k c s:=by rw[h];rfl
end
def Qh2(s s':cV):Prop:=s.steps≤s'.steps∧s'.opened=s.opened
def QK{α:Type}(s:cV)(g:ed α):Prop:=∀x s',g= .ok x s'→Qh2 s s'
end Go.Mor
namespace Go.Mor
open Go.RowKit
section
variable {P : Program} {c : Code} {K : Act → World → Prop} {Q : Exit → Act → World → Prop} {a : Act} {w w0 : World} {S : Nat → Prop} {L : List bx} {k k' : Nat} {N : FN} {env : Env}
variable {d : Option Nat} {ty : Nat} {g : Option (Nat × Bool)}
theorem DY{t:TypeId}{x y:Operand}(hk:ay c k=some (d,.call {callee:= .builtin .append,args:=#[x,y],argTypes:=#[t,t]},ty,g))(hF:Fr a N env)(hg:bt c g env=some true)(hd:gq d N=true)(jN:k+1=k'){e size bytes:Nat}{z:Value}(ht:P.underlying t=some (.slice e))(hi:(P.info? e).map (fun i=>(i.size,i.bytes,i.zero))=some (size,bytes,some z))(Il:Nat.beq z.cells.size size=true)(kZ:Nat.blt 0 size=true){A B:ao}{n cap m cap':Nat}{xs news:aO}(hx:ev env x=some (vS A n cap))(hy:ev env y=some (vS B m cap'))(hM:Mem S w0 w L)(i:Nat)(hL:L[i]?=some (.row e size A n cap xs))(kJ:(bx.rd B news).holds w)(hl:news.length=m*size)(h1:∀u∈news,u.oneCell'=true)(hb:(n+m)*bytes≤140737488355328)(Mv:n+m≤maxLen)(nn:Nat)(ys:aO)(hn:n+m=nn)(DZ:xs++news=ys)(h:∀A' c' w',Mem S w0 w' (L.set i (.row e size A' nn c' ys))→Mem (bx.row e size A n cap xs).fp w w' [.row e size A' nn c' ys]→∀a',a'=a.put d (vS A' nn c')→Fr a' N (cO env d (vS A' nn c'))→aV P c K Q k' a' w'):aV P c K Q k a w:=by
 subst hn DZ;exact wy hk hF hg hd jN ht hi Il kZ hx hy hM i hL kJ hl h1 hb Mv h
end
end Go.Mor
namespace Go.Mor
open Go.RowKit
theorem gm{α β:Type}{f:α→β}{l:List α}{i:Nat}{x:α}(h:l[i]?=some x):(l.map f)[i]?=some (f x):=by rw[List.getElem?_map,h];rfl
section
variable {P : Program} {c : Code} {K : Act → World → Prop} {Q : Exit → Act → World → Prop} {w : World} {N : FN} {env : Env}
theorem mP(x y:Int)(ht:x=y→∀a,Fr a N env→W P (Code.l c) K Q a w)(hf:¬x=y→∀a,Fr a N env→W P (Code.r c) K Q a w)(hk:zc c env=some (vB (x==y)):=by kernel_rfl):∀a,Fr a N env→W P c K Q a w:=eF (x==y) (x=y) ax ht hf hk
end
section
variable {P : Program} {c : Code} {K : Act → World → Prop} {Q : Exit → Act → World → Prop} {w w0 : World} {N : FN} {env : Env} {a : Act} {S : Nat → Prop} {L : List bx} {k : Nat}
theorem Wv(d:Nat)(x y:Operand)(t ty:TypeId)(hF:Fr a N env){e size bytes:Nat}{z:Value}{A B:ao}{n cap m cap':Nat}{xs news:aO}(hM:Mem S w0 w L)(i:Nat)(hL:L[i]?=some (.row e size A n cap xs))(kJ:(bx.rd B news).holds w)(hl:news.length=m*size)(h1:∀u∈news,u.oneCell'=true)(hb:(n+m)*bytes≤140737488355328)(Mv:n+m≤maxLen)(nn:Nat)(ys:aO)(hn:n+m=nn)(DZ:xs++news=ys)(h:∀A' c' w',Mem S w0 w' (L.set i (.row e size A' nn c' ys))→Mem (bx.row e size A n cap xs).fp w w' [.row e size A' nn c' ys]→∀a',a'=a.put (some d) (vS A' nn c')→Fr a' N (cO env (some d) (vS A' nn c'))→aV P c K Q (k+1) a' w')(hk:ay c k=some (some d,.call {callee:= .builtin .append,args:=#[x,y],argTypes:=#[t,t]},ty,none):=by kernel_rfl)(hd:gq (some d) N=true:=by kernel_rfl)(ht:P.underlying t=some (.slice e):=by kernel_rfl)(hi:(P.info? e).map (fun i=>(i.size,i.bytes,i.zero))=some (size,bytes,some z):=by kernel_rfl)(Il:Nat.beq z.cells.size size=true:=by kernel_rfl)(kZ:Nat.blt 0 size=true:=by kernel_rfl)(hx:ev env x=some (vS A n cap):=by kernel_rfl)(hy:ev env y=some (vS B m cap'):=by kernel_rfl):aV P c K Q k a w:=DY hk hF rfl hd rfl ht hi Il kZ hx hy hM i hL kJ hl h1 hb Mv nn ys hn DZ h
end
end Go.Mor
