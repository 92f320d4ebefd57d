/-
  Texts of the proof, part 9.
-/
import Derived.Test.YtjekgaabcigphaaGreatZc8
import Derived.Recover
set_option maxRecDepth 10000
namespace Go.Mor
open Go.RowKit
theorem zdf{P:Program}{c:Code}{K:Act→World→Prop}{Q:Exit→Act→World→Prop}{w:World}{k:Nat}{N:FN}{env:Env}(f:FuncId)(cap:aO)(x:Operand)(ts:Array TypeId)(ty:Nat)(h:∀a,Fr a ⟨N.n,{target:= .fn (.func f) cap.toArray,args:=#[]}::N.D⟩ env→aV P c K Q (k+1) a w)(hk:ay c k=some (none,.defer {callee:= .value x,args:=#[],argTypes:=ts},ty,none):=by kernel_rfl)(hx:ev env x=some (.func (.func f) #[] cap.toArray):=by kernel_rfl):∀a,Fr a N env→aV P c K Q k a w:=fun a hF=>by
 refine rq hk hF rfl fun o h1 h2 h3 K' KC=> ?_
 unfold Oper.wp;have hr:(execOp a.eval o).run P w= .ok (.defer {target:= .fn (.func f) cap.toArray,args:=#[]}) w:=by unfold execOp;rw[h2];simp[resolve,hF.ev hx,Deferred.ofValue]
 rw[hr,Oper.upon_defer];refine KC _ _ (h _ ?_);rw[h1];exact⟨by simp[Act.put,hF.defers],by simp[Act.put,hF.size],fun t v hv=>by simpa[Act.put]using hF.slot t v hv⟩
theorem QbB{P:Program}{f:FuncId}{fn:Func}{N:FN}{vs:aO}{w:World}{R:Ending→World→Prop}(hf:P.funcs[f]?=some fn)(h:∀a,Fr a N (Dr 0 vs)→W P (ou fn) (bodyPostD P fn R .normal) (bodyPostD P fn R) a w)(hb:fn.body.isSome=true:=by kernel_rfl)(hn:Nat.beq fn.ntmps N.n=true:=by kernel_rfl)(hl:Nat.ble vs.length N.n=true:=by kernel_rfl)(hD:N.D=[]:=by rfl):Calls P f vs.toArray w R:=by
 have hN:fn.ntmps=N.n:=iq hn;have hl':vs.length≤N.n:=sL hl;cases Z0:fn.body with
 |none=>rw[Z0]at hb;cases hb
 |some c=>
  refine calls_of_wp_defers hf Z0 ?_;have:=h {tmps:=vs.toArray++Array.replicate (fn.ntmps-vs.toArray.size) undef,defers:=[]} ⟨hD.symm,by simp[hN];omega,?_⟩
  ·unfold W at this;rw[show ou fn=c by simp[ou,Z0]]at this;refine wp_mono this ?_;intro e a w he;cases e<;>exact he
  ·intro t v hv;obtain⟨_,h2⟩:=rz vs 0 t hv;simp only[Nat.sub_zero]at h2;have ht:t<vs.length:=(List.getElem?_eq_some_iff.1 h2).1;rw[Array.getElem?_append_left (by simpa using ht)];simpa using h2
theorem zl{P:Program}{fn:Func}{tmps:Array Value}{R:Ending→World→Prop}{f:FuncId}{cap:Array Value}{u u2:FrameMode}{w:World}{X:World→Prop}(hf:mZ P f=true)(hu:u≠ .run)(hc:CallsD P f cap u w fun e u' w'=>(∃v,e= .returned v)∧u'=u2∧X w')(hs:settle u2= .returning)(hX:∀w',X w'→∃v,(results fn tmps).run P w'= .ok v w'∧R (.returned v) w'):Leaves P fn tmps R [{target:= .fn (.func f) cap,args:=#[]}] u w:=by
 refine leaves_cons hu (f:=f) (args:=cap) ?_ ?_
 ·simp[invoke,ph hf]
 ·refine hc.mono ?_;rintro e u' w' ⟨⟨v,rfl⟩,rfl,hx⟩;show Leaves P fn tmps R [] (settle u') w';rw[hs];obtain⟨r,hr,hR⟩:=hX w' hx;exact⟨r,hr,hR⟩
theorem sw{fn:Func}{t u:Tmp}{ty:TypeId}(h:fn.results=#[.cell t ty,.cell u ty])(tmps:Array Value)(P:Program)(w:World){ad ad':Addr}{v v':Value}(hp:tmps[t]?=some (vP ad))(hq:tmps[u]?=some (vP ad'))(ht:xu P ty=true)(hc:w.cell? ad=some v)(sx:w.cell? ad'=some v'):(results fn tmps).run P w= .ok (.tuple #[v,v']) w:=by
 have e1:(asAddr (vP ad)).run P w= .ok ad w:=rfl;have e2:(asAddr (vP ad')).run P w= .ok ad' w:=rfl;have l1:(loadVar ty ad).run P w= .ok v w:=by simp[loadVar,u7 ht,hc]
 have l2:(loadVar ty ad').run P w= .ok v' w:=by simp[loadVar,u7 ht,sx]
 simp only[results,h];simp[cT,Result.andThen,lg,hp,hq,e1,e2,l1,l2]
def n8(P:Program)(c:Code)(K:Act→List Frame→World→Prop)(Q:Exit→Act→List Frame→World→Prop)(k:Nat)(a:Act)(cs:List Frame)(w:World):Prop:=wpOpsS P (opsOf c) (Exit.thenS K Q) ((List.range (opsOf c).size).drop k) a cs w
section
variable {P : Program} {c : Code} {K : Act → List Frame → World → Prop} {Q : Exit → Act → List Frame → World → Prop} {a : Act} {cs : List Frame} {w : World} {k : Nat}
theorem Co(hk:kind c= .region false)(h:n8 P c K Q 0 a cs w):c.wpS P (Exit.thenS K Q) a cs w:=by
 cases c<;>simp[kind]at hk;subst hk;exact wpS_region h
theorem zm{n k:Nat}(h:k<n):(List.range n).drop k=k::(List.range n).drop (k+1):=by
 rw[sm (by simpa using h)];simp
theorem sy{d:Option Nat}{ts:Array TypeId}{ty:Nat}(hk:ay c k=some (d,.call {callee:= .builtin .recover,args:=#[],argTypes:=ts},ty,none))(h:match recoverD cs with|some (v,Vl)=>n8 P c K Q (k+1) (a.put d v) Vl w|none=>n8 P c K Q (k+1) (a.put d .nilIface) cs w):n8 P c K Q k a cs w:=by
 unfold ay at hk;cases ho:(opsOf c)[k]? with
 |none=>rw[ho]at hk;cases hk
 |some o=>
  rw[ho]at hk;simp only[gC,cP,cF]at hk;obtain⟨h1,h2,h3,h4⟩:=hk;have fM:k<(opsOf c).size:=(Array.getElem?_eq_some_iff.1 ho).1;unfold n8;rw[zm fM];unfold wpOpsS;have hw:Region.wanted o (yielded (opsOf c) a.tmps)=true:=by simp[Region.wanted,h4]
  have hr:(execOp a.eval o).run P w= .ok .recover w:=by unfold execOp;rw[h2];simp[resolve,invoke,builtin]
  simp only[ho,hw,mn,hr,h1];cases hq:recoverD cs with
  |none=>rw[hq]at h;exact h
  |some p=>obtain⟨v,Vl⟩:=p;rw[hq]at h;exact h
theorem MM{o:Oper}{a:Act}{n n':Act→World→Prop}{Q Q':Exit→Act→World→Prop}(hn:∀a w,n a w→n' a w)(hQ:∀e a w,Q e a w→Q' e a w){r:Result Next}(h:o.upon P a n Q r):o.upon P a n' Q' r:=by
 cases r with
 |ok x w=>
  cases x<;>simp only[Oper.upon]at h⊢<;>first
   |exact hn _ _ h
   |exact h.mono (fun v w' hv=>hn _ _ hv)
   |exact h.mono (fun e w'' he=>by
     cases e with
     |returned v=>exact hn _ _ he
     |panicked ch=>exact hQ _ _ _ he
     |outgrown=>obtain⟨a0,w0,h0⟩:=he;exact⟨a0,w0,hQ _ _ _ h0⟩)
   |exact h
 |halt x w=>cases x<;>simp only[Oper.upon]at h⊢<;>first|exact hQ _ _ _ h|exact h
theorem QN(hn:∀a w,¬Q .outgrown a cs w):∀(n k:Nat) (a:Act) (w:World),(opsOf c).size≤k+n→aV P c (fun a w=>K a cs w) (fun e a w=>Q e a cs w) k a w→n8 P c K Q k a cs w:=by
 intro n;induction n with
 |zero=>
  intro k a w hs h;unfold aV at h;rw[tE (by simpa using hs)]at h;unfold n8;rw[tE (by simpa using hs)];exact h
 |succ n ih=>
  intro k a w hs h;by_cases hk:k<(opsOf c).size
  ·have ho:(opsOf c)[k]?=some (opsOf c)[k]:=by simp[hk]
   generalize hoo:(opsOf c)[k]=o at ho;unfold aV at h;rw[xT ho]at h;unfold wpList at h;unfold n8;rw[zm hk];unfold wpOpsS;simp only[ho];split at h
   ·rename_i hw;rw[bC hw];rcases h with h|⟨_,a0,w0,h0⟩
    ·unfold Oper.wp at h;have key:o.upon P a (fun a' w'=>wpOpsS P (opsOf c) (Exit.thenS K Q) ((List.range (opsOf c).size).drop (k+1)) a' cs w') (fun e a' w'=>(Exit.thenS K Q) e a' cs w') ((execOp a.eval o).run P w):=by refine MM (fun a' w' h'=>ih (k+1) a' w' oM h') (fun e a' w' h'=> ?_) h;cases e<;>exact h'
     split
     ·rename_i w' hr;rw[hr]at h;exact h.elim
     ·exact key
    ·exact absurd h0 (hn a0 w0)
   ·rename_i hw;rw[aB hw];exact ih (k+1) _ _ oM h
  ·unfold aV at h;rw[tE (by simp;omega)]at h;unfold n8;rw[tE (by simp;omega)];exact h
end
end Go.Mor
