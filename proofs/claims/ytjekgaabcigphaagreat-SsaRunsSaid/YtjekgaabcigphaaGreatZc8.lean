/-
  Texts of the proof, part 8.
-/
import Derived.Test.YtjekgaabcigphaaGreatZc7
import Derived.Laws.IdiomRangeMap
set_option maxRecDepth 10000
namespace Go.Mor
open Go.RowKit
def QL(w:World)(m b:Nat)(l left:List (Value×Value))(cur:Option (Value×Value)):Prop:=∃es clock seen,w.heap[m]?=some (.map es clock)∧es.toList.map (fun e=>(e.key,e.val))=l∧(∀e,e∈es.toList→e.born<clock)∧(es.toList.map (·.born)).Nodup∧w.heap[b]?=some (.mapIter (some m) clock seen clock)∧(es.filter (fun e=> !seen.contains e.born)).toList.map (fun e=>(e.key,e.val))=left∧∀p,cur=some p→∃e,e∈es.toList∧(e.key,e.val)=p∧seen.back?=some e.born
def bx.m9(m b:Nat)(l left:List (Value×Value))(cur:Option (Value×Value)):bx where
 fp:=fun k=>k=m∨k=b
 holds w:=QL w m b l left cur
 gZ:=fun h ⟨es,clock,seen,h1,h2,h3,h4,h5,hr⟩=>⟨es,clock,seen,by rw[h m (.inl rfl)];exact h1,h2,h3,h4,by rw[h b (.inr rfl)];exact h5,hr⟩
 lt:=fun⟨_,_,_,h1,_,_,_,h5,_⟩ e=>by
  rcases e with rfl|rfl
  ·exact gr h1
  ·exact gr h5
def rgE(c:Code)(N:FN)(env:Env)(k:Nat):Option (Option Nat×TypeId×Nat):=match ay c k with
 |some (d,.range t x,_,g)=>match bt c g env,gq d N,ev env x with
  |some true,true,some (.map (some b))=>some (d,t,b)
  |_,_,_=>none
 |_=>none
def nxE(c:Code)(N:FN)(env:Env)(k:Nat):Option (Option Nat×Nat):=match ay c k with
 |some (d,.next x false,_,g)=>match bt c g env,gq d N,ev env x with
  |some true,true,some (.pointer (some ⟨b,0,none⟩))=>some (d,b)
  |_,_,_=>none
 |_=>none
def QeO(c:Code)(N:FN)(env:Env)(k:Nat):Option (Option Nat×Nat):=match ay c k with
 |some (d,.entry x,_,g)=>match bt c g env,gq d N,ev env x with
  |some true,true,some (.pointer (some ⟨b,0,none⟩))=>some (d,b)
  |_,_,_=>none
 |_=>none
theorem Ww{w:World}{m:Nat}{l:List (Value×Value)}{D1:Nat}{es0:Array MapEntry}(hb:w.heap[m]?=some (.map es0 D1))(hm:sv w m l):QL (w.alloc (.mapIter (some m) D1 #[] D1)) m w.heap.size l l none:=by
 obtain⟨es,clock,h1,h2,h3,h4⟩:=hm;rw[hb]at h1;injection h1 with h1;injection h1 with h1 h1';subst h1;subst h1';have fM:=gr hb;refine⟨es0,D1,#[],by rw[heap_alloc_old w _ fM];exact hb,h2,h3,h4,heap_alloc_new w _,?_,sI⟩;rw[←h2];congr 1;simp
section
variable {P : Program} {c : Code} {K : Act → World → Prop} {Q : Exit → Act → World → Prop} {w w0 : World} {S : Nat → Prop} {L : List bx} {k : Nat} {N : FN} {env : Env} {kt e t : TypeId}
theorem Mem.m9(hM:Mem S w0 w L)(i:Nat){m:Nat}{l:List (Value×Value)}(hi:L[i]?=some (.map m l)):∃clock,∀(P:Program) (t kt e:TypeId),P.underlying t=some (.map kt e)→(Instr.range t (.map (some m))).run P w= .ok (vP (aZ w.heap.size)) (w.alloc (.mapIter (some m) clock #[] clock))∧Mem S w0 (w.alloc (.mapIter (some m) clock #[] clock)) (L.set i (.m9 m w.heap.size l l none)):=by
 have hm:=hM.get i hi;obtain⟨es,clock,h1,h2,h3,h4⟩:=hm;refine⟨clock,fun P t kt e ht=>⟨run_range_map w t kt e m es clock ht h1,?_⟩⟩;have hr:=Ww h1 ⟨es,clock,h1,h2,h3,h4⟩;have fM:=gr h1;have hold:∀k,k<w.heap.size→(w.alloc (.mapIter (some m) clock #[] clock)).heap[k]?=w.heap[k]?:=fun k hk=>heap_alloc_old w _ hk
 have KK:Mem (bx.map m l).fp w (w.alloc (.mapIter (some m) clock #[] clock)) [.m9 m w.heap.size l l none]:=by
  refine⟨rfl,rfl,rfl,by show w.heap.size≤(w.heap.push _).size;simp,fun k hk _=>hold k hk,?_,jM _ _⟩;simp only[cI];rintro _ rfl;refine⟨hr,fun g hg=> ?_⟩;rcases hg with rfl|rfl
  ·exact .inl rfl
  ·exact .inr (cB _)
 simpa using hM.mod i hi KK
theorem zrn(hM:Mem S w0 w L)(i:Nat){m:Nat}{l:List (Value×Value)}(hi:L[i]?=some (.map m l))(ht:P.underlying t=some (.map kt e))(h:∀b w',Mem S w0 w' (L.set i (.m9 m b l l none))→∀a,Fr a N (cO env (aQ c k) (vP (aZ b)))→aV P c K Q (k+1) a w')(hk:rgE c N env k=some (aQ c k,t,m):=by kernel_rfl):∀a,Fr a N env→aV P c K Q k a w:=fun a hF=>by
 obtain⟨clock,hr⟩:=hM.m9 i hi;obtain⟨h1',AP⟩:=hr P t kt e ht;unfold rgE at hk;split at hk
 ·rename_i d0 t0 x ty g h0;split at hk
  ·rename_i h1 h2 h3;simp only[cP,cF]at hk;obtain⟨rfl,rfl,rfl⟩:=hk;refine fH h0 hF h1 (fun o ho _=> ?_) (h w.heap.size _ AP _ (hF.put h2 _));unfold execOp;rw[ho];simp only[hF.ev h3,cT,h1',dz];rfl
  ·cases hk
 ·cases hk
theorem QM{m b:Nat}{l left:List (Value×Value)}{cur:Option (Value×Value)}(hm:QL w m b l left cur)(ty:TypeId):(left=[]∧(Instr.next (vP (aZ b)) false ty).run P w= .ok (.tuple #[.bool false]) w)∨∃p left' w',p∈left∧left'.length<left.length∧(∀q,q∈left→q=p∨q∈left')∧(∀q,q∈left'→q∈left)∧(Instr.next (vP (aZ b)) false ty).run P w= .ok (.tuple #[.bool true,p.1,p.2]) w'∧Mem (bx.m9 m b l left cur).fp w w' [.m9 m b l left' (some p)]:=by
 obtain⟨es,clock,seen,h1,h2,h3,h4,h5,h6,h7⟩:=hm;have xy:=gr h5;simp only[Instr.next,getObj,cT,Sem.run,h5,h1,Result.andThen,next_test_false seen es clock clock h3 (cB _),m4,iP];have kH:∀x∈(Array.filter (fun e=> !seen.contains e.born) es).toList,x.born<clock:=fun x hx=>h3 x (by simp at hx⊢;exact hx.1)
 have mj:∀x∈(Array.filter (fun e=> !seen.contains e.born) es).toList,x∈es.toList:=fun x hx=>by simp at hx⊢;exact hx.1
 have QeP:∀x∈(Array.filter (fun e=> !seen.contains e.born) es).toList,seen.contains x.born=false:=fun x hx=>by simp at hx;simpa using hx.2
 have kz:∀j,(Array.filter (fun e=> !(seen.push j).contains e.born) es).toList=(Array.filter (fun e=> !seen.contains e.born) es).toList.filter (fun e=> !(e.born==j)):=by intro j;simp only[Array.toList_filter,vc];apply qF;intro x _;simp only[Array.contains_push,Bool.not_or];rw[Bool.and_comm]
 generalize hL:Array.filter (fun e=> !seen.contains e.born) es=FL at*;have e1:FL.filter (fun x=>decide (x.born<clock))=FL:=Array.filter_eq_self.2 (fun x hx=>by simpa using kH x (by simpa using hx));have e2:FL.filter (fun x=>decide (x.born≥clock))=#[]:=by rw[Array.filter_eq_empty_iff];intro x hx;have:=kH x (by simpa using hx);simp;omega
 simp only[e1,e2,Array.append_empty];by_cases h0:FL.size=0
 ·left;have:FL=#[]:=DI h0;subst this;refine⟨by simpa using h6.symm,?_⟩;simp[choose,Sem.run,Question.forced]
 ·right;have dN:FL.isEmpty=false:=by simp[Array.isEmpty,h0]
  simp only[dN,m4,iP,Array.empty_append,Array.size_map];have ML:∃(j:Nat) (w1:World),j<FL.size∧(w1.heap=w.heap∧w1.os=w.os∧w1.tape=w.tape∧w1.output=w.output)∧(choose (Question.mapNext FL.size)).run P w= .ok j w1:=by
   by_cases hf:FL.size≤1
   ·exact⟨0,w,oM,⟨rfl,rfl,rfl,rfl⟩,by simp[choose,Sem.run,Question.forced,hf]⟩
   ·exact⟨_,{w with drawn:=w.drawn+1},vh _ oM,⟨rfl,rfl,rfl,rfl⟩,by simp only[choose,Sem.run,Question.forced,aE,hf,iP,Question.cut];rfl⟩
  obtain⟨j,w1,hj,⟨hh,ho,htp,hou⟩,Dw⟩:=ML;have hjm:FL[j]∈FL.toList:=sI;have h5':w1.heap[b]?=some (.mapIter (some m) clock seen clock):=by rw[hh];exact h5
  have xx:∀o':Obj,(setObj b o').run P w1= .ok () {w1 with heap:=w1.heap.setIfInBounds b o'}:=fun o'=>by simp only[setObj,Sem.run,h5']
  refine⟨(FL[j].key,FL[j].val),((Array.filter (fun e=> !(seen.push FL[j].born).contains e.born) es).toList.map (fun e=>(e.key,e.val))),{w1 with heap:=w1.heap.setIfInBounds b (.mapIter (some m) clock (seen.push FL[j].born) clock)},?_,?_,?_,?_,?_,?_⟩
  ·rw[←h6];exact bD.2 ⟨_,hjm,rfl⟩
  ·rw[←h6,kz,fi,fi];exact yS.2 ⟨_,hjm,sI⟩
  ·intro q hq;rw[←h6]at hq;obtain⟨x,hx,rfl⟩:=bD.1 hq;by_cases e:x.born=FL[j].born
   ·left;have hx1:=find_born x es.toList h4 (mj x hx);have sr:=find_born FL[j] es.toList h4 (mj _ hjm);rw[e,sr]at hx1;injection hx1 with hx1;rw[hx1]
   ·right;rw[kz];exact bD.2 ⟨x,e8.2 ⟨hx,by simp[e]⟩,rfl⟩
  ·intro q hq;rw[kz]at hq;obtain⟨x,hx,rfl⟩:=bD.1 hq;rw[←h6];exact bD.2 ⟨x,(e8.1 hx).1,rfl⟩
  ·simp only[Dw,Array.getElem?_map,Array.getElem?_eq_getElem hj,gC,cT,xx,Result.andThen];rfl
  ·have hmb:m≠b:=fun e=>by subst e;rw[h1]at h5;cases h5
   refine⟨ho,htp,hou,by simp[hh],fun k hk hs=> ?_,?_,jM _ _⟩
   ·show(w1.heap.setIfInBounds b _)[k]?=_;rw[Array.getElem?_setIfInBounds_ne (fun e=>hs (.inr e.symm)),hh]
   ·simp only[cI];rintro _ rfl;refine⟨⟨es,clock,seen.push FL[j].born,?_,h2,h3,h4,?_,rfl,?_⟩,fun g hg=> .inl hg⟩
    ·show(w1.heap.setIfInBounds b _)[m]?=_;rw[Array.getElem?_setIfInBounds_ne (fun e=>hmb e.symm),hh];exact h1
    ·show(w1.heap.setIfInBounds b _)[b]?=_;rw[Array.getElem?_setIfInBounds_self_of_lt (by rw[hh];exact xy)]
    ·intro p hp;injection hp with hp;exact⟨FL[j],mj _ hjm,hp,sI⟩
theorem znx(hM:Mem S w0 w L)(i:Nat){m b:Nat}{l left:List (Value×Value)}{cur:Option (Value×Value)}(hi:L[i]?=some (.m9 m b l left cur))(h0':left=[]→∀a,Fr a N (cO env (aQ c k) (.tuple #[.bool false]))→aV P c K Q (k+1) a w)(h:∀x y left' w',(x,y)∈left→left'.length<left.length→(∀q,q∈left→q=(x,y)∨q∈left')→(∀q,q∈left'→q∈left)→Mem S w0 w' (L.set i (.m9 m b l left' (some (x,y))))→∀a,Fr a N (cO env (aQ c k) (.tuple #[.bool true,x,y]))→aV P c K Q (k+1) a w')(hk:nxE c N env k=some (aQ c k,b):=by kernel_rfl):∀a,Fr a N env→aV P c K Q k a w:=fun a hF=>by
 unfold nxE at hk;split at hk
 ·rename_i d0 x ty g h0;split at hk
  ·rename_i h1 h2 h3;simp only[cP,cF]at hk;obtain⟨rfl,rfl⟩:=hk;rcases QM (P:=P) (hM.get i hi) ty with⟨he,hr⟩|⟨p,left',w',hp,hl,h4,h5,hr,hm⟩
   ·refine fH h0 hF h1 (v:= .tuple #[.bool false]) (w':=w) (fun o ho Mw=> ?_) (h0' he _ (hF.put h2 _));unfold execOp;rw[ho,Mw];simp only[hF.ev h3,cT,hr,dz];rfl
   ·refine fH h0 hF h1 (v:= .tuple #[.bool true,p.1,p.2]) (w':=w') (fun o ho Mw=> ?_) (h p.1 p.2 left' w' hp hl h4 h5 (by simpa using hM.mod i hi hm) _ (hF.put h2 _));unfold execOp;rw[ho,Mw];simp only[hF.ev h3,cT,hr,dz];rfl
  ·cases hk
 ·cases hk
theorem zey(hM:Mem S w0 w L)(i:Nat){m b:Nat}{l left:List (Value×Value)}(x y:Value)(hi:L[i]?=some (.m9 m b l left (some (x,y))))(h:∀a,Fr a N (cO env (aQ c k) (.tuple #[x,y]))→aV P c K Q (k+1) a w)(hk:QeO c N env k=some (aQ c k,b):=by kernel_rfl):∀a,Fr a N env→aV P c K Q k a w:=fun a hF=>by
 obtain⟨es,clock,seen,g1,g2,g3,g4,g5,g6,g7⟩:=hM.get i hi;obtain⟨e,he,hp,Fi⟩:=g7 _ rfl;have hf:es.find? (·.born==e.born)=some e:=by rw[←Array.find?_toList];exact find_born e es.toList g4 he
 have hr:(Instr.entry (vP (aZ b))).run P w= .ok (.tuple #[x,y]) w:=by simp only[Instr.entry,getObj,cT,Sem.run,g5,g1,Result.andThen,Fi,bne_self_eq_false,m4,iP,hf];injection hp with e1 e2;rw[e1,e2];rfl
 unfold QeO at hk;split at hk
 ·rename_i d0 x0 ty g h0;split at hk
  ·rename_i h1 h2 h3;simp only[cP,cF]at hk;obtain⟨rfl,rfl⟩:=hk;refine fH h0 hF h1 (v:= .tuple #[x,y]) (w':=w) (fun o ho Mw=> ?_) (h _ (hF.put h2 _));unfold execOp;rw[ho];simp only[hF.ev h3,cT,hr,dz];rfl
  ·cases hk
 ·cases hk
end
end Go.Mor
