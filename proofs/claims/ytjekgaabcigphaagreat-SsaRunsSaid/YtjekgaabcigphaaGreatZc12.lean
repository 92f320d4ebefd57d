/-
  Texts of the proof, part 12.
-/
import Derived.Test.YtjekgaabcigphaaGreatZc11
import Derived.Scope
set_option maxRecDepth 10000
namespace Go.Mor
open Go.RowKit
end Go.Mor
namespace Go.Mor
open Go.RowKit
theorem l9(l:af)(k:Nat)(v:Int):(ints l).set (k*1) (vI v)=ints (l.set k v):=by rw[eE];simp[ints,po]
end Go.Mor
namespace Go.Mor
open Go.RowKit
end Go.Mor
namespace Go.Mor
open Go.RowKit
section
variable {P : Program} {c : Code} {K : Act → World → Prop} {Q : Exit → Act → World → Prop} {w w0 : World} {S : Nat → Prop} {L : List bx} {k : Nat} {N : FN} {env : Env} {α : Type} {inj : α → Value} {kt e : TypeId}
theorem No{t:TypeId}{ty:Nat}(ht:P.underlying t=some (.map kt e)){b:Nat}{l:List (Value×Value)}(hm:sv w b l):∃w',(Builtin.clear_ #[t] ty #[.map (some b)]).run P w= .ok (.tuple #[]) w'∧Mem (bx.map b l).fp w w' [.map b []]:=by
 obtain⟨es,clock,hb,hl,fM,qp⟩:=hm;have xy:b<w.heap.size:=gr hb;refine⟨{w with heap:=w.heap.setIfInBounds b (.map #[] clock)},?_,Mem.IU ⟨es,clock,hb,hl,fM,qp⟩ ⟨#[],clock,?_,rfl,(fun e he=>by cases he),sI⟩⟩
 ·unfold Builtin.clear_;simp only[List.getElem?_toArray,List.getElem?_cons_zero,cT,eY ht,dz,pB hb,setObj,Sem.run,hb];rfl
 ·show(w.heap.setIfInBounds b (.map #[] clock))[b]?=_;rw[Array.getElem?_setIfInBounds_self_of_lt xy]
theorem Np(hM:Mem S w0 w L)(i:Nat)(t:TypeId)(x:Operand)(ty:Nat){b:Nat}{l:List (Value×Value)}(hi:L[i]?=some (.map b l))(ht:P.underlying t=some (.map kt e))(h:∀w',Mem S w0 w' (L.set i (.map b []))→∀a,Fr a N env→aV P c K Q (k+1) a w')(hk:ay c k=some (none,.call {callee:= .builtin .clear,args:=#[x],argTypes:=#[t]},ty,none):=by kernel_rfl)(hx:ev env x=some (.map (some b)):=by kernel_rfl):∀a,Fr a N env→aV P c K Q k a w:=fun a hF=>by
 obtain⟨w',hr,hm⟩:=No (ty:=ty) ht (hM.get i hi);have AP:Mem S w0 w' (L.set i (.map b [])):=by simpa using hM.mod i hi hm
 refine fH hk hF rfl (v:= .tuple #[]) (w':=w') (fun o ho Mw=> ?_) (h w' AP _ hF);unfold execOp;rw[ho,Mw];simp only[resolve,invoke,builtin,cT,jO,dz,qB,ga,kc,hF.ev hx,hr]
end
section
variable {P : Program} {c : Code} {Q : Exit → Act → World → Prop} {N : FN} {i : Nat} {env0 : Env} {wr : World} {sp : Nat → Spec}
theorem Gx{B b:Bool}(hb:B=b)(hv:sp i= .bb (vB B):=by rfl)(h:∀vs,p1E P c N i (bW c i sp vs env0)=some (vB b):=by intro _;kernel_rfl):jx P c Q N env0 wr sp i:=by
 subst hb;exact dP (fun vs=>(h vs).trans (by rw[hv];rfl)) (by rw[hv];rfl)
end
end Go.Mor
namespace Go.Mor
open Go.RowKit
def Qil(l:List tw):Nat:=(l.map (fun f=>WG f.body)).sum
def oD(l:List bh):Nat:=(l.map (fun d=>d.words.length)).sum
theorem Nq{l:List bh}{j:Nat}{d:bh}(h:l[j]?=some d):oD (l.take (j+1))=oD (l.take j)+d.words.length:=by
 unfold oD;rw[iE,h];simp
theorem Xl(l:List bh)(j:Nat):oD (l.take j)≤oD l:=by
 have e:oD (l.take j)+oD (l.drop j)=oD l:=by unfold oD;rw[←List.sum_append,←di,pH]
 omega
def Jl(m:cQ):Prop:=20000<Qil m.fns∨16384<oD m.cp
instance (m : cQ) : Decidable (Jl m) := by unfold Jl; infer_instance
def Qak(l:List tw)(j:Nat):Prop:=∀(i:Nat) (f:tw),i<j→l[i]?=some f→fnV f=true∧f.nm∉(l.take i).map (·.nm)
def RE(l:List bh)(j:Nat):Prop:=∀(i:Nat) (d:bh),i<j→l[i]?=some d→ju d∧d.nm∉(l.take i).map (·.nm)
noncomputable instance (l : List tw) (j : Nat) : Decidable (Qak l j) := Classical.propDecidable _
noncomputable instance (l : List bh) (j : Nat) : Decidable (RE l j) := Classical.propDecidable _
noncomputable def Qb3(m:cQ):Int:=if Jl m then 12 else if Qak m.fns m.fns.length∧RE m.cp m.cp.length then 0 else 4
theorem CG{α:Type}[BEq α][LawfulBEq α]{ks:List α}{k:α}:(dt (iU (ks++[k])) k).getD 0>1↔k∈ks:=by
 rw[Ga,List.count_append];have h1:[k].count k=1:=sI;rw[h1,←List.count_pos_iff (a:=k) (l:=ks)];omega
theorem Qb4{ks ks':List aM}{k:aM}(h:ks'=ks++[k]):ft (vK (iU ks)) k (vI ((dt (iU ks) k).getD 0+1))=vK (iU ks'):=by
 rw[Qe1,h,vD]
theorem Ln{α:Type}[BEq α][LawfulBEq α](ks:List α)(k:α):0≤(dt (iU ks) k).getD 0∧(dt (iU ks) k).getD 0≤ks.length:=by
 rw[Ga];have:=List.count_le_length (a:=k) (l:=ks);omega
def vN(l:List (Int×Int)):List (Int×Value):=l.map (fun p=>(p.1,vI p.2))
theorem Qb5(l:List (Int×Int))(s:Int):dt (vN l) s=(dt l s).map vI:=by
 induction l with
 |nil=>rfl
 |cons x r ih=>
  obtain⟨k,v⟩:=x;have e1:dt (vN ((k,v)::r)) s=match s==k with|true=>some (vI v)|false=>dt (vN r) s:=rfl
  have e2:dt ((k,v)::r) s=match s==k with|true=>some v|false=>dt r s:=rfl
  rw[e1,e2];cases s==k with
  |true=>rfl
  |false=>exact ih
theorem Lo(l:List (Int×Int))(s:Int):Vk false (dt (vN l) s) (vI 0)=vI ((dt l s).getD 0):=by
 rw[Qb5];cases dt l s<;>rfl
theorem Qfu(l:List (Int×Int))(s:Int)(n:Int):ft (vN l) s (vI n)=vN (ft l s n):=by
 induction l with
 |nil=>rfl
 |cons p r ih=>
  obtain⟨k,u⟩:=p;show(match s==k with|true=>(s,vI n)::vN r|false=>(k,vI u)::ft (vN r) s (vI n))=vN (match s==k with|true=>(s,n)::r|false=>(k,u)::ft r s n);cases s==k
  ·rw[ih];rfl
  ·rfl
theorem Qb6{ks ks':af}{k:Int}(h:ks'=ks++[k]):ft (vN (iU ks)) k (vI ((dt (iU ks) k).getD 0+1))=vN (iU ks'):=by
 rw[Qfu,h,vD]
def vW(d:bh)(j:Nat):Prop:=∀(i:Nat) (r:Int×aM),i<j→d.refs[i]?=some r→br r.2∧(0≤r.1∧r.1<(d.words.length:Int))∧r.1∉(d.refs.take i).map (·.1)
theorem wN(d:bh):vW d 0:=fun _ _ h=>absurd h (ee _)
theorem wO{d:bh}{j:Nat}{r:Int×aM}(h:vW d j)(hr:d.refs[j]?=some r)(h1:br r.2∧(0≤r.1∧r.1<(d.words.length:Int))∧r.1∉(d.refs.take j).map (·.1)):vW d (j+1):=fun i g hi hg=>by
 by_cases e:i=j
 ·subst e;rw[hr]at hg;injection hg with hg;subst hg;exact h1
 ·exact h i g oM hg
theorem RF{r:Int×aM}{n:Nat}{F:Prop}(c:(¬br r.2∨r.1<0)∨r.1≥(n:Int)):¬(br r.2∧(0≤r.1∧r.1<(n:Int))∧F):=fun⟨h1,h2,_⟩=>c.elim (fun c=>c.elim (fun c=>c h1) (fun c=>oM)) (fun c=>oM)
theorem RG{r:Int×aM}{n:Nat}{F:Prop}{k:Int}(RH:k>1↔F)(c:k>1):¬(br r.2∧(0≤r.1∧r.1<(n:Int))∧¬F):=fun⟨_,_,h⟩=>h (RH.1 c)
theorem Qim{r:Int×aM}{n:Nat}{F:Prop}{k:Int}(RH:k>1↔F)(c:¬((¬br r.2∨r.1<0)∨r.1≥(n:Int)))(c2:¬k>1):br r.2∧(0≤r.1∧r.1<(n:Int))∧¬F:=⟨ep.1 (fun h=>c (.inl (.inl h))),⟨Int.not_lt.1 (fun h=>c (.inl (.inr h))),by
  have:¬r.1≥(n:Int):=fun h=>c (.inr h)
  omega⟩,fun h=>c2 (RH.2 h)⟩
theorem Gy{d:bh}:ju d↔vW d d.refs.length∧br d.nm:=by
 constructor
 ·rintro⟨h1,h2⟩;exact⟨fun i r _ hr=>h1 i r hr,h2⟩
 ·rintro⟨h1,h2⟩;exact⟨fun i r hr=>h1 i r (List.getElem?_eq_some_iff.1 hr).1 hr,h2⟩
theorem Lp{d:bh}{j:Nat}{r:Int×aM}(hr:d.refs[j]?=some r)(h:¬(br r.2∧(0≤r.1∧r.1<(d.words.length:Int))∧r.1∉(d.refs.take j).map (·.1))):¬ju d:=fun hq=>h (hq.1 j r hr)
theorem um{l:List bh}{d:bh}(h:d∈l):d.words.length≤oD l:=by
 unfold oD;induction l with
 |nil=>cases h
 |cons x r ih=>
  simp only[ga,uo];rcases db.1 h with rfl|h
  ·omega
  ·have:=ih h;omega
end Go.Mor
namespace Go.Mor
open Go.RowKit
theorem RI{fn:Func}{N:FN}(vs:aO)(hn:Nat.beq fn.ntmps N.n=true:=by kernel_rfl)(hl:Nat.ble vs.length N.n=true:=by kernel_rfl)(hD:N.D=[]:=by rfl):Fr {tmps:=vs.toArray++Array.replicate (fn.ntmps-vs.toArray.size) undef,defers:=[]} N (Dr 0 vs):=by
 have hN:fn.ntmps=N.n:=iq hn;have hl':vs.length≤N.n:=sL hl;refine⟨hD.symm,by simp[hN];omega,?_⟩;intro t v hv;obtain⟨_,h2⟩:=rz vs 0 t hv;simp only[Nat.sub_zero]at h2;have ht:t<vs.length:=(List.getElem?_eq_some_iff.1 h2).1;rw[Array.getElem?_append_left (by simpa using ht)];simpa using h2
section
variable {P : Program} {c : Code} {w w0 : World} {S : Nat → Prop} {L : List bx} {k : Nat} {N : FN} {env : Env}
theorem RJ{Q:Exit→Act→List Frame→World→Prop}{a:Act}{cs:List Frame}(hF:Fr a N env)(h:∀a,Fr a N env→c.wpS P Q a cs w):c.wpS P Q a cs w:=h a hF
theorem RK{Q:Exit→Act→List Frame→World→Prop}{a:Act}{cs:List Frame}(hk:kind c= .seq)(h:(Code.l c).wpS P (Exit.thenS (fun a cs w=>(Code.r c).wpS P Q a cs w) Q) a cs w):c.wpS P Q a cs w:=by
 cases c<;>simp[kind]at hk;exact wpS_seq h
theorem RL{Q:Exit→Act→List Frame→World→Prop}{a:Act}{cs:List Frame}(h:W P c (fun a w=>Q .normal a cs w) (fun e a w=>Q e a cs w) a w):c.wpS P Q a cs w:=by
 refine wpS_of_wp ?_;refine wp_mono h ?_;intro e a w he;cases e<;>exact he
theorem CH{K:Act→List Frame→World→Prop}{Q:Exit→Act→List Frame→World→Prop}{a:Act}{cs:List Frame}(n:Nat)(hn:∀a w,¬Q .outgrown a cs w)(h:aV P c (fun a w=>K a cs w) (fun e a w=>Q e a cs w) k a w)(hs:Nat.ble (opsOf c).size (k+n)=true:=by kernel_rfl):n8 P c K Q k a cs w:=QN hn n k a w (sL hs) h
theorem Et{c0:Frame}{cs:List Frame}{v:Value}(h:c0.mode= .panicking [{v,recovered:=false}]):recoverD (c0::cs)=some (v,{c0 with mode:= .panicking [{v,recovered:=true}]}::cs):=by
 simp[recoverD,h]
theorem Eu{c0:Frame}{cs:List Frame}(h:c0.mode= .returning):recoverD (c0::cs)=none:=by
 simp[recoverD,h]
theorem Ew{K:Act→List Frame→World→Prop}{Q:Exit→Act→List Frame→World→Prop}{a:Act}{cs Vl:List Frame}{v:Value}(d:Option Nat)(ts:Array TypeId)(ty:Nat)(hr:recoverD cs=some (v,Vl))(h:n8 P c K Q (k+1) (a.put d v) Vl w)(hk:ay c k=some (d,.call {callee:= .builtin .recover,args:=#[],argTypes:=ts},ty,none):=by kernel_rfl):n8 P c K Q k a cs w:=by
 refine sy hk ?_;rw[hr];exact h
theorem BB{K:Act→List Frame→World→Prop}{Q:Exit→Act→List Frame→World→Prop}{a:Act}{cs:List Frame}(d:Option Nat)(ts:Array TypeId)(ty:Nat)(hr:recoverD cs=none)(h:n8 P c K Q (k+1) (a.put d .nilIface) cs w)(hk:ay c k=some (d,.call {callee:= .builtin .recover,args:=#[],argTypes:=ts},ty,none):=by kernel_rfl):n8 P c K Q k a cs w:=by
 refine sy hk ?_;rw[hr];exact h
theorem Nr{K:Act→List Frame→World→Prop}{Q:Exit→Act→List Frame→World→Prop}{a:Act}{cs Vl:List Frame}{v:Value}(n d:Nat)(ts:Array TypeId)(ty:Nat)(hF:Fr a N env)(hr:recoverD cs=some (v,Vl))(hn:∀a w,¬Q .outgrown a Vl w)(h:∀a,Fr a N (cO env (some d) v)→aV P c (fun a w=>K a Vl w) (fun e a w=>Q e a Vl w) 1 a w)(hk:ay c 0=some (some d,.call {callee:= .builtin .recover,args:=#[],argTypes:=ts},ty,none):=by kernel_rfl)(hd:gq (some d) N=true:=by kernel_rfl)(hs:Nat.ble (opsOf c).size (0+1+n)=true:=by kernel_rfl)(hc:kind c= .region false:=by kernel_rfl):c.wpS P (Exit.thenS K Q) a cs w:=Co hc (Ew (some d) ts ty hr (CH n hn (h _ (hF.put hd v)) hs) hk)
theorem Jm{K:Act→List Frame→World→Prop}{Q:Exit→Act→List Frame→World→Prop}{a:Act}{cs:List Frame}(n d:Nat)(ts:Array TypeId)(ty:Nat)(hF:Fr a N env)(hr:recoverD cs=none)(hn:∀a w,¬Q .outgrown a cs w)(h:∀a,Fr a N (cO env (some d) .nilIface)→aV P c (fun a w=>K a cs w) (fun e a w=>Q e a cs w) 1 a w)(hk:ay c 0=some (some d,.call {callee:= .builtin .recover,args:=#[],argTypes:=ts},ty,none):=by kernel_rfl)(hd:gq (some d) N=true:=by kernel_rfl)(hs:Nat.ble (opsOf c).size (0+1+n)=true:=by kernel_rfl)(hc:kind c= .region false:=by kernel_rfl):c.wpS P (Exit.thenS K Q) a cs w:=Co hc (BB (some d) ts ty hr (CH n hn (h _ (hF.put hd .nilIface)) hs) hk)
def taE(c:Code)(N:FN)(env:Env)(k:Nat):Option (Option Nat×Value×TypeId×TypeId):=match ay c k with
 |some (d,.typeAssert x xt t true,_,g)=>match bt c g env,gq d N,ev env x with
  |some true,true,some v=>some (d,v,xt,t)
  |_,_,_=>none
 |_=>none
theorem zta{K:Act→World→Prop}{Q:Exit→Act→World→Prop}(x:Value)(xt t:TypeId)(v:Value)(hr:∀w,(Instr.typeAssert x xt t true).run P w= .ok v w)(h:∀a,Fr a N (cO env (aQ c k) v)→aV P c K Q (k+1) a w)(hk:taE c N env k=some (aQ c k,x,xt,t):=by kernel_rfl):∀a,Fr a N env→aV P c K Q k a w:=fun a hF=>by
 unfold taE at hk;split at hk
 ·rename_i d0 x0 xt0 t0 ty g h0;split at hk
  ·rename_i v0 h1 h2 h3;simp only[cP,cF]at hk;obtain⟨hd,rfl,rfl,rfl⟩:=hk;rw[←hd]at h;refine eD h0 hF h1 h2 rfl (v:=v) (fun o ho=> ?_) (fun a' _ Fg=>h a' Fg);unfold execOp;rw[ho];simp[hF.ev h3,hr w]
  ·cases hk
 ·cases hk
theorem Qb7{t xt:TypeId}{fs:Array Field}(hu:P.underlying t=some (.struct fs))(v:Value)(w:World):(Instr.typeAssert (.iface t v) xt t true).run P w= .ok (.tuple #[v,.bool true]) w:=by
 simp[Instr.typeAssert,eY hu,Result.andThen]
theorem Qb8{t xt:TypeId}{fs:Array Field}{z:Value}(hu:P.underlying t=some (.struct fs))(hz:(P.info? t).map (·.zero)=some (some z))(w:World):(Instr.typeAssert .nilIface xt t true).run P w= .ok (.tuple #[z,.bool false]) w:=by
 cases hi:P.info? t with
 |none=>simp[hi]at hz
 |some i=>
  simp[hi]at hz;simp[Instr.typeAssert,eY hu,Result.andThen,zeroValue,typeInfo,hi,hz]
end
section
variable {P : Program} {c : Code} {K : Act → World → Prop} {Q : Exit → Act → World → Prop} {w : World} {k : Nat} {N : FN} {env : Env}
theorem wP{m:Bool}{a:Act}{d:Option Nat}{ty:Nat}{g:Option (Nat×Bool)}{ts:Array TypeId}{x y:Operand}(hk:ay c k=some (d,.call {callee:= .builtin (if m then .max else .min),args:=#[x,y],argTypes:=ts},ty,g))(hF:Fr a N env)(hg:bt c g env=some true)(hd:gq d N=true){kd:IntKind}{i j:Int}(hx:ev env x=some (.int kd i))(hy:ev env y=some (.int kd j))(z:Int)(hz:z=if m then max i j else min i j)(h:∀a,Fr a N (cO env d (.int kd z))→aV P c K Q (k+1) a w):aV P c K Q k a w:=by
 cases m
 ·refine y0 hk hF hg hd rfl hx hy z ?_ (fun a _ hF=>h a hF);rw[hz];simp only[m4,iP];split<;>omega
 ·refine QD hk hF hg hd rfl hx hy z ?_ (fun a _ hF=>h a hF);rw[hz];simp only[mn];split<;>omega
theorem zmx(d:Option Nat)(x y:Operand)(ts:Array TypeId)(ty:Nat)(kd:IntKind)(i j:Int)(h:∀a,Fr a N (cO env d (.int kd (max i j)))→aV P c K Q (k+1) a w)(hk:ay c k=some (d,.call {callee:= .builtin .max,args:=#[x,y],argTypes:=ts},ty,none):=by kernel_rfl)(hd:gq d N=true:=by kernel_rfl)(hx:ev env x=some (.int kd i):=by kernel_rfl)(hy:ev env y=some (.int kd j):=by kernel_rfl):∀a,Fr a N env→aV P c K Q k a w:=fun _ hF=>wP (m:=true) hk hF rfl hd hx hy _ rfl h
theorem zmn(d:Option Nat)(x y:Operand)(ts:Array TypeId)(ty:Nat)(kd:IntKind)(i j:Int)(h:∀a,Fr a N (cO env d (.int kd (min i j)))→aV P c K Q (k+1) a w)(hk:ay c k=some (d,.call {callee:= .builtin .min,args:=#[x,y],argTypes:=ts},ty,none):=by kernel_rfl)(hd:gq d N=true:=by kernel_rfl)(hx:ev env x=some (.int kd i):=by kernel_rfl)(hy:ev env y=some (.int kd j):=by kernel_rfl):∀a,Fr a N env→aV P c K Q k a w:=fun _ hF=>wP (m:=false) hk hF rfl hd hx hy _ rfl h
end
theorem RO.Qfv{S:Nat→Prop}{w:World}:RO S w (.rd none []):=⟨fun j v h=>by simp at h,fun g hg=>absurd rfl hg.1⟩
end Go.Mor
namespace Go.Mor
open Go.RowKit
theorem RO.all{S:Nat→Prop}{w:World}{l:List bx}(h:∀r,r∈l→RO S w r):RO S w (.all l):=⟨fun r hr=>(h r hr).1,fun g ⟨r,hr,hg⟩=>(h r hr).2 g hg⟩
theorem Mem.Qal{S:Nat→Prop}{w0 w:World}{r r':bx}{L:List bx}(h:Mem S w0 w (r::r'::L)):Mem S w0 w L:=⟨h.os,h.tape,h.output,h.size,h.kept,fun s hs=>h.own s (bT _ (bT _ hs)),h.apart.tail.tail⟩
def rb:ed Unit→Int×Int×cV
 | .ok _ s=>(1,0,s)
 | .stop k c s=>(k,c,s)
theorem Ns{α:Type}{g:ed α}{f:α→cV→ed Unit}{k c:Int}{s:cV}(h:g= .stop k c s):rb (g.bind f)=(k,c,s):=by rw[h];rfl
theorem Nt{α:Type}{g:ed α}{f:α→cV→ed Unit}{x:α}{s:cV}(h:g= .ok x s):rb (g.bind f)=rb (f x s):=by rw[h];rfl
theorem RO.mono{S:Nat→Prop}{w:World}{r r':bx}(h:RO S w r)(hh:r.holds w→r'.holds w)(hf:∀g,r'.fp g→r.fp g):RO S w r':=⟨hh h.1,fun g hg=>h.2 g (hf g hg)⟩
theorem RO.Ex{S:Nat→Prop}{w:World}{X:List bx}{r:bx}(h:RO S w (.pk X))(hr:r∈X):RO S w r:=⟨h.1.1 r hr,fun g hg=>h.2 g ⟨r,hr,hg⟩⟩
theorem Gz(n:Nat):List.replicate n (vI 0)=ints (List.replicate n 0):=by simp[ints]
theorem Mem.pk2{S:Nat→Prop}{w0 w:World}{X l L:List bx}(h:Mem S w0 w (.pk X::(l++L))):Mem S w0 w (.pk (X++l)::L):=by
 have h1:=h.unpack;rw[←en]at h1;exact h1.pack
theorem Mem.pk0{S:Nat→Prop}{w0 w:World}{L:List bx}(h:Mem S w0 w L):Mem S w0 w (.pk []::L):=Mem.pack (l:=[]) h
abbrev Out:=Int×Int×af×Int
def re(g:ed Unit):Out:=((rb g).1,(rb g).2.1,(rb g).2.2.out,(rb g).2.2.steps)
abbrev Qfw(o:Out)(oA:ao)(oc:Nat):Value:= .agg #[vI o.1,vI o.2.1,.slice oA o.2.2.1.length oc,vI o.2.2.2]
end Go.Mor
namespace Go.Mor
open Go.RowKit
end Go.Mor
namespace Go.Mor
open Go.RowKit
def Qin(ms:List cQ)(mem:Int)(inp:af)(j:Nat):Prop:=(mem<1∨mem>262144∨(inp.length:Int)>4096)∨∃(i:Nat) (m:cQ),i<j∧ms[i]?=some m∧Qb3 m≠0
noncomputable instance (ms : List cQ) (mem : Int) (inp : List Int) (j : Nat) : Decidable (Qin ms mem inp j) := Classical.propDecidable _
theorem CI{l:af}{N:Nat}(hn:l.Nodup)(hr:∀x,x∈l→0≤x∧x<(N:Int)):l.length≤N:=by
 have h:=List.Nodup.length_le_of_subset hn (l₂:=(List.range N).map (fun i:Nat=>(i:Int))) (fun x hx=>by obtain⟨h1,h2⟩:=hr x hx;exact bD.2 ⟨x.toNat,ew.2 oM,oM⟩)
 simpa using h
theorem Xm{d:bh}(hq:ju d)(hl:d.words.length≤16384):d.WF:=by
 have hn:(d.refs.map (·.1)).Nodup:=by
  refine qx.2 fun i j hi hj Z1 he=> ?_
  have FF:j<d.refs.length:=by simpa using hj
  obtain⟨r,hr⟩:=aY (l:=d.refs) (i:=j) FF;obtain⟨r',hr'⟩:=aY (l:=d.refs) (i:=i) oM;simp only[List.getElem_map]at he;have Rl:r'.1=r.1:=by rw[(List.getElem?_eq_some_iff.1 hr).2.symm,(List.getElem?_eq_some_iff.1 hr').2.symm];exact he
  have:=(hq.1 j r hr).2.2;apply this;rw[←Rl];refine bD.2 ⟨r',?_,rfl⟩;exact dv.2 ⟨i,by rw[List.getElem?_take_of_lt Z1];exact hr'⟩
 have hr:∀x,x∈d.refs.map (·.1)→0≤x∧x<(d.words.length:Int):=fun x hx=>by obtain⟨r,hr,rfl⟩:=bD.1 hx;obtain⟨i,hi⟩:=dv.1 hr;exact(hq.1 i r hi).2.1
 refine⟨hq.2,hl,?_,fun r hr=> ?_⟩
 ·have:=CI hn hr;rw[fi]at this;omega
 ·obtain⟨i,hi⟩:=dv.1 hr;exact(hq.1 i r hi).2.1
end Go.Mor
namespace Go.Mor
open Go.RowKit
end Go.Mor
namespace Go.Mor
open Go.RowKit
theorem lT{a b:aM}:a.toList=b.toList↔a=b:=by
 constructor
 ·intro h;rw[xY,xY]at h;exact QbE h
 ·intro h;rw[h]
section
variable {α κ : Type} {key : α → κ} {l : List α} {g f : α} {k j : Nat}
theorem RM(c:κ):c∉(l.take 0).map key:=sI
theorem RN{c:κ}(h:c∉(l.take k).map key)(hg:l[k]?=some g)(dN:¬key g=c):c∉(l.take (k+1)).map key:=by
 rw[iE,hg,di,bX];rintro(h1|h1)
 ·exact h h1
 ·simp at h1;exact dN h1.symm
theorem RQ{c:κ}(hk:k<j)(hg:l[k]?=some g)(he:key g=c):c∈(l.take j).map key:=by
 refine bD.2 ⟨g,?_,he⟩;exact bu (i:=k) (by rw[List.getElem?_take_of_lt hk];exact hg)
end
theorem RR{d:bh}(h:ju d):d.refs.length≤d.words.length:=by
 have hn:(d.refs.map (·.1)).Nodup:=by
  refine qx.2 fun i j hi hj Z1 he=> ?_
  have FF:j<d.refs.length:=by simpa using hj
  obtain⟨r,hr⟩:=aY (l:=d.refs) (i:=j) FF;obtain⟨r',hr'⟩:=aY (l:=d.refs) (i:=i) oM;simp only[List.getElem_map]at he;have Rl:r'.1=r.1:=by rw[(List.getElem?_eq_some_iff.1 hr).2.symm,(List.getElem?_eq_some_iff.1 hr').2.symm];exact he
  exact(h.1 j r hr).2.2 (RQ (key:=fun r:Int×aM=>r.1) Z1 hr' Rl)
 have hr:∀x,x∈d.refs.map (·.1)→0≤x∧x<(d.words.length:Int):=fun x hx=>by obtain⟨r,hr,rfl⟩:=bD.1 hx;obtain⟨i,hi⟩:=dv.1 hr;exact(h.1 i r hi).2.1
 have:=CI hn hr;rw[fi]at this;exact this
end Go.Mor
namespace Go.Mor
open Go.RowKit
structure kv where
 ov:Bool
 k:Int
 c:Int
 s:cV
 N:Int
 V:Int
def er(s:cV):cV:=⟨[],0,0,s.out,s.steps,0⟩
section
variable {α β : Type}
def ed.no(g:ed α):ed α:=match g with
 | .ok a s=> .ok a s
 | .stop k c s=> .stop k c (er s)
def fq(a b:ed α):Prop:=a.no=b.no
def kv.go(z:kv)(K:cV→ed α):ed α:=if z.ov then .stop z.k z.c z.s else K z.s
def kv.fin(z:kv)(k c:Int):kv:=if z.ov then z else {z with ov:=true,k:=k,c:=c}
variable {a b : ed α} {G : ed β} {z z' : kv} {A : cV → ed α} {K K' : cV → ed β} {F : α → cV → ed β} {x : α} {k c : Int}
theorem fq.bind(h:fq a b)(F:α→cV→ed β):fq (a.bind F) (b.bind F):=by
 unfold fq ed.no at h;cases a<;>cases b<;>simp only[ed.ok.injEq,ed.stop.injEq,reduceCtorEq]at h
 ·obtain⟨rfl,rfl⟩:=h;exact rfl
 ·obtain⟨rfl,rfl,h⟩:=h;show ed.stop _ _ (er _)=ed.stop _ _ (er _);rw[h]
theorem Lq:(z.go A).bind F=z.go fun s=>(A s).bind F:=by
 unfold kv.go;split<;>rfl
theorem s8(h:z.ov=false):z.go K=K z.s:=by unfold kv.go;rw[h];rfl
theorem uq(h:z.ov=true):z.go K= .stop z.k z.c z.s:=by unfold kv.go;rw[h];rfl
theorem fq.step(hr:fq G (z.go fun s=>(A s).bind F))(h:fq (z.go A) (z'.go (ed.ok x))):fq G (z'.go (F x)):=by
 have h2:=h.bind F;rw[Lq,Lq]at h2;exact Eq.trans hr h2
theorem fq.tail{A:cV→ed β}{x:β}(hr:fq G (z.go A))(h:fq (z.go A) (z'.go (ed.ok x))):fq G (z'.go (ed.ok x)):=Eq.trans hr h
theorem fq.Nu(h:z.ov=true)(hr:fq G (z.go K)):fq G (z.go K'):=by
 rw[uq h]at hr⊢;exact hr
theorem fq.H4(h:∀s,K s=K' s)(hr:fq G (z.go K)):fq G (z.go K'):=by
 have:K=K':=funext h;rw[←this];exact hr
theorem fq.to(hr:fq G (z.go K))(hz:z.ov=false)(hz':z'.ov=false)(h:K z.s=K' z'.s):fq G (z'.go K'):=by
 rw[s8 hz]at hr;rw[s8 hz',←h];exact hr
theorem Jn:(z.fin k c).ov=true:=by
 unfold kv.fin;cases h:z.ov
 ·rfl
 ·exact h
theorem RS(h:z.ov=true):z.fin k c=z:=by unfold kv.fin;rw[h];rfl
theorem Ls(h:z.ov=false):z.fin k c={z with ov:=true,k:=k,c:=c}:=by unfold kv.fin;rw[h];rfl
theorem zE:(z.fin k c).s=z.s:=by
 unfold kv.fin;cases z.ov<;>rfl
theorem fq.fin(hr:fq G (z.go K))(h:z.ov=false→fq (K z.s) (.stop k c z.s)):fq G ((z.fin k c).go K'):=by
 cases hz:z.ov with
 |true=>
  have e:z.fin k c=z:=by unfold kv.fin;rw[hz];rfl
  rw[e];exact hr.Nu hz
 |false=>
  have e:z.fin k c={z with ov:=true,k:=k,c:=c}:=by unfold kv.fin;rw[hz];rfl
  rw[e,uq rfl];rw[s8 hz]at hr;exact Eq.trans hr (h hz)
theorem fq.Xn(h:fq (z.go A) (z'.go (ed.ok x)))(hz:z'.ov=false):z.ov=false∧A z.s= .ok x z'.s:=by
 rw[s8 hz]at h;cases hv:z.ov with
 |true=>rw[uq hv]at h;unfold fq ed.no at h;cases h
 |false=>
  rw[s8 hv]at h;refine⟨rfl,?_⟩;unfold fq ed.no at h;cases hA:A z.s with
  |ok y s=>rw[hA]at h;exact h
  |stop k c s=>rw[hA]at h;cases h
end
theorem Lt(x:Int):In64 (IntKind.i64.wrap x):=by
 have h:∀m:Int,0≤m→m<18446744073709551616→In64 (if 9223372036854775808≤m then m-18446744073709551616 else m):=fun m h0 h1=>by
  unfold In64;by_cases hm:9223372036854775808≤m
  ·rw[bC hm];omega
  ·rw[aB hm];omega
 have h2:=h (x % 18446744073709551616) oM oM;unfold IntKind.wrap;simpa[IntKind.signed,IntKind.bits]using h2
theorem ur{n:Int}(h0:0≤n)(h1:n≤9223372036854775807):In64 n:=⟨oM,h1⟩
theorem kS:In64 0:=⟨dQ,dQ⟩
theorem GA(b:Bool):In64 (dg b):=by cases b<;>exact⟨dQ,dQ⟩
theorem Xo{a b:Int}(h:In64 a):In64 (a.tmod b):=by
 unfold In64 at*;have h2:(a.tmod b).natAbs≤a.natAbs:=by rw[Int.natAbs_tmod];exact Nat.mod_le _ _
 by_cases h0:0≤a
 ·have:=Int.tmod_nonneg b h0;omega
 ·have h3:=Int.tmod_nonneg b (show 0≤-a by omega);rw[Int.neg_tmod]at h3;omega
theorem Xp{a:Int}{n:Nat}(h:In64 a):In64 (a.fdiv (2^n)):=by
 unfold In64 at*;have hp:(1:Int)≤2^n:=by have:(1:Nat)≤2^n:=Nat.one_le_two_pow;exact_mod_cast this
 rw[Int.fdiv_eq_ediv_of_nonneg _ oM];by_cases h0:0≤a
 ·have h1:=Int.ediv_le_self (2^n:Int) h0;have h2:0≤a / 2^n:=Int.ediv_nonneg h0 oM;omega
 ·have h1:a / 2^n<0:=Int.ediv_lt_of_lt_mul oM oM;have h2:a≤a / 2^n:=by rw[Int.le_ediv_iff_mul_le oM];have h4:=Int.mul_le_mul_of_nonneg_left hp (show 0≤-a by omega);rw[Int.neg_mul,Int.neg_mul]at h4;omega
  omega
theorem Lu{P:Prop}[Decidable P]{p q:Int×Int}(hp:In64 p.1)(hq:In64 q.1):In64 (if P then p else q).1:=by
 split
 ·exact hp
 ·exact hq
theorem Qb9{op a b:Int}(ha:In64 a):In64 (cA op a b).1:=by
 unfold cA kL DV;repeat' apply Lu
 all_goals first|exact Lt _|exact kS|exact GA _|exact Xo ha|exact Xp ha
theorem Qfx{op a:Int}:In64 (oL op a).1:=by
 unfold oL;repeat' apply Lu
 all_goals first|exact Lt _|exact kS|exact GA _
def LI(l:af):Prop:=∀x,x∈l→In64 x
def MI(s:cV):Prop:=LI s.mem∧0≤s.next∧s.next≤262144
theorem gdI{l:af}(h:LI l)(i:Nat):In64 (l.getD i 0):=by
 by_cases hi:i<l.length
 ·have:l.getD i 0=l[i]:=by simp[List.getD,hi]
  rw[this];exact h _ (qH hi)
 ·have:l.getD i 0=0:=by simp[List.getD,hi]
  rw[this];exact kS
theorem zF{l:af}{i:Nat}{v:Int}(h:LI l)(hv:In64 v):LI (l.set i v):=fun x hx=>by
 rcases Iv hx with h1|h1
 ·exact h x h1
 ·rw[h1];exact hv
def KI{α:Type}(p:α→Prop)(s:cV)(g:ed α):Prop:=MI s→∀x s',g= .ok x s'→MI s'∧p x
section
variable {α β : Type} {p : α → Prop} {q : β → Prop} {s s2 : cV}
theorem KI.bind{g:ed α}{f:α→cV→ed β}(h:KI p s g)(hf:∀x s2,p x→KI q s2 (f x s2)):KI q s (g.bind f):=by
 intro hs x s' he;cases hg:g with
 |ok y s2=>
  rw[QJ hg]at he;obtain⟨h1,h2⟩:=h hs y s2 hg;exact hf y s2 h2 h1 x s' he
 |stop k c s2=>rw[IV hg]at he;cases he
theorem KI.ok{x:α}(hm:MI s→MI s2)(h:p x):KI p s (.ok x s2):=fun hs y s' he=>by injection he with h1 h2;rw[←h1,←h2];exact⟨hm hs,h⟩
theorem KI.stop{k c:Int}:KI p s (.stop k c s2:ed α):=fun _ y s' he=>by cases he
theorem KI.ite{P:Prop}[Decidable P]{a b:ed α}(ha:P→KI p s a)(hb:¬P→KI p s b):KI p s (if P then a else b):=by
 split
 ·exact ha ‹_›
 ·exact hb ‹_›
theorem KI.same{g:ed α}(hm:MI s→MI s2)(h:KI p s2 g):KI p s g:=fun hs=>h (hm hs)
end
section
variable {E : Wu} {s : cV} {loc : List Int}
theorem Lv{E:Env0}{s:cV}:KI (fun _=>True) s (eN E s):=by
 unfold eN;exact .ite (fun _=> .stop) (fun _=> .ok id trivial)
end
end Go.Mor
namespace Go.Mor
open Go.RowKit
section
variable {E : Wu} {loc : List Int}
theorem Qam{l:af}(h:LI l):In64 (a0 l):=gdI h 0
theorem Xq{l:af}(h:LI l):LI l.tail:=fun x hx=>h x (List.mem_of_mem_tail hx)
end
def tA(E:Env0)(z:kv)(b:Int)(L:af):Prop:=z.ov=true∨(E.fuel-z.s.steps<b∧MI z.s∧(0≤z.s.opened∧z.s.opened≤1200)∧LI L)
section
variable {α : Type} {E : Env0} {z z' : kv} {b : Int} {L L' : List Int} {A : cV → ed α} {x : α} {p : α → Prop}
theorem tA.DS(h:tA E z b L){b':Int}(hb:b≤b')(hL:∀x,x∈L'→x∈L∨In64 x):tA E z b' L':=h.imp id fun⟨h1,h2,h3,h4⟩=>⟨oM,h2,h3,fun x hx=>(hL x hx).elim (h4 x) id⟩
theorem tA.call(h:tA E z b L)(hk:QK z.s (A z.s))(hi:LI L→KI p z.s (A z.s))(he:fq (z.go A) (z'.go (ed.ok x)))(hL:LI L→p x→LI L'):tA E z' b L':=by
 cases hz:z'.ov with
 |true=>exact .inl hz
 |false=>
  obtain⟨h1,h2⟩:=he.Xn hz;rcases h with h|⟨h3,h4,h5,h6⟩
  ·rw[h]at h1;cases h1
  ·obtain⟨h7,h8⟩:=hk _ _ h2;obtain⟨h9,FV⟩:=hi h6 h4 _ _ h2;exact .inr ⟨oM,h9,by rw[h8];exact h5,hL h6 FV⟩
theorem tA.in_(h:tA E z b L)(hz:z.ov=false){x:Int}(hx:x∈L):In64 x:=by
 rcases h with h|h
 ·rw[h]at hz;cases hz
 ·exact h.2.2.2 x hx
theorem tA.run(h:tA E z b L)(hz:z.ov=false):E.fuel-z.s.steps<b∧MI z.s∧(0≤z.s.opened∧z.s.opened≤1200)∧LI L:=by
 rcases h with h|h
 ·rw[h]at hz;cases hz
 ·exact h
end
section
variable {E : Wu} {z z' : kv} {b : Int} {loc L : List Int} {g : Nat}
theorem tA.step(h:tA E.toEnv0 z (b+1) L)(hz:z'.ov=false)(he:fq (z.go (eN E.toEnv0)) (z'.go (ed.ok ()))):tA E.toEnv0 z' b L:=by
 obtain⟨h1,h2⟩:=he.Xn hz;obtain⟨h3,h4,h5,h6⟩:=h.run h1;have h7:=Gw h2;unfold eN at h2;split at h2
 ·cases h2
 ·injection h2 with _ h2;refine .inr ⟨by omega,?_,by rw[h7.2];exact h5,h6⟩;rw[←h2];exact h4
end
end Go.Mor
namespace Go.Mor
open Go.RowKit
def vX{α:Type}(key:α→aM)(l:List α)(nm:aM)(j:Nat):Prop:=∀i x,i<j→l[i]?=some x→key x≠nm
section
variable {α : Type} {key : α → ByteArray} {l : List α} {nm : ByteArray} {j : Nat} {x : α}
theorem vX.zero:vX key l nm 0:=fun i _ hi=>absurd hi (ee i)
theorem vX.next(h:vX key l nm j)(hx:l[j]?=some x)(hc:¬(key x).toList=nm.toList):vX key l nm (j+1):=fun i y hi hy=>by
 by_cases e:i=j
 ·subst e;rw[hx]at hy;injection hy with hy;subst hy;exact fun h=>hc (by rw[h])
 ·exact h i y oM hy
end
theorem rQ{nm:aM}{v:Int}:∀(l:List (aM×Int)) (j:Nat),l[j]?=some (nm,v)→vX (·.1) l nm j→dt l nm=some v
 |[],j,h,_=>by simp at h
 |(k,u)::r,0,h,_=>by simp only[List.getElem?_cons_zero,cP,cF]at h;obtain⟨rfl,rfl⟩:=h;unfold dt;rw[BEq.rfl]
 |(k,u)::r,j+1,h,hn=>by have h0:=hn 0 (k,u) oM rfl;unfold dt;rw[mJ.2 (fun e=>h0 e.symm)];exact rQ r j (by simpa using h) (fun i x hi hx=>hn (i+1) x oM (by simpa using hx))
theorem Jo{nm:aM}{l:List (aM×Int)}(h:vX (·.1) l nm l.length):dt l nm=none:=F6 fun hm=>by
 obtain⟨p,hp,he⟩:=bD.1 hm;obtain⟨i,hi⟩:=dv.1 hp;exact h i p (List.getElem?_eq_some_iff.1 hi).1 hi he
section
variable {cs : List tw} {ds : List bh} {j : Nat} {f : tw} {d : bh} {nm : ByteArray}
theorem CJ:(jd cs cs.length)[j]?=(cs[j]?).map fun f=>(f.nm,((j+1:Nat):Int)):=by
 unfold jd;rw[gg,List.getElem?_map,List.getElem?_zipIdx];cases cs[j]?<;>simp
theorem s9:(bz ds ds.length)[j]?=(ds[j]?).map fun d=>(d.nm,(ar ds j:Int)):=by
 unfold bz;rw[gg,List.getElem?_map,List.getElem?_zipIdx];cases ds[j]?<;>simp
theorem RT(h:vX tw.nm cs nm j):vX (·.1) (jd cs cs.length) nm j:=fun i p hi hp=>by
 rw[CJ]at hp;cases hc:cs[i]? with
 |none=>rw[hc]at hp;cases hp
 |some f=>
  rw[hc]at hp;simp only[gC,cP]at hp;rw[←hp];exact h i f hi hc
theorem RU(h:vX bh.nm ds nm j):vX (·.1) (bz ds ds.length) nm j:=fun i p hi hp=>by
 rw[s9]at hp;cases hc:ds[i]? with
 |none=>rw[hc]at hp;cases hp
 |some f=>
  rw[hc]at hp;simp only[gC,cP]at hp;rw[←hp];exact h i f hi hc
theorem Qca(hf:cs[j]?=some f)(he:f.nm.toList=nm.toList)(h:vX tw.nm cs nm j):dt (jd cs cs.length) nm=some ((j+1:Nat):Int):=by
 exact rQ _ j (by rw[CJ,hf];simp only[gC,lT.1 he]) (RT h)
theorem RW(hf:ds[j]?=some d)(he:d.nm.toList=nm.toList)(h:vX bh.nm ds nm j):dt (bz ds ds.length) nm=some (ar ds j:Int):=rQ _ j (by rw[s9,hf];simp only[gC,lT.1 he]) (RU h)
theorem RY(h:vX tw.nm cs nm cs.length):dt (jd cs cs.length) nm=none:=by
 refine Jo ?_;have:(jd cs cs.length).length=cs.length:=by unfold jd;simp
 rw[this];exact RT h
theorem GB(h:vX bh.nm ds nm ds.length):dt (bz ds ds.length) nm=none:=by
 refine Jo ?_;have:(bz ds ds.length).length=ds.length:=by unfold bz;simp
 rw[this];exact RU h
end
theorem yq{x:Int}(h:In64 x):IntKind.i64.wrap x=x:=yI x h
theorem RZ{x:Int}(h:9223372036854775807<x)(h2:x≤9223372041149743103):IntKind.i64.wrap x=x-18446744073709551616:=by
 have e:x % 18446744073709551616=x:=Int.emod_eq_of_lt oM oM;unfold IntKind.wrap;simp only[IntKind.signed,IntKind.bits,y4];show(if decide (x % 18446744073709551616≥9223372036854775808)=true then x % 18446744073709551616-18446744073709551616 else x % 18446744073709551616)=_;rw[e,bC (by rw[aE];omega)]
theorem R0{a n:Int}{s:cV}(h1:¬a< -2147483647)(h2:¬a>s.next)(h3:¬a+n<1)(h4:¬a+n≥s.next)(hn:s.next≤262144):AU (IntKind.i64.wrap (a+n)) s= .ok (a+n).toNat s:=by
 rw[yq ⟨oM,oM⟩];unfold AU;rw[aB oM]
theorem Xr{a n:Int}{s:cV}(ha:In64 a)(h0:0≤n)(h1:n≤2147483647)(h:a< -2147483647∨a>s.next∨a+n<1∨a+n≥s.next)(hs:1≤s.next)(hn:s.next≤262144):AU (IntKind.i64.wrap (a+n)) s= .stop 5 0 s:=by
 have Li:=ha.1;have Gq:=ha.2;unfold AU;by_cases hb:a+n≤9223372036854775807
 ·rw[yq ⟨oM,hb⟩,bC oM]
 ·rw[RZ oM oM,bC oM]
def gT(ds:List bh)(j:Nat):af:=(List.range j).map fun i=>(ar ds i:Int)
theorem GC{ds:List bh}{j:Nat}:(gT ds j).length=j:=by unfold gT;simp
theorem uu{ds:List bh}{j i:Nat}(h:i<j):(gT ds j)[i]?=some (ar ds i:Int):=by
 unfold gT;rw[List.getElem?_map,List.getElem?_range h];rfl
theorem Nv{ds:List bh}{j:Nat}:gT ds j++[(ar ds j:Int)]=gT ds (j+1):=by
 unfold gT;rw[sS,di];rfl
def Nw(op a b:Int)(s:cV):ed Int:=if(cA op a b).2=0 then .ok (cA op a b).1 s else .stop 2 (cA op a b).2 s
section
variable {op a b : Int}
theorem R1(h:op=4∨op=5)(hb:b=0):cA op a b=(0,3):=by rw[qO h,Ci hb]
theorem R2(h:op=4)(hb:b= -1):cA op a b=(IntKind.i64.wrap (0-a),0):=by rw[qO (.inl h),Cj hb h]
theorem R3(h:op=5)(hb:b= -1):cA op a b=(0,0):=by rw[qO (.inr h),Ck hb oM]
theorem R4(h:op=4)(h1:b≠0)(h2:b≠-1):cA op a b=(IntKind.i64.wrap (a.tdiv b),0):=by rw[qO (.inl h),Cl h1 h2 h]
theorem R5(h:op=5)(h1:b≠0)(h2:b≠-1):cA op a b=(a.tmod b,0):=by rw[qO (.inr h),Cm h1 h2 oM]
end
theorem Lw(b:Int):IntKind.u64.wrap (tV b 63)=tW b:=by
 have h63:(BitVec.ofInt 64 63).toNat=63:=dQ;have hw:BitVec.ofInt 64 (IntKind.u64.wrap b)=BitVec.ofInt 64 b:=by
  apply yV;have e:IntKind.u64.wrap b=b % 18446744073709551616:=by unfold IntKind.wrap;simp[IntKind.signed,IntKind.bits]
  rw[e];simp only[BitVec.toNat_ofInt];congr 1;exact Int.emod_emod_of_dvd b dQ
 unfold tW tV;rw[hw];generalize hx:(BitVec.ofInt 64 b&&&BitVec.ofInt 64 63).toNat=x;have hle:x≤63:=by rw[←hx,BitVec.toNat_and,h63];exact Nat.and_le_right
 rw[yq ⟨oM,oM⟩]
theorem R6{l:List (aM×Int)}{nm:aM}(h:(dt l nm).getD 0=0)(hn:∀n,dt l nm=some n→1≤n):dt l nm=none:=by
 cases hq:dt l nm with
 |none=>rfl
 |some n=>
  have:=hn n hq;rw[hq]at h;have h2:n=0:=h;omega
theorem R7{l:af}(h:0<l.length):a0 l∈l:=by
 cases l with
 |nil=>cases h
 |cons x r=>exact cJ ..
end Go.Mor
namespace Go.Proofs.YtjekgaabcigphaaGreat
open Go.Mor
theorem rf(r:Nat)(k c:Int)(w:World):Calls Tryz.prog 51 #[pT r 0,vI k,vI c] w (gK (fun _ _=>False) (fun v w'=>v=zo k c∧Mem aX w w' [])):=by
 refine AR 10 [pT r 0,vI k,vI c] Tryz.func51 ?_;have hM:=Mem.init w;refine cN<|ae 4<|zpa 106 (.agg #[vI k,vI c]) ?_;exact fun a_ mw=>zf mw ⟨rfl,hM⟩
theorem uv(r:Nat)(w:World):Calls Tryz.prog 49 #[pT r 0,vB true] w (gK (fun _ _=>False) (fun v w'=>v=zo 5 0∧Mem aX w w' [])):=by
 refine AR 7 [pT r 0,vB true] Tryz.func49 ?_;have hM:=Mem.init w;refine aW<|fY<|cN<|ae 1<|uV (rf r 5 0 w) (fun _ yr ⟨lU,mM⟩ a_ mw=>by subst lU;exact zf mw (⟨rfl,(hM.cl mM)⟩)) ?_;rintro _ w1 h_;exact h_.elim
theorem uw(r:Nat)(w:World):Calls Tryz.prog 49 #[pT r 0,vB false] w (gK (fun v w'=>v= .tuple #[]∧Mem aX w w' []) (fun _ _=>False)):=by
 refine AR 7 [pT r 0,vB false] Tryz.func49 ?_;have hM:=Mem.init w;refine aW<|gE<|bN<|xo0 ?_;exact⟨rfl,hM⟩
theorem yt(r:Nat)(b:Bool)(w:World):Calls Tryz.prog 49 #[pT r 0,.bool b] w (gK (fun v w'=>b=false∧v= .tuple #[]∧Mem aX w w' []) (fun v w'=>b=true∧v=zo 5 0∧Mem aX w w' [])):=by
 cases b
 ·exact gK.DS (uw r w) (fun v w' h=>⟨rfl,h⟩) (fun _ _ h=>h.elim)
 ·exact gK.DS (uv r w) (fun _ _ h=>h.elim) (fun v w' h=>⟨rfl,h⟩)
end Go.Proofs.YtjekgaabcigphaaGreat
namespace Go.Proofs.YtjekgaabcigphaaGreat
open Go.Mor
theorem R8(C:RC)(s:cV)(oA:ao)(oc:Nat)(w:World)(hC:C.WF)(hG:dR C s)(hR:(bx.pk (dV C s oA oc)).holds w):gQ Tryz.prog C s oA oc w 103 [pT C.r 0] QeX (eN C.E s):=by
 have g1:=hG.s1;have g2:=hG.s2;have g3:=hC.fuel;refine AR 20 [pT C.r 0] Tryz.func103 ?_;have hM:=Mem.jS hR;refine aU<|aU ?_;obtain⟨B1,jw⟩:∃B:Bool,B=(s.steps==C.E.fuel):=⟨_,rfl⟩;refine cU [0] ?_;intro aC fr;refine mi (aP [eR C.r 0,eR C.r 0,eR C.r 9,eI s.steps,eR C.r 0,eR C.r 0,eR C.r 8,eI C.E.fuel,eB B1]) fr (la (lk lz dP dP dP (dL (ah C.r 9) _ fun w_ hK=>(aa ((hM.an hK).get 0 rfl) rfl)) dP dP dP (dL (ah C.r 8) _ fun w_ hK=>(aa ((hM.an hK).get 0 rfl) rfl))) (dC (s.steps==C.E.fuel) jw)) ?_;intro aC w6 vs hK hv fr;revert aC;refine bQ [(0,pT C.r 0),(10,vB B1)] ?_;have M7:=hM.an hK;clear hK hv fr aC hM;clear vs;have qk:B1=true↔((s.steps:Int)=C.E.fuel):=by rw[jw];simp only[ax]
 clear jw;refine eF B1 ((s.steps:Int)=C.E.fuel) qk (fun c8=> ?_) (fun c8=> ?_);refine cN<|ae 1<|uV (rf C.r 0 0 w6) (fun _ yr ⟨lU,mM⟩ a_ mw=>by subst lU;exact zf mw (⟨_,_,s,oA,oc,Ws oM,rfl,hG,(M7.cl mM)⟩)) ?_;rintro _ w9 h_;exact h_.elim;refine bN<|cN<|ae 3<|bB (ah C.r 9) _ (aa (M7.get 0 rfl) rfl)<|dw (s.steps+1)<|ae 2<|sV (ho:=sI) M7 0 9 (vI (s.steps+1)) rfl fun zA eh=> ?_
 replace eh:=eh.nf;refine au<|xo0 ?_;exact⟨(),{s with steps:=s.steps+1},oA,oc,QI oM,rfl,hG.step oM,eh⟩
theorem Qcb(C:RC)(s:cV)(oA:ao)(oc:Nat)(w:World)(n:Int)(hG:dR C s)(Jp:RO aX w (.aL C.r 60 (fB C s oA oc))):Calls Tryz.prog 48 #[pT C.r 0,vI n] w (gK (fun v w'=>(1≤n∧n<s.next)∧v= .pointer (some (aN (aZ C.mG) n 1))∧Mem aX w w' []) (fun v w'=>(n<1∨n≥s.next)∧v=zo 5 0∧Mem aX w w' [])):=by
 have g1:=hG.n2;refine AR 23 [pT C.r 0,vI n] Tryz.func48 ?_;have hM:=Mem.init w;refine aW<|aG<|ae 4 ?_;obtain⟨B1,jw⟩:∃B:Bool,B=decide ((n:Int)<1):=⟨_,rfl⟩;refine bQ [(0,pT C.r 0),(1,vI n),(5,pT C.r 0),(8,(vB (decide ((n:Int)<1))))] ?_;rw[←jw];have qk:B1=true↔((n:Int)<1):=by rw[jw];simp only[aE]
 clear jw;intro aC fr;refine cE 4 8 [9,12] fr (news:=[(9,cond (!B1) (vI n) undef),(12,cond (!B1) (pT C.r 5) undef)]) (by cases B1<;>kernel_rfl) ?_;intro aC fr;refine az (B:=(!B1)) (d:=(some 13)) (vI s.next) fr (by cases B1<;>kernel_rfl) (fun hB hh=> ?_) ?_;cases B1<;>first|(exact absurd hB dQ)|skip
 have c1:¬((n:Int)<1):=jv qk.2;exact bq (some 13) (ah C.r 5) fr kR (vI s.next) (aa (hM.ro Jp) rfl) hh;intro aC fr;refine cE 2 11 [15] fr (news:=[(15,(vB (B1||decide ((n:Int)≥s.next))))]) (by cases B1<;>kernel_rfl) ?_;intro aC fr;obtain⟨o8,qf⟩:∃B:Bool,B=(B1||decide ((n:Int)≥s.next)):=⟨_,rfl⟩;revert aC;refine bQ [(0,pT C.r 0),(1,vI n),(5,pT C.r 0),(15,(vB (B1||decide ((n:Int)≥s.next))))] ?_;rw[←qf];have vY:o8=true↔(((n:Int)<1)∨((n:Int)≥s.next)):=by rw[qf];simp only[cg,aE,qk]
 clear qf;refine cU [0,1,5,15]<|uV (yt C.r o8 w) (fun _ yr ⟨Ey,lU,mM⟩ a_ mw=>by subst lU;have Xt:(((n:Int)<1)∨((n:Int)≥s.next)):=vY.1 Ey;exact zf mw (⟨Xt,rfl,(hM.cl mM)⟩)) ?_;rintro _ I4 ⟨Ey,rfl,qj⟩;have mQ:=hM.cl qj;clear qj hM;have Xt:¬(((n:Int)<1)∨((n:Int)≥s.next)):=fun h_=>Bool.noConfusion ((vY.2 h_).symm.trans Ey)
 clear Ey;refine au<|aG<|ae 3<|bB (ah C.r 4) _ (aa (mQ.ro Jp) rfl)<|ae 1<|eM (aZ C.mG) C.E.memN 1 n<|ae 1<|au<|bG<|DT (vP (aN (aZ C.mG) (n) 1)) ?_;exact⟨oM,rfl,mQ⟩
end Go.Proofs.YtjekgaabcigphaaGreat
namespace Go.Proofs.YtjekgaabcigphaaGreat
open Go.Mor
theorem R9(C:RC)(s:cV)(oA:ao)(oc:Nat)(w:World)(hC:C.WF)(hG:dR C s)(hR:(bx.pk (dV C s oA oc)).holds w)(call:Int→af→cV→ed Int)(i:cH)(l:af)(aA:ao)(ac:Nat)(hl:RO (rS C s oA oc) w (.rd aA (ints l)))(ma:i.op=1):gQ Tryz.prog C s oA oc w 14 [pT C.r 0,iG i,vS aA l.length ac] oV (bU C.E call i l s):=by
 have g2:=hG.n2;have g3:=hG.n1;have g4:=hG.mem;have g5:=hC.mem;refine AR 9 [pT C.r 0,iG i,vS aA l.length ac] Tryz.func14 ?_;have hM:=Mem.jS hR;refine aG<|lO hM 42 (iG i) (iV i) fun b1 w2 iW M3=> ?_
 replace M3:=M3.nf;clear hM;refine ae 1<|au<|aG<|ae 1<|bB (ah b1 2) _ (aa (M3.get 3 rfl) rfl)<|ae 1<|au<|bG<|DT (vI i.n) ?_;exact⟨i.n,s,oA,oc,DW ma,rfl,hG,M3.tk 3⟩
theorem Sa(C:RC)(s:cV)(oA:ao)(oc:Nat)(w:World)(hC:C.WF)(hG:dR C s)(hR:(bx.pk (dV C s oA oc)).holds w)(call:Int→af→cV→ed Int)(i:cH)(l:af)(aA:ao)(ac:Nat)(hl:RO (rS C s oA oc) w (.rd aA (ints l)))(ma:i.op=12)(hlen:l.length=1):gQ Tryz.prog C s oA oc w 25 [pT C.r 0,iG i,vS aA l.length ac] oV (bU C.E call i l s):=by
 have g2:=hG.n2;have g3:=hG.n1;have g4:=hG.mem;have g5:=hC.mem;refine AR 10 [pT C.r 0,iG i,vS aA l.length ac] Tryz.func25 ?_;have hM:=Mem.jS hR;refine aG<|lO hM 42 (iG i) (iV i) fun b1 w2 iW M3=> ?_
 replace M3:=M3.nf;clear hM;refine ae 1<|au<|aG<|ae 1 ?_;obtain⟨jK,rfl⟩:=ek (M3.ro hl) oM;refine eM jK l.length 1 0<|bB (aN jK (0:Int) 1) _ (cY (M3.ro hl) rfl oM oM)<|ae 1<|au<|bG<|DT (vI (a0 l)) ?_;exact⟨a0 l,s,oA,oc,ya ma,rfl,hG,M3.tk 3⟩
theorem Qcc(C:RC)(s:cV)(oA:ao)(oc:Nat)(w:World)(hC:C.WF)(hG:dR C s)(hR:(bx.pk (dV C s oA oc)).holds w)(call:Int→af→cV→ed Int)(i:cH)(l:af)(aA:ao)(ac:Nat)(hl:RO (rS C s oA oc) w (.rd aA (ints l)))(ma:i.op=2)(hlen:l.length=1):gQ Tryz.prog C s oA oc w 15 [pT C.r 0,iG i,vS aA l.length ac] oV (bU C.E call i l s):=by
 have g2:=hG.n2;have g3:=hG.n1;have g4:=hG.mem;have g5:=hC.mem;refine AR 17 [pT C.r 0,iG i,vS aA l.length ac] Tryz.func15 ?_;have hM:=Mem.jS hR;refine aG<|lO hM 42 (iG i) (iV i) fun b1 w2 iW M3=> ?_
 replace M3:=M3.nf;clear hM;refine ae 1<|au<|aU ?_;obtain⟨jK,rfl⟩:=ek (M3.ro hl) oM;refine cU [0,2,4] ?_;intro aC fr;refine mE 7 (aP [eR C.r 0,eS (some jK) l.length ac,eA jK (0:Int) 1,eI (a0 l),eR b1 2,eI i.n,eI (IntKind.i64.wrap (a0 l+i.n))]) fr (oh (qh lz dP dP (dI jK l.length 1 0) (dL (aN jK (0:Int) 1) _ fun w_ hK=>(cY ((M3.an hK).ro hl) rfl oM oM)) dP) (dL (ah b1 2) _ fun w_ hK=>(aa ((M3.an hK).get 3 rfl) rfl)) (dB .i64 (IntKind.i64.wrap (a0 l+i.n)) i.n)) ?_;intro aC w9 vs hK hv fr;revert aC;refine bQ [(7,pT C.r 0),(13,vI (IntKind.i64.wrap (a0 l+i.n)))] ?_;have ia:=M3.an hK;clear hK hv fr aC M3;clear vs;refine uV (Qcb C s oA oc w9 (IntKind.i64.wrap (a0 l+i.n)) hG (ia.df 0 rfl)) (fun _ yr ⟨hr_,lU,mM⟩ a_ mw=>by subst lU;exact zf mw (⟨_,_,s,oA,oc,by rw[vq ma,F3 oM];rfl,rfl,hG,(ia.cl mM).tk 3⟩)) ?_;rintro _ I4 ⟨cr11,rfl,qj⟩;have mQ:=ia.cl qj;refine ae 1<|bB (aN (aZ C.mG) (IntKind.i64.wrap (a0 l+i.n)) 1) _ (cY (aF (mQ.get 1 rfl)) rfl oM oM)<|ae 1<|au<|bG<|DT (vI (s.mem.getD ((IntKind.i64.wrap (a0 l+i.n))).toNat 0)) ?_;exact⟨_,s,oA,oc,by rw[vq ma,QH oM];rfl,rfl,hG,mQ.tk 3⟩
theorem Xu(C:RC)(s:cV)(oA:ao)(oc:Nat)(w:World)(hC:C.WF)(hG:dR C s)(hR:(bx.pk (dV C s oA oc)).holds w)(call:Int→af→cV→ed Int)(i:cH)(l:af)(aA:ao)(ac:Nat)(hl:RO (rS C s oA oc) w (.rd aA (ints l)))(ma:i.op=11)(hlen:l.length=1):gQ Tryz.prog C s oA oc w 24 [pT C.r 0,iG i,vS aA l.length ac] oV (bU C.E call i l s):=by
 have g2:=hG.n2;have g3:=hG.n1;have g4:=hG.mem;have g5:=hC.mem;refine AR 15 [pT C.r 0,iG i,vS aA l.length ac] Tryz.func24 ?_;have hM:=Mem.jS hR;refine aG<|lO hM 42 (iG i) (iV i) fun b1 w2 iW M3=> ?_
 replace M3:=M3.nf;clear hM;refine ae 1<|au<|aU<|aG<|ae 1 ?_;obtain⟨jK,rfl⟩:=ek (M3.ro hl) oM;refine eM jK l.length 1 0<|bB (aN jK (0:Int) 1) _ (cY (M3.ro hl) rfl oM oM)<|ae 1<|au<|eF ((a0 l:Int)==0) ((a0 l:Int)=0) (by simp only[ax]) (fun c5=> ?_) (fun c5=> ?_);refine cN<|ae 2<|bB (ah b1 2) _ (aa (M3.get 3 rfl) rfl)<|uV (rf C.r 2 i.n w2) (fun _ yr ⟨lU,mM⟩ a_ mw=>by subst lU;exact zf mw (⟨_,_,s,oA,oc,by rw[rI ma,bC oM],rfl,hG,(M3.cl mM).tk 3⟩)) ?_;rintro _ w6 h_;exact h_.elim;refine bN<|aW<|bG<|DT (vI 0) ?_;exact⟨0,s,oA,oc,by rw[rI ma,aB oM],rfl,hG,M3.tk 3⟩
end Go.Proofs.YtjekgaabcigphaaGreat
namespace Go.Proofs.YtjekgaabcigphaaGreat
open Go.Mor
theorem Xv(C:RC)(s:cV)(oA:ao)(oc:Nat)(w:World)(hC:C.WF)(hG:dR C s)(hR:(bx.pk (dV C s oA oc)).holds w)(call:Int→af→cV→ed Int)(i:cH)(l:af)(aA:ao)(ac:Nat)(hl:RO (rS C s oA oc) w (.rd aA (ints l)))(ma:i.op=3)(hlen:l.length=2):gQ Tryz.prog C s oA oc w 16 [pT C.r 0,iG i,vS aA l.length ac] oV (bU C.E call i l s):=by
 have g2:=hG.n2;have g3:=hG.n1;have g4:=hG.mem;have g5:=hC.mem;refine AR 19 [pT C.r 0,iG i,vS aA l.length ac] Tryz.func16 ?_;have hM:=Mem.jS hR;refine aG<|lO hM 42 (iG i) (iV i) fun b1 w2 iW M3=> ?_
 replace M3:=M3.nf;clear hM;refine ae 1<|au<|aU ?_;by_cases cr:((IntKind.i64.wrap (a0 l+i.n))<1∨(IntKind.i64.wrap (a0 l+i.n))≥s.next);obtain⟨jK,rfl⟩:=ek (M3.ro hl) oM;refine cU [0,2,4] ?_;intro aC fr;refine mE 11 (aP [eR C.r 0,eS (some jK) l.length ac,eA jK (0:Int) 1,eI (a0 l),eR b1 2,eI i.n,eI (IntKind.i64.wrap (a0 l+i.n)),Spec.never,eS (some jK) l.length ac,eA jK (1:Int) 1,eI (a1 l)]) fr (kB (lk lz dP dP (dI jK l.length 1 0) (dL (aN jK (0:Int) 1) _ fun w_ hK=>(cY ((M3.an hK).ro hl) rfl oM oM)) dP (dL (ah b1 2) _ fun w_ hK=>(aa ((M3.an hK).get 3 rfl) rfl)) (dB .i64 (IntKind.i64.wrap (a0 l+i.n)) i.n) (dF (vs:=[pT C.r 0,vI (IntKind.i64.wrap (a0 l+i.n))]) (Ψ:=fun v w'=>v=zo 5 0∧Mem (rS C s oA oc) w w' [.aL C.r 60 (fB C s oA oc),.row 2 1 (sM C.mG) C.E.memN C.E.memN (ints s.mem),.row 5 1 oA s.out.length oc (ji s.out),.aL b1 42 (iV i)]) (fun w_ hK=>gK.DS (Qcb C s oA oc w_ (IntKind.i64.wrap (a0 l+i.n)) hG ((M3.an hK).df 0 rfl)) (fun v w2 h=>absurd h.1 oM) (fun v w2 h=>⟨h.2.1,(M3.an hK).cl h.2.2⟩)) (fun v w2 h a hd=>by obtain⟨rfl,h⟩:=h;exact xpd hd ⟨_,_,s,oA,oc,by rw[vr ma,F3 oM];rfl,rfl,hG,h.tk 3⟩))) dP (dI jK l.length 1 1) (dL (aN jK (1:Int) 1) _ fun w_ hK=>(cY ((M3.an hK).ro hl) rfl oM oM))) ?_;intro aC w9 vs hK hv fr;exact(hv 7 dQ).elim;obtain⟨kT,rfl⟩:=ek (M3.ro hl) oM;refine bQ [(0,pT C.r 0),(2,vS (some kT) l.length ac),(4,pT b1 0)] ?_;intro aC fr;refine mE 11 (aP [eR C.r 0,eS (some kT) l.length ac,eA kT (0:Int) 1,eI (a0 l),eR b1 2,eI i.n,eI (IntKind.i64.wrap (a0 l+i.n)),eA (aZ C.mG) (IntKind.i64.wrap (a0 l+i.n)) 1,eS (some kT) l.length ac,eA kT (1:Int) 1,eI (a1 l)]) fr (kB (lk lz dP dP (dI kT l.length 1 0) (dL (aN kT (0:Int) 1) _ fun w_ hK=>(cY ((M3.an hK).ro hl) rfl oM oM)) dP (dL (ah b1 2) _ fun w_ hK=>(aa ((M3.an hK).get 3 rfl) rfl)) (dB .i64 (IntKind.i64.wrap (a0 l+i.n)) i.n) (dE (vs:=[pT C.r 0,vI (IntKind.i64.wrap (a0 l+i.n))]) (u:=(vP (aN (aZ C.mG) (IntKind.i64.wrap (a0 l+i.n)) 1))) (Ψ:=fun v w'=>((IntKind.i64.wrap (a0 l+i.n))<1∨(IntKind.i64.wrap (a0 l+i.n))≥s.next)∧v=zo 5 0∧Mem aX w' w' []) (fun w_ hK=>gK.DS (Qcb C s oA oc w_ (IntKind.i64.wrap (a0 l+i.n)) hG ((M3.an hK).df 0 rfl)) (fun v w2 h=>⟨h.2.1,h.2.2⟩) (fun v w2 h=>⟨h.1,h.2.1,Mem.init w2⟩)) (fun v w2 h=>absurd h.1 cr) rfl)) dP (dI kT l.length 1 1) (dL (aN kT (1:Int) 1) _ fun w_ hK=>(cY ((M3.an hK).ro hl) rfl oM oM))) ?_;intro aC vF vs hK hv fr;revert aC;refine bQ [(14,vP (aN (aZ C.mG) (IntKind.i64.wrap (a0 l+i.n)) 1)),(17,vI (a1 l))] ?_;have kn:=M3.an hK;clear hK hv fr aC M3;clear vs;refine ae 1<|wC kn 1 (aN (aZ C.mG) (IntKind.i64.wrap (a0 l+i.n)) 1) (((IntKind.i64.wrap (a0 l+i.n))).toNat*1) (vI (a1 l)) rfl rfl oM fun I5 kA=> ?_
 replace kA:=kA.nf;refine au<|aW<|bG<|DT (vI 0) ?_;have hs_:(ints s.mem).set (((IntKind.i64.wrap (a0 l+i.n))).toNat*1) (vI (a1 l))=ints (s.mem.set ((IntKind.i64.wrap (a0 l+i.n))).toNat (a1 l)):=by rw[eE];simp[ints,po]
 have nN:Mem (rS C s oA oc) w I5 [.aL C.r 60 (fB C s oA oc),.row 2 1 (sM C.mG) C.E.memN C.E.memN (ints (s.mem.set ((IntKind.i64.wrap (a0 l+i.n))).toNat (a1 l))),.row 5 1 oA s.out.length oc (ji s.out),.aL b1 42 (iV i)]:=kA.cast (by rw[hs_]);exact⟨_,{s with mem:=s.mem.set ((IntKind.i64.wrap (a0 l+i.n))).toNat (a1 l)},oA,oc,by rw[vr ma,QH oM];rfl,rfl,hG.set _ _,nN.tk 3⟩
theorem Xw(C:RC)(s:cV)(oA:ao)(oc:Nat)(w:World)(hC:C.WF)(hG:dR C s)(hR:(bx.pk (dV C s oA oc)).holds w)(hA:RO (rS C s oA oc) w C.ro)(call:Int→af→cV→ed Int)(i:cH)(l:af)(aA:ao)(ac:Nat)(hl:RO (rS C s oA oc) w (.rd aA (ints l)))(ma:i.op=6):gQ Tryz.prog C s oA oc w 19 [pT C.r 0,iG i,vS aA l.length ac] oV (bU C.E call i l s):=by
 have g2:=hG.n2;have g3:=hG.n1;have g4:=hG.mem;have g5:=hC.mem;refine AR 24 [pT C.r 0,iG i,vS aA l.length ac] Tryz.func19 ?_;have hM:=Mem.jS hR;refine aG<|lO hM 42 (iG i) (iV i) fun b1 w2 iW M3=> ?_
 replace M3:=M3.nf;clear hM;refine ae 1<|au<|aU ?_;cases hq:dt C.E.data i.name;refine cU [0,4] ?_;intro aC fr;refine mE 11 (aP [eR C.r 0,eR C.r 0,eR C.r 3,.bb (.map (some C.dB)),eR b1 3,eT i.name,.bb (.tuple #[vI 0,vB false]),.bb (.tuple #[vI 0,vB false]),eI 0,eB false,eI 0]) fr (kB (lk lz dP dP dP (dL (ah C.r 3) _ fun w_ hK=>(aa ((M3.an hK).get 0 rfl) rfl)) dP (dL (ah b1 3) _ fun w_ hK=>(aa ((M3.an hK).get 3 rfl) rfl)) (dM (fJ Tryz.underlying9) Tryz.underlying56 i.name (vI 0) (fun w_ hK=>(M3.an hK).ro hA.Qac) true (hv:=by rw[iT,hq];rfl)) dP) dP dP dP) ?_;intro aC w8 vs hK hv fr;revert aC;refine bQ [(0,pT C.r 0),(7,vI 0),(18,vB false)] ?_;have M9:=M3.an hK;clear hK hv fr aC M3;clear vs;refine ae 1<|au<|aG<|ae 3<|uV (uv C.r w8) (fun _ yr ⟨lU,mM⟩ a_ mw=>by subst lU;exact zf mw (⟨_,_,s,oA,oc,by rw[vu ma,hq],rfl,hG,(M9.cl mM).tk 3⟩)) ?_;rintro _ Pr h_;exact h_.elim;rename_i nn;refine cU [0,4] ?_;intro aC fr;refine mE 11 (aP [eR C.r 0,eR C.r 0,eR C.r 3,.bb (.map (some C.dB)),eR b1 3,eT i.name,.bb (.tuple #[vI nn,vB true]),.bb (.tuple #[vI nn,vB true]),eI nn,eB true,eI nn]) fr (kB (lk lz dP dP dP (dL (ah C.r 3) _ fun w_ hK=>(aa ((M3.an hK).get 0 rfl) rfl)) dP (dL (ah b1 3) _ fun w_ hK=>(aa ((M3.an hK).get 3 rfl) rfl)) (dM (fJ Tryz.underlying9) Tryz.underlying56 i.name (vI 0) (fun w_ hK=>(M3.an hK).ro hA.Qac) true (hv:=by rw[iT,hq];rfl)) dP) dP dP dP) ?_;intro aC vF vs hK hv fr;revert aC;refine bQ [(0,pT C.r 0),(7,vI nn),(18,vB true)] ?_;have kn:=M3.an hK;clear hK hv fr aC M3;clear vs;refine ae 1<|au<|aG<|ae 3<|uV (uw C.r vF) (fun _ _ h_=>h_.elim) ?_;rintro _ I5 ⟨rfl,Gu⟩;have kA:=kn.cl Gu;refine au<|aW<|bG<|DT (vI nn) ?_;exact⟨nn,s,oA,oc,by rw[vu ma,hq],rfl,hG,kA.tk 3⟩
theorem Xx(C:RC)(s:cV)(oA:ao)(oc:Nat)(w:World)(hC:C.WF)(hG:dR C s)(hR:(bx.pk (dV C s oA oc)).holds w)(hA:RO (rS C s oA oc) w C.ro)(call:Int→af→cV→ed Int)(i:cH)(l:af)(aA:ao)(ac:Nat)(hl:RO (rS C s oA oc) w (.rd aA (ints l)))(ma:i.op=7):gQ Tryz.prog C s oA oc w 20 [pT C.r 0,iG i,vS aA l.length ac] oV (bU C.E call i l s):=by
 have g2:=hG.n2;have g3:=hG.n1;have g4:=hG.mem;have g5:=hC.mem;refine AR 24 [pT C.r 0,iG i,vS aA l.length ac] Tryz.func20 ?_;have hM:=Mem.jS hR;refine aG<|lO hM 42 (iG i) (iV i) fun b1 w2 iW M3=> ?_
 replace M3:=M3.nf;clear hM;refine ae 1<|au<|aU ?_;cases hq:dt C.E.names i.name;refine cU [0,4] ?_;intro aC fr;refine mE 11 (aP [eR C.r 0,eR C.r 0,eR C.r 2,.bb (.map (some C.mB)),eR b1 3,eT i.name,.bb (.tuple #[vI 0,vB false]),.bb (.tuple #[vI 0,vB false]),eI 0,eB false,eI 0]) fr (kB (lk lz dP dP dP (dL (ah C.r 2) _ fun w_ hK=>(aa ((M3.an hK).get 0 rfl) rfl)) dP (dL (ah b1 3) _ fun w_ hK=>(aa ((M3.an hK).get 3 rfl) rfl)) (dM (fJ Tryz.underlying9) Tryz.underlying55 i.name (vI 0) (fun w_ hK=>(M3.an hK).ro hA.D4) true (hv:=by rw[iT,hq];rfl)) dP) dP dP dP) ?_;intro aC w8 vs hK hv fr;revert aC;refine bQ [(0,pT C.r 0),(7,vI 0),(18,vB false)] ?_;have M9:=M3.an hK;clear hK hv fr aC M3;clear vs;refine ae 1<|au<|aG<|ae 3<|uV (uv C.r w8) (fun _ yr ⟨lU,mM⟩ a_ mw=>by subst lU;exact zf mw (⟨_,_,s,oA,oc,by rw[vv ma,hq],rfl,hG,(M9.cl mM).tk 3⟩)) ?_;rintro _ Pr h_;exact h_.elim;rename_i nn;refine cU [0,4] ?_;intro aC fr;refine mE 11 (aP [eR C.r 0,eR C.r 0,eR C.r 2,.bb (.map (some C.mB)),eR b1 3,eT i.name,.bb (.tuple #[vI nn,vB true]),.bb (.tuple #[vI nn,vB true]),eI nn,eB true,eI nn]) fr (kB (lk lz dP dP dP (dL (ah C.r 2) _ fun w_ hK=>(aa ((M3.an hK).get 0 rfl) rfl)) dP (dL (ah b1 3) _ fun w_ hK=>(aa ((M3.an hK).get 3 rfl) rfl)) (dM (fJ Tryz.underlying9) Tryz.underlying55 i.name (vI 0) (fun w_ hK=>(M3.an hK).ro hA.D4) true (hv:=by rw[iT,hq];rfl)) dP) dP dP dP) ?_;intro aC vF vs hK hv fr;revert aC;refine bQ [(0,pT C.r 0),(7,vI nn),(18,vB true)] ?_;have kn:=M3.an hK;clear hK hv fr aC M3;clear vs;refine ae 1<|au<|aG<|ae 3<|uV (uw C.r vF) (fun _ _ h_=>h_.elim) ?_;rintro _ I5 ⟨rfl,Gu⟩;have kA:=kn.cl Gu;refine au<|aW<|bG<|DT (vI nn) ?_;exact⟨nn,s,oA,oc,by rw[vv ma,hq],rfl,hG,kA.tk 3⟩
theorem Qcd(C:RC)(s:cV)(oA:ao)(oc:Nat)(w:World)(hC:C.WF)(hG:dR C s)(hR:(bx.pk (dV C s oA oc)).holds w)(hA:RO (rS C s oA oc) w C.ro)(call:Int→af→cV→ed Int)(i:cH)(l:af)(aA:ao)(ac:Nat)(hl:RO (rS C s oA oc) w (.rd aA (ints l)))(ma:i.op=4)(b:Int)(qa:qR Tryz.prog C 50 call b)(hb:C.E.fuel-s.steps<b)(hlen:l.length≤17):gQ Tryz.prog C s oA oc w 17 [pT C.r 0,iG i,vS aA l.length ac] oV (bU C.E call i l s):=by
 have g2:=hG.n2;have g3:=hG.n1;have g4:=hG.mem;have g5:=hC.mem;refine AR 27 [pT C.r 0,iG i,vS aA l.length ac] Tryz.func17 ?_;have hM:=Mem.jS hR;refine aG<|lO hM 42 (iG i) (iV i) fun b1 w2 iW M3=> ?_
 replace M3:=M3.nf;clear hM;refine ae 1<|au<|aU ?_;cases hq:dt C.E.names i.name;refine cU [0,2,4] ?_;intro aC fr;refine mE 11 (aP [eR C.r 0,eR C.r 0,eR C.r 2,.bb (.map (some C.mB)),eR b1 3,eT i.name,.bb (.tuple #[vI 0,vB false]),.bb (.tuple #[vI 0,vB false]),eI 0,eB false,eI 0]) fr (kB (lk lz dP dP dP (dL (ah C.r 2) _ fun w_ hK=>(aa ((M3.an hK).get 0 rfl) rfl)) dP (dL (ah b1 3) _ fun w_ hK=>(aa ((M3.an hK).get 3 rfl) rfl)) (dM (fJ Tryz.underlying9) Tryz.underlying55 i.name (vI 0) (fun w_ hK=>(M3.an hK).ro hA.D4) true (hv:=by rw[iT,hq];rfl)) dP) dP dP dP) ?_;intro aC w8 vs hK hv fr;revert aC;refine bQ [(0,pT C.r 0),(2,vS aA l.length ac),(7,vI 0),(18,vB false)] ?_;have M9:=M3.an hK;clear hK hv fr aC M3;clear vs;refine ae 1<|au<|aG<|ae 3<|uV (uv C.r w8) (fun _ yr ⟨lU,mM⟩ a_ mw=>by subst lU;exact zf mw (⟨_,_,s,oA,oc,by rw[vt ma,hq],rfl,hG,(M9.cl mM).tk 3⟩)) ?_;rintro _ Pr h_;exact h_.elim;rename_i nn;refine cU [0,2,4] ?_;intro aC fr;refine mE 11 (aP [eR C.r 0,eR C.r 0,eR C.r 2,.bb (.map (some C.mB)),eR b1 3,eT i.name,.bb (.tuple #[vI nn,vB true]),.bb (.tuple #[vI nn,vB true]),eI nn,eB true,eI nn]) fr (kB (lk lz dP dP dP (dL (ah C.r 2) _ fun w_ hK=>(aa ((M3.an hK).get 0 rfl) rfl)) dP (dL (ah b1 3) _ fun w_ hK=>(aa ((M3.an hK).get 3 rfl) rfl)) (dM (fJ Tryz.underlying9) Tryz.underlying55 i.name (vI 0) (fun w_ hK=>(M3.an hK).ro hA.D4) true (hv:=by rw[iT,hq];rfl)) dP) dP dP dP) ?_;intro aC vF vs hK hv fr;revert aC;refine bQ [(0,pT C.r 0),(2,vS aA l.length ac),(7,vI nn),(18,vB true)] ?_;have kn:=M3.an hK;clear hK hv fr aC M3;clear vs;refine ae 1<|au<|aG<|ae 3<|uV (uw C.r vF) (fun _ _ h_=>h_.elim) ?_;rintro _ I5 ⟨rfl,Gu⟩;have kA:=kn.cl Gu;refine au<|aG<|ae 3<|uV (qa nn l aA ac s oA oc I5 hG hb (Mem.bZ (l:=dV C s oA oc) kA) (hA.iI (l:=dV C s oA oc) kA) (hl.iI (l:=dV C s oA oc) kA) oM) (fun _ yr ⟨k_,c_,s_,H5,H6,Jq,lU,Lx,mM⟩ a_ mw=>by subst lU;exact zf mw ⟨k_,c_,s_,H5,H6,by rw[vt ma,hq];exact Jq,rfl,Lx,Mem.tk (Mem.na (l:=dV C s oA oc) kA mM) 3⟩) ?_;rintro _ Je ⟨x20,s21,Qce,Qcf,Qio,rfl,Qfy,BC⟩;have eJ:Mem (rS C s oA oc) w Je [.aL C.r 60 (fB C s21 Qce Qcf),.row 2 1 (sM C.mG) C.E.memN C.E.memN (ints s21.mem),.row 5 1 Qce s21.out.length Qcf (ji s21.out),.aL b1 42 (iV i)]:=kA.na BC;refine ae 1<|au<|bG<|DT (vI x20) ?_;exact⟨x20,s21,Qce,Qcf,by rw[vt ma,hq];exact Qio,rfl,Qfy,eJ.tk 3⟩
end Go.Proofs.YtjekgaabcigphaaGreat
namespace Go.Proofs.YtjekgaabcigphaaGreat
open Go.Mor
theorem Sb(C:RC)(s:cV)(oA:ao)(oc:Nat)(w:World)(hC:C.WF)(hG:dR C s)(hR:(bx.pk (dV C s oA oc)).holds w)(hA:RO (rS C s oA oc) w C.ro)(call:Int→af→cV→ed Int)(i:cH)(x0:Int)(l1:af)(aA:ao)(ac:Nat)(hl:RO (rS C s oA oc) w (.rd aA (ints (x0::l1))))(ma:i.op=5)(hac:l1.length+1≤ac)(hlen:l1.length≤16)(b:Int)(qa:qR Tryz.prog C 50 call b)(hb:C.E.fuel-s.steps<b):gQ Tryz.prog C s oA oc w 18 [pT C.r 0,iG i,vS aA (l1.length+1) ac] oV (bU C.E call i (x0::l1) s):=by
 refine AR 14 [pT C.r 0,iG i,vS aA (l1.length+1) ac] Tryz.func18 ?_;have hM:=Mem.jS hR;refine aG<|lO hM 42 (iG i) (iV i) fun b1 w2 iW M3=> ?_
 replace M3:=M3.nf;clear hM;refine ae 1<|au<|aU ?_;obtain⟨jK,rfl⟩:=ek (M3.ro hl) sI;refine cU [0,2] ?_;intro aC fr;refine mE 6 (aP [eR C.r 0,eS (some jK) (l1.length+1) ac,eA jK (0:Int) 1,eI x0,eS (some jK) (l1.length+1) ac,.bb (QT (some jK) (l1.length+1) ac 1 1)]) fr (la (qh lz dP dP (dI jK (l1.length+1) 1 0) (dL (aN jK (0:Int) 1) _ fun w_ hK=>(cY ((M3.an hK).ro hl) rfl oM sI)) dP) (dSl (some jK) (l1.length+1) ac 1 1 oM)) ?_;intro aC w9 vs hK hv fr;revert aC;refine bQ [(7,pT C.r 0),(10,vI x0),(12,(vS (if ac=1 then(some jK)else Option.map (·.add (1*1)) (some jK)) l1.length (ac-1)))] ?_;have ia:=M3.an hK;clear hK hv fr aC M3;clear vs;refine uV (qa x0 l1 (if ac=1 then(some jK)else Option.map (·.add (1*1)) (some jK)) (ac-1) s oA oc w9 hG hb (Mem.bZ (l:=dV C s oA oc) ia) (hA.iI (l:=dV C s oA oc) ia) (RO.D7 (vs:=ints l1) hl (by rw[dq];exact hac)|>.iI (l:=dV C s oA oc) ia) oM) (fun _ yr ⟨k_,c_,s_,H5,H6,Jq,lU,Lx,mM⟩ a_ mw=>by subst lU;exact zf mw ⟨k_,c_,s_,H5,H6,by rw[zi ma];exact Jq,rfl,Lx,Mem.tk (Mem.na (l:=dV C s oA oc) ia mM) 3⟩) ?_;rintro _ vF ⟨x11,s12,vZ,v7,Qip,rfl,Qfz,Nx⟩;have kn:Mem (rS C s oA oc) w vF [.aL C.r 60 (fB C s12 vZ v7),.row 2 1 (sM C.mG) C.E.memN C.E.memN (ints s12.mem),.row 5 1 vZ s12.out.length v7 (ji s12.out),.aL b1 42 (iV i)]:=ia.na Nx;refine ae 1<|au<|bG<|DT (vI x11) ?_;exact⟨x11,s12,vZ,v7,by rw[zi ma];exact Qip,rfl,Qfz,kn.tk 3⟩
theorem Xy(C:RC)(s:cV)(oA:ao)(oc:Nat)(w:World)(hC:C.WF)(hG:dR C s)(hR:(bx.pk (dV C s oA oc)).holds w)(call:Int→af→cV→ed Int)(i:cH)(l:af)(aA:ao)(ac:Nat)(hl:RO (rS C s oA oc) w (.rd aA (ints l)))(ma:i.op=8)(hlen:l.length=1):gQ Tryz.prog C s oA oc w 21 [pT C.r 0,iG i,vS aA l.length ac] oV (bU C.E call i l s):=by
 have g2:=hG.n2;have g3:=hG.n1;have g4:=hG.mem;have g5:=hC.mem;refine AR 45 [pT C.r 0,iG i,vS aA l.length ac] Tryz.func21 ?_;have hM:=Mem.jS hR;refine aG<|lO hM 42 (iG i) (iV i) fun b1 w2 iW M3=> ?_
 replace M3:=M3.nf;clear hM;refine ae 1<|au<|aG<|ae 2 ?_;obtain⟨jK,rfl⟩:=ek (M3.ro hl) oM;refine eM jK l.length 1 0<|bB (aN jK (0:Int) 1) _ (cY (M3.ro hl) rfl oM oM)<|ae 1 ?_;obtain⟨B5,hB5⟩:∃B:Bool,B=decide ((a0 l:Int)<0):=⟨_,rfl⟩;refine bQ [(0,pT C.r 0),(2,vS (some jK) l.length ac),(8,pT C.r 0),(12,(vB (decide ((a0 l:Int)<0))))] ?_;rw[←hB5];have iB5:B5=true↔((a0 l:Int)<0):=by rw[hB5];simp only[aE]
 clear hB5;refine cU [0,2,8,12]<|uV (yt C.r B5 w2) (fun _ yr ⟨Ey,lU,mM⟩ a_ mw=>by subst lU;have cf6:((a0 l:Int)<0):=iB5.1 Ey;exact zf mw (⟨_,_,s,oA,oc,by rw[vw ma,bC oM],rfl,hG,(M3.cl mM).tk 3⟩)) ?_;rintro _ w7 ⟨Ey,rfl,M8x⟩;have M8:=M3.cl M8x;have cf6:¬((a0 l:Int)<0):=fun h_=>Bool.noConfusion ((iB5.2 h_).symm.trans Ey)
 clear Ey;refine au<|aU<|aU ?_;obtain⟨B9,Fl⟩:∃B:Bool,B=decide ((a0 l)>((C.E.memN:Int)-s.next)):=⟨_,rfl⟩;refine cU [0,2] ?_;intro aC fr;refine mi (aP [eS (some jK) l.length ac,eA jK (0:Int) 1,eI (a0 l),eR C.r 0,eR C.r 0,eR C.r 4,eS (sM C.mG) C.E.memN C.E.memN,eI (C.E.memN:Int),eR C.r 0,eR C.r 0,eR C.r 5,eI s.next,eI ((C.E.memN:Int)-s.next),eB B9]) fr (oh (eL lz dP (dI jK l.length 1 0) (dL (aN jK (0:Int) 1) _ fun w_ hK=>(cY ((M8.an hK).ro hl) rfl oM oM)) dP dP dP (dL (ah C.r 4) _ fun w_ hK=>(aa ((M8.an hK).get 0 rfl) rfl)) dP dP dP dP (dL (ah C.r 5) _ fun w_ hK=>(aa ((M8.an hK).get 0 rfl) rfl))) (dA ((C.E.memN:Int)-s.next)) (dC (decide ((a0 l)>((C.E.memN:Int)-s.next))) Fl)) ?_;intro aC Vo vs hK hv fr;revert aC;refine bQ [(0,pT C.r 0),(2,vS (some jK) l.length ac),(27,vB B9)] ?_;have lQ:=M8.an hK;clear hK hv fr aC M8;clear vs;have Sc:B9=true↔(((a0 l):Int)>((C.E.memN:Int)-s.next)):=by rw[Fl];simp only[aE]
 clear Fl;refine eF B9 (((a0 l):Int)>((C.E.memN:Int)-s.next)) Sc (fun Ny=> ?_) (fun Ny=> ?_);refine cN<|ae 1<|uV (rf C.r 3 0 Vo) (fun _ yr ⟨lU,mM⟩ a_ mw=>by subst lU;exact zf mw (⟨_,_,s,oA,oc,by rw[vw ma,aB oM,bC oM],rfl,hG,(lQ.cl mM).tk 3⟩)) ?_;rintro _ PA h_;exact h_.elim;refine bN<|aG<|ae 3<|bB (ah C.r 5) _ (aa (lQ.get 0 rfl) rfl)<|ae 1<|au<|aU<|cU [0,2,7] ?_;intro aC fr;refine mE 7 (aP [eR C.r 0,eR C.r 0,eR C.r 5,eI s.next,eS (some jK) l.length ac,eA jK (0:Int) 1,eI (a0 l)]) fr (oh (qh lz dP dP dP (dL (ah C.r 5) _ fun w_ hK=>(aa ((lQ.an hK).get 0 rfl) rfl)) dP) (dI jK l.length 1 0) (dL (aN jK (0:Int) 1) _ fun w_ hK=>(cY ((lQ.an hK).ro hl) rfl oM oM))) ?_;intro aC Fu vs hK hv fr;revert aC;refine bQ [(7,vI s.next),(34,pT C.r 0),(37,vI s.next),(40,vI (a0 l))] ?_;have gn:=lQ.an hK;clear hK hv fr aC lQ;clear vs;refine dw (s.next+(a0 l))<|ae 2<|sV (ho:=sI) gn 0 5 (vI (s.next+(a0 l))) rfl fun Je eJ=> ?_
 replace eJ:=eJ.nf;refine au<|aW<|bG<|DT (vI s.next) ?_;exact⟨s.next,{s with next:=s.next+a0 l},oA,oc,by rw[vw ma,aB oM,aB oM],rfl,hG.take oM oM,eJ.tk 3⟩
theorem Qcg(C:RC)(s:cV)(oA:ao)(oc:Nat)(w:World)(hC:C.WF)(hG:dR C s)(hR:(bx.pk (dV C s oA oc)).holds w)(hA:RO (rS C s oA oc) w C.ro)(call:Int→af→cV→ed Int)(i:cH)(l:af)(aA:ao)(ac:Nat)(hl:RO (rS C s oA oc) w (.rd aA (ints l)))(ma:i.op=9)(hlen:l.length=0):gQ Tryz.prog C s oA oc w 22 [pT C.r 0,iG i,vS aA l.length ac] oV (bU C.E call i l s):=by
 have g6:=hG.pos;have g2:=hG.n2;have g3:=hG.n1;have g4:=hG.mem;have g5:=hC.mem;refine AR 30 [pT C.r 0,iG i,vS aA l.length ac] Tryz.func22 ?_;have hM:=Mem.jS hR;refine aG<|lO hM 42 (iG i) (iV i) fun b1 w2 iW M3=> ?_
 replace M3:=M3.nf;clear hM;refine ae 1<|au<|aU<|aG<|ae 3<|bB (ah C.r 6) _ (aa (M3.get 0 rfl) rfl)<|ae 2<|au<|eF (((((C.E.inp.length-s.pos):Nat):Int):Int)==0) (((((C.E.inp.length-s.pos):Nat):Int):Int)=0) (by simp only[ax]) (fun c4=> ?_) (fun c4=> ?_);refine aW<|bG<|DT (vI (-1)) ?_;exact⟨(-1),s,oA,oc,by rw[zk ma,aB oM],rfl,hG,M3.tk 3⟩;refine bN<|aG<|ae 3<|bB (ah C.r 6) _ (aa (M3.get 0 rfl) rfl) ?_;obtain⟨Vt,QfA⟩:=WA (p:=s.pos) (M3.ro hA.rin) oM hC.ic;intro aC fr;refine bM (some 18) ((fI C.iA C.ic s.pos).1) Vt (C.E.inp.length-s.pos) 1 0 fr kR QfA oM oM ?_;intro aC fr;revert aC;refine bB (aN Vt (0:Int) 1) _ (WB (p:=s.pos) (M3.ro hA.rin) oM hC.ic QfA)<|ae 1<|au<|aG<|ae 4<|bB (ah C.r 6) _ (aa (M3.get 0 rfl) rfl)<|cU [7,20,24]<|zsl (A:=(fI C.iA C.ic s.pos).1) (n:=C.E.inp.length-s.pos) (cap:=(fI C.iA C.ic s.pos).2) (size:=1) (hk:=by kernel_rfl) 1 oM<|ae 2<|sV (ho:=sI) M3 0 6 (vS ((fI C.iA C.ic (s.pos+1)).1) (C.E.inp.length-(s.pos+1)) ((fI C.iA C.ic (s.pos+1)).2)) rfl fun zA eh=> ?_
 replace eh:=eh.nf;refine au<|aG<|ae 1<|zcv (hz:=(yI _ (by have:=Wz hC (p:=s.pos);omega))) (C.E.inp.getD s.pos 0) .i64 (C.E.inp.getD s.pos 0)<|ae 1<|au<|bG<|DT (vI (C.E.inp.getD s.pos 0)) ?_;exact⟨_,{s with pos:=s.pos+1},oA,oc,by rw[zk ma,bC oM],rfl,hG.read oM,eh.tk 3⟩
end Go.Proofs.YtjekgaabcigphaaGreat
namespace Go.Proofs.YtjekgaabcigphaaGreat
open Go.Mor
theorem Xz(C:RC)(s:cV)(oA:ao)(oc:Nat)(w:World)(hC:C.WF)(hG:dR C s)(hR:(bx.pk (dV C s oA oc)).holds w)(call:Int→af→cV→ed Int)(i:cH)(l:af)(aA:ao)(ac:Nat)(hl:RO (rS C s oA oc) w (.rd aA (ints l)))(ma:i.op=10)(hlen:l.length=1):gQ Tryz.prog C s oA oc w 23 [pT C.r 0,iG i,vS aA l.length ac] oV (bU C.E call i l s):=by
 have g6:=hG.out;have g2:=hG.n2;have g3:=hG.n1;have g4:=hG.mem;have g5:=hC.mem;refine AR 26 [pT C.r 0,iG i,vS aA l.length ac] Tryz.func23 ?_;have hM:=Mem.jS hR;refine aG<|lO hM 42 (iG i) (iV i) fun b1 w2 iW M3=> ?_
 replace M3:=M3.nf;clear hM;refine ae 1<|au<|aU<|aG<|ae 3<|bB (ah C.r 7) _ (aa (M3.get 0 rfl) rfl)<|ae 2<|au<|gp ((s.out.length:Int)<4096) (fun c4=> ?_) (fun c4=> ?_);obtain⟨Vt,rfl⟩:=ek (M3.ro hl) oM;refine cU [0,2] ?_;intro aC fr;refine K3 (aP [eR C.r 0,eR C.r 0,eR C.r 0,eR C.r 7,eS oA s.out.length oc,eS (some Vt) l.length ac,eA Vt (0:Int) 1,eI (a0 l),.bb (.int .u8 (IntKind.u8.wrap (a0 l))),Spec.free,Spec.free,eR C.r 0,eR C.r 7,.bb undef]) (fun ls vs w_=>match ls 13 with|true=>(∃(g6:Nat) (A7:ao) (c8:Nat),vs 9=(vS (sM g6) 1 1)∧vs 10=(vS A7 (s.out.length+1) c8)∧Mem (rS C s oA oc) w w_ [.aL C.r 60 [vS C.fA (C.E.fns.length+1) C.fc,vS C.sA (C.E.fns.length+1) C.sc,.map (some C.mB),.map (some C.dB),vS (sM C.mG) C.E.memN C.E.memN,vI s.next,vS ((fI C.iA C.ic s.pos).1) (C.E.inp.length-s.pos) ((fI C.iA C.ic s.pos).2),vS A7 (s.out.length+1) c8,vI C.E.fuel,vI s.steps,vI s.opened,vS (some C.oP) 13 13],.row 2 1 (sM C.mG) C.E.memN C.E.memN (ints s.mem),.row 5 1 A7 (s.out.length+1) c8 ((ji s.out)++[.int .u8 (IntKind.u8.wrap (a0 l))]),.aL b1 42 (iV i),.row 5 1 (sM g6) 1 1 [.int .u8 (IntKind.u8.wrap (a0 l))]])|false=>(match ls 10 with|true=>(∃(g6:Nat) (A7:ao) (c8:Nat),vs 9=(vS (sM g6) 1 1)∧vs 10=(vS A7 (s.out.length+1) c8)∧Mem (rS C s oA oc) w w_ [.aL C.r 60 (fB C s oA oc),.row 2 1 (sM C.mG) C.E.memN C.E.memN (ints s.mem),.row 5 1 A7 (s.out.length+1) c8 ((ji s.out)++[.int .u8 (IntKind.u8.wrap (a0 l))]),.aL b1 42 (iV i),.row 5 1 (sM g6) 1 1 [.int .u8 (IntKind.u8.wrap (a0 l))]])|false=>(match ls 9 with|true=>(∃(g6:Nat),vs 9=(vS (sM g6) 1 1)∧Mem (rS C s oA oc) w w_ [.aL C.r 60 (fB C s oA oc),.row 2 1 (sM C.mG) C.E.memN C.E.memN (ints s.mem),.row 5 1 oA s.out.length oc (ji s.out),.aL b1 42 (iV i),.row 5 1 (sM g6) 1 1 [.int .u8 (IntKind.u8.wrap (a0 l))]])|false=>(Mem (rS C s oA oc) w w_ [.aL C.r 60 (fB C s oA oc),.row 2 1 (sM C.mG) C.E.memN C.E.memN (ints s.mem),.row 5 1 oA s.out.length oc (ji s.out),.aL b1 42 (iV i)])))) fr (gH (.bb (.bb (.bb (.bb (.bb (.bb (.bb (.bb (.bb (.free (.free (.bb (.bb (.bb .nil))))))))))))))) (M3.an (Mem.drew _)) (oh (eL lz (j9 fun _ _ _ _ h=>h) (j9 fun _ _ _ _ h=>h) (j9 fun _ _ _ _ h=>h) (j9 fun _ _ _ _ h=>h) (AQ (ah C.r 7) (vS oA s.out.length oc) (fun _ _ _ _ h=>h) ?_) (j9 fun _ _ _ _ h=>h) (HU Vt l.length 1 0 fun _ _ _ _ h=>h) (AQ (aN Vt (0:Int) 1) (vI (a0 l)) (fun _ _ _ _ h=>h) ?_) ?_ ?_ ?_ (j9 fun _ _ _ _ h=>h)) (j9 fun _ _ _ _ h=>h) ?_) ?_;intro w_ ls vs hJ cR cS hp;have f10:ls 10=false:=bw cS cR (n:=14) kR;have f13:ls 13=false:=bw cS cR (n:=14) kR;have bJ:=hJ;simp only[f10,f13]at bJ;cases fu:ls 9;simp only[fu]at bJ;exact(aa (bJ.get 0 rfl) rfl);simp only[fu]at bJ;obtain⟨_,_,bJ⟩:=bJ;exact(aa (bJ.get 0 rfl) rfl);intro w_ ls vs hJ cR cS hp;have f9:ls 9=false:=bw cS cR (n:=14) kR;have f10:ls 10=false:=bw cS cR (n:=14) kR;have f13:ls 13=false:=bw cS cR (n:=14) kR;have bJ:=hJ;simp only[f9,f10,f13]at bJ;exact(cY (bJ.ro hl) rfl oM oM);intro gd w_ ls vs eg hJ cR cS hp hF;refine mO (g0:=none) ?_;replace hF:Fr gd 26 [(20,vI (a0 l))]:=hF.kp [20];refine Cc (kR:ay _ 0=some (some 21,.convert 2 5 (.tmp 20),5,none)) hF kR kR (k':=1) rfl (kd:= .i64) (kd':= .u8) (i:=a0 l) (z:=IntKind.u8.wrap (a0 l)) kR Tryz.underlying2 Tryz.underlying5 rfl ?_;intro a2 ea _;refine bl kR ?_;exact bL (d:=some 21) kR ea rfl hJ;intro gd w_ ls vs eg hJ cR cS hp hF;refine mO (g0:=none) ?_;replace hF:Fr gd 26 [(21,.int .u8 (IntKind.u8.wrap (a0 l)))]:=hF.kp [21];have f9:ls 9=false:=cR;have f10:ls 10=false:=bw cS cR (n:=14) kR;have f13:ls 13=false:=bw cS cR (n:=14) kR;have bJ:=hJ;simp only[f9,f10,f13]at bJ;refine p6 22 25 1 #[(0,.tmp 21)] 25 hF (e:=5) (size:=1) (zs:=[.int .u8 0]) (vs:=[(0,.int .u8 (IntKind.u8.wrap (a0 l)))]) (cs:=[.int .u8 (IntKind.u8.wrap (a0 l))]) bJ ?_;intro g6p w2 _ _ fv _ a2 ea _;refine bl kR ?_;refine bL (d:=some 22) kR ea trivial ?_;show match ls 13 with|true=>_|false=>(match ls 10 with|true=>_|false=>(∃(g6:Nat),_))
 rw[f13,f10];exact⟨g6p,rfl,fv⟩;intro gd w_ ls vs eg hJ cR cS hp hF;refine mO (g0:=none) ?_;replace hF:Fr gd 26 [(17,vS oA s.out.length oc),(22,vs 9)]:=hF.kp [17,22];have f9:ls 9=true:=bI cS (fun k hk=>(hp k hk).1) (n:=14) kR;have f10:ls 10=false:=cR;have f13:ls 13=false:=bw cS cR (n:=14) kR;have bJ:=hJ;simp only[f9,f10,f13]at bJ;obtain⟨g6p,Ly,bJ⟩:=bJ;try rw[Ly]at hF
 refine F0 23 (.tmp 17) (.tmp 22) 25 25 hF (e:=5) (size:=1) (bytes:=1) (z:=(.int .u8 0)) (A:=oA) (B:=(sM g6p)) (n:=s.out.length) (cap:=oc) (m:=1) (cap':=1) (xs:=(ji s.out)) (news:=[.int .u8 (IntKind.u8.wrap (a0 l))]) bJ 2 rfl (aF (bJ.get 4 rfl)) rfl (by simp[Value.oneCell']) (by have g7:=hG.out;omega) (by have g7:=hG.out;simp only[maxLen];omega) ?_;intro A7p c8p w2 fv _ a2 ea _;refine bl kR ?_;refine bL (d:=some 23) kR ea trivial ?_;show match ls 13 with|true=>_|false=>(∃(g6:Nat) (A7:ao) (c8:Nat),_)
 rw[f13];exact⟨g6p,A7p,c8p,Ly,rfl,fv⟩;intro gd w_ ls vs eg hJ cR cS hp hF;refine mO (g0:=none) ?_;replace hF:Fr gd 26 [(23,vs 10),(25,pT C.r 7)]:=hF.kp [23,25];have f9:ls 9=true:=bI cS (fun k hk=>(hp k hk).1) (n:=14) kR;have f10:ls 10=true:=bI cS (fun k hk=>(hp k hk).1) (n:=14) kR;have f13:ls 13=false:=cR;have bJ:=hJ;simp only[f9,f10,f13]at bJ;obtain⟨g6p,A7p,c8p,Ly,GD,bJ⟩:=bJ;try rw[Ly]at hF
 try rw[GD]at hF
 refine g8 (kR:ay _ 0=some (none,.store 25 (.tmp 25) (.tmp 23),0,none)) hF kR kR (k':=1) rfl (b:=C.r) (off:=7) (t0:=60) (v:=(vS A7p (s.out.length+1) c8p)) (cs:=[vS C.fA (C.E.fns.length+1) C.fc,vS C.sA (C.E.fns.length+1) C.sc,.map (some C.mB),.map (some C.dB),vS (sM C.mG) C.E.memN C.E.memN,vI s.next,vS ((fI C.iA C.ic s.pos).1) (C.E.inp.length-s.pos) ((fI C.iA C.ic s.pos).2),vS oA s.out.length oc,vI C.E.fuel,vI s.steps,vI s.opened,vS (some C.oP) 13 13]) kR kR kR rfl bJ 0 rfl sI ?_;intro w2 fv _ a2 ea _;refine bl kR ?_;refine bL (d:=none) kR ea rfl ?_;show∃(g6:Nat) (A7:ao) (c8:Nat),_;exact⟨g6p,A7p,c8p,Ly,GD,fv⟩;intro aC MU ls vs dT mK hv fr;simp only[show ls 13=true from dT 13 dQ]at mK;revert aC;refine bQ [] ?_;obtain⟨g6,A7,c8,Ly,GD,mK⟩:=mK;try rw[Ly]
 try rw[GD]
 clear Ly GD;clear dT hv fr aC M3;clear vs ls;refine aW<|bG<|DT (vI 0) ?_;have ho_:ji s.out++[.int .u8 (IntKind.u8.wrap (a0 l))]=ji (s.out++[IntKind.u8.wrap (a0 l)]):=by rw[zn];rfl
 have hn_:(s.out++[IntKind.u8.wrap (a0 l)]).length=s.out.length+1:=sI;have bJ:=mK.tk 3;have lQ:Mem (rS C s oA oc) w MU [.aL C.r 60 [vS C.fA (C.E.fns.length+1) C.fc,vS C.sA (C.E.fns.length+1) C.sc,.map (some C.mB),.map (some C.dB),vS (sM C.mG) C.E.memN C.E.memN,vI s.next,vS ((fI C.iA C.ic s.pos).1) (C.E.inp.length-s.pos) ((fI C.iA C.ic s.pos).2),vS A7 ((s.out++[IntKind.u8.wrap (a0 l)]).length) c8,vI C.E.fuel,vI s.steps,vI s.opened,vS (some C.oP) 13 13],.row 2 1 (sM C.mG) C.E.memN C.E.memN (ints s.mem),.row 5 1 A7 ((s.out++[IntKind.u8.wrap (a0 l)]).length) c8 (ji (s.out++[IntKind.u8.wrap (a0 l)]))]:=bJ.cast (by rw[hn_,←ho_];rfl);clear bJ;exact⟨0,{s with out:=s.out++[IntKind.u8.wrap (a0 l)]},A7,c8,by rw[tY ma,bC oM],rfl,hG.write oM _,lQ⟩;refine bN<|aW<|bG<|DT (vI 0) ?_;exact⟨0,s,oA,oc,by rw[tY ma,aB oM],rfl,hG,M3.tk 3⟩
end Go.Proofs.YtjekgaabcigphaaGreat
namespace Go.Proofs.YtjekgaabcigphaaGreat
open Go.Mor
theorem mz(C:RC)(s:cV)(oA:ao)(oc:Nat)(w:World)(hC:C.WF)(hG:dR C s)(hR:(bx.pk (dV C s oA oc)).holds w)(hA:RO (rS C s oA oc) w C.ro)(i:cH)(l:af)(aA:ao)(ac:Nat)(hl:RO (rS C s oA oc) w (.rd aA (ints l)))(Xn:ed Int)(fk kk:Nat)(ma:i.op=(kk:Int))(hkk:kk<13)(hfk:(opsV C.r)[kk]?=some (.func (.func fk) #[pT C.r 0] #[]))(jV:mZ Tryz.prog fk=true)(MJ:∀w1,(bx.pk (dV C s oA oc)).holds w1→RO (rS C s oA oc) w1 C.ro→RO (rS C s oA oc) w1 (.rd aA (ints l))→gQ Tryz.prog C s oA oc w1 fk [pT C.r 0,iG i,.slice aA l.length ac] oV Xn):gQ Tryz.prog C s oA oc w 104 [pT C.r 0,iG i,vS aA l.length ac] oV (Xn):=by
 refine AR 63 [pT C.r 0,iG i,vS aA l.length ac] Tryz.func104 ?_;have hM:=Mem.jS hR;refine aG<|lO hM 42 (iG i) (iV i) fun b1 w2 iW M3=> ?_
 replace M3:=M3.nf;clear hM;refine ae 1<|au<|aU<|aU ?_;obtain⟨B4,pL⟩:∃B:Bool,B=decide (i.op<13):=⟨_,rfl⟩;refine cU [0,2,4] ?_;intro aC fr;refine mi (aP [eR b1 0,eI i.op,eR C.r 0,eR C.r 0,eR C.r 11,eS (some C.oP) 13 13,eI 13,eB B4]) fr (lk lz dP (dL (aZ b1) _ fun w_ hK=>(aa ((M3.an hK).get 3 rfl) rfl)) dP dP dP (dL (ah C.r 11) _ fun w_ hK=>(aa ((M3.an hK).get 0 rfl) rfl)) dP (dC (decide (i.op<13)) pL)) ?_;intro aC w9 vs hK hv fr;revert aC;refine bQ [(0,pT C.r 0),(2,vS aA l.length ac),(4,pT b1 0),(18,vB B4)] ?_;have ia:=M3.an hK;clear hK hv fr aC M3;clear vs;have qi:B4=true↔((i.op:Int)<13):=by rw[pL];simp only[aE]
 clear pL;refine eF B4 ((i.op:Int)<13) qi (fun wM=> ?_) (fun wM=> ?_);refine aU<|cU [0,2,4] ?_;intro aC fr;refine mE 10 (aP [eR C.r 0,eR C.r 0,eR C.r 11,eS (some C.oP) 13 13,eR b1 0,eI i.op,eP ((C.oP:Addr).add ((i.op).toNat*1)),.bb (.func (.func fk) #[pT C.r 0] #[]),.bb (iG i),eS aA l.length ac]) fr (oh (lk lz dP dP dP (dL (ah C.r 11) _ fun w_ hK=>(aa ((ia.an hK).get 0 rfl) rfl)) dP (dL (aZ b1) _ fun w_ hK=>(aa ((ia.an hK).get 3 rfl) rfl)) (dI C.oP 13 1 i.op) (dL ((C.oP:Addr).add ((i.op).toNat*1)) _ fun w_ hK=>(by rw[ma];exact bH ((ia.an hK).ro hA.Qh3) rfl (j:=kk) hfk))) (dS (aZ b1) (iV i) fun w_ hK=>(bp ((ia.an hK).get 3 rfl))) dP) ?_;intro aC vF vs hK hv fr;revert aC;refine bQ [(26,(.func (.func fk) #[pT C.r 0] #[])),(27,iG i),(28,vS aA l.length ac)] ?_;have kn:=ia.an hK;clear hK hv fr aC ia;clear vs;refine Qh0 jV (MJ vF (Mem.bZ (l:=dV C s oA oc) kn) (hA.iI (l:=dV C s oA oc) kn) (hl.iI (l:=dV C s oA oc) kn)) (fun _ yr ⟨k_,c_,s_,H5,H6,Jq,lU,Lx,mM⟩ a_ mw=>by subst lU;exact zf mw ⟨k_,c_,s_,H5,H6,Jq,rfl,Lx,Mem.tk (Mem.na (l:=dV C s oA oc) kn mM) 3⟩) ?_;rintro _ Fu ⟨x18,s19,Qch,Qci,Qiq,rfl,QfB,Qcj⟩;have gn:Mem (rS C s oA oc) w Fu [.aL C.r 60 (fB C s19 Qch Qci),.row 2 1 (sM C.mG) C.E.memN C.E.memN (ints s19.mem),.row 5 1 Qch s19.out.length Qci (ji s19.out),.aL b1 42 (iV i)]:=kn.na Qcj;refine ae 1<|au<|bG<|DT (vI x18) ?_;exact⟨x18,s19,Qch,Qci,Qiq,rfl,QfB,gn.tk 3⟩;exact absurd ma oM
end Go.Proofs.YtjekgaabcigphaaGreat
namespace Go.Proofs.YtjekgaabcigphaaGreat
open Go.Mor
theorem XA(C:RC)(s:cV)(oA:ao)(oc:Nat)(w:World)(hC:C.WF)(hG:dR C s)(hR:(bx.pk (dV C s oA oc)).holds w)(hA:RO (rS C s oA oc) w C.ro)(call:Int→af→cV→ed Int)(i:cH)(l:af)(aA:ao)(ac:Nat)(hl:RO (rS C s oA oc) w (.rd aA (ints l)))(ma:41≤i.op∧i.op≤43)(hlen:l.length=1):gQ Tryz.prog C s oA oc w 104 [pT C.r 0,iG i,vS aA l.length ac] oV (bU C.E call i l s):=by
 refine AR 63 [pT C.r 0,iG i,vS aA l.length ac] Tryz.func104 ?_;have hM:=Mem.jS hR;refine aG<|lO hM 42 (iG i) (iV i) fun b1 w2 iW M3=> ?_
 replace M3:=M3.nf;clear hM;refine ae 1<|au<|aU<|aU ?_;obtain⟨B4,pL⟩:∃B:Bool,B=decide (i.op<13):=⟨_,rfl⟩;refine cU [0,2,4] ?_;intro aC fr;refine mi (aP [eR b1 0,eI i.op,eR C.r 0,eR C.r 0,eR C.r 11,eS (some C.oP) 13 13,eI 13,eB B4]) fr (lk lz dP (dL (aZ b1) _ fun w_ hK=>(aa ((M3.an hK).get 3 rfl) rfl)) dP dP dP (dL (ah C.r 11) _ fun w_ hK=>(aa ((M3.an hK).get 0 rfl) rfl)) dP (dC (decide (i.op<13)) pL)) ?_;intro aC w9 vs hK hv fr;revert aC;refine bQ [(0,pT C.r 0),(2,vS aA l.length ac),(4,pT b1 0),(18,vB B4)] ?_;have ia:=M3.an hK;clear hK hv fr aC M3;clear vs;have qi:B4=true↔((i.op:Int)<13):=by rw[pL];simp only[aE]
 clear pL;refine eF B4 ((i.op:Int)<13) qi (fun wM=> ?_) (fun wM=> ?_);exact absurd ma oM;refine bN<|aU<|aG<|ae 1<|bB (aZ b1) _ (aa (ia.get 3 rfl) rfl)<|ae 1<|au<|gp ((i.op:Int)≥40) (fun uc=> ?_) (fun uc=> ?_);refine aU ?_;obtain⟨jT,rfl⟩:=ek (ia.ro hl) oM;refine cU [0,2,4] ?_;intro aC fr;refine mE 11 (aP [eR b1 0,eI i.op,eI (i.op-40),eS (some jT) l.length ac,eA jT (0:Int) 1,eI (a0 l),.bb (.tuple #[vI ((oL (i.op-40) (a0 l)).1),vI ((oL (i.op-40) (a0 l)).2)]),.bb (.tuple #[vI ((oL (i.op-40) (a0 l)).1),vI ((oL (i.op-40) (a0 l)).2)]),eI ((oL (i.op-40) (a0 l)).1),eI ((oL (i.op-40) (a0 l)).2),eI ((oL (i.op-40) (a0 l)).1)]) fr (kB (lk lz dP (dL (aZ b1) _ fun w_ hK=>(aa ((ia.an hK).get 3 rfl) rfl)) (dA (i.op-40)) dP (dI jT l.length 1 0) (dL (aN jT (0:Int) 1) _ fun w_ hK=>(cY ((ia.an hK).ro hl) rfl oM oM)) (dD (vs:=#[vI (i.op-40),vI (a0 l)]) (fun w_ hK=>Qft _ _ w_) rfl) dP) dP dP dP) ?_;intro aC I5 vs hK hv fr;revert aC;refine bQ [(7,vI ((oL (i.op-40) (a0 l)).1)),(42,vI ((oL (i.op-40) (a0 l)).2))] ?_;have kA:=ia.an hK;clear hK hv fr aC ia;clear vs;refine ae 1<|au<|aW<|bG<|DT (vI ((oL (i.op-40) (a0 l)).1)) ?_;exact⟨_,s,oA,oc,yb oM,rfl,hG,kA.tk 3⟩;exact absurd ma oM
theorem Sd(C:RC)(s:cV)(oA:ao)(oc:Nat)(w:World)(hC:C.WF)(hG:dR C s)(hR:(bx.pk (dV C s oA oc)).holds w)(hA:RO (rS C s oA oc) w C.ro)(call:Int→af→cV→ed Int)(i:cH)(l:af)(aA:ao)(ac:Nat)(hl:RO (rS C s oA oc) w (.rd aA (ints l)))(ma:17≤i.op∧i.op≤32)(hlen:l.length=2):gQ Tryz.prog C s oA oc w 104 [pT C.r 0,iG i,vS aA l.length ac] oV (bU C.E call i l s):=by
 refine AR 63 [pT C.r 0,iG i,vS aA l.length ac] Tryz.func104 ?_;have hM:=Mem.jS hR;refine aG<|lO hM 42 (iG i) (iV i) fun b1 w2 iW M3=> ?_
 replace M3:=M3.nf;clear hM;refine ae 1<|au<|aU<|aU ?_;obtain⟨B4,pL⟩:∃B:Bool,B=decide (i.op<13):=⟨_,rfl⟩;refine cU [0,2,4] ?_;intro aC fr;refine mi (aP [eR b1 0,eI i.op,eR C.r 0,eR C.r 0,eR C.r 11,eS (some C.oP) 13 13,eI 13,eB B4]) fr (lk lz dP (dL (aZ b1) _ fun w_ hK=>(aa ((M3.an hK).get 3 rfl) rfl)) dP dP dP (dL (ah C.r 11) _ fun w_ hK=>(aa ((M3.an hK).get 0 rfl) rfl)) dP (dC (decide (i.op<13)) pL)) ?_;intro aC w9 vs hK hv fr;revert aC;refine bQ [(0,pT C.r 0),(2,vS aA l.length ac),(4,pT b1 0),(18,vB B4)] ?_;have ia:=M3.an hK;clear hK hv fr aC M3;clear vs;have qi:B4=true↔((i.op:Int)<13):=by rw[pL];simp only[aE]
 clear pL;refine eF B4 ((i.op:Int)<13) qi (fun wM=> ?_) (fun wM=> ?_);exact absurd ma oM;refine bN<|aU<|aG<|ae 1<|bB (aZ b1) _ (aa (ia.get 3 rfl) rfl)<|ae 1<|au<|gp ((i.op:Int)≥40) (fun uc=> ?_) (fun uc=> ?_);exact absurd ma oM;refine bN<|aU ?_;obtain⟨jT,rfl⟩:=ek (ia.ro hl) oM;refine cU [0,2,4] ?_;intro aC fr;refine mE 14 (aP [eR b1 0,eI i.op,eI (i.op-16),eS (some jT) l.length ac,eA jT (0:Int) 1,eI (a0 l),eS (some jT) l.length ac,eA jT (1:Int) 1,eI (a1 l),.bb (.tuple #[vI ((cA (i.op-16) (a0 l) (a1 l)).1),vI ((cA (i.op-16) (a0 l) (a1 l)).2)]),.bb (.tuple #[vI ((cA (i.op-16) (a0 l) (a1 l)).1),vI ((cA (i.op-16) (a0 l) (a1 l)).2)]),eI ((cA (i.op-16) (a0 l) (a1 l)).1),eI ((cA (i.op-16) (a0 l) (a1 l)).2),eI ((cA (i.op-16) (a0 l) (a1 l)).1)]) fr (oh (eL lz dP (dL (aZ b1) _ fun w_ hK=>(aa ((ia.an hK).get 3 rfl) rfl)) (dA (i.op-16)) dP (dI jT l.length 1 0) (dL (aN jT (0:Int) 1) _ fun w_ hK=>(cY ((ia.an hK).ro hl) rfl oM oM)) dP (dI jT l.length 1 1) (dL (aN jT (1:Int) 1) _ fun w_ hK=>(cY ((ia.an hK).ro hl) rfl oM oM)) (dD (vs:=#[vI (i.op-16),vI (a0 l),vI (a1 l)]) (fun w_ hK=>Qaj _ _ _ w_) rfl) dP dP) dP dP) ?_;intro aC I5 vs hK hv fr;revert aC;refine bQ [(0,pT C.r 0),(9,vI ((cA (i.op-16) (a0 l) (a1 l)).1)),(56,vI ((cA (i.op-16) (a0 l) (a1 l)).2))] ?_;have kA:=ia.an hK;clear hK hv fr aC ia;clear vs;refine ae 1<|au<|aU<|aW<|eF (((cA (i.op-16) (a0 l) (a1 l)).2:Int) !=0) (((cA (i.op-16) (a0 l) (a1 l)).2:Int)≠0) (by simp only[de]) (fun Fq=> ?_) (fun Fq=> ?_);refine cN<|ae 2<|uV (rf C.r 2 ((cA (i.op-16) (a0 l) (a1 l)).2) I5) (fun _ yr ⟨lU,mM⟩ a_ mw=>by subst lU;exact zf mw (⟨_,_,s,oA,oc,by rw[qP oM oM,aB oM],rfl,hG,(kA.cl mM).tk 3⟩)) ?_;rintro _ Vx h_;exact h_.elim;refine bN<|aW<|bG<|DT (vI ((cA (i.op-16) (a0 l) (a1 l)).1)) ?_;exact⟨_,s,oA,oc,by rw[qP oM oM,bC oM],rfl,hG,kA.tk 3⟩
end Go.Proofs.YtjekgaabcigphaaGreat
namespace Go.Proofs.YtjekgaabcigphaaGreat
open Go.Mor
theorem Qck(C:RC)(s:cV)(oA:ao)(oc:Nat)(w:World)(hC:C.WF)(hG:dR C s)(hR:(bx.pk (dV C s oA oc)).holds w)(hA:RO (rS C s oA oc) w C.ro)(call:Int→af→cV→ed Int)(i:cH)(l:af)(aA:ao)(ac:Nat)(hl:RO (rS C s oA oc) w (.rd aA (ints l)))(hs:bV i)(hlen:l.length=i.args.length)(hac:l.length≤ac)(b:Int)(qa:qR Tryz.prog C 50 call b)(hb:C.E.fuel-s.steps<b):gQ Tryz.prog C s oA oc w 104 [pT C.r 0,.agg #[vI i.op,vI i.dst,vI i.n,.string i.name,.slice i.A i.args.length i.c],.slice aA l.length ac] oV (bU C.E call i l s):=by
 rcases hs.2 with h|h|h|h|h|h|h|h|h|h|h
 ·exact mz C s oA oc w hC hG hR hA i l aA ac hl _ 14 1 h.1 dQ rfl kR (fun w1 m ha hw=>R9 C s oA oc w1 hC hG m call i l aA ac hw h.1)
 ·exact mz C s oA oc w hC hG hR hA i l aA ac hl _ 15 2 h.1 dQ rfl kR (fun w1 m ha hw=>Qcc C s oA oc w1 hC hG m call i l aA ac hw h.1 oM)
 ·exact mz C s oA oc w hC hG hR hA i l aA ac hl _ 16 3 h.1 dQ rfl kR (fun w1 m ha hw=>Xv C s oA oc w1 hC hG m call i l aA ac hw h.1 oM)
 ·exact mz C s oA oc w hC hG hR hA i l aA ac hl _ 17 4 h.1 dQ rfl kR (fun w1 m ha hw=>Qcd C s oA oc w1 hC hG m ha call i l aA ac hw h.1 b qa hb oM)
 ·cases l with
  |nil=>simp only[gX]at hlen;omega
  |cons x0 l1=>
   simp only[eZ]at hlen hac;exact mz C s oA oc w hC hG hR hA i (x0::l1) aA ac hl _ 18 5 h.1 dQ rfl kR (fun w1 m ha hw=>Sb C s oA oc w1 hC hG m ha call i x0 l1 aA ac hw h.1 hac oM b qa hb)
 ·rcases h.1 with h1|h1
  ·exact mz C s oA oc w hC hG hR hA i l aA ac hl _ 19 6 h1 dQ rfl kR (fun w1 m ha hw=>Xw C s oA oc w1 hC hG m ha call i l aA ac hw h1)
  ·exact mz C s oA oc w hC hG hR hA i l aA ac hl _ 20 7 h1 dQ rfl kR (fun w1 m ha hw=>Xx C s oA oc w1 hC hG m ha call i l aA ac hw h1)
 ·rcases h.1 with h1|h1|h1
  ·exact mz C s oA oc w hC hG hR hA i l aA ac hl _ 21 8 h1 dQ rfl kR (fun w1 m ha hw=>Xy C s oA oc w1 hC hG m call i l aA ac hw h1 oM)
  ·exact mz C s oA oc w hC hG hR hA i l aA ac hl _ 23 10 h1 dQ rfl kR (fun w1 m ha hw=>Xz C s oA oc w1 hC hG m call i l aA ac hw h1 oM)
  ·exact mz C s oA oc w hC hG hR hA i l aA ac hl _ 25 12 h1 dQ rfl kR (fun w1 m ha hw=>Sa C s oA oc w1 hC hG m call i l aA ac hw h1 oM)
 ·exact mz C s oA oc w hC hG hR hA i l aA ac hl _ 22 9 h.1 dQ rfl kR (fun w1 m ha hw=>Qcg C s oA oc w1 hC hG m ha call i l aA ac hw h.1 oM)
 ·exact mz C s oA oc w hC hG hR hA i l aA ac hl _ 24 11 h.1 dQ rfl kR (fun w1 m ha hw=>Xu C s oA oc w1 hC hG m call i l aA ac hw h.1 oM)
 ·exact Sd C s oA oc w hC hG hR hA call i l aA ac hl h.1 oM
 ·exact XA C s oA oc w hC hG hR hA call i l aA ac hl h.1 oM
theorem Qcl(C:RC)(s:cV)(oA:ao)(oc:Nat)(w:World)(hC:C.WF)(hG:dR C s)(hR:(bx.pk (dV C s oA oc)).holds w)(hA:RO (rS C s oA oc) w C.ro)(call:Int→af→cV→ed Int)(i:cH)(l:af)(m:Nat)(hm:m=l.length)(aA:ao)(ac:Nat)(hl:RO (rS C s oA oc) w (.rd aA (ints l)))(hs:bV i)(hlen:l.length=i.args.length)(hac:l.length≤ac)(b:Int)(qa:qR Tryz.prog C 50 call b)(hb:C.E.fuel-s.steps<b):gQ Tryz.prog C s oA oc w 104 [pT C.r 0,.agg #[vI i.op,vI i.dst,vI i.n,.string i.name,.slice i.A i.args.length i.c],.slice aA m ac] oV (bU C.E call i l s):=by
 subst hm;exact Qck C s oA oc w hC hG hR hA call i l aA ac hl hs hlen hac b qa hb
end Go.Proofs.YtjekgaabcigphaaGreat
namespace Go.Mor
open Go.RowKit
theorem Jr{w:World}{b t:Nat}{cs:aO}(h:(bx.aL b t cs).holds w)(hl:cs.length≤maxLen):(bx.row t 1 (some (aZ b)) cs.length cs.length cs).holds w:=by
 refine⟨sI,.inr ⟨b,cs.length,cs.toArray,rfl,cf _,h,cB _,hl,sI,sI⟩⟩
theorem Mem.QfC{S:Nat→Prop}{w0 w:World}{L:List bx}(h:Mem S w0 w L)(i:Nat){b t:Nat}{cs:aO}(hi:L[i]?=some (.aL b t cs))(hl:cs.length≤maxLen):Mem S w0 w (L.set i (.row t 1 (some (aZ b)) cs.length cs.length cs)):=h.say i hi (fun hb=>Jr hb hl) (fun g ⟨a,ha,hb⟩=>by injection ha with ha;subst ha;exact hb.symm)
theorem Js{w:World}{A:ao}{xs ys:aO}(h:(bx.rd A (xs++ys)).holds w):(bx.rd A xs).holds w:=fun j v hj=>h j v (by rw[List.getElem?_append_left (List.getElem?_eq_some_iff.1 hj).1];exact hj)
theorem RO.Js{S:Nat→Prop}{w:World}{A:ao}{xs ys:aO}(h:RO S w (.rd A (xs++ys))):RO S w (.rd A xs):=⟨Mor.Js h.1,fun g hg=>h.2 g ⟨fun e=>hg.1 (List.append_eq_nil_iff.1 e).1,hg.2⟩⟩
abbrev bS(C:RC)(s:cV)(oA:ao)(oc vg:Nat)(vals:af):Nat→Prop:=(bx.pk (dV C s oA oc++[.row 2 1 (some (aZ vg)) vals.length vals.length (ints vals)])).fp
theorem Qcm{α:Type}{z:Value}{g:α→Value}{l:List α}{n:Int}{f:α}(h1:1≤n)(h:l[(n-1).toNat]?=some f):(z::l.map g)[n.toNat]?=some (g f):=by
 rw[show n.toNat=(n-1).toNat+1 by omega,List.getElem?_cons_succ,List.getElem?_map,h];rfl
theorem dZ.Jt{f:dZ}{k:Nat}{q:ao×Nat×af}(h:f.bO[k]?=some q):f.src k=q.2.2:=by simp[dZ.src,List.getD,h]
theorem Lz{l:af}{k:Int}(h:k∈l):ow (fun x=>x==k) l=(fm l k:Nat)∧fm l k<l.length:=by
 have key:l.findIdx? (fun x=>x==k)=some (fm l k)∧fm l k<l.length:=by
  induction l with
  |nil=>cases h
  |cons x r ih=>
   by_cases e:x=k
   ·subst e;rw[List.findIdx?_cons];simp[fm]
   ·have hr:k∈r:=by
     rcases db.1 h with h|h
     ·exact absurd h.symm e
     ·exact h
    obtain⟨h1,h2⟩:=ih hr;have e2:(x==k)=false:=by simpa using e
    rw[List.findIdx?_cons,e2,h1];simp only[fm,aB e];refine⟨sI,by simp;omega⟩
 unfold ow;rw[key.1];exact⟨rfl,key.2⟩
def mb(at_:Nat)(vals:af)(p:gv):Int:=vals.getD (p.args.getD at_ 0).toNat 0
def me(ps:List gv)(at_:Nat)(vals:af)(j:Nat):af:=(ps.take j).map (mb at_ vals)++List.replicate (ps.length-j) 0
theorem Ju(ps:List gv)(at_:Nat)(vals:af):List.replicate ps.length (vI 0)=ints (me ps at_ vals 0):=by simp[me,ints]
theorem Nz{ps:List gv}{at_:Nat}{vals:af}{j:Nat}(h:j≤ps.length):(me ps at_ vals j).length=ps.length:=by simp[me];omega
theorem NA{ps:List gv}{at_:Nat}{vals:af}{j:Nat}{p:gv}(h:ps[j]?=some p):(me ps at_ vals j).set j (mb at_ vals p)=me ps at_ vals (j+1):=by
 obtain⟨hj,he⟩:=List.getElem?_eq_some_iff.1 h;unfold me;rw[fO hj,he,di,og _ _ (by simp;omega)];rw[show ps.length-j=(ps.length-(j+1))+1 by omega,nX];simp[tS (rG hj)]
theorem NB{ps:List gv}{at_:Nat}{vals:af}{j:Nat}{p:gv}(h:ps[j]?=some p):(me ps at_ vals ps.length).getD j 0=mb at_ vals p:=by
 simp[me,List.getD,h]
theorem ta:∀(l:List (Int×Int)) (vals:af),(ox vals l).length=vals.length
 |[],_=>rfl
 |(d,v)::r,vals=>by unfold ox;rw[ta r];simp
theorem wQ:∀(l:List (Int×Int)) (vals:af) (d v:Int),ox vals (l++[(d,v)])=(ox vals l).set d.toNat v
 |[],_,_,_=>rfl
 |(d0,v0)::r,vals,d,v=>by show ox (vals.set d0.toNat v0) (r++[(d,v)])=_;rw[wQ r];rfl
def mf(ps:List gv)(at_:Nat)(vals:af)(j:Nat):af:=ox vals ((ps.take j).map (fun p=>(p.dst,mb at_ vals p)))
theorem zG{ps:List gv}{at_:Nat}{vals:af}{j:Nat}{p:gv}(h:ps[j]?=some p):(mf ps at_ vals j).set p.dst.toNat (mb at_ vals p)=mf ps at_ vals (j+1):=by
 obtain⟨hj,he⟩:=List.getElem?_eq_some_iff.1 h;unfold mf;rw[fO hj,he,di];exact(wQ _ _ _ _).symm
theorem zH(ps:List gv)(at_:Nat)(vals:af):mf ps at_ vals 0=vals:=by simp[mf,ox]
theorem NC(ps:List gv)(at_:Nat)(vals:af)(j:Nat):(mf ps at_ vals j).length=vals.length:=ta _ _
theorem v8(ps:List gv)(at_:Nat)(vals:af):mf ps at_ vals ps.length=lh ps at_ vals:=by simp[mf,lh,mb]
theorem Se{w:World}{A:ao}{ad:Addr}{ps:List gv}{at_:Nat}{vals:af}{j:Nat}{p:gv}(h:(bx.rd A (ints (me ps at_ vals ps.length))).holds w)(hA:A=some ad)(hp:ps[j]?=some p):w.cell? (ad.add ((j:Int).toNat*1))=some (vI (mb at_ vals p)):=by
 refine g9 h hA ?_;have hj:=(List.getElem?_eq_some_iff.1 hp).1;have h1:=NB (at_:=at_) (vals:=vals) hp;have hl:j<(me ps at_ vals ps.length).length:=by rw[Nz (cB _)];exact hj
 rw[List.getElem?_eq_getElem hl];simp only[List.getD,List.getElem?_eq_getElem hl,kK]at h1;rw[h1]
theorem LA{l:af}{i:Nat}(h:i<l.length):l.getD i 0∈l:=by simp[List.getD,h]
def ns(args al vals:af)(q:Nat):af:=eG vals (args.take q)++al.drop q
theorem GF(args al vals:af):ns args al vals 0=al:=by simp[ns,eG]
theorem Jv{args al vals:af}{q:Nat}{v:Int}(h:args[q]?=some v)(h2:args.length≤al.length):(ns args al vals q).set q (vals.getD v.toNat 0)=ns args al vals (q+1):=by
 obtain⟨hq,he⟩:=List.getElem?_eq_some_iff.1 h;unfold ns eG;rw[fO hq,he,di,og _ _ (by simp;omega)];have e:al.drop q=al[q]'oM::al.drop (q+1):=sm oM;simp[tS (rG hq)];rw[e];rfl
theorem Jw(args al vals:af):ns args al vals args.length=eG vals args++al.drop args.length:=by simp[ns]
theorem lH(vals args:af):(eG vals args).length=args.length:=by simp[eG]
theorem gO{α β:Type}{g:ed α}{a:α}{s:cV}{f:α→cV→ed β}(h:g= .ok a s):g.bind f=f a s:=by rw[h];rfl
theorem fK{α β:Type}{g:ed α}{k c:Int}{s:cV}{f:α→cV→ed β}(h:g= .stop k c s):g.bind f= .stop k c s:=by rw[h];rfl
def GG(i:cH)(vals:af)(v:Int):af:=if 0≤i.dst∧aR i.op then vals.set i.dst.toNat v else vals
theorem GH(i:cH)(vals:af)(v:Int):(GG i vals v).length=vals.length:=by unfold GG;split<;>simp
theorem Sf{i:cH}{vals:af}{v:Int}(h:0≤i.dst∧aR i.op):GG i vals v=vals.set i.dst.toNat v:=bC h
theorem XB{i:cH}{vals:af}{v:Int}(h:¬(0≤i.dst∧aR i.op)):GG i vals v=vals:=aB h
def CK(E:Env0)(x:bF)(vals:af)(s:cV):ed (Int×Int×af):=(eN E s).bind fun _ s=>
  if x.e=0 then .ok (x.a,0,vals) s
  else if x.e=1 then .ok (if vals.getD x.v.toNat 0≠0 then x.a else x.b,0,vals) s
  else if x.e=3 then .stop 2 x.a s
  else .ok (-1,if x.v≥0 then vals.getD x.v.toNat 0 else 0,vals) s
section
variable {E : Env0} {call : Int → List Int → cV → ed Int}
theorem zI{f:dZ}{k from_:Int}{vals:af}{s:cV}{x:bF}(h:f.aJ[k.toNat]?=some x):gG E call f k from_ vals s=(fe E call x.insts (lh x.aK (fm (f.src k.toNat) from_) vals) s).bind (CK E x):=by
 unfold gG;rw[h];rfl
theorem ux{is:List cH}{j:Nat}{i:cH}{vals:af}{s:cV}(h:is[j]?=some i):fe E call (is.drop j) vals s=(eN E s).bind fun _ s=>(bU E call i (eG vals i.args) s).bind fun v s=>fe E call (is.drop (j+1)) (GG i vals v) s:=by
 obtain⟨hj,he⟩:=List.getElem?_eq_some_iff.1 h;rw[sm hj,he];rfl
theorem ND{is:List cH}{j:Nat}{vals:af}{s:cV}(h:is.length≤j):fe E call (is.drop j) vals s= .ok vals s:=by
 rw[tE h];rfl
theorem pM{s s':cV}{x:Unit}(h:eN E s= .ok x s'):s'.steps=s.steps+1:=by
 unfold eN at h;split at h
 ·cases h
 ·injection h with h1 h2;subst h2;rfl
def GI(call:Int→af→cV→ed Int):Prop:=∀n l s x s',call n l s= .ok x s'→s.steps≤s'.steps
theorem uy{n:Int}{s s':cV}{k:Nat}(h:AU n s= .ok k s'):s'=s:=by
 unfold AU at h;split at h
 ·cases h
 ·injection h with h1 h2;exact h2.symm
theorem pN(hm:GI call){i:cH}{l:af}{s s':cV}{x:Int}(h:bU E call i l s= .ok x s'):s.steps≤s'.steps:=by
 have fin:∀(y:Int) (s2:cV),s.steps≤s2.steps→ed.ok y s2=ed.ok x s'→s.steps≤s'.steps:=by intro y s2 h1 h2;injection h2 with _ h2;rw[←h2];exact h1
 by_cases h1:i.op=1
 ·rw[DW h1]at h;exact fin _ _ (dX _) h
 by_cases h2:i.op=2
 ·rw[vq h2]at h;cases hq:AU (IntKind.i64.wrap (a0 l+i.n)) s with
  |ok k s2=>rw[gO hq]at h;exact fin _ _ (by rw[uy hq];exact dX _) h
  |stop k c s2=>rw[fK hq]at h;cases h
 by_cases h3:i.op=3
 ·rw[vr h3]at h;cases hq:AU (IntKind.i64.wrap (a0 l+i.n)) s with
  |ok k s2=>rw[gO hq]at h;exact fin _ _ (by rw[uy hq];exact dX _) h
  |stop k c s2=>rw[fK hq]at h;cases h
 by_cases h4:i.op=4
 ·rw[vt h4]at h;split at h
  ·exact hm _ _ _ _ _ h
  ·cases h
 by_cases h5:i.op=5
 ·rw[zi h5]at h;exact hm _ _ _ _ _ h
 by_cases h6:i.op=6
 ·rw[vu h6]at h;split at h
  ·exact fin _ _ (dX _) h
  ·cases h
 by_cases h7:i.op=7
 ·rw[vv h7]at h;split at h
  ·exact fin _ _ (dX _) h
  ·cases h
 by_cases h8:i.op=8
 ·rw[vw h8]at h;split at h
  ·cases h
  ·split at h
   ·cases h
   ·exact fin _ {s with next:=s.next+a0 l} (dX _) h
 by_cases h9:i.op=9
 ·rw[zk h9]at h;split at h
  ·exact fin _ {s with pos:=s.pos+1} (dX _) h
  ·exact fin _ _ (dX _) h
 by_cases FV:i.op=10
 ·rw[tY FV]at h;exact fin _ _ (by split<;>exact dX _) h
 by_cases Qz:i.op=11
 ·rw[rI Qz]at h;split at h
  ·cases h
  ·exact fin _ _ (dX _) h
 by_cases h12:i.op=12
 ·rw[ya h12]at h;exact fin _ _ (dX _) h
 by_cases h40:i.op≥40
 ·rw[yb h40]at h;exact fin _ _ (dX _) h
 rw[qP oM oM]at h;split at h
 ·exact fin _ _ (dX _) h
 ·cases h
theorem zJ{x:bF}{vals:af}{s s2:cV}{u:Unit}(h:eN E s= .ok u s2):CK E x vals s=if x.e=0 then .ok (x.a,0,vals) s2 else if x.e=1 then .ok (if vals.getD x.v.toNat 0≠0 then x.a else x.b,0,vals) s2 else if x.e=3 then .stop 2 x.a s2 else .ok (-1,if x.v≥0 then vals.getD x.v.toNat 0 else 0,vals) s2:=gO h
end
end Go.Mor
namespace Go.Mor
theorem zK{i:cH}(h:bV i):i.args.length≤17:=by
 rcases h.2 with h|h|h|h|h|h|h|h|h|h|h<;>omega
theorem CL{N:Int}{x:bF}(h:jm N x):x.e=0∨x.e=1∨x.e=2∨x.e=3:=by
 rcases h with h|h|h|h
 ·exact .inl h.1
 ·exact .inr (.inl h.1)
 ·exact .inr (.inr (.inl h.1))
 ·exact .inr (.inr (.inr h.1))
end Go.Mor
namespace Go.Proofs.YtjekgaabcigphaaGreat
open Go.Mor
theorem Sg(nm:aM)(wk:Bool)(pa va:Int)(A:ao)(c:Nat)(fs:List bF)(w:World)(hN:fs.length≤1000)(jV:xX fs)(hA:RO aX w (.fn A fs)):Calls Tryz.prog 11 #[fA nm wk pa va A c fs] w (ff fun v w'=>v=vI ((gI fs:Nat):Int)∧Mem aX w w' []):=by
 have xy:=dd fs;have hm:(aq fs).length≤1000000:=oM;have hB:=hA.bs;refine gF 27 [fA nm wk pa va A c fs] Tryz.func11 ?_;have hM:=Mem.init w;refine aG<|lO hM 35 (fA nm wk pa va A c fs) (fV nm wk pa va A c fs) fun b1 w2 iW M3=> ?_
 replace M3:=M3.nf;clear hM;refine ae 1<|au<|aG<|ae 1<|bB (ah b1 4) _ (aa (M3.get 0 rfl) rfl)<|ae 2<|au<|aU<|aG<|ae 1 ?_;refine bB (ah b1 4) _ (aa (M3.get 0 rfl) rfl)<|ae 2<|au<|cC 0 ?_;intro aC fr;refine fX (fun n_ a_ w_=>∃(k:Nat) (q:Nat),n_=fs.length-k∧Fr a_ 27 [(3,nV q),(10,vS A ((aq fs).length) c),(11,(vI ((aq fs).length:Int))),(12,nV k)]∧Mem aX w w_ [.aL b1 35 (fV nm wk pa va A c fs)]∧(k≤fs.length)∧(q=fs.length+mr fs k)) (n:=_) ⟨0,(aq fs).length,rfl,fr.kp [3,10,11,12],M3,oM,by rw[xy,qM];rfl⟩ ?_;clear fr aC M3;rintro n aC w6 ⟨k,q,rfl,fr,M7,hk,hq⟩;revert aC;refine aW<|aU<|gp ((k:Int)<((aq fs).length:Int)) (fun yh=> ?_) (fun yh=> ?_);refine bN<|aU<|cC 1<|aG ?_;obtain⟨x,hx⟩:=aY (l:=fs) (i:=k) oM;have s5:x.aK.length≤281474976710656:=(jV.get hx).lp;have Fj:x.insts.length≤281474976710656:=(jV.get hx).li;have Xb:=vl jV k hk;obtain⟨kT,rfl⟩:=eV (M7.ro hB) (hU hx);refine eM kT ((aq fs).length) 6 (k:Int)<|gS (aN kT (k:Int) 6) (xV x) (ei (M7.ro hB) rfl hx)<|m8 M7 46 [ag,ag,vI 0,vI 0,vI 0,vI 0] fun b12 MU hb12 mK=> ?_
 replace mK:=mK.nf;refine nG mK 1 (xV x) rfl fun Vp nh=> ?_
 replace nh:=nh.nf;refine au<|cN<|ae 2<|bB (aZ b12) _ (aa (nh.get 1 rfl) rfl)<|ae 2<|bB (ah b12 1) _ (aa (nh.get 1 rfl) rfl)<|ae 1<|dw ((x.aK.length:Int)+(x.insts.length:Int))<|dw ((q:Int)+((x.aK.length:Int)+(x.insts.length:Int)))<|cU [10,11,12,24] ?_;refine ae 1<|au<|cN<|dw ((k:Int)+1)<|ae 1<|au ?_;intro aC fr;exact⟨fs.length-(k+1),oM,k+1,q+(x.aK.length+x.insts.length),rfl,fr.kp [3,10,11,12],(nh.tk 1),oM,by rw[hq,lY hx];omega⟩;refine fP 0<|fQ<|aW<|bG<|cK (nV q) ?_;obtain rfl:k=fs.length:=oM;have kA:=M7.od [] 0;exact⟨by rw[hq];rfl,kA⟩
theorem XC(nm:aM)(wk:Bool)(pa va:Int)(A:ao)(c:Nat)(fs:List bF)(w:World)(hN:fs.length≤1000)(jV:xX fs)(hA:RO aX w (.fn A fs)):Calls Tryz.prog 55 #[fA nm wk pa va A c fs] w (ff fun v w'=>v=vI ((gI fs:Nat):Int)∧Mem aX w w' []):=by
 have xy:=dd fs;have hm:(aq fs).length≤1000000:=oM;have hB:=hA.bs;refine gF 33 [fA nm wk pa va A c fs] Tryz.func55 ?_;have hM:=Mem.init w;refine aG<|lO hM 35 (fA nm wk pa va A c fs) (fV nm wk pa va A c fs) fun b1 w2 iW M3=> ?_
 replace M3:=M3.nf;clear hM;refine ae 1<|au<|aG<|ae 1<|bB (ah b1 4) _ (aa (M3.get 0 rfl) rfl)<|ae 2<|au<|aU<|aW<|cC 0 ?_;intro aC fr;refine fX (fun n_ a_ w_=>∃(k:Nat) (q:Nat),n_=fs.length-k∧Fr a_ 33 [(1,pT b1 0),(3,nV q),(4,nV k)]∧Mem aX w w_ [.aL b1 35 (fV nm wk pa va A c fs)]∧(k≤fs.length)∧(q=fs.length+mr fs k)) (n:=_) ⟨0,(aq fs).length,rfl,fr.kp [1,3,4],M3,oM,by rw[xy,qM];rfl⟩ ?_;clear fr aC M3;rintro n aC w6 ⟨k,q,rfl,fr,M7,hk,hq⟩;revert aC;refine aU<|aG<|ae 2<|bB (ah b1 4) _ (aa (M7.get 0 rfl) rfl)<|ae 2<|au<|gp ((k:Int)<((aq fs).length:Int)) (fun yh=> ?_) (fun yh=> ?_);refine bN<|aU<|cC 1 ?_;obtain⟨x,hx⟩:=aY (l:=fs) (i:=k) oM;have s5:x.aK.length≤281474976710656:=(jV.get hx).lp;have Fj:x.insts.length≤281474976710656:=(jV.get hx).li;have Xb:=vl jV k hk;obtain⟨kT,rfl⟩:=eV (M7.ro hB) (hU hx);obtain⟨x,hx⟩:=aY (l:=fs) (i:=k) oM;have s5:x.aK.length≤281474976710656:=(jV.get hx).lp;have Fj:x.insts.length≤281474976710656:=(jV.get hx).li;have Xb:=vl jV k hk;refine cU [1,3,4] ?_;intro aC fr;refine mi (aP [.bb (nV q),eR b1 4,eS (some kT) ((aq fs).length) c,.bb (nV k),eA kT (k:Int) 6,eA kT (k:Int) 6,eS x.pA x.aK.length x.pc,eI (x.aK.length:Int),eI ((q:Int)+(x.aK.length:Int)),eR b1 4,eS (some kT) ((aq fs).length) c,.bb (nV k),eA kT (k:Int) 6,eP ((aN kT (k:Int) 6).add 1),eS x.iA x.insts.length x.ic,eI (x.insts.length:Int),eI ((((q+(x.aK.length+x.insts.length):Nat)):Int)),eI ((((q+(x.aK.length+x.insts.length):Nat)):Int))]) fr (la (qh (eL lz dP dP (dL (ah b1 4) _ fun w_ hK=>(aa ((M7.an hK).get 0 rfl) rfl)) dP (dI kT ((aq fs).length) 6 (k:Int)) dP (dL (aN kT (k:Int) 6) _ fun w_ hK=>(ei ((M7.an hK).ro hB) rfl hx 0 _ rfl)) dP (dA ((q:Int)+(x.aK.length:Int))) dP (dL (ah b1 4) _ fun w_ hK=>(aa ((M7.an hK).get 0 rfl) rfl)) dP) (dI kT ((aq fs).length) 6 (k:Int)) dP (dL ((aN kT (k:Int) 6).add 1) _ fun w_ hK=>(ei ((M7.an hK).ro hB) rfl hx 1 _ rfl)) dP ?_) dP) ?_;intro gd w_ vs eg hK hp hF;refine mO (g0:=none) ?_;replace hF:Fr gd 33 [(23,(vI ((q:Int)+(x.aK.length:Int)))),(30,(vI (x.insts.length:Int)))]:=hF.kp [23,30];refine jk (kR:ay _ 0=some (some 31,.binOp .add 3 (.tmp 23) (.tmp 30) 3,3,none)) hF kR kR (k':=1) rfl (i:=((q:Int)+(x.aK.length:Int))) (j:=(x.insts.length:Int)) (z:=((((q+(x.aK.length+x.insts.length):Nat)):Int))) kR kR (bE some oM) oM oM ?_;intro a2 ea _;refine bl kR ?_;exact xW (d:=some 31) kR ea (Kp.refl _) rfl;intro aC vF vs hK hv fr;revert aC;refine bQ [(1,pT b1 0),(3,(vI ((((q+(x.aK.length+x.insts.length):Nat)):Int)))),(4,nV k)] ?_;have kn:=M7.an hK;clear hK hv fr aC M7;clear vs;refine cN<|ae 1<|dw ((k:Int)+1)<|ae 1<|au ?_;intro aC fr;exact⟨fs.length-(k+1),oM,k+1,q+(x.aK.length+x.insts.length),rfl,fr.kp [1,3,4],kn,oM,by rw[hq,lY hx];omega⟩;refine fP 0<|fQ<|aW<|bG<|cK (nV q) ?_;obtain rfl:k=fs.length:=oM;have nN:=M7.od [] 0;exact⟨by rw[hq];rfl,nN⟩
end Go.Proofs.YtjekgaabcigphaaGreat
namespace Go.Proofs.YtjekgaabcigphaaGreat
open Go.Mor
theorem nt(nm:aM)(w:World):Calls Tryz.prog 39 #[vT nm] w (ff fun v w'=>v=vB (decide (br nm))∧Mem aX w w' []):=by
 refine gF 11 [vT nm] Tryz.func39 ?_;have hM:=Mem.init w;refine aW<|aG<|ae 4 ?_;obtain⟨B1,jw⟩:∃B:Bool,B=decide ((((nm).size:Int):Int)≥1):=⟨_,rfl⟩;refine bQ [(0,vT nm),(6,(vB (decide ((((nm).size:Int):Int)≥1))))] ?_;rw[←jw];have qk:B1=true↔((((nm).size:Int):Int)≥1):=by rw[jw];simp only[aE]
 clear jw;intro aC fr;refine cE 5 9 [2,10] fr (news:=[(2,(vB (B1&&decide ((((nm).size:Int):Int)≤60)))),(10,(vB (B1&&decide ((((nm).size:Int):Int)≤60))))]) (by cases B1<;>kernel_rfl) ?_;intro aC fr;revert aC;refine au<|bG<|cK (vB (B1&&decide ((((nm).size:Int):Int)≤60))) ?_;have hR:(B1&&decide ((((nm).size:Int):Int)≤60))=true↔(((((nm).size:Int):Int)≥1)∧((((nm).size:Int):Int)≤60)):=by simp only[bo,aE,qk]
 exact⟨bf hR (by unfold br;omega),hM⟩
theorem yu(nm:aM)(w:World):Calls Tryz.prog 56 #[vT nm] w (ff fun v w'=>v=vB (decide (br nm))∧Mem aX w w' []):=by
 refine gF 11 [vT nm] Tryz.func56 ?_;have hM:=Mem.init w;refine aW<|aG<|ae 4 ?_;obtain⟨B1,jw⟩:∃B:Bool,B=decide ((((nm).size:Int):Int)≥1):=⟨_,rfl⟩;refine bQ [(0,vT nm),(6,(vB (decide ((((nm).size:Int):Int)≥1))))] ?_;rw[←jw];have qk:B1=true↔((((nm).size:Int):Int)≥1):=by rw[jw];simp only[aE]
 clear jw;intro aC fr;refine cE 5 9 [2,10] fr (news:=[(2,(vB (B1&&decide ((((nm).size:Int):Int)≤60)))),(10,(vB (B1&&decide ((((nm).size:Int):Int)≤60))))]) (by cases B1<;>kernel_rfl) ?_;intro aC fr;revert aC;refine au<|bG<|cK (vB (B1&&decide ((((nm).size:Int):Int)≤60))) ?_;have hR:(B1&&decide ((((nm).size:Int):Int)≤60))=true↔(((((nm).size:Int):Int)≥1)∧((((nm).size:Int):Int)≤60)):=by simp only[bo,aE,qk]
 exact⟨bf hR (by unfold br;omega),hM⟩
theorem Ez(op:Int)(w:World):Calls Tryz.prog 78 #[vI op] w (ff fun v w'=>v=vB (decide (aR op))∧Mem aX w w' []):=by
 refine gF 13 [vI op] Tryz.func78 ?_;have hM:=Mem.init w;refine aW<|aG<|ae 3 ?_;obtain⟨B1,jw⟩:∃B:Bool,B=((op:Int) !=3):=⟨_,rfl⟩;refine bQ [(0,vI op),(5,(vB ((op:Int) !=3)))] ?_;rw[←jw];have qk:B1=true↔((op:Int)≠3):=by rw[jw];simp only[de]
 clear jw;intro aC fr;refine cE 4 7 [8,9] fr (news:=[(8,(vB (B1&&((op:Int) !=10)))),(9,(vB (B1&&((op:Int) !=10))))]) (by cases B1<;>kernel_rfl) ?_;intro aC fr;obtain⟨B6,zL⟩:∃B:Bool,B=(B1&&((op:Int) !=10)):=⟨_,rfl⟩;revert aC;refine bQ [(0,vI op),(9,(vB (B1&&((op:Int) !=10))))] ?_;rw[←zL];have GJ:B6=true↔(((op:Int)≠3)∧((op:Int)≠10)):=by rw[zL];simp only[bo,de,qk]
 clear zL;intro aC fr;refine cE 4 11 [2,12] fr (news:=[(2,(vB (B6&&((op:Int) !=11)))),(12,(vB (B6&&((op:Int) !=11))))]) (by cases B6<;>kernel_rfl) ?_;intro aC fr;revert aC;refine au<|bG<|cK (vB (B6&&((op:Int) !=11))) ?_;have hR:(B6&&((op:Int) !=11))=true↔((((op:Int)≠3)∧((op:Int)≠10))∧((op:Int)≠11)):=by simp only[bo,de,GJ]
 exact⟨bf hR (by unfold aR;omega),hM⟩
theorem GK(op:Int)(w:World):Calls Tryz.prog 89 #[vI op] w (ff fun v w'=>v=vB (decide (aR op))∧Mem aX w w' []):=by
 refine gF 13 [vI op] Tryz.func89 ?_;have hM:=Mem.init w;refine aW<|aG<|ae 3 ?_;obtain⟨B1,jw⟩:∃B:Bool,B=((op:Int) !=3):=⟨_,rfl⟩;refine bQ [(0,vI op),(5,(vB ((op:Int) !=3)))] ?_;rw[←jw];have qk:B1=true↔((op:Int)≠3):=by rw[jw];simp only[de]
 clear jw;intro aC fr;refine cE 4 7 [8,9] fr (news:=[(8,(vB (B1&&((op:Int) !=10)))),(9,(vB (B1&&((op:Int) !=10))))]) (by cases B1<;>kernel_rfl) ?_;intro aC fr;obtain⟨B6,zL⟩:∃B:Bool,B=(B1&&((op:Int) !=10)):=⟨_,rfl⟩;revert aC;refine bQ [(0,vI op),(9,(vB (B1&&((op:Int) !=10))))] ?_;rw[←zL];have GJ:B6=true↔(((op:Int)≠3)∧((op:Int)≠10)):=by rw[zL];simp only[bo,de,qk]
 clear zL;intro aC fr;refine cE 4 11 [2,12] fr (news:=[(2,(vB (B6&&((op:Int) !=11)))),(12,(vB (B6&&((op:Int) !=11))))]) (by cases B6<;>kernel_rfl) ?_;intro aC fr;revert aC;refine au<|bG<|cK (vB (B6&&((op:Int) !=11))) ?_;have hR:(B6&&((op:Int) !=11))=true↔((((op:Int)≠3)∧((op:Int)≠10))∧((op:Int)≠11)):=by simp only[bo,de,GJ]
 exact⟨bf hR (by unfold aR;omega),hM⟩
theorem Sh(n:Int)(w:World):Calls Tryz.prog 75 #[vI n] w (ff fun v w'=>v=vB (decide (dY n))∧Mem aX w w' []):=by
 refine gF 9 [vI n] Tryz.func75 ?_;have hM:=Mem.init w;refine aW<|aG<|ae 3 ?_;obtain⟨B1,jw⟩:∃B:Bool,B=decide ((n:Int)≥1):=⟨_,rfl⟩;refine bQ [(0,vI n),(5,(vB (decide ((n:Int)≥1))))] ?_;rw[←jw];have qk:B1=true↔((n:Int)≥1):=by rw[jw];simp only[aE]
 clear jw;intro aC fr;refine cE 4 7 [2,8] fr (news:=[(2,(vB (B1&&decide ((n:Int)≤999)))),(8,(vB (B1&&decide ((n:Int)≤999))))]) (by cases B1<;>kernel_rfl) ?_;intro aC fr;revert aC;refine au<|bG<|cK (vB (B1&&decide ((n:Int)≤999))) ?_;have hR:(B1&&decide ((n:Int)≤999))=true↔(((n:Int)≥1)∧((n:Int)≤999)):=by simp only[bo,aE,qk]
 exact⟨bf hR (by unfold dY;omega),hM⟩
theorem LB(n:Int)(w:World):Calls Tryz.prog 94 #[vI n] w (ff fun v w'=>v=vB (decide (dH n))∧Mem aX w w' []):=by
 refine gF 9 [vI n] Tryz.func94 ?_;have hM:=Mem.init w;refine aW<|aG<|ae 3 ?_;obtain⟨B1,jw⟩:∃B:Bool,B=decide ((n:Int)≥0):=⟨_,rfl⟩;refine bQ [(0,vI n),(5,(vB (decide ((n:Int)≥0))))] ?_;rw[←jw];have qk:B1=true↔((n:Int)≥0):=by rw[jw];simp only[aE]
 clear jw;intro aC fr;refine cE 4 7 [2,8] fr (news:=[(2,(vB (B1&&decide ((n:Int)≤2147483647)))),(8,(vB (B1&&decide ((n:Int)≤2147483647))))]) (by cases B1<;>kernel_rfl) ?_;intro aC fr;revert aC;refine au<|bG<|cK (vB (B1&&decide ((n:Int)≤2147483647))) ?_;have hR:(B1&&decide ((n:Int)≤2147483647))=true↔(((n:Int)≥0)∧((n:Int)≤2147483647)):=by simp only[bo,aE,qk]
 exact⟨bf hR (by unfold dH;omega),hM⟩
end Go.Proofs.YtjekgaabcigphaaGreat
namespace Go.Proofs.YtjekgaabcigphaaGreat
open Go.Mor
theorem Si(l:af)(k:Int)(A:ao)(c:Nat)(w:World)(hm:l.length≤1000000)(hA:RO aX w (.rd A (ints l)))(mj:k∈l)(q:Nat)(hq:q=fm l k):Calls Tryz.prog 102 #[.slice A l.length c,vI k] w (ff fun v w'=>v=vI (q:Int)∧Mem aX w w' []):=by
 subst hq;refine(WK l k A c w hm hA).mono ?_;rintro e w' ⟨v,rfl,hv,h⟩;exact⟨v,rfl,by rw[hv,(Lz mj).1],h⟩
set_option maxHeartbeats 4000000 in
theorem XD(C:RC)(s:cV)(oA:ao)(oc:Nat)(w:World)(hC:C.WF)(hG:dR C s)(f:dZ)(n k from_:Int)(vals:af)(vg:Nat)(x:bF)(hR:(bx.pk (dV C s oA oc++[.row 2 1 (sM vg) vals.length vals.length (ints vals)])).holds w)(hA:RO (bS C s oA oc vg vals) w C.ro)(vE:1≤n)(D9:n≤C.E.fns.length)(hn:C.E.fns[(n-1).toNat]?=some f)(MS:0≤k)(hx:f.aJ[k.toNat]?=some x)(Sj:x.aK=[]∨from_∈f.src k.toNat)(hvl:vals.length=f.va.toNat)(call:Int→af→cV→ed Int)(b:Int)(qa:qR Tryz.prog C 50 call b)(LC:GI call)(hb:C.E.fuel-s.steps≤b):Calls Tryz.prog 84 #[pT C.r 0,(.agg #[vT f.nm,vB f.wk,vI f.pa,vI f.va,vS f.A ((aq f.aJ).length) f.c]),vI n,vI k,vI from_,vS (sM vg) vals.length vals.length] w (gK (fun v w'=>∃nx bk v' s' XE XF,gG C.E call f k from_ vals s= .ok (nx,bk,v') s'∧v= .tuple #[vI nx,vI bk]∧dR C s'∧v'.length=vals.length∧Mem (bS C s oA oc vg vals) w w' (dV C s' XE XF++[.row 2 1 (sM vg) vals.length vals.length (ints v')])) (fun v w'=>RP C (bS C s oA oc vg vals) w (gG C.E call f k from_ vals s) v w')):=by
 have hW:=hC.fns f (bu hn);have hX:=hW.aL _ _ hx;have qu:=hA.rfn hn;have hB:=qu.bs;have xy:=dd f.aJ;have hkl:=(List.getElem?_eq_some_iff.1 hx).1;have hli:=hX.li;have hlp:=hX.lp;have nO:=hW.va;have QfD:0≤f.va:=Int.le_trans hW.pa0 hW.pav;refine AR 171 [pT C.r 0,(.agg #[vT f.nm,vB f.wk,vI f.pa,vI f.va,vS f.A ((aq f.aJ).length) f.c]),vI n,vI k,vI from_,vS (sM vg) vals.length vals.length] Tryz.func84 ?_;have hM:=(Mem.jS hR:Mem (bS C s oA oc vg vals) w w [.aL C.r 60 (fB C s oA oc),.row 2 1 (sM C.mG) C.E.memN C.E.memN (ints s.mem),.row 5 1 oA s.out.length oc (ji s.out),.row 2 1 (sM vg) vals.length vals.length (ints vals)]);refine aG<|lO hM 35 (.agg #[vT f.nm,vB f.wk,vI f.pa,vI f.va,vS f.A ((aq f.aJ).length) f.c]) [vT f.nm,vB f.wk,vI f.pa,vI f.va,vS f.A ((aq f.aJ).length) f.c] fun b1 w2 iW M3=> ?_
 replace M3:=M3.nf;clear hM;refine ae 2<|au<|aG<|ae 1<|bB (ah b1 4) (vS f.A ((aq f.aJ).length) f.c) (aa (M3.get 4 rfl) rfl)<|ae 1 ?_;obtain⟨jK,QfE⟩:=eV (M3.ro hB) (hU hx);intro aC fr;refine bM (some 31) f.A jK ((aq f.aJ).length) 6 k fr kR QfE oM oM ?_;intro aC fr;revert aC;refine gS (aN jK (k) 6) (xV x) (ei (M3.ro hB) QfE hx)<|m8 M3 46 [ag,ag,vI 0,vI 0,vI 0,vI 0] fun fS zA Qir eh=> ?_
 replace eh:=eh.nf;refine nG eh 5 (xV x) rfl fun MU mK=> ?_
 replace mK:=mK.nf;refine au<|aU ?_;intro aC fr;refine B0 (fun a_ w_=>∃(v1:af),Fr a_ 171 [(0,pT C.r 0),(5,vS (sM vg) vals.length vals.length),(14,pT fS 0)]∧Mem (bS C s oA oc vg vals) w w_ [.aL C.r 60 (fB C s oA oc),.row 2 1 (sM C.mG) C.E.memN C.E.memN (ints s.mem),.row 5 1 oA s.out.length oc (ji s.out),.row 2 1 (sM vg) vals.length vals.length (ints v1),.aL b1 35 [vT f.nm,vB f.wk,vI f.pa,vI f.va,vS f.A ((aq f.aJ).length) f.c],.aL fS 46 (xV x)]∧(v1=lh x.aK (fm (f.src k.toNat) from_) vals)) ?_ ?_;clear fr aC mK;rintro aC PA ⟨v1,fr,mF,hv1⟩;revert aC;refine aG<|m8 mF 178 [vI 0,vI 0,vI 0,vI 0,vI 0,vI 0,vI 0,vI 0,vI 0,vI 0,vI 0,vI 0,vI 0,vI 0,vI 0,vI 0,vI 0] fun EA Q1 Qis ob=> ?_
 replace ob:=ob.nf;refine au<|aU<|aG ?_;have gn:Mem (bS C s oA oc vg vals) w Q1 [.aL C.r 60 (fB C s oA oc),.row 2 1 (sM C.mG) C.E.memN C.E.memN (ints s.mem),.row 5 1 oA s.out.length oc (ji s.out),.row 2 1 (sM vg) vals.length vals.length (ints v1),.aL b1 35 [vT f.nm,vB f.wk,vI f.pa,vI f.va,vS f.A ((aq f.aJ).length) f.c],.aL fS 46 (xV x),.row 178 1 (sM EA) 17 17 (ints (List.replicate 17 0))]:=ob.QfC 6 rfl dQ;have Qit:v1.length=vals.length:=by rw[hv1,←v8,NC]
 refine ae 1<|bB (ah fS 1) (vS x.iA x.insts.length x.ic) (aa (gn.get 5 rfl) rfl)<|ae 2<|au<|cC 4 ?_;intro aC fr;refine fX (fun n_ a_ w_=>∃(j:Nat) (vj:af) (sj:cV) (jI:ao) (jJ:Nat) (al:af),n_=x.insts.length-j∧Fr a_ 171 [(0,pT C.r 0),(5,vS (sM vg) vals.length vals.length),(14,pT fS 0),(21,pT EA 0),(91,vS x.iA x.insts.length x.ic),(92,(vI (x.insts.length:Int))),(93,nV j)]∧Mem (bS C s oA oc vg vals) w w_ [.aL C.r 60 (fB C sj jI jJ),.row 2 1 (sM C.mG) C.E.memN C.E.memN (ints sj.mem),.row 5 1 jI sj.out.length jJ (ji sj.out),.row 2 1 (sM vg) vals.length vals.length (ints vj),.aL b1 35 [vT f.nm,vB f.wk,vI f.pa,vI f.va,vS f.A ((aq f.aJ).length) f.c],.aL fS 46 (xV x),.row 178 1 (sM EA) 17 17 (ints al)]∧(j≤x.insts.length)∧(vj.length=vals.length)∧(al.length=17)∧(dR C sj)∧(s.steps≤sj.steps)∧(gG C.E call f k from_ vals s=(fe C.E call (x.insts.drop j) vj sj).bind (CK C.E x))) (n:=_) ⟨0,v1,s,oA,oc,List.replicate 17 0,rfl,fr.kp [0,5,14,21,91,92,93],gn,cf _,Qit,rfl,hG,dX _,(zI hx).trans (by rw[hv1];rfl)⟩ ?_;clear fr aC gn;rintro n aC Lm ⟨j,vj,sj,jI,jJ,al,rfl,fr,pd,hj,uY,hal,GL,ry,sC⟩;revert aC;refine aW<|aU<|gp ((j:Int)<(x.insts.length:Int)) (fun c31=> ?_) (fun c31=> ?_);refine bN<|aU<|cC 5<|aG ?_;obtain⟨i,hi⟩:=aY (l:=x.insts) (i:=j) oM;have K8:=bu hi;have hia:i.args.length≤17:=zK (hX.shape i K8);obtain⟨QfF,Qan⟩:=bd (pd.ro (qu.insts hx)) (cs:=i.cells) (i:=j) (by simp[hi]);intro aC fr;refine bM (some 95) x.iA QfF x.insts.length 5 (j:Int) fr kR Qan oM oM ?_;intro aC fr;revert aC;refine gS (aN QfF (j:Int) 5) (iV i) (nW (pd.ro (qu.insts hx)) Qan hi)<|m8 pd 42 [vI 0,vI 0,vI 0,vT ⟨#[]⟩,ag] fun H7 w39 Qiu uh=> ?_
 replace uh:=uh.nf;refine nG uh 7 (iV i) rfl fun W0 tz=> ?_
 replace tz:=tz.nf;refine au<|aG<|ae 1<|uV (R8 C sj jI jJ W0 hC GL (Mem.bZ (l:=dV C sj jI jJ) tz)) (fun _ yr ⟨k_,c_,s_,H5,H6,Jq,lU,Lx,mM⟩ a_ mw=>by subst lU;exact kO<|kO<|zf mw ⟨k_,c_,s_,H5,H6,sC.trans (by rw[ux hi,fK Jq];rfl),rfl,Lx,Mem.tk (Mem.na (l:=dV C sj jI jJ) tz mM) 3⟩) ?_;rintro _ Ni ⟨u47,BD,v9,wa,LD,rfl,QfG,Qiv⟩;have p7:Mem (bS C s oA oc vg vals) w Ni [.aL C.r 60 (fB C BD v9 wa),.row 2 1 (sM C.mG) C.E.memN C.E.memN (ints BD.mem),.row 5 1 v9 BD.out.length wa (ji BD.out),.row 2 1 (sM vg) vals.length vals.length (ints vj),.aL b1 35 [vT f.nm,vB f.wk,vI f.pa,vI f.va,vS f.A ((aq f.aJ).length) f.c],.aL fS 46 (xV x),.row 178 1 (sM EA) 17 17 (ints al),.aL H7 42 (iV i)]:=tz.na Qiv;have Qiw:=pM LD;refine au<|aG<|ae 1<|bB (ah H7 4) (vS i.A i.args.length i.c) (aa (p7.get 7 rfl) rfl)<|ae 1<|zsh (b:=EA) (n:=17) (hk:=by kernel_rfl) i.args.length hia<|ae 1<|au<|aU<|aG ?_;refine ae 1<|bB (ah H7 4) (vS i.A i.args.length i.c) (aa (p7.get 7 rfl) rfl)<|cU [0,5,14,21,23,24,91,92,93,104]<|ae 2<|au<|cC 6 ?_;have Gl:Mem (bS C s oA oc vg vals) w Ni [.aL C.r 60 (fB C BD v9 wa),.row 2 1 (sM C.mG) C.E.memN C.E.memN (ints BD.mem),.row 5 1 v9 BD.out.length wa (ji BD.out),.row 2 1 (sM vg) vals.length vals.length (ints vj),.aL b1 35 [vT f.nm,vB f.wk,vI f.pa,vI f.va,vS f.A ((aq f.aJ).length) f.c],.aL fS 46 (xV x),.row 178 1 (sM EA) 17 17 (ints (ns i.args al vj 0)),.aL H7 42 (iV i)]:=p7.cast (by rw[GF]);intro aC fr;refine fX (fun n_ a_ w_=>∃(q:Nat),n_=i.args.length-q∧Fr a_ 171 [(0,pT C.r 0),(5,vS (sM vg) vals.length vals.length),(14,pT fS 0),(21,pT EA 0),(23,pT H7 0),(24,vS (sM EA) i.args.length 17),(91,vS x.iA x.insts.length x.ic),(92,(vI (x.insts.length:Int))),(93,nV j),(104,vS i.A i.args.length i.c),(105,(vI (i.args.length:Int))),(106,nV q)]∧Mem (bS C s oA oc vg vals) w w_ [.aL C.r 60 (fB C BD v9 wa),.row 2 1 (sM C.mG) C.E.memN C.E.memN (ints BD.mem),.row 5 1 v9 BD.out.length wa (ji BD.out),.row 2 1 (sM vg) vals.length vals.length (ints vj),.aL b1 35 [vT f.nm,vB f.wk,vI f.pa,vI f.va,vS f.A ((aq f.aJ).length) f.c],.aL fS 46 (xV x),.row 178 1 (sM EA) 17 17 (ints (ns i.args al vj q)),.aL H7 42 (iV i)]∧(q≤i.args.length)) (n:=_) ⟨0,rfl,fr.kp [0,5,14,21,23,24,91,92,93,104,105,106],Gl,cf _⟩ ?_;clear fr aC Gl;rintro n aC w53 ⟨q,rfl,fr,PB,hql⟩;revert aC;refine aW<|aU<|gp ((q:Int)<(i.args.length:Int)) (fun c57=> ?_) (fun c57=> ?_);refine bN<|aU<|cC 7<|aG ?_;obtain⟨av,hav⟩:=aY (l:=i.args) (i:=q) oM;obtain⟨KU,Li⟩:=hX.args i K8 av (bu hav);refine ae 1 ?_;obtain⟨QfH,Qao⟩:=rd_some (PB.ro (qu.inst hx hi)) (by rw[dq];omega);intro aC fr;refine bM (some 109) i.A QfH i.args.length 1 (q:Int) fr kR Qao oM oM ?_;intro aC fr;revert aC;refine bB (aN QfH (q:Int) 1) (vI av) (g9 (PB.ro (qu.inst hx hi)) Qao hav)<|ae 2<|au<|cN<|ae 4<|eM (aZ vg) vals.length 1 av<|bB (aN (aZ vg) (av) 1) (vI (vj.getD av.toNat 0)) (cY (aF (PB.get 3 rfl)) rfl KU oM)<|eM (aZ EA) i.args.length 1 (q:Int)<|wC PB 6 (aN (aZ EA) (q:Int) 1) (((q:Int)).toNat*1) (vI (vj.getD av.toNat 0)) rfl rfl oM fun w64 Eg=> ?_
 replace Eg:=Eg.nf;refine au<|cN<|dw ((q:Int)+1)<|ae 1<|au ?_;have e_:(ints (ns i.args al vj q)).set ((q:Int).toNat*1) (vI (vj.getD av.toNat 0))=ints (ns i.args al vj (q+1)):=by rw[eE];show(ints _).set q _=_;rw[←ints_set,Jv hav oM]
 intro aC fr;exact⟨i.args.length-(q+1),oM,q+1,rfl,fr.kp [0,5,14,21,23,24,91,92,93,104,105,106],(Eg.cast (by rw[e_])),oM⟩;refine fP 6<|fQ<|aG ?_;obtain rfl:q=i.args.length:=oM;have Fo:Mem (bS C s oA oc vg vals) w w53 [.aL C.r 60 (fB C BD v9 wa),.row 2 1 (sM C.mG) C.E.memN C.E.memN (ints BD.mem),.row 5 1 v9 BD.out.length wa (ji BD.out),.row 2 1 (sM vg) vals.length vals.length (ints vj),.aL b1 35 [vT f.nm,vB f.wk,vI f.pa,vI f.va,vS f.A ((aq f.aJ).length) f.c],.aL fS 46 (xV x),.row 178 1 (sM EA) 17 17 (ints (eG vj i.args)++ints (al.drop i.args.length)),.aL H7 42 (iV i)]:=PB.cast (by rw[Jw,gl]);refine ae 1<|gS (aZ H7) (iV i) (bp (Fo.get 7 rfl))<|ae 1<|uV (vs:=[pT C.r 0,iG i,vS (sM EA) i.args.length 17]) (Qcl C BD v9 wa w53 hC QfG (Mem.bZ (l:=dV C BD v9 wa) Fo) (hA.iI (l:=dV C BD v9 wa) Fo) call i (eG vj i.args) i.args.length (lH _ _).symm (sM EA) 17 (RO.Js (RO.aF (RO.kN (l:=dV C BD v9 wa) Fo 3 rfl))) (hX.shape i K8) (lH _ _) (by rw[lH];exact hia) b qa oM) (fun _ yr ⟨k_,c_,s_,H5,H6,Jq,lU,Lx,mM⟩ a_ mw=>by subst lU;exact kO<|kO<|zf mw ⟨k_,c_,s_,H5,H6,sC.trans (by rw[ux hi,gO LD,fK Jq];rfl),rfl,Lx,Mem.tk (Mem.na (l:=dV C BD v9 wa) Fo mM) 3⟩) ?_;rintro _ XG ⟨x69,s70,XH,XI,LF,rfl,Qap,Qix⟩;have nI:Mem (bS C s oA oc vg vals) w XG [.aL C.r 60 (fB C s70 XH XI),.row 2 1 (sM C.mG) C.E.memN C.E.memN (ints s70.mem),.row 5 1 XH s70.out.length XI (ji s70.out),.row 2 1 (sM vg) vals.length vals.length (ints vj),.aL b1 35 [vT f.nm,vB f.wk,vI f.pa,vI f.va,vS f.A ((aq f.aJ).length) f.c],.aL fS 46 (xV x),.row 178 1 (sM EA) 17 17 (ints (eG vj i.args)++ints (al.drop i.args.length)),.aL H7 42 (iV i)]:=Fo.na Qix;refine ae 1<|au<|aG<|ae 1<|bB (ah H7 1) (vI i.dst) (aa (nI.get 7 rfl) rfl)<|ae 2 ?_;obtain⟨PC,Qcn⟩:∃B:Bool,B=decide ((i.dst:Int)≥0):=⟨_,rfl⟩;refine bQ [(0,pT C.r 0),(5,vS (sM vg) vals.length vals.length),(14,pT fS 0),(21,pT EA 0),(23,pT H7 0),(27,vI x69),(91,vS x.iA x.insts.length x.ic),(92,(vI (x.insts.length:Int))),(93,nV j),(126,(vB (decide ((i.dst:Int)≥0))))] ?_;rw[←Qcn];have Qco:PC=true↔((i.dst:Int)≥0):=by rw[Qcn];simp only[aE]
 clear Qcn;intro aC fr;refine cE 1 5 [127] fr (news:=[(127,cond PC (pT H7 0) undef)]) (by cases PC<;>kernel_rfl) ?_;intro aC fr;refine az (B:=PC) (d:=(some 128)) (vI i.op) fr (by cases PC<;>kernel_rfl) (fun hB hh=> ?_) ?_;cases PC<;>first|(exact absurd hB dQ)|skip
 have c76:((i.dst:Int)≥0):=Qco.1 rfl;exact bq (some 128) (aZ H7) fr kR (vI i.op) (aa (nI.get 7 rfl) rfl) hh;intro aC fr;refine iy (B:=PC) (d:=(some 129)) (vB (decide (aR i.op))) fr (by cases PC<;>kernel_rfl) (fun hB hh=> ?_) ?_;cases PC<;>first|(exact absurd hB dQ)|skip
 have c76:((i.dst:Int)≥0):=Qco.1 rfl;refine nU (some 129) 78 [vI i.op] fr kR (Ez i.op XG) ?_;rintro _ w2 ⟨rfl,fv⟩ a2 NF;exact hh a2 w2 fv NF;intro aC w83 Qiy fr;have M84:=nI.cl Qiy;refine cE 1 8 [130] fr (news:=[(130,vB (PC&&decide (aR i.op)))]) (by cases PC<;>kernel_rfl) ?_;intro aC fr;revert aC;refine au<|eF (PC&&decide (aR i.op)) (((i.dst:Int)≥0)∧(aR i.op)) (by simp only[bo,aE,Qco]) (fun c89=> ?_) (fun c89=> ?_);refine cN ?_;obtain⟨hd0,hd1⟩:=hX.dst i K8 c89.2;refine ae 2<|bB (ah H7 1) (vI i.dst) (aa (M84.get 7 rfl) rfl)<|ae 1<|eM (aZ vg) vals.length 1 i.dst<|wC M84 3 (aN (aZ vg) (i.dst) 1) ((i.dst).toNat*1) (vI x69) rfl rfl oM fun w90 BE=> ?_
 replace BE:=BE.nf;refine au<|cN<|dw ((j:Int)+1)<|ae 1<|au ?_;intro aC fr;exact⟨x.insts.length-(j+1),oM,j+1,GG i vj x69,s70,XH,XI,eG vj i.args++al.drop i.args.length,rfl,fr.kp [0,5,14,21,91,92,93],((BE.tk 7).cast (by rw[Sf ⟨oM,c89.2⟩];simp only[ints_set,gl,eE];rfl)),oM,by rw[GH];exact uY,by simp[eG];omega,Qap,by have:=pN LC LF;omega,sC.trans (by rw[ux hi,gO LD,gO LF])⟩;refine bN<|cN<|dw ((j:Int)+1)<|ae 1<|au ?_;intro aC fr;exact⟨x.insts.length-(j+1),oM,j+1,GG i vj x69,s70,XH,XI,eG vj i.args++al.drop i.args.length,rfl,fr.kp [0,5,14,21,91,92,93],((M84.tk 7).cast (by rw[XB c89,gl];rfl)),oM,by rw[GH];exact uY,by simp[eG];omega,Qap,by have:=pN LC LF;omega,sC.trans (by rw[ux hi,gO LD,gO LF])⟩;refine fP 4<|fQ<|aG ?_;have xw:gG C.E call f k from_ vals s=CK C.E x vj sj:=sC.trans (by rw[ND oM];rfl);refine ae 1<|uV (R8 C sj jI jJ Lm hC GL (Mem.bZ (l:=dV C sj jI jJ) pd)) (fun _ yr ⟨k_,c_,s_,H5,H6,Jq,lU,Lx,mM⟩ a_ mw=>by subst lU;exact zf mw ⟨k_,c_,s_,H5,H6,xw.trans (fK Jq),rfl,Lx,Mem.tk (Mem.na (l:=dV C sj jI jJ) pd mM) 3⟩) ?_;rintro _ XJ ⟨u100,VF,xE,xF,Qaq,rfl,CM,Sk⟩;have oE:Mem (bS C s oA oc vg vals) w XJ [.aL C.r 60 (fB C VF xE xF),.row 2 1 (sM C.mG) C.E.memN C.E.memN (ints VF.mem),.row 5 1 xE VF.out.length xF (ji VF.out),.row 2 1 (sM vg) vals.length vals.length (ints vj),.aL b1 35 [vT f.nm,vB f.wk,vI f.pa,vI f.va,vS f.A ((aq f.aJ).length) f.c],.aL fS 46 (xV x),.row 178 1 (sM EA) 17 17 (ints al)]:=pd.na Sk;have Qiz:=pM Qaq;refine au<|aU<|aG ?_;have pJ:=xw.trans (zJ Qaq);refine ae 1<|bB (ah fS 2) (vI x.e) (aa (oE.get 5 rfl) rfl)<|au<|cC 8<|aW<|eF ((x.e:Int)==0) ((x.e:Int)=0) (by simp only[ax]) (fun Qcp=> ?_) (fun Qcp=> ?_);refine aG<|ae 1<|bB (ah fS 4) (vI x.a) (aa (oE.get 5 rfl) rfl)<|ae 2<|au<|bG<|da<|xo2 (vI x.a) (vI 0) ?_;exact⟨x.a,0,vj,VF,xE,xF,pJ.trans (by first|rw[bC oM]|rw[aB oM,bC oM,bC oM]),rfl,CM,uY,oE.tk 4⟩;refine aW<|eF ((x.e:Int)==1) ((x.e:Int)=1) (by simp only[ax]) (fun GM=> ?_) (fun GM=> ?_);refine aU<|aG ?_;have hvi:=hX.vIf oM;refine ae 2<|bB (ah fS 3) (vI x.v) (aa (oE.get 5 rfl) rfl)<|eM (aZ vg) vals.length 1 x.v<|bB (aN (aZ vg) (x.v) 1) (vI (vj.getD x.v.toNat 0)) (cY (aF (oE.get 3 rfl)) rfl hvi.1 oM)<|ae 1<|au<|eF ((vj.getD x.v.toNat 0:Int) !=0) ((vj.getD x.v.toNat 0:Int)≠0) (by simp only[de]) (fun Qcq=> ?_) (fun Qcq=> ?_);refine aG<|ae 1<|bB (ah fS 4) (vI x.a) (aa (oE.get 5 rfl) rfl)<|cU [154]<|ae 2<|au<|bG<|da<|xo2 (vI x.a) (vI 0) ?_;exact⟨x.a,0,vj,VF,xE,xF,pJ.trans (by first|rw[bC oM]|rw[aB oM,bC oM,bC oM]),rfl,CM,uY,oE.tk 4⟩;refine bN<|aG<|ae 1<|bB (ah fS 5) (vI x.b) (aa (oE.get 5 rfl) rfl)<|cU [156]<|ae 2<|au<|bG<|da<|xo2 (vI x.b) (vI 0) ?_;exact⟨x.b,0,vj,VF,xE,xF,pJ.trans (by rw[aB oM,bC oM,aB oM]),rfl,CM,uY,oE.tk 4⟩;refine aW<|eF ((x.e:Int)==3) ((x.e:Int)=3) (by simp only[ax]) (fun wb=> ?_) (fun wb=> ?_);refine cN<|ae 2<|bB (ah fS 4) (vI x.a) (aa (oE.get 5 rfl) rfl)<|uV (rf C.r 2 x.a XJ) (fun _ yr ⟨lU,mM⟩ a_ mw=>by subst lU;exact kO<|zf mw (⟨_,_,VF,xE,xF,pJ.trans (by rw[aB oM,aB oM,bC oM]),rfl,CM,(oE.cl mM).tk 3⟩)) ?_;rintro _ w107 h_;exact h_.elim;refine bN<|aU<|aG<|ae 1<|bB (ah fS 3) (vI x.v) (aa (oE.get 5 rfl) rfl)<|ae 1<|au<|gp ((x.v:Int)≥0) (fun Sl=> ?_) (fun Sl=> ?_);refine aU ?_;have Rl:x.e=2:=by have:=CL hX.ends;omega
 have hvi:=hX.QeS Rl;refine cU [5,14] ?_;intro aC fr;refine mE 6 (aP [eS (sM vg) vals.length vals.length,eR fS 3,eI x.v,eA (aZ vg) (x.v) 1,eI (vj.getD x.v.toNat 0),eI (-1)]) fr (la (qh lz dP dP (dL (ah fS 3) (vI x.v) fun w_ hK=>(aa ((oE.an hK).get 5 rfl) rfl)) (dI (aZ vg) vals.length 1 x.v) (dL (aN (aZ vg) (x.v) 1) (vI (vj.getD x.v.toNat 0)) fun w_ hK=>(cY (aF ((oE.an hK).get 3 rfl)) rfl oM oM))) dP) ?_;intro aC QiA vs hK hv fr;revert aC;refine bQ [(12,vI (-1)),(170,vI (vj.getD x.v.toNat 0))] ?_;have NG:=oE.an hK;clear hK hv fr aC oE;clear vs;refine ae 1<|au<|bG<|xo2 (vI (-1)) (vI (vj.getD x.v.toNat 0)) ?_;exact⟨(-1),vj.getD x.v.toNat 0,vj,VF,xE,xF,pJ.trans (by rw[aB oM,aB oM,aB oM,bC oM]),rfl,CM,uY,NG.tk 4⟩;refine bN<|aW<|bG<|xo2 (vI (-1)) (vI 0) ?_;exact⟨(-1),0,vj,VF,xE,xF,pJ.trans (by rw[aB oM,aB oM,aB oM,aB oM]),rfl,CM,uY,oE.tk 4⟩;revert aC;refine aG<|ae 1<|bB (aZ fS) (vS x.pA x.aK.length x.pc) (aa (mK.get 5 rfl) rfl)<|ae 2<|au<|gp ((x.aK.length:Int)>0) (fun Jx=> ?_) (fun Jx=> ?_);refine aG ?_;obtain⟨q,hq⟩:=aY (l:=f.bO) (i:=k.toNat) (by have:=hW.QP;omega);have kJ:=dZ.Jt hq;have hql:=hW.QeW k.toNat;have mj:from_∈f.src k.toNat:=Sj.resolve_left (fun e=>by rw[e]at Jx;simp at Jx);obtain⟨at_,CE⟩:∃z,z=fm (f.src k.toNat) from_:=⟨_,rfl⟩;have QiB:at_<(f.src k.toNat).length:=by rw[CE];exact(Lz mj).2
 refine ae 3<|bB (ah C.r 1) (vS C.sA (C.E.fns.length+1) C.sc) (aa (mK.get 0 rfl) rfl)<|cU [0,2,3,4,5,14,40]<|ae 1 ?_;obtain⟨zM,Sm⟩:=rd_some (mK.ro hA.Qab) sI;intro aC fr;refine bM (some 42) C.sA zM (C.E.fns.length+1) 1 n fr kR Sm oM oM ?_;intro aC fr;revert aC;refine bB (aN zM (n) 1) (vS f.qA f.bO.length f.qc) (bH (mK.ro hA.Qab) Sm (Qcm vE hn))<|ae 1 ?_;obtain⟨Qar,Sn⟩:=rd_some (mK.ro (hA.Qad hn)) (by simp[vy];have:=hW.QP;omega);intro aC fr;refine bM (some 45) f.qA Qar f.bO.length 1 k fr kR Sn oM (by have:=hW.QP;omega) ?_;intro aC fr;revert aC;refine bB (aN Qar (k) 1) (vS q.1 q.2.2.length q.2.1) (bH (mK.ro (hA.Qad hn)) Sn (by simp[vy,hq]))<|ae 1<|eb (Si q.2.2 from_ q.1 q.2.1 MU (by rw[←kJ];omega) ((hA.Qh4 hn hq).at_ mK) (by rw[←kJ];exact mj) at_ (by rw[←kJ];exact CE)) ?_;rintro _ Qcr ⟨rfl,QfI⟩;have zN:=mK.cl QfI;refine ae 1<|au<|aG<|ae 1<|bB (aZ fS) (vS x.pA x.aK.length x.pc) (aa (zN.get 5 rfl) rfl)<|ae 1 ?_;intro aC fr;refine Vj 52 36 (.tmp 51) (.tmp 51) 36 fr (e:=2) (bytes:=8) (z:=(vI 0)) (n:=x.aK.length) (i:=(x.aK.length:Int)) (by have:=hX.lp;omega) (by have:=hX.lp;simp only[maxLen];omega) zN ?_;intro we QiC QkM _ XK _ aC ea fr;clear ea;replace XK:=XK.nf;revert aC;refine cU [0,5,14,15,52]<|ae 1<|au<|aU<|aG<|ae 1<|bB (aZ fS) (vS x.pA x.aK.length x.pc) (aa (XK.get 5 rfl) rfl)<|ae 2<|au<|cC 0 ?_;have tc:Mem (bS C s oA oc vg vals) w QiC [.aL C.r 60 (fB C s oA oc),.row 2 1 (sM C.mG) C.E.memN C.E.memN (ints s.mem),.row 5 1 oA s.out.length oc (ji s.out),.row 2 1 (sM vg) vals.length vals.length (ints vals),.aL b1 35 [vT f.nm,vB f.wk,vI f.pa,vI f.va,vS f.A ((aq f.aJ).length) f.c],.aL fS 46 (xV x),.row 2 1 (sM we) x.aK.length x.aK.length (ints (me x.aK at_ vals 0))]:=XK.cast (by rw[Ju x.aK at_ vals]);intro aC fr;refine fX (fun n_ a_ w_=>∃(j:Nat),n_=x.aK.length-j∧Fr a_ 171 [(0,pT C.r 0),(5,vS (sM vg) vals.length vals.length),(14,pT fS 0),(15,nV at_),(16,vS (sM we) x.aK.length x.aK.length),(54,vS x.pA x.aK.length x.pc),(55,(vI (x.aK.length:Int))),(56,nV j)]∧Mem (bS C s oA oc vg vals) w w_ [.aL C.r 60 (fB C s oA oc),.row 2 1 (sM C.mG) C.E.memN C.E.memN (ints s.mem),.row 5 1 oA s.out.length oc (ji s.out),.row 2 1 (sM vg) vals.length vals.length (ints vals),.aL b1 35 [vT f.nm,vB f.wk,vI f.pa,vI f.va,vS f.A ((aq f.aJ).length) f.c],.aL fS 46 (xV x),.row 2 1 (sM we) x.aK.length x.aK.length (ints (me x.aK at_ vals j))]∧(j≤x.aK.length)) (n:=_) ⟨0,rfl,fr.kp [0,5,14,15,16,54,55,56],tc,cf _⟩ ?_;clear fr aC tc;rintro n aC Qcs ⟨j,rfl,fr,zO,hj⟩;revert aC;refine aW<|aU<|gp ((j:Int)<(x.aK.length:Int)) (fun XL=> ?_) (fun XL=> ?_);refine bN<|aU<|cC 1<|aG ?_;obtain⟨p,hp⟩:=aY (l:=x.aK) (i:=j) oM;have lX:=bu hp;refine ae 1 ?_;obtain⟨Qas,So⟩:=bd (zO.ro (qu.aK hx)) (cs:=p.cells) (i:=j) (by simp[hp]);intro aC fr;refine bM (some 59) x.pA Qas x.aK.length 2 (j:Int) fr kR So oM oM ?_;intro aC fr;revert aC;refine gS (aN Qas (j:Int) 2) (pV p) (pw (zO.ro (qu.aK hx)) So hp)<|m8 zO 140 [vI 0,ag] fun QiD w153 QkN Sp=> ?_
 replace Sp:=Sp.nf;refine ae 1<|nG Sp 7 (pV p) rfl fun XM uz=> ?_
 replace uz:=uz.nf;refine au<|cN ?_;have nE:=hX.QeU p lX;obtain⟨hp0,hp1⟩:=hX.Qaf p lX _ (LA (oM:at_<p.args.length));refine ae 4<|bB (ah QiD 1) (vS p.A p.args.length p.c) (aa (uz.get 7 rfl) rfl)<|ae 1 ?_;obtain⟨Qat,Sq⟩:=rd_some (uz.ro (qu.Z5 hx hp)) (by rw[dq];omega);intro aC fr;refine bM (some 67) p.A Qat p.args.length 1 (at_:Int) fr kR Sq oM oM ?_;intro aC fr;revert aC;refine bB (aN Qat (at_:Int) 1) (vI (p.args.getD at_ 0)) (cY (uz.ro (qu.Z5 hx hp)) Sq oM oM)<|cU [0,5,14,15,16,54,55,56,61,62,63,68]<|eM (aZ vg) vals.length 1 (p.args.getD at_ 0)<|bB (aN (aZ vg) (p.args.getD at_ 0) 1) (vI (mb at_ vals p)) (cY (aF (uz.get 3 rfl)) rfl hp0 oM)<|eM (aZ we) x.aK.length 1 (j:Int)<|wC uz 6 (aN (aZ we) (j:Int) 1) (((j:Int)).toNat*1) (vI (mb at_ vals p)) rfl rfl oM fun QiE Jy=> ?_
 replace Jy:=Jy.nf;refine au<|cN<|dw ((j:Int)+1)<|ae 1<|au ?_;have e_:(ints (me x.aK at_ vals j)).set ((j:Int).toNat*1) (vI (mb at_ vals p))=ints (me x.aK at_ vals (j+1)):=by rw[eE];show(ints _).set j _=_;rw[←ints_set,NA hp]
 intro aC fr;exact⟨x.aK.length-(j+1),oM,j+1,rfl,fr.kp [0,5,14,15,16,54,55,56],((Jy.tk 7).cast (by rw[←e_];rfl)),oM⟩;refine fP 0<|fQ<|aG<|ae 1<|bB (aZ fS) (vS x.pA x.aK.length x.pc) (aa (zO.get 5 rfl) rfl)<|ae 2<|au<|cC 2 ?_;obtain rfl:j=x.aK.length:=oM;have EB:Mem (bS C s oA oc vg vals) w Qcs [.aL C.r 60 (fB C s oA oc),.row 2 1 (sM C.mG) C.E.memN C.E.memN (ints s.mem),.row 5 1 oA s.out.length oc (ji s.out),.row 2 1 (sM vg) vals.length vals.length (ints (mf x.aK at_ vals 0)),.aL b1 35 [vT f.nm,vB f.wk,vI f.pa,vI f.va,vS f.A ((aq f.aJ).length) f.c],.aL fS 46 (xV x),.row 2 1 (sM we) x.aK.length x.aK.length (ints (me x.aK at_ vals x.aK.length))]:=zO.cast (by rw[zH]);intro aC fr;refine fX (fun n_ a_ w_=>∃(j:Nat),n_=x.aK.length-j∧Fr a_ 171 [(0,pT C.r 0),(5,vS (sM vg) vals.length vals.length),(14,pT fS 0),(16,vS (sM we) x.aK.length x.aK.length),(74,vS x.pA x.aK.length x.pc),(75,(vI (x.aK.length:Int))),(76,nV j)]∧Mem (bS C s oA oc vg vals) w w_ [.aL C.r 60 (fB C s oA oc),.row 2 1 (sM C.mG) C.E.memN C.E.memN (ints s.mem),.row 5 1 oA s.out.length oc (ji s.out),.row 2 1 (sM vg) vals.length vals.length (ints (mf x.aK at_ vals j)),.aL b1 35 [vT f.nm,vB f.wk,vI f.pa,vI f.va,vS f.A ((aq f.aJ).length) f.c],.aL fS 46 (xV x),.row 2 1 (sM we) x.aK.length x.aK.length (ints (me x.aK at_ vals x.aK.length))]∧(j≤x.aK.length)) (n:=_) ⟨0,rfl,fr.kp [0,5,14,16,74,75,76],EB,cf _⟩ ?_;clear fr aC EB;rintro n aC w170 ⟨j,rfl,fr,GN,hj⟩;revert aC;refine aW<|aU<|gp ((j:Int)<(x.aK.length:Int)) (fun QiF=> ?_) (fun QiF=> ?_);refine bN<|aU<|cC 3<|aG ?_;obtain⟨p,hp⟩:=aY (l:=x.aK) (i:=j) oM;have lX:=bu hp;refine ae 1 ?_;obtain⟨Qau,Sr⟩:=bd (GN.ro (qu.aK hx)) (cs:=p.cells) (i:=j) (by simp[hp]);intro aC fr;refine bM (some 79) x.pA Qau x.aK.length 2 (j:Int) fr kR Sr oM oM ?_;intro aC fr;revert aC;refine gS (aN Qau (j:Int) 2) (pV p) (pw (GN.ro (qu.aK hx)) Sr hp)<|m8 GN 140 [vI 0,ag] fun QfJ w182 QkO Qct=> ?_
 replace Qct:=Qct.nf;refine ae 1<|nG Qct 7 (pV p) rfl fun w184 NH=> ?_
 replace NH:=NH.nf;refine au ?_;obtain⟨hd0,hd1⟩:=hX.QeT p lX;refine cU [0,5,14,16,19,20,74,75,76] ?_;intro aC fr;refine mE 7 (aP [eS (sM vg) vals.length vals.length,eR QfJ 0,eI p.dst,eS (sM we) x.aK.length x.aK.length,.bb (nV j),eA (aZ we) (j:Int) 1,eI (mb at_ vals p)]) fr (oh (qh lz dP dP (dL (aZ QfJ) (vI p.dst) fun w_ hK=>(aa ((NH.an hK).get 7 rfl) rfl)) dP dP) (dI (aZ we) x.aK.length 1 (j:Int)) (dL (aN (aZ we) (j:Int) 1) (vI (mb at_ vals p)) fun w_ hK=>(Se (aF ((NH.an hK).get 6 rfl)) rfl hp))) ?_;intro aC w190 vs hK hv fr;revert aC;refine bQ [(0,pT C.r 0),(5,vS (sM vg) vals.length vals.length),(14,pT fS 0),(16,vS (sM we) x.aK.length x.aK.length),(74,vS x.pA x.aK.length x.pc),(75,(vI (x.aK.length:Int))),(76,nV j),(81,vS (sM vg) vals.length vals.length),(83,vI p.dst),(87,vI (mb at_ vals p))] ?_;have QiG:=NH.an hK;clear hK hv fr aC NH;clear vs;refine eM (aZ vg) vals.length 1 p.dst<|wC QiG 3 (aN (aZ vg) (p.dst) 1) ((p.dst).toNat*1) (vI (mb at_ vals p)) rfl rfl oM fun w192 Qcu=> ?_
 replace Qcu:=Qcu.nf;refine au<|cN<|dw ((j:Int)+1)<|ae 1<|au ?_;have e_:(ints (mf x.aK at_ vals j)).set ((p.dst).toNat*1) (vI (mb at_ vals p))=ints (mf x.aK at_ vals (j+1)):=by rw[eE,←ints_set,zG hp]
 intro aC fr;exact⟨x.aK.length-(j+1),oM,j+1,rfl,fr.kp [0,5,14,16,74,75,76],((Qcu.tk 7).cast (by rw[←e_];rfl)),oM⟩;refine fP 2<|fQ ?_;obtain rfl:j=x.aK.length:=oM;intro aC fr;exact⟨mf x.aK at_ vals x.aK.length,fr.kp [0,5,14],(GN.tk 6),by rw[v8,CE]⟩;refine bN ?_;intro aC fr;exact⟨vals,fr.kp [0,5,14],mK,by rw[qy (oM:x.aK.length=0)];rfl⟩
end Go.Proofs.YtjekgaabcigphaaGreat
namespace Go.Mor
open Go.RowKit
theorem Ss{α β:Type}{z:β}{g:α→β}{l:List α}{n:Int}{f:α}(h1:1≤n)(h:l[(n-1).toNat]?=some f):(z::l.map g)[n.toNat]?=some (g f):=by
 rw[show n.toNat=(n-1).toNat+1 by omega,List.getElem?_cons_succ,List.getElem?_map,h];rfl
section
variable {E : Env0} {body : dZ → Int → Int → List Int → cV → ed Int} {n : Int} {l : List Int} {s s' : cV} {f : dZ} {x : Int}
theorem mV(h:n<1∨n≥(E.fns.length:Int)+1):jR E body n l s= .stop 5 0 s:=by unfold jR;rw[bC h]
theorem uA(h:¬(n<1∨n≥(E.fns.length:Int)+1))(hf:E.fns[(n-1).toNat]?=some f):jR E body n l s=if(l.length:Int)≠f.pa then .stop 5 0 s else if s.opened=1200 then .stop 4 0 s else body f 0 (-1) (l++List.replicate (f.va.toNat-l.length) 0) {s with opened:=s.opened+1}:=by unfold jR;rw[aB h,hf]
end
def CN(call:Int→af→cV→ed Int):Prop:=∀n l s x s',call n l s= .ok x s'→s'.opened=s.opened
section
variable {E : Env0} {call : Int → List Int → cV → ed Int}
theorem zP{s s':cV}{x:Unit}(h:eN E s= .ok x s'):s'.opened=s.opened:=by
 unfold eN at h;split at h
 ·cases h
 ·injection h with h1 h2;subst h2;rfl
theorem zQ(hm:CN call){i:cH}{l:af}{s s':cV}{x:Int}(h:bU E call i l s= .ok x s'):s'.opened=s.opened:=by
 have fin:∀(y:Int) (s2:cV),s2.opened=s.opened→ed.ok y s2=ed.ok x s'→s'.opened=s.opened:=by intro y s2 h1 h2;injection h2 with _ h2;rw[←h2];exact h1
 by_cases h1:i.op=1
 ·rw[DW h1]at h;exact fin _ _ rfl h
 by_cases h2:i.op=2
 ·rw[vq h2]at h;cases hq:AU (IntKind.i64.wrap (a0 l+i.n)) s with
  |ok k s2=>rw[gO hq]at h;exact fin _ _ (by rw[uy hq]) h
  |stop k c s2=>rw[fK hq]at h;cases h
 by_cases h3:i.op=3
 ·rw[vr h3]at h;cases hq:AU (IntKind.i64.wrap (a0 l+i.n)) s with
  |ok k s2=>rw[gO hq]at h;exact fin _ _ (by rw[uy hq]) h
  |stop k c s2=>rw[fK hq]at h;cases h
 by_cases h4:i.op=4
 ·rw[vt h4]at h;split at h
  ·exact hm _ _ _ _ _ h
  ·cases h
 by_cases h5:i.op=5
 ·rw[zi h5]at h;exact hm _ _ _ _ _ h
 by_cases h6:i.op=6
 ·rw[vu h6]at h;split at h
  ·exact fin _ _ rfl h
  ·cases h
 by_cases h7:i.op=7
 ·rw[vv h7]at h;split at h
  ·exact fin _ _ rfl h
  ·cases h
 by_cases h8:i.op=8
 ·rw[vw h8]at h;split at h
  ·cases h
  ·split at h
   ·cases h
   ·exact fin _ {s with next:=s.next+a0 l} rfl h
 by_cases h9:i.op=9
 ·rw[zk h9]at h;split at h
  ·exact fin _ {s with pos:=s.pos+1} rfl h
  ·exact fin _ _ rfl h
 by_cases FV:i.op=10
 ·rw[tY FV]at h;exact fin _ _ (by split<;>rfl) h
 by_cases Qz:i.op=11
 ·rw[rI Qz]at h;split at h
  ·cases h
  ·exact fin _ _ rfl h
 by_cases h12:i.op=12
 ·rw[ya h12]at h;exact fin _ _ rfl h
 by_cases h40:i.op≥40
 ·rw[yb h40]at h;exact fin _ _ rfl h
 rw[qP oM oM]at h;split at h
 ·exact fin _ _ rfl h
 ·cases h
theorem zR(hm:GI call)(hk:CN call):∀(is:List cH) (v:af) (s:cV) {v':af} {s':cV},fe E call is v s= .ok v' s'→s.steps≤s'.steps∧s'.opened=s.opened
 |[],v,s,v',s',h=>by injection h with h1 h2;subst h2;exact⟨dX _,rfl⟩
 |i::r,v,s,v',s',h=>by
  have e:fe E call (i::r) v s=(eN E s).bind fun _ s=>(bU E call i (eG v i.args) s).bind fun x s=>fe E call r (GG i v x) s:=rfl
  rw[e]at h;cases h1:eN E s with
  |stop k c s1=>rw[fK h1]at h;cases h
  |ok u s1=>
   rw[gO h1]at h;cases h2:bU E call i (eG v i.args) s1 with
   |stop k c s2=>rw[fK h2]at h;cases h
   |ok x s2=>
    rw[gO h2]at h;obtain⟨h3,h4⟩:=zR hm hk r _ _ h;have h5:=pM h1;have h6:=zP h1;have h7:=pN hm h2;have h8:=zQ hk h2;exact⟨oM,oM⟩
theorem zS(hm:GI call)(hk:CN call){f:dZ}{k from_:Int}{vals:af}{s s':cV}{nx bk:Int}{v':af}(h:gG E call f k from_ vals s= .ok (nx,bk,v') s'):s.steps+1≤s'.steps∧s'.opened=s.opened:=by
 cases hx:f.aJ[k.toNat]? with
 |none=>unfold gG at h;rw[hx]at h;cases h
 |some x=>
  rw[zI hx]at h;cases h1:fe E call x.insts (lh x.aK (fm (f.src k.toNat) from_) vals) s with
  |stop a b s1=>rw[fK h1]at h;cases h
  |ok v s1=>
   rw[gO h1]at h;obtain⟨h3,h4⟩:=zR hm hk _ _ _ h1;cases h2:eN E s1 with
   |stop a b s2=>unfold CK at h;rw[fK h2]at h;cases h
   |ok u s2=>
    rw[zJ h2]at h;have h5:=pM h2;have h6:=zP h2;have:s'=s2:=by
     split at h
     ·injection h with _ h;exact h.symm
     ·split at h
      ·injection h with _ h;exact h.symm
      ·split at h
       ·cases h
       ·injection h with _ h;exact h.symm
    subst this;exact⟨oM,oM⟩
theorem Jz{f:dZ}{k from_:Int}{vals:af}{s s':cV}{nx bk:Int}{v':af}{x:bF}(hx:f.aJ[k.toNat]?=some x)(h:gG E call f k from_ vals s= .ok (nx,bk,v') s'):nx<0∨(x.e=0∧nx=x.a∨x.e=1∧(nx=x.a∨nx=x.b)):=by
 rw[zI hx]at h;cases h1:fe E call x.insts (lh x.aK (fm (f.src k.toNat) from_) vals) s with
 |stop a b s1=>rw[fK h1]at h;cases h
 |ok v s1=>
  rw[gO h1]at h;cases h2:eN E s1 with
  |stop a b s2=>unfold CK at h;rw[fK h2]at h;cases h
  |ok u s2=>
   rw[zJ h2]at h;split at h
   ·rename_i he;injection h with h _;injection h with h _;exact .inr (.inl ⟨he,h.symm⟩)
   ·split at h
    ·rename_i he;injection h with h _;injection h with h _;refine .inr (.inr ⟨he,?_⟩);split at h
     ·exact .inl h.symm
     ·exact .inr h.symm
    ·split at h
     ·cases h
     ·injection h with h _;injection h with h _;exact .inl oM
theorem rR(g:Nat)(f:dZ)(k from_:Int)(vals:af)(s:cV):kM E (g+1) f k from_ vals s=(gG E (cv E g) f k from_ vals s).bind fun r s=>
  if r.1<0 then .ok r.2.1 {s with opened:=s.opened-1}else kM E g f r.1 k r.2.2 s:=rfl
theorem td{body:dZ→Int→Int→af→cV→ed Int}(hb:∀f k from_ v s x s',body f k from_ v s= .ok x s'→s.steps≤s'.steps∧s'.opened=s.opened-1):GI (jR E body)∧CN (jR E body):=by
 have key:∀n l s x s',jR E body n l s= .ok x s'→s.steps≤s'.steps∧s'.opened=s.opened:=by
  intro n l s x s' h;unfold jR at h;split at h
  ·cases h
  ·split at h
   ·cases h
   ·split at h
    ·cases h
    ·split at h
     ·cases h
     ·obtain⟨h1,h2⟩:=hb _ _ _ _ _ _ _ h;exact⟨h1,by rw[h2];show s.opened+1-1=_;omega⟩
 exact⟨fun n l s x s' h=>(key n l s x s' h).1,fun n l s x s' h=>(key n l s x s' h).2⟩
theorem rT:∀(g:Nat) f k from_ v s x s',kM E g f k from_ v s= .ok x s'→s.steps≤s'.steps∧s'.opened=s.opened-1
 |0,_,_,_,_,_,_,_,h=>by cases h
 |g+1,f,k,from_,v,s,x,s',h=>by
  obtain⟨hm,hk⟩:=td (E:=E) (rT g);rw[rR]at h;cases h1:gG E (cv E g) f k from_ v s with
  |stop a b s1=>rw[fK h1]at h;cases h
  |ok r s1=>
   rw[gO h1]at h;obtain⟨nx,bk,v'⟩:=r;obtain⟨h3,h4⟩:=zS hm hk h1;split at h
   ·injection h with _ h;subst h;exact⟨by show s.steps≤s1.steps;omega,by show s1.opened-1=_;omega⟩
   ·obtain⟨h5,h6⟩:=rT g _ _ _ _ _ _ _ h;exact⟨oM,oM⟩
theorem rU(g:Nat):GI (cv E g):=(td (rT g)).1
theorem te(g:Nat):CN (cv E g):=(td (rT g)).2
end
theorem St(l:af)(n:Nat):ints l++(List.replicate n (vI 0)).drop (ints l).length=ints (l++List.replicate (n-l.length) 0):=by
 simp[ints]
end Go.Mor
namespace Go.Mor
open Go.RowKit
structure GO(E:Env0):Prop where
 names:∀nm n,dt E.names nm=some n→In64 n
 data:∀nm n,dt E.data nm=some n→In64 n
 inp:LI E.inp
 next:E.memN≤262144
 fns:∀f,f∈E.fns→f.WF
section
variable {E : Env0} {call : Int → List Int → cV → ed Int}
theorem Su{n:Int}{s:cV}:KI (fun _=>True) s (AU n s):=by unfold AU;exact .ite (fun _=> .stop) (fun _=> .ok id trivial)
theorem QfK{l:af}(h:LI l):In64 (a1 l):=gdI h 1
theorem EC{vals args:af}(h:LI vals):LI (eG vals args):=fun x hx=>by
 obtain⟨v,_,rfl⟩:=bD.1 hx;exact gdI h _
theorem LG(hE:GO E){i:cH}{l:af}(hn:In64 i.n)(hl:LI l)(hc:∀n l s,LI l→KI In64 s (call n l s))(s:cV):KI In64 s (bU E call i l s):=by
 unfold bU;have hE1:=hE.next;refine .ite (fun _=> .ok id hn) fun _=> .ite (fun _=> ?_) fun _=> .ite (fun _=> ?_) fun _=> .ite (fun _=> ?_) fun _=> .ite (fun _=>hc _ _ s (Xq hl)) fun _=> .ite (fun _=> ?_) fun _=> .ite (fun _=> ?_) fun _=> .ite (fun _=> ?_) fun _=>
  .ite (fun _=> .ite (fun _=> .ok id (gdI hE.inp _)) (fun _=> .ok id ⟨dQ,dQ⟩)) fun _=> .ite (fun _=> ?_) fun _=> .ite (fun _=> .ite (fun _=> .stop) (fun _=> .ok id kS)) fun _=> .ite (fun _=> .ok id (Qam hl)) fun _=>
  .ite (fun _=> .ok id Qfx) fun _=> .ite (fun _=> .ok id (Qb9 (Qam hl))) (fun _=> .stop)
 ·exact Su.bind fun k s2 _=>fun hs=>(KI.ok id (gdI hs.1 _):KI In64 s2 _) hs
 ·exact Su.bind fun k s2 _=> .ok (fun hm=>⟨zF hm.1 (QfK hl),hm.2⟩) kS
 ·split
  ·exact hc _ _ s hl
  ·exact .stop
 ·split
  ·exact .ok id (hE.data _ _ ‹_›)
  ·exact .stop
 ·split
  ·exact .ok id (hE.names _ _ ‹_›)
  ·exact .stop
 ·intro hs x s' he;have h1:=hs.2.1;have h2:=hs.2.2;split at he
  ·cases he
  split at he
  ·cases he
  injection he with he1 Rl;rw[←he1,←Rl];exact⟨⟨hs.1,by show 0≤s.next+a0 l;omega,by show s.next+a0 l≤262144;omega⟩,ur h1 oM⟩
 ·exact .ok (fun h=>by split<;>exact h) kS
theorem GP(hE:GO E)(hc:∀n l s,LI l→KI In64 s (call n l s)):∀(is:List cH),(∀i,i∈is→In64 i.n)→∀(v:af) (s:cV),LI v→KI LI s (fe E call is v s)
 |[],_,_,_,hv=> .ok id hv
 |i::r,h,v,s,hv=>by
  refine Lv.bind fun _ s _=>(LG hE (h i (cJ ..)) (EC hv) hc s).bind fun u s hu=> ?_
  refine GP hE hc r (fun j hj=>h j (bT _ hj)) _ s ?_;split
  ·exact zF hv hu
  ·exact hv
theorem CO:∀(ps:List (Int×Int)) (v:af),LI v→(∀p,p∈ps→In64 p.2)→LI (ox v ps)
 |[],_,h,_=>h
 |(d,u)::r,v,h,hp=>CO r _ (zF h (hp (d,u) (cJ ..))) (fun p hx=>hp p (bT _ hx))
theorem LH{ps:List gv}{a:Nat}{v:af}(h:LI v):LI (lh ps a v):=CO _ _ h (fun p hp=>by
 obtain⟨q,_,rfl⟩:=bD.1 hp;exact gdI h _)
def tf(E:Env0)(call:Int→af→cV→ed Int)(x:bF)(vals:af)(s:cV):ed (Int×Int×af):=(fe E call x.insts vals s).bind fun vals s=>(eN E s).bind fun _ s=>
  if x.e=0 then .ok (x.a,0,vals) s
  else if x.e=1 then .ok (if vals.getD x.v.toNat 0≠0 then x.a else x.b,0,vals) s
  else if x.e=3 then .stop 2 x.a s
  else .ok (-1,if x.v≥0 then vals.getD x.v.toNat 0 else 0,vals) s
theorem LJ{f:dZ}{k fr:Int}{v:af}{s:cV}{x:bF}(hx:f.aJ[k.toNat]?=some x):gG E call f k fr v s=tf E call x (lh x.aK (fm (f.src k.toNat) fr) v) s:=by
 unfold gG tf;rw[hx]
theorem XN(hE:GO E)(hc:∀n l s,LI l→KI In64 s (call n l s)){x:bF}(hx:x.Ok){v:af}(hv:LI v)(s:cV):KI (fun r=>In64 r.2.1∧LI r.2.2) s (tf E call x v s):=by
 unfold tf;refine(GP hE hc _ (fun i hi=>(hx.insts i hi).n) v s hv).bind fun u s hu=>Lv.bind fun _ s _=> ?_
 refine .ite (fun _=> .ok id ⟨kS,hu⟩) fun _=> .ite (fun _=> .ok id ⟨kS,hu⟩) fun _=> .ite (fun _=> .stop) fun _=> .ok id ⟨?_,hu⟩
 show In64 (if x.v≥0 then u.getD x.v.toNat 0 else 0);split
 ·exact gdI hu _
 ·exact kS
def CP(E:Env0)(g:Nat)(f:dZ)(k:Int)(x:bF)(v:af)(s:cV):ed Int:=(tf E (cv E g) x v s).bind fun r s=>if r.1<0 then .ok r.2.1 {s with opened:=s.opened-1}else kM E g f r.1 k r.2.2 s
theorem GQ{g:Nat}{f:dZ}{k fr:Int}{v:af}{s:cV}{x:bF}(hx:f.aJ[k.toNat]?=some x):kM E (g+1) f k fr v s=CP E g f k x (lh x.aK (fm (f.src k.toNat) fr) v) s:=by
 rw[rR];unfold CP;rw[LJ hx]
theorem ED(hE:GO E):∀(g:Nat) (f:dZ) (k fr:Int) (v:af) (s:cV),f.WF→LI v→KI In64 s (kM E g f k fr v s)
 |0,_,_,_,_,_,_,_=> .stop
 |g+1,f,k,fr,v,s,hW,hv=>by
  have hc:∀n l s,LI l→KI In64 s (cv E g n l s):=fun n l s hl=>by
   unfold cv jR;refine .ite (fun _=> .stop) fun _=> ?_
   split
   ·exact .stop
   rename_i q hq;refine .ite (fun _=> .stop) fun _=> .ite (fun _=> .stop) fun _=> ?_
   exact KI.same (s2:={s with opened:=s.opened+1}) id (ED hE g q 0 (-1) _ _ (hE.fns q (bu hq)) (fun x hx=>by
    rcases bX.1 hx with hx|hx
    ·exact hl x hx
    ·rw[(yv.1 hx).2];exact kS))
  rw[rR];cases hx:f.aJ[k.toNat]? with
  |none=>
   have:gG E (cv E g) f k fr v s= .stop 5 0 s:=by unfold gG;rw[hx]
   rw[this];exact KI.stop
  |some x=>
   rw[LJ hx];refine(XN hE hc (hW.ok x (bu hx)) (LH hv) s).bind fun r s hr=> .ite (fun _=> .ok id hr.1) (fun _=>ED hE g f _ _ _ s hW hr.2)
theorem GR(hE:GO E)(g:Nat)(n:Int)(l:af)(s:cV)(hl:LI l):KI In64 s (cv E g n l s):=by
 unfold cv jR;refine .ite (fun _=> .stop) fun _=> ?_
 split
 ·exact .stop
 rename_i q hq;refine .ite (fun _=> .stop) fun _=> .ite (fun _=> .stop) fun _=> ?_
 exact KI.same (s2:={s with opened:=s.opened+1}) id (ED hE g q 0 (-1) _ _ (hE.fns q (bu hq)) (fun x hx=>by
  rcases bX.1 hx with hx|hx
  ·exact hl x hx
  ·rw[(yv.1 hx).2];exact kS))
theorem JA(g:Nat)(n:Int)(l:af)(s:cV):QK s (cv E g n l s):=fun x s' h=>⟨rU g n l s x s' h,te g n l s x s' h⟩
theorem Sv{g:Nat}{l:af}{nm:aM}{s:cV}:(match dt E.names nm with|some n=>cv E g n l s|none=> .stop 5 0 s)=cv E g ((dt E.names nm).getD 0) l s:=by
 cases dt E.names nm with
 |some n=>rfl
 |none=>
  show ed.stop 5 0 s=jR E (kM E g) 0 l s;rw[mV (.inl dQ)]
end
end Go.Mor
namespace Go.Mor
open Go.RowKit
structure XO extends Env0
abbrev XO.nH(E:XO):List dZ:=E.fns
structure RX where
 E:XO
 ds:List bh
 r:Nat
 fA:ao
 fc:Nat
 qA:ao
 qc:Nat
 dA:ao
 dc:Nat
 pA:ao
 pc:Nat
 mG:Nat
 iA:ao
 ic:Nat
abbrev EE(X:RX)(z:kv)(oA:ao)(oc:Nat):aO:=[.slice X.dA X.ds.length X.dc,.slice X.pA X.ds.length X.pc,.slice (some (aZ X.mG)) X.E.memN X.E.memN,vI z.s.next,.slice X.iA X.E.inp.length X.ic,vI (z.s.pos:Int),.int .i64 z.k,vI z.c,.slice oA z.s.out.length oc,vI z.s.steps,.bool z.ov,vI X.E.fuel,vI z.s.opened,.slice X.fA X.E.nH.length X.fc,.slice X.qA X.E.nH.length X.qc]
abbrev pO(X:RX)(z:kv)(oA:ao)(oc:Nat):bx:= .aL X.r 76 (EE X z oA oc)
abbrev oG(X:RX)(z:kv):bx:= .row 2 1 (some (aZ X.mG)) X.E.memN X.E.memN (ints z.s.mem)
abbrev om(z:kv)(oA:ao)(oc:Nat):bx:= .row 5 1 oA z.s.out.length oc (ji z.s.out)
abbrev eC(X:RX)(z:kv)(oA:ao)(oc:Nat):List bx:=[.aL X.r 76 (EE X z oA oc),.row 2 1 (some (aZ X.mG)) X.E.memN X.E.memN (ints z.s.mem),.row 5 1 oA z.s.out.length oc (ji z.s.out)]
def RX.T(X:RX):List bx:=X.E.fns.map (fun f=>bx.fn f.A f.aJ)++(X.E.fns.map (fun f=>bx.rd f.qA (vy f))++X.E.fns.flatMap (fun f=>f.bO.map (fun q=>bx.rd q.1 (ints q.2.2))))
def RX.ro(X:RX):bx:= .all (.jY X.fA 5 (X.E.nH.map dZ.cells):: .jY X.dA 4 (X.ds.map bh.cells):: .rd X.pA (ints (gT X.ds X.ds.length)):: .rd X.iA (ji X.E.inp):: .rd X.qA (X.E.fns.map (fun f=> .slice f.qA f.bO.length f.qc))::X.T)
section
variable {S : Nat → Prop} {w : World} {X : RX}
theorem RO.NI(h:RO S w X.ro):RO S w (.jY X.fA 5 (X.E.nH.map dZ.cells)):=h.sub (cJ ..)
theorem RO.QfL(h:RO S w X.ro):RO S w (.jY X.dA 4 (X.ds.map bh.cells)):=h.sub (.tail _ (cJ ..))
theorem RO.xpl(h:RO S w X.ro):RO S w (.rd X.pA (ints (gT X.ds X.ds.length))):=h.sub (.tail _ (.tail _ (cJ ..)))
theorem RO.xin(h:RO S w X.ro):RO S w (.rd X.iA (ji X.E.inp)):=h.sub (.tail _ (.tail _ (.tail _ (cJ ..))))
theorem RO.xq(h:RO S w X.ro):RO S w (.rd X.qA (X.E.fns.map (fun f=> .slice f.qA f.bO.length f.qc))):=h.sub (.tail _ (.tail _ (.tail _ (.tail _ (cJ ..)))))
theorem RO.xfn(h:RO S w X.ro){f:dZ}(hf:f∈X.E.fns):RO S w (.fn f.A f.aJ):=h.sub (.tail _ (.tail _ (.tail _ (.tail _ (.tail _ (dG _ (bD.2 ⟨f,hf,rfl⟩)))))))
theorem RO.xsv(h:RO S w X.ro){f:dZ}(hf:f∈X.E.fns):RO S w (.rd f.qA (vy f)):=h.sub (.tail _ (.tail _ (.tail _ (.tail _ (.tail _ (iR _ (dG _ (bD.2 ⟨f,hf,rfl⟩))))))))
theorem RO.xs(h:RO S w X.ro){f:dZ}(hf:f∈X.E.fns){q:ao×Nat×af}(hq:q∈f.bO):RO S w (.rd q.1 (ints q.2.2)):=h.sub (.tail _ (.tail _ (.tail _ (.tail _ (.tail _ (iR _ (iR _ (jl.2 ⟨f,hf,bD.2 ⟨q,hq,rfl⟩⟩))))))))
end
def VG(qs:List dZ):List (aM×Int):=qs.zipIdx.map fun p=>(p.1.nm,((p.2+1:Nat):Int))
section
variable {qs : List dZ} {j : Nat} {f : dZ} {nm : ByteArray}
theorem yw:(VG qs)[j]?=(qs[j]?).map fun f=>(f.nm,((j+1:Nat):Int)):=by
 unfold VG;rw[List.getElem?_map,List.getElem?_zipIdx];cases qs[j]?<;>simp
theorem Sw(h:vX dZ.nm qs nm j):vX (·.1) (VG qs) nm j:=fun i p hi hp=>by
 rw[yw]at hp;cases hc:qs[i]? with
 |none=>rw[hc]at hp;cases hp
 |some f=>
  rw[hc]at hp;simp only[gC,cP]at hp;rw[←hp];exact h i f hi hc
theorem Qcv(hf:qs[j]?=some f)(he:f.nm.toList=nm.toList)(h:vX dZ.nm qs nm j):dt (VG qs) nm=some ((j+1:Nat):Int):=rQ _ j (by rw[yw,hf];simp only[gC,lT.1 he]) (Sw h)
theorem Sx(h:vX dZ.nm qs nm qs.length):dt (VG qs) nm=none:=by
 refine Jo ?_;have:(VG qs).length=qs.length:=by unfold VG;simp
 rw[this];exact Sw h
theorem Sy{n:Int}(h:dt (VG qs) nm=some n):1≤n∧n≤qs.length:=by
 obtain⟨i,hi⟩:=dv.1 (K9 h);rw[yw]at hi;cases hd:qs[i]? with
 |none=>rw[hd]at hi;cases hi
 |some d=>
  rw[hd]at hi;simp only[gC,cP,cF]at hi;have:=(List.getElem?_eq_some_iff.1 hd).1;omega
end
structure RX.WF(X:RX):Prop where
 fns:∀f,f∈X.E.fns→f.WF
 F4:X.E.nH.length≤1000
 nds:X.ds.length≤1000000
 next:ar X.ds X.ds.length≤262144
 names:X.E.names=VG X.E.fns
 data:X.E.data=bz X.ds X.ds.length
 mem:X.E.memN≤262144
 fuel:0≤X.E.fuel∧X.E.fuel≤4194304
 inp:X.E.inp.length≤4096
 ic:X.E.inp.length≤X.ic
 bytes:∀b,b∈X.E.inp→0≤b∧b≤255
 nd:∀f,f∈X.E.fns→∀k,(f.src k).Nodup
structure et(X:RX)(z:kv):Prop where
 mem:z.s.mem.length=X.E.memN
 n1:1≤z.s.next
 n2:z.s.next≤X.E.memN
 pos:z.s.pos≤X.E.inp.length
 out:z.s.out.length≤4096
 s1:0≤z.s.steps
 s2:z.s.steps≤X.E.fuel
theorem wg{ds:List bh}{nm:aM}{n:Int}(h:dt (bz ds ds.length) nm=some n):∃j,j<ds.length∧n=(ar ds j:Int):=by
 obtain⟨i,hi⟩:=dv.1 (K9 h);rw[s9]at hi;cases hd:ds[i]? with
 |none=>rw[hd]at hi;cases hi
 |some d=>
  rw[hd]at hi;simp only[gC,cP,cF]at hi;exact⟨i,(List.getElem?_eq_some_iff.1 hd).1,hi.2.symm⟩
section
variable {X : RX} {z : kv}
theorem RX.WF.ein(h:X.WF):GO X.E.toEnv0 where
 names nm n hn:=by rw[h.names]at hn;have:=Sy hn;have:X.E.fns.length≤1000:=h.F4;exact ur oM oM
 data nm n hn:=by rw[h.data]at hn;obtain⟨j,hj,rfl⟩:=wg hn;have:=ir (ds:=X.ds) (rG hj);have:=h.next;exact ur oM oM
 inp b hb:=by have:=h.bytes b hb;exact ur this.1 oM
 next:=h.mem;fns f hf:=h.fns f hf
theorem Sz(hX:X.WF){p:Nat}:0≤X.E.inp.getD p 0∧X.E.inp.getD p 0≤255:=by
 by_cases h:p<X.E.inp.length
 ·have:X.E.inp.getD p 0=X.E.inp[p]:=by simp[List.getD,h]
  rw[this];exact hX.bytes _ (qH h)
 ·have:X.E.inp.getD p 0=0:=by simp[List.getD,h]
  rw[this];omega
theorem et.fin(h:et X z){k c:Int}:et X (z.fin k c):=⟨by rw[zE];exact h.mem,by rw[zE];exact h.n1,by rw[zE];exact h.n2,by rw[zE];exact h.pos,by rw[zE];exact h.out,by rw[zE];exact h.s1,by rw[zE];exact h.s2⟩
theorem et.step(h:et X z)(hn:¬z.s.steps=X.E.fuel):et X {z with s:={z.s with steps:=z.s.steps+1}}:=⟨h.mem,h.n1,h.n2,h.pos,h.out,by have:=h.s1;show 0≤z.s.steps+1;omega,by have:=h.s2;show z.s.steps+1≤_;omega⟩
theorem et.take(h:et X z){n:Int}(h0:0≤n)(h1:n≤(X.E.memN:Int)-z.s.next):et X {z with s:={z.s with next:=z.s.next+n}}:=⟨h.mem,by have:=h.n1;show 1≤z.s.next+n;omega,by show z.s.next+n≤_;omega,h.pos,h.out,h.s1,h.s2⟩
theorem et.read(h:et X z)(hp:z.s.pos<X.E.inp.length):et X {z with s:={z.s with pos:=z.s.pos+1}}:=⟨h.mem,h.n1,h.n2,hp,h.out,h.s1,h.s2⟩
theorem et.write(h:et X z)(hp:z.s.out.length<4096)(b:Int):et X {z with s:={z.s with out:=z.s.out++[b]}}:=⟨h.mem,h.n1,h.n2,h.pos,by show(z.s.out++[b]).length≤_;rw[fz];exact hp,h.s1,h.s2⟩
theorem et.set(h:et X z)(k:Nat)(v:Int):et X {z with s:={z.s with mem:=z.s.mem.set k v}}:=⟨by show(z.s.mem.set k v).length=_;rw[n6];exact h.mem,h.n1,h.n2,h.pos,h.out,h.s1,h.s2⟩
theorem SA{w:World}{A:ao}{ad:Addr}{l:af}{p:Nat}(h:(bx.rd A (ji l)).holds w)(hA:A=some ad)(hp:p<l.length):w.cell? (ad.add (((p:Int)+1-1).toNat*1))=some (.int .u8 (l.getD p 0)):=by
 have e:((p:Int)+1-1).toNat=p:=oM;rw[e];have h1:(ji l)[p]?=some (.int .u8 (l.getD p 0)):=by unfold ji;rw[List.getElem?_map,List.getElem?_eq_getElem hp];simp[List.getD,hp]
 exact bH h hA h1
theorem zT{oA:ao}{oc:Nat}{b:Bool}(h:z.ov=b):eC X z oA oc=[.aL X.r 76 (.slice X.dA X.ds.length X.dc:: .slice X.pA X.ds.length X.pc:: .slice (some (aZ X.mG)) X.E.memN X.E.memN:: .int .i64 z.s.next:: .slice X.iA X.E.inp.length X.ic:: .int .i64 (z.s.pos:Int):: .int .i64 z.k:: .int .i64 z.c:: .slice oA z.s.out.length oc:: .int .i64 z.s.steps:: .bool b:: .int .i64 X.E.fuel:: .int .i64 z.s.opened::[.slice X.fA X.E.nH.length X.fc,.slice X.qA X.E.nH.length X.qc]),.row 2 1 (some (aZ X.mG)) X.E.memN X.E.memN (ints z.s.mem),.row 5 1 oA z.s.out.length oc (ji z.s.out)]:=by
 subst h;rfl
end
abbrev xS(X:RX)(z:kv)(oA:ao)(oc:Nat):Nat→Prop:=(bx.pk (eC X z oA oc)).fp
def XV(X:RX)(S:Nat→Prop)(w:World)(z:kv)(A:cV→ed Int)(v:Value)(w':World):Prop:=∃x z' oA oc,v=vI x∧et X z'∧fq (z.go A) (z'.go (ed.ok x))∧Mem S w w' (eC X z' oA oc)
def Qcw(P:Program)(X:RX)(z:kv)(oA:ao)(oc:Nat)(w:World)(fn:FuncId)(args:aO)(A:cV→ed Int):Prop:=Calls P fn args.toArray w (ff (XV X (xS X z oA oc) w z A))
def LK(P:Program)(X:RX)(fn:FuncId)(call:Int→af→cV→ed Int)(b:Int):Prop:=∀(n:Int) (l:af) (bA:ao) (bc:Nat) (z:kv) (oA:ao) (oc:Nat) (w:World),et X z→tA X.E.toEnv0 z b l→(bx.pk (eC X z oA oc)).holds w→RO (xS X z oA oc) w X.ro→RO (xS X z oA oc) w (.rd bA (ints l))→l.length≤17→Qcw P X z oA oc w fn [pT X.r 0,vI n,.slice bA l.length bc] (call n l)
def YIV(X:RX)(S:Nat→Prop)(w:World)(z:kv)(op:Int)(A:cV→ed Int)(v:Value)(w':World):Prop:=∃x z' oA oc,v=vI x∧et X z'∧(∃x',(aR op→x=x')∧fq (z.go A) (z'.go (ed.ok x')))∧Mem S w w' (eC X z' oA oc)
def YBV(X:RX)(S:Nat→Prop)(w:World)(z:kv)(b0:Int)(lq m:Nat)(A:cV→ed (Int×Int×af))(v:Value)(w':World):Prop:=∃b a vals z' oA oc,v= .tuple #[vI b,vI a]∧et X z'∧vals.length=m∧(z'.ov=true→b= -1)∧tA X.E.toEnv0 z' b0 vals∧fq (z.go A) (z'.go (ed.ok (b,a,vals)))∧Mem S w w' (eC X z' oA oc++[.row 2 1 (some (aZ lq)) m m (ints vals)])
abbrev yZ(X:RX)(z:kv)(oA:ao)(oc lq m:Nat)(v:af):Nat→Prop:=(bx.pk (eC X z oA oc++[.row 2 1 (some (aZ lq)) m m (ints v)])).fp
theorem et.toO{X:RX}{z:kv}(h:et X z){n:Int}:et X {z with s:={z.s with opened:=n}}:=⟨h.mem,h.n1,h.n2,h.pos,h.out,h.s1,h.s2⟩
theorem SC{G:ed Int}{z:kv}{x:Int}(hr:fq G (z.go fun s=> .ok x {s with opened:=s.opened-1}))(h:z.ov=false→In64 (z.s.opened-1)):fq G (kv.go {z with s:={z.s with opened:=IntKind.i64.wrap (z.s.opened-1)}} (ed.ok x)):=by
 cases hv:z.ov with
 |true=>
  rw[uq hv]at hr;unfold kv.go;rw[bC rfl];exact hr
 |false=>
  rw[s8 hv]at hr;unfold kv.go;rw[aB x9,yq (h hv)];exact hr
theorem Qcx{l:af}(h:LI l){n:Nat}:LI (l++List.replicate n 0):=fun x hx=>by
 rcases bX.1 hx with hx|hx
 ·exact h x hx
 ·rw[(yv.1 hx).2];exact kS
theorem QfM{l:af}{n:Nat}:List.replicate n (vI 0)=ints (l.take 0++List.replicate (n-0) 0):=by simp[ints]
theorem Qcy{l:af}{n j:Nat}(hj:j<l.length)(hn:l.length≤n):(l.take j++List.replicate (n-j) 0).set j (l.getD j 0)=l.take (j+1)++List.replicate (n-(j+1)) 0:=by
 have e:n-j=(n-(j+1))+1:=oM;have h1:(l.take j).length=j:=by rw[mq];omega
 have h2:l.getD j 0=l[j]:=by simp[List.getD,hj]
 rw[og _ _ oM,h1,rV,e,nX,LL,fO hj,en,h2];rfl
end Go.Mor
namespace Go.Mor
open Go.RowKit
theorem Mem.QfN{w:World}{r:bx}(h:r.holds w):Mem r.fp w w [r]:=⟨rfl,rfl,rfl,cB _,fun _ _ _=>rfl,fun q hq=>by rw[cI.1 hq];exact⟨h,fun _ hg=> .inl hg⟩,jM _ _⟩
section
variable {names data : List (ByteArray × Int)} {ds : List bh} {base m : List Int} {j k p memN : Nat} {d : bh} {v : Int}
def A8(ds:List bh)(memN:Nat):Nat→af
 |0=>List.replicate memN 0
 |j+1=>match ds[j]? with
  |none=>A8 ds memN j
  |some d=>dp (A8 ds memN j) (ar ds j) d.words
def Fv(names data:List (aM×Int))(ds:List bh)(base:af):Nat→af
 |0=>base
 |j+1=>match ds[j]? with
  |none=>Fv names data ds base j
  |some d=>fo names data (ar ds j) (Fv names data ds base j) d.refs
theorem zU(h:ds[j]?=some d):A8 ds memN (j+1)=dp (A8 ds memN j) (ar ds j) d.words:=by
 show(match ds[j]? with
  |none=>A8 ds memN j
  |some d=>dp (A8 ds memN j) (ar ds j) d.words)=_
 rw[h]
theorem uB(h:ds[j]?=some d):Fv names data ds base (j+1)=fo names data (ar ds j) (Fv names data ds base j) d.refs:=by
 show(match ds[j]? with
  |none=>Fv names data ds base j
  |some d=>fo names data (ar ds j) (Fv names data ds base j) d.refs)=_
 rw[h]
theorem rh(h:ds[j]?=some d)(hm:ar ds ds.length≤memN):ar ds j+d.words.length≤memN:=by
 have hj:=(List.getElem?_eq_some_iff.1 h).1;have:=ir (ds:=ds) (j:=j+1) (i:=ds.length) oM;rw[fw h]at this;omega
theorem EF:∀(j:Nat),j≤ds.length→ar ds ds.length≤memN→(A8 ds memN j).length=memN
 |0,_,_=>by simp[A8]
 |j+1,hj,hm=>by obtain⟨d,hd⟩:=aY (l:=ds) (i:=j) oM;have ih:=EF j oM hm;rw[zU hd,qV,ih];rw[ih];exact rh hd hm
theorem EG:∀(j:Nat),(Fv names data ds base j).length=base.length
 |0=>rfl
 |j+1=>by
  unfold Fv;split
  ·exact EG j
  ·rw[oa,EG j]
theorem GS{ws:af}{i:Nat}(hi:i<p)(hp:p≤m.length):dp (m.set i v) p ws=(dp m p ws).set i v:=by
 unfold dp;have h1:i<(m.take p).length:=by rw[mq];omega
 rw[en,en,List.set_append_left _ _ h1,List.take_set,List.drop_set_of_lt oM]
theorem uC{ws:af}{q:Nat}:∀(rs:List (Int×aM)) (m:af),(∀r,r∈rs→q+r.1.toNat<p)→p≤m.length→dp (fo names data q m rs) p ws=fo names data q (dp m p ws) rs
 |[],_,_,_=>rfl
 |r::rs,m,h,hp=>by show dp (fo names data q (m.set (q+r.1.toNat) (xz names data r.2)) rs) p ws=fo names data q ((dp m p ws).set (q+r.1.toNat) (xz names data r.2)) rs;rw[uC rs _ (fun x hx=>h x (bT _ hx)) (by rw[n6];exact hp),GS (h r (cJ ..)) hp]
theorem wR{ws:af}(hw:∀d,d∈ds→d.WF)(hp:p≤base.length):∀(j:Nat),j≤ds.length→ar ds j≤p→dp (Fv names data ds base j) p ws=Fv names data ds (dp base p ws) j
 |0,_,_=>rfl
 |j+1,hj,hle=>by obtain⟨d,hd⟩:=aY (l:=ds) (i:=j) oM;have hwd:=hw d (bu hd);rw[fw hd]at hle;rw[uB hd,uB hd,uC d.refs _ (fun r hr=>by have:=hwd.refs r hr;omega) (by rw[EG];exact hp),wR hw hp j oM oM]
theorem LM(hw:∀d,d∈ds→d.WF)(hm:ar ds ds.length≤memN):∀(j:Nat),j≤ds.length→jc names data ds memN j=Fv names data ds (A8 ds memN j) j
 |0,_=>rfl
 |j+1,hj=>by obtain⟨d,hd⟩:=aY (l:=ds) (i:=j) oM;have h1:=rh hd hm;rw[sZ hd,uB hd,zU hd,LM hw hm j oM,wR hw (by rw[EF j oM hm];omega) j oM (cB _)]
theorem GU:dp m p []=m:=by
 unfold dp;simp
theorem EH{ws:af}(hk:k<ws.length)(hp:p+ws.length≤m.length):(dp m p (ws.take k)).set (p+k) (ws.getD k 0)=dp m p (ws.take (k+1)):=by
 have h2:ws.getD k 0=ws[k]:=by simp[List.getD,hk]
 unfold dp;have e1:(m.take p++ws.take k).length=p+k:=by rw[fz,mq,mq];omega
 have e2:(ws.take k).length=k:=by rw[mq];omega
 have e3:(ws.take (k+1)).length=k+1:=by rw[mq];omega
 rw[og _ _ oM,e1,rV,e2,e3,h2,fO hk,sm oM,LL];simp only[en,yO,rF,pf]
theorem yx(h:ar ds ds.length≤memN):WE names data memN ds=jc names data ds memN ds.length:=by unfold WE;rw[bC h]
def PD(cs:List tw)(ds:List bh)(s:aM)(j:Nat)(v:Int):Prop:=(v≠0∧v=xz (jd cs cs.length) (bz ds ds.length) s)∨(v=0∧dt (bz ds ds.length) s=none∧vX tw.nm cs s j)
variable {cs : List tw} {s : ByteArray} {f : tw}
theorem PD.start:PD cs ds s 0 ((dt (bz ds ds.length) s).getD 0):=by
 cases hq:dt (bz ds ds.length) s with
 |none=>exact .inr ⟨rfl,hq,vX.zero⟩
 |some n=>
  obtain⟨j,_,rfl⟩:=wg hq;have:=pG (ds:=ds) (j:=j);exact .inl ⟨by show(ar ds j:Int)≠0;omega,(F8 hq).symm⟩
theorem PD.XP(h:PD cs ds s j v)(hv:v=0)(hf:cs[j]?=some f)(hc:f.nm.toList=s.toList):PD cs ds s (j+1) ((j:Int)+1):=by
 rcases h with⟨h1,_⟩|⟨_,h2,h3⟩
 ·exact absurd hv h1
 ·refine .inl ⟨oM,?_⟩;rw[zt h2,Qca hf hc h3];rfl
theorem PD.Qcz(h:PD cs ds s j v)(hv:v=0)(hf:cs[j]?=some f)(hc:¬f.nm.toList=s.toList):PD cs ds s (j+1) v:=by
 rcases h with⟨h1,_⟩|⟨_,h2,h3⟩
 ·exact absurd hv h1
 ·exact .inr ⟨hv,h2,h3.next hf hc⟩
theorem PD.done(h:PD cs ds s j v)(he:¬(j<cs.length∧v=0))(hj:j≤cs.length):v=xz (jd cs cs.length) (bz ds ds.length) s:=by
 rcases h with⟨_,h2⟩|⟨h1,h2,h3⟩
 ·exact h2
 ·obtain rfl:j=cs.length:=oM;rw[zt h2,RY h3,h1];rfl
end
end Go.Mor
namespace Go.Mor
open Go.RowKit
section
variable {β : Type} {E : Env0} {call : Int → List Int → cV → ed Int} {G : ed β} {z z' : kv} {l : List cH} {v : List Int} {j : Nat} {i : cH} {F : List Int → cV → ed β}
theorem XQ(hr:fq G (z.go fun s=>(fe E call (l.drop j) v s).bind F))(hi:l[j]?=some i):fq G (z.go fun s=>(eN E s).bind fun _ s=>(bU E call i (eG v i.args) s).bind fun u s=>(fe E call (l.drop (j+1)) (if 0≤i.dst∧aR i.op then v.set i.dst.toNat u else v) s).bind F):=fq.H4 (fun s=>by
 obtain⟨fM,he⟩:=List.getElem?_eq_some_iff.1 hi;rw[sm fM,he];show((eN E s).bind fun _ s=>(bU E call i (eG v i.args) s).bind fun u s=>fe E call (l.drop (j+1)) (if 0≤i.dst∧aR i.op then v.set i.dst.toNat u else v) s).bind F=_;cases eN E s with
 |stop _ _ _=>rfl
 |ok a s1=>
  show((bU E call i (eG v i.args) s1).bind fun u s=>fe E call (l.drop (j+1)) (if 0≤i.dst∧aR i.op then v.set i.dst.toNat u else v) s).bind F=(bU E call i (eG v i.args) s1).bind _;cases bU E call i (eG v i.args) s1<;>rfl) hr
theorem QcA(hr:fq G (z.go fun s=>(fe E call (l.drop j) v s).bind F))(h:l.length≤j):fq G (z.go (F v)):=fq.H4 (fun s=>by
 rw[tE h];rfl) hr
end
def XR(E:Env0)(x:bF)(vals:af)(s:cV):ed (Int×Int×af):=(eN E s).bind fun _ s=>
  if x.e=0 then .ok (x.a,0,vals) s
  else if x.e=1 then .ok (if vals.getD x.v.toNat 0≠0 then x.a else x.b,0,vals) s
  else if x.e=3 then .stop 2 x.a s
  else .ok (-1,if x.v≥0 then vals.getD x.v.toNat 0 else 0,vals) s
theorem XS{E:Env0}{call:Int→af→cV→ed Int}{x:bF}{v:af}{s:cV}:tf E call x v s=(fe E call (x.insts.drop 0) v s).bind (XR E x):=by rw[Dx];rfl
theorem NJ{v args:af}{k:Nat}{a:Int}(h:args[k]?=some a):eG v (args.take k)++[v.getD a.toNat 0]=eG v (args.take (k+1)):=by
 unfold eG;rw[iE,h,di];rfl
theorem SD{v:af}{i:cH}{x x':Int}(hs:bV i)(hx:aR i.op→x=x')(h:0≤i.dst):(if 0≤i.dst∧aR i.op then v.set i.dst.toNat x' else v)=v.set i.dst.toNat x:=by
 have hm:aR i.op:=hs.1.resolve_right oM;rw[bC ⟨h,hm⟩,hx hm]
theorem XT{v:af}{i:cH}{x':Int}(h:¬0≤i.dst):(if 0≤i.dst∧aR i.op then v.set i.dst.toNat x' else v)=v:=aB (fun h1=>h h1.1)
theorem CR{E:Env0}{call:Int→af→cV→ed Int}{x:bF}{v:af}{s s':cV}{b a:Int}{u:af}(h:tf E call x v s= .ok (b,a,u) s'):b= -1∨(x.e=0∧b=x.a)∨(x.e=1∧(b=x.a∨b=x.b)):=by
 unfold tf at h;cases h1:fe E call x.insts v s with
 |stop _ _ _=>rw[h1]at h;cases h
 |ok u1 s1=>
  rw[h1]at h;change((eN E s1).bind _)=_ at h;cases h2:eN E s1 with
  |stop _ _ _=>rw[h2]at h;cases h
  |ok u2 s2=>
   rw[h2]at h;change(if x.e=0 then _ else _)=_ at h;split at h
   ·rename_i he;injection h with h _;injection h with h _;exact .inr (.inl ⟨he,h.symm⟩)
   ·split at h
    ·rename_i he;injection h with h _;injection h with h _;refine .inr (.inr ⟨he,?_⟩);split at h
     ·exact .inl h.symm
     ·exact .inr h.symm
    ·split at h
     ·cases h
     ·injection h with h _;injection h with h _;exact .inl h.symm
def PE(l:af)(wh:Int)(j:Nat)(a:Int):Prop:=(a=0∧∀i x,i<j→l[i]?=some x→x≠wh)∨∃i:Nat,i<j∧a=(i:Int)∧l[i]?=some wh
section
variable {l : List Int} {wh a x : Int} {j : Nat}
theorem PE.start:PE l wh 0 0:= .inl ⟨rfl,fun i _ hi=>absurd hi (ee i)⟩
theorem PE.XP(hx:l[j]?=some x)(h:x=wh):PE l wh (j+1) (j:Int):= .inr ⟨j,oM,rfl,by rw[hx,h]⟩
theorem PE.Qcz(hq:PE l wh j a)(hx:l[j]?=some x)(h:¬x=wh):PE l wh (j+1) a:=by
 rcases hq with⟨h1,h2⟩|⟨i,h1,h2,h3⟩
 ·refine .inl ⟨h1,fun i y hi hy=> ?_⟩;by_cases e:i=j
  ·subst e;rw[hx]at hy;injection hy with hy;rw[←hy];exact h
  ·exact h2 i y oM hy
 ·exact .inr ⟨i,oM,h2,h3⟩
theorem CS:∀(l:af) (i:Nat),l.Nodup→l[i]?=some wh→fm l wh=i
 |[],i,_,h=>by simp at h
 |y::r,0,_,h=>by simp only[List.getElem?_cons_zero,cP]at h;unfold fm;rw[bC h]
 |y::r,i+1,hn,h=>by
  have h1:r[i]?=some wh:=by simpa using h
  have h2:=ui.1 hn;unfold fm;rw[aB (fun e=>h2.1 (by rw[e];exact bu h1)),CS r i h2.2 h1]
theorem PE.done(hq:PE l wh l.length a)(hn:l.Nodup)(hm:wh∈l):a=(fm l wh:Int)∧fm l wh<l.length:=by
 rcases hq with⟨_,h2⟩|⟨i,h1,h2,h3⟩
 ·obtain⟨i,hi⟩:=dv.1 hm;exact absurd rfl (h2 i wh (List.getElem?_eq_some_iff.1 hi).1 hi)
 ·rw[CS l i hn h3];exact⟨h2,h1⟩
end
theorem JB(bs:List SB)(b:Int):(bO bs b).Nodup:=by
 unfold bO fh;exact List.Pairwise.map _ (fun a b h=>oM) (List.nodup_range.filter _)
section
variable {E : Env0} {call : Int → List Int → cV → ed Int} {i : cH} {l : List Int} {s : cV}
theorem Qav(h:i.op=2∨i.op=3)(hs:bV i):0≤i.n∧i.n≤2147483647∧1≤i.args.length:=by
 rcases h with h|h
 ·have:=(xZ h).1 hs;omega
 ·have:=(tQ h).1 hs;omega
theorem LN{l:List (aM×Int)}{nm:aM}(h:¬(dt l nm).getD 0=0):dt l nm=some ((dt l nm).getD 0):=by
 cases hq:dt l nm with
 |none=>rw[hq]at h;exact absurd rfl h
 |some n=>rfl
theorem XU(h:i.op=8):bU E call i l s=qQ E (a0 l) s:=vw h
theorem XW(h:i.op=9):bU E call i l s=Cn E s:=zk h
theorem XX(h:i.op=10):bU E call i l s= .ok 0 (DX (a0 l) s):=tY h
theorem XY(h:i.op<1∨13≤i.op)(h2:i.op<40):bU E call i l s=Nw (i.op-16) (a0 l) (a1 l) s:=qP h h2
end
theorem GV{E:Env0}{z z':kv}{b:Int}{L:af}(h:tA E z (b+1) L)(hz:z'.ov=false)(he:fq (z.go (eN E)) (z'.go (ed.ok ()))):tA E z' b L:=tA.step (E:=⟨E,[]⟩) h hz he
theorem NK{E:Env0}{call:Int→af→cV→ed Int}(hm:GI call)(hk:CN call){i:cH}{l:af}{s:cV}:QK s (bU E call i l s):=fun x s' h=>⟨pN hm h,zQ hk h⟩
theorem GW{E:Env0}{g:Nat}{z z':kv}{b x:Int}{v l:af}{i:cH}(hE:GO E)(h:tA E z b v)(hn:In64 i.n)(hl:l=eG v i.args)(he:fq (z.go (bU E (cv E g) i l)) (z'.go (ed.ok x))):tA E z' b (if 0≤i.dst∧aR i.op then v.set i.dst.toNat x else v):=by
 subst hl;refine h.call (A:=bU E (cv E g) i (eG v i.args)) (NK (rU g) (te g)) (fun hv=>LG hE hn (EC hv) (GR hE g) z.s) he (fun hv hx=> ?_);split
 ·exact zF hv hx
 ·exact hv
theorem QcB{f:dZ}{k:Nat}{x:bF}(h:Qae f k x){p:gv}(hp:p∈x.aK){q:af}(hq:f.src k=q){a:Int}{at_:Nat}(ha:a=(at_:Int)∧at_<q.length):0≤a∧a<p.args.length∧0≤p.args.getD a.toNat 0∧p.args.getD a.toNat 0<f.va:=by
 obtain⟨rfl,hl⟩:=ha;have h1:=h.QeU p hp;rw[hq]at h1;have h2:=h.Qaf p hp _ (Mor.LA (l:=p.args) (i:=at_) oM);rw[cZ];omega
theorem SE{E:Env0}{call:Int→af→cV→ed Int}{f:dZ}(hW:f.WF){k:Int}(hk:0≤k){vals:af}{s s':cV}{nx bk:Int}{v':af}{x:bF}(hx:f.aJ[k.toNat]?=some x)(h:tf E call x vals s= .ok (nx,bk,v') s')(hn:0≤nx):nx<f.aJ.length∧k∈f.src nx.toNat:=by
 have hr:(x.e=0∧nx=x.a)∨(x.e=1∧(nx=x.a∨nx=x.b)):=(CR h).resolve_left oM;have he:=hW.QeV k.toNat x nx hx hr;rw[je hk]at he;have hq:=(hW.aL _ _ hx).ends;refine⟨?_,he⟩;rcases hq with⟨h0,ha,_⟩|⟨h0,ha,hb,_⟩|⟨h0,_⟩|⟨h0,_⟩<;>rcases hr with⟨h1,h2⟩|⟨h1,h2⟩<;>first|omega|(rcases h2 with h2|h2<;>omega)
theorem QcC{n:Nat}{x:bF}(hq:jm n x){b:Int}(hr:(x.e=0∧b=x.a)∨(x.e=1∧(b=x.a∨b=x.b))):0≤b:=by
 rcases hq with⟨h0,ha,_⟩|⟨h0,ha,hb,_⟩|⟨h0,_⟩|⟨h0,_⟩<;>rcases hr with⟨h1,h2⟩|⟨h1,h2⟩<;>first|omega|(rcases h2 with h2|h2<;>omega)
def wS(E:Env0)(f:dZ)(G:ed Int)(g:Nat)(j:Nat)(b a:Int)(v:af)(z:kv):Prop:=(b= -1∧j=0∧(z.ov=false→In64 (z.s.opened-1))∧fq G (z.go fun s=> .ok a {s with opened:=s.opened-1}))∨(0≤b∧∃j1 x,j=j1+1∧j1<g∧f.aJ[b.toNat]?=some x∧tA E z ((j1:Int)+1) v∧fq G (z.go (CP E j1 f b x v)))
section
variable {E : Env0} {f : dZ} {G : ed Int} {g j1 : Nat} {b a b' a' : Int} {v v' : List Int} {z z' : kv} {x : bF}
theorem wS.done(hr:fq G (z.go (CP E j1 f b x v)))(he:fq (z.go (tf E (cv E j1) x v)) (z'.go (ed.ok (b',a',v'))))(hZ:tA E z' (j1:Int) v')(hb:b'= -1):wS E f G g 0 b' a' v' z':=by
 refine .inl ⟨hb,rfl,fun h=> ?_,?_⟩
 ·have:=(hZ.run h).2.2.1;exact⟨oM,oM⟩
 ·have h2:=fq.step (F:=fun r s=>if r.1<0 then .ok r.2.1 {s with opened:=s.opened-1}else kM E j1 f r.1 b r.2.2 s) hr he;exact fq.H4 (fun s=>bC (by show b'<0;omega)) h2
theorem wS.next(hW:f.WF)(hE:GO E)(hs:0≤b)(hx:f.aJ[b.toNat]?=some x)(hr:fq G (z.go (CP E j1 f b x v)))(he:fq (z.go (tf E (cv E j1) x v)) (z'.go (ed.ok (b',a',v'))))(hZ:tA E z' (j1:Int) v')(ry:z'.s.steps≤E.fuel)(hj:j1<g)(hv:z'.ov=false)(hb:0≤b'){x':bF}(u6:f.aJ[b'.toNat]?=some x'){q:af}(hq:f.src b'.toNat=q):wS E f G g j1 b' a' (lh x'.aK (fm q b) v') z':=by
 subst hq;have h1:=(hZ.run hv).1;obtain⟨j2,rfl⟩:∃j2,j1=j2+1:=⟨j1-1,oM⟩;refine .inr ⟨hb,j2,x',rfl,oM,u6,?_,?_⟩
 ·have:((j2+1:Nat):Int)=(j2:Int)+1:=oM;rw[this]at hZ;rcases hZ with h|⟨h1,h2,h3,h4⟩
  ·exact .inl h
  ·exact .inr ⟨h1,h2,h3,LH h4⟩
 ·have h2:=fq.step (F:=fun r s=>if r.1<0 then .ok r.2.1 {s with opened:=s.opened-1}else kM E (j2+1) f r.1 b r.2.2 s) hr he;exact fq.H4 (fun s=>(aB (show¬b'<0 by omega)).trans (GQ u6)) h2
end
end Go.Mor
namespace Go.Mor
open Go.RowKit
def VQ(pa va:Int)(fs:List bF):Prop:=(∀x,x∈fs→∀p,p∈x.insts→bV p)∧gD pa va (cL fs)
def mg(fs:List bF)(k:Nat):Prop:=∀(i:Nat) (x:bF),i<k→fs[i]?=some x→∀p,p∈x.insts→bV p
def oZ(x:bF)(j:Nat):Prop:=∀(i:Nat) (p:cH),i<j→x.insts[i]?=some p→bV p
theorem mg.next{fs:List bF}{k:Nat}{x:bF}(h:mg fs k)(hx:fs[k]?=some x)(hi:oZ x x.insts.length):mg fs (k+1):=by
 intro i y hik hy p hp;rcases pe i k with h1|h1
 ·exact h i y h1 hy p hp
 ·have:i=k:=oM;subst this;rw[hx]at hy;injection hy with hy;subst hy;obtain⟨j,hj⟩:=dv.1 hp;exact hi j p (List.getElem?_eq_some_iff.1 hj).1 hj
theorem oZ.next{x:bF}{j:Nat}{p:cH}(h:oZ x j)(hp:x.insts[j]?=some p)(hs:bV p):oZ x (j+1):=by
 intro i q Z1 hq;rcases pe i j with h1|h1
 ·exact h i q h1 hq
 ·have:i=j:=oM;subst this;rw[hp]at hq;injection hq with hq;exact hq▸hs
theorem mg.all{fs:List bF}(h:mg fs fs.length):∀x,x∈fs→∀p,p∈x.insts→bV p:=by
 intro x hx;obtain⟨i,hi⟩:=dv.1 hx;exact h i x (List.getElem?_eq_some_iff.1 hi).1 hi
theorem zV{fs:List bF}(k:Nat):∀n,k≤n→n≤fs.length→∃es,fa fs n=fa fs k++es:=by
 intro n;induction n with
 |zero=>intro h _;exact⟨[],by rw[Nat.le_zero.1 h];simp⟩
 |succ n ih=>
  intro h hn;rcases pe n k with h1|h1
  ·have:k=n+1:=oM;subst this;exact⟨[],sI⟩
  ·obtain⟨es,he⟩:=ih h1 oM;obtain⟨x,hx⟩:=aY (l:=fs) (i:=n) oM;exact⟨es++j8 n x,by rw[jo hx,he,en]⟩
theorem XZ(b:Int)(l:List gv)(j:Nat):∃es,ef b l=ef b (l.take j)++es:=⟨ef b (l.drop j),by unfold ef;rw[←di,pH]⟩
theorem X0(b:Int)(l:List cH)(j:Nat):∃es,ez b l=ez b (l.take j)++es:=by
 have e:l.zipIdx=(l.take j).zipIdx++(l.drop j).zipIdx (0+(l.take j).length):=by rw[←List.zipIdx_append,pH]
 refine⟨(((l.drop j).zipIdx (0+(l.take j).length)).filter (fun x=>decide (aR x.1.op))).map (fun x=>(x.1.dst,b,(x.2:Int))),?_⟩;unfold ez;rw[e,ly,di]
theorem GX{fs:List bF}{pa va:Int}{k:Nat}{x:bF}(hx:fs[k]?=some x)(j:Nat)(h:gD pa va (cL fs)):gD pa va (fa fs k++ef k (x.aK.take j)):=by
 have hk:=(List.getElem?_eq_some_iff.1 hx).1;obtain⟨es,he⟩:=zV (fs:=fs) (k+1) fs.length hk (cB _);obtain⟨e2,h2⟩:=XZ k x.aK j;have:cL fs=(fa fs k++ef k (x.aK.take j))++(e2++ez k x.insts++es):=by unfold cL;rw[he,jo hx,j8,h2];simp only[en]
 rw[this]at h;exact h.pre
theorem GY{fs:List bF}{pa va:Int}{k:Nat}{x:bF}(hx:fs[k]?=some x)(j:Nat)(h:gD pa va (cL fs)):gD pa va (fa fs k++ef k x.aK++ez k (x.insts.take j)):=by
 have hk:=(List.getElem?_eq_some_iff.1 hx).1;obtain⟨es,he⟩:=zV (fs:=fs) (k+1) fs.length hk (cB _);obtain⟨e2,h2⟩:=X0 k x.insts j;have:cL fs=(fa fs k++ef k x.aK++ez k (x.insts.take j))++(e2++es):=by unfold cL;rw[he,jo hx,j8,h2];simp only[en]
 rw[this]at h;exact h.pre
structure Enc(lo pa:Int)(n:Nat)(base:Nat→Int×Int)(enc:Int×Int→Int×Int):Prop where
 base:∀v:Nat,v<n→lo≤(v:Int)→((base v).1<0↔pa≤(v:Int))
 enc:∀p,0≤p.1→0≤(enc p).1
def NonNeg(ds:vo):Prop:=∀d,d∈ds→0≤d.2.1
theorem SF{pa lo hi:Int}{n:Nat}{base:Nat→Int×Int}{enc:Int×Int→Int×Int}{ds:vo}{l:List (Int×Int)}(h:Ce n base enc ds l)(he:Enc lo pa n base enc)(hd:NonNeg ds)(h0:0≤lo)(h1:lo≤pa)(hn:hi=(n:Int))(v:Int):l5 lo hi l v↔(pa≤v∧v<hi)∧v∉ds.map (·.1):=by
 unfold l5;constructor
 ·rintro⟨⟨a,b⟩,c⟩;have hv:l[v.toNat]?=some (match findD ds (v.toNat:Int)with|some p=>enc p|none=>base v.toNat):=h.at_ v.toNat oM;have ev:(v.toNat:Int)=v:=oM;rw[ev]at hv;have hg:l.getD v.toNat (0,0)=(match findD ds v with|some p=>enc p|none=>base v.toNat):=by simp[List.getD,hv]
  rw[hg]at c;by_cases hm:v∈ds.map (·.1)
  ·obtain⟨p,hp,kH⟩:=lD hm;rw[hp]at c;have:=he.enc p (hd _ kH);simp only at c;omega
  ·rw[jq hm]at c;have:=(he.base v.toNat oM oM).1 c;exact⟨⟨oM,b⟩,hm⟩
 ·rintro⟨⟨a,b⟩,hm⟩;have hv:l[v.toNat]?=some (match findD ds (v.toNat:Int)with|some p=>enc p|none=>base v.toNat):=h.at_ v.toNat oM;have ev:(v.toNat:Int)=v:=oM;rw[ev,jq hm]at hv;have hg:l.getD v.toNat (0,0)=base v.toNat:=by simp[List.getD,hv]
  rw[hg];exact⟨⟨oM,b⟩,(he.base v.toNat oM oM).2 oM⟩
theorem nu(fs:List bF)(k j:Nat)(l:List gv):NonNeg (fa fs k++ef k (l.take j)):=by
 intro d hd;rcases bX.1 hd with hd|hd
 ·exact(tT hd).1
 ·unfold ef at hd;obtain⟨p,_,rfl⟩:=bD.1 hd;exact yW _
theorem zW(fs:List bF)(k j:Nat)(l:List gv)(m:List cH):NonNeg (fa fs k++ef k l++ez k (m.take j)):=by
 intro d hd;rcases bX.1 hd with hd|hd
 ·have:=nu fs k l.length l d (by rw[gg];exact hd);exact this
 ·unfold ez at hd;obtain⟨p,_,rfl⟩:=bD.1 hd;exact yW _
theorem mW{pa lo hi:Int}{n:Nat}{base:Nat→Int×Int}{enc:Int×Int→Int×Int}{ds:vo}{l:List (Int×Int)}(h:Ce n base enc ds l)(he:Enc lo pa n base enc)(hd:NonNeg ds)(h0:0≤lo)(h1:lo≤pa)(hn:hi=(n:Int))(ho:gD pa hi ds)(v b k:Int):(l5 lo hi l v→Ce n base enc (ds++[(v,b,k)]) (l.set v.toNat (enc (b,k)))∧gD pa hi (ds++[(v,b,k)]))∧(¬l5 lo hi l v→¬gD pa hi (ds++[(v,b,k)])):=by
 have key:=SF h he hd h0 h1 hn v;constructor
 ·intro hp;obtain⟨h2,h3⟩:=key.1 hp;exact⟨h.put oM oM h3,gD.snoc.2 ⟨ho,h2,h3⟩⟩
 ·intro hp hq;obtain⟨_,h2,h3⟩:=gD.snoc.1 hq;exact hp (key.2 ⟨h2,h3⟩)
def oo(n k:Nat):List (Int×Int):=List.replicate k (-1,0)++List.replicate (n-k) (0,0)
theorem JC(n:Nat):oo n 0=List.replicate n (0,0):=by simp[oo]
theorem Qes{n k:Nat}(h:k≤n):(oo n k).length=n:=by simp[oo];omega
theorem NL{n k:Nat}(h:k<n):(oo n k)[k]?=some (0,0):=by
 unfold oo;rw[List.getElem?_append_right sI,Dz,rV,show n-k=(n-(k+1))+1 by omega];rfl
theorem JD{n k:Nat}(h:k<n):(oo n k).set k (-1,0)=oo n (k+1):=by
 unfold oo;rw[og _ _ sI,List.replicate_succ',en];congr 1;rw[Dz,rV,show n-k=(n-(k+1))+1 by omega,nX];rfl
theorem NM(n:Nat):Ce n (fun _=>(-1,0)) (fun p=>(p.1,p.2+1)) [] (oo n n)where
 len:=by simp[oo]
 at_:=fun v hv=>by have:findD [] (v:Int)=none:=rfl;rw[this];simp[oo,hv]
theorem X1(pa:Int)(n:Nat):Enc pa pa n (fun _=>(-1,0)) (fun p=>(p.1,p.2+1)):=⟨fun _ _ h=>⟨fun _=>h,fun _=>dQ⟩,fun p h=>h⟩
end Go.Mor
namespace Go.Mor
open Go.RowKit
def kU(pa:Int)(v:Nat):Int×Int:=if(v:Int)<pa then(0,-2)else(-1,0)
def jZ(pa:Int)(n k:Nat):List (Int×Int):=(List.range k).map (kU pa)++List.replicate (n-k) (0,0)
theorem JE(pa:Int)(n:Nat):jZ pa n 0=List.replicate n (0,0):=by simp[jZ]
theorem NN{pa:Int}{n k:Nat}(h:k≤n):(jZ pa n k).length=n:=by simp[jZ];omega
theorem NO{pa:Int}{n k:Nat}(h:k<n):(jZ pa n k)[k]?=some (0,0):=by
 unfold jZ;rw[List.getElem?_append_right sI,fi,List.length_range,rV,show n-k=(n-(k+1))+1 by omega];rfl
theorem CT{pa:Int}{n k:Nat}{p:Int×Int}(h:k<n)(hp:kU pa k=p):(jZ pa n k).set k p=jZ pa n (k+1):=by
 unfold jZ;rw[og _ _ sI,sS,di,en];congr 1;rw[fi,List.length_range,rV,show n-k=(n-(k+1))+1 by omega,nX,←hp];rfl
theorem SG{pa:Int}{n k:Nat}(h:k<n)(hp:¬(k:Int)<pa):(jZ pa n k).set k (-1,0)=jZ pa n (k+1):=CT h (by simp[kU,hp])
theorem NP{pa:Int}{n k:Nat}(h:k<n)(hp:(k:Int)<pa):((jZ pa n k).set k (-1,0)).set k (0,-2)=jZ pa n (k+1):=by
 rw[List.set_set];exact CT h (by simp[kU,hp])
theorem NQ(pa:Int)(n:Nat):Ce n (kU pa) (fun p=>p) [] (jZ pa n n)where
 len:=by simp[jZ]
 at_:=fun v hv=>by have:findD [] (v:Int)=none:=rfl;rw[this];simp[jZ,hv]
theorem X2(pa:Int)(n:Nat):Enc 0 pa n (kU pa) (fun p=>p):=⟨fun v _ _=>by unfold kU;split<;>simp<;>omega,fun p h=>h⟩
end Go.Mor
namespace Go.Mor
open Go.RowKit
abbrev oH:=List (Int×Nat×Nat)
mutual
inductive BF(K:Int→af):Int→Nat→Nat→oH→Prop
 |mk {b:Int} {n m:Nat} {r:oH}:iH K (K b) (n+1) m r→BF K b n (m+1) (r++[(b,n+1,m+1)])
inductive iH(K:Int→af):af→Nat→Nat→oH→Prop
 |nil {n:Nat}:iH K [] n n []
 |snoc {l:af} {c:Int} {n m p:Nat} {r s:oH}:iH K l n m r→BF K c m p s→iH K (l++[c]) n p (r++s)
end
structure TreeU(K:Int→af)(pl up:Int→Int):Prop where
 SH:∀b c,c∈K b→up c=b∧c≠0∧pl b<pl c
 NR:∀b,(K b).Nodup
section
variable {K : Int → List Int} {pl up : Int → Int}
theorem TreeU.Jg(h:TreeU K pl up){b c:Int}(hc:c∈K b):jh up c b:= .step (h.SH b c hc).2.1 (by rw[(h.SH b c hc).1];exact .refl _)
mutual
theorem BF.facts(h:TreeU K pl up){b:Int}{n m:Nat}{r:oH}:BF K b n m r→(∀x i o,(x,i,o)∈r→jh up x b∧n<i∧i<o∧o≤m)∧n<m
 | .mk (m:=m) hl=>by
  have ih:=iH.facts h hl;constructor
  ·intro x i o hx;rcases bX.1 hx with hx|hx
   ·obtain⟨⟨c,hc,ha⟩,h1,h2,h3⟩:=ih.1 x i o hx;exact⟨ha.trans (h.Jg hc),oM,h2,oM⟩
   ·simp only[cI,cF]at hx;obtain⟨rfl,rfl,rfl⟩:=hx;have:=ih.2;exact⟨.refl _,oM,oM,oM⟩
  ·have:=ih.2;omega
theorem iH.facts(h:TreeU K pl up){l:af}{n m:Nat}{r:oH}:iH K l n m r→(∀x i o,(x,i,o)∈r→(∃c,c∈l∧jh up x c)∧n<i∧i<o∧o≤m)∧n≤m
 | .nil=>⟨fun x i o hx=>by simp at hx,cB _⟩
 | .snoc (l:=l) (c:=c) (m:=m0) hl hv=>by
  have i1:=iH.facts h hl;have i2:=BF.facts h hv;refine⟨fun x i o hx=> ?_,by have:=i1.2;have:=i2.2;omega⟩;rcases bX.1 hx with hx|hx
  ·obtain⟨⟨c',hc,ha⟩,h1,h2,h3⟩:=i1.1 x i o hx;have:=i2.2;exact⟨⟨c',dG _ hc,ha⟩,h1,h2,oM⟩
  ·obtain⟨ha,h1,h2,h3⟩:=i2.1 x i o hx;have:=i1.2;exact⟨⟨c,sI,ha⟩,oM,h2,h3⟩
end
theorem jh.chain{x a b:Int}(ha:jh up x a)(hb:jh up x b):jh up a b∨jh up b a:=by
 induction ha with
 |refl=>exact .inl hb
 | @step x d dN h ih=>
  cases hb with
  |refl=>exact .inr (.step dN h)
  |step _ hb=>exact ih hb
theorem TreeU.sub(h:TreeU K pl up){b c c' y:Int}(hc:c∈K b)(sx:c'∈K b)(hp:∀x d,jh up x d→0≤pl x→pl d≤pl x)(hb:0≤pl b)(h1:jh up y c)(h2:jh up y c'):c=c':=by
 have key:∀c c',c∈K b→c'∈K b→jh up c c'→c=c':=by
  intro c c' hc sx ha;cases ha with
  |refl=>rfl
  |step dN ha=>
   rw[(h.SH b c hc).1]at ha;have:=hp _ _ ha hb;have:=(h.SH b c' sx).2.2;omega
 rcases jh.chain h1 h2 with h3|h3
 ·exact key c c' hc sx h3
 ·exact(key c' c sx hc h3).symm
structure oq(K:Int→af)(pl up:Int→Int):Prop extends TreeU K pl up where
 le:∀x d,jh up x d→0≤pl x→pl d≤pl x
 pos:∀b,0≤pl b→∀c,c∈K b→0≤pl c
 neg:∀x d,pl x<0→0≤pl d→¬jh up x d
mutual
theorem BF.hold(h:oq K pl up){b:Int}(hb:0≤pl b){n m:Nat}{r:oH}:BF K b n m r→∀x i o y i' o',(x,i,o)∈r→(y,i',o')∈r→((i≤i'∧o'≤o)↔jh up y x)
 | .mk (m:=m) (r:=r) hl=>by
  intro x i o y i' o' hx hy;have f:=iH.facts h.toTreeU hl;rcases bX.1 hx with x1|x1<;>rcases bX.1 hy with y1|y1
  ·exact iH.hold h hb (fun c hc=>hc) (h.NR b) hl x i o y i' o' x1 y1
  ·simp only[cI,cF]at y1;obtain⟨e1,e2,e3⟩:=y1;obtain⟨⟨c,hc,ha⟩,h1,h2,h3⟩:=f.1 x i o x1;constructor
   ·intro hh;omega
   ·intro hh;rw[e1]at hh;have h4:=(h.SH _ _ hc).2.2;have h5:=h.le _ _ hh hb;have h6:=h.pos b hb c hc;have h7:=h.le _ _ (hh.trans ha) hb;omega
  ·simp only[cI,cF]at x1;obtain⟨e1,e2,e3⟩:=x1;obtain⟨⟨c,hc,ha⟩,h1,h2,h3⟩:=f.1 y i' o' y1;rw[e1];exact⟨fun _=>ha.trans (h.Jg hc),fun _=>⟨by omega,by omega⟩⟩
  ·simp only[cI,cF]at x1 y1;obtain⟨e1,e2,e3⟩:=x1;obtain⟨e4,e5,e6⟩:=y1;rw[e1,e4];exact⟨fun _=> .refl _,fun _=>⟨by omega,by omega⟩⟩
theorem iH.hold(h:oq K pl up){b:Int}(hb:0≤pl b){l:af}(kz:∀c,c∈l→c∈K b)(qp:l.Nodup){n m:Nat}{r:oH}:iH K l n m r→(∀x i o y i' o',(x,i,o)∈r→(y,i',o')∈r→((i≤i'∧o'≤o)↔jh up y x))
 | .nil=>fun x i o y i' o' hx _=>by simp at hx
 | .snoc (l:=l) (c:=c) hl hv=>by
  have f1:=iH.facts h.toTreeU hl;have f2:=BF.facts h.toTreeU hv;have PF:=kz c (by simp);have Rp:=h.pos b hb c PF;rw[gJ]at qp;have apart:∀y,jh up y c→∀c',c'∈l→¬jh up y c':=by intro y h1 c' sx h2;have:=h.sub PF (kz c' (dG _ sx)) h.le hb h1 h2;exact qp.2.2 c' sx c (by simp) this.symm
  intro x i o y i' o' hx hy;rcases bX.1 hx with x1|x1<;>rcases bX.1 hy with y1|y1
  ·exact iH.hold h hb (fun c hc=>kz c (dG _ hc)) qp.1 hl x i o y i' o' x1 y1
  ·obtain⟨⟨c',sx,ha⟩,h1,h2,h3⟩:=f1.1 x i o x1;obtain⟨KH,h4,h5,h6⟩:=f2.1 y i' o' y1;constructor
   ·intro hh;omega
   ·intro hh;exact absurd (hh.trans ha) (apart y KH c' sx)
  ·obtain⟨⟨c',sx,ha⟩,h1,h2,h3⟩:=f1.1 y i' o' y1;obtain⟨KH,h4,h5,h6⟩:=f2.1 x i o x1;constructor
   ·intro hh;omega
   ·intro hh;exact absurd ha (apart y (hh.trans KH) c' sx)
  ·exact BF.hold h Rp hv x i o y i' o' x1 y1
end
end
end Go.Mor
namespace Go.Mor
open Go.RowKit
def QcD(bs:List SB)(k:Nat):Nat:=((List.range k).filter (fun i:Nat=>gR bs (-1) (i:Int))).length
theorem zX{l:List Nat}(h:l.Nodup):(l.map (fun i:Nat=>(i:Int))).Nodup:=by
 rw[List.Nodup,List.pairwise_map];exact h.imp (fun h e=>h oM)
theorem X3(bs:List SB):QcD bs bs.length=(aI bs).length:=by
 by_cases h0:bs.length=0
 ·unfold QcD aI;rw[bC h0,h0];rfl
 ·have ho:=oY (bs:=bs) oM;have hn:(((List.range bs.length).filter (fun i:Nat=>gR bs (-1) (i:Int))).map (fun i:Nat=>(i:Int))).Nodup:=zX (List.nodup_range.sublist yi);have hp:=(List.perm_ext_iff_of_nodup ho.nodup hn).2 (fun x=>by
   rw[ho.mem x];constructor
   ·intro hx;obtain⟨h1,h2⟩:=rP oM hx;exact bD.2 ⟨x.toNat,e8.2 ⟨ew.2 oM,by rw[je h1];exact nq.2 hx⟩,je h1⟩
   ·intro hx;obtain⟨i,hi,rfl⟩:=bD.1 hx;exact nq.1 (e8.1 hi).2)
  rw[hp.length_eq,fi];rfl
theorem CU{n:Nat}{l:af}{f:Int→Int}(h:cG n l f){x v:Int}(h0:0≤x)(h1:x<n)(e:f x=v):(ints l)[x.toNat]?=some (vI v):=by rw[←e];exact h.at_ h0 h1
end Go.Mor
namespace Go.Mor
open Go.RowKit
inductive SI(K:Int→af):List (Int×Int)→Int→Nat→List (Int×Nat)→oH→Prop
 |nil:SI K [] 0 0 [] []
 |snoc {ws:List (Int×Int)} {b c:Int} {n0 n1 j:Nat} {op:List (Int×Nat)} {rs r:oH}:SI K ws b n0 op rs→iH K ((K b).take j) (n0+1) n1 r→(K b)[j]?=some c→
   SI K (ws++[(b,(j:Int)+1)]) c n1 (op++[(b,n0+1)]) (rs++r)
def LO(f:Int→Int)(op:List (Int×Nat))(rs:oH):Prop:=∀x:Int,(∀i:Nat,(x,i)∈op→f x=i)∧(∀i o:Nat,(x,i,o)∈rs→f x=i)∧((∀i:Nat,(x,i)∉op)→(∀i o:Nat,(x,i,o)∉rs)→f x=0)
def EI(g:Int→Int)(rs:oH):Prop:=∀x:Int,(∀i o:Nat,(x,i,o)∈rs→g x=o)∧((∀i o:Nat,(x,i,o)∉rs)→g x=0)
def BG(f:Int→Int)(b v:Int):Int→Int:=fun x=>if x=b then v else f x
section
variable {K : Int → List Int} {pl up : Int → Int}
theorem iH.len{l:af}{n m:Nat}{r:oH}(h:iH K l n m r):m=n+2*r.length:=by
 refine iH.rec (motive_1:=fun _ n m r _=>m=n+2*r.length) (motive_2:=fun _ n m r _=>m=n+2*r.length) ?_ ?_ ?_ h
 ·intro b n m r _ ih;simp only[fz,eZ,gX];omega
 ·intro n;simp
 ·intro l c n m p r s _ _ i1 i2;simp only[fz];omega
mutual
theorem BF.NR(h:oq K pl up){b:Int}(hb:0≤pl b){n m:Nat}{r:oH}:BF K b n m r→(r.map (·.1)).Nodup
 | .mk (m:=m) (r:=r) hl=>by have f:=iH.facts h.toTreeU hl;rw[di,gJ];refine⟨iH.NR h hb (fun c hc=>hc) (h.NR b) hl,sI,fun x hx y hy e=> ?_⟩;simp at hy;subst hy;subst e;obtain⟨⟨x,i,o⟩,mx,rfl⟩:=bD.1 hx;obtain⟨⟨c,hc,ha⟩,_⟩:=f.1 x i o mx;have h4:=(h.SH _ _ hc).2.2;have h5:=h.le _ _ ha hb;simp only at h4;omega
theorem iH.NR(h:oq K pl up){b:Int}(hb:0≤pl b){l:af}(kz:∀c,c∈l→c∈K b)(qp:l.Nodup){n m:Nat}{r:oH}:iH K l n m r→(r.map (·.1)).Nodup
 | .nil=>sI
 | .snoc (l:=l) (c:=c) hl hv=>by have f1:=iH.facts h.toTreeU hl;have f2:=BF.facts h.toTreeU hv;have PF:=kz c sI;rw[gJ]at qp;rw[di,gJ];refine⟨iH.NR h hb (fun c hc=>kz c (dG _ hc)) qp.1 hl,BF.NR h (h.pos b hb c PF) hv,fun x hx y hy e=> ?_⟩;obtain⟨⟨x,i,o⟩,mx,rfl⟩:=bD.1 hx;obtain⟨⟨y,i',o'⟩,my,rfl⟩:=bD.1 hy;simp only at e;subst e;obtain⟨⟨c',sx,ha⟩,_⟩:=f1.1 x i o mx;obtain⟨KH,_⟩:=f2.1 x i' o' my;have:=h.sub PF (kz c' (dG _ sx)) h.le hb KH ha;exact qp.2.2 c' sx c sI this.symm
end
theorem SI.facts(h:oq K pl up)(h0:0≤pl 0){ws:List (Int×Int)}{b:Int}{n0:Nat}{op:List (Int×Nat)}{rs:oH}(hl:SI K ws b n0 op rs):0≤pl b∧(∀x i,(x,i)∈op→jh up b x∧pl x<pl b∧0≤pl x∧1≤i)∧(∀x i o,(x,i,o)∈rs→¬jh up x b∧0≤pl x)∧(op.map (·.1)++rs.map (·.1)).Nodup∧n0=op.length+2*rs.length:=by
 induction hl with
 |nil=>exact⟨h0,sI,sI,sI,sI⟩
 | @snoc ws b c n0 n1 j op rs r hl hv hc ih=>
  obtain⟨hb,h1,h2,h3,h4⟩:=ih;have PF:c∈K b:=bu hc;have Rp:=h.pos b hb c PF;have hk:=h.SH b c PF;have kz:∀x,x∈(K b).take j→x∈K b:=fun x hx=>yl hx
  have fr:=iH.facts h.toTreeU hv;have QeP:∀x,x∈(K b).take j→x≠c:=by
   rintro x hx rfl;obtain⟨i,hi,he⟩:=Ei.1 hx;have vb:(K b)[i]?=some x:=by rw[List.getElem?_eq_getElem oM,he]
   have hd:=h.NR b;obtain⟨hj,hje⟩:=List.getElem?_eq_some_iff.1 hc;have:=(List.nodup_iff_pairwise_ne.1 hd);rw[qx]at this;exact this i j oM hj oM (by rw[he,hje])
  have hr:∀x i o,(x,i,o)∈r→¬jh up x c∧jh up x b∧0≤pl x∧x≠b:=by
   intro x i o hx;obtain⟨⟨c',sx,ha⟩,_⟩:=fr.1 x i o hx;have jN:=h.SH b c' (kz c' sx);refine⟨fun lM=>QeP c' sx (h.sub (kz c' sx) PF h.le hb ha lM),ha.trans (h.Jg (kz c' sx)),?_,?_⟩
   ·rcases Int.lt_or_le (pl x) 0 with h7|h7
    ·exfalso;exact absurd ha (h.neg x c' h7 (h.pos b hb c' (kz c' sx)))
    ·exact h7
   ·rintro rfl;have:=h.le _ _ ha hb;omega
  refine⟨Rp,fun x i hx=> ?_,fun x i o hx=> ?_,?_,?_⟩
  ·rcases bX.1 hx with hx|hx
   ·obtain⟨a1,a2,a3,a4⟩:=h1 x i hx;exact⟨(h.Jg PF).trans a1,oM,a3,a4⟩
   ·simp only[cI,cF]at hx;obtain⟨rfl,rfl⟩:=hx;exact⟨h.Jg PF,hk.2.2,hb,oM⟩
  ·rcases bX.1 hx with hx|hx
   ·obtain⟨a1,a2⟩:=h2 x i o hx;refine⟨fun ha=> ?_,a2⟩;exact a1 (ha.trans (h.Jg PF))
   ·exact⟨(hr x i o hx).1,(hr x i o hx).2.2.1⟩
  ·rw[gJ]at h3;rw[di,di,gJ,gJ,gJ];refine⟨⟨h3.1,sI,fun x hx y hy e=> ?_⟩,⟨h3.2.1,iH.NR h hb kz ((h.NR b).sublist (yo _ _)) hv,fun x hx y hy e=> ?_⟩,fun x hx y hy e=> ?_⟩
   ·simp at hy;subst hy;subst e;obtain⟨⟨x,i⟩,mx,rfl⟩:=bD.1 hx;have:=(h1 x i mx).2.1;simp only at this;omega
   ·obtain⟨⟨x,i,o⟩,mx,rfl⟩:=bD.1 hx;obtain⟨⟨y,i',o'⟩,my,rfl⟩:=bD.1 hy;simp only at e;subst e;exact(h2 x i o mx).1 (hr x i' o' my).2.1
   ·rcases bX.1 hx with hx|hx<;>rcases bX.1 hy with hy|hy
    ·exact h3.2.2 x hx y hy e
    ·obtain⟨⟨x,i⟩,mx,rfl⟩:=bD.1 hx;obtain⟨⟨y,i',o'⟩,my,rfl⟩:=bD.1 hy;simp only at e;subst e;have a1:=(hr x i' o' my).2.1;have a2:=h.le _ _ a1 (hr x i' o' my).2.2.1;have:=(h1 x i mx).2.1;omega
    ·simp at hx;subst hx;subst e;obtain⟨⟨y,i',o'⟩,my,rfl⟩:=bD.1 hy;exact(h2 y i' o' my).1 (.refl _)
    ·simp at hx;subst hx;subst e;obtain⟨⟨y,i',o'⟩,my,rfl⟩:=bD.1 hy;exact(hr y i' o' my).2.2.2 rfl
  ·have:=iH.len hv;simp only[fz,eZ,gX];omega
end
end Go.Mor
namespace Go.Mor
open Go.RowKit
def SJ(K:Int→af)(ws:List (Int×Int))(b:Int)(n:Nat)(f g:Int→Int):Prop:=∃op rs,SI K ws b n op rs∧LO f op rs∧EI g rs
def LP(K:Int→af)(ws:List (Int×Int))(b:Int)(k n:Nat)(f g:Int→Int):Prop:=∃op rs n0 r,SI K ws b n0 op rs∧iH K ((K b).take k) (n0+1) n r∧k≤(K b).length∧LO f (op++[(b,n0+1)]) (rs++r)∧EI g (rs++r)
def FIN(K:Int→af)(n:Nat)(f g:Int→Int):Prop:=∃rs,BF K 0 0 n rs∧LO f [] rs∧EI g rs
def EJ(K:Int→af)(rM:List (Int×Int))(n:Nat)(f g:Int→Int):Prop:=(rM=[]∧FIN K n f g)∨∃(ws:List (Int×Int)) (b:Int) (k:Nat),rM=ws++[(b,(k:Int))]∧((k=0∧SJ K ws b n f g)∨(1≤k∧LP K ws b k n f g))
section
variable {K : Int → List Int} {pl up : Int → Int} {ws : List (Int × Int)} {b : Int} {n k : Nat} {f g : Int → Int}
theorem SJ.start(h:oq K pl up)(h0:0≤pl 0)(hu:SJ K ws b n f g):LP K ws b 0 (n+1) (BG f b ((n:Int)+1)) g:=by
 obtain⟨op,rs,hl,hf,hg⟩:=hu;obtain⟨f1,f2,f3,f4,f5⟩:=hl.facts h h0;refine⟨op,rs,n,[],hl,by rw[List.take_zero];exact .nil,cf _,?_,by rw[mm];exact hg⟩;rw[mm];intro x;unfold BG;by_cases e:x=b
 ·subst e;rw[bC rfl];refine⟨fun i hi=> ?_,fun i o hi=> ?_,fun hi _=> ?_⟩
  ·rcases bX.1 hi with hi|hi
   ·have:=(f2 x i hi).2.1;omega
   ·simp only[cI,cF]at hi;obtain⟨_,rfl⟩:=hi;simp
  ·exact absurd (.refl _) (f3 x i o hi).1
  ·exact absurd (sI:(x,n+1)∈op++[(x,n+1)]) (hi (n+1))
 ·rw[aB e];refine⟨fun i hi=> ?_,(hf x).2.1,fun hi hj=>(hf x).2.2 (fun i hm=>hi i (dG _ hm)) hj⟩;rcases bX.1 hi with hi|hi
  ·exact(hf x).1 i hi
  ·simp only[cI,cF]at hi;exact absurd hi.1 e
theorem LP.pos(h:oq K pl up)(h0:0≤pl 0)(hs:LP K ws b k n f g):0≤pl b:=by
 obtain⟨op,rs,n0,r,hl,_⟩:=hs;exact(hl.facts h h0).1
theorem SJ.pos(h:oq K pl up)(h0:0≤pl 0)(hs:SJ K ws b n f g):0≤pl b:=by
 obtain⟨op,rs,hl,_⟩:=hs;exact(hl.facts h h0).1
theorem LP.push(hs:LP K ws b k n f g){c:Int}(hc:(K b)[k]?=some c):SJ K (ws++[(b,(k:Int)+1)]) c n f g:=by
 obtain⟨op,rs,n0,r,hl,hv,hk,hf,hg⟩:=hs;exact⟨_,_,.snoc hl hv hc,hf,hg⟩
theorem LP.finish(h:oq K pl up)(h0:0≤pl 0)(hs:LP K ws b (K b).length n f g):EJ K ws (n+1) f (BG g b ((n:Int)+1)):=by
 obtain⟨op,rs,n0,r,hl,hv,hk,hf,hg⟩:=hs;obtain⟨f1,f2,f3,f4,f5⟩:=hl.facts h h0;rw[gg]at hv;have fr:=iH.facts h.toTreeU hv;have QfO:BF K b n0 (n+1) (r++[(b,n0+1,n+1)]):= .mk hv;have hnr:∀i o:Nat,(b,i,o)∉rs++r:=by
  intro i o hm;rcases bX.1 hm with hm|hm
  ·exact(f3 b i o hm).1 (.refl _)
  ·obtain⟨⟨c,hc,ha⟩,_⟩:=fr.1 b i o hm;have:=h.le _ _ ha f1;have:=(h.SH b c hc).2.2;omega
 have hf':LO f op (rs++(r++[(b,n0+1,n+1)])):=by
  intro x;refine⟨fun i hi=>(hf x).1 i (dG _ hi),fun i o hi=> ?_,fun hi hj=>(hf x).2.2 (fun i hm=> ?_) (fun i o hm=>hj i o ?_)⟩
  ·rw[←en]at hi;rcases bX.1 hi with hi|hi
   ·exact(hf x).2.1 i o hi
   ·simp only[cI,cF]at hi;obtain⟨rfl,rfl,rfl⟩:=hi;exact(hf x).1 (n0+1) sI
  ·rcases bX.1 hm with hm|hm
   ·exact hi i hm
   ·simp only[cI,cF]at hm;obtain⟨rfl,rfl⟩:=hm;exact hj (n0+1) (n+1) sI
  ·rw[←en];exact dG _ hm
 have o7:EI (BG g b ((n:Int)+1)) (rs++(r++[(b,n0+1,n+1)])):=by
  intro x;unfold BG;rw[←en];by_cases e:x=b
  ·subst e;rw[bC rfl];refine⟨fun i o hi=> ?_,fun hi=>absurd (sI:(x,n0+1,n+1)∈rs++r++[(x,n0+1,n+1)]) (hi _ _)⟩;rcases bX.1 hi with hi|hi
   ·exact absurd hi (hnr i o)
   ·simp only[cI,cF]at hi;obtain⟨_,_,rfl⟩:=hi;simp
  ·rw[aB e];refine⟨fun i o hi=> ?_,fun hi=>(hg x).2 (fun i o hm=>hi i o (dG _ hm))⟩;rcases bX.1 hi with hi|hi
   ·exact(hg x).1 i o hi
   ·simp only[cI,cF]at hi;exact absurd hi.1 e
 cases hl with
 |nil=>
  exact .inl ⟨rfl,_,by simpa using QfO,by simpa using hf',by simpa using o7⟩
 | @snoc ws' b' _ m0 _ j op' rs' r' hl' MF sx=>
  refine .inr ⟨ws',b',j+1,sI,.inr ⟨oM,op',rs',m0,r'++(r++[(b,n0+1,n+1)]),hl',?_,?_,?_,?_⟩⟩
  ·obtain⟨hj,hje⟩:=List.getElem?_eq_some_iff.1 sx;rw[fO hj,hje];exact .snoc MF QfO
  ·exact(List.getElem?_eq_some_iff.1 sx).1
  ·rw[en]at hf';exact hf'
  ·rw[en]at o7;exact o7
theorem GZ{l:af}{N:Nat}(hn:l.Nodup)(hr:∀x,x∈l→0≤x∧x<(N:Int)):l.length≤N:=by
 have hp:=(List.perm_ext_iff_of_nodup hn (l₂:=((List.range N).filter (fun i:Nat=>decide ((i:Int)∈l))).map (fun i:Nat=>(i:Int))) (zX (List.nodup_range.sublist yi))).2 (fun x=>by
  constructor
  ·intro hx;obtain⟨h1,h2⟩:=hr x hx;have e:(x.toNat:Int)=x:=je h1;exact bD.2 ⟨x.toNat,e8.2 ⟨ew.2 oM,by rw[e];simpa using hx⟩,e⟩
  ·intro hx;obtain⟨i,hi,rfl⟩:=bD.1 hx;simpa using(e8.1 hi).2)
 rw[hp.length_eq,fi];exact iv (m5 _ _) sI
theorem SI.bound(h:oq K pl up)(h0:0≤pl 0){N:Nat}(hN:∀x,0≤pl x→0≤x∧x<(N:Int)){op:List (Int×Nat)}{rs:oH}(hl:SI K ws b n op rs):n+2≤2*N:=by
 obtain⟨f1,f2,f3,f4,f5⟩:=hl.facts h h0;have qp:(b::(op.map (·.1)++rs.map (·.1))).Nodup:=by
  rw[ui];refine⟨fun hm=> ?_,f4⟩;rcases bX.1 hm with hm|hm
  ·obtain⟨⟨x,i⟩,mx,rfl⟩:=bD.1 hm;have:=(f2 x i mx).2.1;simp only at this;omega
  ·obtain⟨⟨x,i,o⟩,mx,rfl⟩:=bD.1 hm;exact(f3 x i o mx).1 (.refl _)
 have:=GZ (N:=N) qp (fun x hx=>by
  rcases db.1 hx with rfl|hx
  ·exact hN _ f1
  ·rcases bX.1 hx with hm|hm
   ·obtain⟨⟨x,i⟩,mx,rfl⟩:=bD.1 hm;exact hN _ (f2 x i mx).2.2.1
   ·obtain⟨⟨x,i,o⟩,mx,rfl⟩:=bD.1 hm;exact hN _ (f3 x i o mx).2)
 simp only[eZ,fz,fi]at this;omega
theorem SJ.bound(h:oq K pl up)(h0:0≤pl 0){N:Nat}(hN:∀x,0≤pl x→0≤x∧x<(N:Int))(hu:SJ K ws b n f g):n+2≤2*N:=by
 obtain⟨op,rs,hl,_⟩:=hu;exact hl.bound h h0 hN
theorem LP.bound(h:oq K pl up)(h0:0≤pl 0){N:Nat}(hN:∀x,0≤pl x→0≤x∧x<(N:Int))(hs:LP K ws b k n f g):n+1≤2*N:=by
 obtain⟨op,rs,n0,r,hl,hv,hk,_,_⟩:=hs;obtain⟨f1,f2,f3,f4,f5⟩:=hl.facts h h0;have fr:=iH.facts h.toTreeU hv;have kz:∀x,x∈(K b).take k→x∈K b:=fun x hx=>yl hx
 have Lj:∀x i o,(x,i,o)∈r→jh up x b∧0≤pl x∧x≠b:=by
  intro x i o hx;obtain⟨⟨c',sx,ha⟩,_⟩:=fr.1 x i o hx;have jN:=h.SH b c' (kz c' sx);refine⟨ha.trans (h.Jg (kz c' sx)),?_,?_⟩
  ·rcases Int.lt_or_le (pl x) 0 with h7|h7
   ·exact absurd ha (h.neg x c' h7 (h.pos b f1 c' (kz c' sx)))
   ·exact h7
  ·rintro rfl;have:=h.le _ _ ha f1;omega
 have qp:(b::((op.map (·.1)++rs.map (·.1))++r.map (·.1))).Nodup:=by
  rw[ui,gJ];refine⟨fun hm=> ?_,f4,iH.NR h f1 kz ((h.NR b).sublist (yo _ _)) hv,fun x hx y hy e=> ?_⟩
  ·rcases bX.1 hm with hm|hm
   ·rcases bX.1 hm with hm|hm
    ·obtain⟨⟨x,i⟩,mx,rfl⟩:=bD.1 hm;have:=(f2 x i mx).2.1;simp only at this;omega
    ·obtain⟨⟨x,i,o⟩,mx,rfl⟩:=bD.1 hm;exact(f3 x i o mx).1 (.refl _)
   ·obtain⟨⟨x,i,o⟩,mx,rfl⟩:=bD.1 hm;exact(Lj x i o mx).2.2 rfl
  ·obtain⟨⟨y,i',o'⟩,my,rfl⟩:=bD.1 hy;rcases bX.1 hx with hx|hx
   ·obtain⟨⟨x,i⟩,mx,rfl⟩:=bD.1 hx;simp only at e;subst e;have:=(f2 x i mx).2.1;have:=h.le _ _ (Lj x i' o' my).1 (Lj x i' o' my).2.1;omega
   ·obtain⟨⟨x,i,o⟩,mx,rfl⟩:=bD.1 hx;simp only at e;subst e;exact(f3 x i o mx).1 (Lj x i' o' my).1
 have:=GZ (N:=N) qp (fun x hx=>by
  rcases db.1 hx with rfl|hx
  ·exact hN _ f1
  ·rcases bX.1 hx with hx|hx
   ·rcases bX.1 hx with hm|hm
    ·obtain⟨⟨x,i⟩,mx,rfl⟩:=bD.1 hm;exact hN _ (f2 x i mx).2.2.1
    ·obtain⟨⟨x,i,o⟩,mx,rfl⟩:=bD.1 hm;exact hN _ (f3 x i o mx).2
   ·obtain⟨⟨x,i,o⟩,mx,rfl⟩:=bD.1 hx;exact hN _ (Lj x i o mx).2.1)
 have hlen:=iH.len hv;simp only[eZ,fz,fi]at this;omega
end
section
variable {K : Int → List Int} {pl up : Int → Int}
mutual
theorem BF.kids{b:Int}{n m:Nat}{r:oH}:BF K b n m r→(∃i o,(b,i,o)∈r)∧∀x i o,(x,i,o)∈r→∀c,c∈K x→∃i' o',(c,i',o')∈r
 | .mk (m:=m) (r:=r) hl=>by
  have ih:=iH.kids hl;refine⟨⟨n+1,m+1,sI⟩,fun x i o hx c hc=> ?_⟩;rcases bX.1 hx with hx|hx
  ·obtain⟨i',o',h'⟩:=ih.2 x i o hx c hc;exact⟨i',o',dG _ h'⟩
  ·simp only[cI,cF]at hx;obtain⟨rfl,_,_⟩:=hx;obtain⟨i',o',h'⟩:=ih.1 c hc;exact⟨i',o',dG _ h'⟩
theorem iH.kids{l:af}{n m:Nat}{r:oH}:iH K l n m r→(∀c,c∈l→∃i o,(c,i,o)∈r)∧∀x i o,(x,i,o)∈r→∀c,c∈K x→∃i' o',(c,i',o')∈r
 | .nil=>⟨fun c hc=>by simp at hc,fun x i o hx=>by simp at hx⟩
 | .snoc (l:=l) (c:=c0) hl hv=>by
  have i1:=iH.kids hl;have i2:=BF.kids hv;refine⟨fun c hc=> ?_,fun x i o hx c hc=> ?_⟩
  ·rcases bX.1 hc with hc|hc
   ·obtain⟨i',o',h'⟩:=i1.1 c hc;exact⟨i',o',dG _ h'⟩
   ·simp only[cI]at hc;subst hc;obtain⟨i',o',h'⟩:=i2.1;exact⟨i',o',iR _ h'⟩
  ·rcases bX.1 hx with hx|hx
   ·obtain⟨i',o',h'⟩:=i1.2 x i o hx c hc;exact⟨i',o',dG _ h'⟩
   ·obtain⟨i',o',h'⟩:=i2.2 x i o hx c hc;exact⟨i',o',iR _ h'⟩
end
theorem FIN.QcE{n:Nat}{f g:Int→Int}(h:oq K pl up)(h0:0≤pl 0)(dT:∀x,0≤pl x→x≠0→x∈K (up x)∧0≤pl (up x)∧pl (up x)<pl x)(hf:FIN K n f g){x y:Int}(hx:0≤pl x)(hy:0≤pl y):(0<f x∧0<f y∧f x≤f y∧g y≤g x)↔jh up y x:=by
 obtain⟨rs,hv,mj,pP⟩:=hf;have hk:=BF.kids hv;have key:∀(m:Nat) (x:Int),0≤pl x→(pl x).toNat≤m→∃i o,(x,i,o)∈rs:=by
  intro m;induction m with
  |zero=>
   intro x hx hm;by_cases e:x=0
   ·subst e;exact hk.1
   ·have:=dT x hx e;omega
  |succ m ih=>
   intro x hx hm;by_cases e:x=0
   ·subst e;exact hk.1
   ·obtain⟨h1,h2,h3⟩:=dT x hx e;obtain⟨i,o,P6⟩:=ih (up x) h2 oM;exact hk.2 _ i o P6 x h1
 obtain⟨i,o,mx⟩:=key _ x hx (cB _);obtain⟨i',o',my⟩:=key _ y hy (cB _);have fr:=BF.facts h.toTreeU hv;obtain⟨_,p1,p2,_⟩:=fr.1 x i o mx;obtain⟨_,p3,p4,_⟩:=fr.1 y i' o' my;rw[(mj x).2.1 i o mx,(mj y).2.1 i' o' my,(pP x).1 i o mx,(pP y).1 i' o' my,←BF.hold h h0 hv x i o y i' o' mx my];omega
end
end Go.Mor
namespace Go.Mor
open Go.RowKit
def fx(bs:List SB)(up:Int→Int)(k:Nat)(d:Int):af:=((aI bs).take k).filter (fun x=>up x==d)
def lI(bs:List SB)(up:Int→Int)(k:Nat):List af:=(List.range bs.length).map (fun d:Nat=>fx bs up k (d:Int))
def fU(bs:List SB)(up:Int→Int)(b:Int):af:=if 0≤b then(aI bs).filter (fun x=>up x==b)else[]
section
variable {bs : List SB} {up : Int → Int}
theorem NS(k:Nat)(d:Int):(fx bs up k d).length≤bs.length:=by
 have:=ko bs;have h2:=m5 (fun x=>up x==d) ((aI bs).take k);have:((aI bs).take k).length≤(aI bs).length:=by simp;omega
 unfold fx;omega
theorem G0:lI bs up 0=List.replicate bs.length []:=by
 unfold lI fx;apply kg;intro t;by_cases h:t<bs.length
 ·simp[h]
 ·rw[List.getElem?_eq_none (by simpa using h),List.getElem?_eq_none (by simpa using h)]
theorem th(k:Nat):(lI bs up k).length=bs.length:=by simp[lI]
theorem nv{k d:Nat}(hd:d<bs.length):(lI bs up k)[d]?=some (fx bs up k (d:Int)):=by simp[lI,hd]
theorem G1{k d:Nat}{b:Int}(hk:(aI bs)[k]?=some b)(hu:up b=(d:Int))(hd:d<bs.length):(lI bs up k).set d (fx bs up k (d:Int)++[b])=lI bs up (k+1):=by
 apply kg;intro t;by_cases e:d=t
 ·subst e;rw[List.getElem?_set_self (by rw[th];exact hd),nv hd];congr 1;unfold fx;rw[jH hk,ly];simp[hu]
 ·rw[List.getElem?_set_ne e];by_cases h:t<bs.length
  ·rw[nv h,nv h];congr 1;unfold fx;rw[jH hk,ly];have:¬up b=(t:Int):=by rw[hu];omega
   simp[this]
  ·rw[List.getElem?_eq_none (by rw[th];omega),List.getElem?_eq_none (by rw[th];omega)]
theorem G2{k:Nat}{b:Int}(hk:(aI bs)[k]?=some b)(hu:up b<0):lI bs up k=lI bs up (k+1):=by
 unfold lI;apply List.map_congr_left;intro t _;unfold fx;rw[jH hk,ly];have:¬up b=(t:Int):=oM;simp[this]
theorem NT{k b:Nat}(hk:(aI bs).length≤k)(hb:b<bs.length):(lI bs up k)[b]?=some (fU bs up (b:Int)):=by
 rw[nv hb];unfold fx fU;rw[kh hk,bC oM]
theorem uD{b c:Int}:c∈fU bs up b↔0≤b∧c∈aI bs∧up c=b:=by
 unfold fU;split
 ·rename_i h;simp[h]
 ·rename_i h;simp[h]
theorem NU(b:Int):(fU bs up b).length≤bs.length:=by
 unfold fU;have:=ko bs;split
 ·have h2:=m5 (fun x=>up x==b) (aI bs);omega
 ·simp
theorem EK(h0:0<bs.length){c:Int}:c∈aI bs↔0≤jF bs c:=by
 rw[(jG h0).reach,(oY h0).mem]
theorem Eo.tree(h0:0<bs.length)(hf:Eo bs up):oq (fU bs up) (jF bs) up where
 SH b c hc:=by
  obtain⟨h1,h2,h3⟩:=uD.1 hc;have hp:=(EK h0).1 h2;have dN:c≠0:=by rintro rfl;have:=hf.off 0 (.inr rfl);omega
  have:=(hf.ok.low c (hf.Jf c hp) dN).2;rw[h3]at this;exact⟨h3,dN,this⟩
 NR b:=by
  unfold fU;split
  ·exact(oY h0).nodup.sublist yi
  ·exact List.nodup_nil
 le x d h hx:=(jh.Jf hf.ok h (hf.Jf x hx)).2.1;pos b hb c hc:=(EK h0).1 (uD.1 hc).2.1;neg x d hx hd h:=by
  induction h with
  |refl=>omega
  | @step x d dN h ih=>
   refine ih ?_ hd;rw[hf.off x (.inl hx)];rcases Int.lt_or_le (jF bs (-1)) 0 with h1|h1
   ·exact h1
   ·have:=lS h0 h1;omega
theorem Eo.dT(h0:0<bs.length)(hf:Eo bs up):∀x,0≤jF bs x→x≠0→x∈fU bs up (up x)∧0≤jF bs (up x)∧jF bs (up x)<jF bs x:=by
 intro x hx dN;obtain⟨h1,h2⟩:=hf.ok.low x (hf.Jf x hx) dN;have:=lS h0 h1.1;exact⟨uD.2 ⟨this.1,(EK h0).2 hx,rfl⟩,h1.1,h2⟩
theorem QcF(h0:0<bs.length)(hf:Eo bs up){b:Int}(hb:0≤jF bs b)(hu:0≤up b):∃d:Nat,up b=(d:Int)∧d<bs.length:=by
 have dN:b≠0:=by rintro rfl;have:=hf.off 0 (.inr rfl);omega
 have h:=lS h0 (hf.dT h0 b hb dN).2.1;exact⟨(up b).toNat,(je h.1).symm,oM⟩
theorem X4(h0:0<bs.length){b:Int}{k:Nat}(hk:k<(fU bs up b).length):∃ci:Nat,(fU bs up b)[k]?=some (ci:Int)∧ci<bs.length:=by
 have hm:(fU bs up b)[k]∈fU bs up b:=qH hk;have hp:=(EK h0).1 (uD.1 hm).2.1;have:=lS h0 hp;exact⟨((fU bs up b)[k]).toNat,by rw[List.getElem?_eq_getElem hk,je this.1],oM⟩
end
theorem uE(ws:List (Int×Int))(b k:Int):ja ws++[vI b,vI k]=ja (ws++[(b,k)]):=by simp[ja]
theorem ot(ws:List (Int×Int))(b k:Int):(ja (ws++[(b,k)]))[ws.length*2]?=some (vI b)∧(ja (ws++[(b,k)]))[ws.length*2+1]?=some (vI k):=QC (p:=(b,k)) sI
theorem X5(ws:List (Int×Int))(b k:Int):(ja (ws++[(b,k)])).take (ws.length*2)=ja ws:=by
 rw[←uE,List.take_left' (by rw[DN])]
theorem X6(ws:List (Int×Int))(b k v:Int):(ja (ws++[(b,k)])).set (ws.length*2+1) (vI v)=ja (ws++[(b,v)]):=by
 rw[←uE,←uE,og _ _ (by rw[DN];omega),DN,show ws.length*2+1-ws.length*2=1 by omega];rfl
theorem cG.upd{n:Nat}{l:af}{f:Int→Int}(h:cG n l f){b v:Int}(h0:0≤b)(h1:b<(n:Int)):cG n (l.set b.toNat v) (BG f b v):=by
 refine h.set oM (by simp[BG,je h0]) (fun j _ dN=> ?_);unfold BG;rw[aB oM]
theorem CV(n:Nat):cG n (List.replicate n 0) (fun _=>0):=⟨sI,fun i hi=>by simp[List.getD,hi]⟩
section
variable {K : Int → List Int} {ws : List (Int × Int)} {b : Int} {n k : Nat} {f g : Int → Int}
theorem iH.le{l:af}{n m:Nat}{r:oH}(h:iH K l n m r):n≤m:=by have:=iH.len h;omega
theorem SI.NV{op:List (Int×Nat)}{rs:oH}(h:SI K ws b n op rs):ws.length≤n:=by
 induction h with
 |nil=>simp
 |snoc _ hv _ ih=>have:=hv.le;simp only[fz,eZ,gX];omega
theorem SJ.NV(h:SJ K ws b n f g):ws.length≤n:=by
 obtain⟨op,rs,hl,_⟩:=h;exact hl.NV
theorem LP.NV(h:LP K ws b k n f g):ws.length+1≤n:=by
 obtain⟨op,rs,n0,r,hl,hv,_⟩:=h;have:=hl.NV;have:=hv.le;omega
theorem EJ.start:EJ K [(0,0)] 0 (fun _=>0) (fun _=>0):= .inr ⟨[],0,0,sI,.inl ⟨rfl,[],[],.nil,fun x=>⟨sI,sI,fun _ _=>rfl⟩,fun x=>⟨sI,fun _=>rfl⟩⟩⟩
theorem EJ.none(h:EJ K [] n f g):FIN K n f g:=by
 rcases h with⟨_,h⟩|⟨ws,b,k,e,_⟩
 ·exact h
 ·simp at e
theorem EJ.some{rM:List (Int×Int)}(h:EJ K rM n f g)(hw:0<rM.length):∃(ws:List (Int×Int)) (b:Int) (k:Nat),rM=ws++[(b,(k:Int))]∧((k=0∧SJ K ws b n f g)∨(1≤k∧LP K ws b k n f g)):=by
 rcases h with⟨rfl,_⟩|h
 ·simp at hw
 ·exact h
def zY(rM:List (Int×Int)):Nat:=match rM.getLast? with
 |some (_,k)=>if k=0 then 0 else 1
 |none=>0
theorem SK(rM:List (Int×Int)):zY rM≤1:=by
 unfold zY;split
 ·split<;>omega
 ·omega
theorem tj(ws:List (Int×Int))(b k:Int):zY (ws++[(b,k)])=if k=0 then 0 else 1:=by simp[zY]
end
end Go.Mor
namespace Go.Mor
open Go.RowKit
def eO(f g:Int→Int)(a b:Int):Prop:=0<f a∧0<f b∧f a≤f b∧g b≤g a
instance (f g : Int → Int) (a b : Int) : Decidable (eO f g a b) := by unfold eO; infer_instance
def dj(D:Int→Int→Prop)(pa va:Int)(ds:vo)(v b q:Int):Prop:=0≤v∧v<va∧(v<pa∨∃p,findD ds v=some p∧((p.1=b∧p.2<q)∨(p.1≠b∧D p.1 b)))
noncomputable instance (D : Int → Int → Prop) (pa va : Int) (ds : vo) (v b q : Int) : Decidable (dj D pa va ds v b q) := Classical.propDecidable _
section
variable {D : Int → Int → Prop} {pa va : Int} {n : Nat} {ds : vo} {l : List (Int × Int)} {v b q : Int} {pm : Int × Int}
theorem CW(h:v<0∨va≤v):¬dj D pa va ds v b q:=fun⟨h1,h2,_⟩=>oM
theorem NX(h0:0≤v)(h1:v<va)(h2:v<pa):dj D pa va ds v b q:=⟨h0,h1,.inl h2⟩
theorem wi{base:Nat→Int×Int}{enc:Int×Int→Int×Int}(ht:Ce n base enc ds l)(lX:l[v.toNat]?=some pm)(h0:0≤v)(h1:v<(n:Int)):pm=(match findD ds v with|some p=>enc p|none=>base v.toNat):=by
 have:=ht.at_ v.toNat oM;rw[lX,je h0]at this;exact rW this
theorem ri(hn:NonNeg ds){p:Int×Int}(h:findD ds v=some p):0≤p.1:=by
 by_cases hm:v∈ds.map (·.1)
 ·obtain⟨p',h1,h2⟩:=lD hm;rw[h]at h1;injection h1 with h1;subst h1;exact hn _ h2
 ·rw[jq hm]at h;cases h
abbrev JF(n:Nat)(ds:vo)(l:List (Int×Int)):Prop:=Ce n (fun _=>(-1,0)) (fun p=>(p.1,p.2+1)) ds l
theorem SL(ht:JF n ds l)(hn:NonNeg ds)(lX:l[v.toNat]?=some pm)(h0:0≤v)(h1:v<(n:Int))(hv:¬v<pa)(h2:pm.1<0):¬dj D pa va ds v b q:=by
 rintro⟨_,_,h|⟨p,hp,_⟩⟩
 ·exact hv h
 ·have:=wi ht lX h0 h1;rw[hp]at this;have h3:=ri hn hp;rw[this]at h2;simp only at h2;omega
theorem tl(ht:JF n ds l)(lX:l[v.toNat]?=some pm)(h0:0≤v)(h1:v<(n:Int))(h2:0≤pm.1):findD ds v=some (pm.1,pm.2-1):=by
 have:=wi ht lX h0 h1;cases hf:findD ds v with
 |none=>
  rw[hf]at this;rw[this]at h2;simp only at h2;omega
 |some p=>
  rw[hf]at this;rw[this];simp only[Int.add_sub_cancel]
theorem JG(ht:JF n ds l)(lX:l[v.toNat]?=some pm)(h0:0≤v)(h1:v<(n:Int))(nO:va=(n:Int))(hv:¬v<pa)(h2:0≤pm.1)(h3:pm.1=b):pm.2≤q↔dj D pa va ds v b q:=by
 have hf:=tl ht lX h0 h1 h2;constructor
 ·intro h;exact⟨h0,oM,.inr ⟨_,hf,.inl ⟨h3,by show pm.2-1<q;omega⟩⟩⟩
 ·rintro⟨_,_,h|⟨p,hp,h⟩⟩
  ·exact absurd h hv
  ·rw[hf]at hp;injection hp with hp;subst hp;rcases h with⟨_,h⟩|⟨h,_⟩
   ·simp only at h;omega
   ·exact absurd h3 h
theorem SM(ht:JF n ds l)(lX:l[v.toNat]?=some pm)(h0:0≤v)(h1:v<(n:Int))(nO:va=(n:Int))(hv:¬v<pa)(h2:0≤pm.1)(h3:¬pm.1=b):D pm.1 b↔dj D pa va ds v b q:=by
 have hf:=tl ht lX h0 h1 h2;constructor
 ·intro h;exact⟨h0,oM,.inr ⟨_,hf,.inr ⟨h3,h⟩⟩⟩
 ·rintro⟨_,_,h|⟨p,hp,h⟩⟩
  ·exact absurd h hv
  ·rw[hf]at hp;injection hp with hp;subst hp;rcases h with⟨h,_⟩|⟨_,h⟩
   ·exact absurd h h3
   ·exact h
theorem NY{N:Nat}(ht:JF n ds l)(hd:∀d,d∈ds→0≤d.2.1∧d.2.1<(N:Int)∧-1≤d.2.2)(lX:l[v.toNat]?=some pm)(h0:0≤v)(h1:v<(n:Int))(h2:0≤pm.1):pm.1<(N:Int):=by
 have hf:=tl ht lX h0 h1 h2;by_cases hm:v∈ds.map (·.1)
 ·obtain⟨p,h3,h4⟩:=lD hm;rw[hf]at h3;injection h3 with h3;subst h3;exact(hd _ h4).2.1
 ·rw[jq hm]at hf;cases hf
theorem JH{N:Nat}(ht:Ce n (kU pa) (fun p=>p) ds l)(hd:∀d,d∈ds→0≤d.2.1∧d.2.1<(N:Int)∧-1≤d.2.2)(lX:l[v.toNat]?=some pm)(h0:0≤v)(h1:v<(n:Int))(hN:0<N):pm.1<(N:Int):=by
 have h4:=wi ht lX h0 h1;by_cases hm:v∈ds.map (·.1)
 ·obtain⟨p,h5,h6⟩:=lD hm;rw[h5]at h4;rw[h4];exact(hd _ h6).2.1
 ·rw[jq hm]at h4;rw[h4];show(kU pa v.toNat).1<(N:Int);unfold kU;split<;>simp only<;>omega
abbrev G3(pa:Int)(n:Nat)(ds:vo)(l:List (Int×Int)):Prop:=Ce n (kU pa) (fun p=>p) ds l
theorem NZ(ht:G3 pa n ds l)(hn:NonNeg ds)(lX:l[v.toNat]?=some pm)(h0:0≤v)(h1:v<(n:Int))(h2:pm.1<0):¬dj D pa va ds v b q:=by
 have h3:=wi ht lX h0 h1;rintro⟨_,_,h|⟨p,hp,_⟩⟩
 ·cases hf:findD ds v with
  |none=>
   rw[hf]at h3;have:(v.toNat:Int)<pa:=oM;simp only[kU,this,mn]at h3;rw[h3]at h2;exact absurd h2 dQ
  |some p=>
   rw[hf]at h3;have:=ri hn hf;have e:pm=p:=h3;rw[e]at h2;omega
 ·rw[hp]at h3;have:=ri hn hp;have e:pm=p:=h3;rw[e]at h2;omega
theorem JI(ht:G3 pa n ds l)(hk:∀d,d∈ds→-1≤d.2.2)(lX:l[v.toNat]?=some pm)(h0:0≤v)(h1:v<(n:Int))(nO:va=(n:Int))(h2:0≤pm.1)(h3:pm.2= -2):dj D pa va ds v b q:=by
 have h4:=wi ht lX h0 h1;cases hf:findD ds v with
 |none=>
  rw[hf]at h4;by_cases h:(v.toNat:Int)<pa
  ·exact⟨h0,oM,.inl oM⟩
  ·simp only[kU,h,iP]at h4;rw[h4]at h2;exact absurd h2 dQ
 |some p=>
  exfalso;rw[hf]at h4;by_cases hm:v∈ds.map (·.1)
  ·obtain⟨p',h5,h6⟩:=lD hm;rw[hf]at h5;injection h5 with h5;subst h5;have:=hk _ h6;simp only at this h4;rw[←h4]at this;omega
  ·rw[jq hm]at hf;cases hf
theorem wT(ht:G3 pa n ds l)(lX:l[v.toNat]?=some pm)(h0:0≤v)(h1:v<(n:Int))(h2:0≤pm.1)(h3:¬pm.2= -2):findD ds v=some pm:=by
 have h4:=wi ht lX h0 h1;cases hf:findD ds v with
 |none=>
  rw[hf]at h4;by_cases h:(v.toNat:Int)<pa
  ·simp only[kU,h,mn]at h4;rw[h4]at h3;exact absurd rfl h3
  ·simp only[kU,h,iP]at h4;rw[h4]at h2;exact absurd h2 dQ
 |some p=>rw[hf]at h4;rw[h4]
theorem G4(ho:∀p,findD ds v=some p→¬v<pa)(ht:G3 pa n ds l)(lX:l[v.toNat]?=some pm)(h0:0≤v)(h1:v<(n:Int))(nO:va=(n:Int))(h2:0≤pm.1)(h3:¬pm.2= -2)(h4:pm.1=b):pm.2<q↔dj D pa va ds v b q:=by
 have hf:=wT ht lX h0 h1 h2 h3;have hv:=ho _ hf;constructor
 ·intro h;exact⟨h0,oM,.inr ⟨_,hf,.inl ⟨h4,h⟩⟩⟩
 ·rintro⟨_,_,h|⟨p,hp,h⟩⟩
  ·exact absurd h hv
  ·rw[hf]at hp;injection hp with hp;subst hp;rcases h with⟨_,h⟩|⟨h,_⟩
   ·exact h
   ·exact absurd h4 h
theorem N0(ho:∀p,findD ds v=some p→¬v<pa)(ht:G3 pa n ds l)(lX:l[v.toNat]?=some pm)(h0:0≤v)(h1:v<(n:Int))(nO:va=(n:Int))(h2:0≤pm.1)(h3:¬pm.2= -2)(h4:¬pm.1=b):D pm.1 b↔dj D pa va ds v b q:=by
 have hf:=wT ht lX h0 h1 h2 h3;have hv:=ho _ hf;constructor
 ·intro h;exact⟨h0,oM,.inr ⟨_,hf,.inr ⟨h4,h⟩⟩⟩
 ·rintro⟨_,_,h|⟨p,hp,h⟩⟩
  ·exact absurd h hv
  ·rw[hf]at hp;injection hp with hp;subst hp;rcases h with⟨h,_⟩|⟨_,h⟩
   ·exact absurd h h4
   ·exact h
theorem JJ(ht:G3 pa n ds l)(hn:NonNeg ds)(nO:va=(n:Int))(h:¬(0≤v∧v<(n:Int)∧0≤(l.getD v.toNat (0,0)).1)):¬dj D pa va ds v b q:=by
 by_cases hv:0≤v∧v<(n:Int)
 ·have hl:=ht.len;exact NZ ht hn (qN (0,0) oM) hv.1 hv.2 oM
 ·exact CW oM
theorem G5(ho:∀d,d∈ds→pa≤d.1):∀p,findD ds v=some p→¬v<pa:=by
 intro p hp;by_cases hm:v∈ds.map (·.1)
 ·obtain⟨d,hd,rfl⟩:=bD.1 hm;have:=ho d hd;omega
 ·rw[jq hm]at hp;cases hp
def iJ(bs:List SB)(a b:Int):Prop:=HZ (iu bs) a.toNat b.toNat=true
end
structure zZ(D:Int→Int→Prop)(E:Int→Int)(R:bF→Prop)(pa va:Int)(fs:List bF)(k:Nat)(x:bF):Prop where
 aK:∀(j:Nat) (p:gv),x.aK[j]?=some p→p.args.length=(bO (aq fs) (k:Int)).length∧
  ∀(i:Nat) (a s:Int),p.args[i]?=some a→(bO (aq fs) (k:Int))[i]?=some s→dj D pa va (cL fs) a s (E s)
 insts:∀(j:Nat) (p:cH),x.insts[j]?=some p→∀(i:Nat) (a:Int),p.args[i]?=some a→dj D pa va (cL fs) a (k:Int) (j:Int)
 fin:R x→dj D pa va (cL fs) x.v (k:Int) (E (k:Int))
def gh(D:Int→Int→Prop)(E:Int→Int)(R:bF→Prop)(pa va:Int)(fs:List bF)(k:Nat):Prop:=∃x,fs[k]?=some x∧zZ D E R pa va fs k x
noncomputable instance (D : Int → Int → Prop) (E : Int → Int) (R : bF → Prop) (pa va : Int) (fs : List bF) (k : Nat) : Decidable (gh D E R pa va fs k) := Classical.propDecidable _
def xG(fs:List bF)(b:Int):Int:=match fs[b.toNat]? with
 |some x=>(x.insts.length:Int)
 |none=>0
theorem yy{fs:List bF}{k:Nat}{x:bF}(h:fs[k]?=some x):xG fs (k:Int)=(x.insts.length:Int):=by simp[xG,h]
def G6(x:bF):Prop:=x.e=1∨(x.e=2∧0≤x.v)
def z2(x:bF):Prop:=x.e=1∨(x.e=2∧x.v≠-1)
section
variable {D : Int → Int → Prop} {E : Int → Int} {R : bF → Prop} {pa va : Int} {fs : List bF} {k : Nat} {x : bF}
def wU(D:Int→Int→Prop)(E:Int→Int)(pa va:Int)(fs:List bF)(k:Nat)(x:bF)(j:Nat):Prop:=∀(j':Nat) (p:gv),j'<j→x.aK[j']?=some p→p.args.length=(bO (aq fs) (k:Int)).length∧∀(i:Nat) (a s:Int),p.args[i]?=some a→(bO (aq fs) (k:Int))[i]?=some s→dj D pa va (cL fs) a s (E s)
def CX(D:Int→Int→Prop)(E:Int→Int)(pa va:Int)(fs:List bF)(k:Nat)(p:gv)(i:Nat):Prop:=∀(i':Nat) (a s:Int),i'<i→p.args[i']?=some a→(bO (aq fs) (k:Int))[i']?=some s→dj D pa va (cL fs) a s (E s)
def wV(D:Int→Int→Prop)(pa va:Int)(fs:List bF)(k:Nat)(x:bF)(j:Nat):Prop:=∀(j':Nat) (p:cH),j'<j→x.insts[j']?=some p→∀(i:Nat) (a:Int),p.args[i]?=some a→dj D pa va (cL fs) a (k:Int) (j':Int)
def N1(D:Int→Int→Prop)(pa va:Int)(fs:List bF)(k j:Nat)(p:cH)(i:Nat):Prop:=∀(i':Nat) (a:Int),i'<i→p.args[i']?=some a→dj D pa va (cL fs) a (k:Int) (j:Int)
theorem oI{P:Nat→Prop}{n:Nat}(h:∀i,i<n→P i)(hn:P n):∀i,i<n+1→P i:=fun i hi=>by
 by_cases e:i=n
 ·subst e;exact hn
 ·exact h i oM
theorem wU.next{j:Nat}{p:gv}(h:wU D E pa va fs k x j)(hp:x.aK[j]?=some p)(hl:p.args.length=(bO (aq fs) (k:Int)).length)(ha:CX D E pa va fs k p p.args.length):wU D E pa va fs k x (j+1):=by
 intro j' p' hj KD;by_cases e:j'=j
 ·subst e;rw[hp]at KD;injection KD with KD;subst KD;exact⟨hl,fun i a s hi=>ha i a s (List.getElem?_eq_some_iff.1 hi).1 hi⟩
 ·exact h j' p' oM KD
theorem CX.next{i:Nat}{p:gv}{a s:Int}(h:CX D E pa va fs k p i)(hi:p.args[i]?=some a)(hs:(bO (aq fs) (k:Int))[i]?=some s)(ht:dj D pa va (cL fs) a s (E s)):CX D E pa va fs k p (i+1):=by
 intro i' a' s' fM h1 h2;by_cases e:i'=i
 ·subst e;rw[hi]at h1;rw[hs]at h2;injection h1 with h1;injection h2 with h2;subst h1;subst h2;exact ht
 ·exact h i' a' s' oM h1 h2
theorem wV.next{j:Nat}{p:cH}(h:wV D pa va fs k x j)(hp:x.insts[j]?=some p)(ha:N1 D pa va fs k j p p.args.length):wV D pa va fs k x (j+1):=by
 intro j' p' hj KD;by_cases e:j'=j
 ·subst e;rw[hp]at KD;injection KD with KD;subst KD;exact fun i a hi=>ha i a (List.getElem?_eq_some_iff.1 hi).1 hi
 ·exact h j' p' oM KD
theorem N1.next{j i:Nat}{p:cH}{a:Int}(h:N1 D pa va fs k j p i)(hi:p.args[i]?=some a)(ht:dj D pa va (cL fs) a (k:Int) (j:Int)):N1 D pa va fs k j p (i+1):=by
 intro i' a' fM h1;by_cases e:i'=i
 ·subst e;rw[hi]at h1;injection h1 with h1;subst h1;exact ht
 ·exact h i' a' oM h1
theorem rX(hx:fs[k]?=some x)(h1:wU D E pa va fs k x x.aK.length)(h2:wV D pa va fs k x x.insts.length)(h3:R x→dj D pa va (cL fs) x.v (k:Int) (E (k:Int))):gh D E R pa va fs k:=⟨x,hx,fun j p hp=>h1 j p (List.getElem?_eq_some_iff.1 hp).1 hp,fun j p hp=>h2 j p (List.getElem?_eq_some_iff.1 hp).1 hp,h3⟩
theorem o0(hx:fs[k]?=some x)(h:gh D E R pa va fs k):zZ D E R pa va fs k x:=by
 obtain⟨y,hy,h⟩:=h;rw[hx]at hy;injection hy with hy;subst hy;exact h
theorem CY(hx:fs[k]?=some x){j:Nat}{p:gv}(hp:x.aK[j]?=some p)(hl:¬p.args.length=(bO (aq fs) (k:Int)).length):¬gh D E R pa va fs k:=fun h=>hl ((o0 hx h).aK j p hp).1
theorem CZ(hx:fs[k]?=some x){j i:Nat}{p:gv}{a s:Int}(hp:x.aK[j]?=some p)(hi:p.args[i]?=some a)(hs:(bO (aq fs) (k:Int))[i]?=some s)(ht:¬dj D pa va (cL fs) a s (E s)):¬gh D E R pa va fs k:=fun h=>ht (((o0 hx h).aK j p hp).2 i a s hi hs)
theorem G7(hx:fs[k]?=some x){j i:Nat}{p:cH}{a:Int}(hp:x.insts[j]?=some p)(hi:p.args[i]?=some a)(ht:¬dj D pa va (cL fs) a (k:Int) (j:Int)):¬gh D E R pa va fs k:=fun h=>ht ((o0 hx h).insts j p hp i a hi)
end
end Go.Mor
namespace Go.Mor
open Go.RowKit
structure z3(nm:aM)(pa va:Int)(fs:List bF):Prop where
 name:br nm
 par:0≤pa∧pa≤16∧pa≤va
 pos:0<fs.length
 aK:∀x,fs[0]?=some x→x.aK.length=0
 src:(bO (aq fs) 0).length=0
 all:(aI (aq fs)).length=fs.length
 ends:∀x,x∈fs→jm (fs.length:Int) x
 vals:VQ pa va fs
 reads:∀k,k<fs.length→gh (Dm (tg (aq fs))) (fun _=>20000) z2 pa va fs k
noncomputable instance (nm : ByteArray) (pa va : Int) (fs : List bF) : Decidable (z3 nm pa va fs) := Classical.propDecidable _
noncomputable def gy(nm:aM)(pa va:Int)(fs:List bF):Int:=if(gI fs:Int)>20000∨va>20000 then 12 else if z3 nm pa va fs then 0 else 4
section
variable {nm : ByteArray} {pa va : Int} {fs : List bF}
theorem G8(h:(gI fs:Int)>20000∨va>20000):(12:Int)=gy nm pa va fs:=by rw[gy,bC h]
theorem gz(h:¬((gI fs:Int)>20000∨va>20000))(hg:¬z3 nm pa va fs):(4:Int)=gy nm pa va fs:=by rw[gy,aB h,aB hg]
theorem EL(h:¬((gI fs:Int)>20000∨va>20000))(hg:z3 nm pa va fs):(0:Int)=gy nm pa va fs:=by rw[gy,aB h,bC hg]
end
section
variable {bs : List SB}
theorem z4:(aI bs).length=bs.length↔∀i:Nat,i<bs.length→gR bs (-1) (i:Int)=true:=by
 rw[←X3];unfold QcD;have h:=List.length_filter_eq_length_iff (p:=fun i:Nat=>gR bs (-1) (i:Int)) (l:=List.range bs.length);rw[List.length_range]at h;rw[h];simp only[ew]
theorem wj(hl:(aI bs).length=bs.length){b:Int}(h0:0≤b)(h1:b<(bs.length:Int)):0≤jF bs b:=by
 have hp:0<bs.length:=oM;have:=z4.1 hl b.toNat oM;rw[je h0]at this;exact((jG hp).reach _).2 (nq.1 this)
theorem SN{up:Int→Int}{n:Nat}{f g:Int→Int}(h0:0<bs.length)(hl:(aI bs).length=bs.length)(hf:Eo bs up)(hn:FIN (fU bs up) n f g){a b:Int}(ha:0≤a∧a<(bs.length:Int))(hb:0≤b∧b<(bs.length:Int)):eO f g a b↔Dm (tg bs) a b:=by
 have pa:=wj hl ha.1 ha.2;have pb:=wj hl hb.1 hb.2;have h00:0≤jF bs 0:=by rw[(jG h0).zero];omega
 rw[eO,FIN.QcE (hf.tree h0) h00 (hf.dT h0) hn pa pb];exact⟨hf.dm b a,hf.ok.Jg (hf.Jf b pb)⟩
theorem X7(h0:0<bs.length)(hl:(aI bs).length=bs.length){a b:Int}(ha:0≤a∧a<(bs.length:Int))(hb:0≤b∧b<(bs.length:Int)):iJ bs a b↔Dm (tg bs) a b:=by
 have pb:=((jG h0).reach _).1 (wj hl hb.1 hb.2);unfold iJ;rw[uk oM oM,je ha.1,je hb.1];exact⟨fun h=>h.2,fun h=>⟨pb,h⟩⟩
end
theorem JK{fs:List bF}{d:Int×Int×Int}(h:d∈cL fs):∃x,fs[d.2.1.toNat]?=some x∧d.2.2<(x.insts.length:Int):=by
 unfold cL fa at h;rw[jl]at h;obtain⟨x,hx,hd⟩:=h;rw[gg]at hx;have hx1:fs[x.2]?=some x.1:=rY.1 hx;unfold j8 at hd;rcases bX.1 hd with hd|hd
 ·unfold ef at hd;obtain⟨p,_,rfl⟩:=bD.1 hd;refine⟨x.1,by simpa using hx1,?_⟩;show(-1:Int)<_;omega
 ·unfold ez at hd;obtain⟨p,hp,rfl⟩:=bD.1 hd;have hp1:x.1.insts[p.2]?=some p.1:=rY.1 (e8.1 hp).1;have:=(List.getElem?_eq_some_iff.1 hp1).1;refine⟨x.1,by simpa using hx1,?_⟩;show(p.2:Int)<_;omega
theorem G9{fs:List bF}{k:Nat}{x:bF}(h:fs[k]?=some x):x.insts.length≤gI fs:=by
 have hk:=(List.getElem?_eq_some_iff.1 h).1;have key:∀n,k<n→n≤fs.length→x.insts.length≤mr fs n:=by
  intro n;induction n with
  |zero=>intro h1;omega
  |succ n ih=>
   intro h1 h2;obtain⟨y,hy⟩:=aY (l:=fs) (i:=n) oM;rw[lY hy];by_cases e:k=n
   ·subst e;rw[h]at hy;injection hy with hy;subst hy;omega
   ·have:=ih oM oM;omega
 have:=key fs.length hk (cB _);unfold gI;omega
section
variable {D D' : Int → Int → Prop} {E E' : Int → Int} {R R' : bF → Prop} {pa va : Int} {fs : List bF}
structure rl(D D':Int→Int→Prop)(E E':Int→Int)(fs:List bF):Prop where
 Rn:∀a b:Int,0≤a∧a<(fs.length:Int)→0≤b∧b<(fs.length:Int)→(D a b↔D' a b)
 fin:∀d,d∈cL fs→(d.2.2<E d.2.1↔d.2.2<E' d.2.1)
theorem rl.symm(h:rl D D' E E' fs):rl D' D E' E fs:=⟨fun a b ha hb=>(h.Rn a b ha hb).symm,fun d hd=>(h.fin d hd).symm⟩
theorem rl.there(h:rl D D' E E' fs){v b q q':Int}(hb:0≤b∧b<(fs.length:Int))(hq:(q=E b∧q'=E' b)∨q=q')(ht:dj D pa va (cL fs) v b q):dj D' pa va (cL fs) v b q':=by
 obtain⟨h1,h2,h3|⟨p,hp,h3⟩⟩:=ht
 ·exact⟨h1,h2,.inl h3⟩
 ·refine⟨h1,h2,.inr ⟨p,hp,?_⟩⟩;have hm:(v,p)∈cL fs:=by
   by_cases hm:v∈(cL fs).map (·.1)
   ·obtain⟨p',h4,h5⟩:=lD hm;rw[hp]at h4;injection h4 with h4;subst h4;exact h5
   ·rw[jq hm]at hp;cases hp
  have hr:=tT hm;rcases h3 with⟨h3,h4⟩|⟨h3,h4⟩
  ·refine .inl ⟨h3,?_⟩;rcases hq with⟨rfl,rfl⟩|rfl
   ·have:=h.fin _ hm;simp only[h3]at this;exact this.1 h4
   ·exact h4
  ·exact .inr ⟨h3,(h.Rn _ _ ⟨hr.1,hr.2.1⟩ hb).1 h4⟩
theorem rl.reads(h:rl D D' E E' fs){k:Nat}{x:bF}(hk:k<fs.length)(hR:R' x→R x)(hr:zZ D E R pa va fs k x):zZ D' E' R' pa va fs k x where
 aK j p hp:=by obtain⟨h1,h2⟩:=hr.aK j p hp;refine⟨h1,fun i a s ha hs=>h.there ?_ (.inl ⟨rfl,rfl⟩) (h2 i a s ha hs)⟩;have hi:=(List.getElem?_eq_some_iff.1 hs).1;obtain⟨si,h3,h4⟩:=yp hi;rw[hs]at h3;injection h3 with h3;subst h3;rw[dd]at h4;omega
 insts j p hp i a ha:=h.there oM (.inr rfl) (hr.insts j p hp i a ha);fin hx:=h.there oM (.inl ⟨rfl,rfl⟩) (hr.fin (hR hx))
theorem rl.gh(h:rl D D' E E' fs){k:Nat}(hR:∀x,fs[k]?=some x→R' x→R x)(hr:gh D E R pa va fs k):gh D' E' R' pa va fs k:=by
 obtain⟨x,hx,hr⟩:=hr;exact⟨x,hx,h.reads (List.getElem?_eq_some_iff.1 hx).1 (hR x hx) hr⟩
end
section
variable {pa va : Int} {fs : List bF}
theorem N2{up:Int→Int}{n:Nat}{f g:Int→Int}(h0:0<fs.length)(hl:(aI (aq fs)).length=fs.length)(hf:Eo (aq fs) up)(hn:FIN (fU (aq fs) up) n f g)(hs:(gI fs:Int)≤20000):rl (eO f g) (Dm (tg (aq fs))) (xG fs) (fun _=>20000) fs where
 Rn a b ha hb:=SN (by rw[dd];exact h0) (by rw[dd];exact hl) hf hn (by rw[dd];exact ha) (by rw[dd];exact hb);fin d hd:=by
  obtain⟨x,hx,h1⟩:=JK hd;have:=G9 hx;have h2:xG fs d.2.1=(x.insts.length:Int):=by simp[xG,hx]
  rw[h2];constructor<;>intro<;>omega
theorem C0(h0:0<fs.length)(hl:(aI (aq fs)).length=fs.length):rl (iJ (aq fs)) (Dm (tg (aq fs))) (fun _=>20000) (fun _=>20000) fs where
 Rn a b ha hb:=X7 (by rw[dd];exact h0) (by rw[dd];exact hl) (by rw[dd];exact ha) (by rw[dd];exact hb);fin d hd:=mL
theorem SO{N:Int}{x:bF}(h:oS N x):z2 x↔G6 x:=by
 unfold z2 G6;have:=h.2;omega
theorem LQ{nm:aM}(h:z3 nm pa va fs):∀x,x∈fs→oS (fs.length:Int) x:=by
 intro x hx;refine⟨h.ends x hx,fun he=> ?_⟩;obtain⟨k,hk⟩:=dv.1 hx;obtain⟨y,hy,hr⟩:=h.reads k (List.getElem?_eq_some_iff.1 hk).1;rw[hk]at hy;injection hy with hy;subst hy;by_cases hv:x.v= -1
 ·omega
 ·have:=(hr.fin (.inr ⟨he,hv⟩)).1;omega
end
end Go.Mor
namespace Go.Mor
theorem C1{fs:List bF}{Q:bF→Prop}{m:Nat}{x:bF}(h:∀(i:Nat) (x:bF),i<m→fs[i]?=some x→Q x)(hx:fs[m]?=some x)(hq:Q x):∀(i:Nat) (x:bF),i<m+1→fs[i]?=some x→Q x:=by
 intro i y hi hy;by_cases e:i=m
 ·subst e;rw[hx]at hy;injection hy with hy;exact hy▸hq
 ·exact h i y oM hy
end Go.Mor
namespace Go.Mor
theorem N3{Bk Bv B:Bool}{Wk:Nat→Bool}{k:Nat}(h:Bk=true↔Bv=true∧∀i:Nat,i<k→Wk i=true)(hB:B=true↔Bk=true):(B&&Wk k)=true↔Bv=true∧∀i:Nat,i<k+1→Wk i=true:=by
 rw[bo,hB,h];constructor
 ·rintro⟨⟨h1,h2⟩,h3⟩;exact⟨h1,oI h2 h3⟩
 ·rintro⟨h1,h2⟩;exact⟨⟨h1,fun i hi=>h2 i oM⟩,h2 k oM⟩
end Go.Mor
namespace Go.Mor
open Go.RowKit
theorem JL{fs:List bF}{k:Nat}{x:bF}(h:fs[k]?=some x):x.aK.length≤gI fs:=by
 have hk:=(List.getElem?_eq_some_iff.1 h).1;have key:∀n,k<n→n≤fs.length→x.aK.length≤mr fs n:=by
  intro n;induction n with
  |zero=>intro h1;omega
  |succ n ih=>
   intro h1 h2;obtain⟨y,hy⟩:=aY (l:=fs) (i:=n) oM;rw[lY hy];by_cases e:k=n
   ·subst e;rw[h]at hy;injection hy with hy;subst hy;omega
   ·have:=ih oM oM;omega
 have:=key fs.length hk (cB _);unfold gI;omega
theorem Ha{fs:List bF}{k:Nat}{x:bF}(h:fs[k]?=some x){d:Int×Int×Int}(hd:d∈j8 (k:Int) x):d∈cL fs:=by
 unfold cL fa;rw[jl];refine⟨(x,k),?_,hd⟩;rw[gg];exact rY.2 h
theorem N4{fs:List bF}{k:Nat}{x:bF}(h:fs[k]?=some x){p:gv}(hp:p∈x.aK):(p.dst,(k:Int),-1)∈cL fs:=Ha h (dG _ (bD.2 ⟨p,hp,rfl⟩))
theorem N5{fs:List bF}{k:Nat}{x:bF}(h:fs[k]?=some x){i:Nat}{p:cH}(hp:x.insts[i]?=some p)(hm:aR p.op):(p.dst,(k:Int),(i:Int))∈cL fs:=by
 refine Ha h (iR _ ?_);unfold ez;rw[bD];exact⟨(p,i),e8.2 ⟨rY.2 hp,by simpa using hm⟩,rfl⟩
structure Qaw(f:dZ):Prop where
 len:f.bO.length=f.aJ.length
 at_:∀k:Nat,k<f.aJ.length→f.src k=bO (aq f.aJ) (k:Int)
theorem X8{f:dZ}(h:Qaw f){k:Nat}(hk:¬k<f.aJ.length):f.src k=[]:=by
 unfold dZ.src;rw[List.getD_eq_getElem?_getD,List.getElem?_eq_none (by rw[h.len];omega)];rfl
theorem QfP{f:dZ}(jV:xX f.aJ)(hn:f.aJ.length≤1000)(hv:gy f.nm f.pa f.va f.aJ=0)(hs:Qaw f):f.WF:=by
 unfold gy at hv;by_cases kV:(gI f.aJ:Int)>20000∨f.va>20000
 ·rw[bC kV]at hv;cases hv
 rw[aB kV]at hv;have hg:z3 f.nm f.pa f.va f.aJ:=EM fun hg=>by rw[aB hg]at hv;cases hv
 have QfQ:=hg.par;have rd:∀(k:Nat) (x:bF),f.aJ[k]?=some x→zZ (Dm (tg (aq f.aJ))) (fun _=>20000) z2 f.pa f.va f.aJ k x:=fun k x hx=>by have hk:=(List.getElem?_eq_some_iff.1 hx).1;exact o0 hx (hg.reads k hk)
 refine⟨jV,hg.pos,hn,QfQ.1,QfQ.2.2,oM,fun x hx=>qy (hg.aK x hx),fun k x hx=> ?_,hs.len,fun k x t hx ht=> ?_,fun k=> ?_⟩
 ·have hk:=(List.getElem?_eq_some_iff.1 hx).1;have hm:=bu hx;have hr:=rd k x hx;refine⟨by have:=JL hx;omega,by have:=G9 hx;omega,hg.ends x hm,fun he=> ?_,fun he=> ?_,hg.vals.1 x hm,fun i hi v hv=> ?_,fun i hi nJ=> ?_,fun p hp=> ?_,fun p hp=> ?_,fun p hp v hv=> ?_⟩
  ·have:=hr.fin (.inl he);exact⟨this.1,this.2.1⟩
  ·refine⟨(LQ hg x hm).2 he,?_⟩;by_cases hv:x.v= -1
   ·omega
   ·exact(hr.fin (.inr ⟨he,hv⟩)).2.1
  ·obtain⟨j,hj⟩:=dv.1 hi;obtain⟨q,hq⟩:=dv.1 hv;have:=hr.insts j i hj q v hq;exact⟨this.1,this.2.1⟩
  ·obtain⟨j,hj⟩:=dv.1 hi;have:=hg.vals.2.1 _ (N5 hx hj nJ);simp only at this;omega
  ·have:=hg.vals.2.1 _ (N4 hx hp);simp only at this;omega
  ·obtain⟨j,hj⟩:=dv.1 hp;rw[hs.at_ k hk];exact(hr.aK j p hj).1
  ·obtain⟨j,hj⟩:=dv.1 hp;obtain⟨q,hq⟩:=dv.1 hv;have h1:=hr.aK j p hj;obtain⟨s,hsq⟩:=aY (l:=bO (aq f.aJ) (k:Int)) (i:=q) (by rw[←h1.1];exact(List.getElem?_eq_some_iff.1 hq).1);have:=h1.2 q v s hq hsq;exact⟨this.1,this.2.1⟩
 ·have hk:=(List.getElem?_eq_some_iff.1 hx).1;have he:=hg.ends x (bu hx);have ht0:0≤t∧t<(f.aJ.length:Int):=by rcases he with⟨h0,ha,_⟩|⟨h0,ha,hb,_⟩|⟨h0,_⟩|⟨h0,_⟩<;>rcases ht with⟨h1,h2⟩|⟨h1,h2⟩<;>first|omega|(rcases h2 with h2|h2<;>omega)
  rw[hs.at_ t.toNat oM,je ht0.1,Gp,dd];refine⟨⟨oM,oM⟩,?_⟩;rw[y3 oM (x:=x.sb) (by rw[cZ];exact hU hx)];unfold Fh;rw[e8,dd];refine⟨?_,by simp[iX,ht0]⟩;show t∈(if x.e=0 then[x.a]else if x.e=1 then(if x.a=x.b then[x.a]else[x.a,x.b])else[]);rcases ht with⟨h1,h2⟩|⟨h1,h2⟩
  ·rw[bC h1,h2];simp
  ·rw[aB oM,bC h1];by_cases e:x.a=x.b
   ·rw[bC e];rcases h2 with h2|h2<;>simp[h2,e]
   ·rw[aB e];rcases h2 with h2|h2<;>simp[h2]
 ·by_cases hk:k<f.aJ.length
  ·rw[hs.at_ k hk];have:=ki (aq f.aJ) (k:Int) (aq f.aJ).length;unfold bO;rw[dd]at this⊢;omega
  ·rw[X8 hs hk];simp
end Go.Mor
namespace Go.Mor
open Go.RowKit
theorem dR.leave{C:RC}{s:cV}(h:dR C s)(h1:1≤s.opened):dR C {s with opened:=s.opened-1}:=⟨h.mem,h.n1,h.n2,h.pos,h.out,h.s1,h.s2,by show 0≤s.opened-1;omega,by have:=h.o2;show s.opened-1≤1200;omega⟩
theorem X9{E:Env0}{call:Int→af→cV→ed Int}{f:dZ}(hW:f.WF){k from_:Int}(hk:0≤k){vals:af}{s s':cV}{nx bk:Int}{v':af}{x:bF}(hx:f.aJ[k.toNat]?=some x)(h:gG E call f k from_ vals s= .ok (nx,bk,v') s')(hn:¬nx<0):0≤nx∧nx<f.aJ.length∧∀x',f.aJ[nx.toNat]?=some x'→x'.aK=[]∨k∈f.src nx.toNat:=by
 have hr:=(Jz hx h).resolve_left hn;have he:=hW.QeV k.toNat x nx hx hr;rw[je hk]at he;have hq:=(hW.aL _ _ hx).ends;refine⟨oM,?_,fun _ _=> .inr he⟩;rcases hq with⟨h0,ha,_⟩|⟨h0,ha,hb,_⟩|⟨h0,_⟩|⟨h0,_⟩<;>rcases hr with⟨h1,h2⟩|⟨h1,h2⟩<;>first|omega|(rcases h2 with h2|h2<;>omega)
end Go.Mor
namespace Go.Proofs.YtjekgaabcigphaaGreat
open Go.Mor
theorem Ya(C:RC)(s:cV)(oA:ao)(oc:Nat)(w:World)(hC:C.WF)(hG:dR C s)(f:dZ)(n k from_:Int)(vals:af)(vg:Nat)(x:bF)(m:Nat)(hm:m=vals.length)(hR:(bx.pk (dV C s oA oc++[.row 2 1 (sM vg) m m (ints vals)])).holds w)(hA:RO ((bx.pk (dV C s oA oc++[.row 2 1 (sM vg) m m (ints vals)])).fp) w C.ro)(vE:1≤n)(D9:n≤C.E.fns.length)(hn:C.E.fns[(n-1).toNat]?=some f)(MS:0≤k)(hx:f.aJ[k.toNat]?=some x)(Sj:x.aK=[]∨from_∈f.src k.toNat)(hvl:vals.length=f.va.toNat)(call:Int→af→cV→ed Int)(b:Int)(qa:qR Tryz.prog C 50 call b)(LC:GI call)(hb:C.E.fuel-s.steps≤b):Calls Tryz.prog 84 #[pT C.r 0,(.agg #[vT f.nm,vB f.wk,vI f.pa,vI f.va,vS f.A ((aq f.aJ).length) f.c]),vI n,vI k,vI from_,vS (sM vg) m m] w (gK (fun v w'=>∃nx bk v' s' XE XF,gG C.E call f k from_ vals s= .ok (nx,bk,v') s'∧v= .tuple #[vI nx,vI bk]∧dR C s'∧v'.length=vals.length∧Mem ((bx.pk (dV C s oA oc++[.row 2 1 (sM vg) m m (ints vals)])).fp) w w' (dV C s' XE XF++[.row 2 1 (sM vg) m m (ints v')])) (fun v w'=>RP C ((bx.pk (dV C s oA oc++[.row 2 1 (sM vg) m m (ints vals)])).fp) w (gG C.E call f k from_ vals s) v w')):=by
 subst hm;exact XD C s oA oc w hC hG f n k from_ vals vg x hR hA vE D9 hn MS hx Sj hvl call b qa LC hb
set_option maxHeartbeats 2000000 in
theorem Yb(C:RC)(s:cV)(oA:ao)(oc:Nat)(w:World)(hC:C.WF)(hG:dR C s)(hR:(bx.pk (dV C s oA oc)).holds w)(hA:RO (rS C s oA oc) w C.ro)(g:Nat)(ih:∀j,j<g→qR Tryz.prog C 50 (cv C.E j) (j:Int))(n:Int)(l:af)(bA:ao)(bc:Nat)(hb:C.E.fuel-s.steps<(g:Int))(hl:RO (rS C s oA oc) w (.rd bA (ints l)))(hlen:l.length≤17):gQ Tryz.prog C s oA oc w 50 [pT C.r 0,vI n,vS bA l.length bc] oV (cv C.E g n l s):=by
 have hnf:=hC.F4;refine AR 87 [pT C.r 0,vI n,vS bA l.length bc] Tryz.func50 ?_;have hM:=Mem.jS hR;refine aW<|aG<|ae 4 ?_;obtain⟨B1,jw⟩:∃B:Bool,B=decide ((n:Int)<1):=⟨_,rfl⟩;refine bQ [(0,pT C.r 0),(1,vI n),(2,vS bA l.length bc),(13,pT C.r 0),(16,(vB (decide ((n:Int)<1))))] ?_;rw[←jw];have qk:B1=true↔((n:Int)<1):=by rw[jw];simp only[aE]
 clear jw;intro aC fr;refine cE 4 8 [17,20] fr (news:=[(17,cond (!B1) (vI n) undef),(20,cond (!B1) (pT C.r 0) undef)]) (by cases B1<;>kernel_rfl) ?_;intro aC fr;refine az (B:=(!B1)) (d:=(some 21)) (vS C.fA (C.E.fns.length+1) C.fc) fr (by cases B1<;>kernel_rfl) (fun hB hh=> ?_) ?_;cases B1<;>first|(exact absurd hB dQ)|skip
 have c1:¬((n:Int)<1):=jv qk.2;exact bq (some 21) (aZ C.r) fr kR (vS C.fA (C.E.fns.length+1) C.fc) (aa (hM.get 0 rfl) rfl) hh;intro aC fr;refine cE 3 12 [24] fr (news:=[(24,(vB (B1||decide ((n:Int)≥(((C.E.fns.length+1):Nat):Int)))))]) (by cases B1<;>kernel_rfl) ?_;intro aC fr;obtain⟨o8,qf⟩:∃B:Bool,B=(B1||decide ((n:Int)≥(((C.E.fns.length+1):Nat):Int))):=⟨_,rfl⟩;revert aC;refine bQ [(0,pT C.r 0),(1,vI n),(2,vS bA l.length bc),(13,pT C.r 0),(24,(vB (B1||decide ((n:Int)≥(((C.E.fns.length+1):Nat):Int)))))] ?_;rw[←qf];have vY:o8=true↔(((n:Int)<1)∨((n:Int)≥(((C.E.fns.length+1):Nat):Int))):=by rw[qf];simp only[cg,aE,qk]
 clear qf;refine cU [0,1,2,13,24]<|uV (yt C.r o8 w) (fun _ yr ⟨Ey,lU,mM⟩ a_ mw=>by subst lU;have Xt:(((n:Int)<1)∨((n:Int)≥(((C.E.fns.length+1):Nat):Int))):=vY.1 Ey;exact zf mw (⟨_,_,s,oA,oc,mV oM,rfl,hG,(hM.cl mM)⟩)) ?_;rintro _ I4 ⟨Ey,rfl,qj⟩;have mQ:=hM.cl qj;clear qj hM;have Xt:¬(((n:Int)<1)∨((n:Int)≥(((C.E.fns.length+1):Nat):Int))):=fun h_=>Bool.noConfusion ((vY.2 h_).symm.trans Ey)
 clear Ey;refine au<|aG ?_;obtain⟨f,hf⟩:=aY (l:=C.E.fns) (i:=(n-1).toNat) oM;have vE:1≤n:=oM;have D9:n≤C.E.fns.length:=oM;have hW:=hC.fns f (bu hf);have nO:=hW.va;have QfD:0≤f.va:=Int.le_trans hW.pa0 hW.pav;have QiH:=hW.pav;have Hb:=uA (body:=kM C.E g) (l:=l) (s:=s) oM hf;refine ae 3<|bB (aZ C.r) _ (aa (mQ.get 0 rfl) rfl)<|ae 1 ?_;obtain⟨wm,Qax⟩:=bd (mQ.ro hA.QeR) (Ss vE hf);intro aC fr;refine bM (some 31) C.fA wm (C.E.fns.length+1) 5 n fr kR Qax oM oM ?_;intro aC fr;revert aC;refine gS (aN wm (n) 5) [vT f.nm,vB f.wk,vI f.pa,vI f.va,vS f.A ((aq f.aJ).length) f.c] (dk (mQ.ro hA.QeR) Qax (Ss vE hf))<|m8 mQ 35 [vT ⟨#[]⟩,vB false,vI 0,vI 0,ag] fun gY Vx Qif lR=> ?_
 replace lR:=lR.nf;refine nG lR 3 [vT f.nm,vB f.wk,vI f.pa,vI f.va,vS f.A ((aq f.aJ).length) f.c] rfl fun Fu gn=> ?_
 replace gn:=gn.nf;refine au<|aG<|ae 4<|bB (ah gY 2) _ (aa (gn.get 3 rfl) rfl)<|ae 1 ?_;obtain⟨LR,z5⟩:∃B:Bool,B=((l.length:Int) !=f.pa):=⟨_,rfl⟩;refine bQ [(0,pT C.r 0),(1,vI n),(2,vS bA l.length bc),(7,pT gY 0),(33,pT C.r 0),(38,(vB ((l.length:Int) !=f.pa)))] ?_;rw[←z5];have N6:LR=true↔((l.length:Int)≠f.pa):=by rw[z5];simp only[de]
 clear z5;refine cU [0,1,2,7,33,38]<|uV (yt C.r LR Fu) (fun _ yr ⟨Ey,lU,mM⟩ a_ mw=>by subst lU;have QiI:((l.length:Int)≠f.pa):=N6.1 Ey;exact zf mw (⟨_,_,s,oA,oc,Hb.trans (bC oM),rfl,hG,(gn.cl mM).tk 3⟩)) ?_;rintro _ Lm ⟨Ey,rfl,Jk⟩;have pd:=gn.cl Jk;have QiI:¬((l.length:Int)≠f.pa):=fun h_=>Bool.noConfusion ((N6.2 h_).symm.trans Ey)
 clear Ey;refine au<|aU<|aG<|ae 3<|bB (ah C.r 10) _ (aa (pd.get 0 rfl) rfl)<|ae 1<|au<|eF ((s.opened:Int)==1200) ((s.opened:Int)=1200) (by simp only[ax]) (fun Fm=> ?_) (fun Fm=> ?_);refine cN<|ae 1<|uV (rf C.r 4 0 Lm) (fun _ yr ⟨lU,mM⟩ a_ mw=>by subst lU;exact zf mw (⟨_,_,s,oA,oc,Hb.trans (by rw[aB oM,bC oM]),rfl,hG,(pd.cl mM).tk 3⟩)) ?_;rintro _ VC h_;exact h_.elim;refine bN<|aG ?_;have PG:cv C.E g n l s=kM C.E g f 0 (-1) (l++List.replicate (f.va.toNat-l.length) 0) {s with opened:=s.opened+1}:=Hb.trans (by rw[aB oM,aB oM]);have ho1:=hG.o1;have VH:=hG.o2;refine ae 3<|bB (ah C.r 10) _ (aa (pd.get 0 rfl) rfl)<|dw (s.opened+1)<|ae 2<|sV (ho:=sI) pd 0 10 (vI (s.opened+1)) rfl fun w32 sa=> ?_
 replace sa:=sa.nf;refine au<|aG<|ae 1<|bB (ah gY 3) _ (aa (sa.get 3 rfl) rfl) ?_;intro aC fr;refine lu (kR:ay _ 2=some (some 56,.makeSlice 36 (.tmp 55) (.tmp 55),36,none)) fr kR kR (k':=3) rfl (e:=2) (bytes:=8) (z:=(vI 0)) (n:=f.va.toNat) (i:=f.va) kR kR oM kR kR rfl oM (by simp only[maxLen];omega) sa ?_;intro Le w35 Qfg _ rO _ aC ea fr;clear ea;replace rO:=rO.nf;revert aC;refine cU [0,1,2,7,56]<|ae 1<|au<|aG<|ae 2<|bB (ah gY 2) _ (aa (rO.get 3 rfl) rfl)<|zhi (A:=some (aZ Le)) (cap:=f.va.toNat) (i:=f.pa) (hk:=by kernel_rfl) f.pa.toNat (by have:=hW.pa0;omega) oM<|ae 1<|zcp rO 4 (e:=2) (b:=Le) (n:=f.va.toNat) (dn:=f.pa.toNat) (m:=l.length) (rc:=f.va.toNat) (A:=bA) (xs:=ints l) (cs:=List.replicate f.va.toNat (vI 0)) rfl (rO.ro hl) (dq l).symm oM (by simp[dq];omega) (FE l) (fun W0 tz=> ?_) kR;replace tz:=tz.nf;have Ba:Mem (rS C s oA oc) w W0 [.aL C.r 60 [vS C.fA (C.E.fns.length+1) C.fc,vS C.sA (C.E.fns.length+1) C.sc,.map (some C.mB),.map (some C.dB),vS (sM C.mG) C.E.memN C.E.memN,vI s.next,vS ((fI C.iA C.ic s.pos).1) (C.E.inp.length-s.pos) ((fI C.iA C.ic s.pos).2),vS oA s.out.length oc,vI C.E.fuel,vI s.steps,vI (s.opened+1),vS (some C.oP) 13 13],.row 2 1 (sM C.mG) C.E.memN C.E.memN (ints s.mem),.row 5 1 oA s.out.length oc (ji s.out),.aL gY 35 [vT f.nm,vB f.wk,vI f.pa,vI f.va,vS f.A ((aq f.aJ).length) f.c],.row 2 1 (sM Le) f.va.toNat f.va.toNat (ints (l++List.replicate (f.va.toNat-l.length) 0))]:=tz.cast (by rw[St]);have rN:=Ba.od [3,4,4,4,4] 5;refine au<|aW<|aU<|cC 0 ?_;intro aC fr;refine fX (fun n_ a_ w_=>∃(j:Nat) (kj:Int) (fj:Int) (vj:af) (sj:cV) (jI:ao) (jJ:Nat),n_=2*j∧Fr a_ 87 [(0,pT C.r 0),(1,vI n),(7,pT gY 0),(8,vS (sM Le) f.va.toNat f.va.toNat),(9,vI kj),(10,vI fj)]∧Mem (rS C s oA oc) w w_ [.aL C.r 60 (fB C sj jI jJ),.row 2 1 (sM C.mG) C.E.memN C.E.memN (ints sj.mem),.row 5 1 jI sj.out.length jJ (ji sj.out),.row 2 1 (sM Le) f.va.toNat f.va.toNat (ints vj),.aL gY 35 [vT f.nm,vB f.wk,vI f.pa,vI f.va,vS f.A ((aq f.aJ).length) f.c]]∧(0≤kj)∧(kj<f.aJ.length)∧(∀x,f.aJ[kj.toNat]?=some x→x.aK=[]∨fj∈f.src kj.toNat)∧(vj.length=f.va.toNat)∧(dR C sj)∧(C.E.fuel-sj.steps<(j:Int))∧(j≤g)∧(sj.opened=s.opened+1)∧(cv C.E g n l s=kM C.E j f kj fj vj sj)) (n:=_) ⟨g,0,-1,l++List.replicate (f.va.toNat-l.length) 0,{s with opened:=s.opened+1},oA,oc,rfl,fr.kp [0,1,7,8,9,10],rN,dX _,by have:=hW.pos;omega,fun x hx=> .inl (hW.first x hx),by simp;omega,hG.enter oM,hb,cB _,rfl,PG⟩ ?_;clear fr aC rN;rintro n aC w47 ⟨j,kj,fj,vj,sj,jI,jJ,rfl,fr,xC,MS,hkb,hfj,uY,GL,hbj,hjg,ma,sC⟩;revert aC;refine aU<|aG<|ae 1<|k9 (decide (kj≥0)) fun B51 JM=> ?_
 obtain rfl:B51=true:=by have uF:((kj:Int)≥0):=oM;first|exact JM.trans (lV uF)|exact JM.trans (jf uF)|exact JM.trans (ax.2 uF)|exact JM.trans (de.2 uF)|exact JM.trans (eX.2 (fun e=>uF (ax.1 e)))|exact JM.trans (eX.2 (fun e=>uF (de.1 e)))
 clear JM;refine au<|fY<|bN<|cC 1<|aG ?_;obtain⟨x,hx⟩:=aY (l:=f.aJ) (i:=kj.toNat) oM;obtain⟨j1,rfl⟩:∃j1,j=j1+1:=⟨j-1,by have:=GL.s2;omega⟩;have LS:=sC.trans (rR _ _ _ _ _ _);refine ae 1<|gS (aZ gY) [vT f.nm,vB f.wk,vI f.pa,vI f.va,vS f.A ((aq f.aJ).length) f.c] (bp (xC.get 4 rfl))<|ae 4<|uV (Ya C sj jI jJ w47 hC GL f n kj fj vj Le x f.va.toNat uY.symm (Mem.bZ (l:=dV C sj jI jJ++[.row 2 1 (sM Le) f.va.toNat f.va.toNat (ints vj)]) xC) (hA.iI (l:=dV C sj jI jJ++[.row 2 1 (sM Le) f.va.toNat f.va.toNat (ints vj)]) xC) vE D9 hf MS hx (hfj x hx) uY (cv C.E j1) (j1:Int) (ih j1 oM) (rU j1) oM) (fun _ yr ⟨k_,c_,s_,H5,H6,Jq,lU,Lx,mM⟩ a_ mw=>by subst lU;exact kO<|kO<|zf mw ⟨k_,c_,s_,H5,H6,LS.trans (fK Jq),rfl,Lx,Mem.tk (Mem.na (l:=dV C sj jI jJ++[.row 2 1 (sM Le) f.va.toNat f.va.toNat (ints vj)]) xC mM) 3⟩) ?_;rintro _ w59 ⟨Yc,QfR,QfS,Yd,Ye,Yf,LU,rfl,LV,QiJ,JN⟩;have yj:Mem (rS C s oA oc) w w59 [.aL C.r 60 (fB C Yd Ye Yf),.row 2 1 (sM C.mG) C.E.memN C.E.memN (ints Yd.mem),.row 5 1 Ye Yd.out.length Yf (ji Yd.out),.row 2 1 (sM Le) f.va.toNat f.va.toNat (ints QfS),.aL gY 35 [vT f.nm,vB f.wk,vI f.pa,vI f.va,vS f.A ((aq f.aJ).length) f.c]]:=xC.na JN;have hkp:=zS (rU j1) (te j1) LU;refine ae 5<|au<|aU<|aW<|gp ((Yc:Int)<0) (fun SP=> ?_) (fun SP=> ?_);refine aG ?_;have VI:=LV.o1;have ho4:=LV.o2;refine ae 3<|bB (ah C.r 10) _ (aa (yj.get 0 rfl) rfl)<|dw (Yd.opened-1)<|ae 2<|sV (ho:=sI) yj 0 10 (vI (Yd.opened-1)) rfl fun w62 r9=> ?_
 replace r9:=r9.nf;refine cU [12]<|au<|aW<|bG<|da<|da<|DT (vI QfR) ?_;exact⟨QfR,{Yd with opened:=Yd.opened-1},Ye,Yf,LS.trans ((gO LU).trans (bC (show Yc<0 by omega))),rfl,LV.leave oM,r9.tk 3⟩;refine bN<|x8 ?_;have hnk:=X9 hW MS hx LU oM;intro aC fr;exact⟨2*j1,oM,j1,Yc,kj,QfS,Yd,Ye,Yf,rfl,fr.kp [0,1,7,8,9,10],yj,hnk.1,hnk.2.1,hnk.2.2,QiJ.trans uY,LV,oM,oM,oM,LS.trans ((gO LU).trans (aB (show¬Yc<0 by omega)))⟩
theorem N7(C:RC)(hC:C.WF):∀g:Nat,qR Tryz.prog C 50 (cv C.E g) (g:Int):=by
 intro g;induction g using Nat.strongRecOn with
 |_ g ih=>exact fun n l bA bc s oA oc w hG hb hR hA hl hlen=>Yb C s oA oc w hC hG hR hA g ih n l bA bc hb hl hlen
end Go.Proofs.YtjekgaabcigphaaGreat
