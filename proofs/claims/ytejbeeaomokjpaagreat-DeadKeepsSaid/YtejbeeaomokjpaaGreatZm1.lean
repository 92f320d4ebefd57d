/-
  Texts of the proof, part 1.
-/
import Derived.WalkKit
import Derived.WalkSpells
import Derived.WalkLawsBesides
import Derived.KernelRfl
set_option maxRecDepth 10000
namespace Go.Mor
open Go.RowKit
abbrev vI(x:Int):Value:= .int .i64 x
abbrev vS(A:Option Addr)(n c:Nat):Value:= .slice A n c
abbrev vB(b:Bool):Value:= .bool b
abbrev vT(s:ByteArray):Value:= .string s
abbrev vP(a:Addr):Value:= .pointer (some a)
abbrev aZ(g:Nat):Addr:=⟨g,0,none⟩
abbrev aN(a:Addr)(i:Int)(k:Nat):Addr:=a.add (i.toNat*k)
theorem oM{p:Prop}(h:p:=by omega):p:=h
theorem kR{p:Prop}(h:p:=by kernel_rfl):p:=h
theorem dQ{p:Prop}(h:p:=by decide):p:=h
theorem sI{p:Prop}(h:p:=by simp):p:=h
theorem iL{p:Prop}(h:p→false=true):¬p:=fun x=>Bool.noConfusion (h x)
abbrev af:=List Int
abbrev ar:=Option Addr
abbrev aV:=ByteArray
abbrev aP:=List Value
abbrev an:Value:= .slice none 0 0
abbrev pg:Value:= .pointer none
abbrev ao(b o:Nat):Addr:=⟨b,o,none⟩
abbrev cg(nm:ByteArray)(wk:Bool)(pa va:Int)(A:Option Addr)(n c:Nat)(B:Option Addr)(m d:Nat):List Value:=[.string nm,.bool wk,.int .i64 pa,.int .i64 va,.slice A n c,.slice B m d]
abbrev dd(nm:ByteArray)(wk:Bool)(pa va:Int)(A:Option Addr)(n c:Nat):List Value:=[.string nm,.bool wk,.int .i64 pa,.int .i64 va,.slice A n c]
abbrev bU:List Value:=[.string ⟨#[]⟩,.bool false,.int .i64 0,.int .i64 0,.slice none 0 0]
abbrev dW(x:ByteArray):Bool:=x.toList==(⟨#[]⟩:ByteArray).toList
abbrev Ka:=@Go.run_loadCells_list
abbrev Kb:=@Go.IntWalk.i64_in
abbrev Ke:=@List.drop_zero
abbrev PM:=@List.mem_or_eq_of_mem_set
abbrev E6:=@Bool.true_and
abbrev Fb:=@Go.DataW.weights_mem_each
abbrev Fc:=@Nat.zero_mul
abbrev Kr:=@Bool.false_ne_true
abbrev Qaq:=@List.set_cons_zero
abbrev Kt:=@Go.ByteArray.toList_eq
abbrev Ds:=@decide_eq_decide
abbrev u0:=@beq_eq_false_iff_ne
abbrev kQ:=@List.take_add_one
abbrev u6:=@List.take_succ_cons
abbrev yX:=@Classical.byContradiction
abbrev Jb:=@List.mem_singleton_self
abbrev D7:=@List.mem_replicate
abbrev Env:=List (Nat×Value)
def look:Env→Nat→Option Value
 |[],_=>none
 |(k,v)::r,t=>match Nat.beq k t with
  |true=>some v
  |false=>look r t
def ev(env:Env):Operand→Option Value
 | .tmp t=>look env t
 | .const v=>some v
 | .global g=>some (vP (aZ g))
 | .func f=>some (.func (.func f) #[] #[])
structure FN where
 n:Nat
 D:List Deferred
instance (k : Nat) : OfNat FN k := ⟨⟨k, []⟩⟩
structure Fr(a:Act)(N:FN)(env:Env):Prop where
 defers:a.defers=N.D
 size:a.tmps.size=N.n
 slot:∀t v,look env t=some v→a.tmps[t]?=some v
theorem Fr.ev{a:Act}{N:FN}{env:Env}(h:Fr a N env){x:Operand}{v:Value}(hx:ev env x=some v):a.eval x=v:=by
 cases x with
 |tmp t=>have:=h.slot t v hx;simp[Act.eval,Array.getD_eq_getD_getElem?,this]
 |const u=>simp[Mor.ev]at hx;simp[Act.eval,hx]
 |global g=>simp[Mor.ev]at hx;simp[Act.eval,hx]
 |func f=>simp[Mor.ev]at hx;simp[Act.eval,hx]
def dq(env:Env)(d:Option Nat)(v:Value):Env:=match d with
 |some t=>(t,v)::env
 |none=>env
def gp(d:Option Nat)(N:FN):Bool:=match d with
 |some t=>Nat.blt t N.n
 |none=>true
def mh(keep:List Nat)(env:Env):Env:=match keep with
 |[]=>[]
 |t::r=>match look env t with
  |some v=>(t,v)::mh r env
  |none=>mh r env
theorem xH{keep:List Nat}{env:Env}{t:Nat}{v:Value}:look (mh keep env) t=some v→look env t=some v:=by
 induction keep with
 |nil=>intro h;simp[mh,look]at h
 |cons k r ih=>
  unfold mh;intro h;split at h
  ·rename_i u hu;unfold look at h;split at h
   ·rename_i hb;have:k=t:=Nat.eq_of_beq_eq_true hb;subst this;injection h with h;subst h;exact hu
   ·exact ih h
  ·exact ih h
theorem Fr.put{a:Act}{N:FN}{env:Env}(h:Fr a N env){d:Option Nat}(hd:gp d N=true)(v:Value):Fr (a.put d v) N (dq env d v):=by
 cases d with
 |none=>exact h
 |some t=>
  have ht:t<N.n:=by simpa[gp,Nat.blt_eq]using hd
  refine⟨h.defers,by simp[Act.put,h.size],?_⟩;intro u x hx;simp only[dq,look]at hx;simp only[Act.put];by_cases e:t=u
  ·subst e;simp at hx;subst hx;rw[Array.getElem?_setIfInBounds_self_of_lt (by rw[h.size];exact ht)]
  ·have hb:Nat.beq t u=false:=by
    cases hq:Nat.beq t u
    ·rfl
    ·exact absurd (Nat.eq_of_beq_eq_true hq) e
   rw[hb]at hx;rw[Array.getElem?_setIfInBounds_ne e];exact h.slot u x hx
theorem Fr.keep{a:Act}{N:FN}{env:Env}(h:Fr a N env){keep:List Nat}{CU:Env}(e:mh keep env=CU):Fr a N CU:=by
 subst e;exact⟨h.defers,h.size,fun t v hv=>h.slot t v (xH hv)⟩
def Code.l:Code→Code
 | .seq a _=>a
 | .cond _ a _=>a
 | .block _ b=>b
 | .loop b=>b
 |_=> .skip
def Code.r:Code→Code
 | .seq _ b=>b
 | .cond _ _ b=>b
 |_=> .skip
def opsOf:Code→Array Oper
 | .region _ ops _=>ops
 |_=> #[]
inductive Kind where
 |seq|cond(x:Operand)|block(id:Nat)|loop|ret|skip|exit(id:Nat)|region(draw:Bool)|other
def kind:Code→Kind
 | .seq _ _=> .seq
 | .cond x _ _=> .cond x
 | .block id _=> .block id
 | .loop _=> .loop
 | .ret=> .ret
 | .skip=> .skip
 | .exit id=> .exit id
 | .region _ _ d=> .region d
 |_=> .other
def W(P:Program)(c:Code)(K:Act→World→Prop)(Q:Exit→Act→World→Prop)(a:Act)(w:World):Prop:=c.wp P (Exit.then K Q) a w
def inB(id:Nat)(K:Act→World→Prop)(Q:Exit→Act→World→Prop):Exit→Act→World→Prop
 | .exit Pt,a,w=>match Nat.beq Pt id with
  |true=>K a w
  |false=>Q (.exit Pt) a w
 |e,a,w=>Q e a w
section
variable {P : Program} {c : Code} {K : Act → World → Prop} {Q : Exit → Act → World → Prop} {a : Act} {w : World}
theorem ZS(hk:kind c= .seq)(h:W P (Code.l c) (fun a w=>W P (Code.r c) K Q a w) Q a w):W P c K Q a w:=by
 cases c<;>simp[kind]at hk
 ·refine wp_seq ?_;refine wp_mono h ?_;intro e a w he;cases e<;>exact he
theorem Qbl(hk:kind c= .skip)(h:K a w):W P c K Q a w:=by
 cases c<;>simp[kind]at hk
 ·exact wp_skip h
theorem Qeq(hk:kind c= .ret)(h:Q .ret a w):W P c K Q a w:=by
 cases c<;>simp[kind]at hk
 ·exact wp_ret h
theorem Qbm{id:Nat}(hk:kind c= .exit id)(h:Q (.exit id) a w):W P c K Q a w:=by
 cases c<;>simp[kind]at hk
 ·subst hk;exact wp_exit h
theorem Vp{id:Nat}(hk:kind c= .block id)(h:W P (Code.l c) K (inB id K Q) a w):W P c K Q a w:=by
 cases c<;>simp[kind]at hk
 ·subst hk;refine wp_block ?_;refine wp_mono h ?_;intro e a w he;cases e with
  |exit Pt=>
   rename_i id0 b;simp only[Exit.then,inB]at he;simp only[Exit.inBlock];split
   ·rename_i e;subst e;show K a w;simpa using he
   ·rename_i dt;have hb:Nat.beq Pt id0=false:=by
     cases hq:Nat.beq Pt id0
     ·rfl
     ·exact absurd (Nat.eq_of_beq_eq_true hq) dt
    rw[hb]at he;exact he
  |_=>exact he
theorem HW{t:Nat}{N:FN}{env:Env}{B:Bool}(hk:kind c= .cond (.tmp t))(hF:Fr a N env)(hv:look env t=some (vB B))(ht:B=true→W P (Code.l c) K Q a w)(hf:B=false→W P (Code.r c) K Q a w):W P c K Q a w:=by
 cases c<;>simp[kind]at hk;subst hk;exact wp_cond_split (hF.ev (x:= .tmp t) hv) ht hf
theorem Qbn(hk:kind c= .loop)(I:Nat→Act→World→Prop){n:Nat}(h0:I n a w)(round:∀n a w,I n a w→W P (Code.l c) (fun a' w'=>∃m,m<n∧I m a' w') Q a w):W P c K Q a w:=by
 cases c<;>simp[kind]at hk;rename_i c;intro b k cs;have key:∀n a w,I n a w→∃e a' w',Exit.then K Q e a' w'∧Arrives P (lone (b.at a (.code c:: .inLoop c::k)) cs w) b k cs e a' w':=by
  intro n;induction n using Nat.strongRecOn with
  |_ n ih=>
   intro a w hI;obtain⟨e,xI,xJ,hq,EW⟩:=round n a w hI b (.inLoop c::k) cs;cases e with
   |normal=>
    obtain⟨m,eV,Qer⟩:=hq;obtain⟨QhM,QhN,QhO,Qes,Vq⟩:=ih m eV xI xJ Qer;exact⟨QhM,QhN,QhO,Qes,.of_steps (Steps.trans EW (.one step_inLoop)) Vq⟩
   |exit id=>exact⟨(.exit id),xI,xJ,(hq:Q (.exit id) xI xJ),.pass (x:= .inLoop c) rfl (fun _ _=> .inl sI) EW⟩
   |goto l=>exact⟨(.goto l),xI,xJ,(hq:Q (.goto l) xI xJ),.pass (x:= .inLoop c) rfl (fun _ _=> .inl sI) EW⟩
   |ret=>exact⟨.ret,xI,xJ,(hq:Q .ret xI xJ),.pass (x:= .inLoop c) rfl (fun _ _=> .inl sI) EW⟩
   |panic ch=>exact⟨(.panic ch),xI,xJ,(hq:Q (.panic ch) xI xJ),.pass (x:= .inLoop c) rfl (fun _ _=> .inl sI) EW⟩
   |outgrown=>exact⟨.outgrown,xI,xJ,(hq:Q .outgrown xI xJ),.pass (x:= .inLoop c) rfl (fun _ _=> .inl sI) EW⟩
 obtain⟨e,a',w',hq,EW⟩:=key n a w h0;exact⟨e,a',w',hq,.of_steps (.one step_loop) EW⟩
theorem Qbo{K':Act→World→Prop}{Q':Exit→Act→World→Prop}(h:W P c K Q a w)(hK:∀a w,K a w→K' a w)(hQ:∀e a w,Q e a w→Q' e a w):W P c K' Q' a w:=by
 refine wp_mono h ?_;intro e a w he;cases e;case normal=>exact hK _ _ he
 all_goals exact hQ _ _ _ he
end
def ax(c:Code)(k:Nat):Option (Option Nat×Op×Nat×Option (Nat×Bool)):=((opsOf c)[k]?).map fun o=>(o.dst,o.op,o.type,o.guard)
def bz(P:Program)(c:Code)(K:Act→World→Prop)(Q:Exit→Act→World→Prop)(k:Nat)(a:Act)(w:World):Prop:=wpList P (opsOf c) (Exit.then K Q) ((opsOf c).toList.drop k) a w
def bD(c:Code)(g:Option (Nat×Bool))(env:Env):Option Bool:=match g with
 |none=>some true
 |some (j,want)=>match((opsOf c)[j]?).bind (·.dst)with
  |some d=>match look env d with
   |some (.bool b)=>some (match b,want with|true,true=>true|false,false=>true|_,_=>false)
   |some (.tuple _)=>some false
   |_=>none
  |none=>none
section
variable {P : Program} {c : Code} {K : Act → World → Prop} {Q : Exit → Act → World → Prop} {a : Act} {w : World} {k : Nat} {N : FN} {env : Env}
theorem EX(hk:kind c= .region false)(h:bz P c K Q 0 a w):W P c K Q a w:=by
 cases c<;>simp[kind]at hk
 ·subst hk;refine wp_region_list ?_;exact h
theorem aL(hk:ax c k=none)(h:K a w):bz P c K Q k a w:=by
 have hl:(opsOf c).toList.drop k=[]:=by simp only[ax,Option.map_eq_none_iff]at hk;apply List.drop_eq_nil_of_le;simpa[Array.getElem?_eq_none_iff]using hk
 unfold bz;rw[hl];exact h
theorem CV{o:Oper}(hk:(opsOf c)[k]?=some o):(opsOf c).toList.drop k=o::(opsOf c).toList.drop (k+1):=by
 have h1:(opsOf c).toList[k]?=some o:=by simpa using hk
 obtain⟨eV,he⟩:=List.getElem?_eq_some_iff.1 h1;rw[List.drop_eq_getElem_cons eV,he]
theorem th{g:Option (Nat×Bool)}{o:Oper}(hF:Fr a N env)(ho:o.guard=g){b:Bool}(hg:bD c g env=some b):Region.wanted o (yielded (opsOf c) a.tmps)=b:=by
 unfold Region.wanted;rw[ho];cases g with
 |none=>simp[bD]at hg;simp[hg]
 |some g=>
  obtain⟨j,want⟩:=g;simp only[bD]at hg;split at hg
  ·rename_i d hd;split at hg
   ·rename_i u hu;have:=hF.slot d _ hu;simp only[yielded,hd,Option.bind_some,this];injection hg with hg;subst hg;cases u<;>cases want<;>rfl
   ·rename_i u hu;have:=hF.slot d _ hu;simp only[yielded,hd,Option.bind_some,this];injection hg with hg
   ·cases hg
  ·cases hg
theorem CW{d:Option Nat}{op:Op}{ty:Nat}{g:Option (Nat×Bool)}(hk:ax c k=some (d,op,ty,g))(hF:Fr a N env)(hg:bD c g env=some true)(h:∀o:Oper,o.dst=d→o.op=op→o.type=ty→∀K':Act→World→Prop,(∀a' w',bz P c K Q (k+1) a' w'→K' a' w')→o.wp P a w K' (Exit.then K Q)):bz P c K Q k a w:=by
 unfold ax at hk;cases ho:(opsOf c)[k]? with
 |none=>rw[ho]at hk;cases hk
 |some o=>
  rw[ho]at hk;simp only[Option.map_some,Option.some.injEq,Prod.mk.injEq]at hk;obtain⟨h1,h2,h3,h4⟩:=hk;unfold bz;rw[CV ho];refine wpList_step fun K' Vr=> ?_
  rw[if_pos (th hF h4 hg)];exact h o h1 h2 h3 K' Vr
theorem uG{d:Option Nat}{op:Op}{ty:Nat}{g:Option (Nat×Bool)}(hk:ax c k=some (d,op,ty,g))(hF:Fr a N env)(hg:bD c g env=some false)(h:bz P c K Q (k+1) (a.put d undef) w):bz P c K Q k a w:=by
 unfold ax at hk;cases ho:(opsOf c)[k]? with
 |none=>rw[ho]at hk;cases hk
 |some o=>
  rw[ho]at hk;simp only[Option.map_some,Option.some.injEq,Prod.mk.injEq]at hk;obtain⟨h1,h2,h3,h4⟩:=hk;subst h1;unfold bz;rw[CV ho];refine wpList_step fun K' Vr=> ?_
  rw[if_neg (by rw[th hF h4 hg];simp)];exact Vr _ _ h
theorem ib{d:Option Nat}{op:Op}{ty:Nat}{g:Option (Nat×Bool)}(hk:ax c k=some (d,op,ty,g))(hF:Fr a N env)(hg:bD c g env=some true){v:Value}{w':World}(hr:∀o:Oper,o.op=op→o.type=ty→(execOp a.eval o).run P w= .ok (.value v) w')(h:bz P c K Q (k+1) (a.put d v) w'):bz P c K Q k a w:=by
 refine CW hk hF hg fun o h1 h2 h3 K' Vr=> ?_
 unfold Oper.wp;rw[hr o h2 h3,Oper.upon_value,h1];exact Vr _ _ h
theorem ni{d:Option Nat}{op:Op}{ty:Nat}{g:Option (Nat×Bool)}(hk:ax c k=some (d,op,ty,g))(hF:Fr a N env)(hg:bD c g env=some true){w':World}(hr:∀o:Oper,o.op=op→(execOp a.eval o).run P w= .ok .skip w')(h:bz P c K Q (k+1) (a.put d undef) w'):bz P c K Q k a w:=by
 refine CW hk hF hg fun o h1 h2 _ K' Vr=> ?_
 unfold Oper.wp;rw[hr o h2,Oper.upon_skip,h1];exact Vr _ _ h
end
end Go.Mor
