/-
  Texts of the proof, part 1.
-/
import Derived.WalkKit
import Derived.WalkSpells
import Derived.WalkLawsBesides
import Derived.KernelRfl
set_option maxRecDepth 10000
namespace Go.Mor
open Go.RowKit
abbrev vI(x:Int):Value:= .int .i64 x
abbrev vS(A:Option Addr)(n c:Nat):Value:= .slice A n c
abbrev vB(b:Bool):Value:= .bool b
abbrev vT(s:ByteArray):Value:= .string s
abbrev vP(a:Addr):Value:= .pointer (some a)
abbrev aZ(g:Nat):Addr:=⟨g,0,none⟩
abbrev aN(a:Addr)(i:Int)(k:Nat):Addr:=a.add (i.toNat*k)
theorem oM{p:Prop}(h:p:=by omega):p:=h
theorem kR{p:Prop}(h:p:=by kernel_rfl):p:=h
theorem dQ{p:Prop}(h:p:=by decide):p:=h
theorem sI{p:Prop}(h:p:=by simp):p:=h
theorem iL{p:Prop}(h:p→false=true):¬p:=fun x=>Bool.noConfusion (h x)
abbrev af:=List Int
abbrev ar:=Option Addr
abbrev aV:=ByteArray
abbrev aP:=List Value
abbrev an:Value:= .slice none 0 0
abbrev pg:Value:= .pointer none
abbrev ao(b o:Nat):Addr:=⟨b,o,none⟩
abbrev cg(nm:ByteArray)(wk:Bool)(pa va:Int)(A:Option Addr)(n c:Nat)(B:Option Addr)(m d:Nat):List Value:=[.string nm,.bool wk,.int .i64 pa,.int .i64 va,.slice A n c,.slice B m d]
abbrev ed(nm:ByteArray)(wk:Bool)(pa va:Int)(A:Option Addr)(n c:Nat):List Value:=[.string nm,.bool wk,.int .i64 pa,.int .i64 va,.slice A n c]
abbrev bU:List Value:=[.string ⟨#[]⟩,.bool false,.int .i64 0,.int .i64 0,.slice none 0 0]
abbrev dW(x:ByteArray):Bool:=x.toList==(⟨#[]⟩:ByteArray).toList
abbrev Ka:=@Array.getD_eq_getD_getElem?
abbrev Kb:=@Nat.eq_of_beq_eq_true
abbrev Ke:=@Nat.blt_eq
abbrev PM:=@Option.map_eq_none_iff
abbrev E6:=@List.drop_eq_nil_of_le
abbrev Fb:=@List.drop_eq_getElem_cons
abbrev Fc:=@Option.map_some
abbrev Kr:=@Option.some.injEq
abbrev Qaq:=@Prod.mk.injEq
abbrev Kt:=@if_pos
abbrev Ds:=@if_neg
abbrev MW:=@Nat.lt_or_ge
abbrev kQ:=@Nat.le_refl
abbrev u6:=@List.Pairwise.nil
abbrev yX:=@List.mem_singleton
abbrev Jb:=@List.pairwise_singleton
abbrev D7:=@List.mem_of_getElem?
abbrev Qpi:=@List.pairwise_cons
abbrev QoJ:=@Nat.le_trans
abbrev Qn2:=@List.mem_append
abbrev QpF:=@List.pairwise_append
abbrev Qop:=@List.mem_cons_self
abbrev Qmp:=@List.mem_iff_getElem?
abbrev Qmq:=@List.mem_cons_of_mem
abbrev QpB:=@List.pairwise_iff_getElem
abbrev QpG:=@Nat.add_assoc
abbrev Qp3:=@List.eq_nil_of_length_eq_zero
abbrev QoK:=@List.map_cons
abbrev QoH:=@Go.run_underlying
abbrev Qor:=@Go.Sem.run_bind
abbrev QnS:=@Go.Result.andThen_ok
abbrev Qpe:=@Array.ext'
abbrev QoE:=@List.length_cons
abbrev Qow:=@List.take_succ_eq_append_getElem
abbrev Qqc:=@List.drop_set
abbrev Qp4:=@List.take_set_of_le
abbrev QlP:=@Bool.and_eq_true
abbrev Qqd:=@Nat.le_of_ble_eq_true
abbrev Qqe:=@Nat.eq_zero_or_pos
abbrev Qom:=@Nat.zero_le
abbrev Qo0:=@if_false
abbrev Qo4:=@Go.Sem.run_pure
abbrev Qoz:=@Nat.mul_one
abbrev Qp5:=@List.map_toArray
abbrev Qps:=@List.map_nil
abbrev Qpt:=@Bool.not_eq_true'
abbrev Qpp:=@Bool.false_eq_true
abbrev Qhz:=@List.mem_map
abbrev Qoq:=@Int.toNat_natCast
abbrev QoP:=@List.all_eq_true
abbrev QoA:=@List.mem_range
abbrev Qqf:=@Nat.lt_trichotomy
abbrev Qqg:=@List.cons_append
abbrev Qon:=@List.mem_cons
abbrev Qov:=@List.mem_filter
abbrev Qpf:=@Option.getD_some
abbrev Qqh:=@Array.all_eq_true_iff_forall_mem
abbrev Qqi:=@Array.mem_toList_iff
abbrev QoZ:=@List.append_nil
abbrev Qpj:=@if_true
abbrev QpU:=@List.length_pos_of_mem
abbrev Qp6:=@List.filter_filter
abbrev Qpu:=@List.filter_congr
abbrev Qqj:=@List.length_filter_lt_length_iff_exists
abbrev QoI:=@List.length_filter_le
abbrev QoL:=@List.ext_getElem?
abbrev Qqk:=@List.eq_of_mem_replicate
abbrev Qp7:=@List.length_replicate
abbrev QoO:=@true_and
abbrev QoT:=@List.length_take
abbrev Qos:=@Bool.or_eq_true
abbrev Qp8:=@List.any_eq_true
abbrev Qqq:=@List.eraseIdx_cons_succ
abbrev QpO:=@List.Perm.swap
abbrev Qp9:=@BitVec.eq_of_toNat_eq
abbrev Qql:=@BitVec.toNat_ofNat
abbrev Qqm:=@Nat.mod_eq_of_lt
abbrev Qqa:=@Int.natCast_nonneg
abbrev Qpk:=@List.map_set
abbrev QhA:=@decide_eq_true_eq
abbrev Qox:=@List.mem_append_left
abbrev Qo5:=@List.mem_append_right
abbrev Qqr:=@List.contains_eq_mem
abbrev Qqs:=@decide_eq_false_iff_not
abbrev QpC:=@List.getElem_mem
abbrev Qot:=@List.take_of_length_le
abbrev QpH:=@List.range_succ
abbrev QoW:=@List.filter_append
abbrev Qou:=@List.map_append
abbrev Qpv:=@List.filter_cons
abbrev Qqn:=@Bool.not_eq_true
abbrev QlO:=@List.length_map
abbrev Qqo:=@List.mem_iff_getElem
abbrev Qpw:=@List.filter_eq_self
abbrev Qqb:=@List.drop_drop
abbrev QoG:=@List.length_append
abbrev Qlh:=@congrArg
abbrev QoC:=@List.append_assoc
abbrev Qqt:=@Array.eq_empty_of_size_eq_zero
abbrev Qo8:=@List.mem_flatMap
abbrev QoB:=@Nat.not_lt_zero
abbrev QoQ:=@Option.map_eq_some_iff
abbrev QpI:=@Bool.eq_iff_iff
abbrev Qco:=@beq_iff_eq
abbrev QoU:=@false_and
abbrev QoX:=@and_true
abbrev QoM:=@or_false
abbrev Qo1:=@false_or
abbrev Qo6:=@true_or
abbrev QoR:=@ne_eq
abbrev QoY:=@not_false_eq_true
abbrev Qpb:=@not_true_eq_false
abbrev Qo2:=@and_false
abbrev Qpc:=@or_true
abbrev Qo9:=@and_self
abbrev Qpx:=@List.replicate_succ
abbrev Qpd:=@Nat.zero_add
abbrev QpP:=@Nat.succ_mul
abbrev QpD:=@List.nil_append
abbrev Qqu:=@List.set_cons_succ
abbrev QpQ:=@List.flatMap_append
abbrev QoS:=@List.nodup_append
abbrev Qpa:=@List.length_set
abbrev Qpq:=@List.take_append_drop
abbrev QoF:=@List.take_length
abbrev Qpl:=@Nat.sub_self
abbrev QpJ:=@List.set_append_right
abbrev QpK:=@List.length_range
abbrev Qpm:=@List.filter_sublist
abbrev Qpr:=@Int.eq_ofNat_of_zero_le
abbrev Qo3:=@List.length_nil
abbrev Qpn:=@List.not_mem_nil
abbrev QoN:=@Iff.rfl
abbrev QpL:=@List.nodup_cons
abbrev QpM:=@List.cons.injEq
abbrev QoV:=@List.map_congr_left
abbrev QpV:=@List.mem_take_iff_getElem
abbrev QoD:=@Classical.not_not
abbrev Qol:=@Int.le_refl
abbrev QpR:=@List.mem_of_mem_take
abbrev QpW:=@List.take_sublist
abbrev QpX:=@List.pairwise_map
abbrev Qo7:=@Int.toNat_of_nonneg
abbrev Qpo:=@List.mem_zipIdx_iff_getElem?
abbrev QlQ:=@List.map_map
abbrev Qpy:=@List.filter_map
abbrev QpY:=@List.flatMap_map
abbrev Qpg:=@List.flatMap_cons
abbrev QlT:=@of_decide_eq_true
abbrev Qoo:=@bne_iff_ne
abbrev Qqp:=@Array.toList_modify
abbrev QpN:=@beq_self_eq_true
abbrev Qpz:=@List.sum_cons
abbrev QpZ:=@Function.comp_apply
abbrev Qp0:=@Go.run_equalIn_int
abbrev QpS:=@Bool.not_true
abbrev Qqv:=@Go.MapKept.bytes_beq
abbrev QpT:=@List.length_eq_one_iff
abbrev Qp1:=@List.foldl_append
abbrev QpE:=@List.foldl_cons
abbrev QnR:=@of_decide_eq_false
abbrev Qoy:=@Bool.eq_false_iff
abbrev Qph:=@decide_eq_true
abbrev QpA:=@decide_eq_false
abbrev Qp2:=@Bool.or_false
abbrev Env:=List (Nat×Value)
def look:Env→Nat→Option Value
 |[],_=>none
 |(k,v)::r,t=>match Nat.beq k t with
  |true=>some v
  |false=>look r t
def ev(env:Env):Operand→Option Value
 | .tmp t=>look env t
 | .const v=>some v
 | .global g=>some (vP (aZ g))
 | .func f=>some (.func (.func f) #[] #[])
structure FN where
 n:Nat
 D:List Deferred
instance (k : Nat) : OfNat FN k := ⟨⟨k, []⟩⟩
structure Fr(a:Act)(N:FN)(env:Env):Prop where
 defers:a.defers=N.D
 size:a.tmps.size=N.n
 slot:∀t v,look env t=some v→a.tmps[t]?=some v
theorem Fr.ev{a:Act}{N:FN}{env:Env}(h:Fr a N env){x:Operand}{v:Value}(hx:ev env x=some v):a.eval x=v:=by
 cases x with
 |tmp t=>have:=h.slot t v hx;simp[Act.eval,Ka,this]
 |const u=>simp[Mor.ev]at hx;simp[Act.eval,hx]
 |global g=>simp[Mor.ev]at hx;simp[Act.eval,hx]
 |func f=>simp[Mor.ev]at hx;simp[Act.eval,hx]
def dq(env:Env)(d:Option Nat)(v:Value):Env:=match d with
 |some t=>(t,v)::env
 |none=>env
def gp(d:Option Nat)(N:FN):Bool:=match d with
 |some t=>Nat.blt t N.n
 |none=>true
def mh(keep:List Nat)(env:Env):Env:=match keep with
 |[]=>[]
 |t::r=>match look env t with
  |some v=>(t,v)::mh r env
  |none=>mh r env
theorem xH{keep:List Nat}{env:Env}{t:Nat}{v:Value}:look (mh keep env) t=some v→look env t=some v:=by
 induction keep with
 |nil=>intro h;simp[mh,look]at h
 |cons k r ih=>
  unfold mh;intro h;split at h
  ·rename_i u hu;unfold look at h;split at h
   ·rename_i hb;have:k=t:=Kb hb;subst this;injection h with h;subst h;exact hu
   ·exact ih h
  ·exact ih h
theorem Fr.put{a:Act}{N:FN}{env:Env}(h:Fr a N env){d:Option Nat}(hd:gp d N=true)(v:Value):Fr (a.put d v) N (dq env d v):=by
 cases d with
 |none=>exact h
 |some t=>
  have ht:t<N.n:=by simpa[gp,Ke]using hd
  refine⟨h.defers,by simp[Act.put,h.size],?_⟩;intro u x hx;simp only[dq,look]at hx;simp only[Act.put];by_cases e:t=u
  ·subst e;simp at hx;subst hx;rw[Array.getElem?_setIfInBounds_self_of_lt (by rw[h.size];exact ht)]
  ·have hb:Nat.beq t u=false:=by
    cases hq:Nat.beq t u
    ·rfl
    ·exact absurd (Kb hq) e
   rw[hb]at hx;rw[Array.getElem?_setIfInBounds_ne e];exact h.slot u x hx
theorem Fr.keep{a:Act}{N:FN}{env:Env}(h:Fr a N env){keep:List Nat}{CU:Env}(e:mh keep env=CU):Fr a N CU:=by
 subst e;exact⟨h.defers,h.size,fun t v hv=>h.slot t v (xH hv)⟩
def Code.l:Code→Code
 | .seq a _=>a
 | .cond _ a _=>a
 | .block _ b=>b
 | .loop b=>b
 |_=> .skip
def Code.r:Code→Code
 | .seq _ b=>b
 | .cond _ _ b=>b
 |_=> .skip
def opsOf:Code→Array Oper
 | .region _ ops _=>ops
 |_=> #[]
inductive Kind where
 |seq|cond(x:Operand)|block(id:Nat)|loop|ret|skip|exit(id:Nat)|region(draw:Bool)|other
def kind:Code→Kind
 | .seq _ _=> .seq
 | .cond x _ _=> .cond x
 | .block id _=> .block id
 | .loop _=> .loop
 | .ret=> .ret
 | .skip=> .skip
 | .exit id=> .exit id
 | .region _ _ d=> .region d
 |_=> .other
def W(P:Program)(c:Code)(K:Act→World→Prop)(Q:Exit→Act→World→Prop)(a:Act)(w:World):Prop:=c.wp P (Exit.then K Q) a w
def KR(id:Nat)(K:Act→World→Prop)(Q:Exit→Act→World→Prop):Exit→Act→World→Prop
 | .exit Pt,a,w=>match Nat.beq Pt id with
  |true=>K a w
  |false=>Q (.exit Pt) a w
 |e,a,w=>Q e a w
section
variable {P : Program} {c : Code} {K : Act → World → Prop} {Q : Exit → Act → World → Prop} {a : Act} {w : World}
theorem ZS(hk:kind c= .seq)(h:W P (Code.l c) (fun a w=>W P (Code.r c) K Q a w) Q a w):W P c K Q a w:=by
 cases c<;>simp[kind]at hk
 ·refine wp_seq ?_;refine wp_mono h ?_;intro e a w he;cases e<;>exact he
theorem Qbl(hk:kind c= .skip)(h:K a w):W P c K Q a w:=by
 cases c<;>simp[kind]at hk
 ·exact wp_skip h
theorem Qeq(hk:kind c= .ret)(h:Q .ret a w):W P c K Q a w:=by
 cases c<;>simp[kind]at hk
 ·exact wp_ret h
theorem Qbm{id:Nat}(hk:kind c= .exit id)(h:Q (.exit id) a w):W P c K Q a w:=by
 cases c<;>simp[kind]at hk
 ·subst hk;exact wp_exit h
theorem Vp{id:Nat}(hk:kind c= .block id)(h:W P (Code.l c) K (KR id K Q) a w):W P c K Q a w:=by
 cases c<;>simp[kind]at hk
 ·subst hk;refine wp_block ?_;refine wp_mono h ?_;intro e a w he;cases e with
  |exit Pt=>
   rename_i id0 b;simp only[Exit.then,KR]at he;simp only[Exit.inBlock];split
   ·rename_i e;subst e;show K a w;simpa using he
   ·rename_i dt;have hb:Nat.beq Pt id0=false:=by
     cases hq:Nat.beq Pt id0
     ·rfl
     ·exact absurd (Kb hq) dt
    rw[hb]at he;exact he
  |_=>exact he
theorem HW{t:Nat}{N:FN}{env:Env}{B:Bool}(hk:kind c= .cond (.tmp t))(hF:Fr a N env)(hv:look env t=some (vB B))(ht:B=true→W P (Code.l c) K Q a w)(hf:B=false→W P (Code.r c) K Q a w):W P c K Q a w:=by
 cases c<;>simp[kind]at hk;subst hk;exact wp_cond_split (hF.ev (x:= .tmp t) hv) ht hf
theorem Qbn(hk:kind c= .loop)(I:Nat→Act→World→Prop){n:Nat}(h0:I n a w)(round:∀n a w,I n a w→W P (Code.l c) (fun a' w'=>∃m,m<n∧I m a' w') Q a w):W P c K Q a w:=by
 cases c<;>simp[kind]at hk;rename_i c;intro b k cs;have key:∀n a w,I n a w→∃e a' w',Exit.then K Q e a' w'∧Arrives P (lone (b.at a (.code c:: .inLoop c::k)) cs w) b k cs e a' w':=by
  intro n;induction n using Nat.strongRecOn with
  |_ n ih=>
   intro a w hI;obtain⟨e,xI,xJ,hq,EW⟩:=round n a w hI b (.inLoop c::k) cs;cases e with
   |normal=>
    obtain⟨m,eV,Qer⟩:=hq;obtain⟨QhM,QhN,QhO,Qes,Vq⟩:=ih m eV xI xJ Qer;exact⟨QhM,QhN,QhO,Qes,.of_steps (Steps.trans EW (.one step_inLoop)) Vq⟩
   |exit id=>exact⟨(.exit id),xI,xJ,(hq:Q (.exit id) xI xJ),.pass (x:= .inLoop c) rfl (fun _ _=> .inl sI) EW⟩
   |goto l=>exact⟨(.goto l),xI,xJ,(hq:Q (.goto l) xI xJ),.pass (x:= .inLoop c) rfl (fun _ _=> .inl sI) EW⟩
   |ret=>exact⟨.ret,xI,xJ,(hq:Q .ret xI xJ),.pass (x:= .inLoop c) rfl (fun _ _=> .inl sI) EW⟩
   |panic ch=>exact⟨(.panic ch),xI,xJ,(hq:Q (.panic ch) xI xJ),.pass (x:= .inLoop c) rfl (fun _ _=> .inl sI) EW⟩
   |outgrown=>exact⟨.outgrown,xI,xJ,(hq:Q .outgrown xI xJ),.pass (x:= .inLoop c) rfl (fun _ _=> .inl sI) EW⟩
 obtain⟨e,a',w',hq,EW⟩:=key n a w h0;exact⟨e,a',w',hq,.of_steps (.one step_loop) EW⟩
theorem Qbo{K':Act→World→Prop}{Q':Exit→Act→World→Prop}(h:W P c K Q a w)(hK:∀a w,K a w→K' a w)(hQ:∀e a w,Q e a w→Q' e a w):W P c K' Q' a w:=by
 refine wp_mono h ?_;intro e a w he;cases e;case normal=>exact hK _ _ he
 all_goals exact hQ _ _ _ he
end
def ax(c:Code)(k:Nat):Option (Option Nat×Op×Nat×Option (Nat×Bool)):=((opsOf c)[k]?).map fun o=>(o.dst,o.op,o.type,o.guard)
def bz(P:Program)(c:Code)(K:Act→World→Prop)(Q:Exit→Act→World→Prop)(k:Nat)(a:Act)(w:World):Prop:=wpList P (opsOf c) (Exit.then K Q) ((opsOf c).toList.drop k) a w
def bD(c:Code)(g:Option (Nat×Bool))(env:Env):Option Bool:=match g with
 |none=>some true
 |some (j,want)=>match((opsOf c)[j]?).bind (·.dst)with
  |some d=>match look env d with
   |some (.bool b)=>some (match b,want with|true,true=>true|false,false=>true|_,_=>false)
   |some (.tuple _)=>some false
   |_=>none
  |none=>none
section
variable {P : Program} {c : Code} {K : Act → World → Prop} {Q : Exit → Act → World → Prop} {a : Act} {w : World} {k : Nat} {N : FN} {env : Env}
theorem EX(hk:kind c= .region false)(h:bz P c K Q 0 a w):W P c K Q a w:=by
 cases c<;>simp[kind]at hk
 ·subst hk;refine wp_region_list ?_;exact h
theorem aL(hk:ax c k=none)(h:K a w):bz P c K Q k a w:=by
 have hl:(opsOf c).toList.drop k=[]:=by simp only[ax,PM]at hk;apply E6;simpa[Array.getElem?_eq_none_iff]using hk
 unfold bz;rw[hl];exact h
theorem CV{o:Oper}(hk:(opsOf c)[k]?=some o):(opsOf c).toList.drop k=o::(opsOf c).toList.drop (k+1):=by
 have h1:(opsOf c).toList[k]?=some o:=by simpa using hk
 obtain⟨eV,he⟩:=List.getElem?_eq_some_iff.1 h1;rw[Fb eV,he]
theorem th{g:Option (Nat×Bool)}{o:Oper}(hF:Fr a N env)(ho:o.guard=g){b:Bool}(hg:bD c g env=some b):Region.wanted o (yielded (opsOf c) a.tmps)=b:=by
 unfold Region.wanted;rw[ho];cases g with
 |none=>simp[bD]at hg;simp[hg]
 |some g=>
  obtain⟨j,want⟩:=g;simp only[bD]at hg;split at hg
  ·rename_i d hd;split at hg
   ·rename_i u hu;have:=hF.slot d _ hu;simp only[yielded,hd,Option.bind_some,this];injection hg with hg;subst hg;cases u<;>cases want<;>rfl
   ·rename_i u hu;have:=hF.slot d _ hu;simp only[yielded,hd,Option.bind_some,this];injection hg with hg
   ·cases hg
  ·cases hg
theorem CW{d:Option Nat}{op:Op}{ty:Nat}{g:Option (Nat×Bool)}(hk:ax c k=some (d,op,ty,g))(hF:Fr a N env)(hg:bD c g env=some true)(h:∀o:Oper,o.dst=d→o.op=op→o.type=ty→∀K':Act→World→Prop,(∀a' w',bz P c K Q (k+1) a' w'→K' a' w')→o.wp P a w K' (Exit.then K Q)):bz P c K Q k a w:=by
 unfold ax at hk;cases ho:(opsOf c)[k]? with
 |none=>rw[ho]at hk;cases hk
 |some o=>
  rw[ho]at hk;simp only[Fc,Kr,Qaq]at hk;obtain⟨h1,h2,h3,h4⟩:=hk;unfold bz;rw[CV ho];refine wpList_step fun K' Vr=> ?_
  rw[Kt (th hF h4 hg)];exact h o h1 h2 h3 K' Vr
theorem uG{d:Option Nat}{op:Op}{ty:Nat}{g:Option (Nat×Bool)}(hk:ax c k=some (d,op,ty,g))(hF:Fr a N env)(hg:bD c g env=some false)(h:bz P c K Q (k+1) (a.put d undef) w):bz P c K Q k a w:=by
 unfold ax at hk;cases ho:(opsOf c)[k]? with
 |none=>rw[ho]at hk;cases hk
 |some o=>
  rw[ho]at hk;simp only[Fc,Kr,Qaq]at hk;obtain⟨h1,h2,h3,h4⟩:=hk;subst h1;unfold bz;rw[CV ho];refine wpList_step fun K' Vr=> ?_
  rw[Ds (by rw[th hF h4 hg];simp)];exact Vr _ _ h
theorem ib{d:Option Nat}{op:Op}{ty:Nat}{g:Option (Nat×Bool)}(hk:ax c k=some (d,op,ty,g))(hF:Fr a N env)(hg:bD c g env=some true){v:Value}{w':World}(hr:∀o:Oper,o.op=op→o.type=ty→(execOp a.eval o).run P w= .ok (.value v) w')(h:bz P c K Q (k+1) (a.put d v) w'):bz P c K Q k a w:=by
 refine CW hk hF hg fun o h1 h2 h3 K' Vr=> ?_
 unfold Oper.wp;rw[hr o h2 h3,Oper.upon_value,h1];exact Vr _ _ h
theorem ni{d:Option Nat}{op:Op}{ty:Nat}{g:Option (Nat×Bool)}(hk:ax c k=some (d,op,ty,g))(hF:Fr a N env)(hg:bD c g env=some true){w':World}(hr:∀o:Oper,o.op=op→(execOp a.eval o).run P w= .ok .skip w')(h:bz P c K Q (k+1) (a.put d undef) w'):bz P c K Q k a w:=by
 refine CW hk hF hg fun o h1 h2 _ K' Vr=> ?_
 unfold Oper.wp;rw[hr o h2,Oper.upon_skip,h1];exact Vr _ _ h
end
end Go.Mor
