/-
  Texts of the proof, part 1.
-/
import Derived.WalkKit
import Derived.WalkSpells
import Derived.WalkLawsBesides
import Derived.KernelRfl
set_option maxRecDepth 10000
open List
open List renaming length -> ae
namespace Go.Mor
open Go.RowKit
abbrev vI(x:Int):Value:= .int .i64 x
abbrev vS(A:Option Addr)(n c:Nat):Value:= .slice A n c
abbrev vB(b:Bool):Value:= .bool b
abbrev vT(s:ByteArray):Value:= .string s
abbrev vP(a:Addr):Value:= .pointer (some a)
abbrev aZ(g:Nat):Addr:=⟨g,0,none⟩
abbrev aN(a:Addr)(i:Int)(k:Nat):Addr:=a.add (i.toNat*k)
theorem oM{p:Prop}(h:p:=by omega):p:=h
theorem kR{p:Prop}(h:p:=by kernel_rfl):p:=h
theorem dQ{p:Prop}(h:p:=by decide):p:=h
theorem sI{p:Prop}(h:p:=by simp):p:=h
theorem mD{p:Prop}(h:p->false=true):¬p:=λx=>Bool.noConfusion (h x)
abbrev ah:=List Int
abbrev ar:=Option Addr
abbrev bo:=ByteArray
abbrev bh:=List Value
abbrev ay:Value:= .slice none 0 0
abbrev ta:Value:= .pointer none
abbrev aq(b o:Nat):Addr:=⟨b,o,none⟩
abbrev cg(nm:ByteArray)(wk:Bool)(pa va:Int)(A:Option Addr)(n c:Nat)(B:Option Addr)(m d:Nat):List Value:=[.string nm,.bool wk,.int .i64 pa,.int .i64 va,.slice A n c,.slice B m d]
abbrev fw(nm:ByteArray)(wk:Bool)(pa va:Int)(A:Option Addr)(n c:Nat):List Value:=[.string nm,.bool wk,.int .i64 pa,.int .i64 va,.slice A n c]
abbrev fa:List Value:=[.string ⟨#[]⟩,.bool false,.int .i64 0,.int .i64 0,.slice none 0 0]
abbrev fP(x:ByteArray):Bool:=x.toList==(⟨#[]⟩:ByteArray).toList
abbrev mH:=@Array.getD_eq_getD_getElem?
abbrev ko:=@Nat.eq_of_beq_eq_true
abbrev p6:=@Nat.blt_eq
abbrev VZ:=@Array.getElem?_setIfInBounds_self_of_lt
abbrev tw:=@Array.getElem?_setIfInBounds_ne
abbrev F7:=@List.drop_eq_nil_of_le
abbrev aW:=@List.getElem?_eq_some_iff
abbrev Ae:=@List.drop_eq_getElem_cons
abbrev ft:=@Option.map_some
abbrev eO:=@Option.some.injEq
abbrev dg:=@Prod.mk.injEq
abbrev ax:=@if_pos
abbrev ao:=@if_neg
abbrev ns:=@Nat.lt_or_ge
abbrev cH:=@Nat.le_refl
abbrev HK:=@List.Pairwise.nil
abbrev cF:=@List.mem_singleton
abbrev oh:=@List.pairwise_singleton
abbrev aI:=@List.mem_of_getElem?
abbrev l7:=@List.pairwise_cons
abbrev iz:=@Nat.le_trans
abbrev bV:=@List.mem_append
abbrev vU:=@List.pairwise_append
abbrev cK:=@List.mem_cons_self
abbrev bq:=@List.mem_iff_getElem?
abbrev kP:=@List.getElem?_set_self
abbrev jP:=@List.getElem?_set_ne
abbrev cr:=@List.mem_cons_of_mem
abbrev tx:=@List.pairwise_iff_getElem
abbrev dF:=@List.getElem?_eq_getElem
abbrev vV:=@Nat.add_assoc
abbrev y2:=@List.eq_nil_of_length_eq_zero
abbrev HL:=@Array.getElem?_modify
abbrev gu:=@List.map_cons
abbrev iM:=@Go.run_underlying
abbrev gG:=@Go.Sem.run_bind
abbrev ig:=@Go.Result.andThen_ok
abbrev o4:=@Array.ext'
abbrev HO:=@Go.run_loadCells_list
abbrev HQ:=@Go.IntWalk.i64_in
abbrev fh:=@List.length_cons
abbrev dh:=@List.take_succ_eq_append_getElem
abbrev NC:=@List.take_set_of_le
abbrev bu:=@Bool.and_eq_true
abbrev C4:=@Nat.le_of_ble_eq_true
abbrev C5:=@Nat.eq_zero_or_pos
abbrev cI:=@Nat.zero_le
abbrev mJ:=@if_false
abbrev o7:=@Go.Sem.run_pure
abbrev fx:=@Nat.mul_one
abbrev C8:=@List.map_toArray
abbrev qG:=@List.map_nil
abbrev oi:=@Bool.not_eq_true'
abbrev v8:=@Bool.false_eq_true
abbrev HV:=@Array.getElem?_append_left
abbrev aO:=@List.mem_map
abbrev cN:=@Int.toNat_natCast
abbrev tA:=@Array.getElem?_eq_some_iff
abbrev gQ:=@List.all_eq_true
abbrev dp:=@List.mem_range
abbrev HX:=@Nat.lt_trichotomy
abbrev y7:=@List.cons_append
abbrev cG:=@List.mem_cons
abbrev dY:=@List.mem_filter
abbrev nu:=@Option.getD_some
abbrev HY:=@Array.all_eq_true_iff_forall_mem
abbrev HZ:=@Array.mem_toList_iff
abbrev iq:=@List.append_nil
abbrev mM:=@if_true
abbrev y8:=@List.drop_zero
abbrev tB:=@List.length_pos_of_mem
abbrev y9:=@List.filter_filter
abbrev qH:=@List.filter_congr
abbrev De:=@List.length_filter_lt_length_iff_exists
abbrev H0:=@Array.getElem?_replicate
abbrev j6:=@List.length_filter_le
abbrev fM:=@List.ext_getElem?
abbrev H2:=@List.eq_of_mem_replicate
abbrev qI:=@List.length_replicate
abbrev jR:=@true_and
abbrev ja:=@List.length_take
abbrev dt:=@Bool.or_eq_true
abbrev Df:=@List.any_eq_true
abbrev NM:=@List.eraseIdx_cons_succ
abbrev we:=@List.Perm.swap
abbrev Dj:=@BitVec.eq_of_toNat_eq
abbrev H3:=@BitVec.toNat_ofNat
abbrev H4:=@Nat.mod_eq_of_lt
abbrev Dk:=@Int.natCast_nonneg
abbrev qL:=@List.map_set
abbrev H5:=@List.mem_or_eq_of_mem_set
abbrev zb:=@List.getElem?_drop
abbrev aU:=@decide_eq_true_eq
abbrev o9:=@List.getElem?_append_left
abbrev lJ:=@List.getElem?_append_right
abbrev db:=@List.getElem?_eq_none
abbrev ej:=@List.mem_append_left
abbrev kF:=@List.mem_append_right
abbrev zc:=@List.contains_eq_mem
abbrev Dq:=@decide_eq_false_iff_not
abbrev p7:=@List.getElem_mem
abbrev cL:=@List.take_of_length_le
abbrev oH:=@List.range_succ
abbrev e8:=@List.filter_append
abbrev bZ:=@List.map_append
abbrev gN:=@List.filter_cons
abbrev Ci:=@List.filter_nil
abbrev Cj:=@Bool.not_eq_true
abbrev bl:=@List.length_map
abbrev Ck:=@List.findIdx?_eq_some_iff_getElem
abbrev Cl:=@List.mem_iff_getElem
abbrev Ia:=@List.findIdx?_eq_none_iff
abbrev Ic:=@List.filter_eq_self
abbrev Cm:=@List.drop_drop
abbrev dG:=@List.length_append
abbrev aK:=@congrArg
abbrev dV:=@List.append_assoc
abbrev Ie:=@Array.eq_empty_of_size_eq_zero
abbrev fG:=@List.mem_flatMap
abbrev xG:=@Go.DataW.weights_mem_each
abbrev aL:=@List.getElem?_map
abbrev eL:=@Nat.not_lt_zero
abbrev jJ:=@Option.map_eq_some_iff
abbrev az:=@beq_iff_eq
abbrev Cn:=@Go.ByteArray.toList_eq
abbrev jn:=@false_and
abbrev lf:=@and_true
abbrev fH:=@or_false
abbrev j9:=@false_or
abbrev kI:=@true_or
abbrev jK:=@ne_eq
abbrev kJ:=@not_false_eq_true
abbrev lY:=@not_true_eq_false
abbrev ka:=@and_false
abbrev lZ:=@or_true
abbrev lg:=@and_self
abbrev p9:=@List.replicate_succ
abbrev xK:=@Nat.zero_mul
abbrev nK:=@Nat.zero_add
abbrev uP:=@Nat.succ_mul
abbrev qa:=@List.nil_append
abbrev Cq:=@List.set_cons_succ
abbrev qf:=@List.flatMap_append
abbrev qg:=@List.find?_eq_none
abbrev jL:=@List.nodup_append
abbrev lj:=@List.length_set
abbrev oI:=@List.take_append_drop
abbrev gC:=@List.take_length
abbrev l5:=@Nat.sub_self
abbrev qi:=@List.set_append_right
abbrev qj:=@List.length_range
abbrev xL:=@List.filter_sublist
abbrev lk:=@Int.eq_ofNat_of_zero_le
abbrev gX:=@List.length_nil
abbrev jt:=@List.not_mem_nil
abbrev ju:=@Iff.rfl
abbrev qk:=@List.nodup_cons
abbrev Cr:=@List.cons.injEq
abbrev nL:=@List.map_congr_left
abbrev Iq:=@List.mem_take_iff_getElem
abbrev nN:=@List.getElem?_range
abbrev fy:=@Classical.not_not
abbrev dv:=@Int.le_refl
abbrev Cu:=@List.mem_of_mem_take
abbrev xQ:=@List.take_sublist
abbrev uQ:=@List.getElem?_take_of_lt
abbrev xR:=@beq_eq_false_iff_ne
abbrev uR:=@List.pairwise_map
abbrev xU:=@List.nodup_range
abbrev jM:=@Int.toNat_of_nonneg
abbrev nP:=@List.mem_zipIdx_iff_getElem?
abbrev dz:=@List.map_map
abbrev uU:=@List.filter_map
abbrev CA:=@List.flatMap_map
abbrev iE:=@List.flatMap_cons
abbrev cf:=@of_decide_eq_true
abbrev CB:=@Bool.false_ne_true
abbrev cQ:=@bne_iff_ne
abbrev l6:=@List.getElem?_zipIdx
abbrev IM:=@Array.getElem?_toList
abbrev IP:=@Array.getElem?_eq_getElem
abbrev et:=@List.getD_eq_getElem?_getD
abbrev IT:=@List.sublist_append_right
abbrev IU:=@List.getElem?_zip_eq_some
abbrev sq:=@List.foldl_append
abbrev cD:=@of_decide_eq_false
abbrev qB:=@List.take_add_one
abbrev ym:=@Classical.byContradiction
abbrev CJ:=@List.flatMap_def
abbrev jN:=@List.sum_cons
abbrev CK:=@List.getElem?_inj
abbrev sC:=@List.length_eq_zero_iff
abbrev lG:=@List.foldl_cons
abbrev jO:=@decide_eq_true
abbrev kM:=@decide_eq_false
abbrev CM:=@List.flatMap_nil
abbrev yu:=@List.mem_replicate
abbrev dj:=@Bool.eq_false_iff
abbrev JW:=@Nat.lt_succ_iff_lt_or_eq
abbrev Env:=List (Nat×Value)
def look:Env->Nat->Option Value
 |[],_=>none
 |(k,v)::r,t=>match Nat.beq k t with
  |true=>some v
  |false=>look r t
def ev(env:Env):Operand->Option Value
 | .tmp t=>look env t
 | .const v=>some v
 | .global g=>some (vP (aZ g))
 | .func f=>some (.func (.func f) #[] #[])
structure FN where
 n:Nat
 D:List Deferred
instance (k : Nat) : OfNat FN k := ⟨⟨k, []⟩⟩
structure Fr(a:Act)(N:FN)(env:Env):Prop where
 defers:a.defers=N.D
 size:a.tmps.size=N.n
 slot:∀t v,look env t=some v->a.tmps[t]?=some v
theorem Fr.ev{a:Act}{N:FN}{env:Env}(h:Fr a N env){x:Operand}{v:Value}(hx:ev env x=some v):a.eval x=v:=by
 cases x with
 |tmp t=>have:=h.slot t v hx;simp[Act.eval,mH,this]
 |const u=>simp[Mor.ev]at hx;simp[Act.eval,hx]
 |global g=>simp[Mor.ev]at hx;simp[Act.eval,hx]
 |func f=>simp[Mor.ev]at hx;simp[Act.eval,hx]
def eJ(env:Env)(d:Option Nat)(v:Value):Env:=match d with
 |some t=>(t,v)::env
 |none=>env
def jW(d:Option Nat)(N:FN):Bool:=match d with
 |some t=>Nat.blt t N.n
 |none=>true
def p5(keep:List Nat)(env:Env):Env:=match keep with
 |[]=>[]
 |t::r=>match look env t with
  |some v=>(t,v)::p5 r env
  |none=>p5 r env
theorem CX{keep:List Nat}{env:Env}{t:Nat}{v:Value}:look (p5 keep env) t=some v->look env t=some v:=by
 induction keep with
 |nil=>intro h;simp[p5,look]at h
 |cons k r ih=>
  unfold p5;intro h;split at h
  ·rename_i u hu;unfold look at h;split at h
   ·rename_i hb;have:k=t:=ko hb;subst this;injection h with h;subst h;exact hu
   ·exact ih h
  ·exact ih h
theorem Fr.put{a:Act}{N:FN}{env:Env}(h:Fr a N env){d:Option Nat}(hd:jW d N=true)(v:Value):Fr (a.put d v) N (eJ env d v):=by
 cases d with
 |none=>exact h
 |some t=>
  have ht:t<N.n:=by simpa[jW,p6]using hd
  refine⟨h.defers,by simp[Act.put,h.size],?_⟩;intro u x hx;simp only[eJ,look]at hx;simp only[Act.put];by_cases e:t=u
  ·subst e;simp at hx;subst hx;rw[VZ (by rw[h.size];exact ht)]
  ·have hb:Nat.beq t u=false:=by
    cases hq:Nat.beq t u
    ·rfl
    ·exact absurd (ko hq) e
   rw[hb]at hx;rw[tw e];exact h.slot u x hx
theorem Fr.keep{a:Act}{N:FN}{env:Env}(h:Fr a N env){keep:List Nat}{HH:Env}(e:p5 keep env=HH):Fr a N HH:=by
 subst e;exact⟨h.defers,h.size,λt v hv=>h.slot t v (CX hv)⟩
def Code.l:Code->Code
 | .seq a _=>a
 | .cond _ a _=>a
 | .block _ b=>b
 | .loop b=>b
 |_=> .skip
def Code.r:Code->Code
 | .seq _ b=>b
 | .cond _ _ b=>b
 |_=> .skip
def opsOf:Code->Array Oper
 | .region _ ops _=>ops
 |_=> #[]
inductive Kind where
 |seq|cond(x:Operand)|block(id:Nat)|loop|ret|skip|exit(id:Nat)|region(draw:Bool)|other
def kind:Code->Kind
 | .seq _ _=> .seq
 | .cond x _ _=> .cond x
 | .block id _=> .block id
 | .loop _=> .loop
 | .ret=> .ret
 | .skip=> .skip
 | .exit id=> .exit id
 | .region _ _ d=> .region d
 |_=> .other
def W(P:Program)(c:Code)(K:Act->World->Prop)(Q:Exit->Act->World->Prop)(a:Act)(w:World):Prop:=c.wp P (Exit.then K Q) a w
def inB(id:Nat)(K:Act->World->Prop)(Q:Exit->Act->World->Prop):Exit->Act->World->Prop
 | .exit V0,a,w=>match Nat.beq V0 id with
  |true=>K a w
  |false=>Q (.exit V0) a w
 |e,a,w=>Q e a w
section
variable{P:Program}{c:Code}{K:Act -> World -> Prop}{Q:Exit -> Act -> World -> Prop}{a:Act}{w:World}
theorem Qe4(hk:kind c= .seq)(h:W P (Code.l c) (λa w=>W P (Code.r c) K Q a w) Q a w):W P c K Q a w:=by
 cases c<;>simp[kind]at hk
 ·refine wp_seq ?_;refine wp_mono h ?_;intro e a w he;cases e<;>exact he
theorem Qgn(hk:kind c= .skip)(h:K a w):W P c K Q a w:=by
 cases c<;>simp[kind]at hk
 ·exact wp_skip h
theorem Qjt(hk:kind c= .ret)(h:Q .ret a w):W P c K Q a w:=by
 cases c<;>simp[kind]at hk
 ·exact wp_ret h
theorem Qgo{id:Nat}(hk:kind c= .exit id)(h:Q (.exit id) a w):W P c K Q a w:=by
 cases c<;>simp[kind]at hk
 ·subst hk;exact wp_exit h
theorem Qbh{id:Nat}(hk:kind c= .block id)(h:W P (Code.l c) K (inB id K Q) a w):W P c K Q a w:=by
 cases c<;>simp[kind]at hk
 ·subst hk;refine wp_block ?_;refine wp_mono h ?_;intro e a w he;cases e with
  |exit V0=>
   rename_i id0 b;simp only[Exit.then,inB]at he;simp only[Exit.inBlock];split
   ·rename_i e;subst e;show K a w;simpa using he
   ·rename_i eC;have hb:Nat.beq V0 id0=false:=by
     cases hq:Nat.beq V0 id0
     ·rfl
     ·exact absurd (ko hq) eC
    rw[hb]at he;exact he
  |_=>exact he
theorem Nz{t:Nat}{N:FN}{env:Env}{B:Bool}(hk:kind c= .cond (.tmp t))(hF:Fr a N env)(hv:look env t=some (vB B))(ht:B=true->W P (Code.l c) K Q a w)(hf:B=false->W P (Code.r c) K Q a w):W P c K Q a w:=by
 cases c<;>simp[kind]at hk;subst hk;exact wp_cond_split (hF.ev (x:= .tmp t) hv) ht hf
theorem Qgp(hk:kind c= .loop)(I:Nat->Act->World->Prop){n:Nat}(h0:I n a w)(round:∀n a w,I n a w->W P (Code.l c) (λa' w'=>∃m,m<n/\I m a' w') Q a w):W P c K Q a w:=by
 cases c<;>simp[kind]at hk;rename_i c;intro b k cs;have key:∀n a w,I n a w->∃e a' w',Exit.then K Q e a' w'/\Arrives P (lone (b.at a (.code c:: .inLoop c::k)) cs w) b k cs e a' w':=by
  intro n;induction n using Nat.strongRecOn with
  |_ n ih=>
   intro a w hI;obtain⟨e,CY,CZ,hq,Kf⟩:=round n a w hI b (.inLoop c::k) cs;cases e with
   |normal=>
    obtain⟨m,ir,Qju⟩:=hq;obtain⟨QmO,QmP,QmQ,Qjv,Qbi⟩:=ih m ir CY CZ Qju;exact⟨QmO,QmP,QmQ,Qjv,.of_steps (Steps.trans Kf (.one step_inLoop)) Qbi⟩
   |exit id=>exact⟨(.exit id),CY,CZ,(hq:Q (.exit id) CY CZ),.pass (x:= .inLoop c) rfl (λ_ _=> .inl sI) Kf⟩
   |goto l=>exact⟨(.goto l),CY,CZ,(hq:Q (.goto l) CY CZ),.pass (x:= .inLoop c) rfl (λ_ _=> .inl sI) Kf⟩
   |ret=>exact⟨.ret,CY,CZ,(hq:Q .ret CY CZ),.pass (x:= .inLoop c) rfl (λ_ _=> .inl sI) Kf⟩
   |panic ch=>exact⟨(.panic ch),CY,CZ,(hq:Q (.panic ch) CY CZ),.pass (x:= .inLoop c) rfl (λ_ _=> .inl sI) Kf⟩
   |outgrown=>exact⟨.outgrown,CY,CZ,(hq:Q .outgrown CY CZ),.pass (x:= .inLoop c) rfl (λ_ _=> .inl sI) Kf⟩
 obtain⟨e,a',w',hq,Kf⟩:=key n a w h0;exact⟨e,a',w',hq,.of_steps (.one step_loop) Kf⟩
theorem Qgq{K':Act->World->Prop}{Q':Exit->Act->World->Prop}(h:W P c K Q a w)(hK:∀a w,K a w->K' a w)(hQ:∀e a w,Q e a w->Q' e a w):W P c K' Q' a w:=by
 refine wp_mono h ?_;intro e a w he;cases e;case normal=>exact hK _ _ he
 all_goals exact hQ _ _ _ he
end
def aB(c:Code)(k:Nat):Option (Option Nat×Op×Nat×Option (Nat×Bool)):=((opsOf c)[k]?).map λo=>(o.dst,o.op,o.type,o.guard)
def bL(P:Program)(c:Code)(K:Act->World->Prop)(Q:Exit->Act->World->Prop)(k:Nat)(a:Act)(w:World):Prop:=wpList P (opsOf c) (Exit.then K Q) ((opsOf c).toList.drop k) a w
def bU(c:Code)(g:Option (Nat×Bool))(env:Env):Option Bool:=match g with
 |none=>some true
 |some (j,want)=>match((opsOf c)[j]?).bind (·.dst)with
  |some d=>match look env d with
   |some (.bool b)=>some (match b,want with|true,true=>true|false,false=>true|_,_=>false)
   |some (.tuple _)=>some false
   |_=>none
  |none=>none
section
variable{P:Program}{c:Code}{K:Act -> World -> Prop}{Q:Exit -> Act -> World -> Prop}{a:Act}{w:World}{k:Nat}{N:FN}{env:Env}
theorem Kg(hk:kind c= .region false)(h:bL P c K Q 0 a w):W P c K Q a w:=by
 cases c<;>simp[kind]at hk
 ·subst hk;refine wp_region_list ?_;exact h
theorem aX(hk:aB c k=none)(h:K a w):bL P c K Q k a w:=by
 have hl:(opsOf c).toList.drop k=[]:=by simp only[aB,Option.map_eq_none_iff]at hk;apply F7;simpa[Array.getElem?_eq_none_iff]using hk
 unfold bL;rw[hl];exact h
theorem HI{o:Oper}(hk:(opsOf c)[k]?=some o):(opsOf c).toList.drop k=o::(opsOf c).toList.drop (k+1):=by
 have h1:(opsOf c).toList[k]?=some o:=by simpa using hk
 obtain⟨ir,he⟩:=aW.1 h1;rw[Ae ir,he]
theorem xz{g:Option (Nat×Bool)}{o:Oper}(hF:Fr a N env)(ho:o.guard=g){b:Bool}(hg:bU c g env=some b):Region.wanted o (yielded (opsOf c) a.tmps)=b:=by
 unfold Region.wanted;rw[ho];cases g with
 |none=>simp[bU]at hg;simp[hg]
 |some g=>
  obtain⟨j,want⟩:=g;simp only[bU]at hg;split at hg
  ·rename_i d hd;split at hg
   ·rename_i u hu;have:=hF.slot d _ hu;simp only[yielded,hd,Option.bind_some,this];injection hg with hg;subst hg;cases u<;>cases want<;>rfl
   ·rename_i u hu;have:=hF.slot d _ hu;simp only[yielded,hd,Option.bind_some,this];injection hg with hg
   ·cases hg
  ·cases hg
theorem HJ{d:Option Nat}{op:Op}{ty:Nat}{g:Option (Nat×Bool)}(hk:aB c k=some (d,op,ty,g))(hF:Fr a N env)(hg:bU c g env=some true)(h:∀o:Oper,o.dst=d->o.op=op->o.type=ty->∀K':Act->World->Prop,(∀a' w',bL P c K Q (k+1) a' w'->K' a' w')->o.wp P a w K' (Exit.then K Q)):bL P c K Q k a w:=by
 unfold aB at hk;cases ho:(opsOf c)[k]? with
 |none=>rw[ho]at hk;cases hk
 |some o=>
  rw[ho]at hk;simp only[ft,eO,dg]at hk;obtain⟨h1,h2,h3,h4⟩:=hk;unfold bL;rw[HI ho];refine wpList_step λK' hK'=> ?_
  rw[ax (xz hF h4 hg)];exact h o h1 h2 h3 K' hK'
theorem yY{d:Option Nat}{op:Op}{ty:Nat}{g:Option (Nat×Bool)}(hk:aB c k=some (d,op,ty,g))(hF:Fr a N env)(hg:bU c g env=some false)(h:bL P c K Q (k+1) (a.put d undef) w):bL P c K Q k a w:=by
 unfold aB at hk;cases ho:(opsOf c)[k]? with
 |none=>rw[ho]at hk;cases hk
 |some o=>
  rw[ho]at hk;simp only[ft,eO,dg]at hk;obtain⟨h1,h2,h3,h4⟩:=hk;subst h1;unfold bL;rw[HI ho];refine wpList_step λK' hK'=> ?_
  rw[ao (by rw[xz hF h4 hg];simp)];exact hK' _ _ h
theorem lP{d:Option Nat}{op:Op}{ty:Nat}{g:Option (Nat×Bool)}(hk:aB c k=some (d,op,ty,g))(hF:Fr a N env)(hg:bU c g env=some true){v:Value}{w':World}(hr:∀o:Oper,o.op=op->o.type=ty->(execOp a.eval o).run P w= .ok (.value v) w')(h:bL P c K Q (k+1) (a.put d v) w'):bL P c K Q k a w:=by
 refine HJ hk hF hg λo h1 h2 h3 K' hK'=> ?_
 unfold Oper.wp;rw[hr o h2 h3,Oper.upon_value,h1];exact hK' _ _ h
theorem qW{d:Option Nat}{op:Op}{ty:Nat}{g:Option (Nat×Bool)}(hk:aB c k=some (d,op,ty,g))(hF:Fr a N env)(hg:bU c g env=some true){w':World}(hr:∀o:Oper,o.op=op->(execOp a.eval o).run P w= .ok .skip w')(h:bL P c K Q (k+1) (a.put d undef) w'):bL P c K Q k a w:=by
 refine HJ hk hF hg λo h1 h2 _ K' hK'=> ?_
 unfold Oper.wp;rw[hr o h2,Oper.upon_skip,h1];exact hK' _ _ h
end
end Go.Mor
