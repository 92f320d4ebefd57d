/-
  Texts of the proof, part 1.
-/
import Derived.WalkKit
import Derived.WalkSpells
import Derived.WalkLawsBesides
import Derived.KernelRfl
set_option maxRecDepth 10000
namespace Go.Mor
open Go.RowKit
abbrev vI(x:Int):Value:= .int .i64 x
abbrev vS(A:Option Addr)(n c:Nat):Value:= .slice A n c
abbrev vB(b:Bool):Value:= .bool b
abbrev vT(s:ByteArray):Value:= .string s
abbrev vP(a:Addr):Value:= .pointer (some a)
abbrev aZ(g:Nat):Addr:=⟨g,0,none⟩
abbrev aN(a:Addr)(i:Int)(k:Nat):Addr:=a.add (i.toNat*k)
theorem oM{p:Prop}(h:p:=by omega):p:=h
theorem kR{p:Prop}(h:p:=by kernel_rfl):p:=h
theorem dQ{p:Prop}(h:p:=by decide):p:=h
theorem sI{p:Prop}(h:p:=by simp):p:=h
theorem jb{p:Prop}(h:p→false=true):¬p:=fun x=>Bool.noConfusion (h x)
abbrev ar:=List Int
abbrev aX:=Option Addr
abbrev cV:=ByteArray
abbrev aW:=List Value
abbrev aq:Value:= .slice none 0 0
abbrev nA:Value:= .pointer none
abbrev ak(b o:Nat):Addr:=⟨b,o,none⟩
abbrev Qp2(nm:ByteArray)(wk:Bool)(pa va:Int)(A:Option Addr)(n c:Nat)(B:Option Addr)(m d:Nat):List Value:=[.string nm,.bool wk,.int .i64 pa,.int .i64 va,.slice A n c,.slice B m d]
abbrev Qp6(nm:ByteArray)(wk:Bool)(pa va:Int)(A:Option Addr)(n c:Nat):List Value:=[.string nm,.bool wk,.int .i64 pa,.int .i64 va,.slice A n c]
abbrev Qp7:List Value:=[.string ⟨#[]⟩,.bool false,.int .i64 0,.int .i64 0,.slice none 0 0]
abbrev dx(x:ByteArray):Bool:=x.toList==(⟨#[]⟩:ByteArray).toList
abbrev vV:=@Array.getD_eq_getD_getElem?
abbrev sZ:=@Nat.eq_of_beq_eq_true
abbrev Qdg:=@Nat.blt_eq
abbrev QjQ:=@Option.map_eq_none_iff
abbrev QjH:=@List.drop_eq_nil_of_le
abbrev tl:=@List.drop_eq_getElem_cons
abbrev s9:=@Option.map_some
abbrev p5:=@Option.some.injEq
abbrev eh:=@Prod.mk.injEq
abbrev dd:=@if_pos
abbrev QcA:=@if_neg
abbrev iO:=@Nat.lt_or_ge
abbrev Qjn:=@Nat.le_refl
abbrev jT:=@List.Pairwise.nil
abbrev QcC:=@List.mem_singleton
abbrev cc:=@List.pairwise_singleton
abbrev Qcs:=@List.mem_of_getElem?
abbrev zE:=@List.pairwise_cons
abbrev pX:=@Nat.le_trans
abbrev QiU:=@List.mem_append
abbrev o0:=@List.pairwise_append
abbrev en:=@List.mem_cons_self
abbrev jF:=@List.mem_iff_getElem?
abbrev QiV:=@List.mem_cons_of_mem
abbrev QiW:=@List.pairwise_iff_getElem
abbrev Qjg:=@Nat.add_assoc
abbrev ze:=@List.eq_nil_of_length_eq_zero
abbrev lR:=@List.map_cons
abbrev vc:=@Go.run_underlying
abbrev xf:=@Go.Sem.run_bind
abbrev Qdu:=@Go.Result.andThen_ok
abbrev qC:=@Array.ext'
abbrev je:=@List.length_cons
abbrev QjK:=@List.take_succ_eq_append_getElem
abbrev ej:=@List.drop_set
abbrev Qjh:=@List.take_set_of_le
abbrev Qjo:=@Bool.and_eq_true
abbrev nL:=@Nat.le_of_ble_eq_true
abbrev Qcv:=@Nat.eq_zero_or_pos
abbrev Qdv:=@Nat.zero_le
abbrev sy:=@if_false
abbrev Qjp:=@Go.Sem.run_pure
abbrev QiX:=@Nat.mul_one
abbrev Qdx:=@List.map_toArray
abbrev Qi3:=@List.map_nil
abbrev dB:=@Bool.not_eq_true'
abbrev Qcr:=@Bool.false_eq_true
abbrev jd:=@List.mem_map
abbrev ld:=@Int.toNat_natCast
abbrev Qjq:=@List.all_eq_true
abbrev Qi4:=@List.mem_range
abbrev iR:=@Nat.lt_trichotomy
abbrev ph:=@List.cons_append
abbrev Qcx:=@List.mem_cons
abbrev Qjr:=@List.mem_filter
abbrev Qjs:=@Option.getD_some
abbrev Od:=@Array.all_eq_true_iff_forall_mem
abbrev Qcy:=@Array.mem_toList_iff
abbrev QiY:=@List.append_nil
abbrev Qi5:=@if_true
abbrev QdG:=@List.length_pos_of_mem
abbrev Qji:=@List.filter_filter
abbrev I4:=@List.filter_congr
abbrev uv:=@List.length_filter_lt_length_iff_exists
abbrev Qjt:=@List.length_filter_le
abbrev QdX:=@List.ext_getElem?
abbrev Jf:=@List.eq_of_mem_replicate
abbrev Qct:=@List.length_replicate
abbrev pQ:=@true_and
abbrev Qjj:=@Nat.mul_le_mul_right
abbrev QjL:=@List.length_take
abbrev QiZ:=@Bool.or_eq_true
abbrev Qju:=@List.any_eq_true
abbrev Qjv:=@List.eraseIdx_cons_succ
abbrev Qjw:=@List.Perm.swap
abbrev Qjx:=@Go.IntWalk.u64_in
abbrev Qjk:=@BitVec.eq_of_toNat_eq
abbrev QdH:=@BitVec.toNat_ofNat
abbrev QjM:=@Nat.mod_eq_of_lt
abbrev dF:=@Int.natCast_nonneg
abbrev qB:=@List.map_set
abbrev QcD:=@decide_eq_true_eq
abbrev Qi6:=@List.mem_append_left
abbrev Qjl:=@List.mem_append_right
abbrev QdI:=@List.contains_eq_mem
abbrev nS:=@decide_eq_false_iff_not
abbrev Qi7:=@List.getElem_mem
abbrev uK:=@List.take_of_length_le
abbrev lh:=@List.range_succ
abbrev xH:=@List.filter_append
abbrev Qjy:=@List.map_append
abbrev Qjz:=@List.filter_cons
abbrev ep:=@List.filter_nil
abbrev QjA:=@Bool.not_eq_true
abbrev QjN:=@List.length_map
abbrev QjB:=@List.any_append
abbrev vA:=@List.any_eq_false
abbrev s5:=@List.mem_iff_getElem
abbrev QjO:=@List.filter_eq_self
abbrev xC:=@List.drop_drop
abbrev rV:=@List.length_append
abbrev Qcz:=@List.length_singleton
abbrev Qi9:=@congrArg
abbrev bl:=@List.map_take
abbrev xD:=@List.append_assoc
abbrev Tc:=@Array.eq_empty_of_size_eq_zero
abbrev pZ:=@List.mem_flatMap
abbrev zF:=@Nat.not_lt_zero
abbrev Jo:=@Option.map_eq_some_iff
abbrev xJ:=@Bool.eq_iff_iff
abbrev Js:=@beq_iff_eq
abbrev Qcj:=@false_and
abbrev D2:=@and_true
abbrev Qck:=@or_false
abbrev Tf:=@false_or
abbrev QdJ:=@true_or
abbrev QcV:=@ne_eq
abbrev Qee:=@not_false_eq_true
abbrev Qe3:=@not_true_eq_false
abbrev Qja:=@and_false
abbrev Qjb:=@or_true
abbrev ND:=@and_self
abbrev QfI:=@List.replicate_succ
abbrev Qgu:=@Nat.zero_add
abbrev Qcl:=@Nat.succ_mul
abbrev Qcu:=@List.nil_append
abbrev QdT:=@List.set_cons_succ
abbrev Qds:=@Nat.min_eq_left
abbrev Qi0:=@List.flatMap_append
abbrev Tg:=@List.nodup_append
abbrev u6:=@List.length_set
abbrev xK:=@List.take_append_drop
abbrev Qcg:=@List.take_length
abbrev QiN:=@Nat.sub_self
abbrev Qjc:=@List.set_append_right
abbrev Qdc:=@List.length_range
abbrev QjC:=@List.filter_sublist
abbrev yA:=@Int.eq_ofNat_of_zero_le
abbrev QdW:=@List.length_nil
abbrev QjD:=@List.not_mem_nil
abbrev Qi1:=@Iff.rfl
abbrev QiR:=@List.nodup_cons
abbrev Qjd:=@List.cons.injEq
abbrev Qch:=@List.map_congr_left
abbrev Qdt:=@List.mem_take_iff_getElem
abbrev lK:=@Classical.not_not
abbrev QiS:=@Int.le_refl
abbrev Qje:=@List.mem_of_mem_take
abbrev D3:=@List.take_sublist
abbrev gS:=@List.pairwise_map
abbrev Qhq:=@List.nodup_range
abbrev QiT:=@Int.toNat_of_nonneg
abbrev QjE:=@List.nodup_iff_pairwise_ne
abbrev Qjf:=@List.take_zero
abbrev Qcm:=@List.length_filter_eq_length_iff
abbrev Qi2:=@List.mem_zipIdx_iff_getElem?
abbrev Qcn:=@List.map_map
abbrev NI:=@List.filter_map
abbrev Oc:=@List.flatMap_map
abbrev iC:=@List.flatMap_cons
abbrev nF:=@of_decide_eq_true
abbrev dj:=@bne_iff_ne
abbrev QjG:=@Array.toList_modify
abbrev Qf2:=@List.perm_middle
abbrev Qh3:=@List.sublist_append_right
abbrev Qf3:=@List.foldl_append
abbrev Qdr:=@List.Sublist.refl
abbrev Qdz:=@List.flatMap_def
abbrev B5:=@List.sum_cons
abbrev Qf5:=@List.length_eq_zero_iff
abbrev Qbi:=@List.map_id
abbrev Qfk:=@Bool.or_assoc
abbrev B2:=@decide_eq_true
abbrev iZ:=@of_decide_eq_false
abbrev Cm:=@decide_eq_false
abbrev lS:=@Bool.eq_false_iff
abbrev Env:=List (Nat×Value)
def look:Env→Nat→Option Value
 |[],_=>none
 |(k,v)::r,t=>match Nat.beq k t with
  |true=>some v
  |false=>look r t
def ev(env:Env):Operand→Option Value
 | .tmp t=>look env t
 | .const v=>some v
 | .global g=>some (vP (aZ g))
 | .func f=>some (.func (.func f) #[] #[])
structure FN where
 n:Nat
 D:List Deferred
instance (k : Nat) : OfNat FN k := ⟨⟨k, []⟩⟩
structure Fr(a:Act)(N:FN)(env:Env):Prop where
 defers:a.defers=N.D
 size:a.tmps.size=N.n
 slot:∀t v,look env t=some v→a.tmps[t]?=some v
theorem Fr.ev{a:Act}{N:FN}{env:Env}(h:Fr a N env){x:Operand}{v:Value}(hx:ev env x=some v):a.eval x=v:=by
 cases x with
 |tmp t=>have:=h.slot t v hx;simp[Act.eval,vV,this]
 |const u=>simp[Mor.ev]at hx;simp[Act.eval,hx]
 |global g=>simp[Mor.ev]at hx;simp[Act.eval,hx]
 |func f=>simp[Mor.ev]at hx;simp[Act.eval,hx]
def dE(env:Env)(d:Option Nat)(v:Value):Env:=match d with
 |some t=>(t,v)::env
 |none=>env
def iy(d:Option Nat)(N:FN):Bool:=match d with
 |some t=>Nat.blt t N.n
 |none=>true
def lx(keep:List Nat)(env:Env):Env:=match keep with
 |[]=>[]
 |t::r=>match look env t with
  |some v=>(t,v)::lx r env
  |none=>lx r env
theorem ui{keep:List Nat}{env:Env}{t:Nat}{v:Value}:look (lx keep env) t=some v→look env t=some v:=by
 induction keep with
 |nil=>intro h;simp[lx,look]at h
 |cons k r ih=>
  unfold lx;intro h;split at h
  ·rename_i u hu;unfold look at h;split at h
   ·rename_i hb;have:k=t:=sZ hb;subst this;injection h with h;subst h;exact hu
   ·exact ih h
  ·exact ih h
theorem Fr.put{a:Act}{N:FN}{env:Env}(h:Fr a N env){d:Option Nat}(hd:iy d N=true)(v:Value):Fr (a.put d v) N (dE env d v):=by
 cases d with
 |none=>exact h
 |some t=>
  have ht:t<N.n:=by simpa[iy,Qdg]using hd
  refine⟨h.defers,by simp[Act.put,h.size],?_⟩;intro u x hx;simp only[dE,look]at hx;simp only[Act.put];by_cases e:t=u
  ·subst e;simp at hx;subst hx;rw[Array.getElem?_setIfInBounds_self_of_lt (by rw[h.size];exact ht)]
  ·have hb:Nat.beq t u=false:=by
    cases hq:Nat.beq t u
    ·rfl
    ·exact absurd (sZ hq) e
   rw[hb]at hx;rw[Array.getElem?_setIfInBounds_ne e];exact h.slot u x hx
theorem Fr.keep{a:Act}{N:FN}{env:Env}(h:Fr a N env){keep:List Nat}{yf:Env}(e:lx keep env=yf):Fr a N yf:=by
 subst e;exact⟨h.defers,h.size,fun t v hv=>h.slot t v (ui hv)⟩
def Code.l:Code→Code
 | .seq a _=>a
 | .cond _ a _=>a
 | .block _ b=>b
 | .loop b=>b
 |_=> .skip
def Code.r:Code→Code
 | .seq _ b=>b
 | .cond _ _ b=>b
 |_=> .skip
def opsOf:Code→Array Oper
 | .region _ ops _=>ops
 |_=> #[]
inductive Kind where
 |seq|cond(x:Operand)|block(id:Nat)|loop|ret|skip|exit(id:Nat)|region(draw:Bool)|other
def kind:Code→Kind
 | .seq _ _=> .seq
 | .cond x _ _=> .cond x
 | .block id _=> .block id
 | .loop _=> .loop
 | .ret=> .ret
 | .skip=> .skip
 | .exit id=> .exit id
 | .region _ _ d=> .region d
 |_=> .other
def W(P:Program)(c:Code)(K:Act→World→Prop)(Q:Exit→Act→World→Prop)(a:Act)(w:World):Prop:=c.wp P (Exit.then K Q) a w
def Qt(id:Nat)(K:Act→World→Prop)(Q:Exit→Act→World→Prop):Exit→Act→World→Prop
 | .exit HG,a,w=>match Nat.beq HG id with
  |true=>K a w
  |false=>Q (.exit HG) a w
 |e,a,w=>Q e a w
section
variable {P : Program} {c : Code} {K : Act → World → Prop} {Q : Exit → Act → World → Prop} {a : Act} {w : World}
theorem Pq(hk:kind c= .seq)(h:W P (Code.l c) (fun a w=>W P (Code.r c) K Q a w) Q a w):W P c K Q a w:=by
 cases c<;>simp[kind]at hk
 ·refine wp_seq ?_;refine wp_mono h ?_;intro e a w he;cases e<;>exact he
theorem Qu(hk:kind c= .skip)(h:K a w):W P c K Q a w:=by
 cases c<;>simp[kind]at hk
 ·exact wp_skip h
theorem T2(hk:kind c= .ret)(h:Q .ret a w):W P c K Q a w:=by
 cases c<;>simp[kind]at hk
 ·exact wp_ret h
theorem Qv{id:Nat}(hk:kind c= .exit id)(h:Q (.exit id) a w):W P c K Q a w:=by
 cases c<;>simp[kind]at hk
 ·subst hk;exact wp_exit h
theorem Md{id:Nat}(hk:kind c= .block id)(h:W P (Code.l c) K (Qt id K Q) a w):W P c K Q a w:=by
 cases c<;>simp[kind]at hk
 ·subst hk;refine wp_block ?_;refine wp_mono h ?_;intro e a w he;cases e with
  |exit HG=>
   rename_i id0 b;simp only[Exit.then,Qt]at he;simp only[Exit.inBlock];split
   ·rename_i e;subst e;show K a w;simpa using he
   ·rename_i cU;have hb:Nat.beq HG id0=false:=by
     cases hq:Nat.beq HG id0
     ·rfl
     ·exact absurd (sZ hq) cU
    rw[hb]at he;exact he
  |_=>exact he
theorem CC{t:Nat}{N:FN}{env:Env}{B:Bool}(hk:kind c= .cond (.tmp t))(hF:Fr a N env)(hv:look env t=some (vB B))(ht:B=true→W P (Code.l c) K Q a w)(hf:B=false→W P (Code.r c) K Q a w):W P c K Q a w:=by
 cases c<;>simp[kind]at hk;subst hk;exact wp_cond_split (hF.ev (x:= .tmp t) hv) ht hf
theorem Qw(hk:kind c= .loop)(I:Nat→Act→World→Prop){n:Nat}(h0:I n a w)(round:∀n a w,I n a w→W P (Code.l c) (fun a' w'=>∃m,m<n∧I m a' w') Q a w):W P c K Q a w:=by
 cases c<;>simp[kind]at hk;rename_i c;intro b k cs;have key:∀n a w,I n a w→∃e a' w',Exit.then K Q e a' w'∧Arrives P (lone (b.at a (.code c:: .inLoop c::k)) cs w) b k cs e a' w':=by
  intro n;induction n using Nat.strongRecOn with
  |_ n ih=>
   intro a w hI;obtain⟨e,uj,uk,hq,zX⟩:=round n a w hI b (.inLoop c::k) cs;cases e with
   |normal=>
    obtain⟨m,fm,T3⟩:=hq;obtain⟨Za,Zb,Zc,T4,Me⟩:=ih m fm uj uk T3;exact⟨Za,Zb,Zc,T4,.of_steps (Steps.trans zX (.one step_inLoop)) Me⟩
   |exit id=>exact⟨(.exit id),uj,uk,(hq:Q (.exit id) uj uk),.pass (x:= .inLoop c) rfl (fun _ _=> .inl sI) zX⟩
   |goto l=>exact⟨(.goto l),uj,uk,(hq:Q (.goto l) uj uk),.pass (x:= .inLoop c) rfl (fun _ _=> .inl sI) zX⟩
   |ret=>exact⟨.ret,uj,uk,(hq:Q .ret uj uk),.pass (x:= .inLoop c) rfl (fun _ _=> .inl sI) zX⟩
   |panic ch=>exact⟨(.panic ch),uj,uk,(hq:Q (.panic ch) uj uk),.pass (x:= .inLoop c) rfl (fun _ _=> .inl sI) zX⟩
   |outgrown=>exact⟨.outgrown,uj,uk,(hq:Q .outgrown uj uk),.pass (x:= .inLoop c) rfl (fun _ _=> .inl sI) zX⟩
 obtain⟨e,a',w',hq,zX⟩:=key n a w h0;exact⟨e,a',w',hq,.of_steps (.one step_loop) zX⟩
theorem Qx{K':Act→World→Prop}{Q':Exit→Act→World→Prop}(h:W P c K Q a w)(hK:∀a w,K a w→K' a w)(hQ:∀e a w,Q e a w→Q' e a w):W P c K' Q' a w:=by
 refine wp_mono h ?_;intro e a w he;cases e;case normal=>exact hK _ _ he
 all_goals exact hQ _ _ _ he
end
def ao(c:Code)(k:Nat):Option (Option Nat×Op×Nat×Option (Nat×Bool)):=((opsOf c)[k]?).map fun o=>(o.dst,o.op,o.type,o.guard)
def br(P:Program)(c:Code)(K:Act→World→Prop)(Q:Exit→Act→World→Prop)(k:Nat)(a:Act)(w:World):Prop:=wpList P (opsOf c) (Exit.then K Q) ((opsOf c).toList.drop k) a w
def bw(c:Code)(g:Option (Nat×Bool))(env:Env):Option Bool:=match g with
 |none=>some true
 |some (j,want)=>match((opsOf c)[j]?).bind (·.dst)with
  |some d=>match look env d with
   |some (.bool b)=>some (match b,want with|true,true=>true|false,false=>true|_,_=>false)
   |some (.tuple _)=>some false
   |_=>none
  |none=>none
section
variable {P : Program} {c : Code} {K : Act → World → Prop} {Q : Exit → Act → World → Prop} {a : Act} {w : World} {k : Nat} {N : FN} {env : Env}
theorem zY(hk:kind c= .region false)(h:br P c K Q 0 a w):W P c K Q a w:=by
 cases c<;>simp[kind]at hk
 ·subst hk;refine wp_region_list ?_;exact h
theorem aJ(hk:ao c k=none)(h:K a w):br P c K Q k a w:=by
 have hl:(opsOf c).toList.drop k=[]:=by simp only[ao,QjQ]at hk;apply QjH;simpa[Array.getElem?_eq_none_iff]using hk
 unfold br;rw[hl];exact h
theorem yg{o:Oper}(hk:(opsOf c)[k]?=some o):(opsOf c).toList.drop k=o::(opsOf c).toList.drop (k+1):=by
 have h1:(opsOf c).toList[k]?=some o:=by simpa using hk
 obtain⟨fm,he⟩:=List.getElem?_eq_some_iff.1 h1;rw[tl fm,he]
theorem q7{g:Option (Nat×Bool)}{o:Oper}(hF:Fr a N env)(ho:o.guard=g){b:Bool}(hg:bw c g env=some b):Region.wanted o (yielded (opsOf c) a.tmps)=b:=by
 unfold Region.wanted;rw[ho];cases g with
 |none=>simp[bw]at hg;simp[hg]
 |some g=>
  obtain⟨j,want⟩:=g;simp only[bw]at hg;split at hg
  ·rename_i d hd;split at hg
   ·rename_i u hu;have:=hF.slot d _ hu;simp only[yielded,hd,Option.bind_some,this];injection hg with hg;subst hg;cases u<;>cases want<;>rfl
   ·rename_i u hu;have:=hF.slot d _ hu;simp only[yielded,hd,Option.bind_some,this];injection hg with hg
   ·cases hg
  ·cases hg
theorem yh{d:Option Nat}{op:Op}{ty:Nat}{g:Option (Nat×Bool)}(hk:ao c k=some (d,op,ty,g))(hF:Fr a N env)(hg:bw c g env=some true)(h:∀o:Oper,o.dst=d→o.op=op→o.type=ty→∀K':Act→World→Prop,(∀a' w',br P c K Q (k+1) a' w'→K' a' w')→o.wp P a w K' (Exit.then K Q)):br P c K Q k a w:=by
 unfold ao at hk;cases ho:(opsOf c)[k]? with
 |none=>rw[ho]at hk;cases hk
 |some o=>
  rw[ho]at hk;simp only[s9,p5,eh]at hk;obtain⟨h1,h2,h3,h4⟩:=hk;unfold br;rw[yg ho];refine wpList_step fun K' Mf=> ?_
  rw[dd (q7 hF h4 hg)];exact h o h1 h2 h3 K' Mf
theorem r3{d:Option Nat}{op:Op}{ty:Nat}{g:Option (Nat×Bool)}(hk:ao c k=some (d,op,ty,g))(hF:Fr a N env)(hg:bw c g env=some false)(h:br P c K Q (k+1) (a.put d undef) w):br P c K Q k a w:=by
 unfold ao at hk;cases ho:(opsOf c)[k]? with
 |none=>rw[ho]at hk;cases hk
 |some o=>
  rw[ho]at hk;simp only[s9,p5,eh]at hk;obtain⟨h1,h2,h3,h4⟩:=hk;subst h1;unfold br;rw[yg ho];refine wpList_step fun K' Mf=> ?_
  rw[QcA (by rw[q7 hF h4 hg];simp)];exact Mf _ _ h
theorem gX{d:Option Nat}{op:Op}{ty:Nat}{g:Option (Nat×Bool)}(hk:ao c k=some (d,op,ty,g))(hF:Fr a N env)(hg:bw c g env=some true){v:Value}{w':World}(hr:∀o:Oper,o.op=op→o.type=ty→(execOp a.eval o).run P w= .ok (.value v) w')(h:br P c K Q (k+1) (a.put d v) w'):br P c K Q k a w:=by
 refine yh hk hF hg fun o h1 h2 h3 K' Mf=> ?_
 unfold Oper.wp;rw[hr o h2 h3,Oper.upon_value,h1];exact Mf _ _ h
theorem oU{d:Option Nat}{op:Op}{ty:Nat}{g:Option (Nat×Bool)}(hk:ao c k=some (d,op,ty,g))(hF:Fr a N env)(hg:bw c g env=some true){w':World}(hr:∀o:Oper,o.op=op→(execOp a.eval o).run P w= .ok .skip w')(h:br P c K Q (k+1) (a.put d undef) w'):br P c K Q k a w:=by
 refine yh hk hF hg fun o h1 h2 _ K' Mf=> ?_
 unfold Oper.wp;rw[hr o h2,Oper.upon_skip,h1];exact Mf _ _ h
end
end Go.Mor
