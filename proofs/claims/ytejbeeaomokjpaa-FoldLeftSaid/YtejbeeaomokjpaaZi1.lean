/-
  Texts of the proof, part 1.
-/
import Derived.WalkKit
import Derived.WalkSpells
import Derived.WalkLawsBesides
import Derived.KernelRfl
set_option maxRecDepth 10000
namespace Go.Mor
open Go.RowKit
abbrev vI(x:Int):Value:= .int .i64 x
abbrev vS(A:Option Addr)(n c:Nat):Value:= .slice A n c
abbrev vB(b:Bool):Value:= .bool b
abbrev vT(s:ByteArray):Value:= .string s
abbrev vP(a:Addr):Value:= .pointer (some a)
abbrev aZ(g:Nat):Addr:=⟨g,0,none⟩
abbrev aN(a:Addr)(i:Int)(k:Nat):Addr:=a.add (i.toNat*k)
theorem oM{p:Prop}(h:p:=by omega):p:=h
theorem kR{p:Prop}(h:p:=by kernel_rfl):p:=h
theorem dQ{p:Prop}(h:p:=by decide):p:=h
theorem sI{p:Prop}(h:p:=by simp):p:=h
theorem jb{p:Prop}(h:p→false=true):¬p:=fun x=>Bool.noConfusion (h x)
abbrev ar:=List Int
abbrev aX:=Option Addr
abbrev cV:=ByteArray
abbrev aW:=List Value
abbrev aq:Value:= .slice none 0 0
abbrev nA:Value:= .pointer none
abbrev ak(b o:Nat):Addr:=⟨b,o,none⟩
abbrev dx(x:ByteArray):Bool:=x.toList==(⟨#[]⟩:ByteArray).toList
abbrev vV:=@Array.getD_eq_getD_getElem?
abbrev sZ:=@Nat.eq_of_beq_eq_true
abbrev Qdg:=@Nat.blt_eq
abbrev QjQ:=@List.drop_eq_nil_of_le
abbrev QjH:=@List.drop_eq_getElem_cons
abbrev tl:=@Option.map_some
abbrev s9:=@Option.some.injEq
abbrev p5:=@Prod.mk.injEq
abbrev eh:=@if_pos
abbrev dd:=@if_neg
abbrev QcA:=@Nat.lt_or_ge
abbrev iO:=@Nat.le_refl
abbrev Qjn:=@List.Pairwise.nil
abbrev jT:=@List.mem_singleton
abbrev QcC:=@List.pairwise_singleton
abbrev cc:=@List.mem_of_getElem?
abbrev Qcs:=@List.pairwise_cons
abbrev zE:=@Nat.le_trans
abbrev gh:=@List.mem_append
abbrev QiU:=@List.pairwise_append
abbrev o0:=@List.mem_cons_self
abbrev en:=@List.mem_iff_getElem?
abbrev jF:=@List.mem_cons_of_mem
abbrev QiV:=@List.pairwise_iff_getElem
abbrev QiW:=@Nat.add_assoc
abbrev Qjg:=@List.eq_nil_of_length_eq_zero
abbrev ze:=@List.map_cons
abbrev xe:=@Go.run_underlying
abbrev vc:=@Go.Sem.run_bind
abbrev xf:=@Go.Result.andThen_ok
abbrev Qdu:=@Array.ext'
abbrev qC:=@List.length_cons
abbrev kj:=@List.take_succ_eq_append_getElem
abbrev QjK:=@List.take_set_of_le
abbrev ej:=@Bool.and_eq_true
abbrev Qjh:=@Nat.le_of_ble_eq_true
abbrev Qjo:=@Nat.eq_zero_or_pos
abbrev nL:=@Nat.zero_le
abbrev Qcv:=@if_false
abbrev Qdv:=@Go.Sem.run_pure
abbrev sy:=@Nat.mul_one
abbrev Qjp:=@List.map_toArray
abbrev QiX:=@List.map_nil
abbrev Qdx:=@Bool.not_eq_true'
abbrev Qi3:=@Bool.false_eq_true
abbrev dB:=@List.mem_map
abbrev ki:=@Int.toNat_natCast
abbrev xw:=@List.all_eq_true
abbrev ld:=@List.mem_range
abbrev Qjq:=@Nat.lt_trichotomy
abbrev Qi4:=@List.cons_append
abbrev iR:=@List.mem_cons
abbrev ph:=@List.mem_filter
abbrev Qcx:=@Option.getD_some
abbrev Qjr:=@Array.all_eq_true_iff_forall_mem
abbrev Qjs:=@Array.mem_toList_iff
abbrev Od:=@List.append_nil
abbrev Qcy:=@if_true
abbrev QiY:=@List.length_pos_of_mem
abbrev Qi5:=@List.filter_filter
abbrev QdG:=@List.filter_congr
abbrev Qji:=@List.length_filter_lt_length_iff_exists
abbrev I4:=@List.length_filter_le
abbrev uv:=@List.ext_getElem?
abbrev Qjt:=@List.eq_of_mem_replicate
abbrev QdX:=@List.length_replicate
abbrev Jf:=@true_and
abbrev Qct:=@List.length_take
abbrev pQ:=@Bool.or_eq_true
abbrev Qjj:=@List.any_eq_true
abbrev QjL:=@List.eraseIdx_cons_succ
abbrev QiZ:=@List.Perm.swap
abbrev Qju:=@Go.IntWalk.u64_in
abbrev Qjv:=@BitVec.eq_of_toNat_eq
abbrev Qjw:=@BitVec.toNat_ofNat
abbrev Qjx:=@Nat.mod_eq_of_lt
abbrev Qjk:=@Int.natCast_nonneg
abbrev QdH:=@List.map_set
abbrev QjM:=@List.mem_or_eq_of_mem_set
abbrev dF:=@decide_eq_true_eq
abbrev qB:=@List.mem_append_left
abbrev QcD:=@List.mem_append_right
abbrev Qi6:=@List.contains_eq_mem
abbrev Qjl:=@decide_eq_false_iff_not
abbrev QdI:=@List.getElem_mem
abbrev nS:=@List.take_of_length_le
abbrev Qi7:=@List.range_succ
abbrev uK:=@List.filter_append
abbrev lh:=@List.map_append
abbrev xH:=@List.filter_cons
abbrev Qjy:=@List.filter_nil
abbrev Qjz:=@Bool.not_eq_true
abbrev ep:=@List.length_map
abbrev QjA:=@List.mem_iff_getElem
abbrev QjN:=@List.filter_eq_self
abbrev QjB:=@List.drop_drop
abbrev vA:=@List.length_append
abbrev s5:=@List.append_assoc
abbrev QjO:=@Array.eq_empty_of_size_eq_zero
abbrev xC:=@List.mem_flatMap
abbrev rV:=@Nat.not_lt_zero
abbrev Qcz:=@Option.map_eq_some_iff
abbrev Qi9:=@Bool.eq_iff_iff
abbrev bl:=@beq_iff_eq
abbrev xD:=@false_and
abbrev Tc:=@and_true
abbrev rA:=@or_false
abbrev zF:=@false_or
abbrev Jo:=@true_or
abbrev xJ:=@ne_eq
abbrev Js:=@not_false_eq_true
abbrev Qcj:=@not_true_eq_false
abbrev D2:=@and_false
abbrev Qck:=@or_true
abbrev Tf:=@and_self
abbrev QdJ:=@List.replicate_succ
abbrev QcV:=@Nat.zero_add
abbrev Qee:=@Nat.succ_mul
abbrev Qe3:=@List.nil_append
abbrev Qja:=@List.set_cons_succ
abbrev Qjb:=@List.flatMap_append
abbrev ND:=@List.nodup_append
abbrev QfI:=@List.length_set
abbrev Qgu:=@List.take_append_drop
abbrev Qcl:=@List.take_length
abbrev Qcu:=@Nat.sub_self
abbrev QdT:=@List.set_append_right
abbrev Qds:=@List.length_range
abbrev Qi0:=@List.filter_sublist
abbrev Tg:=@Int.eq_ofNat_of_zero_le
abbrev u6:=@List.length_nil
abbrev xK:=@List.not_mem_nil
abbrev Qcg:=@Iff.rfl
abbrev QiN:=@List.nodup_cons
abbrev Qjc:=@List.cons.injEq
abbrev Qdc:=@List.map_congr_left
abbrev QjC:=@List.mem_take_iff_getElem
abbrev tc:=@Classical.not_not
abbrev QdW:=@Int.le_refl
abbrev QjD:=@List.mem_of_mem_take
abbrev Qi1:=@List.take_sublist
abbrev QiR:=@List.pairwise_map
abbrev Qjd:=@List.nodup_range
abbrev Qch:=@Int.toNat_of_nonneg
abbrev Qdt:=@List.mem_zipIdx_iff_getElem?
abbrev lK:=@List.map_map
abbrev QiS:=@List.filter_map
abbrev Qje:=@List.flatMap_map
abbrev D3:=@List.flatMap_cons
abbrev gS:=@of_decide_eq_true
abbrev kb:=@bne_iff_ne
abbrev QiT:=@List.foldl_append
abbrev QjE:=@Classical.byContradiction
abbrev Qjf:=@List.flatMap_def
abbrev Qcm:=@List.sum_cons
abbrev Qi2:=@List.length_eq_zero_iff
abbrev Qcn:=@List.foldl_cons
abbrev NI:=@decide_eq_true
abbrev Oc:=@decide_eq_false
abbrev iC:=@of_decide_eq_false
abbrev nF:=@Bool.eq_false_iff
abbrev dj:=@congrArg
abbrev QjG:=@Nat.lt_succ_iff_lt_or_eq
abbrev Env:=List (Nat×Value)
def look:Env→Nat→Option Value
 |[],_=>none
 |(k,v)::r,t=>match Nat.beq k t with
  |true=>some v
  |false=>look r t
def ev(env:Env):Operand→Option Value
 | .tmp t=>look env t
 | .const v=>some v
 | .global g=>some (vP (aZ g))
 | .func f=>some (.func (.func f) #[] #[])
structure FN where
 n:Nat
 D:List Deferred
instance (k : Nat) : OfNat FN k := ⟨⟨k, []⟩⟩
structure Fr(a:Act)(N:FN)(env:Env):Prop where
 defers:a.defers=N.D
 size:a.tmps.size=N.n
 slot:∀t v,look env t=some v→a.tmps[t]?=some v
theorem Fr.ev{a:Act}{N:FN}{env:Env}(h:Fr a N env){x:Operand}{v:Value}(hx:ev env x=some v):a.eval x=v:=by
 cases x with
 |tmp t=>have:=h.slot t v hx;simp[Act.eval,vV,this]
 |const u=>simp[Mor.ev]at hx;simp[Act.eval,hx]
 |global g=>simp[Mor.ev]at hx;simp[Act.eval,hx]
 |func f=>simp[Mor.ev]at hx;simp[Act.eval,hx]
def dE(env:Env)(d:Option Nat)(v:Value):Env:=match d with
 |some t=>(t,v)::env
 |none=>env
def iy(d:Option Nat)(N:FN):Bool:=match d with
 |some t=>Nat.blt t N.n
 |none=>true
def lx(keep:List Nat)(env:Env):Env:=match keep with
 |[]=>[]
 |t::r=>match look env t with
  |some v=>(t,v)::lx r env
  |none=>lx r env
theorem ui{keep:List Nat}{env:Env}{t:Nat}{v:Value}:look (lx keep env) t=some v→look env t=some v:=by
 induction keep with
 |nil=>intro h;simp[lx,look]at h
 |cons k r ih=>
  unfold lx;intro h;split at h
  ·rename_i u hu;unfold look at h;split at h
   ·rename_i hb;have:k=t:=sZ hb;subst this;injection h with h;subst h;exact hu
   ·exact ih h
  ·exact ih h
theorem Fr.put{a:Act}{N:FN}{env:Env}(h:Fr a N env){d:Option Nat}(hd:iy d N=true)(v:Value):Fr (a.put d v) N (dE env d v):=by
 cases d with
 |none=>exact h
 |some t=>
  have ht:t<N.n:=by simpa[iy,Qdg]using hd
  refine⟨h.defers,by simp[Act.put,h.size],?_⟩;intro u x hx;simp only[dE,look]at hx;simp only[Act.put];by_cases e:t=u
  ·subst e;simp at hx;subst hx;rw[Array.getElem?_setIfInBounds_self_of_lt (by rw[h.size];exact ht)]
  ·have hb:Nat.beq t u=false:=by
    cases hq:Nat.beq t u
    ·rfl
    ·exact absurd (sZ hq) e
   rw[hb]at hx;rw[Array.getElem?_setIfInBounds_ne e];exact h.slot u x hx
theorem Fr.keep{a:Act}{N:FN}{env:Env}(h:Fr a N env){keep:List Nat}{yf:Env}(e:lx keep env=yf):Fr a N yf:=by
 subst e;exact⟨h.defers,h.size,fun t v hv=>h.slot t v (ui hv)⟩
def Code.l:Code→Code
 | .seq a _=>a
 | .cond _ a _=>a
 | .block _ b=>b
 | .loop b=>b
 |_=> .skip
def Code.r:Code→Code
 | .seq _ b=>b
 | .cond _ _ b=>b
 |_=> .skip
def opsOf:Code→Array Oper
 | .region _ ops _=>ops
 |_=> #[]
inductive Kind where
 |seq|cond(x:Operand)|block(id:Nat)|loop|ret|skip|exit(id:Nat)|region(draw:Bool)|other
def kind:Code→Kind
 | .seq _ _=> .seq
 | .cond x _ _=> .cond x
 | .block id _=> .block id
 | .loop _=> .loop
 | .ret=> .ret
 | .skip=> .skip
 | .exit id=> .exit id
 | .region _ _ d=> .region d
 |_=> .other
def W(P:Program)(c:Code)(K:Act→World→Prop)(Q:Exit→Act→World→Prop)(a:Act)(w:World):Prop:=c.wp P (Exit.then K Q) a w
def Qt(id:Nat)(K:Act→World→Prop)(Q:Exit→Act→World→Prop):Exit→Act→World→Prop
 | .exit HG,a,w=>match Nat.beq HG id with
  |true=>K a w
  |false=>Q (.exit HG) a w
 |e,a,w=>Q e a w
section
variable {P : Program} {c : Code} {K : Act → World → Prop} {Q : Exit → Act → World → Prop} {a : Act} {w : World}
theorem Pq(hk:kind c= .seq)(h:W P (Code.l c) (fun a w=>W P (Code.r c) K Q a w) Q a w):W P c K Q a w:=by
 cases c<;>simp[kind]at hk
 ·refine wp_seq ?_;refine wp_mono h ?_;intro e a w he;cases e<;>exact he
theorem Qu(hk:kind c= .skip)(h:K a w):W P c K Q a w:=by
 cases c<;>simp[kind]at hk
 ·exact wp_skip h
theorem T2(hk:kind c= .ret)(h:Q .ret a w):W P c K Q a w:=by
 cases c<;>simp[kind]at hk
 ·exact wp_ret h
theorem Qv{id:Nat}(hk:kind c= .exit id)(h:Q (.exit id) a w):W P c K Q a w:=by
 cases c<;>simp[kind]at hk
 ·subst hk;exact wp_exit h
theorem Md{id:Nat}(hk:kind c= .block id)(h:W P (Code.l c) K (Qt id K Q) a w):W P c K Q a w:=by
 cases c<;>simp[kind]at hk
 ·subst hk;refine wp_block ?_;refine wp_mono h ?_;intro e a w he;cases e with
  |exit HG=>
   rename_i ek b;simp only[Exit.then,Qt]at he;simp only[Exit.inBlock];split
   ·rename_i e;subst e;show K a w;simpa using he
   ·rename_i cU;have hb:Nat.beq HG ek=false:=by
     cases hq:Nat.beq HG ek
     ·rfl
     ·exact absurd (sZ hq) cU
    rw[hb]at he;exact he
  |_=>exact he
theorem CC{t:Nat}{N:FN}{env:Env}{B:Bool}(hk:kind c= .cond (.tmp t))(hF:Fr a N env)(hv:look env t=some (vB B))(ht:B=true→W P (Code.l c) K Q a w)(hf:B=false→W P (Code.r c) K Q a w):W P c K Q a w:=by
 cases c<;>simp[kind]at hk;subst hk;exact wp_cond_split (hF.ev (x:= .tmp t) hv) ht hf
theorem Qw(hk:kind c= .loop)(I:Nat→Act→World→Prop){n:Nat}(h0:I n a w)(round:∀n a w,I n a w→W P (Code.l c) (fun a' w'=>∃m,m<n∧I m a' w') Q a w):W P c K Q a w:=by
 cases c<;>simp[kind]at hk;rename_i c;intro b k cs;have key:∀n a w,I n a w→∃e a' w',Exit.then K Q e a' w'∧Arrives P (lone (b.at a (.code c:: .inLoop c::k)) cs w) b k cs e a' w':=by
  intro n;induction n using Nat.strongRecOn with
  |_ n ih=>
   intro a w hI;obtain⟨e,uj,uk,hq,zX⟩:=round n a w hI b (.inLoop c::k) cs;cases e with
   |normal=>
    obtain⟨m,fm,T3⟩:=hq;obtain⟨Za,Zb,Zc,T4,Me⟩:=ih m fm uj uk T3;exact⟨Za,Zb,Zc,T4,.of_steps (Steps.trans zX (.one step_inLoop)) Me⟩
   |exit id=>exact⟨(.exit id),uj,uk,(hq:Q (.exit id) uj uk),.pass (x:= .inLoop c) rfl (fun _ _=> .inl sI) zX⟩
   |goto l=>exact⟨(.goto l),uj,uk,(hq:Q (.goto l) uj uk),.pass (x:= .inLoop c) rfl (fun _ _=> .inl sI) zX⟩
   |ret=>exact⟨.ret,uj,uk,(hq:Q .ret uj uk),.pass (x:= .inLoop c) rfl (fun _ _=> .inl sI) zX⟩
   |panic ch=>exact⟨(.panic ch),uj,uk,(hq:Q (.panic ch) uj uk),.pass (x:= .inLoop c) rfl (fun _ _=> .inl sI) zX⟩
   |outgrown=>exact⟨.outgrown,uj,uk,(hq:Q .outgrown uj uk),.pass (x:= .inLoop c) rfl (fun _ _=> .inl sI) zX⟩
 obtain⟨e,a',w',hq,zX⟩:=key n a w h0;exact⟨e,a',w',hq,.of_steps (.one step_loop) zX⟩
theorem Qx{K':Act→World→Prop}{Q':Exit→Act→World→Prop}(h:W P c K Q a w)(hK:∀a w,K a w→K' a w)(hQ:∀e a w,Q e a w→Q' e a w):W P c K' Q' a w:=by
 refine wp_mono h ?_;intro e a w he;cases e;case normal=>exact hK _ _ he
 all_goals exact hQ _ _ _ he
end
def ao(c:Code)(k:Nat):Option (Option Nat×Op×Nat×Option (Nat×Bool)):=((opsOf c)[k]?).map fun o=>(o.dst,o.op,o.type,o.guard)
def br(P:Program)(c:Code)(K:Act→World→Prop)(Q:Exit→Act→World→Prop)(k:Nat)(a:Act)(w:World):Prop:=wpList P (opsOf c) (Exit.then K Q) ((opsOf c).toList.drop k) a w
def bw(c:Code)(g:Option (Nat×Bool))(env:Env):Option Bool:=match g with
 |none=>some true
 |some (j,want)=>match((opsOf c)[j]?).bind (·.dst)with
  |some d=>match look env d with
   |some (.bool b)=>some (match b,want with|true,true=>true|false,false=>true|_,_=>false)
   |some (.tuple _)=>some false
   |_=>none
  |none=>none
section
variable {P : Program} {c : Code} {K : Act → World → Prop} {Q : Exit → Act → World → Prop} {a : Act} {w : World} {k : Nat} {N : FN} {env : Env}
theorem zY(hk:kind c= .region false)(h:br P c K Q 0 a w):W P c K Q a w:=by
 cases c<;>simp[kind]at hk
 ·subst hk;refine wp_region_list ?_;exact h
theorem aJ(hk:ao c k=none)(h:K a w):br P c K Q k a w:=by
 have hl:(opsOf c).toList.drop k=[]:=by simp only[ao,Option.map_eq_none_iff]at hk;apply QjQ;simpa[Array.getElem?_eq_none_iff]using hk
 unfold br;rw[hl];exact h
theorem yg{o:Oper}(hk:(opsOf c)[k]?=some o):(opsOf c).toList.drop k=o::(opsOf c).toList.drop (k+1):=by
 have h1:(opsOf c).toList[k]?=some o:=by simpa using hk
 obtain⟨fm,he⟩:=List.getElem?_eq_some_iff.1 h1;rw[QjH fm,he]
theorem q7{g:Option (Nat×Bool)}{o:Oper}(hF:Fr a N env)(ho:o.guard=g){b:Bool}(hg:bw c g env=some b):Region.wanted o (yielded (opsOf c) a.tmps)=b:=by
 unfold Region.wanted;rw[ho];cases g with
 |none=>simp[bw]at hg;simp[hg]
 |some g=>
  obtain⟨j,want⟩:=g;simp only[bw]at hg;split at hg
  ·rename_i d hd;split at hg
   ·rename_i u hu;have:=hF.slot d _ hu;simp only[yielded,hd,Option.bind_some,this];injection hg with hg;subst hg;cases u<;>cases want<;>rfl
   ·rename_i u hu;have:=hF.slot d _ hu;simp only[yielded,hd,Option.bind_some,this];injection hg with hg
   ·cases hg
  ·cases hg
theorem yh{d:Option Nat}{op:Op}{ty:Nat}{g:Option (Nat×Bool)}(hk:ao c k=some (d,op,ty,g))(hF:Fr a N env)(hg:bw c g env=some true)(h:∀o:Oper,o.dst=d→o.op=op→o.type=ty→∀K':Act→World→Prop,(∀a' w',br P c K Q (k+1) a' w'→K' a' w')→o.wp P a w K' (Exit.then K Q)):br P c K Q k a w:=by
 unfold ao at hk;cases ho:(opsOf c)[k]? with
 |none=>rw[ho]at hk;cases hk
 |some o=>
  rw[ho]at hk;simp only[tl,s9,p5]at hk;obtain⟨h1,h2,h3,h4⟩:=hk;unfold br;rw[yg ho];refine wpList_step fun K' Mf=> ?_
  rw[eh (q7 hF h4 hg)];exact h o h1 h2 h3 K' Mf
theorem r3{d:Option Nat}{op:Op}{ty:Nat}{g:Option (Nat×Bool)}(hk:ao c k=some (d,op,ty,g))(hF:Fr a N env)(hg:bw c g env=some false)(h:br P c K Q (k+1) (a.put d undef) w):br P c K Q k a w:=by
 unfold ao at hk;cases ho:(opsOf c)[k]? with
 |none=>rw[ho]at hk;cases hk
 |some o=>
  rw[ho]at hk;simp only[tl,s9,p5]at hk;obtain⟨h1,h2,h3,h4⟩:=hk;subst h1;unfold br;rw[yg ho];refine wpList_step fun K' Mf=> ?_
  rw[dd (by rw[q7 hF h4 hg];simp)];exact Mf _ _ h
theorem gX{d:Option Nat}{op:Op}{ty:Nat}{g:Option (Nat×Bool)}(hk:ao c k=some (d,op,ty,g))(hF:Fr a N env)(hg:bw c g env=some true){v:Value}{w':World}(hr:∀o:Oper,o.op=op→o.type=ty→(execOp a.eval o).run P w= .ok (.value v) w')(h:br P c K Q (k+1) (a.put d v) w'):br P c K Q k a w:=by
 refine yh hk hF hg fun o h1 h2 h3 K' Mf=> ?_
 unfold Oper.wp;rw[hr o h2 h3,Oper.upon_value,h1];exact Mf _ _ h
theorem oU{d:Option Nat}{op:Op}{ty:Nat}{g:Option (Nat×Bool)}(hk:ao c k=some (d,op,ty,g))(hF:Fr a N env)(hg:bw c g env=some true){w':World}(hr:∀o:Oper,o.op=op→(execOp a.eval o).run P w= .ok .skip w')(h:br P c K Q (k+1) (a.put d undef) w'):br P c K Q k a w:=by
 refine yh hk hF hg fun o h1 h2 _ K' Mf=> ?_
 unfold Oper.wp;rw[hr o h2,Oper.upon_skip,h1];exact Mf _ _ h
end
end Go.Mor
