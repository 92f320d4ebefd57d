/-
  Texts of the proof, part 1.
-/
import Derived.WalkKit
import Derived.WalkSpells
import Derived.WalkLawsBesides
import Derived.KernelRfl
set_option maxRecDepth 10000
namespace Go.Mor
open Go.RowKit
abbrev vI(x:Int):Value:= .int .i64 x
abbrev vS(A:Option Addr)(n c:Nat):Value:= .slice A n c
abbrev vB(b:Bool):Value:= .bool b
abbrev vT(s:ByteArray):Value:= .string s
abbrev vP(a:Addr):Value:= .pointer (some a)
abbrev aZ(g:Nat):Addr:=⟨g,0,none⟩
abbrev aN(a:Addr)(i:Int)(k:Nat):Addr:=a.add (i.toNat*k)
theorem oM{p:Prop}(h:p:=by omega):p:=h
theorem kR{p:Prop}(h:p:=by kernel_rfl):p:=h
theorem dQ{p:Prop}(h:p:=by decide):p:=h
theorem sI{p:Prop}(h:p:=by simp):p:=h
theorem jb{p:Prop}(h:p→false=true):¬p:=fun x=>Bool.noConfusion (h x)
abbrev ar:=List Int
abbrev aX:=Option Addr
abbrev cV:=ByteArray
abbrev aW:=List Value
abbrev aq:Value:= .slice none 0 0
abbrev nA:Value:= .pointer none
abbrev ak(b o:Nat):Addr:=⟨b,o,none⟩
abbrev dx(x:ByteArray):Bool:=x.toList==(⟨#[]⟩:ByteArray).toList
abbrev vV:=@Array.getD_eq_getD_getElem?
abbrev sZ:=@Nat.eq_of_beq_eq_true
abbrev Qgu:=@Nat.blt_eq
abbrev QdX:=@List.drop_eq_nil_of_le
abbrev QcV:=@List.drop_eq_getElem_cons
abbrev o4:=@Option.map_some
abbrev oo:=@Option.some.injEq
abbrev nB:=@Prod.mk.injEq
abbrev eh:=@if_pos
abbrev dd:=@if_neg
abbrev zE:=@Nat.lt_or_ge
abbrev jF:=@Nat.le_refl
abbrev Qcg:=@List.Pairwise.nil
abbrev jW:=@List.mem_singleton
abbrev zF:=@List.pairwise_singleton
abbrev cc:=@List.mem_of_getElem?
abbrev xH:=@List.pairwise_cons
abbrev s5:=@Nat.le_trans
abbrev gS:=@List.mem_append
abbrev Oc:=@List.pairwise_append
abbrev ld:=@List.mem_cons_self
abbrev ep:=@List.mem_iff_getElem?
abbrev iZ:=@List.mem_cons_of_mem
abbrev Od:=@List.pairwise_iff_getElem
abbrev Oe:=@Nat.add_assoc
abbrev Ym:=@List.eq_nil_of_length_eq_zero
abbrev sQ:=@List.map_cons
abbrev qB:=@Go.run_underlying
abbrev pQ:=@Go.Sem.run_bind
abbrev qC:=@Go.Result.andThen_ok
abbrev Dv:=@Array.ext'
abbrev nL:=@List.length_cons
abbrev ke:=@List.take_succ_eq_append_getElem
abbrev Qdt:=@List.take_set_of_le
abbrev ej:=@Bool.and_eq_true
abbrev YI:=@Nat.le_of_ble_eq_true
abbrev Qch:=@Nat.eq_zero_or_pos
abbrev lS:=@Nat.zero_le
abbrev xO:=@if_false
abbrev DF:=@Go.Sem.run_pure
abbrev nW:=@Nat.mul_one
abbrev Qcj:=@List.map_toArray
abbrev O9:=@List.map_nil
abbrev D2:=@Bool.not_eq_true'
abbrev SV:=@Bool.false_eq_true
abbrev dB:=@List.mem_map
abbrev kb:=@Int.toNat_natCast
abbrev rA:=@List.all_eq_true
abbrev ki:=@List.mem_range
abbrev Qck:=@Nat.lt_trichotomy
abbrev Tb:=@List.cons_append
abbrev jT:=@List.mem_cons
abbrev lK:=@List.mem_filter
abbrev yl:=@Option.getD_some
abbrev Qcl:=@Array.all_eq_true_iff_forall_mem
abbrev Qcm:=@Array.mem_toList_iff
abbrev vj:=@List.append_nil
abbrev ym:=@if_true
abbrev Pa:=@List.length_pos_of_mem
abbrev Tc:=@List.filter_filter
abbrev D3:=@List.filter_congr
abbrev YJ:=@List.length_filter_lt_length_iff_exists
abbrev uv:=@List.length_filter_le
abbrev ph:=@List.ext_getElem?
abbrev Qcn:=@List.eq_of_mem_replicate
abbrev KW:=@List.length_replicate
abbrev uK:=@true_and
abbrev xJ:=@List.length_take
abbrev nE:=@Bool.or_eq_true
abbrev YK:=@List.any_eq_true
abbrev Qdu:=@List.eraseIdx_cons_succ
abbrev Pc:=@List.Perm.swap
abbrev Qcs:=@Go.IntWalk.u64_in
abbrev Qct:=@BitVec.eq_of_toNat_eq
abbrev Qcu:=@BitVec.toNat_ofNat
abbrev Qcv:=@Nat.mod_eq_of_lt
abbrev YM:=@Int.natCast_nonneg
abbrev I4:=@List.map_set
abbrev Qdv:=@List.mem_or_eq_of_mem_set
abbrev dF:=@decide_eq_true_eq
abbrev nF:=@List.mem_append_left
abbrev zM:=@List.mem_append_right
abbrev Te:=@List.contains_eq_mem
abbrev Tf:=@decide_eq_false_iff_not
abbrev I5:=@List.getElem_mem
abbrev lh:=@List.take_of_length_le
abbrev Tg:=@List.range_succ
abbrev pq:=@List.filter_append
abbrev kj:=@List.map_append
abbrev sg:=@List.filter_cons
abbrev Qcx:=@List.filter_nil
abbrev Qcy:=@Bool.not_eq_true
abbrev gh:=@List.length_map
abbrev Qcz:=@List.mem_iff_getElem
abbrev QcA:=@List.filter_eq_self
abbrev QcB:=@List.drop_drop
abbrev p5:=@List.length_append
abbrev n3:=@List.append_assoc
abbrev Qdx:=@Array.eq_empty_of_size_eq_zero
abbrev rI:=@List.mem_flatMap
abbrev o0:=@Nat.not_lt_zero
abbrev ze:=@Option.map_eq_some_iff
abbrev bl:=@beq_iff_eq
abbrev rL:=@false_and
abbrev vk:=@and_true
abbrev nS:=@or_false
abbrev s9:=@false_or
abbrev u2:=@true_or
abbrev sx:=@ne_eq
abbrev u6:=@not_false_eq_true
abbrev xf:=@not_true_eq_false
abbrev tc:=@and_false
abbrev xw:=@or_true
abbrev vn:=@and_self
abbrev Jf:=@List.replicate_succ
abbrev BB:=@Nat.zero_add
abbrev LB:=@Nat.succ_mul
abbrev LC:=@List.nil_append
abbrev Xv:=@List.set_cons_succ
abbrev Xw:=@List.flatMap_append
abbrev vc:=@List.nodup_append
abbrev LD:=@List.length_set
abbrev LF:=@List.take_append_drop
abbrev xC:=@List.take_length
abbrev xK:=@Nat.sub_self
abbrev Jo:=@List.set_append_right
abbrev B5:=@List.length_range
abbrev PI:=@List.filter_sublist
abbrev vo:=@Int.eq_ofNat_of_zero_le
abbrev pt:=@List.length_nil
abbrev sy:=@List.not_mem_nil
abbrev vp:=@Iff.rfl
abbrev LQ:=@List.nodup_cons
abbrev XM:=@List.cons.injEq
abbrev BD:=@List.map_congr_left
abbrev QcC:=@List.mem_take_iff_getElem
abbrev pH:=@Classical.not_not
abbrev Js:=@Int.le_refl
abbrev QcD:=@List.mem_of_mem_take
abbrev PJ:=@List.take_sublist
abbrev Nn:=@List.pairwise_map
abbrev XN:=@List.nodup_range
abbrev vv:=@Int.toNat_of_nonneg
abbrev Ch:=@List.mem_zipIdx_iff_getElem?
abbrev k0:=@List.map_map
abbrev ND:=@List.filter_map
abbrev XO:=@List.flatMap_map
abbrev tl:=@List.flatMap_cons
abbrev iC:=@of_decide_eq_true
abbrev iR:=@bne_iff_ne
abbrev NI:=@List.foldl_append
abbrev XR:=@List.flatMap_def
abbrev xD:=@List.sum_cons
abbrev Rj:=@List.length_eq_zero_iff
abbrev vg:=@List.foldl_cons
abbrev sP:=@decide_eq_true
abbrev rX:=@decide_eq_false
abbrev iO:=@of_decide_eq_false
abbrev kk:=@Bool.eq_false_iff
abbrev dj:=@congrArg
abbrev Env:=List (Nat×Value)
def look:Env→Nat→Option Value
 |[],_=>none
 |(k,v)::r,t=>match Nat.beq k t with
  |true=>some v
  |false=>look r t
def ev(env:Env):Operand→Option Value
 | .tmp t=>look env t
 | .const v=>some v
 | .global g=>some (vP (aZ g))
 | .func f=>some (.func (.func f) #[] #[])
structure FN where
 n:Nat
 D:List Deferred
instance (k : Nat) : OfNat FN k := ⟨⟨k, []⟩⟩
structure Fr(a:Act)(N:FN)(env:Env):Prop where
 defers:a.defers=N.D
 size:a.tmps.size=N.n
 slot:∀t v,look env t=some v→a.tmps[t]?=some v
theorem Fr.ev{a:Act}{N:FN}{env:Env}(h:Fr a N env){x:Operand}{v:Value}(hx:ev env x=some v):a.eval x=v:=by
 cases x with
 |tmp t=>have:=h.slot t v hx;simp[Act.eval,vV,this]
 |const u=>simp[Mor.ev]at hx;simp[Act.eval,hx]
 |global g=>simp[Mor.ev]at hx;simp[Act.eval,hx]
 |func f=>simp[Mor.ev]at hx;simp[Act.eval,hx]
def dE(env:Env)(d:Option Nat)(v:Value):Env:=match d with
 |some t=>(t,v)::env
 |none=>env
def iy(d:Option Nat)(N:FN):Bool:=match d with
 |some t=>Nat.blt t N.n
 |none=>true
def lx(keep:List Nat)(env:Env):Env:=match keep with
 |[]=>[]
 |t::r=>match look env t with
  |some v=>(t,v)::lx r env
  |none=>lx r env
theorem ui{keep:List Nat}{env:Env}{t:Nat}{v:Value}:look (lx keep env) t=some v→look env t=some v:=by
 induction keep with
 |nil=>intro h;simp[lx,look]at h
 |cons k r ih=>
  unfold lx;intro h;split at h
  ·rename_i u hu;unfold look at h;split at h
   ·rename_i hb;have:k=t:=sZ hb;subst this;injection h with h;subst h;exact hu
   ·exact ih h
  ·exact ih h
theorem Fr.put{a:Act}{N:FN}{env:Env}(h:Fr a N env){d:Option Nat}(hd:iy d N=true)(v:Value):Fr (a.put d v) N (dE env d v):=by
 cases d with
 |none=>exact h
 |some t=>
  have ht:t<N.n:=by simpa[iy,Qgu]using hd
  refine⟨h.defers,by simp[Act.put,h.size],?_⟩;intro u x hx;simp only[dE,look]at hx;simp only[Act.put];by_cases e:t=u
  ·subst e;simp at hx;subst hx;rw[Array.getElem?_setIfInBounds_self_of_lt (by rw[h.size];exact ht)]
  ·have hb:Nat.beq t u=false:=by
    cases hq:Nat.beq t u
    ·rfl
    ·exact absurd (sZ hq) e
   rw[hb]at hx;rw[Array.getElem?_setIfInBounds_ne e];exact h.slot u x hx
theorem Fr.keep{a:Act}{N:FN}{env:Env}(h:Fr a N env){keep:List Nat}{yf:Env}(e:lx keep env=yf):Fr a N yf:=by
 subst e;exact⟨h.defers,h.size,fun t v hv=>h.slot t v (ui hv)⟩
def Code.l:Code→Code
 | .seq a _=>a
 | .cond _ a _=>a
 | .block _ b=>b
 | .loop b=>b
 |_=> .skip
def Code.r:Code→Code
 | .seq _ b=>b
 | .cond _ _ b=>b
 |_=> .skip
def opsOf:Code→Array Oper
 | .region _ ops _=>ops
 |_=> #[]
inductive Kind where
 |seq|cond(x:Operand)|block(id:Nat)|loop|ret|skip|exit(id:Nat)|region(draw:Bool)|other
def kind:Code→Kind
 | .seq _ _=> .seq
 | .cond x _ _=> .cond x
 | .block id _=> .block id
 | .loop _=> .loop
 | .ret=> .ret
 | .skip=> .skip
 | .exit id=> .exit id
 | .region _ _ d=> .region d
 |_=> .other
def W(P:Program)(c:Code)(K:Act→World→Prop)(Q:Exit→Act→World→Prop)(a:Act)(w:World):Prop:=c.wp P (Exit.then K Q) a w
def Qt(id:Nat)(K:Act→World→Prop)(Q:Exit→Act→World→Prop):Exit→Act→World→Prop
 | .exit HG,a,w=>match Nat.beq HG id with
  |true=>K a w
  |false=>Q (.exit HG) a w
 |e,a,w=>Q e a w
section
variable {P : Program} {c : Code} {K : Act → World → Prop} {Q : Exit → Act → World → Prop} {a : Act} {w : World}
theorem Pq(hk:kind c= .seq)(h:W P (Code.l c) (fun a w=>W P (Code.r c) K Q a w) Q a w):W P c K Q a w:=by
 cases c<;>simp[kind]at hk
 ·refine wp_seq ?_;refine wp_mono h ?_;intro e a w he;cases e<;>exact he
theorem Qu(hk:kind c= .skip)(h:K a w):W P c K Q a w:=by
 cases c<;>simp[kind]at hk
 ·exact wp_skip h
theorem T2(hk:kind c= .ret)(h:Q .ret a w):W P c K Q a w:=by
 cases c<;>simp[kind]at hk
 ·exact wp_ret h
theorem Qv{id:Nat}(hk:kind c= .exit id)(h:Q (.exit id) a w):W P c K Q a w:=by
 cases c<;>simp[kind]at hk
 ·subst hk;exact wp_exit h
theorem Md{id:Nat}(hk:kind c= .block id)(h:W P (Code.l c) K (Qt id K Q) a w):W P c K Q a w:=by
 cases c<;>simp[kind]at hk
 ·subst hk;refine wp_block ?_;refine wp_mono h ?_;intro e a w he;cases e with
  |exit HG=>
   rename_i ek b;simp only[Exit.then,Qt]at he;simp only[Exit.inBlock];split
   ·rename_i e;subst e;show K a w;simpa using he
   ·rename_i cU;have hb:Nat.beq HG ek=false:=by
     cases hq:Nat.beq HG ek
     ·rfl
     ·exact absurd (sZ hq) cU
    rw[hb]at he;exact he
  |_=>exact he
theorem CC{t:Nat}{N:FN}{env:Env}{B:Bool}(hk:kind c= .cond (.tmp t))(hF:Fr a N env)(hv:look env t=some (vB B))(ht:B=true→W P (Code.l c) K Q a w)(hf:B=false→W P (Code.r c) K Q a w):W P c K Q a w:=by
 cases c<;>simp[kind]at hk;subst hk;exact wp_cond_split (hF.ev (x:= .tmp t) hv) ht hf
theorem Qw(hk:kind c= .loop)(I:Nat→Act→World→Prop){n:Nat}(h0:I n a w)(round:∀n a w,I n a w→W P (Code.l c) (fun a' w'=>∃m,m<n∧I m a' w') Q a w):W P c K Q a w:=by
 cases c<;>simp[kind]at hk;rename_i c;intro b k cs;have key:∀n a w,I n a w→∃e a' w',Exit.then K Q e a' w'∧Arrives P (lone (b.at a (.code c:: .inLoop c::k)) cs w) b k cs e a' w':=by
  intro n;induction n using Nat.strongRecOn with
  |_ n ih=>
   intro a w hI;obtain⟨e,uj,uk,hq,zX⟩:=round n a w hI b (.inLoop c::k) cs;cases e with
   |normal=>
    obtain⟨m,fm,T3⟩:=hq;obtain⟨Za,Zb,Zc,T4,Me⟩:=ih m fm uj uk T3;exact⟨Za,Zb,Zc,T4,.of_steps (Steps.trans zX (.one step_inLoop)) Me⟩
   |exit id=>exact⟨(.exit id),uj,uk,(hq:Q (.exit id) uj uk),.pass (x:= .inLoop c) rfl (fun _ _=> .inl sI) zX⟩
   |goto l=>exact⟨(.goto l),uj,uk,(hq:Q (.goto l) uj uk),.pass (x:= .inLoop c) rfl (fun _ _=> .inl sI) zX⟩
   |ret=>exact⟨.ret,uj,uk,(hq:Q .ret uj uk),.pass (x:= .inLoop c) rfl (fun _ _=> .inl sI) zX⟩
   |panic ch=>exact⟨(.panic ch),uj,uk,(hq:Q (.panic ch) uj uk),.pass (x:= .inLoop c) rfl (fun _ _=> .inl sI) zX⟩
   |outgrown=>exact⟨.outgrown,uj,uk,(hq:Q .outgrown uj uk),.pass (x:= .inLoop c) rfl (fun _ _=> .inl sI) zX⟩
 obtain⟨e,a',w',hq,zX⟩:=key n a w h0;exact⟨e,a',w',hq,.of_steps (.one step_loop) zX⟩
theorem Qx{K':Act→World→Prop}{Q':Exit→Act→World→Prop}(h:W P c K Q a w)(hK:∀a w,K a w→K' a w)(hQ:∀e a w,Q e a w→Q' e a w):W P c K' Q' a w:=by
 refine wp_mono h ?_;intro e a w he;cases e;case normal=>exact hK _ _ he
 all_goals exact hQ _ _ _ he
end
def ao(c:Code)(k:Nat):Option (Option Nat×Op×Nat×Option (Nat×Bool)):=((opsOf c)[k]?).map fun o=>(o.dst,o.op,o.type,o.guard)
def br(P:Program)(c:Code)(K:Act→World→Prop)(Q:Exit→Act→World→Prop)(k:Nat)(a:Act)(w:World):Prop:=wpList P (opsOf c) (Exit.then K Q) ((opsOf c).toList.drop k) a w
def bw(c:Code)(g:Option (Nat×Bool))(env:Env):Option Bool:=match g with
 |none=>some true
 |some (j,want)=>match((opsOf c)[j]?).bind (·.dst)with
  |some d=>match look env d with
   |some (.bool b)=>some (match b,want with|true,true=>true|false,false=>true|_,_=>false)
   |some (.tuple _)=>some false
   |_=>none
  |none=>none
section
variable {P : Program} {c : Code} {K : Act → World → Prop} {Q : Exit → Act → World → Prop} {a : Act} {w : World} {k : Nat} {N : FN} {env : Env}
theorem zY(hk:kind c= .region false)(h:br P c K Q 0 a w):W P c K Q a w:=by
 cases c<;>simp[kind]at hk
 ·subst hk;refine wp_region_list ?_;exact h
theorem aJ(hk:ao c k=none)(h:K a w):br P c K Q k a w:=by
 have hl:(opsOf c).toList.drop k=[]:=by simp only[ao,Option.map_eq_none_iff]at hk;apply QdX;simpa[Array.getElem?_eq_none_iff]using hk
 unfold br;rw[hl];exact h
theorem yg{o:Oper}(hk:(opsOf c)[k]?=some o):(opsOf c).toList.drop k=o::(opsOf c).toList.drop (k+1):=by
 have h1:(opsOf c).toList[k]?=some o:=by simpa using hk
 obtain⟨fm,he⟩:=List.getElem?_eq_some_iff.1 h1;rw[QcV fm,he]
theorem q7{g:Option (Nat×Bool)}{o:Oper}(hF:Fr a N env)(ho:o.guard=g){b:Bool}(hg:bw c g env=some b):Region.wanted o (yielded (opsOf c) a.tmps)=b:=by
 unfold Region.wanted;rw[ho];cases g with
 |none=>simp[bw]at hg;simp[hg]
 |some g=>
  obtain⟨j,want⟩:=g;simp only[bw]at hg;split at hg
  ·rename_i d hd;split at hg
   ·rename_i u hu;have:=hF.slot d _ hu;simp only[yielded,hd,Option.bind_some,this];injection hg with hg;subst hg;cases u<;>cases want<;>rfl
   ·rename_i u hu;have:=hF.slot d _ hu;simp only[yielded,hd,Option.bind_some,this];injection hg with hg
   ·cases hg
  ·cases hg
theorem yh{d:Option Nat}{op:Op}{ty:Nat}{g:Option (Nat×Bool)}(hk:ao c k=some (d,op,ty,g))(hF:Fr a N env)(hg:bw c g env=some true)(h:∀o:Oper,o.dst=d→o.op=op→o.type=ty→∀K':Act→World→Prop,(∀a' w',br P c K Q (k+1) a' w'→K' a' w')→o.wp P a w K' (Exit.then K Q)):br P c K Q k a w:=by
 unfold ao at hk;cases ho:(opsOf c)[k]? with
 |none=>rw[ho]at hk;cases hk
 |some o=>
  rw[ho]at hk;simp only[o4,oo,nB]at hk;obtain⟨h1,h2,h3,h4⟩:=hk;unfold br;rw[yg ho];refine wpList_step fun K' Mf=> ?_
  rw[eh (q7 hF h4 hg)];exact h o h1 h2 h3 K' Mf
theorem r3{d:Option Nat}{op:Op}{ty:Nat}{g:Option (Nat×Bool)}(hk:ao c k=some (d,op,ty,g))(hF:Fr a N env)(hg:bw c g env=some false)(h:br P c K Q (k+1) (a.put d undef) w):br P c K Q k a w:=by
 unfold ao at hk;cases ho:(opsOf c)[k]? with
 |none=>rw[ho]at hk;cases hk
 |some o=>
  rw[ho]at hk;simp only[o4,oo,nB]at hk;obtain⟨h1,h2,h3,h4⟩:=hk;subst h1;unfold br;rw[yg ho];refine wpList_step fun K' Mf=> ?_
  rw[dd (by rw[q7 hF h4 hg];simp)];exact Mf _ _ h
theorem gX{d:Option Nat}{op:Op}{ty:Nat}{g:Option (Nat×Bool)}(hk:ao c k=some (d,op,ty,g))(hF:Fr a N env)(hg:bw c g env=some true){v:Value}{w':World}(hr:∀o:Oper,o.op=op→o.type=ty→(execOp a.eval o).run P w= .ok (.value v) w')(h:br P c K Q (k+1) (a.put d v) w'):br P c K Q k a w:=by
 refine yh hk hF hg fun o h1 h2 h3 K' Mf=> ?_
 unfold Oper.wp;rw[hr o h2 h3,Oper.upon_value,h1];exact Mf _ _ h
theorem oU{d:Option Nat}{op:Op}{ty:Nat}{g:Option (Nat×Bool)}(hk:ao c k=some (d,op,ty,g))(hF:Fr a N env)(hg:bw c g env=some true){w':World}(hr:∀o:Oper,o.op=op→(execOp a.eval o).run P w= .ok .skip w')(h:br P c K Q (k+1) (a.put d undef) w'):br P c K Q k a w:=by
 refine yh hk hF hg fun o h1 h2 _ K' Mf=> ?_
 unfold Oper.wp;rw[hr o h2,Oper.upon_skip,h1];exact Mf _ _ h
end
end Go.Mor
