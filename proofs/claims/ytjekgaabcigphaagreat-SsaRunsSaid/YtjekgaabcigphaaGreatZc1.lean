/-
  Texts of the proof, part 1.
-/
import Derived.WalkKit
import Derived.WalkSpells
import Derived.WalkLawsBesides
import Derived.KernelRfl
set_option maxRecDepth 10000
namespace Go.Mor
open Go.RowKit
abbrev vI(x:Int):Value:= .int .i64 x
abbrev vS(A:Option Addr)(n c:Nat):Value:= .slice A n c
abbrev vB(b:Bool):Value:= .bool b
abbrev vT(s:ByteArray):Value:= .string s
abbrev vP(a:Addr):Value:= .pointer (some a)
abbrev aZ(g:Nat):Addr:=⟨g,0,none⟩
abbrev aN(a:Addr)(i:Int)(k:Nat):Addr:=a.add (i.toNat*k)
theorem oM{p:Prop}(h:p:=by omega):p:=h
theorem kR{p:Prop}(h:p:=by kernel_rfl):p:=h
theorem dQ{p:Prop}(h:p:=by decide):p:=h
theorem sI{p:Prop}(h:p:=by simp):p:=h
theorem jv{p:Prop}(h:p→false=true):¬p:=fun x=>Bool.noConfusion (h x)
abbrev af:=List Int
abbrev ao:=Option Addr
abbrev aM:=ByteArray
abbrev aO:=List Value
abbrev ag:Value:= .slice none 0 0
abbrev sE:Value:= .pointer none
abbrev ah(b o:Nat):Addr:=⟨b,o,none⟩
abbrev eH(x:ByteArray):Bool:=x.toList==(⟨#[]⟩:ByteArray).toList
abbrev lg:=@Array.getD_eq_getD_getElem?
abbrev iq:=@Nat.eq_of_beq_eq_true
abbrev pW:=@Nat.blt_eq
abbrev P1:=@Option.map_eq_none_iff
abbrev tE:=@List.drop_eq_nil_of_le
abbrev sm:=@List.drop_eq_getElem_cons
abbrev gC:=@Option.map_some
abbrev cP:=@Option.some.injEq
abbrev cF:=@Prod.mk.injEq
abbrev bC:=@if_pos
abbrev aB:=@if_neg
abbrev pe:=@Nat.lt_or_ge
abbrev cB:=@Nat.le_refl
abbrev cI:=@List.mem_singleton
abbrev jM:=@List.pairwise_singleton
abbrev bu:=@List.mem_of_getElem?
abbrev ln:=@List.pairwise_cons
abbrev iv:=@Nat.le_trans
abbrev bX:=@List.mem_append
abbrev sH:=@List.pairwise_append
abbrev cJ:=@List.mem_cons_self
abbrev dv:=@List.mem_iff_getElem?
abbrev bT:=@List.mem_cons_of_mem
abbrev qx:=@List.pairwise_iff_getElem
abbrev pf:=@Nat.add_assoc
abbrev qy:=@List.eq_nil_of_length_eq_zero
abbrev ga:=@List.map_cons
abbrev eY:=@Go.run_underlying
abbrev cT:=@Go.Sem.run_bind
abbrev dz:=@Go.Result.andThen_ok
abbrev iO:=@Array.ext'
abbrev yI:=@Go.IntWalk.i64_in
abbrev eZ:=@List.length_cons
abbrev fO:=@List.take_succ_eq_append_getElem
abbrev Dp:=@List.take_set_of_le
abbrev bo:=@Bool.and_eq_true
abbrev sL:=@Nat.le_of_ble_eq_true
abbrev Dq:=@Nat.eq_zero_or_pos
abbrev cf:=@Nat.zero_le
abbrev iP:=@if_false
abbrev jO:=@Go.Sem.run_pure
abbrev eE:=@Nat.mul_one
abbrev qB:=@List.map_toArray
abbrev kc:=@List.map_nil
abbrev jP:=@Bool.not_eq_true'
abbrev m4:=@Bool.false_eq_true
abbrev bD:=@List.mem_map
abbrev cZ:=@Int.toNat_natCast
abbrev fW:=@List.all_eq_true
abbrev ew:=@List.mem_range
abbrev yO:=@List.cons_append
abbrev db:=@List.mem_cons
abbrev Ds:=@List.mem_filterMap
abbrev e8:=@List.mem_filter
abbrev kK:=@Option.getD_some
abbrev Dt:=@Array.all_eq_true_iff_forall_mem
abbrev Du:=@Array.mem_toList_iff
abbrev mm:=@List.append_nil
abbrev mn:=@if_true
abbrev Dx:=@List.drop_zero
abbrev Io:=@List.length_pos_of_mem
abbrev vc:=@List.filter_filter
abbrev qF:=@List.filter_congr
abbrev yS:=@List.length_filter_lt_length_iff_exists
abbrev m5:=@List.length_filter_le
abbrev kg:=@List.ext_getElem?
abbrev Dy:=@List.eq_of_mem_replicate
abbrev Dz:=@List.length_replicate
abbrev gP:=@true_and
abbrev mq:=@List.length_take
abbrev cg:=@Bool.or_eq_true
abbrev yT:=@List.any_eq_true
abbrev yV:=@BitVec.eq_of_toNat_eq
abbrev DB:=@BitVec.toNat_ofNat
abbrev DD:=@Nat.mod_eq_of_lt
abbrev yW:=@Int.natCast_nonneg
abbrev po:=@List.map_set
abbrev Iv:=@List.mem_or_eq_of_mem_set
abbrev vh:=@Nat.mod_lt
abbrev aE:=@decide_eq_true_eq
abbrev dG:=@List.mem_append_left
abbrev iR:=@List.mem_append_right
abbrev Ix:=@List.contains_eq_mem
abbrev qH:=@List.getElem_mem
abbrev kh:=@List.take_of_length_le
abbrev y4:=@Bool.true_and
abbrev sS:=@List.range_succ
abbrev ly:=@List.filter_append
abbrev di:=@List.map_append
abbrev qL:=@Bool.not_eq_true
abbrev fi:=@List.length_map
abbrev DF:=@List.mem_iff_getElem
abbrev Iy:=@List.filter_eq_self
abbrev DH:=@List.drop_drop
abbrev fz:=@List.length_append
abbrev bE:=@congrArg
abbrev en:=@List.append_assoc
abbrev DI:=@Array.eq_empty_of_size_eq_zero
abbrev jl:=@List.mem_flatMap
abbrev sU:=@Go.DataW.weights_mem_each
abbrev ee:=@Nat.not_lt_zero
abbrev jy:=@Option.map_eq_some_iff
abbrev ax:=@beq_iff_eq
abbrev xY:=@Go.ByteArray.toList_eq
abbrev gV:=@false_and
abbrev jA:=@and_true
abbrev fF:=@or_false
abbrev jB:=@false_or
abbrev iY:=@true_or
abbrev gW:=@ne_eq
abbrev iZ:=@not_false_eq_true
abbrev j6:=@not_true_eq_false
abbrev iz:=@and_false
abbrev j7:=@or_true
abbrev jC:=@and_self
abbrev nX:=@List.replicate_succ
abbrev rF:=@List.nil_append
abbrev tS:=@Nat.min_eq_left
abbrev rG:=@Nat.le_of_lt
abbrev nZ:=@List.flatMap_append
abbrev gJ:=@List.nodup_append
abbrev n6:=@List.length_set
abbrev bK:=@of_decide_eq_true
abbrev x9:=@Bool.false_ne_true
abbrev de:=@bne_iff_ne
abbrev LL:=@List.set_cons_zero
abbrev rH:=@List.cons.injEq
abbrev DU:=@Array.toList_modify
abbrev mJ:=@beq_eq_false_iff_ne
abbrev iE:=@List.take_add_one
abbrev pH:=@List.take_append_drop
abbrev lP:=@List.map_map
abbrev yf:=@List.flatMap_cons
abbrev bP:=@of_decide_eq_false
abbrev yi:=@List.filter_sublist
abbrev oe:=@Int.eq_ofNat_of_zero_le
abbrev gX:=@List.length_nil
abbrev og:=@List.set_append_right
abbrev ka:=@List.not_mem_nil
abbrev mL:=@Iff.rfl
abbrev ui:=@List.nodup_cons
abbrev Ei:=@List.mem_take_iff_getElem
abbrev ep:=@Classical.not_not
abbrev dX:=@Int.le_refl
abbrev yl:=@List.mem_of_mem_take
abbrev yo:=@List.take_sublist
abbrev uo:=@List.sum_cons
abbrev gg:=@List.take_length
abbrev yv:=@List.mem_replicate
abbrev rV:=@Nat.sub_self
abbrev je:=@Int.toNat_of_nonneg
abbrev rW:=@Option.some.inj
abbrev rY:=@List.mem_zipIdx_iff_getElem?
abbrev EM:=@Classical.byContradiction
abbrev lV:=@decide_eq_true
abbrev jf:=@decide_eq_false
abbrev eX:=@Bool.eq_false_iff
abbrev Env:=List (Nat×Value)
def look:Env→Nat→Option Value
 |[],_=>none
 |(k,v)::r,t=>match Nat.beq k t with
  |true=>some v
  |false=>look r t
def ev(env:Env):Operand→Option Value
 | .tmp t=>look env t
 | .const v=>some v
 | .global g=>some (vP (aZ g))
 | .func f=>some (.func (.func f) #[] #[])
structure FN where
 n:Nat
 D:List Deferred
instance (k : Nat) : OfNat FN k := ⟨⟨k, []⟩⟩
structure Fr(a:Act)(N:FN)(env:Env):Prop where
 defers:a.defers=N.D
 size:a.tmps.size=N.n
 slot:∀t v,look env t=some v→a.tmps[t]?=some v
theorem Fr.ev{a:Act}{N:FN}{env:Env}(h:Fr a N env){x:Operand}{v:Value}(hx:ev env x=some v):a.eval x=v:=by
 cases x with
 |tmp t=>have:=h.slot t v hx;simp[Act.eval,lg,this]
 |const u=>simp[Mor.ev]at hx;simp[Act.eval,hx]
 |global g=>simp[Mor.ev]at hx;simp[Act.eval,hx]
 |func f=>simp[Mor.ev]at hx;simp[Act.eval,hx]
def cO(env:Env)(d:Option Nat)(v:Value):Env:=match d with
 |some t=>(t,v)::env
 |none=>env
def gq(d:Option Nat)(N:FN):Bool:=match d with
 |some t=>Nat.blt t N.n
 |none=>true
def nR(keep:List Nat)(env:Env):Env:=match keep with
 |[]=>[]
 |t::r=>match look env t with
  |some v=>(t,v)::nR r env
  |none=>nR r env
theorem yB{keep:List Nat}{env:Env}{t:Nat}{v:Value}:look (nR keep env) t=some v→look env t=some v:=by
 induction keep with
 |nil=>intro h;simp[nR,look]at h
 |cons k r ih=>
  unfold nR;intro h;split at h
  ·rename_i u hu;unfold look at h;split at h
   ·rename_i hb;have:k=t:=iq hb;subst this;injection h with h;subst h;exact hu
   ·exact ih h
  ·exact ih h
theorem Fr.put{a:Act}{N:FN}{env:Env}(h:Fr a N env){d:Option Nat}(hd:gq d N=true)(v:Value):Fr (a.put d v) N (cO env d v):=by
 cases d with
 |none=>exact h
 |some t=>
  have ht:t<N.n:=by simpa[gq,pW]using hd
  refine⟨h.defers,by simp[Act.put,h.size],?_⟩;intro u x hx;simp only[cO,look]at hx;simp only[Act.put];by_cases e:t=u
  ·subst e;simp at hx;subst hx;rw[Array.getElem?_setIfInBounds_self_of_lt (by rw[h.size];exact ht)]
  ·have hb:Nat.beq t u=false:=by
    cases hq:Nat.beq t u
    ·rfl
    ·exact absurd (iq hq) e
   rw[hb]at hx;rw[Array.getElem?_setIfInBounds_ne e];exact h.slot u x hx
theorem Fr.keep{a:Act}{N:FN}{env:Env}(h:Fr a N env){keep:List Nat}{Dl:Env}(e:nR keep env=Dl):Fr a N Dl:=by
 subst e;exact⟨h.defers,h.size,fun t v hv=>h.slot t v (yB hv)⟩
def Code.l:Code→Code
 | .seq a _=>a
 | .cond _ a _=>a
 | .block _ b=>b
 | .loop b=>b
 |_=> .skip
def Code.r:Code→Code
 | .seq _ b=>b
 | .cond _ _ b=>b
 |_=> .skip
def opsOf:Code→Array Oper
 | .region _ ops _=>ops
 |_=> #[]
inductive Kind where
 |seq|cond(x:Operand)|block(id:Nat)|loop|ret|skip|exit(id:Nat)|region(draw:Bool)|other
def kind:Code→Kind
 | .seq _ _=> .seq
 | .cond x _ _=> .cond x
 | .block id _=> .block id
 | .loop _=> .loop
 | .ret=> .ret
 | .skip=> .skip
 | .exit id=> .exit id
 | .region _ _ d=> .region d
 |_=> .other
def W(P:Program)(c:Code)(K:Act→World→Prop)(Q:Exit→Act→World→Prop)(a:Act)(w:World):Prop:=c.wp P (Exit.then K Q) a w
def ZX(id:Nat)(K:Act→World→Prop)(Q:Exit→Act→World→Prop):Exit→Act→World→Prop
 | .exit P0,a,w=>match Nat.beq P0 id with
  |true=>K a w
  |false=>Q (.exit P0) a w
 |e,a,w=>Q e a w
section
variable {P : Program} {c : Code} {K : Act → World → Prop} {Q : Exit → Act → World → Prop} {a : Act} {w : World}
theorem ZY(hk:kind c= .seq)(h:W P (Code.l c) (fun a w=>W P (Code.r c) K Q a w) Q a w):W P c K Q a w:=by
 cases c<;>simp[kind]at hk
 ·refine wp_seq ?_;refine wp_mono h ?_;intro e a w he;cases e<;>exact he
theorem Qbn(hk:kind c= .skip)(h:K a w):W P c K Q a w:=by
 cases c<;>simp[kind]at hk
 ·exact wp_skip h
theorem Qet(hk:kind c= .ret)(h:Q .ret a w):W P c K Q a w:=by
 cases c<;>simp[kind]at hk
 ·exact wp_ret h
theorem Qbo{id:Nat}(hk:kind c= .exit id)(h:Q (.exit id) a w):W P c K Q a w:=by
 cases c<;>simp[kind]at hk
 ·subst hk;exact wp_exit h
theorem VN{id:Nat}(hk:kind c= .block id)(h:W P (Code.l c) K (ZX id K Q) a w):W P c K Q a w:=by
 cases c<;>simp[kind]at hk
 ·subst hk;refine wp_block ?_;refine wp_mono h ?_;intro e a w he;cases e with
  |exit P0=>
   rename_i id0 b;simp only[Exit.then,ZX]at he;simp only[Exit.inBlock];split
   ·rename_i e;subst e;show K a w;simpa using he
   ·rename_i dN;have hb:Nat.beq P0 id0=false:=by
     cases hq:Nat.beq P0 id0
     ·rfl
     ·exact absurd (iq hq) dN
    rw[hb]at he;exact he
  |_=>exact he
theorem Ih{t:Nat}{N:FN}{env:Env}{B:Bool}(hk:kind c= .cond (.tmp t))(hF:Fr a N env)(hv:look env t=some (vB B))(ht:B=true→W P (Code.l c) K Q a w)(hf:B=false→W P (Code.r c) K Q a w):W P c K Q a w:=by
 cases c<;>simp[kind]at hk;subst hk;exact wp_cond_split (hF.ev (x:= .tmp t) hv) ht hf
theorem Qbp(hk:kind c= .loop)(I:Nat→Act→World→Prop){n:Nat}(h0:I n a w)(round:∀n a w,I n a w→W P (Code.l c) (fun a' w'=>∃m,m<n∧I m a' w') Q a w):W P c K Q a w:=by
 cases c<;>simp[kind]at hk;rename_i c;intro b k cs;have key:∀n a w,I n a w→∃e a' w',Exit.then K Q e a' w'∧Arrives P (lone (b.at a (.code c:: .inLoop c::k)) cs w) b k cs e a' w':=by
  intro n;induction n using Nat.strongRecOn with
  |_ n ih=>
   intro a w hI;obtain⟨e,yC,yD,hq,FA⟩:=round n a w hI b (.inLoop c::k) cs;cases e with
   |normal=>
    obtain⟨m,fM,Qeu⟩:=hq;obtain⟨QhU,QhV,QhW,Qev,VO⟩:=ih m fM yC yD Qeu;exact⟨QhU,QhV,QhW,Qev,.of_steps (Steps.trans FA (.one step_inLoop)) VO⟩
   |exit id=>exact⟨(.exit id),yC,yD,(hq:Q (.exit id) yC yD),.pass (x:= .inLoop c) rfl (fun _ _=> .inl sI) FA⟩
   |goto l=>exact⟨(.goto l),yC,yD,(hq:Q (.goto l) yC yD),.pass (x:= .inLoop c) rfl (fun _ _=> .inl sI) FA⟩
   |ret=>exact⟨.ret,yC,yD,(hq:Q .ret yC yD),.pass (x:= .inLoop c) rfl (fun _ _=> .inl sI) FA⟩
   |panic ch=>exact⟨(.panic ch),yC,yD,(hq:Q (.panic ch) yC yD),.pass (x:= .inLoop c) rfl (fun _ _=> .inl sI) FA⟩
   |outgrown=>exact⟨.outgrown,yC,yD,(hq:Q .outgrown yC yD),.pass (x:= .inLoop c) rfl (fun _ _=> .inl sI) FA⟩
 obtain⟨e,a',w',hq,FA⟩:=key n a w h0;exact⟨e,a',w',hq,.of_steps (.one step_loop) FA⟩
theorem Qbq{K':Act→World→Prop}{Q':Exit→Act→World→Prop}(h:W P c K Q a w)(hK:∀a w,K a w→K' a w)(hQ:∀e a w,Q e a w→Q' e a w):W P c K' Q' a w:=by
 refine wp_mono h ?_;intro e a w he;cases e;case normal=>exact hK _ _ he
 all_goals exact hQ _ _ _ he
end
def ay(c:Code)(k:Nat):Option (Option Nat×Op×Nat×Option (Nat×Bool)):=((opsOf c)[k]?).map fun o=>(o.dst,o.op,o.type,o.guard)
def aV(P:Program)(c:Code)(K:Act→World→Prop)(Q:Exit→Act→World→Prop)(k:Nat)(a:Act)(w:World):Prop:=wpList P (opsOf c) (Exit.then K Q) ((opsOf c).toList.drop k) a w
def bt(c:Code)(g:Option (Nat×Bool))(env:Env):Option Bool:=match g with
 |none=>some true
 |some (j,want)=>match((opsOf c)[j]?).bind (·.dst)with
  |some d=>match look env d with
   |some (.bool b)=>some (match b,want with|true,true=>true|false,false=>true|_,_=>false)
   |some (.tuple _)=>some false
   |_=>none
  |none=>none
section
variable {P : Program} {c : Code} {K : Act → World → Prop} {Q : Exit → Act → World → Prop} {a : Act} {w : World} {k : Nat} {N : FN} {env : Env}
theorem FB(hk:kind c= .region false)(h:aV P c K Q 0 a w):W P c K Q a w:=by
 cases c<;>simp[kind]at hk
 ·subst hk;refine wp_region_list ?_;exact h
theorem bl(hk:ay c k=none)(h:K a w):aV P c K Q k a w:=by
 have hl:(opsOf c).toList.drop k=[]:=by simp only[ay,P1]at hk;apply tE;simpa[Array.getElem?_eq_none_iff]using hk
 unfold aV;rw[hl];exact h
theorem xT{o:Oper}(hk:(opsOf c)[k]?=some o):(opsOf c).toList.drop k=o::(opsOf c).toList.drop (k+1):=by
 have h1:(opsOf c).toList[k]?=some o:=by simpa using hk
 obtain⟨fM,he⟩:=List.getElem?_eq_some_iff.1 h1;rw[sm fM,he]
theorem tF{g:Option (Nat×Bool)}{o:Oper}(hF:Fr a N env)(ho:o.guard=g){b:Bool}(hg:bt c g env=some b):Region.wanted o (yielded (opsOf c) a.tmps)=b:=by
 unfold Region.wanted;rw[ho];cases g with
 |none=>simp[bt]at hg;simp[hg]
 |some g=>
  obtain⟨j,want⟩:=g;simp only[bt]at hg;split at hg
  ·rename_i d hd;split at hg
   ·rename_i u hu;have:=hF.slot d _ hu;simp only[yielded,hd,Option.bind_some,this];injection hg with hg;subst hg;cases u<;>cases want<;>rfl
   ·rename_i u hu;have:=hF.slot d _ hu;simp only[yielded,hd,Option.bind_some,this];injection hg with hg
   ·cases hg
  ·cases hg
theorem rq{d:Option Nat}{op:Op}{ty:Nat}{g:Option (Nat×Bool)}(hk:ay c k=some (d,op,ty,g))(hF:Fr a N env)(hg:bt c g env=some true)(h:∀o:Oper,o.dst=d→o.op=op→o.type=ty→∀K':Act→World→Prop,(∀a' w',aV P c K Q (k+1) a' w'→K' a' w')→o.wp P a w K' (Exit.then K Q)):aV P c K Q k a w:=by
 unfold ay at hk;cases ho:(opsOf c)[k]? with
 |none=>rw[ho]at hk;cases hk
 |some o=>
  rw[ho]at hk;simp only[gC,cP,cF]at hk;obtain⟨h1,h2,h3,h4⟩:=hk;unfold aV;rw[xT ho];refine wpList_step fun K' KC=> ?_
  rw[bC (tF hF h4 hg)];exact h o h1 h2 h3 K' KC
theorem u4{d:Option Nat}{op:Op}{ty:Nat}{g:Option (Nat×Bool)}(hk:ay c k=some (d,op,ty,g))(hF:Fr a N env)(hg:bt c g env=some false)(h:aV P c K Q (k+1) (a.put d undef) w):aV P c K Q k a w:=by
 unfold ay at hk;cases ho:(opsOf c)[k]? with
 |none=>rw[ho]at hk;cases hk
 |some o=>
  rw[ho]at hk;simp only[gC,cP,cF]at hk;obtain⟨h1,h2,h3,h4⟩:=hk;subst h1;unfold aV;rw[xT ho];refine wpList_step fun K' KC=> ?_
  rw[aB (by rw[tF hF h4 hg];simp)];exact KC _ _ h
theorem fH{d:Option Nat}{op:Op}{ty:Nat}{g:Option (Nat×Bool)}(hk:ay c k=some (d,op,ty,g))(hF:Fr a N env)(hg:bt c g env=some true){v:Value}{w':World}(hr:∀o:Oper,o.op=op→o.type=ty→(execOp a.eval o).run P w= .ok (.value v) w')(h:aV P c K Q (k+1) (a.put d v) w'):aV P c K Q k a w:=by
 refine rq hk hF hg fun o h1 h2 h3 K' KC=> ?_
 unfold Oper.wp;rw[hr o h2 h3,Oper.upon_value,h1];exact KC _ _ h
theorem ll{d:Option Nat}{op:Op}{ty:Nat}{g:Option (Nat×Bool)}(hk:ay c k=some (d,op,ty,g))(hF:Fr a N env)(hg:bt c g env=some true){w':World}(hr:∀o:Oper,o.op=op→(execOp a.eval o).run P w= .ok .skip w')(h:aV P c K Q (k+1) (a.put d undef) w'):aV P c K Q k a w:=by
 refine rq hk hF hg fun o h1 h2 _ K' KC=> ?_
 unfold Oper.wp;rw[hr o h2,Oper.upon_skip,h1];exact KC _ _ h
end
end Go.Mor
