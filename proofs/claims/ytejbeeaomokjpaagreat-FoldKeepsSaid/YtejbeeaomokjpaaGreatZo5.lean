/-
  Texts of the proof, part 5.
-/
import Derived.Test.YtejbeeaomokjpaaGreatZo4
import Derived.ProofKit
import Derived.Deep.Fields
import Derived.Lib.SmallJoins
set_option maxRecDepth 10000
open List Go.ChangeShapes Go.WideShapes Go.Deep Go.ChangeAt Go.RowKit
open List renaming length -> ae
namespace Go.Mor
section
variable{H:Type}{enc:TypeId × Value -> H}{P:Program}{w:World}{base:Nat}{spare:Nat -> Bool}{held:Bool}
theorem Wh{t:TypeId}{k:IntKind}(ht:P.underlying t=some (.int k)){fuel:Nat}{v:Value}{x:DataW H×List MemPlace}(h:DataW.trod enc P w base spare held fuel t [v]=some x):∃n,v= .int k n/\k.min<=n/\n<=k.max:=by
 obtain⟨n,h1,_,h2⟩:=DataW.trod_int ht h;simp at h1;simp only[Lit.wf,bu,aU]at h2;exact⟨n,h1,h2.1,h2.2⟩
theorem rZ{α:Type}{n:Nat}{p:Nat->α->Prop}(h:∀i,i<n->∃x,p i x):∃l:List α,ae l=n/\∀i x,l[i]?=some x->p i x:=by
 induction n with
 |zero=>exact⟨[],rfl,sI⟩
 |succ n ih=>
  obtain⟨l,hl,hp⟩:=ih λi hi=>h i oM
  obtain⟨x,hx⟩:=h n oM;refine⟨l++[x],by simp[hl],λi y hi=> ?_⟩;rcases HX i n with h1|h1|h1
  ·rw[o9 oM]at hi;exact hp i y hi
  ·subst h1;rw[lJ oM]at hi;simp[hl]at hi;exact hi▸hx
  ·rw[db (by simp;omega)]at hi;cases hi
end
section
variable{H:Type}{enc:TypeId × Value -> H}{P:Program}
theorem vx(hl:laidOutB P=true){base:Nat}{sp:Nat->Bool}{W W':World}:∀{ts:List TypeId} {vs:bh} {ds:List (DataW H)} {ps:List MemPlace},ts.all (λt=>P.readableRec t&&decide (t<P.types.size))=true->DataW.TrodAll enc P W base (λ_=>true) true ts vs ds ps->(∀p∈ps,W.sameAt W' p)->(∀p∈ps,sp p.block=true)->DataW.TrodAll enc P W' base sp true ts vs ds ps
 |[],vs,ds,ps,_,h,_,_=>by cases vs<;>cases ds<;>simp_all[DataW.TrodAll]
 |t::ts,vs,ds,ps,hr,h,Qe5,hs=>by obtain⟨v,vs',d,ds',p,q,rfl,rfl,rfl,h1,h2⟩:=trodAll_cons h;simp only[all_cons,bu,aU]at hr;exact⟨p,q,WideElems.Trod_stays hl hr.1.1 hr.1.2 h1 (λx hx=>Qe5 x (ej _ hx)) (λx hx=>hs x (ej _ hx)),vx hl hr.2 h2 (λx hx=>Qe5 x (kF _ hx)) (λx hx=>hs x (kF _ hx)),rfl⟩
theorem Sp(hl:laidOutB P=true){f:Func}{s:ChangeSpec}{W W':World}{args:Array Value}{ds gs:List (DataW H)}{ps:List MemPlace}{tb:TypeId}(hb:P.underlying tb=some .bool)(QmU:f.resultTypes=#[tb])(hr:f.params.toList.all (λt=>P.readableRec t&&decide (t<P.types.size))=true)(hv:s.vars=[])(hW:DataW.Whole enc P f.params.toList [] false W args.toList ds gs ps)(h1:(s.fn H (ds++gs)).results=[.lit (.bool true)])(h2:(s.fn H (ds++gs)).args=ds)(h3:(s.fn H (ds++gs)).vars=[]){w':World}(hm:Mem bI W W' [])(e:W'=w'):s.post enc P f false true false false W args (.bool true) w':=by
 subst e;obtain⟨p,q,hA,hV,hpq,hz,hn⟩:=hW;obtain⟨hg,hq⟩:=trodVars_none hV;subst hg;subst hq;have HR:Below W.heap.size W W':=hm.below;have hW':DataW.Whole enc P f.params.toList [] false W args.toList ds [] ps:=⟨p,[],hA,hV,hpq,hz,hn⟩;have ir:=hW'.lt;rw[iq]at hpq;subst hpq;refine⟨ds,[],ps,[],ps,[],by rw[hv];exact hW',?_,?_,?_,HR.frame _,λh=>by simp at h⟩
 ·rw[h1,QmU];exact trodAll_mk1 (shut_bool hb _)
 ·rw[h2];exact vx hl hr hA (λx hx=>HR.same (ir x hx)) (λx hx=>by simpa using ir x hx)
 ·rw[h3,hv];exact(rfl:_=_)
end
theorem Sq{P:Program}{c:Code}{K:Act->World->Prop}{Q:Exit->Act->World->Prop}{a:Act}{w:World}{k k':Nat}{N:FN}{env:Env}{d:Option Nat}{ty:Nat}{g:Option (Nat×Bool)}{t t':TypeId}{x:Operand}(hk:aB c k=some (d,.convert t t' x,ty,g))(hF:Fr a N env)(hg:bU c g env=some true)(hd:jW d N=true)(lI:k+1=k'){kd kd' ks:IntKind}{i z:Int}(hx:ev env x=some (.int kd i))(hs:P.underlying t=some (.int ks))(ht:P.underlying t'=some (.int kd'))(hz:kd'.wrap i=z)(h:∀a',a'=a.put d (.int kd' z)->Fr a' N (eJ env d (.int kd' z))->bL P c K Q k' a' w):bL P c K Q k a w:=by
 refine gq hk hF hg hd lI (λo ho=> ?_) h;unfold execOp;rw[ho];simp[hF.ev hx,convert,gG,iM hs,iM ht,ig,Conv.intToInt,hz]
theorem Qe6{n:Int}(h:(Lit.int .u8 n).wf=true):0<=n/\n<=255:=by
 simp only[Lit.wf,bu,aU]at h;exact⟨h.1,h.2⟩
def dstsOf(c:Code):Nat->Nat->List Nat
 |0,_=>[]
 |n+1,k=>match aB c k with
  |some (some d,_,_,_)=>d::dstsOf c n (k+1)
  |_=>dstsOf c n (k+1)
def QbC(l:List Nat)(t:Nat):Bool:=match l with
 |[]=>false
 |x::r=>match Nat.beq x t with
  |true=>true
  |false=>QbC r t
def inE(env:Env)(t:Nat):Bool:=match env with
 |[]=>false
 |(x,_)::r=>match Nat.beq x t with
  |true=>true
  |false=>inE r t
def wi(keys:List Nat)(env:Env):List Nat->Bool
 |[]=>true
 |d::r=>match QbC keys d with
  |true=>wi keys env r
  |false=>match inE env d with
   |true=>false
   |false=>wi keys env r
theorem Wr{l:List Nat}{t:Nat}(h:QbC l t=true):t∈l:=by
 induction l with
 |nil=>cases h
 |cons x r ih=>
  unfold QbC at h;split at h
  ·rename_i hb;exact cG.2 (.inl (ko hb).symm)
  ·exact cr _ (ih h)
theorem Ws{env:Env}{t:Nat}{v:Value}(h:look env t=some v):inE env t=true:=by
 induction env with
 |nil=>simp[look]at h
 |cons x r ih=>
  obtain⟨k,u⟩:=x;unfold look at h;unfold inE;split at h
  ·rename_i hb;rw[hb]
  ·rename_i hb;rw[hb];exact ih h
theorem NR{keys:List Nat}{env:Env}{ds:List Nat}(h:wi keys env ds=true){t:Nat}(ht:t∈ds){v:Value}(hv:look env t=some v):t∈keys:=by
 induction ds with
 |nil=>cases ht
 |cons d r ih=>
  unfold wi at h;rcases cG.1 ht with rfl|ht
  ·split at h
   ·rename_i hk;exact Wr hk
   ·rw[Ws hv]at h;cases h
  ·split at h
   ·exact ih h ht
   ·split at h
    ·cases h
    ·exact ih h ht
theorem Kr{l r:Env}{t:Nat}:look (l++r) t=match look l t with
  |some v=>some v
  |none=>look r t:=by
 induction l with
 |nil=>rfl
 |cons x l ih=>
  obtain⟨k,u⟩:=x;show look ((k,u)::(l++r)) t=_;simp only[look];split
  ·rfl
  ·exact ih
theorem Wt{keys:List Nat}{env:Env}{t:Nat}{v:Value}(h:t∈keys)(hv:look env t=some v):look (p5 keys env) t=some v:=by
 induction keys with
 |nil=>cases h
 |cons k r ih=>
  unfold p5;by_cases e:k=t
  ·subst e;rw[hv];simp[look,Nat.beq_refl]
  ·have hb:Nat.beq k t=false:=by rw[<-Cj];exact λh=>e (ko h)
   rcases cG.1 h with rfl|h
   ·exact absurd rfl e
   ·split
    ·simp only[look,hb];exact ih h
    ·exact ih h
theorem r6{P:Program}{c:Code}{N:FN}:∀(n k:Nat) {env e1:Env},gz P c N n k env=some e1->∀t,t∉dstsOf c n k->look e1 t=look env t
 |0,k,env,e1,h,t,_=>by simp only[gz,eO]at h;rw[h]
 |n+1,k,env,e1,h,t,ht=>by
  simp only[gz]at h;split at h
  ·rename_i d op ty g hk;have step:∀v,gz P c N n (k+1) (eJ env d v)=some e1->look e1 t=look env t:=by
    intro v hv;cases d with
    |none=>
     simp only[dstsOf,hk]at ht;exact r6 n (k+1) hv t ht
    |some d=>
     simp only[dstsOf,hk,cG,not_or]at ht;have:=r6 n (k+1) hv t ht.2;rw[this];have hb:Nat.beq d t=false:=by rw[<-Cj];exact λh=>ht.1 (ko h).symm
     simp[eJ,look,hb]
   split at h
   ·split at h
    ·split at h
     ·exact step _ h
     ·cases h
    ·exact step _ h
    ·cases h
   ·cases h
  ·cases h
theorem Ai{P:Program}{c:Code}{N:FN}:∀(n k:Nat) {env e1:Env},gz P c N n k env=some e1->∃pre,e1=pre++env
 |0,k,env,e1,h=>by simp only[gz,eO]at h;exact⟨[],h.symm⟩
 |n+1,k,env,e1,h=>by
  simp only[gz]at h;split at h
  ·rename_i d op ty g hk;have step:∀v,gz P c N n (k+1) (eJ env d v)=some e1->∃pre,e1=pre++env:=by
    intro v hv;obtain⟨pre,hp⟩:=Ai n (k+1) hv;cases d with
    |none=>exact⟨pre,hp⟩
    |some d=>exact⟨pre++[(d,v)],by rw[hp];simp[eJ]⟩
   split at h
   ·split at h
    ·split at h
     ·exact step _ h
     ·cases h
    ·exact step _ h
    ·cases h
   ·cases h
  ·cases h
theorem NS{P:Program}{c:Code}{K:Act->World->Prop}{Q:Exit->Act->World->Prop}{w:World}{N:FN}(n k':Nat){k:Nat}{a:Act}{env news:Env}(keys:List Nat)(hF:Fr a N env)(hp:(gz P c N n k env).map (p5 keys)=some news)(hc:wi keys env (dstsOf c n k)=true)(hk:k+n=k')(h:∀a',Fr a' N (news++env)->bL P c K Q k' a' w):bL P c K Q k a w:=by
 cases hr:gz P c N n k env with
 |none=>rw[hr]at hp;cases hp
 |some Se=>
  rw[hr]at hp;simp only[ft,eO]at hp;subst hk;refine xB n k hF hr (λa' Na=>h a' ⟨Na.defers,Na.size,λt v hv=> ?_⟩);rw[Kr]at hv;split at hv
  ·rename_i u hu;injection hv with hv;subst hv;rw[<-hp]at hu;exact Na.slot t u (CX hu)
  ·rename_i hu;refine Na.slot t v ?_;by_cases hd:t∈dstsOf c n k
   ·have hk:=NR hc hd hv;cases he:look Se t with
    |some x=>
     have h1:=Wt hk he;rw[hp,hu]at h1;cases h1
    |none=>
     exfalso;obtain⟨pre,NG⟩:=Ai n k hr;rw[NG,Kr]at he;split at he
     ·cases he
     ·rw[hv]at he;cases he
   ·rw[r6 n k hr t hd];exact hv
end Go.Mor
namespace Go.Mor
open List
open List renaming length -> ae
open Go.RowKit
def ldE(P:Program)(c:Code)(N:FN)(env:Env)(k:Nat):Option (Option Nat×Addr):=match aB c k with
 |some (d,.load t x,_,g)=>match bU c g env,jW d N,C1 P t,ev env x with
  |some true,true,true,some (.pointer (some ad))=>some (d,ad)
  |_,_,_,_=>none
 |_=>none
def lsE(P:Program)(c:Code)(N:FN)(env:Env)(k:Nat):Option (Option Nat×Addr×Option Nat):=match aB c k with
 |some (d,.load t x,_,g)=>match bU c g env,jW d N,ev env x with
  |some true,true,some (.pointer (some ad))=>some (d,ad,y5 P t)
  |_,_,_=>none
 |_=>none
def ixE(P:Program)(c:Code)(N:FN)(env:Env)(k:Nat):Option (Option Nat×ar×Nat×Nat×Int):=match aB c k with
 |some (d,.indexAddr t x y,_,g)=>match bU c g env,jW d N,ev env x,ev env y with
  |some true,true,some (.slice A n _),some (.int _ i)=>match P.underlying t with
   |some (.slice e)=>match P.info? e with
    |some inf=>some (d,A,n,inf.size,i)
    |none=>none
   |_=>none
  |_,_,_,_=>none
 |_=>none
def arE(c:Code)(N:FN)(env:Env)(k:Nat):Option (Option Nat×Int):=match aB c k with
 |some (d,.binOp op _ x y _,_,g)=>match bU c g env,jW d N,ev env x,ev env y with
  |some true,true,some (.int .i64 i),some (.int .i64 j)=>match arI op i j with
   |some z=>some (d,z)
   |none=>none
  |_,_,_,_=>none
 |_=>none
def clE(P:Program)(c:Code)(N:FN)(env:Env)(k:Nat):Option (Option Nat×Nat×Array Value):=match aB c k with
 |some (d,.call {callee:= .value x,args:=args,argTypes:=_},_,g)=>match bU c g env,jW d N,ev env x,evs env args.toList with
  |some true,true,some (.func (.func f) first cap),some vs=>match first.size,C9 P f with
   |0,true=>some (d,f,(vs++cap.toList).toArray)
   |_,_=>none
  |_,_,_,_=>none
 |_=>none
def gdE(c:Code)(N:FN)(env:Env)(k:Nat):Option (Option Nat×Option Bool):=match aB c k with
 |some (d,_,_,g)=>match jW d N with
  |true=>some (d,bU c g env)
  |false=>none
 |none=>none
section
variable{P:Program}{c:Code}{K:Act -> World -> Prop}{Q:Exit -> Act -> World -> Prop}{a:Act}{w w0:World}{S:Nat -> Prop}{L:List bD}{k:Nat}{N:FN}{env:Env}
theorem bJ(d:Option Nat)(ad:Addr)(hF:Fr a N env)(hk:ldE P c N env k=some (d,ad))(v:Value)(hc:w.cell? ad=some v)(h:∀a',Fr a' N (eJ env d v)->bL P c K Q (k+1) a' w):bL P c K Q k a w:=by
 unfold ldE at hk;split at hk
 ·rename_i h0;split at hk
  ·rename_i h1 h2 h3 h4;simp only[eO,dg]at hk;obtain⟨rfl,rfl⟩:=hk;exact vW h0 hF h1 h2 rfl h4 h3 hc (λa' _=>h a')
  ·cases hk
 ·cases hk
theorem QbD(d:Option Nat)(ad:Addr)(vs:bh)(hF:Fr a N env)(hk:lsE P c N env k=some (d,ad,some (ae vs)))(hc:∀j v,vs[j]?=some v->w.cell? (ad.add j)=some v)(h:∀a',Fr a' N (eJ env d (.agg vs.toArray))->bL P c K Q (k+1) a' w):bL P c K Q k a w:=by
 unfold lsE at hk;split at hk
 ·rename_i h0;split at hk
  ·rename_i h1 h2 h4;simp only[eO,dg]at hk;obtain⟨rfl,rfl,h3⟩:=hk;exact jy h0 hF h1 h2 rfl h4 h3 hc (λa' _=>h a')
  ·cases hk
 ·cases hk
theorem r7(d:Option Nat)(ad:Addr)(n size:Nat)(i:Int)(hF:Fr a N env)(hk:ixE P c N env k=some (d,some ad,n,size,i))(h0:0<=i)(h1:i<n)(h:∀a',Fr a' N (eJ env d (vP (ad.add (i.toNat*size))))->bL P c K Q (k+1) a' w):bL P c K Q k a w:=by
 unfold ixE at hk;split at hk
 ·rename_i g0;split at hk
  ·rename_i g1 g2 g3 g4;split at hk
   ·rename_i e ht;split at hk
    ·rename_i inf hs;simp only[eO,dg]at hk;obtain⟨rfl,hA,rfl,rfl,rfl⟩:=hk;exact vX g0 hF g1 g2 rfl g3 g4 hA ht (by rw[hs];rfl) h0 h1 (λa' _=>h a')
    ·cases hk
   ·cases hk
  ·cases hk
 ·cases hk
theorem r8(d:Option Nat)(z:Int)(hF:Fr a N env){z0:Int}(hk:arE c N env k=some (d,z0))(hz:z0=z)(h1: -9223372036854775808<=z)(h2:z<=9223372036854775807)(h:∀a',Fr a' N (eJ env d (vI z))->bL P c K Q (k+1) a' w):bL P c K Q k a w:=by
 subst hz;unfold arE at hk;split at hk
 ·rename_i g0;split at hk
  ·rename_i g1 g2 g3 g4;split at hk
   ·rename_i z hz;simp only[eO,dg]at hk;obtain⟨rfl,rfl⟩:=hk;exact j5 g0 hF g1 g2 rfl g3 g4 hz h1 h2 (λa' _=>h a')
   ·cases hk
  ·cases hk
 ·cases hk
theorem r9(d:Option Nat)(f:FuncId)(vs:bh)(hF:Fr a N env)(hk:clE P c N env k=some (d,f,vs.toArray)){Φ:Value->World->Prop}(hc:Calls P f vs.toArray w (gp Φ))(h:∀v w',Φ v w'->∀a',Fr a' N (eJ env d v)->bL P c K Q (k+1) a' w'):bL P c K Q k a w:=by
 unfold clE at hk;split at hk
 ·rename_i d' x args ts ty g g0;split at hk
  ·rename_i f' first cap us g1 g2 g3 g4
   split at hk
   ·rename_i hs hf;simp only[eO,dg]at hk;obtain⟨rfl,rfl,hv⟩:=hk;have NT:first=#[]:=Ie hs
    subst NT;exact jQ g0 hF g1 g2 rfl (f:=f') (vs:=us) (cap:=cap.toList) (by simpa using g3) g4 hf (by rw[hv];exact hc) (λv w' hv a' _=>h v w' hv a')
   ·cases hk
  ·cases hk
 ·cases hk
theorem aH{B:Bool}{d:Option Nat}(v:Value)(hF:Fr a N env)(hg:gdE c N env k=some (d,some B))(hr:B=true->(∀a',Fr a' N (eJ env d v)->bL P c K Q (k+1) a' w)->bL P c K Q k a w)(h:∀a',Fr a' N (eJ env d (cond B v undef))->bL P c K Q (k+1) a' w):bL P c K Q k a w:=by
 cases B with
 |true=>exact hr rfl h
 |false=>
  unfold gdE at hg;split at hg
  ·rename_i h0;split at hg
   ·rename_i hd;simp only[eO,dg]at hg;obtain⟨rfl,hg⟩:=hg;exact yY h0 hF hg (h _ (hF.put hd undef))
   ·cases hg
  ·cases hg
theorem k9{B:Bool}{d:Option Nat}(v:Value)(hF:Fr a N env)(hg:gdE c N env k=some (d,some B))(hr:B=true->(∀a' w',Mem bI w w' []->Fr a' N (eJ env d v)->bL P c K Q (k+1) a' w')->bL P c K Q k a w)(h:∀a' w',Mem bI w w' []->Fr a' N (eJ env d (cond B v undef))->bL P c K Q (k+1) a' w'):bL P c K Q k a w:=by
 cases B with
 |true=>exact hr rfl h
 |false=>
  unfold gdE at hg;split at hg
  ·rename_i h0;split at hg
   ·rename_i hd;simp only[eO,dg]at hg;obtain⟨rfl,hg⟩:=hg;exact yY h0 hF hg (h _ _ (Mem.init w) (hF.put hd undef))
   ·cases hg
  ·cases hg
theorem mw(b:Bool):((!b)=true)=(¬b=true):=by cases b<;>simp
end
end Go.Mor
namespace Go.Mor
open List
open List renaming length -> ae
open Go.RowKit
theorem Wu{P:Program}{c:Code}{K:Act->World->Prop}{Q:Exit->Act->World->Prop}{a:Act}{w:World}{k k':Nat}{N:FN}{env:Env}{d:Option Nat}{ty:Nat}{g:Option (Nat×Bool)}{op:UnOp}{t:TypeId}{x:Operand}(hk:aB c k=some (d,.unOp op t x,ty,g))(hF:Fr a N env)(hg:bU c g env=some true)(hd:jW d N=true)(lI:k+1=k'){kd:IntKind}{i:Int}{z:Value}(hx:ev env x=some (.int kd i))(hb:∀w,(Op.unary op (.int kd i)).run P w= .ok z w)(h:∀a',a'=a.put d z->Fr a' N (eJ env d z)->bL P c K Q k' a' w):bL P c K Q k a w:=by
 refine gq hk hF hg hd lI (λo ho=> ?_) h;unfold execOp;rw[ho];simp only[hF.ev hx,gG,hb,ig];rfl
end Go.Mor
namespace Go.Mor
open List
open List renaming length -> ae
open Go.RowKit
section
variable{P:Program}{c:Code}{K:Act -> World -> Prop}{Q:Exit -> Act -> World -> Prop}{a:Act}{w:World}
theorem QbE{t:Nat}{N:FN}{env:Env}{e:Bool}{R:Prop}(hk:kind c= .cond (.tmp t))(hF:Fr a N env)(hv:look env t=some (vB e))(i:e=true↔R)(ht:R->W P (Code.l c) K Q a w)(hf:¬R->W P (Code.r c) K Q a w):W P c K Q a w:=Nz hk hF hv (λh=>ht (i.1 h)) (λh=>hf (λr=>by rw[i.2 r]at h;cases h))
end
end Go.Mor
namespace Go.Mor
open List
open List renaming length -> ae
open Go.RowKit
section
variable{P:Program}{c:Code}{K:Act -> World -> Prop}{Q:Exit -> Act -> World -> Prop}{a:Act}{w:World}
def spE(P:Program)(c:Code)(N:FN)(env:Env)(keys:List Nat):Option Env:=match kind c,kind (Code.l c)with
 | .seq,.region false=>match gz P (Code.l c) N (opsOf (Code.l c)).size 0 env,wi keys env (dstsOf (Code.l c) (opsOf (Code.l c)).size 0)with
  |some e,true=>some (p5 keys e)
  |_,_=>none
 |_,_=>none
theorem QmV(h1:(match kind c,kind (Code.l c)with| .seq,.region false=>true|_,_=>false)=true)(h:bL P (Code.l c) (λa w=>W P (Code.r c) K Q a w) Q 0 a w):W P c K Q a w:=by
 split at h1
 ·rename_i e1 e2;exact Qe4 e1 (Kg e2 h)
 ·cases h1
end
end Go.Mor
namespace Go.Mor
open List
open List renaming length -> ae
open Go.RowKit
theorem zh(zs:bh)(n:Nat)(hz:0<ae zs):(madeCells zs.toArray (n*ae zs)).toList=(List.replicate n zs).flatten:=by
 have hlen:ae ((List.replicate n zs).flatten)=n*ae zs:=sI;apply fM;intro j;by_cases hj:j<n*ae zs
 ·have h1:j % ae zs<ae zs:=Nat.mod_lt _ hz;have e1:(madeCells zs.toArray (n*ae zs)).toList[j]?=some zs[j % ae zs]:=by simp[madeCells,hj,h1]
  rw[e1];clear e1;have h2:j / ae zs<n:=Nat.div_lt_of_lt_mul (by rwa [Nat.mul_comm]at hj);have key:∀n q,q<n->∀r (hr:r<ae zs),((List.replicate n zs).flatten)[q*ae zs+r]?=some zs[r]:=by
   intro n;induction n with
   |zero=>intro q hq;omega
   |succ n ih=>
    intro q hq r hr;rw[p9,flatten_cons];cases q with
    |zero=>
     rw[xK,nK,o9 hr];simp[hr]
    |succ q=>
     rw[lJ (by rw[uP];omega),show(q+1)*ae zs+r-ae zs=q*ae zs+r by rw[uP];omega];exact ih q oM r hr
  have:=key n (j / ae zs) h2 (j % ae zs) h1;rw[Nat.div_add_mod' j (ae zs)]at this;exact this.symm
 ·have e1:((List.replicate n zs).flatten)[j]?=none:=db (by rw[hlen];omega);rw[e1];apply db;simp[madeCells];omega
section
variable{P:Program}{c:Code}{K:Act -> World -> Prop}{Q:Exit -> Act -> World -> Prop}{a:Act}{w w0:World}{S:Nat -> Prop}{L:List bD}{k k':Nat}{N:FN}{env:Env}
variable{d:Option Nat}{ty:Nat}{g:Option (Nat × Bool)}
theorem wm{t:TypeId}{x y:Operand}(hk:aB c k=some (d,.makeSlice t x y,ty,g))(hF:Fr a N env)(hg:bU c g env=some true)(hd:jW d N=true)(lI:k+1=k'){e bytes size:Nat}{zs:bh}{n:Nat}{i:Int}(hx:ev env x=some (vI i))(hy:ev env y=some (vI i))(hn:i=(n:Int))(ht:P.underlying t=some (.slice e))(hi:(P.info? e).map (λi=>(i.size,i.bytes,i.zero))=some (size,bytes,some (.agg zs.toArray)))(hs:size=ae zs)(hz:0<ae zs)(hb:bytes*n<=140737488355328)(hl:n<=maxLen)(hM:Mem S w0 w L)(h:∀b w',w0.heap.size<=b->w.heap.size<=b->Mem S w0 w' (L++[.row e size (some (aZ b)) n n (List.replicate n zs).flatten])->Mem bI w w' [.row e size (some (aZ b)) n n (List.replicate n zs).flatten]->∀a',a'=a.put d (vS (some (aZ b)) n n)->Fr a' N (eJ env d (vS (some (aZ b)) n n))->bL P c K Q k' a' w'):bL P c K Q k a w:=by
 subst lI;subst hn;cases tc:P.info? e with
 |none=>simp[tc]at hi
 |some inf=>
  simp only[tc,ft,eO,dg]at hi;obtain⟨Wg,ND,NB⟩:=hi;subst ND;obtain⟨w',hr,Fj,Sg⟩:=run_make_full (P:=P) w 0 t e inf (.agg zs.toArray) size ht tc NB Wg .i64 .i64 n oM hl (cI _);have hc:(madeCells (Value.agg zs.toArray).cells (n*size)).toList=(List.replicate n zs).flatten:=by rw[hs];exact zh zs n hz
  rw[hc]at Fj;have hm:Mem bI w w' [.row e size (some (aZ w.heap.size)) n n (List.replicate n zs).flatten]:=by refine⟨Sg.os,Sg.tape,Sg.output,Sg.size,λk hk _=>Sg.block k hk sI,?_,oh _ _⟩;simp only[cF];rintro _ rfl;refine⟨Fj,?_⟩;rintro g' ⟨a',pS,rfl⟩;injection pS with pS;subst pS;exact .inr (cH _)
  refine lP hk hF hg (v:=vS (some (aZ w.heap.size)) n n) (w':=w') (λo ho _=> ?_) (h w.heap.size w' hM.size (cH _) (hM.call hm) hm _ rfl (hF.put hd _));unfold execOp;rw[ho];simp only[hF.ev hx,hF.ev hy,gG,hr,ig];rfl
theorem pf(a:Addr)(i j:Nat):(a.add i).add j=a.add (i+j):=by
 unfold Addr.add;by_cases hi:i=0<;>by_cases hj:j=0<;>simp[hi,hj,vV]
def setAt:bh->Nat->bh->bh
 |xs,_,[]=>xs
 |xs,j,v::vs=>setAt (xs.set j v) (j+1) vs
theorem sT{e size n cap:Nat}{ad ad':Addr}:∀(vs:bh) (i j:Nat) {xs:bh} {w:World},(∀v∈vs,v.oneCell'=true)->(bD.row e size (some ad) n cap xs).holds w->ad'.add i=ad.add j->ad'.add 0=ad'->(∀q,ad'.add (i+q)=ad.add (j+q))->j+ae vs<=n*size->∃w',(storeCells ad' vs i).run P w= .ok () w'/\Mem (bD.row e size (some ad) n cap xs).fp w w' [.row e size (some ad) n cap (setAt xs j vs)]
 |[],i,j,xs,w,_,hb,_,_,_,_=>⟨w,by simp[storeCells],by simpa[setAt]using Mem.vv hb⟩
 |v::vs,i,j,xs,w,h1,hb,he,h0,hq,hl=>by
  simp only[fh]at hl;have hm:=Mem.HM (j:=j) hb v;have HR:=hm.get 0 rfl;obtain⟨w',hr,F8⟩:=sT vs (i+1) (j+1) (λu hu=>h1 u (cr _ hu)) HR (hq 1) h0 (λq=>by have:=hq (1+q);rwa [<-vV,<-vV]at this) oM;refine⟨w',?_,?_⟩
  ·have hxl:ae xs=n*size:=hb.1;obtain⟨u,hu⟩:∃u,xs[j]?=some u:=⟨_,dF oM⟩;obtain⟨a0,Vn,sQ⟩:=aF hb j u hu;injection Vn with Vn;subst Vn;have rS:(store (ad.add j) v).run P w= .ok () (w.setCell (ad.add j) v):=by rw[run_store P w _ v .plain (h1 v (cK ..)),sQ];simp[rQ hb]
   simp only[storeCells,gG,he,rS,ig,hr]
  ·have:=hm.mod 0 rfl F8;simpa[setAt]using this
theorem jg{t:TypeId}{x y:Operand}(hk:aB c k=some (d,.store t x y,ty,g))(hF:Fr a N env)(hg:bU c g env=some true)(hd:jW d N=true)(lI:k+1=k'){ad ad':Addr}{j e size n cap:Nat}{vs xs:bh}(hx:ev env x=some (vP ad'))(had:ad'=ad.add j)(hy:ev env y=some (.agg vs.toArray))(ht:y5 P t=some (ae vs))(hv:∀v∈vs,v.oneCell'=true)(hM:Mem S w0 w L)(i:Nat)(hi:L[i]?=some (.row e size (some ad) n cap xs))(hj:j+ae vs<=n*size)(h:∀w',Mem S w0 w' (L.set i (.row e size (some ad) n cap (setAt xs j vs)))->Mem (bD.row e size (some ad) n cap xs).fp w w' [.row e size (some ad) n cap (setAt xs j vs)]->∀a',a'=a.put d undef->Fr a' N (eJ env d undef)->bL P c K Q k' a' w'):bL P c K Q k a w:=by
 subst lI;subst had;have hb:=hM.get i hi;obtain⟨w',hr,hm⟩:=sT (P:=P) (ad':=ad.add j) vs 0 j hv hb (by rw[pf];rfl) (by rw[pf];rfl) (λq=>by rw[pf,nK]) hj;refine qW hk hF hg (w':=w') (λo ho'=> ?_) (h _ (by simpa using hM.mod i hi hm) hm _ rfl (hF.put hd _));unfold execOp;rw[ho'];simp[Instr.storeAt,Instr.sureAddr,hF.ev hx,hF.ev hy,storeVar,(oT ht w).2,Value.cells,hr]
end
end Go.Mor
namespace Go.Mor
open List
open List renaming length -> ae
open Go.RowKit
theorem cZ{P:Program}{c:Code}{K:Act->World->Prop}{Q:Exit->Act->World->Prop}{a:Act}{w:World}{k:Nat}{N:FN}{env:Env}(d:Option Nat)(A:ar)(ad:Addr)(n size:Nat)(i:Int)(hF:Fr a N env)(hk:ixE P c N env k=some (d,A,n,size,i))(hA:A=some ad)(h0:0<=i)(h1:i<n)(h:∀a',Fr a' N (eJ env d (vP (ad.add (i.toNat*size))))->bL P c K Q (k+1) a' w):bL P c K Q k a w:=r7 d ad n size i hF (by rw[hk,hA]) h0 h1 h
end Go.Mor
namespace Go.Mor
open List
open List renaming length -> ae
open Go.RowKit
def pg:List (Bool×bD)->List bD
 |[]=>[]
 |(b,r)::l=>cond b [r] []++pg l
theorem Du:∀(l:List (Bool×bD)) (i:Nat) {r r':bD},l[i]?=some (false,r')->(pg l++[r]).Perm (pg (l.set i (true,r)))
 |[],i,r,r',h=>by simp at h
 |(b,q)::l,0,r,r',h=>by simp at h;obtain⟨rfl,rfl⟩:=h;show((cond false [q] []++pg l)++[r]).Perm (cond true [r] []++pg l);simp only[cond_false,qa,cond_true];exact perm_append_comm
 |(b,q)::l,i+1,r,r',h=>by have:=Du l i (r:=r) (r':=r') (by simpa using h);show((cond b [q] []++pg l)++[r]).Perm (cond b [q] []++pg (l.set i (true,r)));rw[dV];exact this.append_left _
theorem Mem.group{S:Nat->Prop}{w0 w:World}{L:List bD}{l:List (Bool×bD)}{r r':bD}(h:Mem S w0 w ((L++pg l)++[r]))(i:Nat)(hi:l[i]?=some (false,r')):Mem S w0 w (L++pg (l.set i (true,r))):=by
 refine h.perm ?_;rw[dV];exact(Du l i hi).append_left _
end Go.Mor
namespace Go.Mor
open List
open List renaming length -> ae
open Go.RowKit
section
variable{P:Program}{c:Code}{K:Act -> World -> Prop}{Q:Exit -> Act -> World -> Prop}{a:Act}{w w0:World}{S:Nat -> Prop}{L:List bD}{k k':Nat}{N:FN}{env:Env}
variable{d:Option Nat}{ty:Nat}{g:Option (Nat × Bool)}
theorem qb{t:TypeId}(hk:aB c k=some (d,.buildSlice t 0 #[],ty,g))(hF:Fr a N env)(hg:bU c g env=some true)(hd:jW d N=true)(lI:k+1=k'){e size:Nat}(ht:P.underlying t=some (.slice e))(hi:(P.info? e).map (λi=>i.size)=some size)(hM:Mem S w0 w L)(h:∀b w',w0.heap.size<=b->w.heap.size<=b->Mem S w0 w' (L++[.row e size (some (aZ b)) 0 0 []])->Mem bI w w' [.row e size (some (aZ b)) 0 0 []]->∀a',a'=a.put d (vS (some (aZ b)) 0 0)->Fr a' N (eJ env d (vS (some (aZ b)) 0 0))->bL P c K Q k' a' w'):bL P c K Q k a w:=by
 subst lI;have o6:(bD.row e size (some (aZ w.heap.size)) 0 0 []).holds (w.alloc (.cells #[] e)):=by have:=World.ownsRow_lit (base:=0) (e:=e) (size:=size) w #[] 0 (cI _) (by simp only[maxLen];omega) sI;show World.ownsRow _ _ _ _ _ _ _;simpa using this
 have hm:Mem bI w (w.alloc (.cells #[] e)) [.row e size (some (aZ w.heap.size)) 0 0 []]:=by refine(Mem.alloc w e []).say 0 rfl (λ_=>o6) ?_;rintro g' ⟨a',pS,rfl⟩;injection pS with pS;subst pS;rfl
 refine lP hk hF hg (v:=vS (some (aZ w.heap.size)) 0 0) (w':=w.alloc (.cells #[] e)) (λo ho _=> ?_) (h w.heap.size (w.alloc (.cells #[] e)) hM.size (cH _) (hM.call hm) hm _ rfl (hF.put hd _));unfold execOp;rw[ho];cases tc:P.info? e with
 |none=>simp[tc]at hi
 |some inf=>
  have hs0:(sizeOf e).run P w= .ok inf.size w:=by simp[sizeOf,typeInfo,tc]
  simp only[C8,qG,Instr.buildSlice,gG,iM ht,hs0,ig,xK,Nat.reducePow,gt_iff_lt,eL,mJ,mM,o7,show Array.range 0=#[]from rfl,Array.toList_empty,Instr.fill,newRow,run_newObj];rfl
end
end Go.Mor
namespace Go.Mor
open List
open List renaming length -> ae
open Go.RowKit
def Qb6(P:Program)(c:Code)(N:FN)(n k:Nat)(env:Env):Env:=match gz P c N n k env with
 |some e=>e
 |none=>[]
def isS{α:Type}:Option α->Bool
 |some _=>true
 |none=>false
def Qe9:Env->List Nat
 |[]=>[]
 |(k,_)::r=>k::Qe9 r
def DH(c:Code)(env:Env):Option Value:=match kind c with
 | .cond (.tmp t)=>look env t
 |_=>none
def szE(c:Code):Nat:=(opsOf c).size
def srE(c:Code):Bool:=match kind c,kind (Code.l c)with| .seq,.region false=>true|_,_=>false
def cmE(c:Code)(N:FN)(env:Env)(k:Nat):Option Bool:=match aB c k with
 |some (d,.binOp op _ x y _,_,g)=>match bU c g env,jW d N,ev env x,ev env y with
  |some true,true,some (.int kd i),some (.int kd' j)=>match decide (kd=kd')with
   |true=>V1 op i j
   |false=>none
  |_,_,_,_=>none
 |_=>none
def stE(P:Program)(c:Code)(N:FN)(env:Env)(k:Nat):Option (Option Nat×Addr×Value):=match aB c k with
 |some (d,.store t x y,_,g)=>match bU c g env,jW d N,C1 P t,ev env x,ev env y with
  |some true,true,true,some (.pointer (some ad)),some v=>match v.oneCell' with
   |true=>some (d,ad,v)
   |false=>none
  |_,_,_,_,_=>none
 |_=>none
def rsE(fn:Func)(env:Env):Option Value:=match fn.results.toList with
 |[.tmp t]=>look env t
 |_=>none
def QjH(fn:Func)(env:Env):Option (Value×Value):=match fn.results.toList with
 |[.tmp t,.tmp u]=>match look env t,look env u with
  |some v,some v'=>some (v,v')
  |_,_=>none
 |_=>none
section
variable{P:Program}{c:Code}{K:Act -> World -> Prop}{Q:Exit -> Act -> World -> Prop}{w w0:World}{S:Nat -> Prop}{L:List bD}{k:Nat}{N:FN}{env:Env}
theorem an(n:Nat)(h:∀a,Fr a N (Qb6 P c N n k env)->bL P c K Q (k+n) a w)(hp:isS (gz P c N n k env)=true:=by kernel_rfl):∀a,Fr a N env->bL P c K Q k a w:=by
 intro a hF;unfold Qb6 at h;cases hr:gz P c N n k env with
 |none=>rw[hr]at hp;cases hp
 |some e=>
  rw[hr]at h;exact xB n k hF hr h
theorem cT(HH:Env){G:Act->Prop}(h:∀a,Fr a N HH->G a)(hk:p5 (Qe9 HH) env=HH:=by kernel_rfl):∀a,Fr a N env->G a:=λa hF=>h a (hF.keep hk)
theorem aE(h:∀a,Fr a N env->K a w)(hk:aB c k=none:=by kernel_rfl):∀a,Fr a N env->bL P c K Q k a w:=λa hF=>aX hk (h a hF)
theorem bt(h:∀a,Fr a N env->W P (Code.l c) (λa w=>W P (Code.r c) K Q a w) Q a w)(hk:kind c= .seq:=by kernel_rfl):∀a,Fr a N env->W P c K Q a w:=λa hF=>Qe4 hk (h a hF)
theorem dR(h:∀a,Fr a N env->bL P c K Q 0 a w)(hk:kind c= .region false:=by kernel_rfl):∀a,Fr a N env->W P c K Q a w:=λa hF=>Kg hk (h a hF)
theorem aV(h:∀a,Fr a N env->bL P (Code.l c) (λa w=>W P (Code.r c) K Q a w) Q 0 a w)(hk:srE c=true:=by kernel_rfl):∀a,Fr a N env->W P c K Q a w:=λa hF=>QmV hk (h a hF)
theorem br(h:∀a,Fr a N (Qb6 P (Code.l c) N (szE (Code.l c)) 0 env)->W P (Code.r c) K Q a w)(hk:srE c=true:=by kernel_rfl)(hp:isS (gz P (Code.l c) N (szE (Code.l c)) 0 env)=true:=by kernel_rfl):∀a,Fr a N env->W P c K Q a w:=by
 refine aV (an _ (λa hF=>aX ?_ (h a hF)) hp) hk;simp[aB,szE]
theorem zt(h:∀a,Fr a N (Qb6 P c N (szE c) 0 env)->K a w)(hk:kind c= .region false:=by kernel_rfl)(hp:isS (gz P c N (szE c) 0 env)=true:=by kernel_rfl):∀a,Fr a N env->W P c K Q a w:=by
 refine dR (an _ (λa hF=>aX ?_ (h a hF)) hp) hk;simp[aB,szE]
theorem cE(h:∀a,Fr a N env->K a w)(hk:kind c= .skip:=by kernel_rfl):∀a,Fr a N env->W P c K Q a w:=λa hF=>Qgn hk (h a hF)
theorem cv(h:∀a,Fr a N env->Q .ret a w)(hk:kind c= .ret:=by kernel_rfl):∀a,Fr a N env->W P c K Q a w:=λa hF=>Qjt hk (h a hF)
theorem gZ(id:Nat)(h:∀a,Fr a N env->Q (.exit id) a w)(hk:kind c= .exit id:=by kernel_rfl):∀a,Fr a N env->W P c K Q a w:=λa hF=>Qgo hk (h a hF)
theorem df(id:Nat)(h:∀a,Fr a N env->W P (Code.l c) K (inB id K Q) a w)(hk:kind c= .block id:=by kernel_rfl):∀a,Fr a N env->W P c K Q a w:=λa hF=>Qbh hk (h a hF)
theorem dX{id:Nat}(h:∀a,Fr a N env->Q .ret a w):∀a,Fr a N env->inB id K Q .ret a w:=h
theorem ia{id V0:Nat}(h:∀a,Fr a N env->K a w)(e:Nat.beq V0 id=true:=by rfl):∀a,Fr a N env->inB id K Q (.exit V0) a w:=λa hF=>Qbj e (h a hF)
theorem zu{v:Value}(h:DH c env=some v):∃t,kind c= .cond (.tmp t)/\look env t=some v:=by
 unfold DH at h;split at h
 ·rename_i t ht;exact⟨t,ht,h⟩
 ·cases h
theorem jc(h:∀a,Fr a N env->W P (Code.l c) K Q a w)(hk:DH c env=some (vB true):=by kernel_rfl):∀a,Fr a N env->W P c K Q a w:=λa hF=>by
 obtain⟨t,h1,h2⟩:=zu hk;exact Nz h1 hF h2 (λ_=>h a hF) (λh=>Bool.noConfusion h)
theorem jG(h:∀a,Fr a N env->W P (Code.r c) K Q a w)(hk:DH c env=some (vB false):=by kernel_rfl):∀a,Fr a N env->W P c K Q a w:=λa hF=>by
 obtain⟨t,h1,h2⟩:=zu hk;exact Nz h1 hF h2 (λh=>Bool.noConfusion h) (λ_=>h a hF)
theorem fZ(e:Bool)(R:Prop)(i:e=true↔R)(ht:R->∀a,Fr a N env->W P (Code.l c) K Q a w)(hf:¬R->∀a,Fr a N env->W P (Code.r c) K Q a w)(hk:DH c env=some (vB e):=by kernel_rfl):∀a,Fr a N env->W P c K Q a w:=λa hF=>by
 obtain⟨t,h1,h2⟩:=zu hk;exact QbE h1 hF h2 i (λr=>ht r a hF) (λr=>hf r a hF)
theorem iY(R:Prop)[Decidable R](ht:R->∀a,Fr a N env->W P (Code.l c) K Q a w)(hf:¬R->∀a,Fr a N env->W P (Code.r c) K Q a w)(hk:DH c env=some (vB (decide R)):=by kernel_rfl):∀a,Fr a N env->W P c K Q a w:=fZ (decide R) R decide_eq_true_iff ht hf hk
theorem bH(ad:Addr)(v:Value)(hc:w.cell? ad=some v)(h:∀a,Fr a N (eJ env (bC c k) v)->bL P c K Q (k+1) a w)(hk:ldE P c N env k=some (bC c k,ad):=by kernel_rfl):∀a,Fr a N env->bL P c K Q k a w:=λ_ hF=>bJ _ ad hF hk v hc h
theorem k8(ad:Addr)(vs:bh)(hc:∀j v,vs[j]?=some v->w.cell? (ad.add j)=some v)(h:∀a,Fr a N (eJ env (bC c k) (.agg vs.toArray))->bL P c K Q (k+1) a w)(hk:lsE P c N env k=some (bC c k,ad,some (ae vs)):=by kernel_rfl):∀a,Fr a N env->bL P c K Q k a w:=λ_ hF=>QbD _ ad vs hF hk hc h
theorem ga(ad:Addr)(n size:Nat)(i:Int)(h:∀a,Fr a N (eJ env (bC c k) (vP (ad.add (i.toNat*size))))->bL P c K Q (k+1) a w)(h0:0<=i:=by omega)(h1:i<n:=by omega)(hk:ixE P c N env k=some (bC c k,some ad,n,size,i):=by kernel_rfl):∀a,Fr a N env->bL P c K Q k a w:=λ_ hF=>r7 _ ad n size i hF hk h0 h1 h
theorem eX(z:Int)(h:∀a,Fr a N (eJ env (bC c k) (vI z))->bL P c K Q (k+1) a w)(h1: -9223372036854775808<=z:=by omega)(h2:z<=9223372036854775807:=by omega)(hk:arE c N env k=some (bC c k,z):=by kernel_rfl):∀a,Fr a N env->bL P c K Q k a w:=λ_ hF=>r8 _ z hF hk rfl h1 h2 h
theorem QH{b:Bool}(h:cmE c N env k=some b):∃d op t x y t' ty g kd i j,aB c k=some (d,.binOp op t x y t',ty,g)/\bU c g env=some true/\jW d N=true/\ev env x=some (.int kd i)/\ev env y=some (.int kd j)/\V1 op i j=some b:=by
 unfold cmE at h;split at h
 ·rename_i h0;split at h
  ·rename_i h1 h2 h3 h4;split at h
   ·rename_i h5;have:=cf h5;subst this;exact⟨_,_,_,_,_,_,_,_,_,_,_,h0,h1,h2,h3,h4,h⟩
   ·cases h
  ·cases h
 ·cases h
theorem mz(b:Bool)(h:∀B,B=b->∀a,Fr a N (eJ env (bC c k) (vB B))->bL P c K Q (k+1) a w)(hk:cmE c N env k=some b:=by kernel_rfl):∀a,Fr a N env->bL P c K Q k a w:=λa hF=>by
 obtain⟨d,op,t,x,y,t',ty,g,kd,i,j,h0,h1,h2,h3,h4,h5⟩:=QH hk;have hd:bC c k=d:=by unfold aB at h0;unfold bC;cases ho:(opsOf c)[k]?<;>rw[ho]at h0<;>simp at h0⊢;exact h0.1
 rw[hd]at h;exact Ki h0 hF h1 h2 rfl h3 h4 h5 (λB hB a' _=>h B hB a')
theorem eV{f:FuncId}{vs:Array Value}{Φ:Value->World->Prop}(hc:Calls P f vs w (gp Φ))(h:∀v w',Φ v w'->∀a,Fr a N (eJ env (bC c k) v)->bL P c K Q (k+1) a w')(hk:clE P c N env k=some (bC c k,f,vs):=by kernel_rfl):∀a,Fr a N env->bL P c K Q k a w:=λ_ hF=>r9 _ f vs.toList hF hk hc h
theorem QI{d:Option Nat}{ad:Addr}{v:Value}(h:stE P c N env k=some (d,ad,v)):∃t x y ty g,aB c k=some (d,.store t x y,ty,g)/\bU c g env=some true/\jW d N=true/\C1 P t=true/\ev env x=some (vP ad)/\ev env y=some v/\v.oneCell'=true:=by
 unfold stE at h;split at h
 ·rename_i h0;split at h
  ·rename_i h1 h2 h3 h4 h5;split at h
   ·rename_i h6;simp only[eO,dg]at h;obtain⟨rfl,rfl,rfl⟩:=h;exact⟨_,_,_,_,_,h0,h1,h2,h3,h4,h5,h6⟩
   ·cases h
  ·cases h
 ·cases h
theorem sf(hM:Mem S w0 w L)(i:Nat)(off:Nat)(v:Value){b t0:Nat}{cs:bh}(hi:L[i]?=some (.aM b t0 cs))(h:∀w',Mem S w0 w' (L.set i (.aM b t0 (cs.set off v)))->∀a,Fr a N (eJ env (bC c k) undef)->bL P c K Q (k+1) a w')(ho:off<ae cs:=by decide)(hk:stE P c N env k=some (bC c k,(aq b off),v):=by kernel_rfl):∀a,Fr a N env->bL P c K Q k a w:=λa hF=>by
 obtain⟨t,x,y,ty,g,h0,h1,h2,h3,h4,h5,h6⟩:=QI hk;exact iO h0 hF h1 h2 rfl h4 h5 h3 h6 hM i hi ho (λw' Xa _ a' _=>h w' Xa a')
theorem DI(hM:Mem S w0 w L)(i:Nat)(ad':Addr)(j:Nat)(v:Value){e size n cap:Nat}{ad:Addr}{xs:bh}(hi:L[i]?=some (.row e size (some ad) n cap xs))(had:ad'=ad.add j)(hj:j<n*size)(h:∀w',Mem S w0 w' (L.set i (.row e size (some ad) n cap (xs.set j v)))->∀a,Fr a N (eJ env (bC c k) undef)->bL P c K Q (k+1) a w')(hk:stE P c N env k=some (bC c k,ad',v):=by kernel_rfl):∀a,Fr a N env->bL P c K Q k a w:=λa hF=>by
 obtain⟨t,x,y,ty,g,h0,h1,h2,h3,h4,h5,h6⟩:=QI hk;exact gh h0 hF h1 h2 rfl h4 had h5 h3 h6 hM i hi hj (λw' Xa _ a' _=>h w' Xa a')
end
section
variable{P:Program}{w:World}{N:FN}{env:Env}{fn:Func}{Φ:Value -> World -> Prop}
theorem dq(v:Value)(h:Φ v w)(hk:rsE fn env=some v:=by kernel_rfl)(hD:N.D=[]:=by rfl):∀a,Fr a N env->bodyPost P fn (gp Φ) .ret a w:=λa hF=>by
 unfold rsE at hk;split at hk
 ·rename_i t ht;exact QmR hF (by apply o4;simpa using ht) hk ⟨v,rfl,h⟩ hD
 ·cases hk
theorem lH(v v':Value)(h:Φ (.tuple #[v,v']) w)(hk:QjH fn env=some (v,v'):=by kernel_rfl)(hD:N.D=[]:=by rfl):∀a,Fr a N env->bodyPost P fn (gp Φ) .ret a w:=λa hF=>by
 unfold QjH at hk;split at hk
 ·rename_i t u ht;split at hk
  ·rename_i h1 h2;simp only[eO,dg]at hk;obtain⟨rfl,rfl⟩:=hk;exact QmS hF (by apply o4;simpa using ht) h1 h2 ⟨_,rfl,h⟩ hD
  ·cases hk
 ·cases hk
theorem zo0(h:Φ (.tuple #[]) w)(hk:fn.results=#[]:=by rfl)(hD:N.D=[]:=by rfl):∀a,Fr a N env->bodyPost P fn (gp Φ) .normal a w:=λ_ hF=>QmT hF hk ⟨_,rfl,h⟩ hD
theorem iI{f:FuncId}(N:FN)(vs:bh)(hf:P.funcs[f]?=some fn)(h:∀a,Fr a N (Sh 0 vs)->W P (HU fn) (bodyPost P fn (gp Φ) .normal) (bodyPost P fn (gp Φ)) a w)(hb:fn.body.isSome=true:=by kernel_rfl)(hn:Nat.beq fn.ntmps N.n=true:=by kernel_rfl)(hl:Nat.ble (ae vs) N.n=true:=by kernel_rfl)(hD:N.D=[]:=by rfl):Calls P f vs.toArray w (gp Φ):=enter hf hb hn hl h hD
end
def dvE:Spec->Option Value
 | .bd u=>some u
 |_=>none
def p1E(P:Program)(c:Code)(N:FN)(i:Nat)(env:Env):Option Value:=match aB c i with
 |some (d,op,_,g)=>match bU c g env,jW d N with
  |some true,true=>tz P env op
  |_,_=>none
 |none=>none
def n5(c:Code)(i:Nat)(env:Env):Option Bool:=match aB c i with
 |some (_,_,_,g)=>bU c g env
 |none=>none
theorem IE{c:Code}{i:Nat}{env:Env}{b:Bool}(h:n5 c i env=some b):∀g,(aB c i).map (·.2.2.2)=some g->bU c g env=some b:=by
 intro g hg;unfold n5 at h;split at h
 ·rename_i h0;rw[h0]at hg;simp only[ft,eO]at hg;subst hg;exact h
 ·cases h
theorem vA{E F:Env}{t:Nat}{v:Value}(h:look E t=some v):look (E++F) t=some v:=by
 induction E with
 |nil=>cases h
 |cons x r ih=>
  obtain⟨k,u⟩:=x;simp only[y7,look]at h⊢;cases hq:Nat.beq k t with
  |true=>rw[hq]at h;exact h
  |false=>rw[hq]at h;exact ih h
section
variable{P:Program}{c:Code}{Q:Exit -> Act -> World -> Prop}{N:FN}{i:Nat}{env0:Env}{wr:World}{sp:Nat -> Spec}
theorem Fr.left{a:Act}{E F:Env}(h:Fr a N (E++F)):Fr a N E:=⟨h.defers,h.size,λt v hv=>h.slot t v (vA hv)⟩
theorem wz{g:Option (Nat×Bool)}{E F:Env}{b:Bool}(h:bU c g E=some b):bU c g (E++F)=some b:=by
 unfold bU at h⊢;cases g with
 |none=>exact h
 |some p=>
  obtain⟨j,want⟩:=p;simp only at h⊢;cases hd:((opsOf c)[j]?).bind (·.dst)with
  |none=>rw[hd]at h;cases h
  |some d=>
   rw[hd]at h;simp only at h⊢;cases hl:look E d with
   |none=>rw[hl]at h;cases h
   |some v=>
    rw[hl]at h;rw[vA hl];exact h
theorem vC(hg:∀vs,n5 c i (cO c i sp vs env0)=some true)(h:∀(w:World) (vs:Nat->Value),Kp wr w->(∀j,j∈eo c i->(sp j).ok (vs j) w)->∀a,Fr a N (cO c i sp vs env0)->bL P (one c i) (λa' w'=>∃v,a'=a.put (bC c i) v/\Kp w w'/\(sp i).ok v w') Q 0 a w):l8 P c Q N env0 wr sp i:=by
 intro a w vs rest hK hp hF;exact⟨true,λg rG=>wz (IE (hg vs) g rG),λ_=>h w vs hK hp a hF.left,λh=>Bool.noConfusion h⟩
theorem Oj{o:Option Nat×Op×Nat×Option (Nat×Bool)}(h:aB c i=some o):aB (one c i) 0=some (o.1,o.2.1,o.2.2.1,none)/\bC c i=o.1:=by
 unfold aB at h;cases ho:(opsOf c)[i]? with
 |none=>rw[ho]at h;cases h
 |some q=>
  rw[ho]at h;simp only[ft,eO]at h;subst h;constructor
  ·unfold aB;rw[xE ho];rfl
  ·simp[bC,ho]
theorem QJ{k:Nat}{o:Option Nat×Op×Nat×Option (Nat×Bool)}(h:aB c i=some o):aB (one c i) (k+1)=none:=by
 unfold aB at h⊢;cases ho:(opsOf c)[i]? with
 |none=>rw[ho]at h;cases h
 |some q=>
  rw[xE ho];simp
theorem dP(h:∀vs,p1E P c N i (cO c i sp vs env0)=dvE (sp i):=by intro _;kernel_rfl)(h2:isS (dvE (sp i))=true:=by kernel_rfl):l8 P c Q N env0 wr sp i:=by
 have key:∀vs,∃d op ty g v,aB c i=some (d,op,ty,g)/\bU c g (cO c i sp vs env0)=some true/\jW d N=true/\tz P (cO c i sp vs env0) op=some v/\sp i= .bd v:=by
  intro vs;have h3:=h vs;cases hs:sp i with
  |any Φ hh=>rw[hs]at h2;cases h2
  |bd u=>
   rw[hs]at h3;unfold p1E dvE at h3;simp only at h3;split at h3
   ·rename_i h4;split at h3
    ·rename_i h5 h6;exact⟨_,_,_,_,u,h4,h5,h6,h3,rfl⟩
    ·cases h3
   ·cases h3
 refine vC (λvs=> ?_) (λw vs hK hp a hF=> ?_)
 ·obtain⟨d,op,ty,g,v,h1,h2,_⟩:=key vs;unfold n5;rw[h1];exact h2
 ·obtain⟨d,op,ty,g,v,h1,h2,h3,h4,h5⟩:=key vs;obtain⟨e1,e2⟩:=Oj h1;refine ij e1 hF rfl h3 rfl h4 (λa' ea _=>aX (QJ h1) ⟨v,?_,Kp.refl w,?_⟩)
  ·rw[e2];exact ea
  ·rw[h5];rfl
theorem QK{k:Nat}{c:Code}{env:Env}{d:Option Nat}{ad:Addr}(hk:ldE P c N env k=some (d,ad)):∃t x ty g,aB c k=some (d,.load t x,ty,g)/\bU c g env=some true/\jW d N=true/\C1 P t=true/\ev env x=some (vP ad):=by
 unfold ldE at hk;split at hk
 ·rename_i h0;split at hk
  ·rename_i h1 h2 h3 h4;simp only[eO,dg]at hk;obtain⟨rfl,rfl⟩:=hk;exact⟨_,_,_,_,h0,h1,h2,h3,h4⟩
  ·cases hk
 ·cases hk
theorem Qb7{k:Nat}{c:Code}{env:Env}{d:Option Nat}{ad:Addr}{n:Nat}(hk:lsE P c N env k=some (d,ad,some n)):∃t x ty g,aB c k=some (d,.load t x,ty,g)/\bU c g env=some true/\jW d N=true/\y5 P t=some n/\ev env x=some (vP ad):=by
 unfold lsE at hk;split at hk
 ·rename_i h0;split at hk
  ·rename_i h1 h2 h4;simp only[eO,dg]at hk;obtain⟨rfl,rfl,h3⟩:=hk;exact⟨_,_,_,_,h0,h1,h2,h3,h4⟩
  ·cases hk
 ·cases hk
theorem QL{k:Nat}{c:Code}{env:Env}{d:Option Nat}{A:ar}{n size:Nat}{j:Int}(hk:ixE P c N env k=some (d,A,n,size,j)):∃t x y ty g cap e kd,aB c k=some (d,.indexAddr t x y,ty,g)/\bU c g env=some true/\jW d N=true/\ev env x=some (vS A n cap)/\ev env y=some (.int kd j)/\P.underlying t=some (.slice e)/\(P.info? e).map (·.size)=some size:=by
 unfold ixE at hk;split at hk
 ·rename_i g0;split at hk
  ·rename_i g1 g2 g3 g4;split at hk
   ·rename_i e ht;split at hk
    ·rename_i inf hs;simp only[eO,dg]at hk;obtain⟨rfl,rfl,rfl,rfl,rfl⟩:=hk;exact⟨_,_,_,_,_,_,_,_,g0,g1,g2,g3,g4,ht,by rw[hs];rfl⟩
    ·cases hk
   ·cases hk
  ·cases hk
 ·cases hk
theorem QM{k:Nat}{c:Code}{env:Env}{d:Option Nat}{z:Int}(hk:arE c N env k=some (d,z)):∃op t x y t' ty g i j,aB c k=some (d,.binOp op t x y t',ty,g)/\bU c g env=some true/\jW d N=true/\ev env x=some (vI i)/\ev env y=some (vI j)/\arI op i j=some z:=by
 unfold arE at hk;split at hk
 ·rename_i g0;split at hk
  ·rename_i g1 g2 g3 g4;split at hk
   ·rename_i z hz;simp only[eO,dg]at hk;obtain⟨rfl,rfl⟩:=hk;exact⟨_,_,_,_,_,_,_,_,_,g0,g1,g2,g3,g4,hz⟩
   ·cases hk
  ·cases hk
 ·cases hk
theorem dL(ad:Addr)(v:Value)(hc:∀w',Kp wr w'->w'.cell? ad=some v)(hv:sp i= .bd v:=by rfl)(hg:∀vs,n5 c i (cO c i sp vs env0)=some true:=by intro _;kernel_rfl)(hk:∀vs,ldE P (one c i) N (cO c i sp vs env0) 0=some (bC c i,ad):=by intro _;kernel_rfl)(he:aB (one c i) 1=none:=by kernel_rfl):l8 P c Q N env0 wr sp i:=by
 refine vC hg (λw vs hK hp a hF=> ?_);obtain⟨t,x,ty,g,h0,h1,h2,h3,h4⟩:=QK (hk vs);exact vW h0 hF h1 h2 rfl h4 h3 (hc w hK) (λa' ea _=>aX he ⟨v,ea,Kp.refl w,by rw[hv];rfl⟩)
theorem dS(ad:Addr)(vs:bh)(hc:∀w',Kp wr w'->∀j v,vs[j]?=some v->w'.cell? (ad.add j)=some v)(hv:sp i= .bd (.agg vs.toArray):=by rfl)(hg:∀vs,n5 c i (cO c i sp vs env0)=some true:=by intro _;kernel_rfl)(hk:∀vs',lsE P (one c i) N (cO c i sp vs' env0) 0=some (bC c i,ad,some (ae vs)):=by intro _;kernel_rfl)(he:aB (one c i) 1=none:=by kernel_rfl):l8 P c Q N env0 wr sp i:=by
 refine vC hg (λw vs' hK hp a hF=> ?_);obtain⟨t,x,ty,g,h0,h1,h2,h3,h4⟩:=Qb7 (hk vs');exact jy h0 hF h1 h2 rfl h4 h3 (hc w hK) (λa' ea _=>aX he ⟨_,ea,Kp.refl w,by rw[hv];rfl⟩)
theorem dI(ad:Addr)(n size:Nat)(j:Int)(h0:0<=j:=by omega)(h1:j<n:=by omega)(hv:sp i= .bd (vP (ad.add (j.toNat*size))):=by rfl)(hg:∀vs,n5 c i (cO c i sp vs env0)=some true:=by intro _;kernel_rfl)(hk:∀vs,ixE P (one c i) N (cO c i sp vs env0) 0=some (bC c i,some ad,n,size,j):=by intro _;kernel_rfl)(he:aB (one c i) 1=none:=by kernel_rfl):l8 P c Q N env0 wr sp i:=by
 refine vC hg (λw vs hK hp a hF=> ?_);obtain⟨t,x,y,ty,g,cap,e,kd,g0,g1,g2,g3,g4,g5,g6⟩:=QL (hk vs);exact vX g0 hF g1 g2 rfl g3 g4 rfl g5 g6 h0 h1 (λa' ea _=>aX he ⟨_,ea,Kp.refl w,by rw[hv];rfl⟩)
theorem dA(z:Int)(h1: -9223372036854775808<=z:=by omega)(h2:z<=9223372036854775807:=by omega)(hv:sp i= .bd (vI z):=by rfl)(hg:∀vs,n5 c i (cO c i sp vs env0)=some true:=by intro _;kernel_rfl)(hk:∀vs,arE (one c i) N (cO c i sp vs env0) 0=some (bC c i,z):=by intro _;kernel_rfl)(he:aB (one c i) 1=none:=by kernel_rfl):l8 P c Q N env0 wr sp i:=by
 refine vC hg (λw vs hK hp a hF=> ?_);obtain⟨op,t,x,y,t',ty,g,i1,j1,g0,g1,g2,g3,g4,g5⟩:=QM (hk vs);exact j5 g0 hF g1 g2 rfl g3 g4 g5 h1 h2 (λa' ea _=>aX he ⟨_,ea,Kp.refl w,by rw[hv];rfl⟩)
theorem dC(b:Bool){B:Bool}(hb:B=b)(hv:sp i= .bd (vB B):=by rfl)(hg:∀vs,n5 c i (cO c i sp vs env0)=some true:=by intro _;kernel_rfl)(hk:∀vs,cmE (one c i) N (cO c i sp vs env0) 0=some b:=by intro _;kernel_rfl)(he:aB (one c i) 1=none:=by kernel_rfl):l8 P c Q N env0 wr sp i:=by
 refine vC hg (λw vs hK hp a hF=> ?_);obtain⟨d,op,t,x,y,t',ty,g,kd,i1,j1,g0,g1,g2,g3,g4,g5⟩:=QH (hk vs);have hd:bC c i=d:=by
  cases hc:aB c i with
  |none=>
   have:=hg vs;unfold n5 at this;rw[hc]at this;cases this
  |some o=>
   obtain⟨e1,e2⟩:=Oj hc;rw[e1]at g0;simp only[eO,dg]at g0;rw[e2,g0.1]
 exact Ki g0 hF g1 g2 rfl g3 g4 g5 (λB' hB' a' ea _=>aX he ⟨_,by rw[hd];exact ea,Kp.refl w,by rw[hv,hB',hb];rfl⟩)
end
section
variable{P:Program}{c:Code}{Q:Exit -> Act -> World -> Prop}{N:FN}{i:Nat}{env0:Env}{sp:Nat -> Spec}{J:(Nat -> Bool) -> (Nat -> Value) -> World -> Prop}
theorem IG(hg:∀vs,n5 c i (cO c i sp vs env0)=some true)(h:∀(w:World) (ls:Nat->Bool) (vs:Nat->Value),J ls vs w->ls i=false->qK c ls->(∀j,j∈eo c i->ls j=true/\(sp j).ok (vs j) w)->∀a,Fr a N (cO c i sp vs env0)->bL P (one c i) (λa' w'=>∃v,a'=a.put (bC c i) v/\(sp i).ok v w'/\J (qJ ls i) (wb vs i v) w') Q 0 a w):sS P c Q N env0 sp J i:=by
 intro a w ls vs rest hJ hi hc hp hF;exact⟨true,λg rG=>wz (IE (hg vs) g rG),λ_=>h w ls vs hJ hi hc hp a hF.left,λh=>Bool.noConfusion h⟩
theorem dPJ(hJ:∀ls vs v w,J ls vs w->J (qJ ls i) (wb vs i v) w)(h:∀vs,p1E P c N i (cO c i sp vs env0)=dvE (sp i):=by intro _;kernel_rfl)(h2:isS (dvE (sp i))=true:=by kernel_rfl):sS P c Q N env0 sp J i:=by
 have key:∀vs,∃d op ty g v,aB c i=some (d,op,ty,g)/\bU c g (cO c i sp vs env0)=some true/\jW d N=true/\tz P (cO c i sp vs env0) op=some v/\sp i= .bd v:=by
  intro vs;have h3:=h vs;cases hs:sp i with
  |any Φ hh=>rw[hs]at h2;cases h2
  |bd u=>
   rw[hs]at h3;unfold p1E dvE at h3;simp only at h3;split at h3
   ·rename_i h4;split at h3
    ·rename_i h5 h6;exact⟨_,_,_,_,u,h4,h5,h6,h3,rfl⟩
    ·cases h3
   ·cases h3
 refine IG (λvs=> ?_) (λw ls vs hj hi hc hp a hF=> ?_)
 ·obtain⟨d,op,ty,g,v,h1,h2,_⟩:=key vs;unfold n5;rw[h1];exact h2
 ·obtain⟨d,op,ty,g,v,h1,h2,h3,h4,h5⟩:=key vs;obtain⟨e1,e2⟩:=Oj h1;refine ij e1 hF rfl h3 rfl h4 (λa' ea _=>aX (QJ h1) ⟨v,?_,?_,hJ _ _ _ _ hj⟩)
  ·rw[e2];exact ea
  ·rw[h5];rfl
theorem Az(ad:Addr)(n size:Nat)(j:Int)(hJ:∀ls vs v w,J ls vs w->J (qJ ls i) (wb vs i v) w)(h0:0<=j:=by omega)(h1:j<n:=by omega)(hv:sp i= .bd (vP (ad.add (j.toNat*size))):=by rfl)(hg:∀vs,n5 c i (cO c i sp vs env0)=some true:=by intro _;kernel_rfl)(hk:∀vs,ixE P (one c i) N (cO c i sp vs env0) 0=some (bC c i,some ad,n,size,j):=by intro _;kernel_rfl)(he:aB (one c i) 1=none:=by kernel_rfl):sS P c Q N env0 sp J i:=by
 refine IG hg (λw ls vs hj hi hc hp a hF=> ?_);obtain⟨t,x,y,ty,g,cap,e,kd,g0,g1,g2,g3,g4,g5,g6⟩:=QL (hk vs);exact vX g0 hF g1 g2 rfl g3 g4 rfl g5 g6 h0 h1 (λa' ea _=>aX he ⟨_,ea,by rw[hv];rfl,hJ _ _ _ _ hj⟩)
theorem dAJ(z:Int)(hJ:∀ls vs v w,J ls vs w->J (qJ ls i) (wb vs i v) w)(h1: -9223372036854775808<=z:=by omega)(h2:z<=9223372036854775807:=by omega)(hv:sp i= .bd (vI z):=by rfl)(hg:∀vs,n5 c i (cO c i sp vs env0)=some true:=by intro _;kernel_rfl)(hk:∀vs,arE (one c i) N (cO c i sp vs env0) 0=some (bC c i,z):=by intro _;kernel_rfl)(he:aB (one c i) 1=none:=by kernel_rfl):sS P c Q N env0 sp J i:=by
 refine IG hg (λw ls vs hj hi hc hp a hF=> ?_);obtain⟨op,t,x,y,t',ty,g,i1,j1,g0,g1,g2,g3,g4,g5⟩:=QM (hk vs);exact j5 g0 hF g1 g2 rfl g3 g4 g5 h1 h2 (λa' ea _=>aX he ⟨_,ea,by rw[hv];rfl,hJ _ _ _ _ hj⟩)
theorem pz(ad:Addr)(v:Value)(hJ:∀ls vs v w,J ls vs w->J (qJ ls i) (wb vs i v) w)(hc:∀w ls vs,J ls vs w->ls i=false->qK c ls->(∀j,j∈eo c i->ls j=true)->w.cell? ad=some v)(hv:sp i= .bd v:=by rfl)(hg:∀vs,n5 c i (cO c i sp vs env0)=some true:=by intro _;kernel_rfl)(hk:∀vs,ldE P (one c i) N (cO c i sp vs env0) 0=some (bC c i,ad):=by intro _;kernel_rfl)(he:aB (one c i) 1=none:=by kernel_rfl):sS P c Q N env0 sp J i:=by
 refine IG hg (λw ls vs hj hi Af hp a hF=> ?_);obtain⟨t,x,ty,g,h0,h1,h2,h3,h4⟩:=QK (hk vs);exact vW h0 hF h1 h2 rfl h4 h3 (hc w ls vs hj hi Af (λj NI=>(hp j NI).1)) (λa' ea _=>aX he ⟨v,ea,by rw[hv];rfl,hJ _ _ _ _ hj⟩)
end
end Go.Mor
namespace Go.Mor
open List
open List renaming length -> ae
theorem QN{α:Type}[BEq α][LawfulBEq α]{a b:α}(h:false=(a==b)):¬(a=b):=λe=>CB (h.trans (az.2 e))
theorem znn{α:Type}[BEq α][LawfulBEq α]{a b:α}(h:false=(a !=b)):¬(a≠b):=λe=>CB (h.trans (cQ.2 e))
end Go.Mor
namespace Go.Mor
open List
open List renaming length -> ae
open Go.RowKit
abbrev dU:Spec:= .bd undef
theorem lz{p:Nat->Prop}:∀i,i<0->p i:=Kj
theorem la{p:Nat->Prop}{n:Nat}(h:∀i,i<n->p i)(hn:p n):∀i,i<n+1->p i:=Kk h hn
section
variable{P:Program}{c:Code}{Q:Exit -> Act -> World -> Prop}{N:FN}{i:Nat}{env0:Env}{wr:World}{sp:Nat -> Spec}
theorem dK(hv:sp i= .bd undef:=by rfl)(hg:∀vs,n5 c i (cO c i sp vs env0)=some false:=by intro _;kernel_rfl):l8 P c Q N env0 wr sp i:=by
 intro a w vs rest hK hp hF;exact⟨false,λg rG=>wz (IE (hg vs) g rG),λh=>Bool.noConfusion h,λ_=>by rw[hv];rfl⟩
theorem dIA(A:ar)(ad:Addr)(n size:Nat)(j:Int)(hA:A=some ad)(h0:0<=j:=by omega)(h1:j<n:=by omega)(hv:sp i= .bd (vP (ad.add (j.toNat*size))):=by rfl)(hg:∀vs,n5 c i (cO c i sp vs env0)=some true:=by intro _;kernel_rfl)(hk:∀vs,ixE P (one c i) N (cO c i sp vs env0) 0=some (bC c i,A,n,size,j):=by intro _;kernel_rfl)(he:aB (one c i) 1=none:=by kernel_rfl):l8 P c Q N env0 wr sp i:=dI ad n size j h0 h1 hv hg (λvs=>by rw[hk vs,hA]) he
theorem Qb8{k:Nat}{c:Code}{env:Env}{d:Option Nat}{f:FuncId}{vs:Array Value}(hk:clE P c N env k=some (d,f,vs)):∃x args ts ty g us cap,aB c k=some (d,.call {callee:= .value x,args:=args,argTypes:=ts},ty,g)/\bU c g env=some true/\jW d N=true/\ev env x=some (.func (.func f) #[] cap)/\evs env args.toList=some us/\C9 P f=true/\(us++cap.toList).toArray=vs:=by
 unfold clE at hk;split at hk
 ·rename_i d' x args ts ty g g0;split at hk
  ·rename_i f' first cap us g1 g2 g3 g4
   split at hk
   ·rename_i hs hf;simp only[eO,dg]at hk;obtain⟨rfl,rfl,hv⟩:=hk;have NT:first=#[]:=Ie hs
    subst NT;exact⟨x,args,ts,ty,g,us,cap,g0,g1,g2,g3,g4,hf,hv⟩
   ·cases hk
  ·cases hk
 ·cases hk
theorem dD{f:FuncId}{vs:Array Value}{u u':Value}(hc:∀w,Kp wr w->Calls P f vs w (gp λv w'=>v=u/\Mem bI w w' []))(hu:u=u')(hv:sp i= .bd u':=by rfl)(hg:∀vs,n5 c i (cO c i sp vs env0)=some true:=by intro _;kernel_rfl)(hk:∀vs',clE P (one c i) N (cO c i sp vs' env0) 0=some (bC c i,f,vs):=by intro _;kernel_rfl)(he:aB (one c i) 1=none:=by kernel_rfl):l8 P c Q N env0 wr sp i:=by
 refine vC hg (λw vs' hK hp a hF=> ?_);obtain⟨x,args,ts,ty,g,us,cap,g0,g1,g2,g3,g4,g5,g6⟩:=Qb8 (hk vs');refine jQ (Φ:=λv w'=>v=u/\Mem bI w w' []) g0 hF g1 g2 rfl (cap:=cap.toList) (by simpa using g3) g4 g5 (by rw[g6];exact hc w hK) (λv w' hv' a' ea _=>aX he ⟨v,ea,hv'.2,?_⟩);rw[hv,hv'.1];exact hu
end
def mvL:Nat->List bD->List bD
 |0,L=>L
 |_+1,[]=>[]
 |n+1,a::L=>match mvL n L with
  |[]=>[a]
  |b::M=>b::a::M
def odL:List Nat->List bD->List bD
 |[],L=>L
 |i::l,L=>odL l (mvL i L)
def tkL:Nat->List bD->List bD
 |0,_=>[]
 |_+1,[]=>[]
 |n+1,a::L=>a::tkL n L
theorem K0:∀(n:Nat) (L:List bD),L.Perm (mvL n L)
 |0,L=>List.Perm.refl L
 |_+1,[]=>List.Perm.refl []
 |n+1,a::L=>by
  unfold mvL;have h:=K0 n L;cases hm:mvL n L with
  |nil=>rw[hm]at h;exact h.cons a
  |cons b M=>rw[hm]at h;exact(h.cons a).trans (we b a M)
theorem K1:∀(l:List Nat) (L:List bD),L.Perm (odL l L)
 |[],L=>List.Perm.refl L
 |i::l,L=>(K0 i L).trans (K1 l _)
theorem DJ:∀(n:Nat) (L:List bD),vw (List.replicate n true) L=tkL n L
 |0,[]=>rfl
 |0,_::_=>rfl
 |_+1,[]=>rfl
 |n+1,a::L=>by rw[p9];show a::vw (List.replicate n true) L=a::tkL n L;rw[DJ n L]
section
variable{S:Nat -> Prop}{w0 w w':World}{L Lr L':List bD}{r r' s s':bD}
theorem Mem.nf(h:Mem S w0 w L)(e:L=L':=by dsimp only[set_cons_zero,set_cons_succ,cons_append,nil_append]):Mem S w0 w L':=e▸h
theorem Mem.cl(h:Mem S w0 w L)(h':Mem bI w w' Lr)(e:L++Lr=L':=by dsimp only[cons_append,nil_append,append_nil]):Mem S w0 w' L':=e▸h.call h'
theorem Mem.md(h:Mem S w0 w L)(i:Nat)(hi:L[i]?=some r)(h':Mem r.fp w w' (r'::Lr))(e:L.set i r'++Lr=L':=by dsimp only[set_cons_zero,set_cons_succ,cons_append,nil_append,append_nil]):Mem S w0 w' L':=e▸h.mod i hi h'
theorem Mem.od(h:Mem S w0 w L)(l:List Nat)(k:Nat)(e:tkL k (odL l L)=L':=by dsimp only[tkL,odL,mvL]):Mem S w0 w L':=e▸(h.perm (K1 l L)).pick _ (DJ k _)
theorem Mem.tk(h:Mem S w0 w L)(k:Nat)(e:tkL k L=L':=by rfl):Mem S w0 w L':=e▸h.pick _ (DJ k _)
end
abbrev pT(b o:Nat):Value:= .pointer (some (aq b o))
abbrev sM(g:Nat):ar:=some (aZ g)
abbrev nV(k:Nat):Value:=vI (k:Int)
theorem Fr.kp{a:Act}{N:FN}{env:Env}(h:Fr a N env)(keep:List Nat){HH:Env}(e:p5 keep env=HH:=by kernel_rfl):Fr a N HH:=h.keep e
section
variable{P:Program}{c:Code}{K:Act -> World -> Prop}{Q:Exit -> Act -> World -> Prop}{a:Act}{w w0:World}{S:Nat -> Prop}{L:List bD}{k:Nat}{N:FN}{env:Env}
theorem iJ(I:Nat->Act->World->Prop){n:Nat}(h0:I n a w)(round:∀n a w,I n a w->W P (Code.l c) (λa' w'=>∃m,m<n/\I m a' w') Q a w)(hk:kind c= .loop:=by kernel_rfl):W P c K Q a w:=Qgp hk I h0 round
theorem dx(n k':Nat){news:Env}(keys:List Nat)(hF:Fr a N env)(hp:(gz P c N n k env).map (p5 keys)=some news)(h:∀a',Fr a' N (news++env)->bL P c K Q k' a' w)(hc:wi keys env (dstsOf c n k)=true:=by kernel_rfl)(hk:k+n=k':=by rfl):bL P c K Q k a w:=NS n k' keys hF hp hc hk h
def bxE(_P:Program)(c:Code)(N:FN)(env:Env)(k:Nat):Option (Option Nat×TypeId×Value):=match aB c k with
 |some (d,.box t x,_,g)=>match bU c g env,jW d N,ev env x with
  |some true,true,some v=>some (d,t,v)
  |_,_,_=>none
 |_=>none
theorem sU(hM:Mem S w0 w L)(t:TypeId)(v:Value)(cs:bh)(h:∀b w',w0.heap.size<=b->Mem S w0 w' (L++[.aM b t cs])->∀a,Fr a N (eJ env (bC c k) (vP (aZ b)))->bL P c K Q (k+1) a w')(rP:v.cells=cs.toArray:=by rfl)(hk:bxE P c N env k=some (bC c k,t,v):=by kernel_rfl):∀a,Fr a N env->bL P c K Q k a w:=by
 intro a hF;unfold bxE at hk;split at hk
 ·rename_i g0;split at hk
  ·rename_i g1 g2 g3;simp only[eO,dg]at hk;obtain⟨e1,rfl,rfl⟩:=hk;rw[e1]at g0 g2;exact C2 g0 hF g1 g2 rfl g3 rP hM (λb w' hb _ Xa _ a' _ Na=>h b w' hb Xa a' Na)
  ·cases hk
 ·cases hk
def alE(_P:Program)(c:Code)(N:FN)(env:Env)(k:Nat):Option (Option Nat×TypeId):=match aB c k with
 |some (d,.alloc t,_,g)=>match bU c g env,jW d N with
  |some true,true=>some (d,t)
  |_,_=>none
 |_=>none
theorem sV(hM:Mem S w0 w L)(t:TypeId)(cs:bh)(h:∀b w',w0.heap.size<=b->Mem S w0 w' (L++[.aM b t cs])->∀a,Fr a N (eJ env (bC c k) (vP (aZ b)))->bL P c K Q (k+1) a w')(hz:(P.info? t).map (λi=>i.zero.map (λz=>z.cells.toList))=some (some cs):=by kernel_rfl)(hk:alE P c N env k=some (bC c k,t):=by kernel_rfl):∀a,Fr a N env->bL P c K Q k a w:=by
 intro a hF;unfold alE at hk;split at hk
 ·rename_i g0;split at hk
  ·rename_i g1 g2;simp only[eO,dg]at hk;obtain⟨e1,rfl⟩:=hk;rw[e1]at g0 g2;exact C3 g0 hF g1 g2 rfl hz hM (λb w' hb _ Xa _ a' _ Na=>h b w' hb Xa a' Na)
  ·cases hk
 ·cases hk
def ssE(P:Program)(c:Code)(N:FN)(env:Env)(k:Nat):Option (Option Nat×Nat×Nat×Array Value×Option Nat):=match aB c k with
 |some (d,.store t x y,_,g)=>match bU c g env,jW d N,ev env x,ev env y with
  |some true,true,some (.pointer (some ⟨b,o,none⟩)),some (.agg vs)=>some (d,b,o,vs,y5 P t)
  |_,_,_,_=>none
 |_=>none
theorem sW(hM:Mem S w0 w L)(i:Nat)(vs:bh){b t0:Nat}{cs:bh}(hi:L[i]?=some (.aM b t0 cs))(h:∀w',Mem S w0 w' (L.set i (.aM b t0 vs))->∀a,Fr a N (eJ env (bC c k) undef)->bL P c K Q (k+1) a w')(hv:vs.all Value.oneCell'=true:=by rfl)(ho:ae cs=ae vs:=by rfl)(hk:ssE P c N env k=some (bC c k,b,0,vs.toArray,some (ae vs)):=by kernel_rfl):∀a,Fr a N env->bL P c K Q k a w:=by
 intro a hF;unfold ssE at hk;split at hk
 ·rename_i g0;split at hk
  ·rename_i g1 g2 g3 g4;simp only[eO,dg]at hk;obtain⟨e1,rfl,rfl,rfl,e5⟩:=hk;rw[e1]at g0 g2;exact lW g0 hF g1 g2 rfl g3 g4 e5 (gQ.1 hv) hM i hi ho (λw' Xa _ a' _ Na=>h w' Xa a' Na)
  ·cases hk
 ·cases hk
end
section
variable{P:Program}{c:Code}{K:Act -> World -> Prop}{Q:Exit -> Act -> World -> Prop}{N:FN}{env0:Env}{wr:World}{a:Act}
theorem qo(sp:Nat->Spec)(hF:Fr a N env0)(rW:∀i,i<(opsOf c).size->l8 P c Q N env0 wr sp i)(h:∀a' w' (vs:Nat->Value),Kp wr w'->(∀j,j<(opsOf c).size->(sp j).ok (vs j) w')->Fr a' N (sR c sp vs (List.range (opsOf c).size)++xC c env0)->K a' w')(hk:kind c= .region true:=by kernel_rfl)(hm:P.follows .mixedOrders=true:=by kernel_rfl)(hd:mL c=true:=by kernel_rfl)(nI:iT c=true:=by kernel_rfl)(tC:rV env0=true:=by kernel_rfl)(td:(List.range (opsOf c).size).all (λi=>jW (bC c i) N)=true:=by kernel_rfl):W P c K Q a wr:=Qgt hk hm sp hd nI hF tC td rW h
theorem IH(sp:Nat->Spec)(J:(Nat->Bool)->(Nat->Value)->World->Prop)(hF:Fr a N env0)(Dh:∀j v w w',(sp j).ok v w->(sp j).ok v w')(h0:J (λ_=>false) (λ_=>undef) wr.drew)(rW:∀i,i<(opsOf c).size->sS P c Q N env0 sp J i)(h:∀a' w' (ls:Nat->Bool) (vs:Nat->Value),(∀j,j<(opsOf c).size->ls j=true)->J ls vs w'->(∀j,j<(opsOf c).size->(sp j).ok (vs j) w')->Fr a' N (sR c sp vs (List.range (opsOf c).size)++xC c env0)->K a' w')(hk:kind c= .region true:=by kernel_rfl)(hm:P.follows .mixedOrders=true:=by kernel_rfl)(hd:mL c=true:=by kernel_rfl)(nI:iT c=true:=by kernel_rfl)(tC:rV env0=true:=by kernel_rfl)(td:(List.range (opsOf c).size).all (λi=>jW (bC c i) N)=true:=by kernel_rfl):W P c K Q a wr:=Qbk hk hm sp J hd nI hF tC td Dh h0 rW h
end
section
variable{P:Program}{c:Code}{K:Act -> World -> Prop}{Q:Exit -> Act -> World -> Prop}{w w0:World}{S:Nat -> Prop}{L:List bD}{k:Nat}{N:FN}{env:Env}{a:Act}
theorem yP(d:Nat)(x y:Operand)(t ty:TypeId)(hF:Fr a N env){e size bytes:Nat}{z:Value}{A B:ar}{n cap m cap':Nat}{xs news:bh}(hM:Mem S w0 w L)(i:Nat)(hL:L[i]?=some (.row e size A n cap xs))(v7:(bD.rd B news).holds w)(hl:ae news=m*size)(h1:∀u∈news,u.oneCell'=true)(hb:(n+m)*bytes<=140737488355328)(C7:n+m<=maxLen)(h:∀A' c' w',Mem S w0 w' (L.set i (.row e size A' (n+m) c' (xs++news)))->Mem (bD.row e size A n cap xs).fp w w' [.row e size A' (n+m) c' (xs++news)]->∀a',a'=a.put (some d) (vS A' (n+m) c')->Fr a' N (eJ env (some d) (vS A' (n+m) c'))->bL P c K Q (k+1) a' w')(hk:aB c k=some (some d,.call {callee:= .builtin .append,args:=#[x,y],argTypes:=#[t,t]},ty,none):=by kernel_rfl)(hd:jW (some d) N=true:=by kernel_rfl)(ht:P.underlying t=some (.slice e):=by kernel_rfl)(hi:(P.info? e).map (λi=>(i.size,i.bytes,i.zero))=some (size,bytes,some z):=by kernel_rfl)(NF:Nat.beq z.cells.size size=true:=by kernel_rfl)(iX:Nat.blt 0 size=true:=by kernel_rfl)(hx:ev env x=some (vS A n cap):=by kernel_rfl)(hy:ev env y=some (vS B m cap'):=by kernel_rfl):bL P c K Q k a w:=Ag hk hF rfl hd rfl ht hi NF iX hx hy hM i hL v7 hl h1 hb C7 h
theorem qp(d:Nat)(t:TypeId)(len:Nat)(ps:Array (Nat×Operand))(ty:TypeId)(hF:Fr a N env){e size:Nat}{zs:bh}{vs:List (Nat×Value)}{cs:bh}(hM:Mem S w0 w L)(h:∀b w',w0.heap.size<=b->w.heap.size<=b->Mem S w0 w' (L++[.row e size (some (aZ b)) len len cs])->Mem bI w w' [.row e size (some (aZ b)) len len cs]->∀a',a'=a.put (some d) (vS (some (aZ b)) len len)->Fr a' N (eJ env (some d) (vS (some (aZ b)) len len))->bL P c K Q (k+1) a' w')(hk:aB c k=some (some d,.buildSlice t len ps,ty,none):=by kernel_rfl)(hd:jW (some d) N=true:=by kernel_rfl)(ht:P.underlying t=some (.slice e):=by kernel_rfl)(hi:(P.info? e).map (λi=>(i.size,i.zero.map (·.cells.toList)))=some (size,some zs):=by kernel_rfl)(hp:parts env ps.toList=some vs:=by kernel_rfl)(iX:(Nat.ble 1 (len*size)&&Nat.ble (len*size) 1000)=true:=by kernel_rfl)(V5:Instr.fill (λi=>some (i*size,size)) ((Array.range (len*size)).map (zs.toArray[· % zs.toArray.size]!)) vs=some cs.toArray:=by kernel_rfl)(hl:Nat.beq (ae cs) (len*size)=true:=by kernel_rfl):bL P c K Q k a w:=BB hk hF rfl hd rfl ht hi hp iX V5 hl hM h
theorem S6(d:Nat)(t:TypeId)(x y:Operand)(ty:TypeId)(hF:Fr a N env){e bytes:Nat}{z:Value}{n:Nat}{i:Int}(hb:bytes*n<=140737488355328)(hl:n<=maxLen)(hM:Mem S w0 w L)(h:∀b w',w0.heap.size<=b->w.heap.size<=b->Mem S w0 w' (L++[.row e 1 (some (aZ b)) n n (List.replicate n z)])->Mem bI w w' [.row e 1 (some (aZ b)) n n (List.replicate n z)]->∀a',a'=a.put (some d) (vS (some (aZ b)) n n)->Fr a' N (eJ env (some d) (vS (some (aZ b)) n n))->bL P c K Q (k+1) a' w')(hk:aB c k=some (some d,.makeSlice t x y,ty,none):=by kernel_rfl)(hd:jW (some d) N=true:=by kernel_rfl)(hx:ev env x=some (vI i):=by kernel_rfl)(hy:ev env y=some (vI i):=by kernel_rfl)(hn:i=(n:Int):=by rfl)(ht:P.underlying t=some (.slice e):=by kernel_rfl)(hi:(P.info? e).map (λi=>(i.size,i.bytes,i.zero))=some (1,bytes,some z):=by kernel_rfl)(hz:z.oneCell'=true:=by rfl):bL P c K Q k a w:=vY hk hF rfl hd rfl hx hy hn ht hi hz hb hl hM h
end
theorem vG{p:Nat->Prop}{n:Nat}(h:∀i,i<n->p i)(h0:p n)(h1:p (n+1)):∀i,i<n+2->p i:=la (la h h0) h1
theorem ox{p:Nat->Prop}{n:Nat}(h:∀i,i<n->p i)(h0:p n)(h1:p (n+1))(h2:p (n+2)):∀i,i<n+3->p i:=la (la (la h h0) h1) h2
theorem xu{p:Nat->Prop}{n:Nat}(h:∀i,i<n->p i)(h0:p n)(h1:p (n+1))(h2:p (n+2))(h3:p (n+3))(h4:p (n+4)):∀i,i<n+5->p i:=la (la (la (la (la h h0) h1) h2) h3) h4
theorem s3{p:Nat->Prop}{n:Nat}(h:∀i,i<n->p i)(h0:p n)(h1:p (n+1))(h2:p (n+2))(h3:p (n+3))(h4:p (n+4))(h5:p (n+5))(h6:p (n+6))(h7:p (n+7)):∀i,i<n+8->p i:=la (la (la (la (la (la (la (la h h0) h1) h2) h3) h4) h5) h6) h7
theorem fQ{p:Nat->Prop}{n:Nat}(h:∀i,i<n->p i)(h0:p n)(h1:p (n+1))(h2:p (n+2))(h3:p (n+3))(h4:p (n+4))(h5:p (n+5))(h6:p (n+6))(h7:p (n+7))(h8:p (n+8))(h9:p (n+9))(Cp:p (n+10))(Nb:p (n+11)):∀i,i<n+12->p i:=la (la (la (la (la (la (la (la (la (la (la (la h h0) h1) h2) h3) h4) h5) h6) h7) h8) h9) Cp) Nb
section
variable{P:Program}{c:Code}{Q:Exit->Act->World->Prop}{N:FN}{env0:Env}{wr:World}{sp:Nat->Spec}{n:Nat}
theorem k1_(h:∀i,i<n->l8 P c Q N env0 wr sp i)(h1:sp n= .bd undef)(h2:∀vs,n5 c n (cO c n sp vs env0)=some false):∀i,i<n+1->l8 P c Q N env0 wr sp i:=la h (dK h1 h2)
theorem uz(h:∀i,i<n->l8 P c Q N env0 wr sp i)(a0:sp (n+0)= .bd undef:=by rfl)(b0:∀vs,n5 c (n+0) (cO c (n+0) sp vs env0)=some false:=by intro _;kernel_rfl)(a1:sp (n+1)= .bd undef:=by rfl)(b1:∀vs,n5 c (n+1) (cO c (n+1) sp vs env0)=some false:=by intro _;kernel_rfl):∀i,i<n+2->l8 P c Q N env0 wr sp i:=la (la (h) (dK a0 b0)) (dK a1 b1)
theorem ve(h:∀i,i<n->l8 P c Q N env0 wr sp i)(a0:sp (n+0)= .bd undef:=by rfl)(b0:∀vs,n5 c (n+0) (cO c (n+0) sp vs env0)=some false:=by intro _;kernel_rfl)(a1:sp (n+1)= .bd undef:=by rfl)(b1:∀vs,n5 c (n+1) (cO c (n+1) sp vs env0)=some false:=by intro _;kernel_rfl)(a2:sp (n+2)= .bd undef:=by rfl)(b2:∀vs,n5 c (n+2) (cO c (n+2) sp vs env0)=some false:=by intro _;kernel_rfl)(a3:sp (n+3)= .bd undef:=by rfl)(b3:∀vs,n5 c (n+3) (cO c (n+3) sp vs env0)=some false:=by intro _;kernel_rfl):∀i,i<n+4->l8 P c Q N env0 wr sp i:=la (la (la (la (h) (dK a0 b0)) (dK a1 b1)) (dK a2 b2)) (dK a3 b3)
theorem EH(h:∀i,i<n->l8 P c Q N env0 wr sp i)(a0:sp (n+0)= .bd undef:=by rfl)(b0:∀vs,n5 c (n+0) (cO c (n+0) sp vs env0)=some false:=by intro _;kernel_rfl)(a1:sp (n+1)= .bd undef:=by rfl)(b1:∀vs,n5 c (n+1) (cO c (n+1) sp vs env0)=some false:=by intro _;kernel_rfl)(a2:sp (n+2)= .bd undef:=by rfl)(b2:∀vs,n5 c (n+2) (cO c (n+2) sp vs env0)=some false:=by intro _;kernel_rfl)(a3:sp (n+3)= .bd undef:=by rfl)(b3:∀vs,n5 c (n+3) (cO c (n+3) sp vs env0)=some false:=by intro _;kernel_rfl)(a4:sp (n+4)= .bd undef:=by rfl)(b4:∀vs,n5 c (n+4) (cO c (n+4) sp vs env0)=some false:=by intro _;kernel_rfl)(a5:sp (n+5)= .bd undef:=by rfl)(b5:∀vs,n5 c (n+5) (cO c (n+5) sp vs env0)=some false:=by intro _;kernel_rfl)(a6:sp (n+6)= .bd undef:=by rfl)(b6:∀vs,n5 c (n+6) (cO c (n+6) sp vs env0)=some false:=by intro _;kernel_rfl)(a7:sp (n+7)= .bd undef:=by rfl)(b7:∀vs,n5 c (n+7) (cO c (n+7) sp vs env0)=some false:=by intro _;kernel_rfl):∀i,i<n+8->l8 P c Q N env0 wr sp i:=la (la (la (la (la (la (la (la (h) (dK a0 b0)) (dK a1 b1)) (dK a2 b2)) (dK a3 b3)) (dK a4 b4)) (dK a5 b5)) (dK a6 b6)) (dK a7 b7)
theorem QdQ(h:∀i,i<n->l8 P c Q N env0 wr sp i)(a0:sp (n+0)= .bd undef:=by rfl)(b0:∀vs,n5 c (n+0) (cO c (n+0) sp vs env0)=some false:=by intro _;kernel_rfl)(a1:sp (n+1)= .bd undef:=by rfl)(b1:∀vs,n5 c (n+1) (cO c (n+1) sp vs env0)=some false:=by intro _;kernel_rfl)(a2:sp (n+2)= .bd undef:=by rfl)(b2:∀vs,n5 c (n+2) (cO c (n+2) sp vs env0)=some false:=by intro _;kernel_rfl)(a3:sp (n+3)= .bd undef:=by rfl)(b3:∀vs,n5 c (n+3) (cO c (n+3) sp vs env0)=some false:=by intro _;kernel_rfl)(a4:sp (n+4)= .bd undef:=by rfl)(b4:∀vs,n5 c (n+4) (cO c (n+4) sp vs env0)=some false:=by intro _;kernel_rfl)(a5:sp (n+5)= .bd undef:=by rfl)(b5:∀vs,n5 c (n+5) (cO c (n+5) sp vs env0)=some false:=by intro _;kernel_rfl)(a6:sp (n+6)= .bd undef:=by rfl)(b6:∀vs,n5 c (n+6) (cO c (n+6) sp vs env0)=some false:=by intro _;kernel_rfl)(a7:sp (n+7)= .bd undef:=by rfl)(b7:∀vs,n5 c (n+7) (cO c (n+7) sp vs env0)=some false:=by intro _;kernel_rfl)(a8:sp (n+8)= .bd undef:=by rfl)(b8:∀vs,n5 c (n+8) (cO c (n+8) sp vs env0)=some false:=by intro _;kernel_rfl)(a9:sp (n+9)= .bd undef:=by rfl)(b9:∀vs,n5 c (n+9) (cO c (n+9) sp vs env0)=some false:=by intro _;kernel_rfl)(a10:sp (n+10)= .bd undef:=by rfl)(iK:∀vs,n5 c (n+10) (cO c (n+10) sp vs env0)=some false:=by intro _;kernel_rfl)(a11:sp (n+11)= .bd undef:=by rfl)(nr:∀vs,n5 c (n+11) (cO c (n+11) sp vs env0)=some false:=by intro _;kernel_rfl)(a12:sp (n+12)= .bd undef:=by rfl)(b12:∀vs,n5 c (n+12) (cO c (n+12) sp vs env0)=some false:=by intro _;kernel_rfl)(a13:sp (n+13)= .bd undef:=by rfl)(b13:∀vs,n5 c (n+13) (cO c (n+13) sp vs env0)=some false:=by intro _;kernel_rfl)(a14:sp (n+14)= .bd undef:=by rfl)(b14:∀vs,n5 c (n+14) (cO c (n+14) sp vs env0)=some false:=by intro _;kernel_rfl)(a15:sp (n+15)= .bd undef:=by rfl)(mT:∀vs,n5 c (n+15) (cO c (n+15) sp vs env0)=some false:=by intro _;kernel_rfl):∀i,i<n+16->l8 P c Q N env0 wr sp i:=la (la (la (la (la (la (la (la (la (la (la (la (la (la (la (la (h) (dK a0 b0)) (dK a1 b1)) (dK a2 b2)) (dK a3 b3)) (dK a4 b4)) (dK a5 b5)) (dK a6 b6)) (dK a7 b7)) (dK a8 b8)) (dK a9 b9)) (dK a10 iK)) (dK a11 nr)) (dK a12 b12)) (dK a13 b13)) (dK a14 b14)) (dK a15 mT)
end
theorem cC{S:Nat->Prop}{w0 w:World}(L:List bD)(h:Mem S w0 w L):Mem S w0 w L:=h
theorem Mem.Ln{S:Nat->Prop}{w0 w:World}{L:List bD}(h:Mem S w0 w L)(i:Nat)(r:bD)(e:L=L.set i r):Mem S w0 w (L.set i r):=h.cast e
theorem bf{c:Code}{ls:Nat->Bool}{i:Nat}(j n:Nat)(hc:qK c ls)(hi:ls i=false)(h:reach c n j i=true:=by kernel_rfl):ls j=false:=Wc hc hi h
theorem Qqh{c:Code}{ls:Nat->Bool}{i:Nat}(j n:Nat)(hc:qK c ls)(hp:∀k,k∈eo c i->ls k=true)(h:reach c n i j=true:=by kernel_rfl):ls j=true:=rX hc hp h
theorem dH{c:Code}{ls:Nat->Bool}{i:Nat}{R:Nat->Prop}(j n:Nat)(hc:qK c ls)(hp:∀k,k∈eo c i->ls k=true/\R k)(h:reach c n i j=true:=by kernel_rfl):ls j=true:=rX hc (λk hk=>(hp k hk).1) h
section
variable{P:Program}{c:Code}{Q:Exit->Act->World->Prop}{N:FN}{env0:Env}{sp:Nat->Spec}{J:(Nat->Bool)->(Nat->Value)->World->Prop}{i:Nat}
theorem bR(hJ:∀ls vs v w,J ls vs w->J (qJ ls i) (wb vs i v) w:=by intro _ _ _ _ h;exact h)(h:∀vs,p1E P c N i (cO c i sp vs env0)=dvE (sp i):=by intro _;kernel_rfl)(h2:isS (dvE (sp i))=true:=by kernel_rfl):sS P c Q N env0 sp J i:=dPJ hJ h h2
end
theorem eW(ks:List Nat){N:FN}{env:Env}{G:Act->Prop}(h:∀a,Fr a N (p5 ks env)->G a):∀a,Fr a N env->G a:=λa hF=>h a (hF.keep rfl)
section
variable{P:Program}{c:Code}{K:Act->World->Prop}{Q:Exit->Act->World->Prop}{w:World}{N:FN}{env:Env}{k:Nat}
theorem zl_{ad:Addr}{v:Value}(hc:w.cell? ad=some v)(h:∀a,Fr a N (eJ env (bC c k) v)->bL P c K Q (k+1) a w)(hk:ldE P c N env k=some (bC c k,ad):=by kernel_rfl):∀a,Fr a N env->bL P c K Q k a w:=bH ad v hc h hk
end
section
variable{P:Program}{c:Code}{Q:Exit->Act->World->Prop}{N:FN}{i:Nat}{env0:Env}{wr:World}{sp:Nat->Spec}
theorem dl_{ad:Addr}{v:Value}(hc:∀w',Kp wr w'->w'.cell? ad=some v)(hv:sp i= .bd v:=by rfl)(hg:∀vs,n5 c i (cO c i sp vs env0)=some true:=by intro _;kernel_rfl)
    (hk:∀vs,ldE P (one c i) N (cO c i sp vs env0) 0=some (bC c i,ad):=by intro _;kernel_rfl)(he:aB (one c i) 1=none:=by kernel_rfl):l8 P c Q N env0 wr sp i:=dL ad v hc hv hg hk he
end
end Go.Mor
namespace Go.Mor
def bD.all(l:List bD):bD where
 fp:=λk=>∃r,r∈l/\r.fp k
 holds w:=∀r,r∈l->r.holds w
 kD:=λh hw r hr=>r.kD (λk hk=>h k ⟨r,hr,hk⟩) (hw r hr)
 lt:=λhw ⟨r,hr,hk⟩=>r.lt (hw r hr) hk
theorem RO.sub{S:Nat->Prop}{w:World}{l:List bD}{r:bD}(h:RO S w (.all l))(hr:r∈l):RO S w r:=⟨h.1 r hr,λg hg=>h.2 g ⟨r,hr,hg⟩⟩
structure cV where
 dst:Int
 A:ar
 c:Nat
 args:ah
def cV.cells(x:cV):bh:=[vI x.dst,.slice x.A (ae x.args) x.c]
structure aQ where
 op:Int
 dst:Int
 n:Int
 name:bo
 A:ar
 c:Nat
 args:ah
def aQ.cells(x:aQ):bh:=[vI x.op,vI x.dst,vI x.n,.string x.name,.slice x.A (ae x.args) x.c]
structure aG where
 pA:ar
 pc:Nat
 ak:List cV
 iA:ar
 ic:Nat
 insts:List aQ
 e:Int
 v:Int
 a:Int
 b:Int
def aG.sb(x:aG):SB:=⟨x.pA,ae x.ak,x.pc,x.iA,ae x.insts,x.ic,x.e,x.v,x.a,x.b⟩
def au(fs:List aG):List SB:=fs.map aG.sb
theorem bM(fs:List aG):ae (au fs)=ae fs:=by simp[au]
theorem gS{fs:List aG}{i:Nat}{x:aG}(h:fs[i]?=some x):(au fs)[i]?=some x.sb:=by simp[au,h]
def aG.parts(x:aG):List bD:= .qU x.pA 2 (x.ak.map cV.cells):: .qU x.iA 5 (x.insts.map aQ.cells)::(x.ak.map (λp=>bD.rd p.A (ints p.args))++x.insts.map (λp=>bD.rd p.A (ints p.args)))
def bD.fn(A:ar)(fs:List aG):bD:= .all (.blocks A (au fs)::fs.flatMap aG.parts)
section
variable{S:Nat -> Prop}{w:World}{A:Option Addr}{fs:List aG}
theorem RO.bs(h:RO S w (.fn A fs)):RO S w (.blocks A (au fs)):=h.sub (cK)
theorem RO.ak(h:RO S w (.fn A fs)){i:Nat}{x:aG}(hx:fs[i]?=some x):RO S w (.qU x.pA 2 (x.ak.map cV.cells)):=h.sub (cr _ (fG.2 ⟨x,aI hx,cK⟩))
theorem RO.insts(h:RO S w (.fn A fs)){i:Nat}{x:aG}(hx:fs[i]?=some x):RO S w (.qU x.iA 5 (x.insts.map aQ.cells)):=h.sub (cr _ (fG.2 ⟨x,aI hx,cr _ cK⟩))
theorem RO.JZ(h:RO S w (.fn A fs)){i j:Nat}{x:aG}{p:cV}(hx:fs[i]?=some x)(hp:x.ak[j]?=some p):RO S w (.rd p.A (ints p.args)):=h.sub (cr _ (fG.2 ⟨x,aI hx,cr _ (cr _ (ej _ (aO.2 ⟨p,aI hp,rfl⟩)))⟩))
theorem RO.inst(h:RO S w (.fn A fs)){i j:Nat}{x:aG}{p:aQ}(hx:fs[i]?=some x)(hp:x.insts[j]?=some p):RO S w (.rd p.A (ints p.args)):=h.sub (cr _ (fG.2 ⟨x,aI hx,cr _ (cr _ (kF _ (aO.2 ⟨p,aI hp,rfl⟩)))⟩))
end
theorem mj{w:World}{A:ar}{size:Nat}{Wi:List bh}{ad:Addr}(h:(bD.qU A size Wi).holds w)(hA:A=some ad){i:Nat}{cs:bh}(hi:Wi[i]?=some cs):∀j v,cs[j]?=some v->w.cell? ((ad.add (i*size)).add j)=some v:=bS h hA hi
theorem eD{w:World}{A:ar}{fs:List aG}{ad:Addr}{i:Nat}{x:aG}(h:(bD.blocks A (au fs)).holds w)(hA:A=some ad)(hi:fs[i]?=some x):∀j v,[.slice x.pA (ae x.ak) x.pc,.slice x.iA (ae x.insts) x.ic,vI x.e,vI x.v,vI x.a,vI x.b][j]?=some v->w.cell? ((ad.add (i*6)).add j)=some v:=wh h hA (gS hi)
theorem uO{w:World}{x:aG}{ad:Addr}{i:Nat}{p:cV}(h:(bD.qU x.pA 2 (x.ak.map cV.cells)).holds w)(hA:x.pA=some ad)(hi:x.ak[i]?=some p):∀j v,[vI p.dst,.slice p.A (ae p.args) p.c][j]?=some v->w.cell? ((ad.add (i*2)).add j)=some v:=bS (cs:=p.cells) h hA (by simp[hi])
theorem p8{w:World}{x:aG}{ad:Addr}{i:Nat}{p:aQ}(h:(bD.qU x.iA 5 (x.insts.map aQ.cells)).holds w)(hA:x.iA=some ad)(hi:x.insts[i]?=some p):∀j v,[vI p.op,vI p.dst,vI p.n,.string p.name,.slice p.A (ae p.args) p.c][j]?=some v->w.cell? ((ad.add (i*5)).add j)=some v:=bS (cs:=p.cells) h hA (by simp[hi])
def In64(n:Int):Prop:= -9223372036854775808<=n/\n<=9223372036854775807
def fg(n:Nat):Prop:=n<=281474976710656
structure cV.Ok(p:cV):Prop where
 dst:In64 p.dst
 len:fg (ae p.args)
 args:∀x,x∈p.args->In64 x
structure aQ.Ok(p:aQ):Prop where
 op:In64 p.op
 dst:In64 p.dst
 n:In64 p.n
 name:fg p.name.size
 len:fg (ae p.args)
 args:∀x,x∈p.args->In64 x
structure aG.Ok(x:aG):Prop where
 lp:fg (ae x.ak)
 ak:∀p,p∈x.ak->p.Ok
 li:fg (ae x.insts)
 insts:∀p,p∈x.insts->p.Ok
 e:In64 x.e
 v:In64 x.v
 a:In64 x.a
 b:In64 x.b
def rH(fs:List aG):Prop:=∀x,x∈fs->x.Ok
theorem rH.get{fs:List aG}(h:rH fs){i:Nat}{x:aG}(hi:fs[i]?=some x):x.Ok:=h x (aI hi)
theorem aP{α:Type}{l:List α}{i:Nat}(h:i<ae l):∃x,l[i]?=some x:=⟨_,dF h⟩
abbrev fV(nm:bo)(wk:Bool)(pa va:Int)(A:ar)(c:Nat)(fs:List aG):bh:=[.string nm,.bool wk,vI pa,vI va,.slice A (ae (au fs)) c]
abbrev fA(nm:bo)(wk:Bool)(pa va:Int)(A:ar)(c:Nat)(fs:List aG):Value:= .agg #[.string nm,.bool wk,vI pa,vI va,.slice A (ae (au fs)) c]
abbrev xV(x:aG):bh:=[.slice x.pA (ae x.ak) x.pc,.slice x.iA (ae x.insts) x.ic,vI x.e,vI x.v,vI x.a,vI x.b]
abbrev xA(x:aG):Value:= .agg #[.slice x.pA (ae x.ak) x.pc,.slice x.iA (ae x.insts) x.ic,vI x.e,vI x.v,vI x.a,vI x.b]
abbrev iV(p:aQ):bh:=[vI p.op,vI p.dst,vI p.n,.string p.name,.slice p.A (ae p.args) p.c]
abbrev iG(p:aQ):Value:= .agg #[vI p.op,vI p.dst,vI p.n,.string p.name,.slice p.A (ae p.args) p.c]
abbrev pV(p:cV):bh:=[vI p.dst,.slice p.A (ae p.args) p.c]
abbrev pR(fs:List aG):Nat:=(au fs).length
abbrev Qmg(i:aQ):List Value:=[.int .i64 i.op,.int .i64 i.dst,.int .i64 i.n,.string i.name,.slice i.A i.args.length i.c]
abbrev Qqe(i:aQ):Value:= .agg #[.int .i64 i.op,.int .i64 i.dst,.int .i64 i.n,.string i.name,.slice i.A i.args.length i.c]
abbrev Qqf(x:aG):List Value:=[.slice x.pA x.ak.length x.pc,.slice x.iA x.insts.length x.ic,.int .i64 x.e,.int .i64 x.v,.int .i64 x.a,.int .i64 x.b]
abbrev Qqg(x:aG):Value:= .agg #[.slice x.pA x.ak.length x.pc,.slice x.iA x.insts.length x.ic,.int .i64 x.e,.int .i64 x.v,.int .i64 x.a,.int .i64 x.b]
def ma(fs:List aG)(k:Nat):Nat:=((fs.take k).map (λx=>ae x.ak+ae x.insts)).sum
def de(fs:List aG):Nat:=ae fs+ma fs (ae fs)
theorem tH(fs:List aG):ma fs 0=0:=by simp[ma]
theorem nS{fs:List aG}{k:Nat}{x:aG}(h:fs[k]?=some x):ma fs (k+1)=ma fs k+(ae x.ak+ae x.insts):=by
 obtain⟨hk,he⟩:=aW.1 h;unfold ma;rw[dh hk,he];simp
theorem zf{fs:List aG}(h:rH fs)(k:Nat)(hk:k<=ae fs):ma fs k<=k*562949953421312:=by
 induction k with
 |zero=>simp[tH]
 |succ k ih=>
  obtain⟨x,hx⟩:=aP (l:=fs) (i:=k) oM;have h1:ae x.ak<=281474976710656:=(h.get hx).lp;have h2:ae x.insts<=281474976710656:=(h.get hx).li;rw[nS hx];have:=ih oM;omega
def gW(fs:List aG)(k:Nat):Nat:=((fs.take k).map (λx=>min (ae x.ak) 5000+min (ae x.insts) 5000)).sum
theorem Ig(fs:List aG):gW fs 0=0:=by simp[gW]
theorem xH{fs:List aG}{k:Nat}{x:aG}(h:fs[k]?=some x):gW fs (k+1)=gW fs k+(min (ae x.ak) 5000+min (ae x.insts) 5000):=by
 obtain⟨hk,he⟩:=aW.1 h;unfold gW;rw[dh hk,he];simp
theorem NZ(fs:List aG)(k:Nat)(hk:k<=ae fs):gW fs k<=k*10000:=by
 induction k with
 |zero=>simp[Ig]
 |succ k ih=>
  obtain⟨x,hx⟩:=aP (l:=fs) (i:=k) oM;rw[xH hx];have:=ih oM;omega
def jA(va:Int)(fs:List aG):Prop:=((60<ae fs\/3000<va)/\(va<=20000\/60<ae fs))\/(¬(60<ae fs\/3000<va)/\3000<gW fs (ae fs))
instance (va : Int) (fs : List aG) : Decidable (jA va fs) := by unfold jA; infer_instance
theorem wj{va:Int}{fs:List aG}(h:¬jA va fs):ae fs<=60:=by
 unfold jA at h;omega
theorem St{P:Program}{t:TypeId}(i j:Int)(w:World):(binOp .sub t (vI i) (vI j)).run P w= .ok (vI (IntKind.i64.wrap (i-j))) w:=by simp[binOp,Op.intArith]
def dN(b:Bool):Int:=cond b 1 0
theorem bx{b:Bool}{P R:Prop}[Decidable R](h:b=true↔P)(e:P↔R):Value.bool b=Value.bool (decide R):=by
 congr 1;rw[Bool.eq_iff_iff,aU];exact h.trans e
theorem ld(s:bo):((s.toList==(⟨#[]⟩:bo).toList)=true)=(s.size=0):=by
 rw[az,Cn,Cn];apply propext;constructor
 ·intro h;have h1:=aK List.length h;have e:ae s.data.toList=s.size:=Array.length_toList;rw[e]at h1;exact h1
 ·intro h;have h2:s.data=#[]:=Ie h;rw[h2]
def bX(s:bo):Prop:=1<=s.size/\s.size<=60
instance (s : ByteArray) : Decidable (bX s) := by unfold bX; infer_instance
def aJ(op:Int):Prop:=op≠3/\op≠10/\op≠11
instance (op : Int) : Decidable (aJ op) := by unfold aJ; infer_instance
def eG(n:Int):Prop:=1<=n/\n<=999
instance (n : Int) : Decidable (eG n) := by unfold eG; infer_instance
def ez(n:Int):Prop:=0<=n/\n<=2147483647
instance (n : Int) : Decidable (ez n) := by unfold ez; infer_instance
def jm(N:Int)(x:aG):Prop:=(x.e=0/\(0<=x.a/\x.a<N)/\x.v=0/\x.b=0)\/(x.e=1/\(0<=x.a/\x.a<N)/\(0<=x.b/\x.b<N)/\x.a≠x.b)\/(x.e=2/\x.a=0/\x.b=0)\/(x.e=3/\eG x.a/\x.v=0/\x.b=0)
instance (N : Int) (x : aG) : Decidable (jm N x) := by unfold jm; infer_instance
def q9(N:Int)(x:aG):Prop:=jm N x/\(x.e=2->-1<=x.v)
instance (N : Int) (x : aG) : Decidable (q9 N x) := by unfold q9; infer_instance
def cA(i:aQ):Prop:=(aJ i.op\/i.dst= -1)/\((i.op=1/\i.name.size=0/\ae i.args=0)\/(i.op=2/\ez i.n/\i.name.size=0/\ae i.args=1)\/(i.op=3/\ez i.n/\i.name.size=0/\ae i.args=2)\/(i.op=4/\i.n=0/\bX i.name/\ae i.args<=16)\/(i.op=5/\i.n=0/\i.name.size=0/\1<=ae i.args/\ae i.args<=17)\/((i.op=6\/i.op=7)/\i.n=0/\bX i.name/\ae i.args=0)\/((i.op=8\/i.op=10\/i.op=12)/\i.n=0/\i.name.size=0/\ae i.args=1)\/(i.op=9/\i.n=0/\i.name.size=0/\ae i.args=0)\/(i.op=11/\eG i.n/\i.name.size=0/\ae i.args=1)\/((17<=i.op/\i.op<=32)/\i.n=0/\i.name.size=0/\ae i.args=2)\/((41<=i.op/\i.op<=43)/\i.n=0/\i.name.size=0/\ae i.args=1))
instance (i : aQ) : Decidable (cA i) := by unfold cA; infer_instance
theorem Qs{i:aQ}(h:i.op=1):cA i↔(i.name.size=0/\ae i.args=0):=by
 unfold cA aJ bX eG ez;rw[h];simp only[Int.reduceEq,Int.reduceNe,Int.reduceLE,jn,jR,lf,fH,j9,kI,jK,kJ,lY,ka,lZ,lg]
theorem Co{i:aQ}(h:i.op=2):cA i↔((0<=i.n/\i.n<=2147483647)/\i.name.size=0/\ae i.args=1):=by
 unfold cA aJ bX eG ez;rw[h];simp only[Int.reduceEq,Int.reduceNe,Int.reduceLE,jn,jR,lf,fH,j9,kI,jK,kJ,lY,ka,lZ,lg]
theorem xI{i:aQ}(h:i.op=3):cA i↔(i.dst= -1/\(0<=i.n/\i.n<=2147483647)/\i.name.size=0/\ae i.args=2):=by
 unfold cA aJ bX eG ez;rw[h];simp only[Int.reduceEq,Int.reduceNe,Int.reduceLE,jn,jR,lf,fH,j9,kI,jK,kJ,lY,ka,lZ,lg]
theorem Ih{i:aQ}(h:i.op=4):cA i↔(i.n=0/\(1<=i.name.size/\i.name.size<=60)/\ae i.args<=16):=by
 unfold cA aJ bX eG ez;rw[h];simp only[Int.reduceEq,Int.reduceNe,Int.reduceLE,jn,jR,lf,fH,j9,kI,jK,kJ,lY,ka,lZ,lg]
theorem Ii{i:aQ}(h:i.op=5):cA i↔(i.n=0/\i.name.size=0/\1<=ae i.args/\ae i.args<=17):=by
 unfold cA aJ bX eG ez;rw[h];simp only[Int.reduceEq,Int.reduceNe,Int.reduceLE,jn,jR,lf,fH,j9,kI,jK,kJ,lY,ka,lZ,lg]
theorem Qt{i:aQ}(h:i.op=6):cA i↔(i.n=0/\(1<=i.name.size/\i.name.size<=60)/\ae i.args=0):=by
 unfold cA aJ bX eG ez;rw[h];simp only[Int.reduceEq,Int.reduceNe,Int.reduceLE,jn,jR,lf,fH,j9,kI,jK,kJ,lY,ka,lZ,lg]
theorem Qu{i:aQ}(h:i.op=7):cA i↔(i.n=0/\(1<=i.name.size/\i.name.size<=60)/\ae i.args=0):=by
 unfold cA aJ bX eG ez;rw[h];simp only[Int.reduceEq,Int.reduceNe,Int.reduceLE,jn,jR,lf,fH,j9,kI,jK,kJ,lY,ka,lZ,lg]
theorem Ij{i:aQ}(h:i.op=8):cA i↔(i.n=0/\i.name.size=0/\ae i.args=1):=by
 unfold cA aJ bX eG ez;rw[h];simp only[Int.reduceEq,Int.reduceNe,Int.reduceLE,jn,jR,lf,fH,j9,kI,jK,kJ,lY,ka,lZ,lg]
theorem Qv{i:aQ}(h:i.op=9):cA i↔(i.n=0/\i.name.size=0/\ae i.args=0):=by
 unfold cA aJ bX eG ez;rw[h];simp only[Int.reduceEq,Int.reduceNe,Int.reduceLE,jn,jR,lf,fH,j9,kI,jK,kJ,lY,ka,lZ,lg]
theorem Ds{i:aQ}(h:i.op=10):cA i↔(i.dst= -1/\i.n=0/\i.name.size=0/\ae i.args=1):=by
 unfold cA aJ bX eG ez;rw[h];simp only[Int.reduceEq,Int.reduceNe,Int.reduceLE,jn,jR,lf,fH,j9,kI,jK,kJ,lY,ka,lZ,lg]
theorem xJ{i:aQ}(h:i.op=11):cA i↔(i.dst= -1/\(1<=i.n/\i.n<=999)/\i.name.size=0/\ae i.args=1):=by
 unfold cA aJ bX eG ez;rw[h];simp only[Int.reduceEq,Int.reduceNe,Int.reduceLE,jn,jR,lf,fH,j9,kI,jK,kJ,lY,ka,lZ,lg]
theorem Dt{i:aQ}(h:i.op=12):cA i↔(i.n=0/\i.name.size=0/\ae i.args=1):=by
 unfold cA aJ bX eG ez;rw[h];simp only[Int.reduceEq,Int.reduceNe,Int.reduceLE,jn,jR,lf,fH,j9,kI,jK,kJ,lY,ka,lZ,lg]
theorem re{i:aQ}(h:¬(1<=i.op/\i.op<=12)):cA i↔(((17<=i.op/\i.op<=32)/\i.n=0/\i.name.size=0/\ae i.args=2)\/((41<=i.op/\i.op<=43)/\i.n=0/\i.name.size=0/\ae i.args=1)):=by
 have e:∀k:Int,1<=k->k<=12->(i.op=k)=False:=λk h1 h2=>eq_false (λe=>h ⟨oM,oM⟩)
 unfold cA aJ;simp only[jK,e 1 dQ dQ,e 2 dQ dQ,e 3 dQ dQ,e 4 dQ dQ,e 5 dQ dQ,e 6 dQ dQ,e 7 dQ dQ,e 8 dQ dQ,e 9 dQ dQ,e 10 dQ dQ,e 11 dQ dQ,e 12 dQ dQ,jn,jR,fH,j9,kI,kJ,lg]
theorem QjE{op:Int}(h1:¬op=1)(Vm:¬op=12)(h8:¬op=8)(Cp:¬op=10)(h2:¬op=2)(h3:¬op=3)(h4:¬op=4)(h5:¬op=5)(h6:¬op=6)(h7:¬op=7)(h9:¬op=9)(Nb:¬op=11):¬(1<=op/\op<=12):=by
 rintro⟨a,b⟩;have e:op=1\/op=2\/op=3\/op=4\/op=5\/op=6\/op=7\/op=8\/op=9\/op=10\/op=11\/op=12:=by clear h1 h2 h3 h4 h5 h6 h7 h8 h9 Cp Nb Vm;omega
 rcases e with e|e|e|e|e|e|e|e|e|e|e|e<;>contradiction
theorem Wx{i:aQ}{cd:Int}(h0:¬(1<=i.op/\i.op<=12))(h1:i.op<40)(ho: -9223372036854775808<=i.op/\i.op<=9223372036854775807)(hc:cd=0↔1<=IntKind.i64.wrap (i.op-16)/\IntKind.i64.wrap (i.op-16)<=16):((((cd=0)/\(i.n=0))/\(i.name.size=0))/\((ae i.args:Int)=2))↔cA i:=by
 rw[re h0];have hw:=IntKind.wrap_i64 (i.op-16);have e:(1<=IntKind.i64.wrap (i.op-16)/\IntKind.i64.wrap (i.op-16)<=16)↔(17<=i.op/\i.op<=32):=by rw[hw];omega
 rw[e]at hc;rw[hc];constructor
 ·rintro⟨⟨⟨a,b⟩,c⟩,d⟩;exact .inl ⟨a,b,c,oM⟩
 ·rintro(⟨a,b,c,d⟩|⟨a,_⟩)
  ·exact⟨⟨⟨a,b⟩,c⟩,oM⟩
  ·omega
theorem Wy{i:aQ}{cd:Int}(h1:¬i.op<40)(hc:cd=0↔1<=i.op-40/\i.op-40<=3):((((cd=0)/\(i.n=0))/\(i.name.size=0))/\((ae i.args:Int)=1))↔cA i:=by
 rw[re oM];have e:(1<=i.op-40/\i.op-40<=3)↔(41<=i.op/\i.op<=43):=oM;rw[e]at hc;rw[hc];constructor
 ·rintro⟨⟨⟨a,b⟩,c⟩,d⟩;exact .inr ⟨a,b,c,oM⟩
 ·rintro(⟨a,_⟩|⟨a,b,c,d⟩)
  ·omega
  ·exact⟨⟨⟨a,b⟩,c⟩,oM⟩
theorem Su{i:aQ}(h:(¬(aJ i.op))/\(i.dst≠-1)):False↔cA i:=⟨False.elim,λe=>e.1.elim h.1 h.2⟩
def kO(l:List (Int×Int)):bh:=l.flatMap (λp=>[vI p.1,vI p.2])
theorem Ik(l:List (Int×Int)):ae (kO l)=ae l*2:=by
 induction l with
 |nil=>rfl
 |cons x l ih=>simp[kO]at ih⊢;omega
theorem Wz{l:List (Int×Int)}{i:Nat}{p:Int×Int}(h:l[i]?=some p):(kO l)[i*2]?=some (vI p.1)/\(kO l)[i*2+1]?=some (vI p.2):=by
 induction l generalizing i with
 |nil=>simp at h
 |cons x l ih=>
  have e:kO (x::l)=vI x.1:: .int .i64 x.2::kO l:=rfl;rw[e];cases i with
  |zero=>simp at h;subst h;exact⟨rfl,rfl⟩
  |succ i=>
   simp at h;obtain⟨h1,h2⟩:=ih h;refine⟨?_,?_⟩
   ·rw[show(i+1)*2=i*2+1+1 by omega];simpa using h1
   ·rw[show(i+1)*2+1=i*2+1+1+1 by omega];simpa using h2
theorem Il{l:List (Int×Int)}{i:Nat}(a b:Int)(h:i<ae l):setAt (kO l) (i*2) [vI a,vI b]=kO (l.set i (a,b)):=by
 induction l generalizing i with
 |nil=>simp at h
 |cons x l ih=>
  have e:kO (x::l)=vI x.1:: .int .i64 x.2::kO l:=rfl;cases i with
  |zero=>rfl
  |succ i=>
   have:=ih (i:=i) (by simpa using h);rw[e,show(i+1)*2=i*2+1+1 by omega,Cq];show setAt (.int .i64 x.1:: .int .i64 x.2::kO l) (i*2+1+1) [vI a,vI b]=vI x.1:: .int .i64 x.2::kO (l.set i (a,b));rw[<-this];simp[setAt]
theorem Kt{l:List (Int×Int)}{i:Nat}{p:Int×Int}(a:Int)(h:l[i]?=some p):(kO l).set (i*2) (vI a)=kO (l.set i (a,p.2)):=by
 induction l generalizing i with
 |nil=>simp at h
 |cons x l ih=>
  have e:kO (x::l)=vI x.1:: .int .i64 x.2::kO l:=rfl;cases i with
  |zero=>simp at h;subst h;rfl
  |succ i=>
   simp at h;have:=ih h;rw[e,show(i+1)*2=i*2+1+1 by omega];show .int .i64 x.1:: .int .i64 x.2::(kO l).set (i*2) (vI a)=vI x.1:: .int .i64 x.2::kO (l.set i (a,p.2));rw[this]
theorem Qw(n:Nat)(a b:Int):(List.replicate n [vI a,vI b]).flatten=kO (List.replicate n (a,b)):=by
 induction n with
 |zero=>rfl
 |succ n ih=>rw[p9,p9,flatten_cons,ih];rfl
theorem Qx{w:World}{A:ar}{ad:Addr}{l:List (Int×Int)}(h:(bD.rd A (kO l)).holds w)(hA:A=some ad){i:Nat}{p:Int×Int}(hi:l[i]?=some p):∀j v,[vI p.1,vI p.2][j]?=some v->w.cell? ((ad.add (i*2)).add j)=some v:=by
 intro j v hj;obtain⟨h1,h2⟩:=Wz hi;rw[pf];have key:∀q u,(kO l)[q]?=some u->w.cell? (ad.add q)=some u:=by intro q u hu;obtain⟨a',pS,hc⟩:=h q u hu;rw[hA]at pS;injection pS with pS;subst pS;exact hc
 match j,hj with
 |0,hj=>simp at hj;subst hj;exact key _ _ h1
 |1,hj=>simp at hj;subst hj;exact key _ _ h2
theorem Dv{w:World}{A:ar}{ad:Addr}{l:List (Int×Int)}(h:(bD.rd A (kO l)).holds w)(hA:A=some ad){i:Nat}{p:Int×Int}(hi:l[i]?=some p):w.cell? (ad.add (i*2))=some (vI p.1):=by
 have:=Qx h hA hi 0 _ rfl;rwa [pf]at this
theorem tI{α:Type}{l:List α}{i:Nat}(d:α)(h:i<ae l):l[i]?=some (l.getD i d):=by simp[List.getD,dF h]
def nU(lo hi:Int)(l:List (Int×Int))(v:Int):Prop:=(lo<=v/\v<hi)/\(l.getD v.toNat (0,0)).1<0
instance (lo hi : Int) (l : List (Int × Int)) (v : Int) : Decidable (nU lo hi l v) := by unfold nU; infer_instance
abbrev xn:=List (Int×Int×Int)
def dJ(b:Int)(l:List cV):xn:=l.map (λp=>(p.dst,b,-1))
def eh(b:Int)(l:List aQ):xn:=(l.zipIdx.filter (λx=>decide (aJ x.1.op))).map (λx=>(x.1.dst,b,(x.2:Int)))
def gO(b:Int)(x:aG):xn:=dJ b x.ak++eh b x.insts
def ff(fs:List aG)(n:Nat):xn:=((fs.take n).zipIdx).flatMap (λx=>gO (x.2:Int) x.1)
def bQ(fs:List aG):xn:=ff fs (ae fs)
theorem lh{b:Int}{l:List cV}{k:Nat}{p:cV}(h:l[k]?=some p):dJ b (l.take (k+1))=dJ b (l.take k)++[(p.dst,b,-1)]:=by
 obtain⟨hk,he⟩:=aW.1 h;rw[dh hk,he];simp[dJ]
theorem qd{α:Type}{l:List α}{k:Nat}{p:α}(h:l[k]?=some p):(l.take (k+1)).zipIdx=(l.take k).zipIdx++[(p,k)]:=by
 obtain⟨hk,he⟩:=aW.1 h;rw[dh hk,he,zipIdx_append];simp[Nat.min_eq_left (Nat.le_of_lt hk)]
theorem mm{b:Int}{l:List aQ}{k:Nat}{p:aQ}(h:l[k]?=some p)(hm:aJ p.op):eh b (l.take (k+1))=eh b (l.take k)++[(p.dst,b,(k:Int))]:=by
 unfold eh;rw[qd h,e8,bZ];simp[hm]
theorem sd{b:Int}{l:List aQ}{k:Nat}{p:aQ}(h:l[k]?=some p)(hm:¬aJ p.op):eh b (l.take (k+1))=eh b (l.take k):=by
 unfold eh;rw[qd h,e8,bZ];simp[hm]
theorem qe(fs:List aG):ff fs 0=[]:=by simp[ff]
theorem kQ{fs:List aG}{k:Nat}{x:aG}(h:fs[k]?=some x):ff fs (k+1)=ff fs k++gO (k:Int) x:=by
 unfold ff;rw[qd h,qf];simp
theorem rf{fs:List aG}{n:Nat}{d:Int×Int×Int}(h:d∈ff fs n):0<=d.2.1/\d.2.1<n/\-1<=d.2.2:=by
 unfold ff at h;rw[fG]at h;obtain⟨x,hx,hd⟩:=h;have Qy:x.2<n:=by
  have:=snd_lt_of_mem_zipIdx hx;have h2:ae (fs.take n)<=n:=by simp;omega
  omega
 unfold gO at hd;rcases bV.1 hd with hd|hd
 ·unfold dJ at hd;obtain⟨p,_,rfl⟩:=aO.1 hd;exact⟨Dk _,by show(x.2:Int)<n;omega,by show(-1:Int)<=-1;omega⟩
 ·unfold eh at hd;obtain⟨p,_,rfl⟩:=aO.1 hd;exact⟨Dk _,by show(x.2:Int)<n;omega,by show(-1:Int)<=(p.2:Int);omega⟩
def findD(ds:xn)(v:Int):Option (Int×Int):=(ds.find? (λd=>d.1==v)).map (·.2)
theorem kf{ds:xn}{v:Int}(h:v∉ds.map (·.1)):findD ds v=none:=by
 unfold findD;rw[Option.map_eq_none_iff,qg];intro d hd he;rw[az]at he;exact h (aO.2 ⟨d,hd,he⟩)
theorem kS{ds:xn}{v:Int}(h:v∈ds.map (·.1)):∃p,findD ds v=some p/\(v,p)∈ds:=by
 unfold findD;obtain⟨d,hd,hv⟩:=aO.1 h;cases hf:ds.find? (λd=>d.1==v)with
 |none=>
  have:=qg.1 hf d hd;simp[hv]at this
 |some e=>
  have h1:=find?_some hf;have h2:=mem_of_find?_eq_some hf;rw[az]at h1;refine⟨e.2,rfl,?_⟩;rw[<-h1];exact h2
theorem Im{ds:xn}{v b k:Int}(h:v∉ds.map (·.1))(u:Int):findD (ds++[(v,b,k)]) u=if u=v then some (b,k)else findD ds u:=by
 unfold findD;rw[find?_append];by_cases e:u=v
 ·subst e;have:ds.find? (λd=>d.1==u)=none:=by rw[qg];intro d hd he;rw[az]at he;exact h (aO.2 ⟨d,hd,he⟩)
  rw[this];simp
 ·rw[ao e];have:([(v,b,k)]:xn).find? (λd=>d.1==u)=none:=by rw[qg];intro d hd he;simp at hd;subst hd;rw[az]at he;exact e he.symm
  rw[this];simp
structure Gg(n:Nat)(base:Nat->Int×Int)(enc:Int×Int->Int×Int)(ds:xn)(l:List (Int×Int)):Prop where
 len:ae l=n
 at_:∀v:Nat,v<n->l[v]?=some (match findD ds (v:Int)with
  |some p=>enc p
  |none=>base v)
def gD(lo hi:Int)(ds:xn):Prop:=(∀d,d∈ds->lo<=d.1/\d.1<hi)/\(ds.map (·.1)).Nodup
theorem gD.nil(lo hi:Int):gD lo hi []:=⟨sI,sI⟩
theorem gD.snoc{lo hi:Int}{ds:xn}{v b k:Int}:gD lo hi (ds++[(v,b,k)])↔gD lo hi ds/\(lo<=v/\v<hi)/\v∉ds.map (·.1):=by
 unfold gD;constructor
 ·rintro⟨h1,h2⟩;rw[bZ,jL]at h2;refine⟨⟨λd hd=>h1 d (ej _ hd),h2.1⟩,h1 (v,b,k) sI,λhm=>h2.2.2 v hm v sI rfl⟩
 ·rintro⟨⟨h1,h2⟩,h3,h4⟩;refine⟨λd hd=> ?_,?_⟩
  ·rcases bV.1 hd with hd|hd
   ·exact h1 d hd
   ·simp at hd;subst hd;exact h3
  ·rw[bZ,jL];refine⟨h2,sI,λa ha c hc e=> ?_⟩;simp at hc;subst hc;subst e;exact h4 ha
theorem gD.pre{lo hi:Int}{ds es:xn}(h:gD lo hi (ds++es)):gD lo hi ds:=by
 obtain⟨h1,h2⟩:=h;rw[bZ,jL]at h2;exact⟨λd hd=>h1 d (ej _ hd),h2.1⟩
theorem Gg.put{n:Nat}{base:Nat->Int×Int}{enc:Int×Int->Int×Int}{ds:xn}{l:List (Int×Int)}(h:Gg n base enc ds l){v b k:Int}(h0:0<=v)(h1:v<n)(hv:v∉ds.map (·.1)):Gg n base enc (ds++[(v,b,k)]) (l.set v.toNat (enc (b,k)))where
 len:=by rw[lj,h.len]
 at_:=λu hu=>by
  rw[Im hv];by_cases e:(u:Int)=v
  ·have:u=v.toNat:=oM;rw[ax e,this,kP (by rw[h.len];omega)]
  ·rw[ao e,jP oM];exact h.at_ u hu
theorem Xb{P:Program}{c:Code}{K:Act->World->Prop}{Q:Exit->Act->World->Prop}{a:Act}{w:World}{k k':Nat}{N:FN}{env:Env}{d:Option Nat}{ty:Nat}{g:Option (Nat×Bool)}{ts:Array TypeId}{x y:Operand}(hk:aB c k=some (d,.call {callee:= .builtin .max,args:=#[x,y],argTypes:=ts},ty,g))(hF:Fr a N env)(hg:bU c g env=some true)(hd:jW d N=true)(lI:k+1=k'){kd:IntKind}{i j:Int}(hx:ev env x=some (.int kd i))(hy:ev env y=some (.int kd j))(z:Int)(hz:z=if i<j then j else i)(h:∀a',a'=a.put d (.int kd z)->Fr a' N (eJ env d (.int kd z))->bL P c K Q k' a' w):bL P c K Q k a w:=by
 refine gq hk hF hg hd lI (λo ho=> ?_) h;unfold execOp;rw[ho];simp only[resolve,invoke,builtin,gG,o7,ig,C8,gu,qG,hF.ev hx,hF.ev hy,Builtin.max_,List.foldlM];subst hz;simp[Builtin.max2];try (split<;>simp_all<;>omega)
section
variable{P:Program}{c:Code}{Q:Exit -> Act -> World -> Prop}{N:FN}{env0:Env}{wr:World}{sp:Nat -> Spec}{i:Nat}
theorem dMN(kd:IntKind)(i1 j1 z:Int)(x y:Operand)(ts:Array TypeId)(ty:Nat)(g:Option (Nat×Bool))(hz:z=if j1<i1 then j1 else i1)(hv:sp i= .bd (.int kd z):=by rfl)(h0:aB (one c i) 0=some (bC c i,.call {callee:= .builtin .min,args:=#[x,y],argTypes:=ts},ty,g):=by kernel_rfl)(hg:∀vs,n5 c i (cO c i sp vs env0)=some true:=by intro _;kernel_rfl)(h1:∀vs,bU (one c i) g (cO c i sp vs env0)=some true:=by intro _;kernel_rfl)(h2:jW (bC c i) N=true:=by kernel_rfl)(hx:∀vs,ev (cO c i sp vs env0) x=some (.int kd i1):=by intro _;kernel_rfl)(hy:∀vs,ev (cO c i sp vs env0) y=some (.int kd j1):=by intro _;kernel_rfl)(he:aB (one c i) 1=none:=by kernel_rfl):l8 P c Q N env0 wr sp i:=by
 refine vC hg (λw vs hK hp a hF=> ?_);exact Dp h0 hF (h1 vs) h2 rfl (hx vs) (hy vs) z hz (λa' ea _=>aX he ⟨_,ea,Kp.refl w,by rw[hv];rfl⟩)
end
section
variable{P:Program}{c:Code}{K:Act -> World -> Prop}{Q:Exit -> Act -> World -> Prop}{a:Act}{w w0:World}{S:Nat -> Prop}{L:List bD}{k k':Nat}{N:FN}{env:Env}
variable{d:Option Nat}{ty:Nat}{g:Option (Nat × Bool)}
theorem IJ{t:TypeId}{x y:Operand}(hk:aB c k=some (d,.call {callee:= .builtin .append,args:=#[x,y],argTypes:=#[t,t]},ty,g))(hF:Fr a N env)(hg:bU c g env=some true)(hd:jW d N=true)(lI:k+1=k'){e size bytes:Nat}{z:Value}(ht:P.underlying t=some (.slice e))(hi:(P.info? e).map (λi=>(i.size,i.bytes,i.zero))=some (size,bytes,some z))(NF:Nat.beq z.cells.size size=true)(iX:Nat.blt 0 size=true){A B:ar}{n cap m cap':Nat}{xs news:bh}(hx:ev env x=some (vS A n cap))(hy:ev env y=some (vS B m cap'))(hM:Mem S w0 w L)(i:Nat)(hL:L[i]?=some (.row e size A n cap xs))(v7:(bD.rd B news).holds w)(hl:ae news=m*size)(h1:∀u∈news,u.oneCell'=true)(hb:(n+m)*bytes<=140737488355328)(C7:n+m<=maxLen)(nn:Nat)(ys:bh)(hn:n+m=nn)(hys:xs++news=ys)(h:∀A' c' w',Mem S w0 w' (L.set i (.row e size A' nn c' ys))->Mem (bD.row e size A n cap xs).fp w w' [.row e size A' nn c' ys]->∀a',a'=a.put d (vS A' nn c')->Fr a' N (eJ env d (vS A' nn c'))->bL P c K Q k' a' w'):bL P c K Q k a w:=by
 subst hn hys;exact Ag hk hF hg hd lI ht hi NF iX hx hy hM i hL v7 hl h1 hb C7 h
end
theorem wD:∀(vs xs:bh) (u:Value) (j:Nat),setAt (u::xs) (j+1) vs=u::setAt xs j vs
 |[],_,_,_=>rfl
 |v::vs,xs,u,j=>by show setAt (u::xs.set j v) (j+1+1) vs=u::setAt (xs.set j v) (j+1) vs;exact wD vs (xs.set j v) u (j+1)
theorem DL:∀(vs xs ys:bh),ae vs=ae xs->setAt (xs++ys) 0 vs=vs++ys
 |[],xs,ys,h=>by obtain rfl:xs=[]:=y2 h.symm;rfl
 |v::vs,[],ys,h=>by simp at h
 |v::vs,x::xs,ys,h=>by show setAt (v::(xs++ys)) 1 vs=v::(vs++ys);rw[<-DL vs xs ys (by simpa using h)];exact wD vs (xs++ys) v 0
theorem GB:∀(us xs vs:bh) (j:Nat),setAt (us++xs) (ae us+j) vs=us++setAt xs j vs
 |[],xs,vs,j=>sI
 |u::us,xs,vs,j=>by rw[show ae (u::us)+j=(ae us+j)+1 by simp;omega,y7,wD,GB us xs vs j,y7]
theorem wE{α:Type}{f:α->bh}{k:Nat}(hf:∀x,ae (f x)=k)(y:α):∀(l:List α) (m:Nat),m<ae l->setAt (l.flatMap f) (m*k) (f y)=(l.set m y).flatMap f
 |[],m,h=>by simp at h
 |x::l,0,_=>by rw[iE,xK,DL _ _ _ (by rw[hf,hf])];rfl
 |x::l,m+1,h=>by rw[iE,show(m+1)*k=ae (f x)+m*k by rw[hf,uP];omega,GB,wE hf y l m (by simpa using h)];rfl
theorem pC{α:Type}{f:α->bh}{k:Nat}(hf:∀x,ae (f x)=k)(l:List α):ae (l.flatMap f)=ae l*k:=by
 induction l with
 |nil=>simp
 |cons x l ih=>rw[iE,dG,hf,ih,fh,uP];omega
theorem IK{α:Type}{f:α->bh}{k:Nat}(hf:∀x,ae (f x)=k):∀(l:List α) (i:Nat) (x:α),l[i]?=some x->∀(j:Nat) (v:Value),(f x)[j]?=some v->(l.flatMap f)[i*k+j]?=some v
 |[],i,x,h,_,_,_=>by simp at h
 |y::l,0,x,h,j,v,hv=>by simp at h;subst h;rw[iE,xK,nK,o9 (aW.1 hv).1];exact hv
 |y::l,i+1,x,h,j,v,hv=>by simp at h;rw[iE,lJ (by rw[hf,uP];omega),hf,show(i+1)*k+j-k=i*k+j by rw[uP];omega];exact IK hf l i x h j v hv
theorem gm{α β:Type}{f:α->β}{l:List α}{i:Nat}{x:α}(h:l[i]?=some x):(l.map f)[i]?=some (f x):=by rw[aL,h];rfl
section
variable{P:Program}{c:Code}{K:Act -> World -> Prop}{Q:Exit -> Act -> World -> Prop}{w:World}{N:FN}{env:Env}
theorem o3(x y:Int)(ht:x=y->∀a,Fr a N env->W P (Code.l c) K Q a w)(hf:¬x=y->∀a,Fr a N env->W P (Code.r c) K Q a w)(hk:DH c env=some (vB (x==y)):=by kernel_rfl):∀a,Fr a N env->W P c K Q a w:=fZ (x==y) (x=y) az ht hf hk
end
section
variable{P:Program}{c:Code}{K:Act -> World -> Prop}{Q:Exit -> Act -> World -> Prop}{w w0:World}{N:FN}{env:Env}{a:Act}{S:Nat -> Prop}{L:List bD}{k:Nat}
theorem zAN(d:Nat)(x y:Operand)(t ty:TypeId)(hF:Fr a N env){e size bytes:Nat}{z:Value}{A B:ar}{n cap m cap':Nat}{xs news:bh}(hM:Mem S w0 w L)(i:Nat)(hL:L[i]?=some (.row e size A n cap xs))(v7:(bD.rd B news).holds w)(hl:ae news=m*size)(h1:∀u∈news,u.oneCell'=true)(hb:(n+m)*bytes<=140737488355328)(C7:n+m<=maxLen)(nn:Nat)(ys:bh)(hn:n+m=nn)(hys:xs++news=ys)(h:∀A' c' w',Mem S w0 w' (L.set i (.row e size A' nn c' ys))->Mem (bD.row e size A n cap xs).fp w w' [.row e size A' nn c' ys]->∀a',a'=a.put (some d) (vS A' nn c')->Fr a' N (eJ env (some d) (vS A' nn c'))->bL P c K Q (k+1) a' w')(hk:aB c k=some (some d,.call {callee:= .builtin .append,args:=#[x,y],argTypes:=#[t,t]},ty,none):=by kernel_rfl)(hd:jW (some d) N=true:=by kernel_rfl)(ht:P.underlying t=some (.slice e):=by kernel_rfl)(hi:(P.info? e).map (λi=>(i.size,i.bytes,i.zero))=some (size,bytes,some z):=by kernel_rfl)(NF:Nat.beq z.cells.size size=true:=by kernel_rfl)(iX:Nat.blt 0 size=true:=by kernel_rfl)(hx:ev env x=some (vS A n cap):=by kernel_rfl)(hy:ev env y=some (vS B m cap'):=by kernel_rfl):bL P c K Q k a w:=IJ hk hF rfl hd rfl ht hi NF iX hx hy hM i hL v7 hl h1 hb C7 nn ys hn hys h
end
def Hs(i:aQ)(lo mo:Int)(bn bm:Bool):Prop:=(aJ i.op\/i.dst= -1)/\(bn=true/\(bm=true↔i.name.size≠0)/\(bm=true->bX i.name)/\lo<=(ae i.args:Int)/\(ae i.args:Int)<=mo)
section
variable{i:aQ}{lo mo:Int}{bn bm:Bool}{N:Prop}
theorem pP(hn:bn=true↔N):Hs i lo mo bn false↔((aJ i.op\/i.dst= -1)/\N/\i.name.size=0/\lo<=(ae i.args:Int)/\(ae i.args:Int)<=mo):=by
 unfold Hs;rw[hn];simp only[v8,false_iff,jK,Decidable.not_not,false_implies,jR]
theorem RS(hn:bn=true↔N):Hs i lo mo bn true↔((aJ i.op\/i.dst= -1)/\N/\bX i.name/\lo<=(ae i.args:Int)/\(ae i.args:Int)<=mo):=by
 unfold Hs;rw[hn];simp only[true_iff,jK,true_implies];constructor
 ·rintro⟨h1,h2,h3,h4,h5⟩;exact⟨h1,h2,h4,h5⟩
 ·rintro⟨h1,h2,h3,h4⟩;exact⟨h1,h2,by unfold bX at h3;omega,h3,h4⟩
theorem PF{x:Bool}(hx:(x=true)=(i.name.size=0))(hs:cA i↔Hs i lo mo bn bm)(hc:¬(¬aJ i.op/\i.dst≠-1)):(((((bn=true)/\(bm=(!x)))/\((¬(bm=true))\/(bX i.name)))/\((ae i.args:Int)>=lo))/\((ae i.args:Int)<=mo))↔cA i:=by
 rw[hs];have xp:aJ i.op\/i.dst= -1:=by
  by_cases h:aJ i.op
  ·exact .inl h
  ·exact .inr (fy.1 (λe=>hc ⟨h,e⟩))
 cases bm with
 |false=>
  rw[pP ju,<-hx];cases x
  ·simp
  ·simp only[Bool.not_true,v8,kJ,kI,lf,jR,xp];constructor
   ·rintro⟨⟨h1,h2⟩,h3⟩;exact⟨h1,h2,h3⟩
   ·rintro⟨h1,h2,h3⟩;exact⟨⟨h1,h2⟩,h3⟩
 |true=>
  rw[RS ju];have eC:bX i.name->x=false:=by intro h;rw[dj];intro e;rw[hx]at e;unfold bX at h;omega
  constructor
  ·rintro⟨⟨⟨⟨h1,h2⟩,h3⟩,h4⟩,h5⟩;rcases h3 with h3|h3
   ·exact absurd rfl h3
   ·exact⟨xp,h1,h3,h4,h5⟩
  ·rintro⟨_,h1,h3,h4,h5⟩;exact⟨⟨⟨⟨h1,by rw[eC h3];rfl⟩,.inr h3⟩,h4⟩,h5⟩
theorem Un(hc:¬aJ i.op/\i.dst≠-1):¬cA i:=λh=>h.1.elim hc.1 hc.2
theorem Qon:(true=true)↔True:=sI
theorem Qib:(false=true)↔False:=sI
end
end Go.Mor
namespace Go.Mor
open List
open List renaming length -> ae
open Go.RowKit
def VQ(pa va:Int)(fs:List aG):Prop:=(∀x,x∈fs->∀p,p∈x.insts->cA p)/\gD pa va (bQ fs)
def nW(fs:List aG)(k:Nat):Prop:=∀(i:Nat) (x:aG),i<k->fs[i]?=some x->∀p,p∈x.insts->cA p
def rh(x:aG)(j:Nat):Prop:=∀(i:Nat) (p:aQ),i<j->x.insts[i]?=some p->cA p
theorem nW.next{fs:List aG}{k:Nat}{x:aG}(h:nW fs k)(hx:fs[k]?=some x)(hi:rh x (ae x.insts)):nW fs (k+1):=by
 intro i y hik hy p hp;rcases ns i k with h1|h1
 ·exact h i y h1 hy p hp
 ·have:i=k:=oM;subst this;rw[hx]at hy;injection hy with hy;subst hy;obtain⟨j,hj⟩:=bq.1 hp;exact hi j p (aW.1 hj).1 hj
theorem rh.next{x:aG}{j:Nat}{p:aQ}(h:rh x j)(hp:x.insts[j]?=some p)(hs:cA p):rh x (j+1):=by
 intro i q hij hq;rcases ns i j with h1|h1
 ·exact h i q h1 hq
 ·have:i=j:=oM;subst this;rw[hp]at hq;injection hq with hq;exact hq▸hs
theorem nW.all{fs:List aG}(h:nW fs (ae fs)):∀x,x∈fs->∀p,p∈x.insts->cA p:=by
 intro x hx;obtain⟨i,hi⟩:=bq.1 hx;exact h i x (aW.1 hi).1 hi
theorem Dw{fs:List aG}(k:Nat):∀n,k<=n->n<=ae fs->∃es,ff fs n=ff fs k++es:=by
 intro n;induction n with
 |zero=>intro h _;exact⟨[],by rw[Nat.le_zero.1 h];simp⟩
 |succ n ih=>
  intro h hn;rcases ns n k with h1|h1
  ·have:k=n+1:=oM;subst this;exact⟨[],sI⟩
  ·obtain⟨es,he⟩:=ih h1 oM;obtain⟨x,hx⟩:=aP (l:=fs) (i:=n) oM;exact⟨es++gO n x,by rw[kQ hx,he,dV]⟩
theorem QbF(b:Int)(l:List cV)(j:Nat):∃es,dJ b l=dJ b (l.take j)++es:=⟨dJ b (l.drop j),by unfold dJ;rw[<-bZ,oI]⟩
theorem QbG(b:Int)(l:List aQ)(j:Nat):∃es,eh b l=eh b (l.take j)++es:=by
 have e:l.zipIdx=(l.take j).zipIdx++(l.drop j).zipIdx (0+ae (l.take j)):=by rw[<-zipIdx_append,oI]
 refine⟨(((l.drop j).zipIdx (0+ae (l.take j))).filter (λx=>decide (aJ x.1.op))).map (λx=>(x.1.dst,b,(x.2:Int))),?_⟩;unfold eh;rw[e,e8,bZ]
theorem Ku{fs:List aG}{pa va:Int}{k:Nat}{x:aG}(hx:fs[k]?=some x)(j:Nat)(h:gD pa va (bQ fs)):gD pa va (ff fs k++dJ k (x.ak.take j)):=by
 have hk:=(aW.1 hx).1;obtain⟨es,he⟩:=Dw (fs:=fs) (k+1) (ae fs) hk (cH _);obtain⟨e2,h2⟩:=QbF k x.ak j;have:bQ fs=(ff fs k++dJ k (x.ak.take j))++(e2++eh k x.insts++es):=by unfold bQ;rw[he,kQ hx,gO,h2];simp only[dV]
 rw[this]at h;exact h.pre
theorem Kv{fs:List aG}{pa va:Int}{k:Nat}{x:aG}(hx:fs[k]?=some x)(j:Nat)(h:gD pa va (bQ fs)):gD pa va (ff fs k++dJ k x.ak++eh k (x.insts.take j)):=by
 have hk:=(aW.1 hx).1;obtain⟨es,he⟩:=Dw (fs:=fs) (k+1) (ae fs) hk (cH _);obtain⟨e2,h2⟩:=QbG k x.insts j;have:bQ fs=(ff fs k++dJ k x.ak++eh k (x.insts.take j))++(e2++es):=by unfold bQ;rw[he,kQ hx,gO,h2];simp only[dV]
 rw[this]at h;exact h.pre
structure Enc(lo pa:Int)(n:Nat)(base:Nat->Int×Int)(enc:Int×Int->Int×Int):Prop where
 base:∀v:Nat,v<n->lo<=(v:Int)->((base v).1<0↔pa<=(v:Int))
 enc:∀p,0<=p.1->0<=(enc p).1
def NonNeg(ds:xn):Prop:=∀d,d∈ds->0<=d.2.1
theorem WA{pa lo hi:Int}{n:Nat}{base:Nat->Int×Int}{enc:Int×Int->Int×Int}{ds:xn}{l:List (Int×Int)}(h:Gg n base enc ds l)(he:Enc lo pa n base enc)(hd:NonNeg ds)(h0:0<=lo)(h1:lo<=pa)(hn:hi=(n:Int))(v:Int):nU lo hi l v↔(pa<=v/\v<hi)/\v∉ds.map (·.1):=by
 unfold nU;constructor
 ·rintro⟨⟨a,b⟩,c⟩;have hv:l[v.toNat]?=some (match findD ds (v.toNat:Int)with|some p=>enc p|none=>base v.toNat):=h.at_ v.toNat oM;have ev:(v.toNat:Int)=v:=oM;rw[ev]at hv;have hg:l.getD v.toNat (0,0)=(match findD ds v with|some p=>enc p|none=>base v.toNat):=by simp[List.getD,hv]
  rw[hg]at c;by_cases hm:v∈ds.map (·.1)
  ·obtain⟨p,hp,nt⟩:=kS hm;rw[hp]at c;have:=he.enc p (hd _ nt);simp only at c;omega
  ·rw[kf hm]at c;have:=(he.base v.toNat oM oM).1 c;exact⟨⟨oM,b⟩,hm⟩
 ·rintro⟨⟨a,b⟩,hm⟩;have hv:l[v.toNat]?=some (match findD ds (v.toNat:Int)with|some p=>enc p|none=>base v.toNat):=h.at_ v.toNat oM;have ev:(v.toNat:Int)=v:=oM;rw[ev,kf hm]at hv;have hg:l.getD v.toNat (0,0)=base v.toNat:=by simp[List.getD,hv]
  rw[hg];exact⟨⟨oM,b⟩,(he.base v.toNat oM oM).2 oM⟩
theorem ph(fs:List aG)(k j:Nat)(l:List cV):NonNeg (ff fs k++dJ k (l.take j)):=by
 intro d hd;rcases bV.1 hd with hd|hd
 ·exact(rf hd).1
 ·unfold dJ at hd;obtain⟨p,_,rfl⟩:=aO.1 hd;exact Dk _
theorem Dx(fs:List aG)(k j:Nat)(l:List cV)(m:List aQ):NonNeg (ff fs k++dJ k l++eh k (m.take j)):=by
 intro d hd;rcases bV.1 hd with hd|hd
 ·have:=ph fs k (ae l) l d (by rw[gC];exact hd);exact this
 ·unfold eh at hd;obtain⟨p,_,rfl⟩:=aO.1 hd;exact Dk _
theorem oV{pa lo hi:Int}{n:Nat}{base:Nat->Int×Int}{enc:Int×Int->Int×Int}{ds:xn}{l:List (Int×Int)}(h:Gg n base enc ds l)(he:Enc lo pa n base enc)(hd:NonNeg ds)(h0:0<=lo)(h1:lo<=pa)(hn:hi=(n:Int))(ho:gD pa hi ds)(v b k:Int):(nU lo hi l v->Gg n base enc (ds++[(v,b,k)]) (l.set v.toNat (enc (b,k)))/\gD pa hi (ds++[(v,b,k)]))/\(¬nU lo hi l v->¬gD pa hi (ds++[(v,b,k)])):=by
 have key:=WA h he hd h0 h1 hn v;constructor
 ·intro hp;obtain⟨h2,h3⟩:=key.1 hp;exact⟨h.put oM oM h3,gD.snoc.2 ⟨ho,h2,h3⟩⟩
 ·intro hp hq;obtain⟨_,h2,h3⟩:=gD.snoc.1 hq;exact hp (key.2 ⟨h2,h3⟩)
def qh(n k:Nat):List (Int×Int):=List.replicate k (-1,0)++List.replicate (n-k) (0,0)
theorem N0(n:Nat):qh n 0=List.replicate n (0,0):=by simp[qh]
theorem Qjs{n k:Nat}(h:k<=n):ae (qh n k)=n:=by simp[qh];omega
theorem Sv{n k:Nat}(h:k<n):(qh n k)[k]?=some (0,0):=by
 unfold qh;rw[lJ sI,qI,l5,show n-k=(n-(k+1))+1 by omega];rfl
theorem N1{n k:Nat}(h:k<n):(qh n k).set k (-1,0)=qh n (k+1):=by
 unfold qh;rw[qi _ _ sI,replicate_succ',dV];congr 1;rw[qI,l5,show n-k=(n-(k+1))+1 by omega,p9];rfl
theorem Sw(n:Nat):Gg n (λ_=>(-1,0)) (λp=>(p.1,p.2+1)) [] (qh n n)where
 len:=by simp[qh]
 at_:=λv hv=>by have:findD [] (v:Int)=none:=rfl;rw[this];simp[qh,hv]
theorem QbH(pa:Int)(n:Nat):Enc pa pa n (λ_=>(-1,0)) (λp=>(p.1,p.2+1)):=⟨λ_ _ h=>⟨λ_=>h,λ_=>dQ⟩,λp h=>h⟩
end Go.Mor
namespace Go.Mor
open List
open List renaming length -> ae
open Go.RowKit
def mN(pa:Int)(v:Nat):Int×Int:=if(v:Int)<pa then(0,-2)else(-1,0)
def lR(pa:Int)(n k:Nat):List (Int×Int):=(List.range k).map (mN pa)++List.replicate (n-k) (0,0)
theorem N2(pa:Int)(n:Nat):lR pa n 0=List.replicate n (0,0):=by simp[lR]
theorem Sx{pa:Int}{n k:Nat}(h:k<=n):ae (lR pa n k)=n:=by simp[lR];omega
theorem Sy{pa:Int}{n k:Nat}(h:k<n):(lR pa n k)[k]?=some (0,0):=by
 unfold lR;rw[lJ sI,bl,qj,l5,show n-k=(n-(k+1))+1 by omega];rfl
theorem Gh{pa:Int}{n k:Nat}{p:Int×Int}(h:k<n)(hp:mN pa k=p):(lR pa n k).set k p=lR pa n (k+1):=by
 unfold lR;rw[qi _ _ sI,oH,bZ,dV];congr 1;rw[bl,qj,l5,show n-k=(n-(k+1))+1 by omega,p9,<-hp];rfl
theorem WB{pa:Int}{n k:Nat}(h:k<n)(hp:¬(k:Int)<pa):(lR pa n k).set k (-1,0)=lR pa n (k+1):=Gh h (by simp[mN,hp])
theorem Sz{pa:Int}{n k:Nat}(h:k<n)(hp:(k:Int)<pa):((lR pa n k).set k (-1,0)).set k (0,-2)=lR pa n (k+1):=by
 rw[set_set];exact Gh h (by simp[mN,hp])
theorem SC(pa:Int)(n:Nat):Gg n (mN pa) (λp=>p) [] (lR pa n n)where
 len:=by simp[lR]
 at_:=λv hv=>by have:findD [] (v:Int)=none:=rfl;rw[this];simp[lR,hv]
theorem QbI(pa:Int)(n:Nat):Enc 0 pa n (mN pa) (λp=>p):=⟨λv _ _=>by unfold mN;split<;>simp<;>omega,λp h=>h⟩
end Go.Mor
namespace Go.Mor
abbrev qP:=List (Int×Nat×Nat)
mutual
inductive Fp(K:Int->ah):Int->Nat->Nat->qP->Prop
 |mk {b:Int} {n m:Nat} {r:qP}:kg K (K b) (n+1) m r->Fp K b n (m+1) (r++[(b,n+1,m+1)])
inductive kg(K:Int->ah):ah->Nat->Nat->qP->Prop
 |nil {n:Nat}:kg K [] n n []
 |snoc {l:ah} {c:Int} {n m p:Nat} {r s:qP}:kg K l n m r->Fp K c m p s->kg K (l++[c]) n p (r++s)
end
structure TreeU(K:Int->ah)(pl up:Int->Int):Prop where
 W0:∀b c,c∈K b->up c=b/\c≠0/\pl b<pl c
 SP:∀b,(K b).Nodup
section
variable{K:Int -> List Int}{pl up:Int -> Int}
theorem TreeU.N6(h:TreeU K pl up){b c:Int}(hc:c∈K b):kN up c b:= .step (h.W0 b c hc).2.1 (by rw[(h.W0 b c hc).1];exact .refl _)
mutual
theorem Fp.facts(h:TreeU K pl up){b:Int}{n m:Nat}{r:qP}:Fp K b n m r->(∀x i o,(x,i,o)∈r->kN up x b/\n<i/\i<o/\o<=m)/\n<m
 | .mk (m:=m) hl=>by
  have ih:=kg.facts h hl;constructor
  ·intro x i o hx;rcases bV.1 hx with hx|hx
   ·obtain⟨⟨c,hc,ha⟩,h1,h2,h3⟩:=ih.1 x i o hx;exact⟨ha.trans (h.N6 hc),oM,h2,oM⟩
   ·simp only[cF,dg]at hx;obtain⟨rfl,rfl,rfl⟩:=hx;have:=ih.2;exact⟨.refl _,oM,oM,oM⟩
  ·have:=ih.2;omega
theorem kg.facts(h:TreeU K pl up){l:ah}{n m:Nat}{r:qP}:kg K l n m r->(∀x i o,(x,i,o)∈r->(∃c,c∈l/\kN up x c)/\n<i/\i<o/\o<=m)/\n<=m
 | .nil=>⟨λx i o hx=>by simp at hx,cH _⟩
 | .snoc (l:=l) (c:=c) (m:=m0) hl hv=>by
  have i1:=kg.facts h hl;have i2:=Fp.facts h hv;refine⟨λx i o hx=> ?_,by have:=i1.2;have:=i2.2;omega⟩;rcases bV.1 hx with hx|hx
  ·obtain⟨⟨c',hc,ha⟩,h1,h2,h3⟩:=i1.1 x i o hx;have:=i2.2;exact⟨⟨c',ej _ hc,ha⟩,h1,h2,oM⟩
  ·obtain⟨ha,h1,h2,h3⟩:=i2.1 x i o hx;have:=i1.2;exact⟨⟨c,sI,ha⟩,oM,h2,h3⟩
end
theorem kN.chain{x a b:Int}(ha:kN up x a)(hb:kN up x b):kN up a b\/kN up b a:=by
 induction ha with
 |refl=>exact .inl hb
 | @step x d eC h ih=>
  cases hb with
  |refl=>exact .inr (.step eC h)
  |step _ hb=>exact ih hb
theorem TreeU.sub(h:TreeU K pl up){b c c' y:Int}(hc:c∈K b)(xp:c'∈K b)(hp:∀x d,kN up x d->0<=pl x->pl d<=pl x)(hb:0<=pl b)(h1:kN up y c)(h2:kN up y c'):c=c':=by
 have key:∀c c',c∈K b->c'∈K b->kN up c c'->c=c':=by
  intro c c' hc xp ha;cases ha with
  |refl=>rfl
  |step eC ha=>
   rw[(h.W0 b c hc).1]at ha;have:=hp _ _ ha hb;have:=(h.W0 b c' xp).2.2;omega
 rcases kN.chain h1 h2 with h3|h3
 ·exact key c c' hc xp h3
 ·exact(key c' c xp hc h3).symm
structure qm(K:Int->ah)(pl up:Int->Int):Prop extends TreeU K pl up where
 le:∀x d,kN up x d->0<=pl x->pl d<=pl x
 pos:∀b,0<=pl b->∀c,c∈K b->0<=pl c
 neg:∀x d,pl x<0->0<=pl d->¬kN up x d
mutual
theorem Fp.hold(h:qm K pl up){b:Int}(hb:0<=pl b){n m:Nat}{r:qP}:Fp K b n m r->∀x i o y i' o',(x,i,o)∈r->(y,i',o')∈r->((i<=i'/\o'<=o)↔kN up y x)
 | .mk (m:=m) (r:=r) hl=>by
  intro x i o y i' o' hx hy;have f:=kg.facts h.toTreeU hl;rcases bV.1 hx with x1|x1<;>rcases bV.1 hy with y1|y1
  ·exact kg.hold h hb (λc hc=>hc) (h.SP b) hl x i o y i' o' x1 y1
  ·simp only[cF,dg]at y1;obtain⟨e1,e2,e3⟩:=y1;obtain⟨⟨c,hc,ha⟩,h1,h2,h3⟩:=f.1 x i o x1;constructor
   ·intro hh;omega
   ·intro hh;rw[e1]at hh;have h4:=(h.W0 _ _ hc).2.2;have h5:=h.le _ _ hh hb;have h6:=h.pos b hb c hc;have h7:=h.le _ _ (hh.trans ha) hb;omega
  ·simp only[cF,dg]at x1;obtain⟨e1,e2,e3⟩:=x1;obtain⟨⟨c,hc,ha⟩,h1,h2,h3⟩:=f.1 y i' o' y1;rw[e1];exact⟨λ_=>ha.trans (h.N6 hc),λ_=>⟨by omega,by omega⟩⟩
  ·simp only[cF,dg]at x1 y1;obtain⟨e1,e2,e3⟩:=x1;obtain⟨e4,e5,e6⟩:=y1;rw[e1,e4];exact⟨λ_=> .refl _,λ_=>⟨by omega,by omega⟩⟩
theorem kg.hold(h:qm K pl up){b:Int}(hb:0<=pl b){l:ah}(kE:∀c,c∈l->c∈K b)(yO:l.Nodup){n m:Nat}{r:qP}:kg K l n m r->(∀x i o y i' o',(x,i,o)∈r->(y,i',o')∈r->((i<=i'/\o'<=o)↔kN up y x))
 | .nil=>λx i o y i' o' hx _=>by simp at hx
 | .snoc (l:=l) (c:=c) hl hv=>by
  have f1:=kg.facts h.toTreeU hl;have f2:=Fp.facts h.toTreeU hv;have Vq:=kE c (by simp);have SL:=h.pos b hb c Vq;rw[jL]at yO;have apart:∀y,kN up y c->∀c',c'∈l->¬kN up y c':=by intro y h1 c' xp h2;have:=h.sub Vq (kE c' (ej _ xp)) h.le hb h1 h2;exact yO.2.2 c' xp c (by simp) this.symm
  intro x i o y i' o' hx hy;rcases bV.1 hx with x1|x1<;>rcases bV.1 hy with y1|y1
  ·exact kg.hold h hb (λc hc=>kE c (ej _ hc)) yO.1 hl x i o y i' o' x1 y1
  ·obtain⟨⟨c',xp,ha⟩,h1,h2,h3⟩:=f1.1 x i o x1;obtain⟨HR,h4,h5,h6⟩:=f2.1 y i' o' y1;constructor
   ·intro hh;omega
   ·intro hh;exact absurd (hh.trans ha) (apart y HR c' xp)
  ·obtain⟨⟨c',xp,ha⟩,h1,h2,h3⟩:=f1.1 y i' o' y1;obtain⟨HR,h4,h5,h6⟩:=f2.1 x i o x1;constructor
   ·intro hh;omega
   ·intro hh;exact absurd ha (apart y (hh.trans HR) c' xp)
  ·exact Fp.hold h SL hv x i o y i' o' x1 y1
end
end
inductive W1(K:Int->ah):List (Int×Int)->Int->Nat->List (Int×Nat)->qP->Prop
 |nil:W1 K [] 0 0 [] []
 |snoc {ws:List (Int×Int)} {b c:Int} {n0 n1 j:Nat} {op:List (Int×Nat)} {rs r:qP}:W1 K ws b n0 op rs->kg K ((K b).take j) (n0+1) n1 r->(K b)[j]?=some c->
   W1 K (ws++[(b,(j:Int)+1)]) c n1 (op++[(b,n0+1)]) (rs++r)
def QD(f:Int->Int)(op:List (Int×Nat))(rs:qP):Prop:=∀x:Int,(∀i:Nat,(x,i)∈op->f x=i)/\(∀i o:Nat,(x,i,o)∈rs->f x=i)/\((∀i:Nat,(x,i)∉op)->(∀i o:Nat,(x,i,o)∉rs)->f x=0)
def Iz(g:Int->Int)(rs:qP):Prop:=∀x:Int,(∀i o:Nat,(x,i,o)∈rs->g x=o)/\((∀i o:Nat,(x,i,o)∉rs)->g x=0)
def Fq(f:Int->Int)(b v:Int):Int->Int:=λx=>if x=b then v else f x
section
variable{K:Int -> List Int}{pl up:Int -> Int}
theorem kg.len{l:ah}{n m:Nat}{r:qP}(h:kg K l n m r):m=n+2*ae r:=by
 refine kg.rec (motive_1:=λ_ n m r _=>m=n+2*ae r) (motive_2:=λ_ n m r _=>m=n+2*ae r) ?_ ?_ ?_ h
 ·intro b n m r _ ih;simp only[dG,fh,gX];omega
 ·intro n;simp
 ·intro l c n m p r s _ _ i1 i2;simp only[dG];omega
mutual
theorem Fp.SP(h:qm K pl up){b:Int}(hb:0<=pl b){n m:Nat}{r:qP}:Fp K b n m r->(r.map (·.1)).Nodup
 | .mk (m:=m) (r:=r) hl=>by have f:=kg.facts h.toTreeU hl;rw[bZ,jL];refine⟨kg.SP h hb (λc hc=>hc) (h.SP b) hl,sI,λx hx y hy e=> ?_⟩;simp at hy;subst hy;subst e;obtain⟨⟨x,i,o⟩,mx,rfl⟩:=aO.1 hx;obtain⟨⟨c,hc,ha⟩,_⟩:=f.1 x i o mx;have h4:=(h.W0 _ _ hc).2.2;have h5:=h.le _ _ ha hb;simp only at h4;omega
theorem kg.SP(h:qm K pl up){b:Int}(hb:0<=pl b){l:ah}(kE:∀c,c∈l->c∈K b)(yO:l.Nodup){n m:Nat}{r:qP}:kg K l n m r->(r.map (·.1)).Nodup
 | .nil=>sI
 | .snoc (l:=l) (c:=c) hl hv=>by have f1:=kg.facts h.toTreeU hl;have f2:=Fp.facts h.toTreeU hv;have Vq:=kE c sI;rw[jL]at yO;rw[bZ,jL];refine⟨kg.SP h hb (λc hc=>kE c (ej _ hc)) yO.1 hl,Fp.SP h (h.pos b hb c Vq) hv,λx hx y hy e=> ?_⟩;obtain⟨⟨x,i,o⟩,mx,rfl⟩:=aO.1 hx;obtain⟨⟨y,i',o'⟩,my,rfl⟩:=aO.1 hy;simp only at e;subst e;obtain⟨⟨c',xp,ha⟩,_⟩:=f1.1 x i o mx;obtain⟨HR,_⟩:=f2.1 x i' o' my;have:=h.sub Vq (kE c' (ej _ xp)) h.le hb HR ha;exact yO.2.2 c' xp c sI this.symm
end
theorem W1.facts(h:qm K pl up)(h0:0<=pl 0){ws:List (Int×Int)}{b:Int}{n0:Nat}{op:List (Int×Nat)}{rs:qP}(hl:W1 K ws b n0 op rs):0<=pl b/\(∀x i,(x,i)∈op->kN up b x/\pl x<pl b/\0<=pl x/\1<=i)/\(∀x i o,(x,i,o)∈rs->¬kN up x b/\0<=pl x)/\(op.map (·.1)++rs.map (·.1)).Nodup/\n0=ae op+2*ae rs:=by
 induction hl with
 |nil=>exact⟨h0,sI,sI,sI,sI⟩
 | @snoc ws b c n0 n1 j op rs r hl hv hc ih=>
  obtain⟨hb,h1,h2,h3,h4⟩:=ih;have Vq:c∈K b:=aI hc;have SL:=h.pos b hb c Vq;have hk:=h.W0 b c Vq;have kE:∀x,x∈(K b).take j->x∈K b:=λx hx=>Cu hx
  have fr:=kg.facts h.toTreeU hv;have Qb1:∀x,x∈(K b).take j->x≠c:=by
   rintro x hx rfl;obtain⟨i,hi,he⟩:=Iq.1 hx;have tc:(K b)[i]?=some x:=by rw[dF oM,he]
   have hd:=h.SP b;obtain⟨hj,hje⟩:=aW.1 hc;have:=(nodup_iff_pairwise_ne.1 hd);rw[tx]at this;exact this i j oM hj oM (by rw[he,hje])
  have hr:∀x i o,(x,i,o)∈r->¬kN up x c/\kN up x b/\0<=pl x/\x≠b:=by
   intro x i o hx;obtain⟨⟨c',xp,ha⟩,_⟩:=fr.1 x i o hx;have lI:=h.W0 b c' (kE c' xp);refine⟨λpS=>Qb1 c' xp (h.sub (kE c' xp) Vq h.le hb ha pS),ha.trans (h.N6 (kE c' xp)),?_,?_⟩
   ·rcases Int.lt_or_le (pl x) 0 with h7|h7
    ·exfalso;exact absurd ha (h.neg x c' h7 (h.pos b hb c' (kE c' xp)))
    ·exact h7
   ·rintro rfl;have:=h.le _ _ ha hb;omega
  refine⟨SL,λx i hx=> ?_,λx i o hx=> ?_,?_,?_⟩
  ·rcases bV.1 hx with hx|hx
   ·obtain⟨a1,a2,a3,a4⟩:=h1 x i hx;exact⟨(h.N6 Vq).trans a1,oM,a3,a4⟩
   ·simp only[cF,dg]at hx;obtain⟨rfl,rfl⟩:=hx;exact⟨h.N6 Vq,hk.2.2,hb,oM⟩
  ·rcases bV.1 hx with hx|hx
   ·obtain⟨a1,a2⟩:=h2 x i o hx;refine⟨λha=> ?_,a2⟩;exact a1 (ha.trans (h.N6 Vq))
   ·exact⟨(hr x i o hx).1,(hr x i o hx).2.2.1⟩
  ·rw[jL]at h3;rw[bZ,bZ,jL,jL,jL];refine⟨⟨h3.1,sI,λx hx y hy e=> ?_⟩,⟨h3.2.1,kg.SP h hb kE ((h.SP b).sublist (xQ _ _)) hv,λx hx y hy e=> ?_⟩,λx hx y hy e=> ?_⟩
   ·simp at hy;subst hy;subst e;obtain⟨⟨x,i⟩,mx,rfl⟩:=aO.1 hx;have:=(h1 x i mx).2.1;simp only at this;omega
   ·obtain⟨⟨x,i,o⟩,mx,rfl⟩:=aO.1 hx;obtain⟨⟨y,i',o'⟩,my,rfl⟩:=aO.1 hy;simp only at e;subst e;exact(h2 x i o mx).1 (hr x i' o' my).2.1
   ·rcases bV.1 hx with hx|hx<;>rcases bV.1 hy with hy|hy
    ·exact h3.2.2 x hx y hy e
    ·obtain⟨⟨x,i⟩,mx,rfl⟩:=aO.1 hx;obtain⟨⟨y,i',o'⟩,my,rfl⟩:=aO.1 hy;simp only at e;subst e;have a1:=(hr x i' o' my).2.1;have a2:=h.le _ _ a1 (hr x i' o' my).2.2.1;have:=(h1 x i mx).2.1;omega
    ·simp at hx;subst hx;subst e;obtain⟨⟨y,i',o'⟩,my,rfl⟩:=aO.1 hy;exact(h2 y i' o' my).1 (.refl _)
    ·simp at hx;subst hx;subst e;obtain⟨⟨y,i',o'⟩,my,rfl⟩:=aO.1 hy;exact(hr y i' o' my).2.2.2 rfl
  ·have:=kg.len hv;simp only[dG,fh,gX];omega
end
def W2(K:Int->ah)(ws:List (Int×Int))(b:Int)(n:Nat)(f g:Int->Int):Prop:=∃op rs,W1 K ws b n op rs/\QD f op rs/\Iz g rs
def QE(K:Int->ah)(ws:List (Int×Int))(b:Int)(k n:Nat)(f g:Int->Int):Prop:=∃op rs n0 r,W1 K ws b n0 op rs/\kg K ((K b).take k) (n0+1) n r/\k<=ae (K b)/\QD f (op++[(b,n0+1)]) (rs++r)/\Iz g (rs++r)
def FIN(K:Int->ah)(n:Nat)(f g:Int->Int):Prop:=∃rs,Fp K 0 0 n rs/\QD f [] rs/\Iz g rs
def IA(K:Int->ah)(lS:List (Int×Int))(n:Nat)(f g:Int->Int):Prop:=(lS=[]/\FIN K n f g)\/∃(ws:List (Int×Int)) (b:Int) (k:Nat),lS=ws++[(b,(k:Int))]/\((k=0/\W2 K ws b n f g)\/(1<=k/\QE K ws b k n f g))
section
variable{K:Int -> List Int}{pl up:Int -> Int}{ws:List (Int × Int)}{b:Int}{n k:Nat}{f g:Int -> Int}
theorem W2.start(h:qm K pl up)(h0:0<=pl 0)(hu:W2 K ws b n f g):QE K ws b 0 (n+1) (Fq f b ((n:Int)+1)) g:=by
 obtain⟨op,rs,hl,hf,hg⟩:=hu;obtain⟨f1,f2,f3,f4,f5⟩:=hl.facts h h0;refine⟨op,rs,n,[],hl,by rw[take_zero];exact .nil,cI _,?_,by rw[iq];exact hg⟩;rw[iq];intro x;unfold Fq;by_cases e:x=b
 ·subst e;rw[ax rfl];refine⟨λi hi=> ?_,λi o hi=> ?_,λhi _=> ?_⟩
  ·rcases bV.1 hi with hi|hi
   ·have:=(f2 x i hi).2.1;omega
   ·simp only[cF,dg]at hi;obtain⟨_,rfl⟩:=hi;simp
  ·exact absurd (.refl _) (f3 x i o hi).1
  ·exact absurd (sI:(x,n+1)∈op++[(x,n+1)]) (hi (n+1))
 ·rw[ao e];refine⟨λi hi=> ?_,(hf x).2.1,λhi hj=>(hf x).2.2 (λi hm=>hi i (ej _ hm)) hj⟩;rcases bV.1 hi with hi|hi
  ·exact(hf x).1 i hi
  ·simp only[cF,dg]at hi;exact absurd hi.1 e
theorem QE.pos(h:qm K pl up)(h0:0<=pl 0)(hs:QE K ws b k n f g):0<=pl b:=by
 obtain⟨op,rs,n0,r,hl,_⟩:=hs;exact(hl.facts h h0).1
theorem W2.pos(h:qm K pl up)(h0:0<=pl 0)(hs:W2 K ws b n f g):0<=pl b:=by
 obtain⟨op,rs,hl,_⟩:=hs;exact(hl.facts h h0).1
theorem QE.push(hs:QE K ws b k n f g){c:Int}(hc:(K b)[k]?=some c):W2 K (ws++[(b,(k:Int)+1)]) c n f g:=by
 obtain⟨op,rs,n0,r,hl,hv,hk,hf,hg⟩:=hs;exact⟨_,_,.snoc hl hv hc,hf,hg⟩
theorem QE.finish(h:qm K pl up)(h0:0<=pl 0)(hs:QE K ws b (ae (K b)) n f g):IA K ws (n+1) f (Fq g b ((n:Int)+1)):=by
 obtain⟨op,rs,n0,r,hl,hv,hk,hf,hg⟩:=hs;obtain⟨f1,f2,f3,f4,f5⟩:=hl.facts h h0;rw[gC]at hv;have fr:=kg.facts h.toTreeU hv;have QjG:Fp K b n0 (n+1) (r++[(b,n0+1,n+1)]):= .mk hv;have hnr:∀i o:Nat,(b,i,o)∉rs++r:=by
  intro i o hm;rcases bV.1 hm with hm|hm
  ·exact(f3 b i o hm).1 (.refl _)
  ·obtain⟨⟨c,hc,ha⟩,_⟩:=fr.1 b i o hm;have:=h.le _ _ ha f1;have:=(h.W0 b c hc).2.2;omega
 have hf':QD f op (rs++(r++[(b,n0+1,n+1)])):=by
  intro x;refine⟨λi hi=>(hf x).1 i (ej _ hi),λi o hi=> ?_,λhi hj=>(hf x).2.2 (λi hm=> ?_) (λi o hm=>hj i o ?_)⟩
  ·rw[<-dV]at hi;rcases bV.1 hi with hi|hi
   ·exact(hf x).2.1 i o hi
   ·simp only[cF,dg]at hi;obtain⟨rfl,rfl,rfl⟩:=hi;exact(hf x).1 (n0+1) sI
  ·rcases bV.1 hm with hm|hm
   ·exact hi i hm
   ·simp only[cF,dg]at hm;obtain⟨rfl,rfl⟩:=hm;exact hj (n0+1) (n+1) sI
  ·rw[<-dV];exact ej _ hm
 have rG:Iz (Fq g b ((n:Int)+1)) (rs++(r++[(b,n0+1,n+1)])):=by
  intro x;unfold Fq;rw[<-dV];by_cases e:x=b
  ·subst e;rw[ax rfl];refine⟨λi o hi=> ?_,λhi=>absurd (sI:(x,n0+1,n+1)∈rs++r++[(x,n0+1,n+1)]) (hi _ _)⟩;rcases bV.1 hi with hi|hi
   ·exact absurd hi (hnr i o)
   ·simp only[cF,dg]at hi;obtain⟨_,_,rfl⟩:=hi;simp
  ·rw[ao e];refine⟨λi o hi=> ?_,λhi=>(hg x).2 (λi o hm=>hi i o (ej _ hm))⟩;rcases bV.1 hi with hi|hi
   ·exact(hg x).1 i o hi
   ·simp only[cF,dg]at hi;exact absurd hi.1 e
 cases hl with
 |nil=>
  exact .inl ⟨rfl,_,by simpa using QjG,by simpa using hf',by simpa using rG⟩
 | @snoc ws' b' _ m0 _ j op' rs' r' JY hv' xp=>
  refine .inr ⟨ws',b',j+1,sI,.inr ⟨oM,op',rs',m0,r'++(r++[(b,n0+1,n+1)]),JY,?_,?_,?_,?_⟩⟩
  ·obtain⟨hj,hje⟩:=aW.1 xp;rw[dh hj,hje];exact .snoc hv' QjG
  ·exact(aW.1 xp).1
  ·rw[dV]at hf';exact hf'
  ·rw[dV]at rG;exact rG
theorem KM{l:ah}{N:Nat}(hn:l.Nodup)(hr:∀x,x∈l->0<=x/\x<(N:Int)):ae l<=N:=by
 have hp:=(perm_ext_iff_of_nodup hn (l₂:=((List.range N).filter (λi:Nat=>decide ((i:Int)∈l))).map (λi:Nat=>(i:Int))) (DD (xU.sublist xL))).2 (λx=>by
  constructor
  ·intro hx;obtain⟨h1,h2⟩:=hr x hx;have e:(x.toNat:Int)=x:=jM h1;exact aO.2 ⟨x.toNat,dY.2 ⟨dp.2 oM,by rw[e];simpa using hx⟩,e⟩
  ·intro hx;obtain⟨i,hi,rfl⟩:=aO.1 hx;simpa using(dY.1 hi).2)
 rw[hp.length_eq,bl];exact iz (j6 _ _) sI
theorem W1.bound(h:qm K pl up)(h0:0<=pl 0){N:Nat}(hN:∀x,0<=pl x->0<=x/\x<(N:Int)){op:List (Int×Nat)}{rs:qP}(hl:W1 K ws b n op rs):n+2<=2*N:=by
 obtain⟨f1,f2,f3,f4,f5⟩:=hl.facts h h0;have yO:(b::(op.map (·.1)++rs.map (·.1))).Nodup:=by
  rw[qk];refine⟨λhm=> ?_,f4⟩;rcases bV.1 hm with hm|hm
  ·obtain⟨⟨x,i⟩,mx,rfl⟩:=aO.1 hm;have:=(f2 x i mx).2.1;simp only at this;omega
  ·obtain⟨⟨x,i,o⟩,mx,rfl⟩:=aO.1 hm;exact(f3 x i o mx).1 (.refl _)
 have:=KM (N:=N) yO (λx hx=>by
  rcases cG.1 hx with rfl|hx
  ·exact hN _ f1
  ·rcases bV.1 hx with hm|hm
   ·obtain⟨⟨x,i⟩,mx,rfl⟩:=aO.1 hm;exact hN _ (f2 x i mx).2.2.1
   ·obtain⟨⟨x,i,o⟩,mx,rfl⟩:=aO.1 hm;exact hN _ (f3 x i o mx).2)
 simp only[fh,dG,bl]at this;omega
theorem W2.bound(h:qm K pl up)(h0:0<=pl 0){N:Nat}(hN:∀x,0<=pl x->0<=x/\x<(N:Int))(hu:W2 K ws b n f g):n+2<=2*N:=by
 obtain⟨op,rs,hl,_⟩:=hu;exact hl.bound h h0 hN
theorem QE.bound(h:qm K pl up)(h0:0<=pl 0){N:Nat}(hN:∀x,0<=pl x->0<=x/\x<(N:Int))(hs:QE K ws b k n f g):n+1<=2*N:=by
 obtain⟨op,rs,n0,r,hl,hv,hk,_,_⟩:=hs;obtain⟨f1,f2,f3,f4,f5⟩:=hl.facts h h0;have fr:=kg.facts h.toTreeU hv;have kE:∀x,x∈(K b).take k->x∈K b:=λx hx=>Cu hx
 have KO:∀x i o,(x,i,o)∈r->kN up x b/\0<=pl x/\x≠b:=by
  intro x i o hx;obtain⟨⟨c',xp,ha⟩,_⟩:=fr.1 x i o hx;have lI:=h.W0 b c' (kE c' xp);refine⟨ha.trans (h.N6 (kE c' xp)),?_,?_⟩
  ·rcases Int.lt_or_le (pl x) 0 with h7|h7
   ·exact absurd ha (h.neg x c' h7 (h.pos b f1 c' (kE c' xp)))
   ·exact h7
  ·rintro rfl;have:=h.le _ _ ha f1;omega
 have yO:(b::((op.map (·.1)++rs.map (·.1))++r.map (·.1))).Nodup:=by
  rw[qk,jL];refine⟨λhm=> ?_,f4,kg.SP h f1 kE ((h.SP b).sublist (xQ _ _)) hv,λx hx y hy e=> ?_⟩
  ·rcases bV.1 hm with hm|hm
   ·rcases bV.1 hm with hm|hm
    ·obtain⟨⟨x,i⟩,mx,rfl⟩:=aO.1 hm;have:=(f2 x i mx).2.1;simp only at this;omega
    ·obtain⟨⟨x,i,o⟩,mx,rfl⟩:=aO.1 hm;exact(f3 x i o mx).1 (.refl _)
   ·obtain⟨⟨x,i,o⟩,mx,rfl⟩:=aO.1 hm;exact(KO x i o mx).2.2 rfl
  ·obtain⟨⟨y,i',o'⟩,my,rfl⟩:=aO.1 hy;rcases bV.1 hx with hx|hx
   ·obtain⟨⟨x,i⟩,mx,rfl⟩:=aO.1 hx;simp only at e;subst e;have:=(f2 x i mx).2.1;have:=h.le _ _ (KO x i' o' my).1 (KO x i' o' my).2.1;omega
   ·obtain⟨⟨x,i,o⟩,mx,rfl⟩:=aO.1 hx;simp only at e;subst e;exact(f3 x i o mx).1 (KO x i' o' my).1
 have:=KM (N:=N) yO (λx hx=>by
  rcases cG.1 hx with rfl|hx
  ·exact hN _ f1
  ·rcases bV.1 hx with hx|hx
   ·rcases bV.1 hx with hm|hm
    ·obtain⟨⟨x,i⟩,mx,rfl⟩:=aO.1 hm;exact hN _ (f2 x i mx).2.2.1
    ·obtain⟨⟨x,i,o⟩,mx,rfl⟩:=aO.1 hm;exact hN _ (f3 x i o mx).2
   ·obtain⟨⟨x,i,o⟩,mx,rfl⟩:=aO.1 hx;exact hN _ (KO x i o mx).2.1)
 have hlen:=kg.len hv;simp only[fh,dG,bl]at this;omega
end
section
variable{K:Int -> List Int}{pl up:Int -> Int}
mutual
theorem Fp.kids{b:Int}{n m:Nat}{r:qP}:Fp K b n m r->(∃i o,(b,i,o)∈r)/\∀x i o,(x,i,o)∈r->∀c,c∈K x->∃i' o',(c,i',o')∈r
 | .mk (m:=m) (r:=r) hl=>by
  have ih:=kg.kids hl;refine⟨⟨n+1,m+1,sI⟩,λx i o hx c hc=> ?_⟩;rcases bV.1 hx with hx|hx
  ·obtain⟨i',o',h'⟩:=ih.2 x i o hx c hc;exact⟨i',o',ej _ h'⟩
  ·simp only[cF,dg]at hx;obtain⟨rfl,_,_⟩:=hx;obtain⟨i',o',h'⟩:=ih.1 c hc;exact⟨i',o',ej _ h'⟩
theorem kg.kids{l:ah}{n m:Nat}{r:qP}:kg K l n m r->(∀c,c∈l->∃i o,(c,i,o)∈r)/\∀x i o,(x,i,o)∈r->∀c,c∈K x->∃i' o',(c,i',o')∈r
 | .nil=>⟨λc hc=>by simp at hc,λx i o hx=>by simp at hx⟩
 | .snoc (l:=l) (c:=c0) hl hv=>by
  have i1:=kg.kids hl;have i2:=Fp.kids hv;refine⟨λc hc=> ?_,λx i o hx c hc=> ?_⟩
  ·rcases bV.1 hc with hc|hc
   ·obtain⟨i',o',h'⟩:=i1.1 c hc;exact⟨i',o',ej _ h'⟩
   ·simp only[cF]at hc;subst hc;obtain⟨i',o',h'⟩:=i2.1;exact⟨i',o',kF _ h'⟩
  ·rcases bV.1 hx with hx|hx
   ·obtain⟨i',o',h'⟩:=i1.2 x i o hx c hc;exact⟨i',o',ej _ h'⟩
   ·obtain⟨i',o',h'⟩:=i2.2 x i o hx c hc;exact⟨i',o',kF _ h'⟩
end
theorem FIN.QgN{n:Nat}{f g:Int->Int}(h:qm K pl up)(h0:0<=pl 0)(cY:∀x,0<=pl x->x≠0->x∈K (up x)/\0<=pl (up x)/\pl (up x)<pl x)(hf:FIN K n f g){x y:Int}(hx:0<=pl x)(hy:0<=pl y):(0<f x/\0<f y/\f x<=f y/\g y<=g x)↔kN up y x:=by
 obtain⟨rs,hv,rI,qQ⟩:=hf;have hk:=Fp.kids hv;have key:∀(m:Nat) (x:Int),0<=pl x->(pl x).toNat<=m->∃i o,(x,i,o)∈rs:=by
  intro m;induction m with
  |zero=>
   intro x hx hm;by_cases e:x=0
   ·subst e;exact hk.1
   ·have:=cY x hx e;omega
  |succ m ih=>
   intro x hx hm;by_cases e:x=0
   ·subst e;exact hk.1
   ·obtain⟨h1,h2,h3⟩:=cY x hx e;obtain⟨i,o,F8⟩:=ih (up x) h2 oM;exact hk.2 _ i o F8 x h1
 obtain⟨i,o,mx⟩:=key _ x hx (cH _);obtain⟨i',o',my⟩:=key _ y hy (cH _);have fr:=Fp.facts h.toTreeU hv;obtain⟨_,p1,p2,_⟩:=fr.1 x i o mx;obtain⟨_,p3,p4,_⟩:=fr.1 y i' o' my;rw[(rI x).2.1 i o mx,(rI y).2.1 i' o' my,(qQ x).1 i o mx,(qQ y).1 i' o' my,<-Fp.hold h h0 hv x i o y i' o' mx my];omega
end
def iu(bs:List SB)(up:Int->Int)(k:Nat)(d:Int):ah:=((aR bs).take k).filter (λx=>up x==d)
def nz(bs:List SB)(up:Int->Int)(k:Nat):List ah:=(List.range (ae bs)).map (λd:Nat=>iu bs up k (d:Int))
def gY(bs:List SB)(up:Int->Int)(b:Int):ah:=if 0<=b then(aR bs).filter (λx=>up x==b)else[]
section
variable{bs:List SB}{up:Int -> Int}
theorem SQ(k:Nat)(d:Int):ae (iu bs up k d)<=ae bs:=by
 have:=mb bs;have h2:=j6 (λx=>up x==d) ((aR bs).take k);have:ae ((aR bs).take k)<=ae (aR bs):=by simp;omega
 unfold iu;omega
theorem KP:nz bs up 0=List.replicate (ae bs) []:=by
 unfold nz iu;apply fM;intro t;by_cases h:t<ae bs
 ·simp[h]
 ·rw[db (by simpa using h),db (by simpa using h)]
theorem wq(k:Nat):ae (nz bs up k)=ae bs:=by simp[nz]
theorem pv{k d:Nat}(hd:d<ae bs):(nz bs up k)[d]?=some (iu bs up k (d:Int)):=by simp[nz,hd]
theorem KQ{k d:Nat}{b:Int}(hk:(aR bs)[k]?=some b)(hu:up b=(d:Int))(hd:d<ae bs):(nz bs up k).set d (iu bs up k (d:Int)++[b])=nz bs up (k+1):=by
 apply fM;intro t;by_cases e:d=t
 ·subst e;rw[kP (by rw[wq];exact hd),pv hd];congr 1;unfold iu;rw[lu hk,e8];simp[hu]
 ·rw[jP e];by_cases h:t<ae bs
  ·rw[pv h,pv h];congr 1;unfold iu;rw[lu hk,e8];have:¬up b=(t:Int):=by rw[hu];omega
   simp[this]
  ·rw[db (by rw[wq];omega),db (by rw[wq];omega)]
theorem KR{k:Nat}{b:Int}(hk:(aR bs)[k]?=some b)(hu:up b<0):nz bs up k=nz bs up (k+1):=by
 unfold nz;apply nL;intro t _;unfold iu;rw[lu hk,e8];have:¬up b=(t:Int):=oM;simp[this]
theorem SR{k b:Nat}(hk:ae (aR bs)<=k)(hb:b<ae bs):(nz bs up k)[b]?=some (gY bs up (b:Int)):=by
 rw[pv hb];unfold iu gY;rw[cL hk,ax oM]
theorem xW{b c:Int}:c∈gY bs up b↔0<=b/\c∈aR bs/\up c=b:=by
 unfold gY;split
 ·rename_i h;simp[h]
 ·rename_i h;simp[h]
theorem SS(b:Int):ae (gY bs up b)<=ae bs:=by
 unfold gY;have:=mb bs;split
 ·have h2:=j6 (λx=>up x==b) (aR bs);omega
 ·simp
theorem IB(h0:0<ae bs){c:Int}:c∈aR bs↔0<=ll bs c:=by
 rw[(ln h0).reach,(rj h0).mem]
theorem Iy.tree(h0:0<ae bs)(hf:Iy bs up):qm (gY bs up) (ll bs) up where
 W0 b c hc:=by
  obtain⟨h1,h2,h3⟩:=xW.1 hc;have hp:=(IB h0).1 h2;have eC:c≠0:=by rintro rfl;have:=hf.off 0 (.inr rfl);omega
  have:=(hf.ok.low c (hf.N5 c hp) eC).2;rw[h3]at this;exact⟨h3,eC,this⟩
 SP b:=by
  unfold gY;split
  ·exact(rj h0).nodup.sublist xL
  ·exact nodup_nil
 le x d h hx:=(kN.N5 hf.ok h (hf.N5 x hx)).2.1;pos b hb c hc:=(IB h0).1 (xW.1 hc).2.1;neg x d hx hd h:=by
  induction h with
  |refl=>omega
  | @step x d eC h ih=>
   refine ih ?_ hd;rw[hf.off x (.inl hx)];rcases Int.lt_or_le (ll bs (-1)) 0 with h1|h1
   ·exact h1
   ·have:=nO h0 h1;omega
theorem Iy.cY(h0:0<ae bs)(hf:Iy bs up):∀x,0<=ll bs x->x≠0->x∈gY bs up (up x)/\0<=ll bs (up x)/\ll bs (up x)<ll bs x:=by
 intro x hx eC;obtain⟨h1,h2⟩:=hf.ok.low x (hf.N5 x hx) eC;have:=nO h0 h1.1;exact⟨xW.2 ⟨this.1,(IB h0).2 hx,rfl⟩,h1.1,h2⟩
theorem QgO(h0:0<ae bs)(hf:Iy bs up){b:Int}(hb:0<=ll bs b)(hu:0<=up b):∃d:Nat,up b=(d:Int)/\d<ae bs:=by
 have eC:b≠0:=by rintro rfl;have:=hf.off 0 (.inr rfl);omega
 have h:=nO h0 (hf.cY h0 b hb eC).2.1;exact⟨(up b).toNat,(jM h.1).symm,oM⟩
theorem Qb2(h0:0<ae bs){b:Int}{k:Nat}(hk:k<ae (gY bs up b)):∃ci:Nat,(gY bs up b)[k]?=some (ci:Int)/\ci<ae bs:=by
 have hm:(gY bs up b)[k]∈gY bs up b:=p7 hk;have hp:=(IB h0).1 (xW.1 hm).2.1;have:=nO h0 hp;exact⟨((gY bs up b)[k]).toNat,by rw[dF hk,jM this.1],oM⟩
end
theorem xX(ws:List (Int×Int))(b k:Int):kO ws++[vI b,vI k]=kO (ws++[(b,k)]):=by simp[kO]
theorem qn(ws:List (Int×Int))(b k:Int):(kO (ws++[(b,k)]))[ae ws*2]?=some (vI b)/\(kO (ws++[(b,k)]))[ae ws*2+1]?=some (vI k):=Wz (p:=(b,k)) sI
theorem Qb3(ws:List (Int×Int))(b k:Int):(kO (ws++[(b,k)])).take (ae ws*2)=kO ws:=by
 rw[<-xX,take_left' (by rw[Ik])]
theorem Qb4(ws:List (Int×Int))(b k v:Int):(kO (ws++[(b,k)])).set (ae ws*2+1) (vI v)=kO (ws++[(b,v)]):=by
 rw[<-xX,<-xX,qi _ _ (by rw[Ik];omega),Ik,show ae ws*2+1-ae ws*2=1 by omega];rfl
theorem di.upd{n:Nat}{l:ah}{f:Int->Int}(h:di n l f){b v:Int}(h0:0<=b)(h1:b<(n:Int)):di n (l.set b.toNat v) (Fq f b v):=by
 refine h.set oM (by simp[Fq,jM h0]) (λj _ eC=> ?_);unfold Fq;rw[ao oM]
theorem Gt(n:Nat):di n (List.replicate n 0) (λ_=>0):=⟨sI,λi hi=>by simp[List.getD,hi]⟩
section
variable{K:Int -> List Int}{ws:List (Int × Int)}{b:Int}{n k:Nat}{f g:Int -> Int}
theorem kg.le{l:ah}{n m:Nat}{r:qP}(h:kg K l n m r):n<=m:=by have:=kg.len h;omega
theorem W1.SU{op:List (Int×Nat)}{rs:qP}(h:W1 K ws b n op rs):ae ws<=n:=by
 induction h with
 |nil=>simp
 |snoc _ hv _ ih=>have:=hv.le;simp only[dG,fh,gX];omega
theorem W2.SU(h:W2 K ws b n f g):ae ws<=n:=by
 obtain⟨op,rs,hl,_⟩:=h;exact hl.SU
theorem QE.SU(h:QE K ws b k n f g):ae ws+1<=n:=by
 obtain⟨op,rs,n0,r,hl,hv,_⟩:=h;have:=hl.SU;have:=hv.le;omega
theorem IA.start:IA K [(0,0)] 0 (λ_=>0) (λ_=>0):= .inr ⟨[],0,0,sI,.inl ⟨rfl,[],[],.nil,λx=>⟨sI,sI,λ_ _=>rfl⟩,λx=>⟨sI,λ_=>rfl⟩⟩⟩
theorem IA.none(h:IA K [] n f g):FIN K n f g:=by
 rcases h with⟨_,h⟩|⟨ws,b,k,e,_⟩
 ·exact h
 ·simp at e
theorem IA.some{lS:List (Int×Int)}(h:IA K lS n f g)(hw:0<ae lS):∃(ws:List (Int×Int)) (b:Int) (k:Nat),lS=ws++[(b,(k:Int))]/\((k=0/\W2 K ws b n f g)\/(1<=k/\QE K ws b k n f g)):=by
 rcases h with⟨rfl,_⟩|h
 ·simp at hw
 ·exact h
def DE(lS:List (Int×Int)):Nat:=match lS.getLast? with
 |some (_,k)=>if k=0 then 0 else 1
 |none=>0
theorem W3(lS:List (Int×Int)):DE lS<=1:=by
 unfold DE;split
 ·split<;>omega
 ·omega
theorem wu(ws:List (Int×Int))(b k:Int):DE (ws++[(b,k)])=if k=0 then 0 else 1:=by simp[DE]
end
def fS(f g:Int->Int)(a b:Int):Prop:=0<f a/\0<f b/\f a<=f b/\g b<=g a
instance (f g : Int -> Int) (a b : Int) : Decidable (fS f g a b) := by unfold fS; infer_instance
def dw(D:Int->Int->Prop)(pa va:Int)(ds:xn)(v b q:Int):Prop:=0<=v/\v<va/\(v<pa\/∃p,findD ds v=some p/\((p.1=b/\p.2<q)\/(p.1≠b/\D p.1 b)))
noncomputable instance (D : Int -> Int -> Prop) (pa va : Int) (ds : xn) (v b q : Int) : Decidable (dw D pa va ds v b q) := Classical.propDecidable _
section
variable{D:Int -> Int -> Prop}{pa va:Int}{n:Nat}{ds:xn}{l:List (Int × Int)}{v b q:Int}{pm:Int × Int}
theorem Gu(h:v<0\/va<=v):¬dw D pa va ds v b q:=fun⟨h1,h2,_⟩=>oM
theorem SV(h0:0<=v)(h1:v<va)(h2:v<pa):dw D pa va ds v b q:=⟨h0,h1,.inl h2⟩
theorem zo{base:Nat->Int×Int}{enc:Int×Int->Int×Int}(ht:Gg n base enc ds l)(j8:l[v.toNat]?=some pm)(h0:0<=v)(h1:v<(n:Int)):pm=(match findD ds v with|some p=>enc p|none=>base v.toNat):=by
 have:=ht.at_ v.toNat oM;rw[j8,jM h0]at this;exact Option.some.inj this
theorem tN(hn:NonNeg ds){p:Int×Int}(h:findD ds v=some p):0<=p.1:=by
 by_cases hm:v∈ds.map (·.1)
 ·obtain⟨p',h1,h2⟩:=kS hm;rw[h]at h1;injection h1 with h1;subst h1;exact hn _ h2
 ·rw[kf hm]at h;cases h
abbrev N9(n:Nat)(ds:xn)(l:List (Int×Int)):Prop:=Gg n (λ_=>(-1,0)) (λp=>(p.1,p.2+1)) ds l
theorem W4(ht:N9 n ds l)(hn:NonNeg ds)(j8:l[v.toNat]?=some pm)(h0:0<=v)(h1:v<(n:Int))(hv:¬v<pa)(h2:pm.1<0):¬dw D pa va ds v b q:=by
 rintro⟨_,_,h|⟨p,hp,_⟩⟩
 ·exact hv h
 ·have:=zo ht j8 h0 h1;rw[hp]at this;have h3:=tN hn hp;rw[this]at h2;simp only at h2;omega
theorem wv(ht:N9 n ds l)(j8:l[v.toNat]?=some pm)(h0:0<=v)(h1:v<(n:Int))(h2:0<=pm.1):findD ds v=some (pm.1,pm.2-1):=by
 have:=zo ht j8 h0 h1;cases hf:findD ds v with
 |none=>
  rw[hf]at this;rw[this]at h2;simp only at h2;omega
 |some p=>
  rw[hf]at this;rw[this];simp only[Int.add_sub_cancel]
theorem Oa(ht:N9 n ds l)(j8:l[v.toNat]?=some pm)(h0:0<=v)(h1:v<(n:Int))(kr:va=(n:Int))(hv:¬v<pa)(h2:0<=pm.1)(h3:pm.1=b):pm.2<=q↔dw D pa va ds v b q:=by
 have hf:=wv ht j8 h0 h1 h2;constructor
 ·intro h;exact⟨h0,oM,.inr ⟨_,hf,.inl ⟨h3,by show pm.2-1<q;omega⟩⟩⟩
 ·rintro⟨_,_,h|⟨p,hp,h⟩⟩
  ·exact absurd h hv
  ·rw[hf]at hp;injection hp with hp;subst hp;rcases h with⟨_,h⟩|⟨h,_⟩
   ·simp only at h;omega
   ·exact absurd h3 h
theorem W5(ht:N9 n ds l)(j8:l[v.toNat]?=some pm)(h0:0<=v)(h1:v<(n:Int))(kr:va=(n:Int))(hv:¬v<pa)(h2:0<=pm.1)(h3:¬pm.1=b):D pm.1 b↔dw D pa va ds v b q:=by
 have hf:=wv ht j8 h0 h1 h2;constructor
 ·intro h;exact⟨h0,oM,.inr ⟨_,hf,.inr ⟨h3,h⟩⟩⟩
 ·rintro⟨_,_,h|⟨p,hp,h⟩⟩
  ·exact absurd h hv
  ·rw[hf]at hp;injection hp with hp;subst hp;rcases h with⟨h,_⟩|⟨_,h⟩
   ·exact absurd h h3
   ·exact h
theorem SX{N:Nat}(ht:N9 n ds l)(hd:∀d,d∈ds->0<=d.2.1/\d.2.1<(N:Int)/\-1<=d.2.2)(j8:l[v.toNat]?=some pm)(h0:0<=v)(h1:v<(n:Int))(h2:0<=pm.1):pm.1<(N:Int):=by
 have hf:=wv ht j8 h0 h1 h2;by_cases hm:v∈ds.map (·.1)
 ·obtain⟨p,h3,h4⟩:=kS hm;rw[hf]at h3;injection h3 with h3;subst h3;exact(hd _ h4).2.1
 ·rw[kf hm]at hf;cases hf
theorem Ob{N:Nat}(ht:Gg n (mN pa) (λp=>p) ds l)(hd:∀d,d∈ds->0<=d.2.1/\d.2.1<(N:Int)/\-1<=d.2.2)(j8:l[v.toNat]?=some pm)(h0:0<=v)(h1:v<(n:Int))(hN:0<N):pm.1<(N:Int):=by
 have h4:=zo ht j8 h0 h1;by_cases hm:v∈ds.map (·.1)
 ·obtain⟨p,h5,h6⟩:=kS hm;rw[h5]at h4;rw[h4];exact(hd _ h6).2.1
 ·rw[kf hm]at h4;rw[h4];show(mN pa v.toNat).1<(N:Int);unfold mN;split<;>simp only<;>omega
abbrev KS(pa:Int)(n:Nat)(ds:xn)(l:List (Int×Int)):Prop:=Gg n (mN pa) (λp=>p) ds l
theorem SY(ht:KS pa n ds l)(hn:NonNeg ds)(j8:l[v.toNat]?=some pm)(h0:0<=v)(h1:v<(n:Int))(h2:pm.1<0):¬dw D pa va ds v b q:=by
 have h3:=zo ht j8 h0 h1;rintro⟨_,_,h|⟨p,hp,_⟩⟩
 ·cases hf:findD ds v with
  |none=>
   rw[hf]at h3;have:(v.toNat:Int)<pa:=oM;simp only[mN,this,mM]at h3;rw[h3]at h2;exact absurd h2 dQ
  |some p=>
   rw[hf]at h3;have:=tN hn hf;have e:pm=p:=h3;rw[e]at h2;omega
 ·rw[hp]at h3;have:=tN hn hp;have e:pm=p:=h3;rw[e]at h2;omega
theorem Oc(ht:KS pa n ds l)(hk:∀d,d∈ds->-1<=d.2.2)(j8:l[v.toNat]?=some pm)(h0:0<=v)(h1:v<(n:Int))(kr:va=(n:Int))(h2:0<=pm.1)(h3:pm.2= -2):dw D pa va ds v b q:=by
 have h4:=zo ht j8 h0 h1;cases hf:findD ds v with
 |none=>
  rw[hf]at h4;by_cases h:(v.toNat:Int)<pa
  ·exact⟨h0,oM,.inl oM⟩
  ·simp only[mN,h,mJ]at h4;rw[h4]at h2;exact absurd h2 dQ
 |some p=>
  exfalso;rw[hf]at h4;by_cases hm:v∈ds.map (·.1)
  ·obtain⟨p',h5,h6⟩:=kS hm;rw[hf]at h5;injection h5 with h5;subst h5;have:=hk _ h6;simp only at this h4;rw[<-h4]at this;omega
  ·rw[kf hm]at hf;cases hf
theorem Ar(ht:KS pa n ds l)(j8:l[v.toNat]?=some pm)(h0:0<=v)(h1:v<(n:Int))(h2:0<=pm.1)(h3:¬pm.2= -2):findD ds v=some pm:=by
 have h4:=zo ht j8 h0 h1;cases hf:findD ds v with
 |none=>
  rw[hf]at h4;by_cases h:(v.toNat:Int)<pa
  ·simp only[mN,h,mM]at h4;rw[h4]at h3;exact absurd rfl h3
  ·simp only[mN,h,mJ]at h4;rw[h4]at h2;exact absurd h2 dQ
 |some p=>rw[hf]at h4;rw[h4]
theorem KT(ho:∀p,findD ds v=some p->¬v<pa)(ht:KS pa n ds l)(j8:l[v.toNat]?=some pm)(h0:0<=v)(h1:v<(n:Int))(kr:va=(n:Int))(h2:0<=pm.1)(h3:¬pm.2= -2)(h4:pm.1=b):pm.2<q↔dw D pa va ds v b q:=by
 have hf:=Ar ht j8 h0 h1 h2 h3;have hv:=ho _ hf;constructor
 ·intro h;exact⟨h0,oM,.inr ⟨_,hf,.inl ⟨h4,h⟩⟩⟩
 ·rintro⟨_,_,h|⟨p,hp,h⟩⟩
  ·exact absurd h hv
  ·rw[hf]at hp;injection hp with hp;subst hp;rcases h with⟨_,h⟩|⟨h,_⟩
   ·exact h
   ·exact absurd h4 h
theorem SZ(ho:∀p,findD ds v=some p->¬v<pa)(ht:KS pa n ds l)(j8:l[v.toNat]?=some pm)(h0:0<=v)(h1:v<(n:Int))(kr:va=(n:Int))(h2:0<=pm.1)(h3:¬pm.2= -2)(h4:¬pm.1=b):D pm.1 b↔dw D pa va ds v b q:=by
 have hf:=Ar ht j8 h0 h1 h2 h3;have hv:=ho _ hf;constructor
 ·intro h;exact⟨h0,oM,.inr ⟨_,hf,.inr ⟨h4,h⟩⟩⟩
 ·rintro⟨_,_,h|⟨p,hp,h⟩⟩
  ·exact absurd h hv
  ·rw[hf]at hp;injection hp with hp;subst hp;rcases h with⟨h,_⟩|⟨_,h⟩
   ·exact absurd h h4
   ·exact h
theorem Od(ht:KS pa n ds l)(hn:NonNeg ds)(kr:va=(n:Int))(h:¬(0<=v/\v<(n:Int)/\0<=(l.getD v.toNat (0,0)).1)):¬dw D pa va ds v b q:=by
 by_cases hv:0<=v/\v<(n:Int)
 ·have hl:=ht.len;exact SY ht hn (tI (0,0) oM) hv.1 hv.2 oM
 ·exact Gu oM
theorem KU(ho:∀d,d∈ds->pa<=d.1):∀p,findD ds v=some p->¬v<pa:=by
 intro p hp;by_cases hm:v∈ds.map (·.1)
 ·obtain⟨d,hd,rfl⟩:=aO.1 hm;have:=ho d hd;omega
 ·rw[kf hm]at hp;cases hp
def kt(bs:List SB)(a b:Int):Prop:=Nc (jY bs) a.toNat b.toNat=true
end
structure zp(D:Int->Int->Prop)(E:Int->Int)(R:aG->Prop)(pa va:Int)(fs:List aG)(k:Nat)(x:aG):Prop where
 ak:∀(j:Nat) (p:cV),x.ak[j]?=some p->ae p.args=ae (bO (au fs) (k:Int))/\
  ∀(i:Nat) (a s:Int),p.args[i]?=some a->(bO (au fs) (k:Int))[i]?=some s->dw D pa va (bQ fs) a s (E s)
 insts:∀(j:Nat) (p:aQ),x.insts[j]?=some p->∀(i:Nat) (a:Int),p.args[i]?=some a->dw D pa va (bQ fs) a (k:Int) (j:Int)
 fin:R x->dw D pa va (bQ fs) x.v (k:Int) (E (k:Int))
def iC(D:Int->Int->Prop)(E:Int->Int)(R:aG->Prop)(pa va:Int)(fs:List aG)(k:Nat):Prop:=∃x,fs[k]?=some x/\zp D E R pa va fs k x
noncomputable instance (D : Int -> Int -> Prop) (E : Int -> Int) (R : aG -> Prop) (pa va : Int) (fs : List aG) (k : Nat) : Decidable (iC D E R pa va fs k) := Classical.propDecidable _
def BC(fs:List aG)(b:Int):Int:=match fs[b.toNat]? with
 |some x=>(ae x.insts:Int)
 |none=>0
theorem Cy{fs:List aG}{k:Nat}{x:aG}(h:fs[k]?=some x):BC fs (k:Int)=(ae x.insts:Int):=by simp[BC,h]
def Fs(x:aG):Prop:=x.e=1\/(x.e=2/\0<=x.v)
def tP(x:aG):Prop:=x.e=1\/(x.e=2/\x.v≠-1)
section
variable{D:Int -> Int -> Prop}{E:Int -> Int}{R:aG -> Prop}{pa va:Int}{fs:List aG}{k:Nat}{x:aG}
def Au(D:Int->Int->Prop)(E:Int->Int)(pa va:Int)(fs:List aG)(k:Nat)(x:aG)(j:Nat):Prop:=∀(j':Nat) (p:cV),j'<j->x.ak[j']?=some p->ae p.args=ae (bO (au fs) (k:Int))/\∀(i:Nat) (a s:Int),p.args[i]?=some a->(bO (au fs) (k:Int))[i]?=some s->dw D pa va (bQ fs) a s (E s)
def Gv(D:Int->Int->Prop)(E:Int->Int)(pa va:Int)(fs:List aG)(k:Nat)(p:cV)(i:Nat):Prop:=∀(i':Nat) (a s:Int),i'<i->p.args[i']?=some a->(bO (au fs) (k:Int))[i']?=some s->dw D pa va (bQ fs) a s (E s)
def Ay(D:Int->Int->Prop)(pa va:Int)(fs:List aG)(k:Nat)(x:aG)(j:Nat):Prop:=∀(j':Nat) (p:aQ),j'<j->x.insts[j']?=some p->∀(i:Nat) (a:Int),p.args[i]?=some a->dw D pa va (bQ fs) a (k:Int) (j':Int)
def S1(D:Int->Int->Prop)(pa va:Int)(fs:List aG)(k j:Nat)(p:aQ)(i:Nat):Prop:=∀(i':Nat) (a:Int),i'<i->p.args[i']?=some a->dw D pa va (bQ fs) a (k:Int) (j:Int)
theorem qR{P:Nat->Prop}{n:Nat}(h:∀i,i<n->P i)(hn:P n):∀i,i<n+1->P i:=λi hi=>by
 by_cases e:i=n
 ·subst e;exact hn
 ·exact h i oM
theorem Au.next{j:Nat}{p:cV}(h:Au D E pa va fs k x j)(hp:x.ak[j]?=some p)(hl:ae p.args=ae (bO (au fs) (k:Int)))(ha:Gv D E pa va fs k p (ae p.args)):Au D E pa va fs k x (j+1):=by
 intro j' p' hj Qk;by_cases e:j'=j
 ·subst e;rw[hp]at Qk;injection Qk with Qk;subst Qk;exact⟨hl,λi a s hi=>ha i a s (aW.1 hi).1 hi⟩
 ·exact h j' p' oM Qk
theorem Gv.next{i:Nat}{p:cV}{a s:Int}(h:Gv D E pa va fs k p i)(hi:p.args[i]?=some a)(hs:(bO (au fs) (k:Int))[i]?=some s)(ht:dw D pa va (bQ fs) a s (E s)):Gv D E pa va fs k p (i+1):=by
 intro i' a' s' ir h1 h2;by_cases e:i'=i
 ·subst e;rw[hi]at h1;rw[hs]at h2;injection h1 with h1;injection h2 with h2;subst h1;subst h2;exact ht
 ·exact h i' a' s' oM h1 h2
theorem Ay.next{j:Nat}{p:aQ}(h:Ay D pa va fs k x j)(hp:x.insts[j]?=some p)(ha:S1 D pa va fs k j p (ae p.args)):Ay D pa va fs k x (j+1):=by
 intro j' p' hj Qk;by_cases e:j'=j
 ·subst e;rw[hp]at Qk;injection Qk with Qk;subst Qk;exact λi a hi=>ha i a (aW.1 hi).1 hi
 ·exact h j' p' oM Qk
theorem S1.next{j i:Nat}{p:aQ}{a:Int}(h:S1 D pa va fs k j p i)(hi:p.args[i]?=some a)(ht:dw D pa va (bQ fs) a (k:Int) (j:Int)):S1 D pa va fs k j p (i+1):=by
 intro i' a' ir h1;by_cases e:i'=i
 ·subst e;rw[hi]at h1;injection h1 with h1;subst h1;exact ht
 ·exact h i' a' oM h1
theorem uS(hx:fs[k]?=some x)(h1:Au D E pa va fs k x (ae x.ak))(h2:Ay D pa va fs k x (ae x.insts))(h3:R x->dw D pa va (bQ fs) x.v (k:Int) (E (k:Int))):iC D E R pa va fs k:=⟨x,hx,λj p hp=>h1 j p (aW.1 hp).1 hp,λj p hp=>h2 j p (aW.1 hp).1 hp,h3⟩
theorem rm(hx:fs[k]?=some x)(h:iC D E R pa va fs k):zp D E R pa va fs k x:=by
 obtain⟨y,hy,h⟩:=h;rw[hx]at hy;injection hy with hy;subst hy;exact h
theorem Gx(hx:fs[k]?=some x){j:Nat}{p:cV}(hp:x.ak[j]?=some p)(hl:¬ae p.args=ae (bO (au fs) (k:Int))):¬iC D E R pa va fs k:=λh=>hl ((rm hx h).ak j p hp).1
theorem Gy(hx:fs[k]?=some x){j i:Nat}{p:cV}{a s:Int}(hp:x.ak[j]?=some p)(hi:p.args[i]?=some a)(hs:(bO (au fs) (k:Int))[i]?=some s)(ht:¬dw D pa va (bQ fs) a s (E s)):¬iC D E R pa va fs k:=λh=>ht (((rm hx h).ak j p hp).2 i a s hi hs)
theorem KV(hx:fs[k]?=some x){j i:Nat}{p:aQ}{a:Int}(hp:x.insts[j]?=some p)(hi:p.args[i]?=some a)(ht:¬dw D pa va (bQ fs) a (k:Int) (j:Int)):¬iC D E R pa va fs k:=λh=>ht ((rm hx h).insts j p hp i a hi)
end
end Go.Mor
namespace Go.Mor
open List
open List renaming length -> ae
open Go.RowKit
structure eU(nm:bo)(pa va:Int)(fs:List aG):Prop where
 name:bX nm
 par:0<=pa/\pa<=16/\pa<=va
 pos:0<ae fs
 ak:∀x,fs[0]?=some x->ae x.ak=0
 src:ae (bO (au fs) 0)=0
 all:ae (aR (au fs))=ae fs
 ends:∀x,x∈fs->jm (ae fs:Int) x
 bN:VQ pa va fs
 reads:∀k,k<ae fs->iC (Dm (tg (au fs))) (λ_=>20000) tP pa va fs k
noncomputable instance (nm : ByteArray) (pa va : Int) (fs : List aG) : Decidable (eU nm pa va fs) := Classical.propDecidable _
noncomputable def cS(nm:bo)(pa va:Int)(fs:List aG):Int:=if(de fs:Int)>20000\/va>20000 then 12 else if eU nm pa va fs then 0 else 4
section
variable{nm:ByteArray}{pa va:Int}{fs:List aG}
theorem KW(h:(de fs:Int)>20000\/va>20000):(12:Int)=cS nm pa va fs:=by rw[cS,ax h]
theorem iU(h:¬((de fs:Int)>20000\/va>20000))(hg:¬eU nm pa va fs):(4:Int)=cS nm pa va fs:=by rw[cS,ao h,ao hg]
theorem Cz(h:¬((de fs:Int)>20000\/va>20000))(hg:eU nm pa va fs):(0:Int)=cS nm pa va fs:=by rw[cS,ao h,ax hg]
end
section
variable{bs:List SB}
theorem nY:ae (aR bs)=ae bs↔∀i:Nat,i<ae bs->jv bs (-1) (i:Int)=true:=by
 rw[<-Qb0];unfold QgM;have h:=length_filter_eq_length_iff (p:=λi:Nat=>jv bs (-1) (i:Int)) (l:=List.range (ae bs));rw[qj]at h;rw[h];simp only[dp]
theorem zq(hl:ae (aR bs)=ae bs){b:Int}(h0:0<=b)(h1:b<(ae bs:Int)):0<=ll bs b:=by
 have hp:0<ae bs:=oM;have:=nY.1 hl b.toNat oM;rw[jM h0]at this;exact((ln hp).reach _).2 (kU.1 this)
theorem W6{up:Int->Int}{n:Nat}{f g:Int->Int}(h0:0<ae bs)(hl:ae (aR bs)=ae bs)(hf:Iy bs up)(hn:FIN (gY bs up) n f g){a b:Int}(ha:0<=a/\a<(ae bs:Int))(hb:0<=b/\b<(ae bs:Int)):fS f g a b↔Dm (tg bs) a b:=by
 have pa:=zq hl ha.1 ha.2;have pb:=zq hl hb.1 hb.2;have h00:0<=ll bs 0:=by rw[(ln h0).zero];omega
 rw[fS,FIN.QgN (hf.tree h0) h00 (hf.cY h0) hn pa pb];exact⟨hf.dm b a,hf.ok.N6 (hf.N5 b pb)⟩
theorem Qb5(h0:0<ae bs)(hl:ae (aR bs)=ae bs){a b:Int}(ha:0<=a/\a<(ae bs:Int))(hb:0<=b/\b<(ae bs:Int)):kt bs a b↔Dm (tg bs) a b:=by
 have pb:=((ln h0).reach _).1 (zq hl hb.1 hb.2);unfold kt;rw[xT oM oM,jM ha.1,jM hb.1];exact⟨λh=>h.2,λh=>⟨pb,h⟩⟩
end
theorem wx{fs:List aG}{d:Int×Int×Int}(h:d∈bQ fs):∃x,fs[d.2.1.toNat]?=some x/\d.2.2<(ae x.insts:Int):=by
 unfold bQ ff at h;rw[fG]at h;obtain⟨x,hx,hd⟩:=h;rw[gC]at hx;have hx1:fs[x.2]?=some x.1:=nP.1 hx;unfold gO at hd;rcases bV.1 hd with hd|hd
 ·unfold dJ at hd;obtain⟨p,_,rfl⟩:=aO.1 hd;refine⟨x.1,by simpa using hx1,?_⟩;show(-1:Int)<_;omega
 ·unfold eh at hd;obtain⟨p,hp,rfl⟩:=aO.1 hd;have hp1:x.1.insts[p.2]?=some p.1:=nP.1 (dY.1 hp).1;have:=(aW.1 hp1).1;refine⟨x.1,by simpa using hx1,?_⟩;show(p.2:Int)<_;omega
theorem DF{fs:List aG}{k:Nat}{x:aG}(h:fs[k]?=some x):ae x.insts<=de fs:=by
 have hk:=(aW.1 h).1;have key:∀n,k<n->n<=ae fs->ae x.insts<=ma fs n:=by
  intro n;induction n with
  |zero=>intro h1;omega
  |succ n ih=>
   intro h1 h2;obtain⟨y,hy⟩:=aP (l:=fs) (i:=n) oM;rw[nS hy];by_cases e:k=n
   ·subst e;rw[h]at hy;injection hy with hy;subst hy;omega
   ·have:=ih oM oM;omega
 have:=key (ae fs) hk (cH _);unfold de;omega
section
variable{D D':Int -> Int -> Prop}{E E':Int -> Int}{R R':aG -> Prop}{pa va:Int}{fs:List aG}
structure tQ(D D':Int->Int->Prop)(E E':Int->Int)(fs:List aG):Prop where
 WQ:∀a b:Int,0<=a/\a<(ae fs:Int)->0<=b/\b<(ae fs:Int)->(D a b↔D' a b)
 fin:∀d,d∈bQ fs->(d.2.2<E d.2.1↔d.2.2<E' d.2.1)
theorem tQ.symm(h:tQ D D' E E' fs):tQ D' D E' E fs:=⟨λa b ha hb=>(h.WQ a b ha hb).symm,λd hd=>(h.fin d hd).symm⟩
theorem tQ.there(h:tQ D D' E E' fs){v b q q':Int}(hb:0<=b/\b<(ae fs:Int))(hq:(q=E b/\q'=E' b)\/q=q')(ht:dw D pa va (bQ fs) v b q):dw D' pa va (bQ fs) v b q':=by
 obtain⟨h1,h2,h3|⟨p,hp,h3⟩⟩:=ht
 ·exact⟨h1,h2,.inl h3⟩
 ·refine⟨h1,h2,.inr ⟨p,hp,?_⟩⟩;have hm:(v,p)∈bQ fs:=by
   by_cases hm:v∈(bQ fs).map (·.1)
   ·obtain⟨p',h4,h5⟩:=kS hm;rw[hp]at h4;injection h4 with h4;subst h4;exact h5
   ·rw[kf hm]at hp;cases hp
  have hr:=rf hm;rcases h3 with⟨h3,h4⟩|⟨h3,h4⟩
  ·refine .inl ⟨h3,?_⟩;rcases hq with⟨rfl,rfl⟩|rfl
   ·have:=h.fin _ hm;simp only[h3]at this;exact this.1 h4
   ·exact h4
  ·exact .inr ⟨h3,(h.WQ _ _ ⟨hr.1,hr.2.1⟩ hb).1 h4⟩
theorem tQ.reads(h:tQ D D' E E' fs){k:Nat}{x:aG}(hk:k<ae fs)(hR:R' x->R x)(hr:zp D E R pa va fs k x):zp D' E' R' pa va fs k x where
 ak j p hp:=by obtain⟨h1,h2⟩:=hr.ak j p hp;refine⟨h1,λi a s ha hs=>h.there ?_ (.inl ⟨rfl,rfl⟩) (h2 i a s ha hs)⟩;have hi:=(aW.1 hs).1;obtain⟨si,h3,h4⟩:=Cx hi;rw[hs]at h3;injection h3 with h3;subst h3;rw[bM]at h4;omega
 insts j p hp i a ha:=h.there oM (.inr rfl) (hr.insts j p hp i a ha);fin hx:=h.there oM (.inl ⟨rfl,rfl⟩) (hr.fin (hR hx))
theorem tQ.iC(h:tQ D D' E E' fs){k:Nat}(hR:∀x,fs[k]?=some x->R' x->R x)(hr:iC D E R pa va fs k):iC D' E' R' pa va fs k:=by
 obtain⟨x,hx,hr⟩:=hr;exact⟨x,hx,h.reads (aW.1 hx).1 (hR x hx) hr⟩
end
section
variable{pa va:Int}{fs:List aG}
theorem S3{up:Int->Int}{n:Nat}{f g:Int->Int}(h0:0<ae fs)(hl:ae (aR (au fs))=ae fs)(hf:Iy (au fs) up)(hn:FIN (gY (au fs) up) n f g)(hs:(de fs:Int)<=20000):tQ (fS f g) (Dm (tg (au fs))) (BC fs) (λ_=>20000) fs where
 WQ a b ha hb:=W6 (by rw[bM];exact h0) (by rw[bM];exact hl) hf hn (by rw[bM];exact ha) (by rw[bM];exact hb);fin d hd:=by
  obtain⟨x,hx,h1⟩:=wx hd;have:=DF hx;have h2:BC fs d.2.1=(ae x.insts:Int):=by simp[BC,hx]
  rw[h2];constructor<;>intro<;>omega
theorem Gz(h0:0<ae fs)(hl:ae (aR (au fs))=ae fs):tQ (kt (au fs)) (Dm (tg (au fs))) (λ_=>20000) (λ_=>20000) fs where
 WQ a b ha hb:=Qb5 (by rw[bM];exact h0) (by rw[bM];exact hl) (by rw[bM];exact ha) (by rw[bM];exact hb);fin d hd:=ju
theorem W7{N:Int}{x:aG}(h:q9 N x):tP x↔Fs x:=by
 unfold tP Fs;have:=h.2;omega
theorem QF{nm:bo}(h:eU nm pa va fs):∀x,x∈fs->q9 (ae fs:Int) x:=by
 intro x hx;refine⟨h.ends x hx,λhe=> ?_⟩;obtain⟨k,hk⟩:=bq.1 hx;obtain⟨y,hy,hr⟩:=h.reads k (aW.1 hk).1;rw[hk]at hy;injection hy with hy;subst hy;by_cases hv:x.v= -1
 ·omega
 ·have:=(hr.fin (.inr ⟨he,hv⟩)).1;omega
end
end Go.Mor
namespace Go.Mor
open List
open List renaming length -> ae
theorem GA{fs:List aG}{Q:aG->Prop}{m:Nat}{x:aG}(h:∀(i:Nat) (x:aG),i<m->fs[i]?=some x->Q x)(hx:fs[m]?=some x)(hq:Q x):∀(i:Nat) (x:aG),i<m+1->fs[i]?=some x->Q x:=by
 intro i y hi hy;by_cases e:i=m
 ·subst e;rw[hx]at hy;injection hy with hy;exact hy▸hq
 ·exact h i y oM hy
end Go.Mor
namespace Go.Mor
open List
open List renaming length -> ae
theorem S4{Bk Bv B:Bool}{Wk:Nat->Bool}{k:Nat}(h:Bk=true↔Bv=true/\∀i:Nat,i<k->Wk i=true)(hB:B=true↔Bk=true):(B&&Wk k)=true↔Bv=true/\∀i:Nat,i<k+1->Wk i=true:=by
 rw[bu,hB,h];constructor
 ·rintro⟨⟨h1,h2⟩,h3⟩;exact⟨h1,qR h2 h3⟩
 ·rintro⟨h1,h2⟩;exact⟨⟨h1,λi hi=>h2 i oM⟩,h2 k oM⟩
end Go.Mor
namespace Go.Mor
def cV.e0(p:cV):cV:=⟨p.dst,none,0,p.args⟩
def aQ.e0(p:aQ):aQ:=⟨p.op,p.dst,p.n,p.name,none,0,p.args⟩
def aG.e0(x:aG):aG:=⟨none,0,x.ak.map cV.e0,none,0,x.insts.map aQ.e0,x.e,x.v,x.a,x.b⟩
def fY(fs gs:List aG):Prop:=fs.map aG.e0=gs.map aG.e0
def vz(x:aG):Int×Int×Int:=(x.e,x.a,x.b)
theorem xY{fs gs:List aG}(h:fs.map vz=gs.map vz):tg (au fs)=tg (au gs):=by
 have hl:ae fs=ae gs:=by simpa using aK List.length h
 funext b;unfold tg;split
 ·have hk:((au fs)[b.toNat]?).map (λx:SB=>(x.e,x.a,x.b))=((au gs)[b.toNat]?).map (λx:SB=>(x.e,x.a,x.b)):=by have h1:=aK (λl:List (Int×Int×Int)=>l[b.toNat]?) h;simp only[aL]at h1;unfold au;simp only[aL,Option.map_map];exact h1
  revert hk;cases h1:(au fs)[b.toNat]?<;>cases h2:(au gs)[b.toNat]?<;>simp;rename_i x y;intro e1 e2 e3;unfold Ch;rw[e1,e2,e3,bM,bM,hl]
 ·rfl
theorem zr{fs gs:List aG}(h:fs.map vz=gs.map vz):bO (au fs)=bO (au gs):=by
 have hl:ae fs=ae gs:=by simpa using aK List.length h
 funext b;unfold bO gR;rw[xY h,bM,bM,hl]
theorem Oe{fs gs:List aG}(h:fs.map vz=gs.map vz):ae (aR (au fs))=ae fs↔ae (aR (au gs))=ae gs:=by
 have hl:ae fs=ae gs:=by simpa using aK List.length h
 have h1:=nY (bs:=au fs);have h2:=nY (bs:=au gs);rw[bM]at h1 h2;rw[h1,h2,hl];unfold jv;rw[xY h,bM,bM,hl]
theorem QG{fs gs:List aG}(h:fY fs gs):fs.map vz=gs.map vz:=by
 have:vz=vz∘aG.e0:=rfl;rw[this,<-dz,<-dz,h]
theorem tR{fs gs:List aG}(h:fY fs gs){k:Nat}{x:aG}(hx:fs[k]?=some x):∃y,gs[k]?=some y/\x.e0=y.e0:=by
 have h1:=aK (λl:List aG=>l[k]?) h;simp only[aL,hx,ft]at h1;cases hy:gs[k]? with
 |none=>rw[hy]at h1;simp at h1
 |some y=>rw[hy]at h1;simp at h1;exact⟨y,rfl,h1⟩
theorem fY.symm{fs gs:List aG}(h:fY fs gs):fY gs fs:=Eq.symm h
theorem fY.len{fs gs:List aG}(h:fY fs gs):ae fs=ae gs:=by simpa using aK List.length h
section
variable{x y:aG}
theorem W8(h:x.e0=y.e0):x.e=y.e:=show x.e0.e=y.e0.e by rw[h]
theorem W9(h:x.e0=y.e0):x.v=y.v:=show x.e0.v=y.e0.v by rw[h]
theorem QgP(h:x.e0=y.e0):x.a=y.a:=show x.e0.a=y.e0.a by rw[h]
theorem QgQ(h:x.e0=y.e0):x.b=y.b:=show x.e0.b=y.e0.b by rw[h]
theorem uT(h:x.e0=y.e0):x.ak.map cV.e0=y.ak.map cV.e0:=show x.e0.ak=y.e0.ak by rw[h]
theorem tS(h:x.e0=y.e0):x.insts.map aQ.e0=y.insts.map aQ.e0:=show x.e0.insts=y.e0.insts by rw[h]
theorem Og(h:x.e0=y.e0){j:Nat}{p:cV}(hp:x.ak[j]?=some p):∃q,y.ak[j]?=some q/\p.dst=q.dst/\p.args=q.args:=by
 have h1:=aK (λl:List cV=>l[j]?) (uT h);simp only[aL,hp,ft]at h1;cases hy:y.ak[j]? with
 |none=>rw[hy]at h1;simp at h1
 |some q=>rw[hy]at h1;simp[cV.e0]at h1;exact⟨q,rfl,h1⟩
theorem IC(h:x.e0=y.e0){j:Nat}{p:aQ}(hp:x.insts[j]?=some p):∃q,y.insts[j]?=some q/\p.op=q.op/\p.dst=q.dst/\p.n=q.n/\p.name=q.name/\p.args=q.args:=by
 have h1:=aK (λl:List aQ=>l[j]?) (tS h);simp only[aL,hp,ft]at h1;cases hy:y.insts[j]? with
 |none=>rw[hy]at h1;simp at h1
 |some q=>rw[hy]at h1;simp[aQ.e0]at h1;exact⟨q,rfl,h1⟩
theorem Oh(b:Int)(x:aG):gO b x.e0=gO b x:=by
 unfold gO dJ eh;simp[aG.e0,cV.e0,aQ.e0,zipIdx_map,uU,Function.comp_def];rfl
theorem KX(fs:List aG):bQ (fs.map aG.e0)=bQ fs:=by
 unfold bQ ff;rw[bl,cL sI,cL sI];simp[zipIdx_map,CA,Oh]
end
theorem S5{p q:aQ}(h1:p.op=q.op)(h2:p.dst=q.dst)(h3:p.n=q.n)(h4:p.name=q.name)(h5:ae p.args=ae q.args)(h:cA p):cA q:=by
 unfold cA at h⊢;rw[<-h1,<-h2,<-h3,<-h4,<-h5];exact h
theorem xZ(fs:List aG):de (fs.map aG.e0)=de fs:=by
 unfold de ma;rw[bl,cL sI,cL sI];simp[aG.e0,Function.comp_def]
theorem se{nm:bo}{pa va:Int}{fs gs:List aG}(h:fY fs gs)(hg:eU nm pa va fs):eU nm pa va gs:=by
 have he:=QG h;have hd:bQ fs=bQ gs:=by rw[<-KX fs,<-KX gs,h]
 have hl:=h.len;refine⟨hg.name,hg.par,by have:=hg.pos;omega,λx hx=> ?_,?_,(Oe he).1 hg.all,λx hx=> ?_,⟨λx hx p hp=> ?_,hd▸hg.bN.2⟩,λk hk=> ?_⟩
 ·obtain⟨y,hy,e⟩:=tR h.symm hx;have h1:=aK List.length (uT e);simp at h1;rw[h1];exact hg.ak y hy
 ·rw[<-zr he];exact hg.src
 ·obtain⟨k,hk⟩:=bq.1 hx;obtain⟨y,hy,e⟩:=tR h.symm hk;have h1:=hg.ends y (aI hy);unfold jm at h1⊢;have e1:x.e=y.e:=W8 e;have e2:x.v=y.v:=W9 e;have e3:x.a=y.a:=QgP e;have e4:x.b=y.b:=QgQ e;rw[e1,e2,e3,e4,<-hl];exact h1
 ·obtain⟨k,hk⟩:=bq.1 hx;obtain⟨y,hy,e⟩:=tR h.symm hk;obtain⟨j,hj⟩:=bq.1 hp;obtain⟨q,hq,e1,e2,e3,e4,e5⟩:=IC e hj;exact S5 e1.symm e2.symm e3.symm e4.symm (by rw[e5]) (hg.bN.1 y (aI hy) q (aI hq))
 ·obtain⟨x,hx,hr⟩:=hg.reads k oM;obtain⟨y,hy,e⟩:=tR h hx;have ee:x.e=y.e:=W8 e;have ev:x.v=y.v:=W9 e;refine⟨y,hy,⟨λj p hp=> ?_,λj p hp i a ha=> ?_,λhR=> ?_⟩⟩
  ·obtain⟨q,hq,e1,e2⟩:=Og e.symm hp;have:=hr.ak j q hq;rw[<-zr he,<-xY he,<-hd,e2];exact this
  ·obtain⟨q,hq,e1,e2,e3,e4,e5⟩:=IC e.symm hp;rw[e5]at ha;have:=hr.insts j q hq i a ha;rw[<-xY he,<-hd];exact this
  ·rw[<-xY he,<-hd,<-ev];refine hr.fin ?_;unfold tP at hR⊢;rw[ee,ev];exact hR
theorem KY{nm:bo}{pa va:Int}{fs gs:List aG}(h:fY fs gs):cS nm pa va fs=cS nm pa va gs:=by
 unfold cS;have hs:de fs=de gs:=by rw[<-xZ fs,<-xZ gs,h]
 rw[hs];have:eU nm pa va fs↔eU nm pa va gs:=⟨se h,se h.symm⟩;simp only[this]
theorem mem_zipIdx{α:Type}{l:List α}{x:α}{i:Nat}:(x,i)∈l.zipIdx↔l[i]?=some x:=by
 rw[nP]
def nZ(x:aG):ah:=x.ak.map (λp=>p.dst)++(x.insts.filter (λi=>decide (aJ i.op))).map (λi=>i.dst)
theorem KZ(b:Int)(x:aG):(gO b x).map (·.1)=nZ x:=by
 unfold gO dJ eh nZ;have h:∀(l:List aQ) (n:Nat),((l.zipIdx n).filter (λx=>decide (aJ x.1.op))).map (λx=>x.1.dst)=(l.filter (λi=>decide (aJ i.op))).map (λi=>i.dst):=by
  intro l;induction l with
  |nil=>intro n;rfl
  |cons a l ih=>
   intro n;rw[zipIdx_cons,gN,gN];by_cases hm:aJ a.op<;>simp[hm,ih (n+1)]
 have:=h x.insts 0;simp only[bZ,dz];congr 1
theorem uV(fs:List aG):(bQ fs).map (·.1)=fs.flatMap nZ:=by
 unfold bQ ff;rw[cL (cH _),map_flatMap];have h:∀(l:List aG) (n:Nat),(l.zipIdx n).flatMap (λx=>(gO (x.2:Int) x.1).map (·.1))=l.flatMap nZ:=by
  intro l;induction l with
  |nil=>intro n;rfl
  |cons a l ih=>intro n;rw[zipIdx_cons,iE,iE,ih (n+1),KZ]
 exact h fs 0
theorem fL{fs:List aG}{v b q:Int}:(v,b,q)∈bQ fs↔∃(k:Nat) (x:aG),fs[k]?=some x/\b=(k:Int)/\((q= -1/\∃p,p∈x.ak/\p.dst=v)\/∃(j:Nat) (i:aQ),x.insts[j]?=some i/\aJ i.op/\i.dst=v/\q=(j:Int)):=by
 unfold bQ ff;rw[cL (cH _),fG];constructor
 ·rintro⟨⟨x,k⟩,hx,hd⟩;have rR:=mem_zipIdx.1 hx;refine⟨k,x,rR,?_⟩;unfold gO dJ eh at hd;rcases bV.1 hd with hd|hd
  ·obtain⟨p,hp,he⟩:=aO.1 hd;simp at he;exact⟨he.2.1.symm,.inl ⟨he.2.2.symm,p,hp,he.1⟩⟩
  ·obtain⟨⟨i,j⟩,hp,he⟩:=aO.1 hd;obtain⟨h1,h2⟩:=dY.1 hp;simp at he h2;exact⟨he.2.1.symm,.inr ⟨j,i,mem_zipIdx.1 h1,h2,he.1,he.2.2.symm⟩⟩
 ·rintro⟨k,x,hx,rfl,h⟩;refine⟨(x,k),mem_zipIdx.2 hx,?_⟩;unfold gO dJ eh;rcases h with⟨rfl,p,hp,rfl⟩|⟨j,i,hi,hm,rfl,rfl⟩
  ·exact ej _ (aO.2 ⟨p,hp,rfl⟩)
  ·exact kF _ (aO.2 ⟨(i,j),dY.2 ⟨mem_zipIdx.2 hi,by simp[hm]⟩,rfl⟩)
theorem uW{ds:xn}(hn:(ds.map (·.1)).Nodup){v:Int}{p:Int×Int}:findD ds v=some p↔(v,p)∈ds:=by
 constructor
 ·intro h;by_cases hm:v∈ds.map (·.1)
  ·obtain⟨q,h1,h2⟩:=kS hm;rw[h1]at h;injection h with h;subst h;exact h2
  ·rw[kf hm]at h;cases h
 ·intro h;obtain⟨q,h1,h2⟩:=kS (aO.2 ⟨(v,p),h,rfl⟩);have:q=p:=by
   have hp:=uR.1 hn;rcases Classical.em (((v,q):Int×Int×Int)=(v,p))with e|e
   ·injection e
   ·exfalso;obtain⟨i,hi⟩:=bq.1 h;obtain⟨j,hj⟩:=bq.1 h2;exact qX (R:=λa b:Int×Int×Int=>a.1≠b.1) (λ_ _ h e=>h e.symm) hp hi hj (λe2=>e (by subst e2;rw[hi]at hj;injection hj with hj;exact hj.symm)) rfl
  rw[h1,this]
theorem pw{D:Int->Int->Prop}{pa va:Int}{ds:xn}(hn:(ds.map (·.1)).Nodup){v b q:Int}:dw D pa va ds v b q↔0<=v/\v<va/\(v<pa\/∃c k,(v,c,k)∈ds/\((c=b/\k<q)\/(c≠b/\D c b))):=by
 unfold dw;constructor
 ·rintro⟨h1,h2,h3|⟨p,hp,h3⟩⟩
  ·exact⟨h1,h2,.inl h3⟩
  ·exact⟨h1,h2,.inr ⟨p.1,p.2,(uW hn).1 hp,h3⟩⟩
 ·rintro⟨h1,h2,h3|⟨c,k,hp,h3⟩⟩
  ·exact⟨h1,h2,.inl h3⟩
  ·exact⟨h1,h2,.inr ⟨(c,k),(uW hn).2 hp,h3⟩⟩
def DG(op:Int):Prop:=op=1\/op=12\/op=6\/op=7\/(16<=op/\op≠20/\op≠21)
instance (op : Int) : Decidable (DG op) := by unfold DG; infer_instance
theorem Oi{op:Int}(h:DG op):aJ op:=by unfold DG at h;unfold aJ;omega
inductive Rd(fs:List aG):Int->Prop
 |inst {x:aG} {i:aQ} {v:Int}:x∈fs->i∈x.insts->¬DG i.op->v∈i.args->0<=v->Rd fs v
 |fin {x:aG}:x∈fs->(x.e=1\/x.e=2)->0<=x.v->Rd fs x.v
 |JZ {x:aG} {p:cV} {v:Int}:x∈fs->p∈x.ak->Rd fs p.dst->v∈p.args->0<=v->Rd fs v
 |pure {x:aG} {i:aQ} {v:Int}:x∈fs->i∈x.insts->DG i.op->Rd fs i.dst->v∈i.args->0<=v->Rd fs v
noncomputable instance (fs : List aG) (v : Int) : Decidable (Rd fs v) := Classical.propDecidable _
def DQ(bs:List SB)(pa va:Int)(ds:xn)(v b q:Int):Bool:=decide (0<=v)&&decide (v<va)&&(decide (v<pa)||match findD ds v with
 |some p=>if p.1=b then decide (p.2<q)else Nc (jY bs) p.1.toNat b.toNat
 |none=>false)
theorem DR{bs:List SB}{pa va:Int}{ds:xn}{v b q:Int}(h:DQ bs pa va ds v b q=true):dw (kt bs) pa va ds v b q:=by
 unfold DQ at h;simp only[bu,dt,aU]at h;obtain⟨⟨h1,h2⟩,h3⟩:=h;refine⟨h1,h2,h3.imp id λh3=> ?_⟩;split at h3
 ·rename_i p hp;refine⟨p,hp,?_⟩;split at h3
  ·rename_i e;exact .inl ⟨e,by simpa using h3⟩
  ·rename_i e;exact .inr ⟨e,h3⟩
 ·cases h3
def OA(pa va:Int)(fs:List aG)(k:Nat)(x:aG):Bool:=(x.ak.all λp=>ae p.args==ae (bO (au fs) (k:Int))&&(p.args.zip (bO (au fs) (k:Int))).all λu=>DQ (au fs) pa va (bQ fs) u.1 u.2 20000)&&(x.insts.zipIdx.all λp=>p.1.args.all λa=>DQ (au fs) pa va (bQ fs) a (k:Int) (p.2:Int))&&((!decide (x.e=1\/(x.e=2/\x.v≠-1)))||DQ (au fs) pa va (bQ fs) x.v (k:Int) 20000)
theorem Tf{pa va:Int}{fs:List aG}{k:Nat}{x:aG}(hx:fs[k]?=some x)(h:OA pa va fs k x=true):iC (kt (au fs)) (λ_=>20000) tP pa va fs k:=by
 unfold OA at h;simp only[bu]at h;obtain⟨⟨h1,h2⟩,h3⟩:=h;refine⟨x,hx,λj p hp=> ?_,λj p hp i a ha=> ?_,λhf=> ?_⟩
 ·have:=gQ.1 h1 p (aI hp);simp only[bu,az]at this;refine⟨this.1,λi a s ha hs=> ?_⟩;have hz:(a,s)∈p.args.zip (bO (au fs) (k:Int)):=by refine aI (i:=i) ?_;rw[IU];exact⟨ha,hs⟩
  exact DR (gQ.1 this.2 _ hz)
 ·have:=gQ.1 h2 (p,j) (nP.2 hp);exact DR (gQ.1 this a (aI ha))
 ·rw[dt]at h3;rcases h3 with h3|h3
  ·simp only[oi,Dq]at h3;exact absurd hf h3
  ·exact DR h3
def Xp(nm:bo)(pa va:Int)(fs:List aG):Bool:=decide (bX nm)&&decide (0<=pa/\pa<=16/\pa<=va)&&decide (0<ae fs)&&(match fs[0]? with|some x=>decide (ae x.ak=0)|none=>true)&&decide (ae (bO (au fs) 0)=0)&&decide (ae (aR (au fs))=ae fs)&&(fs.all λx=>decide (jm (ae fs:Int) x))&&(fs.all λx=>x.insts.all λp=>decide (cA p))&&((bQ fs).all λd=>decide (pa<=d.1)&&decide (d.1<va))&&decide (((bQ fs).map (·.1)).Nodup)&&(fs.zipIdx.all λx=>OA pa va fs x.2 x.1)
theorem Qcq{nm:bo}{pa va:Int}{fs:List aG}(h:Xp nm pa va fs=true):eU nm pa va fs:=by
 unfold Xp at h;simp only[bu,aU,gQ]at h;obtain⟨⟨⟨⟨⟨⟨⟨⟨⟨⟨h1,h2⟩,h3⟩,h4⟩,h5⟩,h6⟩,h7⟩,h8⟩,h9⟩,Cp⟩,Nb⟩:=h;refine⟨h1,h2,h3,λx hx=> ?_,h5,h6,h7,⟨h8,h9,Cp⟩,λk hk=> ?_⟩
 ·rw[hx]at h4;simpa using h4
 ·obtain⟨x,hx⟩:=aP hk;exact(Gz h3 h6).iC (λ_ _ h=>h) (Tf hx (Nb (x,k) (nP.2 hx)))
theorem Xq{nm:bo}{pa va:Int}{fs:List aG}(h:(decide ((de fs:Int)>20000\/va>20000)=false)/\Xp nm pa va fs=true):cS nm pa va fs=0:=(Cz (by simpa using h.1) (Qcq h.2)).symm
end Go.Mor
