/-
  Texts of the proof, part 12.
-/
import Derived.Test.YtejbeeaomokjpaaGreatZo11
import Derived.Laws.BytesArg
set_option maxRecDepth 10000
open List Go.RowKit
open List renaming length -> ae
namespace Go.Mor
theorem P4{P:Program}{w:World}{A:ar}{n c:Nat}{l:ah}{src dst e:TypeId}(hn:ae l=n)(h:(bD.rd A (l.map (Value.int .u8))).holds w)(hs:P.underlying src=some (.slice e))(he:P.underlying e=some (.int .u8))(hd:P.underlying dst=some .string):(convert src dst (vS A n c)).run P w= .ok (vT (strOfNums l)) w:=by
 subst hn;rw[run_convert_bytes_string w src dst e A (ae l) c hs he hd];cases A with
 |none=>
  have:l=[]:=by
   cases l with
   |nil=>rfl
   |cons x r=>
    obtain⟨a,ha,_⟩:=h 0 (.int .u8 x) rfl;cases ha
  subst this;simp[Conv.bytesToString,strOfNums];rfl
 |some a=>
  have hl:(loadCells a (ae l)).run P w= .ok (l.map (Value.int .u8)).toArray w:=by
   have:=HO (P:=P) w a (l.map (Value.int .u8)) (λj v hj=>by obtain⟨a',pS,hc⟩:=h j v hj;injection pS with pS;rw[pS];exact hc)
   simpa using this
  rw[run_bytesToString w a (ae l) c l hl,foldl_push_bytes];simp[strOfNums,ByteArray.empty,ByteArray.emptyWithCapacity];rfl
def csE(P:Program)(c:Code)(N:FN)(env:Env)(k:Nat):Option (Option Nat×ar×Nat×Nat):=match aB c k with
 |some (d,.convert t t' x,_,g)=>match bU c g env,jW d N,ev env x,P.underlying t,P.underlying t' with
  |some true,true,some (.slice A n cap),some (.slice e),some .string=>match P.underlying e with
   |some (.int .u8)=>some (d,A,n,cap)
   |_=>none
  |_,_,_,_,_=>none
 |_=>none
theorem Qet{P:Program}{c:Code}{N:FN}{env:Env}{k:Nat}{d:Option Nat}{A:ar}{n cap:Nat}(h:csE P c N env k=some (d,A,n,cap)):∃t t' x ty g e,aB c k=some (d,.convert t t' x,ty,g)/\bU c g env=some true/\jW d N=true/\ev env x=some (vS A n cap)/\P.underlying t=some (.slice e)/\P.underlying e=some (.int .u8)/\P.underlying t'=some .string:=by
 unfold csE at h;split at h
 ·rename_i h0;split at h
  ·rename_i h1 h2 h3 h4 h5;split at h
   ·rename_i h6;simp only[eO,dg]at h;obtain⟨rfl,rfl,rfl,rfl⟩:=h;exact⟨_,_,_,_,_,_,h0,h1,h2,h3,h4,h6,h5⟩
   ·cases h
  ·cases h
 ·cases h
section
variable{P:Program}{c:Code}{K:Act -> World -> Prop}{Q:Exit -> Act -> World -> Prop}{w:World}{k:Nat}{N:FN}{env:Env}
theorem zcs(l:ah)(A:ar)(n cap:Nat)(hn:ae l=n)(hr:(bD.rd A (l.map (Value.int .u8))).holds w)(h:∀a,Fr a N (eJ env (bC c k) (vT (strOfNums l)))->bL P c K Q (k+1) a w)(hk:csE P c N env k=some (bC c k,A,n,cap):=by kernel_rfl):∀a,Fr a N env->bL P c K Q k a w:=λa hF=>by
 obtain⟨t,t',x,ty,g,e,h0,h1,h2,h3,h4,h5,h6⟩:=Qet hk;refine gq h0 hF h1 h2 rfl (λo ho=> ?_) (λa' _=>h a');unfold execOp;rw[ho];simp[hF.ev h3,gG,P4 hn hr h4 h5 h6,ig]
end
end Go.Mor
