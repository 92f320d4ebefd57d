/-
  Texts of the proof, part 10.
-/
import Derived.Test.YtjekgaabcigphaaGreatZc9
import Derived.Laws.IdiomCopy
import Derived.Laws.Cover3
import Derived.Laws.StructEq
import Derived.ChangeKeysEq
set_option maxRecDepth 10000
namespace Go.Mor
open Go.RowKit
end Go.Mor
namespace Go.Mor
open Go.RowKit
def s2aE(P:Program)(c:Code)(N:FN)(env:Env)(k:Nat):Option (Option Nat×Nat×Value):=match ay c k with
 |some (d,.sliceToArrayPointer t x,_,g)=>match bt c g env,gq d N,ev env x,P.underlying t with
  |some true,true,some v,some (.array m _)=>some (d,m,v)
  |_,_,_,_=>none
 |_=>none
def bnE(c:Code)(N:FN)(env:Env)(k:Nat):Option (Option Nat×BinOp×TypeId×Value×Value):=match ay c k with
 |some (d,.binOp op t x y _,_,g)=>match bt c g env,gq d N,ev env x,ev env y with
  |some true,true,some u,some v=>some (d,op,t,u,v)
  |_,_,_,_=>none
 |_=>none
end Go.Mor
namespace Go.Mor
open Go.RowKit
def boI(op:BinOp)(kd:IntKind)(a b:Int):Option Int:=match op with
 | .add=>some (kd.wrap (a+b))
 | .sub=>some (kd.wrap (a-b))
 | .mul=>some (kd.wrap (a*b))
 | .and=>some (kd.wrap ((BitVec.ofInt kd.bits a&&&BitVec.ofInt kd.bits b).toNat:Int))
 | .or=>some (kd.wrap ((BitVec.ofInt kd.bits a|||BitVec.ofInt kd.bits b).toNat:Int))
 | .xor=>some (kd.wrap ((BitVec.ofInt kd.bits a^^^BitVec.ofInt kd.bits b).toNat:Int))
 |_=>none
theorem K6{P:Program}{op:BinOp}{kd:IntKind}{a b z:Int}(h:boI op kd a b=some z)(t:TypeId)(w:World):(binOp op t (.int kd a) (.int kd b)).run P w= .ok (.int kd z) w:=by
 cases op<;>simp only[boI]at h<;>first
  |(cases h;done)
  |(injection h with h;subst h;simp[binOp,Op.intArith,Op.intBits])
def boP(op:BinOp)(kd:IntKind)(a b:Int):Option Int:=match op with
 | .quo=>some (kd.wrap (a.tdiv b))
 | .rem=>some (a.tmod b)
 |_=>none
theorem Wx{P:Program}{op:BinOp}{kd:IntKind}{a b z:Int}(h:boP op kd a b=some z)(hb:b≠0)(t:TypeId)(w:World):(binOp op t (.int kd a) (.int kd b)).run P w= .ok (.int kd z) w:=by
 cases op<;>simp only[boP]at h<;>first
  |(cases h;done)
  |(injection h with h;subst h;simp[binOp,Op.intDiv,hb])
def boS(op:BinOp)(kd:IntKind)(a b:Int):Option Int:=match op with
 | .shl=>some (kd.wrap (a*2^min b.toNat kd.bits))
 | .shr=>some (a.fdiv (2^min b.toNat kd.bits))
 |_=>none
theorem Wy{P:Program}{op:BinOp}{kd k2:IntKind}{a b z:Int}(h:boS op kd a b=some z)(hb:0≤b)(t:TypeId)(w:World):(binOp op t (.int kd a) (.int k2 b)).run P w= .ok (.int kd z) w:=by
 have hn:¬b<0:=oM;cases op<;>simp only[boS]at h<;>first
  |(cases h;done)
  |(injection h with h;subst h;simp[binOp,Op.shift,hn])
section
variable {P : Program} {c : Code} {K : Act → World → Prop} {Q : Exit → Act → World → Prop} {w w0 : World} {S : Nat → Prop} {L : List bx} {k : Nat} {N : FN} {env : Env}
theorem tZ{a:Act}{d:Option Nat}{op:BinOp}{t:TypeId}{kd k2:IntKind}{i j z:Int}(hF:Fr a N env)(hk:bnE c N env k=some (d,op,t,.int kd i,.int k2 j))(hr:(binOp op t (.int kd i) (.int k2 j)).run P w= .ok (.int kd z) w)(h:∀a',a'=a.put d (.int kd z)→Fr a' N (cO env d (.int kd z))→aV P c K Q (k+1) a' w):aV P c K Q k a w:=by
 unfold bnE at hk;split at hk
 ·rename_i g0;split at hk
  ·rename_i g1 g2 g3 g4;simp only[cP,cF]at hk;obtain⟨e1,e2,e3,e4,e5⟩:=hk;refine eD g0 hF g1 (by rw[e1]at g2;exact e1▸g2) rfl (fun o ho=> ?_) (by rw[e1];exact h);unfold execOp;rw[ho,e2,e3];have hq:∀x y,(eqGuard op t x y (.int kd i) (.int k2 j)).run P w= .ok () w:=by intro x y;simp only[eqGuard];split<;>simp
   simp only[hF.ev g3,hF.ev g4,e4,e5,cT,hq,hr,dz];rfl
  ·cases hk
 ·cases hk
def biE(f:BinOp→IntKind→Int→Int→Option Int)(c:Code)(N:FN)(env:Env)(k:Nat):Option (Option Nat×IntKind×IntKind×Int×Int):=match bnE c N env k with
 |some (d,op,_,.int kd i,.int k2 j)=>match f op kd i j with
  |some z=>some (d,kd,k2,j,z)
  |none=>none
 |_=>none
theorem yc{f:BinOp→IntKind→Int→Int→Option Int}{d:Option Nat}{kd k2:IntKind}{j z:Int}(h:biE f c N env k=some (d,kd,k2,j,z)):∃op t i,bnE c N env k=some (d,op,t,.int kd i,.int k2 j)∧f op kd i j=some z:=by
 unfold biE at h;split at h
 ·rename_i h0;split at h
  ·rename_i h1;simp only[cP,cF]at h;obtain⟨rfl,rfl,rfl,rfl,rfl⟩:=h;exact⟨_,_,_,h0,h1⟩
  ·cases h
 ·cases h
theorem HW(kd:IntKind)(z:Int)(j:Int)(h:∀a,Fr a N (cO env (aQ c k) (.int kd z))→aV P c K Q (k+1) a w)(hk:biE boI c N env k=some (aQ c k,kd,kd,j,z):=by kernel_rfl):∀a,Fr a N env→aV P c K Q k a w:=fun _ hF=>by
 obtain⟨op,t,i,h0,h1⟩:=yc hk;exact tZ hF h0 (K6 h1 t w) (fun a' _=>h a')
theorem zbd(kd:IntKind)(z:Int)(j:Int)(hj:j≠0)(h:∀a,Fr a N (cO env (aQ c k) (.int kd z))→aV P c K Q (k+1) a w)(hk:biE boP c N env k=some (aQ c k,kd,kd,j,z):=by kernel_rfl):∀a,Fr a N env→aV P c K Q k a w:=fun _ hF=>by
 obtain⟨op,t,i,h0,h1⟩:=yc hk;exact tZ hF h0 (Wx h1 hj t w) (fun a' _=>h a')
theorem zbs(kd k2:IntKind)(z:Int)(j:Int)(hj:0≤j)(h:∀a,Fr a N (cO env (aQ c k) (.int kd z))→aV P c K Q (k+1) a w)(hk:biE boS c N env k=some (aQ c k,kd,k2,j,z):=by kernel_rfl):∀a,Fr a N env→aV P c K Q k a w:=fun _ hF=>by
 obtain⟨op,t,i,h0,h1⟩:=yc hk;exact tZ hF h0 (Wy h1 hj t w) (fun a' _=>h a')
def unE(c:Code)(N:FN)(env:Env)(k:Nat):Option (Option Nat×UnOp×IntKind×Int):=match ay c k with
 |some (d,.unOp op _ x,_,g)=>match bt c g env,gq d N,ev env x with
  |some true,true,some (.int kd i)=>some (d,op,kd,i)
  |_,_,_=>none
 |_=>none
def unI(op:UnOp)(kd:IntKind)(a:Int):Option Int:=match op with
 | .neg=>some (kd.wrap (0-a))
 | .xor=>some (kd.wrap ((BitVec.ofInt kd.bits (if kd.signed then-1 else kd.max)^^^BitVec.ofInt kd.bits a).toNat:Int))
 |_=>none
theorem zui(op:UnOp)(i:Int)(kd:IntKind)(z:Int)(h:∀a,Fr a N (cO env (aQ c k) (.int kd z))→aV P c K Q (k+1) a w)(hk:unE c N env k=some (aQ c k,op,kd,i):=by kernel_rfl)(hz:unI op kd i=some z:=by kernel_rfl):∀a,Fr a N env→aV P c K Q k a w:=fun a hF=>by
 unfold unE at hk;split at hk
 ·rename_i g0;split at hk
  ·rename_i g1 g2 g3;simp only[cP,cF]at hk;obtain⟨rfl,rfl,rfl,rfl⟩:=hk;refine Qv g0 hF g1 g2 rfl g3 (z:= .int _ z) (fun w=> ?_) (fun a' _=>h a');unfold unI at hz;split at hz
   ·injection hz with hz;subst hz;simp[Op.unary,Op.intArith]
   ·injection hz with hz;subst hz;simp[Op.unary,Op.intBits]
   ·cases hz
  ·cases hk
 ·cases hk
def cvE(P:Program)(c:Code)(N:FN)(env:Env)(k:Nat):Option (Option Nat×IntKind×Int):=match ay c k with
 |some (d,.convert t t' x,_,g)=>match bt c g env,gq d N,ev env x,P.underlying t,P.underlying t' with
  |some true,true,some (.int _ i),some (.int _),some (.int kd)=>some (d,kd,i)
  |_,_,_,_,_=>none
 |_=>none
theorem zcv(i:Int)(kd:IntKind)(z:Int)(h:∀a,Fr a N (cO env (aQ c k) (.int kd z))→aV P c K Q (k+1) a w)(hz:kd.wrap i=z)(hk:cvE P c N env k=some (aQ c k,kd,i):=by kernel_rfl):∀a,Fr a N env→aV P c K Q k a w:=fun a hF=>by
 unfold cvE at hk;split at hk
 ·rename_i g0;split at hk
  ·rename_i g1 g2 g3 g4 g5;simp only[cP,cF]at hk;obtain⟨rfl,rfl,rfl⟩:=hk;exact Cc g0 hF g1 g2 rfl g3 g4 g5 hz (fun a' _=>h a')
  ·cases hk
 ·cases hk
end
section
variable {P : Program} {c : Code} {Q : Exit → Act → World → Prop} {N : FN} {i : Nat} {env0 : Env} {wr : World} {sp : Nat → Spec}
theorem dB(kd:IntKind)(z y:Int)(hv:sp i= .bb (.int kd z):=by rfl)(hg:∀vs,lE c i (bW c i sp vs env0)=some true:=by intro _;kernel_rfl)(hk:∀vs,biE boI (one c i) N (bW c i sp vs env0) 0=some (aQ c i,kd,kd,y,z):=by intro _;kernel_rfl)(he:ay (one c i) 1=none:=by kernel_rfl):jx P c Q N env0 wr sp i:=by
 refine oU hg (fun w vs hK hp a hF=> ?_);obtain⟨op,t,x,h0,h1⟩:=yc (hk vs);exact tZ hF h0 (K6 h1 t w) (fun a' ea _=>bl he ⟨_,ea,Kp.refl w,by rw[hv];rfl⟩)
theorem dE{f:FuncId}{vs:aO}{u u':Value}{Ψ:Value→World→Prop}(hc:∀w,Kp wr w→Calls P f vs.toArray w (gK (fun v w'=>v=u∧Mem aX w w' []) Ψ))(hq:∀v w',Ψ v w'→∀a,a.defers=N.D→Q (MG v) a w')(hu:u=u')(hv:sp i= .bb u':=by rfl)(hg:∀vs,lE c i (bW c i sp vs env0)=some true:=by intro _;kernel_rfl)(hk:∀us,MH P (one c i) N (bW c i sp us env0) 0=some (aQ c i,f,vs):=by intro _;kernel_rfl)(he:ay (one c i) 1=none:=by kernel_rfl):jx P c Q N env0 wr sp i:=by
 refine oU hg (fun w us hK hp a hF=> ?_);refine ze _ f vs hF (hk us) (hc w hK) (fun v w' MF a' ea _=>bl he ⟨v,ea,MF.2,?_⟩) (fun v w' MF=>hq v w' MF a hF.defers);rw[hv,MF.1];exact hu
end
end Go.Mor
namespace Go.Mor
open Go.RowKit
def QeQ(l:List bx):Prop:=l.Pairwise (fun r s=>∀g,r.fp g→¬s.fp g)
def bx.pk(l:List bx):bx where
 fp k:=∃r,r∈l∧r.fp k
 holds w:=(∀r,r∈l→r.holds w)∧QeQ l
 gZ:=fun h hw=>⟨fun r hr=>r.gZ (fun g hg=>h g ⟨r,hr,hg⟩) (hw.1 r hr),hw.2⟩
 lt:=fun⟨h1,_⟩ ⟨r,hr,hg⟩=>r.lt (h1 r hr) hg
section
variable {S : Nat → Prop} {w0 w w' : World} {l l' L : List bx} {r : bx}
theorem Mem.jS(h:(bx.pk l).holds w):Mem (bx.pk l).fp w w l:=⟨rfl,rfl,rfl,cB _,fun _ _ _=>rfl,fun r hr=>⟨h.1 r hr,fun _ hg=> .inl ⟨r,hr,hg⟩⟩,h.2⟩
theorem Mem.bZ(h:Mem S w0 w (l++L)):(bx.pk l).holds w:=⟨fun r hr=>(h.own r (dG _ hr)).1,(sH.1 h.apart).1⟩
theorem Mem.pack(h:Mem S w0 w (l++L)):Mem S w0 w (.pk l::L):=by
 obtain⟨h1,h2,h3⟩:=sH.1 h.apart;refine⟨h.os,h.tape,h.output,h.size,h.kept,fun r hr=> ?_,ln.2 ⟨?_,h2⟩⟩
 ·rcases db.1 hr with rfl|hr
  ·exact⟨h.bZ,fun g ⟨q,hq,hg⟩=>(h.own q (dG _ hq)).2 g hg⟩
  ·exact h.own r (iR _ hr)
 ·rintro r hr g ⟨q,hq,hg⟩;exact h3 q hq r hr g hg
theorem Mem.unpack(h:Mem S w0 w (.pk l::L)):Mem S w0 w (l++L):=by
 obtain⟨h1,h2⟩:=ln.1 h.apart;obtain⟨⟨h3,h4⟩,h5⟩:=h.own _ (cJ ..);refine⟨h.os,h.tape,h.output,h.size,h.kept,fun r hr=> ?_,sH.2 ⟨h4,h2,fun q hq r hr g hg=>h1 r hr g ⟨q,hq,hg⟩⟩⟩;rcases bX.1 hr with hr|hr
 ·exact⟨h3 r hr,fun g hg=>h5 g ⟨r,hr,hg⟩⟩
 ·exact h.own r (bT _ hr)
theorem Mem.na(h:Mem S w0 w (l++L))(h':Mem (bx.pk l).fp w w' l'):Mem S w0 w' (l'++L):=by
 have h1:Mem (bx.pk l).fp w w' (l'++[]):=by rw[mm];exact h'
 have h2:=h.pack.mod 0 rfl h1.pack;exact Mem.unpack (by simpa using h2)
theorem RO.iI(hA:RO S w0 r)(h:Mem S w0 w (l++L)):RO (bx.pk l).fp w r:=by
 refine⟨h.ro hA,fun g hg ⟨q,hq,hgq⟩=> ?_⟩;have h1:=r.lt hA.1 hg;rcases(h.own q (dG _ hq)).2 g hgq with h2|h2
 ·exact hA.2 g hg h2
 ·omega
theorem RO.kN(h:Mem S w0 w (l++L))(i:Nat)(hi:L[i]?=some r):RO (bx.pk l).fp w r:=by
 have hm:=bu hi;refine⟨(h.own r (iR _ hm)).1,fun g hg ⟨q,hq,hgq⟩=> ?_⟩;exact(sH.1 h.apart).2.2 q hq r hm g hgq hg
end
theorem pC{e n c:Nat}{g:Nat}:∀(xs:aO) (o:Nat) (cs:aO) (w:World),(bx.row e 1 (some (aZ g)) n c cs).holds w→o+xs.length≤cs.length→Mem (bx.row e 1 (some (aZ g)) n c cs).fp w (w.setCells g o xs) [.row e 1 (some (aZ g)) n c (cs.take o++xs++cs.drop (o+xs.length))]
 |[],o,cs,w,hb,_=>by simpa[World.setCells]using Mem.qv hb
 |y::ys,o,cs,w,hb,hl=>by
  simp only[eZ]at hl;have hm:=Mem.xU (j:=o) hb y;rw[nS]at hm;have ih:=pC ys (o+1) (cs.set o y) (w.setCell (ah g o) y) (hm.get 0 rfl) (by simp;omega);have e:(cs.set o y).take (o+1)++ys++(cs.set o y).drop (o+1+ys.length)=cs.take o++(y::ys)++cs.drop (o+(y::ys).length):=by
   have e1:(cs.set o y).take (o+1)=cs.take o++[y]:=by
    have:o<(cs.set o y).length:=by simp;omega
    rw[fO this];simp[Dp]
   have e2:(cs.set o y).drop (o+1+ys.length)=cs.drop (o+(y::ys).length):=by rw[List.drop_set_of_lt oM,eZ,show o+1+ys.length=o+(ys.length+1)by omega]
   rw[e1,e2];simp
  rw[e]at ih;exact hm.mod 0 rfl ih
section
variable {P : Program} {c : Code} {K : Act → World → Prop} {Q : Exit → Act → World → Prop} {a : Act} {w w0 : World} {S : Nat → Prop} {L : List bx} {k k' : Nat} {N : FN} {env : Env} {d : Option Nat} {ty : Nat} {g : Option (Nat × Bool)}
theorem IW{t u:TypeId}{x y:Operand}(hk:ay c k=some (d,.call {callee:= .builtin .copy,args:=#[x,y],argTypes:=#[t,u]},ty,g))(hF:Fr a N env)(hg:bt c g env=some true)(hd:gq d N=true)(jN:k+1=k'){e e' b n dn dc m cap rc:Nat}{A:ao}{xs cs:aO}(ht:P.underlying t=some (.slice e))(hs:(P.info? e).map (·.size)=some 1)(hx:ev env x=some (vS (some (aZ b)) dn dc))(hy:ev env y=some (vS A m cap))(hM:Mem S w0 w L)(i:Nat)(hL:L[i]?=some (.row e' 1 (some (aZ b)) n rc cs))(kJ:(bx.rd A xs).holds w)(hn:m=xs.length)(qp:m≤dn)(hl:xs.length≤cs.length)(h1:∀v∈xs,v.oneCell'=true)(h:∀w',Mem S w0 w' (L.set i (.row e' 1 (some (aZ b)) n rc (xs++cs.drop xs.length)))→∀a',a'=a.put d (goInt xs.length)→Fr a' N (cO env d (goInt xs.length))→aV P c K Q k' a' w'):aV P c K Q k a w:=by
 subst jN;have hb:=hM.get i hL;have Iu:Nat.min m dn=m:=tS qp;have Dw:(Builtin.copy_ #[t,u] ty #[.slice (some (aZ b)) dn dc,.slice A m cap]).run P w= .ok (goInt xs.length) (w.setCells b 0 xs):=by
  cases xs with
  |nil=>
   have:m=0:=hn;subst this;exact run_copy_none w t u ty e _ A dn dc 0 cap ht hs sI
  |cons v vs=>
   obtain⟨ad,hA,_⟩:=kJ 0 v rfl;subst hA;refine run_copy_cells w t u ty e b 0 dn dc ad m cap (v::vs) ht hs (by rw[Iu,hn]) (fun j u hj=> ?_) (fun j hj=> ?_) (fun j hj=> ?_) h1
   ·obtain⟨a',lM,hc⟩:=kJ j u hj;injection lM with lM;subst lM;exact hc
   ·obtain⟨a',lM,hc⟩:=aF hb j cs[j] (by rw[List.getElem?_eq_getElem]);injection lM with lM;subst lM;rw[nS]at hc;rw[Nat.zero_add,hc];rfl
   ·have h2:=mX hb (0+j);rw[nS]at h2;exact h2
 have hm:=pC xs 0 cs w hb oM;have fv:=hM.mod i hL hm;refine fH hk hF hg (v:=goInt xs.length) (w':=w.setCells b 0 xs) (fun o ho Mw=> ?_) (h _ (by simpa using fv) _ rfl (hF.put hd _));unfold execOp;rw[ho,Mw];simp only[resolve,invoke,builtin,cT,jO,dz,qB,ga,kc,hF.ev hx,hF.ev hy,Dw]
end
end Go.Mor
namespace Go.Mor
open Go.RowKit
def ji(l:af):aO:=l.map (Value.int .u8)
theorem D2(l:af):(ji l).length=l.length:=by simp[ji]
theorem zn(l m:af):ji (l++m)=ji l++ji m:=by simp[ji]
structure RC where
 E:Env0
 r:Nat
 fA:ao
 fc:Nat
 sA:ao
 sc:Nat
 mB:Nat
 dB:Nat
 mG:Nat
 iA:ao
 ic:Nat
 oP:Addr
abbrev zo(k c:Int):Value:= .iface 106 (.agg #[vI k,vI c])
abbrev opsV(r:Nat):aO:=[.nilFunc,.func (.func 14) #[pT r 0] #[],.func (.func 15) #[pT r 0] #[],.func (.func 16) #[pT r 0] #[],.func (.func 17) #[pT r 0] #[],.func (.func 18) #[pT r 0] #[],.func (.func 19) #[pT r 0] #[],.func (.func 20) #[pT r 0] #[],.func (.func 21) #[pT r 0] #[],.func (.func 22) #[pT r 0] #[],.func (.func 23) #[pT r 0] #[],.func (.func 24) #[pT r 0] #[],.func (.func 25) #[pT r 0] #[]]
def fI(A:ao)(cap:Nat):Nat→ao×Nat
 |0=>(A,cap)
 |p+1=>((if(fI A cap p).2=1 then(fI A cap p).1 else(fI A cap p).1.map (·.add (1*1))),(fI A cap p).2-1)
theorem QO(A:ao)(cap p:Nat):(fI A cap p).2=cap-p:=by
 induction p with
 |zero=>rfl
 |succ p ih=>show(fI A cap p).2-1=_;omega
theorem D3(A:ao)(cap:Nat):∀p,p<cap→(fI A cap p).1=A.map (·.add p)
 |0,_=>by cases A<;>simp[fI,Addr.add]
 |p+1,h=>by
  show(if(fI A cap p).2=1 then _ else _)=_;have h1:=QO A cap p;rw[aB oM,D3 A cap p oM];cases A with
  |none=>rfl
  |some a=>simp only[gC,lZ]
abbrev fB(C:RC)(s:cV)(oA:ao)(oc:Nat):aO:=[.slice C.fA (C.E.fns.length+1) C.fc,.slice C.sA (C.E.fns.length+1) C.sc,.map (some C.mB),.map (some C.dB),.slice (some (aZ C.mG)) C.E.memN C.E.memN,vI s.next,.slice (fI C.iA C.ic s.pos).1 (C.E.inp.length-s.pos) (fI C.iA C.ic s.pos).2,.slice oA s.out.length oc,vI C.E.fuel,vI s.steps,vI s.opened,.slice (some C.oP) 13 13]
abbrev dV(C:RC)(s:cV)(oA:ao)(oc:Nat):List bx:=[.aL C.r 60 (fB C s oA oc),.row 2 1 (some (aZ C.mG)) C.E.memN C.E.memN (ints s.mem),.row 5 1 oA s.out.length oc (ji s.out)]
def vK(l:List (aM×Int)):List (aM×Value):=l.map (fun p=>(p.1,vI p.2))
theorem iT(l:List (aM×Int))(s:aM):dt (vK l) s=(dt l s).map vI:=by
 induction l with
 |nil=>rfl
 |cons x r ih=>
  obtain⟨k,v⟩:=x;have e1:dt (vK ((k,v)::r)) s=match s==k with|true=>some (vI v)|false=>dt (vK r) s:=rfl
  have e2:dt ((k,v)::r) s=match s==k with|true=>some v|false=>dt r s:=rfl
  rw[e1,e2];cases s==k with
  |true=>rfl
  |false=>exact ih
abbrev pD:aO:=[.string ⟨#[]⟩,.bool false,vI 0,vI 0,ag]
def vy(f:dZ):aO:=f.bO.map (fun q=> .slice q.1 q.2.2.length q.2.1)
def RC.ro(C:RC):bx:= .all (.jY C.fA 5 (pD::C.E.fns.map dZ.cells):: .rd C.sA (ag::C.E.fns.map (fun f=> .slice f.qA f.bO.length f.qc)):: .map C.mB (dx .string (vK C.E.names)):: .map C.dB (dx .string (vK C.E.data)):: .rd (some C.oP) (opsV C.r):: .rd C.iA (ji C.E.inp)::(C.E.fns.map (fun f=>bx.fn f.A f.aJ)++(C.E.fns.map (fun f=>bx.rd f.qA (vy f))++C.E.fns.flatMap (fun f=>f.bO.map (fun q=>bx.rd q.1 (ints q.2.2))))))
section
variable {S : Nat → Prop} {w : World} {C : RC}
theorem RO.QeR(h:RO S w C.ro):RO S w (.jY C.fA 5 (pD::C.E.fns.map dZ.cells)):=h.sub (cJ ..)
theorem RO.Qab(h:RO S w C.ro):RO S w (.rd C.sA (ag::C.E.fns.map (fun f=> .slice f.qA f.bO.length f.qc))):=h.sub (.tail _ (cJ ..))
theorem RO.D4(h:RO S w C.ro):RO S w (.map C.mB (dx .string (vK C.E.names))):=h.sub (.tail _ (.tail _ (cJ ..)))
theorem RO.Qac(h:RO S w C.ro):RO S w (.map C.dB (dx .string (vK C.E.data))):=h.sub (.tail _ (.tail _ (.tail _ (cJ ..))))
theorem RO.Qh3(h:RO S w C.ro):RO S w (.rd (some C.oP) (opsV C.r)):=h.sub (.tail _ (.tail _ (.tail _ (.tail _ (cJ ..)))))
theorem RO.rin(h:RO S w C.ro):RO S w (.rd C.iA (ji C.E.inp)):=h.sub (.tail _ (.tail _ (.tail _ (.tail _ (.tail _ (cJ ..))))))
theorem RO.rfn(h:RO S w C.ro){k:Nat}{f:dZ}(hf:C.E.fns[k]?=some f):RO S w (.fn f.A f.aJ):=h.sub (.tail _ (.tail _ (.tail _ (.tail _ (.tail _ (.tail _ (dG _ (bD.2 ⟨f,bu hf,rfl⟩))))))))
theorem RO.Qad(h:RO S w C.ro){k:Nat}{f:dZ}(hf:C.E.fns[k]?=some f):RO S w (.rd f.qA (vy f)):=h.sub (.tail _ (.tail _ (.tail _ (.tail _ (.tail _ (.tail _ (iR _ (dG _ (bD.2 ⟨f,bu hf,rfl⟩)))))))))
theorem RO.Qh4(h:RO S w C.ro){k j:Nat}{f:dZ}{q:ao×Nat×af}(hf:C.E.fns[k]?=some f)(hq:f.bO[j]?=some q):RO S w (.rd q.1 (ints q.2.2)):=h.sub (.tail _ (.tail _ (.tail _ (.tail _ (.tail _ (.tail _ (iR _ (iR _ (jl.2 ⟨f,bu hf,bD.2 ⟨q,bu hq,rfl⟩⟩)))))))))
end
structure Qae(f:dZ)(k:Nat)(x:bF):Prop where
 lp:x.aK.length≤20000
 li:x.insts.length≤20000
 ends:jm f.aJ.length x
 vIf:x.e=1→0≤x.v∧x.v<f.va
 QeS:x.e=2→-1≤x.v∧x.v<f.va
 shape:∀i,i∈x.insts→bV i
 args:∀i,i∈x.insts→∀v,v∈i.args→0≤v∧v<f.va
 dst:∀i,i∈x.insts→aR i.op→0≤i.dst∧i.dst<f.va
 QeT:∀p,p∈x.aK→0≤p.dst∧p.dst<f.va
 QeU:∀p,p∈x.aK→p.args.length=(f.src k).length
 Qaf:∀p,p∈x.aK→∀v,v∈p.args→0≤v∧v<f.va
structure dZ.WF(f:dZ):Prop where
 ok:xX f.aJ
 pos:0<f.aJ.length
 len:f.aJ.length≤1000
 pa0:0≤f.pa
 pav:f.pa≤f.va
 va:f.va≤20000
 first:∀x,f.aJ[0]?=some x→x.aK=[]
 aL:∀k x,f.aJ[k]?=some x→Qae f k x
 QP:f.bO.length=f.aJ.length
 QeV:∀(k:Nat) (x:bF) (t:Int),f.aJ[k]?=some x→(x.e=0∧t=x.a∨x.e=1∧(t=x.a∨t=x.b))→(k:Int)∈f.src t.toNat
 QeW:∀k,(f.src k).length≤1000
structure RC.WF(C:RC):Prop where
 fns:∀f,f∈C.E.fns→f.WF
 F4:C.E.fns.length≤1000
 mem:C.E.memN≤262144
 fuel:0≤C.E.fuel∧C.E.fuel≤4194304
 inp:C.E.inp.length≤4096
 ic:C.E.inp.length≤C.ic
 bytes:∀b,b∈C.E.inp→0≤b∧b≤255
structure dR(C:RC)(s:cV):Prop where
 mem:s.mem.length=C.E.memN
 n1:1≤s.next
 n2:s.next≤C.E.memN
 pos:s.pos≤C.E.inp.length
 out:s.out.length≤4096
 s1:0≤s.steps
 s2:s.steps≤C.E.fuel
 o1:0≤s.opened
 o2:s.opened≤1200
theorem dR.step{C:RC}{s:cV}(h:dR C s)(hn:¬s.steps=C.E.fuel):dR C {s with steps:=s.steps+1}:=⟨h.mem,h.n1,h.n2,h.pos,h.out,by have:=h.s1;show 0≤s.steps+1;omega,by have:=h.s2;show s.steps+1≤_;omega,h.o1,h.o2⟩
theorem dR.set{C:RC}{s:cV}(h:dR C s)(k:Nat)(v:Int):dR C {s with mem:=s.mem.set k v}:=⟨by show(s.mem.set k v).length=_;rw[n6];exact h.mem,h.n1,h.n2,h.pos,h.out,h.s1,h.s2,h.o1,h.o2⟩
theorem dR.take{C:RC}{s:cV}(h:dR C s){n:Int}(h0:0≤n)(h1:n≤(C.E.memN:Int)-s.next):dR C {s with next:=s.next+n}:=⟨h.mem,by have:=h.n1;show 1≤s.next+n;omega,by show s.next+n≤_;omega,h.pos,h.out,h.s1,h.s2,h.o1,h.o2⟩
theorem dR.read{C:RC}{s:cV}(h:dR C s)(hp:s.pos<C.E.inp.length):dR C {s with pos:=s.pos+1}:=⟨h.mem,h.n1,h.n2,hp,h.out,h.s1,h.s2,h.o1,h.o2⟩
theorem dR.write{C:RC}{s:cV}(h:dR C s)(hp:s.out.length<4096)(b:Int):dR C {s with out:=s.out++[b]}:=⟨h.mem,h.n1,h.n2,h.pos,by show(s.out++[b]).length≤_;rw[fz];exact hp,h.s1,h.s2,h.o1,h.o2⟩
theorem dR.enter{C:RC}{s:cV}(h:dR C s)(hp:¬s.opened=1200):dR C {s with opened:=s.opened+1}:=⟨h.mem,h.n1,h.n2,h.pos,h.out,h.s1,h.s2,by have:=h.o1;show 0≤s.opened+1;omega,by have:=h.o2;show s.opened+1≤_;omega⟩
def RV{α:Type}(C:RC)(S:Nat→Prop)(w:World)(f:α→Value)(g:ed α)(v:Value)(w':World):Prop:=∃x s oA oc,g= .ok x s∧v=f x∧dR C s∧Mem S w w' (dV C s oA oc)
def RP{α:Type}(C:RC)(S:Nat→Prop)(w:World)(g:ed α)(v:Value)(w':World):Prop:=∃k c s oA oc,g= .stop k c s∧v=zo k c∧dR C s∧Mem S w w' (dV C s oA oc)
abbrev rS(C:RC)(s:cV)(oA:ao)(oc:Nat):Nat→Prop:=(bx.pk (dV C s oA oc)).fp
abbrev QeX(_:Unit):Value:= .tuple #[]
abbrev oV(x:Int):Value:=vI x
def gQ{α:Type}(P:Program)(C:RC)(s:cV)(oA:ao)(oc:Nat)(w:World)(fn:FuncId)(args:aO)(f:α→Value)(g:ed α):Prop:=Calls P fn args.toArray w (gK (RV C (rS C s oA oc) w f g) (RP C (rS C s oA oc) w g))
def qR(P:Program)(C:RC)(fn:FuncId)(call:Int→af→cV→ed Int)(b:Int):Prop:=∀(n:Int) (l:af) (bA:ao) (bc:Nat) (s:cV) (oA:ao) (oc:Nat) (w:World),dR C s→C.E.fuel-s.steps<b→(bx.pk (dV C s oA oc)).holds w→RO (rS C s oA oc) w C.ro→RO (rS C s oA oc) w (.rd bA (ints l))→l.length≤17→gQ P C s oA oc w fn [pT C.r 0,vI n,.slice bA l.length bc] oV (call n l s)
theorem Wz{C:RC}(hC:C.WF){p:Nat}:0≤C.E.inp.getD p 0∧C.E.inp.getD p 0≤255:=by
 by_cases h:p<C.E.inp.length
 ·have:C.E.inp.getD p 0=C.E.inp[p]:=by simp[List.getD,h]
  rw[this];exact hC.bytes _ (qH h)
 ·have:C.E.inp.getD p 0=0:=by simp[List.getD,h]
  rw[this];omega
theorem WA{w:World}{A:ao}{cap:Nat}{l:af}(h:(bx.rd A (ji l)).holds w){p:Nat}(hp:p<l.length)(hc:l.length≤cap):∃ad,(fI A cap p).1=some ad:=by
 obtain⟨ad,hA⟩:=rd_some h (by rw[D2];omega);rw[D3 A cap p oM,hA];exact⟨_,rfl⟩
theorem WB{w:World}{A:ao}{cap:Nat}{l:af}(h:(bx.rd A (ji l)).holds w){p:Nat}(hp:p<l.length)(hc:l.length≤cap){ad:Addr}(KG:(fI A cap p).1=some ad):w.cell? (ad.add ((0:Int).toNat*1))=some (.int .u8 (l.getD p 0)):=by
 obtain⟨QQ,hA⟩:=rd_some h (by rw[D2];omega);rw[D3 A cap p oM,hA]at KG;injection KG with KG;subst KG;have:=kf h hA (j:=p) (v:= .int .u8 (l.getD p 0)) (by simp[ji,List.getD,hp]);show w.cell? ((QQ.add p).add 0)=_;rw[lZ];exact this
end Go.Mor
namespace Go.Mor
open Go.RowKit
def zp(c:Code)(m:Nat):Bool:=(List.range (opsOf c).size).all fun i=>Nat.blt i m||(List.range i).all (fun j=>reach c (opsOf c).size i j)
theorem F5{c:Code}(nE:gU c=true):∀{n j i:Nat},j<(opsOf c).size→reach c n j i=true→i<j
 |0,j,i,_,h=>by simp[reach]at h
 |n+1,j,i,hj,h=>by
  have hp:∀k,k∈dW c j→k<j:=by intro k hk;simp only[gU,fW,ew]at nE;have:=nE j hj k hk;simpa[pW]using this
  simp only[reach,cg,yT]at h;rcases h with h|⟨k,hk,h⟩
  ·exact hp i (jX.1 h)
  ·have h1:=hp k hk;have:=F5 nE oM h;omega
theorem lx{c:Code}(nE:gU c=true){aD:Array Bool}(kZ:aD.size=(opsOf c).size)(hr:Region.ready .any (opsOf c) aD=[]):∀j,j<(opsOf c).size→aD.getD j false=true:=by
 intro j;induction j using Nat.strongRecOn with
 |_ j ih=>
  intro hj;cases hq:aD.getD j false with
  |true=>rfl
  |false=>
   exfalso;have:j∈Region.ready .any (opsOf c) aD:=by
    simp only[Region.ready,e8,ew,bo,jP];have FG:j<aD.size:=oM;refine⟨hj,?_,?_⟩
    ·simp[Array.getD,FG]at hq⊢;exact hq
    ·have ho:(opsOf c)[j]?=some (opsOf c)[j]:=by simp[hj]
     simp only[ho,gC,kK];rw[Dt];intro e he;cases hb:Region.binds .any e with
     |false=>rfl
     |true=>
      have kH:e.on∈dW c j:=by simp only[dW,ho,bD,e8];exact⟨e,⟨Du.2 he,hb⟩,rfl⟩
      have fM:e.on<j:=by simp only[gU,fW,ew]at nE;have:=nE j hj e.on kH;simpa[pW]using this
      simp[ih e.on fM oM]
   rw[hr]at this;simp at this
theorem qS{c:Code}{aD:Array Bool}{i:Nat}(hr:i∈Region.ready .any (opsOf c) aD):∀j,j∈dW c i→aD.getD j false=true:=by
 obtain⟨_,_,o,ho,Im⟩:=gu hr;intro j hj;simp only[dW,ho,bD,e8]at hj;obtain⟨e,⟨he,hb⟩,rfl⟩:=hj;exact Im e he hb
theorem vz{c:Code}{aD:Array Bool}(kZ:aD.size=(opsOf c).size){i:Nat}(hr:i∈Region.ready .any (opsOf c) aD):aD.getD i false=false:=by
 obtain⟨fM,VT,_⟩:=gu hr;have:i<aD.size:=oM;simp[Array.getD,this]at VT⊢;exact VT
def Cp(c:Code)(m:Nat):Env→Env
 |[]=>[]
 |(t,v)::r=>match memN ((List.range m).filterMap (aQ c)) t with
  |true=>Cp c m r
  |false=>(t,v)::Cp c m r
theorem sX{c:Code}{m:Nat}:∀{env:Env} {t:Nat} {v:Value},look (Cp c m env) t=some v→(t,v)∈env∧∀j,j<m→aQ c j≠some t
 |[],t,v,h=>by simp[Cp,look]at h
 |(k,u)::r,t,v,h=>by
  unfold Cp at h;cases hm:memN ((List.range m).filterMap (aQ c)) k with
  |true=>
   rw[hm]at h;obtain⟨h1,h2⟩:=sX h;exact⟨bT _ h1,h2⟩
  |false=>
   rw[hm]at h;simp only[look]at h;cases hq:Nat.beq k t with
   |false=>
    rw[hq]at h;obtain⟨h1,h2⟩:=sX h;exact⟨bT _ h1,h2⟩
   |true=>
    rw[hq]at h;injection h with h;have:=iq hq;subst this;subst h;refine⟨cJ ..,fun j hj sO=> ?_⟩;have:memN ((List.range m).filterMap (aQ c)) k=true:=jX.2 (Ds.2 ⟨j,ew.2 hj,sO⟩);rw[this]at hm;cases hm
section
variable {P : Program} {c : Code} {K : Act → World → Prop} {Q : Exit → Act → World → Prop} {N : FN} {env0 : Env} {wr : World} {sp : Nat → Spec}
theorem D5{aD:Array Bool}{i j:Nat}(hi:i<aD.size):(aD.setIfInBounds i true).getD j false=(decide (j=i)||aD.getD j false):=by
 by_cases e:i=j
 ·subst e;simp[lg,hi]
 ·have:¬j=i:=fun h=>e h.symm
  simp[lg,Array.getElem?_setIfInBounds_ne e,this]
theorem QR(nE:gU c=true){m:Nat}(ht:zp c m=true):∀(n fuel k:Nat) (aD:Array Bool) (a:Act) (w:World),aD.size=(opsOf c).size→(opsOf c).size≤k+n→n≤fuel→m≤k→k≤(opsOf c).size→(∀j,j<(opsOf c).size→aD.getD j false=decide (j<k))→aV P c K Q k a w→wpAny P .any (opsOf c) (Exit.then K Q) fuel aD a w:=by
 intro n;induction n with
 |zero=>
  intro fuel k aD a w kZ hs hf nJ K7 hl h;have hk:k=(opsOf c).size:=oM;subst hk;have hK:K a w:=by unfold aV at h;rw[tE sI]at h;exact h
  have Cq:∀i,¬i∈Region.ready .any (opsOf c) aD:=fun i hi=>by have h1:=vz kZ hi;have h2:=(gu hi).1;rw[hl i h2]at h1;simp[h2]at h1
  cases fuel with
  |zero=>exact⟨List.eq_nil_iff_forall_not_mem.2 Cq,hK⟩
  |succ fuel=>exact⟨fun _=>hK,fun i hi=>absurd hi (Cq i)⟩
 |succ n ih=>
  intro fuel k aD a w kZ hs hf nJ K7 hl h;by_cases hk:k<(opsOf c).size
  ·cases fuel with
   |zero=>omega
   |succ fuel=>
    refine⟨fun hr=> ?_,fun i hi=> ?_⟩
    ·have:=lx nE kZ hr k hk;rw[hl k hk]at this;simp at this
    ·have mj:=vz kZ hi;have QbC:=(gu hi).1;have hik:i=k:=by
      rw[hl i QbC]at mj;have hge:k≤i:=by simpa using mj
      rcases Nat.lt_or_eq_of_le hge with hgt|he
      ·exfalso;simp only[zp,fW,ew,cg]at ht;have h1:reach c (opsOf c).size i k=true:=by
        rcases ht i QbC with h1|h1
        ·have:i<m:=by simpa[pW]using h1
         omega
        ·exact h1 k hgt
       cases hn:(opsOf c).size with
       |zero=>omega
       |succ N'=>
        rw[hn]at h1;simp only[reach,cg,yT]at h1;rcases h1 with h1|⟨q,hq,h1⟩
        ·have:=qS hi k (jX.1 h1);rw[hl k hk]at this;simp at this
        ·have h2:=qS hi q hq;have hqi:q<i:=by simp only[gU,fW,ew]at nE;have:=nE i QbC q hq;simpa[pW]using this
         rw[hl q oM]at h2;have h3:q<k:=by simpa using h2
         have:=F5 nE oM h1;omega
      ·exact he.symm
     subst hik;have ho:(opsOf c)[i]?=some (opsOf c)[i]:=by simp[hk]
     generalize hoo:(opsOf c)[i]=o at ho;unfold aV at h;rw[xT ho]at h;unfold wpList at h;have next:∀a' w',wpList P (opsOf c) (Exit.then K Q) ((opsOf c).toList.drop (i+1)) a' w'→wpAny P .any (opsOf c) (Exit.then K Q) fuel (aD.setIfInBounds i true) a' w':=by
      intro a' w' h';refine ih fuel (i+1) _ a' w' (by simpa using kZ) oM oM oM oM (fun j hj=> ?_) h';rw[D5 oM,hl j hj];by_cases e:j=i
      ·subst e;simp
      ·have:(j<i+1)↔(j<i):=oM;simp[e,this]
     unfold wpOp;rw[ho];simp only[];split at h
     ·rename_i hw;rw[bC hw];exact h.imp (Oper.wp_mono next) id
     ·rename_i hw;rw[aB hw];exact next _ _ h
  ·exact ih fuel k aD a w kZ oM oM nJ K7 hl h
theorem MN(hd:ml c=true)(tv:∀i d,aQ c i=some d→d<N.n)(nE:gU c=true){m:Nat}(ht:zp c m=true)(hm:m≤(opsOf c).size)(oQ:∀i,i<m→jx P c Q N env0 wr sp i)(xw:∀a w,(∀aD:Array Bool,(∀j,j<m→aD.getD j false=true)→(∀j,m≤j→aD.getD j false=false)→tJ c N env0 wr sp aD a w→aV P c K Q m a w)):∀(n fuel:Nat) (aD:Array Bool) (a:Act) (w:World),aD.size=(opsOf c).size→((List.range (opsOf c).size).filter (fun j=> !aD.getD j false)).length=n→n≤fuel→(∀j,m≤j→aD.getD j false=false)→tJ c N env0 wr sp aD a w→wpAny P .any (opsOf c) (Exit.then K Q) fuel aD a w:=by
 intro n;induction n using Nat.strongRecOn with
 |_ n ih=>
  intro fuel aD a w kZ hn hf hup hk;by_cases dT:∀j,j<m→aD.getD j false=true
  ·have hlen:(opsOf c).size≤m+n:=by
    have h1:((List.range (opsOf c).size).filter (fun j=> !aD.getD j false)).length=(opsOf c).size-m:=by
     have e:(List.range (opsOf c).size).filter (fun j=> !aD.getD j false)=(List.range (opsOf c).size).filter (fun j=>decide (m≤j)):=by
      apply qF;intro j _;by_cases hj:j<m
      ·rw[dT j hj];simp;omega
      ·rw[hup j oM];simp;omega
     rw[e];have key:∀N,((List.range N).filter (fun j=>decide (m≤j))).length=N-m:=by
      intro N;induction N with
      |zero=>simp
      |succ N ihN=>
       rw[sS,ly,fz,ihN];by_cases h:m≤N
       ·simp[h];omega
       ·simp[h];omega
     exact key _
    omega
   refine QR nE ht n fuel m aD a w kZ hlen hf (cB _) hm (fun j hj=> ?_) (xw a w aD dT hup hk);by_cases h:j<m
   ·rw[dT j h];simp[h]
   ·rw[hup j oM];simp[h]
  ·have MO:0<n:=by
    rcases Dq n with h0|h0
    ·exfalso;apply dT;intro j hj;cases hq:aD.getD j false with
     |true=>rfl
     |false=>
      have:j∈(List.range (opsOf c).size).filter (fun j=> !aD.getD j false):=e8.2 ⟨ew.2 oM,by rw[hq];rfl⟩;have:=Io this;omega
    ·exact h0
   cases fuel with
   |zero=>omega
   |succ fuel=>
    refine⟨fun hr=>absurd (fun j hj=>lx nE kZ hr j oM) dT,fun i hi=> ?_⟩;obtain⟨h1,h2,_⟩:=gu hi;have K8:i<m:=by
     rcases pe i m with h|h
     ·exact h
     ·exfalso;apply dT;intro j hj;simp only[zp,fW,ew,cg]at ht;have hre:reach c (opsOf c).size i j=true:=by
       rcases ht i h1 with h3|h3
       ·have:i<m:=by simpa[pW]using h3
        omega
       ·exact h3 j oM
      exact bI (ls:=fun q=>aD.getD q false) (fun j hj q hq=>hk.2.2.2.1 j hj q hq) (fun q hq=>qS hi q hq) hre
    have hni:=vz kZ hi;have wx:i<aD.size:=oM;refine Ca hd tv (oQ i K8) kZ hi hk (fun a' w' jN=> ?_);have fM:((List.range (opsOf c).size).filter (fun j=> !(aD.setIfInBounds i true).getD j false)).length<n:=by
     rw[←hn];have kz:((List.range (opsOf c).size).filter (fun j=> !(aD.setIfInBounds i true).getD j false))=((List.range (opsOf c).size).filter (fun j=> !aD.getD j false)).filter (fun j=> !(Nat.beq j i)):=by
      rw[vc];apply qF;intro j _;rw[D5 wx];by_cases e:j=i
      ·subst e;simp
      ·have hb:Nat.beq j i=false:=by
        cases hq:Nat.beq j i with
        |false=>rfl
        |true=>exact absurd (iq hq) e
       simp[e,hb]
     rw[kz];have kH:i∈(List.range (opsOf c).size).filter (fun j=> !aD.getD j false):=e8.2 ⟨ew.2 h1,by rw[hni];rfl⟩;exact yS.2 ⟨i,kH,sI⟩
    refine ih _ fM fuel _ a' w' (by simpa using kZ) rfl oM (fun j hj=> ?_) jN;rw[D5 wx,hup j hj];have:j≠i:=oM;simp[this]
theorem mE(m:Nat)(sp:Nat→Spec){a:Act}(hF:Fr a N env0)(oQ:∀i,i<m→jx P c Q N env0 wr sp i)(h:∀a' w' (vs:Nat→Value),Kp wr w'→(∀j,j<m→(sp j).ok (vs j) w')→Fr a' N (qC c sp vs (List.range m)++Cp c m env0)→aV P c K Q m a' w')(ht:zp c m=true:=by kernel_rfl)(P6:Nat.ble m (opsOf c).size=true:=by kernel_rfl)(hk:kind c= .region true:=by kernel_rfl)(hm:P.follows .mixedOrders=true:=by kernel_rfl)(hd:ml c=true:=by kernel_rfl)(nE:gU c=true:=by kernel_rfl)(tL:qD env0=true:=by kernel_rfl)(tv:(List.range (opsOf c).size).all (fun i=>gq (aQ c i) N)=true:=by kernel_rfl):W P c K Q a wr:=by
 have Qf:∀i d,aQ c i=some d→d<N.n:=by
  intro i d hi;have fM:i<(opsOf c).size:=by
   simp only[aQ]at hi;cases ho:(opsOf c)[i]? with
   |none=>simp[ho]at hi
   |some o=>exact(Array.getElem?_eq_some_iff.1 ho).1
  simp only[fW,ew]at tv;have:=tv i fM;rw[hi]at this;simpa[gq,pW]using this
 have fv:=sL P6;cases c<;>simp[kind]at hk;rename_i id ops dr;subst hk;refine wp_region_any hm ?_;have QbD:∀j,(Array.replicate ops.size false).getD j false=false:=by intro j;simp only[lg,Array.getElem?_replicate];split<;>rfl
 have h0:tJ (.region id ops true) N env0 wr sp (Array.replicate ops.size false) a {wr with drawn:=wr.drawn+1}:=by
  refine⟨Mem.drew wr,hF.defers,hF.size,?_,⟨fun _=>undef,?_⟩,fun t v htv _=>hF.slot t v (rC tL htv)⟩
  ·intro j hj;rw[QbD j]at hj;cases hj
  ·intro j hj;rw[QbD j]at hj;cases hj
 refine MN (c:= .region id ops true) hd Qf nE ht fv oQ ?_ _ ops.size _ a _ (by simp[opsOf]) rfl ?_ (fun j _=>QbD j) h0
 ·intro a' w' aD dT hup hk;obtain⟨hkp,yP,kZ,_,⟨vs,yQ⟩,qE⟩:=hk;refine h a' w' vs hkp (fun j hj=>(yQ j (dT j hj)).1) ⟨yP,kZ,fun t v hv=> ?_⟩;rcases lW hv with h1|h1
  ·obtain⟨j,hj,sO,rfl⟩:=oO h1;obtain⟨h2,h3⟩:=yQ j (dT j (ew.1 hj));rw[Spec.yM h2];exact h3 t sO
  ·obtain⟨h2,h3⟩:=sX h1;refine qE t v h2 (fun j hj=> ?_);rcases pe j m with hjm|hjm
   ·exact h3 j hjm
   ·rw[hup j hjm]at hj;cases hj
 ·refine iv (m5 _ _) ?_;simp[opsOf]
def Spec.never:Spec:= .any (fun _ _=>False) (fun _ _ _ _ h=>h)
variable {i : Nat}
theorem dF{f:FuncId}{vs:aO}{Ψ:Value→World→Prop}(hc:∀w,Kp wr w→Calls P f vs.toArray w (gK (fun _ _=>False) Ψ))(hq:∀v w',Ψ v w'→∀a,a.defers=N.D→Q (MG v) a w')(hg:∀vs,lE c i (bW c i sp vs env0)=some true:=by intro _;kernel_rfl)(hk:∀us,MH P (one c i) N (bW c i sp us env0) 0=some (aQ c i,f,vs):=by intro _;kernel_rfl):jx P c Q N env0 wr sp i:=by
 refine oU hg (fun w us hK hp a hF=> ?_);exact ze _ f vs hF (hk us) (hc w hK) (fun v w' MF a' ea _=>MF.elim) (fun v w' MF=>hq v w' MF a hF.defers)
end
theorem xpd{P:Program}{fn:Func}{Φ Ψ:Value→World→Prop}{v:Value}{a:Act}{w:World}{N:FN}(hd:a.defers=N.D)(h:Ψ v w)(hD:N.D=[]:=by rfl):bodyPost P fn (gK Φ Ψ) (MG v) a w:=⟨hd.trans hD,v,rfl,h⟩
def paE(c:Code)(env:Env)(k:Nat):Option Value:=match ay c k with
 |some (_,.panic x,_,g)=>match bt c g env,ev env x with
  |some true,some v=>some v
  |_,_=>none
 |_=>none
theorem zpa{P:Program}{c:Code}{K:Act→World→Prop}{Q:Exit→Act→World→Prop}{w:World}{k:Nat}{N:FN}{env:Env}(t:TypeId)(v:Value)(h:∀a,Fr a N env→Q (MG (.iface t v)) a w)(hk:paE c env k=some (.iface t v):=by kernel_rfl):∀a,Fr a N env→aV P c K Q k a w:=fun a hF=>by
 unfold paE at hk;split at hk
 ·rename_i h0;split at hk
  ·rename_i h1 h2;injection hk with hk;exact IQ h0 hF h1 (h2.trans (bE some hk)) (h a hF)
  ·cases hk
 ·cases hk
end Go.Mor
namespace Go.Mor
open Go.RowKit
end Go.Mor
namespace Go.Mor
open Go.RowKit
def Po.cells(e:Po):aO:=[vI e.op,vI e.n,.string e.nm,.slice e.A e.kids.length e.c]
def K5.cells(x:K5):aO:=[vI x.op,vI x.n,.slice x.eA x.exprs.length x.ec,.slice x.bA x.body.length x.bc,.slice x.lA x.Wt.length x.lc]
def tw.cells(f:tw):aO:=[.string f.nm,.bool f.wk,vI f.pa,vI f.lo,.slice f.A f.body.length f.c]
mutual
def QeY:Po→List bx
 |⟨_,_,_,A,_,kids⟩=> .jY A 4 (kids.map Po.cells)::IX kids
def IX:List Po→List bx
 |[]=>[]
 |e::r=>QeY e++IX r
end
mutual
def QeZ:K5→List bx
 |⟨_,_,eA,_,exprs,bA,_,body,lA,_,Wt⟩=> .jY eA 4 (exprs.map Po.cells):: .jY bA 5 (body.map K5.cells):: .jY lA 5 (Wt.map K5.cells)::(IX exprs++(D6 body++D6 Wt))
def D6:List K5→List bx
 |[]=>[]
 |x::r=>QeZ x++D6 r
end
def tw.parts(f:tw):List bx:= .jY f.A 5 (f.body.map K5.cells)::D6 f.body
structure TC where
 E:Wu
 r:Nat
 fA:ao
 fc:Nat
 mB:Nat
 dB:Nat
 mG:Nat
 iA:ao
 ic:Nat
end Go.Mor
namespace Go.Mor
open Go.RowKit
structure cX where
 nm:aM
 wk:Bool
 pa:Int
 va:Int
 A:ao
 c:Nat
 aJ:List bF
def cX.cells(f:cX):aO:=fV f.nm f.wk f.pa f.va f.A f.c f.aJ
structure bh where
 nm:aM
 wk:Bool
 wA:ao
 wc:Nat
 words:af
 rA:ao
 rc:Nat
 refs:List (Int×aM)
def bh.cells(d:bh):aO:=[.string d.nm,.bool d.wk,.slice d.wA d.words.length d.wc,.slice d.rA d.refs.length d.rc]
def cD(r:Int×aM):aO:=[vI r.1,.string r.2]
instance : LawfulBEq ByteArray where
  eq_of_beq {a b} h := by simpa [MapKept.bytes_beq] using h
  rfl {a} := by simp [MapKept.bytes_beq]
section
variable {α β : Type} [BEq α] [LawfulBEq α]
theorem yd(s:α)(v:β)(t:α):∀l:List (α×β),dt (ft l s v) t=if t==s then some v else dt l t
 |[]=>by show(match t==s with|true=>some v|false=>none)=_;cases t==s<;>rfl
 |(k,u)::r=>by
  have ih:=yd s v t r;unfold ft;cases h:s==k with
  |true=>
   have e:=eq_of_beq h;subst e;show(match t==s with|true=>some v|false=>dt r t)=if t==s then some v else(match t==s with|true=>some u|false=>dt r t);cases t==s<;>rfl
  |false=>
   show(match t==k with|true=>some u|false=>dt (ft r s v) t)=if t==s then some v else(match t==k with|true=>some u|false=>dt r t);cases hk:t==k with
   |true=>
    have e:=eq_of_beq hk;subst e;have:(t==s)=false:=by
     cases hq:t==s
     ·rfl
     ·have e2:=eq_of_beq hq;subst e2;rw[BEq.rfl]at h;cases h
    rw[this];rfl
   |false=>rw[ih]
theorem K9{l:List (α×β)}{s:α}{v:β}(h:dt l s=some v):(s,v)∈l:=by
 induction l with
 |nil=>cases h
 |cons p r ih=>
  obtain⟨k,u⟩:=p;unfold dt at h;split at h
  ·rename_i hq;have e:=eq_of_beq hq;subst e;injection h with h;subst h;exact cJ ..
  ·exact bT _ (ih h)
theorem F6{l:List (α×β)}{s:α}(h:s∉l.map (·.1)):dt l s=none:=by
 induction l with
 |nil=>rfl
 |cons p r ih=>
  obtain⟨k,u⟩:=p;simp only[ga,db,not_or]at h;unfold dt;rw[mJ.2 h.1];exact ih h.2
theorem ye{s:α}(v:β):∀{l:List (α×β)},s∉l.map (·.1)→ft l s v=l++[(s,v)]
 |[],_=>rfl
 |(k,u)::r,h=>by simp only[ga,db,not_or]at h;unfold ft;rw[mJ.2 h.1];show(k,u)::ft r s v=_;rw[ye v h.2];rfl
theorem QS{l:List (α×β)}{s:α}{v:β}(h:s∉l.map (·.1))(t:α):dt (l++[(s,v)]) t=if t==s then some v else dt l t:=by
 rw[←ye v h,yd]
end
abbrev NW:=List (aM×Bool)
def fC(nw:NW)(k i:Nat):Bool:=match nw[k]?,nw[i]? with
 |some x,some y=>x.1==y.1&&((!x.2&&y.2)||(x.2==y.2&&decide (k<i)))
 |_,_=>false
def qT(nw:NW)(i:Nat):Bool:=(List.range nw.length).all fun k=> !fC nw k i
def bR(nw:NW):Nat→List (aM×Int)
 |0=>[]
 |k+1=>match nw[k]? with
  |none=>bR nw k
  |some x=>match dt (bR nw k) x.1 with
   |none=>ft (bR nw k) x.1 (k:Int)
   |some a=>match nw[a.toNat]? with
    |none=>bR nw k
    |some y=>if(!y.2||x.2)=true then bR nw k else ft (bR nw k) x.1 (k:Int)
section
variable {nw : NW} {k i j : Nat} {x y : ByteArray × Bool}
theorem gL(hk:nw[k]?=some x)(hi:nw[i]?=some y):fC nw k i=(x.1==y.1&&((!x.2&&y.2)||(x.2==y.2&&decide (k<i)))):=by unfold fC;rw[hk,hi]
theorem Cr(h:fC nw k i=true):fC nw i k=false:=by
 unfold fC at h;split at h
 ·rename_i x y hx hy;rw[gL hy hx];simp only[bo,cg,ax,jP,aE]at h;obtain⟨h1,h2⟩:=h;rcases h2 with⟨h2,h3⟩|⟨h2,h3⟩
  ·simp[h2,h3]
  ·simp[h2];omega
 ·cases h
theorem lF:qT nw i=true↔∀k,k<nw.length→fC nw k i=false:=by
 unfold qT;simp[fW]
theorem pE(nw:NW):∀(k:Nat),k≤nw.length→∀s:aM,match dt (bR nw k) s with
  |none=>∀(i:Nat) y,i<k→nw[i]?=some y→y.1≠s
  |some a=>∃(j:Nat) (x:aM×Bool),a=(j:Int)∧j<k∧nw[j]?=some x∧x.1=s∧∀(i:Nat) y,i<k→nw[i]?=some y→y.1=s→i≠j→fC nw j i=true
 |0,_,s=>by show∀(i:Nat) y,i<0→nw[i]?=some y→y.1≠s;intro i y h;omega
 |k+1,hk,s=>by
  have ih:=pE nw k oM;obtain⟨x,hx⟩:=aY (l:=nw) (i:=k) oM;have keep:(∃(j:Nat) (z:aM×Bool),j<k∧nw[j]?=some z∧z.1=x.1∧(!z.2||x.2)=true∧dt (bR nw k) x.1=some (j:Int))→bR nw (k+1)=bR nw k→match dt (bR nw (k+1)) s with
    |none=>∀(i:Nat) y,i<k+1→nw[i]?=some y→y.1≠s
    |some a=>∃(j:Nat) (x:aM×Bool),a=(j:Int)∧j<k+1∧nw[j]?=some x∧x.1=s∧∀(i:Nat) y,i<k+1→nw[i]?=some y→y.1=s→i≠j→fC nw j i=true:=by
   rintro⟨j,z,hj,hz,hzx,hw,hl⟩ he;rw[he];have hs:=ih s;cases hq:dt (bR nw k) s with
   |none=>
    rw[hq]at hs;intro i y hi hy;by_cases e:i=k
    ·subst e;rw[hx]at hy;injection hy with hy;subst hy;rintro rfl;rw[hl]at hq;cases hq
    ·exact hs i y oM hy
   |some a=>
    rw[hq]at hs;obtain⟨j2,x2,ha,hj2,sr,IY,hb⟩:=hs;refine⟨j2,x2,ha,oM,sr,IY,fun i y hi hy DZ dN=> ?_⟩;by_cases e:i=k
    ·subst e;rw[hx]at hy;injection hy with hy;subst hy;subst DZ;rw[hl]at hq;injection hq with hq;have e2:j=j2:=oM;subst e2;rw[hz]at sr;injection sr with sr;subst sr;rw[gL hz hx,hzx];simp only[BEq.rfl,y4];cases h1:z.2<;>cases h2:x.2<;>simp[h1,h2]at hw⊢<;>omega
    ·exact hb i y oM hy DZ dN
  have WC:(∀(i:Nat) y,i<k→nw[i]?=some y→y.1=x.1→fC nw k i=true)→bR nw (k+1)=ft (bR nw k) x.1 (k:Int)→match dt (bR nw (k+1)) s with
    |none=>∀(i:Nat) y,i<k+1→nw[i]?=some y→y.1≠s
    |some a=>∃(j:Nat) (x:aM×Bool),a=(j:Int)∧j<k+1∧nw[j]?=some x∧x.1=s∧∀(i:Nat) y,i<k+1→nw[i]?=some y→y.1=s→i≠j→fC nw j i=true:=by
   intro dT he;rw[he,yd];by_cases e:s=x.1
   ·subst e;rw[BEq.rfl];exact⟨k,x,rfl,oM,hx,rfl,fun i y hi hy DZ dN=>dT i y oM hy DZ⟩
   ·rw[mJ.2 e];simp only[m4,iP];have hs:=ih s;cases hq:dt (bR nw k) s with
    |none=>
     rw[hq]at hs;intro i y hi hy;by_cases e2:i=k
     ·subst e2;rw[hx]at hy;injection hy with hy;subst hy;exact fun h=>e h.symm
     ·exact hs i y oM hy
    |some a=>
     rw[hq]at hs;obtain⟨j2,x2,ha,hj2,sr,IY,hb⟩:=hs;refine⟨j2,x2,ha,oM,sr,IY,fun i y hi hy DZ dN=> ?_⟩;by_cases e2:i=k
     ·subst e2;rw[hx]at hy;injection hy with hy;subst hy;exact absurd DZ.symm e
     ·exact hb i y oM hy DZ dN
  have hd:bR nw (k+1)=match dt (bR nw k) x.1 with
   |none=>ft (bR nw k) x.1 (k:Int)
   |some a=>match nw[a.toNat]? with
    |none=>bR nw k
    |some y=>if(!y.2||x.2)=true then bR nw k else ft (bR nw k) x.1 (k:Int):=by
   show(match nw[k]? with
    |none=>bR nw k
    |some x=>match dt (bR nw k) x.1 with
     |none=>ft (bR nw k) x.1 (k:Int)
     |some a=>match nw[a.toNat]? with
      |none=>bR nw k
      |some y=>if(!y.2||x.2)=true then bR nw k else ft (bR nw k) x.1 (k:Int))=_
   rw[hx]
  have hs:=ih x.1;cases hq:dt (bR nw k) x.1 with
  |none=>
   rw[hq]at hs hd;exact WC (fun i y hi hy DZ=>absurd DZ (hs i y hi hy)) hd
  |some a=>
   rw[hq]at hs hd;obtain⟨j2,x2,ha,hj2,sr,IY,hb⟩:=hs;subst ha;have Vm:bR nw (k+1)=if(!x2.2||x.2)=true then bR nw k else ft (bR nw k) x.1 (k:Int):=by
    rw[hd];show(match nw[((j2:Int)).toNat]? with
     |none=>bR nw k
     |some y=>if(!y.2||x.2)=true then bR nw k else ft (bR nw k) x.1 (k:Int))=_
    rw[cZ,sr]
   by_cases hw:(!x2.2||x.2)=true
   ·rw[bC hw]at Vm;exact keep ⟨j2,x2,hj2,sr,IY,hw,hq⟩ Vm
   ·rw[aB hw]at Vm;refine WC (fun i y hi hy DZ=> ?_) Vm;rw[gL hx hy,DZ];simp only[BEq.rfl,y4];by_cases e:i=j2
    ·subst e;rw[sr]at hy;injection hy with hy;subst hy;cases h1:x2.2<;>cases h2:x.2<;>simp[h1,h2]at hw⊢
    ·have:=hb i y hi hy DZ e;rw[gL sr hy]at this;cases h1:x2.2<;>cases h2:x.2<;>cases h3:y.2<;>simp[h1,h2,h3]at hw this⊢
theorem zq(hx:nw[i]?=some x):dt (bR nw nw.length) x.1=some (i:Int)↔qT nw i=true:=by
 have hi:=(List.getElem?_eq_some_iff.1 hx).1;have hs:=pE nw nw.length (cB _) x.1;rw[lF];constructor
 ·intro h k hk;rw[h]at hs;obtain⟨j,z,hj,FG,hz,hzx,hb⟩:=hs;have e:j=i:=oM;subst e;obtain⟨y,hy⟩:=aY hk;by_cases DZ:y.1=x.1
  ·by_cases e:k=j
   ·subst e;rw[hx]at hy;injection hy with hy;subst hy;rw[gL hx hx];cases x.2<;>simp
   ·exact Cr (hb k y hk hy DZ e)
  ·rw[gL hy hx,mJ.2 DZ];rfl
 ·intro h;cases hq:dt (bR nw nw.length) x.1 with
  |none=>rw[hq]at hs;exact absurd rfl (hs i x hi hx)
  |some a=>
   rw[hq]at hs;obtain⟨j,z,hj,FG,hz,hzx,hb⟩:=hs;by_cases e:i=j
   ·subst e;rw[hj]
   ·have h1:=hb i x hi hx rfl e;rw[h j FG]at h1;cases h1
theorem Cs(hx:nw[i]?=some x):∃a:Int,dt (bR nw nw.length) x.1=some a:=by
 have hi:=(List.getElem?_eq_some_iff.1 hx).1;have hs:=pE nw nw.length (cB _) x.1;cases hq:dt (bR nw nw.length) x.1 with
 |none=>rw[hq]at hs;exact absurd rfl (hs i x hi hx)
 |some a=>exact⟨a,rfl⟩
theorem Ct{s:aM}{a:Int}(hk:k≤nw.length)(h:dt (bR nw k) s=some a):∃(j:Nat) (y:aM×Bool),a=(j:Int)∧j<k∧nw[j]?=some y:=by
 have hs:=pE nw k hk s;rw[h]at hs;obtain⟨j,x,ha,hj,hx,_⟩:=hs;exact⟨j,x,ha,hj,hx⟩
theorem F7(hx:nw[k]?=some x)(h:dt (bR nw k) x.1=none):bR nw (k+1)=ft (bR nw k) x.1 (k:Int):=by
 show(match nw[k]? with
  |none=>bR nw k
  |some x=>match dt (bR nw k) x.1 with
   |none=>ft (bR nw k) x.1 (k:Int)
   |some a=>match nw[a.toNat]? with
    |none=>bR nw k
    |some y=>if(!y.2||x.2)=true then bR nw k else ft (bR nw k) x.1 (k:Int))=_
 rw[hx];show(match dt (bR nw k) x.1 with
   |none=>ft (bR nw k) x.1 (k:Int)
   |some a=>match nw[a.toNat]? with
    |none=>bR nw k
    |some y=>if(!y.2||x.2)=true then bR nw k else ft (bR nw k) x.1 (k:Int))=_
 rw[h]
theorem rJ(hx:nw[k]?=some x)(h:dt (bR nw k) x.1=some (j:Int))(hy:nw[j]?=some y):bR nw (k+1)=if(!y.2||x.2)=true then bR nw k else ft (bR nw k) x.1 (k:Int):=by
 show(match nw[k]? with
  |none=>bR nw k
  |some x=>match dt (bR nw k) x.1 with
   |none=>ft (bR nw k) x.1 (k:Int)
   |some a=>match nw[a.toNat]? with
    |none=>bR nw k
    |some y=>if(!y.2||x.2)=true then bR nw k else ft (bR nw k) x.1 (k:Int))=_
 rw[hx];show(match dt (bR nw k) x.1 with
   |none=>ft (bR nw k) x.1 (k:Int)
   |some a=>match nw[a.toNat]? with
    |none=>bR nw k
    |some y=>if(!y.2||x.2)=true then bR nw k else ft (bR nw k) x.1 (k:Int))=_
 rw[h];show(match nw[((j:Int)).toNat]? with
  |none=>bR nw k
  |some y=>if(!y.2||x.2)=true then bR nw k else ft (bR nw k) x.1 (k:Int))=_
 rw[cZ,hy]
end
def aH{α:Type}(nw:NW)(l:List α)(i:Nat):List α:=((List.range i).filter (qT nw)).filterMap (fun k=>l[k]?)
section
variable {α : Type} {nw : NW} {l : List α} {i : Nat} {x : α}
theorem Bo:aH nw l 0=[]:=rfl
theorem iC(hx:l[i]?=some x)(h:qT nw i=true):aH nw l (i+1)=aH nw l i++[x]:=by
 unfold aH;rw[sS,ly,List.filterMap_append];simp[h,hx]
theorem l7(h:qT nw i=false):aH nw l (i+1)=aH nw l i:=by
 unfold aH;rw[sS,ly,List.filterMap_append];simp[h]
theorem eo:(aH nw l i).length≤i:=by
 unfold aH;refine iv (List.length_filterMap_le _ _) (iv (m5 _ _) ?_);simp
theorem eK(h:x∈aH nw l i):x∈l:=by
 unfold aH at h;obtain⟨k,_,hk⟩:=Ds.1 h;exact bu hk
end
def gM(fs:List cX):List cX:=aH (fs.map fun f=>(f.nm,f.wk)) fs fs.length
def aw(ds:List bh):List bh:=aH (ds.map fun d=>(d.nm,d.wk)) ds ds.length
theorem pF{α:Type}{key:α→aM×Bool}{l:List α}:∀i,i≤l.length→((aH (l.map key) l i).map (fun x=>(key x).1)).Nodup
 |0,_=>by simp[Bo]
 |i+1,hi=>by
  have ih:=pF (key:=key) (l:=l) i oM;obtain⟨x,hx⟩:=aY (l:=l) (i:=i) oM;cases hb:qT (l.map key) i with
  |false=>rw[l7 hb];exact ih
  |true=>
   rw[iC hx hb,di,gJ];refine⟨ih,sI,?_⟩;intro a ha b ua;simp only[ga,kc,cI]at ua;subst ua;obtain⟨y,hy,rfl⟩:=bD.1 ha;unfold aH at hy;obtain⟨k,hk,hky⟩:=Ds.1 hy;obtain⟨hk1,hk2⟩:=e8.1 hk;have hki:k<i:=by simpa using hk1
   intro he;have u6:(l.map key)[i]?=some (key x):=by rw[List.getElem?_map,hx];rfl
   have HX:(l.map key)[k]?=some (key y):=by rw[List.getElem?_map,hky];rfl
   have h1:=lF.1 hb k (by simp;omega);have h2:=lF.1 hk2 i (by simp;omega);rw[gL HX u6,he]at h1;rw[gL u6 HX,he]at h2;cases h3:(key x).2<;>cases h4:(key y).2<;>simp[h3,h4]at h1 h2<;>omega
theorem Bp(ds:List bh):((aw ds).map (·.nm)).Nodup:=pF (key:=fun d:bh=>(d.nm,d.wk)) ds.length (cB _)
theorem Br(fs:List cX):((gM fs).map (·.nm)).Nodup:=pF (key:=fun d:cX=>(d.nm,d.wk)) fs.length (cB _)
def ar(ds:List bh)(j:Nat):Nat:=1+((ds.take j).map (fun d=>d.words.length)).sum
def bz(ds:List bh)(j:Nat):List (aM×Int):=(ds.take j).zipIdx.map (fun p=>(p.1.nm,(ar ds p.2:Int)))
theorem wE(ds:List bh):ar ds 0=1:=rfl
section
variable {ds : List bh} {j : Nat} {d : bh}
theorem fw(h:ds[j]?=some d):ar ds (j+1)=ar ds j+d.words.length:=by
 have h1:=(List.getElem?_eq_some_iff.1 h);unfold ar;rw[iE,h];simp;omega
theorem ir:∀{i:Nat},j≤i→ar ds j≤ar ds i:=by
 intro i h;induction h with
 |refl=>exact cB _
 |step h ih=>
  rename_i m;refine iv ih ?_;cases hm:ds[m]? with
  |none=>
   unfold ar;rw[iE,hm];simp
  |some d=>rw[fw hm];omega
theorem pG:1≤ar ds j:=by unfold ar;omega
theorem vA(hw:∀d,d∈ds→d.words.length≤16384):∀(j:Nat),j≤ds.length→ar ds j≤1+j*16384
 |0,_=>by rw[wE];omega
 |j+1,hj=>by obtain⟨d,hd⟩:=aY (l:=ds) (i:=j) oM;have:=vA hw j oM;have:=hw d (bu hd);rw[fw hd];omega
theorem wF:bz ds 0=[]:=by simp[bz]
theorem qU(h:ds[j]?=some d):bz ds (j+1)=bz ds j++[(d.nm,(ar ds j:Int))]:=by
 unfold bz;rw[l6 h,di];rfl
theorem wG:∀(j:Nat),j≤ds.length→(bz ds j).map (·.1)=(ds.take j).map (·.nm)
 |0,_=>by simp[wF]
 |j+1,hj=>by obtain⟨d,hd⟩:=aY (l:=ds) (i:=j) oM;rw[qU hd,di,wG j oM,iE,hd];simp
theorem sY(hn:(ds.map (·.nm)).Nodup)(h:ds[j]?=some d):d.nm∉(bz ds j).map (·.1):=by
 have hj:=(List.getElem?_eq_some_iff.1 h).1;rw[wG j oM];intro hm;have e:ds.map (·.nm)=(ds.take j).map (·.nm)++(ds.drop j).map (·.nm):=by rw[←di,pH]
 rw[e,gJ]at hn;refine hn.2.2 d.nm hm d.nm ?_ rfl;rw[bD];exact⟨d,by
  have:(ds.drop j)[0]?=some d:=by rw[List.getElem?_drop];simpa using h
  exact bu this,rfl⟩
theorem MP(hn:(ds.map (·.nm)).Nodup)(h:ds[j]?=some d):ft (vK (bz ds j)) d.nm (vI (ar ds j:Int))=vK (bz ds (j+1)):=by
 rw[ye _ (by have:=sY hn h;simpa[vK,lP,Function.comp_def]using this),qU h]
 simp[vK]
theorem zr(hn:(ds.map (·.nm)).Nodup)(h:ds[j]?=some d):∀(i:Nat),j<i→i≤ds.length→dt (bz ds i) d.nm=some (ar ds j:Int)
 |0,hi,_=>oM
 |i+1,hi,hl=>by
  obtain⟨e,he⟩:=aY (l:=ds) (i:=i) oM;rw[qU he,QS (sY hn he)];by_cases hji:j=i
  ·subst hji;rw[h]at he;injection he with he;subst he;rw[BEq.rfl];rfl
  ·have ih:=zr hn h i oM oM;have dN:d.nm≠e.nm:=by intro heq;have:=sY hn he;rw[←heq]at this;rw[F6 this]at ih;cases ih
   rw[mJ.2 dN];exact ih
end
def dp(m:af)(p:Nat)(ws:af):af:=m.take p++ws++m.drop (p+ws.length)
def xz(names data:List (aM×Int))(s:aM):Int:=match dt data s with
 |some n=>n
 |none=>(dt names s).getD 0
def fo(names data:List (aM×Int))(p:Nat)(m:af)(rs:List (Int×aM)):af:=rs.foldl (fun m r=>m.set (p+r.1.toNat) (xz names data r.2)) m
def jc(names data:List (aM×Int))(ds:List bh)(memN:Nat):Nat→af
 |0=>List.replicate memN 0
 |j+1=>match ds[j]? with
  |none=>jc names data ds memN j
  |some d=>fo names data (ar ds j) (dp (jc names data ds memN j) (ar ds j) d.words) d.refs
section
variable {names data : List (ByteArray × Int)} {ds : List bh} {memN j : Nat} {d : bh} {m : List Int} {p : Nat}
theorem qV{ws:af}(h:p+ws.length≤m.length):(dp m p ws).length=m.length:=by
 unfold dp;simp;omega
theorem oa:∀(rs:List (Int×aM)) (m:af),(fo names data p m rs).length=m.length
 |[],_=>rfl
 |r::rs,m=>(oa rs (m.set (p+r.1.toNat) (xz names data r.2))).trans sI
theorem pI{rs:List (Int×aM)}{r:Int×aM}{q:Nat}(h:rs[q]?=some r):fo names data p m (rs.take (q+1))=(fo names data p m (rs.take q)).set (p+r.1.toNat) (xz names data r.2):=by
 rw[iE,h];unfold fo;simp
theorem sZ(h:ds[j]?=some d):jc names data ds memN (j+1)=fo names data (ar ds j) (dp (jc names data ds memN j) (ar ds j) d.words) d.refs:=by
 show(match ds[j]? with
  |none=>jc names data ds memN j
  |some d=>fo names data (ar ds j) (dp (jc names data ds memN j) (ar ds j) d.words) d.refs)=_
 rw[h]
theorem rK:∀(j:Nat),j≤ds.length→ar ds ds.length≤memN→(jc names data ds memN j).length=memN
 |0,_,_=>by simp[jc]
 |j+1,hj,hm=>by obtain⟨d,hd⟩:=aY (l:=ds) (i:=j) oM;have ih:=rK j oM hm;rw[sZ hd,oa,qV,ih];have:=ir (ds:=ds) (j:=j+1) (i:=ds.length) oM;rw[fw hd]at this;omega
theorem F8{n:Int}{s:aM}(h:dt data s=some n):xz names data s=n:=by unfold xz;rw[h]
theorem zt{s:aM}(h:dt data s=none):xz names data s=(dt names s).getD 0:=by unfold xz;rw[h]
end
end Go.Mor
namespace Go.Mor
open Go.RowKit
def slE(P:Program)(c:Code)(N:FN)(env:Env)(k:Nat):Option (Option Nat×ao×Nat×Nat×Int×Nat):=match ay c k with
 |some (d,.slice t x (some y) none none,_,g)=>match bt c g env,gq d N,ev env x,ev env y,P.underlying t with
  |some true,true,some (.slice A n cap),some (.int _ i),some (.slice e)=>match(P.info? e).map (·.size)with
   |some size=>some (d,A,n,cap,i,size)
   |none=>none
  |_,_,_,_,_=>none
 |_=>none
theorem La{P:Program}{c:Code}{N:FN}{env:Env}{k:Nat}{d:Option Nat}{A:ao}{n cap size:Nat}{i:Int}(h:slE P c N env k=some (d,A,n,cap,i,size)):∃t x y ty g e kd,ay c k=some (d,.slice t x (some y) none none,ty,g)∧bt c g env=some true∧gq d N=true∧ev env x=some (vS A n cap)∧ev env y=some (.int kd i)∧P.underlying t=some (.slice e)∧(P.info? e).map (·.size)=some size:=by
 unfold slE at h;split at h
 ·rename_i h0;split at h
  ·rename_i h1 h2 h3 h4 h5;split at h
   ·rename_i h6;simp only[cP,cF]at h;obtain⟨rfl,rfl,rfl,rfl,rfl,rfl⟩:=h;exact⟨_,_,_,_,_,_,_,h0,h1,h2,h3,h4,h5,h6⟩
   ·cases h
  ·cases h
 ·cases h
abbrev QT(A:ao)(n cap m size:Nat):Value:=vS (if cap=m then A else A.map (·.add (m*size))) (n-m) (cap-m)
section
variable {P : Program} {c : Code} {K : Act → World → Prop} {Q : Exit → Act → World → Prop} {w w0 : World} {S : Nat → Prop} {L : List bx} {k : Nat} {N : FN} {env : Env}
theorem zsl{A:ao}{n cap size:Nat}(m:Nat)(hm:m≤n)(h:∀a,Fr a N (cO env (aQ c k) (QT A n cap m size))→aV P c K Q (k+1) a w)(hk:slE P c N env k=some (aQ c k,A,n,cap,(m:Int),size)):∀a,Fr a N env→aV P c K Q k a w:=fun a hF=>by
 obtain⟨t,x,y,ty,g,e,kd,h0,h1,h2,h3,h4,h5,h6⟩:=La hk;exact mH h0 hF h1 h2 rfl m h3 h4 rfl h5 h6 hm (fun a' _=>h a')
end
section
variable {P : Program} {c : Code} {Q : Exit → Act → World → Prop} {N : FN} {i : Nat} {env0 : Env} {wr : World} {sp : Nat → Spec}
theorem dSl(A:ao)(n cap size m:Nat)(hm:m≤n)(hv:sp i= .bb (QT A n cap m size):=by rfl)(hg:∀vs,lE c i (bW c i sp vs env0)=some true:=by intro _;kernel_rfl)(hk:∀us,slE P (one c i) N (bW c i sp us env0) 0=some (aQ c i,A,n,cap,(m:Int),size):=by intro _;kernel_rfl)(he:ay (one c i) 1=none:=by kernel_rfl):jx P c Q N env0 wr sp i:=by
 refine oU hg (fun w vs hK hp a hF=> ?_);obtain⟨t,x,y,ty,g,e,kd,h0,h1,h2,h3,h4,h5,h6⟩:=La (hk vs);exact mH h0 hF h1 h2 rfl m h3 h4 rfl h5 h6 hm (fun a' ea _=>bl he ⟨_,ea,Kp.refl w,by rw[hv];rfl⟩)
end
theorem D7{w:World}{A:ao}{v:Value}{vs:aO}{cap:Nat}(h:(bx.rd A (v::vs)).holds w)(hc:vs.length+1≤cap):(bx.rd (if cap=1 then A else A.map (·.add (1*1))) vs).holds w:=by
 intro j u hj;have FG:=(List.getElem?_eq_some_iff.1 hj).1;obtain⟨a,hA,pX⟩:=h (j+1) u (by simpa using hj);rw[aB oM,hA];refine⟨_,rfl,?_⟩;rw[lZ];rwa [show 1*1+j=j+1 by omega]
theorem RO.D7{S:Nat→Prop}{w:World}{A:ao}{v:Value}{vs:aO}{cap:Nat}(h:RO S w (.rd A (v::vs)))(hc:vs.length+1≤cap):RO S w (.rd (if cap=1 then A else A.map (·.add (1*1))) vs):=by
 refine⟨Mor.D7 h.1 hc,fun g hg=>h.2 g ?_⟩;obtain⟨dN,a,ha,hb⟩:=hg;refine⟨sI,?_⟩;split at ha
 ·exact⟨a,ha,hb⟩
 ·cases A with
  |none=>cases ha
  |some a0=>
   injection ha with ha;subst ha;exact⟨a0,rfl,by rw[←hb,block_add]⟩
end Go.Mor
namespace Go.Mor
open Go.RowKit
def shE(P:Program)(c:Code)(N:FN)(env:Env)(k:Nat):Option (Option Nat×Nat×Int×Nat):=match ay c k with
 |some (d,.slice t x none (some y) none,_,g)=>match bt c g env,gq d N,ev env x,ev env y,P.underlying t with
  |some true,true,some (.pointer (some ⟨b,0,none⟩)),some (.int _ i),some (.array n e)=>match(P.info? e).map (·.size)with
   |some _=>some (d,b,i,n)
   |none=>none
  |_,_,_,_,_=>none
 |_=>none
section
variable {P : Program} {c : Code} {K : Act → World → Prop} {Q : Exit → Act → World → Prop} {w : World} {k : Nat} {N : FN} {env : Env}
theorem zsh{b n:Nat}(m:Nat)(hm:m≤n)(h:∀a,Fr a N (cO env (aQ c k) (vS (some (aZ b)) m n))→aV P c K Q (k+1) a w)(hk:shE P c N env k=some (aQ c k,b,(m:Int),n)):∀a,Fr a N env→aV P c K Q k a w:=fun a hF=>by
 unfold shE at hk;split at hk
 ·rename_i h0;split at hk
  ·rename_i h1 h2 h3 h4 h5;split at hk
   ·rename_i sz h6;simp only[cP,cF]at hk;obtain⟨rfl,rfl,rfl,rfl⟩:=hk;refine eD h0 hF h1 h2 rfl (fun o ho=> ?_) (fun a' _=>h a') (v:=vS (some ⟨_,0,none⟩) m _);unfold execOp;rw[ho];obtain⟨inf,hi,_⟩:=jy.1 h6;simp[Instr.sliceAt,Instr.sliceBounds,Instr.sliceBound,asIntOf,eY h5,hF.ev h3,hF.ev h4,Instr.sureAddr,sizeOf,typeInfo,hi,Addr.add,hm]
   ·cases hk
  ·cases hk
 ·cases hk
end
end Go.Mor
namespace Go.Mor
theorem kO{id:Nat}{K:Act→World→Prop}{Q:Exit→Act→World→Prop}{a:Act}{w:World}{v:Value}(h:Q (MG v) a w):ZX id K Q (MG v) a w:=h
end Go.Mor
namespace Go.Mor
open Go.RowKit
def Qe0(P:Program)(c:Code)(N:FN)(env:Env)(k:Nat):Option (Option Nat×ao×Nat×Int):=match ay c k with
 |some (d,.slice t x none (some y) none,_,g)=>match bt c g env,gq d N,ev env x,ev env y,P.underlying t with
  |some true,true,some (.slice A _ cap),some (.int _ i),some (.slice e)=>match(P.info? e).map (·.size)with
   |some _=>some (d,A,cap,i)
   |none=>none
  |_,_,_,_,_=>none
 |_=>none
section
variable {P : Program} {c : Code} {K : Act → World → Prop} {Q : Exit → Act → World → Prop} {w w0 : World} {S : Nat → Prop} {L : List bx} {k : Nat} {N : FN} {env : Env}
theorem zhi{A:ao}{cap:Nat}{i:Int}(m:Nat)(hi:i=(m:Int))(hm:m≤cap)(h:∀a,Fr a N (cO env (aQ c k) (vS A m cap))→aV P c K Q (k+1) a w)(hk:Qe0 P c N env k=some (aQ c k,A,cap,i)):∀a,Fr a N env→aV P c K Q k a w:=fun a hF=>by
 unfold Qe0 at hk;split at hk
 ·rename_i h0;split at hk
  ·rename_i h1 h2 h3 h4 h5;split at hk
   ·rename_i sz h6;simp only[cP,cF]at hk;obtain⟨rfl,rfl,rfl,rfl⟩:=hk;exact kI h0 hF h1 h2 rfl m h3 h4 hi h5 h6 hm (fun a' _=>h a')
   ·cases hk
  ·cases hk
 ·cases hk
def cpE(P:Program)(c:Code)(N:FN)(env:Env)(k:Nat):Option (Option Nat×Nat×Nat×ao×Nat):=match ay c k with
 |some (d,.call {callee:= .builtin .copy,args:=args,argTypes:=ts},_,g)=>match args.toList,ts.toList,bt c g env,gq d N with
  |[x,y],[t,_],some true,true=>match ev env x,ev env y,P.underlying t with
   |some (.slice (some ⟨b,0,none⟩) dn _),some (.slice A m _),some (.slice e)=>match(P.info? e).map (·.size)with
    |some 1=>some (d,b,dn,A,m)
    |_=>none
   |_,_,_=>none
  |_,_,_,_=>none
 |_=>none
theorem zcp(hM:Mem S w0 w L)(i:Nat){e b n dn m rc:Nat}{A:ao}{xs cs:aO}(hL:L[i]?=some (.row e 1 (some (aZ b)) n rc cs))(kJ:(bx.rd A xs).holds w)(hn:m=xs.length)(qp:m≤dn)(hl:xs.length≤cs.length)(h1:∀v∈xs,v.oneCell'=true)(h:∀w',Mem S w0 w' (L.set i (.row e 1 (some (aZ b)) n rc (xs++cs.drop xs.length)))→∀a,Fr a N (cO env (aQ c k) (goInt xs.length))→aV P c K Q (k+1) a w')(hk:cpE P c N env k=some (aQ c k,b,dn,A,m)):∀a,Fr a N env→aV P c K Q k a w:=fun a hF=>by
 unfold cpE at hk;split at hk
 ·rename_i d0 args ts ty g h0;split at hk
  ·rename_i x y t u hx hy h1' h2';have u6:args=#[x,y]:=by apply iO;simpa using hx
   have HX:ts=#[t,u]:=by apply iO;simpa using hy
   subst u6 HX;split at hk
   ·rename_i b0 dn0 dc0 A0 m0 c0 e0 h3 h4 h5;split at hk
    ·rename_i h6;simp only[cP,cF]at hk;obtain⟨rfl,rfl,rfl,rfl,rfl⟩:=hk;exact IW h0 hF h1' h2' rfl h5 h6 h3 h4 hM i hL kJ hn qp hl h1 (fun w' AP a' _=>h w' AP a')
    ·cases hk
   ·cases hk
  ·cases hk
 ·cases hk
end
end Go.Mor
namespace Go.Mor
open Go.RowKit
def coE(P:Program)(c:Code)(N:FN)(env:Env)(k:Nat):Option (Option Nat×ao×Nat×ao×Nat):=match ay c k with
 |some (d,.call {callee:= .builtin .copy,args:=args,argTypes:=ts},_,g)=>match args.toList,ts.toList,bt c g env,gq d N with
  |[x,y],[t,_],some true,true=>match ev env x,ev env y,P.underlying t with
   |some (.slice D dn _),some (.slice A m _),some (.slice e)=>match(P.info? e).map (·.size)with
    |some 1=>some (d,D,dn,A,m)
    |_=>none
   |_,_,_=>none
  |_,_,_,_=>none
 |_=>none
section
variable {P : Program} {c : Code} {K : Act → World → Prop} {Q : Exit → Act → World → Prop} {w w0 : World} {S : Nat → Prop} {L : List bx} {k k' : Nat} {N : FN} {env : Env}
theorem IZ{a:Act}{d:Option Nat}{ty:Nat}{g:Option (Nat×Bool)}{t u:TypeId}{x y:Operand}(hk:ay c k=some (d,.call {callee:= .builtin .copy,args:=#[x,y],argTypes:=#[t,u]},ty,g))(hF:Fr a N env)(hg:bt c g env=some true)(hd:gq d N=true){e e' b n dn dc m cap rc:Nat}(o:Nat){D A:ao}{xs cs:aO}(ht:P.underlying t=some (.slice e))(hs:(P.info? e).map (·.size)=some 1)(hx:ev env x=some (vS D dn dc))(hy:ev env y=some (vS A m cap))(hD:xs=[]∨D=some (ah b o))(hM:Mem S w0 w L)(i:Nat)(hL:L[i]?=some (.row e' 1 (some (aZ b)) n rc cs))(kJ:(bx.rd A xs).holds w)(hn:m=xs.length)(qp:m≤dn)(hl:o+xs.length≤cs.length)(h1:∀v∈xs,v.oneCell'=true)(h:∀w',Mem S w0 w' (L.set i (.row e' 1 (some (aZ b)) n rc (cs.take o++xs++cs.drop (o+xs.length))))→∀a',a'=a.put d (goInt xs.length)→Fr a' N (cO env d (goInt xs.length))→aV P c K Q (k+1) a' w'):aV P c K Q k a w:=by
 have hb:=hM.get i hL;have Iu:Nat.min m dn=m:=tS qp;have Dw:(Builtin.copy_ #[t,u] ty #[.slice D dn dc,.slice A m cap]).run P w= .ok (goInt xs.length) (w.setCells b o xs):=by
  cases xs with
  |nil=>
   have:m=0:=hn;subst this;exact run_copy_none w t u ty e D A dn dc 0 cap ht hs sI
  |cons v vs=>
   obtain rfl:=hD.resolve_left sI;obtain⟨ad,hA,_⟩:=kJ 0 v rfl;subst hA;refine run_copy_cells w t u ty e b o dn dc ad m cap (v::vs) ht hs (by rw[Iu,hn]) (fun j u hj=> ?_) (fun j hj=> ?_) (fun j hj=> ?_) h1
   ·obtain⟨a',lM,hc⟩:=kJ j u hj;injection lM with lM;subst lM;exact hc
   ·obtain⟨a',lM,hc⟩:=aF hb (o+j) (cs[o+j]'oM) (by rw[List.getElem?_eq_getElem]);injection lM with lM;subst lM;rw[nS]at hc;rw[hc];rfl
   ·have h2:=mX hb (o+j);rw[nS]at h2;exact h2
 have hm:=pC xs o cs w hb hl;have fv:=hM.mod i hL hm;refine fH hk hF hg (v:=goInt xs.length) (w':=w.setCells b o xs) (fun o ho Mw=> ?_) (h _ (by simpa using fv) _ rfl (hF.put hd _));unfold execOp;rw[ho,Mw];simp only[resolve,invoke,builtin,cT,jO,dz,qB,ga,kc,hF.ev hx,hF.ev hy,Dw]
theorem zco(hM:Mem S w0 w L)(i o:Nat){e b n dn m rc:Nat}{D A:ao}{xs cs:aO}(hL:L[i]?=some (.row e 1 (some (aZ b)) n rc cs))(hD:xs=[]∨D=some (ah b o))(kJ:(bx.rd A xs).holds w)(hn:m=xs.length)(qp:m≤dn)(hl:o+xs.length≤cs.length)(h1:∀v∈xs,v.oneCell'=true)(h:∀w',Mem S w0 w' (L.set i (.row e 1 (some (aZ b)) n rc (cs.take o++xs++cs.drop (o+xs.length))))→∀a,Fr a N (cO env (aQ c k) (goInt xs.length))→aV P c K Q (k+1) a w')(hk:coE P c N env k=some (aQ c k,D,dn,A,m)):∀a,Fr a N env→aV P c K Q k a w:=fun a hF=>by
 unfold coE at hk;split at hk
 ·rename_i d0 args ts ty g h0;split at hk
  ·rename_i x y t u hx hy h1' h2';have u6:args=#[x,y]:=by apply iO;simpa using hx
   have HX:ts=#[t,u]:=by apply iO;simpa using hy
   subst u6 HX;split at hk
   ·rename_i D0 dn0 dc0 A0 m0 c0 e0 h3 h4 h5;split at hk
    ·rename_i h6;simp only[cP,cF]at hk;obtain⟨rfl,rfl,rfl,rfl,rfl⟩:=hk;exact IZ h0 hF h1' h2' o h5 h6 h3 h4 hD hM i hL kJ hn qp hl h1 (fun w' AP a' _=>h w' AP a')
    ·cases hk
   ·cases hk
  ·cases hk
 ·cases hk
theorem Pp{kt e t:TypeId}{kd:TypeDesc}{α:Type}[BEq α]{inj:α→Value}(KL:tU P kt kd inj)(s:α)(z:Value){b:Nat}{l:List (α×Value)}(hm:sv w b (dx inj l))(ok:Bool){v:Value}(e':Vk ok (dt l s) z=v)(h:∀a,Fr a N (cO env (aQ c k) v)→aV P c K Q (k+1) a w)(ht:P.underlying t=some (.map kt e))(hz:(P.info? e).map (·.zero)=some (some z):=by kernel_rfl)(hk:lkE c N env k=some (aQ c k,t,b,inj s,ok):=by kernel_rfl):∀a,Fr a N env→aV P c K Q k a w:=by
 subst e';exact zlk KL s z hm ok h ht hz hk
theorem zsv{A:ao}{n cap size:Nat}(m:Nat)(hm:m≤n){v:Value}(e:QT A n cap m size=v)(h:∀a,Fr a N (cO env (aQ c k) v)→aV P c K Q (k+1) a w)(hk:slE P c N env k=some (aQ c k,A,n,cap,(m:Int),size)):∀a,Fr a N env→aV P c K Q k a w:=by
 subst e;exact zsl m hm h hk
end
theorem Lb(g p k:Nat):((ah g p):Addr).add (k*1)=(aZ g).add (p+k):=by
 rw[nS,eE];unfold Addr.add;split<;>simp_all
theorem s3{α:Type}{f:α→aO}{size:Nat}(hf:∀x,(f x).length=size):∀(l:List α) (i:Nat) (x:α),l[i]?=some x→∀(j:Nat) (v:Value),(f x)[j]?=some v→(l.flatMap f)[i*size+j]?=some v
 |[],i,x,h,_,_,_=>by simp at h
 |y::l,0,x,h,j,v,hv=>by simp at h;subst h;rw[yf,Nat.zero_mul,Nat.zero_add,List.getElem?_append_left (List.getElem?_eq_some_iff.1 hv).1];exact hv
 |y::l,i+1,x,h,j,v,hv=>by
  have h':l[i]?=some x:=by simpa using h
  have ih:=s3 hf l i x h' j v hv;have e:(i+1)*size+j-(f y).length=i*size+j:=by rw[hf,Nat.add_mul];omega
  rw[yf,List.getElem?_append_right (by rw[hf,Nat.add_mul];omega),e];exact ih
end Go.Mor
namespace Go.Mor
open Go.RowKit
def bh.parts(d:bh):List bx:=[.rd d.wA (ints d.words),.jY d.rA 2 (d.refs.map cD)]
def bx.cp(A:ao)(ds:List bh):bx:= .all (.jY A 4 (ds.map bh.cells)::ds.flatMap bh.parts)
section
variable {S : Nat → Prop} {w : World} {A : Option Addr} {ds : List bh} {d : bh}
theorem RO.oy(h:RO S w (.cp A ds)):RO S w (.jY A 4 (ds.map bh.cells)):=h.sub (cJ ..)
theorem RO.QU(h:RO S w (.cp A ds))(hd:d∈ds):RO S w (.rd d.wA (ints d.words)):=h.sub (bT _ (jl.2 ⟨d,hd,by simp[bh.parts]⟩))
theorem RO.F9(h:RO S w (.cp A ds))(hd:d∈ds):RO S w (.jY d.rA 2 (d.refs.map cD)):=h.sub (bT _ (jl.2 ⟨d,hd,by simp[bh.parts]⟩))
end
structure bh.WF(d:bh):Prop where
 name:br d.nm
 len:d.words.length≤16384
 WD:d.refs.length≤16384
 refs:∀r,r∈d.refs→0≤r.1∧r.1<d.words.length
abbrev r8(mem:af)(n:Int):cV:=⟨mem,n,0,[],0,0⟩
abbrev vC(C:RC):Nat→Prop:=(bx.pk (dV C (r8 (List.replicate C.E.memN 0) 0) none 0++[.map C.dB (dx .string (vK []))])).fp
theorem D8(l:List (aM×Int))(s:aM):Vk false (dt (vK l) s) (vI 0)=vI ((dt l s).getD 0):=by
 rw[iT];cases dt l s<;>rfl
theorem fZ{α:Type}{f:α→aO}{w:World}{e size n c:Nat}{A:ao}{l:List α}(hf:∀x,(f x).length=size)(h0:0<size)(h:(bx.row e size A n c (l.flatMap f)).holds w):(bx.jY A size (l.map f)).holds w:=by
 have hr:=aF h;intro i cs hi;rw[List.getElem?_map]at hi;cases hx:l[i]? with
 |none=>rw[hx]at hi;cases hi
 |some x=>
  rw[hx]at hi;injection hi with hi;subst hi;have dN:0<(f x).length:=by rw[hf];exact h0
  obtain⟨a,hA,_⟩:=hr (i*size+0) (f x)[0] (s3 hf l i x hx 0 _ (by rw[List.getElem?_eq_getElem dN]));refine⟨a,hA,fun j v hv=> ?_⟩;obtain⟨a',hA',hc⟩:=hr (i*size+j) v (s3 hf l i x hx j v hv);rw[hA]at hA';injection hA' with hA';subst hA';rw[add_add];exact hc
theorem I0(m:af)(p:Nat)(ws:af):(ints m).take p++ints ws++(ints m).drop (p+(ints ws).length)=ints (dp m p ws):=by
 unfold dp;rw[dq];simp[ints,List.map_take,List.map_drop]
theorem MQ{m n g:Nat}{ws:af}(h:m+ws.length≤n):ws=[]∨(if n=m then(some (aZ g):ao)else(some (aZ g):ao).map (·.add (m*1)))=some (ah g m):=by
 by_cases e:n=m
 ·exact .inl (qy oM)
 ·right;rw[aB e,eE];show some ((aZ g).add m)=_;rw[nS]
end Go.Mor
namespace Go.Mor
open Go.RowKit
structure cQ where
 pkg:aM
 fA:ao
 fc:Nat
 fns:List tw
 dA:ao
 dc:Nat
 cp:List bh
def cQ.cells(m:cQ):aO:=[.string m.pkg,.slice m.fA m.fns.length m.fc,.slice m.dA m.cp.length m.dc]
abbrev DC(d:bh):aO:=[.string d.nm,.bool d.wk,.slice d.wA d.words.length d.wc,.slice d.rA d.refs.length d.rc]
def flD(ms:List cQ):List bh:=ms.flatMap (·.cp)
def nwD(ms:List cQ):NW:=(flD ms).map fun d=>(d.nm,d.wk)
section
variable {α β : Type} {g : α → List β} {ms : List α} {j k : Nat} {m : α} {x : β}
def gB(g:α→List β)(ms:List α)(j:Nat):Nat:=((ms.take j).flatMap g).length
theorem ng(h:ms[j]?=some m):gB g ms (j+1)=gB g ms j+(g m).length:=by
 unfold gB;rw[iE,h];simp
theorem Lc(h:ms.length≤j):gB g ms j=(ms.flatMap g).length:=by unfold gB;rw[kh h]
theorem iM(h:ms[j]?=some m)(hx:(g m)[k]?=some x):(ms.flatMap g)[gB g ms j+k]?=some x:=by
 obtain⟨fM,he⟩:=List.getElem?_eq_some_iff.1 h;have e:ms=ms.take j++m::ms.drop (j+1):=by rw[←he,←sm fM,pH]
 have hk:=(List.getElem?_eq_some_iff.1 hx).1;unfold gB;generalize hp:(ms.take j).flatMap g=p;rw[e,nZ,hp,yf,List.getElem?_append_right oM,show p.length+k-p.length=k by omega,List.getElem?_append_left hk];exact hx
theorem QV(h:ms[j]?=some m):gB g ms j+(g m).length≤(ms.flatMap g).length:=by
 rcases Dq (g m).length with h0|h0
 ·rw[h0];have:(ms.take j).flatMap g++(ms.drop j).flatMap g=ms.flatMap g:=by rw[←nZ,pH]
  have h2:=bE List.length this;rw[fz]at h2;unfold gB;omega
 ·obtain⟨x,hx⟩:=aY (l:=g m) (i:=(g m).length-1) oM;have:=(List.getElem?_eq_some_iff.1 (iM h hx)).1;omega
end
abbrev Ev:=aM×Bool
theorem QbE{a b:aM}(h:a.data.toList=b.data.toList):a=b:=by
 cases a;cases b;simp only at h;congr 1;exact iO h
def csD(ms:List cQ):List bh:=aH (nwD ms) (flD ms) (flD ms).length
def jd(cs:List tw)(j:Nat):List (aM×Int):=(cs.take j).zipIdx.map (fun p=>(p.1.nm,((p.2+1:Nat):Int)))
section
variable {cs : List tw} {j : Nat} {f : tw}
theorem Qe1(l:List (aM×Int))(s:aM)(n:Int):ft (vK l) s (vI n)=vK (ft l s n):=by
 induction l with
 |nil=>rfl
 |cons p r ih=>
  obtain⟨k,u⟩:=p;show(match s==k with|true=>(s,vI n)::vK r|false=>(k,vI u)::ft (vK r) s (vI n))=vK (match s==k with|true=>(s,n)::r|false=>(k,u)::ft r s n);cases s==k
  ·rw[ih];rfl
  ·rfl
end
end Go.Mor
namespace Go.Mor
open Go.RowKit
def cQ.parts(m:cQ):List bx:= .jY m.fA 5 (m.fns.map tw.cells):: .jY m.dA 4 (m.cp.map bh.cells)::(m.fns.flatMap tw.parts++m.cp.flatMap bh.parts)
def bx.I1(A:ao)(ms:List cQ):bx:= .all (.jY A 3 (ms.map cQ.cells)::ms.flatMap cQ.parts)
section
variable {S : Nat → Prop} {w : World} {A : Option Addr} {ms : List cQ} {m : cQ} {f : tw} {d : bh}
theorem RO.qW(h:RO S w (.I1 A ms)):RO S w (.jY A 3 (ms.map cQ.cells)):=h.sub (cJ ..)
theorem RO.Qe2(h:RO S w (.I1 A ms))(hm:m∈ms){r:bx}(hr:r∈m.parts):RO S w r:=h.sub (bT _ (jl.2 ⟨m,hm,hr⟩))
theorem RO.wH(h:RO S w (.I1 A ms))(hm:m∈ms):RO S w (.jY m.dA 4 (m.cp.map bh.cells)):=h.Qe2 hm (bT _ (cJ ..))
end
def WE(names data:List (aM×Int))(memN:Nat)(cs:List bh):af:=if ar cs cs.length≤memN then jc names data cs memN cs.length else List.replicate memN 0
end Go.Mor
namespace Go.Mor
open Go.RowKit
mutual
def exN:Po→Nat
 |⟨_,_,_,_,_,kids⟩=>1+QbF kids
def QbF:List Po→Nat
 |[]=>0
 |e::r=>exN e+QbF r
end
mutual
def stN:K5→Nat
 |⟨_,_,_,_,exprs,_,_,body,_,_,Wt⟩=>1+QbF exprs+WG body+WG Wt
def WG:List K5→Nat
 |[]=>0
 |x::r=>stN x+WG r
end
end Go.Mor
namespace Go.Mor
open Go.RowKit
def esQ(lo op n:Int)(sz k:Nat):Prop:=(op=1∧k=0∧sz=0)∨(op=2∧k=0∧sz=0∧0≤n∧n<lo)∨(op=3∧k=2∧sz=0∧1≤n∧n≤16)∨(op=4∧k=1∧sz=0∧1≤n∧n≤3)∨(op=5∧k=1∧sz=0∧0≤n∧n≤2147483647)∨(op=6∧k≤16∧1≤sz∧sz≤60∧n=0)∨(op=7∧1≤k∧k≤17∧sz=0∧n=0)∨(op=8∧k=0∧1≤sz∧sz≤60∧n=0)∨(op=9∧k=0∧1≤sz∧sz≤60∧n=0)∨(op=10∧k=1∧sz=0∧n=0)∨(op=11∧k=0∧sz=0∧n=0)∨(op=12∧k=3∧sz=0∧n=0)∨(op=13∧k=2∧sz=0∧1≤n∧n≤999)
instance (lo op n : Int) (sz k : Nat) : Decidable (esQ lo op n sz k) := by unfold esQ; infer_instance
def sfQ(lo lp op n:Int)(ke kb kl:Nat):Prop:=(op=1∧ke=1∧kb=0∧kl=0∧0≤n∧n<lo)∨(op=2∧ke=2∧kb=0∧kl=0∧0≤n∧n≤2147483647)∨(op=3∧ke=1∧kb=0∧kl=0∧n=0)∨(op=4∧ke=1∧kb=0∧kl=0∧n=0)∨(op=5∧ke=1∧n=0)∨(op=6∧ke=0∧kl=0∧n=0)∨(op=7∧ke=0∧kb=0∧kl=0∧0≤n∧n<lp)∨(op=8∧ke=0∧kb=0∧kl=0∧0≤n∧n<lp)∨(op=9∧(ke=0∨ke=1)∧kb=0∧kl=0∧n=0)∨(op=10∧ke=0∧kb=0∧kl=0∧1≤n∧n≤999)
instance (lo lp op n : Int) (ke kb kl : Nat) : Decidable (sfQ lo lp op n ke kb kl) := by unfold sfQ; infer_instance
mutual
def exV(lo:Int):Int→Po→Bool
 |d,⟨op,n,nm,_,_,kids⟩=>decide (d≤100∧esQ lo op n nm.size kids.length)&&QbG lo (d+1) kids
def QbG(lo:Int):Int→List Po→Bool
 |_,[]=>true
 |d,e::r=>exV lo d e&&QbG lo d r
end
abbrev inner(op lp:Int):Int:=if op=6 then lp+1 else lp
mutual
def stV(lo:Int):Int→Int→K5→Bool
 |lp,d,⟨op,n,_,_,exprs,_,_,body,_,_,Wt⟩=>decide (d≤100∧sfQ lo lp op n exprs.length body.length Wt.length)&&(QbG lo (d+1) exprs&&(WH lo (inner op lp) (d+1) body&&WH lo (inner op lp) (d+1) Wt))
def WH(lo:Int):Int→Int→List K5→Bool
 |_,_,[]=>true
 |lp,d,x::r=>stV lo lp d x&&WH lo lp d r
end
def fnQ(f:tw):Prop:=br f.nm∧(0≤f.pa∧f.pa≤16)∧(f.pa≤f.lo∧f.lo≤2000)
instance (f : tw) : Decidable (fnQ f) := by unfold fnQ; infer_instance
def fnV(f:tw):Bool:=decide (fnQ f)&&WH f.lo 0 0 f.body
def iU{α:Type}[BEq α](ks:List α):List (α×Int):=ks.foldl (fun l k=>ft l k ((dt l k).getD 0+1)) []
theorem vD{α:Type}[BEq α](ks:List α)(k:α):iU (ks++[k])=ft (iU ks) k ((dt (iU ks) k).getD 0+1):=by unfold iU;rw[List.foldl_append];rfl
theorem Ga{α:Type}[BEq α][LawfulBEq α](a:α):∀ks:List α,(dt (iU ks) a).getD 0=(ks.count a:Int):=by
 intro ks;have key:∀n (ks:List α),ks.length=n→(dt (iU ks) a).getD 0=(ks.count a:Int):=by
  intro n;induction n with
  |zero=>intro ks h;rw[qy h];rfl
  |succ n ih=>
   intro ks h;obtain⟨r,k,rfl⟩:∃r k,ks=r++[k]:=⟨ks.dropLast,ks.getLast (by intro h0;rw[h0]at h;cases h),(List.dropLast_concat_getLast _).symm⟩;have hr:=ih r (by simpa using h);rw[vD,yd,List.count_append];by_cases e:a=k
   ·subst e;rw[BEq.rfl];simp[hr]
   ·rw[mJ.2 e];have:[k].count a=0:=by simp[List.count_cons];exact fun h=>e h.symm
    simp[this,hr]
 exact key _ ks rfl
def ju(d:bh):Prop:=(∀(j:Nat) (r:Int×aM),d.refs[j]?=some r→br r.2∧(0≤r.1∧r.1<(d.words.length:Int))∧r.1∉(d.refs.take j).map (·.1))∧br d.nm
noncomputable instance (d : bh) : Decidable (ju d) := Classical.propDecidable _
end Go.Mor
