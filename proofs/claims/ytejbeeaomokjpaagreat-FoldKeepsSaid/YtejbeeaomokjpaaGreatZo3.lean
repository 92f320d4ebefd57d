/-
  Texts of the proof, part 3.
-/
import Derived.Test.YtejbeeaomokjpaaGreatZo2
import Derived.Maps.AppendAt
set_option maxRecDepth 10000
open List Go.RowKit
open List renaming length -> ae
namespace Go.Mor
def gp(Φ:Value->World->Prop)(e:Ending)(w:World):Prop:=∃v,e= .returned v/\Φ v w
def C1(P:Program)(t:TypeId):Bool:=match P.underlying t with
 |some (.struct _)=>false
 |some (.array _ _)=>false
 |some _=>match P.info? t with
  |some i=>Nat.beq i.size 1
  |none=>false
 |none=>false
def y5(P:Program)(t:TypeId):Option Nat:=match P.underlying t with
 |some (.struct _)=>(P.info? t).map (·.size)
 |some (.array _ _)=>(P.info? t).map (·.size)
 |_=>none
theorem Sf{P:Program}{t:TypeId}(h:C1 P t=true)(w:World):(isAgg t).run P w= .ok false w:=by
 unfold C1 at h;split at h
 ·cases h
 ·cases h
 ·rename_i d h1 h2 u;simp only[isAgg,gG,iM u,ig];cases d<;>first|rfl|(exact absurd rfl (h1 _))|(exact absurd rfl (h2 _ _))
 ·cases h
theorem Kh{P:Program}{t:TypeId}(h:C1 P t=true)(w:World):(sizeOf t).run P w= .ok 1 w:=by
 unfold C1 at h;split at h
 ·cases h
 ·cases h
 ·split at h
  ·rename_i i hi;have:i.size=1:=ko h;simp[sizeOf,typeInfo,hi,this]
  ·cases h
 ·cases h
theorem oT{P:Program}{t:TypeId}{n:Nat}(h:y5 P t=some n)(w:World):(isAgg t).run P w= .ok true w/\(sizeOf t).run P w= .ok n w:=by
 unfold y5 at h;split at h
 ·rename_i u;cases hi:P.info? t with
  |none=>simp[hi]at h
  |some i=>simp[hi]at h;subst h;simp[isAgg,iM u,sizeOf,typeInfo,hi]
 ·rename_i u;cases hi:P.info? t with
  |none=>simp[hi]at h
  |some i=>simp[hi]at h;subst h;simp[isAgg,iM u,sizeOf,typeInfo,hi]
 ·cases h
theorem uK{v:Value}(h:v.oneCell'=true):v.cells=#[v]:=by cases v<;>simp[Value.oneCell']at h<;>rfl
section
variable{P:Program}{c:Code}{K:Act -> World -> Prop}{Q:Exit -> Act -> World -> Prop}{a:Act}{w w0:World}{S:Nat -> Prop}{L:List bD}{k k':Nat}{N:FN}{env:Env}
variable{d:Option Nat}{ty:Nat}{g:Option (Nat × Bool)}
theorem gq{op:Op}(hk:aB c k=some (d,op,ty,g))(hF:Fr a N env)(hg:bU c g env=some true)(hd:jW d N=true)(lI:k+1=k'){v:Value}(hr:∀o:Oper,o.op=op->(execOp a.eval o).run P w= .ok (.value v) w)(h:∀a',a'=a.put d v->Fr a' N (eJ env d v)->bL P c K Q k' a' w):bL P c K Q k a w:=by
 subst lI;exact lP hk hF hg (λo ho _=>hr o ho) (h _ rfl (hF.put hd v))
theorem ij{op:Op}(hk:aB c k=some (d,op,ty,g))(hF:Fr a N env)(hg:bU c g env=some true)(hd:jW d N=true)(lI:k+1=k'){v:Value}(hv:tz P env op=some v)(h:∀a',a'=a.put d v->Fr a' N (eJ env d v)->bL P c K Q k' a' w):bL P c K Q k a w:=gq hk hF hg hd lI (λ_ ho=>run_pure hF hv ho w) h
theorem vW{t:TypeId}{x:Operand}(hk:aB c k=some (d,.load t x,ty,g))(hF:Fr a N env)(hg:bU c g env=some true)(hd:jW d N=true)(lI:k+1=k'){ad:Addr}{v:Value}(hx:ev env x=some (vP ad))(ht:C1 P t=true)(hc:w.cell? ad=some v)(h:∀a',a'=a.put d v->Fr a' N (eJ env d v)->bL P c K Q k' a' w):bL P c K Q k a w:=by
 refine gq hk hF hg hd lI (λo ho=> ?_) h;unfold execOp;rw[ho];simp[Instr.loadAt,Instr.sureAddr,hF.ev hx,loadVar,Sf ht,hc]
theorem jy{t:TypeId}{x:Operand}(hk:aB c k=some (d,.load t x,ty,g))(hF:Fr a N env)(hg:bU c g env=some true)(hd:jW d N=true)(lI:k+1=k'){ad:Addr}{vs:bh}(hx:ev env x=some (vP ad))(ht:y5 P t=some (ae vs))(hc:∀j v,vs[j]?=some v->w.cell? (ad.add j)=some v)(h:∀a',a'=a.put d (.agg vs.toArray)->Fr a' N (eJ env d (.agg vs.toArray))->bL P c K Q k' a' w):bL P c K Q k a w:=by
 refine gq hk hF hg hd lI (λo ho=> ?_) h;unfold execOp;rw[ho];obtain⟨h1,h2⟩:=oT ht w;simp[Instr.loadAt,Instr.sureAddr,hF.ev hx,loadVar,h1,h2,HO (P:=P) w ad vs hc]
theorem j5{op:BinOp}{t t':TypeId}{x y:Operand}(hk:aB c k=some (d,.binOp op t x y t',ty,g))(hF:Fr a N env)(hg:bU c g env=some true)(hd:jW d N=true)(lI:k+1=k'){i j z:Int}(hx:ev env x=some (vI i))(hy:ev env y=some (vI j))(hz:arI op i j=some z)(h1: -9223372036854775808<=z)(h2:z<=9223372036854775807)(h:∀a',a'=a.put d (vI z)->Fr a' N (eJ env d (vI z))->bL P c K Q k' a' w):bL P c K Q k a w:=by
 refine gq hk hF hg hd lI (λo ho=> ?_) h;unfold execOp;rw[ho];have hw:IntKind.i64.wrap z=z:=HQ z ⟨h1,h2⟩;cases op<;>simp only[arI]at hz<;>first
  |(cases hz;done)
  |(injection hz with hz;subst hz;simp[hF.ev hx,hF.ev hy,eqGuard,binOp,Op.intArith,hw])
theorem Ki{op:BinOp}{t t':TypeId}{x y:Operand}(hk:aB c k=some (d,.binOp op t x y t',ty,g))(hF:Fr a N env)(hg:bU c g env=some true)(hd:jW d N=true)(lI:k+1=k'){kd:IntKind}{i j:Int}{b:Bool}(hx:ev env x=some (.int kd i))(hy:ev env y=some (.int kd j))(hb:V1 op i j=some b)(h:∀B,B=b->∀a',a'=a.put d (vB B)->Fr a' N (eJ env d (vB B))->bL P c K Q k' a' w):bL P c K Q k a w:=by
 refine gq hk hF hg hd lI (λo ho=> ?_) (h b rfl);refine run_pure hF (op:= .binOp op t x y t') ?_ ho w;simp[tz,hx,hy,hb]
theorem C2{t:TypeId}{x:Operand}(hk:aB c k=some (d,.box t x,ty,g))(hF:Fr a N env)(hg:bU c g env=some true)(hd:jW d N=true)(lI:k+1=k'){v:Value}{cs:bh}(hx:ev env x=some v)(rP:v.cells=cs.toArray)(hM:Mem S w0 w L)(h:∀b w',w0.heap.size<=b->w.heap.size<=b->Mem S w0 w' (L++[.aM b t cs])->Mem bI w w' [.aM b t cs]->∀a',a'=a.put d (vP (aZ b))->Fr a' N (eJ env d (vP (aZ b)))->bL P c K Q k' a' w'):bL P c K Q k a w:=by
 subst lI;refine lP hk hF hg (v:= .pointer (some (aZ w.heap.size))) (w':=w.alloc (.cells cs.toArray t)) (λo ho _=> ?_) (h w.heap.size (w.alloc (.cells cs.toArray t)) hM.size (cH _) (hM.call (Mem.alloc w t cs)) (Mem.alloc w t cs) _ rfl (hF.put hd _));unfold execOp;rw[ho];simp[Instr.box,hF.ev hx,newVar,newRow,rP]
theorem C3{t:TypeId}(hk:aB c k=some (d,.alloc t,ty,g))(hF:Fr a N env)(hg:bU c g env=some true)(hd:jW d N=true)(lI:k+1=k'){cs:bh}(hz:(P.info? t).map (λi=>i.zero.map (λz=>z.cells.toList))=some (some cs))(hM:Mem S w0 w L)(h:∀b w',w0.heap.size<=b->w.heap.size<=b->Mem S w0 w' (L++[.aM b t cs])->Mem bI w w' [.aM b t cs]->∀a',a'=a.put d (vP (aZ b))->Fr a' N (eJ env d (vP (aZ b)))->bL P c K Q k' a' w'):bL P c K Q k a w:=by
 subst lI;refine lP hk hF hg (v:= .pointer (some (aZ w.heap.size))) (w':=w.alloc (.cells cs.toArray t)) (λo ho _=> ?_) (h w.heap.size (w.alloc (.cells cs.toArray t)) hM.size (cH _) (hM.call (Mem.alloc w t cs)) (Mem.alloc w t cs) _ rfl (hF.put hd _));unfold execOp;rw[ho];cases hi:P.info? t with
 |none=>simp[hi]at hz
 |some i=>
  cases NB:i.zero with
  |none=>simp[hi,NB]at hz
  |some z=>
   simp[hi,NB]at hz;subst hz;simp[Instr.alloc,zeroValue,typeInfo,hi,NB,newVar,newRow]
theorem iO{t:TypeId}{x y:Operand}(hk:aB c k=some (d,.store t x y,ty,g))(hF:Fr a N env)(hg:bU c g env=some true)(hd:jW d N=true)(lI:k+1=k'){b off t0:Nat}{v:Value}{cs:bh}(hx:ev env x=some (vP (aq b off)))(hy:ev env y=some v)(ht:C1 P t=true)(hv:v.oneCell'=true)(hM:Mem S w0 w L)(i:Nat)(hi:L[i]?=some (.aM b t0 cs))(ho:off<ae cs)(h:∀w',Mem S w0 w' (L.set i (.aM b t0 (cs.set off v)))->Mem (bD.aM b t0 cs).fp w w' [.aM b t0 (cs.set off v)]->∀a',a'=a.put d undef->Fr a' N (eJ env d undef)->bL P c K Q k' a' w'):bL P c K Q k a w:=by
 subst lI;have hb:=hM.get i hi;have hm:=Mem.Qm (i:=off) hb v;refine qW hk hF hg (w':=w.setCell (aq b off) v) (λo ho'=> ?_) (h _ (by simpa using hM.mod i hi hm) hm _ rfl (hF.put hd _));have sQ:w.cell? (aq b off)=some cs[off]:=af hb (by simp[ho]);unfold execOp;rw[ho'];have rS:(store (aq b off) v).run P w= .ok () (w.setCell (aq b off) v):=by rw[run_store P w _ v .plain hv,sQ];simp[C0 hb]
 simp[Instr.storeAt,Instr.sureAddr,hF.ev hx,hF.ev hy,storeVar,uK hv,Kh ht,storeCells,Addr.add,rS]
theorem gh{t:TypeId}{x y:Operand}(hk:aB c k=some (d,.store t x y,ty,g))(hF:Fr a N env)(hg:bU c g env=some true)(hd:jW d N=true)(lI:k+1=k'){ad:Addr}{j e size n cap:Nat}{v:Value}{xs:bh}{ad':Addr}(hx:ev env x=some (vP ad'))(had:ad'=ad.add j)(hy:ev env y=some v)(ht:C1 P t=true)(hv:v.oneCell'=true)(hM:Mem S w0 w L)(i:Nat)(hi:L[i]?=some (.row e size (some ad) n cap xs))(hj:j<n*size)(h:∀w',Mem S w0 w' (L.set i (.row e size (some ad) n cap (xs.set j v)))->Mem (bD.row e size (some ad) n cap xs).fp w w' [.row e size (some ad) n cap (xs.set j v)]->∀a',a'=a.put d undef->Fr a' N (eJ env d undef)->bL P c K Q k' a' w'):bL P c K Q k a w:=by
 subst lI;subst had;have hb:=hM.get i hi;have hm:=Mem.HM (j:=j) hb v;refine qW hk hF hg (w':=w.setCell (ad.add j) v) (λo ho'=> ?_) (h _ (by simpa using hM.mod i hi hm) hm _ rfl (hF.put hd _));have hl:j<ae xs:=by rw[HN hb];exact hj
 obtain⟨a',pS,sQ⟩:=aF hb j xs[j] (by simp[hl]);injection pS with pS;subst pS;unfold execOp;rw[ho'];have rS:(store (ad.add j) v).run P w= .ok () (w.setCell (ad.add j) v):=by rw[run_store P w _ v .plain hv,sQ];simp[rQ hb]
 have h0:(ad.add j).add 0=ad.add j:=by simp[Addr.add]
 simp[Instr.storeAt,Instr.sureAddr,hF.ev hx,hF.ev hy,storeVar,uK hv,Kh ht,storeCells,h0,rS]
theorem o5{b t0:Nat}:∀(vs:bh) (i:Nat) {cs:bh} {w:World},(∀v∈vs,v.oneCell'=true)->(bD.aM b t0 cs).holds w->i+ae vs<=ae cs->∃w',(storeCells (aZ b) vs i).run P w= .ok () w'/\Mem (bD.aM b t0 cs).fp w w' [.aM b t0 (cs.take i++vs++cs.drop (i+ae vs))]
 |[],i,cs,w,_,hb,_=>⟨w,by simp[storeCells],by simpa using Mem.vv hb⟩
 |v::vs,i,cs,w,h1,hb,hl=>by
  simp only[fh]at hl;have hm:=Mem.Qm (i:=i) hb v;have HR:=hm.get 0 rfl;obtain⟨w',hr,F8⟩:=o5 vs (i+1) (λu hu=>h1 u (cr _ hu)) HR (by simp;omega);refine⟨w',?_,?_⟩
  ·have e:(aZ b).add i=(aq b i):=by unfold Addr.add;split<;>simp_all
   have sQ:w.cell? (aq b i)=some (cs[i]'oM):=af hb sI;have rS:(store (aq b i) v).run P w= .ok () (w.setCell (aq b i) v):=by rw[run_store P w _ v .plain (h1 v (cK ..)),sQ];simp[C0 hb]
   simp only[storeCells,gG,e,rS,ig,hr]
  ·have V4:(cs.set i v).take (i+1)++vs++(cs.set i v).drop (i+1+ae vs)=cs.take i++v::vs++cs.drop (i+ae (v::vs)):=by rw[dh (by simp;omega),drop_set,ax oM];simp[NC (cH _),vV,Nat.add_comm 1]
   rw[V4]at F8;have:=hm.mod 0 rfl F8;simpa using this
theorem lW{t:TypeId}{x y:Operand}(hk:aB c k=some (d,.store t x y,ty,g))(hF:Fr a N env)(hg:bU c g env=some true)(hd:jW d N=true)(lI:k+1=k'){b t0:Nat}{vs cs:bh}(hx:ev env x=some (vP (aZ b)))(hy:ev env y=some (.agg vs.toArray))(ht:y5 P t=some (ae vs))(hv:∀v∈vs,v.oneCell'=true)(hM:Mem S w0 w L)(i:Nat)(hi:L[i]?=some (.aM b t0 cs))(ho:ae cs=ae vs)(h:∀w',Mem S w0 w' (L.set i (.aM b t0 vs))->Mem (bD.aM b t0 cs).fp w w' [.aM b t0 vs]->∀a',a'=a.put d undef->Fr a' N (eJ env d undef)->bL P c K Q k' a' w'):bL P c K Q k a w:=by
 subst lI;have hb:=hM.get i hi;obtain⟨w',hr,hm⟩:=o5 (P:=P) vs 0 hv hb oM;have hl:cs.take 0++vs++cs.drop (0+ae vs)=vs:=by simp[<-ho]
 rw[hl]at hm;refine qW hk hF hg (w':=w') (λo ho'=> ?_) (h _ (by simpa using hM.mod i hi hm) hm _ rfl (hF.put hd _));unfold execOp;rw[ho'];simp[Instr.storeAt,Instr.sureAddr,hF.ev hx,hF.ev hy,storeVar,(oT ht w).2,Value.cells,hr]
theorem vX{t:TypeId}{x y:Operand}(hk:aB c k=some (d,.indexAddr t x y,ty,g))(hF:Fr a N env)(hg:bU c g env=some true)(hd:jW d N=true)(lI:k+1=k'){A:ar}{ad:Addr}{n cap e size:Nat}{kd:IntKind}{i:Int}(hx:ev env x=some (vS A n cap))(hy:ev env y=some (.int kd i))(hA:A=some ad)(ht:P.underlying t=some (.slice e))(hs:(P.info? e).map (·.size)=some size)(h0:0<=i)(h1:i<n)(h:∀a',a'=a.put d (vP (ad.add (i.toNat*size)))->Fr a' N (eJ env d (vP (ad.add (i.toNat*size))))->bL P c K Q k' a' w):bL P c K Q k a w:=by
 subst hA;refine gq hk hF hg hd lI (λo ho=> ?_) h;unfold execOp;rw[ho];cases hi:P.info? e with
 |none=>simp[hi]at hs
 |some inf=>
  simp[hi]at hs;subst hs;simp[Instr.indexAt,asIntOf,hF.ev hx,hF.ev hy,iM ht,h0,h1,sizeOf,typeInfo,hi]
theorem mI{t:TypeId}{x y:Operand}(hk:aB c k=some (d,.slice t x none (some y) none,ty,g))(hF:Fr a N env)(hg:bU c g env=some true)(hd:jW d N=true)(lI:k+1=k'){A:ar}{n cap e size:Nat}{kd:IntKind}{i:Int}(m:Nat)(hx:ev env x=some (vS A n cap))(hy:ev env y=some (.int kd i))(hm:i=(m:Int))(ht:P.underlying t=some (.slice e))(hs:(P.info? e).map (·.size)=some size)(h1:m<=cap)(h:∀a',a'=a.put d (vS A m cap)->Fr a' N (eJ env d (vS A m cap))->bL P c K Q k' a' w):bL P c K Q k a w:=by
 refine gq hk hF hg hd lI (λo ho=> ?_) h;subst hm;unfold execOp;rw[ho];cases hi:P.info? e with
 |none=>simp[hi]at hs
 |some inf=>
  have hA:(if cap=0 then A else A.map (·.add 0))=A:=by
   split
   ·rfl
   ·cases A<;>simp[Addr.add]
  simp[Instr.sliceAt,Instr.slice,Instr.sliceBounds,Instr.sliceBound,asIntOf,hF.ev hx,hF.ev hy,iM ht,sizeOf,typeInfo,hi,h1,hA]
theorem rT{t:TypeId}{x y:Operand}(hk:aB c k=some (d,.slice t x (some y) none none,ty,g))(hF:Fr a N env)(hg:bU c g env=some true)(hd:jW d N=true)(lI:k+1=k'){A:ar}{n cap e size:Nat}{kd:IntKind}{i:Int}(m:Nat)(hx:ev env x=some (vS A n cap))(hy:ev env y=some (.int kd i))(hm:i=(m:Int))(ht:P.underlying t=some (.slice e))(hs:(P.info? e).map (·.size)=some size)(h1:m<=n)(h:∀a',a'=a.put d (vS (if cap=m then A else A.map (·.add (m*size))) (n-m) (cap-m))->Fr a' N (eJ env d (vS (if cap=m then A else A.map (·.add (m*size))) (n-m) (cap-m)))->bL P c K Q k' a' w):bL P c K Q k a w:=by
 refine gq hk hF hg hd lI (λo ho=> ?_) h;subst hm;unfold execOp;rw[ho];cases hi:P.info? e with
 |none=>simp[hi]at hs
 |some inf=>
  simp[hi]at hs;subst hs;simp[Instr.sliceAt,Instr.slice,Instr.sliceBounds,Instr.sliceBound,asIntOf,hF.ev hx,hF.ev hy,iM ht,sizeOf,typeInfo,hi,h1]
theorem BB{t:TypeId}{len:Nat}{ps:Array (Nat×Operand)}(hk:aB c k=some (d,.buildSlice t len ps,ty,g))(hF:Fr a N env)(hg:bU c g env=some true)(hd:jW d N=true)(lI:k+1=k'){e size:Nat}{zs:bh}{vs:List (Nat×Value)}{cs:bh}(ht:P.underlying t=some (.slice e))(hi:(P.info? e).map (λi=>(i.size,i.zero.map (·.cells.toList)))=some (size,some zs))(hp:parts env ps.toList=some vs)(iX:(Nat.ble 1 (len*size)&&Nat.ble (len*size) 1000)=true)(V5:Instr.fill (λi=>some (i*size,size)) ((Array.range (len*size)).map (zs.toArray[· % zs.toArray.size]!)) vs=some cs.toArray)(hl:Nat.beq (ae cs) (len*size)=true)(hM:Mem S w0 w L)(h:∀b w',w0.heap.size<=b->w.heap.size<=b->Mem S w0 w' (L++[.row e size (some (aZ b)) len len cs])->Mem bI w w' [.row e size (some (aZ b)) len len cs]->∀a',a'=a.put d (vS (some (aZ b)) len len)->Fr a' N (eJ env d (vS (some (aZ b)) len len))->bL P c K Q k' a' w'):bL P c K Q k a w:=by
 subst lI;have Qjx:1<=len*size/\len*size<=1000:=by rw[bu]at iX;exact⟨C4 iX.1,C4 iX.2⟩
 have Af:ae cs=len*size:=ko hl;have Vj:0<size:=by
  rcases C5 size with h0|h0
  ·rw[h0]at Qjx;omega
  ·exact h0
 have hlen:len<=1000:=iz (Nat.le_mul_of_pos_right _ Vj) Qjx.2;have o6:(bD.row e size (some (aZ w.heap.size)) len len cs).holds (w.alloc (.cells cs.toArray e)):=by have:=World.ownsRow_lit (base:=0) (e:=e) (size:=size) w cs.toArray len (cI _) (by simp only[maxLen];omega) (by simpa using Af);show World.ownsRow _ _ _ _ _ _ _;simpa using this
 have hm:Mem bI w (w.alloc (.cells cs.toArray e)) [.row e size (some (aZ w.heap.size)) len len cs]:=by refine(Mem.alloc w e cs).say 0 rfl (λ_=>o6) ?_;rintro g' ⟨a',pS,rfl⟩;injection pS with pS;subst pS;rfl
 refine lP hk hF hg (v:=vS (some (aZ w.heap.size)) len len) (w':=w.alloc (.cells cs.toArray e)) (λo ho _=> ?_) (h w.heap.size (w.alloc (.cells cs.toArray e)) hM.size (cH _) (hM.call hm) hm _ rfl (hF.put hd _));unfold execOp;rw[ho];have e1:=y4 hF hp;have e2:(ps.map fun(i,x)=>(i,a.eval x))=vs.toArray:=by apply o4;simpa using e1
 cases tc:P.info? e with
 |none=>simp[tc]at hi
 |some inf=>
  simp only[tc,ft,eO,dg]at hi;obtain⟨hs,hz⟩:=hi;subst hs;cases NB:inf.zero with
  |none=>simp[NB]at hz
  |some z=>
   simp only[NB,ft,eO]at hz;subst hz;have n1:¬(16777216<len*inf.size):=oM;have n2:¬(len*inf.size=0):=oM;have Qgr:Instr.fill (λi=>some (i*inf.size,inf.size)) ((Array.range (len*inf.size)).map (z.cells[· % z.cells.size]!)) vs=some cs.toArray:=by simpa using V5
   have hs0:(sizeOf e).run P w= .ok inf.size w:=by simp[sizeOf,typeInfo,tc]
   have hz0:(zeroValue e).run P w= .ok z w:=by simp[zeroValue,typeInfo,tc,NB]
   simp only[Instr.buildSlice,gG,iM ht,hs0,ig,e2,Nat.reducePow,gt_iff_lt,n1,n2,mJ,o7,Sem.run_ite,hz0,Qgr,newRow,run_newObj];rfl
theorem vY{t:TypeId}{x y:Operand}(hk:aB c k=some (d,.makeSlice t x y,ty,g))(hF:Fr a N env)(hg:bU c g env=some true)(hd:jW d N=true)(lI:k+1=k'){e bytes:Nat}{z:Value}{n:Nat}{i:Int}(hx:ev env x=some (vI i))(hy:ev env y=some (vI i))(hn:i=(n:Int))(ht:P.underlying t=some (.slice e))(hi:(P.info? e).map (λi=>(i.size,i.bytes,i.zero))=some (1,bytes,some z))(hz:z.oneCell'=true)(hb:bytes*n<=140737488355328)(hl:n<=maxLen)(hM:Mem S w0 w L)(h:∀b w',w0.heap.size<=b->w.heap.size<=b->Mem S w0 w' (L++[.row e 1 (some (aZ b)) n n (List.replicate n z)])->Mem bI w w' [.row e 1 (some (aZ b)) n n (List.replicate n z)]->∀a',a'=a.put d (vS (some (aZ b)) n n)->Fr a' N (eJ env d (vS (some (aZ b)) n n))->bL P c K Q k' a' w'):bL P c K Q k a w:=by
 subst lI;subst hn;cases tc:P.info? e with
 |none=>simp[tc]at hi
 |some inf=>
  simp only[tc,ft,eO,dg]at hi;obtain⟨hs,ND,NB⟩:=hi;subst ND;obtain⟨w',hr,Fj,Sg⟩:=run_make_full (P:=P) w 0 t e inf z 1 ht tc NB hs .i64 .i64 n oM hl (cI _);rw[uK hz,fx,toList_madeCells_one]at Fj;have hm:Mem bI w w' [.row e 1 (some (aZ w.heap.size)) n n (List.replicate n z)]:=by refine⟨Sg.os,Sg.tape,Sg.output,Sg.size,λk hk _=>Sg.block k hk sI,?_,oh _ _⟩;simp only[cF];rintro _ rfl;refine⟨Fj,?_⟩;rintro g' ⟨a',pS,rfl⟩;injection pS with pS;subst pS;exact .inr (cH _)
  refine lP hk hF hg (v:=vS (some (aZ w.heap.size)) n n) (w':=w') (λo ho _=> ?_) (h w.heap.size w' hM.size (cH _) (hM.call hm) hm _ rfl (hF.put hd _));unfold execOp;rw[ho];simp only[hF.ev hx,hF.ev hy,gG,hr,ig];rfl
theorem vZ(w:World)(t ty e:TypeId)(i:TypeInfo)(size:Nat)(ht:P.underlying t=some (.slice e))(hi:P.info? e=some i)(v:Value)(n:Nat)(xs:bh)(Fj:w.ownsRow 0 e size v n xs)(c:Nat):(Builtin.append_ #[t,t] ty #[v,.slice none 0 c]).run P w= .ok v w:=by
 rcases Fj.2 with⟨rfl,rfl⟩|⟨g,cap,cur,rfl,_,_,hnc,_⟩
 ·simp[Builtin.append_,iM ht,sizeOf,typeInfo,hi,Builtin.lenOf,Builtin.firstCells]
 ·simp[Builtin.append_,iM ht,sizeOf,typeInfo,hi,Builtin.lenOf,Builtin.firstCells,hnc,storeCells]
theorem C6{t ty e size bytes:Nat}{z:Value}(ht:P.underlying t=some (.slice e))(hi:(P.info? e).map (λi=>(i.size,i.bytes,i.zero))=some (size,bytes,some z))(NF:z.cells.size=size)(iX:0<size){A B:ar}{n cap m cap':Nat}{xs news:bh}(o6:(bD.row e size A n cap xs).holds w)(v7:(bD.rd B news).holds w)(hl:ae news=m*size)(h1:∀u∈news,u.oneCell'=true)(hb:(n+m)*bytes<=140737488355328)(C7:n+m<=maxLen):∃A' c' w',(Builtin.append_ #[t,t] ty #[.slice A n cap,.slice B m cap']).run P w= .ok (vS A' (n+m) c') w'/\Mem (bD.row e size A n cap xs).fp w w' [.row e size A' (n+m) c' (xs++news)]:=by
 cases tc:P.info? e with
 |none=>simp[tc]at hi
 |some inf=>
  simp only[tc,ft,eO,dg]at hi;obtain⟨hs,ND,NB⟩:=hi;by_cases hm0:m=0/\B=none
  ·obtain⟨rfl,rfl⟩:=hm0;have hn:news=[]:=y2 (by simpa using hl);subst hn;refine⟨A,cap,w,vZ w t ty e inf size ht tc _ n xs o6 cap',?_⟩;simpa using Mem.vv o6
  ·have hB:∃ad,B=some ad/\∀j u,news[j]?=some u->w.cell? (ad.add j)=some u:=by
    cases B with
    |none=>
     have hm:m≠0:=λh=>hm0 ⟨h,rfl⟩
     have hn:0<ae news:=by rw[hl];exact Nat.mul_pos oM iX
     obtain⟨ad,h,_⟩:=v7 0 news[0] (by simp[hn]);cases h
    |some ad=>
     refine⟨ad,rfl,λj u hu=> ?_⟩;obtain⟨a',pS,hc⟩:=v7 j u hu;injection pS with pS;subst pS;exact hc
   obtain⟨ad,rfl,o8⟩:=hB;obtain⟨v',w',hr,Fj,Sg,_,hw⟩:=run_append_own_at (P:=P) w 0 t ty e inf z size bytes ht tc NB hs ND NF iX (vS A n cap) n xs o6 ad m cap' news hl o8 h1 C7 hb (cI _);have Qjy:∃A' c',v'=vS A' (n+m) c':=by
    rcases Fj.2 with⟨rfl,h0⟩|⟨g',cap1,cur,rfl,_⟩
    ·exact⟨none,0,by rw[h0]⟩
    ·exact⟨_,_,rfl⟩
   obtain⟨A',c',rfl⟩:=Qjy;exact⟨A',c',w',hr,Mem.grown Sg Fj hw⟩
theorem Ag{t:TypeId}{x y:Operand}(hk:aB c k=some (d,.call {callee:= .builtin .append,args:=#[x,y],argTypes:=#[t,t]},ty,g))(hF:Fr a N env)(hg:bU c g env=some true)(hd:jW d N=true)(lI:k+1=k'){e size bytes:Nat}{z:Value}(ht:P.underlying t=some (.slice e))(hi:(P.info? e).map (λi=>(i.size,i.bytes,i.zero))=some (size,bytes,some z))(NF:Nat.beq z.cells.size size=true)(iX:Nat.blt 0 size=true){A B:ar}{n cap m cap':Nat}{xs news:bh}(hx:ev env x=some (vS A n cap))(hy:ev env y=some (vS B m cap'))(hM:Mem S w0 w L)(i:Nat)(hL:L[i]?=some (.row e size A n cap xs))(v7:(bD.rd B news).holds w)(hl:ae news=m*size)(h1:∀u∈news,u.oneCell'=true)(hb:(n+m)*bytes<=140737488355328)(C7:n+m<=maxLen)(h:∀A' c' w',Mem S w0 w' (L.set i (.row e size A' (n+m) c' (xs++news)))->Mem (bD.row e size A n cap xs).fp w w' [.row e size A' (n+m) c' (xs++news)]->∀a',a'=a.put d (vS A' (n+m) c')->Fr a' N (eJ env d (vS A' (n+m) c'))->bL P c K Q k' a' w'):bL P c K Q k a w:=by
 subst lI;obtain⟨A',c',w',hr,hm⟩:=C6 (P:=P) (ty:=ty) ht hi (ko NF) (by simpa[p6]using iX) (hM.get i hL) v7 hl h1 hb C7 (cap':=cap');refine lP hk hF hg (v:=vS A' (n+m) c') (w':=w') (λo ho hty=> ?_) (h A' c' w' (by simpa using hM.mod i hL hm) hm _ rfl (hF.put hd _));unfold execOp;rw[ho,hty];simp only[resolve,invoke,builtin,gG,o7,ig,C8,gu,qG,hF.ev hx,hF.ev hy,hr]
def C9(P:Program)(f:FuncId):Bool:=match P.funcs[f]? with
 |some fn=> !(fn.name== "runtime.NumGoroutine")&&fn.body.isSome
 |none=>false
theorem HS{f:FuncId}(h:C9 P f=true)(args:Array Value)(w:World):(callFunc f args).run P w= .ok (.enter f args) w:=by
 unfold C9 at h;cases hf:P.funcs[f]? with
 |none=>simp[hf]at h
 |some fn=>
  simp only[hf,bu,oi]at h;have hb:fn.body.isNone=false:=by cases hbb:fn.body<;>simp_all
  have h1:=h.1;simp only[callFunc,gG,run_program,ig,hf,h1,hb,v8,mJ];rfl
theorem jQ{x:Operand}{args:Array Operand}{ts:Array TypeId}(hk:aB c k=some (d,.call {callee:= .value x,args:=args,argTypes:=ts},ty,g))(hF:Fr a N env)(hg:bU c g env=some true)(hd:jW d N=true)(lI:k+1=k'){f:FuncId}{vs cap:bh}(hx:ev env x=some (.func (.func f) #[] cap.toArray))(Da:evs env args.toList=some vs)(hf:C9 P f=true){Φ:Value->World->Prop}(hc:Calls P f (vs++cap).toArray w (gp Φ))(h:∀v w',Φ v w'->∀a',a'=a.put d v->Fr a' N (eJ env d v)->bL P c K Q k' a' w'):bL P c K Q k a w:=by
 subst lI;refine HJ hk hF hg λo h1 h2 h3 K' hK'=> ?_
 unfold Oper.wp;have hr:(execOp a.eval o).run P w= .ok (.enter f (vs++cap).toArray) w:=by
  unfold execOp;rw[h2];have e1:=Cf hF Da;have e2:args.map a.eval=vs.toArray:=by apply o4;simpa using e1
  simp[resolve,hF.ev hx,e2,Deferred.ofValue,invoke,HS hf]
 rw[hr,Oper.upon_enter];refine hc.mono ?_;rintro e w' ⟨v,rfl,hv⟩;rw[h1];exact hK' _ _ (h v w' hv _ rfl (hF.put hd v))
end
def HU(fn:Func):Code:=fn.body.getD .skip
def Sh:Nat->bh->Env
 |_,[]=>[]
 |i,v::r=>(i,v)::Sh (i+1) r
theorem F9:∀(vs:bh) (i t:Nat) {v:Value},look (Sh i vs) t=some v->i<=t/\vs[t-i]?=some v
 |[],i,t,v,h=>by simp[Sh,look]at h
 |u::r,i,t,v,h=>by
  simp only[Sh,look]at h;split at h
  ·rename_i hb;have:i=t:=ko hb;subst this;exact⟨cH _,by simpa using h⟩
  ·obtain⟨h1,h2⟩:=F9 r (i+1) t h;refine⟨oM,?_⟩;have:t-i=(t-(i+1))+1:=oM;rw[this];simpa using h2
theorem enter{P:Program}{f:FuncId}{fn:Func}{N:FN}{vs:bh}{w:World}{R:Ending->World->Prop}(hf:P.funcs[f]?=some fn)(hb:fn.body.isSome=true)(hn:Nat.beq fn.ntmps N.n=true)(hl:Nat.ble (ae vs) N.n=true)(h:∀a,Fr a N (Sh 0 vs)->W P (HU fn) (bodyPost P fn R .normal) (bodyPost P fn R) a w)(hD:N.D=[]:=by rfl):Calls P f vs.toArray w R:=by
 have hN:fn.ntmps=N.n:=ko hn;have JY:ae vs<=N.n:=C4 hl;cases hbb:fn.body with
 |none=>rw[hbb]at hb;cases hb
 |some c=>
  refine calls_of_wp hf hbb ?_;have:=h {tmps:=vs.toArray++Array.replicate (fn.ntmps-vs.toArray.size) undef,defers:=[]} ⟨hD.symm,by simp[hN];omega,?_⟩
  ·unfold W at this;rw[show HU fn=c by simp[HU,hbb]]at this;refine wp_mono this ?_;intro e a w he;cases e<;>exact he
  ·intro t v hv;obtain⟨_,h2⟩:=F9 vs 0 t hv;simp only[Nat.sub_zero]at h2;have ht:t<ae vs:=(aW.1 h2).1;rw[HV (by simpa using ht)];simpa using h2
theorem QmR{P:Program}{fn:Func}{R:Ending->World->Prop}{a:Act}{w:World}{N:FN}{env:Env}{t:Nat}{v:Value}(hF:Fr a N env)(hr:fn.results=#[.tmp t])(hv:look env t=some v)(h:R (.returned v) w)(hD:N.D=[]:=by rfl):bodyPost P fn R .ret a w:=by
 refine bodyPost_ret (v:=v) ?_ (hF.defers.trans hD) h;rw[results_tmp hr];have:=hF.ev (x:= .tmp t) hv;simp only[Act.eval]at this;rw[this]
theorem QmS{P:Program}{fn:Func}{R:Ending->World->Prop}{a:Act}{w:World}{N:FN}{env:Env}{t u:Nat}{v v':Value}(hF:Fr a N env)(hr:fn.results=#[.tmp t,.tmp u])(hv:look env t=some v)(hu:look env u=some v')(h:R (.returned (.tuple #[v,v'])) w)(hD:N.D=[]:=by rfl):bodyPost P fn R .ret a w:=by
 refine bodyPost_ret (v:= .tuple #[v,v']) ?_ (hF.defers.trans hD) h;rw[results_tmp2 hr];have h1:=hF.ev (x:= .tmp t) hv;have h2:=hF.ev (x:= .tmp u) hu;simp only[Act.eval]at h1 h2;rw[h1,h2]
theorem QmT{P:Program}{fn:Func}{R:Ending->World->Prop}{a:Act}{w:World}{N:FN}{env:Env}(hF:Fr a N env)(hr:fn.results=#[])(h:R (.returned (.tuple #[])) w)(hD:N.D=[]:=by rfl):bodyPost P fn R .normal a w:=bodyPost_end (results_none hr _ _ _) (hF.defers.trans hD) h
theorem Qbj{id V0:Nat}{K:Act->World->Prop}{Q:Exit->Act->World->Prop}{a:Act}{w:World}(e:Nat.beq V0 id=true)(h:K a w):inB id K Q (.exit V0) a w:=by
 simp only[inB,e];exact h
theorem Ga{P:Program}{c:Code}{K:Act->World->Prop}{Q:Exit->Act->World->Prop}{a:Act}{w:World}(I:Act->World->Prop)(h:∀a w,I a w->K a w)(h':W P c I Q a w):W P c K Q a w:=Qgq h' h (λ_ _ _ h=>h)
theorem HW(g j:Nat):(aZ g).add j=(aq g j):=by unfold Addr.add;split<;>simp_all
theorem bw{w:World}{g t:Nat}{cs:bh}(h:(bD.aM g t cs).holds w)(j:Nat)(v:Value)(hj:cs[j]?=some v):w.cell? ((aZ g).add j)=some v:=by
 rw[HW];exact af h hj
theorem Mem.fi(w:World)(e size:Nat):Mem bI w w [.row e size none 0 0 []]:=by
 refine⟨rfl,rfl,rfl,cH _,λ_ _ _=>rfl,?_,oh _ _⟩;simp only[cF];rintro _ rfl;exact⟨Ql w e size,λg hg=>by obtain⟨a,ha,_⟩:=hg;cases ha⟩
theorem mK{w:World}{A:ar}{ad:Addr}{xs:bh}(h:(bD.rd A xs).holds w)(hA:A=some ad){j:Nat}{v:Value}(hj:xs[j]?=some v):w.cell? (ad.add j)=some v:=by
 obtain⟨a',ha,hc⟩:=h j v hj;rw[hA]at ha;injection ha with ha;subst ha;exact hc
theorem bW{w:World}{A:ar}{ad:Addr}{xs:bh}(h:(bD.rd A xs).holds w)(hA:A=some ad){j:Nat}{v:Value}(hj:xs[j]?=some v):w.cell? (ad.add (j*1))=some v:=by
 rw[fx];exact mK h hA hj
theorem rd_some{w:World}{A:ar}{xs:bh}(h:(bD.rd A xs).holds w)(hn:0<ae xs):∃ad,A=some ad:=by
 obtain⟨a',ha,_⟩:=h 0 xs[0] (by simp[hn]);exact⟨a',ha⟩
theorem qZ{w:World}{e size n c:Nat}{A:ar}{xs:bh}(h:(bD.row e size A n c xs).holds w)(hn:0<n):∃ad,A=some ad:=by
 obtain⟨g,hg⟩:=eZ h hn;exact⟨_,hg⟩
def ints(l:ah):bh:=l.map vI
theorem V6{l:ah}{i:Nat}(h:i<ae l):(ints l)[i]?=some (vI (l.getD i 0)):=by
 simp[ints,List.getD,h]
theorem fj(l:ah):ae (ints l)=ae l:=by simp[ints]
theorem jk(l m:ah):ints (l++m)=ints l++ints m:=by simp[ints]
theorem Db(l:ah):∀u∈ints l,u.oneCell'=true:=by
 intro u hu;simp only[ints,aO]at hu;obtain⟨x,_,rfl⟩:=hu;rfl
theorem fR{w:World}{A:ar}{ad:Addr}{l:ah}(h:(bD.rd A (ints l)).holds w)(hA:A=some ad){i:Int}(h0:0<=i)(h1:i<ae l):w.cell? (ad.add (i.toNat*1))=some (vI (l.getD i.toNat 0)):=bW h hA (V6 oM)
theorem iP{w:World}{A:ar}{ad:Addr}{l:ah}(h:(bD.rd A (ints l)).holds w)(hA:A=some ad){i:Nat}{v:Int}(hi:l[i]?=some v):w.cell? (ad.add ((i:Int).toNat*1))=some (vI v):=by
 rw[cN];exact bW h hA (by simp[ints,hi])
theorem rU{w:World}{A:ar}{l:ah}(h:(bD.rd A (ints l)).holds w)(hn:0<ae l):∃ad,A=some ad:=rd_some h (by rw[fj];exact hn)
end Go.Mor
