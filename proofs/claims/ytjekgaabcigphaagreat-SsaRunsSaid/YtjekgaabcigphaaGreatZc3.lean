/-
  Texts of the proof, part 3.
-/
import Derived.Test.YtjekgaabcigphaaGreatZc2
import Derived.Maps.AppendAt
set_option maxRecDepth 10000
namespace Go.Mor
open Go.RowKit
def ff(Φ:Value→World→Prop)(e:Ending)(w:World):Prop:=∃v,e= .returned v∧Φ v w
def xu(P:Program)(t:TypeId):Bool:=match P.underlying t with
 |some (.struct _)=>false
 |some (.array _ _)=>false
 |some _=>match P.info? t with
  |some i=>Nat.beq i.size 1
  |none=>false
 |none=>false
def yH(P:Program)(t:TypeId):Option Nat:=match P.underlying t with
 |some (.struct _)=>(P.info? t).map (·.size)
 |some (.array _ _)=>(P.info? t).map (·.size)
 |_=>none
theorem u7{P:Program}{t:TypeId}(h:xu P t=true)(w:World):(isAgg t).run P w= .ok false w:=by
 unfold xu at h;split at h
 ·cases h
 ·cases h
 ·rename_i d h1 h2 u;simp only[isAgg,cT,eY u,dz];cases d<;>first|rfl|(exact absurd rfl (h1 _))|(exact absurd rfl (h2 _ _))
 ·cases h
theorem FC{P:Program}{t:TypeId}(h:xu P t=true)(w:World):(sizeOf t).run P w= .ok 1 w:=by
 unfold xu at h;split at h
 ·cases h
 ·cases h
 ·split at h
  ·rename_i i hi;have:i.size=1:=iq h;simp[sizeOf,typeInfo,hi,this]
  ·cases h
 ·cases h
theorem oN{P:Program}{t:TypeId}{n:Nat}(h:yH P t=some n)(w:World):(isAgg t).run P w= .ok true w∧(sizeOf t).run P w= .ok n w:=by
 unfold yH at h;split at h
 ·rename_i u;cases hi:P.info? t with
  |none=>simp[hi]at h
  |some i=>simp[hi]at h;subst h;simp[isAgg,eY u,sizeOf,typeInfo,hi]
 ·rename_i u;cases hi:P.info? t with
  |none=>simp[hi]at h
  |some i=>simp[hi]at h;subst h;simp[isAgg,eY u,sizeOf,typeInfo,hi]
 ·cases h
theorem rv{v:Value}(h:v.oneCell'=true):v.cells=#[v]:=by cases v<;>simp[Value.oneCell']at h<;>rfl
section
variable {P : Program} {c : Code} {K : Act → World → Prop} {Q : Exit → Act → World → Prop} {a : Act} {w w0 : World} {S : Nat → Prop} {L : List bx} {k k' : Nat} {N : FN} {env : Env}
variable {d : Option Nat} {ty : Nat} {g : Option (Nat × Bool)}
theorem eD{op:Op}(hk:ay c k=some (d,op,ty,g))(hF:Fr a N env)(hg:bt c g env=some true)(hd:gq d N=true)(jN:k+1=k'){v:Value}(hr:∀o:Oper,o.op=op→(execOp a.eval o).run P w= .ok (.value v) w)(h:∀a',a'=a.put d v→Fr a' N (cO env d v)→aV P c K Q k' a' w):aV P c K Q k a w:=by
 subst jN;exact fH hk hF hg (fun o ho _=>hr o ho) (h _ rfl (hF.put hd v))
theorem iw{op:Op}(hk:ay c k=some (d,op,ty,g))(hF:Fr a N env)(hg:bt c g env=some true)(hd:gq d N=true)(jN:k+1=k'){v:Value}(hv:qz P env op=some v)(h:∀a',a'=a.put d v→Fr a' N (cO env d v)→aV P c K Q k' a' w):aV P c K Q k a w:=eD hk hF hg hd jN (fun _ ho=>run_pure hF hv ho w) h
theorem sJ{t:TypeId}{x:Operand}(hk:ay c k=some (d,.load t x,ty,g))(hF:Fr a N env)(hg:bt c g env=some true)(hd:gq d N=true)(jN:k+1=k'){ad:Addr}{v:Value}(hx:ev env x=some (vP ad))(ht:xu P t=true)(hc:w.cell? ad=some v)(h:∀a',a'=a.put d v→Fr a' N (cO env d v)→aV P c K Q k' a' w):aV P c K Q k a w:=by
 refine eD hk hF hg hd jN (fun o ho=> ?_) h;unfold execOp;rw[ho];simp[Instr.loadAt,Instr.sureAddr,hF.ev hx,loadVar,u7 ht,hc]
theorem ix{t:TypeId}{x:Operand}(hk:ay c k=some (d,.load t x,ty,g))(hF:Fr a N env)(hg:bt c g env=some true)(hd:gq d N=true)(jN:k+1=k'){ad:Addr}{vs:aO}(hx:ev env x=some (vP ad))(ht:yH P t=some vs.length)(hc:∀j v,vs[j]?=some v→w.cell? (ad.add j)=some v)(h:∀a',a'=a.put d (.agg vs.toArray)→Fr a' N (cO env d (.agg vs.toArray))→aV P c K Q k' a' w):aV P c K Q k a w:=by
 refine eD hk hF hg hd jN (fun o ho=> ?_) h;unfold execOp;rw[ho];obtain⟨h1,h2⟩:=oN ht w;simp[Instr.loadAt,Instr.sureAddr,hF.ev hx,loadVar,h1,h2,run_loadCells_list (P:=P) w ad vs hc]
theorem jk{op:BinOp}{t t':TypeId}{x y:Operand}(hk:ay c k=some (d,.binOp op t x y t',ty,g))(hF:Fr a N env)(hg:bt c g env=some true)(hd:gq d N=true)(jN:k+1=k'){i j z:Int}(hx:ev env x=some (vI i))(hy:ev env y=some (vI j))(hz:arI op i j=some z)(h1: -9223372036854775808≤z)(h2:z≤9223372036854775807)(h:∀a',a'=a.put d (vI z)→Fr a' N (cO env d (vI z))→aV P c K Q k' a' w):aV P c K Q k a w:=by
 refine eD hk hF hg hd jN (fun o ho=> ?_) h;unfold execOp;rw[ho];have hw:IntKind.i64.wrap z=z:=yI z ⟨h1,h2⟩;cases op<;>simp only[arI]at hz<;>first
  |(cases hz;done)
  |(injection hz with hz;subst hz;simp[hF.ev hx,hF.ev hy,eqGuard,binOp,Op.intArith,hw])
theorem FD{op:BinOp}{t t':TypeId}{x y:Operand}(hk:ay c k=some (d,.binOp op t x y t',ty,g))(hF:Fr a N env)(hg:bt c g env=some true)(hd:gq d N=true)(jN:k+1=k'){kd:IntKind}{i j:Int}{b:Bool}(hx:ev env x=some (.int kd i))(hy:ev env y=some (.int kd j))(hb:P3 op i j=some b)(h:∀B,B=b→∀a',a'=a.put d (vB B)→Fr a' N (cO env d (vB B))→aV P c K Q k' a' w):aV P c K Q k a w:=by
 refine eD hk hF hg hd jN (fun o ho=> ?_) (h b rfl);refine run_pure hF (op:= .binOp op t x y t') ?_ ho w;simp[qz,hx,hy,hb]
theorem yJ{t:TypeId}{x:Operand}(hk:ay c k=some (d,.box t x,ty,g))(hF:Fr a N env)(hg:bt c g env=some true)(hd:gq d N=true)(jN:k+1=k'){v:Value}{cs:aO}(hx:ev env x=some v)(jW:v.cells=cs.toArray)(hM:Mem S w0 w L)(h:∀b w',w0.heap.size≤b→w.heap.size≤b→Mem S w0 w' (L++[.aL b t cs])→Mem aX w w' [.aL b t cs]→∀a',a'=a.put d (vP (aZ b))→Fr a' N (cO env d (vP (aZ b)))→aV P c K Q k' a' w'):aV P c K Q k a w:=by
 subst jN;refine fH hk hF hg (v:= .pointer (some (aZ w.heap.size))) (w':=w.alloc (.cells cs.toArray t)) (fun o ho _=> ?_) (h w.heap.size (w.alloc (.cells cs.toArray t)) hM.size (cB _) (hM.call (Mem.alloc w t cs)) (Mem.alloc w t cs) _ rfl (hF.put hd _));unfold execOp;rw[ho];simp[Instr.box,hF.ev hx,newVar,newRow,jW]
theorem Ij{t:TypeId}(hk:ay c k=some (d,.alloc t,ty,g))(hF:Fr a N env)(hg:bt c g env=some true)(hd:gq d N=true)(jN:k+1=k'){cs:aO}(hz:(P.info? t).map (fun i=>i.zero.map (fun z=>z.cells.toList))=some (some cs))(hM:Mem S w0 w L)(h:∀b w',w0.heap.size≤b→w.heap.size≤b→Mem S w0 w' (L++[.aL b t cs])→Mem aX w w' [.aL b t cs]→∀a',a'=a.put d (vP (aZ b))→Fr a' N (cO env d (vP (aZ b)))→aV P c K Q k' a' w'):aV P c K Q k a w:=by
 subst jN;refine fH hk hF hg (v:= .pointer (some (aZ w.heap.size))) (w':=w.alloc (.cells cs.toArray t)) (fun o ho _=> ?_) (h w.heap.size (w.alloc (.cells cs.toArray t)) hM.size (cB _) (hM.call (Mem.alloc w t cs)) (Mem.alloc w t cs) _ rfl (hF.put hd _));unfold execOp;rw[ho];cases hi:P.info? t with
 |none=>simp[hi]at hz
 |some i=>
  cases Ik:i.zero with
  |none=>simp[hi,Ik]at hz
  |some z=>
   simp[hi,Ik]at hz;subst hz;simp[Instr.alloc,zeroValue,typeInfo,hi,Ik,newVar,newRow]
theorem g8{t:TypeId}{x y:Operand}(hk:ay c k=some (d,.store t x y,ty,g))(hF:Fr a N env)(hg:bt c g env=some true)(hd:gq d N=true)(jN:k+1=k'){b off t0:Nat}{v:Value}{cs:aO}(hx:ev env x=some (vP (ah b off)))(hy:ev env y=some v)(ht:xu P t=true)(hv:v.oneCell'=true)(hM:Mem S w0 w L)(i:Nat)(hi:L[i]?=some (.aL b t0 cs))(ho:off<cs.length)(h:∀w',Mem S w0 w' (L.set i (.aL b t0 (cs.set off v)))→Mem (bx.aL b t0 cs).fp w w' [.aL b t0 (cs.set off v)]→∀a',a'=a.put d undef→Fr a' N (cO env d undef)→aV P c K Q k' a' w'):aV P c K Q k a w:=by
 subst jN;have hb:=hM.get i hi;have hm:=Mem.KF (i:=off) hb v;refine ll hk hF hg (w':=w.setCell (ah b off) v) (fun o VP=> ?_) (h _ (by simpa using hM.mod i hi hm) hm _ rfl (hF.put hd _));have pX:w.cell? (ah b off)=some cs[off]:=aa hb (by simp[ho]);unfold execOp;rw[VP];have ry:(store (ah b off) v).run P w= .ok () (w.setCell (ah b off) v):=by rw[run_store P w _ v .plain hv,pX];simp[yF hb]
 simp[Instr.storeAt,Instr.sureAddr,hF.ev hx,hF.ev hy,storeVar,rv hv,FC ht,storeCells,Addr.add,ry]
theorem fg{t:TypeId}{x y:Operand}(hk:ay c k=some (d,.store t x y,ty,g))(hF:Fr a N env)(hg:bt c g env=some true)(hd:gq d N=true)(jN:k+1=k'){ad:Addr}{j e size n cap:Nat}{v:Value}{xs:aO}{ad':Addr}(hx:ev env x=some (vP ad'))(KG:ad'=ad.add j)(hy:ev env y=some v)(ht:xu P t=true)(hv:v.oneCell'=true)(hM:Mem S w0 w L)(i:Nat)(hi:L[i]?=some (.row e size (some ad) n cap xs))(hj:j<n*size)(h:∀w',Mem S w0 w' (L.set i (.row e size (some ad) n cap (xs.set j v)))→Mem (bx.row e size (some ad) n cap xs).fp w w' [.row e size (some ad) n cap (xs.set j v)]→∀a',a'=a.put d undef→Fr a' N (cO env d undef)→aV P c K Q k' a' w'):aV P c K Q k a w:=by
 subst jN;subst KG;have hb:=hM.get i hi;have hm:=Mem.xU (j:=j) hb v;refine ll hk hF hg (w':=w.setCell (ad.add j) v) (fun o VP=> ?_) (h _ (by simpa using hM.mod i hi hm) hm _ rfl (hF.put hd _));have hl:j<xs.length:=by rw[Dn hb];exact hj
 obtain⟨a',lM,pX⟩:=aF hb j xs[j] (by simp[hl]);injection lM with lM;subst lM;unfold execOp;rw[VP];have ry:(store (ad.add j) v).run P w= .ok () (w.setCell (ad.add j) v):=by rw[run_store P w _ v .plain hv,pX];simp[mX hb]
 have h0:(ad.add j).add 0=ad.add j:=by simp[Addr.add]
 simp[Instr.storeAt,Instr.sureAddr,hF.ev hx,hF.ev hy,storeVar,rv hv,FC ht,storeCells,h0,ry]
theorem mY{b t0:Nat}:∀(vs:aO) (i:Nat) {cs:aO} {w:World},(∀v∈vs,v.oneCell'=true)→(bx.aL b t0 cs).holds w→i+vs.length≤cs.length→∃w',(storeCells (aZ b) vs i).run P w= .ok () w'∧Mem (bx.aL b t0 cs).fp w w' [.aL b t0 (cs.take i++vs++cs.drop (i+vs.length))]
 |[],i,cs,w,_,hb,_=>⟨w,by simp[storeCells],by simpa using Mem.qv hb⟩
 |v::vs,i,cs,w,h1,hb,hl=>by
  simp only[eZ]at hl;have hm:=Mem.KF (i:=i) hb v;have KH:=hm.get 0 rfl;obtain⟨w',hr,P6⟩:=mY vs (i+1) (fun u hu=>h1 u (bT _ hu)) KH (by simp;omega);refine⟨w',?_,?_⟩
  ·have e:(aZ b).add i=(ah b i):=by unfold Addr.add;split<;>simp_all
   have pX:w.cell? (ah b i)=some (cs[i]'oM):=aa hb sI;have ry:(store (ah b i) v).run P w= .ok () (w.setCell (ah b i) v):=by rw[run_store P w _ v .plain (h1 v (cJ ..)),pX];simp[yF hb]
   simp only[storeCells,cT,e,ry,dz,hr]
  ·have P7:(cs.set i v).take (i+1)++vs++(cs.set i v).drop (i+1+vs.length)=cs.take i++v::vs++cs.drop (i+(v::vs).length):=by rw[fO (by simp;omega),List.drop_set,bC oM];simp[Dp (cB _),pf,Nat.add_comm 1]
   rw[P7]at P6;have:=hm.mod 0 rfl P6;simpa using this
theorem xv{t:TypeId}{x y:Operand}(hk:ay c k=some (d,.store t x y,ty,g))(hF:Fr a N env)(hg:bt c g env=some true)(hd:gq d N=true)(jN:k+1=k'){b t0:Nat}{vs cs:aO}(hx:ev env x=some (vP (aZ b)))(hy:ev env y=some (.agg vs.toArray))(ht:yH P t=some vs.length)(hv:∀v∈vs,v.oneCell'=true)(hM:Mem S w0 w L)(i:Nat)(hi:L[i]?=some (.aL b t0 cs))(ho:cs.length=vs.length)(h:∀w',Mem S w0 w' (L.set i (.aL b t0 vs))→Mem (bx.aL b t0 cs).fp w w' [.aL b t0 vs]→∀a',a'=a.put d undef→Fr a' N (cO env d undef)→aV P c K Q k' a' w'):aV P c K Q k a w:=by
 subst jN;have hb:=hM.get i hi;obtain⟨w',hr,hm⟩:=mY (P:=P) vs 0 hv hb oM;have hl:cs.take 0++vs++cs.drop (0+vs.length)=vs:=by simp[←ho]
 rw[hl]at hm;refine ll hk hF hg (w':=w') (fun o VP=> ?_) (h _ (by simpa using hM.mod i hi hm) hm _ rfl (hF.put hd _));unfold execOp;rw[VP];simp[Instr.storeAt,Instr.sureAddr,hF.ev hx,hF.ev hy,storeVar,(oN ht w).2,Value.cells,hr]
theorem sK{t:TypeId}{x y:Operand}(hk:ay c k=some (d,.indexAddr t x y,ty,g))(hF:Fr a N env)(hg:bt c g env=some true)(hd:gq d N=true)(jN:k+1=k'){A:ao}{ad:Addr}{n cap e size:Nat}{kd:IntKind}{i:Int}(hx:ev env x=some (vS A n cap))(hy:ev env y=some (.int kd i))(hA:A=some ad)(ht:P.underlying t=some (.slice e))(hs:(P.info? e).map (·.size)=some size)(h0:0≤i)(h1:i<n)(h:∀a',a'=a.put d (vP (ad.add (i.toNat*size)))→Fr a' N (cO env d (vP (ad.add (i.toNat*size))))→aV P c K Q k' a' w):aV P c K Q k a w:=by
 subst hA;refine eD hk hF hg hd jN (fun o ho=> ?_) h;unfold execOp;rw[ho];cases hi:P.info? e with
 |none=>simp[hi]at hs
 |some inf=>
  simp[hi]at hs;subst hs;simp[Instr.indexAt,asIntOf,hF.ev hx,hF.ev hy,eY ht,h0,h1,sizeOf,typeInfo,hi]
theorem kI{t:TypeId}{x y:Operand}(hk:ay c k=some (d,.slice t x none (some y) none,ty,g))(hF:Fr a N env)(hg:bt c g env=some true)(hd:gq d N=true)(jN:k+1=k'){A:ao}{n cap e size:Nat}{kd:IntKind}{i:Int}(m:Nat)(hx:ev env x=some (vS A n cap))(hy:ev env y=some (.int kd i))(hm:i=(m:Int))(ht:P.underlying t=some (.slice e))(hs:(P.info? e).map (·.size)=some size)(h1:m≤cap)(h:∀a',a'=a.put d (vS A m cap)→Fr a' N (cO env d (vS A m cap))→aV P c K Q k' a' w):aV P c K Q k a w:=by
 refine eD hk hF hg hd jN (fun o ho=> ?_) h;subst hm;unfold execOp;rw[ho];cases hi:P.info? e with
 |none=>simp[hi]at hs
 |some inf=>
  have hA:(if cap=0 then A else A.map (·.add 0))=A:=by
   split
   ·rfl
   ·cases A<;>simp[Addr.add]
  simp[Instr.sliceAt,Instr.slice,Instr.sliceBounds,Instr.sliceBound,asIntOf,hF.ev hx,hF.ev hy,eY ht,sizeOf,typeInfo,hi,h1,hA]
theorem mH{t:TypeId}{x y:Operand}(hk:ay c k=some (d,.slice t x (some y) none none,ty,g))(hF:Fr a N env)(hg:bt c g env=some true)(hd:gq d N=true)(jN:k+1=k'){A:ao}{n cap e size:Nat}{kd:IntKind}{i:Int}(m:Nat)(hx:ev env x=some (vS A n cap))(hy:ev env y=some (.int kd i))(hm:i=(m:Int))(ht:P.underlying t=some (.slice e))(hs:(P.info? e).map (·.size)=some size)(h1:m≤n)(h:∀a',a'=a.put d (vS (if cap=m then A else A.map (·.add (m*size))) (n-m) (cap-m))→Fr a' N (cO env d (vS (if cap=m then A else A.map (·.add (m*size))) (n-m) (cap-m)))→aV P c K Q k' a' w):aV P c K Q k a w:=by
 refine eD hk hF hg hd jN (fun o ho=> ?_) h;subst hm;unfold execOp;rw[ho];cases hi:P.info? e with
 |none=>simp[hi]at hs
 |some inf=>
  simp[hi]at hs;subst hs;simp[Instr.sliceAt,Instr.slice,Instr.sliceBounds,Instr.sliceBound,asIntOf,hF.ev hx,hF.ev hy,eY ht,sizeOf,typeInfo,hi,h1]
theorem pY{t:TypeId}{len:Nat}{ps:Array (Nat×Operand)}(hk:ay c k=some (d,.buildSlice t len ps,ty,g))(hF:Fr a N env)(hg:bt c g env=some true)(hd:gq d N=true)(jN:k+1=k'){e size:Nat}{zs:aO}{vs:List (Nat×Value)}{cs:aO}(ht:P.underlying t=some (.slice e))(hi:(P.info? e).map (fun i=>(i.size,i.zero.map (·.cells.toList)))=some (size,some zs))(hp:parts env ps.toList=some vs)(kZ:(Nat.ble 1 (len*size)&&Nat.ble (len*size) 1000)=true)(P8:Instr.fill (fun i=>some (i*size,size)) ((Array.range (len*size)).map (zs.toArray[· % zs.toArray.size]!)) vs=some cs.toArray)(hl:Nat.beq cs.length (len*size)=true)(hM:Mem S w0 w L)(h:∀b w',w0.heap.size≤b→w.heap.size≤b→Mem S w0 w' (L++[.row e size (some (aZ b)) len len cs])→Mem aX w w' [.row e size (some (aZ b)) len len cs]→∀a',a'=a.put d (vS (some (aZ b)) len len)→Fr a' N (cO env d (vS (some (aZ b)) len len))→aV P c K Q k' a' w'):aV P c K Q k a w:=by
 subst jN;have Qex:1≤len*size∧len*size≤1000:=by rw[bo]at kZ;exact⟨sL kZ.1,sL kZ.2⟩
 have u9:cs.length=len*size:=iq hl;have Pn:0<size:=by
  rcases Dq size with h0|h0
  ·rw[h0]at Qex;omega
  ·exact h0
 have hlen:len≤1000:=iv (Nat.le_mul_of_pos_right _ Pn) Qex.2;have qe:(bx.row e size (some (aZ w.heap.size)) len len cs).holds (w.alloc (.cells cs.toArray e)):=by have:=World.ownsRow_lit (base:=0) (e:=e) (size:=size) w cs.toArray len (cf _) (by simp only[maxLen];omega) (by simpa using u9);show World.ownsRow _ _ _ _ _ _ _;simpa using this
 have hm:Mem aX w (w.alloc (.cells cs.toArray e)) [.row e size (some (aZ w.heap.size)) len len cs]:=by refine(Mem.alloc w e cs).say 0 rfl (fun _=>qe) ?_;rintro g' ⟨a',lM,rfl⟩;injection lM with lM;subst lM;rfl
 refine fH hk hF hg (v:=vS (some (aZ w.heap.size)) len len) (w':=w.alloc (.cells cs.toArray e)) (fun o ho _=> ?_) (h w.heap.size (w.alloc (.cells cs.toArray e)) hM.size (cB _) (hM.call hm) hm _ rfl (hF.put hd _));unfold execOp;rw[ho];have e1:=u5 hF hp;have e2:(ps.map fun(i,x)=>(i,a.eval x))=vs.toArray:=by apply iO;simpa using e1
 cases vb:P.info? e with
 |none=>simp[vb]at hi
 |some inf=>
  simp only[vb,gC,cP,cF]at hi;obtain⟨hs,hz⟩:=hi;subst hs;cases Ik:inf.zero with
  |none=>simp[Ik]at hz
  |some z=>
   simp only[Ik,gC,cP]at hz;subst hz;have n1:¬(16777216<len*inf.size):=oM;have n2:¬(len*inf.size=0):=oM;have Qbr:Instr.fill (fun i=>some (i*inf.size,inf.size)) ((Array.range (len*inf.size)).map (z.cells[· % z.cells.size]!)) vs=some cs.toArray:=by simpa using P8
   have hs0:(sizeOf e).run P w= .ok inf.size w:=by simp[sizeOf,typeInfo,vb]
   have hz0:(zeroValue e).run P w= .ok z w:=by simp[zeroValue,typeInfo,vb,Ik]
   simp only[Instr.buildSlice,cT,eY ht,hs0,dz,e2,Nat.reducePow,gt_iff_lt,n1,n2,iP,jO,Sem.run_ite,hz0,Qbr,newRow,run_newObj];rfl
theorem lu{t:TypeId}{x y:Operand}(hk:ay c k=some (d,.makeSlice t x y,ty,g))(hF:Fr a N env)(hg:bt c g env=some true)(hd:gq d N=true)(jN:k+1=k'){e bytes:Nat}{z:Value}{n:Nat}{i:Int}(hx:ev env x=some (vI i))(hy:ev env y=some (vI i))(hn:i=(n:Int))(ht:P.underlying t=some (.slice e))(hi:(P.info? e).map (fun i=>(i.size,i.bytes,i.zero))=some (1,bytes,some z))(hz:z.oneCell'=true)(hb:bytes*n≤140737488355328)(hl:n≤maxLen)(hM:Mem S w0 w L)(h:∀b w',w0.heap.size≤b→w.heap.size≤b→Mem S w0 w' (L++[.row e 1 (some (aZ b)) n n (List.replicate n z)])→Mem aX w w' [.row e 1 (some (aZ b)) n n (List.replicate n z)]→∀a',a'=a.put d (vS (some (aZ b)) n n)→Fr a' N (cO env d (vS (some (aZ b)) n n))→aV P c K Q k' a' w'):aV P c K Q k a w:=by
 subst jN;subst hn;cases vb:P.info? e with
 |none=>simp[vb]at hi
 |some inf=>
  simp only[vb,gC,cP,cF]at hi;obtain⟨hs,VR,Ik⟩:=hi;subst VR;obtain⟨w',hr,Bf,Mu⟩:=run_make_full (P:=P) w 0 t e inf z 1 ht vb Ik hs .i64 .i64 n oM hl (cf _);rw[rv hz,eE,toList_madeCells_one]at Bf;have hm:Mem aX w w' [.row e 1 (some (aZ w.heap.size)) n n (List.replicate n z)]:=by refine⟨Mu.os,Mu.tape,Mu.output,Mu.size,fun k hk _=>Mu.block k hk sI,?_,jM _ _⟩;simp only[cI];rintro _ rfl;refine⟨Bf,?_⟩;rintro g' ⟨a',lM,rfl⟩;injection lM with lM;subst lM;exact .inr (cB _)
  refine fH hk hF hg (v:=vS (some (aZ w.heap.size)) n n) (w':=w') (fun o ho _=> ?_) (h w.heap.size w' hM.size (cB _) (hM.call hm) hm _ rfl (hF.put hd _));unfold execOp;rw[ho];simp only[hF.ev hx,hF.ev hy,cT,hr,dz];rfl
theorem sN(w:World)(t ty e:TypeId)(i:TypeInfo)(size:Nat)(ht:P.underlying t=some (.slice e))(hi:P.info? e=some i)(v:Value)(n:Nat)(xs:aO)(Bf:w.ownsRow 0 e size v n xs)(c:Nat):(Builtin.append_ #[t,t] ty #[v,.slice none 0 c]).run P w= .ok v w:=by
 rcases Bf.2 with⟨rfl,rfl⟩|⟨g,cap,cur,rfl,_,_,hnc,_⟩
 ·simp[Builtin.append_,eY ht,sizeOf,typeInfo,hi,Builtin.lenOf,Builtin.firstCells]
 ·simp[Builtin.append_,eY ht,sizeOf,typeInfo,hi,Builtin.lenOf,Builtin.firstCells,hnc,storeCells]
theorem yK{t ty e size bytes:Nat}{z:Value}(ht:P.underlying t=some (.slice e))(hi:(P.info? e).map (fun i=>(i.size,i.bytes,i.zero))=some (size,bytes,some z))(Il:z.cells.size=size)(kZ:0<size){A B:ao}{n cap m cap':Nat}{xs news:aO}(qe:(bx.row e size A n cap xs).holds w)(kJ:(bx.rd B news).holds w)(hl:news.length=m*size)(h1:∀u∈news,u.oneCell'=true)(hb:(n+m)*bytes≤140737488355328)(Mv:n+m≤maxLen):∃A' c' w',(Builtin.append_ #[t,t] ty #[.slice A n cap,.slice B m cap']).run P w= .ok (vS A' (n+m) c') w'∧Mem (bx.row e size A n cap xs).fp w w' [.row e size A' (n+m) c' (xs++news)]:=by
 cases vb:P.info? e with
 |none=>simp[vb]at hi
 |some inf=>
  simp only[vb,gC,cP,cF]at hi;obtain⟨hs,VR,Ik⟩:=hi;by_cases hm0:m=0∧B=none
  ·obtain⟨rfl,rfl⟩:=hm0;have hn:news=[]:=qy (by simpa using hl);subst hn;refine⟨A,cap,w,sN w t ty e inf size ht vb _ n xs qe cap',?_⟩;simpa using Mem.qv qe
  ·have hB:∃ad,B=some ad∧∀j u,news[j]?=some u→w.cell? (ad.add j)=some u:=by
    cases B with
    |none=>
     have hm:m≠0:=fun h=>hm0 ⟨h,rfl⟩
     have hn:0<news.length:=by rw[hl];exact Nat.mul_pos oM kZ
     obtain⟨ad,h,_⟩:=kJ 0 news[0] (by simp[hn]);cases h
    |some ad=>
     refine⟨ad,rfl,fun j u hu=> ?_⟩;obtain⟨a',lM,hc⟩:=kJ j u hu;injection lM with lM;subst lM;exact hc
   obtain⟨ad,rfl,pg⟩:=hB;obtain⟨v',w',hr,Bf,Mu,_,hw⟩:=run_append_own_at (P:=P) w 0 t ty e inf z size bytes ht vb Ik hs VR Il kZ (vS A n cap) n xs qe ad m cap' news hl pg h1 Mv hb (cf _);have Qey:∃A' c',v'=vS A' (n+m) c':=by
    rcases Bf.2 with⟨rfl,h0⟩|⟨g',cap1,cur,rfl,_⟩
    ·exact⟨none,0,by rw[h0]⟩
    ·exact⟨_,_,rfl⟩
   obtain⟨A',c',rfl⟩:=Qey;exact⟨A',c',w',hr,Mem.grown Mu Bf hw⟩
theorem wy{t:TypeId}{x y:Operand}(hk:ay c k=some (d,.call {callee:= .builtin .append,args:=#[x,y],argTypes:=#[t,t]},ty,g))(hF:Fr a N env)(hg:bt c g env=some true)(hd:gq d N=true)(jN:k+1=k'){e size bytes:Nat}{z:Value}(ht:P.underlying t=some (.slice e))(hi:(P.info? e).map (fun i=>(i.size,i.bytes,i.zero))=some (size,bytes,some z))(Il:Nat.beq z.cells.size size=true)(kZ:Nat.blt 0 size=true){A B:ao}{n cap m cap':Nat}{xs news:aO}(hx:ev env x=some (vS A n cap))(hy:ev env y=some (vS B m cap'))(hM:Mem S w0 w L)(i:Nat)(hL:L[i]?=some (.row e size A n cap xs))(kJ:(bx.rd B news).holds w)(hl:news.length=m*size)(h1:∀u∈news,u.oneCell'=true)(hb:(n+m)*bytes≤140737488355328)(Mv:n+m≤maxLen)(h:∀A' c' w',Mem S w0 w' (L.set i (.row e size A' (n+m) c' (xs++news)))→Mem (bx.row e size A n cap xs).fp w w' [.row e size A' (n+m) c' (xs++news)]→∀a',a'=a.put d (vS A' (n+m) c')→Fr a' N (cO env d (vS A' (n+m) c'))→aV P c K Q k' a' w'):aV P c K Q k a w:=by
 subst jN;obtain⟨A',c',w',hr,hm⟩:=yK (P:=P) (ty:=ty) ht hi (iq Il) (by simpa[pW]using kZ) (hM.get i hL) kJ hl h1 hb Mv (cap':=cap');refine fH hk hF hg (v:=vS A' (n+m) c') (w':=w') (fun o ho Mw=> ?_) (h A' c' w' (by simpa using hM.mod i hL hm) hm _ rfl (hF.put hd _));unfold execOp;rw[ho,Mw];simp only[resolve,invoke,builtin,cT,jO,dz,qB,ga,kc,hF.ev hx,hF.ev hy,hr]
def mZ(P:Program)(f:FuncId):Bool:=match P.funcs[f]? with
 |some fn=> !(fn.name== "runtime.NumGoroutine")&&fn.body.isSome
 |none=>false
theorem ph{f:FuncId}(h:mZ P f=true)(args:Array Value)(w:World):(callFunc f args).run P w= .ok (.enter f args) w:=by
 unfold mZ at h;cases hf:P.funcs[f]? with
 |none=>simp[hf]at h
 |some fn=>
  simp only[hf,bo,jP]at h;have hb:fn.body.isNone=false:=by cases Z0:fn.body<;>simp_all
  have h1:=h.1;simp only[callFunc,cT,run_program,dz,hf,h1,hb,m4,iP];rfl
theorem lv{x:Operand}{args:Array Operand}{ts:Array TypeId}(hk:ay c k=some (d,.call {callee:= .value x,args:=args,argTypes:=ts},ty,g))(hF:Fr a N env)(hg:bt c g env=some true)(hd:gq d N=true)(jN:k+1=k'){f:FuncId}{vs cap:aO}(hx:ev env x=some (.func (.func f) #[] cap.toArray))(yL:P2 env args.toList=some vs)(hf:mZ P f=true){Φ:Value→World→Prop}(hc:Calls P f (vs++cap).toArray w (ff Φ))(h:∀v w',Φ v w'→∀a',a'=a.put d v→Fr a' N (cO env d v)→aV P c K Q k' a' w'):aV P c K Q k a w:=by
 subst jN;refine rq hk hF hg fun o h1 h2 h3 K' KC=> ?_
 unfold Oper.wp;have hr:(execOp a.eval o).run P w= .ok (.enter f (vs++cap).toArray) w:=by
  unfold execOp;rw[h2];have e1:=tG hF yL;have e2:args.map a.eval=vs.toArray:=by apply iO;simpa using e1
  simp[resolve,hF.ev hx,e2,Deferred.ofValue,invoke,ph hf]
 rw[hr,Oper.upon_enter];refine hc.mono ?_;rintro e w' ⟨v,rfl,hv⟩;rw[h1];exact KC _ _ (h v w' hv _ rfl (hF.put hd v))
end
def ou(fn:Func):Code:=fn.body.getD .skip
def Dr:Nat→aO→Env
 |_,[]=>[]
 |i,v::r=>(i,v)::Dr (i+1) r
theorem rz:∀(vs:aO) (i t:Nat) {v:Value},look (Dr i vs) t=some v→i≤t∧vs[t-i]?=some v
 |[],i,t,v,h=>by simp[Dr,look]at h
 |u::r,i,t,v,h=>by
  simp only[Dr,look]at h;split at h
  ·rename_i hb;have:i=t:=iq hb;subst this;exact⟨cB _,by simpa using h⟩
  ·obtain⟨h1,h2⟩:=rz r (i+1) t h;refine⟨oM,?_⟩;have:t-i=(t-(i+1))+1:=oM;rw[this];simpa using h2
theorem enter{P:Program}{f:FuncId}{fn:Func}{N:FN}{vs:aO}{w:World}{R:Ending→World→Prop}(hf:P.funcs[f]?=some fn)(hb:fn.body.isSome=true)(hn:Nat.beq fn.ntmps N.n=true)(hl:Nat.ble vs.length N.n=true)(h:∀a,Fr a N (Dr 0 vs)→W P (ou fn) (bodyPost P fn R .normal) (bodyPost P fn R) a w)(hD:N.D=[]:=by rfl):Calls P f vs.toArray w R:=by
 have hN:fn.ntmps=N.n:=iq hn;have hl':vs.length≤N.n:=sL hl;cases Z0:fn.body with
 |none=>rw[Z0]at hb;cases hb
 |some c=>
  refine calls_of_wp hf Z0 ?_;have:=h {tmps:=vs.toArray++Array.replicate (fn.ntmps-vs.toArray.size) undef,defers:=[]} ⟨hD.symm,by simp[hN];omega,?_⟩
  ·unfold W at this;rw[show ou fn=c by simp[ou,Z0]]at this;refine wp_mono this ?_;intro e a w he;cases e<;>exact he
  ·intro t v hv;obtain⟨_,h2⟩:=rz vs 0 t hv;simp only[Nat.sub_zero]at h2;have ht:t<vs.length:=(List.getElem?_eq_some_iff.1 h2).1;rw[Array.getElem?_append_left (by simpa using ht)];simpa using h2
theorem Qez{P:Program}{fn:Func}{R:Ending→World→Prop}{a:Act}{w:World}{N:FN}{env:Env}{t:Nat}{v:Value}(hF:Fr a N env)(hr:fn.results=#[.tmp t])(hv:look env t=some v)(h:R (.returned v) w)(hD:N.D=[]:=by rfl):bodyPost P fn R .ret a w:=by
 refine bodyPost_ret (v:=v) ?_ (hF.defers.trans hD) h;rw[results_tmp hr];have:=hF.ev (x:= .tmp t) hv;simp only[Act.eval]at this;rw[this]
theorem QeA{P:Program}{fn:Func}{R:Ending→World→Prop}{a:Act}{w:World}{N:FN}{env:Env}{t u:Nat}{v v':Value}(hF:Fr a N env)(hr:fn.results=#[.tmp t,.tmp u])(hv:look env t=some v)(hu:look env u=some v')(h:R (.returned (.tuple #[v,v'])) w)(hD:N.D=[]:=by rfl):bodyPost P fn R .ret a w:=by
 refine bodyPost_ret (v:= .tuple #[v,v']) ?_ (hF.defers.trans hD) h;rw[results_tmp2 hr];have h1:=hF.ev (x:= .tmp t) hv;have h2:=hF.ev (x:= .tmp u) hu;simp only[Act.eval]at h1 h2;rw[h1,h2]
theorem QeB{P:Program}{fn:Func}{R:Ending→World→Prop}{a:Act}{w:World}{N:FN}{env:Env}(hF:Fr a N env)(hr:fn.results=#[])(h:R (.returned (.tuple #[])) w)(hD:N.D=[]:=by rfl):bodyPost P fn R .normal a w:=bodyPost_end (results_none hr _ _ _) (hF.defers.trans hD) h
end Go.Mor
namespace Go.Mor
open Go.RowKit
theorem VS{id P0:Nat}{K:Act→World→Prop}{Q:Exit→Act→World→Prop}{a:Act}{w:World}(e:Nat.beq P0 id=true)(h:K a w):ZX id K Q (.exit P0) a w:=by
 simp only[ZX,e];exact h
theorem B0{P:Program}{c:Code}{K:Act→World→Prop}{Q:Exit→Act→World→Prop}{a:Act}{w:World}(I:Act→World→Prop)(h:∀a w,I a w→K a w)(h':W P c I Q a w):W P c K Q a w:=Qbq h' h (fun _ _ _ h=>h)
theorem nS(g j:Nat):(aZ g).add j=(ah g j):=by unfold Addr.add;split<;>simp_all
theorem bp{w:World}{g t:Nat}{cs:aO}(h:(bx.aL g t cs).holds w)(j:Nat)(v:Value)(hj:cs[j]?=some v):w.cell? ((aZ g).add j)=some v:=by
 rw[nS];exact aa h hj
theorem Mem.gb(w:World)(e size:Nat):Mem aX w w [.row e size none 0 0 []]:=by
 refine⟨rfl,rfl,rfl,cB _,fun _ _ _=>rfl,?_,jM _ _⟩;simp only[cI];rintro _ rfl;exact⟨KE w e size,fun g hg=>by obtain⟨a,ha,_⟩:=hg;cases ha⟩
theorem kf{w:World}{A:ao}{ad:Addr}{xs:aO}(h:(bx.rd A xs).holds w)(hA:A=some ad){j:Nat}{v:Value}(hj:xs[j]?=some v):w.cell? (ad.add j)=some v:=by
 obtain⟨a',ha,hc⟩:=h j v hj;rw[hA]at ha;injection ha with ha;subst ha;exact hc
theorem bH{w:World}{A:ao}{ad:Addr}{xs:aO}(h:(bx.rd A xs).holds w)(hA:A=some ad){j:Nat}{v:Value}(hj:xs[j]?=some v):w.cell? (ad.add (j*1))=some v:=by
 rw[eE];exact kf h hA hj
theorem rd_some{w:World}{A:ao}{xs:aO}(h:(bx.rd A xs).holds w)(hn:0<xs.length):∃ad,A=some ad:=by
 obtain⟨a',ha,_⟩:=h 0 xs[0] (by simp[hn]);exact⟨a',ha⟩
def ints(l:af):aO:=l.map vI
theorem P9{l:af}{i:Nat}(h:i<l.length):(ints l)[i]?=some (vI (l.getD i 0)):=by
 simp[ints,List.getD,h]
theorem dq(l:af):(ints l).length=l.length:=by simp[ints]
theorem gl(l m:af):ints (l++m)=ints l++ints m:=by simp[ints]
theorem FE(l:af):∀u∈ints l,u.oneCell'=true:=by
 intro u hu;simp only[ints,bD]at hu;obtain⟨x,_,rfl⟩:=hu;rfl
theorem cY{w:World}{A:ao}{ad:Addr}{l:af}(h:(bx.rd A (ints l)).holds w)(hA:A=some ad){i:Int}(h0:0≤i)(h1:i<l.length):w.cell? (ad.add (i.toNat*1))=some (vI (l.getD i.toNat 0)):=bH h hA (P9 oM)
theorem g9{w:World}{A:ao}{ad:Addr}{l:af}(h:(bx.rd A (ints l)).holds w)(hA:A=some ad){i:Nat}{v:Int}(hi:l[i]?=some v):w.cell? (ad.add ((i:Int).toNat*1))=some (vI v):=by
 rw[cZ];exact bH h hA (by simp[ints,hi])
theorem ek{w:World}{A:ao}{l:af}(h:(bx.rd A (ints l)).holds w)(hn:0<l.length):∃ad,A=some ad:=rd_some h (by rw[dq];exact hn)
end Go.Mor
