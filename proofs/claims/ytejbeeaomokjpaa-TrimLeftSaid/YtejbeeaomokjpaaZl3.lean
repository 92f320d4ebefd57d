/-
  Texts of the proof, part 3.
-/
import Derived.Test.YtejbeeaomokjpaaZl2
import Derived.Maps.AppendAt
set_option maxRecDepth 10000
namespace Go.Mor
open Go.RowKit
def fE(Φ:Value→World→Prop)(e:Ending)(w:World):Prop:=∃v,e= .returned v∧Φ v w
def uq(P:Program)(t:TypeId):Bool:=match P.underlying t with
 |some (.struct _)=>false
 |some (.array _ _)=>false
 |some _=>match P.info? t with
  |some i=>Nat.beq i.size 1
  |none=>false
 |none=>false
def tf(P:Program)(t:TypeId):Option Nat:=match P.underlying t with
 |some (.struct _)=>(P.info? t).map (·.size)
 |some (.array _ _)=>(P.info? t).map (·.size)
 |_=>none
theorem Ff{P:Program}{t:TypeId}(h:uq P t=true)(w:World):(isAgg t).run P w= .ok false w:=by
 unfold uq at h;split at h
 ·cases h
 ·cases h
 ·rename_i d h1 h2 u;simp only[isAgg,xf,vc u,Qdu];cases d<;>first|rfl|(exact absurd rfl (h1 _))|(exact absurd rfl (h2 _ _))
 ·cases h
theorem z1{P:Program}{t:TypeId}(h:uq P t=true)(w:World):(sizeOf t).run P w= .ok 1 w:=by
 unfold uq at h;split at h
 ·cases h
 ·cases h
 ·split at h
  ·rename_i i hi;have:i.size=1:=sZ h;simp[sizeOf,typeInfo,hi,this]
  ·cases h
 ·cases h
theorem mg{P:Program}{t:TypeId}{n:Nat}(h:tf P t=some n)(w:World):(isAgg t).run P w= .ok true w∧(sizeOf t).run P w= .ok n w:=by
 unfold tf at h;split at h
 ·rename_i u;cases hi:P.info? t with
  |none=>simp[hi]at h
  |some i=>simp[hi]at h;subst h;simp[isAgg,vc u,sizeOf,typeInfo,hi]
 ·rename_i u;cases hi:P.info? t with
  |none=>simp[hi]at h
  |some i=>simp[hi]at h;subst h;simp[isAgg,vc u,sizeOf,typeInfo,hi]
 ·cases h
theorem oW{v:Value}(h:v.oneCell'=true):v.cells=#[v]:=by cases v<;>simp[Value.oneCell']at h<;>rfl
section
variable {P : Program} {c : Code} {K : Act → World → Prop} {Q : Exit → Act → World → Prop} {a : Act} {w w0 : World} {S : Nat → Prop} {L : List bo} {k k' : Nat} {N : FN} {env : Env}
variable {d : Option Nat} {ty : Nat} {g : Option (Nat × Bool)}
theorem eO{op:Op}(hk:ao c k=some (d,op,ty,g))(hF:Fr a N env)(hg:bw c g env=some true)(hd:iy d N=true)(ja:k+1=k'){v:Value}(hr:∀o:Oper,o.op=op→(execOp a.eval o).run P w= .ok (.value v) w)(h:∀a',a'=a.put d v→Fr a' N (dE env d v)→br P c K Q k' a' w):br P c K Q k a w:=by
 subst ja;exact gX hk hF hg (fun o ho _=>hr o ho) (h _ rfl (hF.put hd v))
theorem eU{op:Op}(hk:ao c k=some (d,op,ty,g))(hF:Fr a N env)(hg:bw c g env=some true)(hd:iy d N=true)(ja:k+1=k'){v:Value}(hv:nY P env op=some v)(h:∀a',a'=a.put d v→Fr a' N (dE env d v)→br P c K Q k' a' w):br P c K Q k a w:=eO hk hF hg hd ja (fun _ ho=>run_pure hF hv ho w) h
theorem p8{t:TypeId}{x:Operand}(hk:ao c k=some (d,.load t x,ty,g))(hF:Fr a N env)(hg:bw c g env=some true)(hd:iy d N=true)(ja:k+1=k'){ad:Addr}{v:Value}(hx:ev env x=some (vP ad))(ht:uq P t=true)(hc:w.cell? ad=some v)(h:∀a',a'=a.put d v→Fr a' N (dE env d v)→br P c K Q k' a' w):br P c K Q k a w:=by
 refine eO hk hF hg hd ja (fun o ho=> ?_) h;unfold execOp;rw[ho];simp[Instr.loadAt,Instr.sureAddr,hF.ev hx,loadVar,Ff ht,hc]
theorem eV{t:TypeId}{x:Operand}(hk:ao c k=some (d,.load t x,ty,g))(hF:Fr a N env)(hg:bw c g env=some true)(hd:iy d N=true)(ja:k+1=k'){ad:Addr}{vs:aW}(hx:ev env x=some (vP ad))(ht:tf P t=some vs.length)(hc:∀j v,vs[j]?=some v→w.cell? (ad.add j)=some v)(h:∀a',a'=a.put d (.agg vs.toArray)→Fr a' N (dE env d (.agg vs.toArray))→br P c K Q k' a' w):br P c K Q k a w:=by
 refine eO hk hF hg hd ja (fun o ho=> ?_) h;unfold execOp;rw[ho];obtain⟨h1,h2⟩:=mg ht w;simp[Instr.loadAt,Instr.sureAddr,hF.ev hx,loadVar,h1,h2,run_loadCells_list (P:=P) w ad vs hc]
theorem fU{op:BinOp}{t t':TypeId}{x y:Operand}(hk:ao c k=some (d,.binOp op t x y t',ty,g))(hF:Fr a N env)(hg:bw c g env=some true)(hd:iy d N=true)(ja:k+1=k'){i j z:Int}(hx:ev env x=some (vI i))(hy:ev env y=some (vI j))(hz:X0 op i j=some z)(h1: -9223372036854775808≤z)(h2:z≤9223372036854775807)(h:∀a',a'=a.put d (vI z)→Fr a' N (dE env d (vI z))→br P c K Q k' a' w):br P c K Q k a w:=by
 refine eO hk hF hg hd ja (fun o ho=> ?_) h;unfold execOp;rw[ho];have hw:IntKind.i64.wrap z=z:=IntWalk.i64_in z ⟨h1,h2⟩;cases op<;>simp only[X0]at hz<;>first
  |(cases hz;done)
  |(injection hz with hz;subst hz;simp[hF.ev hx,hF.ev hy,eqGuard,binOp,Op.intArith,hw])
theorem z7{op:BinOp}{t t':TypeId}{x y:Operand}(hk:ao c k=some (d,.binOp op t x y t',ty,g))(hF:Fr a N env)(hg:bw c g env=some true)(hd:iy d N=true)(ja:k+1=k'){kd:IntKind}{i j:Int}{b:Bool}(hx:ev env x=some (.int kd i))(hy:ev env y=some (.int kd j))(hb:HH op i j=some b)(h:∀B,B=b→∀a',a'=a.put d (vB B)→Fr a' N (dE env d (vB B))→br P c K Q k' a' w):br P c K Q k a w:=by
 refine eO hk hF hg hd ja (fun o ho=> ?_) (h b rfl);refine run_pure hF (op:= .binOp op t x y t') ?_ ho w;simp[nY,hx,hy,hb]
theorem Qgo{t:TypeId}{x:Operand}(hk:ao c k=some (d,.box t x,ty,g))(hF:Fr a N env)(hg:bw c g env=some true)(hd:iy d N=true)(ja:k+1=k'){v:Value}{cs:aW}(hx:ev env x=some v)(Cn:v.cells=cs.toArray)(hM:Mem S w0 w L)(h:∀b w',w0.heap.size≤b→w.heap.size≤b→Mem S w0 w' (L++[.au b t cs])→Mem bK w w' [.au b t cs]→∀a',a'=a.put d (vP (aZ b))→Fr a' N (dE env d (vP (aZ b)))→br P c K Q k' a' w'):br P c K Q k a w:=by
 subst ja;refine gX hk hF hg (v:= .pointer (some (aZ w.heap.size))) (w':=w.alloc (.cells cs.toArray t)) (fun o ho _=> ?_) (h w.heap.size (w.alloc (.cells cs.toArray t)) hM.size (Qjn _) (hM.call (Mem.alloc w t cs)) (Mem.alloc w t cs) _ rfl (hF.put hd _));unfold execOp;rw[ho];simp[Instr.box,hF.ev hx,newVar,newRow,Cn]
theorem mL{t:TypeId}(hk:ao c k=some (d,.alloc t,ty,g))(hF:Fr a N env)(hg:bw c g env=some true)(hd:iy d N=true)(ja:k+1=k'){cs:aW}(hz:(P.info? t).map (fun i=>i.zero.map (fun z=>z.cells.toList))=some (some cs))(hM:Mem S w0 w L)(h:∀b w',w0.heap.size≤b→w.heap.size≤b→Mem S w0 w' (L++[.au b t cs])→Mem bK w w' [.au b t cs]→∀a',a'=a.put d (vP (aZ b))→Fr a' N (dE env d (vP (aZ b)))→br P c K Q k' a' w'):br P c K Q k a w:=by
 subst ja;refine gX hk hF hg (v:= .pointer (some (aZ w.heap.size))) (w':=w.alloc (.cells cs.toArray t)) (fun o ho _=> ?_) (h w.heap.size (w.alloc (.cells cs.toArray t)) hM.size (Qjn _) (hM.call (Mem.alloc w t cs)) (Mem.alloc w t cs) _ rfl (hF.put hd _));unfold execOp;rw[ho];cases hi:P.info? t with
 |none=>simp[hi]at hz
 |some i=>
  cases z8:i.zero with
  |none=>simp[hi,z8]at hz
  |some z=>
   simp[hi,z8]at hz;subst hz;simp[Instr.alloc,zeroValue,typeInfo,hi,z8,newVar,newRow]
theorem eW{t:TypeId}{x y:Operand}(hk:ao c k=some (d,.store t x y,ty,g))(hF:Fr a N env)(hg:bw c g env=some true)(hd:iy d N=true)(ja:k+1=k'){b off t0:Nat}{v:Value}{cs:aW}(hx:ev env x=some (vP (ak b off)))(hy:ev env y=some v)(ht:uq P t=true)(hv:v.oneCell'=true)(hM:Mem S w0 w L)(i:Nat)(hi:L[i]?=some (.au b t0 cs))(ho:off<cs.length)(h:∀w',Mem S w0 w' (L.set i (.au b t0 (cs.set off v)))→Mem (bo.au b t0 cs).fp w w' [.au b t0 (cs.set off v)]→∀a',a'=a.put d undef→Fr a' N (dE env d undef)→br P c K Q k' a' w'):br P c K Q k a w:=by
 subst ja;have hb:=hM.get i hi;have hm:=Mem.Eb (i:=off) hb v;refine oU hk hF hg (w':=w.setCell (ak b off) v) (fun o Qy=> ?_) (h _ (by simpa using hM.mod i hi hm) hm _ rfl (hF.put hd _));have nZ:w.cell? (ak b off)=some cs[off]:=ae hb (by simp[ho]);unfold execOp;rw[Qy];have qZ:(store (ak b off) v).run P w= .ok () (w.setCell (ak b off) v):=by rw[run_store P w _ v .plain hv,nZ];simp[uo hb]
 simp[Instr.storeAt,Instr.sureAddr,hF.ev hx,hF.ev hy,storeVar,oW hv,z1 ht,storeCells,Addr.add,qZ]
theorem dZ{t:TypeId}{x y:Operand}(hk:ao c k=some (d,.store t x y,ty,g))(hF:Fr a N env)(hg:bw c g env=some true)(hd:iy d N=true)(ja:k+1=k'){ad:Addr}{j e size n cap:Nat}{v:Value}{xs:aW}{ad':Addr}(hx:ev env x=some (vP ad'))(vg:ad'=ad.add j)(hy:ev env y=some v)(ht:uq P t=true)(hv:v.oneCell'=true)(hM:Mem S w0 w L)(i:Nat)(hi:L[i]?=some (.row e size (some ad) n cap xs))(hj:j<n*size)(h:∀w',Mem S w0 w' (L.set i (.row e size (some ad) n cap (xs.set j v)))→Mem (bo.row e size (some ad) n cap xs).fp w w' [.row e size (some ad) n cap (xs.set j v)]→∀a',a'=a.put d undef→Fr a' N (dE env d undef)→br P c K Q k' a' w'):br P c K Q k a w:=by
 subst ja;subst vg;have hb:=hM.get i hi;have hm:=Mem.yj (j:=j) hb v;refine oU hk hF hg (w':=w.setCell (ad.add j) v) (fun o Qy=> ?_) (h _ (by simpa using hM.mod i hi hm) hm _ rfl (hF.put hd _));have hl:j<xs.length:=by rw[tA hb];exact hj
 obtain⟨a',nQ,nZ⟩:=aB hb j xs[j] (by simp[hl]);injection nQ with nQ;subst nQ;unfold execOp;rw[Qy];have qZ:(store (ad.add j) v).run P w= .ok () (w.setCell (ad.add j) v):=by rw[run_store P w _ v .plain hv,nZ];simp[mK hb]
 have h0:(ad.add j).add 0=ad.add j:=by simp[Addr.add]
 simp[Instr.storeAt,Instr.sureAddr,hF.ev hx,hF.ev hy,storeVar,oW hv,z1 ht,storeCells,h0,qZ]
theorem D8{b t0:Nat}:∀(vs:aW) (i:Nat) {cs:aW} {w:World},(∀v∈vs,v.oneCell'=true)→(bo.au b t0 cs).holds w→i+vs.length≤cs.length→∃w',(storeCells (aZ b) vs i).run P w= .ok () w'∧Mem (bo.au b t0 cs).fp w w' [.au b t0 (cs.take i++vs++cs.drop (i+vs.length))]
 |[],i,cs,w,_,hb,_=>⟨w,by simp[storeCells],by simpa using Mem.nr hb⟩
 |v::vs,i,cs,w,h1,hb,hl=>by
  simp only[je]at hl;have hm:=Mem.Eb (i:=i) hb v;have Co:=hm.get 0 rfl;obtain⟨w',hr,HK⟩:=D8 vs (i+1) (fun u hu=>h1 u (QiV _ hu)) Co (by simp;omega);refine⟨w',?_,?_⟩
  ·have e:(aZ b).add i=(ak b i):=by unfold Addr.add;split<;>simp_all
   have nZ:w.cell? (ak b i)=some (cs[i]'oM):=ae hb sI;have qZ:(store (ak b i) v).run P w= .ok () (w.setCell (ak b i) v):=by rw[run_store P w _ v .plain (h1 v (en ..)),nZ];simp[uo hb]
   simp only[storeCells,xf,e,qZ,Qdu,hr]
  ·have HL:(cs.set i v).take (i+1)++vs++(cs.set i v).drop (i+1+vs.length)=cs.take i++v::vs++cs.drop (i+(v::vs).length):=by rw[QjK (by simp;omega),ej,dd oM];simp[Qjh (Qjn _),Qjg,Nat.add_comm 1]
   rw[HL]at HK;have:=hm.mod 0 rfl HK;simpa using this
theorem fo{t:TypeId}{x y:Operand}(hk:ao c k=some (d,.store t x y,ty,g))(hF:Fr a N env)(hg:bw c g env=some true)(hd:iy d N=true)(ja:k+1=k'){b t0:Nat}{vs cs:aW}(hx:ev env x=some (vP (aZ b)))(hy:ev env y=some (.agg vs.toArray))(ht:tf P t=some vs.length)(hv:∀v∈vs,v.oneCell'=true)(hM:Mem S w0 w L)(i:Nat)(hi:L[i]?=some (.au b t0 cs))(ho:cs.length=vs.length)(h:∀w',Mem S w0 w' (L.set i (.au b t0 vs))→Mem (bo.au b t0 cs).fp w w' [.au b t0 vs]→∀a',a'=a.put d undef→Fr a' N (dE env d undef)→br P c K Q k' a' w'):br P c K Q k a w:=by
 subst ja;have hb:=hM.get i hi;obtain⟨w',hr,hm⟩:=D8 (P:=P) vs 0 hv hb oM;have hl:cs.take 0++vs++cs.drop (0+vs.length)=vs:=by simp[←ho]
 rw[hl]at hm;refine oU hk hF hg (w':=w') (fun o Qy=> ?_) (h _ (by simpa using hM.mod i hi hm) hm _ rfl (hF.put hd _));unfold execOp;rw[Qy];simp[Instr.storeAt,Instr.sureAddr,hF.ev hx,hF.ev hy,storeVar,(mg ht w).2,Value.cells,hr]
theorem p9{t:TypeId}{x y:Operand}(hk:ao c k=some (d,.indexAddr t x y,ty,g))(hF:Fr a N env)(hg:bw c g env=some true)(hd:iy d N=true)(ja:k+1=k'){A:aX}{ad:Addr}{n cap e size:Nat}{kd:IntKind}{i:Int}(hx:ev env x=some (vS A n cap))(hy:ev env y=some (.int kd i))(hA:A=some ad)(ht:P.underlying t=some (.slice e))(hs:(P.info? e).map (·.size)=some size)(h0:0≤i)(h1:i<n)(h:∀a',a'=a.put d (vP (ad.add (i.toNat*size)))→Fr a' N (dE env d (vP (ad.add (i.toNat*size))))→br P c K Q k' a' w):br P c K Q k a w:=by
 subst hA;refine eO hk hF hg hd ja (fun o ho=> ?_) h;unfold execOp;rw[ho];cases hi:P.info? e with
 |none=>simp[hi]at hs
 |some inf=>
  simp[hi]at hs;subst hs;simp[Instr.indexAt,asIntOf,hF.ev hx,hF.ev hy,vc ht,h0,h1,sizeOf,typeInfo,hi]
theorem fW{t:TypeId}{x y:Operand}(hk:ao c k=some (d,.slice t x none (some y) none,ty,g))(hF:Fr a N env)(hg:bw c g env=some true)(hd:iy d N=true)(ja:k+1=k'){A:aX}{n cap e size:Nat}{kd:IntKind}{i:Int}(m:Nat)(hx:ev env x=some (vS A n cap))(hy:ev env y=some (.int kd i))(hm:i=(m:Int))(ht:P.underlying t=some (.slice e))(hs:(P.info? e).map (·.size)=some size)(h1:m≤cap)(h:∀a',a'=a.put d (vS A m cap)→Fr a' N (dE env d (vS A m cap))→br P c K Q k' a' w):br P c K Q k a w:=by
 refine eO hk hF hg hd ja (fun o ho=> ?_) h;subst hm;unfold execOp;rw[ho];cases hi:P.info? e with
 |none=>simp[hi]at hs
 |some inf=>
  have hA:(if cap=0 then A else A.map (·.add 0))=A:=by
   split
   ·rfl
   ·cases A<;>simp[Addr.add]
  simp[Instr.sliceAt,Instr.slice,Instr.sliceBounds,Instr.sliceBound,asIntOf,hF.ev hx,hF.ev hy,vc ht,sizeOf,typeInfo,hi,h1,hA]
theorem ky{t:TypeId}{x y:Operand}(hk:ao c k=some (d,.slice t x (some y) none none,ty,g))(hF:Fr a N env)(hg:bw c g env=some true)(hd:iy d N=true)(ja:k+1=k'){A:aX}{n cap e size:Nat}{kd:IntKind}{i:Int}(m:Nat)(hx:ev env x=some (vS A n cap))(hy:ev env y=some (.int kd i))(hm:i=(m:Int))(ht:P.underlying t=some (.slice e))(hs:(P.info? e).map (·.size)=some size)(h1:m≤n)(h:∀a',a'=a.put d (vS (if cap=m then A else A.map (·.add (m*size))) (n-m) (cap-m))→Fr a' N (dE env d (vS (if cap=m then A else A.map (·.add (m*size))) (n-m) (cap-m)))→br P c K Q k' a' w):br P c K Q k a w:=by
 refine eO hk hF hg hd ja (fun o ho=> ?_) h;subst hm;unfold execOp;rw[ho];cases hi:P.info? e with
 |none=>simp[hi]at hs
 |some inf=>
  simp[hi]at hs;subst hs;simp[Instr.sliceAt,Instr.slice,Instr.sliceBounds,Instr.sliceBound,asIntOf,hF.ev hx,hF.ev hy,vc ht,sizeOf,typeInfo,hi,h1]
theorem th{t:TypeId}{len:Nat}{ps:Array (Nat×Operand)}(hk:ao c k=some (d,.buildSlice t len ps,ty,g))(hF:Fr a N env)(hg:bw c g env=some true)(hd:iy d N=true)(ja:k+1=k'){e size:Nat}{zs:aW}{vs:List (Nat×Value)}{cs:aW}(ht:P.underlying t=some (.slice e))(hi:(P.info? e).map (fun i=>(i.size,i.zero.map (·.cells.toList)))=some (size,some zs))(hp:parts env ps.toList=some vs)(jv:(Nat.ble 1 (len*size)&&Nat.ble (len*size) 1000)=true)(HM:Instr.fill (fun i=>some (i*size,size)) ((Array.range (len*size)).map (zs.toArray[· % zs.toArray.size]!)) vs=some cs.toArray)(hl:Nat.beq cs.length (len*size)=true)(hM:Mem S w0 w L)(h:∀b w',w0.heap.size≤b→w.heap.size≤b→Mem S w0 w' (L++[.row e size (some (aZ b)) len len cs])→Mem bK w w' [.row e size (some (aZ b)) len len cs]→∀a',a'=a.put d (vS (some (aZ b)) len len)→Fr a' N (dE env d (vS (some (aZ b)) len len))→br P c K Q k' a' w'):br P c K Q k a w:=by
 subst ja;have T7:1≤len*size∧len*size≤1000:=by rw[Qjo]at jv;exact⟨nL jv.1,nL jv.2⟩
 have CD:cs.length=len*size:=sZ hl;have Hh:0<size:=by
  rcases Qcv size with h0|h0
  ·rw[h0]at T7;omega
  ·exact h0
 have hlen:len≤1000:=pX (Nat.le_mul_of_pos_right _ Hh) T7.2;have j0:(bo.row e size (some (aZ w.heap.size)) len len cs).holds (w.alloc (.cells cs.toArray e)):=by have:=World.ownsRow_lit (base:=0) (e:=e) (size:=size) w cs.toArray len (Qdv _) (by simp only[maxLen];omega) (by simpa using CD);show World.ownsRow _ _ _ _ _ _ _;simpa using this
 have hm:Mem bK w (w.alloc (.cells cs.toArray e)) [.row e size (some (aZ w.heap.size)) len len cs]:=by refine(Mem.alloc w e cs).Ze 0 rfl (fun _=>j0) ?_;rintro g' ⟨a',nQ,rfl⟩;injection nQ with nQ;subst nQ;rfl
 refine gX hk hF hg (v:=vS (some (aZ w.heap.size)) len len) (w':=w.alloc (.cells cs.toArray e)) (fun o ho _=> ?_) (h w.heap.size (w.alloc (.cells cs.toArray e)) hM.size (Qjn _) (hM.call hm) hm _ rfl (hF.put hd _));unfold execOp;rw[ho];have e1:=Qft hF hp;have e2:(ps.map fun(i,x)=>(i,a.eval x))=vs.toArray:=by apply qC;simpa using e1
 cases ln:P.info? e with
 |none=>simp[ln]at hi
 |some inf=>
  simp only[ln,s9,p5,eh]at hi;obtain⟨hs,hz⟩:=hi;subst hs;cases z8:inf.zero with
  |none=>simp[z8]at hz
  |some z=>
   simp only[z8,s9,p5]at hz;subst hz;have n1:¬(16777216<len*inf.size):=oM;have n2:¬(len*inf.size=0):=oM;have Qz:Instr.fill (fun i=>some (i*inf.size,inf.size)) ((Array.range (len*inf.size)).map (z.cells[· % z.cells.size]!)) vs=some cs.toArray:=by simpa using HM
   have Mj:(sizeOf e).run P w= .ok inf.size w:=by simp[sizeOf,typeInfo,ln]
   have T8:(zeroValue e).run P w= .ok z w:=by simp[zeroValue,typeInfo,ln,z8]
   simp only[Instr.buildSlice,xf,vc ht,Mj,Qdu,e2,Nat.reducePow,gt_iff_lt,n1,n2,sy,Qjp,Sem.run_ite,T8,Qz,newRow,run_newObj];rfl
theorem qa{t:TypeId}{x y:Operand}(hk:ao c k=some (d,.makeSlice t x y,ty,g))(hF:Fr a N env)(hg:bw c g env=some true)(hd:iy d N=true)(ja:k+1=k'){e bytes:Nat}{z:Value}{n:Nat}{i:Int}(hx:ev env x=some (vI i))(hy:ev env y=some (vI i))(hn:i=(n:Int))(ht:P.underlying t=some (.slice e))(hi:(P.info? e).map (fun i=>(i.size,i.bytes,i.zero))=some (1,bytes,some z))(hz:z.oneCell'=true)(hb:bytes*n≤140737488355328)(hl:n≤maxLen)(hM:Mem S w0 w L)(h:∀b w',w0.heap.size≤b→w.heap.size≤b→Mem S w0 w' (L++[.row e 1 (some (aZ b)) n n (List.replicate n z)])→Mem bK w w' [.row e 1 (some (aZ b)) n n (List.replicate n z)]→∀a',a'=a.put d (vS (some (aZ b)) n n)→Fr a' N (dE env d (vS (some (aZ b)) n n))→br P c K Q k' a' w'):br P c K Q k a w:=by
 subst ja;subst hn;cases ln:P.info? e with
 |none=>simp[ln]at hi
 |some inf=>
  simp only[ln,s9,p5,eh]at hi;obtain⟨hs,T9,z8⟩:=hi;subst T9;obtain⟨w',hr,we,Fg⟩:=run_make_full (P:=P) w 0 t e inf z 1 ht ln z8 hs .i64 .i64 n oM hl (Qdv _);rw[oW hz,QiX,toList_madeCells_one]at we;have hm:Mem bK w w' [.row e 1 (some (aZ w.heap.size)) n n (List.replicate n z)]:=by refine⟨Fg.os,Fg.tape,Fg.output,Fg.size,fun k hk _=>Fg.block k hk sI,?_,cc _ _⟩;simp only[QcC];rintro _ rfl;refine⟨we,?_⟩;rintro g' ⟨a',nQ,rfl⟩;injection nQ with nQ;subst nQ;exact .inr (Qjn _)
  refine gX hk hF hg (v:=vS (some (aZ w.heap.size)) n n) (w':=w') (fun o ho _=> ?_) (h w.heap.size w' hM.size (Qjn _) (hM.call hm) hm _ rfl (hF.put hd _));unfold execOp;rw[ho];simp only[hF.ev hx,hF.ev hy,xf,hr,Qdu];rfl
theorem qb(w:World)(t ty e:TypeId)(i:TypeInfo)(size:Nat)(ht:P.underlying t=some (.slice e))(hi:P.info? e=some i)(v:Value)(n:Nat)(xs:aW)(we:w.ownsRow 0 e size v n xs)(c:Nat):(Builtin.append_ #[t,t] ty #[v,.slice none 0 c]).run P w= .ok v w:=by
 rcases we.2 with⟨rfl,rfl⟩|⟨g,cap,cur,rfl,_,_,Ps,_⟩
 ·simp[Builtin.append_,vc ht,sizeOf,typeInfo,hi,Builtin.lenOf,Builtin.firstCells]
 ·simp[Builtin.append_,vc ht,sizeOf,typeInfo,hi,Builtin.lenOf,Builtin.firstCells,Ps,storeCells]
theorem uu{t ty e size bytes:Nat}{z:Value}(ht:P.underlying t=some (.slice e))(hi:(P.info? e).map (fun i=>(i.size,i.bytes,i.zero))=some (size,bytes,some z))(Ua:z.cells.size=size)(jv:0<size){A B:aX}{n cap m cap':Nat}{xs news:aW}(j0:(bo.row e size A n cap xs).holds w)(Fh:(bo.rd B news).holds w)(hl:news.length=m*size)(h1:∀u∈news,u.oneCell'=true)(hb:(n+m)*bytes≤140737488355328)(Pt:n+m≤maxLen):∃A' c' w',(Builtin.append_ #[t,t] ty #[.slice A n cap,.slice B m cap']).run P w= .ok (vS A' (n+m) c') w'∧Mem (bo.row e size A n cap xs).fp w w' [.row e size A' (n+m) c' (xs++news)]:=by
 cases ln:P.info? e with
 |none=>simp[ln]at hi
 |some inf=>
  simp only[ln,s9,p5,eh]at hi;obtain⟨hs,T9,z8⟩:=hi;by_cases Zf:m=0∧B=none
  ·obtain⟨rfl,rfl⟩:=Zf;have hn:news=[]:=ze (by simpa using hl);subst hn;refine⟨A,cap,w,qb w t ty e inf size ht ln _ n xs j0 cap',?_⟩;simpa using Mem.nr j0
  ·have hB:∃ad,B=some ad∧∀j u,news[j]?=some u→w.cell? (ad.add j)=some u:=by
    cases B with
    |none=>
     have hm:m≠0:=fun h=>Zf ⟨h,rfl⟩
     have hn:0<news.length:=by rw[hl];exact Nat.mul_pos oM jv
     obtain⟨ad,h,_⟩:=Fh 0 news[0] (by simp[hn]);cases h
    |some ad=>
     refine⟨ad,rfl,fun j u hu=> ?_⟩;obtain⟨a',nQ,hc⟩:=Fh j u hu;injection nQ with nQ;subst nQ;exact hc
   obtain⟨ad,rfl,QA⟩:=hB;obtain⟨v',w',hr,we,Fg,_,hw⟩:=run_append_own_at (P:=P) w 0 t ty e inf z size bytes ht ln z8 hs T9 Ua jv (vS A n cap) n xs j0 ad m cap' news hl QA h1 Pt hb (Qdv _);have Ub:∃A' c',v'=vS A' (n+m) c':=by
    rcases we.2 with⟨rfl,h0⟩|⟨g',yI,cur,rfl,_⟩
    ·exact⟨none,0,by rw[h0]⟩
    ·exact⟨_,_,rfl⟩
   obtain⟨A',c',rfl⟩:=Ub;exact⟨A',c',w',hr,Mem.grown Fg we hw⟩
theorem Ac{t:TypeId}{x y:Operand}(hk:ao c k=some (d,.call {callee:= .builtin .append,args:=#[x,y],argTypes:=#[t,t]},ty,g))(hF:Fr a N env)(hg:bw c g env=some true)(hd:iy d N=true)(ja:k+1=k'){e size bytes:Nat}{z:Value}(ht:P.underlying t=some (.slice e))(hi:(P.info? e).map (fun i=>(i.size,i.bytes,i.zero))=some (size,bytes,some z))(Ua:Nat.beq z.cells.size size=true)(jv:Nat.blt 0 size=true){A B:aX}{n cap m cap':Nat}{xs news:aW}(hx:ev env x=some (vS A n cap))(hy:ev env y=some (vS B m cap'))(hM:Mem S w0 w L)(i:Nat)(hL:L[i]?=some (.row e size A n cap xs))(Fh:(bo.rd B news).holds w)(hl:news.length=m*size)(h1:∀u∈news,u.oneCell'=true)(hb:(n+m)*bytes≤140737488355328)(Pt:n+m≤maxLen)(h:∀A' c' w',Mem S w0 w' (L.set i (.row e size A' (n+m) c' (xs++news)))→Mem (bo.row e size A n cap xs).fp w w' [.row e size A' (n+m) c' (xs++news)]→∀a',a'=a.put d (vS A' (n+m) c')→Fr a' N (dE env d (vS A' (n+m) c'))→br P c K Q k' a' w'):br P c K Q k a w:=by
 subst ja;obtain⟨A',c',w',hr,hm⟩:=uu (P:=P) (ty:=ty) ht hi (sZ Ua) (by simpa[Qdg]using jv) (hM.get i hL) Fh hl h1 hb Pt (cap':=cap');refine gX hk hF hg (v:=vS A' (n+m) c') (w':=w') (fun o ho Zg=> ?_) (h A' c' w' (by simpa using hM.mod i hL hm) hm _ rfl (hF.put hd _));unfold execOp;rw[ho,Zg];simp only[resolve,invoke,builtin,xf,Qjp,Qdu,Qdx,lR,Qi3,hF.ev hx,hF.ev hy,hr]
def uw(P:Program)(f:FuncId):Bool:=match P.funcs[f]? with
 |some fn=> !(fn.name== "runtime.NumGoroutine")&&fn.body.isSome
 |none=>false
theorem yo{f:FuncId}(h:uw P f=true)(args:Array Value)(w:World):(callFunc f args).run P w= .ok (.enter f args) w:=by
 unfold uw at h;cases hf:P.funcs[f]? with
 |none=>simp[hf]at h
 |some fn=>
  simp only[hf,Qjo,dB]at h;have hb:fn.body.isNone=false:=by cases X2:fn.body<;>simp_all
  have h1:=h.1;simp only[callFunc,xf,run_program,Qdu,hf,h1,hb,Qcr,sy];rfl
theorem iT{x:Operand}{args:Array Operand}{ts:Array TypeId}(hk:ao c k=some (d,.call {callee:= .value x,args:=args,argTypes:=ts},ty,g))(hF:Fr a N env)(hg:bw c g env=some true)(hd:iy d N=true)(ja:k+1=k'){f:FuncId}{vs cap:aW}(hx:ev env x=some (.func (.func f) #[] cap.toArray))(Uc:Mg env args.toList=some vs)(hf:uw P f=true){Φ:Value→World→Prop}(hc:Calls P f (vs++cap).toArray w (fE Φ))(h:∀v w',Φ v w'→∀a',a'=a.put d v→Fr a' N (dE env d v)→br P c K Q k' a' w'):br P c K Q k a w:=by
 subst ja;refine yh hk hF hg fun o h1 h2 h3 K' Mf=> ?_
 unfold Oper.wp;have hr:(execOp a.eval o).run P w= .ok (.enter f (vs++cap).toArray) w:=by
  unfold execOp;rw[h2];have e1:=tB hF Uc;have e2:args.map a.eval=vs.toArray:=by apply qC;simpa using e1
  simp[resolve,hF.ev hx,e2,Deferred.ofValue,invoke,yo hf]
 rw[hr,Oper.upon_enter];refine hc.mono ?_;rintro e w' ⟨v,rfl,hv⟩;rw[h1];exact Mf _ _ (h v w' hv _ rfl (hF.put hd v))
end
def yp(fn:Func):Code:=fn.body.getD .skip
def Fi:Nat→aW→Env
 |_,[]=>[]
 |i,v::r=>(i,v)::Fi (i+1) r
theorem wR:∀(vs:aW) (i t:Nat) {v:Value},look (Fi i vs) t=some v→i≤t∧vs[t-i]?=some v
 |[],i,t,v,h=>by simp[Fi,look]at h
 |u::r,i,t,v,h=>by
  simp only[Fi,look]at h;split at h
  ·rename_i hb;have:i=t:=sZ hb;subst this;exact⟨Qjn _,by simpa using h⟩
  ·obtain⟨h1,h2⟩:=wR r (i+1) t h;refine⟨oM,?_⟩;have:t-i=(t-(i+1))+1:=oM;rw[this];simpa using h2
theorem enter{P:Program}{f:FuncId}{fn:Func}{N:FN}{vs:aW}{w:World}{R:Ending→World→Prop}(hf:P.funcs[f]?=some fn)(hb:fn.body.isSome=true)(hn:Nat.beq fn.ntmps N.n=true)(hl:Nat.ble vs.length N.n=true)(h:∀a,Fr a N (Fi 0 vs)→W P (yp fn) (bodyPost P fn R .normal) (bodyPost P fn R) a w)(hD:N.D=[]:=by rfl):Calls P f vs.toArray w R:=by
 have hN:fn.ntmps=N.n:=sZ hn;have LG:vs.length≤N.n:=nL hl;cases X2:fn.body with
 |none=>rw[X2]at hb;cases hb
 |some c=>
  refine calls_of_wp hf X2 ?_;have:=h {tmps:=vs.toArray++Array.replicate (fn.ntmps-vs.toArray.size) undef,defers:=[]} ⟨hD.symm,by simp[hN];omega,?_⟩
  ·unfold W at this;rw[show yp fn=c by simp[yp,X2]]at this;refine wp_mono this ?_;intro e a w he;cases e<;>exact he
  ·intro t v hv;obtain⟨_,h2⟩:=wR vs 0 t hv;simp only[Nat.sub_zero]at h2;have ht:t<vs.length:=(List.getElem?_eq_some_iff.1 h2).1;rw[Array.getElem?_append_left (by simpa using ht)];simpa using h2
theorem Zh{P:Program}{fn:Func}{R:Ending→World→Prop}{a:Act}{w:World}{N:FN}{env:Env}{t:Nat}{v:Value}(hF:Fr a N env)(hr:fn.results=#[.tmp t])(hv:look env t=some v)(h:R (.returned v) w)(hD:N.D=[]:=by rfl):bodyPost P fn R .ret a w:=by
 refine bodyPost_ret (v:=v) ?_ (hF.defers.trans hD) h;rw[results_tmp hr];have:=hF.ev (x:= .tmp t) hv;simp only[Act.eval]at this;rw[this]
theorem Zi{P:Program}{fn:Func}{R:Ending→World→Prop}{a:Act}{w:World}{N:FN}{env:Env}{t u:Nat}{v v':Value}(hF:Fr a N env)(hr:fn.results=#[.tmp t,.tmp u])(hv:look env t=some v)(hu:look env u=some v')(h:R (.returned (.tuple #[v,v'])) w)(hD:N.D=[]:=by rfl):bodyPost P fn R .ret a w:=by
 refine bodyPost_ret (v:= .tuple #[v,v']) ?_ (hF.defers.trans hD) h;rw[results_tmp2 hr];have h1:=hF.ev (x:= .tmp t) hv;have h2:=hF.ev (x:= .tmp u) hu;simp only[Act.eval]at h1 h2;rw[h1,h2]
theorem Zj{P:Program}{fn:Func}{R:Ending→World→Prop}{a:Act}{w:World}{N:FN}{env:Env}(hF:Fr a N env)(hr:fn.results=#[])(h:R (.returned (.tuple #[])) w)(hD:N.D=[]:=by rfl):bodyPost P fn R .normal a w:=bodyPost_end (results_none hr _ _ _) (hF.defers.trans hD) h
end Go.Mor
namespace Go.Mor
open Go.RowKit
theorem Mk{id HG:Nat}{K:Act→World→Prop}{Q:Exit→Act→World→Prop}{a:Act}{w:World}(e:Nat.beq HG id=true)(h:K a w):Qt id K Q (.exit HG) a w:=by
 simp only[Qt,e];exact h
theorem Qln{id HG:Nat}{K:Act→World→Prop}{Q:Exit→Act→World→Prop}{a:Act}{w:World}(e:Nat.beq HG id=false)(h:Q (.exit HG) a w):Qt id K Q (.exit HG) a w:=by
 simp only[Qt,e];exact h
theorem wS{P:Program}{c:Code}{K:Act→World→Prop}{Q:Exit→Act→World→Prop}{a:Act}{w:World}(I:Act→World→Prop)(h:∀a w,I a w→K a w)(h':W P c I Q a w):W P c K Q a w:=Qx h' h (fun _ _ _ h=>h)
theorem yq(g j:Nat):(aZ g).add j=(ak g j):=by unfold Addr.add;split<;>simp_all
theorem aK{w:World}{g t:Nat}{cs:aW}(h:(bo.au g t cs).holds w)(j:Nat)(v:Value)(hj:cs[j]?=some v):w.cell? ((aZ g).add j)=some v:=by
 rw[yq];exact ae h hj
theorem Mem.gK(w:World)(e size:Nat):Mem bK w w [.row e size none 0 0 []]:=by
 refine⟨rfl,rfl,rfl,Qjn _,fun _ _ _=>rfl,?_,cc _ _⟩;simp only[QcC];rintro _ rfl;exact⟨Ea w e size,fun g hg=>by obtain⟨a,ha,_⟩:=hg;cases ha⟩
theorem D6{w:World}{A:aX}{ad:Addr}{xs:aW}(h:(bo.rd A xs).holds w)(hA:A=some ad){j:Nat}{v:Value}(hj:xs[j]?=some v):w.cell? (ad.add j)=some v:=by
 obtain⟨a',ha,hc⟩:=h j v hj;rw[hA]at ha;injection ha with ha;subst ha;exact hc
theorem bB{w:World}{A:aX}{ad:Addr}{xs:aW}(h:(bo.rd A xs).holds w)(hA:A=some ad){j:Nat}{v:Value}(hj:xs[j]?=some v):w.cell? (ad.add (j*1))=some v:=by
 rw[QiX];exact D6 h hA hj
theorem rd_some{w:World}{A:aX}{xs:aW}(h:(bo.rd A xs).holds w)(hn:0<xs.length):∃ad,A=some ad:=by
 obtain⟨a',ha,_⟩:=h 0 xs[0] (by simp[hn]);exact⟨a',ha⟩
theorem oX{w:World}{e size n c:Nat}{A:aX}{xs:aW}(h:(bo.row e size A n c xs).holds w)(hn:0<n):∃ad,A=some ad:=by
 obtain⟨g,hg⟩:=cW h hn;exact⟨_,hg⟩
def ints(l:ar):aW:=l.map vI
theorem HN{l:ar}{i:Nat}(h:i<l.length):(ints l)[i]?=some (vI (l.getD i 0)):=by
 simp[ints,List.getD,h]
theorem jk(l:ar):(ints l).length=l.length:=by simp[ints]
theorem iU(l m:ar):ints (l++m)=ints l++ints m:=by simp[ints]
theorem ux(l:ar):∀u∈ints l,u.oneCell'=true:=by
 intro u hu;simp only[ints,jd]at hu;obtain⟨x,_,rfl⟩:=hu;rfl
theorem kS{w:World}{A:aX}{ad:Addr}{l:ar}(h:(bo.rd A (ints l)).holds w)(hA:A=some ad){i:Int}(h0:0≤i)(h1:i<l.length):w.cell? (ad.add (i.toNat*1))=some (vI (l.getD i.toNat 0)):=bB h hA (HN oM)
theorem fR{w:World}{A:aX}{ad:Addr}{l:ar}(h:(bo.rd A (ints l)).holds w)(hA:A=some ad){i:Nat}{v:Int}(hi:l[i]?=some v):w.cell? (ad.add ((i:Int).toNat*1))=some (vI v):=by
 rw[ld];exact bB h hA (by simp[ints,hi])
theorem QbP{w:World}{A:aX}{l:ar}(h:(bo.rd A (ints l)).holds w)(hn:0<l.length):∃ad,A=some ad:=rd_some h (by rw[jk];exact hn)
end Go.Mor
