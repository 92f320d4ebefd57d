/-
  Texts of the proof, part 3.
-/
import Derived.Test.YtejbeeaomokjpaaGreatZn2
import Derived.Maps.AppendAt
set_option maxRecDepth 10000
namespace Go.Mor
open Go.RowKit
def ez(Φ:Value→World→Prop)(e:Ending)(w:World):Prop:=∃v,e= .returned v∧Φ v w
def xL(P:Program)(t:TypeId):Bool:=match P.underlying t with
 |some (.struct _)=>false
 |some (.array _ _)=>false
 |some _=>match P.info? t with
  |some i=>Nat.beq i.size 1
  |none=>false
 |none=>false
def uJ(P:Program)(t:TypeId):Option Nat:=match P.underlying t with
 |some (.struct _)=>(P.info? t).map (·.size)
 |some (.array _ _)=>(P.info? t).map (·.size)
 |_=>none
theorem LQ{P:Program}{t:TypeId}(h:xL P t=true)(w:World):(isAgg t).run P w= .ok false w:=by
 unfold xL at h;split at h
 ·cases h
 ·cases h
 ·rename_i d h1 h2 u;simp only[isAgg,Qor,QoH u,QnS];cases d<;>first|rfl|(exact absurd rfl (h1 _))|(exact absurd rfl (h2 _ _))
 ·cases h
theorem EY{P:Program}{t:TypeId}(h:xL P t=true)(w:World):(sizeOf t).run P w= .ok 1 w:=by
 unfold xL at h;split at h
 ·cases h
 ·cases h
 ·split at h
  ·rename_i i hi;have:i.size=1:=Kb h;simp[sizeOf,typeInfo,hi,this]
  ·cases h
 ·cases h
theorem lg{P:Program}{t:TypeId}{n:Nat}(h:uJ P t=some n)(w:World):(isAgg t).run P w= .ok true w∧(sizeOf t).run P w= .ok n w:=by
 unfold uJ at h;split at h
 ·rename_i u;cases hi:P.info? t with
  |none=>simp[hi]at h
  |some i=>simp[hi]at h;subst h;simp[isAgg,QoH u,sizeOf,typeInfo,hi]
 ·rename_i u;cases hi:P.info? t with
  |none=>simp[hi]at h
  |some i=>simp[hi]at h;subst h;simp[isAgg,QoH u,sizeOf,typeInfo,hi]
 ·cases h
theorem qL{v:Value}(h:v.oneCell'=true):v.cells=#[v]:=by cases v<;>simp[Value.oneCell']at h<;>rfl
section
variable {P : Program} {c : Code} {K : Act → World → Prop} {Q : Exit → Act → World → Prop} {a : Act} {w w0 : World} {S : Nat → Prop} {L : List bx} {k k' : Nat} {N : FN} {env : Env}
variable {d : Option Nat} {ty : Nat} {g : Option (Nat × Bool)}
theorem eC{op:Op}(hk:ax c k=some (d,op,ty,g))(hF:Fr a N env)(hg:bD c g env=some true)(hd:gp d N=true)(iO:k+1=k'){v:Value}(hr:∀o:Oper,o.op=op→(execOp a.eval o).run P w= .ok (.value v) w)(h:∀a',a'=a.put d v→Fr a' N (dq env d v)→bz P c K Q k' a' w):bz P c K Q k a w:=by
 subst iO;exact ib hk hF hg (fun o ho _=>hr o ho) (h _ rfl (hF.put hd v))
theorem fg{op:Op}(hk:ax c k=some (d,op,ty,g))(hF:Fr a N env)(hg:bD c g env=some true)(hd:gp d N=true)(iO:k+1=k'){v:Value}(hv:pS P env op=some v)(h:∀a',a'=a.put d v→Fr a' N (dq env d v)→bz P c K Q k' a' w):bz P c K Q k a w:=eC hk hF hg hd iO (fun _ ho=>run_pure hF hv ho w) h
theorem rY{t:TypeId}{x:Operand}(hk:ax c k=some (d,.load t x,ty,g))(hF:Fr a N env)(hg:bD c g env=some true)(hd:gp d N=true)(iO:k+1=k'){ad:Addr}{v:Value}(hx:ev env x=some (vP ad))(ht:xL P t=true)(hc:w.cell? ad=some v)(h:∀a',a'=a.put d v→Fr a' N (dq env d v)→bz P c K Q k' a' w):bz P c K Q k a w:=by
 refine eC hk hF hg hd iO (fun o ho=> ?_) h;unfold execOp;rw[ho];simp[Instr.loadAt,Instr.sureAddr,hF.ev hx,loadVar,LQ ht,hc]
theorem fQ{t:TypeId}{x:Operand}(hk:ax c k=some (d,.load t x,ty,g))(hF:Fr a N env)(hg:bD c g env=some true)(hd:gp d N=true)(iO:k+1=k'){ad:Addr}{vs:aP}(hx:ev env x=some (vP ad))(ht:uJ P t=some vs.length)(hc:∀j v,vs[j]?=some v→w.cell? (ad.add j)=some v)(h:∀a',a'=a.put d (.agg vs.toArray)→Fr a' N (dq env d (.agg vs.toArray))→bz P c K Q k' a' w):bz P c K Q k a w:=by
 refine eC hk hF hg hd iO (fun o ho=> ?_) h;unfold execOp;rw[ho];obtain⟨h1,h2⟩:=lg ht w;simp[Instr.loadAt,Instr.sureAddr,hF.ev hx,loadVar,h1,h2,run_loadCells_list (P:=P) w ad vs hc]
theorem gv{op:BinOp}{t t':TypeId}{x y:Operand}(hk:ax c k=some (d,.binOp op t x y t',ty,g))(hF:Fr a N env)(hg:bD c g env=some true)(hd:gp d N=true)(iO:k+1=k'){i j z:Int}(hx:ev env x=some (vI i))(hy:ev env y=some (vI j))(hz:arI op i j=some z)(h1: -9223372036854775808≤z)(h2:z≤9223372036854775807)(h:∀a',a'=a.put d (vI z)→Fr a' N (dq env d (vI z))→bz P c K Q k' a' w):bz P c K Q k a w:=by
 refine eC hk hF hg hd iO (fun o ho=> ?_) h;unfold execOp;rw[ho];have hw:IntKind.i64.wrap z=z:=IntWalk.i64_in z ⟨h1,h2⟩;cases op<;>simp only[arI]at hz<;>first
  |(cases hz;done)
  |(injection hz with hz;subst hz;simp[hF.ev hx,hF.ev hy,eqGuard,binOp,Op.intArith,hw])
theorem EZ{op:BinOp}{t t':TypeId}{x y:Operand}(hk:ax c k=some (d,.binOp op t x y t',ty,g))(hF:Fr a N env)(hg:bD c g env=some true)(hd:gp d N=true)(iO:k+1=k'){kd:IntKind}{i j:Int}{b:Bool}(hx:ev env x=some (.int kd i))(hy:ev env y=some (.int kd j))(hb:Pu op i j=some b)(h:∀B,B=b→∀a',a'=a.put d (vB B)→Fr a' N (dq env d (vB B))→bz P c K Q k' a' w):bz P c K Q k a w:=by
 refine eC hk hF hg hd iO (fun o ho=> ?_) (h b rfl);refine run_pure hF (op:= .binOp op t x y t') ?_ ho w;simp[pS,hx,hy,hb]
theorem xM{t:TypeId}{x:Operand}(hk:ax c k=some (d,.box t x,ty,g))(hF:Fr a N env)(hg:bD c g env=some true)(hd:gp d N=true)(iO:k+1=k'){v:Value}{cs:aP}(hx:ev env x=some v)(oZ:v.cells=cs.toArray)(hM:Mem S w0 w L)(h:∀b w',w0.heap.size≤b→w.heap.size≤b→Mem S w0 w' (L++[.aB b t cs])→Mem bq w w' [.aB b t cs]→∀a',a'=a.put d (vP (aZ b))→Fr a' N (dq env d (vP (aZ b)))→bz P c K Q k' a' w'):bz P c K Q k a w:=by
 subst iO;refine ib hk hF hg (v:= .pointer (some (aZ w.heap.size))) (w':=w.alloc (.cells cs.toArray t)) (fun o ho _=> ?_) (h w.heap.size (w.alloc (.cells cs.toArray t)) hM.size (kQ _) (hM.call (Mem.alloc w t cs)) (Mem.alloc w t cs) _ rfl (hF.put hd _));unfold execOp;rw[ho];simp[Instr.box,hF.ev hx,newVar,newRow,oZ]
theorem xN{t:TypeId}(hk:ax c k=some (d,.alloc t,ty,g))(hF:Fr a N env)(hg:bD c g env=some true)(hd:gp d N=true)(iO:k+1=k'){cs:aP}(hz:(P.info? t).map (fun i=>i.zero.map (fun z=>z.cells.toList))=some (some cs))(hM:Mem S w0 w L)(h:∀b w',w0.heap.size≤b→w.heap.size≤b→Mem S w0 w' (L++[.aB b t cs])→Mem bq w w' [.aB b t cs]→∀a',a'=a.put d (vP (aZ b))→Fr a' N (dq env d (vP (aZ b)))→bz P c K Q k' a' w'):bz P c K Q k a w:=by
 subst iO;refine ib hk hF hg (v:= .pointer (some (aZ w.heap.size))) (w':=w.alloc (.cells cs.toArray t)) (fun o ho _=> ?_) (h w.heap.size (w.alloc (.cells cs.toArray t)) hM.size (kQ _) (hM.call (Mem.alloc w t cs)) (Mem.alloc w t cs) _ rfl (hF.put hd _));unfold execOp;rw[ho];cases hi:P.info? t with
 |none=>simp[hi]at hz
 |some i=>
  cases E0:i.zero with
  |none=>simp[hi,E0]at hz
  |some z=>
   simp[hi,E0]at hz;subst hz;simp[Instr.alloc,zeroValue,typeInfo,hi,E0,newVar,newRow]
theorem fw{t:TypeId}{x y:Operand}(hk:ax c k=some (d,.store t x y,ty,g))(hF:Fr a N env)(hg:bD c g env=some true)(hd:gp d N=true)(iO:k+1=k'){b off t0:Nat}{v:Value}{cs:aP}(hx:ev env x=some (vP (ao b off)))(hy:ev env y=some v)(ht:xL P t=true)(hv:v.oneCell'=true)(hM:Mem S w0 w L)(i:Nat)(hi:L[i]?=some (.aB b t0 cs))(ho:off<cs.length)(h:∀w',Mem S w0 w' (L.set i (.aB b t0 (cs.set off v)))→Mem (bx.aB b t0 cs).fp w w' [.aB b t0 (cs.set off v)]→∀a',a'=a.put d undef→Fr a' N (dq env d undef)→bz P c K Q k' a' w'):bz P c K Q k a w:=by
 subst iO;have hb:=hM.get i hi;have hm:=Mem.J8 (i:=off) hb v;refine ni hk hF hg (w':=w.setCell (ao b off) v) (fun o Vu=> ?_) (h _ (by simpa using hM.mod i hi hm) hm _ rfl (hF.put hd _));have vU:w.cell? (ao b off)=some cs[off]:=ae hb (by simp[ho]);unfold execOp;rw[Vu];have rZ:(store (ao b off) v).run P w= .ok () (w.setCell (ao b off) v):=by rw[run_store P w _ v .plain hv,vU];simp[xK hb]
 simp[Instr.storeAt,Instr.sureAddr,hF.ev hx,hF.ev hy,storeVar,qL hv,EY ht,storeCells,Addr.add,rZ]
theorem ew{t:TypeId}{x y:Operand}(hk:ax c k=some (d,.store t x y,ty,g))(hF:Fr a N env)(hg:bD c g env=some true)(hd:gp d N=true)(iO:k+1=k'){ad:Addr}{j e size n cap:Nat}{v:Value}{xs:aP}{ad':Addr}(hx:ev env x=some (vP ad'))(had:ad'=ad.add j)(hy:ev env y=some v)(ht:xL P t=true)(hv:v.oneCell'=true)(hM:Mem S w0 w L)(i:Nat)(hi:L[i]?=some (.row e size (some ad) n cap xs))(hj:j<n*size)(h:∀w',Mem S w0 w' (L.set i (.row e size (some ad) n cap (xs.set j v)))→Mem (bx.row e size (some ad) n cap xs).fp w w' [.row e size (some ad) n cap (xs.set j v)]→∀a',a'=a.put d undef→Fr a' N (dq env d undef)→bz P c K Q k' a' w'):bz P c K Q k a w:=by
 subst iO;subst had;have hb:=hM.get i hi;have hm:=Mem.CX (j:=j) hb v;refine ni hk hF hg (w':=w.setCell (ad.add j) v) (fun o Vu=> ?_) (h _ (by simpa using hM.mod i hi hm) hm _ rfl (hF.put hd _));have hl:j<xs.length:=by rw[xe hb];exact hj
 obtain⟨a',nW,vU⟩:=aD hb j xs[j] (by simp[hl]);injection nW with nW;subst nW;unfold execOp;rw[Vu];have rZ:(store (ad.add j) v).run P w= .ok () (w.setCell (ad.add j) v):=by rw[run_store P w _ v .plain hv,vU];simp[oe hb]
 have h0:(ad.add j).add 0=ad.add j:=by simp[Addr.add]
 simp[Instr.storeAt,Instr.sureAddr,hF.ev hx,hF.ev hy,storeVar,qL hv,EY ht,storeCells,h0,rZ]
theorem lx{b t0:Nat}:∀(vs:aP) (i:Nat) {cs:aP} {w:World},(∀v∈vs,v.oneCell'=true)→(bx.aB b t0 cs).holds w→i+vs.length≤cs.length→∃w',(storeCells (aZ b) vs i).run P w= .ok () w'∧Mem (bx.aB b t0 cs).fp w w' [.aB b t0 (cs.take i++vs++cs.drop (i+vs.length))]
 |[],i,cs,w,_,hb,_=>⟨w,by simp[storeCells],by simpa using Mem.oY hb⟩
 |v::vs,i,cs,w,h1,hb,hl=>by
  simp only[QoE]at hl;have hm:=Mem.J8 (i:=i) hb v;have AX:=hm.get 0 rfl;obtain⟨w',hr,Px⟩:=lx vs (i+1) (fun u hu=>h1 u (Qmq _ hu)) AX (by simp;omega);refine⟨w',?_,?_⟩
  ·have e:(aZ b).add i=(ao b i):=by unfold Addr.add;split<;>simp_all
   have vU:w.cell? (ao b i)=some (cs[i]'oM):=ae hb sI;have rZ:(store (ao b i) v).run P w= .ok () (w.setCell (ao b i) v):=by rw[run_store P w _ v .plain (h1 v (Qop ..)),vU];simp[xK hb]
   simp only[storeCells,Qor,e,rZ,QnS,hr]
  ·have Py:(cs.set i v).take (i+1)++vs++(cs.set i v).drop (i+1+vs.length)=cs.take i++v::vs++cs.drop (i+(v::vs).length):=by rw[Qow (by simp;omega),Qqc,Kt oM];simp[Qp4 (kQ _),QpG,Nat.add_comm 1]
   rw[Py]at Px;have:=hm.mod 0 rfl Px;simpa using this
theorem kM{t:TypeId}{x y:Operand}(hk:ax c k=some (d,.store t x y,ty,g))(hF:Fr a N env)(hg:bD c g env=some true)(hd:gp d N=true)(iO:k+1=k'){b t0:Nat}{vs cs:aP}(hx:ev env x=some (vP (aZ b)))(hy:ev env y=some (.agg vs.toArray))(ht:uJ P t=some vs.length)(hv:∀v∈vs,v.oneCell'=true)(hM:Mem S w0 w L)(i:Nat)(hi:L[i]?=some (.aB b t0 cs))(ho:cs.length=vs.length)(h:∀w',Mem S w0 w' (L.set i (.aB b t0 vs))→Mem (bx.aB b t0 cs).fp w w' [.aB b t0 vs]→∀a',a'=a.put d undef→Fr a' N (dq env d undef)→bz P c K Q k' a' w'):bz P c K Q k a w:=by
 subst iO;have hb:=hM.get i hi;obtain⟨w',hr,hm⟩:=lx (P:=P) vs 0 hv hb oM;have hl:cs.take 0++vs++cs.drop (0+vs.length)=vs:=by simp[←ho]
 rw[hl]at hm;refine ni hk hF hg (w':=w') (fun o Vu=> ?_) (h _ (by simpa using hM.mod i hi hm) hm _ rfl (hF.put hd _));unfold execOp;rw[Vu];simp[Instr.storeAt,Instr.sureAddr,hF.ev hx,hF.ev hy,storeVar,(lg ht w).2,Value.cells,hr]
theorem r2{t:TypeId}{x y:Operand}(hk:ax c k=some (d,.indexAddr t x y,ty,g))(hF:Fr a N env)(hg:bD c g env=some true)(hd:gp d N=true)(iO:k+1=k'){A:ar}{ad:Addr}{n cap e size:Nat}{kd:IntKind}{i:Int}(hx:ev env x=some (vS A n cap))(hy:ev env y=some (.int kd i))(hA:A=some ad)(ht:P.underlying t=some (.slice e))(hs:(P.info? e).map (·.size)=some size)(h0:0≤i)(h1:i<n)(h:∀a',a'=a.put d (vP (ad.add (i.toNat*size)))→Fr a' N (dq env d (vP (ad.add (i.toNat*size))))→bz P c K Q k' a' w):bz P c K Q k a w:=by
 subst hA;refine eC hk hF hg hd iO (fun o ho=> ?_) h;unfold execOp;rw[ho];cases hi:P.info? e with
 |none=>simp[hi]at hs
 |some inf=>
  simp[hi]at hs;subst hs;simp[Instr.indexAt,asIntOf,hF.ev hx,hF.ev hy,QoH ht,h0,h1,sizeOf,typeInfo,hi]
theorem gx{t:TypeId}{x y:Operand}(hk:ax c k=some (d,.slice t x none (some y) none,ty,g))(hF:Fr a N env)(hg:bD c g env=some true)(hd:gp d N=true)(iO:k+1=k'){A:ar}{n cap e size:Nat}{kd:IntKind}{i:Int}(m:Nat)(hx:ev env x=some (vS A n cap))(hy:ev env y=some (.int kd i))(hm:i=(m:Int))(ht:P.underlying t=some (.slice e))(hs:(P.info? e).map (·.size)=some size)(h1:m≤cap)(h:∀a',a'=a.put d (vS A m cap)→Fr a' N (dq env d (vS A m cap))→bz P c K Q k' a' w):bz P c K Q k a w:=by
 refine eC hk hF hg hd iO (fun o ho=> ?_) h;subst hm;unfold execOp;rw[ho];cases hi:P.info? e with
 |none=>simp[hi]at hs
 |some inf=>
  have hA:(if cap=0 then A else A.map (·.add 0))=A:=by
   split
   ·rfl
   ·cases A<;>simp[Addr.add]
  simp[Instr.sliceAt,Instr.slice,Instr.sliceBounds,Instr.sliceBound,asIntOf,hF.ev hx,hF.ev hy,QoH ht,sizeOf,typeInfo,hi,h1,hA]
theorem jA{t:TypeId}{x y:Operand}(hk:ax c k=some (d,.slice t x (some y) none none,ty,g))(hF:Fr a N env)(hg:bD c g env=some true)(hd:gp d N=true)(iO:k+1=k'){A:ar}{n cap e size:Nat}{kd:IntKind}{i:Int}(m:Nat)(hx:ev env x=some (vS A n cap))(hy:ev env y=some (.int kd i))(hm:i=(m:Int))(ht:P.underlying t=some (.slice e))(hs:(P.info? e).map (·.size)=some size)(h1:m≤n)(h:∀a',a'=a.put d (vS (if cap=m then A else A.map (·.add (m*size))) (n-m) (cap-m))→Fr a' N (dq env d (vS (if cap=m then A else A.map (·.add (m*size))) (n-m) (cap-m)))→bz P c K Q k' a' w):bz P c K Q k a w:=by
 refine eC hk hF hg hd iO (fun o ho=> ?_) h;subst hm;unfold execOp;rw[ho];cases hi:P.info? e with
 |none=>simp[hi]at hs
 |some inf=>
  simp[hi]at hs;subst hs;simp[Instr.sliceAt,Instr.slice,Instr.sliceBounds,Instr.sliceBound,asIntOf,hF.ev hx,hF.ev hy,QoH ht,sizeOf,typeInfo,hi,h1]
theorem wy{t:TypeId}{len:Nat}{ps:Array (Nat×Operand)}(hk:ax c k=some (d,.buildSlice t len ps,ty,g))(hF:Fr a N env)(hg:bD c g env=some true)(hd:gp d N=true)(iO:k+1=k'){e size:Nat}{zs:aP}{vs:List (Nat×Value)}{cs:aP}(ht:P.underlying t=some (.slice e))(hi:(P.info? e).map (fun i=>(i.size,i.zero.map (·.cells.toList)))=some (size,some zs))(hp:parts env ps.toList=some vs)(jB:(Nat.ble 1 (len*size)&&Nat.ble (len*size) 1000)=true)(Pz:Instr.fill (fun i=>some (i*size,size)) ((Array.range (len*size)).map (zs.toArray[· % zs.toArray.size]!)) vs=some cs.toArray)(hl:Nat.beq cs.length (len*size)=true)(hM:Mem S w0 w L)(h:∀b w',w0.heap.size≤b→w.heap.size≤b→Mem S w0 w' (L++[.row e size (some (aZ b)) len len cs])→Mem bq w w' [.row e size (some (aZ b)) len len cs]→∀a',a'=a.put d (vS (some (aZ b)) len len)→Fr a' N (dq env d (vS (some (aZ b)) len len))→bz P c K Q k' a' w'):bz P c K Q k a w:=by
 subst iO;have Qeu:1≤len*size∧len*size≤1000:=by rw[QlP]at jB;exact⟨Qqd jB.1,Qqd jB.2⟩
 have zR:cs.length=len*size:=Kb hl;have OQ:0<size:=by
  rcases Qqe size with h0|h0
  ·rw[h0]at Qeu;omega
  ·exact h0
 have hlen:len≤1000:=QoJ (Nat.le_mul_of_pos_right _ OQ) Qeu.2;have rX:(bx.row e size (some (aZ w.heap.size)) len len cs).holds (w.alloc (.cells cs.toArray e)):=by have:=World.ownsRow_lit (base:=0) (e:=e) (size:=size) w cs.toArray len (Qom _) (by simp only[maxLen];omega) (by simpa using zR);show World.ownsRow _ _ _ _ _ _ _;simpa using this
 have hm:Mem bq w (w.alloc (.cells cs.toArray e)) [.row e size (some (aZ w.heap.size)) len len cs]:=by refine(Mem.alloc w e cs).say 0 rfl (fun _=>rX) ?_;rintro g' ⟨a',nW,rfl⟩;injection nW with nW;subst nW;rfl
 refine ib hk hF hg (v:=vS (some (aZ w.heap.size)) len len) (w':=w.alloc (.cells cs.toArray e)) (fun o ho _=> ?_) (h w.heap.size (w.alloc (.cells cs.toArray e)) hM.size (kQ _) (hM.call hm) hm _ rfl (hF.put hd _));unfold execOp;rw[ho];have e1:=uH hF hp;have e2:(ps.map fun(i,x)=>(i,a.eval x))=vs.toArray:=by apply Qpe;simpa using e1
 cases l6:P.info? e with
 |none=>simp[l6]at hi
 |some inf=>
  simp only[l6,Fc,Kr,Qaq]at hi;obtain⟨hs,hz⟩:=hi;subst hs;cases E0:inf.zero with
  |none=>simp[E0]at hz
  |some z=>
   simp only[E0,Fc,Kr]at hz;subst hz;have n1:¬(16777216<len*inf.size):=oM;have n2:¬(len*inf.size=0):=oM;have Qbp:Instr.fill (fun i=>some (i*inf.size,inf.size)) ((Array.range (len*inf.size)).map (z.cells[· % z.cells.size]!)) vs=some cs.toArray:=by simpa using Pz
   have Vw:(sizeOf e).run P w= .ok inf.size w:=by simp[sizeOf,typeInfo,l6]
   have hz0:(zeroValue e).run P w= .ok z w:=by simp[zeroValue,typeInfo,l6,E0]
   simp only[Instr.buildSlice,Qor,QoH ht,Vw,QnS,e2,Nat.reducePow,gt_iff_lt,n1,n2,Qo0,Qo4,Sem.run_ite,hz0,Qbp,newRow,run_newObj];rfl
theorem ly{t:TypeId}{x y:Operand}(hk:ax c k=some (d,.makeSlice t x y,ty,g))(hF:Fr a N env)(hg:bD c g env=some true)(hd:gp d N=true)(iO:k+1=k'){e bytes:Nat}{z:Value}{n:Nat}{i:Int}(hx:ev env x=some (vI i))(hy:ev env y=some (vI i))(hn:i=(n:Int))(ht:P.underlying t=some (.slice e))(hi:(P.info? e).map (fun i=>(i.size,i.bytes,i.zero))=some (1,bytes,some z))(hz:z.oneCell'=true)(hb:bytes*n≤140737488355328)(hl:n≤maxLen)(hM:Mem S w0 w L)(h:∀b w',w0.heap.size≤b→w.heap.size≤b→Mem S w0 w' (L++[.row e 1 (some (aZ b)) n n (List.replicate n z)])→Mem bq w w' [.row e 1 (some (aZ b)) n n (List.replicate n z)]→∀a',a'=a.put d (vS (some (aZ b)) n n)→Fr a' N (dq env d (vS (some (aZ b)) n n))→bz P c K Q k' a' w'):bz P c K Q k a w:=by
 subst iO;subst hn;cases l6:P.info? e with
 |none=>simp[l6]at hi
 |some inf=>
  simp only[l6,Fc,Kr,Qaq]at hi;obtain⟨hs,hby,E0⟩:=hi;subst hby;obtain⟨w',hr,Ac,LR⟩:=run_make_full (P:=P) w 0 t e inf z 1 ht l6 E0 hs .i64 .i64 n oM hl (Qom _);rw[qL hz,Qoz,toList_madeCells_one]at Ac;have hm:Mem bq w w' [.row e 1 (some (aZ w.heap.size)) n n (List.replicate n z)]:=by refine⟨LR.os,LR.tape,LR.output,LR.size,fun k hk _=>LR.block k hk sI,?_,Jb _ _⟩;simp only[yX];rintro _ rfl;refine⟨Ac,?_⟩;rintro g' ⟨a',nW,rfl⟩;injection nW with nW;subst nW;exact .inr (kQ _)
  refine ib hk hF hg (v:=vS (some (aZ w.heap.size)) n n) (w':=w') (fun o ho _=> ?_) (h w.heap.size w' hM.size (kQ _) (hM.call hm) hm _ rfl (hF.put hd _));unfold execOp;rw[ho];simp only[hF.ev hx,hF.ev hy,Qor,hr,QnS];rfl
theorem r3(w:World)(t ty e:TypeId)(i:TypeInfo)(size:Nat)(ht:P.underlying t=some (.slice e))(hi:P.info? e=some i)(v:Value)(n:Nat)(xs:aP)(Ac:w.ownsRow 0 e size v n xs)(c:Nat):(Builtin.append_ #[t,t] ty #[v,.slice none 0 c]).run P w= .ok v w:=by
 rcases Ac.2 with⟨rfl,rfl⟩|⟨g,cap,cur,rfl,_,_,Vs,_⟩
 ·simp[Builtin.append_,QoH ht,sizeOf,typeInfo,hi,Builtin.lenOf,Builtin.firstCells]
 ·simp[Builtin.append_,QoH ht,sizeOf,typeInfo,hi,Builtin.lenOf,Builtin.firstCells,Vs,storeCells]
theorem xO{t ty e size bytes:Nat}{z:Value}(ht:P.underlying t=some (.slice e))(hi:(P.info? e).map (fun i=>(i.size,i.bytes,i.zero))=some (size,bytes,some z))(HX:z.cells.size=size)(jB:0<size){A B:ar}{n cap m cap':Nat}{xs news:aP}(rX:(bx.row e size A n cap xs).holds w)(r4:(bx.rd B news).holds w)(hl:news.length=m*size)(h1:∀u∈news,u.oneCell'=true)(hb:(n+m)*bytes≤140737488355328)(HY:n+m≤maxLen):∃A' c' w',(Builtin.append_ #[t,t] ty #[.slice A n cap,.slice B m cap']).run P w= .ok (vS A' (n+m) c') w'∧Mem (bx.row e size A n cap xs).fp w w' [.row e size A' (n+m) c' (xs++news)]:=by
 cases l6:P.info? e with
 |none=>simp[l6]at hi
 |some inf=>
  simp only[l6,Fc,Kr,Qaq]at hi;obtain⟨hs,hby,E0⟩:=hi;by_cases hm0:m=0∧B=none
  ·obtain⟨rfl,rfl⟩:=hm0;have hn:news=[]:=Qp3 (by simpa using hl);subst hn;refine⟨A,cap,w,r3 w t ty e inf size ht l6 _ n xs rX cap',?_⟩;simpa using Mem.oY rX
  ·have hB:∃ad,B=some ad∧∀j u,news[j]?=some u→w.cell? (ad.add j)=some u:=by
    cases B with
    |none=>
     have hm:m≠0:=fun h=>hm0 ⟨h,rfl⟩
     have hn:0<news.length:=by rw[hl];exact Nat.mul_pos oM jB
     obtain⟨ad,h,_⟩:=r4 0 news[0] (by simp[hn]);cases h
    |some ad=>
     refine⟨ad,rfl,fun j u hu=> ?_⟩;obtain⟨a',nW,hc⟩:=r4 j u hu;injection nW with nW;subst nW;exact hc
   obtain⟨ad,rfl,lB⟩:=hB;obtain⟨v',w',hr,Ac,LR,_,hw⟩:=run_append_own_at (P:=P) w 0 t ty e inf z size bytes ht l6 E0 hs hby HX jB (vS A n cap) n xs rX ad m cap' news hl lB h1 HY hb (Qom _);have Qev:∃A' c',v'=vS A' (n+m) c':=by
    rcases Ac.2 with⟨rfl,h0⟩|⟨g',cap1,cur,rfl,_⟩
    ·exact⟨none,0,by rw[h0]⟩
    ·exact⟨_,_,rfl⟩
   obtain⟨A',c',rfl⟩:=Qev;exact⟨A',c',w',hr,Mem.grown LR Ac hw⟩
theorem vu{t:TypeId}{x y:Operand}(hk:ax c k=some (d,.call {callee:= .builtin .append,args:=#[x,y],argTypes:=#[t,t]},ty,g))(hF:Fr a N env)(hg:bD c g env=some true)(hd:gp d N=true)(iO:k+1=k'){e size bytes:Nat}{z:Value}(ht:P.underlying t=some (.slice e))(hi:(P.info? e).map (fun i=>(i.size,i.bytes,i.zero))=some (size,bytes,some z))(HX:Nat.beq z.cells.size size=true)(jB:Nat.blt 0 size=true){A B:ar}{n cap m cap':Nat}{xs news:aP}(hx:ev env x=some (vS A n cap))(hy:ev env y=some (vS B m cap'))(hM:Mem S w0 w L)(i:Nat)(hL:L[i]?=some (.row e size A n cap xs))(r4:(bx.rd B news).holds w)(hl:news.length=m*size)(h1:∀u∈news,u.oneCell'=true)(hb:(n+m)*bytes≤140737488355328)(HY:n+m≤maxLen)(h:∀A' c' w',Mem S w0 w' (L.set i (.row e size A' (n+m) c' (xs++news)))→Mem (bx.row e size A n cap xs).fp w w' [.row e size A' (n+m) c' (xs++news)]→∀a',a'=a.put d (vS A' (n+m) c')→Fr a' N (dq env d (vS A' (n+m) c'))→bz P c K Q k' a' w'):bz P c K Q k a w:=by
 subst iO;obtain⟨A',c',w',hr,hm⟩:=xO (P:=P) (ty:=ty) ht hi (Kb HX) (by simpa[Ke]using jB) (hM.get i hL) r4 hl h1 hb HY (cap':=cap');refine ib hk hF hg (v:=vS A' (n+m) c') (w':=w') (fun o ho hty=> ?_) (h A' c' w' (by simpa using hM.mod i hL hm) hm _ rfl (hF.put hd _));unfold execOp;rw[ho,hty];simp only[resolve,invoke,builtin,Qor,Qo4,QnS,Qp5,QoK,Qps,hF.ev hx,hF.ev hy,hr]
def xP(P:Program)(f:FuncId):Bool:=match P.funcs[f]? with
 |some fn=> !(fn.name== "runtime.NumGoroutine")&&fn.body.isSome
 |none=>false
theorem CY{f:FuncId}(h:xP P f=true)(args:Array Value)(w:World):(callFunc f args).run P w= .ok (.enter f args) w:=by
 unfold xP at h;cases hf:P.funcs[f]? with
 |none=>simp[hf]at h
 |some fn=>
  simp only[hf,QlP,Qpt]at h;have hb:fn.body.isNone=false:=by cases hbb:fn.body<;>simp_all
  have h1:=h.1;simp only[callFunc,Qor,run_program,QnS,hf,h1,hb,Qpp,Qo0];rfl
theorem gK{x:Operand}{args:Array Operand}{ts:Array TypeId}(hk:ax c k=some (d,.call {callee:= .value x,args:=args,argTypes:=ts},ty,g))(hF:Fr a N env)(hg:bD c g env=some true)(hd:gp d N=true)(iO:k+1=k'){f:FuncId}{vs cap:aP}(hx:ev env x=some (.func (.func f) #[] cap.toArray))(PA:Vt env args.toList=some vs)(hf:xP P f=true){Φ:Value→World→Prop}(hc:Calls P f (vs++cap).toArray w (ez Φ))(h:∀v w',Φ v w'→∀a',a'=a.put d v→Fr a' N (dq env d v)→bz P c K Q k' a' w'):bz P c K Q k a w:=by
 subst iO;refine CW hk hF hg fun o h1 h2 h3 K' Vr=> ?_
 unfold Oper.wp;have hr:(execOp a.eval o).run P w= .ok (.enter f (vs++cap).toArray) w:=by
  unfold execOp;rw[h2];have e1:=xf hF PA;have e2:args.map a.eval=vs.toArray:=by apply Qpe;simpa using e1
  simp[resolve,hF.ev hx,e2,Deferred.ofValue,invoke,CY hf]
 rw[hr,Oper.upon_enter];refine hc.mono ?_;rintro e w' ⟨v,rfl,hv⟩;rw[h1];exact Vr _ _ (h v w' hv _ rfl (hF.put hd v))
end
def CZ(fn:Func):Code:=fn.body.getD .skip
def LS:Nat→aP→Env
 |_,[]=>[]
 |i,v::r=>(i,v)::LS (i+1) r
theorem AY:∀(vs:aP) (i t:Nat) {v:Value},look (LS i vs) t=some v→i≤t∧vs[t-i]?=some v
 |[],i,t,v,h=>by simp[LS,look]at h
 |u::r,i,t,v,h=>by
  simp only[LS,look]at h;split at h
  ·rename_i hb;have:i=t:=Kb hb;subst this;exact⟨kQ _,by simpa using h⟩
  ·obtain⟨h1,h2⟩:=AY r (i+1) t h;refine⟨oM,?_⟩;have:t-i=(t-(i+1))+1:=oM;rw[this];simpa using h2
theorem enter{P:Program}{f:FuncId}{fn:Func}{N:FN}{vs:aP}{w:World}{R:Ending→World→Prop}(hf:P.funcs[f]?=some fn)(hb:fn.body.isSome=true)(hn:Nat.beq fn.ntmps N.n=true)(hl:Nat.ble vs.length N.n=true)(h:∀a,Fr a N (LS 0 vs)→W P (CZ fn) (bodyPost P fn R .normal) (bodyPost P fn R) a w)(hD:N.D=[]:=by rfl):Calls P f vs.toArray w R:=by
 have hN:fn.ntmps=N.n:=Kb hn;have UU:vs.length≤N.n:=Qqd hl;cases hbb:fn.body with
 |none=>rw[hbb]at hb;cases hb
 |some c=>
  refine calls_of_wp hf hbb ?_;have:=h {tmps:=vs.toArray++Array.replicate (fn.ntmps-vs.toArray.size) undef,defers:=[]} ⟨hD.symm,by simp[hN];omega,?_⟩
  ·unfold W at this;rw[show CZ fn=c by simp[CZ,hbb]]at this;refine wp_mono this ?_;intro e a w he;cases e<;>exact he
  ·intro t v hv;obtain⟨_,h2⟩:=AY vs 0 t hv;simp only[Nat.sub_zero]at h2;have ht:t<vs.length:=(List.getElem?_eq_some_iff.1 h2).1;rw[Array.getElem?_append_left (by simpa using ht)];simpa using h2
theorem QhP{P:Program}{fn:Func}{R:Ending→World→Prop}{a:Act}{w:World}{N:FN}{env:Env}{t:Nat}{v:Value}(hF:Fr a N env)(hr:fn.results=#[.tmp t])(hv:look env t=some v)(h:R (.returned v) w)(hD:N.D=[]:=by rfl):bodyPost P fn R .ret a w:=by
 refine bodyPost_ret (v:=v) ?_ (hF.defers.trans hD) h;rw[results_tmp hr];have:=hF.ev (x:= .tmp t) hv;simp only[Act.eval]at this;rw[this]
theorem QhQ{P:Program}{fn:Func}{R:Ending→World→Prop}{a:Act}{w:World}{N:FN}{env:Env}{t u:Nat}{v v':Value}(hF:Fr a N env)(hr:fn.results=#[.tmp t,.tmp u])(hv:look env t=some v)(hu:look env u=some v')(h:R (.returned (.tuple #[v,v'])) w)(hD:N.D=[]:=by rfl):bodyPost P fn R .ret a w:=by
 refine bodyPost_ret (v:= .tuple #[v,v']) ?_ (hF.defers.trans hD) h;rw[results_tmp2 hr];have h1:=hF.ev (x:= .tmp t) hv;have h2:=hF.ev (x:= .tmp u) hu;simp only[Act.eval]at h1 h2;rw[h1,h2]
theorem QhR{P:Program}{fn:Func}{R:Ending→World→Prop}{a:Act}{w:World}{N:FN}{env:Env}(hF:Fr a N env)(hr:fn.results=#[])(h:R (.returned (.tuple #[])) w)(hD:N.D=[]:=by rfl):bodyPost P fn R .normal a w:=bodyPost_end (results_none hr _ _ _) (hF.defers.trans hD) h
end Go.Mor
namespace Go.Mor
open Go.RowKit
theorem Vx{id Pt:Nat}{K:Act→World→Prop}{Q:Exit→Act→World→Prop}{a:Act}{w:World}(e:Nat.beq Pt id=true)(h:K a w):KR id K Q (.exit Pt) a w:=by
 simp only[KR,e];exact h
theorem AZ{P:Program}{c:Code}{K:Act→World→Prop}{Q:Exit→Act→World→Prop}{a:Act}{w:World}(I:Act→World→Prop)(h:∀a w,I a w→K a w)(h':W P c I Q a w):W P c K Q a w:=Qbo h' h (fun _ _ _ h=>h)
theorem C0(g j:Nat):(aZ g).add j=(ao g j):=by unfold Addr.add;split<;>simp_all
theorem aW{w:World}{g t:Nat}{cs:aP}(h:(bx.aB g t cs).holds w)(j:Nat)(v:Value)(hj:cs[j]?=some v):w.cell? ((aZ g).add j)=some v:=by
 rw[C0];exact ae h hj
theorem Mem.dY(w:World)(e size:Nat):Mem bq w w [.row e size none 0 0 []]:=by
 refine⟨rfl,rfl,rfl,kQ _,fun _ _ _=>rfl,?_,Jb _ _⟩;simp only[yX];rintro _ rfl;exact⟨J7 w e size,fun g hg=>by obtain⟨a,ha,_⟩:=hg;cases ha⟩
theorem jC{w:World}{A:ar}{ad:Addr}{xs:aP}(h:(bx.rd A xs).holds w)(hA:A=some ad){j:Nat}{v:Value}(hj:xs[j]?=some v):w.cell? (ad.add j)=some v:=by
 obtain⟨a',ha,hc⟩:=h j v hj;rw[hA]at ha;injection ha with ha;subst ha;exact hc
theorem bJ{w:World}{A:ar}{ad:Addr}{xs:aP}(h:(bx.rd A xs).holds w)(hA:A=some ad){j:Nat}{v:Value}(hj:xs[j]?=some v):w.cell? (ad.add (j*1))=some v:=by
 rw[Qoz];exact jC h hA hj
theorem rd_some{w:World}{A:ar}{xs:aP}(h:(bx.rd A xs).holds w)(hn:0<xs.length):∃ad,A=some ad:=by
 obtain⟨a',ha,_⟩:=h 0 xs[0] (by simp[hn]);exact⟨a',ha⟩
theorem uK{w:World}{e size n c:Nat}{A:ar}{xs:aP}(h:(bx.row e size A n c xs).holds w)(hn:0<n):∃ad,A=some ad:=by
 obtain⟨g,hg⟩:=df h hn;exact⟨_,hg⟩
def ints(l:af):aP:=l.map vI
theorem PB{l:af}{i:Nat}(h:i<l.length):(ints l)[i]?=some (vI (l.getD i 0)):=by
 simp[ints,List.getD,h]
theorem dg(l:af):(ints l).length=l.length:=by simp[ints]
theorem fG(l m:af):ints (l++m)=ints l++ints m:=by simp[ints]
theorem xQ(l:af):∀u∈ints l,u.oneCell'=true:=by
 intro u hu;simp only[ints,Qhz]at hu;obtain⟨x,_,rfl⟩:=hu;rfl
theorem dZ{w:World}{A:ar}{ad:Addr}{l:af}(h:(bx.rd A (ints l)).holds w)(hA:A=some ad){i:Int}(h0:0≤i)(h1:i<l.length):w.cell? (ad.add (i.toNat*1))=some (vI (l.getD i.toNat 0)):=bJ h hA (PB oM)
theorem fx{w:World}{A:ar}{ad:Addr}{l:af}(h:(bx.rd A (ints l)).holds w)(hA:A=some ad){i:Nat}{v:Int}(hi:l[i]?=some v):w.cell? (ad.add ((i:Int).toNat*1))=some (vI v):=by
 rw[Qoq];exact bJ h hA (by simp[ints,hi])
theorem GB{w:World}{A:ar}{l:af}(h:(bx.rd A (ints l)).holds w)(hn:0<l.length):∃ad,A=some ad:=rd_some h (by rw[dg];exact hn)
end Go.Mor
