/-
  Texts of the proof, part 3.
-/
import Derived.Test.YthgbejihcchcnaaDoorZd2
import Derived.Maps.AppendAt
set_option maxRecDepth 10000
namespace Go.Mor
open Go.RowKit
def eU(Φ:Value→World→Prop)(e:Ending)(w:World):Prop:=∃v,e= .returned v∧Φ v w
def uw(P:Program)(t:TypeId):Bool:=match P.underlying t with
 |some (.struct _)=>false
 |some (.array _ _)=>false
 |some _=>match P.info? t with
  |some i=>Nat.beq i.size 1
  |none=>false
 |none=>false
def vy(P:Program)(t:TypeId):Option Nat:=match P.underlying t with
 |some (.struct _)=>(P.info? t).map (·.size)
 |some (.array _ _)=>(P.info? t).map (·.size)
 |_=>none
theorem yJ{P:Program}{t:TypeId}(h:uw P t=true)(w:World):(isAgg t).run P w= .ok false w:=by
 unfold uw at h;split at h
 ·cases h
 ·cases h
 ·rename_i d h1 h2 u;simp only[isAgg,Sem.run_bind,run_underlying u,Result.andThen_ok];cases d<;>first|rfl|(exact absurd rfl (h1 _))|(exact absurd rfl (h2 _ _))
 ·cases h
theorem Cy{P:Program}{t:TypeId}(h:uw P t=true)(w:World):(sizeOf t).run P w= .ok 1 w:=by
 unfold uw at h;split at h
 ·cases h
 ·cases h
 ·split at h
  ·rename_i i hi;have:i.size=1:=Nat.eq_of_beq_eq_true h;simp[sizeOf,typeInfo,hi,this]
  ·cases h
 ·cases h
theorem pO{P:Program}{t:TypeId}{n:Nat}(h:vy P t=some n)(w:World):(isAgg t).run P w= .ok true w∧(sizeOf t).run P w= .ok n w:=by
 unfold vy at h;split at h
 ·rename_i u;cases hi:P.info? t with
  |none=>simp[hi]at h
  |some i=>simp[hi]at h;subst h;simp[isAgg,run_underlying u,sizeOf,typeInfo,hi]
 ·rename_i u;cases hi:P.info? t with
  |none=>simp[hi]at h
  |some i=>simp[hi]at h;subst h;simp[isAgg,run_underlying u,sizeOf,typeInfo,hi]
 ·cases h
theorem pP{v:Value}(h:v.oneCell'=true):v.cells=#[v]:=by cases v<;>simp[Value.oneCell']at h<;>rfl
section
variable {P : Program} {c : Code} {K : Act → World → Prop} {Q : Exit → Act → World → Prop} {a : Act} {w w0 : World} {S : Nat → Prop} {L : List aL} {k k' : Nat} {N : FN} {env : Env}
variable {d : Option Nat} {ty : Nat} {g : Option (Nat × Bool)}
theorem dR{op:Op}(hk:ao c k=some (d,op,ty,g))(hF:Fr a N env)(hg:bu c g env=some true)(hd:gL d N=true)(im:k+1=k'){v:Value}(hr:∀o:Oper,o.op=op→(execOp a.eval o).run P w= .ok (.value v) w)(h:∀a',a'=a.put d v→Fr a' N (dN env d v)→bw P c K Q k' a' w):bw P c K Q k a w:=by
 subst im;exact gF hk hF hg (fun o ho _=>hr o ho) (h _ rfl (hF.put hd v))
theorem fz{op:Op}(hk:ao c k=some (d,op,ty,g))(hF:Fr a N env)(hg:bu c g env=some true)(hd:gL d N=true)(im:k+1=k'){v:Value}(hv:oV P env op=some v)(h:∀a',a'=a.put d v→Fr a' N (dN env d v)→bw P c K Q k' a' w):bw P c K Q k a w:=dR hk hF hg hd im (fun _ ho=>run_pure hF hv ho w) h
theorem qK{t:TypeId}{x:Operand}(hk:ao c k=some (d,.load t x,ty,g))(hF:Fr a N env)(hg:bu c g env=some true)(hd:gL d N=true)(im:k+1=k'){ad:Addr}{v:Value}(hx:ev env x=some (vP ad))(ht:uw P t=true)(hc:w.cell? ad=some v)(h:∀a',a'=a.put d v→Fr a' N (dN env d v)→bw P c K Q k' a' w):bw P c K Q k a w:=by
 refine dR hk hF hg hd im (fun o ho=> ?_) h;unfold execOp;rw[ho];simp[Instr.loadAt,Instr.sureAddr,hF.ev hx,loadVar,yJ ht,hc]
theorem eZ{t:TypeId}{x:Operand}(hk:ao c k=some (d,.load t x,ty,g))(hF:Fr a N env)(hg:bu c g env=some true)(hd:gL d N=true)(im:k+1=k'){ad:Addr}{vs:bp}(hx:ev env x=some (vP ad))(ht:vy P t=some vs.length)(hc:∀j v,vs[j]?=some v→w.cell? (ad.add j)=some v)(h:∀a',a'=a.put d (.agg vs.toArray)→Fr a' N (dN env d (.agg vs.toArray))→bw P c K Q k' a' w):bw P c K Q k a w:=by
 refine dR hk hF hg hd im (fun o ho=> ?_) h;unfold execOp;rw[ho];obtain⟨h1,h2⟩:=pO ht w;simp[Instr.loadAt,Instr.sureAddr,hF.ev hx,loadVar,h1,h2,run_loadCells_list (P:=P) w ad vs hc]
theorem iJ{op:BinOp}{t t':TypeId}{x y:Operand}(hk:ao c k=some (d,.binOp op t x y t',ty,g))(hF:Fr a N env)(hg:bu c g env=some true)(hd:gL d N=true)(im:k+1=k'){i j z:Int}(hx:ev env x=some (vI i))(hy:ev env y=some (vI j))(hz:arI op i j=some z)(h1: -9223372036854775808≤z)(h2:z≤9223372036854775807)(h:∀a',a'=a.put d (vI z)→Fr a' N (dN env d (vI z))→bw P c K Q k' a' w):bw P c K Q k a w:=by
 refine dR hk hF hg hd im (fun o ho=> ?_) h;unfold execOp;rw[ho];have hw:IntKind.i64.wrap z=z:=IntWalk.i64_in z ⟨h1,h2⟩;cases op<;>simp only[arI]at hz<;>first
  |(cases hz;done)
  |(injection hz with hz;subst hz;simp[hF.ev hx,hF.ev hy,eqGuard,binOp,Op.intArith,hw])
theorem Cz{op:BinOp}{t t':TypeId}{x y:Operand}(hk:ao c k=some (d,.binOp op t x y t',ty,g))(hF:Fr a N env)(hg:bu c g env=some true)(hd:gL d N=true)(im:k+1=k'){kd:IntKind}{i j:Int}{b:Bool}(hx:ev env x=some (.int kd i))(hy:ev env y=some (.int kd j))(hb:KR op i j=some b)(h:∀B,B=b→∀a',a'=a.put d (vB B)→Fr a' N (dN env d (vB B))→bw P c K Q k' a' w):bw P c K Q k a w:=by
 refine dR hk hF hg hd im (fun o ho=> ?_) (h b rfl);refine run_pure hF (op:= .binOp op t x y t') ?_ ho w;simp[oV,hx,hy,hb]
theorem vz{t:TypeId}{x:Operand}(hk:ao c k=some (d,.box t x,ty,g))(hF:Fr a N env)(hg:bu c g env=some true)(hd:gL d N=true)(im:k+1=k'){v:Value}{cs:bp}(hx:ev env x=some v)(zZ:v.cells=cs.toArray)(hM:Mem S w0 w L)(h:∀b w',w0.heap.size≤b→w.heap.size≤b→Mem S w0 w' (L++[.ak b t cs])→Mem aR w w' [.ak b t cs]→∀a',a'=a.put d (vP (aZ b))→Fr a' N (dN env d (vP (aZ b)))→bw P c K Q k' a' w'):bw P c K Q k a w:=by
 subst im;refine gF hk hF hg (v:= .pointer (some (aZ w.heap.size))) (w':=w.alloc (.cells cs.toArray t)) (fun o ho _=> ?_) (h w.heap.size (w.alloc (.cells cs.toArray t)) hM.size (Nat.le_refl _) (hM.call (Mem.alloc w t cs)) (Mem.alloc w t cs) _ rfl (hF.put hd _));unfold execOp;rw[ho];simp[Instr.box,hF.ev hx,newVar,newRow,zZ]
theorem vA{t:TypeId}(hk:ao c k=some (d,.alloc t,ty,g))(hF:Fr a N env)(hg:bu c g env=some true)(hd:gL d N=true)(im:k+1=k'){cs:bp}(hz:(P.info? t).map (fun i=>i.zero.map (fun z=>z.cells.toList))=some (some cs))(hM:Mem S w0 w L)(h:∀b w',w0.heap.size≤b→w.heap.size≤b→Mem S w0 w' (L++[.ak b t cs])→Mem aR w w' [.ak b t cs]→∀a',a'=a.put d (vP (aZ b))→Fr a' N (dN env d (vP (aZ b)))→bw P c K Q k' a' w'):bw P c K Q k a w:=by
 subst im;refine gF hk hF hg (v:= .pointer (some (aZ w.heap.size))) (w':=w.alloc (.cells cs.toArray t)) (fun o ho _=> ?_) (h w.heap.size (w.alloc (.cells cs.toArray t)) hM.size (Nat.le_refl _) (hM.call (Mem.alloc w t cs)) (Mem.alloc w t cs) _ rfl (hF.put hd _));unfold execOp;rw[ho];cases hi:P.info? t with
 |none=>simp[hi]at hz
 |some i=>
  cases Ex:i.zero with
  |none=>simp[hi,Ex]at hz
  |some z=>
   simp[hi,Ex]at hz;subst hz;simp[Instr.alloc,zeroValue,typeInfo,hi,Ex,newVar,newRow]
theorem oW{t:TypeId}{x y:Operand}(hk:ao c k=some (d,.store t x y,ty,g))(hF:Fr a N env)(hg:bu c g env=some true)(hd:gL d N=true)(im:k+1=k'){b off t0:Nat}{v:Value}{cs:bp}(hx:ev env x=some (vP (aq b off)))(hy:ev env y=some v)(ht:uw P t=true)(hv:v.oneCell'=true)(hM:Mem S w0 w L)(i:Nat)(hi:L[i]?=some (.ak b t0 cs))(ho:off<cs.length)(h:∀w',Mem S w0 w' (L.set i (.ak b t0 (cs.set off v)))→Mem (aL.ak b t0 cs).fp w w' [.ak b t0 (cs.set off v)]→∀a',a'=a.put d undef→Fr a' N (dN env d undef)→bw P c K Q k' a' w'):bw P c K Q k a w:=by
 subst im;have hb:=hM.get i hi;have hm:=Mem.zX (i:=off) hb v;refine lL hk hF hg (w':=w.setCell (aq b off) v) (fun o Vg=> ?_) (h _ (by simpa using hM.mod i hi hm) hm _ rfl (hF.put hd _));have oX:w.cell? (aq b off)=some cs[off]:=aa hb (by simp[ho]);unfold execOp;rw[Vg];have pQ:(store (aq b off) v).run P w= .ok () (w.setCell (aq b off) v):=by rw[run_store P w _ v .plain hv,oX];simp[qI hb]
 simp[Instr.storeAt,Instr.sureAddr,hF.ev hx,hF.ev hy,storeVar,pP hv,Cy ht,storeCells,Addr.add,pQ]
theorem cD{t:TypeId}{x y:Operand}(hk:ao c k=some (d,.store t x y,ty,g))(hF:Fr a N env)(hg:bu c g env=some true)(hd:gL d N=true)(im:k+1=k'){ad:Addr}{j e size n cap:Nat}{v:Value}{xs:bp}{ad':Addr}(hx:ev env x=some (vP ad'))(Qy:ad'=ad.add j)(hy:ev env y=some v)(ht:uw P t=true)(hv:v.oneCell'=true)(hM:Mem S w0 w L)(i:Nat)(hi:L[i]?=some (.row e size (some ad) n cap xs))(hj:j<n*size)(h:∀w',Mem S w0 w' (L.set i (.row e size (some ad) n cap (xs.set j v)))→Mem (aL.row e size (some ad) n cap xs).fp w w' [.row e size (some ad) n cap (xs.set j v)]→∀a',a'=a.put d undef→Fr a' N (dN env d undef)→bw P c K Q k' a' w'):bw P c K Q k a w:=by
 subst im;subst Qy;have hb:=hM.get i hi;have hm:=Mem.zY (j:=j) hb v;refine lL hk hF hg (w':=w.setCell (ad.add j) v) (fun o Vg=> ?_) (h _ (by simpa using hM.mod i hi hm) hm _ rfl (hF.put hd _));have hl:j<xs.length:=by rw[z1 hb];exact hj
 obtain⟨a',mT,oX⟩:=az hb j xs[j] (by simp[hl]);injection mT with mT;subst mT;unfold execOp;rw[Vg];have pQ:(store (ad.add j) v).run P w= .ok () (w.setCell (ad.add j) v):=by rw[run_store P w _ v .plain hv,oX];simp[qJ hb]
 have h0:(ad.add j).add 0=ad.add j:=by simp[Addr.add]
 simp[Instr.storeAt,Instr.sureAddr,hF.ev hx,hF.ev hy,storeVar,pP hv,Cy ht,storeCells,h0,pQ]
theorem oY{b t0:Nat}:∀(vs:bp) (i:Nat) {cs:bp} {w:World},(∀v∈vs,v.oneCell'=true)→(aL.ak b t0 cs).holds w→i+vs.length≤cs.length→∃w',(storeCells (aZ b) vs i).run P w= .ok () w'∧Mem (aL.ak b t0 cs).fp w w' [.ak b t0 (cs.take i++vs++cs.drop (i+vs.length))]
 |[],i,cs,w,_,hb,_=>⟨w,by simp[storeCells],by simpa using Mem.kr hb⟩
 |v::vs,i,cs,w,h1,hb,hl=>by
  simp only[bk]at hl;have hm:=Mem.zX (i:=i) hb v;have GI:=hm.get 0 rfl;obtain⟨w',hr,H7⟩:=oY vs (i+1) (fun u hu=>h1 u (List.mem_cons_of_mem _ hu)) GI (by simp;omega);refine⟨w',?_,?_⟩
  ·have e:(aZ b).add i=(aq b i):=by unfold Addr.add;split<;>simp_all
   have oX:w.cell? (aq b i)=some (cs[i]'oM):=aa hb sI;have pQ:(store (aq b i) v).run P w= .ok () (w.setCell (aq b i) v):=by rw[run_store P w _ v .plain (h1 v (List.mem_cons_self ..)),oX];simp[qI hb]
   simp only[storeCells,Sem.run_bind,e,pQ,Result.andThen_ok,hr]
  ·have KU:(cs.set i v).take (i+1)++vs++(cs.set i v).drop (i+1+vs.length)=cs.take i++v::vs++cs.drop (i+(v::vs).length):=by rw[List.take_succ_eq_append_getElem (by simp;omega),List.drop_set,if_pos oM];simp[List.take_set_of_le (Nat.le_refl _),Nat.add_assoc,Nat.add_comm 1]
   rw[KU]at H7;have:=hm.mod 0 rfl H7;simpa using this
theorem oy{t:TypeId}{x y:Operand}(hk:ao c k=some (d,.store t x y,ty,g))(hF:Fr a N env)(hg:bu c g env=some true)(hd:gL d N=true)(im:k+1=k'){b t0:Nat}{vs cs:bp}(hx:ev env x=some (vP (aZ b)))(hy:ev env y=some (.agg vs.toArray))(ht:vy P t=some vs.length)(hv:∀v∈vs,v.oneCell'=true)(hM:Mem S w0 w L)(i:Nat)(hi:L[i]?=some (.ak b t0 cs))(ho:cs.length=vs.length)(h:∀w',Mem S w0 w' (L.set i (.ak b t0 vs))→Mem (aL.ak b t0 cs).fp w w' [.ak b t0 vs]→∀a',a'=a.put d undef→Fr a' N (dN env d undef)→bw P c K Q k' a' w'):bw P c K Q k a w:=by
 subst im;have hb:=hM.get i hi;obtain⟨w',hr,hm⟩:=oY (P:=P) vs 0 hv hb oM;have hl:cs.take 0++vs++cs.drop (0+vs.length)=vs:=by simp[←ho]
 rw[hl]at hm;refine lL hk hF hg (w':=w') (fun o Vg=> ?_) (h _ (by simpa using hM.mod i hi hm) hm _ rfl (hF.put hd _));unfold execOp;rw[Vg];simp[Instr.storeAt,Instr.sureAddr,hF.ev hx,hF.ev hy,storeVar,(pO ht w).2,Value.cells,hr]
theorem qL{t:TypeId}{x y:Operand}(hk:ao c k=some (d,.indexAddr t x y,ty,g))(hF:Fr a N env)(hg:bu c g env=some true)(hd:gL d N=true)(im:k+1=k'){A:aA}{ad:Addr}{n cap e size:Nat}{kd:IntKind}{i:Int}(hx:ev env x=some (vS A n cap))(hy:ev env y=some (.int kd i))(hA:A=some ad)(ht:P.underlying t=some (.slice e))(hs:(P.info? e).map (·.size)=some size)(h0:0≤i)(h1:i<n)(h:∀a',a'=a.put d (vP (ad.add (i.toNat*size)))→Fr a' N (dN env d (vP (ad.add (i.toNat*size))))→bw P c K Q k' a' w):bw P c K Q k a w:=by
 subst hA;refine dR hk hF hg hd im (fun o ho=> ?_) h;unfold execOp;rw[ho];cases hi:P.info? e with
 |none=>simp[hi]at hs
 |some inf=>
  simp[hi]at hs;subst hs;simp[Instr.indexAt,asIntOf,hF.ev hx,hF.ev hy,run_underlying ht,h0,h1,sizeOf,typeInfo,hi]
theorem j2{t:TypeId}{x y:Operand}(hk:ao c k=some (d,.slice t x none (some y) none,ty,g))(hF:Fr a N env)(hg:bu c g env=some true)(hd:gL d N=true)(im:k+1=k'){A:aA}{n cap e size:Nat}{kd:IntKind}{i:Int}(m:Nat)(hx:ev env x=some (vS A n cap))(hy:ev env y=some (.int kd i))(hm:i=(m:Int))(ht:P.underlying t=some (.slice e))(hs:(P.info? e).map (·.size)=some size)(h1:m≤cap)(h:∀a',a'=a.put d (vS A m cap)→Fr a' N (dN env d (vS A m cap))→bw P c K Q k' a' w):bw P c K Q k a w:=by
 refine dR hk hF hg hd im (fun o ho=> ?_) h;subst hm;unfold execOp;rw[ho];cases hi:P.info? e with
 |none=>simp[hi]at hs
 |some inf=>
  have hA:(if cap=0 then A else A.map (·.add 0))=A:=by
   split
   ·rfl
   ·cases A<;>simp[Addr.add]
  simp[Instr.sliceAt,Instr.slice,Instr.sliceBounds,Instr.sliceBound,asIntOf,hF.ev hx,hF.ev hy,run_underlying ht,sizeOf,typeInfo,hi,h1,hA]
theorem rG{t:TypeId}{x y:Operand}(hk:ao c k=some (d,.slice t x (some y) none none,ty,g))(hF:Fr a N env)(hg:bu c g env=some true)(hd:gL d N=true)(im:k+1=k'){A:aA}{n cap e size:Nat}{kd:IntKind}{i:Int}(m:Nat)(hx:ev env x=some (vS A n cap))(hy:ev env y=some (.int kd i))(hm:i=(m:Int))(ht:P.underlying t=some (.slice e))(hs:(P.info? e).map (·.size)=some size)(h1:m≤n)(h:∀a',a'=a.put d (vS (if cap=m then A else A.map (·.add (m*size))) (n-m) (cap-m))→Fr a' N (dN env d (vS (if cap=m then A else A.map (·.add (m*size))) (n-m) (cap-m)))→bw P c K Q k' a' w):bw P c K Q k a w:=by
 refine dR hk hF hg hd im (fun o ho=> ?_) h;subst hm;unfold execOp;rw[ho];cases hi:P.info? e with
 |none=>simp[hi]at hs
 |some inf=>
  simp[hi]at hs;subst hs;simp[Instr.sliceAt,Instr.slice,Instr.sliceBounds,Instr.sliceBound,asIntOf,hF.ev hx,hF.ev hy,run_underlying ht,sizeOf,typeInfo,hi,h1]
theorem ux{t:TypeId}{len:Nat}{ps:Array (Nat×Operand)}(hk:ao c k=some (d,.buildSlice t len ps,ty,g))(hF:Fr a N env)(hg:bu c g env=some true)(hd:gL d N=true)(im:k+1=k'){e size:Nat}{zs:bp}{vs:List (Nat×Value)}{cs:bp}(ht:P.underlying t=some (.slice e))(hi:(P.info? e).map (fun i=>(i.size,i.zero.map (·.cells.toList)))=some (size,some zs))(hp:parts env ps.toList=some vs)(jo:(Nat.ble 1 (len*size)&&Nat.ble (len*size) 1000)=true)(KV:Instr.fill (fun i=>some (i*size,size)) ((Array.range (len*size)).map (zs.toArray[· % zs.toArray.size]!)) vs=some cs.toArray)(hl:Nat.beq cs.length (len*size)=true)(hM:Mem S w0 w L)(h:∀b w',w0.heap.size≤b→w.heap.size≤b→Mem S w0 w' (L++[.row e size (some (aZ b)) len len cs])→Mem aR w w' [.row e size (some (aZ b)) len len cs]→∀a',a'=a.put d (vS (some (aZ b)) len len)→Fr a' N (dN env d (vS (some (aZ b)) len len))→bw P c K Q k' a' w'):bw P c K Q k a w:=by
 subst im;have ZW:1≤len*size∧len*size≤1000:=by rw[Bool.and_eq_true]at jo;exact⟨Nat.le_of_ble_eq_true jo.1,Nat.le_of_ble_eq_true jo.2⟩
 have uV:cs.length=len*size:=Nat.eq_of_beq_eq_true hl;have H8:0<size:=by
  rcases Nat.eq_zero_or_pos size with h0|h0
  ·rw[h0]at ZW;omega
  ·exact h0
 have hlen:len≤1000:=Nat.le_trans (Nat.le_mul_of_pos_right _ H8) ZW.2;have kj:(aL.row e size (some (aZ w.heap.size)) len len cs).holds (w.alloc (.cells cs.toArray e)):=by have:=World.ownsRow_lit (base:=0) (e:=e) (size:=size) w cs.toArray len (Nat.zero_le _) (by simp only[maxLen];omega) (by simpa using uV);show World.ownsRow _ _ _ _ _ _ _;simpa using this
 have hm:Mem aR w (w.alloc (.cells cs.toArray e)) [.row e size (some (aZ w.heap.size)) len len cs]:=by refine(Mem.alloc w e cs).say 0 rfl (fun _=>kj) ?_;rintro g' ⟨a',mT,rfl⟩;injection mT with mT;subst mT;rfl
 refine gF hk hF hg (v:=vS (some (aZ w.heap.size)) len len) (w':=w.alloc (.cells cs.toArray e)) (fun o ho _=> ?_) (h w.heap.size (w.alloc (.cells cs.toArray e)) hM.size (Nat.le_refl _) (hM.call hm) hm _ rfl (hF.put hd _));unfold execOp;rw[ho];have e1:=sZ hF hp;have e2:(ps.map fun(i,x)=>(i,a.eval x))=vs.toArray:=by apply Array.ext';simpa using e1
 cases qM:P.info? e with
 |none=>simp[qM]at hi
 |some inf=>
  simp only[qM,Option.map_some,Option.some.injEq,Prod.mk.injEq]at hi;obtain⟨hs,hz⟩:=hi;subst hs;cases Ex:inf.zero with
  |none=>simp[Ex]at hz
  |some z=>
   simp only[Ex,Option.map_some,Option.some.injEq]at hz;subst hz;have n1:¬(16777216<len*inf.size):=oM;have n2:¬(len*inf.size=0):=oM;have Vh:Instr.fill (fun i=>some (i*inf.size,inf.size)) ((Array.range (len*inf.size)).map (z.cells[· % z.cells.size]!)) vs=some cs.toArray:=by simpa using KV
   have Vi:(sizeOf e).run P w= .ok inf.size w:=by simp[sizeOf,typeInfo,qM]
   have vC:(zeroValue e).run P w= .ok z w:=by simp[zeroValue,typeInfo,qM,Ex]
   simp only[Instr.buildSlice,Sem.run_bind,run_underlying ht,Vi,Result.andThen_ok,e2,Nat.reducePow,gt_iff_lt,n1,n2,if_false,Sem.run_pure,Sem.run_ite,vC,Vh,newRow,run_newObj];rfl
theorem lU{t:TypeId}{x y:Operand}(hk:ao c k=some (d,.makeSlice t x y,ty,g))(hF:Fr a N env)(hg:bu c g env=some true)(hd:gL d N=true)(im:k+1=k'){e bytes:Nat}{z:Value}{n:Nat}{i:Int}(hx:ev env x=some (vI i))(hy:ev env y=some (vI i))(hn:i=(n:Int))(ht:P.underlying t=some (.slice e))(hi:(P.info? e).map (fun i=>(i.size,i.bytes,i.zero))=some (1,bytes,some z))(hz:z.oneCell'=true)(hb:bytes*n≤140737488355328)(hl:n≤maxLen)(hM:Mem S w0 w L)(h:∀b w',w0.heap.size≤b→w.heap.size≤b→Mem S w0 w' (L++[.row e 1 (some (aZ b)) n n (List.replicate n z)])→Mem aR w w' [.row e 1 (some (aZ b)) n n (List.replicate n z)]→∀a',a'=a.put d (vS (some (aZ b)) n n)→Fr a' N (dN env d (vS (some (aZ b)) n n))→bw P c K Q k' a' w'):bw P c K Q k a w:=by
 subst im;subst hn;cases qM:P.info? e with
 |none=>simp[qM]at hi
 |some inf=>
  simp only[qM,Option.map_some,Option.some.injEq,Prod.mk.injEq]at hi;obtain⟨hs,ZX,Ex⟩:=hi;subst ZX;obtain⟨w',hr,xY,H9⟩:=run_make_full (P:=P) w 0 t e inf z 1 ht qM Ex hs .i64 .i64 n oM hl (Nat.zero_le _);rw[pP hz,Nat.mul_one,toList_madeCells_one]at xY;have hm:Mem aR w w' [.row e 1 (some (aZ w.heap.size)) n n (List.replicate n z)]:=by refine⟨H9.os,H9.tape,H9.output,H9.size,fun k hk _=>H9.block k hk sI,?_,List.pairwise_singleton _ _⟩;simp only[List.mem_singleton];rintro _ rfl;refine⟨xY,?_⟩;rintro g' ⟨a',mT,rfl⟩;injection mT with mT;subst mT;exact .inr (Nat.le_refl _)
  refine gF hk hF hg (v:=vS (some (aZ w.heap.size)) n n) (w':=w') (fun o ho _=> ?_) (h w.heap.size w' hM.size (Nat.le_refl _) (hM.call hm) hm _ rfl (hF.put hd _));unfold execOp;rw[ho];simp only[hF.ev hx,hF.ev hy,Sem.run_bind,hr,Result.andThen_ok];rfl
theorem qN(w:World)(t ty e:TypeId)(i:TypeInfo)(size:Nat)(ht:P.underlying t=some (.slice e))(hi:P.info? e=some i)(v:Value)(n:Nat)(xs:bp)(xY:w.ownsRow 0 e size v n xs)(c:Nat):(Builtin.append_ #[t,t] ty #[v,.slice none 0 c]).run P w= .ok v w:=by
 rcases xY.2 with⟨rfl,rfl⟩|⟨g,cap,cur,rfl,_,_,YQ,_⟩
 ·simp[Builtin.append_,run_underlying ht,sizeOf,typeInfo,hi,Builtin.lenOf,Builtin.firstCells]
 ·simp[Builtin.append_,run_underlying ht,sizeOf,typeInfo,hi,Builtin.lenOf,Builtin.firstCells,YQ,storeCells]
theorem vE{t ty e size bytes:Nat}{z:Value}(ht:P.underlying t=some (.slice e))(hi:(P.info? e).map (fun i=>(i.size,i.bytes,i.zero))=some (size,bytes,some z))(ZY:z.cells.size=size)(jo:0<size){A B:aA}{n cap m cap':Nat}{xs news:bp}(kj:(aL.row e size A n cap xs).holds w)(z3:(aL.rd B news).holds w)(hl:news.length=m*size)(h1:∀u∈news,u.oneCell'=true)(hb:(n+m)*bytes≤140737488355328)(Tm:n+m≤maxLen):∃A' c' w',(Builtin.append_ #[t,t] ty #[.slice A n cap,.slice B m cap']).run P w= .ok (vS A' (n+m) c') w'∧Mem (aL.row e size A n cap xs).fp w w' [.row e size A' (n+m) c' (xs++news)]:=by
 cases qM:P.info? e with
 |none=>simp[qM]at hi
 |some inf=>
  simp only[qM,Option.map_some,Option.some.injEq,Prod.mk.injEq]at hi;obtain⟨hs,ZX,Ex⟩:=hi;by_cases hm0:m=0∧B=none
  ·obtain⟨rfl,rfl⟩:=hm0;have hn:news=[]:=List.eq_nil_of_length_eq_zero (by simpa using hl);subst hn;refine⟨A,cap,w,qN w t ty e inf size ht qM _ n xs kj cap',?_⟩;simpa using Mem.kr kj
  ·have hB:∃ad,B=some ad∧∀j u,news[j]?=some u→w.cell? (ad.add j)=some u:=by
    cases B with
    |none=>
     have hm:m≠0:=fun h=>hm0 ⟨h,rfl⟩
     have hn:0<news.length:=by rw[hl];exact Nat.mul_pos oM jo
     obtain⟨ad,h,_⟩:=z3 0 news[0] (by simp[hn]);cases h
    |some ad=>
     refine⟨ad,rfl,fun j u hu=> ?_⟩;obtain⟨a',mT,hc⟩:=z3 j u hu;injection mT with mT;subst mT;exact hc
   obtain⟨ad,rfl,Vj⟩:=hB;obtain⟨v',w',hr,xY,H9,_,hw⟩:=run_append_own_at (P:=P) w 0 t ty e inf z size bytes ht qM Ex hs ZX ZY jo (vS A n cap) n xs kj ad m cap' news hl Vj h1 Tm hb (Nat.zero_le _);have ZZ:∃A' c',v'=vS A' (n+m) c':=by
    rcases xY.2 with⟨rfl,h0⟩|⟨g',cap1,cur,rfl,_⟩
    ·exact⟨none,0,by rw[h0]⟩
    ·exact⟨_,_,rfl⟩
   obtain⟨A',c',rfl⟩:=ZZ;exact⟨A',c',w',hr,Mem.grown H9 xY hw⟩
theorem CA{t:TypeId}{x y:Operand}(hk:ao c k=some (d,.call {callee:= .builtin .append,args:=#[x,y],argTypes:=#[t,t]},ty,g))(hF:Fr a N env)(hg:bu c g env=some true)(hd:gL d N=true)(im:k+1=k'){e size bytes:Nat}{z:Value}(ht:P.underlying t=some (.slice e))(hi:(P.info? e).map (fun i=>(i.size,i.bytes,i.zero))=some (size,bytes,some z))(ZY:Nat.beq z.cells.size size=true)(jo:Nat.blt 0 size=true){A B:aA}{n cap m cap':Nat}{xs news:bp}(hx:ev env x=some (vS A n cap))(hy:ev env y=some (vS B m cap'))(hM:Mem S w0 w L)(i:Nat)(hL:L[i]?=some (.row e size A n cap xs))(z3:(aL.rd B news).holds w)(hl:news.length=m*size)(h1:∀u∈news,u.oneCell'=true)(hb:(n+m)*bytes≤140737488355328)(Tm:n+m≤maxLen)(h:∀A' c' w',Mem S w0 w' (L.set i (.row e size A' (n+m) c' (xs++news)))→Mem (aL.row e size A n cap xs).fp w w' [.row e size A' (n+m) c' (xs++news)]→∀a',a'=a.put d (vS A' (n+m) c')→Fr a' N (dN env d (vS A' (n+m) c'))→bw P c K Q k' a' w'):bw P c K Q k a w:=by
 subst im;obtain⟨A',c',w',hr,hm⟩:=vE (P:=P) (ty:=ty) ht hi (Nat.eq_of_beq_eq_true ZY) (by simpa[Nat.blt_eq]using jo) (hM.get i hL) z3 hl h1 hb Tm (cap':=cap');refine gF hk hF hg (v:=vS A' (n+m) c') (w':=w') (fun o ho hty=> ?_) (h A' c' w' (by simpa using hM.mod i hL hm) hm _ rfl (hF.put hd _));unfold execOp;rw[ho,hty];simp only[resolve,invoke,builtin,Sem.run_bind,Sem.run_pure,Result.andThen_ok,List.map_toArray,List.map_cons,List.map_nil,hF.ev hx,hF.ev hy,hr]
def s4(P:Program)(f:FuncId):Bool:=match P.funcs[f]? with
 |some fn=> !(fn.name== "runtime.NumGoroutine")&&fn.body.isSome
 |none=>false
theorem rH{f:FuncId}(h:s4 P f=true)(args:Array Value)(w:World):(callFunc f args).run P w= .ok (.enter f args) w:=by
 unfold s4 at h;cases hf:P.funcs[f]? with
 |none=>simp[hf]at h
 |some fn=>
  simp only[hf,Bool.and_eq_true,Bool.not_eq_true']at h;have hb:fn.body.isNone=false:=by cases Tn:fn.body<;>simp_all
  have h1:=h.1;simp only[callFunc,Sem.run_bind,run_program,Result.andThen_ok,hf,h1,hb,Bool.false_eq_true,if_false];rfl
theorem dY{x:Operand}{args:Array Operand}{ts:Array TypeId}(hk:ao c k=some (d,.call {callee:= .value x,args:=args,argTypes:=ts},ty,g))(hF:Fr a N env)(hg:bu c g env=some true)(hd:gL d N=true)(im:k+1=k'){f:FuncId}{vs cap:bp}(hx:ev env x=some (.func (.func f) #[] cap.toArray))(KW:Kt env args.toList=some vs)(hf:s4 P f=true){Φ:Value→World→Prop}(hc:Calls P f (vs++cap).toArray w (eU Φ))(h:∀v w',Φ v w'→∀a',a'=a.put d v→Fr a' N (dN env d v)→bw P c K Q k' a' w'):bw P c K Q k a w:=by
 subst im;refine uT hk hF hg fun o h1 h2 h3 K' KQ=> ?_
 unfold Oper.wp;have hr:(execOp a.eval o).run P w= .ok (.enter f (vs++cap).toArray) w:=by
  unfold execOp;rw[h2];have e1:=nP hF KW;have e2:args.map a.eval=vs.toArray:=by apply Array.ext';simpa using e1
  simp[resolve,hF.ev hx,e2,Deferred.ofValue,invoke,rH hf]
 rw[hr,Oper.upon_enter];refine hc.mono ?_;rintro e w' ⟨v,rfl,hv⟩;rw[h1];exact KQ _ _ (h v w' hv _ rfl (hF.put hd v))
end
def z4(fn:Func):Code:=fn.body.getD .skip
def Ia:Nat→bp→Env
 |_,[]=>[]
 |i,v::r=>(i,v)::Ia (i+1) r
theorem yK:∀(vs:bp) (i t:Nat) {v:Value},look (Ia i vs) t=some v→i≤t∧vs[t-i]?=some v
 |[],i,t,v,h=>by simp[Ia,look]at h
 |u::r,i,t,v,h=>by
  simp only[Ia,look]at h;split at h
  ·rename_i hb;have:i=t:=Nat.eq_of_beq_eq_true hb;subst this;exact⟨Nat.le_refl _,by simpa using h⟩
  ·obtain⟨h1,h2⟩:=yK r (i+1) t h;refine⟨oM,?_⟩;have:t-i=(t-(i+1))+1:=oM;rw[this];simpa using h2
theorem enter{P:Program}{f:FuncId}{fn:Func}{N:FN}{vs:bp}{w:World}{R:Ending→World→Prop}(hf:P.funcs[f]?=some fn)(hb:fn.body.isSome=true)(hn:Nat.beq fn.ntmps N.n=true)(hl:Nat.ble vs.length N.n=true)(h:∀a,Fr a N (Ia 0 vs)→W P (z4 fn) (bodyPost P fn R .normal) (bodyPost P fn R) a w)(hD:N.D=[]:=by rfl):Calls P f vs.toArray w R:=by
 have hN:fn.ntmps=N.n:=Nat.eq_of_beq_eq_true hn;have hl':vs.length≤N.n:=Nat.le_of_ble_eq_true hl;cases Tn:fn.body with
 |none=>rw[Tn]at hb;cases hb
 |some c=>
  refine calls_of_wp hf Tn ?_;have:=h {tmps:=vs.toArray++Array.replicate (fn.ntmps-vs.toArray.size) undef,defers:=[]} ⟨hD.symm,by simp[hN];omega,?_⟩
  ·unfold W at this;rw[show z4 fn=c by simp[z4,Tn]]at this;refine wp_mono this ?_;intro e a w he;cases e<;>exact he
  ·intro t v hv;obtain⟨_,h2⟩:=yK vs 0 t hv;simp only[Nat.sub_zero]at h2;have ht:t<vs.length:=(List.getElem?_eq_some_iff.1 h2).1;rw[Array.getElem?_append_left (by simpa using ht)];simpa using h2
theorem Qc9{P:Program}{fn:Func}{R:Ending→World→Prop}{a:Act}{w:World}{N:FN}{env:Env}{t:Nat}{v:Value}(hF:Fr a N env)(hr:fn.results=#[.tmp t])(hv:look env t=some v)(h:R (.returned v) w)(hD:N.D=[]:=by rfl):bodyPost P fn R .ret a w:=by
 refine bodyPost_ret (v:=v) ?_ (hF.defers.trans hD) h;rw[results_tmp hr];have:=hF.ev (x:= .tmp t) hv;simp only[Act.eval]at this;rw[this]
theorem Qda{P:Program}{fn:Func}{R:Ending→World→Prop}{a:Act}{w:World}{N:FN}{env:Env}{t u:Nat}{v v':Value}(hF:Fr a N env)(hr:fn.results=#[.tmp t,.tmp u])(hv:look env t=some v)(hu:look env u=some v')(h:R (.returned (.tuple #[v,v'])) w)(hD:N.D=[]:=by rfl):bodyPost P fn R .ret a w:=by
 refine bodyPost_ret (v:= .tuple #[v,v']) ?_ (hF.defers.trans hD) h;rw[results_tmp2 hr];have h1:=hF.ev (x:= .tmp t) hv;have h2:=hF.ev (x:= .tmp u) hu;simp only[Act.eval]at h1 h2;rw[h1,h2]
theorem Qdb{P:Program}{fn:Func}{R:Ending→World→Prop}{a:Act}{w:World}{N:FN}{env:Env}(hF:Fr a N env)(hr:fn.results=#[])(h:R (.returned (.tuple #[])) w)(hD:N.D=[]:=by rfl):bodyPost P fn R .normal a w:=bodyPost_end (results_none hr _ _ _) (hF.defers.trans hD) h
end Go.Mor
namespace Go.Mor
open Go.RowKit
theorem Qz{id zV:Nat}{K:Act→World→Prop}{Q:Exit→Act→World→Prop}{a:Act}{w:World}(e:Nat.beq zV id=true)(h:K a w):PQ id K Q (.exit zV) a w:=by
 simp only[PQ,e];exact h
theorem KX{id zV:Nat}{K:Act→World→Prop}{Q:Exit→Act→World→Prop}{a:Act}{w:World}(e:Nat.beq zV id=false)(h:Q (.exit zV) a w):PQ id K Q (.exit zV) a w:=by
 simp only[PQ,e];exact h
theorem kN{P:Program}{c:Code}{K:Act→World→Prop}{Q:Exit→Act→World→Prop}{a:Act}{w:World}(I:Act→World→Prop)(h:∀a w,I a w→K a w)(h':W P c I Q a w):W P c K Q a w:=Vf h' h (fun _ _ _ h=>h)
theorem QA(g j:Nat):(aZ g).add j=(aq g j):=by unfold Addr.add;split<;>simp_all
theorem aU{w:World}{g t:Nat}{cs:bp}(h:(aL.ak g t cs).holds w)(j:Nat)(v:Value)(hj:cs[j]?=some v):w.cell? ((aZ g).add j)=some v:=by
 rw[QA];exact aa h hj
theorem Mem.gG(w:World)(e size:Nat):Mem aR w w [.row e size none 0 0 []]:=by
 refine⟨rfl,rfl,rfl,Nat.le_refl _,fun _ _ _=>rfl,?_,List.pairwise_singleton _ _⟩;simp only[List.mem_singleton];rintro _ rfl;exact⟨GG w e size,fun g hg=>by obtain⟨a,ha,_⟩:=hg;cases ha⟩
theorem j5{w:World}{A:aA}{ad:Addr}{xs:bp}(h:(aL.rd A xs).holds w)(hA:A=some ad){j:Nat}{v:Value}(hj:xs[j]?=some v):w.cell? (ad.add j)=some v:=by
 obtain⟨a',ha,hc⟩:=h j v hj;rw[hA]at ha;injection ha with ha;subst ha;exact hc
theorem aM{w:World}{A:aA}{ad:Addr}{xs:bp}(h:(aL.rd A xs).holds w)(hA:A=some ad){j:Nat}{v:Value}(hj:xs[j]?=some v):w.cell? (ad.add (j*1))=some v:=by
 rw[Nat.mul_one];exact j5 h hA hj
theorem rd_some{w:World}{A:aA}{xs:bp}(h:(aL.rd A xs).holds w)(hn:0<xs.length):∃ad,A=some ad:=by
 obtain⟨a',ha,_⟩:=h 0 xs[0] (by simp[hn]);exact⟨a',ha⟩
def ints(l:ar):bp:=l.map vI
theorem KY{l:ar}{i:Nat}(h:i<l.length):(ints l)[i]?=some (vI (l.getD i 0)):=by
 simp[ints,List.getD,h]
theorem CB(l:ar):(ints l).length=l.length:=by simp[ints]
theorem jJ(l m:ar):ints (l++m)=ints l++ints m:=by simp[ints]
theorem vF{w:World}{A:aA}{ad:Addr}{l:ar}(h:(aL.rd A (ints l)).holds w)(hA:A=some ad){i:Int}(h0:0≤i)(h1:i<l.length):w.cell? (ad.add (i.toNat*1))=some (vI (l.getD i.toNat 0)):=aM h hA (KY oM)
theorem dd{w:World}{A:aA}{ad:Addr}{l:ar}(h:(aL.rd A (ints l)).holds w)(hA:A=some ad){i:Nat}{v:Int}(hi:l[i]?=some v):w.cell? (ad.add ((i:Int).toNat*1))=some (vI v):=by
 rw[Int.toNat_natCast];exact aM h hA (by simp[ints,hi])
theorem rJ{w:World}{A:aA}{l:ar}(h:(aL.rd A (ints l)).holds w)(hn:0<l.length):∃ad,A=some ad:=rd_some h (by rw[CB];exact hn)
end Go.Mor
