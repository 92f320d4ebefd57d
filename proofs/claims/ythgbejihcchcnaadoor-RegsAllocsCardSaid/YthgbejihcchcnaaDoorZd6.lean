/-
  Texts of the proof, part 6.
-/
import Derived.Test.YthgbejihcchcnaaDoorZd5
import Derived.Test.YthgbejihcchcnaaDoorChecked
set_option maxRecDepth 10000
namespace Go.Proofs.YthgbejihcchcnaaDoor
open Go.Mor Go.ChangeShapes Go.WideShapes Go.ChangeAt Go.RowKit Go.Deep
theorem Tryd.own:ownKnob Tryd.prog.godebug=none:=kR
theorem Tryd.laidOut:laidOutB Tryd.prog=true:=kR
theorem Vv{α:Type}{cs:Array α}(h:cs.size=5):∃c0 c1 c2 c3 c4,cs=#[c0,c1,c2,c3,c4]:=by
 obtain⟨l⟩:=cs;match l,h with
 |[c0,c1,c2,c3,c4],_=>exact⟨c0,c1,c2,c3,c4,rfl⟩
theorem Z4{α:Type}{cs:List α}(h:cs.length=2):∃c0 c1,cs=[c0,c1]:=by
 match cs,h with
 |[c0,c1],_=>exact⟨c0,c1,rfl⟩
theorem Z5{α:Type}{cs:List α}(h:cs.length=5):∃c0 c1 c2 c3 c4,cs=[c0,c1,c2,c3,c4]:=by
 match cs,h with
 |[c0,c1,c2,c3,c4],_=>exact⟨c0,c1,c2,c3,c4,rfl⟩
theorem Z6{α:Type}{cs:List α}(h:cs.length=6):∃c0 c1 c2 c3 c4 c5,cs=[c0,c1,c2,c3,c4,c5]:=by
 match cs,h with
 |[c0,c1,c2,c3,c4,c5],_=>exact⟨c0,c1,c2,c3,c4,c5,rfl⟩
def ju{H:Type}(t:TypeId)(d:DataW H):Prop:=∀n,n∈d.weights Tryd.prog t→n≤reachBytes
theorem Lk{a k:Nat}(hk:0<k)(h:a*k≤reachBytes):jq a:=by
 have h1:a*1≤a*k:=Nat.mul_le_mul_left a hk;have h2:=reachBytes_lt;unfold jq;omega
theorem CL{H:Type}{e:TypeId}{l:List (DataW H)}{d:DataW H}(h:d∈l):∀n,n∈d.weights Tryd.prog e→n∈DataW.weightsAll Tryd.prog e l:=by
 induction l with
 |nil=>cases h
 |cons x l ih=>
  intro n hn;unfold DataW.weightsAll;rcases List.mem_cons.1 h with rfl|h
  ·exact List.mem_append_left _ hn
  ·exact List.mem_append_right _ (ih h n hn)
section
variable {H : Type} {enc : TypeId × Value → H} {w : World} {base : Nat} {spare : Nat → Bool} {held : Bool}
theorem lg{t:TypeId}(ht:Tryd.prog.underlying t=some (.int .i64)){fuel:Nat}{v:Value}{x:DataW H×List MemPlace}(h:DataW.trod enc Tryd.prog w base spare held fuel t [v]=some x):∃n,v=vI n∧In64 n:=by
 obtain⟨n,rfl,h1,h2⟩:=Vq ht h;exact⟨n,rfl,h1,h2⟩
theorem Ll{t:TypeId}(ht:Tryd.prog.underlying t=some .string){fuel:Nat}{v:Value}{x:DataW H×List MemPlace}(h:DataW.trod enc Tryd.prog w base spare held fuel t [v]=some x)(hz:ju t x.1):∃s,v=vT s∧jq s.size:=by
 obtain⟨s,h1,h3,_⟩:=DataW.trod_string ht h;simp at h1;subst h3;refine⟨s,h1,Lk (k:=1) Nat.one_pos ?_⟩;have:=hz s.data.toList.length (by simp[DataW.weights]);rw[Nat.mul_one];simpa using this
theorem vZ{t:TypeId}{fs:Array Field}(hs:Tryd.prog.underlying t=some (.struct fs))(Vw:oneCellFields Tryd.prog fs=true)(hC:Tryd.prog.cellsOf t=fs.size){fuel:Nat}{cs:bp}{x:DataW H×List MemPlace}(h:DataW.trod enc Tryd.prog w base spare held fuel t cs=some x)(hz:ju t x.1):cs.length=fs.size∧∃n:Nat,∀(i:Nat) (f:Field),fs[i]?=some f→∃(v:Value) (y:DataW H×List MemPlace),cs[i]?=some v∧DataW.trod enc Tryd.prog w base spare held n f.type [v]=some y∧ju f.type y.1:=by
 obtain⟨xs,n,_,YY,hlen,hxs,hf⟩:=DataW.trod_struct hs h;rw[hC]at hlen;refine⟨hlen,n,fun i f hi=> ?_⟩;have fo:i<fs.size:=(Array.getElem?_eq_some_iff.1 hi).1;obtain⟨ho,Z7⟩:=hone_of Vw i f hi;have h1:=hf i f hi;rw[ho,Z7,take1_drop cs i undef oM]at h1;rw[List.getElem?_eq_getElem (oM:i<xs.length)]at h1;refine⟨cs[i]'oM,xs[i]'oM,List.getElem?_eq_getElem oM,?_,fun m hm=>hz m ?_⟩
 ·rw[←h1];simp[List.getD,List.getElem?_eq_getElem (oM:i<cs.length)]
 ·subst YY;simp only[DataW.weights,hs];exact DataW.weights_mem_each (j:=i) (by rw[List.getElem?_map];simp[hi]) (by rw[List.getElem?_map,List.getElem?_eq_getElem oM];rfl) m hm
theorem qT{t e:TypeId}{k:Nat}(ht:Tryd.prog.underlying t=some (.slice e))(hb:Tryd.prog.bytesOf e=k)(hk:0<k){fuel:Nat}{v:Value}{x:DataW H×List MemPlace}(h:DataW.trod enc Tryd.prog w base spare held fuel t [v]=some x)(hz:ju t x.1):∃A len cap,v=vS A len cap∧jq len∧∀i,i<len→∃(ad:Addr) (cs:bp) (n:Nat) (y:DataW H×List MemPlace),A=some ad∧cs.length=Tryd.prog.cellsOf e∧(∀(j:Nat) (v:Value),cs[j]?=some v→w.cell? ((ad.add (i*Tryd.prog.cellsOf e)).add j)=some v)∧DataW.trod enc Tryd.prog w base spare held n e cs=some y∧ju e y.1:=by
 rcases DataW.trod_slice ht h with⟨zZ,_⟩|⟨a,len,cap,elems,rest,n,_,zZ,YY,_,_,_,hel,hx,_⟩
 ·simp at zZ;subst zZ;exact⟨none,0,0,rfl,by simp[jq],fun i hi=>absurd hi (Nat.not_lt_zero _)⟩
 ·simp at zZ;subst zZ;subst YY;have hw:∀m,m∈(elems.map (·.1)).length*0::DataW.weightsAll Tryd.prog e (elems.map (·.1))→m≤reachBytes:=by
   intro m hm;rcases List.mem_cons.1 hm with rfl|hm
   ·omega
   ·refine hz m ?_;simp only[DataW.weights,ht];exact List.mem_cons_of_mem _ (List.mem_append_left _ hm)
  refine⟨some a,len,cap,rfl,?_,fun i hi=> ?_⟩
  ·have h1:=hz (((elems.map (·.1)).length+(rest.map (·.1)).length)*Tryd.prog.bytesOf e) (by simp only[DataW.weights,ht];exact List.mem_cons_self);rw[hb,List.length_map,List.length_map,hel]at h1;exact Lk hk (Nat.le_trans (Nat.mul_le_mul_right k (Nat.le_add_right _ _)) h1)
  ·have h1:=hx i hi;rw[List.getElem?_eq_getElem (oM:i<elems.length)]at h1;cases hc:w.cells? base (a.add (i*Tryd.prog.cellsOf e)) (Tryd.prog.cellsOf e)with
   |none=>rw[hc]at h1;cases h1
   |some cs=>
    rw[hc]at h1;obtain⟨_,hlen,oX⟩:=World.cells?_some hc;refine⟨a,cs,n,elems[i]'oM,rfl,hlen,fun j v hj=> ?_,h1,fun m hm=>hw m (List.mem_cons_of_mem _ (CL (d:=(elems[i]'oM).1) ?_ m hm))⟩
    ·rw[oX j (by have:=(List.getElem?_eq_some_iff.1 hj).1;omega)];exact hj
    ·exact List.mem_map.2 ⟨elems[i]'oM,List.getElem_mem _,rfl⟩
theorem m4{t e:TypeId}{k:Nat}{fs:Array Field}(ht:Tryd.prog.underlying t=some (.slice e))(hs:Tryd.prog.underlying e=some (.struct fs))(Vw:oneCellFields Tryd.prog fs=true)(hC:Tryd.prog.cellsOf e=fs.size)(hb:Tryd.prog.bytesOf e=k)(hk:0<k){fuel:Nat}{v:Value}{x:DataW H×List MemPlace}(h:DataW.trod enc Tryd.prog w base spare held fuel t [v]=some x)(hz:ju t x.1):∃A len cap,v=vS A len cap∧jq len∧∀i,i<len→∃(ad:Addr) (cs:bp),A=some ad∧cs.length=fs.size∧(∀(j:Nat) (v:Value),cs[j]?=some v→w.cell? ((ad.add (i*fs.size)).add j)=some v)∧∃n:Nat,∀(j:Nat) (f:Field),fs[j]?=some f→∃(v:Value) (y:DataW H×List MemPlace),cs[j]?=some v∧DataW.trod enc Tryd.prog w base spare held n f.type [v]=some y∧ju f.type y.1:=by
 obtain⟨A,len,cap,rfl,hl,hx⟩:=qT ht hb hk h hz;refine⟨A,len,cap,rfl,hl,fun i hi=> ?_⟩;obtain⟨ad,cs,n,y,hA,hlen,hc,Lm,hy⟩:=hx i hi;rw[hC]at hlen hc;exact⟨ad,cs,hA,hlen,hc,(vZ hs Vw hC Lm hy).2⟩
theorem yS{fuel:Nat}{v:Value}{x:DataW H×List MemPlace}(h:DataW.trod enc Tryd.prog w base spare held fuel 25 [v]=some x)(hz:ju 25 x.1):∃A l c,v=vS A (List.length l) c∧jq l.length∧(∀x,x∈l→In64 x)∧(aL.rd A (ints l)).holds w:=by
 obtain⟨A,len,cap,rfl,hl,hx⟩:=qT (k:=8) Tryd.underlying25 kR oM h hz;have c3:Tryd.prog.cellsOf 3=1:=kR;have:∀i,i<len→∃k:Int,In64 k∧∃ad,A=some ad∧w.cell? (ad.add i)=some (vI k):=by
  intro i hi;obtain⟨ad,cs,n,y,hA,hlen,hc,Lm,_⟩:=hx i hi;rw[c3]at hlen hc;match cs,hlen with
  |[c0],_=>
   obtain⟨k,rfl,hk⟩:=lg Tryd.underlying3 Lm;refine⟨k,hk,ad,hA,?_⟩;have h0:=hc 0 _ rfl;rw[Nat.mul_one]at h0;simpa[Addr.add]using h0
 obtain⟨l,rfl,hp⟩:=rS this;refine⟨A,l,cap,rfl,hl,fun k hk=> ?_,fun i v hi=> ?_⟩
 ·obtain⟨i,hi⟩:=List.mem_iff_getElem?.1 hk;exact(hp i k hi).1
 ·simp only[ints,List.getElem?_map,Option.map_eq_some_iff]at hi;obtain⟨k,hk,rfl⟩:=hi;exact(hp i k hk).2
theorem Ig{fuel:Nat}{v:Value}{x:DataW H×List MemPlace}(h:DataW.trod enc Tryd.prog w base spare held fuel 50 [v]=some x)(hz:ju 50 x.1):∃A l c,v=vS A (List.length l) c∧jq l.length∧(∀p:fI,p∈l→p.Ok∧(aL.rd p.A (ints p.args)).holds w)∧(aL.GM A 2 (l.map fI.cells)).holds w:=by
 obtain⟨A,len,cap,rfl,hl,hx⟩:=m4 (k:=32) Tryd.underlying50 Tryd.underlying86 kR kR kR oM h hz;have:∀i,i<len→∃b:fI,(b.Ok∧(aL.rd b.A (ints b.args)).holds w)∧∃ad:Addr,A=some ad∧∀(j:Nat) (v:Value),b.cells[j]?=some v→w.cell? ((ad.add (i*2)).add j)=some v:=by intro i hi;obtain⟨ad,cs,hA,yT,hc,n,hf⟩:=hx i hi;obtain⟨c0,c1,rfl⟩:=Z4 yT;obtain⟨_,_,e,g0,Z8⟩:=hf 0 _ rfl;cases e;obtain⟨d,rfl,hd⟩:=lg Tryd.underlying3 g0;obtain⟨_,_,e,g1,Z9⟩:=hf 1 _ rfl;cases e;obtain⟨Aa,gs,ca,rfl,h1,h2,h3⟩:=yS g1 Z9;exact⟨⟨d,Aa,ca,gs⟩,⟨⟨hd,h1,h2⟩,h3⟩,ad,hA,hc⟩
 obtain⟨l,rfl,hp⟩:=rS this;refine⟨A,l,cap,rfl,hl,fun p mC=> ?_,fun i cs hi=> ?_⟩
 ·obtain⟨i,hi⟩:=List.mem_iff_getElem?.1 mC;exact(hp i p hi).1
 ·rw[List.getElem?_map]at hi;obtain⟨b,hb,rfl⟩:=Option.map_eq_some_iff.1 hi;exact(hp i b hb).2
end
end Go.Proofs.YthgbejihcchcnaaDoor
namespace Go.Mor
open Go.RowKit
theorem td(zs:bp)(n:Nat)(hz:0<zs.length):(madeCells zs.toArray (n*zs.length)).toList=(List.replicate n zs).flatten:=by
 have hlen:((List.replicate n zs).flatten).length=n*zs.length:=sI;apply List.ext_getElem?;intro j;by_cases hj:j<n*zs.length
 ·have h1:j % zs.length<zs.length:=Nat.mod_lt _ hz;have e1:(madeCells zs.toArray (n*zs.length)).toList[j]?=some zs[j % zs.length]:=by simp[madeCells,hj,h1]
  rw[e1];clear e1;have h2:j / zs.length<n:=Nat.div_lt_of_lt_mul (by rwa [Nat.mul_comm]at hj);have key:∀n q,q<n→∀r (hr:r<zs.length),((List.replicate n zs).flatten)[q*zs.length+r]?=some zs[r]:=by
   intro n;induction n with
   |zero=>intro q hq;omega
   |succ n ih=>
    intro q hq r hr;rw[List.replicate_succ,List.flatten_cons];cases q with
    |zero=>
     rw[Nat.zero_mul,Nat.zero_add,List.getElem?_append_left hr];simp[hr]
    |succ q=>
     rw[List.getElem?_append_right (by rw[Nat.succ_mul];omega),show(q+1)*zs.length+r-zs.length=q*zs.length+r by rw[Nat.succ_mul];omega];exact ih q oM r hr
  have:=key n (j / zs.length) h2 (j % zs.length) h1;rw[Nat.div_add_mod' j zs.length]at this;exact this.symm
 ·have e1:((List.replicate n zs).flatten)[j]?=none:=List.getElem?_eq_none (by rw[hlen];omega);rw[e1];apply List.getElem?_eq_none;simp[madeCells];omega
section
variable {P : Program} {c : Code} {K : Act → World → Prop} {Q : Exit → Act → World → Prop} {a : Act} {w w0 : World} {S : Nat → Prop} {L : List aL} {k k' : Nat} {N : FN} {env : Env}
variable {d : Option Nat} {ty : Nat} {g : Option (Nat × Bool)}
theorem v3{t:TypeId}{x y:Operand}(hk:ao c k=some (d,.makeSlice t x y,ty,g))(hF:Fr a N env)(hg:bu c g env=some true)(hd:gL d N=true)(im:k+1=k'){e bytes size:Nat}{zs:bp}{n:Nat}{i:Int}(hx:ev env x=some (vI i))(hy:ev env y=some (vI i))(hn:i=(n:Int))(ht:P.underlying t=some (.slice e))(hi:(P.info? e).map (fun i=>(i.size,i.bytes,i.zero))=some (size,bytes,some (.agg zs.toArray)))(hs:size=zs.length)(hz:0<zs.length)(hb:bytes*n≤140737488355328)(hl:n≤maxLen)(hM:Mem S w0 w L)(h:∀b w',w0.heap.size≤b→w.heap.size≤b→Mem S w0 w' (L++[.row e size (some (aZ b)) n n (List.replicate n zs).flatten])→Mem aR w w' [.row e size (some (aZ b)) n n (List.replicate n zs).flatten]→∀a',a'=a.put d (vS (some (aZ b)) n n)→Fr a' N (dN env d (vS (some (aZ b)) n n))→bw P c K Q k' a' w'):bw P c K Q k a w:=by
 subst im;subst hn;cases qM:P.info? e with
 |none=>simp[qM]at hi
 |some inf=>
  simp only[qM,Option.map_some,Option.some.injEq,Prod.mk.injEq]at hi;obtain⟨YU,ZX,Ex⟩:=hi;subst ZX;obtain⟨w',hr,xY,H9⟩:=run_make_full (P:=P) w 0 t e inf (.agg zs.toArray) size ht qM Ex YU .i64 .i64 n oM hl (Nat.zero_le _);have hc:(madeCells (Value.agg zs.toArray).cells (n*size)).toList=(List.replicate n zs).flatten:=by rw[hs];exact td zs n hz
  rw[hc]at xY;have hm:Mem aR w w' [.row e size (some (aZ w.heap.size)) n n (List.replicate n zs).flatten]:=by refine⟨H9.os,H9.tape,H9.output,H9.size,fun k hk _=>H9.block k hk sI,?_,List.pairwise_singleton _ _⟩;simp only[List.mem_singleton];rintro _ rfl;refine⟨xY,?_⟩;rintro g' ⟨a',mT,rfl⟩;injection mT with mT;subst mT;exact .inr (Nat.le_refl _)
  refine gF hk hF hg (v:=vS (some (aZ w.heap.size)) n n) (w':=w') (fun o ho _=> ?_) (h w.heap.size w' hM.size (Nat.le_refl _) (hM.call hm) hm _ rfl (hF.put hd _));unfold execOp;rw[ho];simp only[hF.ev hx,hF.ev hy,Sem.run_bind,hr,Result.andThen_ok];rfl
theorem pe(a:Addr)(i j:Nat):(a.add i).add j=a.add (i+j):=by
 unfold Addr.add;by_cases hi:i=0<;>by_cases hj:j=0<;>simp[hi,hj,Nat.add_assoc]
def setAt:bp→Nat→bp→bp
 |xs,_,[]=>xs
 |xs,j,v::vs=>setAt (xs.set j v) (j+1) vs
theorem oB{e size n cap:Nat}{ad ad':Addr}:∀(vs:bp) (i j:Nat) {xs:bp} {w:World},(∀v∈vs,v.oneCell'=true)→(aL.row e size (some ad) n cap xs).holds w→ad'.add i=ad.add j→ad'.add 0=ad'→(∀q,ad'.add (i+q)=ad.add (j+q))→j+vs.length≤n*size→∃w',(storeCells ad' vs i).run P w= .ok () w'∧Mem (aL.row e size (some ad) n cap xs).fp w w' [.row e size (some ad) n cap (setAt xs j vs)]
 |[],i,j,xs,w,_,hb,_,_,_,_=>⟨w,by simp[storeCells],by simpa[setAt]using Mem.kr hb⟩
 |v::vs,i,j,xs,w,h1,hb,he,h0,hq,hl=>by
  simp only[bk]at hl;have hm:=Mem.zY (j:=j) hb v;have GI:=hm.get 0 rfl;obtain⟨w',hr,H7⟩:=oB vs (i+1) (j+1) (fun u hu=>h1 u (List.mem_cons_of_mem _ hu)) GI (hq 1) h0 (fun q=>by have:=hq (1+q);rwa [←Nat.add_assoc,←Nat.add_assoc]at this) oM;refine⟨w',?_,?_⟩
  ·have Vx:xs.length=n*size:=hb.1;obtain⟨u,hu⟩:∃u,xs[j]?=some u:=⟨_,List.getElem?_eq_getElem oM⟩;obtain⟨a0,uz,oX⟩:=az hb j u hu;injection uz with uz;subst uz;have pQ:(store (ad.add j) v).run P w= .ok () (w.setCell (ad.add j) v):=by rw[run_store P w _ v .plain (h1 v (List.mem_cons_self ..)),oX];simp[qJ hb]
   simp only[storeCells,Sem.run_bind,he,pQ,Result.andThen_ok,hr]
  ·have:=hm.mod 0 rfl H7;simpa[setAt]using this
theorem lh{t:TypeId}{x y:Operand}(hk:ao c k=some (d,.store t x y,ty,g))(hF:Fr a N env)(hg:bu c g env=some true)(hd:gL d N=true)(im:k+1=k'){ad ad':Addr}{j e size n cap:Nat}{vs xs:bp}(hx:ev env x=some (vP ad'))(Qy:ad'=ad.add j)(hy:ev env y=some (.agg vs.toArray))(ht:vy P t=some vs.length)(hv:∀v∈vs,v.oneCell'=true)(hM:Mem S w0 w L)(i:Nat)(hi:L[i]?=some (.row e size (some ad) n cap xs))(hj:j+vs.length≤n*size)(h:∀w',Mem S w0 w' (L.set i (.row e size (some ad) n cap (setAt xs j vs)))→Mem (aL.row e size (some ad) n cap xs).fp w w' [.row e size (some ad) n cap (setAt xs j vs)]→∀a',a'=a.put d undef→Fr a' N (dN env d undef)→bw P c K Q k' a' w'):bw P c K Q k a w:=by
 subst im;subst Qy;have hb:=hM.get i hi;obtain⟨w',hr,hm⟩:=oB (P:=P) (ad':=ad.add j) vs 0 j hv hb (by rw[pe];rfl) (by rw[pe];rfl) (fun q=>by rw[pe,Nat.zero_add]) hj;refine lL hk hF hg (w':=w') (fun o Vg=> ?_) (h _ (by simpa using hM.mod i hi hm) hm _ rfl (hF.put hd _));unfold execOp;rw[Vg];simp[Instr.storeAt,Instr.sureAddr,hF.ev hx,hF.ev hy,storeVar,(pO ht w).2,Value.cells,hr]
end
end Go.Mor
namespace Go.Mor
open Go.RowKit
theorem cg{P:Program}{c:Code}{K:Act→World→Prop}{Q:Exit→Act→World→Prop}{a:Act}{w:World}{k:Nat}{N:FN}{env:Env}(d:Option Nat)(A:aA)(ad:Addr)(n size:Nat)(i:Int)(hF:Fr a N env)(hk:QR P c N env k=some (d,A,n,size,i))(hA:A=some ad)(h0:0≤i)(h1:i<n)(h:∀a',Fr a' N (dN env d (vP (ad.add (i.toNat*size))))→bw P c K Q (k+1) a' w):bw P c K Q k a w:=iY d ad n size i hF (by rw[hk,hA]) h0 h1 h
end Go.Mor
namespace Go.Mor
open Go.RowKit
def ij:List (Bool×aL)→List aL
 |[]=>[]
 |(b,r)::l=>cond b [r] []++ij l
theorem v5:∀(l:List (Bool×aL)) (i:Nat) {r r':aL},l[i]?=some (false,r')→(ij l++[r]).Perm (ij (l.set i (true,r)))
 |[],i,r,r',h=>by simp at h
 |(b,q)::l,0,r,r',h=>by simp at h;obtain⟨rfl,rfl⟩:=h;show((cond false [q] []++ij l)++[r]).Perm (cond true [r] []++ij l);simp only[cond_false,mA,cond_true];exact List.perm_append_comm
 |(b,q)::l,i+1,r,r',h=>by have:=v5 l i (r:=r) (r':=r') (by simpa using h);show((cond b [q] []++ij l)++[r]).Perm (cond b [q] []++ij (l.set i (true,r)));rw[List.append_assoc];exact this.append_left _
theorem Mem.group{S:Nat→Prop}{w0 w:World}{L:List aL}{l:List (Bool×aL)}{r r':aL}(h:Mem S w0 w ((L++ij l)++[r]))(i:Nat)(hi:l[i]?=some (false,r')):Mem S w0 w (L++ij (l.set i (true,r))):=by
 refine h.perm ?_;rw[List.append_assoc];exact(v5 l i hi).append_left _
end Go.Mor
namespace Go.Mor
open Go.RowKit
section
variable {P : Program} {c : Code} {K : Act → World → Prop} {Q : Exit → Act → World → Prop} {a : Act} {w w0 : World} {S : Nat → Prop} {L : List aL} {k k' : Nat} {N : FN} {env : Env}
variable {d : Option Nat} {ty : Nat} {g : Option (Nat × Bool)}
theorem kQ{t:TypeId}(hk:ao c k=some (d,.buildSlice t 0 #[],ty,g))(hF:Fr a N env)(hg:bu c g env=some true)(hd:gL d N=true)(im:k+1=k'){e size:Nat}(ht:P.underlying t=some (.slice e))(hi:(P.info? e).map (fun i=>i.size)=some size)(hM:Mem S w0 w L)(h:∀b w',w0.heap.size≤b→w.heap.size≤b→Mem S w0 w' (L++[.row e size (some (aZ b)) 0 0 []])→Mem aR w w' [.row e size (some (aZ b)) 0 0 []]→∀a',a'=a.put d (vS (some (aZ b)) 0 0)→Fr a' N (dN env d (vS (some (aZ b)) 0 0))→bw P c K Q k' a' w'):bw P c K Q k a w:=by
 subst im;have kj:(aL.row e size (some (aZ w.heap.size)) 0 0 []).holds (w.alloc (.cells #[] e)):=by have:=World.ownsRow_lit (base:=0) (e:=e) (size:=size) w #[] 0 (Nat.zero_le _) (by simp only[maxLen];omega) sI;show World.ownsRow _ _ _ _ _ _ _;simpa using this
 have hm:Mem aR w (w.alloc (.cells #[] e)) [.row e size (some (aZ w.heap.size)) 0 0 []]:=by refine(Mem.alloc w e []).say 0 rfl (fun _=>kj) ?_;rintro g' ⟨a',mT,rfl⟩;injection mT with mT;subst mT;rfl
 refine gF hk hF hg (v:=vS (some (aZ w.heap.size)) 0 0) (w':=w.alloc (.cells #[] e)) (fun o ho _=> ?_) (h w.heap.size (w.alloc (.cells #[] e)) hM.size (Nat.le_refl _) (hM.call hm) hm _ rfl (hF.put hd _));unfold execOp;rw[ho];cases qM:P.info? e with
 |none=>simp[qM]at hi
 |some inf=>
  have Vi:(sizeOf e).run P w= .ok inf.size w:=by simp[sizeOf,typeInfo,qM]
  simp only[List.map_toArray,List.map_nil,Instr.buildSlice,Sem.run_bind,run_underlying ht,Vi,Result.andThen_ok,Nat.zero_mul,Nat.reducePow,gt_iff_lt,Nat.not_lt_zero,if_false,if_true,Sem.run_pure,show Array.range 0=#[]from rfl,Array.toList_empty,Instr.fill,newRow,run_newObj];rfl
end
end Go.Mor
namespace Go.Mor
open Go.RowKit
def QU(P:Program)(c:Code)(N:FN)(n k:Nat)(env:Env):Env:=match eM P c N n k env with
 |some e=>e
 |none=>[]
def bj{α:Type}:Option α→Bool
 |some _=>true
 |none=>false
def Ts:Env→List Nat
 |[]=>[]
 |(k,_)::r=>k::Ts r
def yU(c:Code)(env:Env):Option Value:=match kind c with
 | .cond (.tmp t)=>look env t
 |_=>none
def YZ(c:Code):Nat:=(opsOf c).size
def srE(c:Code):Bool:=match kind c,kind (Code.l c)with| .seq,.region false=>true|_,_=>false
def cmE(c:Code)(N:FN)(env:Env)(k:Nat):Option Bool:=match ao c k with
 |some (d,.binOp op _ x y _,_,g)=>match bu c g env,gL d N,ev env x,ev env y with
  |some true,true,some (.int kd i),some (.int kd' j)=>match decide (kd=kd')with
   |true=>KR op i j
   |false=>none
  |_,_,_,_=>none
 |_=>none
def stE(P:Program)(c:Code)(N:FN)(env:Env)(k:Nat):Option (Option Nat×Addr×Value):=match ao c k with
 |some (d,.store t x y,_,g)=>match bu c g env,gL d N,uw P t,ev env x,ev env y with
  |some true,true,true,some (.pointer (some ad)),some v=>match v.oneCell' with
   |true=>some (d,ad,v)
   |false=>none
  |_,_,_,_,_=>none
 |_=>none
def rsE(fn:Func)(env:Env):Option Value:=match fn.results.toList with
 |[.tmp t]=>look env t
 |_=>none
def Qaa(fn:Func)(env:Env):Option (Value×Value):=match fn.results.toList with
 |[.tmp t,.tmp u]=>match look env t,look env u with
  |some v,some v'=>some (v,v')
  |_,_=>none
 |_=>none
section
variable {P : Program} {c : Code} {K : Act → World → Prop} {Q : Exit → Act → World → Prop} {w w0 : World} {S : Nat → Prop} {L : List aL} {k : Nat} {N : FN} {env : Env}
theorem ah(n:Nat)(h:∀a,Fr a N (QU P c N n k env)→bw P c K Q (k+n) a w)(hp:bj (eM P c N n k env)=true:=by kernel_rfl):∀a,Fr a N env→bw P c K Q k a w:=by
 intro a hF;unfold QU at h;cases hr:eM P c N n k env with
 |none=>rw[hr]at hp;cases hp
 |some e=>
  rw[hr]at h;exact rF n k hF hr h
theorem cT(zU:Env){G:Act→Prop}(h:∀a,Fr a N zU→G a)(hk:mz (Ts zU) env=zU:=by kernel_rfl):∀a,Fr a N env→G a:=fun a hF=>h a (hF.keep hk)
theorem ax(h:∀a,Fr a N env→K a w)(hk:ao c k=none:=by kernel_rfl):∀a,Fr a N env→bw P c K Q k a w:=fun a hF=>aF hk (h a hF)
theorem bb(h:∀a,Fr a N env→W P (Code.l c) (fun a w=>W P (Code.r c) K Q a w) Q a w)(hk:kind c= .seq:=by kernel_rfl):∀a,Fr a N env→W P c K Q a w:=fun a hF=>Tl hk (h a hF)
theorem cN(h:∀a,Fr a N env→bw P c K Q 0 a w)(hk:kind c= .region false:=by kernel_rfl):∀a,Fr a N env→W P c K Q a w:=fun a hF=>Cx hk (h a hF)
theorem aK(h:∀a,Fr a N env→bw P (Code.l c) (fun a w=>W P (Code.r c) K Q a w) Q 0 a w)(hk:srE c=true:=by kernel_rfl):∀a,Fr a N env→W P c K Q a w:=fun a hF=>Qdd hk (h a hF)
theorem bz(h:∀a,Fr a N (QU P (Code.l c) N (YZ (Code.l c)) 0 env)→W P (Code.r c) K Q a w)(hk:srE c=true:=by kernel_rfl)(hp:bj (eM P (Code.l c) N (YZ (Code.l c)) 0 env)=true:=by kernel_rfl):∀a,Fr a N env→W P c K Q a w:=by
 refine aK (ah _ (fun a hF=>aF ?_ (h a hF)) hp) hk;simp[ao,YZ]
theorem Ci(h:∀a,Fr a N (QU P c N (YZ c) 0 env)→K a w)(hk:kind c= .region false:=by kernel_rfl)(hp:bj (eM P c N (YZ c) 0 env)=true:=by kernel_rfl):∀a,Fr a N env→W P c K Q a w:=by
 refine cN (ah _ (fun a hF=>aF ?_ (h a hF)) hp) hk;simp[ao,YZ]
theorem bZ(h:∀a,Fr a N env→K a w)(hk:kind c= .skip:=by kernel_rfl):∀a,Fr a N env→W P c K Q a w:=fun a hF=>Vc hk (h a hF)
theorem cU(h:∀a,Fr a N env→Q .ret a w)(hk:kind c= .ret:=by kernel_rfl):∀a,Fr a N env→W P c K Q a w:=fun a hF=>ZS hk (h a hF)
theorem eX(id:Nat)(h:∀a,Fr a N env→Q (.exit id) a w)(hk:kind c= .exit id:=by kernel_rfl):∀a,Fr a N env→W P c K Q a w:=fun a hF=>Vd hk (h a hF)
theorem cp(id:Nat)(h:∀a,Fr a N env→W P (Code.l c) K (PQ id K Q) a w)(hk:kind c= .block id:=by kernel_rfl):∀a,Fr a N env→W P c K Q a w:=fun a hF=>Qw hk (h a hF)
theorem eN{id:Nat}(h:∀a,Fr a N env→Q .ret a w):∀a,Fr a N env→PQ id K Q .ret a w:=h
theorem eY{id zV:Nat}(h:∀a,Fr a N env→K a w)(e:Nat.beq zV id=true:=by rfl):∀a,Fr a N env→PQ id K Q (.exit zV) a w:=fun a hF=>Qz e (h a hF)
theorem zbm{id zV:Nat}(h:∀a,Fr a N env→Q (.exit zV) a w)(e:Nat.beq zV id=false:=by rfl):∀a,Fr a N env→PQ id K Q (.exit zV) a w:=fun a hF=>KX e (h a hF)
theorem te{v:Value}(h:yU c env=some v):∃t,kind c= .cond (.tmp t)∧look env t=some v:=by
 unfold yU at h;split at h
 ·rename_i t ht;exact⟨t,ht,h⟩
 ·cases h
theorem gO(h:∀a,Fr a N env→W P (Code.l c) K Q a w)(hk:yU c env=some (vB true):=by kernel_rfl):∀a,Fr a N env→W P c K Q a w:=fun a hF=>by
 obtain⟨t,h1,h2⟩:=te hk;exact Eu h1 hF h2 (fun _=>h a hF) (fun h=>Bool.noConfusion h)
theorem il(h:∀a,Fr a N env→W P (Code.r c) K Q a w)(hk:yU c env=some (vB false):=by kernel_rfl):∀a,Fr a N env→W P c K Q a w:=fun a hF=>by
 obtain⟨t,h1,h2⟩:=te hk;exact Eu h1 hF h2 (fun h=>Bool.noConfusion h) (fun _=>h a hF)
theorem fa(e:Bool)(R:Prop)(i:e=true↔R)(ht:R→∀a,Fr a N env→W P (Code.l c) K Q a w)(hf:¬R→∀a,Fr a N env→W P (Code.r c) K Q a w)(hk:yU c env=some (vB e):=by kernel_rfl):∀a,Fr a N env→W P c K Q a w:=fun a hF=>by
 obtain⟨t,h1,h2⟩:=te hk;exact QT h1 hF h2 i (fun r=>ht r a hF) (fun r=>hf r a hF)
theorem fJ(R:Prop)[Decidable R](ht:R→∀a,Fr a N env→W P (Code.l c) K Q a w)(hf:¬R→∀a,Fr a N env→W P (Code.r c) K Q a w)(hk:yU c env=some (vB (decide R)):=by kernel_rfl):∀a,Fr a N env→W P c K Q a w:=fa (decide R) R decide_eq_true_iff ht hf hk
theorem bl(ad:Addr)(v:Value)(hc:w.cell? ad=some v)(h:∀a,Fr a N (dN env (bg c k) v)→bw P c K Q (k+1) a w)(hk:QQ P c N env k=some (bg c k,ad):=by kernel_rfl):∀a,Fr a N env→bw P c K Q k a w:=fun _ hF=>aV _ ad hF hk v hc h
theorem iI(ad:Addr)(vs:bp)(hc:∀j v,vs[j]?=some v→w.cell? (ad.add j)=some v)(h:∀a,Fr a N (dN env (bg c k) (.agg vs.toArray))→bw P c K Q (k+1) a w)(hk:YV P c N env k=some (bg c k,ad,some vs.length):=by kernel_rfl):∀a,Fr a N env→bw P c K Q k a w:=fun _ hF=>QS _ ad vs hF hk hc h
theorem ek(ad:Addr)(n size:Nat)(i:Int)(h:∀a,Fr a N (dN env (bg c k) (vP (ad.add (i.toNat*size))))→bw P c K Q (k+1) a w)(h0:0≤i:=by omega)(h1:i<n:=by omega)(hk:QR P c N env k=some (bg c k,some ad,n,size,i):=by kernel_rfl):∀a,Fr a N env→bw P c K Q k a w:=fun _ hF=>iY _ ad n size i hF hk h0 h1 h
theorem dB(z:Int)(h:∀a,Fr a N (dN env (bg c k) (vI z))→bw P c K Q (k+1) a w)(h1: -9223372036854775808≤z:=by omega)(h2:z≤9223372036854775807:=by omega)(hk:YW c N env k=some (bg c k,z):=by kernel_rfl):∀a,Fr a N env→bw P c K Q k a w:=fun _ hF=>mB _ z hF hk rfl h1 h2 h
theorem GP{b:Bool}(h:cmE c N env k=some b):∃d op t x y t' ty g kd i j,ao c k=some (d,.binOp op t x y t',ty,g)∧bu c g env=some true∧gL d N=true∧ev env x=some (.int kd i)∧ev env y=some (.int kd j)∧KR op i j=some b:=by
 unfold cmE at h;split at h
 ·rename_i h0;split at h
  ·rename_i h1 h2 h3 h4;split at h
   ·rename_i h5;have:=of_decide_eq_true h5;subst this;exact⟨_,_,_,_,_,_,_,_,_,_,_,h0,h1,h2,h3,h4,h⟩
   ·cases h
  ·cases h
 ·cases h
theorem jV(b:Bool)(h:∀B,B=b→∀a,Fr a N (dN env (bg c k) (vB B))→bw P c K Q (k+1) a w)(hk:cmE c N env k=some b:=by kernel_rfl):∀a,Fr a N env→bw P c K Q k a w:=fun a hF=>by
 obtain⟨d,op,t,x,y,t',ty,g,kd,i,j,h0,h1,h2,h3,h4,h5⟩:=GP hk;have hd:bg c k=d:=by unfold ao at h0;unfold bg;cases ho:(opsOf c)[k]?<;>rw[ho]at h0<;>simp at h0⊢;exact h0.1
 rw[hd]at h;exact Cz h0 hF h1 h2 rfl h3 h4 h5 (fun B hB a' _=>h B hB a')
theorem dZ{f:FuncId}{vs:Array Value}{Φ:Value→World→Prop}(hc:Calls P f vs w (eU Φ))(h:∀v w',Φ v w'→∀a,Fr a N (dN env (bg c k) v)→bw P c K Q (k+1) a w')(hk:YX P c N env k=some (bg c k,f,vs):=by kernel_rfl):∀a,Fr a N env→bw P c K Q k a w:=fun _ hF=>oa _ f vs.toList hF hk hc h
theorem GQ{d:Option Nat}{ad:Addr}{v:Value}(h:stE P c N env k=some (d,ad,v)):∃t x y ty g,ao c k=some (d,.store t x y,ty,g)∧bu c g env=some true∧gL d N=true∧uw P t=true∧ev env x=some (vP ad)∧ev env y=some v∧v.oneCell'=true:=by
 unfold stE at h;split at h
 ·rename_i h0;split at h
  ·rename_i h1 h2 h3 h4 h5;split at h
   ·rename_i h6;simp only[Option.some.injEq,Prod.mk.injEq]at h;obtain⟨rfl,rfl,rfl⟩:=h;exact⟨_,_,_,_,_,h0,h1,h2,h3,h4,h5,h6⟩
   ·cases h
  ·cases h
 ·cases h
theorem AD(hM:Mem S w0 w L)(i:Nat)(off:Nat)(v:Value){b t0:Nat}{cs:bp}(hi:L[i]?=some (.ak b t0 cs))(h:∀w',Mem S w0 w' (L.set i (.ak b t0 (cs.set off v)))→∀a,Fr a N (dN env (bg c k) undef)→bw P c K Q (k+1) a w')(ho:off<cs.length:=by decide)(hk:stE P c N env k=some (bg c k,(aq b off),v):=by kernel_rfl):∀a,Fr a N env→bw P c K Q k a w:=fun a hF=>by
 obtain⟨t,x,y,ty,g,h0,h1,h2,h3,h4,h5,h6⟩:=GQ hk;exact oW h0 hF h1 h2 rfl h4 h5 h3 h6 hM i hi ho (fun w' xM _ a' _=>h w' xM a')
theorem sR(hM:Mem S w0 w L)(i:Nat)(ad':Addr)(j:Nat)(v:Value){e size n cap:Nat}{ad:Addr}{xs:bp}(hi:L[i]?=some (.row e size (some ad) n cap xs))(Qy:ad'=ad.add j)(hj:j<n*size)(h:∀w',Mem S w0 w' (L.set i (.row e size (some ad) n cap (xs.set j v)))→∀a,Fr a N (dN env (bg c k) undef)→bw P c K Q (k+1) a w')(hk:stE P c N env k=some (bg c k,ad',v):=by kernel_rfl):∀a,Fr a N env→bw P c K Q k a w:=fun a hF=>by
 obtain⟨t,x,y,ty,g,h0,h1,h2,h3,h4,h5,h6⟩:=GQ hk;exact cD h0 hF h1 h2 rfl h4 Qy h5 h3 h6 hM i hi hj (fun w' xM _ a' _=>h w' xM a')
end
section
variable {P : Program} {w : World} {N : FN} {env : Env} {fn : Func} {Φ : Value → World → Prop}
theorem dv(v:Value)(h:Φ v w)(hk:rsE fn env=some v:=by kernel_rfl)(hD:N.D=[]:=by rfl):∀a,Fr a N env→bodyPost P fn (eU Φ) .ret a w:=fun a hF=>by
 unfold rsE at hk;split at hk
 ·rename_i t ht;exact Qc9 hF (by apply Array.ext';simpa using ht) hk ⟨v,rfl,h⟩ hD
 ·cases hk
theorem rq(v v':Value)(h:Φ (.tuple #[v,v']) w)(hk:Qaa fn env=some (v,v'):=by kernel_rfl)(hD:N.D=[]:=by rfl):∀a,Fr a N env→bodyPost P fn (eU Φ) .ret a w:=fun a hF=>by
 unfold Qaa at hk;split at hk
 ·rename_i t u ht;split at hk
  ·rename_i h1 h2;simp only[Option.some.injEq,Prod.mk.injEq]at hk;obtain⟨rfl,rfl⟩:=hk;exact Qda hF (by apply Array.ext';simpa using ht) h1 h2 ⟨_,rfl,h⟩ hD
  ·cases hk
 ·cases hk
theorem tf(h:Φ (.tuple #[]) w)(hk:fn.results=#[]:=by rfl)(hD:N.D=[]:=by rfl):∀a,Fr a N env→bodyPost P fn (eU Φ) .normal a w:=fun _ hF=>Qdb hF hk ⟨_,rfl,h⟩ hD
theorem fK{f:FuncId}(N:FN)(vs:bp)(hf:P.funcs[f]?=some fn)(h:∀a,Fr a N (Ia 0 vs)→W P (z4 fn) (bodyPost P fn (eU Φ) .normal) (bodyPost P fn (eU Φ)) a w)(hb:fn.body.isSome=true:=by kernel_rfl)(hn:Nat.beq fn.ntmps N.n=true:=by kernel_rfl)(hl:Nat.ble vs.length N.n=true:=by kernel_rfl)(hD:N.D=[]:=by rfl):Calls P f vs.toArray w (eU Φ):=enter hf hb hn hl h hD
end
def Y0:Spec→Option Value
 | .aQ u=>some u
 |_=>none
def p1E(P:Program)(c:Code)(N:FN)(i:Nat)(env:Env):Option Value:=match ao c i with
 |some (d,op,_,g)=>match bu c g env,gL d N with
  |some true,true=>oV P env op
  |_,_=>none
 |none=>none
def kB(c:Code)(i:Nat)(env:Env):Option Bool:=match ao c i with
 |some (_,_,_,g)=>bu c g env
 |none=>none
theorem AE{c:Code}{i:Nat}{env:Env}{b:Bool}(h:kB c i env=some b):∀g,(ao c i).map (·.2.2.2)=some g→bu c g env=some b:=by
 intro g hg;unfold kB at h;split at h
 ·rename_i h0;rw[h0]at hg;simp only[Option.map_some,Option.some.injEq]at hg;subst hg;exact h
 ·cases h
theorem qz{E F:Env}{t:Nat}{v:Value}(h:look E t=some v):look (E++F) t=some v:=by
 induction E with
 |nil=>cases h
 |cons x r ih=>
  obtain⟨k,u⟩:=x;simp only[gX,look]at h⊢;cases hq:Nat.beq k t with
  |true=>rw[hq]at h;exact h
  |false=>rw[hq]at h;exact ih h
section
variable {P : Program} {c : Code} {Q : Exit → Act → World → Prop} {N : FN} {i : Nat} {env0 : Env} {wr : World} {sp : Nat → Spec}
theorem Fr.left{a:Act}{E F:Env}(h:Fr a N (E++F)):Fr a N E:=⟨h.defers,h.size,fun t v hv=>h.slot t v (qz hv)⟩
theorem qU{g:Option (Nat×Bool)}{E F:Env}{b:Bool}(h:bu c g E=some b):bu c g (E++F)=some b:=by
 unfold bu at h⊢;cases g with
 |none=>exact h
 |some p=>
  obtain⟨j,want⟩:=p;simp only at h⊢;cases hd:((opsOf c)[j]?).bind (·.dst)with
  |none=>rw[hd]at h;cases h
  |some d=>
   rw[hd]at h;simp only at h⊢;cases hl:look E d with
   |none=>rw[hl]at h;cases h
   |some v=>
    rw[hl]at h;rw[qz hl];exact h
theorem nt(hg:∀vs,kB c i (bR c i sp vs env0)=some true)(h:∀(w:World) (vs:Nat→Value),Kp wr w→(∀j,j∈dj c i→(sp j).ok (vs j) w)→∀a,Fr a N (bR c i sp vs env0)→bw P (one c i) (fun a' w'=>∃v,a'=a.put (bg c i) v∧Kp w w'∧(sp i).ok v w') Q 0 a w):jt P c Q N env0 wr sp i:=by
 intro a w vs rest hK hp hF;exact⟨true,fun g lM=>qU (AE (hg vs) g lM),fun _=>h w vs hK hp a hF.left,fun h=>Bool.noConfusion h⟩
theorem EO{o:Option Nat×Op×Nat×Option (Nat×Bool)}(h:ao c i=some o):ao (one c i) 0=some (o.1,o.2.1,o.2.2.1,none)∧bg c i=o.1:=by
 unfold ao at h;cases ho:(opsOf c)[i]? with
 |none=>rw[ho]at h;cases h
 |some q=>
  rw[ho]at h;simp only[Option.map_some,Option.some.injEq]at h;subst h;constructor
  ·unfold ao;rw[rN ho];rfl
  ·simp[bg,ho]
theorem GR{k:Nat}{o:Option Nat×Op×Nat×Option (Nat×Bool)}(h:ao c i=some o):ao (one c i) (k+1)=none:=by
 unfold ao at h⊢;cases ho:(opsOf c)[i]? with
 |none=>rw[ho]at h;cases h
 |some q=>
  rw[rN ho];simp
theorem dP(h:∀vs,p1E P c N i (bR c i sp vs env0)=Y0 (sp i):=by intro _;kernel_rfl)(h2:bj (Y0 (sp i))=true:=by kernel_rfl):jt P c Q N env0 wr sp i:=by
 have key:∀vs,∃d op ty g v,ao c i=some (d,op,ty,g)∧bu c g (bR c i sp vs env0)=some true∧gL d N=true∧oV P (bR c i sp vs env0) op=some v∧sp i= .aQ v:=by
  intro vs;have h3:=h vs;cases hs:sp i with
  |any Φ hh=>rw[hs]at h2;cases h2
  |aQ u=>
   rw[hs]at h3;unfold p1E Y0 at h3;simp only at h3;split at h3
   ·rename_i h4;split at h3
    ·rename_i h5 h6;exact⟨_,_,_,_,u,h4,h5,h6,h3,rfl⟩
    ·cases h3
   ·cases h3
 refine nt (fun vs=> ?_) (fun w vs hK hp a hF=> ?_)
 ·obtain⟨d,op,ty,g,v,h1,h2,_⟩:=key vs;unfold kB;rw[h1];exact h2
 ·obtain⟨d,op,ty,g,v,h1,h2,h3,h4,h5⟩:=key vs;obtain⟨e1,e2⟩:=EO h1;refine fz e1 hF rfl h3 rfl h4 (fun a' ea _=>aF (GR h1) ⟨v,?_,Kp.refl w,?_⟩)
  ·rw[e2];exact ea
  ·rw[h5];rfl
theorem GS{k:Nat}{c:Code}{env:Env}{d:Option Nat}{ad:Addr}(hk:QQ P c N env k=some (d,ad)):∃t x ty g,ao c k=some (d,.load t x,ty,g)∧bu c g env=some true∧gL d N=true∧uw P t=true∧ev env x=some (vP ad):=by
 unfold QQ at hk;split at hk
 ·rename_i h0;split at hk
  ·rename_i h1 h2 h3 h4;simp only[Option.some.injEq,Prod.mk.injEq]at hk;obtain⟨rfl,rfl⟩:=hk;exact⟨_,_,_,_,h0,h1,h2,h3,h4⟩
  ·cases hk
 ·cases hk
theorem QV{k:Nat}{c:Code}{env:Env}{d:Option Nat}{ad:Addr}{n:Nat}(hk:YV P c N env k=some (d,ad,some n)):∃t x ty g,ao c k=some (d,.load t x,ty,g)∧bu c g env=some true∧gL d N=true∧vy P t=some n∧ev env x=some (vP ad):=by
 unfold YV at hk;split at hk
 ·rename_i h0;split at hk
  ·rename_i h1 h2 h4;simp only[Option.some.injEq,Prod.mk.injEq]at hk;obtain⟨rfl,rfl,h3⟩:=hk;exact⟨_,_,_,_,h0,h1,h2,h3,h4⟩
  ·cases hk
 ·cases hk
theorem GU{k:Nat}{c:Code}{env:Env}{d:Option Nat}{A:aA}{n size:Nat}{j:Int}(hk:QR P c N env k=some (d,A,n,size,j)):∃t x y ty g cap e kd,ao c k=some (d,.indexAddr t x y,ty,g)∧bu c g env=some true∧gL d N=true∧ev env x=some (vS A n cap)∧ev env y=some (.int kd j)∧P.underlying t=some (.slice e)∧(P.info? e).map (·.size)=some size:=by
 unfold QR at hk;split at hk
 ·rename_i g0;split at hk
  ·rename_i g1 g2 g3 g4;split at hk
   ·rename_i e ht;split at hk
    ·rename_i inf hs;simp only[Option.some.injEq,Prod.mk.injEq]at hk;obtain⟨rfl,rfl,rfl,rfl,rfl⟩:=hk;exact⟨_,_,_,_,_,_,_,_,g0,g1,g2,g3,g4,ht,by rw[hs];rfl⟩
    ·cases hk
   ·cases hk
  ·cases hk
 ·cases hk
theorem QW{k:Nat}{c:Code}{env:Env}{d:Option Nat}{z:Int}(hk:YW c N env k=some (d,z)):∃op t x y t' ty g i j,ao c k=some (d,.binOp op t x y t',ty,g)∧bu c g env=some true∧gL d N=true∧ev env x=some (vI i)∧ev env y=some (vI j)∧arI op i j=some z:=by
 unfold YW at hk;split at hk
 ·rename_i g0;split at hk
  ·rename_i g1 g2 g3 g4;split at hk
   ·rename_i z hz;simp only[Option.some.injEq,Prod.mk.injEq]at hk;obtain⟨rfl,rfl⟩:=hk;exact⟨_,_,_,_,_,_,_,_,_,g0,g1,g2,g3,g4,hz⟩
   ·cases hk
  ·cases hk
 ·cases hk
theorem dL(ad:Addr)(v:Value)(hc:∀w',Kp wr w'→w'.cell? ad=some v)(hv:sp i= .aQ v:=by rfl)(hg:∀vs,kB c i (bR c i sp vs env0)=some true:=by intro _;kernel_rfl)(hk:∀vs,QQ P (one c i) N (bR c i sp vs env0) 0=some (bg c i,ad):=by intro _;kernel_rfl)(he:ao (one c i) 1=none:=by kernel_rfl):jt P c Q N env0 wr sp i:=by
 refine nt hg (fun w vs hK hp a hF=> ?_);obtain⟨t,x,ty,g,h0,h1,h2,h3,h4⟩:=GS (hk vs);exact qK h0 hF h1 h2 rfl h4 h3 (hc w hK) (fun a' ea _=>aF he ⟨v,ea,Kp.refl w,by rw[hv];rfl⟩)
theorem dS(ad:Addr)(vs:bp)(hc:∀w',Kp wr w'→∀j v,vs[j]?=some v→w'.cell? (ad.add j)=some v)(hv:sp i= .aQ (.agg vs.toArray):=by rfl)(hg:∀vs,kB c i (bR c i sp vs env0)=some true:=by intro _;kernel_rfl)(hk:∀Tr,YV P (one c i) N (bR c i sp Tr env0) 0=some (bg c i,ad,some vs.length):=by intro _;kernel_rfl)(he:ao (one c i) 1=none:=by kernel_rfl):jt P c Q N env0 wr sp i:=by
 refine nt hg (fun w Tr hK hp a hF=> ?_);obtain⟨t,x,ty,g,h0,h1,h2,h3,h4⟩:=QV (hk Tr);exact eZ h0 hF h1 h2 rfl h4 h3 (hc w hK) (fun a' ea _=>aF he ⟨_,ea,Kp.refl w,by rw[hv];rfl⟩)
theorem dI(ad:Addr)(n size:Nat)(j:Int)(h0:0≤j:=by omega)(h1:j<n:=by omega)(hv:sp i= .aQ (vP (ad.add (j.toNat*size))):=by rfl)(hg:∀vs,kB c i (bR c i sp vs env0)=some true:=by intro _;kernel_rfl)(hk:∀vs,QR P (one c i) N (bR c i sp vs env0) 0=some (bg c i,some ad,n,size,j):=by intro _;kernel_rfl)(he:ao (one c i) 1=none:=by kernel_rfl):jt P c Q N env0 wr sp i:=by
 refine nt hg (fun w vs hK hp a hF=> ?_);obtain⟨t,x,y,ty,g,cap,e,kd,g0,g1,g2,g3,g4,g5,g6⟩:=GU (hk vs);exact qL g0 hF g1 g2 rfl g3 g4 rfl g5 g6 h0 h1 (fun a' ea _=>aF he ⟨_,ea,Kp.refl w,by rw[hv];rfl⟩)
theorem dA(z:Int)(h1: -9223372036854775808≤z:=by omega)(h2:z≤9223372036854775807:=by omega)(hv:sp i= .aQ (vI z):=by rfl)(hg:∀vs,kB c i (bR c i sp vs env0)=some true:=by intro _;kernel_rfl)(hk:∀vs,YW (one c i) N (bR c i sp vs env0) 0=some (bg c i,z):=by intro _;kernel_rfl)(he:ao (one c i) 1=none:=by kernel_rfl):jt P c Q N env0 wr sp i:=by
 refine nt hg (fun w vs hK hp a hF=> ?_);obtain⟨op,t,x,y,t',ty,g,i1,j1,g0,g1,g2,g3,g4,g5⟩:=QW (hk vs);exact iJ g0 hF g1 g2 rfl g3 g4 g5 h1 h2 (fun a' ea _=>aF he ⟨_,ea,Kp.refl w,by rw[hv];rfl⟩)
theorem dC(b:Bool){B:Bool}(hb:B=b)(hv:sp i= .aQ (vB B):=by rfl)(hg:∀vs,kB c i (bR c i sp vs env0)=some true:=by intro _;kernel_rfl)(hk:∀vs,cmE (one c i) N (bR c i sp vs env0) 0=some b:=by intro _;kernel_rfl)(he:ao (one c i) 1=none:=by kernel_rfl):jt P c Q N env0 wr sp i:=by
 refine nt hg (fun w vs hK hp a hF=> ?_);obtain⟨d,op,t,x,y,t',ty,g,kd,i1,j1,g0,g1,g2,g3,g4,g5⟩:=GP (hk vs);have hd:bg c i=d:=by
  cases hc:ao c i with
  |none=>
   have:=hg vs;unfold kB at this;rw[hc]at this;cases this
  |some o=>
   obtain⟨e1,e2⟩:=EO hc;rw[e1]at g0;simp only[Option.some.injEq,Prod.mk.injEq]at g0;rw[e2,g0.1]
 exact Cz g0 hF g1 g2 rfl g3 g4 g5 (fun B' hB' a' ea _=>aF he ⟨_,by rw[hd];exact ea,Kp.refl w,by rw[hv,hB',hb];rfl⟩)
end
section
variable {P : Program} {c : Code} {Q : Exit → Act → World → Prop} {N : FN} {i : Nat} {env0 : Env} {sp : Nat → Spec} {J : (Nat → Bool) → (Nat → Value) → World → Prop}
theorem EP(hg:∀vs,kB c i (bR c i sp vs env0)=some true)(h:∀(w:World) (ls:Nat→Bool) (vs:Nat→Value),J ls vs w→ls i=false→qP c ls→(∀j,j∈dj c i→ls j=true∧(sp j).ok (vs j) w)→∀a,Fr a N (bR c i sp vs env0)→bw P (one c i) (fun a' w'=>∃v,a'=a.put (bg c i) v∧(sp i).ok v w'∧J (nS ls i) (s9 vs i v) w') Q 0 a w):qw P c Q N env0 sp J i:=by
 intro a w ls vs rest hJ hi hc hp hF;exact⟨true,fun g lM=>qU (AE (hg vs) g lM),fun _=>h w ls vs hJ hi hc hp a hF.left,fun h=>Bool.noConfusion h⟩
theorem eW(hJ:∀ls vs v w,J ls vs w→J (nS ls i) (s9 vs i v) w)(h:∀vs,p1E P c N i (bR c i sp vs env0)=Y0 (sp i):=by intro _;kernel_rfl)(h2:bj (Y0 (sp i))=true:=by kernel_rfl):qw P c Q N env0 sp J i:=by
 have key:∀vs,∃d op ty g v,ao c i=some (d,op,ty,g)∧bu c g (bR c i sp vs env0)=some true∧gL d N=true∧oV P (bR c i sp vs env0) op=some v∧sp i= .aQ v:=by
  intro vs;have h3:=h vs;cases hs:sp i with
  |any Φ hh=>rw[hs]at h2;cases h2
  |aQ u=>
   rw[hs]at h3;unfold p1E Y0 at h3;simp only at h3;split at h3
   ·rename_i h4;split at h3
    ·rename_i h5 h6;exact⟨_,_,_,_,u,h4,h5,h6,h3,rfl⟩
    ·cases h3
   ·cases h3
 refine EP (fun vs=> ?_) (fun w ls vs hj hi hc hp a hF=> ?_)
 ·obtain⟨d,op,ty,g,v,h1,h2,_⟩:=key vs;unfold kB;rw[h1];exact h2
 ·obtain⟨d,op,ty,g,v,h1,h2,h3,h4,h5⟩:=key vs;obtain⟨e1,e2⟩:=EO h1;refine fz e1 hF rfl h3 rfl h4 (fun a' ea _=>aF (GR h1) ⟨v,?_,?_,hJ _ _ _ _ hj⟩)
  ·rw[e2];exact ea
  ·rw[h5];rfl
theorem oC(ad:Addr)(n size:Nat)(j:Int)(hJ:∀ls vs v w,J ls vs w→J (nS ls i) (s9 vs i v) w)(h0:0≤j:=by omega)(h1:j<n:=by omega)(hv:sp i= .aQ (vP (ad.add (j.toNat*size))):=by rfl)(hg:∀vs,kB c i (bR c i sp vs env0)=some true:=by intro _;kernel_rfl)(hk:∀vs,QR P (one c i) N (bR c i sp vs env0) 0=some (bg c i,some ad,n,size,j):=by intro _;kernel_rfl)(he:ao (one c i) 1=none:=by kernel_rfl):qw P c Q N env0 sp J i:=by
 refine EP hg (fun w ls vs hj hi hc hp a hF=> ?_);obtain⟨t,x,y,ty,g,cap,e,kd,g0,g1,g2,g3,g4,g5,g6⟩:=GU (hk vs);exact qL g0 hF g1 g2 rfl g3 g4 rfl g5 g6 h0 h1 (fun a' ea _=>aF he ⟨_,ea,by rw[hv];rfl,hJ _ _ _ _ hj⟩)
theorem nj(ad:Addr)(v:Value)(hJ:∀ls vs v w,J ls vs w→J (nS ls i) (s9 vs i v) w)(hc:∀w ls vs,J ls vs w→ls i=false→qP c ls→(∀j,j∈dj c i→ls j=true)→w.cell? ad=some v)(hv:sp i= .aQ v:=by rfl)(hg:∀vs,kB c i (bR c i sp vs env0)=some true:=by intro _;kernel_rfl)(hk:∀vs,QQ P (one c i) N (bR c i sp vs env0) 0=some (bg c i,ad):=by intro _;kernel_rfl)(he:ao (one c i) 1=none:=by kernel_rfl):qw P c Q N env0 sp J i:=by
 refine EP hg (fun w ls vs hj hi uV hp a hF=> ?_);obtain⟨t,x,ty,g,h0,h1,h2,h3,h4⟩:=GS (hk vs);exact qK h0 hF h1 h2 rfl h4 h3 (hc w ls vs hj hi uV (fun j Ez=>(hp j Ez).1)) (fun a' ea _=>aF he ⟨v,ea,by rw[hv];rfl,hJ _ _ _ _ hj⟩)
end
end Go.Mor
namespace Go.Mor
theorem Ih{α:Type}[BEq α][LawfulBEq α]{a b:α}(h:false=(a==b)):¬(a=b):=fun e=>Bool.false_ne_true (h.trans (beq_iff_eq.2 e))
theorem QX{α:Type}[BEq α][LawfulBEq α]{a b:α}(h:false=(a !=b)):¬(a≠b):=fun e=>Bool.false_ne_true (h.trans (bne_iff_ne.2 e))
end Go.Mor
namespace Go.Mor
open Go.RowKit
abbrev dU:Spec:= .aQ undef
theorem lz{p:Nat→Prop}:∀i,i<0→p i:=CD
theorem la{p:Nat→Prop}{n:Nat}(h:∀i,i<n→p i)(hn:p n):∀i,i<n+1→p i:=CE h hn
section
variable {P : Program} {c : Code} {Q : Exit → Act → World → Prop} {N : FN} {i : Nat} {env0 : Env} {wr : World} {sp : Nat → Spec}
theorem dK(hv:sp i= .aQ undef:=by rfl)(hg:∀vs,kB c i (bR c i sp vs env0)=some false:=by intro _;kernel_rfl):jt P c Q N env0 wr sp i:=by
 intro a w vs rest hK hp hF;exact⟨false,fun g lM=>qU (AE (hg vs) g lM),fun h=>Bool.noConfusion h,fun _=>by rw[hv];rfl⟩
theorem dIA(A:aA)(ad:Addr)(n size:Nat)(j:Int)(hA:A=some ad)(h0:0≤j:=by omega)(h1:j<n:=by omega)(hv:sp i= .aQ (vP (ad.add (j.toNat*size))):=by rfl)(hg:∀vs,kB c i (bR c i sp vs env0)=some true:=by intro _;kernel_rfl)(hk:∀vs,QR P (one c i) N (bR c i sp vs env0) 0=some (bg c i,A,n,size,j):=by intro _;kernel_rfl)(he:ao (one c i) 1=none:=by kernel_rfl):jt P c Q N env0 wr sp i:=dI ad n size j h0 h1 hv hg (fun vs=>by rw[hk vs,hA]) he
theorem QY{k:Nat}{c:Code}{env:Env}{d:Option Nat}{f:FuncId}{vs:Array Value}(hk:YX P c N env k=some (d,f,vs)):∃x args ts ty g us cap,ao c k=some (d,.call {callee:= .value x,args:=args,argTypes:=ts},ty,g)∧bu c g env=some true∧gL d N=true∧ev env x=some (.func (.func f) #[] cap)∧Kt env args.toList=some us∧s4 P f=true∧(us++cap.toList).toArray=vs:=by
 unfold YX at hk;split at hk
 ·rename_i d' x args ts ty g g0;split at hk
  ·rename_i f' first cap us g1 g2 g3 g4
   split at hk
   ·rename_i hs hf;simp only[Option.some.injEq,Prod.mk.injEq]at hk;obtain⟨rfl,rfl,hv⟩:=hk;have EN:first=#[]:=Array.eq_empty_of_size_eq_zero hs
    subst EN;exact⟨x,args,ts,ty,g,us,cap,g0,g1,g2,g3,g4,hf,hv⟩
   ·cases hk
  ·cases hk
 ·cases hk
theorem dD{f:FuncId}{vs:Array Value}{u u':Value}(hc:∀w,Kp wr w→Calls P f vs w (eU fun v w'=>v=u∧Mem aR w w' []))(hu:u=u')(hv:sp i= .aQ u':=by rfl)(hg:∀vs,kB c i (bR c i sp vs env0)=some true:=by intro _;kernel_rfl)(hk:∀Tr,YX P (one c i) N (bR c i sp Tr env0) 0=some (bg c i,f,vs):=by intro _;kernel_rfl)(he:ao (one c i) 1=none:=by kernel_rfl):jt P c Q N env0 wr sp i:=by
 refine nt hg (fun w Tr hK hp a hF=> ?_);obtain⟨x,args,ts,ty,g,us,cap,g0,g1,g2,g3,g4,g5,g6⟩:=QY (hk Tr);refine dY (Φ:=fun v w'=>v=u∧Mem aR w w' []) g0 hF g1 g2 rfl (cap:=cap.toList) (by simpa using g3) g4 g5 (by rw[g6];exact hc w hK) (fun v w' Vy a' ea _=>aF he ⟨v,ea,Vy.2,?_⟩);rw[hv,Vy.1];exact hu
end
def Y1:Nat→List aL→List aL
 |0,L=>L
 |_+1,[]=>[]
 |n+1,a::L=>match Y1 n L with
  |[]=>[a]
  |b::M=>b::a::M
def odL:List Nat→List aL→List aL
 |[],L=>L
 |i::l,L=>odL l (Y1 i L)
def Y2:Nat→List aL→List aL
 |0,_=>[]
 |_+1,[]=>[]
 |n+1,a::L=>a::Y2 n L
theorem CM:∀(n:Nat) (L:List aL),L.Perm (Y1 n L)
 |0,L=>List.Perm.refl L
 |_+1,[]=>List.Perm.refl []
 |n+1,a::L=>by
  unfold Y1;have h:=CM n L;cases hm:Y1 n L with
  |nil=>rw[hm]at h;exact h.cons a
  |cons b M=>rw[hm]at h;exact(h.cons a).trans (List.Perm.swap b a M)
theorem CN:∀(l:List Nat) (L:List aL),L.Perm (odL l L)
 |[],L=>List.Perm.refl L
 |i::l,L=>(CM i L).trans (CN l _)
theorem v7:∀(n:Nat) (L:List aL),qv (List.replicate n true) L=Y2 n L
 |0,[]=>rfl
 |0,_::_=>rfl
 |_+1,[]=>rfl
 |n+1,a::L=>by rw[List.replicate_succ];show a::qv (List.replicate n true) L=a::Y2 n L;rw[v7 n L]
section
variable {S : Nat → Prop} {w0 w w' : World} {L Lr L' : List aL} {r r' s s' : aL}
theorem Mem.nf(h:Mem S w0 w L)(e:L=L':=by dsimp only[List.set_cons_zero,List.set_cons_succ,List.cons_append,List.nil_append]):Mem S w0 w L':=e▸h
theorem Mem.cl(h:Mem S w0 w L)(h':Mem aR w w' Lr)(e:L++Lr=L':=by dsimp only[List.cons_append,List.nil_append,List.append_nil]):Mem S w0 w' L':=e▸h.call h'
theorem Mem.md(h:Mem S w0 w L)(i:Nat)(hi:L[i]?=some r)(h':Mem r.fp w w' (r'::Lr))(e:L.set i r'++Lr=L':=by dsimp only[List.set_cons_zero,List.set_cons_succ,List.cons_append,List.nil_append,List.append_nil]):Mem S w0 w' L':=e▸h.mod i hi h'
theorem Mem.vL(h:Mem S w0 w (r::s::L))(h':Mem (r.and s).fp w w' (r'::s'::Lr))(e:r'::s'::(L++Lr)=L':=by dsimp only[List.cons_append,List.nil_append,List.append_nil]):Mem S w0 w' L':=e▸h.Vp h'
theorem Mem.od(h:Mem S w0 w L)(l:List Nat)(k:Nat)(e:Y2 k (odL l L)=L':=by dsimp only[Y2,odL,Y1]):Mem S w0 w L':=e▸(h.perm (CN l L)).pick _ (v7 k _)
theorem Mem.tk(h:Mem S w0 w L)(k:Nat)(e:Y2 k L=L':=by rfl):Mem S w0 w L':=e▸h.pick _ (v7 k _)
end
abbrev pT(b o:Nat):Value:= .pointer (some (aq b o))
abbrev sM(g:Nat):aA:=some (aZ g)
abbrev nV(k:Nat):Value:=vI (k:Int)
theorem Fr.kp{a:Act}{N:FN}{env:Env}(h:Fr a N env)(keep:List Nat){zU:Env}(e:mz keep env=zU:=by kernel_rfl):Fr a N zU:=h.keep e
section
variable {P : Program} {c : Code} {K : Act → World → Prop} {Q : Exit → Act → World → Prop} {a : Act} {w w0 : World} {S : Nat → Prop} {L : List aL} {k : Nat} {N : FN} {env : Env}
theorem fk(I:Nat→Act→World→Prop){n:Nat}(h0:I n a w)(round:∀n a w,I n a w→W P (Code.l c) (fun a' w'=>∃m,m<n∧I m a' w') Q a w)(hk:kind c= .loop:=by kernel_rfl):W P c K Q a w:=Ve hk I h0 round
theorem cP(n k':Nat){news:Env}(keys:List Nat)(hF:Fr a N env)(hp:(eM P c N n k env).map (mz keys)=some news)(h:∀a',Fr a' N (news++env)→bw P c K Q k' a' w)(hc:qS keys env (dstsOf c n k)=true:=by kernel_rfl)(hk:k+n=k':=by rfl):bw P c K Q k a w:=EM n k' keys hF hp hc hk h
def bxE(_P:Program)(c:Code)(N:FN)(env:Env)(k:Nat):Option (Option Nat×TypeId×Value):=match ao c k with
 |some (d,.box t x,_,g)=>match bu c g env,gL d N,ev env x with
  |some true,true,some v=>some (d,t,v)
  |_,_,_=>none
 |_=>none
theorem m5(hM:Mem S w0 w L)(t:TypeId)(v:Value)(cs:bp)(h:∀b w',w0.heap.size≤b→Mem S w0 w' (L++[.ak b t cs])→∀a,Fr a N (dN env (bg c k) (vP (aZ b)))→bw P c K Q (k+1) a w')(zZ:v.cells=cs.toArray:=by rfl)(hk:bxE P c N env k=some (bg c k,t,v):=by kernel_rfl):∀a,Fr a N env→bw P c K Q k a w:=by
 intro a hF;unfold bxE at hk;split at hk
 ·rename_i g0;split at hk
  ·rename_i g1 g2 g3;simp only[Option.some.injEq,Prod.mk.injEq]at hk;obtain⟨e1,rfl,rfl⟩:=hk;rw[e1]at g0 g2;exact vz g0 hF g1 g2 rfl g3 zZ hM (fun b w' hb _ xM _ a' _ GH=>h b w' hb xM a' GH)
  ·cases hk
 ·cases hk
def alE(_P:Program)(c:Code)(N:FN)(env:Env)(k:Nat):Option (Option Nat×TypeId):=match ao c k with
 |some (d,.alloc t,_,g)=>match bu c g env,gL d N with
  |some true,true=>some (d,t)
  |_,_=>none
 |_=>none
theorem nI(hM:Mem S w0 w L)(t:TypeId)(cs:bp)(h:∀b w',w0.heap.size≤b→Mem S w0 w' (L++[.ak b t cs])→∀a,Fr a N (dN env (bg c k) (vP (aZ b)))→bw P c K Q (k+1) a w')(hz:(P.info? t).map (fun i=>i.zero.map (fun z=>z.cells.toList))=some (some cs):=by kernel_rfl)(hk:alE P c N env k=some (bg c k,t):=by kernel_rfl):∀a,Fr a N env→bw P c K Q k a w:=by
 intro a hF;unfold alE at hk;split at hk
 ·rename_i g0;split at hk
  ·rename_i g1 g2;simp only[Option.some.injEq,Prod.mk.injEq]at hk;obtain⟨e1,rfl⟩:=hk;rw[e1]at g0 g2;exact vA g0 hF g1 g2 rfl hz hM (fun b w' hb _ xM _ a' _ GH=>h b w' hb xM a' GH)
  ·cases hk
 ·cases hk
def ssE(P:Program)(c:Code)(N:FN)(env:Env)(k:Nat):Option (Option Nat×Nat×Nat×Array Value×Option Nat):=match ao c k with
 |some (d,.store t x y,_,g)=>match bu c g env,gL d N,ev env x,ev env y with
  |some true,true,some (.pointer (some ⟨b,o,none⟩)),some (.agg vs)=>some (d,b,o,vs,vy P t)
  |_,_,_,_=>none
 |_=>none
theorem qA(hM:Mem S w0 w L)(i:Nat)(vs:bp){b t0:Nat}{cs:bp}(hi:L[i]?=some (.ak b t0 cs))(h:∀w',Mem S w0 w' (L.set i (.ak b t0 vs))→∀a,Fr a N (dN env (bg c k) undef)→bw P c K Q (k+1) a w')(hv:vs.all Value.oneCell'=true:=by rfl)(ho:cs.length=vs.length:=by rfl)(hk:ssE P c N env k=some (bg c k,b,0,vs.toArray,some vs.length):=by kernel_rfl):∀a,Fr a N env→bw P c K Q k a w:=by
 intro a hF;unfold ssE at hk;split at hk
 ·rename_i g0;split at hk
  ·rename_i g1 g2 g3 g4;simp only[Option.some.injEq,Prod.mk.injEq]at hk;obtain⟨e1,rfl,rfl,rfl,e5⟩:=hk;rw[e1]at g0 g2;exact oy g0 hF g1 g2 rfl g3 g4 e5 (List.all_eq_true.1 hv) hM i hi ho (fun w' xM _ a' _ GH=>h w' xM a' GH)
  ·cases hk
 ·cases hk
end
section
variable {P : Program} {c : Code} {K : Act → World → Prop} {Q : Exit → Act → World → Prop} {N : FN} {env0 : Env} {wr : World} {a : Act}
theorem qm(sp:Nat→Spec)(hF:Fr a N env0)(nR:∀i,i<(opsOf c).size→jt P c Q N env0 wr sp i)(h:∀a' w' (vs:Nat→Value),Kp wr w'→(∀j,j<(opsOf c).size→(sp j).ok (vs j) w')→Fr a' N (oz c sp vs (List.range (opsOf c).size)++rK c env0)→K a' w')(hk:kind c= .region true:=by kernel_rfl)(hm:P.follows .mixedOrders=true:=by kernel_rfl)(hd:j6 c=true:=by kernel_rfl)(gl:fO c=true:=by kernel_rfl)(o5:nQ env0=true:=by kernel_rfl)(gK:(List.range (opsOf c).size).all (fun i=>gL (bg c i) N)=true:=by kernel_rfl):W P c K Q a wr:=Vl hk hm sp hd gl hF o5 gK nR h
theorem xN(sp:Nat→Spec)(J:(Nat→Bool)→(Nat→Value)→World→Prop)(hF:Fr a N env0)(vO:∀j v w w',(sp j).ok v w→(sp j).ok v w')(h0:J (fun _=>false) (fun _=>undef) wr.drew)(nR:∀i,i<(opsOf c).size→qw P c Q N env0 sp J i)(h:∀a' w' (ls:Nat→Bool) (vs:Nat→Value),(∀j,j<(opsOf c).size→ls j=true)→J ls vs w'→(∀j,j<(opsOf c).size→(sp j).ok (vs j) w')→Fr a' N (oz c sp vs (List.range (opsOf c).size)++rK c env0)→K a' w')(hk:kind c= .region true:=by kernel_rfl)(hm:P.follows .mixedOrders=true:=by kernel_rfl)(hd:j6 c=true:=by kernel_rfl)(gl:fO c=true:=by kernel_rfl)(o5:nQ env0=true:=by kernel_rfl)(gK:(List.range (opsOf c).size).all (fun i=>gL (bg c i) N)=true:=by kernel_rfl):W P c K Q a wr:=QC hk hm sp J hd gl hF o5 gK vO h0 nR h
end
section
variable {P : Program} {c : Code} {K : Act → World → Prop} {Q : Exit → Act → World → Prop} {w w0 : World} {S : Nat → Prop} {L : List aL} {k : Nat} {N : FN} {env : Env} {a : Act}
theorem th(d:Nat)(x y:Operand)(t ty:TypeId)(hF:Fr a N env){e size bytes:Nat}{z:Value}{A B:aA}{n cap m cap':Nat}{xs news:bp}(hM:Mem S w0 w L)(i:Nat)(hL:L[i]?=some (.row e size A n cap xs))(z3:(aL.rd B news).holds w)(hl:news.length=m*size)(h1:∀u∈news,u.oneCell'=true)(hb:(n+m)*bytes≤140737488355328)(Tm:n+m≤maxLen)(h:∀A' c' w',Mem S w0 w' (L.set i (.row e size A' (n+m) c' (xs++news)))→Mem (aL.row e size A n cap xs).fp w w' [.row e size A' (n+m) c' (xs++news)]→∀a',a'=a.put (some d) (vS A' (n+m) c')→Fr a' N (dN env (some d) (vS A' (n+m) c'))→bw P c K Q (k+1) a' w')(hk:ao c k=some (some d,.call {callee:= .builtin .append,args:=#[x,y],argTypes:=#[t,t]},ty,none):=by kernel_rfl)(hd:gL (some d) N=true:=by kernel_rfl)(ht:P.underlying t=some (.slice e):=by kernel_rfl)(hi:(P.info? e).map (fun i=>(i.size,i.bytes,i.zero))=some (size,bytes,some z):=by kernel_rfl)(ZY:Nat.beq z.cells.size size=true:=by kernel_rfl)(jo:Nat.blt 0 size=true:=by kernel_rfl)(hx:ev env x=some (vS A n cap):=by kernel_rfl)(hy:ev env y=some (vS B m cap'):=by kernel_rfl):bw P c K Q k a w:=CA hk hF rfl hd rfl ht hi ZY jo hx hy hM i hL z3 hl h1 hb Tm h
theorem rr(d:Nat)(t:TypeId)(len:Nat)(ps:Array (Nat×Operand))(ty:TypeId)(hF:Fr a N env){e size:Nat}{zs:bp}{vs:List (Nat×Value)}{cs:bp}(hM:Mem S w0 w L)(h:∀b w',w0.heap.size≤b→w.heap.size≤b→Mem S w0 w' (L++[.row e size (some (aZ b)) len len cs])→Mem aR w w' [.row e size (some (aZ b)) len len cs]→∀a',a'=a.put (some d) (vS (some (aZ b)) len len)→Fr a' N (dN env (some d) (vS (some (aZ b)) len len))→bw P c K Q (k+1) a' w')(hk:ao c k=some (some d,.buildSlice t len ps,ty,none):=by kernel_rfl)(hd:gL (some d) N=true:=by kernel_rfl)(ht:P.underlying t=some (.slice e):=by kernel_rfl)(hi:(P.info? e).map (fun i=>(i.size,i.zero.map (·.cells.toList)))=some (size,some zs):=by kernel_rfl)(hp:parts env ps.toList=some vs:=by kernel_rfl)(jo:(Nat.ble 1 (len*size)&&Nat.ble (len*size) 1000)=true:=by kernel_rfl)(KV:Instr.fill (fun i=>some (i*size,size)) ((Array.range (len*size)).map (zs.toArray[· % zs.toArray.size]!)) vs=some cs.toArray:=by kernel_rfl)(hl:Nat.beq cs.length (len*size)=true:=by kernel_rfl):bw P c K Q k a w:=ux hk hF rfl hd rfl ht hi hp jo KV hl hM h
theorem Ii(d:Nat)(t:TypeId)(x y:Operand)(ty:TypeId)(hF:Fr a N env){e bytes:Nat}{z:Value}{n:Nat}{i:Int}(hb:bytes*n≤140737488355328)(hl:n≤maxLen)(hM:Mem S w0 w L)(h:∀b w',w0.heap.size≤b→w.heap.size≤b→Mem S w0 w' (L++[.row e 1 (some (aZ b)) n n (List.replicate n z)])→Mem aR w w' [.row e 1 (some (aZ b)) n n (List.replicate n z)]→∀a',a'=a.put (some d) (vS (some (aZ b)) n n)→Fr a' N (dN env (some d) (vS (some (aZ b)) n n))→bw P c K Q (k+1) a' w')(hk:ao c k=some (some d,.makeSlice t x y,ty,none):=by kernel_rfl)(hd:gL (some d) N=true:=by kernel_rfl)(hx:ev env x=some (vI i):=by kernel_rfl)(hy:ev env y=some (vI i):=by kernel_rfl)(hn:i=(n:Int):=by rfl)(ht:P.underlying t=some (.slice e):=by kernel_rfl)(hi:(P.info? e).map (fun i=>(i.size,i.bytes,i.zero))=some (1,bytes,some z):=by kernel_rfl)(hz:z.oneCell'=true:=by rfl):bw P c K Q k a w:=lU hk hF rfl hd rfl hx hy hn ht hi hz hb hl hM h
end
theorem ra{p:Nat→Prop}{n:Nat}(h:∀i,i<n→p i)(h0:p n)(h1:p (n+1)):∀i,i<n+2→p i:=la (la h h0) h1
theorem oJ{p:Nat→Prop}{n:Nat}(h:∀i,i<n→p i)(h0:p n)(h1:p (n+1))(h2:p (n+2)):∀i,i<n+3→p i:=la (la (la h h0) h1) h2
theorem xS{p:Nat→Prop}{n:Nat}(h:∀i,i<n→p i)(h0:p n)(h1:p (n+1))(h2:p (n+2))(h3:p (n+3))(h4:p (n+4)):∀i,i<n+5→p i:=la (la (la (la (la h h0) h1) h2) h3) h4
theorem rz{p:Nat→Prop}{n:Nat}(h:∀i,i<n→p i)(h0:p n)(h1:p (n+1))(h2:p (n+2))(h3:p (n+3))(h4:p (n+4))(h5:p (n+5))(h6:p (n+6))(h7:p (n+7)):∀i,i<n+8→p i:=la (la (la (la (la (la (la (la h h0) h1) h2) h3) h4) h5) h6) h7
theorem gM{p:Nat→Prop}{n:Nat}(h:∀i,i<n→p i)(h0:p n)(h1:p (n+1))(h2:p (n+2))(h3:p (n+3))(h4:p (n+4))(h5:p (n+5))(h6:p (n+6))(h7:p (n+7))(h8:p (n+8))(h9:p (n+9))(u0:p (n+10))(h11:p (n+11)):∀i,i<n+12→p i:=la (la (la (la (la (la (la (la (la (la (la (la h h0) h1) h2) h3) h4) h5) h6) h7) h8) h9) u0) h11
section
variable{P:Program}{c:Code}{Q:Exit→Act→World→Prop}{N:FN}{env0:Env}{wr:World}{sp:Nat→Spec}{n:Nat}
theorem k1_(h:∀i,i<n→jt P c Q N env0 wr sp i)(h1:sp n= .aQ undef)(h2:∀vs,kB c n (bR c n sp vs env0)=some false):∀i,i<n+1→jt P c Q N env0 wr sp i:=la h (dK h1 h2)
theorem vh(h:∀i,i<n→jt P c Q N env0 wr sp i)(a0:sp (n+0)= .aQ undef:=by rfl)(b0:∀vs,kB c (n+0) (bR c (n+0) sp vs env0)=some false:=by intro _;kernel_rfl)(a1:sp (n+1)= .aQ undef:=by rfl)(b1:∀vs,kB c (n+1) (bR c (n+1) sp vs env0)=some false:=by intro _;kernel_rfl):∀i,i<n+2→jt P c Q N env0 wr sp i:=la (la (h) (dK a0 b0)) (dK a1 b1)
theorem uM(h:∀i,i<n→jt P c Q N env0 wr sp i)(a0:sp (n+0)= .aQ undef:=by rfl)(b0:∀vs,kB c (n+0) (bR c (n+0) sp vs env0)=some false:=by intro _;kernel_rfl)(a1:sp (n+1)= .aQ undef:=by rfl)(b1:∀vs,kB c (n+1) (bR c (n+1) sp vs env0)=some false:=by intro _;kernel_rfl)(a2:sp (n+2)= .aQ undef:=by rfl)(b2:∀vs,kB c (n+2) (bR c (n+2) sp vs env0)=some false:=by intro _;kernel_rfl)(a3:sp (n+3)= .aQ undef:=by rfl)(b3:∀vs,kB c (n+3) (bR c (n+3) sp vs env0)=some false:=by intro _;kernel_rfl):∀i,i<n+4→jt P c Q N env0 wr sp i:=la (la (la (la (h) (dK a0 b0)) (dK a1 b1)) (dK a2 b2)) (dK a3 b3)
theorem Nx(h:∀i,i<n→jt P c Q N env0 wr sp i)(a0:sp (n+0)= .aQ undef:=by rfl)(b0:∀vs,kB c (n+0) (bR c (n+0) sp vs env0)=some false:=by intro _;kernel_rfl)(a1:sp (n+1)= .aQ undef:=by rfl)(b1:∀vs,kB c (n+1) (bR c (n+1) sp vs env0)=some false:=by intro _;kernel_rfl)(a2:sp (n+2)= .aQ undef:=by rfl)(b2:∀vs,kB c (n+2) (bR c (n+2) sp vs env0)=some false:=by intro _;kernel_rfl)(a3:sp (n+3)= .aQ undef:=by rfl)(b3:∀vs,kB c (n+3) (bR c (n+3) sp vs env0)=some false:=by intro _;kernel_rfl)(a4:sp (n+4)= .aQ undef:=by rfl)(b4:∀vs,kB c (n+4) (bR c (n+4) sp vs env0)=some false:=by intro _;kernel_rfl)(a5:sp (n+5)= .aQ undef:=by rfl)(b5:∀vs,kB c (n+5) (bR c (n+5) sp vs env0)=some false:=by intro _;kernel_rfl)(a6:sp (n+6)= .aQ undef:=by rfl)(b6:∀vs,kB c (n+6) (bR c (n+6) sp vs env0)=some false:=by intro _;kernel_rfl)(a7:sp (n+7)= .aQ undef:=by rfl)(b7:∀vs,kB c (n+7) (bR c (n+7) sp vs env0)=some false:=by intro _;kernel_rfl):∀i,i<n+8→jt P c Q N env0 wr sp i:=la (la (la (la (la (la (la (la (h) (dK a0 b0)) (dK a1 b1)) (dK a2 b2)) (dK a3 b3)) (dK a4 b4)) (dK a5 b5)) (dK a6 b6)) (dK a7 b7)
theorem k16_(h:∀i,i<n→jt P c Q N env0 wr sp i)(a0:sp (n+0)= .aQ undef:=by rfl)(b0:∀vs,kB c (n+0) (bR c (n+0) sp vs env0)=some false:=by intro _;kernel_rfl)(a1:sp (n+1)= .aQ undef:=by rfl)(b1:∀vs,kB c (n+1) (bR c (n+1) sp vs env0)=some false:=by intro _;kernel_rfl)(a2:sp (n+2)= .aQ undef:=by rfl)(b2:∀vs,kB c (n+2) (bR c (n+2) sp vs env0)=some false:=by intro _;kernel_rfl)(a3:sp (n+3)= .aQ undef:=by rfl)(b3:∀vs,kB c (n+3) (bR c (n+3) sp vs env0)=some false:=by intro _;kernel_rfl)(a4:sp (n+4)= .aQ undef:=by rfl)(b4:∀vs,kB c (n+4) (bR c (n+4) sp vs env0)=some false:=by intro _;kernel_rfl)(a5:sp (n+5)= .aQ undef:=by rfl)(b5:∀vs,kB c (n+5) (bR c (n+5) sp vs env0)=some false:=by intro _;kernel_rfl)(a6:sp (n+6)= .aQ undef:=by rfl)(b6:∀vs,kB c (n+6) (bR c (n+6) sp vs env0)=some false:=by intro _;kernel_rfl)(a7:sp (n+7)= .aQ undef:=by rfl)(b7:∀vs,kB c (n+7) (bR c (n+7) sp vs env0)=some false:=by intro _;kernel_rfl)(a8:sp (n+8)= .aQ undef:=by rfl)(b8:∀vs,kB c (n+8) (bR c (n+8) sp vs env0)=some false:=by intro _;kernel_rfl)(a9:sp (n+9)= .aQ undef:=by rfl)(b9:∀vs,kB c (n+9) (bR c (n+9) sp vs env0)=some false:=by intro _;kernel_rfl)(a10:sp (n+10)= .aQ undef:=by rfl)(jR:∀vs,kB c (n+10) (bR c (n+10) sp vs env0)=some false:=by intro _;kernel_rfl)(a11:sp (n+11)= .aQ undef:=by rfl)(pI:∀vs,kB c (n+11) (bR c (n+11) sp vs env0)=some false:=by intro _;kernel_rfl)(a12:sp (n+12)= .aQ undef:=by rfl)(b12:∀vs,kB c (n+12) (bR c (n+12) sp vs env0)=some false:=by intro _;kernel_rfl)(a13:sp (n+13)= .aQ undef:=by rfl)(b13:∀vs,kB c (n+13) (bR c (n+13) sp vs env0)=some false:=by intro _;kernel_rfl)(a14:sp (n+14)= .aQ undef:=by rfl)(b14:∀vs,kB c (n+14) (bR c (n+14) sp vs env0)=some false:=by intro _;kernel_rfl)(a15:sp (n+15)= .aQ undef:=by rfl)(fD:∀vs,kB c (n+15) (bR c (n+15) sp vs env0)=some false:=by intro _;kernel_rfl):∀i,i<n+16→jt P c Q N env0 wr sp i:=la (la (la (la (la (la (la (la (la (la (la (la (la (la (la (la (h) (dK a0 b0)) (dK a1 b1)) (dK a2 b2)) (dK a3 b3)) (dK a4 b4)) (dK a5 b5)) (dK a6 b6)) (dK a7 b7)) (dK a8 b8)) (dK a9 b9)) (dK a10 jR)) (dK a11 pI)) (dK a12 b12)) (dK a13 b13)) (dK a14 b14)) (dK a15 fD)
end
theorem aJ(ks:List Nat){N:FN}{env:Env}{G:Act→Prop}(h:∀a,Fr a N (mz ks env)→G a):∀a,Fr a N env→G a:=fun a hF=>h a (hF.keep rfl)
section
variable{P:Program}{c:Code}{K:Act→World→Prop}{Q:Exit→Act→World→Prop}{w:World}{N:FN}{env:Env}{k:Nat}
theorem zl_{ad:Addr}{v:Value}(hc:w.cell? ad=some v)(h:∀a,Fr a N (dN env (bg c k) v)→bw P c K Q (k+1) a w)(hk:QQ P c N env k=some (bg c k,ad):=by kernel_rfl):∀a,Fr a N env→bw P c K Q k a w:=bl ad v hc h hk
end
section
variable{P:Program}{c:Code}{Q:Exit→Act→World→Prop}{N:FN}{i:Nat}{env0:Env}{wr:World}{sp:Nat→Spec}
theorem dl_{ad:Addr}{v:Value}(hc:∀w',Kp wr w'→w'.cell? ad=some v)(hv:sp i= .aQ v:=by rfl)(hg:∀vs,kB c i (bR c i sp vs env0)=some true:=by intro _;kernel_rfl)
    (hk:∀vs,QQ P (one c i) N (bR c i sp vs env0) 0=some (bg c i,ad):=by intro _;kernel_rfl)(he:ao (one c i) 1=none:=by kernel_rfl):jt P c Q N env0 wr sp i:=dL ad v hc hv hg hk he
end
end Go.Mor
