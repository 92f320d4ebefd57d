/-
  Texts of the proof, part 6.
-/
import Derived.Test.YtejbeeaomokjpaaGreatZm5
import Derived.Test.YtejbeeaomokjpaaGreatChecked
set_option maxRecDepth 10000
namespace Go.Proofs.YtejbeeaomokjpaaGreat
open Go.Mor Go.ChangeShapes Go.WideShapes Go.ChangeAt Go.RowKit Go.Deep
theorem Tryz.own:ownKnob Tryz.prog.godebug=none:=kR
theorem Tryz.laidOut:laidOutB Tryz.prog=true:=kR
theorem Qez{α:Type}{cs:List α}(h:cs.length=2):∃c0 c1,cs=[c0,c1]:=by
 match cs,h with
 |[c0,c1],_=>exact⟨c0,c1,rfl⟩
theorem ZZ{α:Type}{cs:List α}(h:cs.length=5):∃c0 c1 c2 c3 c4,cs=[c0,c1,c2,c3,c4]:=by
 match cs,h with
 |[c0,c1,c2,c3,c4],_=>exact⟨c0,c1,c2,c3,c4,rfl⟩
theorem QeA{α:Type}{cs:List α}(h:cs.length=6):∃c0 c1 c2 c3 c4 c5,cs=[c0,c1,c2,c3,c4,c5]:=by
 match cs,h with
 |[c0,c1,c2,c3,c4,c5],_=>exact⟨c0,c1,c2,c3,c4,c5,rfl⟩
def gQ{H:Type}(t:TypeId)(d:DataW H):Prop:=∀n,n∈d.weights Tryz.prog t→n≤reachBytes
theorem P3{a k:Nat}(hk:0<k)(h:a*k≤reachBytes):dJ a:=by
 have h1:a*1≤a*k:=Nat.mul_le_mul_left a hk;have h2:=reachBytes_lt;unfold dJ;omega
theorem Fa{H:Type}{e:TypeId}{l:List (DataW H)}{d:DataW H}(h:d∈l):∀n,n∈d.weights Tryz.prog e→n∈DataW.weightsAll Tryz.prog e l:=by
 induction l with
 |nil=>cases h
 |cons x l ih=>
  intro n hn;unfold DataW.weightsAll;rcases List.mem_cons.1 h with rfl|h
  ·exact List.mem_append_left _ hn
  ·exact List.mem_append_right _ (ih h n hn)
section
variable {H : Type} {enc : TypeId × Value → H} {w : World} {base : Nat} {spare : Nat → Bool} {held : Bool}
theorem lE{t:TypeId}(ht:Tryz.prog.underlying t=some (.int .i64)){fuel:Nat}{v:Value}{x:DataW H×List MemPlace}(h:DataW.trod enc Tryz.prog w base spare held fuel t [v]=some x):∃n,v=vI n∧In64 n:=by
 obtain⟨n,rfl,h1,h2⟩:=PO ht h;exact⟨n,rfl,h1,h2⟩
theorem Ie{t:TypeId}(ht:Tryz.prog.underlying t=some .string){fuel:Nat}{v:Value}{x:DataW H×List MemPlace}(h:DataW.trod enc Tryz.prog w base spare held fuel t [v]=some x)(hz:gQ t x.1):∃s,v=vT s∧dJ s.size:=by
 obtain⟨s,h1,h3,_⟩:=DataW.trod_string ht h;simp at h1;subst h3;refine⟨s,h1,P3 (k:=1) Nat.one_pos ?_⟩;have:=hz s.data.toList.length (by simp[DataW.weights]);rw[Nat.mul_one];simpa using this
theorem Ig{t:TypeId}{fs:Array Field}(hs:Tryz.prog.underlying t=some (.struct fs))(QbA:oneCellFields Tryz.prog fs=true)(hC:Tryz.prog.cellsOf t=fs.size){fuel:Nat}{cs:aP}{x:DataW H×List MemPlace}(h:DataW.trod enc Tryz.prog w base spare held fuel t cs=some x)(hz:gQ t x.1):cs.length=fs.size∧∃n:Nat,∀(i:Nat) (f:Field),fs[i]?=some f→∃(v:Value) (y:DataW H×List MemPlace),cs[i]?=some v∧DataW.trod enc Tryz.prog w base spare held n f.type [v]=some y∧gQ f.type y.1:=by
 obtain⟨xs,n,_,hxe,hlen,hxs,hf⟩:=DataW.trod_struct hs h;rw[hC]at hlen;refine⟨hlen,n,fun i f hi=> ?_⟩;have eV:i<fs.size:=(Array.getElem?_eq_some_iff.1 hi).1;obtain⟨ho,hc1⟩:=hone_of QbA i f hi;have h1:=hf i f hi;rw[ho,hc1,take1_drop cs i undef oM]at h1;rw[List.getElem?_eq_getElem (oM:i<xs.length)]at h1;refine⟨cs[i]'oM,xs[i]'oM,List.getElem?_eq_getElem oM,?_,fun m hm=>hz m ?_⟩
 ·rw[←h1];simp[List.getD,List.getElem?_eq_getElem (oM:i<cs.length)]
 ·subst hxe;simp only[DataW.weights,hs];exact Fb (j:=i) (by rw[List.getElem?_map];simp[hi]) (by rw[List.getElem?_map,List.getElem?_eq_getElem oM];rfl) m hm
theorem ot{t e:TypeId}{k:Nat}(ht:Tryz.prog.underlying t=some (.slice e))(hb:Tryz.prog.bytesOf e=k)(hk:0<k){fuel:Nat}{v:Value}{x:DataW H×List MemPlace}(h:DataW.trod enc Tryz.prog w base spare held fuel t [v]=some x)(hz:gQ t x.1):∃A len cap,v=vS A len cap∧dJ len∧∀i,i<len→∃(ad:Addr) (cs:aP) (n:Nat) (y:DataW H×List MemPlace),A=some ad∧cs.length=Tryz.prog.cellsOf e∧(∀(j:Nat) (v:Value),cs[j]?=some v→w.cell? ((ad.add (i*Tryz.prog.cellsOf e)).add j)=some v)∧DataW.trod enc Tryz.prog w base spare held n e cs=some y∧gQ e y.1:=by
 rcases DataW.trod_slice ht h with⟨oZ,_⟩|⟨a,len,cap,elems,rest,n,_,oZ,hxe,_,_,_,hel,hx,_⟩
 ·simp at oZ;subst oZ;exact⟨none,0,0,rfl,by simp[dJ],fun i hi=>absurd hi (Nat.not_lt_zero _)⟩
 ·simp at oZ;subst oZ;subst hxe;have hw:∀m,m∈(elems.map (·.1)).length*0::DataW.weightsAll Tryz.prog e (elems.map (·.1))→m≤reachBytes:=by
   intro m hm;rcases List.mem_cons.1 hm with rfl|hm
   ·omega
   ·refine hz m ?_;simp only[DataW.weights,ht];exact List.mem_cons_of_mem _ (List.mem_append_left _ hm)
  refine⟨some a,len,cap,rfl,?_,fun i hi=> ?_⟩
  ·have h1:=hz (((elems.map (·.1)).length+(rest.map (·.1)).length)*Tryz.prog.bytesOf e) (by simp only[DataW.weights,ht];exact List.mem_cons_self);rw[hb,List.length_map,List.length_map,hel]at h1;exact P3 hk (Nat.le_trans (Nat.mul_le_mul_right k (Nat.le_add_right _ _)) h1)
  ·have h1:=hx i hi;rw[List.getElem?_eq_getElem (oM:i<elems.length)]at h1;cases hc:w.cells? base (a.add (i*Tryz.prog.cellsOf e)) (Tryz.prog.cellsOf e)with
   |none=>rw[hc]at h1;cases h1
   |some cs=>
    rw[hc]at h1;obtain⟨_,hlen,o0⟩:=World.cells?_some hc;refine⟨a,cs,n,elems[i]'oM,rfl,hlen,fun j v hj=> ?_,h1,fun m hm=>hw m (List.mem_cons_of_mem _ (Fa (d:=(elems[i]'oM).1) ?_ m hm))⟩
    ·rw[o0 j (by have:=(List.getElem?_eq_some_iff.1 hj).1;omega)];exact hj
    ·exact List.mem_map.2 ⟨elems[i]'oM,List.getElem_mem _,rfl⟩
theorem kj{t e:TypeId}{k:Nat}{fs:Array Field}(ht:Tryz.prog.underlying t=some (.slice e))(hs:Tryz.prog.underlying e=some (.struct fs))(QbA:oneCellFields Tryz.prog fs=true)(hC:Tryz.prog.cellsOf e=fs.size)(hb:Tryz.prog.bytesOf e=k)(hk:0<k){fuel:Nat}{v:Value}{x:DataW H×List MemPlace}(h:DataW.trod enc Tryz.prog w base spare held fuel t [v]=some x)(hz:gQ t x.1):∃A len cap,v=vS A len cap∧dJ len∧∀i,i<len→∃(ad:Addr) (cs:aP),A=some ad∧cs.length=fs.size∧(∀(j:Nat) (v:Value),cs[j]?=some v→w.cell? ((ad.add (i*fs.size)).add j)=some v)∧∃n:Nat,∀(j:Nat) (f:Field),fs[j]?=some f→∃(v:Value) (y:DataW H×List MemPlace),cs[j]?=some v∧DataW.trod enc Tryz.prog w base spare held n f.type [v]=some y∧gQ f.type y.1:=by
 obtain⟨A,len,cap,rfl,hl,hx⟩:=ot ht hb hk h hz;refine⟨A,len,cap,rfl,hl,fun i hi=> ?_⟩;obtain⟨ad,cs,n,y,hA,hlen,hc,VZ,hy⟩:=hx i hi;rw[hC]at hlen hc;exact⟨ad,cs,hA,hlen,hc,(Ig hs QbA hC VZ hy).2⟩
theorem Be{fuel:Nat}{v:Value}{x:DataW H×List MemPlace}(h:DataW.trod enc Tryz.prog w base spare held fuel 43 [v]=some x)(hz:gQ 43 x.1):∃A l c,v=vS A (List.length l) c∧dJ l.length∧(∀x,x∈l→In64 x)∧(bx.rd A (ints l)).holds w:=by
 obtain⟨A,len,cap,rfl,hl,hx⟩:=ot (k:=8) Tryz.underlying43 kR oM h hz;have c3:Tryz.prog.cellsOf 3=1:=kR;have:∀i,i<len→∃k:Int,In64 k∧∃ad,A=some ad∧w.cell? (ad.add i)=some (vI k):=by
  intro i hi;obtain⟨ad,cs,n,y,hA,hlen,hc,VZ,_⟩:=hx i hi;rw[c3]at hlen hc;match cs,hlen with
  |[c0],_=>
   obtain⟨k,rfl,hk⟩:=lE Tryz.underlying3 VZ;refine⟨k,hk,ad,hA,?_⟩;have h0:=hc 0 _ rfl;rw[Nat.mul_one]at h0;simpa[Addr.add]using h0
 obtain⟨l,rfl,hp⟩:=oh this;refine⟨A,l,cap,rfl,hl,fun k hk=> ?_,fun i v hi=> ?_⟩
 ·obtain⟨i,hi⟩:=List.mem_iff_getElem?.1 hk;exact(hp i k hi).1
 ·simp only[ints,List.getElem?_map,Option.map_eq_some_iff]at hi;obtain⟨k,hk,rfl⟩:=hi;exact(hp i k hk).2
theorem L2{fuel:Nat}{v:Value}{x:DataW H×List MemPlace}(h:DataW.trod enc Tryz.prog w base spare held fuel 47 [v]=some x)(hz:gQ 47 x.1):∃A l c,v=vS A (List.length l) c∧dJ l.length∧(∀p:bZ,p∈l→p.Ok∧(bx.rd p.A (ints p.args)).holds w)∧(bx.l7 A 2 (l.map bZ.cells)).holds w:=by
 obtain⟨A,len,cap,rfl,hl,hx⟩:=kj (k:=32) Tryz.underlying47 Tryz.underlying100 kR kR kR oM h hz;have:∀i,i<len→∃b:bZ,(b.Ok∧(bx.rd b.A (ints b.args)).holds w)∧∃ad:Addr,A=some ad∧∀(j:Nat) (v:Value),b.cells[j]?=some v→w.cell? ((ad.add (i*2)).add j)=some v:=by intro i hi;obtain⟨ad,cs,hA,UX,hc,n,hf⟩:=hx i hi;obtain⟨c0,c1,rfl⟩:=Qez UX;obtain⟨_,_,e,g0,zg0⟩:=hf 0 _ rfl;cases e;obtain⟨d,rfl,hd⟩:=lE Tryz.underlying3 g0;obtain⟨_,_,e,g1,zg1⟩:=hf 1 _ rfl;cases e;obtain⟨Aa,gs,ca,rfl,h1,h2,h3⟩:=Be g1 zg1;exact⟨⟨d,Aa,ca,gs⟩,⟨⟨hd,h1,h2⟩,h3⟩,ad,hA,hc⟩
 obtain⟨l,rfl,hp⟩:=oh this;refine⟨A,l,cap,rfl,hl,fun p jD=> ?_,fun i cs hi=> ?_⟩
 ·obtain⟨i,hi⟩:=List.mem_iff_getElem?.1 jD;exact(hp i p hi).1
 ·rw[List.getElem?_map]at hi;obtain⟨b,hb,rfl⟩:=Option.map_eq_some_iff.1 hi;exact(hp i b hb).2
theorem Ih{fuel:Nat}{v:Value}{x:DataW H×List MemPlace}(h:DataW.trod enc Tryz.prog w base spare held fuel 46 [v]=some x)(hz:gQ 46 x.1):∃A l c,v=vS A (List.length l) c∧dJ l.length∧(∀p:bl,p∈l→p.Ok∧(bx.rd p.A (ints p.args)).holds w)∧(bx.l7 A 5 (l.map bl.cells)).holds w:=by
 obtain⟨A,len,cap,rfl,hl,hx⟩:=kj (k:=64) Tryz.underlying46 Tryz.underlying45 kR kR kR oM h hz;have:∀i,i<len→∃b:bl,(b.Ok∧(bx.rd b.A (ints b.args)).holds w)∧∃ad:Addr,A=some ad∧∀(j:Nat) (v:Value),b.cells[j]?=some v→w.cell? ((ad.add (i*5)).add j)=some v:=by intro i hi;obtain⟨ad,cs,hA,UX,hc,n,hf⟩:=hx i hi;obtain⟨c0,c1,c2,c3,c4,rfl⟩:=ZZ UX;obtain⟨_,_,e,g0,zg0⟩:=hf 0 _ rfl;cases e;obtain⟨o,rfl,ho⟩:=lE Tryz.underlying3 g0;obtain⟨_,_,e,g1,zg1⟩:=hf 1 _ rfl;cases e;obtain⟨d,rfl,hd⟩:=lE Tryz.underlying3 g1;obtain⟨_,_,e,g2,zg2⟩:=hf 2 _ rfl;cases e;obtain⟨m,rfl,H2⟩:=lE Tryz.underlying2 g2;obtain⟨_,_,e,g3,zg3⟩:=hf 3 _ rfl;cases e;obtain⟨s,rfl,hs⟩:=Ie Tryz.underlying9 g3 zg3;obtain⟨_,_,e,g4,zg4⟩:=hf 4 _ rfl;cases e;obtain⟨Aa,gs,ca,rfl,h1,h2,h3⟩:=Be g4 zg4;exact⟨⟨o,d,m,s,Aa,ca,gs⟩,⟨⟨ho,hd,H2,hs,h1,h2⟩,h3⟩,ad,hA,hc⟩
 obtain⟨l,rfl,hp⟩:=oh this;refine⟨A,l,cap,rfl,hl,fun p jD=> ?_,fun i cs hi=> ?_⟩
 ·obtain⟨i,hi⟩:=List.mem_iff_getElem?.1 jD;exact(hp i p hi).1
 ·rw[List.getElem?_map]at hi;obtain⟨b,hb,rfl⟩:=Option.map_eq_some_iff.1 hi;exact(hp i b hb).2
theorem Ii{fuel:Nat}{v:Value}{x:DataW H×List MemPlace}(h:DataW.trod enc Tryz.prog w base spare held fuel 28 [v]=some x)(hz:gQ 28 x.1):∃A fs c,v=vS A (aq fs).length c∧pz fs∧(bx.fn A fs).holds w:=by
 obtain⟨A,len,cap,rfl,_,hx⟩:=kj (k:=80) Tryz.underlying28 Tryz.underlying49 kR kR kR oM h hz;have:∀i,i<len→∃b:aE,(b.Ok∧∀r,r∈b.parts→r.holds w)∧∃ad:Addr,A=some ad∧∀(j:Nat) (v:Value),b.sb.cells[j]?=some v→w.cell? ((ad.add (i*6)).add j)=some v:=by
  intro i hi;obtain⟨ad,cs,hA,UX,hc,n,hf⟩:=hx i hi;obtain⟨c0,c1,c2,c3,c4,c5,rfl⟩:=QeA UX;obtain⟨_,_,e,g0,zg0⟩:=hf 0 _ rfl;cases e;obtain⟨pA,ps,pc,rfl,hp1,hp2,l8⟩:=L2 g0 zg0;obtain⟨_,_,e,g1,zg1⟩:=hf 1 _ rfl;cases e;obtain⟨iA,js,ic,rfl,hi1,hi2,hi3⟩:=Ih g1 zg1;obtain⟨_,_,e,g2,zg2⟩:=hf 2 _ rfl;cases e;obtain⟨x2,rfl,h2⟩:=lE Tryz.underlying3 g2;obtain⟨_,_,e,g3,zg3⟩:=hf 3 _ rfl;cases e;obtain⟨x3,rfl,h3⟩:=lE Tryz.underlying3 g3;obtain⟨_,_,e,g4,zg4⟩:=hf 4 _ rfl;cases e;obtain⟨x4,rfl,h4⟩:=lE Tryz.underlying3 g4;obtain⟨_,_,e,g5,zg5⟩:=hf 5 _ rfl;cases e;obtain⟨x5,rfl,h5⟩:=lE Tryz.underlying3 g5;refine⟨⟨pA,pc,ps,iA,ic,js,x2,x3,x4,x5⟩,⟨⟨hp1,fun p hp=>(hp2 p hp).1,hi1,fun p hp=>(hi2 p hp).1,h2,h3,h4,h5⟩,fun r hr=> ?_⟩,ad,hA,hc⟩;unfold aE.parts at hr;rcases List.mem_cons.1 hr with rfl|hr
  ·exact l8
  ·rcases List.mem_cons.1 hr with rfl|hr
   ·exact hi3
   ·rcases List.mem_append.1 hr with hr|hr
    ·obtain⟨p,hp,rfl⟩:=List.mem_map.1 hr;exact(hp2 p hp).2
    ·obtain⟨p,hp,rfl⟩:=List.mem_map.1 hr;exact(hi2 p hp).2
 obtain⟨fs,rfl,P4⟩:=oh this;refine⟨A,fs,cap,by rw[bK],fun x hx=> ?_,fun r hr=> ?_⟩
 ·obtain⟨i,hi⟩:=List.mem_iff_getElem?.1 hx;exact(P4 i x hi).1.1
 ·rcases List.mem_cons.1 hr with rfl|hr
  ·intro i cs hi;unfold aq at hi;rw[List.getElem?_map,List.getElem?_map]at hi;obtain⟨b,hb,rfl⟩:=Option.map_eq_some_iff.1 hi;obtain⟨y,hy,rfl⟩:=Option.map_eq_some_iff.1 hb;exact(P4 i y hy).2
  ·obtain⟨y,hy,hr⟩:=List.mem_flatMap.1 hr;obtain⟨i,hi⟩:=List.mem_iff_getElem?.1 hy;exact(P4 i y hi).1.2 r hr
end
end Go.Proofs.YtejbeeaomokjpaaGreat
namespace Go.Mor
open Go.RowKit
theorem nq(zs:aP)(n:Nat)(hz:0<zs.length):(madeCells zs.toArray (n*zs.length)).toList=(List.replicate n zs).flatten:=by
 have hlen:((List.replicate n zs).flatten).length=n*zs.length:=sI;apply List.ext_getElem?;intro j;by_cases hj:j<n*zs.length
 ·have h1:j % zs.length<zs.length:=Nat.mod_lt _ hz;have e1:(madeCells zs.toArray (n*zs.length)).toList[j]?=some zs[j % zs.length]:=by simp[madeCells,hj,h1]
  rw[e1];clear e1;have h2:j / zs.length<n:=Nat.div_lt_of_lt_mul (by rwa [Nat.mul_comm]at hj);have key:∀n q,q<n→∀r (hr:r<zs.length),((List.replicate n zs).flatten)[q*zs.length+r]?=some zs[r]:=by
   intro n;induction n with
   |zero=>intro q hq;omega
   |succ n ih=>
    intro q hq r hr;rw[List.replicate_succ,List.flatten_cons];cases q with
    |zero=>
     rw[Fc,Nat.zero_add,List.getElem?_append_left hr];simp[hr]
    |succ q=>
     rw[List.getElem?_append_right (by rw[Nat.succ_mul];omega),show(q+1)*zs.length+r-zs.length=q*zs.length+r by rw[Nat.succ_mul];omega];exact ih q oM r hr
  have:=key n (j / zs.length) h2 (j % zs.length) h1;rw[Nat.div_add_mod' j zs.length]at this;exact this.symm
 ·have e1:((List.replicate n zs).flatten)[j]?=none:=List.getElem?_eq_none (by rw[hlen];omega);rw[e1];apply List.getElem?_eq_none;simp[madeCells];omega
section
variable {P : Program} {c : Code} {K : Act → World → Prop} {Q : Exit → Act → World → Prop} {a : Act} {w w0 : World} {S : Nat → Prop} {L : List bx} {k k' : Nat} {N : FN} {env : Env}
variable {d : Option Nat} {ty : Nat} {g : Option (Nat × Bool)}
theorem x9{t:TypeId}{x y:Operand}(hk:ax c k=some (d,.makeSlice t x y,ty,g))(hF:Fr a N env)(hg:bD c g env=some true)(hd:gp d N=true)(iO:k+1=k'){e bytes size:Nat}{zs:aP}{n:Nat}{i:Int}(hx:ev env x=some (vI i))(hy:ev env y=some (vI i))(hn:i=(n:Int))(ht:P.underlying t=some (.slice e))(hi:(P.info? e).map (fun i=>(i.size,i.bytes,i.zero))=some (size,bytes,some (.agg zs.toArray)))(hs:size=zs.length)(hz:0<zs.length)(hb:bytes*n≤140737488355328)(hl:n≤maxLen)(hM:Mem S w0 w L)(h:∀b w',w0.heap.size≤b→w.heap.size≤b→Mem S w0 w' (L++[.row e size (some (aZ b)) n n (List.replicate n zs).flatten])→Mem bq w w' [.row e size (some (aZ b)) n n (List.replicate n zs).flatten]→∀a',a'=a.put d (vS (some (aZ b)) n n)→Fr a' N (dq env d (vS (some (aZ b)) n n))→bz P c K Q k' a' w'):bz P c K Q k a w:=by
 subst iO;subst hn;cases l6:P.info? e with
 |none=>simp[l6]at hi
 |some inf=>
  simp only[l6,Option.map_some,Option.some.injEq,Prod.mk.injEq]at hi;obtain⟨PN,hby,E0⟩:=hi;subst hby;obtain⟨w',hr,Ac,LR⟩:=run_make_full (P:=P) w 0 t e inf (.agg zs.toArray) size ht l6 E0 PN .i64 .i64 n oM hl (Nat.zero_le _);have hc:(madeCells (Value.agg zs.toArray).cells (n*size)).toList=(List.replicate n zs).flatten:=by rw[hs];exact nq zs n hz
  rw[hc]at Ac;have hm:Mem bq w w' [.row e size (some (aZ w.heap.size)) n n (List.replicate n zs).flatten]:=by refine⟨LR.os,LR.tape,LR.output,LR.size,fun k hk _=>LR.block k hk sI,?_,List.pairwise_singleton _ _⟩;simp only[List.mem_singleton];rintro _ rfl;refine⟨Ac,?_⟩;rintro g' ⟨a',nW,rfl⟩;injection nW with nW;subst nW;exact .inr (Nat.le_refl _)
  refine ib hk hF hg (v:=vS (some (aZ w.heap.size)) n n) (w':=w') (fun o ho _=> ?_) (h w.heap.size w' hM.size (Nat.le_refl _) (hM.call hm) hm _ rfl (hF.put hd _));unfold execOp;rw[ho];simp only[hF.ev hx,hF.ev hy,Sem.run_bind,hr,Result.andThen_ok];rfl
theorem lF(a:Addr)(i j:Nat):(a.add i).add j=a.add (i+j):=by
 unfold Addr.add;by_cases hi:i=0<;>by_cases hj:j=0<;>simp[hi,hj,Nat.add_assoc]
def setAt:aP→Nat→aP→aP
 |xs,_,[]=>xs
 |xs,j,v::vs=>setAt (xs.set j v) (j+1) vs
theorem o1{e size n cap:Nat}{ad ad':Addr}:∀(vs:aP) (i j:Nat) {xs:aP} {w:World},(∀v∈vs,v.oneCell'=true)→(bx.row e size (some ad) n cap xs).holds w→ad'.add i=ad.add j→ad'.add 0=ad'→(∀q,ad'.add (i+q)=ad.add (j+q))→j+vs.length≤n*size→∃w',(storeCells ad' vs i).run P w= .ok () w'∧Mem (bx.row e size (some ad) n cap xs).fp w w' [.row e size (some ad) n cap (setAt xs j vs)]
 |[],i,j,xs,w,_,hb,_,_,_,_=>⟨w,by simp[storeCells],by simpa[setAt]using Mem.oY hb⟩
 |v::vs,i,j,xs,w,h1,hb,he,h0,hq,hl=>by
  simp only[List.length_cons]at hl;have hm:=Mem.CX (j:=j) hb v;have AX:=hm.get 0 rfl;obtain⟨w',hr,Px⟩:=o1 vs (i+1) (j+1) (fun u hu=>h1 u (List.mem_cons_of_mem _ hu)) AX (hq 1) h0 (fun q=>by have:=hq (1+q);rwa [←Nat.add_assoc,←Nat.add_assoc]at this) oM;refine⟨w',?_,?_⟩
  ·have Z0:xs.length=n*size:=hb.1;obtain⟨u,hu⟩:∃u,xs[j]?=some u:=⟨_,List.getElem?_eq_getElem oM⟩;obtain⟨a0,OS,o0⟩:=aD hb j u hu;injection OS with OS;subst OS;have rZ:(store (ad.add j) v).run P w= .ok () (w.setCell (ad.add j) v):=by rw[run_store P w _ v .plain (h1 v (List.mem_cons_self ..)),o0];simp[oe hb]
   simp only[storeCells,Sem.run_bind,he,rZ,Result.andThen_ok,hr]
  ·have:=hm.mod 0 rfl Px;simpa[setAt]using this
theorem gE{t:TypeId}{x y:Operand}(hk:ax c k=some (d,.store t x y,ty,g))(hF:Fr a N env)(hg:bD c g env=some true)(hd:gp d N=true)(iO:k+1=k'){ad ad':Addr}{j e size n cap:Nat}{vs xs:aP}(hx:ev env x=some (vP ad'))(Vv:ad'=ad.add j)(hy:ev env y=some (.agg vs.toArray))(ht:uJ P t=some vs.length)(hv:∀v∈vs,v.oneCell'=true)(hM:Mem S w0 w L)(i:Nat)(hi:L[i]?=some (.row e size (some ad) n cap xs))(hj:j+vs.length≤n*size)(h:∀w',Mem S w0 w' (L.set i (.row e size (some ad) n cap (setAt xs j vs)))→Mem (bx.row e size (some ad) n cap xs).fp w w' [.row e size (some ad) n cap (setAt xs j vs)]→∀a',a'=a.put d undef→Fr a' N (dq env d undef)→bz P c K Q k' a' w'):bz P c K Q k a w:=by
 subst iO;subst Vv;have hb:=hM.get i hi;obtain⟨w',hr,hm⟩:=o1 (P:=P) (ad':=ad.add j) vs 0 j hv hb (by rw[lF];rfl) (by rw[lF];rfl) (fun q=>by rw[lF,Nat.zero_add]) hj;refine ni hk hF hg (w':=w') (fun o Vu=> ?_) (h _ (by simpa using hM.mod i hi hm) hm _ rfl (hF.put hd _));unfold execOp;rw[Vu];simp[Instr.storeAt,Instr.sureAddr,hF.ev hx,hF.ev hy,storeVar,(lg ht w).2,Value.cells,hr]
end
end Go.Mor
namespace Go.Mor
open Go.RowKit
theorem bT{P:Program}{c:Code}{K:Act→World→Prop}{Q:Exit→Act→World→Prop}{a:Act}{w:World}{k:Nat}{N:FN}{env:Env}(d:Option Nat)(A:ar)(ad:Addr)(n size:Nat)(i:Int)(hF:Fr a N env)(hk:VW P c N env k=some (d,A,n,size,i))(hA:A=some ad)(h0:0≤i)(h1:i<n)(h:∀a',Fr a' N (dq env d (vP (ad.add (i.toNat*size))))→bz P c K Q (k+1) a' w):bz P c K Q k a w:=mj d ad n size i hF (by rw[hk,hA]) h0 h1 h
end Go.Mor
namespace Go.Mor
open Go.RowKit
def lG:List (Bool×bx)→List bx
 |[]=>[]
 |(b,r)::l=>cond b [r] []++lG l
theorem ya:∀(l:List (Bool×bx)) (i:Nat) {r r':bx},l[i]?=some (false,r')→(lG l++[r]).Perm (lG (l.set i (true,r)))
 |[],i,r,r',h=>by simp at h
 |(b,q)::l,0,r,r',h=>by simp at h;obtain⟨rfl,rfl⟩:=h;show((cond false [q] []++lG l)++[r]).Perm (cond true [r] []++lG l);simp only[cond_false,List.nil_append,cond_true];exact List.perm_append_comm
 |(b,q)::l,i+1,r,r',h=>by have:=ya l i (r:=r) (r':=r') (by simpa using h);show((cond b [q] []++lG l)++[r]).Perm (cond b [q] []++lG (l.set i (true,r)));rw[List.append_assoc];exact this.append_left _
theorem Mem.group{S:Nat→Prop}{w0 w:World}{L:List bx}{l:List (Bool×bx)}{r r':bx}(h:Mem S w0 w ((L++lG l)++[r]))(i:Nat)(hi:l[i]?=some (false,r')):Mem S w0 w (L++lG (l.set i (true,r))):=by
 refine h.perm ?_;rw[List.append_assoc];exact(ya l i hi).append_left _
end Go.Mor
namespace Go.Mor
open Go.RowKit
section
variable {P : Program} {c : Code} {K : Act → World → Prop} {Q : Exit → Act → World → Prop} {a : Act} {w w0 : World} {S : Nat → Prop} {L : List bx} {k k' : Nat} {N : FN} {env : Env}
variable {d : Option Nat} {ty : Nat} {g : Option (Nat × Bool)}
theorem mm{t:TypeId}(hk:ax c k=some (d,.buildSlice t 0 #[],ty,g))(hF:Fr a N env)(hg:bD c g env=some true)(hd:gp d N=true)(iO:k+1=k'){e size:Nat}(ht:P.underlying t=some (.slice e))(hi:(P.info? e).map (fun i=>i.size)=some size)(hM:Mem S w0 w L)(h:∀b w',w0.heap.size≤b→w.heap.size≤b→Mem S w0 w' (L++[.row e size (some (aZ b)) 0 0 []])→Mem bq w w' [.row e size (some (aZ b)) 0 0 []]→∀a',a'=a.put d (vS (some (aZ b)) 0 0)→Fr a' N (dq env d (vS (some (aZ b)) 0 0))→bz P c K Q k' a' w'):bz P c K Q k a w:=by
 subst iO;have kt:(bx.row e size (some (aZ w.heap.size)) 0 0 []).holds (w.alloc (.cells #[] e)):=by have:=World.ownsRow_lit (base:=0) (e:=e) (size:=size) w #[] 0 (Nat.zero_le _) (by simp only[maxLen];omega) sI;show World.ownsRow _ _ _ _ _ _ _;simpa using this
 have hm:Mem bq w (w.alloc (.cells #[] e)) [.row e size (some (aZ w.heap.size)) 0 0 []]:=by refine(Mem.alloc w e []).say 0 rfl (fun _=>kt) ?_;rintro g' ⟨a',nW,rfl⟩;injection nW with nW;subst nW;rfl
 refine ib hk hF hg (v:=vS (some (aZ w.heap.size)) 0 0) (w':=w.alloc (.cells #[] e)) (fun o ho _=> ?_) (h w.heap.size (w.alloc (.cells #[] e)) hM.size (Nat.le_refl _) (hM.call hm) hm _ rfl (hF.put hd _));unfold execOp;rw[ho];cases l6:P.info? e with
 |none=>simp[l6]at hi
 |some inf=>
  have Vw:(sizeOf e).run P w= .ok inf.size w:=by simp[sizeOf,typeInfo,l6]
  simp only[List.map_toArray,List.map_nil,Instr.buildSlice,Sem.run_bind,run_underlying ht,Vw,Result.andThen_ok,Fc,Nat.reducePow,gt_iff_lt,Nat.not_lt_zero,if_false,if_true,Sem.run_pure,show Array.range 0=#[]from rfl,Array.toList_empty,Instr.fill,newRow,run_newObj];rfl
end
end Go.Mor
namespace Go.Mor
open Go.RowKit
def V0(P:Program)(c:Code)(N:FN)(n k:Nat)(env:Env):Env:=match eK P c N n k env with
 |some e=>e
 |none=>[]
def isS{α:Type}:Option α→Bool
 |some _=>true
 |none=>false
def Z1:Env→List Nat
 |[]=>[]
 |(k,_)::r=>k::Z1 r
def yb(c:Code)(env:Env):Option Value:=match kind c with
 | .cond (.tmp t)=>look env t
 |_=>none
def szE(c:Code):Nat:=(opsOf c).size
def srE(c:Code):Bool:=match kind c,kind (Code.l c)with| .seq,.region false=>true|_,_=>false
def cmE(c:Code)(N:FN)(env:Env)(k:Nat):Option Bool:=match ax c k with
 |some (d,.binOp op _ x y _,_,g)=>match bD c g env,gp d N,ev env x,ev env y with
  |some true,true,some (.int kd i),some (.int kd' j)=>match decide (kd=kd')with
   |true=>Pu op i j
   |false=>none
  |_,_,_,_=>none
 |_=>none
def stE(P:Program)(c:Code)(N:FN)(env:Env)(k:Nat):Option (Option Nat×Addr×Value):=match ax c k with
 |some (d,.store t x y,_,g)=>match bD c g env,gp d N,xL P t,ev env x,ev env y with
  |some true,true,true,some (.pointer (some ad)),some v=>match v.oneCell' with
   |true=>some (d,ad,v)
   |false=>none
  |_,_,_,_,_=>none
 |_=>none
def rsE(fn:Func)(env:Env):Option Value:=match fn.results.toList with
 |[.tmp t]=>look env t
 |_=>none
def QeB(fn:Func)(env:Env):Option (Value×Value):=match fn.results.toList with
 |[.tmp t,.tmp u]=>match look env t,look env u with
  |some v,some v'=>some (v,v')
  |_,_=>none
 |_=>none
section
variable {P : Program} {c : Code} {K : Act → World → Prop} {Q : Exit → Act → World → Prop} {w w0 : World} {S : Nat → Prop} {L : List bx} {k : Nat} {N : FN} {env : Env}
theorem ah(n:Nat)(h:∀a,Fr a N (V0 P c N n k env)→bz P c K Q (k+n) a w)(hp:isS (eK P c N n k env)=true:=by kernel_rfl):∀a,Fr a N env→bz P c K Q k a w:=by
 intro a hF;unfold V0 at h;cases hr:eK P c N n k env with
 |none=>rw[hr]at hp;cases hp
 |some e=>
  rw[hr]at h;exact tj n k hF hr h
theorem bX(CU:Env){G:Act→Prop}(h:∀a,Fr a N CU→G a)(hk:mh (Z1 CU) env=CU:=by kernel_rfl):∀a,Fr a N env→G a:=fun a hF=>h a (hF.keep hk)
theorem ay(h:∀a,Fr a N env→K a w)(hk:ax c k=none:=by kernel_rfl):∀a,Fr a N env→bz P c K Q k a w:=fun a hF=>aL hk (h a hF)
theorem ba(h:∀a,Fr a N env→W P (Code.l c) (fun a w=>W P (Code.r c) K Q a w) Q a w)(hk:kind c= .seq:=by kernel_rfl):∀a,Fr a N env→W P c K Q a w:=fun a hF=>ZS hk (h a hF)
theorem cG(h:∀a,Fr a N env→bz P c K Q 0 a w)(hk:kind c= .region false:=by kernel_rfl):∀a,Fr a N env→W P c K Q a w:=fun a hF=>EX hk (h a hF)
theorem aI(h:∀a,Fr a N env→bz P (Code.l c) (fun a w=>W P (Code.r c) K Q a w) Q 0 a w)(hk:srE c=true:=by kernel_rfl):∀a,Fr a N env→W P c K Q a w:=fun a hF=>QhU hk (h a hF)
theorem aX(h:∀a,Fr a N (V0 P (Code.l c) N (szE (Code.l c)) 0 env)→W P (Code.r c) K Q a w)(hk:srE c=true:=by kernel_rfl)(hp:isS (eK P (Code.l c) N (szE (Code.l c)) 0 env)=true:=by kernel_rfl):∀a,Fr a N env→W P c K Q a w:=by
 refine aI (ah _ (fun a hF=>aL ?_ (h a hF)) hp) hk;simp[ax,szE]
theorem xh(h:∀a,Fr a N (V0 P c N (szE c) 0 env)→K a w)(hk:kind c= .region false:=by kernel_rfl)(hp:isS (eK P c N (szE c) 0 env)=true:=by kernel_rfl):∀a,Fr a N env→W P c K Q a w:=by
 refine cG (ah _ (fun a hF=>aL ?_ (h a hF)) hp) hk;simp[ax,szE]
theorem bP(h:∀a,Fr a N env→K a w)(hk:kind c= .skip:=by kernel_rfl):∀a,Fr a N env→W P c K Q a w:=fun a hF=>Qbl hk (h a hF)
theorem bL(h:∀a,Fr a N env→Q .ret a w)(hk:kind c= .ret:=by kernel_rfl):∀a,Fr a N env→W P c K Q a w:=fun a hF=>Qeq hk (h a hF)
theorem eW(id:Nat)(h:∀a,Fr a N env→Q (.exit id) a w)(hk:kind c= .exit id:=by kernel_rfl):∀a,Fr a N env→W P c K Q a w:=fun a hF=>Qbm hk (h a hF)
theorem cr(id:Nat)(h:∀a,Fr a N env→W P (Code.l c) K (inB id K Q) a w)(hk:kind c= .block id:=by kernel_rfl):∀a,Fr a N env→W P c K Q a w:=fun a hF=>Vp hk (h a hF)
theorem cJ{id:Nat}(h:∀a,Fr a N env→Q .ret a w):∀a,Fr a N env→inB id K Q .ret a w:=h
theorem eX{id Pt:Nat}(h:∀a,Fr a N env→K a w)(e:Nat.beq Pt id=true:=by rfl):∀a,Fr a N env→inB id K Q (.exit Pt) a w:=fun a hF=>Vx e (h a hF)
theorem uN{v:Value}(h:yb c env=some v):∃t,kind c= .cond (.tmp t)∧look env t=some v:=by
 unfold yb at h;split at h
 ·rename_i t ht;exact⟨t,ht,h⟩
 ·cases h
theorem fm(h:∀a,Fr a N env→W P (Code.l c) K Q a w)(hk:yb c env=some (vB true):=by kernel_rfl):∀a,Fr a N env→W P c K Q a w:=fun a hF=>by
 obtain⟨t,h1,h2⟩:=uN hk;exact HW h1 hF h2 (fun _=>h a hF) (fun h=>Bool.noConfusion h)
theorem fT(h:∀a,Fr a N env→W P (Code.r c) K Q a w)(hk:yb c env=some (vB false):=by kernel_rfl):∀a,Fr a N env→W P c K Q a w:=fun a hF=>by
 obtain⟨t,h1,h2⟩:=uN hk;exact HW h1 hF h2 (fun h=>Bool.noConfusion h) (fun _=>h a hF)
theorem dX(e:Bool)(R:Prop)(i:e=true↔R)(ht:R→∀a,Fr a N env→W P (Code.l c) K Q a w)(hf:¬R→∀a,Fr a N env→W P (Code.r c) K Q a w)(hk:yb c env=some (vB e):=by kernel_rfl):∀a,Fr a N env→W P c K Q a w:=fun a hF=>by
 obtain⟨t,h1,h2⟩:=uN hk;exact VY h1 hF h2 i (fun r=>ht r a hF) (fun r=>hf r a hF)
theorem fE(R:Prop)[Decidable R](ht:R→∀a,Fr a N env→W P (Code.l c) K Q a w)(hf:¬R→∀a,Fr a N env→W P (Code.r c) K Q a w)(hk:yb c env=some (vB (decide R)):=by kernel_rfl):∀a,Fr a N env→W P c K Q a w:=dX (decide R) R decide_eq_true_iff ht hf hk
theorem bt(ad:Addr)(v:Value)(hc:w.cell? ad=some v)(h:∀a,Fr a N (dq env (bp c k) v)→bz P c K Q (k+1) a w)(hk:VV P c N env k=some (bp c k,ad):=by kernel_rfl):∀a,Fr a N env→bz P c K Q k a w:=fun _ hF=>br _ ad hF hk v hc h
theorem ga(ad:Addr)(vs:aP)(hc:∀j v,vs[j]?=some v→w.cell? (ad.add j)=some v)(h:∀a,Fr a N (dq env (bp c k) (.agg vs.toArray))→bz P c K Q (k+1) a w)(hk:lsE P c N env k=some (bp c k,ad,some vs.length):=by kernel_rfl):∀a,Fr a N env→bz P c K Q k a w:=fun _ hF=>VX _ ad vs hF hk hc h
theorem ej(ad:Addr)(n size:Nat)(i:Int)(h:∀a,Fr a N (dq env (bp c k) (vP (ad.add (i.toNat*size))))→bz P c K Q (k+1) a w)(h0:0≤i:=by omega)(h1:i<n:=by omega)(hk:VW P c N env k=some (bp c k,some ad,n,size,i):=by kernel_rfl):∀a,Fr a N env→bz P c K Q k a w:=fun _ hF=>mj _ ad n size i hF hk h0 h1 h
theorem cZ(z:Int)(h:∀a,Fr a N (dq env (bp c k) (vI z))→bz P c K Q (k+1) a w)(h1: -9223372036854775808≤z:=by omega)(h2:z≤9223372036854775807:=by omega)(hk:arE c N env k=some (bp c k,z):=by kernel_rfl):∀a,Fr a N env→bz P c K Q k a w:=fun _ hF=>oo _ z hF hk rfl h1 h2 h
theorem Kk{b:Bool}(h:cmE c N env k=some b):∃d op t x y t' ty g kd i j,ax c k=some (d,.binOp op t x y t',ty,g)∧bD c g env=some true∧gp d N=true∧ev env x=some (.int kd i)∧ev env y=some (.int kd j)∧Pu op i j=some b:=by
 unfold cmE at h;split at h
 ·rename_i h0;split at h
  ·rename_i h1 h2 h3 h4;split at h
   ·rename_i h5;have:=of_decide_eq_true h5;subst this;exact⟨_,_,_,_,_,_,_,_,_,_,_,h0,h1,h2,h3,h4,h⟩
   ·cases h
  ·cases h
 ·cases h
theorem jP(b:Bool)(h:∀B,B=b→∀a,Fr a N (dq env (bp c k) (vB B))→bz P c K Q (k+1) a w)(hk:cmE c N env k=some b:=by kernel_rfl):∀a,Fr a N env→bz P c K Q k a w:=fun a hF=>by
 obtain⟨d,op,t,x,y,t',ty,g,kd,i,j,h0,h1,h2,h3,h4,h5⟩:=Kk hk;have hd:bp c k=d:=by unfold ax at h0;unfold bp;cases ho:(opsOf c)[k]?<;>rw[ho]at h0<;>simp at h0⊢;exact h0.1
 rw[hd]at h;exact EZ h0 hF h1 h2 rfl h3 h4 h5 (fun B hB a' _=>h B hB a')
theorem di{f:FuncId}{vs:Array Value}{Φ:Value→World→Prop}(hc:Calls P f vs w (ez Φ))(h:∀v w',Φ v w'→∀a,Fr a N (dq env (bp c k) v)→bz P c K Q (k+1) a w')(hk:clE P c N env k=some (bp c k,f,vs):=by kernel_rfl):∀a,Fr a N env→bz P c K Q k a w:=fun _ hF=>oq _ f vs.toList hF hk hc h
theorem Kl{d:Option Nat}{ad:Addr}{v:Value}(h:stE P c N env k=some (d,ad,v)):∃t x y ty g,ax c k=some (d,.store t x y,ty,g)∧bD c g env=some true∧gp d N=true∧xL P t=true∧ev env x=some (vP ad)∧ev env y=some v∧v.oneCell'=true:=by
 unfold stE at h;split at h
 ·rename_i h0;split at h
  ·rename_i h1 h2 h3 h4 h5;split at h
   ·rename_i h6;simp only[Option.some.injEq,Prod.mk.injEq]at h;obtain⟨rfl,rfl,rfl⟩:=h;exact⟨_,_,_,_,_,h0,h1,h2,h3,h4,h5,h6⟩
   ·cases h
  ·cases h
 ·cases h
theorem pC(hM:Mem S w0 w L)(i:Nat)(off:Nat)(v:Value){b t0:Nat}{cs:aP}(hi:L[i]?=some (.aB b t0 cs))(h:∀w',Mem S w0 w' (L.set i (.aB b t0 (cs.set off v)))→∀a,Fr a N (dq env (bp c k) undef)→bz P c K Q (k+1) a w')(ho:off<cs.length:=by decide)(hk:stE P c N env k=some (bp c k,(ao b off),v):=by kernel_rfl):∀a,Fr a N env→bz P c K Q k a w:=fun a hF=>by
 obtain⟨t,x,y,ty,g,h0,h1,h2,h3,h4,h5,h6⟩:=Kl hk;exact fw h0 hF h1 h2 rfl h4 h5 h3 h6 hM i hi ho (fun w' P5 _ a' _=>h w' P5 a')
theorem yc(hM:Mem S w0 w L)(i:Nat)(ad':Addr)(j:Nat)(v:Value){e size n cap:Nat}{ad:Addr}{xs:aP}(hi:L[i]?=some (.row e size (some ad) n cap xs))(Vv:ad'=ad.add j)(hj:j<n*size)(h:∀w',Mem S w0 w' (L.set i (.row e size (some ad) n cap (xs.set j v)))→∀a,Fr a N (dq env (bp c k) undef)→bz P c K Q (k+1) a w')(hk:stE P c N env k=some (bp c k,ad',v):=by kernel_rfl):∀a,Fr a N env→bz P c K Q k a w:=fun a hF=>by
 obtain⟨t,x,y,ty,g,h0,h1,h2,h3,h4,h5,h6⟩:=Kl hk;exact ew h0 hF h1 h2 rfl h4 Vv h5 h3 h6 hM i hi hj (fun w' P5 _ a' _=>h w' P5 a')
end
section
variable {P : Program} {w : World} {N : FN} {env : Env} {fn : Func} {Φ : Value → World → Prop}
theorem cv(v:Value)(h:Φ v w)(hk:rsE fn env=some v:=by kernel_rfl)(hD:N.D=[]:=by rfl):∀a,Fr a N env→bodyPost P fn (ez Φ) .ret a w:=fun a hF=>by
 unfold rsE at hk;split at hk
 ·rename_i t ht;exact QhP hF (by apply Array.ext';simpa using ht) hk ⟨v,rfl,h⟩ hD
 ·cases hk
theorem iv(v v':Value)(h:Φ (.tuple #[v,v']) w)(hk:QeB fn env=some (v,v'):=by kernel_rfl)(hD:N.D=[]:=by rfl):∀a,Fr a N env→bodyPost P fn (ez Φ) .ret a w:=fun a hF=>by
 unfold QeB at hk;split at hk
 ·rename_i t u ht;split at hk
  ·rename_i h1 h2;simp only[Option.some.injEq,Prod.mk.injEq]at hk;obtain⟨rfl,rfl⟩:=hk;exact QhQ hF (by apply Array.ext';simpa using ht) h1 h2 ⟨_,rfl,h⟩ hD
  ·cases hk
 ·cases hk
theorem UY(h:Φ (.tuple #[]) w)(hk:fn.results=#[]:=by rfl)(hD:N.D=[]:=by rfl):∀a,Fr a N env→bodyPost P fn (ez Φ) .normal a w:=fun _ hF=>QhR hF hk ⟨_,rfl,h⟩ hD
theorem fv{f:FuncId}(N:FN)(vs:aP)(hf:P.funcs[f]?=some fn)(h:∀a,Fr a N (LS 0 vs)→W P (CZ fn) (bodyPost P fn (ez Φ) .normal) (bodyPost P fn (ez Φ)) a w)(hb:fn.body.isSome=true:=by kernel_rfl)(hn:Nat.beq fn.ntmps N.n=true:=by kernel_rfl)(hl:Nat.ble vs.length N.n=true:=by kernel_rfl)(hD:N.D=[]:=by rfl):Calls P f vs.toArray w (ez Φ):=enter hf hb hn hl h hD
end
def Z2:Spec→Option Value
 | .aU u=>some u
 |_=>none
def p1E(P:Program)(c:Code)(N:FN)(i:Nat)(env:Env):Option Value:=match ax c i with
 |some (d,op,_,g)=>match bD c g env,gp d N with
  |some true,true=>pS P env op
  |_,_=>none
 |none=>none
def kx(c:Code)(i:Nat)(env:Env):Option Bool:=match ax c i with
 |some (_,_,_,g)=>bD c g env
 |none=>none
theorem C6{c:Code}{i:Nat}{env:Env}{b:Bool}(h:kx c i env=some b):∀g,(ax c i).map (·.2.2.2)=some g→bD c g env=some b:=by
 intro g hg;unfold kx at h;split at h
 ·rename_i h0;rw[h0]at hg;simp only[Option.map_some,Option.some.injEq]at hg;subst hg;exact h
 ·cases h
theorem rF{E F:Env}{t:Nat}{v:Value}(h:look E t=some v):look (E++F) t=some v:=by
 induction E with
 |nil=>cases h
 |cons x r ih=>
  obtain⟨k,u⟩:=x;simp only[List.cons_append,look]at h⊢;cases hq:Nat.beq k t with
  |true=>rw[hq]at h;exact h
  |false=>rw[hq]at h;exact ih h
section
variable {P : Program} {c : Code} {Q : Exit → Act → World → Prop} {N : FN} {i : Nat} {env0 : Env} {wr : World} {sp : Nat → Spec}
theorem Fr.left{a:Act}{E F:Env}(h:Fr a N (E++F)):Fr a N E:=⟨h.defers,h.size,fun t v hv=>h.slot t v (rF hv)⟩
theorem sg{g:Option (Nat×Bool)}{E F:Env}{b:Bool}(h:bD c g E=some b):bD c g (E++F)=some b:=by
 unfold bD at h⊢;cases g with
 |none=>exact h
 |some p=>
  obtain⟨j,want⟩:=p;simp only at h⊢;cases hd:((opsOf c)[j]?).bind (·.dst)with
  |none=>rw[hd]at h;cases h
  |some d=>
   rw[hd]at h;simp only at h⊢;cases hl:look E d with
   |none=>rw[hl]at h;cases h
   |some v=>
    rw[hl]at h;rw[rF hl];exact h
theorem rG(hg:∀vs,kx c i (bW c i sp vs env0)=some true)(h:∀(w:World) (vs:Nat→Value),Kp wr w→(∀j,j∈cY c i→(sp j).ok (vs j) w)→∀a,Fr a N (bW c i sp vs env0)→bz P (one c i) (fun a' w'=>∃v,a'=a.put (bp c i) v∧Kp w w'∧(sp i).ok v w') Q 0 a w):jc P c Q N env0 wr sp i:=by
 intro a w vs rest hK hp hF;exact⟨true,fun g nU=>sg (C6 (hg vs) g nU),fun _=>h w vs hK hp a hF.left,fun h=>Bool.noConfusion h⟩
theorem Ij{o:Option Nat×Op×Nat×Option (Nat×Bool)}(h:ax c i=some o):ax (one c i) 0=some (o.1,o.2.1,o.2.2.1,none)∧bp c i=o.1:=by
 unfold ax at h;cases ho:(opsOf c)[i]? with
 |none=>rw[ho]at h;cases h
 |some q=>
  rw[ho]at h;simp only[Option.map_some,Option.some.injEq]at h;subst h;constructor
  ·unfold ax;rw[tq ho];rfl
  ·simp[bp,ho]
theorem Km{k:Nat}{o:Option Nat×Op×Nat×Option (Nat×Bool)}(h:ax c i=some o):ax (one c i) (k+1)=none:=by
 unfold ax at h⊢;cases ho:(opsOf c)[i]? with
 |none=>rw[ho]at h;cases h
 |some q=>
  rw[tq ho];simp
theorem dP(h:∀vs,p1E P c N i (bW c i sp vs env0)=Z2 (sp i):=by intro _;kernel_rfl)(h2:isS (Z2 (sp i))=true:=by kernel_rfl):jc P c Q N env0 wr sp i:=by
 have key:∀vs,∃d op ty g v,ax c i=some (d,op,ty,g)∧bD c g (bW c i sp vs env0)=some true∧gp d N=true∧pS P (bW c i sp vs env0) op=some v∧sp i= .aU v:=by
  intro vs;have h3:=h vs;cases hs:sp i with
  |any Φ hh=>rw[hs]at h2;cases h2
  |aU u=>
   rw[hs]at h3;unfold p1E Z2 at h3;simp only at h3;split at h3
   ·rename_i h4;split at h3
    ·rename_i h5 h6;exact⟨_,_,_,_,u,h4,h5,h6,h3,rfl⟩
    ·cases h3
   ·cases h3
 refine rG (fun vs=> ?_) (fun w vs hK hp a hF=> ?_)
 ·obtain⟨d,op,ty,g,v,h1,h2,_⟩:=key vs;unfold kx;rw[h1];exact h2
 ·obtain⟨d,op,ty,g,v,h1,h2,h3,h4,h5⟩:=key vs;obtain⟨e1,e2⟩:=Ij h1;refine fg e1 hF rfl h3 rfl h4 (fun a' ea _=>aL (Km h1) ⟨v,?_,Kp.refl w,?_⟩)
  ·rw[e2];exact ea
  ·rw[h5];rfl
theorem Kn{k:Nat}{c:Code}{env:Env}{d:Option Nat}{ad:Addr}(hk:VV P c N env k=some (d,ad)):∃t x ty g,ax c k=some (d,.load t x,ty,g)∧bD c g env=some true∧gp d N=true∧xL P t=true∧ev env x=some (vP ad):=by
 unfold VV at hk;split at hk
 ·rename_i h0;split at hk
  ·rename_i h1 h2 h3 h4;simp only[Option.some.injEq,Prod.mk.injEq]at hk;obtain⟨rfl,rfl⟩:=hk;exact⟨_,_,_,_,h0,h1,h2,h3,h4⟩
  ·cases hk
 ·cases hk
theorem V1{k:Nat}{c:Code}{env:Env}{d:Option Nat}{ad:Addr}{n:Nat}(hk:lsE P c N env k=some (d,ad,some n)):∃t x ty g,ax c k=some (d,.load t x,ty,g)∧bD c g env=some true∧gp d N=true∧uJ P t=some n∧ev env x=some (vP ad):=by
 unfold lsE at hk;split at hk
 ·rename_i h0;split at hk
  ·rename_i h1 h2 h4;simp only[Option.some.injEq,Prod.mk.injEq]at hk;obtain⟨rfl,rfl,h3⟩:=hk;exact⟨_,_,_,_,h0,h1,h2,h3,h4⟩
  ·cases hk
 ·cases hk
theorem Ko{k:Nat}{c:Code}{env:Env}{d:Option Nat}{A:ar}{n size:Nat}{j:Int}(hk:VW P c N env k=some (d,A,n,size,j)):∃t x y ty g cap e kd,ax c k=some (d,.indexAddr t x y,ty,g)∧bD c g env=some true∧gp d N=true∧ev env x=some (vS A n cap)∧ev env y=some (.int kd j)∧P.underlying t=some (.slice e)∧(P.info? e).map (·.size)=some size:=by
 unfold VW at hk;split at hk
 ·rename_i g0;split at hk
  ·rename_i g1 g2 g3 g4;split at hk
   ·rename_i e ht;split at hk
    ·rename_i inf hs;simp only[Option.some.injEq,Prod.mk.injEq]at hk;obtain⟨rfl,rfl,rfl,rfl,rfl⟩:=hk;exact⟨_,_,_,_,_,_,_,_,g0,g1,g2,g3,g4,ht,by rw[hs];rfl⟩
    ·cases hk
   ·cases hk
  ·cases hk
 ·cases hk
theorem Kq{k:Nat}{c:Code}{env:Env}{d:Option Nat}{z:Int}(hk:arE c N env k=some (d,z)):∃op t x y t' ty g i j,ax c k=some (d,.binOp op t x y t',ty,g)∧bD c g env=some true∧gp d N=true∧ev env x=some (vI i)∧ev env y=some (vI j)∧arI op i j=some z:=by
 unfold arE at hk;split at hk
 ·rename_i g0;split at hk
  ·rename_i g1 g2 g3 g4;split at hk
   ·rename_i z hz;simp only[Option.some.injEq,Prod.mk.injEq]at hk;obtain⟨rfl,rfl⟩:=hk;exact⟨_,_,_,_,_,_,_,_,_,g0,g1,g2,g3,g4,hz⟩
   ·cases hk
  ·cases hk
 ·cases hk
theorem dL(ad:Addr)(v:Value)(hc:∀w',Kp wr w'→w'.cell? ad=some v)(hv:sp i= .aU v:=by rfl)(hg:∀vs,kx c i (bW c i sp vs env0)=some true:=by intro _;kernel_rfl)(hk:∀vs,VV P (one c i) N (bW c i sp vs env0) 0=some (bp c i,ad):=by intro _;kernel_rfl)(he:ax (one c i) 1=none:=by kernel_rfl):jc P c Q N env0 wr sp i:=by
 refine rG hg (fun w vs hK hp a hF=> ?_);obtain⟨t,x,ty,g,h0,h1,h2,h3,h4⟩:=Kn (hk vs);exact rY h0 hF h1 h2 rfl h4 h3 (hc w hK) (fun a' ea _=>aL he ⟨v,ea,Kp.refl w,by rw[hv];rfl⟩)
theorem dS(ad:Addr)(vs:aP)(hc:∀w',Kp wr w'→∀j v,vs[j]?=some v→w'.cell? (ad.add j)=some v)(hv:sp i= .aU (.agg vs.toArray):=by rfl)(hg:∀vs,kx c i (bW c i sp vs env0)=some true:=by intro _;kernel_rfl)(hk:∀ZW,lsE P (one c i) N (bW c i sp ZW env0) 0=some (bp c i,ad,some vs.length):=by intro _;kernel_rfl)(he:ax (one c i) 1=none:=by kernel_rfl):jc P c Q N env0 wr sp i:=by
 refine rG hg (fun w ZW hK hp a hF=> ?_);obtain⟨t,x,ty,g,h0,h1,h2,h3,h4⟩:=V1 (hk ZW);exact fQ h0 hF h1 h2 rfl h4 h3 (hc w hK) (fun a' ea _=>aL he ⟨_,ea,Kp.refl w,by rw[hv];rfl⟩)
theorem dI(ad:Addr)(n size:Nat)(j:Int)(h0:0≤j:=by omega)(h1:j<n:=by omega)(hv:sp i= .aU (vP (ad.add (j.toNat*size))):=by rfl)(hg:∀vs,kx c i (bW c i sp vs env0)=some true:=by intro _;kernel_rfl)(hk:∀vs,VW P (one c i) N (bW c i sp vs env0) 0=some (bp c i,some ad,n,size,j):=by intro _;kernel_rfl)(he:ax (one c i) 1=none:=by kernel_rfl):jc P c Q N env0 wr sp i:=by
 refine rG hg (fun w vs hK hp a hF=> ?_);obtain⟨t,x,y,ty,g,cap,e,kd,g0,g1,g2,g3,g4,g5,g6⟩:=Ko (hk vs);exact r2 g0 hF g1 g2 rfl g3 g4 rfl g5 g6 h0 h1 (fun a' ea _=>aL he ⟨_,ea,Kp.refl w,by rw[hv];rfl⟩)
theorem dA(z:Int)(h1: -9223372036854775808≤z:=by omega)(h2:z≤9223372036854775807:=by omega)(hv:sp i= .aU (vI z):=by rfl)(hg:∀vs,kx c i (bW c i sp vs env0)=some true:=by intro _;kernel_rfl)(hk:∀vs,arE (one c i) N (bW c i sp vs env0) 0=some (bp c i,z):=by intro _;kernel_rfl)(he:ax (one c i) 1=none:=by kernel_rfl):jc P c Q N env0 wr sp i:=by
 refine rG hg (fun w vs hK hp a hF=> ?_);obtain⟨op,t,x,y,t',ty,g,i1,j1,g0,g1,g2,g3,g4,g5⟩:=Kq (hk vs);exact gv g0 hF g1 g2 rfl g3 g4 g5 h1 h2 (fun a' ea _=>aL he ⟨_,ea,Kp.refl w,by rw[hv];rfl⟩)
theorem dC(b:Bool){B:Bool}(hb:B=b)(hv:sp i= .aU (vB B):=by rfl)(hg:∀vs,kx c i (bW c i sp vs env0)=some true:=by intro _;kernel_rfl)(hk:∀vs,cmE (one c i) N (bW c i sp vs env0) 0=some b:=by intro _;kernel_rfl)(he:ax (one c i) 1=none:=by kernel_rfl):jc P c Q N env0 wr sp i:=by
 refine rG hg (fun w vs hK hp a hF=> ?_);obtain⟨d,op,t,x,y,t',ty,g,kd,i1,j1,g0,g1,g2,g3,g4,g5⟩:=Kk (hk vs);have hd:bp c i=d:=by
  cases hc:ax c i with
  |none=>
   have:=hg vs;unfold kx at this;rw[hc]at this;cases this
  |some o=>
   obtain⟨e1,e2⟩:=Ij hc;rw[e1]at g0;simp only[Option.some.injEq,Prod.mk.injEq]at g0;rw[e2,g0.1]
 exact EZ g0 hF g1 g2 rfl g3 g4 g5 (fun B' hB' a' ea _=>aL he ⟨_,by rw[hd];exact ea,Kp.refl w,by rw[hv,hB',hb];rfl⟩)
end
section
variable {P : Program} {c : Code} {Q : Exit → Act → World → Prop} {N : FN} {i : Nat} {env0 : Env} {sp : Nat → Spec} {J : (Nat → Bool) → (Nat → Value) → World → Prop}
theorem C7(hg:∀vs,kx c i (bW c i sp vs env0)=some true)(h:∀(w:World) (ls:Nat→Bool) (vs:Nat→Value),J ls vs w→ls i=false→og c ls→(∀j,j∈cY c i→ls j=true∧(sp j).ok (vs j) w)→∀a,Fr a N (bW c i sp vs env0)→bz P (one c i) (fun a' w'=>∃v,a'=a.put (bp c i) v∧(sp i).ok v w'∧J (mO ls i) (r8 vs i v) w') Q 0 a w):rD P c Q N env0 sp J i:=by
 intro a w ls vs rest hJ hi hc hp hF;exact⟨true,fun g nU=>sg (C6 (hg vs) g nU),fun _=>h w ls vs hJ hi hc hp a hF.left,fun h=>Bool.noConfusion h⟩
theorem dPJ(hJ:∀ls vs v w,J ls vs w→J (mO ls i) (r8 vs i v) w)(h:∀vs,p1E P c N i (bW c i sp vs env0)=Z2 (sp i):=by intro _;kernel_rfl)(h2:isS (Z2 (sp i))=true:=by kernel_rfl):rD P c Q N env0 sp J i:=by
 have key:∀vs,∃d op ty g v,ax c i=some (d,op,ty,g)∧bD c g (bW c i sp vs env0)=some true∧gp d N=true∧pS P (bW c i sp vs env0) op=some v∧sp i= .aU v:=by
  intro vs;have h3:=h vs;cases hs:sp i with
  |any Φ hh=>rw[hs]at h2;cases h2
  |aU u=>
   rw[hs]at h3;unfold p1E Z2 at h3;simp only at h3;split at h3
   ·rename_i h4;split at h3
    ·rename_i h5 h6;exact⟨_,_,_,_,u,h4,h5,h6,h3,rfl⟩
    ·cases h3
   ·cases h3
 refine C7 (fun vs=> ?_) (fun w ls vs hj hi hc hp a hF=> ?_)
 ·obtain⟨d,op,ty,g,v,h1,h2,_⟩:=key vs;unfold kx;rw[h1];exact h2
 ·obtain⟨d,op,ty,g,v,h1,h2,h3,h4,h5⟩:=key vs;obtain⟨e1,e2⟩:=Ij h1;refine fg e1 hF rfl h3 rfl h4 (fun a' ea _=>aL (Km h1) ⟨v,?_,?_,hJ _ _ _ _ hj⟩)
  ·rw[e2];exact ea
  ·rw[h5];rfl
theorem yd(ad:Addr)(n size:Nat)(j:Int)(hJ:∀ls vs v w,J ls vs w→J (mO ls i) (r8 vs i v) w)(h0:0≤j:=by omega)(h1:j<n:=by omega)(hv:sp i= .aU (vP (ad.add (j.toNat*size))):=by rfl)(hg:∀vs,kx c i (bW c i sp vs env0)=some true:=by intro _;kernel_rfl)(hk:∀vs,VW P (one c i) N (bW c i sp vs env0) 0=some (bp c i,some ad,n,size,j):=by intro _;kernel_rfl)(he:ax (one c i) 1=none:=by kernel_rfl):rD P c Q N env0 sp J i:=by
 refine C7 hg (fun w ls vs hj hi hc hp a hF=> ?_);obtain⟨t,x,y,ty,g,cap,e,kd,g0,g1,g2,g3,g4,g5,g6⟩:=Ko (hk vs);exact r2 g0 hF g1 g2 rfl g3 g4 rfl g5 g6 h0 h1 (fun a' ea _=>aL he ⟨_,ea,by rw[hv];rfl,hJ _ _ _ _ hj⟩)
theorem dAJ(z:Int)(hJ:∀ls vs v w,J ls vs w→J (mO ls i) (r8 vs i v) w)(h1: -9223372036854775808≤z:=by omega)(h2:z≤9223372036854775807:=by omega)(hv:sp i= .aU (vI z):=by rfl)(hg:∀vs,kx c i (bW c i sp vs env0)=some true:=by intro _;kernel_rfl)(hk:∀vs,arE (one c i) N (bW c i sp vs env0) 0=some (bp c i,z):=by intro _;kernel_rfl)(he:ax (one c i) 1=none:=by kernel_rfl):rD P c Q N env0 sp J i:=by
 refine C7 hg (fun w ls vs hj hi hc hp a hF=> ?_);obtain⟨op,t,x,y,t',ty,g,i1,j1,g0,g1,g2,g3,g4,g5⟩:=Kq (hk vs);exact gv g0 hF g1 g2 rfl g3 g4 g5 h1 h2 (fun a' ea _=>aL he ⟨_,ea,by rw[hv];rfl,hJ _ _ _ _ hj⟩)
theorem mP(ad:Addr)(v:Value)(hJ:∀ls vs v w,J ls vs w→J (mO ls i) (r8 vs i v) w)(hc:∀w ls vs,J ls vs w→ls i=false→og c ls→(∀j,j∈cY c i→ls j=true)→w.cell? ad=some v)(hv:sp i= .aU v:=by rfl)(hg:∀vs,kx c i (bW c i sp vs env0)=some true:=by intro _;kernel_rfl)(hk:∀vs,VV P (one c i) N (bW c i sp vs env0) 0=some (bp c i,ad):=by intro _;kernel_rfl)(he:ax (one c i) 1=none:=by kernel_rfl):rD P c Q N env0 sp J i:=by
 refine C7 hg (fun w ls vs hj hi zR hp a hF=> ?_);obtain⟨t,x,ty,g,h0,h1,h2,h3,h4⟩:=Kn (hk vs);exact rY h0 hF h1 h2 rfl h4 h3 (hc w ls vs hj hi zR (fun j E1=>(hp j E1).1)) (fun a' ea _=>aL he ⟨v,ea,by rw[hv];rfl,hJ _ _ _ _ hj⟩)
end
end Go.Mor
namespace Go.Mor
theorem L3{α:Type}[BEq α][LawfulBEq α]{a b:α}(h:false=(a==b)):¬(a=b):=fun e=>Kr (h.trans (beq_iff_eq.2 e))
theorem znn{α:Type}[BEq α][LawfulBEq α]{a b:α}(h:false=(a !=b)):¬(a≠b):=fun e=>Kr (h.trans (bne_iff_ne.2 e))
end Go.Mor
namespace Go.Mor
open Go.RowKit
abbrev dU:Spec:= .aU undef
theorem lz{p:Nat→Prop}:∀i,i<0→p i:=E2
theorem la{p:Nat→Prop}{n:Nat}(h:∀i,i<n→p i)(hn:p n):∀i,i<n+1→p i:=E3 h hn
section
variable {P : Program} {c : Code} {Q : Exit → Act → World → Prop} {N : FN} {i : Nat} {env0 : Env} {wr : World} {sp : Nat → Spec}
theorem dK(hv:sp i= .aU undef:=by rfl)(hg:∀vs,kx c i (bW c i sp vs env0)=some false:=by intro _;kernel_rfl):jc P c Q N env0 wr sp i:=by
 intro a w vs rest hK hp hF;exact⟨false,fun g nU=>sg (C6 (hg vs) g nU),fun h=>Bool.noConfusion h,fun _=>by rw[hv];rfl⟩
theorem Hw(A:ar)(ad:Addr)(n size:Nat)(j:Int)(hA:A=some ad)(h0:0≤j:=by omega)(h1:j<n:=by omega)(hv:sp i= .aU (vP (ad.add (j.toNat*size))):=by rfl)(hg:∀vs,kx c i (bW c i sp vs env0)=some true:=by intro _;kernel_rfl)(hk:∀vs,VW P (one c i) N (bW c i sp vs env0) 0=some (bp c i,A,n,size,j):=by intro _;kernel_rfl)(he:ax (one c i) 1=none:=by kernel_rfl):jc P c Q N env0 wr sp i:=dI ad n size j h0 h1 hv hg (fun vs=>by rw[hk vs,hA]) he
theorem V2{k:Nat}{c:Code}{env:Env}{d:Option Nat}{f:FuncId}{vs:Array Value}(hk:clE P c N env k=some (d,f,vs)):∃x args ts ty g us cap,ax c k=some (d,.call {callee:= .value x,args:=args,argTypes:=ts},ty,g)∧bD c g env=some true∧gp d N=true∧ev env x=some (.func (.func f) #[] cap)∧Vt env args.toList=some us∧xP P f=true∧(us++cap.toList).toArray=vs:=by
 unfold clE at hk;split at hk
 ·rename_i d' x args ts ty g g0;split at hk
  ·rename_i f' first cap us g1 g2 g3 g4
   split at hk
   ·rename_i hs hf;simp only[Option.some.injEq,Prod.mk.injEq]at hk;obtain⟨rfl,rfl,hv⟩:=hk;have Ic:first=#[]:=Array.eq_empty_of_size_eq_zero hs
    subst Ic;exact⟨x,args,ts,ty,g,us,cap,g0,g1,g2,g3,g4,hf,hv⟩
   ·cases hk
  ·cases hk
 ·cases hk
theorem dD{f:FuncId}{vs:Array Value}{u u':Value}(hc:∀w,Kp wr w→Calls P f vs w (ez fun v w'=>v=u∧Mem bq w w' []))(hu:u=u')(hv:sp i= .aU u':=by rfl)(hg:∀vs,kx c i (bW c i sp vs env0)=some true:=by intro _;kernel_rfl)(hk:∀ZW,clE P (one c i) N (bW c i sp ZW env0) 0=some (bp c i,f,vs):=by intro _;kernel_rfl)(he:ax (one c i) 1=none:=by kernel_rfl):jc P c Q N env0 wr sp i:=by
 refine rG hg (fun w ZW hK hp a hF=> ?_);obtain⟨x,args,ts,ty,g,us,cap,g0,g1,g2,g3,g4,g5,g6⟩:=V2 (hk ZW);refine gK (Φ:=fun v w'=>v=u∧Mem bq w w' []) g0 hF g1 g2 rfl (cap:=cap.toList) (by simpa using g3) g4 g5 (by rw[g6];exact hc w hK) (fun v w' hv' a' ea _=>aL he ⟨v,ea,hv'.2,?_⟩);rw[hv,hv'.1];exact hu
end
def mvL:Nat→List bx→List bx
 |0,L=>L
 |_+1,[]=>[]
 |n+1,a::L=>match mvL n L with
  |[]=>[a]
  |b::M=>b::a::M
def odL:List Nat→List bx→List bx
 |[],L=>L
 |i::l,L=>odL l (mvL i L)
def tkL:Nat→List bx→List bx
 |0,_=>[]
 |_+1,[]=>[]
 |n+1,a::L=>a::tkL n L
theorem Fe:∀(n:Nat) (L:List bx),L.Perm (mvL n L)
 |0,L=>List.Perm.refl L
 |_+1,[]=>List.Perm.refl []
 |n+1,a::L=>by
  unfold mvL;have h:=Fe n L;cases hm:mvL n L with
  |nil=>rw[hm]at h;exact h.cons a
  |cons b M=>rw[hm]at h;exact(h.cons a).trans (List.Perm.swap b a M)
theorem Ff:∀(l:List Nat) (L:List bx),L.Perm (odL l L)
 |[],L=>List.Perm.refl L
 |i::l,L=>(Fe i L).trans (Ff l _)
theorem ye:∀(n:Nat) (L:List bx),rC (List.replicate n true) L=tkL n L
 |0,[]=>rfl
 |0,_::_=>rfl
 |_+1,[]=>rfl
 |n+1,a::L=>by rw[List.replicate_succ];show a::rC (List.replicate n true) L=a::tkL n L;rw[ye n L]
section
variable {S : Nat → Prop} {w0 w w' : World} {L Lr L' : List bx} {r r' s s' : bx}
theorem Mem.nf(h:Mem S w0 w L)(e:L=L':=by dsimp only[List.set_cons_zero,List.set_cons_succ,List.cons_append,List.nil_append]):Mem S w0 w L':=e▸h
theorem Mem.cl(h:Mem S w0 w L)(h':Mem bq w w' Lr)(e:L++Lr=L':=by dsimp only[List.cons_append,List.nil_append,List.append_nil]):Mem S w0 w' L':=e▸h.call h'
theorem Mem.md(h:Mem S w0 w L)(i:Nat)(hi:L[i]?=some r)(h':Mem r.fp w w' (r'::Lr))(e:L.set i r'++Lr=L':=by dsimp only[List.set_cons_zero,List.set_cons_succ,List.cons_append,List.nil_append,List.append_nil]):Mem S w0 w' L':=e▸h.mod i hi h'
theorem Mem.od(h:Mem S w0 w L)(l:List Nat)(k:Nat)(e:tkL k (odL l L)=L':=by dsimp only[tkL,odL,mvL]):Mem S w0 w L':=e▸(h.perm (Ff l L)).pick _ (ye k _)
theorem Mem.tk(h:Mem S w0 w L)(k:Nat)(e:tkL k L=L':=by rfl):Mem S w0 w L':=e▸h.pick _ (ye k _)
end
abbrev pT(b o:Nat):Value:= .pointer (some (ao b o))
abbrev sM(g:Nat):ar:=some (aZ g)
abbrev nV(k:Nat):Value:=vI (k:Int)
theorem Fr.kp{a:Act}{N:FN}{env:Env}(h:Fr a N env)(keep:List Nat){CU:Env}(e:mh keep env=CU:=by kernel_rfl):Fr a N CU:=h.keep e
section
variable {P : Program} {c : Code} {K : Act → World → Prop} {Q : Exit → Act → World → Prop} {a : Act} {w w0 : World} {S : Nat → Prop} {L : List bx} {k : Nat} {N : FN} {env : Env}
theorem fk(I:Nat→Act→World→Prop){n:Nat}(h0:I n a w)(round:∀n a w,I n a w→W P (Code.l c) (fun a' w'=>∃m,m<n∧I m a' w') Q a w)(hk:kind c= .loop:=by kernel_rfl):W P c K Q a w:=Qbn hk I h0 round
theorem cE(n k':Nat){news:Env}(keys:List Nat)(hF:Fr a N env)(hp:(eK P c N n k env).map (mh keys)=some news)(h:∀a',Fr a' N (news++env)→bz P c K Q k' a' w)(hc:se keys env (dstsOf c n k)=true:=by kernel_rfl)(hk:k+n=k':=by rfl):bz P c K Q k a w:=Ib n k' keys hF hp hc hk h
def bxE(_P:Program)(c:Code)(N:FN)(env:Env)(k:Nat):Option (Option Nat×TypeId×Value):=match ax c k with
 |some (d,.box t x,_,g)=>match bD c g env,gp d N,ev env x with
  |some true,true,some v=>some (d,t,v)
  |_,_,_=>none
 |_=>none
theorem ou(hM:Mem S w0 w L)(t:TypeId)(v:Value)(cs:aP)(h:∀b w',w0.heap.size≤b→Mem S w0 w' (L++[.aB b t cs])→∀a,Fr a N (dq env (bp c k) (vP (aZ b)))→bz P c K Q (k+1) a w')(oZ:v.cells=cs.toArray:=by rfl)(hk:bxE P c N env k=some (bp c k,t,v):=by kernel_rfl):∀a,Fr a N env→bz P c K Q k a w:=by
 intro a hF;unfold bxE at hk;split at hk
 ·rename_i g0;split at hk
  ·rename_i g1 g2 g3;simp only[Option.some.injEq,Prod.mk.injEq]at hk;obtain⟨e1,rfl,rfl⟩:=hk;rw[e1]at g0 g2;exact xM g0 hF g1 g2 rfl g3 oZ hM (fun b w' hb _ P5 _ a' _ Hv=>h b w' hb P5 a' Hv)
  ·cases hk
 ·cases hk
def alE(_P:Program)(c:Code)(N:FN)(env:Env)(k:Nat):Option (Option Nat×TypeId):=match ax c k with
 |some (d,.alloc t,_,g)=>match bD c g env,gp d N with
  |some true,true=>some (d,t)
  |_,_=>none
 |_=>none
theorem na(hM:Mem S w0 w L)(t:TypeId)(cs:aP)(h:∀b w',w0.heap.size≤b→Mem S w0 w' (L++[.aB b t cs])→∀a,Fr a N (dq env (bp c k) (vP (aZ b)))→bz P c K Q (k+1) a w')(hz:(P.info? t).map (fun i=>i.zero.map (fun z=>z.cells.toList))=some (some cs):=by kernel_rfl)(hk:alE P c N env k=some (bp c k,t):=by kernel_rfl):∀a,Fr a N env→bz P c K Q k a w:=by
 intro a hF;unfold alE at hk;split at hk
 ·rename_i g0;split at hk
  ·rename_i g1 g2;simp only[Option.some.injEq,Prod.mk.injEq]at hk;obtain⟨e1,rfl⟩:=hk;rw[e1]at g0 g2;exact xN g0 hF g1 g2 rfl hz hM (fun b w' hb _ P5 _ a' _ Hv=>h b w' hb P5 a' Hv)
  ·cases hk
 ·cases hk
def ssE(P:Program)(c:Code)(N:FN)(env:Env)(k:Nat):Option (Option Nat×Nat×Nat×Array Value×Option Nat):=match ax c k with
 |some (d,.store t x y,_,g)=>match bD c g env,gp d N,ev env x,ev env y with
  |some true,true,some (.pointer (some ⟨b,o,none⟩)),some (.agg vs)=>some (d,b,o,vs,uJ P t)
  |_,_,_,_=>none
 |_=>none
theorem ng(hM:Mem S w0 w L)(i:Nat)(vs:aP){b t0:Nat}{cs:aP}(hi:L[i]?=some (.aB b t0 cs))(h:∀w',Mem S w0 w' (L.set i (.aB b t0 vs))→∀a,Fr a N (dq env (bp c k) undef)→bz P c K Q (k+1) a w')(hv:vs.all Value.oneCell'=true:=by rfl)(ho:cs.length=vs.length:=by rfl)(hk:ssE P c N env k=some (bp c k,b,0,vs.toArray,some vs.length):=by kernel_rfl):∀a,Fr a N env→bz P c K Q k a w:=by
 intro a hF;unfold ssE at hk;split at hk
 ·rename_i g0;split at hk
  ·rename_i g1 g2 g3 g4;simp only[Option.some.injEq,Prod.mk.injEq]at hk;obtain⟨e1,rfl,rfl,rfl,e5⟩:=hk;rw[e1]at g0 g2;exact kM g0 hF g1 g2 rfl g3 g4 e5 (List.all_eq_true.1 hv) hM i hi ho (fun w' P5 _ a' _ Hv=>h w' P5 a' Hv)
  ·cases hk
 ·cases hk
end
section
variable {P : Program} {c : Code} {K : Act → World → Prop} {Q : Exit → Act → World → Prop} {N : FN} {env0 : Env} {wr : World} {a : Act}
theorem l9(sp:Nat→Spec)(hF:Fr a N env0)(r6:∀i,i<(opsOf c).size→jc P c Q N env0 wr sp i)(h:∀a' w' (vs:Nat→Value),Kp wr w'→(∀j,j<(opsOf c).size→(sp j).ok (vs j) w')→Fr a' N (pU c sp vs (List.range (opsOf c).size)++tm c env0)→K a' w')(hk:kind c= .region true:=by kernel_rfl)(hm:P.follows .mixedOrders=true:=by kernel_rfl)(hd:kN c=true:=by kernel_rfl)(kY:fZ c=true:=by kernel_rfl)(tt:pW env0=true:=by kernel_rfl)(rn:(List.range (opsOf c).size).all (fun i=>gp (bp c i) N)=true:=by kernel_rfl):W P c K Q a wr:=Qbr hk hm sp hd kY hF tt rn r6 h
theorem ED(sp:Nat→Spec)(J:(Nat→Bool)→(Nat→Value)→World→Prop)(hF:Fr a N env0)(H4:∀j v w w',(sp j).ok v w→(sp j).ok v w')(h0:J (fun _=>false) (fun _=>undef) wr.drew)(r6:∀i,i<(opsOf c).size→rD P c Q N env0 sp J i)(h:∀a' w' (ls:Nat→Bool) (vs:Nat→Value),(∀j,j<(opsOf c).size→ls j=true)→J ls vs w'→(∀j,j<(opsOf c).size→(sp j).ok (vs j) w')→Fr a' N (pU c sp vs (List.range (opsOf c).size)++tm c env0)→K a' w')(hk:kind c= .region true:=by kernel_rfl)(hm:P.follows .mixedOrders=true:=by kernel_rfl)(hd:kN c=true:=by kernel_rfl)(kY:fZ c=true:=by kernel_rfl)(tt:pW env0=true:=by kernel_rfl)(rn:(List.range (opsOf c).size).all (fun i=>gp (bp c i) N)=true:=by kernel_rfl):W P c K Q a wr:=Vy hk hm sp J hd kY hF tt rn H4 h0 r6 h
end
section
variable {P : Program} {c : Code} {K : Act → World → Prop} {Q : Exit → Act → World → Prop} {w w0 : World} {S : Nat → Prop} {L : List bx} {k : Nat} {N : FN} {env : Env} {a : Act}
theorem wz(d:Nat)(x y:Operand)(t ty:TypeId)(hF:Fr a N env){e size bytes:Nat}{z:Value}{A B:ar}{n cap m cap':Nat}{xs news:aP}(hM:Mem S w0 w L)(i:Nat)(hL:L[i]?=some (.row e size A n cap xs))(r4:(bx.rd B news).holds w)(hl:news.length=m*size)(h1:∀u∈news,u.oneCell'=true)(hb:(n+m)*bytes≤140737488355328)(HY:n+m≤maxLen)(h:∀A' c' w',Mem S w0 w' (L.set i (.row e size A' (n+m) c' (xs++news)))→Mem (bx.row e size A n cap xs).fp w w' [.row e size A' (n+m) c' (xs++news)]→∀a',a'=a.put (some d) (vS A' (n+m) c')→Fr a' N (dq env (some d) (vS A' (n+m) c'))→bz P c K Q (k+1) a' w')(hk:ax c k=some (some d,.call {callee:= .builtin .append,args:=#[x,y],argTypes:=#[t,t]},ty,none):=by kernel_rfl)(hd:gp (some d) N=true:=by kernel_rfl)(ht:P.underlying t=some (.slice e):=by kernel_rfl)(hi:(P.info? e).map (fun i=>(i.size,i.bytes,i.zero))=some (size,bytes,some z):=by kernel_rfl)(HX:Nat.beq z.cells.size size=true:=by kernel_rfl)(jB:Nat.blt 0 size=true:=by kernel_rfl)(hx:ev env x=some (vS A n cap):=by kernel_rfl)(hy:ev env y=some (vS B m cap'):=by kernel_rfl):bz P c K Q k a w:=vu hk hF rfl hd rfl ht hi HX jB hx hy hM i hL r4 hl h1 hb HY h
theorem nX(d:Nat)(t:TypeId)(len:Nat)(ps:Array (Nat×Operand))(ty:TypeId)(hF:Fr a N env){e size:Nat}{zs:aP}{vs:List (Nat×Value)}{cs:aP}(hM:Mem S w0 w L)(h:∀b w',w0.heap.size≤b→w.heap.size≤b→Mem S w0 w' (L++[.row e size (some (aZ b)) len len cs])→Mem bq w w' [.row e size (some (aZ b)) len len cs]→∀a',a'=a.put (some d) (vS (some (aZ b)) len len)→Fr a' N (dq env (some d) (vS (some (aZ b)) len len))→bz P c K Q (k+1) a' w')(hk:ax c k=some (some d,.buildSlice t len ps,ty,none):=by kernel_rfl)(hd:gp (some d) N=true:=by kernel_rfl)(ht:P.underlying t=some (.slice e):=by kernel_rfl)(hi:(P.info? e).map (fun i=>(i.size,i.zero.map (·.cells.toList)))=some (size,some zs):=by kernel_rfl)(hp:parts env ps.toList=some vs:=by kernel_rfl)(jB:(Nat.ble 1 (len*size)&&Nat.ble (len*size) 1000)=true:=by kernel_rfl)(Pz:Instr.fill (fun i=>some (i*size,size)) ((Array.range (len*size)).map (zs.toArray[· % zs.toArray.size]!)) vs=some cs.toArray:=by kernel_rfl)(hl:Nat.beq cs.length (len*size)=true:=by kernel_rfl):bz P c K Q k a w:=wy hk hF rfl hd rfl ht hi hp jB Pz hl hM h
theorem P6(d:Nat)(t:TypeId)(x y:Operand)(ty:TypeId)(hF:Fr a N env){e bytes:Nat}{z:Value}{n:Nat}{i:Int}(hb:bytes*n≤140737488355328)(hl:n≤maxLen)(hM:Mem S w0 w L)(h:∀b w',w0.heap.size≤b→w.heap.size≤b→Mem S w0 w' (L++[.row e 1 (some (aZ b)) n n (List.replicate n z)])→Mem bq w w' [.row e 1 (some (aZ b)) n n (List.replicate n z)]→∀a',a'=a.put (some d) (vS (some (aZ b)) n n)→Fr a' N (dq env (some d) (vS (some (aZ b)) n n))→bz P c K Q (k+1) a' w')(hk:ax c k=some (some d,.makeSlice t x y,ty,none):=by kernel_rfl)(hd:gp (some d) N=true:=by kernel_rfl)(hx:ev env x=some (vI i):=by kernel_rfl)(hy:ev env y=some (vI i):=by kernel_rfl)(hn:i=(n:Int):=by rfl)(ht:P.underlying t=some (.slice e):=by kernel_rfl)(hi:(P.info? e).map (fun i=>(i.size,i.bytes,i.zero))=some (1,bytes,some z):=by kernel_rfl)(hz:z.oneCell'=true:=by rfl):bz P c K Q k a w:=ly hk hF rfl hd rfl hx hy hn ht hi hz hb hl hM h
end
theorem rM{p:Nat→Prop}{n:Nat}(h:∀i,i<n→p i)(h0:p n)(h1:p (n+1)):∀i,i<n+2→p i:=la (la h h0) h1
theorem kV{p:Nat→Prop}{n:Nat}(h:∀i,i<n→p i)(h0:p n)(h1:p (n+1))(h2:p (n+2)):∀i,i<n+3→p i:=la (la (la h h0) h1) h2
theorem sv{p:Nat→Prop}{n:Nat}(h:∀i,i<n→p i)(h0:p n)(h1:p (n+1))(h2:p (n+2))(h3:p (n+3))(h4:p (n+4)):∀i,i<n+5→p i:=la (la (la (la (la h h0) h1) h2) h3) h4
theorem pF{p:Nat→Prop}{n:Nat}(h:∀i,i<n→p i)(h0:p n)(h1:p (n+1))(h2:p (n+2))(h3:p (n+3))(h4:p (n+4))(h5:p (n+5))(h6:p (n+6))(h7:p (n+7)):∀i,i<n+8→p i:=la (la (la (la (la (la (la (la h h0) h1) h2) h3) h4) h5) h6) h7
theorem dT{p:Nat→Prop}{n:Nat}(h:∀i,i<n→p i)(h0:p n)(h1:p (n+1))(h2:p (n+2))(h3:p (n+3))(h4:p (n+4))(h5:p (n+5))(h6:p (n+6))(h7:p (n+7))(h8:p (n+8))(h9:p (n+9))(xm:p (n+10))(Hy:p (n+11)):∀i,i<n+12→p i:=la (la (la (la (la (la (la (la (la (la (la (la h h0) h1) h2) h3) h4) h5) h6) h7) h8) h9) xm) Hy
section
variable{P:Program}{c:Code}{Q:Exit→Act→World→Prop}{N:FN}{env0:Env}{wr:World}{sp:Nat→Spec}{n:Nat}
theorem k1_(h:∀i,i<n→jc P c Q N env0 wr sp i)(h1:sp n= .aU undef)(h2:∀vs,kx c n (bW c n sp vs env0)=some false):∀i,i<n+1→jc P c Q N env0 wr sp i:=la h (dK h1 h2)
theorem pe(h:∀i,i<n→jc P c Q N env0 wr sp i)(a0:sp (n+0)= .aU undef:=by rfl)(b0:∀vs,kx c (n+0) (bW c (n+0) sp vs env0)=some false:=by intro _;kernel_rfl)(a1:sp (n+1)= .aU undef:=by rfl)(b1:∀vs,kx c (n+1) (bW c (n+1) sp vs env0)=some false:=by intro _;kernel_rfl):∀i,i<n+2→jc P c Q N env0 wr sp i:=la (la (h) (dK a0 b0)) (dK a1 b1)
theorem rh(h:∀i,i<n→jc P c Q N env0 wr sp i)(a0:sp (n+0)= .aU undef:=by rfl)(b0:∀vs,kx c (n+0) (bW c (n+0) sp vs env0)=some false:=by intro _;kernel_rfl)(a1:sp (n+1)= .aU undef:=by rfl)(b1:∀vs,kx c (n+1) (bW c (n+1) sp vs env0)=some false:=by intro _;kernel_rfl)(a2:sp (n+2)= .aU undef:=by rfl)(b2:∀vs,kx c (n+2) (bW c (n+2) sp vs env0)=some false:=by intro _;kernel_rfl)(a3:sp (n+3)= .aU undef:=by rfl)(b3:∀vs,kx c (n+3) (bW c (n+3) sp vs env0)=some false:=by intro _;kernel_rfl):∀i,i<n+4→jc P c Q N env0 wr sp i:=la (la (la (la (h) (dK a0 b0)) (dK a1 b1)) (dK a2 b2)) (dK a3 b3)
theorem zv(h:∀i,i<n→jc P c Q N env0 wr sp i)(a0:sp (n+0)= .aU undef:=by rfl)(b0:∀vs,kx c (n+0) (bW c (n+0) sp vs env0)=some false:=by intro _;kernel_rfl)(a1:sp (n+1)= .aU undef:=by rfl)(b1:∀vs,kx c (n+1) (bW c (n+1) sp vs env0)=some false:=by intro _;kernel_rfl)(a2:sp (n+2)= .aU undef:=by rfl)(b2:∀vs,kx c (n+2) (bW c (n+2) sp vs env0)=some false:=by intro _;kernel_rfl)(a3:sp (n+3)= .aU undef:=by rfl)(b3:∀vs,kx c (n+3) (bW c (n+3) sp vs env0)=some false:=by intro _;kernel_rfl)(a4:sp (n+4)= .aU undef:=by rfl)(b4:∀vs,kx c (n+4) (bW c (n+4) sp vs env0)=some false:=by intro _;kernel_rfl)(a5:sp (n+5)= .aU undef:=by rfl)(b5:∀vs,kx c (n+5) (bW c (n+5) sp vs env0)=some false:=by intro _;kernel_rfl)(a6:sp (n+6)= .aU undef:=by rfl)(b6:∀vs,kx c (n+6) (bW c (n+6) sp vs env0)=some false:=by intro _;kernel_rfl)(a7:sp (n+7)= .aU undef:=by rfl)(b7:∀vs,kx c (n+7) (bW c (n+7) sp vs env0)=some false:=by intro _;kernel_rfl):∀i,i<n+8→jc P c Q N env0 wr sp i:=la (la (la (la (la (la (la (la (h) (dK a0 b0)) (dK a1 b1)) (dK a2 b2)) (dK a3 b3)) (dK a4 b4)) (dK a5 b5)) (dK a6 b6)) (dK a7 b7)
theorem Yl(h:∀i,i<n→jc P c Q N env0 wr sp i)(a0:sp (n+0)= .aU undef:=by rfl)(b0:∀vs,kx c (n+0) (bW c (n+0) sp vs env0)=some false:=by intro _;kernel_rfl)(a1:sp (n+1)= .aU undef:=by rfl)(b1:∀vs,kx c (n+1) (bW c (n+1) sp vs env0)=some false:=by intro _;kernel_rfl)(a2:sp (n+2)= .aU undef:=by rfl)(b2:∀vs,kx c (n+2) (bW c (n+2) sp vs env0)=some false:=by intro _;kernel_rfl)(a3:sp (n+3)= .aU undef:=by rfl)(b3:∀vs,kx c (n+3) (bW c (n+3) sp vs env0)=some false:=by intro _;kernel_rfl)(a4:sp (n+4)= .aU undef:=by rfl)(b4:∀vs,kx c (n+4) (bW c (n+4) sp vs env0)=some false:=by intro _;kernel_rfl)(a5:sp (n+5)= .aU undef:=by rfl)(b5:∀vs,kx c (n+5) (bW c (n+5) sp vs env0)=some false:=by intro _;kernel_rfl)(a6:sp (n+6)= .aU undef:=by rfl)(b6:∀vs,kx c (n+6) (bW c (n+6) sp vs env0)=some false:=by intro _;kernel_rfl)(a7:sp (n+7)= .aU undef:=by rfl)(b7:∀vs,kx c (n+7) (bW c (n+7) sp vs env0)=some false:=by intro _;kernel_rfl)(a8:sp (n+8)= .aU undef:=by rfl)(b8:∀vs,kx c (n+8) (bW c (n+8) sp vs env0)=some false:=by intro _;kernel_rfl)(a9:sp (n+9)= .aU undef:=by rfl)(b9:∀vs,kx c (n+9) (bW c (n+9) sp vs env0)=some false:=by intro _;kernel_rfl)(a10:sp (n+10)= .aU undef:=by rfl)(ff:∀vs,kx c (n+10) (bW c (n+10) sp vs env0)=some false:=by intro _;kernel_rfl)(a11:sp (n+11)= .aU undef:=by rfl)(jz:∀vs,kx c (n+11) (bW c (n+11) sp vs env0)=some false:=by intro _;kernel_rfl)(a12:sp (n+12)= .aU undef:=by rfl)(KM:∀vs,kx c (n+12) (bW c (n+12) sp vs env0)=some false:=by intro _;kernel_rfl)(a13:sp (n+13)= .aU undef:=by rfl)(b13:∀vs,kx c (n+13) (bW c (n+13) sp vs env0)=some false:=by intro _;kernel_rfl)(a14:sp (n+14)= .aU undef:=by rfl)(b14:∀vs,kx c (n+14) (bW c (n+14) sp vs env0)=some false:=by intro _;kernel_rfl)(a15:sp (n+15)= .aU undef:=by rfl)(jx:∀vs,kx c (n+15) (bW c (n+15) sp vs env0)=some false:=by intro _;kernel_rfl):∀i,i<n+16→jc P c Q N env0 wr sp i:=la (la (la (la (la (la (la (la (la (la (la (la (la (la (la (la (h) (dK a0 b0)) (dK a1 b1)) (dK a2 b2)) (dK a3 b3)) (dK a4 b4)) (dK a5 b5)) (dK a6 b6)) (dK a7 b7)) (dK a8 b8)) (dK a9 b9)) (dK a10 ff)) (dK a11 jz)) (dK a12 KM)) (dK a13 b13)) (dK a14 b14)) (dK a15 jx)
end
theorem bd{S:Nat→Prop}{w0 w:World}(L:List bx)(h:Mem S w0 w L):Mem S w0 w L:=h
theorem aR{c:Code}{ls:Nat→Bool}{i:Nat}(j n:Nat)(hc:og c ls)(hi:ls i=false)(h:reach c n j i=true:=by kernel_rfl):ls j=false:=PI hc hi h
theorem Qk4{c:Code}{ls:Nat→Bool}{i:Nat}(j n:Nat)(hc:og c ls)(hp:∀k,k∈cY c i→ls k=true)(h:reach c n i j=true:=by kernel_rfl):ls j=true:=r9 hc hp h
theorem cN{c:Code}{ls:Nat→Bool}{i:Nat}{R:Nat→Prop}(j n:Nat)(hc:og c ls)(hp:∀k,k∈cY c i→ls k=true∧R k)(h:reach c n i j=true:=by kernel_rfl):ls j=true:=r9 hc (fun k hk=>(hp k hk).1) h
section
variable{P:Program}{c:Code}{Q:Exit→Act→World→Prop}{N:FN}{env0:Env}{sp:Nat→Spec}{J:(Nat→Bool)→(Nat→Value)→World→Prop}{i:Nat}
theorem bM(hJ:∀ls vs v w,J ls vs w→J (mO ls i) (r8 vs i v) w:=by intro _ _ _ _ h;exact h)(h:∀vs,p1E P c N i (bW c i sp vs env0)=Z2 (sp i):=by intro _;kernel_rfl)(h2:isS (Z2 (sp i))=true:=by kernel_rfl):rD P c Q N env0 sp J i:=dPJ hJ h h2
end
theorem da(ks:List Nat){N:FN}{env:Env}{G:Act→Prop}(h:∀a,Fr a N (mh ks env)→G a):∀a,Fr a N env→G a:=fun a hF=>h a (hF.keep rfl)
section
variable{P:Program}{c:Code}{K:Act→World→Prop}{Q:Exit→Act→World→Prop}{w:World}{N:FN}{env:Env}{k:Nat}
theorem zl_{ad:Addr}{v:Value}(hc:w.cell? ad=some v)(h:∀a,Fr a N (dq env (bp c k) v)→bz P c K Q (k+1) a w)(hk:VV P c N env k=some (bp c k,ad):=by kernel_rfl):∀a,Fr a N env→bz P c K Q k a w:=bt ad v hc h hk
end
section
variable{P:Program}{c:Code}{Q:Exit→Act→World→Prop}{N:FN}{i:Nat}{env0:Env}{wr:World}{sp:Nat→Spec}
theorem dl_{ad:Addr}{v:Value}(hc:∀w',Kp wr w'→w'.cell? ad=some v)(hv:sp i= .aU v:=by rfl)(hg:∀vs,kx c i (bW c i sp vs env0)=some true:=by intro _;kernel_rfl)
    (hk:∀vs,VV P (one c i) N (bW c i sp vs env0) 0=some (bp c i,ad):=by intro _;kernel_rfl)(he:ax (one c i) 1=none:=by kernel_rfl):jc P c Q N env0 wr sp i:=dL ad v hc hv hg hk he
end
end Go.Mor
namespace Go.Mor
open Go.RowKit
theorem P7{P:Program}{c:Code}{K:Act→World→Prop}{Q:Exit→Act→World→Prop}{a:Act}{w:World}{k k':Nat}{N:FN}{env:Env}{d:Option Nat}{ty:Nat}{g:Option (Nat×Bool)}{ts:Array TypeId}{x y:Operand}(hk:ax c k=some (d,.call {callee:= .builtin .max,args:=#[x,y],argTypes:=ts},ty,g))(hF:Fr a N env)(hg:bD c g env=some true)(hd:gp d N=true)(iO:k+1=k'){kd:IntKind}{i j:Int}(hx:ev env x=some (.int kd i))(hy:ev env y=some (.int kd j))(z:Int)(hz:z=if i<j then j else i)(h:∀a',a'=a.put d (.int kd z)→Fr a' N (dq env d (.int kd z))→bz P c K Q k' a' w):bz P c K Q k a w:=by
 refine eC hk hF hg hd iO (fun o ho=> ?_) h;unfold execOp;rw[ho];simp only[resolve,invoke,builtin,Sem.run_bind,Sem.run_pure,Result.andThen_ok,List.map_toArray,List.map_cons,List.map_nil,hF.ev hx,hF.ev hy,Builtin.max_,List.foldlM];subst hz;simp[Builtin.max2];try (split<;>simp_all<;>omega)
section
variable {P : Program} {c : Code} {Q : Exit → Act → World → Prop} {N : FN} {env0 : Env} {wr : World} {sp : Nat → Spec} {i : Nat}
theorem dMN(kd:IntKind)(i1 j1 z:Int)(x y:Operand)(ts:Array TypeId)(ty:Nat)(g:Option (Nat×Bool))(hz:z=if j1<i1 then j1 else i1)(hv:sp i= .aU (.int kd z):=by rfl)(h0:ax (one c i) 0=some (bp c i,.call {callee:= .builtin .min,args:=#[x,y],argTypes:=ts},ty,g):=by kernel_rfl)(hg:∀vs,kx c i (bW c i sp vs env0)=some true:=by intro _;kernel_rfl)(h1:∀vs,bD (one c i) g (bW c i sp vs env0)=some true:=by intro _;kernel_rfl)(h2:gp (bp c i) N=true:=by kernel_rfl)(hx:∀vs,ev (bW c i sp vs env0) x=some (.int kd i1):=by intro _;kernel_rfl)(hy:∀vs,ev (bW c i sp vs env0) y=some (.int kd j1):=by intro _;kernel_rfl)(he:ax (one c i) 1=none:=by kernel_rfl):jc P c Q N env0 wr sp i:=by
 refine rG hg (fun w vs hK hp a hF=> ?_);exact x6 h0 hF (h1 vs) h2 rfl (hx vs) (hy vs) z hz (fun a' ea _=>aL he ⟨_,ea,Kp.refl w,by rw[hv];rfl⟩)
end
end Go.Mor
namespace Go.Mor
open Go.RowKit
end Go.Mor
