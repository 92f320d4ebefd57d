/-
  Texts of the proof, part 6.
-/
import Derived.Test.YtejbeeaomokjpaaGreatZn5
import Derived.Test.YtejbeeaomokjpaaGreatChecked
set_option maxRecDepth 10000
namespace Go.Proofs.YtejbeeaomokjpaaGreat
open Go.Mor Go.ChangeShapes Go.WideShapes Go.ChangeAt Go.RowKit Go.Deep
theorem Tryz.own:ownKnob Tryz.prog.godebug=none:=kR
theorem Tryz.laidOut:laidOutB Tryz.prog=true:=kR
theorem Qez{α:Type}{cs:List α}(h:cs.length=2):∃c0 c1,cs=[c0,c1]:=by
 match cs,h with
 |[c0,c1],_=>exact⟨c0,c1,rfl⟩
theorem ZZ{α:Type}{cs:List α}(h:cs.length=5):∃c0 c1 c2 c3 c4,cs=[c0,c1,c2,c3,c4]:=by
 match cs,h with
 |[c0,c1,c2,c3,c4],_=>exact⟨c0,c1,c2,c3,c4,rfl⟩
theorem QeA{α:Type}{cs:List α}(h:cs.length=6):∃c0 c1 c2 c3 c4 c5,cs=[c0,c1,c2,c3,c4,c5]:=by
 match cs,h with
 |[c0,c1,c2,c3,c4,c5],_=>exact⟨c0,c1,c2,c3,c4,c5,rfl⟩
def gQ{H:Type}(t:TypeId)(d:DataW H):Prop:=∀n,n∈d.weights Tryz.prog t→n≤reachBytes
theorem P3{a k:Nat}(hk:0<k)(h:a*k≤reachBytes):dJ a:=by
 have h1:a*1≤a*k:=Nat.mul_le_mul_left a hk;have h2:=reachBytes_lt;unfold dJ;omega
theorem Fa{H:Type}{e:TypeId}{l:List (DataW H)}{d:DataW H}(h:d∈l):∀n,n∈d.weights Tryz.prog e→n∈DataW.weightsAll Tryz.prog e l:=by
 induction l with
 |nil=>cases h
 |cons x l ih=>
  intro n hn;unfold DataW.weightsAll;rcases Qon.1 h with rfl|h
  ·exact Qox _ hn
  ·exact Qo5 _ (ih h n hn)
section
variable {H : Type} {enc : TypeId × Value → H} {w : World} {base : Nat} {spare : Nat → Bool} {held : Bool}
theorem lE{t:TypeId}(ht:Tryz.prog.underlying t=some (.int .i64)){fuel:Nat}{v:Value}{x:DataW H×List MemPlace}(h:DataW.trod enc Tryz.prog w base spare held fuel t [v]=some x):∃n,v=vI n∧In64 n:=by
 obtain⟨n,rfl,h1,h2⟩:=PO ht h;exact⟨n,rfl,h1,h2⟩
theorem Ie{t:TypeId}(ht:Tryz.prog.underlying t=some .string){fuel:Nat}{v:Value}{x:DataW H×List MemPlace}(h:DataW.trod enc Tryz.prog w base spare held fuel t [v]=some x)(hz:gQ t x.1):∃s,v=vT s∧dJ s.size:=by
 obtain⟨s,h1,h3,_⟩:=DataW.trod_string ht h;simp at h1;subst h3;refine⟨s,h1,P3 (k:=1) Nat.one_pos ?_⟩;have:=hz s.data.toList.length (by simp[DataW.weights]);rw[Qoz];simpa using this
theorem Ig{t:TypeId}{fs:Array Field}(hs:Tryz.prog.underlying t=some (.struct fs))(QbA:oneCellFields Tryz.prog fs=true)(hC:Tryz.prog.cellsOf t=fs.size){fuel:Nat}{cs:aP}{x:DataW H×List MemPlace}(h:DataW.trod enc Tryz.prog w base spare held fuel t cs=some x)(hz:gQ t x.1):cs.length=fs.size∧∃n:Nat,∀(i:Nat) (f:Field),fs[i]?=some f→∃(v:Value) (y:DataW H×List MemPlace),cs[i]?=some v∧DataW.trod enc Tryz.prog w base spare held n f.type [v]=some y∧gQ f.type y.1:=by
 obtain⟨xs,n,_,hxe,hlen,hxs,hf⟩:=DataW.trod_struct hs h;rw[hC]at hlen;refine⟨hlen,n,fun i f hi=> ?_⟩;have eV:i<fs.size:=(Array.getElem?_eq_some_iff.1 hi).1;obtain⟨ho,hc1⟩:=hone_of QbA i f hi;have h1:=hf i f hi;rw[ho,hc1,take1_drop cs i undef oM]at h1;rw[List.getElem?_eq_getElem (oM:i<xs.length)]at h1;refine⟨cs[i]'oM,xs[i]'oM,List.getElem?_eq_getElem oM,?_,fun m hm=>hz m ?_⟩
 ·rw[←h1];simp[List.getD,List.getElem?_eq_getElem (oM:i<cs.length)]
 ·subst hxe;simp only[DataW.weights,hs];exact DataW.weights_mem_each (j:=i) (by rw[List.getElem?_map];simp[hi]) (by rw[List.getElem?_map,List.getElem?_eq_getElem oM];rfl) m hm
theorem ot{t e:TypeId}{k:Nat}(ht:Tryz.prog.underlying t=some (.slice e))(hb:Tryz.prog.bytesOf e=k)(hk:0<k){fuel:Nat}{v:Value}{x:DataW H×List MemPlace}(h:DataW.trod enc Tryz.prog w base spare held fuel t [v]=some x)(hz:gQ t x.1):∃A len cap,v=vS A len cap∧dJ len∧∀i,i<len→∃(ad:Addr) (cs:aP) (n:Nat) (y:DataW H×List MemPlace),A=some ad∧cs.length=Tryz.prog.cellsOf e∧(∀(j:Nat) (v:Value),cs[j]?=some v→w.cell? ((ad.add (i*Tryz.prog.cellsOf e)).add j)=some v)∧DataW.trod enc Tryz.prog w base spare held n e cs=some y∧gQ e y.1:=by
 rcases DataW.trod_slice ht h with⟨oZ,_⟩|⟨a,len,cap,elems,rest,n,_,oZ,hxe,_,_,_,hel,hx,_⟩
 ·simp at oZ;subst oZ;exact⟨none,0,0,rfl,by simp[dJ],fun i hi=>absurd hi (QoB _)⟩
 ·simp at oZ;subst oZ;subst hxe;have hw:∀m,m∈(elems.map (·.1)).length*0::DataW.weightsAll Tryz.prog e (elems.map (·.1))→m≤reachBytes:=by
   intro m hm;rcases Qon.1 hm with rfl|hm
   ·omega
   ·refine hz m ?_;simp only[DataW.weights,ht];exact Qmq _ (Qox _ hm)
  refine⟨some a,len,cap,rfl,?_,fun i hi=> ?_⟩
  ·have h1:=hz (((elems.map (·.1)).length+(rest.map (·.1)).length)*Tryz.prog.bytesOf e) (by simp only[DataW.weights,ht];exact Qop);rw[hb,QlO,QlO,hel]at h1;exact P3 hk (QoJ (Nat.mul_le_mul_right k (Nat.le_add_right _ _)) h1)
  ·have h1:=hx i hi;rw[List.getElem?_eq_getElem (oM:i<elems.length)]at h1;cases hc:w.cells? base (a.add (i*Tryz.prog.cellsOf e)) (Tryz.prog.cellsOf e)with
   |none=>rw[hc]at h1;cases h1
   |some cs=>
    rw[hc]at h1;obtain⟨_,hlen,vU⟩:=World.cells?_some hc;refine⟨a,cs,n,elems[i]'oM,rfl,hlen,fun j v hj=> ?_,h1,fun m hm=>hw m (Qmq _ (Fa (d:=(elems[i]'oM).1) ?_ m hm))⟩
    ·rw[vU j (by have:=(List.getElem?_eq_some_iff.1 hj).1;omega)];exact hj
    ·exact Qhz.2 ⟨elems[i]'oM,QpC _,rfl⟩
theorem kj{t e:TypeId}{k:Nat}{fs:Array Field}(ht:Tryz.prog.underlying t=some (.slice e))(hs:Tryz.prog.underlying e=some (.struct fs))(QbA:oneCellFields Tryz.prog fs=true)(hC:Tryz.prog.cellsOf e=fs.size)(hb:Tryz.prog.bytesOf e=k)(hk:0<k){fuel:Nat}{v:Value}{x:DataW H×List MemPlace}(h:DataW.trod enc Tryz.prog w base spare held fuel t [v]=some x)(hz:gQ t x.1):∃A len cap,v=vS A len cap∧dJ len∧∀i,i<len→∃(ad:Addr) (cs:aP),A=some ad∧cs.length=fs.size∧(∀(j:Nat) (v:Value),cs[j]?=some v→w.cell? ((ad.add (i*fs.size)).add j)=some v)∧∃n:Nat,∀(j:Nat) (f:Field),fs[j]?=some f→∃(v:Value) (y:DataW H×List MemPlace),cs[j]?=some v∧DataW.trod enc Tryz.prog w base spare held n f.type [v]=some y∧gQ f.type y.1:=by
 obtain⟨A,len,cap,rfl,hl,hx⟩:=ot ht hb hk h hz;refine⟨A,len,cap,rfl,hl,fun i hi=> ?_⟩;obtain⟨ad,cs,n,y,hA,hlen,hc,VZ,hy⟩:=hx i hi;rw[hC]at hlen hc;exact⟨ad,cs,hA,hlen,hc,(Ig hs QbA hC VZ hy).2⟩
theorem Be{fuel:Nat}{v:Value}{x:DataW H×List MemPlace}(h:DataW.trod enc Tryz.prog w base spare held fuel 43 [v]=some x)(hz:gQ 43 x.1):∃A l c,v=vS A (List.length l) c∧dJ l.length∧(∀x,x∈l→In64 x)∧(bx.rd A (ints l)).holds w:=by
 obtain⟨A,len,cap,rfl,hl,hx⟩:=ot (k:=8) Tryz.underlying43 kR oM h hz;have c3:Tryz.prog.cellsOf 3=1:=kR;have:∀i,i<len→∃k:Int,In64 k∧∃ad,A=some ad∧w.cell? (ad.add i)=some (vI k):=by
  intro i hi;obtain⟨ad,cs,n,y,hA,hlen,hc,VZ,_⟩:=hx i hi;rw[c3]at hlen hc;match cs,hlen with
  |[c0],_=>
   obtain⟨k,rfl,hk⟩:=lE Tryz.underlying3 VZ;refine⟨k,hk,ad,hA,?_⟩;have h0:=hc 0 _ rfl;rw[Qoz]at h0;simpa[Addr.add]using h0
 obtain⟨l,rfl,hp⟩:=oh this;refine⟨A,l,cap,rfl,hl,fun k hk=> ?_,fun i v hi=> ?_⟩
 ·obtain⟨i,hi⟩:=Qmp.1 hk;exact(hp i k hi).1
 ·simp only[ints,List.getElem?_map,QoQ]at hi;obtain⟨k,hk,rfl⟩:=hi;exact(hp i k hk).2
theorem L2{fuel:Nat}{v:Value}{x:DataW H×List MemPlace}(h:DataW.trod enc Tryz.prog w base spare held fuel 47 [v]=some x)(hz:gQ 47 x.1):∃A l c,v=vS A (List.length l) c∧dJ l.length∧(∀p:bZ,p∈l→p.Ok∧(bx.rd p.A (ints p.args)).holds w)∧(bx.l7 A 2 (l.map bZ.cells)).holds w:=by
 obtain⟨A,len,cap,rfl,hl,hx⟩:=kj (k:=32) Tryz.underlying47 Tryz.underlying100 kR kR kR oM h hz;have:∀i,i<len→∃b:bZ,(b.Ok∧(bx.rd b.A (ints b.args)).holds w)∧∃ad:Addr,A=some ad∧∀(j:Nat) (v:Value),b.cells[j]?=some v→w.cell? ((ad.add (i*2)).add j)=some v:=by intro i hi;obtain⟨ad,cs,hA,UX,hc,n,hf⟩:=hx i hi;obtain⟨c0,c1,rfl⟩:=Qez UX;obtain⟨_,_,e,g0,zg0⟩:=hf 0 _ rfl;cases e;obtain⟨d,rfl,hd⟩:=lE Tryz.underlying3 g0;obtain⟨_,_,e,g1,zg1⟩:=hf 1 _ rfl;cases e;obtain⟨Aa,gs,ca,rfl,h1,h2,h3⟩:=Be g1 zg1;exact⟨⟨d,Aa,ca,gs⟩,⟨⟨hd,h1,h2⟩,h3⟩,ad,hA,hc⟩
 obtain⟨l,rfl,hp⟩:=oh this;refine⟨A,l,cap,rfl,hl,fun p jD=> ?_,fun i cs hi=> ?_⟩
 ·obtain⟨i,hi⟩:=Qmp.1 jD;exact(hp i p hi).1
 ·rw[List.getElem?_map]at hi;obtain⟨b,hb,rfl⟩:=QoQ.1 hi;exact(hp i b hb).2
theorem Ih{fuel:Nat}{v:Value}{x:DataW H×List MemPlace}(h:DataW.trod enc Tryz.prog w base spare held fuel 46 [v]=some x)(hz:gQ 46 x.1):∃A l c,v=vS A (List.length l) c∧dJ l.length∧(∀p:bl,p∈l→p.Ok∧(bx.rd p.A (ints p.args)).holds w)∧(bx.l7 A 5 (l.map bl.cells)).holds w:=by
 obtain⟨A,len,cap,rfl,hl,hx⟩:=kj (k:=64) Tryz.underlying46 Tryz.underlying45 kR kR kR oM h hz;have:∀i,i<len→∃b:bl,(b.Ok∧(bx.rd b.A (ints b.args)).holds w)∧∃ad:Addr,A=some ad∧∀(j:Nat) (v:Value),b.cells[j]?=some v→w.cell? ((ad.add (i*5)).add j)=some v:=by intro i hi;obtain⟨ad,cs,hA,UX,hc,n,hf⟩:=hx i hi;obtain⟨c0,c1,c2,c3,c4,rfl⟩:=ZZ UX;obtain⟨_,_,e,g0,zg0⟩:=hf 0 _ rfl;cases e;obtain⟨o,rfl,ho⟩:=lE Tryz.underlying3 g0;obtain⟨_,_,e,g1,zg1⟩:=hf 1 _ rfl;cases e;obtain⟨d,rfl,hd⟩:=lE Tryz.underlying3 g1;obtain⟨_,_,e,g2,zg2⟩:=hf 2 _ rfl;cases e;obtain⟨m,rfl,H2⟩:=lE Tryz.underlying2 g2;obtain⟨_,_,e,g3,zg3⟩:=hf 3 _ rfl;cases e;obtain⟨s,rfl,hs⟩:=Ie Tryz.underlying9 g3 zg3;obtain⟨_,_,e,g4,zg4⟩:=hf 4 _ rfl;cases e;obtain⟨Aa,gs,ca,rfl,h1,h2,h3⟩:=Be g4 zg4;exact⟨⟨o,d,m,s,Aa,ca,gs⟩,⟨⟨ho,hd,H2,hs,h1,h2⟩,h3⟩,ad,hA,hc⟩
 obtain⟨l,rfl,hp⟩:=oh this;refine⟨A,l,cap,rfl,hl,fun p jD=> ?_,fun i cs hi=> ?_⟩
 ·obtain⟨i,hi⟩:=Qmp.1 jD;exact(hp i p hi).1
 ·rw[List.getElem?_map]at hi;obtain⟨b,hb,rfl⟩:=QoQ.1 hi;exact(hp i b hb).2
theorem Ii{fuel:Nat}{v:Value}{x:DataW H×List MemPlace}(h:DataW.trod enc Tryz.prog w base spare held fuel 28 [v]=some x)(hz:gQ 28 x.1):∃A fs c,v=vS A (aq fs).length c∧pz fs∧(bx.fn A fs).holds w:=by
 obtain⟨A,len,cap,rfl,_,hx⟩:=kj (k:=80) Tryz.underlying28 Tryz.underlying49 kR kR kR oM h hz;have:∀i,i<len→∃b:aE,(b.Ok∧∀r,r∈b.parts→r.holds w)∧∃ad:Addr,A=some ad∧∀(j:Nat) (v:Value),b.sb.cells[j]?=some v→w.cell? ((ad.add (i*6)).add j)=some v:=by
  intro i hi;obtain⟨ad,cs,hA,UX,hc,n,hf⟩:=hx i hi;obtain⟨c0,c1,c2,c3,c4,c5,rfl⟩:=QeA UX;obtain⟨_,_,e,g0,zg0⟩:=hf 0 _ rfl;cases e;obtain⟨pA,ps,pc,rfl,Lx,hp2,l8⟩:=L2 g0 zg0;obtain⟨_,_,e,g1,zg1⟩:=hf 1 _ rfl;cases e;obtain⟨iA,js,ic,rfl,hi1,hi2,hi3⟩:=Ih g1 zg1;obtain⟨_,_,e,g2,zg2⟩:=hf 2 _ rfl;cases e;obtain⟨x2,rfl,h2⟩:=lE Tryz.underlying3 g2;obtain⟨_,_,e,g3,zg3⟩:=hf 3 _ rfl;cases e;obtain⟨x3,rfl,h3⟩:=lE Tryz.underlying3 g3;obtain⟨_,_,e,g4,zg4⟩:=hf 4 _ rfl;cases e;obtain⟨x4,rfl,h4⟩:=lE Tryz.underlying3 g4;obtain⟨_,_,e,g5,zg5⟩:=hf 5 _ rfl;cases e;obtain⟨x5,rfl,h5⟩:=lE Tryz.underlying3 g5;refine⟨⟨pA,pc,ps,iA,ic,js,x2,x3,x4,x5⟩,⟨⟨Lx,fun p hp=>(hp2 p hp).1,hi1,fun p hp=>(hi2 p hp).1,h2,h3,h4,h5⟩,fun r hr=> ?_⟩,ad,hA,hc⟩;unfold aE.parts at hr;rcases Qon.1 hr with rfl|hr
  ·exact l8
  ·rcases Qon.1 hr with rfl|hr
   ·exact hi3
   ·rcases Qn2.1 hr with hr|hr
    ·obtain⟨p,hp,rfl⟩:=Qhz.1 hr;exact(hp2 p hp).2
    ·obtain⟨p,hp,rfl⟩:=Qhz.1 hr;exact(hi2 p hp).2
 obtain⟨fs,rfl,P4⟩:=oh this;refine⟨A,fs,cap,by rw[bK],fun x hx=> ?_,fun r hr=> ?_⟩
 ·obtain⟨i,hi⟩:=Qmp.1 hx;exact(P4 i x hi).1.1
 ·rcases Qon.1 hr with rfl|hr
  ·intro i cs hi;unfold aq at hi;rw[List.getElem?_map,List.getElem?_map]at hi;obtain⟨b,hb,rfl⟩:=QoQ.1 hi;obtain⟨y,hy,rfl⟩:=QoQ.1 hb;exact(P4 i y hy).2
  ·obtain⟨y,hy,hr⟩:=Qo8.1 hr;obtain⟨i,hi⟩:=Qmp.1 hy;exact(P4 i y hi).1.2 r hr
end
end Go.Proofs.YtejbeeaomokjpaaGreat
namespace Go.Mor
def jd(fs:List aE)(k:Nat):Nat:=((fs.take k).map (fun x=>x.au.length+x.insts.length)).sum
def dw(fs:List aE):Nat:=fs.length+jd fs fs.length
theorem p7(fs:List aE):jd fs 0=0:=by simp[jd]
theorem ky{fs:List aE}{k:Nat}{x:aE}(h:fs[k]?=some x):jd fs (k+1)=jd fs k+(x.au.length+x.insts.length):=by
 obtain⟨hk,he⟩:=List.getElem?_eq_some_iff.1 h;unfold jd;rw[Qow hk,he];simp
theorem uQ{fs:List aE}(h:pz fs)(k:Nat)(hk:k≤fs.length):jd fs k≤k*562949953421312:=by
 induction k with
 |zero=>simp[p7]
 |succ k ih=>
  obtain⟨x,hx⟩:=aM (l:=fs) (i:=k) oM;have h1:x.au.length≤281474976710656:=(h.get hx).lp;have h2:x.insts.length≤281474976710656:=(h.get hx).li;rw[ky hx];have:=ih oM;omega
def eY(fs:List aE)(k:Nat):Nat:=((fs.take k).map (fun x=>min x.au.length 5000+min x.insts.length 5000)).sum
theorem C9(fs:List aE):eY fs 0=0:=by simp[eY]
theorem tv{fs:List aE}{k:Nat}{x:aE}(h:fs[k]?=some x):eY fs (k+1)=eY fs k+(min x.au.length 5000+min x.insts.length 5000):=by
 obtain⟨hk,he⟩:=List.getElem?_eq_some_iff.1 h;unfold eY;rw[Qow hk,he];simp
theorem Ik(fs:List aE)(k:Nat)(hk:k≤fs.length):eY fs k≤k*10000:=by
 induction k with
 |zero=>simp[C9]
 |succ k ih=>
  obtain⟨x,hx⟩:=aM (l:=fs) (i:=k) oM;rw[tv hx];have:=ih oM;omega
def fS(va:Int)(fs:List aE):Prop:=((60<fs.length∨3000<va)∧(va≤20000∨60<fs.length))∨(¬(60<fs.length∨3000<va)∧3000<eY fs fs.length)
instance (va : Int) (fs : List aE) : Decidable (fS va fs) := by unfold fS; infer_instance
theorem D3{va:Int}{fs:List aE}(h:¬fS va fs):fs.length≤60:=by
 unfold fS at h;omega
theorem L6{P:Program}{t:TypeId}(i j:Int)(w:World):(binOp .sub t (vI i) (vI j)).run P w= .ok (vI (IntKind.i64.wrap (i-j))) w:=by simp[binOp,Op.intArith]
def cO(b:Bool):Int:=cond b 1 0
theorem aY{b:Bool}{P R:Prop}[Decidable R](h:b=true↔P)(e:P↔R):Value.bool b=Value.bool (decide R):=by
 congr 1;rw[QpI,QhA];exact h.trans e
theorem iw(s:aV):((s.toList==(⟨#[]⟩:aV).toList)=true)=(s.size=0):=by
 rw[Qco,ByteArray.toList_eq,ByteArray.toList_eq];apply propext;constructor
 ·intro h;have h1:=Qlh List.length h;have e:s.data.toList.length=s.size:=Array.length_toList;rw[e]at h1;exact h1
 ·intro h;have h2:s.data=#[]:=Qqt h;rw[h2]
def bB(s:aV):Prop:=1≤s.size∧s.size≤60
instance (s : ByteArray) : Decidable (bB s) := by unfold bB; infer_instance
def aK(op:Int):Prop:=op≠3∧op≠10∧op≠11
instance (op : Int) : Decidable (aK op) := by unfold aK; infer_instance
def dj(n:Int):Prop:=1≤n∧n≤999
instance (n : Int) : Decidable (dj n) := by unfold dj; infer_instance
def de(n:Int):Prop:=0≤n∧n≤2147483647
instance (n : Int) : Decidable (de n) := by unfold de; infer_instance
def fU(N:Int)(x:aE):Prop:=(x.e=0∧(0≤x.a∧x.a<N)∧x.v=0∧x.b=0)∨(x.e=1∧(0≤x.a∧x.a<N)∧(0≤x.b∧x.b<N)∧x.a≠x.b)∨(x.e=2∧x.a=0∧x.b=0)∨(x.e=3∧dj x.a∧x.v=0∧x.b=0)
instance (N : Int) (x : aE) : Decidable (fU N x) := by unfold fU; infer_instance
def nr(N:Int)(x:aE):Prop:=fU N x∧(x.e=2→-1≤x.v)
instance (N : Int) (x : aE) : Decidable (nr N x) := by unfold nr; infer_instance
def bQ(i:bl):Prop:=(aK i.op∨i.dst= -1)∧((i.op=1∧i.name.size=0∧i.args.length=0)∨(i.op=2∧de i.n∧i.name.size=0∧i.args.length=1)∨(i.op=3∧de i.n∧i.name.size=0∧i.args.length=2)∨(i.op=4∧i.n=0∧bB i.name∧i.args.length≤16)∨(i.op=5∧i.n=0∧i.name.size=0∧1≤i.args.length∧i.args.length≤17)∨((i.op=6∨i.op=7)∧i.n=0∧bB i.name∧i.args.length=0)∨((i.op=8∨i.op=10∨i.op=12)∧i.n=0∧i.name.size=0∧i.args.length=1)∨(i.op=9∧i.n=0∧i.name.size=0∧i.args.length=0)∨(i.op=11∧dj i.n∧i.name.size=0∧i.args.length=1)∨((17≤i.op∧i.op≤32)∧i.n=0∧i.name.size=0∧i.args.length=2)∨((41≤i.op∧i.op≤43)∧i.n=0∧i.name.size=0∧i.args.length=1))
instance (i : bl) : Decidable (bQ i) := by unfold bQ; infer_instance
theorem Ku{i:bl}(h:i.op=1):bQ i↔(i.name.size=0∧i.args.length=0):=by
 unfold bQ aK bB dj de;rw[h];simp only[Int.reduceEq,Int.reduceNe,Int.reduceLE,QoU,QoO,QoX,QoM,Qo1,Qo6,QoR,QoY,Qpb,Qo2,Qpc,Qo9]
theorem xl{i:bl}(h:i.op=2):bQ i↔((0≤i.n∧i.n≤2147483647)∧i.name.size=0∧i.args.length=1):=by
 unfold bQ aK bB dj de;rw[h];simp only[Int.reduceEq,Int.reduceNe,Int.reduceLE,QoU,QoO,QoX,QoM,Qo1,Qo6,QoR,QoY,Qpb,Qo2,Qpc,Qo9]
theorem tw{i:bl}(h:i.op=3):bQ i↔(i.dst= -1∧(0≤i.n∧i.n≤2147483647)∧i.name.size=0∧i.args.length=2):=by
 unfold bQ aK bB dj de;rw[h];simp only[Int.reduceEq,Int.reduceNe,Int.reduceLE,QoU,QoO,QoX,QoM,Qo1,Qo6,QoR,QoY,Qpb,Qo2,Qpc,Qo9]
theorem Da{i:bl}(h:i.op=4):bQ i↔(i.n=0∧(1≤i.name.size∧i.name.size≤60)∧i.args.length≤16):=by
 unfold bQ aK bB dj de;rw[h];simp only[Int.reduceEq,Int.reduceNe,Int.reduceLE,QoU,QoO,QoX,QoM,Qo1,Qo6,QoR,QoY,Qpb,Qo2,Qpc,Qo9]
theorem Db{i:bl}(h:i.op=5):bQ i↔(i.n=0∧i.name.size=0∧1≤i.args.length∧i.args.length≤17):=by
 unfold bQ aK bB dj de;rw[h];simp only[Int.reduceEq,Int.reduceNe,Int.reduceLE,QoU,QoO,QoX,QoM,Qo1,Qo6,QoR,QoY,Qpb,Qo2,Qpc,Qo9]
theorem Kv{i:bl}(h:i.op=6):bQ i↔(i.n=0∧(1≤i.name.size∧i.name.size≤60)∧i.args.length=0):=by
 unfold bQ aK bB dj de;rw[h];simp only[Int.reduceEq,Int.reduceNe,Int.reduceLE,QoU,QoO,QoX,QoM,Qo1,Qo6,QoR,QoY,Qpb,Qo2,Qpc,Qo9]
theorem Kw{i:bl}(h:i.op=7):bQ i↔(i.n=0∧(1≤i.name.size∧i.name.size≤60)∧i.args.length=0):=by
 unfold bQ aK bB dj de;rw[h];simp only[Int.reduceEq,Int.reduceNe,Int.reduceLE,QoU,QoO,QoX,QoM,Qo1,Qo6,QoR,QoY,Qpb,Qo2,Qpc,Qo9]
theorem Dc{i:bl}(h:i.op=8):bQ i↔(i.n=0∧i.name.size=0∧i.args.length=1):=by
 unfold bQ aK bB dj de;rw[h];simp only[Int.reduceEq,Int.reduceNe,Int.reduceLE,QoU,QoO,QoX,QoM,Qo1,Qo6,QoR,QoY,Qpb,Qo2,Qpc,Qo9]
theorem Kx{i:bl}(h:i.op=9):bQ i↔(i.n=0∧i.name.size=0∧i.args.length=0):=by
 unfold bQ aK bB dj de;rw[h];simp only[Int.reduceEq,Int.reduceNe,Int.reduceLE,QoU,QoO,QoX,QoM,Qo1,Qo6,QoR,QoY,Qpb,Qo2,Qpc,Qo9]
theorem yg{i:bl}(h:i.op=10):bQ i↔(i.dst= -1∧i.n=0∧i.name.size=0∧i.args.length=1):=by
 unfold bQ aK bB dj de;rw[h];simp only[Int.reduceEq,Int.reduceNe,Int.reduceLE,QoU,QoO,QoX,QoM,Qo1,Qo6,QoR,QoY,Qpb,Qo2,Qpc,Qo9]
theorem tx{i:bl}(h:i.op=11):bQ i↔(i.dst= -1∧(1≤i.n∧i.n≤999)∧i.name.size=0∧i.args.length=1):=by
 unfold bQ aK bB dj de;rw[h];simp only[Int.reduceEq,Int.reduceNe,Int.reduceLE,QoU,QoO,QoX,QoM,Qo1,Qo6,QoR,QoY,Qpb,Qo2,Qpc,Qo9]
theorem yh{i:bl}(h:i.op=12):bQ i↔(i.n=0∧i.name.size=0∧i.args.length=1):=by
 unfold bQ aK bB dj de;rw[h];simp only[Int.reduceEq,Int.reduceNe,Int.reduceLE,QoU,QoO,QoX,QoM,Qo1,Qo6,QoR,QoY,Qpb,Qo2,Qpc,Qo9]
theorem ns{i:bl}(h:¬(1≤i.op∧i.op≤12)):bQ i↔(((17≤i.op∧i.op≤32)∧i.n=0∧i.name.size=0∧i.args.length=2)∨((41≤i.op∧i.op≤43)∧i.n=0∧i.name.size=0∧i.args.length=1)):=by
 have e:∀k:Int,1≤k→k≤12→(i.op=k)=False:=fun k h1 h2=>eq_false (fun e=>h ⟨oM,oM⟩)
 unfold bQ aK;simp only[QoR,e 1 dQ dQ,e 2 dQ dQ,e 3 dQ dQ,e 4 dQ dQ,e 5 dQ dQ,e 6 dQ dQ,e 7 dQ dQ,e 8 dQ dQ,e 9 dQ dQ,e 10 dQ dQ,e 11 dQ dQ,e 12 dQ dQ,QoU,QoO,QoM,Qo1,Qo6,QoY,Qo9]
theorem QeD{op:Int}(h1:¬op=1)(Ky:¬op=12)(h8:¬op=8)(xm:¬op=10)(h2:¬op=2)(h3:¬op=3)(h4:¬op=4)(h5:¬op=5)(h6:¬op=6)(h7:¬op=7)(h9:¬op=9)(Hy:¬op=11):¬(1≤op∧op≤12):=by
 rintro⟨a,b⟩;have e:op=1∨op=2∨op=3∨op=4∨op=5∨op=6∨op=7∨op=8∨op=9∨op=10∨op=11∨op=12:=by clear h1 h2 h3 h4 h5 h6 h7 h8 h9 xm Hy Ky;omega
 rcases e with e|e|e|e|e|e|e|e|e|e|e|e<;>contradiction
theorem P9{i:bl}{cd:Int}(h0:¬(1≤i.op∧i.op≤12))(h1:i.op<40)(ho: -9223372036854775808≤i.op∧i.op≤9223372036854775807)(hc:cd=0↔1≤IntKind.i64.wrap (i.op-16)∧IntKind.i64.wrap (i.op-16)≤16):((((cd=0)∧(i.n=0))∧(i.name.size=0))∧((i.args.length:Int)=2))↔bQ i:=by
 rw[ns h0];have hw:=IntKind.wrap_i64 (i.op-16);have e:(1≤IntKind.i64.wrap (i.op-16)∧IntKind.i64.wrap (i.op-16)≤16)↔(17≤i.op∧i.op≤32):=by rw[hw];omega
 rw[e]at hc;rw[hc];constructor
 ·rintro⟨⟨⟨a,b⟩,c⟩,d⟩;exact .inl ⟨a,b,c,oM⟩
 ·rintro(⟨a,b,c,d⟩|⟨a,_⟩)
  ·exact⟨⟨⟨a,b⟩,c⟩,oM⟩
  ·omega
theorem Qa{i:bl}{cd:Int}(h1:¬i.op<40)(hc:cd=0↔1≤i.op-40∧i.op-40≤3):((((cd=0)∧(i.n=0))∧(i.name.size=0))∧((i.args.length:Int)=1))↔bQ i:=by
 rw[ns oM];have e:(1≤i.op-40∧i.op-40≤3)↔(41≤i.op∧i.op≤43):=oM;rw[e]at hc;rw[hc];constructor
 ·rintro⟨⟨⟨a,b⟩,c⟩,d⟩;exact .inr ⟨a,b,c,oM⟩
 ·rintro(⟨a,_⟩|⟨a,b,c,d⟩)
  ·omega
  ·exact⟨⟨⟨a,b⟩,c⟩,oM⟩
theorem L7{i:bl}(h:(¬(aK i.op))∧(i.dst≠-1)):False↔bQ i:=⟨False.elim,fun e=>e.1.elim h.1 h.2⟩
end Go.Mor
namespace Go.Mor
open Go.RowKit
theorem nq(zs:aP)(n:Nat)(hz:0<zs.length):(madeCells zs.toArray (n*zs.length)).toList=(List.replicate n zs).flatten:=by
 have hlen:((List.replicate n zs).flatten).length=n*zs.length:=sI;apply QoL;intro j;by_cases hj:j<n*zs.length
 ·have h1:j % zs.length<zs.length:=Nat.mod_lt _ hz;have e1:(madeCells zs.toArray (n*zs.length)).toList[j]?=some zs[j % zs.length]:=by simp[madeCells,hj,h1]
  rw[e1];clear e1;have h2:j / zs.length<n:=Nat.div_lt_of_lt_mul (by rwa [Nat.mul_comm]at hj);have key:∀n q,q<n→∀r (hr:r<zs.length),((List.replicate n zs).flatten)[q*zs.length+r]?=some zs[r]:=by
   intro n;induction n with
   |zero=>intro q hq;omega
   |succ n ih=>
    intro q hq r hr;rw[Qpx,List.flatten_cons];cases q with
    |zero=>
     rw[Nat.zero_mul,Qpd,List.getElem?_append_left hr];simp[hr]
    |succ q=>
     rw[List.getElem?_append_right (by rw[QpP];omega),show(q+1)*zs.length+r-zs.length=q*zs.length+r by rw[QpP];omega];exact ih q oM r hr
  have:=key n (j / zs.length) h2 (j % zs.length) h1;rw[Nat.div_add_mod' j zs.length]at this;exact this.symm
 ·have e1:((List.replicate n zs).flatten)[j]?=none:=List.getElem?_eq_none (by rw[hlen];omega);rw[e1];apply List.getElem?_eq_none;simp[madeCells];omega
section
variable {P : Program} {c : Code} {K : Act → World → Prop} {Q : Exit → Act → World → Prop} {a : Act} {w w0 : World} {S : Nat → Prop} {L : List bx} {k k' : Nat} {N : FN} {env : Env}
variable {d : Option Nat} {ty : Nat} {g : Option (Nat × Bool)}
theorem x9{t:TypeId}{x y:Operand}(hk:ax c k=some (d,.makeSlice t x y,ty,g))(hF:Fr a N env)(hg:bD c g env=some true)(hd:gp d N=true)(iO:k+1=k'){e bytes size:Nat}{zs:aP}{n:Nat}{i:Int}(hx:ev env x=some (vI i))(hy:ev env y=some (vI i))(hn:i=(n:Int))(ht:P.underlying t=some (.slice e))(hi:(P.info? e).map (fun i=>(i.size,i.bytes,i.zero))=some (size,bytes,some (.agg zs.toArray)))(hs:size=zs.length)(hz:0<zs.length)(hb:bytes*n≤140737488355328)(hl:n≤maxLen)(hM:Mem S w0 w L)(h:∀b w',w0.heap.size≤b→w.heap.size≤b→Mem S w0 w' (L++[.row e size (some (aZ b)) n n (List.replicate n zs).flatten])→Mem bq w w' [.row e size (some (aZ b)) n n (List.replicate n zs).flatten]→∀a',a'=a.put d (vS (some (aZ b)) n n)→Fr a' N (dq env d (vS (some (aZ b)) n n))→bz P c K Q k' a' w'):bz P c K Q k a w:=by
 subst iO;subst hn;cases l6:P.info? e with
 |none=>simp[l6]at hi
 |some inf=>
  simp only[l6,Fc,Kr,Qaq]at hi;obtain⟨PN,hby,E0⟩:=hi;subst hby;obtain⟨w',hr,Ac,LR⟩:=run_make_full (P:=P) w 0 t e inf (.agg zs.toArray) size ht l6 E0 PN .i64 .i64 n oM hl (Qom _);have hc:(madeCells (Value.agg zs.toArray).cells (n*size)).toList=(List.replicate n zs).flatten:=by rw[hs];exact nq zs n hz
  rw[hc]at Ac;have hm:Mem bq w w' [.row e size (some (aZ w.heap.size)) n n (List.replicate n zs).flatten]:=by refine⟨LR.os,LR.tape,LR.output,LR.size,fun k hk _=>LR.block k hk sI,?_,Jb _ _⟩;simp only[yX];rintro _ rfl;refine⟨Ac,?_⟩;rintro g' ⟨a',nW,rfl⟩;injection nW with nW;subst nW;exact .inr (kQ _)
  refine ib hk hF hg (v:=vS (some (aZ w.heap.size)) n n) (w':=w') (fun o ho _=> ?_) (h w.heap.size w' hM.size (kQ _) (hM.call hm) hm _ rfl (hF.put hd _));unfold execOp;rw[ho];simp only[hF.ev hx,hF.ev hy,Qor,hr,QnS];rfl
theorem lF(a:Addr)(i j:Nat):(a.add i).add j=a.add (i+j):=by
 unfold Addr.add;by_cases hi:i=0<;>by_cases hj:j=0<;>simp[hi,hj,QpG]
def setAt:aP→Nat→aP→aP
 |xs,_,[]=>xs
 |xs,j,v::vs=>setAt (xs.set j v) (j+1) vs
theorem wY{e size n cap:Nat}{ad ad':Addr}:∀(vs:aP) (i j:Nat) {xs:aP} {w:World},(∀v∈vs,v.oneCell'=true)→(bx.row e size (some ad) n cap xs).holds w→ad'.add i=ad.add j→ad'.add 0=ad'→(∀q,ad'.add (i+q)=ad.add (j+q))→j+vs.length≤n*size→∃w',(storeCells ad' vs i).run P w= .ok () w'∧Mem (bx.row e size (some ad) n cap xs).fp w w' [.row e size (some ad) n cap (setAt xs j vs)]
 |[],i,j,xs,w,_,hb,_,_,_,_=>⟨w,by simp[storeCells],by simpa[setAt]using Mem.oY hb⟩
 |v::vs,i,j,xs,w,h1,hb,he,h0,hq,hl=>by
  simp only[QoE]at hl;have hm:=Mem.CX (j:=j) hb v;have AX:=hm.get 0 rfl;obtain⟨w',hr,Px⟩:=wY vs (i+1) (j+1) (fun u hu=>h1 u (Qmq _ hu)) AX (hq 1) h0 (fun q=>by have:=hq (1+q);rwa [←QpG,←QpG]at this) oM;refine⟨w',?_,?_⟩
  ·have Z0:xs.length=n*size:=hb.1;obtain⟨u,hu⟩:∃u,xs[j]?=some u:=⟨_,List.getElem?_eq_getElem oM⟩;obtain⟨a0,OS,vU⟩:=aD hb j u hu;injection OS with OS;subst OS;have rZ:(store (ad.add j) v).run P w= .ok () (w.setCell (ad.add j) v):=by rw[run_store P w _ v .plain (h1 v (Qop ..)),vU];simp[oe hb]
   simp only[storeCells,Qor,he,rZ,QnS,hr]
  ·have:=hm.mod 0 rfl Px;simpa[setAt]using this
theorem gE{t:TypeId}{x y:Operand}(hk:ax c k=some (d,.store t x y,ty,g))(hF:Fr a N env)(hg:bD c g env=some true)(hd:gp d N=true)(iO:k+1=k'){ad ad':Addr}{j e size n cap:Nat}{vs xs:aP}(hx:ev env x=some (vP ad'))(had:ad'=ad.add j)(hy:ev env y=some (.agg vs.toArray))(ht:uJ P t=some vs.length)(hv:∀v∈vs,v.oneCell'=true)(hM:Mem S w0 w L)(i:Nat)(hi:L[i]?=some (.row e size (some ad) n cap xs))(hj:j+vs.length≤n*size)(h:∀w',Mem S w0 w' (L.set i (.row e size (some ad) n cap (setAt xs j vs)))→Mem (bx.row e size (some ad) n cap xs).fp w w' [.row e size (some ad) n cap (setAt xs j vs)]→∀a',a'=a.put d undef→Fr a' N (dq env d undef)→bz P c K Q k' a' w'):bz P c K Q k a w:=by
 subst iO;subst had;have hb:=hM.get i hi;obtain⟨w',hr,hm⟩:=wY (P:=P) (ad':=ad.add j) vs 0 j hv hb (by rw[lF];rfl) (by rw[lF];rfl) (fun q=>by rw[lF,Qpd]) hj;refine ni hk hF hg (w':=w') (fun o Vu=> ?_) (h _ (by simpa using hM.mod i hi hm) hm _ rfl (hF.put hd _));unfold execOp;rw[Vu];simp[Instr.storeAt,Instr.sureAddr,hF.ev hx,hF.ev hy,storeVar,(lg ht w).2,Value.cells,hr]
end
end Go.Mor
namespace Go.Mor
open Go.RowKit
theorem bT{P:Program}{c:Code}{K:Act→World→Prop}{Q:Exit→Act→World→Prop}{a:Act}{w:World}{k:Nat}{N:FN}{env:Env}(d:Option Nat)(A:ar)(ad:Addr)(n size:Nat)(i:Int)(hF:Fr a N env)(hk:VW P c N env k=some (d,A,n,size,i))(hA:A=some ad)(h0:0≤i)(h1:i<n)(h:∀a',Fr a' N (dq env d (vP (ad.add (i.toNat*size))))→bz P c K Q (k+1) a' w):bz P c K Q k a w:=mj d ad n size i hF (by rw[hk,hA]) h0 h1 h
end Go.Mor
namespace Go.Mor
open Go.RowKit
def lG:List (Bool×bx)→List bx
 |[]=>[]
 |(b,r)::l=>cond b [r] []++lG l
theorem Qc9:∀(l:List (Bool×bx)) (i:Nat) {r r':bx},l[i]?=some (false,r')→(lG l++[r]).Perm (lG (l.set i (true,r)))
 |[],i,r,r',h=>by simp at h
 |(b,q)::l,0,r,r',h=>by simp at h;obtain⟨rfl,rfl⟩:=h;show((cond false [q] []++lG l)++[r]).Perm (cond true [r] []++lG l);simp only[cond_false,QpD,cond_true];exact List.perm_append_comm
 |(b,q)::l,i+1,r,r',h=>by have:=Qc9 l i (r:=r) (r':=r') (by simpa using h);show((cond b [q] []++lG l)++[r]).Perm (cond b [q] []++lG (l.set i (true,r)));rw[QoC];exact this.append_left _
theorem Mem.group{S:Nat→Prop}{w0 w:World}{L:List bx}{l:List (Bool×bx)}{r r':bx}(h:Mem S w0 w ((L++lG l)++[r]))(i:Nat)(hi:l[i]?=some (false,r')):Mem S w0 w (L++lG (l.set i (true,r))):=by
 refine h.perm ?_;rw[QoC];exact(Qc9 l i hi).append_left _
end Go.Mor
namespace Go.Mor
open Go.RowKit
section
variable {P : Program} {c : Code} {K : Act → World → Prop} {Q : Exit → Act → World → Prop} {a : Act} {w w0 : World} {S : Nat → Prop} {L : List bx} {k k' : Nat} {N : FN} {env : Env}
variable {d : Option Nat} {ty : Nat} {g : Option (Nat × Bool)}
theorem mm{t:TypeId}(hk:ax c k=some (d,.buildSlice t 0 #[],ty,g))(hF:Fr a N env)(hg:bD c g env=some true)(hd:gp d N=true)(iO:k+1=k'){e size:Nat}(ht:P.underlying t=some (.slice e))(hi:(P.info? e).map (fun i=>i.size)=some size)(hM:Mem S w0 w L)(h:∀b w',w0.heap.size≤b→w.heap.size≤b→Mem S w0 w' (L++[.row e size (some (aZ b)) 0 0 []])→Mem bq w w' [.row e size (some (aZ b)) 0 0 []]→∀a',a'=a.put d (vS (some (aZ b)) 0 0)→Fr a' N (dq env d (vS (some (aZ b)) 0 0))→bz P c K Q k' a' w'):bz P c K Q k a w:=by
 subst iO;have rX:(bx.row e size (some (aZ w.heap.size)) 0 0 []).holds (w.alloc (.cells #[] e)):=by have:=World.ownsRow_lit (base:=0) (e:=e) (size:=size) w #[] 0 (Qom _) (by simp only[maxLen];omega) sI;show World.ownsRow _ _ _ _ _ _ _;simpa using this
 have hm:Mem bq w (w.alloc (.cells #[] e)) [.row e size (some (aZ w.heap.size)) 0 0 []]:=by refine(Mem.alloc w e []).say 0 rfl (fun _=>rX) ?_;rintro g' ⟨a',nW,rfl⟩;injection nW with nW;subst nW;rfl
 refine ib hk hF hg (v:=vS (some (aZ w.heap.size)) 0 0) (w':=w.alloc (.cells #[] e)) (fun o ho _=> ?_) (h w.heap.size (w.alloc (.cells #[] e)) hM.size (kQ _) (hM.call hm) hm _ rfl (hF.put hd _));unfold execOp;rw[ho];cases l6:P.info? e with
 |none=>simp[l6]at hi
 |some inf=>
  have Vw:(sizeOf e).run P w= .ok inf.size w:=by simp[sizeOf,typeInfo,l6]
  simp only[Qp5,Qps,Instr.buildSlice,Qor,QoH ht,Vw,QnS,Nat.zero_mul,Nat.reducePow,gt_iff_lt,QoB,Qo0,Qpj,Qo4,show Array.range 0=#[]from rfl,Array.toList_empty,Instr.fill,newRow,run_newObj];rfl
end
end Go.Mor
namespace Go.Mor
open Go.RowKit
def ia(l:List (Int×Int)):aP:=l.flatMap (fun p=>[vI p.1,vI p.2])
theorem Dd(l:List (Int×Int)):(ia l).length=l.length*2:=by
 induction l with
 |nil=>rfl
 |cons x l ih=>simp[ia]at ih⊢;omega
theorem Qb{l:List (Int×Int)}{i:Nat}{p:Int×Int}(h:l[i]?=some p):(ia l)[i*2]?=some (vI p.1)∧(ia l)[i*2+1]?=some (vI p.2):=by
 induction l generalizing i with
 |nil=>simp at h
 |cons x l ih=>
  have e:ia (x::l)=vI x.1:: .int .i64 x.2::ia l:=rfl;rw[e];cases i with
  |zero=>simp at h;subst h;exact⟨rfl,rfl⟩
  |succ i=>
   simp at h;obtain⟨h1,h2⟩:=ih h;refine⟨?_,?_⟩
   ·rw[show(i+1)*2=i*2+1+1 by omega];simpa using h1
   ·rw[show(i+1)*2+1=i*2+1+1+1 by omega];simpa using h2
theorem De{l:List (Int×Int)}{i:Nat}(a b:Int)(h:i<l.length):setAt (ia l) (i*2) [vI a,vI b]=ia (l.set i (a,b)):=by
 induction l generalizing i with
 |nil=>simp at h
 |cons x l ih=>
  have e:ia (x::l)=vI x.1:: .int .i64 x.2::ia l:=rfl;cases i with
  |zero=>rfl
  |succ i=>
   have:=ih (i:=i) (by simpa using h);rw[e,show(i+1)*2=i*2+1+1 by omega,Qqu];show setAt (.int .i64 x.1:: .int .i64 x.2::ia l) (i*2+1+1) [vI a,vI b]=vI x.1:: .int .i64 x.2::ia (l.set i (a,b));rw[←this];simp[setAt]
theorem Fh{l:List (Int×Int)}{i:Nat}{p:Int×Int}(a:Int)(h:l[i]?=some p):(ia l).set (i*2) (vI a)=ia (l.set i (a,p.2)):=by
 induction l generalizing i with
 |nil=>simp at h
 |cons x l ih=>
  have e:ia (x::l)=vI x.1:: .int .i64 x.2::ia l:=rfl;cases i with
  |zero=>simp at h;subst h;rfl
  |succ i=>
   simp at h;have:=ih h;rw[e,show(i+1)*2=i*2+1+1 by omega];show .int .i64 x.1:: .int .i64 x.2::(ia l).set (i*2) (vI a)=vI x.1:: .int .i64 x.2::ia (l.set i (a,p.2));rw[this]
theorem Kz(n:Nat)(a b:Int):(List.replicate n [vI a,vI b]).flatten=ia (List.replicate n (a,b)):=by
 induction n with
 |zero=>rfl
 |succ n ih=>rw[Qpx,Qpx,List.flatten_cons,ih];rfl
theorem KA{w:World}{A:ar}{ad:Addr}{l:List (Int×Int)}(h:(bx.rd A (ia l)).holds w)(hA:A=some ad){i:Nat}{p:Int×Int}(hi:l[i]?=some p):∀j v,[vI p.1,vI p.2][j]?=some v→w.cell? ((ad.add (i*2)).add j)=some v:=by
 intro j v hj;obtain⟨h1,h2⟩:=Qb hi;rw[lF];have key:∀q u,(ia l)[q]?=some u→w.cell? (ad.add q)=some u:=by intro q u hu;obtain⟨a',nW,hc⟩:=h q u hu;rw[hA]at nW;injection nW with nW;subst nW;exact hc
 match j,hj with
 |0,hj=>simp at hj;subst hj;exact key _ _ h1
 |1,hj=>simp at hj;subst hj;exact key _ _ h2
theorem yi{w:World}{A:ar}{ad:Addr}{l:List (Int×Int)}(h:(bx.rd A (ia l)).holds w)(hA:A=some ad){i:Nat}{p:Int×Int}(hi:l[i]?=some p):w.cell? (ad.add (i*2))=some (vI p.1):=by
 have:=KA h hA hi 0 _ rfl;rwa [lF]at this
theorem p8{α:Type}{l:List α}{i:Nat}(d:α)(h:i<l.length):l[i]?=some (l.getD i d):=by simp[List.getD,List.getElem?_eq_getElem h]
def kz(lo hi:Int)(l:List (Int×Int))(v:Int):Prop:=(lo≤v∧v<hi)∧(l.getD v.toNat (0,0)).1<0
instance (lo hi : Int) (l : List (Int × Int)) (v : Int) : Decidable (kz lo hi l v) := by unfold kz; infer_instance
abbrev tz:=List (Int×Int×Int)
def cW(b:Int)(l:List bZ):tz:=l.map (fun p=>(p.dst,b,-1))
def dv(b:Int)(l:List bl):tz:=(l.zipIdx.filter (fun x=>decide (aK x.1.op))).map (fun x=>(x.1.dst,b,(x.2:Int)))
def eZ(b:Int)(x:aE):tz:=cW b x.au++dv b x.insts
def dz(fs:List aE)(n:Nat):tz:=((fs.take n).zipIdx).flatMap (fun x=>eZ (x.2:Int) x.1)
def bO(fs:List aE):tz:=dz fs fs.length
theorem ix{b:Int}{l:List bZ}{k:Nat}{p:bZ}(h:l[k]?=some p):cW b (l.take (k+1))=cW b (l.take k)++[(p.dst,b,-1)]:=by
 obtain⟨hk,he⟩:=List.getElem?_eq_some_iff.1 h;rw[Qow hk,he];simp[cW]
theorem mn{α:Type}{l:List α}{k:Nat}{p:α}(h:l[k]?=some p):(l.take (k+1)).zipIdx=(l.take k).zipIdx++[(p,k)]:=by
 obtain⟨hk,he⟩:=List.getElem?_eq_some_iff.1 h;rw[Qow hk,he,List.zipIdx_append];simp[Nat.min_eq_left (Nat.le_of_lt hk)]
theorem jg{b:Int}{l:List bl}{k:Nat}{p:bl}(h:l[k]?=some p)(hm:aK p.op):dv b (l.take (k+1))=dv b (l.take k)++[(p.dst,b,(k:Int))]:=by
 unfold dv;rw[mn h,QoW,Qou];simp[hm]
theorem ow{b:Int}{l:List bl}{k:Nat}{p:bl}(h:l[k]?=some p)(hm:¬aK p.op):dv b (l.take (k+1))=dv b (l.take k):=by
 unfold dv;rw[mn h,QoW,Qou];simp[hm]
theorem mq(fs:List aE):dz fs 0=[]:=by simp[dz]
theorem ie{fs:List aE}{k:Nat}{x:aE}(h:fs[k]?=some x):dz fs (k+1)=dz fs k++eZ (k:Int) x:=by
 unfold dz;rw[mn h,QpQ];simp
theorem tA{fs:List aE}{n:Nat}{d:Int×Int×Int}(h:d∈dz fs n):0≤d.2.1∧d.2.1<n∧-1≤d.2.2:=by
 unfold dz at h;rw[Qo8]at h;obtain⟨x,hx,hd⟩:=h;have Df:x.2<n:=by
  have:=List.snd_lt_of_mem_zipIdx hx;have h2:(fs.take n).length≤n:=by simp;omega
  omega
 unfold eZ at hd;rcases Qn2.1 hd with hd|hd
 ·unfold cW at hd;obtain⟨p,_,rfl⟩:=Qhz.1 hd;exact⟨Qqa _,by show(x.2:Int)<n;omega,by show(-1:Int)≤-1;omega⟩
 ·unfold dv at hd;obtain⟨p,_,rfl⟩:=Qhz.1 hd;exact⟨Qqa _,by show(x.2:Int)<n;omega,by show(-1:Int)≤(p.2:Int);omega⟩
def findD(ds:tz)(v:Int):Option (Int×Int):=(ds.find? (fun d=>d.1==v)).map (·.2)
theorem gy{ds:tz}{v:Int}(h:v∉ds.map (·.1)):findD ds v=none:=by
 unfold findD;rw[PM,List.find?_eq_none];intro d hd he;rw[Qco]at he;exact h (Qhz.2 ⟨d,hd,he⟩)
theorem ig{ds:tz}{v:Int}(h:v∈ds.map (·.1)):∃p,findD ds v=some p∧(v,p)∈ds:=by
 unfold findD;obtain⟨d,hd,hv⟩:=Qhz.1 h;cases hf:ds.find? (fun d=>d.1==v)with
 |none=>
  have:=List.find?_eq_none.1 hf d hd;simp[hv]at this
 |some e=>
  have h1:=List.find?_some hf;have h2:=List.mem_of_find?_eq_some hf;rw[Qco]at h1;refine⟨e.2,rfl,?_⟩;rw[←h1];exact h2
theorem Qd6{ds:tz}{v b k:Int}(h:v∉ds.map (·.1))(u:Int):findD (ds++[(v,b,k)]) u=if u=v then some (b,k)else findD ds u:=by
 unfold findD;rw[List.find?_append];by_cases e:u=v
 ·subst e;have:ds.find? (fun d=>d.1==u)=none:=by rw[List.find?_eq_none];intro d hd he;rw[Qco]at he;exact h (Qhz.2 ⟨d,hd,he⟩)
  rw[this];simp
 ·rw[Ds e];have:([(v,b,k)]:tz).find? (fun d=>d.1==u)=none:=by rw[List.find?_eq_none];intro d hd he;simp at hd;subst hd;rw[Qco]at he;exact e he.symm
  rw[this];simp
structure Bn(n:Nat)(base:Nat→Int×Int)(enc:Int×Int→Int×Int)(ds:tz)(l:List (Int×Int)):Prop where
 len:l.length=n
 at_:∀v:Nat,v<n→l[v]?=some (match findD ds (v:Int)with
  |some p=>enc p
  |none=>base v)
def eO(lo hi:Int)(ds:tz):Prop:=(∀d,d∈ds→lo≤d.1∧d.1<hi)∧(ds.map (·.1)).Nodup
theorem eO.nil(lo hi:Int):eO lo hi []:=⟨sI,sI⟩
theorem eO.snoc{lo hi:Int}{ds:tz}{v b k:Int}:eO lo hi (ds++[(v,b,k)])↔eO lo hi ds∧(lo≤v∧v<hi)∧v∉ds.map (·.1):=by
 unfold eO;constructor
 ·rintro⟨h1,h2⟩;rw[Qou,QoS]at h2;refine⟨⟨fun d hd=>h1 d (Qox _ hd),h2.1⟩,h1 (v,b,k) sI,fun hm=>h2.2.2 v hm v sI rfl⟩
 ·rintro⟨⟨h1,h2⟩,h3,h4⟩;refine⟨fun d hd=> ?_,?_⟩
  ·rcases Qn2.1 hd with hd|hd
   ·exact h1 d hd
   ·simp at hd;subst hd;exact h3
  ·rw[Qou,QoS];refine⟨h2,sI,fun a ha c hc e=> ?_⟩;simp at hc;subst hc;subst e;exact h4 ha
theorem eO.pre{lo hi:Int}{ds es:tz}(h:eO lo hi (ds++es)):eO lo hi ds:=by
 obtain⟨h1,h2⟩:=h;rw[Qou,QoS]at h2;exact⟨fun d hd=>h1 d (Qox _ hd),h2.1⟩
theorem Bn.put{n:Nat}{base:Nat→Int×Int}{enc:Int×Int→Int×Int}{ds:tz}{l:List (Int×Int)}(h:Bn n base enc ds l){v b k:Int}(h0:0≤v)(h1:v<n)(hv:v∉ds.map (·.1)):Bn n base enc (ds++[(v,b,k)]) (l.set v.toNat (enc (b,k)))where
 len:=by rw[Qpa,h.len]
 at_:=fun u hu=>by
  rw[Qd6 hv];by_cases e:(u:Int)=v
  ·have:u=v.toNat:=oM;rw[Kt e,this,List.getElem?_set_self (by rw[h.len];omega)]
  ·rw[Ds e,List.getElem?_set_ne oM];exact h.at_ u hu
end Go.Mor
namespace Go.Mor
open Go.RowKit
def VQ(pa va:Int)(fs:List aE):Prop:=(∀x,x∈fs→∀p,p∈x.insts→bQ p)∧eO pa va (bO fs)
def kF(fs:List aE)(k:Nat):Prop:=∀(i:Nat) (x:aE),i<k→fs[i]?=some x→∀p,p∈x.insts→bQ p
def nB(x:aE)(j:Nat):Prop:=∀(i:Nat) (p:bl),i<j→x.insts[i]?=some p→bQ p
theorem kF.next{fs:List aE}{k:Nat}{x:aE}(h:kF fs k)(hx:fs[k]?=some x)(hi:nB x x.insts.length):kF fs (k+1):=by
 intro i y hik hy p hp;rcases MW i k with h1|h1
 ·exact h i y h1 hy p hp
 ·have:i=k:=oM;subst this;rw[hx]at hy;injection hy with hy;subst hy;obtain⟨j,hj⟩:=Qmp.1 hp;exact hi j p (List.getElem?_eq_some_iff.1 hj).1 hj
theorem nB.next{x:aE}{j:Nat}{p:bl}(h:nB x j)(hp:x.insts[j]?=some p)(hs:bQ p):nB x (j+1):=by
 intro i q LY hq;rcases MW i j with h1|h1
 ·exact h i q h1 hq
 ·have:i=j:=oM;subst this;rw[hp]at hq;injection hq with hq;exact hq▸hs
theorem kF.all{fs:List aE}(h:kF fs fs.length):∀x,x∈fs→∀p,p∈x.insts→bQ p:=by
 intro x hx;obtain⟨i,hi⟩:=Qmp.1 hx;exact h i x (List.getElem?_eq_some_iff.1 hi).1 hi
theorem yP{fs:List aE}(k:Nat):∀n,k≤n→n≤fs.length→∃es,dz fs n=dz fs k++es:=by
 intro n;induction n with
 |zero=>intro h _;exact⟨[],by rw[Nat.le_zero.1 h];simp⟩
 |succ n ih=>
  intro h hn;rcases MW n k with h1|h1
  ·have:k=n+1:=oM;subst this;exact⟨[],sI⟩
  ·obtain⟨es,he⟩:=ih h1 oM;obtain⟨x,hx⟩:=aM (l:=fs) (i:=n) oM;exact⟨es++eZ n x,by rw[ie hx,he,QoC]⟩
theorem WV(b:Int)(l:List bZ)(j:Nat):∃es,cW b l=cW b (l.take j)++es:=⟨cW b (l.drop j),by unfold cW;rw[←Qou,Qpq]⟩
theorem WW(b:Int)(l:List bl)(j:Nat):∃es,dv b l=dv b (l.take j)++es:=by
 have e:l.zipIdx=(l.take j).zipIdx++(l.drop j).zipIdx (0+(l.take j).length):=by rw[←List.zipIdx_append,Qpq]
 refine⟨(((l.drop j).zipIdx (0+(l.take j).length)).filter (fun x=>decide (aK x.1.op))).map (fun x=>(x.1.dst,b,(x.2:Int))),?_⟩;unfold dv;rw[e,QoW,Qou]
theorem FW{fs:List aE}{pa va:Int}{k:Nat}{x:aE}(hx:fs[k]?=some x)(j:Nat)(h:eO pa va (bO fs)):eO pa va (dz fs k++cW k (x.au.take j)):=by
 have hk:=(List.getElem?_eq_some_iff.1 hx).1;obtain⟨es,he⟩:=yP (fs:=fs) (k+1) fs.length hk (kQ _);obtain⟨e2,h2⟩:=WV k x.au j;have:bO fs=(dz fs k++cW k (x.au.take j))++(e2++dv k x.insts++es):=by unfold bO;rw[he,ie hx,eZ,h2];simp only[QoC]
 rw[this]at h;exact h.pre
theorem FX{fs:List aE}{pa va:Int}{k:Nat}{x:aE}(hx:fs[k]?=some x)(j:Nat)(h:eO pa va (bO fs)):eO pa va (dz fs k++cW k x.au++dv k (x.insts.take j)):=by
 have hk:=(List.getElem?_eq_some_iff.1 hx).1;obtain⟨es,he⟩:=yP (fs:=fs) (k+1) fs.length hk (kQ _);obtain⟨e2,h2⟩:=WW k x.insts j;have:bO fs=(dz fs k++cW k x.au++dv k (x.insts.take j))++(e2++es):=by unfold bO;rw[he,ie hx,eZ,h2];simp only[QoC]
 rw[this]at h;exact h.pre
structure Enc(lo pa:Int)(n:Nat)(base:Nat→Int×Int)(enc:Int×Int→Int×Int):Prop where
 base:∀v:Nat,v<n→lo≤(v:Int)→((base v).1<0↔pa≤(v:Int))
 enc:∀p,0≤p.1→0≤(enc p).1
def NonNeg(ds:tz):Prop:=∀d,d∈ds→0≤d.2.1
theorem Q6{pa lo hi:Int}{n:Nat}{base:Nat→Int×Int}{enc:Int×Int→Int×Int}{ds:tz}{l:List (Int×Int)}(h:Bn n base enc ds l)(he:Enc lo pa n base enc)(hd:NonNeg ds)(h0:0≤lo)(h1:lo≤pa)(hn:hi=(n:Int))(v:Int):kz lo hi l v↔(pa≤v∧v<hi)∧v∉ds.map (·.1):=by
 unfold kz;constructor
 ·rintro⟨⟨a,b⟩,c⟩;have hv:l[v.toNat]?=some (match findD ds (v.toNat:Int)with|some p=>enc p|none=>base v.toNat):=h.at_ v.toNat oM;have ev:(v.toNat:Int)=v:=oM;rw[ev]at hv;have hg:l.getD v.toNat (0,0)=(match findD ds v with|some p=>enc p|none=>base v.toNat):=by simp[List.getD,hv]
  rw[hg]at c;by_cases hm:v∈ds.map (·.1)
  ·obtain⟨p,hp,pv⟩:=ig hm;rw[hp]at c;have:=he.enc p (hd _ pv);simp only at c;omega
  ·rw[gy hm]at c;have:=(he.base v.toNat oM oM).1 c;exact⟨⟨oM,b⟩,hm⟩
 ·rintro⟨⟨a,b⟩,hm⟩;have hv:l[v.toNat]?=some (match findD ds (v.toNat:Int)with|some p=>enc p|none=>base v.toNat):=h.at_ v.toNat oM;have ev:(v.toNat:Int)=v:=oM;rw[ev,gy hm]at hv;have hg:l.getD v.toNat (0,0)=base v.toNat:=by simp[List.getD,hv]
  rw[hg];exact⟨⟨oM,b⟩,(he.base v.toNat oM oM).2 oM⟩
theorem lR(fs:List aE)(k j:Nat)(l:List bZ):NonNeg (dz fs k++cW k (l.take j)):=by
 intro d hd;rcases Qn2.1 hd with hd|hd
 ·exact(tA hd).1
 ·unfold cW at hd;obtain⟨p,_,rfl⟩:=Qhz.1 hd;exact Qqa _
theorem yQ(fs:List aE)(k j:Nat)(l:List bZ)(m:List bl):NonNeg (dz fs k++cW k l++dv k (m.take j)):=by
 intro d hd;rcases Qn2.1 hd with hd|hd
 ·have:=lR fs k l.length l d (by rw[QoF];exact hd);exact this
 ·unfold dv at hd;obtain⟨p,_,rfl⟩:=Qhz.1 hd;exact Qqa _
theorem ll{pa lo hi:Int}{n:Nat}{base:Nat→Int×Int}{enc:Int×Int→Int×Int}{ds:tz}{l:List (Int×Int)}(h:Bn n base enc ds l)(he:Enc lo pa n base enc)(hd:NonNeg ds)(h0:0≤lo)(h1:lo≤pa)(hn:hi=(n:Int))(ho:eO pa hi ds)(v b k:Int):(kz lo hi l v→Bn n base enc (ds++[(v,b,k)]) (l.set v.toNat (enc (b,k)))∧eO pa hi (ds++[(v,b,k)]))∧(¬kz lo hi l v→¬eO pa hi (ds++[(v,b,k)])):=by
 have key:=Q6 h he hd h0 h1 hn v;constructor
 ·intro hp;obtain⟨h2,h3⟩:=key.1 hp;exact⟨h.put oM oM h3,eO.snoc.2 ⟨ho,h2,h3⟩⟩
 ·intro hp hq;obtain⟨_,h2,h3⟩:=eO.snoc.1 hq;exact hp (key.2 ⟨h2,h3⟩)
def mD(n k:Nat):List (Int×Int):=List.replicate k (-1,0)++List.replicate (n-k) (0,0)
theorem IM(n:Nat):mD n 0=List.replicate n (0,0):=by simp[mD]
theorem QlJ{n k:Nat}(h:k≤n):(mD n k).length=n:=by simp[mD];omega
theorem My{n k:Nat}(h:k<n):(mD n k)[k]?=some (0,0):=by
 unfold mD;rw[List.getElem?_append_right sI,Qp7,Qpl,show n-k=(n-(k+1))+1 by omega];rfl
theorem IP{n k:Nat}(h:k<n):(mD n k).set k (-1,0)=mD n (k+1):=by
 unfold mD;rw[QpJ _ _ sI,List.replicate_succ',QoC];congr 1;rw[Qp7,Qpl,show n-k=(n-(k+1))+1 by omega,Qpx];rfl
theorem Mz(n:Nat):Bn n (fun _=>(-1,0)) (fun p=>(p.1,p.2+1)) [] (mD n n)where
 len:=by simp[mD]
 at_:=fun v hv=>by have:findD [] (v:Int)=none:=rfl;rw[this];simp[mD,hv]
theorem WX(pa:Int)(n:Nat):Enc pa pa n (fun _=>(-1,0)) (fun p=>(p.1,p.2+1)):=⟨fun _ _ h=>⟨fun _=>h,fun _=>dQ⟩,fun p h=>h⟩
end Go.Mor
namespace Go.Mor
open Go.RowKit
def jK(pa:Int)(v:Nat):Int×Int:=if(v:Int)<pa then(0,-2)else(-1,0)
def iX(pa:Int)(n k:Nat):List (Int×Int):=(List.range k).map (jK pa)++List.replicate (n-k) (0,0)
theorem IQ(pa:Int)(n:Nat):iX pa n 0=List.replicate n (0,0):=by simp[iX]
theorem MA{pa:Int}{n k:Nat}(h:k≤n):(iX pa n k).length=n:=by simp[iX];omega
theorem MB{pa:Int}{n k:Nat}(h:k<n):(iX pa n k)[k]?=some (0,0):=by
 unfold iX;rw[List.getElem?_append_right sI,QlO,QpK,Qpl,show n-k=(n-(k+1))+1 by omega];rfl
theorem BV{pa:Int}{n k:Nat}{p:Int×Int}(h:k<n)(hp:jK pa k=p):(iX pa n k).set k p=iX pa n (k+1):=by
 unfold iX;rw[QpJ _ _ sI,QpH,Qou,QoC];congr 1;rw[QlO,QpK,Qpl,show n-k=(n-(k+1))+1 by omega,Qpx,←hp];rfl
theorem Q7{pa:Int}{n k:Nat}(h:k<n)(hp:¬(k:Int)<pa):(iX pa n k).set k (-1,0)=iX pa n (k+1):=BV h (by simp[jK,hp])
theorem MC{pa:Int}{n k:Nat}(h:k<n)(hp:(k:Int)<pa):((iX pa n k).set k (-1,0)).set k (0,-2)=iX pa n (k+1):=by
 rw[List.set_set];exact BV h (by simp[jK,hp])
theorem MD(pa:Int)(n:Nat):Bn n (jK pa) (fun p=>p) [] (iX pa n n)where
 len:=by simp[iX]
 at_:=fun v hv=>by have:findD [] (v:Int)=none:=rfl;rw[this];simp[iX,hv]
theorem WY(pa:Int)(n:Nat):Enc 0 pa n (jK pa) (fun p=>p):=⟨fun v _ _=>by unfold jK;split<;>simp<;>omega,fun p h=>h⟩
end Go.Mor
namespace Go.Mor
open Go.RowKit
abbrev Ma:=(Int→Bool)×af
def fI(S:Int→Bool)(t:Int):Int→Bool:=fun x=>(x==t)||S x
inductive Kids(T:Int→af):af→Ma→Ma→Prop where
 |nil {s}:Kids T [] s s
 |skip {t ts S o s'}:S t=true→Kids T ts (S,o) s'→Kids T (t::ts) (S,o) s'
 |go {t ts S o s1 s'}:S t=false→Kids T (T t) (fI S t,o) s1→Kids T ts (s1.1,s1.2++[t]) s'→Kids T (t::ts) (S,o) s'
theorem Kids.mono{T:Int→af}{ts:af}{s s':Ma}(h:Kids T ts s s'):∀x,s.1 x=true→s'.1 x=true:=by
 induction h with
 |nil=>exact fun _ h=>h
 |skip _ _ ih=>exact ih
 |go _ _ _ U0 U1=>exact fun x hx=>U1 x (U0 x (by have uI:=hx;simp only at uI;simp[fI,uI]))
def lI(T:Int→af):Nat→af→Ma→Ma
 |0,_,s=>s
 |_+1,[],s=>s
 |f+1,t::ts,s=>match s.1 t with
  |true=>lI T f ts s
  |false=>lI T f ts ((lI T f (T t) (fI s.1 t,s.2)).1,(lI T f (T t) (fI s.1 t,s.2)).2++[t])
def jG(n:Nat)(S:Int→Bool):Nat:=((List.range n).filter (fun i:Nat=> !S (i:Int))).length
theorem yn{n:Nat}{S S':Int→Bool}(h:∀x,S x=true→S' x=true):jG n S'≤jG n S:=by
 unfold jG;refine List.Sublist.length_le ?_;have:(List.range n).filter (fun i:Nat=> !S' (i:Int))=((List.range n).filter (fun i:Nat=> !S (i:Int))).filter (fun i:Nat=> !S' (i:Int)):=by rw[Qp6];apply Qpu;intro i _;cases h1:S (i:Int)<;>cases h2:S' (i:Int)<;>simp;rw[h _ h1]at h2;cases h2
 rw[this];exact Qpm
theorem gg{n:Nat}{S:Int→Bool}{t:Int}(h0:0≤t)(h1:t<n)(hS:S t=false):jG n (fI S t)+1≤jG n S:=by
 unfold jG
 have kv:(List.range n).filter (fun i:Nat=> !fI S t (i:Int))=((List.range n).filter (fun i:Nat=> !S (i:Int))).filter (fun i:Nat=> !((i:Int)==t)):=by
  rw[Qp6]
  apply Qpu
  intro i _
  simp[fI]
 rw[kv]
 obtain⟨k,rfl⟩:=Qpr h0
 have pv:k∈(List.range n).filter (fun i:Nat=> !S (i:Int)):=Qov.2 ⟨QoA.2 oM,by rw[hS];rfl⟩
 have:=Qqj (p:=fun i:Nat=> !((i:Int)==(k:Int)))|>.2 ⟨k,pv,sI⟩
 omega
theorem kC(n:Nat)(S:Int→Bool):jG n S≤n:=by
 unfold jG;exact QoJ (QoI _ _) sI
theorem yo{T:Int→af}{n:Nat}(hT:∀t,(T t).length≤2)(hR:∀t x,x∈T t→0≤x∧x<n):∀(f:Nat) (ts:af) (s:Ma),(∀x,x∈ts→0≤x∧x<n)→3*jG n s.1+ts.length+1≤f→Kids T ts s (lI T f ts s):=by
 intro f;induction f with
 |zero=>intro ts s _ h;omega
 |succ f ih=>
  intro ts s U2 hf;obtain⟨S,o⟩:=s;cases ts with
  |nil=>exact .nil
  |cons t ts=>
   have ht:=U2 t (Qop ..);have QeU:∀x,x∈ts→0≤x∧x<(n:Int):=fun x hx=>U2 x (Qmq _ hx)
   simp only[QoE]at hf;cases hS:S t with
   |true=>
    have:lI T (f+1) (t::ts) (S,o)=lI T f ts (S,o):=by simp only[lI,hS]
    rw[this];exact .skip hS (ih ts (S,o) QeU (by simp only at hf⊢;omega))
   |false=>
    have e:lI T (f+1) (t::ts) (S,o)=lI T f ts ((lI T f (T t) (fI S t,o)).1,(lI T f (T t) (fI S t,o)).2++[t]):=by simp only[lI,hS]
    rw[e];have hu:=gg (S:=S) ht.1 ht.2 hS;have h1:=ih (T t) (fI S t,o) (hR t) (by have:=hT t;simp only at hf⊢;omega);refine .go hS h1 (ih ts _ QeU ?_);have hm:=yn (n:=n) (Kids.mono h1);simp only at hf hm⊢;omega
theorem Kids.count{T:Int→af}{n:Nat}(hR:∀t x,x∈T t→0≤x∧x<n){ts:af}{s s':Ma}(h:Kids T ts s s')(U2:∀x,x∈ts→0≤x∧x<(n:Int)):s'.2.length+jG n s'.1≤s.2.length+jG n s.1:=by
 induction h with
 |nil=>exact kQ _
 |skip _ _ ih=>exact ih (fun x hx=>U2 x (Qmq _ hx))
 | @go t ts S o s1 s' hS _ _ U0 U1=>
  have ht:=U2 t (Qop ..);have h1:=U0 (hR t);have h2:=U1 (fun x hx=>U2 x (Qmq _ hx));have h3:=gg (S:=S) ht.1 ht.2 hS;simp only[QoG,QoE,Qo3]at h1 h2⊢;omega
def Fp(bs:List SB):af:=(lI (tg bs) (3*bs.length+3) (tg bs 0) (fI (fun _=>false) 0,[])).2++[0]
def aH(bs:List SB):af:=if bs.length=0 then[]else(Fp bs).reverse
theorem uT(bs:List SB):∃s,Kids (tg bs) (tg bs 0) (fI (fun _=>false) 0,[]) s∧s.2++[0]=Fp bs:=by
 refine⟨_,yo (n:=bs.length) (fun t=>pY bs t) (fun t x h=>pZ h) (3*bs.length+3) _ _ (fun x h=>pZ h) ?_,rfl⟩;have h1:=pY bs 0;have h2:=kC bs.length (fI (fun _=>false) 0);simp only;by_cases h:bs.length=0
 ·have:tg bs 0=[]:=x7 oM;rw[this];simp;omega
 ·have:=gg (n:=bs.length) (S:=fun _=>false) (t:=0) oM oM rfl;have h3:=kC bs.length (fun _=>false);omega
theorem Mb{bs:List SB}(h:0<bs.length):(Fp bs).length≤bs.length:=by
 obtain⟨s,h1,h2⟩:=uT bs;have h3:=Kids.count (n:=bs.length) (fun t x h=>pZ h) h1 (fun x h=>pZ h);have h4:=gg (n:=bs.length) (S:=fun _=>false) (t:=0) oM oM rfl;have h5:=kC bs.length (fun _=>false);rw[←h2,QoG];simp only[Qo3,QoE]at h3⊢;omega
def Fq(T:Int→af):List (Int×Nat)→Ma→af→Prop
 |[],s,R=>s.2=R
 |(b,k)::rest,s,R=>∃s',Kids T ((T b).drop k) s s'∧Fq T rest (s'.1,s'.2++[b]) R
theorem Wc{T:Int→af}{b:Int}{k:Nat}{rest:List (Int×Nat)}{s:Ma}{R:af}(h:Fq T ((b,k)::rest) s R)(hk:(T b).length≤k):Fq T rest (s.1,s.2++[b]) R:=by
 obtain⟨s',h1,h2⟩:=h;rw[List.drop_of_length_le hk]at h1;cases h1;exact h2
theorem Qm{T:Int→af}{b t:Int}{k:Nat}{rest:List (Int×Nat)}{S:Int→Bool}{o:af}{R:af}(h:Fq T ((b,k)::rest) (S,o) R)(hk:(T b)[k]?=some t)(ht:S t=true):Fq T ((b,k+1)::rest) (S,o) R:=by
 obtain⟨s',h1,h2⟩:=h;obtain⟨eV,he⟩:=List.getElem?_eq_some_iff.1 hk;rw[Fb eV,he]at h1;cases h1 with
 |skip _ h1=>exact⟨s',h1,h2⟩
 |go h' _ _=>rw[ht]at h';cases h'
theorem Qn{T:Int→af}{b t:Int}{k:Nat}{rest:List (Int×Nat)}{S:Int→Bool}{o:af}{R:af}(h:Fq T ((b,k)::rest) (S,o) R)(hk:(T b)[k]?=some t)(ht:S t=false):Fq T ((t,0)::(b,k+1)::rest) (fI S t,o) R:=by
 obtain⟨s',h1,h2⟩:=h;obtain⟨eV,he⟩:=List.getElem?_eq_some_iff.1 hk;rw[Fb eV,he]at h1;cases h1 with
 |skip h' _=>rw[ht]at h';cases h'
 |go _ ha hb=>exact⟨_,by simpa using ha,⟨s',hb,h2⟩⟩
def bS(l:List Bool):aP:=l.map Value.bool
theorem j0{l:List Bool}{i:Nat}(h:i<l.length):(bS l)[i]?=some (vB (l.getD i false)):=by simp[bS,List.getD,h]
theorem qT(l:List Bool)(i:Nat)(v:Bool):bS (l.set i v)=(bS l).set i (vB v):=by simp[bS,Qpk]
def j9(n:Nat)(l:List Bool)(S:Int→Bool):Prop:=l.length=n∧∀i:Nat,i<n→l.getD i false=S (i:Int)
theorem j9.start(n:Nat):j9 n (List.replicate n false) (fun _=>false):=⟨sI,fun i hi=>by simp[List.getD,hi]⟩
theorem j9.put{n:Nat}{l:List Bool}{S:Int→Bool}(h:j9 n l S){i:Nat}(_hi:i<n):j9 n (l.set i true) (fI S (i:Int)):=by
 refine⟨by simp[h.1],fun j hj=> ?_⟩;unfold fI;by_cases e:i=j
 ·subst e;have:i<l.length:=by rw[h.1];exact hj
  simp[List.getD,this]
 ·have e2:¬((j:Int)=(i:Int)):=oM;rw[←h.2 j hj];simp[List.getD,List.getElem?_set_ne e,e2]
def BD(p:Int×Nat):aP:=[vI p.1,vI (p.2:Int)]
def qg(st:List (Int×Nat)):aP:=st.reverse.flatMap BD
theorem lh(p:Int×Nat)(st:List (Int×Nat)):qg (p::st)=qg st++BD p:=by simp[qg]
theorem yp(st:List (Int×Nat)):(qg st).length=st.length*2:=by
 induction st with
 |nil=>rfl
 |cons p st ih=>rw[lh,QoG,ih];simp[BD];omega
theorem tF{b:Int}{k:Nat}{st:List (Int×Nat)}:(qg ((b,k)::st))[st.length*2]?=some (vI b)∧(qg ((b,k)::st))[st.length*2+1]?=some (vI (k:Int)):=by
 rw[lh,←yp];constructor
 ·rw[List.getElem?_append_right (kQ _)];simp[BD]
 ·rw[List.getElem?_append_right oM];simp[BD]
theorem Wd{b:Int}{k:Nat}{st:List (Int×Nat)}:(qg ((b,k)::st)).take (st.length*2)=qg st:=by
 rw[lh,←yp,List.take_left]
theorem We{b:Int}{k:Nat}{st:List (Int×Nat)}:(qg ((b,k)::st)).set (st.length*2+1) (vI ((k:Int)+1))=qg ((b,k+1)::st):=by
 rw[lh,lh,←yp,QpJ _ _ oM];simp[BD]
structure MetL(n:Nat)(ws:List Nat)(S:Int→Bool):Prop where
 len:ws.length=(n+63) / 64
 fit:Fit ws
 bits:∀i:Nat,i<n→tb ws i=S (i:Int)
theorem MetL.start(n:Nat):MetL n (List.replicate ((n+63) / 64) 0) (fun _=>false):=⟨sI,Fit.zero _,fun i _=>VE _ i⟩
theorem MetL.put{n:Nat}{ws:List Nat}{S:Int→Bool}(h:MetL n ws S){i:Nat}(hi:i<n):MetL n (xY ws i) (fI S (i:Int)):=by
 refine⟨by simp[xY,h.len],h.fit.put i,fun j hj=> ?_⟩;rw[Qkw (by rw[h.len];omega),h.bits j hj];unfold fI;congr 1;by_cases e:i=j
 ·subst e;simp
 ·have:¬((j:Int)=(i:Int)):=oM;simp[e,this]
theorem MetL.idx{n:Nat}{ws:List Nat}{S:Int→Bool}(h:MetL n ws S){i:Nat}(hi:i<n):i / 64<ws.length:=by rw[h.len];omega
def Fs(T:Int→af):List (Int×Nat)→Nat
 |[]=>0
 |(b,k)::r=>((T b).length-k+1)+Fs T r
def BE(T:Int→af)(st:List (Int×Nat)):Prop:=∀p,p∈st→p.2≤(T p.1).length
theorem Wf(T:Int→af)(b:Int):BE T [(b,0)]:=by
 intro p hp;simp only[yX]at hp;subst hp;exact Qom _
theorem Qo{T:Int→af}{b t:Int}{k:Nat}{r:List (Int×Nat)}(h:BE T ((b,k)::r))(hk:k+1≤(T b).length):BE T ((t,0)::(b,k+1)::r):=by
 intro p hp;rcases Qon.1 hp with rfl|hp
 ·exact Qom _
 ·rcases Qon.1 hp with rfl|hp
  ·exact hk
  ·exact h p (Qmq _ hp)
theorem Wg{T:Int→af}{b:Int}{k:Nat}{r:List (Int×Nat)}(h:BE T ((b,k)::r))(hk:k+1≤(T b).length):BE T ((b,k+1)::r):=by
 intro p hp;rcases Qon.1 hp with rfl|hp
 ·exact hk
 ·exact h p (Qmq _ hp)
theorem Qp{bs:List SB}{b:Int}{k:Nat}(h:k<(tg bs b).length):∃ti:Nat,(tg bs b)[k]?=some (ti:Int)∧ti<bs.length:=by
 have h1:=pZ (QpC h);obtain⟨ti,he⟩:=Qpr h1.1;exact⟨ti,by rw[List.getElem?_eq_getElem h,he],oM⟩
def tG(l m:af)(k:Nat):Prop:=m.length=l.length∧∀p,p<l.length→m.getD p 0=if p<k∨l.length≤p+k then l.getD (l.length-1-p) 0 else l.getD p 0
theorem Ah(l:af):tG l l 0:=⟨rfl,fun p hp=>by rw[Ds oM]⟩
theorem Ft{m:af}{i p:Nat}{v:Int}(hi:i<m.length):(m.set i v).getD p 0=if i=p then v else m.getD p 0:=by
 by_cases h:i=p
 ·subst h;simp[List.getD,hi]
 ·simp[List.getD,List.getElem?_set_ne h,h]
theorem Dn{l m:af}{k q:Nat}(h:tG l m k)(hq:k<q∧q+k+1=l.length):tG l ((m.set k (m.getD q 0)).set q (m.getD k 0)) (k+1):=by
 obtain⟨h1,h2⟩:=h;refine⟨by simp[h1],fun p hp=> ?_⟩;rw[Ft (by simp;omega),Ft oM];by_cases e1:q=p
 ·subst e1;rw[Kt rfl,Kt oM,h2 k oM,Ds oM,show l.length-1-q=k by omega]
 ·rw[Ds e1];by_cases e2:k=p
  ·subst e2;rw[Kt rfl,Kt oM,h2 q oM,Ds oM,show l.length-1-k=q by omega]
  ·rw[Ds e2,h2 p hp];by_cases e3:p<k∨l.length≤p+k
   ·rw[Kt e3,Kt oM]
   ·rw[Ds e3,Ds oM]
theorem Fu{l m:af}{k:Nat}(h:tG l m k)(hk:2*k≤l.length∧l.length≤2*k+1):m=l.reverse:=by
 obtain⟨h1,h2⟩:=h;apply QoL;intro p;by_cases hp:p<l.length
 ·have h3:=h2 p hp;have e:∀x:af,p<x.length→x[p]?=some (x.getD p 0):=by intro x hx;simp[List.getD,hx]
  rw[e m oM,e l.reverse (by simpa using hp),h3];have e4:l.reverse.getD p 0=l.getD (l.length-1-p) 0:=by simp[List.getD,List.getElem?_reverse hp]
  rw[e4];split
  ·rfl
  ·rw[show l.length-1-p=p by omega]
 ·rw[List.getElem?_eq_none oM,List.getElem?_eq_none (by simp;omega)]
end Go.Mor
namespace Go.Mor
open Go.RowKit
inductive Reach(T:Int→af):Int→Prop
 |zero:Reach T 0
 |step {x t:Int}:Reach T x→t∈T x→Reach T t
def HD(T:Int→af)(bar:Int)(x:Int):af:=(T x).filter (fun t=> !(t==bar))
theorem iy{T:Int→af}{bar x t:Int}:t∈HD T bar x↔t∈T x∧t≠bar:=by simp[HD]
theorem Wn{T:Int→af}(hT:∀t,(T t).length≤2)(bar:Int)(t:Int):(HD T bar t).length≤2:=QoJ (QoI _ _) (hT t)
theorem Fw{T:Int→af}{ts:af}{s s':Ma}(h:Go.Mor.Kids T ts s s'):(∀x,x∈ts→s'.1 x=true)∧(∀x,s'.1 x=true→s.1 x=true∨∀t,t∈T x→s'.1 t=true):=by
 induction h with
 |nil=>exact⟨fun x hx=>(Qpn hx).elim,fun x hx=> .inl hx⟩
 | @skip t ts S o s' hS h ih=>
  refine⟨fun x hx=> ?_,ih.2⟩;rcases Qon.1 hx with rfl|hx
  ·exact Kids.mono h _ hS
  ·exact ih.1 x hx
 | @go t ts S o s1 s' hS h1 h2 U0 U1=>
  have m1:=Kids.mono h1;have m2:=Kids.mono h2;have ht:s1.1 t=true:=m1 t (by simp[fI]);refine⟨fun x hx=> ?_,fun x hx=> ?_⟩
  ·rcases Qon.1 hx with rfl|hx
   ·exact m2 _ ht
   ·exact U1.1 x hx
  ·rcases U1.2 x hx with hx|hx
   ·rcases U0.2 x hx with hx|hx
    ·by_cases e:x=t
     ·subst e;exact .inr fun y hy=>m2 y (U0.1 y hy)
     ·left;have:(x==t||S x)=true:=hx;simpa[e]using this
    ·exact .inr fun y hy=>m2 y (hx y hy)
   ·exact .inr hx
theorem Ip{T:Int→af}{ts:af}{s s':Ma}(h:Go.Mor.Kids T ts s s')(U2:∀x,x∈ts→Reach T x)(hs:∀x,s.1 x=true→Reach T x):∀x,s'.1 x=true→Reach T x:=by
 induction h with
 |nil=>exact hs
 |skip _ _ ih=>exact ih (fun x hx=>U2 x (Qmq _ hx)) hs
 | @go t ts S o s1 s' hS h1 h2 U0 U1=>
  have ht:=U2 t (Qop ..);refine U1 (fun x hx=>U2 x (Qmq _ hx)) (U0 (fun x hx=> .step ht hx) (fun x hx=> ?_));have hx:(x==t||S x)=true:=hx;by_cases e:x=t
  ·exact e▸ht
  ·exact hs x (by simpa[e]using hx)
theorem Qq{T:Int→af}{ts:af}{s s':Ma}(h:Go.Mor.Kids T ts s s'):∃nw,s'.2=s.2++nw∧(∀x,s'.1 x=true↔s.1 x=true∨x∈nw)∧nw.Nodup∧(∀x,x∈nw→s.1 x=false)∧
  (∀l1 x l2,nw=l1++x::l2→x∈ts∨∃y,y∈l2∧x∈T y):=by
 induction h with
 |nil=>exact⟨[],sI,sI,sI,sI,sI⟩
 | @skip t ts S o s' hS h ih=>
  obtain⟨nw,h1,h2,h3,h4,h5⟩:=ih
  exact⟨nw,h1,h2,h3,h4,fun l1 x l2 e=>(h5 l1 x l2 e).imp (fun h=>Qmq _ h) id⟩
 | @go t ts S o s1 s' hS h1 h2 U0 U1=>
  obtain⟨n1,a1,a2,a3,a4,a5⟩:=U0
  obtain⟨n2,b1,b2,b3,b4,b5⟩:=U1
  have a2':∀x,s1.1 x=true↔(S x=true∨x=t)∨x∈n1:=by
   intro x
   rw[a2 x]
   have:(fI S t x=true)↔(S x=true∨x=t):=by simp[fI,or_comm]
   exact or_congr this QoN
  have b4':∀x,x∈n2→S x=false∧x≠t∧x∉n1:=by
   intro x hx
   have h0:s1.1 x=false:=b4 x hx
   have:¬s1.1 x=true:=by rw[h0];simp
   rw[a2' x]at this
   refine⟨by simpa using fun h=>this (.inl (.inl h)),fun h=>this (.inl (.inr h)),fun h=>this (.inr h)⟩
  have a4':∀x,x∈n1→S x=false∧x≠t:=by
   intro x hx
   have h0:=a4 x hx
   have:¬(fI S t x=true):=by
    have h0:fI S t x=false:=h0
    rw[h0];simp
   have h3:¬(x=t∨S x=true):=by simpa[fI]using this
   exact⟨by simpa using fun h=>h3 (.inr h),fun h=>h3 (.inl h)⟩
  refine⟨n1++t::n2,?_,?_,?_,?_,?_⟩
  ·rw[b1]
   simp only[a1]
   simp
  ·intro x
   rw[b2 x]
   have:=a2' x
   simp only[this,Qn2,Qon]
   constructor
   ·rintro(((h|h)|h)|h)
    ·exact .inl h
    ·exact .inr (.inr (.inl h))
    ·exact .inr (.inl h)
    ·exact .inr (.inr (.inr h))
   ·rintro(h|h|h|h)
    ·exact .inl (.inl (.inl h))
    ·exact .inl (.inr h)
    ·exact .inl (.inl (.inr h))
    ·exact .inr h
  ·rw[QoS]
   refine⟨a3,QpL.2 ⟨fun h=>(b4' t h).2.1 rfl,b3⟩,fun x hx y hy=> ?_⟩
   rcases Qon.1 hy with rfl|hy
   ·exact(a4' x hx).2
   ·rintro rfl
    exact(b4' x hy).2.2 hx
  ·intro x hx
   rcases Qn2.1 hx with hx|hx
   ·exact(a4' x hx).1
   ·rcases Qon.1 hx with rfl|hx
    ·exact hS
    ·exact(b4' x hx).1
  ·intro l1 x l2 e
   rcases List.append_eq_append_iff.1 e with⟨p,e1,e2⟩|⟨p,e1,e2⟩
   ·
    cases p with
    |nil=>
     simp only[QpD,QpM]at e2
     exact .inl (by rw[←e2.1];exact Qop ..)
    |cons q p=>
     simp only[Qqg,QpM]at e2
     rcases b5 p x l2 e2.2 with h|⟨y,hy,h⟩
     ·exact .inl (Qmq _ h)
     ·exact .inr ⟨y,hy,h⟩
   ·cases p with
    |nil=>
     simp only[QpD,QpM]at e2
     exact .inl (by rw[e2.1];exact Qop ..)
    |cons q p=>
     simp only[Qqg,QpM]at e2
     obtain⟨rfl,e2⟩:=e2
     right
     rcases a5 l1 x p e1 with h|⟨y,hy,h⟩
     ·exact⟨t,by rw[e2];simp,h⟩
     ·exact⟨y,by rw[e2];simp[hy],h⟩
def QbJ(T:Int→af)(n:Nat):Int→Bool:=(lI T (3*n+3) (T 0) (fI (fun _=>false) 0,[])).1
theorem Qr{T:Int→af}{n:Nat}(hT:∀t,(T t).length≤2)(hR:∀t x,x∈T t→0≤x∧x<n):∃s,Go.Mor.Kids T (T 0) (fI (fun _=>false) 0,[]) s∧s.1=QbJ T n:=by
 refine⟨_,yo (n:=n) hT hR (3*n+3) _ _ (fun x h=>hR 0 x h) ?_,rfl⟩;have h1:=hT 0;have h2:=kC n (fI (fun _=>false) 0);simp only;by_cases h:n=0
 ·have:T 0=[]:=by
   cases h3:T 0 with
   |nil=>rfl
   |cons x l=>have:=hR 0 x (by rw[h3];exact Qop ..);omega
  rw[this];simp;omega
 ·have:=gg (n:=n) (S:=fun _=>false) (t:=0) oM oM rfl;have h3:=kC n (fun _=>false);omega
theorem BF{T:Int→af}{s:Ma}(h:Go.Mor.Kids T (T 0) (fI (fun _=>false) 0,[]) s)(x:Int):s.1 x=true↔Reach T x:=by
 constructor
 ·refine Ip h (fun x hx=> .step .zero hx) (fun x hx=> ?_) x;have:x=0:=by simpa[fI]using hx
  exact this▸ .zero
 ·obtain⟨c1,c2⟩:=Fw h;have h0:s.1 0=true:=Kids.mono h 0 (by simp[fI]);intro hr;induction hr with
  |zero=>exact h0
  | @step x t _ ht ih=>
   rcases c2 x ih with hx|hx
   ·have:x=0:=by simpa[fI]using hx
    exact c1 t (this▸ht)
   ·exact hx t ht
theorem Mg{T:Int→af}{n:Nat}(hT:∀t,(T t).length≤2)(hR:∀t x,x∈T t→0≤x∧x<n)(x:Int):QbJ T n x=true↔Reach T x:=by
 obtain⟨s,h,e⟩:=Qr hT hR;rw[←e];exact BF h x
theorem Qs{T:Int→af}{n:Nat}(hn:0<n)(hR:∀t x,x∈T t→0≤x∧x<(n:Int)){x:Int}(h:Reach T x):0≤x∧x<n:=by
 cases h with
 |zero=>omega
 |step _ ht=>exact hR _ _ ht
def fJ(bs:List SB)(bar:Int)(x:Int):Bool:=!(bar==0)&&QbJ (HD (tg bs) bar) bs.length x
def gh(bs:List SB)(bar:Int):List Bool:=(List.range bs.length).map (fun i:Nat=>fJ bs bar (i:Int))
theorem lj(bs:List SB)(bar:Int):(gh bs bar).length=bs.length:=by simp[gh]
theorem jh{bs:List SB}{bar:Int}{i:Nat}(h:i<bs.length):(gh bs bar).getD i false=fJ bs bar (i:Int):=by
 simp[gh,List.getD,h]
theorem qh(bs:List SB)(bar:Int)(x:Int):fJ bs bar x=true↔bar≠0∧Reach (HD (tg bs) bar) x:=by
 unfold fJ;rw[QlP,Mg (fun t=>Wn (fun t=>pY bs t) bar t) (fun t x h=>pZ (iy.1 h).1) x];simp
theorem uU{n:Nat}{l:List Bool}{S:Int→Bool}(h:j9 n l S){m:List Bool}(hm:m.length=n)(hg:∀i:Nat,i<n→m.getD i false=S (i:Int)):l=m:=by
 apply QoL;intro i;by_cases hi:i<n
 ·have h1:=h.2 i hi;have h2:=hg i hi;have e1:i<l.length:=by rw[h.1];exact hi
  have e2:i<m.length:=by rw[hm];exact hi
  simp only[List.getD,List.getElem?_eq_getElem e1,List.getElem?_eq_getElem e2,Qpf]at h1 h2⊢;rw[h1,h2]
 ·rw[List.getElem?_eq_none (by rw[h.1];omega),List.getElem?_eq_none (by rw[hm];omega)]
structure Fx(T:Int→af)(bar:Int)(S:Int→Bool)(todo:af)(i k:Nat):Prop where
 mem:∀x,S x=true↔x∈todo
 reach:∀x,x∈todo→Reach (HD T bar) x
 zero:(0:Int)∈todo
 done:∀j x,j<i→todo[j]?=some x→∀t,t∈T x→t≠bar→t∈todo
 part:∀x,todo[i]?=some x→∀t,t∈(T x).take k→t≠bar→t∈todo
theorem Fx.start(T:Int→af)(bar:Int):Fx T bar (fI (fun _=>false) 0) [0] 0 0:=by
 refine⟨fun x=>by simp[fI],fun x hx=> ?_,sI,fun j x h=>oM,fun x _ t h=>by simp at h⟩;have:x=0:=by simpa using hx
 exact this▸ .zero
theorem Fx.skip{T:Int→af}{bar:Int}{S:Int→Bool}{todo:af}{i k:Nat}{b t:Int}(h:Fx T bar S todo i k)(hi:todo[i]?=some b)(hk:(T b)[k]?=some t)(ht:S t=true∨t=bar):Fx T bar S todo i (k+1):=by
 refine⟨h.mem,h.reach,h.zero,h.done,fun x hx y hy dt=> ?_⟩;rw[hi]at hx;injection hx with hx;subst hx;obtain⟨eV,he⟩:=List.getElem?_eq_some_iff.1 hk;rw[Qow eV,he]at hy;rcases Qn2.1 hy with hy|hy
 ·exact h.part b hi y hy dt
 ·have:y=t:=by simpa using hy
  subst this;rcases ht with ht|ht
  ·exact(h.mem y).1 ht
  ·exact(dt ht).elim
theorem Fx.push{T:Int→af}{bar:Int}{S:Int→Bool}{todo:af}{i k:Nat}{b t:Int}(h:Fx T bar S todo i k)(hi:todo[i]?=some b)(hk:(T b)[k]?=some t)(ht:t≠bar):Fx T bar (fI S t) (todo++[t]) i (k+1):=by
 have eV:i<todo.length:=(List.getElem?_eq_some_iff.1 hi).1;obtain⟨hlk,he⟩:=List.getElem?_eq_some_iff.1 hk;refine⟨fun x=> ?_,fun x hx=> ?_,Qox _ h.zero,fun j x hj hx y hy dt=> ?_,fun x hx y hy dt=> ?_⟩
 ·have:=h.mem x;simp[fI,this,or_comm]
 ·rcases Qn2.1 hx with hx|hx
  ·exact h.reach x hx
  ·have:x=t:=by simpa using hx
   subst this;exact .step (h.reach b (D7 hi)) (iy.2 ⟨D7 hk,ht⟩)
 ·rw[List.getElem?_append_left oM]at hx;exact Qox _ (h.done j x hj hx y hy dt)
 ·rw[List.getElem?_append_left eV,hi]at hx;injection hx with hx;subst hx;rw[Qow hlk,he]at hy;rcases Qn2.1 hy with hy|hy
  ·exact Qox _ (h.part b hi y hy dt)
  ·exact Qo5 _ hy
theorem Fx.next{T:Int→af}{bar:Int}{S:Int→Bool}{todo:af}{i k:Nat}{b:Int}(h:Fx T bar S todo i k)(hi:todo[i]?=some b)(hk:(T b).length≤k):Fx T bar S todo (i+1) 0:=by
 refine⟨h.mem,h.reach,h.zero,fun j x hj hx y hy dt=> ?_,fun x _ y hy=>by simp at hy⟩;by_cases e:j=i
 ·subst e;rw[hi]at hx;injection hx with hx;subst hx;exact h.part b hi y (by rw[Qot hk];exact hy) dt
 ·exact h.done j x oM hx y hy dt
theorem Fx.fin{T:Int→af}{bar:Int}{S:Int→Bool}{todo:af}{i k:Nat}(h:Fx T bar S todo i k)(hi:todo.length≤i)(x:Int):S x=true↔Reach (HD T bar) x:=by
 rw[h.mem x];refine⟨h.reach x,fun hr=> ?_⟩;induction hr with
 |zero=>exact h.zero
 | @step x t _ ht ih=>
  obtain⟨ht,dt⟩:=iy.1 ht;obtain⟨j,hj,e⟩:=Qqo.1 ih;exact h.done j x oM (by rw[List.getElem?_eq_getElem hj,e]) t ht dt
theorem Qt{bs:List SB}{bar:Int}{S:Int→Bool}{inl:List Bool}{todo:af}{i k:Nat}(nY:j9 bs.length inl S)(h:Fx (tg bs) bar S todo i k)(hi:todo.length≤i)(hb:bar≠0):inl=gh bs bar:=by
 refine uU nY (lj _ _) (fun j hj=> ?_);rw[jh hj,QpI,qh,h.fin hi];exact⟨fun h=>h.2,fun h=>⟨hb,h⟩⟩
theorem BG{bs:List SB}{bar:Int}(h:bs.length=0∨bar=0):List.replicate bs.length false=gh bs bar:=by
 refine uU (j9.start bs.length) (lj _ _) (fun j hj=> ?_);rw[jh hj];have:bar=0:=oM;simp[fJ,this]
end Go.Mor
namespace Go.Mor
open Go.RowKit
def eM{α:Type}(enc:α→Value)(rows:List gb)(l:List (List α)):Prop:=rows.map (fun r=>(r.n,r.xs))=l.map (fun x=>(x.length,x.map enc))
section
variable {α : Type} {enc : α → Value} {rows : List gb} {l : List (List α)}
theorem eM.len(h:eM enc rows l):rows.length=l.length:=by
 have:=Qlh List.length h;simpa using this
theorem eM.get(h:eM enc rows l){i:Nat}{x:List α}(hi:l[i]?=some x):∃A c,rows[i]?=some ⟨A,x.length,c,x.map enc⟩:=by
 have h1:(rows.map (fun r=>(r.n,r.xs)))[i]?=(l.map (fun x=>(x.length,x.map enc)))[i]?:=by rw[h]
 simp only[List.getElem?_map,hi,Fc]at h1;cases h2:rows[i]? with
 |none=>rw[h2]at h1;simp at h1
 |some r=>
  rw[h2]at h1;simp only[Fc,Kr,Qaq]at h1;obtain⟨A,n,c,xs⟩:=r;simp only at h1;obtain⟨rfl,rfl⟩:=h1;exact⟨A,c,rfl⟩
theorem eM.push(h:eM enc rows l){A:ar}{n c:Nat}{xs:aP}{x:List α}(hn:n=x.length)(hx:xs=x.map enc):eM enc (rows++[⟨A,n,c,xs⟩]) (l++[x]):=by
 subst hn;subst hx;unfold eM at h⊢;rw[Qou,Qou,h];rfl
theorem eM.next{d:Nat}(h:eM enc rows (l.take d)){A:ar}{n c:Nat}{xs:aP}{x:List α}(hd:l[d]?=some x)(hn:n=x.length)(hx:xs=x.map enc):eM enc (rows++[⟨A,n,c,xs⟩]) (l.take (d+1)):=by
 obtain⟨eV,he⟩:=List.getElem?_eq_some_iff.1 hd;rw[Qow eV,he];exact h.push hn hx
theorem eM.set(h:eM enc rows l){A:ar}{n c i:Nat}{xs:aP}{x:List α}(hn:n=x.length)(hx:xs=x.map enc):eM enc (rows.set i ⟨A,n,c,xs⟩) (l.set i x):=by
 subst hn;subst hx;unfold eM at h⊢;rw[Qpk,Qpk,h]
theorem eM.all{d:Nat}(h:eM enc rows (l.take d))(hd:l.length≤d):eM enc rows l:=by rwa [Qot hd]at h
theorem eM.QeW(n:Nat):eM enc (List.replicate n jT) (List.replicate n ([]:List α)):=by
 unfold eM;simp[jT]
end
theorem oD{w:World}{e:Nat}{rows:List gb}{A:ar}{n c i:Nat}{xs:aP}(h:(bx.gU e rows).holds w)(hi:rows[i]?=some ⟨A,n,c,xs⟩):(bx.rd A xs).holds w:=aD (VF h hi)
theorem Wr{α:Type}{l:List α}{i:Nat}{x d:α}(h:l[i]?=some x):l.getD i d=x:=by simp[List.getD,h]
def mw(bs:List SB)(d b:Int):Bool:=fJ bs (-1) d&&(fJ bs (-1) b&& !(fJ bs d b))
def gu(bs:List SB):List (List Bool):=(List.range bs.length).map (fun d:Nat=>(List.range bs.length).map (fun b:Nat=>mw bs (d:Int) (b:Int)))
theorem j4(bs:List SB):(gu bs).length=bs.length:=by simp[gu]
theorem BH{bs:List SB}{d:Nat}{m:List Bool}(hd:d<bs.length)(h:j9 bs.length m (mw bs (d:Int))):(gu bs)[d]?=some m:=by
 have:m=(List.range bs.length).map (fun b:Nat=>mw bs (d:Int) (b:Int)):=uU h sI (fun j hj=>by simp[List.getD,hj]);rw[this];simp[gu,hd]
theorem j9.congr{n:Nat}{l:List Bool}{S S':Int→Bool}(h:j9 n l S)(e:∀i:Nat,i<n→S (i:Int)=S' (i:Int)):j9 n l S':=⟨h.1,fun i hi=>(h.2 i hi).trans (e i hi)⟩
theorem Mj{bs:List SB}{d:Nat}(h:fJ bs (-1) (d:Int)=false):j9 bs.length (List.replicate bs.length false) (mw bs (d:Int)):=(j9.start bs.length).congr (fun i _=>by simp[mw,h])
def mT(bs:List SB)(d:Int)(k:Nat)(b:Int):Bool:=decide (b<(k:Int))&&mw bs d b
theorem Ir(bs:List SB)(d:Int):j9 bs.length (List.replicate bs.length false) (mT bs d 0):=(j9.start bs.length).congr (fun i _=>by
  have:decide ((i:Int)<((0:Nat):Int))=false:=sI;rw[mT,this];rfl)
theorem BI{bs:List SB}{d:Int}{k:Nat}{m:List Bool}{v:Bool}(h:j9 bs.length m (mT bs d k))(hk:k<bs.length)(hv:v=mw bs d (k:Int)):j9 bs.length (m.set k v) (mT bs d (k+1)):=by
 refine⟨by simp[h.1],fun j hj=> ?_⟩;by_cases e:k=j
 ·subst e;have:k<m.length:=by rw[h.1];exact hk
  have h2:decide ((k:Int)<((k+1:Nat):Int))=true:=by simp;omega
  simp only[mT,h2,Bool.true_and];simp[List.getD,this,hv]
 ·have h1:=h.2 j hj;have h2:decide ((j:Int)<((k+1:Nat):Int))=decide ((j:Int)<(k:Int)):=by rw[decide_eq_decide];omega
  rw[mT,h2];rw[mT]at h1;rw[←h1];simp[List.getD,List.getElem?_set_ne e]
theorem Mk{bs:List SB}{d:Int}{k:Nat}{m:List Bool}(h:j9 bs.length m (mT bs d k))(hk:bs.length≤k):j9 bs.length m (mw bs d):=h.congr (fun i hi=>by
  have:decide ((i:Int)<(k:Int))=true:=by simp;omega
  rw[mT,this];rfl)
theorem Qw{bs:List SB}{d:Nat}{b:Nat}(hd:fJ bs (-1) (d:Int)=true)(hb:fJ bs (-1) (b:Int)=true):(!(fJ bs (d:Int) (b:Int)))=mw bs (d:Int) (b:Int):=by simp[mw,hd,hb]
theorem Qx{bs:List SB}{d b:Int}(hb:fJ bs (-1) b=false):false=mw bs d b:=by simp[mw,hb]
def HE(l:List (List Bool))(i j:Nat):Bool:=(l.getD i []).getD j false
def jH(l:List (List Bool))(b:Nat):Nat→Int
 |0=> -1
 |k+1=>if k≠b∧HE l k b=true∧(jH l b k<0∨HE l (jH l b k).toNat k=true)then(k:Int)else jH l b k
def qi(l:List (List Bool)):af:=(List.range l.length).map (fun b=>jH l b l.length)
def QbL(l:List (List Bool)):Prop:=∀(i:Nat) (x:List Bool),l[i]?=some x→x.length=l.length
theorem Dt(bs:List SB):QbL (gu bs):=by
 intro i x h;rw[j4];have:=D7 h;simp only[gu,Qhz]at this;obtain⟨d,_,rfl⟩:=this;simp
theorem QbM{l:List (List Bool)}(i:Nat)(hi:i<l.length):∃x,l[i]?=some x:=⟨_,List.getElem?_eq_getElem hi⟩
theorem QbN{l:List (List Bool)}{i j:Nat}{x:List Bool}(h:l[i]?=some x):HE l i j=x.getD j false:=by simp[HE,List.getD,h]
def fo(bs:List SB):af:=qi (gu bs)
theorem Fy{bs:List SB}{y x:Int}(h:x∈bG bs y):0≤x∧x<bs.length:=by
 simp only[bG,ef,Qhz,Qov,QoA]at h;obtain⟨i,⟨h1,_⟩,rfl⟩:=h;omega
end Go.Mor
namespace Go.Mor
open Go.RowKit
theorem Mm(n:Nat)(x:SB):(Ag n x).Nodup:=by
 unfold Ag;refine List.Pairwise.filter _ ?_;split
 ·simp
 ·split
  ·split
   ·simp
   ·rename_i h;simp[h]
  ·simp
theorem QA(bs:List SB)(b:Int):(tg bs b).Nodup:=by
 unfold tg;split
 ·split
  ·exact Mm _ _
  ·simp
 ·simp
def vx(bs:List SB)(i:Nat):List af:=(List.range bs.length).map (fun t:Nat=>ef bs (t:Int) i)
def tI(bs:List SB):List af:=(List.range bs.length).map (fun t:Nat=>bG bs (t:Int))
def kP(bs:List SB)(i k:Nat):List af:=(List.range bs.length).map (fun t:Nat=>ef bs (t:Int) i++(if((tg bs (i:Int)).take k).contains (t:Int)=true then[(i:Int)]else[]))
theorem Mn(bs:List SB):vx bs 0=List.replicate bs.length []:=by
 unfold vx;apply QoL;intro t;by_cases h:t<bs.length
 ·simp[h,ef]
 ·rw[List.getElem?_eq_none (by simpa using h),List.getElem?_eq_none (by simpa using h)]
theorem Ws(bs:List SB)(i:Nat):kP bs i 0=vx bs i:=by
 unfold kP vx;simp
theorem QB{bs:List SB}{i k:Nat}(hk:(tg bs (i:Int)).length≤k):kP bs i k=vx bs (i+1):=by
 unfold kP vx;apply QoV;intro t _;rw[p5,Qot hk]
theorem Wt(bs:List SB):vx bs bs.length=tI bs:=rfl
theorem Wu{bs:List SB}{i k ti:Nat}(hk:(tg bs (i:Int))[k]?=some (ti:Int))(ht:ti<bs.length):(kP bs i k)[ti]?=some (ef bs (ti:Int) i):=by
 have hn:=QA bs (i:Int);have EE:¬(ti:Int)∈(tg bs (i:Int)).take k:=by intro h;obtain⟨eV,he⟩:=List.getElem?_eq_some_iff.1 hk;obtain⟨j,hj,Wv⟩:=QpV.1 h;exact QpB.1 hn j k oM eV oM (Wv.trans he.symm)
 unfold kP;rw[List.getElem?_map,List.getElem?_range ht];simp[EE]
theorem Ww{bs:List SB}{i k ti:Nat}(hk:(tg bs (i:Int))[k]?=some (ti:Int))(ht:ti<bs.length):(kP bs i k).set ti (ef bs (ti:Int) i++[(i:Int)])=kP bs i (k+1):=by
 obtain⟨eV,he⟩:=List.getElem?_eq_some_iff.1 hk;apply QoL;intro t;by_cases h:ti=t
 ·subst h;rw[List.getElem?_set_self (by simpa[kP]using ht)];unfold kP;rw[List.getElem?_map,List.getElem?_range ht,Qow eV,he];simp
 ·rw[List.getElem?_set_ne h];unfold kP;rw[List.getElem?_map,List.getElem?_map];by_cases h2:t<bs.length
  ·rw[List.getElem?_range h2,Qow eV,he];have h3:¬((t:Int)=(ti:Int)):=oM;simp[h3]
  ·rw[List.getElem?_eq_none (by simpa using h2)];rfl
theorem lK{bs:List SB}{t:Nat}(h:t<bs.length):(tI bs)[t]?=some (bG bs (t:Int)):=by simp[tI,h]
theorem yu(bs:List SB):(tI bs).length=bs.length:=by simp[tI]
theorem BL{rows:List gb}{i:Nat}{r:gb}:(rows.set i jT).set i r=rows.set i r:=List.set_set ..
end Go.Mor
namespace Go.Mor
open Go.RowKit
section
variable (T : Int → List Int)
def Dm(d x:Int):Prop:=¬(d≠0∧Reach (HD T d) x)
inductive RA(pl:Int→Int)(d:Int):Nat→Int→Prop
 |zero (k:Nat):d≠0→RA pl d k 0
 |U8 {k:Nat} {x t:Int}:RA pl d k x→t∈T x→t≠d→pl x<pl t→RA pl d k t
 |ret {k:Nat} {x t:Int}:RA pl d k x→t∈T x→t≠d→RA pl d (k+1) t
structure OX(pl:Int→Int):Prop where
 reach:∀x,0≤pl x↔Reach T x
 zero:pl 0=0
 inj:∀x y,0≤pl x→pl x=pl y→x=y
 src:∀x,0≤pl x→x≠0→∃s,0≤pl s∧pl s<pl x∧x∈T s
end
section
variable {T : Int → List Int} {pl : Int → Int}
theorem RA.self{d:Int}{k:Nat}:¬RA T pl d k d:=by
 intro h;cases h with
 |zero _ h=>exact h rfl
 |U8 _ _ h _=>exact h rfl
 |ret _ _ h=>exact h rfl
theorem RA.mono{d x:Int}{k:Nat}(h:RA T pl d k x):RA T pl d (k+1) x:=by
 induction h with
 |zero k h=>exact .zero _ h
 |U8 _ ht dt hl ih=>exact .U8 ih ht dt hl
 |ret _ ht dt ih=>exact .ret ih ht dt
theorem RA.le{d x:Int}{k m:Nat}(h:RA T pl d k x)(hk:k≤m):RA T pl d m x:=by
 induction hk with
 |refl=>exact h
 |step _ ih=>exact ih.mono
theorem RA.reach{d x:Int}{k:Nat}(h:RA T pl d k x):Reach T x:=by
 induction h with
 |zero=>exact .zero
 |U8 _ ht _ _ ih=>exact .step ih ht
 |ret _ ht _ ih=>exact .step ih ht
theorem RA.ex{d x:Int}(hd:d≠0)(h:Reach (HD T d) x):∃k,RA T pl d k x:=by
 induction h with
 |zero=>exact⟨0,.zero 0 hd⟩
 |step _ ht ih=>
  obtain⟨k,hk⟩:=ih;exact⟨k+1,.ret hk (iy.1 ht).1 (iy.1 ht).2⟩
theorem RA.cut{d b x:Int}{k:Nat}(h:RA T pl d k x):RA T pl b k x∨RA T pl d k b:=by
 induction h with
 |zero k h=>
  by_cases e:b=0
  ·subst e;exact .inr (.zero k h)
  ·exact .inl (.zero k e)
 | @U8 k x t hx ht dt hl ih=>
  rcases ih with ih|ih
  ·by_cases e:t=b
   ·subst e;exact .inr (.U8 hx ht dt hl)
   ·exact .inl (.U8 ih ht e hl)
  ·exact .inr ih
 | @ret k x t hx ht dt ih=>
  rcases ih with ih|ih
  ·by_cases e:t=b
   ·subst e;exact .inr (.ret hx ht dt)
   ·exact .inl (.ret ih ht e)
  ·exact .inr ih.mono
theorem RA.gO{d:Int}{k:Nat}(hs:∀x,RA T pl d (k+1) x→RA T pl d k x):∀m x,RA T pl d m x→RA T pl d k x:=by
 intro m x h;induction h with
 |zero _ h=>exact .zero k h
 |U8 _ ht dt hl ih=>exact .U8 ih ht dt hl
 |ret _ ht dt ih=>exact hs _ (.ret ih ht dt)
open Classical in
theorem RA.grow{n:Nat}(hR:∀x,Reach T x→0≤x∧x<(n:Int))(d:Int)(k:Nat):(∃j,j≤k∧∀x,RA T pl d (j+1) x→RA T pl d j x)∨jG n (fun x=>decide (RA T pl d k x))+k≤n:=by
 induction k with
 |zero=>exact .inr (by have:=kC n (fun x=>decide (RA T pl d 0 x));omega)
 |succ k ih=>
  rcases ih with⟨j,hj,h⟩|ih
  ·exact .inl ⟨j,oM,h⟩
  ·by_cases hs:∀x,RA T pl d (k+1) x→RA T pl d k x
   ·exact .inl ⟨k,oM,hs⟩
   ·right;have⟨x,hx⟩:=Classical.not_forall.1 hs;have⟨h1,h2⟩:=Classical.not_imp.1 hx;obtain⟨r0,r1⟩:=hR x h1.reach;have hu:=gg (n:=n) (S:=fun x=>decide (RA T pl d k x)) (t:=x) r0 r1 (by simpa using h2);have hm:=yn (n:=n) (S:=fI (fun x=>decide (RA T pl d k x)) x) (S':=fun x=>decide (RA T pl d (k+1) x)) (fun y hy=>by
     simp only[fI,Qos,Qco,QhA]at hy⊢;rcases hy with rfl|hy
     ·exact h1
     ·exact hy.mono)
    omega
theorem RA.all{n:Nat}(hR:∀x,Reach T x→0≤x∧x<(n:Int)){d x:Int}(h:¬RA T pl d (n+1) x):Dm T d x:=by
 rintro⟨hd,hr⟩;obtain⟨m,hm⟩:=RA.ex (pl:=pl) hd hr;rcases RA.grow (pl:=pl) hR d (n+1)with⟨j,hj,hs⟩|hu
 ·exact h ((RA.gO hs m x hm).le hj)
 ·omega
theorem Dm.self(x:Int):Dm T x x:=by
 rintro⟨h0,h⟩;cases h with
 |zero=>exact h0 rfl
 |step _ ht=>exact(iy.1 ht).2 rfl
theorem Dm.vr{d:Int}(h:Dm T d 0):d=0:=by
 by_cases e:d=0
 ·exact e
 ·exact absurd ⟨e,Reach.zero⟩ h
theorem Dm.src{d x s:Int}(h:Dm T d x)(dt:d≠x)(hx:x∈T s):Dm T d s:=by
 rintro⟨hd,hr⟩;exact h ⟨hd,.step hr (iy.2 ⟨hx,fun e=>dt e.symm⟩)⟩
theorem Dm.le(hp:OX T pl){d x:Int}(hx:0≤pl x)(h:Dm T d x):pl d≤pl x:=by
 by_cases eV:pl d≤pl x
 ·exact eV
 ·exfalso;have hd:d≠0:=by rintro rfl;rw[hp.zero]at eV;omega
  refine h ⟨hd,?_⟩;clear h;have key:∀(m:Nat) (x:Int),0≤pl x→pl x<pl d→(pl x).toNat≤m→Reach (HD T d) x:=by
   intro m;induction m with
   |zero=>
    intro x h0 _ hm;have:x=0:=hp.inj x 0 h0 (by rw[hp.zero];omega);exact this▸ .zero
   |succ m ih=>
    intro x h0 h1 hm;by_cases e:x=0
    ·exact e▸ .zero
    ·obtain⟨s,s0,s1,hs⟩:=hp.src x h0 e;exact .step (ih s s0 oM oM) (iy.2 ⟨hs,fun e=>by subst e;omega⟩)
  exact key _ x hx oM (kQ _)
theorem Dm.reach{d x:Int}(hx:Reach T x)(h:Dm T d x):Reach T d:=by
 by_cases hd:Reach T d
 ·exact hd
 ·exfalso;refine h ⟨fun e=>hd (e▸ .zero),?_⟩;induction hx with
  |zero=>exact .zero
  | @step y t hy ht ih=>
   have hih:Reach (HD T d) y:=by
    by_cases h2:Dm T d y
    ·exact ih h2
    ·exact(QoD.1 h2).2
   exact .step hih (iy.2 ⟨ht,fun e=>hd (e▸ .step hy ht)⟩)
inductive oL(up:Int→Int):Int→Int→Prop
 |refl (x:Int):oL up x x
 |step {x d:Int}:x≠0→oL up (up x) d→oL up x d
theorem oL.trans{up:Int→Int}{x y z:Int}(h:oL up x y)(h':oL up y z):oL up x z:=by
 induction h with
 |refl=>exact h'
 |step dt _ ih=>exact .step dt (ih h')
def jV(pl up:Int→Int)(x:Int):Prop:=0≤pl x∧(x=0∨0≤up x)
structure Up(T:Int→af)(pl up:Int→Int):Prop where
 low:∀x,jV pl up x→x≠0→jV pl up (up x)∧pl (up x)<pl x
 QD:∀x d,jV pl up x→x≠0→Dm T d x→d≠x→Dm T d (up x)
theorem oL.zero{up:Int→Int}{d:Int}(h:oL up 0 d):d=0:=by
 cases h with
 |refl=>rfl
 |step h _=>exact absurd rfl h
theorem oL.It{up:Int→Int}(hu:Up T pl up){x d:Int}(h:oL up x d)(hx:jV pl up x):jV pl up d∧pl d≤pl x∧(d≠x→pl d<pl x):=by
 induction h with
 |refl=>exact⟨hx,Qol _,fun h=>absurd rfl h⟩
 | @step x d dt _ ih=>
  obtain⟨h1,h2⟩:=hu.low x hx dt;obtain⟨a,b,c⟩:=ih h1;exact⟨a,oM,fun _=>oM⟩
theorem Up.Iu{up:Int→Int}(hu:Up T pl up){x d:Int}(hx:jV pl up x)(h:Dm T d x):oL up x d:=by
 have key:∀(m:Nat) (x:Int),jV pl up x→(pl x).toNat≤m→Dm T d x→oL up x d:=by
  intro m;induction m with
  |zero=>
   intro x hx hm h;by_cases e:d=x
   ·exact e▸ .refl _
   ·by_cases e0:x=0
    ·subst e0;exact absurd h.vr e
    ·have h2:=hu.low x hx e0;have:=h2.1.1;omega
  |succ m ih=>
   intro x hx hm h;by_cases e:d=x
   ·exact e▸ .refl _
   ·by_cases e0:x=0
    ·subst e0;exact absurd h.vr e
    ·have h2:=hu.low x hx e0;have:=h2.1.1;exact .step e0 (ih _ h2.1 oM (hu.QD x d hx e0 h e))
 exact key _ x hx (kQ _) h
inductive lL(pl up:Int→Int):Int→Int→Int→Prop
 |done (x:Int):lL pl up x x x
 |left {a b c:Int}:pl b<pl a→lL pl up (up a) b c→lL pl up a b c
 |right {a b c:Int}:pl a<pl b→lL pl up a (up b) c→lL pl up a b c
theorem lL.QmW{up:Int→Int}(hp:OX T pl)(hu:Up T pl up){a b c:Int}(h:lL pl up a b c)(ha:jV pl up a)(hb:jV pl up b):jV pl up c∧oL up a c∧oL up b c∧∀d,Dm T d a→Dm T d b→Dm T d c:=by
 induction h with
 |done x=>exact⟨ha,.refl _,.refl _,fun d h _=>h⟩
 | @left a b c eV _ ih=>
  have dt:a≠0:=by rintro rfl;rw[hp.zero]at eV;have:=hb.1;omega
  obtain⟨h1,_⟩:=hu.low a ha dt;obtain⟨q1,q2,q3,q4⟩:=ih h1 hb;refine⟨q1,.step dt q2,q3,fun d hd EI=>q4 d (hu.QD a d ha dt hd ?_) EI⟩;rintro rfl;have:=Dm.le hp hb.1 EI;omega
 | @right a b c eV _ ih=>
  have dt:b≠0:=by rintro rfl;rw[hp.zero]at eV;have:=ha.1;omega
  obtain⟨h1,_⟩:=hu.low b hb dt;obtain⟨q1,q2,q3,q4⟩:=ih ha h1;refine⟨q1,q2,.step dt q3,fun d hd EI=>q4 d hd (hu.QD b d hb dt EI ?_)⟩;rintro rfl;have:=Dm.le hp ha.1 hd;omega
end
end Go.Mor
namespace Go.Mor
open Go.RowKit
section
variable {T : Int → List Int} {pl : Int → Int}
structure Dw(T:Int→af)(pl up:Int→Int)(k:Nat)(j:Int):Prop where
 ok:Up T pl up
 some:∀x,0≤pl x→x≠0→(pl x≤j∨1≤k)→0≤up x
 off:∀x,(pl x<0∨x=0)→up x= -1
 non:k=0→∀x,j<pl x→up x= -1
 lo:∀x d,jV pl up x→pl x≤j→oL up x d→¬RA T pl d k x
 hi:1≤k→∀x d,jV pl up x→oL up x d→¬RA T pl d (k-1) x
def Fold(T:Int→af)(pl up:Int→Int)(ss:af)(to:Int):Prop:=(to= -1∧∀s,s∈ss→¬jV pl up s)∨(jV pl up to∧(∃s,s∈ss∧jV pl up s)∧(∀s,s∈ss→jV pl up s→oL up s to)∧∀d,(∀s,s∈ss→jV pl up s→Dm T d s)→Dm T d to)
variable {up : Int → Int}
theorem Fold.start:Fold T pl up [] (-1):= .inl ⟨rfl,fun _ h=>(Qpn h).elim⟩
theorem Fold.skip{ss:af}{to s:Int}(h:Fold T pl up ss to)(hs:¬jV pl up s):Fold T pl up (ss++[s]) to:=by
 have hm:∀x,x∈ss++[s]→jV pl up x→x∈ss:=by
  intro x hx hp;rcases Qn2.1 hx with hx|hx
  ·exact hx
  ·simp only[yX]at hx;exact absurd (hx▸hp) hs
 rcases h with⟨h1,h2⟩|⟨h1,⟨q,hq,hqp⟩,h2,h3⟩
 ·exact .inl ⟨h1,fun x hx hp=>h2 x (hm x hx hp) hp⟩
 ·exact .inr ⟨h1,⟨q,Qox _ hq,hqp⟩,fun x hx hp=>h2 x (hm x hx hp) hp,fun d hd=>h3 d (fun x hx hp=>hd x (Qox _ hx) hp)⟩
theorem Fold.first{ss:af}{to s:Int}(h:Fold T pl up ss to)(hto:to<0)(hr:∀x,0≤pl x→0≤x)(hs:jV pl up s):Fold T pl up (ss++[s]) s:=by
 rcases h with⟨h1,h2⟩|⟨h1,_⟩
 ·refine .inr ⟨hs,⟨s,sI,hs⟩,fun x hx hp=> ?_,fun d hd=>hd s sI hs⟩;rcases Qn2.1 hx with hx|hx
  ·exact absurd hp (h2 x hx)
  ·simp only[yX]at hx;exact hx▸ .refl _
 ·have:=hr to h1.1;omega
theorem Fold.meet{ss:af}{to s c:Int}(hp:OX T pl)(hu:Up T pl up)(h:Fold T pl up ss to)(hto:0≤to)(hs:jV pl up s)(hc:lL pl up to s c):Fold T pl up (ss++[s]) c:=by
 rcases h with⟨h1,h2⟩|⟨h1,h0,h2,h3⟩
 ·omega
 ·obtain⟨q1,q2,q3,q4⟩:=hc.QmW hp hu h1 hs;refine .inr ⟨q1,⟨s,sI,hs⟩,fun x hx hp=> ?_,fun d hd=>q4 d (h3 d (fun x hx hp=>hd x (Qox _ hx) hp)) (hd s sI hs)⟩;rcases Qn2.1 hx with hx|hx
  ·exact(h2 x hx hp).trans q2
  ·simp only[yX]at hx;exact hx▸q3
theorem Fold.It{ss:af}{to:Int}(h:Fold T pl up ss to)(hto:0≤to):jV pl up to:=by
 rcases h with⟨h1,_⟩|⟨h1,_⟩
 ·omega
 ·exact h1
def sx(up:Int→Int)(b c:Int):Int→Int:=fun x=>if x=b then c else up x
theorem QE{b:Int}:sx up b (up b)=up:=by
 funext x;unfold sx;split
 ·subst_vars;rfl
 ·rfl
theorem uY{b c:Int}:sx up b c b=c:=by simp[sx]
theorem mU{b c x:Int}(h:x≠b):sx up b c x=up x:=by simp[sx,h]
section
variable {b c : Int}
theorem Qhh(hc:0≤c){x:Int}(h:jV pl up x):jV pl (sx up b c) x:=by
 refine⟨h.1,h.2.imp id fun h=> ?_⟩;by_cases e:x=b
 ·subst e;rw[uY];exact hc
 ·rw[mU e];exact h
theorem QcI{x:Int}(h:jV pl (sx up b c) x)(e:x≠b):jV pl up x:=by
 refine⟨h.1,h.2.imp id fun h=> ?_⟩;rwa [mU e]at h
theorem Qhi{x d:Int}(h:oL (sx up b c) x d):oL up x d∨(oL up x b∧oL (sx up b c) b d):=by
 induction h with
 |refl x=>exact .inl (.refl x)
 | @step x d dt h ih=>
  by_cases e:x=b
  ·subst e;exact .inr ⟨.refl _,.step dt h⟩
  ·rw[mU e]at ih;rcases ih with ih|⟨ih,h2⟩
   ·exact .inl (.step dt ih)
   ·exact .inr ⟨.step dt ih,h2⟩
theorem Qij(hu:Up T pl up){x d:Int}(h:oL (sx up b c) x d)(hx:jV pl up x)(eV:pl x<pl b):oL up x d:=by
 induction h with
 |refl x=>exact .refl x
 | @step x d dt h ih=>
  have e:x≠b:=by rintro rfl;omega
  rw[mU e]at h ih;obtain⟨h1,h2⟩:=hu.low x hx dt;exact .step dt (ih h1 oM)
theorem Dw.step{k:Nat}{j:Int}{ss:af}(hp:OX T pl)(hr:∀x,0≤pl x→0≤x)(h:Dw T pl up k j)(hj:0≤j)(hb:pl b=j+1)(hss:∀s,0≤pl s→(s∈ss↔b∈T s))(hc:Fold T pl up ss c):0≤c∧jV pl up c∧pl c<pl b∧(∀s,jV pl up s→b∈T s→oL up s c)∧(∀d,d≠b→Dm T d b→Dm T d c)∧Dw T pl (sx up b c) k (j+1):=by
 have wF:b≠0:=by rintro rfl;rw[hp.zero]at hb;omega
 have OY:0≤pl b:=oM;obtain⟨s0,p0,p1,ps⟩:=hp.src b OY wF;have Qga:∀x,0≤pl x→pl x≤j∨1≤k→jV pl up x:=by
  intro x h0 h1;refine⟨h0,?_⟩;by_cases e:x=0
  ·exact .inl e
  ·exact .inr (h.some x h0 e h1)
 have Vw:jV pl up s0:=Qga s0 p0 (.inl oM);rcases hc with⟨_,h2⟩|⟨QF,_,h2,h3⟩
 ·exact absurd Vw (h2 s0 ((hss s0 p0).2 ps))
 ·have a2:∀s,jV pl up s→b∈T s→oL up s c:=fun s hs P4=>h2 s ((hss s hs.1).2 P4) hs
  have a0:=(a2 s0 Vw ps).It h.ok Vw;have hcb:pl c<pl b:=oM;have hc0:0≤c:=hr c QF.1;have a3:∀d,d≠b→Dm T d b→Dm T d c:=fun d dt hd=>h3 d (fun s hs OQ=>hd.src dt ((hss s OQ.1).1 hs))
  have QlL:c≠b:=by rintro rfl;omega
  have ab:∀d,oL (sx up b c) b d→d=b∨oL up c d:=by
   intro d hd;cases hd with
   |refl=>exact .inl rfl
   |step _ hd=>
    rw[uY]at hd;exact .inr (Qij h.ok hd QF hcb)
  have nb:∀d,oL (sx up b c) b d→¬RA T pl d k b:=by
   intro d hd;rcases ab d hd with rfl|hd
   ·exact RA.self
   ·intro Iw;cases Iw with
    |zero=>exact wF rfl
    | @U8 _ s _ hs P4 dt hl=>
     have NB:=(hp.reach s).2 hs.reach;have OQ:=Qga s NB (.inl oM);exact h.lo s d OQ oM ((a2 s OQ P4).trans hd) hs
    | @ret k' s _ hs P4 dt=>
     have NB:=(hp.reach s).2 hs.reach;have OQ:=Qga s NB (.inr oM);exact h.hi oM s d OQ ((a2 s OQ P4).trans hd) (by simpa using hs)
  refine⟨hc0,QF,hcb,a2,a3,⟨⟨fun x hx dt=> ?_,fun x d hx dt hd hdx=> ?_⟩,fun x hx dt E1=> ?_,fun x hx=> ?_,fun hk x hx=> ?_,fun x d hx E1 hd Iw=> ?_,fun hk x d hx hd Iw=> ?_⟩⟩
  ·by_cases e:x=b
   ·subst e;rw[uY];exact⟨Qhh hc0 QF,hcb⟩
   ·rw[mU e];obtain⟨h1,h2⟩:=h.ok.low x (QcI hx e) dt;exact⟨Qhh hc0 h1,h2⟩
  ·by_cases e:x=b
   ·subst e;rw[uY];exact a3 d hdx hd
   ·rw[mU e];exact h.ok.QD x d (QcI hx e) dt hd hdx
  ·by_cases e:x=b
   ·subst e;rw[uY];exact hc0
   ·rw[mU e];refine h.some x hx dt (E1.imp (fun h1=> ?_) id);by_cases e2:pl x=j+1
    ·exact absurd (hp.inj x b hx oM) e
    ·omega
  ·have e:x≠b:=by rintro rfl;omega
   rw[mU e];exact h.off x hx
  ·have e:x≠b:=by rintro rfl;omega
   rw[mU e];exact h.non hk x oM
  ·by_cases e:x=b
   ·subst e;exact nb d hd Iw
   ·have uI:=QcI hx e;have hxj:pl x≤j:=by
     by_cases e2:pl x=j+1
     ·exact absurd (hp.inj x b hx.1 oM) e
     ·omega
    rcases Qhi hd with hd|⟨Wy,hd⟩
    ·exact h.lo x d uI hxj hd Iw
    ·rcases RA.cut (b:=b) Iw with h1|h1
     ·exact h.lo x b uI hxj Wy h1
     ·exact nb d hd h1
  ·by_cases e:x=b
   ·subst e;exact nb d hd (Iw.le oM)
   ·have uI:=QcI hx e;rcases Qhi hd with hd|⟨Wy,hd⟩
    ·exact h.hi hk x d uI hd Iw
    ·rcases RA.cut (b:=b) Iw with h1|h1
     ·exact h.hi hk x b uI Wy h1
     ·exact nb d hd (h1.le oM)
end
theorem Dw.start(hp:OX T pl):Dw T pl (fun _=> -1) 0 0:=by
 have hz:∀x,jV pl (fun _=> -1) x→x=0:=by
  rintro x ⟨_,h|h⟩
  ·exact h
  ·have h:(0:Int)≤-1:=h;omega
 refine⟨⟨fun x hx dt=>absurd (hz x hx) dt,fun x d hx dt=>absurd (hz x hx) dt⟩,fun x hx dt h=> ?_,fun _ _=>rfl,fun _ _ _=>rfl,fun x d hx _ hd=> ?_,fun h=>absurd h dQ⟩
 ·exfalso;rcases h with h|h
  ·exact dt (hp.inj x 0 hx (by rw[hp.zero];omega))
  ·omega
 ·have:=hz x hx;subst this;rw[hd.zero];exact RA.self
theorem Dw.Qh3{k:Nat}{j:Int}(hp:OX T pl)(h:Dw T pl up k j)(hj:∀x,pl x≤j):Dw T pl up (k+1) 0:=by
 refine⟨h.ok,fun x hx dt _=>h.some x hx dt (.inl (hj x)),h.off,fun h=>absurd h oM,fun x d hx h0 hd=> ?_,fun _ x d hx hd=>by simpa using h.lo x d hx (hj x) hd⟩;have:x=0:=hp.inj x 0 hx.1 (by have:=hx.1;rw[hp.zero];omega);subst this;rw[hd.zero];exact RA.self
theorem Dw.full{k n:Nat}{j:Int}{b c:Int}(hp:OX T pl)(hR:∀x,Reach T x→0≤x∧x<(n:Int))(h:Dw T pl up k j)(hk:n+2≤k)(hb:0≤pl b)(wF:b≠0)(QF:jV pl up c)(hcb:pl c<pl b)(a2:∀s,jV pl up s→b∈T s→oL up s c)(a3:∀d,d≠b→Dm T d b→Dm T d c):up b=c:=by
 have It:∀x,0≤pl x→jV pl up x:=fun x h0=>⟨h0,by
  by_cases e:x=0
  ·exact .inl e
  ·exact .inr (h.some x h0 e (.inr oM))⟩
 have dm:∀x d,jV pl up x→oL up x d→Dm T d x:=fun x d hx hd=>RA.all (pl:=pl) hR (n:=n) (fun Iw=>h.hi oM x d hx hd (Iw.le oM))
 have hbp:=It b hb;obtain⟨h1,h2⟩:=h.ok.low b hbp wF;have hub:up b≠b:=by intro e;rw[e]at h2;omega
 have e1:oL up c (up b):=h.ok.Iu QF (a3 _ hub (dm b _ hbp (.step wF (.refl _))));have QlL:c≠b:=by rintro rfl;omega
 have dcb:Dm T c b:=by
  rintro⟨hc0,hr⟩;cases hr with
  |zero=>exact wF rfl
  | @step s _ hs P4=>
   have QmX:=(iy.1 P4).1;have NB:Reach T s:=by
    have key:∀x,Reach (HD T c) x→Reach T x:=by
     intro x hx;induction hx with
     |zero=>exact .zero
     |step _ ht ih=>exact .step ih (iy.1 ht).1
    exact key s hs
   have OQ:=It s ((hp.reach s).2 NB);exact dm s c OQ (a2 s OQ QmX) ⟨hc0,hs⟩
 have e2:oL up (up b) c:=h.ok.Iu h1 (h.ok.QD b c hbp wF dcb QlL);have q1:=(e1.It h.ok QF).2.1;have q2:=(e2.It h.ok h1).2.1;exact hp.inj _ _ h1.1 oM
def Mp(T:Int→af)(pl up:Int→Int)(j:Int):Prop:=∀b s,1≤pl b→pl b≤j→0≤pl s→b∈T s→oL up s (up b)
theorem Mp.start:Mp T pl up 0:=fun b s h h'=>oM
theorem Mp.next{j b:Int}(hp:OX T pl)(h:Mp T pl up j)(hb:pl b=j+1)(ha:∀s,0≤pl s→b∈T s→oL up s (up b)):Mp T pl up (j+1):=by
 intro x s h1 h2 hs hx;by_cases e:pl x=j+1
 ·have:x=b:=hp.inj x b oM oM;exact this▸ha s hs (this▸hx)
 ·exact h x s h1 oM hs hx
theorem Mp.dm{j:Int}(hp:OX T pl)(h:Mp T pl up j)(hj:∀x,pl x≤j){x d:Int}(ha:oL up x d):Dm T d x:=by
 rintro⟨hd,hr⟩;have toR:∀x,Reach (HD T d) x→Reach T x:=by
  intro x hx;induction hx with
  |zero=>exact .zero
  |step _ ht ih=>exact .step ih (iy.1 ht).1
 induction hr with
 |zero=>exact hd ha.zero
 | @step y t hy ht ih=>
  obtain⟨ht',dt⟩:=iy.1 ht;cases ha with
  |refl=>exact dt rfl
  |step h0 ha=>
   have hyr:=(hp.reach y).2 (toR y hy);have VZ:=(hp.reach t).2 (.step (toR y hy) ht');have:1≤pl t:=by
    by_cases e:pl t=0
    ·exact absurd (hp.inj t 0 VZ (by rw[hp.zero];exact e)) h0
    ·omega
   exact ih ((h t y this (hj t) hyr ht').trans ha)
theorem oL.total{x y z:Int}(h:oL up x y)(h':oL up x z):oL up y z∨oL up z y:=by
 induction h with
 |refl=>exact .inl h'
 | @step x d dt h ih=>
  cases h' with
  |refl=>exact .inr (.step dt h)
  |step _ h'=>exact ih h'
end
end Go.Mor
namespace Go.Mor
open Go.RowKit
def cy(n:Nat)(l:af)(f:Int→Int):Prop:=l.length=n∧∀i:Nat,i<n→l.getD i 0=f (i:Int)
theorem cy.ext{n:Nat}{l m:af}{f:Int→Int}(h:cy n l f)(h':cy n m f):l=m:=by
 apply QoL;intro i;by_cases hi:i<n
 ·have h1:=h.2 i hi;have h2:=h'.2 i hi;have e1:i<l.length:=by rw[h.1];exact hi
  have e2:i<m.length:=by rw[h'.1];exact hi
  simp only[List.getD,List.getElem?_eq_getElem e1,List.getElem?_eq_getElem e2,Qpf]at h1 h2⊢;rw[h1,h2]
 ·rw[List.getElem?_eq_none (by rw[h.1];omega),List.getElem?_eq_none (by rw[h'.1];omega)]
theorem cy.set{n:Nat}{l:af}{f g:Int→Int}(h:cy n l f){i:Nat}{v:Int}(_hi:i<n)(hg:g (i:Int)=v)(dt:∀j:Nat,j<n→j≠i→g (j:Int)=f (j:Int)):cy n (l.set i v) g:=by
 refine⟨by simp[h.1],fun j hj=> ?_⟩;by_cases e:i=j
 ·subst e;have:i<l.length:=by rw[h.1];exact hj
  simp[List.getD,this,hg]
 ·rw[dt j hj (fun h=>e h.symm),←h.2 j hj];simp[List.getD,List.getElem?_set_ne e]
theorem cy.get{n:Nat}{l:af}{f:Int→Int}(h:cy n l f){i:Nat}(hi:i<n):l[i]?=some (f (i:Int)):=by
 have h1:=h.2 i hi;have e1:i<l.length:=by rw[h.1];exact hi
 simp only[List.getD,List.getElem?_eq_getElem e1,Qpf]at h1;rw[List.getElem?_eq_getElem e1,h1]
theorem cy.congr{n:Nat}{l:af}{f g:Int→Int}(h:cy n l f)(e:∀i:Nat,i<n→f (i:Int)=g (i:Int)):cy n l g:=⟨h.1,fun i hi=>(h.2 i hi).trans (e i hi)⟩
def rN(k:Nat)(x:Int):Int:=if x<(k:Int)then-1 else 0
theorem yv(n:Nat):cy n (List.replicate n 0) (rN 0):=⟨sI,fun i hi=>by
 have:¬((i:Int)<((0:Nat):Int)):=oM;rw[rN,Ds this];simp[List.getD,hi]⟩
theorem BM{n k:Nat}{l:af}(h:cy n l (rN k))(hk:k<n):cy n (l.set k (-1)) (rN (k+1)):=by
 refine h.set hk ?_ fun j _ dt=> ?_
 ·rw[rN,Kt oM]
 ·unfold rN;by_cases e:(j:Int)<(k:Int)
  ·rw[Kt e,Kt oM]
  ·rw[Ds e,Ds oM]
theorem FA{n k:Nat}{l:af}(h:cy n l (rN k))(hk:n≤k):cy n l (fun _=> -1):=h.congr (fun i hi=>by rw[rN,Kt oM])
def uZ(l:af)(x:Int):Int:=pw (fun y=>y==x) l
theorem mV{l:af}(hn:l.Nodup){i:Nat}{x:Int}(h:l[i]?=some x):uZ l x=(i:Int):=by
 obtain⟨eV,he⟩:=List.getElem?_eq_some_iff.1 h;refine E7 (j:=i) ?_ (by simp[List.getD,eV,he]) eV;rw[List.any_eq_false];intro y hy;obtain⟨j,hj,Wv⟩:=QpV.1 hy;simp only[Qco];intro e;exact QpB.1 hn j i oM eV oM (by rw[Wv,he,e])
theorem Dx{l:af}{x:Int}(h:x∉l):uZ l x= -1:=by
 refine Bc (j:=l.length) ?_ (kQ _);rw[List.any_eq_false];intro y hy;simp only[Qco];rintro rfl;exact h (QpR hy)
theorem QcK{l:af}(hn:l.Nodup){x:Int}:0≤uZ l x↔x∈l:=by
 constructor
 ·intro h;by_cases e:x∈l
  ·exact e
  ·rw[Dx e]at h;omega
 ·intro h;obtain⟨i,hi⟩:=Qmp.1 h;rw[mV hn hi];omega
theorem Qkm{l:af}(hn:l.Nodup){x:Int}{i:Nat}(h:uZ l x=(i:Int)):l[i]?=some x:=by
 have hm:=(QcK hn (x:=x)).1 oM;obtain⟨j,hj⟩:=Qmp.1 hm;have:=mV hn hj;rw[this]at h;have:j=i:=oM;exact this▸hj
theorem QbQ{l:af}{x:Int}:uZ l x<l.length:=(C5 _ l).2
theorem FB{l:af}(hn:l.Nodup){k:Nat}{b:Int}(hk:l[k]?=some b)(x:Int):uZ (l.take (k+1)) x=if x=b then(k:Int)else uZ (l.take k) x:=by
 obtain⟨eV,he⟩:=List.getElem?_eq_some_iff.1 hk;have Di:(l.take (k+1)).Nodup:=hn.sublist (QpW _ _);have U9:(l.take k).Nodup:=hn.sublist (QpW _ _);by_cases e:x=b
 ·subst e;rw[Kt rfl];exact mV Di (by rw[List.getElem?_take_of_lt oM];exact hk)
 ·rw[Ds e];by_cases hm:x∈l.take k
  ·obtain⟨j,hj⟩:=Qmp.1 hm;rw[mV U9 hj];have hjk:j<k:=by have:=(List.getElem?_eq_some_iff.1 hj).1;simp at this;omega
   rw[List.getElem?_take_of_lt hjk]at hj;exact mV Di (by rw[List.getElem?_take_of_lt oM];exact hj)
  ·rw[Dx hm,Dx];rw[Qow eV,he];simp only[Qn2,yX,not_or];exact⟨hm,e⟩
structure QG(T:Int→af)(l:af):Prop where
 head:l[0]?=some 0
 nodup:l.Nodup
 mem:∀x,x∈l↔Reach T x
 src:∀x,x∈l→x≠0→∃s,uZ l s<uZ l x∧0≤uZ l s∧x∈T s
theorem nv{bs:List SB}(h:0<bs.length):QG (tg bs) (aH bs):=by
 obtain⟨s,hk,he⟩:=uT bs;have hz:=BF hk;obtain⟨nw,h1,h2,h3,h4,h5⟩:=Qq hk;simp only[QpD]at h1;have hl:aH bs=0::nw.reverse:=by unfold aH;rw[Ds oM,←he,h1];simp
 have h0:(0:Int)∉nw:=by intro hm;have:=h4 0 hm;simp[fI]at this
 have HF:(aH bs).Nodup:=by rw[hl,QpL];exact⟨by simpa using h0,List.pairwise_reverse.2 (h3.imp (fun h=>fun e=>h e.symm))⟩
 refine⟨by rw[hl];rfl,HF,fun x=> ?_,fun x hx dt=> ?_⟩
 ·rw[←hz x,h2 x,hl];simp[fI]
 ·have uI:x∈nw:=by rw[hl]at hx;simpa[dt]using hx
  obtain⟨l1,l2,e⟩:=List.append_of_mem uI;have BA:aH bs=(0::l2.reverse)++x::l1.reverse:=by rw[hl,e];simp
  have px:uZ (aH bs) x=((0::l2.reverse).length:Int):=by refine mV HF ?_;rw[BA,List.getElem?_append_right (kQ _)];simp
  have py:∀y,y∈(0:Int)::l2.reverse→uZ (aH bs) y<uZ (aH bs) x∧0≤uZ (aH bs) y:=by
   intro y hy;obtain⟨j,hj,hje⟩:=Qqo.1 hy;have:uZ (aH bs) y=(j:Int):=by refine mV HF ?_;rw[BA,List.getElem?_append_left hj,List.getElem?_eq_getElem hj,hje]
   omega
  rcases h5 l1 x l2 e with h|⟨y,hy,h⟩
  ·exact⟨0,(py 0 sI).1,(py 0 sI).2,h⟩
  ·have:=py y (by simp[hy]);exact⟨y,this.1,this.2,h⟩
theorem QG.uZ{T:Int→af}{l:af}(h:QG T l):OX T (uZ l)where
 reach:=fun x=>(QcK h.nodup).trans (h.mem x)
 zero:=mV h.nodup h.head;inj:=fun x y hx e=>by obtain⟨i,hi⟩:=Qmp.1 ((QcK h.nodup).1 hx);have e1:=mV h.nodup hi;have e2:=Qkm h.nodup (x:=y) (i:=i) oM;rw[hi]at e2;injection e2
 src:=fun x hx dt=>by obtain⟨s,h1,h2,h3⟩:=h.src x ((QcK h.nodup).1 hx) dt;exact⟨s,h2,h1,h3⟩
def iz(bs:List SB)(x:Int):Int:=uZ (aH bs) x
theorem iC{bs:List SB}(h:0<bs.length):OX (tg bs) (iz bs):=(nv h).uZ
theorem ny{bs:List SB}(h:0<bs.length){x:Int}(hx:Reach (tg bs) x):0≤x∧x<(bs.length:Int):=Qs h (fun _ _ h=>pZ h) hx
theorem qz{bs:List SB}(h:0<bs.length){x:Int}(hx:0≤iz bs x):0≤x∧x<(bs.length:Int):=ny h (((iC h).reach x).1 hx)
def EJ(bs:List SB):af:=(List.range bs.length).map (fun i:Nat=>iz bs (i:Int))
theorem QH(bs:List SB):cy bs.length (EJ bs) (iz bs):=⟨by simp[EJ],fun i hi=>by simp[EJ,List.getD,hi]⟩
theorem tJ{bs:List SB}{b s:Int}:s∈bG bs b↔(0≤s∧s<bs.length)∧b∈tg bs s:=by
 simp only[bG,ef,Qhz,Qov,QoA,Qqr,QhA];constructor
 ·rintro⟨i,⟨h1,h2⟩,rfl⟩;exact⟨oM,h2⟩
 ·rintro⟨h1,h2⟩;obtain⟨k,rfl⟩:=Qpr h1.1;exact⟨k,⟨oM,h2⟩,rfl⟩
theorem j5{bs:List SB}{x:Int}:fJ bs (-1) x=true↔Reach (tg bs) x:=by
 rw[qh];have e:∀y,HD (tg bs) (-1) y=tg bs y:=by intro y;unfold HD;rw[Qpw];intro t ht;have:=pZ ht;simp only[Qpt,beq_eq_false_iff_ne,QoR];omega
 have e2:HD (tg bs) (-1)=tg bs:=funext e;rw[e2];exact⟨fun h=>h.2,fun h=>⟨dQ,h⟩⟩
theorem WA{bs:List SB}{d x:Int}:fJ bs d x=false↔Dm (tg bs) d x:=by
 unfold Dm;rw[←qh];simp
theorem tK{bs:List SB}{d b:Nat}(hd:d<bs.length)(hb:b<bs.length):HE (gu bs) d b=true↔Reach (tg bs) (b:Int)∧Dm (tg bs) (d:Int) (b:Int):=by
 have:HE (gu bs) d b=mw bs (d:Int) (b:Int):=by simp[HE,gu,List.getD,hd,hb]
 rw[this];simp only[mw,QlP,Qpt];rw[j5,j5,WA];exact⟨fun h=>h.2,fun h=>⟨Dm.reach h.1 h.2,h⟩⟩
theorem BN{l:List (List Bool)}{b k:Nat}(h:∀d:Nat,d<k→d≠b→HE l d b=false):jH l b k= -1:=by
 induction k with
 |zero=>rfl
 |succ k ih=>
  unfold jH;rw[ih (fun d hd=>h d oM)];refine Ds fun hh=> ?_
  rw[h k oM hh.1]at hh;exact Bool.noConfusion hh.2.1
theorem QI{bs:List SB}{up:Int→Int}(h0:0<bs.length)(hu:Up (tg bs) (iz bs) up)(hp:∀x,0≤iz bs x→jV (iz bs) up x)(hd:∀x d,0≤iz bs x→oL up x d→Dm (tg bs) d x){b:Nat}(hb:b<bs.length)(hr:0≤iz bs (b:Int)):∀k,k≤bs.length→(jH (gu bs) b k= -1∧∀d:Nat,d<k→d≠b→¬Dm (tg bs) (d:Int) (b:Int))∨(∃d:Nat,jH (gu bs) b k=(d:Int)∧d<k∧d≠b∧Dm (tg bs) (d:Int) (b:Int)∧∀e:Nat,e<k→e≠b→Dm (tg bs) (e:Int) (b:Int)→Dm (tg bs) (e:Int) (d:Int)):=by
 have hP:=iC h0;have OY:=(hP.reach _).1 hr;have rd:∀d x,0≤iz bs x→Dm (tg bs) d x→0≤iz bs d:=fun d x hx h=>(hP.reach d).2 (Dm.reach ((hP.reach x).1 hx) h)
 intro k;induction k with
 |zero=>exact fun _=> .inl ⟨rfl,fun d h=>oM⟩
 |succ k ih=>
  intro hk;have HG:HE (gu bs) k b=true↔Dm (tg bs) (k:Int) (b:Int):=by rw[tK oM hb];exact⟨fun h=>h.2,fun h=>⟨OY,h⟩⟩
  rcases ih oM with⟨h1,h2⟩|⟨d,h1,h2,h3,h4,h5⟩
  ·by_cases c:k≠b∧HE (gu bs) k b=true
   ·right;refine⟨k,?_,oM,c.1,HG.1 c.2,fun e he dt EI=> ?_⟩
    ·unfold jH;exact Kt ⟨c.1,c.2,.inl oM⟩
    ·by_cases e2:e=k
     ·subst e2;exact Dm.self _
     ·exact absurd EI (h2 e oM dt)
   ·left;refine⟨?_,fun e he dt EI=> ?_⟩
    ·unfold jH;rw[Ds (fun hh=>c ⟨hh.1,hh.2.1⟩)];exact h1
    ·by_cases e2:e=k
     ·subst e2;exact c ⟨dt,HG.2 EI⟩
     ·exact h2 e oM dt EI
  ·have had:HE (gu bs) d k=true↔Reach (tg bs) (k:Int)∧Dm (tg bs) (d:Int) (k:Int):=tK oM oM;by_cases c:k≠b∧HE (gu bs) k b=true
   ·have hkb:=HG.1 c.2;have Va:=rd _ _ hr hkb;by_cases c2:HE (gu bs) d k=true
    ·right;refine⟨k,?_,oM,c.1,hkb,fun e he dt EI=> ?_⟩
     ·unfold jH;exact Kt ⟨c.1,c.2,.inr (by rw[h1];exact c2)⟩
     ·by_cases e2:e=k
      ·subst e2;exact Dm.self _
      ·have a1:=hu.Iu (hp _ Va) (had.1 c2).2;have a2:=hu.Iu (hp _ (rd _ _ Va (had.1 c2).2)) (h5 e oM dt EI);exact hd _ _ Va (a1.trans a2)
    ·right;refine⟨d,?_,oM,h3,h4,fun e he dt EI=> ?_⟩
     ·unfold jH;rw[Ds]
      ·exact h1
      ·rintro⟨_,_,hh⟩;rw[h1]at hh;rcases hh with hh|hh
       ·omega
       ·exact c2 hh
     ·by_cases e2:e=k
      ·subst e2;have hdr:=rd _ _ hr h4;rcases oL.total (hu.Iu (hp _ hr) hkb) (hu.Iu (hp _ hr) h4)with t|t
       ·exact absurd (had.2 ⟨(hP.reach _).1 Va,hd _ _ Va t⟩) c2
       ·exact hd _ _ hdr t
      ·exact h5 e oM dt EI
   ·right;refine⟨d,?_,oM,h3,h4,fun e he dt EI=> ?_⟩
    ·unfold jH;rw[Ds (fun hh=>c ⟨hh.1,hh.2.1⟩)];exact h1
    ·by_cases e2:e=k
     ·subst e2;exact absurd ⟨dt,HG.2 EI⟩ c
     ·exact h5 e oM dt EI
theorem Mq{bs:List SB}{up:Int→Int}{ab:af}{k:Nat}{i j:Int}(h0:0<bs.length)(hr:Dw (tg bs) (iz bs) up k i)(hk:1≤k)(hs:Mp (tg bs) (iz bs) up j)(hj:∀x,iz bs x≤j)(OZ:cy bs.length ab up):ab=fo bs:=by
 have hP:=iC h0;have hp:∀x,0≤iz bs x→jV (iz bs) up x:=fun x h=>⟨h,by
  by_cases e:x=0
  ·exact .inl e
  ·exact .inr (hr.some x h e (.inr hk))⟩
 have hd:∀x d,0≤iz bs x→oL up x d→Dm (tg bs) d x:=fun x d _ h=>hs.dm hP hj h
 refine OZ.ext ⟨by simp[fo,qi,j4],fun b hb=> ?_⟩;have e1:(fo bs).getD b 0=jH (gu bs) b bs.length:=by simp[fo,qi,j4,List.getD,hb]
 rw[e1];have KB:∀d:Nat,d<bs.length→¬Dm (tg bs) (d:Int) (b:Int)∨¬Reach (tg bs) (b:Int)→HE (gu bs) d b=false:=by
  intro d O0 hh;rw[←Qqn];intro ht;have:=(tK O0 hb).1 ht;rcases hh with hh|hh
  ·exact hh this.2
  ·exact hh this.1
 by_cases OY:0≤iz bs (b:Int)
 ·by_cases wF:b=0
  ·subst wF;rw[show up ((0:Nat):Int)= -1 from hr.off _ (.inr rfl)];refine BN fun d O0 dt=>KB d O0 (.inl fun h=> ?_)
   have:=h.vr;omega
  ·have QbR:(b:Int)≠0:=oM;obtain⟨l1,l2⟩:=hr.ok.low _ (hp _ OY) QbR;have lne:up (b:Int)≠(b:Int):=by intro e;rw[e]at l2;omega
   have lr:=qz h0 l1.1;obtain⟨u,hu⟩:=Qpr lr.1;have du:Dm (tg bs) (up (b:Int)) (b:Int):=hd _ _ OY (.step QbR (.refl _));rcases QI h0 hr.ok hp hd hb OY bs.length (kQ _)with⟨_,h2⟩|⟨d,h1,h2,h3,h4,h5⟩
   ·exact absurd (hu▸du) (h2 u oM (fun e=>lne (by rw[hu,e])))
   ·rw[h1];have dt:(d:Int)≠(b:Int):=oM;have d1:Dm (tg bs) (up (b:Int)) (d:Int):=by rw[hu];exact h5 u oM (fun e=>lne (by rw[hu,e])) (hu▸du)
    have hdr:0≤iz bs (d:Int):=(hP.reach _).2 (Dm.reach ((hP.reach _).1 OY) h4);have d2:Dm (tg bs) (d:Int) (up (b:Int)):=hr.ok.QD _ _ (hp _ OY) QbR h4 dt;have q1:=Dm.le hP hdr d1;have q2:=Dm.le hP l1.1 d2;exact hP.inj _ _ hdr oM
 ·rw[hr.off _ (.inl oM)];exact BN fun d O0 _=>KB d O0 (.inr fun h=>OY ((hP.reach _).2 h))
end Go.Mor
namespace Go.Mor
open Go.RowKit
theorem cy.at_{n:Nat}{l:af}{f:Int→Int}(h:cy n l f){x:Int}(h0:0≤x)(h1:x<n):(ints l)[x.toNat]?=some (vI (f x)):=by
 obtain⟨i,rfl⟩:=Qpr h0;have:=h.get (i:=i) oM;simp[ints,this]
structure WB(T:Int→af)(pl up:Int→Int)(n:Nat)(Vb ab:af):Prop where
 uZ:OX T pl
 ok:Up T pl up
 Dy:∀x,0≤pl x→0≤x∧x<(n:Int)
 HG:cy n Vb pl
 OZ:cy n ab up
section
variable {T : Int → List Int} {pl up : Int → Int} {n : Nat} {Vb ab : List Int}
theorem WB.at0(h:WB T pl up n Vb ab){x:Int}(hx:jV pl up x):(ints Vb)[x.toNat]?=some (vI (pl x)):=h.HG.at_ (h.Dy x hx.1).1 (h.Dy x hx.1).2
theorem WB.up0(h:WB T pl up n Vb ab){x:Int}(hx:jV pl up x):(ints ab)[x.toNat]?=some (vI (up x)):=h.OZ.at_ (h.Dy x hx.1).1 (h.Dy x hx.1).2
theorem WB.ne0(h:WB T pl up n Vb ab){a b:Int}(hb:jV pl up b)(eV:pl a>pl b):a≠0:=by
 rintro rfl;rw[h.uZ.zero]at eV;have:=hb.1;omega
theorem QJ(h:WB T pl up n Vb ab){a b a2 b2:Int}(ha:jV pl up a)(Aw:jV pl up a2)(uV:jV pl up b2)(dt:a≠b)(h1:a2=a∨pl a2<pl a)(h2:b2=b∨pl b2<pl b)(g1:¬pl a2>pl b)(g2:¬pl b2>pl a2):(pl a2+pl b2).toNat<(pl a+pl b).toNat:=by
 have p1:=Aw.1;have p2:=uV.1;rcases h1 with rfl|h1
 ·rcases h2 with rfl|h2
  ·exact absurd (h.uZ.inj _ _ ha.1 oM) dt
  ·omega
 ·rcases h2 with rfl|h2<;>omega
end
end Go.Mor
namespace Go.Mor
open Go.RowKit
theorem je(bs:List SB):(aH bs).length≤bs.length:=by
 unfold aH;split
 ·simp
 ·rw[List.length_reverse];exact Mb oM
theorem Dz{bs:List SB}{k:Nat}(hk:k<(aH bs).length):∃bi:Nat,(aH bs)[k]?=some (bi:Int)∧bi<bs.length∧iz bs (bi:Int)=(k:Int):=by
 have hl:=je bs;have ho:=nv (bs:=bs) oM;have hg:(aH bs)[k]?=some (aH bs)[k]:=List.getElem?_eq_getElem hk;have hr:=ny oM ((ho.mem _).1 (D7 hg));obtain⟨q,hq⟩:=Qpr hr.1;rw[hq]at hg;exact⟨q,hg,oM,mV ho.nodup hg⟩
theorem QL{bs:List SB}{j:Nat}(hk:j+1<(aH bs).length):∃bi:Nat,((aH bs).drop 1)[j]?=some (bi:Int)∧bi<bs.length∧iz bs (bi:Int)=(j:Int)+1:=by
 obtain⟨bi,h1,h2,h3⟩:=Dz hk;exact⟨bi,by rw[List.getElem?_drop,Nat.add_comm];exact h1,h2,oM⟩
theorem WC{w:World}{ad:Addr}{l:af}(h:(bx.rd (some ad) (ints l)).holds w):(bx.rd (some (ad.add (1*1))) (ints (l.drop 1))).holds w:=by
 have:=VI h 1;simpa[ints]using this
theorem DA(bs:List SB){l:af}(h:cy bs.length l (fun _=> -1)):cy bs.length l (uZ ((aH bs).take 0)):=h.congr (fun i _=>(Dx sI).symm)
theorem FC{bs:List SB}{l:af}{k bi:Nat}(h:cy bs.length l (uZ ((aH bs).take k)))(hk:(aH bs)[k]?=some (bi:Int))(hb:bi<bs.length):cy bs.length (l.set bi (k:Int)) (uZ ((aH bs).take (k+1))):=by
 have eV:=(List.getElem?_eq_some_iff.1 hk).1;have hl:=je bs;have ho:=nv (bs:=bs) oM;refine h.set hb ?_ fun j _ dt=> ?_
 ·rw[FB ho.nodup hk,Kt rfl]
 ·rw[FB ho.nodup hk,Ds oM]
theorem Ix{bs:List SB}{l:af}{k:Nat}(h:cy bs.length l (uZ ((aH bs).take k)))(hk:(aH bs).length≤k):cy bs.length l (iz bs):=by
 rw[Qot hk]at h;exact h
theorem iE{l:af}{q:Nat}{x:Int}(h:l[q]?=some x):l.take (q+1)=l.take q++[x]:=by
 obtain⟨eV,he⟩:=List.getElem?_eq_some_iff.1 h;rw[Qow eV,he]
theorem xt{bs:List SB}{b:Int}{q:Nat}(h:q<(bG bs b).length):∃si:Nat,(bG bs b)[q]?=some (si:Int)∧si<bs.length:=by
 have h1:=Fy (QpC h);obtain⟨k,he⟩:=Qpr h1.1;exact⟨k,by rw[List.getElem?_eq_getElem h,he],oM⟩
theorem WD{bs:List SB}(h:0<bs.length){b:Int}:∀s,0≤iz bs s→(s∈bG bs b↔b∈tg bs s):=fun s hs=>by
 rw[tJ];exact⟨fun h=>h.2,fun hb=>⟨qz h hs,hb⟩⟩
theorem QM(bs:List SB)(x:Int):iz bs x<(aH bs).length:=QbQ
theorem QN{bs:List SB}{up:Int→Int}{ab:af}{k:Nat}{j:Int}(hr:0<bs.length→Dw (tg bs) (iz bs) up k 0)(hk:1≤k)(hs:Mp (tg bs) (iz bs) up j)(hj:∀x,iz bs x≤j)(OZ:cy bs.length ab up):ab=fo bs:=by
 rcases Qqe bs.length with h0|h0
 ·have e1:ab=[]:=Qp3 (by rw[OZ.1,h0]);have e2:fo bs=[]:=Qp3 (by simp[fo,qi,j4,h0]);rw[e1,e2]
 ·exact Mq h0 (hr h0) hk hs hj OZ
theorem QO{n k:Nat}{b:Bool}(hf:n+2≤k→b=false)(h:b=true):k+1≤n+2:=by
 by_cases h8:n+2≤k
 ·rw[hf h8]at h;cases h
 ·omega
theorem FD(bs:List SB):(fo bs).length=bs.length:=by simp[fo,qi,j4]
theorem WE(bs:List SB):(EJ bs).length=bs.length:=by simp[EJ]
theorem Dw.keep{bs:List SB}{up:Int→Int}{k:Nat}{j b to:Int}(h:Dw (tg bs) (iz bs) up k j)(hb:iz bs b=j+1)(hto:0≤to)(he:up b=to)(ha:∀s,jV (iz bs) up s→b∈tg bs s→oL up s to):∀s,0≤iz bs s→b∈tg bs s→oL up s (up b):=by
 intro s hs hx;rw[he];refine ha s ⟨hs,?_⟩ hx;by_cases e:s=0
 ·exact .inl e
 ·refine .inr (h.some s hs e (.inr ?_));by_cases hk:k=0
  ·have:=h.non hk b oM;omega
  ·omega
end Go.Mor
namespace Go.Mor
open Go.RowKit
structure DB(bs:List SB)(up:Int→Int):Prop where
 of:cy bs.length (fo bs) up
 ok:Up (tg bs) (iz bs) up
 It:∀x,0≤iz bs x→jV (iz bs) up x
 off:∀x,(iz bs x<0∨x=0)→up x= -1
 dm:∀x d,oL up x d→Dm (tg bs) d x
def Qab(bs:List SB):Prop:=0<bs.length→∃up,DB bs up
theorem QbU{bs:List SB}{up:Int→Int}{ab:af}{k:Nat}{j:Int}(hr:0<bs.length→Dw (tg bs) (iz bs) up k 0)(hk:1≤k)(hs:Mp (tg bs) (iz bs) up j)(hj:∀x,iz bs x≤j)(OZ:cy bs.length ab up):Qab bs:=by
 intro h0;have LO:=hr h0;refine⟨up,QN hr hk hs hj OZ▸OZ,LO.ok,fun x h=>⟨h,?_⟩,LO.off,fun x d h=>hs.dm (iC h0) hj h⟩;by_cases e:x=0
 ·exact .inl e
 ·exact .inr (LO.some x h e (.inr hk))
end Go.Mor
namespace Go.Mor
open Go.RowKit
abbrev mW:=List (Int×Nat×Nat)
mutual
inductive Az(K:Int→af):Int→Nat→Nat→mW→Prop
 |mk {b:Int} {n m:Nat} {r:mW}:gD K (K b) (n+1) m r→Az K b n (m+1) (r++[(b,n+1,m+1)])
inductive gD(K:Int→af):af→Nat→Nat→mW→Prop
 |nil {n:Nat}:gD K [] n n []
 |snoc {l:af} {c:Int} {n m p:Nat} {r s:mW}:gD K l n m r→Az K c m p s→gD K (l++[c]) n p (r++s)
end
structure TreeU(K:Int→af)(pl up:Int→Int):Prop where
 Q8:∀b c,c∈K b→up c=b∧c≠0∧pl b<pl c
 ME:∀b,(K b).Nodup
section
variable {K : Int → List Int} {pl up : Int → Int}
theorem TreeU.Iu(h:TreeU K pl up){b c:Int}(hc:c∈K b):oL up c b:= .step (h.Q8 b c hc).2.1 (by rw[(h.Q8 b c hc).1];exact .refl _)
mutual
theorem Az.facts(h:TreeU K pl up){b:Int}{n m:Nat}{r:mW}:Az K b n m r→(∀x i o,(x,i,o)∈r→oL up x b∧n<i∧i<o∧o≤m)∧n<m
 | .mk (m:=m) hl=>by
  have ih:=gD.facts h hl;constructor
  ·intro x i o hx;rcases Qn2.1 hx with hx|hx
   ·obtain⟨⟨c,hc,ha⟩,h1,h2,h3⟩:=ih.1 x i o hx;exact⟨ha.trans (h.Iu hc),oM,h2,oM⟩
   ·simp only[yX,Qaq]at hx;obtain⟨rfl,rfl,rfl⟩:=hx;have:=ih.2;exact⟨.refl _,oM,oM,oM⟩
  ·have:=ih.2;omega
theorem gD.facts(h:TreeU K pl up){l:af}{n m:Nat}{r:mW}:gD K l n m r→(∀x i o,(x,i,o)∈r→(∃c,c∈l∧oL up x c)∧n<i∧i<o∧o≤m)∧n≤m
 | .nil=>⟨fun x i o hx=>by simp at hx,kQ _⟩
 | .snoc (l:=l) (c:=c) (m:=m0) hl hv=>by
  have i1:=gD.facts h hl;have i2:=Az.facts h hv;refine⟨fun x i o hx=> ?_,by have:=i1.2;have:=i2.2;omega⟩;rcases Qn2.1 hx with hx|hx
  ·obtain⟨⟨c',hc,ha⟩,h1,h2,h3⟩:=i1.1 x i o hx;have:=i2.2;exact⟨⟨c',Qox _ hc,ha⟩,h1,h2,oM⟩
  ·obtain⟨ha,h1,h2,h3⟩:=i2.1 x i o hx;have:=i1.2;exact⟨⟨c,sI,ha⟩,oM,h2,h3⟩
end
theorem oL.chain{x a b:Int}(ha:oL up x a)(hb:oL up x b):oL up a b∨oL up b a:=by
 induction ha with
 |refl=>exact .inl hb
 | @step x d dt h ih=>
  cases hb with
  |refl=>exact .inr (.step dt h)
  |step _ hb=>exact ih hb
theorem TreeU.sub(h:TreeU K pl up){b c c' y:Int}(hc:c∈K b)(ta:c'∈K b)(hp:∀x d,oL up x d→0≤pl x→pl d≤pl x)(hb:0≤pl b)(h1:oL up y c)(h2:oL up y c'):c=c':=by
 have key:∀c c',c∈K b→c'∈K b→oL up c c'→c=c':=by
  intro c c' hc ta ha;cases ha with
  |refl=>rfl
  |step dt ha=>
   rw[(h.Q8 b c hc).1]at ha;have:=hp _ _ ha hb;have:=(h.Q8 b c' ta).2.2;omega
 rcases oL.chain h1 h2 with h3|h3
 ·exact key c c' hc ta h3
 ·exact(key c' c ta hc h3).symm
structure mE(K:Int→af)(pl up:Int→Int):Prop extends TreeU K pl up where
 le:∀x d,oL up x d→0≤pl x→pl d≤pl x
 pos:∀b,0≤pl b→∀c,c∈K b→0≤pl c
 neg:∀x d,pl x<0→0≤pl d→¬oL up x d
mutual
theorem Az.hold(h:mE K pl up){b:Int}(hb:0≤pl b){n m:Nat}{r:mW}:Az K b n m r→∀x i o y i' o',(x,i,o)∈r→(y,i',o')∈r→((i≤i'∧o'≤o)↔oL up y x)
 | .mk (m:=m) (r:=r) hl=>by
  intro x i o y i' o' hx hy;have f:=gD.facts h.toTreeU hl;rcases Qn2.1 hx with x1|x1<;>rcases Qn2.1 hy with y1|y1
  ·exact gD.hold h hb (fun c hc=>hc) (h.ME b) hl x i o y i' o' x1 y1
  ·simp only[yX,Qaq]at y1;obtain⟨e1,e2,e3⟩:=y1;obtain⟨⟨c,hc,ha⟩,h1,h2,h3⟩:=f.1 x i o x1;constructor
   ·intro hh;omega
   ·intro hh;rw[e1]at hh;have h4:=(h.Q8 _ _ hc).2.2;have h5:=h.le _ _ hh hb;have h6:=h.pos b hb c hc;have h7:=h.le _ _ (hh.trans ha) hb;omega
  ·simp only[yX,Qaq]at x1;obtain⟨e1,e2,e3⟩:=x1;obtain⟨⟨c,hc,ha⟩,h1,h2,h3⟩:=f.1 y i' o' y1;rw[e1];exact⟨fun _=>ha.trans (h.Iu hc),fun _=>⟨by omega,by omega⟩⟩
  ·simp only[yX,Qaq]at x1 y1;obtain⟨e1,e2,e3⟩:=x1;obtain⟨e4,e5,e6⟩:=y1;rw[e1,e4];exact⟨fun _=> .refl _,fun _=>⟨by omega,by omega⟩⟩
theorem gD.hold(h:mE K pl up){b:Int}(hb:0≤pl b){l:af}(kv:∀c,c∈l→c∈K b)(HF:l.Nodup){n m:Nat}{r:mW}:gD K l n m r→(∀x i o y i' o',(x,i,o)∈r→(y,i',o')∈r→((i≤i'∧o'≤o)↔oL up y x))
 | .nil=>fun x i o y i' o' hx _=>by simp at hx
 | .snoc (l:=l) (c:=c) hl hv=>by
  have f1:=gD.facts h.toTreeU hl;have f2:=Az.facts h.toTreeU hv;have O3:=kv c (by simp);have QF:=h.pos b hb c O3;rw[QoS]at HF;have apart:∀y,oL up y c→∀c',c'∈l→¬oL up y c':=by intro y h1 c' ta h2;have:=h.sub O3 (kv c' (Qox _ ta)) h.le hb h1 h2;exact HF.2.2 c' ta c (by simp) this.symm
  intro x i o y i' o' hx hy;rcases Qn2.1 hx with x1|x1<;>rcases Qn2.1 hy with y1|y1
  ·exact gD.hold h hb (fun c hc=>kv c (Qox _ hc)) HF.1 hl x i o y i' o' x1 y1
  ·obtain⟨⟨c',ta,ha⟩,h1,h2,h3⟩:=f1.1 x i o x1;obtain⟨AX,h4,h5,h6⟩:=f2.1 y i' o' y1;constructor
   ·intro hh;omega
   ·intro hh;exact absurd (hh.trans ha) (apart y AX c' ta)
  ·obtain⟨⟨c',ta,ha⟩,h1,h2,h3⟩:=f1.1 y i' o' y1;obtain⟨AX,h4,h5,h6⟩:=f2.1 x i o x1;constructor
   ·intro hh;omega
   ·intro hh;exact absurd ha (apart y (hh.trans AX) c' ta)
  ·exact Az.hold h QF hv x i o y i' o' x1 y1
end
end
end Go.Mor
namespace Go.Mor
open Go.RowKit
def Qb5(bs:List SB)(k:Nat):Nat:=((List.range k).filter (fun i:Nat=>fJ bs (-1) (i:Int))).length
theorem yR{l:List Nat}(h:l.Nodup):(l.map (fun i:Nat=>(i:Int))).Nodup:=by
 rw[List.Nodup,QpX];exact h.imp (fun h e=>h oM)
theorem WZ(bs:List SB):Qb5 bs bs.length=(aH bs).length:=by
 by_cases h0:bs.length=0
 ·unfold Qb5 aH;rw[Kt h0,h0];rfl
 ·have ho:=nv (bs:=bs) oM;have hn:(((List.range bs.length).filter (fun i:Nat=>fJ bs (-1) (i:Int))).map (fun i:Nat=>(i:Int))).Nodup:=yR (List.nodup_range.sublist Qpm);have hp:=(List.perm_ext_iff_of_nodup ho.nodup hn).2 (fun x=>by
   rw[ho.mem x];constructor
   ·intro hx;obtain⟨h1,h2⟩:=ny oM hx;exact Qhz.2 ⟨x.toNat,Qov.2 ⟨QoA.2 oM,by rw[Qo7 h1];exact j5.2 hx⟩,Qo7 h1⟩
   ·intro hx;obtain⟨i,hi,rfl⟩:=Qhz.1 hx;exact j5.1 (Qov.1 hi).2)
  rw[hp.length_eq,QlO];rfl
theorem BW{n:Nat}{l:af}{f:Int→Int}(h:cy n l f){x v:Int}(h0:0≤x)(h1:x<n)(e:f x=v):(ints l)[x.toNat]?=some (vI v):=by rw[←e];exact h.at_ h0 h1
end Go.Mor
namespace Go.Mor
open Go.RowKit
inductive Q9(K:Int→af):List (Int×Int)→Int→Nat→List (Int×Nat)→mW→Prop
 |nil:Q9 K [] 0 0 [] []
 |snoc {ws:List (Int×Int)} {b c:Int} {n0 n1 j:Nat} {op:List (Int×Nat)} {rs r:mW}:Q9 K ws b n0 op rs→gD K ((K b).take j) (n0+1) n1 r→(K b)[j]?=some c→
   Q9 K (ws++[(b,(j:Int)+1)]) c n1 (op++[(b,n0+1)]) (rs++r)
def KV(f:Int→Int)(op:List (Int×Nat))(rs:mW):Prop:=∀x:Int,(∀i:Nat,(x,i)∈op→f x=i)∧(∀i o:Nat,(x,i,o)∈rs→f x=i)∧((∀i:Nat,(x,i)∉op)→(∀i o:Nat,(x,i,o)∉rs)→f x=0)
def DM(g:Int→Int)(rs:mW):Prop:=∀x:Int,(∀i o:Nat,(x,i,o)∈rs→g x=o)∧((∀i o:Nat,(x,i,o)∉rs)→g x=0)
def AA(f:Int→Int)(b v:Int):Int→Int:=fun x=>if x=b then v else f x
section
variable {K : Int → List Int} {pl up : Int → Int}
theorem gD.len{l:af}{n m:Nat}{r:mW}(h:gD K l n m r):m=n+2*r.length:=by
 refine gD.rec (motive_1:=fun _ n m r _=>m=n+2*r.length) (motive_2:=fun _ n m r _=>m=n+2*r.length) ?_ ?_ ?_ h
 ·intro b n m r _ ih;simp only[QoG,QoE,Qo3];omega
 ·intro n;simp
 ·intro l c n m p r s _ _ i1 i2;simp only[QoG];omega
mutual
theorem Az.ME(h:mE K pl up){b:Int}(hb:0≤pl b){n m:Nat}{r:mW}:Az K b n m r→(r.map (·.1)).Nodup
 | .mk (m:=m) (r:=r) hl=>by have f:=gD.facts h.toTreeU hl;rw[Qou,QoS];refine⟨gD.ME h hb (fun c hc=>hc) (h.ME b) hl,sI,fun x hx y hy e=> ?_⟩;simp at hy;subst hy;subst e;obtain⟨⟨x,i,o⟩,mx,rfl⟩:=Qhz.1 hx;obtain⟨⟨c,hc,ha⟩,_⟩:=f.1 x i o mx;have h4:=(h.Q8 _ _ hc).2.2;have h5:=h.le _ _ ha hb;simp only at h4;omega
theorem gD.ME(h:mE K pl up){b:Int}(hb:0≤pl b){l:af}(kv:∀c,c∈l→c∈K b)(HF:l.Nodup){n m:Nat}{r:mW}:gD K l n m r→(r.map (·.1)).Nodup
 | .nil=>sI
 | .snoc (l:=l) (c:=c) hl hv=>by have f1:=gD.facts h.toTreeU hl;have f2:=Az.facts h.toTreeU hv;have O3:=kv c sI;rw[QoS]at HF;rw[Qou,QoS];refine⟨gD.ME h hb (fun c hc=>kv c (Qox _ hc)) HF.1 hl,Az.ME h (h.pos b hb c O3) hv,fun x hx y hy e=> ?_⟩;obtain⟨⟨x,i,o⟩,mx,rfl⟩:=Qhz.1 hx;obtain⟨⟨y,i',o'⟩,my,rfl⟩:=Qhz.1 hy;simp only at e;subst e;obtain⟨⟨c',ta,ha⟩,_⟩:=f1.1 x i o mx;obtain⟨AX,_⟩:=f2.1 x i' o' my;have:=h.sub O3 (kv c' (Qox _ ta)) h.le hb AX ha;exact HF.2.2 c' ta c sI this.symm
end
theorem Q9.facts(h:mE K pl up)(h0:0≤pl 0){ws:List (Int×Int)}{b:Int}{n0:Nat}{op:List (Int×Nat)}{rs:mW}(hl:Q9 K ws b n0 op rs):0≤pl b∧(∀x i,(x,i)∈op→oL up b x∧pl x<pl b∧0≤pl x∧1≤i)∧(∀x i o,(x,i,o)∈rs→¬oL up x b∧0≤pl x)∧(op.map (·.1)++rs.map (·.1)).Nodup∧n0=op.length+2*rs.length:=by
 induction hl with
 |nil=>exact⟨h0,sI,sI,sI,sI⟩
 | @snoc ws b c n0 n1 j op rs r hl hv hc ih=>
  obtain⟨hb,h1,h2,h3,h4⟩:=ih;have O3:c∈K b:=D7 hc;have QF:=h.pos b hb c O3;have hk:=h.Q8 b c O3;have kv:∀x,x∈(K b).take j→x∈K b:=fun x hx=>QpR hx
  have fr:=gD.facts h.toTreeU hv;have QmY:∀x,x∈(K b).take j→x≠c:=by
   rintro x hx rfl;obtain⟨i,hi,he⟩:=QpV.1 hx;have l6:(K b)[i]?=some x:=by rw[List.getElem?_eq_getElem oM,he]
   have hd:=h.ME b;obtain⟨hj,hje⟩:=List.getElem?_eq_some_iff.1 hc;have:=(List.nodup_iff_pairwise_ne.1 hd);rw[QpB]at this;exact this i j oM hj oM (by rw[he,hje])
  have hr:∀x i o,(x,i,o)∈r→¬oL up x c∧oL up x b∧0≤pl x∧x≠b:=by
   intro x i o hx;obtain⟨⟨c',ta,ha⟩,_⟩:=fr.1 x i o hx;have iO:=h.Q8 b c' (kv c' ta);refine⟨fun nW=>QmY c' ta (h.sub (kv c' ta) O3 h.le hb ha nW),ha.trans (h.Iu (kv c' ta)),?_,?_⟩
   ·rcases Int.lt_or_le (pl x) 0 with h7|h7
    ·exfalso;exact absurd ha (h.neg x c' h7 (h.pos b hb c' (kv c' ta)))
    ·exact h7
   ·rintro rfl;have:=h.le _ _ ha hb;omega
  refine⟨QF,fun x i hx=> ?_,fun x i o hx=> ?_,?_,?_⟩
  ·rcases Qn2.1 hx with hx|hx
   ·obtain⟨a1,a2,a3,a4⟩:=h1 x i hx;exact⟨(h.Iu O3).trans a1,oM,a3,a4⟩
   ·simp only[yX,Qaq]at hx;obtain⟨rfl,rfl⟩:=hx;exact⟨h.Iu O3,hk.2.2,hb,oM⟩
  ·rcases Qn2.1 hx with hx|hx
   ·obtain⟨a1,a2⟩:=h2 x i o hx;refine⟨fun ha=> ?_,a2⟩;exact a1 (ha.trans (h.Iu O3))
   ·exact⟨(hr x i o hx).1,(hr x i o hx).2.2.1⟩
  ·rw[QoS]at h3;rw[Qou,Qou,QoS,QoS,QoS];refine⟨⟨h3.1,sI,fun x hx y hy e=> ?_⟩,⟨h3.2.1,gD.ME h hb kv ((h.ME b).sublist (QpW _ _)) hv,fun x hx y hy e=> ?_⟩,fun x hx y hy e=> ?_⟩
   ·simp at hy;subst hy;subst e;obtain⟨⟨x,i⟩,mx,rfl⟩:=Qhz.1 hx;have:=(h1 x i mx).2.1;simp only at this;omega
   ·obtain⟨⟨x,i,o⟩,mx,rfl⟩:=Qhz.1 hx;obtain⟨⟨y,i',o'⟩,my,rfl⟩:=Qhz.1 hy;simp only at e;subst e;exact(h2 x i o mx).1 (hr x i' o' my).2.1
   ·rcases Qn2.1 hx with hx|hx<;>rcases Qn2.1 hy with hy|hy
    ·exact h3.2.2 x hx y hy e
    ·obtain⟨⟨x,i⟩,mx,rfl⟩:=Qhz.1 hx;obtain⟨⟨y,i',o'⟩,my,rfl⟩:=Qhz.1 hy;simp only at e;subst e;have a1:=(hr x i' o' my).2.1;have a2:=h.le _ _ a1 (hr x i' o' my).2.2.1;have:=(h1 x i mx).2.1;omega
    ·simp at hx;subst hx;subst e;obtain⟨⟨y,i',o'⟩,my,rfl⟩:=Qhz.1 hy;exact(h2 y i' o' my).1 (.refl _)
    ·simp at hx;subst hx;subst e;obtain⟨⟨y,i',o'⟩,my,rfl⟩:=Qhz.1 hy;exact(hr y i' o' my).2.2.2 rfl
  ·have:=gD.len hv;simp only[QoG,QoE,Qo3];omega
end
end Go.Mor
namespace Go.Mor
open Go.RowKit
def Ra(K:Int→af)(ws:List (Int×Int))(b:Int)(n:Nat)(f g:Int→Int):Prop:=∃op rs,Q9 K ws b n op rs∧KV f op rs∧DM g rs
def KW(K:Int→af)(ws:List (Int×Int))(b:Int)(k n:Nat)(f g:Int→Int):Prop:=∃op rs n0 r,Q9 K ws b n0 op rs∧gD K ((K b).take k) (n0+1) n r∧k≤(K b).length∧KV f (op++[(b,n0+1)]) (rs++r)∧DM g (rs++r)
def Ly(K:Int→af)(n:Nat)(f g:Int→Int):Prop:=∃rs,Az K 0 0 n rs∧KV f [] rs∧DM g rs
def DN(K:Int→af)(qU:List (Int×Int))(n:Nat)(f g:Int→Int):Prop:=(qU=[]∧Ly K n f g)∨∃(ws:List (Int×Int)) (b:Int) (k:Nat),qU=ws++[(b,(k:Int))]∧((k=0∧Ra K ws b n f g)∨(1≤k∧KW K ws b k n f g))
section
variable {K : Int → List Int} {pl up : Int → Int} {ws : List (Int × Int)} {b : Int} {n k : Nat} {f g : Int → Int}
theorem Ra.start(h:mE K pl up)(h0:0≤pl 0)(hu:Ra K ws b n f g):KW K ws b 0 (n+1) (AA f b ((n:Int)+1)) g:=by
 obtain⟨op,rs,hl,hf,hg⟩:=hu;obtain⟨f1,f2,f3,f4,f5⟩:=hl.facts h h0;refine⟨op,rs,n,[],hl,by rw[List.take_zero];exact .nil,Qom _,?_,by rw[QoZ];exact hg⟩;rw[QoZ];intro x;unfold AA;by_cases e:x=b
 ·subst e;rw[Kt rfl];refine⟨fun i hi=> ?_,fun i o hi=> ?_,fun hi _=> ?_⟩
  ·rcases Qn2.1 hi with hi|hi
   ·have:=(f2 x i hi).2.1;omega
   ·simp only[yX,Qaq]at hi;obtain⟨_,rfl⟩:=hi;simp
  ·exact absurd (.refl _) (f3 x i o hi).1
  ·exact absurd (sI:(x,n+1)∈op++[(x,n+1)]) (hi (n+1))
 ·rw[Ds e];refine⟨fun i hi=> ?_,(hf x).2.1,fun hi hj=>(hf x).2.2 (fun i hm=>hi i (Qox _ hm)) hj⟩;rcases Qn2.1 hi with hi|hi
  ·exact(hf x).1 i hi
  ·simp only[yX,Qaq]at hi;exact absurd hi.1 e
theorem KW.pos(h:mE K pl up)(h0:0≤pl 0)(hs:KW K ws b k n f g):0≤pl b:=by
 obtain⟨op,rs,n0,r,hl,_⟩:=hs;exact(hl.facts h h0).1
theorem Ra.pos(h:mE K pl up)(h0:0≤pl 0)(hs:Ra K ws b n f g):0≤pl b:=by
 obtain⟨op,rs,hl,_⟩:=hs;exact(hl.facts h h0).1
theorem KW.push(hs:KW K ws b k n f g){c:Int}(hc:(K b)[k]?=some c):Ra K (ws++[(b,(k:Int)+1)]) c n f g:=by
 obtain⟨op,rs,n0,r,hl,hv,hk,hf,hg⟩:=hs;exact⟨_,_,.snoc hl hv hc,hf,hg⟩
theorem KW.finish(h:mE K pl up)(h0:0≤pl 0)(hs:KW K ws b (K b).length n f g):DN K ws (n+1) f (AA g b ((n:Int)+1)):=by
 obtain⟨op,rs,n0,r,hl,hv,hk,hf,hg⟩:=hs;obtain⟨f1,f2,f3,f4,f5⟩:=hl.facts h h0;rw[QoF]at hv;have fr:=gD.facts h.toTreeU hv;have QlM:Az K b n0 (n+1) (r++[(b,n0+1,n+1)]):= .mk hv;have hnr:∀i o:Nat,(b,i,o)∉rs++r:=by
  intro i o hm;rcases Qn2.1 hm with hm|hm
  ·exact(f3 b i o hm).1 (.refl _)
  ·obtain⟨⟨c,hc,ha⟩,_⟩:=fr.1 b i o hm;have:=h.le _ _ ha f1;have:=(h.Q8 b c hc).2.2;omega
 have hf':KV f op (rs++(r++[(b,n0+1,n+1)])):=by
  intro x;refine⟨fun i hi=>(hf x).1 i (Qox _ hi),fun i o hi=> ?_,fun hi hj=>(hf x).2.2 (fun i hm=> ?_) (fun i o hm=>hj i o ?_)⟩
  ·rw[←QoC]at hi;rcases Qn2.1 hi with hi|hi
   ·exact(hf x).2.1 i o hi
   ·simp only[yX,Qaq]at hi;obtain⟨rfl,rfl,rfl⟩:=hi;exact(hf x).1 (n0+1) sI
  ·rcases Qn2.1 hm with hm|hm
   ·exact hi i hm
   ·simp only[yX,Qaq]at hm;obtain⟨rfl,rfl⟩:=hm;exact hj (n0+1) (n+1) sI
  ·rw[←QoC];exact Qox _ hm
 have nU:DM (AA g b ((n:Int)+1)) (rs++(r++[(b,n0+1,n+1)])):=by
  intro x;unfold AA;rw[←QoC];by_cases e:x=b
  ·subst e;rw[Kt rfl];refine⟨fun i o hi=> ?_,fun hi=>absurd (sI:(x,n0+1,n+1)∈rs++r++[(x,n0+1,n+1)]) (hi _ _)⟩;rcases Qn2.1 hi with hi|hi
   ·exact absurd hi (hnr i o)
   ·simp only[yX,Qaq]at hi;obtain⟨_,_,rfl⟩:=hi;simp
  ·rw[Ds e];refine⟨fun i o hi=> ?_,fun hi=>(hg x).2 (fun i o hm=>hi i o (Qox _ hm))⟩;rcases Qn2.1 hi with hi|hi
   ·exact(hg x).1 i o hi
   ·simp only[yX,Qaq]at hi;exact absurd hi.1 e
 cases hl with
 |nil=>
  exact .inl ⟨rfl,_,by simpa using QlM,by simpa using hf',by simpa using nU⟩
 | @snoc ws' b' _ m0 _ j op' rs' r' UU hv' ta=>
  refine .inr ⟨ws',b',j+1,sI,.inr ⟨oM,op',rs',m0,r'++(r++[(b,n0+1,n+1)]),UU,?_,?_,?_,?_⟩⟩
  ·obtain⟨hj,hje⟩:=List.getElem?_eq_some_iff.1 ta;rw[Qow hj,hje];exact .snoc hv' QlM
  ·exact(List.getElem?_eq_some_iff.1 ta).1
  ·rw[QoC]at hf';exact hf'
  ·rw[QoC]at nU;exact nU
theorem Qet{l:af}{N:Nat}(hn:l.Nodup)(hr:∀x,x∈l→0≤x∧x<(N:Int)):l.length≤N:=by
 have hp:=(List.perm_ext_iff_of_nodup hn (l₂:=((List.range N).filter (fun i:Nat=>decide ((i:Int)∈l))).map (fun i:Nat=>(i:Int))) (yR (List.nodup_range.sublist Qpm))).2 (fun x=>by
  constructor
  ·intro hx;obtain⟨h1,h2⟩:=hr x hx;have e:(x.toNat:Int)=x:=Qo7 h1;exact Qhz.2 ⟨x.toNat,Qov.2 ⟨QoA.2 oM,by rw[e];simpa using hx⟩,e⟩
  ·intro hx;obtain⟨i,hi,rfl⟩:=Qhz.1 hx;simpa using(Qov.1 hi).2)
 rw[hp.length_eq,QlO];exact QoJ (QoI _ _) sI
theorem Q9.bound(h:mE K pl up)(h0:0≤pl 0){N:Nat}(hN:∀x,0≤pl x→0≤x∧x<(N:Int)){op:List (Int×Nat)}{rs:mW}(hl:Q9 K ws b n op rs):n+2≤2*N:=by
 obtain⟨f1,f2,f3,f4,f5⟩:=hl.facts h h0;have HF:(b::(op.map (·.1)++rs.map (·.1))).Nodup:=by
  rw[QpL];refine⟨fun hm=> ?_,f4⟩;rcases Qn2.1 hm with hm|hm
  ·obtain⟨⟨x,i⟩,mx,rfl⟩:=Qhz.1 hm;have:=(f2 x i mx).2.1;simp only at this;omega
  ·obtain⟨⟨x,i,o⟩,mx,rfl⟩:=Qhz.1 hm;exact(f3 x i o mx).1 (.refl _)
 have:=Qet (N:=N) HF (fun x hx=>by
  rcases Qon.1 hx with rfl|hx
  ·exact hN _ f1
  ·rcases Qn2.1 hx with hm|hm
   ·obtain⟨⟨x,i⟩,mx,rfl⟩:=Qhz.1 hm;exact hN _ (f2 x i mx).2.2.1
   ·obtain⟨⟨x,i,o⟩,mx,rfl⟩:=Qhz.1 hm;exact hN _ (f3 x i o mx).2)
 simp only[QoE,QoG,QlO]at this;omega
theorem Ra.bound(h:mE K pl up)(h0:0≤pl 0){N:Nat}(hN:∀x,0≤pl x→0≤x∧x<(N:Int))(hu:Ra K ws b n f g):n+2≤2*N:=by
 obtain⟨op,rs,hl,_⟩:=hu;exact hl.bound h h0 hN
theorem KW.bound(h:mE K pl up)(h0:0≤pl 0){N:Nat}(hN:∀x,0≤pl x→0≤x∧x<(N:Int))(hs:KW K ws b k n f g):n+1≤2*N:=by
 obtain⟨op,rs,n0,r,hl,hv,hk,_,_⟩:=hs;obtain⟨f1,f2,f3,f4,f5⟩:=hl.facts h h0;have fr:=gD.facts h.toTreeU hv;have kv:∀x,x∈(K b).take k→x∈K b:=fun x hx=>QpR hx
 have FE:∀x i o,(x,i,o)∈r→oL up x b∧0≤pl x∧x≠b:=by
  intro x i o hx;obtain⟨⟨c',ta,ha⟩,_⟩:=fr.1 x i o hx;have iO:=h.Q8 b c' (kv c' ta);refine⟨ha.trans (h.Iu (kv c' ta)),?_,?_⟩
  ·rcases Int.lt_or_le (pl x) 0 with h7|h7
   ·exact absurd ha (h.neg x c' h7 (h.pos b f1 c' (kv c' ta)))
   ·exact h7
  ·rintro rfl;have:=h.le _ _ ha f1;omega
 have HF:(b::((op.map (·.1)++rs.map (·.1))++r.map (·.1))).Nodup:=by
  rw[QpL,QoS];refine⟨fun hm=> ?_,f4,gD.ME h f1 kv ((h.ME b).sublist (QpW _ _)) hv,fun x hx y hy e=> ?_⟩
  ·rcases Qn2.1 hm with hm|hm
   ·rcases Qn2.1 hm with hm|hm
    ·obtain⟨⟨x,i⟩,mx,rfl⟩:=Qhz.1 hm;have:=(f2 x i mx).2.1;simp only at this;omega
    ·obtain⟨⟨x,i,o⟩,mx,rfl⟩:=Qhz.1 hm;exact(f3 x i o mx).1 (.refl _)
   ·obtain⟨⟨x,i,o⟩,mx,rfl⟩:=Qhz.1 hm;exact(FE x i o mx).2.2 rfl
  ·obtain⟨⟨y,i',o'⟩,my,rfl⟩:=Qhz.1 hy;rcases Qn2.1 hx with hx|hx
   ·obtain⟨⟨x,i⟩,mx,rfl⟩:=Qhz.1 hx;simp only at e;subst e;have:=(f2 x i mx).2.1;have:=h.le _ _ (FE x i' o' my).1 (FE x i' o' my).2.1;omega
   ·obtain⟨⟨x,i,o⟩,mx,rfl⟩:=Qhz.1 hx;simp only at e;subst e;exact(f3 x i o mx).1 (FE x i' o' my).1
 have:=Qet (N:=N) HF (fun x hx=>by
  rcases Qon.1 hx with rfl|hx
  ·exact hN _ f1
  ·rcases Qn2.1 hx with hx|hx
   ·rcases Qn2.1 hx with hm|hm
    ·obtain⟨⟨x,i⟩,mx,rfl⟩:=Qhz.1 hm;exact hN _ (f2 x i mx).2.2.1
    ·obtain⟨⟨x,i,o⟩,mx,rfl⟩:=Qhz.1 hm;exact hN _ (f3 x i o mx).2
   ·obtain⟨⟨x,i,o⟩,mx,rfl⟩:=Qhz.1 hx;exact hN _ (FE x i o mx).2.1)
 have hlen:=gD.len hv;simp only[QoE,QoG,QlO]at this;omega
end
section
variable {K : Int → List Int} {pl up : Int → Int}
mutual
theorem Az.kids{b:Int}{n m:Nat}{r:mW}:Az K b n m r→(∃i o,(b,i,o)∈r)∧∀x i o,(x,i,o)∈r→∀c,c∈K x→∃i' o',(c,i',o')∈r
 | .mk (m:=m) (r:=r) hl=>by
  have ih:=gD.kids hl;refine⟨⟨n+1,m+1,sI⟩,fun x i o hx c hc=> ?_⟩;rcases Qn2.1 hx with hx|hx
  ·obtain⟨i',o',h'⟩:=ih.2 x i o hx c hc;exact⟨i',o',Qox _ h'⟩
  ·simp only[yX,Qaq]at hx;obtain⟨rfl,_,_⟩:=hx;obtain⟨i',o',h'⟩:=ih.1 c hc;exact⟨i',o',Qox _ h'⟩
theorem gD.kids{l:af}{n m:Nat}{r:mW}:gD K l n m r→(∀c,c∈l→∃i o,(c,i,o)∈r)∧∀x i o,(x,i,o)∈r→∀c,c∈K x→∃i' o',(c,i',o')∈r
 | .nil=>⟨fun c hc=>by simp at hc,fun x i o hx=>by simp at hx⟩
 | .snoc (l:=l) (c:=c0) hl hv=>by
  have i1:=gD.kids hl;have i2:=Az.kids hv;refine⟨fun c hc=> ?_,fun x i o hx c hc=> ?_⟩
  ·rcases Qn2.1 hc with hc|hc
   ·obtain⟨i',o',h'⟩:=i1.1 c hc;exact⟨i',o',Qox _ h'⟩
   ·simp only[yX]at hc;subst hc;obtain⟨i',o',h'⟩:=i2.1;exact⟨i',o',Qo5 _ h'⟩
  ·rcases Qn2.1 hx with hx|hx
   ·obtain⟨i',o',h'⟩:=i1.2 x i o hx c hc;exact⟨i',o',Qox _ h'⟩
   ·obtain⟨i',o',h'⟩:=i2.2 x i o hx c hc;exact⟨i',o',Qo5 _ h'⟩
end
theorem Ly.Qb6{n:Nat}{f g:Int→Int}(h:mE K pl up)(h0:0≤pl 0)(cV:∀x,0≤pl x→x≠0→x∈K (up x)∧0≤pl (up x)∧pl (up x)<pl x)(hf:Ly K n f g){x y:Int}(hx:0≤pl x)(hy:0≤pl y):(0<f x∧0<f y∧f x≤f y∧g y≤g x)↔oL up y x:=by
 obtain⟨rs,hv,nY,qn⟩:=hf;have hk:=Az.kids hv;have key:∀(m:Nat) (x:Int),0≤pl x→(pl x).toNat≤m→∃i o,(x,i,o)∈rs:=by
  intro m;induction m with
  |zero=>
   intro x hx hm;by_cases e:x=0
   ·subst e;exact hk.1
   ·have:=cV x hx e;omega
  |succ m ih=>
   intro x hx hm;by_cases e:x=0
   ·subst e;exact hk.1
   ·obtain⟨h1,h2,h3⟩:=cV x hx e;obtain⟨i,o,Px⟩:=ih (up x) h2 oM;exact hk.2 _ i o Px x h1
 obtain⟨i,o,mx⟩:=key _ x hx (kQ _);obtain⟨i',o',my⟩:=key _ y hy (kQ _);have fr:=Az.facts h.toTreeU hv;obtain⟨_,p1,p2,_⟩:=fr.1 x i o mx;obtain⟨_,p3,p4,_⟩:=fr.1 y i' o' my;rw[(nY x).2.1 i o mx,(nY y).2.1 i' o' my,(qn x).1 i o mx,(qn y).1 i' o' my,←Az.hold h h0 hv x i o y i' o' mx my];omega
end
end Go.Mor
namespace Go.Mor
open Go.RowKit
def eF(bs:List SB)(up:Int→Int)(k:Nat)(d:Int):af:=((aH bs).take k).filter (fun x=>up x==d)
def j6(bs:List SB)(up:Int→Int)(k:Nat):List af:=(List.range bs.length).map (fun d:Nat=>eF bs up k (d:Int))
def fa(bs:List SB)(up:Int→Int)(b:Int):af:=if 0≤b then(aH bs).filter (fun x=>up x==b)else[]
section
variable {bs : List SB} {up : Int → Int}
theorem MF(k:Nat)(d:Int):(eF bs up k d).length≤bs.length:=by
 have:=je bs;have h2:=QoI (fun x=>up x==d) ((aH bs).take k);have:((aH bs).take k).length≤(aH bs).length:=by simp;omega
 unfold eF;omega
theorem FZ:j6 bs up 0=List.replicate bs.length []:=by
 unfold j6 eF;apply QoL;intro t;by_cases h:t<bs.length
 ·simp[h]
 ·rw[List.getElem?_eq_none (by simpa using h),List.getElem?_eq_none (by simpa using h)]
theorem sK(k:Nat):(j6 bs up k).length=bs.length:=by simp[j6]
theorem lS{k d:Nat}(hd:d<bs.length):(j6 bs up k)[d]?=some (eF bs up k (d:Int)):=by simp[j6,hd]
theorem F0{k d:Nat}{b:Int}(hk:(aH bs)[k]?=some b)(hu:up b=(d:Int))(hd:d<bs.length):(j6 bs up k).set d (eF bs up k (d:Int)++[b])=j6 bs up (k+1):=by
 apply QoL;intro t;by_cases e:d=t
 ·subst e;rw[List.getElem?_set_self (by rw[sK];exact hd),lS hd];congr 1;unfold eF;rw[iE hk,QoW];simp[hu]
 ·rw[List.getElem?_set_ne e];by_cases h:t<bs.length
  ·rw[lS h,lS h];congr 1;unfold eF;rw[iE hk,QoW];have:¬up b=(t:Int):=by rw[hu];omega
   simp[this]
  ·rw[List.getElem?_eq_none (by rw[sK];omega),List.getElem?_eq_none (by rw[sK];omega)]
theorem F1{k:Nat}{b:Int}(hk:(aH bs)[k]?=some b)(hu:up b<0):j6 bs up k=j6 bs up (k+1):=by
 unfold j6;apply QoV;intro t _;unfold eF;rw[iE hk,QoW];have:¬up b=(t:Int):=oM;simp[this]
theorem MG{k b:Nat}(hk:(aH bs).length≤k)(hb:b<bs.length):(j6 bs up k)[b]?=some (fa bs up (b:Int)):=by
 rw[lS hb];unfold eF fa;rw[Qot hk,Kt oM]
theorem tQ{b c:Int}:c∈fa bs up b↔0≤b∧c∈aH bs∧up c=b:=by
 unfold fa;split
 ·rename_i h;simp[h]
 ·rename_i h;simp[h]
theorem MH(b:Int):(fa bs up b).length≤bs.length:=by
 unfold fa;have:=je bs;split
 ·have h2:=QoI (fun x=>up x==b) (aH bs);omega
 ·simp
theorem DP(h0:0<bs.length){c:Int}:c∈aH bs↔0≤iz bs c:=by
 rw[(iC h0).reach,(nv h0).mem]
theorem DB.tree(h0:0<bs.length)(hf:DB bs up):mE (fa bs up) (iz bs) up where
 Q8 b c hc:=by
  obtain⟨h1,h2,h3⟩:=tQ.1 hc;have hp:=(DP h0).1 h2;have dt:c≠0:=by rintro rfl;have:=hf.off 0 (.inr rfl);omega
  have:=(hf.ok.low c (hf.It c hp) dt).2;rw[h3]at this;exact⟨h3,dt,this⟩
 ME b:=by
  unfold fa;split
  ·exact(nv h0).nodup.sublist Qpm
  ·exact List.nodup_nil
 le x d h hx:=(oL.It hf.ok h (hf.It x hx)).2.1;pos b hb c hc:=(DP h0).1 (tQ.1 hc).2.1;neg x d hx hd h:=by
  induction h with
  |refl=>omega
  | @step x d dt h ih=>
   refine ih ?_ hd;rw[hf.off x (.inl hx)];rcases Int.lt_or_le (iz bs (-1)) 0 with h1|h1
   ·exact h1
   ·have:=qz h0 h1;omega
theorem DB.cV(h0:0<bs.length)(hf:DB bs up):∀x,0≤iz bs x→x≠0→x∈fa bs up (up x)∧0≤iz bs (up x)∧iz bs (up x)<iz bs x:=by
 intro x hx dt;obtain⟨h1,h2⟩:=hf.ok.low x (hf.It x hx) dt;have:=qz h0 h1.1;exact⟨tQ.2 ⟨this.1,(DP h0).2 hx,rfl⟩,h1.1,h2⟩
theorem Qb7(h0:0<bs.length)(hf:DB bs up){b:Int}(hb:0≤iz bs b)(hu:0≤up b):∃d:Nat,up b=(d:Int)∧d<bs.length:=by
 have dt:b≠0:=by rintro rfl;have:=hf.off 0 (.inr rfl);omega
 have h:=qz h0 (hf.cV h0 b hb dt).2.1;exact⟨(up b).toNat,(Qo7 h.1).symm,oM⟩
theorem W0(h0:0<bs.length){b:Int}{k:Nat}(hk:k<(fa bs up b).length):∃ci:Nat,(fa bs up b)[k]?=some (ci:Int)∧ci<bs.length:=by
 have hm:(fa bs up b)[k]∈fa bs up b:=QpC hk;have hp:=(DP h0).1 (tQ.1 hm).2.1;have:=qz h0 hp;exact⟨((fa bs up b)[k]).toNat,by rw[List.getElem?_eq_getElem hk,Qo7 this.1],oM⟩
end
theorem tR(ws:List (Int×Int))(b k:Int):ia ws++[vI b,vI k]=ia (ws++[(b,k)]):=by simp[ia]
theorem mF(ws:List (Int×Int))(b k:Int):(ia (ws++[(b,k)]))[ws.length*2]?=some (vI b)∧(ia (ws++[(b,k)]))[ws.length*2+1]?=some (vI k):=Qb (p:=(b,k)) sI
theorem W1(ws:List (Int×Int))(b k:Int):(ia (ws++[(b,k)])).take (ws.length*2)=ia ws:=by
 rw[←tR,List.take_left' (by rw[Dd])]
theorem W2(ws:List (Int×Int))(b k v:Int):(ia (ws++[(b,k)])).set (ws.length*2+1) (vI v)=ia (ws++[(b,v)]):=by
 rw[←tR,←tR,QpJ _ _ (by rw[Dd];omega),Dd,show ws.length*2+1-ws.length*2=1 by omega];rfl
theorem cy.upd{n:Nat}{l:af}{f:Int→Int}(h:cy n l f){b v:Int}(h0:0≤b)(h1:b<(n:Int)):cy n (l.set b.toNat v) (AA f b v):=by
 refine h.set oM (by simp[AA,Qo7 h0]) (fun j _ dt=> ?_);unfold AA;rw[Ds oM]
theorem Qan(n:Nat):cy n (List.replicate n 0) (fun _=>0):=⟨sI,fun i hi=>by simp[List.getD,hi]⟩
section
variable {K : Int → List Int} {ws : List (Int × Int)} {b : Int} {n k : Nat} {f g : Int → Int}
theorem gD.le{l:af}{n m:Nat}{r:mW}(h:gD K l n m r):n≤m:=by have:=gD.len h;omega
theorem Q9.MJ{op:List (Int×Nat)}{rs:mW}(h:Q9 K ws b n op rs):ws.length≤n:=by
 induction h with
 |nil=>simp
 |snoc _ hv _ ih=>have:=hv.le;simp only[QoG,QoE,Qo3];omega
theorem Ra.MJ(h:Ra K ws b n f g):ws.length≤n:=by
 obtain⟨op,rs,hl,_⟩:=h;exact hl.MJ
theorem KW.MJ(h:KW K ws b k n f g):ws.length+1≤n:=by
 obtain⟨op,rs,n0,r,hl,hv,_⟩:=h;have:=hl.MJ;have:=hv.le;omega
theorem DN.start:DN K [(0,0)] 0 (fun _=>0) (fun _=>0):= .inr ⟨[],0,0,sI,.inl ⟨rfl,[],[],.nil,fun x=>⟨sI,sI,fun _ _=>rfl⟩,fun x=>⟨sI,fun _=>rfl⟩⟩⟩
theorem DN.none(h:DN K [] n f g):Ly K n f g:=by
 rcases h with⟨_,h⟩|⟨ws,b,k,e,_⟩
 ·exact h
 ·simp at e
theorem DN.some{qU:List (Int×Int)}(h:DN K qU n f g)(hw:0<qU.length):∃(ws:List (Int×Int)) (b:Int) (k:Nat),qU=ws++[(b,(k:Int))]∧((k=0∧Ra K ws b n f g)∨(1≤k∧KW K ws b k n f g)):=by
 rcases h with⟨rfl,_⟩|h
 ·simp at hw
 ·exact h
def yS(qU:List (Int×Int)):Nat:=match qU.getLast? with
 |some (_,k)=>if k=0 then 0 else 1
 |none=>0
theorem Rb(qU:List (Int×Int)):yS qU≤1:=by
 unfold yS;split
 ·split<;>omega
 ·omega
theorem sL(ws:List (Int×Int))(b k:Int):yS (ws++[(b,k)])=if k=0 then 0 else 1:=by simp[yS]
end
end Go.Mor
namespace Go.Mor
open Go.RowKit
def eh(f g:Int→Int)(a b:Int):Prop:=0<f a∧0<f b∧f a≤f b∧g b≤g a
instance (f g : Int → Int) (a b : Int) : Decidable (eh f g a b) := by unfold eh; infer_instance
def cI(D:Int→Int→Prop)(pa va:Int)(ds:tz)(v b q:Int):Prop:=0≤v∧v<va∧(v<pa∨∃p,findD ds v=some p∧((p.1=b∧p.2<q)∨(p.1≠b∧D p.1 b)))
noncomputable instance (D : Int → Int → Prop) (pa va : Int) (ds : tz) (v b q : Int) : Decidable (cI D pa va ds v b q) := Classical.propDecidable _
section
variable {D : Int → Int → Prop} {pa va : Int} {n : Nat} {ds : tz} {l : List (Int × Int)} {v b q : Int} {pm : Int × Int}
theorem BZ(h:v<0∨va≤v):¬cI D pa va ds v b q:=fun⟨h1,h2,_⟩=>oM
theorem MK(h0:0≤v)(h1:v<va)(h2:v<pa):cI D pa va ds v b q:=⟨h0,h1,.inl h2⟩
theorem u4{base:Nat→Int×Int}{enc:Int×Int→Int×Int}(ht:Bn n base enc ds l)(jD:l[v.toNat]?=some pm)(h0:0≤v)(h1:v<(n:Int)):pm=(match findD ds v with|some p=>enc p|none=>base v.toNat):=by
 have:=ht.at_ v.toNat oM;rw[jD,Qo7 h0]at this;exact Option.some.inj this
theorem qo(hn:NonNeg ds){p:Int×Int}(h:findD ds v=some p):0≤p.1:=by
 by_cases hm:v∈ds.map (·.1)
 ·obtain⟨p',h1,h2⟩:=ig hm;rw[h]at h1;injection h1 with h1;subst h1;exact hn _ h2
 ·rw[gy hm]at h;cases h
abbrev IT(n:Nat)(ds:tz)(l:List (Int×Int)):Prop:=Bn n (fun _=>(-1,0)) (fun p=>(p.1,p.2+1)) ds l
theorem Rc(ht:IT n ds l)(hn:NonNeg ds)(jD:l[v.toNat]?=some pm)(h0:0≤v)(h1:v<(n:Int))(hv:¬v<pa)(h2:pm.1<0):¬cI D pa va ds v b q:=by
 rintro⟨_,_,h|⟨p,hp,_⟩⟩
 ·exact hv h
 ·have:=u4 ht jD h0 h1;rw[hp]at this;have h3:=qo hn hp;rw[this]at h2;simp only at h2;omega
theorem sN(ht:IT n ds l)(jD:l[v.toNat]?=some pm)(h0:0≤v)(h1:v<(n:Int))(h2:0≤pm.1):findD ds v=some (pm.1,pm.2-1):=by
 have:=u4 ht jD h0 h1;cases hf:findD ds v with
 |none=>
  rw[hf]at this;rw[this]at h2;simp only at h2;omega
 |some p=>
  rw[hf]at this;rw[this];simp only[Int.add_sub_cancel]
theorem IU(ht:IT n ds l)(jD:l[v.toNat]?=some pm)(h0:0≤v)(h1:v<(n:Int))(jR:va=(n:Int))(hv:¬v<pa)(h2:0≤pm.1)(h3:pm.1=b):pm.2≤q↔cI D pa va ds v b q:=by
 have hf:=sN ht jD h0 h1 h2;constructor
 ·intro h;exact⟨h0,oM,.inr ⟨_,hf,.inl ⟨h3,by show pm.2-1<q;omega⟩⟩⟩
 ·rintro⟨_,_,h|⟨p,hp,h⟩⟩
  ·exact absurd h hv
  ·rw[hf]at hp;injection hp with hp;subst hp;rcases h with⟨_,h⟩|⟨h,_⟩
   ·simp only at h;omega
   ·exact absurd h3 h
theorem Re(ht:IT n ds l)(jD:l[v.toNat]?=some pm)(h0:0≤v)(h1:v<(n:Int))(jR:va=(n:Int))(hv:¬v<pa)(h2:0≤pm.1)(h3:¬pm.1=b):D pm.1 b↔cI D pa va ds v b q:=by
 have hf:=sN ht jD h0 h1 h2;constructor
 ·intro h;exact⟨h0,oM,.inr ⟨_,hf,.inr ⟨h3,h⟩⟩⟩
 ·rintro⟨_,_,h|⟨p,hp,h⟩⟩
  ·exact absurd h hv
  ·rw[hf]at hp;injection hp with hp;subst hp;rcases h with⟨h,_⟩|⟨_,h⟩
   ·exact absurd h h3
   ·exact h
theorem ML{N:Nat}(ht:IT n ds l)(hd:∀d,d∈ds→0≤d.2.1∧d.2.1<(N:Int)∧-1≤d.2.2)(jD:l[v.toNat]?=some pm)(h0:0≤v)(h1:v<(n:Int))(h2:0≤pm.1):pm.1<(N:Int):=by
 have hf:=sN ht jD h0 h1 h2;by_cases hm:v∈ds.map (·.1)
 ·obtain⟨p,h3,h4⟩:=ig hm;rw[hf]at h3;injection h3 with h3;subst h3;exact(hd _ h4).2.1
 ·rw[gy hm]at hf;cases hf
theorem IV{N:Nat}(ht:Bn n (jK pa) (fun p=>p) ds l)(hd:∀d,d∈ds→0≤d.2.1∧d.2.1<(N:Int)∧-1≤d.2.2)(jD:l[v.toNat]?=some pm)(h0:0≤v)(h1:v<(n:Int))(hN:0<N):pm.1<(N:Int):=by
 have h4:=u4 ht jD h0 h1;by_cases hm:v∈ds.map (·.1)
 ·obtain⟨p,h5,h6⟩:=ig hm;rw[h5]at h4;rw[h4];exact(hd _ h6).2.1
 ·rw[gy hm]at h4;rw[h4];show(jK pa v.toNat).1<(N:Int);unfold jK;split<;>simp only<;>omega
abbrev F2(pa:Int)(n:Nat)(ds:tz)(l:List (Int×Int)):Prop:=Bn n (jK pa) (fun p=>p) ds l
theorem MM(ht:F2 pa n ds l)(hn:NonNeg ds)(jD:l[v.toNat]?=some pm)(h0:0≤v)(h1:v<(n:Int))(h2:pm.1<0):¬cI D pa va ds v b q:=by
 have h3:=u4 ht jD h0 h1;rintro⟨_,_,h|⟨p,hp,_⟩⟩
 ·cases hf:findD ds v with
  |none=>
   rw[hf]at h3;have:(v.toNat:Int)<pa:=oM;simp only[jK,this,Qpj]at h3;rw[h3]at h2;exact absurd h2 dQ
  |some p=>
   rw[hf]at h3;have:=qo hn hf;have e:pm=p:=h3;rw[e]at h2;omega
 ·rw[hp]at h3;have:=qo hn hp;have e:pm=p:=h3;rw[e]at h2;omega
theorem IW(ht:F2 pa n ds l)(hk:∀d,d∈ds→-1≤d.2.2)(jD:l[v.toNat]?=some pm)(h0:0≤v)(h1:v<(n:Int))(jR:va=(n:Int))(h2:0≤pm.1)(h3:pm.2= -2):cI D pa va ds v b q:=by
 have h4:=u4 ht jD h0 h1;cases hf:findD ds v with
 |none=>
  rw[hf]at h4;by_cases h:(v.toNat:Int)<pa
  ·exact⟨h0,oM,.inl oM⟩
  ·simp only[jK,h,Qo0]at h4;rw[h4]at h2;exact absurd h2 dQ
 |some p=>
  exfalso;rw[hf]at h4;by_cases hm:v∈ds.map (·.1)
  ·obtain⟨p',h5,h6⟩:=ig hm;rw[hf]at h5;injection h5 with h5;subst h5;have:=hk _ h6;simp only at this h4;rw[←h4]at this;omega
  ·rw[gy hm]at hf;cases hf
theorem vH(ht:F2 pa n ds l)(jD:l[v.toNat]?=some pm)(h0:0≤v)(h1:v<(n:Int))(h2:0≤pm.1)(h3:¬pm.2= -2):findD ds v=some pm:=by
 have h4:=u4 ht jD h0 h1;cases hf:findD ds v with
 |none=>
  rw[hf]at h4;by_cases h:(v.toNat:Int)<pa
  ·simp only[jK,h,Qpj]at h4;rw[h4]at h3;exact absurd rfl h3
  ·simp only[jK,h,Qo0]at h4;rw[h4]at h2;exact absurd h2 dQ
 |some p=>rw[hf]at h4;rw[h4]
theorem F3(ho:∀p,findD ds v=some p→¬v<pa)(ht:F2 pa n ds l)(jD:l[v.toNat]?=some pm)(h0:0≤v)(h1:v<(n:Int))(jR:va=(n:Int))(h2:0≤pm.1)(h3:¬pm.2= -2)(h4:pm.1=b):pm.2<q↔cI D pa va ds v b q:=by
 have hf:=vH ht jD h0 h1 h2 h3;have hv:=ho _ hf;constructor
 ·intro h;exact⟨h0,oM,.inr ⟨_,hf,.inl ⟨h4,h⟩⟩⟩
 ·rintro⟨_,_,h|⟨p,hp,h⟩⟩
  ·exact absurd h hv
  ·rw[hf]at hp;injection hp with hp;subst hp;rcases h with⟨_,h⟩|⟨h,_⟩
   ·exact h
   ·exact absurd h4 h
theorem MN(ho:∀p,findD ds v=some p→¬v<pa)(ht:F2 pa n ds l)(jD:l[v.toNat]?=some pm)(h0:0≤v)(h1:v<(n:Int))(jR:va=(n:Int))(h2:0≤pm.1)(h3:¬pm.2= -2)(h4:¬pm.1=b):D pm.1 b↔cI D pa va ds v b q:=by
 have hf:=vH ht jD h0 h1 h2 h3;have hv:=ho _ hf;constructor
 ·intro h;exact⟨h0,oM,.inr ⟨_,hf,.inr ⟨h4,h⟩⟩⟩
 ·rintro⟨_,_,h|⟨p,hp,h⟩⟩
  ·exact absurd h hv
  ·rw[hf]at hp;injection hp with hp;subst hp;rcases h with⟨h,_⟩|⟨_,h⟩
   ·exact absurd h h4
   ·exact h
theorem IX(ht:F2 pa n ds l)(hn:NonNeg ds)(jR:va=(n:Int))(h:¬(0≤v∧v<(n:Int)∧0≤(l.getD v.toNat (0,0)).1)):¬cI D pa va ds v b q:=by
 by_cases hv:0≤v∧v<(n:Int)
 ·have hl:=ht.len;exact MM ht hn (p8 (0,0) oM) hv.1 hv.2 oM
 ·exact BZ oM
theorem F4(ho:∀d,d∈ds→pa≤d.1):∀p,findD ds v=some p→¬v<pa:=by
 intro p hp;by_cases hm:v∈ds.map (·.1)
 ·obtain⟨d,hd,rfl⟩:=Qhz.1 hm;have:=ho d hd;omega
 ·rw[gy hm]at hp;cases hp
def gH(bs:List SB)(a b:Int):Prop:=HE (gu bs) a.toNat b.toNat=true
end
structure yT(D:Int→Int→Prop)(E:Int→Int)(R:aE→Prop)(pa va:Int)(fs:List aE)(k:Nat)(x:aE):Prop where
 au:∀(j:Nat) (p:bZ),x.au[j]?=some p→p.args.length=(bG (aq fs) (k:Int)).length∧
  ∀(i:Nat) (a s:Int),p.args[i]?=some a→(bG (aq fs) (k:Int))[i]?=some s→cI D pa va (bO fs) a s (E s)
 insts:∀(j:Nat) (p:bl),x.insts[j]?=some p→∀(i:Nat) (a:Int),p.args[i]?=some a→cI D pa va (bO fs) a (k:Int) (j:Int)
 fin:R x→cI D pa va (bO fs) x.v (k:Int) (E (k:Int))
def ft(D:Int→Int→Prop)(E:Int→Int)(R:aE→Prop)(pa va:Int)(fs:List aE)(k:Nat):Prop:=∃x,fs[k]?=some x∧yT D E R pa va fs k x
noncomputable instance (D : Int → Int → Prop) (E : Int → Int) (R : aE → Prop) (pa va : Int) (fs : List aE) (k : Nat) : Decidable (ft D E R pa va fs k) := Classical.propDecidable _
def wH(fs:List aE)(b:Int):Int:=match fs[b.toNat]? with
 |some x=>(x.insts.length:Int)
 |none=>0
theorem xy{fs:List aE}{k:Nat}{x:aE}(h:fs[k]?=some x):wH fs (k:Int)=(x.insts.length:Int):=by simp[wH,h]
def AB(x:aE):Prop:=x.e=1∨(x.e=2∧0≤x.v)
def qp(x:aE):Prop:=x.e=1∨(x.e=2∧x.v≠-1)
section
variable {D : Int → Int → Prop} {E : Int → Int} {R : aE → Prop} {pa va : Int} {fs : List aE} {k : Nat} {x : aE}
def vJ(D:Int→Int→Prop)(E:Int→Int)(pa va:Int)(fs:List aE)(k:Nat)(x:aE)(j:Nat):Prop:=∀(j':Nat) (p:bZ),j'<j→x.au[j']?=some p→p.args.length=(bG (aq fs) (k:Int)).length∧∀(i:Nat) (a s:Int),p.args[i]?=some a→(bG (aq fs) (k:Int))[i]?=some s→cI D pa va (bO fs) a s (E s)
def B0(D:Int→Int→Prop)(E:Int→Int)(pa va:Int)(fs:List aE)(k:Nat)(p:bZ)(i:Nat):Prop:=∀(i':Nat) (a s:Int),i'<i→p.args[i']?=some a→(bG (aq fs) (k:Int))[i']?=some s→cI D pa va (bO fs) a s (E s)
def vL(D:Int→Int→Prop)(pa va:Int)(fs:List aE)(k:Nat)(x:aE)(j:Nat):Prop:=∀(j':Nat) (p:bl),j'<j→x.insts[j']?=some p→∀(i:Nat) (a:Int),p.args[i]?=some a→cI D pa va (bO fs) a (k:Int) (j':Int)
def MO(D:Int→Int→Prop)(pa va:Int)(fs:List aE)(k j:Nat)(p:bl)(i:Nat):Prop:=∀(i':Nat) (a:Int),i'<i→p.args[i']?=some a→cI D pa va (bO fs) a (k:Int) (j:Int)
theorem mX{P:Nat→Prop}{n:Nat}(h:∀i,i<n→P i)(hn:P n):∀i,i<n+1→P i:=fun i hi=>by
 by_cases e:i=n
 ·subst e;exact hn
 ·exact h i oM
theorem vJ.next{j:Nat}{p:bZ}(h:vJ D E pa va fs k x j)(hp:x.au[j]?=some p)(hl:p.args.length=(bG (aq fs) (k:Int)).length)(ha:B0 D E pa va fs k p p.args.length):vJ D E pa va fs k x (j+1):=by
 intro j' p' hj EC;by_cases e:j'=j
 ·subst e;rw[hp]at EC;injection EC with EC;subst EC;exact⟨hl,fun i a s hi=>ha i a s (List.getElem?_eq_some_iff.1 hi).1 hi⟩
 ·exact h j' p' oM EC
theorem B0.next{i:Nat}{p:bZ}{a s:Int}(h:B0 D E pa va fs k p i)(hi:p.args[i]?=some a)(hs:(bG (aq fs) (k:Int))[i]?=some s)(ht:cI D pa va (bO fs) a s (E s)):B0 D E pa va fs k p (i+1):=by
 intro i' a' s' eV h1 h2;by_cases e:i'=i
 ·subst e;rw[hi]at h1;rw[hs]at h2;injection h1 with h1;injection h2 with h2;subst h1;subst h2;exact ht
 ·exact h i' a' s' oM h1 h2
theorem vL.next{j:Nat}{p:bl}(h:vL D pa va fs k x j)(hp:x.insts[j]?=some p)(ha:MO D pa va fs k j p p.args.length):vL D pa va fs k x (j+1):=by
 intro j' p' hj EC;by_cases e:j'=j
 ·subst e;rw[hp]at EC;injection EC with EC;subst EC;exact fun i a hi=>ha i a (List.getElem?_eq_some_iff.1 hi).1 hi
 ·exact h j' p' oM EC
theorem MO.next{j i:Nat}{p:bl}{a:Int}(h:MO D pa va fs k j p i)(hi:p.args[i]?=some a)(ht:cI D pa va (bO fs) a (k:Int) (j:Int)):MO D pa va fs k j p (i+1):=by
 intro i' a' eV h1;by_cases e:i'=i
 ·subst e;rw[hi]at h1;injection h1 with h1;subst h1;exact ht
 ·exact h i' a' oM h1
theorem Cf(hx:fs[k]?=some x)(h1:vJ D E pa va fs k x x.au.length)(h2:vL D pa va fs k x x.insts.length)(h3:R x→cI D pa va (bO fs) x.v (k:Int) (E (k:Int))):ft D E R pa va fs k:=⟨x,hx,fun j p hp=>h1 j p (List.getElem?_eq_some_iff.1 hp).1 hp,fun j p hp=>h2 j p (List.getElem?_eq_some_iff.1 hp).1 hp,h3⟩
theorem nC(hx:fs[k]?=some x)(h:ft D E R pa va fs k):yT D E R pa va fs k x:=by
 obtain⟨y,hy,h⟩:=h;rw[hx]at hy;injection hy with hy;subst hy;exact h
theorem Ca(hx:fs[k]?=some x){j:Nat}{p:bZ}(hp:x.au[j]?=some p)(hl:¬p.args.length=(bG (aq fs) (k:Int)).length):¬ft D E R pa va fs k:=fun h=>hl ((nC hx h).au j p hp).1
theorem Cb(hx:fs[k]?=some x){j i:Nat}{p:bZ}{a s:Int}(hp:x.au[j]?=some p)(hi:p.args[i]?=some a)(hs:(bG (aq fs) (k:Int))[i]?=some s)(ht:¬cI D pa va (bO fs) a s (E s)):¬ft D E R pa va fs k:=fun h=>ht (((nC hx h).au j p hp).2 i a s hi hs)
theorem F5(hx:fs[k]?=some x){j i:Nat}{p:bl}{a:Int}(hp:x.insts[j]?=some p)(hi:p.args[i]?=some a)(ht:¬cI D pa va (bO fs) a (k:Int) (j:Int)):¬ft D E R pa va fs k:=fun h=>ht ((nC hx h).insts j p hp i a hi)
end
end Go.Mor
namespace Go.Mor
open Go.RowKit
structure iY(nm:aV)(pa va:Int)(fs:List aE):Prop where
 name:bB nm
 par:0≤pa∧pa≤16∧pa≤va
 pos:0<fs.length
 au:∀x,fs[0]?=some x→x.au.length=0
 src:(bG (aq fs) 0).length=0
 all:(aH (aq fs)).length=fs.length
 ends:∀x,x∈fs→fU (fs.length:Int) x
 bC:VQ pa va fs
 reads:∀k,k<fs.length→ft (Dm (tg (aq fs))) (fun _=>20000) qp pa va fs k
noncomputable instance (nm : ByteArray) (pa va : Int) (fs : List aE) : Decidable (iY nm pa va fs) := Classical.propDecidable _
noncomputable def cC(nm:aV)(pa va:Int)(fs:List aE):Int:=if(dw fs:Int)>20000∨va>20000 then 12 else if iY nm pa va fs then 0 else 4
section
variable {nm : ByteArray} {pa va : Int} {fs : List aE}
theorem F6(h:(dw fs:Int)>20000∨va>20000):(12:Int)=cC nm pa va fs:=by rw[cC,Kt h]
theorem fC(h:¬((dw fs:Int)>20000∨va>20000))(hg:¬iY nm pa va fs):(4:Int)=cC nm pa va fs:=by rw[cC,Ds h,Ds hg]
theorem DQ(h:¬((dw fs:Int)>20000∨va>20000))(hg:iY nm pa va fs):(0:Int)=cC nm pa va fs:=by rw[cC,Ds h,Kt hg]
end
section
variable {bs : List SB}
theorem nD:(aH bs).length=bs.length↔∀i:Nat,i<bs.length→fJ bs (-1) (i:Int)=true:=by
 rw[←WZ];unfold Qb5;have h:=List.length_filter_eq_length_iff (p:=fun i:Nat=>fJ bs (-1) (i:Int)) (l:=List.range bs.length);rw[QpK]at h;rw[h];simp only[QoA]
theorem u5(hl:(aH bs).length=bs.length){b:Int}(h0:0≤b)(h1:b<(bs.length:Int)):0≤iz bs b:=by
 have hp:0<bs.length:=oM;have:=nD.1 hl b.toNat oM;rw[Qo7 h0]at this;exact((iC hp).reach _).2 (j5.1 this)
theorem Rf{up:Int→Int}{n:Nat}{f g:Int→Int}(h0:0<bs.length)(hl:(aH bs).length=bs.length)(hf:DB bs up)(hn:Ly (fa bs up) n f g){a b:Int}(ha:0≤a∧a<(bs.length:Int))(hb:0≤b∧b<(bs.length:Int)):eh f g a b↔Dm (tg bs) a b:=by
 have pa:=u5 hl ha.1 ha.2;have pb:=u5 hl hb.1 hb.2;have Lz:0≤iz bs 0:=by rw[(iC h0).zero];omega
 rw[eh,Ly.Qb6 (hf.tree h0) Lz (hf.cV h0) hn pa pb];exact⟨hf.dm b a,hf.ok.Iu (hf.It b pb)⟩
theorem W3(h0:0<bs.length)(hl:(aH bs).length=bs.length){a b:Int}(ha:0≤a∧a<(bs.length:Int))(hb:0≤b∧b<(bs.length:Int)):gH bs a b↔Dm (tg bs) a b:=by
 have pb:=((iC h0).reach _).1 (u5 hl hb.1 hb.2);unfold gH;rw[tK oM oM,Qo7 ha.1,Qo7 hb.1];exact⟨fun h=>h.2,fun h=>⟨pb,h⟩⟩
end
theorem IY{fs:List aE}{d:Int×Int×Int}(h:d∈bO fs):∃x,fs[d.2.1.toNat]?=some x∧d.2.2<(x.insts.length:Int):=by
 unfold bO dz at h;rw[Qo8]at h;obtain⟨x,hx,hd⟩:=h;rw[QoF]at hx;have hx1:fs[x.2]?=some x.1:=Qpo.1 hx;unfold eZ at hd;rcases Qn2.1 hd with hd|hd
 ·unfold cW at hd;obtain⟨p,_,rfl⟩:=Qhz.1 hd;refine⟨x.1,by simpa using hx1,?_⟩;show(-1:Int)<_;omega
 ·unfold dv at hd;obtain⟨p,hp,rfl⟩:=Qhz.1 hd;have Lx:x.1.insts[p.2]?=some p.1:=Qpo.1 (Qov.1 hp).1;have:=(List.getElem?_eq_some_iff.1 Lx).1;refine⟨x.1,by simpa using hx1,?_⟩;show(p.2:Int)<_;omega
theorem F7{fs:List aE}{k:Nat}{x:aE}(h:fs[k]?=some x):x.insts.length≤dw fs:=by
 have hk:=(List.getElem?_eq_some_iff.1 h).1;have key:∀n,k<n→n≤fs.length→x.insts.length≤jd fs n:=by
  intro n;induction n with
  |zero=>intro h1;omega
  |succ n ih=>
   intro h1 h2;obtain⟨y,hy⟩:=aM (l:=fs) (i:=n) oM;rw[ky hy];by_cases e:k=n
   ·subst e;rw[h]at hy;injection hy with hy;subst hy;omega
   ·have:=ih oM oM;omega
 have:=key fs.length hk (kQ _);unfold dw;omega
section
variable {D D' : Int → Int → Prop} {E E' : Int → Int} {R R' : aE → Prop} {pa va : Int} {fs : List aE}
structure qq(D D':Int→Int→Prop)(E E':Int→Int)(fs:List aE):Prop where
 QD:∀a b:Int,0≤a∧a<(fs.length:Int)→0≤b∧b<(fs.length:Int)→(D a b↔D' a b)
 fin:∀d,d∈bO fs→(d.2.2<E d.2.1↔d.2.2<E' d.2.1)
theorem qq.symm(h:qq D D' E E' fs):qq D' D E' E fs:=⟨fun a b ha hb=>(h.QD a b ha hb).symm,fun d hd=>(h.fin d hd).symm⟩
theorem qq.there(h:qq D D' E E' fs){v b q q':Int}(hb:0≤b∧b<(fs.length:Int))(hq:(q=E b∧q'=E' b)∨q=q')(ht:cI D pa va (bO fs) v b q):cI D' pa va (bO fs) v b q':=by
 obtain⟨h1,h2,h3|⟨p,hp,h3⟩⟩:=ht
 ·exact⟨h1,h2,.inl h3⟩
 ·refine⟨h1,h2,.inr ⟨p,hp,?_⟩⟩;have hm:(v,p)∈bO fs:=by
   by_cases hm:v∈(bO fs).map (·.1)
   ·obtain⟨p',h4,h5⟩:=ig hm;rw[hp]at h4;injection h4 with h4;subst h4;exact h5
   ·rw[gy hm]at hp;cases hp
  have hr:=tA hm;rcases h3 with⟨h3,h4⟩|⟨h3,h4⟩
  ·refine .inl ⟨h3,?_⟩;rcases hq with⟨rfl,rfl⟩|rfl
   ·have:=h.fin _ hm;simp only[h3]at this;exact this.1 h4
   ·exact h4
  ·exact .inr ⟨h3,(h.QD _ _ ⟨hr.1,hr.2.1⟩ hb).1 h4⟩
theorem qq.reads(h:qq D D' E E' fs){k:Nat}{x:aE}(hk:k<fs.length)(hR:R' x→R x)(hr:yT D E R pa va fs k x):yT D' E' R' pa va fs k x where
 au j p hp:=by obtain⟨h1,h2⟩:=hr.au j p hp;refine⟨h1,fun i a s ha hs=>h.there ?_ (.inl ⟨rfl,rfl⟩) (h2 i a s ha hs)⟩;have hi:=(List.getElem?_eq_some_iff.1 hs).1;obtain⟨si,h3,h4⟩:=xt hi;rw[hs]at h3;injection h3 with h3;subst h3;rw[bK]at h4;omega
 insts j p hp i a ha:=h.there oM (.inr rfl) (hr.insts j p hp i a ha);fin hx:=h.there oM (.inl ⟨rfl,rfl⟩) (hr.fin (hR hx))
theorem qq.ft(h:qq D D' E E' fs){k:Nat}(hR:∀x,fs[k]?=some x→R' x→R x)(hr:ft D E R pa va fs k):ft D' E' R' pa va fs k:=by
 obtain⟨x,hx,hr⟩:=hr;exact⟨x,hx,h.reads (List.getElem?_eq_some_iff.1 hx).1 (hR x hx) hr⟩
end
section
variable {pa va : Int} {fs : List aE}
theorem MP{up:Int→Int}{n:Nat}{f g:Int→Int}(h0:0<fs.length)(hl:(aH (aq fs)).length=fs.length)(hf:DB (aq fs) up)(hn:Ly (fa (aq fs) up) n f g)(hs:(dw fs:Int)≤20000):qq (eh f g) (Dm (tg (aq fs))) (wH fs) (fun _=>20000) fs where
 QD a b ha hb:=Rf (by rw[bK];exact h0) (by rw[bK];exact hl) hf hn (by rw[bK];exact ha) (by rw[bK];exact hb);fin d hd:=by
  obtain⟨x,hx,h1⟩:=IY hd;have:=F7 hx;have h2:wH fs d.2.1=(x.insts.length:Int):=by simp[wH,hx]
  rw[h2];constructor<;>intro<;>omega
theorem Cc(h0:0<fs.length)(hl:(aH (aq fs)).length=fs.length):qq (gH (aq fs)) (Dm (tg (aq fs))) (fun _=>20000) (fun _=>20000) fs where
 QD a b ha hb:=W3 (by rw[bK];exact h0) (by rw[bK];exact hl) (by rw[bK];exact ha) (by rw[bK];exact hb);fin d hd:=QoN
theorem Rg{N:Int}{x:aE}(h:nr N x):qp x↔AB x:=by
 unfold qp AB;have:=h.2;omega
theorem KX{nm:aV}(h:iY nm pa va fs):∀x,x∈fs→nr (fs.length:Int) x:=by
 intro x hx;refine⟨h.ends x hx,fun he=> ?_⟩;obtain⟨k,hk⟩:=Qmp.1 hx;obtain⟨y,hy,hr⟩:=h.reads k (List.getElem?_eq_some_iff.1 hk).1;rw[hk]at hy;injection hy with hy;subst hy;by_cases hv:x.v= -1
 ·omega
 ·have:=(hr.fin (.inr ⟨he,hv⟩)).1;omega
end
end Go.Mor
namespace Go.Mor
theorem Cd{fs:List aE}{Q:aE→Prop}{m:Nat}{x:aE}(h:∀(i:Nat) (x:aE),i<m→fs[i]?=some x→Q x)(hx:fs[m]?=some x)(hq:Q x):∀(i:Nat) (x:aE),i<m+1→fs[i]?=some x→Q x:=by
 intro i y hi hy;by_cases e:i=m
 ·subst e;rw[hx]at hy;injection hy with hy;exact hy▸hq
 ·exact h i y oM hy
end Go.Mor
namespace Go.Mor
theorem MQ{Bk Bv B:Bool}{Wk:Nat→Bool}{k:Nat}(h:Bk=true↔Bv=true∧∀i:Nat,i<k→Wk i=true)(hB:B=true↔Bk=true):(B&&Wk k)=true↔Bv=true∧∀i:Nat,i<k+1→Wk i=true:=by
 rw[QlP,hB,h];constructor
 ·rintro⟨⟨h1,h2⟩,h3⟩;exact⟨h1,mX h2 h3⟩
 ·rintro⟨h1,h2⟩;exact⟨⟨h1,fun i hi=>h2 i oM⟩,h2 k oM⟩
end Go.Mor
namespace Go.Mor
open Go.RowKit
def bZ.e0(p:bZ):bZ:=⟨p.dst,none,0,p.args⟩
def bl.e0(p:bl):bl:=⟨p.op,p.dst,p.n,p.name,none,0,p.args⟩
def aE.e0(x:aE):aE:=⟨none,0,x.au.map bZ.e0,none,0,x.insts.map bl.e0,x.e,x.v,x.a,x.b⟩
def eH(fs gs:List aE):Prop:=fs.map aE.e0=gs.map aE.e0
def o5(x:aE):Int×Int×Int:=(x.e,x.a,x.b)
theorem mH{fs gs:List aE}(h:fs.map o5=gs.map o5):tg (aq fs)=tg (aq gs):=by
 have hl:fs.length=gs.length:=by simpa using Qlh List.length h
 funext b;unfold tg;split
 ·have hk:((aq fs)[b.toNat]?).map (fun x:SB=>(x.e,x.a,x.b))=((aq gs)[b.toNat]?).map (fun x:SB=>(x.e,x.a,x.b)):=by have h1:=Qlh (fun l:List (Int×Int×Int)=>l[b.toNat]?) h;simp only[List.getElem?_map]at h1;unfold aq;simp only[List.getElem?_map,Option.map_map];exact h1
  revert hk;cases h1:(aq fs)[b.toNat]?<;>cases h2:(aq gs)[b.toNat]?<;>simp;rename_i x y;intro e1 e2 e3;unfold Ag;rw[e1,e2,e3,bK,bK,hl]
 ·rfl
theorem j7{fs gs:List aE}(h:fs.map o5=gs.map o5):bG (aq fs)=bG (aq gs):=by
 have hl:fs.length=gs.length:=by simpa using Qlh List.length h
 funext b;unfold bG ef;rw[mH h,bK,bK,hl]
theorem yU{fs gs:List aE}(h:fs.map o5=gs.map o5):(aH (aq fs)).length=fs.length↔(aH (aq gs)).length=gs.length:=by
 have hl:fs.length=gs.length:=by simpa using Qlh List.length h
 have h1:=nD (bs:=aq fs);have h2:=nD (bs:=aq gs);rw[bK]at h1 h2;rw[h1,h2,hl];unfold fJ;rw[mH h,bK,bK,hl]
theorem DR{fs gs:List aE}(h:eH fs gs):fs.map o5=gs.map o5:=by
 have:o5=o5∘aE.e0:=rfl;rw[this,←QlQ,←QlQ,h]
theorem qu{fs gs:List aE}(h:eH fs gs){k:Nat}{x:aE}(hx:fs[k]?=some x):∃y,gs[k]?=some y∧x.e0=y.e0:=by
 have h1:=Qlh (fun l:List aE=>l[k]?) h;simp only[List.getElem?_map,hx,Fc]at h1;cases hy:gs[k]? with
 |none=>rw[hy]at h1;simp at h1
 |some y=>rw[hy]at h1;simp at h1;exact⟨y,rfl,h1⟩
theorem eH.symm{fs gs:List aE}(h:eH fs gs):eH gs fs:=Eq.symm h
theorem eH.len{fs gs:List aE}(h:eH fs gs):fs.length=gs.length:=by simpa using Qlh List.length h
section
variable {x y : aE}
theorem Rh(h:x.e0=y.e0):x.e=y.e:=show x.e0.e=y.e0.e by rw[h]
theorem MR(h:x.e0=y.e0):x.v=y.v:=show x.e0.v=y.e0.v by rw[h]
theorem Qb8(h:x.e0=y.e0):x.a=y.a:=show x.e0.a=y.e0.a by rw[h]
theorem Qb9(h:x.e0=y.e0):x.b=y.b:=show x.e0.b=y.e0.b by rw[h]
theorem tS(h:x.e0=y.e0):x.au.map bZ.e0=y.au.map bZ.e0:=show x.e0.au=y.e0.au by rw[h]
theorem tT(h:x.e0=y.e0):x.insts.map bl.e0=y.insts.map bl.e0:=show x.e0.insts=y.e0.insts by rw[h]
theorem IZ(h:x.e0=y.e0){j:Nat}{p:bZ}(hp:x.au[j]?=some p):∃q,y.au[j]?=some q∧p.dst=q.dst∧p.args=q.args:=by
 have h1:=Qlh (fun l:List bZ=>l[j]?) (tS h);simp only[List.getElem?_map,hp,Fc]at h1;cases hy:y.au[j]? with
 |none=>rw[hy]at h1;simp at h1
 |some q=>rw[hy]at h1;simp[bZ.e0]at h1;exact⟨q,rfl,h1⟩
theorem tU(h:x.e0=y.e0){j:Nat}{p:bl}(hp:x.insts[j]?=some p):∃q,y.insts[j]?=some q∧p.op=q.op∧p.dst=q.dst∧p.n=q.n∧p.name=q.name∧p.args=q.args:=by
 have h1:=Qlh (fun l:List bl=>l[j]?) (tT h);simp only[List.getElem?_map,hp,Fc]at h1;cases hy:y.insts[j]? with
 |none=>rw[hy]at h1;simp at h1
 |some q=>rw[hy]at h1;simp[bl.e0]at h1;exact⟨q,rfl,h1⟩
theorem I0(b:Int)(x:aE):eZ b x.e0=eZ b x:=by
 unfold eZ cW dv;simp[aE.e0,bZ.e0,bl.e0,List.zipIdx_map,Qpy,Function.comp_def];rfl
theorem F8(fs:List aE):bO (fs.map aE.e0)=bO fs:=by
 unfold bO dz;rw[QlO,Qot sI,Qot sI];simp[List.zipIdx_map,QpY,I0]
end
theorem MS{p q:bl}(h1:p.op=q.op)(h2:p.dst=q.dst)(h3:p.n=q.n)(h4:p.name=q.name)(h5:p.args.length=q.args.length)(h:bQ p):bQ q:=by
 unfold bQ at h⊢;rw[←h1,←h2,←h3,←h4,←h5];exact h
theorem tV(fs:List aE):dw (fs.map aE.e0)=dw fs:=by
 unfold dw jd;rw[QlO,Qot sI,Qot sI];simp[aE.e0,Function.comp_def]
theorem sO{nm:aV}{pa va:Int}{fs gs:List aE}(h:eH fs gs)(hg:iY nm pa va fs):iY nm pa va gs:=by
 have he:=DR h;have hd:bO fs=bO gs:=by rw[←F8 fs,←F8 gs,h]
 have hl:=h.len;refine⟨hg.name,hg.par,by have:=hg.pos;omega,fun x hx=> ?_,?_,(yU he).1 hg.all,fun x hx=> ?_,⟨fun x hx p hp=> ?_,hd▸hg.bC.2⟩,fun k hk=> ?_⟩
 ·obtain⟨y,hy,e⟩:=qu h.symm hx;have h1:=Qlh List.length (tS e);simp at h1;rw[h1];exact hg.au y hy
 ·rw[←j7 he];exact hg.src
 ·obtain⟨k,hk⟩:=Qmp.1 hx;obtain⟨y,hy,e⟩:=qu h.symm hk;have h1:=hg.ends y (D7 hy);unfold fU at h1⊢;have e1:x.e=y.e:=Rh e;have e2:x.v=y.v:=MR e;have e3:x.a=y.a:=Qb8 e;have e4:x.b=y.b:=Qb9 e;rw[e1,e2,e3,e4,←hl];exact h1
 ·obtain⟨k,hk⟩:=Qmp.1 hx;obtain⟨y,hy,e⟩:=qu h.symm hk;obtain⟨j,hj⟩:=Qmp.1 hp;obtain⟨q,hq,e1,e2,e3,e4,e5⟩:=tU e hj;exact MS e1.symm e2.symm e3.symm e4.symm (by rw[e5]) (hg.bC.1 y (D7 hy) q (D7 hq))
 ·obtain⟨x,hx,hr⟩:=hg.reads k oM;obtain⟨y,hy,e⟩:=qu h hx;have ee:x.e=y.e:=Rh e;have ev:x.v=y.v:=MR e;refine⟨y,hy,⟨fun j p hp=> ?_,fun j p hp i a ha=> ?_,fun hR=> ?_⟩⟩
  ·obtain⟨q,hq,e1,e2⟩:=IZ e.symm hp;have:=hr.au j q hq;rw[←j7 he,←mH he,←hd,e2];exact this
  ·obtain⟨q,hq,e1,e2,e3,e4,e5⟩:=tU e.symm hp;rw[e5]at ha;have:=hr.insts j q hq i a ha;rw[←mH he,←hd];exact this
  ·rw[←mH he,←hd,←ev];refine hr.fin ?_;unfold qp at hR⊢;rw[ee,ev];exact hR
theorem vM{nm:aV}{pa va:Int}{fs gs:List aE}(h:eH fs gs):cC nm pa va fs=cC nm pa va gs:=by
 unfold cC;have hs:dw fs=dw gs:=by rw[←tV fs,←tV gs,h]
 rw[hs];have:iY nm pa va fs↔iY nm pa va gs:=⟨sO h,sO h.symm⟩;simp only[this]
end Go.Mor
namespace Go.Mor
open Go.RowKit
theorem mem_zipIdx{α:Type}{l:List α}{x:α}{i:Nat}:(x,i)∈l.zipIdx↔l[i]?=some x:=by
 rw[Qpo]
def o6(x:aE):af:=x.au.map (fun p=>p.dst)++(x.insts.filter (fun i=>decide (aK i.op))).map (fun i=>i.dst)
theorem F9(b:Int)(x:aE):(eZ b x).map (·.1)=o6 x:=by
 unfold eZ cW dv o6;have h:∀(l:List bl) (n:Nat),((l.zipIdx n).filter (fun x=>decide (aK x.1.op))).map (fun x=>x.1.dst)=(l.filter (fun i=>decide (aK i.op))).map (fun i=>i.dst):=by
  intro l;induction l with
  |nil=>intro n;rfl
  |cons a l ih=>
   intro n;rw[List.zipIdx_cons,Qpv,Qpv];by_cases hm:aK a.op<;>simp[hm,ih (n+1)]
 have:=h x.insts 0;simp only[Qou,QlQ];congr 1
theorem q6(fs:List aE):(bO fs).map (·.1)=fs.flatMap o6:=by
 unfold bO dz;rw[Qot (kQ _),List.map_flatMap];have h:∀(l:List aE) (n:Nat),(l.zipIdx n).flatMap (fun x=>(eZ (x.2:Int) x.1).map (·.1))=l.flatMap o6:=by
  intro l;induction l with
  |nil=>intro n;rfl
  |cons a l ih=>intro n;rw[List.zipIdx_cons,Qpg,Qpg,ih (n+1),F9]
 exact h fs 0
theorem q7{fs:List aE}{v b q:Int}:(v,b,q)∈bO fs↔∃(k:Nat) (x:aE),fs[k]?=some x∧b=(k:Int)∧((q= -1∧∃p,p∈x.au∧p.dst=v)∨∃(j:Nat) (i:bl),x.insts[j]?=some i∧aK i.op∧i.dst=v∧q=(j:Int)):=by
 unfold bO dz;rw[Qot (kQ _),Qo8];constructor
 ·rintro⟨⟨x,k⟩,hx,hd⟩;have uI:=mem_zipIdx.1 hx;refine⟨k,x,uI,?_⟩;unfold eZ cW dv at hd;rcases Qn2.1 hd with hd|hd
  ·obtain⟨p,hp,he⟩:=Qhz.1 hd;simp at he;exact⟨he.2.1.symm,.inl ⟨he.2.2.symm,p,hp,he.1⟩⟩
  ·obtain⟨⟨i,j⟩,hp,he⟩:=Qhz.1 hd;obtain⟨h1,h2⟩:=Qov.1 hp;simp at he h2;exact⟨he.2.1.symm,.inr ⟨j,i,mem_zipIdx.1 h1,h2,he.1,he.2.2.symm⟩⟩
 ·rintro⟨k,x,hx,rfl,h⟩;refine⟨(x,k),mem_zipIdx.2 hx,?_⟩;unfold eZ cW dv;rcases h with⟨rfl,p,hp,rfl⟩|⟨j,i,hi,hm,rfl,rfl⟩
  ·exact Qox _ (Qhz.2 ⟨p,hp,rfl⟩)
  ·exact Qo5 _ (Qhz.2 ⟨(i,j),Qov.2 ⟨mem_zipIdx.2 hi,by simp[hm]⟩,rfl⟩)
theorem Ce{ds:tz}(hn:(ds.map (·.1)).Nodup){v:Int}{p:Int×Int}:findD ds v=some p↔(v,p)∈ds:=by
 constructor
 ·intro h;by_cases hm:v∈ds.map (·.1)
  ·obtain⟨q,h1,h2⟩:=ig hm;rw[h1]at h;injection h with h;subst h;exact h2
  ·rw[gy hm]at h;cases h
 ·intro h;obtain⟨q,h1,h2⟩:=ig (Qhz.2 ⟨(v,p),h,rfl⟩);have:q=p:=by
   have hp:=QpX.1 hn;rcases Classical.em (((v,q):Int×Int×Int)=(v,p))with e|e
   ·injection e
   ·exfalso;obtain⟨i,hi⟩:=Qmp.1 h;obtain⟨j,hj⟩:=Qmp.1 h2;exact lv (R:=fun a b:Int×Int×Int=>a.1≠b.1) (fun _ _ h e=>h e.symm) hp hi hj (fun e2=>e (by subst e2;rw[hi]at hj;injection hj with hj;exact hj.symm)) rfl
  rw[h1,this]
theorem yV{D:Int→Int→Prop}{pa va:Int}{ds:tz}(hn:(ds.map (·.1)).Nodup){v b q:Int}:cI D pa va ds v b q↔0≤v∧v<va∧(v<pa∨∃c k,(v,c,k)∈ds∧((c=b∧k<q)∨(c≠b∧D c b))):=by
 unfold cI;constructor
 ·rintro⟨h1,h2,h3|⟨p,hp,h3⟩⟩
  ·exact⟨h1,h2,.inl h3⟩
  ·exact⟨h1,h2,.inr ⟨p.1,p.2,(Ce hn).1 hp,h3⟩⟩
 ·rintro⟨h1,h2,h3|⟨c,k,hp,h3⟩⟩
  ·exact⟨h1,h2,.inl h3⟩
  ·exact⟨h1,h2,.inr ⟨(c,k),(Ce hn).2 hp,h3⟩⟩
section
variable {α : Type} {f : α → Bool} {l : List α}
def pI(f:α→Bool)(l:List α)(j:Nat):Nat:=((l.take j).filter f).length
theorem MT{j:Nat}{x:α}(hx:l[j]?=some x)(hf:f x=true):(l.filter f)[pI f l j]?=some x:=by
 obtain⟨hj,he⟩:=List.getElem?_eq_some_iff.1 hx;have e:l.filter f=(l.take j).filter f++(x::(l.drop (j+1)).filter f):=by
  conv=>lhs;rw[←Qpq j l]
  rw[QoW,Fb hj,he,Qpv,Kt hf]
 unfold pI;rw[e,List.getElem?_append_right (kQ _),Qpl];rfl
theorem W4(j:Nat):pI f l j≤j:=by
 unfold pI;exact QoJ (QoI _ _) (by simp;omega)
theorem Ri{i j:Nat}(h:i≤j):pI f l i≤pI f l j:=by
 unfold pI;obtain⟨d,rfl⟩:=Nat.le.dest h;rw[List.take_add,QoW,QoG];omega
theorem Rj{j:Nat}{x:α}(hx:l[j]?=some x)(hf:f x=true):pI f l (j+1)=pI f l j+1:=by
 obtain⟨hj,he⟩:=List.getElem?_eq_some_iff.1 hx;unfold pI;rw[Qow hj,QoW,QoG,he];simp[hf]
theorem Qca{i j:Nat}{x:α}(hx:l[i]?=some x)(hf:f x=true)(h:i<j):pI f l i<pI f l j:=by
 have h1:=Rj hx hf;have h2:=Ri (f:=f) (l:=l) (i:=i+1) (j:=j) h;omega
theorem vN{m:Nat}{x:α}(hx:(l.filter f)[m]?=some x):∃j,l[j]?=some x∧f x=true∧pI f l j=m:=by
 induction l generalizing m with
 |nil=>simp at hx
 |cons a l ih=>
  rw[Qpv]at hx;by_cases ha:f a=true
  ·rw[Kt ha]at hx;cases m with
   |zero=>simp at hx;subst hx;exact⟨0,rfl,ha,rfl⟩
   |succ m=>
    simp at hx;obtain⟨j,h1,h2,h3⟩:=ih hx;refine⟨j+1,by simpa using h1,h2,?_⟩;unfold pI at h3⊢;rw[List.take_succ_cons,Qpv,Kt ha,QoE,h3]
  ·rw[Ds ha]at hx;obtain⟨j,h1,h2,h3⟩:=ih hx;refine⟨j+1,by simpa using h1,h2,?_⟩;unfold pI at h3⊢;rw[List.take_succ_cons,Qpv,Ds ha,h3]
end
def db(op:Int):Prop:=op=1∨op=12∨op=6∨op=7∨(16≤op∧op≠20∧op≠21)
instance (op : Int) : Decidable (db op) := by unfold db; infer_instance
theorem jf{op:Int}(h:db op):aK op:=by unfold db at h;unfold aK;omega
inductive Rd(fs:List aE):Int→Prop
 |inst {x:aE} {i:bl} {v:Int}:x∈fs→i∈x.insts→¬db i.op→v∈i.args→0≤v→Rd fs v
 |fin {x:aE}:x∈fs→(x.e=1∨x.e=2)→0≤x.v→Rd fs x.v
 |sf {x:aE} {p:bZ} {v:Int}:x∈fs→p∈x.au→Rd fs p.dst→v∈p.args→0≤v→Rd fs v
 |pure {x:aE} {i:bl} {v:Int}:x∈fs→i∈x.insts→db i.op→Rd fs i.dst→v∈i.args→0≤v→Rd fs v
noncomputable instance (fs : List aE) (v : Int) : Decidable (Rd fs v) := Classical.propDecidable _
section
variable {fs : List aE} {nm : ByteArray} {pa va : Int}
theorem Gc{α β:Type}{f g:α→List β}:∀{l:List α},(∀x,x∈l→(f x).Sublist (g x))→(l.flatMap f).Sublist (l.flatMap g)
 |[],_=>List.Sublist.refl _
 |a::l,h=>by rw[Qpg,Qpg];exact(h a (Qop ..)).append (Gc fun x hx=>h x (Qmq _ hx))
end
end Go.Mor
namespace Go.Mor
open Go.RowKit
def V0(P:Program)(c:Code)(N:FN)(n k:Nat)(env:Env):Env:=match eK P c N n k env with
 |some e=>e
 |none=>[]
def Tg{α:Type}:Option α→Bool
 |some _=>true
 |none=>false
def Z1:Env→List Nat
 |[]=>[]
 |(k,_)::r=>k::Z1 r
def yb(c:Code)(env:Env):Option Value:=match kind c with
 | .cond (.tmp t)=>look env t
 |_=>none
def Th(c:Code):Nat:=(opsOf c).size
def srE(c:Code):Bool:=match kind c,kind (Code.l c)with| .seq,.region false=>true|_,_=>false
def cmE(c:Code)(N:FN)(env:Env)(k:Nat):Option Bool:=match ax c k with
 |some (d,.binOp op _ x y _,_,g)=>match bD c g env,gp d N,ev env x,ev env y with
  |some true,true,some (.int kd i),some (.int kd' j)=>match decide (kd=kd')with
   |true=>Pu op i j
   |false=>none
  |_,_,_,_=>none
 |_=>none
def stE(P:Program)(c:Code)(N:FN)(env:Env)(k:Nat):Option (Option Nat×Addr×Value):=match ax c k with
 |some (d,.store t x y,_,g)=>match bD c g env,gp d N,xL P t,ev env x,ev env y with
  |some true,true,true,some (.pointer (some ad)),some v=>match v.oneCell' with
   |true=>some (d,ad,v)
   |false=>none
  |_,_,_,_,_=>none
 |_=>none
def rsE(fn:Func)(env:Env):Option Value:=match fn.results.toList with
 |[.tmp t]=>look env t
 |_=>none
def QeB(fn:Func)(env:Env):Option (Value×Value):=match fn.results.toList with
 |[.tmp t,.tmp u]=>match look env t,look env u with
  |some v,some v'=>some (v,v')
  |_,_=>none
 |_=>none
section
variable {P : Program} {c : Code} {K : Act → World → Prop} {Q : Exit → Act → World → Prop} {w w0 : World} {S : Nat → Prop} {L : List bx} {k : Nat} {N : FN} {env : Env}
theorem ah(n:Nat)(h:∀a,Fr a N (V0 P c N n k env)→bz P c K Q (k+n) a w)(hp:Tg (eK P c N n k env)=true:=by kernel_rfl):∀a,Fr a N env→bz P c K Q k a w:=by
 intro a hF;unfold V0 at h;cases hr:eK P c N n k env with
 |none=>rw[hr]at hp;cases hp
 |some e=>
  rw[hr]at h;exact tj n k hF hr h
theorem bX(CU:Env){G:Act→Prop}(h:∀a,Fr a N CU→G a)(hk:mh (Z1 CU) env=CU:=by kernel_rfl):∀a,Fr a N env→G a:=fun a hF=>h a (hF.keep hk)
theorem ay(h:∀a,Fr a N env→K a w)(hk:ax c k=none:=by kernel_rfl):∀a,Fr a N env→bz P c K Q k a w:=fun a hF=>aL hk (h a hF)
theorem ba(h:∀a,Fr a N env→W P (Code.l c) (fun a w=>W P (Code.r c) K Q a w) Q a w)(hk:kind c= .seq:=by kernel_rfl):∀a,Fr a N env→W P c K Q a w:=fun a hF=>ZS hk (h a hF)
theorem cG(h:∀a,Fr a N env→bz P c K Q 0 a w)(hk:kind c= .region false:=by kernel_rfl):∀a,Fr a N env→W P c K Q a w:=fun a hF=>EX hk (h a hF)
theorem aI(h:∀a,Fr a N env→bz P (Code.l c) (fun a w=>W P (Code.r c) K Q a w) Q 0 a w)(hk:srE c=true:=by kernel_rfl):∀a,Fr a N env→W P c K Q a w:=fun a hF=>QhU hk (h a hF)
theorem aX(h:∀a,Fr a N (V0 P (Code.l c) N (Th (Code.l c)) 0 env)→W P (Code.r c) K Q a w)(hk:srE c=true:=by kernel_rfl)(hp:Tg (eK P (Code.l c) N (Th (Code.l c)) 0 env)=true:=by kernel_rfl):∀a,Fr a N env→W P c K Q a w:=by
 refine aI (ah _ (fun a hF=>aL ?_ (h a hF)) hp) hk;simp[ax,Th]
theorem xh(h:∀a,Fr a N (V0 P c N (Th c) 0 env)→K a w)(hk:kind c= .region false:=by kernel_rfl)(hp:Tg (eK P c N (Th c) 0 env)=true:=by kernel_rfl):∀a,Fr a N env→W P c K Q a w:=by
 refine cG (ah _ (fun a hF=>aL ?_ (h a hF)) hp) hk;simp[ax,Th]
theorem bP(h:∀a,Fr a N env→K a w)(hk:kind c= .skip:=by kernel_rfl):∀a,Fr a N env→W P c K Q a w:=fun a hF=>Qbl hk (h a hF)
theorem bL(h:∀a,Fr a N env→Q .ret a w)(hk:kind c= .ret:=by kernel_rfl):∀a,Fr a N env→W P c K Q a w:=fun a hF=>Qeq hk (h a hF)
theorem eW(id:Nat)(h:∀a,Fr a N env→Q (.exit id) a w)(hk:kind c= .exit id:=by kernel_rfl):∀a,Fr a N env→W P c K Q a w:=fun a hF=>Qbm hk (h a hF)
theorem cr(id:Nat)(h:∀a,Fr a N env→W P (Code.l c) K (KR id K Q) a w)(hk:kind c= .block id:=by kernel_rfl):∀a,Fr a N env→W P c K Q a w:=fun a hF=>Vp hk (h a hF)
theorem cJ{id:Nat}(h:∀a,Fr a N env→Q .ret a w):∀a,Fr a N env→KR id K Q .ret a w:=h
theorem eX{id Pt:Nat}(h:∀a,Fr a N env→K a w)(e:Nat.beq Pt id=true:=by rfl):∀a,Fr a N env→KR id K Q (.exit Pt) a w:=fun a hF=>Vx e (h a hF)
theorem uN{v:Value}(h:yb c env=some v):∃t,kind c= .cond (.tmp t)∧look env t=some v:=by
 unfold yb at h;split at h
 ·rename_i t ht;exact⟨t,ht,h⟩
 ·cases h
theorem fm(h:∀a,Fr a N env→W P (Code.l c) K Q a w)(hk:yb c env=some (vB true):=by kernel_rfl):∀a,Fr a N env→W P c K Q a w:=fun a hF=>by
 obtain⟨t,h1,h2⟩:=uN hk;exact HW h1 hF h2 (fun _=>h a hF) (fun h=>Bool.noConfusion h)
theorem fT(h:∀a,Fr a N env→W P (Code.r c) K Q a w)(hk:yb c env=some (vB false):=by kernel_rfl):∀a,Fr a N env→W P c K Q a w:=fun a hF=>by
 obtain⟨t,h1,h2⟩:=uN hk;exact HW h1 hF h2 (fun h=>Bool.noConfusion h) (fun _=>h a hF)
theorem dX(e:Bool)(R:Prop)(i:e=true↔R)(ht:R→∀a,Fr a N env→W P (Code.l c) K Q a w)(hf:¬R→∀a,Fr a N env→W P (Code.r c) K Q a w)(hk:yb c env=some (vB e):=by kernel_rfl):∀a,Fr a N env→W P c K Q a w:=fun a hF=>by
 obtain⟨t,h1,h2⟩:=uN hk;exact VY h1 hF h2 i (fun r=>ht r a hF) (fun r=>hf r a hF)
theorem fE(R:Prop)[Decidable R](ht:R→∀a,Fr a N env→W P (Code.l c) K Q a w)(hf:¬R→∀a,Fr a N env→W P (Code.r c) K Q a w)(hk:yb c env=some (vB (decide R)):=by kernel_rfl):∀a,Fr a N env→W P c K Q a w:=dX (decide R) R decide_eq_true_iff ht hf hk
theorem bt(ad:Addr)(v:Value)(hc:w.cell? ad=some v)(h:∀a,Fr a N (dq env (bp c k) v)→bz P c K Q (k+1) a w)(hk:VV P c N env k=some (bp c k,ad):=by kernel_rfl):∀a,Fr a N env→bz P c K Q k a w:=fun _ hF=>br _ ad hF hk v hc h
theorem ga(ad:Addr)(vs:aP)(hc:∀j v,vs[j]?=some v→w.cell? (ad.add j)=some v)(h:∀a,Fr a N (dq env (bp c k) (.agg vs.toArray))→bz P c K Q (k+1) a w)(hk:Te P c N env k=some (bp c k,ad,some vs.length):=by kernel_rfl):∀a,Fr a N env→bz P c K Q k a w:=fun _ hF=>VX _ ad vs hF hk hc h
theorem ej(ad:Addr)(n size:Nat)(i:Int)(h:∀a,Fr a N (dq env (bp c k) (vP (ad.add (i.toNat*size))))→bz P c K Q (k+1) a w)(h0:0≤i:=by omega)(h1:i<n:=by omega)(hk:VW P c N env k=some (bp c k,some ad,n,size,i):=by kernel_rfl):∀a,Fr a N env→bz P c K Q k a w:=fun _ hF=>mj _ ad n size i hF hk h0 h1 h
theorem cZ(z:Int)(h:∀a,Fr a N (dq env (bp c k) (vI z))→bz P c K Q (k+1) a w)(h1: -9223372036854775808≤z:=by omega)(h2:z≤9223372036854775807:=by omega)(hk:Lw c N env k=some (bp c k,z):=by kernel_rfl):∀a,Fr a N env→bz P c K Q k a w:=fun _ hF=>GF _ z hF hk rfl h1 h2 h
theorem Kk{b:Bool}(h:cmE c N env k=some b):∃d op t x y t' ty g kd i j,ax c k=some (d,.binOp op t x y t',ty,g)∧bD c g env=some true∧gp d N=true∧ev env x=some (.int kd i)∧ev env y=some (.int kd j)∧Pu op i j=some b:=by
 unfold cmE at h;split at h
 ·rename_i h0;split at h
  ·rename_i h1 h2 h3 h4;split at h
   ·rename_i h5;have:=QlT h5;subst this;exact⟨_,_,_,_,_,_,_,_,_,_,_,h0,h1,h2,h3,h4,h⟩
   ·cases h
  ·cases h
 ·cases h
theorem jP(b:Bool)(h:∀B,B=b→∀a,Fr a N (dq env (bp c k) (vB B))→bz P c K Q (k+1) a w)(hk:cmE c N env k=some b:=by kernel_rfl):∀a,Fr a N env→bz P c K Q k a w:=fun a hF=>by
 obtain⟨d,op,t,x,y,t',ty,g,kd,i,j,h0,h1,h2,h3,h4,h5⟩:=Kk hk;have hd:bp c k=d:=by unfold ax at h0;unfold bp;cases ho:(opsOf c)[k]?<;>rw[ho]at h0<;>simp at h0⊢;exact h0.1
 rw[hd]at h;exact EZ h0 hF h1 h2 rfl h3 h4 h5 (fun B hB a' _=>h B hB a')
theorem di{f:FuncId}{vs:Array Value}{Φ:Value→World→Prop}(hc:Calls P f vs w (ez Φ))(h:∀v w',Φ v w'→∀a,Fr a N (dq env (bp c k) v)→bz P c K Q (k+1) a w')(hk:Tf P c N env k=some (bp c k,f,vs):=by kernel_rfl):∀a,Fr a N env→bz P c K Q k a w:=fun _ hF=>oq _ f vs.toList hF hk hc h
theorem Kl{d:Option Nat}{ad:Addr}{v:Value}(h:stE P c N env k=some (d,ad,v)):∃t x y ty g,ax c k=some (d,.store t x y,ty,g)∧bD c g env=some true∧gp d N=true∧xL P t=true∧ev env x=some (vP ad)∧ev env y=some v∧v.oneCell'=true:=by
 unfold stE at h;split at h
 ·rename_i h0;split at h
  ·rename_i h1 h2 h3 h4 h5;split at h
   ·rename_i h6;simp only[Kr,Qaq]at h;obtain⟨rfl,rfl,rfl⟩:=h;exact⟨_,_,_,_,_,h0,h1,h2,h3,h4,h5,h6⟩
   ·cases h
  ·cases h
 ·cases h
theorem pC(hM:Mem S w0 w L)(i:Nat)(off:Nat)(v:Value){b t0:Nat}{cs:aP}(hi:L[i]?=some (.aB b t0 cs))(h:∀w',Mem S w0 w' (L.set i (.aB b t0 (cs.set off v)))→∀a,Fr a N (dq env (bp c k) undef)→bz P c K Q (k+1) a w')(ho:off<cs.length:=by decide)(hk:stE P c N env k=some (bp c k,(ao b off),v):=by kernel_rfl):∀a,Fr a N env→bz P c K Q k a w:=fun a hF=>by
 obtain⟨t,x,y,ty,g,h0,h1,h2,h3,h4,h5,h6⟩:=Kl hk;exact fw h0 hF h1 h2 rfl h4 h5 h3 h6 hM i hi ho (fun w' P5 _ a' _=>h w' P5 a')
theorem yc(hM:Mem S w0 w L)(i:Nat)(ad':Addr)(j:Nat)(v:Value){e size n cap:Nat}{ad:Addr}{xs:aP}(hi:L[i]?=some (.row e size (some ad) n cap xs))(had:ad'=ad.add j)(hj:j<n*size)(h:∀w',Mem S w0 w' (L.set i (.row e size (some ad) n cap (xs.set j v)))→∀a,Fr a N (dq env (bp c k) undef)→bz P c K Q (k+1) a w')(hk:stE P c N env k=some (bp c k,ad',v):=by kernel_rfl):∀a,Fr a N env→bz P c K Q k a w:=fun a hF=>by
 obtain⟨t,x,y,ty,g,h0,h1,h2,h3,h4,h5,h6⟩:=Kl hk;exact ew h0 hF h1 h2 rfl h4 had h5 h3 h6 hM i hi hj (fun w' P5 _ a' _=>h w' P5 a')
end
section
variable {P : Program} {w : World} {N : FN} {env : Env} {fn : Func} {Φ : Value → World → Prop}
theorem cv(v:Value)(h:Φ v w)(hk:rsE fn env=some v:=by kernel_rfl)(hD:N.D=[]:=by rfl):∀a,Fr a N env→bodyPost P fn (ez Φ) .ret a w:=fun a hF=>by
 unfold rsE at hk;split at hk
 ·rename_i t ht;exact QhP hF (by apply Qpe;simpa using ht) hk ⟨v,rfl,h⟩ hD
 ·cases hk
theorem iv(v v':Value)(h:Φ (.tuple #[v,v']) w)(hk:QeB fn env=some (v,v'):=by kernel_rfl)(hD:N.D=[]:=by rfl):∀a,Fr a N env→bodyPost P fn (ez Φ) .ret a w:=fun a hF=>by
 unfold QeB at hk;split at hk
 ·rename_i t u ht;split at hk
  ·rename_i h1 h2;simp only[Kr,Qaq]at hk;obtain⟨rfl,rfl⟩:=hk;exact QhQ hF (by apply Qpe;simpa using ht) h1 h2 ⟨_,rfl,h⟩ hD
  ·cases hk
 ·cases hk
theorem UY(h:Φ (.tuple #[]) w)(hk:fn.results=#[]:=by rfl)(hD:N.D=[]:=by rfl):∀a,Fr a N env→bodyPost P fn (ez Φ) .normal a w:=fun _ hF=>QhR hF hk ⟨_,rfl,h⟩ hD
theorem fv{f:FuncId}(N:FN)(vs:aP)(hf:P.funcs[f]?=some fn)(h:∀a,Fr a N (LS 0 vs)→W P (CZ fn) (bodyPost P fn (ez Φ) .normal) (bodyPost P fn (ez Φ)) a w)(hb:fn.body.isSome=true:=by kernel_rfl)(hn:Nat.beq fn.ntmps N.n=true:=by kernel_rfl)(hl:Nat.ble vs.length N.n=true:=by kernel_rfl)(hD:N.D=[]:=by rfl):Calls P f vs.toArray w (ez Φ):=enter hf hb hn hl h hD
end
def Z2:Spec→Option Value
 | .aU u=>some u
 |_=>none
def Ul(P:Program)(c:Code)(N:FN)(i:Nat)(env:Env):Option Value:=match ax c i with
 |some (d,op,_,g)=>match bD c g env,gp d N with
  |some true,true=>pS P env op
  |_,_=>none
 |none=>none
def kx(c:Code)(i:Nat)(env:Env):Option Bool:=match ax c i with
 |some (_,_,_,g)=>bD c g env
 |none=>none
theorem C6{c:Code}{i:Nat}{env:Env}{b:Bool}(h:kx c i env=some b):∀g,(ax c i).map (·.2.2.2)=some g→bD c g env=some b:=by
 intro g hg;unfold kx at h;split at h
 ·rename_i h0;rw[h0]at hg;simp only[Fc,Kr]at hg;subst hg;exact h
 ·cases h
theorem rF{E F:Env}{t:Nat}{v:Value}(h:look E t=some v):look (E++F) t=some v:=by
 induction E with
 |nil=>cases h
 |cons x r ih=>
  obtain⟨k,u⟩:=x;simp only[Qqg,look]at h⊢;cases hq:Nat.beq k t with
  |true=>rw[hq]at h;exact h
  |false=>rw[hq]at h;exact ih h
section
variable {P : Program} {c : Code} {Q : Exit → Act → World → Prop} {N : FN} {i : Nat} {env0 : Env} {wr : World} {sp : Nat → Spec}
theorem Fr.left{a:Act}{E F:Env}(h:Fr a N (E++F)):Fr a N E:=⟨h.defers,h.size,fun t v hv=>h.slot t v (rF hv)⟩
theorem EA{g:Option (Nat×Bool)}{E F:Env}{b:Bool}(h:bD c g E=some b):bD c g (E++F)=some b:=by
 unfold bD at h⊢;cases g with
 |none=>exact h
 |some p=>
  obtain⟨j,want⟩:=p;simp only at h⊢;cases hd:((opsOf c)[j]?).bind (·.dst)with
  |none=>rw[hd]at h;cases h
  |some d=>
   rw[hd]at h;simp only at h⊢;cases hl:look E d with
   |none=>rw[hl]at h;cases h
   |some v=>
    rw[hl]at h;rw[rF hl];exact h
theorem rG(hg:∀vs,kx c i (bW c i sp vs env0)=some true)(h:∀(w:World) (vs:Nat→Value),Kp wr w→(∀j,j∈cY c i→(sp j).ok (vs j) w)→∀a,Fr a N (bW c i sp vs env0)→bz P (one c i) (fun a' w'=>∃v,a'=a.put (bp c i) v∧Kp w w'∧(sp i).ok v w') Q 0 a w):jc P c Q N env0 wr sp i:=by
 intro a w vs rest hK hp hF;exact⟨true,fun g nU=>EA (C6 (hg vs) g nU),fun _=>h w vs hK hp a hF.left,fun h=>Bool.noConfusion h⟩
theorem Ij{o:Option Nat×Op×Nat×Option (Nat×Bool)}(h:ax c i=some o):ax (one c i) 0=some (o.1,o.2.1,o.2.2.1,none)∧bp c i=o.1:=by
 unfold ax at h;cases ho:(opsOf c)[i]? with
 |none=>rw[ho]at h;cases h
 |some q=>
  rw[ho]at h;simp only[Fc,Kr]at h;subst h;constructor
  ·unfold ax;rw[tq ho];rfl
  ·simp[bp,ho]
theorem Km{k:Nat}{o:Option Nat×Op×Nat×Option (Nat×Bool)}(h:ax c i=some o):ax (one c i) (k+1)=none:=by
 unfold ax at h⊢;cases ho:(opsOf c)[i]? with
 |none=>rw[ho]at h;cases h
 |some q=>
  rw[tq ho];simp
theorem dP(h:∀vs,Ul P c N i (bW c i sp vs env0)=Z2 (sp i):=by intro _;kernel_rfl)(h2:Tg (Z2 (sp i))=true:=by kernel_rfl):jc P c Q N env0 wr sp i:=by
 have key:∀vs,∃d op ty g v,ax c i=some (d,op,ty,g)∧bD c g (bW c i sp vs env0)=some true∧gp d N=true∧pS P (bW c i sp vs env0) op=some v∧sp i= .aU v:=by
  intro vs;have h3:=h vs;cases hs:sp i with
  |any Φ hh=>rw[hs]at h2;cases h2
  |aU u=>
   rw[hs]at h3;unfold Ul Z2 at h3;simp only at h3;split at h3
   ·rename_i h4;split at h3
    ·rename_i h5 h6;exact⟨_,_,_,_,u,h4,h5,h6,h3,rfl⟩
    ·cases h3
   ·cases h3
 refine rG (fun vs=> ?_) (fun w vs hK hp a hF=> ?_)
 ·obtain⟨d,op,ty,g,v,h1,h2,_⟩:=key vs;unfold kx;rw[h1];exact h2
 ·obtain⟨d,op,ty,g,v,h1,h2,h3,h4,h5⟩:=key vs;obtain⟨e1,e2⟩:=Ij h1;refine fg e1 hF rfl h3 rfl h4 (fun a' ea _=>aL (Km h1) ⟨v,?_,Kp.refl w,?_⟩)
  ·rw[e2];exact ea
  ·rw[h5];rfl
theorem Kn{k:Nat}{c:Code}{env:Env}{d:Option Nat}{ad:Addr}(hk:VV P c N env k=some (d,ad)):∃t x ty g,ax c k=some (d,.load t x,ty,g)∧bD c g env=some true∧gp d N=true∧xL P t=true∧ev env x=some (vP ad):=by
 unfold VV at hk;split at hk
 ·rename_i h0;split at hk
  ·rename_i h1 h2 h3 h4;simp only[Kr,Qaq]at hk;obtain⟨rfl,rfl⟩:=hk;exact⟨_,_,_,_,h0,h1,h2,h3,h4⟩
  ·cases hk
 ·cases hk
theorem V1{k:Nat}{c:Code}{env:Env}{d:Option Nat}{ad:Addr}{n:Nat}(hk:Te P c N env k=some (d,ad,some n)):∃t x ty g,ax c k=some (d,.load t x,ty,g)∧bD c g env=some true∧gp d N=true∧uJ P t=some n∧ev env x=some (vP ad):=by
 unfold Te at hk;split at hk
 ·rename_i h0;split at hk
  ·rename_i h1 h2 h4;simp only[Kr,Qaq]at hk;obtain⟨rfl,rfl,h3⟩:=hk;exact⟨_,_,_,_,h0,h1,h2,h3,h4⟩
  ·cases hk
 ·cases hk
theorem Ko{k:Nat}{c:Code}{env:Env}{d:Option Nat}{A:ar}{n size:Nat}{j:Int}(hk:VW P c N env k=some (d,A,n,size,j)):∃t x y ty g cap e kd,ax c k=some (d,.indexAddr t x y,ty,g)∧bD c g env=some true∧gp d N=true∧ev env x=some (vS A n cap)∧ev env y=some (.int kd j)∧P.underlying t=some (.slice e)∧(P.info? e).map (·.size)=some size:=by
 unfold VW at hk;split at hk
 ·rename_i g0;split at hk
  ·rename_i g1 g2 g3 g4;split at hk
   ·rename_i e ht;split at hk
    ·rename_i inf hs;simp only[Kr,Qaq]at hk;obtain⟨rfl,rfl,rfl,rfl,rfl⟩:=hk;exact⟨_,_,_,_,_,_,_,_,g0,g1,g2,g3,g4,ht,by rw[hs];rfl⟩
    ·cases hk
   ·cases hk
  ·cases hk
 ·cases hk
theorem Kq{k:Nat}{c:Code}{env:Env}{d:Option Nat}{z:Int}(hk:Lw c N env k=some (d,z)):∃op t x y t' ty g i j,ax c k=some (d,.binOp op t x y t',ty,g)∧bD c g env=some true∧gp d N=true∧ev env x=some (vI i)∧ev env y=some (vI j)∧arI op i j=some z:=by
 unfold Lw at hk;split at hk
 ·rename_i g0;split at hk
  ·rename_i g1 g2 g3 g4;split at hk
   ·rename_i z hz;simp only[Kr,Qaq]at hk;obtain⟨rfl,rfl⟩:=hk;exact⟨_,_,_,_,_,_,_,_,_,g0,g1,g2,g3,g4,hz⟩
   ·cases hk
  ·cases hk
 ·cases hk
theorem dL(ad:Addr)(v:Value)(hc:∀w',Kp wr w'→w'.cell? ad=some v)(hv:sp i= .aU v:=by rfl)(hg:∀vs,kx c i (bW c i sp vs env0)=some true:=by intro _;kernel_rfl)(hk:∀vs,VV P (one c i) N (bW c i sp vs env0) 0=some (bp c i,ad):=by intro _;kernel_rfl)(he:ax (one c i) 1=none:=by kernel_rfl):jc P c Q N env0 wr sp i:=by
 refine rG hg (fun w vs hK hp a hF=> ?_);obtain⟨t,x,ty,g,h0,h1,h2,h3,h4⟩:=Kn (hk vs);exact rY h0 hF h1 h2 rfl h4 h3 (hc w hK) (fun a' ea _=>aL he ⟨v,ea,Kp.refl w,by rw[hv];rfl⟩)
theorem dS(ad:Addr)(vs:aP)(hc:∀w',Kp wr w'→∀j v,vs[j]?=some v→w'.cell? (ad.add j)=some v)(hv:sp i= .aU (.agg vs.toArray):=by rfl)(hg:∀vs,kx c i (bW c i sp vs env0)=some true:=by intro _;kernel_rfl)(hk:∀ZW,Te P (one c i) N (bW c i sp ZW env0) 0=some (bp c i,ad,some vs.length):=by intro _;kernel_rfl)(he:ax (one c i) 1=none:=by kernel_rfl):jc P c Q N env0 wr sp i:=by
 refine rG hg (fun w ZW hK hp a hF=> ?_);obtain⟨t,x,ty,g,h0,h1,h2,h3,h4⟩:=V1 (hk ZW);exact fQ h0 hF h1 h2 rfl h4 h3 (hc w hK) (fun a' ea _=>aL he ⟨_,ea,Kp.refl w,by rw[hv];rfl⟩)
theorem dI(ad:Addr)(n size:Nat)(j:Int)(h0:0≤j:=by omega)(h1:j<n:=by omega)(hv:sp i= .aU (vP (ad.add (j.toNat*size))):=by rfl)(hg:∀vs,kx c i (bW c i sp vs env0)=some true:=by intro _;kernel_rfl)(hk:∀vs,VW P (one c i) N (bW c i sp vs env0) 0=some (bp c i,some ad,n,size,j):=by intro _;kernel_rfl)(he:ax (one c i) 1=none:=by kernel_rfl):jc P c Q N env0 wr sp i:=by
 refine rG hg (fun w vs hK hp a hF=> ?_);obtain⟨t,x,y,ty,g,cap,e,kd,g0,g1,g2,g3,g4,g5,g6⟩:=Ko (hk vs);exact r2 g0 hF g1 g2 rfl g3 g4 rfl g5 g6 h0 h1 (fun a' ea _=>aL he ⟨_,ea,Kp.refl w,by rw[hv];rfl⟩)
theorem dA(z:Int)(h1: -9223372036854775808≤z:=by omega)(h2:z≤9223372036854775807:=by omega)(hv:sp i= .aU (vI z):=by rfl)(hg:∀vs,kx c i (bW c i sp vs env0)=some true:=by intro _;kernel_rfl)(hk:∀vs,Lw (one c i) N (bW c i sp vs env0) 0=some (bp c i,z):=by intro _;kernel_rfl)(he:ax (one c i) 1=none:=by kernel_rfl):jc P c Q N env0 wr sp i:=by
 refine rG hg (fun w vs hK hp a hF=> ?_);obtain⟨op,t,x,y,t',ty,g,i1,j1,g0,g1,g2,g3,g4,g5⟩:=Kq (hk vs);exact gv g0 hF g1 g2 rfl g3 g4 g5 h1 h2 (fun a' ea _=>aL he ⟨_,ea,Kp.refl w,by rw[hv];rfl⟩)
theorem dC(b:Bool){B:Bool}(hb:B=b)(hv:sp i= .aU (vB B):=by rfl)(hg:∀vs,kx c i (bW c i sp vs env0)=some true:=by intro _;kernel_rfl)(hk:∀vs,cmE (one c i) N (bW c i sp vs env0) 0=some b:=by intro _;kernel_rfl)(he:ax (one c i) 1=none:=by kernel_rfl):jc P c Q N env0 wr sp i:=by
 refine rG hg (fun w vs hK hp a hF=> ?_);obtain⟨d,op,t,x,y,t',ty,g,kd,i1,j1,g0,g1,g2,g3,g4,g5⟩:=Kk (hk vs);have hd:bp c i=d:=by
  cases hc:ax c i with
  |none=>
   have:=hg vs;unfold kx at this;rw[hc]at this;cases this
  |some o=>
   obtain⟨e1,e2⟩:=Ij hc;rw[e1]at g0;simp only[Kr,Qaq]at g0;rw[e2,g0.1]
 exact EZ g0 hF g1 g2 rfl g3 g4 g5 (fun B' hB' a' ea _=>aL he ⟨_,by rw[hd];exact ea,Kp.refl w,by rw[hv,hB',hb];rfl⟩)
end
section
variable {P : Program} {c : Code} {Q : Exit → Act → World → Prop} {N : FN} {i : Nat} {env0 : Env} {sp : Nat → Spec} {J : (Nat → Bool) → (Nat → Value) → World → Prop}
theorem C7(hg:∀vs,kx c i (bW c i sp vs env0)=some true)(h:∀(w:World) (ls:Nat→Bool) (vs:Nat→Value),J ls vs w→ls i=false→og c ls→(∀j,j∈cY c i→ls j=true∧(sp j).ok (vs j) w)→∀a,Fr a N (bW c i sp vs env0)→bz P (one c i) (fun a' w'=>∃v,a'=a.put (bp c i) v∧(sp i).ok v w'∧J (mO ls i) (r8 vs i v) w') Q 0 a w):rD P c Q N env0 sp J i:=by
 intro a w ls vs rest hJ hi hc hp hF;exact⟨true,fun g nU=>EA (C6 (hg vs) g nU),fun _=>h w ls vs hJ hi hc hp a hF.left,fun h=>Bool.noConfusion h⟩
theorem dPJ(hJ:∀ls vs v w,J ls vs w→J (mO ls i) (r8 vs i v) w)(h:∀vs,Ul P c N i (bW c i sp vs env0)=Z2 (sp i):=by intro _;kernel_rfl)(h2:Tg (Z2 (sp i))=true:=by kernel_rfl):rD P c Q N env0 sp J i:=by
 have key:∀vs,∃d op ty g v,ax c i=some (d,op,ty,g)∧bD c g (bW c i sp vs env0)=some true∧gp d N=true∧pS P (bW c i sp vs env0) op=some v∧sp i= .aU v:=by
  intro vs;have h3:=h vs;cases hs:sp i with
  |any Φ hh=>rw[hs]at h2;cases h2
  |aU u=>
   rw[hs]at h3;unfold Ul Z2 at h3;simp only at h3;split at h3
   ·rename_i h4;split at h3
    ·rename_i h5 h6;exact⟨_,_,_,_,u,h4,h5,h6,h3,rfl⟩
    ·cases h3
   ·cases h3
 refine C7 (fun vs=> ?_) (fun w ls vs hj hi hc hp a hF=> ?_)
 ·obtain⟨d,op,ty,g,v,h1,h2,_⟩:=key vs;unfold kx;rw[h1];exact h2
 ·obtain⟨d,op,ty,g,v,h1,h2,h3,h4,h5⟩:=key vs;obtain⟨e1,e2⟩:=Ij h1;refine fg e1 hF rfl h3 rfl h4 (fun a' ea _=>aL (Km h1) ⟨v,?_,?_,hJ _ _ _ _ hj⟩)
  ·rw[e2];exact ea
  ·rw[h5];rfl
theorem yd(ad:Addr)(n size:Nat)(j:Int)(hJ:∀ls vs v w,J ls vs w→J (mO ls i) (r8 vs i v) w)(h0:0≤j:=by omega)(h1:j<n:=by omega)(hv:sp i= .aU (vP (ad.add (j.toNat*size))):=by rfl)(hg:∀vs,kx c i (bW c i sp vs env0)=some true:=by intro _;kernel_rfl)(hk:∀vs,VW P (one c i) N (bW c i sp vs env0) 0=some (bp c i,some ad,n,size,j):=by intro _;kernel_rfl)(he:ax (one c i) 1=none:=by kernel_rfl):rD P c Q N env0 sp J i:=by
 refine C7 hg (fun w ls vs hj hi hc hp a hF=> ?_);obtain⟨t,x,y,ty,g,cap,e,kd,g0,g1,g2,g3,g4,g5,g6⟩:=Ko (hk vs);exact r2 g0 hF g1 g2 rfl g3 g4 rfl g5 g6 h0 h1 (fun a' ea _=>aL he ⟨_,ea,by rw[hv];rfl,hJ _ _ _ _ hj⟩)
theorem dAJ(z:Int)(hJ:∀ls vs v w,J ls vs w→J (mO ls i) (r8 vs i v) w)(h1: -9223372036854775808≤z:=by omega)(h2:z≤9223372036854775807:=by omega)(hv:sp i= .aU (vI z):=by rfl)(hg:∀vs,kx c i (bW c i sp vs env0)=some true:=by intro _;kernel_rfl)(hk:∀vs,Lw (one c i) N (bW c i sp vs env0) 0=some (bp c i,z):=by intro _;kernel_rfl)(he:ax (one c i) 1=none:=by kernel_rfl):rD P c Q N env0 sp J i:=by
 refine C7 hg (fun w ls vs hj hi hc hp a hF=> ?_);obtain⟨op,t,x,y,t',ty,g,i1,j1,g0,g1,g2,g3,g4,g5⟩:=Kq (hk vs);exact gv g0 hF g1 g2 rfl g3 g4 g5 h1 h2 (fun a' ea _=>aL he ⟨_,ea,by rw[hv];rfl,hJ _ _ _ _ hj⟩)
theorem mP(ad:Addr)(v:Value)(hJ:∀ls vs v w,J ls vs w→J (mO ls i) (r8 vs i v) w)(hc:∀w ls vs,J ls vs w→ls i=false→og c ls→(∀j,j∈cY c i→ls j=true)→w.cell? ad=some v)(hv:sp i= .aU v:=by rfl)(hg:∀vs,kx c i (bW c i sp vs env0)=some true:=by intro _;kernel_rfl)(hk:∀vs,VV P (one c i) N (bW c i sp vs env0) 0=some (bp c i,ad):=by intro _;kernel_rfl)(he:ax (one c i) 1=none:=by kernel_rfl):rD P c Q N env0 sp J i:=by
 refine C7 hg (fun w ls vs hj hi zR hp a hF=> ?_);obtain⟨t,x,ty,g,h0,h1,h2,h3,h4⟩:=Kn (hk vs);exact rY h0 hF h1 h2 rfl h4 h3 (hc w ls vs hj hi zR (fun j E1=>(hp j E1).1)) (fun a' ea _=>aL he ⟨v,ea,by rw[hv];rfl,hJ _ _ _ _ hj⟩)
end
end Go.Mor
namespace Go.Mor
theorem L3{α:Type}[BEq α][LawfulBEq α]{a b:α}(h:false=(a==b)):¬(a=b):=fun e=>Bool.false_ne_true (h.trans (Qco.2 e))
theorem LZ{α:Type}[BEq α][LawfulBEq α]{a b:α}(h:false=(a !=b)):¬(a≠b):=fun e=>Bool.false_ne_true (h.trans (Qoo.2 e))
end Go.Mor
namespace Go.Mor
open Go.RowKit
abbrev dU:Spec:= .aU undef
theorem lz{p:Nat→Prop}:∀i,i<0→p i:=E2
theorem la{p:Nat→Prop}{n:Nat}(h:∀i,i<n→p i)(hn:p n):∀i,i<n+1→p i:=E3 h hn
section
variable {P : Program} {c : Code} {Q : Exit → Act → World → Prop} {N : FN} {i : Nat} {env0 : Env} {wr : World} {sp : Nat → Spec}
theorem dK(hv:sp i= .aU undef:=by rfl)(hg:∀vs,kx c i (bW c i sp vs env0)=some false:=by intro _;kernel_rfl):jc P c Q N env0 wr sp i:=by
 intro a w vs rest hK hp hF;exact⟨false,fun g nU=>EA (C6 (hg vs) g nU),fun h=>Bool.noConfusion h,fun _=>by rw[hv];rfl⟩
theorem Hw(A:ar)(ad:Addr)(n size:Nat)(j:Int)(hA:A=some ad)(h0:0≤j:=by omega)(h1:j<n:=by omega)(hv:sp i= .aU (vP (ad.add (j.toNat*size))):=by rfl)(hg:∀vs,kx c i (bW c i sp vs env0)=some true:=by intro _;kernel_rfl)(hk:∀vs,VW P (one c i) N (bW c i sp vs env0) 0=some (bp c i,A,n,size,j):=by intro _;kernel_rfl)(he:ax (one c i) 1=none:=by kernel_rfl):jc P c Q N env0 wr sp i:=dI ad n size j h0 h1 hv hg (fun vs=>by rw[hk vs,hA]) he
theorem V2{k:Nat}{c:Code}{env:Env}{d:Option Nat}{f:FuncId}{vs:Array Value}(hk:Tf P c N env k=some (d,f,vs)):∃x args ts ty g us cap,ax c k=some (d,.call {callee:= .value x,args:=args,argTypes:=ts},ty,g)∧bD c g env=some true∧gp d N=true∧ev env x=some (.func (.func f) #[] cap)∧Vt env args.toList=some us∧xP P f=true∧(us++cap.toList).toArray=vs:=by
 unfold Tf at hk;split at hk
 ·rename_i d' x args ts ty g g0;split at hk
  ·rename_i f' first cap us g1 g2 g3 g4
   split at hk
   ·rename_i hs hf;simp only[Kr,Qaq]at hk;obtain⟨rfl,rfl,hv⟩:=hk;have Ic:first=#[]:=Qqt hs
    subst Ic;exact⟨x,args,ts,ty,g,us,cap,g0,g1,g2,g3,g4,hf,hv⟩
   ·cases hk
  ·cases hk
 ·cases hk
theorem dD{f:FuncId}{vs:Array Value}{u u':Value}(hc:∀w,Kp wr w→Calls P f vs w (ez fun v w'=>v=u∧Mem bq w w' []))(hu:u=u')(hv:sp i= .aU u':=by rfl)(hg:∀vs,kx c i (bW c i sp vs env0)=some true:=by intro _;kernel_rfl)(hk:∀ZW,Tf P (one c i) N (bW c i sp ZW env0) 0=some (bp c i,f,vs):=by intro _;kernel_rfl)(he:ax (one c i) 1=none:=by kernel_rfl):jc P c Q N env0 wr sp i:=by
 refine rG hg (fun w ZW hK hp a hF=> ?_);obtain⟨x,args,ts,ty,g,us,cap,g0,g1,g2,g3,g4,g5,g6⟩:=V2 (hk ZW);refine gK (Φ:=fun v w'=>v=u∧Mem bq w w' []) g0 hF g1 g2 rfl (cap:=cap.toList) (by simpa using g3) g4 g5 (by rw[g6];exact hc w hK) (fun v w' hv' a' ea _=>aL he ⟨v,ea,hv'.2,?_⟩);rw[hv,hv'.1];exact hu
end
def mvL:Nat→List bx→List bx
 |0,L=>L
 |_+1,[]=>[]
 |n+1,a::L=>match mvL n L with
  |[]=>[a]
  |b::M=>b::a::M
def odL:List Nat→List bx→List bx
 |[],L=>L
 |i::l,L=>odL l (mvL i L)
def tkL:Nat→List bx→List bx
 |0,_=>[]
 |_+1,[]=>[]
 |n+1,a::L=>a::tkL n L
theorem QeY:∀(n:Nat) (L:List bx),L.Perm (mvL n L)
 |0,L=>List.Perm.refl L
 |_+1,[]=>List.Perm.refl []
 |n+1,a::L=>by
  unfold mvL;have h:=QeY n L;cases hm:mvL n L with
  |nil=>rw[hm]at h;exact h.cons a
  |cons b M=>rw[hm]at h;exact(h.cons a).trans (QpO b a M)
theorem Qfk:∀(l:List Nat) (L:List bx),L.Perm (odL l L)
 |[],L=>List.Perm.refl L
 |i::l,L=>(QeY i L).trans (Qfk l _)
theorem Qda:∀(n:Nat) (L:List bx),rC (List.replicate n true) L=tkL n L
 |0,[]=>rfl
 |0,_::_=>rfl
 |_+1,[]=>rfl
 |n+1,a::L=>by rw[Qpx];show a::rC (List.replicate n true) L=a::tkL n L;rw[Qda n L]
section
variable {S : Nat → Prop} {w0 w w' : World} {L Lr L' : List bx} {r r' s s' : bx}
theorem Mem.nf(h:Mem S w0 w L)(e:L=L':=by dsimp only[List.set_cons_zero,List.set_cons_succ,List.cons_append,List.nil_append]):Mem S w0 w L':=e▸h
theorem Mem.cl(h:Mem S w0 w L)(h':Mem bq w w' Lr)(e:L++Lr=L':=by dsimp only[List.cons_append,List.nil_append,List.append_nil]):Mem S w0 w' L':=e▸h.call h'
theorem Mem.md(h:Mem S w0 w L)(i:Nat)(hi:L[i]?=some r)(h':Mem r.fp w w' (r'::Lr))(e:L.set i r'++Lr=L':=by dsimp only[List.set_cons_zero,List.set_cons_succ,List.cons_append,List.nil_append,List.append_nil]):Mem S w0 w' L':=e▸h.mod i hi h'
theorem Mem.od(h:Mem S w0 w L)(l:List Nat)(k:Nat)(e:tkL k (odL l L)=L':=by dsimp only[tkL,odL,mvL]):Mem S w0 w L':=e▸(h.perm (Qfk l L)).pick _ (Qda k _)
theorem Mem.tk(h:Mem S w0 w L)(k:Nat)(e:tkL k L=L':=by rfl):Mem S w0 w L':=e▸h.pick _ (Qda k _)
end
abbrev pT(b o:Nat):Value:= .pointer (some (ao b o))
abbrev sM(g:Nat):ar:=some (aZ g)
abbrev nV(k:Nat):Value:=vI (k:Int)
theorem Fr.kp{a:Act}{N:FN}{env:Env}(h:Fr a N env)(keep:List Nat){CU:Env}(e:mh keep env=CU:=by kernel_rfl):Fr a N CU:=h.keep e
section
variable {P : Program} {c : Code} {K : Act → World → Prop} {Q : Exit → Act → World → Prop} {a : Act} {w w0 : World} {S : Nat → Prop} {L : List bx} {k : Nat} {N : FN} {env : Env}
theorem fk(I:Nat→Act→World→Prop){n:Nat}(h0:I n a w)(round:∀n a w,I n a w→W P (Code.l c) (fun a' w'=>∃m,m<n∧I m a' w') Q a w)(hk:kind c= .loop:=by kernel_rfl):W P c K Q a w:=Qbn hk I h0 round
theorem cE(n k':Nat){news:Env}(keys:List Nat)(hF:Fr a N env)(hp:(eK P c N n k env).map (mh keys)=some news)(h:∀a',Fr a' N (news++env)→bz P c K Q k' a' w)(hc:se keys env (dstsOf c n k)=true:=by kernel_rfl)(hk:k+n=k':=by rfl):bz P c K Q k a w:=Ib n k' keys hF hp hc hk h
def bxE(_P:Program)(c:Code)(N:FN)(env:Env)(k:Nat):Option (Option Nat×TypeId×Value):=match ax c k with
 |some (d,.box t x,_,g)=>match bD c g env,gp d N,ev env x with
  |some true,true,some v=>some (d,t,v)
  |_,_,_=>none
 |_=>none
theorem ou(hM:Mem S w0 w L)(t:TypeId)(v:Value)(cs:aP)(h:∀b w',w0.heap.size≤b→Mem S w0 w' (L++[.aB b t cs])→∀a,Fr a N (dq env (bp c k) (vP (aZ b)))→bz P c K Q (k+1) a w')(oZ:v.cells=cs.toArray:=by rfl)(hk:bxE P c N env k=some (bp c k,t,v):=by kernel_rfl):∀a,Fr a N env→bz P c K Q k a w:=by
 intro a hF;unfold bxE at hk;split at hk
 ·rename_i g0;split at hk
  ·rename_i g1 g2 g3;simp only[Kr,Qaq]at hk;obtain⟨e1,rfl,rfl⟩:=hk;rw[e1]at g0 g2;exact xM g0 hF g1 g2 rfl g3 oZ hM (fun b w' hb _ P5 _ a' _ Hv=>h b w' hb P5 a' Hv)
  ·cases hk
 ·cases hk
def alE(_P:Program)(c:Code)(N:FN)(env:Env)(k:Nat):Option (Option Nat×TypeId):=match ax c k with
 |some (d,.alloc t,_,g)=>match bD c g env,gp d N with
  |some true,true=>some (d,t)
  |_,_=>none
 |_=>none
theorem na(hM:Mem S w0 w L)(t:TypeId)(cs:aP)(h:∀b w',w0.heap.size≤b→Mem S w0 w' (L++[.aB b t cs])→∀a,Fr a N (dq env (bp c k) (vP (aZ b)))→bz P c K Q (k+1) a w')(hz:(P.info? t).map (fun i=>i.zero.map (fun z=>z.cells.toList))=some (some cs):=by kernel_rfl)(hk:alE P c N env k=some (bp c k,t):=by kernel_rfl):∀a,Fr a N env→bz P c K Q k a w:=by
 intro a hF;unfold alE at hk;split at hk
 ·rename_i g0;split at hk
  ·rename_i g1 g2;simp only[Kr,Qaq]at hk;obtain⟨e1,rfl⟩:=hk;rw[e1]at g0 g2;exact xN g0 hF g1 g2 rfl hz hM (fun b w' hb _ P5 _ a' _ Hv=>h b w' hb P5 a' Hv)
  ·cases hk
 ·cases hk
def ssE(P:Program)(c:Code)(N:FN)(env:Env)(k:Nat):Option (Option Nat×Nat×Nat×Array Value×Option Nat):=match ax c k with
 |some (d,.store t x y,_,g)=>match bD c g env,gp d N,ev env x,ev env y with
  |some true,true,some (.pointer (some ⟨b,o,none⟩)),some (.agg vs)=>some (d,b,o,vs,uJ P t)
  |_,_,_,_=>none
 |_=>none
theorem ng(hM:Mem S w0 w L)(i:Nat)(vs:aP){b t0:Nat}{cs:aP}(hi:L[i]?=some (.aB b t0 cs))(h:∀w',Mem S w0 w' (L.set i (.aB b t0 vs))→∀a,Fr a N (dq env (bp c k) undef)→bz P c K Q (k+1) a w')(hv:vs.all Value.oneCell'=true:=by rfl)(ho:cs.length=vs.length:=by rfl)(hk:ssE P c N env k=some (bp c k,b,0,vs.toArray,some vs.length):=by kernel_rfl):∀a,Fr a N env→bz P c K Q k a w:=by
 intro a hF;unfold ssE at hk;split at hk
 ·rename_i g0;split at hk
  ·rename_i g1 g2 g3 g4;simp only[Kr,Qaq]at hk;obtain⟨e1,rfl,rfl,rfl,e5⟩:=hk;rw[e1]at g0 g2;exact kM g0 hF g1 g2 rfl g3 g4 e5 (QoP.1 hv) hM i hi ho (fun w' P5 _ a' _ Hv=>h w' P5 a' Hv)
  ·cases hk
 ·cases hk
end
section
variable {P : Program} {c : Code} {K : Act → World → Prop} {Q : Exit → Act → World → Prop} {N : FN} {env0 : Env} {wr : World} {a : Act}
theorem l9(sp:Nat→Spec)(hF:Fr a N env0)(r6:∀i,i<(opsOf c).size→jc P c Q N env0 wr sp i)(h:∀a' w' (vs:Nat→Value),Kp wr w'→(∀j,j<(opsOf c).size→(sp j).ok (vs j) w')→Fr a' N (pU c sp vs (List.range (opsOf c).size)++tm c env0)→K a' w')(hk:kind c= .region true:=by kernel_rfl)(hm:P.follows .mixedOrders=true:=by kernel_rfl)(hd:kN c=true:=by kernel_rfl)(kY:fZ c=true:=by kernel_rfl)(tt:pW env0=true:=by kernel_rfl)(rn:(List.range (opsOf c).size).all (fun i=>gp (bp c i) N)=true:=by kernel_rfl):W P c K Q a wr:=Qbr hk hm sp hd kY hF tt rn r6 h
theorem ED(sp:Nat→Spec)(J:(Nat→Bool)→(Nat→Value)→World→Prop)(hF:Fr a N env0)(H4:∀j v w w',(sp j).ok v w→(sp j).ok v w')(h0:J (fun _=>false) (fun _=>undef) wr.drew)(r6:∀i,i<(opsOf c).size→rD P c Q N env0 sp J i)(h:∀a' w' (ls:Nat→Bool) (vs:Nat→Value),(∀j,j<(opsOf c).size→ls j=true)→J ls vs w'→(∀j,j<(opsOf c).size→(sp j).ok (vs j) w')→Fr a' N (pU c sp vs (List.range (opsOf c).size)++tm c env0)→K a' w')(hk:kind c= .region true:=by kernel_rfl)(hm:P.follows .mixedOrders=true:=by kernel_rfl)(hd:kN c=true:=by kernel_rfl)(kY:fZ c=true:=by kernel_rfl)(tt:pW env0=true:=by kernel_rfl)(rn:(List.range (opsOf c).size).all (fun i=>gp (bp c i) N)=true:=by kernel_rfl):W P c K Q a wr:=Vy hk hm sp J hd kY hF tt rn H4 h0 r6 h
end
section
variable {P : Program} {c : Code} {K : Act → World → Prop} {Q : Exit → Act → World → Prop} {w w0 : World} {S : Nat → Prop} {L : List bx} {k : Nat} {N : FN} {env : Env} {a : Act}
theorem wz(d:Nat)(x y:Operand)(t ty:TypeId)(hF:Fr a N env){e size bytes:Nat}{z:Value}{A B:ar}{n cap m cap':Nat}{xs news:aP}(hM:Mem S w0 w L)(i:Nat)(hL:L[i]?=some (.row e size A n cap xs))(r4:(bx.rd B news).holds w)(hl:news.length=m*size)(h1:∀u∈news,u.oneCell'=true)(hb:(n+m)*bytes≤140737488355328)(HY:n+m≤maxLen)(h:∀A' c' w',Mem S w0 w' (L.set i (.row e size A' (n+m) c' (xs++news)))→Mem (bx.row e size A n cap xs).fp w w' [.row e size A' (n+m) c' (xs++news)]→∀a',a'=a.put (some d) (vS A' (n+m) c')→Fr a' N (dq env (some d) (vS A' (n+m) c'))→bz P c K Q (k+1) a' w')(hk:ax c k=some (some d,.call {callee:= .builtin .append,args:=#[x,y],argTypes:=#[t,t]},ty,none):=by kernel_rfl)(hd:gp (some d) N=true:=by kernel_rfl)(ht:P.underlying t=some (.slice e):=by kernel_rfl)(hi:(P.info? e).map (fun i=>(i.size,i.bytes,i.zero))=some (size,bytes,some z):=by kernel_rfl)(HX:Nat.beq z.cells.size size=true:=by kernel_rfl)(jB:Nat.blt 0 size=true:=by kernel_rfl)(hx:ev env x=some (vS A n cap):=by kernel_rfl)(hy:ev env y=some (vS B m cap'):=by kernel_rfl):bz P c K Q k a w:=vu hk hF rfl hd rfl ht hi HX jB hx hy hM i hL r4 hl h1 hb HY h
theorem nX(d:Nat)(t:TypeId)(len:Nat)(ps:Array (Nat×Operand))(ty:TypeId)(hF:Fr a N env){e size:Nat}{zs:aP}{vs:List (Nat×Value)}{cs:aP}(hM:Mem S w0 w L)(h:∀b w',w0.heap.size≤b→w.heap.size≤b→Mem S w0 w' (L++[.row e size (some (aZ b)) len len cs])→Mem bq w w' [.row e size (some (aZ b)) len len cs]→∀a',a'=a.put (some d) (vS (some (aZ b)) len len)→Fr a' N (dq env (some d) (vS (some (aZ b)) len len))→bz P c K Q (k+1) a' w')(hk:ax c k=some (some d,.buildSlice t len ps,ty,none):=by kernel_rfl)(hd:gp (some d) N=true:=by kernel_rfl)(ht:P.underlying t=some (.slice e):=by kernel_rfl)(hi:(P.info? e).map (fun i=>(i.size,i.zero.map (·.cells.toList)))=some (size,some zs):=by kernel_rfl)(hp:parts env ps.toList=some vs:=by kernel_rfl)(jB:(Nat.ble 1 (len*size)&&Nat.ble (len*size) 1000)=true:=by kernel_rfl)(Pz:Instr.fill (fun i=>some (i*size,size)) ((Array.range (len*size)).map (zs.toArray[· % zs.toArray.size]!)) vs=some cs.toArray:=by kernel_rfl)(hl:Nat.beq cs.length (len*size)=true:=by kernel_rfl):bz P c K Q k a w:=wy hk hF rfl hd rfl ht hi hp jB Pz hl hM h
theorem P6(d:Nat)(t:TypeId)(x y:Operand)(ty:TypeId)(hF:Fr a N env){e bytes:Nat}{z:Value}{n:Nat}{i:Int}(hb:bytes*n≤140737488355328)(hl:n≤maxLen)(hM:Mem S w0 w L)(h:∀b w',w0.heap.size≤b→w.heap.size≤b→Mem S w0 w' (L++[.row e 1 (some (aZ b)) n n (List.replicate n z)])→Mem bq w w' [.row e 1 (some (aZ b)) n n (List.replicate n z)]→∀a',a'=a.put (some d) (vS (some (aZ b)) n n)→Fr a' N (dq env (some d) (vS (some (aZ b)) n n))→bz P c K Q (k+1) a' w')(hk:ax c k=some (some d,.makeSlice t x y,ty,none):=by kernel_rfl)(hd:gp (some d) N=true:=by kernel_rfl)(hx:ev env x=some (vI i):=by kernel_rfl)(hy:ev env y=some (vI i):=by kernel_rfl)(hn:i=(n:Int):=by rfl)(ht:P.underlying t=some (.slice e):=by kernel_rfl)(hi:(P.info? e).map (fun i=>(i.size,i.bytes,i.zero))=some (1,bytes,some z):=by kernel_rfl)(hz:z.oneCell'=true:=by rfl):bz P c K Q k a w:=ly hk hF rfl hd rfl hx hy hn ht hi hz hb hl hM h
end
theorem rM{p:Nat→Prop}{n:Nat}(h:∀i,i<n→p i)(h0:p n)(h1:p (n+1)):∀i,i<n+2→p i:=la (la h h0) h1
theorem kV{p:Nat→Prop}{n:Nat}(h:∀i,i<n→p i)(h0:p n)(h1:p (n+1))(h2:p (n+2)):∀i,i<n+3→p i:=la (la (la h h0) h1) h2
theorem sv{p:Nat→Prop}{n:Nat}(h:∀i,i<n→p i)(h0:p n)(h1:p (n+1))(h2:p (n+2))(h3:p (n+3))(h4:p (n+4)):∀i,i<n+5→p i:=la (la (la (la (la h h0) h1) h2) h3) h4
theorem pF{p:Nat→Prop}{n:Nat}(h:∀i,i<n→p i)(h0:p n)(h1:p (n+1))(h2:p (n+2))(h3:p (n+3))(h4:p (n+4))(h5:p (n+5))(h6:p (n+6))(h7:p (n+7)):∀i,i<n+8→p i:=la (la (la (la (la (la (la (la h h0) h1) h2) h3) h4) h5) h6) h7
theorem dT{p:Nat→Prop}{n:Nat}(h:∀i,i<n→p i)(h0:p n)(h1:p (n+1))(h2:p (n+2))(h3:p (n+3))(h4:p (n+4))(h5:p (n+5))(h6:p (n+6))(h7:p (n+7))(h8:p (n+8))(h9:p (n+9))(xm:p (n+10))(Hy:p (n+11)):∀i,i<n+12→p i:=la (la (la (la (la (la (la (la (la (la (la (la h h0) h1) h2) h3) h4) h5) h6) h7) h8) h9) xm) Hy
section
variable{P:Program}{c:Code}{Q:Exit→Act→World→Prop}{N:FN}{env0:Env}{wr:World}{sp:Nat→Spec}{n:Nat}
theorem k1_(h:∀i,i<n→jc P c Q N env0 wr sp i)(h1:sp n= .aU undef)(h2:∀vs,kx c n (bW c n sp vs env0)=some false):∀i,i<n+1→jc P c Q N env0 wr sp i:=la h (dK h1 h2)
theorem pe(h:∀i,i<n→jc P c Q N env0 wr sp i)(a0:sp (n+0)= .aU undef:=by rfl)(b0:∀vs,kx c (n+0) (bW c (n+0) sp vs env0)=some false:=by intro _;kernel_rfl)(a1:sp (n+1)= .aU undef:=by rfl)(b1:∀vs,kx c (n+1) (bW c (n+1) sp vs env0)=some false:=by intro _;kernel_rfl):∀i,i<n+2→jc P c Q N env0 wr sp i:=la (la (h) (dK a0 b0)) (dK a1 b1)
theorem rh(h:∀i,i<n→jc P c Q N env0 wr sp i)(a0:sp (n+0)= .aU undef:=by rfl)(b0:∀vs,kx c (n+0) (bW c (n+0) sp vs env0)=some false:=by intro _;kernel_rfl)(a1:sp (n+1)= .aU undef:=by rfl)(b1:∀vs,kx c (n+1) (bW c (n+1) sp vs env0)=some false:=by intro _;kernel_rfl)(a2:sp (n+2)= .aU undef:=by rfl)(b2:∀vs,kx c (n+2) (bW c (n+2) sp vs env0)=some false:=by intro _;kernel_rfl)(a3:sp (n+3)= .aU undef:=by rfl)(b3:∀vs,kx c (n+3) (bW c (n+3) sp vs env0)=some false:=by intro _;kernel_rfl):∀i,i<n+4→jc P c Q N env0 wr sp i:=la (la (la (la (h) (dK a0 b0)) (dK a1 b1)) (dK a2 b2)) (dK a3 b3)
theorem zv(h:∀i,i<n→jc P c Q N env0 wr sp i)(a0:sp (n+0)= .aU undef:=by rfl)(b0:∀vs,kx c (n+0) (bW c (n+0) sp vs env0)=some false:=by intro _;kernel_rfl)(a1:sp (n+1)= .aU undef:=by rfl)(b1:∀vs,kx c (n+1) (bW c (n+1) sp vs env0)=some false:=by intro _;kernel_rfl)(a2:sp (n+2)= .aU undef:=by rfl)(b2:∀vs,kx c (n+2) (bW c (n+2) sp vs env0)=some false:=by intro _;kernel_rfl)(a3:sp (n+3)= .aU undef:=by rfl)(b3:∀vs,kx c (n+3) (bW c (n+3) sp vs env0)=some false:=by intro _;kernel_rfl)(a4:sp (n+4)= .aU undef:=by rfl)(b4:∀vs,kx c (n+4) (bW c (n+4) sp vs env0)=some false:=by intro _;kernel_rfl)(a5:sp (n+5)= .aU undef:=by rfl)(b5:∀vs,kx c (n+5) (bW c (n+5) sp vs env0)=some false:=by intro _;kernel_rfl)(a6:sp (n+6)= .aU undef:=by rfl)(b6:∀vs,kx c (n+6) (bW c (n+6) sp vs env0)=some false:=by intro _;kernel_rfl)(a7:sp (n+7)= .aU undef:=by rfl)(b7:∀vs,kx c (n+7) (bW c (n+7) sp vs env0)=some false:=by intro _;kernel_rfl):∀i,i<n+8→jc P c Q N env0 wr sp i:=la (la (la (la (la (la (la (la (h) (dK a0 b0)) (dK a1 b1)) (dK a2 b2)) (dK a3 b3)) (dK a4 b4)) (dK a5 b5)) (dK a6 b6)) (dK a7 b7)
theorem Yl(h:∀i,i<n→jc P c Q N env0 wr sp i)(a0:sp (n+0)= .aU undef:=by rfl)(b0:∀vs,kx c (n+0) (bW c (n+0) sp vs env0)=some false:=by intro _;kernel_rfl)(a1:sp (n+1)= .aU undef:=by rfl)(b1:∀vs,kx c (n+1) (bW c (n+1) sp vs env0)=some false:=by intro _;kernel_rfl)(a2:sp (n+2)= .aU undef:=by rfl)(b2:∀vs,kx c (n+2) (bW c (n+2) sp vs env0)=some false:=by intro _;kernel_rfl)(a3:sp (n+3)= .aU undef:=by rfl)(b3:∀vs,kx c (n+3) (bW c (n+3) sp vs env0)=some false:=by intro _;kernel_rfl)(a4:sp (n+4)= .aU undef:=by rfl)(b4:∀vs,kx c (n+4) (bW c (n+4) sp vs env0)=some false:=by intro _;kernel_rfl)(a5:sp (n+5)= .aU undef:=by rfl)(b5:∀vs,kx c (n+5) (bW c (n+5) sp vs env0)=some false:=by intro _;kernel_rfl)(a6:sp (n+6)= .aU undef:=by rfl)(b6:∀vs,kx c (n+6) (bW c (n+6) sp vs env0)=some false:=by intro _;kernel_rfl)(a7:sp (n+7)= .aU undef:=by rfl)(b7:∀vs,kx c (n+7) (bW c (n+7) sp vs env0)=some false:=by intro _;kernel_rfl)(a8:sp (n+8)= .aU undef:=by rfl)(b8:∀vs,kx c (n+8) (bW c (n+8) sp vs env0)=some false:=by intro _;kernel_rfl)(a9:sp (n+9)= .aU undef:=by rfl)(b9:∀vs,kx c (n+9) (bW c (n+9) sp vs env0)=some false:=by intro _;kernel_rfl)(a10:sp (n+10)= .aU undef:=by rfl)(ff:∀vs,kx c (n+10) (bW c (n+10) sp vs env0)=some false:=by intro _;kernel_rfl)(a11:sp (n+11)= .aU undef:=by rfl)(jz:∀vs,kx c (n+11) (bW c (n+11) sp vs env0)=some false:=by intro _;kernel_rfl)(a12:sp (n+12)= .aU undef:=by rfl)(KM:∀vs,kx c (n+12) (bW c (n+12) sp vs env0)=some false:=by intro _;kernel_rfl)(a13:sp (n+13)= .aU undef:=by rfl)(b13:∀vs,kx c (n+13) (bW c (n+13) sp vs env0)=some false:=by intro _;kernel_rfl)(a14:sp (n+14)= .aU undef:=by rfl)(b14:∀vs,kx c (n+14) (bW c (n+14) sp vs env0)=some false:=by intro _;kernel_rfl)(a15:sp (n+15)= .aU undef:=by rfl)(jx:∀vs,kx c (n+15) (bW c (n+15) sp vs env0)=some false:=by intro _;kernel_rfl):∀i,i<n+16→jc P c Q N env0 wr sp i:=la (la (la (la (la (la (la (la (la (la (la (la (la (la (la (la (h) (dK a0 b0)) (dK a1 b1)) (dK a2 b2)) (dK a3 b3)) (dK a4 b4)) (dK a5 b5)) (dK a6 b6)) (dK a7 b7)) (dK a8 b8)) (dK a9 b9)) (dK a10 ff)) (dK a11 jz)) (dK a12 KM)) (dK a13 b13)) (dK a14 b14)) (dK a15 jx)
end
theorem bd{S:Nat→Prop}{w0 w:World}(L:List bx)(h:Mem S w0 w L):Mem S w0 w L:=h
theorem aR{c:Code}{ls:Nat→Bool}{i:Nat}(j n:Nat)(hc:og c ls)(hi:ls i=false)(h:reach c n j i=true:=by kernel_rfl):ls j=false:=PI hc hi h
theorem Qk4{c:Code}{ls:Nat→Bool}{i:Nat}(j n:Nat)(hc:og c ls)(hp:∀k,k∈cY c i→ls k=true)(h:reach c n i j=true:=by kernel_rfl):ls j=true:=r9 hc hp h
theorem cN{c:Code}{ls:Nat→Bool}{i:Nat}{R:Nat→Prop}(j n:Nat)(hc:og c ls)(hp:∀k,k∈cY c i→ls k=true∧R k)(h:reach c n i j=true:=by kernel_rfl):ls j=true:=r9 hc (fun k hk=>(hp k hk).1) h
section
variable{P:Program}{c:Code}{Q:Exit→Act→World→Prop}{N:FN}{env0:Env}{sp:Nat→Spec}{J:(Nat→Bool)→(Nat→Value)→World→Prop}{i:Nat}
theorem bM(hJ:∀ls vs v w,J ls vs w→J (mO ls i) (r8 vs i v) w:=by intro _ _ _ _ h;exact h)(h:∀vs,Ul P c N i (bW c i sp vs env0)=Z2 (sp i):=by intro _;kernel_rfl)(h2:Tg (Z2 (sp i))=true:=by kernel_rfl):rD P c Q N env0 sp J i:=dPJ hJ h h2
end
theorem da(ks:List Nat){N:FN}{env:Env}{G:Act→Prop}(h:∀a,Fr a N (mh ks env)→G a):∀a,Fr a N env→G a:=fun a hF=>h a (hF.keep rfl)
section
variable{P:Program}{c:Code}{K:Act→World→Prop}{Q:Exit→Act→World→Prop}{w:World}{N:FN}{env:Env}{k:Nat}
theorem zl_{ad:Addr}{v:Value}(hc:w.cell? ad=some v)(h:∀a,Fr a N (dq env (bp c k) v)→bz P c K Q (k+1) a w)(hk:VV P c N env k=some (bp c k,ad):=by kernel_rfl):∀a,Fr a N env→bz P c K Q k a w:=bt ad v hc h hk
end
section
variable{P:Program}{c:Code}{Q:Exit→Act→World→Prop}{N:FN}{i:Nat}{env0:Env}{wr:World}{sp:Nat→Spec}
theorem dl_{ad:Addr}{v:Value}(hc:∀w',Kp wr w'→w'.cell? ad=some v)(hv:sp i= .aU v:=by rfl)(hg:∀vs,kx c i (bW c i sp vs env0)=some true:=by intro _;kernel_rfl)
    (hk:∀vs,VV P (one c i) N (bW c i sp vs env0) 0=some (bp c i,ad):=by intro _;kernel_rfl)(he:ax (one c i) 1=none:=by kernel_rfl):jc P c Q N env0 wr sp i:=dL ad v hc hv hg hk he
end
end Go.Mor
namespace Go.Mor
open Go.RowKit
theorem P7{P:Program}{c:Code}{K:Act→World→Prop}{Q:Exit→Act→World→Prop}{a:Act}{w:World}{k k':Nat}{N:FN}{env:Env}{d:Option Nat}{ty:Nat}{g:Option (Nat×Bool)}{ts:Array TypeId}{x y:Operand}(hk:ax c k=some (d,.call {callee:= .builtin .max,args:=#[x,y],argTypes:=ts},ty,g))(hF:Fr a N env)(hg:bD c g env=some true)(hd:gp d N=true)(iO:k+1=k'){kd:IntKind}{i j:Int}(hx:ev env x=some (.int kd i))(hy:ev env y=some (.int kd j))(z:Int)(hz:z=if i<j then j else i)(h:∀a',a'=a.put d (.int kd z)→Fr a' N (dq env d (.int kd z))→bz P c K Q k' a' w):bz P c K Q k a w:=by
 refine eC hk hF hg hd iO (fun o ho=> ?_) h;unfold execOp;rw[ho];simp only[resolve,invoke,builtin,Qor,Qo4,QnS,Qp5,QoK,Qps,hF.ev hx,hF.ev hy,Builtin.max_,List.foldlM];subst hz;simp[Builtin.max2];try (split<;>simp_all<;>omega)
section
variable {P : Program} {c : Code} {Q : Exit → Act → World → Prop} {N : FN} {env0 : Env} {wr : World} {sp : Nat → Spec} {i : Nat}
theorem dMN(kd:IntKind)(i1 j1 z:Int)(x y:Operand)(ts:Array TypeId)(ty:Nat)(g:Option (Nat×Bool))(hz:z=if j1<i1 then j1 else i1)(hv:sp i= .aU (.int kd z):=by rfl)(h0:ax (one c i) 0=some (bp c i,.call {callee:= .builtin .min,args:=#[x,y],argTypes:=ts},ty,g):=by kernel_rfl)(hg:∀vs,kx c i (bW c i sp vs env0)=some true:=by intro _;kernel_rfl)(h1:∀vs,bD (one c i) g (bW c i sp vs env0)=some true:=by intro _;kernel_rfl)(h2:gp (bp c i) N=true:=by kernel_rfl)(hx:∀vs,ev (bW c i sp vs env0) x=some (.int kd i1):=by intro _;kernel_rfl)(hy:∀vs,ev (bW c i sp vs env0) y=some (.int kd j1):=by intro _;kernel_rfl)(he:ax (one c i) 1=none:=by kernel_rfl):jc P c Q N env0 wr sp i:=by
 refine rG hg (fun w vs hK hp a hF=> ?_);exact x6 h0 hF (h1 vs) h2 rfl (hx vs) (hy vs) z hz (fun a' ea _=>aL he ⟨_,ea,Kp.refl w,by rw[hv];rfl⟩)
end
end Go.Mor
namespace Go.Mor
open Go.RowKit
def Qao(Φ Ψ:Value→World→Prop):Ending→World→Prop
 | .returned v,w=>Φ v w
 | .panicked ch,w=>∃v,ch=[{v,recovered:=false}]∧Ψ v w
 | .outgrown,_=>False
theorem Qao.QmV{P:Program}{f:FuncId}{vs:Array Value}{w:World}{Φ Ψ:Value→World→Prop}(h:Calls P f vs w (ez Φ)):Calls P f vs w (Qao Φ Ψ):=h.mono (by rintro e w' ⟨v,rfl,hv⟩;exact hv)
abbrev pan(v:Value):Exit:= .panic [{v,recovered:=false}]
def Qlv(P:Program)(c:Code)(N:FN)(env:Env)(k:Nat):Option (Option Nat×FuncId×aP):=match ax c k with
 |some (d,.call cc,_,g)=>match cc.callee,bD c g env,gp d N,Vt env cc.args.toList with
  | .value x,some true,true,some vs=>match ev env x with
   |some (.func (.func f) first cap)=>match xP P f with
    |true=>some (d,f,first.toList++(vs++cap.toList))
    |false=>none
   |_=>none
  |_,_,_,_=>none
 |_=>none
def Qmh(c:Code)(N:FN)(env:Env)(k:Nat):Option (Option Nat×FuncId×aP):=match ax c k with
 |some (d,.call cc,_,g)=>match cc.callee,bD c g env,gp d N,Vt env cc.args.toList with
  | .value x,some true,true,some vs=>match ev env x with
   |some (.func (.func f) first cap)=>some (d,f,first.toList++(vs++cap.toList))
   |_=>none
  |_,_,_,_=>none
 |_=>none
theorem Qlw{P:Program}{c:Code}{N:FN}{env:Env}{k:Nat}{d:Option Nat}{f:FuncId}{vs:aP}(h:Qlv P c N env k=some (d,f,vs)):Qmh c N env k=some (d,f,vs)∧xP P f=true:=by
 unfold Qlv at h;unfold Qmh;split at h
 ·rename_i d0 cc ty g PD;split at h
  ·rename_i x vs0 Qmi hg hd PA;split at h
   ·rename_i f0 first cap hx
    split at h
    ·rename_i hf;simp only[Kr,Qaq]at h;obtain⟨rfl,rfl,rfl⟩:=h;simp only[PD,Qmi,hg,hd,PA,hx];exact⟨trivial,hf⟩
    ·cases h
   ·cases h
  ·cases h
 ·cases h
section
variable {P : Program} {c : Code} {K : Act → World → Prop} {Q : Exit → Act → World → Prop} {w w0 : World} {S : Nat → Prop} {L : List bx} {k : Nat} {N : FN} {env : Env}
theorem Qlb{a:Act}(d:Option Nat)(f:FuncId)(vs:aP)(hF:Fr a N env)(hf:xP P f=true)(hk:Qmh c N env k=some (d,f,vs)){Φ Ψ:Value→World→Prop}(hc:Calls P f vs.toArray w (Qao Φ Ψ))(h:∀v w',Φ v w'→∀a',a'=a.put d v→Fr a' N (dq env d v)→bz P c K Q (k+1) a' w')(hp:∀v w',Ψ v w'→Q (pan v) a w'):bz P c K Q k a w:=by
 unfold Qmh at hk;split at hk
 ·rename_i d0 cc ty g PD;split at hk
  ·rename_i x vs0 Qmi hg hd PA;split at hk
   ·rename_i f0 first cap hx
    ·simp only[Kr,Qaq]at hk;obtain⟨rfl,rfl,rfl⟩:=hk;refine CW PD hF hg fun o h1 h2 h3 K' Vr=> ?_
     unfold Oper.wp;have hr:(execOp a.eval o).run P w= .ok (.enter f0 (first.toList++(vs0++cap.toList)).toArray) w:=by
      unfold execOp;rw[h2];have e1:=xf hF PA;have e2:cc.args.map a.eval=vs0.toArray:=by apply Qpe;simpa using e1
      have e3:(first.toList++(vs0++cap.toList)).toArray=first++vs0.toArray++cap:=by apply Qpe;simp
      rw[e3];obtain⟨callee,args,ats⟩:=cc;simp only at Qmi PA e2;subst Qmi;simp[resolve,hF.ev hx,e2,Deferred.ofValue,invoke,CY hf]
     rw[hr,Oper.upon_enter];refine hc.mono ?_;intro e w' he;cases e with
     |returned v=>rw[h1];exact Vr _ _ (h v w' he _ rfl (hF.put hd v))
     |panicked ch=>obtain⟨v,rfl,hv⟩:=he;exact hp v w' hv
     |outgrown=>exact he.elim
   ·cases hk
  ·cases hk
 ·cases hk
theorem Qlx{a:Act}(d:Option Nat)(f:FuncId)(vs:aP)(hF:Fr a N env)(hk:Qlv P c N env k=some (d,f,vs)){Φ Ψ:Value→World→Prop}(hc:Calls P f vs.toArray w (Qao Φ Ψ))(h:∀v w',Φ v w'→∀a',a'=a.put d v→Fr a' N (dq env d v)→bz P c K Q (k+1) a' w')(hp:∀v w',Ψ v w'→Q (pan v) a w'):bz P c K Q k a w:=Qlb d f vs hF (Qlw hk).2 (Qlw hk).1 hc h hp
theorem zce{f:FuncId}{vs:aP}{Φ Ψ:Value→World→Prop}(hc:Calls P f vs.toArray w (Qao Φ Ψ))(hp:∀v w',Ψ v w'→∀a,Fr a N env→Q (pan v) a w')(h:∀v w',Φ v w'→∀a,Fr a N (dq env (bp c k) v)→bz P c K Q (k+1) a w')(hk:Qlv P c N env k=some (bp c k,f,vs):=by kernel_rfl):∀a,Fr a N env→bz P c K Q k a w:=fun a hF=>Qlx _ f vs hF hk hc (fun v w' hv a' _=>h v w' hv a') (fun v w' hv=>hp v w' hv a hF)
end
end Go.Mor
