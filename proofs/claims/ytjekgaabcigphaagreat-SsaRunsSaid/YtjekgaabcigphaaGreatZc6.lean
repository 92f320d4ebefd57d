/-
  Texts of the proof, part 6.
-/
import Derived.Test.YtjekgaabcigphaaGreatZc5
import Derived.Test.YtjekgaabcigphaaGreatChecked
set_option maxRecDepth 10000
namespace Go.Proofs.YtjekgaabcigphaaGreat
open Go.Mor Go.ChangeShapes Go.WideShapes Go.ChangeAt Go.RowKit Go.Deep
theorem Tryz.own:ownKnob Tryz.prog.godebug=none:=kR
theorem Tryz.laidOut:laidOutB Tryz.prog=true:=kR
theorem Z6{α:Type}{cs:List α}(h:cs.length=2):∃c0 c1,cs=[c0,c1]:=by
 match cs,h with
 |[c0,c1],_=>exact⟨c0,c1,rfl⟩
theorem Z7{α:Type}{cs:List α}(h:cs.length=5):∃c0 c1 c2 c3 c4,cs=[c0,c1,c2,c3,c4]:=by
 match cs,h with
 |[c0,c1,c2,c3,c4],_=>exact⟨c0,c1,c2,c3,c4,rfl⟩
theorem QeF{α:Type}{cs:List α}(h:cs.length=6):∃c0 c1 c2 c3 c4 c5,cs=[c0,c1,c2,c3,c4,c5]:=by
 match cs,h with
 |[c0,c1,c2,c3,c4,c5],_=>exact⟨c0,c1,c2,c3,c4,c5,rfl⟩
def gx{H:Type}(t:TypeId)(d:DataW H):Prop:=∀n,n∈d.weights Tryz.prog t→n≤reachBytes
theorem Qw{a k:Nat}(hk:0<k)(h:a*k≤reachBytes):dh a:=by
 have h1:a*1≤a*k:=Nat.mul_le_mul_left a hk;have h2:=reachBytes_lt;unfold dh;omega
theorem FR{H:Type}{e:TypeId}{l:List (DataW H)}{d:DataW H}(h:d∈l):∀n,n∈d.weights Tryz.prog e→n∈DataW.weightsAll Tryz.prog e l:=by
 induction l with
 |nil=>cases h
 |cons x l ih=>
  intro n hn;unfold DataW.weightsAll;rcases db.1 h with rfl|h
  ·exact dG _ hn
  ·exact iR _ (ih h n hn)
section
variable {H : Type} {enc : TypeId × Value → H} {w : World} {base : Nat} {spare : Nat → Bool} {held : Bool}
theorem lB{t:TypeId}(ht:Tryz.prog.underlying t=some (.int .i64)){fuel:Nat}{v:Value}{x:DataW H×List MemPlace}(h:DataW.trod enc Tryz.prog w base spare held fuel t [v]=some x):∃n,v=vI n∧In64 n:=by
 obtain⟨n,rfl,h1,h2⟩:=Qj ht h;exact⟨n,rfl,h1,h2⟩
theorem y6{t:TypeId}(ht:Tryz.prog.underlying t=some .string){fuel:Nat}{v:Value}{x:DataW H×List MemPlace}(h:DataW.trod enc Tryz.prog w base spare held fuel t [v]=some x)(hz:gx t x.1):∃s,v=vT s∧dh s.size:=by
 obtain⟨s,h1,h3,_⟩:=DataW.trod_string ht h;simp at h1;subst h3;refine⟨s,h1,Qw (k:=1) Nat.one_pos ?_⟩;have:=hz s.data.toList.length (by simp[DataW.weights]);rw[eE];simpa using this
theorem IH{t:TypeId}{fs:Array Field}(hs:Tryz.prog.underlying t=some (.struct fs))(QbA:oneCellFields Tryz.prog fs=true)(hC:Tryz.prog.cellsOf t=fs.size){fuel:Nat}{cs:aO}{x:DataW H×List MemPlace}(h:DataW.trod enc Tryz.prog w base spare held fuel t cs=some x)(hz:gx t x.1):cs.length=fs.size∧∃n:Nat,∀(i:Nat) (f:Field),fs[i]?=some f→∃(v:Value) (y:DataW H×List MemPlace),cs[i]?=some v∧DataW.trod enc Tryz.prog w base spare held n f.type [v]=some y∧gx f.type y.1:=by
 obtain⟨xs,n,_,hxe,hlen,hxs,hf⟩:=DataW.trod_struct hs h;rw[hC]at hlen;refine⟨hlen,n,fun i f hi=> ?_⟩;have fM:i<fs.size:=(Array.getElem?_eq_some_iff.1 hi).1;obtain⟨ho,FT⟩:=hone_of QbA i f hi;have h1:=hf i f hi;rw[ho,FT,take1_drop cs i undef oM]at h1;rw[List.getElem?_eq_getElem (oM:i<xs.length)]at h1;refine⟨cs[i]'oM,xs[i]'oM,List.getElem?_eq_getElem oM,?_,fun m hm=>hz m ?_⟩
 ·rw[←h1];simp[List.getD,List.getElem?_eq_getElem (oM:i<cs.length)]
 ·subst hxe;simp only[DataW.weights,hs];exact sU (j:=i) (by rw[List.getElem?_map];simp[hi]) (by rw[List.getElem?_map,List.getElem?_eq_getElem oM];rfl) m hm
theorem m6{t e:TypeId}{k:Nat}(ht:Tryz.prog.underlying t=some (.slice e))(hb:Tryz.prog.bytesOf e=k)(hk:0<k){fuel:Nat}{v:Value}{x:DataW H×List MemPlace}(h:DataW.trod enc Tryz.prog w base spare held fuel t [v]=some x)(hz:gx t x.1):∃A len cap,v=vS A len cap∧dh len∧∀i,i<len→∃(ad:Addr) (cs:aO) (n:Nat) (y:DataW H×List MemPlace),A=some ad∧cs.length=Tryz.prog.cellsOf e∧(∀(j:Nat) (v:Value),cs[j]?=some v→w.cell? ((ad.add (i*Tryz.prog.cellsOf e)).add j)=some v)∧DataW.trod enc Tryz.prog w base spare held n e cs=some y∧gx e y.1:=by
 rcases DataW.trod_slice ht h with⟨jW,_⟩|⟨a,len,cap,elems,rest,n,_,jW,hxe,_,_,_,hel,hx,_⟩
 ·simp at jW;subst jW;exact⟨none,0,0,rfl,by simp[dh],fun i hi=>absurd hi (ee _)⟩
 ·simp at jW;subst jW;subst hxe;have hw:∀m,m∈(elems.map (·.1)).length*0::DataW.weightsAll Tryz.prog e (elems.map (·.1))→m≤reachBytes:=by
   intro m hm;rcases db.1 hm with rfl|hm
   ·omega
   ·refine hz m ?_;simp only[DataW.weights,ht];exact bT _ (dG _ hm)
  refine⟨some a,len,cap,rfl,?_,fun i hi=> ?_⟩
  ·have h1:=hz (((elems.map (·.1)).length+(rest.map (·.1)).length)*Tryz.prog.bytesOf e) (by simp only[DataW.weights,ht];exact cJ);rw[hb,fi,fi,hel]at h1;exact Qw hk (iv (Nat.mul_le_mul_right k (Nat.le_add_right _ _)) h1)
  ·have h1:=hx i hi;rw[List.getElem?_eq_getElem (oM:i<elems.length)]at h1;cases hc:w.cells? base (a.add (i*Tryz.prog.cellsOf e)) (Tryz.prog.cellsOf e)with
   |none=>rw[hc]at h1;cases h1
   |some cs=>
    rw[hc]at h1;obtain⟨_,hlen,pX⟩:=World.cells?_some hc;refine⟨a,cs,n,elems[i]'oM,rfl,hlen,fun j v hj=> ?_,h1,fun m hm=>hw m (bT _ (FR (d:=(elems[i]'oM).1) ?_ m hm))⟩
    ·rw[pX j (by have:=(List.getElem?_eq_some_iff.1 hj).1;omega)];exact hj
    ·exact bD.2 ⟨elems[i]'oM,qH _,rfl⟩
theorem iL{t e:TypeId}{k:Nat}{fs:Array Field}(ht:Tryz.prog.underlying t=some (.slice e))(hs:Tryz.prog.underlying e=some (.struct fs))(QbA:oneCellFields Tryz.prog fs=true)(hC:Tryz.prog.cellsOf e=fs.size)(hb:Tryz.prog.bytesOf e=k)(hk:0<k){fuel:Nat}{v:Value}{x:DataW H×List MemPlace}(h:DataW.trod enc Tryz.prog w base spare held fuel t [v]=some x)(hz:gx t x.1):∃A len cap,v=vS A len cap∧dh len∧∀i,i<len→∃(ad:Addr) (cs:aO),A=some ad∧cs.length=fs.size∧(∀(j:Nat) (v:Value),cs[j]?=some v→w.cell? ((ad.add (i*fs.size)).add j)=some v)∧∃n:Nat,∀(j:Nat) (f:Field),fs[j]?=some f→∃(v:Value) (y:DataW H×List MemPlace),cs[j]?=some v∧DataW.trod enc Tryz.prog w base spare held n f.type [v]=some y∧gx f.type y.1:=by
 obtain⟨A,len,cap,rfl,hl,hx⟩:=m6 ht hb hk h hz;refine⟨A,len,cap,rfl,hl,fun i hi=> ?_⟩;obtain⟨ad,cs,n,y,hA,hlen,hc,Qx,hy⟩:=hx i hi;rw[hC]at hlen hc;exact⟨ad,cs,hA,hlen,hc,(IH hs QbA hC Qx hy).2⟩
theorem Cd{fuel:Nat}{v:Value}{x:DataW H×List MemPlace}(h:DataW.trod enc Tryz.prog w base spare held fuel 40 [v]=some x)(hz:gx 40 x.1):∃A l c,v=vS A (List.length l) c∧dh l.length∧(∀x,x∈l→In64 x)∧(bx.rd A (ints l)).holds w:=by
 obtain⟨A,len,cap,rfl,hl,hx⟩:=m6 (k:=8) Tryz.underlying40 kR oM h hz;have c3:Tryz.prog.cellsOf 3=1:=kR;have:∀i,i<len→∃k:Int,In64 k∧∃ad,A=some ad∧w.cell? (ad.add i)=some (vI k):=by
  intro i hi;obtain⟨ad,cs,n,y,hA,hlen,hc,Qx,_⟩:=hx i hi;rw[c3]at hlen hc;match cs,hlen with
  |[c0],_=>
   obtain⟨k,rfl,hk⟩:=lB Tryz.underlying3 Qx;refine⟨k,hk,ad,hA,?_⟩;have h0:=hc 0 _ rfl;rw[eE]at h0;simpa[Addr.add]using h0
 obtain⟨l,rfl,hp⟩:=lN this;refine⟨A,l,cap,rfl,hl,fun k hk=> ?_,fun i v hi=> ?_⟩
 ·obtain⟨i,hi⟩:=dv.1 hk;exact(hp i k hi).1
 ·simp only[ints,List.getElem?_map,jy]at hi;obtain⟨k,hk,rfl⟩:=hi;exact(hp i k hk).2
theorem MC{fuel:Nat}{v:Value}{x:DataW H×List MemPlace}(h:DataW.trod enc Tryz.prog w base spare held fuel 44 [v]=some x)(hz:gx 44 x.1):∃A l c,v=vS A (List.length l) c∧dh l.length∧(∀p:gv,p∈l→p.Ok∧(bx.rd p.A (ints p.args)).holds w)∧(bx.jY A 2 (l.map gv.cells)).holds w:=by
 obtain⟨A,len,cap,rfl,hl,hx⟩:=iL (k:=32) Tryz.underlying44 Tryz.underlying140 kR kR kR oM h hz;have:∀i,i<len→∃b:gv,(b.Ok∧(bx.rd b.A (ints b.args)).holds w)∧∃ad:Addr,A=some ad∧∀(j:Nat) (v:Value),b.cells[j]?=some v→w.cell? ((ad.add (i*2)).add j)=some v:=by intro i hi;obtain⟨ad,cs,hA,Qy,hc,n,hf⟩:=hx i hi;obtain⟨c0,c1,rfl⟩:=Z6 Qy;obtain⟨_,_,e,g0,zg0⟩:=hf 0 _ rfl;cases e;obtain⟨d,rfl,hd⟩:=lB Tryz.underlying3 g0;obtain⟨_,_,e,g1,Z8⟩:=hf 1 _ rfl;cases e;obtain⟨Aa,gs,ca,rfl,h1,h2,h3⟩:=Cd g1 Z8;exact⟨⟨d,Aa,ca,gs⟩,⟨⟨hd,h1,h2⟩,h3⟩,ad,hA,hc⟩
 obtain⟨l,rfl,hp⟩:=lN this;refine⟨A,l,cap,rfl,hl,fun p lX=> ?_,fun i cs hi=> ?_⟩
 ·obtain⟨i,hi⟩:=dv.1 lX;exact(hp i p hi).1
 ·rw[List.getElem?_map]at hi;obtain⟨b,hb,rfl⟩:=jy.1 hi;exact(hp i b hb).2
theorem II{fuel:Nat}{v:Value}{x:DataW H×List MemPlace}(h:DataW.trod enc Tryz.prog w base spare held fuel 43 [v]=some x)(hz:gx 43 x.1):∃A l c,v=vS A (List.length l) c∧dh l.length∧(∀p:cH,p∈l→p.Ok∧(bx.rd p.A (ints p.args)).holds w)∧(bx.jY A 5 (l.map cH.cells)).holds w:=by
 obtain⟨A,len,cap,rfl,hl,hx⟩:=iL (k:=64) Tryz.underlying43 Tryz.underlying42 kR kR kR oM h hz;have:∀i,i<len→∃b:cH,(b.Ok∧(bx.rd b.A (ints b.args)).holds w)∧∃ad:Addr,A=some ad∧∀(j:Nat) (v:Value),b.cells[j]?=some v→w.cell? ((ad.add (i*5)).add j)=some v:=by intro i hi;obtain⟨ad,cs,hA,Qy,hc,n,hf⟩:=hx i hi;obtain⟨c0,c1,c2,c3,c4,rfl⟩:=Z7 Qy;obtain⟨_,_,e,g0,zg0⟩:=hf 0 _ rfl;cases e;obtain⟨o,rfl,ho⟩:=lB Tryz.underlying3 g0;obtain⟨_,_,e,g1,Z8⟩:=hf 1 _ rfl;cases e;obtain⟨d,rfl,hd⟩:=lB Tryz.underlying3 g1;obtain⟨_,_,e,g2,zg2⟩:=hf 2 _ rfl;cases e;obtain⟨m,rfl,KK⟩:=lB Tryz.underlying2 g2;obtain⟨_,_,e,g3,zg3⟩:=hf 3 _ rfl;cases e;obtain⟨s,rfl,hs⟩:=y6 Tryz.underlying9 g3 zg3;obtain⟨_,_,e,g4,zg4⟩:=hf 4 _ rfl;cases e;obtain⟨Aa,gs,ca,rfl,h1,h2,h3⟩:=Cd g4 zg4;exact⟨⟨o,d,m,s,Aa,ca,gs⟩,⟨⟨ho,hd,KK,hs,h1,h2⟩,h3⟩,ad,hA,hc⟩
 obtain⟨l,rfl,hp⟩:=lN this;refine⟨A,l,cap,rfl,hl,fun p lX=> ?_,fun i cs hi=> ?_⟩
 ·obtain⟨i,hi⟩:=dv.1 lX;exact(hp i p hi).1
 ·rw[List.getElem?_map]at hi;obtain⟨b,hb,rfl⟩:=jy.1 hi;exact(hp i b hb).2
theorem IJ{fuel:Nat}{v:Value}{x:DataW H×List MemPlace}(h:DataW.trod enc Tryz.prog w base spare held fuel 33 [v]=some x)(hz:gx 33 x.1):∃A fs c,v=vS A (aq fs).length c∧xX fs∧(bx.fn A fs).holds w:=by
 obtain⟨A,len,cap,rfl,_,hx⟩:=iL (k:=80) Tryz.underlying33 Tryz.underlying46 kR kR kR oM h hz;have:∀i,i<len→∃b:bF,(b.Ok∧∀r,r∈b.parts→r.holds w)∧∃ad:Addr,A=some ad∧∀(j:Nat) (v:Value),b.sb.cells[j]?=some v→w.cell? ((ad.add (i*6)).add j)=some v:=by
  intro i hi;obtain⟨ad,cs,hA,Qy,hc,n,hf⟩:=hx i hi;obtain⟨c0,c1,c2,c3,c4,c5,rfl⟩:=QeF Qy;obtain⟨_,_,e,g0,zg0⟩:=hf 0 _ rfl;cases e;obtain⟨pA,ps,pc,rfl,hp1,hp2,nF⟩:=MC g0 zg0;obtain⟨_,_,e,g1,Z8⟩:=hf 1 _ rfl;cases e;obtain⟨iA,js,ic,rfl,hi1,hi2,hi3⟩:=II g1 Z8;obtain⟨_,_,e,g2,zg2⟩:=hf 2 _ rfl;cases e;obtain⟨x2,rfl,h2⟩:=lB Tryz.underlying3 g2;obtain⟨_,_,e,g3,zg3⟩:=hf 3 _ rfl;cases e;obtain⟨x3,rfl,h3⟩:=lB Tryz.underlying3 g3;obtain⟨_,_,e,g4,zg4⟩:=hf 4 _ rfl;cases e;obtain⟨x4,rfl,h4⟩:=lB Tryz.underlying3 g4;obtain⟨_,_,e,g5,zg5⟩:=hf 5 _ rfl;cases e;obtain⟨x5,rfl,h5⟩:=lB Tryz.underlying3 g5;refine⟨⟨pA,pc,ps,iA,ic,js,x2,x3,x4,x5⟩,⟨⟨hp1,fun p hp=>(hp2 p hp).1,hi1,fun p hp=>(hi2 p hp).1,h2,h3,h4,h5⟩,fun r hr=> ?_⟩,ad,hA,hc⟩;unfold bF.parts at hr;rcases db.1 hr with rfl|hr
  ·exact nF
  ·rcases db.1 hr with rfl|hr
   ·exact hi3
   ·rcases bX.1 hr with hr|hr
    ·obtain⟨p,hp,rfl⟩:=bD.1 hr;exact(hp2 p hp).2
    ·obtain⟨p,hp,rfl⟩:=bD.1 hr;exact(hi2 p hp).2
 obtain⟨fs,rfl,FU⟩:=lN this;refine⟨A,fs,cap,by rw[dd],fun x hx=> ?_,fun r hr=> ?_⟩
 ·obtain⟨i,hi⟩:=dv.1 hx;exact(FU i x hi).1.1
 ·rcases db.1 hr with rfl|hr
  ·intro i cs hi;unfold aq at hi;rw[List.getElem?_map,List.getElem?_map]at hi;obtain⟨b,hb,rfl⟩:=jy.1 hi;obtain⟨y,hy,rfl⟩:=jy.1 hb;exact(FU i y hy).2
  ·obtain⟨y,hy,hr⟩:=jl.1 hr;obtain⟨i,hi⟩:=dv.1 hy;exact(FU i y hi).1.2 r hr
end
end Go.Proofs.YtjekgaabcigphaaGreat
namespace Go.Mor
def mr(fs:List bF)(k:Nat):Nat:=((fs.take k).map (fun x=>x.aK.length+x.insts.length)).sum
def gI(fs:List bF):Nat:=fs.length+mr fs fs.length
theorem qM(fs:List bF):mr fs 0=0:=by simp[mr]
theorem lY{fs:List bF}{k:Nat}{x:bF}(h:fs[k]?=some x):mr fs (k+1)=mr fs k+(x.aK.length+x.insts.length):=by
 obtain⟨hk,he⟩:=List.getElem?_eq_some_iff.1 h;unfold mr;rw[fO hk,he];simp
theorem vl{fs:List bF}(h:xX fs)(k:Nat)(hk:k≤fs.length):mr fs k≤k*562949953421312:=by
 induction k with
 |zero=>simp[qM]
 |succ k ih=>
  obtain⟨x,hx⟩:=aY (l:=fs) (i:=k) oM;have h1:x.aK.length≤281474976710656:=(h.get hx).lp;have h2:x.insts.length≤281474976710656:=(h.get hx).li;rw[lY hx];have:=ih oM;omega
def fT(fs:List bF)(k:Nat):Nat:=((fs.take k).map (fun x=>min x.aK.length 5000+min x.insts.length 5000)).sum
theorem DJ(fs:List bF):fT fs 0=0:=by simp[fT]
theorem tP{fs:List bF}{k:Nat}{x:bF}(h:fs[k]?=some x):fT fs (k+1)=fT fs k+(min x.aK.length 5000+min x.insts.length 5000):=by
 obtain⟨hk,he⟩:=List.getElem?_eq_some_iff.1 h;unfold fT;rw[fO hk,he];simp
theorem IK(fs:List bF)(k:Nat)(hk:k≤fs.length):fT fs k≤k*10000:=by
 induction k with
 |zero=>simp[DJ]
 |succ k ih=>
  obtain⟨x,hx⟩:=aY (l:=fs) (i:=k) oM;rw[tP hx];have:=ih oM;omega
def m7(va:Int)(fs:List bF):Prop:=((60<fs.length∨3000<va)∧(va≤20000∨60<fs.length))∨(¬(60<fs.length∨3000<va)∧3000<fT fs fs.length)
instance (va : Int) (fs : List bF) : Decidable (m7 va fs) := by unfold m7; infer_instance
theorem IL{va:Int}{fs:List bF}(h:¬m7 va fs):fs.length≤60:=by
 unfold m7 at h;omega
theorem MD{P:Program}{t:TypeId}(i j:Int)(w:World):(binOp .sub t (vI i) (vI j)).run P w= .ok (vI (IntKind.i64.wrap (i-j))) w:=by simp[binOp,Op.intArith]
def dg(b:Bool):Int:=cond b 1 0
theorem bf{b:Bool}{P R:Prop}[Decidable R](h:b=true↔P)(e:P↔R):Value.bool b=Value.bool (decide R):=by
 congr 1;rw[Bool.eq_iff_iff,aE];exact h.trans e
theorem jz(s:aM):((s.toList==(⟨#[]⟩:aM).toList)=true)=(s.size=0):=by
 rw[ax,xY,xY];apply propext;constructor
 ·intro h;have h1:=bE List.length h;have e:s.data.toList.length=s.size:=Array.length_toList;rw[e]at h1;exact h1
 ·intro h;have h2:s.data=#[]:=DI h;rw[h2]
def br(s:aM):Prop:=1≤s.size∧s.size≤60
instance (s : ByteArray) : Decidable (br s) := by unfold br; infer_instance
def aR(op:Int):Prop:=op≠3∧op≠10∧op≠11
instance (op : Int) : Decidable (aR op) := by unfold aR; infer_instance
def dY(n:Int):Prop:=1≤n∧n≤999
instance (n : Int) : Decidable (dY n) := by unfold dY; infer_instance
def dH(n:Int):Prop:=0≤n∧n≤2147483647
instance (n : Int) : Decidable (dH n) := by unfold dH; infer_instance
def jm(N:Int)(x:bF):Prop:=(x.e=0∧(0≤x.a∧x.a<N)∧x.v=0∧x.b=0)∨(x.e=1∧(0≤x.a∧x.a<N)∧(0≤x.b∧x.b<N)∧x.a≠x.b)∨(x.e=2∧x.a=0∧x.b=0)∨(x.e=3∧dY x.a∧x.v=0∧x.b=0)
instance (N : Int) (x : bF) : Decidable (jm N x) := by unfold jm; infer_instance
def oS(N:Int)(x:bF):Prop:=jm N x∧(x.e=2→-1≤x.v)
instance (N : Int) (x : bF) : Decidable (oS N x) := by unfold oS; infer_instance
def bV(i:cH):Prop:=(aR i.op∨i.dst= -1)∧((i.op=1∧i.name.size=0∧i.args.length=0)∨(i.op=2∧dH i.n∧i.name.size=0∧i.args.length=1)∨(i.op=3∧dH i.n∧i.name.size=0∧i.args.length=2)∨(i.op=4∧i.n=0∧br i.name∧i.args.length≤16)∨(i.op=5∧i.n=0∧i.name.size=0∧1≤i.args.length∧i.args.length≤17)∨((i.op=6∨i.op=7)∧i.n=0∧br i.name∧i.args.length=0)∨((i.op=8∨i.op=10∨i.op=12)∧i.n=0∧i.name.size=0∧i.args.length=1)∨(i.op=9∧i.n=0∧i.name.size=0∧i.args.length=0)∨(i.op=11∧dY i.n∧i.name.size=0∧i.args.length=1)∨((17≤i.op∧i.op≤32)∧i.n=0∧i.name.size=0∧i.args.length=2)∨((41≤i.op∧i.op≤43)∧i.n=0∧i.name.size=0∧i.args.length=1))
instance (i : cH) : Decidable (bV i) := by unfold bV; infer_instance
theorem KQ{i:cH}(h:i.op=1):bV i↔(i.name.size=0∧i.args.length=0):=by
 unfold bV aR br dY dH;rw[h];simp only[Int.reduceEq,Int.reduceNe,Int.reduceLE,gV,gP,jA,fF,jB,iY,gW,iZ,j6,iz,j7,jC]
theorem xZ{i:cH}(h:i.op=2):bV i↔((0≤i.n∧i.n≤2147483647)∧i.name.size=0∧i.args.length=1):=by
 unfold bV aR br dY dH;rw[h];simp only[Int.reduceEq,Int.reduceNe,Int.reduceLE,gV,gP,jA,fF,jB,iY,gW,iZ,j6,iz,j7,jC]
theorem tQ{i:cH}(h:i.op=3):bV i↔(i.dst= -1∧(0≤i.n∧i.n≤2147483647)∧i.name.size=0∧i.args.length=2):=by
 unfold bV aR br dY dH;rw[h];simp only[Int.reduceEq,Int.reduceNe,Int.reduceLE,gV,gP,jA,fF,jB,iY,gW,iZ,j6,iz,j7,jC]
theorem DK{i:cH}(h:i.op=4):bV i↔(i.n=0∧(1≤i.name.size∧i.name.size≤60)∧i.args.length≤16):=by
 unfold bV aR br dY dH;rw[h];simp only[Int.reduceEq,Int.reduceNe,Int.reduceLE,gV,gP,jA,fF,jB,iY,gW,iZ,j6,iz,j7,jC]
theorem DL{i:cH}(h:i.op=5):bV i↔(i.n=0∧i.name.size=0∧1≤i.args.length∧i.args.length≤17):=by
 unfold bV aR br dY dH;rw[h];simp only[Int.reduceEq,Int.reduceNe,Int.reduceLE,gV,gP,jA,fF,jB,iY,gW,iZ,j6,iz,j7,jC]
theorem KR{i:cH}(h:i.op=6):bV i↔(i.n=0∧(1≤i.name.size∧i.name.size≤60)∧i.args.length=0):=by
 unfold bV aR br dY dH;rw[h];simp only[Int.reduceEq,Int.reduceNe,Int.reduceLE,gV,gP,jA,fF,jB,iY,gW,iZ,j6,iz,j7,jC]
theorem KS{i:cH}(h:i.op=7):bV i↔(i.n=0∧(1≤i.name.size∧i.name.size≤60)∧i.args.length=0):=by
 unfold bV aR br dY dH;rw[h];simp only[Int.reduceEq,Int.reduceNe,Int.reduceLE,gV,gP,jA,fF,jB,iY,gW,iZ,j6,iz,j7,jC]
theorem DM{i:cH}(h:i.op=8):bV i↔(i.n=0∧i.name.size=0∧i.args.length=1):=by
 unfold bV aR br dY dH;rw[h];simp only[Int.reduceEq,Int.reduceNe,Int.reduceLE,gV,gP,jA,fF,jB,iY,gW,iZ,j6,iz,j7,jC]
theorem KT{i:cH}(h:i.op=9):bV i↔(i.n=0∧i.name.size=0∧i.args.length=0):=by
 unfold bV aR br dY dH;rw[h];simp only[Int.reduceEq,Int.reduceNe,Int.reduceLE,gV,gP,jA,fF,jB,iY,gW,iZ,j6,iz,j7,jC]
theorem y7{i:cH}(h:i.op=10):bV i↔(i.dst= -1∧i.n=0∧i.name.size=0∧i.args.length=1):=by
 unfold bV aR br dY dH;rw[h];simp only[Int.reduceEq,Int.reduceNe,Int.reduceLE,gV,gP,jA,fF,jB,iY,gW,iZ,j6,iz,j7,jC]
theorem tR{i:cH}(h:i.op=11):bV i↔(i.dst= -1∧(1≤i.n∧i.n≤999)∧i.name.size=0∧i.args.length=1):=by
 unfold bV aR br dY dH;rw[h];simp only[Int.reduceEq,Int.reduceNe,Int.reduceLE,gV,gP,jA,fF,jB,iY,gW,iZ,j6,iz,j7,jC]
theorem y8{i:cH}(h:i.op=12):bV i↔(i.n=0∧i.name.size=0∧i.args.length=1):=by
 unfold bV aR br dY dH;rw[h];simp only[Int.reduceEq,Int.reduceNe,Int.reduceLE,gV,gP,jA,fF,jB,iY,gW,iZ,j6,iz,j7,jC]
theorem oT{i:cH}(h:¬(1≤i.op∧i.op≤12)):bV i↔(((17≤i.op∧i.op≤32)∧i.n=0∧i.name.size=0∧i.args.length=2)∨((41≤i.op∧i.op≤43)∧i.n=0∧i.name.size=0∧i.args.length=1)):=by
 have e:∀k:Int,1≤k→k≤12→(i.op=k)=False:=fun k h1 h2=>eq_false (fun e=>h ⟨oM,oM⟩)
 unfold bV aR;simp only[gW,e 1 dQ dQ,e 2 dQ dQ,e 3 dQ dQ,e 4 dQ dQ,e 5 dQ dQ,e 6 dQ dQ,e 7 dQ dQ,e 8 dQ dQ,e 9 dQ dQ,e 10 dQ dQ,e 11 dQ dQ,e 12 dQ dQ,gV,gP,fF,jB,iY,iZ,jC]
theorem QeG{op:Int}(h1:¬op=1)(h12:¬op=12)(h8:¬op=8)(FV:¬op=10)(h2:¬op=2)(h3:¬op=3)(h4:¬op=4)(h5:¬op=5)(h6:¬op=6)(h7:¬op=7)(h9:¬op=9)(Qz:¬op=11):¬(1≤op∧op≤12):=by
 rintro⟨a,b⟩;have e:op=1∨op=2∨op=3∨op=4∨op=5∨op=6∨op=7∨op=8∨op=9∨op=10∨op=11∨op=12:=by clear h1 h2 h3 h4 h5 h6 h7 h8 h9 FV Qz h12;omega
 rcases e with e|e|e|e|e|e|e|e|e|e|e|e<;>contradiction
theorem QA{i:cH}{cd:Int}(h0:¬(1≤i.op∧i.op≤12))(h1:i.op<40)(ho: -9223372036854775808≤i.op∧i.op≤9223372036854775807)(hc:cd=0↔1≤IntKind.i64.wrap (i.op-16)∧IntKind.i64.wrap (i.op-16)≤16):((((cd=0)∧(i.n=0))∧(i.name.size=0))∧((i.args.length:Int)=2))↔bV i:=by
 rw[oT h0];have hw:=IntKind.wrap_i64 (i.op-16);have e:(1≤IntKind.i64.wrap (i.op-16)∧IntKind.i64.wrap (i.op-16)≤16)↔(17≤i.op∧i.op≤32):=by rw[hw];omega
 rw[e]at hc;rw[hc];constructor
 ·rintro⟨⟨⟨a,b⟩,c⟩,d⟩;exact .inl ⟨a,b,c,oM⟩
 ·rintro(⟨a,b,c,d⟩|⟨a,_⟩)
  ·exact⟨⟨⟨a,b⟩,c⟩,oM⟩
  ·omega
theorem QB{i:cH}{cd:Int}(h1:¬i.op<40)(hc:cd=0↔1≤i.op-40∧i.op-40≤3):((((cd=0)∧(i.n=0))∧(i.name.size=0))∧((i.args.length:Int)=1))↔bV i:=by
 rw[oT oM];have e:(1≤i.op-40∧i.op-40≤3)↔(41≤i.op∧i.op≤43):=oM;rw[e]at hc;rw[hc];constructor
 ·rintro⟨⟨⟨a,b⟩,c⟩,d⟩;exact .inr ⟨a,b,c,oM⟩
 ·rintro(⟨a,_⟩|⟨a,b,c,d⟩)
  ·omega
  ·exact⟨⟨⟨a,b⟩,c⟩,oM⟩
theorem ME{i:cH}(h:(¬(aR i.op))∧(i.dst≠-1)):False↔bV i:=⟨False.elim,fun e=>e.1.elim h.1 h.2⟩
end Go.Mor
namespace Go.Mor
open Go.RowKit
theorem vm(zs:aO)(n:Nat)(hz:0<zs.length):(madeCells zs.toArray (n*zs.length)).toList=(List.replicate n zs).flatten:=by
 have hlen:((List.replicate n zs).flatten).length=n*zs.length:=sI;apply kg;intro j;by_cases hj:j<n*zs.length
 ·have h1:j % zs.length<zs.length:=vh _ hz;have e1:(madeCells zs.toArray (n*zs.length)).toList[j]?=some zs[j % zs.length]:=by simp[madeCells,hj,h1]
  rw[e1];clear e1;have h2:j / zs.length<n:=Nat.div_lt_of_lt_mul (by rwa [Nat.mul_comm]at hj);have key:∀n q,q<n→∀r (hr:r<zs.length),((List.replicate n zs).flatten)[q*zs.length+r]?=some zs[r]:=by
   intro n;induction n with
   |zero=>intro q hq;omega
   |succ n ih=>
    intro q hq r hr;rw[nX,List.flatten_cons];cases q with
    |zero=>
     rw[Nat.zero_mul,Nat.zero_add,List.getElem?_append_left hr];simp[hr]
    |succ q=>
     rw[List.getElem?_append_right (by rw[Nat.succ_mul];omega),show(q+1)*zs.length+r-zs.length=q*zs.length+r by rw[Nat.succ_mul];omega];exact ih q oM r hr
  have:=key n (j / zs.length) h2 (j % zs.length) h1;rw[Nat.div_add_mod' j zs.length]at this;exact this.symm
 ·have e1:((List.replicate n zs).flatten)[j]?=none:=List.getElem?_eq_none (by rw[hlen];omega);rw[e1];apply List.getElem?_eq_none;simp[madeCells];omega
section
variable {P : Program} {c : Code} {K : Act → World → Prop} {Q : Exit → Act → World → Prop} {a : Act} {w w0 : World} {S : Nat → Prop} {L : List bx} {k k' : Nat} {N : FN} {env : Env}
variable {d : Option Nat} {ty : Nat} {g : Option (Nat × Bool)}
theorem y9{t:TypeId}{x y:Operand}(hk:ay c k=some (d,.makeSlice t x y,ty,g))(hF:Fr a N env)(hg:bt c g env=some true)(hd:gq d N=true)(jN:k+1=k'){e bytes size:Nat}{zs:aO}{n:Nat}{i:Int}(hx:ev env x=some (vI i))(hy:ev env y=some (vI i))(hn:i=(n:Int))(ht:P.underlying t=some (.slice e))(hi:(P.info? e).map (fun i=>(i.size,i.bytes,i.zero))=some (size,bytes,some (.agg zs.toArray)))(hs:size=zs.length)(hz:0<zs.length)(hb:bytes*n≤140737488355328)(hl:n≤maxLen)(hM:Mem S w0 w L)(h:∀b w',w0.heap.size≤b→w.heap.size≤b→Mem S w0 w' (L++[.row e size (some (aZ b)) n n (List.replicate n zs).flatten])→Mem aX w w' [.row e size (some (aZ b)) n n (List.replicate n zs).flatten]→∀a',a'=a.put d (vS (some (aZ b)) n n)→Fr a' N (cO env d (vS (some (aZ b)) n n))→aV P c K Q k' a' w'):aV P c K Q k a w:=by
 subst jN;subst hn;cases vb:P.info? e with
 |none=>simp[vb]at hi
 |some inf=>
  simp only[vb,gC,cP,cF]at hi;obtain⟨hs',VR,Ik⟩:=hi;subst VR;obtain⟨w',hr,Bf,Mu⟩:=run_make_full (P:=P) w 0 t e inf (.agg zs.toArray) size ht vb Ik hs' .i64 .i64 n oM hl (cf _);have hc:(madeCells (Value.agg zs.toArray).cells (n*size)).toList=(List.replicate n zs).flatten:=by rw[hs];exact vm zs n hz
  rw[hc]at Bf;have hm:Mem aX w w' [.row e size (some (aZ w.heap.size)) n n (List.replicate n zs).flatten]:=by refine⟨Mu.os,Mu.tape,Mu.output,Mu.size,fun k hk _=>Mu.block k hk sI,?_,jM _ _⟩;simp only[cI];rintro _ rfl;refine⟨Bf,?_⟩;rintro g' ⟨a',lM,rfl⟩;injection lM with lM;subst lM;exact .inr (cB _)
  refine fH hk hF hg (v:=vS (some (aZ w.heap.size)) n n) (w':=w') (fun o ho _=> ?_) (h w.heap.size w' hM.size (cB _) (hM.call hm) hm _ rfl (hF.put hd _));unfold execOp;rw[ho];simp only[hF.ev hx,hF.ev hy,cT,hr,dz];rfl
theorem lZ(a:Addr)(i j:Nat):(a.add i).add j=a.add (i+j):=by
 unfold Addr.add;by_cases hi:i=0<;>by_cases hj:j=0<;>simp[hi,hj,pf]
def setAt:aO→Nat→aO→aO
 |xs,_,[]=>xs
 |xs,j,v::vs=>setAt (xs.set j v) (j+1) vs
theorem pZ{e size n cap:Nat}{ad ad':Addr}:∀(vs:aO) (i j:Nat) {xs:aO} {w:World},(∀v∈vs,v.oneCell'=true)→(bx.row e size (some ad) n cap xs).holds w→ad'.add i=ad.add j→ad'.add 0=ad'→(∀q,ad'.add (i+q)=ad.add (j+q))→j+vs.length≤n*size→∃w',(storeCells ad' vs i).run P w= .ok () w'∧Mem (bx.row e size (some ad) n cap xs).fp w w' [.row e size (some ad) n cap (setAt xs j vs)]
 |[],i,j,xs,w,_,hb,_,_,_,_=>⟨w,by simp[storeCells],by simpa[setAt]using Mem.qv hb⟩
 |v::vs,i,j,xs,w,h1,hb,he,h0,hq,hl=>by
  simp only[eZ]at hl;have hm:=Mem.xU (j:=j) hb v;have KH:=hm.get 0 rfl;obtain⟨w',hr,P6⟩:=pZ vs (i+1) (j+1) (fun u hu=>h1 u (bT _ hu)) KH (hq 1) h0 (fun q=>by have:=hq (1+q);rwa [←pf,←pf]at this) oM;refine⟨w',?_,?_⟩
  ·have hxl:xs.length=n*size:=hb.1;obtain⟨u,hu⟩:∃u,xs[j]?=some u:=⟨_,List.getElem?_eq_getElem oM⟩;obtain⟨a0,KU,pX⟩:=aF hb j u hu;injection KU with KU;subst KU;have ry:(store (ad.add j) v).run P w= .ok () (w.setCell (ad.add j) v):=by rw[run_store P w _ v .plain (h1 v (cJ ..)),pX];simp[mX hb]
   simp only[storeCells,cT,he,ry,dz,hr]
  ·have:=hm.mod 0 rfl P6;simpa[setAt]using this
theorem mu{t:TypeId}{x y:Operand}(hk:ay c k=some (d,.store t x y,ty,g))(hF:Fr a N env)(hg:bt c g env=some true)(hd:gq d N=true)(jN:k+1=k'){ad ad':Addr}{j e size n cap:Nat}{vs xs:aO}(hx:ev env x=some (vP ad'))(KG:ad'=ad.add j)(hy:ev env y=some (.agg vs.toArray))(ht:yH P t=some vs.length)(hv:∀v∈vs,v.oneCell'=true)(hM:Mem S w0 w L)(i:Nat)(hi:L[i]?=some (.row e size (some ad) n cap xs))(hj:j+vs.length≤n*size)(h:∀w',Mem S w0 w' (L.set i (.row e size (some ad) n cap (setAt xs j vs)))→Mem (bx.row e size (some ad) n cap xs).fp w w' [.row e size (some ad) n cap (setAt xs j vs)]→∀a',a'=a.put d undef→Fr a' N (cO env d undef)→aV P c K Q k' a' w'):aV P c K Q k a w:=by
 subst jN;subst KG;have hb:=hM.get i hi;obtain⟨w',hr,hm⟩:=pZ (P:=P) (ad':=ad.add j) vs 0 j hv hb (by rw[lZ];rfl) (by rw[lZ];rfl) (fun q=>by rw[lZ,Nat.zero_add]) hj;refine ll hk hF hg (w':=w') (fun o VP=> ?_) (h _ (by simpa using hM.mod i hi hm) hm _ rfl (hF.put hd _));unfold execOp;rw[VP];simp[Instr.storeAt,Instr.sureAddr,hF.ev hx,hF.ev hy,storeVar,(oN ht w).2,Value.cells,hr]
end
end Go.Mor
namespace Go.Mor
open Go.RowKit
theorem bM{P:Program}{c:Code}{K:Act→World→Prop}{Q:Exit→Act→World→Prop}{a:Act}{w:World}{k:Nat}{N:FN}{env:Env}(d:Option Nat)(A:ao)(ad:Addr)(n size:Nat)(i:Int)(hF:Fr a N env)(hk:Wg P c N env k=some (d,A,n,size,i))(hA:A=some ad)(h0:0≤i)(h1:i<n)(h:∀a',Fr a' N (cO env d (vP (ad.add (i.toNat*size))))→aV P c K Q (k+1) a' w):aV P c K Q k a w:=pv d ad n size i hF (by rw[hk,hA]) h0 h1 h
end Go.Mor
namespace Go.Mor
open Go.RowKit
def lC:List (Bool×bx)→List bx
 |[]=>[]
 |(b,r)::l=>cond b [r] []++lC l
theorem za:∀(l:List (Bool×bx)) (i:Nat) {r r':bx},l[i]?=some (false,r')→(lC l++[r]).Perm (lC (l.set i (true,r)))
 |[],i,r,r',h=>by simp at h
 |(b,q)::l,0,r,r',h=>by simp at h;obtain⟨rfl,rfl⟩:=h;show((cond false [q] []++lC l)++[r]).Perm (cond true [r] []++lC l);simp only[cond_false,rF,cond_true];exact List.perm_append_comm
 |(b,q)::l,i+1,r,r',h=>by have:=za l i (r:=r) (r':=r') (by simpa using h);show((cond b [q] []++lC l)++[r]).Perm (cond b [q] []++lC (l.set i (true,r)));rw[en];exact this.append_left _
theorem Mem.group{S:Nat→Prop}{w0 w:World}{L:List bx}{l:List (Bool×bx)}{r r':bx}(h:Mem S w0 w ((L++lC l)++[r]))(i:Nat)(hi:l[i]?=some (false,r')):Mem S w0 w (L++lC (l.set i (true,r))):=by
 refine h.perm ?_;rw[en];exact(za l i hi).append_left _
end Go.Mor
namespace Go.Mor
open Go.RowKit
section
variable {P : Program} {c : Code} {K : Act → World → Prop} {Q : Exit → Act → World → Prop} {a : Act} {w w0 : World} {S : Nat → Prop} {L : List bx} {k k' : Nat} {N : FN} {env : Env}
variable {d : Option Nat} {ty : Nat} {g : Option (Nat × Bool)}
theorem FW{t:TypeId}(hk:ay c k=some (d,.buildSlice t 0 #[],ty,g))(hF:Fr a N env)(hg:bt c g env=some true)(hd:gq d N=true)(jN:k+1=k'){e size:Nat}(ht:P.underlying t=some (.slice e))(hi:(P.info? e).map (fun i=>i.size)=some size)(hM:Mem S w0 w L)(h:∀b w',w0.heap.size≤b→w.heap.size≤b→Mem S w0 w' (L++[.row e size (some (aZ b)) 0 0 []])→Mem aX w w' [.row e size (some (aZ b)) 0 0 []]→∀a',a'=a.put d (vS (some (aZ b)) 0 0)→Fr a' N (cO env d (vS (some (aZ b)) 0 0))→aV P c K Q k' a' w'):aV P c K Q k a w:=by
 subst jN;have qe:(bx.row e size (some (aZ w.heap.size)) 0 0 []).holds (w.alloc (.cells #[] e)):=by have:=World.ownsRow_lit (base:=0) (e:=e) (size:=size) w #[] 0 (cf _) (by simp only[maxLen];omega) sI;show World.ownsRow _ _ _ _ _ _ _;simpa using this
 have hm:Mem aX w (w.alloc (.cells #[] e)) [.row e size (some (aZ w.heap.size)) 0 0 []]:=by refine(Mem.alloc w e []).say 0 rfl (fun _=>qe) ?_;rintro g' ⟨a',lM,rfl⟩;injection lM with lM;subst lM;rfl
 refine fH hk hF hg (v:=vS (some (aZ w.heap.size)) 0 0) (w':=w.alloc (.cells #[] e)) (fun o ho _=> ?_) (h w.heap.size (w.alloc (.cells #[] e)) hM.size (cB _) (hM.call hm) hm _ rfl (hF.put hd _));unfold execOp;rw[ho];cases vb:P.info? e with
 |none=>simp[vb]at hi
 |some inf=>
  have hs0:(sizeOf e).run P w= .ok inf.size w:=by simp[sizeOf,typeInfo,vb]
  simp only[qB,kc,Instr.buildSlice,cT,eY ht,hs0,dz,Nat.zero_mul,Nat.reducePow,gt_iff_lt,ee,iP,mn,jO,show Array.range 0=#[]from rfl,Array.toList_empty,Instr.fill,newRow,run_newObj];rfl
end
end Go.Mor
namespace Go.Mor
open Go.RowKit
def ja(l:List (Int×Int)):aO:=l.flatMap (fun p=>[vI p.1,vI p.2])
theorem DN(l:List (Int×Int)):(ja l).length=l.length*2:=by
 induction l with
 |nil=>rfl
 |cons x l ih=>simp[ja]at ih⊢;omega
theorem QC{l:List (Int×Int)}{i:Nat}{p:Int×Int}(h:l[i]?=some p):(ja l)[i*2]?=some (vI p.1)∧(ja l)[i*2+1]?=some (vI p.2):=by
 induction l generalizing i with
 |nil=>simp at h
 |cons x l ih=>
  have e:ja (x::l)=vI x.1:: .int .i64 x.2::ja l:=rfl;rw[e];cases i with
  |zero=>simp at h;subst h;exact⟨rfl,rfl⟩
  |succ i=>
   simp at h;obtain⟨h1,h2⟩:=ih h;refine⟨?_,?_⟩
   ·rw[show(i+1)*2=i*2+1+1 by omega];simpa using h1
   ·rw[show(i+1)*2+1=i*2+1+1+1 by omega];simpa using h2
theorem DP{l:List (Int×Int)}{i:Nat}(a b:Int)(h:i<l.length):setAt (ja l) (i*2) [vI a,vI b]=ja (l.set i (a,b)):=by
 induction l generalizing i with
 |nil=>simp at h
 |cons x l ih=>
  have e:ja (x::l)=vI x.1:: .int .i64 x.2::ja l:=rfl;cases i with
  |zero=>rfl
  |succ i=>
   have:=ih (i:=i) (by simpa using h);rw[e,show(i+1)*2=i*2+1+1 by omega,List.set_cons_succ];show setAt (.int .i64 x.1:: .int .i64 x.2::ja l) (i*2+1+1) [vI a,vI b]=vI x.1:: .int .i64 x.2::ja (l.set i (a,b));rw[←this];simp[setAt]
theorem FX{l:List (Int×Int)}{i:Nat}{p:Int×Int}(a:Int)(h:l[i]?=some p):(ja l).set (i*2) (vI a)=ja (l.set i (a,p.2)):=by
 induction l generalizing i with
 |nil=>simp at h
 |cons x l ih=>
  have e:ja (x::l)=vI x.1:: .int .i64 x.2::ja l:=rfl;cases i with
  |zero=>simp at h;subst h;rfl
  |succ i=>
   simp at h;have:=ih h;rw[e,show(i+1)*2=i*2+1+1 by omega];show .int .i64 x.1:: .int .i64 x.2::(ja l).set (i*2) (vI a)=vI x.1:: .int .i64 x.2::ja (l.set i (a,p.2));rw[this]
theorem KV(n:Nat)(a b:Int):(List.replicate n [vI a,vI b]).flatten=ja (List.replicate n (a,b)):=by
 induction n with
 |zero=>rfl
 |succ n ih=>rw[nX,nX,List.flatten_cons,ih];rfl
theorem KW{w:World}{A:ao}{ad:Addr}{l:List (Int×Int)}(h:(bx.rd A (ja l)).holds w)(hA:A=some ad){i:Nat}{p:Int×Int}(hi:l[i]?=some p):∀j v,[vI p.1,vI p.2][j]?=some v→w.cell? ((ad.add (i*2)).add j)=some v:=by
 intro j v hj;obtain⟨h1,h2⟩:=QC hi;rw[lZ];have key:∀q u,(ja l)[q]?=some u→w.cell? (ad.add q)=some u:=by intro q u hu;obtain⟨a',lM,hc⟩:=h q u hu;rw[hA]at lM;injection lM with lM;subst lM;exact hc
 match j,hj with
 |0,hj=>simp at hj;subst hj;exact key _ _ h1
 |1,hj=>simp at hj;subst hj;exact key _ _ h2
theorem zb{w:World}{A:ao}{ad:Addr}{l:List (Int×Int)}(h:(bx.rd A (ja l)).holds w)(hA:A=some ad){i:Nat}{p:Int×Int}(hi:l[i]?=some p):w.cell? (ad.add (i*2))=some (vI p.1):=by
 have:=KW h hA hi 0 _ rfl;rwa [lZ]at this
theorem qN{α:Type}{l:List α}{i:Nat}(d:α)(h:i<l.length):l[i]?=some (l.getD i d):=by simp[List.getD,List.getElem?_eq_getElem h]
def l5(lo hi:Int)(l:List (Int×Int))(v:Int):Prop:=(lo≤v∧v<hi)∧(l.getD v.toNat (0,0)).1<0
instance (lo hi : Int) (l : List (Int × Int)) (v : Int) : Decidable (l5 lo hi l v) := by unfold l5; infer_instance
abbrev vo:=List (Int×Int×Int)
def ef(b:Int)(l:List gv):vo:=l.map (fun p=>(p.dst,b,-1))
def ez(b:Int)(l:List cH):vo:=(l.zipIdx.filter (fun x=>decide (aR x.1.op))).map (fun x=>(x.1.dst,b,(x.2:Int)))
def j8(b:Int)(x:bF):vo:=ef b x.aK++ez b x.insts
def fa(fs:List bF)(n:Nat):vo:=((fs.take n).zipIdx).flatMap (fun x=>j8 (x.2:Int) x.1)
def cL(fs:List bF):vo:=fa fs fs.length
theorem jD{b:Int}{l:List gv}{k:Nat}{p:gv}(h:l[k]?=some p):ef b (l.take (k+1))=ef b (l.take k)++[(p.dst,b,-1)]:=by
 obtain⟨hk,he⟩:=List.getElem?_eq_some_iff.1 h;rw[fO hk,he];simp[ef]
theorem l6{α:Type}{l:List α}{k:Nat}{p:α}(h:l[k]?=some p):(l.take (k+1)).zipIdx=(l.take k).zipIdx++[(p,k)]:=by
 obtain⟨hk,he⟩:=List.getElem?_eq_some_iff.1 h;rw[fO hk,he,List.zipIdx_append];simp[tS (rG hk)]
theorem kq{b:Int}{l:List cH}{k:Nat}{p:cH}(h:l[k]?=some p)(hm:aR p.op):ez b (l.take (k+1))=ez b (l.take k)++[(p.dst,b,(k:Int))]:=by
 unfold ez;rw[l6 h,ly,di];simp[hm]
theorem pz{b:Int}{l:List cH}{k:Nat}{p:cH}(h:l[k]?=some p)(hm:¬aR p.op):ez b (l.take (k+1))=ez b (l.take k):=by
 unfold ez;rw[l6 h,ly,di];simp[hm]
theorem nY(fs:List bF):fa fs 0=[]:=by simp[fa]
theorem jo{fs:List bF}{k:Nat}{x:bF}(h:fs[k]?=some x):fa fs (k+1)=fa fs k++j8 (k:Int) x:=by
 unfold fa;rw[l6 h,nZ];simp
theorem tT{fs:List bF}{n:Nat}{d:Int×Int×Int}(h:d∈fa fs n):0≤d.2.1∧d.2.1<n∧-1≤d.2.2:=by
 unfold fa at h;rw[jl]at h;obtain⟨x,hx,hd⟩:=h;have sr:x.2<n:=by
  have:=List.snd_lt_of_mem_zipIdx hx;have h2:(fs.take n).length≤n:=by simp;omega
  omega
 unfold j8 at hd;rcases bX.1 hd with hd|hd
 ·unfold ef at hd;obtain⟨p,_,rfl⟩:=bD.1 hd;exact⟨yW _,by show(x.2:Int)<n;omega,by show(-1:Int)≤-1;omega⟩
 ·unfold ez at hd;obtain⟨p,_,rfl⟩:=bD.1 hd;exact⟨yW _,by show(x.2:Int)<n;omega,by show(-1:Int)≤(p.2:Int);omega⟩
def findD(ds:vo)(v:Int):Option (Int×Int):=(ds.find? (fun d=>d.1==v)).map (·.2)
theorem jq{ds:vo}{v:Int}(h:v∉ds.map (·.1)):findD ds v=none:=by
 unfold findD;rw[P1,List.find?_eq_none];intro d hd he;rw[ax]at he;exact h (bD.2 ⟨d,hd,he⟩)
theorem lD{ds:vo}{v:Int}(h:v∈ds.map (·.1)):∃p,findD ds v=some p∧(v,p)∈ds:=by
 unfold findD;obtain⟨d,hd,hv⟩:=bD.1 h;cases hf:ds.find? (fun d=>d.1==v)with
 |none=>
  have:=List.find?_eq_none.1 hf d hd;simp[hv]at this
 |some e=>
  have h1:=List.find?_some hf;have h2:=List.mem_of_find?_eq_some hf;rw[ax]at h1;refine⟨e.2,rfl,?_⟩;rw[←h1];exact h2
theorem DQ{ds:vo}{v b k:Int}(h:v∉ds.map (·.1))(u:Int):findD (ds++[(v,b,k)]) u=if u=v then some (b,k)else findD ds u:=by
 unfold findD;rw[List.find?_append];by_cases e:u=v
 ·subst e;have:ds.find? (fun d=>d.1==u)=none:=by rw[List.find?_eq_none];intro d hd he;rw[ax]at he;exact h (bD.2 ⟨d,hd,he⟩)
  rw[this];simp
 ·rw[aB e];have:([(v,b,k)]:vo).find? (fun d=>d.1==u)=none:=by rw[List.find?_eq_none];intro d hd he;simp at hd;subst hd;rw[ax]at he;exact e he.symm
  rw[this];simp
structure Ce(n:Nat)(base:Nat→Int×Int)(enc:Int×Int→Int×Int)(ds:vo)(l:List (Int×Int)):Prop where
 len:l.length=n
 at_:∀v:Nat,v<n→l[v]?=some (match findD ds (v:Int)with
  |some p=>enc p
  |none=>base v)
def gD(lo hi:Int)(ds:vo):Prop:=(∀d,d∈ds→lo≤d.1∧d.1<hi)∧(ds.map (·.1)).Nodup
theorem gD.nil(lo hi:Int):gD lo hi []:=⟨sI,sI⟩
theorem gD.snoc{lo hi:Int}{ds:vo}{v b k:Int}:gD lo hi (ds++[(v,b,k)])↔gD lo hi ds∧(lo≤v∧v<hi)∧v∉ds.map (·.1):=by
 unfold gD;constructor
 ·rintro⟨h1,h2⟩;rw[di,gJ]at h2;refine⟨⟨fun d hd=>h1 d (dG _ hd),h2.1⟩,h1 (v,b,k) sI,fun hm=>h2.2.2 v hm v sI rfl⟩
 ·rintro⟨⟨h1,h2⟩,h3,h4⟩;refine⟨fun d hd=> ?_,?_⟩
  ·rcases bX.1 hd with hd|hd
   ·exact h1 d hd
   ·simp at hd;subst hd;exact h3
  ·rw[di,gJ];refine⟨h2,sI,fun a ha c hc e=> ?_⟩;simp at hc;subst hc;subst e;exact h4 ha
theorem gD.pre{lo hi:Int}{ds es:vo}(h:gD lo hi (ds++es)):gD lo hi ds:=by
 obtain⟨h1,h2⟩:=h;rw[di,gJ]at h2;exact⟨fun d hd=>h1 d (dG _ hd),h2.1⟩
theorem Ce.put{n:Nat}{base:Nat→Int×Int}{enc:Int×Int→Int×Int}{ds:vo}{l:List (Int×Int)}(h:Ce n base enc ds l){v b k:Int}(h0:0≤v)(h1:v<n)(hv:v∉ds.map (·.1)):Ce n base enc (ds++[(v,b,k)]) (l.set v.toNat (enc (b,k)))where
 len:=by rw[n6,h.len]
 at_:=fun u hu=>by
  rw[DQ hv];by_cases e:(u:Int)=v
  ·have:u=v.toNat:=oM;rw[bC e,this,List.getElem?_set_self (by rw[h.len];omega)]
  ·rw[aB e,List.getElem?_set_ne oM];exact h.at_ u hu
end Go.Mor
namespace Go.Mor
open Go.RowKit
def Wj(P:Program)(c:Code)(N:FN)(n k:Nat)(env:Env):Env:=match fE P c N n k env with
 |some e=>e
 |none=>[]
def isS{α:Type}:Option α→Bool
 |some _=>true
 |none=>false
def Z9:Env→List Nat
 |[]=>[]
 |(k,_)::r=>k::Z9 r
def zc(c:Code)(env:Env):Option Value:=match kind c with
 | .cond (.tmp t)=>look env t
 |_=>none
def szE(c:Code):Nat:=(opsOf c).size
def srE(c:Code):Bool:=match kind c,kind (Code.l c)with| .seq,.region false=>true|_,_=>false
def cmE(c:Code)(N:FN)(env:Env)(k:Nat):Option Bool:=match ay c k with
 |some (d,.binOp op _ x y _,_,g)=>match bt c g env,gq d N,ev env x,ev env y with
  |some true,true,some (.int kd i),some (.int kd' j)=>match decide (kd=kd')with
   |true=>P3 op i j
   |false=>none
  |_,_,_,_=>none
 |_=>none
def stE(P:Program)(c:Code)(N:FN)(env:Env)(k:Nat):Option (Option Nat×Addr×Value):=match ay c k with
 |some (d,.store t x y,_,g)=>match bt c g env,gq d N,xu P t,ev env x,ev env y with
  |some true,true,true,some (.pointer (some ad)),some v=>match v.oneCell' with
   |true=>some (d,ad,v)
   |false=>none
  |_,_,_,_,_=>none
 |_=>none
def rsE(fn:Func)(env:Env):Option Value:=match fn.results.toList with
 |[.tmp t]=>look env t
 |_=>none
def Wl(fn:Func)(env:Env):Option (Value×Value):=match fn.results.toList with
 |[.tmp t,.tmp u]=>match look env t,look env u with
  |some v,some v'=>some (v,v')
  |_,_=>none
 |_=>none
section
variable {P : Program} {c : Code} {K : Act → World → Prop} {Q : Exit → Act → World → Prop} {w w0 : World} {S : Nat → Prop} {L : List bx} {k : Nat} {N : FN} {env : Env}
theorem ae(n:Nat)(h:∀a,Fr a N (Wj P c N n k env)→aV P c K Q (k+n) a w)(hp:isS (fE P c N n k env)=true:=by kernel_rfl):∀a,Fr a N env→aV P c K Q k a w:=by
 intro a hF;unfold Wj at h;cases hr:fE P c N n k env with
 |none=>rw[hr]at hp;cases hp
 |some e=>
  rw[hr]at h;exact tH n k hF hr h
theorem bQ(Dl:Env){G:Act→Prop}(h:∀a,Fr a N Dl→G a)(hk:nR (Z9 Dl) env=Dl:=by kernel_rfl):∀a,Fr a N env→G a:=fun a hF=>h a (hF.keep hk)
theorem au(h:∀a,Fr a N env→K a w)(hk:ay c k=none:=by kernel_rfl):∀a,Fr a N env→aV P c K Q k a w:=fun a hF=>bl hk (h a hF)
theorem aU(h:∀a,Fr a N env→W P (Code.l c) (fun a w=>W P (Code.r c) K Q a w) Q a w)(hk:kind c= .seq:=by kernel_rfl):∀a,Fr a N env→W P c K Q a w:=fun a hF=>ZY hk (h a hF)
theorem cN(h:∀a,Fr a N env→aV P c K Q 0 a w)(hk:kind c= .region false:=by kernel_rfl):∀a,Fr a N env→W P c K Q a w:=fun a hF=>FB hk (h a hF)
theorem aG(h:∀a,Fr a N env→aV P (Code.l c) (fun a w=>W P (Code.r c) K Q a w) Q 0 a w)(hk:srE c=true:=by kernel_rfl):∀a,Fr a N env→W P c K Q a w:=fun a hF=>QhZ hk (h a hF)
theorem aW(h:∀a,Fr a N (Wj P (Code.l c) N (szE (Code.l c)) 0 env)→W P (Code.r c) K Q a w)(hk:srE c=true:=by kernel_rfl)(hp:isS (fE P (Code.l c) N (szE (Code.l c)) 0 env)=true:=by kernel_rfl):∀a,Fr a N env→W P c K Q a w:=by
 refine aG (ae _ (fun a hF=>bl ?_ (h a hF)) hp) hk;simp[ay,szE]
theorem x8(h:∀a,Fr a N (Wj P c N (szE c) 0 env)→K a w)(hk:kind c= .region false:=by kernel_rfl)(hp:isS (fE P c N (szE c) 0 env)=true:=by kernel_rfl):∀a,Fr a N env→W P c K Q a w:=by
 refine cN (ae _ (fun a hF=>bl ?_ (h a hF)) hp) hk;simp[ay,szE]
theorem bN(h:∀a,Fr a N env→K a w)(hk:kind c= .skip:=by kernel_rfl):∀a,Fr a N env→W P c K Q a w:=fun a hF=>Qbn hk (h a hF)
theorem bG(h:∀a,Fr a N env→Q .ret a w)(hk:kind c= .ret:=by kernel_rfl):∀a,Fr a N env→W P c K Q a w:=fun a hF=>Qet hk (h a hF)
theorem fP(id:Nat)(h:∀a,Fr a N env→Q (.exit id) a w)(hk:kind c= .exit id:=by kernel_rfl):∀a,Fr a N env→W P c K Q a w:=fun a hF=>Qbo hk (h a hF)
theorem cC(id:Nat)(h:∀a,Fr a N env→W P (Code.l c) K (ZX id K Q) a w)(hk:kind c= .block id:=by kernel_rfl):∀a,Fr a N env→W P c K Q a w:=fun a hF=>VN hk (h a hF)
theorem da{id:Nat}(h:∀a,Fr a N env→Q .ret a w):∀a,Fr a N env→ZX id K Q .ret a w:=h
theorem fQ{id P0:Nat}(h:∀a,Fr a N env→K a w)(e:Nat.beq P0 id=true:=by rfl):∀a,Fr a N env→ZX id K Q (.exit P0) a w:=fun a hF=>VS e (h a hF)
theorem vp{v:Value}(h:zc c env=some v):∃t,kind c= .cond (.tmp t)∧look env t=some v:=by
 unfold zc at h;split at h
 ·rename_i t ht;exact⟨t,ht,h⟩
 ·cases h
theorem fY(h:∀a,Fr a N env→W P (Code.l c) K Q a w)(hk:zc c env=some (vB true):=by kernel_rfl):∀a,Fr a N env→W P c K Q a w:=fun a hF=>by
 obtain⟨t,h1,h2⟩:=vp hk;exact Ih h1 hF h2 (fun _=>h a hF) (fun h=>Bool.noConfusion h)
theorem gE(h:∀a,Fr a N env→W P (Code.r c) K Q a w)(hk:zc c env=some (vB false):=by kernel_rfl):∀a,Fr a N env→W P c K Q a w:=fun a hF=>by
 obtain⟨t,h1,h2⟩:=vp hk;exact Ih h1 hF h2 (fun h=>Bool.noConfusion h) (fun _=>h a hF)
theorem eF(e:Bool)(R:Prop)(i:e=true↔R)(ht:R→∀a,Fr a N env→W P (Code.l c) K Q a w)(hf:¬R→∀a,Fr a N env→W P (Code.r c) K Q a w)(hk:zc c env=some (vB e):=by kernel_rfl):∀a,Fr a N env→W P c K Q a w:=fun a hF=>by
 obtain⟨t,h1,h2⟩:=vp hk;exact Wi h1 hF h2 i (fun r=>ht r a hF) (fun r=>hf r a hF)
theorem gp(R:Prop)[Decidable R](ht:R→∀a,Fr a N env→W P (Code.l c) K Q a w)(hf:¬R→∀a,Fr a N env→W P (Code.r c) K Q a w)(hk:zc c env=some (vB (decide R)):=by kernel_rfl):∀a,Fr a N env→W P c K Q a w:=eF (decide R) R decide_eq_true_iff ht hf hk
theorem bB(ad:Addr)(v:Value)(hc:w.cell? ad=some v)(h:∀a,Fr a N (cO env (aQ c k) v)→aV P c K Q (k+1) a w)(hk:Wf P c N env k=some (aQ c k,ad):=by kernel_rfl):∀a,Fr a N env→aV P c K Q k a w:=fun _ hF=>bq _ ad hF hk v hc h
theorem gS(ad:Addr)(vs:aO)(hc:∀j v,vs[j]?=some v→w.cell? (ad.add j)=some v)(h:∀a,Fr a N (cO env (aQ c k) (.agg vs.toArray))→aV P c K Q (k+1) a w)(hk:lsE P c N env k=some (aQ c k,ad,some vs.length):=by kernel_rfl):∀a,Fr a N env→aV P c K Q k a w:=fun _ hF=>Wh _ ad vs hF hk hc h
theorem eM(ad:Addr)(n size:Nat)(i:Int)(h:∀a,Fr a N (cO env (aQ c k) (vP (ad.add (i.toNat*size))))→aV P c K Q (k+1) a w)(h0:0≤i:=by omega)(h1:i<n:=by omega)(hk:Wg P c N env k=some (aQ c k,some ad,n,size,i):=by kernel_rfl):∀a,Fr a N env→aV P c K Q k a w:=fun _ hF=>pv _ ad n size i hF hk h0 h1 h
theorem dw(z:Int)(h:∀a,Fr a N (cO env (aQ c k) (vI z))→aV P c K Q (k+1) a w)(h1: -9223372036854775808≤z:=by omega)(h2:z≤9223372036854775807:=by omega)(hk:arE c N env k=some (aQ c k,z):=by kernel_rfl):∀a,Fr a N env→aV P c K Q k a w:=fun _ hF=>tN _ z hF hk rfl h1 h2 h
theorem KX{b:Bool}(h:cmE c N env k=some b):∃d op t x y t' ty g kd i j,ay c k=some (d,.binOp op t x y t',ty,g)∧bt c g env=some true∧gq d N=true∧ev env x=some (.int kd i)∧ev env y=some (.int kd j)∧P3 op i j=some b:=by
 unfold cmE at h;split at h
 ·rename_i h0;split at h
  ·rename_i h1 h2 h3 h4;split at h
   ·rename_i h5;have:=bK h5;subst this;exact⟨_,_,_,_,_,_,_,_,_,_,_,h0,h1,h2,h3,h4,h⟩
   ·cases h
  ·cases h
 ·cases h
theorem k9(b:Bool)(h:∀B,B=b→∀a,Fr a N (cO env (aQ c k) (vB B))→aV P c K Q (k+1) a w)(hk:cmE c N env k=some b:=by kernel_rfl):∀a,Fr a N env→aV P c K Q k a w:=fun a hF=>by
 obtain⟨d,op,t,x,y,t',ty,g,kd,i,j,h0,h1,h2,h3,h4,h5⟩:=KX hk;have hd:aQ c k=d:=by unfold ay at h0;unfold aQ;cases ho:(opsOf c)[k]?<;>rw[ho]at h0<;>simp at h0⊢;exact h0.1
 rw[hd]at h;exact FD h0 hF h1 h2 rfl h3 h4 h5 (fun B hB a' _=>h B hB a')
theorem eb{f:FuncId}{vs:Array Value}{Φ:Value→World→Prop}(hc:Calls P f vs w (ff Φ))(h:∀v w',Φ v w'→∀a,Fr a N (cO env (aQ c k) v)→aV P c K Q (k+1) a w')(hk:clE P c N env k=some (aQ c k,f,vs):=by kernel_rfl):∀a,Fr a N env→aV P c K Q k a w:=fun _ hF=>nU _ f vs.toList hF hk hc h
theorem KY{d:Option Nat}{ad:Addr}{v:Value}(h:stE P c N env k=some (d,ad,v)):∃t x y ty g,ay c k=some (d,.store t x y,ty,g)∧bt c g env=some true∧gq d N=true∧xu P t=true∧ev env x=some (vP ad)∧ev env y=some v∧v.oneCell'=true:=by
 unfold stE at h;split at h
 ·rename_i h0;split at h
  ·rename_i h1 h2 h3 h4 h5;split at h
   ·rename_i h6;simp only[cP,cF]at h;obtain⟨rfl,rfl,rfl⟩:=h;exact⟨_,_,_,_,_,h0,h1,h2,h3,h4,h5,h6⟩
   ·cases h
  ·cases h
 ·cases h
theorem sV(hM:Mem S w0 w L)(i:Nat)(off:Nat)(v:Value){b t0:Nat}{cs:aO}(hi:L[i]?=some (.aL b t0 cs))(h:∀w',Mem S w0 w' (L.set i (.aL b t0 (cs.set off v)))→∀a,Fr a N (cO env (aQ c k) undef)→aV P c K Q (k+1) a w')(ho:off<cs.length:=by decide)(hk:stE P c N env k=some (aQ c k,(ah b off),v):=by kernel_rfl):∀a,Fr a N env→aV P c K Q k a w:=fun a hF=>by
 obtain⟨t,x,y,ty,g,h0,h1,h2,h3,h4,h5,h6⟩:=KY hk;exact g8 h0 hF h1 h2 rfl h4 h5 h3 h6 hM i hi ho (fun w' AP _ a' _=>h w' AP a')
theorem wC(hM:Mem S w0 w L)(i:Nat)(ad':Addr)(j:Nat)(v:Value){e size n cap:Nat}{ad:Addr}{xs:aO}(hi:L[i]?=some (.row e size (some ad) n cap xs))(KG:ad'=ad.add j)(hj:j<n*size)(h:∀w',Mem S w0 w' (L.set i (.row e size (some ad) n cap (xs.set j v)))→∀a,Fr a N (cO env (aQ c k) undef)→aV P c K Q (k+1) a w')(hk:stE P c N env k=some (aQ c k,ad',v):=by kernel_rfl):∀a,Fr a N env→aV P c K Q k a w:=fun a hF=>by
 obtain⟨t,x,y,ty,g,h0,h1,h2,h3,h4,h5,h6⟩:=KY hk;exact fg h0 hF h1 h2 rfl h4 KG h5 h3 h6 hM i hi hj (fun w' AP _ a' _=>h w' AP a')
end
section
variable {P : Program} {w : World} {N : FN} {env : Env} {fn : Func} {Φ : Value → World → Prop}
theorem cK(v:Value)(h:Φ v w)(hk:rsE fn env=some v:=by kernel_rfl)(hD:N.D=[]:=by rfl):∀a,Fr a N env→bodyPost P fn (ff Φ) .ret a w:=fun a hF=>by
 unfold rsE at hk;split at hk
 ·rename_i t ht;exact Qez hF (by apply iO;simpa using ht) hk ⟨v,rfl,h⟩ hD
 ·cases hk
theorem jt(v v':Value)(h:Φ (.tuple #[v,v']) w)(hk:Wl fn env=some (v,v'):=by kernel_rfl)(hD:N.D=[]:=by rfl):∀a,Fr a N env→bodyPost P fn (ff Φ) .ret a w:=fun a hF=>by
 unfold Wl at hk;split at hk
 ·rename_i t u ht;split at hk
  ·rename_i h1 h2;simp only[cP,cF]at hk;obtain⟨rfl,rfl⟩:=hk;exact QeA hF (by apply iO;simpa using ht) h1 h2 ⟨_,rfl,h⟩ hD
  ·cases hk
 ·cases hk
theorem Wm(h:Φ (.tuple #[]) w)(hk:fn.results=#[]:=by rfl)(hD:N.D=[]:=by rfl):∀a,Fr a N env→bodyPost P fn (ff Φ) .normal a w:=fun _ hF=>QeB hF hk ⟨_,rfl,h⟩ hD
theorem gF{f:FuncId}(N:FN)(vs:aO)(hf:P.funcs[f]?=some fn)(h:∀a,Fr a N (Dr 0 vs)→W P (ou fn) (bodyPost P fn (ff Φ) .normal) (bodyPost P fn (ff Φ)) a w)(hb:fn.body.isSome=true:=by kernel_rfl)(hn:Nat.beq fn.ntmps N.n=true:=by kernel_rfl)(hl:Nat.ble vs.length N.n=true:=by kernel_rfl)(hD:N.D=[]:=by rfl):Calls P f vs.toArray w (ff Φ):=enter hf hb hn hl h hD
end
def dvE:Spec→Option Value
 | .bb u=>some u
 |_=>none
def p1E(P:Program)(c:Code)(N:FN)(i:Nat)(env:Env):Option Value:=match ay c i with
 |some (d,op,_,g)=>match bt c g env,gq d N with
  |some true,true=>qz P env op
  |_,_=>none
 |none=>none
def lE(c:Code)(i:Nat)(env:Env):Option Bool:=match ay c i with
 |some (_,_,_,g)=>bt c g env
 |none=>none
theorem DR{c:Code}{i:Nat}{env:Env}{b:Bool}(h:lE c i env=some b):∀g,(ay c i).map (·.2.2.2)=some g→bt c g env=some b:=by
 intro g hg;unfold lE at h;split at h
 ·rename_i h0;rw[h0]at hg;simp only[gC,cP]at hg;subst hg;exact h
 ·cases h
theorem su{E F:Env}{t:Nat}{v:Value}(h:look E t=some v):look (E++F) t=some v:=by
 induction E with
 |nil=>cases h
 |cons x r ih=>
  obtain⟨k,u⟩:=x;simp only[yO,look]at h⊢;cases hq:Nat.beq k t with
  |true=>rw[hq]at h;exact h
  |false=>rw[hq]at h;exact ih h
section
variable {P : Program} {c : Code} {Q : Exit → Act → World → Prop} {N : FN} {i : Nat} {env0 : Env} {wr : World} {sp : Nat → Spec}
theorem Fr.left{a:Act}{E F:Env}(h:Fr a N (E++F)):Fr a N E:=⟨h.defers,h.size,fun t v hv=>h.slot t v (su hv)⟩
theorem sW{g:Option (Nat×Bool)}{E F:Env}{b:Bool}(h:bt c g E=some b):bt c g (E++F)=some b:=by
 unfold bt at h⊢;cases g with
 |none=>exact h
 |some p=>
  obtain⟨j,want⟩:=p;simp only at h⊢;cases hd:((opsOf c)[j]?).bind (·.dst)with
  |none=>rw[hd]at h;cases h
  |some d=>
   rw[hd]at h;simp only at h⊢;cases hl:look E d with
   |none=>rw[hl]at h;cases h
   |some v=>
    rw[hl]at h;rw[su hl];exact h
theorem oU(hg:∀vs,lE c i (bW c i sp vs env0)=some true)(h:∀(w:World) (vs:Nat→Value),Kp wr w→(∀j,j∈dW c i→(sp j).ok (vs j) w)→∀a,Fr a N (bW c i sp vs env0)→aV P (one c i) (fun a' w'=>∃v,a'=a.put (aQ c i) v∧Kp w w'∧(sp i).ok v w') Q 0 a w):jx P c Q N env0 wr sp i:=by
 intro a w vs rest hK hp hF;exact⟨true,fun g o7=>sW (DR (hg vs) g o7),fun _=>h w vs hK hp a hF.left,fun h=>Bool.noConfusion h⟩
theorem IM{o:Option Nat×Op×Nat×Option (Nat×Bool)}(h:ay c i=some o):ay (one c i) 0=some (o.1,o.2.1,o.2.2.1,none)∧aQ c i=o.1:=by
 unfold ay at h;cases ho:(opsOf c)[i]? with
 |none=>rw[ho]at h;cases h
 |some q=>
  rw[ho]at h;simp only[gC,cP]at h;subst h;constructor
  ·unfold ay;rw[tK ho];rfl
  ·simp[aQ,ho]
theorem KZ{k:Nat}{o:Option Nat×Op×Nat×Option (Nat×Bool)}(h:ay c i=some o):ay (one c i) (k+1)=none:=by
 unfold ay at h⊢;cases ho:(opsOf c)[i]? with
 |none=>rw[ho]at h;cases h
 |some q=>
  rw[tK ho];simp
theorem dP(h:∀vs,p1E P c N i (bW c i sp vs env0)=dvE (sp i):=by intro _;kernel_rfl)(h2:isS (dvE (sp i))=true:=by kernel_rfl):jx P c Q N env0 wr sp i:=by
 have key:∀vs,∃d op ty g v,ay c i=some (d,op,ty,g)∧bt c g (bW c i sp vs env0)=some true∧gq d N=true∧qz P (bW c i sp vs env0) op=some v∧sp i= .bb v:=by
  intro vs;have h3:=h vs;cases hs:sp i with
  |any Φ hh=>rw[hs]at h2;cases h2
  |bb u=>
   rw[hs]at h3;unfold p1E dvE at h3;simp only at h3;split at h3
   ·rename_i h4;split at h3
    ·rename_i h5 h6;exact⟨_,_,_,_,u,h4,h5,h6,h3,rfl⟩
    ·cases h3
   ·cases h3
 refine oU (fun vs=> ?_) (fun w vs hK hp a hF=> ?_)
 ·obtain⟨d,op,ty,g,v,h1,h2,_⟩:=key vs;unfold lE;rw[h1];exact h2
 ·obtain⟨d,op,ty,g,v,h1,h2,h3,h4,h5⟩:=key vs;obtain⟨e1,e2⟩:=IM h1;refine iw e1 hF rfl h3 rfl h4 (fun a' ea _=>bl (KZ h1) ⟨v,?_,Kp.refl w,?_⟩)
  ·rw[e2];exact ea
  ·rw[h5];rfl
theorem K0{k:Nat}{c:Code}{env:Env}{d:Option Nat}{ad:Addr}(hk:Wf P c N env k=some (d,ad)):∃t x ty g,ay c k=some (d,.load t x,ty,g)∧bt c g env=some true∧gq d N=true∧xu P t=true∧ev env x=some (vP ad):=by
 unfold Wf at hk;split at hk
 ·rename_i h0;split at hk
  ·rename_i h1 h2 h3 h4;simp only[cP,cF]at hk;obtain⟨rfl,rfl⟩:=hk;exact⟨_,_,_,_,h0,h1,h2,h3,h4⟩
  ·cases hk
 ·cases hk
theorem Wn{k:Nat}{c:Code}{env:Env}{d:Option Nat}{ad:Addr}{n:Nat}(hk:lsE P c N env k=some (d,ad,some n)):∃t x ty g,ay c k=some (d,.load t x,ty,g)∧bt c g env=some true∧gq d N=true∧yH P t=some n∧ev env x=some (vP ad):=by
 unfold lsE at hk;split at hk
 ·rename_i h0;split at hk
  ·rename_i h1 h2 h4;simp only[cP,cF]at hk;obtain⟨rfl,rfl,h3⟩:=hk;exact⟨_,_,_,_,h0,h1,h2,h3,h4⟩
  ·cases hk
 ·cases hk
theorem K1{k:Nat}{c:Code}{env:Env}{d:Option Nat}{A:ao}{n size:Nat}{j:Int}(hk:Wg P c N env k=some (d,A,n,size,j)):∃t x y ty g cap e kd,ay c k=some (d,.indexAddr t x y,ty,g)∧bt c g env=some true∧gq d N=true∧ev env x=some (vS A n cap)∧ev env y=some (.int kd j)∧P.underlying t=some (.slice e)∧(P.info? e).map (·.size)=some size:=by
 unfold Wg at hk;split at hk
 ·rename_i g0;split at hk
  ·rename_i g1 g2 g3 g4;split at hk
   ·rename_i e ht;split at hk
    ·rename_i inf hs;simp only[cP,cF]at hk;obtain⟨rfl,rfl,rfl,rfl,rfl⟩:=hk;exact⟨_,_,_,_,_,_,_,_,g0,g1,g2,g3,g4,ht,by rw[hs];rfl⟩
    ·cases hk
   ·cases hk
  ·cases hk
 ·cases hk
theorem Wo{k:Nat}{c:Code}{env:Env}{d:Option Nat}{z:Int}(hk:arE c N env k=some (d,z)):∃op t x y t' ty g i j,ay c k=some (d,.binOp op t x y t',ty,g)∧bt c g env=some true∧gq d N=true∧ev env x=some (vI i)∧ev env y=some (vI j)∧arI op i j=some z:=by
 unfold arE at hk;split at hk
 ·rename_i g0;split at hk
  ·rename_i g1 g2 g3 g4;split at hk
   ·rename_i z hz;simp only[cP,cF]at hk;obtain⟨rfl,rfl⟩:=hk;exact⟨_,_,_,_,_,_,_,_,_,g0,g1,g2,g3,g4,hz⟩
   ·cases hk
  ·cases hk
 ·cases hk
theorem dL(ad:Addr)(v:Value)(hc:∀w',Kp wr w'→w'.cell? ad=some v)(hv:sp i= .bb v:=by rfl)(hg:∀vs,lE c i (bW c i sp vs env0)=some true:=by intro _;kernel_rfl)(hk:∀vs,Wf P (one c i) N (bW c i sp vs env0) 0=some (aQ c i,ad):=by intro _;kernel_rfl)(he:ay (one c i) 1=none:=by kernel_rfl):jx P c Q N env0 wr sp i:=by
 refine oU hg (fun w vs hK hp a hF=> ?_);obtain⟨t,x,ty,g,h0,h1,h2,h3,h4⟩:=K0 (hk vs);exact sJ h0 hF h1 h2 rfl h4 h3 (hc w hK) (fun a' ea _=>bl he ⟨v,ea,Kp.refl w,by rw[hv];rfl⟩)
theorem dS(ad:Addr)(vs:aO)(hc:∀w',Kp wr w'→∀j v,vs[j]?=some v→w'.cell? (ad.add j)=some v)(hv:sp i= .bb (.agg vs.toArray):=by rfl)(hg:∀vs,lE c i (bW c i sp vs env0)=some true:=by intro _;kernel_rfl)(hk:∀Z3,lsE P (one c i) N (bW c i sp Z3 env0) 0=some (aQ c i,ad,some vs.length):=by intro _;kernel_rfl)(he:ay (one c i) 1=none:=by kernel_rfl):jx P c Q N env0 wr sp i:=by
 refine oU hg (fun w Z3 hK hp a hF=> ?_);obtain⟨t,x,ty,g,h0,h1,h2,h3,h4⟩:=Wn (hk Z3);exact ix h0 hF h1 h2 rfl h4 h3 (hc w hK) (fun a' ea _=>bl he ⟨_,ea,Kp.refl w,by rw[hv];rfl⟩)
theorem dI(ad:Addr)(n size:Nat)(j:Int)(h0:0≤j:=by omega)(h1:j<n:=by omega)(hv:sp i= .bb (vP (ad.add (j.toNat*size))):=by rfl)(hg:∀vs,lE c i (bW c i sp vs env0)=some true:=by intro _;kernel_rfl)(hk:∀vs,Wg P (one c i) N (bW c i sp vs env0) 0=some (aQ c i,some ad,n,size,j):=by intro _;kernel_rfl)(he:ay (one c i) 1=none:=by kernel_rfl):jx P c Q N env0 wr sp i:=by
 refine oU hg (fun w vs hK hp a hF=> ?_);obtain⟨t,x,y,ty,g,cap,e,kd,g0,g1,g2,g3,g4,g5,g6⟩:=K1 (hk vs);exact sK g0 hF g1 g2 rfl g3 g4 rfl g5 g6 h0 h1 (fun a' ea _=>bl he ⟨_,ea,Kp.refl w,by rw[hv];rfl⟩)
theorem dA(z:Int)(h1: -9223372036854775808≤z:=by omega)(h2:z≤9223372036854775807:=by omega)(hv:sp i= .bb (vI z):=by rfl)(hg:∀vs,lE c i (bW c i sp vs env0)=some true:=by intro _;kernel_rfl)(hk:∀vs,arE (one c i) N (bW c i sp vs env0) 0=some (aQ c i,z):=by intro _;kernel_rfl)(he:ay (one c i) 1=none:=by kernel_rfl):jx P c Q N env0 wr sp i:=by
 refine oU hg (fun w vs hK hp a hF=> ?_);obtain⟨op,t,x,y,t',ty,g,i1,j1,g0,g1,g2,g3,g4,g5⟩:=Wo (hk vs);exact jk g0 hF g1 g2 rfl g3 g4 g5 h1 h2 (fun a' ea _=>bl he ⟨_,ea,Kp.refl w,by rw[hv];rfl⟩)
theorem dC(b:Bool){B:Bool}(hb:B=b)(hv:sp i= .bb (vB B):=by rfl)(hg:∀vs,lE c i (bW c i sp vs env0)=some true:=by intro _;kernel_rfl)(hk:∀vs,cmE (one c i) N (bW c i sp vs env0) 0=some b:=by intro _;kernel_rfl)(he:ay (one c i) 1=none:=by kernel_rfl):jx P c Q N env0 wr sp i:=by
 refine oU hg (fun w vs hK hp a hF=> ?_);obtain⟨d,op,t,x,y,t',ty,g,kd,i1,j1,g0,g1,g2,g3,g4,g5⟩:=KX (hk vs);have hd:aQ c i=d:=by
  cases hc:ay c i with
  |none=>
   have:=hg vs;unfold lE at this;rw[hc]at this;cases this
  |some o=>
   obtain⟨e1,e2⟩:=IM hc;rw[e1]at g0;simp only[cP,cF]at g0;rw[e2,g0.1]
 exact FD g0 hF g1 g2 rfl g3 g4 g5 (fun B' hB' a' ea _=>bl he ⟨_,by rw[hd];exact ea,Kp.refl w,by rw[hv,hB',hb];rfl⟩)
end
section
variable {P : Program} {c : Code} {Q : Exit → Act → World → Prop} {N : FN} {i : Nat} {env0 : Env} {sp : Nat → Spec} {J : (Nat → Bool) → (Nat → Value) → World → Prop}
theorem IP(hg:∀vs,lE c i (bW c i sp vs env0)=some true)(h:∀(w:World) (ls:Nat→Bool) (vs:Nat→Value),J ls vs w→ls i=false→ve c ls→(∀j,j∈dW c i→ls j=true∧(sp j).ok (vs j) w)→∀a,Fr a N (bW c i sp vs env0)→aV P (one c i) (fun a' w'=>∃v,a'=a.put (aQ c i) v∧(sp i).ok v w'∧J (pj ls i) (vd vs i v) w') Q 0 a w):wz P c Q N env0 sp J i:=by
 intro a w ls vs rest hJ hi hc hp hF;exact⟨true,fun g o7=>sW (DR (hg vs) g o7),fun _=>h w ls vs hJ hi hc hp a hF.left,fun h=>Bool.noConfusion h⟩
theorem j9(hJ:∀ls vs v w,J ls vs w→J (pj ls i) (vd vs i v) w)(h:∀vs,p1E P c N i (bW c i sp vs env0)=dvE (sp i):=by intro _;kernel_rfl)(h2:isS (dvE (sp i))=true:=by kernel_rfl):wz P c Q N env0 sp J i:=by
 have key:∀vs,∃d op ty g v,ay c i=some (d,op,ty,g)∧bt c g (bW c i sp vs env0)=some true∧gq d N=true∧qz P (bW c i sp vs env0) op=some v∧sp i= .bb v:=by
  intro vs;have h3:=h vs;cases hs:sp i with
  |any Φ hh=>rw[hs]at h2;cases h2
  |bb u=>
   rw[hs]at h3;unfold p1E dvE at h3;simp only at h3;split at h3
   ·rename_i h4;split at h3
    ·rename_i h5 h6;exact⟨_,_,_,_,u,h4,h5,h6,h3,rfl⟩
    ·cases h3
   ·cases h3
 refine IP (fun vs=> ?_) (fun w ls vs hj hi hc hp a hF=> ?_)
 ·obtain⟨d,op,ty,g,v,h1,h2,_⟩:=key vs;unfold lE;rw[h1];exact h2
 ·obtain⟨d,op,ty,g,v,h1,h2,h3,h4,h5⟩:=key vs;obtain⟨e1,e2⟩:=IM h1;refine iw e1 hF rfl h3 rfl h4 (fun a' ea _=>bl (KZ h1) ⟨v,?_,?_,hJ _ _ _ _ hj⟩)
  ·rw[e2];exact ea
  ·rw[h5];rfl
theorem HU(ad:Addr)(n size:Nat)(j:Int)(hJ:∀ls vs v w,J ls vs w→J (pj ls i) (vd vs i v) w)(h0:0≤j:=by omega)(h1:j<n:=by omega)(hv:sp i= .bb (vP (ad.add (j.toNat*size))):=by rfl)(hg:∀vs,lE c i (bW c i sp vs env0)=some true:=by intro _;kernel_rfl)(hk:∀vs,Wg P (one c i) N (bW c i sp vs env0) 0=some (aQ c i,some ad,n,size,j):=by intro _;kernel_rfl)(he:ay (one c i) 1=none:=by kernel_rfl):wz P c Q N env0 sp J i:=by
 refine IP hg (fun w ls vs hj hi hc hp a hF=> ?_);obtain⟨t,x,y,ty,g,cap,e,kd,g0,g1,g2,g3,g4,g5,g6⟩:=K1 (hk vs);exact sK g0 hF g1 g2 rfl g3 g4 rfl g5 g6 h0 h1 (fun a' ea _=>bl he ⟨_,ea,by rw[hv];rfl,hJ _ _ _ _ hj⟩)
theorem AQ(ad:Addr)(v:Value)(hJ:∀ls vs v w,J ls vs w→J (pj ls i) (vd vs i v) w)(hc:∀w ls vs,J ls vs w→ls i=false→ve c ls→(∀j,j∈dW c i→ls j=true)→w.cell? ad=some v)(hv:sp i= .bb v:=by rfl)(hg:∀vs,lE c i (bW c i sp vs env0)=some true:=by intro _;kernel_rfl)(hk:∀vs,Wf P (one c i) N (bW c i sp vs env0) 0=some (aQ c i,ad):=by intro _;kernel_rfl)(he:ay (one c i) 1=none:=by kernel_rfl):wz P c Q N env0 sp J i:=by
 refine IP hg (fun w ls vs hj hi u9 hp a hF=> ?_);obtain⟨t,x,ty,g,h0,h1,h2,h3,h4⟩:=K0 (hk vs);exact sJ h0 hF h1 h2 rfl h4 h3 (hc w ls vs hj hi u9 (fun j FF=>(hp j FF).1)) (fun a' ea _=>bl he ⟨v,ea,by rw[hv];rfl,hJ _ _ _ _ hj⟩)
end
end Go.Mor
namespace Go.Mor
theorem K2{α:Type}[BEq α][LawfulBEq α]{a b:α}(h:false=(a==b)):¬(a=b):=fun e=>x9 (h.trans (ax.2 e))
theorem znn{α:Type}[BEq α][LawfulBEq α]{a b:α}(h:false=(a !=b)):¬(a≠b):=fun e=>x9 (h.trans (de.2 e))
end Go.Mor
namespace Go.Mor
open Go.RowKit
abbrev dU:Spec:= .bb undef
theorem lz{p:Nat→Prop}:∀i,i<0→p i:=FH
theorem la{p:Nat→Prop}{n:Nat}(h:∀i,i<n→p i)(hn:p n):∀i,i<n+1→p i:=FI h hn
section
variable {P : Program} {c : Code} {Q : Exit → Act → World → Prop} {N : FN} {i : Nat} {env0 : Env} {wr : World} {sp : Nat → Spec}
theorem dK(hv:sp i= .bb undef:=by rfl)(hg:∀vs,lE c i (bW c i sp vs env0)=some false:=by intro _;kernel_rfl):jx P c Q N env0 wr sp i:=by
 intro a w vs rest hK hp hF;exact⟨false,fun g o7=>sW (DR (hg vs) g o7),fun h=>Bool.noConfusion h,fun _=>by rw[hv];rfl⟩
theorem HV(A:ao)(ad:Addr)(n size:Nat)(j:Int)(hA:A=some ad)(h0:0≤j:=by omega)(h1:j<n:=by omega)(hv:sp i= .bb (vP (ad.add (j.toNat*size))):=by rfl)(hg:∀vs,lE c i (bW c i sp vs env0)=some true:=by intro _;kernel_rfl)(hk:∀vs,Wg P (one c i) N (bW c i sp vs env0) 0=some (aQ c i,A,n,size,j):=by intro _;kernel_rfl)(he:ay (one c i) 1=none:=by kernel_rfl):jx P c Q N env0 wr sp i:=dI ad n size j h0 h1 hv hg (fun vs=>by rw[hk vs,hA]) he
theorem Wp{k:Nat}{c:Code}{env:Env}{d:Option Nat}{f:FuncId}{vs:Array Value}(hk:clE P c N env k=some (d,f,vs)):∃x args ts ty g us cap,ay c k=some (d,.call {callee:= .value x,args:=args,argTypes:=ts},ty,g)∧bt c g env=some true∧gq d N=true∧ev env x=some (.func (.func f) #[] cap)∧P2 env args.toList=some us∧mZ P f=true∧(us++cap.toList).toArray=vs:=by
 unfold clE at hk;split at hk
 ·rename_i d' x args ts ty g g0;split at hk
  ·rename_i f' first cap us g1 g2 g3 g4
   split at hk
   ·rename_i hs hf;simp only[cP,cF]at hk;obtain⟨rfl,rfl,hv⟩:=hk;have IG:first=#[]:=DI hs
    subst IG;exact⟨x,args,ts,ty,g,us,cap,g0,g1,g2,g3,g4,hf,hv⟩
   ·cases hk
  ·cases hk
 ·cases hk
theorem dD{f:FuncId}{vs:Array Value}{u u':Value}(hc:∀w,Kp wr w→Calls P f vs w (ff fun v w'=>v=u∧Mem aX w w' []))(hu:u=u')(hv:sp i= .bb u':=by rfl)(hg:∀vs,lE c i (bW c i sp vs env0)=some true:=by intro _;kernel_rfl)(hk:∀Z3,clE P (one c i) N (bW c i sp Z3 env0) 0=some (aQ c i,f,vs):=by intro _;kernel_rfl)(he:ay (one c i) 1=none:=by kernel_rfl):jx P c Q N env0 wr sp i:=by
 refine oU hg (fun w Z3 hK hp a hF=> ?_);obtain⟨x,args,ts,ty,g,us,cap,g0,g1,g2,g3,g4,g5,g6⟩:=Wp (hk Z3);refine lv (Φ:=fun v w'=>v=u∧Mem aX w w' []) g0 hF g1 g2 rfl (cap:=cap.toList) (by simpa using g3) g4 g5 (by rw[g6];exact hc w hK) (fun v w' MF a' ea _=>bl he ⟨v,ea,MF.2,?_⟩);rw[hv,MF.1];exact hu
end
def mvL:Nat→List bx→List bx
 |0,L=>L
 |_+1,[]=>[]
 |n+1,a::L=>match mvL n L with
  |[]=>[a]
  |b::M=>b::a::M
def odL:List Nat→List bx→List bx
 |[],L=>L
 |i::l,L=>odL l (mvL i L)
def tkL:Nat→List bx→List bx
 |0,_=>[]
 |_+1,[]=>[]
 |n+1,a::L=>a::tkL n L
theorem FY:∀(n:Nat) (L:List bx),L.Perm (mvL n L)
 |0,L=>List.Perm.refl L
 |_+1,[]=>List.Perm.refl []
 |n+1,a::L=>by
  unfold mvL;have h:=FY n L;cases hm:mvL n L with
  |nil=>rw[hm]at h;exact h.cons a
  |cons b M=>rw[hm]at h;exact(h.cons a).trans (List.Perm.swap b a M)
theorem FZ:∀(l:List Nat) (L:List bx),L.Perm (odL l L)
 |[],L=>List.Perm.refl L
 |i::l,L=>(FY i L).trans (FZ l _)
theorem zd:∀(n:Nat) (L:List bx),sn (List.replicate n true) L=tkL n L
 |0,[]=>rfl
 |0,_::_=>rfl
 |_+1,[]=>rfl
 |n+1,a::L=>by rw[nX];show a::sn (List.replicate n true) L=a::tkL n L;rw[zd n L]
section
variable {S : Nat → Prop} {w0 w w' : World} {L Lr L' : List bx} {r r' s s' : bx}
theorem Mem.nf(h:Mem S w0 w L)(e:L=L':=by dsimp only[List.set_cons_zero,List.set_cons_succ,List.cons_append,List.nil_append]):Mem S w0 w L':=e▸h
theorem Mem.cl(h:Mem S w0 w L)(h':Mem aX w w' Lr)(e:L++Lr=L':=by dsimp only[List.cons_append,List.nil_append,List.append_nil]):Mem S w0 w' L':=e▸h.call h'
theorem Mem.md(h:Mem S w0 w L)(i:Nat)(hi:L[i]?=some r)(h':Mem r.fp w w' (r'::Lr))(e:L.set i r'++Lr=L':=by dsimp only[List.set_cons_zero,List.set_cons_succ,List.cons_append,List.nil_append,List.append_nil]):Mem S w0 w' L':=e▸h.mod i hi h'
theorem Mem.od(h:Mem S w0 w L)(l:List Nat)(k:Nat)(e:tkL k (odL l L)=L':=by dsimp only[tkL,odL,mvL]):Mem S w0 w L':=e▸(h.perm (FZ l L)).pick _ (zd k _)
theorem Mem.tk(h:Mem S w0 w L)(k:Nat)(e:tkL k L=L':=by rfl):Mem S w0 w L':=e▸h.pick _ (zd k _)
end
abbrev pT(b o:Nat):Value:= .pointer (some (ah b o))
abbrev sM(g:Nat):ao:=some (aZ g)
abbrev nV(k:Nat):Value:=vI (k:Int)
theorem Fr.kp{a:Act}{N:FN}{env:Env}(h:Fr a N env)(keep:List Nat){Dl:Env}(e:nR keep env=Dl:=by kernel_rfl):Fr a N Dl:=h.keep e
section
variable {P : Program} {c : Code} {K : Act → World → Prop} {Q : Exit → Act → World → Prop} {a : Act} {w w0 : World} {S : Nat → Prop} {L : List bx} {k : Nat} {N : FN} {env : Env}
theorem fX(I:Nat→Act→World→Prop){n:Nat}(h0:I n a w)(round:∀n a w,I n a w→W P (Code.l c) (fun a' w'=>∃m,m<n∧I m a' w') Q a w)(hk:kind c= .loop:=by kernel_rfl):W P c K Q a w:=Qbp hk I h0 round
theorem cE(n k':Nat){news:Env}(keys:List Nat)(hF:Fr a N env)(hp:(fE P c N n k env).map (nR keys)=some news)(h:∀a',Fr a' N (news++env)→aV P c K Q k' a' w)(hc:sT keys env (dstsOf c n k)=true:=by kernel_rfl)(hk:k+n=k':=by rfl):aV P c K Q k a w:=IE n k' keys hF hp hc hk h
def bxE(_P:Program)(c:Code)(N:FN)(env:Env)(k:Nat):Option (Option Nat×TypeId×Value):=match ay c k with
 |some (d,.box t x,_,g)=>match bt c g env,gq d N,ev env x with
  |some true,true,some v=>some (d,t,v)
  |_,_,_=>none
 |_=>none
theorem lO(hM:Mem S w0 w L)(t:TypeId)(v:Value)(cs:aO)(h:∀b w',w0.heap.size≤b→Mem S w0 w' (L++[.aL b t cs])→∀a,Fr a N (cO env (aQ c k) (vP (aZ b)))→aV P c K Q (k+1) a w')(jW:v.cells=cs.toArray:=by rfl)(hk:bxE P c N env k=some (aQ c k,t,v):=by kernel_rfl):∀a,Fr a N env→aV P c K Q k a w:=by
 intro a hF;unfold bxE at hk;split at hk
 ·rename_i g0;split at hk
  ·rename_i g1 g2 g3;simp only[cP,cF]at hk;obtain⟨e1,rfl,rfl⟩:=hk;rw[e1]at g0 g2;exact yJ g0 hF g1 g2 rfl g3 jW hM (fun b w' hb _ AP _ a' _ Fg=>h b w' hb AP a' Fg)
  ·cases hk
 ·cases hk
def alE(_P:Program)(c:Code)(N:FN)(env:Env)(k:Nat):Option (Option Nat×TypeId):=match ay c k with
 |some (d,.alloc t,_,g)=>match bt c g env,gq d N with
  |some true,true=>some (d,t)
  |_,_=>none
 |_=>none
theorem m8(hM:Mem S w0 w L)(t:TypeId)(cs:aO)(h:∀b w',w0.heap.size≤b→Mem S w0 w' (L++[.aL b t cs])→∀a,Fr a N (cO env (aQ c k) (vP (aZ b)))→aV P c K Q (k+1) a w')(hz:(P.info? t).map (fun i=>i.zero.map (fun z=>z.cells.toList))=some (some cs):=by kernel_rfl)(hk:alE P c N env k=some (aQ c k,t):=by kernel_rfl):∀a,Fr a N env→aV P c K Q k a w:=by
 intro a hF;unfold alE at hk;split at hk
 ·rename_i g0;split at hk
  ·rename_i g1 g2;simp only[cP,cF]at hk;obtain⟨e1,rfl⟩:=hk;rw[e1]at g0 g2;exact Ij g0 hF g1 g2 rfl hz hM (fun b w' hb _ AP _ a' _ Fg=>h b w' hb AP a' Fg)
  ·cases hk
 ·cases hk
def ssE(P:Program)(c:Code)(N:FN)(env:Env)(k:Nat):Option (Option Nat×Nat×Nat×Array Value×Option Nat):=match ay c k with
 |some (d,.store t x y,_,g)=>match bt c g env,gq d N,ev env x,ev env y with
  |some true,true,some (.pointer (some ⟨b,o,none⟩)),some (.agg vs)=>some (d,b,o,vs,yH P t)
  |_,_,_,_=>none
 |_=>none
theorem nG(hM:Mem S w0 w L)(i:Nat)(vs:aO){b t0:Nat}{cs:aO}(hi:L[i]?=some (.aL b t0 cs))(h:∀w',Mem S w0 w' (L.set i (.aL b t0 vs))→∀a,Fr a N (cO env (aQ c k) undef)→aV P c K Q (k+1) a w')(hv:vs.all Value.oneCell'=true:=by rfl)(ho:cs.length=vs.length:=by rfl)(hk:ssE P c N env k=some (aQ c k,b,0,vs.toArray,some vs.length):=by kernel_rfl):∀a,Fr a N env→aV P c K Q k a w:=by
 intro a hF;unfold ssE at hk;split at hk
 ·rename_i g0;split at hk
  ·rename_i g1 g2 g3 g4;simp only[cP,cF]at hk;obtain⟨e1,rfl,rfl,rfl,e5⟩:=hk;rw[e1]at g0 g2;exact xv g0 hF g1 g2 rfl g3 g4 e5 (fW.1 hv) hM i hi ho (fun w' AP _ a' _ Fg=>h w' AP a' Fg)
  ·cases hk
 ·cases hk
end
section
variable {P : Program} {c : Code} {K : Act → World → Prop} {Q : Exit → Act → World → Prop} {N : FN} {env0 : Env} {wr : World} {a : Act}
theorem mi(sp:Nat→Spec)(hF:Fr a N env0)(oQ:∀i,i<(opsOf c).size→jx P c Q N env0 wr sp i)(h:∀a' w' (vs:Nat→Value),Kp wr w'→(∀j,j<(opsOf c).size→(sp j).ok (vs j) w')→Fr a' N (qC c sp vs (List.range (opsOf c).size)++tI c env0)→K a' w')(hk:kind c= .region true:=by kernel_rfl)(hm:P.follows .mixedOrders=true:=by kernel_rfl)(hd:ml c=true:=by kernel_rfl)(nE:gU c=true:=by kernel_rfl)(tL:qD env0=true:=by kernel_rfl)(tv:(List.range (opsOf c).size).all (fun i=>gq (aQ c i) N)=true:=by kernel_rfl):W P c K Q a wr:=Qbs hk hm sp hd nE hF tL tv oQ h
theorem K3(sp:Nat→Spec)(J:(Nat→Bool)→(Nat→Value)→World→Prop)(hF:Fr a N env0)(Ir:∀j v w w',(sp j).ok v w→(sp j).ok v w')(h0:J (fun _=>false) (fun _=>undef) wr.drew)(oQ:∀i,i<(opsOf c).size→wz P c Q N env0 sp J i)(h:∀a' w' (ls:Nat→Bool) (vs:Nat→Value),(∀j,j<(opsOf c).size→ls j=true)→J ls vs w'→(∀j,j<(opsOf c).size→(sp j).ok (vs j) w')→Fr a' N (qC c sp vs (List.range (opsOf c).size)++tI c env0)→K a' w')(hk:kind c= .region true:=by kernel_rfl)(hm:P.follows .mixedOrders=true:=by kernel_rfl)(hd:ml c=true:=by kernel_rfl)(nE:gU c=true:=by kernel_rfl)(tL:qD env0=true:=by kernel_rfl)(tv:(List.range (opsOf c).size).all (fun i=>gq (aQ c i) N)=true:=by kernel_rfl):W P c K Q a wr:=VU hk hm sp J hd nE hF tL tv Ir h0 oQ h
end
section
variable {P : Program} {c : Code} {K : Act → World → Prop} {Q : Exit → Act → World → Prop} {w w0 : World} {S : Nat → Prop} {L : List bx} {k : Nat} {N : FN} {env : Env} {a : Act}
theorem F0(d:Nat)(x y:Operand)(t ty:TypeId)(hF:Fr a N env){e size bytes:Nat}{z:Value}{A B:ao}{n cap m cap':Nat}{xs news:aO}(hM:Mem S w0 w L)(i:Nat)(hL:L[i]?=some (.row e size A n cap xs))(kJ:(bx.rd B news).holds w)(hl:news.length=m*size)(h1:∀u∈news,u.oneCell'=true)(hb:(n+m)*bytes≤140737488355328)(Mv:n+m≤maxLen)(h:∀A' c' w',Mem S w0 w' (L.set i (.row e size A' (n+m) c' (xs++news)))→Mem (bx.row e size A n cap xs).fp w w' [.row e size A' (n+m) c' (xs++news)]→∀a',a'=a.put (some d) (vS A' (n+m) c')→Fr a' N (cO env (some d) (vS A' (n+m) c'))→aV P c K Q (k+1) a' w')(hk:ay c k=some (some d,.call {callee:= .builtin .append,args:=#[x,y],argTypes:=#[t,t]},ty,none):=by kernel_rfl)(hd:gq (some d) N=true:=by kernel_rfl)(ht:P.underlying t=some (.slice e):=by kernel_rfl)(hi:(P.info? e).map (fun i=>(i.size,i.bytes,i.zero))=some (size,bytes,some z):=by kernel_rfl)(Il:Nat.beq z.cells.size size=true:=by kernel_rfl)(kZ:Nat.blt 0 size=true:=by kernel_rfl)(hx:ev env x=some (vS A n cap):=by kernel_rfl)(hy:ev env y=some (vS B m cap'):=by kernel_rfl):aV P c K Q k a w:=wy hk hF rfl hd rfl ht hi Il kZ hx hy hM i hL kJ hl h1 hb Mv h
theorem p6(d:Nat)(t:TypeId)(len:Nat)(ps:Array (Nat×Operand))(ty:TypeId)(hF:Fr a N env){e size:Nat}{zs:aO}{vs:List (Nat×Value)}{cs:aO}(hM:Mem S w0 w L)(h:∀b w',w0.heap.size≤b→w.heap.size≤b→Mem S w0 w' (L++[.row e size (some (aZ b)) len len cs])→Mem aX w w' [.row e size (some (aZ b)) len len cs]→∀a',a'=a.put (some d) (vS (some (aZ b)) len len)→Fr a' N (cO env (some d) (vS (some (aZ b)) len len))→aV P c K Q (k+1) a' w')(hk:ay c k=some (some d,.buildSlice t len ps,ty,none):=by kernel_rfl)(hd:gq (some d) N=true:=by kernel_rfl)(ht:P.underlying t=some (.slice e):=by kernel_rfl)(hi:(P.info? e).map (fun i=>(i.size,i.zero.map (·.cells.toList)))=some (size,some zs):=by kernel_rfl)(hp:parts env ps.toList=some vs:=by kernel_rfl)(kZ:(Nat.ble 1 (len*size)&&Nat.ble (len*size) 1000)=true:=by kernel_rfl)(P8:Instr.fill (fun i=>some (i*size,size)) ((Array.range (len*size)).map (zs.toArray[· % zs.toArray.size]!)) vs=some cs.toArray:=by kernel_rfl)(hl:Nat.beq cs.length (len*size)=true:=by kernel_rfl):aV P c K Q k a w:=pY hk hF rfl hd rfl ht hi hp kZ P8 hl hM h
theorem Vj(d:Nat)(t:TypeId)(x y:Operand)(ty:TypeId)(hF:Fr a N env){e bytes:Nat}{z:Value}{n:Nat}{i:Int}(hb:bytes*n≤140737488355328)(hl:n≤maxLen)(hM:Mem S w0 w L)(h:∀b w',w0.heap.size≤b→w.heap.size≤b→Mem S w0 w' (L++[.row e 1 (some (aZ b)) n n (List.replicate n z)])→Mem aX w w' [.row e 1 (some (aZ b)) n n (List.replicate n z)]→∀a',a'=a.put (some d) (vS (some (aZ b)) n n)→Fr a' N (cO env (some d) (vS (some (aZ b)) n n))→aV P c K Q (k+1) a' w')(hk:ay c k=some (some d,.makeSlice t x y,ty,none):=by kernel_rfl)(hd:gq (some d) N=true:=by kernel_rfl)(hx:ev env x=some (vI i):=by kernel_rfl)(hy:ev env y=some (vI i):=by kernel_rfl)(hn:i=(n:Int):=by rfl)(ht:P.underlying t=some (.slice e):=by kernel_rfl)(hi:(P.info? e).map (fun i=>(i.size,i.bytes,i.zero))=some (1,bytes,some z):=by kernel_rfl)(hz:z.oneCell'=true:=by rfl):aV P c K Q k a w:=lu hk hF rfl hd rfl hx hy hn ht hi hz hb hl hM h
end
theorem oh{p:Nat→Prop}{n:Nat}(h:∀i,i<n→p i)(h0:p n)(h1:p (n+1)):∀i,i<n+2→p i:=la (la h h0) h1
theorem kB{p:Nat→Prop}{n:Nat}(h:∀i,i<n→p i)(h0:p n)(h1:p (n+1))(h2:p (n+2)):∀i,i<n+3→p i:=la (la (la h h0) h1) h2
theorem qh{p:Nat→Prop}{n:Nat}(h:∀i,i<n→p i)(h0:p n)(h1:p (n+1))(h2:p (n+2))(h3:p (n+3))(h4:p (n+4)):∀i,i<n+5→p i:=la (la (la (la (la h h0) h1) h2) h3) h4
theorem lk{p:Nat→Prop}{n:Nat}(h:∀i,i<n→p i)(h0:p n)(h1:p (n+1))(h2:p (n+2))(h3:p (n+3))(h4:p (n+4))(h5:p (n+5))(h6:p (n+6))(h7:p (n+7)):∀i,i<n+8→p i:=la (la (la (la (la (la (la (la h h0) h1) h2) h3) h4) h5) h6) h7
theorem eL{p:Nat→Prop}{n:Nat}(h:∀i,i<n→p i)(h0:p n)(h1:p (n+1))(h2:p (n+2))(h3:p (n+3))(h4:p (n+4))(h5:p (n+5))(h6:p (n+6))(h7:p (n+7))(h8:p (n+8))(h9:p (n+9))(FV:p (n+10))(Qz:p (n+11)):∀i,i<n+12→p i:=la (la (la (la (la (la (la (la (la (la (la (la h h0) h1) h2) h3) h4) h5) h6) h7) h8) h9) FV) Qz
section
variable{P:Program}{c:Code}{Q:Exit→Act→World→Prop}{N:FN}{env0:Env}{wr:World}{sp:Nat→Spec}{n:Nat}
theorem k1_(h:∀i,i<n→jx P c Q N env0 wr sp i)(h1:sp n= .bb undef)(h2:∀vs,lE c n (bW c n sp vs env0)=some false):∀i,i<n+1→jx P c Q N env0 wr sp i:=la h (dK h1 h2)
theorem qd(h:∀i,i<n→jx P c Q N env0 wr sp i)(a0:sp (n+0)= .bb undef:=by rfl)(b0:∀vs,lE c (n+0) (bW c (n+0) sp vs env0)=some false:=by intro _;kernel_rfl)(a1:sp (n+1)= .bb undef:=by rfl)(b1:∀vs,lE c (n+1) (bW c (n+1) sp vs env0)=some false:=by intro _;kernel_rfl):∀i,i<n+2→jx P c Q N env0 wr sp i:=la (la (h) (dK a0 b0)) (dK a1 b1)
theorem rZ(h:∀i,i<n→jx P c Q N env0 wr sp i)(a0:sp (n+0)= .bb undef:=by rfl)(b0:∀vs,lE c (n+0) (bW c (n+0) sp vs env0)=some false:=by intro _;kernel_rfl)(a1:sp (n+1)= .bb undef:=by rfl)(b1:∀vs,lE c (n+1) (bW c (n+1) sp vs env0)=some false:=by intro _;kernel_rfl)(a2:sp (n+2)= .bb undef:=by rfl)(b2:∀vs,lE c (n+2) (bW c (n+2) sp vs env0)=some false:=by intro _;kernel_rfl)(a3:sp (n+3)= .bb undef:=by rfl)(b3:∀vs,lE c (n+3) (bW c (n+3) sp vs env0)=some false:=by intro _;kernel_rfl):∀i,i<n+4→jx P c Q N env0 wr sp i:=la (la (la (la (h) (dK a0 b0)) (dK a1 b1)) (dK a2 b2)) (dK a3 b3)
theorem Ai(h:∀i,i<n→jx P c Q N env0 wr sp i)(a0:sp (n+0)= .bb undef:=by rfl)(b0:∀vs,lE c (n+0) (bW c (n+0) sp vs env0)=some false:=by intro _;kernel_rfl)(a1:sp (n+1)= .bb undef:=by rfl)(b1:∀vs,lE c (n+1) (bW c (n+1) sp vs env0)=some false:=by intro _;kernel_rfl)(a2:sp (n+2)= .bb undef:=by rfl)(b2:∀vs,lE c (n+2) (bW c (n+2) sp vs env0)=some false:=by intro _;kernel_rfl)(a3:sp (n+3)= .bb undef:=by rfl)(b3:∀vs,lE c (n+3) (bW c (n+3) sp vs env0)=some false:=by intro _;kernel_rfl)(a4:sp (n+4)= .bb undef:=by rfl)(b4:∀vs,lE c (n+4) (bW c (n+4) sp vs env0)=some false:=by intro _;kernel_rfl)(a5:sp (n+5)= .bb undef:=by rfl)(b5:∀vs,lE c (n+5) (bW c (n+5) sp vs env0)=some false:=by intro _;kernel_rfl)(a6:sp (n+6)= .bb undef:=by rfl)(b6:∀vs,lE c (n+6) (bW c (n+6) sp vs env0)=some false:=by intro _;kernel_rfl)(a7:sp (n+7)= .bb undef:=by rfl)(b7:∀vs,lE c (n+7) (bW c (n+7) sp vs env0)=some false:=by intro _;kernel_rfl):∀i,i<n+8→jx P c Q N env0 wr sp i:=la (la (la (la (la (la (la (la (h) (dK a0 b0)) (dK a1 b1)) (dK a2 b2)) (dK a3 b3)) (dK a4 b4)) (dK a5 b5)) (dK a6 b6)) (dK a7 b7)
theorem YN(h:∀i,i<n→jx P c Q N env0 wr sp i)(a0:sp (n+0)= .bb undef:=by rfl)(b0:∀vs,lE c (n+0) (bW c (n+0) sp vs env0)=some false:=by intro _;kernel_rfl)(a1:sp (n+1)= .bb undef:=by rfl)(b1:∀vs,lE c (n+1) (bW c (n+1) sp vs env0)=some false:=by intro _;kernel_rfl)(a2:sp (n+2)= .bb undef:=by rfl)(b2:∀vs,lE c (n+2) (bW c (n+2) sp vs env0)=some false:=by intro _;kernel_rfl)(a3:sp (n+3)= .bb undef:=by rfl)(b3:∀vs,lE c (n+3) (bW c (n+3) sp vs env0)=some false:=by intro _;kernel_rfl)(a4:sp (n+4)= .bb undef:=by rfl)(b4:∀vs,lE c (n+4) (bW c (n+4) sp vs env0)=some false:=by intro _;kernel_rfl)(a5:sp (n+5)= .bb undef:=by rfl)(b5:∀vs,lE c (n+5) (bW c (n+5) sp vs env0)=some false:=by intro _;kernel_rfl)(a6:sp (n+6)= .bb undef:=by rfl)(b6:∀vs,lE c (n+6) (bW c (n+6) sp vs env0)=some false:=by intro _;kernel_rfl)(a7:sp (n+7)= .bb undef:=by rfl)(b7:∀vs,lE c (n+7) (bW c (n+7) sp vs env0)=some false:=by intro _;kernel_rfl)(a8:sp (n+8)= .bb undef:=by rfl)(b8:∀vs,lE c (n+8) (bW c (n+8) sp vs env0)=some false:=by intro _;kernel_rfl)(a9:sp (n+9)= .bb undef:=by rfl)(b9:∀vs,lE c (n+9) (bW c (n+9) sp vs env0)=some false:=by intro _;kernel_rfl)(a10:sp (n+10)= .bb undef:=by rfl)(fS:∀vs,lE c (n+10) (bW c (n+10) sp vs env0)=some false:=by intro _;kernel_rfl)(a11:sp (n+11)= .bb undef:=by rfl)(PQ:∀vs,lE c (n+11) (bW c (n+11) sp vs env0)=some false:=by intro _;kernel_rfl)(a12:sp (n+12)= .bb undef:=by rfl)(b12:∀vs,lE c (n+12) (bW c (n+12) sp vs env0)=some false:=by intro _;kernel_rfl)(a13:sp (n+13)= .bb undef:=by rfl)(b13:∀vs,lE c (n+13) (bW c (n+13) sp vs env0)=some false:=by intro _;kernel_rfl)(a14:sp (n+14)= .bb undef:=by rfl)(b14:∀vs,lE c (n+14) (bW c (n+14) sp vs env0)=some false:=by intro _;kernel_rfl)(a15:sp (n+15)= .bb undef:=by rfl)(jg:∀vs,lE c (n+15) (bW c (n+15) sp vs env0)=some false:=by intro _;kernel_rfl):∀i,i<n+16→jx P c Q N env0 wr sp i:=la (la (la (la (la (la (la (la (la (la (la (la (la (la (la (la (h) (dK a0 b0)) (dK a1 b1)) (dK a2 b2)) (dK a3 b3)) (dK a4 b4)) (dK a5 b5)) (dK a6 b6)) (dK a7 b7)) (dK a8 b8)) (dK a9 b9)) (dK a10 fS)) (dK a11 PQ)) (dK a12 b12)) (dK a13 b13)) (dK a14 b14)) (dK a15 jg)
end
theorem cU(ks:List Nat){N:FN}{env:Env}{G:Act→Prop}(h:∀a,Fr a N (nR ks env)→G a):∀a,Fr a N env→G a:=fun a hF=>h a (hF.keep rfl)
section
variable{P:Program}{c:Code}{K:Act→World→Prop}{Q:Exit→Act→World→Prop}{w:World}{N:FN}{env:Env}{k:Nat}
theorem zl_{ad:Addr}{v:Value}(hc:w.cell? ad=some v)(h:∀a,Fr a N (cO env (aQ c k) v)→aV P c K Q (k+1) a w)(hk:Wf P c N env k=some (aQ c k,ad):=by kernel_rfl):∀a,Fr a N env→aV P c K Q k a w:=bB ad v hc h hk
end
section
variable{P:Program}{c:Code}{Q:Exit→Act→World→Prop}{N:FN}{i:Nat}{env0:Env}{wr:World}{sp:Nat→Spec}
theorem dl_{ad:Addr}{v:Value}(hc:∀w',Kp wr w'→w'.cell? ad=some v)(hv:sp i= .bb v:=by rfl)(hg:∀vs,lE c i (bW c i sp vs env0)=some true:=by intro _;kernel_rfl)
    (hk:∀vs,Wf P (one c i) N (bW c i sp vs env0) 0=some (aQ c i,ad):=by intro _;kernel_rfl)(he:ay (one c i) 1=none:=by kernel_rfl):jx P c Q N env0 wr sp i:=dL ad v hc hv hg hk he
end
end Go.Mor
namespace Go.Mor
open Go.RowKit
theorem QD{P:Program}{c:Code}{K:Act→World→Prop}{Q:Exit→Act→World→Prop}{a:Act}{w:World}{k k':Nat}{N:FN}{env:Env}{d:Option Nat}{ty:Nat}{g:Option (Nat×Bool)}{ts:Array TypeId}{x y:Operand}(hk:ay c k=some (d,.call {callee:= .builtin .max,args:=#[x,y],argTypes:=ts},ty,g))(hF:Fr a N env)(hg:bt c g env=some true)(hd:gq d N=true)(jN:k+1=k'){kd:IntKind}{i j:Int}(hx:ev env x=some (.int kd i))(hy:ev env y=some (.int kd j))(z:Int)(hz:z=if i<j then j else i)(h:∀a',a'=a.put d (.int kd z)→Fr a' N (cO env d (.int kd z))→aV P c K Q k' a' w):aV P c K Q k a w:=by
 refine eD hk hF hg hd jN (fun o ho=> ?_) h;unfold execOp;rw[ho];simp only[resolve,invoke,builtin,cT,jO,dz,qB,ga,kc,hF.ev hx,hF.ev hy,Builtin.max_,List.foldlM];subst hz;simp[Builtin.max2];try (split<;>simp_all<;>omega)
section
variable {P : Program} {c : Code} {Q : Exit → Act → World → Prop} {N : FN} {env0 : Env} {wr : World} {sp : Nat → Spec} {i : Nat}
theorem dMN(kd:IntKind)(i1 j1 z:Int)(x y:Operand)(ts:Array TypeId)(ty:Nat)(g:Option (Nat×Bool))(hz:z=if j1<i1 then j1 else i1)(hv:sp i= .bb (.int kd z):=by rfl)(h0:ay (one c i) 0=some (aQ c i,.call {callee:= .builtin .min,args:=#[x,y],argTypes:=ts},ty,g):=by kernel_rfl)(hg:∀vs,lE c i (bW c i sp vs env0)=some true:=by intro _;kernel_rfl)(h1:∀vs,bt (one c i) g (bW c i sp vs env0)=some true:=by intro _;kernel_rfl)(h2:gq (aQ c i) N=true:=by kernel_rfl)(hx:∀vs,ev (bW c i sp vs env0) x=some (.int kd i1):=by intro _;kernel_rfl)(hy:∀vs,ev (bW c i sp vs env0) y=some (.int kd j1):=by intro _;kernel_rfl)(he:ay (one c i) 1=none:=by kernel_rfl):jx P c Q N env0 wr sp i:=by
 refine oU hg (fun w vs hK hp a hF=> ?_);exact y0 h0 hF (h1 vs) h2 rfl (hx vs) (hy vs) z hz (fun a' ea _=>bl he ⟨_,ea,Kp.refl w,by rw[hv];rfl⟩)
end
end Go.Mor
namespace Go.Mor
open Go.RowKit
def gK(Φ Ψ:Value→World→Prop):Ending→World→Prop
 | .returned v,w=>Φ v w
 | .panicked ch,w=>∃v,ch=[{v,recovered:=false}]∧Ψ v w
 | .outgrown,_=>False
theorem gK.DS{P:Program}{f:FuncId}{vs:Array Value}{w:World}{Φ Ψ Φ' Ψ':Value→World→Prop}(h:Calls P f vs w (gK Φ Ψ))(h1:∀v w',Φ v w'→Φ' v w')(h2:∀v w',Ψ v w'→Ψ' v w'):Calls P f vs w (gK Φ' Ψ'):=h.mono (by
  intro e w' he;cases e with
  |returned v=>exact h1 v w' he
  |panicked ch=>obtain⟨v,e,hv⟩:=he;exact⟨v,e,h2 v w' hv⟩
  |outgrown=>exact he.elim)
abbrev MG(v:Value):Exit:= .panic [{v,recovered:=false}]
def MH(P:Program)(c:Code)(N:FN)(env:Env)(k:Nat):Option (Option Nat×FuncId×aO):=match ay c k with
 |some (d,.call cc,_,g)=>match cc.callee,bt c g env,gq d N,P2 env cc.args.toList with
  | .value x,some true,true,some vs=>match ev env x with
   |some (.func (.func f) first cap)=>match mZ P f with
    |true=>some (d,f,first.toList++(vs++cap.toList))
    |false=>none
   |_=>none
  |_,_,_,_=>none
 |_=>none
def QE(c:Code)(N:FN)(env:Env)(k:Nat):Option (Option Nat×FuncId×aO):=match ay c k with
 |some (d,.call cc,_,g)=>match cc.callee,bt c g env,gq d N,P2 env cc.args.toList with
  | .value x,some true,true,some vs=>match ev env x with
   |some (.func (.func f) first cap)=>some (d,f,first.toList++(vs++cap.toList))
   |_=>none
  |_,_,_,_=>none
 |_=>none
theorem QF{P:Program}{c:Code}{N:FN}{env:Env}{k:Nat}{d:Option Nat}{f:FuncId}{vs:aO}(h:MH P c N env k=some (d,f,vs)):QE c N env k=some (d,f,vs)∧mZ P f=true:=by
 unfold MH at h;unfold QE;split at h
 ·rename_i d0 cc ty g yR;split at h
  ·rename_i x vs0 MJ hg hd yL;split at h
   ·rename_i f0 first cap hx
    split at h
    ·rename_i hf;simp only[cP,cF]at h;obtain⟨rfl,rfl,rfl⟩:=h;simp only[yR,MJ,hg,hd,yL,hx];exact⟨trivial,hf⟩
    ·cases h
   ·cases h
  ·cases h
 ·cases h
section
variable {P : Program} {c : Code} {K : Act → World → Prop} {Q : Exit → Act → World → Prop} {w w0 : World} {S : Nat → Prop} {L : List bx} {k : Nat} {N : FN} {env : Env}
theorem Cf{a:Act}(d:Option Nat)(f:FuncId)(vs:aO)(hF:Fr a N env)(hf:mZ P f=true)(hk:QE c N env k=some (d,f,vs)){Φ Ψ:Value→World→Prop}(hc:Calls P f vs.toArray w (gK Φ Ψ))(h:∀v w',Φ v w'→∀a',a'=a.put d v→Fr a' N (cO env d v)→aV P c K Q (k+1) a' w')(hp:∀v w',Ψ v w'→Q (MG v) a w'):aV P c K Q k a w:=by
 unfold QE at hk;split at hk
 ·rename_i d0 cc ty g yR;split at hk
  ·rename_i x vs0 MJ hg hd yL;split at hk
   ·rename_i f0 first cap hx
    ·simp only[cP,cF]at hk;obtain⟨rfl,rfl,rfl⟩:=hk;refine rq yR hF hg fun o h1 h2 h3 K' KC=> ?_
     unfold Oper.wp;have hr:(execOp a.eval o).run P w= .ok (.enter f0 (first.toList++(vs0++cap.toList)).toArray) w:=by
      unfold execOp;rw[h2];have e1:=tG hF yL;have e2:cc.args.map a.eval=vs0.toArray:=by apply iO;simpa using e1
      have e3:(first.toList++(vs0++cap.toList)).toArray=first++vs0.toArray++cap:=by apply iO;simp
      rw[e3];obtain⟨callee,args,ats⟩:=cc;simp only at MJ yL e2;subst MJ;simp[resolve,hF.ev hx,e2,Deferred.ofValue,invoke,ph hf]
     rw[hr,Oper.upon_enter];refine hc.mono ?_;intro e w' he;cases e with
     |returned v=>rw[h1];exact KC _ _ (h v w' he _ rfl (hF.put hd v))
     |panicked ch=>obtain⟨v,rfl,hv⟩:=he;exact hp v w' hv
     |outgrown=>exact he.elim
   ·cases hk
  ·cases hk
 ·cases hk
theorem ze{a:Act}(d:Option Nat)(f:FuncId)(vs:aO)(hF:Fr a N env)(hk:MH P c N env k=some (d,f,vs)){Φ Ψ:Value→World→Prop}(hc:Calls P f vs.toArray w (gK Φ Ψ))(h:∀v w',Φ v w'→∀a',a'=a.put d v→Fr a' N (cO env d v)→aV P c K Q (k+1) a' w')(hp:∀v w',Ψ v w'→Q (MG v) a w'):aV P c K Q k a w:=Cf d f vs hF (QF hk).2 (QF hk).1 hc h hp
theorem Qh0{f:FuncId}{vs:aO}{Φ Ψ:Value→World→Prop}(hf:mZ P f=true)(hc:Calls P f vs.toArray w (gK Φ Ψ))(hp:∀v w',Ψ v w'→∀a,Fr a N env→Q (MG v) a w')(h:∀v w',Φ v w'→∀a,Fr a N (cO env (aQ c k) v)→aV P c K Q (k+1) a w')(hk:QE c N env k=some (aQ c k,f,vs):=by kernel_rfl):∀a,Fr a N env→aV P c K Q k a w:=fun a hF=>Cf _ f vs hF hf hk hc (fun v w' hv a' _=>h v w' hv a') (fun v w' hv=>hp v w' hv a hF)
theorem uV{f:FuncId}{vs:aO}{Φ Ψ:Value→World→Prop}(hc:Calls P f vs.toArray w (gK Φ Ψ))(hp:∀v w',Ψ v w'→∀a,Fr a N env→Q (MG v) a w')(h:∀v w',Φ v w'→∀a,Fr a N (cO env (aQ c k) v)→aV P c K Q (k+1) a w')(hk:MH P c N env k=some (aQ c k,f,vs):=by kernel_rfl):∀a,Fr a N env→aV P c K Q k a w:=fun a hF=>ze _ f vs hF hk hc (fun v w' hv a' _=>h v w' hv a') (fun v w' hv=>hp v w' hv a hF)
end
section
variable {P : Program} {w : World} {N : FN} {env : Env} {fn : Func} {Φ Ψ : Value → World → Prop}
theorem DT(v:Value)(h:Φ v w)(hk:rsE fn env=some v:=by kernel_rfl)(hD:N.D=[]:=by rfl):∀a,Fr a N env→bodyPost P fn (gK Φ Ψ) .ret a w:=fun a hF=>by
 unfold rsE at hk;split at hk
 ·rename_i t ht;exact Qez hF (by apply iO;simpa using ht) hk h hD
 ·cases hk
theorem xo2(v v':Value)(h:Φ (.tuple #[v,v']) w)(hk:Wl fn env=some (v,v'):=by kernel_rfl)(hD:N.D=[]:=by rfl):∀a,Fr a N env→bodyPost P fn (gK Φ Ψ) .ret a w:=fun a hF=>by
 unfold Wl at hk;split at hk
 ·rename_i t u ht;split at hk
  ·rename_i h1 h2;simp only[cP,cF]at hk;obtain⟨rfl,rfl⟩:=hk;exact QeA hF (by apply iO;simpa using ht) h1 h2 h hD
  ·cases hk
 ·cases hk
theorem xo0(h:Φ (.tuple #[]) w)(hk:fn.results=#[]:=by rfl)(hD:N.D=[]:=by rfl):∀a,Fr a N env→bodyPost P fn (gK Φ Ψ) .normal a w:=fun _ hF=>QeB hF hk h hD
theorem zf{v:Value}{a:Act}(hF:Fr a N env)(h:Ψ v w)(hD:N.D=[]:=by rfl):bodyPost P fn (gK Φ Ψ) (MG v) a w:=⟨hF.defers.trans hD,v,rfl,h⟩
theorem AR{f:FuncId}(N:FN)(vs:aO)(hf:P.funcs[f]?=some fn)(h:∀a,Fr a N (Dr 0 vs)→W P (ou fn) (bodyPost P fn (gK Φ Ψ) .normal) (bodyPost P fn (gK Φ Ψ)) a w)(hb:fn.body.isSome=true:=by kernel_rfl)(hn:Nat.beq fn.ntmps N.n=true:=by kernel_rfl)(hl:Nat.ble vs.length N.n=true:=by kernel_rfl)(hD:N.D=[]:=by rfl):Calls P f vs.toArray w (gK Φ Ψ):=enter hf hb hn hl h hD
end
theorem IQ{P:Program}{c:Code}{K:Act→World→Prop}{Q:Exit→Act→World→Prop}{a:Act}{w:World}{k:Nat}{N:FN}{env:Env}{d:Option Nat}{x:Operand}{ty:Nat}{g:Option (Nat×Bool)}(hk:ay c k=some (d,.panic x,ty,g))(hF:Fr a N env)(hg:bt c g env=some true){t:TypeId}{v:Value}(hx:ev env x=some (.iface t v))(h:Q (MG (.iface t v)) a w):aV P c K Q k a w:=by
 refine rq hk hF hg fun o h1 h2 h3 K' KC=> ?_
 unfold Oper.wp;have hr:(execOp a.eval o).run P w= .halt (.panic (.iface t v)) w:=by unfold execOp;rw[h2];simp[hF.ev hx,Instr.panic,goPanic];try rfl
 rw[hr,Oper.upon_panic];exact h
end Go.Mor
