/-
  Texts of the proof, part 6.
-/
import Derived.Test.YtejbeeaomokjpaaZl5
import Derived.Test.YtejbeeaomokjpaaChecked
set_option maxRecDepth 10000
namespace Go.Proofs.Ytejbeeaomokjpaa
open Go.Mor Go.ChangeShapes Go.WideShapes Go.ChangeAt Go.RowKit Go.Deep
theorem Try.own:ownKnob Try.prog.godebug=none:=kR
theorem Try.laidOut:laidOutB Try.prog=true:=kR
theorem QR{α:Type}{cs:Array α}(h:cs.size=5):∃c0 c1 c2 c3 c4,cs=#[c0,c1,c2,c3,c4]:=by
 obtain⟨l⟩:=cs;match l,h with
 |[c0,c1,c2,c3,c4],_=>exact⟨c0,c1,c2,c3,c4,rfl⟩
theorem Ui{α:Type}{cs:List α}(h:cs.length=2):∃c0 c1,cs=[c0,c1]:=by
 match cs,h with
 |[c0,c1],_=>exact⟨c0,c1,rfl⟩
theorem Uj{α:Type}{cs:List α}(h:cs.length=5):∃c0 c1 c2 c3 c4,cs=[c0,c1,c2,c3,c4]:=by
 match cs,h with
 |[c0,c1,c2,c3,c4],_=>exact⟨c0,c1,c2,c3,c4,rfl⟩
theorem Uk{α:Type}{cs:List α}(h:cs.length=6):∃c0 c1 c2 c3 c4 c5,cs=[c0,c1,c2,c3,c4,c5]:=by
 match cs,h with
 |[c0,c1,c2,c3,c4,c5],_=>exact⟨c0,c1,c2,c3,c4,c5,rfl⟩
def jK{H:Type}(t:TypeId)(d:DataW H):Prop:=∀n,n∈d.weights Try.prog t→n≤reachBytes
theorem Ic{a k:Nat}(hk:0<k)(h:a*k≤reachBytes):gY a:=by
 have h1:a*1≤a*k:=Nat.mul_le_mul_left a hk;have h2:=reachBytes_lt;unfold gY;omega
theorem XW{H:Type}{e:TypeId}{l:List (DataW H)}{d:DataW H}(h:d∈l):∀n,n∈d.weights Try.prog e→n∈DataW.weightsAll Try.prog e l:=by
 induction l with
 |nil=>cases h
 |cons x l ih=>
  intro n hn;unfold DataW.weightsAll;rcases Qcx.1 h with rfl|h
  ·exact Qi6 _ hn
  ·exact Qjl _ (ih h n hn)
section
variable {H : Type} {enc : TypeId × Value → H} {w : World} {base : Nat} {spare : Nat → Bool} {held : Bool}
theorem kX{t:TypeId}(ht:Try.prog.underlying t=some (.int .i64)){fuel:Nat}{v:Value}{x:DataW H×List MemPlace}(h:DataW.trod enc Try.prog w base spare held fuel t [v]=some x):∃n,v=vI n∧In64 n:=by
 obtain⟨n,rfl,h1,h2⟩:=QL ht h;exact⟨n,rfl,h1,h2⟩
theorem Ie{t:TypeId}(ht:Try.prog.underlying t=some .string){fuel:Nat}{v:Value}{x:DataW H×List MemPlace}(h:DataW.trod enc Try.prog w base spare held fuel t [v]=some x)(hz:jK t x.1):∃s,v=vT s∧gY s.size:=by
 obtain⟨s,h1,h3,_⟩:=DataW.trod_string ht h;simp at h1;subst h3;refine⟨s,h1,Ic (k:=1) Nat.one_pos ?_⟩;have:=hz s.data.toList.length (by simp[DataW.weights]);rw[QiX];simpa using this
theorem uM{t:TypeId}{fs:Array Field}(hs:Try.prog.underlying t=some (.struct fs))(QS:oneCellFields Try.prog fs=true)(hC:Try.prog.cellsOf t=fs.size){fuel:Nat}{cs:aW}{x:DataW H×List MemPlace}(h:DataW.trod enc Try.prog w base spare held fuel t cs=some x)(hz:jK t x.1):cs.length=fs.size∧∃n:Nat,∀(i:Nat) (f:Field),fs[i]?=some f→∃(v:Value) (y:DataW H×List MemPlace),cs[i]?=some v∧DataW.trod enc Try.prog w base spare held n f.type [v]=some y∧jK f.type y.1:=by
 obtain⟨xs,n,_,Zo,hlen,hxs,hf⟩:=DataW.trod_struct hs h;rw[hC]at hlen;refine⟨hlen,n,fun i f hi=> ?_⟩;have fm:i<fs.size:=(Array.getElem?_eq_some_iff.1 hi).1;obtain⟨ho,QT⟩:=hone_of QS i f hi;have h1:=hf i f hi;rw[ho,QT,take1_drop cs i undef oM]at h1;rw[List.getElem?_eq_getElem (oM:i<xs.length)]at h1;refine⟨cs[i]'oM,xs[i]'oM,List.getElem?_eq_getElem oM,?_,fun m hm=>hz m ?_⟩
 ·rw[←h1];simp[List.getD,List.getElem?_eq_getElem (oM:i<cs.length)]
 ·subst Zo;simp only[DataW.weights,hs];exact DataW.weights_mem_each (j:=i) (by rw[List.getElem?_map];simp[hi]) (by rw[List.getElem?_map,List.getElem?_eq_getElem oM];rfl) m hm
theorem uN{t e:TypeId}{k:Nat}(ht:Try.prog.underlying t=some (.slice e))(hb:Try.prog.bytesOf e=k)(hk:0<k){fuel:Nat}{v:Value}{x:DataW H×List MemPlace}(h:DataW.trod enc Try.prog w base spare held fuel t [v]=some x)(hz:jK t x.1):∃A len cap,v=vS A len cap∧gY len∧∀i,i<len→∃(ad:Addr) (cs:aW) (n:Nat) (y:DataW H×List MemPlace),A=some ad∧cs.length=Try.prog.cellsOf e∧(∀(j:Nat) (v:Value),cs[j]?=some v→w.cell? ((ad.add (i*Try.prog.cellsOf e)).add j)=some v)∧DataW.trod enc Try.prog w base spare held n e cs=some y∧jK e y.1:=by
 rcases DataW.trod_slice ht h with⟨Cn,_⟩|⟨a,len,cap,elems,rest,n,_,Cn,Zo,_,_,_,QU,hx,_⟩
 ·simp at Cn;subst Cn;exact⟨none,0,0,rfl,by simp[gY],fun i hi=>absurd hi (zF _)⟩
 ·simp at Cn;subst Cn;subst Zo;have hw:∀m,m∈(elems.map (·.1)).length*0::DataW.weightsAll Try.prog e (elems.map (·.1))→m≤reachBytes:=by
   intro m hm;rcases Qcx.1 hm with rfl|hm
   ·omega
   ·refine hz m ?_;simp only[DataW.weights,ht];exact QiV _ (Qi6 _ hm)
  refine⟨some a,len,cap,rfl,?_,fun i hi=> ?_⟩
  ·have h1:=hz (((elems.map (·.1)).length+(rest.map (·.1)).length)*Try.prog.bytesOf e) (by simp only[DataW.weights,ht];exact en);rw[hb,QjN,QjN,QU]at h1;exact Ic hk (pX (Qjj k (Nat.le_add_right _ _)) h1)
  ·have h1:=hx i hi;rw[List.getElem?_eq_getElem (oM:i<elems.length)]at h1;cases hc:w.cells? base (a.add (i*Try.prog.cellsOf e)) (Try.prog.cellsOf e)with
   |none=>rw[hc]at h1;cases h1
   |some cs=>
    rw[hc]at h1;obtain⟨_,hlen,nZ⟩:=World.cells?_some hc;refine⟨a,cs,n,elems[i]'oM,rfl,hlen,fun j v hj=> ?_,h1,fun m hm=>hw m (QiV _ (XW (d:=(elems[i]'oM).1) ?_ m hm))⟩
    ·rw[nZ j (by have:=(List.getElem?_eq_some_iff.1 hj).1;omega)];exact hj
    ·exact jd.2 ⟨elems[i]'oM,Qi7 _,rfl⟩
theorem lX{t e:TypeId}{k:Nat}{fs:Array Field}(ht:Try.prog.underlying t=some (.slice e))(hs:Try.prog.underlying e=some (.struct fs))(QS:oneCellFields Try.prog fs=true)(hC:Try.prog.cellsOf e=fs.size)(hb:Try.prog.bytesOf e=k)(hk:0<k){fuel:Nat}{v:Value}{x:DataW H×List MemPlace}(h:DataW.trod enc Try.prog w base spare held fuel t [v]=some x)(hz:jK t x.1):∃A len cap,v=vS A len cap∧gY len∧∀i,i<len→∃(ad:Addr) (cs:aW),A=some ad∧cs.length=fs.size∧(∀(j:Nat) (v:Value),cs[j]?=some v→w.cell? ((ad.add (i*fs.size)).add j)=some v)∧∃n:Nat,∀(j:Nat) (f:Field),fs[j]?=some f→∃(v:Value) (y:DataW H×List MemPlace),cs[j]?=some v∧DataW.trod enc Try.prog w base spare held n f.type [v]=some y∧jK f.type y.1:=by
 obtain⟨A,len,cap,rfl,hl,hx⟩:=uN ht hb hk h hz;refine⟨A,len,cap,rfl,hl,fun i hi=> ?_⟩;obtain⟨ad,cs,n,y,hA,hlen,hc,Ul,hy⟩:=hx i hi;rw[hC]at hlen hc;exact⟨ad,cs,hA,hlen,hc,(uM hs QS hC Ul hy).2⟩
theorem wY{fuel:Nat}{v:Value}{x:DataW H×List MemPlace}(h:DataW.trod enc Try.prog w base spare held fuel 37 [v]=some x)(hz:jK 37 x.1):∃A l c,v=vS A (List.length l) c∧gY l.length∧(∀x,x∈l→In64 x)∧(bo.rd A (ints l)).holds w:=by
 obtain⟨A,len,cap,rfl,hl,hx⟩:=uN (k:=8) Try.underlying37 kR oM h hz;have c3:Try.prog.cellsOf 3=1:=kR;have:∀i,i<len→∃k:Int,In64 k∧∃ad,A=some ad∧w.cell? (ad.add i)=some (vI k):=by
  intro i hi;obtain⟨ad,cs,n,y,hA,hlen,hc,Ul,_⟩:=hx i hi;rw[c3]at hlen hc;match cs,hlen with
  |[c0],_=>
   obtain⟨k,rfl,hk⟩:=kX Try.underlying3 Ul;refine⟨k,hk,ad,hA,?_⟩;have h0:=hc 0 _ rfl;rw[QiX]at h0;simpa[Addr.add]using h0
 obtain⟨l,rfl,hp⟩:=tD this;refine⟨A,l,cap,rfl,hl,fun k hk=> ?_,fun i v hi=> ?_⟩
 ·obtain⟨i,hi⟩:=jF.1 hk;exact(hp i k hi).1
 ·simp only[ints,List.getElem?_map,Jo]at hi;obtain⟨k,hk,rfl⟩:=hi;exact(hp i k hk).2
theorem Ft{fuel:Nat}{v:Value}{x:DataW H×List MemPlace}(h:DataW.trod enc Try.prog w base spare held fuel 33 [v]=some x)(hz:jK 33 x.1):∃A l c,v=vS A (List.length l) c∧gY l.length∧(∀p:bI,p∈l→p.Ok∧(bo.rd p.A (ints p.args)).holds w)∧(bo.Hi A 2 (l.map bI.cells)).holds w:=by
 obtain⟨A,len,cap,rfl,hl,hx⟩:=lX (k:=32) Try.underlying33 Try.underlying79 kR kR kR oM h hz;have:∀i,i<len→∃b:bI,(b.Ok∧(bo.rd b.A (ints b.args)).holds w)∧∃ad:Addr,A=some ad∧∀(j:Nat) (v:Value),b.cells[j]?=some v→w.cell? ((ad.add (i*2)).add j)=some v:=by intro i hi;obtain⟨ad,cs,hA,MK,hc,n,hf⟩:=hx i hi;obtain⟨c0,c1,rfl⟩:=Ui MK;obtain⟨_,_,e,g0,Um⟩:=hf 0 _ rfl;cases e;obtain⟨d,rfl,hd⟩:=kX Try.underlying3 g0;obtain⟨_,_,e,g1,Un⟩:=hf 1 _ rfl;cases e;obtain⟨Aa,gs,ca,rfl,h1,h2,h3⟩:=wY g1 Un;exact⟨⟨d,Aa,ca,gs⟩,⟨⟨hd,h1,h2⟩,h3⟩,ad,hA,hc⟩
 obtain⟨l,rfl,hp⟩:=tD this;refine⟨A,l,cap,rfl,hl,fun p jL=> ?_,fun i cs hi=> ?_⟩
 ·obtain⟨i,hi⟩:=jF.1 jL;exact(hp i p hi).1
 ·rw[List.getElem?_map]at hi;obtain⟨b,hb,rfl⟩:=Jo.1 hi;exact(hp i b hb).2
theorem CV{fuel:Nat}{v:Value}{x:DataW H×List MemPlace}(h:DataW.trod enc Try.prog w base spare held fuel 34 [v]=some x)(hz:jK 34 x.1):∃A l c,v=vS A (List.length l) c∧gY l.length∧(∀p:aO,p∈l→p.Ok∧(bo.rd p.A (ints p.args)).holds w)∧(bo.Hi A 5 (l.map aO.cells)).holds w:=by
 obtain⟨A,len,cap,rfl,hl,hx⟩:=lX (k:=64) Try.underlying34 Try.underlying39 kR kR kR oM h hz;have:∀i,i<len→∃b:aO,(b.Ok∧(bo.rd b.A (ints b.args)).holds w)∧∃ad:Addr,A=some ad∧∀(j:Nat) (v:Value),b.cells[j]?=some v→w.cell? ((ad.add (i*5)).add j)=some v:=by intro i hi;obtain⟨ad,cs,hA,MK,hc,n,hf⟩:=hx i hi;obtain⟨c0,c1,c2,c3,c4,rfl⟩:=Uj MK;obtain⟨_,_,e,g0,Um⟩:=hf 0 _ rfl;cases e;obtain⟨o,rfl,ho⟩:=kX Try.underlying3 g0;obtain⟨_,_,e,g1,Un⟩:=hf 1 _ rfl;cases e;obtain⟨d,rfl,hd⟩:=kX Try.underlying3 g1;obtain⟨_,_,e,g2,eG⟩:=hf 2 _ rfl;cases e;obtain⟨m,rfl,QD⟩:=kX Try.underlying2 g2;obtain⟨_,_,e,g3,Zp⟩:=hf 3 _ rfl;cases e;obtain⟨s,rfl,hs⟩:=Ie Try.underlying9 g3 Zp;obtain⟨_,_,e,g4,eH⟩:=hf 4 _ rfl;cases e;obtain⟨Aa,gs,ca,rfl,h1,h2,h3⟩:=wY g4 eH;exact⟨⟨o,d,m,s,Aa,ca,gs⟩,⟨⟨ho,hd,QD,hs,h1,h2⟩,h3⟩,ad,hA,hc⟩
 obtain⟨l,rfl,hp⟩:=tD this;refine⟨A,l,cap,rfl,hl,fun p jL=> ?_,fun i cs hi=> ?_⟩
 ·obtain⟨i,hi⟩:=jF.1 jL;exact(hp i p hi).1
 ·rw[List.getElem?_map]at hi;obtain⟨b,hb,rfl⟩:=Jo.1 hi;exact(hp i b hb).2
theorem CW{fuel:Nat}{v:Value}{x:DataW H×List MemPlace}(h:DataW.trod enc Try.prog w base spare held fuel 22 [v]=some x)(hz:jK 22 x.1):∃A fs c,v=vS A (af fs).length c∧pL fs∧(bo.fn A fs).holds w:=by
 obtain⟨A,len,cap,rfl,_,hx⟩:=lX (k:=80) Try.underlying22 Try.underlying36 kR kR kR oM h hz;have:∀i,i<len→∃b:ay,(b.Ok∧∀r,r∈b.parts→r.holds w)∧∃ad:Addr,A=some ad∧∀(j:Nat) (v:Value),b.sb.cells[j]?=some v→w.cell? ((ad.add (i*6)).add j)=some v:=by
  intro i hi;obtain⟨ad,cs,hA,MK,hc,n,hf⟩:=hx i hi;obtain⟨c0,c1,c2,c3,c4,c5,rfl⟩:=Uk MK;obtain⟨_,_,e,g0,Um⟩:=hf 0 _ rfl;cases e;obtain⟨pA,ps,pc,rfl,Zq,fa,lq⟩:=Ft g0 Um;obtain⟨_,_,e,g1,Un⟩:=hf 1 _ rfl;cases e;obtain⟨iA,js,ic,rfl,CO,ff,Zr⟩:=CV g1 Un;obtain⟨_,_,e,g2,eG⟩:=hf 2 _ rfl;cases e;obtain⟨x2,rfl,h2⟩:=kX Try.underlying3 g2;obtain⟨_,_,e,g3,Zp⟩:=hf 3 _ rfl;cases e;obtain⟨x3,rfl,h3⟩:=kX Try.underlying3 g3;obtain⟨_,_,e,g4,eH⟩:=hf 4 _ rfl;cases e;obtain⟨x4,rfl,h4⟩:=kX Try.underlying3 g4;obtain⟨_,_,e,g5,zg5⟩:=hf 5 _ rfl;cases e;obtain⟨x5,rfl,h5⟩:=kX Try.underlying3 g5;refine⟨⟨pA,pc,ps,iA,ic,js,x2,x3,x4,x5⟩,⟨⟨Zq,fun p hp=>(fa p hp).1,CO,fun p hp=>(ff p hp).1,h2,h3,h4,h5⟩,fun r hr=> ?_⟩,ad,hA,hc⟩;unfold ay.parts at hr;rcases Qcx.1 hr with rfl|hr
  ·exact lq
  ·rcases Qcx.1 hr with rfl|hr
   ·exact Zr
   ·rcases QiU.1 hr with hr|hr
    ·obtain⟨p,hp,rfl⟩:=jd.1 hr;exact(fa p hp).2
    ·obtain⟨p,hp,rfl⟩:=jd.1 hr;exact(ff p hp).2
 obtain⟨fs,rfl,Ig⟩:=tD this;refine⟨A,fs,cap,by rw[bE],fun x hx=> ?_,fun r hr=> ?_⟩
 ·obtain⟨i,hi⟩:=jF.1 hx;exact(Ig i x hi).1.1
 ·rcases Qcx.1 hr with rfl|hr
  ·intro i cs hi;unfold af at hi;rw[List.getElem?_map,List.getElem?_map]at hi;obtain⟨b,hb,rfl⟩:=Jo.1 hi;obtain⟨y,hy,rfl⟩:=Jo.1 hb;exact(Ig i y hy).2
  ·obtain⟨y,hy,hr⟩:=pZ.1 hr;obtain⟨i,hi⟩:=jF.1 hy;exact(Ig i y hi).1.2 r hr
theorem CX{r:Reach}{b0:Nat}{v:Value}{d:DataW H}{p:List MemPlace}(gx:Value.okWide Try.prog w r b0 24 v)(h:DataW.Trod enc Try.prog w base spare held 24 v d p)(hz:jK 24 d):∃nm wk pa va A fs c,v= .agg #[.string nm,.bool wk,vI pa,vI va,.slice A (af fs).length c]∧pL fs∧(bo.fn A fs).holds w:=by
 obtain⟨cs,rfl,_⟩:=okWide_struct Try.underlying24 gx;obtain⟨fuel,h⟩:=h;obtain⟨hl,n,CP⟩:=uM Try.underlying24 kR kR (cs:=cs.toList) (by simpa[Value.cells]using h) hz;have hf:=fun(i:Nat) (f:Field) hi=>(CP i f hi)
 have jv:cs.size=5:=by simpa using hl
 obtain⟨c0,c1,c2,c3,c4,rfl⟩:=QR jv;obtain⟨_,_,e,g0,Um⟩:=hf 0 _ rfl;cases e;obtain⟨nm,rfl,_⟩:=Ie Try.underlying9 g0 Um;obtain⟨_,_,e,g1,Un⟩:=hf 1 _ rfl;cases e;obtain⟨wk,hw,_⟩:=DataW.trod_bool Try.underlying4 g1;simp at hw;subst hw;obtain⟨_,_,e,g2,eG⟩:=hf 2 _ rfl;cases e;obtain⟨pa,rfl,_⟩:=kX Try.underlying3 g2;obtain⟨_,_,e,g3,Zp⟩:=hf 3 _ rfl;cases e;obtain⟨va,rfl,_⟩:=kX Try.underlying3 g3;obtain⟨_,_,e,g,zg⟩:=hf 4 _ rfl;cases e;obtain⟨A,fs,c,rfl,h1,h2⟩:=CW g zg;exact⟨nm,wk,pa,va,A,fs,c,rfl,h1,h2⟩
end
end Go.Proofs.Ytejbeeaomokjpaa
namespace Go.Mor
def jl(fs:List ay)(k:Nat):Nat:=((fs.take k).map (fun x=>x.ah.length+x.insts.length)).sum
def hY(fs:List ay):Nat:=fs.length+jl fs fs.length
theorem om(fs:List ay):jl fs 0=0:=by simp[jl]
theorem ly{fs:List ay}{k:Nat}{x:ay}(h:fs[k]?=some x):jl fs (k+1)=jl fs k+(x.ah.length+x.insts.length):=by
 obtain⟨hk,he⟩:=List.getElem?_eq_some_iff.1 h;unfold jl;rw[QjK hk,he];simp
theorem sa{fs:List ay}(h:pL fs)(k:Nat)(hk:k≤fs.length):jl fs k≤k*562949953421312:=by
 induction k with
 |zero=>simp[om]
 |succ k ih=>
  obtain⟨x,hx⟩:=bu (l:=fs) (i:=k) oM;have h1:x.ah.length≤281474976710656:=(h.get hx).lp;have h2:x.insts.length≤281474976710656:=(h.get hx).li;rw[ly hx];have:=ih oM;omega
def eC(fs:List ay)(k:Nat):Nat:=((fs.take k).map (fun x=>min x.ah.length 5000+min x.insts.length 5000)).sum
theorem yJ(fs:List ay):eC fs 0=0:=by simp[eC]
theorem rm{fs:List ay}{k:Nat}{x:ay}(h:fs[k]?=some x):eC fs (k+1)=eC fs k+(min x.ah.length 5000+min x.insts.length 5000):=by
 obtain⟨hk,he⟩:=List.getElem?_eq_some_iff.1 h;unfold eC;rw[QjK hk,he];simp
theorem CY(fs:List ay)(k:Nat)(hk:k≤fs.length):eC fs k≤k*10000:=by
 induction k with
 |zero=>simp[yJ]
 |succ k ih=>
  obtain⟨x,hx⟩:=bu (l:=fs) (i:=k) oM;rw[rm hx];have:=ih oM;omega
def gZ(va:Int)(fs:List ay):Prop:=((60<fs.length∨3000<va)∧(va≤20000∨60<fs.length))∨(¬(60<fs.length∨3000<va)∧3000<eC fs fs.length)
instance (va : Int) (fs : List ay) : Decidable (gZ va fs) := by unfold gZ; infer_instance
theorem uO{va:Int}{fs:List ay}(h:¬gZ va fs):fs.length≤60:=by
 unfold gZ at h;omega
theorem Fu{P:Program}{t:TypeId}(i j:Int)(w:World):(binOp .sub t (vI i) (vI j)).run P w= .ok (vI (IntKind.i64.wrap (i-j))) w:=by simp[binOp,Op.intArith]
def EK(b:Bool):Int:=cond b 1 0
theorem aR{b:Bool}{P R:Prop}[Decidable R](h:b=true↔P)(e:P↔R):Value.bool b=Value.bool (decide R):=by
 congr 1;rw[xJ,QcD];exact h.trans e
theorem ie(s:cV):((s.toList==(⟨#[]⟩:cV).toList)=true)=(s.size=0):=by
 rw[Js,ByteArray.toList_eq,ByteArray.toList_eq];apply propext;constructor
 ·intro h;have h1:=Qi9 List.length h;have e:s.data.toList.length=s.size:=Array.length_toList;rw[e]at h1;exact h1
 ·intro h;have h2:s.data=#[]:=Tc h;rw[h2]
def bt(s:cV):Prop:=1≤s.size∧s.size≤60
instance (s : ByteArray) : Decidable (bt s) := by unfold bt; infer_instance
def aU(op:Int):Prop:=op≠3∧op≠10∧op≠11
instance (op : Int) : Decidable (aU op) := by unfold aU; infer_instance
def cN(n:Int):Prop:=1≤n∧n≤999
instance (n : Int) : Decidable (cN n) := by unfold cN; infer_instance
def cG(n:Int):Prop:=0≤n∧n≤2147483647
instance (n : Int) : Decidable (cG n) := by unfold cG; infer_instance
def ix(N:Int)(x:ay):Prop:=(x.e=0∧(0≤x.a∧x.a<N)∧x.v=0∧x.b=0)∨(x.e=1∧(0≤x.a∧x.a<N)∧(0≤x.b∧x.b<N)∧x.a≠x.b)∨(x.e=2∧x.a=0∧x.b=0)∨(x.e=3∧cN x.a∧x.v=0∧x.b=0)
instance (N : Int) (x : ay) : Decidable (ix N x) := by unfold ix; infer_instance
def F3(N:Int)(x:ay):Prop:=ix N x∧(x.e=2→-1≤x.v)
instance (N : Int) (x : ay) : Decidable (F3 N x) := by unfold F3; infer_instance
def bJ(i:aO):Prop:=(aU i.op∨i.dst= -1)∧((i.op=1∧i.name.size=0∧i.args.length=0)∨(i.op=2∧cG i.n∧i.name.size=0∧i.args.length=1)∨(i.op=3∧cG i.n∧i.name.size=0∧i.args.length=2)∨(i.op=4∧i.n=0∧bt i.name∧i.args.length≤16)∨(i.op=5∧i.n=0∧i.name.size=0∧1≤i.args.length∧i.args.length≤17)∨((i.op=6∨i.op=7)∧i.n=0∧bt i.name∧i.args.length=0)∨((i.op=8∨i.op=10∨i.op=12)∧i.n=0∧i.name.size=0∧i.args.length=1)∨(i.op=9∧i.n=0∧i.name.size=0∧i.args.length=0)∨(i.op=11∧cN i.n∧i.name.size=0∧i.args.length=1)∨((17≤i.op∧i.op≤32)∧i.n=0∧i.name.size=0∧i.args.length=2)∨((41≤i.op∧i.op≤43)∧i.n=0∧i.name.size=0∧i.args.length=1))
instance (i : aO) : Decidable (bJ i) := by unfold bJ; infer_instance
theorem Ej{i:aO}(h:i.op=1):bJ i↔(i.name.size=0∧i.args.length=0):=by
 unfold bJ aU bt cN cG;rw[h];simp only[Int.reduceEq,Int.reduceNe,Int.reduceLE,Qcj,pQ,D2,Qck,Tf,QdJ,QcV,Qee,Qe3,Qja,Qjb,ND]
theorem yK{i:aO}(h:i.op=2):bJ i↔((0≤i.n∧i.n≤2147483647)∧i.name.size=0∧i.args.length=1):=by
 unfold bJ aU bt cN cG;rw[h];simp only[Int.reduceEq,Int.reduceNe,Int.reduceLE,Qcj,pQ,D2,Qck,Tf,QdJ,QcV,Qee,Qe3,Qja,Qjb,ND]
theorem yL{i:aO}(h:i.op=3):bJ i↔(i.dst= -1∧(0≤i.n∧i.n≤2147483647)∧i.name.size=0∧i.args.length=2):=by
 unfold bJ aU bt cN cG;rw[h];simp only[Int.reduceEq,Int.reduceNe,Int.reduceLE,Qcj,pQ,D2,Qck,Tf,QdJ,QcV,Qee,Qe3,Qja,Qjb,ND]
theorem Ek{i:aO}(h:i.op=4):bJ i↔(i.n=0∧(1≤i.name.size∧i.name.size≤60)∧i.args.length≤16):=by
 unfold bJ aU bt cN cG;rw[h];simp only[Int.reduceEq,Int.reduceNe,Int.reduceLE,Qcj,pQ,D2,Qck,Tf,QdJ,QcV,Qee,Qe3,Qja,Qjb,ND]
theorem El{i:aO}(h:i.op=5):bJ i↔(i.n=0∧i.name.size=0∧1≤i.args.length∧i.args.length≤17):=by
 unfold bJ aU bt cN cG;rw[h];simp only[Int.reduceEq,Int.reduceNe,Int.reduceLE,Qcj,pQ,D2,Qck,Tf,QdJ,QcV,Qee,Qe3,Qja,Qjb,ND]
theorem Em{i:aO}(h:i.op=6):bJ i↔(i.n=0∧(1≤i.name.size∧i.name.size≤60)∧i.args.length=0):=by
 unfold bJ aU bt cN cG;rw[h];simp only[Int.reduceEq,Int.reduceNe,Int.reduceLE,Qcj,pQ,D2,Qck,Tf,QdJ,QcV,Qee,Qe3,Qja,Qjb,ND]
theorem En{i:aO}(h:i.op=7):bJ i↔(i.n=0∧(1≤i.name.size∧i.name.size≤60)∧i.args.length=0):=by
 unfold bJ aU bt cN cG;rw[h];simp only[Int.reduceEq,Int.reduceNe,Int.reduceLE,Qcj,pQ,D2,Qck,Tf,QdJ,QcV,Qee,Qe3,Qja,Qjb,ND]
theorem Eo{i:aO}(h:i.op=8):bJ i↔(i.n=0∧i.name.size=0∧i.args.length=1):=by
 unfold bJ aU bt cN cG;rw[h];simp only[Int.reduceEq,Int.reduceNe,Int.reduceLE,Qcj,pQ,D2,Qck,Tf,QdJ,QcV,Qee,Qe3,Qja,Qjb,ND]
theorem Ep{i:aO}(h:i.op=9):bJ i↔(i.n=0∧i.name.size=0∧i.args.length=0):=by
 unfold bJ aU bt cN cG;rw[h];simp only[Int.reduceEq,Int.reduceNe,Int.reduceLE,Qcj,pQ,D2,Qck,Tf,QdJ,QcV,Qee,Qe3,Qja,Qjb,ND]
theorem QcW{i:aO}(h:i.op=10):bJ i↔(i.dst= -1∧i.n=0∧i.name.size=0∧i.args.length=1):=by
 unfold bJ aU bt cN cG;rw[h];simp only[Int.reduceEq,Int.reduceNe,Int.reduceLE,Qcj,pQ,D2,Qck,Tf,QdJ,QcV,Qee,Qe3,Qja,Qjb,ND]
theorem uP{i:aO}(h:i.op=11):bJ i↔(i.dst= -1∧(1≤i.n∧i.n≤999)∧i.name.size=0∧i.args.length=1):=by
 unfold bJ aU bt cN cG;rw[h];simp only[Int.reduceEq,Int.reduceNe,Int.reduceLE,Qcj,pQ,D2,Qck,Tf,QdJ,QcV,Qee,Qe3,Qja,Qjb,ND]
theorem Ay{i:aO}(h:i.op=12):bJ i↔(i.n=0∧i.name.size=0∧i.args.length=1):=by
 unfold bJ aU bt cN cG;rw[h];simp only[Int.reduceEq,Int.reduceNe,Int.reduceLE,Qcj,pQ,D2,Qck,Tf,QdJ,QcV,Qee,Qe3,Qja,Qjb,ND]
theorem HF{i:aO}(h:¬(1≤i.op∧i.op≤12)):bJ i↔(((17≤i.op∧i.op≤32)∧i.n=0∧i.name.size=0∧i.args.length=2)∨((41≤i.op∧i.op≤43)∧i.n=0∧i.name.size=0∧i.args.length=1)):=by
 have e:∀k:Int,1≤k→k≤12→(i.op=k)=False:=fun k h1 h2=>eq_false (fun e=>h ⟨oM,oM⟩)
 unfold bJ aU;simp only[QcV,e 1 dQ dQ,e 2 dQ dQ,e 3 dQ dQ,e 4 dQ dQ,e 5 dQ dQ,e 6 dQ dQ,e 7 dQ dQ,e 8 dQ dQ,e 9 dQ dQ,e 10 dQ dQ,e 11 dQ dQ,e 12 dQ dQ,Qcj,pQ,Qck,Tf,QdJ,Qee,ND]
theorem Uo{op:Int}(h1:¬op=1)(yB:¬op=12)(h8:¬op=8)(QV:¬op=10)(h2:¬op=2)(h3:¬op=3)(h4:¬op=4)(h5:¬op=5)(h6:¬op=6)(h7:¬op=7)(h9:¬op=9)(Uq:¬op=11):¬(1≤op∧op≤12):=by
 rintro⟨a,b⟩;have e:op=1∨op=2∨op=3∨op=4∨op=5∨op=6∨op=7∨op=8∨op=9∨op=10∨op=11∨op=12:=by clear h1 h2 h3 h4 h5 h6 h7 h8 h9 QV Uq yB;omega
 rcases e with e|e|e|e|e|e|e|e|e|e|e|e<;>contradiction
theorem Ih{i:aO}{cd:Int}(h0:¬(1≤i.op∧i.op≤12))(h1:i.op<40)(ho: -9223372036854775808≤i.op∧i.op≤9223372036854775807)(hc:cd=0↔1≤IntKind.i64.wrap (i.op-16)∧IntKind.i64.wrap (i.op-16)≤16):((((cd=0)∧(i.n=0))∧(i.name.size=0))∧((i.args.length:Int)=2))↔bJ i:=by
 rw[HF h0];have hw:=IntKind.wrap_i64 (i.op-16);have e:(1≤IntKind.i64.wrap (i.op-16)∧IntKind.i64.wrap (i.op-16)≤16)↔(17≤i.op∧i.op≤32):=by rw[hw];omega
 rw[e]at hc;rw[hc];constructor
 ·rintro⟨⟨⟨a,b⟩,c⟩,d⟩;exact .inl ⟨a,b,c,oM⟩
 ·rintro(⟨a,b,c,d⟩|⟨a,_⟩)
  ·exact⟨⟨⟨a,b⟩,c⟩,oM⟩
  ·omega
theorem Ii{i:aO}{cd:Int}(h1:¬i.op<40)(hc:cd=0↔1≤i.op-40∧i.op-40≤3):((((cd=0)∧(i.n=0))∧(i.name.size=0))∧((i.args.length:Int)=1))↔bJ i:=by
 rw[HF oM];have e:(1≤i.op-40∧i.op-40≤3)↔(41≤i.op∧i.op≤43):=oM;rw[e]at hc;rw[hc];constructor
 ·rintro⟨⟨⟨a,b⟩,c⟩,d⟩;exact .inr ⟨a,b,c,oM⟩
 ·rintro(⟨a,_⟩|⟨a,b,c,d⟩)
  ·omega
  ·exact⟨⟨⟨a,b⟩,c⟩,oM⟩
theorem Fv{i:aO}(h:(¬(aU i.op))∧(i.dst≠-1)):False↔bJ i:=⟨False.elim,fun e=>e.1.elim h.1 h.2⟩
end Go.Mor
namespace Go.Mor
open Go.RowKit
theorem mm(zs:aW)(n:Nat)(hz:0<zs.length):(madeCells zs.toArray (n*zs.length)).toList=(List.replicate n zs).flatten:=by
 have hlen:((List.replicate n zs).flatten).length=n*zs.length:=sI;apply QdX;intro j;by_cases hj:j<n*zs.length
 ·have h1:j % zs.length<zs.length:=Nat.mod_lt _ hz;have e1:(madeCells zs.toArray (n*zs.length)).toList[j]?=some zs[j % zs.length]:=by simp[madeCells,hj,h1]
  rw[e1];clear e1;have h2:j / zs.length<n:=Nat.div_lt_of_lt_mul (by rwa [Nat.mul_comm]at hj);have key:∀n q,q<n→∀r (hr:r<zs.length),((List.replicate n zs).flatten)[q*zs.length+r]?=some zs[r]:=by
   intro n;induction n with
   |zero=>intro q hq;omega
   |succ n ih=>
    intro q hq r hr;rw[QfI,List.flatten_cons];cases q with
    |zero=>
     rw[Nat.zero_mul,Qgu,List.getElem?_append_left hr];simp[hr]
    |succ q=>
     rw[List.getElem?_append_right (by rw[Qcl];omega),show(q+1)*zs.length+r-zs.length=q*zs.length+r by rw[Qcl];omega];exact ih q oM r hr
  have:=key n (j / zs.length) h2 (j % zs.length) h1;rw[Nat.div_add_mod' j zs.length]at this;exact this.symm
 ·have e1:((List.replicate n zs).flatten)[j]?=none:=List.getElem?_eq_none (by rw[hlen];omega);rw[e1];apply List.getElem?_eq_none;simp[madeCells];omega
section
variable {P : Program} {c : Code} {K : Act → World → Prop} {Q : Exit → Act → World → Prop} {a : Act} {w w0 : World} {S : Nat → Prop} {L : List bo} {k k' : Nat} {N : FN} {env : Env}
variable {d : Option Nat} {ty : Nat} {g : Option (Nat × Bool)}
theorem uQ{t:TypeId}{x y:Operand}(hk:ao c k=some (d,.makeSlice t x y,ty,g))(hF:Fr a N env)(hg:bw c g env=some true)(hd:iy d N=true)(ja:k+1=k'){e bytes size:Nat}{zs:aW}{n:Nat}{i:Int}(hx:ev env x=some (vI i))(hy:ev env y=some (vI i))(hn:i=(n:Int))(ht:P.underlying t=some (.slice e))(hi:(P.info? e).map (fun i=>(i.size,i.bytes,i.zero))=some (size,bytes,some (.agg zs.toArray)))(hs:size=zs.length)(hz:0<zs.length)(hb:bytes*n≤140737488355328)(hl:n≤maxLen)(hM:Mem S w0 w L)(h:∀b w',w0.heap.size≤b→w.heap.size≤b→Mem S w0 w' (L++[.row e size (some (aZ b)) n n (List.replicate n zs).flatten])→Mem bK w w' [.row e size (some (aZ b)) n n (List.replicate n zs).flatten]→∀a',a'=a.put d (vS (some (aZ b)) n n)→Fr a' N (dE env d (vS (some (aZ b)) n n))→br P c K Q k' a' w'):br P c K Q k a w:=by
 subst ja;subst hn;cases ln:P.info? e with
 |none=>simp[ln]at hi
 |some inf=>
  simp only[ln,s9,p5,eh]at hi;obtain⟨QJ,T9,z8⟩:=hi;subst T9;obtain⟨w',hr,we,Fg⟩:=run_make_full (P:=P) w 0 t e inf (.agg zs.toArray) size ht ln z8 QJ .i64 .i64 n oM hl (Qdv _);have hc:(madeCells (Value.agg zs.toArray).cells (n*size)).toList=(List.replicate n zs).flatten:=by rw[hs];exact mm zs n hz
  rw[hc]at we;have hm:Mem bK w w' [.row e size (some (aZ w.heap.size)) n n (List.replicate n zs).flatten]:=by refine⟨Fg.os,Fg.tape,Fg.output,Fg.size,fun k hk _=>Fg.block k hk sI,?_,cc _ _⟩;simp only[QcC];rintro _ rfl;refine⟨we,?_⟩;rintro g' ⟨a',nQ,rfl⟩;injection nQ with nQ;subst nQ;exact .inr (Qjn _)
  refine gX hk hF hg (v:=vS (some (aZ w.heap.size)) n n) (w':=w') (fun o ho _=> ?_) (h w.heap.size w' hM.size (Qjn _) (hM.call hm) hm _ rfl (hF.put hd _));unfold execOp;rw[ho];simp only[hF.ev hx,hF.ev hy,xf,hr,Qdu];rfl
theorem mn(a:Addr)(i j:Nat):(a.add i).add j=a.add (i+j):=by
 unfold Addr.add;by_cases hi:i=0<;>by_cases hj:j=0<;>simp[hi,hj,Qjg]
def setAt:aW→Nat→aW→aW
 |xs,_,[]=>xs
 |xs,j,v::vs=>setAt (xs.set j v) (j+1) vs
theorem ns{e size n cap:Nat}{ad ad':Addr}:∀(vs:aW) (i j:Nat) {xs:aW} {w:World},(∀v∈vs,v.oneCell'=true)→(bo.row e size (some ad) n cap xs).holds w→ad'.add i=ad.add j→ad'.add 0=ad'→(∀q,ad'.add (i+q)=ad.add (j+q))→j+vs.length≤n*size→∃w',(storeCells ad' vs i).run P w= .ok () w'∧Mem (bo.row e size (some ad) n cap xs).fp w w' [.row e size (some ad) n cap (setAt xs j vs)]
 |[],i,j,xs,w,_,hb,_,_,_,_=>⟨w,by simp[storeCells],by simpa[setAt]using Mem.nr hb⟩
 |v::vs,i,j,xs,w,h1,hb,he,h0,hq,hl=>by
  simp only[je]at hl;have hm:=Mem.yj (j:=j) hb v;have Co:=hm.get 0 rfl;obtain⟨w',hr,HK⟩:=ns vs (i+1) (j+1) (fun u hu=>h1 u (QiV _ hu)) Co (hq 1) h0 (fun q=>by have:=hq (1+q);rwa [←Qjg,←Qjg]at this) oM;refine⟨w',?_,?_⟩
  ·have Zs:xs.length=n*size:=hb.1;obtain⟨u,hu⟩:∃u,xs[j]?=some u:=⟨_,List.getElem?_eq_getElem oM⟩;obtain⟨a0,Ij,nZ⟩:=aB hb j u hu;injection Ij with Ij;subst Ij;have qZ:(store (ad.add j) v).run P w= .ok () (w.setCell (ad.add j) v):=by rw[run_store P w _ v .plain (h1 v (en ..)),nZ];simp[mK hb]
   simp only[storeCells,xf,he,qZ,Qdu,hr]
  ·have:=hm.mod 0 rfl HK;simpa[setAt]using this
theorem gy{t:TypeId}{x y:Operand}(hk:ao c k=some (d,.store t x y,ty,g))(hF:Fr a N env)(hg:bw c g env=some true)(hd:iy d N=true)(ja:k+1=k'){ad ad':Addr}{j e size n cap:Nat}{vs xs:aW}(hx:ev env x=some (vP ad'))(vg:ad'=ad.add j)(hy:ev env y=some (.agg vs.toArray))(ht:tf P t=some vs.length)(hv:∀v∈vs,v.oneCell'=true)(hM:Mem S w0 w L)(i:Nat)(hi:L[i]?=some (.row e size (some ad) n cap xs))(hj:j+vs.length≤n*size)(h:∀w',Mem S w0 w' (L.set i (.row e size (some ad) n cap (setAt xs j vs)))→Mem (bo.row e size (some ad) n cap xs).fp w w' [.row e size (some ad) n cap (setAt xs j vs)]→∀a',a'=a.put d undef→Fr a' N (dE env d undef)→br P c K Q k' a' w'):br P c K Q k a w:=by
 subst ja;subst vg;have hb:=hM.get i hi;obtain⟨w',hr,hm⟩:=ns (P:=P) (ad':=ad.add j) vs 0 j hv hb (by rw[mn];rfl) (by rw[mn];rfl) (fun q=>by rw[mn,Qgu]) hj;refine oU hk hF hg (w':=w') (fun o Qy=> ?_) (h _ (by simpa using hM.mod i hi hm) hm _ rfl (hF.put hd _));unfold execOp;rw[Qy];simp[Instr.storeAt,Instr.sureAddr,hF.ev hx,hF.ev hy,storeVar,(mg ht w).2,Value.cells,hr]
end
end Go.Mor
namespace Go.Mor
open Go.RowKit
theorem dv{P:Program}{c:Code}{K:Act→World→Prop}{Q:Exit→Act→World→Prop}{a:Act}{w:World}{k:Nat}{N:FN}{env:Env}(d:Option Nat)(A:aX)(ad:Addr)(n size:Nat)(i:Int)(hF:Fr a N env)(hk:MH P c N env k=some (d,A,n,size,i))(hA:A=some ad)(h0:0≤i)(h1:i<n)(h:∀a',Fr a' N (dE env d (vP (ad.add (i.toNat*size))))→br P c K Q (k+1) a' w):br P c K Q k a w:=Hb d ad n size i hF (by rw[hk,hA]) h0 h1 h
end Go.Mor
namespace Go.Mor
open Go.RowKit
def gN:List (Bool×bo)→List bo
 |[]=>[]
 |(b,r)::l=>cond b [r] []++gN l
theorem uR:∀(l:List (Bool×bo)) (i:Nat) {r r':bo},l[i]?=some (false,r')→(gN l++[r]).Perm (gN (l.set i (true,r)))
 |[],i,r,r',h=>by simp at h
 |(b,q)::l,0,r,r',h=>by simp at h;obtain⟨rfl,rfl⟩:=h;show((cond false [q] []++gN l)++[r]).Perm (cond true [r] []++gN l);simp only[cond_false,Qcu,cond_true];exact List.perm_append_comm
 |(b,q)::l,i+1,r,r',h=>by have:=uR l i (r:=r) (r':=r') (by simpa using h);show((cond b [q] []++gN l)++[r]).Perm (cond b [q] []++gN (l.set i (true,r)));rw[xD];exact this.append_left _
theorem Mem.group{S:Nat→Prop}{w0 w:World}{L:List bo}{l:List (Bool×bo)}{r r':bo}(h:Mem S w0 w ((L++gN l)++[r]))(i:Nat)(hi:l[i]?=some (false,r')):Mem S w0 w (L++gN (l.set i (true,r))):=by
 refine h.perm ?_;rw[xD];exact(uR l i hi).append_left _
end Go.Mor
namespace Go.Mor
open Go.RowKit
section
variable {P : Program} {c : Code} {K : Act → World → Prop} {Q : Exit → Act → World → Prop} {a : Act} {w w0 : World} {S : Nat → Prop} {L : List bo} {k k' : Nat} {N : FN} {env : Env}
variable {d : Option Nat} {ty : Nat} {g : Option (Nat × Bool)}
theorem lA{t:TypeId}(hk:ao c k=some (d,.buildSlice t 0 #[],ty,g))(hF:Fr a N env)(hg:bw c g env=some true)(hd:iy d N=true)(ja:k+1=k'){e size:Nat}(ht:P.underlying t=some (.slice e))(hi:(P.info? e).map (fun i=>i.size)=some size)(hM:Mem S w0 w L)(h:∀b w',w0.heap.size≤b→w.heap.size≤b→Mem S w0 w' (L++[.row e size (some (aZ b)) 0 0 []])→Mem bK w w' [.row e size (some (aZ b)) 0 0 []]→∀a',a'=a.put d (vS (some (aZ b)) 0 0)→Fr a' N (dE env d (vS (some (aZ b)) 0 0))→br P c K Q k' a' w'):br P c K Q k a w:=by
 subst ja;have j0:(bo.row e size (some (aZ w.heap.size)) 0 0 []).holds (w.alloc (.cells #[] e)):=by have:=World.ownsRow_lit (base:=0) (e:=e) (size:=size) w #[] 0 (Qdv _) (by simp only[maxLen];omega) sI;show World.ownsRow _ _ _ _ _ _ _;simpa using this
 have hm:Mem bK w (w.alloc (.cells #[] e)) [.row e size (some (aZ w.heap.size)) 0 0 []]:=by refine(Mem.alloc w e []).Ze 0 rfl (fun _=>j0) ?_;rintro g' ⟨a',nQ,rfl⟩;injection nQ with nQ;subst nQ;rfl
 refine gX hk hF hg (v:=vS (some (aZ w.heap.size)) 0 0) (w':=w.alloc (.cells #[] e)) (fun o ho _=> ?_) (h w.heap.size (w.alloc (.cells #[] e)) hM.size (Qjn _) (hM.call hm) hm _ rfl (hF.put hd _));unfold execOp;rw[ho];cases ln:P.info? e with
 |none=>simp[ln]at hi
 |some inf=>
  have Mj:(sizeOf e).run P w= .ok inf.size w:=by simp[sizeOf,typeInfo,ln]
  simp only[Qdx,Qi3,Instr.buildSlice,xf,vc ht,Mj,Qdu,Nat.zero_mul,Nat.reducePow,gt_iff_lt,zF,sy,Qi5,Qjp,show Array.range 0=#[]from rfl,Array.toList_empty,Instr.fill,newRow,run_newObj];rfl
end
end Go.Mor
namespace Go.Mor
open Go.RowKit
def gR(l:List (Int×Int)):aW:=l.flatMap (fun p=>[vI p.1,vI p.2])
theorem yM(l:List (Int×Int)):(gR l).length=l.length*2:=by
 induction l with
 |nil=>rfl
 |cons x l ih=>simp[gR]at ih⊢;omega
theorem Ik{l:List (Int×Int)}{i:Nat}{p:Int×Int}(h:l[i]?=some p):(gR l)[i*2]?=some (vI p.1)∧(gR l)[i*2+1]?=some (vI p.2):=by
 induction l generalizing i with
 |nil=>simp at h
 |cons x l ih=>
  have e:gR (x::l)=vI x.1:: .int .i64 x.2::gR l:=rfl;rw[e];cases i with
  |zero=>simp at h;subst h;exact⟨rfl,rfl⟩
  |succ i=>
   simp at h;obtain⟨h1,h2⟩:=ih h;refine⟨?_,?_⟩
   ·rw[show(i+1)*2=i*2+1+1 by omega];simpa using h1
   ·rw[show(i+1)*2+1=i*2+1+1+1 by omega];simpa using h2
theorem yN{l:List (Int×Int)}{i:Nat}(a b:Int)(h:i<l.length):setAt (gR l) (i*2) [vI a,vI b]=gR (l.set i (a,b)):=by
 induction l generalizing i with
 |nil=>simp at h
 |cons x l ih=>
  have e:gR (x::l)=vI x.1:: .int .i64 x.2::gR l:=rfl;cases i with
  |zero=>rfl
  |succ i=>
   have:=ih (i:=i) (by simpa using h);rw[e,show(i+1)*2=i*2+1+1 by omega,QdT];show setAt (.int .i64 x.1:: .int .i64 x.2::gR l) (i*2+1+1) [vI a,vI b]=vI x.1:: .int .i64 x.2::gR (l.set i (a,b));rw[←this];simp[setAt]
theorem Az{l:List (Int×Int)}{i:Nat}{p:Int×Int}(a:Int)(h:l[i]?=some p):(gR l).set (i*2) (vI a)=gR (l.set i (a,p.2)):=by
 induction l generalizing i with
 |nil=>simp at h
 |cons x l ih=>
  have e:gR (x::l)=vI x.1:: .int .i64 x.2::gR l:=rfl;cases i with
  |zero=>simp at h;subst h;rfl
  |succ i=>
   simp at h;have:=ih h;rw[e,show(i+1)*2=i*2+1+1 by omega];show .int .i64 x.1:: .int .i64 x.2::(gR l).set (i*2) (vI a)=vI x.1:: .int .i64 x.2::gR (l.set i (a,p.2));rw[this]
theorem Er(n:Nat)(a b:Int):(List.replicate n [vI a,vI b]).flatten=gR (List.replicate n (a,b)):=by
 induction n with
 |zero=>rfl
 |succ n ih=>rw[QfI,QfI,List.flatten_cons,ih];rfl
theorem Es{w:World}{A:aX}{ad:Addr}{l:List (Int×Int)}(h:(bo.rd A (gR l)).holds w)(hA:A=some ad){i:Nat}{p:Int×Int}(hi:l[i]?=some p):∀j v,[vI p.1,vI p.2][j]?=some v→w.cell? ((ad.add (i*2)).add j)=some v:=by
 intro j v hj;obtain⟨h1,h2⟩:=Ik hi;rw[mn];have key:∀q u,(gR l)[q]?=some u→w.cell? (ad.add q)=some u:=by intro q u hu;obtain⟨a',nQ,hc⟩:=h q u hu;rw[hA]at nQ;injection nQ with nQ;subst nQ;exact hc
 match j,hj with
 |0,hj=>simp at hj;subst hj;exact key _ _ h1
 |1,hj=>simp at hj;subst hj;exact key _ _ h2
theorem uS{w:World}{A:aX}{ad:Addr}{l:List (Int×Int)}(h:(bo.rd A (gR l)).holds w)(hA:A=some ad){i:Nat}{p:Int×Int}(hi:l[i]?=some p):w.cell? (ad.add (i*2))=some (vI p.1):=by
 have:=Es h hA hi 0 _ rfl;rwa [mn]at this
theorem oq{α:Type}{l:List α}{i:Nat}(d:α)(h:i<l.length):l[i]?=some (l.getD i d):=by simp[List.getD,List.getElem?_eq_getElem h]
def j6(lo hi:Int)(l:List (Int×Int))(v:Int):Prop:=(lo≤v∧v<hi)∧(l.getD v.toNat (0,0)).1<0
instance (lo hi : Int) (l : List (Int × Int)) (v : Int) : Decidable (j6 lo hi l v) := by unfold j6; infer_instance
abbrev rn:=List (Int×Int×Int)
def cC(b:Int)(l:List bI):rn:=l.map (fun p=>(p.dst,b,-1))
def cT(b:Int)(l:List aO):rn:=(l.zipIdx.filter (fun x=>decide (aU x.1.op))).map (fun x=>(x.1.dst,b,(x.2:Int)))
def eJ(b:Int)(x:ay):rn:=cC b x.ah++cT b x.insts
def db(fs:List ay)(n:Nat):rn:=((fs.take n).zipIdx).flatMap (fun x=>eJ (x.2:Int) x.1)
def bF(fs:List ay):rn:=db fs fs.length
theorem ij{b:Int}{l:List bI}{k:Nat}{p:bI}(h:l[k]?=some p):cC b (l.take (k+1))=cC b (l.take k)++[(p.dst,b,-1)]:=by
 obtain⟨hk,he⟩:=List.getElem?_eq_some_iff.1 h;rw[QjK hk,he];simp[cC]
theorem ot{α:Type}{l:List α}{k:Nat}{p:α}(h:l[k]?=some p):(l.take (k+1)).zipIdx=(l.take k).zipIdx++[(p,k)]:=by
 obtain⟨hk,he⟩:=List.getElem?_eq_some_iff.1 h;rw[QjK hk,he,List.zipIdx_append];simp[Qds (Nat.le_of_lt hk)]
theorem iX{b:Int}{l:List aO}{k:Nat}{p:aO}(h:l[k]?=some p)(hm:aU p.op):cT b (l.take (k+1))=cT b (l.take k)++[(p.dst,b,(k:Int))]:=by
 unfold cT;rw[ot h,xH,Qjy];simp[hm]
theorem mW{b:Int}{l:List aO}{k:Nat}{p:aO}(h:l[k]?=some p)(hm:¬aU p.op):cT b (l.take (k+1))=cT b (l.take k):=by
 unfold cT;rw[ot h,xH,Qjy];simp[hm]
theorem lB(fs:List ay):db fs 0=[]:=by simp[db]
theorem tx{fs:List ay}{k:Nat}{x:ay}(h:fs[k]?=some x):db fs (k+1)=db fs k++eJ (k:Int) x:=by
 unfold db;rw[ot h,Qi0];simp
theorem rp{fs:List ay}{n:Nat}{d:Int×Int×Int}(h:d∈db fs n):0≤d.2.1∧d.2.1<n∧-1≤d.2.2:=by
 unfold db at h;rw[pZ]at h;obtain⟨x,hx,hd⟩:=h;have hx2:x.2<n:=by
  have:=List.snd_lt_of_mem_zipIdx hx;have h2:(fs.take n).length≤n:=by simp;omega
  omega
 unfold eJ at hd;rcases QiU.1 hd with hd|hd
 ·unfold cC at hd;obtain⟨p,_,rfl⟩:=jd.1 hd;exact⟨dF _,by show(x.2:Int)<n;omega,by show(-1:Int)≤-1;omega⟩
 ·unfold cT at hd;obtain⟨p,_,rfl⟩:=jd.1 hd;exact⟨dF _,by show(x.2:Int)<n;omega,by show(-1:Int)≤(p.2:Int);omega⟩
def findD(ds:rn)(v:Int):Option (Int×Int):=(ds.find? (fun d=>d.1==v)).map (·.2)
theorem gg{ds:rn}{v:Int}(h:v∉ds.map (·.1)):findD ds v=none:=by
 unfold findD;rw[QjQ,List.find?_eq_none];intro d hd he;rw[Js]at he;exact h (jd.2 ⟨d,hd,he⟩)
theorem tz{ds:rn}{v:Int}(h:v∈ds.map (·.1)):∃p,findD ds v=some p∧(v,p)∈ds:=by
 unfold findD;obtain⟨d,hd,hv⟩:=jd.1 h;cases hf:ds.find? (fun d=>d.1==v)with
 |none=>
  have:=List.find?_eq_none.1 hf d hd;simp[hv]at this
 |some e=>
  have h1:=List.find?_some hf;have h2:=List.mem_of_find?_eq_some hf;rw[Js]at h1;refine⟨e.2,rfl,?_⟩;rw[←h1];exact h2
theorem yP{ds:rn}{v b k:Int}(h:v∉ds.map (·.1))(u:Int):findD (ds++[(v,b,k)]) u=if u=v then some (b,k)else findD ds u:=by
 unfold findD;rw[List.find?_append];by_cases e:u=v
 ·subst e;have:ds.find? (fun d=>d.1==u)=none:=by rw[List.find?_eq_none];intro d hd he;rw[Js]at he;exact h (jd.2 ⟨d,hd,he⟩)
  rw[this];simp
 ·rw[QcA e];have:([(v,b,k)]:rn).find? (fun d=>d.1==u)=none:=by rw[List.find?_eq_none];intro d hd he;simp at hd;subst hd;rw[Js]at he;exact e he.symm
  rw[this];simp
structure wZ(n:Nat)(base:Nat→Int×Int)(enc:Int×Int→Int×Int)(ds:rn)(l:List (Int×Int)):Prop where
 len:l.length=n
 at_:∀v:Nat,v<n→l[v]?=some (match findD ds (v:Int)with
  |some p=>enc p
  |none=>base v)
def ey(lo hi:Int)(ds:rn):Prop:=(∀d,d∈ds→lo≤d.1∧d.1<hi)∧(ds.map (·.1)).Nodup
theorem ey.nil(lo hi:Int):ey lo hi []:=⟨sI,sI⟩
theorem ey.snoc{lo hi:Int}{ds:rn}{v b k:Int}:ey lo hi (ds++[(v,b,k)])↔ey lo hi ds∧(lo≤v∧v<hi)∧v∉ds.map (·.1):=by
 unfold ey;constructor
 ·rintro⟨h1,h2⟩;rw[Qjy,Tg]at h2;refine⟨⟨fun d hd=>h1 d (Qi6 _ hd),h2.1⟩,h1 (v,b,k) sI,fun hm=>h2.2.2 v hm v sI rfl⟩
 ·rintro⟨⟨h1,h2⟩,h3,h4⟩;refine⟨fun d hd=> ?_,?_⟩
  ·rcases QiU.1 hd with hd|hd
   ·exact h1 d hd
   ·simp at hd;subst hd;exact h3
  ·rw[Qjy,Tg];refine⟨h2,sI,fun a ha c hc e=> ?_⟩;simp at hc;subst hc;subst e;exact h4 ha
theorem ey.pre{lo hi:Int}{ds es:rn}(h:ey lo hi (ds++es)):ey lo hi ds:=by
 obtain⟨h1,h2⟩:=h;rw[Qjy,Tg]at h2;exact⟨fun d hd=>h1 d (Qi6 _ hd),h2.1⟩
theorem wZ.put{n:Nat}{base:Nat→Int×Int}{enc:Int×Int→Int×Int}{ds:rn}{l:List (Int×Int)}(h:wZ n base enc ds l){v b k:Int}(h0:0≤v)(h1:v<n)(hv:v∉ds.map (·.1)):wZ n base enc (ds++[(v,b,k)]) (l.set v.toNat (enc (b,k)))where
 len:=by rw[u6,h.len]
 at_:=fun u hu=>by
  rw[yP hv];by_cases e:(u:Int)=v
  ·have:u=v.toNat:=oM;rw[dd e,this,List.getElem?_set_self (by rw[h.len];omega)]
  ·rw[QcA e,List.getElem?_set_ne oM];exact h.at_ u hu
end Go.Mor
namespace Go.Mor
open Go.RowKit
def VQ(pa va:Int)(fs:List ay):Prop:=(∀x,x∈fs→∀p,p∈x.insts→bJ p)∧ey pa va (bF fs)
def j7(fs:List ay)(k:Nat):Prop:=∀(i:Nat) (x:ay),i<k→fs[i]?=some x→∀p,p∈x.insts→bJ p
def mq(x:ay)(j:Nat):Prop:=∀(i:Nat) (p:aO),i<j→x.insts[i]?=some p→bJ p
theorem j7.next{fs:List ay}{k:Nat}{x:ay}(h:j7 fs k)(hx:fs[k]?=some x)(hi:mq x x.insts.length):j7 fs (k+1):=by
 intro i y ft hy p hp;rcases iO i k with h1|h1
 ·exact h i y h1 hy p hp
 ·have:i=k:=oM;subst this;rw[hx]at hy;injection hy with hy;subst hy;obtain⟨j,hj⟩:=jF.1 hp;exact hi j p (List.getElem?_eq_some_iff.1 hj).1 hj
theorem mq.next{x:ay}{j:Nat}{p:aO}(h:mq x j)(hp:x.insts[j]?=some p)(hs:bJ p):mq x (j+1):=by
 intro i q Mu hq;rcases iO i j with h1|h1
 ·exact h i q h1 hq
 ·have:i=j:=oM;subst this;rw[hp]at hq;injection hq with hq;exact hq▸hs
theorem j7.all{fs:List ay}(h:j7 fs fs.length):∀x,x∈fs→∀p,p∈x.insts→bJ p:=by
 intro x hx;obtain⟨i,hi⟩:=jF.1 hx;exact h i x (List.getElem?_eq_some_iff.1 hi).1 hi
theorem uT{fs:List ay}(k:Nat):∀n,k≤n→n≤fs.length→∃es,db fs n=db fs k++es:=by
 intro n;induction n with
 |zero=>intro h _;exact⟨[],by rw[Nat.le_zero.1 h];simp⟩
 |succ n ih=>
  intro h hn;rcases iO n k with h1|h1
  ·have:k=n+1:=oM;subst this;exact⟨[],sI⟩
  ·obtain⟨es,he⟩:=ih h1 oM;obtain⟨x,hx⟩:=bu (l:=fs) (i:=n) oM;exact⟨es++eJ n x,by rw[tx hx,he,xD]⟩
theorem ML(b:Int)(l:List bI)(j:Nat):∃es,cC b l=cC b (l.take j)++es:=⟨cC b (l.drop j),by unfold cC;rw[←Qjy,xK]⟩
theorem MM(b:Int)(l:List aO)(j:Nat):∃es,cT b l=cT b (l.take j)++es:=by
 have e:l.zipIdx=(l.take j).zipIdx++(l.drop j).zipIdx (0+(l.take j).length):=by rw[←List.zipIdx_append,xK]
 refine⟨(((l.drop j).zipIdx (0+(l.take j).length)).filter (fun x=>decide (aU x.1.op))).map (fun x=>(x.1.dst,b,(x.2:Int))),?_⟩;unfold cT;rw[e,xH,Qjy]
theorem QiM{fs:List ay}{pa va:Int}{k:Nat}{x:ay}(hx:fs[k]?=some x)(j:Nat)(h:ey pa va (bF fs)):ey pa va (db fs k++cC k (x.ah.take j)):=by
 have hk:=(List.getElem?_eq_some_iff.1 hx).1;obtain⟨es,he⟩:=uT (fs:=fs) (k+1) fs.length hk (Qjn _);obtain⟨e2,h2⟩:=ML k x.ah j;have:bF fs=(db fs k++cC k (x.ah.take j))++(e2++cT k x.insts++es):=by unfold bF;rw[he,tx hx,eJ,h2];simp only[xD]
 rw[this]at h;exact h.pre
theorem AB{fs:List ay}{pa va:Int}{k:Nat}{x:ay}(hx:fs[k]?=some x)(j:Nat)(h:ey pa va (bF fs)):ey pa va (db fs k++cC k x.ah++cT k (x.insts.take j)):=by
 have hk:=(List.getElem?_eq_some_iff.1 hx).1;obtain⟨es,he⟩:=uT (fs:=fs) (k+1) fs.length hk (Qjn _);obtain⟨e2,h2⟩:=MM k x.insts j;have:bF fs=(db fs k++cC k x.ah++cT k (x.insts.take j))++(e2++es):=by unfold bF;rw[he,tx hx,eJ,h2];simp only[xD]
 rw[this]at h;exact h.pre
structure X6(lo pa:Int)(n:Nat)(base:Nat→Int×Int)(enc:Int×Int→Int×Int):Prop where
 base:∀v:Nat,v<n→lo≤(v:Int)→((base v).1<0↔pa≤(v:Int))
 enc:∀p,0≤p.1→0≤(enc p).1
def NonNeg(ds:rn):Prop:=∀d,d∈ds→0≤d.2.1
theorem Il{pa lo hi:Int}{n:Nat}{base:Nat→Int×Int}{enc:Int×Int→Int×Int}{ds:rn}{l:List (Int×Int)}(h:wZ n base enc ds l)(he:X6 lo pa n base enc)(hd:NonNeg ds)(h0:0≤lo)(h1:lo≤pa)(hn:hi=(n:Int))(v:Int):j6 lo hi l v↔(pa≤v∧v<hi)∧v∉ds.map (·.1):=by
 unfold j6;constructor
 ·rintro⟨⟨a,b⟩,c⟩;have hv:l[v.toNat]?=some (match findD ds (v.toNat:Int)with|some p=>enc p|none=>base v.toNat):=h.at_ v.toNat oM;have ev:(v.toNat:Int)=v:=oM;rw[ev]at hv;have hg:l.getD v.toNat (0,0)=(match findD ds v with|some p=>enc p|none=>base v.toNat):=by simp[List.getD,hv]
  rw[hg]at c;by_cases hm:v∈ds.map (·.1)
  ·obtain⟨p,hp,nG⟩:=tz hm;rw[hp]at c;have:=he.enc p (hd _ nG);simp only at c;omega
  ·rw[gg hm]at c;have:=(he.base v.toNat oM oM).1 c;exact⟨⟨oM,b⟩,hm⟩
 ·rintro⟨⟨a,b⟩,hm⟩;have hv:l[v.toNat]?=some (match findD ds (v.toNat:Int)with|some p=>enc p|none=>base v.toNat):=h.at_ v.toNat oM;have ev:(v.toNat:Int)=v:=oM;rw[ev,gg hm]at hv;have hg:l.getD v.toNat (0,0)=base v.toNat:=by simp[List.getD,hv]
  rw[hg];exact⟨⟨oM,b⟩,(he.base v.toNat oM oM).2 oM⟩
theorem kY(fs:List ay)(k j:Nat)(l:List bI):NonNeg (db fs k++cC k (l.take j)):=by
 intro d hd;rcases QiU.1 hd with hd|hd
 ·exact(rp hd).1
 ·unfold cC at hd;obtain⟨p,_,rfl⟩:=jd.1 hd;exact dF _
theorem uU(fs:List ay)(k j:Nat)(l:List bI)(m:List aO):NonNeg (db fs k++cC k l++cT k (m.take j)):=by
 intro d hd;rcases QiU.1 hd with hd|hd
 ·have:=kY fs k l.length l d (by rw[Qcg];exact hd);exact this
 ·unfold cT at hd;obtain⟨p,_,rfl⟩:=jd.1 hd;exact dF _
theorem kM{pa lo hi:Int}{n:Nat}{base:Nat→Int×Int}{enc:Int×Int→Int×Int}{ds:rn}{l:List (Int×Int)}(h:wZ n base enc ds l)(he:X6 lo pa n base enc)(hd:NonNeg ds)(h0:0≤lo)(h1:lo≤pa)(hn:hi=(n:Int))(ho:ey pa hi ds)(v b k:Int):(j6 lo hi l v→wZ n base enc (ds++[(v,b,k)]) (l.set v.toNat (enc (b,k)))∧ey pa hi (ds++[(v,b,k)]))∧(¬j6 lo hi l v→¬ey pa hi (ds++[(v,b,k)])):=by
 have key:=Il h he hd h0 h1 hn v;constructor
 ·intro hp;obtain⟨h2,h3⟩:=key.1 hp;exact⟨h.put oM oM h3,ey.snoc.2 ⟨ho,h2,h3⟩⟩
 ·intro hp hq;obtain⟨_,h2,h3⟩:=ey.snoc.1 hq;exact hp (key.2 ⟨h2,h3⟩)
def lC(n k:Nat):List (Int×Int):=List.replicate k (-1,0)++List.replicate (n-k) (0,0)
theorem CZ(n:Nat):lC n 0=List.replicate n (0,0):=by simp[lC]
theorem Tn{n k:Nat}(h:k≤n):(lC n k).length=n:=by simp[lC];omega
theorem Fw{n k:Nat}(h:k<n):(lC n k)[k]?=some (0,0):=by
 unfold lC;rw[List.getElem?_append_right sI,Qct,QiN,show n-k=(n-(k+1))+1 by omega];rfl
theorem C0{n k:Nat}(h:k<n):(lC n k).set k (-1,0)=lC n (k+1):=by
 unfold lC;rw[Qjc _ _ sI,List.replicate_succ',xD];congr 1;rw[Qct,QiN,show n-k=(n-(k+1))+1 by omega,QfI];rfl
theorem Fx(n:Nat):wZ n (fun _=>(-1,0)) (fun p=>(p.1,p.2+1)) [] (lC n n)where
 len:=by simp[lC]
 at_:=fun v hv=>by have:findD [] (v:Int)=none:=rfl;rw[this];simp[lC,hv]
theorem MN(pa:Int)(n:Nat):X6 pa pa n (fun _=>(-1,0)) (fun p=>(p.1,p.2+1)):=⟨fun _ _ h=>⟨fun _=>h,fun _=>dQ⟩,fun p h=>h⟩
end Go.Mor
namespace Go.Mor
open Go.RowKit
def Gi(pa:Int)(v:Nat):Int×Int:=if(v:Int)<pa then(0,-2)else(-1,0)
def iH(pa:Int)(n k:Nat):List (Int×Int):=(List.range k).map (Gi pa)++List.replicate (n-k) (0,0)
theorem C1(pa:Int)(n:Nat):iH pa n 0=List.replicate n (0,0):=by simp[iH]
theorem Fy{pa:Int}{n k:Nat}(h:k≤n):(iH pa n k).length=n:=by simp[iH];omega
theorem Fz{pa:Int}{n k:Nat}(h:k<n):(iH pa n k)[k]?=some (0,0):=by
 unfold iH;rw[List.getElem?_append_right sI,QjN,Qdc,QiN,show n-k=(n-(k+1))+1 by omega];rfl
theorem xd{pa:Int}{n k:Nat}{p:Int×Int}(h:k<n)(hp:Gi pa k=p):(iH pa n k).set k p=iH pa n (k+1):=by
 unfold iH;rw[Qjc _ _ sI,lh,Qjy,xD];congr 1;rw[QjN,Qdc,QiN,show n-k=(n-(k+1))+1 by omega,QfI,←hp];rfl
theorem Im{pa:Int}{n k:Nat}(h:k<n)(hp:¬(k:Int)<pa):(iH pa n k).set k (-1,0)=iH pa n (k+1):=xd h (by simp[Gi,hp])
theorem FA{pa:Int}{n k:Nat}(h:k<n)(hp:(k:Int)<pa):((iH pa n k).set k (-1,0)).set k (0,-2)=iH pa n (k+1):=by
 rw[List.set_set];exact xd h (by simp[Gi,hp])
theorem FB(pa:Int)(n:Nat):wZ n (Gi pa) (fun p=>p) [] (iH pa n n)where
 len:=by simp[iH]
 at_:=fun v hv=>by have:findD [] (v:Int)=none:=rfl;rw[this];simp[iH,hv]
theorem MO(pa:Int)(n:Nat):X6 0 pa n (Gi pa) (fun p=>p):=⟨fun v _ _=>by unfold Gi;split<;>simp<;>omega,fun p h=>h⟩
end Go.Mor
namespace Go.Mor
open Go.RowKit
abbrev FC:=(Int→Bool)×ar
def fw(S:Int→Bool)(t:Int):Int→Bool:=fun x=>(x==t)||S x
inductive Kids(T:Int→ar):ar→FC→FC→Prop where
 |nil {s}:Kids T [] s s
 |skip {t ts S o s'}:S t=true→Kids T ts (S,o) s'→Kids T (t::ts) (S,o) s'
 |go {t ts S o s1 s'}:S t=false→Kids T (T t) (fw S t,o) s1→Kids T ts (s1.1,s1.2++[t]) s'→Kids T (t::ts) (S,o) s'
theorem Kids.mono{T:Int→ar}{ts:ar}{s s':FC}(h:Kids T ts s s'):∀x,s.1 x=true→s'.1 x=true:=by
 induction h with
 |nil=>exact fun _ h=>h
 |skip _ _ ih=>exact ih
 |go _ _ _ LI LJ=>exact fun x hx=>LJ x (LI x (by have yk:=hx;simp only at yk;simp[fw,yk]))
def kZ(T:Int→ar):Nat→ar→FC→FC
 |0,_,s=>s
 |_+1,[],s=>s
 |f+1,t::ts,s=>match s.1 t with
  |true=>kZ T f ts s
  |false=>kZ T f ts ((kZ T f (T t) (fw s.1 t,s.2)).1,(kZ T f (T t) (fw s.1 t,s.2)).2++[t])
def Hv(n:Nat)(S:Int→Bool):Nat:=((List.range n).filter (fun i:Nat=> !S (i:Int))).length
theorem uV{n:Nat}{S S':Int→Bool}(h:∀x,S x=true→S' x=true):Hv n S'≤Hv n S:=by
 unfold Hv;refine List.Sublist.length_le ?_;have:(List.range n).filter (fun i:Nat=> !S' (i:Int))=((List.range n).filter (fun i:Nat=> !S (i:Int))).filter (fun i:Nat=> !S' (i:Int)):=by rw[Qji];apply I4;intro i _;cases h1:S (i:Int)<;>cases h2:S' (i:Int)<;>simp;rw[h _ h1]at h2;cases h2
 rw[this];exact QjC
theorem fL{n:Nat}{S:Int→Bool}{t:Int}(h0:0≤t)(h1:t<n)(hS:S t=false):Hv n (fw S t)+1≤Hv n S:=by
 unfold Hv;have j5:(List.range n).filter (fun i:Nat=> !fw S t (i:Int))=((List.range n).filter (fun i:Nat=> !S (i:Int))).filter (fun i:Nat=> !((i:Int)==t)):=by rw[Qji];apply I4;intro i _;simp[fw]
 rw[j5];obtain⟨k,rfl⟩:=yA h0;have nG:k∈(List.range n).filter (fun i:Nat=> !S (i:Int)):=Qjr.2 ⟨Qi4.2 oM,by rw[hS];rfl⟩;have:=uv (p:=fun i:Nat=> !((i:Int)==(k:Int)))|>.2 ⟨k,nG,sI⟩;omega
theorem j8(n:Nat)(S:Int→Bool):Hv n S≤n:=by
 unfold Hv;exact pX (Qjt _ _) sI
theorem uW{T:Int→ar}{n:Nat}(hT:∀t,(T t).length≤2)(hR:∀t x,x∈T t→0≤x∧x<n):∀(f:Nat) (ts:ar) (s:FC),(∀x,x∈ts→0≤x∧x<n)→3*Hv n s.1+ts.length+1≤f→Kids T ts s (kZ T f ts s):=by
 intro f;induction f with
 |zero=>intro ts s _ h;omega
 |succ f ih=>
  intro ts s LK hf;obtain⟨S,o⟩:=s;cases ts with
  |nil=>exact .nil
  |cons t ts=>
   have ht:=LK t (en ..);have Ur:∀x,x∈ts→0≤x∧x<(n:Int):=fun x hx=>LK x (QiV _ hx)
   simp only[je]at hf;cases hS:S t with
   |true=>
    have:kZ T (f+1) (t::ts) (S,o)=kZ T f ts (S,o):=by simp only[kZ,hS]
    rw[this];exact .skip hS (ih ts (S,o) Ur (by simp only at hf⊢;omega))
   |false=>
    have e:kZ T (f+1) (t::ts) (S,o)=kZ T f ts ((kZ T f (T t) (fw S t,o)).1,(kZ T f (T t) (fw S t,o)).2++[t]):=by simp only[kZ,hS]
    rw[e];have hu:=fL (S:=S) ht.1 ht.2 hS;have h1:=ih (T t) (fw S t,o) (hR t) (by have:=hT t;simp only at hf⊢;omega);refine .go hS h1 (ih ts _ Ur ?_);have hm:=uV (n:=n) (Kids.mono h1);simp only at hf hm⊢;omega
theorem Kids.count{T:Int→ar}{n:Nat}(hR:∀t x,x∈T t→0≤x∧x<n){ts:ar}{s s':FC}(h:Kids T ts s s')(LK:∀x,x∈ts→0≤x∧x<(n:Int)):s'.2.length+Hv n s'.1≤s.2.length+Hv n s.1:=by
 induction h with
 |nil=>exact Qjn _
 |skip _ _ ih=>exact ih (fun x hx=>LK x (QiV _ hx))
 | @go t ts S o s1 s' hS _ _ LI LJ=>
  have ht:=LK t (en ..);have h1:=LI (hR t);have h2:=LJ (fun x hx=>LK x (QiV _ hx));have h3:=fL (S:=S) ht.1 ht.2 hS;simp only[rV,je,QdW]at h1 h2⊢;omega
def AD(bs:List SB):ar:=(kZ (tg bs) (3*bs.length+3) (tg bs 0) (fw (fun _=>false) 0,[])).2++[0]
def aF(bs:List SB):ar:=if bs.length=0 then[]else(AD bs).reverse
theorem sd(bs:List SB):∃s,Kids (tg bs) (tg bs 0) (fw (fun _=>false) 0,[]) s∧s.2++[0]=AD bs:=by
 refine⟨_,uW (n:=bs.length) (fun t=>oe bs t) (fun t x h=>og h) (3*bs.length+3) _ _ (fun x h=>og h) ?_,rfl⟩;have h1:=oe bs 0;have h2:=j8 bs.length (fw (fun _=>false) 0);simp only;by_cases h:bs.length=0
 ·have:tg bs 0=[]:=uI oM;rw[this];simp;omega
 ·have:=fL (n:=bs.length) (S:=fun _=>false) (t:=0) oM oM rfl;have h3:=j8 bs.length (fun _=>false);omega
theorem FD{bs:List SB}(h:0<bs.length):(AD bs).length≤bs.length:=by
 obtain⟨s,h1,h2⟩:=sd bs;have h3:=Kids.count (n:=bs.length) (fun t x h=>og h) h1 (fun x h=>og h);have h4:=fL (n:=bs.length) (S:=fun _=>false) (t:=0) oM oM rfl;have h5:=j8 bs.length (fun _=>false);rw[←h2,rV];simp only[QdW,je]at h3⊢;omega
def AE(T:Int→ar):List (Int×Nat)→FC→ar→Prop
 |[],s,R=>s.2=R
 |(b,k)::rest,s,R=>∃s',Kids T ((T b).drop k) s s'∧AE T rest (s'.1,s'.2++[b]) R
theorem MP{T:Int→ar}{b:Int}{k:Nat}{rest:List (Int×Nat)}{s:FC}{R:ar}(h:AE T ((b,k)::rest) s R)(hk:(T b).length≤k):AE T rest (s.1,s.2++[b]) R:=by
 obtain⟨s',h1,h2⟩:=h;rw[List.drop_of_length_le hk]at h1;cases h1;exact h2
theorem Io{T:Int→ar}{b t:Int}{k:Nat}{rest:List (Int×Nat)}{S:Int→Bool}{o:ar}{R:ar}(h:AE T ((b,k)::rest) (S,o) R)(hk:(T b)[k]?=some t)(ht:S t=true):AE T ((b,k+1)::rest) (S,o) R:=by
 obtain⟨s',h1,h2⟩:=h;obtain⟨fm,he⟩:=List.getElem?_eq_some_iff.1 hk;rw[tl fm,he]at h1;cases h1 with
 |skip _ h1=>exact⟨s',h1,h2⟩
 |go h' _ _=>rw[ht]at h';cases h'
theorem Ip{T:Int→ar}{b t:Int}{k:Nat}{rest:List (Int×Nat)}{S:Int→Bool}{o:ar}{R:ar}(h:AE T ((b,k)::rest) (S,o) R)(hk:(T b)[k]?=some t)(ht:S t=false):AE T ((t,0)::(b,k+1)::rest) (fw S t,o) R:=by
 obtain⟨s',h1,h2⟩:=h;obtain⟨fm,he⟩:=List.getElem?_eq_some_iff.1 hk;rw[tl fm,he]at h1;cases h1 with
 |skip h' _=>rw[ht]at h';cases h'
 |go _ ha hb=>exact⟨_,by simpa using ha,⟨s',hb,h2⟩⟩
def bD(l:List Bool):aW:=l.map Value.bool
theorem jM{l:List Bool}{i:Nat}(h:i<l.length):(bD l)[i]?=some (vB (l.getD i false)):=by simp[bD,List.getD,h]
theorem o7(l:List Bool)(i:Nat)(v:Bool):bD (l.set i v)=(bD l).set i (vB v):=by simp[bD,qB]
def dR(n:Nat)(l:List Bool)(S:Int→Bool):Prop:=l.length=n∧∀i:Nat,i<n→l.getD i false=S (i:Int)
theorem dR.start(n:Nat):dR n (List.replicate n false) (fun _=>false):=⟨sI,fun i hi=>by simp[List.getD,hi]⟩
theorem dR.put{n:Nat}{l:List Bool}{S:Int→Bool}(h:dR n l S){i:Nat}(yC:i<n):dR n (l.set i true) (fw S (i:Int)):=by
 refine⟨by simp[h.1],fun j hj=> ?_⟩;unfold fw;by_cases e:i=j
 ·subst e;have:i<l.length:=by rw[h.1];exact hj
  simp[List.getD,this]
 ·have e2:¬((j:Int)=(i:Int)):=oM;rw[←h.2 j hj];simp[List.getD,List.getElem?_set_ne e,e2]
def Qhz(p:Int×Nat):aW:=[vI p.1,vI (p.2:Int)]
def ou(st:List (Int×Nat)):aW:=st.reverse.flatMap Qhz
theorem kN(p:Int×Nat)(st:List (Int×Nat)):ou (p::st)=ou st++Qhz p:=by simp[ou]
theorem uX(st:List (Int×Nat)):(ou st).length=st.length*2:=by
 induction st with
 |nil=>rfl
 |cons p st ih=>rw[kN,rV,ih];simp[Qhz];omega
theorem rq{b:Int}{k:Nat}{st:List (Int×Nat)}:(ou ((b,k)::st))[st.length*2]?=some (vI b)∧(ou ((b,k)::st))[st.length*2+1]?=some (vI (k:Int)):=by
 rw[kN,←uX];constructor
 ·rw[List.getElem?_append_right (Qjn _)];simp[Qhz]
 ·rw[List.getElem?_append_right oM];simp[Qhz]
theorem MQ{b:Int}{k:Nat}{st:List (Int×Nat)}:(ou ((b,k)::st)).take (st.length*2)=ou st:=by
 rw[kN,←uX,List.take_left]
theorem MR{b:Int}{k:Nat}{st:List (Int×Nat)}:(ou ((b,k)::st)).set (st.length*2+1) (vI ((k:Int)+1))=ou ((b,k+1)::st):=by
 rw[kN,kN,←uX,Qjc _ _ oM];simp[Qhz]
structure MetL(n:Nat)(ws:List Nat)(S:Int→Bool):Prop where
 len:ws.length=(n+63) / 64
 fit:Fit ws
 bits:∀i:Nat,i<n→tb ws i=S (i:Int)
theorem MetL.start(n:Nat):MetL n (List.replicate ((n+63) / 64) 0) (fun _=>false):=⟨sI,Fit.zero _,fun i _=>Mr _ i⟩
theorem MetL.put{n:Nat}{ws:List Nat}{S:Int→Bool}(h:MetL n ws S){i:Nat}(hi:i<n):MetL n (uG ws i) (fw S (i:Int)):=by
 refine⟨by simp[uG,h.len],h.fit.put i,fun j hj=> ?_⟩;rw[QH (by rw[h.len];omega),h.bits j hj];unfold fw;congr 1;by_cases e:i=j
 ·subst e;simp
 ·have:¬((j:Int)=(i:Int)):=oM;simp[e,this]
theorem MetL.idx{n:Nat}{ws:List Nat}{S:Int→Bool}(h:MetL n ws S){i:Nat}(hi:i<n):i / 64<ws.length:=by rw[h.len];omega
def AF(T:Int→ar):List (Int×Nat)→Nat
 |[]=>0
 |(b,k)::r=>((T b).length-k+1)+AF T r
def xh(T:Int→ar)(st:List (Int×Nat)):Prop:=∀p,p∈st→p.2≤(T p.1).length
theorem MS(T:Int→ar)(b:Int):xh T [(b,0)]:=by
 intro p hp;simp only[QcC]at hp;subst hp;exact Qdv _
theorem Iq{T:Int→ar}{b t:Int}{k:Nat}{r:List (Int×Nat)}(h:xh T ((b,k)::r))(hk:k+1≤(T b).length):xh T ((t,0)::(b,k+1)::r):=by
 intro p hp;rcases Qcx.1 hp with rfl|hp
 ·exact Qdv _
 ·rcases Qcx.1 hp with rfl|hp
  ·exact hk
  ·exact h p (QiV _ hp)
theorem MT{T:Int→ar}{b:Int}{k:Nat}{r:List (Int×Nat)}(h:xh T ((b,k)::r))(hk:k+1≤(T b).length):xh T ((b,k+1)::r):=by
 intro p hp;rcases Qcx.1 hp with rfl|hp
 ·exact hk
 ·exact h p (QiV _ hp)
theorem Ir{bs:List SB}{b:Int}{k:Nat}(h:k<(tg bs b).length):∃ti:Nat,(tg bs b)[k]?=some (ti:Int)∧ti<bs.length:=by
 have h1:=og (Qi7 h);obtain⟨ti,he⟩:=yA h1.1;exact⟨ti,by rw[List.getElem?_eq_getElem h,he],oM⟩
def rr(l m:ar)(k:Nat):Prop:=m.length=l.length∧∀p,p<l.length→m.getD p 0=if p<k∨l.length≤p+k then l.getD (l.length-1-p) 0 else l.getD p 0
theorem wi(l:ar):rr l l 0:=⟨rfl,fun p hp=>by rw[QcA oM]⟩
theorem AG{m:ar}{i p:Nat}{v:Int}(hi:i<m.length):(m.set i v).getD p 0=if i=p then v else m.getD p 0:=by
 by_cases h:i=p
 ·subst h;simp[List.getD,hi]
 ·simp[List.getD,List.getElem?_set_ne h,h]
theorem yR{l m:ar}{k q:Nat}(h:rr l m k)(hq:k<q∧q+k+1=l.length):rr l ((m.set k (m.getD q 0)).set q (m.getD k 0)) (k+1):=by
 obtain⟨h1,h2⟩:=h;refine⟨by simp[h1],fun p hp=> ?_⟩;rw[AG (by simp;omega),AG oM];by_cases e1:q=p
 ·subst e1;rw[dd rfl,dd oM,h2 k oM,QcA oM,show l.length-1-q=k by omega]
 ·rw[QcA e1];by_cases e2:k=p
  ·subst e2;rw[dd rfl,dd oM,h2 q oM,QcA oM,show l.length-1-k=q by omega]
  ·rw[QcA e2,h2 p hp];by_cases e3:p<k∨l.length≤p+k
   ·rw[dd e3,dd oM]
   ·rw[QcA e3,QcA oM]
theorem AH{l m:ar}{k:Nat}(h:rr l m k)(hk:2*k≤l.length∧l.length≤2*k+1):m=l.reverse:=by
 obtain⟨h1,h2⟩:=h;apply QdX;intro p;by_cases hp:p<l.length
 ·have h3:=h2 p hp;have e:∀x:ar,p<x.length→x[p]?=some (x.getD p 0):=by intro x hx;simp[List.getD,hx]
  rw[e m oM,e l.reverse (by simpa using hp),h3];have e4:l.reverse.getD p 0=l.getD (l.length-1-p) 0:=by simp[List.getD,List.getElem?_reverse hp]
  rw[e4];split
  ·rfl
  ·rw[show l.length-1-p=p by omega]
 ·rw[List.getElem?_eq_none oM,List.getElem?_eq_none (by simp;omega)]
end Go.Mor
namespace Go.Mor
open Go.RowKit
inductive Reach(T:Int→ar):Int→Prop
 |zero:Reach T 0
 |step {x t:Int}:Reach T x→t∈T x→Reach T t
def Cq(T:Int→ar)(bar:Int)(x:Int):ar:=(T x).filter (fun t=> !(t==bar))
theorem im{T:Int→ar}{bar x t:Int}:t∈Cq T bar x↔t∈T x∧t≠bar:=by simp[Cq]
theorem MU{T:Int→ar}(hT:∀t,(T t).length≤2)(bar:Int)(t:Int):(Cq T bar t).length≤2:=pX (Qjt _ _) (hT t)
theorem AI{T:Int→ar}{ts:ar}{s s':FC}(h:Go.Mor.Kids T ts s s'):(∀x,x∈ts→s'.1 x=true)∧(∀x,s'.1 x=true→s.1 x=true∨∀t,t∈T x→s'.1 t=true):=by
 induction h with
 |nil=>exact⟨fun x hx=>(QjD hx).elim,fun x hx=> .inl hx⟩
 | @skip t ts S o s' hS h ih=>
  refine⟨fun x hx=> ?_,ih.2⟩;rcases Qcx.1 hx with rfl|hx
  ·exact Kids.mono h _ hS
  ·exact ih.1 x hx
 | @go t ts S o s1 s' hS h1 h2 LI LJ=>
  have m1:=Kids.mono h1;have m2:=Kids.mono h2;have ht:s1.1 t=true:=m1 t (by simp[fw]);refine⟨fun x hx=> ?_,fun x hx=> ?_⟩
  ·rcases Qcx.1 hx with rfl|hx
   ·exact m2 _ ht
   ·exact LJ.1 x hx
  ·rcases LJ.2 x hx with hx|hx
   ·rcases LI.2 x hx with hx|hx
    ·by_cases e:x=t
     ·subst e;exact .inr fun y hy=>m2 y (LI.1 y hy)
     ·left;have:(x==t||S x)=true:=hx;simpa[e]using this
    ·exact .inr fun y hy=>m2 y (hx y hy)
   ·exact .inr hx
theorem C2{T:Int→ar}{ts:ar}{s s':FC}(h:Go.Mor.Kids T ts s s')(LK:∀x,x∈ts→Reach T x)(hs:∀x,s.1 x=true→Reach T x):∀x,s'.1 x=true→Reach T x:=by
 induction h with
 |nil=>exact hs
 |skip _ _ ih=>exact ih (fun x hx=>LK x (QiV _ hx)) hs
 | @go t ts S o s1 s' hS h1 h2 LI LJ=>
  have ht:=LK t (en ..);refine LJ (fun x hx=>LK x (QiV _ hx)) (LI (fun x hx=> .step ht hx) (fun x hx=> ?_));have hx:(x==t||S x)=true:=hx;by_cases e:x=t
  ·exact e▸ht
  ·exact hs x (by simpa[e]using hx)
theorem It{T:Int→ar}{ts:ar}{s s':FC}(h:Go.Mor.Kids T ts s s'):∃nw,s'.2=s.2++nw∧(∀x,s'.1 x=true↔s.1 x=true∨x∈nw)∧nw.Nodup∧(∀x,x∈nw→s.1 x=false)∧(∀l1 x l2,nw=l1++x::l2→x∈ts∨∃y,y∈l2∧x∈T y):=by
 induction h with
 |nil=>exact⟨[],sI,sI,sI,sI,sI⟩
 | @skip t ts S o s' hS h ih=>
  obtain⟨nw,h1,h2,h3,h4,h5⟩:=ih;exact⟨nw,h1,h2,h3,h4,fun l1 x l2 e=>(h5 l1 x l2 e).imp (fun h=>QiV _ h) id⟩
 | @go t ts S o s1 s' hS h1 h2 LI LJ=>
  obtain⟨n1,a1,a2,a3,a4,a5⟩:=LI;obtain⟨n2,b1,b2,b3,b4,b5⟩:=LJ;have a2':∀x,s1.1 x=true↔(S x=true∨x=t)∨x∈n1:=by
   intro x;rw[a2 x];have:(fw S t x=true)↔(S x=true∨x=t):=by simp[fw,or_comm]
   exact or_congr this Qi1
  have Zt:∀x,x∈n2→S x=false∧x≠t∧x∉n1:=by
   intro x hx;have h0:s1.1 x=false:=b4 x hx;have:¬s1.1 x=true:=by rw[h0];simp
   rw[a2' x]at this;refine⟨by simpa using fun h=>this (.inl (.inl h)),fun h=>this (.inl (.inr h)),fun h=>this (.inr h)⟩
  have fx:∀x,x∈n1→S x=false∧x≠t:=by
   intro x hx;have h0:=a4 x hx;have:¬(fw S t x=true):=by have h0:fw S t x=false:=h0;rw[h0];simp
   have h3:¬(x=t∨S x=true):=by simpa[fw]using this
   exact⟨by simpa using fun h=>h3 (.inr h),fun h=>h3 (.inl h)⟩
  refine⟨n1++t::n2,?_,?_,?_,?_,?_⟩
  ·rw[b1];simp only[a1];simp
  ·intro x;rw[b2 x];have:=a2' x;simp only[this,QiU,Qcx];constructor
   ·rintro(((h|h)|h)|h)
    ·exact .inl h
    ·exact .inr (.inr (.inl h))
    ·exact .inr (.inl h)
    ·exact .inr (.inr (.inr h))
   ·rintro(h|h|h|h)
    ·exact .inl (.inl (.inl h))
    ·exact .inl (.inr h)
    ·exact .inl (.inl (.inr h))
    ·exact .inr h
  ·rw[Tg];refine⟨a3,QiR.2 ⟨fun h=>(Zt t h).2.1 rfl,b3⟩,fun x hx y hy=> ?_⟩;rcases Qcx.1 hy with rfl|hy
   ·exact(fx x hx).2
   ·rintro rfl;exact(Zt x hy).2.2 hx
  ·intro x hx;rcases QiU.1 hx with hx|hx
   ·exact(fx x hx).1
   ·rcases Qcx.1 hx with rfl|hx
    ·exact hS
    ·exact(Zt x hx).1
  ·intro l1 x l2 e;rcases List.append_eq_append_iff.1 e with⟨p,e1,e2⟩|⟨p,e1,e2⟩
   ·cases p with
    |nil=>
     simp only[Qcu,Qjd]at e2;exact .inl (by rw[←e2.1];exact en ..)
    |cons q p=>
     simp only[ph,Qjd]at e2;rcases b5 p x l2 e2.2 with h|⟨y,hy,h⟩
     ·exact .inl (QiV _ h)
     ·exact .inr ⟨y,hy,h⟩
   ·cases p with
    |nil=>
     simp only[Qcu,Qjd]at e2;exact .inl (by rw[e2.1];exact en ..)
    |cons q p=>
     simp only[ph,Qjd]at e2;obtain⟨rfl,e2⟩:=e2;right;rcases a5 l1 x p e1 with h|⟨y,hy,h⟩
     ·exact⟨t,by rw[e2];simp,h⟩
     ·exact⟨y,by rw[e2];simp[hy],h⟩
def QW(T:Int→ar)(n:Nat):Int→Bool:=(kZ T (3*n+3) (T 0) (fw (fun _=>false) 0,[])).1
theorem Iu{T:Int→ar}{n:Nat}(hT:∀t,(T t).length≤2)(hR:∀t x,x∈T t→0≤x∧x<n):∃s,Go.Mor.Kids T (T 0) (fw (fun _=>false) 0,[]) s∧s.1=QW T n:=by
 refine⟨_,uW (n:=n) hT hR (3*n+3) _ _ (fun x h=>hR 0 x h) ?_,rfl⟩;have h1:=hT 0;have h2:=j8 n (fw (fun _=>false) 0);simp only;by_cases h:n=0
 ·have:T 0=[]:=by
   cases h3:T 0 with
   |nil=>rfl
   |cons x l=>have:=hR 0 x (by rw[h3];exact en ..);omega
  rw[this];simp;omega
 ·have:=fL (n:=n) (S:=fun _=>false) (t:=0) oM oM rfl;have h3:=j8 n (fun _=>false);omega
theorem xi{T:Int→ar}{s:FC}(h:Go.Mor.Kids T (T 0) (fw (fun _=>false) 0,[]) s)(x:Int):s.1 x=true↔Reach T x:=by
 constructor
 ·refine C2 h (fun x hx=> .step .zero hx) (fun x hx=> ?_) x;have:x=0:=by simpa[fw]using hx
  exact this▸ .zero
 ·obtain⟨c1,c2⟩:=AI h;have h0:s.1 0=true:=Kids.mono h 0 (by simp[fw]);intro hr;induction hr with
  |zero=>exact h0
  | @step x t _ ht ih=>
   rcases c2 x ih with hx|hx
   ·have:x=0:=by simpa[fw]using hx
    exact c1 t (this▸ht)
   ·exact hx t ht
theorem FE{T:Int→ar}{n:Nat}(hT:∀t,(T t).length≤2)(hR:∀t x,x∈T t→0≤x∧x<n)(x:Int):QW T n x=true↔Reach T x:=by
 obtain⟨s,h,e⟩:=Iu hT hR;rw[←e];exact xi h x
theorem Iv{T:Int→ar}{n:Nat}(hn:0<n)(hR:∀t x,x∈T t→0≤x∧x<(n:Int)){x:Int}(h:Reach T x):0≤x∧x<n:=by
 cases h with
 |zero=>omega
 |step _ ht=>exact hR _ _ ht
def fy(bs:List SB)(bar:Int)(x:Int):Bool:=!(bar==0)&&QW (Cq (tg bs) bar) bs.length x
def fM(bs:List SB)(bar:Int):List Bool:=(List.range bs.length).map (fun i:Nat=>fy bs bar (i:Int))
theorem kO(bs:List SB)(bar:Int):(fM bs bar).length=bs.length:=by simp[fM]
theorem iY{bs:List SB}{bar:Int}{i:Nat}(h:i<bs.length):(fM bs bar).getD i false=fy bs bar (i:Int):=by
 simp[fM,List.getD,h]
theorem ov(bs:List SB)(bar:Int)(x:Int):fy bs bar x=true↔bar≠0∧Reach (Cq (tg bs) bar) x:=by
 unfold fy;rw[Qjo,FE (fun t=>MU (fun t=>oe bs t) bar t) (fun t x h=>og (im.1 h).1) x];simp
theorem se{n:Nat}{l:List Bool}{S:Int→Bool}(h:dR n l S){m:List Bool}(hm:m.length=n)(hg:∀i:Nat,i<n→m.getD i false=S (i:Int)):l=m:=by
 apply QdX;intro i;by_cases hi:i<n
 ·have h1:=h.2 i hi;have h2:=hg i hi;have e1:i<l.length:=by rw[h.1];exact hi
  have e2:i<m.length:=by rw[hm];exact hi
  simp only[List.getD,List.getElem?_eq_getElem e1,List.getElem?_eq_getElem e2,Qjs]at h1 h2⊢;rw[h1,h2]
 ·rw[List.getElem?_eq_none (by rw[h.1];omega),List.getElem?_eq_none (by rw[hm];omega)]
structure AJ(T:Int→ar)(bar:Int)(S:Int→Bool)(todo:ar)(i k:Nat):Prop where
 mem:∀x,S x=true↔x∈todo
 reach:∀x,x∈todo→Reach (Cq T bar) x
 zero:(0:Int)∈todo
 done:∀j x,j<i→todo[j]?=some x→∀t,t∈T x→t≠bar→t∈todo
 part:∀x,todo[i]?=some x→∀t,t∈(T x).take k→t≠bar→t∈todo
theorem AJ.start(T:Int→ar)(bar:Int):AJ T bar (fw (fun _=>false) 0) [0] 0 0:=by
 refine⟨fun x=>by simp[fw],fun x hx=> ?_,sI,fun j x h=>oM,fun x _ t h=>by simp at h⟩;have:x=0:=by simpa using hx
 exact this▸ .zero
theorem AJ.skip{T:Int→ar}{bar:Int}{S:Int→Bool}{todo:ar}{i k:Nat}{b t:Int}(h:AJ T bar S todo i k)(hi:todo[i]?=some b)(hk:(T b)[k]?=some t)(ht:S t=true∨t=bar):AJ T bar S todo i (k+1):=by
 refine⟨h.mem,h.reach,h.zero,h.done,fun x hx y hy cU=> ?_⟩;rw[hi]at hx;injection hx with hx;subst hx;obtain⟨fm,he⟩:=List.getElem?_eq_some_iff.1 hk;rw[QjK fm,he]at hy;rcases QiU.1 hy with hy|hy
 ·exact h.part b hi y hy cU
 ·have:y=t:=by simpa using hy
  subst this;rcases ht with ht|ht
  ·exact(h.mem y).1 ht
  ·exact(cU ht).elim
theorem AJ.push{T:Int→ar}{bar:Int}{S:Int→Bool}{todo:ar}{i k:Nat}{b t:Int}(h:AJ T bar S todo i k)(hi:todo[i]?=some b)(hk:(T b)[k]?=some t)(ht:t≠bar):AJ T bar (fw S t) (todo++[t]) i (k+1):=by
 have fm:i<todo.length:=(List.getElem?_eq_some_iff.1 hi).1;obtain⟨yE,he⟩:=List.getElem?_eq_some_iff.1 hk;refine⟨fun x=> ?_,fun x hx=> ?_,Qi6 _ h.zero,fun j x hj hx y hy cU=> ?_,fun x hx y hy cU=> ?_⟩
 ·have:=h.mem x;simp[fw,this,or_comm]
 ·rcases QiU.1 hx with hx|hx
  ·exact h.reach x hx
  ·have:x=t:=by simpa using hx
   subst this;exact .step (h.reach b (Qcs hi)) (im.2 ⟨Qcs hk,ht⟩)
 ·rw[List.getElem?_append_left oM]at hx;exact Qi6 _ (h.done j x hj hx y hy cU)
 ·rw[List.getElem?_append_left fm,hi]at hx;injection hx with hx;subst hx;rw[QjK yE,he]at hy;rcases QiU.1 hy with hy|hy
  ·exact Qi6 _ (h.part b hi y hy cU)
  ·exact Qjl _ hy
theorem AJ.next{T:Int→ar}{bar:Int}{S:Int→Bool}{todo:ar}{i k:Nat}{b:Int}(h:AJ T bar S todo i k)(hi:todo[i]?=some b)(hk:(T b).length≤k):AJ T bar S todo (i+1) 0:=by
 refine⟨h.mem,h.reach,h.zero,fun j x hj hx y hy cU=> ?_,fun x _ y hy=>by simp at hy⟩;by_cases e:j=i
 ·subst e;rw[hi]at hx;injection hx with hx;subst hx;exact h.part b hi y (by rw[uK hk];exact hy) cU
 ·exact h.done j x oM hx y hy cU
theorem AJ.fin{T:Int→ar}{bar:Int}{S:Int→Bool}{todo:ar}{i k:Nat}(h:AJ T bar S todo i k)(hi:todo.length≤i)(x:Int):S x=true↔Reach (Cq T bar) x:=by
 rw[h.mem x];refine⟨h.reach x,fun hr=> ?_⟩;induction hr with
 |zero=>exact h.zero
 | @step x t _ ht ih=>
  obtain⟨ht,cU⟩:=im.1 ht;obtain⟨j,hj,e⟩:=s5.1 ih;exact h.done j x oM (by rw[List.getElem?_eq_getElem hj,e]) t ht cU
theorem Iw{bs:List SB}{bar:Int}{S:Int→Bool}{inl:List Bool}{todo:ar}{i k:Nat}(o8:dR bs.length inl S)(h:AJ (tg bs) bar S todo i k)(hi:todo.length≤i)(hb:bar≠0):inl=fM bs bar:=by
 refine se o8 (kO _ _) (fun j hj=> ?_);rw[iY hj,xJ,ov,h.fin hi];exact⟨fun h=>h.2,fun h=>⟨hb,h⟩⟩
theorem xj{bs:List SB}{bar:Int}(h:bs.length=0∨bar=0):List.replicate bs.length false=fM bs bar:=by
 refine se (dR.start bs.length) (kO _ _) (fun j hj=> ?_);rw[iY hj];have:bar=0:=oM;simp[fy,this]
end Go.Mor
namespace Go.Mor
open Go.RowKit
def et{α:Type}(enc:α→Value)(rows:List fJ)(l:List (List α)):Prop:=rows.map (fun r=>(r.n,r.xs))=l.map (fun x=>(x.length,x.map enc))
section
variable {α : Type} {enc : α → Value} {rows : List fJ} {l : List (List α)}
theorem et.len(h:et enc rows l):rows.length=l.length:=by
 have:=Qi9 List.length h;simpa using this
theorem et.get(h:et enc rows l){i:Nat}{x:List α}(hi:l[i]?=some x):∃A c,rows[i]?=some ⟨A,x.length,c,x.map enc⟩:=by
 have h1:(rows.map (fun r=>(r.n,r.xs)))[i]?=(l.map (fun x=>(x.length,x.map enc)))[i]?:=by rw[h]
 simp only[List.getElem?_map,hi,s9]at h1;cases h2:rows[i]? with
 |none=>rw[h2]at h1;simp at h1
 |some r=>
  rw[h2]at h1;simp only[s9,p5,eh]at h1;obtain⟨A,n,c,xs⟩:=r;simp only at h1;obtain⟨rfl,rfl⟩:=h1;exact⟨A,c,rfl⟩
theorem et.push(h:et enc rows l){A:aX}{n c:Nat}{xs:aW}{x:List α}(hn:n=x.length)(hx:xs=x.map enc):et enc (rows++[⟨A,n,c,xs⟩]) (l++[x]):=by
 subst hn;subst hx;unfold et at h⊢;rw[Qjy,Qjy,h];rfl
theorem et.next{d:Nat}(h:et enc rows (l.take d)){A:aX}{n c:Nat}{xs:aW}{x:List α}(hd:l[d]?=some x)(hn:n=x.length)(hx:xs=x.map enc):et enc (rows++[⟨A,n,c,xs⟩]) (l.take (d+1)):=by
 obtain⟨fm,he⟩:=List.getElem?_eq_some_iff.1 hd;rw[QjK fm,he];exact h.push hn hx
theorem et.set(h:et enc rows l){A:aX}{n c i:Nat}{xs:aW}{x:List α}(hn:n=x.length)(hx:xs=x.map enc):et enc (rows.set i ⟨A,n,c,xs⟩) (l.set i x):=by
 subst hn;subst hx;unfold et at h⊢;rw[qB,qB,h]
theorem et.all{d:Nat}(h:et enc rows (l.take d))(hd:l.length≤d):et enc rows l:=by rwa [uK hd]at h
theorem et.Us(n:Nat):et enc (List.replicate n jx) (List.replicate n ([]:List α)):=by
 unfold et;simp[jx]
end
theorem mX{w:World}{e:Nat}{rows:List fJ}{A:aX}{n c i:Nat}{xs:aW}(h:(bo.lO e rows).holds w)(hi:rows[i]?=some ⟨A,n,c,xs⟩):(bo.rd A xs).holds w:=aB (Ms h hi)
theorem RO.mX{S:Nat→Prop}{w:World}{e:Nat}{rows:List fJ}{A:aX}{n c i:Nat}{xs:aW}(h:RO S w (.lO e rows))(hi:rows[i]?=some ⟨A,n,c,xs⟩):RO S w (.row e 1 A n c xs):=⟨Ms h.1 hi,fun g hg=>h.2 g ⟨_,Qcs hi,hg⟩⟩
theorem MV{α:Type}{l:List α}{i:Nat}{x d:α}(h:l[i]?=some x):l.getD i d=x:=by simp[List.getD,h]
def lE(bs:List SB)(d b:Int):Bool:=fy bs (-1) d&&(fy bs (-1) b&& !(fy bs d b))
def fS(bs:List SB):List (List Bool):=(List.range bs.length).map (fun d:Nat=>(List.range bs.length).map (fun b:Nat=>lE bs (d:Int) (b:Int)))
theorem jN(bs:List SB):(fS bs).length=bs.length:=by simp[fS]
theorem xk{bs:List SB}{d:Nat}{m:List Bool}(hd:d<bs.length)(h:dR bs.length m (lE bs (d:Int))):(fS bs)[d]?=some m:=by
 have:m=(List.range bs.length).map (fun b:Nat=>lE bs (d:Int) (b:Int)):=se h sI (fun j hj=>by simp[List.getD,hj]);rw[this];simp[fS,hd]
theorem dR.congr{n:Nat}{l:List Bool}{S S':Int→Bool}(h:dR n l S)(e:∀i:Nat,i<n→S (i:Int)=S' (i:Int)):dR n l S':=⟨h.1,fun i hi=>(h.2 i hi).trans (e i hi)⟩
theorem FF{bs:List SB}{d:Nat}(h:fy bs (-1) (d:Int)=false):dR bs.length (List.replicate bs.length false) (lE bs (d:Int)):=(dR.start bs.length).congr (fun i _=>by simp[lE,h])
def lY(bs:List SB)(d:Int)(k:Nat)(b:Int):Bool:=decide (b<(k:Int))&&lE bs d b
theorem C3(bs:List SB)(d:Int):dR bs.length (List.replicate bs.length false) (lY bs d 0):=(dR.start bs.length).congr (fun i _=>by
  have:decide ((i:Int)<((0:Nat):Int))=false:=sI;rw[lY,this];rfl)
theorem xl{bs:List SB}{d:Int}{k:Nat}{m:List Bool}{v:Bool}(h:dR bs.length m (lY bs d k))(hk:k<bs.length)(hv:v=lE bs d (k:Int)):dR bs.length (m.set k v) (lY bs d (k+1)):=by
 refine⟨by simp[h.1],fun j hj=> ?_⟩;by_cases e:k=j
 ·subst e;have:k<m.length:=by rw[h.1];exact hk
  have h2:decide ((k:Int)<((k+1:Nat):Int))=true:=by simp;omega
  simp only[lY,h2,Bool.true_and];simp[List.getD,this,hv]
 ·have h1:=h.2 j hj;have h2:decide ((j:Int)<((k+1:Nat):Int))=decide ((j:Int)<(k:Int)):=by rw[decide_eq_decide];omega
  rw[lY,h2];rw[lY]at h1;rw[←h1];simp[List.getD,List.getElem?_set_ne e]
theorem FG{bs:List SB}{d:Int}{k:Nat}{m:List Bool}(h:dR bs.length m (lY bs d k))(hk:bs.length≤k):dR bs.length m (lE bs d):=h.congr (fun i hi=>by
  have:decide ((i:Int)<(k:Int))=true:=by simp;omega
  rw[lY,this];rfl)
theorem Ix{bs:List SB}{d:Nat}{b:Nat}(hd:fy bs (-1) (d:Int)=true)(hb:fy bs (-1) (b:Int)=true):(!(fy bs (d:Int) (b:Int)))=lE bs (d:Int) (b:Int):=by simp[lE,hd,hb]
theorem Iy{bs:List SB}{d b:Int}(hb:fy bs (-1) b=false):false=lE bs d b:=by simp[lE,hb]
def Cr(l:List (List Bool))(i j:Nat):Bool:=(l.getD i []).getD j false
def jq(l:List (List Bool))(b:Nat):Nat→Int
 |0=> -1
 |k+1=>if k≠b∧Cr l k b=true∧(jq l b k<0∨Cr l (jq l b k).toNat k=true)then(k:Int)else jq l b k
def ow(l:List (List Bool)):ar:=(List.range l.length).map (fun b=>jq l b l.length)
def QX(l:List (List Bool)):Prop:=∀(i:Nat) (x:List Bool),l[i]?=some x→x.length=l.length
theorem yS(bs:List SB):QX (fS bs):=by
 intro i x h;rw[jN];have:=Qcs h;simp only[fS,jd]at this;obtain⟨d,_,rfl⟩:=this;simp
theorem QY{l:List (List Bool)}(i:Nat)(hi:i<l.length):∃x,l[i]?=some x:=⟨_,List.getElem?_eq_getElem hi⟩
theorem QZ{l:List (List Bool)}{i j:Nat}{x:List Bool}(h:l[i]?=some x):Cr l i j=x.getD j false:=by simp[Cr,List.getD,h]
def eK(bs:List SB):ar:=ow (fS bs)
theorem AK{bs:List SB}{y x:Int}(h:x∈bS bs y):0≤x∧x<bs.length:=by
 simp only[bS,dW,jd,Qjr,Qi4]at h;obtain⟨i,⟨h1,_⟩,rfl⟩:=h;omega
end Go.Mor
namespace Go.Mor
open Go.RowKit
theorem FH(n:Nat)(x:SB):(zH n x).Nodup:=by
 unfold zH;refine List.Pairwise.filter _ ?_;split
 ·simp
 ·split
  ·split
   ·simp
   ·rename_i h;simp[h]
  ·simp
theorem Iz(bs:List SB)(b:Int):(tg bs b).Nodup:=by
 unfold tg;split
 ·split
  ·exact FH _ _
  ·simp
 ·simp
def sS(bs:List SB)(i:Nat):List ar:=(List.range bs.length).map (fun t:Nat=>dW bs (t:Int) i)
def uY(bs:List SB):List ar:=(List.range bs.length).map (fun t:Nat=>bS bs (t:Int))
def km(bs:List SB)(i k:Nat):List ar:=(List.range bs.length).map (fun t:Nat=>dW bs (t:Int) i++(if((tg bs (i:Int)).take k).contains (t:Int)=true then[(i:Int)]else[]))
theorem FI(bs:List SB):sS bs 0=List.replicate bs.length []:=by
 unfold sS;apply QdX;intro t;by_cases h:t<bs.length
 ·simp[h,dW]
 ·rw[List.getElem?_eq_none (by simpa using h),List.getElem?_eq_none (by simpa using h)]
theorem MW(bs:List SB)(i:Nat):km bs i 0=sS bs i:=by
 unfold km sS;simp
theorem IA{bs:List SB}{i k:Nat}(hk:(tg bs (i:Int)).length≤k):km bs i k=sS bs (i+1):=by
 unfold km sS;apply Qch;intro t _;rw[oh,uK hk]
theorem MX(bs:List SB):sS bs bs.length=uY bs:=rfl
theorem MY{bs:List SB}{i k ti:Nat}(hk:(tg bs (i:Int))[k]?=some (ti:Int))(ht:ti<bs.length):(km bs i k)[ti]?=some (dW bs (ti:Int) i):=by
 have hn:=Iz bs (i:Int);have X7:¬(ti:Int)∈(tg bs (i:Int)).take k:=by intro h;obtain⟨fm,he⟩:=List.getElem?_eq_some_iff.1 hk;obtain⟨j,hj,Zu⟩:=Qdt.1 h;exact QiW.1 hn j k oM fm oM (Zu.trans he.symm)
 unfold km;rw[List.getElem?_map,List.getElem?_range ht];simp[X7]
theorem MZ{bs:List SB}{i k ti:Nat}(hk:(tg bs (i:Int))[k]?=some (ti:Int))(ht:ti<bs.length):(km bs i k).set ti (dW bs (ti:Int) i++[(i:Int)])=km bs i (k+1):=by
 obtain⟨fm,he⟩:=List.getElem?_eq_some_iff.1 hk;apply QdX;intro t;by_cases h:ti=t
 ·subst h;rw[List.getElem?_set_self (by simpa[km]using ht)];unfold km;rw[List.getElem?_map,List.getElem?_range ht,QjK fm,he];simp
 ·rw[List.getElem?_set_ne h];unfold km;rw[List.getElem?_map,List.getElem?_map];by_cases h2:t<bs.length
  ·rw[List.getElem?_range h2,QjK fm,he];have h3:¬((t:Int)=(ti:Int)):=oM;simp[h3]
  ·rw[List.getElem?_eq_none (by simpa using h2)];rfl
theorem ru{bs:List SB}{t:Nat}(h:t<bs.length):(uY bs)[t]?=some (bS bs (t:Int)):=by simp[uY,h]
theorem IB(bs:List SB):(uY bs).length=bs.length:=by simp[uY]
theorem xm{rows:List fJ}{i:Nat}{r:fJ}:(rows.set i jx).set i r=rows.set i r:=List.set_set ..
end Go.Mor
namespace Go.Mor
open Go.RowKit
section
variable (T : Int → List Int)
def Dm(d x:Int):Prop:=¬(d≠0∧Reach (Cq T d) x)
inductive RA(pl:Int→Int)(d:Int):Nat→Int→Prop
 |zero (k:Nat):d≠0→RA pl d k 0
 |LL {k:Nat} {x t:Int}:RA pl d k x→t∈T x→t≠d→pl x<pl t→RA pl d k t
 |ret {k:Nat} {x t:Int}:RA pl d k x→t∈T x→t≠d→RA pl d (k+1) t
structure Hj(pl:Int→Int):Prop where
 reach:∀x,0≤pl x↔Reach T x
 zero:pl 0=0
 inj:∀x y,0≤pl x→pl x=pl y→x=y
 src:∀x,0≤pl x→x≠0→∃s,0≤pl s∧pl s<pl x∧x∈T s
end
section
variable {T : Int → List Int} {pl : Int → Int}
theorem RA.self{d:Int}{k:Nat}:¬RA T pl d k d:=by
 intro h;cases h with
 |zero _ h=>exact h rfl
 |LL _ _ h _=>exact h rfl
 |ret _ _ h=>exact h rfl
theorem RA.mono{d x:Int}{k:Nat}(h:RA T pl d k x):RA T pl d (k+1) x:=by
 induction h with
 |zero k h=>exact .zero _ h
 |LL _ ht cU hl ih=>exact .LL ih ht cU hl
 |ret _ ht cU ih=>exact .ret ih ht cU
theorem RA.le{d x:Int}{k m:Nat}(h:RA T pl d k x)(hk:k≤m):RA T pl d m x:=by
 induction hk with
 |refl=>exact h
 |step _ ih=>exact ih.mono
theorem RA.reach{d x:Int}{k:Nat}(h:RA T pl d k x):Reach T x:=by
 induction h with
 |zero=>exact .zero
 |LL _ ht _ _ ih=>exact .step ih ht
 |ret _ ht _ ih=>exact .step ih ht
theorem RA.ex{d x:Int}(hd:d≠0)(h:Reach (Cq T d) x):∃k,RA T pl d k x:=by
 induction h with
 |zero=>exact⟨0,.zero 0 hd⟩
 |step _ ht ih=>
  obtain⟨k,hk⟩:=ih;exact⟨k+1,.ret hk (im.1 ht).1 (im.1 ht).2⟩
theorem RA.cut{d b x:Int}{k:Nat}(h:RA T pl d k x):RA T pl b k x∨RA T pl d k b:=by
 induction h with
 |zero k h=>
  by_cases e:b=0
  ·subst e;exact .inr (.zero k h)
  ·exact .inl (.zero k e)
 | @LL k x t hx ht cU hl ih=>
  rcases ih with ih|ih
  ·by_cases e:t=b
   ·subst e;exact .inr (.LL hx ht cU hl)
   ·exact .inl (.LL ih ht e hl)
  ·exact .inr ih
 | @ret k x t hx ht cU ih=>
  rcases ih with ih|ih
  ·by_cases e:t=b
   ·subst e;exact .inr (.ret hx ht cU)
   ·exact .inl (.ret ih ht e)
  ·exact .inr ih.mono
theorem RA.gJ{d:Int}{k:Nat}(hs:∀x,RA T pl d (k+1) x→RA T pl d k x):∀m x,RA T pl d m x→RA T pl d k x:=by
 intro m x h;induction h with
 |zero _ h=>exact .zero k h
 |LL _ ht cU hl ih=>exact .LL ih ht cU hl
 |ret _ ht cU ih=>exact hs _ (.ret ih ht cU)
open Classical in
theorem RA.grow{n:Nat}(hR:∀x,Reach T x→0≤x∧x<(n:Int))(d:Int)(k:Nat):(∃j,j≤k∧∀x,RA T pl d (j+1) x→RA T pl d j x)∨Hv n (fun x=>decide (RA T pl d k x))+k≤n:=by
 induction k with
 |zero=>exact .inr (by have:=j8 n (fun x=>decide (RA T pl d 0 x));omega)
 |succ k ih=>
  rcases ih with⟨j,hj,h⟩|ih
  ·exact .inl ⟨j,oM,h⟩
  ·by_cases hs:∀x,RA T pl d (k+1) x→RA T pl d k x
   ·exact .inl ⟨k,oM,hs⟩
   ·right;have⟨x,hx⟩:=Classical.not_forall.1 hs;have⟨h1,h2⟩:=Classical.not_imp.1 hx;obtain⟨r0,r1⟩:=hR x h1.reach;have hu:=fL (n:=n) (S:=fun x=>decide (RA T pl d k x)) (t:=x) r0 r1 (by simpa using h2);have hm:=uV (n:=n) (S:=fw (fun x=>decide (RA T pl d k x)) x) (S':=fun x=>decide (RA T pl d (k+1) x)) (fun y hy=>by
     simp only[fw,QiZ,Js,QcD]at hy⊢;rcases hy with rfl|hy
     ·exact h1
     ·exact hy.mono)
    omega
theorem RA.all{n:Nat}(hR:∀x,Reach T x→0≤x∧x<(n:Int)){d x:Int}(h:¬RA T pl d (n+1) x):Dm T d x:=by
 rintro⟨hd,hr⟩;obtain⟨m,hm⟩:=RA.ex (pl:=pl) hd hr;rcases RA.grow (pl:=pl) hR d (n+1)with⟨j,hj,hs⟩|hu
 ·exact h ((RA.gJ hs m x hm).le hj)
 ·omega
theorem Dm.self(x:Int):Dm T x x:=by
 rintro⟨h0,h⟩;cases h with
 |zero=>exact h0 rfl
 |step _ ht=>exact(im.1 ht).2 rfl
theorem Dm.yT{d:Int}(h:Dm T d 0):d=0:=by
 by_cases e:d=0
 ·exact e
 ·exact absurd ⟨e,Reach.zero⟩ h
theorem Dm.src{d x s:Int}(h:Dm T d x)(cU:d≠x)(hx:x∈T s):Dm T d s:=by
 rintro⟨hd,hr⟩;exact h ⟨hd,.step hr (im.2 ⟨hx,fun e=>cU e.symm⟩)⟩
theorem Dm.le(hp:Hj T pl){d x:Int}(hx:0≤pl x)(h:Dm T d x):pl d≤pl x:=by
 by_cases fm:pl d≤pl x
 ·exact fm
 ·exfalso;have hd:d≠0:=by rintro rfl;rw[hp.zero]at fm;omega
  refine h ⟨hd,?_⟩;clear h;have key:∀(m:Nat) (x:Int),0≤pl x→pl x<pl d→(pl x).toNat≤m→Reach (Cq T d) x:=by
   intro m;induction m with
   |zero=>
    intro x h0 _ hm;have:x=0:=hp.inj x 0 h0 (by rw[hp.zero];omega);exact this▸ .zero
   |succ m ih=>
    intro x h0 h1 hm;by_cases e:x=0
    ·exact e▸ .zero
    ·obtain⟨s,s0,s1,hs⟩:=hp.src x h0 e;exact .step (ih s s0 oM oM) (im.2 ⟨hs,fun e=>by subst e;omega⟩)
  exact key _ x hx oM (Qjn _)
theorem Dm.reach{d x:Int}(hx:Reach T x)(h:Dm T d x):Reach T d:=by
 by_cases hd:Reach T d
 ·exact hd
 ·exfalso;refine h ⟨fun e=>hd (e▸ .zero),?_⟩;induction hx with
  |zero=>exact .zero
  | @step y t hy ht ih=>
   have yF:Reach (Cq T d) y:=by
    by_cases h2:Dm T d y
    ·exact ih h2
    ·exact(lK.1 h2).2
   exact .step yF (im.2 ⟨ht,fun e=>hd (e▸ .step hy ht)⟩)
inductive gW(up:Int→Int):Int→Int→Prop
 |refl (x:Int):gW up x x
 |step {x d:Int}:x≠0→gW up (up x) d→gW up x d
theorem gW.trans{up:Int→Int}{x y z:Int}(h:gW up x y)(h':gW up y z):gW up x z:=by
 induction h with
 |refl=>exact h'
 |step cU _ ih=>exact .step cU (ih h')
def jz(pl up:Int→Int)(x:Int):Prop:=0≤pl x∧(x=0∨0≤up x)
structure Up(T:Int→ar)(pl up:Int→Int):Prop where
 low:∀x,jz pl up x→x≠0→jz pl up (up x)∧pl (up x)<pl x
 IC:∀x d,jz pl up x→x≠0→Dm T d x→d≠x→Dm T d (up x)
theorem gW.zero{up:Int→Int}{d:Int}(h:gW up 0 d):d=0:=by
 cases h with
 |refl=>rfl
 |step h _=>exact absurd rfl h
theorem gW.C4{up:Int→Int}(hu:Up T pl up){x d:Int}(h:gW up x d)(hx:jz pl up x):jz pl up d∧pl d≤pl x∧(d≠x→pl d<pl x):=by
 induction h with
 |refl=>exact⟨hx,QiS _,fun h=>absurd rfl h⟩
 | @step x d cU _ ih=>
  obtain⟨h1,h2⟩:=hu.low x hx cU;obtain⟨a,b,c⟩:=ih h1;exact⟨a,oM,fun _=>oM⟩
theorem Up.C5{up:Int→Int}(hu:Up T pl up){x d:Int}(hx:jz pl up x)(h:Dm T d x):gW up x d:=by
 have key:∀(m:Nat) (x:Int),jz pl up x→(pl x).toNat≤m→Dm T d x→gW up x d:=by
  intro m;induction m with
  |zero=>
   intro x hx hm h;by_cases e:d=x
   ·exact e▸ .refl _
   ·by_cases e0:x=0
    ·subst e0;exact absurd h.yT e
    ·have h2:=hu.low x hx e0;have:=h2.1.1;omega
  |succ m ih=>
   intro x hx hm h;by_cases e:d=x
   ·exact e▸ .refl _
   ·by_cases e0:x=0
    ·subst e0;exact absurd h.yT e
    ·have h2:=hu.low x hx e0;have:=h2.1.1;exact .step e0 (ih _ h2.1 oM (hu.IC x d hx e0 h e))
 exact key _ x hx (Qjn _) h
inductive dw(pl up:Int→Int):Int→Int→Int→Prop
 |done (x:Int):dw pl up x x x
 |left {a b c:Int}:pl b<pl a→dw pl up (up a) b c→dw pl up a b c
 |right {a b c:Int}:pl a<pl b→dw pl up a (up b) c→dw pl up a b c
theorem dw.Zv{up:Int→Int}(hp:Hj T pl)(hu:Up T pl up){a b c:Int}(h:dw pl up a b c)(ha:jz pl up a)(hb:jz pl up b):jz pl up c∧gW up a c∧gW up b c∧∀d,Dm T d a→Dm T d b→Dm T d c:=by
 induction h with
 |done x=>exact⟨ha,.refl _,.refl _,fun d h _=>h⟩
 | @left a b c fm _ ih=>
  have cU:a≠0:=by rintro rfl;rw[hp.zero]at fm;have:=hb.1;omega
  obtain⟨h1,_⟩:=hu.low a ha cU;obtain⟨q1,q2,q3,q4⟩:=ih h1 hb;refine⟨q1,.step cU q2,q3,fun d hd o4=>q4 d (hu.IC a d ha cU hd ?_) o4⟩;rintro rfl;have:=Dm.le hp hb.1 o4;omega
 | @right a b c fm _ ih=>
  have cU:b≠0:=by rintro rfl;rw[hp.zero]at fm;have:=ha.1;omega
  obtain⟨h1,_⟩:=hu.low b hb cU;obtain⟨q1,q2,q3,q4⟩:=ih ha h1;refine⟨q1,q2,.step cU q3,fun d hd o4=>q4 d hd (hu.IC b d hb cU o4 ?_)⟩;rintro rfl;have:=Dm.le hp ha.1 hd;omega
end
end Go.Mor
namespace Go.Mor
open Go.RowKit
section
variable {T : Int → List Int} {pl : Int → Int}
structure yU(T:Int→ar)(pl up:Int→Int)(k:Nat)(j:Int):Prop where
 ok:Up T pl up
 some:∀x,0≤pl x→x≠0→(pl x≤j∨1≤k)→0≤up x
 off:∀x,(pl x<0∨x=0)→up x= -1
 fD:k=0→∀x,j<pl x→up x= -1
 lo:∀x d,jz pl up x→pl x≤j→gW up x d→¬RA T pl d k x
 hi:1≤k→∀x d,jz pl up x→gW up x d→¬RA T pl d (k-1) x
def Fold(T:Int→ar)(pl up:Int→Int)(ss:ar)(to:Int):Prop:=(to= -1∧∀s,s∈ss→¬jz pl up s)∨(jz pl up to∧(∃s,s∈ss∧jz pl up s)∧(∀s,s∈ss→jz pl up s→gW up s to)∧∀d,(∀s,s∈ss→jz pl up s→Dm T d s)→Dm T d to)
variable {up : Int → Int}
theorem Fold.start:Fold T pl up [] (-1):= .inl ⟨rfl,fun _ h=>(QjD h).elim⟩
theorem Fold.skip{ss:ar}{to s:Int}(h:Fold T pl up ss to)(hs:¬jz pl up s):Fold T pl up (ss++[s]) to:=by
 have hm:∀x,x∈ss++[s]→jz pl up x→x∈ss:=by
  intro x hx hp;rcases QiU.1 hx with hx|hx
  ·exact hx
  ·simp only[QcC]at hx;exact absurd (hx▸hp) hs
 rcases h with⟨h1,h2⟩|⟨h1,⟨q,hq,yG⟩,h2,h3⟩
 ·exact .inl ⟨h1,fun x hx hp=>h2 x (hm x hx hp) hp⟩
 ·exact .inr ⟨h1,⟨q,Qi6 _ hq,yG⟩,fun x hx hp=>h2 x (hm x hx hp) hp,fun d hd=>h3 d (fun x hx hp=>hd x (Qi6 _ hx) hp)⟩
theorem Fold.first{ss:ar}{to s:Int}(h:Fold T pl up ss to)(Ut:to<0)(hr:∀x,0≤pl x→0≤x)(hs:jz pl up s):Fold T pl up (ss++[s]) s:=by
 rcases h with⟨h1,h2⟩|⟨h1,_⟩
 ·refine .inr ⟨hs,⟨s,sI,hs⟩,fun x hx hp=> ?_,fun d hd=>hd s sI hs⟩;rcases QiU.1 hx with hx|hx
  ·exact absurd hp (h2 x hx)
  ·simp only[QcC]at hx;exact hx▸ .refl _
 ·have:=hr to h1.1;omega
theorem Fold.meet{ss:ar}{to s c:Int}(hp:Hj T pl)(hu:Up T pl up)(h:Fold T pl up ss to)(Ut:0≤to)(hs:jz pl up s)(hc:dw pl up to s c):Fold T pl up (ss++[s]) c:=by
 rcases h with⟨h1,h2⟩|⟨h1,h0,h2,h3⟩
 ·omega
 ·obtain⟨q1,q2,q3,q4⟩:=hc.Zv hp hu h1 hs;refine .inr ⟨q1,⟨s,sI,hs⟩,fun x hx hp=> ?_,fun d hd=>q4 d (h3 d (fun x hx hp=>hd x (Qi6 _ hx) hp)) (hd s sI hs)⟩;rcases QiU.1 hx with hx|hx
  ·exact(h2 x hx hp).trans q2
  ·simp only[QcC]at hx;exact hx▸q3
theorem Fold.C4{ss:ar}{to:Int}(h:Fold T pl up ss to)(Ut:0≤to):jz pl up to:=by
 rcases h with⟨h1,_⟩|⟨h1,_⟩
 ·omega
 ·exact h1
def qn(up:Int→Int)(b c:Int):Int→Int:=fun x=>if x=b then c else up x
theorem IE{b:Int}:qn up b (up b)=up:=by
 funext x;unfold qn;split
 ·subst_vars;rfl
 ·rfl
theorem sf{b c:Int}:qn up b c b=c:=by simp[qn]
theorem lZ{b c x:Int}(h:x≠b):qn up b c x=up x:=by simp[qn,h]
section
variable {b c : Int}
theorem Et(hc:0≤c){x:Int}(h:jz pl up x):jz pl (qn up b c) x:=by
 refine⟨h.1,h.2.imp id fun h=> ?_⟩;by_cases e:x=b
 ·subst e;rw[sf];exact hc
 ·rw[lZ e];exact h
theorem tL{x:Int}(h:jz pl (qn up b c) x)(e:x≠b):jz pl up x:=by
 refine⟨h.1,h.2.imp id fun h=> ?_⟩;rwa [lZ e]at h
theorem Eu{x d:Int}(h:gW (qn up b c) x d):gW up x d∨(gW up x b∧gW (qn up b c) b d):=by
 induction h with
 |refl x=>exact .inl (.refl x)
 | @step x d cU h ih=>
  by_cases e:x=b
  ·subst e;exact .inr ⟨.refl _,.step cU h⟩
  ·rw[lZ e]at ih;rcases ih with ih|⟨ih,h2⟩
   ·exact .inl (.step cU ih)
   ·exact .inr ⟨.step cU ih,h2⟩
theorem FJ(hu:Up T pl up){x d:Int}(h:gW (qn up b c) x d)(hx:jz pl up x)(fm:pl x<pl b):gW up x d:=by
 induction h with
 |refl x=>exact .refl x
 | @step x d cU h ih=>
  have e:x≠b:=by rintro rfl;omega
  rw[lZ e]at h ih;obtain⟨h1,h2⟩:=hu.low x hx cU;exact .step cU (ih h1 oM)
theorem yU.step{k:Nat}{j:Int}{ss:ar}(hp:Hj T pl)(hr:∀x,0≤pl x→0≤x)(h:yU T pl up k j)(hj:0≤j)(hb:pl b=j+1)(Zw:∀s,0≤pl s→(s∈ss↔b∈T s))(hc:Fold T pl up ss c):0≤c∧jz pl up c∧pl c<pl b∧(∀s,jz pl up s→b∈T s→gW up s c)∧(∀d,d≠b→Dm T d b→Dm T d c)∧yU T pl (qn up b c) k (j+1):=by
 have vX:b≠0:=by rintro rfl;rw[hp.zero]at hb;omega
 have Hk:0≤pl b:=oM;obtain⟨s0,p0,p1,ps⟩:=hp.src b Hk vX;have C6:∀x,0≤pl x→pl x≤j∨1≤k→jz pl up x:=by
  intro x h0 h1;refine⟨h0,?_⟩;by_cases e:x=0
  ·exact .inl e
  ·exact .inr (h.some x h0 e h1)
 have Mj:jz pl up s0:=C6 s0 p0 (.inl oM);rcases hc with⟨_,h2⟩|⟨IG,_,h2,h3⟩
 ·exact absurd Mj (h2 s0 ((Zw s0 p0).2 ps))
 ·have a2:∀s,jz pl up s→b∈T s→gW up s c:=fun s hs Ig=>h2 s ((Zw s hs.1).2 Ig) hs
  have a0:=(a2 s0 Mj ps).C4 h.ok Mj;have Uu:pl c<pl b:=oM;have Py:0≤c:=hr c IG.1;have a3:∀d,d≠b→Dm T d b→Dm T d c:=fun d cU hd=>h3 d (fun s hs Hh=>hd.src cU ((Zw s Hh.1).1 hs))
  have Uv:c≠b:=by rintro rfl;omega
  have ab:∀d,gW (qn up b c) b d→d=b∨gW up c d:=by
   intro d hd;cases hd with
   |refl=>exact .inl rfl
   |step _ hd=>
    rw[sf]at hd;exact .inr (FJ h.ok hd IG Uu)
  have nb:∀d,gW (qn up b c) b d→¬RA T pl d k b:=by
   intro d hd;rcases ab d hd with rfl|hd
   ·exact RA.self
   ·intro IH;cases IH with
    |zero=>exact vX rfl
    | @LL _ s _ hs Ig cU hl=>
     have Uw:=(hp.reach s).2 hs.reach;have Hh:=C6 s Uw (.inl oM);exact h.lo s d Hh oM ((a2 s Hh Ig).trans hd) hs
    | @ret k' s _ hs Ig cU=>
     have Uw:=(hp.reach s).2 hs.reach;have Hh:=C6 s Uw (.inr oM);exact h.hi oM s d Hh ((a2 s Hh Ig).trans hd) (by simpa using hs)
  refine⟨Py,IG,Uu,a2,a3,⟨⟨fun x hx cU=> ?_,fun x d hx cU hd fG=> ?_⟩,fun x hx cU Fk=> ?_,fun x hx=> ?_,fun hk x hx=> ?_,fun x d hx Fk hd IH=> ?_,fun hk x d hx hd IH=> ?_⟩⟩
  ·by_cases e:x=b
   ·subst e;rw[sf];exact⟨Et Py IG,Uu⟩
   ·rw[lZ e];obtain⟨h1,h2⟩:=h.ok.low x (tL hx e) cU;exact⟨Et Py h1,h2⟩
  ·by_cases e:x=b
   ·subst e;rw[sf];exact a3 d fG hd
   ·rw[lZ e];exact h.ok.IC x d (tL hx e) cU hd fG
  ·by_cases e:x=b
   ·subst e;rw[sf];exact Py
   ·rw[lZ e];refine h.some x hx cU (Fk.imp (fun h1=> ?_) id);by_cases e2:pl x=j+1
    ·exact absurd (hp.inj x b hx oM) e
    ·omega
  ·have e:x≠b:=by rintro rfl;omega
   rw[lZ e];exact h.off x hx
  ·have e:x≠b:=by rintro rfl;omega
   rw[lZ e];exact h.fD hk x oM
  ·by_cases e:x=b
   ·subst e;exact nb d hd IH
   ·have yk:=tL hx e;have fH:pl x≤j:=by
     by_cases e2:pl x=j+1
     ·exact absurd (hp.inj x b hx.1 oM) e
     ·omega
    rcases Eu hd with hd|⟨Ux,hd⟩
    ·exact h.lo x d yk fH hd IH
    ·rcases RA.cut (b:=b) IH with h1|h1
     ·exact h.lo x b yk fH Ux h1
     ·exact nb d hd h1
  ·by_cases e:x=b
   ·subst e;exact nb d hd (IH.le oM)
   ·have yk:=tL hx e;rcases Eu hd with hd|⟨Ux,hd⟩
    ·exact h.hi hk x d yk hd IH
    ·rcases RA.cut (b:=b) IH with h1|h1
     ·exact h.hi hk x b yk Ux h1
     ·exact nb d hd (h1.le oM)
end
theorem yU.start(hp:Hj T pl):yU T pl (fun _=> -1) 0 0:=by
 have hz:∀x,jz pl (fun _=> -1) x→x=0:=by
  rintro x ⟨_,h|h⟩
  ·exact h
  ·have h:(0:Int)≤-1:=h;omega
 refine⟨⟨fun x hx cU=>absurd (hz x hx) cU,fun x d hx cU=>absurd (hz x hx) cU⟩,fun x hx cU h=> ?_,fun _ _=>rfl,fun _ _ _=>rfl,fun x d hx _ hd=> ?_,fun h=>absurd h dQ⟩
 ·exfalso;rcases h with h|h
  ·exact cU (hp.inj x 0 hx (by rw[hp.zero];omega))
  ·omega
 ·have:=hz x hx;subst this;rw[hd.zero];exact RA.self
theorem yU.Zx{k:Nat}{j:Int}(hp:Hj T pl)(h:yU T pl up k j)(hj:∀x,pl x≤j):yU T pl up (k+1) 0:=by
 refine⟨h.ok,fun x hx cU _=>h.some x hx cU (.inl (hj x)),h.off,fun h=>absurd h oM,fun x d hx h0 hd=> ?_,fun _ x d hx hd=>by simpa using h.lo x d hx (hj x) hd⟩;have:x=0:=hp.inj x 0 hx.1 (by have:=hx.1;rw[hp.zero];omega);subst this;rw[hd.zero];exact RA.self
theorem yU.full{k n:Nat}{j:Int}{b c:Int}(hp:Hj T pl)(hR:∀x,Reach T x→0≤x∧x<(n:Int))(h:yU T pl up k j)(hk:n+2≤k)(hb:0≤pl b)(vX:b≠0)(IG:jz pl up c)(Uu:pl c<pl b)(a2:∀s,jz pl up s→b∈T s→gW up s c)(a3:∀d,d≠b→Dm T d b→Dm T d c):up b=c:=by
 have C4:∀x,0≤pl x→jz pl up x:=fun x h0=>⟨h0,by
  by_cases e:x=0
  ·exact .inl e
  ·exact .inr (h.some x h0 e (.inr oM))⟩
 have dm:∀x d,jz pl up x→gW up x d→Dm T d x:=fun x d hx hd=>RA.all (pl:=pl) hR (n:=n) (fun IH=>h.hi oM x d hx hd (IH.le oM))
 have Tp:=C4 b hb;obtain⟨h1,h2⟩:=h.ok.low b Tp vX;have hub:up b≠b:=by intro e;rw[e]at h2;omega
 have e1:gW up c (up b):=h.ok.C5 IG (a3 _ hub (dm b _ Tp (.step vX (.refl _))));have Uv:c≠b:=by rintro rfl;omega
 have dcb:Dm T c b:=by
  rintro⟨Py,hr⟩;cases hr with
  |zero=>exact vX rfl
  | @step s _ hs Ig=>
   have Zy:=(im.1 Ig).1;have Uw:Reach T s:=by
    have key:∀x,Reach (Cq T c) x→Reach T x:=by
     intro x hx;induction hx with
     |zero=>exact .zero
     |step _ ht ih=>exact .step ih (im.1 ht).1
    exact key s hs
   have Hh:=C4 s ((hp.reach s).2 Uw);exact dm s c Hh (a2 s Hh Zy) ⟨Py,hs⟩
 have e2:gW up (up b) c:=h.ok.C5 h1 (h.ok.IC b c Tp vX dcb Uv);have q1:=(e1.C4 h.ok IG).2.1;have q2:=(e2.C4 h.ok h1).2.1;exact hp.inj _ _ h1.1 oM
def FK(T:Int→ar)(pl up:Int→Int)(j:Int):Prop:=∀b s,1≤pl b→pl b≤j→0≤pl s→b∈T s→gW up s (up b)
theorem FK.start:FK T pl up 0:=fun b s h h'=>oM
theorem FK.next{j b:Int}(hp:Hj T pl)(h:FK T pl up j)(hb:pl b=j+1)(ha:∀s,0≤pl s→b∈T s→gW up s (up b)):FK T pl up (j+1):=by
 intro x s h1 h2 hs hx;by_cases e:pl x=j+1
 ·have:x=b:=hp.inj x b oM oM;exact this▸ha s hs (this▸hx)
 ·exact h x s h1 oM hs hx
theorem FK.dm{j:Int}(hp:Hj T pl)(h:FK T pl up j)(hj:∀x,pl x≤j){x d:Int}(ha:gW up x d):Dm T d x:=by
 rintro⟨hd,hr⟩;have toR:∀x,Reach (Cq T d) x→Reach T x:=by
  intro x hx;induction hx with
  |zero=>exact .zero
  |step _ ht ih=>exact .step ih (im.1 ht).1
 induction hr with
 |zero=>exact hd ha.zero
 | @step y t hy ht ih=>
  obtain⟨X1,cU⟩:=im.1 ht;cases ha with
  |refl=>exact cU rfl
  |step h0 ha=>
   have hyr:=(hp.reach y).2 (toR y hy);have Ul:=(hp.reach t).2 (.step (toR y hy) X1);have:1≤pl t:=by
    by_cases e:pl t=0
    ·exact absurd (hp.inj t 0 Ul (by rw[hp.zero];exact e)) h0
    ·omega
   exact ih ((h t y this (hj t) hyr X1).trans ha)
theorem gW.total{x y z:Int}(h:gW up x y)(h':gW up x z):gW up y z∨gW up z y:=by
 induction h with
 |refl=>exact .inl h'
 | @step x d cU h ih=>
  cases h' with
  |refl=>exact .inr (.step cU h)
  |step _ h'=>exact ih h'
end
end Go.Mor
namespace Go.Mor
open Go.RowKit
def bQ(n:Nat)(l:ar)(f:Int→Int):Prop:=l.length=n∧∀i:Nat,i<n→l.getD i 0=f (i:Int)
theorem bQ.ext{n:Nat}{l m:ar}{f:Int→Int}(h:bQ n l f)(h':bQ n m f):l=m:=by
 apply QdX;intro i;by_cases hi:i<n
 ·have h1:=h.2 i hi;have h2:=h'.2 i hi;have e1:i<l.length:=by rw[h.1];exact hi
  have e2:i<m.length:=by rw[h'.1];exact hi
  simp only[List.getD,List.getElem?_eq_getElem e1,List.getElem?_eq_getElem e2,Qjs]at h1 h2⊢;rw[h1,h2]
 ·rw[List.getElem?_eq_none (by rw[h.1];omega),List.getElem?_eq_none (by rw[h'.1];omega)]
theorem bQ.set{n:Nat}{l:ar}{f g:Int→Int}(h:bQ n l f){i:Nat}{v:Int}(yC:i<n)(hg:g (i:Int)=v)(cU:∀j:Nat,j<n→j≠i→g (j:Int)=f (j:Int)):bQ n (l.set i v) g:=by
 refine⟨by simp[h.1],fun j hj=> ?_⟩;by_cases e:i=j
 ·subst e;have:i<l.length:=by rw[h.1];exact hj
  simp[List.getD,this,hg]
 ·rw[cU j hj (fun h=>e h.symm),←h.2 j hj];simp[List.getD,List.getElem?_set_ne e]
theorem bQ.get{n:Nat}{l:ar}{f:Int→Int}(h:bQ n l f){i:Nat}(hi:i<n):l[i]?=some (f (i:Int)):=by
 have h1:=h.2 i hi;have e1:i<l.length:=by rw[h.1];exact hi
 simp only[List.getD,List.getElem?_eq_getElem e1,Qjs]at h1;rw[List.getElem?_eq_getElem e1,h1]
theorem bQ.congr{n:Nat}{l:ar}{f g:Int→Int}(h:bQ n l f)(e:∀i:Nat,i<n→f (i:Int)=g (i:Int)):bQ n l g:=⟨h.1,fun i hi=>(h.2 i hi).trans (e i hi)⟩
def pM(k:Nat)(x:Int):Int:=if x<(k:Int)then-1 else 0
theorem uZ(n:Nat):bQ n (List.replicate n 0) (pM 0):=⟨sI,fun i hi=>by
 have:¬((i:Int)<((0:Nat):Int)):=oM;rw[pM,QcA this];simp[List.getD,hi]⟩
theorem xn{n k:Nat}{l:ar}(h:bQ n l (pM k))(hk:k<n):bQ n (l.set k (-1)) (pM (k+1)):=by
 refine h.set hk ?_ fun j _ cU=> ?_
 ·rw[pM,dd oM]
 ·unfold pM;by_cases e:(j:Int)<(k:Int)
  ·rw[dd e,dd oM]
  ·rw[QcA e,QcA oM]
theorem AL{n k:Nat}{l:ar}(h:bQ n l (pM k))(hk:n≤k):bQ n l (fun _=> -1):=h.congr (fun i hi=>by rw[pM,dd oM])
def NF(l:ar)(x:Int):Int:=nH (fun y=>y==x) l
theorem l5{l:ar}(hn:l.Nodup){i:Nat}{x:Int}(h:l[i]?=some x):NF l x=(i:Int):=by
 obtain⟨fm,he⟩:=List.getElem?_eq_some_iff.1 h;refine Aj (j:=i) ?_ (by simp[List.getD,fm,he]) fm;rw[vA];intro y hy;obtain⟨j,hj,Zu⟩:=Qdt.1 hy;simp only[Js];intro e;exact QiW.1 hn j i oM fm oM (by rw[Zu,he,e])
theorem yV{l:ar}{x:Int}(h:x∉l):NF l x= -1:=by
 refine wX (j:=l.length) ?_ (Qjn _);rw[vA];intro y hy;simp only[Js];rintro rfl;exact h (Qje hy)
theorem tM{l:ar}(hn:l.Nodup){x:Int}:0≤NF l x↔x∈l:=by
 constructor
 ·intro h;by_cases e:x∈l
  ·exact e
  ·rw[yV e]at h;omega
 ·intro h;obtain⟨i,hi⟩:=jF.1 h;rw[l5 hn hi];omega
theorem M0{l:ar}(hn:l.Nodup){x:Int}{i:Nat}(h:NF l x=(i:Int)):l[i]?=some x:=by
 have hm:=(tM hn (x:=x)).1 oM;obtain⟨j,hj⟩:=jF.1 hm;have:=l5 hn hj;rw[this]at h;have:j=i:=oM;exact this▸hj
theorem Q0{l:ar}{x:Int}:NF l x<l.length:=(yH _ l).2
theorem AM{l:ar}(hn:l.Nodup){k:Nat}{b:Int}(hk:l[k]?=some b)(x:Int):NF (l.take (k+1)) x=if x=b then(k:Int)else NF (l.take k) x:=by
 obtain⟨fm,he⟩:=List.getElem?_eq_some_iff.1 hk;have Cs:(l.take (k+1)).Nodup:=hn.sublist (D3 _ _);have Pz:(l.take k).Nodup:=hn.sublist (D3 _ _);by_cases e:x=b
 ·subst e;rw[dd rfl];exact l5 Cs (by rw[List.getElem?_take_of_lt oM];exact hk)
 ·rw[QcA e];by_cases hm:x∈l.take k
  ·obtain⟨j,hj⟩:=jF.1 hm;rw[l5 Pz hj];have hjk:j<k:=by have:=(List.getElem?_eq_some_iff.1 hj).1;simp at this;omega
   rw[List.getElem?_take_of_lt hjk]at hj;exact l5 Cs (by rw[List.getElem?_take_of_lt oM];exact hj)
  ·rw[yV hm,yV];rw[QjK fm,he];simp only[QiU,QcC,not_or];exact⟨hm,e⟩
structure II(T:Int→ar)(l:ar):Prop where
 head:l[0]?=some 0
 nodup:l.Nodup
 mem:∀x,x∈l↔Reach T x
 src:∀x,x∈l→x≠0→∃s,NF l s<NF l x∧0≤NF l s∧x∈T s
theorem mr{bs:List SB}(h:0<bs.length):II (tg bs) (aF bs):=by
 obtain⟨s,hk,he⟩:=sd bs;have hz:=xi hk;obtain⟨nw,h1,h2,h3,h4,h5⟩:=It hk;simp only[Qcu]at h1;have hl:aF bs=0::nw.reverse:=by unfold aF;rw[QcA oM,←he,h1];simp
 have h0:(0:Int)∉nw:=by intro hm;have:=h4 0 hm;simp[fw]at this
 have C7:(aF bs).Nodup:=by rw[hl,QiR];exact⟨by simpa using h0,List.pairwise_reverse.2 (h3.imp (fun h=>fun e=>h e.symm))⟩
 refine⟨by rw[hl];rfl,C7,fun x=> ?_,fun x hx cU=> ?_⟩
 ·rw[←hz x,h2 x,hl];simp[fw]
 ·have yk:x∈nw:=by rw[hl]at hx;simpa[cU]using hx
  obtain⟨l1,l2,e⟩:=List.append_of_mem yk;have xo:aF bs=(0::l2.reverse)++x::l1.reverse:=by rw[hl,e];simp
  have px:NF (aF bs) x=((0::l2.reverse).length:Int):=by refine l5 C7 ?_;rw[xo,List.getElem?_append_right (Qjn _)];simp
  have py:∀y,y∈(0:Int)::l2.reverse→NF (aF bs) y<NF (aF bs) x∧0≤NF (aF bs) y:=by
   intro y hy;obtain⟨j,hj,Q1⟩:=s5.1 hy;have:NF (aF bs) y=(j:Int):=by refine l5 C7 ?_;rw[xo,List.getElem?_append_left hj,List.getElem?_eq_getElem hj,Q1]
   omega
  rcases h5 l1 x l2 e with h|⟨y,hy,h⟩
  ·exact⟨0,(py 0 sI).1,(py 0 sI).2,h⟩
  ·have:=py y (by simp[hy]);exact⟨y,this.1,this.2,h⟩
theorem II.NF{T:Int→ar}{l:ar}(h:II T l):Hj T (NF l)where
 reach:=fun x=>(tM h.nodup).trans (h.mem x)
 zero:=l5 h.nodup h.head;inj:=fun x y hx e=>by obtain⟨i,hi⟩:=jF.1 ((tM h.nodup).1 hx);have e1:=l5 h.nodup hi;have e2:=M0 h.nodup (x:=y) (i:=i) oM;rw[hi]at e2;injection e2
 src:=fun x hx cU=>by obtain⟨s,h1,h2,h3⟩:=h.src x ((tM h.nodup).1 hx) cU;exact⟨s,h2,h1,h3⟩
def iq(bs:List SB)(x:Int):Int:=NF (aF bs) x
theorem Be{bs:List SB}(h:0<bs.length):Hj (tg bs) (iq bs):=(mr h).NF
theorem mu{bs:List SB}(h:0<bs.length){x:Int}(hx:Reach (tg bs) x):0≤x∧x<(bs.length:Int):=Iv h (fun _ _ h=>og h) hx
theorem jX{bs:List SB}(h:0<bs.length){x:Int}(hx:0≤iq bs x):0≤x∧x<(bs.length:Int):=mu h (((Be h).reach x).1 hx)
def Tw(bs:List SB):ar:=(List.range bs.length).map (fun i:Nat=>iq bs (i:Int))
theorem IJ(bs:List SB):bQ bs.length (Tw bs) (iq bs):=⟨by simp[Tw],fun i hi=>by simp[Tw,List.getD,hi]⟩
theorem AN{bs:List SB}{b s:Int}:s∈bS bs b↔(0≤s∧s<bs.length)∧b∈tg bs s:=by
 simp only[bS,dW,jd,Qjr,Qi4,QdI,QcD];constructor
 ·rintro⟨i,⟨h1,h2⟩,rfl⟩;exact⟨oM,h2⟩
 ·rintro⟨h1,h2⟩;obtain⟨k,rfl⟩:=yA h1.1;exact⟨k,⟨oM,h2⟩,rfl⟩
theorem jO{bs:List SB}{x:Int}:fy bs (-1) x=true↔Reach (tg bs) x:=by
 rw[ov];have e:∀y,Cq (tg bs) (-1) y=tg bs y:=by intro y;unfold Cq;rw[QjO];intro t ht;have:=og ht;simp only[dB,beq_eq_false_iff_ne,QcV];omega
 have e2:Cq (tg bs) (-1)=tg bs:=funext e;rw[e2];exact⟨fun h=>h.2,fun h=>⟨dQ,h⟩⟩
theorem Qc4{bs:List SB}{d x:Int}:fy bs d x=false↔Dm (tg bs) d x:=by
 unfold Dm;rw[←ov];simp
theorem ry{bs:List SB}{d b:Nat}(hd:d<bs.length)(hb:b<bs.length):Cr (fS bs) d b=true↔Reach (tg bs) (b:Int)∧Dm (tg bs) (d:Int) (b:Int):=by
 have:Cr (fS bs) d b=lE bs (d:Int) (b:Int):=by simp[Cr,fS,List.getD,hd,hb]
 rw[this];simp only[lE,Qjo,dB];rw[jO,jO,Qc4];exact⟨fun h=>h.2,fun h=>⟨Dm.reach h.1 h.2,h⟩⟩
theorem QhA{l:List (List Bool)}{b k:Nat}(h:∀d:Nat,d<k→d≠b→Cr l d b=false):jq l b k= -1:=by
 induction k with
 |zero=>rfl
 |succ k ih=>
  unfold jq;rw[ih (fun d hd=>h d oM)];refine QcA fun hh=> ?_
  rw[h k oM hh.1]at hh;exact Bool.noConfusion hh.2.1
theorem IK{bs:List SB}{up:Int→Int}(h0:0<bs.length)(hu:Up (tg bs) (iq bs) up)(hp:∀x,0≤iq bs x→jz (iq bs) up x)(hd:∀x d,0≤iq bs x→gW up x d→Dm (tg bs) d x){b:Nat}(hb:b<bs.length)(hr:0≤iq bs (b:Int)):∀k,k≤bs.length→(jq (fS bs) b k= -1∧∀d:Nat,d<k→d≠b→¬Dm (tg bs) (d:Int) (b:Int))∨(∃d:Nat,jq (fS bs) b k=(d:Int)∧d<k∧d≠b∧Dm (tg bs) (d:Int) (b:Int)∧∀e:Nat,e<k→e≠b→Dm (tg bs) (e:Int) (b:Int)→Dm (tg bs) (e:Int) (d:Int)):=by
 have hP:=Be h0;have Hk:=(hP.reach _).1 hr;have rd:∀d x,0≤iq bs x→Dm (tg bs) d x→0≤iq bs d:=fun d x hx h=>(hP.reach d).2 (Dm.reach ((hP.reach x).1 hx) h)
 intro k;induction k with
 |zero=>exact fun _=> .inl ⟨rfl,fun d h=>oM⟩
 |succ k ih=>
  intro hk;have LM:Cr (fS bs) k b=true↔Dm (tg bs) (k:Int) (b:Int):=by rw[ry oM hb];exact⟨fun h=>h.2,fun h=>⟨Hk,h⟩⟩
  rcases ih oM with⟨h1,h2⟩|⟨d,h1,h2,h3,h4,h5⟩
  ·by_cases c:k≠b∧Cr (fS bs) k b=true
   ·right;refine⟨k,?_,oM,c.1,LM.1 c.2,fun e he cU o4=> ?_⟩
    ·unfold jq;exact dd ⟨c.1,c.2,.inl oM⟩
    ·by_cases e2:e=k
     ·subst e2;exact Dm.self _
     ·exact absurd o4 (h2 e oM cU)
   ·left;refine⟨?_,fun e he cU o4=> ?_⟩
    ·unfold jq;rw[QcA (fun hh=>c ⟨hh.1,hh.2.1⟩)];exact h1
    ·by_cases e2:e=k
     ·subst e2;exact c ⟨cU,LM.2 o4⟩
     ·exact h2 e oM cU o4
  ·have vg:Cr (fS bs) d k=true↔Reach (tg bs) (k:Int)∧Dm (tg bs) (d:Int) (k:Int):=ry oM oM;by_cases c:k≠b∧Cr (fS bs) k b=true
   ·have X8:=LM.1 c.2;have Na:=rd _ _ hr X8;by_cases c2:Cr (fS bs) d k=true
    ·right;refine⟨k,?_,oM,c.1,X8,fun e he cU o4=> ?_⟩
     ·unfold jq;exact dd ⟨c.1,c.2,.inr (by rw[h1];exact c2)⟩
     ·by_cases e2:e=k
      ·subst e2;exact Dm.self _
      ·have a1:=hu.C5 (hp _ Na) (vg.1 c2).2;have a2:=hu.C5 (hp _ (rd _ _ Na (vg.1 c2).2)) (h5 e oM cU o4);exact hd _ _ Na (a1.trans a2)
    ·right;refine⟨d,?_,oM,h3,h4,fun e he cU o4=> ?_⟩
     ·unfold jq;rw[QcA]
      ·exact h1
      ·rintro⟨_,_,hh⟩;rw[h1]at hh;rcases hh with hh|hh
       ·omega
       ·exact c2 hh
     ·by_cases e2:e=k
      ·subst e2;have X9:=rd _ _ hr h4;rcases gW.total (hu.C5 (hp _ hr) X8) (hu.C5 (hp _ hr) h4)with t|t
       ·exact absurd (vg.2 ⟨(hP.reach _).1 Na,hd _ _ Na t⟩) c2
       ·exact hd _ _ X9 t
      ·exact h5 e oM cU o4
   ·right;refine⟨d,?_,oM,h3,h4,fun e he cU o4=> ?_⟩
    ·unfold jq;rw[QcA (fun hh=>c ⟨hh.1,hh.2.1⟩)];exact h1
    ·by_cases e2:e=k
     ·subst e2;exact absurd ⟨cU,LM.2 o4⟩ c
     ·exact h5 e oM cU o4
theorem FL{bs:List SB}{up:Int→Int}{ab:ar}{k:Nat}{i j:Int}(h0:0<bs.length)(hr:yU (tg bs) (iq bs) up k i)(hk:1≤k)(hs:FK (tg bs) (iq bs) up j)(hj:∀x,iq bs x≤j)(Hl:bQ bs.length ab up):ab=eK bs:=by
 have hP:=Be h0;have hp:∀x,0≤iq bs x→jz (iq bs) up x:=fun x h=>⟨h,by
  by_cases e:x=0
  ·exact .inl e
  ·exact .inr (hr.some x h e (.inr hk))⟩
 have hd:∀x d,0≤iq bs x→gW up x d→Dm (tg bs) d x:=fun x d _ h=>hs.dm hP hj h
 refine Hl.ext ⟨by simp[eK,ow,jN],fun b hb=> ?_⟩;have e1:(eK bs).getD b 0=jq (fS bs) b bs.length:=by simp[eK,ow,jN,List.getD,hb]
 rw[e1];have PA:∀d:Nat,d<bs.length→¬Dm (tg bs) (d:Int) (b:Int)∨¬Reach (tg bs) (b:Int)→Cr (fS bs) d b=false:=by
  intro d Uy hh;rw[←QjA];intro ht;have:=(ry Uy hb).1 ht;rcases hh with hh|hh
  ·exact hh this.2
  ·exact hh this.1
 by_cases Hk:0≤iq bs (b:Int)
 ·by_cases vX:b=0
  ·subst vX;rw[show up ((0:Nat):Int)= -1 from hr.off _ (.inr rfl)];refine QhA fun d Uy cU=>PA d Uy (.inl fun h=> ?_)
   have:=h.yT;omega
  ·have Q2:(b:Int)≠0:=oM;obtain⟨l1,l2⟩:=hr.ok.low _ (hp _ Hk) Q2;have fI:up (b:Int)≠(b:Int):=by intro e;rw[e]at l2;omega
   have lr:=jX h0 l1.1;obtain⟨u,hu⟩:=yA lr.1;have du:Dm (tg bs) (up (b:Int)) (b:Int):=hd _ _ Hk (.step Q2 (.refl _));rcases IK h0 hr.ok hp hd hb Hk bs.length (Qjn _)with⟨_,h2⟩|⟨d,h1,h2,h3,h4,h5⟩
   ·exact absurd (hu▸du) (h2 u oM (fun e=>fI (by rw[hu,e])))
   ·rw[h1];have cU:(d:Int)≠(b:Int):=oM;have d1:Dm (tg bs) (up (b:Int)) (d:Int):=by rw[hu];exact h5 u oM (fun e=>fI (by rw[hu,e])) (hu▸du)
    have X9:0≤iq bs (d:Int):=(hP.reach _).2 (Dm.reach ((hP.reach _).1 Hk) h4);have d2:Dm (tg bs) (d:Int) (up (b:Int)):=hr.ok.IC _ _ (hp _ Hk) Q2 h4 cU;have q1:=Dm.le hP X9 d1;have q2:=Dm.le hP l1.1 d2;exact hP.inj _ _ X9 oM
 ·rw[hr.off _ (.inl oM)];exact QhA fun d Uy _=>PA d Uy (.inr fun h=>Hk ((hP.reach _).2 h))
end Go.Mor
namespace Go.Mor
open Go.RowKit
theorem bQ.at_{n:Nat}{l:ar}{f:Int→Int}(h:bQ n l f){x:Int}(h0:0≤x)(h1:x<n):(ints l)[x.toNat]?=some (vI (f x)):=by
 obtain⟨i,rfl⟩:=yA h0;have:=h.get (i:=i) oM;simp[ints,this]
structure Nb(T:Int→ar)(pl up:Int→Int)(n:Nat)(LN ab:ar):Prop where
 NF:Hj T pl
 ok:Up T pl up
 yW:∀x,0≤pl x→0≤x∧x<(n:Int)
 LM:bQ n LN pl
 Hl:bQ n ab up
section
variable {T : Int → List Int} {pl up : Int → Int} {n : Nat} {LN ab : List Int}
theorem Nb.Ya(h:Nb T pl up n LN ab){x:Int}(hx:jz pl up x):(ints LN)[x.toNat]?=some (vI (pl x)):=h.LM.at_ (h.yW x hx.1).1 (h.yW x hx.1).2
theorem Nb.fX(h:Nb T pl up n LN ab){x:Int}(hx:jz pl up x):(ints ab)[x.toNat]?=some (vI (up x)):=h.Hl.at_ (h.yW x hx.1).1 (h.yW x hx.1).2
theorem Nb.fY(h:Nb T pl up n LN ab){a b:Int}(hb:jz pl up b)(fm:pl a>pl b):a≠0:=by
 rintro rfl;rw[h.NF.zero]at fm;have:=hb.1;omega
theorem IL(h:Nb T pl up n LN ab){a b a2 b2:Int}(ha:jz pl up a)(yX:jz pl up a2)(tP:jz pl up b2)(cU:a≠b)(h1:a2=a∨pl a2<pl a)(h2:b2=b∨pl b2<pl b)(g1:¬pl a2>pl b)(g2:¬pl b2>pl a2):(pl a2+pl b2).toNat<(pl a+pl b).toNat:=by
 have p1:=yX.1;have p2:=tP.1;rcases h1 with rfl|h1
 ·rcases h2 with rfl|h2
  ·exact absurd (h.NF.inj _ _ ha.1 oM) cU
  ·omega
 ·rcases h2 with rfl|h2<;>omega
end
end Go.Mor
namespace Go.Mor
open Go.RowKit
theorem iP(bs:List SB):(aF bs).length≤bs.length:=by
 unfold aF;split
 ·simp
 ·rw[List.length_reverse];exact FD oM
theorem yY{bs:List SB}{k:Nat}(hk:k<(aF bs).length):∃bi:Nat,(aF bs)[k]?=some (bi:Int)∧bi<bs.length∧iq bs (bi:Int)=(k:Int):=by
 have hl:=iP bs;have ho:=mr (bs:=bs) oM;have hg:(aF bs)[k]?=some (aF bs)[k]:=List.getElem?_eq_getElem hk;have hr:=mu oM ((ho.mem _).1 (Qcs hg));obtain⟨q,hq⟩:=yA hr.1;rw[hq]at hg;exact⟨q,hg,oM,l5 ho.nodup hg⟩
theorem IM{bs:List SB}{j:Nat}(hk:j+1<(aF bs).length):∃bi:Nat,((aF bs).drop 1)[j]?=some (bi:Int)∧bi<bs.length∧iq bs (bi:Int)=(j:Int)+1:=by
 obtain⟨bi,h1,h2,h3⟩:=yY hk;exact⟨bi,by rw[List.getElem?_drop,Nat.add_comm];exact h1,h2,oM⟩
theorem Nc{w:World}{ad:Addr}{l:ar}(h:(bo.rd (some ad) (ints l)).holds w):(bo.rd (some (ad.add (1*1))) (ints (l.drop 1))).holds w:=by
 have:=Mv h 1;simpa[ints]using this
theorem yZ(bs:List SB){l:ar}(h:bQ bs.length l (fun _=> -1)):bQ bs.length l (NF ((aF bs).take 0)):=h.congr (fun i _=>(yV sI).symm)
theorem AO{bs:List SB}{l:ar}{k bi:Nat}(h:bQ bs.length l (NF ((aF bs).take k)))(hk:(aF bs)[k]?=some (bi:Int))(hb:bi<bs.length):bQ bs.length (l.set bi (k:Int)) (NF ((aF bs).take (k+1))):=by
 have fm:=(List.getElem?_eq_some_iff.1 hk).1;have hl:=iP bs;have ho:=mr (bs:=bs) oM;refine h.set hb ?_ fun j _ cU=> ?_
 ·rw[AM ho.nodup hk,dd rfl]
 ·rw[AM ho.nodup hk,QcA oM]
theorem C8{bs:List SB}{l:ar}{k:Nat}(h:bQ bs.length l (NF ((aF bs).take k)))(hk:(aF bs).length≤k):bQ bs.length l (iq bs):=by
 rw[uK hk]at h;exact h
theorem iu{l:ar}{q:Nat}{x:Int}(h:l[q]?=some x):l.take (q+1)=l.take q++[x]:=by
 obtain⟨fm,he⟩:=List.getElem?_eq_some_iff.1 h;rw[QjK fm,he]
theorem tQ{bs:List SB}{b:Int}{q:Nat}(h:q<(bS bs b).length):∃si:Nat,(bS bs b)[q]?=some (si:Int)∧si<bs.length:=by
 have h1:=AK (Qi7 h);obtain⟨k,he⟩:=yA h1.1;exact⟨k,by rw[List.getElem?_eq_getElem h,he],oM⟩
theorem Nd{bs:List SB}(h:0<bs.length){b:Int}:∀s,0≤iq bs s→(s∈bS bs b↔b∈tg bs s):=fun s hs=>by
 rw[AN];exact⟨fun h=>h.2,fun hb=>⟨jX h hs,hb⟩⟩
theorem IP(bs:List SB)(x:Int):iq bs x<(aF bs).length:=Q0
theorem IQ{bs:List SB}{up:Int→Int}{ab:ar}{k:Nat}{j:Int}(hr:0<bs.length→yU (tg bs) (iq bs) up k 0)(hk:1≤k)(hs:FK (tg bs) (iq bs) up j)(hj:∀x,iq bs x≤j)(Hl:bQ bs.length ab up):ab=eK bs:=by
 rcases Qcv bs.length with h0|h0
 ·have e1:ab=[]:=ze (by rw[Hl.1,h0]);have e2:eK bs=[]:=ze (by simp[eK,ow,jN,h0]);rw[e1,e2]
 ·exact FL h0 (hr h0) hk hs hj Hl
theorem IT{n k:Nat}{b:Bool}(hf:n+2≤k→b=false)(h:b=true):k+1≤n+2:=by
 by_cases h8:n+2≤k
 ·rw[hf h8]at h;cases h
 ·omega
theorem AP(bs:List SB):(eK bs).length=bs.length:=by simp[eK,ow,jN]
theorem Nf(bs:List SB):(Tw bs).length=bs.length:=by simp[Tw]
theorem yU.keep{bs:List SB}{up:Int→Int}{k:Nat}{j b to:Int}(h:yU (tg bs) (iq bs) up k j)(hb:iq bs b=j+1)(Ut:0≤to)(he:up b=to)(ha:∀s,jz (iq bs) up s→b∈tg bs s→gW up s to):∀s,0≤iq bs s→b∈tg bs s→gW up s (up b):=by
 intro s hs hx;rw[he];refine ha s ⟨hs,?_⟩ hx;by_cases e:s=0
 ·exact .inl e
 ·refine .inr (h.some s hs e (.inr ?_));by_cases hk:k=0
  ·have:=h.fD hk b oM;omega
  ·omega
end Go.Mor
namespace Go.Mor
open Go.RowKit
structure QcE(bs:List SB)(up:Int→Int):Prop where
 of:bQ bs.length (eK bs) up
 ok:Up (tg bs) (iq bs) up
 C4:∀x,0≤iq bs x→jz (iq bs) up x
 off:∀x,(iq bs x<0∨x=0)→up x= -1
 dm:∀x d,gW up x d→Dm (tg bs) d x
def PB(bs:List SB):Prop:=0<bs.length→∃up,QcE bs up
theorem Q3{bs:List SB}{up:Int→Int}{ab:ar}{k:Nat}{j:Int}(hr:0<bs.length→yU (tg bs) (iq bs) up k 0)(hk:1≤k)(hs:FK (tg bs) (iq bs) up j)(hj:∀x,iq bs x≤j)(Hl:bQ bs.length ab up):PB bs:=by
 intro h0;have Fc:=hr h0;refine⟨up,IQ hr hk hs hj Hl▸Hl,Fc.ok,fun x h=>⟨h,?_⟩,Fc.off,fun x d h=>hs.dm (Be h0) hj h⟩;by_cases e:x=0
 ·exact .inl e
 ·exact .inr (Fc.some x h e (.inr hk))
end Go.Mor
namespace Go.Mor
open Go.RowKit
abbrev l6:=List (Int×Nat×Nat)
mutual
inductive wj(K:Int→ar):Int→Nat→Nat→l6→Prop
 |mk {b:Int} {n m:Nat} {r:l6}:gp K (K b) (n+1) m r→wj K b n (m+1) (r++[(b,n+1,m+1)])
inductive gp(K:Int→ar):ar→Nat→Nat→l6→Prop
 |nil {n:Nat}:gp K [] n n []
 |snoc {l:ar} {c:Int} {n m p:Nat} {r s:l6}:gp K l n m r→wj K c m p s→gp K (l++[c]) n p (r++s)
end
structure TreeU(K:Int→ar)(pl up:Int→Int):Prop where
 IU:∀b c,c∈K b→up c=b∧c≠0∧pl b<pl c
 FM:∀b,(K b).Nodup
section
variable {K : Int → List Int} {pl up : Int → Int}
theorem TreeU.C5(h:TreeU K pl up){b c:Int}(hc:c∈K b):gW up c b:= .step (h.IU b c hc).2.1 (by rw[(h.IU b c hc).1];exact .refl _)
mutual
theorem wj.facts(h:TreeU K pl up){b:Int}{n m:Nat}{r:l6}:wj K b n m r→(∀x i o,(x,i,o)∈r→gW up x b∧n<i∧i<o∧o≤m)∧n<m
 | .mk (m:=m) hl=>by
  have ih:=gp.facts h hl;constructor
  ·intro x i o hx;rcases QiU.1 hx with hx|hx
   ·obtain⟨⟨c,hc,ha⟩,h1,h2,h3⟩:=ih.1 x i o hx;exact⟨ha.trans (h.C5 hc),oM,h2,oM⟩
   ·simp only[QcC,eh]at hx;obtain⟨rfl,rfl,rfl⟩:=hx;have:=ih.2;exact⟨.refl _,oM,oM,oM⟩
  ·have:=ih.2;omega
theorem gp.facts(h:TreeU K pl up){l:ar}{n m:Nat}{r:l6}:gp K l n m r→(∀x i o,(x,i,o)∈r→(∃c,c∈l∧gW up x c)∧n<i∧i<o∧o≤m)∧n≤m
 | .nil=>⟨fun x i o hx=>by simp at hx,Qjn _⟩
 | .snoc (l:=l) (c:=c) (m:=m0) hl hv=>by
  have i1:=gp.facts h hl;have i2:=wj.facts h hv;refine⟨fun x i o hx=> ?_,by have:=i1.2;have:=i2.2;omega⟩;rcases QiU.1 hx with hx|hx
  ·obtain⟨⟨c',hc,ha⟩,h1,h2,h3⟩:=i1.1 x i o hx;have:=i2.2;exact⟨⟨c',Qi6 _ hc,ha⟩,h1,h2,oM⟩
  ·obtain⟨ha,h1,h2,h3⟩:=i2.1 x i o hx;have:=i1.2;exact⟨⟨c,sI,ha⟩,oM,h2,h3⟩
end
theorem gW.chain{x a b:Int}(ha:gW up x a)(hb:gW up x b):gW up a b∨gW up b a:=by
 induction ha with
 |refl=>exact .inl hb
 | @step x d cU h ih=>
  cases hb with
  |refl=>exact .inr (.step cU h)
  |step _ hb=>exact ih hb
theorem TreeU.sub(h:TreeU K pl up){b c c' y:Int}(hc:c∈K b)(K4:c'∈K b)(hp:∀x d,gW up x d→0≤pl x→pl d≤pl x)(hb:0≤pl b)(h1:gW up y c)(h2:gW up y c'):c=c':=by
 have key:∀c c',c∈K b→c'∈K b→gW up c c'→c=c':=by
  intro c c' hc K4 ha;cases ha with
  |refl=>rfl
  |step cU ha=>
   rw[(h.IU b c hc).1]at ha;have:=hp _ _ ha hb;have:=(h.IU b c' K4).2.2;omega
 rcases gW.chain h1 h2 with h3|h3
 ·exact key c c' hc K4 h3
 ·exact(key c' c K4 hc h3).symm
structure lG(K:Int→ar)(pl up:Int→Int):Prop extends TreeU K pl up where
 le:∀x d,gW up x d→0≤pl x→pl d≤pl x
 pos:∀b,0≤pl b→∀c,c∈K b→0≤pl c
 neg:∀x d,pl x<0→0≤pl d→¬gW up x d
mutual
theorem wj.hold(h:lG K pl up){b:Int}(hb:0≤pl b){n m:Nat}{r:l6}:wj K b n m r→∀x i o y i' o',(x,i,o)∈r→(y,i',o')∈r→((i≤i'∧o'≤o)↔gW up y x)
 | .mk (m:=m) (r:=r) hl=>by
  intro x i o y i' o' hx hy;have f:=gp.facts h.toTreeU hl;rcases QiU.1 hx with x1|x1<;>rcases QiU.1 hy with y1|y1
  ·exact gp.hold h hb (fun c hc=>hc) (h.FM b) hl x i o y i' o' x1 y1
  ·simp only[QcC,eh]at y1;obtain⟨e1,e2,e3⟩:=y1;obtain⟨⟨c,hc,ha⟩,h1,h2,h3⟩:=f.1 x i o x1;constructor
   ·intro hh;omega
   ·intro hh;rw[e1]at hh;have h4:=(h.IU _ _ hc).2.2;have h5:=h.le _ _ hh hb;have h6:=h.pos b hb c hc;have h7:=h.le _ _ (hh.trans ha) hb;omega
  ·simp only[QcC,eh]at x1;obtain⟨e1,e2,e3⟩:=x1;obtain⟨⟨c,hc,ha⟩,h1,h2,h3⟩:=f.1 y i' o' y1;rw[e1];exact⟨fun _=>ha.trans (h.C5 hc),fun _=>⟨oM,oM⟩⟩
  ·simp only[QcC,eh]at x1 y1;obtain⟨e1,e2,e3⟩:=x1;obtain⟨e4,e5,e6⟩:=y1;rw[e1,e4];exact⟨fun _=> .refl _,fun _=>⟨oM,oM⟩⟩
theorem gp.hold(h:lG K pl up){b:Int}(hb:0≤pl b){l:ar}(j5:∀c,c∈l→c∈K b)(C7:l.Nodup){n m:Nat}{r:l6}:gp K l n m r→(∀x i o y i' o',(x,i,o)∈r→(y,i',o')∈r→((i≤i'∧o'≤o)↔gW up y x))
 | .nil=>fun x i o y i' o' hx _=>by simp at hx
 | .snoc (l:=l) (c:=c) hl hv=>by
  have f1:=gp.facts h.toTreeU hl;have f2:=wj.facts h.toTreeU hv;have Hm:=j5 c sI;have IG:=h.pos b hb c Hm;rw[Tg]at C7;have apart:∀y,gW up y c→∀c',c'∈l→¬gW up y c':=by intro y h1 c' K4 h2;have:=h.sub Hm (j5 c' (Qi6 _ K4)) h.le hb h1 h2;exact C7.2.2 c' K4 c sI this.symm
  intro x i o y i' o' hx hy;rcases QiU.1 hx with x1|x1<;>rcases QiU.1 hy with y1|y1
  ·exact gp.hold h hb (fun c hc=>j5 c (Qi6 _ hc)) C7.1 hl x i o y i' o' x1 y1
  ·obtain⟨⟨c',K4,ha⟩,h1,h2,h3⟩:=f1.1 x i o x1;obtain⟨Co,h4,h5,h6⟩:=f2.1 y i' o' y1;constructor
   ·intro hh;omega
   ·intro hh;exact absurd (hh.trans ha) (apart y Co c' K4)
  ·obtain⟨⟨c',K4,ha⟩,h1,h2,h3⟩:=f1.1 y i' o' y1;obtain⟨Co,h4,h5,h6⟩:=f2.1 x i o x1;constructor
   ·intro hh;omega
   ·intro hh;exact absurd ha (apart y (hh.trans Co) c' K4)
  ·exact wj.hold h IG hv x i o y i' o' x1 y1
end
end
end Go.Mor
namespace Go.Mor
open Go.RowKit
def Q4(bs:List SB)(k:Nat):Nat:=((List.range k).filter (fun i:Nat=>fy bs (-1) (i:Int))).length
theorem u0{l:List Nat}(h:l.Nodup):(l.map (fun i:Nat=>(i:Int))).Nodup:=by
 rw[List.Nodup,gS];exact h.imp (fun h e=>h oM)
theorem Ng(bs:List SB):Q4 bs bs.length=(aF bs).length:=by
 by_cases h0:bs.length=0
 ·unfold Q4 aF;rw[dd h0,h0];rfl
 ·have ho:=mr (bs:=bs) oM;have hn:(((List.range bs.length).filter (fun i:Nat=>fy bs (-1) (i:Int))).map (fun i:Nat=>(i:Int))).Nodup:=u0 (Qhq.sublist QjC);have hp:=(List.perm_ext_iff_of_nodup ho.nodup hn).2 (fun x=>by
   rw[ho.mem x];constructor
   ·intro hx;obtain⟨h1,h2⟩:=mu oM hx;exact jd.2 ⟨x.toNat,Qjr.2 ⟨Qi4.2 oM,by rw[QiT h1];exact jO.2 hx⟩,QiT h1⟩
   ·intro hx;obtain⟨i,hi,rfl⟩:=jd.1 hx;exact jO.1 (Qjr.1 hi).2)
  rw[hp.length_eq,QjN];rfl
theorem xq{n:Nat}{l:ar}{f:Int→Int}(h:bQ n l f){x v:Int}(h0:0≤x)(h1:x<n)(e:f x=v):(ints l)[x.toNat]?=some (vI v):=by rw[←e];exact h.at_ h0 h1
end Go.Mor
namespace Go.Mor
open Go.RowKit
inductive IV(K:Int→ar):List (Int×Int)→Int→Nat→List (Int×Nat)→l6→Prop
 |nil:IV K [] 0 0 [] []
 |snoc {ws:List (Int×Int)} {b c:Int} {n0 n1 j:Nat} {op:List (Int×Nat)} {rs r:l6}:IV K ws b n0 op rs→gp K ((K b).take j) (n0+1) n1 r→(K b)[j]?=some c→
   IV K (ws++[(b,(j:Int)+1)]) c n1 (op++[(b,n0+1)]) (rs++r)
def Ev(f:Int→Int)(op:List (Int×Nat))(rs:l6):Prop:=∀x:Int,(∀i:Nat,(x,i)∈op→f x=i)∧(∀i o:Nat,(x,i,o)∈rs→f x=i)∧((∀i:Nat,(x,i)∉op)→(∀i o:Nat,(x,i,o)∉rs)→f x=0)
def Qh0(g:Int→Int)(rs:l6):Prop:=∀x:Int,(∀i o:Nat,(x,i,o)∈rs→g x=o)∧((∀i o:Nat,(x,i,o)∉rs)→g x=0)
def wm(f:Int→Int)(b v:Int):Int→Int:=fun x=>if x=b then v else f x
section
variable {K : Int → List Int} {pl up : Int → Int}
theorem gp.len{l:ar}{n m:Nat}{r:l6}(h:gp K l n m r):m=n+2*r.length:=by
 refine gp.rec (motive_1:=fun _ n m r _=>m=n+2*r.length) (motive_2:=fun _ n m r _=>m=n+2*r.length) ?_ ?_ ?_ h
 ·intro b n m r _ ih;simp only[rV,je,QdW];omega
 ·intro n;simp
 ·intro l c n m p r s _ _ i1 i2;simp only[rV];omega
mutual
theorem wj.FM(h:lG K pl up){b:Int}(hb:0≤pl b){n m:Nat}{r:l6}:wj K b n m r→(r.map (·.1)).Nodup
 | .mk (m:=m) (r:=r) hl=>by have f:=gp.facts h.toTreeU hl;rw[Qjy,Tg];refine⟨gp.FM h hb (fun c hc=>hc) (h.FM b) hl,sI,fun x hx y hy e=> ?_⟩;simp at hy;subst hy;subst e;obtain⟨⟨x,i,o⟩,mx,rfl⟩:=jd.1 hx;obtain⟨⟨c,hc,ha⟩,_⟩:=f.1 x i o mx;have h4:=(h.IU _ _ hc).2.2;have h5:=h.le _ _ ha hb;simp only at h4;omega
theorem gp.FM(h:lG K pl up){b:Int}(hb:0≤pl b){l:ar}(j5:∀c,c∈l→c∈K b)(C7:l.Nodup){n m:Nat}{r:l6}:gp K l n m r→(r.map (·.1)).Nodup
 | .nil=>sI
 | .snoc (l:=l) (c:=c) hl hv=>by have f1:=gp.facts h.toTreeU hl;have f2:=wj.facts h.toTreeU hv;have Hm:=j5 c sI;rw[Tg]at C7;rw[Qjy,Tg];refine⟨gp.FM h hb (fun c hc=>j5 c (Qi6 _ hc)) C7.1 hl,wj.FM h (h.pos b hb c Hm) hv,fun x hx y hy e=> ?_⟩;obtain⟨⟨x,i,o⟩,mx,rfl⟩:=jd.1 hx;obtain⟨⟨y,i',o'⟩,my,rfl⟩:=jd.1 hy;simp only at e;subst e;obtain⟨⟨c',K4,ha⟩,_⟩:=f1.1 x i o mx;obtain⟨Co,_⟩:=f2.1 x i' o' my;have:=h.sub Hm (j5 c' (Qi6 _ K4)) h.le hb Co ha;exact C7.2.2 c' K4 c sI this.symm
end
theorem IV.facts(h:lG K pl up)(h0:0≤pl 0){ws:List (Int×Int)}{b:Int}{n0:Nat}{op:List (Int×Nat)}{rs:l6}(hl:IV K ws b n0 op rs):0≤pl b∧(∀x i,(x,i)∈op→gW up b x∧pl x<pl b∧0≤pl x∧1≤i)∧(∀x i o,(x,i,o)∈rs→¬gW up x b∧0≤pl x)∧(op.map (·.1)++rs.map (·.1)).Nodup∧n0=op.length+2*rs.length:=by
 induction hl with
 |nil=>exact⟨h0,sI,sI,sI,sI⟩
 | @snoc ws b c n0 n1 j op rs r hl hv hc ih=>
  obtain⟨hb,h1,h2,h3,h4⟩:=ih;have Hm:c∈K b:=Qcs hc;have IG:=h.pos b hb c Hm;have hk:=h.IU b c Hm;have j5:∀x,x∈(K b).take j→x∈K b:=fun x hx=>Qje hx
  have fr:=gp.facts h.toTreeU hv;have Zz:∀x,x∈(K b).take j→x≠c:=by
   rintro x hx rfl;obtain⟨i,hi,he⟩:=Qdt.1 hx;have ln:(K b)[i]?=some x:=by rw[List.getElem?_eq_getElem oM,he]
   have hd:=h.FM b;obtain⟨hj,Q1⟩:=List.getElem?_eq_some_iff.1 hc;have:=(QjE.1 hd);rw[QiW]at this;exact this i j oM hj oM (by rw[he,Q1])
  have hr:∀x i o,(x,i,o)∈r→¬gW up x c∧gW up x b∧0≤pl x∧x≠b:=by
   intro x i o hx;obtain⟨⟨c',K4,ha⟩,_⟩:=fr.1 x i o hx;have ja:=h.IU b c' (j5 c' K4);refine⟨fun nQ=>Zz c' K4 (h.sub (j5 c' K4) Hm h.le hb ha nQ),ha.trans (h.C5 (j5 c' K4)),?_,?_⟩
   ·rcases Int.lt_or_le (pl x) 0 with h7|h7
    ·exfalso;exact absurd ha (h.neg x c' h7 (h.pos b hb c' (j5 c' K4)))
    ·exact h7
   ·rintro rfl;have:=h.le _ _ ha hb;omega
  refine⟨IG,fun x i hx=> ?_,fun x i o hx=> ?_,?_,?_⟩
  ·rcases QiU.1 hx with hx|hx
   ·obtain⟨a1,a2,a3,a4⟩:=h1 x i hx;exact⟨(h.C5 Hm).trans a1,oM,a3,a4⟩
   ·simp only[QcC,eh]at hx;obtain⟨rfl,rfl⟩:=hx;exact⟨h.C5 Hm,hk.2.2,hb,oM⟩
  ·rcases QiU.1 hx with hx|hx
   ·obtain⟨a1,a2⟩:=h2 x i o hx;refine⟨fun ha=> ?_,a2⟩;exact a1 (ha.trans (h.C5 Hm))
   ·exact⟨(hr x i o hx).1,(hr x i o hx).2.2.1⟩
  ·rw[Tg]at h3;rw[Qjy,Qjy,Tg,Tg,Tg];refine⟨⟨h3.1,sI,fun x hx y hy e=> ?_⟩,⟨h3.2.1,gp.FM h hb j5 ((h.FM b).sublist (D3 _ _)) hv,fun x hx y hy e=> ?_⟩,fun x hx y hy e=> ?_⟩
   ·simp at hy;subst hy;subst e;obtain⟨⟨x,i⟩,mx,rfl⟩:=jd.1 hx;have:=(h1 x i mx).2.1;simp only at this;omega
   ·obtain⟨⟨x,i,o⟩,mx,rfl⟩:=jd.1 hx;obtain⟨⟨y,i',o'⟩,my,rfl⟩:=jd.1 hy;simp only at e;subst e;exact(h2 x i o mx).1 (hr x i' o' my).2.1
   ·rcases QiU.1 hx with hx|hx<;>rcases QiU.1 hy with hy|hy
    ·exact h3.2.2 x hx y hy e
    ·obtain⟨⟨x,i⟩,mx,rfl⟩:=jd.1 hx;obtain⟨⟨y,i',o'⟩,my,rfl⟩:=jd.1 hy;simp only at e;subst e;have a1:=(hr x i' o' my).2.1;have a2:=h.le _ _ a1 (hr x i' o' my).2.2.1;have:=(h1 x i mx).2.1;omega
    ·simp at hx;subst hx;subst e;obtain⟨⟨y,i',o'⟩,my,rfl⟩:=jd.1 hy;exact(h2 y i' o' my).1 (.refl _)
    ·simp at hx;subst hx;subst e;obtain⟨⟨y,i',o'⟩,my,rfl⟩:=jd.1 hy;exact(hr y i' o' my).2.2.2 rfl
  ·have:=gp.len hv;simp only[rV,je,QdW];omega
end
end Go.Mor
namespace Go.Mor
open Go.RowKit
def IW(K:Int→ar)(ws:List (Int×Int))(b:Int)(n:Nat)(f g:Int→Int):Prop:=∃op rs,IV K ws b n op rs∧Ev f op rs∧Qh0 g rs
def Ew(K:Int→ar)(ws:List (Int×Int))(b:Int)(k n:Nat)(f g:Int→Int):Prop:=∃op rs n0 r,IV K ws b n0 op rs∧gp K ((K b).take k) (n0+1) n r∧k≤(K b).length∧Ev f (op++[(b,n0+1)]) (rs++r)∧Qh0 g (rs++r)
def PC(K:Int→ar)(n:Nat)(f g:Int→Int):Prop:=∃rs,wj K 0 0 n rs∧Ev f [] rs∧Qh0 g rs
def Qh1(K:Int→ar)(o9:List (Int×Int))(n:Nat)(f g:Int→Int):Prop:=(o9=[]∧PC K n f g)∨∃(ws:List (Int×Int)) (b:Int) (k:Nat),o9=ws++[(b,(k:Int))]∧((k=0∧IW K ws b n f g)∨(1≤k∧Ew K ws b k n f g))
section
variable {K : Int → List Int} {pl up : Int → Int} {ws : List (Int × Int)} {b : Int} {n k : Nat} {f g : Int → Int}
theorem IW.start(h:lG K pl up)(h0:0≤pl 0)(hu:IW K ws b n f g):Ew K ws b 0 (n+1) (wm f b ((n:Int)+1)) g:=by
 obtain⟨op,rs,hl,hf,hg⟩:=hu;obtain⟨f1,f2,f3,f4,f5⟩:=hl.facts h h0;refine⟨op,rs,n,[],hl,by rw[Qjf];exact .nil,Qdv _,?_,by rw[QiY];exact hg⟩;rw[QiY];intro x;unfold wm;by_cases e:x=b
 ·subst e;rw[dd rfl];refine⟨fun i hi=> ?_,fun i o hi=> ?_,fun hi _=> ?_⟩
  ·rcases QiU.1 hi with hi|hi
   ·have:=(f2 x i hi).2.1;omega
   ·simp only[QcC,eh]at hi;obtain⟨_,rfl⟩:=hi;simp
  ·exact absurd (.refl _) (f3 x i o hi).1
  ·exact absurd (sI:(x,n+1)∈op++[(x,n+1)]) (hi (n+1))
 ·rw[QcA e];refine⟨fun i hi=> ?_,(hf x).2.1,fun hi hj=>(hf x).2.2 (fun i hm=>hi i (Qi6 _ hm)) hj⟩;rcases QiU.1 hi with hi|hi
  ·exact(hf x).1 i hi
  ·simp only[QcC,eh]at hi;exact absurd hi.1 e
theorem Ew.pos(h:lG K pl up)(h0:0≤pl 0)(hs:Ew K ws b k n f g):0≤pl b:=by
 obtain⟨op,rs,n0,r,hl,_⟩:=hs;exact(hl.facts h h0).1
theorem IW.pos(h:lG K pl up)(h0:0≤pl 0)(hs:IW K ws b n f g):0≤pl b:=by
 obtain⟨op,rs,hl,_⟩:=hs;exact(hl.facts h h0).1
theorem Ew.push(hs:Ew K ws b k n f g){c:Int}(hc:(K b)[k]?=some c):IW K (ws++[(b,(k:Int)+1)]) c n f g:=by
 obtain⟨op,rs,n0,r,hl,hv,hk,hf,hg⟩:=hs;exact⟨_,_,.snoc hl hv hc,hf,hg⟩
theorem Ew.finish(h:lG K pl up)(h0:0≤pl 0)(hs:Ew K ws b (K b).length n f g):Qh1 K ws (n+1) f (wm g b ((n:Int)+1)):=by
 obtain⟨op,rs,n0,r,hl,hv,hk,hf,hg⟩:=hs;obtain⟨f1,f2,f3,f4,f5⟩:=hl.facts h h0;rw[Qcg]at hv;have fr:=gp.facts h.toTreeU hv;have Uz:wj K b n0 (n+1) (r++[(b,n0+1,n+1)]):= .mk hv;have ZA:∀i o:Nat,(b,i,o)∉rs++r:=by
  intro i o hm;rcases QiU.1 hm with hm|hm
  ·exact(f3 b i o hm).1 (.refl _)
  ·obtain⟨⟨c,hc,ha⟩,_⟩:=fr.1 b i o hm;have:=h.le _ _ ha f1;have:=(h.IU b c hc).2.2;omega
 have ZB:Ev f op (rs++(r++[(b,n0+1,n+1)])):=by
  intro x;refine⟨fun i hi=>(hf x).1 i (Qi6 _ hi),fun i o hi=> ?_,fun hi hj=>(hf x).2.2 (fun i hm=> ?_) (fun i o hm=>hj i o ?_)⟩
  ·rw[←xD]at hi;rcases QiU.1 hi with hi|hi
   ·exact(hf x).2.1 i o hi
   ·simp only[QcC,eh]at hi;obtain⟨rfl,rfl,rfl⟩:=hi;exact(hf x).1 (n0+1) sI
  ·rcases QiU.1 hm with hm|hm
   ·exact hi i hm
   ·simp only[QcC,eh]at hm;obtain⟨rfl,rfl⟩:=hm;exact hj (n0+1) (n+1) sI
  ·rw[←xD];exact Qi6 _ hm
 have mG:Qh0 (wm g b ((n:Int)+1)) (rs++(r++[(b,n0+1,n+1)])):=by
  intro x;unfold wm;rw[←xD];by_cases e:x=b
  ·subst e;rw[dd rfl];refine⟨fun i o hi=> ?_,fun hi=>absurd (sI:(x,n0+1,n+1)∈rs++r++[(x,n0+1,n+1)]) (hi _ _)⟩;rcases QiU.1 hi with hi|hi
   ·exact absurd hi (ZA i o)
   ·simp only[QcC,eh]at hi;obtain⟨_,_,rfl⟩:=hi;simp
  ·rw[QcA e];refine⟨fun i o hi=> ?_,fun hi=>(hg x).2 (fun i o hm=>hi i o (Qi6 _ hm))⟩;rcases QiU.1 hi with hi|hi
   ·exact(hg x).1 i o hi
   ·simp only[QcC,eh]at hi;exact absurd hi.1 e
 cases hl with
 |nil=>
  exact .inl ⟨rfl,_,by simpa using Uz,by simpa using ZB,by simpa using mG⟩
 | @snoc ws' b' _ m0 _ j op' rs' r' LG Yb K4=>
  refine .inr ⟨ws',b',j+1,sI,.inr ⟨oM,op',rs',m0,r'++(r++[(b,n0+1,n+1)]),LG,?_,?_,?_,?_⟩⟩
  ·obtain⟨hj,Q1⟩:=List.getElem?_eq_some_iff.1 K4;rw[QjK hj,Q1];exact .snoc Yb Uz
  ·exact(List.getElem?_eq_some_iff.1 K4).1
  ·rw[xD]at ZB;exact ZB
  ·rw[xD]at mG;exact mG
theorem AQ{l:ar}{N:Nat}(hn:l.Nodup)(hr:∀x,x∈l→0≤x∧x<(N:Int)):l.length≤N:=by
 have hp:=(List.perm_ext_iff_of_nodup hn (l₂:=((List.range N).filter (fun i:Nat=>decide ((i:Int)∈l))).map (fun i:Nat=>(i:Int))) (u0 (Qhq.sublist QjC))).2 (fun x=>by
  constructor
  ·intro hx;obtain⟨h1,h2⟩:=hr x hx;have e:(x.toNat:Int)=x:=QiT h1;exact jd.2 ⟨x.toNat,Qjr.2 ⟨Qi4.2 oM,by rw[e];simpa using hx⟩,e⟩
  ·intro hx;obtain⟨i,hi,rfl⟩:=jd.1 hx;simpa using(Qjr.1 hi).2)
 rw[hp.length_eq,QjN];exact pX (Qjt _ _) sI
theorem IV.bound(h:lG K pl up)(h0:0≤pl 0){N:Nat}(hN:∀x,0≤pl x→0≤x∧x<(N:Int)){op:List (Int×Nat)}{rs:l6}(hl:IV K ws b n op rs):n+2≤2*N:=by
 obtain⟨f1,f2,f3,f4,f5⟩:=hl.facts h h0;have C7:(b::(op.map (·.1)++rs.map (·.1))).Nodup:=by
  rw[QiR];refine⟨fun hm=> ?_,f4⟩;rcases QiU.1 hm with hm|hm
  ·obtain⟨⟨x,i⟩,mx,rfl⟩:=jd.1 hm;have:=(f2 x i mx).2.1;simp only at this;omega
  ·obtain⟨⟨x,i,o⟩,mx,rfl⟩:=jd.1 hm;exact(f3 x i o mx).1 (.refl _)
 have:=AQ (N:=N) C7 (fun x hx=>by
  rcases Qcx.1 hx with rfl|hx
  ·exact hN _ f1
  ·rcases QiU.1 hx with hm|hm
   ·obtain⟨⟨x,i⟩,mx,rfl⟩:=jd.1 hm;exact hN _ (f2 x i mx).2.2.1
   ·obtain⟨⟨x,i,o⟩,mx,rfl⟩:=jd.1 hm;exact hN _ (f3 x i o mx).2)
 simp only[je,rV,QjN]at this;omega
theorem IW.bound(h:lG K pl up)(h0:0≤pl 0){N:Nat}(hN:∀x,0≤pl x→0≤x∧x<(N:Int))(hu:IW K ws b n f g):n+2≤2*N:=by
 obtain⟨op,rs,hl,_⟩:=hu;exact hl.bound h h0 hN
theorem Ew.bound(h:lG K pl up)(h0:0≤pl 0){N:Nat}(hN:∀x,0≤pl x→0≤x∧x<(N:Int))(hs:Ew K ws b k n f g):n+1≤2*N:=by
 obtain⟨op,rs,n0,r,hl,hv,hk,_,_⟩:=hs;obtain⟨f1,f2,f3,f4,f5⟩:=hl.facts h h0;have fr:=gp.facts h.toTreeU hv;have j5:∀x,x∈(K b).take k→x∈K b:=fun x hx=>Qje hx
 have Ex:∀x i o,(x,i,o)∈r→gW up x b∧0≤pl x∧x≠b:=by
  intro x i o hx;obtain⟨⟨c',K4,ha⟩,_⟩:=fr.1 x i o hx;have ja:=h.IU b c' (j5 c' K4);refine⟨ha.trans (h.C5 (j5 c' K4)),?_,?_⟩
  ·rcases Int.lt_or_le (pl x) 0 with h7|h7
   ·exact absurd ha (h.neg x c' h7 (h.pos b f1 c' (j5 c' K4)))
   ·exact h7
  ·rintro rfl;have:=h.le _ _ ha f1;omega
 have C7:(b::((op.map (·.1)++rs.map (·.1))++r.map (·.1))).Nodup:=by
  rw[QiR,Tg];refine⟨fun hm=> ?_,f4,gp.FM h f1 j5 ((h.FM b).sublist (D3 _ _)) hv,fun x hx y hy e=> ?_⟩
  ·rcases QiU.1 hm with hm|hm
   ·rcases QiU.1 hm with hm|hm
    ·obtain⟨⟨x,i⟩,mx,rfl⟩:=jd.1 hm;have:=(f2 x i mx).2.1;simp only at this;omega
    ·obtain⟨⟨x,i,o⟩,mx,rfl⟩:=jd.1 hm;exact(f3 x i o mx).1 (.refl _)
   ·obtain⟨⟨x,i,o⟩,mx,rfl⟩:=jd.1 hm;exact(Ex x i o mx).2.2 rfl
  ·obtain⟨⟨y,i',o'⟩,my,rfl⟩:=jd.1 hy;rcases QiU.1 hx with hx|hx
   ·obtain⟨⟨x,i⟩,mx,rfl⟩:=jd.1 hx;simp only at e;subst e;have:=(f2 x i mx).2.1;have:=h.le _ _ (Ex x i' o' my).1 (Ex x i' o' my).2.1;omega
   ·obtain⟨⟨x,i,o⟩,mx,rfl⟩:=jd.1 hx;simp only at e;subst e;exact(f3 x i o mx).1 (Ex x i' o' my).1
 have:=AQ (N:=N) C7 (fun x hx=>by
  rcases Qcx.1 hx with rfl|hx
  ·exact hN _ f1
  ·rcases QiU.1 hx with hx|hx
   ·rcases QiU.1 hx with hm|hm
    ·obtain⟨⟨x,i⟩,mx,rfl⟩:=jd.1 hm;exact hN _ (f2 x i mx).2.2.1
    ·obtain⟨⟨x,i,o⟩,mx,rfl⟩:=jd.1 hm;exact hN _ (f3 x i o mx).2
   ·obtain⟨⟨x,i,o⟩,mx,rfl⟩:=jd.1 hx;exact hN _ (Ex x i o mx).2.1)
 have hlen:=gp.len hv;simp only[je,rV,QjN]at this;omega
end
section
variable {K : Int → List Int} {pl up : Int → Int}
mutual
theorem wj.kids{b:Int}{n m:Nat}{r:l6}:wj K b n m r→(∃i o,(b,i,o)∈r)∧∀x i o,(x,i,o)∈r→∀c,c∈K x→∃i' o',(c,i',o')∈r
 | .mk (m:=m) (r:=r) hl=>by
  have ih:=gp.kids hl;refine⟨⟨n+1,m+1,sI⟩,fun x i o hx c hc=> ?_⟩;rcases QiU.1 hx with hx|hx
  ·obtain⟨i',o',h'⟩:=ih.2 x i o hx c hc;exact⟨i',o',Qi6 _ h'⟩
  ·simp only[QcC,eh]at hx;obtain⟨rfl,_,_⟩:=hx;obtain⟨i',o',h'⟩:=ih.1 c hc;exact⟨i',o',Qi6 _ h'⟩
theorem gp.kids{l:ar}{n m:Nat}{r:l6}:gp K l n m r→(∀c,c∈l→∃i o,(c,i,o)∈r)∧∀x i o,(x,i,o)∈r→∀c,c∈K x→∃i' o',(c,i',o')∈r
 | .nil=>⟨fun c hc=>by simp at hc,fun x i o hx=>by simp at hx⟩
 | .snoc (l:=l) (c:=c0) hl hv=>by
  have i1:=gp.kids hl;have i2:=wj.kids hv;refine⟨fun c hc=> ?_,fun x i o hx c hc=> ?_⟩
  ·rcases QiU.1 hc with hc|hc
   ·obtain⟨i',o',h'⟩:=i1.1 c hc;exact⟨i',o',Qi6 _ h'⟩
   ·simp only[QcC]at hc;subst hc;obtain⟨i',o',h'⟩:=i2.1;exact⟨i',o',Qjl _ h'⟩
  ·rcases QiU.1 hx with hx|hx
   ·obtain⟨i',o',h'⟩:=i1.2 x i o hx c hc;exact⟨i',o',Qi6 _ h'⟩
   ·obtain⟨i',o',h'⟩:=i2.2 x i o hx c hc;exact⟨i',o',Qjl _ h'⟩
end
theorem PC.Q5{n:Nat}{f g:Int→Int}(h:lG K pl up)(h0:0≤pl 0)(cA:∀x,0≤pl x→x≠0→x∈K (up x)∧0≤pl (up x)∧pl (up x)<pl x)(hf:PC K n f g){x y:Int}(hx:0≤pl x)(hy:0≤pl y):(0<f x∧0<f y∧f x≤f y∧g y≤g x)↔gW up y x:=by
 obtain⟨rs,hv,o8,kb⟩:=hf;have hk:=wj.kids hv;have key:∀(m:Nat) (x:Int),0≤pl x→(pl x).toNat≤m→∃i o,(x,i,o)∈rs:=by
  intro m;induction m with
  |zero=>
   intro x hx hm;by_cases e:x=0
   ·subst e;exact hk.1
   ·have:=cA x hx e;omega
  |succ m ih=>
   intro x hx hm;by_cases e:x=0
   ·subst e;exact hk.1
   ·obtain⟨h1,h2,h3⟩:=cA x hx e;obtain⟨i,o,HK⟩:=ih (up x) h2 oM;exact hk.2 _ i o HK x h1
 obtain⟨i,o,mx⟩:=key _ x hx (Qjn _);obtain⟨i',o',my⟩:=key _ y hy (Qjn _);have fr:=wj.facts h.toTreeU hv;obtain⟨_,p1,p2,_⟩:=fr.1 x i o mx;obtain⟨_,p3,p4,_⟩:=fr.1 y i' o' my;rw[(o8 x).2.1 i o mx,(o8 y).2.1 i' o' my,(kb x).1 i o mx,(kb y).1 i' o' my,←wj.hold h h0 hv x i o y i' o' mx my];omega
end
end Go.Mor
namespace Go.Mor
open Go.RowKit
def ef(bs:List SB)(up:Int→Int)(k:Nat)(d:Int):ar:=((aF bs).take k).filter (fun x=>up x==d)
def jP(bs:List SB)(up:Int→Int)(k:Nat):List ar:=(List.range bs.length).map (fun d:Nat=>ef bs up k (d:Int))
def eN(bs:List SB)(up:Int→Int)(b:Int):ar:=if 0≤b then(aF bs).filter (fun x=>up x==b)else[]
section
variable {bs : List SB} {up : Int → Int}
theorem FO(k:Nat)(d:Int):(ef bs up k d).length≤bs.length:=by
 have:=iP bs;have h2:=Qjt (fun x=>up x==d) ((aF bs).take k);have:((aF bs).take k).length≤(aF bs).length:=by simp;omega
 unfold ef;omega
theorem AR:jP bs up 0=List.replicate bs.length []:=by
 unfold jP ef;apply QdX;intro t;by_cases h:t<bs.length
 ·simp[h]
 ·rw[List.getElem?_eq_none (by simpa using h),List.getElem?_eq_none (by simpa using h)]
theorem qo(k:Nat):(jP bs up k).length=bs.length:=by simp[jP]
theorem k8{k d:Nat}(hd:d<bs.length):(jP bs up k)[d]?=some (ef bs up k (d:Int)):=by simp[jP,hd]
theorem AU{k d:Nat}{b:Int}(hk:(aF bs)[k]?=some b)(hu:up b=(d:Int))(hd:d<bs.length):(jP bs up k).set d (ef bs up k (d:Int)++[b])=jP bs up (k+1):=by
 apply QdX;intro t;by_cases e:d=t
 ·subst e;rw[List.getElem?_set_self (by rw[qo];exact hd),k8 hd];congr 1;unfold ef;rw[iu hk,xH];simp[hu]
 ·rw[List.getElem?_set_ne e];by_cases h:t<bs.length
  ·rw[k8 h,k8 h];congr 1;unfold ef;rw[iu hk,xH];have:¬up b=(t:Int):=by rw[hu];omega
   simp[this]
  ·rw[List.getElem?_eq_none (by rw[qo];omega),List.getElem?_eq_none (by rw[qo];omega)]
theorem AV{k:Nat}{b:Int}(hk:(aF bs)[k]?=some b)(hu:up b<0):jP bs up k=jP bs up (k+1):=by
 unfold jP;apply Qch;intro t _;unfold ef;rw[iu hk,xH];have:¬up b=(t:Int):=oM;simp[this]
theorem FP{k b:Nat}(hk:(aF bs).length≤k)(hb:b<bs.length):(jP bs up k)[b]?=some (eN bs up (b:Int)):=by
 rw[k8 hb];unfold ef eN;rw[uK hk,dd oM]
theorem rz{b c:Int}:c∈eN bs up b↔0≤b∧c∈aF bs∧up c=b:=by
 unfold eN;split
 ·rename_i h;simp[h]
 ·rename_i h;simp[h]
theorem FQ(b:Int):(eN bs up b).length≤bs.length:=by
 unfold eN;have:=iP bs;split
 ·have h2:=Qjt (fun x=>up x==b) (aF bs);omega
 ·simp
theorem Qh2(h0:0<bs.length){c:Int}:c∈aF bs↔0≤iq bs c:=by
 rw[(Be h0).reach,(mr h0).mem]
theorem QcE.tree(h0:0<bs.length)(hf:QcE bs up):lG (eN bs up) (iq bs) up where
 IU b c hc:=by
  obtain⟨h1,h2,h3⟩:=rz.1 hc;have hp:=(Qh2 h0).1 h2;have cU:c≠0:=by rintro rfl;have:=hf.off 0 (.inr rfl);omega
  have:=(hf.ok.low c (hf.C4 c hp) cU).2;rw[h3]at this;exact⟨h3,cU,this⟩
 FM b:=by
  unfold eN;split
  ·exact(mr h0).nodup.sublist QjC
  ·exact List.nodup_nil
 le x d h hx:=(gW.C4 hf.ok h (hf.C4 x hx)).2.1;pos b hb c hc:=(Qh2 h0).1 (rz.1 hc).2.1;neg x d hx hd h:=by
  induction h with
  |refl=>omega
  | @step x d cU h ih=>
   refine ih ?_ hd;rw[hf.off x (.inl hx)];rcases Int.lt_or_le (iq bs (-1)) 0 with h1|h1
   ·exact h1
   ·have:=jX h0 h1;omega
theorem QcE.cA(h0:0<bs.length)(hf:QcE bs up):∀x,0≤iq bs x→x≠0→x∈eN bs up (up x)∧0≤iq bs (up x)∧iq bs (up x)<iq bs x:=by
 intro x hx cU;obtain⟨h1,h2⟩:=hf.ok.low x (hf.C4 x hx) cU;have:=jX h0 h1.1;exact⟨rz.2 ⟨this.1,(Qh2 h0).2 hx,rfl⟩,h1.1,h2⟩
theorem Q6(h0:0<bs.length)(hf:QcE bs up){b:Int}(hb:0≤iq bs b)(hu:0≤up b):∃d:Nat,up b=(d:Int)∧d<bs.length:=by
 have cU:b≠0:=by rintro rfl;have:=hf.off 0 (.inr rfl);omega
 have h:=jX h0 (hf.cA h0 b hb cU).2.1;exact⟨(up b).toNat,(QiT h.1).symm,oM⟩
theorem Nh(h0:0<bs.length){b:Int}{k:Nat}(hk:k<(eN bs up b).length):∃ci:Nat,(eN bs up b)[k]?=some (ci:Int)∧ci<bs.length:=by
 have hm:(eN bs up b)[k]∈eN bs up b:=Qi7 hk;have hp:=(Qh2 h0).1 (rz.1 hm).2.1;have:=jX h0 hp;exact⟨((eN bs up b)[k]).toNat,by rw[List.getElem?_eq_getElem hk,QiT this.1],oM⟩
end
theorem rB(ws:List (Int×Int))(b k:Int):gR ws++[vI b,vI k]=gR (ws++[(b,k)]):=by simp[gR]
theorem lH(ws:List (Int×Int))(b k:Int):(gR (ws++[(b,k)]))[ws.length*2]?=some (vI b)∧(gR (ws++[(b,k)]))[ws.length*2+1]?=some (vI k):=Ik (p:=(b,k)) sI
theorem Ni(ws:List (Int×Int))(b k:Int):(gR (ws++[(b,k)])).take (ws.length*2)=gR ws:=by
 rw[←rB,List.take_left' (by rw[yM])]
theorem Nj(ws:List (Int×Int))(b k v:Int):(gR (ws++[(b,k)])).set (ws.length*2+1) (vI v)=gR (ws++[(b,v)]):=by
 rw[←rB,←rB,Qjc _ _ (by rw[yM];omega),yM,show ws.length*2+1-ws.length*2=1 by omega];rfl
theorem bQ.ga{n:Nat}{l:ar}{f:Int→Int}(h:bQ n l f){b v:Int}(h0:0≤b)(h1:b<(n:Int)):bQ n (l.set b.toNat v) (wm f b v):=by
 refine h.set oM (by simp[wm,QiT h0]) (fun j _ cU=> ?_);unfold wm;rw[QcA oM]
theorem xr(n:Nat):bQ n (List.replicate n 0) (fun _=>0):=⟨sI,fun i hi=>by simp[List.getD,hi]⟩
section
variable {K : Int → List Int} {ws : List (Int × Int)} {b : Int} {n k : Nat} {f g : Int → Int}
theorem gp.le{l:ar}{n m:Nat}{r:l6}(h:gp K l n m r):n≤m:=by have:=gp.len h;omega
theorem IV.FR{op:List (Int×Nat)}{rs:l6}(h:IV K ws b n op rs):ws.length≤n:=by
 induction h with
 |nil=>simp
 |snoc _ hv _ ih=>have:=hv.le;simp only[rV,je,QdW];omega
theorem IW.FR(h:IW K ws b n f g):ws.length≤n:=by
 obtain⟨op,rs,hl,_⟩:=h;exact hl.FR
theorem Ew.FR(h:Ew K ws b k n f g):ws.length+1≤n:=by
 obtain⟨op,rs,n0,r,hl,hv,_⟩:=h;have:=hl.FR;have:=hv.le;omega
theorem Qh1.start:Qh1 K [(0,0)] 0 (fun _=>0) (fun _=>0):= .inr ⟨[],0,0,sI,.inl ⟨rfl,[],[],.nil,fun x=>⟨sI,sI,fun _ _=>rfl⟩,fun x=>⟨sI,fun _=>rfl⟩⟩⟩
theorem Qh1.none(h:Qh1 K [] n f g):PC K n f g:=by
 rcases h with⟨_,h⟩|⟨ws,b,k,e,_⟩
 ·exact h
 ·simp at e
theorem Qh1.some{o9:List (Int×Int)}(h:Qh1 K o9 n f g)(hw:0<o9.length):∃(ws:List (Int×Int)) (b:Int) (k:Nat),o9=ws++[(b,(k:Int))]∧((k=0∧IW K ws b n f g)∨(1≤k∧Ew K ws b k n f g)):=by
 rcases h with⟨rfl,_⟩|h
 ·simp at hw
 ·exact h
def u1(o9:List (Int×Int)):Nat:=match o9.getLast? with
 |some (_,k)=>if k=0 then 0 else 1
 |none=>0
theorem IX(o9:List (Int×Int)):u1 o9≤1:=by
 unfold u1;split
 ·split<;>omega
 ·omega
theorem qp(ws:List (Int×Int))(b k:Int):u1 (ws++[(b,k)])=if k=0 then 0 else 1:=by simp[u1]
end
end Go.Mor
namespace Go.Mor
open Go.RowKit
def dH(f g:Int→Int)(a b:Int):Prop:=0<f a∧0<f b∧f a≤f b∧g b≤g a
instance (f g : Int → Int) (a b : Int) : Decidable (dH f g a b) := by unfold dH; infer_instance
def bX(D:Int→Int→Prop)(pa va:Int)(ds:rn)(v b q:Int):Prop:=0≤v∧v<va∧(v<pa∨∃p,findD ds v=some p∧((p.1=b∧p.2<q)∨(p.1≠b∧D p.1 b)))
noncomputable instance (D : Int → Int → Prop) (pa va : Int) (ds : rn) (v b q : Int) : Decidable (bX D pa va ds v b q) := Classical.propDecidable _
section
variable {D : Int → Int → Prop} {pa va : Int} {n : Nat} {ds : rn} {l : List (Int × Int)} {v b q : Int} {pm : Int × Int}
theorem xt(h:v<0∨va≤v):¬bX D pa va ds v b q:=fun⟨h1,h2,_⟩=>oM
theorem FT(h0:0≤v)(h1:v<va)(h2:v<pa):bX D pa va ds v b q:=⟨h0,h1,.inl h2⟩
theorem NG{base:Nat→Int×Int}{enc:Int×Int→Int×Int}(ht:wZ n base enc ds l)(jL:l[v.toNat]?=some pm)(h0:0≤v)(h1:v<(n:Int)):pm=(match findD ds v with|some p=>enc p|none=>base v.toNat):=by
 have:=ht.at_ v.toNat oM;rw[jL,QiT h0]at this;exact Option.some.inj this
theorem oy(hn:NonNeg ds){p:Int×Int}(h:findD ds v=some p):0≤p.1:=by
 by_cases hm:v∈ds.map (·.1)
 ·obtain⟨p',h1,h2⟩:=tz hm;rw[h]at h1;injection h1 with h1;subst h1;exact hn _ h2
 ·rw[gg hm]at h;cases h
abbrev C9(n:Nat)(ds:rn)(l:List (Int×Int)):Prop:=wZ n (fun _=>(-1,0)) (fun p=>(p.1,p.2+1)) ds l
theorem IY(ht:C9 n ds l)(hn:NonNeg ds)(jL:l[v.toNat]?=some pm)(h0:0≤v)(h1:v<(n:Int))(hv:¬v<pa)(h2:pm.1<0):¬bX D pa va ds v b q:=by
 rintro⟨_,_,h|⟨p,hp,_⟩⟩
 ·exact hv h
 ·have:=NG ht jL h0 h1;rw[hp]at this;have h3:=oy hn hp;rw[this]at h2;simp only at h2;omega
theorem qq(ht:C9 n ds l)(jL:l[v.toNat]?=some pm)(h0:0≤v)(h1:v<(n:Int))(h2:0≤pm.1):findD ds v=some (pm.1,pm.2-1):=by
 have:=NG ht jL h0 h1;cases hf:findD ds v with
 |none=>
  rw[hf]at this;rw[this]at h2;simp only at h2;omega
 |some p=>
  rw[hf]at this;rw[this];simp only[Int.add_sub_cancel]
theorem Da(ht:C9 n ds l)(jL:l[v.toNat]?=some pm)(h0:0≤v)(h1:v<(n:Int))(kx:va=(n:Int))(hv:¬v<pa)(h2:0≤pm.1)(h3:pm.1=b):pm.2≤q↔bX D pa va ds v b q:=by
 have hf:=qq ht jL h0 h1 h2;constructor
 ·intro h;exact⟨h0,oM,.inr ⟨_,hf,.inl ⟨h3,by show pm.2-1<q;omega⟩⟩⟩
 ·rintro⟨_,_,h|⟨p,hp,h⟩⟩
  ·exact absurd h hv
  ·rw[hf]at hp;injection hp with hp;subst hp;rcases h with⟨_,h⟩|⟨h,_⟩
   ·simp only at h;omega
   ·exact absurd h3 h
theorem IZ(ht:C9 n ds l)(jL:l[v.toNat]?=some pm)(h0:0≤v)(h1:v<(n:Int))(kx:va=(n:Int))(hv:¬v<pa)(h2:0≤pm.1)(h3:¬pm.1=b):D pm.1 b↔bX D pa va ds v b q:=by
 have hf:=qq ht jL h0 h1 h2;constructor
 ·intro h;exact⟨h0,oM,.inr ⟨_,hf,.inr ⟨h3,h⟩⟩⟩
 ·rintro⟨_,_,h|⟨p,hp,h⟩⟩
  ·exact absurd h hv
  ·rw[hf]at hp;injection hp with hp;subst hp;rcases h with⟨h,_⟩|⟨_,h⟩
   ·exact absurd h h3
   ·exact h
theorem FU{N:Nat}(ht:C9 n ds l)(hd:∀d,d∈ds→0≤d.2.1∧d.2.1<(N:Int)∧-1≤d.2.2)(jL:l[v.toNat]?=some pm)(h0:0≤v)(h1:v<(n:Int))(h2:0≤pm.1):pm.1<(N:Int):=by
 have hf:=qq ht jL h0 h1 h2;by_cases hm:v∈ds.map (·.1)
 ·obtain⟨p,h3,h4⟩:=tz hm;rw[hf]at h3;injection h3 with h3;subst h3;exact(hd _ h4).2.1
 ·rw[gg hm]at hf;cases hf
theorem Db{N:Nat}(ht:wZ n (Gi pa) (fun p=>p) ds l)(hd:∀d,d∈ds→0≤d.2.1∧d.2.1<(N:Int)∧-1≤d.2.2)(jL:l[v.toNat]?=some pm)(h0:0≤v)(h1:v<(n:Int))(hN:0<N):pm.1<(N:Int):=by
 have h4:=NG ht jL h0 h1;by_cases hm:v∈ds.map (·.1)
 ·obtain⟨p,h5,h6⟩:=tz hm;rw[h5]at h4;rw[h4];exact(hd _ h6).2.1
 ·rw[gg hm]at h4;rw[h4];show(Gi pa v.toNat).1<(N:Int);unfold Gi;split<;>simp only<;>omega
abbrev AW(pa:Int)(n:Nat)(ds:rn)(l:List (Int×Int)):Prop:=wZ n (Gi pa) (fun p=>p) ds l
theorem FV(ht:AW pa n ds l)(hn:NonNeg ds)(jL:l[v.toNat]?=some pm)(h0:0≤v)(h1:v<(n:Int))(h2:pm.1<0):¬bX D pa va ds v b q:=by
 have h3:=NG ht jL h0 h1;rintro⟨_,_,h|⟨p,hp,_⟩⟩
 ·cases hf:findD ds v with
  |none=>
   rw[hf]at h3;have:(v.toNat:Int)<pa:=oM;simp only[Gi,this,Qi5]at h3;rw[h3]at h2;exact absurd h2 dQ
  |some p=>
   rw[hf]at h3;have:=oy hn hf;have e:pm=p:=h3;rw[e]at h2;omega
 ·rw[hp]at h3;have:=oy hn hp;have e:pm=p:=h3;rw[e]at h2;omega
theorem Dc(ht:AW pa n ds l)(hk:∀d,d∈ds→-1≤d.2.2)(jL:l[v.toNat]?=some pm)(h0:0≤v)(h1:v<(n:Int))(kx:va=(n:Int))(h2:0≤pm.1)(h3:pm.2= -2):bX D pa va ds v b q:=by
 have h4:=NG ht jL h0 h1;cases hf:findD ds v with
 |none=>
  rw[hf]at h4;by_cases h:(v.toNat:Int)<pa
  ·exact⟨h0,oM,.inl oM⟩
  ·simp only[Gi,h,sy]at h4;rw[h4]at h2;exact absurd h2 dQ
 |some p=>
  exfalso;rw[hf]at h4;by_cases hm:v∈ds.map (·.1)
  ·obtain⟨p',h5,h6⟩:=tz hm;rw[hf]at h5;injection h5 with h5;subst h5;have:=hk _ h6;simp only at this h4;rw[←h4]at this;omega
  ·rw[gg hm]at hf;cases hf
theorem sT(ht:AW pa n ds l)(jL:l[v.toNat]?=some pm)(h0:0≤v)(h1:v<(n:Int))(h2:0≤pm.1)(h3:¬pm.2= -2):findD ds v=some pm:=by
 have h4:=NG ht jL h0 h1;cases hf:findD ds v with
 |none=>
  rw[hf]at h4;by_cases h:(v.toNat:Int)<pa
  ·simp only[Gi,h,Qi5]at h4;rw[h4]at h3;exact absurd rfl h3
  ·simp only[Gi,h,sy]at h4;rw[h4]at h2;exact absurd h2 dQ
 |some p=>rw[hf]at h4;rw[h4]
theorem AX(ho:∀p,findD ds v=some p→¬v<pa)(ht:AW pa n ds l)(jL:l[v.toNat]?=some pm)(h0:0≤v)(h1:v<(n:Int))(kx:va=(n:Int))(h2:0≤pm.1)(h3:¬pm.2= -2)(h4:pm.1=b):pm.2<q↔bX D pa va ds v b q:=by
 have hf:=sT ht jL h0 h1 h2 h3;have hv:=ho _ hf;constructor
 ·intro h;exact⟨h0,oM,.inr ⟨_,hf,.inl ⟨h4,h⟩⟩⟩
 ·rintro⟨_,_,h|⟨p,hp,h⟩⟩
  ·exact absurd h hv
  ·rw[hf]at hp;injection hp with hp;subst hp;rcases h with⟨_,h⟩|⟨h,_⟩
   ·exact h
   ·exact absurd h4 h
theorem FW(ho:∀p,findD ds v=some p→¬v<pa)(ht:AW pa n ds l)(jL:l[v.toNat]?=some pm)(h0:0≤v)(h1:v<(n:Int))(kx:va=(n:Int))(h2:0≤pm.1)(h3:¬pm.2= -2)(h4:¬pm.1=b):D pm.1 b↔bX D pa va ds v b q:=by
 have hf:=sT ht jL h0 h1 h2 h3;have hv:=ho _ hf;constructor
 ·intro h;exact⟨h0,oM,.inr ⟨_,hf,.inr ⟨h4,h⟩⟩⟩
 ·rintro⟨_,_,h|⟨p,hp,h⟩⟩
  ·exact absurd h hv
  ·rw[hf]at hp;injection hp with hp;subst hp;rcases h with⟨h,_⟩|⟨_,h⟩
   ·exact absurd h h4
   ·exact h
theorem Dd(ht:AW pa n ds l)(hn:NonNeg ds)(kx:va=(n:Int))(h:¬(0≤v∧v<(n:Int)∧0≤(l.getD v.toNat (0,0)).1)):¬bX D pa va ds v b q:=by
 by_cases hv:0≤v∧v<(n:Int)
 ·have hl:=ht.len;exact FV ht hn (oq (0,0) oM) hv.1 hv.2 oM
 ·exact xt oM
theorem AY(ho:∀d,d∈ds→pa≤d.1):∀p,findD ds v=some p→¬v<pa:=by
 intro p hp;by_cases hm:v∈ds.map (·.1)
 ·obtain⟨d,hd,rfl⟩:=jd.1 hm;have:=ho d hd;omega
 ·rw[gg hm]at hp;cases hp
def gz(bs:List SB)(a b:Int):Prop:=Cr (fS bs) a.toNat b.toNat=true
end
structure Qgq(D:Int→Int→Prop)(E:Int→Int)(R:ay→Prop)(pa va:Int)(fs:List ay)(k:Nat)(x:ay):Prop where
 ah:∀(j:Nat) (p:bI),x.ah[j]?=some p→p.args.length=(bS (af fs) (k:Int)).length∧
  ∀(i:Nat) (a s:Int),p.args[i]?=some a→(bS (af fs) (k:Int))[i]?=some s→bX D pa va (bF fs) a s (E s)
 insts:∀(j:Nat) (p:aO),x.insts[j]?=some p→∀(i:Nat) (a:Int),p.args[i]?=some a→bX D pa va (bF fs) a (k:Int) (j:Int)
 fin:R x→bX D pa va (bF fs) x.v (k:Int) (E (k:Int))
def eL(D:Int→Int→Prop)(E:Int→Int)(R:ay→Prop)(pa va:Int)(fs:List ay)(k:Nat):Prop:=∃x,fs[k]?=some x∧Qgq D E R pa va fs k x
noncomputable instance (D : Int → Int → Prop) (E : Int → Int) (R : ay → Prop) (pa va : Int) (fs : List ay) (k : Nat) : Decidable (eL D E R pa va fs k) := Classical.propDecidable _
def tj(fs:List ay)(b:Int):Int:=match fs[b.toNat]? with
 |some x=>(x.insts.length:Int)
 |none=>0
theorem tS{fs:List ay}{k:Nat}{x:ay}(h:fs[k]?=some x):tj fs (k:Int)=(x.insts.length:Int):=by simp[tj,h]
def wo(x:ay):Prop:=x.e=1∨(x.e=2∧0≤x.v)
def pE(x:ay):Prop:=x.e=1∨(x.e=2∧x.v≠-1)
section
variable {D : Int → Int → Prop} {E : Int → Int} {R : ay → Prop} {pa va : Int} {fs : List ay} {k : Nat} {x : ay}
def sU(D:Int→Int→Prop)(E:Int→Int)(pa va:Int)(fs:List ay)(k:Nat)(x:ay)(j:Nat):Prop:=∀(j':Nat) (p:bI),j'<j→x.ah[j']?=some p→p.args.length=(bS (af fs) (k:Int)).length∧∀(i:Nat) (a s:Int),p.args[i]?=some a→(bS (af fs) (k:Int))[i]?=some s→bX D pa va (bF fs) a s (E s)
def xu(D:Int→Int→Prop)(E:Int→Int)(pa va:Int)(fs:List ay)(k:Nat)(p:bI)(i:Nat):Prop:=∀(i':Nat) (a s:Int),i'<i→p.args[i']?=some a→(bS (af fs) (k:Int))[i']?=some s→bX D pa va (bF fs) a s (E s)
def sV(D:Int→Int→Prop)(pa va:Int)(fs:List ay)(k:Nat)(x:ay)(j:Nat):Prop:=∀(j':Nat) (p:aO),j'<j→x.insts[j']?=some p→∀(i:Nat) (a:Int),p.args[i]?=some a→bX D pa va (bF fs) a (k:Int) (j':Int)
def FX(D:Int→Int→Prop)(pa va:Int)(fs:List ay)(k j:Nat)(p:aO)(i:Nat):Prop:=∀(i':Nat) (a:Int),i'<i→p.args[i']?=some a→bX D pa va (bF fs) a (k:Int) (j:Int)
theorem l7{P:Nat→Prop}{n:Nat}(h:∀i,i<n→P i)(hn:P n):∀i,i<n+1→P i:=fun i hi=>by
 by_cases e:i=n
 ·subst e;exact hn
 ·exact h i oM
theorem sU.next{j:Nat}{p:bI}(h:sU D E pa va fs k x j)(hp:x.ah[j]?=some p)(hl:p.args.length=(bS (af fs) (k:Int)).length)(ha:xu D E pa va fs k p p.args.length):sU D E pa va fs k x (j+1):=by
 intro j' p' hj zG;by_cases e:j'=j
 ·subst e;rw[hp]at zG;injection zG with zG;subst zG;exact⟨hl,fun i a s hi=>ha i a s (List.getElem?_eq_some_iff.1 hi).1 hi⟩
 ·exact h j' p' oM zG
theorem xu.next{i:Nat}{p:bI}{a s:Int}(h:xu D E pa va fs k p i)(hi:p.args[i]?=some a)(hs:(bS (af fs) (k:Int))[i]?=some s)(ht:bX D pa va (bF fs) a s (E s)):xu D E pa va fs k p (i+1):=by
 intro i' a' s' fm h1 h2;by_cases e:i'=i
 ·subst e;rw[hi]at h1;rw[hs]at h2;injection h1 with h1;injection h2 with h2;subst h1;subst h2;exact ht
 ·exact h i' a' s' oM h1 h2
theorem sV.next{j:Nat}{p:aO}(h:sV D pa va fs k x j)(hp:x.insts[j]?=some p)(ha:FX D pa va fs k j p p.args.length):sV D pa va fs k x (j+1):=by
 intro j' p' hj zG;by_cases e:j'=j
 ·subst e;rw[hp]at zG;injection zG with zG;subst zG;exact fun i a hi=>ha i a (List.getElem?_eq_some_iff.1 hi).1 hi
 ·exact h j' p' oM zG
theorem FX.next{j i:Nat}{p:aO}{a:Int}(h:FX D pa va fs k j p i)(hi:p.args[i]?=some a)(ht:bX D pa va (bF fs) a (k:Int) (j:Int)):FX D pa va fs k j p (i+1):=by
 intro i' a' fm h1;by_cases e:i'=i
 ·subst e;rw[hi]at h1;injection h1 with h1;subst h1;exact ht
 ·exact h i' a' oM h1
theorem pe(hx:fs[k]?=some x)(h1:sU D E pa va fs k x x.ah.length)(h2:sV D pa va fs k x x.insts.length)(h3:R x→bX D pa va (bF fs) x.v (k:Int) (E (k:Int))):eL D E R pa va fs k:=⟨x,hx,fun j p hp=>h1 j p (List.getElem?_eq_some_iff.1 hp).1 hp,fun j p hp=>h2 j p (List.getElem?_eq_some_iff.1 hp).1 hp,h3⟩
theorem oz(hx:fs[k]?=some x)(h:eL D E R pa va fs k):Qgq D E R pa va fs k x:=by
 obtain⟨y,hy,h⟩:=h;rw[hx]at hy;injection hy with hy;subst hy;exact h
theorem xv(hx:fs[k]?=some x){j:Nat}{p:bI}(hp:x.ah[j]?=some p)(hl:¬p.args.length=(bS (af fs) (k:Int)).length):¬eL D E R pa va fs k:=fun h=>hl ((oz hx h).ah j p hp).1
theorem xx(hx:fs[k]?=some x){j i:Nat}{p:bI}{a s:Int}(hp:x.ah[j]?=some p)(hi:p.args[i]?=some a)(hs:(bS (af fs) (k:Int))[i]?=some s)(ht:¬bX D pa va (bF fs) a s (E s)):¬eL D E R pa va fs k:=fun h=>ht (((oz hx h).ah j p hp).2 i a s hi hs)
theorem AZ(hx:fs[k]?=some x){j i:Nat}{p:aO}{a:Int}(hp:x.insts[j]?=some p)(hi:p.args[i]?=some a)(ht:¬bX D pa va (bF fs) a (k:Int) (j:Int)):¬eL D E R pa va fs k:=fun h=>ht ((oz hx h).insts j p hp i a hi)
end
end Go.Mor
namespace Go.Mor
open Go.RowKit
structure j9(nm:cV)(pa va:Int)(fs:List ay):Prop where
 name:bt nm
 par:0≤pa∧pa≤16∧pa≤va
 pos:0<fs.length
 ah:∀x,fs[0]?=some x→x.ah.length=0
 src:(bS (af fs) 0).length=0
 all:(aF (af fs)).length=fs.length
 ends:∀x,x∈fs→ix (fs.length:Int) x
 QbQ:VQ pa va fs
 reads:∀k,k<fs.length→eL (Dm (tg (af fs))) (fun _=>20000) pE pa va fs k
noncomputable instance (nm : ByteArray) (pa va : Int) (fs : List ay) : Decidable (j9 nm pa va fs) := Classical.propDecidable _
noncomputable def bV(nm:cV)(pa va:Int)(fs:List ay):Int:=if(hY fs:Int)>20000∨va>20000 then 12 else if j9 nm pa va fs then 0 else 4
section
variable {nm : ByteArray} {pa va : Int} {fs : List ay}
theorem XX(h:(hY fs:Int)>20000∨va>20000):(12:Int)=bV nm pa va fs:=by rw[bV,dd h]
theorem fg(h:¬((hY fs:Int)>20000∨va>20000))(hg:¬j9 nm pa va fs):(4:Int)=bV nm pa va fs:=by rw[bV,QcA h,QcA hg]
theorem y6(h:¬((hY fs:Int)>20000∨va>20000))(hg:j9 nm pa va fs):(0:Int)=bV nm pa va fs:=by rw[bV,QcA h,dd hg]
end
section
variable {bs : List SB}
theorem mv:(aF bs).length=bs.length↔∀i:Nat,i<bs.length→fy bs (-1) (i:Int)=true:=by
 rw[←Ng];unfold Q4;have h:=Qcm (p:=fun i:Nat=>fy bs (-1) (i:Int)) (l:=List.range bs.length);rw[Qdc]at h;rw[h];simp only[Qi4]
theorem sn(hl:(aF bs).length=bs.length){b:Int}(h0:0≤b)(h1:b<(bs.length:Int)):0≤iq bs b:=by
 have hp:0<bs.length:=oM;have:=mv.1 hl b.toNat oM;rw[QiT h0]at this;exact((Be hp).reach _).2 (jO.1 this)
theorem I0{up:Int→Int}{n:Nat}{f g:Int→Int}(h0:0<bs.length)(hl:(aF bs).length=bs.length)(hf:QcE bs up)(hn:PC (eN bs up) n f g){a b:Int}(ha:0≤a∧a<(bs.length:Int))(hb:0≤b∧b<(bs.length:Int)):dH f g a b↔Dm (tg bs) a b:=by
 have pa:=sn hl ha.1 ha.2;have pb:=sn hl hb.1 hb.2;have Q7:0≤iq bs 0:=by rw[(Be h0).zero];omega
 rw[dH,PC.Q5 (hf.tree h0) Q7 (hf.cA h0) hn pa pb];exact⟨hf.dm b a,hf.ok.C5 (hf.C4 b pb)⟩
theorem Nk(h0:0<bs.length)(hl:(aF bs).length=bs.length){a b:Int}(ha:0≤a∧a<(bs.length:Int))(hb:0≤b∧b<(bs.length:Int)):gz bs a b↔Dm (tg bs) a b:=by
 have pb:=((Be h0).reach _).1 (sn hl hb.1 hb.2);unfold gz;rw[ry oM oM,QiT ha.1,QiT hb.1];exact⟨fun h=>h.2,fun h=>⟨pb,h⟩⟩
end
theorem De{fs:List ay}{d:Int×Int×Int}(h:d∈bF fs):∃x,fs[d.2.1.toNat]?=some x∧d.2.2<(x.insts.length:Int):=by
 unfold bF db at h;rw[pZ]at h;obtain⟨x,hx,hd⟩:=h;rw[Qcg]at hx;have gb:fs[x.2]?=some x.1:=Qi2.1 hx;unfold eJ at hd;rcases QiU.1 hd with hd|hd
 ·unfold cC at hd;obtain⟨p,_,rfl⟩:=jd.1 hd;refine⟨x.1,by simpa using gb,?_⟩;show(-1:Int)<_;omega
 ·unfold cT at hd;obtain⟨p,hp,rfl⟩:=jd.1 hd;have Zq:x.1.insts[p.2]?=some p.1:=Qi2.1 (Qjr.1 hp).1;have:=(List.getElem?_eq_some_iff.1 Zq).1;refine⟨x.1,by simpa using gb,?_⟩;show(p.2:Int)<_;omega
theorem I1{fs:List ay}{k:Nat}{x:ay}(h:fs[k]?=some x):x.insts.length≤hY fs:=by
 have hk:=(List.getElem?_eq_some_iff.1 h).1;have key:∀n,k<n→n≤fs.length→x.insts.length≤jl fs n:=by
  intro n;induction n with
  |zero=>intro h1;omega
  |succ n ih=>
   intro h1 h2;obtain⟨y,hy⟩:=bu (l:=fs) (i:=n) oM;rw[ly hy];by_cases e:k=n
   ·subst e;rw[h]at hy;injection hy with hy;subst hy;omega
   ·have:=ih oM oM;omega
 have:=key fs.length hk (Qjn _);unfold hY;omega
section
variable {D D' : Int → Int → Prop} {E E' : Int → Int} {R R' : ay → Prop} {pa va : Int} {fs : List ay}
structure oA(D D':Int→Int→Prop)(E E':Int→Int)(fs:List ay):Prop where
 IC:∀a b:Int,0≤a∧a<(fs.length:Int)→0≤b∧b<(fs.length:Int)→(D a b↔D' a b)
 fin:∀d,d∈bF fs→(d.2.2<E d.2.1↔d.2.2<E' d.2.1)
theorem oA.symm(h:oA D D' E E' fs):oA D' D E' E fs:=⟨fun a b ha hb=>(h.IC a b ha hb).symm,fun d hd=>(h.fin d hd).symm⟩
theorem oA.there(h:oA D D' E E' fs){v b q q':Int}(hb:0≤b∧b<(fs.length:Int))(hq:(q=E b∧q'=E' b)∨q=q')(ht:bX D pa va (bF fs) v b q):bX D' pa va (bF fs) v b q':=by
 obtain⟨h1,h2,h3|⟨p,hp,h3⟩⟩:=ht
 ·exact⟨h1,h2,.inl h3⟩
 ·refine⟨h1,h2,.inr ⟨p,hp,?_⟩⟩;have hm:(v,p)∈bF fs:=by
   by_cases hm:v∈(bF fs).map (·.1)
   ·obtain⟨p',h4,h5⟩:=tz hm;rw[hp]at h4;injection h4 with h4;subst h4;exact h5
   ·rw[gg hm]at hp;cases hp
  have hr:=rp hm;rcases h3 with⟨h3,h4⟩|⟨h3,h4⟩
  ·refine .inl ⟨h3,?_⟩;rcases hq with⟨rfl,rfl⟩|rfl
   ·have:=h.fin _ hm;simp only[h3]at this;exact this.1 h4
   ·exact h4
  ·exact .inr ⟨h3,(h.IC _ _ ⟨hr.1,hr.2.1⟩ hb).1 h4⟩
theorem oA.reads(h:oA D D' E E' fs){k:Nat}{x:ay}(hk:k<fs.length)(hR:R' x→R x)(hr:Qgq D E R pa va fs k x):Qgq D' E' R' pa va fs k x where
 ah j p hp:=by obtain⟨h1,h2⟩:=hr.ah j p hp;refine⟨h1,fun i a s ha hs=>h.there ?_ (.inl ⟨rfl,rfl⟩) (h2 i a s ha hs)⟩;have hi:=(List.getElem?_eq_some_iff.1 hs).1;obtain⟨si,h3,h4⟩:=tQ hi;rw[hs]at h3;injection h3 with h3;subst h3;rw[bE]at h4;omega
 insts j p hp i a ha:=h.there oM (.inr rfl) (hr.insts j p hp i a ha);fin hx:=h.there oM (.inl ⟨rfl,rfl⟩) (hr.fin (hR hx))
theorem oA.eL(h:oA D D' E E' fs){k:Nat}(hR:∀x,fs[k]?=some x→R' x→R x)(hr:eL D E R pa va fs k):eL D' E' R' pa va fs k:=by
 obtain⟨x,hx,hr⟩:=hr;exact⟨x,hx,h.reads (List.getElem?_eq_some_iff.1 hx).1 (hR x hx) hr⟩
end
section
variable {pa va : Int} {fs : List ay}
theorem FY{up:Int→Int}{n:Nat}{f g:Int→Int}(h0:0<fs.length)(hl:(aF (af fs)).length=fs.length)(hf:QcE (af fs) up)(hn:PC (eN (af fs) up) n f g)(hs:(hY fs:Int)≤20000):oA (dH f g) (Dm (tg (af fs))) (tj fs) (fun _=>20000) fs where
 IC a b ha hb:=I0 (by rw[bE];exact h0) (by rw[bE];exact hl) hf hn (by rw[bE];exact ha) (by rw[bE];exact hb);fin d hd:=by
  obtain⟨x,hx,h1⟩:=De hd;have:=I1 hx;have h2:tj fs d.2.1=(x.insts.length:Int):=by simp[tj,hx]
  rw[h2];constructor<;>intro<;>omega
theorem xy(h0:0<fs.length)(hl:(aF (af fs)).length=fs.length):oA (gz (af fs)) (Dm (tg (af fs))) (fun _=>20000) (fun _=>20000) fs where
 IC a b ha hb:=Nk (by rw[bE];exact h0) (by rw[bE];exact hl) (by rw[bE];exact ha) (by rw[bE];exact hb);fin d hd:=Qi1
theorem I2{N:Int}{x:ay}(h:F3 N x):pE x↔wo x:=by
 unfold pE wo;have:=h.2;omega
theorem Nl{nm:cV}(h:j9 nm pa va fs):∀x,x∈fs→F3 (fs.length:Int) x:=by
 intro x hx;refine⟨h.ends x hx,fun he=> ?_⟩;obtain⟨k,hk⟩:=jF.1 hx;obtain⟨y,hy,hr⟩:=h.reads k (List.getElem?_eq_some_iff.1 hk).1;rw[hk]at hy;injection hy with hy;subst hy;by_cases hv:x.v= -1
 ·omega
 ·have:=(hr.fin (.inr ⟨he,hv⟩)).1;omega
end
end Go.Mor
namespace Go.Mor
theorem xz{fs:List ay}{Q:ay→Prop}{m:Nat}{x:ay}(h:∀(i:Nat) (x:ay),i<m→fs[i]?=some x→Q x)(hx:fs[m]?=some x)(hq:Q x):∀(i:Nat) (x:ay),i<m+1→fs[i]?=some x→Q x:=by
 intro i y hi hy;by_cases e:i=m
 ·subst e;rw[hx]at hy;injection hy with hy;exact hy▸hq
 ·exact h i y oM hy
end Go.Mor
namespace Go.Mor
theorem FZ{Bk Bv B:Bool}{Wk:Nat→Bool}{k:Nat}(h:Bk=true↔Bv=true∧∀i:Nat,i<k→Wk i=true)(hB:B=true↔Bk=true):(B&&Wk k)=true↔Bv=true∧∀i:Nat,i<k+1→Wk i=true:=by
 rw[Qjo,hB,h];constructor
 ·rintro⟨⟨h1,h2⟩,h3⟩;exact⟨h1,l7 h2 h3⟩
 ·rintro⟨h1,h2⟩;exact⟨⟨h1,fun i hi=>h2 i oM⟩,h2 k oM⟩
end Go.Mor
namespace Go.Mor
open Go.RowKit
def bI.e0(p:bI):bI:=⟨p.dst,none,0,p.args⟩
def aO.e0(p:aO):aO:=⟨p.op,p.dst,p.n,p.name,none,0,p.args⟩
def ay.e0(x:ay):ay:=⟨none,0,x.ah.map bI.e0,none,0,x.insts.map aO.e0,x.e,x.v,x.a,x.b⟩
def ec(fs gs:List ay):Prop:=fs.map ay.e0=gs.map ay.e0
def Dh(x:ay):Int×Int×Int:=(x.e,x.a,x.b)
theorem lJ{fs gs:List ay}(h:fs.map Dh=gs.map Dh):tg (af fs)=tg (af gs):=by
 have hl:fs.length=gs.length:=by simpa using Qi9 List.length h
 funext b;unfold tg;split
 ·have hk:((af fs)[b.toNat]?).map (fun x:SB=>(x.e,x.a,x.b))=((af gs)[b.toNat]?).map (fun x:SB=>(x.e,x.a,x.b)):=by have h1:=Qi9 (fun l:List (Int×Int×Int)=>l[b.toNat]?) h;simp only[List.getElem?_map]at h1;unfold af;simp only[List.getElem?_map,Option.map_map];exact h1
  revert hk;cases h1:(af fs)[b.toNat]?<;>cases h2:(af gs)[b.toNat]?<;>simp;rename_i x y;intro e1 e2 e3;unfold zH;rw[e1,e2,e3,bE,bE,hl]
 ·rfl
theorem mw{fs gs:List ay}(h:fs.map Dh=gs.map Dh):bS (af fs)=bS (af gs):=by
 have hl:fs.length=gs.length:=by simpa using Qi9 List.length h
 funext b;unfold bS dW;rw[lJ h,bE,bE,hl]
theorem Ri{fs gs:List ay}(h:fs.map Dh=gs.map Dh):(aF (af fs)).length=fs.length↔(aF (af gs)).length=gs.length:=by
 have hl:fs.length=gs.length:=by simpa using Qi9 List.length h
 have h1:=mv (bs:=af fs);have h2:=mv (bs:=af gs);rw[bE]at h1 h2;rw[h1,h2,hl];unfold fy;rw[lJ h,bE,bE,hl]
theorem Ey{fs gs:List ay}(h:ec fs gs):fs.map Dh=gs.map Dh:=by
 have:Dh=Dh∘ay.e0:=rfl;rw[this,←Qcn,←Qcn,h]
theorem oB{fs gs:List ay}(h:ec fs gs){k:Nat}{x:ay}(hx:fs[k]?=some x):∃y,gs[k]?=some y∧x.e0=y.e0:=by
 have h1:=Qi9 (fun l:List ay=>l[k]?) h;simp only[List.getElem?_map,hx,s9]at h1;cases hy:gs[k]? with
 |none=>rw[hy]at h1;simp at h1
 |some y=>rw[hy]at h1;simp at h1;exact⟨y,rfl,h1⟩
theorem ec.symm{fs gs:List ay}(h:ec fs gs):ec gs fs:=Eq.symm h
theorem ec.len{fs gs:List ay}(h:ec fs gs):fs.length=gs.length:=by simpa using Qi9 List.length h
section
variable {x y : ay}
theorem I3(h:x.e0=y.e0):x.e=y.e:=show x.e0.e=y.e0.e by rw[h]
theorem F0(h:x.e0=y.e0):x.v=y.v:=show x.e0.v=y.e0.v by rw[h]
theorem UA(h:x.e0=y.e0):x.a=y.a:=show x.e0.a=y.e0.a by rw[h]
theorem UB(h:x.e0=y.e0):x.b=y.b:=show x.e0.b=y.e0.b by rw[h]
theorem rC(h:x.e0=y.e0):x.ah.map bI.e0=y.ah.map bI.e0:=show x.e0.ah=y.e0.ah by rw[h]
theorem rD(h:x.e0=y.e0):x.insts.map aO.e0=y.insts.map aO.e0:=show x.e0.insts=y.e0.insts by rw[h]
theorem Df(h:x.e0=y.e0){j:Nat}{p:bI}(hp:x.ah[j]?=some p):∃q,y.ah[j]?=some q∧p.dst=q.dst∧p.args=q.args:=by
 have h1:=Qi9 (fun l:List bI=>l[j]?) (rC h);simp only[List.getElem?_map,hp,s9]at h1;cases hy:y.ah[j]? with
 |none=>rw[hy]at h1;simp at h1
 |some q=>rw[hy]at h1;simp[bI.e0]at h1;exact⟨q,rfl,h1⟩
theorem rE(h:x.e0=y.e0){j:Nat}{p:aO}(hp:x.insts[j]?=some p):∃q,y.insts[j]?=some q∧p.op=q.op∧p.dst=q.dst∧p.n=q.n∧p.name=q.name∧p.args=q.args:=by
 have h1:=Qi9 (fun l:List aO=>l[j]?) (rD h);simp only[List.getElem?_map,hp,s9]at h1;cases hy:y.insts[j]? with
 |none=>rw[hy]at h1;simp at h1
 |some q=>rw[hy]at h1;simp[aO.e0]at h1;exact⟨q,rfl,h1⟩
theorem Dg(b:Int)(x:ay):eJ b x.e0=eJ b x:=by
 unfold eJ cC cT;simp[ay.e0,bI.e0,aO.e0,List.zipIdx_map,NI,Function.comp_def];rfl
theorem A8(fs:List ay):bF (fs.map ay.e0)=bF fs:=by
 unfold bF db;rw[QjN,uK sI,uK sI];simp[List.zipIdx_map,Oc,Dg]
end
theorem F1{p q:aO}(h1:p.op=q.op)(h2:p.dst=q.dst)(h3:p.n=q.n)(h4:p.name=q.name)(h5:p.args.length=q.args.length)(h:bJ p):bJ q:=by
 unfold bJ at h⊢;rw[←h1,←h2,←h3,←h4,←h5];exact h
theorem rF(fs:List ay):hY (fs.map ay.e0)=hY fs:=by
 unfold hY jl;rw[QjN,uK sI,uK sI];simp[ay.e0,Function.comp_def]
theorem qu{nm:cV}{pa va:Int}{fs gs:List ay}(h:ec fs gs)(hg:j9 nm pa va fs):j9 nm pa va gs:=by
 have he:=Ey h;have hd:bF fs=bF gs:=by rw[←A8 fs,←A8 gs,h]
 have hl:=h.len;refine⟨hg.name,hg.par,by have:=hg.pos;omega,fun x hx=> ?_,?_,(Ri he).1 hg.all,fun x hx=> ?_,⟨fun x hx p hp=> ?_,hd▸hg.QbQ.2⟩,fun k hk=> ?_⟩
 ·obtain⟨y,hy,e⟩:=oB h.symm hx;have h1:=Qi9 List.length (rC e);simp at h1;rw[h1];exact hg.ah y hy
 ·rw[←mw he];exact hg.src
 ·obtain⟨k,hk⟩:=jF.1 hx;obtain⟨y,hy,e⟩:=oB h.symm hk;have h1:=hg.ends y (Qcs hy);unfold ix at h1⊢;have e1:x.e=y.e:=I3 e;have e2:x.v=y.v:=F0 e;have e3:x.a=y.a:=UA e;have e4:x.b=y.b:=UB e;rw[e1,e2,e3,e4,←hl];exact h1
 ·obtain⟨k,hk⟩:=jF.1 hx;obtain⟨y,hy,e⟩:=oB h.symm hk;obtain⟨j,hj⟩:=jF.1 hp;obtain⟨q,hq,e1,e2,e3,e4,e5⟩:=rE e hj;exact F1 e1.symm e2.symm e3.symm e4.symm (by rw[e5]) (hg.QbQ.1 y (Qcs hy) q (Qcs hq))
 ·obtain⟨x,hx,hr⟩:=hg.reads k oM;obtain⟨y,hy,e⟩:=oB h hx;have ee:x.e=y.e:=I3 e;have ev:x.v=y.v:=F0 e;refine⟨y,hy,⟨fun j p hp=> ?_,fun j p hp i a ha=> ?_,fun hR=> ?_⟩⟩
  ·obtain⟨q,hq,e1,e2⟩:=Df e.symm hp;have:=hr.ah j q hq;rw[←mw he,←lJ he,←hd,e2];exact this
  ·obtain⟨q,hq,e1,e2,e3,e4,e5⟩:=rE e.symm hp;rw[e5]at ha;have:=hr.insts j q hq i a ha;rw[←lJ he,←hd];exact this
  ·rw[←lJ he,←hd,←ev];refine hr.fin ?_;unfold pE at hR⊢;rw[ee,ev];exact hR
theorem oC{nm:cV}{pa va:Int}{fs gs:List ay}(h:ec fs gs):bV nm pa va fs=bV nm pa va gs:=by
 unfold bV;have hs:hY fs=hY gs:=by rw[←rF fs,←rF gs,h]
 rw[hs];have:j9 nm pa va fs↔j9 nm pa va gs:=⟨qu h,qu h.symm⟩;simp only[this]
end Go.Mor
namespace Go.Mor
open Go.RowKit
theorem mem_zipIdx{α:Type}{l:List α}{x:α}{i:Nat}:(x,i)∈l.zipIdx↔l[i]?=some x:=by
 rw[Qi2]
def nu(x:ay):ar:=x.ah.map (fun p=>p.dst)++(x.insts.filter (fun i=>decide (aU i.op))).map (fun i=>i.dst)
theorem Ba(b:Int)(x:ay):(eJ b x).map (·.1)=nu x:=by
 unfold eJ cC cT nu;have h:∀(l:List aO) (n:Nat),((l.zipIdx n).filter (fun x=>decide (aU x.1.op))).map (fun x=>x.1.dst)=(l.filter (fun i=>decide (aU i.op))).map (fun i=>i.dst):=by
  intro l;induction l with
  |nil=>intro n;rfl
  |cons a l ih=>
   intro n;rw[List.zipIdx_cons,Qjz,Qjz];by_cases hm:aU a.op<;>simp[hm,ih (n+1)]
 have:=h x.insts 0;simp only[Qjy,Qcn];congr 1
theorem pf(fs:List ay):(bF fs).map (·.1)=fs.flatMap nu:=by
 unfold bF db;rw[uK (Qjn _),List.map_flatMap];have h:∀(l:List ay) (n:Nat),(l.zipIdx n).flatMap (fun x=>(eJ (x.2:Int) x.1).map (·.1))=l.flatMap nu:=by
  intro l;induction l with
  |nil=>intro n;rfl
  |cons a l ih=>intro n;rw[List.zipIdx_cons,iC,iC,ih (n+1),Ba]
 exact h fs 0
theorem sq{fs:List ay}{v b q:Int}:(v,b,q)∈bF fs↔∃(k:Nat) (x:ay),fs[k]?=some x∧b=(k:Int)∧((q= -1∧∃p,p∈x.ah∧p.dst=v)∨∃(j:Nat) (i:aO),x.insts[j]?=some i∧aU i.op∧i.dst=v∧q=(j:Int)):=by
 unfold bF db;rw[uK (Qjn _),pZ];constructor
 ·rintro⟨⟨x,k⟩,hx,hd⟩;have yk:=mem_zipIdx.1 hx;refine⟨k,x,yk,?_⟩;unfold eJ cC cT at hd;rcases QiU.1 hd with hd|hd
  ·obtain⟨p,hp,he⟩:=jd.1 hd;simp at he;exact⟨he.2.1.symm,.inl ⟨he.2.2.symm,p,hp,he.1⟩⟩
  ·obtain⟨⟨i,j⟩,hp,he⟩:=jd.1 hd;obtain⟨h1,h2⟩:=Qjr.1 hp;simp at he h2;exact⟨he.2.1.symm,.inr ⟨j,i,mem_zipIdx.1 h1,h2,he.1,he.2.2.symm⟩⟩
 ·rintro⟨k,x,hx,rfl,h⟩;refine⟨(x,k),mem_zipIdx.2 hx,?_⟩;unfold eJ cC cT;rcases h with⟨rfl,p,hp,rfl⟩|⟨j,i,hi,hm,rfl,rfl⟩
  ·exact Qi6 _ (jd.2 ⟨p,hp,rfl⟩)
  ·exact Qjl _ (jd.2 ⟨(i,j),Qjr.2 ⟨mem_zipIdx.2 hi,by simp[hm]⟩,rfl⟩)
theorem xB{ds:rn}(hn:(ds.map (·.1)).Nodup){v:Int}{p:Int×Int}:findD ds v=some p↔(v,p)∈ds:=by
 constructor
 ·intro h;by_cases hm:v∈ds.map (·.1)
  ·obtain⟨q,h1,h2⟩:=tz hm;rw[h1]at h;injection h with h;subst h;exact h2
  ·rw[gg hm]at h;cases h
 ·intro h;obtain⟨q,h1,h2⟩:=tz (jd.2 ⟨(v,p),h,rfl⟩);have:q=p:=by
   have hp:=gS.1 hn;rcases Classical.em (((v,q):Int×Int×Int)=(v,p))with e|e
   ·injection e
   ·exfalso;obtain⟨i,hi⟩:=jF.1 h;obtain⟨j,hj⟩:=jF.1 h2;exact kQ (R:=fun a b:Int×Int×Int=>a.1≠b.1) (fun _ _ h e=>h e.symm) hp hi hj (fun e2=>e (by subst e2;rw[hi]at hj;injection hj with hj;exact hj.symm)) rfl
  rw[h1,this]
theorem u3{D:Int→Int→Prop}{pa va:Int}{ds:rn}(hn:(ds.map (·.1)).Nodup){v b q:Int}:bX D pa va ds v b q↔0≤v∧v<va∧(v<pa∨∃c k,(v,c,k)∈ds∧((c=b∧k<q)∨(c≠b∧D c b))):=by
 unfold bX;constructor
 ·rintro⟨h1,h2,h3|⟨p,hp,h3⟩⟩
  ·exact⟨h1,h2,.inl h3⟩
  ·exact⟨h1,h2,.inr ⟨p.1,p.2,(xB hn).1 hp,h3⟩⟩
 ·rintro⟨h1,h2,h3|⟨c,k,hp,h3⟩⟩
  ·exact⟨h1,h2,.inl h3⟩
  ·exact⟨h1,h2,.inr ⟨(c,k),(xB hn).2 hp,h3⟩⟩
def cP(op:Int):Prop:=op=1∨op=12∨op=6∨op=7∨(16≤op∧op≠20∧op≠21)
instance (op : Int) : Decidable (cP op) := by unfold cP; infer_instance
theorem iQ{op:Int}(h:cP op):aU op:=by unfold cP at h;unfold aU;omega
inductive Rd(fs:List ay):Int→Prop
 |inst {x:ay} {i:aO} {v:Int}:x∈fs→i∈x.insts→¬cP i.op→v∈i.args→0≤v→Rd fs v
 |fin {x:ay}:x∈fs→(x.e=1∨x.e=2)→0≤x.v→Rd fs x.v
 |pK {x:ay} {p:bI} {v:Int}:x∈fs→p∈x.ah→Rd fs p.dst→v∈p.args→0≤v→Rd fs v
 |pure {x:ay} {i:aO} {v:Int}:x∈fs→i∈x.insts→cP i.op→Rd fs i.dst→v∈i.args→0≤v→Rd fs v
noncomputable instance (fs : List ay) (v : Int) : Decidable (Rd fs v) := Classical.propDecidable _
end Go.Mor
namespace Go.Mor
open Go.RowKit
def No(P:Program)(c:Code)(N:FN)(n k:Nat)(env:Env):Env:=match o3 P c N n k env with
 |some e=>e
 |none=>[]
def UC{α:Type}:Option α→Bool
 |some _=>true
 |none=>false
def PD:Env→List Nat
 |[]=>[]
 |(k,_)::r=>k::PD r
def xE(c:Code)(env:Env):Option Value:=match kind c with
 | .cond (.tmp t)=>look env t
 |_=>none
def Tq(c:Code):Nat:=(opsOf c).size
def gf(c:Code):Bool:=match kind c,kind (Code.l c)with| .seq,.region false=>true|_,_=>false
def Yc(c:Code)(N:FN)(env:Env)(k:Nat):Option Bool:=match ao c k with
 |some (d,.binOp op _ x y _,_,g)=>match bw c g env,iy d N,ev env x,ev env y with
  |some true,true,some (.int kd i),some (.int kd' j)=>match decide (kd=kd')with
   |true=>HH op i j
   |false=>none
  |_,_,_,_=>none
 |_=>none
def Yd(P:Program)(c:Code)(N:FN)(env:Env)(k:Nat):Option (Option Nat×Addr×Value):=match ao c k with
 |some (d,.store t x y,_,g)=>match bw c g env,iy d N,uq P t,ev env x,ev env y with
  |some true,true,true,some (.pointer (some ad)),some v=>match v.oneCell' with
   |true=>some (d,ad,v)
   |false=>none
  |_,_,_,_,_=>none
 |_=>none
def gn(fn:Func)(env:Env):Option Value:=match fn.results.toList with
 |[.tmp t]=>look env t
 |_=>none
def UD(fn:Func)(env:Env):Option (Value×Value):=match fn.results.toList with
 |[.tmp t,.tmp u]=>match look env t,look env u with
  |some v,some v'=>some (v,v')
  |_,_=>none
 |_=>none
section
variable {P : Program} {c : Code} {K : Act → World → Prop} {Q : Exit → Act → World → Prop} {w w0 : World} {S : Nat → Prop} {L : List bo} {k : Nat} {N : FN} {env : Env}
theorem aj(n:Nat)(h:∀a,Fr a N (No P c N n k env)→br P c K Q (k+n) a w)(hp:UC (o3 P c N n k env)=true:=by kernel_rfl):∀a,Fr a N env→br P c K Q k a w:=by
 intro a hF;unfold No at h;cases hr:o3 P c N n k env with
 |none=>rw[hr]at hp;cases hp
 |some e=>
  rw[hr]at h;exact q9 n k hF hr h
theorem cH(yf:Env){G:Act→Prop}(h:∀a,Fr a N yf→G a)(hk:lx (PD yf) env=yf:=by kernel_rfl):∀a,Fr a N env→G a:=fun a hF=>h a (hF.keep hk)
theorem aE(h:∀a,Fr a N env→K a w)(hk:ao c k=none:=by kernel_rfl):∀a,Fr a N env→br P c K Q k a w:=fun a hF=>aJ hk (h a hF)
theorem bx(h:∀a,Fr a N env→W P (Code.l c) (fun a w=>W P (Code.r c) K Q a w) Q a w)(hk:kind c= .seq:=by kernel_rfl):∀a,Fr a N env→W P c K Q a w:=fun a hF=>Pq hk (h a hF)
theorem dh(h:∀a,Fr a N env→br P c K Q 0 a w)(hk:kind c= .region false:=by kernel_rfl):∀a,Fr a N env→W P c K Q a w:=fun a hF=>zY hk (h a hF)
theorem aQ(h:∀a,Fr a N env→br P (Code.l c) (fun a w=>W P (Code.r c) K Q a w) Q 0 a w)(hk:gf c=true:=by kernel_rfl):∀a,Fr a N env→W P c K Q a w:=fun a hF=>Zn hk (h a hF)
theorem bC(h:∀a,Fr a N (No P (Code.l c) N (Tq (Code.l c)) 0 env)→W P (Code.r c) K Q a w)(hk:gf c=true:=by kernel_rfl)(hp:UC (o3 P (Code.l c) N (Tq (Code.l c)) 0 env)=true:=by kernel_rfl):∀a,Fr a N env→W P c K Q a w:=by
 refine aQ (aj _ (fun a hF=>aJ ?_ (h a hF)) hp) hk;simp[ao,Tq]
theorem Ez(h:∀a,Fr a N (No P c N (Tq c) 0 env)→K a w)(hk:kind c= .region false:=by kernel_rfl)(hp:UC (o3 P c N (Tq c) 0 env)=true:=by kernel_rfl):∀a,Fr a N env→W P c K Q a w:=by
 refine dh (aj _ (fun a hF=>aJ ?_ (h a hF)) hp) hk;simp[ao,Tq]
theorem cg(h:∀a,Fr a N env→K a w)(hk:kind c= .skip:=by kernel_rfl):∀a,Fr a N env→W P c K Q a w:=fun a hF=>Qu hk (h a hF)
theorem an(h:∀a,Fr a N env→Q .ret a w)(hk:kind c= .ret:=by kernel_rfl):∀a,Fr a N env→W P c K Q a w:=fun a hF=>T2 hk (h a hF)
theorem gq(id:Nat)(h:∀a,Fr a N env→Q (.exit id) a w)(hk:kind c= .exit id:=by kernel_rfl):∀a,Fr a N env→W P c K Q a w:=fun a hF=>Qv hk (h a hF)
theorem cK(id:Nat)(h:∀a,Fr a N env→W P (Code.l c) K (Qt id K Q) a w)(hk:kind c= .block id:=by kernel_rfl):∀a,Fr a N env→W P c K Q a w:=fun a hF=>Md hk (h a hF)
theorem eu{id:Nat}(h:∀a,Fr a N env→Q .ret a w):∀a,Fr a N env→Qt id K Q .ret a w:=h
theorem gr{id HG:Nat}(h:∀a,Fr a N env→K a w)(e:Nat.beq HG id=true:=by rfl):∀a,Fr a N env→Qt id K Q (.exit HG) a w:=fun a hF=>Mk e (h a hF)
theorem zbm{id HG:Nat}(h:∀a,Fr a N env→Q (.exit HG) a w)(e:Nat.beq HG id=false:=by rfl):∀a,Fr a N env→Qt id K Q (.exit HG) a w:=fun a hF=>Qln e (h a hF)
theorem sr{v:Value}(h:xE c env=some v):∃t,kind c= .cond (.tmp t)∧look env t=some v:=by
 unfold xE at h;split at h
 ·rename_i t ht;exact⟨t,ht,h⟩
 ·cases h
theorem fN(h:∀a,Fr a N env→W P (Code.l c) K Q a w)(hk:xE c env=some (vB true):=by kernel_rfl):∀a,Fr a N env→W P c K Q a w:=fun a hF=>by
 obtain⟨t,h1,h2⟩:=sr hk;exact CC h1 hF h2 (fun _=>h a hF) (fun h=>Bool.noConfusion h)
theorem fT(h:∀a,Fr a N env→W P (Code.r c) K Q a w)(hk:xE c env=some (vB false):=by kernel_rfl):∀a,Fr a N env→W P c K Q a w:=fun a hF=>by
 obtain⟨t,h1,h2⟩:=sr hk;exact CC h1 hF h2 (fun h=>Bool.noConfusion h) (fun _=>h a hF)
theorem fh(e:Bool)(R:Prop)(i:e=true↔R)(ht:R→∀a,Fr a N env→W P (Code.l c) K Q a w)(hf:¬R→∀a,Fr a N env→W P (Code.r c) K Q a w)(hk:xE c env=some (vB e):=by kernel_rfl):∀a,Fr a N env→W P c K Q a w:=fun a hF=>by
 obtain⟨t,h1,h2⟩:=sr hk;exact MJ h1 hF h2 i (fun r=>ht r a hF) (fun r=>hf r a hF)
theorem jg(R:Prop)[Decidable R](ht:R→∀a,Fr a N env→W P (Code.l c) K Q a w)(hf:¬R→∀a,Fr a N env→W P (Code.r c) K Q a w)(hk:xE c env=some (vB (decide R)):=by kernel_rfl):∀a,Fr a N env→W P c K Q a w:=fh (decide R) R decide_eq_true_iff ht hf hk
theorem bq(ad:Addr)(v:Value)(hc:w.cell? ad=some v)(h:∀a,Fr a N (dE env (eo c k) v)→br P c K Q (k+1) a w)(hk:MG P c N env k=some (eo c k,ad):=by kernel_rfl):∀a,Fr a N env→br P c K Q k a w:=fun _ hF=>bf _ ad hF hk v hc h
theorem gu(ad:Addr)(vs:aW)(hc:∀j v,vs[j]?=some v→w.cell? (ad.add j)=some v)(h:∀a,Fr a N (dE env (eo c k) (.agg vs.toArray))→br P c K Q (k+1) a w)(hk:Tl P c N env k=some (eo c k,ad,some vs.length):=by kernel_rfl):∀a,Fr a N env→br P c K Q k a w:=fun _ hF=>MI _ ad vs hF hk hc h
theorem eZ(ad:Addr)(n size:Nat)(i:Int)(h:∀a,Fr a N (dE env (eo c k) (vP (ad.add (i.toNat*size))))→br P c K Q (k+1) a w)(h0:0≤i:=by omega)(h1:i<n:=by omega)(hk:MH P c N env k=some (eo c k,some ad,n,size,i):=by kernel_rfl):∀a,Fr a N env→br P c K Q k a w:=fun _ hF=>Hb _ ad n size i hF hk h0 h1 h
theorem cy(z:Int)(h:∀a,Fr a N (dE env (eo c k) (vI z))→br P c K Q (k+1) a w)(h1: -9223372036854775808≤z:=by omega)(h2:z≤9223372036854775807:=by omega)(hk:QQ c N env k=some (eo c k,z):=by kernel_rfl):∀a,Fr a N env→br P c K Q k a w:=fun _ hF=>tE _ z hF hk rfl h1 h2 h
theorem EA{b:Bool}(h:Yc c N env k=some b):∃d op t x y t' ty g kd i j,ao c k=some (d,.binOp op t x y t',ty,g)∧bw c g env=some true∧iy d N=true∧ev env x=some (.int kd i)∧ev env y=some (.int kd j)∧HH op i j=some b:=by
 unfold Yc at h;split at h
 ·rename_i h0;split at h
  ·rename_i h1 h2 h3 h4;split at h
   ·rename_i h5;have:=nF h5;subst this;exact⟨_,_,_,_,_,_,_,_,_,_,_,h0,h1,h2,h3,h4,h⟩
   ·cases h
  ·cases h
 ·cases h
theorem gC(b:Bool)(h:∀B,B=b→∀a,Fr a N (dE env (eo c k) (vB B))→br P c K Q (k+1) a w)(hk:Yc c N env k=some b:=by kernel_rfl):∀a,Fr a N env→br P c K Q k a w:=fun a hF=>by
 obtain⟨d,op,t,x,y,t',ty,g,kd,i,j,h0,h1,h2,h3,h4,h5⟩:=EA hk;have hd:eo c k=d:=by unfold ao at h0;unfold eo;cases ho:(opsOf c)[k]?<;>rw[ho]at h0<;>simp at h0⊢;exact h0.1
 rw[hd]at h;exact z7 h0 hF h1 h2 rfl h3 h4 h5 (fun B hB a' _=>h B hB a')
theorem eY{f:FuncId}{vs:Array Value}{Φ:Value→World→Prop}(hc:Calls P f vs w (fE Φ))(h:∀v w',Φ v w'→∀a,Fr a N (dE env (eo c k) v)→br P c K Q (k+1) a w')(hk:Tm P c N env k=some (eo c k,f,vs):=by kernel_rfl):∀a,Fr a N env→br P c K Q k a w:=fun _ hF=>mR _ f vs.toList hF hk hc h
theorem EB{d:Option Nat}{ad:Addr}{v:Value}(h:Yd P c N env k=some (d,ad,v)):∃t x y ty g,ao c k=some (d,.store t x y,ty,g)∧bw c g env=some true∧iy d N=true∧uq P t=true∧ev env x=some (vP ad)∧ev env y=some v∧v.oneCell'=true:=by
 unfold Yd at h;split at h
 ·rename_i h0;split at h
  ·rename_i h1 h2 h3 h4 h5;split at h
   ·rename_i h6;simp only[p5,eh]at h;obtain⟨rfl,rfl,rfl⟩:=h;exact⟨_,_,_,_,_,h0,h1,h2,h3,h4,h5,h6⟩
   ·cases h
  ·cases h
 ·cases h
theorem wq(hM:Mem S w0 w L)(i:Nat)(off:Nat)(v:Value){b t0:Nat}{cs:aW}(hi:L[i]?=some (.au b t0 cs))(h:∀w',Mem S w0 w' (L.set i (.au b t0 (cs.set off v)))→∀a,Fr a N (dE env (eo c k) undef)→br P c K Q (k+1) a w')(ho:off<cs.length:=by decide)(hk:Yd P c N env k=some (eo c k,(ak b off),v):=by kernel_rfl):∀a,Fr a N env→br P c K Q k a w:=fun a hF=>by
 obtain⟨t,x,y,ty,g,h0,h1,h2,h3,h4,h5,h6⟩:=EB hk;exact eW h0 hF h1 h2 rfl h4 h5 h3 h6 hM i hi ho (fun w' Np _ a' _=>h w' Np a')
theorem zJ(hM:Mem S w0 w L)(i:Nat)(ad':Addr)(j:Nat)(v:Value){e size n cap:Nat}{ad:Addr}{xs:aW}(hi:L[i]?=some (.row e size (some ad) n cap xs))(vg:ad'=ad.add j)(hj:j<n*size)(h:∀w',Mem S w0 w' (L.set i (.row e size (some ad) n cap (xs.set j v)))→∀a,Fr a N (dE env (eo c k) undef)→br P c K Q (k+1) a w')(hk:Yd P c N env k=some (eo c k,ad',v):=by kernel_rfl):∀a,Fr a N env→br P c K Q k a w:=fun a hF=>by
 obtain⟨t,x,y,ty,g,h0,h1,h2,h3,h4,h5,h6⟩:=EB hk;exact dZ h0 hF h1 h2 rfl h4 vg h5 h3 h6 hM i hi hj (fun w' Np _ a' _=>h w' Np a')
end
section
variable {P : Program} {w : World} {N : FN} {env : Env} {fn : Func} {Φ : Value → World → Prop}
theorem cQ(v:Value)(h:Φ v w)(hk:gn fn env=some v:=by kernel_rfl)(hD:N.D=[]:=by rfl):∀a,Fr a N env→bodyPost P fn (fE Φ) .ret a w:=fun a hF=>by
 unfold gn at hk;split at hk
 ·rename_i t ht;exact Zh hF (by apply qC;simpa using ht) hk ⟨v,rfl,h⟩ hD
 ·cases hk
theorem su(v v':Value)(h:Φ (.tuple #[v,v']) w)(hk:UD fn env=some (v,v'):=by kernel_rfl)(hD:N.D=[]:=by rfl):∀a,Fr a N env→bodyPost P fn (fE Φ) .ret a w:=fun a hF=>by
 unfold UD at hk;split at hk
 ·rename_i t u ht;split at hk
  ·rename_i h1 h2;simp only[p5,eh]at hk;obtain⟨rfl,rfl⟩:=hk;exact Zi hF (by apply qC;simpa using ht) h1 h2 ⟨_,rfl,h⟩ hD
  ·cases hk
 ·cases hk
theorem ZD(h:Φ (.tuple #[]) w)(hk:fn.results=#[]:=by rfl)(hD:N.D=[]:=by rfl):∀a,Fr a N env→bodyPost P fn (fE Φ) .normal a w:=fun _ hF=>Zj hF hk ⟨_,rfl,h⟩ hD
theorem hZ{f:FuncId}(N:FN)(vs:aW)(hf:P.funcs[f]?=some fn)(h:∀a,Fr a N (Fi 0 vs)→W P (yp fn) (bodyPost P fn (fE Φ) .normal) (bodyPost P fn (fE Φ)) a w)(hb:fn.body.isSome=true:=by kernel_rfl)(hn:Nat.beq fn.ntmps N.n=true:=by kernel_rfl)(hl:Nat.ble vs.length N.n=true:=by kernel_rfl)(hD:N.D=[]:=by rfl):Calls P f vs.toArray w (fE Φ):=enter hf hb hn hl h hD
end
def Tr:Spec→Option Value
 | .bG u=>some u
 |_=>none
def Ye(P:Program)(c:Code)(N:FN)(i:Nat)(env:Env):Option Value:=match ao c i with
 |some (d,op,_,g)=>match bw c g env,iy d N with
  |some true,true=>nY P env op
  |_,_=>none
 |none=>none
def Al(c:Code)(i:Nat)(env:Env):Option Bool:=match ao c i with
 |some (_,_,_,g)=>bw c g env
 |none=>none
theorem y7{c:Code}{i:Nat}{env:Env}{b:Bool}(h:Al c i env=some b):∀g,(ao c i).map (·.2.2.2)=some g→bw c g env=some b:=by
 intro g hg;unfold Al at h;split at h
 ·rename_i h0;rw[h0]at hg;simp only[s9,p5]at hg;subst hg;exact h
 ·cases h
theorem pN{E F:Env}{t:Nat}{v:Value}(h:look E t=some v):look (E++F) t=some v:=by
 induction E with
 |nil=>cases h
 |cons x r ih=>
  obtain⟨k,u⟩:=x;simp only[ph,look]at h⊢;cases hq:Nat.beq k t with
  |true=>rw[hq]at h;exact h
  |false=>rw[hq]at h;exact ih h
section
variable {P : Program} {c : Code} {Q : Exit → Act → World → Prop} {N : FN} {i : Nat} {env0 : Env} {wr : World} {sp : Nat → Spec}
theorem Fr.left{a:Act}{E F:Env}(h:Fr a N (E++F)):Fr a N E:=⟨h.defers,h.size,fun t v hv=>h.slot t v (pN hv)⟩
theorem qx{g:Option (Nat×Bool)}{E F:Env}{b:Bool}(h:bw c g E=some b):bw c g (E++F)=some b:=by
 unfold bw at h⊢;cases g with
 |none=>exact h
 |some p=>
  obtain⟨j,want⟩:=p;simp only at h⊢;cases hd:((opsOf c)[j]?).bind (·.dst)with
  |none=>rw[hd]at h;cases h
  |some d=>
   rw[hd]at h;simp only at h⊢;cases hl:look E d with
   |none=>rw[hl]at h;cases h
   |some v=>
    rw[hl]at h;rw[pN hl];exact h
theorem sY(hg:∀vs,Al c i (bM c i sp vs env0)=some true)(h:∀(w:World) (vs:Nat→Value),Kp wr w→(∀j,j∈cR c i→(sp j).ok (vs j) w)→∀a,Fr a N (bM c i sp vs env0)→br P (one c i) (fun a' w'=>∃v,a'=a.put (eo c i) v∧Kp w w'∧(sp i).ok v w') Q 0 a w):jw P c Q N env0 wr sp i:=by
 intro a w vs rest hK hp hF;exact⟨true,fun g mG=>qx (y7 (hg vs) g mG),fun _=>h w vs hK hp a hF.left,fun h=>Bool.noConfusion h⟩
theorem Di{o:Option Nat×Op×Nat×Option (Nat×Bool)}(h:ao c i=some o):ao (one c i) 0=some (o.1,o.2.1,o.2.2.1,none)∧eo c i=o.1:=by
 unfold ao at h;cases ho:(opsOf c)[i]? with
 |none=>rw[ho]at h;cases h
 |some q=>
  rw[ho]at h;simp only[s9,p5]at h;subst h;constructor
  ·unfold ao;rw[rf ho];rfl
  ·simp[eo,ho]
theorem EC{k:Nat}{o:Option Nat×Op×Nat×Option (Nat×Bool)}(h:ao c i=some o):ao (one c i) (k+1)=none:=by
 unfold ao at h⊢;cases ho:(opsOf c)[i]? with
 |none=>rw[ho]at h;cases h
 |some q=>
  rw[rf ho];simp
theorem dP(h:∀vs,Ye P c N i (bM c i sp vs env0)=Tr (sp i):=by intro _;kernel_rfl)(h2:UC (Tr (sp i))=true:=by kernel_rfl):jw P c Q N env0 wr sp i:=by
 have key:∀vs,∃d op ty g v,ao c i=some (d,op,ty,g)∧bw c g (bM c i sp vs env0)=some true∧iy d N=true∧nY P (bM c i sp vs env0) op=some v∧sp i= .bG v:=by
  intro vs;have h3:=h vs;cases hs:sp i with
  |any Φ hh=>rw[hs]at h2;cases h2
  |bG u=>
   rw[hs]at h3;unfold Ye Tr at h3;simp only at h3;split at h3
   ·rename_i h4;split at h3
    ·rename_i h5 h6;exact⟨_,_,_,_,u,h4,h5,h6,h3,rfl⟩
    ·cases h3
   ·cases h3
 refine sY (fun vs=> ?_) (fun w vs hK hp a hF=> ?_)
 ·obtain⟨d,op,ty,g,v,h1,h2,_⟩:=key vs;unfold Al;rw[h1];exact h2
 ·obtain⟨d,op,ty,g,v,h1,h2,h3,h4,h5⟩:=key vs;obtain⟨e1,e2⟩:=Di h1;refine eU e1 hF rfl h3 rfl h4 (fun a' ea _=>aJ (EC h1) ⟨v,?_,Kp.refl w,?_⟩)
  ·rw[e2];exact ea
  ·rw[h5];rfl
theorem ED{k:Nat}{c:Code}{env:Env}{d:Option Nat}{ad:Addr}(hk:MG P c N env k=some (d,ad)):∃t x ty g,ao c k=some (d,.load t x,ty,g)∧bw c g env=some true∧iy d N=true∧uq P t=true∧ev env x=some (vP ad):=by
 unfold MG at hk;split at hk
 ·rename_i h0;split at hk
  ·rename_i h1 h2 h3 h4;simp only[p5,eh]at hk;obtain⟨rfl,rfl⟩:=hk;exact⟨_,_,_,_,h0,h1,h2,h3,h4⟩
  ·cases hk
 ·cases hk
theorem Nq{k:Nat}{c:Code}{env:Env}{d:Option Nat}{ad:Addr}{n:Nat}(hk:Tl P c N env k=some (d,ad,some n)):∃t x ty g,ao c k=some (d,.load t x,ty,g)∧bw c g env=some true∧iy d N=true∧tf P t=some n∧ev env x=some (vP ad):=by
 unfold Tl at hk;split at hk
 ·rename_i h0;split at hk
  ·rename_i h1 h2 h4;simp only[p5,eh]at hk;obtain⟨rfl,rfl,h3⟩:=hk;exact⟨_,_,_,_,h0,h1,h2,h3,h4⟩
  ·cases hk
 ·cases hk
theorem EE{k:Nat}{c:Code}{env:Env}{d:Option Nat}{A:aX}{n size:Nat}{j:Int}(hk:MH P c N env k=some (d,A,n,size,j)):∃t x y ty g cap e kd,ao c k=some (d,.indexAddr t x y,ty,g)∧bw c g env=some true∧iy d N=true∧ev env x=some (vS A n cap)∧ev env y=some (.int kd j)∧P.underlying t=some (.slice e)∧(P.info? e).map (·.size)=some size:=by
 unfold MH at hk;split at hk
 ·rename_i g0;split at hk
  ·rename_i g1 g2 g3 g4;split at hk
   ·rename_i e ht;split at hk
    ·rename_i inf hs;simp only[p5,eh]at hk;obtain⟨rfl,rfl,rfl,rfl,rfl⟩:=hk;exact⟨_,_,_,_,_,_,_,_,g0,g1,g2,g3,g4,ht,by rw[hs];rfl⟩
    ·cases hk
   ·cases hk
  ·cases hk
 ·cases hk
theorem EF{k:Nat}{c:Code}{env:Env}{d:Option Nat}{z:Int}(hk:QQ c N env k=some (d,z)):∃op t x y t' ty g i j,ao c k=some (d,.binOp op t x y t',ty,g)∧bw c g env=some true∧iy d N=true∧ev env x=some (vI i)∧ev env y=some (vI j)∧X0 op i j=some z:=by
 unfold QQ at hk;split at hk
 ·rename_i g0;split at hk
  ·rename_i g1 g2 g3 g4;split at hk
   ·rename_i z hz;simp only[p5,eh]at hk;obtain⟨rfl,rfl⟩:=hk;exact⟨_,_,_,_,_,_,_,_,_,g0,g1,g2,g3,g4,hz⟩
   ·cases hk
  ·cases hk
 ·cases hk
theorem dL(ad:Addr)(v:Value)(hc:∀w',Kp wr w'→w'.cell? ad=some v)(hv:sp i= .bG v:=by rfl)(hg:∀vs,Al c i (bM c i sp vs env0)=some true:=by intro _;kernel_rfl)(hk:∀vs,MG P (one c i) N (bM c i sp vs env0) 0=some (eo c i,ad):=by intro _;kernel_rfl)(he:ao (one c i) 1=none:=by kernel_rfl):jw P c Q N env0 wr sp i:=by
 refine sY hg (fun w vs hK hp a hF=> ?_);obtain⟨t,x,ty,g,h0,h1,h2,h3,h4⟩:=ED (hk vs);exact p8 h0 hF h1 h2 rfl h4 h3 (hc w hK) (fun a' ea _=>aJ he ⟨v,ea,Kp.refl w,by rw[hv];rfl⟩)
theorem dS(ad:Addr)(vs:aW)(hc:∀w',Kp wr w'→∀j v,vs[j]?=some v→w'.cell? (ad.add j)=some v)(hv:sp i= .bG (.agg vs.toArray):=by rfl)(hg:∀vs,Al c i (bM c i sp vs env0)=some true:=by intro _;kernel_rfl)(hk:∀Pv,Tl P (one c i) N (bM c i sp Pv env0) 0=some (eo c i,ad,some vs.length):=by intro _;kernel_rfl)(he:ao (one c i) 1=none:=by kernel_rfl):jw P c Q N env0 wr sp i:=by
 refine sY hg (fun w Pv hK hp a hF=> ?_);obtain⟨t,x,ty,g,h0,h1,h2,h3,h4⟩:=Nq (hk Pv);exact eV h0 hF h1 h2 rfl h4 h3 (hc w hK) (fun a' ea _=>aJ he ⟨_,ea,Kp.refl w,by rw[hv];rfl⟩)
theorem dI(ad:Addr)(n size:Nat)(j:Int)(h0:0≤j:=by omega)(h1:j<n:=by omega)(hv:sp i= .bG (vP (ad.add (j.toNat*size))):=by rfl)(hg:∀vs,Al c i (bM c i sp vs env0)=some true:=by intro _;kernel_rfl)(hk:∀vs,MH P (one c i) N (bM c i sp vs env0) 0=some (eo c i,some ad,n,size,j):=by intro _;kernel_rfl)(he:ao (one c i) 1=none:=by kernel_rfl):jw P c Q N env0 wr sp i:=by
 refine sY hg (fun w vs hK hp a hF=> ?_);obtain⟨t,x,y,ty,g,cap,e,kd,g0,g1,g2,g3,g4,g5,g6⟩:=EE (hk vs);exact p9 g0 hF g1 g2 rfl g3 g4 rfl g5 g6 h0 h1 (fun a' ea _=>aJ he ⟨_,ea,Kp.refl w,by rw[hv];rfl⟩)
theorem dA(z:Int)(h1: -9223372036854775808≤z:=by omega)(h2:z≤9223372036854775807:=by omega)(hv:sp i= .bG (vI z):=by rfl)(hg:∀vs,Al c i (bM c i sp vs env0)=some true:=by intro _;kernel_rfl)(hk:∀vs,QQ (one c i) N (bM c i sp vs env0) 0=some (eo c i,z):=by intro _;kernel_rfl)(he:ao (one c i) 1=none:=by kernel_rfl):jw P c Q N env0 wr sp i:=by
 refine sY hg (fun w vs hK hp a hF=> ?_);obtain⟨op,t,x,y,t',ty,g,i1,j1,g0,g1,g2,g3,g4,g5⟩:=EF (hk vs);exact fU g0 hF g1 g2 rfl g3 g4 g5 h1 h2 (fun a' ea _=>aJ he ⟨_,ea,Kp.refl w,by rw[hv];rfl⟩)
theorem dC(b:Bool){B:Bool}(hb:B=b)(hv:sp i= .bG (vB B):=by rfl)(hg:∀vs,Al c i (bM c i sp vs env0)=some true:=by intro _;kernel_rfl)(hk:∀vs,Yc (one c i) N (bM c i sp vs env0) 0=some b:=by intro _;kernel_rfl)(he:ao (one c i) 1=none:=by kernel_rfl):jw P c Q N env0 wr sp i:=by
 refine sY hg (fun w vs hK hp a hF=> ?_);obtain⟨d,op,t,x,y,t',ty,g,kd,i1,j1,g0,g1,g2,g3,g4,g5⟩:=EA (hk vs);have hd:eo c i=d:=by
  cases hc:ao c i with
  |none=>
   have:=hg vs;unfold Al at this;rw[hc]at this;cases this
  |some o=>
   obtain⟨e1,e2⟩:=Di hc;rw[e1]at g0;simp only[p5,eh]at g0;rw[e2,g0.1]
 exact z7 g0 hF g1 g2 rfl g3 g4 g5 (fun B' hB' a' ea _=>aJ he ⟨_,by rw[hd];exact ea,Kp.refl w,by rw[hv,hB',hb];rfl⟩)
end
section
variable {P : Program} {c : Code} {Q : Exit → Act → World → Prop} {N : FN} {i : Nat} {env0 : Env} {sp : Nat → Spec} {J : (Nat → Bool) → (Nat → Value) → World → Prop}
theorem y8(hg:∀vs,Al c i (bM c i sp vs env0)=some true)(h:∀(w:World) (ls:Nat→Bool) (vs:Nat→Value),J ls vs w→ls i=false→r7 c ls→(∀j,j∈cR c i→ls j=true∧(sp j).ok (vs j) w)→∀a,Fr a N (bM c i sp vs env0)→br P (one c i) (fun a' w'=>∃v,a'=a.put (eo c i) v∧(sp i).ok v w'∧J (mj ls i) (rj vs i v) w') Q 0 a w):rk P c Q N env0 sp J i:=by
 intro a w ls vs rest hJ hi hc hp hF;exact⟨true,fun g mG=>qx (y7 (hg vs) g mG),fun _=>h w ls vs hJ hi hc hp a hF.left,fun h=>Bool.noConfusion h⟩
theorem nk(hJ:∀ls vs v w,J ls vs w→J (mj ls i) (rj vs i v) w)(h:∀vs,Ye P c N i (bM c i sp vs env0)=Tr (sp i):=by intro _;kernel_rfl)(h2:UC (Tr (sp i))=true:=by kernel_rfl):rk P c Q N env0 sp J i:=by
 have key:∀vs,∃d op ty g v,ao c i=some (d,op,ty,g)∧bw c g (bM c i sp vs env0)=some true∧iy d N=true∧nY P (bM c i sp vs env0) op=some v∧sp i= .bG v:=by
  intro vs;have h3:=h vs;cases hs:sp i with
  |any Φ hh=>rw[hs]at h2;cases h2
  |bG u=>
   rw[hs]at h3;unfold Ye Tr at h3;simp only at h3;split at h3
   ·rename_i h4;split at h3
    ·rename_i h5 h6;exact⟨_,_,_,_,u,h4,h5,h6,h3,rfl⟩
    ·cases h3
   ·cases h3
 refine y8 (fun vs=> ?_) (fun w ls vs hj hi hc hp a hF=> ?_)
 ·obtain⟨d,op,ty,g,v,h1,h2,_⟩:=key vs;unfold Al;rw[h1];exact h2
 ·obtain⟨d,op,ty,g,v,h1,h2,h3,h4,h5⟩:=key vs;obtain⟨e1,e2⟩:=Di h1;refine eU e1 hF rfl h3 rfl h4 (fun a' ea _=>aJ (EC h1) ⟨v,?_,?_,hJ _ _ _ _ hj⟩)
  ·rw[e2];exact ea
  ·rw[h5];rfl
theorem K6(ad:Addr)(n size:Nat)(j:Int)(hJ:∀ls vs v w,J ls vs w→J (mj ls i) (rj vs i v) w)(h0:0≤j:=by omega)(h1:j<n:=by omega)(hv:sp i= .bG (vP (ad.add (j.toNat*size))):=by rfl)(hg:∀vs,Al c i (bM c i sp vs env0)=some true:=by intro _;kernel_rfl)(hk:∀vs,MH P (one c i) N (bM c i sp vs env0) 0=some (eo c i,some ad,n,size,j):=by intro _;kernel_rfl)(he:ao (one c i) 1=none:=by kernel_rfl):rk P c Q N env0 sp J i:=by
 refine y8 hg (fun w ls vs hj hi hc hp a hF=> ?_);obtain⟨t,x,y,ty,g,cap,e,kd,g0,g1,g2,g3,g4,g5,g6⟩:=EE (hk vs);exact p9 g0 hF g1 g2 rfl g3 g4 rfl g5 g6 h0 h1 (fun a' ea _=>aJ he ⟨_,ea,by rw[hv];rfl,hJ _ _ _ _ hj⟩)
theorem dAJ(z:Int)(hJ:∀ls vs v w,J ls vs w→J (mj ls i) (rj vs i v) w)(h1: -9223372036854775808≤z:=by omega)(h2:z≤9223372036854775807:=by omega)(hv:sp i= .bG (vI z):=by rfl)(hg:∀vs,Al c i (bM c i sp vs env0)=some true:=by intro _;kernel_rfl)(hk:∀vs,QQ (one c i) N (bM c i sp vs env0) 0=some (eo c i,z):=by intro _;kernel_rfl)(he:ao (one c i) 1=none:=by kernel_rfl):rk P c Q N env0 sp J i:=by
 refine y8 hg (fun w ls vs hj hi hc hp a hF=> ?_);obtain⟨op,t,x,y,t',ty,g,i1,j1,g0,g1,g2,g3,g4,g5⟩:=EF (hk vs);exact fU g0 hF g1 g2 rfl g3 g4 g5 h1 h2 (fun a' ea _=>aJ he ⟨_,ea,by rw[hv];rfl,hJ _ _ _ _ hj⟩)
theorem lL(ad:Addr)(v:Value)(hJ:∀ls vs v w,J ls vs w→J (mj ls i) (rj vs i v) w)(hc:∀w ls vs,J ls vs w→ls i=false→r7 c ls→(∀j,j∈cR c i→ls j=true)→w.cell? ad=some v)(hv:sp i= .bG v:=by rfl)(hg:∀vs,Al c i (bM c i sp vs env0)=some true:=by intro _;kernel_rfl)(hk:∀vs,MG P (one c i) N (bM c i sp vs env0) 0=some (eo c i,ad):=by intro _;kernel_rfl)(he:ao (one c i) 1=none:=by kernel_rfl):rk P c Q N env0 sp J i:=by
 refine y8 hg (fun w ls vs hj hi CD hp a hF=> ?_);obtain⟨t,x,ty,g,h0,h1,h2,h3,h4⟩:=ED (hk vs);exact p8 h0 hF h1 h2 rfl h4 h3 (hc w ls vs hj hi CD (fun j Fk=>(hp j Fk).1)) (fun a' ea _=>aJ he ⟨v,ea,by rw[hv];rfl,hJ _ _ _ _ hj⟩)
end
end Go.Mor
namespace Go.Mor
theorem F6{α:Type}[BEq α][LawfulBEq α]{a b:α}(h:false=(a==b)):¬(a=b):=fun e=>Bool.false_ne_true (h.trans (Js.2 e))
theorem Q9{α:Type}[BEq α][LawfulBEq α]{a b:α}(h:false=(a !=b)):¬(a≠b):=fun e=>Bool.false_ne_true (h.trans (dj.2 e))
end Go.Mor
namespace Go.Mor
open Go.RowKit
abbrev dU:Spec:= .bG undef
theorem lz{p:Nat→Prop}:∀i,i<0→p i:=Ae
theorem la{p:Nat→Prop}{n:Nat}(h:∀i,i<n→p i)(hn:p n):∀i,i<n+1→p i:=Af h hn
section
variable {P : Program} {c : Code} {Q : Exit → Act → World → Prop} {N : FN} {i : Nat} {env0 : Env} {wr : World} {sp : Nat → Spec}
theorem dK(hv:sp i= .bG undef:=by rfl)(hg:∀vs,Al c i (bM c i sp vs env0)=some false:=by intro _;kernel_rfl):jw P c Q N env0 wr sp i:=by
 intro a w vs rest hK hp hF;exact⟨false,fun g mG=>qx (y7 (hg vs) g mG),fun h=>Bool.noConfusion h,fun _=>by rw[hv];rfl⟩
theorem gM(A:aX)(ad:Addr)(n size:Nat)(j:Int)(hA:A=some ad)(h0:0≤j:=by omega)(h1:j<n:=by omega)(hv:sp i= .bG (vP (ad.add (j.toNat*size))):=by rfl)(hg:∀vs,Al c i (bM c i sp vs env0)=some true:=by intro _;kernel_rfl)(hk:∀vs,MH P (one c i) N (bM c i sp vs env0) 0=some (eo c i,A,n,size,j):=by intro _;kernel_rfl)(he:ao (one c i) 1=none:=by kernel_rfl):jw P c Q N env0 wr sp i:=dI ad n size j h0 h1 hv hg (fun vs=>by rw[hk vs,hA]) he
theorem Nr{k:Nat}{c:Code}{env:Env}{d:Option Nat}{f:FuncId}{vs:Array Value}(hk:Tm P c N env k=some (d,f,vs)):∃x args ts ty g us cap,ao c k=some (d,.call {callee:= .value x,args:=args,argTypes:=ts},ty,g)∧bw c g env=some true∧iy d N=true∧ev env x=some (.func (.func f) #[] cap)∧Mg env args.toList=some us∧uw P f=true∧(us++cap.toList).toArray=vs:=by
 unfold Tm at hk;split at hk
 ·rename_i d' x args ts ty g g0;split at hk
  ·rename_i f' first cap us g1 g2 g3 g4
   split at hk
   ·rename_i hs hf;simp only[p5,eh]at hk;obtain⟨rfl,rfl,hv⟩:=hk;have CU:first=#[]:=Tc hs
    subst CU;exact⟨x,args,ts,ty,g,us,cap,g0,g1,g2,g3,g4,hf,hv⟩
   ·cases hk
  ·cases hk
 ·cases hk
theorem dD{f:FuncId}{vs:Array Value}{u u':Value}(hc:∀w,Kp wr w→Calls P f vs w (fE fun v w'=>v=u∧Mem bK w w' []))(hu:u=u')(hv:sp i= .bG u':=by rfl)(hg:∀vs,Al c i (bM c i sp vs env0)=some true:=by intro _;kernel_rfl)(hk:∀Pv,Tm P (one c i) N (bM c i sp Pv env0) 0=some (eo c i,f,vs):=by intro _;kernel_rfl)(he:ao (one c i) 1=none:=by kernel_rfl):jw P c Q N env0 wr sp i:=by
 refine sY hg (fun w Pv hK hp a hF=> ?_);obtain⟨x,args,ts,ty,g,us,cap,g0,g1,g2,g3,g4,g5,g6⟩:=Nr (hk Pv);refine iT (Φ:=fun v w'=>v=u∧Mem bK w w' []) g0 hF g1 g2 rfl (cap:=cap.toList) (by simpa using g3) g4 g5 (by rw[g6];exact hc w hK) (fun v w' Yb a' ea _=>aJ he ⟨v,ea,Yb.2,?_⟩);rw[hv,Yb.1];exact hu
end
def Ts:Nat→List bo→List bo
 |0,L=>L
 |_+1,[]=>[]
 |n+1,a::L=>match Ts n L with
  |[]=>[a]
  |b::M=>b::a::M
def Yf:List Nat→List bo→List bo
 |[],L=>L
 |i::l,L=>Yf l (Ts i L)
def Tt:Nat→List bo→List bo
 |0,_=>[]
 |_+1,[]=>[]
 |n+1,a::L=>a::Tt n L
theorem Bf:∀(n:Nat) (L:List bo),L.Perm (Ts n L)
 |0,L=>List.Perm.refl L
 |_+1,[]=>List.Perm.refl []
 |n+1,a::L=>by
  unfold Ts;have h:=Bf n L;cases hm:Ts n L with
  |nil=>rw[hm]at h;exact h.cons a
  |cons b M=>rw[hm]at h;exact(h.cons a).trans (Qjw b a M)
theorem Bg:∀(l:List Nat) (L:List bo),L.Perm (Yf l L)
 |[],L=>List.Perm.refl L
 |i::l,L=>(Bf i L).trans (Bg l _)
theorem u4:∀(n:Nat) (L:List bo),pI (List.replicate n true) L=Tt n L
 |0,[]=>rfl
 |0,_::_=>rfl
 |_+1,[]=>rfl
 |n+1,a::L=>by rw[QfI];show a::pI (List.replicate n true) L=a::Tt n L;rw[u4 n L]
section
variable {S : Nat → Prop} {w0 w w' : World} {L Lr L' : List bo} {r r' s s' : bo}
theorem Mem.nf(h:Mem S w0 w L)(e:L=L':=by dsimp only[List.set_cons_zero,List.set_cons_succ,List.cons_append,List.nil_append]):Mem S w0 w L':=e▸h
theorem Mem.cl(h:Mem S w0 w L)(h':Mem bK w w' Lr)(e:L++Lr=L':=by dsimp only[List.cons_append,List.nil_append,List.append_nil]):Mem S w0 w' L':=e▸h.call h'
theorem Mem.md(h:Mem S w0 w L)(i:Nat)(hi:L[i]?=some r)(h':Mem r.fp w w' (r'::Lr))(e:L.set i r'++Lr=L':=by dsimp only[List.set_cons_zero,List.set_cons_succ,List.cons_append,List.nil_append,List.append_nil]):Mem S w0 w' L':=e▸h.mod i hi h'
theorem Mem.od(h:Mem S w0 w L)(l:List Nat)(k:Nat)(e:Tt k (Yf l L)=L':=by dsimp only[Tt,Yf,Ts]):Mem S w0 w L':=e▸(h.perm (Bg l L)).pick _ (u4 k _)
theorem Mem.tk(h:Mem S w0 w L)(k:Nat)(e:Tt k L=L':=by rfl):Mem S w0 w L':=e▸h.pick _ (u4 k _)
end
abbrev pT(b o:Nat):Value:= .pointer (some (ak b o))
abbrev sM(g:Nat):aX:=some (aZ g)
abbrev nV(k:Nat):Value:=vI (k:Int)
theorem Fr.kp{a:Act}{N:FN}{env:Env}(h:Fr a N env)(keep:List Nat){yf:Env}(e:lx keep env=yf:=by kernel_rfl):Fr a N yf:=h.keep e
section
variable {P : Program} {c : Code} {K : Act → World → Prop} {Q : Exit → Act → World → Prop} {a : Act} {w w0 : World} {S : Nat → Prop} {L : List bo} {k : Nat} {N : FN} {env : Env}
theorem gT(I:Nat→Act→World→Prop){n:Nat}(h0:I n a w)(round:∀n a w,I n a w→W P (Code.l c) (fun a' w'=>∃m,m<n∧I m a' w') Q a w)(hk:kind c= .loop:=by kernel_rfl):W P c K Q a w:=Qw hk I h0 round
theorem cE(n k':Nat){news:Env}(keys:List Nat)(hF:Fr a N env)(hp:(o3 P c N n k env).map (lx keys)=some news)(h:∀a',Fr a' N (news++env)→br P c K Q k' a' w)(hc:qm keys env (dstsOf c n k)=true:=by kernel_rfl)(hk:k+n=k':=by rfl):br P c K Q k a w:=CT n k' keys hF hp hc hk h
def gP(_P:Program)(c:Code)(N:FN)(env:Env)(k:Nat):Option (Option Nat×TypeId×Value):=match ao c k with
 |some (d,.box t x,_,g)=>match bw c g env,iy d N,ev env x with
  |some true,true,some v=>some (d,t,v)
  |_,_,_=>none
 |_=>none
theorem nJ(hM:Mem S w0 w L)(t:TypeId)(v:Value)(cs:aW)(h:∀b w',w0.heap.size≤b→Mem S w0 w' (L++[.au b t cs])→∀a,Fr a N (dE env (eo c k) (vP (aZ b)))→br P c K Q (k+1) a w')(Cn:v.cells=cs.toArray:=by rfl)(hk:gP P c N env k=some (eo c k,t,v):=by kernel_rfl):∀a,Fr a N env→br P c K Q k a w:=by
 intro a hF;unfold gP at hk;split at hk
 ·rename_i g0;split at hk
  ·rename_i g1 g2 g3;simp only[p5,eh]at hk;obtain⟨e1,rfl,rfl⟩:=hk;rw[e1]at g0 g2;exact Qgo g0 hF g1 g2 rfl g3 Cn hM (fun b w' hb _ Np _ a' _ Ec=>h b w' hb Np a' Ec)
  ·cases hk
 ·cases hk
def gQ(_P:Program)(c:Code)(N:FN)(env:Env)(k:Nat):Option (Option Nat×TypeId):=match ao c k with
 |some (d,.alloc t,_,g)=>match bw c g env,iy d N with
  |some true,true=>some (d,t)
  |_,_=>none
 |_=>none
theorem mZ(hM:Mem S w0 w L)(t:TypeId)(cs:aW)(h:∀b w',w0.heap.size≤b→Mem S w0 w' (L++[.au b t cs])→∀a,Fr a N (dE env (eo c k) (vP (aZ b)))→br P c K Q (k+1) a w')(hz:(P.info? t).map (fun i=>i.zero.map (fun z=>z.cells.toList))=some (some cs):=by kernel_rfl)(hk:gQ P c N env k=some (eo c k,t):=by kernel_rfl):∀a,Fr a N env→br P c K Q k a w:=by
 intro a hF;unfold gQ at hk;split at hk
 ·rename_i g0;split at hk
  ·rename_i g1 g2;simp only[p5,eh]at hk;obtain⟨e1,rfl⟩:=hk;rw[e1]at g0 g2;exact mL g0 hF g1 g2 rfl hz hM (fun b w' hb _ Np _ a' _ Ec=>h b w' hb Np a' Ec)
  ·cases hk
 ·cases hk
def ig(P:Program)(c:Code)(N:FN)(env:Env)(k:Nat):Option (Option Nat×Nat×Nat×Array Value×Option Nat):=match ao c k with
 |some (d,.store t x y,_,g)=>match bw c g env,iy d N,ev env x,ev env y with
  |some true,true,some (.pointer (some ⟨b,o,none⟩)),some (.agg vs)=>some (d,b,o,vs,tf P t)
  |_,_,_,_=>none
 |_=>none
theorem po(hM:Mem S w0 w L)(i:Nat)(vs:aW){b t0:Nat}{cs:aW}(hi:L[i]?=some (.au b t0 cs))(h:∀w',Mem S w0 w' (L.set i (.au b t0 vs))→∀a,Fr a N (dE env (eo c k) undef)→br P c K Q (k+1) a w')(hv:vs.all Value.oneCell'=true:=by rfl)(ho:cs.length=vs.length:=by rfl)(hk:ig P c N env k=some (eo c k,b,0,vs.toArray,some vs.length):=by kernel_rfl):∀a,Fr a N env→br P c K Q k a w:=by
 intro a hF;unfold ig at hk;split at hk
 ·rename_i g0;split at hk
  ·rename_i g1 g2 g3 g4;simp only[p5,eh]at hk;obtain⟨e1,rfl,rfl,rfl,e5⟩:=hk;rw[e1]at g0 g2;exact fo g0 hF g1 g2 rfl g3 g4 e5 (Qjq.1 hv) hM i hi ho (fun w' Np _ a' _ Ec=>h w' Np a' Ec)
  ·cases hk
 ·cases hk
end
section
variable {P : Program} {c : Code} {K : Act → World → Prop} {Q : Exit → Act → World → Prop} {N : FN} {env0 : Env} {wr : World} {a : Act}
theorem qy(sp:Nat→Spec)(hF:Fr a N env0)(qf:∀i,i<(opsOf c).size→jw P c Q N env0 wr sp i)(h:∀a' w' (vs:Nat→Value),Kp wr w'→(∀j,j<(opsOf c).size→(sp j).ok (vs j) w')→Fr a' N (n8 c sp vs (List.range (opsOf c).size)++rb c env0)→K a' w')(hk:kind c= .region true:=by kernel_rfl)(hm:P.follows .mixedOrders=true:=by kernel_rfl)(hd:kl c=true:=by kernel_rfl)(kT:fF c=true:=by kernel_rfl)(ri:oa env0=true:=by kernel_rfl)(pD:(List.range (opsOf c).size).all (fun i=>iy (eo c i) N)=true:=by kernel_rfl):W P c K Q a wr:=QC hk hm sp hd kT hF ri pD qf h
theorem zK(sp:Nat→Spec)(J:(Nat→Bool)→(Nat→Value)→World→Prop)(hF:Fr a N env0)(CJ:∀j v w w',(sp j).ok v w→(sp j).ok v w')(h0:J (fun _=>false) (fun _=>undef) wr.drew)(qf:∀i,i<(opsOf c).size→rk P c Q N env0 sp J i)(h:∀a' w' (ls:Nat→Bool) (vs:Nat→Value),(∀j,j<(opsOf c).size→ls j=true)→J ls vs w'→(∀j,j<(opsOf c).size→(sp j).ok (vs j) w')→Fr a' N (n8 c sp vs (List.range (opsOf c).size)++rb c env0)→K a' w')(hk:kind c= .region true:=by kernel_rfl)(hm:P.follows .mixedOrders=true:=by kernel_rfl)(hd:kl c=true:=by kernel_rfl)(kT:fF c=true:=by kernel_rfl)(ri:oa env0=true:=by kernel_rfl)(pD:(List.range (opsOf c).size).all (fun i=>iy (eo c i) N)=true:=by kernel_rfl):W P c K Q a wr:=Ml hk hm sp J hd kT hF ri pD CJ h0 qf h
end
section
variable {P : Program} {c : Code} {K : Act → World → Prop} {Q : Exit → Act → World → Prop} {w w0 : World} {S : Nat → Prop} {L : List bo} {k : Nat} {N : FN} {env : Env} {a : Act}
theorem tT(d:Nat)(x y:Operand)(t ty:TypeId)(hF:Fr a N env){e size bytes:Nat}{z:Value}{A B:aX}{n cap m cap':Nat}{xs news:aW}(hM:Mem S w0 w L)(i:Nat)(hL:L[i]?=some (.row e size A n cap xs))(Fh:(bo.rd B news).holds w)(hl:news.length=m*size)(h1:∀u∈news,u.oneCell'=true)(hb:(n+m)*bytes≤140737488355328)(Pt:n+m≤maxLen)(h:∀A' c' w',Mem S w0 w' (L.set i (.row e size A' (n+m) c' (xs++news)))→Mem (bo.row e size A n cap xs).fp w w' [.row e size A' (n+m) c' (xs++news)]→∀a',a'=a.put (some d) (vS A' (n+m) c')→Fr a' N (dE env (some d) (vS A' (n+m) c'))→br P c K Q (k+1) a' w')(hk:ao c k=some (some d,.call {callee:= .builtin .append,args:=#[x,y],argTypes:=#[t,t]},ty,none):=by kernel_rfl)(hd:iy (some d) N=true:=by kernel_rfl)(ht:P.underlying t=some (.slice e):=by kernel_rfl)(hi:(P.info? e).map (fun i=>(i.size,i.bytes,i.zero))=some (size,bytes,some z):=by kernel_rfl)(Ua:Nat.beq z.cells.size size=true:=by kernel_rfl)(jv:Nat.blt 0 size=true:=by kernel_rfl)(hx:ev env x=some (vS A n cap):=by kernel_rfl)(hy:ev env y=some (vS B m cap'):=by kernel_rfl):br P c K Q k a w:=Ac hk hF rfl hd rfl ht hi Ua jv hx hy hM i hL Fh hl h1 hb Pt h
theorem rG(d:Nat)(t:TypeId)(len:Nat)(ps:Array (Nat×Operand))(ty:TypeId)(hF:Fr a N env){e size:Nat}{zs:aW}{vs:List (Nat×Value)}{cs:aW}(hM:Mem S w0 w L)(h:∀b w',w0.heap.size≤b→w.heap.size≤b→Mem S w0 w' (L++[.row e size (some (aZ b)) len len cs])→Mem bK w w' [.row e size (some (aZ b)) len len cs]→∀a',a'=a.put (some d) (vS (some (aZ b)) len len)→Fr a' N (dE env (some d) (vS (some (aZ b)) len len))→br P c K Q (k+1) a' w')(hk:ao c k=some (some d,.buildSlice t len ps,ty,none):=by kernel_rfl)(hd:iy (some d) N=true:=by kernel_rfl)(ht:P.underlying t=some (.slice e):=by kernel_rfl)(hi:(P.info? e).map (fun i=>(i.size,i.zero.map (·.cells.toList)))=some (size,some zs):=by kernel_rfl)(hp:parts env ps.toList=some vs:=by kernel_rfl)(jv:(Nat.ble 1 (len*size)&&Nat.ble (len*size) 1000)=true:=by kernel_rfl)(HM:Instr.fill (fun i=>some (i*size,size)) ((Array.range (len*size)).map (zs.toArray[· % zs.toArray.size]!)) vs=some cs.toArray:=by kernel_rfl)(hl:Nat.beq cs.length (len*size)=true:=by kernel_rfl):br P c K Q k a w:=th hk hF rfl hd rfl ht hi hp jv HM hl hM h
theorem I9(d:Nat)(t:TypeId)(x y:Operand)(ty:TypeId)(hF:Fr a N env){e bytes:Nat}{z:Value}{n:Nat}{i:Int}(hb:bytes*n≤140737488355328)(hl:n≤maxLen)(hM:Mem S w0 w L)(h:∀b w',w0.heap.size≤b→w.heap.size≤b→Mem S w0 w' (L++[.row e 1 (some (aZ b)) n n (List.replicate n z)])→Mem bK w w' [.row e 1 (some (aZ b)) n n (List.replicate n z)]→∀a',a'=a.put (some d) (vS (some (aZ b)) n n)→Fr a' N (dE env (some d) (vS (some (aZ b)) n n))→br P c K Q (k+1) a' w')(hk:ao c k=some (some d,.makeSlice t x y,ty,none):=by kernel_rfl)(hd:iy (some d) N=true:=by kernel_rfl)(hx:ev env x=some (vI i):=by kernel_rfl)(hy:ev env y=some (vI i):=by kernel_rfl)(hn:i=(n:Int):=by rfl)(ht:P.underlying t=some (.slice e):=by kernel_rfl)(hi:(P.info? e).map (fun i=>(i.size,i.bytes,i.zero))=some (1,bytes,some z):=by kernel_rfl)(hz:z.oneCell'=true:=by rfl):br P c K Q k a w:=qa hk hF rfl hd rfl hx hy hn ht hi hz hb hl hM h
end
theorem rY{p:Nat→Prop}{n:Nat}(h:∀i,i<n→p i)(h0:p n)(h1:p (n+1)):∀i,i<n+2→p i:=la (la h h0) h1
theorem pw{p:Nat→Prop}{n:Nat}(h:∀i,i<n→p i)(h0:p n)(h1:p (n+1))(h2:p (n+2)):∀i,i<n+3→p i:=la (la (la h h0) h1) h2
theorem Cu{p:Nat→Prop}{n:Nat}(h:∀i,i<n→p i)(h0:p n)(h1:p (n+1))(h2:p (n+2))(h3:p (n+3))(h4:p (n+4)):∀i,i<n+5→p i:=la (la (la (la (la h h0) h1) h2) h3) h4
theorem tZ{p:Nat→Prop}{n:Nat}(h:∀i,i<n→p i)(h0:p n)(h1:p (n+1))(h2:p (n+2))(h3:p (n+3))(h4:p (n+4))(h5:p (n+5))(h6:p (n+6))(h7:p (n+7)):∀i,i<n+8→p i:=la (la (la (la (la (la (la (la h h0) h1) h2) h3) h4) h5) h6) h7
theorem gE{p:Nat→Prop}{n:Nat}(h:∀i,i<n→p i)(h0:p n)(h1:p (n+1))(h2:p (n+2))(h3:p (n+3))(h4:p (n+4))(h5:p (n+5))(h6:p (n+6))(h7:p (n+7))(h8:p (n+8))(h9:p (n+9))(QV:p (n+10))(Uq:p (n+11)):∀i,i<n+12→p i:=la (la (la (la (la (la (la (la (la (la (la (la h h0) h1) h2) h3) h4) h5) h6) h7) h8) h9) QV) Uq
section
variable{P:Program}{c:Code}{Q:Exit→Act→World→Prop}{N:FN}{env0:Env}{wr:World}{sp:Nat→Spec}{n:Nat}
theorem k1_(h:∀i,i<n→jw P c Q N env0 wr sp i)(h1:sp n= .bG undef)(h2:∀vs,Al c n (bM c n sp vs env0)=some false):∀i,i<n+1→jw P c Q N env0 wr sp i:=la h (dK h1 h2)
theorem ue(h:∀i,i<n→jw P c Q N env0 wr sp i)(a0:sp (n+0)= .bG undef:=by rfl)(b0:∀vs,Al c (n+0) (bM c (n+0) sp vs env0)=some false:=by intro _;kernel_rfl)(a1:sp (n+1)= .bG undef:=by rfl)(b1:∀vs,Al c (n+1) (bM c (n+1) sp vs env0)=some false:=by intro _;kernel_rfl):∀i,i<n+2→jw P c Q N env0 wr sp i:=la (la (h) (dK a0 b0)) (dK a1 b1)
theorem Xu(h:∀i,i<n→jw P c Q N env0 wr sp i)(a0:sp (n+0)= .bG undef:=by rfl)(b0:∀vs,Al c (n+0) (bM c (n+0) sp vs env0)=some false:=by intro _;kernel_rfl)(a1:sp (n+1)= .bG undef:=by rfl)(b1:∀vs,Al c (n+1) (bM c (n+1) sp vs env0)=some false:=by intro _;kernel_rfl)(a2:sp (n+2)= .bG undef:=by rfl)(b2:∀vs,Al c (n+2) (bM c (n+2) sp vs env0)=some false:=by intro _;kernel_rfl)(a3:sp (n+3)= .bG undef:=by rfl)(b3:∀vs,Al c (n+3) (bM c (n+3) sp vs env0)=some false:=by intro _;kernel_rfl):∀i,i<n+4→jw P c Q N env0 wr sp i:=la (la (la (la (h) (dK a0 b0)) (dK a1 b1)) (dK a2 b2)) (dK a3 b3)
theorem J3(h:∀i,i<n→jw P c Q N env0 wr sp i)(a0:sp (n+0)= .bG undef:=by rfl)(b0:∀vs,Al c (n+0) (bM c (n+0) sp vs env0)=some false:=by intro _;kernel_rfl)(a1:sp (n+1)= .bG undef:=by rfl)(b1:∀vs,Al c (n+1) (bM c (n+1) sp vs env0)=some false:=by intro _;kernel_rfl)(a2:sp (n+2)= .bG undef:=by rfl)(b2:∀vs,Al c (n+2) (bM c (n+2) sp vs env0)=some false:=by intro _;kernel_rfl)(a3:sp (n+3)= .bG undef:=by rfl)(b3:∀vs,Al c (n+3) (bM c (n+3) sp vs env0)=some false:=by intro _;kernel_rfl)(a4:sp (n+4)= .bG undef:=by rfl)(b4:∀vs,Al c (n+4) (bM c (n+4) sp vs env0)=some false:=by intro _;kernel_rfl)(a5:sp (n+5)= .bG undef:=by rfl)(b5:∀vs,Al c (n+5) (bM c (n+5) sp vs env0)=some false:=by intro _;kernel_rfl)(a6:sp (n+6)= .bG undef:=by rfl)(b6:∀vs,Al c (n+6) (bM c (n+6) sp vs env0)=some false:=by intro _;kernel_rfl)(a7:sp (n+7)= .bG undef:=by rfl)(b7:∀vs,Al c (n+7) (bM c (n+7) sp vs env0)=some false:=by intro _;kernel_rfl):∀i,i<n+8→jw P c Q N env0 wr sp i:=la (la (la (la (la (la (la (la (h) (dK a0 b0)) (dK a1 b1)) (dK a2 b2)) (dK a3 b3)) (dK a4 b4)) (dK a5 b5)) (dK a6 b6)) (dK a7 b7)
theorem k16_(h:∀i,i<n→jw P c Q N env0 wr sp i)(a0:sp (n+0)= .bG undef:=by rfl)(b0:∀vs,Al c (n+0) (bM c (n+0) sp vs env0)=some false:=by intro _;kernel_rfl)(a1:sp (n+1)= .bG undef:=by rfl)(b1:∀vs,Al c (n+1) (bM c (n+1) sp vs env0)=some false:=by intro _;kernel_rfl)(a2:sp (n+2)= .bG undef:=by rfl)(b2:∀vs,Al c (n+2) (bM c (n+2) sp vs env0)=some false:=by intro _;kernel_rfl)(a3:sp (n+3)= .bG undef:=by rfl)(b3:∀vs,Al c (n+3) (bM c (n+3) sp vs env0)=some false:=by intro _;kernel_rfl)(a4:sp (n+4)= .bG undef:=by rfl)(b4:∀vs,Al c (n+4) (bM c (n+4) sp vs env0)=some false:=by intro _;kernel_rfl)(a5:sp (n+5)= .bG undef:=by rfl)(b5:∀vs,Al c (n+5) (bM c (n+5) sp vs env0)=some false:=by intro _;kernel_rfl)(a6:sp (n+6)= .bG undef:=by rfl)(b6:∀vs,Al c (n+6) (bM c (n+6) sp vs env0)=some false:=by intro _;kernel_rfl)(a7:sp (n+7)= .bG undef:=by rfl)(b7:∀vs,Al c (n+7) (bM c (n+7) sp vs env0)=some false:=by intro _;kernel_rfl)(a8:sp (n+8)= .bG undef:=by rfl)(b8:∀vs,Al c (n+8) (bM c (n+8) sp vs env0)=some false:=by intro _;kernel_rfl)(a9:sp (n+9)= .bG undef:=by rfl)(b9:∀vs,Al c (n+9) (bM c (n+9) sp vs env0)=some false:=by intro _;kernel_rfl)(jG:sp (n+10)= .bG undef:=by rfl)(eF:∀vs,Al c (n+10) (bM c (n+10) sp vs env0)=some false:=by intro _;kernel_rfl)(a11:sp (n+11)= .bG undef:=by rfl)(jD:∀vs,Al c (n+11) (bM c (n+11) sp vs env0)=some false:=by intro _;kernel_rfl)(a12:sp (n+12)= .bG undef:=by rfl)(ET:∀vs,Al c (n+12) (bM c (n+12) sp vs env0)=some false:=by intro _;kernel_rfl)(a13:sp (n+13)= .bG undef:=by rfl)(Z3:∀vs,Al c (n+13) (bM c (n+13) sp vs env0)=some false:=by intro _;kernel_rfl)(a14:sp (n+14)= .bG undef:=by rfl)(b14:∀vs,Al c (n+14) (bM c (n+14) sp vs env0)=some false:=by intro _;kernel_rfl)(a15:sp (n+15)= .bG undef:=by rfl)(fO:∀vs,Al c (n+15) (bM c (n+15) sp vs env0)=some false:=by intro _;kernel_rfl):∀i,i<n+16→jw P c Q N env0 wr sp i:=la (la (la (la (la (la (la (la (la (la (la (la (la (la (la (la (h) (dK a0 b0)) (dK a1 b1)) (dK a2 b2)) (dK a3 b3)) (dK a4 b4)) (dK a5 b5)) (dK a6 b6)) (dK a7 b7)) (dK a8 b8)) (dK a9 b9)) (dK jG eF)) (dK a11 jD)) (dK a12 ET)) (dK a13 Z3)) (dK a14 b14)) (dK a15 fO)
end
theorem Qp4{S:Nat→Prop}{w0 w:World}(L:List bo)(h:Mem S w0 w L):Mem S w0 w L:=h
theorem Qp3{c:Code}{ls:Nat→Bool}{i:Nat}(j n:Nat)(hc:r7 c ls)(hi:ls i=false)(h:reach c n j i=true:=by kernel_rfl):ls j=false:=az hc hi h
theorem Qp9{c:Code}{ls:Nat→Bool}{i:Nat}(j n:Nat)(hc:r7 c ls)(hp:∀k,k∈cR c i→ls k=true)(h:reach c n i j=true:=by kernel_rfl):ls j=true:=aG hc hp h
theorem Qp8{c:Code}{ls:Nat→Bool}{i:Nat}{R:Nat→Prop}(j n:Nat)(hc:r7 c ls)(hp:∀k,k∈cR c i→ls k=true∧R k)(h:reach c n i j=true:=by kernel_rfl):ls j=true:=aG hc (fun k hk=>(hp k hk).1) h
section
variable{P:Program}{c:Code}{Q:Exit→Act→World→Prop}{N:FN}{env0:Env}{sp:Nat→Spec}{J:(Nat→Bool)→(Nat→Value)→World→Prop}{i:Nat}
theorem Qp5(hJ:∀ls vs v w,J ls vs w→J (mj ls i) (rj vs i v) w:=by intro _ _ _ _ h;exact h)(h:∀vs,Ye P c N i (bM c i sp vs env0)=Tr (sp i):=by intro _;kernel_rfl)(h2:UC (Tr (sp i))=true:=by kernel_rfl):rk P c Q N env0 sp J i:=nk hJ h h2
end
theorem dX(ks:List Nat){N:FN}{env:Env}{G:Act→Prop}(h:∀a,Fr a N (lx ks env)→G a):∀a,Fr a N env→G a:=fun a hF=>h a (hF.keep rfl)
section
variable{P:Program}{c:Code}{K:Act→World→Prop}{Q:Exit→Act→World→Prop}{w:World}{N:FN}{env:Env}{k:Nat}
theorem zl_{ad:Addr}{v:Value}(hc:w.cell? ad=some v)(h:∀a,Fr a N (dE env (eo c k) v)→br P c K Q (k+1) a w)(hk:MG P c N env k=some (eo c k,ad):=by kernel_rfl):∀a,Fr a N env→br P c K Q k a w:=bq ad v hc h hk
end
section
variable{P:Program}{c:Code}{Q:Exit→Act→World→Prop}{N:FN}{i:Nat}{env0:Env}{wr:World}{sp:Nat→Spec}
theorem dl_{ad:Addr}{v:Value}(hc:∀w',Kp wr w'→w'.cell? ad=some v)(hv:sp i= .bG v:=by rfl)(hg:∀vs,Al c i (bM c i sp vs env0)=some true:=by intro _;kernel_rfl)
    (hk:∀vs,MG P (one c i) N (bM c i sp vs env0) 0=some (eo c i,ad):=by intro _;kernel_rfl)(he:ao (one c i) 1=none:=by kernel_rfl):jw P c Q N env0 wr sp i:=dL ad v hc hv hg hk he
end
end Go.Mor
namespace Go.Mor
open Go.RowKit
section
variable {P : Program} {c : Code} {Q : Exit → Act → World → Prop} {N : FN} {env0 : Env} {wr : World} {sp : Nat → Spec} {i : Nat}
theorem dMN(kd:IntKind)(i1 j1 z:Int)(x y:Operand)(ts:Array TypeId)(ty:Nat)(g:Option (Nat×Bool))(hz:z=if j1<i1 then j1 else i1)(hv:sp i= .bG (.int kd z):=by rfl)(h0:ao (one c i) 0=some (eo c i,.call {callee:= .builtin .min,args:=#[x,y],argTypes:=ts},ty,g):=by kernel_rfl)(hg:∀vs,Al c i (bM c i sp vs env0)=some true:=by intro _;kernel_rfl)(h1:∀vs,bw (one c i) g (bM c i sp vs env0)=some true:=by intro _;kernel_rfl)(h2:iy (eo c i) N=true:=by kernel_rfl)(hx:∀vs,ev (bM c i sp vs env0) x=some (.int kd i1):=by intro _;kernel_rfl)(hy:∀vs,ev (bM c i sp vs env0) y=some (.int kd j1):=by intro _;kernel_rfl)(he:ao (one c i) 1=none:=by kernel_rfl):jw P c Q N env0 wr sp i:=by
 refine sY hg (fun w vs hK hp a hF=> ?_);exact Ai h0 hF (h1 vs) h2 rfl (hx vs) (hy vs) z hz (fun a' ea _=>aJ he ⟨_,ea,Kp.refl w,by rw[hv];rfl⟩)
end
end Go.Mor
namespace Go.Mor
open Go.RowKit
end Go.Mor
