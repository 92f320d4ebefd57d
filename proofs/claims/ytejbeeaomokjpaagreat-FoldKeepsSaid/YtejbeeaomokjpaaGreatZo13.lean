/-
  Texts of the proof, part 13.
-/
import Derived.Test.YtejbeeaomokjpaaGreatZo12
import Derived.Test.YtejbeeaomokjpaaGreatChecked
set_option maxRecDepth 10000
open List Go.Mor Go.ChangeShapes Go.WideShapes Go.ChangeAt Go.RowKit Go.Deep Go.Shelf Go.Proofs
open List renaming length -> ae
namespace Go.Proofs.YtejbeeaomokjpaaGreat
theorem Tryz.own:ownKnob Tryz.prog.godebug=none:=kR
theorem Tryz.laidOut:laidOutB Tryz.prog=true:=kR
theorem QjC{α:Type}{cs:List α}(h:ae cs=2):∃c0 c1,cs=[c0,c1]:=by
 match cs,h with
 |[c0,c1],_=>exact⟨c0,c1,rfl⟩
theorem Qe7{α:Type}{cs:List α}(h:ae cs=5):∃c0 c1 c2 c3 c4,cs=[c0,c1,c2,c3,c4]:=by
 match cs,h with
 |[c0,c1,c2,c3,c4],_=>exact⟨c0,c1,c2,c3,c4,rfl⟩
theorem QjD{α:Type}{cs:List α}(h:ae cs=6):∃c0 c1 c2 c3 c4 c5,cs=[c0,c1,c2,c3,c4,c5]:=by
 match cs,h with
 |[c0,c1,c2,c3,c4,c5],_=>exact⟨c0,c1,c2,c3,c4,c5,rfl⟩
def kG{H:Type}(t:TypeId)(d:DataW H):Prop:=∀n,n∈d.weights Tryz.prog t->n<=reachBytes
theorem Wv{a k:Nat}(hk:0<k)(h:a*k<=reachBytes):fg a:=by
 have h1:a*1<=a*k:=Nat.mul_le_mul_left a hk;have h2:=reachBytes_lt;unfold fg;omega
theorem Ks{H:Type}{e:TypeId}{l:List (DataW H)}{d:DataW H}(h:d∈l):∀n,n∈d.weights Tryz.prog e->n∈DataW.weightsAll Tryz.prog e l:=by
 induction l with
 |nil=>cases h
 |cons x l ih=>
  intro n hn;unfold DataW.weightsAll;rcases cG.1 h with rfl|h
  ·exact ej _ hn
  ·exact kF _ (ih h n hn)
section
variable{H:Type}{enc:TypeId × Value -> H}{w:World}{base:Nat}{spare:Nat -> Bool}{held:Bool}
theorem pe{t:TypeId}(ht:Tryz.prog.underlying t=some (.int .i64)){fuel:Nat}{v:Value}{x:DataW H×List MemPlace}(h:DataW.trod enc Tryz.prog w base spare held fuel t [v]=some x):∃n,v=vI n/\In64 n:=by
 obtain⟨n,rfl,h1,h2⟩:=Wh ht h;exact⟨n,rfl,h1,h2⟩
theorem NU{t:TypeId}(ht:Tryz.prog.underlying t=some .string){fuel:Nat}{v:Value}{x:DataW H×List MemPlace}(h:DataW.trod enc Tryz.prog w base spare held fuel t [v]=some x)(hz:kG t x.1):∃s,v=vT s/\fg s.size:=by
 obtain⟨s,h1,h3,_⟩:=DataW.trod_string ht h;simp at h1;subst h3;refine⟨s,h1,Wv (k:=1) Nat.one_pos ?_⟩;have:=hz (ae s.data.toList) (by simp[DataW.weights]);rw[fx];simpa using this
theorem NV{t:TypeId}{fs:Array Field}(hs:Tryz.prog.underlying t=some (.struct fs))(QgD:oneCellFields Tryz.prog fs=true)(hC:Tryz.prog.cellsOf t=fs.size){fuel:Nat}{cs:bh}{x:DataW H×List MemPlace}(h:DataW.trod enc Tryz.prog w base spare held fuel t cs=some x)(hz:kG t x.1):ae cs=fs.size/\∃n:Nat,∀(i:Nat) (f:Field),fs[i]?=some f->∃(v:Value) (y:DataW H×List MemPlace),cs[i]?=some v/\DataW.trod enc Tryz.prog w base spare held n f.type [v]=some y/\kG f.type y.1:=by
 obtain⟨xs,n,_,hxe,hlen,hxs,hf⟩:=DataW.trod_struct hs h;rw[hC]at hlen;refine⟨hlen,n,λi f hi=> ?_⟩;have ir:i<fs.size:=(tA.1 hi).1;obtain⟨ho,hc1⟩:=hone_of QgD i f hi;have h1:=hf i f hi;rw[ho,hc1,take1_drop cs i undef oM]at h1;rw[dF (oM:i<ae xs)]at h1;refine⟨cs[i]'oM,xs[i]'oM,dF oM,?_,λm hm=>hz m ?_⟩
 ·rw[<-h1];simp[List.getD,dF (oM:i<ae cs)]
 ·subst hxe;simp only[DataW.weights,hs];exact xG (j:=i) (by rw[aL];simp[hi]) (by rw[aL,dF oM];rfl) m hm
theorem sa{t e:TypeId}{k:Nat}(ht:Tryz.prog.underlying t=some (.slice e))(hb:Tryz.prog.bytesOf e=k)(hk:0<k){fuel:Nat}{v:Value}{x:DataW H×List MemPlace}(h:DataW.trod enc Tryz.prog w base spare held fuel t [v]=some x)(hz:kG t x.1):∃A len cap,v=vS A len cap/\fg len/\∀i,i<len->∃(ad:Addr) (cs:bh) (n:Nat) (y:DataW H×List MemPlace),A=some ad/\ae cs=Tryz.prog.cellsOf e/\(∀(j:Nat) (v:Value),cs[j]?=some v->w.cell? ((ad.add (i*Tryz.prog.cellsOf e)).add j)=some v)/\DataW.trod enc Tryz.prog w base spare held n e cs=some y/\kG e y.1:=by
 rcases DataW.trod_slice ht h with⟨rP,_⟩|⟨a,len,cap,elems,rest,n,_,rP,hxe,_,_,_,hel,hx,_⟩
 ·simp at rP;subst rP;exact⟨none,0,0,rfl,by simp[fg],λi hi=>absurd hi (eL _)⟩
 ·simp at rP;subst rP;subst hxe;have hw:∀m,m∈ae (elems.map (·.1))*0::DataW.weightsAll Tryz.prog e (elems.map (·.1))->m<=reachBytes:=by
   intro m hm;rcases cG.1 hm with rfl|hm
   ·omega
   ·refine hz m ?_;simp only[DataW.weights,ht];exact cr _ (ej _ hm)
  refine⟨some a,len,cap,rfl,?_,λi hi=> ?_⟩
  ·have h1:=hz ((ae (elems.map (·.1))+ae (rest.map (·.1)))*Tryz.prog.bytesOf e) (by simp only[DataW.weights,ht];exact cK);rw[hb,bl,bl,hel]at h1;exact Wv hk (iz (Nat.mul_le_mul_right k (Nat.le_add_right _ _)) h1)
  ·have h1:=hx i hi;rw[dF (oM:i<ae elems)]at h1;cases hc:w.cells? base (a.add (i*Tryz.prog.cellsOf e)) (Tryz.prog.cellsOf e)with
   |none=>rw[hc]at h1;cases h1
   |some cs=>
    rw[hc]at h1;obtain⟨_,hlen,sQ⟩:=World.cells?_some hc;refine⟨a,cs,n,elems[i]'oM,rfl,hlen,λj v hj=> ?_,h1,λm hm=>hw m (cr _ (Ks (d:=(elems[i]'oM).1) ?_ m hm))⟩
    ·rw[sQ j (by have:=(aW.1 hj).1;omega)];exact hj
    ·exact aO.2 ⟨elems[i]'oM,p7 _,rfl⟩
theorem nJ{t e:TypeId}{k:Nat}{fs:Array Field}(ht:Tryz.prog.underlying t=some (.slice e))(hs:Tryz.prog.underlying e=some (.struct fs))(QgD:oneCellFields Tryz.prog fs=true)(hC:Tryz.prog.cellsOf e=fs.size)(hb:Tryz.prog.bytesOf e=k)(hk:0<k){fuel:Nat}{v:Value}{x:DataW H×List MemPlace}(h:DataW.trod enc Tryz.prog w base spare held fuel t [v]=some x)(hz:kG t x.1):∃A len cap,v=vS A len cap/\fg len/\∀i,i<len->∃(ad:Addr) (cs:bh),A=some ad/\ae cs=fs.size/\(∀(j:Nat) (v:Value),cs[j]?=some v->w.cell? ((ad.add (i*fs.size)).add j)=some v)/\∃n:Nat,∀(j:Nat) (f:Field),fs[j]?=some f->∃(v:Value) (y:DataW H×List MemPlace),cs[j]?=some v/\DataW.trod enc Tryz.prog w base spare held n f.type [v]=some y/\kG f.type y.1:=by
 obtain⟨A,len,cap,rfl,hl,hx⟩:=sa ht hb hk h hz;refine⟨A,len,cap,rfl,hl,λi hi=> ?_⟩;obtain⟨ad,cs,n,y,hA,hlen,hc,Ge,hy⟩:=hx i hi;rw[hC]at hlen hc;exact⟨ad,cs,hA,hlen,hc,(NV hs QgD hC Ge hy).2⟩
theorem Gf{fuel:Nat}{v:Value}{x:DataW H×List MemPlace}(h:DataW.trod enc Tryz.prog w base spare held fuel 43 [v]=some x)(hz:kG 43 x.1):∃A l c,v=vS A (List.length l) c/\fg (ae l)/\(∀x,x∈l->In64 x)/\(bD.rd A (ints l)).holds w:=by
 obtain⟨A,len,cap,rfl,hl,hx⟩:=sa (k:=8) Tryz.underlying43 kR oM h hz;have c3:Tryz.prog.cellsOf 3=1:=kR;have:∀i,i<len->∃k:Int,In64 k/\∃ad,A=some ad/\w.cell? (ad.add i)=some (vI k):=by
  intro i hi;obtain⟨ad,cs,n,y,hA,hlen,hc,Ge,_⟩:=hx i hi;rw[c3]at hlen hc;match cs,hlen with
  |[c0],_=>
   obtain⟨k,rfl,hk⟩:=pe Tryz.underlying3 Ge;refine⟨k,hk,ad,hA,?_⟩;have h0:=hc 0 _ rfl;rw[fx]at h0;simpa[Addr.add]using h0
 obtain⟨l,rfl,hp⟩:=rZ this;refine⟨A,l,cap,rfl,hl,λk hk=> ?_,λi v hi=> ?_⟩
 ·obtain⟨i,hi⟩:=bq.1 hk;exact(hp i k hi).1
 ·simp only[ints,aL,jJ]at hi;obtain⟨k,hk,rfl⟩:=hi;exact(hp i k hk).2
theorem Sr{fuel:Nat}{v:Value}{x:DataW H×List MemPlace}(h:DataW.trod enc Tryz.prog w base spare held fuel 47 [v]=some x)(hz:kG 47 x.1):∃A l c,v=vS A (List.length l) c/\fg (ae l)/\(∀p:cV,p∈l->p.Ok/\(bD.rd p.A (ints p.args)).holds w)/\(bD.qU A 2 (l.map cV.cells)).holds w:=by
 obtain⟨A,len,cap,rfl,hl,hx⟩:=nJ (k:=32) Tryz.underlying47 Tryz.underlying100 kR kR kR oM h hz;have:∀i,i<len->∃b:cV,(b.Ok/\(bD.rd b.A (ints b.args)).holds w)/\∃ad:Addr,A=some ad/\∀(j:Nat) (v:Value),b.cells[j]?=some v->w.cell? ((ad.add (i*2)).add j)=some v:=by intro i hi;obtain⟨ad,cs,hA,Ss,hc,n,hf⟩:=hx i hi;obtain⟨c0,c1,rfl⟩:=QjC Ss;obtain⟨_,_,e,g0,zg0⟩:=hf 0 _ rfl;cases e;obtain⟨d,rfl,hd⟩:=pe Tryz.underlying3 g0;obtain⟨_,_,e,g1,zg1⟩:=hf 1 _ rfl;cases e;obtain⟨Aa,gs,ca,rfl,h1,h2,h3⟩:=Gf g1 zg1;exact⟨⟨d,Aa,ca,gs⟩,⟨⟨hd,h1,h2⟩,h3⟩,ad,hA,hc⟩
 obtain⟨l,rfl,hp⟩:=rZ this;refine⟨A,l,cap,rfl,hl,λp j8=> ?_,λi cs hi=> ?_⟩
 ·obtain⟨i,hi⟩:=bq.1 j8;exact(hp i p hi).1
 ·rw[aL]at hi;obtain⟨b,hb,rfl⟩:=jJ.1 hi;exact(hp i b hb).2
theorem NX{fuel:Nat}{v:Value}{x:DataW H×List MemPlace}(h:DataW.trod enc Tryz.prog w base spare held fuel 46 [v]=some x)(hz:kG 46 x.1):∃A l c,v=vS A (List.length l) c/\fg (ae l)/\(∀p:aQ,p∈l->p.Ok/\(bD.rd p.A (ints p.args)).holds w)/\(bD.qU A 5 (l.map aQ.cells)).holds w:=by
 obtain⟨A,len,cap,rfl,hl,hx⟩:=nJ (k:=64) Tryz.underlying46 Tryz.underlying45 kR kR kR oM h hz;have:∀i,i<len->∃b:aQ,(b.Ok/\(bD.rd b.A (ints b.args)).holds w)/\∃ad:Addr,A=some ad/\∀(j:Nat) (v:Value),b.cells[j]?=some v->w.cell? ((ad.add (i*5)).add j)=some v:=by intro i hi;obtain⟨ad,cs,hA,Ss,hc,n,hf⟩:=hx i hi;obtain⟨c0,c1,c2,c3,c4,rfl⟩:=Qe7 Ss;obtain⟨_,_,e,g0,zg0⟩:=hf 0 _ rfl;cases e;obtain⟨o,rfl,ho⟩:=pe Tryz.underlying3 g0;obtain⟨_,_,e,g1,zg1⟩:=hf 1 _ rfl;cases e;obtain⟨d,rfl,hd⟩:=pe Tryz.underlying3 g1;obtain⟨_,_,e,g2,zg2⟩:=hf 2 _ rfl;cases e;obtain⟨m,rfl,Wb⟩:=pe Tryz.underlying2 g2;obtain⟨_,_,e,g3,zg3⟩:=hf 3 _ rfl;cases e;obtain⟨s,rfl,hs⟩:=NU Tryz.underlying9 g3 zg3;obtain⟨_,_,e,g4,zg4⟩:=hf 4 _ rfl;cases e;obtain⟨Aa,gs,ca,rfl,h1,h2,h3⟩:=Gf g4 zg4;exact⟨⟨o,d,m,s,Aa,ca,gs⟩,⟨⟨ho,hd,Wb,hs,h1,h2⟩,h3⟩,ad,hA,hc⟩
 obtain⟨l,rfl,hp⟩:=rZ this;refine⟨A,l,cap,rfl,hl,λp j8=> ?_,λi cs hi=> ?_⟩
 ·obtain⟨i,hi⟩:=bq.1 j8;exact(hp i p hi).1
 ·rw[aL]at hi;obtain⟨b,hb,rfl⟩:=jJ.1 hi;exact(hp i b hb).2
theorem NY{fuel:Nat}{v:Value}{x:DataW H×List MemPlace}(h:DataW.trod enc Tryz.prog w base spare held fuel 28 [v]=some x)(hz:kG 28 x.1):∃A fs c,v=vS A (ae (au fs)) c/\rH fs/\(bD.fn A fs).holds w:=by
 obtain⟨A,len,cap,rfl,_,hx⟩:=nJ (k:=80) Tryz.underlying28 Tryz.underlying49 kR kR kR oM h hz;have:∀i,i<len->∃b:aG,(b.Ok/\∀r,r∈b.parts->r.holds w)/\∃ad:Addr,A=some ad/\∀(j:Nat) (v:Value),b.sb.cells[j]?=some v->w.cell? ((ad.add (i*6)).add j)=some v:=by
  intro i hi;obtain⟨ad,cs,hA,Ss,hc,n,hf⟩:=hx i hi;obtain⟨c0,c1,c2,c3,c4,c5,rfl⟩:=QjD Ss;obtain⟨_,_,e,g0,zg0⟩:=hf 0 _ rfl;cases e;obtain⟨pA,ps,pc,rfl,hp1,hp2,pU⟩:=Sr g0 zg0;obtain⟨_,_,e,g1,zg1⟩:=hf 1 _ rfl;cases e;obtain⟨iA,js,ic,rfl,hi1,hi2,hi3⟩:=NX g1 zg1;obtain⟨_,_,e,g2,zg2⟩:=hf 2 _ rfl;cases e;obtain⟨x2,rfl,h2⟩:=pe Tryz.underlying3 g2;obtain⟨_,_,e,g3,zg3⟩:=hf 3 _ rfl;cases e;obtain⟨x3,rfl,h3⟩:=pe Tryz.underlying3 g3;obtain⟨_,_,e,g4,zg4⟩:=hf 4 _ rfl;cases e;obtain⟨x4,rfl,h4⟩:=pe Tryz.underlying3 g4;obtain⟨_,_,e,g5,zg5⟩:=hf 5 _ rfl;cases e;obtain⟨x5,rfl,h5⟩:=pe Tryz.underlying3 g5;refine⟨⟨pA,pc,ps,iA,ic,js,x2,x3,x4,x5⟩,⟨⟨hp1,λp hp=>(hp2 p hp).1,hi1,λp hp=>(hi2 p hp).1,h2,h3,h4,h5⟩,λr hr=> ?_⟩,ad,hA,hc⟩;unfold aG.parts at hr;rcases cG.1 hr with rfl|hr
  ·exact pU
  ·rcases cG.1 hr with rfl|hr
   ·exact hi3
   ·rcases bV.1 hr with hr|hr
    ·obtain⟨p,hp,rfl⟩:=aO.1 hr;exact(hp2 p hp).2
    ·obtain⟨p,hp,rfl⟩:=aO.1 hr;exact(hi2 p hp).2
 obtain⟨fs,rfl,Ww⟩:=rZ this;refine⟨A,fs,cap,by rw[bM],λx hx=> ?_,λr hr=> ?_⟩
 ·obtain⟨i,hi⟩:=bq.1 hx;exact(Ww i x hi).1.1
 ·rcases cG.1 hr with rfl|hr
  ·intro i cs hi;unfold au at hi;rw[aL,aL]at hi;obtain⟨b,hb,rfl⟩:=jJ.1 hi;obtain⟨y,hy,rfl⟩:=jJ.1 hb;exact(Ww i y hy).2
  ·obtain⟨y,hy,hr⟩:=fG.1 hr;obtain⟨i,hi⟩:=bq.1 hy;exact(Ww i y hi).1.2 r hr
end
def Tryz.U9:Go.Shelf.Ren:=⟨fun|6=>114|15=>130|14=>129|28=>144|29=>145|20=>136|21=>137|22=>138|23=>139|24=>140|25=>141|26=>142|27=>143|46=>152|47=>153|48=>154|49=>155|50=>156|57=>159|n=>n,fun|22=>43|24=>3|25=>171|3=>3|39=>194|0=>0|53=>206|55=>191|4=>4|46=>200|45=>199|50=>185|5=>5|9=>9|66=>213|70=>217|76=>219|77=>176|n=>n,fun|n=>n⟩
theorem Tryz.Hc:Go.Proofs.SlLaysF.n6 Tryz.prog Tryz.U9:={
 mixed:=(by kernel_rfl)
 f6:=⟨Tryz.f114.name,by decide,Tryz.func114.trans (congrArg some (by kernel_rfl))⟩
 f14:=⟨Tryz.f129.name,by decide,Tryz.func129.trans (congrArg some (by kernel_rfl))⟩
 f15:=Tryz.func130.trans (congrArg some (by kernel_rfl))
 f20:=⟨Tryz.f136.name,by decide,Tryz.func136.trans (congrArg some (by kernel_rfl))⟩
 f21:=⟨Tryz.f137.name,by decide,Tryz.func137.trans (congrArg some (by kernel_rfl))⟩
 f22:=⟨Tryz.f138.name,by decide,Tryz.func138.trans (congrArg some (by kernel_rfl))⟩
 f23:=⟨Tryz.f139.name,by decide,Tryz.func139.trans (congrArg some (by kernel_rfl))⟩
 f24:=⟨Tryz.f140.name,by decide,Tryz.func140.trans (congrArg some (by kernel_rfl))⟩
 f25:=⟨Tryz.f141.name,by decide,Tryz.func141.trans (congrArg some (by kernel_rfl))⟩
 f26:=⟨Tryz.f142.name,by decide,Tryz.func142.trans (congrArg some (by kernel_rfl))⟩
 f27:=⟨Tryz.f143.name,by decide,Tryz.func143.trans (congrArg some (by kernel_rfl))⟩
 f28:=Tryz.func144.trans (congrArg some (by kernel_rfl))
 f29:=Tryz.func145.trans (congrArg some (by kernel_rfl))
 f46:=⟨Tryz.f152.name,by decide,Tryz.func152.trans (congrArg some (by kernel_rfl))⟩
 f47:=Tryz.func153.trans (congrArg some (by kernel_rfl))
 f48:=Tryz.func154.trans (congrArg some (by kernel_rfl))
 f49:=⟨Tryz.f155.name,by decide,Tryz.func155.trans (congrArg some (by kernel_rfl))⟩
 f50:=⟨Tryz.f156.name,by decide,Tryz.func156.trans (congrArg some (by kernel_rfl))⟩
 f57:=⟨Tryz.f159.name,by decide,Tryz.func159.trans (congrArg some (by kernel_rfl))⟩
 t0:=Tryz.underlying0
 a0:=Tryz.isAgg0
 z0:=Tryz.sizeOf0
 v0:=Tryz.zeroValue0
 t3:=Tryz.underlying3
 a3:=Tryz.isAgg3
 z3:=Tryz.sizeOf3
 v3:=Tryz.zeroValue3
 t4:=Tryz.underlying4
 a4:=Tryz.isAgg4
 z4:=Tryz.sizeOf4
 v4:=Tryz.zeroValue4
 t5:=Tryz.underlying5
 a5:=Tryz.isAgg5
 z5:=Tryz.sizeOf5
 v5:=Tryz.zeroValue5
 t9:=Tryz.underlying9
 a9:=Tryz.isAgg9
 z9:=Tryz.sizeOf9
 v9:=Tryz.zeroValue9
 t22:=Tryz.underlying43
 a22:=Tryz.isAgg43
 z22:=Tryz.sizeOf43
 v22:=Tryz.zeroValue43
 a24:=Tryz.isAgg3
 z24:=Tryz.sizeOf3
 t25:=Tryz.underlying171
 a25:=Tryz.isAgg171
 z25:=Tryz.sizeOf171
 v25:=Tryz.zeroValue171
 t39:=Tryz.underlying194
 a39:=Tryz.isAgg194
 z39:=Tryz.sizeOf194
 v39:=Tryz.zeroValue194
 t45:=Tryz.underlying199
 a45:=Tryz.isAgg199
 z45:=Tryz.sizeOf199
 v45:=Tryz.zeroValue199
 t46:=Tryz.underlying200
 a46:=Tryz.isAgg200
 z46:=Tryz.sizeOf200
 v46:=Tryz.zeroValue200
 t50:=Tryz.underlying185
 a50:=Tryz.isAgg185
 z50:=Tryz.sizeOf185
 v50:=Tryz.zeroValue185
 t53:=Tryz.underlying206
 a53:=Tryz.isAgg206
 z53:=Tryz.sizeOf206
 v53:=Tryz.zeroValue206
 t55:=Tryz.underlying191
 a55:=Tryz.isAgg191
 z55:=Tryz.sizeOf191
 v55:=Tryz.zeroValue191
 t66:=Tryz.underlying213
 a66:=Tryz.isAgg213
 z66:=Tryz.sizeOf213
 v66:=Tryz.zeroValue213
 t70:=Tryz.underlying217
 a70:=Tryz.isAgg217
 z70:=Tryz.sizeOf217
 v70:=Tryz.zeroValue217
 t76:=Tryz.underlying219
 a76:=Tryz.isAgg219
 z76:=Tryz.sizeOf219
 v76:=Tryz.zeroValue219
 t77:=Tryz.underlying176
 a77:=Tryz.isAgg176
 z77:=Tryz.sizeOf176
 v77:=Tryz.zeroValue176}
section
variable{H:Type}{enc:TypeId × Value -> H}{w:World}{base:Nat}{spare:Nat -> Bool}{held:Bool}
theorem Vh{t e:TypeId}(ht:Tryz.prog.underlying t=some (.slice e)){fuel:Nat}{A:ar}{len cap:Nat}{x:DataW H×List MemPlace}(h:DataW.trod enc Tryz.prog w base spare held fuel t [.slice A len cap]=some x):len<=cap:=by
 rcases DataW.trod_slice ht h with⟨rP,_⟩|⟨a,Qjr,cap',elems,rest,n,_,rP,_,_,hl,_,_,_,_,_⟩
 ·simp at rP;omega
 ·simp at rP;obtain⟨_,rfl,rfl⟩:=rP;exact hl
theorem Qe6{t:TypeId}(ht:Tryz.prog.underlying t=some (.int .u8)){fuel:Nat}{v:Value}{x:DataW H×List MemPlace}(h:DataW.trod enc Tryz.prog w base spare held fuel t [v]=some x):∃n,v= .int .u8 n/\0<=n/\n<=255:=by
 obtain⟨n,rfl,h1,h2⟩:=Wh ht h;exact⟨n,rfl,h1,h2⟩
theorem Qj{r:Reach}{b0:Nat}{v:Value}{d:DataW H}{p:List MemPlace}(kC:Value.okWide Tryz.prog w r b0 24 v)(h:DataW.Trod enc Tryz.prog w base spare held 24 v d p)(hz:kG 24 d):
  ∃A l c,v=vS A (List.length l) c/\fg (ae l)/\ae l<=c/\(∀b,b∈l->0<=b/\b<=255)/\(bD.rd A (vK l)).holds w:=by
 obtain⟨A,len,cap,rfl⟩:=okWide_slice Tryz.underlying24 kC
 obtain⟨fuel,h⟩:=h
 have Uh:=Vh Tryz.underlying24 h
 obtain⟨A',Qjr,cap',e,hl,hx⟩:=sa (k:=1) Tryz.underlying24 kR oM (v:=vS A len cap) h hz
 injection e with e1 e2 e3
 subst e1 e2 e3
 have c3:Tryz.prog.cellsOf 5=1:=kR
 have:∀i,i<len->∃k:Int,(0<=k/\k<=255)/\∃ad,A=some ad/\w.cell? (ad.add i)=some (.int .u8 k):=by
  intro i hi
  obtain⟨ad,cs,n,y,hA,hlen,hc,Ge,_⟩:=hx i hi
  rw[c3]at hlen hc
  match cs,hlen with
  |[c0],_=>
   obtain⟨k,rfl,hk⟩:=Qe6 Tryz.underlying5 Ge
   refine⟨k,hk,ad,hA,?_⟩
   have h0:=hc 0 _ rfl
   rw[fx]at h0
   simpa[Addr.add]using h0
 obtain⟨l,rfl,hp⟩:=rZ this
 refine⟨A,l,cap,rfl,hl,Uh,λk hk=> ?_,λi v hi=> ?_⟩
 ·obtain⟨i,hi⟩:=bq.1 hk
  exact(hp i k hi).1
 ·simp only[vK,aL,jJ]at hi
  obtain⟨k,hk,rfl⟩:=hi
  exact(hp i k hk).2
theorem open_strs{r:Reach}{b0:Nat}{v:Value}{d:DataW H}{p:List MemPlace}(kC:Value.okWide Tryz.prog w r b0 23 v)(h:DataW.Trod enc Tryz.prog w base spare held 23 v d p)(hz:kG 23 d):
  ∃A l c,v=vS A (List.length l) c/\fg (ae l)/\(bD.rd A (l.map Value.string)).holds w:=by
 obtain⟨A,len,cap,rfl⟩:=okWide_slice Tryz.underlying23 kC
 obtain⟨fuel,h⟩:=h
 obtain⟨A',Qjr,cap',e,hl,hx⟩:=sa (k:=16) Tryz.underlying23 kR oM (v:=vS A len cap) h hz
 injection e with e1 e2 e3
 subst e1 e2 e3
 have c3:Tryz.prog.cellsOf 9=1:=kR
 have:∀i,i<len->∃k:bo,True/\∃ad,A=some ad/\w.cell? (ad.add i)=some (vT k):=by
  intro i hi
  obtain⟨ad,cs,n,y,hA,hlen,hc,Ge,hy⟩:=hx i hi
  rw[c3]at hlen hc
  match cs,hlen with
  |[c0],_=>
   obtain⟨k,rfl,_⟩:=NU Tryz.underlying9 Ge hy
   refine⟨k,trivial,ad,hA,?_⟩
   have h0:=hc 0 _ rfl
   rw[fx]at h0
   simpa[Addr.add]using h0
 obtain⟨l,rfl,hp⟩:=rZ this
 refine⟨A,l,cap,rfl,hl,λi v hi=> ?_⟩
 simp only[aL,jJ]at hi
 obtain⟨k,hk,rfl⟩:=hi
 exact(hp i k hk).2
theorem Qbg{r:Reach}{b0:Nat}{v:Value}{d:DataW H}{p:List MemPlace}(kC:Value.okWide Tryz.prog w r b0 22 v)(h:DataW.Trod enc Tryz.prog w base spare held 22 v d p)(hz:kG 22 d):
  ∃A l c,v=vS A (List.length l) c/\fg (ae l)/\(bD.qU A 5 (l.map eY.cells)).holds w/\∀x:eY,x∈l->rH x.bF/\(bD.fn x.A x.bF).holds w:=by
 obtain⟨A,len,cap,rfl⟩:=okWide_slice Tryz.underlying22 kC
 obtain⟨fuel,h⟩:=h
 obtain⟨A',Qjr,cap',e,hl,hx⟩:=nJ (k:=64) Tryz.underlying22 Tryz.underlying30 kR kR kR oM (v:=vS A len cap) h hz
 injection e with e1 e2 e3
 subst e1 e2 e3
 have:∀i,i<len->∃b:eY,(rH b.bF/\(bD.fn b.A b.bF).holds w)/\∃ad:Addr,A=some ad/\∀(j:Nat) (v:Value),b.cells[j]?=some v->w.cell? ((ad.add (i*5)).add j)=some v:=by
  intro i hi
  obtain⟨ad,cs,hA,Ss,hc,n,hf⟩:=hx i hi
  obtain⟨c0,c1,c2,c3,c4,rfl⟩:=Qe7 Ss
  obtain⟨_,_,e,g0,zg0⟩:=hf 0 _ rfl
  cases e
  obtain⟨nm,rfl,_⟩:=NU Tryz.underlying9 g0 zg0
  obtain⟨_,_,e,g1,zg1⟩:=hf 1 _ rfl
  cases e
  obtain⟨wk,hw,_⟩:=DataW.trod_bool Tryz.underlying4 g1
  simp at hw
  subst hw
  obtain⟨_,_,e,g2,zg2⟩:=hf 2 _ rfl
  cases e
  obtain⟨pa,rfl,_⟩:=pe Tryz.underlying3 g2
  obtain⟨_,_,e,g3,zg3⟩:=hf 3 _ rfl
  cases e
  obtain⟨va,rfl,_⟩:=pe Tryz.underlying3 g3
  obtain⟨_,_,e,g,zg⟩:=hf 4 _ rfl
  cases e
  obtain⟨A,fs,c,rfl,h1,h2⟩:=NY g zg
  exact⟨⟨nm,wk,pa,va,A,c,fs⟩,⟨h1,h2⟩,ad,hA,hc⟩
 obtain⟨l,rfl,hp⟩:=rZ this
 refine⟨A,l,cap,rfl,hl,λi cs hi=> ?_,λx hx=> ?_⟩
 ·rw[aL]at hi
  obtain⟨b,hb,rfl⟩:=jJ.1 hi
  exact(hp i b hb).2
 ·obtain⟨i,hi⟩:=bq.1 hx
  exact(hp i x hi).1
end
end Go.Proofs.YtejbeeaomokjpaaGreat
