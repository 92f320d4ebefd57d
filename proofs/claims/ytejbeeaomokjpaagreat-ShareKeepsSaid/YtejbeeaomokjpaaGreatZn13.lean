/-
  Texts of the proof, part 13.
-/
import Derived.Test.YtejbeeaomokjpaaGreatZn12
import Derived.Scope
set_option maxRecDepth 10000
namespace Go.Mor
open Go.RowKit
end Go.Mor
namespace Go.Mor
open Go.RowKit
theorem kH(l:af)(k:Nat)(v:Int):(ints l).set (k*1) (vI v)=ints (l.set k v):=by rw[Qoz];simp[ints,Qpk]
end Go.Mor
namespace Go.Mor
open Go.RowKit
end Go.Mor
namespace Go.Mor
open Go.RowKit
section
variable {P : Program} {c : Code} {Q : Exit → Act → World → Prop} {N : FN} {i : Nat} {env0 : Env} {wr : World} {sp : Nat → Spec}
theorem Gf{B b:Bool}(hb:B=b)(hv:sp i= .aU (vB B):=by rfl)(h:∀vs,Ul P c N i (bW c i sp vs env0)=some (vB b):=by intro _;kernel_rfl):jc P c Q N env0 wr sp i:=by
 subst hb;exact dP (fun vs=>(h vs).trans (by rw[hv];rfl)) (by rw[hv];rfl)
end
theorem M0{P:Program}{t e:TypeId}(ht:P.underlying t=some (.slice e))(A:ar)(n c:Nat)(w:World):(binOp .eql t (vS A n c) an).run P w= .ok (vB A.isNone) w:=by
 show((do pure (vB (←Op.equal t (vS A n c) an)):Sem Value)).run P w=_;unfold Op.equal Op.maxDepth Op.equalIn;cases A<;>simp[QoH ht]
section
variable {P : Program} {c : Code} {K : Act → World → Prop} {Q : Exit → Act → World → Prop} {w : World} {k : Nat} {N : FN} {env : Env}
theorem Qil(t:TypeId){e:TypeId}(A:ar)(n cp:Nat)(ht:P.underlying t=some (.slice e))(h:∀a,Fr a N (dq env (bp c k) (vB A.isNone))→bz P c K Q (k+1) a w)(hk:Uo c N env k=some (bp c k,.eql,t,.slice A n cp,an):=by kernel_rfl):∀a,Fr a N env→bz P c K Q k a w:=fun a hF=>by
 generalize bp c k=d at h hk;unfold Uo at hk;split at hk
 ·rename_i g0;split at hk
  ·rename_i g1 g2 g3 g4;simp only[Kr,Qaq]at hk;obtain⟨e1,e2,e3,e4,e5⟩:=hk;refine eC g0 hF g1 (by rw[e1]at g2;exact e1▸g2) rfl (fun o ho=> ?_) (by rw[e1];exact fun a' _=>h a');unfold execOp;rw[ho,e2,e3];have hq:∀x y,(eqGuard .eql t x y (vS A n cp) an).run P w= .ok () w:=by intro x y;simp[eqGuard]
   simp only[hF.ev g3,hF.ev g4,e4,e5,Qor,hq,M0 ht,QnS];rfl
  ·cases hk
 ·cases hk
end
end Go.Mor
namespace Go.Mor
open Go.RowKit
def Qim(l:List uA):Nat:=(l.map (fun f=>Xe f.body)).sum
def nF(l:List bE):Nat:=(l.map (fun d=>d.words.length)).sum
def I6(m:cF):Prop:=20000<Qim m.fns∨16384<nF m.cf
instance (m : cF) : Decidable (I6 m) := by unfold I6; infer_instance
def Qal(l:List uA)(j:Nat):Prop:=∀(i:Nat) (f:uA),i<j→l[i]?=some f→fnV f=true∧f.nm∉(l.take i).map (·.nm)
def Rr(l:List bE)(j:Nat):Prop:=∀(i:Nat) (d:bE),i<j→l[i]?=some d→kT d∧d.nm∉(l.take i).map (·.nm)
noncomputable instance (l : List uA) (j : Nat) : Decidable (Qal l j) := Classical.propDecidable _
noncomputable instance (l : List bE) (j : Nat) : Decidable (Rr l j) := Classical.propDecidable _
noncomputable def Qcg(m:cF):Int:=if I6 m then 12 else if Qal m.fns m.fns.length∧Rr m.cf m.cf.length then 0 else 4
theorem DX{l:List bE}{d:bE}(h:d∈l):d.words.length≤nF l:=by
 unfold nF;induction l with
 |nil=>cases h
 |cons x r ih=>
  simp only[QoK,Qpz];rcases Qon.1 h with rfl|h
  ·omega
  ·have:=ih h;omega
end Go.Mor
namespace Go.Mor
open Go.RowKit
end Go.Mor
namespace Go.Mor
open Go.RowKit
def Qin(ms:List cF)(mem:Int)(inp:af)(j:Nat):Prop:=(mem<1∨mem>262144∨(inp.length:Int)>4096)∨∃(i:Nat) (m:cF),i<j∧ms[i]?=some m∧Qcg m≠0
noncomputable instance (ms : List cF) (mem : Int) (inp : List Int) (j : Nat) : Decidable (Qin ms mem inp j) := Classical.propDecidable _
theorem Cl{l:af}{N:Nat}(hn:l.Nodup)(hr:∀x,x∈l→0≤x∧x<(N:Int)):l.length≤N:=by
 have h:=List.Nodup.length_le_of_subset hn (l₂:=(List.range N).map (fun i:Nat=>(i:Int))) (fun x hx=>by obtain⟨h1,h2⟩:=hr x hx;exact Qhz.2 ⟨x.toNat,QoA.2 oM,oM⟩)
 simpa using h
theorem Xh{d:bE}(hq:kT d)(hl:d.words.length≤16384):d.WF:=by
 have hn:(d.refs.map (·.1)).Nodup:=by
  refine QpB.2 fun i j hi hj LY he=> ?_
  have E1:j<d.refs.length:=by simpa using hj
  obtain⟨r,hr⟩:=aM (l:=d.refs) (i:=j) E1;obtain⟨r',hr'⟩:=aM (l:=d.refs) (i:=i) oM;simp only[List.getElem_map]at he;have Wv:r'.1=r.1:=by rw[(List.getElem?_eq_some_iff.1 hr).2.symm,(List.getElem?_eq_some_iff.1 hr').2.symm];exact he
  have:=(hq.1 j r hr).2.2;apply this;rw[←Wv];refine Qhz.2 ⟨r',?_,rfl⟩;exact Qmp.2 ⟨i,by rw[List.getElem?_take_of_lt LY];exact hr'⟩
 have hr:∀x,x∈d.refs.map (·.1)→0≤x∧x<(d.words.length:Int):=fun x hx=>by obtain⟨r,hr,rfl⟩:=Qhz.1 hx;obtain⟨i,hi⟩:=Qmp.1 hr;exact(hq.1 i r hi).2.1
 refine⟨hq.2,hl,?_,fun r hr=> ?_⟩
 ·have:=Cl hn hr;rw[QlO]at this;omega
 ·obtain⟨i,hi⟩:=Qmp.1 hr;exact(hq.1 i r hi).2.1
end Go.Mor
namespace Go.Mor
open Go.RowKit
def et.can(f:et):et:={f with qA:=none,qc:=0,bG:=f.bG.map (fun q=>(none,0,q.2.2))}
def jM(x:cX):et:=⟨x.nm,x.wk,x.pa,x.va,x.A,x.c,x.bh,none,0,(tI (aq x.bh)).map (fun l=>(none,0,l))⟩
theorem DY(f:et)(k:Nat):f.can.src k=f.src k:=by
 unfold et.src et.can;simp only[List.getD_eq_getElem?_getD,List.getElem?_map];cases f.bG[k]?<;>rfl
section
variable {E : Env0} {call : Int → List Int → cQ → dp Int}
def Env0.can(E:Env0):Env0:={E with fns:=E.fns.map et.can}
theorem Cm:∀(is:List bl) (v:af) (s:cQ),cS E.can call is v s=cS E call is v s
 |[],_,_=>rfl
 |i::r,v,s=>by show((cT E s).bind fun _ s=>(bV E call i (fe v i.args) s).bind fun u s=>cS E.can call r (if 0≤i.dst∧aK i.op then v.set i.dst.toNat u else v) s)=((cT E s).bind fun _ s=>(bV E call i (fe v i.args) s).bind fun u s=>cS E call r (if 0≤i.dst∧aK i.op then v.set i.dst.toNat u else v) s);congr 1;funext _ s;congr 1;funext u s;exact Cm r _ s
theorem Nb(f:et)(k from_:Int)(v:af)(s:cQ):fi E.can call f.can k from_ v s=fi E call f k from_ v s:=by
 unfold fi;rw[show f.can.bh=f.bh from rfl];cases f.bh[k.toNat]? with
 |none=>rfl
 |some x=>
  show(cS E.can call x.insts (gr x.au (eG (f.can.src k.toNat) from_) v) s).bind _=(cS E call x.insts (gr x.au (eG (f.src k.toNat) from_) v) s).bind _;rw[Cm,DY];rfl
theorem Cn{b b':et→Int→Int→af→cQ→dp Int}(h:∀f k fr v s,b' f.can k fr v s=b f k fr v s)(n:Int)(l:af)(s:cQ):fF E.can b' n l s=fF E b n l s:=by
 have hlen:E.can.fns.length=E.fns.length:=by show(E.fns.map et.can).length=_;simp
 by_cases hr:n<1∨n≥(E.fns.length:Int)+1
 ·rw[lk hr,lk (by rw[hlen];exact hr)]
 obtain⟨f,hf⟩:=aM (l:=E.fns) (i:=(n-1).toNat) oM;have hf':E.can.fns[(n-1).toNat]?=some f.can:=by show(E.fns.map et.can)[(n-1).toNat]?=_;rw[List.getElem?_map,hf];rfl
 rw[ql hr hf,ql (by rw[hlen];exact hr) hf',h];rfl
theorem y4:∀(g:Nat) (f:et) (k fr:Int) (v:af) (s:cQ),iW E.can g f.can k fr v s=iW E g f k fr v s
 |0,_,_,_,_,_=>rfl
 |g+1,f,k,fr,v,s=>by
  have hc:dN E.can g=dN E g:=by funext n l s;exact Cn (y4 g) n l s
  rw[lb,lb,hc,Nb];congr 1;funext r s;rw[y4 g]
theorem Rt(g:Nat)(n:Int)(l:af)(s:cQ):dN E.can g n l s=dN E g n l s:=Cn (y4 g) n l s
theorem Gi(g:Nat):∀(l:List aV) (s:cQ),gW E.can g l s=gW E g l s
 |[],_=>rfl
 |b::r,s=>by
  show(match fh E.names b with|none=>dp.stop 5 0 s|some n=>(dN E.can g n [] s).bind fun _ s=>gW E.can g r s)=(match fh E.names b with|none=> .stop 5 0 s|some n=>(dN E g n [] s).bind fun _ s=>gW E g r s);cases fh E.names b with
  |none=>rfl
  |some n=>
   show(dN E.can g n [] s).bind _=(dN E g n [] s).bind _;rw[Rt];congr 1;funext _ s;exact Gi g r s
theorem Xi(cs:List bE)(l:List aV):ld E.can cs l=ld E cs l:=by
 unfold ld;rw[Gi];rfl
end
def iI(cs:List cX)(j:Nat):List (aV×Int):=(cs.take j).zipIdx.map (fun p=>(p.1.nm,((p.2+1:Nat):Int)))
def jl(fs:List cX)(ds:List bE)(mem:Int)(inp:af)(fuel:Int):Env0:=⟨(fB fs).map jM,iI (fB fs) (fB fs).length,cP (aF ds) (aF ds).length,inp,mem.toNat,min (max fuel 0) 4194304⟩
def Qch{α:Type}(B:Prop)(Q:α→Prop)(l:List α)(j:Nat):Prop:=B∨∃(i:Nat) (x:α),i<j∧l[i]?=some x∧Q x
section
variable {α : Type} {B : Prop} {Q : α → Prop} {l : List α} {j : Nat} {x : α} {b : Bool}
theorem y5(h:¬Qch B Q l l.length):¬B∧∀x,x∈l→¬Q x:=⟨fun hb=>h (.inl hb),fun x hx hq=>by
 obtain⟨i,hi⟩:=Qmp.1 hx;exact h (.inr ⟨i,x,(List.getElem?_eq_some_iff.1 hi).1,hi,hq⟩)⟩
end
def Ru(mem:Int)(inp:af):Prop:=mem<1∨mem>262144∨(inp.length:Int)>4096
def Qfq(ds:List bE)(mem:Int)(inp:af)(j:Nat):Prop:=Qch (Ru mem inp) (fun d=>¬kT d) ds j
def DZ(fs:List cX)(ds:List bE)(mem:Int)(inp:af)(j:Nat):Prop:=Qch (Qfq ds mem inp ds.length) (fun f:cX=>¬cC f.nm f.pa f.va f.bh=0) fs j
noncomputable instance (fs : List cX) (ds : List bE) (mem : Int) (inp : List Int) (j : Nat) : Decidable (DZ fs ds mem inp j) := Classical.propDecidable _
theorem lU{fs:List cX}{ds:List bE}{mem:Int}{inp:af}(h:¬DZ fs ds mem inp fs.length):(1≤mem∧mem≤262144∧inp.length≤4096)∧(∀d,d∈ds→kT d)∧∀f,f∈fs→cC f.nm f.pa f.va f.bh=0:=by
 obtain⟨h1,h2⟩:=y5 h;obtain⟨h3,h4⟩:=y5 h1;unfold Ru at h3;exact⟨oM,fun d hd=>QoD.1 (h4 d hd),fun f hf=>QoD.1 (h2 f hf)⟩
noncomputable def gR(fs:List cX)(ds:List bE)(bg:List aV)(mem:Int)(inp:af)(fuel:Int):Out:=if DZ fs ds mem inp fs.length then(5,0,[],0)else kD (ld (jl fs ds mem inp fuel) (aF ds) bg)
theorem Qci{f:et}{x:cX}(h:f.can=jM x)(iq:pz x.bh)(hn:x.bh.length≤1000)(hv:cC x.nm x.pa x.va x.bh=0):f.WF:=by
 have e:∀k,f.src k=(jM x).src k:=fun k=>by rw[←DY f,h]
 have hb:f.bh=x.bh:=Qlh et.bh h;have h1:f.nm=x.nm:=Qlh et.nm h;have h2:f.pa=x.pa:=Qlh et.pa h;have h3:f.va=x.va:=Qlh et.va h;have h4:f.bG.length=x.bh.length:=by have:=Qlh (fun g:et=>g.bG.length) h;simp only[et.can,jM,QlO,yu,bK]at this;exact this
 refine Qfm (by rw[hb];exact iq) (by rw[hb];exact hn) (by rw[h1,h2,h3,hb];exact hv) ⟨by rw[h4,hb],fun k hk=> ?_⟩;rw[hb]at hk⊢;rw[e];unfold et.src jM;simp only[List.getD_eq_getElem?_getD,List.getElem?_map];rw[lK (by rw[bK];exact hk)];rfl
theorem Nc{f:et}{x:cX}(h:f.can=jM x):f.cells=x.cells:=by
 have:f.can.cells=(jM x).cells:=by rw[h]
 exact this
theorem D0{qs:List et}{cs:List cX}(h:qs.map et.can=cs.map jM){f:et}(hf:f∈qs):∃x,x∈cs∧f.can=jM x:=by
 have this:f.can∈qs.map et.can:=Qhz.2 ⟨f,hf,rfl⟩;rw[h]at this;obtain⟨x,hx,he⟩:=Qhz.1 this;exact⟨x,hx,he.symm⟩
theorem Gj{S:Nat→Prop}{w:World}:RO S w (.cf none []):=RO.all (fun r hr=>by
 simp only[List.flatMap_nil,Qps,Qon,Qpn,QoM]at hr;subst hr;exact⟨fun i cs hi=>by simp at hi,fun g hg=>by obtain⟨⟨i,cs,hi,_⟩,_⟩:=hg;simp at hi⟩)
def DIn(d:bE):Prop:=dJ d.nm.size∧dJ d.words.length∧dJ d.refs.length∧∀r,r∈d.refs→In64 r.1∧dJ r.2.size
structure nG(w:World)(fs:List cX)(fA:ar)(ds:List bE)(dA:ar)(bg:List aV)(gA:ar)(inp:af)(iA:ar)(ic:Nat):Prop where
 len:fs.length≤1000
 cells:RO bq w (.l7 fA 5 (fs.map cX.cells))
 ok:∀x,x∈fs→pz x.bh∧x.bh.length≤1000
 fn:∀x,x∈fs→RO bq w (.fn x.A x.bh)
 Rv:bg.length≤1000000
 bg:RO bq w (.rd gA (bg.map Value.string))
 Rw:inp.length≤ic
 inr:RO bq w (.rd iA (qW inp))
 bytes:∀b,b∈inp→0≤b∧b≤255
 Gk:ds.length≤1000
 cf:RO bq w (.cf dA ds)
 din:∀d,d∈ds→DIn d
 Nd:nF ds≤16384
 dwi:∀d,d∈ds→∀x,x∈d.words→In64 x
theorem Rx{w:World}{fs:List cX}{ds:List bE}{fA dA gA iA:ar}{bg:List aV}{inp:af}{ic:Nat}{mem:Int}(hI:nG w fs fA ds dA bg gA inp iA ic)(hb:¬DZ fs ds mem inp fs.length):∀d,d∈ds→d.WF:=fun d hd=>Xh ((lU hb).2.1 d hd) (QoJ (DX hd) hI.Nd)
theorem D1{fs:List cX}{ds:List bE}{bg:List aV}{mem:Int}{inp:af}{fuel:Int}(hb:DZ fs ds mem inp fs.length):gR fs ds bg mem inp fuel=(5,0,[],0):=by
 unfold gR;rw[Kt hb]
end Go.Mor
namespace Go.Mor
open Go.RowKit
structure ru(D:List aE→List aE→Prop)(fs gs:List cX):Prop where
 len:gs.length=fs.length
 at_:∀(i:Nat) (f g:cX),fs[i]?=some f→gs[i]?=some g→g.nm=f.nm∧g.wk=f.wk∧g.pa=f.pa∧g.va=f.va∧D f.bh g.bh
section
variable {D : List aE → List aE → Prop} {fs gs : List cX}
theorem ru.nil:ru D [] []:=⟨rfl,fun i f g h=>by cases h⟩
theorem ru.snoc(h:ru D fs gs){f g:cX}(h1:g.nm=f.nm)(h2:g.wk=f.wk)(h3:g.pa=f.pa)(h4:g.va=f.va)(h5:D f.bh g.bh):ru D (fs++[f]) (gs++[g]):=by
 refine⟨by rw[QoG,QoG,h.len];rfl,fun i a b ha hb=> ?_⟩;rw[List.getElem?_append]at ha hb;rw[h.len]at hb;by_cases e:i<fs.length
 ·rw[Kt e]at ha hb;exact h.at_ i a b ha hb
 ·rw[Ds e]at ha hb;have h9:=(List.getElem?_eq_some_iff.1 ha).1;have e9:i-fs.length=0:=by simp at h9;omega
  rw[e9]at ha hb;injection ha with ha;injection hb with hb;subst ha hb;exact⟨h1,h2,h3,h4,h5⟩
theorem ru.map{α:Type}(h:ru D fs gs){u:cX→α}(hu:∀(i:Nat) (f g:cX),fs[i]?=some f→gs[i]?=some g→u g=u f):gs.map u=fs.map u:=by
 refine QoL fun i=> ?_
 rw[List.getElem?_map,List.getElem?_map];by_cases hi:i<fs.length
 ·obtain⟨f,hf⟩:=aM hi;obtain⟨g,hg⟩:=aM (l:=gs) (i:=i) (by rw[h.len];exact hi);rw[hf,hg,Fc,Fc,hu i f g hf hg]
 ·rw[List.getElem?_eq_none (by rw[h.len];omega),List.getElem?_eq_none oM]
theorem ru.pick(h:ru D fs gs):∀(L:List Nat),(∀k,k∈L→k<fs.length)→ru D (L.filterMap (fun k=>fs[k]?)) (L.filterMap (fun k=>gs[k]?))
 |[],_=> .nil
 |k::L,hL=>by
  have ih:=h.pick L fun q hq=>hL q (Qmq _ hq)
  obtain⟨f,hf⟩:=aM (hL k (Qop ..));obtain⟨g,hg⟩:=aM (l:=gs) (i:=k) (by rw[h.len];exact hL k (Qop ..));rw[List.filterMap_cons,List.filterMap_cons,hf,hg];refine⟨by show(_::_).length=(_::_).length;rw[QoE,QoE,ih.len],fun i a b ha hb=> ?_⟩;cases i with
  |zero=>
   injection ha with ha;injection hb with hb;subst ha hb;exact h.at_ k f g hf hg
  |succ i=>exact ih.at_ i a b ha hb
theorem ru.Qcj(h:ru D fs gs):ru D (fB fs) (fB gs):=by
 unfold fB bF;rw[h.map (u:=fun f=>(f.nm,f.wk)) (fun i f g hf hg=>by obtain⟨h1,h2,_⟩:=h.at_ i f g hf hg;rw[h1,h2]),h.len];exact h.pick _ fun k hk=>QoA.1 (Qov.1 hk).1
theorem Nf(h:ru D fs gs):iI gs gs.length=iI fs fs.length:=by
 unfold iI;rw[Qot (kQ _),Qot (kQ _)];refine QoL fun i=> ?_
 rw[List.getElem?_map,List.getElem?_map,List.getElem?_zipIdx,List.getElem?_zipIdx];by_cases hi:i<fs.length
 ·obtain⟨f,hf⟩:=aM hi;obtain⟨g,hg⟩:=aM (l:=gs) (i:=i) (by rw[h.len];exact hi);rw[hf,hg];show some (g.nm,_)=some (f.nm,_);rw[(h.at_ i f g hf hg).1]
 ·rw[List.getElem?_eq_none (by rw[h.len];omega),List.getElem?_eq_none oM]
theorem Gl{x:cX}{k:Nat}(hk:k<x.bh.length):(jM x).src k=bG (aq x.bh) (k:Int):=by
 unfold et.src jM;simp only[List.getD_eq_getElem?_getD,List.getElem?_map];rw[lK (by rw[bK];exact hk)];rfl
theorem Qec{fs:List cX}{ds:List bE}{bg:List aV}{mem:Int}{inp:af}{fuel:Int}:0≤(gR fs ds bg mem inp fuel).2.2.2∧(gR fs ds bg mem inp fuel).2.2.2≤min (max fuel 0) 4194304:=by
 by_cases hb:DZ fs ds mem inp fs.length
 ·rw[D1 hb];exact⟨Qol _,by show(0:Int)≤_;omega⟩
 ·have h:=Qb4 (E:=jl fs ds mem inp fuel) (by show 0≤min (max fuel 0) 4194304;omega) (aF ds) bg;have e:(gR fs ds bg mem inp fuel).2.2.2=(qZ (ld (jl fs ds mem inp fuel) (aF ds) bg)).steps:=by unfold gR;rw[Ds hb];show(Q1 _).2.2.steps=_;cases ld (jl fs ds mem inp fuel) (aF ds) bg<;>rfl
  rw[e];exact h
theorem Qcn{ds:List bE}{bg:List aV}{mem:Int}{inp:af}{fuel:Int}(h:ru D fs gs)(hv:∀g,g∈gs→cC g.nm g.pa g.va g.bh=0)(hS:∀(E E':Env0) (f g:cX),rP E E'→f∈fs→g.nm=f.nm→g.pa=f.pa→g.va=f.va→D f.bh g.bh→∃Inv,FQ E E' (jM f) (jM g) Inv)(hk:(gR fs ds bg mem inp fuel).1=1∨(gR fs ds bg mem inp fuel).1=2){m:Int}(ZH:(gR fs ds bg mem inp fuel).2.2.2≤m)(dH:m≤4194304):(gR gs ds bg mem inp m).1=(gR fs ds bg mem inp fuel).1∧(gR gs ds bg mem inp m).2.1=(gR fs ds bg mem inp fuel).2.1∧(gR gs ds bg mem inp m).2.2.1=(gR fs ds bg mem inp fuel).2.2.1:=by
 have hbf:¬DZ fs ds mem inp fs.length:=fun hb=>by rw[D1 hb]at hk;rcases hk with hk|hk<;>exact absurd hk (by show¬(5:Int)=_;omega)
 obtain⟨b1,b2,b3⟩:=lU hbf;have hbg:¬DZ gs ds mem inp gs.length:=by
  rintro(hb|⟨i,x,_,hx,hb⟩)
  ·rcases hb with hb|⟨i,x,_,hx,hb⟩
   ·unfold Ru at hb;omega
   ·exact hb (b2 x (D7 hx))
  ·exact hb (hv x (D7 hx))
 have e1:gR fs ds bg mem inp fuel=kD (ld (jl fs ds mem inp fuel) (aF ds) bg):=by unfold gR;rw[Ds hbf]
 have e2:∀m,gR gs ds bg mem inp m=kD (ld (jl gs ds mem inp m) (aF ds) bg):=fun m=>by unfold gR;rw[Ds hbg]
 have hle:=Qb4 (E:=jl fs ds mem inp fuel) (by show 0≤min (max fuel 0) 4194304;omega) (aF ds) bg;have hf4:(jl fs ds mem inp fuel).fuel≤4194304:=by show min (max fuel 0) 4194304≤_;omega
 have I7:=h.Qcj;have hE:∀m,rP (jl fs ds mem inp fuel) (jl gs ds mem inp m):=fun m=>⟨Nf I7,rfl,rfl,rfl,by show((fB gs).map jM).length=((fB fs).map jM).length;rw[QlO,QlO,I7.len]⟩
 have hF:∀m,yO (jl fs ds mem inp fuel) (jl gs ds mem inp m):=fun m i f f' h1 h2=>by have h1:((fB fs).map jM)[i]?=some f:=h1;have h2:((fB gs).map jM)[i]?=some f':=h2;rw[List.getElem?_map,QoQ]at h1 h2;obtain⟨x,hx,rfl⟩:=h1;obtain⟨y,hy,rfl⟩:=h2;obtain⟨q1,q2,q3,q4,q5⟩:=I7.at_ i x y hx hy;exact hS _ _ x y (hE m) (fL (D7 hx)) q1 q3 q4 q5
 rw[e1]at hk ZH⊢;cases hr:ld (jl fs ds mem inp fuel) (aF ds) bg with
 |ok a t=>
  rw[hr]at ZH hle;have ZH:t.steps≤m:=ZH;have hle:0≤t.steps∧_:=hle;have hkt:(jl gs ds mem inp m).fuel=m:=by show min (max m 0) 4194304=m;omega
  have h1:=Q4 (hE m) (hF m) (by rw[hkt];omega) (aF ds) bg;rw[hr]at h1;obtain⟨a',t',h2,h3,_⟩:=h1 (by rw[hkt];exact ZH);rw[e2];show(kD (ld (jl gs ds mem inp m) (aF ds) bg)).1=_∧(kD (ld (jl gs ds mem inp m) (aF ds) bg)).2.1=_∧(kD (ld (jl gs ds mem inp m) (aF ds) bg)).2.2.1=_;rw[h2];exact⟨rfl,rfl,h3.out⟩
 |stop k c t=>
  rw[hr]at ZH hle;have ZH:t.steps≤m:=ZH;have hle:0≤t.steps∧_:=hle;have hkt:(jl gs ds mem inp m).fuel=m:=by show min (max m 0) 4194304=m;omega
  rw[hr]at hk;have h1:=Q4 (hE m) (hF m) (by rw[hkt];omega) (aF ds) bg;rw[hr]at h1;obtain⟨t',h2,h3⟩:=h1 hk (by rw[hkt];exact ZH);rw[e2];show(kD (ld (jl gs ds mem inp m) (aF ds) bg)).1=_∧(kD (ld (jl gs ds mem inp m) (aF ds) bg)).2.1=_∧(kD (ld (jl gs ds mem inp m) (aF ds) bg)).2.2.1=_;rw[h2];exact⟨rfl,rfl,h3.out⟩
end
end Go.Mor
namespace Go.Mor
open Go.RowKit
def vX(g:cX):bx:= .pk (I8 g.A g.c g.bh)
def Vg(gs:List cX):aP:=gs.flatMap cX.cells
theorem RV(gs:List cX)(g:cX):Vg (gs++[g])=Vg gs++g.cells:=by simp[Vg,QpQ]
theorem QlC{w:World}{gs:List cX}(h:(bx.pk (gs.map vX)).holds w){g:cX}(hg:g∈gs):(bx.fn g.A g.bh).holds w:=by
 have h1:(bx.pk (I8 g.A g.c g.bh)).holds w:=yM h (Qhz.2 ⟨g,hg,rfl⟩);exact u7 (yM h1 (Qop ..)) (yM h1 (Qmq _ (Qop ..)))
theorem Qkp{w:World}{e n c:Nat}{A:ar}{gs:List cX}(h:(bx.row e 5 A n c (Vg gs)).holds w):(bx.l7 A 5 (gs.map cX.cells)).holds w:=jI (f:=cX.cells) (size:=5) (fun _=>rfl) dQ h
structure GG(D:List aE→List aE→Prop)(fs gs:List cX):Prop where
 beh:ru D fs gs
 ok:∀g,g∈gs→pz g.bh∧g.bh.length≤1000∧cC g.nm g.pa g.va g.bh=0
section
variable {D : List aE → List aE → Prop} {fs gs : List cX}
theorem GG.nil:GG D [] []:=⟨.nil,fun g h=>by cases h⟩
theorem GG.next{k:Nat}{f:cX}(h:GG D (fs.take k) gs)(hf:fs[k]?=some f){B:ar}{cB:Nat}{fd:List aE}(hd:D f.bh fd)(h1:pz fd)(h2:fd.length≤1000)(h3:cC f.nm f.pa f.va fd=0):GG D (fs.take (k+1)) (gs++[⟨f.nm,f.wk,f.pa,f.va,B,cB,fd⟩]):=by
 obtain⟨hk,he⟩:=List.getElem?_eq_some_iff.1 hf;rw[Qow hk,he];refine⟨h.beh.snoc rfl rfl rfl rfl hd,fun g hg=> ?_⟩;rcases Qn2.1 hg with hg|hg
 ·exact h.ok g hg
 ·rw[yX]at hg;subst hg;exact⟨h1,h2,h3⟩
theorem nG.beh{w w':World}{L:List bx}{bg:List aV}{inp:af}{fA hA gA iA:ar}{ic e n c i j:Nat}(h:nG w fs fA [] none bg gA inp iA ic)(hM:Mem bq w w' L)(hb:GG D fs gs)(hi:L[i]?=some (.row e 5 hA n c (Vg gs)))(hj:L[j]?=some (.pk (gs.map vX))):nG w' gs hA [] none bg gA inp iA ic where
 len:=by rw[hb.beh.len];exact h.len
 cells:=RO.of (Qkp (hM.get i hi));ok x hx:=⟨(hb.ok x hx).1,(hb.ok x hx).2.1⟩;fn x hx:=RO.of (QlC (hM.get j hj) hx);Rv:=h.Rv;bg:=h.bg.at_ hM;Rw:=h.Rw;inr:=h.inr.at_ hM;bytes:=h.bytes;Gk:=h.Gk;cf:=h.cf.at_ hM;din:=h.din;Nd:=h.Nd;dwi:=h.dwi
end
def RW(fs gs:List cX)(bg:List aV)(inp:af)(fuel:Int):Prop:=(gR fs [] bg 500 inp fuel).1=1∨(gR fs [] bg 500 inp fuel).1=2→(gR gs [] bg 500 inp (gR fs [] bg 500 inp fuel).2.2.2).1=(gR fs [] bg 500 inp fuel).1∧(gR gs [] bg 500 inp (gR fs [] bg 500 inp fuel).2.2.2).2.1=(gR fs [] bg 500 inp fuel).2.1∧(gR gs [] bg 500 inp (gR fs [] bg 500 inp fuel).2.2.2).2.2.1=(gR fs [] bg 500 inp fuel).2.2.1
end Go.Mor
namespace Go.Mor
open Go.RowKit
section
variable {fs gs hs : List cX} {bg : List ByteArray} {inp : List Int} {fuel : Int}
def Ng(fs gs:List cX)(bg:List aV)(inp:af):Prop:=∀fuel m:Int,(gR fs [] bg 500 inp fuel).1=1∨(gR fs [] bg 500 inp fuel).1=2→(gR fs [] bg 500 inp fuel).2.2.2≤m→m≤4194304→(gR gs [] bg 500 inp m).1=(gR fs [] bg 500 inp fuel).1∧(gR gs [] bg 500 inp m).2.1=(gR fs [] bg 500 inp fuel).2.1∧(gR gs [] bg 500 inp m).2.2.1=(gR fs [] bg 500 inp fuel).2.2.1
theorem Ng.q(h:Ng fs gs bg inp)(fuel:Int):RW fs gs bg inp fuel:=fun hk=>h fuel _ hk (Qol _) (Int.le_trans Qec.2 oM)
theorem UG(h1:Ng fs hs bg inp)(h2:Ng hs gs bg inp):Ng fs gs bg inp:=by
 intro fuel m hk ZH dH;obtain⟨a1,a2,a3⟩:=h1 fuel m hk ZH dH;have s1:=Qec (fs:=fs) (ds:=[]) (bg:=bg) (mem:=500) (inp:=inp) (fuel:=fuel);have s2:=Qec (fs:=hs) (ds:=[]) (bg:=bg) (mem:=500) (inp:=inp) (fuel:=m);obtain⟨b1,b2,b3⟩:=h2 m m (by rw[a1];exact hk) oM dH;rw[b1,b2,b3,a1,a2,a3];exact⟨rfl,rfl,rfl⟩
end
def QhH(fs gs:List aE):Prop:=∃σ,(∀(nm:aV) (pa va:Int),cC nm pa va fs=0→CR pa va fs σ)∧eH gs (pt σ fs)
theorem Qkq(fs:List aE):eH fs (pt (fun v=>v) fs):=by
 show fs.map aE.e0=(fs.map _).map aE.e0;rw[QlQ];refine QoV fun x _=> ?_
 show x.e0=(nE (fun v=>v) x).e0;have h1:∀l:List bZ,l.filter (fun p=>bf (fun v=>v) p.dst)=l:=fun l=>Qpw.2 fun p _=>by unfold bf;exact QpN _
 have h2:∀l:List bl,l.filter (fun p=>bf (fun v=>v) p.dst)=l:=fun l=>Qpw.2 fun p _=>by unfold bf;exact QpN _
 unfold nE aE.e0;simp only[h1,h2,QlQ,ite_self];have h3:∀l:af,l.map (fun v=>v)=l:=fun l=>List.map_id' l
 have e1:(bZ.e0∘uv (fun v=>v))=bZ.e0:=by funext p;show(⟨p.dst,none,0,p.args.map (fun v=>v)⟩:bZ)=⟨p.dst,none,0,p.args⟩;rw[h3]
 have e2:(bl.e0∘lZ (fun v=>v))=bl.e0:=by funext p;show(⟨p.op,p.dst,p.n,p.name,none,0,p.args.map (fun v=>v)⟩:bl)=⟨p.op,p.dst,p.n,p.name,none,0,p.args⟩;rw[h3]
 rw[e1,e2]
theorem QhH.alike{fs gs:List aE}(h:eH gs fs):QhH fs gs:=⟨fun v=>v,fun _ _ _ _=>CR.id,h.trans (Qkq fs)⟩
theorem QhH.pass{fs gs:List aE}(h:eH gs (gX fs)):QhH fs gs:=⟨lW fs,fun _ _ _ hv=>Qlg (oK hv).1,h⟩
theorem Au{fs gs:List cX}(h:ru QhH fs gs)(hvg:∀g,g∈gs→cC g.nm g.pa g.va g.bh=0)(hv:∀f,f∈fs→cC f.nm f.pa f.va f.bh=0)(bg:List aV)(inp:af):Ng fs gs bg inp:=by
 intro fuel m hk ZH dH;refine Qcn (D:=QhH) h hvg (fun E E' f g hE hf h1 h3 h4 h5=> ?_) hk ZH dH;obtain⟨σ,hσ,XJ⟩:=h5;obtain⟨hg,_,jB⟩:=oK (hv f hf);have hq:=hσ _ _ _ (hv f hf);have hl:g.bh.length=f.bh.length:=by rw[eH.len XJ,ze]
 have e:bG (aq g.bh)=bG (aq f.bh):=by rw[j7 (DR XJ)];exact j7 Qbi
 exact⟨_,Qku hE hg jB hq rfl XJ (fun k hk=>Gl hk) (fun k hk=>by rw[Gl (x:=g) (by rw[hl];exact hk),e]) rfl rfl h3 h4⟩
def Qnp(n:Nat)(f:cX):cX:=⟨f.nm,f.wk,f.pa,f.va,f.A,f.c,gJ n f.bh⟩
theorem UH:∀(n:Nat) (fs:List aE),gJ (n+1) fs=gJ n fs∨gJ (n+1) fs=gX (gJ n fs)
 |0,fs=>by
  show(if dw (gX fs)<dw fs then gX fs else fs)=fs∨(if dw (gX fs)<dw fs then gX fs else fs)=gX fs;split
  ·exact .inr rfl
  ·exact .inl rfl
 |n+1,fs=>by
  show(if dw (gX fs)<dw fs then gJ (n+1) (gX fs)else fs)=(if dw (gX fs)<dw fs then gJ n (gX fs)else fs)∨(if dw (gX fs)<dw fs then gJ (n+1) (gX fs)else fs)=gX (if dw (gX fs)<dw fs then gJ n (gX fs)else fs);split
  ·exact UH n (gX fs)
  ·exact .inl rfl
theorem Qee:∀(n m:Nat) (fs:List aE),dw fs≤n→dw fs≤m→gJ n fs=gJ m fs
 |0,0,_,_,_=>rfl
 |0,m+1,fs,h,_=>by show fs=if dw (gX fs)<dw fs then gJ m (gX fs)else fs;rw[Ds oM]
 |n+1,0,fs,_,h=>by show(if dw (gX fs)<dw fs then gJ n (gX fs)else fs)=fs;rw[Ds oM]
 |n+1,m+1,fs,h1,h2=>by
  show(if dw (gX fs)<dw fs then gJ n (gX fs)else fs)=if dw (gX fs)<dw fs then gJ m (gX fs)else fs;split
  ·exact Qee n m _ oM oM
  ·rfl
abbrev QlU(fs fd:List aE):Prop:=eH fd (mi fs)
theorem ZK:∀(l:List Nat) (a:Nat),a∈l→a≤l.sum
 |[],_,h=>by cases h
 |b::l,a,h=>by
  rw[Qpz];rcases Qon.1 h with h|h
  ·omega
  ·have:=ZK l a h;omega
theorem Co{fs:List cX}(hv:∀f,f∈fs→cC f.nm f.pa f.va f.bh=0)(n:Nat):∀g,g∈fs.map (Qnp n)→cC g.nm g.pa g.va g.bh=0:=by
 intro g hg;obtain⟨f,hf,rfl⟩:=Qhz.1 hg;exact vt n (hv f hf)
theorem Qef{fs:List cX}(hv:∀f,f∈fs→cC f.nm f.pa f.va f.bh=0)(bg:List aV)(inp:af):∀(n:Nat),Ng fs (fs.map (Qnp n)) bg inp
 |0=>Au ⟨QlO ..,fun i f g hf hg=>by rw[List.getElem?_map,hf]at hg;injection hg with hg;subst hg;exact⟨rfl,rfl,rfl,rfl,.alike rfl⟩⟩ (Co hv 0) hv bg inp
 |n+1=>UG (Qef hv bg inp n) (Au ⟨by rw[QlO,QlO],fun i f g hf hg=>by
   rw[List.getElem?_map,QoQ]at hf hg;obtain⟨x,hx,rfl⟩:=hf;obtain⟨y,hy,rfl⟩:=hg;rw[hx]at hy;injection hy with hy;subst hy;refine⟨rfl,rfl,rfl,rfl,?_⟩;rcases UH n x.bh with e|e
   ·exact .alike (by show eH (gJ (n+1) x.bh) (gJ n x.bh);rw[e];rfl)
   ·exact .pass (by show eH (gJ (n+1) x.bh) (gX (gJ n x.bh));rw[e];rfl)⟩ (Co hv (n+1)) (Co hv n) bg inp)
theorem Qff{fs gs:List cX}(h:GG QlU fs gs)(hv:∀f,f∈fs→cC f.nm f.pa f.va f.bh=0)(bg:List aV)(inp:af)(fuel:Int):RW fs gs bg inp fuel:=by
 obtain⟨N,hN⟩:∃N,N=(fs.map (fun f=>dw f.bh)).sum:=⟨_,rfl⟩;refine(UG (Qef hv bg inp N) (Au ⟨by rw[QlO];exact h.beh.len,fun i f g hf hg=> ?_⟩ (fun g hg=>(h.ok g hg).2.2) (Co hv N) bg inp)).q fuel;rw[List.getElem?_map,QoQ]at hf;obtain⟨x,hx,rfl⟩:=hf;obtain⟨q1,q2,q3,q4,q5⟩:=h.beh.at_ i x g hx hg;refine⟨q1,q2,q3,q4,.alike ?_⟩;have hle:dw x.bh≤N:=by rw[hN];exact ZK _ _ (Qhz.2 ⟨x,D7 hx,rfl⟩)
 show eH g.bh (gJ N x.bh);rw[Qee N (dw x.bh) x.bh hle (kQ _)];exact q5
end Go.Mor
namespace Go.Mor
open Go.RowKit
end Go.Mor
namespace Go.Mor
open Go.RowKit
theorem kq{a b:aV}:a.toList=b.toList↔a=b:=by
 constructor
 ·intro h;rw[ByteArray.toList_eq,ByteArray.toList_eq]at h;exact Qlq h
 ·intro h;rw[h]
end Go.Mor
namespace Go.Mor
open Go.RowKit
structure jo where
 ov:Bool
 k:Int
 c:Int
 s:cQ
 N:Int
 V:Int
def er(s:cQ):cQ:=⟨[],0,0,s.out,s.steps,0⟩
section
variable {α β : Type}
def dp.no(g:dp α):dp α:=match g with
 | .ok a s=> .ok a s
 | .stop k c s=> .stop k c (er s)
def ey(a b:dp α):Prop:=a.no=b.no
def jo.go(z:jo)(K:cQ→dp α):dp α:=if z.ov then .stop z.k z.c z.s else K z.s
def jo.fin(z:jo)(k c:Int):jo:=if z.ov then z else {z with ov:=true,k:=k,c:=c}
variable {a b : dp α} {G : dp β} {z z' : jo} {A : cQ → dp α} {K K' : cQ → dp β} {F : α → cQ → dp β} {x : α} {k c : Int}
theorem ey.bind(h:ey a b)(F:α→cQ→dp β):ey (a.bind F) (b.bind F):=by
 unfold ey dp.no at h;cases a<;>cases b<;>simp only[dp.ok.injEq,dp.stop.injEq,reduceCtorEq]at h
 ·obtain⟨rfl,rfl⟩:=h;exact rfl
 ·obtain⟨rfl,rfl,h⟩:=h;show dp.stop _ _ (er _)=dp.stop _ _ (er _);rw[h]
theorem QkY:(z.go A).bind F=z.go fun s=>(A s).bind F:=by
 unfold jo.go;split<;>rfl
theorem sW(h:z.ov=false):z.go K=K z.s:=by unfold jo.go;rw[h];rfl
theorem ud(h:z.ov=true):z.go K= .stop z.k z.c z.s:=by unfold jo.go;rw[h];rfl
theorem ey.step(hr:ey G (z.go fun s=>(A s).bind F))(h:ey (z.go A) (z'.go (dp.ok x))):ey G (z'.go (F x)):=by
 have h2:=h.bind F;rw[QkY,QkY]at h2;exact Eq.trans hr h2
theorem ey.tail{A:cQ→dp β}{x:β}(hr:ey G (z.go A))(h:ey (z.go A) (z'.go (dp.ok x))):ey G (z'.go (dp.ok x)):=Eq.trans hr h
theorem ey.Nu(h:z.ov=true)(hr:ey G (z.go K)):ey G (z.go K'):=by
 rw[ud h]at hr⊢;exact hr
theorem ey.HK(h:∀s,K s=K' s)(hr:ey G (z.go K)):ey G (z.go K'):=by
 have:K=K':=funext h;rw[←this];exact hr
theorem ey.to(hr:ey G (z.go K))(hz:z.ov=false)(hz':z'.ov=false)(h:K z.s=K' z'.s):ey G (z'.go K'):=by
 rw[sW hz]at hr;rw[sW hz',←h];exact hr
theorem Jl:(z.fin k c).ov=true:=by
 unfold jo.fin;cases h:z.ov
 ·rfl
 ·exact h
theorem R2(h:z.ov=true):z.fin k c=z:=by unfold jo.fin;rw[h];rfl
theorem K6(h:z.ov=false):z.fin k c={z with ov:=true,k:=k,c:=c}:=by unfold jo.fin;rw[h];rfl
theorem QdY:(z.fin k c).s=z.s:=by
 unfold jo.fin;cases z.ov<;>rfl
theorem ey.fin(hr:ey G (z.go K))(h:z.ov=false→ey (K z.s) (.stop k c z.s)):ey G ((z.fin k c).go K'):=by
 cases hz:z.ov with
 |true=>
  have e:z.fin k c=z:=by unfold jo.fin;rw[hz];rfl
  rw[e];exact hr.Nu hz
 |false=>
  have e:z.fin k c={z with ov:=true,k:=k,c:=c}:=by unfold jo.fin;rw[hz];rfl
  rw[e,ud rfl];rw[sW hz]at hr;exact Eq.trans hr (h hz)
theorem ey.got(h:ey (z.go A) (z'.go (dp.ok x)))(hz:z'.ov=false):z.ov=false∧A z.s= .ok x z'.s:=by
 rw[sW hz]at h;cases hv:z.ov with
 |true=>rw[ud hv]at h;unfold ey dp.no at h;cases h
 |false=>
  rw[sW hv]at h;refine⟨rfl,?_⟩;unfold ey dp.no at h;cases hA:A z.s with
  |ok y s=>rw[hA]at h;exact h
  |stop k c s=>rw[hA]at h;cases h
end
theorem K7(x:Int):In64 (IntKind.i64.wrap x):=by
 have h:∀m:Int,0≤m→m<18446744073709551616→In64 (if 9223372036854775808≤m then m-18446744073709551616 else m):=fun m h0 h1=>by
  unfold In64;by_cases hm:9223372036854775808≤m
  ·rw[Kt hm];omega
  ·rw[Ds hm];omega
 have h2:=h (x % 18446744073709551616) oM oM;unfold IntKind.wrap;simpa[IntKind.signed,IntKind.bits]using h2
theorem ue{n:Int}(h0:0≤n)(h1:n≤9223372036854775807):In64 n:=⟨oM,h1⟩
theorem jO:In64 0:=⟨dQ,dQ⟩
theorem GH(b:Bool):In64 (cO b):=by cases b<;>exact⟨dQ,dQ⟩
theorem XK{a b:Int}(h:In64 a):In64 (a.tmod b):=by
 unfold In64 at*;have h2:(a.tmod b).natAbs≤a.natAbs:=by rw[Int.natAbs_tmod];exact Nat.mod_le _ _
 by_cases h0:0≤a
 ·have:=Int.tmod_nonneg b h0;omega
 ·have h3:=Int.tmod_nonneg b (show 0≤-a by omega);rw[Int.neg_tmod]at h3;omega
theorem XL{a:Int}{n:Nat}(h:In64 a):In64 (a.fdiv (2^n)):=by
 unfold In64 at*;have hp:(1:Int)≤2^n:=by have:(1:Nat)≤2^n:=Nat.one_le_two_pow;exact_mod_cast this
 rw[Int.fdiv_eq_ediv_of_nonneg _ oM];by_cases h0:0≤a
 ·have h1:=Int.ediv_le_self (2^n:Int) h0;have h2:0≤a / 2^n:=Int.ediv_nonneg h0 oM;omega
 ·have h1:a / 2^n<0:=Int.ediv_lt_of_lt_mul oM oM;have h2:a≤a / 2^n:=by rw[Int.le_ediv_iff_mul_le oM];have h4:=Int.mul_le_mul_of_nonneg_left hp (show 0≤-a by omega);rw[Int.neg_mul,Int.neg_mul]at h4;omega
  omega
theorem K8{P:Prop}[Decidable P]{p q:Int×Int}(hp:In64 p.1)(hq:In64 q.1):In64 (if P then p else q).1:=by
 split
 ·exact hp
 ·exact hq
theorem Qcr{op a b:Int}(ha:In64 a):In64 (cA op a b).1:=by
 unfold cA jE Dh;repeat' apply K8
 all_goals first|exact K7 _|exact jO|exact GH _|exact XK ha|exact XL ha
theorem Qfw{op a:Int}:In64 (rJ op a).1:=by
 unfold rJ;repeat' apply K8
 all_goals first|exact K7 _|exact jO|exact GH _
def LI(l:af):Prop:=∀x,x∈l→In64 x
def MI(s:cQ):Prop:=LI s.mem∧0≤s.next∧s.next≤262144
theorem Ro{l:af}(h:LI l)(i:Nat):In64 (l.getD i 0):=by
 by_cases hi:i<l.length
 ·have:l.getD i 0=l[i]:=by simp[List.getD,hi]
  rw[this];exact h _ (QpC hi)
 ·have:l.getD i 0=0:=by simp[List.getD,hi]
  rw[this];exact jO
theorem zm{l:af}{i:Nat}{v:Int}(h:LI l)(hv:In64 v):LI (l.set i v):=fun x hx=>by
 rcases List.mem_or_eq_of_mem_set hx with h1|h1
 ·exact h x h1
 ·rw[h1];exact hv
def KI{α:Type}(p:α→Prop)(s:cQ)(g:dp α):Prop:=MI s→∀x s',g= .ok x s'→MI s'∧p x
section
variable {α β : Type} {p : α → Prop} {q : β → Prop} {s s2 : cQ}
theorem KI.bind{g:dp α}{f:α→cQ→dp β}(h:KI p s g)(hf:∀x s2,p x→KI q s2 (f x s2)):KI q s (g.bind f):=by
 intro hs x s' he;cases hg:g with
 |ok y s2=>
  rw[Qkb hg]at he;obtain⟨h1,h2⟩:=h hs y s2 hg;exact hf y s2 h2 h1 x s' he
 |stop k c s2=>rw[Qgi hg]at he;cases he
theorem KI.ok{x:α}(hm:MI s→MI s2)(h:p x):KI p s (.ok x s2):=fun hs y s' he=>by injection he with h1 h2;rw[←h1,←h2];exact⟨hm hs,h⟩
theorem KI.stop{k c:Int}:KI p s (.stop k c s2:dp α):=fun _ y s' he=>by cases he
theorem KI.ite{P:Prop}[Decidable P]{a b:dp α}(ha:P→KI p s a)(hb:¬P→KI p s b):KI p s (if P then a else b):=by
 split
 ·exact ha ‹_›
 ·exact hb ‹_›
theorem KI.same{g:dp α}(hm:MI s→MI s2)(h:KI p s2 g):KI p s g:=fun hs=>h (hm hs)
end
section
variable {E : Xb} {s : cQ} {loc : List Int}
theorem K9{E:Env0}{s:cQ}:KI (fun _=>True) s (cT E s):=by
 unfold cT;exact .ite (fun _=> .stop) (fun _=> .ok id trivial)
end
end Go.Mor
namespace Go.Mor
open Go.RowKit
section
variable {E : Xb} {loc : List Int}
theorem Qap{l:af}(h:LI l):In64 (a0 l):=Ro h 0
theorem XM{l:af}(h:LI l):LI l.tail:=fun x hx=>h x (List.mem_of_mem_tail hx)
end
def Gu(E:Env0)(z:jo)(b:Int)(L:af):Prop:=z.ov=true∨(E.fuel-z.s.steps<b∧MI z.s∧(0≤z.s.opened∧z.s.opened≤1200)∧LI L)
section
variable {α : Type} {E : Env0} {z z' : jo} {b : Int} {L L' : List Int} {A : cQ → dp α} {x : α} {p : α → Prop}
theorem Gu.XN(h:Gu E z b L){b':Int}(hb:b≤b')(hL:∀x,x∈L'→x∈L∨In64 x):Gu E z b' L':=h.imp id fun⟨h1,h2,h3,h4⟩=>⟨oM,h2,h3,fun x hx=>(hL x hx).elim (h4 x) id⟩
theorem Gu.call(h:Gu E z b L)(hk:Rp z.s (A z.s))(hi:LI L→KI p z.s (A z.s))(he:ey (z.go A) (z'.go (dp.ok x)))(hL:LI L→p x→LI L'):Gu E z' b L':=by
 cases hz:z'.ov with
 |true=>exact .inl hz
 |false=>
  obtain⟨h1,h2⟩:=he.got hz;rcases h with h|⟨h3,h4,h5,h6⟩
  ·rw[h]at h1;cases h1
  ·obtain⟨h7,h8⟩:=hk _ _ h2;obtain⟨h9,xm⟩:=hi h6 h4 _ _ h2;exact .inr ⟨oM,h9,by rw[h8];exact h5,hL h6 xm⟩
theorem Gu.in_(h:Gu E z b L)(hz:z.ov=false){x:Int}(hx:x∈L):In64 x:=by
 rcases h with h|h
 ·rw[h]at hz;cases hz
 ·exact h.2.2.2 x hx
theorem Gu.run(h:Gu E z b L)(hz:z.ov=false):E.fuel-z.s.steps<b∧MI z.s∧(0≤z.s.opened∧z.s.opened≤1200)∧LI L:=by
 rcases h with h|h
 ·rw[h]at hz;cases hz
 ·exact h
end
section
variable {E : Xb} {z z' : jo} {b : Int} {loc L : List Int} {g : Nat}
theorem Gu.step(h:Gu E.toEnv0 z (b+1) L)(hz:z'.ov=false)(he:ey (z.go (cT E.toEnv0)) (z'.go (dp.ok ()))):Gu E.toEnv0 z' b L:=by
 obtain⟨h1,h2⟩:=he.got hz;obtain⟨h3,h4,h5,h6⟩:=h.run h1;have h7:=Ge h2;unfold cT at h2;split at h2
 ·cases h2
 ·injection h2 with _ h2;refine .inr ⟨by omega,?_,by rw[h7.2];exact h5,h6⟩;rw[←h2];exact h4
end
end Go.Mor
namespace Go.Mor
open Go.RowKit
def vc{α:Type}(key:α→aV)(l:List α)(nm:aV)(j:Nat):Prop:=∀i x,i<j→l[i]?=some x→key x≠nm
section
variable {α : Type} {key : α → ByteArray} {l : List α} {nm : ByteArray} {j : Nat} {x : α}
theorem vc.zero:vc key l nm 0:=fun i _ hi=>absurd hi (QoB i)
theorem vc.next(h:vc key l nm j)(hx:l[j]?=some x)(hc:¬(key x).toList=nm.toList):vc key l nm (j+1):=fun i y hi hy=>by
 by_cases e:i=j
 ·subst e;rw[hx]at hy;injection hy with hy;subst hy;exact fun h=>hc (by rw[h])
 ·exact h i y oM hy
end
theorem re{nm:aV}{v:Int}:∀(l:List (aV×Int)) (j:Nat),l[j]?=some (nm,v)→vc (·.1) l nm j→fh l nm=some v
 |[],j,h,_=>by simp at h
 |(k,u)::r,0,h,_=>by simp only[List.getElem?_cons_zero,Kr,Qaq]at h;obtain⟨rfl,rfl⟩:=h;unfold fh;rw[BEq.rfl]
 |(k,u)::r,j+1,h,hn=>by have h0:=hn 0 (k,u) oM rfl;unfold fh;rw[beq_eq_false_iff_ne.2 (fun e=>h0 e.symm)];exact re r j (by simpa using h) (fun i x hi hx=>hn (i+1) x oM (by simpa using hx))
theorem Jm{nm:aV}{l:List (aV×Int)}(h:vc (·.1) l nm l.length):fh l nm=none:=FH fun hm=>by
 obtain⟨p,hp,he⟩:=Qhz.1 hm;obtain⟨i,hi⟩:=Qmp.1 hp;exact h i p (List.getElem?_eq_some_iff.1 hi).1 hi he
section
variable {cs : List uA} {ds : List bE} {j : Nat} {f : uA} {d : bE} {nm : ByteArray}
theorem sX:(cP ds ds.length)[j]?=(ds[j]?).map fun d=>(d.nm,(aJ ds j:Int)):=by
 unfold cP;rw[QoF,List.getElem?_map,List.getElem?_zipIdx];cases ds[j]?<;>simp
theorem R4(h:vc bE.nm ds nm j):vc (·.1) (cP ds ds.length) nm j:=fun i p hi hp=>by
 rw[sX]at hp;cases hc:ds[i]? with
 |none=>rw[hc]at hp;cases hp
 |some f=>
  rw[hc]at hp;simp only[Fc,Kr]at hp;rw[←hp];exact h i f hi hc
theorem R5(hf:ds[j]?=some d)(he:d.nm.toList=nm.toList)(h:vc bE.nm ds nm j):fh (cP ds ds.length) nm=some (aJ ds j:Int):=re _ j (by rw[sX,hf];simp only[Fc,kq.1 he]) (R4 h)
theorem GI(h:vc bE.nm ds nm ds.length):fh (cP ds ds.length) nm=none:=by
 refine Jm ?_;have:(cP ds ds.length).length=ds.length:=by unfold cP;simp
 rw[this];exact R4 h
end
theorem xC{x:Int}(h:In64 x):IntKind.i64.wrap x=x:=IntWalk.i64_in x h
theorem R7{x:Int}(h:9223372036854775807<x)(h2:x≤9223372041149743103):IntKind.i64.wrap x=x-18446744073709551616:=by
 have e:x % 18446744073709551616=x:=Int.emod_eq_of_lt oM oM;unfold IntKind.wrap;simp only[IntKind.signed,IntKind.bits,Bool.true_and];show(if decide (x % 18446744073709551616≥9223372036854775808)=true then x % 18446744073709551616-18446744073709551616 else x % 18446744073709551616)=_;rw[e,Kt (by rw[QhA];omega)]
theorem R8{a n:Int}{s:cQ}(h1:¬a< -2147483647)(h2:¬a>s.next)(h3:¬a+n<1)(h4:¬a+n≥s.next)(hn:s.next≤262144):uy (IntKind.i64.wrap (a+n)) s= .ok (a+n).toNat s:=by
 rw[xC ⟨oM,oM⟩];unfold uy;rw[Ds oM]
theorem XO{a n:Int}{s:cQ}(ha:In64 a)(h0:0≤n)(h1:n≤2147483647)(h:a< -2147483647∨a>s.next∨a+n<1∨a+n≥s.next)(hs:1≤s.next)(hn:s.next≤262144):uy (IntKind.i64.wrap (a+n)) s= .stop 5 0 s:=by
 have Mr:=ha.1;have Aw:=ha.2;unfold uy;by_cases hb:a+n≤9223372036854775807
 ·rw[xC ⟨oM,hb⟩,Kt oM]
 ·rw[R7 oM oM,Kt oM]
def fX(ds:List bE)(j:Nat):af:=(List.range j).map fun i=>(aJ ds i:Int)
theorem GJ{ds:List bE}{j:Nat}:(fX ds j).length=j:=by unfold fX;simp
theorem uf{ds:List bE}{j i:Nat}(h:i<j):(fX ds j)[i]?=some (aJ ds i:Int):=by
 unfold fX;rw[List.getElem?_map,List.getElem?_range h];rfl
def Nw(op a b:Int)(s:cQ):dp Int:=if(cA op a b).2=0 then .ok (cA op a b).1 s else .stop 2 (cA op a b).2 s
section
variable {op a b : Int}
theorem R9(h:op=4∨op=5)(hb:b=0):cA op a b=(0,3):=by rw[p9 h,Bo hb]
theorem Sa(h:op=4)(hb:b= -1):cA op a b=(IntKind.i64.wrap (0-a),0):=by rw[p9 (.inl h),Bp hb h]
theorem Sb(h:op=5)(hb:b= -1):cA op a b=(0,0):=by rw[p9 (.inr h),Br hb oM]
theorem Sc(h:op=4)(h1:b≠0)(h2:b≠-1):cA op a b=(IntKind.i64.wrap (a.tdiv b),0):=by rw[p9 (.inl h),Bs h1 h2 h]
theorem Sd(h:op=5)(h1:b≠0)(h2:b≠-1):cA op a b=(a.tmod b,0):=by rw[p9 (.inr h),Bx h1 h2 oM]
end
theorem La(b:Int):IntKind.u64.wrap (tB b 63)=tC b:=by
 have h63:(BitVec.ofInt 64 63).toNat=63:=dQ;have hw:BitVec.ofInt 64 (IntKind.u64.wrap b)=BitVec.ofInt 64 b:=by
  apply Qp9;have e:IntKind.u64.wrap b=b % 18446744073709551616:=by unfold IntKind.wrap;simp[IntKind.signed,IntKind.bits]
  rw[e];simp only[BitVec.toNat_ofInt];congr 1;exact Int.emod_emod_of_dvd b dQ
 unfold tC tB;rw[hw];generalize hx:(BitVec.ofInt 64 b&&&BitVec.ofInt 64 63).toNat=x;have hle:x≤63:=by rw[←hx,BitVec.toNat_and,h63];exact Nat.and_le_right
 rw[xC ⟨oM,oM⟩]
theorem Se{l:List (aV×Int)}{nm:aV}(h:(fh l nm).getD 0=0)(hn:∀n,fh l nm=some n→1≤n):fh l nm=none:=by
 cases hq:fh l nm with
 |none=>rfl
 |some n=>
  have:=hn n hq;rw[hq]at h;have h2:n=0:=h;omega
theorem Sf{l:af}(h:0<l.length):a0 l∈l:=by
 cases l with
 |nil=>cases h
 |cons x r=>exact Qop ..
end Go.Mor
namespace Go.Mor
open Go.RowKit
structure GK(E:Env0):Prop where
 names:∀nm n,fh E.names nm=some n→In64 n
 data:∀nm n,fh E.data nm=some n→In64 n
 inp:LI E.inp
 next:E.bR≤262144
 fns:∀f,f∈E.fns→f.WF
section
variable {E : Env0} {call : Int → List Int → cQ → dp Int}
theorem Sg{n:Int}{s:cQ}:KI (fun _=>True) s (uy n s):=by unfold uy;exact .ite (fun _=> .stop) (fun _=> .ok id trivial)
theorem Qfx{l:af}(h:LI l):In64 (a1 l):=Ro h 1
theorem D5{bC args:af}(h:LI bC):LI (fe bC args):=fun x hx=>by
 obtain⟨v,_,rfl⟩:=Qhz.1 hx;exact Ro h _
theorem Lb(hE:GK E){i:bl}{l:af}(hn:In64 i.n)(hl:LI l)(hc:∀n l s,LI l→KI In64 s (call n l s))(s:cQ):KI In64 s (bV E call i l s):=by
 unfold bV;have hE1:=hE.next;refine .ite (fun _=> .ok id hn) fun _=> .ite (fun _=> ?_) fun _=> .ite (fun _=> ?_) fun _=> .ite (fun _=> ?_) fun _=> .ite (fun _=>hc _ _ s (XM hl)) fun _=> .ite (fun _=> ?_) fun _=> .ite (fun _=> ?_) fun _=> .ite (fun _=> ?_) fun _=>
  .ite (fun _=> .ite (fun _=> .ok id (Ro hE.inp _)) (fun _=> .ok id ⟨dQ,dQ⟩)) fun _=> .ite (fun _=> ?_) fun _=> .ite (fun _=> .ite (fun _=> .stop) (fun _=> .ok id jO)) fun _=> .ite (fun _=> .ok id (Qap hl)) fun _=>
  .ite (fun _=> .ok id Qfw) fun _=> .ite (fun _=> .ok id (Qcr (Qap hl))) (fun _=> .stop)
 ·exact Sg.bind fun k s2 _=>fun hs=>(KI.ok id (Ro hs.1 _):KI In64 s2 _) hs
 ·exact Sg.bind fun k s2 _=> .ok (fun hm=>⟨zm hm.1 (Qfx hl),hm.2⟩) jO
 ·split
  ·exact hc _ _ s hl
  ·exact .stop
 ·split
  ·exact .ok id (hE.data _ _ ‹_›)
  ·exact .stop
 ·split
  ·exact .ok id (hE.names _ _ ‹_›)
  ·exact .stop
 ·intro hs x s' he;have h1:=hs.2.1;have h2:=hs.2.2;split at he
  ·cases he
  split at he
  ·cases he
  injection he with he1 Wv;rw[←he1,←Wv];exact⟨⟨hs.1,by show 0≤s.next+a0 l;omega,by show s.next+a0 l≤262144;omega⟩,ue h1 oM⟩
 ·exact .ok (fun h=>by split<;>exact h) jO
theorem GL(hE:GK E)(hc:∀n l s,LI l→KI In64 s (call n l s)):∀(is:List bl),(∀i,i∈is→In64 i.n)→∀(v:af) (s:cQ),LI v→KI LI s (cS E call is v s)
 |[],_,_,_,hv=> .ok id hv
 |i::r,h,v,s,hv=>by
  refine K9.bind fun _ s _=>(Lb hE (h i (Qop ..)) (D5 hv) hc s).bind fun u s hu=> ?_
  refine GL hE hc r (fun j hj=>h j (Qmq _ hj)) _ s ?_;split
  ·exact zm hv hu
  ·exact hv
theorem Cz:∀(ps:List (Int×Int)) (v:af),LI v→(∀p,p∈ps→In64 p.2)→LI (jF v ps)
 |[],_,h,_=>h
 |(d,u)::r,v,h,hp=>Cz r _ (zm h (hp (d,u) (Qop ..))) (fun p hx=>hp p (Qmq _ hx))
theorem Lc{ps:List bZ}{a:Nat}{v:af}(h:LI v):LI (gr ps a v):=Cz _ _ h (fun p hp=>by
 obtain⟨q,_,rfl⟩:=Qhz.1 hp;exact Ro h _)
def sY(E:Env0)(call:Int→af→cQ→dp Int)(x:aE)(bC:af)(s:cQ):dp (Int×Int×af):=(cS E call x.insts bC s).bind fun bC s=>(cT E s).bind fun _ s=>
  if x.e=0 then .ok (x.a,0,bC) s
  else if x.e=1 then .ok (if bC.getD x.v.toNat 0≠0 then x.a else x.b,0,bC) s
  else if x.e=3 then .stop 2 x.a s
  else .ok (-1,if x.v≥0 then bC.getD x.v.toNat 0 else 0,bC) s
theorem Ld{f:et}{k fr:Int}{v:af}{s:cQ}{x:aE}(hx:f.bh[k.toNat]?=some x):fi E call f k fr v s=sY E call x (gr x.au (eG (f.src k.toNat) fr) v) s:=by
 unfold fi sY;rw[hx]
theorem XP(hE:GK E)(hc:∀n l s,LI l→KI In64 s (call n l s)){x:aE}(hx:x.Ok){v:af}(hv:LI v)(s:cQ):KI (fun r=>In64 r.2.1∧LI r.2.2) s (sY E call x v s):=by
 unfold sY;refine(GL hE hc _ (fun i hi=>(hx.insts i hi).n) v s hv).bind fun u s hu=>K9.bind fun _ s _=> ?_
 refine .ite (fun _=> .ok id ⟨jO,hu⟩) fun _=> .ite (fun _=> .ok id ⟨jO,hu⟩) fun _=> .ite (fun _=> .stop) fun _=> .ok id ⟨?_,hu⟩
 show In64 (if x.v≥0 then u.getD x.v.toNat 0 else 0);split
 ·exact Ro hu _
 ·exact jO
def CA(E:Env0)(g:Nat)(f:et)(k:Int)(x:aE)(v:af)(s:cQ):dp Int:=(sY E (dN E g) x v s).bind fun r s=>if r.1<0 then .ok r.2.1 {s with opened:=s.opened-1}else iW E g f r.1 k r.2.2 s
theorem GM{g:Nat}{f:et}{k fr:Int}{v:af}{s:cQ}{x:aE}(hx:f.bh[k.toNat]?=some x):iW E (g+1) f k fr v s=CA E g f k x (gr x.au (eG (f.src k.toNat) fr) v) s:=by
 rw[lb];unfold CA;rw[Ld hx]
theorem D6(hE:GK E):∀(g:Nat) (f:et) (k fr:Int) (v:af) (s:cQ),f.WF→LI v→KI In64 s (iW E g f k fr v s)
 |0,_,_,_,_,_,_,_=> .stop
 |g+1,f,k,fr,v,s,hW,hv=>by
  have hc:∀n l s,LI l→KI In64 s (dN E g n l s):=fun n l s hl=>by
   unfold dN fF;refine .ite (fun _=> .stop) fun _=> ?_
   split
   ·exact .stop
   rename_i q hq;refine .ite (fun _=> .stop) fun _=> .ite (fun _=> .stop) fun _=> ?_
   exact KI.same (s2:={s with opened:=s.opened+1}) id (D6 hE g q 0 (-1) _ _ (hE.fns q (D7 hq)) (fun x hx=>by
    rcases Qn2.1 hx with hx|hx
    ·exact hl x hx
    ·rw[(List.mem_replicate.1 hx).2];exact jO))
  rw[lb];cases hx:f.bh[k.toNat]? with
  |none=>
   have:fi E (dN E g) f k fr v s= .stop 5 0 s:=by unfold fi;rw[hx]
   rw[this];exact KI.stop
  |some x=>
   rw[Ld hx];refine(XP hE hc (hW.ok x (D7 hx)) (Lc hv) s).bind fun r s hr=> .ite (fun _=> .ok id hr.1) (fun _=>D6 hE g f _ _ _ s hW hr.2)
theorem GN(hE:GK E)(g:Nat)(n:Int)(l:af)(s:cQ)(hl:LI l):KI In64 s (dN E g n l s):=by
 unfold dN fF;refine .ite (fun _=> .stop) fun _=> ?_
 split
 ·exact .stop
 rename_i q hq;refine .ite (fun _=> .stop) fun _=> .ite (fun _=> .stop) fun _=> ?_
 exact KI.same (s2:={s with opened:=s.opened+1}) id (D6 hE g q 0 (-1) _ _ (hE.fns q (D7 hq)) (fun x hx=>by
  rcases Qn2.1 hx with hx|hx
  ·exact hl x hx
  ·rw[(List.mem_replicate.1 hx).2];exact jO))
theorem Jn(g:Nat)(n:Int)(l:af)(s:cQ):Rp s (dN E g n l s):=fun x s' h=>⟨BQ g n l s x s' h,yI g n l s x s' h⟩
theorem Sh{g:Nat}{l:af}{nm:aV}{s:cQ}:(match fh E.names nm with|some n=>dN E g n l s|none=> .stop 5 0 s)=dN E g ((fh E.names nm).getD 0) l s:=by
 cases fh E.names nm with
 |some n=>rfl
 |none=>
  show dp.stop 5 0 s=fF E (iW E g) 0 l s;rw[lk (.inl dQ)]
end
end Go.Mor
namespace Go.Mor
open Go.RowKit
structure XQ extends Env0
abbrev XQ.sQ(E:XQ):List et:=E.fns
structure RX where
 E:XQ
 ds:List bE
 r:Nat
 fA:ar
 fc:Nat
 qA:ar
 qc:Nat
 dA:ar
 dc:Nat
 pA:ar
 pc:Nat
 mG:Nat
 iA:ar
 ic:Nat
abbrev D8(X:RX)(z:jo)(oA:ar)(oc:Nat):aP:=[.slice X.dA X.ds.length X.dc,.slice X.pA X.ds.length X.pc,.slice (some (aZ X.mG)) X.E.bR X.E.bR,vI z.s.next,.slice X.iA X.E.inp.length X.ic,vI (z.s.pos:Int),.int .i64 z.k,vI z.c,.slice oA z.s.out.length oc,vI z.s.steps,.bool z.ov,vI X.E.fuel,vI z.s.opened,.slice X.fA X.E.sQ.length X.fc,.slice X.qA X.E.sQ.length X.qc]
abbrev oN(X:RX)(z:jo)(oA:ar)(oc:Nat):bx:= .aB X.r 138 (D8 X z oA oc)
abbrev mZ(X:RX)(z:jo):bx:= .row 2 1 (some (aZ X.mG)) X.E.bR X.E.bR (ints z.s.mem)
abbrev mM(z:jo)(oA:ar)(oc:Nat):bx:= .row 5 1 oA z.s.out.length oc (qW z.s.out)
abbrev dR(X:RX)(z:jo)(oA:ar)(oc:Nat):List bx:=[.aB X.r 138 (D8 X z oA oc),.row 2 1 (some (aZ X.mG)) X.E.bR X.E.bR (ints z.s.mem),.row 5 1 oA z.s.out.length oc (qW z.s.out)]
def RX.T(X:RX):List bx:=X.E.fns.map (fun f=>bx.fn f.A f.bh)++(X.E.fns.map (fun f=>bx.rd f.qA (QT f))++X.E.fns.flatMap (fun f=>f.bG.map (fun q=>bx.rd q.1 (ints q.2.2))))
def RX.ro(X:RX):bx:= .all (.l7 X.fA 5 (X.E.sQ.map et.cells):: .l7 X.dA 4 (X.ds.map bE.cells):: .rd X.pA (ints (fX X.ds X.ds.length)):: .rd X.iA (qW X.E.inp):: .rd X.qA (X.E.fns.map (fun f=> .slice f.qA f.bG.length f.qc))::X.T)
section
variable {S : Nat → Prop} {w : World} {X : RX}
theorem RO.Nx(h:RO S w X.ro):RO S w (.l7 X.fA 5 (X.E.sQ.map et.cells)):=h.sub (Qop ..)
theorem RO.Qfy(h:RO S w X.ro):RO S w (.l7 X.dA 4 (X.ds.map bE.cells)):=h.sub (.tail _ (Qop ..))
theorem RO.xpl(h:RO S w X.ro):RO S w (.rd X.pA (ints (fX X.ds X.ds.length))):=h.sub (.tail _ (.tail _ (Qop ..)))
theorem RO.xin(h:RO S w X.ro):RO S w (.rd X.iA (qW X.E.inp)):=h.sub (.tail _ (.tail _ (.tail _ (Qop ..))))
theorem RO.xq(h:RO S w X.ro):RO S w (.rd X.qA (X.E.fns.map (fun f=> .slice f.qA f.bG.length f.qc))):=h.sub (.tail _ (.tail _ (.tail _ (.tail _ (Qop ..)))))
theorem RO.xfn(h:RO S w X.ro){f:et}(hf:f∈X.E.fns):RO S w (.fn f.A f.bh):=h.sub (.tail _ (.tail _ (.tail _ (.tail _ (.tail _ (Qox _ (Qhz.2 ⟨f,hf,rfl⟩)))))))
theorem RO.xsv(h:RO S w X.ro){f:et}(hf:f∈X.E.fns):RO S w (.rd f.qA (QT f)):=h.sub (.tail _ (.tail _ (.tail _ (.tail _ (.tail _ (Qo5 _ (Qox _ (Qhz.2 ⟨f,hf,rfl⟩))))))))
theorem RO.xs(h:RO S w X.ro){f:et}(hf:f∈X.E.fns){q:ar×Nat×af}(hq:q∈f.bG):RO S w (.rd q.1 (ints q.2.2)):=h.sub (.tail _ (.tail _ (.tail _ (.tail _ (.tail _ (Qo5 _ (Qo5 _ (Qo8.2 ⟨f,hf,Qhz.2 ⟨q,hq,rfl⟩⟩))))))))
end
def Vh(qs:List et):List (aV×Int):=qs.zipIdx.map fun p=>(p.1.nm,((p.2+1:Nat):Int))
section
variable {qs : List et} {j : Nat} {f : et} {nm : ByteArray}
theorem xD:(Vh qs)[j]?=(qs[j]?).map fun f=>(f.nm,((j+1:Nat):Int)):=by
 unfold Vh;rw[List.getElem?_map,List.getElem?_zipIdx];cases qs[j]?<;>simp
theorem Si(h:vc et.nm qs nm j):vc (·.1) (Vh qs) nm j:=fun i p hi hp=>by
 rw[xD]at hp;cases hc:qs[i]? with
 |none=>rw[hc]at hp;cases hp
 |some f=>
  rw[hc]at hp;simp only[Fc,Kr]at hp;rw[←hp];exact h i f hi hc
theorem Qct(hf:qs[j]?=some f)(he:f.nm.toList=nm.toList)(h:vc et.nm qs nm j):fh (Vh qs) nm=some ((j+1:Nat):Int):=re _ j (by rw[xD,hf];simp only[Fc,kq.1 he]) (Si h)
theorem Sj(h:vc et.nm qs nm qs.length):fh (Vh qs) nm=none:=by
 refine Jm ?_;have:(Vh qs).length=qs.length:=by unfold Vh;simp
 rw[this];exact Si h
theorem Sk{n:Int}(h:fh (Vh qs) nm=some n):1≤n∧n≤qs.length:=by
 obtain⟨i,hi⟩:=Qmp.1 (KQ h);rw[xD]at hi;cases hd:qs[i]? with
 |none=>rw[hd]at hi;cases hi
 |some d=>
  rw[hd]at hi;simp only[Fc,Kr,Qaq]at hi;have:=(List.getElem?_eq_some_iff.1 hd).1;omega
end
structure RX.WF(X:RX):Prop where
 fns:∀f,f∈X.E.fns→f.WF
 XR:X.E.sQ.length≤1000
 nds:X.ds.length≤1000000
 next:aJ X.ds X.ds.length≤262144
 names:X.E.names=Vh X.E.fns
 data:X.E.data=cP X.ds X.ds.length
 mem:X.E.bR≤262144
 fuel:0≤X.E.fuel∧X.E.fuel≤4194304
 inp:X.E.inp.length≤4096
 ic:X.E.inp.length≤X.ic
 bytes:∀b,b∈X.E.inp→0≤b∧b≤255
 nd:∀f,f∈X.E.fns→∀k,(f.src k).Nodup
structure dM(X:RX)(z:jo):Prop where
 mem:z.s.mem.length=X.E.bR
 n1:1≤z.s.next
 n2:z.s.next≤X.E.bR
 pos:z.s.pos≤X.E.inp.length
 out:z.s.out.length≤4096
 s1:0≤z.s.steps
 s2:z.s.steps≤X.E.fuel
theorem vd{ds:List bE}{nm:aV}{n:Int}(h:fh (cP ds ds.length) nm=some n):∃j,j<ds.length∧n=(aJ ds j:Int):=by
 obtain⟨i,hi⟩:=Qmp.1 (KQ h);rw[sX]at hi;cases hd:ds[i]? with
 |none=>rw[hd]at hi;cases hi
 |some d=>
  rw[hd]at hi;simp only[Fc,Kr,Qaq]at hi;exact⟨i,(List.getElem?_eq_some_iff.1 hd).1,hi.2.symm⟩
section
variable {X : RX} {z : jo}
theorem RX.WF.ein(h:X.WF):GK X.E.toEnv0 where
 names nm n hn:=by rw[h.names]at hn;have:=Sk hn;have:X.E.fns.length≤1000:=h.XR;exact ue oM oM
 data nm n hn:=by rw[h.data]at hn;obtain⟨j,hj,rfl⟩:=vd hn;have:=ji (ds:=X.ds) (Nat.le_of_lt hj);have:=h.next;exact ue oM oM
 inp b hb:=by have:=h.bytes b hb;exact ue this.1 oM
 next:=h.mem;fns f hf:=h.fns f hf
theorem Sl(hX:X.WF){p:Nat}:0≤X.E.inp.getD p 0∧X.E.inp.getD p 0≤255:=by
 by_cases h:p<X.E.inp.length
 ·have:X.E.inp.getD p 0=X.E.inp[p]:=by simp[List.getD,h]
  rw[this];exact hX.bytes _ (QpC h)
 ·have:X.E.inp.getD p 0=0:=by simp[List.getD,h]
  rw[this];omega
theorem dM.fin(h:dM X z){k c:Int}:dM X (z.fin k c):=⟨by rw[QdY];exact h.mem,by rw[QdY];exact h.n1,by rw[QdY];exact h.n2,by rw[QdY];exact h.pos,by rw[QdY];exact h.out,by rw[QdY];exact h.s1,by rw[QdY];exact h.s2⟩
theorem dM.step(h:dM X z)(hn:¬z.s.steps=X.E.fuel):dM X {z with s:={z.s with steps:=z.s.steps+1}}:=⟨h.mem,h.n1,h.n2,h.pos,h.out,by have:=h.s1;show 0≤z.s.steps+1;omega,by have:=h.s2;show z.s.steps+1≤_;omega⟩
theorem dM.take(h:dM X z){n:Int}(h0:0≤n)(h1:n≤(X.E.bR:Int)-z.s.next):dM X {z with s:={z.s with next:=z.s.next+n}}:=⟨h.mem,by have:=h.n1;show 1≤z.s.next+n;omega,by show z.s.next+n≤_;omega,h.pos,h.out,h.s1,h.s2⟩
theorem dM.read(h:dM X z)(hp:z.s.pos<X.E.inp.length):dM X {z with s:={z.s with pos:=z.s.pos+1}}:=⟨h.mem,h.n1,h.n2,hp,h.out,h.s1,h.s2⟩
theorem dM.write(h:dM X z)(hp:z.s.out.length<4096)(b:Int):dM X {z with s:={z.s with out:=z.s.out++[b]}}:=⟨h.mem,h.n1,h.n2,h.pos,by show(z.s.out++[b]).length≤_;rw[QoG];exact hp,h.s1,h.s2⟩
theorem dM.set(h:dM X z)(k:Nat)(v:Int):dM X {z with s:={z.s with mem:=z.s.mem.set k v}}:=⟨by show(z.s.mem.set k v).length=_;rw[Qpa];exact h.mem,h.n1,h.n2,h.pos,h.out,h.s1,h.s2⟩
theorem Sm{w:World}{A:ar}{ad:Addr}{l:af}{p:Nat}(h:(bx.rd A (qW l)).holds w)(hA:A=some ad)(hp:p<l.length):w.cell? (ad.add (((p:Int)+1-1).toNat*1))=some (.int .u8 (l.getD p 0)):=by
 have e:((p:Int)+1-1).toNat=p:=oM;rw[e];have h1:(qW l)[p]?=some (.int .u8 (l.getD p 0)):=by unfold qW;rw[List.getElem?_map,List.getElem?_eq_getElem hp];simp[List.getD,hp]
 exact bJ h hA h1
theorem zn{oA:ar}{oc:Nat}{b:Bool}(h:z.ov=b):dR X z oA oc=[.aB X.r 138 (.slice X.dA X.ds.length X.dc:: .slice X.pA X.ds.length X.pc:: .slice (some (aZ X.mG)) X.E.bR X.E.bR:: .int .i64 z.s.next:: .slice X.iA X.E.inp.length X.ic:: .int .i64 (z.s.pos:Int):: .int .i64 z.k:: .int .i64 z.c:: .slice oA z.s.out.length oc:: .int .i64 z.s.steps:: .bool b:: .int .i64 X.E.fuel:: .int .i64 z.s.opened::[.slice X.fA X.E.sQ.length X.fc,.slice X.qA X.E.sQ.length X.qc]),.row 2 1 (some (aZ X.mG)) X.E.bR X.E.bR (ints z.s.mem),.row 5 1 oA z.s.out.length oc (qW z.s.out)]:=by
 subst h;rfl
end
abbrev xS(X:RX)(z:jo)(oA:ar)(oc:Nat):Nat→Prop:=(bx.pk (dR X z oA oc)).fp
def XV(X:RX)(S:Nat→Prop)(w:World)(z:jo)(A:cQ→dp Int)(v:Value)(w':World):Prop:=∃x z' oA oc,v=vI x∧dM X z'∧ey (z.go A) (z'.go (dp.ok x))∧Mem S w w' (dR X z' oA oc)
def Qcu(P:Program)(X:RX)(z:jo)(oA:ar)(oc:Nat)(w:World)(fn:FuncId)(args:aP)(A:cQ→dp Int):Prop:=Calls P fn args.toArray w (ez (XV X (xS X z oA oc) w z A))
def Le(P:Program)(X:RX)(fn:FuncId)(call:Int→af→cQ→dp Int)(b:Int):Prop:=∀(n:Int) (l:af) (bA:ar) (bc:Nat) (z:jo) (oA:ar) (oc:Nat) (w:World),dM X z→Gu X.E.toEnv0 z b l→(bx.pk (dR X z oA oc)).holds w→RO (xS X z oA oc) w X.ro→RO (xS X z oA oc) w (.rd bA (ints l))→l.length≤17→Qcu P X z oA oc w fn [pT X.r 0,vI n,.slice bA l.length bc] (call n l)
def YIV(X:RX)(S:Nat→Prop)(w:World)(z:jo)(op:Int)(A:cQ→dp Int)(v:Value)(w':World):Prop:=∃x z' oA oc,v=vI x∧dM X z'∧(∃x',(aK op→x=x')∧ey (z.go A) (z'.go (dp.ok x')))∧Mem S w w' (dR X z' oA oc)
def YBV(X:RX)(S:Nat→Prop)(w:World)(z:jo)(b0:Int)(lq m:Nat)(A:cQ→dp (Int×Int×af))(v:Value)(w':World):Prop:=∃b a bC z' oA oc,v= .tuple #[vI b,vI a]∧dM X z'∧bC.length=m∧(z'.ov=true→b= -1)∧Gu X.E.toEnv0 z' b0 bC∧ey (z.go A) (z'.go (dp.ok (b,a,bC)))∧Mem S w w' (dR X z' oA oc++[.row 2 1 (some (aZ lq)) m m (ints bC)])
abbrev yZ(X:RX)(z:jo)(oA:ar)(oc lq m:Nat)(v:af):Nat→Prop:=(bx.pk (dR X z oA oc++[.row 2 1 (some (aZ lq)) m m (ints v)])).fp
theorem dM.toO{X:RX}{z:jo}(h:dM X z){n:Int}:dM X {z with s:={z.s with opened:=n}}:=⟨h.mem,h.n1,h.n2,h.pos,h.out,h.s1,h.s2⟩
theorem Sn{G:dp Int}{z:jo}{x:Int}(hr:ey G (z.go fun s=> .ok x {s with opened:=s.opened-1}))(h:z.ov=false→In64 (z.s.opened-1)):ey G (jo.go {z with s:={z.s with opened:=IntKind.i64.wrap (z.s.opened-1)}} (dp.ok x)):=by
 cases hv:z.ov with
 |true=>
  rw[ud hv]at hr;unfold jo.go;rw[Kt rfl];exact hr
 |false=>
  rw[sW hv]at hr;unfold jo.go;rw[Ds Bool.false_ne_true,xC (h hv)];exact hr
theorem Qcv{l:af}(h:LI l){n:Nat}:LI (l++List.replicate n 0):=fun x hx=>by
 rcases Qn2.1 hx with hx|hx
 ·exact h x hx
 ·rw[(List.mem_replicate.1 hx).2];exact jO
theorem Qfz{l:af}{n:Nat}:List.replicate n (vI 0)=ints (l.take 0++List.replicate (n-0) 0):=by simp[ints]
theorem Qcw{l:af}{n j:Nat}(hj:j<l.length)(hn:l.length≤n):(l.take j++List.replicate (n-j) 0).set j (l.getD j 0)=l.take (j+1)++List.replicate (n-(j+1)) 0:=by
 have e:n-j=(n-(j+1))+1:=oM;have h1:(l.take j).length=j:=by rw[QoT];omega
 have h2:l.getD j 0=l[j]:=by simp[List.getD,hj]
 rw[QpJ _ _ oM,h1,Qpl,e,Qpx,List.set_cons_zero,Qow hj,QoC,h2];rfl
end Go.Mor
namespace Go.Mor
open Go.RowKit
section
variable {names data : List (ByteArray × Int)} {ds : List bE} {base m : List Int} {j k p bR : Nat} {d : bE} {v : Int}
def zZ(ds:List bE)(bR:Nat):Nat→af
 |0=>List.replicate bR 0
 |j+1=>match ds[j]? with
  |none=>zZ ds bR j
  |some d=>dx (zZ ds bR j) (aJ ds j) d.words
def EN(names data:List (aV×Int))(ds:List bE)(base:af):Nat→af
 |0=>base
 |j+1=>match ds[j]? with
  |none=>EN names data ds base j
  |some d=>e8 names data (aJ ds j) (EN names data ds base j) d.refs
theorem zo(h:ds[j]?=some d):zZ ds bR (j+1)=dx (zZ ds bR j) (aJ ds j) d.words:=by
 show(match ds[j]? with
  |none=>zZ ds bR j
  |some d=>dx (zZ ds bR j) (aJ ds j) d.words)=_
 rw[h]
theorem ug(h:ds[j]?=some d):EN names data ds base (j+1)=e8 names data (aJ ds j) (EN names data ds base j) d.refs:=by
 show(match ds[j]? with
  |none=>EN names data ds base j
  |some d=>e8 names data (aJ ds j) (EN names data ds base j) d.refs)=_
 rw[h]
theorem qB(h:ds[j]?=some d)(hm:aJ ds ds.length≤bR):aJ ds j+d.words.length≤bR:=by
 have hj:=(List.getElem?_eq_some_iff.1 h).1;have:=ji (ds:=ds) (j:=j+1) (i:=ds.length) oM;rw[fM h]at this;omega
theorem D9:∀(j:Nat),j≤ds.length→aJ ds ds.length≤bR→(zZ ds bR j).length=bR
 |0,_,_=>by simp[zZ]
 |j+1,hj,hm=>by obtain⟨d,hd⟩:=aM (l:=ds) (i:=j) oM;have ih:=D9 j oM hm;rw[zo hd,vD,ih];rw[ih];exact qB hd hm
theorem Ea:∀(j:Nat),(EN names data ds base j).length=base.length
 |0=>rfl
 |j+1=>by
  unfold EN;split
  ·exact Ea j
  ·rw[qm,Ea j]
theorem GO{ws:af}{i:Nat}(hi:i<p)(hp:p≤m.length):dx (m.set i v) p ws=(dx m p ws).set i v:=by
 unfold dx;have h1:i<(m.take p).length:=by rw[QoT];omega
 rw[QoC,QoC,List.set_append_left _ _ h1,List.take_set,List.drop_set_of_lt oM]
theorem uh{ws:af}{q:Nat}:∀(rs:List (Int×aV)) (m:af),(∀r,r∈rs→q+r.1.toNat<p)→p≤m.length→dx (e8 names data q m rs) p ws=e8 names data q (dx m p ws) rs
 |[],_,_,_=>rfl
 |r::rs,m,h,hp=>by show dx (e8 names data q (m.set (q+r.1.toNat) (wG names data r.2)) rs) p ws=e8 names data q ((dx m p ws).set (q+r.1.toNat) (wG names data r.2)) rs;rw[uh rs _ (fun x hx=>h x (Qmq _ hx)) (by rw[Qpa];exact hp),GO (h r (Qop ..)) hp]
theorem vY{ws:af}(hw:∀d,d∈ds→d.WF)(hp:p≤base.length):∀(j:Nat),j≤ds.length→aJ ds j≤p→dx (EN names data ds base j) p ws=EN names data ds (dx base p ws) j
 |0,_,_=>rfl
 |j+1,hj,hle=>by obtain⟨d,hd⟩:=aM (l:=ds) (i:=j) oM;have hwd:=hw d (D7 hd);rw[fM hd]at hle;rw[ug hd,ug hd,uh d.refs _ (fun r hr=>by have:=hwd.refs r hr;omega) (by rw[Ea];exact hp),vY hw hp j oM oM]
theorem Lf(hw:∀d,d∈ds→d.WF)(hm:aJ ds ds.length≤bR):∀(j:Nat),j≤ds.length→kW names data ds bR j=EN names data ds (zZ ds bR j) j
 |0,_=>rfl
 |j+1,hj=>by obtain⟨d,hd⟩:=aM (l:=ds) (i:=j) oM;have h1:=qB hd hm;rw[yL hd,ug hd,zo hd,Lf hw hm j oM,vY hw (by rw[D9 j oM hm];omega) j oM (kQ _)]
theorem xE(h:aJ ds ds.length≤bR):Xd names data bR ds=kW names data ds bR ds.length:=by unfold Xd;rw[Kt h]
variable {cs : List uA} {s : ByteArray} {f : uA}
end
end Go.Mor
namespace Go.Mor
open Go.RowKit
section
variable {β : Type} {E : Env0} {call : Int → List Int → cQ → dp Int} {G : dp β} {z z' : jo} {l : List bl} {v : List Int} {j : Nat} {i : bl} {F : List Int → cQ → dp β}
theorem XT(hr:ey G (z.go fun s=>(cS E call (l.drop j) v s).bind F))(hi:l[j]?=some i):ey G (z.go fun s=>(cT E s).bind fun _ s=>(bV E call i (fe v i.args) s).bind fun u s=>(cS E call (l.drop (j+1)) (if 0≤i.dst∧aK i.op then v.set i.dst.toNat u else v) s).bind F):=ey.HK (fun s=>by
 obtain⟨eV,he⟩:=List.getElem?_eq_some_iff.1 hi;rw[Fb eV,he];show((cT E s).bind fun _ s=>(bV E call i (fe v i.args) s).bind fun u s=>cS E call (l.drop (j+1)) (if 0≤i.dst∧aK i.op then v.set i.dst.toNat u else v) s).bind F=_;cases cT E s with
 |stop _ _ _=>rfl
 |ok a s1=>
  show((bV E call i (fe v i.args) s1).bind fun u s=>cS E call (l.drop (j+1)) (if 0≤i.dst∧aK i.op then v.set i.dst.toNat u else v) s).bind F=(bV E call i (fe v i.args) s1).bind _;cases bV E call i (fe v i.args) s1<;>rfl) hr
theorem Qcy(hr:ey G (z.go fun s=>(cS E call (l.drop j) v s).bind F))(h:l.length≤j):ey G (z.go (F v)):=ey.HK (fun s=>by
 rw[E6 h];rfl) hr
end
def XU(E:Env0)(x:aE)(bC:af)(s:cQ):dp (Int×Int×af):=(cT E s).bind fun _ s=>
  if x.e=0 then .ok (x.a,0,bC) s
  else if x.e=1 then .ok (if bC.getD x.v.toNat 0≠0 then x.a else x.b,0,bC) s
  else if x.e=3 then .stop 2 x.a s
  else .ok (-1,if x.v≥0 then bC.getD x.v.toNat 0 else 0,bC) s
theorem XW{E:Env0}{call:Int→af→cQ→dp Int}{x:aE}{v:af}{s:cQ}:sY E call x v s=(cS E call (x.insts.drop 0) v s).bind (XU E x):=by rw[List.drop_zero];rfl
theorem Ny{v args:af}{k:Nat}{a:Int}(h:args[k]?=some a):fe v (args.take k)++[v.getD a.toNat 0]=fe v (args.take (k+1)):=by
 unfold fe;rw[List.take_add_one,h,Qou];rfl
theorem Sp{v:af}{i:bl}{x x':Int}(hs:bQ i)(hx:aK i.op→x=x')(h:0≤i.dst):(if 0≤i.dst∧aK i.op then v.set i.dst.toNat x' else v)=v.set i.dst.toNat x:=by
 have hm:aK i.op:=hs.1.resolve_right oM;rw[Kt ⟨h,hm⟩,hx hm]
theorem XX{v:af}{i:bl}{x':Int}(h:¬0≤i.dst):(if 0≤i.dst∧aK i.op then v.set i.dst.toNat x' else v)=v:=Ds (fun h1=>h h1.1)
theorem CB{E:Env0}{call:Int→af→cQ→dp Int}{x:aE}{v:af}{s s':cQ}{b a:Int}{u:af}(h:sY E call x v s= .ok (b,a,u) s'):b= -1∨(x.e=0∧b=x.a)∨(x.e=1∧(b=x.a∨b=x.b)):=by
 unfold sY at h;cases h1:cS E call x.insts v s with
 |stop _ _ _=>rw[h1]at h;cases h
 |ok u1 s1=>
  rw[h1]at h;change((cT E s1).bind _)=_ at h;cases h2:cT E s1 with
  |stop _ _ _=>rw[h2]at h;cases h
  |ok u2 s2=>
   rw[h2]at h;change(if x.e=0 then _ else _)=_ at h;split at h
   ·rename_i he;injection h with h _;injection h with h _;exact .inr (.inl ⟨he,h.symm⟩)
   ·split at h
    ·rename_i he;injection h with h _;injection h with h _;refine .inr (.inr ⟨he,?_⟩);split at h
     ·exact .inl h.symm
     ·exact .inr h.symm
    ·split at h
     ·cases h
     ·injection h with h _;injection h with h _;exact .inl h.symm
def O8(l:af)(ve:Int)(j:Nat)(a:Int):Prop:=(a=0∧∀i x,i<j→l[i]?=some x→x≠ve)∨∃i:Nat,i<j∧a=(i:Int)∧l[i]?=some ve
section
variable {l : List Int} {ve a x : Int} {j : Nat}
theorem O8.start:O8 l ve 0 0:= .inl ⟨rfl,fun i _ hi=>absurd hi (QoB i)⟩
theorem O8.XS(hx:l[j]?=some x)(h:x=ve):O8 l ve (j+1) (j:Int):= .inr ⟨j,oM,rfl,by rw[hx,h]⟩
theorem O8.Qcx(hq:O8 l ve j a)(hx:l[j]?=some x)(h:¬x=ve):O8 l ve (j+1) a:=by
 rcases hq with⟨h1,h2⟩|⟨i,h1,h2,h3⟩
 ·refine .inl ⟨h1,fun i y hi hy=> ?_⟩;by_cases e:i=j
  ·subst e;rw[hx]at hy;injection hy with hy;rw[←hy];exact h
  ·exact h2 i y oM hy
 ·exact .inr ⟨i,oM,h2,h3⟩
theorem Qd5:∀(l:af) (i:Nat),l.Nodup→l[i]?=some ve→eG l ve=i
 |[],i,_,h=>by simp at h
 |y::r,0,_,h=>by simp only[List.getElem?_cons_zero,Kr]at h;unfold eG;rw[Kt h]
 |y::r,i+1,hn,h=>by
  have h1:r[i]?=some ve:=by simpa using h
  have h2:=QpL.1 hn;unfold eG;rw[Ds (fun e=>h2.1 (by rw[e];exact D7 h1)),Qd5 r i h2.2 h1]
theorem O8.done(hq:O8 l ve l.length a)(hn:l.Nodup)(hm:ve∈l):a=(eG l ve:Int)∧eG l ve<l.length:=by
 rcases hq with⟨_,h2⟩|⟨i,h1,h2,h3⟩
 ·obtain⟨i,hi⟩:=Qmp.1 hm;exact absurd rfl (h2 i ve (List.getElem?_eq_some_iff.1 hi).1 hi)
 ·rw[Qd5 l i hn h3];exact⟨h2,h1⟩
end
theorem Jo(bs:List SB)(b:Int):(bG bs b).Nodup:=by
 unfold bG ef;exact List.Pairwise.map _ (fun a b h=>oM) (List.nodup_range.filter _)
section
variable {E : Env0} {call : Int → List Int → cQ → dp Int} {i : bl} {l : List Int} {s : cQ}
theorem Qar(h:i.op=2∨i.op=3)(hs:bQ i):0≤i.n∧i.n≤2147483647∧1≤i.args.length:=by
 rcases h with h|h
 ·have:=(xl h).1 hs;omega
 ·have:=(tw h).1 hs;omega
theorem Lg{l:List (aV×Int)}{nm:aV}(h:¬(fh l nm).getD 0=0):fh l nm=some ((fh l nm).getD 0):=by
 cases hq:fh l nm with
 |none=>rw[hq]at h;exact absurd rfl h
 |some n=>rfl
theorem XY(h:i.op=8):bV E call i l s=qw E (a0 l) s:=sq h
theorem XZ(h:i.op=9):bV E call i l s=Cj E s:=sr h
theorem X0(h:i.op=10):bV E call i l s= .ok 0 (DT (a0 l) s):=oz h
theorem X1(h:i.op<1∨13≤i.op)(h2:i.op<40):bV E call i l s=Nw (i.op-16) (a0 l) (a1 l) s:=kB h h2
end
theorem GQ{E:Env0}{z z':jo}{b:Int}{L:af}(h:Gu E z (b+1) L)(hz:z'.ov=false)(he:ey (z.go (cT E)) (z'.go (dp.ok ()))):Gu E z' b L:=Gu.step (E:=⟨E,[]⟩) h hz he
theorem Nz{E:Env0}{call:Int→af→cQ→dp Int}(hm:Mv call)(hk:BP call){i:bl}{l:af}{s:cQ}:Rp s (bV E call i l s):=fun x s' h=>⟨yC hm h,yG hk h⟩
theorem GR{E:Env0}{g:Nat}{z z':jo}{b x:Int}{v l:af}{i:bl}(hE:GK E)(h:Gu E z b v)(hn:In64 i.n)(hl:l=fe v i.args)(he:ey (z.go (bV E (dN E g) i l)) (z'.go (dp.ok x))):Gu E z' b (if 0≤i.dst∧aK i.op then v.set i.dst.toNat x else v):=by
 subst hl;refine h.call (A:=bV E (dN E g) i (fe v i.args)) (Nz (BQ g) (yI g)) (fun hv=>Lb hE hn (D5 hv) (GN hE g) z.s) he (fun hv hx=> ?_);split
 ·exact zm hv hx
 ·exact hv
theorem Qcz{f:et}{k:Nat}{x:aE}(h:Qac f k x){p:bZ}(hp:p∈x.au){q:af}(hq:f.src k=q){a:Int}{at_:Nat}(ha:a=(at_:Int)∧at_<q.length):0≤a∧a<p.args.length∧0≤p.args.getD a.toNat 0∧p.args.getD a.toNat 0<f.va:=by
 obtain⟨rfl,hl⟩:=ha;have h1:=h.Qie p hp;rw[hq]at h1;have h2:=h.Qfb p hp _ (Mor.WN (l:=p.args) (i:=at_) oM);rw[Qoq];omega
theorem Sq{E:Env0}{call:Int→af→cQ→dp Int}{f:et}(hW:f.WF){k:Int}(hk:0≤k){bC:af}{s s':cQ}{nx bk:Int}{v':af}{x:aE}(hx:f.bh[k.toNat]?=some x)(h:sY E call x bC s= .ok (nx,bk,v') s')(hn:0≤nx):nx<f.bh.length∧k∈f.src nx.toNat:=by
 have hr:(x.e=0∧nx=x.a)∨(x.e=1∧(nx=x.a∨nx=x.b)):=(CB h).resolve_left oM;have he:=hW.Qif k.toNat x nx hx hr;rw[Qo7 hk]at he;have hq:=(hW.aB _ _ hx).ends;refine⟨?_,he⟩;rcases hq with⟨h0,ha,_⟩|⟨h0,ha,hb,_⟩|⟨h0,_⟩|⟨h0,_⟩<;>rcases hr with⟨h1,h2⟩|⟨h1,h2⟩<;>first|omega|(rcases h2 with h2|h2<;>omega)
theorem QcA{n:Nat}{x:aE}(hq:fU n x){b:Int}(hr:(x.e=0∧b=x.a)∨(x.e=1∧(b=x.a∨b=x.b))):0≤b:=by
 rcases hq with⟨h0,ha,_⟩|⟨h0,ha,hb,_⟩|⟨h0,_⟩|⟨h0,_⟩<;>rcases hr with⟨h1,h2⟩|⟨h1,h2⟩<;>first|omega|(rcases h2 with h2|h2<;>omega)
def vZ(E:Env0)(f:et)(G:dp Int)(g:Nat)(j:Nat)(b a:Int)(v:af)(z:jo):Prop:=(b= -1∧j=0∧(z.ov=false→In64 (z.s.opened-1))∧ey G (z.go fun s=> .ok a {s with opened:=s.opened-1}))∨(0≤b∧∃j1 x,j=j1+1∧j1<g∧f.bh[b.toNat]?=some x∧Gu E z ((j1:Int)+1) v∧ey G (z.go (CA E j1 f b x v)))
section
variable {E : Env0} {f : et} {G : dp Int} {g j1 : Nat} {b a b' a' : Int} {v v' : List Int} {z z' : jo} {x : aE}
theorem vZ.done(hr:ey G (z.go (CA E j1 f b x v)))(he:ey (z.go (sY E (dN E j1) x v)) (z'.go (dp.ok (b',a',v'))))(hZ:Gu E z' (j1:Int) v')(hb:b'= -1):vZ E f G g 0 b' a' v' z':=by
 refine .inl ⟨hb,rfl,fun h=> ?_,?_⟩
 ·have:=(hZ.run h).2.2.1;exact⟨oM,oM⟩
 ·have h2:=ey.step (F:=fun r s=>if r.1<0 then .ok r.2.1 {s with opened:=s.opened-1}else iW E j1 f r.1 b r.2.2 s) hr he;exact ey.HK (fun s=>Kt (by show b'<0;omega)) h2
theorem vZ.next(hW:f.WF)(hE:GK E)(hs:0≤b)(hx:f.bh[b.toNat]?=some x)(hr:ey G (z.go (CA E j1 f b x v)))(he:ey (z.go (sY E (dN E j1) x v)) (z'.go (dp.ok (b',a',v'))))(hZ:Gu E z' (j1:Int) v')(rZ:z'.s.steps≤E.fuel)(hj:j1<g)(hv:z'.ov=false)(hb:0≤b'){x':aE}(uI:f.bh[b'.toNat]?=some x'){q:af}(hq:f.src b'.toNat=q):vZ E f G g j1 b' a' (gr x'.au (eG q b) v') z':=by
 subst hq;have h1:=(hZ.run hv).1;obtain⟨j2,rfl⟩:∃j2,j1=j2+1:=⟨j1-1,oM⟩;refine .inr ⟨hb,j2,x',rfl,oM,uI,?_,?_⟩
 ·have:((j2+1:Nat):Int)=(j2:Int)+1:=oM;rw[this]at hZ;rcases hZ with h|⟨h1,h2,h3,h4⟩
  ·exact .inl h
  ·exact .inr ⟨h1,h2,h3,Lc h4⟩
 ·have h2:=ey.step (F:=fun r s=>if r.1<0 then .ok r.2.1 {s with opened:=s.opened-1}else iW E (j2+1) f r.1 b r.2.2 s) hr he;exact ey.HK (fun s=>(Ds (show¬b'<0 by omega)).trans (GM uI)) h2
end
end Go.Mor
namespace Go.Mor
open Go.RowKit
section
variable {nw : NW} {a b c i k : Nat}
theorem Qbc(h:fq nw a b=true):∃x y,nw[a]?=some x∧nw[b]?=some y∧x.1=y.1∧((x.2=false∧y.2=true)∨(x.2=y.2∧a<b)):=by
 unfold fq at h;split at h
 ·rename_i x y hx hy;simp only[QlP,Qos,Qco,QhA,Qpt]at h;exact⟨x,y,hx,hy,h.1,h.2⟩
 ·cases h
theorem QfA{x y:aV×Bool}(hx:nw[a]?=some x)(hy:nw[b]?=some y)(h:x.1=y.1)(h2:(x.2=false∧y.2=true)∨(x.2=y.2∧a<b)):fq nw a b=true:=by
 rw[Qka hx hy];simp only[QlP,Qos,Qco,QhA,Qpt];exact⟨h,h2⟩
theorem Qcs(h1:fq nw a b=true)(h2:fq nw b c=true):fq nw a c=true:=by
 obtain⟨x,y,hx,hy,h3,h4⟩:=Qbc h1;obtain⟨y',z,hy',hz,h5,h6⟩:=Qbc h2;rw[hy]at hy';injection hy' with hy';subst hy';refine QfA hx hz (h3.trans h5) ?_;rcases h4 with⟨h7,h8⟩|⟨h7,h8⟩<;>rcases h6 with⟨h9,xm⟩|⟨h9,xm⟩
 ·exact .inl ⟨h7,xm⟩
 ·exact .inl ⟨h7,h9▸h8⟩
 ·exact .inl ⟨h7.trans h9,xm⟩
 ·exact .inr ⟨h7.trans h9,oM⟩
theorem Qgj:fq nw a a=false:=by
 cases h:fq nw a a with
 |false=>rfl
 |true=>
  obtain⟨x,y,hx,hy,_,h4⟩:=Qbc h;rw[hx]at hy;injection hy with hy;subst hy;rcases h4 with⟨h5,h6⟩|⟨_,h6⟩
  ·rw[h5]at h6;cases h6
  ·omega
def CQ(nw:NW)(i k b:Nat):Prop:=(∀k',k'<k→fq nw k' b=false)∧(b=i∨fq nw b i=true)
theorem CQ.start:CQ nw i 0 i:=⟨fun k' h=>absurd h (QoB _),.inl rfl⟩
theorem CQ.keep(h:CQ nw i k b)(hn:fq nw k b=false):CQ nw i (k+1) b:=⟨fun k' hk=>by
 by_cases e:k'=k
 ·subst e;exact hn
 ·exact h.1 k' oM,h.2⟩
theorem CQ.take(h:CQ nw i k b)(hb:fq nw k b=true):CQ nw i (k+1) k:=by
 refine⟨fun k' hk=> ?_,?_⟩
 ·by_cases e:k'=k
  ·subst e;exact Qgj
  ·cases hq:fq nw k' k with
   |false=>rfl
   |true=>
    have:=h.1 k' oM;rw[Qcs hq hb]at this;cases this
 ·rcases h.2 with h2|h2
  ·exact .inr (h2▸hb)
  ·exact .inr (Qcs hb h2)
theorem CQ.done(h:CQ nw i nw.length b):b=i↔yJ nw i=true:=by
 constructor
 ·rintro rfl;exact Qd4.2 fun k hk=>h.1 k hk
 ·intro hb;rcases h.2 with h2|h2
  ·exact h2
  ·obtain⟨x,_,hx,_⟩:=Qbc h2;rw[Qd4.1 hb b (List.getElem?_eq_some_iff.1 hx).1]at h2;cases h2
theorem CQ.name(h:CQ nw i k b){x y:aV×Bool}(hx:nw[b]?=some x)(hy:nw[i]?=some y):x.1=y.1:=by
 rcases h.2 with rfl|h2
 ·rw[hx]at hy;injection hy with hy;rw[hy]
 ·obtain⟨x',y',uI,hy',h3,_⟩:=Qbc h2;rw[hx]at uI;rw[hy]at hy';injection uI with uI;injection hy' with hy';rw[uI,hy',h3]
theorem CQ.cond(h:CQ nw i k b){xi xk xb:aV×Bool}(hi:nw[i]?=some xi)(hk:nw[k]?=some xk)(hb:nw[b]?=some xb)(hc:xk.1=xi.1∧((k<b∧xk.2=xb.2)∨(xb.2=true∧xk.2=false))):fq nw k b=true:=QfA hk hb (hc.1.trans (h.name hb hi).symm) (hc.2.elim (fun h=> .inr ⟨h.2,h.1⟩) (fun h=> .inl ⟨h.2,h.1⟩))
theorem CQ.v8(h:CQ nw i k b){xi xk xb:aV×Bool}(hi:nw[i]?=some xi)(hk:nw[k]?=some xk)(hb:nw[b]?=some xb)(hc:¬(xk.1=xi.1∧((k<b∧xk.2=xb.2)∨(xb.2=true∧xk.2=false)))):fq nw k b=false:=by
 cases hq:fq nw k b with
 |false=>rfl
 |true=>
  obtain⟨x,y,hx,hy,h3,h4⟩:=Qbc hq;rw[hk]at hx;rw[hb]at hy;injection hx with hx;injection hy with hy;subst hx hy;exact absurd ⟨h3.trans (h.name hb hi),h4.elim (fun h=> .inr ⟨h.2,h.1⟩) (fun h=> .inl ⟨h.2,h.1⟩)⟩ hc
end
theorem Jq{ds:List bE}{n:Nat}(hn:ds.length≤n)(h:∀(i:Nat) (d:bE),i<n→ds[i]?=some d→kT d):∀d,d∈ds→kT d:=fun d hd=>by
 obtain⟨i,hi⟩:=Qmp.1 hd;exact h i d (by have:=(List.getElem?_eq_some_iff.1 hi).1;omega) hi
theorem Lh{p q:Bool}{a b:Bool}{k n:Nat}(hp:p=a)(hq:q=b)(h:¬((k<n∧a=b)∨(b=true∧a=false)))(h2:(k<n∧p=q)∨(q=true∧p=false)):False:=by
 subst hp hq;exact h h2
end Go.Mor
namespace Go.Mor
open Go.RowKit
theorem ey.kD{a b:dp Unit}(h:ey a b):kD a=kD b:=by
 unfold ey dp.no at h;cases a<;>cases b<;>simp only[dp.ok.injEq,dp.stop.injEq,reduceCtorEq]at h
 ·obtain⟨_,rfl⟩:=h;rfl
 ·obtain⟨rfl,rfl,h⟩:=h;have h1:=Qlh cQ.out h;have h2:=Qlh cQ.steps h;unfold Go.Mor.kD Q1;simp only[Qaq,QoO];exact⟨h1,h2⟩
section
variable {E : Env0} {g j : Nat} {bg : List ByteArray} {b : ByteArray} {z z' : jo} {G : dp Unit} {x : Int}
theorem Jr(hr:ey G (z.go (gW E g (bg.drop j))))(hb:bg[j]?=some b)(h:ey (z.go (dN E g ((fh E.names b).getD 0) [])) (z'.go (dp.ok x))):ey G (z'.go (gW E g (bg.drop (j+1)))):=ey.step (A:=dN E g ((fh E.names b).getD 0) []) (F:=fun _ s=>gW E g (bg.drop (j+1)) s) (ey.HK (fun s=>by
  rw[WQ hb];cases fh E.names b with
  |some n=>rfl
  |none=>
   show dp.stop 5 0 s=(fF E (iW E g) 0 [] s).bind _;rw[lk (.inl dQ)];rfl) hr) h
theorem NC(hr:ey G (z.go (gW E g (bg.drop j))))(h:¬(j<bg.length∧z.ov=false)):kD G=((z.fin 1 0).k,(z.fin 1 0).c,(z.fin 1 0).s.out,(z.fin 1 0).s.steps):=by
 cases hz:z.ov with
 |true=>
  rw[R2 hz];rw[ud hz]at hr;exact hr.kD
 |false=>
  rw[K6 hz];rw[sW hz,Q3 (Nat.le_of_not_lt fun h2=>h ⟨h2,hz⟩)]at hr;exact hr.kD
end
abbrev z0(mem:af)(n:Nat):jo:=⟨false,0,0,H5 mem n,0,0⟩
theorem zp{ds:List bE}(hw:∀d,d∈ds→d.WF):∀j,j≤ds.length→aJ ds j≤1+16384*j
 |0,_=>by rw[FI];omega
 |j+1,hj=>by obtain⟨d,hd⟩:=aM (l:=ds) (i:=j) oM;have:=(hw d (D7 hd)).len;have:=zp hw j oM;rw[fM hd];omega
theorem X3(fuel:Int):max 0 (min fuel 4194304)=min (max fuel 0) 4194304:=oM
section
variable {X : RX} {n : Nat}
theorem X4{names data:List (aV×Int)}{bR:Nat}{ds:List bE}(h:aJ ds ds.length≤bR):(Xd names data bR ds).length=bR:=by
 rw[xE h];exact BS _ (kQ _) h
theorem X5{m:af}(hm:m.length=X.E.bR)(h1:1≤n)(h2:n≤X.E.bR)(hf:0≤X.E.fuel):dM X (z0 m n)where
 mem:=hm;n1:=by show(1:Int)≤(n:Int);omega
 n2:=by show(n:Int)≤X.E.bR;omega
 pos:=Qom _;out:=Qom _;s1:=Qol _;s2:=hf
theorem wa{names data:List (aV×Int)}(hn:∀nm v,fh names nm=some v→In64 v)(hd:∀nm v,fh data nm=some v→In64 v){p:Nat}:∀(rs:List (Int×aV)) (m:af),LI m→LI (e8 names data p m rs)
 |[],_,h=>h
 |r::rs,m,h=>wa hn hd rs _ (zm h (by
   unfold wG;split
   ·exact hd _ _ ‹_›
   ·cases hq:fh names r.2 with
    |none=>exact jO
    |some v=>exact hn _ _ hq))
theorem Js{m ws:af}{p:Nat}(h:LI m)(hw:LI ws):LI (dx m p ws):=fun x hx=>by
 unfold dx at hx;rcases Qn2.1 hx with hx|hx
 ·rcases Qn2.1 hx with hx|hx
  ·exact h x (QpR hx)
  ·exact hw x hx
 ·exact h x (List.mem_of_mem_drop hx)
theorem zq{names data:List (aV×Int)}{ds:List bE}{bR:Nat}(hn:∀nm v,fh names nm=some v→In64 v)(hd:∀nm v,fh data nm=some v→In64 v)(hw:∀d,d∈ds→LI d.words):∀j,LI (kW names data ds bR j)
 |0=>fun x hx=>by have Df:x∈List.replicate bR (0:Int):=hx;rw[(List.mem_replicate.1 Df).2];exact jO
 |j+1=>by
  show LI (match ds[j]? with
   |none=>kW names data ds bR j
   |some d=>e8 names data (aJ ds j) (dx (kW names data ds bR j) (aJ ds j) d.words) d.refs)
  split
  ·exact zq hn hd hw j
  ·exact wa hn hd _ _ (Js (zq hn hd hw j) (hw _ (D7 ‹_›)))
end
abbrev ND:=List (ar×Nat×af)
def NF(l:ND):aP:=l.map (fun q=> .slice q.1 q.2.2.length q.2.1)
def Iv(x:cX)(A:ar)(c:Nat)(ss:ND):et:=⟨x.nm,x.wk,x.pa,x.va,x.A,x.c,x.bh,A,c,ss⟩
def NG(q:ar×Nat×af):bx:= .row 3 1 q.1 q.2.2.length q.2.1 (ints q.2.2)
def Vi(X:List bx)(f:et):Prop:=bx.row 43 1 f.qA f.bG.length f.qc (NF f.bG)∈X∧∀q,q∈f.bG→NG q∈X
def zr(qs:List et):aP:=qs.map (fun f=> .slice f.qA f.bG.length f.qc)
def Ec(bs:List SB)(ss:ND)(j:Nat):Prop:=ss.length=j∧ss.map (·.2.2)=(List.range j).map (fun t:Nat=>bG bs (t:Int))
section
variable {X Y : List bx} {f : et} {qs : List et} {x : cX} {A A' : Option Addr} {c c' : Nat} {ss : ND} {bs : List SB} {j : Nat} {cs : List cX}
theorem X6(h:Ec (aq x.bh) ss (aq x.bh).length):(Iv x A c ss).can=jM x:=by
 unfold et.can Iv jM;simp only[et.mk.injEq,QoO];show ss.map (fun q=>((none:ar),0,q.2.2))=(tI (aq x.bh)).map _;unfold tI;rw[←h.2,QlQ];rfl
theorem Vi.mono(h:Vi X f):Vi (X++Y) f:=⟨Qox _ h.1,fun q hq=>Qox _ (h.2 q hq)⟩
theorem X7(h:∀f,f∈qs→Vi X f):∀f,f∈qs→Vi (X++Y) f:=fun f hf=>(h f hf).mono
theorem Sr{ss:ND}(h:∀q,q∈ss→NG q∈X){q:ar×Nat×af}(hq:NG q∈Y):∀p,p∈ss++[q]→NG p∈X++Y:=fun p hp=>by
 rcases Qn2.1 hp with hp|hp
 ·exact Qox _ (h p hp)
 ·rw[yX.1 hp];exact Qo5 _ hq
theorem Ss(h:∀f,f∈qs→Vi X f)(hs:∀q,q∈ss→NG q∈X)(hr:bx.row 43 1 A ss.length c (NF ss)∈Y):∀f,f∈qs++[Iv x A c ss]→Vi (X++Y) f:=fun f hf=>by
 rcases Qn2.1 hf with hf|hf
 ·exact(h f hf).mono
 ·rw[yX.1 hf];exact⟨Qo5 _ hr,fun q hq=>Qox _ (hs q hq)⟩
theorem Ec.zero:Ec bs [] 0:=⟨rfl,rfl⟩
theorem Ec.next(h:Ec bs ss j):Ec bs (ss++[(A,c,bG bs (j:Int))]) (j+1):=⟨by rw[QoG,h.1];rfl,by rw[Qou,h.2,QpH,Qou];rfl⟩
theorem St{l:af}:NF (ss++[(A,c,l)])=NF ss++[.slice A l.length c]:=by unfold NF;rw[Qou];rfl
theorem Su:zr (qs++[Iv x A c ss])=zr qs++[.slice A ss.length c]:=by unfold zr;rw[Qou];rfl
theorem X8(h:qs.map et.can=(cs.take j).map jM)(hx:cs[j]?=some x)(hs:Ec (aq x.bh) ss (aq x.bh).length):(qs++[Iv x A c ss]).map et.can=(cs.take (j+1)).map jM:=by
 rw[Qou,h,List.take_add_one,hx,Qou];simp[X6 hs]
theorem X9(h:qs.map et.can=cs.map jM):qs.map et.nm=cs.map cX.nm:=by
 have h2:=Qlh (List.map et.nm) h;rw[QlQ,QlQ]at h2;exact h2
theorem QcB(h:qs.map et.can=cs.map jM)(j:Nat):(qs[j]?).map et.nm=(cs[j]?).map cX.nm:=by
 have h2:=Qlh (fun l=>l[j]?) (X9 h);simpa only[List.getElem?_map]using h2
theorem wb:(iI cs cs.length)[j]?=(cs[j]?).map fun f=>(f.nm,((j+1:Nat):Int)):=by
 unfold iI;rw[QoF,List.getElem?_map,List.getElem?_zipIdx];cases cs[j]?<;>simp
theorem QcC(h:qs.map et.can=cs.map jM):Vh qs=iI cs cs.length:=by
 apply QoL;intro i;rw[xD,wb];have h2:=QcB h i;cases hq:qs[i]?<;>cases hc:cs[i]?<;>rw[hq,hc]at h2<;>simp_all
def Jt(cs:List cX):List uA:=cs.map fun f=>⟨f.nm,false,0,0,none,0,[]⟩
theorem GU:(Jt cs).length=cs.length:=QlO ..
theorem Sv:(Jt cs).map (fun f=>Value.string f.nm)=cs.map (fun f=>Value.string f.nm):=by unfold Jt;rw[QlQ];rfl
theorem Ju:gY (Jt cs) (Jt cs).length=iI cs cs.length:=by
 apply QoL;intro i;rw[wb];unfold gY;rw[QoF,List.getElem?_map,List.getElem?_zipIdx];unfold Jt;rw[List.getElem?_map];cases cs[i]?<;>simp
end
abbrev zt(ds:List bE)(dA:ar)(dc:Nat):cF:=⟨⟨#[]⟩,none,0,[],dA,dc,ds⟩
theorem Ya{ds:List bE}{dA:ar}{dc:Nat}:csD [zt ds dA dc]=aF ds:=by
 have e:flD [zt ds dA dc]=ds:=by unfold flD;simp
 unfold csD nwD;rw[e];rfl
theorem QfB{S:Nat→Prop}{w:World}{e n c:Nat}{A dA:ar}{dc:Nat}{ds:List bE}(h:RO S w (.row e 3 A n c (zt ds dA dc).cells))(hd:RO S w (.cf dA ds)):RO S w (.I5 A [zt ds dA dc]):=by
 refine RO.all fun r hr=> ?_
 rcases Qon.1 hr with rfl|hr
 ·refine h.mono (fun hr=> ?_) (fun g hg=>hg.2);have h1:=jI (f:=cF.cells) (l:=[zt ds dA dc]) (size:=3) (e:=e) (n:=n) (c:=c) (A:=A) (w:=w) (fun _=>rfl) dQ (by rw[show[zt ds dA dc].flatMap cF.cells=(zt ds dA dc).cells by simp];exact hr)
  exact h1
 ·rw[show[zt ds dA dc].flatMap cF.parts=(zt ds dA dc).parts by simp]at hr;unfold cF.parts at hr;simp only[Qps,List.flatMap_nil,QpD,Qon]at hr;rcases hr with rfl|rfl|hr
  ·exact⟨fun i cs hi=>by simp at hi,fun g hg=>by obtain⟨⟨i,cs,hi,_⟩,_⟩:=hg;simp at hi⟩
  ·exact hd.sF
  ·exact hd.sub (Qmq _ hr)
theorem QfC{ds:List bE}{mem:Int}{inp:af}(h:((¬(∀d,d∈ds→kT d)∨mem<1)∨mem>262144)∨(inp.length:Int)>4096):Qfq ds mem inp ds.length:=by
 rcases h with((h|h)|h)|h
 ·by_cases hm:Ru mem inp
  ·exact .inl hm
  refine Classical.byContradiction fun hn=>h fun d hd=>QoD.1 ((y5 hn).2 d hd)
 ·exact .inl (.inl h)
 ·exact .inl (.inr (.inl h))
 ·exact .inl (.inr (.inr h))
theorem Qir{fs:List cX}{ds:List bE}{mem:Int}{inp:af}(h:¬(((¬(∀d,d∈ds→kT d)∨mem<1)∨mem>262144)∨(inp.length:Int)>4096))(hv:∀(i:Nat) (f:cX),i<fs.length→fs[i]?=some f→cC f.nm f.pa f.va f.bh=0):¬DZ fs ds mem inp fs.length:=by
 rintro(hb|⟨i,f,hi,hf,hx⟩)
 ·rcases hb with hb|⟨i,d,hi,hd,hx⟩
  ·unfold Ru at hb;omega
  ·exact h (.inl (.inl (.inl fun hq=>hx (hq d (D7 hd)))))
 ·exact hx (hv i f hi hf)
theorem QcD{fs:List cX}{j:Nat}{f:cX}(h:∀(i:Nat) (f:cX),i<j→fs[i]?=some f→cC f.nm f.pa f.va f.bh=0)(hf:fs[j]?=some f)(hv:cC f.nm f.pa f.va f.bh=0):∀(i:Nat) (f:cX),i<j+1→fs[i]?=some f→cC f.nm f.pa f.va f.bh=0:=fun i g hi hg=>by
 by_cases e:i=j
 ·subst e;rw[hf]at hg;injection hg with hg;rw[←hg];exact hv
 ·exact h i g oM hg
def yE(qs:List et)(cs:List cX)(ds:List bE)(mem:Int)(inp:af)(fuel:Int):XQ:=⟨⟨qs,iI cs cs.length,cP (aF ds) (aF ds).length,inp,mem.toNat,min (max fuel 0) 4194304⟩⟩
section
variable {w : World} {S : Nat → Prop} {qs : List et} {fs cs : List cX} {ds : List bE} {fA dA gA iA qA : Option Addr} {bg : List ByteArray} {mem fuel : Int} {inp : List Int} {ic qc : Nat}
theorem QcE(oZ:cs=fB fs)(hq:qs.map et.can=cs.map jM):(yE qs cs ds mem inp fuel).toEnv0.can=jl fs ds mem inp fuel:=by
 unfold Env0.can jl yE;show(⟨qs.map et.can,_,_,_,_,_⟩:Env0)=_;rw[hq,oZ]
theorem Yb(hI:nG w fs fA ds dA bg gA inp iA ic)(oZ:cs=fB fs)(hq:qs.map et.can=cs.map jM)(hb:¬DZ fs ds mem inp fs.length)(wD:aJ (aF ds) (aF ds).length≤mem.toNat)(r:Nat)(rA:ar)(rc:Nat)(qA:ar)(qc:Nat)(eA:ar)(dc:Nat)(pA:ar)(pc mG:Nat):(⟨yE qs cs ds mem inp fuel,aF ds,r,rA,rc,qA,qc,eA,dc,pA,pc,mG,iA,ic⟩:RX).WF where
 fns f hf:=by obtain⟨x,hx,he⟩:=D0 hq hf;have YJ:x∈fs:=fL (oZ▸hx);exact Qci he (hI.ok x YJ).1 (hI.ok x YJ).2 ((lU hb).2.2 x YJ)
 XR:=by have h1:=Qlh List.length hq;simp only[QlO]at h1;have h2:cs.length≤fs.length:=oZ▸fK;have h3:=hI.len;show qs.length≤1000;omega
 nds:=by have h1:(aF ds).length≤ds.length:=fK;have h2:=hI.Gk;show(aF ds).length≤1000000;omega
 next:=by have:=(lU hb).1;show aJ (aF ds) (aF ds).length≤262144;omega
 names:=(QcC hq).symm;data:=rfl;mem:=by have:=(lU hb).1;show mem.toNat≤262144;omega
 fuel:=⟨by show 0≤min (max fuel 0) 4194304;omega,by show min (max fuel 0) 4194304≤4194304;omega⟩;inp:=(lU hb).1.2.2;ic:=hI.Rw;bytes:=hI.bytes;nd f hf k:=by
  obtain⟨x,_,he⟩:=D0 hq hf;rw[←DY f,he];unfold et.src jM;simp only[List.getD_eq_getElem?_getD,List.getElem?_map];by_cases h:k<(aq x.bh).length
  ·rw[lK h];exact Jo _ _
  ·rw[List.getElem?_eq_none (by rw[yu];omega)];exact List.nodup_nil
theorem Li{X:RX}{Y:List bx}{r rc dc pc mG e1 e2 e3 e4 n1 n2 n3 n4 c1 c2 c3 c4:Nat}{rA eA pA:ar}(hX:X=⟨yE qs cs ds mem inp fuel,aF ds,r,rA,rc,qA,qc,eA,dc,pA,pc,mG,iA,ic⟩)(oZ:cs=fB fs)(hq:qs.map et.can=cs.map jM)(hY:∀f,f∈qs→Vi Y f)(h0:RO S w (.pk Y))(h1:RO S w (.row e1 5 rA n1 c1 (cs.flatMap cX.cells)))(h2:RO S w (.row e2 4 eA n2 c2 ((aF ds).flatMap bE.cells)))(h3:RO S w (.row e3 1 pA n3 c3 (ints (fX (aF ds) (aF ds).length))))(h4:RO S w (.row e4 1 qA n4 c4 (zr qs)))(h5:RO S w (.rd iA (qW inp)))(h6:∀x,x∈fs→RO S w (.fn x.A x.bh)):RO S w X.ro:=by
 subst hX;refine RO.all fun q hr=> ?_
 have zR:(qs.map et.cells)=cs.map cX.cells:=by apply QoL;intro i;rw[List.getElem?_map,List.getElem?_map];have hh:=Qlh (fun l=>l[i]?) hq;simp only[List.getElem?_map]at hh;cases hqi:qs[i]?<;>cases hci:cs[i]?<;>rw[hqi,hci]at hh<;>simp only[Fc,Option.map_none,Kr,reduceCtorEq]at hh⊢;exact Nc hh
 simp only[RX.T,Qon,Qn2,Qhz,Qo8]at hr;rcases hr with rfl|rfl|rfl|rfl|rfl|⟨f,hf,rfl⟩|⟨f,hf,rfl⟩|⟨f,hf,q,YK,rfl⟩
 ·show RO S w (.l7 rA 5 (qs.map et.cells));rw[zR];exact h1.mono (jI (fun _=>rfl) dQ) (fun g hg=>hg.2)
 ·exact h2.mono (jI (fun _=>rfl) dQ) (fun g hg=>hg.2)
 ·exact RO.aD h3
 ·exact h5
 ·exact RO.aD h4
 ·obtain⟨x,hx,he⟩:=D0 hq hf;rw[show f.A=x.A from Qlh et.A he,show f.bh=x.bh from Qlh et.bh he];exact h6 x (fL (oZ▸hx))
 ·exact RO.aD (h0.kS (hY f hf).1)
 ·exact RO.aD (h0.kS ((hY f hf).2 q YK))
end
end Go.Mor
namespace Go.Proofs.YtejbeeaomokjpaaGreat
open Go.Mor
theorem CD(nm:aV)(wk:Bool)(pa va:Int)(A:ar)(c:Nat)(fs:List aE)(w:World)(iq:pz fs)(hA:RO bq w (.fn A fs)):Calls Tryz.prog 29 #[fA nm wk pa va A c fs] w (ez fun v w'=>v=vB (decide (fS va fs))∧Mem bq w w' []):=by
 have Ay:=bK fs;have hB:=hA.bs;refine fv 51 [fA nm wk pa va A c fs] Tryz.func29 ?_;have hM:=Mem.init w;refine aI<|ou hM 30 (fA nm wk pa va A c fs) (fV nm wk pa va A c fs) fun b1 w2 jU M3=> ?_
 replace M3:=M3.nf;clear hM;refine ah 1<|ay<|ba<|aI<|ah 1<|bt (ao b1 4) _ (ae (M3.get 0 rfl) rfl)<|ah 3 ?_;obtain⟨B4,yz⟩:∃B:Bool,B=decide ((((aq fs).length:Int):Int)>60):=⟨_,rfl⟩;refine bX [(1,pT b1 0),(9,(vB (decide ((((aq fs).length:Int):Int)>60))))] ?_;rw[←yz];have tL:B4=true↔((((aq fs).length:Int):Int)>60):=by rw[yz];simp only[QhA]
 clear yz;intro aC fr;refine cE 1 6 [10] fr (news:=[(10,cond (!B4) (pT b1 3) undef)]) (by cases B4<;>kernel_rfl) ?_;intro aC fr;refine az (B:=(!B4)) (d:=(some 11)) (vI va) fr (by cases B4<;>kernel_rfl) (fun hB hh=> ?_) ?_;cases B4<;>first|(exact absurd hB dQ)|skip
 have c4:¬((((aq fs).length:Int):Int)>60):=iL tL.2;exact br (some 11) (ao b1 3) fr kR (vI va) (ae (M3.get 0 rfl) rfl) hh;intro aC fr;refine cE 2 9 [13] fr (news:=[(13,(vB (B4||decide ((va:Int)>3000))))]) (by cases B4<;>kernel_rfl)<|ay<|dX (B4||decide ((va:Int)>3000)) (((((aq fs).length:Int):Int)>60)∨((va:Int)>3000)) (by simp only[Qos,QhA,tL]) (fun c13=> ?_) (fun c13=> ?_);refine aI<|ah 1<|bt (ao b1 3) _ (ae (M3.get 0 rfl) rfl)<|ah 2 ?_;obtain⟨Sw,QcF⟩:∃B:Bool,B=decide ((va:Int)≤20000):=⟨_,rfl⟩;refine bX [(1,pT b1 0),(17,(vB (decide ((va:Int)≤20000))))] ?_;rw[←QcF];have QfD:Sw=true↔((va:Int)≤20000):=by rw[QcF];simp only[QhA]
 clear QcF;intro aC fr;refine cE 1 5 [18] fr (news:=[(18,cond (!Sw) (pT b1 4) undef)]) (by cases Sw<;>kernel_rfl) ?_;intro aC fr;refine az (B:=(!Sw)) (d:=(some 19)) (vS A ((aq fs).length) c) fr (by cases Sw<;>kernel_rfl) (fun hB hh=> ?_) ?_;cases Sw<;>first|(exact absurd hB dQ)|skip
 have HH:¬((va:Int)≤20000):=iL QfD.2;exact br (some 19) (ao b1 4) fr kR (vS A ((aq fs).length) c) (ae (M3.get 0 rfl) rfl) hh;intro aC fr;refine cE 4 10 [2,22] fr (news:=[(2,(vB (Sw||decide ((((aq fs).length:Int):Int)>60)))),(22,(vB (Sw||decide ((((aq fs).length:Int):Int)>60))))]) (by cases Sw<;>kernel_rfl)<|ay<|bL<|cv (vB (Sw||decide ((((aq fs).length:Int):Int)>60))) ?_;have hR:(Sw||decide ((((aq fs).length:Int):Int)>60))=true↔(((va:Int)≤20000)∨((((aq fs).length:Int):Int)>60)):=by simp only[Qos,QhA,QfD]
 have qf:=M3.od [] 0;exact⟨aY hR (by unfold fS;omega),qf⟩;have hl60:fs.length≤60:=oM;refine bP<|aX<|ba<|aX<|cr 0 ?_;intro aC fr;refine fk (fun n_ a_ w_=>∃(k:Nat),n_=fs.length-k∧Fr a_ 51 [(1,pT b1 0),(3,(vI ((eY fs k:Nat):Int))),(4,nV k)]∧Mem bq w w_ [.aB b1 30 (fV nm wk pa va A c fs)]∧(k≤fs.length)) (n:=_) ⟨0,rfl,fr.kp [1,3,4],M3,oM⟩ ?_;clear fr aC M3;rintro n aC w26 ⟨k,rfl,fr,zX,hk⟩;revert aC;refine ba<|aI<|ah 2<|bt (ao b1 4) _ (ae (zX.get 0 rfl) rfl)<|ah 2<|ay<|fE ((k:Int)<((aq fs).length:Int)) (fun Sx=> ?_) (fun Sx=> ?_);refine bP<|ba<|cr 1 ?_;obtain⟨x,hx⟩:=aM (l:=fs) (i:=k) oM;have qe:x.au.length≤281474976710656:=(iq.get hx).lp;have BA:x.insts.length≤281474976710656:=(iq.get hx).li;have O6:=Ik fs k hk;have Sy:=tv hx;obtain⟨lX,rfl⟩:=ek (zX.ro hB) (fH hx);refine da [1,3,4] ?_;intro aC fr;refine l9 (bo [eI ((eY fs k:Nat):Int),eR b1 4,eS (some lX) ((aq fs).length) c,.aU (nV k),eA lX (k:Int) 6,eA lX (k:Int) 6,eS x.pA x.au.length x.pc,eI (x.au.length:Int),eI ((min x.au.length 5000:Nat):Int),eI (((eY fs k:Nat):Int)+((min x.au.length 5000:Nat):Int)),eR b1 4,eS (some lX) ((aq fs).length) c,.aU (nV k),eA lX (k:Int) 6,eP ((aN lX (k:Int) 6).add 1),eS x.iA x.insts.length x.ic,eI (x.insts.length:Int),eI ((min x.insts.length 5000:Nat):Int),eI (((eY fs (k+1):Nat):Int)),eI (((eY fs (k+1):Nat):Int))]) fr (pF (dT lz dP dP (dL (ao b1 4) _ fun w_ hK=>(ae ((zX.aw hK).get 0 rfl) rfl)) dP (dI lX ((aq fs).length) 6 (k:Int)) dP (dL (aN lX (k:Int) 6) _ fun w_ hK=>(dy ((zX.aw hK).ro hB) rfl hx 0 _ rfl)) dP (dMN .i64 (x.au.length:Int) 5000 ((min x.au.length 5000:Nat):Int) (.tmp 37) (.const (vI 5000)) #[3,3] 3 none (by split<;>omega)) (dA (((eY fs k:Nat):Int)+((min x.au.length 5000:Nat):Int))) dP (dL (ao b1 4) _ fun w_ hK=>(ae ((zX.aw hK).get 0 rfl) rfl))) dP (dI lX ((aq fs).length) 6 (k:Int)) dP (dL ((aN lX (k:Int) 6).add 1) _ fun w_ hK=>(dy ((zX.aw hK).ro hB) rfl hx 1 _ rfl)) dP (dMN .i64 (x.insts.length:Int) 5000 ((min x.insts.length 5000:Nat):Int) (.tmp 46) (.const (vI 5000)) #[3,3] 3 none (by split<;>omega)) ?_ dP) ?_;intro ep w_ vs cL hK hp hF;refine jv (g0:=none) ?_;replace hF:Fr ep 51 [(39,(vI (((eY fs k:Nat):Int)+((min x.au.length 5000:Nat):Int)))),(47,(vI ((min x.insts.length 5000:Nat):Int)))]:=hF.kp [39,47];refine gv (kR:ax _ 0=some (some 48,.binOp .add 3 (.tmp 39) (.tmp 47) 3,3,none)) hF kR kR (k':=1) rfl (i:=(((eY fs k:Nat):Int)+((min x.au.length 5000:Nat):Int))) (j:=((min x.insts.length 5000:Nat):Int)) (z:=(((eY fs (k+1):Nat):Int))) kR kR (Qlh some oM) oM oM ?_;intro a2 ea _;refine aL kR ?_;exact xg (d:=some 48) kR ea (Kp.refl _) rfl;intro aC OD vs hK hv fr;revert aC;refine bX [(1,pT b1 0),(3,(vI (((eY fs (k+1):Nat):Int)))),(4,nV k)] ?_;have rq:=zX.aw hK;clear hK hv fr aC zX;clear vs;exact cG<|ah 1<|cZ ((k:Int)+1)<|ah 1<|ay fun aC fr=>⟨fs.length-(k+1),oM,k+1,rfl,fr.kp [1,3,4],rq,oM⟩
 refine eW 0<|eX<|aX<|bL<|cv (vB (decide ((((eY fs k:Nat):Int):Int)>3000))) ?_;have hR:decide ((((eY fs k:Nat):Int):Int)>3000)=true↔((((eY fs k:Nat):Int):Int)>3000):=by simp only[QhA]
 have uz:=zX.od [] 0;exact⟨aY hR (by unfold fS;(try rw[show k=fs.length by omega]);omega),uz⟩
end Go.Proofs.YtejbeeaomokjpaaGreat
namespace Go.Mor
open Go.RowKit
def HL(l:List bE):Int:=(l.map fun d=>((min d.words.length 5000:Nat):Int)+((min d.refs.length 5000:Nat):Int)).sum
theorem SA(l:List bE):0≤HL l:=by
 unfold HL;induction l with
 |nil=>simp
 |cons d r ih=>rw[QoK,Qpz];omega
theorem QcG(l:List bE):(nF l:Int)≤HL l∨5000≤HL l:=by
 induction l with
 |nil=>left;simp[nF,HL]
 |cons d r ih=>
  have e1:HL (d::r)=((min d.words.length 5000:Nat):Int)+((min d.refs.length 5000:Nat):Int)+HL r:=by unfold HL;rw[QoK,Qpz]
  have e2:nF (d::r)=d.words.length+nF r:=by unfold nF;rw[QoK,Qpz]
  have:=SA r;rw[e1,e2];omega
def oO(fs:List cX)(ds:List bE)(g mem i fuel:Int):Prop:=(∃(j:Nat) (f:cX),j<30∧fs[j]?=some f∧fS f.va f.bh)∨20<fs.length∨30<ds.length∨4000<HL (ds.take 50)∨50<g∨20000<mem∨5000<i∨5000<fuel
noncomputable instance (fs : List cX) (ds : List bE) (g mem i fuel : Int) : Decidable (oO fs ds g mem i fuel) := Classical.propDecidable _
theorem NH{w:World}{fs:List cX}{ds:List bE}{bg:List aV}{inp:af}{fuel mem:Int}{fA dA gA iA:ar}{ic:Nat}(h:¬oO fs ds bg.length mem inp.length fuel)(h1:RO bq w (.l7 fA 5 (fs.map cX.cells)))(h2:∀x,x∈fs→pz x.bh)(h3:∀x,x∈fs→RO bq w (.fn x.A x.bh))(h4:RO bq w (.rd gA (bg.map Value.string)))(h5:inp.length≤ic)(h6:RO bq w (.rd iA (qW inp)))(h7:∀b,b∈inp→0≤b∧b≤255)(h8:RO bq w (.cf dA ds))(h9:∀d,d∈ds→DIn d)(xm:∀d,d∈ds→∀x,x∈d.words→In64 x):nG w fs fA ds dA bg gA inp iA ic:=by
 unfold oO at h;simp only[not_or]at h;obtain⟨hg,hl,hd,hv,hb,_⟩:=h;have e:ds.take 50=ds:=Qot oM;rw[e]at hv;have hs:=QcG ds;refine⟨oM,h1,fun x hx=>⟨h2 x hx,?_⟩,h3,oM,h4,h5,h6,h7,oM,h8,h9,oM,xm⟩;obtain⟨i,hi⟩:=Qmp.1 hx;have eV:=(List.getElem?_eq_some_iff.1 hi).1;exact QoJ (D3 (fun e=>hg ⟨i,x,oM,hi,e⟩)) dQ
theorem nG.QcH{w w':World}{L:List bx}{fs:List cX}{ds:List bE}{bg:List aV}{inp:af}{fA dA gA iA:ar}{ic:Nat}(h:nG w fs fA ds dA bg gA inp iA ic)(hM:Mem bq w w' L):nG w' fs fA ds dA bg gA inp iA ic where
 len:=h.len;cells:=h.cells.at_ hM;ok:=h.ok;fn x hx:=(h.fn x hx).at_ hM;Rv:=h.Rv;bg:=h.bg.at_ hM;Rw:=h.Rw;inr:=h.inr.at_ hM;bytes:=h.bytes;Gk:=h.Gk;cf:=h.cf.at_ hM;din:=h.din;Nd:=h.Nd;dwi:=h.dwi
end Go.Mor
namespace Go.Proofs.YtejbeeaomokjpaaGreat
open Go.Mor
set_option maxHeartbeats 1000000 in
theorem Qi5(fs:List cX)(fA:ar)(fc:Nat)(ds:List bE)(hd0:ds.length=0)(dA:ar)(dc:Nat)(g:Nat)(gA:ar)(gc:Nat)(mem:Int)(i:Nat)(iA:ar)(ic:Nat)(fuel:Int)(w:World)(J9:dJ fs.length)(O0:dJ ds.length)(lB:RO bq w (.l7 fA 5 (fs.map cX.cells)))(iq:∀x,x∈fs→pz x.bh)(hfn:∀x,x∈fs→RO bq w (.fn x.A x.bh))(pf:RO bq w (.cf dA ds))(LV:∀d,d∈ds→DIn d∧∀x,x∈d.words→In64 x):Calls Tryz.prog 7 #[vS fA fs.length fc,vS dA ds.length dc,vS gA g gc,vI mem,vS iA i ic,vI fuel] w (ez fun v w'=>v=vB (decide (oO fs ds g mem i fuel))∧Mem bq w w' []):=by
 unfold dJ at J9 O0;refine fv 88 [vS fA fs.length fc,vS dA ds.length dc,vS gA g gc,vI mem,vS iA i ic,vI fuel] Tryz.func7 ?_;have hM:=Mem.init w;refine aX<|ba<|aX<|cr 0 ?_;intro aC fr;refine fk (fun n_ a_ w_=>∃(j:Nat),n_=fs.length-j∧Fr a_ 88 [(0,vS fA fs.length fc),(1,vS dA ds.length dc),(2,vS gA g gc),(3,vI mem),(4,vS iA i ic),(5,vI fuel),(13,nV j)]∧Mem bq w w_ []∧(j≤fs.length)∧(∀(i:Nat) (x:cX),i<j→fs[i]?=some x→¬fS x.va x.bh)) (n:=_) ⟨0,rfl,fr.kp [0,1,2,3,4,5,13],hM,Qom _,fun _ _ h=>absurd h (QoB _)⟩ ?_;clear fr aC hM;rintro n aC w3 ⟨j,rfl,fr,M4,hj,hng⟩;revert aC;refine ba<|aI<|ah 5 ?_;obtain⟨B7,Fj⟩:∃B:Bool,B=decide ((j:Int)<(fs.length:Int)):=⟨_,rfl⟩;refine bX [(0,vS fA fs.length fc),(1,vS dA ds.length dc),(2,vS gA g gc),(3,vI mem),(4,vS iA i ic),(5,vI fuel),(13,nV j),(20,(vB (decide ((j:Int)<(fs.length:Int)))))] ?_;rw[←Fj];have Y2:B7=true↔((j:Int)<(fs.length:Int)):=by rw[Fj];simp only[QhA]
 clear Fj;intro aC fr;refine cE 3 8 [23] fr (news:=[(23,(vB (B7&&decide ((j:Int)<30))))]) (by cases B7<;>kernel_rfl)<|ay<|dX (B7&&decide ((j:Int)<30)) (((j:Int)<(fs.length:Int))∧((j:Int)<30)) (by simp only[QlP,QhA,Y2]) (fun Dk=> ?_) (fun Dk=> ?_);refine bP<|ba<|cr 1<|aI ?_;obtain⟨f,hf⟩:=aM (l:=fs) (i:=j) oM;have AJ:=D7 hf;refine ah 2 ?_;obtain⟨Tl,rfl⟩:=bw (M4.ro lB) (i:=j) (gm hf);refine ej Tl fs.length 5 (j:Int)<|ga (aN Tl (j:Int) 5) [vT f.nm,vB f.wk,vI f.pa,vI f.va,vS f.A ((aq f.bh).length) f.c] (gf (i:=j) (M4.ro lB) rfl (gm hf))<|di (CD f.nm f.wk f.pa f.va f.A f.c f.bh w3 (iq f AJ) ((hfn f AJ).at_ M4)) ?_;rintro _ N6 ⟨rfl,Qj8⟩;have mS:=M4.cl Qj8;refine ay<|fE (fS f.va f.bh) (fun Ta=> ?_) (fun Ta=> ?_);refine aX<|bL<|cJ<|cJ<|cv (vB true) ?_;have hR:true=true↔True:=sI;exact⟨aY hR (⟨fun _=> .inl ⟨j,f,oM,hf,Ta⟩,fun _=>trivial⟩),mS⟩;exact bP<|cG<|ah 1<|cZ ((j:Int)+1)<|ah 1<|ay fun aC fr=>⟨fs.length-(j+1),oM,j+1,rfl,fr.kp [0,1,2,3,4,5,13],mS,oM,fun i x hi hx=>by rcases MW i j with h_|h_;exact hng i x h_ hx;obtain rfl:i=j:=oM;rw[hf]at hx;injection hx with hx;subst hx;exact Ta⟩
 refine eW 0<|eX<|aX<|ba<|aX<|cr 2 ?_;have EE:¬∃(j:Nat) (f:cX),j<30∧fs[j]?=some f∧fS f.va f.bh:=by rintro⟨i,x,h1_,CE,CF⟩;have h4_:=(List.getElem?_eq_some_iff.1 CE).1;exact hng i x oM CE CF
 intro aC fr;refine fk (fun n_ a_ w_=>∃(k:Nat) (nk:Int),n_=ds.length-k∧Fr a_ 88 [(0,vS fA fs.length fc),(1,vS dA ds.length dc),(2,vS gA g gc),(3,vI mem),(4,vS iA i ic),(5,vI fuel),(14,vI nk),(15,nV k)]∧Mem bq w w_ []∧(k≤ds.length∧k≤50)∧(nk=HL (ds.take k))) (n:=_) ⟨0,0,rfl,fr.kp [0,1,2,3,4,5,14,15],M4,oM,rfl⟩ ?_;clear fr aC M4;rintro n aC w21 ⟨k,nk,rfl,fr,lJ,hk,hn⟩;revert aC;refine ba<|aI<|ah 5 ?_;obtain⟨Tt,JL⟩:∃B:Bool,B=decide ((k:Int)<(ds.length:Int)):=⟨_,rfl⟩;refine bX [(0,vS fA fs.length fc),(1,vS dA ds.length dc),(2,vS gA g gc),(3,vI mem),(4,vS iA i ic),(5,vI fuel),(14,vI nk),(15,nV k),(35,(vB (decide ((k:Int)<(ds.length:Int)))))] ?_;rw[←JL];have Qdo:Tt=true↔((k:Int)<(ds.length:Int)):=by rw[JL];simp only[QhA]
 clear JL;intro aC fr;refine cE 3 8 [38] fr (news:=[(38,(vB (Tt&&decide ((k:Int)<50))))]) (by cases Tt<;>kernel_rfl)<|ay<|dX (Tt&&decide ((k:Int)<50)) (((k:Int)<(ds.length:Int))∧((k:Int)<50)) (by simp only[QlP,QhA,Qdo]) (fun Sx=> ?_) (fun Sx=> ?_);refine bP<|ba<|cr 3 ?_;omega;refine eW 2<|eX<|aI ?_;have hn5:nk=HL (ds.take 50):=by
          rw[hn];by_cases h_:k=ds.length
          · by_cases CE:k≤50
            · rw[Qot oM,Qot oM]
            · omega
          · rw[show k=50 by omega]
 refine ah 4 ?_;obtain⟨uE,zG⟩:∃B:Bool,B=decide ((fs.length:Int)>20):=⟨_,rfl⟩;refine bX [(1,vS dA ds.length dc),(2,vS gA g gc),(3,vI mem),(4,vS iA i ic),(5,vI fuel),(14,vI nk),(61,(vB (decide ((fs.length:Int)>20))))] ?_;rw[←zG];have Hi:uE=true↔((fs.length:Int)>20):=by rw[zG];simp only[QhA]
 clear zG;intro aC fr;refine cE 5 9 [65,66] fr (news:=[(65,(vB (uE||decide ((ds.length:Int)>30)))),(66,(vB (uE||decide ((ds.length:Int)>30))))]) (by cases uE<;>kernel_rfl) ?_;intro aC fr;obtain⟨AO,JW⟩:∃B:Bool,B=(uE||decide ((ds.length:Int)>30)):=⟨_,rfl⟩;revert aC;refine bX [(2,vS gA g gc),(3,vI mem),(4,vS iA i ic),(5,vI fuel),(14,vI nk),(66,(vB (uE||decide ((ds.length:Int)>30))))] ?_;rw[←JW];have T4:AO=true↔(((fs.length:Int)>20)∨((ds.length:Int)>30)):=by rw[JW];simp only[Qos,QhA,Hi]
 clear JW;intro aC fr;refine cE 4 13 [69,70] fr (news:=[(69,(vB (AO||decide ((nk:Int)>4000)))),(70,(vB (AO||decide ((nk:Int)>4000))))]) (by cases AO<;>kernel_rfl) ?_;intro aC fr;obtain⟨B41,QdV⟩:∃B:Bool,B=(AO||decide ((nk:Int)>4000)):=⟨_,rfl⟩;revert aC;refine bX [(2,vS gA g gc),(3,vI mem),(4,vS iA i ic),(5,vI fuel),(70,(vB (AO||decide ((nk:Int)>4000))))] ?_;rw[←QdV];have Qj1:B41=true↔((((fs.length:Int)>20)∨((ds.length:Int)>30))∨((nk:Int)>4000)):=by rw[QdV];simp only[Qos,QhA,T4]
 clear QdV;intro aC fr;refine cE 5 18 [74,75] fr (news:=[(74,(vB (B41||decide ((g:Int)>50)))),(75,(vB (B41||decide ((g:Int)>50))))]) (by cases B41<;>kernel_rfl) ?_;intro aC fr;obtain⟨Oy,zK⟩:∃B:Bool,B=(B41||decide ((g:Int)>50)):=⟨_,rfl⟩;revert aC;refine bX [(3,vI mem),(4,vS iA i ic),(5,vI fuel),(75,(vB (B41||decide ((g:Int)>50))))] ?_;rw[←zK];have QgQ:Oy=true↔(((((fs.length:Int)>20)∨((ds.length:Int)>30))∨((nk:Int)>4000))∨((g:Int)>50)):=by rw[zK];simp only[Qos,QhA,Qj1]
 clear zK;intro aC fr;refine cE 4 22 [78,79] fr (news:=[(78,(vB (Oy||decide ((mem:Int)>20000)))),(79,(vB (Oy||decide ((mem:Int)>20000))))]) (by cases Oy<;>kernel_rfl) ?_;intro aC fr;obtain⟨YL,Rs⟩:∃B:Bool,B=(Oy||decide ((mem:Int)>20000)):=⟨_,rfl⟩;revert aC;refine bX [(4,vS iA i ic),(5,vI fuel),(79,(vB (Oy||decide ((mem:Int)>20000))))] ?_;rw[←Rs];have Qaw:YL=true↔((((((fs.length:Int)>20)∨((ds.length:Int)>30))∨((nk:Int)>4000))∨((g:Int)>50))∨((mem:Int)>20000)):=by rw[Rs];simp only[Qos,QhA,QgQ]
 clear Rs;intro aC fr;refine cE 5 27 [83,84] fr (news:=[(83,(vB (YL||decide ((i:Int)>5000)))),(84,(vB (YL||decide ((i:Int)>5000))))]) (by cases YL<;>kernel_rfl) ?_;intro aC fr;obtain⟨YM,RY⟩:∃B:Bool,B=(YL||decide ((i:Int)>5000)):=⟨_,rfl⟩;revert aC;refine bX [(5,vI fuel),(84,(vB (YL||decide ((i:Int)>5000))))] ?_;rw[←RY];have QaS:YM=true↔(((((((fs.length:Int)>20)∨((ds.length:Int)>30))∨((nk:Int)>4000))∨((g:Int)>50))∨((mem:Int)>20000))∨((i:Int)>5000)):=by rw[RY];simp only[Qos,QhA,Qaw]
 clear RY;intro aC fr;refine cE 4 31 [12,87] fr (news:=[(12,(vB (YM||decide ((fuel:Int)>5000)))),(87,(vB (YM||decide ((fuel:Int)>5000))))]) (by cases YM<;>kernel_rfl)<|ay<|bL<|cv (vB (YM||decide ((fuel:Int)>5000))) ?_;have hR:(YM||decide ((fuel:Int)>5000))=true↔((((((((fs.length:Int)>20)∨((ds.length:Int)>30))∨((nk:Int)>4000))∨((g:Int)>50))∨((mem:Int)>20000))∨((i:Int)>5000))∨((fuel:Int)>5000)):=by simp only[Qos,QhA,QaS]
 exact⟨aY hR (⟨fun h_=> .inr oM,fun h_=>by rcases h_ with h_|h_;exact absurd h_ EE;omega⟩),lJ⟩
end Go.Proofs.YtejbeeaomokjpaaGreat
namespace Go.Proofs.YtejbeeaomokjpaaGreat
open Go.Mor
end Go.Proofs.YtejbeeaomokjpaaGreat
namespace Go.Proofs.YtejbeeaomokjpaaGreat
open Go.Mor
set_option maxHeartbeats 1000000 in
theorem NI(fs:List cX)(fA:ar)(fc:Nat)(w:World)(hl:RO bq w (.l7 fA 5 (fs.map cX.cells)))(hm:fs.length≤1000):Calls Tryz.prog 86 #[vS fA fs.length fc] w (ez fun v w'=>∃A c,v=vS A (fB fs).length c∧Mem bq w w' [.row 30 5 A (fB fs).length c ((fB fs).flatMap cX.cells)]):=by
 refine fv 76 [vS fA fs.length fc] Tryz.func86 ?_;have hM:=Mem.init w;refine aX<|aX<|ba<|aX<|cr 0 ?_;have M1:=hM.cl (Mem.dY _ 30 5);clear hM;intro aC fr;refine fk (fun n_ a_ w_=>∃(i:Nat) (Aj:ar) (cj:Nat),n_=fs.length-i∧Fr a_ 76 [(0,vS fA fs.length fc),(3,(vS Aj ((bF (fs.map fun f:cX=>(f.nm,f.wk)) fs i).length) cj)),(4,nV i)]∧Mem bq w w_ [.row 30 5 Aj ((bF (fs.map fun f:cX=>(f.nm,f.wk)) fs i).length) cj ((bF (fs.map fun f:cX=>(f.nm,f.wk)) fs i).flatMap cX.cells)]∧(i≤fs.length)) (n:=_) ⟨0,none,0,rfl,fr.kp [0,3,4],M1,Qom _⟩ ?_;clear fr aC M1;rintro n aC w4 ⟨i,Aj,cj,rfl,fr,M5,hi⟩;revert aC;refine ba<|aX<|fE ((i:Int)<(fs.length:Int)) (fun c8=> ?_) (fun c8=> ?_);refine bP<|ba<|cr 1<|aI ?_;obtain⟨f,hf⟩:=aM (l:=fs) (i:=i) oM;have Pa:(fs.map fun f:cX=>(f.nm,f.wk))[i]?=some (f.nm,f.wk):=by rw[List.getElem?_map,hf];rfl
 refine ah 2<|ay<|ba<|aX<|cr 2 ?_;intro aC fr;refine fk (fun n_ a_ w_=>∃(k:Nat) (b:Nat),n_=fs.length-k∧Fr a_ 76 [(0,vS fA fs.length fc),(3,(vS Aj ((bF (fs.map fun f:cX=>(f.nm,f.wk)) fs i).length) cj)),(4,nV i),(5,nV b),(6,nV k)]∧Mem bq w w_ [.row 30 5 Aj ((bF (fs.map fun f:cX=>(f.nm,f.wk)) fs i).length) cj ((bF (fs.map fun f:cX=>(f.nm,f.wk)) fs i).flatMap cX.cells)]∧(k≤fs.length)∧(b<fs.length)∧(CQ (fs.map fun f:cX=>(f.nm,f.wk)) i k b)) (n:=_) ⟨0,i,rfl,fr.kp [0,3,4,5,6],M5,Qom _,oM,CQ.start⟩ ?_;clear fr aC M5;rintro n aC Dr ⟨k,b,rfl,fr,dE,hk,hb,wh⟩;revert aC;refine ba<|aX<|fE ((k:Int)<(fs.length:Int)) (fun AF=> ?_) (fun AF=> ?_);refine bP<|ba<|cr 3<|ba ?_;obtain⟨q,hq⟩:=aM (l:=fs) (i:=k) oM;have Pb:(fs.map fun f:cX=>(f.nm,f.wk))[k]?=some (q.nm,q.wk):=by rw[List.getElem?_map,hq];rfl
 obtain⟨x,hx⟩:=aM (l:=fs) (i:=b) oM;have Pc:(fs.map fun f:cX=>(f.nm,f.wk))[b]?=some (x.nm,x.wk):=by rw[List.getElem?_map,hx];rfl
 cases z6:x.wk;cases CG:q.wk;obtain⟨eD,rfl⟩:=bw (dE.ro hl) (cs:=q.cells) (i:=k) (gm hq);obtain⟨NJ,Ee⟩:∃B:Bool,B=((q.nm:aV).toList==(f.nm:aV).toList):=⟨_,rfl⟩;cases NJ;have HI:¬(q.nm).toList=(f.nm).toList:=fun e_=>Bool.noConfusion ((Qco.2 e_).symm.trans (Ee.symm))
 refine da [0,3,4,5,6] ?_;intro aC fr;refine l9 (bo [eS (some eD) fs.length fc,.aU (nV k),eA eD (k:Int) 5,eA eD (k:Int) 5,eT q.nm,eS (some eD) fs.length fc,.aU (nV i),eA eD (i:Int) 5,eA eD (i:Int) 5,eT f.nm,eB false,eB false,dU,dU,dU,dU,dU,dU,dU,dU,dU,dU,dU,dU,dU,dU,dU,dU,dU,dU,dU,dU,dU,dU,dU,dU,dU,dU,dU,dU,dU,dU,dU,eB false]) fr (rM (pe (rh (zv (Yl (dT lz dP dP (dI eD fs.length 5 (k:Int)) dP (dL (aN eD (k:Int) 5) _ fun w_ hK=>(aQ ((dE.aw hK).ro hl) rfl (i:=k) (cs:=q.cells) (gm hq) 0 _ rfl)) dP dP (dI eD fs.length 5 (i:Int)) dP (dL (aN eD (i:Int) 5) _ fun w_ hK=>(aQ ((dE.aw hK).ro hl) rfl (i:=i) (cs:=f.cells) (gm hf) 0 _ rfl)) (Gf Ee) dP))))) dK dP) ?_;intro aC Wz vs hK hv fr;revert aC;refine bX [(0,vS (some eD) fs.length fc),(3,(vS Aj ((bF (fs.map fun f:cX=>(f.nm,f.wk)) fs i).length) cj)),(4,nV i),(5,nV b),(6,nV k),(63,vB false)] ?_;have qf:=dE.aw hK;clear hK hv fr aC dE;clear vs;exact fT<|bP<|cG<|ah 1<|cZ ((k:Int)+1)<|ah 1<|ay fun aC fr=>⟨fs.length-(k+1),oM,k+1,b,rfl,fr.kp [0,3,4,5,6],qf,oM,oM,wh.keep (wh.v8 Pa Pb Pc (fun h_=>HI (Qlh ByteArray.toList h_.1)))⟩
 have HI:(q.nm).toList=(f.nm).toList:=Qco.1 (Ee.symm);obtain⟨NK,G1⟩:∃B:Bool,B=decide ((k:Int)<(b:Int)):=⟨_,rfl⟩;cases NK;have HJ:¬((k:Int)<(b:Int)):=QnR G1.symm;refine da [0,3,4,5,6] ?_;intro aC fr;refine l9 (bo [eS (some eD) fs.length fc,.aU (nV k),eA eD (k:Int) 5,eA eD (k:Int) 5,eT q.nm,eS (some eD) fs.length fc,.aU (nV i),eA eD (i:Int) 5,eA eD (i:Int) 5,eT f.nm,eB true,eB true,.aU (nV k),.aU (nV b),eB false,eB false,dU,dU,dU,dU,dU,dU,dU,dU,dU,dU,dU,eB false,eB false,eS (some eD) fs.length fc,.aU (nV b),eA eD (b:Int) 5,eP ((aN eD (b:Int) 5).add 1),eB false,eB false,dU,dU,dU,dU,dU,dU,eB false,eB false,eB false]) fr (kV (pe (rh (la (pF (pe (zv (la (kV (dT lz dP dP (dI eD fs.length 5 (k:Int)) dP (dL (aN eD (k:Int) 5) _ fun w_ hK=>(aQ ((dE.aw hK).ro hl) rfl (i:=k) (cs:=q.cells) (gm hq) 0 _ rfl)) dP dP (dI eD fs.length 5 (i:Int)) dP (dL (aN eD (i:Int) 5) _ fun w_ hK=>(aQ ((dE.aw hK).ro hl) rfl (i:=i) (cs:=f.cells) (gm hf) 0 _ rfl)) (Gf Ee) dP) dP dP (dC (decide ((k:Int)<(b:Int))) G1)) dP))) dK dP dP dP dP (dI eD fs.length 5 (b:Int)) dP (dL ((aN eD (b:Int) 5).add 1) _ fun w_ hK=>(z6▸aQ ((dE.aw hK).ro hl) rfl (i:=b) (cs:=x.cells) (gm hx) 1 _ rfl))) dP))) dP dP dP) ?_;intro aC RZ vs hK hv fr;revert aC;refine bX [(0,vS (some eD) fs.length fc),(3,(vS Aj ((bF (fs.map fun f:cX=>(f.nm,f.wk)) fs i).length) cj)),(4,nV i),(5,nV b),(6,nV k),(63,vB false)] ?_;have pE:=dE.aw hK;clear hK hv fr aC dE;clear vs;exact fT<|bP<|cG<|ah 1<|cZ ((k:Int)+1)<|ah 1<|ay fun aC fr=>⟨fs.length-(k+1),oM,k+1,b,rfl,fr.kp [0,3,4,5,6],pE,oM,oM,wh.keep (wh.v8 Pa Pb Pc (fun h_=>Lh CG z6 (by simp;try omega) h_.2))⟩
 have HJ:(k:Int)<(b:Int):=QlT G1.symm;refine da [0,3,4,5,6] ?_;intro aC fr;refine l9 (bo [eS (some eD) fs.length fc,.aU (nV k),eA eD (k:Int) 5,eA eD (k:Int) 5,eT q.nm,eS (some eD) fs.length fc,.aU (nV i),eA eD (i:Int) 5,eA eD (i:Int) 5,eT f.nm,eB true,eB true,.aU (nV k),.aU (nV b),eB true,eB true,eS (some eD) fs.length fc,.aU (nV k),eA eD (k:Int) 5,eP ((aN eD (k:Int) 5).add 1),eB false,eS (some eD) fs.length fc,.aU (nV b),eA eD (b:Int) 5,eP ((aN eD (b:Int) 5).add 1),eB false,eB true,eB true,eB true,dU,dU,dU,dU,dU,dU,dU,dU,dU,dU,dU,dU,dU,eB true,eB true]) fr (kV (rh (zv (sv (dT (dT lz dP dP (dI eD fs.length 5 (k:Int)) dP (dL (aN eD (k:Int) 5) _ fun w_ hK=>(aQ ((dE.aw hK).ro hl) rfl (i:=k) (cs:=q.cells) (gm hq) 0 _ rfl)) dP dP (dI eD fs.length 5 (i:Int)) dP (dL (aN eD (i:Int) 5) _ fun w_ hK=>(aQ ((dE.aw hK).ro hl) rfl (i:=i) (cs:=f.cells) (gm hf) 0 _ rfl)) (Gf Ee) dP) dP dP (dC (decide ((k:Int)<(b:Int))) G1) dP dP dP (dI eD fs.length 5 (k:Int)) dP (dL ((aN eD (k:Int) 5).add 1) _ fun w_ hK=>(CG▸aQ ((dE.aw hK).ro hl) rfl (i:=k) (cs:=q.cells) (gm hq) 1 _ rfl)) dP dP (dI eD fs.length 5 (b:Int))) dP (dL ((aN eD (b:Int) 5).add 1) _ fun w_ hK=>(z6▸aQ ((dE.aw hK).ro hl) rfl (i:=b) (cs:=x.cells) (gm hx) 1 _ rfl)) (Gf (rfl:true=(false==false))) dP dP))) dK dP dP) ?_;intro aC w39 vs hK hv fr;revert aC;refine bX [(0,vS (some eD) fs.length fc),(3,(vS Aj ((bF (fs.map fun f:cX=>(f.nm,f.wk)) fs i).length) cj)),(4,nV i),(5,nV b),(6,nV k),(63,vB true)] ?_;have uz:=dE.aw hK;clear hK hv fr aC dE;clear vs;exact fm<|xh<|cG<|ah 1<|cZ ((k:Int)+1)<|ah 1<|ay fun aC fr=>⟨fs.length-(k+1),oM,k+1,k,rfl,fr.kp [0,3,4,5,6],uz,oM,oM,wh.take (wh.cond Pa Pb Pc ⟨kq.1 HI,by first|exact .inl ⟨oM,CG.trans z6.symm⟩|exact .inr ⟨z6,CG⟩⟩)⟩
 obtain⟨dF,rfl⟩:=bw (dE.ro hl) (cs:=q.cells) (i:=k) (gm hq);obtain⟨B44,SE⟩:∃B:Bool,B=((q.nm:aV).toList==(f.nm:aV).toList):=⟨_,rfl⟩;cases B44;have Qe:¬(q.nm).toList=(f.nm).toList:=fun e_=>Bool.noConfusion ((Qco.2 e_).symm.trans (SE.symm))
 refine da [0,3,4,5,6] ?_;intro aC fr;refine l9 (bo [eS (some dF) fs.length fc,.aU (nV k),eA dF (k:Int) 5,eA dF (k:Int) 5,eT q.nm,eS (some dF) fs.length fc,.aU (nV i),eA dF (i:Int) 5,eA dF (i:Int) 5,eT f.nm,eB false,eB false,dU,dU,dU,dU,dU,dU,dU,dU,dU,dU,dU,dU,dU,dU,dU,dU,dU,dU,dU,dU,dU,dU,dU,dU,dU,dU,dU,dU,dU,dU,dU,eB false]) fr (rM (pe (rh (zv (Yl (dT lz dP dP (dI dF fs.length 5 (k:Int)) dP (dL (aN dF (k:Int) 5) _ fun w_ hK=>(aQ ((dE.aw hK).ro hl) rfl (i:=k) (cs:=q.cells) (gm hq) 0 _ rfl)) dP dP (dI dF fs.length 5 (i:Int)) dP (dL (aN dF (i:Int) 5) _ fun w_ hK=>(aQ ((dE.aw hK).ro hl) rfl (i:=i) (cs:=f.cells) (gm hf) 0 _ rfl)) (Gf SE) dP))))) dK dP) ?_;intro aC w49 vs hK hv fr;revert aC;refine bX [(0,vS (some dF) fs.length fc),(3,(vS Aj ((bF (fs.map fun f:cX=>(f.nm,f.wk)) fs i).length) cj)),(4,nV i),(5,nV b),(6,nV k),(63,vB false)] ?_;have Du:=dE.aw hK;clear hK hv fr aC dE;clear vs;exact fT<|bP<|cG<|ah 1<|cZ ((k:Int)+1)<|ah 1<|ay fun aC fr=>⟨fs.length-(k+1),oM,k+1,b,rfl,fr.kp [0,3,4,5,6],Du,oM,oM,wh.keep (wh.v8 Pa Pb Pc (fun h_=>Qe (Qlh ByteArray.toList h_.1)))⟩
 have Qe:(q.nm).toList=(f.nm).toList:=Qco.1 (SE.symm);obtain⟨B53,Ym⟩:∃B:Bool,B=decide ((k:Int)<(b:Int)):=⟨_,rfl⟩;cases B53;have gC:¬((k:Int)<(b:Int)):=QnR Ym.symm;refine da [0,3,4,5,6] ?_;intro aC fr;refine l9 (bo [eS (some dF) fs.length fc,.aU (nV k),eA dF (k:Int) 5,eA dF (k:Int) 5,eT q.nm,eS (some dF) fs.length fc,.aU (nV i),eA dF (i:Int) 5,eA dF (i:Int) 5,eT f.nm,eB true,eB true,.aU (nV k),.aU (nV b),eB false,eB false,dU,dU,dU,dU,dU,dU,dU,dU,dU,dU,dU,eB false,eB false,eS (some dF) fs.length fc,.aU (nV b),eA dF (b:Int) 5,eP ((aN dF (b:Int) 5).add 1),eB false,eB false,dU,dU,dU,dU,dU,dU,eB false,eB false,eB false]) fr (kV (pe (rh (la (pF (pe (zv (la (kV (dT lz dP dP (dI dF fs.length 5 (k:Int)) dP (dL (aN dF (k:Int) 5) _ fun w_ hK=>(aQ ((dE.aw hK).ro hl) rfl (i:=k) (cs:=q.cells) (gm hq) 0 _ rfl)) dP dP (dI dF fs.length 5 (i:Int)) dP (dL (aN dF (i:Int) 5) _ fun w_ hK=>(aQ ((dE.aw hK).ro hl) rfl (i:=i) (cs:=f.cells) (gm hf) 0 _ rfl)) (Gf SE) dP) dP dP (dC (decide ((k:Int)<(b:Int))) Ym)) dP))) dK dP dP dP dP (dI dF fs.length 5 (b:Int)) dP (dL ((aN dF (b:Int) 5).add 1) _ fun w_ hK=>(z6▸aQ ((dE.aw hK).ro hl) rfl (i:=b) (cs:=x.cells) (gm hx) 1 _ rfl))) dP))) dP dP dP) ?_;intro aC w58 vs hK hv fr;revert aC;refine bX [(0,vS (some dF) fs.length fc),(3,(vS Aj ((bF (fs.map fun f:cX=>(f.nm,f.wk)) fs i).length) cj)),(4,nV i),(5,nV b),(6,nV k),(63,vB false)] ?_;have Ed:=dE.aw hK;clear hK hv fr aC dE;clear vs;exact fT<|bP<|cG<|ah 1<|cZ ((k:Int)+1)<|ah 1<|ay fun aC fr=>⟨fs.length-(k+1),oM,k+1,b,rfl,fr.kp [0,3,4,5,6],Ed,oM,oM,wh.keep (wh.v8 Pa Pb Pc (fun h_=>Lh CG z6 (by simp;try omega) h_.2))⟩
 have gC:(k:Int)<(b:Int):=QlT Ym.symm;refine da [0,3,4,5,6] ?_;intro aC fr;refine l9 (bo [eS (some dF) fs.length fc,.aU (nV k),eA dF (k:Int) 5,eA dF (k:Int) 5,eT q.nm,eS (some dF) fs.length fc,.aU (nV i),eA dF (i:Int) 5,eA dF (i:Int) 5,eT f.nm,eB true,eB true,.aU (nV k),.aU (nV b),eB true,eB true,eS (some dF) fs.length fc,.aU (nV k),eA dF (k:Int) 5,eP ((aN dF (k:Int) 5).add 1),eB true,eS (some dF) fs.length fc,.aU (nV b),eA dF (b:Int) 5,eP ((aN dF (b:Int) 5).add 1),eB false,eB false,eB false,eB false,eS (some dF) fs.length fc,.aU (nV b),eA dF (b:Int) 5,eP ((aN dF (b:Int) 5).add 1),eB false,eB false,dU,dU,dU,dU,dU,dU,eB false,eB false,eB false]) fr (kV (pe (rh (kV (pF (dT (dT lz dP dP (dI dF fs.length 5 (k:Int)) dP (dL (aN dF (k:Int) 5) _ fun w_ hK=>(aQ ((dE.aw hK).ro hl) rfl (i:=k) (cs:=q.cells) (gm hq) 0 _ rfl)) dP dP (dI dF fs.length 5 (i:Int)) dP (dL (aN dF (i:Int) 5) _ fun w_ hK=>(aQ ((dE.aw hK).ro hl) rfl (i:=i) (cs:=f.cells) (gm hf) 0 _ rfl)) (Gf SE) dP) dP dP (dC (decide ((k:Int)<(b:Int))) Ym) dP dP dP (dI dF fs.length 5 (k:Int)) dP (dL ((aN dF (k:Int) 5).add 1) _ fun w_ hK=>(CG▸aQ ((dE.aw hK).ro hl) rfl (i:=k) (cs:=q.cells) (gm hq) 1 _ rfl)) dP dP (dI dF fs.length 5 (b:Int))) dP (dL ((aN dF (b:Int) 5).add 1) _ fun w_ hK=>(z6▸aQ ((dE.aw hK).ro hl) rfl (i:=b) (cs:=x.cells) (gm hx) 1 _ rfl)) (Gf (rfl:false=(true==false))) dP dP dP dP (dI dF fs.length 5 (b:Int))) dP (dL ((aN dF (b:Int) 5).add 1) _ fun w_ hK=>(z6▸aQ ((dE.aw hK).ro hl) rfl (i:=b) (cs:=x.cells) (gm hx) 1 _ rfl)) dP))) dP dP dP) ?_;intro aC w66 vs hK hv fr;revert aC;refine bX [(0,vS (some dF) fs.length fc),(3,(vS Aj ((bF (fs.map fun f:cX=>(f.nm,f.wk)) fs i).length) cj)),(4,nV i),(5,nV b),(6,nV k),(63,vB false)] ?_;have qR:=dE.aw hK;clear hK hv fr aC dE;clear vs;exact fT<|bP<|cG<|ah 1<|cZ ((k:Int)+1)<|ah 1<|ay fun aC fr=>⟨fs.length-(k+1),oM,k+1,b,rfl,fr.kp [0,3,4,5,6],qR,oM,oM,wh.keep (wh.v8 Pa Pb Pc (fun h_=>Lh CG z6 (by simp;try omega) h_.2))⟩
 cases CG:q.wk;obtain⟨ei,rfl⟩:=bw (dE.ro hl) (cs:=q.cells) (i:=k) (gm hq);obtain⟨NL,Ef⟩:∃B:Bool,B=((q.nm:aV).toList==(f.nm:aV).toList):=⟨_,rfl⟩;cases NL;have OW:¬(q.nm).toList=(f.nm).toList:=fun e_=>Bool.noConfusion ((Qco.2 e_).symm.trans (Ef.symm))
 refine da [0,3,4,5,6] ?_;intro aC fr;refine l9 (bo [eS (some ei) fs.length fc,.aU (nV k),eA ei (k:Int) 5,eA ei (k:Int) 5,eT q.nm,eS (some ei) fs.length fc,.aU (nV i),eA ei (i:Int) 5,eA ei (i:Int) 5,eT f.nm,eB false,eB false,dU,dU,dU,dU,dU,dU,dU,dU,dU,dU,dU,dU,dU,dU,dU,dU,dU,dU,dU,dU,dU,dU,dU,dU,dU,dU,dU,dU,dU,dU,dU,eB false]) fr (rM (pe (rh (zv (Yl (dT lz dP dP (dI ei fs.length 5 (k:Int)) dP (dL (aN ei (k:Int) 5) _ fun w_ hK=>(aQ ((dE.aw hK).ro hl) rfl (i:=k) (cs:=q.cells) (gm hq) 0 _ rfl)) dP dP (dI ei fs.length 5 (i:Int)) dP (dL (aN ei (i:Int) 5) _ fun w_ hK=>(aQ ((dE.aw hK).ro hl) rfl (i:=i) (cs:=f.cells) (gm hf) 0 _ rfl)) (Gf Ef) dP))))) dK dP) ?_;intro aC w76 vs hK hv fr;revert aC;refine bX [(0,vS (some ei) fs.length fc),(3,(vS Aj ((bF (fs.map fun f:cX=>(f.nm,f.wk)) fs i).length) cj)),(4,nV i),(5,nV b),(6,nV k),(63,vB false)] ?_;have NM:=dE.aw hK;clear hK hv fr aC dE;clear vs;exact fT<|bP<|cG<|ah 1<|cZ ((k:Int)+1)<|ah 1<|ay fun aC fr=>⟨fs.length-(k+1),oM,k+1,b,rfl,fr.kp [0,3,4,5,6],NM,oM,oM,wh.keep (wh.v8 Pa Pb Pc (fun h_=>OW (Qlh ByteArray.toList h_.1)))⟩
 have OW:(q.nm).toList=(f.nm).toList:=Qco.1 (Ef.symm);obtain⟨Pd,G2⟩:∃B:Bool,B=decide ((k:Int)<(b:Int)):=⟨_,rfl⟩;cases Pd;have Vk:¬((k:Int)<(b:Int)):=QnR G2.symm;refine da [0,3,4,5,6] ?_;intro aC fr;refine l9 (bo [eS (some ei) fs.length fc,.aU (nV k),eA ei (k:Int) 5,eA ei (k:Int) 5,eT q.nm,eS (some ei) fs.length fc,.aU (nV i),eA ei (i:Int) 5,eA ei (i:Int) 5,eT f.nm,eB true,eB true,.aU (nV k),.aU (nV b),eB false,eB false,dU,dU,dU,dU,dU,dU,dU,dU,dU,dU,dU,eB false,eB false,eS (some ei) fs.length fc,.aU (nV b),eA ei (b:Int) 5,eP ((aN ei (b:Int) 5).add 1),eB true,eB true,eS (some ei) fs.length fc,.aU (nV k),eA ei (k:Int) 5,eP ((aN ei (k:Int) 5).add 1),eB false,eB true,eB true,eB true,eB true]) fr (la (sv (dT (pe (zv (la (kV (dT lz dP dP (dI ei fs.length 5 (k:Int)) dP (dL (aN ei (k:Int) 5) _ fun w_ hK=>(aQ ((dE.aw hK).ro hl) rfl (i:=k) (cs:=q.cells) (gm hq) 0 _ rfl)) dP dP (dI ei fs.length 5 (i:Int)) dP (dL (aN ei (i:Int) 5) _ fun w_ hK=>(aQ ((dE.aw hK).ro hl) rfl (i:=i) (cs:=f.cells) (gm hf) 0 _ rfl)) (Gf Ef) dP) dP dP (dC (decide ((k:Int)<(b:Int))) G2)) dP))) dK dP dP dP dP (dI ei fs.length 5 (b:Int)) dP (dL ((aN ei (b:Int) 5).add 1) _ fun w_ hK=>(z6▸aQ ((dE.aw hK).ro hl) rfl (i:=b) (cs:=x.cells) (gm hx) 1 _ rfl)) dP dP dP (dI ei fs.length 5 (k:Int))) dP (dL ((aN ei (k:Int) 5).add 1) _ fun w_ hK=>(CG▸aQ ((dE.aw hK).ro hl) rfl (i:=k) (cs:=q.cells) (gm hq) 1 _ rfl)) dP dP dP) dP) ?_;intro aC R0 vs hK hv fr;revert aC;refine bX [(0,vS (some ei) fs.length fc),(3,(vS Aj ((bF (fs.map fun f:cX=>(f.nm,f.wk)) fs i).length) cj)),(4,nV i),(5,nV b),(6,nV k),(63,vB true)] ?_;have pO:=dE.aw hK;clear hK hv fr aC dE;clear vs;exact fm<|xh<|cG<|ah 1<|cZ ((k:Int)+1)<|ah 1<|ay fun aC fr=>⟨fs.length-(k+1),oM,k+1,k,rfl,fr.kp [0,3,4,5,6],pO,oM,oM,wh.take (wh.cond Pa Pb Pc ⟨kq.1 OW,by first|exact .inl ⟨oM,CG.trans z6.symm⟩|exact .inr ⟨z6,CG⟩⟩)⟩
 have Vk:(k:Int)<(b:Int):=QlT G2.symm;refine da [0,3,4,5,6] ?_;intro aC fr;refine l9 (bo [eS (some ei) fs.length fc,.aU (nV k),eA ei (k:Int) 5,eA ei (k:Int) 5,eT q.nm,eS (some ei) fs.length fc,.aU (nV i),eA ei (i:Int) 5,eA ei (i:Int) 5,eT f.nm,eB true,eB true,.aU (nV k),.aU (nV b),eB true,eB true,eS (some ei) fs.length fc,.aU (nV k),eA ei (k:Int) 5,eP ((aN ei (k:Int) 5).add 1),eB false,eS (some ei) fs.length fc,.aU (nV b),eA ei (b:Int) 5,eP ((aN ei (b:Int) 5).add 1),eB true,eB false,eB false,eB false,eS (some ei) fs.length fc,.aU (nV b),eA ei (b:Int) 5,eP ((aN ei (b:Int) 5).add 1),eB true,eB true,eS (some ei) fs.length fc,.aU (nV k),eA ei (k:Int) 5,eP ((aN ei (k:Int) 5).add 1),eB false,eB true,eB true,eB true,eB true]) fr (pF (dT (dT (dT lz dP dP (dI ei fs.length 5 (k:Int)) dP (dL (aN ei (k:Int) 5) _ fun w_ hK=>(aQ ((dE.aw hK).ro hl) rfl (i:=k) (cs:=q.cells) (gm hq) 0 _ rfl)) dP dP (dI ei fs.length 5 (i:Int)) dP (dL (aN ei (i:Int) 5) _ fun w_ hK=>(aQ ((dE.aw hK).ro hl) rfl (i:=i) (cs:=f.cells) (gm hf) 0 _ rfl)) (Gf Ef) dP) dP dP (dC (decide ((k:Int)<(b:Int))) G2) dP dP dP (dI ei fs.length 5 (k:Int)) dP (dL ((aN ei (k:Int) 5).add 1) _ fun w_ hK=>(CG▸aQ ((dE.aw hK).ro hl) rfl (i:=k) (cs:=q.cells) (gm hq) 1 _ rfl)) dP dP (dI ei fs.length 5 (b:Int))) dP (dL ((aN ei (b:Int) 5).add 1) _ fun w_ hK=>(z6▸aQ ((dE.aw hK).ro hl) rfl (i:=b) (cs:=x.cells) (gm hx) 1 _ rfl)) (Gf (rfl:false=(false==true))) dP dP dP dP (dI ei fs.length 5 (b:Int)) dP (dL ((aN ei (b:Int) 5).add 1) _ fun w_ hK=>(z6▸aQ ((dE.aw hK).ro hl) rfl (i:=b) (cs:=x.cells) (gm hx) 1 _ rfl)) dP dP) dP (dI ei fs.length 5 (k:Int)) dP (dL ((aN ei (k:Int) 5).add 1) _ fun w_ hK=>(CG▸aQ ((dE.aw hK).ro hl) rfl (i:=k) (cs:=q.cells) (gm hq) 1 _ rfl)) dP dP dP dP) ?_;intro aC w93 vs hK hv fr;revert aC;refine bX [(0,vS (some ei) fs.length fc),(3,(vS Aj ((bF (fs.map fun f:cX=>(f.nm,f.wk)) fs i).length) cj)),(4,nV i),(5,nV b),(6,nV k),(63,vB true)] ?_;have Iy:=dE.aw hK;clear hK hv fr aC dE;clear vs;exact fm<|xh<|cG<|ah 1<|cZ ((k:Int)+1)<|ah 1<|ay fun aC fr=>⟨fs.length-(k+1),oM,k+1,k,rfl,fr.kp [0,3,4,5,6],Iy,oM,oM,wh.take (wh.cond Pa Pb Pc ⟨kq.1 OW,by first|exact .inl ⟨oM,CG.trans z6.symm⟩|exact .inr ⟨z6,CG⟩⟩)⟩
 obtain⟨eJ,rfl⟩:=bw (dE.ro hl) (cs:=q.cells) (i:=k) (gm hq);obtain⟨B98,SF⟩:∃B:Bool,B=((q.nm:aV).toList==(f.nm:aV).toList):=⟨_,rfl⟩;cases B98;have R1:¬(q.nm).toList=(f.nm).toList:=fun e_=>Bool.noConfusion ((Qco.2 e_).symm.trans (SF.symm))
 refine da [0,3,4,5,6] ?_;intro aC fr;refine l9 (bo [eS (some eJ) fs.length fc,.aU (nV k),eA eJ (k:Int) 5,eA eJ (k:Int) 5,eT q.nm,eS (some eJ) fs.length fc,.aU (nV i),eA eJ (i:Int) 5,eA eJ (i:Int) 5,eT f.nm,eB false,eB false,dU,dU,dU,dU,dU,dU,dU,dU,dU,dU,dU,dU,dU,dU,dU,dU,dU,dU,dU,dU,dU,dU,dU,dU,dU,dU,dU,dU,dU,dU,dU,eB false]) fr (rM (pe (rh (zv (Yl (dT lz dP dP (dI eJ fs.length 5 (k:Int)) dP (dL (aN eJ (k:Int) 5) _ fun w_ hK=>(aQ ((dE.aw hK).ro hl) rfl (i:=k) (cs:=q.cells) (gm hq) 0 _ rfl)) dP dP (dI eJ fs.length 5 (i:Int)) dP (dL (aN eJ (i:Int) 5) _ fun w_ hK=>(aQ ((dE.aw hK).ro hl) rfl (i:=i) (cs:=f.cells) (gm hf) 0 _ rfl)) (Gf SF) dP))))) dK dP) ?_;intro aC QfF vs hK hv fr;revert aC;refine bX [(0,vS (some eJ) fs.length fc),(3,(vS Aj ((bF (fs.map fun f:cX=>(f.nm,f.wk)) fs i).length) cj)),(4,nV i),(5,nV b),(6,nV k),(63,vB false)] ?_;have SG:=dE.aw hK;clear hK hv fr aC dE;clear vs;exact fT<|bP<|cG<|ah 1<|cZ ((k:Int)+1)<|ah 1<|ay fun aC fr=>⟨fs.length-(k+1),oM,k+1,b,rfl,fr.kp [0,3,4,5,6],SG,oM,oM,wh.keep (wh.v8 Pa Pb Pc (fun h_=>R1 (Qlh ByteArray.toList h_.1)))⟩
 have R1:(q.nm).toList=(f.nm).toList:=Qco.1 (SF.symm);obtain⟨Yn,wi⟩:∃B:Bool,B=decide ((k:Int)<(b:Int)):=⟨_,rfl⟩;cases Yn;have wL:¬((k:Int)<(b:Int)):=QnR wi.symm;refine da [0,3,4,5,6] ?_;intro aC fr;refine l9 (bo [eS (some eJ) fs.length fc,.aU (nV k),eA eJ (k:Int) 5,eA eJ (k:Int) 5,eT q.nm,eS (some eJ) fs.length fc,.aU (nV i),eA eJ (i:Int) 5,eA eJ (i:Int) 5,eT f.nm,eB true,eB true,.aU (nV k),.aU (nV b),eB false,eB false,dU,dU,dU,dU,dU,dU,dU,dU,dU,dU,dU,eB false,eB false,eS (some eJ) fs.length fc,.aU (nV b),eA eJ (b:Int) 5,eP ((aN eJ (b:Int) 5).add 1),eB true,eB true,eS (some eJ) fs.length fc,.aU (nV k),eA eJ (k:Int) 5,eP ((aN eJ (k:Int) 5).add 1),eB true,eB false,eB false,eB false,eB false]) fr (la (sv (dT (pe (zv (la (kV (dT lz dP dP (dI eJ fs.length 5 (k:Int)) dP (dL (aN eJ (k:Int) 5) _ fun w_ hK=>(aQ ((dE.aw hK).ro hl) rfl (i:=k) (cs:=q.cells) (gm hq) 0 _ rfl)) dP dP (dI eJ fs.length 5 (i:Int)) dP (dL (aN eJ (i:Int) 5) _ fun w_ hK=>(aQ ((dE.aw hK).ro hl) rfl (i:=i) (cs:=f.cells) (gm hf) 0 _ rfl)) (Gf SF) dP) dP dP (dC (decide ((k:Int)<(b:Int))) wi)) dP))) dK dP dP dP dP (dI eJ fs.length 5 (b:Int)) dP (dL ((aN eJ (b:Int) 5).add 1) _ fun w_ hK=>(z6▸aQ ((dE.aw hK).ro hl) rfl (i:=b) (cs:=x.cells) (gm hx) 1 _ rfl)) dP dP dP (dI eJ fs.length 5 (k:Int))) dP (dL ((aN eJ (k:Int) 5).add 1) _ fun w_ hK=>(CG▸aQ ((dE.aw hK).ro hl) rfl (i:=k) (cs:=q.cells) (gm hq) 1 _ rfl)) dP dP dP) dP) ?_;intro aC NN vs hK hv fr;revert aC;refine bX [(0,vS (some eJ) fs.length fc),(3,(vS Aj ((bF (fs.map fun f:cX=>(f.nm,f.wk)) fs i).length) cj)),(4,nV i),(5,nV b),(6,nV k),(63,vB false)] ?_;have mf:=dE.aw hK;clear hK hv fr aC dE;clear vs;exact fT<|bP<|cG<|ah 1<|cZ ((k:Int)+1)<|ah 1<|ay fun aC fr=>⟨fs.length-(k+1),oM,k+1,b,rfl,fr.kp [0,3,4,5,6],mf,oM,oM,wh.keep (wh.v8 Pa Pb Pc (fun h_=>Lh CG z6 (by simp;try omega) h_.2))⟩
 have wL:(k:Int)<(b:Int):=QlT wi.symm;refine da [0,3,4,5,6] ?_;intro aC fr;refine l9 (bo [eS (some eJ) fs.length fc,.aU (nV k),eA eJ (k:Int) 5,eA eJ (k:Int) 5,eT q.nm,eS (some eJ) fs.length fc,.aU (nV i),eA eJ (i:Int) 5,eA eJ (i:Int) 5,eT f.nm,eB true,eB true,.aU (nV k),.aU (nV b),eB true,eB true,eS (some eJ) fs.length fc,.aU (nV k),eA eJ (k:Int) 5,eP ((aN eJ (k:Int) 5).add 1),eB true,eS (some eJ) fs.length fc,.aU (nV b),eA eJ (b:Int) 5,eP ((aN eJ (b:Int) 5).add 1),eB true,eB true,eB true,eB true,dU,dU,dU,dU,dU,dU,dU,dU,dU,dU,dU,dU,dU,eB true,eB true]) fr (kV (rh (zv (sv (dT (dT lz dP dP (dI eJ fs.length 5 (k:Int)) dP (dL (aN eJ (k:Int) 5) _ fun w_ hK=>(aQ ((dE.aw hK).ro hl) rfl (i:=k) (cs:=q.cells) (gm hq) 0 _ rfl)) dP dP (dI eJ fs.length 5 (i:Int)) dP (dL (aN eJ (i:Int) 5) _ fun w_ hK=>(aQ ((dE.aw hK).ro hl) rfl (i:=i) (cs:=f.cells) (gm hf) 0 _ rfl)) (Gf SF) dP) dP dP (dC (decide ((k:Int)<(b:Int))) wi) dP dP dP (dI eJ fs.length 5 (k:Int)) dP (dL ((aN eJ (k:Int) 5).add 1) _ fun w_ hK=>(CG▸aQ ((dE.aw hK).ro hl) rfl (i:=k) (cs:=q.cells) (gm hq) 1 _ rfl)) dP dP (dI eJ fs.length 5 (b:Int))) dP (dL ((aN eJ (b:Int) 5).add 1) _ fun w_ hK=>(z6▸aQ ((dE.aw hK).ro hl) rfl (i:=b) (cs:=x.cells) (gm hx) 1 _ rfl)) (Gf (rfl:true=(true==true))) dP dP))) dK dP dP) ?_;intro aC QfG vs hK hv fr;revert aC;refine bX [(0,vS (some eJ) fs.length fc),(3,(vS Aj ((bF (fs.map fun f:cX=>(f.nm,f.wk)) fs i).length) cj)),(4,nV i),(5,nV b),(6,nV k),(63,vB true)] ?_;have wM:=dE.aw hK;clear hK hv fr aC dE;clear vs;exact fm<|xh<|cG<|ah 1<|cZ ((k:Int)+1)<|ah 1<|ay fun aC fr=>⟨fs.length-(k+1),oM,k+1,k,rfl,fr.kp [0,3,4,5,6],wM,oM,oM,wh.take (wh.cond Pa Pb Pc ⟨kq.1 R1,by first|exact .inl ⟨oM,CG.trans z6.symm⟩|exact .inr ⟨z6,CG⟩⟩)⟩
 refine eW 2<|eX<|aX<|ln (b:Int) (i:Int) (fun SH=> ?_) (fun SH=> ?_);have zR:=fK (nw:=(fs.map fun f:cX=>(f.nm,f.wk))) (l:=fs) (i:=i);have Yo:=(show k=((fs.map fun f:cX=>(f.nm,f.wk))).length by rw[QlO];omega)▸wh;have I7:=tP hf (Yo.done.1 oM);refine cG<|ah 3 ?_;obtain⟨Qax,rfl⟩:=bw (dE.ro hl) (cs:=f.cells) (i:=i) (gm hf);refine ej Qax fs.length 5 (i:Int)<|ga (aN Qax (i:Int) 5) [vT f.nm,vB f.wk,vI f.pa,vI f.va,vS f.A ((aq f.bh).length) f.c] (gf (i:=i) (dE.ro hl) rfl (gm hf)) ?_;intro aC fr;refine nX 73 22 1 #[(0,.tmp 72)] 22 fr (e:=30) (size:=5) (zs:=[vT ⟨#[]⟩,vB false,vI 0,vI 0,an]) (vs:=[(0,(.agg #[vT f.nm,vB f.wk,vI f.pa,vI f.va,vS f.A ((aq f.bh).length) f.c]))]) (cs:=[vT f.nm,vB f.wk,vI f.pa,vI f.va,vS f.A ((aq f.bh).length) f.c]) dE ?_;intro Qiu w127 QkS _ NO _ aC ea fr;clear ea;replace NO:=NO.nf;refine Xc 74 (.tmp 68) (.tmp 73) 22 22 fr (e:=30) (size:=5) (bytes:=64) (z:=(.agg #[vT ⟨#[]⟩,vB false,vI 0,vI 0,an])) (A:=Aj) (B:=(sM Qiu)) (n:=((bF (fs.map fun f:cX=>(f.nm,f.wk)) fs i).length)) (cap:=cj) (m:=1) (cap':=1) (xs:=((bF (fs.map fun f:cX=>(f.nm,f.wk)) fs i).flatMap cX.cells)) (news:=[vT f.nm,vB f.wk,vI f.pa,vI f.va,vS f.A ((aq f.bh).length) f.c]) NO 0 rfl (aD (NO.get 1 rfl)) rfl (by simp[Value.oneCell']) oM (by simp only[maxLen];omega) ((bF (fs.map fun f:cX=>(f.nm,f.wk)) fs (i+1)).length) ((bF (fs.map fun f:cX=>(f.nm,f.wk)) fs (i+1)).flatMap cX.cells) (by rw[I7,QoG];rfl) (by rw[I7,QpQ];rfl) ?_;intro Qiv Qiw w135 SI _ aC ea fr;clear ea;replace SI:=SI.nf;have Eg:=SI.od [] 1;revert aC;exact ah 1<|ay<|cG<|ah 1<|cZ ((i:Int)+1)<|ah 1<|ay fun aC fr=>⟨fs.length-(i+1),oM,i+1,Qiv,Qiw,rfl,fr.kp [0,3,4],Eg,oM⟩
 have zR:=fK (nw:=(fs.map fun f:cX=>(f.nm,f.wk))) (l:=fs) (i:=i);have Yo:=(show k=((fs.map fun f:cX=>(f.nm,f.wk))).length by rw[QlO];omega)▸wh;have I7:=vz (l:=fs) (Qoy.2 (fun h=>SH (by have:=Yo.done.2 h;omega)));refine bP<|cG<|ah 1<|cZ ((i:Int)+1)<|ah 1<|ay ?_;have SJ:=bd [.row 30 5 Aj ((bF (fs.map fun f:cX=>(f.nm,f.wk)) fs (i+1)).length) cj ((bF (fs.map fun f:cX=>(f.nm,f.wk)) fs (i+1)).flatMap cX.cells)] (dE.cast (by rw[I7]));intro aC fr;exact⟨fs.length-(i+1),oM,i+1,Aj,cj,rfl,(by rw[I7];exact fr.kp [0,3,4]),SJ,oM⟩;refine eW 0<|eX<|aX<|bL<|cv (vS Aj ((bF (fs.map fun f:cX=>(f.nm,f.wk)) fs i).length) cj) ?_;obtain rfl:i=fs.length:=oM;exact⟨Aj,cj,rfl,M5⟩
end Go.Proofs.YtejbeeaomokjpaaGreat
namespace Go.Proofs.YtejbeeaomokjpaaGreat
open Go.Mor
theorem kh(X:RX)(z:jo)(oA:ar)(oc:Nat)(w:World)(hX:X.WF)(hG:dM X z)(hR:(bx.pk (dR X z oA oc)).holds w)(k c:Int):Calls Tryz.prog 91 #[pT X.r 0,vI k,vI c] w (ez fun v w'=>v= .tuple #[]∧Mem (xS X z oA oc) w w' (dR X (z.fin k c) oA oc)):=by
 refine fv 24 [pT X.r 0,vI k,vI c] Tryz.func91 ?_;have hM:=Mem.uO hR;refine aI<|ah 3<|bt (ao X.r 10) _ (ae (hM.get 0 rfl) rfl)<|ah 1<|ay<|dX (!z.ov) (¬(z.ov=true)) (by simp only[iU]) (fun c1=> ?_) (fun c1=> ?_);replace c1:z.ov=false:=Qoy.2 c1;refine aI<|ah 3<|pC (ho:=sI) hM 0 10 (vB true) rfl fun w2 M3=> ?_
 replace M3:=M3.nf;clear hM;refine ay<|aI<|ah 5<|pC (ho:=sI) M3 0 6 (vI k) rfl fun w4 M5=> ?_
 replace M5:=M5.nf;refine ay<|cG<|ah 5<|pC (ho:=sI) M5 0 7 (vI c) rfl fun w6 M7=> ?_
 replace M7:=M7.nf;refine ay<|UY ?_;exact⟨rfl,by rw[K6 c1];exact M7⟩;replace c1:z.ov=true:=QoD.1 c1;refine bP<|UY ?_;exact⟨rfl,by rw[R2 c1];exact hM⟩
theorem Lk(X:RX)(z:jo)(oA:ar)(oc:Nat)(w:World)(hX:X.WF)(hG:dM X z)(hR:(bx.pk (dR X z oA oc)).holds w):Calls Tryz.prog 131 #[pT X.r 0] w (ez fun v w'=>∃b z' oA' oc',v=vB b∧z'.ov=(!b)∧dM X z'∧ey (z.go (cT X.E.toEnv0)) (z'.go (dp.ok ()))∧Mem (xS X z oA oc) w w' (dR X z' oA' oc')):=by
 have g1:=hG.s1;have g2:=hG.s2;have g3:=hX.fuel;refine fv 35 [pT X.r 0] Tryz.func131 ?_;have hM:=Mem.uO hR;refine aX<|ba<|ba ?_;cases hz:z.ov;have M1:=bd [.aB X.r 138 [vS X.dA X.ds.length X.dc,vS X.pA X.ds.length X.pc,vS (sM X.mG) X.E.bR X.E.bR,vI z.s.next,vS X.iA X.E.inp.length X.ic,(vI (z.s.pos:Int)),vI z.k,vI z.c,vS oA z.s.out.length oc,vI z.s.steps,vB false,vI X.E.fuel,vI z.s.opened,vS X.fA X.E.sQ.length X.fc,vS X.qA X.E.sQ.length X.qc],mZ X z,mM z oA oc] (hM.cast (zn hz));clear hM;refine da [0] ?_;intro aC fr;refine wB 15 (bo [eR X.r 0,eR X.r 0,eP (ao X.r 10),eB false,eB true,eB true,eR X.r 0,eR X.r 0,eP (ao X.r 6),eP (ao X.r 9),eI z.s.steps,eR X.r 0,eR X.r 0,eP (ao X.r 11),eI X.E.fuel]) fr (kV (dT lz dP dP dP (dL (ao X.r 10) _ fun w_ hK=>(ae ((M1.aw hK).get 0 rfl) rfl)) dP dP dP dP dP dP (dL (ao X.r 9) _ fun w_ hK=>(ae ((M1.aw hK).get 0 rfl) rfl)) dP) dP dP (dL (ao X.r 11) _ fun w_ hK=>(ae ((M1.aw hK).get 0 rfl) rfl))) ?_;intro aC w6 vs hK hv fr;revert aC;refine bX [(0,pT X.r 0),(8,vB true),(13,vI z.s.steps),(17,vI X.E.fuel)] ?_;have M7:=M1.aw hK;clear hK hv fr aC M1;clear vs;refine ah 2<|ay<|fE ((z.s.steps:Int)≥X.E.fuel) (fun c8=> ?_) (fun c8=> ?_);refine cG<|ah 1 ?_;have M9:=bd [oN X z oA oc,mZ X z,mM z oA oc] (M7.cast (zn hz).symm);refine di (kh X z oA oc w6 hX hG (Mem.cD (l:=dR X z oA oc) M9) 0 0) ?_;rintro _ GP ⟨rfl,SK⟩;have n5:=bd [oN X (z.fin 0 0) oA oc,mZ X (z.fin 0 0),mM (z.fin 0 0) oA oc] (M9.rH SK);refine ay<|ba<|aI<|ah 3<|bt (ao X.r 10) _ (ae (n5.get 0 rfl) rfl)<|ay<|dX ((z.fin 0 0).ov) (((z.fin 0 0).ov)=true) QoN (fun Dk=> ?_) (fun Dk=> ?_);refine aX<|bL<|cv (vB false) ?_;exact⟨false,(z.fin 0 0),oA,oc,rfl,Jl,hG.fin,ey.fin (K:=cT X.E.toEnv0) rfl (fun h_=>by unfold cT;rw[Kt (by have:=hG.s2;omega)];rfl),n5⟩;replace Dk:((z.fin 0 0).ov)=false:=Qoy.2 Dk;rw[Jl]at Dk;cases Dk;refine bP<|ba<|aI<|ah 3<|bt (ao X.r 10) _ (ae (M7.get 0 rfl) rfl)<|ay<|fT<|bP<|aI<|ah 4<|bt (ao X.r 9) _ (ae (M7.get 0 rfl) rfl)<|cZ (z.s.steps+1)<|ah 3<|pC (ho:=sI) M7 0 9 (vI (z.s.steps+1)) rfl fun KG lH=> ?_
 replace lH:=lH.nf;refine ay<|aX<|bL<|cv (vB true) ?_;exact⟨true,{z with s:={z.s with steps:=z.s.steps+1}},oA,oc,rfl,hz,hG.step oM,ey.to (K:=cT X.E.toEnv0) rfl hz hz (by unfold cT;rw[Ds oM]),(lH.cast (zn (z:={z with s:={z.s with steps:=z.s.steps+1}}) hz).symm)⟩;have mS:=bd [.aB X.r 138 [vS X.dA X.ds.length X.dc,vS X.pA X.ds.length X.pc,vS (sM X.mG) X.E.bR X.E.bR,vI z.s.next,vS X.iA X.E.inp.length X.ic,(vI (z.s.pos:Int)),vI z.k,vI z.c,vS oA z.s.out.length oc,vI z.s.steps,vB true,vI X.E.fuel,vI z.s.opened,vS X.fA X.E.sQ.length X.fc,vS X.qA X.E.sQ.length X.qc],mZ X z,mM z oA oc] (hM.cast (zn hz));clear hM;refine da [0] ?_;intro aC fr;refine wB 15 (bo [eR X.r 0,eR X.r 0,eP (ao X.r 10),eB true,eB false,eB false]) fr (la (zv (la (sv lz dP dP dP (dL (ao X.r 10) _ fun w_ hK=>(ae ((mS.aw hK).get 0 rfl) rfl)) dP) dP)) dK) ?_;intro aC Wb vs hK hv fr;revert aC;refine bX [(0,pT X.r 0),(8,vB false)] ?_;have nZ:=mS.aw hK;clear hK hv fr aC mS;clear vs;refine ah 2<|ay<|fT<|bP<|ba<|aI<|ah 3<|bt (ao X.r 10) _ (ae (nZ.get 0 rfl) rfl)<|ay<|fm<|aX<|bL<|cv (vB false) ?_;exact⟨false,z,oA,oc,rfl,hz,hG,ey.Nu hz (K:=cT X.E.toEnv0) rfl,(nZ.cast (zn hz).symm)⟩
theorem ri(X:RX)(z:jo)(oA:ar)(oc:Nat)(w:World)(hX:X.WF)(Pe:RO bq w (.aB X.r 138 (D8 X z oA oc)))(hA:RO bq w X.ro)(nm:aV):Calls Tryz.prog 90 #[pT X.r 0,vT nm] w (ez fun v w'=>v=vI ((fh X.E.names nm).getD 0)∧Mem bq w w' []):=by
 have hnf:=hX.XR;refine fv 27 [pT X.r 0,vT nm] Tryz.func90 ?_;have hM:=Mem.init w;refine aX<|ba<|aX<|cr 0 ?_;intro aC fr;refine fk (fun n_ a_ w_=>∃(j:Nat),n_=X.E.sQ.length-j∧Fr a_ 27 [(0,pT X.r 0),(1,vT nm),(5,nV j)]∧Mem bq w w_ []∧(j≤X.E.sQ.length)∧(vc et.nm X.E.sQ nm j)) (n:=_) ⟨0,rfl,fr.kp [0,1,5],hM,Qom _,vc.zero⟩ ?_;clear fr aC hM;rintro n aC w3 ⟨j,rfl,fr,M4,hj,EE⟩;revert aC;refine ba<|aI<|ah 4<|bt (ao X.r 13) _ (ae (M4.ro Pe) rfl)<|ah 2<|ay<|fE ((j:Int)<(X.E.sQ.length:Int)) (fun c7=> ?_) (fun c7=> ?_);refine bP<|ba<|cr 1<|aI ?_;obtain⟨f,hf⟩:=aM (l:=X.E.sQ) (i:=j) oM;refine ah 3<|bt (ao X.r 13) _ (ae (M4.ro Pe) rfl)<|ah 1 ?_;obtain⟨pN,SL⟩:=bw (M4.ro hA.Nx) (cs:=f.cells) (i:=j) (gm hf);intro aC fr;refine bT (some 20) X.fA pN X.E.sQ.length 5 (j:Int) fr kR SL oM oM<|ah 1<|bt (aN pN (j:Int) 5) _ (aQ (M4.ro hA.Nx) SL (i:=j) (cs:=f.cells) (gm hf) 0 _ rfl)<|ah 2<|ay<|dX ((f.nm:aV).toList==(nm:aV).toList) ((f.nm).toList=(nm).toList) (by simp only[Qco]) (fun HH=> ?_) (fun HH=> ?_);refine aI<|ah 1<|cZ ((j:Int)+1)<|da [26]<|ah 1<|ay<|bL<|cJ<|cJ<|cv (vI ((j:Int)+1)) ?_;exact⟨by rw[hX.names,Qct hf HH EE];rfl,M4⟩;exact bP<|cG<|ah 1<|cZ ((j:Int)+1)<|da [0,1,14]<|ah 1<|ay fun aC fr=>⟨X.E.sQ.length-(j+1),oM,j+1,rfl,fr.kp [0,1,5],M4,oM,EE.next hf HH⟩
 refine eW 0<|eX<|aI ?_;obtain rfl:j=X.E.sQ.length:=oM;refine ah 1<|ay<|bL<|cv (vI 0) ?_;exact⟨by rw[hX.names,Sj EE];rfl,M4⟩
theorem SM(X:RX)(z:jo)(oA:ar)(oc:Nat)(w:World)(hX:X.WF)(Pe:RO bq w (.aB X.r 138 (D8 X z oA oc)))(hA:RO bq w X.ro)(nm:aV):Calls Tryz.prog 117 #[pT X.r 0,vT nm] w (ez fun v w'=>v=vI ((fh X.E.data nm).getD 0)∧Mem bq w w' []):=by
 have hnf:=hX.nds;refine fv 32 [pT X.r 0,vT nm] Tryz.func117 ?_;have hM:=Mem.init w;refine aX<|ba<|aX<|cr 0 ?_;intro aC fr;refine fk (fun n_ a_ w_=>∃(j:Nat),n_=X.ds.length-j∧Fr a_ 32 [(0,pT X.r 0),(1,vT nm),(5,nV j)]∧Mem bq w w_ []∧(j≤X.ds.length)∧(vc bE.nm X.ds nm j)) (n:=_) ⟨0,rfl,fr.kp [0,1,5],hM,Qom _,vc.zero⟩ ?_;clear fr aC hM;rintro n aC w3 ⟨j,rfl,fr,M4,hj,EE⟩;revert aC;refine ba<|aI<|ah 4<|bt (aZ X.r) _ (ae (M4.ro Pe) rfl)<|ah 2<|ay<|fE ((j:Int)<(X.ds.length:Int)) (fun c7=> ?_) (fun c7=> ?_);refine bP<|ba<|cr 1<|aI ?_;obtain⟨d,hd⟩:=aM (l:=X.ds) (i:=j) oM;refine ah 3<|bt (aZ X.r) _ (ae (M4.ro Pe) rfl)<|ah 1 ?_;obtain⟨pN,SL⟩:=bw (M4.ro hA.Qfy) (cs:=d.cells) (i:=j) (gm hd);intro aC fr;refine bT (some 20) X.dA pN X.ds.length 4 (j:Int) fr kR SL oM oM<|ah 1<|bt (aN pN (j:Int) 4) _ (aQ (M4.ro hA.Qfy) SL (i:=j) (cs:=d.cells) (gm hd) 0 _ rfl)<|ah 2<|ay<|dX ((d.nm:aV).toList==(nm:aV).toList) ((d.nm).toList=(nm).toList) (by simp only[Qco]) (fun HH=> ?_) (fun HH=> ?_);refine aI<|ah 3<|bt (ao X.r 1) _ (ae (M4.ro Pe) rfl)<|da [5,28]<|ah 1 ?_;obtain⟨zw,Qay⟩:=rd_some (M4.ro hA.xpl) (by rw[dg,GJ];omega);intro aC fr;refine bT (some 30) X.pA zw X.ds.length 1 (j:Int) fr kR Qay oM oM<|bt (aN zw (j:Int) 1) _ (fx (M4.ro hA.xpl) Qay (uf oM))<|ah 1<|ay<|bL<|cJ<|cJ<|cv (vI (aJ X.ds j:Int)) ?_;exact⟨by rw[hX.data,R5 hd HH EE];rfl,M4⟩;exact bP<|cG<|ah 1<|cZ ((j:Int)+1)<|da [0,1,14]<|ah 1<|ay fun aC fr=>⟨X.ds.length-(j+1),oM,j+1,rfl,fr.kp [0,1,5],M4,oM,EE.next hd HH⟩
 refine eW 0<|eX<|aI ?_;obtain rfl:j=X.ds.length:=oM;refine ah 1<|ay<|bL<|cv (vI 0) ?_;exact⟨by rw[hX.data,GI EE];rfl,M4⟩
theorem Ll(X:RX)(z:jo)(oA:ar)(oc:Nat)(w:World)(hX:X.WF)(hG:dM X z)(hR:(bx.pk (dR X z oA oc)).holds w)(a n:Int)(ha:In64 a)(U9:0≤n)(Di:n≤2147483647):Calls Tryz.prog 146 #[pT X.r 0,vI a,vI n] w (ez fun v w'=>∃x z' oA' oc',v=vI x∧dM X z'∧((1≤x∧x<z.s.next∧z'=z∧uy (IntKind.i64.wrap (a+n)) z.s= .ok x.toNat z.s)∨(x<0∧z'=z.fin 5 0∧uy (IntKind.i64.wrap (a+n)) z.s= .stop 5 0 z.s))∧Mem (xS X z oA oc) w w' (dR X z' oA' oc')):=by
 have g1:=hG.n1;have g2:=hG.n2;have g3:=hX.mem;have Mr:=ha.1;have Aw:=ha.2;refine fv 38 [pT X.r 0,vI a,vI n] Tryz.func146 ?_;have hM:=Mem.uO hR;refine aX<|ba<|aI<|ah 3 ?_;obtain⟨B1,jQ⟩:∃B:Bool,B=decide ((a:Int)<(-2147483647)):=⟨_,rfl⟩;refine bX [(0,pT X.r 0),(1,vI a),(2,vI n),(9,(vB (decide ((a:Int)<(-2147483647)))))] ?_;rw[←jQ];have s9:B1=true↔((a:Int)<(-2147483647)):=by rw[jQ];simp only[QhA]
 clear jQ;intro aC fr;refine cE 4 7 [10,13] fr (news:=[(10,cond (!B1) (vI a) undef),(13,(cond (!B1) (vP (ao X.r 3)) undef))]) (by cases B1<;>kernel_rfl) ?_;intro aC fr;refine az (B:=(!B1)) (d:=(some 14)) (vI z.s.next) fr (by cases B1<;>kernel_rfl) (fun hB hh=> ?_) ?_;cases B1<;>try exact absurd hB dQ
 have c1:¬((a:Int)<(-2147483647)):=iL s9.2;exact br (some 14) (ao X.r 3) fr kR (vI z.s.next) (ae (hM.get 0 rfl) rfl) hh;intro aC fr;refine cE 3 11 [16,17] fr (news:=[(16,(vB (B1||decide ((a:Int)>z.s.next)))),(17,(vB (B1||decide ((a:Int)>z.s.next))))]) (by cases B1<;>kernel_rfl) ?_;intro aC fr;obtain⟨kO,pD⟩:∃B:Bool,B=(B1||decide ((a:Int)>z.s.next)):=⟨_,rfl⟩;revert aC;refine bX [(0,pT X.r 0),(1,vI a),(2,vI n),(17,(vB (B1||decide ((a:Int)>z.s.next))))] ?_;rw[←pD];have wN:kO=true↔(((a:Int)<(-2147483647))∨((a:Int)>z.s.next)):=by rw[pD];simp only[Qos,QhA,s9]
 clear pD;intro aC fr;refine cE 2 13 [18,19] fr (news:=[(18,cond (!kO) (vI a) undef),(19,cond (!kO) (vI n) undef)]) (by cases kO<;>kernel_rfl) ?_;intro aC fr;refine az (B:=(!kO)) (d:=(some 20)) (vI (a+n)) fr (by cases kO<;>kernel_rfl) (fun hB hh=> ?_) ?_;cases kO<;>try exact absurd hB dQ
 have uR:¬(((a:Int)<(-2147483647))∨((a:Int)>z.s.next)):=iL wN.2;exact GF (some 20) (a+n) fr (z0:=a+n) kR rfl oM oM hh;intro aC fr;refine cE 3 17 [22,23] fr (news:=[(22,(vB (kO||decide (((a+n):Int)<1)))),(23,(vB (kO||decide (((a+n):Int)<1))))]) (by cases kO<;>kernel_rfl) ?_;intro aC fr;obtain⟨vi,Jv⟩:∃B:Bool,B=(kO||decide (((a+n):Int)<1)):=⟨_,rfl⟩;revert aC;refine bX [(0,pT X.r 0),(1,vI a),(2,vI n),(23,(vB (kO||decide (((a+n):Int)<1))))] ?_;rw[←Jv];have NP:vi=true↔((((a:Int)<(-2147483647))∨((a:Int)>z.s.next))∨(((a+n):Int)<1)):=by rw[Jv];simp only[Qos,QhA,wN]
 clear Jv;intro aC fr;refine cE 2 19 [24,25] fr (news:=[(24,cond (!vi) (vI a) undef),(25,cond (!vi) (vI n) undef)]) (by cases vi<;>kernel_rfl) ?_;intro aC fr;refine az (B:=(!vi)) (d:=(some 26)) (vI (a+n)) fr (by cases vi<;>kernel_rfl) (fun hB hh=> ?_) ?_;cases vi<;>try exact absurd hB dQ
 have rf:¬((((a:Int)<(-2147483647))∨((a:Int)>z.s.next))∨(((a+n):Int)<1)):=iL NP.2;exact GF (some 26) (a+n) fr (z0:=a+n) kR rfl oM oM hh;intro aC fr;refine cE 3 23 [29] fr (news:=[(29,(cond (!vi) (vP (ao X.r 3)) undef))]) (by cases vi<;>kernel_rfl) ?_;intro aC fr;refine az (B:=(!vi)) (d:=(some 30)) (vI z.s.next) fr (by cases vi<;>kernel_rfl) (fun hB hh=> ?_) ?_;cases vi<;>try exact absurd hB dQ
 have rf:¬((((a:Int)<(-2147483647))∨((a:Int)>z.s.next))∨(((a+n):Int)<1)):=iL NP.2;exact br (some 30) (ao X.r 3) fr kR (vI z.s.next) (ae (hM.get 0 rfl) rfl) hh;intro aC fr;refine cE 2 26 [32] fr (news:=[(32,(vB (vi||decide (((a+n):Int)≥z.s.next))))]) (by cases vi<;>kernel_rfl)<|ay<|dX (vi||decide (((a+n):Int)≥z.s.next)) (((((a:Int)<(-2147483647))∨((a:Int)>z.s.next))∨(((a+n):Int)<1))∨(((a+n):Int)≥z.s.next)) (by simp only[Qos,QhA,NP]) (fun Fo=> ?_) (fun Fo=> ?_);refine aI<|ah 1<|di (kh X z oA oc w hX hG (Mem.cD (l:=dR X z oA oc) hM) 5 0) ?_;rintro _ Gs ⟨rfl,Dl⟩;have xo:=bd [oN X (z.fin 5 0) oA oc,mZ X (z.fin 5 0),mM (z.fin 5 0) oA oc] (hM.rH Dl);clear Dl hM;refine ay<|aX<|bL<|cv (vI (-1)) ?_;exact⟨-1,(z.fin 5 0),oA,oc,rfl,hG.fin,.inr ⟨oM,rfl,XO ha U9 Di oM g1 oM⟩,xo⟩;refine bP<|aI<|ah 2<|cZ (a+n)<|ah 1<|ay<|bL<|cv (vI (a+n)) ?_;exact⟨a+n,z,oA,oc,rfl,hG,.inl ⟨oM,oM,rfl,R8 oM oM oM oM oM⟩,hM⟩
theorem SN(X:RX)(z:jo)(oA:ar)(oc:Nat)(w:World)(hX:X.WF)(hG:dM X z)(hR:(bx.pk (dR X z oA oc)).holds w)(n:Int)(hz:z.ov=false):Calls Tryz.prog 147 #[pT X.r 0,vI n] w (ez fun v w'=>XV X (xS X z oA oc) w z (qw X.E.toEnv0 n) v w'):=by
 have g1:=hG.n1;have g2:=hG.n2;have g3:=hX.mem;refine fv 38 [pT X.r 0,vI n] Tryz.func147 ?_;have hM:=Mem.uO hR;refine aX<|ba<|aX<|fE ((n:Int)<0) (fun c1=> ?_) (fun c1=> ?_);refine aI<|ah 1<|di (kh X z oA oc w hX hG (Mem.cD (l:=dR X z oA oc) hM) 5 0) ?_;rintro _ w2 ⟨rfl,M3x⟩;have M3:=bd [oN X (z.fin 5 0) oA oc,mZ X (z.fin 5 0),mM (z.fin 5 0) oA oc] (hM.rH M3x);clear M3x hM;refine ay<|aX<|bL<|cv (vI 0) ?_;exact⟨0,(z.fin 5 0),oA,oc,rfl,hG.fin,ey.fin (K:=qw X.E.toEnv0 n) rfl (fun _=>by unfold qw;first|rw[Kt oM];rfl|rw[Ds oM,Kt oM];rfl),M3⟩;refine bP<|ba<|ba ?_;obtain⟨B4,yz⟩:∃B:Bool,B=decide (n>((X.E.bR:Int)-z.s.next)):=⟨_,rfl⟩;refine da [0,1] ?_;intro aC fr;refine l9 (bo [eI n,eR X.r 0,eR X.r 0,eP (ao X.r 2),eS (sM X.mG) X.E.bR X.E.bR,eI (X.E.bR:Int),eR X.r 0,eR X.r 0,eP (ao X.r 3),eI z.s.next,eI ((X.E.bR:Int)-z.s.next),eB B4]) fr (dT lz dP dP dP dP (dL (ao X.r 2) _ fun w_ hK=>(ae ((hM.aw hK).get 0 rfl) rfl)) dP dP dP dP (dL (ao X.r 3) _ fun w_ hK=>(ae ((hM.aw hK).get 0 rfl) rfl)) (dA ((X.E.bR:Int)-z.s.next)) (dC (decide (n>((X.E.bR:Int)-z.s.next))) yz)) ?_;intro aC w9 vs hK hv fr;revert aC;refine bX [(0,pT X.r 0),(1,vI n),(21,vB B4)] ?_;have jw:=hM.aw hK;clear hK hv fr aC hM;clear vs;have tL:B4=true↔((n:Int)>((X.E.bR:Int)-z.s.next)):=by rw[yz];simp only[QhA]
 clear yz;refine dX B4 ((n:Int)>((X.E.bR:Int)-z.s.next)) tL (fun qV=> ?_) (fun qV=> ?_);refine aI<|ah 1<|di (kh X z oA oc w9 hX hG (Mem.cD (l:=dR X z oA oc) jw) 3 0) ?_;rintro _ V6 ⟨rfl,FF⟩;have oB:=bd [oN X (z.fin 3 0) oA oc,mZ X (z.fin 3 0),mM (z.fin 3 0) oA oc] (jw.rH FF);refine ay<|aX<|bL<|cv (vI 0) ?_;exact⟨0,(z.fin 3 0),oA,oc,rfl,hG.fin,ey.fin (K:=qw X.E.toEnv0 n) rfl (fun _=>by unfold qw;first|rw[Kt oM];rfl|rw[Ds oM,Kt oM];rfl),oB⟩;refine bP<|aI<|ah 3<|bt (ao X.r 3) _ (ae (jw.get 0 rfl) rfl)<|ah 1<|ay<|aI<|ah 4<|bt (ao X.r 3) _ (ae (jw.get 0 rfl) rfl)<|ah 1<|cZ (z.s.next+n)<|ah 2<|pC (ho:=sI) jw 0 3 (vI (z.s.next+n)) rfl fun N6 mS=> ?_
 replace mS:=mS.nf;refine ay<|aX<|bL<|cv (vI z.s.next) ?_;exact⟨z.s.next,{z with s:={z.s with next:=z.s.next+n}},oA,oc,rfl,hG.take oM oM,ey.to (K:=qw X.E.toEnv0 n) rfl hz hz (by unfold qw;rw[Ds oM,Ds oM]),mS⟩
theorem Yp(X:RX)(z:jo)(oA:ar)(oc:Nat)(w:World)(hX:X.WF)(hG:dM X z)(hR:(bx.pk (dR X z oA oc)).holds w)(hA:RO (xS X z oA oc) w X.ro)(hz:z.ov=false):Calls Tryz.prog 148 #[pT X.r 0] w (ez fun v w'=>XV X (xS X z oA oc) w z (Cj X.E.toEnv0) v w'):=by
 have g1:=hG.pos;have g2:=hX.inp;refine fv 32 [pT X.r 0] Tryz.func148 ?_;have hM:=Mem.uO hR;refine aX<|ba<|ba ?_;obtain⟨B1,jQ⟩:∃B:Bool,B=decide ((z.s.pos:Int)≥(X.E.inp.length:Int)):=⟨_,rfl⟩;refine da [0] ?_;intro aC fr;refine l9 (bo [eR X.r 0,eR X.r 0,eP (ao X.r 5),eI (z.s.pos:Int),eR X.r 0,eR X.r 0,eP (ao X.r 4),eS X.iA X.E.inp.length X.ic,eI (X.E.inp.length:Int),eB B1]) fr (rM (pF lz dP dP dP (dL (ao X.r 5) _ fun w_ hK=>(ae ((hM.aw hK).get 0 rfl) rfl)) dP dP dP (dL (ao X.r 4) _ fun w_ hK=>(ae ((hM.aw hK).get 0 rfl) rfl))) dP (dC (decide ((z.s.pos:Int)≥(X.E.inp.length:Int))) jQ)) ?_;intro aC w6 vs hK hv fr;revert aC;refine bX [(0,pT X.r 0),(12,vB B1)] ?_;have M7:=hM.aw hK;clear hK hv fr aC hM;clear vs;have s9:B1=true↔((z.s.pos:Int)≥(X.E.inp.length:Int)):=by rw[jQ];simp only[QhA]
 clear jQ;refine dX B1 ((z.s.pos:Int)≥(X.E.inp.length:Int)) s9 (fun c8=> ?_) (fun c8=> ?_);refine aX<|bL<|cv (vI (-1)) ?_;exact⟨-1,z,oA,oc,rfl,hG,ey.to (K:=Cj X.E.toEnv0) rfl hz hz (by unfold Cj;rw[Ds oM]),M7⟩;refine bP<|aI<|ah 3<|bt (ao X.r 5) _ (ae (M7.get 0 rfl) rfl)<|cZ ((z.s.pos:Int)+1)<|ah 2<|pC (ho:=sI) M7 0 5 (vI ((z.s.pos:Int)+1)) rfl fun w9 jw=> ?_
 replace jw:=jw.nf;refine ay<|ba<|da [0] ?_;intro aC fr;refine wB 9 (bo [eR X.r 0,eR X.r 0,eP (ao X.r 4),eS X.iA X.E.inp.length X.ic,eR X.r 0,eR X.r 0,eP (ao X.r 5),eI ((z.s.pos:Int)+1),eI (((z.s.pos:Int)+1)-1)]) fr (la (pF lz dP dP dP (dL (ao X.r 4) _ fun w_ hK=>(ae ((jw.aw hK).get 0 rfl) rfl)) dP dP dP (dL (ao X.r 5) _ fun w_ hK=>(ae ((jw.aw hK).get 0 rfl) rfl))) (dA (((z.s.pos:Int)+1)-1))) ?_;intro aC Z7 vs hK hv fr;revert aC;refine bX [(23,vS X.iA X.E.inp.length X.ic),(28,(vI (((z.s.pos:Int)+1)-1)))] ?_;have oC:=jw.aw hK;clear hK hv fr aC jw;clear vs;obtain⟨SO,G3⟩:=rd_some (oC.ro hA.xin) (by rw[WL];omega);intro aC fr;refine bT (some 29) X.iA SO X.E.inp.length 1 (((z.s.pos:Int)+1)-1) fr kR G3 oM oM<|bt (aN SO (((z.s.pos:Int)+1)-1) 1) _ (Sm (oC.ro hA.xin) G3 oM)<|zcv (hz:=(IntWalk.i64_in _ (by have:=Sl hX (p:=z.s.pos);omega))) (X.E.inp.getD z.s.pos 0) .i64 (X.E.inp.getD z.s.pos 0)<|ah 1<|ay<|bL<|cv (vI (X.E.inp.getD z.s.pos 0)) ?_;exact⟨_,{z with s:={z.s with pos:=z.s.pos+1}},oA,oc,rfl,hG.read oM,ey.to (K:=Cj X.E.toEnv0) rfl hz hz (by unfold Cj;rw[Kt oM]),oC⟩
theorem SP(X:RX)(z:jo)(oA:ar)(oc:Nat)(w:World)(hX:X.WF)(hG:dM X z)(hR:(bx.pk (dR X z oA oc)).holds w)(u:Int):Calls Tryz.prog 149 #[pT X.r 0,vI u] w (ez fun v w'=>∃z' oA' oc',v= .tuple #[]∧dM X z'∧z'.ov=z.ov∧z'.s=DT u z.s∧Mem (xS X z oA oc) w w' (dR X z' oA' oc')):=by
 have g1:=hG.out;refine fv 24 [pT X.r 0,vI u] Tryz.func149 ?_;have hM:=Mem.uO hR;refine aI<|ah 4<|bt (ao X.r 8) _ (ae (hM.get 0 rfl) rfl)<|ah 2<|ay<|fE ((z.s.out.length:Int)<4096) (fun c1=> ?_) (fun c1=> ?_);refine cG<|ah 5<|bt (ao X.r 8) _ (ae (hM.get 0 rfl) rfl)<|ah 1<|zcv (hz:=rfl) u .u8 (IntKind.u8.wrap u) ?_;intro aC fr;refine nX 19 24 1 #[(0,.tmp 18)] 24 fr (e:=5) (size:=1) (zs:=[.int .u8 0]) (vs:=[(0,.int .u8 (IntKind.u8.wrap u))]) (cs:=[.int .u8 (IntKind.u8.wrap u)]) hM ?_;intro b2 w3 uV _ M4 _ aC ea fr;clear ea;replace M4:=M4.nf;clear hM;refine Xc 20 (.tmp 16) (.tmp 19) 24 24 fr (e:=5) (size:=1) (bytes:=1) (z:=(.int .u8 0)) (A:=oA) (B:=(sM b2)) (n:=z.s.out.length) (cap:=oc) (m:=1) (cap':=1) (xs:=(qW z.s.out)) (news:=[.int .u8 (IntKind.u8.wrap u)]) M4 2 rfl (aD (M4.get 3 rfl)) rfl (by simp[Value.oneCell']) oM (by simp only[maxLen];omega) ((z.s.out++[IntKind.u8.wrap u]).length) (qW (z.s.out++[IntKind.u8.wrap u])) (by rw[QoG];rfl) (by rw[IB];rfl) ?_;intro A9 uR Dr dE _ aC ea fr;clear ea;replace dE:=dE.nf;have mS:=dE.od [2,2,2] 3;revert aC;refine ah 3<|pC (ho:=sI) mS 0 8 (vS A9 (z.s.out++[IntKind.u8.wrap u]).length uR) rfl fun OT kK=> ?_
 replace kK:=kK.nf;refine ay<|UY ?_;exact⟨{z with s:={z.s with out:=(z.s.out++[IntKind.u8.wrap u])}},A9,uR,rfl,hG.write oM _,rfl,by unfold DT;rw[Kt oM],kK⟩;refine bP<|UY ?_;exact⟨z,oA,oc,rfl,hG,rfl,by unfold DT;rw[Ds oM],hM⟩
end Go.Proofs.YtejbeeaomokjpaaGreat
namespace Go.Proofs.YtejbeeaomokjpaaGreat
open Go.Mor
theorem Yq(w:World):Calls Tryz.prog 157 #[vB true] w (ez fun v w'=>v=vI 1∧Mem bq w w' []):=by
 refine fv 4 [vB true] Tryz.func157 ?_;have hM:=Mem.init w;refine aX<|ba<|aX<|fm<|aX<|bL<|cv (vI 1) ?_;exact⟨rfl,hM⟩
theorem Yr(w:World):Calls Tryz.prog 157 #[vB false] w (ez fun v w'=>v=vI 0∧Mem bq w w' []):=by
 refine fv 4 [vB false] Tryz.func157 ?_;have hM:=Mem.init w;refine aX<|ba<|aX<|fT<|bP<|aX<|bL<|cv (vI 0) ?_;exact⟨rfl,hM⟩
theorem oQ(b:Bool)(w:World):Calls Tryz.prog 157 #[.bool b] w (ez fun v w'=>v=vI (cO b)∧Mem bq w w' []):=by
 cases b
 ·exact Yr w
 ·exact Yq w
set_option maxHeartbeats 2000000 in
theorem Ys(op a b:Int)(w:World):Calls Tryz.prog 158 #[vI op,vI a,vI b] w (ez fun v w'=>v= .tuple #[vI (cA op a b).1,vI (cA op a b).2]∧Mem bq w w' []):=by
 refine fv 108 [vI op,vI a,vI b] Tryz.func158 ?_;have hM:=Mem.init w;refine aX<|ba<|aX<|cr 0<|aX<|ln op 1 (fun c1=> ?_) (fun c1=> ?_);refine aI<|ah 2<|Hx .i64 (IntKind.i64.wrap (a+b)) b<|ah 2<|ay<|bL<|cJ<|iv (vI (IntKind.i64.wrap (a+b))) (vI 0) ?_;refine⟨?_,hM⟩;have e_:cA op a b=(IntKind.i64.wrap (a+b),0):=by exact bo1
 rw[e_];refine aX<|ln op 2 (fun c2=> ?_) (fun c2=> ?_);refine aI<|ah 2<|Hx .i64 (IntKind.i64.wrap (a-b)) b<|ah 2<|ay<|bL<|cJ<|iv (vI (IntKind.i64.wrap (a-b))) (vI 0) ?_;refine⟨?_,hM⟩;have e_:cA op a b=(IntKind.i64.wrap (a-b),0):=by exact bo2
 rw[e_];refine aX<|ln op 3 (fun c3=> ?_) (fun c3=> ?_);refine aI<|ah 2<|Hx .i64 (IntKind.i64.wrap (a*b)) b<|ah 2<|ay<|bL<|cJ<|iv (vI (IntKind.i64.wrap (a*b))) (vI 0) ?_;refine⟨?_,hM⟩;have e_:cA op a b=(IntKind.i64.wrap (a*b),0):=by exact bo3
 rw[e_];refine ba<|aX ?_;obtain⟨B4,yz⟩:∃B:Bool,B=((op:Int)==4):=⟨_,rfl⟩;refine bX [(0,vI op),(1,vI a),(2,vI b),(8,vI op),(24,(vB ((op:Int)==4)))] ?_;rw[←yz];have tL:B4=true↔((op:Int)=4):=by rw[yz];simp only[Qco]
 clear yz;cases B4;have c4:¬((op:Int)=4):=iL tL.2;refine fT<|xh<|ln op 5 (fun c5=> ?_) (fun c5=> ?_);refine ba<|aX<|ln b 0 (fun c6=> ?_) (fun c6=> ?_);refine aX<|bL<|cJ<|iv (vI 0) (vI 3) ?_;refine⟨?_,hM⟩;have e_:cA op a b=(0,3):=by first|exact R9 oM oM|exact Sa oM oM|exact Sb oM oM|exact Sc oM oM oM|exact Sd oM oM oM|exact gz oM
 rw[e_];refine bP<|ba<|aX<|ln b (-1) (fun c7=> ?_) (fun c7=> ?_);refine ba<|aX<|ln op 4 (fun c8=> ?_) (fun c8=> ?_);refine aI<|ah 1<|Mo .neg a .i64 (IntKind.i64.wrap (0-a))<|ah 2<|ay<|bL<|cJ<|iv (vI (IntKind.i64.wrap (0-a))) (vI 0) ?_;refine⟨?_,hM⟩;have e_:cA op a b=(IntKind.i64.wrap (0-a),0):=by first|exact R9 oM oM|exact Sa oM oM|exact Sb oM oM|exact Sc oM oM oM|exact Sd oM oM oM|exact gz oM
 rw[e_];refine bP<|aX<|bL<|cJ<|iv (vI 0) (vI 0) ?_;refine⟨?_,hM⟩;have e_:cA op a b=(0,0):=by first|exact R9 oM oM|exact Sa oM oM|exact Sb oM oM|exact Sc oM oM oM|exact Sd oM oM oM|exact gz oM
 rw[e_];refine bP<|ba<|aX<|ln op 4 (fun c9=> ?_) (fun c9=> ?_);refine aI<|ah 2<|Ur .i64 (IntKind.i64.wrap (a.tdiv b)) b (by assumption)<|ah 2<|ay<|bL<|cJ<|iv (vI (IntKind.i64.wrap (a.tdiv b))) (vI 0) ?_;refine⟨?_,hM⟩;have e_:cA op a b=(IntKind.i64.wrap (a.tdiv b),0):=by first|exact R9 oM oM|exact Sa oM oM|exact Sb oM oM|exact Sc oM oM oM|exact Sd oM oM oM|exact gz oM
 rw[e_];refine bP<|aI<|ah 2<|Ur .i64 (a.tmod b) b (by assumption)<|ah 2<|ay<|bL<|cJ<|iv (vI (a.tmod b)) (vI 0) ?_;refine⟨?_,hM⟩;have e_:cA op a b=(a.tmod b,0):=by first|exact R9 oM oM|exact Sa oM oM|exact Sb oM oM|exact Sc oM oM oM|exact Sd oM oM oM|exact gz oM
 rw[e_];refine aX<|ln op 6 (fun uR=> ?_) (fun uR=> ?_);refine aI<|ah 2<|Hx .i64 (tB a b) b<|ah 2<|ay<|bL<|cJ<|iv (vI (tB a b)) (vI 0) ?_;refine⟨?_,hM⟩;have e_:cA op a b=(tB a b,0):=by exact bo6
 rw[e_];refine aX<|ln op 7 (fun qV=> ?_) (fun qV=> ?_);refine aI<|ah 2<|Hx .i64 (Z3 a b) b<|ah 2<|ay<|bL<|cJ<|iv (vI (Z3 a b)) (vI 0) ?_;refine⟨?_,hM⟩;have e_:cA op a b=(Z3 a b,0):=by exact bo7
 rw[e_];refine aX<|ln op 8 (fun Dk=> ?_) (fun Dk=> ?_);refine aI<|ah 2<|Hx .i64 (rp a b) b<|ah 2<|ay<|bL<|cJ<|iv (vI (rp a b)) (vI 0) ?_;refine⟨?_,hM⟩;have e_:cA op a b=(rp a b,0):=by exact bo8
 rw[e_];refine aX<|ln op 9 (fun c13=> ?_) (fun c13=> ?_);refine aI<|ah 2<|Hx .i64 (tB b 63) 63<|zcv (hz:=(La b)) (tB b 63) .u64 (tC b)<|zbs .i64 .u64 (Fi a (tC b)) (tC b) (DG b)<|ah 2<|ay<|bL<|cJ<|iv (vI (Fi a (tC b))) (vI 0) ?_;refine⟨?_,hM⟩;have e_:cA op a b=(Fi a (tC b),0):=by exact bo9
 rw[e_];refine aX<|ln op 10 (fun HH=> ?_) (fun HH=> ?_);refine aI<|ah 2<|Hx .i64 (tB b 63) 63<|zcv (hz:=(La b)) (tB b 63) .u64 (tC b)<|zbs .i64 .u64 (Dh a (tC b)) (tC b) (DG b)<|ah 2<|ay<|bL<|cJ<|iv (vI (Dh a (tC b))) (vI 0) ?_;refine⟨?_,hM⟩;have e_:cA op a b=(Dh a (tC b),0):=by exact QeE
 rw[e_];refine aX<|ln op 11 (fun AF=> ?_) (fun AF=> ?_);refine aI<|ah 3<|di (oQ ((a:Int)==b) w) ?_;rintro _ OT ⟨rfl,Yk⟩;have kK:=hM.cl Yk;clear Yk hM;refine ah 2<|ay<|bL<|cJ<|iv (vI (cO ((a:Int)==b))) (vI 0) ?_;refine⟨?_,kK⟩;have e_:cA op a b=(cO ((a:Int)==b),0):=by exact QeF
 rw[e_];refine aX<|ln op 12 (fun kJ=> ?_) (fun kJ=> ?_);refine aI<|ah 3<|di (oQ ((a:Int) !=b) w) ?_;rintro _ YO ⟨rfl,G4⟩;have oG:=hM.cl G4;clear G4 hM;refine ah 2<|ay<|bL<|cJ<|iv (vI (cO ((a:Int) !=b))) (vI 0) ?_;refine⟨?_,oG⟩;have e_:cA op a b=(cO ((a:Int) !=b),0):=by exact QeG
 rw[e_];refine aX<|ln op 13 (fun EO=> ?_) (fun EO=> ?_);refine aI<|ah 3<|di (oQ (decide ((a:Int)<b)) w) ?_;rintro _ Wz ⟨rfl,L9⟩;have qf:=hM.cl L9;clear L9 hM;refine ah 2<|ay<|bL<|cJ<|iv (vI (cO (decide ((a:Int)<b)))) (vI 0) ?_;refine⟨?_,qf⟩;have e_:cA op a b=(cO (decide ((a:Int)<b)),0):=by exact QeH
 rw[e_];refine aX<|ln op 14 (fun ye=> ?_) (fun ye=> ?_);refine aI<|ah 3<|di (oQ (decide ((a:Int)≤b)) w) ?_;rintro _ w25 ⟨rfl,NQ⟩;have eu:=hM.cl NQ;clear NQ hM;refine da [95]<|ah 2<|ay<|bL<|cJ<|iv (vI (cO (decide ((a:Int)≤b)))) (vI 0) ?_;refine⟨?_,eu⟩;have e_:cA op a b=(cO (decide ((a:Int)≤b)),0):=by exact QeI
 rw[e_];refine aX<|ln op 15 (fun uS=> ?_) (fun uS=> ?_);refine aI<|ah 3<|di (oQ (decide ((a:Int)>b)) w) ?_;rintro _ OU ⟨rfl,NR⟩;have jy:=hM.cl NR;clear NR hM;refine da [101]<|ah 2<|ay<|bL<|cJ<|iv (vI (cO (decide ((a:Int)>b)))) (vI 0) ?_;refine⟨?_,jy⟩;have e_:cA op a b=(cO (decide ((a:Int)>b)),0):=by exact QeJ
 rw[e_];refine aX<|ln op 16 (fun Sx=> ?_) (fun Sx=> ?_);refine aI<|ah 3<|di (oQ (decide ((a:Int)≥b)) w) ?_;rintro _ RZ ⟨rfl,NS⟩;have pE:=hM.cl NS;clear NS hM;refine da [107]<|ah 2<|ay<|bL<|cJ<|iv (vI (cO (decide ((a:Int)≥b)))) (vI 0) ?_;refine⟨?_,pE⟩;have e_:cA op a b=(cO (decide ((a:Int)≥b)),0):=by exact QeK
 rw[e_];refine bP<|aX<|bL<|iv (vI 0) (vI (-1)) ?_;refine⟨?_,hM⟩;have e_:cA op a b=(0,-1):=by first|exact R9 oM oM|exact Sa oM oM|exact Sb oM oM|exact Sc oM oM oM|exact Sd oM oM oM|exact gz oM
 rw[e_];have c4:((op:Int)=4):=tL.1 rfl;refine fm<|bP<|fm<|ba<|aX<|ln b 0 (fun U6=> ?_) (fun U6=> ?_);refine aX<|bL<|cJ<|iv (vI 0) (vI 3) ?_;refine⟨?_,hM⟩;have e_:cA op a b=(0,3):=by first|exact R9 oM oM|exact Sa oM oM|exact Sb oM oM|exact Sc oM oM oM|exact Sd oM oM oM|exact gz oM
 rw[e_];refine bP<|ba<|aX<|ln b (-1) (fun sZ=> ?_) (fun sZ=> ?_);refine ba<|aX<|ln op 4 (fun c35=> ?_) (fun c35=> ?_);refine aI<|ah 1<|Mo .neg a .i64 (IntKind.i64.wrap (0-a))<|ah 2<|ay<|bL<|cJ<|iv (vI (IntKind.i64.wrap (0-a))) (vI 0) ?_;refine⟨?_,hM⟩;have e_:cA op a b=(IntKind.i64.wrap (0-a),0):=by first|exact R9 oM oM|exact Sa oM oM|exact Sb oM oM|exact Sc oM oM oM|exact Sd oM oM oM|exact gz oM
 rw[e_];refine bP<|aX<|bL<|cJ<|iv (vI 0) (vI 0) ?_;refine⟨?_,hM⟩;have e_:cA op a b=(0,0):=by first|exact R9 oM oM|exact Sa oM oM|exact Sb oM oM|exact Sc oM oM oM|exact Sd oM oM oM|exact gz oM
 rw[e_];refine bP<|ba<|aX<|ln op 4 (fun c36=> ?_) (fun c36=> ?_);refine aI<|ah 2<|Ur .i64 (IntKind.i64.wrap (a.tdiv b)) b (by assumption)<|ah 2<|ay<|bL<|cJ<|iv (vI (IntKind.i64.wrap (a.tdiv b))) (vI 0) ?_;refine⟨?_,hM⟩;have e_:cA op a b=(IntKind.i64.wrap (a.tdiv b),0):=by first|exact R9 oM oM|exact Sa oM oM|exact Sb oM oM|exact Sc oM oM oM|exact Sd oM oM oM|exact gz oM
 rw[e_];refine bP<|aI<|ah 2<|Ur .i64 (a.tmod b) b (by assumption)<|ah 2<|ay<|bL<|cJ<|iv (vI (a.tmod b)) (vI 0) ?_;refine⟨?_,hM⟩;have e_:cA op a b=(a.tmod b,0):=by first|exact R9 oM oM|exact Sa oM oM|exact Sb oM oM|exact Sc oM oM oM|exact Sd oM oM oM|exact gz oM
 rw[e_]
theorem QcL(op a:Int)(w:World):Calls Tryz.prog 150 #[vI op,vI a] w (ez fun v w'=>v= .tuple #[vI (rJ op a).1,vI (rJ op a).2]∧Mem bq w w' []):=by
 refine fv 20 [vI op,vI a] Tryz.func150 ?_;have hM:=Mem.init w;refine aX<|ba<|aX<|cr 0<|aX<|ln op 1 (fun c1=> ?_) (fun c1=> ?_);refine aI<|ah 1<|Mo .neg a .i64 (IntKind.i64.wrap (0-a))<|ah 2<|ay<|bL<|cJ<|iv (vI (IntKind.i64.wrap (0-a))) (vI 0) ?_;refine⟨?_,hM⟩;have e_:rJ op a=(IntKind.i64.wrap (0-a),0):=by first|exact Z4|exact Z5|exact Z6|exact tD (by assumption) (by assumption) (by assumption)
 rw[e_];refine aX<|ln op 2 (fun c2=> ?_) (fun c2=> ?_);refine aI<|ah 1<|Mo .xor a .i64 (rp (-1) a)<|ah 2<|ay<|bL<|cJ<|iv (vI (rp (-1) a)) (vI 0) ?_;refine⟨?_,hM⟩;have e_:rJ op a=(rp (-1) a,0):=by first|exact Z4|exact Z5|exact Z6|exact tD (by assumption) (by assumption) (by assumption)
 rw[e_];refine aX<|ln op 3 (fun c3=> ?_) (fun c3=> ?_);refine aI<|ah 2<|di (oQ ((a:Int)==0) w) ?_;rintro _ w4 ⟨rfl,DH⟩;have M5:=hM.cl DH;clear DH hM;refine ah 2<|ay<|bL<|cJ<|iv (vI (cO ((a:Int)==0))) (vI 0) ?_;refine⟨?_,M5⟩;have e_:rJ op a=(cO ((a:Int)==0),0):=by first|exact Z4|exact Z5|exact Z6|exact tD (by assumption) (by assumption) (by assumption)
 rw[e_];refine bP<|aX<|bL<|iv (vI 0) (vI (-1)) ?_;refine⟨?_,hM⟩;have e_:rJ op a=(0,-1):=by first|exact Z4|exact Z5|exact Z6|exact tD (by assumption) (by assumption) (by assumption)
 rw[e_]
theorem QcM(X:RX)(z:jo)(oA:ar)(oc:Nat)(w:World)(hX:X.WF)(hG:dM X z)(hR:(bx.pk (dR X z oA oc)).holds w)(op a b:Int)(hz:z.ov=false):Calls Tryz.prog 151 #[pT X.r 0,vI op,vI a,vI b] w (ez fun v w'=>XV X (xS X z oA oc) w z (Nw op a b) v w'):=by
 refine fv 24 [pT X.r 0,vI op,vI a,vI b] Tryz.func151 ?_;have hM:=Mem.uO hR;refine aX<|aI<|ah 3<|di (Ys op a b w) ?_;rintro _ w1 ⟨rfl,KE⟩;have M2:=hM.cl KE;clear KE hM;refine ah 5<|ay<|ba<|aX<|dX (((cA op a b).2:Int) !=0) (((cA op a b).2:Int)≠0) (by simp only[Qoo]) (fun c3=> ?_) (fun c3=> ?_);refine cG<|ah 2<|di (kh X z oA oc w1 hX hG (Mem.cD (l:=dR X z oA oc) M2) 2 ((cA op a b).2)) ?_;rintro _ w4 ⟨rfl,DH⟩;have M5:=bd [.aB X.r 138 [vS X.dA X.ds.length X.dc,vS X.pA X.ds.length X.pc,vS (sM X.mG) X.E.bR X.E.bR,vI ((z.fin 2 ((cA op a b).2)).s.next),vS X.iA X.E.inp.length X.ic,(vI ((z.fin 2 ((cA op a b).2)).s.pos:Int)),vI ((z.fin 2 ((cA op a b).2)).k),vI ((z.fin 2 ((cA op a b).2)).c),vS oA ((z.fin 2 ((cA op a b).2)).s.out.length) oc,vI ((z.fin 2 ((cA op a b).2)).s.steps),vB ((z.fin 2 ((cA op a b).2)).ov),vI X.E.fuel,vI ((z.fin 2 ((cA op a b).2)).s.opened),vS X.fA X.E.sQ.length X.fc,vS X.qA X.E.sQ.length X.qc],.row 2 1 (sM X.mG) X.E.bR X.E.bR (ints (z.fin 2 ((cA op a b).2)).s.mem),.row 5 1 oA ((z.fin 2 ((cA op a b).2)).s.out.length) oc (qW (z.fin 2 ((cA op a b).2)).s.out)] (M2.rH DH);refine ay<|aX<|bL<|cv (vI (cA op a b).1) ?_;exact⟨_,(z.fin 2 ((cA op a b).2)),oA,oc,rfl,hG.fin,ey.fin (K:=Nw op a b) rfl (fun _=>by unfold Nw;rw[Ds c3];rfl),M5⟩;refine bP<|aX<|bL<|cv (vI (cA op a b).1) ?_;exact⟨_,z,oA,oc,rfl,hG,ey.to (K:=Nw op a b) rfl hz hz (by unfold Nw;rw[Kt oM]),M2⟩
end Go.Proofs.YtejbeeaomokjpaaGreat
namespace Go.Proofs.YtejbeeaomokjpaaGreat
open Go.Mor
set_option maxHeartbeats 4000000 in
theorem Yt(X:RX)(z:jo)(oA:ar)(oc:Nat)(w:World)(hX:X.WF)(hG:dM X z)(hR:(bx.pk (dR X z oA oc)).holds w)(hA:RO (xS X z oA oc) w X.ro)(g:Nat)(hK:Le Tryz.prog X 89 (dN X.E.toEnv0 g) (g:Int))(i:bl)(l:af)(bA:ar)(bc:Nat)(hz:z.ov=false)(hZ:Gu X.E.toEnv0 z (g:Int) l)(hs:bQ i)(hlen:l.length=i.args.length)(NT:l.length≤bc)(hl:RO (xS X z oA oc) w (.rd bA (ints l))):Calls Tryz.prog 132 #[pT X.r 0,iG i,vS bA l.length bc] w (ez fun v w'=>YIV X (xS X z oA oc) w z i.op (bV X.E.toEnv0 (dN X.E.toEnv0 g) i l) v w'):=by
 have g1:=hG.n1;have g2:=hG.n2;have g3:=hX.mem;have YP:LI l:=fun x hx=>hZ.in_ hz hx
 have h8:(fh X.E.data i.name).getD 0=0→fh X.E.data i.name=none:=fun h_=>Se h_ (fun n hn=>by rw[hX.data]at hn;obtain⟨j,_,rfl⟩:=vd hn;have:=sD (ds:=X.ds) (j:=j);omega)
 have h9:(fh X.E.names i.name).getD 0=0→fh X.E.names i.name=none:=fun h_=>Se h_ (fun n hn=>by rw[hX.names]at hn;have:=Sk hn;omega)
 have h8y:¬(fh X.E.data i.name).getD 0=0→fh X.E.data i.name=some ((fh X.E.data i.name).getD 0):=Lg;have h9y:¬(fh X.E.names i.name).getD 0=0→fh X.E.names i.name=some ((fh X.E.names i.name).getD 0):=Lg;refine fv 161 [pT X.r 0,iG i,vS bA l.length bc] Tryz.func132 ?_;have hM:=Mem.uO hR;refine aI<|ou hM 45 (iG i) (iV i) fun b1 w2 jU M3=> ?_
 replace M3:=M3.nf;clear hM;refine ah 1<|ay<|ba<|aI<|ah 1<|bt (aZ b1) _ (ae (M3.get 3 rfl) rfl)<|ay<|cr 0<|aX<|ln i.op 1 (fun c4=> ?_) (fun c4=> ?_);refine aI<|ah 1<|bt (ao b1 2) _ (ae (M3.get 3 rfl) rfl)<|ah 1<|ay<|bL<|cJ<|cv (vI i.n) ?_;exact⟨_,z,oA,oc,rfl,hG,⟨_,fun _=>rfl,ey.to (K:=bV X.E.toEnv0 (dN X.E.toEnv0 g) i l) rfl hz hz (qa oM)⟩,M3.tk 3⟩;refine ba<|aX ?_;obtain⟨B5,R3⟩:∃B:Bool,B=((i.op:Int)==2):=⟨_,rfl⟩;refine bX [(0,pT X.r 0),(2,vS bA l.length bc),(4,pT b1 0),(12,vI i.op),(17,(vB ((i.op:Int)==2)))] ?_;rw[←R3];have iB5:B5=true↔((i.op:Int)=2):=by rw[R3];simp only[Qco]
 clear R3;cases B5;have c5:¬((i.op:Int)=2):=iL iB5.2;refine fT<|xh<|ln i.op 3 (fun c6=> ?_) (fun c6=> ?_);refine ba ?_;obtain⟨Qix,Qiy,Qiz⟩:=Qar oM hs;obtain⟨Yu,rfl⟩:=rd_some (M3.ro hl) (by rw[dg];omega);refine da [0,2,4,12] ?_;intro aC fr;refine wB 8 (bo [eR X.r 0,eR X.r 0,eR X.r 0,eS (some Yu) l.length bc,eA Yu (0:Int) 1,eI (a0 l),eR b1 2,eI i.n]) fr (pF lz dP dP dP dP (dI Yu l.length 1 0) (dL (aN Yu (0:Int) 1) _ fun w_ hK=>(dZ (i:=0) ((M3.aw hK).ro hl) rfl oM oM)) dP (dL (ao b1 2) _ fun w_ hK=>(ae ((M3.aw hK).get 3 rfl) rfl))) ?_;intro aC V6 vs hK hv fr;revert aC;refine bX [(0,pT X.r 0),(2,vS (some Yu) l.length bc),(4,pT b1 0),(22,pT X.r 0),(25,vI (a0 l)),(27,vI i.n)] ?_;have oB:=M3.aw hK;clear hK hv fr aC M3;clear vs;refine di (vs:=#[pT X.r 0,vI (a0 l),vI i.n]) (Ll X z oA oc V6 hX hG (Mem.cD (l:=dR X z oA oc) oB) (a0 l) i.n (YP _ (Sf oM)) oM oM) ?_;rintro _ YO ⟨NU,Pf,NV,NX,rfl,SQ,QfH,G4⟩;have oG:=bd [oN X Pf NV NX,mZ X Pf,mM Pf NV NX,.aB b1 45 (iV i)] (oB.rH G4);refine ah 1<|ay<|ba<|aX<|fE ((NU:Int)<0) (fun EO=> ?_) (fun EO=> ?_);refine aX<|bL<|cJ<|cv (vI 0) ?_;rcases QfH with⟨h1_,_⟩|⟨_,CE,CF⟩
 · omega
 exact⟨0,Pf,NV,NX,rfl,SQ,⟨0,fun _=>rfl,by rw[CE];exact ey.fin (K:=bV X.E.toEnv0 (dN X.E.toEnv0 g) i l) rfl (fun _=>by rw[qd oM,CF];rfl)⟩,oG.tk 3⟩;refine bP<|ba<|aI ?_;obtain⟨h1_,CE,CF,h4_⟩:=Or.resolve_right QfH (fun h_=>absurd h_.1 oM);have h5_:=hG.n2;have h6_:=SQ.mem;refine ah 1<|bt (aZ b1) _ (ae (oG.get 3 rfl) rfl)<|ah 1<|ay<|ln i.op 3 (fun YR=> ?_) (fun YR=> ?_);have hq3:=(tw oM).1 hs;refine da [0,2,7] ?_;intro aC fr;refine wB 9 (bo [eR X.r 0,eR X.r 0,eR X.r 0,eP (ao X.r 2),eS (sM X.mG) X.E.bR X.E.bR,eI NU,eS (some Yu) l.length bc,eA Yu (1:Int) 1,eI (a1 l)]) fr (la (pF lz dP dP dP dP (dL (ao X.r 2) _ fun w_ hK=>(ae ((oG.aw hK).get 0 rfl) rfl)) dP dP (dI Yu l.length 1 1)) (dL (aN Yu (1:Int) 1) _ fun w_ hK=>(dZ (i:=1) ((oG.aw hK).ro hl) rfl oM oM))) ?_;intro aC Yh vs hK hv fr;revert aC;refine bX [(0,pT X.r 0),(7,vI NU),(38,vS (sM X.mG) X.E.bR X.E.bR),(39,vI NU),(42,vI (a1 l))] ?_;have qj:=oG.aw hK;clear hK hv fr aC oG;clear vs;refine ej (h0:=oM) (h1:=oM) (aZ X.mG) X.E.bR 1 NU<|yc qj 1 (aN (aZ X.mG) (NU) 1) ((NU).toNat*1) (vI (a1 l)) rfl rfl oM fun w29 xn=> ?_
 replace xn:=xn.nf;refine ay<|aI ?_;have s8:=bd [oN X Pf NV NX,.row 2 1 (sM X.mG) X.E.bR X.E.bR (ints (Pf.s.mem.set NU.toNat (a1 l))),mM Pf NV NX,.aB b1 45 (iV i)] (xn.cast (by rw[kH]));refine ah 4<|bt (ao X.r 2) _ (ae (s8.get 0 rfl) rfl)<|ah 1<|ej (h0:=oM) (h1:=oM) (aZ X.mG) X.E.bR 1 NU<|bt (aN (aZ X.mG) (NU) 1) _ (dZ (aD (s8.get 1 rfl)) rfl oM (by rw[Qpa];omega))<|ah 1<|ay<|bL<|cJ<|cv (vI ((Pf.s.mem.set NU.toNat (a1 l)).getD NU.toNat 0)) ?_;exact⟨_,{Pf with s:={Pf.s with mem:=(Pf.s.mem.set NU.toNat (a1 l))}},NV,NX,rfl,(SQ.set _ _),⟨0,fun DJ=>absurd DJ (by unfold aK;omega),ey.to (K:=bV X.E.toEnv0 (dN X.E.toEnv0 g) i l) rfl hz (by show Pf.ov=false;rw[CF];exact hz) (by rw[qd oM,h4_,CF];rfl)⟩,s8.tk 3⟩;omega;refine aX<|ln i.op 4 (fun Fo=> ?_) (fun Fo=> ?_);refine aI ?_;have hq4:=(Da oM).1 hs;refine ah 3<|bt (ao b1 3) _ (ae (M3.get 3 rfl) rfl)<|di (ri X z oA oc w2 hX (M3.cK 0 rfl) (hA.at_ M3) i.name) ?_;rintro _ Gs ⟨rfl,Dl⟩;have xo:=M3.cl Dl;refine ah 1<|di (hK ((fh X.E.names i.name).getD 0) l bA bc z oA oc Gs hG hZ (Mem.cD (l:=dR X z oA oc) xo) (hA.rI (l:=dR X z oA oc) xo) (hl.rI (l:=dR X z oA oc) xo) oM) ?_;rintro _ Pk ⟨x35,z36,QcN,QcO,rfl,QfI,QiA,QiB⟩;have rr:=bd [oN X z36 QcN QcO,mZ X z36,mM z36 QcN QcO,.aB b1 45 (iV i)] (xo.rH QiB);refine ah 1<|ay<|bL<|cJ<|cv (vI x35) ?_;exact⟨_,z36,QcN,QcO,rfl,QfI,⟨_,fun _=>rfl,ey.tail (ey.HK (K:=bV X.E.toEnv0 (dN X.E.toEnv0 g) i l) (fun s_=>(vF oM).trans Sh) rfl) QiA⟩,rr.tk 3⟩;refine aX<|ln i.op 5 (fun Hg=> ?_) (fun Hg=> ?_);refine ba ?_;have hq5:=(Db oM).1 hs;obtain⟨x0,l1,rfl⟩:∃x l2,l=x::l2:=by cases l with|nil=>exact absurd hlen (by simp;omega)|cons x l2=>exact⟨x,l2,rfl⟩
 simp only[QoE]at hlen NT;obtain⟨dF,rfl⟩:=rd_some (M3.ro hl) (by rw[dg];simp);refine da [0,2,4,12] ?_;intro aC fr;refine wB 6 (bo [eR X.r 0,eS (some dF) (l1.length+1) bc,eA dF (0:Int) 1,eI x0,eS (some dF) (l1.length+1) bc,.aU (Qfd (some dF) (l1.length+1) bc 1 1)]) fr (la (sv lz dP dP (dI dF (l1.length+1) 1 0) (dL (aN dF (0:Int) 1) _ fun w_ hK=>(dZ (i:=0) (l:=x0::l1) ((M3.aw hK).ro hl) rfl oM sI)) dP) (dSl (some dF) (l1.length+1) bc 1 1 oM)) ?_;intro aC w48 vs hK hv fr;revert aC;refine bX [(63,pT X.r 0),(66,vI x0),(68,(vS (if bc=1 then(some dF)else Option.map (·.add (1*1)) (some dF)) l1.length (bc-1)))] ?_;have s6:=M3.aw hK;clear hK hv fr aC M3;clear vs;refine di (vs:=#[pT X.r 0,vI x0,(vS (if bc=1 then(some dF)else Option.map (·.add (1*1)) (some dF)) l1.length (bc-1))]) (hK x0 l1 (if bc=1 then(some dF)else Option.map (·.add (1*1)) (some dF)) (bc-1) z oA oc w48 hG (hZ.XN (Qol _) (fun x hx=> .inl (Qmq _ hx))) (Mem.cD (l:=dR X z oA oc) s6) (hA.rI (l:=dR X z oA oc) s6) (RO.IC (vs:=ints l1) (hl.rI (l:=dR X z oA oc) s6) (by rw[dg];exact NT)) oM) ?_;rintro _ w55 ⟨x50,z51,QcP,QcQ,rfl,QfJ,QiC,QiD⟩;have BJ:=bd [oN X z51 QcP QcQ,mZ X z51,mM z51 QcP QcQ,.aB b1 45 (iV i)] (s6.rH QiD);refine ah 1<|ay<|bL<|cJ<|cv (vI x50) ?_;exact⟨_,z51,QcP,QcQ,rfl,QfJ,⟨_,fun _=>rfl,ey.tail (ey.HK (K:=bV X.E.toEnv0 (dN X.E.toEnv0 g) i (x0::l1)) (fun s_=>sn oM) rfl) QiC⟩,BJ.tk 3⟩;refine ba<|aX ?_;obtain⟨B57,QcR⟩:∃B:Bool,B=((i.op:Int)==6):=⟨_,rfl⟩;refine bX [(0,pT X.r 0),(2,vS bA l.length bc),(4,pT b1 0),(12,vI i.op),(70,(vB ((i.op:Int)==6)))] ?_;rw[←QcR];have QfK:B57=true↔((i.op:Int)=6):=by rw[QcR];simp only[Qco]
 clear QcR;cases B57;have c57:¬((i.op:Int)=6):=iL QfK.2;refine fT<|xh<|ln i.op 7 (fun Qv=> ?_) (fun Qv=> ?_);refine aI<|ah 2<|bt (ao b1 3) _ (ae (M3.get 3 rfl) rfl)<|di (ri X z oA oc w2 hX (M3.cK 0 rfl) (hA.at_ M3) i.name) ?_;rintro _ He ⟨rfl,SR⟩;have uW:=M3.cl SR;refine ah 1<|ay<|ba<|aI<|ah 1<|bt (aZ b1) _ (ae (uW.get 3 rfl) rfl)<|ah 1<|ay<|ln i.op 6 (fun qY=> ?_) (fun qY=> ?_);omega;refine bP<|ba<|aX<|ln ((fh X.E.names i.name).getD 0) 0 (fun XI=> ?_) (fun XI=> ?_);refine cG<|ah 3<|di (kh X z oA oc He hX hG (Mem.cD (l:=dR X z oA oc) uW) 5 0) ?_;rintro _ w63 ⟨rfl,QiE⟩;have BK:=bd [oN X (z.fin 5 0) oA oc,mZ X (z.fin 5 0),mM (z.fin 5 0) oA oc,.aB b1 45 (iV i)] (uW.rH QiE);refine ay<|aX<|bL<|cJ<|cv (vI ((fh X.E.names i.name).getD 0)) ?_;exact⟨_,(z.fin 5 0),oA,oc,rfl,hG.fin,⟨_,fun _=>rfl,ey.fin (K:=bV X.E.toEnv0 (dN X.E.toEnv0 g) i l) rfl (fun _=>by rw[oy oM,h9 (by assumption)];rfl)⟩,BK.tk 3⟩;refine bP<|aX<|bL<|cJ<|cv (vI ((fh X.E.names i.name).getD 0)) ?_;exact⟨_,z,oA,oc,rfl,hG,⟨_,fun _=>rfl,ey.to (K:=bV X.E.toEnv0 (dN X.E.toEnv0 g) i l) rfl hz hz (by rw[oy oM,h9y (by assumption)];rfl)⟩,uW.tk 3⟩;refine aX<|ln i.op 8 (fun c65=> ?_) (fun c65=> ?_);refine ba ?_;have hq8:=(Dc oM).1 hs;obtain⟨gn,rfl⟩:=rd_some (M3.ro hl) (by rw[dg];omega);refine da [0,2,4,12] ?_;intro aC fr;refine wB 6 (bo [eR X.r 0,eR X.r 0,eR X.r 0,eS (some gn) l.length bc,eA gn (0:Int) 1,eI (a0 l)]) fr (la (sv lz dP dP dP dP (dI gn l.length 1 0)) (dL (aN gn (0:Int) 1) _ fun w_ hK=>(dZ (i:=0) ((M3.aw hK).ro hl) rfl oM oM))) ?_;intro aC w71 vs hK hv fr;revert aC;refine bX [(97,pT X.r 0),(100,vI (a0 l))] ?_;have xF:=M3.aw hK;clear hK hv fr aC M3;clear vs;refine di (SN X z oA oc w71 hX hG (Mem.cD (l:=dR X z oA oc) xF) (a0 l) hz) ?_;rintro _ w78 ⟨x73,z74,QcS,QcT,rfl,QfL,QiF,QcU⟩;have G5:=bd [oN X z74 QcS QcT,mZ X z74,mM z74 QcS QcT,.aB b1 45 (iV i)] (xF.rH QcU);refine ah 1<|ay<|bL<|cJ<|cv (vI x73) ?_;exact⟨_,z74,QcS,QcT,rfl,QfL,⟨_,fun _=>rfl,ey.tail (ey.HK (K:=bV X.E.toEnv0 (dN X.E.toEnv0 g) i l) (fun s_=>XY oM) rfl) QiF⟩,G5.tk 3⟩;refine aX<|ln i.op 9 (fun Vk=> ?_) (fun Vk=> ?_);refine aI<|ah 3<|di (Yp X z oA oc w2 hX hG (Mem.cD (l:=dR X z oA oc) M3) (hA.rI (l:=dR X z oA oc) M3) hz) ?_;rintro _ w86 ⟨x81,z82,QcV,QcW,rfl,QfM,QiG,QiH⟩;have M87:=bd [oN X z82 QcV QcW,mZ X z82,mM z82 QcV QcW,.aB b1 45 (iV i)] (M3.rH QiH);refine ah 1<|ay<|bL<|cJ<|cv (vI x81) ?_;exact⟨_,z82,QcV,QcW,rfl,QfM,⟨_,fun _=>rfl,ey.tail (ey.HK (K:=bV X.E.toEnv0 (dN X.E.toEnv0 g) i l) (fun s_=>XZ oM) rfl) QiG⟩,M87.tk 3⟩;refine aX<|ln i.op 10 (fun c88=> ?_) (fun c88=> ?_);refine ba ?_;have hq10:=(yg oM).1 hs;obtain⟨Yv,rfl⟩:=rd_some (M3.ro hl) (by rw[dg];omega);refine da [0,2,4,12] ?_;intro aC fr;refine wB 6 (bo [eR X.r 0,eR X.r 0,eR X.r 0,eS (some Yv) l.length bc,eA Yv (0:Int) 1,eI (a0 l)]) fr (la (sv lz dP dP dP dP (dI Yv l.length 1 0)) (dL (aN Yv (0:Int) 1) _ fun w_ hK=>(dZ (i:=0) ((M3.aw hK).ro hl) rfl oM oM))) ?_;intro aC w94 vs hK hv fr;revert aC;refine bX [(112,pT X.r 0),(115,vI (a0 l))] ?_;have AG:=M3.aw hK;clear hK hv fr aC M3;clear vs;refine di (SP X z oA oc w94 hX hG (Mem.cD (l:=dR X z oA oc) AG) (a0 l)) ?_;rintro _ w101 ⟨z96,QcX,QcY,rfl,QfN,QiI,QfO,QfP⟩;have QcZ:=bd [oN X z96 QcX QcY,mZ X z96,mM z96 QcX QcY,.aB b1 45 (iV i)] (AG.rH QfP);refine ay<|aX<|bL<|cJ<|cv (vI 0) ?_;exact⟨_,z96,QcX,QcY,rfl,QfN,⟨_,fun _=>rfl,ey.to (K:=bV X.E.toEnv0 (dN X.E.toEnv0 g) i l) rfl hz (QiI.trans hz) (by rw[X0 oM,QfO])⟩,QcZ.tk 3⟩;refine aX<|ln i.op 11 (fun QiJ=> ?_) (fun QiJ=> ?_);refine ba<|aI ?_;have hq11:=(tx oM).1 hs;refine ah 1 ?_;obtain⟨Qaz,rfl⟩:=rd_some (M3.ro hl) (by rw[dg];omega);refine ej Qaz l.length 1 0<|bt (aN Qaz (0:Int) 1) _ (dZ (i:=0) (M3.ro hl) rfl oM oM)<|ah 1<|ay<|ln (a0 l) 0 (fun QiK=> ?_) (fun QiK=> ?_);refine da [0,4] ?_;intro aC fr;refine wB 5 (bo [eR X.r 0,eR X.r 0,eR X.r 0,eR b1 2,eI i.n]) fr (sv lz dP dP dP dP (dL (ao b1 2) _ fun w_ hK=>(ae ((M3.aw hK).get 3 rfl) rfl))) ?_;intro aC QiL vs hK hv fr;revert aC;refine bX [(125,pT X.r 0),(127,vI i.n)] ?_;have Yw:=M3.aw hK;clear hK hv fr aC M3;clear vs;refine di (kh X z oA oc QiL hX hG (Mem.cD (l:=dR X z oA oc) Yw) 2 i.n) ?_;rintro _ NN ⟨rfl,SS⟩;have mf:=bd [oN X (z.fin 2 i.n) oA oc,mZ X (z.fin 2 i.n),mM (z.fin 2 i.n) oA oc,.aB b1 45 (iV i)] (Yw.rH SS);refine ay<|aX<|bL<|cJ<|cv (vI 0) ?_;exact⟨_,(z.fin 2 i.n),oA,oc,rfl,hG.fin,⟨_,fun _=>rfl,ey.fin (K:=bV X.E.toEnv0 (dN X.E.toEnv0 g) i l) rfl (fun _=>by rw[mr oM,Kt oM];rfl)⟩,mf.tk 3⟩;refine bP<|aX<|bL<|cJ<|cv (vI 0) ?_;exact⟨_,z,oA,oc,rfl,hG,⟨_,fun _=>rfl,ey.to (K:=bV X.E.toEnv0 (dN X.E.toEnv0 g) i l) rfl hz hz (by rw[mr oM,Ds oM])⟩,M3.tk 3⟩;refine aX<|ln i.op 12 (fun AH=> ?_) (fun AH=> ?_);refine aI ?_;have hq12:=(yh oM).1 hs;refine ah 1 ?_;obtain⟨QaA,rfl⟩:=rd_some (M3.ro hl) (by rw[dg];omega);refine ej QaA l.length 1 0<|bt (aN QaA (0:Int) 1) _ (dZ (i:=0) (M3.ro hl) rfl oM oM)<|ah 1<|ay<|bL<|cJ<|cv (vI (a0 l)) ?_;exact⟨_,z,oA,oc,rfl,hG,⟨_,fun _=>rfl,ey.to (K:=bV X.E.toEnv0 (dN X.E.toEnv0 g) i l) rfl hz hz (mu oM)⟩,M3.tk 3⟩;refine bP<|ba<|aI ?_;have hqb:=(ns oM).1 hs;refine ah 1<|bt (aZ b1) _ (ae (M3.get 3 rfl) rfl)<|ah 1<|ay<|fE ((i.op:Int)>40) (fun Qc0=> ?_) (fun Qc0=> ?_);refine ba ?_;obtain⟨Lm,rfl⟩:=rd_some (M3.ro hl) (by rw[dg];omega);refine da [0,2,4] ?_;intro aC fr;refine wB 11 (bo [eR b1 0,eI i.op,eI (i.op-40),eS (some Lm) l.length bc,eA Lm (0:Int) 1,eI (a0 l),.aU (.tuple #[vI ((rJ (i.op-40) (a0 l)).1),vI ((rJ (i.op-40) (a0 l)).2)]),.aU (.tuple #[vI ((rJ (i.op-40) (a0 l)).1),vI ((rJ (i.op-40) (a0 l)).2)]),eI ((rJ (i.op-40) (a0 l)).1),eI ((rJ (i.op-40) (a0 l)).2),eI ((rJ (i.op-40) (a0 l)).1)]) fr (kV (pF lz dP (dL (aZ b1) _ fun w_ hK=>(ae ((M3.aw hK).get 3 rfl) rfl)) (dA (i.op-40)) dP (dI Lm l.length 1 0) (dL (aN Lm (0:Int) 1) _ fun w_ hK=>(dZ (i:=0) ((M3.aw hK).ro hl) rfl oM oM)) (dD (fun w_ hK=>QcL (i.op-40) (a0 l) w_) rfl) dP) dP dP dP) ?_;intro aC QfQ vs hK hv fr;revert aC;refine bX [(9,vI ((rJ (i.op-40) (a0 l)).1)),(146,vI ((rJ (i.op-40) (a0 l)).2))] ?_;have G6:=M3.aw hK;clear hK hv fr aC M3;clear vs;refine ah 1<|ay<|aX<|bL<|cv (vI ((rJ (i.op-40) (a0 l)).1)) ?_;exact⟨_,z,oA,oc,rfl,hG,⟨_,fun _=>rfl,ey.to (K:=bV X.E.toEnv0 (dN X.E.toEnv0 g) i l) rfl hz hz (mv oM)⟩,G6.tk 3⟩;refine bP<|ba ?_;obtain⟨wj,rfl⟩:=rd_some (M3.ro hl) (by rw[dg];omega);refine da [0,2,4] ?_;intro aC fr;refine wB 12 (bo [eR X.r 0,eR X.r 0,eR X.r 0,eR b1 0,eI i.op,eI (i.op-16),eS (some wj) l.length bc,eA wj (0:Int) 1,eI (a0 l),eS (some wj) l.length bc,eA wj (1:Int) 1,eI (a1 l)]) fr (dT lz dP dP dP dP (dL (aZ b1) _ fun w_ hK=>(ae ((M3.aw hK).get 3 rfl) rfl)) (dA (i.op-16)) dP (dI wj l.length 1 0) (dL (aN wj (0:Int) 1) _ fun w_ hK=>(dZ (i:=0) ((M3.aw hK).ro hl) rfl oM oM)) dP (dI wj l.length 1 1) (dL (aN wj (1:Int) 1) _ fun w_ hK=>(dZ (i:=1) ((M3.aw hK).ro hl) rfl oM oM))) ?_;intro aC QiM vs hK hv fr;revert aC;refine bX [(150,pT X.r 0),(153,vI (i.op-16)),(156,vI (a0 l)),(159,vI (a1 l))] ?_;have G7:=M3.aw hK;clear hK hv fr aC M3;clear vs;refine di (QcM X z oA oc QiM hX hG (Mem.cD (l:=dR X z oA oc) G7) (i.op-16) (a0 l) (a1 l) hz) ?_;rintro _ QfR ⟨QiN,Yx,SU,SV,rfl,Qc1,QfS,SX⟩;have SY:=bd [oN X Yx SU SV,mZ X Yx,mM Yx SU SV,.aB b1 45 (iV i)] (G7.rH SX);refine ah 1<|ay<|bL<|cv (vI QiN) ?_;exact⟨_,Yx,SU,SV,rfl,Qc1,⟨_,fun _=>rfl,ey.tail (ey.HK (K:=bV X.E.toEnv0 (dN X.E.toEnv0 g) i l) (fun s_=>X1 oM oM) rfl) QfS⟩,SY.tk 3⟩;have c57:((i.op:Int)=6):=QfK.1 rfl;refine fm<|bP<|fm<|aI<|ah 2<|bt (ao b1 3) _ (ae (M3.get 3 rfl) rfl)<|di (ri X z oA oc w2 hX (M3.cK 0 rfl) (hA.at_ M3) i.name) ?_;rintro _ QiO ⟨rfl,QfT⟩;have Eg:=M3.cl QfT;refine ah 1<|ay<|ba<|aI<|ah 1<|bt (aZ b1) _ (ae (Eg.get 3 rfl) rfl)<|ah 1<|ay<|ln i.op 6 (fun QiP=> ?_) (fun QiP=> ?_);refine da [0,4,8] ?_;intro aC fr;refine wB 5 (bo [eR X.r 0,eR X.r 0,eR X.r 0,eR b1 3,eT i.name]) fr (sv lz dP dP dP dP (dL (ao b1 3) _ fun w_ hK=>(ae ((Eg.aw hK).get 3 rfl) rfl))) ?_;intro aC QiQ vs hK hv fr;revert aC;refine bX [(0,pT X.r 0),(82,pT X.r 0),(84,vT i.name)] ?_;have Jw:=Eg.aw hK;clear hK hv fr aC Eg;clear vs;refine di (SM X z oA oc QiQ hX (Jw.cK 0 rfl) (hA.at_ Jw) i.name) ?_;rintro _ QiR ⟨rfl,QfU⟩;have SZ:=Jw.cl QfU;refine ah 1<|ay<|ba<|aX<|ln ((fh X.E.data i.name).getD 0) 0 (fun QiS=> ?_) (fun QiS=> ?_);refine cG<|ah 3<|di (kh X z oA oc QiR hX hG (Mem.cD (l:=dR X z oA oc) SZ) 5 0) ?_;rintro _ QiT ⟨rfl,QfV⟩;have qC:=bd [oN X (z.fin 5 0) oA oc,mZ X (z.fin 5 0),mM (z.fin 5 0) oA oc,.aB b1 45 (iV i)] (SZ.rH QfV);refine ay<|aX<|bL<|cJ<|cv (vI ((fh X.E.data i.name).getD 0)) ?_;exact⟨_,(z.fin 5 0),oA,oc,rfl,hG.fin,⟨_,fun _=>rfl,ey.fin (K:=bV X.E.toEnv0 (dN X.E.toEnv0 g) i l) rfl (fun _=>by rw[ox oM,h8 (by assumption)];rfl)⟩,qC.tk 3⟩;refine bP<|aX<|bL<|cJ<|cv (vI ((fh X.E.data i.name).getD 0)) ?_;exact⟨_,z,oA,oc,rfl,hG,⟨_,fun _=>rfl,ey.to (K:=bV X.E.toEnv0 (dN X.E.toEnv0 g) i l) rfl hz hz (by rw[ox oM,h8y (by assumption)];rfl)⟩,SZ.tk 3⟩;omega;have c5:((i.op:Int)=2):=iB5.1 rfl;refine fm<|bP<|fm<|ba ?_;obtain⟨Qix,Qiy,Qiz⟩:=Qar oM hs;obtain⟨G8,rfl⟩:=rd_some (M3.ro hl) (by rw[dg];omega);refine da [0,2,4,12,17] ?_;intro aC fr;refine wB 8 (bo [eR X.r 0,eR X.r 0,eR X.r 0,eS (some G8) l.length bc,eA G8 (0:Int) 1,eI (a0 l),eR b1 2,eI i.n]) fr (pF lz dP dP dP dP (dI G8 l.length 1 0) (dL (aN G8 (0:Int) 1) _ fun w_ hK=>(dZ (i:=0) ((M3.aw hK).ro hl) rfl oM oM)) dP (dL (ao b1 2) _ fun w_ hK=>(ae ((M3.aw hK).get 3 rfl) rfl))) ?_;intro aC QfW vs hK hv fr;revert aC;refine bX [(0,pT X.r 0),(2,vS (some G8) l.length bc),(4,pT b1 0),(22,pT X.r 0),(25,vI (a0 l)),(27,vI i.n)] ?_;have NY:=M3.aw hK;clear hK hv fr aC M3;clear vs;refine di (vs:=#[pT X.r 0,vI (a0 l),vI i.n]) (Ll X z oA oc QfW hX hG (Mem.cD (l:=dR X z oA oc) NY) (a0 l) i.n (YP _ (Sf oM)) oM oM) ?_;rintro _ QfX ⟨Yy,z160,Ln,Lo,rfl,Jx,QaB,QfY⟩;have zx:=bd [oN X z160 Ln Lo,mZ X z160,mM z160 Ln Lo,.aB b1 45 (iV i)] (NY.rH QfY);refine ah 1<|ay<|ba<|aX<|fE ((Yy:Int)<0) (fun QiU=> ?_) (fun QiU=> ?_);refine aX<|bL<|cJ<|cv (vI 0) ?_;rcases QaB with⟨h1_,_⟩|⟨_,CE,CF⟩
 · omega
 exact⟨0,z160,Ln,Lo,rfl,Jx,⟨0,fun _=>rfl,by rw[CE];exact ey.fin (K:=bV X.E.toEnv0 (dN X.E.toEnv0 g) i l) rfl (fun _=>by rw[qb oM,CF];rfl)⟩,zx.tk 3⟩;refine bP<|ba<|aI ?_;obtain⟨h1_,CE,CF,h4_⟩:=Or.resolve_right QaB (fun h_=>absurd h_.1 oM);have h5_:=hG.n2;have h6_:=Jx.mem;refine ah 1<|bt (aZ b1) _ (ae (zx.get 3 rfl) rfl)<|ah 1<|ay<|ln i.op 3 (fun QiV=> ?_) (fun QiV=> ?_);omega;refine bP<|aI<|ah 4<|bt (ao X.r 2) _ (ae (zx.get 0 rfl) rfl)<|ah 1<|ej (h0:=oM) (h1:=oM) (aZ X.mG) X.E.bR 1 Yy<|bt (aN (aZ X.mG) (Yy) 1) _ (dZ (aD (zx.get 1 rfl)) rfl oM oM)<|ah 1<|ay<|bL<|cJ<|cv (vI (z160.s.mem.getD Yy.toNat 0)) ?_;exact⟨_,z160,Ln,Lo,rfl,Jx,⟨_,fun _=>rfl,by rw[CF];exact ey.to (K:=bV X.E.toEnv0 (dN X.E.toEnv0 g) i l) rfl hz hz (by rw[qb oM,h4_];rfl)⟩,zx.tk 3⟩
end Go.Proofs.YtejbeeaomokjpaaGreat
namespace Go.Proofs.YtejbeeaomokjpaaGreat
open Go.Mor
set_option maxHeartbeats 4000000 in
theorem Yz(X:RX)(z:jo)(oA:ar)(oc:Nat)(w:World)(hX:X.WF)(hG:dM X z)(f:et)(hf:f∈X.E.fns)(k:Nat)(x:aE)(hx:f.bh[k]?=some x)(bC:af)(vg m:Nat)(hvl:bC.length=m)(hm:(m:Int)=f.va)(hR:(bx.pk (dR X z oA oc++[.row 2 1 (sM vg) m m (ints bC)])).holds w)(hA:RO (yZ X z oA oc vg m bC) w X.ro)(q:ar×Nat×af)(hq:f.bG[k]?=some q)(ve:Int)(hw:x.au=[]∨ve∈f.src k):Calls Tryz.prog 120 #[xA x,vS q.1 q.2.2.length q.2.1,vI ve,vS (sM vg) m m] w (ez fun v w'=>v= .tuple #[]∧Mem (yZ X z oA oc vg m bC) w w' (dR X z oA oc++[.row 2 1 (sM vg) m m (ints (gr x.au (eG q.2.2 ve) bC))])):=by
 have hW:=hX.fns f hf;have HN:=hW.aB _ _ hx;have xG:=hA.xfn hf;have YP:=HN.li;have hlp:=HN.lp;have jR:=hW.va;have r4:=et.QU hq;have hql:=hW.Qig k;rw[r4]at hql;have hqr:=hA.xs hf (D7 hq);refine fv 67 [xA x,vS q.1 q.2.2.length q.2.1,vI ve,vS (sM vg) m m] Tryz.func120 ?_;have hM:=Mem.uO hR;refine aI<|ou hM 49 (xA x) (xV x) fun b1 w2 jU M3=> ?_
 replace M3:=M3.nf;clear hM;refine ay<|aX<|ba<|aX<|cr 0 ?_;intro aC fr;refine fk (fun n_ a_ w_=>∃(j:Nat) (a:Int),n_=q.2.2.length-j∧Fr a_ 67 [(1,vS q.1 q.2.2.length q.2.1),(2,vI ve),(3,vS (sM vg) m m),(4,pT b1 0),(8,vI a),(9,nV j)]∧Mem (yZ X z oA oc vg m bC) w w_ [oN X z oA oc,mZ X z,mM z oA oc,.row 2 1 (sM vg) m m (ints bC),.aB b1 49 (xV x)]∧(j≤q.2.2.length)∧(O8 q.2.2 ve j a)) (n:=_) ⟨0,0,rfl,fr.kp [1,2,3,4,8,9],M3,Qom _,O8.start⟩ ?_;clear fr aC M3;rintro n aC w6 ⟨j,a,rfl,fr,M7,hj,HG⟩;revert aC;refine ba<|aX<|fE ((j:Int)<(q.2.2.length:Int)) (fun uR=> ?_) (fun uR=> ?_);refine bP<|ba<|cr 1<|aI ?_;obtain⟨u,hu⟩:=aM (l:=q.2.2) (i:=j) oM;refine ah 2 ?_;obtain⟨oE,QaC⟩:=rd_some (M7.ro hqr) (by rw[dg];omega);intro aC fr;refine bT (some 21) q.1 oE q.2.2.length 1 (j:Int) fr kR QaC oM oM<|bt (aN oE (j:Int) 1) _ (fx (M7.ro hqr) QaC hu)<|ah 2<|ay<|ln u ve (fun HI=> ?_) (fun HI=> ?_);exact xh<|cG<|ah 1<|cZ ((j:Int)+1)<|ah 1<|ay fun aC fr=>⟨q.2.2.length-(j+1),oM,j+1,(j:Int),rfl,fr.kp [1,2,3,4,8,9],M7,oM,O8.XS hu HI⟩
 exact bP<|cG<|ah 1<|cZ ((j:Int)+1)<|ah 1<|ay fun aC fr=>⟨q.2.2.length-(j+1),oM,j+1,a,rfl,fr.kp [1,2,3,4,8,9],M7,oM,HG.Qcx hu HI⟩
 refine eW 0<|eX<|aI ?_;obtain rfl:j=q.2.2.length:=oM;obtain⟨n,hn_⟩:∃n,n=eG q.2.2 ve:=⟨_,rfl⟩;have hd:x.au=[]∨(a=(n:Int)∧n<q.2.2.length):=hw.imp id (fun h=>by rw[hn_];exact HG.done (r4▸hX.nd f hf k) (r4▸h));refine ah 1<|ay<|ba<|aX<|cr 2 ?_;have lJ:=M7.cl (Mem.dY _ 2 1);intro aC fr;refine fk (fun n_ a_ w_=>∃(i:Nat) (us:af) (Aj:ar) (cj:Nat),n_=x.au.length-i∧Fr a_ 67 [(3,vS (sM vg) m m),(4,pT b1 0),(8,vI a),(10,vS Aj us.length cj),(11,nV i)]∧Mem (yZ X z oA oc vg m bC) w w_ [oN X z oA oc,mZ X z,mM z oA oc,.row 2 1 (sM vg) m m (ints bC),.aB b1 49 (xV x),.row 2 1 Aj us.length cj (ints us)]∧(i≤x.au.length)∧(us=(x.au.take i).map (tM a.toNat bC))) (n:=_) ⟨0,[],none,0,rfl,fr.kp [3,4,8,10,11],lJ,Qom _,rfl⟩ ?_;clear fr aC lJ;rintro n aC w25 ⟨i,us,Aj,cj,rfl,fr,eu,bI,xW⟩;revert aC;refine ba<|aI<|ah 2<|bt (aZ b1) _ (ae (eu.get 4 rfl) rfl)<|ah 2<|ay<|fE ((i:Int)<(x.au.length:Int)) (fun HB=> ?_) (fun HB=> ?_);refine bP<|ba<|cr 3<|cG ?_;obtain⟨p,hp⟩:=aM (l:=x.au) (i:=i) oM;have jD:=D7 hp;obtain⟨Lx,hp2,l8,hp4⟩:=Qcz HN jD r4 (hd.resolve_left (fun e=>by rw[e]at hp;cases hp));refine ah 3<|bt (aZ b1) _ (ae (eu.get 4 rfl) rfl)<|ah 1 ?_;obtain⟨QfZ,QaD⟩:=bw (eu.ro (xG.au hx)) (cs:=p.cells) (i:=i) (by simp[hp]);intro aC fr;refine bT (some 38) x.pA QfZ x.au.length 2 (i:Int) fr kR QaD oM oM<|ah 1<|bt ((aN QfZ (i:Int) 2).add 1) _ (aQ (eu.ro (xG.au hx)) QaD (i:=i) (cs:=p.cells) (by simp[hp]) 1 _ rfl)<|ah 1 ?_;obtain⟨wJ,we⟩:=rd_some (eu.ro (xG.sf hx hp)) (by rw[dg];omega);intro aC fr;refine bT (some 42) p.A wJ p.args.length 1 a fr kR we oM oM<|bt (aN wJ (a) 1) _ (dZ (eu.ro (xG.sf hx hp)) we oM oM)<|da [3,4,8,11,33,34,43]<|ej (h0:=oM) (h1:=oM) (aZ vg) m 1 (p.args.getD a.toNat 0)<|bt (aN (aZ vg) (p.args.getD a.toNat 0) 1) _ (dZ (aD (eu.get 3 rfl)) rfl oM oM) ?_;intro aC fr;refine nX 46 39 1 #[(0,.tmp 45)] 39 fr (e:=2) (size:=1) (zs:=[vI 0]) (vs:=[(0,vI (tM a.toNat bC p))]) (cs:=[vI (tM a.toNat bC p)]) eu ?_;intro b42 w43 hb42 _ Ap _ aC ea fr;clear ea;replace Ap:=Ap.nf;refine Xc 47 (.tmp 33) (.tmp 46) 39 39 fr (e:=2) (size:=1) (bytes:=8) (z:=(vI 0)) (A:=Aj) (B:=(sM b42)) (n:=us.length) (cap:=cj) (m:=1) (cap':=1) (xs:=(ints us)) (news:=[vI (tM a.toNat bC p)]) Ap 5 rfl (aD (Ap.get 6 rfl)) rfl (by simp[Value.oneCell']) (by rw[xW,QlO,QoT];omega) (by rw[xW,QlO,QoT];simp only[maxLen];omega) ((us++[tM a.toNat bC p]).length) (ints (us++[tM a.toNat bC p])) (by rw[QoG];rfl) (by rw[fG];rfl) ?_;intro A49 c50 w51 MU _ aC ea fr;clear ea;replace MU:=MU.nf;have pG:=MU.od [5,5,5,5,5,5] 6;revert aC;exact ah 1<|ay<|cG<|ah 1<|cZ ((i:Int)+1)<|ah 1<|ay fun aC fr=>⟨x.au.length-(i+1),oM,i+1,us++[tM a.toNat bC p],A49,c50,rfl,fr.kp [3,4,8,10,11],(pG.tk 6),oM,by rw[xW,List.take_add_one,hp,Qou];rfl⟩
 refine eW 2<|eX<|aI ?_;obtain rfl:i=x.au.length:=oM;rw[QoF]at xW;have hul:us.length=x.au.length:=by rw[xW,QlO]
 refine ah 1<|ay<|cr 4 ?_;have rL:=bd [oN X z oA oc,mZ X z,mM z oA oc,.row 2 1 (sM vg) m m (ints (qk x.au a.toNat bC 0)),.aB b1 49 (xV x),.row 2 1 Aj us.length cj (ints us)] (eu.cast (by rw[IG]));intro aC fr;refine fk (fun n_ a_ w_=>∃(j:Nat),n_=x.au.length-j∧Fr a_ 67 [(3,vS (sM vg) m m),(4,pT b1 0),(10,vS Aj us.length cj),(12,nV j)]∧Mem (yZ X z oA oc vg m bC) w w_ [oN X z oA oc,mZ X z,mM z oA oc,.row 2 1 (sM vg) m m (ints (qk x.au a.toNat bC j)),.aB b1 49 (xV x),.row 2 1 Aj us.length cj (ints us)]∧(j≤x.au.length)) (n:=_) ⟨0,rfl,fr.kp [3,4,10,12],rL,Qom _⟩ ?_;clear fr aC rL;rintro n aC w61 ⟨j,rfl,fr,nJ,hj⟩;revert aC;refine ba<|aI<|ah 2<|bt (aZ b1) _ (ae (nJ.get 4 rfl) rfl)<|ah 2<|ay<|fE ((j:Int)<(x.au.length:Int)) (fun c65=> ?_) (fun c65=> ?_);refine bP<|ba<|cr 5 ?_;obtain⟨p,hp⟩:=aM (l:=x.au) (i:=j) oM;have jD:=D7 hp;obtain⟨hd0,hd1⟩:=HN.Qid p jD;obtain⟨gn,QaE⟩:=bw (nJ.ro (xG.au hx)) (cs:=p.cells) (i:=j) (by simp[hp]);obtain⟨g68,rfl⟩:=df (nJ.get 5 rfl) oM;refine da [3,4,10,12] ?_;intro aC fr;refine wB 11 (bo [eS (sM vg) m m,eR b1 0,eS x.pA x.au.length x.pc,.aU (nV j),eA gn (j:Int) 2,eA gn (j:Int) 2,eI p.dst,eS (sM g68) us.length cj,.aU (nV j),eA (aZ g68) (j:Int) 1,eI (tM a.toNat bC p)]) fr (kV (pF lz dP dP (dL (aZ b1) _ fun w_ hK=>(ae ((nJ.aw hK).get 4 rfl) rfl)) dP (Hw x.pA gn x.au.length 2 (j:Int) QaE) dP (dL (aN gn (j:Int) 2) _ fun w_ hK=>(aQ ((nJ.aw hK).ro (xG.au hx)) QaE (i:=j) (cs:=p.cells) (by simp[hp]) 0 _ rfl)) dP) dP (dI (h0:=oM) (h1:=oM) (aZ g68) us.length 1 (j:Int)) (dL (aN (aZ g68) (j:Int) 1) _ fun w_ hK=>(fx (aD ((nJ.aw hK).get 5 rfl)) rfl (by rw[xW,List.getElem?_map,hp];rfl)))) ?_;intro aC w73 vs hK hv fr;revert aC;refine bX [(3,vS (sM vg) m m),(4,pT b1 0),(10,vS (sM g68) us.length cj),(12,nV j),(55,vS (sM vg) m m),(61,vI p.dst),(65,vI (tM a.toNat bC p))] ?_;have KH:=nJ.aw hK;clear hK hv fr aC nJ;clear vs;refine ej (aZ vg) m 1 p.dst<|yc KH 3 (aN (aZ vg) (p.dst) 1) ((p.dst).toNat*1) (vI (tM a.toNat bC p)) rfl rfl oM fun w75 sw=> ?_
 replace sw:=sw.nf;refine ay<|cG<|ah 1<|cZ ((j:Int)+1)<|ah 1<|ay ?_;have e_:(ints (qk x.au a.toNat bC j)).set ((p.dst).toNat*1) (vI (tM a.toNat bC p))=ints (qk x.au a.toNat bC (j+1)):=by rw[Qoz,←ints_set,IE hp]
 intro aC fr;exact⟨x.au.length-(j+1),oM,j+1,rfl,fr.kp [3,4,10,12],((sw.tk 6).cast (by rw[←e_];rfl)),oM⟩;refine eW 4<|eX<|UY ?_;obtain rfl:j=x.au.length:=oM;have W7:gr x.au a.toNat bC=gr x.au (eG q.2.2 ve) bC:=by
            rcases hd with h_|⟨h_,_⟩
            · rw[h_];rfl
            · rw[h_,hn_,Qoq]
 exact⟨rfl,(nJ.tk 4).cast (by rw[Mu,W7];rfl)⟩
end Go.Proofs.YtejbeeaomokjpaaGreat
namespace Go.Proofs.YtejbeeaomokjpaaGreat
open Go.Mor
set_option maxHeartbeats 4000000 in
theorem S0(X:RX)(z:jo)(oA:ar)(oc:Nat)(w:World)(hX:X.WF)(hG:dM X z)(f:et)(hf:f∈X.E.fns)(k:Nat)(x:aE)(hx:f.bh[k]?=some x)(bC:af)(vg m:Nat)(hvl:bC.length=m)(hm:(m:Int)=f.va)(hR:(bx.pk (dR X z oA oc++[.row 2 1 (sM vg) m m (ints bC)])).holds w)(hA:RO (yZ X z oA oc vg m bC) w X.ro)(g:Nat)(hK:Le Tryz.prog X 89 (dN X.E.toEnv0 g) (g:Int))(hZ:Gu X.E.toEnv0 z ((g:Int)+1) bC):Calls Tryz.prog 119 #[pT X.r 0,xA x,vS (sM vg) m m] w (ez fun v w'=>YBV X (yZ X z oA oc vg m bC) w z (g:Int) vg m (sY X.E.toEnv0 (dN X.E.toEnv0 g) x bC) v w'):=by
 have hW:=hX.fns f hf;have HN:=hW.aB _ _ hx;have xG:=hA.xfn hf;have YP:=HN.li;have hlp:=HN.lp;have jR:=hW.va;have G9:=hX.ein;refine fv 118 [pT X.r 0,xA x,vS (sM vg) m m] Tryz.func119 ?_;have hM:=Mem.uO hR;refine aI<|ou hM 49 (xA x) (xV x) fun b1 w2 jU M3=> ?_
 replace M3:=M3.nf;clear hM;refine ah 2<|ay<|ba<|aX<|cr 0 ?_;intro aC fr;refine fk (fun n_ a_ w_=>∃(j:Nat) (vj:af) (zj:jo) (pK:ar) (pL:Nat),n_=x.insts.length-j∧Fr a_ 118 [(0,pT X.r 0),(2,vS (sM vg) m m),(4,pT b1 0),(8,nV j)]∧Mem (yZ X z oA oc vg m bC) w w_ [oN X zj pK pL,mZ X zj,mM zj pK pL,.row 2 1 (sM vg) m m (ints vj),.aB b1 49 (xV x)]∧(j≤x.insts.length)∧(vj.length=m)∧(dM X zj)∧(Gu X.E.toEnv0 zj ((g:Int)+1) vj)∧(ey (z.go (sY X.E.toEnv0 (dN X.E.toEnv0 g) x bC)) (zj.go fun s=>(cS X.E.toEnv0 (dN X.E.toEnv0 g) (x.insts.drop j) vj s).bind (XU X.E.toEnv0 x)))) (n:=_) ⟨0,bC,z,oA,oc,rfl,fr.kp [0,2,4,8],M3,Qom _,hvl,hG,hZ,(ey.HK (fun s_=>XW) rfl)⟩ ?_;clear fr aC M3;rintro n aC w6 ⟨j,vj,zj,pK,pL,rfl,fr,M7,hj,HO,IJ,R6,hr⟩;revert aC;refine ba<|aI<|ah 2<|bt (ao b1 1) _ (ae (M7.get 4 rfl) rfl)<|ah 2<|ay<|fE ((j:Int)<(x.insts.length:Int)) (fun uR=> ?_) (fun uR=> ?_);refine bP<|ba<|cr 1<|ba<|aI ?_;obtain⟨i,hi⟩:=aM (l:=x.insts) (i:=j) oM;have EF:=D7 hi;have nY:=(hW.ok x (D7 hx)).insts i EF|>.n;have hia:i.args.length≤17:=IH (HN.shape i EF);refine ah 3<|di (Lk X zj pK pL w6 hX IJ (Mem.cD (l:=dR X zj pK pL) M7)) ?_;rintro _ Ye ⟨jz,z12,Eh,Ei,rfl,Qf0,QaF,Qf1,Ej⟩;have uc:=bd [oN X z12 Eh Ei,mZ X z12,mM z12 Eh Ei,.row 2 1 (sM vg) m m (ints vj),.aB b1 49 (xV x)] (M7.rH Ej);have hr:=ey.step (G:=z.go (sY X.E.toEnv0 (dN X.E.toEnv0 g) x bC)) (A:=cT X.E.toEnv0) (F:=fun _ s=>(bV X.E.toEnv0 (dN X.E.toEnv0 g) i (fe vj i.args) s).bind fun u s=>(cS X.E.toEnv0 (dN X.E.toEnv0 g) (x.insts.drop (j+1)) (if 0≤i.dst∧aK i.op then vj.set i.dst.toNat u else vj) s).bind (XU X.E.toEnv0 x)) (XT hr hi) Qf1;refine ah 1<|ay<|dX (!jz) (¬(jz=true)) (by simp only[iU]) (fun rf=> ?_) (fun rf=> ?_);replace rf:jz=false:=Qoy.2 rf;have AI:z12.ov=true:=by rw[Qf0,rf];rfl
 refine aX<|bL<|cJ<|cJ<|iv (vI (-1)) (vI 0) ?_;exact⟨-1,0,vj,z12,Eh,Ei,rfl,QaF,HO,fun _=>rfl,.inl AI,ey.Nu AI hr,uc.tk 4⟩;replace rf:jz=true:=QoD.1 rf;have AI:z12.ov=false:=by rw[Qf0,rf];rfl
 have Pg:=GQ R6 AI Qf1;have hlv:LI vj:=(Pg.run AI).2.2.2;refine bP<|aX<|ba<|aX<|cr 2 ?_;have oG:=uc.cl (Mem.dY _ 2 1);intro aC fr;refine fk (fun n_ a_ w_=>∃(q:Nat) (us:af) (Aj:ar) (cj:Nat),n_=i.args.length-q∧Fr a_ 118 [(0,pT X.r 0),(2,vS (sM vg) m m),(4,pT b1 0),(8,nV j),(9,vS Aj us.length cj),(10,nV q)]∧Mem (yZ X z oA oc vg m bC) w w_ [oN X z12 Eh Ei,mZ X z12,mM z12 Eh Ei,.row 2 1 (sM vg) m m (ints vj),.aB b1 49 (xV x),.row 2 1 Aj us.length cj (ints us)]∧(q≤i.args.length)∧(us=fe vj (i.args.take q))) (n:=_) ⟨0,[],none,0,rfl,fr.kp [0,2,4,8,9,10],oG,Qom _,rfl⟩ ?_;clear fr aC oG;rintro n aC Yd ⟨q,us,Aj,cj,rfl,fr,gZ,hql,YA⟩;revert aC;refine ba<|aI<|ah 2<|bt (ao b1 1) _ (ae (gZ.get 4 rfl) rfl)<|ah 1 ?_;obtain⟨Qf2,QaG⟩:=bw (gZ.ro (xG.insts hx)) (cs:=i.cells) (i:=j) (by simp[hi]);intro aC fr;refine bT (some 28) x.iA Qf2 x.insts.length 5 (j:Int) fr kR QaG oM oM<|ah 1<|bt ((aN Qf2 (j:Int) 5).add 4) _ (aQ (gZ.ro (xG.insts hx)) QaG (i:=j) (cs:=i.cells) (by simp[hi]) 4 _ rfl)<|ah 2<|ay<|fE ((q:Int)<(i.args.length:Int)) (fun U6=> ?_) (fun U6=> ?_);refine bP<|ba<|cr 3<|cG ?_;obtain⟨av,yN⟩:=aM (l:=i.args) (i:=q) oM;obtain⟨OS,Mr⟩:=HN.args i EF av (D7 yN);refine ah 3<|bt (ao b1 1) _ (ae (gZ.get 4 rfl) rfl)<|ah 1 ?_;obtain⟨vk,Ha⟩:=bw (gZ.ro (xG.insts hx)) (cs:=i.cells) (i:=j) (by simp[hi]);intro aC fr;refine bT (some 40) x.iA vk x.insts.length 5 (j:Int) fr kR Ha oM oM<|ah 1<|bt ((aN vk (j:Int) 5).add 4) _ (aQ (gZ.ro (xG.insts hx)) Ha (i:=j) (cs:=i.cells) (by simp[hi]) 4 _ rfl)<|da [0,2,4,8,10,35,36,42]<|ah 1 ?_;obtain⟨S1,Hb⟩:=rd_some (gZ.ro (xG.inst hx hi)) (by rw[dg];omega);intro aC fr;refine bT (some 44) i.A S1 i.args.length 1 (q:Int) fr kR Hb oM oM<|bt (aN S1 (q:Int) 1) _ (fx (gZ.ro (xG.inst hx hi)) Hb yN)<|ej (h0:=oM) (h1:=oM) (aZ vg) m 1 av<|bt (aN (aZ vg) (av) 1) _ (dZ (aD (gZ.get 3 rfl)) rfl oM oM) ?_;intro aC fr;refine nX 48 39 1 #[(0,.tmp 47)] 39 fr (e:=2) (size:=1) (zs:=[vI 0]) (vs:=[(0,vI (vj.getD av.toNat 0))]) (cs:=[vI (vj.getD av.toNat 0)]) gZ ?_;intro NZ w47 QiW _ yt _ aC ea fr;clear ea;replace yt:=yt.nf;refine Xc 49 (.tmp 35) (.tmp 48) 39 39 fr (e:=2) (size:=1) (bytes:=8) (z:=(vI 0)) (A:=Aj) (B:=(sM NZ)) (n:=us.length) (cap:=cj) (m:=1) (cap':=1) (xs:=(ints us)) (news:=[vI (vj.getD av.toNat 0)]) yt 5 rfl (aD (yt.get 6 rfl)) rfl (by simp[Value.oneCell']) (by rw[YA,sy,QoT];omega) (by rw[YA,sy,QoT];simp only[maxLen];omega) ((us++[vj.getD av.toNat 0]).length) (ints (us++[vj.getD av.toNat 0])) (by rw[QoG];rfl) (by rw[fG];rfl) ?_;intro A53 HM w55 BJ _ aC ea fr;clear ea;replace BJ:=BJ.nf;have Ed:=BJ.od [5,5,5,5,5,5] 6;revert aC;exact ah 1<|ay<|cG<|ah 1<|cZ ((q:Int)+1)<|ah 1<|ay fun aC fr=>⟨i.args.length-(q+1),oM,q+1,us++[vj.getD av.toNat 0],A53,HM,rfl,fr.kp [0,2,4,8,9,10],(Ed.tk 6),oM,by rw[YA];exact Ny yN⟩
 refine eW 2<|eX<|aI ?_;obtain rfl:q=i.args.length:=oM;rw[QoF]at YA;have hul:us.length=i.args.length:=by rw[YA,sy]
 refine ah 2<|bt (ao b1 1) _ (ae (gZ.get 4 rfl) rfl)<|ah 1 ?_;obtain⟨Qf3,QaH⟩:=bw (gZ.ro (xG.insts hx)) (cs:=i.cells) (i:=j) (by simp[hi]);intro aC fr;refine bT (some 54) x.iA Qf3 x.insts.length 5 (j:Int) fr kR QaH oM oM<|ga (aN Qf3 (j:Int) 5) (iV i) (ml (gZ.ro (xG.insts hx)) QaH hi)<|da [0,2,4,8,9,50,55]<|ah 1<|di (vs:=#[pT X.r 0,iG i,vS Aj us.length cj]) (Yt X z12 Eh Ei Yd hX QaF (Mem.cD (l:=dR X z12 Eh Ei) gZ) (hA.rI (l:=dR X z12 Eh Ei) gZ) g hK i us Aj cj AI (Pg.XN (Qol _) (fun y hy=> .inr (D5 hlv y (YA▸hy)))) (HN.shape i EF) hul (pR (gZ.get 5 rfl)) (RO.aD (RO.mQ (l:=dR X z12 Eh Ei) gZ 2 rfl))) ?_;rintro _ w75 ⟨x68,Ph,Jy,Jz,rfl,S3,⟨x72,QiX,Qc2⟩,Qc3⟩;have sw:=bd [oN X Ph Jy Jz,mZ X Ph,mM Ph Jy Jz,.row 2 1 (sM vg) m m (ints vj),.aB b1 49 (xV x),.row 2 1 Aj us.length cj (ints us)] (gZ.rH Qc3);have QaI:=Qc2;rw[YA]at QaI;have RU:=ey.step (F:=fun u s=>(cS X.E.toEnv0 (dN X.E.toEnv0 g) (x.insts.drop (j+1)) (if 0≤i.dst∧aK i.op then vj.set i.dst.toNat u else vj) s).bind (XU X.E.toEnv0 x)) hr QaI;refine ah 1<|ay<|ba<|aI<|ah 4<|bt (ao X.r 10) _ (ae (sw.get 0 rfl) rfl)<|ay<|dX Ph.ov (Ph.ov=true) QoN (fun Lp=> ?_) (fun Lp=> ?_);refine aX<|bL<|cJ<|cJ<|iv (vI (-1)) (vI 0) ?_;exact⟨-1,0,vj,Ph,Jy,Jz,rfl,S3,HO,fun _=>rfl,.inl Lp,ey.Nu Lp RU,sw.tk 4⟩;replace Lp:Ph.ov=false:=Qoy.2 Lp;refine bP<|aI<|ah 1<|bt (ao b1 1) _ (ae (sw.get 4 rfl) rfl)<|ah 1 ?_;obtain⟨oS,wm⟩:=bw (sw.ro (xG.insts hx)) (cs:=i.cells) (i:=j) (by simp[hi]);intro aC fr;refine bT (some 66) x.iA oS x.insts.length 5 (j:Int) fr kR wm oM oM<|ah 1<|bt ((aN oS (j:Int) 5).add 1) _ (aQ (sw.ro (xG.insts hx)) wm (i:=j) (cs:=i.cells) (by simp[hi]) 1 _ rfl)<|ah 1<|ay<|fE ((i.dst:Int)≥0) (fun c84=> ?_) (fun c84=> ?_);refine cG ?_;obtain⟨hd0,hd1⟩:=HN.dst i EF ((HN.shape i EF).1.resolve_right oM);refine ah 2<|bt (ao b1 1) _ (ae (sw.get 4 rfl) rfl)<|da [0,2,4,8,11,70,72]<|ah 1 ?_;obtain⟨Qf4,QaJ⟩:=bw (sw.ro (xG.insts hx)) (cs:=i.cells) (i:=j) (by simp[hi]);intro aC fr;refine bT (some 74) x.iA Qf4 x.insts.length 5 (j:Int) fr kR QaJ oM oM<|ah 1<|bt ((aN Qf4 (j:Int) 5).add 1) _ (aQ (sw.ro (xG.insts hx)) QaJ (i:=j) (cs:=i.cells) (by simp[hi]) 1 _ rfl)<|ah 1<|ej (h0:=oM) (h1:=oM) (aZ vg) m 1 i.dst<|yc sw 3 (aN (aZ vg) (i.dst) 1) ((i.dst).toNat*1) (vI x68) rfl rfl oM fun w91 N0=> ?_
 replace N0:=N0.nf;refine ay<|cG ?_;have M93:=bd [oN X Ph Jy Jz,mZ X Ph,mM Ph Jy Jz,.row 2 1 (sM vg) m m (ints (vj.set i.dst.toNat x68)),.aB b1 49 (xV x),.row 2 1 Aj us.length cj (ints us)] (N0.cast (by rw[kH]));refine ah 1<|cZ ((j:Int)+1)<|ah 1<|ay ?_;have YS:=GR G9 Pg nY YA Qc2;have hse:=Sp (v:=vj) (HN.shape i EF) QiX oM;rw[hse]at RU YS;intro aC fr;exact⟨x.insts.length-(j+1),oM,j+1,vj.set i.dst.toNat x68,Ph,Jy,Jz,rfl,fr.kp [0,2,4,8],(M93.tk 5),oM,by rw[Qpa];exact HO,S3,YS.XN oM (fun _ h=> .inl h),RU⟩;refine bP<|cG<|ah 1<|cZ ((j:Int)+1)<|da [0,2,4,18]<|ah 1<|ay ?_;have YS:=GR G9 Pg nY YA Qc2;rw[XX oM]at RU YS;intro aC fr;exact⟨x.insts.length-(j+1),oM,j+1,vj,Ph,Jy,Jz,rfl,fr.kp [0,2,4,8],(sw.tk 5),oM,HO,S3,YS.XN oM (fun _ h=> .inl h),RU⟩;refine eW 0<|eX<|ba<|aI ?_;have C1:=Qcy hr oM;refine ah 3<|di (Lk X zj pK pL w6 hX IJ (Mem.cD (l:=dR X zj pK pL) M7)) ?_;rintro _ N1 ⟨b98,Hc,nK,nL,rfl,QaK,wo,QaL,zy⟩;have fY:=bd [oN X Hc nK nL,mZ X Hc,mM Hc nK nL,.row 2 1 (sM vg) m m (ints vj),.aB b1 49 (xV x)] (M7.rH zy);have hr:=ey.step (G:=z.go (sY X.E.toEnv0 (dN X.E.toEnv0 g) x bC)) (A:=cT X.E.toEnv0) (F:=fun _ s=>if x.e=0 then .ok (x.a,0,vj) s else if x.e=1 then .ok (if vj.getD x.v.toNat 0≠0 then x.a else x.b,0,vj) s else if x.e=3 then .stop 2 x.a s else .ok (-1,if x.v≥0 then vj.getD x.v.toNat 0 else 0,vj) s) C1 QaL;refine ah 1<|ay<|dX (!b98) (¬(b98=true)) (by simp only[iU]) (fun zz=> ?_) (fun zz=> ?_);replace zz:b98=false:=Qoy.2 zz;have AI:Hc.ov=true:=by rw[QaK,zz];rfl
 refine aX<|bL<|iv (vI (-1)) (vI 0) ?_;exact⟨-1,0,vj,Hc,nK,nL,rfl,wo,HO,fun _=>rfl,.inl AI,ey.Nu AI hr,fY.tk 4⟩;replace zz:b98=true:=QoD.1 zz;have AI:Hc.ov=false:=by rw[QaK,zz];rfl
 have Pg:=GQ R6 AI QaL;have hlv:LI vj:=(Pg.run AI).2.2.2;refine bP<|ba<|aI<|ah 1<|bt (ao b1 2) _ (ae (fY.get 4 rfl) rfl)<|ay<|cr 4<|aX<|ln x.e 0 (fun wL=> ?_) (fun wL=> ?_);refine aI<|ah 1<|bt (ao b1 4) _ (ae (fY.get 4 rfl) rfl)<|ah 2<|ay<|bL<|cJ<|iv (vI x.a) (vI 0) ?_;exact⟨x.a,0,vj,Hc,nK,nL,rfl,wo,HO,(fun h=>by rw[AI]at h;cases h),Pg,ey.HK (fun s_=>by rw[Kt oM]) hr,fY.tk 4⟩;refine aX<|ln x.e 1 (fun YB=> ?_) (fun YB=> ?_);refine ba<|aI ?_;have hvi:=HN.vIf oM;refine ah 2<|bt (ao b1 3) _ (ae (fY.get 4 rfl) rfl)<|da [4,92,94]<|ej (h0:=oM) (h1:=oM) (aZ vg) m 1 x.v<|bt (aN (aZ vg) (x.v) 1) _ (dZ (aD (fY.get 3 rfl)) rfl hvi.1 oM)<|ah 1<|ay<|dX (((vj.getD x.v.toNat 0):Int) !=0) (((vj.getD x.v.toNat 0):Int)≠0) (by simp only[Qoo]) (fun Qc4=> ?_) (fun Qc4=> ?_);refine aI<|ah 1<|bt (ao b1 4) _ (ae (fY.get 4 rfl) rfl)<|ah 2<|ay<|bL<|cJ<|iv (vI x.a) (vI 0) ?_;exact⟨x.a,0,vj,Hc,nK,nL,rfl,wo,HO,(fun h=>by rw[AI]at h;cases h),Pg,ey.HK (fun s_=>by rw[Ds oM,Kt oM,Kt oM]) hr,fY.tk 4⟩;refine bP<|aI<|ah 1<|bt (ao b1 5) _ (ae (fY.get 4 rfl) rfl)<|ah 2<|ay<|bL<|cJ<|iv (vI x.b) (vI 0) ?_;exact⟨x.b,0,vj,Hc,nK,nL,rfl,wo,HO,(fun h=>by rw[AI]at h;cases h),Pg,ey.HK (fun s_=>by rw[Ds oM,Kt oM,Ds oM]) hr,fY.tk 4⟩;refine aX<|ln x.e 2 (fun Hd=> ?_) (fun Hd=> ?_);refine ba<|aI ?_;have hvi:=HN.Qic oM;refine ah 1<|bt (ao b1 3) _ (ae (fY.get 4 rfl) rfl)<|da [2,4,105]<|ah 1<|ay<|fE ((x.v:Int)≥0) (fun wO=> ?_) (fun wO=> ?_);refine ba<|da [2,4] ?_;intro aC fr;refine wB 6 (bo [eS (sM vg) m m,eR b1 3,eI x.v,eA (aZ vg) (x.v) 1,eI (vj.getD x.v.toNat 0),eI (-1)]) fr (la (sv lz dP dP (dL (ao b1 3) _ fun w_ hK=>(ae ((fY.aw hK).get 4 rfl) rfl)) (dI (h0:=oM) (h1:=oM) (aZ vg) m 1 x.v) (dL (aN (aZ vg) (x.v) 1) _ fun w_ hK=>(dZ (aD ((fY.aw hK).get 3 rfl)) rfl oM oM))) dP) ?_;intro aC QiY vs hK hv fr;revert aC;refine bX [(6,vI (-1)),(111,vI (vj.getD x.v.toNat 0))] ?_;have YC:=fY.aw hK;clear hK hv fr aC fY;clear vs;refine ah 1<|ay<|bL<|cJ<|iv (vI (-1)) (vI (vj.getD x.v.toNat 0)) ?_;exact⟨-1,(vj.getD x.v.toNat 0),vj,Hc,nK,nL,rfl,wo,HO,fun _=>rfl,Pg,ey.HK (fun s_=>by rw[Ds oM,Ds oM,Ds oM,Kt oM]) hr,YC.tk 4⟩;refine bP<|aX<|bL<|cJ<|iv (vI (-1)) (vI 0) ?_;exact⟨-1,0,vj,Hc,nK,nL,rfl,wo,HO,fun _=>rfl,Pg,ey.HK (fun s_=>by rw[Ds oM,Ds oM,Ds oM,Ds oM]) hr,fY.tk 4⟩;refine bP<|ba ?_;have he3:x.e=3:=by have:=Mw HN.ends;omega
 refine da [0,2,4] ?_;intro aC fr;refine wB 5 (bo [eR X.r 0,eR X.r 0,eR X.r 0,eR b1 4,eI x.a]) fr (sv lz dP dP dP dP (dL (ao b1 4) _ fun w_ hK=>(ae ((fY.aw hK).get 4 rfl) rfl))) ?_;intro aC QfQ vs hK hv fr;revert aC;refine bX [(114,pT X.r 0),(116,vI x.a)] ?_;have G6:=fY.aw hK;clear hK hv fr aC fY;clear vs;refine di (kh X Hc nK nL QfQ hX wo (Mem.cD (l:=dR X Hc nK nL) G6) 2 x.a) ?_;rintro _ QiZ ⟨rfl,Qf5⟩;have nN:=bd [oN X (Hc.fin 2 x.a) nK nL,mZ X (Hc.fin 2 x.a),mM (Hc.fin 2 x.a) nK nL,.row 2 1 (sM vg) m m (ints vj),.aB b1 49 (xV x)] (G6.rH Qf5);refine ay<|aX<|bL<|iv (vI (-1)) (vI 0) ?_;exact⟨-1,0,vj,(Hc.fin 2 x.a),nK,nL,rfl,wo.fin,HO,fun _=>rfl,.inl Jl,ey.fin hr (fun _=>by rw[Ds oM,Ds oM,Kt oM];rfl),nN.tk 4⟩
end Go.Proofs.YtejbeeaomokjpaaGreat
namespace Go.Proofs.YtejbeeaomokjpaaGreat
open Go.Mor
set_option maxHeartbeats 4000000 in
theorem YD(X:RX)(z:jo)(oA:ar)(oc:Nat)(w:World)(hX:X.WF)(hG:dM X z)(hR:(bx.pk (dR X z oA oc)).holds w)(hA:RO (xS X z oA oc) w X.ro)(g:Nat)(ih:∀j,j<g→Le Tryz.prog X 89 (dN X.E.toEnv0 j) (j:Int))(n:Int)(l:af)(bA:ar)(bc:Nat)(hZ:Gu X.E.toEnv0 z (g:Int) l)(hl:RO (xS X z oA oc) w (.rd bA (ints l)))(hlen:l.length≤17):Calls Tryz.prog 89 #[pT X.r 0,vI n,vS bA l.length bc] w (ez fun v w'=>XV X (xS X z oA oc) w z (dN X.E.toEnv0 g n l) v w'):=by
 have G9:=hX.ein;have hnf:X.E.fns.length≤1000:=hX.XR;have htf:X.E.sQ.length=X.E.fns.length:=rfl;have hopn:z.ov=false→0≤z.s.opened∧z.s.opened≤1200:=fun h=>(hZ.run h).2.2.1
 refine fv 135 [pT X.r 0,vI n,vS bA l.length bc] Tryz.func89 ?_;have hM:=Mem.uO hR;refine aX<|ba<|aI<|ah 4<|bt (ao X.r 10) _ (ae (hM.get 0 rfl) rfl)<|ay<|dX z.ov (z.ov=true) QoN (fun c1=> ?_) (fun c1=> ?_);refine aX<|bL<|cv (vI 0) ?_;exact⟨0,z,oA,oc,rfl,hG,ey.Nu c1 (K:=dN X.E.toEnv0 g n l) rfl,hM⟩;replace c1:z.ov=false:=Qoy.2 c1;have hz:=c1;obtain⟨Pg,hZ2,YS,hZ4⟩:=hZ.run hz;refine bP<|ba<|aI<|ah 3 ?_;obtain⟨B2,QR⟩:∃B:Bool,B=decide ((n:Int)<1):=⟨_,rfl⟩;refine bX [(0,pT X.r 0),(1,vI n),(2,vS bA l.length bc),(20,(vB (decide ((n:Int)<1))))] ?_;rw[←QR];have Q0:B2=true↔((n:Int)<1):=by rw[QR];simp only[QhA]
 clear QR;intro aC fr;refine cE 4 7 [21,24] fr (news:=[(21,cond (!B2) (vI n) undef),(24,(cond (!B2) (vP (ao X.r 13)) undef))]) (by cases B2<;>kernel_rfl) ?_;intro aC fr;refine az (B:=(!B2)) (d:=(some 25)) (vS X.fA X.E.sQ.length X.fc) fr (by cases B2<;>kernel_rfl) (fun hB hh=> ?_) ?_;cases B2<;>try exact absurd hB dQ
 have c2:¬((n:Int)<1):=iL Q0.2;exact br (some 25) (ao X.r 13) fr kR (vS X.fA X.E.sQ.length X.fc) (ae (hM.get 0 rfl) rfl) hh;intro aC fr;refine cE 4 12 [28,29] fr (news:=[(28,(vB (B2||decide ((n:Int)>(X.E.sQ.length:Int))))),(29,(vB (B2||decide ((n:Int)>(X.E.sQ.length:Int)))))]) (by cases B2<;>kernel_rfl) ?_;intro aC fr;obtain⟨Pj,Qc5⟩:∃B:Bool,B=(B2||decide ((n:Int)>(X.E.sQ.length:Int))):=⟨_,rfl⟩;revert aC;refine bX [(0,pT X.r 0),(1,vI n),(2,vS bA l.length bc),(29,(vB (B2||decide ((n:Int)>(X.E.sQ.length:Int)))))] ?_;rw[←Qc5];have YE:Pj=true↔(((n:Int)<1)∨((n:Int)>(X.E.sQ.length:Int))):=by rw[Qc5];simp only[Qos,QhA,Q0]
 clear Qc5;intro aC fr;refine cE 3 15 [32] fr (news:=[(32,(cond (!Pj) (vP (ao X.r 13)) undef))]) (by cases Pj<;>kernel_rfl) ?_;intro aC fr;refine az (B:=(!Pj)) (d:=(some 33)) (vS X.fA X.E.sQ.length X.fc) fr (by cases Pj<;>kernel_rfl) (fun hB hh=> ?_) ?_;cases Pj<;>try exact absurd hB dQ
 have qV:¬(((n:Int)<1)∨((n:Int)>(X.E.sQ.length:Int))):=iL YE.2;exact br (some 33) (ao X.r 13) fr kR (vS X.fA X.E.sQ.length X.fc) (ae (hM.get 0 rfl) rfl) hh;intro aC fr;refine cE 1 17 [34] fr (news:=[(34,cond (!Pj) (vI n) undef)]) (by cases Pj<;>kernel_rfl) ?_;intro aC fr;refine az (B:=(!Pj)) (d:=(some 35)) (vI (n-1)) fr (by cases Pj<;>kernel_rfl) (fun hB hh=> ?_) ?_;cases Pj<;>try exact absurd hB dQ
 have qV:¬(((n:Int)<1)∨((n:Int)>(X.E.sQ.length:Int))):=iL YE.2;exact GF (some 35) (n-1) fr (z0:=n-1) kR rfl oM oM hh;intro aC fr;cases Pj;have qV:¬(((n:Int)<1)∨((n:Int)>(X.E.sQ.length:Int))):=iL YE.2;obtain⟨f,hf⟩:=aM (l:=X.E.fns) (i:=(n-1).toNat) oM;have AJ:=D7 hf;have hW:=hX.fns f AJ;have jR:=hW.va;have hva0:0≤f.va:=Int.le_trans hW.pa0 hW.pav;have hpav:=hW.pav;have hpa0:=hW.pa0;have YF:=ql (body:=iW X.E.toEnv0 g) (l:=l) (s:=z.s) oM hf;change dN X.E.toEnv0 g n l z.s=_ at YF;obtain⟨S4,QaM⟩:=bw (hM.ro hA.Nx) (cs:=f.cells) (i:=(n-1).toNat) (gm hf);refine bT (some 36) X.fA S4 X.E.sQ.length 5 (n-1) fr kR QaM oM oM<|ah 1<|bt ((aN S4 (n-1) 5).add 2) _ (aQ (hM.ro hA.Nx) QaM (i:=(n-1).toNat) (cs:=f.cells) (gm hf) 2 _ rfl)<|ah 4<|ay<|dX ((f.pa:Int) !=(l.length:Int)) ((f.pa:Int)≠(l.length:Int)) (by simp only[Qoo]) (fun HJ=> ?_) (fun HJ=> ?_);refine aI<|ah 3<|di (kh X z oA oc w hX hG (Mem.cD (l:=dR X z oA oc) hM) 5 0) ?_;rintro _ Yh ⟨rfl,QS⟩;have qj:=bd [oN X (z.fin 5 0) oA oc,mZ X (z.fin 5 0),mM (z.fin 5 0) oA oc] (hM.rH QS);clear QS hM;refine ay<|aX<|bL<|cv (vI 0) ?_;exact⟨0,(z.fin 5 0),oA,oc,rfl,hG.fin,ey.fin (K:=dN X.E.toEnv0 g n l) rfl (fun _=>Qlh dp.no (YF.trans (Kt oM))),qj⟩;refine bP<|ba<|aI<|ah 4<|bt (ao X.r 12) _ (ae (hM.get 0 rfl) rfl)<|ah 1<|ay<|fE ((z.s.opened:Int)≥1200) (fun HB=> ?_) (fun HB=> ?_);refine aI<|ah 3<|di (kh X z oA oc w hX hG (Mem.cD (l:=dR X z oA oc) hM) 4 0) ?_;rintro _ O7 ⟨rfl,IA⟩;have s8:=bd [oN X (z.fin 4 0) oA oc,mZ X (z.fin 4 0),mM (z.fin 4 0) oA oc] (hM.rH IA);clear IA hM;refine da []<|ay<|aX<|bL<|cv (vI 0) ?_;exact⟨0,(z.fin 4 0),oA,oc,rfl,hG.fin,ey.fin (K:=dN X.E.toEnv0 g n l) rfl (fun _=>Qlh dp.no (YF.trans (by rw[Ds oM,Kt oM]))),s8⟩;refine bP<|aI<|ah 4<|bt (ao X.r 12) _ (ae (hM.get 0 rfl) rfl)<|da [0,1,2,57,61]<|cZ (z.s.opened+1)<|ah 3<|pC (ho:=sI) hM 0 12 (vI (z.s.opened+1)) rfl fun Zg pH=> ?_
 replace pH:=pH.nf;clear hM;refine ay<|aI<|ah 3<|bt (ao X.r 13) _ (ae (pH.get 0 rfl) rfl)<|ah 1<|cZ (n-1) ?_;obtain⟨vk,Ha⟩:=bw (pH.ro hA.Nx) (cs:=f.cells) (i:=(n-1).toNat) (gm hf);intro aC fr;refine bT (some 72) X.fA vk X.E.sQ.length 5 (n-1) fr kR Ha oM oM<|ga (aN vk (n-1) 5) [vT f.nm,vB f.wk,vI f.pa,vI f.va,vS f.A ((aq f.bh).length) f.c] (gf (i:=(n-1).toNat) (pH.ro hA.Nx) Ha (gm hf))<|na pH 30 [vT ⟨#[]⟩,vB false,vI 0,vI 0,an] fun Lq w41 hb40 zT=> ?_
 replace zT:=zT.nf;refine ng zT 3 [vT f.nm,vB f.wk,vI f.pa,vI f.va,vS f.A ((aq f.bh).length) f.c] rfl fun w43 Ap=> ?_
 replace Ap:=Ap.nf;refine ay<|aI<|ah 1<|bt (ao Lq 3) _ (ae (Ap.get 3 rfl) rfl)<|da [0,1,2,7,75] ?_;intro aC fr;refine ly (kR:ax _ 2=some (some 76,.makeSlice 39 (.tmp 75) (.tmp 75),39,none)) fr kR kR (k':=3) rfl (e:=2) (bytes:=8) (z:=(vI 0)) (n:=f.va.toNat) (i:=f.va) kR kR oM kR kR rfl oM (by simp only[maxLen];omega) Ap ?_;intro zU w46 QhX _ EG _ aC ea fr;clear ea;replace EG:=EG.nf;revert aC;refine ah 1<|ay<|ba<|aX<|cr 0 ?_;have MU:=EG.od [3,4,4,4,4] 5;have GX:=bd [.aB X.r 138 [vS X.dA X.ds.length X.dc,vS X.pA X.ds.length X.pc,vS (sM X.mG) X.E.bR X.E.bR,vI z.s.next,vS X.iA X.E.inp.length X.ic,(vI (z.s.pos:Int)),vI z.k,vI z.c,vS oA z.s.out.length oc,vI z.s.steps,vB z.ov,vI X.E.fuel,vI (z.s.opened+1),vS X.fA X.E.sQ.length X.fc,vS X.qA X.E.sQ.length X.qc],mZ X z,mM z oA oc,.row 2 1 (sM zU) f.va.toNat f.va.toNat (ints (l.take 0++List.replicate (f.va.toNat-0) 0)),.aB Lq 30 [vT f.nm,vB f.wk,vI f.pa,vI f.va,vS f.A ((aq f.bh).length) f.c]] (MU.cast (by rw[Qfz (l:=l)]));intro aC fr;refine fk (fun n_ a_ w_=>∃(j:Nat),n_=l.length-j∧Fr a_ 135 [(0,pT X.r 0),(1,vI n),(2,vS bA l.length bc),(7,pT Lq 0),(8,vS (sM zU) f.va.toNat f.va.toNat),(9,nV j)]∧Mem (xS X z oA oc) w w_ [.aB X.r 138 [vS X.dA X.ds.length X.dc,vS X.pA X.ds.length X.pc,vS (sM X.mG) X.E.bR X.E.bR,vI z.s.next,vS X.iA X.E.inp.length X.ic,(vI (z.s.pos:Int)),vI z.k,vI z.c,vS oA z.s.out.length oc,vI z.s.steps,vB z.ov,vI X.E.fuel,vI (z.s.opened+1),vS X.fA X.E.sQ.length X.fc,vS X.qA X.E.sQ.length X.qc],mZ X z,mM z oA oc,.row 2 1 (sM zU) f.va.toNat f.va.toNat (ints (l.take j++List.replicate (f.va.toNat-j) 0)),.aB Lq 30 [vT f.nm,vB f.wk,vI f.pa,vI f.va,vS f.A ((aq f.bh).length) f.c]]∧(j≤l.length)) (n:=_) ⟨0,rfl,fr.kp [0,1,2,7,8,9],GX,Qom _⟩ ?_;clear fr aC GX;rintro n aC w56 ⟨j,rfl,fr,uB,hj⟩;revert aC;refine ba<|aX<|fE ((j:Int)<(l.length:Int)) (fun c60=> ?_) (fun c60=> ?_);refine bP<|ba<|cr 1<|cG<|ah 4 ?_;obtain⟨S5,rfl⟩:=rd_some (uB.ro hl) (by rw[dg];omega);refine ej S5 l.length 1 (j:Int)<|bt (aN S5 (j:Int) 1) _ (dZ (uB.ro hl) rfl oM oM)<|ej (h1:=oM) (aZ zU) f.va.toNat 1 (j:Int)<|yc uB 3 (aN (aZ zU) (j:Int) 1) (((j:Int)).toNat*1) (vI (l.getD (j:Int).toNat 0)) rfl rfl oM fun w62 s7=> ?_
 replace s7:=s7.nf;refine ay<|cG<|ah 1<|cZ ((j:Int)+1)<|ah 1<|ay ?_;have BK:=bd [.aB X.r 138 [vS X.dA X.ds.length X.dc,vS X.pA X.ds.length X.pc,vS (sM X.mG) X.E.bR X.E.bR,vI z.s.next,vS X.iA X.E.inp.length X.ic,(vI (z.s.pos:Int)),vI z.k,vI z.c,vS oA z.s.out.length oc,vI z.s.steps,vB z.ov,vI X.E.fuel,vI (z.s.opened+1),vS X.fA X.E.sQ.length X.fc,vS X.qA X.E.sQ.length X.qc],mZ X z,mM z oA oc,.row 2 1 (sM zU) f.va.toNat f.va.toNat (ints (l.take (j+1)++List.replicate (f.va.toNat-(j+1)) 0)),.aB Lq 30 [vT f.nm,vB f.wk,vI f.pa,vI f.va,vS f.A ((aq f.bh).length) f.c]] (s7.cast (by rw[kH,Qoq,Qcw oM oM]));intro aC fr;exact⟨l.length-(j+1),oM,j+1,rfl,fr.kp [0,1,2,7,8,9],BK,oM⟩;refine eW 0<|eX<|aI ?_;obtain rfl:j=l.length:=oM;obtain⟨z1,AI⟩:∃y:jo,y={z with s:={z.s with opened:=z.s.opened+1}}:=⟨_,rfl⟩;obtain⟨v0,zY⟩:∃y,y=l++List.replicate (f.va.toNat-l.length) 0:=⟨_,rfl⟩;have Qi0:z1.ov=false:=by rw[AI];exact hz
 have hG1:dM X z1:=by rw[AI];exact⟨hG.mem,hG.n1,hG.n2,hG.pos,hG.out,hG.s1,hG.s2⟩
 have Sy:=hG.s2;obtain⟨g1,hg1⟩:∃g1,g=g1+1:=⟨g-1,oM⟩;have hZc:Gu X.E.toEnv0 z1 ((g1:Int)+1) v0:=by rw[AI,zY];exact .inr ⟨by show X.E.fuel-z.s.steps<_;omega,hZ2,by show 0≤z.s.opened+1∧z.s.opened+1≤1200;omega,Qcv hZ4⟩
 obtain⟨xb,Wy⟩:=aM (l:=f.bh) (i:=(0:Int).toNat) (by have:=hW.pos;show 0<_;omega);have Ls:ey (z.go (dN X.E.toEnv0 g n l)) (z1.go (CA X.E.toEnv0 g1 f 0 xb v0)):=ey.to (K:=dN X.E.toEnv0 g n l) rfl hz Qi0 (YF.trans (by rw[Ds oM,Ds oM,AI,hg1,GM Wy,hW.first xb Wy,zY];rfl));have Qi1:v0.length=f.va.toNat:=by rw[zY,QoG,Qp7];omega
 have hm:(f.va.toNat:Int)=f.va:=Qo7 oM;have hbq:vZ X.E.toEnv0 f (z.go (dN X.E.toEnv0 g n l)) g (g1+1) 0 0 v0 z1:= .inr ⟨Qol _,g1,xb,rfl,oM,Wy,hZc,Ls⟩;have qR:=bd [oN X z1 oA oc,mZ X z1,mM z1 oA oc,.row 2 1 (sM zU) f.va.toNat f.va.toNat (ints v0),.aB Lq 30 [vT f.nm,vB f.wk,vI f.pa,vI f.va,vS f.A ((aq f.bh).length) f.c]] (uB.cast (by rw[AI,zY,QoF]));refine ah 1<|ay<|aX<|ba<|cr 2 ?_;intro aC fr;refine fk (fun n_ a_ w_=>∃(j:Nat) (bj:Int) (aj:Int) (vj:af) (zj:jo) (pK:ar) (pL:Nat),n_=j∧Fr a_ 135 [(0,pT X.r 0),(1,vI n),(7,pT Lq 0),(8,vS (sM zU) f.va.toNat f.va.toNat),(10,vI bj),(11,vI aj)]∧Mem (xS X z oA oc) w w_ [oN X zj pK pL,mZ X zj,mM zj pK pL,.row 2 1 (sM zU) f.va.toNat f.va.toNat (ints vj),.aB Lq 30 [vT f.nm,vB f.wk,vI f.pa,vI f.va,vS f.A ((aq f.bh).length) f.c]]∧(vj.length=f.va.toNat)∧(dM X zj)∧(vZ X.E.toEnv0 f (z.go (dN X.E.toEnv0 g n l)) g j bj aj vj zj)) (n:=_) ⟨g1+1,0,0,v0,z1,oA,oc,rfl,fr.kp [0,1,7,8,10,11],qR,Qi1,hG1,hbq⟩ ?_;clear fr aC qR;rintro n aC w70 ⟨j,bj,aj,vj,zj,pK,pL,rfl,fr,rS,HO,IJ,hbq⟩;revert aC;refine ba<|aX<|fE ((bj:Int)≥0) (fun c74=> ?_) (fun c74=> ?_);refine bP<|cr 3<|aI ?_;obtain⟨wF,j1,x,rfl,hjg,hx,R6,hr⟩:=hbq.resolve_left (fun h=>by have:=h.1;omega);have Ay:bj<f.bh.length:=by have:=(List.getElem?_eq_some_iff.1 hx).1;omega
 have xG:=hA.xfn AJ;have hbl2:=bK f.bh;refine ah 2<|ay<|aI<|ah 2<|bt (ao Lq 4) _ (ae (rS.get 4 rfl) rfl)<|ah 1 ?_;obtain⟨Qf6,QaN⟩:=ek (rS.ro xG.bs) (fH hx);intro aC fr;refine bT (some 98) f.A Qf6 ((aq f.bh).length) 6 bj fr kR QaN oM oM<|ga (aN Qf6 (bj) 6) (xV x) (dy (rS.ro xG.bs) QaN hx)<|ah 1<|di (S0 X zj pK pL w70 hX IJ f AJ bj.toNat x hx vj zU f.va.toNat HO hm (Mem.cD (l:=dR X zj pK pL++[.row 2 1 (sM zU) f.va.toNat f.va.toNat (ints vj)]) rS) (hA.rI (l:=dR X zj pK pL++[.row 2 1 (sM zU) f.va.toNat f.va.toNat (ints vj)]) rS) j1 (ih j1 hjg) R6) ?_;rintro _ w90 ⟨ry,Qc6,JA,Lt,Ek,El,rfl,Lu,Em,Qf7,Qf8,YG,Qi2⟩;have zA:=bd [oN X Lt Ek El,mZ X Lt,mM Lt Ek El,.row 2 1 (sM zU) f.va.toNat f.va.toNat (ints JA),.aB Lq 30 [vT f.nm,vB f.wk,vI f.pa,vI f.va,vS f.A ((aq f.bh).length) f.c]] (rS.rH Qi2);refine ah 5<|ay<|aX<|fE ((ry:Int)≥0) (fun c92=> ?_) (fun c92=> ?_);have Na:Lt.ov=false:=by
                    cases hv_:Lt.ov with
                    |false=>rfl
                    |true=>have:=Qf7 hv_;omega
 obtain⟨Di,KD⟩:=Sq hW wF hx (YG.got Na).2 oM;obtain⟨x2,Df⟩:=aM (l:=f.bh) (i:=ry.toNat) oM;obtain⟨q,hq⟩:=aM (l:=f.bG) (i:=ry.toNat) (by have:=hW.Qfc;omega);have U7:=hW.Qfc;obtain⟨Qc7,QaO⟩:=ek (zA.ro xG.bs) (fH Df);obtain⟨Qc8,QaP⟩:=rd_some (zA.ro hA.xq) (by rw[QlO];omega);obtain⟨eJ,QaQ⟩:=rd_some (zA.ro (hA.xsv AJ)) (by unfold QT;rw[QlO];omega);refine da [0,1,7,8,10,11,12] ?_;intro aC fr;refine wB 18 (bo [eR Lq 4,eS f.A ((aq f.bh).length) f.c,eI ry,eA Qc7 (ry) 6,.aU (xA x2),eR X.r 0,eR X.r 0,eP (ao X.r 14),eS X.qA X.E.sQ.length X.qc,eI n,eI (n-1),eA Qc8 (n-1) 1,eS f.qA f.bG.length f.qc,eI ry,eA eJ (ry) 1,eS q.1 q.2.2.length q.2.1,eI bj,eS (sM zU) f.va.toNat f.va.toNat]) fr (la (sv (dT lz dP (dL (ao Lq 4) _ fun w_ hK=>(ae ((zA.aw hK).get 4 rfl) rfl)) dP (Hw f.A Qc7 ((aq f.bh).length) 6 ry QaO) (dS (aN Qc7 (ry) 6) (xV x2) fun w_ hK=>(dy ((zA.aw hK).ro xG.bs) QaO Df)) dP dP dP (dL (ao X.r 14) _ fun w_ hK=>(ae ((zA.aw hK).get 0 rfl) rfl)) dP (dA (n-1)) (Hw (h0:=oM) (h1:=oM) X.qA Qc8 X.E.sQ.length 1 (n-1) QaP)) (dL (aN Qc8 (n-1) 1) _ fun w_ hK=>(bJ ((zA.aw hK).ro hA.xq) QaP (gm hf))) dP (Hw (h0:=oM) (h1:=oM) f.qA eJ f.bG.length 1 ry QaQ) (dL (aN eJ (ry) 1) _ fun w_ hK=>(bJ ((zA.aw hK).ro (hA.xsv AJ)) QaQ (by unfold QT;rw[List.getElem?_map,hq];rfl))) dP) dP) ?_;intro aC QfF vs hK hv fr;revert aC;refine bX [(0,pT X.r 0),(1,vI n),(7,pT Lq 0),(8,vS (sM zU) f.va.toNat f.va.toNat),(10,vI ry),(11,vI Qc6),(110,xA x2),(121,vS q.1 q.2.2.length q.2.1),(122,vI bj),(123,vS (sM zU) f.va.toNat f.va.toNat)] ?_;have SG:=zA.aw hK;clear hK hv fr aC zA;clear vs;refine di (Yz X Lt Ek El QfF hX Lu f AJ ry.toNat x2 Df JA zU f.va.toNat Em hm (Mem.cD (l:=dR X Lt Ek El++[.row 2 1 (sM zU) f.va.toNat f.va.toNat (ints JA)]) SG) (hA.rI (l:=dR X Lt Ek El++[.row 2 1 (sM zU) f.va.toNat f.va.toNat (ints JA)]) SG) q hq bj (.inr KD)) ?_;rintro _ YH ⟨rfl,Qf9⟩;have qD:=bd [oN X Lt Ek El,mZ X Lt,mM Lt Ek El,.row 2 1 (sM zU) f.va.toNat f.va.toNat (ints (gr x2.au (eG q.2.2 bj) JA)),.aB Lq 30 [vT f.nm,vB f.wk,vI f.pa,vI f.va,vS f.A ((aq f.bh).length) f.c]] (SG.rH Qf9);exact ay fun aC fr=>⟨j1,oM,j1,ry,Qc6,(gr x2.au (eG q.2.2 bj) JA),Lt,Ek,El,rfl,fr.kp [0,1,7,8,10,11],qD,(yA _ _).trans Em,Lu,vZ.next hW G9 wF hx hr YG Qf8 Lu.s2 hjg Na oM Df (et.QU hq)⟩
 have jU:ry= -1:=by
                    cases hv_:Lt.ov with
                    |true=>exact Qf7 hv_
                    |false=>exact(CB (YG.got hv_).2).resolve_right (fun h_=>by have:=QcA (hW.aB _ _ hx).ends h_;omega)
 exact bP fun aC fr=>⟨0,oM,0,ry,Qc6,JA,Lt,Ek,El,rfl,fr.kp [0,1,7,8,10,11],zA,Em,Lu,vZ.done hr YG Qf8 jU⟩
 refine eW 2<|eX<|aI ?_;obtain⟨_,_,Sz,hr⟩:=hbq.resolve_right (fun h=>by have:=h.1;omega);refine ah 4<|bt (ao X.r 12) _ (ae (rS.get 0 rfl) rfl)<|Hx .i64 (IntKind.i64.wrap (zj.s.opened-1)) 1<|ah 3<|pC (ho:=sI) rS 0 12 (vI (IntKind.i64.wrap (zj.s.opened-1))) rfl fun Qe8 DF=> ?_
 replace DF:=DF.nf;refine ay<|aX<|bL<|cv (vI aj) ?_;exact⟨aj,{zj with s:={zj.s with opened:=IntKind.i64.wrap (zj.s.opened-1)}},pK,pL,rfl,IJ.toO,Sn hr Sz,DF.tk 3⟩;have qV:(((n:Int)<1)∨((n:Int)>(X.E.sQ.length:Int))):=YE.1 rfl;revert aC;refine ah 7<|ay<|fm<|aI<|ah 3<|di (kh X z oA oc w hX hG (Mem.cD (l:=dR X z oA oc) hM) 5 0) ?_;rintro _ w113 ⟨rfl,QaR⟩;have JB:=bd [oN X (z.fin 5 0) oA oc,mZ X (z.fin 5 0),mM (z.fin 5 0) oA oc] (hM.rH QaR);clear QaR hM;refine ay<|aX<|bL<|cv (vI 0) ?_;exact⟨0,(z.fin 5 0),oA,oc,rfl,hG.fin,ey.fin (K:=dN X.E.toEnv0 g n l) rfl (fun _=>Qlh dp.no (lk oM)),JB⟩
theorem N2(X:RX)(hX:X.WF)(g:Nat):Le Tryz.prog X 89 (dN X.E.toEnv0 g) (g:Int):=by
 induction g using Nat.strongRecOn with
 |_ g ih=>exact fun n l bA bc z oA oc w hG hZ hR hA hl hlen=>YD X z oA oc w hX hG hR hA g ih n l bA bc hZ hl hlen
end Go.Proofs.YtejbeeaomokjpaaGreat
namespace Go.Mor
open Go.RowKit
section
variable {β : Type} {g : cF → List β} {key : β → ByteArray × Bool} {ms : List cF} {nm : ByteArray} {i p q p2 q2 k : Nat} {a b : Int} {m m2 : cF} {x x2 : β}
abbrev zB(g:cF→List β)(key:β→aV×Bool)(ms:List cF):NW:=(ms.flatMap g).map key
end
end Go.Mor
namespace Go.Proofs.YtejbeeaomokjpaaGreat
open Go.Mor
end Go.Proofs.YtejbeeaomokjpaaGreat
namespace Go.Mor
def CI(i:bl)(lo mo:Int)(bn bm:Bool):Prop:=(aK i.op∨i.dst= -1)∧(bn=true∧(bm=true↔i.name.size≠0)∧(bm=true→bB i.name)∧lo≤(i.args.length:Int)∧(i.args.length:Int)≤mo)
section
variable {i : bl} {lo mo : Int} {bn bm : Bool} {N : Prop}
theorem lY(hn:bn=true↔N):CI i lo mo bn false↔((aK i.op∨i.dst= -1)∧N∧i.name.size=0∧lo≤(i.args.length:Int)∧(i.args.length:Int)≤mo):=by
 unfold CI;rw[hn];simp only[Qpp,false_iff,QoR,Decidable.not_not,false_implies,QoO]
theorem LA(hn:bn=true↔N):CI i lo mo bn true↔((aK i.op∨i.dst= -1)∧N∧bB i.name∧lo≤(i.args.length:Int)∧(i.args.length:Int)≤mo):=by
 unfold CI;rw[hn];simp only[true_iff,QoR,true_implies];constructor
 ·rintro⟨h1,h2,h3,h4,h5⟩;exact⟨h1,h2,h4,h5⟩
 ·rintro⟨h1,h2,h3,h4⟩;exact⟨h1,h2,by unfold bB at h3;omega,h3,h4⟩
theorem JF{x:Bool}(hx:(x=true)=(i.name.size=0))(hs:bQ i↔CI i lo mo bn bm)(hc:¬(¬aK i.op∧i.dst≠-1)):(((((bn=true)∧(bm=(!x)))∧((¬(bm=true))∨(bB i.name)))∧((i.args.length:Int)≥lo))∧((i.args.length:Int)≤mo))↔bQ i:=by
 rw[hs];have ta:aK i.op∨i.dst= -1:=by
  by_cases h:aK i.op
  ·exact .inl h
  ·exact .inr (QoD.1 (fun e=>hc ⟨h,e⟩))
 cases bm with
 |false=>
  rw[lY QoN,←hx];cases x
  ·simp
  ·simp only[QpS,Qpp,QoY,Qo6,QoX,QoO,ta];constructor
   ·rintro⟨⟨h1,h2⟩,h3⟩;exact⟨h1,h2,h3⟩
   ·rintro⟨h1,h2,h3⟩;exact⟨⟨h1,h2⟩,h3⟩
 |true=>
  rw[LA QoN];have dt:bB i.name→x=false:=by intro h;rw[Qoy];intro e;rw[hx]at e;unfold bB at h;omega
  constructor
  ·rintro⟨⟨⟨⟨h1,h2⟩,h3⟩,h4⟩,h5⟩;rcases h3 with h3|h3
   ·exact absurd rfl h3
   ·exact⟨ta,h1,h3,h4,h5⟩
  ·rintro⟨_,h1,h3,h4,h5⟩;exact⟨⟨⟨⟨h1,by rw[dt h3];rfl⟩,.inr h3⟩,h4⟩,h5⟩
theorem N9(hc:¬aK i.op∧i.dst≠-1):¬bQ i:=fun h=>h.1.elim hc.1 hc.2
theorem Qjb:(true=true)↔True:=sI
theorem Qdf:(false=true)↔False:=sI
end
end Go.Mor
