/-
  Texts of the proof, part 13.
-/
import Derived.Test.YtejbeeaomokjpaaGreatZm12
import Derived.Scope
set_option maxRecDepth 10000
namespace Go.Mor
open Go.RowKit
end Go.Mor
namespace Go.Mor
open Go.RowKit
theorem kH(l:af)(k:Nat)(v:Int):(ints l).set (k*1) (vI v)=ints (l.set k v):=by rw[Nat.mul_one];simp[ints,List.map_set]
end Go.Mor
namespace Go.Mor
open Go.RowKit
end Go.Mor
namespace Go.Mor
open Go.RowKit
section
variable {P : Program} {c : Code} {Q : Exit → Act → World → Prop} {N : FN} {i : Nat} {env0 : Env} {wr : World} {sp : Nat → Spec}
theorem Gf{B b:Bool}(hb:B=b)(hv:sp i= .aU (vB B):=by rfl)(h:∀vs,p1E P c N i (bW c i sp vs env0)=some (vB b):=by intro _;kernel_rfl):jc P c Q N env0 wr sp i:=by
 subst hb;exact dP (fun vs=>(h vs).trans (by rw[hv];rfl)) (by rw[hv];rfl)
end
theorem M0{P:Program}{t e:TypeId}(ht:P.underlying t=some (.slice e))(A:ar)(n c:Nat)(w:World):(binOp .eql t (vS A n c) an).run P w= .ok (vB A.isNone) w:=by
 show((do pure (vB (←Op.equal t (vS A n c) an)):Sem Value)).run P w=_;unfold Op.equal Op.maxDepth Op.equalIn;cases A<;>simp[run_underlying ht]
section
variable {P : Program} {c : Code} {K : Act → World → Prop} {Q : Exit → Act → World → Prop} {w : World} {k : Nat} {N : FN} {env : Env}
theorem Qil(t:TypeId){e:TypeId}(A:ar)(n cp:Nat)(ht:P.underlying t=some (.slice e))(h:∀a,Fr a N (dq env (bp c k) (vB A.isNone))→bz P c K Q (k+1) a w)(hk:bnE c N env k=some (bp c k,.eql,t,.slice A n cp,an):=by kernel_rfl):∀a,Fr a N env→bz P c K Q k a w:=fun a hF=>by
 generalize bp c k=d at h hk;unfold bnE at hk;split at hk
 ·rename_i g0;split at hk
  ·rename_i g1 g2 g3 g4;simp only[Option.some.injEq,Prod.mk.injEq]at hk;obtain⟨e1,e2,e3,e4,e5⟩:=hk;refine eC g0 hF g1 (by rw[e1]at g2;exact e1▸g2) rfl (fun o ho=> ?_) (by rw[e1];exact fun a' _=>h a');unfold execOp;rw[ho,e2,e3];have hq:∀x y,(eqGuard .eql t x y (vS A n cp) an).run P w= .ok () w:=by intro x y;simp[eqGuard]
   simp only[hF.ev g3,hF.ev g4,e4,e5,Sem.run_bind,hq,M0 ht,Result.andThen_ok];rfl
  ·cases hk
 ·cases hk
end
end Go.Mor
namespace Go.Mor
open Go.RowKit
def Qim(l:List uA):Nat:=(l.map (fun f=>Xe f.body)).sum
def nF(l:List bE):Nat:=(l.map (fun d=>d.words.length)).sum
theorem Na{l:List bE}{j:Nat}{d:bE}(h:l[j]?=some d):nF (l.take (j+1))=nF (l.take j)+d.words.length:=by
 unfold nF;rw[kQ,h];simp
theorem Xg(l:List bE)(j:Nat):nF (l.take j)≤nF l:=by
 have e:nF (l.take j)+nF (l.drop j)=nF l:=by unfold nF;rw[←List.sum_append,←List.map_append,List.take_append_drop]
 omega
def I6(m:cF):Prop:=20000<Qim m.fns∨16384<nF m.cf
instance (m : cF) : Decidable (I6 m) := by unfold I6; infer_instance
def Qal(l:List uA)(j:Nat):Prop:=∀(i:Nat) (f:uA),i<j→l[i]?=some f→fnV f=true∧f.nm∉(l.take i).map (·.nm)
def Rr(l:List bE)(j:Nat):Prop:=∀(i:Nat) (d:bE),i<j→l[i]?=some d→kT d∧d.nm∉(l.take i).map (·.nm)
noncomputable instance (l : List uA) (j : Nat) : Decidable (Qal l j) := Classical.propDecidable _
noncomputable instance (l : List bE) (j : Nat) : Decidable (Rr l j) := Classical.propDecidable _
noncomputable def Qcg(m:cF):Int:=if I6 m then 12 else if Qal m.fns m.fns.length∧Rr m.cf m.cf.length then 0 else 4
def y3(d:bE)(j:Nat):Prop:=∀(i:Nat) (r:Int×aV),i<j→d.refs[i]?=some r→bB r.2∧(0≤r.1∧r.1<(d.words.length:Int))∧r.1∉(d.refs.take i).map (·.1)
theorem Gg(d:bE):y3 d 0:=fun _ _ h=>absurd h (Nat.not_lt_zero _)
theorem Gh{d:bE}{j:Nat}{r:Int×aV}(h:y3 d j)(hr:d.refs[j]?=some r)(h1:bB r.2∧(0≤r.1∧r.1<(d.words.length:Int))∧r.1∉(d.refs.take j).map (·.1)):y3 d (j+1):=fun i g hi hg=>by
 by_cases e:i=j
 ·subst e;rw[hr]at hg;injection hg with hg;subst hg;exact h1
 ·exact h i g oM hg
theorem Rs{d:bE}:kT d↔y3 d d.refs.length∧bB d.nm:=by
 constructor
 ·rintro⟨h1,h2⟩;exact⟨fun i r _ hr=>h1 i r hr,h2⟩
 ·rintro⟨h1,h2⟩;exact⟨fun i r hr=>h1 i r (List.getElem?_eq_some_iff.1 hr).1 hr,h2⟩
theorem DX{l:List bE}{d:bE}(h:d∈l):d.words.length≤nF l:=by
 unfold nF;induction l with
 |nil=>cases h
 |cons x r ih=>
  simp only[List.map_cons,List.sum_cons];rcases List.mem_cons.1 h with rfl|h
  ·omega
  ·have:=ih h;omega
end Go.Mor
namespace Go.Mor
open Go.RowKit
end Go.Mor
namespace Go.Mor
open Go.RowKit
def Qin(ms:List cF)(mem:Int)(inp:af)(j:Nat):Prop:=(mem<1∨mem>262144∨(inp.length:Int)>4096)∨∃(i:Nat) (m:cF),i<j∧ms[i]?=some m∧Qcg m≠0
noncomputable instance (ms : List cF) (mem : Int) (inp : List Int) (j : Nat) : Decidable (Qin ms mem inp j) := Classical.propDecidable _
theorem Cl{l:af}{N:Nat}(hn:l.Nodup)(hr:∀x,x∈l→0≤x∧x<(N:Int)):l.length≤N:=by
 have h:=List.Nodup.length_le_of_subset hn (l₂:=(List.range N).map (fun i:Nat=>(i:Int))) (fun x hx=>by obtain⟨h1,h2⟩:=hr x hx;exact List.mem_map.2 ⟨x.toNat,List.mem_range.2 oM,oM⟩)
 simpa using h
theorem Xh{d:bE}(hq:kT d)(hl:d.words.length≤16384):d.WF:=by
 have hn:(d.refs.map (·.1)).Nodup:=by
  refine List.pairwise_iff_getElem.2 fun i j hi hj LY he=> ?_
  have E1:j<d.refs.length:=by simpa using hj
  obtain⟨r,hr⟩:=aM (l:=d.refs) (i:=j) E1;obtain⟨r',hr'⟩:=aM (l:=d.refs) (i:=i) oM;simp only[List.getElem_map]at he;have Wv:r'.1=r.1:=by rw[(List.getElem?_eq_some_iff.1 hr).2.symm,(List.getElem?_eq_some_iff.1 hr').2.symm];exact he
  have:=(hq.1 j r hr).2.2;apply this;rw[←Wv];refine List.mem_map.2 ⟨r',?_,rfl⟩;exact List.mem_iff_getElem?.2 ⟨i,by rw[List.getElem?_take_of_lt LY];exact hr'⟩
 have hr:∀x,x∈d.refs.map (·.1)→0≤x∧x<(d.words.length:Int):=fun x hx=>by obtain⟨r,hr,rfl⟩:=List.mem_map.1 hx;obtain⟨i,hi⟩:=List.mem_iff_getElem?.1 hr;exact(hq.1 i r hi).2.1
 refine⟨hq.2,hl,?_,fun r hr=> ?_⟩
 ·have:=Cl hn hr;rw[List.length_map]at this;omega
 ·obtain⟨i,hi⟩:=List.mem_iff_getElem?.1 hr;exact(hq.1 i r hi).2.1
end Go.Mor
namespace Go.Mor
open Go.RowKit
def et.can(f:et):et:={f with qA:=none,qc:=0,bG:=f.bG.map (fun q=>(none,0,q.2.2))}
def jM(x:cX):et:=⟨x.nm,x.wk,x.pa,x.va,x.A,x.c,x.bh,none,0,(tI (aq x.bh)).map (fun l=>(none,0,l))⟩
theorem DY(f:et)(k:Nat):f.can.src k=f.src k:=by
 unfold et.src et.can;simp only[List.getD_eq_getElem?_getD,List.getElem?_map];cases f.bG[k]?<;>rfl
section
variable {E : Env0} {call : Int → List Int → cQ → dp Int}
def Env0.can(E:Env0):Env0:={E with fns:=E.fns.map et.can}
theorem Cm:∀(is:List bl) (v:af) (s:cQ),cS E.can call is v s=cS E call is v s
 |[],_,_=>rfl
 |i::r,v,s=>by show((cT E s).bind fun _ s=>(bV E call i (eo v i.args) s).bind fun u s=>cS E.can call r (if 0≤i.dst∧aK i.op then v.set i.dst.toNat u else v) s)=((cT E s).bind fun _ s=>(bV E call i (eo v i.args) s).bind fun u s=>cS E call r (if 0≤i.dst∧aK i.op then v.set i.dst.toNat u else v) s);congr 1;funext _ s;congr 1;funext u s;exact Cm r _ s
theorem Nb(f:et)(k from_:Int)(v:af)(s:cQ):fi E.can call f.can k from_ v s=fi E call f k from_ v s:=by
 unfold fi;rw[show f.can.bh=f.bh from rfl];cases f.bh[k.toNat]? with
 |none=>rfl
 |some x=>
  show(cS E.can call x.insts (gr x.au (eG (f.can.src k.toNat) from_) v) s).bind _=(cS E call x.insts (gr x.au (eG (f.src k.toNat) from_) v) s).bind _;rw[Cm,DY];rfl
theorem Cn{b b':et→Int→Int→af→cQ→dp Int}(h:∀f k fr v s,b' f.can k fr v s=b f k fr v s)(n:Int)(l:af)(s:cQ):fF E.can b' n l s=fF E b n l s:=by
 have hlen:E.can.fns.length=E.fns.length:=by show(E.fns.map et.can).length=_;simp
 by_cases hr:n<1∨n≥(E.fns.length:Int)+1
 ·rw[lk hr,lk (by rw[hlen];exact hr)]
 obtain⟨f,hf⟩:=aM (l:=E.fns) (i:=(n-1).toNat) oM;have hf':E.can.fns[(n-1).toNat]?=some f.can:=by show(E.fns.map et.can)[(n-1).toNat]?=_;rw[List.getElem?_map,hf];rfl
 rw[ql hr hf,ql (by rw[hlen];exact hr) hf',h];rfl
theorem y4:∀(g:Nat) (f:et) (k fr:Int) (v:af) (s:cQ),iW E.can g f.can k fr v s=iW E g f k fr v s
 |0,_,_,_,_,_=>rfl
 |g+1,f,k,fr,v,s=>by
  have hc:cc E.can g=cc E g:=by funext n l s;exact Cn (y4 g) n l s
  rw[lb,lb,hc,Nb];congr 1;funext r s;rw[y4 g]
theorem Rt(g:Nat)(n:Int)(l:af)(s:cQ):cc E.can g n l s=cc E g n l s:=Cn (y4 g) n l s
theorem Gi(g:Nat):∀(l:List aV) (s:cQ),gW E.can g l s=gW E g l s
 |[],_=>rfl
 |b::r,s=>by
  show(match fh E.names b with|none=>dp.stop 5 0 s|some n=>(cc E.can g n [] s).bind fun _ s=>gW E.can g r s)=(match fh E.names b with|none=> .stop 5 0 s|some n=>(cc E g n [] s).bind fun _ s=>gW E g r s);cases fh E.names b with
  |none=>rfl
  |some n=>
   show(cc E.can g n [] s).bind _=(cc E g n [] s).bind _;rw[Rt];congr 1;funext _ s;exact Gi g r s
theorem Xi(cs:List bE)(l:List aV):ld E.can cs l=ld E cs l:=by
 unfold ld;rw[Gi];rfl
end
def iI(cs:List cX)(j:Nat):List (aV×Int):=(cs.take j).zipIdx.map (fun p=>(p.1.nm,((p.2+1:Nat):Int)))
def jl(fs:List cX)(ds:List bE)(mem:Int)(inp:af)(fuel:Int):Env0:=⟨(fB fs).map jM,iI (fB fs) (fB fs).length,cP (aF ds) (aF ds).length,inp,mem.toNat,min (max fuel 0) 4194304⟩
def Qch{α:Type}(B:Prop)(Q:α→Prop)(l:List α)(j:Nat):Prop:=B∨∃(i:Nat) (x:α),i<j∧l[i]?=some x∧Q x
section
variable {α : Type} {B : Prop} {Q : α → Prop} {l : List α} {j : Nat} {x : α} {b : Bool}
theorem y5(h:¬Qch B Q l l.length):¬B∧∀x,x∈l→¬Q x:=⟨fun hb=>h (.inl hb),fun x hx hq=>by
 obtain⟨i,hi⟩:=List.mem_iff_getElem?.1 hx;exact h (.inr ⟨i,x,(List.getElem?_eq_some_iff.1 hi).1,hi,hq⟩)⟩
end
def Ru(mem:Int)(inp:af):Prop:=mem<1∨mem>262144∨(inp.length:Int)>4096
def Qfq(ds:List bE)(mem:Int)(inp:af)(j:Nat):Prop:=Qch (Ru mem inp) (fun d=>¬kT d) ds j
def DZ(fs:List cX)(ds:List bE)(mem:Int)(inp:af)(j:Nat):Prop:=Qch (Qfq ds mem inp ds.length) (fun f:cX=>¬cC f.nm f.pa f.va f.bh=0) fs j
noncomputable instance (fs : List cX) (ds : List bE) (mem : Int) (inp : List Int) (j : Nat) : Decidable (DZ fs ds mem inp j) := Classical.propDecidable _
theorem lU{fs:List cX}{ds:List bE}{mem:Int}{inp:af}(h:¬DZ fs ds mem inp fs.length):(1≤mem∧mem≤262144∧inp.length≤4096)∧(∀d,d∈ds→kT d)∧∀f,f∈fs→cC f.nm f.pa f.va f.bh=0:=by
 obtain⟨h1,h2⟩:=y5 h;obtain⟨h3,h4⟩:=y5 h1;unfold Ru at h3;exact⟨oM,fun d hd=>Classical.not_not.1 (h4 d hd),fun f hf=>Classical.not_not.1 (h2 f hf)⟩
noncomputable def gR(fs:List cX)(ds:List bE)(bg:List aV)(mem:Int)(inp:af)(fuel:Int):Out:=if DZ fs ds mem inp fs.length then(5,0,[],0)else kD (ld (jl fs ds mem inp fuel) (aF ds) bg)
theorem Qci{f:et}{x:cX}(h:f.can=jM x)(iq:pz x.bh)(hn:x.bh.length≤1000)(hv:cC x.nm x.pa x.va x.bh=0):f.WF:=by
 have e:∀k,f.src k=(jM x).src k:=fun k=>by rw[←DY f,h]
 have hb:f.bh=x.bh:=congrArg et.bh h;have h1:f.nm=x.nm:=congrArg et.nm h;have h2:f.pa=x.pa:=congrArg et.pa h;have h3:f.va=x.va:=congrArg et.va h;have h4:f.bG.length=x.bh.length:=by have:=congrArg (fun g:et=>g.bG.length) h;simp only[et.can,jM,List.length_map,yu,bK]at this;exact this
 refine Qfm (by rw[hb];exact iq) (by rw[hb];exact hn) (by rw[h1,h2,h3,hb];exact hv) ⟨by rw[h4,hb],fun k hk=> ?_⟩;rw[hb]at hk⊢;rw[e];unfold et.src jM;simp only[List.getD_eq_getElem?_getD,List.getElem?_map];rw[lK (by rw[bK];exact hk)];rfl
theorem Nc{f:et}{x:cX}(h:f.can=jM x):f.cells=x.cells:=by
 have:f.can.cells=(jM x).cells:=by rw[h]
 exact this
theorem D0{qs:List et}{cs:List cX}(h:qs.map et.can=cs.map jM){f:et}(hf:f∈qs):∃x,x∈cs∧f.can=jM x:=by
 have this:f.can∈qs.map et.can:=List.mem_map.2 ⟨f,hf,rfl⟩;rw[h]at this;obtain⟨x,hx,he⟩:=List.mem_map.1 this;exact⟨x,hx,he.symm⟩
theorem Gj{S:Nat→Prop}{w:World}:RO S w (.cf none []):=RO.all (fun r hr=>by
 simp only[List.flatMap_nil,List.map_nil,List.mem_cons,List.not_mem_nil,or_false]at hr;subst hr;exact⟨fun i cs hi=>by simp at hi,fun g hg=>by obtain⟨⟨i,cs,hi,_⟩,_⟩:=hg;simp at hi⟩)
def DIn(d:bE):Prop:=dJ d.nm.size∧dJ d.words.length∧dJ d.refs.length∧∀r,r∈d.refs→In64 r.1∧dJ r.2.size
structure nG(w:World)(fs:List cX)(fA:ar)(ds:List bE)(dA:ar)(bg:List aV)(gA:ar)(inp:af)(iA:ar)(ic:Nat):Prop where
 len:fs.length≤1000
 cells:RO bq w (.l7 fA 5 (fs.map cX.cells))
 ok:∀x,x∈fs→pz x.bh∧x.bh.length≤1000
 fn:∀x,x∈fs→RO bq w (.fn x.A x.bh)
 Rv:bg.length≤1000000
 bg:RO bq w (.rd gA (bg.map Value.string))
 Rw:inp.length≤ic
 inr:RO bq w (.rd iA (qW inp))
 bytes:∀b,b∈inp→0≤b∧b≤255
 Gk:ds.length≤1000
 cf:RO bq w (.cf dA ds)
 din:∀d,d∈ds→DIn d
 Nd:nF ds≤16384
 dwi:∀d,d∈ds→∀x,x∈d.words→In64 x
theorem Rx{w:World}{fs:List cX}{ds:List bE}{fA dA gA iA:ar}{bg:List aV}{inp:af}{ic:Nat}{mem:Int}(hI:nG w fs fA ds dA bg gA inp iA ic)(hb:¬DZ fs ds mem inp fs.length):∀d,d∈ds→d.WF:=fun d hd=>Xh ((lU hb).2.1 d hd) (Nat.le_trans (DX hd) hI.Nd)
theorem D1{fs:List cX}{ds:List bE}{bg:List aV}{mem:Int}{inp:af}{fuel:Int}(hb:DZ fs ds mem inp fs.length):gR fs ds bg mem inp fuel=(5,0,[],0):=by
 unfold gR;rw[if_pos hb]
end Go.Mor
namespace Go.Mor
open Go.RowKit
structure ru(D:List aE→List aE→Prop)(fs gs:List cX):Prop where
 len:gs.length=fs.length
 at_:∀(i:Nat) (f g:cX),fs[i]?=some f→gs[i]?=some g→g.nm=f.nm∧g.wk=f.wk∧g.pa=f.pa∧g.va=f.va∧D f.bh g.bh
section
variable {D : List aE → List aE → Prop} {fs gs : List cX}
theorem ru.nil:ru D [] []:=⟨rfl,fun i f g h=>by cases h⟩
theorem ru.snoc(h:ru D fs gs){f g:cX}(h1:g.nm=f.nm)(h2:g.wk=f.wk)(h3:g.pa=f.pa)(h4:g.va=f.va)(h5:D f.bh g.bh):ru D (fs++[f]) (gs++[g]):=by
 refine⟨by rw[List.length_append,List.length_append,h.len];rfl,fun i a b ha hb=> ?_⟩;rw[List.getElem?_append]at ha hb;rw[h.len]at hb;by_cases e:i<fs.length
 ·rw[if_pos e]at ha hb;exact h.at_ i a b ha hb
 ·rw[if_neg e]at ha hb;have h9:=(List.getElem?_eq_some_iff.1 ha).1;have e9:i-fs.length=0:=by simp at h9;omega
  rw[e9]at ha hb;injection ha with ha;injection hb with hb;subst ha hb;exact⟨h1,h2,h3,h4,h5⟩
theorem ru.map{α:Type}(h:ru D fs gs){u:cX→α}(hu:∀(i:Nat) (f g:cX),fs[i]?=some f→gs[i]?=some g→u g=u f):gs.map u=fs.map u:=by
 refine List.ext_getElem? fun i=> ?_
 rw[List.getElem?_map,List.getElem?_map];by_cases hi:i<fs.length
 ·obtain⟨f,hf⟩:=aM hi;obtain⟨g,hg⟩:=aM (l:=gs) (i:=i) (by rw[h.len];exact hi);rw[hf,hg,Option.map_some,Option.map_some,hu i f g hf hg]
 ·rw[List.getElem?_eq_none (by rw[h.len];omega),List.getElem?_eq_none oM]
theorem ru.pick(h:ru D fs gs):∀(L:List Nat),(∀k,k∈L→k<fs.length)→ru D (L.filterMap (fun k=>fs[k]?)) (L.filterMap (fun k=>gs[k]?))
 |[],_=> .nil
 |k::L,hL=>by
  have ih:=h.pick L fun q hq=>hL q (List.mem_cons_of_mem _ hq)
  obtain⟨f,hf⟩:=aM (hL k (List.mem_cons_self ..));obtain⟨g,hg⟩:=aM (l:=gs) (i:=k) (by rw[h.len];exact hL k (List.mem_cons_self ..));rw[List.filterMap_cons,List.filterMap_cons,hf,hg];refine⟨by show(_::_).length=(_::_).length;rw[List.length_cons,List.length_cons,ih.len],fun i a b ha hb=> ?_⟩;cases i with
  |zero=>
   injection ha with ha;injection hb with hb;subst ha hb;exact h.at_ k f g hf hg
  |succ i=>exact ih.at_ i a b ha hb
theorem ru.Qcj(h:ru D fs gs):ru D (fB fs) (fB gs):=by
 unfold fB bF;rw[h.map (u:=fun f=>(f.nm,f.wk)) (fun i f g hf hg=>by obtain⟨h1,h2,_⟩:=h.at_ i f g hf hg;rw[h1,h2]),h.len];exact h.pick _ fun k hk=>List.mem_range.1 (List.mem_filter.1 hk).1
theorem Nf(h:ru D fs gs):iI gs gs.length=iI fs fs.length:=by
 unfold iI;rw[List.take_of_length_le (Nat.le_refl _),List.take_of_length_le (Nat.le_refl _)];refine List.ext_getElem? fun i=> ?_
 rw[List.getElem?_map,List.getElem?_map,List.getElem?_zipIdx,List.getElem?_zipIdx];by_cases hi:i<fs.length
 ·obtain⟨f,hf⟩:=aM hi;obtain⟨g,hg⟩:=aM (l:=gs) (i:=i) (by rw[h.len];exact hi);rw[hf,hg];show some (g.nm,_)=some (f.nm,_);rw[(h.at_ i f g hf hg).1]
 ·rw[List.getElem?_eq_none (by rw[h.len];omega),List.getElem?_eq_none oM]
theorem Gl{x:cX}{k:Nat}(hk:k<x.bh.length):(jM x).src k=bG (aq x.bh) (k:Int):=by
 unfold et.src jM;simp only[List.getD_eq_getElem?_getD,List.getElem?_map];rw[lK (by rw[bK];exact hk)];rfl
theorem Ng{ds:List bE}{bg:List aV}{mem:Int}{inp:af}{fuel:Int}(h:ru D fs gs)(hv:∀g,g∈gs→cC g.nm g.pa g.va g.bh=0)(hS:∀(E E':Env0) (f g:cX),rP E E'→f∈fs→g.nm=f.nm→g.pa=f.pa→g.va=f.va→D f.bh g.bh→∃Inv,FQ E E' (jM f) (jM g) Inv)(hk:(gR fs ds bg mem inp fuel).1=1∨(gR fs ds bg mem inp fuel).1=2):(gR gs ds bg mem inp (gR fs ds bg mem inp fuel).2.2.2).1=(gR fs ds bg mem inp fuel).1∧(gR gs ds bg mem inp (gR fs ds bg mem inp fuel).2.2.2).2.1=(gR fs ds bg mem inp fuel).2.1∧(gR gs ds bg mem inp (gR fs ds bg mem inp fuel).2.2.2).2.2.1=(gR fs ds bg mem inp fuel).2.2.1:=by
 have hbf:¬DZ fs ds mem inp fs.length:=fun hb=>by rw[D1 hb]at hk;rcases hk with hk|hk<;>exact absurd hk (by show¬(5:Int)=_;omega)
 obtain⟨b1,b2,b3⟩:=lU hbf;have hbg:¬DZ gs ds mem inp gs.length:=by
  rintro(hb|⟨i,x,_,hx,hb⟩)
  ·rcases hb with hb|⟨i,x,_,hx,hb⟩
   ·unfold Ru at hb;omega
   ·exact hb (b2 x (List.mem_of_getElem? hx))
  ·exact hb (hv x (List.mem_of_getElem? hx))
 have e1:gR fs ds bg mem inp fuel=kD (ld (jl fs ds mem inp fuel) (aF ds) bg):=by unfold gR;rw[if_neg hbf]
 have e2:∀m,gR gs ds bg mem inp m=kD (ld (jl gs ds mem inp m) (aF ds) bg):=fun m=>by unfold gR;rw[if_neg hbg]
 have hle:=Qb4 (E:=jl fs ds mem inp fuel) (by show 0≤min (max fuel 0) 4194304;omega) (aF ds) bg;have hf4:(jl fs ds mem inp fuel).fuel≤4194304:=by show min (max fuel 0) 4194304≤_;omega
 have I7:=h.Qcj;have hE:∀m,rP (jl fs ds mem inp fuel) (jl gs ds mem inp m):=fun m=>⟨Nf I7,rfl,rfl,rfl,by show((fB gs).map jM).length=((fB fs).map jM).length;rw[List.length_map,List.length_map,I7.len]⟩
 have hF:∀m,yO (jl fs ds mem inp fuel) (jl gs ds mem inp m):=fun m i f f' h1 h2=>by have h1:((fB fs).map jM)[i]?=some f:=h1;have h2:((fB gs).map jM)[i]?=some f':=h2;rw[List.getElem?_map,Option.map_eq_some_iff]at h1 h2;obtain⟨x,hx,rfl⟩:=h1;obtain⟨y,hy,rfl⟩:=h2;obtain⟨q1,q2,q3,q4,q5⟩:=I7.at_ i x y hx hy;exact hS _ _ x y (hE m) (fL (List.mem_of_getElem? hx)) q1 q3 q4 q5
 have key:∀t:cQ,qZ (ld (jl fs ds mem inp fuel) (aF ds) bg)=t→(jl gs ds mem inp t.steps).fuel=t.steps:=fun t ht=>by show min (max t.steps 0) 4194304=t.steps;rw[ht]at hle;omega
 rw[e1]at hk⊢;cases hr:ld (jl fs ds mem inp fuel) (aF ds) bg with
 |ok a t=>
  have hkt:=key t (by rw[hr];rfl);have h1:=Q4 (hE t.steps) (hF t.steps) (by rw[hkt];rw[hr]at hle;exact hle.1) (aF ds) bg;rw[hr]at h1;obtain⟨a',t',h2,h3,_⟩:=h1 (by rw[hkt];exact Int.le_refl _);rw[e2];show(kD (ld (jl gs ds mem inp t.steps) (aF ds) bg)).1=_∧(kD (ld (jl gs ds mem inp t.steps) (aF ds) bg)).2.1=_∧(kD (ld (jl gs ds mem inp t.steps) (aF ds) bg)).2.2.1=_;rw[h2];exact⟨rfl,rfl,h3.out⟩
 |stop k c t=>
  have hkt:=key t (by rw[hr];rfl);rw[hr]at hk;have h1:=Q4 (hE t.steps) (hF t.steps) (by rw[hkt];rw[hr]at hle;exact hle.1) (aF ds) bg;rw[hr]at h1;obtain⟨t',h2,h3⟩:=h1 hk (by rw[hkt];exact Int.le_refl _);rw[e2];show(kD (ld (jl gs ds mem inp t.steps) (aF ds) bg)).1=_∧(kD (ld (jl gs ds mem inp t.steps) (aF ds) bg)).2.1=_∧(kD (ld (jl gs ds mem inp t.steps) (aF ds) bg)).2.2.1=_;rw[h2];exact⟨rfl,rfl,h3.out⟩
end
end Go.Mor
namespace Go.Mor
open Go.RowKit
def eN(p:bZ):bx:= .row 3 1 p.A p.args.length p.c (ints p.args)
def fz(p:bl):bx:= .row 3 1 p.A p.args.length p.c (ints p.args)
def sT(l:List bZ):aP:=l.flatMap bZ.cells
def Ry(l:List bl):aP:=l.flatMap bl.cells
def lu(l:List aE):aP:=l.flatMap xV
def EM(A:ar)(c:Nat)(l:List bZ):bx:= .row 100 2 A l.length c (sT l)
def gS(A:ar)(c:Nat)(l:List bl):bx:= .row 45 5 A l.length c (Ry l)
def y6(A:ar)(c:Nat)(l:List aE):bx:= .row 49 6 A l.length c (lu l)
abbrev Xj(x:aE):List bx:=[EM x.pA x.pc x.au,gS x.iA x.ic x.insts,.pk (x.au.map eN),.pk (x.insts.map fz)]
def dG(x:aE):bx:= .pk (Xj x)
abbrev I8(A:ar)(c:Nat)(fs:List aE):List bx:=[y6 A c fs,.pk (fs.map dG)]
theorem Gm(l:List bZ)(x:bZ):sT (l++[x])=sT l++x.cells:=by simp[sT]
theorem Rz(l:List bl)(x:bl):Ry (l++[x])=Ry l++x.cells:=by simp[Ry]
theorem Gn(l:List aE)(x:aE):lu (l++[x])=lu l++xV x:=by simp[lu]
theorem mY(p:bZ):p.cells.length=2:=rfl
theorem kn(p:bl):p.cells.length=5:=rfl
theorem y7(x:aE):(xV x).length=6:=rfl
theorem jN{α:Type}{f:α→aP}{k:Nat}(hf:∀x,(f x).length=k){w:World}{A:ar}{l:List α}(hk:0<k)(h:(bx.rd A (l.flatMap f)).holds w):(bx.l7 A k (l.map f)).holds w:=by
 intro i cs hi;rw[List.getElem?_map,Option.map_eq_some_iff]at hi;obtain⟨x,hx,rfl⟩:=hi;have h0:∃v,(f x)[0]?=some v:=⟨_,List.getElem?_eq_getElem (by rw[hf];exact hk)⟩;obtain⟨v0,zY⟩:=h0;obtain⟨ad,hA,_⟩:=h _ v0 (DV hf l i x hx 0 v0 zY);refine⟨ad,hA,fun j v hj=> ?_⟩;obtain⟨ad',WO,hc⟩:=h _ v (DV hf l i x hx j v hj);rw[hA]at WO;injection WO with WO;subst WO;rw[lF];exact hc
theorem u7{w:World}{A:ar}{c:Nat}{fs:List aE}(h1:(y6 A c fs).holds w)(h2:(bx.pk (fs.map dG)).holds w):(bx.fn A fs).holds w:=by
 intro r hr;rcases List.mem_cons.1 hr with rfl|hr
 ·have:=jN (f:=xV) y7 oM (aD h1);unfold bx.blocks;rw[show(aq fs).map SB.cells=fs.map xV by unfold aq;rw[List.map_map];rfl];exact this
 ·obtain⟨x,hx,hr⟩:=List.mem_flatMap.1 hr;have hb:(dG x).holds w:=o4 h2 (List.mem_map.2 ⟨x,hx,rfl⟩);have b1:(EM x.pA x.pc x.au).holds w:=o4 hb sI;have b2:(gS x.iA x.ic x.insts).holds w:=o4 hb sI;have b3:(bx.pk (x.au.map eN)).holds w:=o4 hb sI;have b4:(bx.pk (x.insts.map fz)).holds w:=o4 hb sI;unfold aE.parts at hr;rcases List.mem_cons.1 hr with rfl|hr
  ·exact jN mY oM (aD b1)
  rcases List.mem_cons.1 hr with rfl|hr
  ·exact jN kn oM (aD b2)
  rcases List.mem_append.1 hr with hr|hr
  ·obtain⟨p,hp,rfl⟩:=List.mem_map.1 hr;exact aD (o4 b3 (List.mem_map.2 ⟨p,hp,rfl⟩))
  ·obtain⟨p,hp,rfl⟩:=List.mem_map.1 hr;exact aD (o4 b4 (List.mem_map.2 ⟨p,hp,rfl⟩))
theorem Xk{fs:List aE}{gd:List aE}{k:Nat}{x y:aE}(h:gd.map aE.e0=(fs.take k).map aE.e0)(hx:fs[k]?=some x)(hy:y.e0=x.e0):(gd++[y]).map aE.e0=(fs.take (k+1)).map aE.e0:=by
 obtain⟨hk,he⟩:=List.getElem?_eq_some_iff.1 hx;rw[List.map_append,h,List.take_succ_eq_append_getElem hk,List.map_append,he];simp[hy]
theorem Xl{l:List bZ}{d:List bZ}{k:Nat}{x y:bZ}(h:d.map bZ.e0=(l.take k).map bZ.e0)(hx:l[k]?=some x)(hy:y.e0=x.e0):(d++[y]).map bZ.e0=(l.take (k+1)).map bZ.e0:=by
 obtain⟨hk,he⟩:=List.getElem?_eq_some_iff.1 hx;rw[List.map_append,h,List.take_succ_eq_append_getElem hk,List.map_append,he];simp[hy]
theorem Xm{l:List bl}{d:List bl}{k:Nat}{x y:bl}(h:d.map bl.e0=(l.take k).map bl.e0)(hx:l[k]?=some x)(hy:y.e0=x.e0):(d++[y]).map bl.e0=(l.take (k+1)).map bl.e0:=by
 obtain⟨hk,he⟩:=List.getElem?_eq_some_iff.1 hx;rw[List.map_append,h,List.take_succ_eq_append_getElem hk,List.map_append,he];simp[hy]
theorem Gp{α β γ:Type}{f:α→γ}{g:β→γ}{l:List α}{m:List β}(h:l.map f=m.map g):l.length=m.length:=by simpa using congrArg List.length h
theorem mJ{α β:Type}{f:α→β}{l m:List α}(h:l.map f=m.map f):l.length=m.length:=by simpa using congrArg List.length h
structure FSm(fs:List aE):Prop where
 lp:∀x,x∈fs→x.au.length≤20000
 li:∀x,x∈fs→x.insts.length≤20000
 ap:∀x,x∈fs→∀p,p∈x.au→p.args.length≤20000
 ai:∀x,x∈fs→∀p,p∈x.insts→p.args.length≤20000
structure dh where
 dst:Int
 fA:ar
 fc:Nat
 from_:af
 aA:ar
 ac:Nat
 args:af
def dh.cells(p:dh):aP:=[vI p.dst,.slice p.fA p.from_.length p.fc,.slice p.aA p.args.length p.ac]
abbrev gpV(p:dh):aP:=[vI p.dst,.slice p.fA p.from_.length p.fc,.slice p.aA p.args.length p.ac]
structure bN where
 g:Nat
 pA:ar
 pc:Nat
 au:List dh
 iA:ar
 ic:Nat
 insts:List bl
 e:Int
 v:Int
 a:Int
 b:Int
 gone:Bool
abbrev gV(x:bN):aP:=[.slice x.pA x.au.length x.pc,.slice x.iA x.insts.length x.ic,vI x.e,vI x.v,vI x.a,vI x.b,.bool x.gone]
def fW(p:dh):bx:= .row 3 1 p.fA p.from_.length p.fc (ints p.from_)
def fN(p:dh):bx:= .row 3 1 p.aA p.args.length p.ac (ints p.args)
def D2(l:List dh):aP:=l.flatMap dh.cells
def xz(A:ar)(c:Nat)(l:List dh):bx:= .row 81 3 A l.length c (D2 l)
abbrev gL(x:bN):List bx:=[.aB x.g 79 (gV x),xz x.pA x.pc x.au,gS x.iA x.ic x.insts,.pk (x.au.map fW),.pk (x.au.map fN),.pk (x.insts.map fz)]
def gB(x:bN):bx:= .pk (gL x)
theorem RB(l:List dh)(x:dh):D2 (l++[x])=D2 l++x.cells:=by simp[D2]
def jW(gs:List bN):aP:=gs.map (fun x=> .pointer (some (aZ x.g)))
def jS(A:ar)(c:Nat)(gs:List bN):bx:= .row 76 1 A gs.length c (jW gs)
abbrev gF(q:Nat)(nm:aV)(wk:Bool)(pa va:Int)(bA:ar)(bn bc:Nat)(A:ar)(c:Nat)(gs:List bN):List bx:=[.aB q 75 (cg nm wk pa va bA bn bc A gs.length c),jS A c gs,.pk (gs.map gB)]
end Go.Mor
namespace Go.Mor
open Go.RowKit
structure y8 where
 dst:Int
 from_:af
 args:af
structure gT where
 au:List y8
 insts:List bl
 e:Int
 v:Int
 a:Int
 b:Int
 gone:Bool
def dh.k(p:dh):y8:=⟨p.dst,p.from_,p.args⟩
def bN.k(x:bN):gT:=⟨x.au.map dh.k,x.insts.map bl.e0,x.e,x.v,x.a,x.b,x.gone⟩
def qy(s:af)(p:bZ):y8:=⟨p.dst,s,p.args⟩
def Gq(fs:List aE)(k:Nat)(x:aE):gT:=⟨x.au.map (qy (bG (aq fs) (k:Int))),x.insts.map bl.e0,x.e,x.v,x.a,x.b,false⟩
def mK(fs:List aE):List gT:=fs.zipIdx.map (fun p=>Gq fs p.2 p.1)
section
variable {fs gs : List aE} {k : Nat} {x : aE}
theorem nH(h:fs[k]?=some x):(mK fs)[k]?=some (Gq fs k x):=by
 unfold mK;rw[List.getElem?_map,List.getElem?_zipIdx,h];simp
theorem j8(fs:List aE):(mK fs).length=fs.length:=by simp[mK]
theorem I9{l:List bN}{y:bN}(hl:l.map bN.k=(mK fs).take k)(hx:fs[k]?=some x)(hy:y.k=Gq fs k x):(l++[y]).map bN.k=(mK fs).take (k+1):=by
 obtain⟨h1,h2⟩:=List.getElem?_eq_some_iff.1 (nH hx);rw[List.map_append,hl,List.take_succ_eq_append_getElem h1,h2,←hy];rfl
theorem Ja{s:af}{l:List bZ}{d:List dh}{j:Nat}{p:bZ}{y:dh}(hl:d.map dh.k=(l.take j).map (qy s))(hp:l[j]?=some p)(hy:y.k=qy s p):(d++[y]).map dh.k=(l.take (j+1)).map (qy s):=by
 obtain⟨h1,h2⟩:=List.getElem?_eq_some_iff.1 hp;rw[List.map_append,hl,List.take_succ_eq_append_getElem h1,List.map_append,h2];simp[hy]
theorem Gr(h:eH gs fs):mK gs=mK fs:=by
 have hs:=j7 (DR h);refine List.ext_getElem? fun k=> ?_
 cases hx:fs[k]? with
 |none=>
  have:gs[k]?=none:=by rw[List.getElem?_eq_none_iff]at hx⊢;rw[h.len];exact hx
  rw[List.getElem?_eq_none_iff]at hx this;rw[List.getElem?_eq_none (by rw[j8];exact this),List.getElem?_eq_none (by rw[j8];exact hx)]
 |some x=>
  obtain⟨y,hy,e⟩:=qu h.symm hx;rw[nH hx,nH hy];unfold Gq;rw[hs,Rh e,MR e,Qb8 e,Qb9 e];have e1:=tT e;have e2:∀s,y.au.map (qy s)=x.au.map (qy s):=by intro s;have:qy s=qy s∘bZ.e0:=rfl;rw[this,←List.map_map,←List.map_map,tS e]
  rw[e1,e2]
theorem FSm.alike(h:eH gs fs)(hs:FSm fs):FSm gs:=by
 have key:∀x,x∈gs→∃y,y∈fs∧x.e0=y.e0:=by intro x hx;obtain⟨k,hk⟩:=List.mem_iff_getElem?.1 hx;obtain⟨y,hy,e⟩:=qu h hk;exact⟨y,List.mem_of_getElem? hy,e⟩
 refine⟨fun x hx=> ?_,fun x hx=> ?_,fun x hx p hp=> ?_,fun x hx p hp=> ?_⟩
 ·obtain⟨y,hy,e⟩:=key x hx;rw[mJ (tS e)];exact hs.lp y hy
 ·obtain⟨y,hy,e⟩:=key x hx;rw[mJ (tT e)];exact hs.li y hy
 ·obtain⟨y,hy,e⟩:=key x hx;obtain⟨j,hj⟩:=List.mem_iff_getElem?.1 hp;obtain⟨q,hq,_,e2⟩:=IZ e hj;rw[e2];exact hs.ap y hy q (List.mem_of_getElem? hq)
 ·obtain⟨y,hy,e⟩:=key x hx;obtain⟨j,hj⟩:=List.mem_iff_getElem?.1 hp;obtain⟨q,hq,_,_,_,_,e2⟩:=tU e hj;rw[e2];exact hs.ai y hy q (List.mem_of_getElem? hq)
end
section
variable {w : World} {A : Option Addr} {c : Nat} {ad : Addr} {k : Nat}
theorem Xn{fs:List aE}{x:aE}(h:(y6 A c fs).holds w)(hA:A=some ad)(hx:fs[k]?=some x):∀j v,(xV x)[j]?=some v→w.cell? ((ad.add (k*6)).add j)=some v:=aQ (cs:=xV x) (jN (f:=xV) y7 oM (aD h)) hA (by rw[List.getElem?_map,hx];rfl)
theorem Xo{l:List bZ}{p:bZ}(h:(EM A c l).holds w)(hA:A=some ad)(hp:l[k]?=some p):∀j v,(pV p)[j]?=some v→w.cell? ((ad.add (k*2)).add j)=some v:=aQ (cs:=p.cells) (jN (f:=bZ.cells) mY oM (aD h)) hA (by rw[List.getElem?_map,hp];rfl)
theorem Xp{l:List bl}{p:bl}(h:(gS A c l).holds w)(hA:A=some ad)(hp:l[k]?=some p):∀j v,(iV p)[j]?=some v→w.cell? ((ad.add (k*5)).add j)=some v:=aQ (cs:=p.cells) (jN (f:=bl.cells) kn oM (aD h)) hA (by rw[List.getElem?_map,hp];rfl)
theorem oH(p:dh):p.cells.length=3:=rfl
theorem RD{l:List dh}{p:dh}(h:(xz A c l).holds w)(hA:A=some ad)(hp:l[k]?=some p):∀j v,(gpV p)[j]?=some v→w.cell? ((ad.add (k*3)).add j)=some v:=aQ (cs:=p.cells) (jN (f:=dh.cells) oH oM (aD h)) hA (by rw[List.getElem?_map,hp];rfl)
theorem Qck{fs:List aE}(h:(y6 A c fs).holds w):(bx.blocks A (aq fs)).holds w:=by
 have:=jN (f:=xV) y7 oM (aD h);unfold bx.blocks;rw[show(aq fs).map SB.cells=fs.map xV by unfold aq;rw[List.map_map];rfl];exact this
theorem oI{e size n:Nat}{xs:aP}(h:(bx.row e size A n c xs).holds w)(hn:0<xs.length):∃ad,A=some ad:=rd_some (aD h) hn
end
end Go.Mor
namespace Go.Mor
open Go.RowKit
section
variable {α : Type} {p : α → Bool} {l : List α} {j : Nat} {x : α}
def jm(p:α→Bool)(l:List α):Int:=match l.findIdx? p with
 |some i=>(i:Int)
 |none=> -1
def cU(p:α→Bool)(l:List α)(j:Nat):List α:=(l.take j).filter (fun x=> !p x)
theorem Co(hx:l[j]?=some x)(hc:p x=false):cU p l (j+1)=cU p l j++[x]:=by
 obtain⟨hj,he⟩:=List.getElem?_eq_some_iff.1 hx;unfold cU;rw[List.take_succ_eq_append_getElem hj,List.filter_append,he];simp[hc]
theorem Gs(hx:l[j]?=some x)(hc:p x=true):cU p l (j+1)=cU p l j:=by
 obtain⟨hj,he⟩:=List.getElem?_eq_some_iff.1 hx;unfold cU;rw[List.take_succ_eq_append_getElem hj,List.filter_append,he];simp[hc]
theorem q8(hj:l.length≤j):cU p l j=l.filter (fun x=> !p x):=by
 unfold cU;rw[List.take_of_length_le hj]
theorem Cp(hn:(l.take j).any p=false)(hx:l[j]?=some x)(hc:p x=false):(l.take (j+1)).any p=false:=by
 obtain⟨hj,he⟩:=List.getElem?_eq_some_iff.1 hx;rw[List.take_succ_eq_append_getElem hj,List.any_append,hn,he];simp[hc]
theorem Cq(hn:(l.take j).any p=false)(hx:l[j]?=some x)(hc:p x=true):jm p l=(j:Int):=by
 obtain⟨hj,he⟩:=List.getElem?_eq_some_iff.1 hx;have:l.findIdx? p=some j:=by rw[List.findIdx?_eq_some_iff_getElem];refine⟨hj,by rw[he];exact hc,fun i hi=> ?_⟩;rw[List.any_eq_false]at hn;exact hn _ (List.mem_take_iff_getElem.2 ⟨i,oM,rfl⟩)
 unfold jm;rw[this]
theorem y9(hn:(l.take j).any p=false)(hj:l.length≤j):jm p l= -1:=by
 have:l.findIdx? p=none:=by rw[List.findIdx?_eq_none_iff];intro x hx;rw[List.take_of_length_le hj,List.any_eq_false]at hn;have:=hn x hx;simpa using this
 unfold jm;rw[this]
theorem tW(p:α→Bool)(l:List α): -1≤jm p l∧jm p l<(l.length:Int):=by
 unfold jm;cases h:l.findIdx? p with
 |none=>simp only[];omega
 |some i=>
  rw[List.findIdx?_eq_some_iff_getElem]at h;obtain⟨h1,_⟩:=h;simp only[];omega
theorem mL(h:jm p l= -1):l.filter (fun x=> !p x)=l:=by
 unfold jm at h;cases hh:l.findIdx? p with
 |some i=>rw[hh]at h;simp only[]at h;omega
 |none=>
  rw[List.findIdx?_eq_none_iff]at hh;rw[List.filter_eq_self];intro x hx;simp[hh x hx]
theorem vQ(h:jm p l≠-1):∃i:Nat,jm p l=(i:Int)∧i<l.length∧cU p l (i+1)=l.take i:=by
 unfold jm at h⊢;cases hh:l.findIdx? p with
 |none=>rw[hh]at h;simp at h
 |some i=>
  rw[List.findIdx?_eq_some_iff_getElem]at hh;obtain⟨h1,h2,h3⟩:=hh;refine⟨i,rfl,h1,?_⟩;unfold cU;rw[List.take_succ_eq_append_getElem h1,List.filter_append];have:[l[i]].filter (fun x=> !p x)=[]:=by simp[h2]
  rw[this,List.append_nil,List.filter_eq_self];intro x hx;obtain⟨j,hj,rfl⟩:=List.mem_iff_getElem.1 hx;simp at hj;have:=h3 j oM;simpa using this
def vR(l m k:List α)(j:Nat):Prop:=m.length=l.length∧m.take k.length=k∧m.drop j=l.drop j∧k.length<j
variable {m k : List α}
theorem Cr(h:vR l m k j):m[j]?=l[j]?:=by
 obtain⟨h1,_,h3,_⟩:=h;have e:∀x:List α,x[j]?=(x.drop j)[0]?:=fun x=>sI
 rw[e m,e l,h3]
theorem Gt(h:vR l m k j):vR l m k (j+1):=by
 obtain⟨h1,h2,h3,h4⟩:=h;refine⟨h1,h2,?_,oM⟩;rw[←List.drop_drop,←List.drop_drop,h3]
theorem Cs(h:vR l m k j)(hj:j<l.length)(v:α):vR l (m.set k.length v) (k++[v]) (j+1):=by
 obtain⟨h1,h2,h3,h4⟩:=h;refine⟨by simpa using h1,?_,?_,by simp;omega⟩
 ·rw[List.length_append,List.length_singleton,List.take_succ_eq_append_getElem (by simp;omega)];rw[List.take_set_of_le (Nat.le_refl _),h2];simp
 ·rw[List.drop_set,if_pos oM,←List.drop_drop,←List.drop_drop,h3]
theorem vU{i:Nat}(hi:i<l.length):vR l l (l.take i) (i+1):=by
 refine⟨rfl,sI,rfl,by simp;omega⟩
theorem Ct{f:α→aP}{q:Nat}(hf:∀x,(f x).length=q):∀(l:List α) (n:Nat),(l.flatMap f).take (n*q)=(l.take n).flatMap f
 |[],n=>sI
 |x::l,0=>sI
 |x::l,n+1=>by rw[List.flatMap_cons,u6,List.flatMap_cons,←Ct hf l n,Nat.succ_mul,Nat.add_comm,←hf x,List.take_length_add_append]
theorem Gu{f:α→aP}{q:Nat}(hf:∀x,(f x).length=q)(h2:m.take k.length=k)(z y:aP):((m.flatMap f).take (k.length*q)++z++y).take (k.length*q)=k.flatMap f:=by
 have hl:k.length≤m.length:=by have:=congrArg List.length h2;simp at this;omega
 rw[Ct hf,h2,List.append_assoc];have:k.length*q=(k.flatMap f).length:=(kG hf k).symm;rw[this,List.take_left]
end
def dN(rl:List Bool)(x:dh):Bool:=!(rl.getD x.dst.toNat false)
def dV(rl:List Bool)(i:bl):Bool:=decide (db i.op)&& !(rl.getD i.dst.toNat false)
end Go.Mor
namespace Go.Mor
open Go.RowKit
def bf:af→List Bool×af→List Bool×af
 |[],s=>s
 |v::l,s=>if 0≤v∧s.1.getD v.toNat false=false then bf l (s.1.set v.toNat true,s.2++[v])else bf l s
theorem u9{l:af}{j:Nat}{v:Int}{s:List Bool×af}(h:l[j]?=some v):bf (l.take (j+1)) s=if 0≤v∧(bf (l.take j) s).1.getD v.toNat false=false then((bf (l.take j) s).1.set v.toNat true,(bf (l.take j) s).2++[v])else bf (l.take j) s:=by
 induction l generalizing j s with
 |nil=>simp at h
 |cons x l ih=>
  cases j with
  |zero=>
   simp at h;subst h;simp only[u6,List.take_zero,bf]
  |succ j=>
   simp at h;rw[u6,u6,bf,bf];split
   ·exact ih h
   ·exact ih h
def za(rl:List Bool):Nat:=rl.countP (fun b=>b)
theorem D3(rl:List Bool):za rl≤rl.length:=List.countP_le_length
theorem RE{rl:List Bool}{i:Nat}(hi:i<rl.length)(h:rl.getD i false=false):za (rl.set i true)=za rl+1:=by
 have hg:rl[i]=false:=by simpa[List.getD,List.getElem?_eq_getElem hi]using h
 unfold za;induction rl generalizing i with
 |nil=>simp at hi
 |cons x rl ih=>
  cases i with
  |zero=>simp at hg;subst hg;simp
  |succ i=>
   simp only[List.set_cons_succ,List.countP_cons];have:=ih (i:=i) (by simpa using hi) (by simpa[List.getD]using h) (by simpa using hg);omega
theorem j9:∀(l:af) (s:List Bool×af),(bf l s).1.length=s.1.length
 |[],s=>rfl
 |v::l,s=>by
  rw[bf];split
  ·rw[j9];simp
  ·exact j9 l s
theorem ka:∀(l:af) (s:List Bool×af),(∀v,v∈l→v<(s.1.length:Int))→za (bf l s).1+s.2.length=za s.1+(bf l s).2.length
 |[],s,_=>rfl
 |v::l,s,h=>by
  rw[bf];split
  ·rename_i hc;have hv:=h v (List.mem_cons_self ..);have:=ka l (s.1.set v.toNat true,s.2++[v]) (fun u hu=>by rw[List.length_set];exact h u (List.mem_cons_of_mem _ hu));simp only[List.length_append,List.length_singleton]at this;rw[RE oM hc.2]at this;omega
  ·exact ka l s (fun u hu=>h u (List.mem_cons_of_mem _ hu))
theorem kf:∀(l:af) (s:List Bool×af) (i:Nat),(∀v,v∈l→v<(s.1.length:Int))→i<s.1.length→((bf l s).1.getD i false=true↔s.1.getD i false=true∨(i:Int)∈l)
 |[],s,i,_,_=>by simp[bf]
 |v::l,s,i,h,hi=>by
  have hv:=h v (List.mem_cons_self ..);rw[bf];split
  ·rename_i hc;rw[kf l _ i (fun u hu=>by rw[List.length_set];exact h u (List.mem_cons_of_mem _ hu)) (by rw[List.length_set];exact hi)];by_cases e:v.toNat=i
   ·subst e;have:((s.1.set v.toNat true).getD v.toNat false=true):=by simp[List.getD,hi]
    simp only[this,true_or,true_iff];right;have:(v.toNat:Int)=v:=oM;rw[this];exact List.mem_cons_self ..
   ·have e1:(s.1.set v.toNat true).getD i false=s.1.getD i false:=by simp[List.getD,List.getElem?_set_ne e]
    rw[e1,List.mem_cons];constructor
    ·rintro(h1|h1);exact .inl h1;exact .inr (.inr h1)
    ·rintro(h1|h1|h1)
     ·exact .inl h1
     ·exfalso;omega
     ·exact .inr h1
  ·rename_i hc;rw[kf l s i (fun u hu=>h u (List.mem_cons_of_mem _ hu)) hi,List.mem_cons];constructor
   ·rintro(h1|h1);exact .inl h1;exact .inr (.inr h1)
   ·rintro(h1|h1|h1)
    ·exact .inl h1
    ·left;subst h1;have:¬(s.1.getD i false=false):=fun e=>hc ⟨oM,by simpa using e⟩
     simpa using this
    ·exact .inr h1
theorem kI:∀(l:af) (s:List Bool×af),(∀v,v∈l→v<(s.1.length:Int))→(∀v,v∈(bf l s).2→v∈s.2∨(v∈l∧0≤v))∧(∀v,v∈s.2→v∈(bf l s).2)∧(∀i:Nat,i<s.1.length→(bf l s).1.getD i false=true→s.1.getD i false=true∨(i:Int)∈(bf l s).2)
 |[],s,_=>⟨fun v h=> .inl h,fun v h=>h,fun i _ h=> .inl h⟩
 |v::l,s,h=>by
  have hv:=h v (List.mem_cons_self ..);rw[bf];split
  ·rename_i hc;obtain⟨h1,h2,h3⟩:=kI l (s.1.set v.toNat true,s.2++[v]) (fun u hu=>by rw[List.length_set];exact h u (List.mem_cons_of_mem _ hu));refine⟨fun u hu=> ?_,fun u hu=>h2 u (List.mem_append_left _ hu),fun i hi hm=> ?_⟩
   ·rcases h1 u hu with h4|h4
    ·rcases List.mem_append.1 h4 with h4|h4
     ·exact .inl h4
     ·simp at h4;subst h4;exact .inr ⟨List.mem_cons_self ..,hc.1⟩
    ·exact .inr ⟨List.mem_cons_of_mem _ h4.1,h4.2⟩
   ·rcases h3 i (by rw[List.length_set];exact hi) hm with h4|h4
    ·by_cases e:v.toNat=i
     ·right;have:(i:Int)=v:=oM;rw[this];exact h2 v (List.mem_append_right _ (Jb v))
     ·left;simpa[List.getD,List.getElem?_set_ne e]using h4
    ·exact .inr h4
  ·obtain⟨h1,h2,h3⟩:=kI l s (fun u hu=>h u (List.mem_cons_of_mem _ hu));refine⟨fun u hu=> ?_,h2,h3⟩;rcases h1 u hu with h4|h4
   ·exact .inl h4
   ·exact .inr ⟨List.mem_cons_of_mem _ h4.1,h4.2⟩
end Go.Mor
