/-
  Texts of the proof, part 2.
-/
import Derived.Test.YtejbeeaomokjpaaGreatZo1
import Derived.Laws.OwnMore
set_option maxRecDepth 10000
open List Go.RowKit
open List renaming length -> ae
namespace Go.Mor
structure bD where
 fp:Nat->Prop
 holds:World->Prop
 kD:∀{w w':World},(∀g,fp g->w'.heap[g]?=w.heap[g]?)->holds w->holds w'
 lt:∀{w:World} {g:Nat},holds w->fp g->g<w.heap.size
def bI:Nat->Prop:=λ_=>False
structure Mem(S:Nat->Prop)(w0 w:World)(L:List bD):Prop where
 os:w.os=w0.os
 tape:w.tape=w0.tape
 output:w.output=w0.output
 size:w0.heap.size<=w.heap.size
 kept:∀k,k<w0.heap.size->¬S k->w.heap[k]?=w0.heap[k]?
 own:∀r,r∈L->r.holds w/\∀g,r.fp g->S g\/w0.heap.size<=g
 apart:L.Pairwise (λr s=>∀g,r.fp g->¬s.fp g)
def RO(S:Nat->Prop)(w:World)(r:bD):Prop:=r.holds w/\∀g,r.fp g->¬S g
theorem rO{w:World}{g:Nat}{o:Obj}(h:w.heap[g]?=some o):g<w.heap.size:=by
 rcases ns g w.heap.size with h1|h1
 ·exact h1
 ·rw[Array.getElem?_eq_none h1]at h;cases h
theorem Mem.init(w:World):Mem bI w w []:=⟨rfl,rfl,rfl,cH _,λ_ _ _=>rfl,sI,HK⟩
theorem Mem.vv{w:World}{r:bD}(h:r.holds w):Mem r.fp w w [r]:=⟨rfl,rfl,rfl,cH _,λ_ _ _=>rfl,by simp only[cF];rintro _ rfl;exact⟨h,λg hg=> .inl hg⟩,oh _ _⟩
section
variable{S:Nat -> Prop}{w0 w w':World}{L:List bD}
theorem Mem.below(h:Mem bI w0 w L):Below w0.heap.size w0 w:=⟨h.os,h.tape,h.output,h.size,λk hk=>h.kept k hk (λh=>h)⟩
theorem Mem.get(h:Mem S w0 w L)(i:Nat){r:bD}(hi:L[i]?=some r):r.holds w:=(h.own r (aI hi)).1
theorem Mem.ro(h:Mem S w0 w L){r:bD}(hr:RO S w0 r):r.holds w:=r.kD (λg hg=>h.kept g (r.lt hr.1 hg) (hr.2 g hg)) hr.1
theorem RO.at_{r:bD}(hr:RO S w0 r)(h:Mem S w0 w L):RO bI w r:=⟨h.ro hr,λ_ _ h=>h⟩
theorem Mem.ei(h:Mem S w0 w L)(i:Nat){r:bD}(hi:L[i]?=some r):RO bI w r:=⟨h.get i hi,λ_ _ h=>h⟩
theorem RO.but{r:bD}(hr:RO S w0 r)(h:Mem S w0 w L)(i:Nat){s:bD}(hi:L[i]?=some s):RO s.fp w r:=⟨h.ro hr,λg hg hs=>by
  rcases(h.own s (aI hi)).2 g hs with h1|h1
  ·exact hr.2 g hg h1
  ·have:=r.lt hr.1 hg;omega⟩
theorem qX{α:Type}{R:α->α->Prop}(hs:∀x y,R x y->R y x):∀{l:List α} (_:l.Pairwise R) {i j:Nat} {x y:α},l[i]?=some x->l[j]?=some y->i≠j->R x y
 |[],_,i,_,x,_,hi,_,_=>by simp at hi
 |a::l,h,i,j,x,y,hi,hj,eC=>by
  rw[l7]at h;cases i with
  |zero=>
   cases j with
   |zero=>exact absurd rfl eC
   |succ j=>
    simp at hi hj;subst hi;exact h.1 y (aI hj)
  |succ i=>
   cases j with
   |zero=>
    simp at hi hj;subst hj;exact hs _ _ (h.1 x (aI hi))
   |succ j=>
    simp at hi hj;exact qX hs h.2 hi hj oM
theorem Mem.far(h:Mem S w0 w L){i j:Nat}{r s:bD}(hi:L[i]?=some r)(hj:L[j]?=some s)(eC:i≠j):∀g,r.fp g->¬s.fp g:=qX (λ_ _ h g hy hx=>h g hx hy) h.apart hi hj eC
theorem Mem.oD(h:Mem S w0 w L)(j i:Nat){r s:bD}(hj:L[j]?=some r)(hi:L[i]?=some s)(eC:j≠i):RO s.fp w r:=⟨h.get j hj,h.far hj hi eC⟩
theorem Mem.call{Lr:List bD}(h:Mem S w0 w L)(h':Mem bI w w' Lr):Mem S w0 w' (L++Lr):=by
 refine⟨h'.os.trans h.os,h'.tape.trans h.tape,h'.output.trans h.output,iz h.size h'.size,λk hk hs=>(h'.kept k (by have:=h.size;omega) (λh=>h)).trans (h.kept k hk hs),?_,?_⟩
 ·intro r hr;rcases bV.1 hr with hr|hr
  ·obtain⟨h1,h2⟩:=h.own r hr;exact⟨r.kD (λg hg=>h'.kept g (r.lt h1 hg) (λh=>h)) h1,h2⟩
  ·obtain⟨h1,h2⟩:=h'.own r hr;refine⟨h1,λg hg=> .inr ?_⟩;rcases h2 g hg with h3|h3
   ·exact h3.elim
   ·have:=h.size;omega
 ·refine vU.2 ⟨h.apart,h'.apart,λr hr s hs g hg rG=> ?_⟩;have h1:=r.lt (h.own r hr).1 hg;rcases(h'.own s hs).2 g rG with h3|h3
  ·exact h3
  ·omega
theorem Mem.mod{Lr:List bD}{r r':bD}(h:Mem S w0 w L)(i:Nat)(hi:L[i]?=some r)(h':Mem r.fp w w' (r'::Lr)):Mem S w0 w' (L.set i r'++Lr):=by
 have BA:=h.own r (aI hi);have qY:i<ae L:=(aW.1 hi).1;have Qk:=l7.1 h'.apart;have hr1:=h'.own r' (cK ..);have other:∀(j:Nat) s,j≠i->L[j]?=some s->s.holds w':=λj s hj hs=>
  s.kD (λg hg=>h'.kept g (s.lt (h.get j hs) hg) (h.far hs hi hj g hg)) (h.get j hs)
 have nt:∀s,s∈L.set i r'->s=r'\/∃j,j≠i/\L[j]?=some s:=by
  intro s hs;obtain⟨j,hj⟩:=bq.1 hs;by_cases e:i=j
  ·subst e;rw[kP qY]at hj;injection hj with hj;exact .inl hj.symm
  ·rw[jP e]at hj;exact .inr ⟨j,λh=>e h.symm,hj⟩
 have Qjw:∀(j:Nat) s,j≠i->L[j]?=some s->∀g,s.fp g->¬r'.fp g:=by
  intro j s hj hs g hg rG;rcases hr1.2 g rG with h1|h1
  ·exact h.far hs hi hj g hg h1
  ·have:=s.lt (h.get j hs) hg;omega
 refine⟨h'.os.trans h.os,h'.tape.trans h.tape,h'.output.trans h.output,iz h.size h'.size,λk hk hs=> ?_,?_,?_⟩
 ·refine(h'.kept k (by have:=h.size;omega) (λhf=> ?_)).trans (h.kept k hk hs);rcases BA.2 k hf with h1|h1
  ·exact hs h1
  ·omega
 ·intro s hs;rcases bV.1 hs with hs|hs
  ·rcases nt s hs with rfl|⟨j,hj,hs⟩
   ·refine⟨hr1.1,λg hg=> ?_⟩;rcases hr1.2 g hg with h1|h1
    ·exact BA.2 g h1
    ·exact .inr (by have:=h.size;omega)
   ·exact⟨other j s hj hs,(h.own s (aI hs)).2⟩
  ·obtain⟨h1,h2⟩:=h'.own s (cr _ hs);refine⟨h1,λg hg=> ?_⟩;rcases h2 g hg with h3|h3
   ·exact BA.2 g h3
   ·exact .inr (by have:=h.size;omega)
 ·refine vU.2 ⟨?_,Qk.2,λs hs t ht g hg rG=> ?_⟩
  ·rw[tx];intro j k hj hk hjk g hg rG;have gj:(L.set i r')[j]?=some ((L.set i r')[j]):=dF hj;have gk:(L.set i r')[k]?=some ((L.set i r')[k]):=dF hk;generalize (L.set i r')[j]=s at*;generalize (L.set i r')[k]=t at*;by_cases e1:i=j
   ·subst e1;rw[kP qY]at gj;injection gj with gj;subst gj;rw[jP oM]at gk;exact Qjw k t oM gk g rG hg
   ·rw[jP e1]at gj;by_cases e2:i=k
    ·subst e2;rw[kP qY]at gk;injection gk with gk;subst gk;exact Qjw j s oM gj g hg rG
    ·rw[jP e2]at gk;exact h.far gj gk oM g hg rG
  ·rcases nt s hs with rfl|⟨j,hj,hs⟩
   ·exact Qk.1 t ht g hg rG
   ·rcases(h'.own t (cr _ ht)).2 g rG with h1|h1
    ·exact h.far hs hi hj g hg h1
    ·have:=s.lt (h.get j hs) hg;omega
def vw:List Bool->List bD->List bD
 |true::m,r::L=>r::vw m L
 |false::m,_::L=>vw m L
 |_,_=>[]
theorem uJ:∀(m:List Bool) (L:List bD),(vw m L).Sublist L
 |true::m,r::L=>(uJ m L).cons_cons r
 |false::m,r::L=>(uJ m L).cons r
 |[],L=>by simp[vw]
 |true::_,[]=>by simp[vw]
 |false::_,[]=>by simp[vw]
theorem Mem.pick(h:Mem S w0 w L)(m:List Bool){L':List bD}(e:vw m L=L'):Mem S w0 w L':=by
 subst e;exact⟨h.os,h.tape,h.output,h.size,h.kept,λr hr=>h.own r ((uJ m L).subset hr),h.apart.sublist (uJ m L)⟩
theorem Mem.perm(h:Mem S w0 w L){L':List bD}(e:L.Perm L'):Mem S w0 w L':=⟨h.os,h.tape,h.output,h.size,h.kept,λr hr=>h.own r (e.mem_iff.2 hr),(e.pairwise_iff (λ{_ _} h g hy hx=>h g hx hy)).1 h.apart⟩
theorem Mem.say{r r':bD}(h:Mem S w0 w L)(i:Nat)(hi:L[i]?=some r)(h1:r.holds w->r'.holds w)(h2:∀g,r'.fp g->r.fp g):Mem S w0 w (L.set i r'):=by
 have h':Mem r.fp w w [r']:=⟨rfl,rfl,rfl,cH _,λ_ _ _=>rfl,by simp only[cF];rintro _ rfl;exact⟨h1 (h.get i hi),λg hg=> .inl (h2 g hg)⟩,oh _ _⟩;simpa using h.mod i hi h'
end
def bD.aM(g:Nat)(t:TypeId)(cs:bh):bD where
 fp:=λk=>k=g
 holds w:=w.heap[g]?=some (.cells cs.toArray t (0,0))
 kD h hw:=(h g rfl).trans hw
 lt:=by rintro w k hw rfl;exact rO hw
def bD.row(e size:Nat)(A:ar)(n c:Nat)(xs:bh):bD where
 fp:=λk=>∃a,A=some a/\a.block=k
 holds w:=w.ownsRow 0 e size (vS A n c) n xs
 kD:=by
  intro w w' h hw
  refine⟨hw.1,?_⟩
  rcases hw.2 with h1|⟨g,cap,cur,hv,hb,hg,h2⟩
  ·exact .inl h1
  ·refine .inr ⟨g,cap,cur,hv,hb,?_,h2⟩
   injection hv with hv
   exact(h g ⟨_,hv,rfl⟩).trans hg
 lt:=by
  rintro w k hw ⟨a,rfl,rfl⟩
  exact(World.ownsRow.lt hw a.block rfl).2
def bD.rd(A:ar)(xs:bh):bD where
 fp:=λk=>xs≠[]/\∃a,A=some a/\a.block=k
 holds w:=∀j v,xs[j]?=some v->∃a,A=some a/\w.cell? (a.add j)=some v
 kD:=by
  intro w w' h hw j v hj
  obtain⟨a,ha,hc⟩:=hw j v hj
  refine⟨a,ha,?_⟩
  rw[<-hc]
  refine World.cell?_of_block ?_
  have hb:(a.add j).block=a.block:=by unfold Addr.add;split<;>rfl
  rw[hb]
  exact h a.block ⟨by rintro rfl;simp at hj,a,ha,rfl⟩
 lt:=by
  rintro w k hw ⟨eC,a,rfl,rfl⟩
  cases xs with
  |nil=>exact absurd rfl eC
  |cons x xs=>
   obtain⟨a',ha,hc⟩:=hw 0 x rfl
   injection ha with ha
   subst ha
   have e:a.add 0=a:=by simp[Addr.add]
   rw[e]at hc
   unfold World.cell? at hc
   split at hc
   ·rename_i h;exact rO h
   ·cases hc
theorem block_add(a:Addr)(j:Nat):(a.add j).block=a.block:=by unfold Addr.add;split<;>rfl
theorem add_add(a:Addr)(i j:Nat):(a.add i).add j=a.add (i+j):=by
 unfold Addr.add;by_cases hi:i=0<;>by_cases hj:j=0<;>simp[hi,hj,vV]
theorem Ql(w:World)(e size:Nat):(bD.row e size none 0 0 []).holds w:=World.ownsRow_nil w 0 e size
theorem aF{w:World}{e size n c:Nat}{A:ar}{xs:bh}(h:(bD.row e size A n c xs).holds w):(bD.rd A xs).holds w:=by
 intro j v hj;rcases h.2 with⟨h1,h2⟩|⟨g,cap,cur,hv,hb,hg,h2⟩
 ·have h3:=h.1;rw[h2]at h3;have:xs=[]:=y2 (by simpa using h3);subst this;simp at hj
 ·injection hv with hv;subst hv;exact⟨_,rfl,h.cells (g:=g) rfl j v hj⟩
theorem RO.aF{S:Nat->Prop}{w:World}{e size n c:Nat}{A:ar}{xs:bh}(h:RO S w (.row e size A n c xs)):RO S w (.rd A xs):=⟨Mor.aF h.1,λg hg=>h.2 g hg.2⟩
theorem af{w:World}{g t i:Nat}{cs:bh}(h:(bD.aM g t cs).holds w){v:Value}(hi:cs[i]?=some v):w.cell? (aq g i)=some v:=by
 have:w.cell? (aq g i)=cs.toArray[i]?:=cell_of_row w g i cs.toArray t (0,0) h;rw[this];simpa using hi
theorem C0{w:World}{g t i:Nat}{cs:bh}(h:(bD.aM g t cs).holds w):w.frozen? (aq g i)=false:=by
 have h':w.heap[g]?=some (.cells cs.toArray t (0,0)):=h;simp[World.frozen?,h']
theorem Mem.drew(w:World):Mem bI w w.drew []:=⟨rfl,rfl,rfl,cH _,λ_ _ _=>rfl,sI,HK⟩
theorem Mem.alloc(w:World)(t:TypeId)(cs:bh):Mem bI w (w.alloc (.cells cs.toArray t)) [.aM w.heap.size t cs]:=by
 refine⟨rfl,rfl,rfl,sI,λk hk _=>Below.heap_alloc w _ k hk,?_,oh _ _⟩;simp only[cF];rintro _ rfl;exact⟨heap_alloc_new w _,λg hg=> .inr (Nat.le_of_eq hg.symm)⟩
theorem Mem.Qm{w:World}{g t i:Nat}{cs:bh}(h:(bD.aM g t cs).holds w)(v:Value):Mem (bD.aM g t cs).fp w (w.setCell (aq g i) v) [.aM g t (cs.set i v)]:=by
 have h':w.heap[g]?=some (.cells cs.toArray t (0,0)):=h;refine⟨rfl,rfl,rfl,by simp[World.setCell],λk hk eC=>Below.heap_setCell w _ v k eC,?_,oh _ _⟩;simp only[cF];rintro _ rfl;refine⟨?_,λg hg=> .inl hg⟩;show(w.setCell (aq g i) v).heap[g]?=_;simp[World.setCell,HL,h']
theorem Mem.HM{w:World}{e size n c j:Nat}{ad:Addr}{xs:bh}(h:(bD.row e size (some ad) n c xs).holds w)(v:Value):Mem (bD.row e size (some ad) n c xs).fp w (w.setCell (ad.add j) v) [.row e size (some ad) n c (xs.set j v)]:=by
 refine⟨rfl,rfl,rfl,by simp[World.setCell],λk hk eC=>Below.heap_setCell w _ v k (λe=>eC ⟨ad,rfl,by rw[e,block_add]⟩),?_,oh _ _⟩;simp only[cF];rintro _ rfl;refine⟨?_,λg hg=> .inl hg⟩;rcases h.2 with⟨h1,_⟩|⟨g,cap,cur,hv,hb,hg,hnc,Vi,rP,ht⟩
 ·cases h1
 ·injection hv with hv _ hc;injection hv with hv;subst hv;subst hc;refine⟨by simpa using h.1,.inr ⟨g,c,cur.setIfInBounds j v,rfl,hb,?_,hnc,Vi,by simpa using rP,?_⟩⟩
  ·have e:(aZ g).add j=(aq g j):=by unfold Addr.add;split<;>simp_all
   rw[e];simp[World.setCell,HL,hg]
  ·rw[Array.toList_setIfInBounds,<-ht,take_set]
theorem rQ{w:World}{e size n c:Nat}{ad:Addr}{xs:bh}(h:(bD.row e size (some ad) n c xs).holds w)(j:Nat):w.frozen? (ad.add j)=false:=by
 rcases h.2 with⟨h1,_⟩|⟨g,cap,cur,hv,hb,hg,_⟩
 ·cases h1
 ·injection hv with hv;injection hv with hv;subst hv;have e:(aZ g).add j=(aq g j):=by unfold Addr.add;split<;>simp_all
  rw[e];simp[World.frozen?,hg]
theorem HN{w:World}{e size n c:Nat}{A:ar}{xs:bh}(h:(bD.row e size A n c xs).holds w):ae xs=n*size:=h.1
theorem y3{w:World}{e size n c:Nat}{A:ar}{xs:bh}(h:(bD.row e size A n c xs).holds w):n<=c:=by
 rcases h.2 with⟨h1,rfl⟩|⟨g,cap,cur,hv,hb,hg,hnc,_⟩
 ·injection h1;omega
 ·injection hv;omega
theorem eZ{w:World}{e size n c:Nat}{A:ar}{xs:bh}(h:(bD.row e size A n c xs).holds w)(hn:0<n):∃g,A=some (aZ g):=by
 rcases h.2 with⟨h1,rfl⟩|⟨g,cap,cur,hv,hb,hg,hnc,_⟩
 ·omega
 ·injection hv with hv;exact⟨g,hv⟩
theorem Mem.grown{w w':World}{e size n c n' c':Nat}{A A':ar}{xs xs':bh}(hg:w.grownBy w' (Value.slice A n c).ownBlock)(h':w'.ownsRow 0 e size (vS A' n' c') n' xs')(hA:(Value.slice A' n' c').ownBlock=(Value.slice A n c).ownBlock\/(Value.slice A' n' c').ownBlock=some w.heap.size):Mem (bD.row e size A n c xs).fp w w' [.row e size A' n' c' xs']:=by
 refine⟨hg.os,hg.tape,hg.output,hg.size,λk hk eC=>hg.block k hk (λhe=>eC ?_),?_,oh _ _⟩
 ·cases A with
  |none=>simp[Value.ownBlock]at he
  |some a=>exact⟨a,rfl,by simp[Value.ownBlock]at he;exact he.symm⟩
 ·simp only[cF];rintro _ rfl;refine⟨h',?_⟩;rintro g ⟨a,ha,rfl⟩;subst ha;rcases hA with hA|hA
  ·cases A with
   |none=>simp[Value.ownBlock]at hA
   |some a0=>simp[Value.ownBlock]at hA;exact .inl ⟨a0,rfl,hA.symm⟩
  ·simp[Value.ownBlock]at hA;exact .inr (Nat.le_of_eq hA.symm)
def evs(env:Env):List Operand->Option bh
 |[]=>some []
 |x::r=>match ev env x with
  |some v=>match evs env r with
   |some vs=>some (v::vs)
   |none=>none
  |none=>none
theorem Cf{a:Act}{N:FN}{env:Env}(hF:Fr a N env):∀{l:List Operand} {vs:bh},evs env l=some vs->l.map a.eval=vs
 |[],vs,h=>by simp[evs]at h;simp[h]
 |x::r,vs,h=>by
  simp only[evs]at h;split at h
  ·rename_i v hv;split at h
   ·rename_i us hu;injection h with h;subst h;rw[gu,hF.ev hv,Cf hF hu]
   ·cases h
  ·cases h
def parts(env:Env):List (Nat×Operand)->Option (List (Nat×Value))
 |[]=>some []
 |(i,x)::r=>match ev env x with
  |some v=>match parts env r with
   |some vs=>some ((i,v)::vs)
   |none=>none
  |none=>none
theorem y4{a:Act}{N:FN}{env:Env}(hF:Fr a N env):∀{l:List (Nat×Operand)} {vs:List (Nat×Value)},parts env l=some vs->l.map (fun(i,x)=>(i,a.eval x))=vs
 |[],vs,h=>by simp[parts]at h;simp[h]
 |(i,x)::r,vs,h=>by
  simp only[parts]at h;split at h
  ·rename_i v hv;split at h
   ·rename_i us hu;injection h with h;subst h;simp only[gu,y4 hF hu,hF.ev hv]
   ·cases h
  ·cases h
def V1:BinOp->Int->Int->Option Bool
 | .eql,x,y=>some (x==y)
 | .neq,x,y=>some (x !=y)
 | .lss,x,y=>some (decide (x<y))
 | .leq,x,y=>some (decide (x<=y))
 | .gtr,x,y=>some (decide (x>y))
 | .geq,x,y=>some (decide (x>=y))
 |_,_,_=>none
def arI:BinOp->Int->Int->Option Int
 | .add,x,y=>some (x+y)
 | .sub,x,y=>some (x-y)
 | .mul,x,y=>some (x*y)
 |_,_,_=>none
def V2(P:Program)(t:TypeId)(cs:Array Value)(off:Nat):Option Value:=match P.underlying t with
 |some (.struct _)|some (.array _ _)=>match P.info? t with
  |some i=>some (.agg (cs.extract off (off+i.size)))
  |none=>none
 |some _=>cs[off]?
 |none=>none
theorem V3{P:Program}{t:TypeId}{cs:Array Value}{off:Nat}{v:Value}(h:V2 P t cs off=some v)(w:World):(part t cs off).run P w= .ok v w:=by
 unfold V2 at h;split at h
 ·rename_i u;split at h
  ·rename_i i hi;injection h with h;subst h;simp[part,isAgg,iM u,sizeOf,typeInfo,hi]
  ·cases h
 ·rename_i u;split at h
  ·rename_i i hi;injection h with h;subst h;simp[part,isAgg,iM u,sizeOf,typeInfo,hi]
  ·cases h
 ·rename_i d h1 h2 u;have hA:(isAgg t).run P w= .ok false w:=by simp only[isAgg,gG,iM u,ig];cases d<;>first|rfl|(exact absurd rfl (h1 _))|(exact absurd rfl (h2 _ _))
  simp only[part,gG,hA,ig];simp[h]
 ·cases h
def tz(P:Program)(env:Env):Op->Option Value
 | .move x=>ev env x
 | .assign x=>ev env x
 | .pick c a b=>match ev env c with
  |some (.bool true)=>ev env a
  |some (.bool false)=>ev env b
  |_=>none
 | .nilCheck x=>match ev env x with
  |some (.pointer (some a))=>some (.pointer (some a))
  |_=>none
 | .unOp .not _ x=>match ev env x with
  |some (.bool b)=>some (.bool (!b))
  |_=>none
 | .fieldAddr s x f=>match P.underlying s,ev env x with
  |some (.struct fs),some (.pointer (some a))=>match fs[f]? with
   |some fl=>match P.info? fl.type with
    |some i=>match i.size with
     |0=>none
     |_+1=>some (.pointer (some (a.add fl.offset)))
    |none=>none
   |none=>none
  |_,_=>none
 | .field s x f=>match P.underlying s,ev env x with
  |some (.struct fs),some (.agg cs)=>match fs[f]? with
   |some fl=>V2 P fl.type cs fl.offset
   |none=>none
  |_,_=>none
 | .makeFunc fn first captured=>match evs env first.toList,evs env captured.toList with
  |some u,some v=>some (.func fn u.toArray v.toArray)
  |_,_=>none
 | .extract x i=>match ev env x with
  |some (.tuple vs)=>vs[i]?
  |_=>none
 | .build t ps=>match parts env ps.toList with
  |some vs=>match P.built t vs with
   |some cells=>some (.agg cells)
   |none=>none
  |none=>none
 | .call {callee:= .builtin .len,args:=args,argTypes:=ts}=>match args.toList,ts.toList with
  |[x],[t]=>match P.underlying t,ev env x with
   |some (.slice _),some (.slice _ n _)=>some (.int .i64 n)
   |some .string,some (.string s)=>some (.int .i64 s.size)
   |_,_=>none
  |_,_=>none
 | .binOp op t x y _=>match ev env x,ev env y with
  |some (.int k a),some (.int k' b)=>if k=k' then(match V1 op a b with
   |some r=>some (.bool r)
   |none=>none)else none
  |some (.bool a),some (.bool b)=>match P.underlying t with
   |some .bool=>match op with
    | .eql=>some (.bool (a==b))
    | .neq=>some (.bool (!(a==b)))
    |_=>none
   |_=>none
  |some (.string a),some (.string b)=>match op with
   | .eql=>some (.bool (a.toList==b.toList))
   | .neq=>some (.bool (!(a.toList==b.toList)))
   |_=>none
  |_,_=>none
 | .makeInterface t x=>match ev env x,P.underlying t with
  |some _,some (.interface _)=>none
  |some v,some _=>some (.iface t v)
  |_,_=>none
 |_=>none
theorem run_equal_bool{P:Program}{t:TypeId}(hu:P.underlying t=some .bool)(a b:Bool)(w:World):(Op.equal t (vB a) (vB b)).run P w= .ok (a==b) w:=by
 have h:∀d:Nat,(Op.equalIn (d+1) t (vB a) (vB b)).run P w= .ok (a==b) w:=by intro d;rw[Op.equalIn,gG,iM hu,ig];rfl
 exact h 9999
set_option maxHeartbeats 1000000 in
theorem run_pure{P:Program}{fr:Act}{N:FN}{env:Env}(hF:Fr fr N env){op:Op}{v:Value}(h:tz P env op=some v){o:Oper}(ho:o.op=op)(w:World):(execOp fr.eval o).run P w= .ok (.value v) w:=by
 unfold execOp;rw[ho];unfold tz at h;split at h;case h_1=>simp[hF.ev h]
 case h_2=>simp[hF.ev h]
 case h_3 c x y=>
  split at h
  ·rename_i hc;simp[hF.ev hc,asBool,hF.ev h]
  ·rename_i hc;simp[hF.ev hc,asBool,hF.ev h]
  ·cases h
 case h_4 x=>
  split at h
  ·rename_i u hu;injection h with h;subst h;simp[hF.ev hu]
  ·cases h
 case h_5 t x=>
  split at h
  ·rename_i u hu;injection h with h;subst h;simp[hF.ev hu,Op.unary]
  ·cases h
 case h_6 s x f=>
  split at h
  ·rename_i fs a hs hx;split at h
   ·rename_i fl hfl;split at h
    ·rename_i i hi;split at h
     ·cases h
     ·rename_i n hn;injection h with h;subst h;simp[Instr.fieldAt,iM hs,hfl,hF.ev hx,Instr.sureAddr,fieldPlace,sizeOf,typeInfo,hi,hn]
    ·cases h
   ·cases h
  ·cases h
 case h_7 s x f=>
  split at h
  ·rename_i fs cs hs hx;split at h
   ·rename_i fl hfl;simp[Instr.field,iM hs,hfl,hF.ev hx,asAgg,V3 h]
   ·cases h
  ·cases h
 case h_8 fn first captured=>
  split at h
  ·rename_i u v hu hv;injection h with h;subst h;have e1:=Cf hF hu;have e2:=Cf hF hv;have e3:first.map fr.eval=u.toArray:=by apply o4;simpa using e1
   have e4:captured.map fr.eval=v.toArray:=by apply o4;simpa using e2
   simp[Instr.makeFunc,e3,e4]
  ·cases h
 case h_9 x i=>
  split at h
  ·rename_i vs hx;simp[hF.ev hx,Instr.extract,h]
  ·cases h
 case h_10 t ps=>
  split at h
  ·rename_i vs hv;split at h
   ·rename_i cells hc;injection h with h;subst h;have e1:=y4 hF hv;have e2:(ps.map fun(i,x)=>(i,fr.eval x))=vs.toArray:=by apply o4;simpa using e1
    simp only[e2,gG,run_build (P:=P) w t vs.toArray cells (by simpa using hc),ig];rfl
   ·cases h
  ·cases h
 case h_11 args ts=>
  split at h
  ·rename_i x t hx ht;have rR:args=#[x]:=by apply o4;simpa using hx
   have ht':ts=#[t]:=by apply o4;simpa using ht
   subst rR ht';split at h
   ·rename_i e a n c hu hv;injection h with h;subst h;simp[resolve,invoke,builtin,Builtin.len_,iM hu,hF.ev hv,goInt]
   ·rename_i s hu hv;injection h with h;subst h;simp[resolve,invoke,builtin,Builtin.len_,iM hu,hF.ev hv,goInt]
   ·cases h
  ·cases h
 case h_12 op t x y t'=>
  split at h
  ·rename_i k a k' b hx hy;split at h
   ·rename_i hk;subst hk;simp only[hF.ev hx,hF.ev hy];cases op<;>simp only[V1]at h<;>first
     |(cases h;done)
     |(injection h with h;subst h;simp[eqGuard,binOp,Op.intCmp])
   ·cases h
  ·rename_i a b hx hy;split at h
   ·rename_i hu;simp only[hF.ev hx,hF.ev hy];split at h
    ·injection h with h;subst h;simp[eqGuard,binOp,run_equal_bool hu]
    ·injection h with h;subst h;simp[eqGuard,binOp,run_equal_bool hu]
    ·cases h
   ·cases h
  ·rename_i a b hx hy;simp only[hF.ev hx,hF.ev hy];split at h
   ·injection h with h;subst h;simp[eqGuard,binOp,Op.stringOp]
   ·injection h with h;subst h;simp[eqGuard,binOp,Op.stringOp]
   ·cases h
  ·cases h
 case h_13 t x=>
  split at h
  ·cases h
  ·rename_i u d hd hx hu;injection h with h;subst h;cases d<;>first
    |(exact absurd rfl (hd _))
    |simp[Instr.makeInterface,hF.ev hx,iM hu]
  ·cases h
 case h_14=>cases h
def gz(P:Program)(c:Code)(N:FN):Nat->Nat->Env->Option Env
 |0,_,env=>some env
 |n+1,k,env=>match aB c k with
  |some (d,op,_,g)=>match jW d N with
   |true=>match bU c g env with
    |some true=>match tz P env op with
     |some v=>gz P c N n (k+1) (eJ env d v)
     |none=>none
    |some false=>gz P c N n (k+1) (eJ env d undef)
    |none=>none
   |false=>none
  |none=>none
section
variable{P:Program}{c:Code}{K:Act -> World -> Prop}{Q:Exit -> Act -> World -> Prop}{w:World}
theorem xB{N:FN}:∀(n k:Nat) {a:Act} {env Se:Env},Fr a N env->gz P c N n k env=some Se->(∀a',Fr a' N Se->bL P c K Q (k+n) a' w)->bL P c K Q k a w
 |0,k,a,env,Se,hF,hp,h=>by simp only[gz,eO]at hp;subst hp;exact h a hF
 |n+1,k,a,env,Se,hF,hp,h=>by
  simp only[gz]at hp;split at hp
  ·rename_i d op ty g hk;split at hp
   ·rename_i hd;split at hp
    ·rename_i hg;split at hp
     ·rename_i v hv;refine lP hk hF hg (λo ho _=>run_pure hF hv ho w) ?_;exact xB n (k+1) (hF.put hd v) hp (λa' Na=>by have:=h a' Na;rwa [show k+(n+1)=k+1+n by omega]at this)
     ·cases hp
    ·rename_i hg;refine yY hk hF hg ?_;exact xB n (k+1) (hF.put hd undef) hp (λa' Na=>by have:=h a' Na;rwa [show k+(n+1)=k+1+n by omega]at this)
    ·cases hp
   ·cases hp
  ·cases hp
end
end Go.Mor
