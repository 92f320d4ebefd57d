/-
  Texts of the proof, part 14.
-/
import Derived.Test.YtejbeeaomokjpaaGreatZm13
import Derived.Shelf.SlSortCmp.Whole1
set_option maxRecDepth 10000
namespace Go.Mor
open Go.RowKit Go.Sort Go.Proofs
def Gw(w w':World):Prop:=∃q os,w'=grow (w.drewN q) os
theorem Gw.refl(w:World):Gw w w:=⟨0,#[],by rw[grow_empty];rfl⟩
theorem Gw.drew{w w':World}(h:Gw w w'):Gw w w'.drew:=by
 obtain⟨q,os,rfl⟩:=h;exact⟨q+1,os,rfl⟩
theorem Gw.kp{w w':World}(h:Gw w w'):Mem bq w w' []:=by
 obtain⟨q,os,rfl⟩:=h;refine⟨rfl,rfl,rfl,by simp[grow,World.drewN],fun k hk _=> ?_,sI,List.Pairwise.nil⟩;show(w.heap++os)[k]?=w.heap[k]?;rw[Array.getElem?_append_left hk]
end Go.Mor
namespace Go.Mor
open Go.RowKit Go.Sort Go.Proofs
theorem wI{α:Type}[Inhabited α](enc:α→Value)(d:Array α)(cur:Array Value)(h:d.size≤cur.size):((putCells enc 0 d cur).toList).take d.size=d.toList.map enc:=by
 refine List.ext_getElem? fun i=> ?_
 by_cases hi:i<d.size
 ·have h2:i<cur.size:=oM;have e1:(putCells enc 0 d cur).toList[i]?=some (enc d[i]!):=by unfold putCells;rw[Array.getElem?_toList,Array.getElem?_mapIdx,Array.getElem?_eq_getElem h2];simp[hi]
  rw[List.getElem?_take_of_lt hi,e1,List.getElem?_map,Array.getElem?_toList,Array.getElem?_eq_getElem hi];simp[hi]
 ·rw[List.getElem?_eq_none (by rw[List.length_take];omega),List.getElem?_eq_none (by simp;omega)]
theorem Gv{α:Type}[Inhabited α](enc:α→Value){w:World}{e n c g:Nat}{xs:aP}(h:(bx.row e 1 (some (aZ g)) n c xs).holds w)(m:Nat){dk:Array α}(hd:dk.size=n)(os:Array Obj):Mem (bx.row e 1 (some (aZ g)) n c xs).fp w (sortWorld enc w g 0 m dk os) [.row e 1 (some (aZ g)) n c (dk.toList.map enc)]:=by
 obtain⟨hl,h2⟩:=h;rcases h2 with⟨h2,_⟩|⟨g',cap,cur,hv,hb,hg,Vs,ZT,oZ,ht⟩
 ·cases h2
 injection hv with hv _ hc;injection hv with hv;injection hv with hv;subst hv hc;have eV:g<w.heap.size:=ob hg;have RF:(sortWorld enc w g 0 m dk os).heap=(w.heap.modify g (onCells (putCells enc 0 dk)))++os:=rfl;refine⟨rfl,rfl,rfl,?_,fun k hk dt=> ?_,?_,List.pairwise_singleton _ _⟩
 ·rw[RF];simp
 ·rw[RF,Array.getElem?_append_left (by simpa using hk),Array.getElem?_modify,if_neg];intro e1;subst e1;exact dt ⟨(aZ g),rfl,rfl⟩
 ·simp only[List.mem_singleton];rintro _ rfl;refine⟨⟨by simp[hd],.inr ⟨g,c,putCells enc 0 dk cur,rfl,hb,?_,Vs,ZT,?_,?_⟩⟩,fun k hk=> .inl hk⟩
  ·rw[RF,Array.getElem?_append_left (by simpa using eV),Array.getElem?_modify,if_pos rfl,hg];rfl
  ·simpa[putCells]using oZ
  ·rw[Nat.mul_one,←hd];refine wI enc dk cur ?_;rw[Nat.mul_one]at oZ;omega
theorem Nh{α:Type}[Inhabited α](enc:α→Value){w:World}{e n c g:Nat}{d:Array α}(h:(bx.row e 1 (some (aZ g)) n c (d.toList.map enc)).holds w):Holds enc w g 0 d:=by
 intro j hj;obtain⟨ad,ha,hc⟩:=aD h j (enc d[j]!) (by rw[List.getElem?_map,Array.getElem?_toList,Array.getElem?_eq_getElem hj];simp[hj]);injection ha with ha;subst ha;rw[C0]at hc;have hf:=oe h j;rw[C0]at hf;exact⟨by rw[Nat.zero_add];exact hc,by rw[Nat.zero_add];exact hf⟩
def ko(n:Nat)(key:Nat→Int)(il:List Nat):Prop:=il.Perm (List.range n)∧il.Pairwise (fun i j=>key i≤key j)
def tX(nl fl:af)(i:Nat):Int:=nl.getD (fl.getD i 0).toNat 0
theorem ko.rising{n:Nat}{key:Nat→Int}{il:List Nat}(h:ko n key il)(hr:∀i j,i<j→j<n→key i<key j):il=List.range n:=by
 have key_inj:∀i j,i<n→j<n→key i≤key j→key j≤key i→i=j:=by
  intro i j hi hj h1 h2;rcases Nat.lt_trichotomy i j with h3|h3|h3
  ·have:=hr i j h3 hj;omega
  ·exact h3
  ·have:=hr j i h3 hi;omega
 refine List.Perm.eq_of_pairwise (le:=fun i j=>key i≤key j) ?_ h.2 ?_ h.1
 ·intro a b ha hb h1 h2;have nW:=List.mem_range.1 (h.1.mem_iff.1 ha);have AX:=List.mem_range.1 hb;exact key_inj a b nW AX h1 h2
 ·rw[List.pairwise_iff_getElem];intro i j hi hj LY;simp only[List.length_range]at hi hj;simp only[List.getElem_range];have:=hr i j LY hj;omega
def gI(l:List Nat):af:=l.map (fun i:Nat=>(i:Int))
theorem Ni{l:List Nat}{j i:Nat}(h:l[j]?=some i):(gI l)[j]?=some (i:Int):=by simp[gI,h]
theorem Nj{f:Nat→Int}{l:List Nat}{j i:Nat}(h:l[j]?=some i):(l.take (j+1)).map f=(l.take j).map f++[f i]:=by
 obtain⟨hj,he⟩:=List.getElem?_eq_some_iff.1 h;rw[List.take_succ_eq_append_getElem hj,List.map_append,he];rfl
def vV(n j:Nat):af:=gI (List.range j)++List.replicate (n-j) 0
theorem Jc(n:Nat):ints (vV n 0)=List.replicate n (vI 0):=by simp[vV,gI,ints]
theorem Nk(n:Nat):vV n n=gI (List.range n):=by simp[vV]
theorem Jd{n j:Nat}(h:j<n):(ints (vV n j)).set j (vI (j:Int))=ints (vV n (j+1)):=by
 unfold vV gI ints;obtain⟨d,hd⟩:=Nat.le.dest h;rw[show n-j=d+1 by omega,show n-(j+1)=d by omega,List.replicate_succ,List.range_succ];simp
def D4(n:Nat)(i:Fin n):Value:=vI (i.val:Int)
def cfF(nl fl:af)(n:Nat)(i j:Fin n):Int:=tX nl fl i.val-tX nl fl j.val
theorem Xq(nl fl:af)(n:Nat):SWO (ltOf (cfF nl fl n)):=by
 have e:∀x y,ltOf (cfF nl fl n) x y=decide (tX nl fl x.val<tX nl fl y.val):=by intro x y;unfold ltOf cfF;exact Ds.2 oM
 refine⟨fun x=> ?_,fun x y z h1 h2=> ?_,fun x y z h1 h2=> ?_⟩
 ·rw[e];simp
 ·rw[e]at*;simp at*;omega
 ·rw[e]at*;simp at*;omega
theorem Je(n:Nat):((Array.ofFn (n:=n) id).toList).map (D4 n)=ints (gI (List.range n)):=by
 refine List.ext_getElem? fun i=> ?_
 by_cases hi:i<n
 ·simp[ints,gI,D4,hi]
 ·simp[ints,gI,D4,hi]
theorem Jf{nl fl:af}{n:Nat}[Inhabited (Fin n)]{d':Array (Fin n)}(hp:PermIn 0 (Array.ofFn (n:=n) id).size (Array.ofFn (n:=n) id) d')(hs:SortedIn (ltOf (cfF nl fl n)) 0 (Array.ofFn (n:=n) id).size d'):ko n (tX nl fl) (d'.toList.map (·.val))∧d'.toList.map (D4 n)=ints (gI (d'.toList.map (·.val))):=by
 obtain⟨h1,_,h3⟩:=hp;have hn:(Array.ofFn (n:=n) id).size=n:=sI;have rn:d'.size=n:=by rw[h1,hn]
 refine⟨⟨?_,?_⟩,?_⟩
 ·have e1:d'.extract 0 (Array.ofFn (n:=n) id).size=d':=by rw[←h1];exact Array.extract_size
  rw[e1,Array.extract_size]at h3;have:=h3.map (fun i:Fin n=>i.val);refine this.trans ?_;have e2:((Array.ofFn (n:=n) id).toList).map (fun i:Fin n=>i.val)=List.range n:=by
   refine List.ext_getElem? fun i=> ?_
   by_cases hi:i<n<;>simp[hi]
  rw[e2]
 ·rw[List.pairwise_iff_getElem];intro i j hi hj LY;simp only[List.length_map,Array.length_toList]at hi hj;have:=hs i j (Nat.zero_le _) LY (by rw[hn,←rn];exact hj);rw[getElem!_pos d' j oM,getElem!_pos d' i oM]at this;unfold ltOf cfF at this;simp only[decide_eq_false_iff_not]at this;simp only[List.getElem_map,Array.getElem_toList];omega
 ·unfold ints gI;rw[List.map_map,List.map_map];rfl
end Go.Mor
namespace Go.Mor
open Go.RowKit
def sU{α β:Type}(R:α→β→Prop)(l:List α)(m:List β):Prop:=l.length=m.length∧∀(i:Nat) (x:α) (y:β),l[i]?=some x→m[i]?=some y→R x y
section
variable {α β : Type} {R : α → β → Prop} {l : List α} {m : List β}
theorem sU.nil:sU R [] []:=⟨rfl,fun i x y h=>by simp at h⟩
theorem sU.snoc(h:sU R l m){x:α}{y:β}(hr:R x y):sU R (l++[x]) (m++[y]):=by
 obtain⟨hl,h⟩:=h;refine⟨by simp[hl],fun i a b ha hb=> ?_⟩;rcases Nat.lt_trichotomy i l.length with h1|h1|h1
 ·rw[List.getElem?_append_left h1]at ha;rw[List.getElem?_append_left oM]at hb;exact h i a b ha hb
 ·subst h1;rw[List.getElem?_append_right (Nat.le_refl _),Nat.sub_self]at ha;rw[List.getElem?_append_right oM,hl,Nat.sub_self]at hb;simp at ha hb;subst ha hb;exact hr
 ·rw[List.getElem?_eq_none (by simp;omega)]at ha;cases ha
theorem sU.next{k:Nat}(h:sU R (l.take k) m){x:α}(hx:l[k]?=some x){y:β}(hr:R x y):sU R (l.take (k+1)) (m++[y]):=by
 obtain⟨hk,he⟩:=List.getElem?_eq_some_iff.1 hx;rw[List.take_succ_eq_append_getElem hk,he];exact h.snoc hr
end
def tY(gl:List Bool)(k:Nat):Nat:=((gl.take k).filter (fun b=> !b)).length
def sV(gl:List Bool)(k:Nat):af:=(List.range gl.length).map (fun i=>if i<k∧gl.getD i true=false then(tY gl i:Int)else 0)
theorem K1(gl:List Bool)(k:Nat):tY gl k≤k:=by
 unfold tY;exact Nat.le_trans (List.length_filter_le _ _) (by simp;omega)
theorem RG{gl:List Bool}{k:Nat}(h:gl[k]?=some false):tY gl (k+1)=tY gl k+1:=by
 obtain⟨hk,he⟩:=List.getElem?_eq_some_iff.1 h;unfold tY;rw[List.take_succ_eq_append_getElem hk,List.filter_append,he];simp
theorem Xr{gl:List Bool}{k:Nat}(h:gl[k]?=some true):tY gl (k+1)=tY gl k:=by
 obtain⟨hk,he⟩:=List.getElem?_eq_some_iff.1 h;unfold tY;rw[List.take_succ_eq_append_getElem hk,List.filter_append,he];simp
theorem Gx(gl:List Bool)(k:Nat):(sV gl k).length=gl.length:=by simp[sV]
theorem Nl(gl:List Bool):ints (sV gl 0)=List.replicate gl.length (vI 0):=by
 unfold sV ints;simp only[Nat.not_lt_zero,false_and,if_false,List.map_map];refine List.ext_getElem? fun i=> ?_
 by_cases hi:i<gl.length
 ·simp[hi]
 ·simp[hi]
theorem RH{gl:List Bool}{k:Nat}(h:gl[k]?=some false):(ints (sV gl k)).set k (vI (tY gl k:Int))=ints (sV gl (k+1)):=by
 obtain⟨hk,he⟩:=List.getElem?_eq_some_iff.1 h;unfold sV ints;refine List.ext_getElem? fun i=> ?_
 by_cases hi:i<gl.length
 ·by_cases e:k=i
  ·subst e;rw[List.getElem?_set_self (by simpa using hk)];simp[hk,List.getD,he]
  ·rw[List.getElem?_set_ne e];simp only[List.getElem?_map,List.getElem?_range hi,Option.map_some];have:(i<k∧gl.getD i true=false)↔(i<k+1∧gl.getD i true=false):=and_congr oM Iff.rfl;simp only[this]
 ·rw[List.getElem?_eq_none (by simp;omega),List.getElem?_eq_none (by simp;omega)]
theorem Xt{gl:List Bool}{k:Nat}(h:gl[k]?=some true):sV gl k=sV gl (k+1):=by
 obtain⟨hk,he⟩:=List.getElem?_eq_some_iff.1 h;unfold sV;refine List.map_congr_left fun i _=> ?_
 have:(i<k∧gl.getD i true=false)↔(i<k+1∧gl.getD i true=false):=by
  by_cases e:i=k
  ·subst e;simp[List.getD,h]
  ·exact and_congr oM Iff.rfl
 simp only[this]
def zb(gl:List Bool):af:=sV gl gl.length
theorem Gy{gl:List Bool}{k i:Nat}(hi:i<gl.length):(sV gl k).getD i 0=if i<k∧gl.getD i true=false then(tY gl i:Int)else 0:=by
 unfold sV;rw[List.getD_eq_getElem?_getD,List.getElem?_map,List.getElem?_range hi];rfl
theorem RI(gl:List Bool)(k:Nat)(hl:gl.length≤1000000):0≤(zb gl).getD k 0∧(zb gl).getD k 0≤1000000:=by
 unfold zb;by_cases hk:k<gl.length
 ·have:=K1 gl k;rw[Gy hk];by_cases hc:k<gl.length∧gl.getD k true=false
  ·rw[if_pos hc];omega
  ·rw[if_neg hc];omega
 ·rw[List.getD_eq_getElem?_getD,List.getElem?_eq_none (by rw[Gx];omega)];simp
def lV(ks:List gT):List Bool:=ks.map (fun x=>x.gone)
def toA(nl:af)(e a:Int):Int:=if e=0∨e=1 then nl.getD a.toNat 0 else if e=3 then a else 0
def toBb(nl:af)(e b:Int):Int:=if e=1 then nl.getD b.toNat 0 else 0
def ToP(nl:af)(p:y8)(q:bZ):Prop:=q.dst=p.dst∧∃il,ko p.from_.length (tX nl p.from_) il∧q.args=il.map (fun i=>p.args.getD i 0)
structure ToB(nl:af)(x:gT)(y:aE):Prop where
 au:sU (ToP nl) x.au y.au
 insts:y.insts.map bl.e0=x.insts
 e:y.e=x.e
 v:y.v=x.v
 a:y.a=toA nl x.e x.a
 b:y.b=toBb nl x.e x.b
def rQ(ks:List gT):List gT:=ks.filter (fun x=> !x.gone)
def ToQ(ks:List gT)(fs:List aE):Prop:=sU (ToB (zb (lV ks))) (rQ ks) fs
structure Qcl(n:Int)(x:gT):Prop where
 lp:x.au.length≤20000
 au:∀p,p∈x.au→0<p.from_.length∧p.from_.length≤20000∧p.args.length=p.from_.length∧∀s,s∈p.from_→0≤s∧s<n
 e0:x.e=0→0≤x.a∧x.a<n
 e1:x.e=1→(0≤x.a∧x.a<n)∧0≤x.b∧x.b<n
theorem RJ{ks:List gT}{k:Nat}{x:gT}(hx:ks[k]?=some x)(h:x.gone=false):rQ (ks.take (k+1))=rQ (ks.take k)++[x]:=by
 obtain⟨hk,he⟩:=List.getElem?_eq_some_iff.1 hx;unfold rQ;rw[List.take_succ_eq_append_getElem hk,List.filter_append,he];simp[h]
theorem Xu{ks:List gT}{k:Nat}{x:gT}(hx:ks[k]?=some x)(h:x.gone=true):rQ (ks.take (k+1))=rQ (ks.take k):=by
 obtain⟨hk,he⟩:=List.getElem?_eq_some_iff.1 hx;unfold rQ;rw[List.take_succ_eq_append_getElem hk,List.filter_append,he];simp[h]
section
variable {w : World} {A : Option Addr} {c : Nat} {ad : Addr} {k : Nat} {gs : List bN} {x : bN}
theorem xB(h:(jS A c gs).holds w)(hA:A=some ad)(hx:gs[k]?=some x):w.cell? (ad.add (k*1))=some (vP (aZ x.g)):=bJ (aD h) hA (by unfold jW;rw[List.getElem?_map,hx];rfl)
theorem Gz(h:(bx.pk (gs.map gB)).holds w)(hx:gs[k]?=some x){r:bx}(hr:r∈gL x):r.holds w:=o4 (o4 h (List.mem_map.2 ⟨x,List.mem_of_getElem? hx,rfl⟩):(gB x).holds w) hr
theorem oJ(h:(bx.pk (gs.map gB)).holds w)(hx:gs[k]?=some x){j:Nat}{v:Value}(hj:(gV x)[j]?=some v):w.cell? (ao x.g j)=some v:=ae (Gz h hx (r:= .aB x.g 79 (gV x)) sI) hj
theorem Xv(hx:gs[k]?=some x):(lV (gs.map bN.k))[k]?=some x.gone:=by
 unfold lV;rw[List.getElem?_map,List.getElem?_map,hx];rfl
theorem Cu(ks:List gT):(lV ks).length=ks.length:=by simp[lV]
end
end Go.Mor
namespace Go.Mor
open Go.RowKit
def dh.f(p:dh):bZ:=⟨p.dst,none,0,p.args⟩
def bN.f(x:bN):aE:=⟨none,0,x.au.map dh.f,none,0,x.insts.map bl.e0,x.e,x.v,x.a,x.b⟩
section
variable {fs : List aE} {gs : List bN} {nm : ByteArray} {pa va : Int}
theorem Qfr(h:gs.map bN.k=mK fs):gs.map bN.f=fs.map aE.e0:=by
 have hl:gs.length=fs.length:=by have:=congrArg List.length h;rwa [List.length_map,j8]at this
 refine List.ext_getElem? fun i=> ?_
 rw[List.getElem?_map,List.getElem?_map];by_cases hi:i<fs.length
 ·obtain⟨x,hx⟩:=aM (l:=fs) hi;obtain⟨y,hy⟩:=aM (l:=gs) (i:=i) oM;have h1:=congrArg (fun l:List gT=>l[i]?) h;simp only[List.getElem?_map,hy,Option.map_some,nH hx]at h1;injection h1 with h1;rw[hx,hy,Option.map_some,Option.map_some];congr 1;unfold bN.f aE.e0;have e1:y.au.map dh.k=x.au.map (qy (bG (aq fs) (i:Int))):=congrArg gT.au h1;have e2:y.insts.map bl.e0=x.insts.map bl.e0:=congrArg gT.insts h1;have e3:y.e=x.e:=congrArg gT.e h1;have e4:y.v=x.v:=congrArg gT.v h1;have e5:y.a=x.a:=congrArg gT.a h1;have e6:y.b=x.b:=congrArg gT.b h1;have e7:y.au.map dh.f=x.au.map bZ.e0:=by have h2:=congrArg (List.map (fun p:y8=>(⟨p.dst,none,0,p.args⟩:bZ))) e1;rw[List.map_map,List.map_map]at h2;exact h2
  rw[e2,e3,e4,e5,e6,e7]
 ·rw[List.getElem?_eq_none oM,List.getElem?_eq_none oM];rfl
theorem GA(h:gs.map bN.k=mK fs):eH fs (gs.map bN.f):=by
 unfold eH;rw[Qfr h,List.map_map];refine List.map_congr_left fun x _=> ?_
 show x.e0=x.e0.e0;unfold aE.e0;simp only[List.map_map];rfl
end
section
variable {fs gs : List aE}
theorem Rd.alike(h:eH fs gs){v:Int}(hv:Rd fs v):Rd gs v:=by
 have key:∀x,x∈fs→∃y,y∈gs∧x.e0=y.e0:=by intro x hx;obtain⟨k,hk⟩:=List.mem_iff_getElem?.1 hx;obtain⟨y,hy,e⟩:=qu h hk;exact⟨y,List.mem_of_getElem? hy,e⟩
 induction hv with
 | @inst x i v hx hi hp hv h0=>
  obtain⟨y,hy,e⟩:=key x hx;obtain⟨j,hj⟩:=List.mem_iff_getElem?.1 hi;obtain⟨q,hq,e1,e2,e3,e4,e5⟩:=tU e hj;exact .inst hy (List.mem_of_getElem? hq) (e1▸hp) (e5▸hv) h0
 | @fin x hx he h0=>
  obtain⟨y,hy,e⟩:=key x hx;rw[MR e];exact .fin hy (by rw[←Rh e];exact he) (by rw[←MR e];exact h0)
 | @sf x p v hx hi hd hv h0 ih=>
  obtain⟨y,hy,e⟩:=key x hx;obtain⟨j,hj⟩:=List.mem_iff_getElem?.1 hi;obtain⟨q,hq,e1,e2⟩:=IZ e hj;exact .sf hy (List.mem_of_getElem? hq) (e1▸ih) (e2▸hv) h0
 | @pure x i v hx hi hp hd hv h0 ih=>
  obtain⟨y,hy,e⟩:=key x hx;obtain⟨j,hj⟩:=List.mem_iff_getElem?.1 hi;obtain⟨q,hq,e1,e2,e3,e4,e5⟩:=tU e hj;exact .pure hy (List.mem_of_getElem? hq) (e1▸hp) (e2▸ih) (e5▸hv) h0
theorem Jg(h:eH fs gs):eH (fe fs) (fe gs):=by
 have hr:∀v,Rd fs v↔Rd gs v:=fun v=>⟨Rd.alike h,Rd.alike h.symm⟩
 have e:∀x:aE,(gX fs x).e0=gX gs x.e0:=by
  intro x;unfold gX aE.e0;simp only[aE.mk.injEq,true_and,and_true];refine⟨?_,?_⟩
  ·rw[List.filter_map];congr 1;refine List.filter_congr fun p _=> ?_
   unfold o7;exact Ds.2 (hr _)
  ·rw[List.filter_map];congr 1;refine List.filter_congr fun p _=> ?_
   unfold jk;exact Ds.2 (by show¬(db p.op∧¬Rd fs p.dst)↔¬(db p.op∧¬Rd gs p.dst);rw[hr])
 have e':∀x:aE,(gX gs x).e0=gX gs x.e0:=by
  intro x;unfold gX aE.e0;simp only[aE.mk.injEq,true_and,and_true];refine⟨?_,?_⟩
  ·rw[List.filter_map];rfl
  ·rw[List.filter_map];rfl
 unfold eH fe;rw[List.map_map,List.map_map];have h1:fs.map (aE.e0∘gX fs)=(fs.map aE.e0).map (gX gs):=by rw[List.map_map];exact List.map_congr_left fun x _=>e x
 have h2:gs.map (aE.e0∘gX gs)=(gs.map aE.e0).map (gX gs):=by rw[List.map_map];exact List.map_congr_left fun x _=>e' x
 rw[h1,h2,h]
end
theorem zc{α β:Type}{f:α→List β}:∀{l:List α},(l.flatMap f).Nodup→∀{i j:Nat} {x y:α} {v:β},l[i]?=some x→l[j]?=some y→v∈f x→v∈f y→i=j
 |[],_,i,_,_,_,_,hi,_,_,_=>by simp at hi
 |a::l,h,i,j,x,y,v,hi,hj,hx,hy=>by
  rw[List.flatMap_cons,List.nodup_append]at h;obtain⟨_,h2,h3⟩:=h;cases i with
  |zero=>
   cases j with
   |zero=>rfl
   |succ j=>
    simp at hi hj;subst hi;exact absurd rfl (h3 v hx v (List.mem_flatMap.2 ⟨y,List.mem_of_getElem? hj,hy⟩))
  |succ i=>
   cases j with
   |zero=>
    simp at hi hj;subst hj;exact absurd rfl (h3 v hy v (List.mem_flatMap.2 ⟨x,List.mem_of_getElem? hi,hx⟩))
   |succ j=>
    simp at hi hj;rw[zc h2 hi hj hx hy]
theorem tZ{α β:Type}{f:α→List β}:∀{l:List α} {x:α},x∈l→(f x).Sublist (l.flatMap f)
 |a::l,x,h=>by
  rw[List.flatMap_cons];rcases List.mem_cons.1 h with rfl|h
  ·exact List.sublist_append_left _ _
  ·exact(tZ h).trans (List.sublist_append_right _ _)
theorem zd{α β:Type}{f:α→β}{l:List α}(h:(l.map f).Nodup){x y:α}(hx:x∈l)(hy:y∈l)(e:f x=f y):x=y:=by
 obtain⟨i,hi⟩:=List.mem_iff_getElem?.1 hx;obtain⟨j,hj⟩:=List.mem_iff_getElem?.1 hy;have hp:=List.pairwise_map.1 h;by_cases LY:i=j
 ·subst LY;rw[hi]at hj;injection hj
 ·exact absurd e (lv (R:=fun a b=>f a≠f b) (fun _ _ h e=>h e.symm) hp hi hj LY)
inductive GB(fs:List aE)(v:Int):af→Prop
 |sf {x:aE} {p:bZ}:x∈fs→p∈x.au→p.dst=v→GB fs v p.args
 |inst {x:aE} {i:bl}:x∈fs→i∈x.insts→db i.op→i.dst=v→GB fs v i.args
theorem GB.uniq{fs:List aE}{pa va:Int}(h:eO pa va (bO fs)){v:Int}{l m:af}(h1:GB fs v l)(h2:GB fs v m):l=m:=by
 have hn:=h.2;rw[q6]at hn;have key:∀{x y:aE},x∈fs→y∈fs→v∈o6 x→v∈o6 y→x=y:=by intro x y hx hy h3 h4;obtain⟨i,hi⟩:=List.mem_iff_getElem?.1 hx;obtain⟨j,hj⟩:=List.mem_iff_getElem?.1 hy;have:=zc hn hi hj h3 h4;subst this;rw[hi]at hj;injection hj
 have hb:∀x,x∈fs→(o6 x).Nodup:=by intro x hx;exact hn.sublist (tZ hx)
 have mp:∀{x:aE} {p:bZ},p∈x.au→p.dst∈o6 x:=fun hp=>List.mem_append_left _ (List.mem_map.2 ⟨_,hp,rfl⟩)
 have mi:∀{x:aE} {i:bl},i∈x.insts→db i.op→i.dst∈o6 x:=fun hi hp=>List.mem_append_right _ (List.mem_map.2 ⟨_,List.mem_filter.2 ⟨hi,by simp[jf hp]⟩,rfl⟩)
 cases h1 with
 | @sf x p hx hp e=>
  cases h2 with
  | @sf y q hy hq e2=>
   have:=key hx hy (e▸mp hp) (e2▸mp hq);subst this;have h3:=(List.nodup_append.1 (hb x hx)).1;rw[zd h3 hp hq (e.trans e2.symm)]
  | @inst y q hy hq Xw e2=>
   have:=key hx hy (e▸mp hp) (e2▸mi hq Xw);subst this;have h3:=(List.nodup_append.1 (hb x hx)).2.2;exact absurd (e.trans e2.symm) (h3 p.dst (List.mem_map.2 ⟨p,hp,rfl⟩) q.dst (List.mem_map.2 ⟨q,List.mem_filter.2 ⟨hq,by simp[jf Xw]⟩,rfl⟩))
 | @inst x p hx hp Xx e=>
  cases h2 with
  | @sf y q hy hq e2=>
   have:=key hx hy (e▸mi hp Xx) (e2▸mp hq);subst this;have h3:=(List.nodup_append.1 (hb x hx)).2.2;exact absurd (e2.trans e.symm) (h3 q.dst (List.mem_map.2 ⟨q,hq,rfl⟩) p.dst (List.mem_map.2 ⟨p,List.mem_filter.2 ⟨hp,by simp[jf Xx]⟩,rfl⟩))
  | @inst y q hy hq Xw e2=>
   have:=key hx hy (e▸mi hp Xx) (e2▸mi hq Xw);subst this;have h3:=(List.nodup_append.1 (hb x hx)).2.1;rw[zd h3 (List.mem_filter.2 ⟨hp,by simp[jf Xx]⟩) (List.mem_filter.2 ⟨hq,by simp[jf Xw]⟩) (e.trans e2.symm)]
abbrev vW:=ar×Nat×af
def frV(e:vW):Value:=vS e.1 e.2.2.length e.2.1
def pJ(fc:List vW):aP:=fc.map frV
inductive rv(gs:List bN)(v:Int):vW→Prop
 |sf {x:bN} {p:dh}:x∈gs→p∈x.au→p.dst=v→rv gs v (p.aA,p.ac,p.args)
 |inst {x:bN} {i:bl}:x∈gs→i∈x.insts→db i.op→i.dst=v→rv gs v (i.A,i.c,i.args)
theorem rv.mk{gs:List bN}{v:Int}{e:vW}(h:rv gs v e):GB (gs.map bN.f) v e.2.2:=by
 cases h with
 | @sf x p hx hp e=>exact .sf (p:=p.f) (List.mem_map.2 ⟨x,hx,rfl⟩) (List.mem_map.2 ⟨p,hp,rfl⟩) e
 | @inst x i hx hi hp e=>exact .inst (i:=i.e0) (List.mem_map.2 ⟨x,hx,rfl⟩) (List.mem_map.2 ⟨i,hi,rfl⟩) hp e
def Xy(gs:List bN)(fc:List vW):Prop:=∀(v:Nat) (e:vW),fc[v]?=some e→e=(none,0,[])∨rv gs (v:Int) e
def Vf(gs:List bN)(fc:List vW)(v:Int):Prop:=∃e,fc[v.toNat]?=some e∧rv gs v e
section
variable {gs : List bN} {fc : List vW} {v u : Int} {e : vW}
theorem Xy.zero(n:Nat):Xy gs (List.replicate n (none,0,[])):=fun v e h=>by
 rw[List.getElem?_replicate]at h;split at h
 ·injection h with h;exact .inl h.symm
 ·cases h
theorem Xy.set(h:Xy gs fc)(h0:0≤v)(hg:rv gs v e):Xy gs (fc.set v.toNat e):=by
 intro u e' hu;by_cases hq:v.toNat=u
 ·subst hq;have hl:v.toNat<fc.length:=by
   rcases Nat.lt_or_ge v.toNat fc.length with h|h
   ·exact h
   ·rw[List.getElem?_eq_none (by simpa using h)]at hu;cases hu
  rw[List.getElem?_set_self hl]at hu;injection hu with hu;subst hu;right;rw[Int.toNat_of_nonneg h0];exact hg
 ·rw[List.getElem?_set_ne hq]at hu;exact h u e' hu
theorem Vf.set(h:Vf gs fc u)(h0:0≤v)(hu0:0≤u)(hg:rv gs v e):Vf gs (fc.set v.toNat e) u:=by
 obtain⟨e',h1,h2⟩:=h;by_cases hq:v.toNat=u.toNat
 ·have:v=u:=oM;subst this;have hl:v.toNat<fc.length:=(List.getElem?_eq_some_iff.1 h1).1;exact⟨e,by rw[List.getElem?_set_self hl],hg⟩
 ·exact⟨e',by rw[List.getElem?_set_ne hq];exact h1,h2⟩
theorem Vf.new(hl:v.toNat<fc.length)(hg:rv gs v e):Vf gs (fc.set v.toNat e) v:=⟨e,by rw[List.getElem?_set_self hl],hg⟩
end
structure Wk(gs:List bN)(n:Nat)(fc:List vW)(rl:List Bool)(ls:af):Prop where
 len:rl.length=n
 rd:∀i:Nat,i<n→rl.getD i false=true→Rd (gs.map bN.f) (i:Int)
 lst:∀v,v∈ls→0≤v∧v<(n:Int)∧rl.getD v.toNat false=true
 cnt:ls.length≤za rl
 closed:∀i:Nat,i<n→rl.getD i false=true→(i:Int)∈ls∨∀e,fc[i]?=some e→∀a,a∈e.2.2→0≤a→rl.getD a.toNat false=true
section
variable {gs : List bN} {n : Nat} {fc : List vW} {rl : List Bool} {ls : List Int}
theorem Wk.start(gs:List bN)(n:Nat)(fc:List vW):Wk gs n fc (List.replicate n false) []where
 len:=sI;rd i hi h:=by simp[List.getD,hi]at h
 lst:=sI;cnt:=Nat.zero_le _;closed i hi h:=by simp[List.getD,hi]at h
theorem lW(h:rl.length=n){l:af}(hl:∀v,v∈l→v<(n:Int)){i:Nat}(hi:i<n)(hm:rl.getD i false=true):(bf l (rl,ls)).1.getD i false=true:=(kf l (rl,ls) i (fun v hv=>by show v<(rl.length:Int);rw[h];exact hl v hv) (by show i<rl.length;omega)).2 (.inl hm)
theorem Wk.reads(h:Wk gs n fc rl ls){l:af}(hl:∀v,v∈l→v<(n:Int))(hr:∀v,v∈l→0≤v→Rd (gs.map bN.f) v):Wk gs n fc (bf l (rl,ls)).1 (bf l (rl,ls)).2:=by
 have UU:∀v,v∈l→v<((rl,ls).1.length:Int):=fun v hv=>by show v<(rl.length:Int);rw[h.len];exact hl v hv
 have tr:=fun i=>kf l (rl,ls) i UU
 obtain⟨q1,q2,q3⟩:=kI l (rl,ls) UU;have yr:=ka l (rl,ls) UU;simp only at yr;refine⟨by rw[j9];exact h.len,fun i hi hm=> ?_,fun v hv=> ?_,by have:=h.cnt;omega,fun i hi hm=> ?_⟩
 ·rcases(tr i (by show i<rl.length;rw[h.len];exact hi)).1 hm with h1|h1
  ·exact h.rd i hi h1
  ·exact hr _ h1 (Int.natCast_nonneg _)
 ·rcases q1 v hv with h1|⟨h1,h2⟩
  ·obtain⟨a,b,c⟩:=h.lst v h1;exact⟨a,b,lW h.len hl oM c⟩
  ·refine⟨h2,hl v h1,?_⟩;have:=(tr v.toNat (by show v.toNat<rl.length;have:=hl v h1;rw[h.len];omega)).2 (.inr (by rw[Int.toNat_of_nonneg h2];exact h1));exact this
 ·rcases q3 i (by show i<rl.length;rw[h.len];exact hi) hm with h1|h1
  ·rcases h.closed i hi h1 with h2|h2
   ·exact .inl (q2 _ h2)
   ·refine .inr fun e he a ha h0=> ?_
    have:=h2 e he a ha h0;by_cases Aw:a.toNat<n
    ·exact lW h.len hl Aw this
    ·rw[List.getD_eq_getElem?_getD,List.getElem?_eq_none (by rw[h.len];omega)]at this;cases this
  ·exact .inl h1
theorem Wk.pop{v:Int}{e:vW}(h:Wk gs n fc rl (ls++[v]))(he:fc[v.toNat]?=some e)(hg:e=(none,0,[])∨rv gs v e)(hl:∀a,a∈e.2.2→a<(n:Int)):Wk gs n fc (bf e.2.2 (rl,ls)).1 (bf e.2.2 (rl,ls)).2:=by
 obtain⟨zY,hvn,hvm⟩:=h.lst v sI;have hvr:Rd (gs.map bN.f) v:=by have:=h.rd v.toNat oM hvm;rwa [Int.toNat_of_nonneg zY]at this
 have UU:∀a,a∈e.2.2→a<((rl,ls).1.length:Int):=fun a ha=>by show a<(rl.length:Int);rw[h.len];exact hl a ha
 have tr:=fun i=>kf e.2.2 (rl,ls) i UU
 obtain⟨q1,q2,q3⟩:=kI e.2.2 (rl,ls) UU;have yr:=ka e.2.2 (rl,ls) UU;simp only at yr;have hc0:=h.cnt;rw[List.length_append,List.length_singleton]at hc0;refine⟨by rw[j9];exact h.len,fun i hi hm=> ?_,fun u hu=> ?_,oM,fun i hi hm=> ?_⟩
 ·rcases(tr i (by show i<rl.length;rw[h.len];exact hi)).1 hm with h1|h1
  ·exact h.rd i hi h1
  ·rcases hg with rfl|hg
   ·cases h1
   ·cases hg with
    | @sf x p hx hp ed=>exact .sf (p:=p.f) (List.mem_map.2 ⟨x,hx,rfl⟩) (List.mem_map.2 ⟨p,hp,rfl⟩) (by show Rd _ p.dst;rw[ed];exact hvr) h1 (Int.natCast_nonneg _)
    | @inst x j hx hj hp ed=>exact .pure (i:=j.e0) (List.mem_map.2 ⟨x,hx,rfl⟩) (List.mem_map.2 ⟨j,hj,rfl⟩) hp (by show Rd _ j.dst;rw[ed];exact hvr) h1 (Int.natCast_nonneg _)
 ·rcases q1 u hu with h1|⟨h1,h2⟩
  ·obtain⟨a,b,c⟩:=h.lst u (List.mem_append_left _ h1);exact⟨a,b,lW h.len hl oM c⟩
  ·refine⟨h2,hl u h1,?_⟩;exact(tr u.toNat (by show u.toNat<rl.length;have:=hl u h1;rw[h.len];omega)).2 (.inr (by rw[Int.toNat_of_nonneg h2];exact h1))
 ·have keep:∀a:Int,0≤a→rl.getD a.toNat false=true→(bf e.2.2 (rl,ls)).1.getD a.toNat false=true:=by
   intro a h0 hm;by_cases Aw:a.toNat<n
   ·exact lW h.len hl Aw hm
   ·rw[List.getD_eq_getElem?_getD,List.getElem?_eq_none (by rw[h.len];omega)]at hm;cases hm
  rcases q3 i (by show i<rl.length;rw[h.len];exact hi) hm with h1|h1
  ·rcases h.closed i hi h1 with h2|h2
   ·rcases List.mem_append.1 h2 with h2|h2
    ·exact .inl (q2 _ h2)
    ·simp at h2;right;intro e' he' a ha h0;have:v.toNat=i:=oM;rw[←this,he]at he';injection he' with he';subst he';exact(tr a.toNat (by show a.toNat<rl.length;have:=hl a ha;rw[h.len];omega)).2 (.inr (by rw[Int.toNat_of_nonneg h0];exact ha))
   ·exact .inr fun e' he' a ha h0=>keep a h0 (h2 e' he' a ha h0)
  ·exact .inl h1
theorem Wk.done{pa va:Int}(h:Wk gs n fc rl [])(O5:0≤pa)(ho:eO pa va (bO (gs.map bN.f)))(eV:∀v,Rd (gs.map bN.f) v→v<(n:Int))(hd:∀x,x∈gs→(∀p,p∈x.au→Vf gs fc p.dst)∧∀i,i∈x.insts→db i.op→Vf gs fc i.dst)(hr:∀x,x∈gs→(∀i,i∈x.insts→¬db i.op→∀v,v∈i.args→0≤v→rl.getD v.toNat false=true)∧((x.e=1∨x.e=2)→0≤x.v→rl.getD x.v.toNat false=true)){v:Int}(zY:0≤v):rl.getD v.toNat false=true↔Rd (gs.map bN.f) v:=by
 constructor
 ·intro hm;by_cases hn:v.toNat<n
  ·have:=h.rd v.toNat hn hm;rwa [Int.toNat_of_nonneg zY]at this
  ·rw[List.getD_eq_getElem?_getD,List.getElem?_eq_none (by rw[h.len];omega)]at hm;cases hm
 ·have step:∀{d:Int} {args:af},GB (gs.map bN.f) d args→Vf gs fc d→Rd (gs.map bN.f) d→(0≤d→rl.getD d.toNat false=true)→0≤d→∀a,a∈args→0≤a→rl.getD a.toNat false=true:=by
   intro d args k0 ⟨e,he,hg⟩ yx ih hd0 a ha h0;have e1:e.2.2=args:=GB.uniq ho hg.mk k0;have rn:=eV d yx;rcases h.closed d.toNat oM (ih hd0)with h2|h2
   ·cases h2
   ·exact h2 e he a (by rw[e1];exact ha) h0
  have Qcm:∀d:Int,d∈(bO (gs.map bN.f)).map (·.1)→0≤d:=fun d hd=>by obtain⟨e,he,rfl⟩:=List.mem_map.1 hd;have:=(ho.1 e he).1;omega
  rw[q6]at Qcm;intro yx;clear zY;induction yx with
  | @inst x i v hx hi hp hv h0=>
   obtain⟨y,hy,rfl⟩:=List.mem_map.1 hx;obtain⟨j,hj,rfl⟩:=List.mem_map.1 hi;exact(hr y hy).1 j hj hp v hv h0
  | @fin x hx he h0=>
   obtain⟨y,hy,rfl⟩:=List.mem_map.1 hx;exact(hr y hy).2 he h0
  | @sf x p v hx hi yx hv h0 ih=>
   obtain⟨y,hy,rfl⟩:=List.mem_map.1 hx;obtain⟨j,hj,rfl⟩:=List.mem_map.1 hi;exact step (.sf hx hi rfl) ((hd y hy).1 j hj) yx (fun _=>ih) (Qcm _ (List.mem_flatMap.2 ⟨_,hx,List.mem_append_left _ (List.mem_map.2 ⟨_,hi,rfl⟩)⟩)) v hv h0
  | @pure x i v hx hi hp yx hv h0 ih=>
   obtain⟨y,hy,rfl⟩:=List.mem_map.1 hx;obtain⟨j,hj,rfl⟩:=List.mem_map.1 hi;exact step (.inst hx hi hp rfl) ((hd y hy).2 j hj hp) yx (fun _=>ih) (Qcm _ (List.mem_flatMap.2 ⟨_,hx,List.mem_append_right _ (List.mem_map.2 ⟨_,List.mem_filter.2 ⟨hi,by simp[jf hp]⟩,rfl⟩)⟩)) v hv h0
end
end Go.Mor
namespace Go.Mor
open Go.RowKit
end Go.Mor
namespace Go.Mor
end Go.Mor
namespace Go.Mor
open Go.RowKit
structure VR(n:Nat)(x:aE):Prop where
 au:∀p,p∈x.au→0≤p.dst∧p.dst<(n:Int)
 insts:∀p,p∈x.insts→-1≤p.dst∧p.dst<(n:Int)∧∀a,a∈p.args→0≤a∧a<(n:Int)
 fin:AB x→0≤x.v∧x.v<(n:Int)
end Go.Mor
namespace Go.Mor
open Go.RowKit
end Go.Mor
namespace Go.Mor
end Go.Mor
namespace Go.Mor
end Go.Mor
namespace Go.Mor
open Go.RowKit
theorem RK{fs:List aE}{k:Nat}{x:aE}{p:bZ}(hx:fs[k]?=some x)(hp:p∈x.au):(p.dst,(k:Int),-1)∈bO fs:=by
 unfold bO dz;rw[List.take_length,List.mem_flatMap];exact⟨(x,k),List.mem_zipIdx_iff_getElem?.2 hx,List.mem_append_left _ (List.mem_map.2 ⟨p,hp,rfl⟩)⟩
theorem GC{fs:List aE}{k j:Nat}{x:aE}{p:bl}(hx:fs[k]?=some x)(hp:x.insts[j]?=some p)(hm:aK p.op):(p.dst,(k:Int),(j:Int))∈bO fs:=by
 unfold bO dz;rw[List.take_length,List.mem_flatMap];exact⟨(x,k),List.mem_zipIdx_iff_getElem?.2 hx,List.mem_append_right _ (List.mem_map.2 ⟨(p,j),List.mem_filter.2 ⟨List.mem_zipIdx_iff_getElem?.2 hp,by simpa using hm⟩,rfl⟩)⟩
section
variable {nm : ByteArray} {pa va : Int} {fs : List aE} {n : Nat}
theorem Xz(h:iY nm pa va fs)(jR:va=(n:Int)):∀x,x∈fs→VR n x:=by
 intro x hx;obtain⟨k,hk⟩:=List.mem_iff_getElem?.1 hx;have Qk:=(List.getElem?_eq_some_iff.1 hk).1;obtain⟨y,hy,hr⟩:=h.reads k Qk;rw[hk]at hy;injection hy with hy;subst hy;have hp0:=h.par;refine⟨fun p hp=> ?_,fun p hp=> ?_,fun hf=> ?_⟩
 ·have:=h.bC.2.1 _ (RK hk hp);simp only at this;omega
 ·obtain⟨j,hj⟩:=List.mem_iff_getElem?.1 hp;have ha:∀a,a∈p.args→0≤a∧a<(n:Int):=by intro a ha;obtain⟨i,hi⟩:=List.mem_iff_getElem?.1 ha;have:=hr.insts j p hj i a hi;exact⟨this.1,by rw[←jR];exact this.2.1⟩
  by_cases hm:aK p.op
  ·have:=h.bC.2.1 _ (GC hk hj hm);simp only at this;exact⟨oM,oM,ha⟩
  ·rcases(h.bC.1 x hx p hp).1 with h1|h1
   ·exact absurd h1 hm
   ·exact⟨oM,oM,ha⟩
 ·have:=hr.fin (by unfold AB at hf;unfold qp;omega);exact⟨this.1,by rw[←jR];exact this.2.1⟩
end
end Go.Mor
namespace Go.Mor
open Go.RowKit
theorem oK{nm:aV}{pa va:Int}{fs:List aE}(h:cC nm pa va fs=0):iY nm pa va fs∧va≤20000∧(dw fs:Int)≤20000:=by
 unfold cC at h;split at h
 ·omega
 ·split at h
  ·rename_i h1 h2;exact⟨h2,oM,oM⟩
  ·omega
end Go.Mor
namespace Go.Mor
open Go.RowKit
def gT.f(x:gT):aE:=⟨none,0,x.au.map (fun p=>⟨p.dst,none,0,p.args⟩),none,0,x.insts,x.e,x.v,x.a,x.b⟩
structure Qam(n:Int)(p:y8):Prop where
 up:p.from_.Pairwise (·<·)
 Dy:∀s,s∈p.from_→0≤s∧s<n
 len:p.args.length=p.from_.length
def RL(n:Int)(x:gT):Prop:=(x.e=0∧(0≤x.a∧x.a<n)∧x.v=0∧x.b=0)∨(x.e=1∧(0≤x.a∧x.a<n)∧(0≤x.b∧x.b<n)∧x.a≠x.b)∨(x.e=2∧x.a=0∧x.b=0)∨(x.e=3∧dj x.a∧x.v=0∧x.b=0)
theorem Nn{gl:List Bool}(h:∀b,b∈gl→b=false){i:Nat}(hi:i<gl.length):(zb gl).getD i 0=(i:Int):=by
 unfold zb;have h1:gl.getD i true=false:=by rw[List.getD_eq_getElem?_getD,List.getElem?_eq_getElem hi];exact h _ (List.getElem_mem hi)
 rw[Gy hi,if_pos ⟨hi,h1⟩];have:tY gl i=i:=by unfold tY;rw[List.filter_eq_self.2 (fun b hb=>by rw[h b (List.mem_of_mem_take hb)];rfl),List.length_take];omega
 rw[this]
theorem RM(l:af):(List.range l.length).map (fun i=>l.getD i 0)=l:=by
 refine List.ext_getElem? fun i=> ?_
 by_cases hi:i<l.length
 ·simp[hi]
 ·simp[hi]
theorem XA{ks:List gT}{fs:List aE}(hg:∀x,x∈ks→x.gone=false)(he:∀x,x∈ks→RL (ks.length:Int) x)(hp:∀x,x∈ks→∀p,p∈x.au→Qam (ks.length:Int) p)(h:ToQ ks fs):fs.map aE.e0=ks.map gT.f:=by
 have hl:rQ ks=ks:=List.filter_eq_self.2 fun x hx=>by rw[hg x hx];rfl
 unfold ToQ at h;rw[hl]at h;obtain⟨hlen,h⟩:=h;have O6:∀b,b∈lV ks→b=false:=by intro b hb;obtain⟨x,hx,rfl⟩:=List.mem_map.1 hb;exact hg x hx
 have XB:∀a:Int,0≤a→a<(ks.length:Int)→(zb (lV ks)).getD a.toNat 0=a:=by intro a h0 h1;rw[Nn O6 (by rw[Cu];omega)];omega
 refine List.ext_getElem? fun i=> ?_
 rw[List.getElem?_map,List.getElem?_map];by_cases hi:i<ks.length
 ·obtain⟨x,hx⟩:=aM (l:=ks) hi;obtain⟨y,hy⟩:=aM (l:=fs) (i:=i) oM;have mI:=List.mem_of_getElem? hx;have hb:=h i x y hx hy;rw[hx,hy,Option.map_some,Option.map_some];congr 1;unfold aE.e0 gT.f;have h1:y.au.map bZ.e0=x.au.map (fun p=>(⟨p.dst,none,0,p.args⟩:bZ)):=by
   obtain⟨kY,hpp⟩:=hb.au;refine List.ext_getElem? fun j=> ?_
   rw[List.getElem?_map,List.getElem?_map];by_cases hj:j<x.au.length
   ·obtain⟨p,hpj⟩:=aM (l:=x.au) hj;obtain⟨q,hqj⟩:=aM (l:=y.au) (i:=j) oM;obtain⟨hd,il,hs,ha⟩:=hpp j p q hpj hqj;have hu:=hp x mI p (List.mem_of_getElem? hpj);have hk:∀i,i<p.from_.length→tX (zb (lV ks)) p.from_ i=p.from_.getD i 0:=by
     intro i hi;unfold tX;have hm:p.from_.getD i 0∈p.from_:=by rw[List.getD_eq_getElem?_getD,List.getElem?_eq_getElem hi];exact List.getElem_mem hi
     obtain⟨h0,h1⟩:=hu.Dy _ hm;exact XB _ h0 h1
    have:=hs.rising (fun a b OZ hb=>by rw[hk a oM,hk b hb];have:=List.pairwise_iff_getElem.1 hu.up a b oM hb OZ;rw[List.getD_eq_getElem?_getD,List.getD_eq_getElem?_getD,List.getElem?_eq_getElem hb,List.getElem?_eq_getElem (show a<p.from_.length by omega)];exact this)
    rw[this,←hu.len,RM]at ha;rw[hpj,hqj,Option.map_some,Option.map_some];unfold bZ.e0;rw[hd,ha]
   ·rw[List.getElem?_eq_none oM,List.getElem?_eq_none oM];rfl
  have ha:y.a=x.a∧y.b=x.b:=by
   rw[hb.a,hb.b];unfold toA toBb;rcases he x mI with⟨e,⟨h1,h2⟩,h3,h4⟩|⟨e,⟨h1,h2⟩,⟨h3,h4⟩,_⟩|⟨e,h1,h2⟩|⟨e,h1,h2,h3⟩
   ·rw[if_pos (.inl e),if_neg oM,XB _ h1 h2,h4];exact⟨rfl,rfl⟩
   ·rw[if_pos (.inr e),if_pos e,XB _ h1 h2,XB _ h3 h4];exact⟨rfl,rfl⟩
   ·rw[if_neg oM,if_neg oM,if_neg oM,h1,h2];exact⟨rfl,rfl⟩
   ·rw[if_neg oM,if_pos e,if_neg oM,h3];exact⟨rfl,rfl⟩
  rw[h1,hb.insts,hb.e,hb.v,ha.1,ha.2]
 ·rw[List.getElem?_eq_none oM,List.getElem?_eq_none oM];rfl
theorem XC(bs:List SB)(b:Int):(bG bs b).Pairwise (·<·):=by
 unfold bG ef;rw[List.pairwise_map];refine List.Pairwise.filter _ ?_;refine List.pairwise_lt_range.imp ?_;intro a b h;exact Int.ofNat_lt.2 h
section
variable {nm : ByteArray} {pa va : Int} {fs : List aE} {n : Nat}
theorem RN(h:iY nm pa va fs){k:Nat}(hk:k<fs.length)(h0:k≠0):0<(bG (aq fs) (k:Int)).length:=by
 have hr:Reach (tg (aq fs)) (k:Int):=by have h1:=nD (bs:=aq fs);rw[bK]at h1;exact j5.1 (h1.1 h.all k hk)
 have:∀x:Int,Reach (tg (aq fs)) x→x≠0→∃s,s∈bG (aq fs) x:=by
  intro x hx dt;cases hx with
  |zero=>exact absurd rfl dt
  |step hs ht=>
   rename_i s;refine⟨s,tJ.2 ⟨?_,ht⟩⟩;exact ny (by rw[bK];exact h.pos) hs
 obtain⟨s,hs⟩:=this _ hr oM;exact List.length_pos_of_mem hs
theorem K2(hv:cC nm pa va fs=0)(hN:fs.length≤1000):FSm fs:=by
 obtain⟨h,_,jB⟩:=oK hv;have hp:∀(k:Nat) (x:aE),fs[k]?=some x→x.au.length+x.insts.length≤dw fs:=by
  intro k x hx;have hm:x.au.length+x.insts.length∈(fs.take fs.length).map (fun x=>x.au.length+x.insts.length):=by rw[List.take_of_length_le (Nat.le_refl _)];exact List.mem_map.2 ⟨x,List.mem_of_getElem? hx,rfl⟩
  have:∀l:List Nat,∀a,a∈l→a≤l.sum:=by
   intro l;induction l with
   |nil=>intro a ha;cases ha
   |cons b l ih=>
    intro a ha;rcases List.mem_cons.1 ha with rfl|ha
    ·simp
    ·have:=ih a ha;simp;omega
  have:=this _ _ hm;unfold dw jd;omega
 have key:∀x,x∈fs→∃k:Nat,fs[k]?=some x:=fun x hx=>List.mem_iff_getElem?.1 hx
 refine⟨fun x hx=> ?_,fun x hx=> ?_,fun x hx p jD=> ?_,fun x hx i hi=> ?_⟩
 ·obtain⟨k,hk⟩:=key x hx;have:=hp k x hk;omega
 ·obtain⟨k,hk⟩:=key x hx;have:=hp k x hk;omega
 ·obtain⟨k,hk⟩:=key x hx;obtain⟨y,hy,hr⟩:=h.reads k (List.getElem?_eq_some_iff.1 hk).1;rw[hk]at hy;injection hy with hy;subst hy;obtain⟨j,hj⟩:=List.mem_iff_getElem?.1 jD;rw[(hr.au j p hj).1];have:(bG (aq fs) (k:Int)).length≤(aq fs).length:=fR _ _ _;rw[bK]at this;omega
 ·have:=(h.bC.1 x hx i hi).2;omega
structure GIn(n N:Nat)(x:bN):Prop where
 lp:x.au.length≤20000
 li:x.insts.length≤20000
 gone:x.gone=false
 au:∀p,p∈x.au→(0≤p.dst∧p.dst<(n:Int))∧p.args.length≤20000∧(∀a,a∈p.args→0≤a∧a<(n:Int))∧0<p.from_.length∧p.from_.length≤20000∧Qam (N:Int) p.k
 insts:∀i,i∈x.insts→(db i.op→0≤i.dst∧i.dst<(n:Int))∧i.args.length≤20000∧∀a,a∈i.args→0≤a∧a<(n:Int)
 ends:RL (N:Int) x.k
 fin:(x.e=1∨x.e=2)→-1≤x.v∧x.v<(n:Int)
theorem RP{gs:List bN}(hv:cC nm pa va fs=0)(hN:fs.length≤1000)(jR:va=(n:Int))(hg:gs.map bN.k=mK fs):∀x,x∈gs→GIn n gs.length x:=by
 obtain⟨h,_,jB⟩:=oK hv;have No:=K2 hv hN;have hvr:=Xz h jR;have hl:gs.length=fs.length:=by have:=congrArg List.length hg;rwa [List.length_map,j8]at this
 intro y hy;obtain⟨k,hk⟩:=List.mem_iff_getElem?.1 hy;have Qk:=(List.getElem?_eq_some_iff.1 hk).1;obtain⟨x,hx⟩:=aM (l:=fs) (i:=k) oM;have mI:=List.mem_of_getElem? hx;have h1:=congrArg (fun l:List gT=>l[k]?) hg;simp only[List.getElem?_map,hk,Option.map_some,nH hx]at h1;injection h1 with h1;have e1:y.au.map dh.k=x.au.map (qy (bG (aq fs) (k:Int))):=congrArg gT.au h1;have e2:y.insts.map bl.e0=x.insts.map bl.e0:=congrArg gT.insts h1;have e3:y.e=x.e:=congrArg gT.e h1;have e4:y.v=x.v:=congrArg gT.v h1;have e5:y.a=x.a:=congrArg gT.a h1;have e6:y.b=x.b:=congrArg gT.b h1;have e7:y.gone=false:=congrArg gT.gone h1;obtain⟨z,hz,hr⟩:=h.reads k oM;rw[hx]at hz;injection hz with hz;subst hz;have hv1:=hvr x mI;have U7:(bG (aq fs) (k:Int)).length≤fs.length:=by have:(bG (aq fs) (k:Int)).length≤(aq fs).length:=fR _ _ _;rwa [bK]at this
 refine⟨by rw[Gp e1];exact No.lp x mI,by rw[mJ e2];exact No.li x mI,e7,fun p hp=> ?_,fun i hi=> ?_,?_,fun hf=> ?_⟩
 ·obtain⟨j,hj⟩:=List.mem_iff_getElem?.1 hp;have h2:=congrArg (fun l:List y8=>l[j]?) e1;simp only[List.getElem?_map,hj,Option.map_some]at h2;obtain⟨q,hq⟩:∃q,x.au[j]?=some q:=aM (by rw[←Gp e1];exact(List.getElem?_eq_some_iff.1 hj).1);rw[hq,Option.map_some]at h2;injection h2 with h2;have d1:p.dst=q.dst:=congrArg y8.dst h2;have d2:p.from_=bG (aq fs) (k:Int):=congrArg y8.from_ h2;have d3:p.args=q.args:=congrArg y8.args h2;obtain⟨h3,h4⟩:=hr.au j q hq;have Fl:k≠0:=by rintro rfl;have:=h.au x hx;have:=(List.getElem?_eq_some_iff.1 hq).1;omega
  have Vw:=RN h (k:=k) oM Fl;refine⟨by rw[d1];exact hv1.au q (List.mem_of_getElem? hq),by rw[d3,h3];omega,fun a ha=> ?_,by rw[d2];exact Vw,by rw[d2];omega,⟨by show p.from_.Pairwise _;rw[d2];exact XC _ _,fun s hs=> ?_,by show p.args.length=p.from_.length;rw[d3,d2,h3]⟩⟩
  ·rw[d3]at ha;obtain⟨i,hi⟩:=List.mem_iff_getElem?.1 ha;obtain⟨s,hs⟩:∃s,(bG (aq fs) (k:Int))[i]?=some s:=aM (by rw[←h3];exact(List.getElem?_eq_some_iff.1 hi).1);have ht:=h4 i a s hi hs;exact⟨ht.1,by rw[←jR];exact ht.2.1⟩
  ·have PN:s∈p.from_:=hs;rw[d2]at PN;have:=Fy PN;rw[bK]at this;rw[hl];exact this
 ·obtain⟨j,hj⟩:=List.mem_iff_getElem?.1 hi;have h2:=congrArg (fun l:List bl=>l[j]?) e2;simp only[List.getElem?_map,hj,Option.map_some]at h2;obtain⟨q,hq⟩:∃q,x.insts[j]?=some q:=aM (by rw[←mJ e2];exact(List.getElem?_eq_some_iff.1 hj).1);rw[hq,Option.map_some]at h2;injection h2 with h2;have d1:i.op=q.op:=show i.e0.op=q.e0.op by rw[h2]
  have d2:i.dst=q.dst:=show i.e0.dst=q.e0.dst by rw[h2]
  have d3:i.args=q.args:=show i.e0.args=q.e0.args by rw[h2]
  have hqm:=List.mem_of_getElem? hq;obtain⟨h5,h6,h7⟩:=hv1.insts q hqm;refine⟨fun hp=> ?_,by rw[d3];exact No.ai x mI q hqm,by rw[d3];exact h7⟩;rw[d1]at hp;have:=h.bC.2.1 _ (GC hx hq (jf hp));have W9:=h.par;simp only at this;rw[d2];omega
 ·have:=h.ends x mI;unfold fU at this;unfold RL;show(y.e=0∧(0≤y.a∧y.a<_)∧y.v=0∧y.b=0)∨(y.e=1∧(0≤y.a∧y.a<_)∧(0≤y.b∧y.b<_)∧y.a≠y.b)∨(y.e=2∧y.a=0∧y.b=0)∨(y.e=3∧dj y.a∧y.v=0∧y.b=0);rw[e3,e4,e5,e6,hl];exact this
 ·rw[e3]at hf;rw[e4];by_cases hv2:qp x
  ·have ht:=hr.fin hv2;have:=ht.1;have:=ht.2.1;omega
  ·unfold qp at hv2;omega
end
def Jh(rl:List Bool)(x:bN):bN:={x with au:=x.au.filter (fun p=> !dN rl p),insts:=x.insts.filter (fun i=> !dV rl i)}
def Marks(gs:List bN)(rl:List Bool):Prop:=∀v:Int,0≤v→(rl.getD v.toNat false=true↔Rd (gs.map bN.f) v)
section
variable {fs : List aE} {gs : List bN} {n : Nat} {rl : List Bool}
theorem Qfs(hm:Marks gs rl)(hg:∀x,x∈gs→GIn n gs.length x){x:bN}(hx:x∈gs):(Jh rl x).k.f=gX (gs.map bN.f) x.f:=by
 have hi:=hg x hx;unfold Jh bN.k gT.f gX bN.f;simp only[aE.mk.injEq,true_and,and_true];refine⟨?_,?_⟩
 ·rw[List.filter_map,List.map_map];have:((fun p:y8=>(⟨p.dst,none,0,p.args⟩:bZ))∘dh.k)=dh.f:=rfl;rw[this];congr 1;refine List.filter_congr fun p hp=> ?_
  have h0:=(hi.au p hp).1.1;unfold dN o7;simp only[Bool.not_not,Function.comp_apply];show rl.getD p.dst.toNat false=decide (Rd (gs.map bN.f) p.dst);rw[Bool.eq_iff_iff,decide_eq_true_eq];exact hm _ h0
 ·rw[List.filter_map];congr 1;refine List.filter_congr fun i l6=> ?_
  have h0:=(hi.insts i l6).1;unfold dV jk;show(!(decide (db i.op)&& !(rl.getD i.dst.toNat false)))=decide (¬(db i.op∧¬Rd (gs.map bN.f) i.dst));by_cases hp:db i.op
  ·have:=hm _ (h0 hp).1;rw[decide_eq_true hp,E6,Bool.not_not,Bool.eq_iff_iff,decide_eq_true_eq,this];simp[hp]
  ·simp[hp]
theorem XD{fd:List aE}(hv:gs.map bN.k=mK fs)(hm:Marks gs rl)(hg:∀x,x∈gs→GIn n gs.length x)(h:ToQ (gs.map (fun x=>(Jh rl x).k)) fd):eH fd (fe fs):=by
 have h1:=XA (ks:=gs.map (fun x=>(Jh rl x).k)) (fun y hy=>by
   obtain⟨x,hx,rfl⟩:=List.mem_map.1 hy;exact(hg x hx).gone) (fun y hy=>by
   obtain⟨x,hx,rfl⟩:=List.mem_map.1 hy;rw[List.length_map];exact(hg x hx).ends) (fun y hy p hp=>by
   obtain⟨x,hx,rfl⟩:=List.mem_map.1 hy;obtain⟨q,hq,rfl⟩:=List.mem_map.1 hp;rw[List.length_map];exact((hg x hx).au q (List.mem_filter.1 hq).1).2.2.2.2.2) h
 have h2:(gs.map (fun x=>(Jh rl x).k)).map gT.f=fe (gs.map bN.f):=by unfold fe;rw[List.map_map,List.map_map];exact List.map_congr_left fun x hx=>Qfs hm hg hx
 rw[h2]at h1;have h3:=Jg (GA hv);unfold eH at h3⊢;rw[h3,←h1,List.map_map];exact List.map_congr_left fun x _=>(show x.e0=x.e0.e0 by unfold aE.e0;simp only[List.map_map];rfl)
theorem Qcn(hN:gs.length≤1000)(hg:∀x,x∈gs→GIn n gs.length x):∀y,y∈gs.map (fun x=>(Jh rl x).k)→Qcl (gs.length:Int) y:=by
 intro y hy;obtain⟨x,hx,rfl⟩:=List.mem_map.1 hy;have hi:=hg x hx;refine⟨?_,fun p hp=> ?_,fun he=> ?_,fun he=> ?_⟩
 ·show((x.au.filter _).map dh.k).length≤20000;rw[List.length_map];exact Nat.le_trans (List.length_filter_le _ _) hi.lp
 ·obtain⟨q,hq,rfl⟩:=List.mem_map.1 hp;obtain⟨_,_,_,h4,h5,h6⟩:=hi.au q (List.mem_filter.1 hq).1;exact⟨h4,h5,h6.len,h6.Dy⟩
 ·rcases hi.ends with h|h|h|h
  ·exact h.2.1
  ·have:x.e=1:=h.1;have:x.e=0:=he;omega
  ·have:x.e=2:=h.1;have:x.e=0:=he;omega
  ·have:x.e=3:=h.1;have:x.e=0:=he;omega
 ·rcases hi.ends with h|h|h|h
  ·have:x.e=0:=h.1;have:x.e=1:=he;omega
  ·exact⟨h.2.1,h.2.2.1⟩
  ·have:x.e=2:=h.1;have:x.e=1:=he;omega
  ·have:x.e=3:=h.1;have:x.e=1:=he;omega
end
end Go.Mor
namespace Go.Mor
open Go.RowKit
section
variable {S : Nat → Prop} {w : World} {gs : List bN} {x : bN}
theorem RO.gbk(h:RO S w (.pk (gs.map gB)))(hx:x∈gs){r:bx}(hr:r∈gL x):RO S w r:=(h.kS (List.mem_map.2 ⟨x,hx,rfl⟩):RO S w (gB x)).kS hr
theorem RO.Qip(h:RO S w (.pk (gs.map gB)))(hx:x∈gs){p:dh}(hp:p∈x.au):RO S w (.rd p.aA (ints p.args)):=RO.aD ((h.gbk hx (r:= .pk (x.au.map fN)) sI).kS (List.mem_map.2 ⟨p,hp,rfl⟩):RO S w (fN p))
theorem RO.Qft(h:RO S w (.pk (gs.map gB)))(hx:x∈gs){i:bl}(hi:i∈x.insts):RO S w (.rd i.A (ints i.args)):=RO.aD ((h.gbk hx (r:= .pk (x.insts.map fz)) sI).kS (List.mem_map.2 ⟨i,hi,rfl⟩):RO S w (fz i))
theorem RO.Qiq(h:RO S w (.pk (gs.map gB))){v:Int}{e:vW}(he:rv gs v e):RO S w (.rd e.1 (ints e.2.2)):=by
 cases he with
 | @sf x p hx hp _=>exact h.Qip hx hp
 | @inst x i hx hi _ _=>exact h.Qft hx hi
end
theorem K3(fc:List vW)(i:Nat)(e:vW):pJ (fc.set i e)=(pJ fc).set i (frV e):=by simp[pJ,List.map_set]
theorem RQ(n:Nat):pJ (List.replicate n (none,0,[]))=List.replicate n an:=by simp[pJ,frV]
theorem Qco{fc:List vW}{i:Nat}{e:vW}(h:fc[i]?=some e):(pJ fc)[i]?=some (frV e):=by simp[pJ,h]
theorem qz:∀(l:af) (s:List Bool×af),s.2.length≤(bf l s).2.length
 |[],s=>Nat.le_refl _
 |v::l,s=>by
  rw[bf];split
  ·have:=qz l (s.1.set v.toNat true,s.2++[v]);simp only[List.length_append,List.length_singleton]at this;omega
  ·exact qz l s
def ua(n:Nat)(rl:List Bool)(ls:af):Prop:=∀i:Nat,i<n→rl.getD i false=true→(i:Int)∈ls
section
variable {gs : List bN} {n : Nat} {fc : List vW} {rl : List Bool} {ls l : List Int}
theorem ua.start(n:Nat):ua n (List.replicate n false) []:=fun i hi h=>by simp[List.getD,hi]at h
theorem ua.reads(h:ua n rl ls)(hn:rl.length=n)(hl:∀v,v∈l→v<(n:Int)):ua n (bf l (rl,ls)).1 (bf l (rl,ls)).2:=by
 obtain⟨_,q2,q3⟩:=kI l (rl,ls) (fun v hv=>by show v<(rl.length:Int);rw[hn];exact hl v hv);intro i hi hm;rcases q3 i (by show i<rl.length;omega) hm with h1|h1
 ·exact q2 _ (h i hi h1)
 ·exact h1
theorem Wk.begin(h:Wk gs n [] rl ls)(ha:ua n rl ls):Wk gs n fc rl ls:=⟨h.len,h.rd,h.lst,h.cnt,fun i hi hm=> .inl (ha i hi hm)⟩
theorem vb(h:rl.length=n)(hl:∀v,v∈l→v<(n:Int)){v:Int}(hv:v∈l)(h0:0≤v):(bf l (rl,ls)).1.getD v.toNat false=true:=(kf l (rl,ls) v.toNat (fun v hv=>by show v<(rl.length:Int);rw[h];exact hl v hv) (by show v.toNat<rl.length;have:=hl v hv;omega)).2 (.inr (by rw[Int.toNat_of_nonneg h0];exact hv))
theorem oL(h:rl.length=n)(hl:∀v,v∈l→v<(n:Int)){v:Int}(hm:rl.getD v.toNat false=true):(bf l (rl,ls)).1.getD v.toNat false=true:=by
 by_cases hn:v.toNat<n
 ·exact lW h hl hn hm
 ·rw[List.getD_eq_getElem?_getD,List.getElem?_eq_none (by rw[h];omega)]at hm;cases hm
def o8(rl:List Bool)(x:bN)(m:Nat):Prop:=∀(j:Nat) (i:bl),j<m→x.insts[j]?=some i→¬db i.op→∀v,v∈i.args→0≤v→rl.getD v.toNat false=true
def ze(rl:List Bool)(x:bN):Prop:=o8 rl x x.insts.length∧((x.e=1∨x.e=2)→0≤x.v→rl.getD x.v.toNat false=true)
theorem o8.keep{x:bN}{m:Nat}(hq:o8 rl x m)(h:rl.length=n)(hl:∀v,v∈l→v<(n:Int)):o8 (bf l (rl,ls)).1 x m:=fun j i hj hi hp v hv h0=>oL h hl (hq j i hj hi hp v hv h0)
theorem ze.keep{x:bN}(hq:ze rl x)(h:rl.length=n)(hl:∀v,v∈l→v<(n:Int)):ze (bf l (rl,ls)).1 x:=⟨hq.1.keep h hl,fun he h0=>oL h hl (hq.2 he h0)⟩
theorem o8.pure{x:bN}{m:Nat}{i:bl}(hq:o8 rl x m)(hi:x.insts[m]?=some i)(hp:db i.op):o8 rl x (m+1):=by
 intro j i' hj l6 hn;rcases Nat.lt_or_ge j m with h|h
 ·exact hq j i' h l6 hn
 ·have:j=m:=oM;subst this;rw[hi]at l6;injection l6 with l6;subst l6;exact absurd hp hn
theorem o8.read{x:bN}{m:Nat}{i:bl}(hq:o8 rl x m)(hi:x.insts[m]?=some i)(h:rl.length=n)(hl:∀v,v∈i.args→v<(n:Int)):o8 (bf i.args (rl,ls)).1 x (m+1):=by
 intro j i' hj l6 hn v hv h0;rcases Nat.lt_or_ge j m with h1|h1
 ·exact oL h hl (hq j i' h1 l6 hn v hv h0)
 ·have:j=m:=oM;subst this;rw[hi]at l6;injection l6 with l6;subst l6;exact vb h hl hv h0
def nI(gs:List bN)(fc:List vW)(x:bN)(j m:Nat):Prop:=(∀(i:Nat) (p:dh),i<j→x.au[i]?=some p→Vf gs fc p.dst)∧∀(k:Nat) (i:bl),k<m→x.insts[k]?=some i→db i.op→Vf gs fc i.dst
def q9(x:bN):Prop:=(∀p,p∈x.au→0≤p.dst)∧∀i,i∈x.insts→db i.op→0≤i.dst
theorem nI.set{x:bN}{j m:Nat}{v:Int}{e:vW}(h:nI gs fc x j m)(hx:q9 x)(h0:0≤v)(hg:rv gs v e):nI gs (fc.set v.toNat e) x j m:=⟨fun i p hi hp=>(h.1 i p hi hp).set h0 (hx.1 p (List.mem_of_getElem? hp)) hg,fun k i hk hi hp=>(h.2 k i hk hi hp).set h0 (hx.2 i (List.mem_of_getElem? hi) hp) hg⟩
theorem nI.sf{x:bN}{j m:Nat}{p:dh}(h:nI gs fc x j m)(hx:q9 x)(hg:x∈gs)(hp:x.au[j]?=some p)(hl:p.dst.toNat<fc.length):nI gs (fc.set p.dst.toNat (p.aA,p.ac,p.args)) x (j+1) m:=by
 have jD:=List.mem_of_getElem? hp;have ha:rv gs p.dst (p.aA,p.ac,p.args):= .sf hg jD rfl;have h0:=hx.1 p jD;refine⟨fun i q hi hq=> ?_,(h.set hx h0 ha).2⟩;rcases Nat.lt_or_ge i j with h1|h1
 ·exact(h.set hx h0 ha).1 i q h1 hq
 ·have:i=j:=oM;subst this;rw[hp]at hq;injection hq with hq;subst hq;exact .new hl ha
theorem nI.ins{x:bN}{j m:Nat}{i:bl}(h:nI gs fc x j m)(hx:q9 x)(hg:x∈gs)(hi:x.insts[m]?=some i)(hp:db i.op)(hl:i.dst.toNat<fc.length):nI gs (fc.set i.dst.toNat (i.A,i.c,i.args)) x j (m+1):=by
 have EF:=List.mem_of_getElem? hi;have ha:rv gs i.dst (i.A,i.c,i.args):= .inst hg EF hp rfl;have h0:=hx.2 i EF hp;refine⟨(h.set hx h0 ha).1,fun k q hk hq ZX=> ?_⟩;rcases Nat.lt_or_ge k m with h1|h1
 ·exact(h.set hx h0 ha).2 k q h1 hq ZX
 ·have:k=m:=oM;subst this;rw[hi]at hq;injection hq with hq;subst hq;exact .new hl ha
theorem nI.not{x:bN}{j m:Nat}{i:bl}(h:nI gs fc x j m)(hi:x.insts[m]?=some i)(hp:¬db i.op):nI gs fc x j (m+1):=by
 refine⟨h.1,fun k q hk hq ZX=> ?_⟩;rcases Nat.lt_or_ge k m with h1|h1
 ·exact h.2 k q h1 hq ZX
 ·have:k=m:=oM;subst this;rw[hi]at hq;injection hq with hq;subst hq;exact absurd ZX hp
theorem ub{gs:List bN}{k:Nat}{x:bN}{P:bN→Prop}(h:∀(i:Nat) (y:bN),i<k→gs[i]?=some y→P y)(hx:gs[k]?=some x)(hp:P x):∀(i:Nat) (y:bN),i<k+1→gs[i]?=some y→P y:=by
 intro i y hi hy;rcases Nat.lt_or_ge i k with h1|h1
 ·exact h i y h1 hy
 ·have:i=k:=oM;subst this;rw[hx]at hy;injection hy with hy;subst hy;exact hp
theorem K4{gs:List bN}{k:Nat}{P:bN→Prop}(h:∀(i:Nat) (y:bN),i<k→gs[i]?=some y→P y)(hk:gs.length≤k):∀y,y∈gs→P y:=by
 intro y hy;obtain⟨i,hi⟩:=List.mem_iff_getElem?.1 hy;exact h i y (by have:=(List.getElem?_eq_some_iff.1 hi).1;omega) hi
end
theorem rR{α β:Type}{f:α→β}{g:α→β}{d l:List α}{k:Nat}{x y:α}(h:d.map f=(l.take k).map g)(hx:l[k]?=some x)(hy:f y=g x):(d++[y]).map f=(l.take (k+1)).map g:=by
 obtain⟨hk,he⟩:=List.getElem?_eq_some_iff.1 hx;rw[List.map_append,h,List.take_succ_eq_append_getElem hk,List.map_append,he];simp[hy]
theorem RR{hd gs:List bN}(h:hd.map (·.g)=gs.map (·.g))(A:ar)(c:Nat):jS A c hd=jS A c gs:=by
 have hl:hd.length=gs.length:=by have:=congrArg List.length h;simpa using this
 have e:∀l:List bN,jW l=(l.map (·.g)).map (fun g=>Value.pointer (some (aZ g))):=fun l=>by unfold jW;rw[List.map_map];rfl
 unfold jS;rw[hl,e,e,h]
theorem Qfu{gs:List bN}{n:Nat}(hg:∀x,x∈gs→GIn n gs.length x){v:Int}(h:Rd (gs.map bN.f) v):v<(n:Int):=by
 cases h with
 | @inst x i v hx hi hp hv h0=>
  obtain⟨y,hy,rfl⟩:=List.mem_map.1 hx;obtain⟨j,hj,rfl⟩:=List.mem_map.1 hi;exact(((hg y hy).insts j hj).2.2 v hv).2
 | @fin x hx he h0=>
  obtain⟨y,hy,rfl⟩:=List.mem_map.1 hx;exact((hg y hy).fin he).2
 | @sf x p v hx hi yx hv h0=>
  obtain⟨y,hy,rfl⟩:=List.mem_map.1 hx;obtain⟨j,hj,rfl⟩:=List.mem_map.1 hi;exact(((hg y hy).au j hj).2.2.1 v hv).2
 | @pure x i v hx hi hp yx hv h0=>
  obtain⟨y,hy,rfl⟩:=List.mem_map.1 hx;obtain⟨j,hj,rfl⟩:=List.mem_map.1 hi;exact(((hg y hy).insts j hj).2.2 v hv).2
theorem XE{gs:List bN}{n:Nat}{v:Int}{e:vW}(hg:∀x,x∈gs→GIn n gs.length x)(h:e=(none,0,[])∨rv gs v e):(∀a,a∈e.2.2→a<(n:Int))∧e.2.2.length≤20000:=by
 rcases h with rfl|h
 ·exact⟨fun a ha=>(List.not_mem_nil ha).elim,Nat.zero_le _⟩
 ·cases h with
  | @sf x p hx hp _=>exact⟨fun a ha=>(((hg x hx).au p hp).2.2.1 a ha).2,((hg x hx).au p hp).2.1⟩
  | @inst x i hx hi _ _=>exact⟨fun a ha=>(((hg x hx).insts i hi).2.2 a ha).2,((hg x hx).insts i hi).2.1⟩
theorem Np{gs:List bN}{nm:aV}{pa va:Int}{n:Nat}{fc:List vW}{rl:List Bool}(hw:Wk gs n fc rl [])(hg:iY nm pa va (gs.map bN.f))(eV:∀v,Rd (gs.map bN.f) v→v<(n:Int))(hd:∀y,y∈gs→nI gs fc y y.au.length y.insts.length)(hr:∀y,y∈gs→ze rl y):Marks gs rl:=by
 intro v zY;refine hw.done hg.par.1 hg.bC.2 eV (fun x hx=>⟨fun p hp=> ?_,fun i hi Xw=> ?_⟩) (fun x hx=>⟨fun i hi Xw v hv h0=> ?_,(hr x hx).2⟩) zY
 ·obtain⟨j,hj⟩:=List.mem_iff_getElem?.1 hp;exact(hd x hx).1 j p (List.getElem?_eq_some_iff.1 hj).1 hj
 ·obtain⟨j,hj⟩:=List.mem_iff_getElem?.1 hi;exact(hd x hx).2 j i (List.getElem?_eq_some_iff.1 hj).1 hj Xw
 ·obtain⟨j,hj⟩:=List.mem_iff_getElem?.1 hi;exact(hr x hx).1 j i (List.getElem?_eq_some_iff.1 hj).1 hj Xw v hv h0
theorem Nq(n:Nat):bS (List.replicate n false)=List.replicate n (vB false):=by simp[bS]
theorem XF{α:Type}{l:List α}(h:0<l.length):∃m x,l=m++[x]:=by
 refine⟨l.dropLast,l.getLast (by intro e;rw[e]at h;simp at h),?_⟩;exact(List.dropLast_concat_getLast _).symm
theorem Nr{w:World}{ad:Addr}{l:af}{i:Nat}{v:Int}(h:(bx.rd (some ad) (ints l)).holds w)(hi:l[i]?=some v):w.cell? (ad.add ((i:Int).toNat*1))=some (vI v):=by
 rw[Int.toNat_natCast];exact fx h rfl hi
theorem zf(l:af)(v:Int):(ints (l++[v])).take l.length=ints l:=by
 unfold ints;rw[List.map_append,List.take_append_of_le_length sI,List.take_of_length_le sI]
end Go.Mor
namespace Go.Mor
open Go.RowKit
def zh(bs:List SB)(pa va:Int)(ds:tz)(v b q:Int):Bool:=decide (0≤v)&&decide (v<va)&&(decide (v<pa)||match findD ds v with
 |some p=>if p.1=b then decide (p.2<q)else HE (gu bs) p.1.toNat b.toNat
 |none=>false)
theorem zi{bs:List SB}{pa va:Int}{ds:tz}{v b q:Int}(h:zh bs pa va ds v b q=true):cI (gH bs) pa va ds v b q:=by
 unfold zh at h;simp only[Bool.and_eq_true,Bool.or_eq_true,decide_eq_true_eq]at h;obtain⟨⟨h1,h2⟩,h3⟩:=h;refine⟨h1,h2,h3.imp id fun h3=> ?_⟩;split at h3
 ·rename_i p hp;refine⟨p,hp,?_⟩;split at h3
  ·rename_i e;exact .inl ⟨e,by simpa using h3⟩
  ·rename_i e;exact .inr ⟨e,h3⟩
 ·cases h3
def Ji(pa va:Int)(fs:List aE)(k:Nat)(x:aE):Bool:=(x.au.all fun p=>p.args.length==(bG (aq fs) (k:Int)).length&&(p.args.zip (bG (aq fs) (k:Int))).all fun u=>zh (aq fs) pa va (bO fs) u.1 u.2 20000)&&(x.insts.zipIdx.all fun p=>p.1.args.all fun a=>zh (aq fs) pa va (bO fs) a (k:Int) (p.2:Int))&&((!decide (x.e=1∨(x.e=2∧x.v≠-1)))||zh (aq fs) pa va (bO fs) x.v (k:Int) 20000)
theorem Ns{pa va:Int}{fs:List aE}{k:Nat}{x:aE}(hx:fs[k]?=some x)(h:Ji pa va fs k x=true):ft (gH (aq fs)) (fun _=>20000) qp pa va fs k:=by
 unfold Ji at h;simp only[Bool.and_eq_true]at h;obtain⟨⟨h1,h2⟩,h3⟩:=h;refine⟨x,hx,fun j p hp=> ?_,fun j p hp i a ha=> ?_,fun hf=> ?_⟩
 ·have:=List.all_eq_true.1 h1 p (List.mem_of_getElem? hp);simp only[Bool.and_eq_true,beq_iff_eq]at this;refine⟨this.1,fun i a s ha hs=> ?_⟩;have hz:(a,s)∈p.args.zip (bG (aq fs) (k:Int)):=by refine List.mem_of_getElem? (i:=i) ?_;rw[List.getElem?_zip_eq_some];exact⟨ha,hs⟩
  exact zi (List.all_eq_true.1 this.2 _ hz)
 ·have:=List.all_eq_true.1 h2 (p,j) (List.mem_zipIdx_iff_getElem?.2 hp);exact zi (List.all_eq_true.1 this a (List.mem_of_getElem? ha))
 ·rw[Bool.or_eq_true]at h3;rcases h3 with h3|h3
  ·simp only[Bool.not_eq_true',decide_eq_false_iff_not]at h3;exact absurd hf h3
  ·exact zi h3
def RS(nm:aV)(pa va:Int)(fs:List aE):Bool:=decide (bB nm)&&decide (0≤pa∧pa≤16∧pa≤va)&&decide (0<fs.length)&&(match fs[0]? with|some x=>decide (x.au.length=0)|none=>true)&&decide ((bG (aq fs) 0).length=0)&&decide ((aH (aq fs)).length=fs.length)&&(fs.all fun x=>decide (fU (fs.length:Int) x))&&(fs.all fun x=>x.insts.all fun p=>decide (bQ p))&&((bO fs).all fun d=>decide (pa≤d.1)&&decide (d.1<va))&&decide (((bO fs).map (·.1)).Nodup)&&(fs.zipIdx.all fun x=>Ji pa va fs x.2 x.1)
theorem XG{nm:aV}{pa va:Int}{fs:List aE}(h:RS nm pa va fs=true):iY nm pa va fs:=by
 unfold RS at h;simp only[Bool.and_eq_true,decide_eq_true_eq,List.all_eq_true]at h;obtain⟨⟨⟨⟨⟨⟨⟨⟨⟨⟨h1,h2⟩,h3⟩,h4⟩,h5⟩,h6⟩,h7⟩,h8⟩,h9⟩,xm⟩,Hy⟩:=h;refine⟨h1,h2,h3,fun x hx=> ?_,h5,h6,h7,⟨h8,h9,xm⟩,fun k hk=> ?_⟩
 ·rw[hx]at h4;simpa using h4
 ·obtain⟨x,hx⟩:=aM hk;exact(Cc h3 h6).ft (fun _ _ h=>h) (Ns hx (Hy (x,k) (List.mem_zipIdx_iff_getElem?.2 hx)))
theorem RT{nm:aV}{pa va:Int}{fs:List aE}(h:(decide ((dw fs:Int)>20000∨va>20000)=false)∧RS nm pa va fs=true):cC nm pa va fs=0:=(DQ (by simpa using h.1) (XG h.2)).symm
end Go.Mor
namespace Go.Mor
open Go.RowKit
theorem Cv{p:bZ}:p.e0.Ok↔p.Ok:=⟨fun h=>⟨h.dst,h.len,h.args⟩,fun h=>⟨h.dst,h.len,h.args⟩⟩
theorem Cw{p:bl}:p.e0.Ok↔p.Ok:=⟨fun h=>⟨h.op,h.dst,h.n,h.name,h.len,h.args⟩,fun h=>⟨h.op,h.dst,h.n,h.name,h.len,h.args⟩⟩
theorem Cx{x:aE}:x.e0.Ok↔x.Ok:=by
 constructor
 ·intro h;have h1:=h.lp;have h2:=h.li;refine⟨?_,fun p hp=>Cv.1 (h.au p.e0 (List.mem_map.2 ⟨p,hp,rfl⟩)),?_,fun p hp=>Cw.1 (h.insts p.e0 (List.mem_map.2 ⟨p,hp,rfl⟩)),h.e,h.v,h.a,h.b⟩
  ·have:dJ (x.au.map bZ.e0).length:=h1;rwa [List.length_map]at this
  ·have:dJ (x.insts.map bl.e0).length:=h2;rwa [List.length_map]at this
 ·intro h;refine⟨?_,fun p hp=> ?_,?_,fun p hp=> ?_,h.e,h.v,h.a,h.b⟩
  ·show dJ (x.au.map bZ.e0).length;rw[List.length_map];exact h.lp
  ·obtain⟨q,hq,rfl⟩:=List.mem_map.1 hp;exact Cv.2 (h.au q hq)
  ·show dJ (x.insts.map bl.e0).length;rw[List.length_map];exact h.li
  ·obtain⟨q,hq,rfl⟩:=List.mem_map.1 hp;exact Cw.2 (h.insts q hq)
theorem pz.alike{fs gs:List aE}(h:eH fs gs)(ho:pz fs):pz gs:=by
 intro y hy;have:y.e0∈fs.map aE.e0:=by rw[show fs.map aE.e0=gs.map aE.e0 from h];exact List.mem_map.2 ⟨y,hy,rfl⟩
 obtain⟨x,hx,e⟩:=List.mem_map.1 this;exact Cx.1 (e▸Cx.2 (ho x hx))
theorem GD{fs:List aE}(ho:pz fs):pz (fe fs):=by
 intro y hy;obtain⟨x,hx,rfl⟩:=List.mem_map.1 hy;have h:=ho x hx;exact⟨Nat.le_trans (List.length_filter_le _ _) h.lp,fun p hp=>h.au p (List.mem_filter.1 hp).1,Nat.le_trans (List.length_filter_le _ _) h.li,fun p hp=>h.insts p (List.mem_filter.1 hp).1,h.e,h.v,h.a,h.b⟩
theorem zk{fs:List aE}:(fe fs).length=fs.length:=by unfold fe;rw[List.length_map]
theorem Jj{fs gs:List aE}(h:eH fs gs):dw fs=dw gs:=by rw[←tV fs,←tV gs,h]
def iJ(va:Int)(fs:List aE):Prop:=fS va fs∨1500<dw fs
instance (va : Int) (fs : List aE) : Decidable (iJ va fs) := by unfold iJ; infer_instance
theorem Nt{va:Int}{fs:List aE}(h:¬iJ va fs):fs.length≤60∧dw fs≤1500:=by
 unfold iJ at h;exact⟨sj (fun e=>h (.inl e)),oM⟩
theorem Qcp{w:World}{A9:ar}{e7 e9 n7 n9 c7 c9:Nat}{x:aE}(hp:x.au=[])(h9:(bx.row e9 6 A9 n9 c9 (xV x)).holds w)(h7:(bx.row e7 5 x.iA n7 c7 (Ry x.insts)).holds w)(hi:∀i,i∈x.insts→(bx.rd i.A (ints i.args)).holds w):RO bq w (.fn A9 [x]):=by
 refine RO.of (fun r hr=> ?_);rcases List.mem_cons.1 hr with rfl|hr
 ·have h1:(bx.rd A9 ([x].flatMap xV)).holds w:=by rw[show[x].flatMap xV=xV x by simp];exact aD h9
  have:=jN (f:=xV) y7 oM h1;unfold bx.blocks;rw[show(aq [x]).map SB.cells=[x].map xV by unfold aq;rw[List.map_map];rfl];exact this
 ·obtain⟨y,hy,RU⟩:=List.mem_flatMap.1 hr;rw[List.mem_singleton]at hy;subst hy;unfold aE.parts at RU;rw[hp]at RU;rcases List.mem_cons.1 RU with rfl|hr3
  ·intro i cs h;simp at h
  rcases List.mem_cons.1 hr3 with rfl|hr4
  ·exact jN kn oM (aD h7)
  rcases List.mem_append.1 hr4 with hr5|hr5
  ·simp at hr5
  ·obtain⟨p,hp,rfl⟩:=List.mem_map.1 hr5;exact hi p hp
theorem XH{w:World}{A:ar}:(bx.rd A (ints [])).holds w:=fun i v hi=>by simp[ints]at hi
def dxN:aV:=⟨#[102]⟩
def AD(A5:ar):aE:=⟨none,0,[],A5,1,[⟨1,0,7,⟨#[]⟩,none,0,[]⟩],2,-1,0,0⟩
theorem Qan{A5:ar}:pz [AD A5]:=by
 intro x hx;rw[List.mem_singleton]at hx;subst hx;refine⟨by simp[AD,dJ],fun p hp=>by simp[AD]at hp,by simp[AD,dJ],fun p hp=> ?_,by simp[AD,In64],by simp[AD,In64],by simp[AD,In64],by simp[AD,In64]⟩;simp only[AD,List.mem_cons,List.not_mem_nil,or_false]at hp;subst hp;exact⟨by simp[In64],by simp[In64],by simp[In64],by show(0:Nat)≤_;omega,by simp[dJ],fun x hx=>by simp at hx⟩
theorem GF{A5:ar}:cC dxN 0 1 [AD A5]=0:=RT ⟨by simp[dw,jd,AD],by rfl⟩
theorem Qfv{A5:ar}{v:Int}:¬Rd [AD A5] v:=by
 intro h;have pu:db 1:=by unfold db;omega
 induction h with
 | @inst x i v hx hi hp hv h0=>
  rw[List.mem_singleton]at hx;subst hx;simp only[AD,List.mem_cons,List.not_mem_nil,or_false]at hi;subst hi;exact hp pu
 | @fin x hx he h0=>
  rw[List.mem_singleton]at hx;subst hx;simp[AD]at h0
 |sf _ _ _ _ _ ih=>exact ih
 |pure _ _ _ _ _ _ ih=>exact ih
theorem XI{A5:ar}:dw (fe [AD A5])=1:=by
 have pu:db 1:=by unfold db;omega
 have:fe [AD A5]=[{AD A5 with insts:=[]}]:=by unfold fe gX;simp only[List.map_cons,List.map_nil];congr 1;unfold AD;simp only[aE.mk.injEq,true_and,and_true,List.filter_nil];rw[List.filter_cons_of_neg (by unfold jk;rw[decide_eq_true_eq,Classical.not_not];exact⟨pu,Qfv⟩),List.filter_nil]
 rw[this];rfl
end Go.Mor
namespace Go.Mor
open Go.RowKit
def vX(g:cX):bx:= .pk (I8 g.A g.c g.bh)
def Vg(gs:List cX):aP:=gs.flatMap cX.cells
theorem RV(gs:List cX)(g:cX):Vg (gs++[g])=Vg gs++g.cells:=by simp[Vg,List.flatMap_append]
theorem Qcq{w:World}{gs:List cX}(h:(bx.pk (gs.map vX)).holds w){g:cX}(hg:g∈gs):(bx.fn g.A g.bh).holds w:=by
 have h1:(bx.pk (I8 g.A g.c g.bh)).holds w:=o4 h (List.mem_map.2 ⟨g,hg,rfl⟩);exact u7 (o4 h1 (List.mem_cons_self ..)) (o4 h1 (List.mem_cons_of_mem _ (List.mem_cons_self ..)))
theorem XJ{w:World}{e n c:Nat}{A:ar}{gs:List cX}(h:(bx.row e 5 A n c (Vg gs)).holds w):(bx.l7 A 5 (gs.map cX.cells)).holds w:=jI (f:=cX.cells) (size:=5) (fun _=>rfl) dQ h
structure GG(D:List aE→List aE→Prop)(fs gs:List cX):Prop where
 beh:ru D fs gs
 ok:∀g,g∈gs→pz g.bh∧g.bh.length≤1000∧cC g.nm g.pa g.va g.bh=0
section
variable {D : List aE → List aE → Prop} {fs gs : List cX}
theorem GG.nil:GG D [] []:=⟨.nil,fun g h=>by cases h⟩
theorem GG.next{k:Nat}{f:cX}(h:GG D (fs.take k) gs)(hf:fs[k]?=some f){B:ar}{cB:Nat}{fd:List aE}(hd:D f.bh fd)(h1:pz fd)(h2:fd.length≤1000)(h3:cC f.nm f.pa f.va fd=0):GG D (fs.take (k+1)) (gs++[⟨f.nm,f.wk,f.pa,f.va,B,cB,fd⟩]):=by
 obtain⟨hk,he⟩:=List.getElem?_eq_some_iff.1 hf;rw[List.take_succ_eq_append_getElem hk,he];refine⟨h.beh.snoc rfl rfl rfl rfl hd,fun g hg=> ?_⟩;rcases List.mem_append.1 hg with hg|hg
 ·exact h.ok g hg
 ·rw[List.mem_singleton]at hg;subst hg;exact⟨h1,h2,h3⟩
theorem nG.beh{w w':World}{L:List bx}{bg:List aV}{inp:af}{fA hA gA iA:ar}{ic e n c i j:Nat}(h:nG w fs fA [] none bg gA inp iA ic)(hM:Mem bq w w' L)(hb:GG D fs gs)(hi:L[i]?=some (.row e 5 hA n c (Vg gs)))(hj:L[j]?=some (.pk (gs.map vX))):nG w' gs hA [] none bg gA inp iA ic where
 len:=by rw[hb.beh.len];exact h.len
 cells:=RO.of (XJ (hM.get i hi));ok x hx:=⟨(hb.ok x hx).1,(hb.ok x hx).2.1⟩;fn x hx:=RO.of (Qcq (hM.get j hj) hx);Rv:=h.Rv;bg:=h.bg.at_ hM;Rw:=h.Rw;inr:=h.inr.at_ hM;bytes:=h.bytes;Gk:=h.Gk;cf:=h.cf.at_ hM;din:=h.din;Nd:=h.Nd;dwi:=h.dwi
end
def RW(fs gs:List cX)(bg:List aV)(inp:af)(fuel:Int):Prop:=(gR fs [] bg 500 inp fuel).1=1∨(gR fs [] bg 500 inp fuel).1=2→(gR gs [] bg 500 inp (gR fs [] bg 500 inp fuel).2.2.2).1=(gR fs [] bg 500 inp fuel).1∧(gR gs [] bg 500 inp (gR fs [] bg 500 inp fuel).2.2.2).2.1=(gR fs [] bg 500 inp fuel).2.1∧(gR gs [] bg 500 inp (gR fs [] bg 500 inp fuel).2.2.2).2.2.1=(gR fs [] bg 500 inp fuel).2.2.1
abbrev Qao(fs fd:List aE):Prop:=eH fd (fe fs)
theorem Jk{fs gs:List cX}(h:GG Qao fs gs)(hv:∀f,f∈fs→cC f.nm f.pa f.va f.bh=0)(bg:List aV)(inp:af)(fuel:Int):RW fs gs bg inp fuel:=by
 refine Ng h.beh (fun g hg=>(h.ok g hg).2.2) fun E E' f g hE hf h1 h3 h4 h5=> ?_
 have hg:=(oK (hv f hf)).1;have hl:g.bh.length=f.bh.length:=by rw[eH.len h5,zk]
 have e:bG (aq g.bh)=bG (aq f.bh):=by rw[j7 (DR h5)];exact j7 yW
 exact⟨_,Rn hE hg rfl h5 (fun k hk=>Gl hk) (fun k hk=>by rw[Gl (x:=g) (by rw[hl];exact hk),e]) h3 h4⟩
end Go.Mor
namespace Go.Mor
open Go.RowKit
end Go.Mor
namespace Go.Mor
open Go.RowKit
theorem kq{a b:aV}:a.toList=b.toList↔a=b:=by
 constructor
 ·intro h;rw[Kt,Kt]at h;exact Qcd h
 ·intro h;rw[h]
section
variable {α κ : Type} {key : α → κ} {l : List α} {g f : α} {k j : Nat}
theorem RY(c:κ):c∉(l.take 0).map key:=sI
theorem RZ{c:κ}(h:c∉(l.take k).map key)(hg:l[k]?=some g)(dt:¬key g=c):c∉(l.take (k+1)).map key:=by
 rw[kQ,hg,List.map_append,List.mem_append];rintro(h1|h1)
 ·exact h h1
 ·simp at h1;exact dt h1.symm
theorem R0{c:κ}(hk:k<j)(hg:l[k]?=some g)(he:key g=c):c∈(l.take j).map key:=by
 refine List.mem_map.2 ⟨g,?_,he⟩;exact List.mem_of_getElem? (i:=k) (by rw[List.getElem?_take_of_lt hk];exact hg)
end
theorem R1{d:bE}(h:kT d):d.refs.length≤d.words.length:=by
 have hn:(d.refs.map (·.1)).Nodup:=by
  refine List.pairwise_iff_getElem.2 fun i j hi hj LY he=> ?_
  have E1:j<d.refs.length:=by simpa using hj
  obtain⟨r,hr⟩:=aM (l:=d.refs) (i:=j) E1;obtain⟨r',hr'⟩:=aM (l:=d.refs) (i:=i) oM;simp only[List.getElem_map]at he;have Wv:r'.1=r.1:=by rw[(List.getElem?_eq_some_iff.1 hr).2.symm,(List.getElem?_eq_some_iff.1 hr').2.symm];exact he
  exact(h.1 j r hr).2.2 (R0 (key:=fun r:Int×aV=>r.1) LY hr' Wv)
 have hr:∀x,x∈d.refs.map (·.1)→0≤x∧x<(d.words.length:Int):=fun x hx=>by obtain⟨r,hr,rfl⟩:=List.mem_map.1 hx;obtain⟨i,hi⟩:=List.mem_iff_getElem?.1 hr;exact(h.1 i r hi).2.1
 have:=Cl hn hr;rw[List.length_map]at this;exact this
end Go.Mor
namespace Go.Mor
open Go.RowKit
structure jo where
 ov:Bool
 k:Int
 c:Int
 s:cQ
 N:Int
 V:Int
def er(s:cQ):cQ:=⟨[],0,0,s.out,s.steps,0⟩
section
variable {α β : Type}
def dp.no(g:dp α):dp α:=match g with
 | .ok a s=> .ok a s
 | .stop k c s=> .stop k c (er s)
def ey(a b:dp α):Prop:=a.no=b.no
def jo.go(z:jo)(K:cQ→dp α):dp α:=if z.ov then .stop z.k z.c z.s else K z.s
def jo.fin(z:jo)(k c:Int):jo:=if z.ov then z else {z with ov:=true,k:=k,c:=c}
variable {a b : dp α} {G : dp β} {z z' : jo} {A : cQ → dp α} {K K' : cQ → dp β} {F : α → cQ → dp β} {x : α} {k c : Int}
theorem ey.bind(h:ey a b)(F:α→cQ→dp β):ey (a.bind F) (b.bind F):=by
 unfold ey dp.no at h;cases a<;>cases b<;>simp only[dp.ok.injEq,dp.stop.injEq,reduceCtorEq]at h
 ·obtain⟨rfl,rfl⟩:=h;exact rfl
 ·obtain⟨rfl,rfl,h⟩:=h;show dp.stop _ _ (er _)=dp.stop _ _ (er _);rw[h]
theorem K5:(z.go A).bind F=z.go fun s=>(A s).bind F:=by
 unfold jo.go;split<;>rfl
theorem sW(h:z.ov=false):z.go K=K z.s:=by unfold jo.go;rw[h];rfl
theorem ud(h:z.ov=true):z.go K= .stop z.k z.c z.s:=by unfold jo.go;rw[h];rfl
theorem ey.step(hr:ey G (z.go fun s=>(A s).bind F))(h:ey (z.go A) (z'.go (dp.ok x))):ey G (z'.go (F x)):=by
 have h2:=h.bind F;rw[K5,K5]at h2;exact Eq.trans hr h2
theorem ey.tail{A:cQ→dp β}{x:β}(hr:ey G (z.go A))(h:ey (z.go A) (z'.go (dp.ok x))):ey G (z'.go (dp.ok x)):=Eq.trans hr h
theorem ey.Nu(h:z.ov=true)(hr:ey G (z.go K)):ey G (z.go K'):=by
 rw[ud h]at hr⊢;exact hr
theorem ey.HK(h:∀s,K s=K' s)(hr:ey G (z.go K)):ey G (z.go K'):=by
 have:K=K':=funext h;rw[←this];exact hr
theorem ey.to(hr:ey G (z.go K))(hz:z.ov=false)(hz':z'.ov=false)(h:K z.s=K' z'.s):ey G (z'.go K'):=by
 rw[sW hz]at hr;rw[sW hz',←h];exact hr
theorem Jl:(z.fin k c).ov=true:=by
 unfold jo.fin;cases h:z.ov
 ·rfl
 ·exact h
theorem R2(h:z.ov=true):z.fin k c=z:=by unfold jo.fin;rw[h];rfl
theorem K6(h:z.ov=false):z.fin k c={z with ov:=true,k:=k,c:=c}:=by unfold jo.fin;rw[h];rfl
theorem zl:(z.fin k c).s=z.s:=by
 unfold jo.fin;cases z.ov<;>rfl
theorem ey.fin(hr:ey G (z.go K))(h:z.ov=false→ey (K z.s) (.stop k c z.s)):ey G ((z.fin k c).go K'):=by
 cases hz:z.ov with
 |true=>
  have e:z.fin k c=z:=by unfold jo.fin;rw[hz];rfl
  rw[e];exact hr.Nu hz
 |false=>
  have e:z.fin k c={z with ov:=true,k:=k,c:=c}:=by unfold jo.fin;rw[hz];rfl
  rw[e,ud rfl];rw[sW hz]at hr;exact Eq.trans hr (h hz)
theorem ey.got(h:ey (z.go A) (z'.go (dp.ok x)))(hz:z'.ov=false):z.ov=false∧A z.s= .ok x z'.s:=by
 rw[sW hz]at h;cases hv:z.ov with
 |true=>rw[ud hv]at h;unfold ey dp.no at h;cases h
 |false=>
  rw[sW hv]at h;refine⟨rfl,?_⟩;unfold ey dp.no at h;cases hA:A z.s with
  |ok y s=>rw[hA]at h;exact h
  |stop k c s=>rw[hA]at h;cases h
end
theorem K7(x:Int):In64 (IntKind.i64.wrap x):=by
 have h:∀m:Int,0≤m→m<18446744073709551616→In64 (if 9223372036854775808≤m then m-18446744073709551616 else m):=fun m h0 h1=>by
  unfold In64;by_cases hm:9223372036854775808≤m
  ·rw[if_pos hm];omega
  ·rw[if_neg hm];omega
 have h2:=h (x % 18446744073709551616) oM oM;unfold IntKind.wrap;simpa[IntKind.signed,IntKind.bits]using h2
theorem ue{n:Int}(h0:0≤n)(h1:n≤9223372036854775807):In64 n:=⟨oM,h1⟩
theorem jO:In64 0:=⟨dQ,dQ⟩
theorem GH(b:Bool):In64 (cO b):=by cases b<;>exact⟨dQ,dQ⟩
theorem XK{a b:Int}(h:In64 a):In64 (a.tmod b):=by
 unfold In64 at*;have h2:(a.tmod b).natAbs≤a.natAbs:=by rw[Int.natAbs_tmod];exact Nat.mod_le _ _
 by_cases h0:0≤a
 ·have:=Int.tmod_nonneg b h0;omega
 ·have h3:=Int.tmod_nonneg b (show 0≤-a by omega);rw[Int.neg_tmod]at h3;omega
theorem XL{a:Int}{n:Nat}(h:In64 a):In64 (a.fdiv (2^n)):=by
 unfold In64 at*;have hp:(1:Int)≤2^n:=by have:(1:Nat)≤2^n:=Nat.one_le_two_pow;exact_mod_cast this
 rw[Int.fdiv_eq_ediv_of_nonneg _ oM];by_cases h0:0≤a
 ·have h1:=Int.ediv_le_self (2^n:Int) h0;have h2:0≤a / 2^n:=Int.ediv_nonneg h0 oM;omega
 ·have h1:a / 2^n<0:=Int.ediv_lt_of_lt_mul oM oM;have h2:a≤a / 2^n:=by rw[Int.le_ediv_iff_mul_le oM];have h4:=Int.mul_le_mul_of_nonneg_left hp (show 0≤-a by omega);rw[Int.neg_mul,Int.neg_mul]at h4;omega
  omega
theorem K8{P:Prop}[Decidable P]{p q:Int×Int}(hp:In64 p.1)(hq:In64 q.1):In64 (if P then p else q).1:=by
 split
 ·exact hp
 ·exact hq
theorem Qcr{op a b:Int}(ha:In64 a):In64 (cA op a b).1:=by
 unfold cA jE Dh;repeat' apply K8
 all_goals first|exact K7 _|exact jO|exact GH _|exact XK ha|exact XL ha
theorem Qfw{op a:Int}:In64 (rJ op a).1:=by
 unfold rJ;repeat' apply K8
 all_goals first|exact K7 _|exact jO|exact GH _
def LI(l:af):Prop:=∀x,x∈l→In64 x
def MI(s:cQ):Prop:=LI s.mem∧0≤s.next∧s.next≤262144
theorem gdI{l:af}(h:LI l)(i:Nat):In64 (l.getD i 0):=by
 by_cases hi:i<l.length
 ·have:l.getD i 0=l[i]:=by simp[List.getD,hi]
  rw[this];exact h _ (List.getElem_mem hi)
 ·have:l.getD i 0=0:=by simp[List.getD,hi]
  rw[this];exact jO
theorem zm{l:af}{i:Nat}{v:Int}(h:LI l)(hv:In64 v):LI (l.set i v):=fun x hx=>by
 rcases PM hx with h1|h1
 ·exact h x h1
 ·rw[h1];exact hv
def KI{α:Type}(p:α→Prop)(s:cQ)(g:dp α):Prop:=MI s→∀x s',g= .ok x s'→MI s'∧p x
section
variable {α β : Type} {p : α → Prop} {q : β → Prop} {s s2 : cQ}
theorem KI.bind{g:dp α}{f:α→cQ→dp β}(h:KI p s g)(hf:∀x s2,p x→KI q s2 (f x s2)):KI q s (g.bind f):=by
 intro hs x s' he;cases hg:g with
 |ok y s2=>
  rw[Ro hg]at he;obtain⟨h1,h2⟩:=h hs y s2 hg;exact hf y s2 h2 h1 x s' he
 |stop k c s2=>rw[I3 hg]at he;cases he
theorem KI.ok{x:α}(hm:MI s→MI s2)(h:p x):KI p s (.ok x s2):=fun hs y s' he=>by injection he with h1 h2;rw[←h1,←h2];exact⟨hm hs,h⟩
theorem KI.stop{k c:Int}:KI p s (.stop k c s2:dp α):=fun _ y s' he=>by cases he
theorem KI.ite{P:Prop}[Decidable P]{a b:dp α}(ha:P→KI p s a)(hb:¬P→KI p s b):KI p s (if P then a else b):=by
 split
 ·exact ha ‹_›
 ·exact hb ‹_›
theorem KI.same{g:dp α}(hm:MI s→MI s2)(h:KI p s2 g):KI p s g:=fun hs=>h (hm hs)
end
section
variable {E : Xb} {s : cQ} {loc : List Int}
theorem K9{E:Env0}{s:cQ}:KI (fun _=>True) s (cT E s):=by
 unfold cT;exact .ite (fun _=> .stop) (fun _=> .ok id trivial)
end
end Go.Mor
namespace Go.Mor
open Go.RowKit
section
variable {E : Xb} {loc : List Int}
theorem Qap{l:af}(h:LI l):In64 (a0 l):=gdI h 0
theorem XM{l:af}(h:LI l):LI l.tail:=fun x hx=>h x (List.mem_of_mem_tail hx)
end
def tc(E:Env0)(z:jo)(b:Int)(L:af):Prop:=z.ov=true∨(E.fuel-z.s.steps<b∧MI z.s∧(0≤z.s.opened∧z.s.opened≤1200)∧LI L)
section
variable {α : Type} {E : Env0} {z z' : jo} {b : Int} {L L' : List Int} {A : cQ → dp α} {x : α} {p : α → Prop}
theorem tc.XN(h:tc E z b L){b':Int}(hb:b≤b')(hL:∀x,x∈L'→x∈L∨In64 x):tc E z b' L':=h.imp id fun⟨h1,h2,h3,h4⟩=>⟨oM,h2,h3,fun x hx=>(hL x hx).elim (h4 x) id⟩
theorem tc.call(h:tc E z b L)(hk:Rp z.s (A z.s))(hi:LI L→KI p z.s (A z.s))(he:ey (z.go A) (z'.go (dp.ok x)))(hL:LI L→p x→LI L'):tc E z' b L':=by
 cases hz:z'.ov with
 |true=>exact .inl hz
 |false=>
  obtain⟨h1,h2⟩:=he.got hz;rcases h with h|⟨h3,h4,h5,h6⟩
  ·rw[h]at h1;cases h1
  ·obtain⟨h7,h8⟩:=hk _ _ h2;obtain⟨h9,xm⟩:=hi h6 h4 _ _ h2;exact .inr ⟨oM,h9,by rw[h8];exact h5,hL h6 xm⟩
theorem tc.in_(h:tc E z b L)(hz:z.ov=false){x:Int}(hx:x∈L):In64 x:=by
 rcases h with h|h
 ·rw[h]at hz;cases hz
 ·exact h.2.2.2 x hx
theorem tc.run(h:tc E z b L)(hz:z.ov=false):E.fuel-z.s.steps<b∧MI z.s∧(0≤z.s.opened∧z.s.opened≤1200)∧LI L:=by
 rcases h with h|h
 ·rw[h]at hz;cases hz
 ·exact h
end
section
variable {E : Xb} {z z' : jo} {b : Int} {loc L : List Int} {g : Nat}
theorem tc.step(h:tc E.toEnv0 z (b+1) L)(hz:z'.ov=false)(he:ey (z.go (cT E.toEnv0)) (z'.go (dp.ok ()))):tc E.toEnv0 z' b L:=by
 obtain⟨h1,h2⟩:=he.got hz;obtain⟨h3,h4,h5,h6⟩:=h.run h1;have h7:=Ge h2;unfold cT at h2;split at h2
 ·cases h2
 ·injection h2 with _ h2;refine .inr ⟨by omega,?_,by rw[h7.2];exact h5,h6⟩;rw[←h2];exact h4
end
end Go.Mor
namespace Go.Mor
open Go.RowKit
def vc{α:Type}(key:α→aV)(l:List α)(nm:aV)(j:Nat):Prop:=∀i x,i<j→l[i]?=some x→key x≠nm
section
variable {α : Type} {key : α → ByteArray} {l : List α} {nm : ByteArray} {j : Nat} {x : α}
theorem vc.zero:vc key l nm 0:=fun i _ hi=>absurd hi (Nat.not_lt_zero i)
theorem vc.next(h:vc key l nm j)(hx:l[j]?=some x)(hc:¬(key x).toList=nm.toList):vc key l nm (j+1):=fun i y hi hy=>by
 by_cases e:i=j
 ·subst e;rw[hx]at hy;injection hy with hy;subst hy;exact fun h=>hc (by rw[h])
 ·exact h i y oM hy
end
theorem re{nm:aV}{v:Int}:∀(l:List (aV×Int)) (j:Nat),l[j]?=some (nm,v)→vc (·.1) l nm j→fh l nm=some v
 |[],j,h,_=>by simp at h
 |(k,u)::r,0,h,_=>by simp only[List.getElem?_cons_zero,Option.some.injEq,Prod.mk.injEq]at h;obtain⟨rfl,rfl⟩:=h;unfold fh;rw[BEq.rfl]
 |(k,u)::r,j+1,h,hn=>by have h0:=hn 0 (k,u) oM rfl;unfold fh;rw[u0.2 (fun e=>h0 e.symm)];exact re r j (by simpa using h) (fun i x hi hx=>hn (i+1) x oM (by simpa using hx))
theorem Jm{nm:aV}{l:List (aV×Int)}(h:vc (·.1) l nm l.length):fh l nm=none:=FH fun hm=>by
 obtain⟨p,hp,he⟩:=List.mem_map.1 hm;obtain⟨i,hi⟩:=List.mem_iff_getElem?.1 hp;exact h i p (List.getElem?_eq_some_iff.1 hi).1 hi he
section
variable {cs : List uA} {ds : List bE} {j : Nat} {f : uA} {d : bE} {nm : ByteArray}
theorem Cy:(gY cs cs.length)[j]?=(cs[j]?).map fun f=>(f.nm,((j+1:Nat):Int)):=by
 unfold gY;rw[List.take_length,List.getElem?_map,List.getElem?_zipIdx];cases cs[j]?<;>simp
theorem sX:(cP ds ds.length)[j]?=(ds[j]?).map fun d=>(d.nm,(aJ ds j:Int)):=by
 unfold cP;rw[List.take_length,List.getElem?_map,List.getElem?_zipIdx];cases ds[j]?<;>simp
theorem R3(h:vc uA.nm cs nm j):vc (·.1) (gY cs cs.length) nm j:=fun i p hi hp=>by
 rw[Cy]at hp;cases hc:cs[i]? with
 |none=>rw[hc]at hp;cases hp
 |some f=>
  rw[hc]at hp;simp only[Option.map_some,Option.some.injEq]at hp;rw[←hp];exact h i f hi hc
theorem R4(h:vc bE.nm ds nm j):vc (·.1) (cP ds ds.length) nm j:=fun i p hi hp=>by
 rw[sX]at hp;cases hc:ds[i]? with
 |none=>rw[hc]at hp;cases hp
 |some f=>
  rw[hc]at hp;simp only[Option.map_some,Option.some.injEq]at hp;rw[←hp];exact h i f hi hc
theorem Qcs(hf:cs[j]?=some f)(he:f.nm.toList=nm.toList)(h:vc uA.nm cs nm j):fh (gY cs cs.length) nm=some ((j+1:Nat):Int):=by
 exact re _ j (by rw[Cy,hf];simp only[Option.map_some,kq.1 he]) (R3 h)
theorem R5(hf:ds[j]?=some d)(he:d.nm.toList=nm.toList)(h:vc bE.nm ds nm j):fh (cP ds ds.length) nm=some (aJ ds j:Int):=re _ j (by rw[sX,hf];simp only[Option.map_some,kq.1 he]) (R4 h)
theorem R6(h:vc uA.nm cs nm cs.length):fh (gY cs cs.length) nm=none:=by
 refine Jm ?_;have:(gY cs cs.length).length=cs.length:=by unfold gY;simp
 rw[this];exact R3 h
theorem GI(h:vc bE.nm ds nm ds.length):fh (cP ds ds.length) nm=none:=by
 refine Jm ?_;have:(cP ds ds.length).length=ds.length:=by unfold cP;simp
 rw[this];exact R4 h
end
theorem xC{x:Int}(h:In64 x):IntKind.i64.wrap x=x:=Kb x h
theorem R7{x:Int}(h:9223372036854775807<x)(h2:x≤9223372041149743103):IntKind.i64.wrap x=x-18446744073709551616:=by
 have e:x % 18446744073709551616=x:=Int.emod_eq_of_lt oM oM;unfold IntKind.wrap;simp only[IntKind.signed,IntKind.bits,E6];show(if decide (x % 18446744073709551616≥9223372036854775808)=true then x % 18446744073709551616-18446744073709551616 else x % 18446744073709551616)=_;rw[e,if_pos (by rw[decide_eq_true_eq];omega)]
theorem R8{a n:Int}{s:cQ}(h1:¬a< -2147483647)(h2:¬a>s.next)(h3:¬a+n<1)(h4:¬a+n≥s.next)(hn:s.next≤262144):uy (IntKind.i64.wrap (a+n)) s= .ok (a+n).toNat s:=by
 rw[xC ⟨oM,oM⟩];unfold uy;rw[if_neg oM]
theorem XO{a n:Int}{s:cQ}(ha:In64 a)(h0:0≤n)(h1:n≤2147483647)(h:a< -2147483647∨a>s.next∨a+n<1∨a+n≥s.next)(hs:1≤s.next)(hn:s.next≤262144):uy (IntKind.i64.wrap (a+n)) s= .stop 5 0 s:=by
 have Mr:=ha.1;have Aw:=ha.2;unfold uy;by_cases hb:a+n≤9223372036854775807
 ·rw[xC ⟨oM,hb⟩,if_pos oM]
 ·rw[R7 oM oM,if_pos oM]
def fX(ds:List bE)(j:Nat):af:=(List.range j).map fun i=>(aJ ds i:Int)
theorem GJ{ds:List bE}{j:Nat}:(fX ds j).length=j:=by unfold fX;simp
theorem uf{ds:List bE}{j i:Nat}(h:i<j):(fX ds j)[i]?=some (aJ ds i:Int):=by
 unfold fX;rw[List.getElem?_map,List.getElem?_range h];rfl
theorem Nv{ds:List bE}{j:Nat}:fX ds j++[(aJ ds j:Int)]=fX ds (j+1):=by
 unfold fX;rw[List.range_succ,List.map_append];rfl
def Nw(op a b:Int)(s:cQ):dp Int:=if(cA op a b).2=0 then .ok (cA op a b).1 s else .stop 2 (cA op a b).2 s
section
variable {op a b : Int}
theorem R9(h:op=4∨op=5)(hb:b=0):cA op a b=(0,3):=by rw[p9 h,Bo hb]
theorem Sa(h:op=4)(hb:b= -1):cA op a b=(IntKind.i64.wrap (0-a),0):=by rw[p9 (.inl h),Bp hb h]
theorem Sb(h:op=5)(hb:b= -1):cA op a b=(0,0):=by rw[p9 (.inr h),Br hb oM]
theorem Sc(h:op=4)(h1:b≠0)(h2:b≠-1):cA op a b=(IntKind.i64.wrap (a.tdiv b),0):=by rw[p9 (.inl h),Bs h1 h2 h]
theorem Sd(h:op=5)(h1:b≠0)(h2:b≠-1):cA op a b=(a.tmod b,0):=by rw[p9 (.inr h),Bx h1 h2 oM]
end
theorem La(b:Int):IntKind.u64.wrap (tB b 63)=tC b:=by
 have h63:(BitVec.ofInt 64 63).toNat=63:=dQ;have hw:BitVec.ofInt 64 (IntKind.u64.wrap b)=BitVec.ofInt 64 b:=by
  apply BitVec.eq_of_toNat_eq;have e:IntKind.u64.wrap b=b % 18446744073709551616:=by unfold IntKind.wrap;simp[IntKind.signed,IntKind.bits]
  rw[e];simp only[BitVec.toNat_ofInt];congr 1;exact Int.emod_emod_of_dvd b dQ
 unfold tC tB;rw[hw];generalize hx:(BitVec.ofInt 64 b&&&BitVec.ofInt 64 63).toNat=x;have hle:x≤63:=by rw[←hx,BitVec.toNat_and,h63];exact Nat.and_le_right
 rw[xC ⟨oM,oM⟩]
theorem Se{l:List (aV×Int)}{nm:aV}(h:(fh l nm).getD 0=0)(hn:∀n,fh l nm=some n→1≤n):fh l nm=none:=by
 cases hq:fh l nm with
 |none=>rfl
 |some n=>
  have:=hn n hq;rw[hq]at h;have h2:n=0:=h;omega
theorem Sf{l:af}(h:0<l.length):a0 l∈l:=by
 cases l with
 |nil=>cases h
 |cons x r=>exact List.mem_cons_self ..
end Go.Mor
namespace Go.Mor
open Go.RowKit
structure GK(E:Env0):Prop where
 names:∀nm n,fh E.names nm=some n→In64 n
 data:∀nm n,fh E.data nm=some n→In64 n
 inp:LI E.inp
 next:E.bR≤262144
 fns:∀f,f∈E.fns→f.WF
section
variable {E : Env0} {call : Int → List Int → cQ → dp Int}
theorem Sg{n:Int}{s:cQ}:KI (fun _=>True) s (uy n s):=by unfold uy;exact .ite (fun _=> .stop) (fun _=> .ok id trivial)
theorem Qfx{l:af}(h:LI l):In64 (a1 l):=gdI h 1
theorem D5{bC args:af}(h:LI bC):LI (eo bC args):=fun x hx=>by
 obtain⟨v,_,rfl⟩:=List.mem_map.1 hx;exact gdI h _
theorem Lb(hE:GK E){i:bl}{l:af}(hn:In64 i.n)(hl:LI l)(hc:∀n l s,LI l→KI In64 s (call n l s))(s:cQ):KI In64 s (bV E call i l s):=by
 unfold bV;have hE1:=hE.next;refine .ite (fun _=> .ok id hn) fun _=> .ite (fun _=> ?_) fun _=> .ite (fun _=> ?_) fun _=> .ite (fun _=> ?_) fun _=> .ite (fun _=>hc _ _ s (XM hl)) fun _=> .ite (fun _=> ?_) fun _=> .ite (fun _=> ?_) fun _=> .ite (fun _=> ?_) fun _=>
  .ite (fun _=> .ite (fun _=> .ok id (gdI hE.inp _)) (fun _=> .ok id ⟨dQ,dQ⟩)) fun _=> .ite (fun _=> ?_) fun _=> .ite (fun _=> .ite (fun _=> .stop) (fun _=> .ok id jO)) fun _=> .ite (fun _=> .ok id (Qap hl)) fun _=>
  .ite (fun _=> .ok id Qfw) fun _=> .ite (fun _=> .ok id (Qcr (Qap hl))) (fun _=> .stop)
 ·exact Sg.bind fun k s2 _=>fun hs=>(KI.ok id (gdI hs.1 _):KI In64 s2 _) hs
 ·exact Sg.bind fun k s2 _=> .ok (fun hm=>⟨zm hm.1 (Qfx hl),hm.2⟩) jO
 ·split
  ·exact hc _ _ s hl
  ·exact .stop
 ·split
  ·exact .ok id (hE.data _ _ ‹_›)
  ·exact .stop
 ·split
  ·exact .ok id (hE.names _ _ ‹_›)
  ·exact .stop
 ·intro hs x s' he;have h1:=hs.2.1;have h2:=hs.2.2;split at he
  ·cases he
  split at he
  ·cases he
  injection he with he1 Wv;rw[←he1,←Wv];exact⟨⟨hs.1,by show 0≤s.next+a0 l;omega,by show s.next+a0 l≤262144;omega⟩,ue h1 oM⟩
 ·exact .ok (fun h=>by split<;>exact h) jO
theorem GL(hE:GK E)(hc:∀n l s,LI l→KI In64 s (call n l s)):∀(is:List bl),(∀i,i∈is→In64 i.n)→∀(v:af) (s:cQ),LI v→KI LI s (cS E call is v s)
 |[],_,_,_,hv=> .ok id hv
 |i::r,h,v,s,hv=>by
  refine K9.bind fun _ s _=>(Lb hE (h i (List.mem_cons_self ..)) (D5 hv) hc s).bind fun u s hu=> ?_
  refine GL hE hc r (fun j hj=>h j (List.mem_cons_of_mem _ hj)) _ s ?_;split
  ·exact zm hv hu
  ·exact hv
theorem Cz:∀(ps:List (Int×Int)) (v:af),LI v→(∀p,p∈ps→In64 p.2)→LI (jF v ps)
 |[],_,h,_=>h
 |(d,u)::r,v,h,hp=>Cz r _ (zm h (hp (d,u) (List.mem_cons_self ..))) (fun p hx=>hp p (List.mem_cons_of_mem _ hx))
theorem Lc{ps:List bZ}{a:Nat}{v:af}(h:LI v):LI (gr ps a v):=Cz _ _ h (fun p hp=>by
 obtain⟨q,_,rfl⟩:=List.mem_map.1 hp;exact gdI h _)
def sY(E:Env0)(call:Int→af→cQ→dp Int)(x:aE)(bC:af)(s:cQ):dp (Int×Int×af):=(cS E call x.insts bC s).bind fun bC s=>(cT E s).bind fun _ s=>
  if x.e=0 then .ok (x.a,0,bC) s
  else if x.e=1 then .ok (if bC.getD x.v.toNat 0≠0 then x.a else x.b,0,bC) s
  else if x.e=3 then .stop 2 x.a s
  else .ok (-1,if x.v≥0 then bC.getD x.v.toNat 0 else 0,bC) s
theorem Ld{f:et}{k fr:Int}{v:af}{s:cQ}{x:aE}(hx:f.bh[k.toNat]?=some x):fi E call f k fr v s=sY E call x (gr x.au (eG (f.src k.toNat) fr) v) s:=by
 unfold fi sY;rw[hx]
theorem XP(hE:GK E)(hc:∀n l s,LI l→KI In64 s (call n l s)){x:aE}(hx:x.Ok){v:af}(hv:LI v)(s:cQ):KI (fun r=>In64 r.2.1∧LI r.2.2) s (sY E call x v s):=by
 unfold sY;refine(GL hE hc _ (fun i hi=>(hx.insts i hi).n) v s hv).bind fun u s hu=>K9.bind fun _ s _=> ?_
 refine .ite (fun _=> .ok id ⟨jO,hu⟩) fun _=> .ite (fun _=> .ok id ⟨jO,hu⟩) fun _=> .ite (fun _=> .stop) fun _=> .ok id ⟨?_,hu⟩
 show In64 (if x.v≥0 then u.getD x.v.toNat 0 else 0);split
 ·exact gdI hu _
 ·exact jO
def CA(E:Env0)(g:Nat)(f:et)(k:Int)(x:aE)(v:af)(s:cQ):dp Int:=(sY E (cc E g) x v s).bind fun r s=>if r.1<0 then .ok r.2.1 {s with opened:=s.opened-1}else iW E g f r.1 k r.2.2 s
theorem GM{g:Nat}{f:et}{k fr:Int}{v:af}{s:cQ}{x:aE}(hx:f.bh[k.toNat]?=some x):iW E (g+1) f k fr v s=CA E g f k x (gr x.au (eG (f.src k.toNat) fr) v) s:=by
 rw[lb];unfold CA;rw[Ld hx]
theorem D6(hE:GK E):∀(g:Nat) (f:et) (k fr:Int) (v:af) (s:cQ),f.WF→LI v→KI In64 s (iW E g f k fr v s)
 |0,_,_,_,_,_,_,_=> .stop
 |g+1,f,k,fr,v,s,hW,hv=>by
  have hc:∀n l s,LI l→KI In64 s (cc E g n l s):=fun n l s hl=>by
   unfold cc fF;refine .ite (fun _=> .stop) fun _=> ?_
   split
   ·exact .stop
   rename_i q hq;refine .ite (fun _=> .stop) fun _=> .ite (fun _=> .stop) fun _=> ?_
   exact KI.same (s2:={s with opened:=s.opened+1}) id (D6 hE g q 0 (-1) _ _ (hE.fns q (List.mem_of_getElem? hq)) (fun x hx=>by
    rcases List.mem_append.1 hx with hx|hx
    ·exact hl x hx
    ·rw[(D7.1 hx).2];exact jO))
  rw[lb];cases hx:f.bh[k.toNat]? with
  |none=>
   have:fi E (cc E g) f k fr v s= .stop 5 0 s:=by unfold fi;rw[hx]
   rw[this];exact KI.stop
  |some x=>
   rw[Ld hx];refine(XP hE hc (hW.ok x (List.mem_of_getElem? hx)) (Lc hv) s).bind fun r s hr=> .ite (fun _=> .ok id hr.1) (fun _=>D6 hE g f _ _ _ s hW hr.2)
theorem GN(hE:GK E)(g:Nat)(n:Int)(l:af)(s:cQ)(hl:LI l):KI In64 s (cc E g n l s):=by
 unfold cc fF;refine .ite (fun _=> .stop) fun _=> ?_
 split
 ·exact .stop
 rename_i q hq;refine .ite (fun _=> .stop) fun _=> .ite (fun _=> .stop) fun _=> ?_
 exact KI.same (s2:={s with opened:=s.opened+1}) id (D6 hE g q 0 (-1) _ _ (hE.fns q (List.mem_of_getElem? hq)) (fun x hx=>by
  rcases List.mem_append.1 hx with hx|hx
  ·exact hl x hx
  ·rw[(D7.1 hx).2];exact jO))
theorem Jn(g:Nat)(n:Int)(l:af)(s:cQ):Rp s (cc E g n l s):=fun x s' h=>⟨BQ g n l s x s' h,yI g n l s x s' h⟩
theorem Sh{g:Nat}{l:af}{nm:aV}{s:cQ}:(match fh E.names nm with|some n=>cc E g n l s|none=> .stop 5 0 s)=cc E g ((fh E.names nm).getD 0) l s:=by
 cases fh E.names nm with
 |some n=>rfl
 |none=>
  show dp.stop 5 0 s=fF E (iW E g) 0 l s;rw[lk (.inl dQ)]
end
end Go.Mor
namespace Go.Mor
open Go.RowKit
structure XQ extends Env0
abbrev XQ.mb(E:XQ):List et:=E.fns
structure RX where
 E:XQ
 ds:List bE
 r:Nat
 fA:ar
 fc:Nat
 qA:ar
 qc:Nat
 dA:ar
 dc:Nat
 pA:ar
 pc:Nat
 mG:Nat
 iA:ar
 ic:Nat
abbrev D8(X:RX)(z:jo)(oA:ar)(oc:Nat):aP:=[.slice X.dA X.ds.length X.dc,.slice X.pA X.ds.length X.pc,.slice (some (aZ X.mG)) X.E.bR X.E.bR,vI z.s.next,.slice X.iA X.E.inp.length X.ic,vI (z.s.pos:Int),.int .i64 z.k,vI z.c,.slice oA z.s.out.length oc,vI z.s.steps,.bool z.ov,vI X.E.fuel,vI z.s.opened,.slice X.fA X.E.mb.length X.fc,.slice X.qA X.E.mb.length X.qc]
abbrev oN(X:RX)(z:jo)(oA:ar)(oc:Nat):bx:= .aB X.r 138 (D8 X z oA oc)
abbrev mZ(X:RX)(z:jo):bx:= .row 2 1 (some (aZ X.mG)) X.E.bR X.E.bR (ints z.s.mem)
abbrev mM(z:jo)(oA:ar)(oc:Nat):bx:= .row 5 1 oA z.s.out.length oc (qW z.s.out)
abbrev dR(X:RX)(z:jo)(oA:ar)(oc:Nat):List bx:=[.aB X.r 138 (D8 X z oA oc),.row 2 1 (some (aZ X.mG)) X.E.bR X.E.bR (ints z.s.mem),.row 5 1 oA z.s.out.length oc (qW z.s.out)]
def RX.T(X:RX):List bx:=X.E.fns.map (fun f=>bx.fn f.A f.bh)++(X.E.fns.map (fun f=>bx.rd f.qA (QT f))++X.E.fns.flatMap (fun f=>f.bG.map (fun q=>bx.rd q.1 (ints q.2.2))))
def RX.ro(X:RX):bx:= .all (.l7 X.fA 5 (X.E.mb.map et.cells):: .l7 X.dA 4 (X.ds.map bE.cells):: .rd X.pA (ints (fX X.ds X.ds.length)):: .rd X.iA (qW X.E.inp):: .rd X.qA (X.E.fns.map (fun f=> .slice f.qA f.bG.length f.qc))::X.T)
section
variable {S : Nat → Prop} {w : World} {X : RX}
theorem RO.Nx(h:RO S w X.ro):RO S w (.l7 X.fA 5 (X.E.mb.map et.cells)):=h.sub (List.mem_cons_self ..)
theorem RO.Qfy(h:RO S w X.ro):RO S w (.l7 X.dA 4 (X.ds.map bE.cells)):=h.sub (.tail _ (List.mem_cons_self ..))
theorem RO.xpl(h:RO S w X.ro):RO S w (.rd X.pA (ints (fX X.ds X.ds.length))):=h.sub (.tail _ (.tail _ (List.mem_cons_self ..)))
theorem RO.xin(h:RO S w X.ro):RO S w (.rd X.iA (qW X.E.inp)):=h.sub (.tail _ (.tail _ (.tail _ (List.mem_cons_self ..))))
theorem RO.xq(h:RO S w X.ro):RO S w (.rd X.qA (X.E.fns.map (fun f=> .slice f.qA f.bG.length f.qc))):=h.sub (.tail _ (.tail _ (.tail _ (.tail _ (List.mem_cons_self ..)))))
theorem RO.xfn(h:RO S w X.ro){f:et}(hf:f∈X.E.fns):RO S w (.fn f.A f.bh):=h.sub (.tail _ (.tail _ (.tail _ (.tail _ (.tail _ (List.mem_append_left _ (List.mem_map.2 ⟨f,hf,rfl⟩)))))))
theorem RO.xsv(h:RO S w X.ro){f:et}(hf:f∈X.E.fns):RO S w (.rd f.qA (QT f)):=h.sub (.tail _ (.tail _ (.tail _ (.tail _ (.tail _ (List.mem_append_right _ (List.mem_append_left _ (List.mem_map.2 ⟨f,hf,rfl⟩))))))))
theorem RO.xs(h:RO S w X.ro){f:et}(hf:f∈X.E.fns){q:ar×Nat×af}(hq:q∈f.bG):RO S w (.rd q.1 (ints q.2.2)):=h.sub (.tail _ (.tail _ (.tail _ (.tail _ (.tail _ (List.mem_append_right _ (List.mem_append_right _ (List.mem_flatMap.2 ⟨f,hf,List.mem_map.2 ⟨q,hq,rfl⟩⟩))))))))
end
def Vh(qs:List et):List (aV×Int):=qs.zipIdx.map fun p=>(p.1.nm,((p.2+1:Nat):Int))
section
variable {qs : List et} {j : Nat} {f : et} {nm : ByteArray}
theorem xD:(Vh qs)[j]?=(qs[j]?).map fun f=>(f.nm,((j+1:Nat):Int)):=by
 unfold Vh;rw[List.getElem?_map,List.getElem?_zipIdx];cases qs[j]?<;>simp
theorem Si(h:vc et.nm qs nm j):vc (·.1) (Vh qs) nm j:=fun i p hi hp=>by
 rw[xD]at hp;cases hc:qs[i]? with
 |none=>rw[hc]at hp;cases hp
 |some f=>
  rw[hc]at hp;simp only[Option.map_some,Option.some.injEq]at hp;rw[←hp];exact h i f hi hc
theorem Qct(hf:qs[j]?=some f)(he:f.nm.toList=nm.toList)(h:vc et.nm qs nm j):fh (Vh qs) nm=some ((j+1:Nat):Int):=re _ j (by rw[xD,hf];simp only[Option.map_some,kq.1 he]) (Si h)
theorem Sj(h:vc et.nm qs nm qs.length):fh (Vh qs) nm=none:=by
 refine Jm ?_;have:(Vh qs).length=qs.length:=by unfold Vh;simp
 rw[this];exact Si h
theorem Sk{n:Int}(h:fh (Vh qs) nm=some n):1≤n∧n≤qs.length:=by
 obtain⟨i,hi⟩:=List.mem_iff_getElem?.1 (KQ h);rw[xD]at hi;cases hd:qs[i]? with
 |none=>rw[hd]at hi;cases hi
 |some d=>
  rw[hd]at hi;simp only[Option.map_some,Option.some.injEq,Prod.mk.injEq]at hi;have:=(List.getElem?_eq_some_iff.1 hd).1;omega
end
structure RX.WF(X:RX):Prop where
 fns:∀f,f∈X.E.fns→f.WF
 XR:X.E.mb.length≤1000
 nds:X.ds.length≤1000000
 next:aJ X.ds X.ds.length≤262144
 names:X.E.names=Vh X.E.fns
 data:X.E.data=cP X.ds X.ds.length
 mem:X.E.bR≤262144
 fuel:0≤X.E.fuel∧X.E.fuel≤4194304
 inp:X.E.inp.length≤4096
 ic:X.E.inp.length≤X.ic
 bytes:∀b,b∈X.E.inp→0≤b∧b≤255
 nd:∀f,f∈X.E.fns→∀k,(f.src k).Nodup
structure dM(X:RX)(z:jo):Prop where
 mem:z.s.mem.length=X.E.bR
 n1:1≤z.s.next
 n2:z.s.next≤X.E.bR
 pos:z.s.pos≤X.E.inp.length
 out:z.s.out.length≤4096
 s1:0≤z.s.steps
 s2:z.s.steps≤X.E.fuel
theorem vd{ds:List bE}{nm:aV}{n:Int}(h:fh (cP ds ds.length) nm=some n):∃j,j<ds.length∧n=(aJ ds j:Int):=by
 obtain⟨i,hi⟩:=List.mem_iff_getElem?.1 (KQ h);rw[sX]at hi;cases hd:ds[i]? with
 |none=>rw[hd]at hi;cases hi
 |some d=>
  rw[hd]at hi;simp only[Option.map_some,Option.some.injEq,Prod.mk.injEq]at hi;exact⟨i,(List.getElem?_eq_some_iff.1 hd).1,hi.2.symm⟩
section
variable {X : RX} {z : jo}
theorem RX.WF.ein(h:X.WF):GK X.E.toEnv0 where
 names nm n hn:=by rw[h.names]at hn;have:=Sk hn;have:X.E.fns.length≤1000:=h.XR;exact ue oM oM
 data nm n hn:=by rw[h.data]at hn;obtain⟨j,hj,rfl⟩:=vd hn;have:=ji (ds:=X.ds) (Nat.le_of_lt hj);have:=h.next;exact ue oM oM
 inp b hb:=by have:=h.bytes b hb;exact ue this.1 oM
 next:=h.mem;fns f hf:=h.fns f hf
theorem Sl(hX:X.WF){p:Nat}:0≤X.E.inp.getD p 0∧X.E.inp.getD p 0≤255:=by
 by_cases h:p<X.E.inp.length
 ·have:X.E.inp.getD p 0=X.E.inp[p]:=by simp[List.getD,h]
  rw[this];exact hX.bytes _ (List.getElem_mem h)
 ·have:X.E.inp.getD p 0=0:=by simp[List.getD,h]
  rw[this];omega
theorem dM.fin(h:dM X z){k c:Int}:dM X (z.fin k c):=⟨by rw[zl];exact h.mem,by rw[zl];exact h.n1,by rw[zl];exact h.n2,by rw[zl];exact h.pos,by rw[zl];exact h.out,by rw[zl];exact h.s1,by rw[zl];exact h.s2⟩
theorem dM.step(h:dM X z)(hn:¬z.s.steps=X.E.fuel):dM X {z with s:={z.s with steps:=z.s.steps+1}}:=⟨h.mem,h.n1,h.n2,h.pos,h.out,by have:=h.s1;show 0≤z.s.steps+1;omega,by have:=h.s2;show z.s.steps+1≤_;omega⟩
theorem dM.take(h:dM X z){n:Int}(h0:0≤n)(h1:n≤(X.E.bR:Int)-z.s.next):dM X {z with s:={z.s with next:=z.s.next+n}}:=⟨h.mem,by have:=h.n1;show 1≤z.s.next+n;omega,by show z.s.next+n≤_;omega,h.pos,h.out,h.s1,h.s2⟩
theorem dM.read(h:dM X z)(hp:z.s.pos<X.E.inp.length):dM X {z with s:={z.s with pos:=z.s.pos+1}}:=⟨h.mem,h.n1,h.n2,hp,h.out,h.s1,h.s2⟩
theorem dM.write(h:dM X z)(hp:z.s.out.length<4096)(b:Int):dM X {z with s:={z.s with out:=z.s.out++[b]}}:=⟨h.mem,h.n1,h.n2,h.pos,by show(z.s.out++[b]).length≤_;rw[List.length_append];exact hp,h.s1,h.s2⟩
theorem dM.set(h:dM X z)(k:Nat)(v:Int):dM X {z with s:={z.s with mem:=z.s.mem.set k v}}:=⟨by show(z.s.mem.set k v).length=_;rw[List.length_set];exact h.mem,h.n1,h.n2,h.pos,h.out,h.s1,h.s2⟩
theorem Sm{w:World}{A:ar}{ad:Addr}{l:af}{p:Nat}(h:(bx.rd A (qW l)).holds w)(hA:A=some ad)(hp:p<l.length):w.cell? (ad.add (((p:Int)+1-1).toNat*1))=some (.int .u8 (l.getD p 0)):=by
 have e:((p:Int)+1-1).toNat=p:=oM;rw[e];have h1:(qW l)[p]?=some (.int .u8 (l.getD p 0)):=by unfold qW;rw[List.getElem?_map,List.getElem?_eq_getElem hp];simp[List.getD,hp]
 exact bJ h hA h1
theorem zn{oA:ar}{oc:Nat}{b:Bool}(h:z.ov=b):dR X z oA oc=[.aB X.r 138 (.slice X.dA X.ds.length X.dc:: .slice X.pA X.ds.length X.pc:: .slice (some (aZ X.mG)) X.E.bR X.E.bR:: .int .i64 z.s.next:: .slice X.iA X.E.inp.length X.ic:: .int .i64 (z.s.pos:Int):: .int .i64 z.k:: .int .i64 z.c:: .slice oA z.s.out.length oc:: .int .i64 z.s.steps:: .bool b:: .int .i64 X.E.fuel:: .int .i64 z.s.opened::[.slice X.fA X.E.mb.length X.fc,.slice X.qA X.E.mb.length X.qc]),.row 2 1 (some (aZ X.mG)) X.E.bR X.E.bR (ints z.s.mem),.row 5 1 oA z.s.out.length oc (qW z.s.out)]:=by
 subst h;rfl
end
abbrev xS(X:RX)(z:jo)(oA:ar)(oc:Nat):Nat→Prop:=(bx.pk (dR X z oA oc)).fp
def XV(X:RX)(S:Nat→Prop)(w:World)(z:jo)(A:cQ→dp Int)(v:Value)(w':World):Prop:=∃x z' oA oc,v=vI x∧dM X z'∧ey (z.go A) (z'.go (dp.ok x))∧Mem S w w' (dR X z' oA oc)
def Qcu(P:Program)(X:RX)(z:jo)(oA:ar)(oc:Nat)(w:World)(fn:FuncId)(args:aP)(A:cQ→dp Int):Prop:=Calls P fn args.toArray w (ez (XV X (xS X z oA oc) w z A))
def Le(P:Program)(X:RX)(fn:FuncId)(call:Int→af→cQ→dp Int)(b:Int):Prop:=∀(n:Int) (l:af) (bA:ar) (bc:Nat) (z:jo) (oA:ar) (oc:Nat) (w:World),dM X z→tc X.E.toEnv0 z b l→(bx.pk (dR X z oA oc)).holds w→RO (xS X z oA oc) w X.ro→RO (xS X z oA oc) w (.rd bA (ints l))→l.length≤17→Qcu P X z oA oc w fn [pT X.r 0,vI n,.slice bA l.length bc] (call n l)
def YIV(X:RX)(S:Nat→Prop)(w:World)(z:jo)(op:Int)(A:cQ→dp Int)(v:Value)(w':World):Prop:=∃x z' oA oc,v=vI x∧dM X z'∧(∃x',(aK op→x=x')∧ey (z.go A) (z'.go (dp.ok x')))∧Mem S w w' (dR X z' oA oc)
def YBV(X:RX)(S:Nat→Prop)(w:World)(z:jo)(b0:Int)(lq m:Nat)(A:cQ→dp (Int×Int×af))(v:Value)(w':World):Prop:=∃b a bC z' oA oc,v= .tuple #[vI b,vI a]∧dM X z'∧bC.length=m∧(z'.ov=true→b= -1)∧tc X.E.toEnv0 z' b0 bC∧ey (z.go A) (z'.go (dp.ok (b,a,bC)))∧Mem S w w' (dR X z' oA oc++[.row 2 1 (some (aZ lq)) m m (ints bC)])
abbrev yZ(X:RX)(z:jo)(oA:ar)(oc lq m:Nat)(v:af):Nat→Prop:=(bx.pk (dR X z oA oc++[.row 2 1 (some (aZ lq)) m m (ints v)])).fp
theorem dM.toO{X:RX}{z:jo}(h:dM X z){n:Int}:dM X {z with s:={z.s with opened:=n}}:=⟨h.mem,h.n1,h.n2,h.pos,h.out,h.s1,h.s2⟩
theorem Sn{G:dp Int}{z:jo}{x:Int}(hr:ey G (z.go fun s=> .ok x {s with opened:=s.opened-1}))(h:z.ov=false→In64 (z.s.opened-1)):ey G (jo.go {z with s:={z.s with opened:=IntKind.i64.wrap (z.s.opened-1)}} (dp.ok x)):=by
 cases hv:z.ov with
 |true=>
  rw[ud hv]at hr;unfold jo.go;rw[if_pos rfl];exact hr
 |false=>
  rw[sW hv]at hr;unfold jo.go;rw[if_neg Kr,xC (h hv)];exact hr
theorem Qcv{l:af}(h:LI l){n:Nat}:LI (l++List.replicate n 0):=fun x hx=>by
 rcases List.mem_append.1 hx with hx|hx
 ·exact h x hx
 ·rw[(D7.1 hx).2];exact jO
theorem Qfz{l:af}{n:Nat}:List.replicate n (vI 0)=ints (l.take 0++List.replicate (n-0) 0):=by simp[ints]
theorem Qcw{l:af}{n j:Nat}(hj:j<l.length)(hn:l.length≤n):(l.take j++List.replicate (n-j) 0).set j (l.getD j 0)=l.take (j+1)++List.replicate (n-(j+1)) 0:=by
 have e:n-j=(n-(j+1))+1:=oM;have h1:(l.take j).length=j:=by rw[List.length_take];omega
 have h2:l.getD j 0=l[j]:=by simp[List.getD,hj]
 rw[List.set_append_right _ _ oM,h1,Nat.sub_self,e,List.replicate_succ,Qaq,List.take_succ_eq_append_getElem hj,List.append_assoc,h2];rfl
end Go.Mor
namespace Go.Mor
open Go.RowKit
theorem Mem.QfA{w:World}{r:bx}(h:r.holds w):Mem r.fp w w [r]:=⟨rfl,rfl,rfl,Nat.le_refl _,fun _ _ _=>rfl,fun q hq=>by rw[List.mem_singleton.1 hq];exact⟨h,fun _ hg=> .inl hg⟩,List.pairwise_singleton _ _⟩
section
variable {names data : List (ByteArray × Int)} {ds : List bE} {base m : List Int} {j k p bR : Nat} {d : bE} {v : Int}
def zZ(ds:List bE)(bR:Nat):Nat→af
 |0=>List.replicate bR 0
 |j+1=>match ds[j]? with
  |none=>zZ ds bR j
  |some d=>dx (zZ ds bR j) (aJ ds j) d.words
def EN(names data:List (aV×Int))(ds:List bE)(base:af):Nat→af
 |0=>base
 |j+1=>match ds[j]? with
  |none=>EN names data ds base j
  |some d=>e8 names data (aJ ds j) (EN names data ds base j) d.refs
theorem zo(h:ds[j]?=some d):zZ ds bR (j+1)=dx (zZ ds bR j) (aJ ds j) d.words:=by
 show(match ds[j]? with
  |none=>zZ ds bR j
  |some d=>dx (zZ ds bR j) (aJ ds j) d.words)=_
 rw[h]
theorem ug(h:ds[j]?=some d):EN names data ds base (j+1)=e8 names data (aJ ds j) (EN names data ds base j) d.refs:=by
 show(match ds[j]? with
  |none=>EN names data ds base j
  |some d=>e8 names data (aJ ds j) (EN names data ds base j) d.refs)=_
 rw[h]
theorem qB(h:ds[j]?=some d)(hm:aJ ds ds.length≤bR):aJ ds j+d.words.length≤bR:=by
 have hj:=(List.getElem?_eq_some_iff.1 h).1;have:=ji (ds:=ds) (j:=j+1) (i:=ds.length) oM;rw[fM h]at this;omega
theorem D9:∀(j:Nat),j≤ds.length→aJ ds ds.length≤bR→(zZ ds bR j).length=bR
 |0,_,_=>by simp[zZ]
 |j+1,hj,hm=>by obtain⟨d,hd⟩:=aM (l:=ds) (i:=j) oM;have ih:=D9 j oM hm;rw[zo hd,vD,ih];rw[ih];exact qB hd hm
theorem Ea:∀(j:Nat),(EN names data ds base j).length=base.length
 |0=>rfl
 |j+1=>by
  unfold EN;split
  ·exact Ea j
  ·rw[qm,Ea j]
theorem GO{ws:af}{i:Nat}(hi:i<p)(hp:p≤m.length):dx (m.set i v) p ws=(dx m p ws).set i v:=by
 unfold dx;have h1:i<(m.take p).length:=by rw[List.length_take];omega
 rw[List.append_assoc,List.append_assoc,List.set_append_left _ _ h1,List.take_set,List.drop_set_of_lt oM]
theorem uh{ws:af}{q:Nat}:∀(rs:List (Int×aV)) (m:af),(∀r,r∈rs→q+r.1.toNat<p)→p≤m.length→dx (e8 names data q m rs) p ws=e8 names data q (dx m p ws) rs
 |[],_,_,_=>rfl
 |r::rs,m,h,hp=>by show dx (e8 names data q (m.set (q+r.1.toNat) (wG names data r.2)) rs) p ws=e8 names data q ((dx m p ws).set (q+r.1.toNat) (wG names data r.2)) rs;rw[uh rs _ (fun x hx=>h x (List.mem_cons_of_mem _ hx)) (by rw[List.length_set];exact hp),GO (h r (List.mem_cons_self ..)) hp]
theorem vY{ws:af}(hw:∀d,d∈ds→d.WF)(hp:p≤base.length):∀(j:Nat),j≤ds.length→aJ ds j≤p→dx (EN names data ds base j) p ws=EN names data ds (dx base p ws) j
 |0,_,_=>rfl
 |j+1,hj,hle=>by obtain⟨d,hd⟩:=aM (l:=ds) (i:=j) oM;have hwd:=hw d (List.mem_of_getElem? hd);rw[fM hd]at hle;rw[ug hd,ug hd,uh d.refs _ (fun r hr=>by have:=hwd.refs r hr;omega) (by rw[Ea];exact hp),vY hw hp j oM oM]
theorem Lf(hw:∀d,d∈ds→d.WF)(hm:aJ ds ds.length≤bR):∀(j:Nat),j≤ds.length→kW names data ds bR j=EN names data ds (zZ ds bR j) j
 |0,_=>rfl
 |j+1,hj=>by obtain⟨d,hd⟩:=aM (l:=ds) (i:=j) oM;have h1:=qB hd hm;rw[yL hd,ug hd,zo hd,Lf hw hm j oM,vY hw (by rw[D9 j oM hm];omega) j oM (Nat.le_refl _)]
theorem GP:dx m p []=m:=by
 unfold dx;simp
theorem Eb{ws:af}(hk:k<ws.length)(hp:p+ws.length≤m.length):(dx m p (ws.take k)).set (p+k) (ws.getD k 0)=dx m p (ws.take (k+1)):=by
 have h2:ws.getD k 0=ws[k]:=by simp[List.getD,hk]
 unfold dx;have e1:(m.take p++ws.take k).length=p+k:=by rw[List.length_append,List.length_take,List.length_take];omega
 have e2:(ws.take k).length=k:=by rw[List.length_take];omega
 have e3:(ws.take (k+1)).length=k+1:=by rw[List.length_take];omega
 rw[List.set_append_right _ _ oM,e1,Nat.sub_self,e2,e3,h2,List.take_succ_eq_append_getElem hk,List.drop_eq_getElem_cons oM,Qaq];simp only[List.append_assoc,List.cons_append,List.nil_append,Nat.add_assoc]
theorem xE(h:aJ ds ds.length≤bR):Xd names data bR ds=kW names data ds bR ds.length:=by unfold Xd;rw[if_pos h]
def O7(cs:List uA)(ds:List bE)(s:aV)(j:Nat)(v:Int):Prop:=(v≠0∧v=wG (gY cs cs.length) (cP ds ds.length) s)∨(v=0∧fh (cP ds ds.length) s=none∧vc uA.nm cs s j)
variable {cs : List uA} {s : ByteArray} {f : uA}
theorem O7.start:O7 cs ds s 0 ((fh (cP ds ds.length) s).getD 0):=by
 cases hq:fh (cP ds ds.length) s with
 |none=>exact .inr ⟨rfl,hq,vc.zero⟩
 |some n=>
  obtain⟨j,_,rfl⟩:=vd hq;have:=sD (ds:=ds) (j:=j);exact .inl ⟨by show(aJ ds j:Int)≠0;omega,(Q0 hq).symm⟩
theorem O7.XS(h:O7 cs ds s j v)(hv:v=0)(hf:cs[j]?=some f)(hc:f.nm.toList=s.toList):O7 cs ds s (j+1) ((j:Int)+1):=by
 rcases h with⟨h1,_⟩|⟨_,h2,h3⟩
 ·exact absurd hv h1
 ·refine .inl ⟨oM,?_⟩;rw[FK h2,Qcs hf hc h3];rfl
theorem O7.Qcx(h:O7 cs ds s j v)(hv:v=0)(hf:cs[j]?=some f)(hc:¬f.nm.toList=s.toList):O7 cs ds s (j+1) v:=by
 rcases h with⟨h1,_⟩|⟨_,h2,h3⟩
 ·exact absurd hv h1
 ·exact .inr ⟨hv,h2,h3.next hf hc⟩
theorem O7.done(h:O7 cs ds s j v)(he:¬(j<cs.length∧v=0))(hj:j≤cs.length):v=wG (gY cs cs.length) (cP ds ds.length) s:=by
 rcases h with⟨_,h2⟩|⟨h1,h2,h3⟩
 ·exact h2
 ·obtain rfl:j=cs.length:=oM;rw[FK h2,R6 h3,h1];rfl
end
end Go.Mor
namespace Go.Mor
open Go.RowKit
section
variable {β : Type} {E : Env0} {call : Int → List Int → cQ → dp Int} {G : dp β} {z z' : jo} {l : List bl} {v : List Int} {j : Nat} {i : bl} {F : List Int → cQ → dp β}
theorem XT(hr:ey G (z.go fun s=>(cS E call (l.drop j) v s).bind F))(hi:l[j]?=some i):ey G (z.go fun s=>(cT E s).bind fun _ s=>(bV E call i (eo v i.args) s).bind fun u s=>(cS E call (l.drop (j+1)) (if 0≤i.dst∧aK i.op then v.set i.dst.toNat u else v) s).bind F):=ey.HK (fun s=>by
 obtain⟨eV,he⟩:=List.getElem?_eq_some_iff.1 hi;rw[List.drop_eq_getElem_cons eV,he];show((cT E s).bind fun _ s=>(bV E call i (eo v i.args) s).bind fun u s=>cS E call (l.drop (j+1)) (if 0≤i.dst∧aK i.op then v.set i.dst.toNat u else v) s).bind F=_;cases cT E s with
 |stop _ _ _=>rfl
 |ok a s1=>
  show((bV E call i (eo v i.args) s1).bind fun u s=>cS E call (l.drop (j+1)) (if 0≤i.dst∧aK i.op then v.set i.dst.toNat u else v) s).bind F=(bV E call i (eo v i.args) s1).bind _;cases bV E call i (eo v i.args) s1<;>rfl) hr
theorem Qcy(hr:ey G (z.go fun s=>(cS E call (l.drop j) v s).bind F))(h:l.length≤j):ey G (z.go (F v)):=ey.HK (fun s=>by
 rw[List.drop_eq_nil_of_le h];rfl) hr
end
def XU(E:Env0)(x:aE)(bC:af)(s:cQ):dp (Int×Int×af):=(cT E s).bind fun _ s=>
  if x.e=0 then .ok (x.a,0,bC) s
  else if x.e=1 then .ok (if bC.getD x.v.toNat 0≠0 then x.a else x.b,0,bC) s
  else if x.e=3 then .stop 2 x.a s
  else .ok (-1,if x.v≥0 then bC.getD x.v.toNat 0 else 0,bC) s
theorem XW{E:Env0}{call:Int→af→cQ→dp Int}{x:aE}{v:af}{s:cQ}:sY E call x v s=(cS E call (x.insts.drop 0) v s).bind (XU E x):=by rw[Ke];rfl
theorem Ny{v args:af}{k:Nat}{a:Int}(h:args[k]?=some a):eo v (args.take k)++[v.getD a.toNat 0]=eo v (args.take (k+1)):=by
 unfold eo;rw[kQ,h,List.map_append];rfl
theorem Sp{v:af}{i:bl}{x x':Int}(hs:bQ i)(hx:aK i.op→x=x')(h:0≤i.dst):(if 0≤i.dst∧aK i.op then v.set i.dst.toNat x' else v)=v.set i.dst.toNat x:=by
 have hm:aK i.op:=hs.1.resolve_right oM;rw[if_pos ⟨h,hm⟩,hx hm]
theorem XX{v:af}{i:bl}{x':Int}(h:¬0≤i.dst):(if 0≤i.dst∧aK i.op then v.set i.dst.toNat x' else v)=v:=if_neg (fun h1=>h h1.1)
theorem CB{E:Env0}{call:Int→af→cQ→dp Int}{x:aE}{v:af}{s s':cQ}{b a:Int}{u:af}(h:sY E call x v s= .ok (b,a,u) s'):b= -1∨(x.e=0∧b=x.a)∨(x.e=1∧(b=x.a∨b=x.b)):=by
 unfold sY at h;cases h1:cS E call x.insts v s with
 |stop _ _ _=>rw[h1]at h;cases h
 |ok u1 s1=>
  rw[h1]at h;change((cT E s1).bind _)=_ at h;cases h2:cT E s1 with
  |stop _ _ _=>rw[h2]at h;cases h
  |ok u2 s2=>
   rw[h2]at h;change(if x.e=0 then _ else _)=_ at h;split at h
   ·rename_i he;injection h with h _;injection h with h _;exact .inr (.inl ⟨he,h.symm⟩)
   ·split at h
    ·rename_i he;injection h with h _;injection h with h _;refine .inr (.inr ⟨he,?_⟩);split at h
     ·exact .inl h.symm
     ·exact .inr h.symm
    ·split at h
     ·cases h
     ·injection h with h _;injection h with h _;exact .inl h.symm
def O8(l:af)(ve:Int)(j:Nat)(a:Int):Prop:=(a=0∧∀i x,i<j→l[i]?=some x→x≠ve)∨∃i:Nat,i<j∧a=(i:Int)∧l[i]?=some ve
section
variable {l : List Int} {ve a x : Int} {j : Nat}
theorem O8.start:O8 l ve 0 0:= .inl ⟨rfl,fun i _ hi=>absurd hi (Nat.not_lt_zero i)⟩
theorem O8.XS(hx:l[j]?=some x)(h:x=ve):O8 l ve (j+1) (j:Int):= .inr ⟨j,oM,rfl,by rw[hx,h]⟩
theorem O8.Qcx(hq:O8 l ve j a)(hx:l[j]?=some x)(h:¬x=ve):O8 l ve (j+1) a:=by
 rcases hq with⟨h1,h2⟩|⟨i,h1,h2,h3⟩
 ·refine .inl ⟨h1,fun i y hi hy=> ?_⟩;by_cases e:i=j
  ·subst e;rw[hx]at hy;injection hy with hy;rw[←hy];exact h
  ·exact h2 i y oM hy
 ·exact .inr ⟨i,oM,h2,h3⟩
theorem CC:∀(l:af) (i:Nat),l.Nodup→l[i]?=some ve→eG l ve=i
 |[],i,_,h=>by simp at h
 |y::r,0,_,h=>by simp only[List.getElem?_cons_zero,Option.some.injEq]at h;unfold eG;rw[if_pos h]
 |y::r,i+1,hn,h=>by
  have h1:r[i]?=some ve:=by simpa using h
  have h2:=List.nodup_cons.1 hn;unfold eG;rw[if_neg (fun e=>h2.1 (by rw[e];exact List.mem_of_getElem? h1)),CC r i h2.2 h1]
theorem O8.done(hq:O8 l ve l.length a)(hn:l.Nodup)(hm:ve∈l):a=(eG l ve:Int)∧eG l ve<l.length:=by
 rcases hq with⟨_,h2⟩|⟨i,h1,h2,h3⟩
 ·obtain⟨i,hi⟩:=List.mem_iff_getElem?.1 hm;exact absurd rfl (h2 i ve (List.getElem?_eq_some_iff.1 hi).1 hi)
 ·rw[CC l i hn h3];exact⟨h2,h1⟩
end
theorem Jo(bs:List SB)(b:Int):(bG bs b).Nodup:=by
 unfold bG ef;exact List.Pairwise.map _ (fun a b h=>oM) (List.nodup_range.filter _)
section
variable {E : Env0} {call : Int → List Int → cQ → dp Int} {i : bl} {l : List Int} {s : cQ}
theorem Qar(h:i.op=2∨i.op=3)(hs:bQ i):0≤i.n∧i.n≤2147483647∧1≤i.args.length:=by
 rcases h with h|h
 ·have:=(xl h).1 hs;omega
 ·have:=(tw h).1 hs;omega
theorem Lg{l:List (aV×Int)}{nm:aV}(h:¬(fh l nm).getD 0=0):fh l nm=some ((fh l nm).getD 0):=by
 cases hq:fh l nm with
 |none=>rw[hq]at h;exact absurd rfl h
 |some n=>rfl
theorem XY(h:i.op=8):bV E call i l s=qw E (a0 l) s:=sq h
theorem XZ(h:i.op=9):bV E call i l s=Cj E s:=sr h
theorem X0(h:i.op=10):bV E call i l s= .ok 0 (DT (a0 l) s):=oz h
theorem X1(h:i.op<1∨13≤i.op)(h2:i.op<40):bV E call i l s=Nw (i.op-16) (a0 l) (a1 l) s:=kB h h2
end
theorem GQ{E:Env0}{z z':jo}{b:Int}{L:af}(h:tc E z (b+1) L)(hz:z'.ov=false)(he:ey (z.go (cT E)) (z'.go (dp.ok ()))):tc E z' b L:=tc.step (E:=⟨E,[]⟩) h hz he
theorem Nz{E:Env0}{call:Int→af→cQ→dp Int}(hm:Mv call)(hk:BP call){i:bl}{l:af}{s:cQ}:Rp s (bV E call i l s):=fun x s' h=>⟨yC hm h,yG hk h⟩
theorem GR{E:Env0}{g:Nat}{z z':jo}{b x:Int}{v l:af}{i:bl}(hE:GK E)(h:tc E z b v)(hn:In64 i.n)(hl:l=eo v i.args)(he:ey (z.go (bV E (cc E g) i l)) (z'.go (dp.ok x))):tc E z' b (if 0≤i.dst∧aK i.op then v.set i.dst.toNat x else v):=by
 subst hl;refine h.call (A:=bV E (cc E g) i (eo v i.args)) (Nz (BQ g) (yI g)) (fun hv=>Lb hE hn (D5 hv) (GN hE g) z.s) he (fun hv hx=> ?_);split
 ·exact zm hv hx
 ·exact hv
theorem Qcz{f:et}{k:Nat}{x:aE}(h:Qac f k x){p:bZ}(hp:p∈x.au){q:af}(hq:f.src k=q){a:Int}{at_:Nat}(ha:a=(at_:Int)∧at_<q.length):0≤a∧a<p.args.length∧0≤p.args.getD a.toNat 0∧p.args.getD a.toNat 0<f.va:=by
 obtain⟨rfl,hl⟩:=ha;have h1:=h.Qie p hp;rw[hq]at h1;have h2:=h.Qfb p hp _ (Mor.WN (l:=p.args) (i:=at_) oM);rw[Int.toNat_natCast];omega
theorem Sq{E:Env0}{call:Int→af→cQ→dp Int}{f:et}(hW:f.WF){k:Int}(hk:0≤k){bC:af}{s s':cQ}{nx bk:Int}{v':af}{x:aE}(hx:f.bh[k.toNat]?=some x)(h:sY E call x bC s= .ok (nx,bk,v') s')(hn:0≤nx):nx<f.bh.length∧k∈f.src nx.toNat:=by
 have hr:(x.e=0∧nx=x.a)∨(x.e=1∧(nx=x.a∨nx=x.b)):=(CB h).resolve_left oM;have he:=hW.Qif k.toNat x nx hx hr;rw[Int.toNat_of_nonneg hk]at he;have hq:=(hW.aB _ _ hx).ends;refine⟨?_,he⟩;rcases hq with⟨h0,ha,_⟩|⟨h0,ha,hb,_⟩|⟨h0,_⟩|⟨h0,_⟩<;>rcases hr with⟨h1,h2⟩|⟨h1,h2⟩<;>first|omega|(rcases h2 with h2|h2<;>omega)
theorem QcA{n:Nat}{x:aE}(hq:fU n x){b:Int}(hr:(x.e=0∧b=x.a)∨(x.e=1∧(b=x.a∨b=x.b))):0≤b:=by
 rcases hq with⟨h0,ha,_⟩|⟨h0,ha,hb,_⟩|⟨h0,_⟩|⟨h0,_⟩<;>rcases hr with⟨h1,h2⟩|⟨h1,h2⟩<;>first|omega|(rcases h2 with h2|h2<;>omega)
def vZ(E:Env0)(f:et)(G:dp Int)(g:Nat)(j:Nat)(b a:Int)(v:af)(z:jo):Prop:=(b= -1∧j=0∧(z.ov=false→In64 (z.s.opened-1))∧ey G (z.go fun s=> .ok a {s with opened:=s.opened-1}))∨(0≤b∧∃j1 x,j=j1+1∧j1<g∧f.bh[b.toNat]?=some x∧tc E z ((j1:Int)+1) v∧ey G (z.go (CA E j1 f b x v)))
section
variable {E : Env0} {f : et} {G : dp Int} {g j1 : Nat} {b a b' a' : Int} {v v' : List Int} {z z' : jo} {x : aE}
theorem vZ.done(hr:ey G (z.go (CA E j1 f b x v)))(he:ey (z.go (sY E (cc E j1) x v)) (z'.go (dp.ok (b',a',v'))))(hZ:tc E z' (j1:Int) v')(hb:b'= -1):vZ E f G g 0 b' a' v' z':=by
 refine .inl ⟨hb,rfl,fun h=> ?_,?_⟩
 ·have:=(hZ.run h).2.2.1;exact⟨oM,oM⟩
 ·have h2:=ey.step (F:=fun r s=>if r.1<0 then .ok r.2.1 {s with opened:=s.opened-1}else iW E j1 f r.1 b r.2.2 s) hr he;exact ey.HK (fun s=>if_pos (by show b'<0;omega)) h2
theorem vZ.next(hW:f.WF)(hE:GK E)(hs:0≤b)(hx:f.bh[b.toNat]?=some x)(hr:ey G (z.go (CA E j1 f b x v)))(he:ey (z.go (sY E (cc E j1) x v)) (z'.go (dp.ok (b',a',v'))))(hZ:tc E z' (j1:Int) v')(rZ:z'.s.steps≤E.fuel)(hj:j1<g)(hv:z'.ov=false)(hb:0≤b'){x':aE}(uI:f.bh[b'.toNat]?=some x'){q:af}(hq:f.src b'.toNat=q):vZ E f G g j1 b' a' (gr x'.au (eG q b) v') z':=by
 subst hq;have h1:=(hZ.run hv).1;obtain⟨j2,rfl⟩:∃j2,j1=j2+1:=⟨j1-1,oM⟩;refine .inr ⟨hb,j2,x',rfl,oM,uI,?_,?_⟩
 ·have:((j2+1:Nat):Int)=(j2:Int)+1:=oM;rw[this]at hZ;rcases hZ with h|⟨h1,h2,h3,h4⟩
  ·exact .inl h
  ·exact .inr ⟨h1,h2,h3,Lc h4⟩
 ·have h2:=ey.step (F:=fun r s=>if r.1<0 then .ok r.2.1 {s with opened:=s.opened-1}else iW E (j2+1) f r.1 b r.2.2 s) hr he;exact ey.HK (fun s=>(if_neg (show¬b'<0 by omega)).trans (GM uI)) h2
end
end Go.Mor
namespace Go.Mor
open Go.RowKit
section
variable {nw : NW} {a b c i k : Nat}
theorem kg(h:fq nw a b=true):∃x y,nw[a]?=some x∧nw[b]?=some y∧x.1=y.1∧((x.2=false∧y.2=true)∨(x.2=y.2∧a<b)):=by
 unfold fq at h;split at h
 ·rename_i x y hx hy;simp only[Bool.and_eq_true,Bool.or_eq_true,beq_iff_eq,decide_eq_true_eq,Bool.not_eq_true']at h;exact⟨x,y,hx,hy,h.1,h.2⟩
 ·cases h
theorem GS{x y:aV×Bool}(hx:nw[a]?=some x)(hy:nw[b]?=some y)(h:x.1=y.1)(h2:(x.2=false∧y.2=true)∨(x.2=y.2∧a<b)):fq nw a b=true:=by
 rw[lO hx hy];simp only[Bool.and_eq_true,Bool.or_eq_true,beq_iff_eq,decide_eq_true_eq,Bool.not_eq_true'];exact⟨h,h2⟩
theorem v7(h1:fq nw a b=true)(h2:fq nw b c=true):fq nw a c=true:=by
 obtain⟨x,y,hx,hy,h3,h4⟩:=kg h1;obtain⟨y',z,X2,hz,h5,h6⟩:=kg h2;rw[hy]at X2;injection X2 with X2;subst X2;refine GS hx hz (h3.trans h5) ?_;rcases h4 with⟨h7,h8⟩|⟨h7,h8⟩<;>rcases h6 with⟨h9,xm⟩|⟨h9,xm⟩
 ·exact .inl ⟨h7,xm⟩
 ·exact .inl ⟨h7,h9▸h8⟩
 ·exact .inl ⟨h7.trans h9,xm⟩
 ·exact .inr ⟨h7.trans h9,oM⟩
theorem Jp:fq nw a a=false:=by
 cases h:fq nw a a with
 |false=>rfl
 |true=>
  obtain⟨x,y,hx,hy,_,h4⟩:=kg h;rw[hx]at hy;injection hy with hy;subst hy;rcases h4 with⟨h5,h6⟩|⟨_,h6⟩
  ·rw[h5]at h6;cases h6
  ·omega
def CQ(nw:NW)(i k b:Nat):Prop:=(∀k',k'<k→fq nw k' b=false)∧(b=i∨fq nw b i=true)
theorem CQ.start:CQ nw i 0 i:=⟨fun k' h=>absurd h (Nat.not_lt_zero _),.inl rfl⟩
theorem CQ.keep(h:CQ nw i k b)(hn:fq nw k b=false):CQ nw i (k+1) b:=⟨fun k' hk=>by
 by_cases e:k'=k
 ·subst e;exact hn
 ·exact h.1 k' oM,h.2⟩
theorem CQ.take(h:CQ nw i k b)(hb:fq nw k b=true):CQ nw i (k+1) k:=by
 refine⟨fun k' hk=> ?_,?_⟩
 ·by_cases e:k'=k
  ·subst e;exact Jp
  ·cases hq:fq nw k' k with
   |false=>rfl
   |true=>
    have:=h.1 k' oM;rw[v7 hq hb]at this;cases this
 ·rcases h.2 with h2|h2
  ·exact .inr (h2▸hb)
  ·exact .inr (v7 hb h2)
theorem CQ.done(h:CQ nw i nw.length b):b=i↔yJ nw i=true:=by
 constructor
 ·rintro rfl;exact qY.2 fun k hk=>h.1 k hk
 ·intro hb;rcases h.2 with h2|h2
  ·exact h2
  ·obtain⟨x,_,hx,_⟩:=kg h2;rw[qY.1 hb b (List.getElem?_eq_some_iff.1 hx).1]at h2;cases h2
theorem CQ.name(h:CQ nw i k b){x y:aV×Bool}(hx:nw[b]?=some x)(hy:nw[i]?=some y):x.1=y.1:=by
 rcases h.2 with rfl|h2
 ·rw[hx]at hy;injection hy with hy;rw[hy]
 ·obtain⟨x',y',uI,X2,h3,_⟩:=kg h2;rw[hx]at uI;rw[hy]at X2;injection uI with uI;injection X2 with X2;rw[uI,X2,h3]
theorem CQ.cond(h:CQ nw i k b){xi xk xb:aV×Bool}(hi:nw[i]?=some xi)(hk:nw[k]?=some xk)(hb:nw[b]?=some xb)(hc:xk.1=xi.1∧((k<b∧xk.2=xb.2)∨(xb.2=true∧xk.2=false))):fq nw k b=true:=GS hk hb (hc.1.trans (h.name hb hi).symm) (hc.2.elim (fun h=> .inr ⟨h.2,h.1⟩) (fun h=> .inl ⟨h.2,h.1⟩))
theorem CQ.v8(h:CQ nw i k b){xi xk xb:aV×Bool}(hi:nw[i]?=some xi)(hk:nw[k]?=some xk)(hb:nw[b]?=some xb)(hc:¬(xk.1=xi.1∧((k<b∧xk.2=xb.2)∨(xb.2=true∧xk.2=false)))):fq nw k b=false:=by
 cases hq:fq nw k b with
 |false=>rfl
 |true=>
  obtain⟨x,y,hx,hy,h3,h4⟩:=kg hq;rw[hk]at hx;rw[hb]at hy;injection hx with hx;injection hy with hy;subst hx hy;exact absurd ⟨h3.trans (h.name hb hi),h4.elim (fun h=> .inr ⟨h.2,h.1⟩) (fun h=> .inl ⟨h.2,h.1⟩)⟩ hc
end
theorem Jq{ds:List bE}{n:Nat}(hn:ds.length≤n)(h:∀(i:Nat) (d:bE),i<n→ds[i]?=some d→kT d):∀d,d∈ds→kT d:=fun d hd=>by
 obtain⟨i,hi⟩:=List.mem_iff_getElem?.1 hd;exact h i d (by have:=(List.getElem?_eq_some_iff.1 hi).1;omega) hi
theorem NB{ds:List bE}{j:Nat}{d:bE}(h:∀(i:Nat) (d:bE),i<j→ds[i]?=some d→kT d)(hd:ds[j]?=some d)(hq:kT d):∀(i:Nat) (d:bE),i<j+1→ds[i]?=some d→kT d:=fun i e hi he=>by
 by_cases hj:i=j
 ·subst hj;rw[hd]at he;injection he with he;subst he;exact hq
 ·exact h i e oM he
theorem Lh{p q:Bool}{a b:Bool}{k n:Nat}(hp:p=a)(hq:q=b)(h:¬((k<n∧a=b)∨(b=true∧a=false)))(h2:(k<n∧p=q)∨(q=true∧p=false)):False:=by
 subst hp hq;exact h h2
end Go.Mor
namespace Go.Mor
open Go.RowKit
theorem ey.kD{a b:dp Unit}(h:ey a b):kD a=kD b:=by
 unfold ey dp.no at h;cases a<;>cases b<;>simp only[dp.ok.injEq,dp.stop.injEq,reduceCtorEq]at h
 ·obtain⟨_,rfl⟩:=h;rfl
 ·obtain⟨rfl,rfl,h⟩:=h;have h1:=congrArg cQ.out h;have h2:=congrArg cQ.steps h;unfold Go.Mor.kD Q1;simp only[Prod.mk.injEq,true_and];exact⟨h1,h2⟩
section
variable {E : Env0} {g j : Nat} {bg : List ByteArray} {b : ByteArray} {z z' : jo} {G : dp Unit} {x : Int}
theorem Jr(hr:ey G (z.go (gW E g (bg.drop j))))(hb:bg[j]?=some b)(h:ey (z.go (cc E g ((fh E.names b).getD 0) [])) (z'.go (dp.ok x))):ey G (z'.go (gW E g (bg.drop (j+1)))):=ey.step (A:=cc E g ((fh E.names b).getD 0) []) (F:=fun _ s=>gW E g (bg.drop (j+1)) s) (ey.HK (fun s=>by
  rw[WQ hb];cases fh E.names b with
  |some n=>rfl
  |none=>
   show dp.stop 5 0 s=(fF E (iW E g) 0 [] s).bind _;rw[lk (.inl dQ)];rfl) hr) h
theorem NC(hr:ey G (z.go (gW E g (bg.drop j))))(h:¬(j<bg.length∧z.ov=false)):kD G=((z.fin 1 0).k,(z.fin 1 0).c,(z.fin 1 0).s.out,(z.fin 1 0).s.steps):=by
 cases hz:z.ov with
 |true=>
  rw[R2 hz];rw[ud hz]at hr;exact hr.kD
 |false=>
  rw[K6 hz];rw[sW hz,Q3 (Nat.le_of_not_lt fun h2=>h ⟨h2,hz⟩)]at hr;exact hr.kD
end
abbrev z0(mem:af)(n:Nat):jo:=⟨false,0,0,lyS mem n,0,0⟩
theorem zp{ds:List bE}(hw:∀d,d∈ds→d.WF):∀j,j≤ds.length→aJ ds j≤1+16384*j
 |0,_=>by rw[FI];omega
 |j+1,hj=>by obtain⟨d,hd⟩:=aM (l:=ds) (i:=j) oM;have:=(hw d (List.mem_of_getElem? hd)).len;have:=zp hw j oM;rw[fM hd];omega
theorem X3(fuel:Int):max 0 (min fuel 4194304)=min (max fuel 0) 4194304:=oM
section
variable {X : RX} {n : Nat}
theorem X4{names data:List (aV×Int)}{bR:Nat}{ds:List bE}(h:aJ ds ds.length≤bR):(Xd names data bR ds).length=bR:=by
 rw[xE h];exact BS _ (Nat.le_refl _) h
theorem X5{m:af}(hm:m.length=X.E.bR)(h1:1≤n)(h2:n≤X.E.bR)(hf:0≤X.E.fuel):dM X (z0 m n)where
 mem:=hm;n1:=by show(1:Int)≤(n:Int);omega
 n2:=by show(n:Int)≤X.E.bR;omega
 pos:=Nat.zero_le _;out:=Nat.zero_le _;s1:=Int.le_refl _;s2:=hf
theorem wa{names data:List (aV×Int)}(hn:∀nm v,fh names nm=some v→In64 v)(hd:∀nm v,fh data nm=some v→In64 v){p:Nat}:∀(rs:List (Int×aV)) (m:af),LI m→LI (e8 names data p m rs)
 |[],_,h=>h
 |r::rs,m,h=>wa hn hd rs _ (zm h (by
   unfold wG;split
   ·exact hd _ _ ‹_›
   ·cases hq:fh names r.2 with
    |none=>exact jO
    |some v=>exact hn _ _ hq))
theorem Js{m ws:af}{p:Nat}(h:LI m)(hw:LI ws):LI (dx m p ws):=fun x hx=>by
 unfold dx at hx;rcases List.mem_append.1 hx with hx|hx
 ·rcases List.mem_append.1 hx with hx|hx
  ·exact h x (List.mem_of_mem_take hx)
  ·exact hw x hx
 ·exact h x (List.mem_of_mem_drop hx)
theorem zq{names data:List (aV×Int)}{ds:List bE}{bR:Nat}(hn:∀nm v,fh names nm=some v→In64 v)(hd:∀nm v,fh data nm=some v→In64 v)(hw:∀d,d∈ds→LI d.words):∀j,LI (kW names data ds bR j)
 |0=>fun x hx=>by have Df:x∈List.replicate bR (0:Int):=hx;rw[(D7.1 Df).2];exact jO
 |j+1=>by
  show LI (match ds[j]? with
   |none=>kW names data ds bR j
   |some d=>e8 names data (aJ ds j) (dx (kW names data ds bR j) (aJ ds j) d.words) d.refs)
  split
  ·exact zq hn hd hw j
  ·exact wa hn hd _ _ (Js (zq hn hd hw j) (hw _ (List.mem_of_getElem? ‹_›)))
end
abbrev ND:=List (ar×Nat×af)
def NF(l:ND):aP:=l.map (fun q=> .slice q.1 q.2.2.length q.2.1)
def mkY(x:cX)(A:ar)(c:Nat)(ss:ND):et:=⟨x.nm,x.wk,x.pa,x.va,x.A,x.c,x.bh,A,c,ss⟩
def NG(q:ar×Nat×af):bx:= .row 3 1 q.1 q.2.2.length q.2.1 (ints q.2.2)
def Vi(X:List bx)(f:et):Prop:=bx.row 43 1 f.qA f.bG.length f.qc (NF f.bG)∈X∧∀q,q∈f.bG→NG q∈X
def zr(qs:List et):aP:=qs.map (fun f=> .slice f.qA f.bG.length f.qc)
def Ec(bs:List SB)(ss:ND)(j:Nat):Prop:=ss.length=j∧ss.map (·.2.2)=(List.range j).map (fun t:Nat=>bG bs (t:Int))
section
variable {X Y : List bx} {f : et} {qs : List et} {x : cX} {A A' : Option Addr} {c c' : Nat} {ss : ND} {bs : List SB} {j : Nat} {cs : List cX}
theorem X6(h:Ec (aq x.bh) ss (aq x.bh).length):(mkY x A c ss).can=jM x:=by
 unfold et.can mkY jM;simp only[et.mk.injEq,true_and];show ss.map (fun q=>((none:ar),0,q.2.2))=(tI (aq x.bh)).map _;unfold tI;rw[←h.2,List.map_map];rfl
theorem Vi.mono(h:Vi X f):Vi (X++Y) f:=⟨List.mem_append_left _ h.1,fun q hq=>List.mem_append_left _ (h.2 q hq)⟩
theorem X7(h:∀f,f∈qs→Vi X f):∀f,f∈qs→Vi (X++Y) f:=fun f hf=>(h f hf).mono
theorem Sr{ss:ND}(h:∀q,q∈ss→NG q∈X){q:ar×Nat×af}(hq:NG q∈Y):∀p,p∈ss++[q]→NG p∈X++Y:=fun p hp=>by
 rcases List.mem_append.1 hp with hp|hp
 ·exact List.mem_append_left _ (h p hp)
 ·rw[List.mem_singleton.1 hp];exact List.mem_append_right _ hq
theorem Ss(h:∀f,f∈qs→Vi X f)(hs:∀q,q∈ss→NG q∈X)(hr:bx.row 43 1 A ss.length c (NF ss)∈Y):∀f,f∈qs++[mkY x A c ss]→Vi (X++Y) f:=fun f hf=>by
 rcases List.mem_append.1 hf with hf|hf
 ·exact(h f hf).mono
 ·rw[List.mem_singleton.1 hf];exact⟨List.mem_append_right _ hr,fun q hq=>List.mem_append_left _ (hs q hq)⟩
theorem Ec.zero:Ec bs [] 0:=⟨rfl,rfl⟩
theorem Ec.next(h:Ec bs ss j):Ec bs (ss++[(A,c,bG bs (j:Int))]) (j+1):=⟨by rw[List.length_append,h.1];rfl,by rw[List.map_append,h.2,List.range_succ,List.map_append];rfl⟩
theorem St{l:af}:NF (ss++[(A,c,l)])=NF ss++[.slice A l.length c]:=by unfold NF;rw[List.map_append];rfl
theorem Su:zr (qs++[mkY x A c ss])=zr qs++[.slice A ss.length c]:=by unfold zr;rw[List.map_append];rfl
theorem X8(h:qs.map et.can=(cs.take j).map jM)(hx:cs[j]?=some x)(hs:Ec (aq x.bh) ss (aq x.bh).length):(qs++[mkY x A c ss]).map et.can=(cs.take (j+1)).map jM:=by
 rw[List.map_append,h,kQ,hx,List.map_append];simp[X6 hs]
theorem X9(h:qs.map et.can=cs.map jM):qs.map et.nm=cs.map cX.nm:=by
 have h2:=congrArg (List.map et.nm) h;rw[List.map_map,List.map_map]at h2;exact h2
theorem QcB(h:qs.map et.can=cs.map jM)(j:Nat):(qs[j]?).map et.nm=(cs[j]?).map cX.nm:=by
 have h2:=congrArg (fun l=>l[j]?) (X9 h);simpa only[List.getElem?_map]using h2
theorem wb:(iI cs cs.length)[j]?=(cs[j]?).map fun f=>(f.nm,((j+1:Nat):Int)):=by
 unfold iI;rw[List.take_length,List.getElem?_map,List.getElem?_zipIdx];cases cs[j]?<;>simp
theorem QcC(h:qs.map et.can=cs.map jM):Vh qs=iI cs cs.length:=by
 apply List.ext_getElem?;intro i;rw[xD,wb];have h2:=QcB h i;cases hq:qs[i]?<;>cases hc:cs[i]?<;>rw[hq,hc]at h2<;>simp_all
def Jt(cs:List cX):List uA:=cs.map fun f=>⟨f.nm,false,0,0,none,0,[]⟩
theorem GU:(Jt cs).length=cs.length:=List.length_map ..
theorem Sv:(Jt cs).map (fun f=>Value.string f.nm)=cs.map (fun f=>Value.string f.nm):=by unfold Jt;rw[List.map_map];rfl
theorem Ju:gY (Jt cs) (Jt cs).length=iI cs cs.length:=by
 apply List.ext_getElem?;intro i;rw[wb];unfold gY;rw[List.take_length,List.getElem?_map,List.getElem?_zipIdx];unfold Jt;rw[List.getElem?_map];cases cs[i]?<;>simp
end
abbrev zt(ds:List bE)(dA:ar)(dc:Nat):cF:=⟨⟨#[]⟩,none,0,[],dA,dc,ds⟩
theorem Ya{ds:List bE}{dA:ar}{dc:Nat}:csD [zt ds dA dc]=aF ds:=by
 have e:flD [zt ds dA dc]=ds:=by unfold flD;simp
 unfold csD nwD;rw[e];rfl
theorem QfB{S:Nat→Prop}{w:World}{e n c:Nat}{A dA:ar}{dc:Nat}{ds:List bE}(h:RO S w (.row e 3 A n c (zt ds dA dc).cells))(hd:RO S w (.cf dA ds)):RO S w (.I5 A [zt ds dA dc]):=by
 refine RO.all fun r hr=> ?_
 rcases List.mem_cons.1 hr with rfl|hr
 ·refine h.mono (fun hr=> ?_) (fun g hg=>hg.2);have h1:=jI (f:=cF.cells) (l:=[zt ds dA dc]) (size:=3) (e:=e) (n:=n) (c:=c) (A:=A) (w:=w) (fun _=>rfl) dQ (by rw[show[zt ds dA dc].flatMap cF.cells=(zt ds dA dc).cells by simp];exact hr)
  exact h1
 ·rw[show[zt ds dA dc].flatMap cF.parts=(zt ds dA dc).parts by simp]at hr;unfold cF.parts at hr;simp only[List.map_nil,List.flatMap_nil,List.nil_append,List.mem_cons]at hr;rcases hr with rfl|rfl|hr
  ·exact⟨fun i cs hi=>by simp at hi,fun g hg=>by obtain⟨⟨i,cs,hi,_⟩,_⟩:=hg;simp at hi⟩
  ·exact hd.sF
  ·exact hd.sub (List.mem_cons_of_mem _ hr)
theorem QfC{ds:List bE}{mem:Int}{inp:af}(h:((¬(∀d,d∈ds→kT d)∨mem<1)∨mem>262144)∨(inp.length:Int)>4096):Qfq ds mem inp ds.length:=by
 rcases h with((h|h)|h)|h
 ·by_cases hm:Ru mem inp
  ·exact .inl hm
  refine yX fun hn=>h fun d hd=>Classical.not_not.1 ((y5 hn).2 d hd)
 ·exact .inl (.inl h)
 ·exact .inl (.inr (.inl h))
 ·exact .inl (.inr (.inr h))
theorem Qir{fs:List cX}{ds:List bE}{mem:Int}{inp:af}(h:¬(((¬(∀d,d∈ds→kT d)∨mem<1)∨mem>262144)∨(inp.length:Int)>4096))(hv:∀(i:Nat) (f:cX),i<fs.length→fs[i]?=some f→cC f.nm f.pa f.va f.bh=0):¬DZ fs ds mem inp fs.length:=by
 rintro(hb|⟨i,f,hi,hf,hx⟩)
 ·rcases hb with hb|⟨i,d,hi,hd,hx⟩
  ·unfold Ru at hb;omega
  ·exact h (.inl (.inl (.inl fun hq=>hx (hq d (List.mem_of_getElem? hd)))))
 ·exact hx (hv i f hi hf)
theorem QcD{fs:List cX}{j:Nat}{f:cX}(h:∀(i:Nat) (f:cX),i<j→fs[i]?=some f→cC f.nm f.pa f.va f.bh=0)(hf:fs[j]?=some f)(hv:cC f.nm f.pa f.va f.bh=0):∀(i:Nat) (f:cX),i<j+1→fs[i]?=some f→cC f.nm f.pa f.va f.bh=0:=fun i g hi hg=>by
 by_cases e:i=j
 ·subst e;rw[hf]at hg;injection hg with hg;rw[←hg];exact hv
 ·exact h i g oM hg
def yE(qs:List et)(cs:List cX)(ds:List bE)(mem:Int)(inp:af)(fuel:Int):XQ:=⟨⟨qs,iI cs cs.length,cP (aF ds) (aF ds).length,inp,mem.toNat,min (max fuel 0) 4194304⟩⟩
section
variable {w : World} {S : Nat → Prop} {qs : List et} {fs cs : List cX} {ds : List bE} {fA dA gA iA qA : Option Addr} {bg : List ByteArray} {mem fuel : Int} {inp : List Int} {ic qc : Nat}
theorem QcE(oZ:cs=fB fs)(hq:qs.map et.can=cs.map jM):(yE qs cs ds mem inp fuel).toEnv0.can=jl fs ds mem inp fuel:=by
 unfold Env0.can jl yE;show(⟨qs.map et.can,_,_,_,_,_⟩:Env0)=_;rw[hq,oZ]
theorem Yb(hI:nG w fs fA ds dA bg gA inp iA ic)(oZ:cs=fB fs)(hq:qs.map et.can=cs.map jM)(hb:¬DZ fs ds mem inp fs.length)(wD:aJ (aF ds) (aF ds).length≤mem.toNat)(r:Nat)(rA:ar)(rc:Nat)(qA:ar)(qc:Nat)(eA:ar)(dc:Nat)(pA:ar)(pc mG:Nat):(⟨yE qs cs ds mem inp fuel,aF ds,r,rA,rc,qA,qc,eA,dc,pA,pc,mG,iA,ic⟩:RX).WF where
 fns f hf:=by obtain⟨x,hx,he⟩:=D0 hq hf;have hxf:x∈fs:=fL (oZ▸hx);exact Qci he (hI.ok x hxf).1 (hI.ok x hxf).2 ((lU hb).2.2 x hxf)
 XR:=by have h1:=congrArg List.length hq;simp only[List.length_map]at h1;have h2:cs.length≤fs.length:=oZ▸fK;have h3:=hI.len;show qs.length≤1000;omega
 nds:=by have h1:(aF ds).length≤ds.length:=fK;have h2:=hI.Gk;show(aF ds).length≤1000000;omega
 next:=by have:=(lU hb).1;show aJ (aF ds) (aF ds).length≤262144;omega
 names:=(QcC hq).symm;data:=rfl;mem:=by have:=(lU hb).1;show mem.toNat≤262144;omega
 fuel:=⟨by show 0≤min (max fuel 0) 4194304;omega,by show min (max fuel 0) 4194304≤4194304;omega⟩;inp:=(lU hb).1.2.2;ic:=hI.Rw;bytes:=hI.bytes;nd f hf k:=by
  obtain⟨x,_,he⟩:=D0 hq hf;rw[←DY f,he];unfold et.src jM;simp only[List.getD_eq_getElem?_getD,List.getElem?_map];by_cases h:k<(aq x.bh).length
  ·rw[lK h];exact Jo _ _
  ·rw[List.getElem?_eq_none (by rw[yu];omega)];exact List.nodup_nil
theorem Li{X:RX}{Y:List bx}{r rc dc pc mG e1 e2 e3 e4 n1 n2 n3 n4 c1 c2 c3 c4:Nat}{rA eA pA:ar}(hX:X=⟨yE qs cs ds mem inp fuel,aF ds,r,rA,rc,qA,qc,eA,dc,pA,pc,mG,iA,ic⟩)(oZ:cs=fB fs)(hq:qs.map et.can=cs.map jM)(hY:∀f,f∈qs→Vi Y f)(h0:RO S w (.pk Y))(h1:RO S w (.row e1 5 rA n1 c1 (cs.flatMap cX.cells)))(h2:RO S w (.row e2 4 eA n2 c2 ((aF ds).flatMap bE.cells)))(h3:RO S w (.row e3 1 pA n3 c3 (ints (fX (aF ds) (aF ds).length))))(h4:RO S w (.row e4 1 qA n4 c4 (zr qs)))(h5:RO S w (.rd iA (qW inp)))(h6:∀x,x∈fs→RO S w (.fn x.A x.bh)):RO S w X.ro:=by
 subst hX;refine RO.all fun q hr=> ?_
 have zR:(qs.map et.cells)=cs.map cX.cells:=by apply List.ext_getElem?;intro i;rw[List.getElem?_map,List.getElem?_map];have hh:=congrArg (fun l=>l[i]?) hq;simp only[List.getElem?_map]at hh;cases hqi:qs[i]?<;>cases hci:cs[i]?<;>rw[hqi,hci]at hh<;>simp only[Option.map_some,Option.map_none,Option.some.injEq,reduceCtorEq]at hh⊢;exact Nc hh
 simp only[RX.T,List.mem_cons,List.mem_append,List.mem_map,List.mem_flatMap]at hr;rcases hr with rfl|rfl|rfl|rfl|rfl|⟨f,hf,rfl⟩|⟨f,hf,rfl⟩|⟨f,hf,q,hq2,rfl⟩
 ·show RO S w (.l7 rA 5 (qs.map et.cells));rw[zR];exact h1.mono (jI (fun _=>rfl) dQ) (fun g hg=>hg.2)
 ·exact h2.mono (jI (fun _=>rfl) dQ) (fun g hg=>hg.2)
 ·exact RO.aD h3
 ·exact h5
 ·exact RO.aD h4
 ·obtain⟨x,hx,he⟩:=D0 hq hf;rw[show f.A=x.A from congrArg et.A he,show f.bh=x.bh from congrArg et.bh he];exact h6 x (fL (oZ▸hx))
 ·exact RO.aD (h0.kS (hY f hf).1)
 ·exact RO.aD (h0.kS ((hY f hf).2 q hq2))
end
end Go.Mor
namespace Go.Proofs.YtejbeeaomokjpaaGreat
open Go.Mor
theorem CD(nm:aV)(wk:Bool)(pa va:Int)(A:ar)(c:Nat)(fs:List aE)(w:World)(iq:pz fs)(hA:RO bq w (.fn A fs)):Calls Tryz.prog 29 #[fA nm wk pa va A c fs] w (ez fun v w'=>v=vB (decide (fS va fs))∧Mem bq w w' []):=by
 have Ay:=bK fs;have hB:=hA.bs;refine fv 51 [fA nm wk pa va A c fs] Tryz.func29 ?_;have hM:=Mem.init w;refine aI<|ou hM 30 (fA nm wk pa va A c fs) (fV nm wk pa va A c fs) fun b1 w2 jU M3=> ?_
 replace M3:=M3.nf;clear hM;refine ah 1<|ay<|ba<|aI<|ah 1<|bt (ao b1 4) _ (ae (M3.get 0 rfl) rfl)<|ah 3 ?_;obtain⟨B4,yz⟩:∃B:Bool,B=decide ((((aq fs).length:Int):Int)>60):=⟨_,rfl⟩;refine bX [(1,pT b1 0),(9,(vB (decide ((((aq fs).length:Int):Int)>60))))] ?_;rw[←yz];have tL:B4=true↔((((aq fs).length:Int):Int)>60):=by rw[yz];simp only[decide_eq_true_eq]
 clear yz;intro aC fr;refine cE 1 6 [10] fr (news:=[(10,cond (!B4) (pT b1 3) undef)]) (by cases B4<;>kernel_rfl) ?_;intro aC fr;refine az (B:=(!B4)) (d:=(some 11)) (vI va) fr (by cases B4<;>kernel_rfl) (fun hB hh=> ?_) ?_;cases B4<;>first|(exact absurd hB dQ)|skip
 have c4:¬((((aq fs).length:Int):Int)>60):=iL tL.2;exact br (some 11) (ao b1 3) fr kR (vI va) (ae (M3.get 0 rfl) rfl) hh;intro aC fr;refine cE 2 9 [13] fr (news:=[(13,(vB (B4||decide ((va:Int)>3000))))]) (by cases B4<;>kernel_rfl) ?_;intro aC fr;revert aC;refine ay<|dX (B4||decide ((va:Int)>3000)) (((((aq fs).length:Int):Int)>60)∨((va:Int)>3000)) (by simp only[Bool.or_eq_true,decide_eq_true_eq,tL]) (fun c13=> ?_) (fun c13=> ?_);refine aI<|ah 1<|bt (ao b1 3) _ (ae (M3.get 0 rfl) rfl)<|ah 2 ?_;obtain⟨Sw,QcF⟩:∃B:Bool,B=decide ((va:Int)≤20000):=⟨_,rfl⟩;refine bX [(1,pT b1 0),(17,(vB (decide ((va:Int)≤20000))))] ?_;rw[←QcF];have QfD:Sw=true↔((va:Int)≤20000):=by rw[QcF];simp only[decide_eq_true_eq]
 clear QcF;intro aC fr;refine cE 1 5 [18] fr (news:=[(18,cond (!Sw) (pT b1 4) undef)]) (by cases Sw<;>kernel_rfl) ?_;intro aC fr;refine az (B:=(!Sw)) (d:=(some 19)) (vS A ((aq fs).length) c) fr (by cases Sw<;>kernel_rfl) (fun hB hh=> ?_) ?_;cases Sw<;>first|(exact absurd hB dQ)|skip
 have HH:¬((va:Int)≤20000):=iL QfD.2;exact br (some 19) (ao b1 4) fr kR (vS A ((aq fs).length) c) (ae (M3.get 0 rfl) rfl) hh;intro aC fr;refine cE 4 10 [2,22] fr (news:=[(2,(vB (Sw||decide ((((aq fs).length:Int):Int)>60)))),(22,(vB (Sw||decide ((((aq fs).length:Int):Int)>60))))]) (by cases Sw<;>kernel_rfl) ?_;intro aC fr;revert aC;refine ay<|bL<|cv (vB (Sw||decide ((((aq fs).length:Int):Int)>60))) ?_;have hR:(Sw||decide ((((aq fs).length:Int):Int)>60))=true↔(((va:Int)≤20000)∨((((aq fs).length:Int):Int)>60)):=by simp only[Bool.or_eq_true,decide_eq_true_eq,QfD]
 have qf:=M3.od [] 0;exact⟨aY hR (by unfold fS;omega),qf⟩;have hl60:fs.length≤60:=oM;refine bP<|aX<|ba<|aX<|cr 0 ?_;intro aC fr;refine fk (fun n_ a_ w_=>∃(k:Nat),n_=fs.length-k∧Fr a_ 51 [(1,pT b1 0),(3,(vI ((eY fs k:Nat):Int))),(4,nV k)]∧Mem bq w w_ [.aB b1 30 (fV nm wk pa va A c fs)]∧(k≤fs.length)) (n:=_) ⟨0,rfl,fr.kp [1,3,4],M3,oM⟩ ?_;clear fr aC M3;rintro n aC w26 ⟨k,rfl,fr,zX,hk⟩;revert aC;refine ba<|aI<|ah 2<|bt (ao b1 4) _ (ae (zX.get 0 rfl) rfl)<|ah 2<|ay<|fE ((k:Int)<((aq fs).length:Int)) (fun Sx=> ?_) (fun Sx=> ?_);refine bP<|ba<|cr 1 ?_;obtain⟨x,hx⟩:=aM (l:=fs) (i:=k) oM;have qe:x.au.length≤281474976710656:=(iq.get hx).lp;have BA:x.insts.length≤281474976710656:=(iq.get hx).li;have O6:=Ik fs k hk;have Sy:=tv hx;obtain⟨lX,rfl⟩:=ek (zX.ro hB) (fH hx);refine da [1,3,4] ?_;intro aC fr;refine l9 (bo [eI ((eY fs k:Nat):Int),eR b1 4,eS (some lX) ((aq fs).length) c,.aU (nV k),eA lX (k:Int) 6,eA lX (k:Int) 6,eS x.pA x.au.length x.pc,eI (x.au.length:Int),eI ((min x.au.length 5000:Nat):Int),eI (((eY fs k:Nat):Int)+((min x.au.length 5000:Nat):Int)),eR b1 4,eS (some lX) ((aq fs).length) c,.aU (nV k),eA lX (k:Int) 6,eP ((aN lX (k:Int) 6).add 1),eS x.iA x.insts.length x.ic,eI (x.insts.length:Int),eI ((min x.insts.length 5000:Nat):Int),eI (((eY fs (k+1):Nat):Int)),eI (((eY fs (k+1):Nat):Int))]) fr (pF (dT lz dP dP (dL (ao b1 4) _ fun w_ hK=>(ae ((zX.aw hK).get 0 rfl) rfl)) dP (dI lX ((aq fs).length) 6 (k:Int)) dP (dL (aN lX (k:Int) 6) _ fun w_ hK=>(dy ((zX.aw hK).ro hB) rfl hx 0 _ rfl)) dP (dMN .i64 (x.au.length:Int) 5000 ((min x.au.length 5000:Nat):Int) (.tmp 37) (.const (vI 5000)) #[3,3] 3 none (by split<;>omega)) (dA (((eY fs k:Nat):Int)+((min x.au.length 5000:Nat):Int))) dP (dL (ao b1 4) _ fun w_ hK=>(ae ((zX.aw hK).get 0 rfl) rfl))) dP (dI lX ((aq fs).length) 6 (k:Int)) dP (dL ((aN lX (k:Int) 6).add 1) _ fun w_ hK=>(dy ((zX.aw hK).ro hB) rfl hx 1 _ rfl)) dP (dMN .i64 (x.insts.length:Int) 5000 ((min x.insts.length 5000:Nat):Int) (.tmp 46) (.const (vI 5000)) #[3,3] 3 none (by split<;>omega)) ?_ dP) ?_;intro ep w_ vs cL hK hp hF;refine jv (g0:=none) ?_;replace hF:Fr ep 51 [(39,(vI (((eY fs k:Nat):Int)+((min x.au.length 5000:Nat):Int)))),(47,(vI ((min x.insts.length 5000:Nat):Int)))]:=hF.kp [39,47];refine gv (kR:ax _ 0=some (some 48,.binOp .add 3 (.tmp 39) (.tmp 47) 3,3,none)) hF kR kR (k':=1) rfl (i:=(((eY fs k:Nat):Int)+((min x.au.length 5000:Nat):Int))) (j:=((min x.insts.length 5000:Nat):Int)) (z:=(((eY fs (k+1):Nat):Int))) kR kR (congrArg some oM) oM oM ?_;intro a2 ea _;refine aL kR ?_;exact xg (d:=some 48) kR ea (Kp.refl _) rfl;intro aC w36 vs hK hv fr;revert aC;refine bX [(1,pT b1 0),(3,(vI (((eY fs (k+1):Nat):Int)))),(4,nV k)] ?_;have rq:=zX.aw hK;clear hK hv fr aC zX;clear vs;refine cG<|ah 1<|cZ ((k:Int)+1)<|ah 1<|ay ?_;intro aC fr;exact⟨fs.length-(k+1),oM,k+1,rfl,fr.kp [1,3,4],rq,oM⟩;refine eW 0<|eX<|aX<|bL<|cv (vB (decide ((((eY fs k:Nat):Int):Int)>3000))) ?_;have hR:decide ((((eY fs k:Nat):Int):Int)>3000)=true↔((((eY fs k:Nat):Int):Int)>3000):=by simp only[decide_eq_true_eq]
 have uz:=zX.od [] 0;exact⟨aY hR (by unfold fS;(try rw[show k=fs.length by omega]);omega),uz⟩
end Go.Proofs.YtejbeeaomokjpaaGreat
namespace Go.Mor
open Go.RowKit
def HL(l:List bE):Int:=(l.map fun d=>((min d.words.length 5000:Nat):Int)+((min d.refs.length 5000:Nat):Int)).sum
theorem Sz{l:List bE}{j:Nat}{d:bE}(h:l[j]?=some d):HL (l.take (j+1))=HL (l.take j)+((min d.words.length 5000:Nat):Int)+((min d.refs.length 5000:Nat):Int):=by
 unfold HL;rw[kQ,h];simp;omega
theorem SA(l:List bE):0≤HL l:=by
 unfold HL;induction l with
 |nil=>simp
 |cons d r ih=>rw[List.map_cons,List.sum_cons];omega
theorem QfE(l:List bE):HL l≤10000*l.length:=by
 unfold HL;induction l with
 |nil=>simp
 |cons d r ih=>rw[List.map_cons,List.sum_cons,List.length_cons];omega
theorem QcG(l:List bE):(nF l:Int)≤HL l∨5000≤HL l:=by
 induction l with
 |nil=>left;simp[nF,HL]
 |cons d r ih=>
  have e1:HL (d::r)=((min d.words.length 5000:Nat):Int)+((min d.refs.length 5000:Nat):Int)+HL r:=by unfold HL;rw[List.map_cons,List.sum_cons]
  have e2:nF (d::r)=d.words.length+nF r:=by unfold nF;rw[List.map_cons,List.sum_cons]
  have:=SA r;rw[e1,e2];omega
def oO(fs:List cX)(ds:List bE)(g mem i fuel:Int):Prop:=(∃(j:Nat) (f:cX),j<30∧fs[j]?=some f∧fS f.va f.bh)∨20<fs.length∨30<ds.length∨4000<HL (ds.take 50)∨50<g∨20000<mem∨5000<i∨5000<fuel
noncomputable instance (fs : List cX) (ds : List bE) (g mem i fuel : Int) : Decidable (oO fs ds g mem i fuel) := Classical.propDecidable _
theorem NH{w:World}{fs:List cX}{ds:List bE}{bg:List aV}{inp:af}{fuel mem:Int}{fA dA gA iA:ar}{ic:Nat}(h:¬oO fs ds bg.length mem inp.length fuel)(h1:RO bq w (.l7 fA 5 (fs.map cX.cells)))(h2:∀x,x∈fs→pz x.bh)(h3:∀x,x∈fs→RO bq w (.fn x.A x.bh))(h4:RO bq w (.rd gA (bg.map Value.string)))(h5:inp.length≤ic)(h6:RO bq w (.rd iA (qW inp)))(h7:∀b,b∈inp→0≤b∧b≤255)(h8:RO bq w (.cf dA ds))(h9:∀d,d∈ds→DIn d)(xm:∀d,d∈ds→∀x,x∈d.words→In64 x):nG w fs fA ds dA bg gA inp iA ic:=by
 unfold oO at h;simp only[not_or]at h;obtain⟨hg,hl,hd,hv,hb,_⟩:=h;have e:ds.take 50=ds:=List.take_of_length_le oM;rw[e]at hv;have hs:=QcG ds;refine⟨oM,h1,fun x hx=>⟨h2 x hx,?_⟩,h3,oM,h4,h5,h6,h7,oM,h8,h9,oM,xm⟩;obtain⟨i,hi⟩:=List.mem_iff_getElem?.1 hx;have eV:=(List.getElem?_eq_some_iff.1 hi).1;exact Nat.le_trans (sj (fun e=>hg ⟨i,x,oM,hi,e⟩)) dQ
theorem nG.QcH{w w':World}{L:List bx}{fs:List cX}{ds:List bE}{bg:List aV}{inp:af}{fA dA gA iA:ar}{ic:Nat}(h:nG w fs fA ds dA bg gA inp iA ic)(hM:Mem bq w w' L):nG w' fs fA ds dA bg gA inp iA ic where
 len:=h.len;cells:=h.cells.at_ hM;ok:=h.ok;fn x hx:=(h.fn x hx).at_ hM;Rv:=h.Rv;bg:=h.bg.at_ hM;Rw:=h.Rw;inr:=h.inr.at_ hM;bytes:=h.bytes;Gk:=h.Gk;cf:=h.cf.at_ hM;din:=h.din;Nd:=h.Nd;dwi:=h.dwi
end Go.Mor
namespace Go.Proofs.YtejbeeaomokjpaaGreat
open Go.Mor
set_option maxHeartbeats 1000000 in
theorem Yc(d:bE)(w:World)(hR:RO bq w (.l7 d.rA 2 (d.refs.map cR)))(hI:dJ d.nm.size∧dJ d.words.length∧dJ d.refs.length∧∀r,r∈d.refs→In64 r.1∧dJ r.2.size):Calls Tryz.prog 116 #[.agg (DC d).toArray] w (ez fun v w'=>v=vB (decide (kT d))∧Mem bq w w' []):=by
 have h1_:=hI.1;have CE:=hI.2.1;have CF:=hI.2.2.1;unfold dJ at h1_ CE CF;refine fv 72 [.agg (DC d).toArray] Tryz.func116 ?_;have hM:=Mem.init w;refine aI<|ou hM 42 (.agg (DC d).toArray) (DC d) fun b1 w2 jU M3=> ?_
 replace M3:=M3.nf;clear hM;refine ah 1<|ay<|ba<|aI<|ah 1<|bt (aZ b1) _ (ae (M3.get 0 rfl) rfl)<|di (xv d.nm w2) ?_;rintro _ w4 ⟨rfl,DH⟩;have M5:=M3.cl DH;refine ah 2 ?_;obtain⟨B6,sB⟩:∃B:Bool,B=(!(decide (bB d.nm))):=⟨_,rfl⟩;refine bX [(1,pT b1 0),(9,vB (!(decide (bB d.nm))))] ?_;rw[←sB];have yD:B6=true↔(¬(bB d.nm)):=by rw[sB];simp only[iU,decide_eq_true_eq]
 clear sB;intro aC fr;refine cE 1 6 [10] fr (news:=[(10,cond (!B6) (pT b1 3) undef)]) (by cases B6<;>kernel_rfl) ?_;intro aC fr;refine az (B:=(!B6)) (d:=(some 11)) (vS d.rA d.refs.length d.rc) fr (by cases B6<;>kernel_rfl) (fun hB hh=> ?_) ?_;cases B6<;>try exact absurd hB dQ
 have c6:¬(¬(bB d.nm)):=iL yD.2;exact br (some 11) (ao b1 3) fr kR (vS d.rA d.refs.length d.rc) (ae (M5.get 0 rfl) rfl) hh;intro aC fr;refine cE 2 9 [12,13] fr (news:=[(12,(cond (!B6) (vI (d.refs.length:Int)) undef)),(13,cond (!B6) (pT b1 2) undef)]) (by cases B6<;>kernel_rfl) ?_;intro aC fr;refine az (B:=(!B6)) (d:=(some 14)) (vS d.wA d.words.length d.wc) fr (by cases B6<;>kernel_rfl) (fun hB hh=> ?_) ?_;cases B6<;>try exact absurd hB dQ
 have c6:¬(¬(bB d.nm)):=iL yD.2;exact br (some 14) (ao b1 2) fr kR (vS d.wA d.words.length d.wc) (ae (M5.get 0 rfl) rfl) hh;intro aC fr;refine cE 3 13 [17] fr (news:=[(17,(vB (B6||decide ((d.refs.length:Int)>(d.words.length:Int)))))]) (by cases B6<;>kernel_rfl) ?_;intro aC fr;revert aC;refine ay<|dX (B6||decide ((d.refs.length:Int)>(d.words.length:Int))) ((¬(bB d.nm))∨((d.refs.length:Int)>(d.words.length:Int))) (by simp only[Bool.or_eq_true,decide_eq_true_eq,yD]) (fun rf=> ?_) (fun rf=> ?_);refine aX<|bL<|cv (vB false) ?_;have oG:=M5.od [] 0;exact⟨congrArg Value.bool (decide_eq_false (fun h_=>by have CE:=R1 h_;have CF:=h_.2;exact(rf).elim (fun q_=>q_ CF) (fun q_=>oM))).symm,oG⟩;have Lj:bB d.nm:=Classical.not_not.1 (fun h_=>rf (.inl h_));refine bP<|ba<|aX<|cr 0 ?_;intro aC fr;refine fk (fun n_ a_ w_=>∃(j:Nat),n_=d.refs.length-j∧Fr a_ 72 [(1,pT b1 0),(3,nV j)]∧Mem bq w w_ [.aB b1 42 (DC d)]∧(j≤d.refs.length)∧(y3 d j)) (n:=_) ⟨0,rfl,fr.kp [1,3],M5,Nat.zero_le _,Gg d⟩ ?_;clear fr aC M5;rintro n aC Yd ⟨j,rfl,fr,gZ,hj,hr⟩;revert aC;refine ba<|aI<|ah 2<|bt (ao b1 3) _ (ae (gZ.get 0 rfl) rfl)<|ah 2<|ay<|fE ((j:Int)<(d.refs.length:Int)) (fun uS=> ?_) (fun uS=> ?_);refine bP<|ba<|cr 1<|ba<|ba ?_;obtain⟨rj,vf⟩:=aM (l:=d.refs) (i:=j) oM;have hrI:=hI.2.2.2 rj (List.mem_of_getElem? vf);obtain⟨zu,QkQ⟩:=bw (gZ.ro hR) (cs:=cR rj) (i:=j) (gm vf);obtain⟨B30,vh⟩:∃B:Bool,B=decide (rj.1<0):=⟨_,rfl⟩;cases B30;have Sx:¬(rj.1<0):=of_decide_eq_false vh.symm;obtain⟨lX,QkR⟩:=bw (gZ.ro hR) (cs:=cR rj) (i:=j) (gm vf);obtain⟨QcI,SC⟩:=bw (gZ.ro hR) (cs:=cR rj) (i:=j) (gm vf);obtain⟨B35,Ye⟩:∃B:Bool,B=decide (rj.1≥(d.words.length:Int)):=⟨_,rfl⟩;cases B35;have c35:¬(rj.1≥(d.words.length:Int)):=of_decide_eq_false Ye.symm;obtain⟨wJ,we⟩:=bw (gZ.ro hR) (cs:=cR rj) (i:=j) (gm vf);obtain⟨GV,GW⟩:=bw (gZ.ro hR) (cs:=cR rj) (i:=j) (gm vf);refine da [1,3] ?_;intro aC fr;refine wB 23 (bo [eR b1 3,eS d.rA d.refs.length d.rc,.aU (nV j),eA wJ (j:Int) 2,eA wJ (j:Int) 2,eI rj.1,eB false,eB false,eR b1 3,eS d.rA d.refs.length d.rc,.aU (nV j),eA GV (j:Int) 2,eA GV (j:Int) 2,eI rj.1,eR b1 2,eS d.wA d.words.length d.wc,eI (d.words.length:Int),eB false,eB false,eB false,eR b1 3,eS d.rA d.refs.length d.rc,.aU (nV j)]) fr (kV (pF (dT lz dP (dL (ao b1 3) _ fun w_ hK=>(ae ((gZ.aw hK).get 0 rfl) rfl)) dP (Hw d.rA wJ d.refs.length 2 (j:Int) we) dP (dL (aN wJ (j:Int) 2) _ fun w_ hK=>(aQ ((gZ.aw hK).ro hR) we (i:=j) (cs:=cR rj) (gm vf) 0 _ rfl)) (dC (decide (rj.1<0)) vh) dP dP (dL (ao b1 3) _ fun w_ hK=>(ae ((gZ.aw hK).get 0 rfl) rfl)) dP (Hw d.rA GV d.refs.length 2 (j:Int) GW)) dP (dL (aN GV (j:Int) 2) _ fun w_ hK=>(aQ ((gZ.aw hK).ro hR) GW (i:=j) (cs:=cR rj) (gm vf) 0 _ rfl)) dP (dL (ao b1 2) _ fun w_ hK=>(ae ((gZ.aw hK).get 0 rfl) rfl)) dP (dC (decide (rj.1≥(d.words.length:Int))) Ye) dP dP) dP (dL (ao b1 3) _ fun w_ hK=>(ae ((gZ.aw hK).get 0 rfl) rfl)) dP) ?_;intro aC w44 vs hK hv fr;revert aC;refine bX [(1,pT b1 0),(3,nV j),(44,vB false),(46,vS d.rA d.refs.length d.rc),(47,nV j)] ?_;have HA:=gZ.aw hK;clear hK hv fr aC gZ;clear vs;obtain⟨wK,Qas⟩:=bw (HA.ro hR) (cs:=cR rj) (i:=j) (gm vf);intro aC fr;refine bT (some 48) d.rA wK d.refs.length 2 (j:Int) fr kR Qas oM oM ?_;intro aC fr;revert aC;refine ah 1 ?_;refine bt ((aN wK (j:Int) 2).add 1) _ (aQ (HA.ro hR) Qas (i:=j) (cs:=cR rj) (gm vf) 1 _ rfl) ?_;refine di (xv rj.2 w44) ?_;rintro _ w52 ⟨rfl,QcJ⟩;have GX:=HA.cl QcJ;refine ah 2<|ay<|dX (!(decide (bB rj.2))) (¬(bB rj.2)) (by simp only[iU,decide_eq_true_eq]) (fun HM=> ?_) (fun HM=> ?_);refine aX<|bL<|cJ<|cJ<|cv (vB false) ?_;have pG:=GX.od [] 0;exact⟨congrArg Value.bool (decide_eq_false (fun h_=>by obtain⟨CE,CF,_⟩:=h_.1 j rj vf;first|omega|exact HM CE)).symm,pG⟩;have hq_:bB rj.2∧(0≤rj.1∧rj.1<(d.words.length:Int)):=⟨Classical.not_not.1 HM,oM⟩;refine bP<|aX<|cr 2 ?_;intro aC fr;refine fk (fun n_ a_ w_=>∃(k:Nat),n_=j-k∧Fr a_ 72 [(1,pT b1 0),(3,nV j),(4,nV k)]∧Mem bq w w_ [.aB b1 42 (DC d)]∧(k≤j)∧(rj.1∉(d.refs.take k).map (·.1))) (n:=_) ⟨0,rfl,fr.kp [1,3,4],GX,Nat.zero_le _,RY _⟩ ?_;clear fr aC GX;rintro n aC w58 ⟨k,rfl,fr,Ed,hk,kX⟩;revert aC;refine ba<|aX<|fE ((k:Int)<(j:Int)) (fun c62=> ?_) (fun c62=> ?_);refine bP<|ba<|cr 3<|ba ?_;obtain⟨rk,Yf⟩:=aM (l:=d.refs) (i:=k) oM;obtain⟨Yg,Qat⟩:=bw (Ed.ro hR) (cs:=cR rk) (i:=k) (gm Yf);obtain⟨AE,wg⟩:=bw (Ed.ro hR) (cs:=cR rj) (i:=j) (gm vf);obtain⟨B67,QcK⟩:∃B:Bool,B=(rk.1==rj.1):=⟨_,rfl⟩;refine da [1,3,4] ?_;intro aC fr;refine l9 (bo [eR b1 3,eS d.rA d.refs.length d.rc,.aU (nV k),eA Yg (k:Int) 2,eA Yg (k:Int) 2,eI rk.1,eR b1 3,eS d.rA d.refs.length d.rc,.aU (nV j),eA AE (j:Int) 2,eA AE (j:Int) 2,eI rj.1,eB B67]) fr (la (dT lz dP (dL (ao b1 3) _ fun w_ hK=>(ae ((Ed.aw hK).get 0 rfl) rfl)) dP (Hw d.rA Yg d.refs.length 2 (k:Int) Qat) dP (dL (aN Yg (k:Int) 2) _ fun w_ hK=>(aQ ((Ed.aw hK).ro hR) Qat (i:=k) (cs:=cR rk) (gm Yf) 0 _ rfl)) dP (dL (ao b1 3) _ fun w_ hK=>(ae ((Ed.aw hK).get 0 rfl) rfl)) dP (Hw d.rA AE d.refs.length 2 (j:Int) wg) dP (dL (aN AE (j:Int) 2) _ fun w_ hK=>(aQ ((Ed.aw hK).ro hR) wg (i:=j) (cs:=cR rj) (gm vf) 0 _ rfl))) (dC (rk.1==rj.1) QcK)) ?_;intro aC w72 vs hK hv fr;revert aC;refine bX [(1,pT b1 0),(3,nV j),(4,nV k),(71,vB B67)] ?_;have Dq:=Ed.aw hK;clear hK hv fr aC Ed;clear vs;have Qis:B67=true↔((rk.1:Int)=rj.1):=by rw[QcK];simp only[beq_iff_eq]
 clear QcK;refine dX B67 ((rk.1:Int)=rj.1) Qis (fun c74=> ?_) (fun c74=> ?_);refine aX<|bL<|cJ<|cJ<|cJ<|cJ<|cv (vB false) ?_;have o9:=Dq.od [] 0;exact⟨congrArg Value.bool (decide_eq_false (fun h_=>(h_.1 j rj vf).2.2 (R0 (key:=fun r:Int×aV=>r.1) (k:=k) oM Yf c74))).symm,o9⟩;refine bP<|cG<|ah 1<|cZ ((k:Int)+1)<|ah 1<|ay ?_;intro aC fr;exact⟨j-(k+1),oM,k+1,rfl,fr.kp [1,3,4],Dq,oM,RZ kX Yf c74⟩;refine eW 2<|eX<|cG ?_;obtain rfl:j=k:=oM;refine ah 1<|cZ ((j:Int)+1)<|ah 1<|ay ?_;intro aC fr;exact⟨d.refs.length-(j+1),oM,j+1,rfl,fr.kp [1,3],Ed,oM,Gh hr vf ⟨hq_.1,hq_.2,kX⟩⟩;have c35:rj.1≥(d.words.length:Int):=of_decide_eq_true Ye.symm;obtain⟨Yh,Qau⟩:=bw (gZ.ro hR) (cs:=cR rj) (i:=j) (gm vf);obtain⟨Yi,Qav⟩:=bw (gZ.ro hR) (cs:=cR rj) (i:=j) (gm vf);refine da [1,3] ?_;intro aC fr;refine wB 23 (bo [eR b1 3,eS d.rA d.refs.length d.rc,.aU (nV j),eA Yh (j:Int) 2,eA Yh (j:Int) 2,eI rj.1,eB false,eB false,eR b1 3,eS d.rA d.refs.length d.rc,.aU (nV j),eA Yi (j:Int) 2,eA Yi (j:Int) 2,eI rj.1,eR b1 2,eS d.wA d.words.length d.wc,eI (d.words.length:Int),eB true,eB true,eB true]) fr (la (pe (pF (dT lz dP (dL (ao b1 3) _ fun w_ hK=>(ae ((gZ.aw hK).get 0 rfl) rfl)) dP (Hw d.rA Yh d.refs.length 2 (j:Int) Qau) dP (dL (aN Yh (j:Int) 2) _ fun w_ hK=>(aQ ((gZ.aw hK).ro hR) Qau (i:=j) (cs:=cR rj) (gm vf) 0 _ rfl)) (dC (decide (rj.1<0)) vh) dP dP (dL (ao b1 3) _ fun w_ hK=>(ae ((gZ.aw hK).get 0 rfl) rfl)) dP (Hw d.rA Yi d.refs.length 2 (j:Int) Qav)) dP (dL (aN Yi (j:Int) 2) _ fun w_ hK=>(aQ ((gZ.aw hK).ro hR) Qav (i:=j) (cs:=cR rj) (gm vf) 0 _ rfl)) dP (dL (ao b1 2) _ fun w_ hK=>(ae ((gZ.aw hK).get 0 rfl) rfl)) dP (dC (decide (rj.1≥(d.words.length:Int))) Ye) dP dP)) dK) ?_;intro aC w88 vs hK hv fr;revert aC;refine bX [(1,pT b1 0),(3,nV j),(44,vB true)] ?_;have WH:=gZ.aw hK;clear hK hv fr aC gZ;clear vs;refine ah 6<|ay<|fm<|aX<|bL<|cJ<|cJ<|cv (vB false) ?_;have M90:=WH.od [] 0;exact⟨congrArg Value.bool (decide_eq_false (fun h_=>by obtain⟨CE,CF,_⟩:=h_.1 j rj vf;first|omega|exact HM CE)).symm,M90⟩;have Sx:rj.1<0:=of_decide_eq_true vh.symm;obtain⟨Yj,Qaw⟩:=bw (gZ.ro hR) (cs:=cR rj) (i:=j) (gm vf);refine da [1,3] ?_;intro aC fr;refine wB 23 (bo [eR b1 3,eS d.rA d.refs.length d.rc,.aU (nV j),eA Yj (j:Int) 2,eA Yj (j:Int) 2,eI rj.1,eB true,eB true,dU,dU,dU,dU,dU,dU,dU,dU,dU,dU,eB true,eB true]) fr (la (pe (rM (pe (zv (pF lz dP (dL (ao b1 3) _ fun w_ hK=>(ae ((gZ.aw hK).get 0 rfl) rfl)) dP (Hw d.rA Yj d.refs.length 2 (j:Int) Qaw) dP (dL (aN Yj (j:Int) 2) _ fun w_ hK=>(aQ ((gZ.aw hK).ro hR) Qaw (i:=j) (cs:=cR rj) (gm vf) 0 _ rfl)) (dC (decide (rj.1<0)) vh) dP))) dP dP)) dK) ?_;intro aC w97 vs hK hv fr;revert aC;refine bX [(1,pT b1 0),(3,nV j),(44,vB true)] ?_;have GY:=gZ.aw hK;clear hK hv fr aC gZ;clear vs;refine ah 6<|ay<|fm<|aX<|bL<|cJ<|cJ<|cv (vB false) ?_;have GZ:=GY.od [] 0;exact⟨congrArg Value.bool (decide_eq_false (fun h_=>by obtain⟨CE,CF,_⟩:=h_.1 j rj vf;first|omega|exact HM CE)).symm,GZ⟩;refine eW 0<|eX<|aX<|bL<|cv (vB true) ?_;have Iz:=gZ.od [] 0;obtain rfl:j=d.refs.length:=oM;exact⟨congrArg Value.bool (decide_eq_true (Rs.2 ⟨hr,Lj⟩)).symm,Iz⟩
end Go.Proofs.YtejbeeaomokjpaaGreat
namespace Go.Proofs.YtejbeeaomokjpaaGreat
open Go.Mor
theorem SD(ds:List bE)(dA:ar)(dc:Nat)(w:World)(pf:RO bq w (.cf dA ds))(hdI:∀d,d∈ds→DIn d)(O0:ds.length≤1000)(Qit:nF ds≤16384):Calls Tryz.prog 85 #[vS dA ds.length dc] w (ez fun v w'=>v=vB (decide (∀d,d∈ds→kT d))∧Mem bq w w' []):=by
 refine fv 30 [vS dA ds.length dc] Tryz.func85 ?_;have hM:=Mem.init w;refine aX<|aX<|ba<|aX<|cr 0 ?_;intro aC fr;refine fk (fun n_ a_ w_=>∃(j:Nat) (nj:Int),n_=ds.length-j∧Fr a_ 30 [(0,vS dA ds.length dc),(3,vI nj),(4,nV j)]∧Mem bq w w_ []∧(j≤ds.length)∧(nj=(nF (ds.take j):Int))∧(∀(i:Nat) (d:bE),i<j→ds[i]?=some d→kT d)) (n:=_) ⟨0,0,rfl,fr.kp [0,3,4],hM,Nat.zero_le _,rfl,fun i _ h=>absurd h (Nat.not_lt_zero _)⟩ ?_;clear fr aC hM;rintro n aC w3 ⟨j,nj,rfl,fr,M4,hj,hn,hq⟩;revert aC;refine ba<|aX<|fE ((j:Int)<(ds.length:Int)) (fun c7=> ?_) (fun c7=> ?_);refine bP<|ba<|cr 1<|aI ?_;obtain⟨d,hd⟩:=aM (l:=ds) (i:=j) oM;have G0:=List.mem_of_getElem? hd;have ht1:=Na hd;have O9:=Xg ds (j+1);refine ah 3 ?_;obtain⟨pN,rfl⟩:=bw (M4.ro pf.sF) (i:=j) (gm hd);refine ej pN ds.length 4 (j:Int)<|ah 1 ?_;refine bt ((aN pN (j:Int) 4).add 2) _ (aQ (M4.ro pf.sF) rfl (i:=j) (cs:=d.cells) (gm hd) 2 _ rfl) ?_;refine ah 1<|zmn (some 18) (.tmp 17) (.const (vI 16385)) #[3,3] 3 .i64 (d.words.length:Int) 16385<|cZ (nj+(min (d.words.length:Int) 16385))<|ah 1<|ay<|aI<|ah 3 ?_;obtain⟨B9,Hz⟩:∃B:Bool,B=decide (((nj+(min (d.words.length:Int) 16385)):Int)>16384):=⟨_,rfl⟩;refine bX [(0,vS (some pN) ds.length dc),(3,(vI (nj+(min (d.words.length:Int) 16385)))),(4,nV j),(22,(vB (decide (((nj+(min (d.words.length:Int) 16385)):Int)>16384))))] ?_;rw[←Hz];have Vj:B9=true↔(((nj+(min (d.words.length:Int) 16385)):Int)>16384):=by rw[Hz];simp only[decide_eq_true_eq]
 clear Hz;intro aC fr;refine cE 2 5 [23,24] fr (news:=[(23,cond (!B9) (vS (some pN) ds.length dc) undef),(24,cond (!B9) (nV j) undef)]) (by cases B9<;>kernel_rfl) ?_;intro aC fr;refine az (B:=(!B9)) (d:=(some 25)) (vP (aN pN (j:Int) 4)) fr (by cases B9<;>kernel_rfl) (fun hB hh=> ?_) ?_;cases B9<;>try exact absurd hB dQ
 have c9:¬(((nj+(min (d.words.length:Int) 16385)):Int)>16384):=iL Vj.2;exact mj (some 25) pN ds.length 4 (j:Int) fr kR oM oM hh;intro aC fr;cases B9;have c9:¬(((nj+(min (d.words.length:Int) 16385)):Int)>16384):=iL Vj.2;revert aC;refine ga (aN pN (j:Int) 4) (DC d) (gf (i:=j) (M4.ro pf.sF) rfl (gm hd)) ?_;refine di (Yc d w3 ((pf.Qad G0).at_ M4) (hdI d G0)) ?_;rintro _ OT ⟨rfl,Yk⟩;have kK:=M4.cl Yk;refine ah 2<|ay<|dX (!(decide (kT d))) (¬(kT d)) (by simp only[iU,decide_eq_true_eq]) (fun kJ=> ?_) (fun kJ=> ?_);refine aX<|bL<|cJ<|cJ<|cv (vB false) ?_;exact⟨congrArg Value.bool (decide_eq_false (fun h_=>kJ (h_ d G0))).symm,kK⟩;refine bP<|cG<|ah 1<|cZ ((j:Int)+1)<|ah 1<|ay ?_;intro aC fr;exact⟨ds.length-(j+1),oM,j+1,nj+(min (d.words.length:Int) 16385),rfl,fr.kp [0,3,4],kK,oM,oM,NB hq hd (Classical.not_not.1 kJ)⟩;have c9:(((nj+(min (d.words.length:Int) 16385)):Int)>16384):=Vj.1 rfl;omega;refine eW 0<|eX<|aX<|bL<|cv (vB true) ?_;exact⟨congrArg Value.bool (decide_eq_true (Jq (n:=j) oM hq)).symm,M4⟩
set_option maxHeartbeats 1000000 in
theorem NI(fs:List cX)(fA:ar)(fc:Nat)(w:World)(hl:RO bq w (.l7 fA 5 (fs.map cX.cells)))(hm:fs.length≤1000):Calls Tryz.prog 86 #[vS fA fs.length fc] w (ez fun v w'=>∃A c,v=vS A (fB fs).length c∧Mem bq w w' [.row 30 5 A (fB fs).length c ((fB fs).flatMap cX.cells)]):=by
 refine fv 76 [vS fA fs.length fc] Tryz.func86 ?_;have hM:=Mem.init w;refine aX<|aX<|ba<|aX<|cr 0 ?_;have M1:=hM.cl (Mem.dY _ 30 5);clear hM;intro aC fr;refine fk (fun n_ a_ w_=>∃(i:Nat) (Aj:ar) (cj:Nat),n_=fs.length-i∧Fr a_ 76 [(0,vS fA fs.length fc),(3,(vS Aj ((bF (fs.map fun f:cX=>(f.nm,f.wk)) fs i).length) cj)),(4,nV i)]∧Mem bq w w_ [.row 30 5 Aj ((bF (fs.map fun f:cX=>(f.nm,f.wk)) fs i).length) cj ((bF (fs.map fun f:cX=>(f.nm,f.wk)) fs i).flatMap cX.cells)]∧(i≤fs.length)) (n:=_) ⟨0,none,0,rfl,fr.kp [0,3,4],M1,Nat.zero_le _⟩ ?_;clear fr aC M1;rintro n aC w4 ⟨i,Aj,cj,rfl,fr,M5,hi⟩;revert aC;refine ba<|aX<|fE ((i:Int)<(fs.length:Int)) (fun c8=> ?_) (fun c8=> ?_);refine bP<|ba<|cr 1<|aI ?_;obtain⟨f,hf⟩:=aM (l:=fs) (i:=i) oM;have Pa:(fs.map fun f:cX=>(f.nm,f.wk))[i]?=some (f.nm,f.wk):=by rw[List.getElem?_map,hf];rfl
 refine ah 2<|ay<|ba<|aX<|cr 2 ?_;intro aC fr;refine fk (fun n_ a_ w_=>∃(k:Nat) (b:Nat),n_=fs.length-k∧Fr a_ 76 [(0,vS fA fs.length fc),(3,(vS Aj ((bF (fs.map fun f:cX=>(f.nm,f.wk)) fs i).length) cj)),(4,nV i),(5,nV b),(6,nV k)]∧Mem bq w w_ [.row 30 5 Aj ((bF (fs.map fun f:cX=>(f.nm,f.wk)) fs i).length) cj ((bF (fs.map fun f:cX=>(f.nm,f.wk)) fs i).flatMap cX.cells)]∧(k≤fs.length)∧(b<fs.length)∧(CQ (fs.map fun f:cX=>(f.nm,f.wk)) i k b)) (n:=_) ⟨0,i,rfl,fr.kp [0,3,4,5,6],M5,Nat.zero_le _,oM,CQ.start⟩ ?_;clear fr aC M5;rintro n aC Dr ⟨k,b,rfl,fr,dE,hk,hb,wh⟩;revert aC;refine ba<|aX<|fE ((k:Int)<(fs.length:Int)) (fun AF=> ?_) (fun AF=> ?_);refine bP<|ba<|cr 3<|ba ?_;obtain⟨q,hq⟩:=aM (l:=fs) (i:=k) oM;have Pb:(fs.map fun f:cX=>(f.nm,f.wk))[k]?=some (q.nm,q.wk):=by rw[List.getElem?_map,hq];rfl
 obtain⟨x,hx⟩:=aM (l:=fs) (i:=b) oM;have Pc:(fs.map fun f:cX=>(f.nm,f.wk))[b]?=some (x.nm,x.wk):=by rw[List.getElem?_map,hx];rfl
 cases z6:x.wk;cases CG:q.wk;obtain⟨eD,rfl⟩:=bw (dE.ro hl) (cs:=q.cells) (i:=k) (gm hq);obtain⟨NJ,Ee⟩:∃B:Bool,B=((q.nm:aV).toList==(f.nm:aV).toList):=⟨_,rfl⟩;cases NJ;have HI:¬(q.nm).toList=(f.nm).toList:=fun e_=>Bool.noConfusion ((beq_iff_eq.2 e_).symm.trans (Ee.symm))
 refine da [0,3,4,5,6] ?_;intro aC fr;refine l9 (bo [eS (some eD) fs.length fc,.aU (nV k),eA eD (k:Int) 5,eA eD (k:Int) 5,eT q.nm,eS (some eD) fs.length fc,.aU (nV i),eA eD (i:Int) 5,eA eD (i:Int) 5,eT f.nm,eB false,eB false,dU,dU,dU,dU,dU,dU,dU,dU,dU,dU,dU,dU,dU,dU,dU,dU,dU,dU,dU,dU,dU,dU,dU,dU,dU,dU,dU,dU,dU,dU,dU,eB false]) fr (rM (pe (rh (zv (Yl (dT lz dP dP (dI eD fs.length 5 (k:Int)) dP (dL (aN eD (k:Int) 5) _ fun w_ hK=>(aQ ((dE.aw hK).ro hl) rfl (i:=k) (cs:=q.cells) (gm hq) 0 _ rfl)) dP dP (dI eD fs.length 5 (i:Int)) dP (dL (aN eD (i:Int) 5) _ fun w_ hK=>(aQ ((dE.aw hK).ro hl) rfl (i:=i) (cs:=f.cells) (gm hf) 0 _ rfl)) (Gf Ee) dP))))) dK dP) ?_;intro aC w22 vs hK hv fr;revert aC;refine bX [(0,vS (some eD) fs.length fc),(3,(vS Aj ((bF (fs.map fun f:cX=>(f.nm,f.wk)) fs i).length) cj)),(4,nV i),(5,nV b),(6,nV k),(63,vB false)] ?_;have qf:=dE.aw hK;clear hK hv fr aC dE;clear vs;refine fT<|bP<|cG<|ah 1<|cZ ((k:Int)+1)<|ah 1<|ay ?_;intro aC fr;exact⟨fs.length-(k+1),oM,k+1,b,rfl,fr.kp [0,3,4,5,6],qf,oM,oM,wh.keep (wh.v8 Pa Pb Pc (fun h_=>HI (congrArg ByteArray.toList h_.1)))⟩;have HI:(q.nm).toList=(f.nm).toList:=beq_iff_eq.1 (Ee.symm);obtain⟨NK,G1⟩:∃B:Bool,B=decide ((k:Int)<(b:Int)):=⟨_,rfl⟩;cases NK;have HJ:¬((k:Int)<(b:Int)):=of_decide_eq_false G1.symm;refine da [0,3,4,5,6] ?_;intro aC fr;refine l9 (bo [eS (some eD) fs.length fc,.aU (nV k),eA eD (k:Int) 5,eA eD (k:Int) 5,eT q.nm,eS (some eD) fs.length fc,.aU (nV i),eA eD (i:Int) 5,eA eD (i:Int) 5,eT f.nm,eB true,eB true,.aU (nV k),.aU (nV b),eB false,eB false,dU,dU,dU,dU,dU,dU,dU,dU,dU,dU,dU,eB false,eB false,eS (some eD) fs.length fc,.aU (nV b),eA eD (b:Int) 5,eP ((aN eD (b:Int) 5).add 1),eB false,eB false,dU,dU,dU,dU,dU,dU,eB false,eB false,eB false]) fr (kV (pe (rh (la (pF (pe (zv (la (kV (dT lz dP dP (dI eD fs.length 5 (k:Int)) dP (dL (aN eD (k:Int) 5) _ fun w_ hK=>(aQ ((dE.aw hK).ro hl) rfl (i:=k) (cs:=q.cells) (gm hq) 0 _ rfl)) dP dP (dI eD fs.length 5 (i:Int)) dP (dL (aN eD (i:Int) 5) _ fun w_ hK=>(aQ ((dE.aw hK).ro hl) rfl (i:=i) (cs:=f.cells) (gm hf) 0 _ rfl)) (Gf Ee) dP) dP dP (dC (decide ((k:Int)<(b:Int))) G1)) dP))) dK dP dP dP dP (dI eD fs.length 5 (b:Int)) dP (dL ((aN eD (b:Int) 5).add 1) _ fun w_ hK=>(z6▸aQ ((dE.aw hK).ro hl) rfl (i:=b) (cs:=x.cells) (gm hx) 1 _ rfl))) dP))) dP dP dP) ?_;intro aC w31 vs hK hv fr;revert aC;refine bX [(0,vS (some eD) fs.length fc),(3,(vS Aj ((bF (fs.map fun f:cX=>(f.nm,f.wk)) fs i).length) cj)),(4,nV i),(5,nV b),(6,nV k),(63,vB false)] ?_;have pE:=dE.aw hK;clear hK hv fr aC dE;clear vs;refine fT<|bP<|cG<|ah 1<|cZ ((k:Int)+1)<|ah 1<|ay ?_;intro aC fr;exact⟨fs.length-(k+1),oM,k+1,b,rfl,fr.kp [0,3,4,5,6],pE,oM,oM,wh.keep (wh.v8 Pa Pb Pc (fun h_=>Lh CG z6 (by simp;try omega) h_.2))⟩;have HJ:(k:Int)<(b:Int):=of_decide_eq_true G1.symm;refine da [0,3,4,5,6] ?_;intro aC fr;refine l9 (bo [eS (some eD) fs.length fc,.aU (nV k),eA eD (k:Int) 5,eA eD (k:Int) 5,eT q.nm,eS (some eD) fs.length fc,.aU (nV i),eA eD (i:Int) 5,eA eD (i:Int) 5,eT f.nm,eB true,eB true,.aU (nV k),.aU (nV b),eB true,eB true,eS (some eD) fs.length fc,.aU (nV k),eA eD (k:Int) 5,eP ((aN eD (k:Int) 5).add 1),eB false,eS (some eD) fs.length fc,.aU (nV b),eA eD (b:Int) 5,eP ((aN eD (b:Int) 5).add 1),eB false,eB true,eB true,eB true,dU,dU,dU,dU,dU,dU,dU,dU,dU,dU,dU,dU,dU,eB true,eB true]) fr (kV (rh (zv (sv (dT (dT lz dP dP (dI eD fs.length 5 (k:Int)) dP (dL (aN eD (k:Int) 5) _ fun w_ hK=>(aQ ((dE.aw hK).ro hl) rfl (i:=k) (cs:=q.cells) (gm hq) 0 _ rfl)) dP dP (dI eD fs.length 5 (i:Int)) dP (dL (aN eD (i:Int) 5) _ fun w_ hK=>(aQ ((dE.aw hK).ro hl) rfl (i:=i) (cs:=f.cells) (gm hf) 0 _ rfl)) (Gf Ee) dP) dP dP (dC (decide ((k:Int)<(b:Int))) G1) dP dP dP (dI eD fs.length 5 (k:Int)) dP (dL ((aN eD (k:Int) 5).add 1) _ fun w_ hK=>(CG▸aQ ((dE.aw hK).ro hl) rfl (i:=k) (cs:=q.cells) (gm hq) 1 _ rfl)) dP dP (dI eD fs.length 5 (b:Int))) dP (dL ((aN eD (b:Int) 5).add 1) _ fun w_ hK=>(z6▸aQ ((dE.aw hK).ro hl) rfl (i:=b) (cs:=x.cells) (gm hx) 1 _ rfl)) (Gf (rfl:true=(false==false))) dP dP))) dK dP dP) ?_;intro aC w39 vs hK hv fr;revert aC;refine bX [(0,vS (some eD) fs.length fc),(3,(vS Aj ((bF (fs.map fun f:cX=>(f.nm,f.wk)) fs i).length) cj)),(4,nV i),(5,nV b),(6,nV k),(63,vB true)] ?_;have uz:=dE.aw hK;clear hK hv fr aC dE;clear vs;refine fm<|xh<|cG<|ah 1<|cZ ((k:Int)+1)<|ah 1<|ay ?_;intro aC fr;exact⟨fs.length-(k+1),oM,k+1,k,rfl,fr.kp [0,3,4,5,6],uz,oM,oM,wh.take (wh.cond Pa Pb Pc ⟨kq.1 HI,by first|exact .inl ⟨oM,CG.trans z6.symm⟩|exact .inr ⟨z6,CG⟩⟩)⟩;obtain⟨dF,rfl⟩:=bw (dE.ro hl) (cs:=q.cells) (i:=k) (gm hq);obtain⟨B44,SE⟩:∃B:Bool,B=((q.nm:aV).toList==(f.nm:aV).toList):=⟨_,rfl⟩;cases B44;have Qe:¬(q.nm).toList=(f.nm).toList:=fun e_=>Bool.noConfusion ((beq_iff_eq.2 e_).symm.trans (SE.symm))
 refine da [0,3,4,5,6] ?_;intro aC fr;refine l9 (bo [eS (some dF) fs.length fc,.aU (nV k),eA dF (k:Int) 5,eA dF (k:Int) 5,eT q.nm,eS (some dF) fs.length fc,.aU (nV i),eA dF (i:Int) 5,eA dF (i:Int) 5,eT f.nm,eB false,eB false,dU,dU,dU,dU,dU,dU,dU,dU,dU,dU,dU,dU,dU,dU,dU,dU,dU,dU,dU,dU,dU,dU,dU,dU,dU,dU,dU,dU,dU,dU,dU,eB false]) fr (rM (pe (rh (zv (Yl (dT lz dP dP (dI dF fs.length 5 (k:Int)) dP (dL (aN dF (k:Int) 5) _ fun w_ hK=>(aQ ((dE.aw hK).ro hl) rfl (i:=k) (cs:=q.cells) (gm hq) 0 _ rfl)) dP dP (dI dF fs.length 5 (i:Int)) dP (dL (aN dF (i:Int) 5) _ fun w_ hK=>(aQ ((dE.aw hK).ro hl) rfl (i:=i) (cs:=f.cells) (gm hf) 0 _ rfl)) (Gf SE) dP))))) dK dP) ?_;intro aC w49 vs hK hv fr;revert aC;refine bX [(0,vS (some dF) fs.length fc),(3,(vS Aj ((bF (fs.map fun f:cX=>(f.nm,f.wk)) fs i).length) cj)),(4,nV i),(5,nV b),(6,nV k),(63,vB false)] ?_;have Du:=dE.aw hK;clear hK hv fr aC dE;clear vs;refine fT<|bP<|cG<|ah 1<|cZ ((k:Int)+1)<|ah 1<|ay ?_;intro aC fr;exact⟨fs.length-(k+1),oM,k+1,b,rfl,fr.kp [0,3,4,5,6],Du,oM,oM,wh.keep (wh.v8 Pa Pb Pc (fun h_=>Qe (congrArg ByteArray.toList h_.1)))⟩;have Qe:(q.nm).toList=(f.nm).toList:=beq_iff_eq.1 (SE.symm);obtain⟨B53,Ym⟩:∃B:Bool,B=decide ((k:Int)<(b:Int)):=⟨_,rfl⟩;cases B53;have gC:¬((k:Int)<(b:Int)):=of_decide_eq_false Ym.symm;refine da [0,3,4,5,6] ?_;intro aC fr;refine l9 (bo [eS (some dF) fs.length fc,.aU (nV k),eA dF (k:Int) 5,eA dF (k:Int) 5,eT q.nm,eS (some dF) fs.length fc,.aU (nV i),eA dF (i:Int) 5,eA dF (i:Int) 5,eT f.nm,eB true,eB true,.aU (nV k),.aU (nV b),eB false,eB false,dU,dU,dU,dU,dU,dU,dU,dU,dU,dU,dU,eB false,eB false,eS (some dF) fs.length fc,.aU (nV b),eA dF (b:Int) 5,eP ((aN dF (b:Int) 5).add 1),eB false,eB false,dU,dU,dU,dU,dU,dU,eB false,eB false,eB false]) fr (kV (pe (rh (la (pF (pe (zv (la (kV (dT lz dP dP (dI dF fs.length 5 (k:Int)) dP (dL (aN dF (k:Int) 5) _ fun w_ hK=>(aQ ((dE.aw hK).ro hl) rfl (i:=k) (cs:=q.cells) (gm hq) 0 _ rfl)) dP dP (dI dF fs.length 5 (i:Int)) dP (dL (aN dF (i:Int) 5) _ fun w_ hK=>(aQ ((dE.aw hK).ro hl) rfl (i:=i) (cs:=f.cells) (gm hf) 0 _ rfl)) (Gf SE) dP) dP dP (dC (decide ((k:Int)<(b:Int))) Ym)) dP))) dK dP dP dP dP (dI dF fs.length 5 (b:Int)) dP (dL ((aN dF (b:Int) 5).add 1) _ fun w_ hK=>(z6▸aQ ((dE.aw hK).ro hl) rfl (i:=b) (cs:=x.cells) (gm hx) 1 _ rfl))) dP))) dP dP dP) ?_;intro aC w58 vs hK hv fr;revert aC;refine bX [(0,vS (some dF) fs.length fc),(3,(vS Aj ((bF (fs.map fun f:cX=>(f.nm,f.wk)) fs i).length) cj)),(4,nV i),(5,nV b),(6,nV k),(63,vB false)] ?_;have Ed:=dE.aw hK;clear hK hv fr aC dE;clear vs;refine fT<|bP<|cG<|ah 1<|cZ ((k:Int)+1)<|ah 1<|ay ?_;intro aC fr;exact⟨fs.length-(k+1),oM,k+1,b,rfl,fr.kp [0,3,4,5,6],Ed,oM,oM,wh.keep (wh.v8 Pa Pb Pc (fun h_=>Lh CG z6 (by simp;try omega) h_.2))⟩;have gC:(k:Int)<(b:Int):=of_decide_eq_true Ym.symm;refine da [0,3,4,5,6] ?_;intro aC fr;refine l9 (bo [eS (some dF) fs.length fc,.aU (nV k),eA dF (k:Int) 5,eA dF (k:Int) 5,eT q.nm,eS (some dF) fs.length fc,.aU (nV i),eA dF (i:Int) 5,eA dF (i:Int) 5,eT f.nm,eB true,eB true,.aU (nV k),.aU (nV b),eB true,eB true,eS (some dF) fs.length fc,.aU (nV k),eA dF (k:Int) 5,eP ((aN dF (k:Int) 5).add 1),eB true,eS (some dF) fs.length fc,.aU (nV b),eA dF (b:Int) 5,eP ((aN dF (b:Int) 5).add 1),eB false,eB false,eB false,eB false,eS (some dF) fs.length fc,.aU (nV b),eA dF (b:Int) 5,eP ((aN dF (b:Int) 5).add 1),eB false,eB false,dU,dU,dU,dU,dU,dU,eB false,eB false,eB false]) fr (kV (pe (rh (kV (pF (dT (dT lz dP dP (dI dF fs.length 5 (k:Int)) dP (dL (aN dF (k:Int) 5) _ fun w_ hK=>(aQ ((dE.aw hK).ro hl) rfl (i:=k) (cs:=q.cells) (gm hq) 0 _ rfl)) dP dP (dI dF fs.length 5 (i:Int)) dP (dL (aN dF (i:Int) 5) _ fun w_ hK=>(aQ ((dE.aw hK).ro hl) rfl (i:=i) (cs:=f.cells) (gm hf) 0 _ rfl)) (Gf SE) dP) dP dP (dC (decide ((k:Int)<(b:Int))) Ym) dP dP dP (dI dF fs.length 5 (k:Int)) dP (dL ((aN dF (k:Int) 5).add 1) _ fun w_ hK=>(CG▸aQ ((dE.aw hK).ro hl) rfl (i:=k) (cs:=q.cells) (gm hq) 1 _ rfl)) dP dP (dI dF fs.length 5 (b:Int))) dP (dL ((aN dF (b:Int) 5).add 1) _ fun w_ hK=>(z6▸aQ ((dE.aw hK).ro hl) rfl (i:=b) (cs:=x.cells) (gm hx) 1 _ rfl)) (Gf (rfl:false=(true==false))) dP dP dP dP (dI dF fs.length 5 (b:Int))) dP (dL ((aN dF (b:Int) 5).add 1) _ fun w_ hK=>(z6▸aQ ((dE.aw hK).ro hl) rfl (i:=b) (cs:=x.cells) (gm hx) 1 _ rfl)) dP))) dP dP dP) ?_;intro aC w66 vs hK hv fr;revert aC;refine bX [(0,vS (some dF) fs.length fc),(3,(vS Aj ((bF (fs.map fun f:cX=>(f.nm,f.wk)) fs i).length) cj)),(4,nV i),(5,nV b),(6,nV k),(63,vB false)] ?_;have qR:=dE.aw hK;clear hK hv fr aC dE;clear vs;refine fT<|bP<|cG<|ah 1<|cZ ((k:Int)+1)<|ah 1<|ay ?_;intro aC fr;exact⟨fs.length-(k+1),oM,k+1,b,rfl,fr.kp [0,3,4,5,6],qR,oM,oM,wh.keep (wh.v8 Pa Pb Pc (fun h_=>Lh CG z6 (by simp;try omega) h_.2))⟩;cases CG:q.wk;obtain⟨ei,rfl⟩:=bw (dE.ro hl) (cs:=q.cells) (i:=k) (gm hq);obtain⟨NL,Ef⟩:∃B:Bool,B=((q.nm:aV).toList==(f.nm:aV).toList):=⟨_,rfl⟩;cases NL;have OW:¬(q.nm).toList=(f.nm).toList:=fun e_=>Bool.noConfusion ((beq_iff_eq.2 e_).symm.trans (Ef.symm))
 refine da [0,3,4,5,6] ?_;intro aC fr;refine l9 (bo [eS (some ei) fs.length fc,.aU (nV k),eA ei (k:Int) 5,eA ei (k:Int) 5,eT q.nm,eS (some ei) fs.length fc,.aU (nV i),eA ei (i:Int) 5,eA ei (i:Int) 5,eT f.nm,eB false,eB false,dU,dU,dU,dU,dU,dU,dU,dU,dU,dU,dU,dU,dU,dU,dU,dU,dU,dU,dU,dU,dU,dU,dU,dU,dU,dU,dU,dU,dU,dU,dU,eB false]) fr (rM (pe (rh (zv (Yl (dT lz dP dP (dI ei fs.length 5 (k:Int)) dP (dL (aN ei (k:Int) 5) _ fun w_ hK=>(aQ ((dE.aw hK).ro hl) rfl (i:=k) (cs:=q.cells) (gm hq) 0 _ rfl)) dP dP (dI ei fs.length 5 (i:Int)) dP (dL (aN ei (i:Int) 5) _ fun w_ hK=>(aQ ((dE.aw hK).ro hl) rfl (i:=i) (cs:=f.cells) (gm hf) 0 _ rfl)) (Gf Ef) dP))))) dK dP) ?_;intro aC w76 vs hK hv fr;revert aC;refine bX [(0,vS (some ei) fs.length fc),(3,(vS Aj ((bF (fs.map fun f:cX=>(f.nm,f.wk)) fs i).length) cj)),(4,nV i),(5,nV b),(6,nV k),(63,vB false)] ?_;have NM:=dE.aw hK;clear hK hv fr aC dE;clear vs;refine fT<|bP<|cG<|ah 1<|cZ ((k:Int)+1)<|ah 1<|ay ?_;intro aC fr;exact⟨fs.length-(k+1),oM,k+1,b,rfl,fr.kp [0,3,4,5,6],NM,oM,oM,wh.keep (wh.v8 Pa Pb Pc (fun h_=>OW (congrArg ByteArray.toList h_.1)))⟩;have OW:(q.nm).toList=(f.nm).toList:=beq_iff_eq.1 (Ef.symm);obtain⟨Pd,G2⟩:∃B:Bool,B=decide ((k:Int)<(b:Int)):=⟨_,rfl⟩;cases Pd;have Vk:¬((k:Int)<(b:Int)):=of_decide_eq_false G2.symm;refine da [0,3,4,5,6] ?_;intro aC fr;refine l9 (bo [eS (some ei) fs.length fc,.aU (nV k),eA ei (k:Int) 5,eA ei (k:Int) 5,eT q.nm,eS (some ei) fs.length fc,.aU (nV i),eA ei (i:Int) 5,eA ei (i:Int) 5,eT f.nm,eB true,eB true,.aU (nV k),.aU (nV b),eB false,eB false,dU,dU,dU,dU,dU,dU,dU,dU,dU,dU,dU,eB false,eB false,eS (some ei) fs.length fc,.aU (nV b),eA ei (b:Int) 5,eP ((aN ei (b:Int) 5).add 1),eB true,eB true,eS (some ei) fs.length fc,.aU (nV k),eA ei (k:Int) 5,eP ((aN ei (k:Int) 5).add 1),eB false,eB true,eB true,eB true,eB true]) fr (la (sv (dT (pe (zv (la (kV (dT lz dP dP (dI ei fs.length 5 (k:Int)) dP (dL (aN ei (k:Int) 5) _ fun w_ hK=>(aQ ((dE.aw hK).ro hl) rfl (i:=k) (cs:=q.cells) (gm hq) 0 _ rfl)) dP dP (dI ei fs.length 5 (i:Int)) dP (dL (aN ei (i:Int) 5) _ fun w_ hK=>(aQ ((dE.aw hK).ro hl) rfl (i:=i) (cs:=f.cells) (gm hf) 0 _ rfl)) (Gf Ef) dP) dP dP (dC (decide ((k:Int)<(b:Int))) G2)) dP))) dK dP dP dP dP (dI ei fs.length 5 (b:Int)) dP (dL ((aN ei (b:Int) 5).add 1) _ fun w_ hK=>(z6▸aQ ((dE.aw hK).ro hl) rfl (i:=b) (cs:=x.cells) (gm hx) 1 _ rfl)) dP dP dP (dI ei fs.length 5 (k:Int))) dP (dL ((aN ei (k:Int) 5).add 1) _ fun w_ hK=>(CG▸aQ ((dE.aw hK).ro hl) rfl (i:=k) (cs:=q.cells) (gm hq) 1 _ rfl)) dP dP dP) dP) ?_;intro aC w85 vs hK hv fr;revert aC;refine bX [(0,vS (some ei) fs.length fc),(3,(vS Aj ((bF (fs.map fun f:cX=>(f.nm,f.wk)) fs i).length) cj)),(4,nV i),(5,nV b),(6,nV k),(63,vB true)] ?_;have pO:=dE.aw hK;clear hK hv fr aC dE;clear vs;refine fm<|xh<|cG<|ah 1<|cZ ((k:Int)+1)<|ah 1<|ay ?_;intro aC fr;exact⟨fs.length-(k+1),oM,k+1,k,rfl,fr.kp [0,3,4,5,6],pO,oM,oM,wh.take (wh.cond Pa Pb Pc ⟨kq.1 OW,by first|exact .inl ⟨oM,CG.trans z6.symm⟩|exact .inr ⟨z6,CG⟩⟩)⟩;have Vk:(k:Int)<(b:Int):=of_decide_eq_true G2.symm;refine da [0,3,4,5,6] ?_;intro aC fr;refine l9 (bo [eS (some ei) fs.length fc,.aU (nV k),eA ei (k:Int) 5,eA ei (k:Int) 5,eT q.nm,eS (some ei) fs.length fc,.aU (nV i),eA ei (i:Int) 5,eA ei (i:Int) 5,eT f.nm,eB true,eB true,.aU (nV k),.aU (nV b),eB true,eB true,eS (some ei) fs.length fc,.aU (nV k),eA ei (k:Int) 5,eP ((aN ei (k:Int) 5).add 1),eB false,eS (some ei) fs.length fc,.aU (nV b),eA ei (b:Int) 5,eP ((aN ei (b:Int) 5).add 1),eB true,eB false,eB false,eB false,eS (some ei) fs.length fc,.aU (nV b),eA ei (b:Int) 5,eP ((aN ei (b:Int) 5).add 1),eB true,eB true,eS (some ei) fs.length fc,.aU (nV k),eA ei (k:Int) 5,eP ((aN ei (k:Int) 5).add 1),eB false,eB true,eB true,eB true,eB true]) fr (pF (dT (dT (dT lz dP dP (dI ei fs.length 5 (k:Int)) dP (dL (aN ei (k:Int) 5) _ fun w_ hK=>(aQ ((dE.aw hK).ro hl) rfl (i:=k) (cs:=q.cells) (gm hq) 0 _ rfl)) dP dP (dI ei fs.length 5 (i:Int)) dP (dL (aN ei (i:Int) 5) _ fun w_ hK=>(aQ ((dE.aw hK).ro hl) rfl (i:=i) (cs:=f.cells) (gm hf) 0 _ rfl)) (Gf Ef) dP) dP dP (dC (decide ((k:Int)<(b:Int))) G2) dP dP dP (dI ei fs.length 5 (k:Int)) dP (dL ((aN ei (k:Int) 5).add 1) _ fun w_ hK=>(CG▸aQ ((dE.aw hK).ro hl) rfl (i:=k) (cs:=q.cells) (gm hq) 1 _ rfl)) dP dP (dI ei fs.length 5 (b:Int))) dP (dL ((aN ei (b:Int) 5).add 1) _ fun w_ hK=>(z6▸aQ ((dE.aw hK).ro hl) rfl (i:=b) (cs:=x.cells) (gm hx) 1 _ rfl)) (Gf (rfl:false=(false==true))) dP dP dP dP (dI ei fs.length 5 (b:Int)) dP (dL ((aN ei (b:Int) 5).add 1) _ fun w_ hK=>(z6▸aQ ((dE.aw hK).ro hl) rfl (i:=b) (cs:=x.cells) (gm hx) 1 _ rfl)) dP dP) dP (dI ei fs.length 5 (k:Int)) dP (dL ((aN ei (k:Int) 5).add 1) _ fun w_ hK=>(CG▸aQ ((dE.aw hK).ro hl) rfl (i:=k) (cs:=q.cells) (gm hq) 1 _ rfl)) dP dP dP dP) ?_;intro aC w93 vs hK hv fr;revert aC;refine bX [(0,vS (some ei) fs.length fc),(3,(vS Aj ((bF (fs.map fun f:cX=>(f.nm,f.wk)) fs i).length) cj)),(4,nV i),(5,nV b),(6,nV k),(63,vB true)] ?_;have Iy:=dE.aw hK;clear hK hv fr aC dE;clear vs;refine fm<|xh<|cG<|ah 1<|cZ ((k:Int)+1)<|ah 1<|ay ?_;intro aC fr;exact⟨fs.length-(k+1),oM,k+1,k,rfl,fr.kp [0,3,4,5,6],Iy,oM,oM,wh.take (wh.cond Pa Pb Pc ⟨kq.1 OW,by first|exact .inl ⟨oM,CG.trans z6.symm⟩|exact .inr ⟨z6,CG⟩⟩)⟩;obtain⟨eJ,rfl⟩:=bw (dE.ro hl) (cs:=q.cells) (i:=k) (gm hq);obtain⟨B98,SF⟩:∃B:Bool,B=((q.nm:aV).toList==(f.nm:aV).toList):=⟨_,rfl⟩;cases B98;have c98:¬(q.nm).toList=(f.nm).toList:=fun e_=>Bool.noConfusion ((beq_iff_eq.2 e_).symm.trans (SF.symm))
 refine da [0,3,4,5,6] ?_;intro aC fr;refine l9 (bo [eS (some eJ) fs.length fc,.aU (nV k),eA eJ (k:Int) 5,eA eJ (k:Int) 5,eT q.nm,eS (some eJ) fs.length fc,.aU (nV i),eA eJ (i:Int) 5,eA eJ (i:Int) 5,eT f.nm,eB false,eB false,dU,dU,dU,dU,dU,dU,dU,dU,dU,dU,dU,dU,dU,dU,dU,dU,dU,dU,dU,dU,dU,dU,dU,dU,dU,dU,dU,dU,dU,dU,dU,eB false]) fr (rM (pe (rh (zv (Yl (dT lz dP dP (dI eJ fs.length 5 (k:Int)) dP (dL (aN eJ (k:Int) 5) _ fun w_ hK=>(aQ ((dE.aw hK).ro hl) rfl (i:=k) (cs:=q.cells) (gm hq) 0 _ rfl)) dP dP (dI eJ fs.length 5 (i:Int)) dP (dL (aN eJ (i:Int) 5) _ fun w_ hK=>(aQ ((dE.aw hK).ro hl) rfl (i:=i) (cs:=f.cells) (gm hf) 0 _ rfl)) (Gf SF) dP))))) dK dP) ?_;intro aC QfF vs hK hv fr;revert aC;refine bX [(0,vS (some eJ) fs.length fc),(3,(vS Aj ((bF (fs.map fun f:cX=>(f.nm,f.wk)) fs i).length) cj)),(4,nV i),(5,nV b),(6,nV k),(63,vB false)] ?_;have SG:=dE.aw hK;clear hK hv fr aC dE;clear vs;refine fT<|bP<|cG<|ah 1<|cZ ((k:Int)+1)<|ah 1<|ay ?_;intro aC fr;exact⟨fs.length-(k+1),oM,k+1,b,rfl,fr.kp [0,3,4,5,6],SG,oM,oM,wh.keep (wh.v8 Pa Pb Pc (fun h_=>c98 (congrArg ByteArray.toList h_.1)))⟩;have c98:(q.nm).toList=(f.nm).toList:=beq_iff_eq.1 (SF.symm);obtain⟨Yn,wi⟩:∃B:Bool,B=decide ((k:Int)<(b:Int)):=⟨_,rfl⟩;cases Yn;have wL:¬((k:Int)<(b:Int)):=of_decide_eq_false wi.symm;refine da [0,3,4,5,6] ?_;intro aC fr;refine l9 (bo [eS (some eJ) fs.length fc,.aU (nV k),eA eJ (k:Int) 5,eA eJ (k:Int) 5,eT q.nm,eS (some eJ) fs.length fc,.aU (nV i),eA eJ (i:Int) 5,eA eJ (i:Int) 5,eT f.nm,eB true,eB true,.aU (nV k),.aU (nV b),eB false,eB false,dU,dU,dU,dU,dU,dU,dU,dU,dU,dU,dU,eB false,eB false,eS (some eJ) fs.length fc,.aU (nV b),eA eJ (b:Int) 5,eP ((aN eJ (b:Int) 5).add 1),eB true,eB true,eS (some eJ) fs.length fc,.aU (nV k),eA eJ (k:Int) 5,eP ((aN eJ (k:Int) 5).add 1),eB true,eB false,eB false,eB false,eB false]) fr (la (sv (dT (pe (zv (la (kV (dT lz dP dP (dI eJ fs.length 5 (k:Int)) dP (dL (aN eJ (k:Int) 5) _ fun w_ hK=>(aQ ((dE.aw hK).ro hl) rfl (i:=k) (cs:=q.cells) (gm hq) 0 _ rfl)) dP dP (dI eJ fs.length 5 (i:Int)) dP (dL (aN eJ (i:Int) 5) _ fun w_ hK=>(aQ ((dE.aw hK).ro hl) rfl (i:=i) (cs:=f.cells) (gm hf) 0 _ rfl)) (Gf SF) dP) dP dP (dC (decide ((k:Int)<(b:Int))) wi)) dP))) dK dP dP dP dP (dI eJ fs.length 5 (b:Int)) dP (dL ((aN eJ (b:Int) 5).add 1) _ fun w_ hK=>(z6▸aQ ((dE.aw hK).ro hl) rfl (i:=b) (cs:=x.cells) (gm hx) 1 _ rfl)) dP dP dP (dI eJ fs.length 5 (k:Int))) dP (dL ((aN eJ (k:Int) 5).add 1) _ fun w_ hK=>(CG▸aQ ((dE.aw hK).ro hl) rfl (i:=k) (cs:=q.cells) (gm hq) 1 _ rfl)) dP dP dP) dP) ?_;intro aC NN vs hK hv fr;revert aC;refine bX [(0,vS (some eJ) fs.length fc),(3,(vS Aj ((bF (fs.map fun f:cX=>(f.nm,f.wk)) fs i).length) cj)),(4,nV i),(5,nV b),(6,nV k),(63,vB false)] ?_;have mf:=dE.aw hK;clear hK hv fr aC dE;clear vs;refine fT<|bP<|cG<|ah 1<|cZ ((k:Int)+1)<|ah 1<|ay ?_;intro aC fr;exact⟨fs.length-(k+1),oM,k+1,b,rfl,fr.kp [0,3,4,5,6],mf,oM,oM,wh.keep (wh.v8 Pa Pb Pc (fun h_=>Lh CG z6 (by simp;try omega) h_.2))⟩;have wL:(k:Int)<(b:Int):=of_decide_eq_true wi.symm;refine da [0,3,4,5,6] ?_;intro aC fr;refine l9 (bo [eS (some eJ) fs.length fc,.aU (nV k),eA eJ (k:Int) 5,eA eJ (k:Int) 5,eT q.nm,eS (some eJ) fs.length fc,.aU (nV i),eA eJ (i:Int) 5,eA eJ (i:Int) 5,eT f.nm,eB true,eB true,.aU (nV k),.aU (nV b),eB true,eB true,eS (some eJ) fs.length fc,.aU (nV k),eA eJ (k:Int) 5,eP ((aN eJ (k:Int) 5).add 1),eB true,eS (some eJ) fs.length fc,.aU (nV b),eA eJ (b:Int) 5,eP ((aN eJ (b:Int) 5).add 1),eB true,eB true,eB true,eB true,dU,dU,dU,dU,dU,dU,dU,dU,dU,dU,dU,dU,dU,eB true,eB true]) fr (kV (rh (zv (sv (dT (dT lz dP dP (dI eJ fs.length 5 (k:Int)) dP (dL (aN eJ (k:Int) 5) _ fun w_ hK=>(aQ ((dE.aw hK).ro hl) rfl (i:=k) (cs:=q.cells) (gm hq) 0 _ rfl)) dP dP (dI eJ fs.length 5 (i:Int)) dP (dL (aN eJ (i:Int) 5) _ fun w_ hK=>(aQ ((dE.aw hK).ro hl) rfl (i:=i) (cs:=f.cells) (gm hf) 0 _ rfl)) (Gf SF) dP) dP dP (dC (decide ((k:Int)<(b:Int))) wi) dP dP dP (dI eJ fs.length 5 (k:Int)) dP (dL ((aN eJ (k:Int) 5).add 1) _ fun w_ hK=>(CG▸aQ ((dE.aw hK).ro hl) rfl (i:=k) (cs:=q.cells) (gm hq) 1 _ rfl)) dP dP (dI eJ fs.length 5 (b:Int))) dP (dL ((aN eJ (b:Int) 5).add 1) _ fun w_ hK=>(z6▸aQ ((dE.aw hK).ro hl) rfl (i:=b) (cs:=x.cells) (gm hx) 1 _ rfl)) (Gf (rfl:true=(true==true))) dP dP))) dK dP dP) ?_;intro aC QfG vs hK hv fr;revert aC;refine bX [(0,vS (some eJ) fs.length fc),(3,(vS Aj ((bF (fs.map fun f:cX=>(f.nm,f.wk)) fs i).length) cj)),(4,nV i),(5,nV b),(6,nV k),(63,vB true)] ?_;have wM:=dE.aw hK;clear hK hv fr aC dE;clear vs;refine fm<|xh<|cG<|ah 1<|cZ ((k:Int)+1)<|ah 1<|ay ?_;intro aC fr;exact⟨fs.length-(k+1),oM,k+1,k,rfl,fr.kp [0,3,4,5,6],wM,oM,oM,wh.take (wh.cond Pa Pb Pc ⟨kq.1 c98,by first|exact .inl ⟨oM,CG.trans z6.symm⟩|exact .inr ⟨z6,CG⟩⟩)⟩;refine eW 2<|eX<|aX<|ln (b:Int) (i:Int) (fun SH=> ?_) (fun SH=> ?_);have zR:=fK (nw:=(fs.map fun f:cX=>(f.nm,f.wk))) (l:=fs) (i:=i);have Yo:=(show k=((fs.map fun f:cX=>(f.nm,f.wk))).length by rw[List.length_map];omega)▸wh;have I7:=tP hf (Yo.done.1 oM);refine cG<|ah 3 ?_;obtain⟨Qax,rfl⟩:=bw (dE.ro hl) (cs:=f.cells) (i:=i) (gm hf);refine ej Qax fs.length 5 (i:Int) ?_;refine ga (aN Qax (i:Int) 5) [vT f.nm,vB f.wk,vI f.pa,vI f.va,vS f.A ((aq f.bh).length) f.c] (gf (i:=i) (dE.ro hl) rfl (gm hf)) ?_;intro aC fr;refine nX 73 22 1 #[(0,.tmp 72)] 22 fr (e:=30) (size:=5) (zs:=[vT ⟨#[]⟩,vB false,vI 0,vI 0,an]) (vs:=[(0,(.agg #[vT f.nm,vB f.wk,vI f.pa,vI f.va,vS f.A ((aq f.bh).length) f.c]))]) (cs:=[vT f.nm,vB f.wk,vI f.pa,vI f.va,vS f.A ((aq f.bh).length) f.c]) dE ?_;intro Qiu w127 QkS _ NO _ aC ea fr;clear ea;replace NO:=NO.nf;refine Xc 74 (.tmp 68) (.tmp 73) 22 22 fr (e:=30) (size:=5) (bytes:=64) (z:=(.agg #[vT ⟨#[]⟩,vB false,vI 0,vI 0,an])) (A:=Aj) (B:=(sM Qiu)) (n:=((bF (fs.map fun f:cX=>(f.nm,f.wk)) fs i).length)) (cap:=cj) (m:=1) (cap':=1) (xs:=((bF (fs.map fun f:cX=>(f.nm,f.wk)) fs i).flatMap cX.cells)) (news:=[vT f.nm,vB f.wk,vI f.pa,vI f.va,vS f.A ((aq f.bh).length) f.c]) NO 0 rfl (aD (NO.get 1 rfl)) rfl (by simp[Value.oneCell']) oM (by simp only[maxLen];omega) ((bF (fs.map fun f:cX=>(f.nm,f.wk)) fs (i+1)).length) ((bF (fs.map fun f:cX=>(f.nm,f.wk)) fs (i+1)).flatMap cX.cells) (by rw[I7,List.length_append];rfl) (by rw[I7,List.flatMap_append];rfl) ?_;intro Qiv Qiw w135 SI _ aC ea fr;clear ea;replace SI:=SI.nf;have Eg:=SI.od [] 1;revert aC;refine ah 1<|ay<|cG<|ah 1<|cZ ((i:Int)+1)<|ah 1<|ay ?_;intro aC fr;exact⟨fs.length-(i+1),oM,i+1,Qiv,Qiw,rfl,fr.kp [0,3,4],Eg,oM⟩;have zR:=fK (nw:=(fs.map fun f:cX=>(f.nm,f.wk))) (l:=fs) (i:=i);have Yo:=(show k=((fs.map fun f:cX=>(f.nm,f.wk))).length by rw[List.length_map];omega)▸wh;have I7:=vz (l:=fs) (Bool.eq_false_iff.2 (fun h=>SH (by have:=Yo.done.2 h;omega)));refine bP<|cG<|ah 1<|cZ ((i:Int)+1)<|ah 1<|ay ?_;have SJ:=bd [.row 30 5 Aj ((bF (fs.map fun f:cX=>(f.nm,f.wk)) fs (i+1)).length) cj ((bF (fs.map fun f:cX=>(f.nm,f.wk)) fs (i+1)).flatMap cX.cells)] (dE.cast (by rw[I7]));intro aC fr;exact⟨fs.length-(i+1),oM,i+1,Aj,cj,rfl,(by rw[I7];exact fr.kp [0,3,4]),SJ,oM⟩;refine eW 0<|eX<|aX<|bL<|cv (vS Aj ((bF (fs.map fun f:cX=>(f.nm,f.wk)) fs i).length) cj) ?_;obtain rfl:i=fs.length:=oM;exact⟨Aj,cj,rfl,M5⟩
end Go.Proofs.YtejbeeaomokjpaaGreat
namespace Go.Proofs.YtejbeeaomokjpaaGreat
open Go.Mor
theorem kh(X:RX)(z:jo)(oA:ar)(oc:Nat)(w:World)(hX:X.WF)(hG:dM X z)(hR:(bx.pk (dR X z oA oc)).holds w)(k c:Int):Calls Tryz.prog 91 #[pT X.r 0,vI k,vI c] w (ez fun v w'=>v= .tuple #[]∧Mem (xS X z oA oc) w w' (dR X (z.fin k c) oA oc)):=by
 refine fv 24 [pT X.r 0,vI k,vI c] Tryz.func91 ?_;have hM:=Mem.uO hR;refine aI<|ah 3<|bt (ao X.r 10) _ (ae (hM.get 0 rfl) rfl)<|ah 1<|ay<|dX (!z.ov) (¬(z.ov=true)) (by simp only[iU]) (fun c1=> ?_) (fun c1=> ?_);replace c1:z.ov=false:=Bool.eq_false_iff.2 c1;refine aI<|ah 3<|pC (ho:=sI) hM 0 10 (vB true) rfl fun w2 M3=> ?_
 replace M3:=M3.nf;clear hM;refine ay<|aI<|ah 5<|pC (ho:=sI) M3 0 6 (vI k) rfl fun w4 M5=> ?_
 replace M5:=M5.nf;refine ay<|cG<|ah 5<|pC (ho:=sI) M5 0 7 (vI c) rfl fun w6 M7=> ?_
 replace M7:=M7.nf;refine ay<|UY ?_;exact⟨rfl,by rw[K6 c1];exact M7⟩;replace c1:z.ov=true:=Classical.not_not.1 c1;refine bP<|UY ?_;exact⟨rfl,by rw[R2 c1];exact hM⟩
theorem Lk(X:RX)(z:jo)(oA:ar)(oc:Nat)(w:World)(hX:X.WF)(hG:dM X z)(hR:(bx.pk (dR X z oA oc)).holds w):Calls Tryz.prog 131 #[pT X.r 0] w (ez fun v w'=>∃b z' oA' oc',v=vB b∧z'.ov=(!b)∧dM X z'∧ey (z.go (cT X.E.toEnv0)) (z'.go (dp.ok ()))∧Mem (xS X z oA oc) w w' (dR X z' oA' oc')):=by
 have g1:=hG.s1;have g2:=hG.s2;have g3:=hX.fuel;refine fv 35 [pT X.r 0] Tryz.func131 ?_;have hM:=Mem.uO hR;refine aX<|ba<|ba ?_;cases hz:z.ov;have M1:=bd [.aB X.r 138 [vS X.dA X.ds.length X.dc,vS X.pA X.ds.length X.pc,vS (sM X.mG) X.E.bR X.E.bR,vI z.s.next,vS X.iA X.E.inp.length X.ic,(vI (z.s.pos:Int)),vI z.k,vI z.c,vS oA z.s.out.length oc,vI z.s.steps,vB false,vI X.E.fuel,vI z.s.opened,vS X.fA X.E.mb.length X.fc,vS X.qA X.E.mb.length X.qc],mZ X z,mM z oA oc] (hM.cast (zn hz));clear hM;refine da [0] ?_;intro aC fr;refine wB 15 (bo [eR X.r 0,eR X.r 0,eP (ao X.r 10),eB false,eB true,eB true,eR X.r 0,eR X.r 0,eP (ao X.r 6),eP (ao X.r 9),eI z.s.steps,eR X.r 0,eR X.r 0,eP (ao X.r 11),eI X.E.fuel]) fr (kV (dT lz dP dP dP (dL (ao X.r 10) _ fun w_ hK=>(ae ((M1.aw hK).get 0 rfl) rfl)) dP dP dP dP dP dP (dL (ao X.r 9) _ fun w_ hK=>(ae ((M1.aw hK).get 0 rfl) rfl)) dP) dP dP (dL (ao X.r 11) _ fun w_ hK=>(ae ((M1.aw hK).get 0 rfl) rfl))) ?_;intro aC w6 vs hK hv fr;revert aC;refine bX [(0,pT X.r 0),(8,vB true),(13,vI z.s.steps),(17,vI X.E.fuel)] ?_;have M7:=M1.aw hK;clear hK hv fr aC M1;clear vs;refine ah 2<|ay<|fE ((z.s.steps:Int)≥X.E.fuel) (fun c8=> ?_) (fun c8=> ?_);refine cG<|ah 1 ?_;have M9:=bd [oN X z oA oc,mZ X z,mM z oA oc] (M7.cast (zn hz).symm);refine di (kh X z oA oc w6 hX hG (Mem.cD (l:=dR X z oA oc) M9) 0 0) ?_;rintro _ w10 ⟨rfl,SK⟩;have n5:=bd [oN X (z.fin 0 0) oA oc,mZ X (z.fin 0 0),mM (z.fin 0 0) oA oc] (M9.rH SK);refine ay<|ba<|aI<|ah 3<|bt (ao X.r 10) _ (ae (n5.get 0 rfl) rfl)<|ay<|dX ((z.fin 0 0).ov) (((z.fin 0 0).ov)=true) Iff.rfl (fun Dk=> ?_) (fun Dk=> ?_);refine aX<|bL<|cv (vB false) ?_;exact⟨false,(z.fin 0 0),oA,oc,rfl,Jl,hG.fin,ey.fin (K:=cT X.E.toEnv0) rfl (fun h_=>by unfold cT;rw[if_pos (by have:=hG.s2;omega)];rfl),n5⟩;replace Dk:((z.fin 0 0).ov)=false:=Bool.eq_false_iff.2 Dk;rw[Jl]at Dk;cases Dk;refine bP<|ba<|aI<|ah 3<|bt (ao X.r 10) _ (ae (M7.get 0 rfl) rfl)<|ay<|fT<|bP<|aI<|ah 4 ?_;refine bt (ao X.r 9) _ (ae (M7.get 0 rfl) rfl)<|cZ (z.s.steps+1)<|ah 3<|pC (ho:=sI) M7 0 9 (vI (z.s.steps+1)) rfl fun KG lH=> ?_
 replace lH:=lH.nf;refine ay<|aX<|bL<|cv (vB true) ?_;exact⟨true,{z with s:={z.s with steps:=z.s.steps+1}},oA,oc,rfl,hz,hG.step oM,ey.to (K:=cT X.E.toEnv0) rfl hz hz (by unfold cT;rw[if_neg oM]),(lH.cast (zn (z:={z with s:={z.s with steps:=z.s.steps+1}}) hz).symm)⟩;have mS:=bd [.aB X.r 138 [vS X.dA X.ds.length X.dc,vS X.pA X.ds.length X.pc,vS (sM X.mG) X.E.bR X.E.bR,vI z.s.next,vS X.iA X.E.inp.length X.ic,(vI (z.s.pos:Int)),vI z.k,vI z.c,vS oA z.s.out.length oc,vI z.s.steps,vB true,vI X.E.fuel,vI z.s.opened,vS X.fA X.E.mb.length X.fc,vS X.qA X.E.mb.length X.qc],mZ X z,mM z oA oc] (hM.cast (zn hz));clear hM;refine da [0] ?_;intro aC fr;refine wB 15 (bo [eR X.r 0,eR X.r 0,eP (ao X.r 10),eB true,eB false,eB false]) fr (la (zv (la (sv lz dP dP dP (dL (ao X.r 10) _ fun w_ hK=>(ae ((mS.aw hK).get 0 rfl) rfl)) dP) dP)) dK) ?_;intro aC Wb vs hK hv fr;revert aC;refine bX [(0,pT X.r 0),(8,vB false)] ?_;have nZ:=mS.aw hK;clear hK hv fr aC mS;clear vs;refine ah 2<|ay<|fT<|bP<|ba<|aI<|ah 3<|bt (ao X.r 10) _ (ae (nZ.get 0 rfl) rfl)<|ay<|fm ?_;refine aX<|bL<|cv (vB false) ?_;exact⟨false,z,oA,oc,rfl,hz,hG,ey.Nu hz (K:=cT X.E.toEnv0) rfl,(nZ.cast (zn hz).symm)⟩
theorem ri(X:RX)(z:jo)(oA:ar)(oc:Nat)(w:World)(hX:X.WF)(Pe:RO bq w (.aB X.r 138 (D8 X z oA oc)))(hA:RO bq w X.ro)(nm:aV):Calls Tryz.prog 90 #[pT X.r 0,vT nm] w (ez fun v w'=>v=vI ((fh X.E.names nm).getD 0)∧Mem bq w w' []):=by
 have hnf:=hX.XR;refine fv 27 [pT X.r 0,vT nm] Tryz.func90 ?_;have hM:=Mem.init w;refine aX<|ba<|aX<|cr 0 ?_;intro aC fr;refine fk (fun n_ a_ w_=>∃(j:Nat),n_=X.E.mb.length-j∧Fr a_ 27 [(0,pT X.r 0),(1,vT nm),(5,nV j)]∧Mem bq w w_ []∧(j≤X.E.mb.length)∧(vc et.nm X.E.mb nm j)) (n:=_) ⟨0,rfl,fr.kp [0,1,5],hM,Nat.zero_le _,vc.zero⟩ ?_;clear fr aC hM;rintro n aC w3 ⟨j,rfl,fr,M4,hj,EE⟩;revert aC;refine ba<|aI<|ah 4<|bt (ao X.r 13) _ (ae (M4.ro Pe) rfl)<|ah 2<|ay<|fE ((j:Int)<(X.E.mb.length:Int)) (fun c7=> ?_) (fun c7=> ?_);refine bP<|ba<|cr 1<|aI ?_;obtain⟨f,hf⟩:=aM (l:=X.E.mb) (i:=j) oM;refine ah 3<|bt (ao X.r 13) _ (ae (M4.ro Pe) rfl)<|ah 1 ?_;obtain⟨pN,SL⟩:=bw (M4.ro hA.Nx) (cs:=f.cells) (i:=j) (gm hf);intro aC fr;refine bT (some 20) X.fA pN X.E.mb.length 5 (j:Int) fr kR SL oM oM ?_;intro aC fr;revert aC;refine ah 1 ?_;refine bt (aN pN (j:Int) 5) _ (aQ (M4.ro hA.Nx) SL (i:=j) (cs:=f.cells) (gm hf) 0 _ rfl) ?_;refine ah 2<|ay<|dX ((f.nm:aV).toList==(nm:aV).toList) ((f.nm).toList=(nm).toList) (by simp only[beq_iff_eq]) (fun HH=> ?_) (fun HH=> ?_);refine aI<|ah 1<|cZ ((j:Int)+1)<|da [26]<|ah 1<|ay<|bL<|cJ<|cJ<|cv (vI ((j:Int)+1)) ?_;exact⟨by rw[hX.names,Qct hf HH EE];rfl,M4⟩;refine bP<|cG<|ah 1<|cZ ((j:Int)+1)<|da [0,1,14]<|ah 1<|ay ?_;intro aC fr;exact⟨X.E.mb.length-(j+1),oM,j+1,rfl,fr.kp [0,1,5],M4,oM,EE.next hf HH⟩;refine eW 0<|eX<|aI ?_;obtain rfl:j=X.E.mb.length:=oM;refine ah 1<|ay<|bL<|cv (vI 0) ?_;exact⟨by rw[hX.names,Sj EE];rfl,M4⟩
theorem SM(X:RX)(z:jo)(oA:ar)(oc:Nat)(w:World)(hX:X.WF)(Pe:RO bq w (.aB X.r 138 (D8 X z oA oc)))(hA:RO bq w X.ro)(nm:aV):Calls Tryz.prog 117 #[pT X.r 0,vT nm] w (ez fun v w'=>v=vI ((fh X.E.data nm).getD 0)∧Mem bq w w' []):=by
 have hnf:=hX.nds;refine fv 32 [pT X.r 0,vT nm] Tryz.func117 ?_;have hM:=Mem.init w;refine aX<|ba<|aX<|cr 0 ?_;intro aC fr;refine fk (fun n_ a_ w_=>∃(j:Nat),n_=X.ds.length-j∧Fr a_ 32 [(0,pT X.r 0),(1,vT nm),(5,nV j)]∧Mem bq w w_ []∧(j≤X.ds.length)∧(vc bE.nm X.ds nm j)) (n:=_) ⟨0,rfl,fr.kp [0,1,5],hM,Nat.zero_le _,vc.zero⟩ ?_;clear fr aC hM;rintro n aC w3 ⟨j,rfl,fr,M4,hj,EE⟩;revert aC;refine ba<|aI<|ah 4<|bt (aZ X.r) _ (ae (M4.ro Pe) rfl)<|ah 2<|ay<|fE ((j:Int)<(X.ds.length:Int)) (fun c7=> ?_) (fun c7=> ?_);refine bP<|ba<|cr 1<|aI ?_;obtain⟨d,hd⟩:=aM (l:=X.ds) (i:=j) oM;refine ah 3<|bt (aZ X.r) _ (ae (M4.ro Pe) rfl)<|ah 1 ?_;obtain⟨pN,SL⟩:=bw (M4.ro hA.Qfy) (cs:=d.cells) (i:=j) (gm hd);intro aC fr;refine bT (some 20) X.dA pN X.ds.length 4 (j:Int) fr kR SL oM oM ?_;intro aC fr;revert aC;refine ah 1 ?_;refine bt (aN pN (j:Int) 4) _ (aQ (M4.ro hA.Qfy) SL (i:=j) (cs:=d.cells) (gm hd) 0 _ rfl) ?_;refine ah 2<|ay<|dX ((d.nm:aV).toList==(nm:aV).toList) ((d.nm).toList=(nm).toList) (by simp only[beq_iff_eq]) (fun HH=> ?_) (fun HH=> ?_);refine aI<|ah 3<|bt (ao X.r 1) _ (ae (M4.ro Pe) rfl)<|da [5,28]<|ah 1 ?_;obtain⟨zw,Qay⟩:=rd_some (M4.ro hA.xpl) (by rw[dg,GJ];omega);intro aC fr;refine bT (some 30) X.pA zw X.ds.length 1 (j:Int) fr kR Qay oM oM ?_;intro aC fr;revert aC;refine bt (aN zw (j:Int) 1) _ (fx (M4.ro hA.xpl) Qay (uf oM))<|ah 1<|ay<|bL<|cJ<|cJ<|cv (vI (aJ X.ds j:Int)) ?_;exact⟨by rw[hX.data,R5 hd HH EE];rfl,M4⟩;refine bP<|cG<|ah 1<|cZ ((j:Int)+1)<|da [0,1,14]<|ah 1<|ay ?_;intro aC fr;exact⟨X.ds.length-(j+1),oM,j+1,rfl,fr.kp [0,1,5],M4,oM,EE.next hd HH⟩;refine eW 0<|eX<|aI ?_;obtain rfl:j=X.ds.length:=oM;refine ah 1<|ay<|bL<|cv (vI 0) ?_;exact⟨by rw[hX.data,GI EE];rfl,M4⟩
theorem Ll(X:RX)(z:jo)(oA:ar)(oc:Nat)(w:World)(hX:X.WF)(hG:dM X z)(hR:(bx.pk (dR X z oA oc)).holds w)(a n:Int)(ha:In64 a)(U9:0≤n)(Di:n≤2147483647):Calls Tryz.prog 146 #[pT X.r 0,vI a,vI n] w (ez fun v w'=>∃x z' oA' oc',v=vI x∧dM X z'∧((1≤x∧x<z.s.next∧z'=z∧uy (IntKind.i64.wrap (a+n)) z.s= .ok x.toNat z.s)∨(x<0∧z'=z.fin 5 0∧uy (IntKind.i64.wrap (a+n)) z.s= .stop 5 0 z.s))∧Mem (xS X z oA oc) w w' (dR X z' oA' oc')):=by
 have g1:=hG.n1;have g2:=hG.n2;have g3:=hX.mem;have Mr:=ha.1;have Aw:=ha.2;refine fv 38 [pT X.r 0,vI a,vI n] Tryz.func146 ?_;have hM:=Mem.uO hR;refine aX<|ba<|aI<|ah 3 ?_;obtain⟨B1,jQ⟩:∃B:Bool,B=decide ((a:Int)<(-2147483647)):=⟨_,rfl⟩;refine bX [(0,pT X.r 0),(1,vI a),(2,vI n),(9,(vB (decide ((a:Int)<(-2147483647)))))] ?_;rw[←jQ];have s9:B1=true↔((a:Int)<(-2147483647)):=by rw[jQ];simp only[decide_eq_true_eq]
 clear jQ;intro aC fr;refine cE 4 7 [10,13] fr (news:=[(10,cond (!B1) (vI a) undef),(13,(cond (!B1) (vP (ao X.r 3)) undef))]) (by cases B1<;>kernel_rfl) ?_;intro aC fr;refine az (B:=(!B1)) (d:=(some 14)) (vI z.s.next) fr (by cases B1<;>kernel_rfl) (fun hB hh=> ?_) ?_;cases B1<;>try exact absurd hB dQ
 have c1:¬((a:Int)<(-2147483647)):=iL s9.2;exact br (some 14) (ao X.r 3) fr kR (vI z.s.next) (ae (hM.get 0 rfl) rfl) hh;intro aC fr;refine cE 3 11 [16,17] fr (news:=[(16,(vB (B1||decide ((a:Int)>z.s.next)))),(17,(vB (B1||decide ((a:Int)>z.s.next))))]) (by cases B1<;>kernel_rfl) ?_;intro aC fr;obtain⟨kO,pD⟩:∃B:Bool,B=(B1||decide ((a:Int)>z.s.next)):=⟨_,rfl⟩;revert aC;refine bX [(0,pT X.r 0),(1,vI a),(2,vI n),(17,(vB (B1||decide ((a:Int)>z.s.next))))] ?_;rw[←pD];have wN:kO=true↔(((a:Int)<(-2147483647))∨((a:Int)>z.s.next)):=by rw[pD];simp only[Bool.or_eq_true,decide_eq_true_eq,s9]
 clear pD;intro aC fr;refine cE 2 13 [18,19] fr (news:=[(18,cond (!kO) (vI a) undef),(19,cond (!kO) (vI n) undef)]) (by cases kO<;>kernel_rfl) ?_;intro aC fr;refine az (B:=(!kO)) (d:=(some 20)) (vI (a+n)) fr (by cases kO<;>kernel_rfl) (fun hB hh=> ?_) ?_;cases kO<;>try exact absurd hB dQ
 have uR:¬(((a:Int)<(-2147483647))∨((a:Int)>z.s.next)):=iL wN.2;exact oo (some 20) (a+n) fr (z0:=a+n) kR rfl oM oM hh;intro aC fr;refine cE 3 17 [22,23] fr (news:=[(22,(vB (kO||decide (((a+n):Int)<1)))),(23,(vB (kO||decide (((a+n):Int)<1))))]) (by cases kO<;>kernel_rfl) ?_;intro aC fr;obtain⟨vi,Jv⟩:∃B:Bool,B=(kO||decide (((a+n):Int)<1)):=⟨_,rfl⟩;revert aC;refine bX [(0,pT X.r 0),(1,vI a),(2,vI n),(23,(vB (kO||decide (((a+n):Int)<1))))] ?_;rw[←Jv];have NP:vi=true↔((((a:Int)<(-2147483647))∨((a:Int)>z.s.next))∨(((a+n):Int)<1)):=by rw[Jv];simp only[Bool.or_eq_true,decide_eq_true_eq,wN]
 clear Jv;intro aC fr;refine cE 2 19 [24,25] fr (news:=[(24,cond (!vi) (vI a) undef),(25,cond (!vi) (vI n) undef)]) (by cases vi<;>kernel_rfl) ?_;intro aC fr;refine az (B:=(!vi)) (d:=(some 26)) (vI (a+n)) fr (by cases vi<;>kernel_rfl) (fun hB hh=> ?_) ?_;cases vi<;>try exact absurd hB dQ
 have rf:¬((((a:Int)<(-2147483647))∨((a:Int)>z.s.next))∨(((a+n):Int)<1)):=iL NP.2;exact oo (some 26) (a+n) fr (z0:=a+n) kR rfl oM oM hh;intro aC fr;refine cE 3 23 [29] fr (news:=[(29,(cond (!vi) (vP (ao X.r 3)) undef))]) (by cases vi<;>kernel_rfl) ?_;intro aC fr;refine az (B:=(!vi)) (d:=(some 30)) (vI z.s.next) fr (by cases vi<;>kernel_rfl) (fun hB hh=> ?_) ?_;cases vi<;>try exact absurd hB dQ
 have rf:¬((((a:Int)<(-2147483647))∨((a:Int)>z.s.next))∨(((a+n):Int)<1)):=iL NP.2;exact br (some 30) (ao X.r 3) fr kR (vI z.s.next) (ae (hM.get 0 rfl) rfl) hh;intro aC fr;refine cE 2 26 [32] fr (news:=[(32,(vB (vi||decide (((a+n):Int)≥z.s.next))))]) (by cases vi<;>kernel_rfl) ?_;intro aC fr;revert aC;refine ay<|dX (vi||decide (((a+n):Int)≥z.s.next)) (((((a:Int)<(-2147483647))∨((a:Int)>z.s.next))∨(((a+n):Int)<1))∨(((a+n):Int)≥z.s.next)) (by simp only[Bool.or_eq_true,decide_eq_true_eq,NP]) (fun Fo=> ?_) (fun Fo=> ?_);refine aI<|ah 1<|di (kh X z oA oc w hX hG (Mem.cD (l:=dR X z oA oc) hM) 5 0) ?_;rintro _ w33 ⟨rfl,Dl⟩;have xo:=bd [oN X (z.fin 5 0) oA oc,mZ X (z.fin 5 0),mM (z.fin 5 0) oA oc] (hM.rH Dl);clear Dl hM;refine ay<|aX<|bL<|cv (vI (-1)) ?_;exact⟨-1,(z.fin 5 0),oA,oc,rfl,hG.fin,.inr ⟨oM,rfl,XO ha U9 Di oM g1 oM⟩,xo⟩;refine bP<|aI<|ah 2<|cZ (a+n)<|ah 1<|ay<|bL<|cv (vI (a+n)) ?_;exact⟨a+n,z,oA,oc,rfl,hG,.inl ⟨oM,oM,rfl,R8 oM oM oM oM oM⟩,hM⟩
theorem SN(X:RX)(z:jo)(oA:ar)(oc:Nat)(w:World)(hX:X.WF)(hG:dM X z)(hR:(bx.pk (dR X z oA oc)).holds w)(n:Int)(hz:z.ov=false):Calls Tryz.prog 147 #[pT X.r 0,vI n] w (ez fun v w'=>XV X (xS X z oA oc) w z (qw X.E.toEnv0 n) v w'):=by
 have g1:=hG.n1;have g2:=hG.n2;have g3:=hX.mem;refine fv 38 [pT X.r 0,vI n] Tryz.func147 ?_;have hM:=Mem.uO hR;refine aX<|ba<|aX<|fE ((n:Int)<0) (fun c1=> ?_) (fun c1=> ?_);refine aI<|ah 1<|di (kh X z oA oc w hX hG (Mem.cD (l:=dR X z oA oc) hM) 5 0) ?_;rintro _ w2 ⟨rfl,M3x⟩;have M3:=bd [oN X (z.fin 5 0) oA oc,mZ X (z.fin 5 0),mM (z.fin 5 0) oA oc] (hM.rH M3x);clear M3x hM;refine ay<|aX<|bL<|cv (vI 0) ?_;exact⟨0,(z.fin 5 0),oA,oc,rfl,hG.fin,ey.fin (K:=qw X.E.toEnv0 n) rfl (fun _=>by unfold qw;first|rw[if_pos oM];rfl|rw[if_neg oM,if_pos oM];rfl),M3⟩;refine bP<|ba<|ba ?_;obtain⟨B4,yz⟩:∃B:Bool,B=decide (n>((X.E.bR:Int)-z.s.next)):=⟨_,rfl⟩;refine da [0,1] ?_;intro aC fr;refine l9 (bo [eI n,eR X.r 0,eR X.r 0,eP (ao X.r 2),eS (sM X.mG) X.E.bR X.E.bR,eI (X.E.bR:Int),eR X.r 0,eR X.r 0,eP (ao X.r 3),eI z.s.next,eI ((X.E.bR:Int)-z.s.next),eB B4]) fr (dT lz dP dP dP dP (dL (ao X.r 2) _ fun w_ hK=>(ae ((hM.aw hK).get 0 rfl) rfl)) dP dP dP dP (dL (ao X.r 3) _ fun w_ hK=>(ae ((hM.aw hK).get 0 rfl) rfl)) (dA ((X.E.bR:Int)-z.s.next)) (dC (decide (n>((X.E.bR:Int)-z.s.next))) yz)) ?_;intro aC w9 vs hK hv fr;revert aC;refine bX [(0,pT X.r 0),(1,vI n),(21,vB B4)] ?_;have jw:=hM.aw hK;clear hK hv fr aC hM;clear vs;have tL:B4=true↔((n:Int)>((X.E.bR:Int)-z.s.next)):=by rw[yz];simp only[decide_eq_true_eq]
 clear yz;refine dX B4 ((n:Int)>((X.E.bR:Int)-z.s.next)) tL (fun qV=> ?_) (fun qV=> ?_);refine aI<|ah 1<|di (kh X z oA oc w9 hX hG (Mem.cD (l:=dR X z oA oc) jw) 3 0) ?_;rintro _ V6 ⟨rfl,FF⟩;have oB:=bd [oN X (z.fin 3 0) oA oc,mZ X (z.fin 3 0),mM (z.fin 3 0) oA oc] (jw.rH FF);refine ay<|aX<|bL<|cv (vI 0) ?_;exact⟨0,(z.fin 3 0),oA,oc,rfl,hG.fin,ey.fin (K:=qw X.E.toEnv0 n) rfl (fun _=>by unfold qw;first|rw[if_pos oM];rfl|rw[if_neg oM,if_pos oM];rfl),oB⟩;refine bP<|aI<|ah 3<|bt (ao X.r 3) _ (ae (jw.get 0 rfl) rfl)<|ah 1<|ay<|aI<|ah 4<|bt (ao X.r 3) _ (ae (jw.get 0 rfl) rfl)<|ah 1 ?_;refine cZ (z.s.next+n)<|ah 2<|pC (ho:=sI) jw 0 3 (vI (z.s.next+n)) rfl fun w14 mS=> ?_
 replace mS:=mS.nf;refine ay<|aX<|bL<|cv (vI z.s.next) ?_;exact⟨z.s.next,{z with s:={z.s with next:=z.s.next+n}},oA,oc,rfl,hG.take oM oM,ey.to (K:=qw X.E.toEnv0 n) rfl hz hz (by unfold qw;rw[if_neg oM,if_neg oM]),mS⟩
theorem Yp(X:RX)(z:jo)(oA:ar)(oc:Nat)(w:World)(hX:X.WF)(hG:dM X z)(hR:(bx.pk (dR X z oA oc)).holds w)(hA:RO (xS X z oA oc) w X.ro)(hz:z.ov=false):Calls Tryz.prog 148 #[pT X.r 0] w (ez fun v w'=>XV X (xS X z oA oc) w z (Cj X.E.toEnv0) v w'):=by
 have g1:=hG.pos;have g2:=hX.inp;refine fv 32 [pT X.r 0] Tryz.func148 ?_;have hM:=Mem.uO hR;refine aX<|ba<|ba ?_;obtain⟨B1,jQ⟩:∃B:Bool,B=decide ((z.s.pos:Int)≥(X.E.inp.length:Int)):=⟨_,rfl⟩;refine da [0] ?_;intro aC fr;refine l9 (bo [eR X.r 0,eR X.r 0,eP (ao X.r 5),eI (z.s.pos:Int),eR X.r 0,eR X.r 0,eP (ao X.r 4),eS X.iA X.E.inp.length X.ic,eI (X.E.inp.length:Int),eB B1]) fr (rM (pF lz dP dP dP (dL (ao X.r 5) _ fun w_ hK=>(ae ((hM.aw hK).get 0 rfl) rfl)) dP dP dP (dL (ao X.r 4) _ fun w_ hK=>(ae ((hM.aw hK).get 0 rfl) rfl))) dP (dC (decide ((z.s.pos:Int)≥(X.E.inp.length:Int))) jQ)) ?_;intro aC w6 vs hK hv fr;revert aC;refine bX [(0,pT X.r 0),(12,vB B1)] ?_;have M7:=hM.aw hK;clear hK hv fr aC hM;clear vs;have s9:B1=true↔((z.s.pos:Int)≥(X.E.inp.length:Int)):=by rw[jQ];simp only[decide_eq_true_eq]
 clear jQ;refine dX B1 ((z.s.pos:Int)≥(X.E.inp.length:Int)) s9 (fun c8=> ?_) (fun c8=> ?_);refine aX<|bL<|cv (vI (-1)) ?_;exact⟨-1,z,oA,oc,rfl,hG,ey.to (K:=Cj X.E.toEnv0) rfl hz hz (by unfold Cj;rw[if_neg oM]),M7⟩;refine bP<|aI<|ah 3<|bt (ao X.r 5) _ (ae (M7.get 0 rfl) rfl)<|cZ ((z.s.pos:Int)+1)<|ah 2<|pC (ho:=sI) M7 0 5 (vI ((z.s.pos:Int)+1)) rfl fun w9 jw=> ?_
 replace jw:=jw.nf;refine ay<|ba<|da [0] ?_;intro aC fr;refine wB 9 (bo [eR X.r 0,eR X.r 0,eP (ao X.r 4),eS X.iA X.E.inp.length X.ic,eR X.r 0,eR X.r 0,eP (ao X.r 5),eI ((z.s.pos:Int)+1),eI (((z.s.pos:Int)+1)-1)]) fr (la (pF lz dP dP dP (dL (ao X.r 4) _ fun w_ hK=>(ae ((jw.aw hK).get 0 rfl) rfl)) dP dP dP (dL (ao X.r 5) _ fun w_ hK=>(ae ((jw.aw hK).get 0 rfl) rfl))) (dA (((z.s.pos:Int)+1)-1))) ?_;intro aC Z7 vs hK hv fr;revert aC;refine bX [(23,vS X.iA X.E.inp.length X.ic),(28,(vI (((z.s.pos:Int)+1)-1)))] ?_;have oC:=jw.aw hK;clear hK hv fr aC jw;clear vs;obtain⟨SO,G3⟩:=rd_some (oC.ro hA.xin) (by rw[WL];omega);intro aC fr;refine bT (some 29) X.iA SO X.E.inp.length 1 (((z.s.pos:Int)+1)-1) fr kR G3 oM oM ?_;intro aC fr;revert aC;refine bt (aN SO (((z.s.pos:Int)+1)-1) 1) _ (Sm (oC.ro hA.xin) G3 oM)<|zcv (hz:=(Kb _ (by have:=Sl hX (p:=z.s.pos);omega))) (X.E.inp.getD z.s.pos 0) .i64 (X.E.inp.getD z.s.pos 0)<|ah 1<|ay<|bL<|cv (vI (X.E.inp.getD z.s.pos 0)) ?_;exact⟨_,{z with s:={z.s with pos:=z.s.pos+1}},oA,oc,rfl,hG.read oM,ey.to (K:=Cj X.E.toEnv0) rfl hz hz (by unfold Cj;rw[if_pos oM]),oC⟩
theorem SP(X:RX)(z:jo)(oA:ar)(oc:Nat)(w:World)(hX:X.WF)(hG:dM X z)(hR:(bx.pk (dR X z oA oc)).holds w)(u:Int):Calls Tryz.prog 149 #[pT X.r 0,vI u] w (ez fun v w'=>∃z' oA' oc',v= .tuple #[]∧dM X z'∧z'.ov=z.ov∧z'.s=DT u z.s∧Mem (xS X z oA oc) w w' (dR X z' oA' oc')):=by
 have g1:=hG.out;refine fv 24 [pT X.r 0,vI u] Tryz.func149 ?_;have hM:=Mem.uO hR;refine aI<|ah 4<|bt (ao X.r 8) _ (ae (hM.get 0 rfl) rfl)<|ah 2<|ay<|fE ((z.s.out.length:Int)<4096) (fun c1=> ?_) (fun c1=> ?_);refine cG<|ah 5<|bt (ao X.r 8) _ (ae (hM.get 0 rfl) rfl)<|ah 1<|zcv (hz:=rfl) u .u8 (IntKind.u8.wrap u) ?_;intro aC fr;refine nX 19 24 1 #[(0,.tmp 18)] 24 fr (e:=5) (size:=1) (zs:=[.int .u8 0]) (vs:=[(0,.int .u8 (IntKind.u8.wrap u))]) (cs:=[.int .u8 (IntKind.u8.wrap u)]) hM ?_;intro b2 w3 uV _ M4 _ aC ea fr;clear ea;replace M4:=M4.nf;clear hM;refine Xc 20 (.tmp 16) (.tmp 19) 24 24 fr (e:=5) (size:=1) (bytes:=1) (z:=(.int .u8 0)) (A:=oA) (B:=(sM b2)) (n:=z.s.out.length) (cap:=oc) (m:=1) (cap':=1) (xs:=(qW z.s.out)) (news:=[.int .u8 (IntKind.u8.wrap u)]) M4 2 rfl (aD (M4.get 3 rfl)) rfl (by simp[Value.oneCell']) oM (by simp only[maxLen];omega) ((z.s.out++[IntKind.u8.wrap u]).length) (qW (z.s.out++[IntKind.u8.wrap u])) (by rw[List.length_append];rfl) (by rw[IB];rfl) ?_;intro A9 uR Dr dE _ aC ea fr;clear ea;replace dE:=dE.nf;have mS:=dE.od [2,2,2] 3;revert aC;refine ah 3<|pC (ho:=sI) mS 0 8 (vS A9 (z.s.out++[IntKind.u8.wrap u]).length uR) rfl fun OT kK=> ?_
 replace kK:=kK.nf;refine ay<|UY ?_;exact⟨{z with s:={z.s with out:=(z.s.out++[IntKind.u8.wrap u])}},A9,uR,rfl,hG.write oM _,rfl,by unfold DT;rw[if_pos oM],kK⟩;refine bP<|UY ?_;exact⟨z,oA,oc,rfl,hG,rfl,by unfold DT;rw[if_neg oM],hM⟩
end Go.Proofs.YtejbeeaomokjpaaGreat
namespace Go.Proofs.YtejbeeaomokjpaaGreat
open Go.Mor
theorem Yq(w:World):Calls Tryz.prog 157 #[vB true] w (ez fun v w'=>v=vI 1∧Mem bq w w' []):=by
 refine fv 4 [vB true] Tryz.func157 ?_;have hM:=Mem.init w;refine aX<|ba<|aX<|fm<|aX<|bL<|cv (vI 1) ?_;exact⟨rfl,hM⟩
theorem Yr(w:World):Calls Tryz.prog 157 #[vB false] w (ez fun v w'=>v=vI 0∧Mem bq w w' []):=by
 refine fv 4 [vB false] Tryz.func157 ?_;have hM:=Mem.init w;refine aX<|ba<|aX<|fT<|bP<|aX<|bL<|cv (vI 0) ?_;exact⟨rfl,hM⟩
theorem oQ(b:Bool)(w:World):Calls Tryz.prog 157 #[.bool b] w (ez fun v w'=>v=vI (cO b)∧Mem bq w w' []):=by
 cases b
 ·exact Yr w
 ·exact Yq w
set_option maxHeartbeats 2000000 in
theorem Ys(op a b:Int)(w:World):Calls Tryz.prog 158 #[vI op,vI a,vI b] w (ez fun v w'=>v= .tuple #[vI (cA op a b).1,vI (cA op a b).2]∧Mem bq w w' []):=by
 refine fv 108 [vI op,vI a,vI b] Tryz.func158 ?_;have hM:=Mem.init w;refine aX<|ba<|aX<|cr 0<|aX<|ln op 1 (fun c1=> ?_) (fun c1=> ?_);refine aI<|ah 2<|Hx .i64 (IntKind.i64.wrap (a+b)) b<|ah 2<|ay<|bL<|cJ<|iv (vI (IntKind.i64.wrap (a+b))) (vI 0) ?_;refine⟨?_,hM⟩;have e_:cA op a b=(IntKind.i64.wrap (a+b),0):=by exact bo1
 rw[e_];refine aX<|ln op 2 (fun c2=> ?_) (fun c2=> ?_);refine aI<|ah 2<|Hx .i64 (IntKind.i64.wrap (a-b)) b<|ah 2<|ay<|bL<|cJ<|iv (vI (IntKind.i64.wrap (a-b))) (vI 0) ?_;refine⟨?_,hM⟩;have e_:cA op a b=(IntKind.i64.wrap (a-b),0):=by exact bo2
 rw[e_];refine aX<|ln op 3 (fun c3=> ?_) (fun c3=> ?_);refine aI<|ah 2<|Hx .i64 (IntKind.i64.wrap (a*b)) b<|ah 2<|ay<|bL<|cJ<|iv (vI (IntKind.i64.wrap (a*b))) (vI 0) ?_;refine⟨?_,hM⟩;have e_:cA op a b=(IntKind.i64.wrap (a*b),0):=by exact bo3
 rw[e_];refine ba<|aX ?_;obtain⟨B4,yz⟩:∃B:Bool,B=((op:Int)==4):=⟨_,rfl⟩;refine bX [(0,vI op),(1,vI a),(2,vI b),(8,vI op),(24,(vB ((op:Int)==4)))] ?_;rw[←yz];have tL:B4=true↔((op:Int)=4):=by rw[yz];simp only[beq_iff_eq]
 clear yz;cases B4;have c4:¬((op:Int)=4):=iL tL.2;refine fT<|xh<|ln op 5 (fun c5=> ?_) (fun c5=> ?_);refine ba<|aX<|ln b 0 (fun c6=> ?_) (fun c6=> ?_);refine aX<|bL<|cJ<|iv (vI 0) (vI 3) ?_;refine⟨?_,hM⟩;have e_:cA op a b=(0,3):=by first|exact R9 oM oM|exact Sa oM oM|exact Sb oM oM|exact Sc oM oM oM|exact Sd oM oM oM|exact gz oM
 rw[e_];refine bP<|ba<|aX<|ln b (-1) (fun c7=> ?_) (fun c7=> ?_);refine ba<|aX<|ln op 4 (fun c8=> ?_) (fun c8=> ?_);refine aI<|ah 1<|zui .neg a .i64 (IntKind.i64.wrap (0-a))<|ah 2<|ay<|bL<|cJ<|iv (vI (IntKind.i64.wrap (0-a))) (vI 0) ?_;refine⟨?_,hM⟩;have e_:cA op a b=(IntKind.i64.wrap (0-a),0):=by first|exact R9 oM oM|exact Sa oM oM|exact Sb oM oM|exact Sc oM oM oM|exact Sd oM oM oM|exact gz oM
 rw[e_];refine bP<|aX<|bL<|cJ<|iv (vI 0) (vI 0) ?_;refine⟨?_,hM⟩;have e_:cA op a b=(0,0):=by first|exact R9 oM oM|exact Sa oM oM|exact Sb oM oM|exact Sc oM oM oM|exact Sd oM oM oM|exact gz oM
 rw[e_];refine bP<|ba<|aX<|ln op 4 (fun c9=> ?_) (fun c9=> ?_);refine aI<|ah 2<|zbd .i64 (IntKind.i64.wrap (a.tdiv b)) b (by assumption)<|ah 2<|ay<|bL<|cJ<|iv (vI (IntKind.i64.wrap (a.tdiv b))) (vI 0) ?_;refine⟨?_,hM⟩;have e_:cA op a b=(IntKind.i64.wrap (a.tdiv b),0):=by first|exact R9 oM oM|exact Sa oM oM|exact Sb oM oM|exact Sc oM oM oM|exact Sd oM oM oM|exact gz oM
 rw[e_];refine bP<|aI<|ah 2<|zbd .i64 (a.tmod b) b (by assumption)<|ah 2<|ay<|bL<|cJ<|iv (vI (a.tmod b)) (vI 0) ?_;refine⟨?_,hM⟩;have e_:cA op a b=(a.tmod b,0):=by first|exact R9 oM oM|exact Sa oM oM|exact Sb oM oM|exact Sc oM oM oM|exact Sd oM oM oM|exact gz oM
 rw[e_];refine aX<|ln op 6 (fun uR=> ?_) (fun uR=> ?_);refine aI<|ah 2<|Hx .i64 (tB a b) b<|ah 2<|ay<|bL<|cJ<|iv (vI (tB a b)) (vI 0) ?_;refine⟨?_,hM⟩;have e_:cA op a b=(tB a b,0):=by exact bo6
 rw[e_];refine aX<|ln op 7 (fun qV=> ?_) (fun qV=> ?_);refine aI<|ah 2<|Hx .i64 (Z3 a b) b<|ah 2<|ay<|bL<|cJ<|iv (vI (Z3 a b)) (vI 0) ?_;refine⟨?_,hM⟩;have e_:cA op a b=(Z3 a b,0):=by exact bo7
 rw[e_];refine aX<|ln op 8 (fun Dk=> ?_) (fun Dk=> ?_);refine aI<|ah 2<|Hx .i64 (rp a b) b<|ah 2<|ay<|bL<|cJ<|iv (vI (rp a b)) (vI 0) ?_;refine⟨?_,hM⟩;have e_:cA op a b=(rp a b,0):=by exact bo8
 rw[e_];refine aX<|ln op 9 (fun c13=> ?_) (fun c13=> ?_);refine aI<|ah 2<|Hx .i64 (tB b 63) 63<|zcv (hz:=(La b)) (tB b 63) .u64 (tC b)<|zbs .i64 .u64 (Fi a (tC b)) (tC b) (DG b)<|ah 2<|ay<|bL<|cJ<|iv (vI (Fi a (tC b))) (vI 0) ?_;refine⟨?_,hM⟩;have e_:cA op a b=(Fi a (tC b),0):=by exact bo9
 rw[e_];refine aX<|ln op 10 (fun HH=> ?_) (fun HH=> ?_);refine aI<|ah 2<|Hx .i64 (tB b 63) 63<|zcv (hz:=(La b)) (tB b 63) .u64 (tC b)<|zbs .i64 .u64 (Dh a (tC b)) (tC b) (DG b)<|ah 2<|ay<|bL<|cJ<|iv (vI (Dh a (tC b))) (vI 0) ?_;refine⟨?_,hM⟩;have e_:cA op a b=(Dh a (tC b),0):=by exact QeE
 rw[e_];refine aX<|ln op 11 (fun AF=> ?_) (fun AF=> ?_);refine aI<|ah 3<|di (oQ ((a:Int)==b) w) ?_;rintro _ OT ⟨rfl,Yk⟩;have kK:=hM.cl Yk;clear Yk hM;refine ah 2<|ay<|bL<|cJ<|iv (vI (cO ((a:Int)==b))) (vI 0) ?_;refine⟨?_,kK⟩;have e_:cA op a b=(cO ((a:Int)==b),0):=by exact QeF
 rw[e_];refine aX<|ln op 12 (fun kJ=> ?_) (fun kJ=> ?_);refine aI<|ah 3<|di (oQ ((a:Int) !=b) w) ?_;rintro _ w19 ⟨rfl,G4⟩;have oG:=hM.cl G4;clear G4 hM;refine ah 2<|ay<|bL<|cJ<|iv (vI (cO ((a:Int) !=b))) (vI 0) ?_;refine⟨?_,oG⟩;have e_:cA op a b=(cO ((a:Int) !=b),0):=by exact QeG
 rw[e_];refine aX<|ln op 13 (fun EO=> ?_) (fun EO=> ?_);refine aI<|ah 3<|di (oQ (decide ((a:Int)<b)) w) ?_;rintro _ w22 ⟨rfl,L9⟩;have qf:=hM.cl L9;clear L9 hM;refine ah 2<|ay<|bL<|cJ<|iv (vI (cO (decide ((a:Int)<b)))) (vI 0) ?_;refine⟨?_,qf⟩;have e_:cA op a b=(cO (decide ((a:Int)<b)),0):=by exact QeH
 rw[e_];refine aX<|ln op 14 (fun c24=> ?_) (fun c24=> ?_);refine aI<|ah 3<|di (oQ (decide ((a:Int)≤b)) w) ?_;rintro _ w25 ⟨rfl,NQ⟩;have eu:=hM.cl NQ;clear NQ hM;refine da [95]<|ah 2<|ay<|bL<|cJ<|iv (vI (cO (decide ((a:Int)≤b)))) (vI 0) ?_;refine⟨?_,eu⟩;have e_:cA op a b=(cO (decide ((a:Int)≤b)),0):=by exact QeI
 rw[e_];refine aX<|ln op 15 (fun uS=> ?_) (fun uS=> ?_);refine aI<|ah 3<|di (oQ (decide ((a:Int)>b)) w) ?_;rintro _ OU ⟨rfl,NR⟩;have jy:=hM.cl NR;clear NR hM;refine da [101]<|ah 2<|ay<|bL<|cJ<|iv (vI (cO (decide ((a:Int)>b)))) (vI 0) ?_;refine⟨?_,jy⟩;have e_:cA op a b=(cO (decide ((a:Int)>b)),0):=by exact QeJ
 rw[e_];refine aX<|ln op 16 (fun Sx=> ?_) (fun Sx=> ?_);refine aI<|ah 3<|di (oQ (decide ((a:Int)≥b)) w) ?_;rintro _ w31 ⟨rfl,NS⟩;have pE:=hM.cl NS;clear NS hM;refine da [107]<|ah 2<|ay<|bL<|cJ<|iv (vI (cO (decide ((a:Int)≥b)))) (vI 0) ?_;refine⟨?_,pE⟩;have e_:cA op a b=(cO (decide ((a:Int)≥b)),0):=by exact QeK
 rw[e_];refine bP<|aX<|bL<|iv (vI 0) (vI (-1)) ?_;refine⟨?_,hM⟩;have e_:cA op a b=(0,-1):=by first|exact R9 oM oM|exact Sa oM oM|exact Sb oM oM|exact Sc oM oM oM|exact Sd oM oM oM|exact gz oM
 rw[e_];have c4:((op:Int)=4):=tL.1 rfl;refine fm<|bP<|fm<|ba<|aX<|ln b 0 (fun U6=> ?_) (fun U6=> ?_);refine aX<|bL<|cJ<|iv (vI 0) (vI 3) ?_;refine⟨?_,hM⟩;have e_:cA op a b=(0,3):=by first|exact R9 oM oM|exact Sa oM oM|exact Sb oM oM|exact Sc oM oM oM|exact Sd oM oM oM|exact gz oM
 rw[e_];refine bP<|ba<|aX<|ln b (-1) (fun c34=> ?_) (fun c34=> ?_);refine ba<|aX<|ln op 4 (fun c35=> ?_) (fun c35=> ?_);refine aI<|ah 1<|zui .neg a .i64 (IntKind.i64.wrap (0-a))<|ah 2<|ay<|bL<|cJ<|iv (vI (IntKind.i64.wrap (0-a))) (vI 0) ?_;refine⟨?_,hM⟩;have e_:cA op a b=(IntKind.i64.wrap (0-a),0):=by first|exact R9 oM oM|exact Sa oM oM|exact Sb oM oM|exact Sc oM oM oM|exact Sd oM oM oM|exact gz oM
 rw[e_];refine bP<|aX<|bL<|cJ<|iv (vI 0) (vI 0) ?_;refine⟨?_,hM⟩;have e_:cA op a b=(0,0):=by first|exact R9 oM oM|exact Sa oM oM|exact Sb oM oM|exact Sc oM oM oM|exact Sd oM oM oM|exact gz oM
 rw[e_];refine bP<|ba<|aX<|ln op 4 (fun c36=> ?_) (fun c36=> ?_);refine aI<|ah 2<|zbd .i64 (IntKind.i64.wrap (a.tdiv b)) b (by assumption)<|ah 2<|ay<|bL<|cJ<|iv (vI (IntKind.i64.wrap (a.tdiv b))) (vI 0) ?_;refine⟨?_,hM⟩;have e_:cA op a b=(IntKind.i64.wrap (a.tdiv b),0):=by first|exact R9 oM oM|exact Sa oM oM|exact Sb oM oM|exact Sc oM oM oM|exact Sd oM oM oM|exact gz oM
 rw[e_];refine bP<|aI<|ah 2<|zbd .i64 (a.tmod b) b (by assumption)<|ah 2<|ay<|bL<|cJ<|iv (vI (a.tmod b)) (vI 0) ?_;refine⟨?_,hM⟩;have e_:cA op a b=(a.tmod b,0):=by first|exact R9 oM oM|exact Sa oM oM|exact Sb oM oM|exact Sc oM oM oM|exact Sd oM oM oM|exact gz oM
 rw[e_]
theorem QcL(op a:Int)(w:World):Calls Tryz.prog 150 #[vI op,vI a] w (ez fun v w'=>v= .tuple #[vI (rJ op a).1,vI (rJ op a).2]∧Mem bq w w' []):=by
 refine fv 20 [vI op,vI a] Tryz.func150 ?_;have hM:=Mem.init w;refine aX<|ba<|aX<|cr 0<|aX<|ln op 1 (fun c1=> ?_) (fun c1=> ?_);refine aI<|ah 1<|zui .neg a .i64 (IntKind.i64.wrap (0-a))<|ah 2<|ay<|bL<|cJ<|iv (vI (IntKind.i64.wrap (0-a))) (vI 0) ?_;refine⟨?_,hM⟩;have e_:rJ op a=(IntKind.i64.wrap (0-a),0):=by first|exact Z4|exact Z5|exact Z6|exact tD (by assumption) (by assumption) (by assumption)
 rw[e_];refine aX<|ln op 2 (fun c2=> ?_) (fun c2=> ?_);refine aI<|ah 1<|zui .xor a .i64 (rp (-1) a)<|ah 2<|ay<|bL<|cJ<|iv (vI (rp (-1) a)) (vI 0) ?_;refine⟨?_,hM⟩;have e_:rJ op a=(rp (-1) a,0):=by first|exact Z4|exact Z5|exact Z6|exact tD (by assumption) (by assumption) (by assumption)
 rw[e_];refine aX<|ln op 3 (fun c3=> ?_) (fun c3=> ?_);refine aI<|ah 2<|di (oQ ((a:Int)==0) w) ?_;rintro _ w4 ⟨rfl,DH⟩;have M5:=hM.cl DH;clear DH hM;refine ah 2<|ay<|bL<|cJ<|iv (vI (cO ((a:Int)==0))) (vI 0) ?_;refine⟨?_,M5⟩;have e_:rJ op a=(cO ((a:Int)==0),0):=by first|exact Z4|exact Z5|exact Z6|exact tD (by assumption) (by assumption) (by assumption)
 rw[e_];refine bP<|aX<|bL<|iv (vI 0) (vI (-1)) ?_;refine⟨?_,hM⟩;have e_:rJ op a=(0,-1):=by first|exact Z4|exact Z5|exact Z6|exact tD (by assumption) (by assumption) (by assumption)
 rw[e_]
theorem QcM(X:RX)(z:jo)(oA:ar)(oc:Nat)(w:World)(hX:X.WF)(hG:dM X z)(hR:(bx.pk (dR X z oA oc)).holds w)(op a b:Int)(hz:z.ov=false):Calls Tryz.prog 151 #[pT X.r 0,vI op,vI a,vI b] w (ez fun v w'=>XV X (xS X z oA oc) w z (Nw op a b) v w'):=by
 refine fv 24 [pT X.r 0,vI op,vI a,vI b] Tryz.func151 ?_;have hM:=Mem.uO hR;refine aX<|aI<|ah 3<|di (Ys op a b w) ?_;rintro _ w1 ⟨rfl,KE⟩;have M2:=hM.cl KE;clear KE hM;refine ah 5<|ay<|ba<|aX<|dX (((cA op a b).2:Int) !=0) (((cA op a b).2:Int)≠0) (by simp only[bne_iff_ne]) (fun c3=> ?_) (fun c3=> ?_);refine cG<|ah 2<|di (kh X z oA oc w1 hX hG (Mem.cD (l:=dR X z oA oc) M2) 2 ((cA op a b).2)) ?_;rintro _ w4 ⟨rfl,DH⟩;have M5:=bd [.aB X.r 138 [vS X.dA X.ds.length X.dc,vS X.pA X.ds.length X.pc,vS (sM X.mG) X.E.bR X.E.bR,vI ((z.fin 2 ((cA op a b).2)).s.next),vS X.iA X.E.inp.length X.ic,(vI ((z.fin 2 ((cA op a b).2)).s.pos:Int)),vI ((z.fin 2 ((cA op a b).2)).k),vI ((z.fin 2 ((cA op a b).2)).c),vS oA ((z.fin 2 ((cA op a b).2)).s.out.length) oc,vI ((z.fin 2 ((cA op a b).2)).s.steps),vB ((z.fin 2 ((cA op a b).2)).ov),vI X.E.fuel,vI ((z.fin 2 ((cA op a b).2)).s.opened),vS X.fA X.E.mb.length X.fc,vS X.qA X.E.mb.length X.qc],.row 2 1 (sM X.mG) X.E.bR X.E.bR (ints (z.fin 2 ((cA op a b).2)).s.mem),.row 5 1 oA ((z.fin 2 ((cA op a b).2)).s.out.length) oc (qW (z.fin 2 ((cA op a b).2)).s.out)] (M2.rH DH);refine ay<|aX<|bL<|cv (vI (cA op a b).1) ?_;exact⟨_,(z.fin 2 ((cA op a b).2)),oA,oc,rfl,hG.fin,ey.fin (K:=Nw op a b) rfl (fun _=>by unfold Nw;rw[if_neg c3];rfl),M5⟩;refine bP<|aX<|bL<|cv (vI (cA op a b).1) ?_;exact⟨_,z,oA,oc,rfl,hG,ey.to (K:=Nw op a b) rfl hz hz (by unfold Nw;rw[if_pos oM]),M2⟩
end Go.Proofs.YtejbeeaomokjpaaGreat
namespace Go.Proofs.YtejbeeaomokjpaaGreat
open Go.Mor
set_option maxHeartbeats 4000000 in
theorem Yt(X:RX)(z:jo)(oA:ar)(oc:Nat)(w:World)(hX:X.WF)(hG:dM X z)(hR:(bx.pk (dR X z oA oc)).holds w)(hA:RO (xS X z oA oc) w X.ro)(g:Nat)(hK:Le Tryz.prog X 89 (cc X.E.toEnv0 g) (g:Int))(i:bl)(l:af)(bA:ar)(bc:Nat)(hz:z.ov=false)(hZ:tc X.E.toEnv0 z (g:Int) l)(hs:bQ i)(hlen:l.length=i.args.length)(NT:l.length≤bc)(hl:RO (xS X z oA oc) w (.rd bA (ints l))):Calls Tryz.prog 132 #[pT X.r 0,iG i,vS bA l.length bc] w (ez fun v w'=>YIV X (xS X z oA oc) w z i.op (bV X.E.toEnv0 (cc X.E.toEnv0 g) i l) v w'):=by
 have g1:=hG.n1;have g2:=hG.n2;have g3:=hX.mem;have hli:LI l:=fun x hx=>hZ.in_ hz hx
 have h8:(fh X.E.data i.name).getD 0=0→fh X.E.data i.name=none:=fun h_=>Se h_ (fun n hn=>by rw[hX.data]at hn;obtain⟨j,_,rfl⟩:=vd hn;have:=sD (ds:=X.ds) (j:=j);omega)
 have h9:(fh X.E.names i.name).getD 0=0→fh X.E.names i.name=none:=fun h_=>Se h_ (fun n hn=>by rw[hX.names]at hn;have:=Sk hn;omega)
 have h8y:¬(fh X.E.data i.name).getD 0=0→fh X.E.data i.name=some ((fh X.E.data i.name).getD 0):=Lg;have h9y:¬(fh X.E.names i.name).getD 0=0→fh X.E.names i.name=some ((fh X.E.names i.name).getD 0):=Lg;refine fv 161 [pT X.r 0,iG i,vS bA l.length bc] Tryz.func132 ?_;have hM:=Mem.uO hR;refine aI<|ou hM 45 (iG i) (iV i) fun b1 w2 jU M3=> ?_
 replace M3:=M3.nf;clear hM;refine ah 1<|ay<|ba<|aI<|ah 1<|bt (aZ b1) _ (ae (M3.get 3 rfl) rfl)<|ay<|cr 0<|aX<|ln i.op 1 (fun c4=> ?_) (fun c4=> ?_);refine aI<|ah 1<|bt (ao b1 2) _ (ae (M3.get 3 rfl) rfl)<|ah 1<|ay<|bL<|cJ<|cv (vI i.n) ?_;exact⟨_,z,oA,oc,rfl,hG,⟨_,fun _=>rfl,ey.to (K:=bV X.E.toEnv0 (cc X.E.toEnv0 g) i l) rfl hz hz (qa oM)⟩,M3.tk 3⟩;refine ba<|aX ?_;obtain⟨B5,hB5⟩:∃B:Bool,B=((i.op:Int)==2):=⟨_,rfl⟩;refine bX [(0,pT X.r 0),(2,vS bA l.length bc),(4,pT b1 0),(12,vI i.op),(17,(vB ((i.op:Int)==2)))] ?_;rw[←hB5];have iB5:B5=true↔((i.op:Int)=2):=by rw[hB5];simp only[beq_iff_eq]
 clear hB5;cases B5;have c5:¬((i.op:Int)=2):=iL iB5.2;refine fT<|xh<|ln i.op 3 (fun c6=> ?_) (fun c6=> ?_);refine ba ?_;obtain⟨Qix,Qiy,Qiz⟩:=Qar oM hs;obtain⟨Yu,rfl⟩:=rd_some (M3.ro hl) (by rw[dg];omega);refine da [0,2,4,12] ?_;intro aC fr;refine wB 8 (bo [eR X.r 0,eR X.r 0,eR X.r 0,eS (some Yu) l.length bc,eA Yu (0:Int) 1,eI (a0 l),eR b1 2,eI i.n]) fr (pF lz dP dP dP dP (dI Yu l.length 1 0) (dL (aN Yu (0:Int) 1) _ fun w_ hK=>(dZ (i:=0) ((M3.aw hK).ro hl) rfl oM oM)) dP (dL (ao b1 2) _ fun w_ hK=>(ae ((M3.aw hK).get 3 rfl) rfl))) ?_;intro aC V6 vs hK hv fr;revert aC;refine bX [(0,pT X.r 0),(2,vS (some Yu) l.length bc),(4,pT b1 0),(22,pT X.r 0),(25,vI (a0 l)),(27,vI i.n)] ?_;have oB:=M3.aw hK;clear hK hv fr aC M3;clear vs;refine di (vs:=#[pT X.r 0,vI (a0 l),vI i.n]) (Ll X z oA oc V6 hX hG (Mem.cD (l:=dR X z oA oc) oB) (a0 l) i.n (hli _ (Sf oM)) oM oM) ?_;rintro _ w19 ⟨NU,Pf,NV,NX,rfl,SQ,QfH,G4⟩;have oG:=bd [oN X Pf NV NX,mZ X Pf,mM Pf NV NX,.aB b1 45 (iV i)] (oB.rH G4);refine ah 1<|ay<|ba<|aX<|fE ((NU:Int)<0) (fun EO=> ?_) (fun EO=> ?_);refine aX<|bL<|cJ<|cv (vI 0) ?_;rcases QfH with⟨h1_,_⟩|⟨_,CE,CF⟩
 · omega
 exact⟨0,Pf,NV,NX,rfl,SQ,⟨0,fun _=>rfl,by rw[CE];exact ey.fin (K:=bV X.E.toEnv0 (cc X.E.toEnv0 g) i l) rfl (fun _=>by rw[qd oM,CF];rfl)⟩,oG.tk 3⟩;refine bP<|ba<|aI ?_;obtain⟨h1_,CE,CF,h4_⟩:=Or.resolve_right QfH (fun h_=>absurd h_.1 oM);have h5_:=hG.n2;have h6_:=SQ.mem;refine ah 1<|bt (aZ b1) _ (ae (oG.get 3 rfl) rfl)<|ah 1<|ay<|ln i.op 3 (fun c22=> ?_) (fun c22=> ?_);have hq3:=(tw oM).1 hs;refine da [0,2,7] ?_;intro aC fr;refine wB 9 (bo [eR X.r 0,eR X.r 0,eR X.r 0,eP (ao X.r 2),eS (sM X.mG) X.E.bR X.E.bR,eI NU,eS (some Yu) l.length bc,eA Yu (1:Int) 1,eI (a1 l)]) fr (la (pF lz dP dP dP dP (dL (ao X.r 2) _ fun w_ hK=>(ae ((oG.aw hK).get 0 rfl) rfl)) dP dP (dI Yu l.length 1 1)) (dL (aN Yu (1:Int) 1) _ fun w_ hK=>(dZ (i:=1) ((oG.aw hK).ro hl) rfl oM oM))) ?_;intro aC w27 vs hK hv fr;revert aC;refine bX [(0,pT X.r 0),(7,vI NU),(38,vS (sM X.mG) X.E.bR X.E.bR),(39,vI NU),(42,vI (a1 l))] ?_;have qj:=oG.aw hK;clear hK hv fr aC oG;clear vs;refine ej (h0:=oM) (h1:=oM) (aZ X.mG) X.E.bR 1 NU<|yc qj 1 (aN (aZ X.mG) (NU) 1) ((NU).toNat*1) (vI (a1 l)) rfl rfl oM fun w29 xn=> ?_
 replace xn:=xn.nf;refine ay<|aI ?_;have s8:=bd [oN X Pf NV NX,.row 2 1 (sM X.mG) X.E.bR X.E.bR (ints (Pf.s.mem.set NU.toNat (a1 l))),mM Pf NV NX,.aB b1 45 (iV i)] (xn.cast (by rw[kH]));refine ah 4<|bt (ao X.r 2) _ (ae (s8.get 0 rfl) rfl)<|ah 1<|ej (h0:=oM) (h1:=oM) (aZ X.mG) X.E.bR 1 NU<|bt (aN (aZ X.mG) (NU) 1) _ (dZ (aD (s8.get 1 rfl)) rfl oM (by rw[List.length_set];omega))<|ah 1<|ay<|bL<|cJ<|cv (vI ((Pf.s.mem.set NU.toNat (a1 l)).getD NU.toNat 0)) ?_;exact⟨_,{Pf with s:={Pf.s with mem:=(Pf.s.mem.set NU.toNat (a1 l))}},NV,NX,rfl,(SQ.set _ _),⟨0,fun hm_=>absurd hm_ (by unfold aK;omega),ey.to (K:=bV X.E.toEnv0 (cc X.E.toEnv0 g) i l) rfl hz (by show Pf.ov=false;rw[CF];exact hz) (by rw[qd oM,h4_,CF];rfl)⟩,s8.tk 3⟩;omega;refine aX<|ln i.op 4 (fun Fo=> ?_) (fun Fo=> ?_);refine aI ?_;have hq4:=(Da oM).1 hs;refine ah 3<|bt (ao b1 3) _ (ae (M3.get 3 rfl) rfl)<|di (ri X z oA oc w2 hX (M3.cK 0 rfl) (hA.at_ M3) i.name) ?_;rintro _ w33 ⟨rfl,Dl⟩;have xo:=M3.cl Dl;refine ah 1<|di (hK ((fh X.E.names i.name).getD 0) l bA bc z oA oc w33 hG hZ (Mem.cD (l:=dR X z oA oc) xo) (hA.rI (l:=dR X z oA oc) xo) (hl.rI (l:=dR X z oA oc) xo) oM) ?_;rintro _ w40 ⟨x35,z36,QcN,QcO,rfl,QfI,QiA,QiB⟩;have rr:=bd [oN X z36 QcN QcO,mZ X z36,mM z36 QcN QcO,.aB b1 45 (iV i)] (xo.rH QiB);refine ah 1<|ay<|bL<|cJ<|cv (vI x35) ?_;exact⟨_,z36,QcN,QcO,rfl,QfI,⟨_,fun _=>rfl,ey.tail (ey.HK (K:=bV X.E.toEnv0 (cc X.E.toEnv0 g) i l) (fun s_=>(sm oM).trans Sh) rfl) QiA⟩,rr.tk 3⟩;refine aX<|ln i.op 5 (fun c42=> ?_) (fun c42=> ?_);refine ba ?_;have hq5:=(Db oM).1 hs;obtain⟨x0,l1,rfl⟩:∃x l2,l=x::l2:=by cases l with|nil=>exact absurd hlen (by simp;omega)|cons x l2=>exact⟨x,l2,rfl⟩
 simp only[List.length_cons]at hlen NT;obtain⟨dF,rfl⟩:=rd_some (M3.ro hl) (by rw[dg];simp);refine da [0,2,4,12] ?_;intro aC fr;refine wB 6 (bo [eR X.r 0,eS (some dF) (l1.length+1) bc,eA dF (0:Int) 1,eI x0,eS (some dF) (l1.length+1) bc,.aU (Qfd (some dF) (l1.length+1) bc 1 1)]) fr (la (sv lz dP dP (dI dF (l1.length+1) 1 0) (dL (aN dF (0:Int) 1) _ fun w_ hK=>(dZ (i:=0) (l:=x0::l1) ((M3.aw hK).ro hl) rfl oM sI)) dP) (dSl (some dF) (l1.length+1) bc 1 1 oM)) ?_;intro aC w48 vs hK hv fr;revert aC;refine bX [(63,pT X.r 0),(66,vI x0),(68,(vS (if bc=1 then(some dF)else Option.map (·.add (1*1)) (some dF)) l1.length (bc-1)))] ?_;have s6:=M3.aw hK;clear hK hv fr aC M3;clear vs;refine di (vs:=#[pT X.r 0,vI x0,(vS (if bc=1 then(some dF)else Option.map (·.add (1*1)) (some dF)) l1.length (bc-1))]) (hK x0 l1 (if bc=1 then(some dF)else Option.map (·.add (1*1)) (some dF)) (bc-1) z oA oc w48 hG (hZ.XN (Int.le_refl _) (fun x hx=> .inl (List.mem_cons_of_mem _ hx))) (Mem.cD (l:=dR X z oA oc) s6) (hA.rI (l:=dR X z oA oc) s6) (RO.IC (vs:=ints l1) (hl.rI (l:=dR X z oA oc) s6) (by rw[dg];exact NT)) oM) ?_;rintro _ w55 ⟨x50,z51,QcP,QcQ,rfl,QfJ,QiC,QiD⟩;have BJ:=bd [oN X z51 QcP QcQ,mZ X z51,mM z51 QcP QcQ,.aB b1 45 (iV i)] (s6.rH QiD);refine ah 1<|ay<|bL<|cJ<|cv (vI x50) ?_;exact⟨_,z51,QcP,QcQ,rfl,QfJ,⟨_,fun _=>rfl,ey.tail (ey.HK (K:=bV X.E.toEnv0 (cc X.E.toEnv0 g) i (x0::l1)) (fun s_=>sn oM) rfl) QiC⟩,BJ.tk 3⟩;refine ba<|aX ?_;obtain⟨B57,QcR⟩:∃B:Bool,B=((i.op:Int)==6):=⟨_,rfl⟩;refine bX [(0,pT X.r 0),(2,vS bA l.length bc),(4,pT b1 0),(12,vI i.op),(70,(vB ((i.op:Int)==6)))] ?_;rw[←QcR];have QfK:B57=true↔((i.op:Int)=6):=by rw[QcR];simp only[beq_iff_eq]
 clear QcR;cases B57;have c57:¬((i.op:Int)=6):=iL QfK.2;refine fT<|xh<|ln i.op 7 (fun Qv=> ?_) (fun Qv=> ?_);refine aI<|ah 2<|bt (ao b1 3) _ (ae (M3.get 3 rfl) rfl)<|di (ri X z oA oc w2 hX (M3.cK 0 rfl) (hA.at_ M3) i.name) ?_;rintro _ w59 ⟨rfl,SR⟩;have uW:=M3.cl SR;refine ah 1<|ay<|ba<|aI<|ah 1<|bt (aZ b1) _ (ae (uW.get 3 rfl) rfl)<|ah 1<|ay<|ln i.op 6 (fun c61=> ?_) (fun c61=> ?_);omega;refine bP<|ba<|aX<|ln ((fh X.E.names i.name).getD 0) 0 (fun c62=> ?_) (fun c62=> ?_);refine cG<|ah 3<|di (kh X z oA oc w59 hX hG (Mem.cD (l:=dR X z oA oc) uW) 5 0) ?_;rintro _ w63 ⟨rfl,QiE⟩;have BK:=bd [oN X (z.fin 5 0) oA oc,mZ X (z.fin 5 0),mM (z.fin 5 0) oA oc,.aB b1 45 (iV i)] (uW.rH QiE);refine ay<|aX<|bL<|cJ<|cv (vI ((fh X.E.names i.name).getD 0)) ?_;exact⟨_,(z.fin 5 0),oA,oc,rfl,hG.fin,⟨_,fun _=>rfl,ey.fin (K:=bV X.E.toEnv0 (cc X.E.toEnv0 g) i l) rfl (fun _=>by rw[oy oM,h9 (by assumption)];rfl)⟩,BK.tk 3⟩;refine bP<|aX<|bL<|cJ<|cv (vI ((fh X.E.names i.name).getD 0)) ?_;exact⟨_,z,oA,oc,rfl,hG,⟨_,fun _=>rfl,ey.to (K:=bV X.E.toEnv0 (cc X.E.toEnv0 g) i l) rfl hz hz (by rw[oy oM,h9y (by assumption)];rfl)⟩,uW.tk 3⟩;refine aX<|ln i.op 8 (fun c65=> ?_) (fun c65=> ?_);refine ba ?_;have hq8:=(Dc oM).1 hs;obtain⟨gn,rfl⟩:=rd_some (M3.ro hl) (by rw[dg];omega);refine da [0,2,4,12] ?_;intro aC fr;refine wB 6 (bo [eR X.r 0,eR X.r 0,eR X.r 0,eS (some gn) l.length bc,eA gn (0:Int) 1,eI (a0 l)]) fr (la (sv lz dP dP dP dP (dI gn l.length 1 0)) (dL (aN gn (0:Int) 1) _ fun w_ hK=>(dZ (i:=0) ((M3.aw hK).ro hl) rfl oM oM))) ?_;intro aC w71 vs hK hv fr;revert aC;refine bX [(97,pT X.r 0),(100,vI (a0 l))] ?_;have xF:=M3.aw hK;clear hK hv fr aC M3;clear vs;refine di (SN X z oA oc w71 hX hG (Mem.cD (l:=dR X z oA oc) xF) (a0 l) hz) ?_;rintro _ w78 ⟨x73,z74,QcS,QcT,rfl,QfL,QiF,QcU⟩;have G5:=bd [oN X z74 QcS QcT,mZ X z74,mM z74 QcS QcT,.aB b1 45 (iV i)] (xF.rH QcU);refine ah 1<|ay<|bL<|cJ<|cv (vI x73) ?_;exact⟨_,z74,QcS,QcT,rfl,QfL,⟨_,fun _=>rfl,ey.tail (ey.HK (K:=bV X.E.toEnv0 (cc X.E.toEnv0 g) i l) (fun s_=>XY oM) rfl) QiF⟩,G5.tk 3⟩;refine aX<|ln i.op 9 (fun Vk=> ?_) (fun Vk=> ?_);refine aI<|ah 3<|di (Yp X z oA oc w2 hX hG (Mem.cD (l:=dR X z oA oc) M3) (hA.rI (l:=dR X z oA oc) M3) hz) ?_;rintro _ w86 ⟨x81,z82,QcV,QcW,rfl,QfM,QiG,QiH⟩;have M87:=bd [oN X z82 QcV QcW,mZ X z82,mM z82 QcV QcW,.aB b1 45 (iV i)] (M3.rH QiH);refine ah 1<|ay<|bL<|cJ<|cv (vI x81) ?_;exact⟨_,z82,QcV,QcW,rfl,QfM,⟨_,fun _=>rfl,ey.tail (ey.HK (K:=bV X.E.toEnv0 (cc X.E.toEnv0 g) i l) (fun s_=>XZ oM) rfl) QiG⟩,M87.tk 3⟩;refine aX<|ln i.op 10 (fun c88=> ?_) (fun c88=> ?_);refine ba ?_;have hq10:=(yg oM).1 hs;obtain⟨Yv,rfl⟩:=rd_some (M3.ro hl) (by rw[dg];omega);refine da [0,2,4,12] ?_;intro aC fr;refine wB 6 (bo [eR X.r 0,eR X.r 0,eR X.r 0,eS (some Yv) l.length bc,eA Yv (0:Int) 1,eI (a0 l)]) fr (la (sv lz dP dP dP dP (dI Yv l.length 1 0)) (dL (aN Yv (0:Int) 1) _ fun w_ hK=>(dZ (i:=0) ((M3.aw hK).ro hl) rfl oM oM))) ?_;intro aC w94 vs hK hv fr;revert aC;refine bX [(112,pT X.r 0),(115,vI (a0 l))] ?_;have AG:=M3.aw hK;clear hK hv fr aC M3;clear vs;refine di (SP X z oA oc w94 hX hG (Mem.cD (l:=dR X z oA oc) AG) (a0 l)) ?_;rintro _ w101 ⟨z96,QcX,QcY,rfl,QfN,QiI,QfO,QfP⟩;have QcZ:=bd [oN X z96 QcX QcY,mZ X z96,mM z96 QcX QcY,.aB b1 45 (iV i)] (AG.rH QfP);refine ay<|aX<|bL<|cJ<|cv (vI 0) ?_;exact⟨_,z96,QcX,QcY,rfl,QfN,⟨_,fun _=>rfl,ey.to (K:=bV X.E.toEnv0 (cc X.E.toEnv0 g) i l) rfl hz (QiI.trans hz) (by rw[X0 oM,QfO])⟩,QcZ.tk 3⟩;refine aX<|ln i.op 11 (fun QiJ=> ?_) (fun QiJ=> ?_);refine ba<|aI ?_;have hq11:=(tx oM).1 hs;refine ah 1 ?_;obtain⟨Qaz,rfl⟩:=rd_some (M3.ro hl) (by rw[dg];omega);refine ej Qaz l.length 1 0<|bt (aN Qaz (0:Int) 1) _ (dZ (i:=0) (M3.ro hl) rfl oM oM)<|ah 1<|ay<|ln (a0 l) 0 (fun QiK=> ?_) (fun QiK=> ?_);refine da [0,4] ?_;intro aC fr;refine wB 5 (bo [eR X.r 0,eR X.r 0,eR X.r 0,eR b1 2,eI i.n]) fr (sv lz dP dP dP dP (dL (ao b1 2) _ fun w_ hK=>(ae ((M3.aw hK).get 3 rfl) rfl))) ?_;intro aC QiL vs hK hv fr;revert aC;refine bX [(125,pT X.r 0),(127,vI i.n)] ?_;have Yw:=M3.aw hK;clear hK hv fr aC M3;clear vs;refine di (kh X z oA oc QiL hX hG (Mem.cD (l:=dR X z oA oc) Yw) 2 i.n) ?_;rintro _ NN ⟨rfl,SS⟩;have mf:=bd [oN X (z.fin 2 i.n) oA oc,mZ X (z.fin 2 i.n),mM (z.fin 2 i.n) oA oc,.aB b1 45 (iV i)] (Yw.rH SS);refine ay<|aX<|bL<|cJ<|cv (vI 0) ?_;exact⟨_,(z.fin 2 i.n),oA,oc,rfl,hG.fin,⟨_,fun _=>rfl,ey.fin (K:=bV X.E.toEnv0 (cc X.E.toEnv0 g) i l) rfl (fun _=>by rw[mr oM,if_pos oM];rfl)⟩,mf.tk 3⟩;refine bP<|aX<|bL<|cJ<|cv (vI 0) ?_;exact⟨_,z,oA,oc,rfl,hG,⟨_,fun _=>rfl,ey.to (K:=bV X.E.toEnv0 (cc X.E.toEnv0 g) i l) rfl hz hz (by rw[mr oM,if_neg oM])⟩,M3.tk 3⟩;refine aX<|ln i.op 12 (fun AH=> ?_) (fun AH=> ?_);refine aI ?_;have hq12:=(yh oM).1 hs;refine ah 1 ?_;obtain⟨QaA,rfl⟩:=rd_some (M3.ro hl) (by rw[dg];omega);refine ej QaA l.length 1 0<|bt (aN QaA (0:Int) 1) _ (dZ (i:=0) (M3.ro hl) rfl oM oM)<|ah 1<|ay<|bL<|cJ<|cv (vI (a0 l)) ?_;exact⟨_,z,oA,oc,rfl,hG,⟨_,fun _=>rfl,ey.to (K:=bV X.E.toEnv0 (cc X.E.toEnv0 g) i l) rfl hz hz (mu oM)⟩,M3.tk 3⟩;refine bP<|ba<|aI ?_;have hqb:=(ns oM).1 hs;refine ah 1<|bt (aZ b1) _ (ae (M3.get 3 rfl) rfl)<|ah 1<|ay<|fE ((i.op:Int)>40) (fun Qc0=> ?_) (fun Qc0=> ?_);refine ba ?_;obtain⟨Lm,rfl⟩:=rd_some (M3.ro hl) (by rw[dg];omega);refine da [0,2,4] ?_;intro aC fr;refine wB 11 (bo [eR b1 0,eI i.op,eI (i.op-40),eS (some Lm) l.length bc,eA Lm (0:Int) 1,eI (a0 l),.aU (.tuple #[vI ((rJ (i.op-40) (a0 l)).1),vI ((rJ (i.op-40) (a0 l)).2)]),.aU (.tuple #[vI ((rJ (i.op-40) (a0 l)).1),vI ((rJ (i.op-40) (a0 l)).2)]),eI ((rJ (i.op-40) (a0 l)).1),eI ((rJ (i.op-40) (a0 l)).2),eI ((rJ (i.op-40) (a0 l)).1)]) fr (kV (pF lz dP (dL (aZ b1) _ fun w_ hK=>(ae ((M3.aw hK).get 3 rfl) rfl)) (dA (i.op-40)) dP (dI Lm l.length 1 0) (dL (aN Lm (0:Int) 1) _ fun w_ hK=>(dZ (i:=0) ((M3.aw hK).ro hl) rfl oM oM)) (dD (fun w_ hK=>QcL (i.op-40) (a0 l) w_) rfl) dP) dP dP dP) ?_;intro aC QfQ vs hK hv fr;revert aC;refine bX [(9,vI ((rJ (i.op-40) (a0 l)).1)),(146,vI ((rJ (i.op-40) (a0 l)).2))] ?_;have G6:=M3.aw hK;clear hK hv fr aC M3;clear vs;refine ah 1<|ay<|aX<|bL<|cv (vI ((rJ (i.op-40) (a0 l)).1)) ?_;exact⟨_,z,oA,oc,rfl,hG,⟨_,fun _=>rfl,ey.to (K:=bV X.E.toEnv0 (cc X.E.toEnv0 g) i l) rfl hz hz (mv oM)⟩,G6.tk 3⟩;refine bP<|ba ?_;obtain⟨wj,rfl⟩:=rd_some (M3.ro hl) (by rw[dg];omega);refine da [0,2,4] ?_;intro aC fr;refine wB 12 (bo [eR X.r 0,eR X.r 0,eR X.r 0,eR b1 0,eI i.op,eI (i.op-16),eS (some wj) l.length bc,eA wj (0:Int) 1,eI (a0 l),eS (some wj) l.length bc,eA wj (1:Int) 1,eI (a1 l)]) fr (dT lz dP dP dP dP (dL (aZ b1) _ fun w_ hK=>(ae ((M3.aw hK).get 3 rfl) rfl)) (dA (i.op-16)) dP (dI wj l.length 1 0) (dL (aN wj (0:Int) 1) _ fun w_ hK=>(dZ (i:=0) ((M3.aw hK).ro hl) rfl oM oM)) dP (dI wj l.length 1 1) (dL (aN wj (1:Int) 1) _ fun w_ hK=>(dZ (i:=1) ((M3.aw hK).ro hl) rfl oM oM))) ?_;intro aC QiM vs hK hv fr;revert aC;refine bX [(150,pT X.r 0),(153,vI (i.op-16)),(156,vI (a0 l)),(159,vI (a1 l))] ?_;have G7:=M3.aw hK;clear hK hv fr aC M3;clear vs;refine di (QcM X z oA oc QiM hX hG (Mem.cD (l:=dR X z oA oc) G7) (i.op-16) (a0 l) (a1 l) hz) ?_;rintro _ QfR ⟨QiN,Yx,SU,SV,rfl,Qc1,QfS,SX⟩;have SY:=bd [oN X Yx SU SV,mZ X Yx,mM Yx SU SV,.aB b1 45 (iV i)] (G7.rH SX);refine ah 1<|ay<|bL<|cv (vI QiN) ?_;exact⟨_,Yx,SU,SV,rfl,Qc1,⟨_,fun _=>rfl,ey.tail (ey.HK (K:=bV X.E.toEnv0 (cc X.E.toEnv0 g) i l) (fun s_=>X1 oM oM) rfl) QfS⟩,SY.tk 3⟩;have c57:((i.op:Int)=6):=QfK.1 rfl;refine fm<|bP<|fm<|aI<|ah 2<|bt (ao b1 3) _ (ae (M3.get 3 rfl) rfl)<|di (ri X z oA oc w2 hX (M3.cK 0 rfl) (hA.at_ M3) i.name) ?_;rintro _ QiO ⟨rfl,QfT⟩;have Eg:=M3.cl QfT;refine ah 1<|ay<|ba<|aI<|ah 1<|bt (aZ b1) _ (ae (Eg.get 3 rfl) rfl)<|ah 1<|ay<|ln i.op 6 (fun QiP=> ?_) (fun QiP=> ?_);refine da [0,4,8] ?_;intro aC fr;refine wB 5 (bo [eR X.r 0,eR X.r 0,eR X.r 0,eR b1 3,eT i.name]) fr (sv lz dP dP dP dP (dL (ao b1 3) _ fun w_ hK=>(ae ((Eg.aw hK).get 3 rfl) rfl))) ?_;intro aC QiQ vs hK hv fr;revert aC;refine bX [(0,pT X.r 0),(82,pT X.r 0),(84,vT i.name)] ?_;have Jw:=Eg.aw hK;clear hK hv fr aC Eg;clear vs;refine di (SM X z oA oc QiQ hX (Jw.cK 0 rfl) (hA.at_ Jw) i.name) ?_;rintro _ QiR ⟨rfl,QfU⟩;have SZ:=Jw.cl QfU;refine ah 1<|ay<|ba<|aX<|ln ((fh X.E.data i.name).getD 0) 0 (fun QiS=> ?_) (fun QiS=> ?_);refine cG<|ah 3<|di (kh X z oA oc QiR hX hG (Mem.cD (l:=dR X z oA oc) SZ) 5 0) ?_;rintro _ QiT ⟨rfl,QfV⟩;have qC:=bd [oN X (z.fin 5 0) oA oc,mZ X (z.fin 5 0),mM (z.fin 5 0) oA oc,.aB b1 45 (iV i)] (SZ.rH QfV);refine ay<|aX<|bL<|cJ<|cv (vI ((fh X.E.data i.name).getD 0)) ?_;exact⟨_,(z.fin 5 0),oA,oc,rfl,hG.fin,⟨_,fun _=>rfl,ey.fin (K:=bV X.E.toEnv0 (cc X.E.toEnv0 g) i l) rfl (fun _=>by rw[ox oM,h8 (by assumption)];rfl)⟩,qC.tk 3⟩;refine bP<|aX<|bL<|cJ<|cv (vI ((fh X.E.data i.name).getD 0)) ?_;exact⟨_,z,oA,oc,rfl,hG,⟨_,fun _=>rfl,ey.to (K:=bV X.E.toEnv0 (cc X.E.toEnv0 g) i l) rfl hz hz (by rw[ox oM,h8y (by assumption)];rfl)⟩,SZ.tk 3⟩;omega;have c5:((i.op:Int)=2):=iB5.1 rfl;refine fm<|bP<|fm<|ba ?_;obtain⟨Qix,Qiy,Qiz⟩:=Qar oM hs;obtain⟨G8,rfl⟩:=rd_some (M3.ro hl) (by rw[dg];omega);refine da [0,2,4,12,17] ?_;intro aC fr;refine wB 8 (bo [eR X.r 0,eR X.r 0,eR X.r 0,eS (some G8) l.length bc,eA G8 (0:Int) 1,eI (a0 l),eR b1 2,eI i.n]) fr (pF lz dP dP dP dP (dI G8 l.length 1 0) (dL (aN G8 (0:Int) 1) _ fun w_ hK=>(dZ (i:=0) ((M3.aw hK).ro hl) rfl oM oM)) dP (dL (ao b1 2) _ fun w_ hK=>(ae ((M3.aw hK).get 3 rfl) rfl))) ?_;intro aC QfW vs hK hv fr;revert aC;refine bX [(0,pT X.r 0),(2,vS (some G8) l.length bc),(4,pT b1 0),(22,pT X.r 0),(25,vI (a0 l)),(27,vI i.n)] ?_;have NY:=M3.aw hK;clear hK hv fr aC M3;clear vs;refine di (vs:=#[pT X.r 0,vI (a0 l),vI i.n]) (Ll X z oA oc QfW hX hG (Mem.cD (l:=dR X z oA oc) NY) (a0 l) i.n (hli _ (Sf oM)) oM oM) ?_;rintro _ QfX ⟨Yy,z160,Ln,Lo,rfl,Jx,QaB,QfY⟩;have zx:=bd [oN X z160 Ln Lo,mZ X z160,mM z160 Ln Lo,.aB b1 45 (iV i)] (NY.rH QfY);refine ah 1<|ay<|ba<|aX<|fE ((Yy:Int)<0) (fun QiU=> ?_) (fun QiU=> ?_);refine aX<|bL<|cJ<|cv (vI 0) ?_;rcases QaB with⟨h1_,_⟩|⟨_,CE,CF⟩
 · omega
 exact⟨0,z160,Ln,Lo,rfl,Jx,⟨0,fun _=>rfl,by rw[CE];exact ey.fin (K:=bV X.E.toEnv0 (cc X.E.toEnv0 g) i l) rfl (fun _=>by rw[qb oM,CF];rfl)⟩,zx.tk 3⟩;refine bP<|ba<|aI ?_;obtain⟨h1_,CE,CF,h4_⟩:=Or.resolve_right QaB (fun h_=>absurd h_.1 oM);have h5_:=hG.n2;have h6_:=Jx.mem;refine ah 1<|bt (aZ b1) _ (ae (zx.get 3 rfl) rfl)<|ah 1<|ay<|ln i.op 3 (fun QiV=> ?_) (fun QiV=> ?_);omega;refine bP<|aI<|ah 4<|bt (ao X.r 2) _ (ae (zx.get 0 rfl) rfl)<|ah 1<|ej (h0:=oM) (h1:=oM) (aZ X.mG) X.E.bR 1 Yy<|bt (aN (aZ X.mG) (Yy) 1) _ (dZ (aD (zx.get 1 rfl)) rfl oM oM)<|ah 1<|ay<|bL ?_;refine cJ<|cv (vI (z160.s.mem.getD Yy.toNat 0)) ?_;exact⟨_,z160,Ln,Lo,rfl,Jx,⟨_,fun _=>rfl,by rw[CF];exact ey.to (K:=bV X.E.toEnv0 (cc X.E.toEnv0 g) i l) rfl hz hz (by rw[qb oM,h4_];rfl)⟩,zx.tk 3⟩
end Go.Proofs.YtejbeeaomokjpaaGreat
namespace Go.Proofs.YtejbeeaomokjpaaGreat
open Go.Mor
set_option maxHeartbeats 4000000 in
theorem Yz(X:RX)(z:jo)(oA:ar)(oc:Nat)(w:World)(hX:X.WF)(hG:dM X z)(f:et)(hf:f∈X.E.fns)(k:Nat)(x:aE)(hx:f.bh[k]?=some x)(bC:af)(vg m:Nat)(hvl:bC.length=m)(hm:(m:Int)=f.va)(hR:(bx.pk (dR X z oA oc++[.row 2 1 (sM vg) m m (ints bC)])).holds w)(hA:RO (yZ X z oA oc vg m bC) w X.ro)(q:ar×Nat×af)(hq:f.bG[k]?=some q)(ve:Int)(hw:x.au=[]∨ve∈f.src k):Calls Tryz.prog 120 #[xA x,vS q.1 q.2.2.length q.2.1,vI ve,vS (sM vg) m m] w (ez fun v w'=>v= .tuple #[]∧Mem (yZ X z oA oc vg m bC) w w' (dR X z oA oc++[.row 2 1 (sM vg) m m (ints (gr x.au (eG q.2.2 ve) bC))])):=by
 have hW:=hX.fns f hf;have HN:=hW.aB _ _ hx;have xG:=hA.xfn hf;have hli:=HN.li;have hlp:=HN.lp;have jR:=hW.va;have r4:=et.QU hq;have hql:=hW.Qig k;rw[r4]at hql;have hqr:=hA.xs hf (List.mem_of_getElem? hq);refine fv 67 [xA x,vS q.1 q.2.2.length q.2.1,vI ve,vS (sM vg) m m] Tryz.func120 ?_;have hM:=Mem.uO hR;refine aI<|ou hM 49 (xA x) (xV x) fun b1 w2 jU M3=> ?_
 replace M3:=M3.nf;clear hM;refine ay<|aX<|ba<|aX<|cr 0 ?_;intro aC fr;refine fk (fun n_ a_ w_=>∃(j:Nat) (a:Int),n_=q.2.2.length-j∧Fr a_ 67 [(1,vS q.1 q.2.2.length q.2.1),(2,vI ve),(3,vS (sM vg) m m),(4,pT b1 0),(8,vI a),(9,nV j)]∧Mem (yZ X z oA oc vg m bC) w w_ [oN X z oA oc,mZ X z,mM z oA oc,.row 2 1 (sM vg) m m (ints bC),.aB b1 49 (xV x)]∧(j≤q.2.2.length)∧(O8 q.2.2 ve j a)) (n:=_) ⟨0,0,rfl,fr.kp [1,2,3,4,8,9],M3,Nat.zero_le _,O8.start⟩ ?_;clear fr aC M3;rintro n aC w6 ⟨j,a,rfl,fr,M7,hj,HG⟩;revert aC;refine ba<|aX<|fE ((j:Int)<(q.2.2.length:Int)) (fun uR=> ?_) (fun uR=> ?_);refine bP<|ba<|cr 1<|aI ?_;obtain⟨u,hu⟩:=aM (l:=q.2.2) (i:=j) oM;refine ah 2 ?_;obtain⟨oE,QaC⟩:=rd_some (M7.ro hqr) (by rw[dg];omega);intro aC fr;refine bT (some 21) q.1 oE q.2.2.length 1 (j:Int) fr kR QaC oM oM ?_;intro aC fr;revert aC;refine bt (aN oE (j:Int) 1) _ (fx (M7.ro hqr) QaC hu)<|ah 2<|ay<|ln u ve (fun HI=> ?_) (fun HI=> ?_);refine xh<|cG<|ah 1<|cZ ((j:Int)+1)<|ah 1<|ay ?_;intro aC fr;exact⟨q.2.2.length-(j+1),oM,j+1,(j:Int),rfl,fr.kp [1,2,3,4,8,9],M7,oM,O8.XS hu HI⟩;refine bP<|cG<|ah 1<|cZ ((j:Int)+1)<|ah 1<|ay ?_;intro aC fr;exact⟨q.2.2.length-(j+1),oM,j+1,a,rfl,fr.kp [1,2,3,4,8,9],M7,oM,HG.Qcx hu HI⟩;refine eW 0<|eX<|aI ?_;obtain rfl:j=q.2.2.length:=oM;obtain⟨n,hn_⟩:∃n,n=eG q.2.2 ve:=⟨_,rfl⟩;have hd:x.au=[]∨(a=(n:Int)∧n<q.2.2.length):=hw.imp id (fun h=>by rw[hn_];exact HG.done (r4▸hX.nd f hf k) (r4▸h));refine ah 1<|ay<|ba<|aX<|cr 2 ?_;have lJ:=M7.cl (Mem.dY _ 2 1);intro aC fr;refine fk (fun n_ a_ w_=>∃(i:Nat) (us:af) (Aj:ar) (cj:Nat),n_=x.au.length-i∧Fr a_ 67 [(3,vS (sM vg) m m),(4,pT b1 0),(8,vI a),(10,vS Aj us.length cj),(11,nV i)]∧Mem (yZ X z oA oc vg m bC) w w_ [oN X z oA oc,mZ X z,mM z oA oc,.row 2 1 (sM vg) m m (ints bC),.aB b1 49 (xV x),.row 2 1 Aj us.length cj (ints us)]∧(i≤x.au.length)∧(us=(x.au.take i).map (tM a.toNat bC))) (n:=_) ⟨0,[],none,0,rfl,fr.kp [3,4,8,10,11],lJ,Nat.zero_le _,rfl⟩ ?_;clear fr aC lJ;rintro n aC w25 ⟨i,us,Aj,cj,rfl,fr,eu,bI,xW⟩;revert aC;refine ba<|aI<|ah 2<|bt (aZ b1) _ (ae (eu.get 4 rfl) rfl)<|ah 2<|ay<|fE ((i:Int)<(x.au.length:Int)) (fun HB=> ?_) (fun HB=> ?_);refine bP<|ba<|cr 3<|cG ?_;obtain⟨p,hp⟩:=aM (l:=x.au) (i:=i) oM;have jD:=List.mem_of_getElem? hp;obtain⟨hp1,hp2,l8,hp4⟩:=Qcz HN jD r4 (hd.resolve_left (fun e=>by rw[e]at hp;cases hp));refine ah 3<|bt (aZ b1) _ (ae (eu.get 4 rfl) rfl)<|ah 1 ?_;obtain⟨QfZ,QaD⟩:=bw (eu.ro (xG.au hx)) (cs:=p.cells) (i:=i) (by simp[hp]);intro aC fr;refine bT (some 38) x.pA QfZ x.au.length 2 (i:Int) fr kR QaD oM oM ?_;intro aC fr;revert aC;refine ah 1<|bt ((aN QfZ (i:Int) 2).add 1) _ (aQ (eu.ro (xG.au hx)) QaD (i:=i) (cs:=p.cells) (by simp[hp]) 1 _ rfl)<|ah 1 ?_;obtain⟨wJ,we⟩:=rd_some (eu.ro (xG.sf hx hp)) (by rw[dg];omega);intro aC fr;refine bT (some 42) p.A wJ p.args.length 1 a fr kR we oM oM ?_;intro aC fr;revert aC;refine bt (aN wJ (a) 1) _ (dZ (eu.ro (xG.sf hx hp)) we oM oM)<|da [3,4,8,11,33,34,43]<|ej (h0:=oM) (h1:=oM) (aZ vg) m 1 (p.args.getD a.toNat 0)<|bt (aN (aZ vg) (p.args.getD a.toNat 0) 1) _ (dZ (aD (eu.get 3 rfl)) rfl oM oM) ?_;intro aC fr;refine nX 46 39 1 #[(0,.tmp 45)] 39 fr (e:=2) (size:=1) (zs:=[vI 0]) (vs:=[(0,vI (tM a.toNat bC p))]) (cs:=[vI (tM a.toNat bC p)]) eu ?_;intro b42 w43 hb42 _ Ap _ aC ea fr;clear ea;replace Ap:=Ap.nf;refine Xc 47 (.tmp 33) (.tmp 46) 39 39 fr (e:=2) (size:=1) (bytes:=8) (z:=(vI 0)) (A:=Aj) (B:=(sM b42)) (n:=us.length) (cap:=cj) (m:=1) (cap':=1) (xs:=(ints us)) (news:=[vI (tM a.toNat bC p)]) Ap 5 rfl (aD (Ap.get 6 rfl)) rfl (by simp[Value.oneCell']) (by rw[xW,List.length_map,List.length_take];omega) (by rw[xW,List.length_map,List.length_take];simp only[maxLen];omega) ((us++[tM a.toNat bC p]).length) (ints (us++[tM a.toNat bC p])) (by rw[List.length_append];rfl) (by rw[fG];rfl) ?_;intro A49 c50 w51 Av _ aC ea fr;clear ea;replace Av:=Av.nf;have pG:=Av.od [5,5,5,5,5,5] 6;revert aC;refine ah 1<|ay<|cG<|ah 1<|cZ ((i:Int)+1)<|ah 1<|ay ?_;intro aC fr;exact⟨x.au.length-(i+1),oM,i+1,us++[tM a.toNat bC p],A49,c50,rfl,fr.kp [3,4,8,10,11],(pG.tk 6),oM,by rw[xW,kQ,hp,List.map_append];rfl⟩;refine eW 2<|eX<|aI ?_;obtain rfl:i=x.au.length:=oM;rw[List.take_length]at xW;have hul:us.length=x.au.length:=by rw[xW,List.length_map]
 refine ah 1<|ay<|cr 4 ?_;have rL:=bd [oN X z oA oc,mZ X z,mM z oA oc,.row 2 1 (sM vg) m m (ints (qk x.au a.toNat bC 0)),.aB b1 49 (xV x),.row 2 1 Aj us.length cj (ints us)] (eu.cast (by rw[IG]));intro aC fr;refine fk (fun n_ a_ w_=>∃(j:Nat),n_=x.au.length-j∧Fr a_ 67 [(3,vS (sM vg) m m),(4,pT b1 0),(10,vS Aj us.length cj),(12,nV j)]∧Mem (yZ X z oA oc vg m bC) w w_ [oN X z oA oc,mZ X z,mM z oA oc,.row 2 1 (sM vg) m m (ints (qk x.au a.toNat bC j)),.aB b1 49 (xV x),.row 2 1 Aj us.length cj (ints us)]∧(j≤x.au.length)) (n:=_) ⟨0,rfl,fr.kp [3,4,10,12],rL,Nat.zero_le _⟩ ?_;clear fr aC rL;rintro n aC w61 ⟨j,rfl,fr,nJ,hj⟩;revert aC;refine ba<|aI<|ah 2<|bt (aZ b1) _ (ae (nJ.get 4 rfl) rfl)<|ah 2<|ay<|fE ((j:Int)<(x.au.length:Int)) (fun c65=> ?_) (fun c65=> ?_);refine bP<|ba<|cr 5 ?_;obtain⟨p,hp⟩:=aM (l:=x.au) (i:=j) oM;have jD:=List.mem_of_getElem? hp;obtain⟨hd0,hd1⟩:=HN.Qid p jD;obtain⟨gn,QaE⟩:=bw (nJ.ro (xG.au hx)) (cs:=p.cells) (i:=j) (by simp[hp]);obtain⟨g68,rfl⟩:=df (nJ.get 5 rfl) oM;refine da [3,4,10,12] ?_;intro aC fr;refine wB 11 (bo [eS (sM vg) m m,eR b1 0,eS x.pA x.au.length x.pc,.aU (nV j),eA gn (j:Int) 2,eA gn (j:Int) 2,eI p.dst,eS (sM g68) us.length cj,.aU (nV j),eA (aZ g68) (j:Int) 1,eI (tM a.toNat bC p)]) fr (kV (pF lz dP dP (dL (aZ b1) _ fun w_ hK=>(ae ((nJ.aw hK).get 4 rfl) rfl)) dP (Hw x.pA gn x.au.length 2 (j:Int) QaE) dP (dL (aN gn (j:Int) 2) _ fun w_ hK=>(aQ ((nJ.aw hK).ro (xG.au hx)) QaE (i:=j) (cs:=p.cells) (by simp[hp]) 0 _ rfl)) dP) dP (dI (h0:=oM) (h1:=oM) (aZ g68) us.length 1 (j:Int)) (dL (aN (aZ g68) (j:Int) 1) _ fun w_ hK=>(fx (aD ((nJ.aw hK).get 5 rfl)) rfl (by rw[xW,List.getElem?_map,hp];rfl)))) ?_;intro aC w73 vs hK hv fr;revert aC;refine bX [(3,vS (sM vg) m m),(4,pT b1 0),(10,vS (sM g68) us.length cj),(12,nV j),(55,vS (sM vg) m m),(61,vI p.dst),(65,vI (tM a.toNat bC p))] ?_;have KH:=nJ.aw hK;clear hK hv fr aC nJ;clear vs;refine ej (aZ vg) m 1 p.dst<|yc KH 3 (aN (aZ vg) (p.dst) 1) ((p.dst).toNat*1) (vI (tM a.toNat bC p)) rfl rfl oM fun w75 sw=> ?_
 replace sw:=sw.nf;refine ay<|cG<|ah 1<|cZ ((j:Int)+1)<|ah 1<|ay ?_;have e_:(ints (qk x.au a.toNat bC j)).set ((p.dst).toNat*1) (vI (tM a.toNat bC p))=ints (qk x.au a.toNat bC (j+1)):=by rw[Nat.mul_one,←ints_set,IE hp]
 intro aC fr;exact⟨x.au.length-(j+1),oM,j+1,rfl,fr.kp [3,4,10,12],((sw.tk 6).cast (by rw[←e_];rfl)),oM⟩;refine eW 4<|eX<|UY ?_;obtain rfl:j=x.au.length:=oM;have W7:gr x.au a.toNat bC=gr x.au (eG q.2.2 ve) bC:=by
            rcases hd with h_|⟨h_,_⟩
            · rw[h_];rfl
            · rw[h_,hn_,Int.toNat_natCast]
 exact⟨rfl,(nJ.tk 4).cast (by rw[Mu,W7];rfl)⟩
end Go.Proofs.YtejbeeaomokjpaaGreat
