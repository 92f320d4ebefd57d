/-
  Texts of the proof, part 11.
-/
import Derived.Test.YtejbeeaomokjpaaZc10
import Derived.Shelf.SlSortCmp.Whole1
set_option maxRecDepth 10000
namespace Go.Mor
open Go.RowKit Go.Sort Go.Proofs
def Gw(w w':World):Prop:=∃q os,w'=grow (w.drewN q) os
theorem Gw.refl(w:World):Gw w w:=⟨0,#[],by rw[grow_empty];rfl⟩
theorem Gw.drew{w w':World}(h:Gw w w'):Gw w w'.drew:=by
 obtain⟨q,os,rfl⟩:=h;exact⟨q+1,os,rfl⟩
theorem Gw.kp{w w':World}(h:Gw w w'):Mem ba w w' []:=by
 obtain⟨q,os,rfl⟩:=h;refine⟨rfl,rfl,rfl,by simp[grow,World.drewN],fun k hk _=> ?_,sI,List.Pairwise.nil⟩;show(w.heap++os)[k]?=w.heap[k]?;rw[Array.getElem?_append_left hk]
end Go.Mor
namespace Go.Mor
open Go.RowKit Go.Sort Go.Proofs
theorem tm{α:Type}[Inhabited α](enc:α→Value)(d:Array α)(cur:Array Value)(h:d.size≤cur.size):((putCells enc 0 d cur).toList).take d.size=d.toList.map enc:=by
 refine List.ext_getElem? fun i=> ?_
 by_cases hi:i<d.size
 ·have h2:i<cur.size:=oM;have e1:(putCells enc 0 d cur).toList[i]?=some (enc d[i]!):=by unfold putCells;rw[Array.getElem?_toList,Array.getElem?_mapIdx,Array.getElem?_eq_getElem h2];simp[hi]
  rw[List.getElem?_take_of_lt hi,e1,List.getElem?_map,Array.getElem?_toList,Array.getElem?_eq_getElem hi];simp[hi]
 ·rw[List.getElem?_eq_none (by rw[List.length_take];omega),List.getElem?_eq_none (by simp;omega)]
theorem BE{α:Type}[Inhabited α](enc:α→Value){w:World}{e n c g:Nat}{xs:aW}(h:(bo.row e 1 (some (aZ g)) n c xs).holds w)(m:Nat){dk:Array α}(hd:dk.size=n)(os:Array Obj):Mem (bo.row e 1 (some (aZ g)) n c xs).fp w (sortWorld enc w g 0 m dk os) [.row e 1 (some (aZ g)) n c (dk.toList.map enc)]:=by
 obtain⟨hl,h2⟩:=h;rcases h2 with⟨h2,_⟩|⟨g',cap,cur,hv,hb,hg,Ps,T6,Cn,ht⟩
 ·cases h2
 injection hv with hv _ hc;injection hv with hv;injection hv with hv;subst hv hc;have fm:g<w.heap.size:=mI hg;have Jg:(sortWorld enc w g 0 m dk os).heap=(w.heap.modify g (onCells (putCells enc 0 dk)))++os:=rfl;refine⟨rfl,rfl,rfl,?_,fun k hk cU=> ?_,?_,List.pairwise_singleton _ _⟩
 ·rw[Jg];simp
 ·rw[Jg,Array.getElem?_append_left (by simpa using hk),Array.getElem?_modify,if_neg];intro e1;subst e1;exact cU ⟨(aZ g),rfl,rfl⟩
 ·simp only[List.mem_singleton];rintro _ rfl;refine⟨⟨by simp[hd],.inr ⟨g,c,putCells enc 0 dk cur,rfl,hb,?_,Ps,T6,?_,?_⟩⟩,fun k hk=> .inl hk⟩
  ·rw[Jg,Array.getElem?_append_left (by simpa using fm),Array.getElem?_modify,if_pos rfl,hg];rfl
  ·simpa[putCells]using Cn
  ·rw[Nat.mul_one,←hd];refine tm enc dk cur ?_;rw[Nat.mul_one]at Cn;omega
theorem Ga{α:Type}[Inhabited α](enc:α→Value){w:World}{e n c g:Nat}{d:Array α}(h:(bo.row e 1 (some (aZ g)) n c (d.toList.map enc)).holds w):Holds enc w g 0 d:=by
 intro j hj;obtain⟨ad,ha,hc⟩:=aB h j (enc d[j]!) (by rw[List.getElem?_map,Array.getElem?_toList,Array.getElem?_eq_getElem hj];simp[hj]);injection ha with ha;subst ha;rw[yq]at hc;have hf:=mK h j;rw[yq]at hf;exact⟨by rw[Nat.zero_add];exact hc,by rw[Nat.zero_add];exact hf⟩
def jY(n:Nat)(key:Nat→Int)(il:List Nat):Prop:=il.Perm (List.range n)∧il.Pairwise (fun i j=>key i≤key j)
def rJ(nl fl:ar)(i:Nat):Int:=nl.getD (fl.getD i 0).toNat 0
theorem jY.rising{n:Nat}{key:Nat→Int}{il:List Nat}(h:jY n key il)(hr:∀i j,i<j→j<n→key i<key j):il=List.range n:=by
 have key_inj:∀i j,i<n→j<n→key i≤key j→key j≤key i→i=j:=by
  intro i j hi hj h1 h2;rcases Nat.lt_trichotomy i j with h3|h3|h3
  ·have:=hr i j h3 hj;omega
  ·exact h3
  ·have:=hr j i h3 hi;omega
 refine List.Perm.eq_of_pairwise (le:=fun i j=>key i≤key j) ?_ h.2 ?_ h.1
 ·intro a b ha hb h1 h2;have nQ:=List.mem_range.1 (h.1.mem_iff.1 ha);have Co:=List.mem_range.1 hb;exact key_inj a b nQ Co h1 h2
 ·rw[List.pairwise_iff_getElem];intro i j hi hj Mu;simp only[List.length_range]at hi hj;simp only[List.getElem_range];have:=hr i j Mu hj;omega
def gD(l:List Nat):ar:=l.map (fun i:Nat=>(i:Int))
theorem Gb{l:List Nat}{j i:Nat}(h:l[j]?=some i):(gD l)[j]?=some (i:Int):=by simp[gD,h]
theorem Gc{f:Nat→Int}{l:List Nat}{j i:Nat}(h:l[j]?=some i):(l.take (j+1)).map f=(l.take j).map f++[f i]:=by
 obtain⟨hj,he⟩:=List.getElem?_eq_some_iff.1 h;rw[List.take_succ_eq_append_getElem hj,List.map_append,he];rfl
def s7(n j:Nat):ar:=gD (List.range j)++List.replicate (n-j) 0
theorem Dn(n:Nat):ints (s7 n 0)=List.replicate n (vI 0):=by simp[s7,gD,ints]
theorem Gd(n:Nat):s7 n n=gD (List.range n):=by simp[s7]
theorem Dp{n j:Nat}(h:j<n):(ints (s7 n j)).set j (vI (j:Int))=ints (s7 n (j+1)):=by
 unfold s7 gD ints;obtain⟨d,hd⟩:=Nat.le.dest h;rw[show n-j=d+1 by omega,show n-(j+1)=d by omega,List.replicate_succ,List.range_succ];simp
def zh(n:Nat)(i:Fin n):Value:=vI (i.val:Int)
def Rg(nl fl:ar)(n:Nat)(i j:Fin n):Int:=rJ nl fl i.val-rJ nl fl j.val
theorem Nx(nl fl:ar)(n:Nat):SWO (ltOf (Rg nl fl n)):=by
 have e:∀x y,ltOf (Rg nl fl n) x y=decide (rJ nl fl x.val<rJ nl fl y.val):=by intro x y;unfold ltOf Rg;exact decide_eq_decide.2 oM
 refine⟨fun x=> ?_,fun x y z h1 h2=> ?_,fun x y z h1 h2=> ?_⟩
 ·rw[e];simp
 ·rw[e]at*;simp at*;omega
 ·rw[e]at*;simp at*;omega
theorem Dq(n:Nat):((Array.ofFn (n:=n) id).toList).map (zh n)=ints (gD (List.range n)):=by
 refine List.ext_getElem? fun i=> ?_
 by_cases hi:i<n
 ·simp[ints,gD,zh,hi]
 ·simp[ints,gD,zh,hi]
theorem Dr{nl fl:ar}{n:Nat}[Inhabited (Fin n)]{d':Array (Fin n)}(hp:PermIn 0 (Array.ofFn (n:=n) id).size (Array.ofFn (n:=n) id) d')(hs:SortedIn (ltOf (Rg nl fl n)) 0 (Array.ofFn (n:=n) id).size d'):jY n (rJ nl fl) (d'.toList.map (·.val))∧d'.toList.map (zh n)=ints (gD (d'.toList.map (·.val))):=by
 obtain⟨h1,_,h3⟩:=hp;have hn:(Array.ofFn (n:=n) id).size=n:=sI;have pD:d'.size=n:=by rw[h1,hn]
 refine⟨⟨?_,?_⟩,?_⟩
 ·have e1:d'.extract 0 (Array.ofFn (n:=n) id).size=d':=by rw[←h1];exact Array.extract_size
  rw[e1,Array.extract_size]at h3;have:=h3.map (fun i:Fin n=>i.val);refine this.trans ?_;have e2:((Array.ofFn (n:=n) id).toList).map (fun i:Fin n=>i.val)=List.range n:=by
   refine List.ext_getElem? fun i=> ?_
   by_cases hi:i<n<;>simp[hi]
  rw[e2]
 ·rw[List.pairwise_iff_getElem];intro i j hi hj Mu;simp only[List.length_map,Array.length_toList]at hi hj;have:=hs i j (Nat.zero_le _) Mu (by rw[hn,←pD];exact hj);rw[getElem!_pos d' j oM,getElem!_pos d' i oM]at this;unfold ltOf Rg at this;simp only[decide_eq_false_iff_not]at this;simp only[List.getElem_map,Array.getElem_toList];omega
 ·unfold ints gD;rw[List.map_map,List.map_map];rfl
end Go.Mor
namespace Go.Mor
open Go.RowKit
def qF{α β:Type}(R:α→β→Prop)(l:List α)(m:List β):Prop:=l.length=m.length∧∀(i:Nat) (x:α) (y:β),l[i]?=some x→m[i]?=some y→R x y
section
variable {α β : Type} {R : α → β → Prop} {l : List α} {m : List β}
theorem qF.nil:qF R [] []:=⟨rfl,fun i x y h=>by simp at h⟩
theorem qF.snoc(h:qF R l m){x:α}{y:β}(hr:R x y):qF R (l++[x]) (m++[y]):=by
 obtain⟨hl,h⟩:=h;refine⟨by simp[hl],fun i a b ha hb=> ?_⟩;rcases Nat.lt_trichotomy i l.length with h1|h1|h1
 ·rw[List.getElem?_append_left h1]at ha;rw[List.getElem?_append_left oM]at hb;exact h i a b ha hb
 ·subst h1;rw[List.getElem?_append_right (Nat.le_refl _),Nat.sub_self]at ha;rw[List.getElem?_append_right oM,hl,Nat.sub_self]at hb;simp at ha hb;subst ha hb;exact hr
 ·rw[List.getElem?_eq_none (by simp;omega)]at ha;cases ha
theorem qF.next{k:Nat}(h:qF R (l.take k) m){x:α}(hx:l[k]?=some x){y:β}(hr:R x y):qF R (l.take (k+1)) (m++[y]):=by
 obtain⟨hk,he⟩:=List.getElem?_eq_some_iff.1 hx;rw[List.take_succ_eq_append_getElem hk,he];exact h.snoc hr
end
def rK(gl:List Bool)(k:Nat):Nat:=((gl.take k).filter (fun b=> !b)).length
def qG(gl:List Bool)(k:Nat):ar:=(List.range gl.length).map (fun i=>if i<k∧gl.getD i true=false then(rK gl i:Int)else 0)
theorem EG(gl:List Bool)(k:Nat):rK gl k≤k:=by
 unfold rK;exact Nat.le_trans (List.length_filter_le _ _) (by simp;omega)
theorem Jh{gl:List Bool}{k:Nat}(h:gl[k]?=some false):rK gl (k+1)=rK gl k+1:=by
 obtain⟨hk,he⟩:=List.getElem?_eq_some_iff.1 h;unfold rK;rw[List.take_succ_eq_append_getElem hk,List.filter_append,he];simp
theorem Ny{gl:List Bool}{k:Nat}(h:gl[k]?=some true):rK gl (k+1)=rK gl k:=by
 obtain⟨hk,he⟩:=List.getElem?_eq_some_iff.1 h;unfold rK;rw[List.take_succ_eq_append_getElem hk,List.filter_append,he];simp
theorem BF(gl:List Bool)(k:Nat):(qG gl k).length=gl.length:=by simp[qG]
theorem Ge(gl:List Bool):ints (qG gl 0)=List.replicate gl.length (vI 0):=by
 unfold qG ints;simp only[Nat.not_lt_zero,false_and,if_false,List.map_map];refine List.ext_getElem? fun i=> ?_
 by_cases hi:i<gl.length
 ·simp[hi]
 ·simp[hi]
theorem Ji{gl:List Bool}{k:Nat}(h:gl[k]?=some false):(ints (qG gl k)).set k (vI (rK gl k:Int))=ints (qG gl (k+1)):=by
 obtain⟨hk,he⟩:=List.getElem?_eq_some_iff.1 h;unfold qG ints;refine List.ext_getElem? fun i=> ?_
 by_cases hi:i<gl.length
 ·by_cases e:k=i
  ·subst e;rw[List.getElem?_set_self (by simpa using hk)];simp[hk,List.getD,he]
  ·rw[List.getElem?_set_ne e];simp only[List.getElem?_map,List.getElem?_range hi,Option.map_some];have:(i<k∧gl.getD i true=false)↔(i<k+1∧gl.getD i true=false):=and_congr oM Iff.rfl;simp only[this]
 ·rw[List.getElem?_eq_none (by simp;omega),List.getElem?_eq_none (by simp;omega)]
theorem Nz{gl:List Bool}{k:Nat}(h:gl[k]?=some true):qG gl k=qG gl (k+1):=by
 obtain⟨hk,he⟩:=List.getElem?_eq_some_iff.1 h;unfold qG;refine List.map_congr_left fun i _=> ?_
 have:(i<k∧gl.getD i true=false)↔(i<k+1∧gl.getD i true=false):=by
  by_cases e:i=k
  ·subst e;simp[List.getD,h]
  ·exact and_congr oM Iff.rfl
 simp only[this]
def ve(gl:List Bool):ar:=qG gl gl.length
theorem BG{gl:List Bool}{k i:Nat}(hi:i<gl.length):(qG gl k).getD i 0=if i<k∧gl.getD i true=false then(rK gl i:Int)else 0:=by
 unfold qG;rw[List.getD_eq_getElem?_getD,List.getElem?_map,List.getElem?_range hi];rfl
theorem Jj(gl:List Bool)(k:Nat)(hl:gl.length≤1000000):0≤(ve gl).getD k 0∧(ve gl).getD k 0≤1000000:=by
 unfold ve;by_cases hk:k<gl.length
 ·have:=EG gl k;rw[BG hk];by_cases hc:k<gl.length∧gl.getD k true=false
  ·rw[if_pos hc];omega
  ·rw[if_neg hc];omega
 ·rw[List.getD_eq_getElem?_getD,List.getElem?_eq_none (by rw[BF];omega)];simp
def lb(ks:List gO):List Bool:=ks.map (fun x=>x.gone)
def toA(nl:ar)(e a:Int):Int:=if e=0∨e=1 then nl.getD a.toNat 0 else if e=3 then a else 0
def toBb(nl:ar)(e b:Int):Int:=if e=1 then nl.getD b.toNat 0 else 0
def ZG(nl:ar)(p:vb)(q:bI):Prop:=q.dst=p.dst∧∃il,jY p.from_.length (rJ nl p.from_) il∧q.args=il.map (fun i=>p.args.getD i 0)
structure iM(nl:ar)(x:gO)(y:ay):Prop where
 ah:qF (ZG nl) x.ah y.ah
 insts:y.insts.map aO.e0=x.insts
 e:y.e=x.e
 v:y.v=x.v
 a:y.a=toA nl x.e x.a
 b:y.b=toBb nl x.e x.b
def pP(ks:List gO):List gO:=ks.filter (fun x=> !x.gone)
def Yi(ks:List gO)(fs:List ay):Prop:=qF (iM (ve (lb ks))) (pP ks) fs
structure Rh(n:Int)(x:gO):Prop where
 lp:x.ah.length≤20000
 ah:∀p,p∈x.ah→0<p.from_.length∧p.from_.length≤20000∧p.args.length=p.from_.length∧∀s,s∈p.from_→0≤s∧s<n
 e0:x.e=0→0≤x.a∧x.a<n
 e1:x.e=1→(0≤x.a∧x.a<n)∧0≤x.b∧x.b<n
theorem Jk{ks:List gO}{k:Nat}{x:gO}(hx:ks[k]?=some x)(h:x.gone=false):pP (ks.take (k+1))=pP (ks.take k)++[x]:=by
 obtain⟨hk,he⟩:=List.getElem?_eq_some_iff.1 hx;unfold pP;rw[List.take_succ_eq_append_getElem hk,List.filter_append,he];simp[h]
theorem NB{ks:List gO}{k:Nat}{x:gO}(hx:ks[k]?=some x)(h:x.gone=true):pP (ks.take (k+1))=pP (ks.take k):=by
 obtain⟨hk,he⟩:=List.getElem?_eq_some_iff.1 hx;unfold pP;rw[List.take_succ_eq_append_getElem hk,List.filter_append,he];simp[h]
section
variable {w : World} {A : Option Addr} {c : Nat} {ad : Addr} {k : Nat} {gs : List bz} {x : bz}
theorem tW(h:(jh A c gs).holds w)(hA:A=some ad)(hx:gs[k]?=some x):w.cell? (ad.add (k*1))=some (vP (aZ x.g)):=bB (aB h) hA (by unfold jA;rw[List.getElem?_map,hx];rfl)
theorem BH(h:(bo.pk (gs.map gB)).holds w)(hx:gs[k]?=some x){r:bo}(hr:r∈gL x):r.holds w:=oE (oE h (List.mem_map.2 ⟨x,List.mem_of_getElem? hx,rfl⟩):(gB x).holds w) hr
theorem ng(h:(bo.pk (gs.map gB)).holds w)(hx:gs[k]?=some x){j:Nat}{v:Value}(hj:(gV x)[j]?=some v):w.cell? (ak x.g j)=some v:=ae (BH h hx (r:= .au x.g 65 (gV x)) sI) hj
theorem NC(hx:gs[k]?=some x):(lb (gs.map bz.k))[k]?=some x.gone:=by
 unfold lb;rw[List.getElem?_map,List.getElem?_map,hx];rfl
theorem xP(ks:List gO):(lb ks).length=ks.length:=by simp[lb]
end
end Go.Mor
namespace Go.Mor
open Go.RowKit
def cI.f(p:cI):bI:=⟨p.dst,none,0,p.args⟩
def bz.f(x:bz):ay:=⟨none,0,x.ah.map cI.f,none,0,x.insts.map aO.e0,x.e,x.v,x.a,x.b⟩
section
variable {fs : List ay} {gs : List bz} {nm : ByteArray} {pa va : Int}
theorem UJ(h:gs.map bz.k=lN fs):gs.map bz.f=fs.map ay.e0:=by
 have hl:gs.length=fs.length:=by have:=congrArg List.length h;rwa [List.length_map,jR]at this
 refine List.ext_getElem? fun i=> ?_
 rw[List.getElem?_map,List.getElem?_map];by_cases hi:i<fs.length
 ·obtain⟨x,hx⟩:=bu (l:=fs) hi;obtain⟨y,hy⟩:=bu (l:=gs) (i:=i) oM;have h1:=congrArg (fun l:List gO=>l[i]?) h;simp only[List.getElem?_map,hy,Option.map_some,mA hx]at h1;injection h1 with h1;rw[hx,hy,Option.map_some,Option.map_some];congr 1;unfold bz.f ay.e0;have e1:y.ah.map cI.k=x.ah.map (oG (bS (af fs) (i:Int))):=congrArg gO.ah h1;have e2:y.insts.map aO.e0=x.insts.map aO.e0:=congrArg gO.insts h1;have e3:y.e=x.e:=congrArg gO.e h1;have e4:y.v=x.v:=congrArg gO.v h1;have e5:y.a=x.a:=congrArg gO.a h1;have e6:y.b=x.b:=congrArg gO.b h1;have e7:y.ah.map cI.f=x.ah.map bI.e0:=by have h2:=congrArg (List.map (fun p:vb=>(⟨p.dst,none,0,p.args⟩:bI))) e1;rw[List.map_map,List.map_map]at h2;exact h2
  rw[e2,e3,e4,e5,e6,e7]
 ·rw[List.getElem?_eq_none oM,List.getElem?_eq_none oM];rfl
theorem BI(h:gs.map bz.k=lN fs):ec fs (gs.map bz.f):=by
 unfold ec;rw[UJ h,List.map_map];refine List.map_congr_left fun x _=> ?_
 show x.e0=x.e0.e0;unfold ay.e0;simp only[List.map_map];rfl
end
section
variable {fs gs : List ay}
theorem Rd.alike(h:ec fs gs){v:Int}(hv:Rd fs v):Rd gs v:=by
 have key:∀x,x∈fs→∃y,y∈gs∧x.e0=y.e0:=by intro x hx;obtain⟨k,hk⟩:=List.mem_iff_getElem?.1 hx;obtain⟨y,hy,e⟩:=oB h hk;exact⟨y,List.mem_of_getElem? hy,e⟩
 induction hv with
 | @inst x i v hx hi hp hv h0=>
  obtain⟨y,hy,e⟩:=key x hx;obtain⟨j,hj⟩:=List.mem_iff_getElem?.1 hi;obtain⟨q,hq,e1,e2,e3,e4,e5⟩:=rE e hj;exact .inst hy (List.mem_of_getElem? hq) (e1▸hp) (e5▸hv) h0
 | @fin x hx he h0=>
  obtain⟨y,hy,e⟩:=key x hx;rw[F0 e];exact .fin hy (by rw[←I3 e];exact he) (by rw[←F0 e];exact h0)
 | @pK x p v hx hi hd hv h0 ih=>
  obtain⟨y,hy,e⟩:=key x hx;obtain⟨j,hj⟩:=List.mem_iff_getElem?.1 hi;obtain⟨q,hq,e1,e2⟩:=Df e hj;exact .pK hy (List.mem_of_getElem? hq) (e1▸ih) (e2▸hv) h0
 | @pure x i v hx hi hp hd hv h0 ih=>
  obtain⟨y,hy,e⟩:=key x hx;obtain⟨j,hj⟩:=List.mem_iff_getElem?.1 hi;obtain⟨q,hq,e1,e2,e3,e4,e5⟩:=rE e hj;exact .pure hy (List.mem_of_getElem? hq) (e1▸hp) (e2▸ih) (e5▸hv) h0
theorem Ds(h:ec fs gs):ec (eY fs) (eY gs):=by
 have hr:∀v,Rd fs v↔Rd gs v:=fun v=>⟨Rd.alike h,Rd.alike h.symm⟩
 have e:∀x:ay,(gS fs x).e0=gS gs x.e0:=by
  intro x;unfold gS ay.e0;simp only[ay.mk.injEq,true_and,and_true];refine⟨?_,?_⟩
  ·rw[List.filter_map];congr 1;refine List.filter_congr fun p _=> ?_
   unfold sX;exact decide_eq_decide.2 (hr _)
  ·rw[List.filter_map];congr 1;refine List.filter_congr fun p _=> ?_
   unfold lK;exact decide_eq_decide.2 (by show¬(cP p.op∧¬Rd fs p.dst)↔¬(cP p.op∧¬Rd gs p.dst);rw[hr])
 have e':∀x:ay,(gS gs x).e0=gS gs x.e0:=by
  intro x;unfold gS ay.e0;simp only[ay.mk.injEq,true_and,and_true];refine⟨?_,?_⟩
  ·rw[List.filter_map];rfl
  ·rw[List.filter_map];rfl
 unfold ec eY;rw[List.map_map,List.map_map];have h1:fs.map (ay.e0∘gS fs)=(fs.map ay.e0).map (gS gs):=by rw[List.map_map];exact List.map_congr_left fun x _=>e x
 have h2:gs.map (ay.e0∘gS gs)=(gs.map ay.e0).map (gS gs):=by rw[List.map_map];exact List.map_congr_left fun x _=>e' x
 rw[h1,h2,h]
end
theorem vf{α β:Type}{f:α→List β}:∀{l:List α},(l.flatMap f).Nodup→∀{i j:Nat} {x y:α} {v:β},l[i]?=some x→l[j]?=some y→v∈f x→v∈f y→i=j
 |[],_,i,_,_,_,_,hi,_,_,_=>by simp at hi
 |a::l,h,i,j,x,y,v,hi,hj,hx,hy=>by
  rw[List.flatMap_cons,List.nodup_append]at h;obtain⟨_,h2,h3⟩:=h;cases i with
  |zero=>
   cases j with
   |zero=>rfl
   |succ j=>
    simp at hi hj;subst hi;exact absurd rfl (h3 v hx v (List.mem_flatMap.2 ⟨y,List.mem_of_getElem? hj,hy⟩))
  |succ i=>
   cases j with
   |zero=>
    simp at hi hj;subst hj;exact absurd rfl (h3 v hy v (List.mem_flatMap.2 ⟨x,List.mem_of_getElem? hi,hx⟩))
   |succ j=>
    simp at hi hj;rw[vf h2 hi hj hx hy]
theorem rL{α β:Type}{f:α→List β}:∀{l:List α} {x:α},x∈l→(f x).Sublist (l.flatMap f)
 |a::l,x,h=>by
  rw[List.flatMap_cons];rcases List.mem_cons.1 h with rfl|h
  ·exact List.sublist_append_left _ _
  ·exact(rL h).trans (List.sublist_append_right _ _)
theorem vg{α β:Type}{f:α→β}{l:List α}(h:(l.map f).Nodup){x y:α}(hx:x∈l)(hy:y∈l)(e:f x=f y):x=y:=by
 obtain⟨i,hi⟩:=List.mem_iff_getElem?.1 hx;obtain⟨j,hj⟩:=List.mem_iff_getElem?.1 hy;have hp:=List.pairwise_map.1 h;by_cases Mu:i=j
 ·subst Mu;rw[hi]at hj;injection hj
 ·exact absurd e (kQ (R:=fun a b=>f a≠f b) (fun _ _ h e=>h e.symm) hp hi hj Mu)
inductive BJ(fs:List ay)(v:Int):ar→Prop
 |pK {x:ay} {p:bI}:x∈fs→p∈x.ah→p.dst=v→BJ fs v p.args
 |inst {x:ay} {i:aO}:x∈fs→i∈x.insts→cP i.op→i.dst=v→BJ fs v i.args
theorem BJ.uniq{fs:List ay}{pa va:Int}(h:ey pa va (bF fs)){v:Int}{l m:ar}(h1:BJ fs v l)(h2:BJ fs v m):l=m:=by
 have hn:=h.2;rw[pf]at hn;have key:∀{x y:ay},x∈fs→y∈fs→v∈nu x→v∈nu y→x=y:=by intro x y hx hy h3 h4;obtain⟨i,hi⟩:=List.mem_iff_getElem?.1 hx;obtain⟨j,hj⟩:=List.mem_iff_getElem?.1 hy;have:=vf hn hi hj h3 h4;subst this;rw[hi]at hj;injection hj
 have hb:∀x,x∈fs→(nu x).Nodup:=by intro x hx;exact hn.sublist (rL hx)
 have mp:∀{x:ay} {p:bI},p∈x.ah→p.dst∈nu x:=fun hp=>List.mem_append_left _ (List.mem_map.2 ⟨_,hp,rfl⟩)
 have mi:∀{x:ay} {i:aO},i∈x.insts→cP i.op→i.dst∈nu x:=fun hi hp=>List.mem_append_right _ (List.mem_map.2 ⟨_,List.mem_filter.2 ⟨hi,by simp[iQ hp]⟩,rfl⟩)
 cases h1 with
 | @pK x p hx hp e=>
  cases h2 with
  | @pK y q hy hq e2=>
   have:=key hx hy (e▸mp hp) (e2▸mp hq);subst this;have h3:=(List.nodup_append.1 (hb x hx)).1;rw[vg h3 hp hq (e.trans e2.symm)]
  | @inst y q hy hq ND e2=>
   have:=key hx hy (e▸mp hp) (e2▸mi hq ND);subst this;have h3:=(List.nodup_append.1 (hb x hx)).2.2;exact absurd (e.trans e2.symm) (h3 p.dst (List.mem_map.2 ⟨p,hp,rfl⟩) q.dst (List.mem_map.2 ⟨q,List.mem_filter.2 ⟨hq,by simp[iQ ND]⟩,rfl⟩))
 | @inst x p hx hp NF e=>
  cases h2 with
  | @pK y q hy hq e2=>
   have:=key hx hy (e▸mi hp NF) (e2▸mp hq);subst this;have h3:=(List.nodup_append.1 (hb x hx)).2.2;exact absurd (e2.trans e.symm) (h3 q.dst (List.mem_map.2 ⟨q,hq,rfl⟩) p.dst (List.mem_map.2 ⟨p,List.mem_filter.2 ⟨hp,by simp[iQ NF]⟩,rfl⟩))
  | @inst y q hy hq ND e2=>
   have:=key hx hy (e▸mi hp NF) (e2▸mi hq ND);subst this;have h3:=(List.nodup_append.1 (hb x hx)).2.1;rw[vg h3 (List.mem_filter.2 ⟨hp,by simp[iQ NF]⟩) (List.mem_filter.2 ⟨hq,by simp[iQ ND]⟩) (e.trans e2.symm)]
abbrev tn:=av×Nat×ar
def Yj(e:tn):Value:=vS e.1 e.2.2.length e.2.1
def nL(fc:List tn):aW:=fc.map Yj
inductive qH(gs:List bz)(v:Int):tn→Prop
 |pK {x:bz} {p:cI}:x∈gs→p∈x.ah→p.dst=v→qH gs v (p.aA,p.ac,p.args)
 |inst {x:bz} {i:aO}:x∈gs→i∈x.insts→cP i.op→i.dst=v→qH gs v (i.A,i.c,i.args)
theorem qH.mk{gs:List bz}{v:Int}{e:tn}(h:qH gs v e):BJ (gs.map bz.f) v e.2.2:=by
 cases h with
 | @pK x p hx hp e=>exact .pK (p:=p.f) (List.mem_map.2 ⟨x,hx,rfl⟩) (List.mem_map.2 ⟨p,hp,rfl⟩) e
 | @inst x i hx hi hp e=>exact .inst (i:=i.e0) (List.mem_map.2 ⟨x,hx,rfl⟩) (List.mem_map.2 ⟨i,hi,rfl⟩) hp e
def NG(gs:List bz)(fc:List tn):Prop:=∀(v:Nat) (e:tn),fc[v]?=some e→e=(none,0,[])∨qH gs (v:Int) e
def LQ(gs:List bz)(fc:List tn)(v:Int):Prop:=∃e,fc[v.toNat]?=some e∧qH gs v e
section
variable {gs : List bz} {fc : List tn} {v u : Int} {e : tn}
theorem NG.zero(n:Nat):NG gs (List.replicate n (none,0,[])):=fun v e h=>by
 rw[List.getElem?_replicate]at h;split at h
 ·injection h with h;exact .inl h.symm
 ·cases h
theorem NG.set(h:NG gs fc)(h0:0≤v)(hg:qH gs v e):NG gs (fc.set v.toNat e):=by
 intro u e' hu;by_cases hq:v.toNat=u
 ·subst hq;have hl:v.toNat<fc.length:=by
   rcases Nat.lt_or_ge v.toNat fc.length with h|h
   ·exact h
   ·rw[List.getElem?_eq_none (by simpa using h)]at hu;cases hu
  rw[List.getElem?_set_self hl]at hu;injection hu with hu;subst hu;right;rw[Int.toNat_of_nonneg h0];exact hg
 ·rw[List.getElem?_set_ne hq]at hu;exact h u e' hu
theorem LQ.set(h:LQ gs fc u)(h0:0≤v)(hu0:0≤u)(hg:qH gs v e):LQ gs (fc.set v.toNat e) u:=by
 obtain⟨e',h1,h2⟩:=h;by_cases hq:v.toNat=u.toNat
 ·have:v=u:=oM;subst this;have hl:v.toNat<fc.length:=(List.getElem?_eq_some_iff.1 h1).1;exact⟨e,by rw[List.getElem?_set_self hl],hg⟩
 ·exact⟨e',by rw[List.getElem?_set_ne hq];exact h1,h2⟩
theorem LQ.new(hl:v.toNat<fc.length)(hg:qH gs v e):LQ gs (fc.set v.toNat e) v:=⟨e,by rw[List.getElem?_set_self hl],hg⟩
end
structure Wk(gs:List bz)(n:Nat)(fc:List tn)(rl:List Bool)(ls:ar):Prop where
 len:rl.length=n
 rd:∀i:Nat,i<n→rl.getD i false=true→Rd (gs.map bz.f) (i:Int)
 Tv:∀v,v∈ls→0≤v∧v<(n:Int)∧rl.getD v.toNat false=true
 PF:ls.length≤vd rl
 closed:∀i:Nat,i<n→rl.getD i false=true→(i:Int)∈ls∨∀e,fc[i]?=some e→∀a,a∈e.2.2→0≤a→rl.getD a.toNat false=true
section
variable {gs : List bz} {n : Nat} {fc : List tn} {rl : List Bool} {ls : List Int}
theorem Wk.start(gs:List bz)(n:Nat)(fc:List tn):Wk gs n fc (List.replicate n false) []where
 len:=sI;rd i hi h:=by simp[List.getD,hi]at h
 Tv:=sI;PF:=Nat.zero_le _;closed i hi h:=by simp[List.getD,hi]at h
theorem ld(h:rl.length=n){l:ar}(hl:∀v,v∈l→v<(n:Int)){i:Nat}(hi:i<n)(hm:rl.getD i false=true):(aX l (rl,ls)).1.getD i false=true:=(jU l (rl,ls) i (fun v hv=>by show v<(rl.length:Int);rw[h];exact hl v hv) (by show i<rl.length;omega)).2 (.inl hm)
theorem Wk.reads(h:Wk gs n fc rl ls){l:ar}(hl:∀v,v∈l→v<(n:Int))(hr:∀v,v∈l→0≤v→Rd (gs.map bz.f) v):Wk gs n fc (aX l (rl,ls)).1 (aX l (rl,ls)).2:=by
 have LG:∀v,v∈l→v<((rl,ls).1.length:Int):=fun v hv=>by show v<(rl.length:Int);rw[h.len];exact hl v hv
 have rh:=fun i=>jU l (rl,ls) i LG
 obtain⟨q1,q2,q3⟩:=ke l (rl,ls) LG;have vh:=jT l (rl,ls) LG;simp only at vh;refine⟨by rw[jS];exact h.len,fun i hi hm=> ?_,fun v hv=> ?_,by have:=h.PF;omega,fun i hi hm=> ?_⟩
 ·rcases(rh i (by show i<rl.length;rw[h.len];exact hi)).1 hm with h1|h1
  ·exact h.rd i hi h1
  ·exact hr _ h1 (Int.natCast_nonneg _)
 ·rcases q1 v hv with h1|⟨h1,h2⟩
  ·obtain⟨a,b,c⟩:=h.Tv v h1;exact⟨a,b,ld h.len hl oM c⟩
  ·refine⟨h2,hl v h1,?_⟩;have:=(rh v.toNat (by show v.toNat<rl.length;have:=hl v h1;rw[h.len];omega)).2 (.inr (by rw[Int.toNat_of_nonneg h2];exact h1));exact this
 ·rcases q3 i (by show i<rl.length;rw[h.len];exact hi) hm with h1|h1
  ·rcases h.closed i hi h1 with h2|h2
   ·exact .inl (q2 _ h2)
   ·refine .inr fun e he a ha h0=> ?_
    have:=h2 e he a ha h0;by_cases yX:a.toNat<n
    ·exact ld h.len hl yX this
    ·rw[List.getD_eq_getElem?_getD,List.getElem?_eq_none (by rw[h.len];omega)]at this;cases this
  ·exact .inl h1
theorem Wk.pop{v:Int}{e:tn}(h:Wk gs n fc rl (ls++[v]))(he:fc[v.toNat]?=some e)(hg:e=(none,0,[])∨qH gs v e)(hl:∀a,a∈e.2.2→a<(n:Int)):Wk gs n fc (aX e.2.2 (rl,ls)).1 (aX e.2.2 (rl,ls)).2:=by
 obtain⟨xI,ZH,iO⟩:=h.Tv v sI;have Yk:Rd (gs.map bz.f) v:=by have:=h.rd v.toNat oM iO;rwa [Int.toNat_of_nonneg xI]at this
 have LG:∀a,a∈e.2.2→a<((rl,ls).1.length:Int):=fun a ha=>by show a<(rl.length:Int);rw[h.len];exact hl a ha
 have rh:=fun i=>jU e.2.2 (rl,ls) i LG
 obtain⟨q1,q2,q3⟩:=ke e.2.2 (rl,ls) LG;have vh:=jT e.2.2 (rl,ls) LG;simp only at vh;have Py:=h.PF;rw[List.length_append,List.length_singleton]at Py;refine⟨by rw[jS];exact h.len,fun i hi hm=> ?_,fun u hu=> ?_,oM,fun i hi hm=> ?_⟩
 ·rcases(rh i (by show i<rl.length;rw[h.len];exact hi)).1 hm with h1|h1
  ·exact h.rd i hi h1
  ·rcases hg with rfl|hg
   ·cases h1
   ·cases hg with
    | @pK x p hx hp ed=>exact .pK (p:=p.f) (List.mem_map.2 ⟨x,hx,rfl⟩) (List.mem_map.2 ⟨p,hp,rfl⟩) (by show Rd _ p.dst;rw[ed];exact Yk) h1 (Int.natCast_nonneg _)
    | @inst x j hx hj hp ed=>exact .pure (i:=j.e0) (List.mem_map.2 ⟨x,hx,rfl⟩) (List.mem_map.2 ⟨j,hj,rfl⟩) hp (by show Rd _ j.dst;rw[ed];exact Yk) h1 (Int.natCast_nonneg _)
 ·rcases q1 u hu with h1|⟨h1,h2⟩
  ·obtain⟨a,b,c⟩:=h.Tv u (List.mem_append_left _ h1);exact⟨a,b,ld h.len hl oM c⟩
  ·refine⟨h2,hl u h1,?_⟩;exact(rh u.toNat (by show u.toNat<rl.length;have:=hl u h1;rw[h.len];omega)).2 (.inr (by rw[Int.toNat_of_nonneg h2];exact h1))
 ·have keep:∀a:Int,0≤a→rl.getD a.toNat false=true→(aX e.2.2 (rl,ls)).1.getD a.toNat false=true:=by
   intro a h0 hm;by_cases yX:a.toNat<n
   ·exact ld h.len hl yX hm
   ·rw[List.getD_eq_getElem?_getD,List.getElem?_eq_none (by rw[h.len];omega)]at hm;cases hm
  rcases q3 i (by show i<rl.length;rw[h.len];exact hi) hm with h1|h1
  ·rcases h.closed i hi h1 with h2|h2
   ·rcases List.mem_append.1 h2 with h2|h2
    ·exact .inl (q2 _ h2)
    ·simp at h2;right;intro e' Tw a ha h0;have:v.toNat=i:=oM;rw[←this,he]at Tw;injection Tw with Tw;subst Tw;exact(rh a.toNat (by show a.toNat<rl.length;have:=hl a ha;rw[h.len];omega)).2 (.inr (by rw[Int.toNat_of_nonneg h0];exact ha))
   ·exact .inr fun e' Tw a ha h0=>keep a h0 (h2 e' Tw a ha h0)
  ·exact .inl h1
theorem Wk.done{pa va:Int}(h:Wk gs n fc rl [])(Hn:0≤pa)(ho:ey pa va (bF (gs.map bz.f)))(fm:∀v,Rd (gs.map bz.f) v→v<(n:Int))(hd:∀x,x∈gs→(∀p,p∈x.ah→LQ gs fc p.dst)∧∀i,i∈x.insts→cP i.op→LQ gs fc i.dst)(hr:∀x,x∈gs→(∀i,i∈x.insts→¬cP i.op→∀v,v∈i.args→0≤v→rl.getD v.toNat false=true)∧((x.e=1∨x.e=2)→0≤x.v→rl.getD x.v.toNat false=true)){v:Int}(xI:0≤v):rl.getD v.toNat false=true↔Rd (gs.map bz.f) v:=by
 constructor
 ·intro hm;by_cases hn:v.toNat<n
  ·have:=h.rd v.toNat hn hm;rwa [Int.toNat_of_nonneg xI]at this
  ·rw[List.getD_eq_getElem?_getD,List.getElem?_eq_none (by rw[h.len];omega)]at hm;cases hm
 ·have step:∀{d:Int} {args:ar},BJ (gs.map bz.f) d args→LQ gs fc d→Rd (gs.map bz.f) d→(0≤d→rl.getD d.toNat false=true)→0≤d→∀a,a∈args→0≤a→rl.getD a.toNat false=true:=by
   intro d args k9 ⟨e,he,hg⟩ vi ih hd0 a ha h0;have e1:e.2.2=args:=BJ.uniq ho hg.mk k9;have pD:=fm d vi;rcases h.closed d.toNat oM (ih hd0)with h2|h2
   ·cases h2
   ·exact h2 e he a (by rw[e1];exact ha) h0
  have Ri:∀d:Int,d∈(bF (gs.map bz.f)).map (·.1)→0≤d:=fun d hd=>by obtain⟨e,he,rfl⟩:=List.mem_map.1 hd;have:=(ho.1 e he).1;omega
  rw[pf]at Ri;intro vi;clear xI;induction vi with
  | @inst x i v hx hi hp hv h0=>
   obtain⟨y,hy,rfl⟩:=List.mem_map.1 hx;obtain⟨j,hj,rfl⟩:=List.mem_map.1 hi;exact(hr y hy).1 j hj hp v hv h0
  | @fin x hx he h0=>
   obtain⟨y,hy,rfl⟩:=List.mem_map.1 hx;exact(hr y hy).2 he h0
  | @pK x p v hx hi vi hv h0 ih=>
   obtain⟨y,hy,rfl⟩:=List.mem_map.1 hx;obtain⟨j,hj,rfl⟩:=List.mem_map.1 hi;exact step (.pK hx hi rfl) ((hd y hy).1 j hj) vi (fun _=>ih) (Ri _ (List.mem_flatMap.2 ⟨_,hx,List.mem_append_left _ (List.mem_map.2 ⟨_,hi,rfl⟩)⟩)) v hv h0
  | @pure x i v hx hi hp vi hv h0 ih=>
   obtain⟨y,hy,rfl⟩:=List.mem_map.1 hx;obtain⟨j,hj,rfl⟩:=List.mem_map.1 hi;exact step (.inst hx hi hp rfl) ((hd y hy).2 j hj hp) vi (fun _=>ih) (Ri _ (List.mem_flatMap.2 ⟨_,hx,List.mem_append_right _ (List.mem_map.2 ⟨_,List.mem_filter.2 ⟨hi,by simp[iQ hp]⟩,rfl⟩)⟩)) v hv h0
end
end Go.Mor
namespace Go.Mor
open Go.RowKit
end Go.Mor
namespace Go.Mor
end Go.Mor
namespace Go.Mor
open Go.RowKit
structure VR(n:Nat)(x:ay):Prop where
 ah:∀p,p∈x.ah→0≤p.dst∧p.dst<(n:Int)
 insts:∀p,p∈x.insts→-1≤p.dst∧p.dst<(n:Int)∧∀a,a∈p.args→0≤a∧a<(n:Int)
 fin:wo x→0≤x.v∧x.v<(n:Int)
end Go.Mor
namespace Go.Mor
open Go.RowKit
end Go.Mor
namespace Go.Mor
end Go.Mor
namespace Go.Mor
end Go.Mor
namespace Go.Mor
open Go.RowKit
theorem Jl{fs:List ay}{k:Nat}{x:ay}{p:bI}(hx:fs[k]?=some x)(hp:p∈x.ah):(p.dst,(k:Int),-1)∈bF fs:=by
 unfold bF db;rw[List.take_length,List.mem_flatMap];exact⟨(x,k),List.mem_zipIdx_iff_getElem?.2 hx,List.mem_append_left _ (List.mem_map.2 ⟨p,hp,rfl⟩)⟩
theorem BK{fs:List ay}{k j:Nat}{x:ay}{p:aO}(hx:fs[k]?=some x)(hp:x.insts[j]?=some p)(hm:aU p.op):(p.dst,(k:Int),(j:Int))∈bF fs:=by
 unfold bF db;rw[List.take_length,List.mem_flatMap];exact⟨(x,k),List.mem_zipIdx_iff_getElem?.2 hx,List.mem_append_right _ (List.mem_map.2 ⟨(p,j),List.mem_filter.2 ⟨List.mem_zipIdx_iff_getElem?.2 hp,by simpa using hm⟩,rfl⟩)⟩
section
variable {nm : ByteArray} {pa va : Int} {fs : List ay} {n : Nat}
theorem NH(h:j9 nm pa va fs)(kx:va=(n:Int)):∀x,x∈fs→VR n x:=by
 intro x hx;obtain⟨k,hk⟩:=List.mem_iff_getElem?.1 hx;have Jm:=(List.getElem?_eq_some_iff.1 hk).1;obtain⟨y,hy,hr⟩:=h.reads k Jm;rw[hk]at hy;injection hy with hy;subst hy;have hp0:=h.par;refine⟨fun p hp=> ?_,fun p hp=> ?_,fun hf=> ?_⟩
 ·have:=h.sm.2.1 _ (Jl hk hp);simp only at this;omega
 ·obtain⟨j,hj⟩:=List.mem_iff_getElem?.1 hp;have ha:∀a,a∈p.args→0≤a∧a<(n:Int):=by intro a ha;obtain⟨i,hi⟩:=List.mem_iff_getElem?.1 ha;have:=hr.insts j p hj i a hi;exact⟨this.1,by rw[←kx];exact this.2.1⟩
  by_cases hm:aU p.op
  ·have:=h.sm.2.1 _ (BK hk hj hm);simp only at this;exact⟨oM,oM,ha⟩
  ·rcases(h.sm.1 x hx p hp).1 with h1|h1
   ·exact absurd h1 hm
   ·exact⟨oM,oM,ha⟩
 ·have:=hr.fin (by unfold wo at hf;unfold pE;omega);exact⟨this.1,by rw[←kx];exact this.2.1⟩
end
end Go.Mor
namespace Go.Mor
open Go.RowKit
theorem qI{nm:cV}{pa va:Int}{fs:List ay}(h:bV nm pa va fs=0):j9 nm pa va fs∧va≤20000∧(dd fs:Int)≤20000:=by
 unfold bV at h;split at h
 ·omega
 ·split at h
  ·rename_i h1 h2;exact⟨h2,oM,oM⟩
  ·omega
end Go.Mor
namespace Go.Mor
open Go.RowKit
def gO.f(x:gO):ay:=⟨none,0,x.ah.map (fun p=>⟨p.dst,none,0,p.args⟩),none,0,x.insts,x.e,x.v,x.a,x.b⟩
structure PG(n:Int)(p:vb):Prop where
 up:p.from_.Pairwise (·<·)
 yW:∀s,s∈p.from_→0≤s∧s<n
 len:p.args.length=p.from_.length
def Jn(n:Int)(x:gO):Prop:=(x.e=0∧(0≤x.a∧x.a<n)∧x.v=0∧x.b=0)∨(x.e=1∧(0≤x.a∧x.a<n)∧(0≤x.b∧x.b<n)∧x.a≠x.b)∨(x.e=2∧x.a=0∧x.b=0)∨(x.e=3∧cN x.a∧x.v=0∧x.b=0)
theorem Gf{gl:List Bool}(h:∀b,b∈gl→b=false){i:Nat}(hi:i<gl.length):(ve gl).getD i 0=(i:Int):=by
 unfold ve;have h1:gl.getD i true=false:=by rw[List.getD_eq_getElem?_getD,List.getElem?_eq_getElem hi];exact h _ (List.getElem_mem hi)
 rw[BG hi,if_pos ⟨hi,h1⟩];have:rK gl i=i:=by unfold rK;rw[List.filter_eq_self.2 (fun b hb=>by rw[h b (List.mem_of_mem_take hb)];rfl),List.length_take];omega
 rw[this]
theorem Jo(l:ar):(List.range l.length).map (fun i=>l.getD i 0)=l:=by
 refine List.ext_getElem? fun i=> ?_
 by_cases hi:i<l.length
 ·simp[hi]
 ·simp[hi]
theorem NI{ks:List gO}{fs:List ay}(hg:∀x,x∈ks→x.gone=false)(he:∀x,x∈ks→Jn (ks.length:Int) x)(hp:∀x,x∈ks→∀p,p∈x.ah→PG (ks.length:Int) p)(h:Yi ks fs):fs.map ay.e0=ks.map gO.f:=by
 have hl:pP ks=ks:=List.filter_eq_self.2 fun x hx=>by rw[hg x hx];rfl
 unfold Yi at h;rw[hl]at h;obtain⟨hlen,h⟩:=h;have Jp:∀b,b∈lb ks→b=false:=by intro b hb;obtain⟨x,hx,rfl⟩:=List.mem_map.1 hb;exact hg x hx
 have NJ:∀a:Int,0≤a→a<(ks.length:Int)→(ve (lb ks)).getD a.toNat 0=a:=by intro a h0 h1;rw[Gf Jp (by rw[xP];omega)];omega
 refine List.ext_getElem? fun i=> ?_
 rw[List.getElem?_map,List.getElem?_map];by_cases hi:i<ks.length
 ·obtain⟨x,hx⟩:=bu (l:=ks) hi;obtain⟨y,hy⟩:=bu (l:=fs) (i:=i) oM;have pj:=List.mem_of_getElem? hx;have hb:=h i x y hx hy;rw[hx,hy,Option.map_some,Option.map_some];congr 1;unfold ay.e0 gO.f;have h1:y.ah.map bI.e0=x.ah.map (fun p=>(⟨p.dst,none,0,p.args⟩:bI)):=by
   obtain⟨kT,hpp⟩:=hb.ah;refine List.ext_getElem? fun j=> ?_
   rw[List.getElem?_map,List.getElem?_map];by_cases hj:j<x.ah.length
   ·obtain⟨p,ZI⟩:=bu (l:=x.ah) hj;obtain⟨q,jo⟩:=bu (l:=y.ah) (i:=j) oM;obtain⟨hd,il,hs,ha⟩:=hpp j p q ZI jo;have hu:=hp x pj p (List.mem_of_getElem? ZI);have hk:∀i,i<p.from_.length→rJ (ve (lb ks)) p.from_ i=p.from_.getD i 0:=by
     intro i hi;unfold rJ;have hm:p.from_.getD i 0∈p.from_:=by rw[List.getD_eq_getElem?_getD,List.getElem?_eq_getElem hi];exact List.getElem_mem hi
     obtain⟨h0,h1⟩:=hu.yW _ hm;exact NJ _ h0 h1
    have:=hs.rising (fun a b Hl hb=>by rw[hk a oM,hk b hb];have:=List.pairwise_iff_getElem.1 hu.up a b oM hb Hl;rw[List.getD_eq_getElem?_getD,List.getD_eq_getElem?_getD,List.getElem?_eq_getElem hb,List.getElem?_eq_getElem (show a<p.from_.length by omega)];exact this)
    rw[this,←hu.len,Jo]at ha;rw[ZI,jo,Option.map_some,Option.map_some];unfold bI.e0;rw[hd,ha]
   ·rw[List.getElem?_eq_none oM,List.getElem?_eq_none oM];rfl
  have ha:y.a=x.a∧y.b=x.b:=by
   rw[hb.a,hb.b];unfold toA toBb;rcases he x pj with⟨e,⟨h1,h2⟩,h3,h4⟩|⟨e,⟨h1,h2⟩,⟨h3,h4⟩,_⟩|⟨e,h1,h2⟩|⟨e,h1,h2,h3⟩
   ·rw[if_pos (.inl e),if_neg oM,NJ _ h1 h2,h4];exact⟨rfl,rfl⟩
   ·rw[if_pos (.inr e),if_pos e,NJ _ h1 h2,NJ _ h3 h4];exact⟨rfl,rfl⟩
   ·rw[if_neg oM,if_neg oM,if_neg oM,h1,h2];exact⟨rfl,rfl⟩
   ·rw[if_neg oM,if_pos e,if_neg oM,h3];exact⟨rfl,rfl⟩
  rw[h1,hb.insts,hb.e,hb.v,ha.1,ha.2]
 ·rw[List.getElem?_eq_none oM,List.getElem?_eq_none oM];rfl
theorem NK(bs:List SB)(b:Int):(bS bs b).Pairwise (·<·):=by
 unfold bS dW;rw[List.pairwise_map];refine List.Pairwise.filter _ ?_;refine List.pairwise_lt_range.imp ?_;intro a b h;exact Int.ofNat_lt.2 h
section
variable {nm : ByteArray} {pa va : Int} {fs : List ay} {n : Nat}
theorem Jq(h:j9 nm pa va fs){k:Nat}(hk:k<fs.length)(h0:k≠0):0<(bS (af fs) (k:Int)).length:=by
 have hr:Reach (tg (af fs)) (k:Int):=by have h1:=mv (bs:=af fs);rw[bE]at h1;exact jO.1 (h1.1 h.all k hk)
 have:∀x:Int,Reach (tg (af fs)) x→x≠0→∃s,s∈bS (af fs) x:=by
  intro x hx cU;cases hx with
  |zero=>exact absurd rfl cU
  |step hs ht=>
   rename_i s;refine⟨s,AN.2 ⟨?_,ht⟩⟩;exact mu (by rw[bE];exact h.pos) hs
 obtain⟨s,hs⟩:=this _ hr oM;exact List.length_pos_of_mem hs
theorem EH(hv:bV nm pa va fs=0)(hN:fs.length≤1000):Re fs:=by
 obtain⟨h,_,jv⟩:=qI hv;have hp:∀(k:Nat) (x:ay),fs[k]?=some x→x.ah.length+x.insts.length≤dd fs:=by
  intro k x hx;have hm:x.ah.length+x.insts.length∈(fs.take fs.length).map (fun x=>x.ah.length+x.insts.length):=by rw[List.take_of_length_le (Nat.le_refl _)];exact List.mem_map.2 ⟨x,List.mem_of_getElem? hx,rfl⟩
  have:∀l:List Nat,∀a,a∈l→a≤l.sum:=by
   intro l;induction l with
   |nil=>intro a ha;cases ha
   |cons b l ih=>
    intro a ha;rcases List.mem_cons.1 ha with rfl|ha
    ·simp
    ·have:=ih a ha;simp;omega
  have:=this _ _ hm;unfold dd jl;omega
 have key:∀x,x∈fs→∃k:Nat,fs[k]?=some x:=fun x hx=>List.mem_iff_getElem?.1 hx
 refine⟨fun x hx=> ?_,fun x hx=> ?_,fun x hx p jL=> ?_,fun x hx i hi=> ?_⟩
 ·obtain⟨k,hk⟩:=key x hx;have:=hp k x hk;omega
 ·obtain⟨k,hk⟩:=key x hx;have:=hp k x hk;omega
 ·obtain⟨k,hk⟩:=key x hx;obtain⟨y,hy,hr⟩:=h.reads k (List.getElem?_eq_some_iff.1 hk).1;rw[hk]at hy;injection hy with hy;subst hy;obtain⟨j,hj⟩:=List.mem_iff_getElem?.1 jL;rw[(hr.ah j p hj).1];have:(bS (af fs) (k:Int)).length≤(af fs).length:=fZ _ _ _;rw[bE]at this;omega
 ·have:=(h.sm.1 x hx i hi).2;omega
structure UK(n N:Nat)(x:bz):Prop where
 lp:x.ah.length≤20000
 li:x.insts.length≤20000
 gone:x.gone=false
 ah:∀p,p∈x.ah→(0≤p.dst∧p.dst<(n:Int))∧p.args.length≤20000∧(∀a,a∈p.args→0≤a∧a<(n:Int))∧0<p.from_.length∧p.from_.length≤20000∧PG (N:Int) p.k
 insts:∀i,i∈x.insts→(cP i.op→0≤i.dst∧i.dst<(n:Int))∧i.args.length≤20000∧∀a,a∈i.args→0≤a∧a<(n:Int)
 ends:Jn (N:Int) x.k
 fin:(x.e=1∨x.e=2)→-1≤x.v∧x.v<(n:Int)
theorem Jr{gs:List bz}(hv:bV nm pa va fs=0)(hN:fs.length≤1000)(kx:va=(n:Int))(hg:gs.map bz.k=lN fs):∀x,x∈gs→UK n gs.length x:=by
 obtain⟨h,_,jv⟩:=qI hv;have Gg:=EH hv hN;have Yk:=NH h kx;have hl:gs.length=fs.length:=by have:=congrArg List.length hg;rwa [List.length_map,jR]at this
 intro y hy;obtain⟨k,hk⟩:=List.mem_iff_getElem?.1 hy;have Jm:=(List.getElem?_eq_some_iff.1 hk).1;obtain⟨x,hx⟩:=bu (l:=fs) (i:=k) oM;have pj:=List.mem_of_getElem? hx;have h1:=congrArg (fun l:List gO=>l[k]?) hg;simp only[List.getElem?_map,hk,Option.map_some,mA hx]at h1;injection h1 with h1;have e1:y.ah.map cI.k=x.ah.map (oG (bS (af fs) (k:Int))):=congrArg gO.ah h1;have e2:y.insts.map aO.e0=x.insts.map aO.e0:=congrArg gO.insts h1;have e3:y.e=x.e:=congrArg gO.e h1;have e4:y.v=x.v:=congrArg gO.v h1;have e5:y.a=x.a:=congrArg gO.a h1;have e6:y.b=x.b:=congrArg gO.b h1;have e7:y.gone=false:=congrArg gO.gone h1;obtain⟨z,hz,hr⟩:=h.reads k oM;rw[hx]at hz;injection hz with hz;subst hz;have Yl:=Yk x pj;have Tx:(bS (af fs) (k:Int)).length≤fs.length:=by have:(bS (af fs) (k:Int)).length≤(af fs).length:=fZ _ _ _;rwa [bE]at this
 refine⟨by rw[Bs e1];exact Gg.lp x pj,by rw[eM e2];exact Gg.li x pj,e7,fun p hp=> ?_,fun i hi=> ?_,?_,fun hf=> ?_⟩
 ·obtain⟨j,hj⟩:=List.mem_iff_getElem?.1 hp;have h2:=congrArg (fun l:List vb=>l[j]?) e1;simp only[List.getElem?_map,hj,Option.map_some]at h2;obtain⟨q,hq⟩:∃q,x.ah[j]?=some q:=bu (by rw[←Bs e1];exact(List.getElem?_eq_some_iff.1 hj).1);rw[hq,Option.map_some]at h2;injection h2 with h2;have d1:p.dst=q.dst:=congrArg vb.dst h2;have d2:p.from_=bS (af fs) (k:Int):=congrArg vb.from_ h2;have d3:p.args=q.args:=congrArg vb.args h2;obtain⟨h3,h4⟩:=hr.ah j q hq;have EI:k≠0:=by rintro rfl;have:=h.ah x hx;have:=(List.getElem?_eq_some_iff.1 hq).1;omega
  have Mj:=Jq h (k:=k) oM EI;refine⟨by rw[d1];exact Yl.ah q (List.mem_of_getElem? hq),by rw[d3,h3];omega,fun a ha=> ?_,by rw[d2];exact Mj,by rw[d2];omega,⟨by show p.from_.Pairwise _;rw[d2];exact NK _ _,fun s hs=> ?_,by show p.args.length=p.from_.length;rw[d3,d2,h3]⟩⟩
  ·rw[d3]at ha;obtain⟨i,hi⟩:=List.mem_iff_getElem?.1 ha;obtain⟨s,hs⟩:∃s,(bS (af fs) (k:Int))[i]?=some s:=bu (by rw[←h3];exact(List.getElem?_eq_some_iff.1 hi).1);have ht:=h4 i a s hi hs;exact⟨ht.1,by rw[←kx];exact ht.2.1⟩
  ·have QJ:s∈p.from_:=hs;rw[d2]at QJ;have:=AK QJ;rw[bE]at this;rw[hl];exact this
 ·obtain⟨j,hj⟩:=List.mem_iff_getElem?.1 hi;have h2:=congrArg (fun l:List aO=>l[j]?) e2;simp only[List.getElem?_map,hj,Option.map_some]at h2;obtain⟨q,hq⟩:∃q,x.insts[j]?=some q:=bu (by rw[←eM e2];exact(List.getElem?_eq_some_iff.1 hj).1);rw[hq,Option.map_some]at h2;injection h2 with h2;have d1:i.op=q.op:=show i.e0.op=q.e0.op by rw[h2]
  have d2:i.dst=q.dst:=show i.e0.dst=q.e0.dst by rw[h2]
  have d3:i.args=q.args:=show i.e0.args=q.e0.args by rw[h2]
  have jE:=List.mem_of_getElem? hq;obtain⟨h5,h6,h7⟩:=Yl.insts q jE;refine⟨fun hp=> ?_,by rw[d3];exact Gg.ai x pj q jE,by rw[d3];exact h7⟩;rw[d1]at hp;have:=h.sm.2.1 _ (BK hx hq (iQ hp));have ZJ:=h.par;simp only at this;rw[d2];omega
 ·have:=h.ends x pj;unfold ix at this;unfold Jn;show(y.e=0∧(0≤y.a∧y.a<_)∧y.v=0∧y.b=0)∨(y.e=1∧(0≤y.a∧y.a<_)∧(0≤y.b∧y.b<_)∧y.a≠y.b)∨(y.e=2∧y.a=0∧y.b=0)∨(y.e=3∧cN y.a∧y.v=0∧y.b=0);rw[e3,e4,e5,e6,hl];exact this
 ·rw[e3]at hf;rw[e4];by_cases ZK:pE x
  ·have ht:=hr.fin ZK;have:=ht.1;have:=ht.2.1;omega
  ·unfold pE at ZK;omega
end
def Dt(rl:List Bool)(x:bz):bz:={x with ah:=x.ah.filter (fun p=> !dj rl p),insts:=x.insts.filter (fun i=> !dw rl i)}
def Marks(gs:List bz)(rl:List Bool):Prop:=∀v:Int,0≤v→(rl.getD v.toNat false=true↔Rd (gs.map bz.f) v)
section
variable {fs : List ay} {gs : List bz} {n : Nat} {rl : List Bool}
theorem UL(hm:Marks gs rl)(hg:∀x,x∈gs→UK n gs.length x){x:bz}(hx:x∈gs):(Dt rl x).k.f=gS (gs.map bz.f) x.f:=by
 have hi:=hg x hx;unfold Dt bz.k gO.f gS bz.f;simp only[ay.mk.injEq,true_and,and_true];refine⟨?_,?_⟩
 ·rw[List.filter_map,List.map_map];have:((fun p:vb=>(⟨p.dst,none,0,p.args⟩:bI))∘cI.k)=cI.f:=rfl;rw[this];congr 1;refine List.filter_congr fun p hp=> ?_
  have h0:=(hi.ah p hp).1.1;unfold dj sX;simp only[Bool.not_not,Function.comp_apply];show rl.getD p.dst.toNat false=decide (Rd (gs.map bz.f) p.dst);rw[Bool.eq_iff_iff,decide_eq_true_eq];exact hm _ h0
 ·rw[List.filter_map];congr 1;refine List.filter_congr fun i ln=> ?_
  have h0:=(hi.insts i ln).1;unfold dw lK;show(!(decide (cP i.op)&& !(rl.getD i.dst.toNat false)))=decide (¬(cP i.op∧¬Rd (gs.map bz.f) i.dst));by_cases hp:cP i.op
  ·have:=hm _ (h0 hp).1;rw[decide_eq_true hp,Bool.true_and,Bool.not_not,Bool.eq_iff_iff,decide_eq_true_eq,this];simp[hp]
  ·simp[hp]
theorem NL{fd:List ay}(hv:gs.map bz.k=lN fs)(hm:Marks gs rl)(hg:∀x,x∈gs→UK n gs.length x)(h:Yi (gs.map (fun x=>(Dt rl x).k)) fd):ec fd (eY fs):=by
 have h1:=NI (ks:=gs.map (fun x=>(Dt rl x).k)) (fun y hy=>by
   obtain⟨x,hx,rfl⟩:=List.mem_map.1 hy;exact(hg x hx).gone) (fun y hy=>by
   obtain⟨x,hx,rfl⟩:=List.mem_map.1 hy;rw[List.length_map];exact(hg x hx).ends) (fun y hy p hp=>by
   obtain⟨x,hx,rfl⟩:=List.mem_map.1 hy;obtain⟨q,hq,rfl⟩:=List.mem_map.1 hp;rw[List.length_map];exact((hg x hx).ah q (List.mem_filter.1 hq).1).2.2.2.2.2) h
 have h2:(gs.map (fun x=>(Dt rl x).k)).map gO.f=eY (gs.map bz.f):=by unfold eY;rw[List.map_map,List.map_map];exact List.map_congr_left fun x hx=>UL hm hg hx
 rw[h2]at h1;have h3:=Ds (BI hv);unfold ec at h3⊢;rw[h3,←h1,List.map_map];exact List.map_congr_left fun x _=>(show x.e0=x.e0.e0 by unfold ay.e0;simp only[List.map_map];rfl)
theorem Rj(hN:gs.length≤1000)(hg:∀x,x∈gs→UK n gs.length x):∀y,y∈gs.map (fun x=>(Dt rl x).k)→Rh (gs.length:Int) y:=by
 intro y hy;obtain⟨x,hx,rfl⟩:=List.mem_map.1 hy;have hi:=hg x hx;refine⟨?_,fun p hp=> ?_,fun he=> ?_,fun he=> ?_⟩
 ·show((x.ah.filter _).map cI.k).length≤20000;rw[List.length_map];exact Nat.le_trans (List.length_filter_le _ _) hi.lp
 ·obtain⟨q,hq,rfl⟩:=List.mem_map.1 hp;obtain⟨_,_,_,h4,h5,h6⟩:=hi.ah q (List.mem_filter.1 hq).1;exact⟨h4,h5,h6.len,h6.yW⟩
 ·rcases hi.ends with h|h|h|h
  ·exact h.2.1
  ·have:x.e=1:=h.1;have:x.e=0:=he;omega
  ·have:x.e=2:=h.1;have:x.e=0:=he;omega
  ·have:x.e=3:=h.1;have:x.e=0:=he;omega
 ·rcases hi.ends with h|h|h|h
  ·have:x.e=0:=h.1;have:x.e=1:=he;omega
  ·exact⟨h.2.1,h.2.2.1⟩
  ·have:x.e=2:=h.1;have:x.e=1:=he;omega
  ·have:x.e=3:=h.1;have:x.e=1:=he;omega
end
end Go.Mor
namespace Go.Mor
open Go.RowKit
section
variable {S : Nat → Prop} {w : World} {gs : List bz} {x : bz}
theorem RO.jF(h:RO S w (.pk (gs.map gB)))(hx:x∈gs){r:bo}(hr:r∈gL x):RO S w r:=(h.l8 (List.mem_map.2 ⟨x,hx,rfl⟩):RO S w (gB x)).l8 hr
theorem RO.ZL(h:RO S w (.pk (gs.map gB)))(hx:x∈gs){p:cI}(hp:p∈x.ah):RO S w (.rd p.aA (ints p.args)):=RO.aB ((h.jF hx (r:= .pk (x.ah.map fj)) sI).l8 (List.mem_map.2 ⟨p,hp,rfl⟩):RO S w (fj p))
theorem RO.UM(h:RO S w (.pk (gs.map gB)))(hx:x∈gs){i:aO}(hi:i∈x.insts):RO S w (.rd i.A (ints i.args)):=RO.aB ((h.jF hx (r:= .pk (x.insts.map de)) sI).l8 (List.mem_map.2 ⟨i,hi,rfl⟩):RO S w (de i))
theorem RO.ZM(h:RO S w (.pk (gs.map gB))){v:Int}{e:tn}(he:qH gs v e):RO S w (.rd e.1 (ints e.2.2)):=by
 cases he with
 | @pK x p hx hp _=>exact h.ZL hx hp
 | @inst x i hx hi _ _=>exact h.UM hx hi
end
theorem EJ(fc:List tn)(i:Nat)(e:tn):nL (fc.set i e)=(nL fc).set i (Yj e):=by simp[nL,List.map_set]
theorem Js(n:Nat):nL (List.replicate n (none,0,[]))=List.replicate n aq:=by simp[nL,Yj]
theorem Rk{fc:List tn}{i:Nat}{e:tn}(h:fc[i]?=some e):(nL fc)[i]?=some (Yj e):=by simp[nL,h]
theorem oH:∀(l:ar) (s:List Bool×ar),s.2.length≤(aX l s).2.length
 |[],s=>Nat.le_refl _
 |v::l,s=>by
  rw[aX];split
  ·have:=oH l (s.1.set v.toNat true,s.2++[v]);simp only[List.length_append,List.length_singleton]at this;omega
  ·exact oH l s
def rM(n:Nat)(rl:List Bool)(ls:ar):Prop:=∀i:Nat,i<n→rl.getD i false=true→(i:Int)∈ls
section
variable {gs : List bz} {n : Nat} {fc : List tn} {rl : List Bool} {ls l : List Int}
theorem rM.start(n:Nat):rM n (List.replicate n false) []:=fun i hi h=>by simp[List.getD,hi]at h
theorem rM.reads(h:rM n rl ls)(hn:rl.length=n)(hl:∀v,v∈l→v<(n:Int)):rM n (aX l (rl,ls)).1 (aX l (rl,ls)).2:=by
 obtain⟨_,q2,q3⟩:=ke l (rl,ls) (fun v hv=>by show v<(rl.length:Int);rw[hn];exact hl v hv);intro i hi hm;rcases q3 i (by show i<rl.length;omega) hm with h1|h1
 ·exact q2 _ (h i hi h1)
 ·exact h1
theorem Wk.begin(h:Wk gs n [] rl ls)(ha:rM n rl ls):Wk gs n fc rl ls:=⟨h.len,h.rd,h.Tv,h.PF,fun i hi hm=> .inl (ha i hi hm)⟩
theorem sy(h:rl.length=n)(hl:∀v,v∈l→v<(n:Int)){v:Int}(hv:v∈l)(h0:0≤v):(aX l (rl,ls)).1.getD v.toNat false=true:=(jU l (rl,ls) v.toNat (fun v hv=>by show v<(rl.length:Int);rw[h];exact hl v hv) (by show v.toNat<rl.length;have:=hl v hv;omega)).2 (.inr (by rw[Int.toNat_of_nonneg h0];exact hv))
theorem nh(h:rl.length=n)(hl:∀v,v∈l→v<(n:Int)){v:Int}(hm:rl.getD v.toNat false=true):(aX l (rl,ls)).1.getD v.toNat false=true:=by
 by_cases hn:v.toNat<n
 ·exact ld h hl hn hm
 ·rw[List.getD_eq_getElem?_getD,List.getElem?_eq_none (by rw[h];omega)]at hm;cases hm
def nv(rl:List Bool)(x:bz)(m:Nat):Prop:=∀(j:Nat) (i:aO),j<m→x.insts[j]?=some i→¬cP i.op→∀v,v∈i.args→0≤v→rl.getD v.toNat false=true
def vj(rl:List Bool)(x:bz):Prop:=nv rl x x.insts.length∧((x.e=1∨x.e=2)→0≤x.v→rl.getD x.v.toNat false=true)
theorem nv.keep{x:bz}{m:Nat}(hq:nv rl x m)(h:rl.length=n)(hl:∀v,v∈l→v<(n:Int)):nv (aX l (rl,ls)).1 x m:=fun j i hj hi hp v hv h0=>nh h hl (hq j i hj hi hp v hv h0)
theorem vj.keep{x:bz}(hq:vj rl x)(h:rl.length=n)(hl:∀v,v∈l→v<(n:Int)):vj (aX l (rl,ls)).1 x:=⟨hq.1.keep h hl,fun he h0=>nh h hl (hq.2 he h0)⟩
theorem nv.pure{x:bz}{m:Nat}{i:aO}(hq:nv rl x m)(hi:x.insts[m]?=some i)(hp:cP i.op):nv rl x (m+1):=by
 intro j i' hj ln hn;rcases Nat.lt_or_ge j m with h|h
 ·exact hq j i' h ln hn
 ·have:j=m:=oM;subst this;rw[hi]at ln;injection ln with ln;subst ln;exact absurd hp hn
theorem nv.read{x:bz}{m:Nat}{i:aO}(hq:nv rl x m)(hi:x.insts[m]?=some i)(h:rl.length=n)(hl:∀v,v∈i.args→v<(n:Int)):nv (aX i.args (rl,ls)).1 x (m+1):=by
 intro j i' hj ln hn v hv h0;rcases Nat.lt_or_ge j m with h1|h1
 ·exact nh h hl (hq j i' h1 ln hn v hv h0)
 ·have:j=m:=oM;subst this;rw[hi]at ln;injection ln with ln;subst ln;exact sy h hl hv h0
def mB(gs:List bz)(fc:List tn)(x:bz)(j m:Nat):Prop:=(∀(i:Nat) (p:cI),i<j→x.ah[i]?=some p→LQ gs fc p.dst)∧∀(k:Nat) (i:aO),k<m→x.insts[k]?=some i→cP i.op→LQ gs fc i.dst
def pr(x:bz):Prop:=(∀p,p∈x.ah→0≤p.dst)∧∀i,i∈x.insts→cP i.op→0≤i.dst
theorem mB.set{x:bz}{j m:Nat}{v:Int}{e:tn}(h:mB gs fc x j m)(hx:pr x)(h0:0≤v)(hg:qH gs v e):mB gs (fc.set v.toNat e) x j m:=⟨fun i p hi hp=>(h.1 i p hi hp).set h0 (hx.1 p (List.mem_of_getElem? hp)) hg,fun k i hk hi hp=>(h.2 k i hk hi hp).set h0 (hx.2 i (List.mem_of_getElem? hi) hp) hg⟩
theorem mB.pK{x:bz}{j m:Nat}{p:cI}(h:mB gs fc x j m)(hx:pr x)(hg:x∈gs)(hp:x.ah[j]?=some p)(hl:p.dst.toNat<fc.length):mB gs (fc.set p.dst.toNat (p.aA,p.ac,p.args)) x (j+1) m:=by
 have jL:=List.mem_of_getElem? hp;have ha:qH gs p.dst (p.aA,p.ac,p.args):= .pK hg jL rfl;have h0:=hx.1 p jL;refine⟨fun i q hi hq=> ?_,(h.set hx h0 ha).2⟩;rcases Nat.lt_or_ge i j with h1|h1
 ·exact(h.set hx h0 ha).1 i q h1 hq
 ·have:i=j:=oM;subst this;rw[hp]at hq;injection hq with hq;subst hq;exact .new hl ha
theorem mB.ins{x:bz}{j m:Nat}{i:aO}(h:mB gs fc x j m)(hx:pr x)(hg:x∈gs)(hi:x.insts[m]?=some i)(hp:cP i.op)(hl:i.dst.toNat<fc.length):mB gs (fc.set i.dst.toNat (i.A,i.c,i.args)) x j (m+1):=by
 have LO:=List.mem_of_getElem? hi;have ha:qH gs i.dst (i.A,i.c,i.args):= .inst hg LO hp rfl;have h0:=hx.2 i LO hp;refine⟨(h.set hx h0 ha).1,fun k q hk hq Pw=> ?_⟩;rcases Nat.lt_or_ge k m with h1|h1
 ·exact(h.set hx h0 ha).2 k q h1 hq Pw
 ·have:k=m:=oM;subst this;rw[hi]at hq;injection hq with hq;subst hq;exact .new hl ha
theorem mB.not{x:bz}{j m:Nat}{i:aO}(h:mB gs fc x j m)(hi:x.insts[m]?=some i)(hp:¬cP i.op):mB gs fc x j (m+1):=by
 refine⟨h.1,fun k q hk hq Pw=> ?_⟩;rcases Nat.lt_or_ge k m with h1|h1
 ·exact h.2 k q h1 hq Pw
 ·have:k=m:=oM;subst this;rw[hi]at hq;injection hq with hq;subst hq;exact absurd Pw hp
theorem rN{gs:List bz}{k:Nat}{x:bz}{P:bz→Prop}(h:∀(i:Nat) (y:bz),i<k→gs[i]?=some y→P y)(hx:gs[k]?=some x)(hp:P x):∀(i:Nat) (y:bz),i<k+1→gs[i]?=some y→P y:=by
 intro i y hi hy;rcases Nat.lt_or_ge i k with h1|h1
 ·exact h i y h1 hy
 ·have:i=k:=oM;subst this;rw[hx]at hy;injection hy with hy;subst hy;exact hp
theorem EK{gs:List bz}{k:Nat}{P:bz→Prop}(h:∀(i:Nat) (y:bz),i<k→gs[i]?=some y→P y)(hk:gs.length≤k):∀y,y∈gs→P y:=by
 intro y hy;obtain⟨i,hi⟩:=List.mem_iff_getElem?.1 hy;exact h i y (by have:=(List.getElem?_eq_some_iff.1 hi).1;omega) hi
end
theorem pQ{α β:Type}{f:α→β}{g:α→β}{d l:List α}{k:Nat}{x y:α}(h:d.map f=(l.take k).map g)(hx:l[k]?=some x)(hy:f y=g x):(d++[y]).map f=(l.take (k+1)).map g:=by
 obtain⟨hk,he⟩:=List.getElem?_eq_some_iff.1 hx;rw[List.map_append,h,List.take_succ_eq_append_getElem hk,List.map_append,he];simp[hy]
theorem Jt{hd gs:List bz}(h:hd.map (·.g)=gs.map (·.g))(A:av)(c:Nat):jh A c hd=jh A c gs:=by
 have hl:hd.length=gs.length:=by have:=congrArg List.length h;simpa using this
 have e:∀l:List bz,jA l=(l.map (·.g)).map (fun g=>Value.pointer (some (aZ g))):=fun l=>by unfold jA;rw[List.map_map];rfl
 unfold jh;rw[hl,e,e,h]
theorem UN{gs:List bz}{n:Nat}(hg:∀x,x∈gs→UK n gs.length x){v:Int}(h:Rd (gs.map bz.f) v):v<(n:Int):=by
 cases h with
 | @inst x i v hx hi hp hv h0=>
  obtain⟨y,hy,rfl⟩:=List.mem_map.1 hx;obtain⟨j,hj,rfl⟩:=List.mem_map.1 hi;exact(((hg y hy).insts j hj).2.2 v hv).2
 | @fin x hx he h0=>
  obtain⟨y,hy,rfl⟩:=List.mem_map.1 hx;exact((hg y hy).fin he).2
 | @pK x p v hx hi vi hv h0=>
  obtain⟨y,hy,rfl⟩:=List.mem_map.1 hx;obtain⟨j,hj,rfl⟩:=List.mem_map.1 hi;exact(((hg y hy).ah j hj).2.2.1 v hv).2
 | @pure x i v hx hi hp vi hv h0=>
  obtain⟨y,hy,rfl⟩:=List.mem_map.1 hx;obtain⟨j,hj,rfl⟩:=List.mem_map.1 hi;exact(((hg y hy).insts j hj).2.2 v hv).2
theorem an{gs:List bz}{n:Nat}{v:Int}{e:tn}(hg:∀x,x∈gs→UK n gs.length x)(h:e=(none,0,[])∨qH gs v e):(∀a,a∈e.2.2→a<(n:Int))∧e.2.2.length≤20000:=by
 rcases h with rfl|h
 ·exact⟨fun a ha=>(List.not_mem_nil ha).elim,Nat.zero_le _⟩
 ·cases h with
  | @pK x p hx hp _=>exact⟨fun a ha=>(((hg x hx).ah p hp).2.2.1 a ha).2,((hg x hx).ah p hp).2.1⟩
  | @inst x i hx hi _ _=>exact⟨fun a ha=>(((hg x hx).insts i hi).2.2 a ha).2,((hg x hx).insts i hi).2.1⟩
theorem Gh{gs:List bz}{nm:cV}{pa va:Int}{n:Nat}{fc:List tn}{rl:List Bool}(hw:Wk gs n fc rl [])(hg:j9 nm pa va (gs.map bz.f))(fm:∀v,Rd (gs.map bz.f) v→v<(n:Int))(hd:∀y,y∈gs→mB gs fc y y.ah.length y.insts.length)(hr:∀y,y∈gs→vj rl y):Marks gs rl:=by
 intro v xI;refine hw.done hg.par.1 hg.sm.2 fm (fun x hx=>⟨fun p hp=> ?_,fun i hi ND=> ?_⟩) (fun x hx=>⟨fun i hi ND v hv h0=> ?_,(hr x hx).2⟩) xI
 ·obtain⟨j,hj⟩:=List.mem_iff_getElem?.1 hp;exact(hd x hx).1 j p (List.getElem?_eq_some_iff.1 hj).1 hj
 ·obtain⟨j,hj⟩:=List.mem_iff_getElem?.1 hi;exact(hd x hx).2 j i (List.getElem?_eq_some_iff.1 hj).1 hj ND
 ·obtain⟨j,hj⟩:=List.mem_iff_getElem?.1 hi;exact(hr x hx).1 j i (List.getElem?_eq_some_iff.1 hj).1 hj ND v hv h0
theorem Gi(n:Nat):bD (List.replicate n false)=List.replicate n (vB false):=by simp[bD]
theorem NM{α:Type}{l:List α}(h:0<l.length):∃m x,l=m++[x]:=by
 refine⟨l.dropLast,l.getLast (by intro e;rw[e]at h;simp at h),?_⟩;exact(List.dropLast_concat_getLast _).symm
theorem Gj{w:World}{ad:Addr}{l:ar}{i:Nat}{v:Int}(h:(bo.rd (some ad) (ints l)).holds w)(hi:l[i]?=some v):w.cell? (ad.add ((i:Int).toNat*1))=some (vI v):=by
 rw[Int.toNat_natCast];exact fR h rfl hi
theorem vk(l:ar)(v:Int):(ints (l++[v])).take l.length=ints l:=by
 unfold ints;rw[List.map_append,List.take_append_of_le_length sI,List.take_of_length_le sI]
end Go.Mor
namespace Go.Mor
open Go.RowKit
def vl(bs:List SB)(pa va:Int)(ds:rn)(v b q:Int):Bool:=decide (0≤v)&&decide (v<va)&&(decide (v<pa)||match findD ds v with
 |some p=>if p.1=b then decide (p.2<q)else Cr (fS bs) p.1.toNat b.toNat
 |none=>false)
theorem vm{bs:List SB}{pa va:Int}{ds:rn}{v b q:Int}(h:vl bs pa va ds v b q=true):bX (gz bs) pa va ds v b q:=by
 unfold vl at h;simp only[Bool.and_eq_true,Bool.or_eq_true,decide_eq_true_eq]at h;obtain⟨⟨h1,h2⟩,h3⟩:=h;refine⟨h1,h2,h3.imp id fun h3=> ?_⟩;split at h3
 ·rename_i p hp;refine⟨p,hp,?_⟩;split at h3
  ·rename_i e;exact .inl ⟨e,by simpa using h3⟩
  ·rename_i e;exact .inr ⟨e,h3⟩
 ·cases h3
def Du(pa va:Int)(fs:List ay)(k:Nat)(x:ay):Bool:=(x.ah.all fun p=>p.args.length==(bS (af fs) (k:Int)).length&&(p.args.zip (bS (af fs) (k:Int))).all fun u=>vl (af fs) pa va (bF fs) u.1 u.2 20000)&&(x.insts.zipIdx.all fun p=>p.1.args.all fun a=>vl (af fs) pa va (bF fs) a (k:Int) (p.2:Int))&&((!decide (x.e=1∨(x.e=2∧x.v≠-1)))||vl (af fs) pa va (bF fs) x.v (k:Int) 20000)
theorem Gk{pa va:Int}{fs:List ay}{k:Nat}{x:ay}(hx:fs[k]?=some x)(h:Du pa va fs k x=true):eL (gz (af fs)) (fun _=>20000) pE pa va fs k:=by
 unfold Du at h;simp only[Bool.and_eq_true]at h;obtain⟨⟨h1,h2⟩,h3⟩:=h;refine⟨x,hx,fun j p hp=> ?_,fun j p hp i a ha=> ?_,fun hf=> ?_⟩
 ·have:=List.all_eq_true.1 h1 p (List.mem_of_getElem? hp);simp only[Bool.and_eq_true,beq_iff_eq]at this;refine⟨this.1,fun i a s ha hs=> ?_⟩;have hz:(a,s)∈p.args.zip (bS (af fs) (k:Int)):=by refine List.mem_of_getElem? (i:=i) ?_;rw[List.getElem?_zip_eq_some];exact⟨ha,hs⟩
  exact vm (List.all_eq_true.1 this.2 _ hz)
 ·have:=List.all_eq_true.1 h2 (p,j) (List.mem_zipIdx_iff_getElem?.2 hp);exact vm (List.all_eq_true.1 this a (List.mem_of_getElem? ha))
 ·rw[Bool.or_eq_true]at h3;rcases h3 with h3|h3
  ·simp only[Bool.not_eq_true',decide_eq_false_iff_not]at h3;exact absurd hf h3
  ·exact vm h3
def Ju(nm:cV)(pa va:Int)(fs:List ay):Bool:=decide (bt nm)&&decide (0≤pa∧pa≤16∧pa≤va)&&decide (0<fs.length)&&(match fs[0]? with|some x=>decide (x.ah.length=0)|none=>true)&&decide ((bS (af fs) 0).length=0)&&decide ((aF (af fs)).length=fs.length)&&(fs.all fun x=>decide (ix (fs.length:Int) x))&&(fs.all fun x=>x.insts.all fun p=>decide (bJ p))&&((bF fs).all fun d=>decide (pa≤d.1)&&decide (d.1<va))&&decide (((bF fs).map (·.1)).Nodup)&&(fs.zipIdx.all fun x=>Du pa va fs x.2 x.1)
theorem NN{nm:cV}{pa va:Int}{fs:List ay}(h:Ju nm pa va fs=true):j9 nm pa va fs:=by
 unfold Ju at h;simp only[Bool.and_eq_true,decide_eq_true_eq,List.all_eq_true]at h;obtain⟨⟨⟨⟨⟨⟨⟨⟨⟨⟨h1,h2⟩,h3⟩,h4⟩,h5⟩,h6⟩,h7⟩,h8⟩,h9⟩,QV⟩,Uq⟩:=h;refine⟨h1,h2,h3,fun x hx=> ?_,h5,h6,h7,⟨h8,h9,QV⟩,fun k hk=> ?_⟩
 ·rw[hx]at h4;simpa using h4
 ·obtain⟨x,hx⟩:=bu hk;exact(xy h3 h6).eL (fun _ _ h=>h) (Gk hx (Uq (x,k) (List.mem_zipIdx_iff_getElem?.2 hx)))
theorem Jv{nm:cV}{pa va:Int}{fs:List ay}(h:(decide ((dd fs:Int)>20000∨va>20000)=false)∧Ju nm pa va fs=true):bV nm pa va fs=0:=(y6 (by simpa using h.1) (NN h.2)).symm
end Go.Mor
namespace Go.Mor
open Go.RowKit
theorem xQ{p:bI}:p.e0.Ok↔p.Ok:=⟨fun h=>⟨h.dst,h.len,h.args⟩,fun h=>⟨h.dst,h.len,h.args⟩⟩
theorem xR{p:aO}:p.e0.Ok↔p.Ok:=⟨fun h=>⟨h.op,h.dst,h.n,h.name,h.len,h.args⟩,fun h=>⟨h.op,h.dst,h.n,h.name,h.len,h.args⟩⟩
theorem xS{x:ay}:x.e0.Ok↔x.Ok:=by
 constructor
 ·intro h;have h1:=h.lp;have h2:=h.li;refine⟨?_,fun p hp=>xQ.1 (h.ah p.e0 (List.mem_map.2 ⟨p,hp,rfl⟩)),?_,fun p hp=>xR.1 (h.insts p.e0 (List.mem_map.2 ⟨p,hp,rfl⟩)),h.e,h.v,h.a,h.b⟩
  ·have:gY (x.ah.map bI.e0).length:=h1;rwa [List.length_map]at this
  ·have:gY (x.insts.map aO.e0).length:=h2;rwa [List.length_map]at this
 ·intro h;refine⟨?_,fun p hp=> ?_,?_,fun p hp=> ?_,h.e,h.v,h.a,h.b⟩
  ·show gY (x.ah.map bI.e0).length;rw[List.length_map];exact h.lp
  ·obtain⟨q,hq,rfl⟩:=List.mem_map.1 hp;exact xQ.2 (h.ah q hq)
  ·show gY (x.insts.map aO.e0).length;rw[List.length_map];exact h.li
  ·obtain⟨q,hq,rfl⟩:=List.mem_map.1 hp;exact xR.2 (h.insts q hq)
theorem pL.alike{fs gs:List ay}(h:ec fs gs)(ho:pL fs):pL gs:=by
 intro y hy;have:y.e0∈fs.map ay.e0:=by rw[show fs.map ay.e0=gs.map ay.e0 from h];exact List.mem_map.2 ⟨y,hy,rfl⟩
 obtain⟨x,hx,e⟩:=List.mem_map.1 this;exact xS.1 (e▸xS.2 (ho x hx))
theorem vn{fs:List ay}(ho:pL fs):pL (eY fs):=by
 intro y hy;obtain⟨x,hx,rfl⟩:=List.mem_map.1 hy;have h:=ho x hx;exact⟨Nat.le_trans (List.length_filter_le _ _) h.lp,fun p hp=>h.ah p (List.mem_filter.1 hp).1,Nat.le_trans (List.length_filter_le _ _) h.li,fun p hp=>h.insts p (List.mem_filter.1 hp).1,h.e,h.v,h.a,h.b⟩
theorem vo{fs:List ay}:(eY fs).length=fs.length:=by unfold eY;rw[List.length_map]
theorem Dv{fs gs:List ay}(h:ec fs gs):dd fs=dd gs:=by rw[←rF fs,←rF gs,h]
theorem ec.trans{fs gs hs:List ay}(h:ec fs gs)(h':ec gs hs):ec fs hs:=Eq.trans h h'
def lP(va:Int)(fs:List ay):Prop:=gZ va fs∨1500<dd fs
instance (va : Int) (fs : List ay) : Decidable (lP va fs) := by unfold lP; infer_instance
theorem Gl{va:Int}{fs:List ay}(h:¬lP va fs):fs.length≤60∧dd fs≤1500:=by
 unfold lP at h;exact⟨uO (fun e=>h (.inl e)),oM⟩
theorem Rl{w:World}{A9:av}{e7 e9 n7 n9 c7 c9:Nat}{x:ay}(hp:x.ah=[])(h9:(bo.row e9 6 A9 n9 c9 (xV x)).holds w)(h7:(bo.row e7 5 x.iA n7 c7 (zL x.insts)).holds w)(hi:∀i,i∈x.insts→(bo.rd i.A (ints i.args)).holds w):RO ba w (.fn A9 [x]):=by
 refine RO.of (fun r hr=> ?_);rcases List.mem_cons.1 hr with rfl|hr
 ·have h1:(bo.rd A9 ([x].flatMap xV)).holds w:=by rw[show[x].flatMap xV=xV x by simp];exact aB h9
  have:=jt (f:=xV) sw oM h1;unfold bo.blocks;rw[show(af [x]).map SB.cells=[x].map xV by unfold af;rw[List.map_map];rfl];exact this
 ·obtain⟨y,hy,ZN⟩:=List.mem_flatMap.1 hr;rw[List.mem_singleton]at hy;subst hy;unfold ay.parts at ZN;rw[hp]at ZN;rcases List.mem_cons.1 ZN with rfl|hr3
  ·intro i cs h;simp at h
  rcases List.mem_cons.1 hr3 with rfl|hr4
  ·exact jt gI oM (aB h7)
  rcases List.mem_append.1 hr4 with ZO|ZO
  ·simp at ZO
  ·obtain⟨p,hp,rfl⟩:=List.mem_map.1 ZO;exact hi p hp
theorem NO{w:World}{A:av}:(bo.rd A (ints [])).holds w:=fun i v hi=>by simp[ints]at hi
def PH:cV:=⟨#[102]⟩
def wu(A5:av):ay:=⟨none,0,[],A5,1,[⟨1,0,7,⟨#[]⟩,none,0,[]⟩],2,-1,0,0⟩
theorem PI{A5:av}:pL [wu A5]:=by
 intro x hx;rw[List.mem_singleton]at hx;subst hx;refine⟨by simp[wu,gY],fun p hp=>by simp[wu]at hp,by simp[wu,gY],fun p hp=> ?_,by simp[wu,In64],by simp[wu,In64],by simp[wu,In64],by simp[wu,In64]⟩;simp only[wu,List.mem_cons,List.not_mem_nil,or_false]at hp;subst hp;exact⟨by simp[In64],by simp[In64],by simp[In64],by show(0:Nat)≤_;omega,by simp[gY],fun x hx=>by simp at hx⟩
theorem BL{A5:av}:bV PH 0 1 [wu A5]=0:=Jv ⟨by simp[dd,jl,wu],by rfl⟩
theorem UO{A5:av}{v:Int}:¬Rd [wu A5] v:=by
 intro h;have pu:cP 1:=by unfold cP;omega
 induction h with
 | @inst x i v hx hi hp hv h0=>
  rw[List.mem_singleton]at hx;subst hx;simp only[wu,List.mem_cons,List.not_mem_nil,or_false]at hi;subst hi;exact hp pu
 | @fin x hx he h0=>
  rw[List.mem_singleton]at hx;subst hx;simp[wu]at h0
 |pK _ _ _ _ _ ih=>exact ih
 |pure _ _ _ _ _ _ ih=>exact ih
theorem NP{A5:av}:dd (eY [wu A5])=1:=by
 have pu:cP 1:=by unfold cP;omega
 have:eY [wu A5]=[{wu A5 with insts:=[]}]:=by unfold eY gS;simp only[List.map_cons,List.map_nil];congr 1;unfold wu;simp only[ay.mk.injEq,true_and,and_true,List.filter_nil];rw[List.filter_cons_of_neg (by unfold lK;rw[decide_eq_true_eq,Classical.not_not];exact⟨pu,UO⟩),List.filter_nil]
 rw[this];rfl
end Go.Mor
namespace Go.Mor
open Go.RowKit
theorem vp{α:Type}{l:List α}{k:Nat}{x:α}(h:l[k]?=some x):l.set k x=l:=by
 obtain⟨hk,he⟩:=List.getElem?_eq_some_iff.1 h;rw[←he];exact List.set_getElem_self hk
section
variable {fs gs : List ay} {x : ay} {k j : Nat}
theorem Jw(h:ec fs gs)(hx:fs[k]?=some x):∃A1 c1 ps A2 c2 is,gs[k]?=some ⟨A1,c1,ps,A2,c2,is,x.e,x.v,x.a,x.b⟩∧ps.map bI.e0=x.ah.map bI.e0∧is.map aO.e0=x.insts.map aO.e0:=by
 obtain⟨y,hy,e⟩:=oB h hx;have e1:x.e=y.e:=I3 e;have e2:x.v=y.v:=F0 e;have e3:x.a=y.a:=show x.e0.a=y.e0.a by rw[e]
 have e4:x.b=y.b:=show x.e0.b=y.e0.b by rw[e]
 have e5:=rC e;have e6:=rD e;obtain⟨A1,c1,ps,A2,c2,is,ye,yv,ya,yb⟩:=y;simp only at e1 e2 e3 e4 e5 e6;subst e1;subst e2;subst e3;subst e4;exact⟨A1,c1,ps,A2,c2,is,hy,e5.symm,e6.symm⟩
theorem Rm{ps qs:List bI}(h:qs.map bI.e0=ps.map bI.e0){p:bI}(hp:ps[j]?=some p):∃A c,qs[j]?=some ⟨p.dst,A,c,p.args⟩:=by
 have h1:=congrArg (fun l:List bI=>l[j]?) h;simp only[List.getElem?_map,hp,Option.map_some]at h1;obtain⟨q,hq⟩:=bu (l:=qs) (i:=j) (by rw[eM h];exact(List.getElem?_eq_some_iff.1 hp).1);rw[hq,Option.map_some]at h1;injection h1 with h1;obtain⟨d,A,c,a⟩:=q;unfold bI.e0 at h1;simp only[bI.mk.injEq,true_and]at h1;obtain⟨rfl,rfl⟩:=h1;exact⟨A,c,hq⟩
theorem Rn{ps qs:List aO}(h:qs.map aO.e0=ps.map aO.e0){p:aO}(hp:ps[j]?=some p):∃A c,qs[j]?=some ⟨p.op,p.dst,p.n,p.name,A,c,p.args⟩:=by
 have h1:=congrArg (fun l:List aO=>l[j]?) h;simp only[List.getElem?_map,hp,Option.map_some]at h1;obtain⟨q,hq⟩:=bu (l:=qs) (i:=j) (by rw[eM h];exact(List.getElem?_eq_some_iff.1 hp).1);rw[hq,Option.map_some]at h1;injection h1 with h1;obtain⟨o,d,n,nm,A,c,a⟩:=q;unfold aO.e0 at h1;simp only[aO.mk.injEq,true_and]at h1;obtain⟨rfl,rfl,rfl,rfl,rfl⟩:=h1;exact⟨A,c,hq⟩
end
theorem Jx{w:World}:RO ba w (.fn none []):=RO.of fun r hr=>by
 rcases List.mem_cons.1 hr with rfl|hr
 ·intro i cs h;simp[af]at h
 ·simp at hr
def aO.z(p:aO):aO:={p with args:=List.replicate p.args.length 0}
def ay.z(x:ay):ay:={x with insts:=x.insts.map aO.z}
def BM(gd fe:List ay):Prop:=gd.map ay.z=fe.map ay.z
section
variable {gd fe : List ay} {x : ay} {kb ki kj : Nat} {p : aO} {ys : List aO} {us : List Int}
theorem PJ(h:BM gd fe)(hx:fe[kb]?=some x):∃ys,gd[kb]?=some {x with insts:=ys}∧ys.map aO.z=x.insts.map aO.z:=by
 have hl:gd.length=fe.length:=eM h;have h1:=congrArg (fun l:List ay=>l[kb]?) h;simp only[List.getElem?_map,hx,Option.map_some]at h1;obtain⟨y,hy⟩:=bu (l:=gd) (i:=kb) (by rw[hl];exact(List.getElem?_eq_some_iff.1 hx).1);rw[hy,Option.map_some]at h1;injection h1 with h1;refine⟨y.insts,?_,congrArg ay.insts h1⟩;rw[hy];congr 1;obtain⟨a1,a2,a3,a4,a5,a6,a7,a8,a9,jG⟩:=y;obtain⟨b1,b2,b3,b4,b5,b6,b7,b8,b9,eF⟩:=x;unfold ay.z at h1;simp only[ay.mk.injEq]at h1⊢;obtain⟨h1,h2,h3,h4,h5,h6,h7,h8,h9,QV⟩:=h1;exact⟨h1,h2,h3,h4,h5,trivial,h7,h8,h9,QV⟩
theorem UP(h:ys.map aO.z=x.insts.map aO.z)(hp:x.insts[ki]?=some p):∃us,ys[ki]?=some {p with args:=us}∧us.length=p.args.length:=by
 have h1:=congrArg (fun l:List aO=>l[ki]?) h;simp only[List.getElem?_map,hp,Option.map_some]at h1;obtain⟨q,hq⟩:=bu (l:=ys) (i:=ki) (by rw[eM h];exact(List.getElem?_eq_some_iff.1 hp).1);rw[hq,Option.map_some]at h1;injection h1 with h1;refine⟨q.args,?_,?_⟩
 ·rw[hq];congr 1;obtain⟨a1,a2,a3,a4,a5,a6,a7⟩:=q;obtain⟨b1,b2,b3,b4,b5,b6,b7⟩:=p;unfold aO.z at h1;simp only[aO.mk.injEq]at h1⊢;obtain⟨h1,h2,h3,h4,h5,h6,h7⟩:=h1;exact⟨h1,h2,h3,h4,h5,h6,trivial⟩
 ·have:=congrArg (fun i:aO=>i.args.length) h1;simpa[aO.z]using this
theorem NQ(p:aO):p.z.cells=p.cells:=by unfold aO.z aO.cells;simp
theorem Jy(h:ys.map aO.z=x.insts.map aO.z):zL ys=zL x.insts:=by
 have e:∀l:List aO,zL l=zL (l.map aO.z):=by intro l;unfold zL;rw[List.flatMap_map];congr 1;funext p;exact(NQ p).symm
 rw[e ys,h,←e]
theorem NR{S:Nat→Prop}{w0 w:World}{L:List bo}(h:Mem S w0 w (.pk (gd.map bT)::L))(hy:gd[kb]?=some {x with insts:=ys})(hz:ys.map aO.z=x.insts.map aO.z)(hp:ys[ki]?=some {p with args:=us})(hl:us.length=p.args.length):Mem S w0 w (.row 3 1 p.A p.args.length p.c (ints us)::qE x.pA x.pc x.ah::dJ x.iA x.ic x.insts:: .pk (x.ah.map di):: .pk ((ys.map de).eraseIdx ki):: .pk ((gd.map bT).eraseIdx kb)::L):=by
 have h1:=h.Jb kb (r:=bT {x with insts:=ys}) (by rw[List.getElem?_map,hy];rfl);have h2:Mem S w0 w (qE x.pA x.pc x.ah::dJ x.iA x.ic ys:: .pk (x.ah.map di):: .pk (ys.map de):: .pk ((gd.map bT).eraseIdx kb)::L):=Mem.unpack (l:=F9 {x with insts:=ys}) h1;have h3:dJ x.iA x.ic ys=dJ x.iA x.ic x.insts:=by unfold dJ;rw[Jy hz,eM hz]
 rw[h3]at h2;have h4:Mem S w0 w (.pk (ys.map de)::qE x.pA x.pc x.ah::dJ x.iA x.ic x.insts:: .pk (x.ah.map di):: .pk ((gd.map bT).eraseIdx kb)::L):=h2.perm (List.perm_middle (l₁:=[qE x.pA x.pc x.ah,dJ x.iA x.ic x.insts,bo.pk (x.ah.map di)]) (a:=bo.pk (ys.map de)) (l₂:=bo.pk ((gd.map bT).eraseIdx kb)::L));have h5:=h4.Jb ki (r:=de {p with args:=us}) (by rw[List.getElem?_map,hp];rfl);have h6:de {p with args:=us}= .row 3 1 p.A p.args.length p.c (ints us):=by unfold de;rw[←hl]
 rw[h6]at h5;refine h5.perm (List.Perm.cons _ ?_);exact(List.perm_middle (l₁:=[qE x.pA x.pc x.ah,dJ x.iA x.ic x.insts,bo.pk (x.ah.map di)]) (a:=bo.pk ((ys.map de).eraseIdx ki)) (l₂:=bo.pk ((gd.map bT).eraseIdx kb)::L)).symm
theorem pt{α β:Type}(f:α→β)(l:List α)(k:Nat)(y:α):(l.set k y).map f=(l.map f).set k (f y):=List.map_set
theorem Ro{S:Nat→Prop}{w0 w:World}{L:List bo}{zM:ar}(h:Mem S w0 w (.row 3 1 p.A p.args.length p.c (ints zM)::qE x.pA x.pc x.ah::dJ x.iA x.ic x.insts:: .pk (x.ah.map di):: .pk ((ys.map de).eraseIdx ki):: .pk ((gd.map bT).eraseIdx kb)::L))(hb:kb<gd.length)(hz:(ys.set ki {p with args:=zM}).map aO.z=x.insts.map aO.z)(hi:ki<ys.length)(hl:zM.length=p.args.length):Mem S w0 w (.pk ((gd.set kb {x with insts:=ys.set ki {p with args:=zM}}).map bT)::L):=by
 have h6:de {p with args:=zM}= .row 3 1 p.A p.args.length p.c (ints zM):=by unfold de;rw[←hl]
 rw[←h6]at h;have h5:Mem S w0 w (de {p with args:=zM}:: .pk ((ys.map de).eraseIdx ki)::qE x.pA x.pc x.ah::dJ x.iA x.ic x.insts:: .pk (x.ah.map di):: .pk ((gd.map bT).eraseIdx kb)::L):=h.perm (List.Perm.cons _ (List.perm_middle (l₁:=[qE x.pA x.pc x.ah,dJ x.iA x.ic x.insts,bo.pk (x.ah.map di)]) (a:=bo.pk ((ys.map de).eraseIdx ki)) (l₂:=bo.pk ((gd.map bT).eraseIdx kb)::L)));have h4:=h5.PE (by rw[List.length_map];exact hi);rw[←pt]at h4;have h3:dJ x.iA x.ic x.insts=dJ x.iA x.ic (ys.set ki {p with args:=zM}):=by unfold dJ;rw[Jy hz,eM hz]
 rw[h3]at h4;have h2:Mem S w0 w (qE x.pA x.pc x.ah::dJ x.iA x.ic (ys.set ki {p with args:=zM}):: .pk (x.ah.map di):: .pk ((ys.set ki {p with args:=zM}).map de):: .pk ((gd.map bT).eraseIdx kb)::L):=h4.perm (List.perm_middle (l₁:=[qE x.pA x.pc x.ah,dJ x.iA x.ic (ys.set ki {p with args:=zM}),bo.pk (x.ah.map di)]) (a:=bo.pk ((ys.set ki {p with args:=zM}).map de)) (l₂:=bo.pk ((gd.map bT).eraseIdx kb)::L)).symm;have h1:Mem S w0 w (bT {x with insts:=ys.set ki {p with args:=zM}}:: .pk ((gd.map bT).eraseIdx kb)::L):=Mem.pack (l:=F9 {x with insts:=ys.set ki {p with args:=zM}}) h2;have h0:=h1.PE (by rw[List.length_map];exact hb);rwa [←pt]at h0
theorem Jz(hz:ys.map aO.z=x.insts.map aO.z)(hp:x.insts[ki]?=some p){zM:ar}(hl:zM.length=p.args.length):(ys.set ki {p with args:=zM}).map aO.z=x.insts.map aO.z:=by
 rw[pt,hz];have:aO.z {p with args:=zM}=p.z:=by unfold aO.z;simp only[hl]
 rw[this,←pt];congr 1;exact vp hp
theorem UQ(hz:BM gd fe)(hx:fe[kb]?=some x){zs:List aO}(hi:zs.map aO.z=x.insts.map aO.z):BM (gd.set kb {x with insts:=zs}) fe:=by
 unfold BM;rw[pt,show gd.map ay.z=fe.map ay.z from hz];have:ay.z {x with insts:=zs}=x.z:=by unfold ay.z;simp only[hi]
 rw[this,←pt];congr 1;exact vp hx
theorem EL{w:World}(h:(bo.pk (gd.map bT)).holds w)(hz:BM gd fe)(hx:fe[kb]?=some x):(dJ x.iA x.ic x.insts).holds w:=by
 obtain⟨ys,hy,Ym⟩:=PJ hz hx;have hb:(bT {x with insts:=ys}).holds w:=oE h (List.mem_map.2 ⟨_,List.mem_of_getElem? hy,rfl⟩);have:(dJ x.iA x.ic ys).holds w:=oE hb sI;have h3:dJ x.iA x.ic ys=dJ x.iA x.ic x.insts:=by unfold dJ;rw[Jy Ym,eM Ym]
 rwa [h3]at this
end
end Go.Mor
