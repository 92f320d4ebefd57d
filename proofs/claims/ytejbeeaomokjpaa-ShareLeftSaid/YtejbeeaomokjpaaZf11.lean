/-
  Texts of the proof, part 11.
-/
import Derived.Test.YtejbeeaomokjpaaZf10
import Derived.Shelf.SlSortCmp.Whole1
set_option maxRecDepth 10000
namespace Go.Mor
open Go.RowKit Go.Sort Go.Proofs
def Gw(w w':World):Prop:=∃q os,w'=grow (w.drewN q) os
theorem Gw.refl(w:World):Gw w w:=⟨0,#[],by rw[grow_empty];rfl⟩
theorem Gw.drew{w w':World}(h:Gw w w'):Gw w w'.drew:=by
 obtain⟨q,os,rfl⟩:=h;exact⟨q+1,os,rfl⟩
theorem Gw.kp{w w':World}(h:Gw w w'):Mem ba w w' []:=by
 obtain⟨q,os,rfl⟩:=h;refine⟨rfl,rfl,rfl,by simp[grow,World.drewN],fun k hk _=> ?_,sI,List.Pairwise.nil⟩;show(w.heap++os)[k]?=w.heap[k]?;rw[Array.getElem?_append_left hk]
end Go.Mor
namespace Go.Mor
open Go.RowKit Go.Sort Go.Proofs
theorem tm{α:Type}[Inhabited α](enc:α→Value)(d:Array α)(cur:Array Value)(h:d.size≤cur.size):((putCells enc 0 d cur).toList).take d.size=d.toList.map enc:=by
 refine List.ext_getElem? fun i=> ?_
 by_cases hi:i<d.size
 ·have h2:i<cur.size:=oM;have e1:(putCells enc 0 d cur).toList[i]?=some (enc d[i]!):=by unfold putCells;rw[Array.getElem?_toList,Array.getElem?_mapIdx,Array.getElem?_eq_getElem h2];simp[hi]
  rw[List.getElem?_take_of_lt hi,e1,List.getElem?_map,Array.getElem?_toList,Array.getElem?_eq_getElem hi];simp[hi]
 ·rw[List.getElem?_eq_none (by rw[List.length_take];omega),List.getElem?_eq_none (by simp;omega)]
theorem BE{α:Type}[Inhabited α](enc:α→Value){w:World}{e n c g:Nat}{xs:aW}(h:(bo.row e 1 (some (aZ g)) n c xs).holds w)(m:Nat){dk:Array α}(hd:dk.size=n)(os:Array Obj):Mem (bo.row e 1 (some (aZ g)) n c xs).fp w (sortWorld enc w g 0 m dk os) [.row e 1 (some (aZ g)) n c (dk.toList.map enc)]:=by
 obtain⟨hl,h2⟩:=h;rcases h2 with⟨h2,_⟩|⟨g',cap,cur,hv,hb,hg,Ps,T6,Cn,ht⟩
 ·cases h2
 injection hv with hv _ hc;injection hv with hv;injection hv with hv;subst hv hc;have fm:g<w.heap.size:=mI hg;have Jg:(sortWorld enc w g 0 m dk os).heap=(w.heap.modify g (onCells (putCells enc 0 dk)))++os:=rfl;refine⟨rfl,rfl,rfl,?_,fun k hk cU=> ?_,?_,List.pairwise_singleton _ _⟩
 ·rw[Jg];simp
 ·rw[Jg,Array.getElem?_append_left (by simpa using hk),Array.getElem?_modify,if_neg];intro e1;subst e1;exact cU ⟨(aZ g),rfl,rfl⟩
 ·simp only[List.mem_singleton];rintro _ rfl;refine⟨⟨by simp[hd],.inr ⟨g,c,putCells enc 0 dk cur,rfl,hb,?_,Ps,T6,?_,?_⟩⟩,fun k hk=> .inl hk⟩
  ·rw[Jg,Array.getElem?_append_left (by simpa using fm),Array.getElem?_modify,if_pos rfl,hg];rfl
  ·simpa[putCells]using Cn
  ·rw[Nat.mul_one,←hd];refine tm enc dk cur ?_;rw[Nat.mul_one]at Cn;omega
theorem Ga{α:Type}[Inhabited α](enc:α→Value){w:World}{e n c g:Nat}{d:Array α}(h:(bo.row e 1 (some (aZ g)) n c (d.toList.map enc)).holds w):Holds enc w g 0 d:=by
 intro j hj;obtain⟨ad,ha,hc⟩:=aB h j (enc d[j]!) (by rw[List.getElem?_map,Array.getElem?_toList,Array.getElem?_eq_getElem hj];simp[hj]);injection ha with ha;subst ha;rw[yq]at hc;have hf:=mK h j;rw[yq]at hf;exact⟨by rw[Nat.zero_add];exact hc,by rw[Nat.zero_add];exact hf⟩
def jY(n:Nat)(key:Nat→Int)(il:List Nat):Prop:=il.Perm (List.range n)∧il.Pairwise (fun i j=>key i≤key j)
def rJ(nl fl:ar)(i:Nat):Int:=nl.getD (fl.getD i 0).toNat 0
theorem jY.rising{n:Nat}{key:Nat→Int}{il:List Nat}(h:jY n key il)(hr:∀i j,i<j→j<n→key i<key j):il=List.range n:=by
 have key_inj:∀i j,i<n→j<n→key i≤key j→key j≤key i→i=j:=by
  intro i j hi hj h1 h2;rcases Nat.lt_trichotomy i j with h3|h3|h3
  ·have:=hr i j h3 hj;omega
  ·exact h3
  ·have:=hr j i h3 hi;omega
 refine List.Perm.eq_of_pairwise (le:=fun i j=>key i≤key j) ?_ h.2 ?_ h.1
 ·intro a b ha hb h1 h2;have nQ:=List.mem_range.1 (h.1.mem_iff.1 ha);have Co:=List.mem_range.1 hb;exact key_inj a b nQ Co h1 h2
 ·rw[List.pairwise_iff_getElem];intro i j hi hj Mu;simp only[List.length_range]at hi hj;simp only[List.getElem_range];have:=hr i j Mu hj;omega
def gD(l:List Nat):ar:=l.map (fun i:Nat=>(i:Int))
theorem Gb{l:List Nat}{j i:Nat}(h:l[j]?=some i):(gD l)[j]?=some (i:Int):=by simp[gD,h]
theorem Gc{f:Nat→Int}{l:List Nat}{j i:Nat}(h:l[j]?=some i):(l.take (j+1)).map f=(l.take j).map f++[f i]:=by
 obtain⟨hj,he⟩:=List.getElem?_eq_some_iff.1 h;rw[List.take_succ_eq_append_getElem hj,List.map_append,he];rfl
def s7(n j:Nat):ar:=gD (List.range j)++List.replicate (n-j) 0
theorem Dn(n:Nat):ints (s7 n 0)=List.replicate n (vI 0):=by simp[s7,gD,ints]
theorem Gd(n:Nat):s7 n n=gD (List.range n):=by simp[s7]
theorem Dp{n j:Nat}(h:j<n):(ints (s7 n j)).set j (vI (j:Int))=ints (s7 n (j+1)):=by
 unfold s7 gD ints;obtain⟨d,hd⟩:=Nat.le.dest h;rw[show n-j=d+1 by omega,show n-(j+1)=d by omega,List.replicate_succ,List.range_succ];simp
def zh(n:Nat)(i:Fin n):Value:=vI (i.val:Int)
def Rg(nl fl:ar)(n:Nat)(i j:Fin n):Int:=rJ nl fl i.val-rJ nl fl j.val
theorem Nx(nl fl:ar)(n:Nat):SWO (ltOf (Rg nl fl n)):=by
 have e:∀x y,ltOf (Rg nl fl n) x y=decide (rJ nl fl x.val<rJ nl fl y.val):=by intro x y;unfold ltOf Rg;exact decide_eq_decide.2 oM
 refine⟨fun x=> ?_,fun x y z h1 h2=> ?_,fun x y z h1 h2=> ?_⟩
 ·rw[e];simp
 ·rw[e]at*;simp at*;omega
 ·rw[e]at*;simp at*;omega
theorem Dq(n:Nat):((Array.ofFn (n:=n) id).toList).map (zh n)=ints (gD (List.range n)):=by
 refine List.ext_getElem? fun i=> ?_
 by_cases hi:i<n
 ·simp[ints,gD,zh,hi]
 ·simp[ints,gD,zh,hi]
theorem Dr{nl fl:ar}{n:Nat}[Inhabited (Fin n)]{d':Array (Fin n)}(hp:PermIn 0 (Array.ofFn (n:=n) id).size (Array.ofFn (n:=n) id) d')(hs:SortedIn (ltOf (Rg nl fl n)) 0 (Array.ofFn (n:=n) id).size d'):jY n (rJ nl fl) (d'.toList.map (·.val))∧d'.toList.map (zh n)=ints (gD (d'.toList.map (·.val))):=by
 obtain⟨h1,_,h3⟩:=hp;have hn:(Array.ofFn (n:=n) id).size=n:=sI;have pD:d'.size=n:=by rw[h1,hn]
 refine⟨⟨?_,?_⟩,?_⟩
 ·have e1:d'.extract 0 (Array.ofFn (n:=n) id).size=d':=by rw[←h1];exact Array.extract_size
  rw[e1,Array.extract_size]at h3;have:=h3.map (fun i:Fin n=>i.val);refine this.trans ?_;have e2:((Array.ofFn (n:=n) id).toList).map (fun i:Fin n=>i.val)=List.range n:=by
   refine List.ext_getElem? fun i=> ?_
   by_cases hi:i<n<;>simp[hi]
  rw[e2]
 ·rw[List.pairwise_iff_getElem];intro i j hi hj Mu;simp only[List.length_map,Array.length_toList]at hi hj;have:=hs i j (Nat.zero_le _) Mu (by rw[hn,←pD];exact hj);rw[getElem!_pos d' j oM,getElem!_pos d' i oM]at this;unfold ltOf Rg at this;simp only[decide_eq_false_iff_not]at this;simp only[List.getElem_map,Array.getElem_toList];omega
 ·unfold ints gD;rw[List.map_map,List.map_map];rfl
end Go.Mor
namespace Go.Mor
open Go.RowKit
def qF{α β:Type}(R:α→β→Prop)(l:List α)(m:List β):Prop:=l.length=m.length∧∀(i:Nat) (x:α) (y:β),l[i]?=some x→m[i]?=some y→R x y
section
variable {α β : Type} {R : α → β → Prop} {l : List α} {m : List β}
theorem qF.nil:qF R [] []:=⟨rfl,fun i x y h=>by simp at h⟩
theorem qF.snoc(h:qF R l m){x:α}{y:β}(hr:R x y):qF R (l++[x]) (m++[y]):=by
 obtain⟨hl,h⟩:=h;refine⟨by simp[hl],fun i a b ha hb=> ?_⟩;rcases Nat.lt_trichotomy i l.length with h1|h1|h1
 ·rw[List.getElem?_append_left h1]at ha;rw[List.getElem?_append_left oM]at hb;exact h i a b ha hb
 ·subst h1;rw[List.getElem?_append_right (Nat.le_refl _),Nat.sub_self]at ha;rw[List.getElem?_append_right oM,hl,Nat.sub_self]at hb;simp at ha hb;subst ha hb;exact hr
 ·rw[List.getElem?_eq_none (by simp;omega)]at ha;cases ha
theorem qF.next{k:Nat}(h:qF R (l.take k) m){x:α}(hx:l[k]?=some x){y:β}(hr:R x y):qF R (l.take (k+1)) (m++[y]):=by
 obtain⟨hk,he⟩:=List.getElem?_eq_some_iff.1 hx;rw[List.take_succ_eq_append_getElem hk,he];exact h.snoc hr
end
def rK(gl:List Bool)(k:Nat):Nat:=((gl.take k).filter (fun b=> !b)).length
def qG(gl:List Bool)(k:Nat):ar:=(List.range gl.length).map (fun i=>if i<k∧gl.getD i true=false then(rK gl i:Int)else 0)
theorem EG(gl:List Bool)(k:Nat):rK gl k≤k:=by
 unfold rK;exact Nat.le_trans (List.length_filter_le _ _) (by simp;omega)
theorem Jh{gl:List Bool}{k:Nat}(h:gl[k]?=some false):rK gl (k+1)=rK gl k+1:=by
 obtain⟨hk,he⟩:=List.getElem?_eq_some_iff.1 h;unfold rK;rw[List.take_succ_eq_append_getElem hk,List.filter_append,he];simp
theorem Ny{gl:List Bool}{k:Nat}(h:gl[k]?=some true):rK gl (k+1)=rK gl k:=by
 obtain⟨hk,he⟩:=List.getElem?_eq_some_iff.1 h;unfold rK;rw[List.take_succ_eq_append_getElem hk,List.filter_append,he];simp
theorem BF(gl:List Bool)(k:Nat):(qG gl k).length=gl.length:=by simp[qG]
theorem Ge(gl:List Bool):ints (qG gl 0)=List.replicate gl.length (vI 0):=by
 unfold qG ints;simp only[Nat.not_lt_zero,false_and,if_false,List.map_map];refine List.ext_getElem? fun i=> ?_
 by_cases hi:i<gl.length
 ·simp[hi]
 ·simp[hi]
theorem Ji{gl:List Bool}{k:Nat}(h:gl[k]?=some false):(ints (qG gl k)).set k (vI (rK gl k:Int))=ints (qG gl (k+1)):=by
 obtain⟨hk,he⟩:=List.getElem?_eq_some_iff.1 h;unfold qG ints;refine List.ext_getElem? fun i=> ?_
 by_cases hi:i<gl.length
 ·by_cases e:k=i
  ·subst e;rw[List.getElem?_set_self (by simpa using hk)];simp[hk,List.getD,he]
  ·rw[List.getElem?_set_ne e];simp only[List.getElem?_map,List.getElem?_range hi,Option.map_some];have:(i<k∧gl.getD i true=false)↔(i<k+1∧gl.getD i true=false):=and_congr oM Iff.rfl;simp only[this]
 ·rw[List.getElem?_eq_none (by simp;omega),List.getElem?_eq_none (by simp;omega)]
theorem Nz{gl:List Bool}{k:Nat}(h:gl[k]?=some true):qG gl k=qG gl (k+1):=by
 obtain⟨hk,he⟩:=List.getElem?_eq_some_iff.1 h;unfold qG;refine List.map_congr_left fun i _=> ?_
 have:(i<k∧gl.getD i true=false)↔(i<k+1∧gl.getD i true=false):=by
  by_cases e:i=k
  ·subst e;simp[List.getD,h]
  ·exact and_congr oM Iff.rfl
 simp only[this]
def ve(gl:List Bool):ar:=qG gl gl.length
theorem BG{gl:List Bool}{k i:Nat}(hi:i<gl.length):(qG gl k).getD i 0=if i<k∧gl.getD i true=false then(rK gl i:Int)else 0:=by
 unfold qG;rw[List.getD_eq_getElem?_getD,List.getElem?_map,List.getElem?_range hi];rfl
theorem Jj(gl:List Bool)(k:Nat)(hl:gl.length≤1000000):0≤(ve gl).getD k 0∧(ve gl).getD k 0≤1000000:=by
 unfold ve;by_cases hk:k<gl.length
 ·have:=EG gl k;rw[BG hk];by_cases hc:k<gl.length∧gl.getD k true=false
  ·rw[if_pos hc];omega
  ·rw[if_neg hc];omega
 ·rw[List.getD_eq_getElem?_getD,List.getElem?_eq_none (by rw[BF];omega)];simp
def lb(ks:List gO):List Bool:=ks.map (fun x=>x.gone)
def toA(nl:ar)(e a:Int):Int:=if e=0∨e=1 then nl.getD a.toNat 0 else if e=3 then a else 0
def toBb(nl:ar)(e b:Int):Int:=if e=1 then nl.getD b.toNat 0 else 0
def ZG(nl:ar)(p:vb)(q:bI):Prop:=q.dst=p.dst∧∃il,jY p.from_.length (rJ nl p.from_) il∧q.args=il.map (fun i=>p.args.getD i 0)
structure iM(nl:ar)(x:gO)(y:ay):Prop where
 ah:qF (ZG nl) x.ah y.ah
 insts:y.insts.map aO.e0=x.insts
 e:y.e=x.e
 v:y.v=x.v
 a:y.a=toA nl x.e x.a
 b:y.b=toBb nl x.e x.b
def pP(ks:List gO):List gO:=ks.filter (fun x=> !x.gone)
def Yi(ks:List gO)(fs:List ay):Prop:=qF (iM (ve (lb ks))) (pP ks) fs
structure Rh(n:Int)(x:gO):Prop where
 lp:x.ah.length≤20000
 ah:∀p,p∈x.ah→0<p.from_.length∧p.from_.length≤20000∧p.args.length=p.from_.length∧∀s,s∈p.from_→0≤s∧s<n
 e0:x.e=0→0≤x.a∧x.a<n
 e1:x.e=1→(0≤x.a∧x.a<n)∧0≤x.b∧x.b<n
theorem Jk{ks:List gO}{k:Nat}{x:gO}(hx:ks[k]?=some x)(h:x.gone=false):pP (ks.take (k+1))=pP (ks.take k)++[x]:=by
 obtain⟨hk,he⟩:=List.getElem?_eq_some_iff.1 hx;unfold pP;rw[List.take_succ_eq_append_getElem hk,List.filter_append,he];simp[h]
theorem NB{ks:List gO}{k:Nat}{x:gO}(hx:ks[k]?=some x)(h:x.gone=true):pP (ks.take (k+1))=pP (ks.take k):=by
 obtain⟨hk,he⟩:=List.getElem?_eq_some_iff.1 hx;unfold pP;rw[List.take_succ_eq_append_getElem hk,List.filter_append,he];simp[h]
section
variable {w : World} {A : Option Addr} {c : Nat} {ad : Addr} {k : Nat} {gs : List bz} {x : bz}
theorem tW(h:(jh A c gs).holds w)(hA:A=some ad)(hx:gs[k]?=some x):w.cell? (ad.add (k*1))=some (vP (aZ x.g)):=bB (aB h) hA (by unfold jA;rw[List.getElem?_map,hx];rfl)
theorem BH(h:(bo.pk (gs.map gB)).holds w)(hx:gs[k]?=some x){r:bo}(hr:r∈gL x):r.holds w:=oE (oE h (List.mem_map.2 ⟨x,List.mem_of_getElem? hx,rfl⟩):(gB x).holds w) hr
theorem ng(h:(bo.pk (gs.map gB)).holds w)(hx:gs[k]?=some x){j:Nat}{v:Value}(hj:(gV x)[j]?=some v):w.cell? (ak x.g j)=some v:=ae (BH h hx (r:= .au x.g 65 (gV x)) sI) hj
theorem NC(hx:gs[k]?=some x):(lb (gs.map bz.k))[k]?=some x.gone:=by
 unfold lb;rw[List.getElem?_map,List.getElem?_map,hx];rfl
theorem xP(ks:List gO):(lb ks).length=ks.length:=by simp[lb]
end
end Go.Mor
namespace Go.Mor
open Go.RowKit
def cI.f(p:cI):bI:=⟨p.dst,none,0,p.args⟩
def bz.f(x:bz):ay:=⟨none,0,x.ah.map cI.f,none,0,x.insts.map aO.e0,x.e,x.v,x.a,x.b⟩
section
variable {fs : List ay} {gs : List bz} {nm : ByteArray} {pa va : Int}
theorem UJ(h:gs.map bz.k=lN fs):gs.map bz.f=fs.map ay.e0:=by
 have hl:gs.length=fs.length:=by have:=Qgu List.length h;rwa [List.length_map,jR]at this
 refine List.ext_getElem? fun i=> ?_
 rw[List.getElem?_map,List.getElem?_map];by_cases hi:i<fs.length
 ·obtain⟨x,hx⟩:=bu (l:=fs) hi;obtain⟨y,hy⟩:=bu (l:=gs) (i:=i) oM;have h1:=Qgu (fun l:List gO=>l[i]?) h;simp only[List.getElem?_map,hy,Option.map_some,mA hx]at h1;injection h1 with h1;rw[hx,hy,Option.map_some,Option.map_some];congr 1;unfold bz.f ay.e0;have e1:y.ah.map cI.k=x.ah.map (oG (bS (af fs) (i:Int))):=Qgu gO.ah h1;have e2:y.insts.map aO.e0=x.insts.map aO.e0:=Qgu gO.insts h1;have e3:y.e=x.e:=Qgu gO.e h1;have e4:y.v=x.v:=Qgu gO.v h1;have e5:y.a=x.a:=Qgu gO.a h1;have e6:y.b=x.b:=Qgu gO.b h1;have e7:y.ah.map cI.f=x.ah.map bI.e0:=by have h2:=Qgu (List.map (fun p:vb=>(⟨p.dst,none,0,p.args⟩:bI))) e1;rw[List.map_map,List.map_map]at h2;exact h2
  rw[e2,e3,e4,e5,e6,e7]
 ·rw[List.getElem?_eq_none oM,List.getElem?_eq_none oM];rfl
theorem BI(h:gs.map bz.k=lN fs):ec fs (gs.map bz.f):=by
 unfold ec;rw[UJ h,List.map_map];refine List.map_congr_left fun x _=> ?_
 show x.e0=x.e0.e0;unfold ay.e0;simp only[List.map_map];rfl
end
theorem rL{α β:Type}{f:α→List β}:∀{l:List α} {x:α},x∈l→(f x).Sublist (l.flatMap f)
 |a::l,x,h=>by
  rw[List.flatMap_cons];rcases List.mem_cons.1 h with rfl|h
  ·exact List.sublist_append_left _ _
  ·exact(rL h).trans (List.sublist_append_right _ _)
abbrev FrE:=aX×Nat×ar
structure Wk(gs:List bz)(n:Nat)(fc:List FrE)(rl:List Bool)(ls:ar):Prop where
 len:rl.length=n
 rd:∀i:Nat,i<n→rl.getD i false=true→Rd (gs.map bz.f) (i:Int)
 Tv:∀v,v∈ls→0≤v∧v<(n:Int)∧rl.getD v.toNat false=true
 PF:ls.length≤vd rl
 closed:∀i:Nat,i<n→rl.getD i false=true→(i:Int)∈ls∨∀e,fc[i]?=some e→∀a,a∈e.2.2→0≤a→rl.getD a.toNat false=true
end Go.Mor
namespace Go.Mor
open Go.RowKit
end Go.Mor
namespace Go.Mor
end Go.Mor
namespace Go.Mor
open Go.RowKit
structure VR(n:Nat)(x:ay):Prop where
 ah:∀p,p∈x.ah→0≤p.dst∧p.dst<(n:Int)
 insts:∀p,p∈x.insts→-1≤p.dst∧p.dst<(n:Int)∧∀a,a∈p.args→0≤a∧a<(n:Int)
 fin:wo x→0≤x.v∧x.v<(n:Int)
end Go.Mor
namespace Go.Mor
open Go.RowKit
end Go.Mor
namespace Go.Mor
end Go.Mor
namespace Go.Mor
end Go.Mor
namespace Go.Mor
open Go.RowKit
theorem Jl{fs:List ay}{k:Nat}{x:ay}{p:bI}(hx:fs[k]?=some x)(hp:p∈x.ah):(p.dst,(k:Int),-1)∈bF fs:=by
 unfold bF db;rw[List.take_length,List.mem_flatMap];exact⟨(x,k),List.mem_zipIdx_iff_getElem?.2 hx,List.mem_append_left _ (List.mem_map.2 ⟨p,hp,rfl⟩)⟩
theorem BK{fs:List ay}{k j:Nat}{x:ay}{p:aO}(hx:fs[k]?=some x)(hp:x.insts[j]?=some p)(hm:aU p.op):(p.dst,(k:Int),(j:Int))∈bF fs:=by
 unfold bF db;rw[List.take_length,List.mem_flatMap];exact⟨(x,k),List.mem_zipIdx_iff_getElem?.2 hx,List.mem_append_right _ (List.mem_map.2 ⟨(p,j),List.mem_filter.2 ⟨List.mem_zipIdx_iff_getElem?.2 hp,by simpa using hm⟩,rfl⟩)⟩
section
variable {nm : ByteArray} {pa va : Int} {fs : List ay} {n : Nat}
theorem NH(h:j9 nm pa va fs)(kx:va=(n:Int)):∀x,x∈fs→VR n x:=by
 intro x hx;obtain⟨k,hk⟩:=List.mem_iff_getElem?.1 hx;have Jm:=(List.getElem?_eq_some_iff.1 hk).1;obtain⟨y,hy,hr⟩:=h.reads k Jm;rw[hk]at hy;injection hy with hy;subst hy;have I6:=h.par;refine⟨fun p hp=> ?_,fun p hp=> ?_,fun hf=> ?_⟩
 ·have:=h.yc.2.1 _ (Jl hk hp);simp only at this;omega
 ·obtain⟨j,hj⟩:=List.mem_iff_getElem?.1 hp;have ha:∀a,a∈p.args→0≤a∧a<(n:Int):=by intro a ha;obtain⟨i,hi⟩:=List.mem_iff_getElem?.1 ha;have:=hr.insts j p hj i a hi;exact⟨this.1,by rw[←kx];exact this.2.1⟩
  by_cases hm:aU p.op
  ·have:=h.yc.2.1 _ (BK hk hj hm);simp only at this;exact⟨oM,oM,ha⟩
  ·rcases(h.yc.1 x hx p hp).1 with h1|h1
   ·exact absurd h1 hm
   ·exact⟨oM,oM,ha⟩
 ·have:=hr.fin (by unfold wo at hf;unfold pE;omega);exact⟨this.1,by rw[←kx];exact this.2.1⟩
end
end Go.Mor
namespace Go.Mor
open Go.RowKit
theorem qI{nm:cV}{pa va:Int}{fs:List ay}(h:bV nm pa va fs=0):j9 nm pa va fs∧va≤20000∧(hY fs:Int)≤20000:=by
 unfold bV at h;split at h
 ·omega
 ·split at h
  ·rename_i h1 h2;exact⟨h2,oM,oM⟩
  ·omega
end Go.Mor
namespace Go.Mor
open Go.RowKit
def gO.f(x:gO):ay:=⟨none,0,x.ah.map (fun p=>⟨p.dst,none,0,p.args⟩),none,0,x.insts,x.e,x.v,x.a,x.b⟩
structure PG(n:Int)(p:vb):Prop where
 up:p.from_.Pairwise (·<·)
 yW:∀s,s∈p.from_→0≤s∧s<n
 len:p.args.length=p.from_.length
def Jn(n:Int)(x:gO):Prop:=(x.e=0∧(0≤x.a∧x.a<n)∧x.v=0∧x.b=0)∨(x.e=1∧(0≤x.a∧x.a<n)∧(0≤x.b∧x.b<n)∧x.a≠x.b)∨(x.e=2∧x.a=0∧x.b=0)∨(x.e=3∧cN x.a∧x.v=0∧x.b=0)
theorem Gf{gl:List Bool}(h:∀b,b∈gl→b=false){i:Nat}(hi:i<gl.length):(ve gl).getD i 0=(i:Int):=by
 unfold ve;have h1:gl.getD i true=false:=by rw[List.getD_eq_getElem?_getD,List.getElem?_eq_getElem hi];exact h _ (List.getElem_mem hi)
 rw[BG hi,if_pos ⟨hi,h1⟩];have:rK gl i=i:=by unfold rK;rw[List.filter_eq_self.2 (fun b hb=>by rw[h b (List.mem_of_mem_take hb)];rfl),List.length_take];omega
 rw[this]
theorem Jo(l:ar):(List.range l.length).map (fun i=>l.getD i 0)=l:=by
 refine List.ext_getElem? fun i=> ?_
 by_cases hi:i<l.length
 ·simp[hi]
 ·simp[hi]
theorem NI{ks:List gO}{fs:List ay}(hg:∀x,x∈ks→x.gone=false)(he:∀x,x∈ks→Jn (ks.length:Int) x)(hp:∀x,x∈ks→∀p,p∈x.ah→PG (ks.length:Int) p)(h:Yi ks fs):fs.map ay.e0=ks.map gO.f:=by
 have hl:pP ks=ks:=List.filter_eq_self.2 fun x hx=>by rw[hg x hx];rfl
 unfold Yi at h;rw[hl]at h;obtain⟨hlen,h⟩:=h;have Jp:∀b,b∈lb ks→b=false:=by intro b hb;obtain⟨x,hx,rfl⟩:=List.mem_map.1 hb;exact hg x hx
 have NJ:∀a:Int,0≤a→a<(ks.length:Int)→(ve (lb ks)).getD a.toNat 0=a:=by intro a h0 h1;rw[Gf Jp (by rw[xP];omega)];omega
 refine List.ext_getElem? fun i=> ?_
 rw[List.getElem?_map,List.getElem?_map];by_cases hi:i<ks.length
 ·obtain⟨x,hx⟩:=bu (l:=ks) hi;obtain⟨y,hy⟩:=bu (l:=fs) (i:=i) oM;have pj:=List.mem_of_getElem? hx;have hb:=h i x y hx hy;rw[hx,hy,Option.map_some,Option.map_some];congr 1;unfold ay.e0 gO.f;have h1:y.ah.map bI.e0=x.ah.map (fun p=>(⟨p.dst,none,0,p.args⟩:bI)):=by
   obtain⟨kT,hpp⟩:=hb.ah;refine List.ext_getElem? fun j=> ?_
   rw[List.getElem?_map,List.getElem?_map];by_cases hj:j<x.ah.length
   ·obtain⟨p,ZI⟩:=bu (l:=x.ah) hj;obtain⟨q,jo⟩:=bu (l:=y.ah) (i:=j) oM;obtain⟨hd,il,hs,ha⟩:=hpp j p q ZI jo;have hu:=hp x pj p (List.mem_of_getElem? ZI);have hk:∀i,i<p.from_.length→rJ (ve (lb ks)) p.from_ i=p.from_.getD i 0:=by
     intro i hi;unfold rJ;have hm:p.from_.getD i 0∈p.from_:=by rw[List.getD_eq_getElem?_getD,List.getElem?_eq_getElem hi];exact List.getElem_mem hi
     obtain⟨h0,h1⟩:=hu.yW _ hm;exact NJ _ h0 h1
    have:=hs.rising (fun a b Hl hb=>by rw[hk a oM,hk b hb];have:=List.pairwise_iff_getElem.1 hu.up a b oM hb Hl;rw[List.getD_eq_getElem?_getD,List.getD_eq_getElem?_getD,List.getElem?_eq_getElem hb,List.getElem?_eq_getElem (show a<p.from_.length by omega)];exact this)
    rw[this,←hu.len,Jo]at ha;rw[ZI,jo,Option.map_some,Option.map_some];unfold bI.e0;rw[hd,ha]
   ·rw[List.getElem?_eq_none oM,List.getElem?_eq_none oM];rfl
  have ha:y.a=x.a∧y.b=x.b:=by
   rw[hb.a,hb.b];unfold toA toBb;rcases he x pj with⟨e,⟨h1,h2⟩,h3,h4⟩|⟨e,⟨h1,h2⟩,⟨h3,h4⟩,_⟩|⟨e,h1,h2⟩|⟨e,h1,h2,h3⟩
   ·rw[if_pos (.inl e),if_neg oM,NJ _ h1 h2,h4];exact⟨rfl,rfl⟩
   ·rw[if_pos (.inr e),if_pos e,NJ _ h1 h2,NJ _ h3 h4];exact⟨rfl,rfl⟩
   ·rw[if_neg oM,if_neg oM,if_neg oM,h1,h2];exact⟨rfl,rfl⟩
   ·rw[if_neg oM,if_pos e,if_neg oM,h3];exact⟨rfl,rfl⟩
  rw[h1,hb.insts,hb.e,hb.v,ha.1,ha.2]
 ·rw[List.getElem?_eq_none oM,List.getElem?_eq_none oM];rfl
theorem NK(bs:List SB)(b:Int):(bS bs b).Pairwise (·<·):=by
 unfold bS dW;rw[List.pairwise_map];refine List.Pairwise.filter _ ?_;refine List.pairwise_lt_range.imp ?_;intro a b h;exact Int.ofNat_lt.2 h
section
variable {nm : ByteArray} {pa va : Int} {fs : List ay} {n : Nat}
theorem Jq(h:j9 nm pa va fs){k:Nat}(hk:k<fs.length)(h0:k≠0):0<(bS (af fs) (k:Int)).length:=by
 have hr:Reach (tg (af fs)) (k:Int):=by have h1:=mv (bs:=af fs);rw[bE]at h1;exact jO.1 (h1.1 h.all k hk)
 have:∀x:Int,Reach (tg (af fs)) x→x≠0→∃s,s∈bS (af fs) x:=by
  intro x hx cU;cases hx with
  |zero=>exact absurd rfl cU
  |step hs ht=>
   rename_i s;refine⟨s,AN.2 ⟨?_,ht⟩⟩;exact mu (by rw[bE];exact h.pos) hs
 obtain⟨s,hs⟩:=this _ hr oM;exact List.length_pos_of_mem hs
theorem EH(hv:bV nm pa va fs=0)(hN:fs.length≤1000):Re fs:=by
 obtain⟨h,_,jv⟩:=qI hv;have hp:∀(k:Nat) (x:ay),fs[k]?=some x→x.ah.length+x.insts.length≤hY fs:=by
  intro k x hx;have hm:x.ah.length+x.insts.length∈(fs.take fs.length).map (fun x=>x.ah.length+x.insts.length):=by rw[List.take_of_length_le (Nat.le_refl _)];exact List.mem_map.2 ⟨x,List.mem_of_getElem? hx,rfl⟩
  have:∀l:List Nat,∀a,a∈l→a≤l.sum:=by
   intro l;induction l with
   |nil=>intro a ha;cases ha
   |cons b l ih=>
    intro a ha;rcases List.mem_cons.1 ha with rfl|ha
    ·simp
    ·have:=ih a ha;simp;omega
  have:=this _ _ hm;unfold hY jl;omega
 have key:∀x,x∈fs→∃k:Nat,fs[k]?=some x:=fun x hx=>List.mem_iff_getElem?.1 hx
 refine⟨fun x hx=> ?_,fun x hx=> ?_,fun x hx p jL=> ?_,fun x hx i hi=> ?_⟩
 ·obtain⟨k,hk⟩:=key x hx;have:=hp k x hk;omega
 ·obtain⟨k,hk⟩:=key x hx;have:=hp k x hk;omega
 ·obtain⟨k,hk⟩:=key x hx;obtain⟨y,hy,hr⟩:=h.reads k (List.getElem?_eq_some_iff.1 hk).1;rw[hk]at hy;injection hy with hy;subst hy;obtain⟨j,hj⟩:=List.mem_iff_getElem?.1 jL;rw[(hr.ah j p hj).1];have:(bS (af fs) (k:Int)).length≤(af fs).length:=fZ _ _ _;rw[bE]at this;omega
 ·have:=(h.yc.1 x hx i hi).2;omega
structure UK(n N:Nat)(x:bz):Prop where
 lp:x.ah.length≤20000
 li:x.insts.length≤20000
 gone:x.gone=false
 ah:∀p,p∈x.ah→(0≤p.dst∧p.dst<(n:Int))∧p.args.length≤20000∧(∀a,a∈p.args→0≤a∧a<(n:Int))∧0<p.from_.length∧p.from_.length≤20000∧PG (N:Int) p.k
 insts:∀i,i∈x.insts→(cP i.op→0≤i.dst∧i.dst<(n:Int))∧i.args.length≤20000∧∀a,a∈i.args→0≤a∧a<(n:Int)
 ends:Jn (N:Int) x.k
 fin:(x.e=1∨x.e=2)→-1≤x.v∧x.v<(n:Int)
theorem Jr{gs:List bz}(hv:bV nm pa va fs=0)(hN:fs.length≤1000)(kx:va=(n:Int))(hg:gs.map bz.k=lN fs):∀x,x∈gs→UK n gs.length x:=by
 obtain⟨h,_,jv⟩:=qI hv;have Gg:=EH hv hN;have Yk:=NH h kx;have hl:gs.length=fs.length:=by have:=Qgu List.length hg;rwa [List.length_map,jR]at this
 intro y hy;obtain⟨k,hk⟩:=List.mem_iff_getElem?.1 hy;have Jm:=(List.getElem?_eq_some_iff.1 hk).1;obtain⟨x,hx⟩:=bu (l:=fs) (i:=k) oM;have pj:=List.mem_of_getElem? hx;have h1:=Qgu (fun l:List gO=>l[k]?) hg;simp only[List.getElem?_map,hk,Option.map_some,mA hx]at h1;injection h1 with h1;have e1:y.ah.map cI.k=x.ah.map (oG (bS (af fs) (k:Int))):=Qgu gO.ah h1;have e2:y.insts.map aO.e0=x.insts.map aO.e0:=Qgu gO.insts h1;have e3:y.e=x.e:=Qgu gO.e h1;have e4:y.v=x.v:=Qgu gO.v h1;have e5:y.a=x.a:=Qgu gO.a h1;have e6:y.b=x.b:=Qgu gO.b h1;have e7:y.gone=false:=Qgu gO.gone h1;obtain⟨z,hz,hr⟩:=h.reads k oM;rw[hx]at hz;injection hz with hz;subst hz;have Yl:=Yk x pj;have Tx:(bS (af fs) (k:Int)).length≤fs.length:=by have:(bS (af fs) (k:Int)).length≤(af fs).length:=fZ _ _ _;rwa [bE]at this
 refine⟨by rw[Bs e1];exact Gg.lp x pj,by rw[eM e2];exact Gg.li x pj,e7,fun p hp=> ?_,fun i hi=> ?_,?_,fun hf=> ?_⟩
 ·obtain⟨j,hj⟩:=List.mem_iff_getElem?.1 hp;have h2:=Qgu (fun l:List vb=>l[j]?) e1;simp only[List.getElem?_map,hj,Option.map_some]at h2;obtain⟨q,hq⟩:∃q,x.ah[j]?=some q:=bu (by rw[←Bs e1];exact(List.getElem?_eq_some_iff.1 hj).1);rw[hq,Option.map_some]at h2;injection h2 with h2;have d1:p.dst=q.dst:=Qgu vb.dst h2;have d2:p.from_=bS (af fs) (k:Int):=Qgu vb.from_ h2;have d3:p.args=q.args:=Qgu vb.args h2;obtain⟨h3,h4⟩:=hr.ah j q hq;have EI:k≠0:=by rintro rfl;have:=h.ah x hx;have:=(List.getElem?_eq_some_iff.1 hq).1;omega
  have Mj:=Jq h (k:=k) oM EI;refine⟨by rw[d1];exact Yl.ah q (List.mem_of_getElem? hq),by rw[d3,h3];omega,fun a ha=> ?_,by rw[d2];exact Mj,by rw[d2];omega,⟨by show p.from_.Pairwise _;rw[d2];exact NK _ _,fun s hs=> ?_,by show p.args.length=p.from_.length;rw[d3,d2,h3]⟩⟩
  ·rw[d3]at ha;obtain⟨i,hi⟩:=List.mem_iff_getElem?.1 ha;obtain⟨s,hs⟩:∃s,(bS (af fs) (k:Int))[i]?=some s:=bu (by rw[←h3];exact(List.getElem?_eq_some_iff.1 hi).1);have ht:=h4 i a s hi hs;exact⟨ht.1,by rw[←kx];exact ht.2.1⟩
  ·have QJ:s∈p.from_:=hs;rw[d2]at QJ;have:=AK QJ;rw[bE]at this;rw[hl];exact this
 ·obtain⟨j,hj⟩:=List.mem_iff_getElem?.1 hi;have h2:=Qgu (fun l:List aO=>l[j]?) e2;simp only[List.getElem?_map,hj,Option.map_some]at h2;obtain⟨q,hq⟩:∃q,x.insts[j]?=some q:=bu (by rw[←eM e2];exact(List.getElem?_eq_some_iff.1 hj).1);rw[hq,Option.map_some]at h2;injection h2 with h2;have d1:i.op=q.op:=show i.e0.op=q.e0.op by rw[h2]
  have d2:i.dst=q.dst:=show i.e0.dst=q.e0.dst by rw[h2]
  have d3:i.args=q.args:=show i.e0.args=q.e0.args by rw[h2]
  have jE:=List.mem_of_getElem? hq;obtain⟨h5,h6,h7⟩:=Yl.insts q jE;refine⟨fun hp=> ?_,by rw[d3];exact Gg.ai x pj q jE,by rw[d3];exact h7⟩;rw[d1]at hp;have:=h.yc.2.1 _ (BK hx hq (iQ hp));have ZJ:=h.par;simp only at this;rw[d2];omega
 ·have:=h.ends x pj;unfold ix at this;unfold Jn;show(y.e=0∧(0≤y.a∧y.a<_)∧y.v=0∧y.b=0)∨(y.e=1∧(0≤y.a∧y.a<_)∧(0≤y.b∧y.b<_)∧y.a≠y.b)∨(y.e=2∧y.a=0∧y.b=0)∨(y.e=3∧cN y.a∧y.v=0∧y.b=0);rw[e3,e4,e5,e6,hl];exact this
 ·rw[e3]at hf;rw[e4];by_cases ZK:pE x
  ·have ht:=hr.fin ZK;have:=ht.1;have:=ht.2.1;omega
  ·unfold pE at ZK;omega
end
end Go.Mor
namespace Go.Mor
open Go.RowKit
theorem Jt{hd gs:List bz}(h:hd.map (·.g)=gs.map (·.g))(A:aX)(c:Nat):jh A c hd=jh A c gs:=by
 have hl:hd.length=gs.length:=by have:=Qgu List.length h;simpa using this
 have e:∀l:List bz,jA l=(l.map (·.g)).map (fun g=>Value.pointer (some (aZ g))):=fun l=>by unfold jA;rw[List.map_map];rfl
 unfold jh;rw[hl,e,e,h]
theorem Gj{w:World}{ad:Addr}{l:ar}{i:Nat}{v:Int}(h:(bo.rd (some ad) (ints l)).holds w)(hi:l[i]?=some v):w.cell? (ad.add ((i:Int).toNat*1))=some (vI v):=by
 rw[Int.toNat_natCast];exact fR h rfl hi
end Go.Mor
namespace Go.Mor
open Go.RowKit
def vl(bs:List SB)(pa va:Int)(ds:rn)(v b q:Int):Bool:=decide (0≤v)&&decide (v<va)&&(decide (v<pa)||match findD ds v with
 |some p=>if p.1=b then decide (p.2<q)else Cr (fS bs) p.1.toNat b.toNat
 |none=>false)
theorem vm{bs:List SB}{pa va:Int}{ds:rn}{v b q:Int}(h:vl bs pa va ds v b q=true):bX (gz bs) pa va ds v b q:=by
 unfold vl at h;simp only[Bool.and_eq_true,Bool.or_eq_true,decide_eq_true_eq]at h;obtain⟨⟨h1,h2⟩,h3⟩:=h;refine⟨h1,h2,h3.imp id fun h3=> ?_⟩;split at h3
 ·rename_i p hp;refine⟨p,hp,?_⟩;split at h3
  ·rename_i e;exact .inl ⟨e,by simpa using h3⟩
  ·rename_i e;exact .inr ⟨e,h3⟩
 ·cases h3
def Du(pa va:Int)(fs:List ay)(k:Nat)(x:ay):Bool:=(x.ah.all fun p=>p.args.length==(bS (af fs) (k:Int)).length&&(p.args.zip (bS (af fs) (k:Int))).all fun u=>vl (af fs) pa va (bF fs) u.1 u.2 20000)&&(x.insts.zipIdx.all fun p=>p.1.args.all fun a=>vl (af fs) pa va (bF fs) a (k:Int) (p.2:Int))&&((!decide (x.e=1∨(x.e=2∧x.v≠-1)))||vl (af fs) pa va (bF fs) x.v (k:Int) 20000)
theorem Gk{pa va:Int}{fs:List ay}{k:Nat}{x:ay}(hx:fs[k]?=some x)(h:Du pa va fs k x=true):eL (gz (af fs)) (fun _=>20000) pE pa va fs k:=by
 unfold Du at h;simp only[Bool.and_eq_true]at h;obtain⟨⟨h1,h2⟩,h3⟩:=h;refine⟨x,hx,fun j p hp=> ?_,fun j p hp i a ha=> ?_,fun hf=> ?_⟩
 ·have:=List.all_eq_true.1 h1 p (List.mem_of_getElem? hp);simp only[Bool.and_eq_true,beq_iff_eq]at this;refine⟨this.1,fun i a s ha hs=> ?_⟩;have hz:(a,s)∈p.args.zip (bS (af fs) (k:Int)):=by refine List.mem_of_getElem? (i:=i) ?_;rw[List.getElem?_zip_eq_some];exact⟨ha,hs⟩
  exact vm (List.all_eq_true.1 this.2 _ hz)
 ·have:=List.all_eq_true.1 h2 (p,j) (List.mem_zipIdx_iff_getElem?.2 hp);exact vm (List.all_eq_true.1 this a (List.mem_of_getElem? ha))
 ·rw[Bool.or_eq_true]at h3;rcases h3 with h3|h3
  ·simp only[Bool.not_eq_true',decide_eq_false_iff_not]at h3;exact absurd hf h3
  ·exact vm h3
def Ju(nm:cV)(pa va:Int)(fs:List ay):Bool:=decide (bt nm)&&decide (0≤pa∧pa≤16∧pa≤va)&&decide (0<fs.length)&&(match fs[0]? with|some x=>decide (x.ah.length=0)|none=>true)&&decide ((bS (af fs) 0).length=0)&&decide ((aF (af fs)).length=fs.length)&&(fs.all fun x=>decide (ix (fs.length:Int) x))&&(fs.all fun x=>x.insts.all fun p=>decide (bJ p))&&((bF fs).all fun d=>decide (pa≤d.1)&&decide (d.1<va))&&decide (((bF fs).map (·.1)).Nodup)&&(fs.zipIdx.all fun x=>Du pa va fs x.2 x.1)
theorem NN{nm:cV}{pa va:Int}{fs:List ay}(h:Ju nm pa va fs=true):j9 nm pa va fs:=by
 unfold Ju at h;simp only[Bool.and_eq_true,decide_eq_true_eq,List.all_eq_true]at h;obtain⟨⟨⟨⟨⟨⟨⟨⟨⟨⟨h1,h2⟩,h3⟩,h4⟩,h5⟩,h6⟩,h7⟩,h8⟩,h9⟩,QV⟩,Uq⟩:=h;refine⟨h1,h2,h3,fun x hx=> ?_,h5,h6,h7,⟨h8,h9,QV⟩,fun k hk=> ?_⟩
 ·rw[hx]at h4;simpa using h4
 ·obtain⟨x,hx⟩:=bu hk;exact(xy h3 h6).eL (fun _ _ h=>h) (Gk hx (Uq (x,k) (List.mem_zipIdx_iff_getElem?.2 hx)))
theorem Jv{nm:cV}{pa va:Int}{fs:List ay}(h:(decide ((hY fs:Int)>20000∨va>20000)=false)∧Ju nm pa va fs=true):bV nm pa va fs=0:=(y6 (by simpa using h.1) (NN h.2)).symm
end Go.Mor
namespace Go.Mor
open Go.RowKit
theorem xQ{p:bI}:p.e0.Ok↔p.Ok:=⟨fun h=>⟨h.dst,h.len,h.args⟩,fun h=>⟨h.dst,h.len,h.args⟩⟩
theorem xR{p:aO}:p.e0.Ok↔p.Ok:=⟨fun h=>⟨h.op,h.dst,h.n,h.name,h.len,h.args⟩,fun h=>⟨h.op,h.dst,h.n,h.name,h.len,h.args⟩⟩
theorem xS{x:ay}:x.e0.Ok↔x.Ok:=by
 constructor
 ·intro h;have h1:=h.lp;have h2:=h.li;refine⟨?_,fun p hp=>xQ.1 (h.ah p.e0 (List.mem_map.2 ⟨p,hp,rfl⟩)),?_,fun p hp=>xR.1 (h.insts p.e0 (List.mem_map.2 ⟨p,hp,rfl⟩)),h.e,h.v,h.a,h.b⟩
  ·have:gY (x.ah.map bI.e0).length:=h1;rwa [List.length_map]at this
  ·have:gY (x.insts.map aO.e0).length:=h2;rwa [List.length_map]at this
 ·intro h;refine⟨?_,fun p hp=> ?_,?_,fun p hp=> ?_,h.e,h.v,h.a,h.b⟩
  ·show gY (x.ah.map bI.e0).length;rw[List.length_map];exact h.lp
  ·obtain⟨q,hq,rfl⟩:=List.mem_map.1 hp;exact xQ.2 (h.ah q hq)
  ·show gY (x.insts.map aO.e0).length;rw[List.length_map];exact h.li
  ·obtain⟨q,hq,rfl⟩:=List.mem_map.1 hp;exact xR.2 (h.insts q hq)
theorem pL.alike{fs gs:List ay}(h:ec fs gs)(ho:pL fs):pL gs:=by
 intro y hy;have:y.e0∈fs.map ay.e0:=by rw[show fs.map ay.e0=gs.map ay.e0 from h];exact List.mem_map.2 ⟨y,hy,rfl⟩
 obtain⟨x,hx,e⟩:=List.mem_map.1 this;exact xS.1 (e▸xS.2 (ho x hx))
theorem jS{fs gs:List ay}(h:ec fs gs):hY fs=hY gs:=by rw[←rF fs,←rF gs,h]
theorem ec.trans{fs gs hs:List ay}(h:ec fs gs)(h':ec gs hs):ec fs hs:=Eq.trans h h'
def lP(va:Int)(fs:List ay):Prop:=gZ va fs∨1500<hY fs
instance (va : Int) (fs : List ay) : Decidable (lP va fs) := by unfold lP; infer_instance
theorem Gl{va:Int}{fs:List ay}(h:¬lP va fs):fs.length≤60∧hY fs≤1500:=by
 unfold lP at h;exact⟨uO (fun e=>h (.inl e)),oM⟩
theorem Rl{w:World}{A9:aX}{e7 e9 n7 n9 c7 c9:Nat}{x:ay}(hp:x.ah=[])(h9:(bo.row e9 6 A9 n9 c9 (xV x)).holds w)(h7:(bo.row e7 5 x.iA n7 c7 (zL x.insts)).holds w)(hi:∀i,i∈x.insts→(bo.rd i.A (ints i.args)).holds w):RO ba w (.fn A9 [x]):=by
 refine RO.of (fun r hr=> ?_);rcases List.mem_cons.1 hr with rfl|hr
 ·have h1:(bo.rd A9 ([x].flatMap xV)).holds w:=by rw[show[x].flatMap xV=xV x by simp];exact aB h9
  have:=jt (f:=xV) sw oM h1;unfold bo.blocks;rw[show(af [x]).map SB.cells=[x].map xV by unfold af;rw[List.map_map];rfl];exact this
 ·obtain⟨y,hy,ZN⟩:=List.mem_flatMap.1 hr;rw[List.mem_singleton]at hy;subst hy;unfold ay.parts at ZN;rw[hp]at ZN;rcases List.mem_cons.1 ZN with rfl|hr3
  ·intro i cs h;simp at h
  rcases List.mem_cons.1 hr3 with rfl|hr4
  ·exact jt gI oM (aB h7)
  rcases List.mem_append.1 hr4 with ZO|ZO
  ·simp at ZO
  ·obtain⟨p,hp,rfl⟩:=List.mem_map.1 ZO;exact hi p hp
theorem NO{w:World}{A:aX}:(bo.rd A (ints [])).holds w:=fun i v hi=>by simp[ints]at hi
def PH:cV:=⟨#[102]⟩
end Go.Mor
namespace Go.Mor
open Go.RowKit
section
variable {T : Int → List Int}
theorem EL{U:Int→ar}(h:∀x t,t∈U x→t∈T x){x:Int}(hr:Reach U x):Reach T x:=by
 induction hr with
 |zero=>exact .zero
 |step _ ht ih=>exact .step ih (h _ _ ht)
theorem Qc9{a b x:Int}(hb:b≠0)(h:Reach (Cq T a) x):Reach (Cq T b) x∨Reach (Cq T a) b:=by
 induction h with
 |zero=>exact .inl .zero
 | @step x t hx ht ih=>
  rcases ih with ih|ih
  ·by_cases e:t=b
   ·exact .inr (e▸ .step hx ht)
   ·exact .inl (.step ih (im.2 ⟨(im.1 ht).1,e⟩))
  ·exact .inr ih
theorem Dm.trans{a b c:Int}(h1:Dm T a b)(h2:Dm T b c):Dm T a c:=by
 rintro⟨ha,hr⟩;by_cases hb:b=0
 ·subst hb;exact ha (Dm.yT h1)
 ·rcases Qc9 hb hr with h|h
  ·exact h2 ⟨hb,h⟩
  ·exact h1 ⟨ha,h⟩
theorem Rm{b x:Int}(hb:b≠0)(h:Reach (Cq T b) x):x≠b:=by
 cases h with
 |zero=>exact fun e=>hb e.symm
 |step _ ht=>exact(im.1 ht).2
theorem Dm.Qes{a b:Int}(hr:Reach T b)(h1:Dm T a b)(h2:Dm T b a):a=b:=by
 by_cases ha:a=0
 ·subst ha;exact(Dm.yT h2).symm
 by_cases hb:b=0
 ·subst hb;exact Dm.yT h1
 by_cases e:a=b
 ·exact e
 exfalso;have key:∀x,Reach T x→Reach (Cq (Cq T a) b) x∨Reach (Cq T b) a∨Reach (Cq T a) b:=by
  intro x hx;induction hx with
  |zero=>exact .inl .zero
  | @step x t hx ht ih=>
   rcases ih with ih|ih
   ·by_cases ea:t=a
    ·subst ea;refine .inr (.inl (.step (EL (fun x s hs=> ?_) ih) (im.2 ⟨ht,e⟩)));obtain⟨q1,q2⟩:=im.1 hs;exact im.2 ⟨(im.1 q1).1,q2⟩
    ·by_cases eb:t=b
     ·subst eb;refine .inr (.inr (.step (EL (fun x s hs=>(im.1 hs).1) ih) (im.2 ⟨ht,fun e2=>e e2.symm⟩)))
     ·exact .inl (.step ih (im.2 ⟨im.2 ⟨ht,ea⟩,eb⟩))
   ·exact .inr ih
 rcases key b hr with h|h|h
 ·exact Rm hb h rfl
 ·exact h2 ⟨hb,h⟩
 ·exact h1 ⟨ha,h⟩
theorem NL{c x:Int}(hr:Reach T x)(hx:x=c)(hc:c≠0):∃s,Reach (Cq T c) s∧c∈T s:=by
 have key:∀x,Reach T x→Reach (Cq T c) x∨∃s,Reach (Cq T c) s∧c∈T s:=by
  intro x h;induction h with
  |zero=>exact .inl .zero
  | @step x t _ ht ih=>
   rcases ih with ih|ih
   ·by_cases e:t=c
    ·subst e;exact .inr ⟨x,ih,ht⟩
    ·exact .inl (.step ih (im.2 ⟨ht,e⟩))
   ·exact .inr ih
 rcases key x hr with h|h
 ·exact absurd hx (Rm hc h)
 ·exact h
theorem QcC{c e:Int}(hr:Reach T c)(hc:c≠0)(h:∀s,Reach (Cq T c) s→c∈T s→Dm T e s):Dm T e c∧e≠c:=by
 constructor
 ·rintro⟨he,Xm⟩;obtain⟨s,hs,ht⟩:=NL (T:=Cq T e) Xm rfl hc;have h1:Reach (Cq T c) s:=EL (fun x t ht=>by obtain⟨q1,q2⟩:=im.1 ht;exact im.2 ⟨(im.1 q1).1,q2⟩) hs
  exact h s h1 (im.1 ht).1 ⟨he,EL (fun x t ht=>(im.1 ht).1) hs⟩
 ·rintro rfl;obtain⟨s,hs,ht⟩:=NL hr rfl hc;exact h s hs ht ⟨hc,hs⟩
end
section
variable {fs : List ay} {nm : ByteArray} {pa va : Int}
abbrev Av(pa va:Int)(fs:List ay)(v b q:Int):Prop:=bX (Dm (tg (af fs))) pa va (bF fs) v b q
theorem xM(h:j9 nm pa va fs){v b q:Int}:Av pa va fs v b q↔0≤v∧v<va∧(v<pa∨∃c k,(v,c,k)∈bF fs∧((c=b∧k<q)∨(c≠b∧Dm (tg (af fs)) c b))):=u3 h.yc.2.2
theorem dj(h:j9 nm pa va fs){v:Int}{p q:Int×Int}(h1:(v,p)∈bF fs)(h2:(v,q)∈bF fs):p=q:=by
 have e1:=(xB h.yc.2.2).2 h1;have e2:=(xB h.yc.2.2).2 h2;rw[e1]at e2;injection e2
theorem zn(h:j9 nm pa va fs){v:Int}{p:Int×Int}(h1:(v,p)∈bF fs):pa≤v∧v<va:=h.yc.2.1 _ h1
theorem Rn(h:j9 nm pa va fs){b:Int}(h0:0≤b)(h1:b<fs.length):Reach (tg (af fs)) b:=by
 have h2:=mv (bs:=af fs);rw[bE]at h2;have:=jO.1 (h2.1 h.all b.toNat oM);rwa [Int.toNat_of_nonneg h0]at this
theorem QcD(h:j9 nm pa va fs){u v b q c k:Int}(vX:0≤b)(kH:b<fs.length)(hd:(v,c,k)∈bF fs)(hu:Av pa va fs u c k)(hv:Av pa va fs v b q):Av pa va fs u b q:=by
 have bh:=zn h hd;obtain⟨h1,h2,h3⟩:=(xM h).1 hv;obtain⟨g1,g2,g3⟩:=(xM h).1 hu;refine(xM h).2 ⟨g1,g2,?_⟩;rcases g3 with g3|⟨e,m,hm,g3⟩
 ·exact .inl g3
 right;rcases h3 with h3|⟨c',k',zI,h3⟩
 ·omega
 have e1:=dj h hd zI;injection e1 with e1 e2;subst e1;subst e2;refine⟨e,m,hm,?_⟩;rcases g3 with⟨rfl,g3⟩|⟨g3,g4⟩
 ·exact h3.imp (fun⟨q1,q2⟩=>⟨q1,oM⟩) id
 ·right;rcases h3 with⟨rfl,_⟩|⟨q1,q2⟩
  ·exact⟨g3,g4⟩
  ·refine⟨fun e2=> ?_,g4.trans q2⟩;subst e2;exact g3 (Dm.Qes (Dm.reach (Rn h vX kH) q2) g4 q2)
theorem QcE(h:j9 nm pa va fs){v c k:Int}(hd:(v,c,k)∈bF fs):¬Av pa va fs v c k:=by
 intro hv;have bh:=zn h hd;obtain⟨_,_,h3⟩:=(xM h).1 hv;rcases h3 with h3|⟨c',k',zI,h3⟩
 ·omega
 ·have e1:=dj h hd zI;injection e1 with e1 e2;subst e1;subst e2;rcases h3 with⟨_,h3⟩|⟨h3,_⟩
  ·omega
  ·exact h3 rfl
def link(σ:Int→Int)(d o:Int):Int→Int:=fun v=>if σ v=d then o else σ v
structure Sub(pa va:Int)(fs:List ay)(σ:Int→Int):Prop where
 av:∀v b q:Int,0≤b→b<fs.length→Av pa va fs v b q→Av pa va fs (σ v) b q
 idem:∀v,σ (σ v)=σ v
 par:∀v,v<pa→σ v=v
theorem Sub.id:Sub pa va fs (fun v=>v):=⟨fun _ _ _ _ _ h=>h,fun _=>rfl,fun _ _=>rfl⟩
theorem Sub.link(h:j9 nm pa va fs){σ:Int→Int}(hs:Sub pa va fs σ){d o c k:Int}(hd:(d,c,k)∈bF fs)(HU:σ d=d)(rM:σ o=o)(ho:Av pa va fs o c k):Sub pa va fs (link σ d o):=by
 have cU:o≠d:=by rintro rfl;exact QcE h hd ho
 have bh:=zn h hd;refine⟨fun v b q h0 h1 hv=> ?_,fun v=> ?_,fun v hv=> ?_⟩
 ·unfold Go.Mor.link;have:=hs.av v b q h0 h1 hv;split
  ·rename_i e;rw[e]at this;exact QcD h h0 h1 hd ho this
  ·exact this
 ·unfold Go.Mor.link;by_cases e:σ v=d
  ·rw[if_pos e,rM,if_neg cU]
  ·rw[if_neg e,hs.idem,if_neg e]
 ·unfold Go.Mor.link;rw[hs.par v hv,if_neg oM]
theorem Qda{σ:Int→Int}{d o:Int}(HU:σ d=d):link σ d o d=o:=by unfold link;rw[if_pos HU]
theorem BM{σ:Int→Int}{d o v:Int}(h:σ v≠d):link σ d o v=σ v:=by unfold link;rw[if_neg h]
def oH(σ:Int→Int)(d:Int):ar→Int→Option Int
 |[],one=>if one<0 then none else some one
 |a::l,one=>if σ a=d∨σ a=one then oH σ d l one else if 0≤one then none else oH σ d l (σ a)
theorem NM{σ:Int→Int}{d:Int}:∀{l:ar} {one o:Int},oH σ d l one=some o→(∀a,a∈l→0≤σ a)→0≤o∧(0≤one→o=one)∧(∀a,a∈l→σ a=d∨σ a=o)∧(one=o∨∃a,a∈l∧σ a=o∧σ a≠d)
 |[],one,o,h,_=>by
  unfold oH at h;split at h
  ·cases h
  ·injection h with h;subst h;exact⟨oM,fun _=>rfl,sI,.inl rfl⟩
 |a::l,one,o,h,hl=>by
  unfold oH at h;have LG:∀b,b∈l→0≤σ b:=fun b hb=>hl b (List.mem_cons_of_mem _ hb)
  have ha:=hl a (List.mem_cons_self ..);split at h
  ·rename_i e;obtain⟨q1,q2,q3,q4⟩:=NM h LG;refine⟨q1,q2,fun b hb=> ?_,q4.imp id fun⟨b,hb,h1⟩=>⟨b,List.mem_cons_of_mem _ hb,h1⟩⟩;rcases List.mem_cons.1 hb with rfl|hb
   ·rcases e with e|e
    ·exact .inl e
    ·by_cases h0:0≤one
     ·exact .inr (by rw[e,q2 h0])
     ·omega
   ·exact q3 b hb
  ·split at h
   ·cases h
   ·rename_i e _;obtain⟨q1,q2,q3,q4⟩:=NM h LG;have eo:=q2 ha;refine⟨q1,fun h0=>oM,fun b hb=> ?_,.inr ⟨a,List.mem_cons_self ..,eo.symm,fun e2=>e (.inl e2)⟩⟩;rcases List.mem_cons.1 hb with rfl|hb
    ·exact .inr eo.symm
    ·exact q3 b hb
theorem Ym(h:j9 nm pa va fs){σ:Int→Int}(hs:Sub pa va fs σ){k:Nat}{x:ay}(hx:fs[k]?=some x){p:bI}(hp:p∈x.ah){o:Int}(ho:oH σ p.dst p.args (-1)=some o):(p.dst,(k:Int),-1)∈bF fs∧σ o=o∧Av pa va fs o (k:Int) (-1):=by
 have hd:(p.dst,(k:Int),-1)∈bF fs:=sq.2 ⟨k,x,hx,rfl,.inl ⟨rfl,p,hp,rfl⟩⟩;have Jm:=(List.getElem?_eq_some_iff.1 hx).1;have EI:(k:Int)≠0:=by intro e;have:k=0:=oM;subst this;have:=h.ah x hx;exact absurd (List.length_pos_of_mem hp) oM
 obtain⟨y,hy,hr⟩:=h.reads k Jm;rw[hx]at hy;injection hy with hy;subst hy;obtain⟨j,hj⟩:=List.mem_iff_getElem?.1 hp;obtain⟨hl,XT⟩:=hr.ah j p hj;have Fh:∀(i:Nat) (a s:Int),p.args[i]?=some a→(bS (af fs) (k:Int))[i]?=some s→Av pa va fs (σ a) s 20000:=by intro i a s ha QJ;have Uw:=(AN.1 (List.mem_of_getElem? QJ)).1;rw[bE]at Uw;exact hs.av a s 20000 Uw.1 Uw.2 (XT i a s ha QJ)
 have yl:∀a,a∈p.args→0≤σ a:=by intro a ha;obtain⟨i,hi⟩:=List.mem_iff_getElem?.1 ha;obtain⟨s,QJ⟩:=bu (l:=bS (af fs) (k:Int)) (i:=i) (by rw[←hl];exact(List.getElem?_eq_some_iff.1 hi).1);exact(Fh i a s hi QJ).1
 obtain⟨q1,_,q3,q4⟩:=NM ho yl;have bh:=zn h hd;obtain⟨a0,Ij,e0,en0⟩:∃a,a∈p.args∧σ a=o∧σ a≠p.dst:=by
  rcases q4 with q4|q4
  ·omega
  ·exact q4
 have rM:σ o=o:=by rw[←e0,hs.idem]
 refine⟨hd,rM,?_⟩;have cA:∀s,Reach (Cq (tg (af fs)) (k:Int)) s→(k:Int)∈tg (af fs) s→Av pa va fs o s 20000:=by
  intro s mT N9;have Gg:s∈bS (af fs) (k:Int):=AN.2 ⟨mu (by rw[bE];exact h.pos) (EL (fun x t ht=>(im.1 ht).1) mT),N9⟩;obtain⟨i,hi⟩:=List.mem_iff_getElem?.1 Gg;obtain⟨a,ha⟩:=bu (l:=p.args) (i:=i) (by rw[hl];exact(List.getElem?_eq_some_iff.1 hi).1);have hv:=Fh i a s ha hi;rcases q3 a (List.mem_of_getElem? ha)with e|e
  ·exfalso;rw[e]at hv;obtain⟨_,_,h3⟩:=(xM h).1 hv;rcases h3 with h3|⟨c,m,zI,h3⟩
   ·omega
   ·have e1:=dj h hd zI;injection e1 with e1 e2;subst e1;rcases h3 with⟨h3,_⟩|⟨_,h3⟩
    ·exact Rm EI mT h3.symm
    ·exact h3 ⟨EI,mT⟩
  ·rw[e]at hv;exact hv
 have Na:=Rn h (b:=(k:Int)) oM oM;obtain⟨s0,Mj,ht0⟩:=NL Na rfl EI;obtain⟨o0,o1,o2⟩:=(xM h).1 (cA s0 Mj ht0);refine(xM h).2 ⟨o0,o1,?_⟩;rcases o2 with o2|⟨e,m,hm,_⟩
 ·exact .inl o2
 ·right;have hdm:=QcC (e:=e) Na EI (fun s mT N9=>by
   obtain⟨_,_,g⟩:=(xM h).1 (cA s mT N9);rcases g with g|⟨e',m',HK,g⟩
   ·have:=zn h hm;omega
   ·have e1:=dj h hm HK;injection e1 with e1 e2;subst e1;rcases g with⟨g,_⟩|⟨_,g⟩
    ·subst g;exact Dm.self _
    ·exact g)
  exact⟨e,m,hm,.inr ⟨hdm.2,hdm.1⟩⟩
theorem Tf(h:j9 nm pa va fs){k j:Nat}{x:ay}{i:aO}(hx:fs[k]?=some x)(hi:x.insts[j]?=some i){a:Int}(ha:a∈i.args):Av pa va fs a (k:Int) (j:Int):=by
 obtain⟨y,hy,hr⟩:=h.reads k (List.getElem?_eq_some_iff.1 hx).1;rw[hx]at hy;injection hy with hy;subst hy;obtain⟨m,hm⟩:=List.mem_iff_getElem?.1 ha;exact hr.insts j i hi m a hm
end
end Go.Mor
namespace Go.Mor
open Go.RowKit
def bl(σ:Int→Int)(d:Int):Bool:=σ d==d
def YI(σ:Int→Int)(p:bI):bI:=⟨p.dst,none,0,p.args.map σ⟩
def s5(σ:Int→Int)(i:aO):aO:=⟨i.op,i.dst,i.n,i.name,none,0,i.args.map σ⟩
def Pb(x:ay):Prop:=x.e=1∨(x.e=2∧0≤x.v)
instance (x : ay) : Decidable (Pb x) := by unfold Pb; infer_instance
def uc(σ:Int→Int)(x:ay):ay:=⟨none,0,(x.ah.filter (fun p=>bl σ p.dst)).map (YI σ),none,0,(x.insts.filter (fun i=>bl σ i.dst)).map (s5 σ),x.e,if Pb x then σ x.v else x.v,x.a,x.b⟩
def xD(σ:Int→Int)(fs:List ay):List ay:=fs.map (uc σ)
section
variable {fs : List ay} {nm : ByteArray} {pa va : Int} {σ : Int → Int}
theorem EU{k:Nat}{y:ay}:(xD σ fs)[k]?=some y↔∃x,fs[k]?=some x∧y=uc σ x:=by
 unfold xD;rw[List.getElem?_map,Option.map_eq_some_iff];exact⟨fun⟨x,h,e⟩=>⟨x,h,e.symm⟩,fun⟨x,h,e⟩=>⟨x,h,e.symm⟩⟩
theorem QbP:(xD σ fs).map Dh=fs.map Dh:=by
 unfold xD;rw[List.map_map];rfl
theorem Lb:(xD σ fs).length=fs.length:=by unfold xD;rw[List.length_map]
theorem Qdb(x:ay):(nu (uc σ x)).Sublist (nu x):=by
 unfold nu uc;simp only[List.map_map];refine List.Sublist.append ?_ ?_
 ·have:((fun p:bI=>p.dst)∘YI σ)=fun p=>p.dst:=rfl
  rw[this];exact List.filter_sublist.map _
 ·rw[List.filter_map,List.map_map];have:((fun i:aO=>i.dst)∘s5 σ)=fun i=>i.dst:=rfl
  rw[this];have e2:((fun i:aO=>decide (aU i.op))∘s5 σ)=fun i=>decide (aU i.op):=rfl
  rw[e2];exact(List.filter_sublist.filter _).map _
theorem YJ(h:ey pa va (bF fs)):ey pa va (bF (xD σ fs)):=by
 have hs:((bF (xD σ fs)).map (·.1)).Sublist ((bF fs).map (·.1)):=by rw[pf,pf];unfold xD;rw[List.flatMap_map];exact Be fun x _=>Qdb x
 refine⟨fun d hd=> ?_,h.2.sublist hs⟩;have:=hs.subset (List.mem_map.2 ⟨d,hd,rfl⟩);obtain⟨e,he,h1⟩:=List.mem_map.1 this;rw[←h1];exact h.1 e he
theorem sub_def{v:Int}{b q:Int}(hv:σ v=v)(h:(v,b,q)∈bF fs):∃q',(v,b,q')∈bF (xD σ fs)∧q'≤q∧∀(k:Nat) (x:ay) (j:Nat),fs[k]?=some x→b=(k:Int)→q<(j:Int)→q'<(nI (fun i=>bl σ i.dst) x.insts j:Int):=by
 obtain⟨k,x,hx,rfl,h|⟨j,i,hi,hm,rfl,rfl⟩⟩:=sq.1 h
 ·obtain⟨rfl,p,hp,rfl⟩:=h;refine⟨-1,sq.2 ⟨k,uc σ x,EU.2 ⟨x,hx,rfl⟩,rfl,.inl ⟨rfl,YI σ p,List.mem_map.2 ⟨p,List.mem_filter.2 ⟨hp,?_⟩,rfl⟩,rfl⟩⟩,oM,fun k' x' j' _ _ _=>oM⟩;unfold bl;rw[hv];exact beq_self_eq_true _
 ·have hk:bl σ i.dst=true:=by unfold bl;rw[hv];exact beq_self_eq_true _
  refine⟨(nI (fun i=>bl σ i.dst) x.insts j:Nat),sq.2 ⟨k,uc σ x,EU.2 ⟨x,hx,rfl⟩,rfl,.inr ⟨_,s5 σ i,?_,hm,rfl,rfl⟩⟩,?_,fun k' x' j' yk e hj=> ?_⟩
  ·show((x.insts.filter (fun i=>bl σ i.dst)).map (s5 σ))[_]?=_;rw[List.getElem?_map,F2 (f:=fun i:aO=>bl σ i.dst) hi hk];rfl
  ·have:=Nn (f:=fun i:aO=>bl σ i.dst) (l:=x.insts) j;omega
  ·have:k'=k:=oM;subst this;rw[hx]at yk;injection yk with yk;subst yk;have:=Q8 (f:=fun i:aO=>bl σ i.dst) hi hk (j:=j') oM;omega
theorem NP(h:j9 nm pa va fs)(hs:Sub pa va fs σ){v b q q':Int}(h0:0≤b)(h1:b<fs.length)(hq:(∃(k:Nat) (x:ay) (j:Nat),fs[k]?=some x∧b=(k:Int)∧q=(j:Int)∧q'=(nI (fun i=>bl σ i.dst) x.insts j:Int))∨q≤q')(hv:Av pa va fs v b q):bX (Dm (tg (af fs))) pa va (bF (xD σ fs)) (σ v) b q':=by
 obtain⟨g1,g2,g3⟩:=(xM h).1 (hs.av v b q h0 h1 hv);refine(u3 (YJ h.yc.2).2).2 ⟨g1,g2,g3.imp id ?_⟩;rintro⟨c,k,hd,h4⟩;obtain⟨k',zI,hle,fm⟩:=sub_def (hs.idem v) hd;refine⟨c,k',zI,h4.imp (fun⟨e,hk⟩=>⟨e,?_⟩) id⟩;rcases hq with⟨kb,x,j,hx,rfl,rfl,rfl⟩|hq
 ·exact fm kb x j hx e hk
 ·omega
theorem QbQ{i:aO}(h:bJ i):bJ (s5 σ i):=by
 unfold bJ at h⊢;simpa only[s5,List.length_map]using h
theorem QcF(h:j9 nm pa va fs)(hs:Sub pa va fs σ):j9 nm pa va (xD σ fs):=by
 have he:=QbP (σ:=σ) (fs:=fs);have hl:=Lb (σ:=σ) (fs:=fs);refine⟨h.name,h.par,by rw[hl];exact h.pos,fun y hy=> ?_,?_,(Ri he).2 h.all,fun y hy=> ?_,⟨fun y hy p hp=> ?_,YJ h.yc.2⟩,fun k hk=> ?_⟩
 ·obtain⟨x,hx,rfl⟩:=EU.1 hy;have:=h.ah x hx;show((x.ah.filter _).map (YI σ)).length=0;rw[List.length_map];have h2:=List.length_filter_le (fun p:bI=>bl σ p.dst) x.ah;omega
 ·rw[mw he];exact h.src
 ·obtain⟨x,hx,rfl⟩:=List.mem_map.1 hy;rw[hl];have:=h.ends x hx;unfold ix at this⊢;show(x.e=0∧(0≤x.a∧x.a<_)∧(if Pb x then σ x.v else x.v)=0∧x.b=0)∨(x.e=1∧(0≤x.a∧x.a<_)∧(0≤x.b∧x.b<_)∧x.a≠x.b)∨(x.e=2∧x.a=0∧x.b=0)∨(x.e=3∧cN x.a∧(if Pb x then σ x.v else x.v)=0∧x.b=0);rcases this with⟨e,h1,h2,h3⟩|h1|h1|⟨e,h1,h2,h3⟩
  ·exact .inl ⟨e,h1,by rw[if_neg (by unfold Pb;omega)];exact h2,h3⟩
  ·exact .inr (.inl h1)
  ·exact .inr (.inr (.inl h1))
  ·exact .inr (.inr (.inr ⟨e,h1,by rw[if_neg (by unfold Pb;omega)];exact h2,h3⟩))
 ·obtain⟨x,hx,rfl⟩:=List.mem_map.1 hy;obtain⟨i,hi,rfl⟩:=List.mem_map.1 hp;exact QbQ (h.yc.1 x hx i (List.mem_filter.1 hi).1)
 ·obtain⟨x,hx,hr⟩:=h.reads k oM;have Jm:(k:Int)<fs.length:=oM;refine⟨uc σ x,EU.2 ⟨x,hx,rfl⟩,⟨fun j p hp=> ?_,fun m p hp i a ha=> ?_,fun hR=> ?_⟩⟩
  ·have zG:((x.ah.filter (fun p=>bl σ p.dst)).map (YI σ))[j]?=some p:=hp;rw[List.getElem?_map,Option.map_eq_some_iff]at zG;obtain⟨p0,I6,rfl⟩:=zG;obtain⟨j',h1,h2,_⟩:=sW I6;obtain⟨h3,h4⟩:=hr.ah j' p0 h1;rw[mw he,lJ he];refine⟨by show(p0.args.map σ).length=_;rw[List.length_map];exact h3,fun i a s ha QJ=> ?_⟩;have nQ:(p0.args.map σ)[i]?=some a:=ha;rw[List.getElem?_map,Option.map_eq_some_iff]at nQ;obtain⟨a0,Ij,rfl⟩:=nQ;have Uw:=(AN.1 (List.mem_of_getElem? QJ)).1;rw[bE]at Uw;exact NP h hs Uw.1 Uw.2 (.inr (Int.le_refl _)) (h4 i a0 s Ij QJ)
  ·have zG:((x.insts.filter (fun i=>bl σ i.dst)).map (s5 σ))[m]?=some p:=hp;rw[List.getElem?_map,Option.map_eq_some_iff]at zG;obtain⟨p0,I6,rfl⟩:=zG;obtain⟨j',h1,h2,h3⟩:=sW I6;have nQ:(p0.args.map σ)[i]?=some a:=ha;rw[List.getElem?_map,Option.map_eq_some_iff]at nQ;obtain⟨a0,Ij,rfl⟩:=nQ;rw[lJ he];exact NP h hs oM Jm (.inl ⟨k,x,j',hx,rfl,rfl,by rw[h3]⟩) (hr.insts j' p0 h1 i a0 Ij)
  ·have QeS:=h.ends x (List.mem_of_getElem? hx);have hR2:pE x:=by
    rcases hR with e|⟨e,cU⟩
    ·exact .inl e
    ·refine .inr ⟨e,fun e2=> ?_⟩;apply cU;show(if Pb x then σ x.v else x.v)= -1;have e':x.e=2:=e;rw[if_neg (by unfold Pb;omega)];exact e2
   have ht:=hr.fin hR2;have xI:Pb x:=by
    rcases hR2 with e|⟨e,_⟩
    ·exact .inl e
    ·exact .inr ⟨e,ht.1⟩
   show bX (Dm (tg (af (xD σ fs)))) pa va (bF (xD σ fs)) (if Pb x then σ x.v else x.v) (k:Int) 20000;rw[if_pos xI,lJ he];exact NP h hs oM Jm (.inr (Int.le_refl _)) ht
theorem QcG:hY (xD σ fs)≤hY fs:=by
 unfold hY jl;rw[List.take_of_length_le (Nat.le_refl _),List.take_of_length_le (Nat.le_refl _)];unfold xD;rw[List.length_map,List.map_map];have:∀l:List ay,(l.map ((fun x=>x.ah.length+x.insts.length)∘uc σ)).sum≤(l.map (fun x=>x.ah.length+x.insts.length)).sum:=by
  intro l;induction l with
  |nil=>simp
  |cons a l ih=>
   have h1:=List.length_filter_le (fun p:bI=>bl σ p.dst) a.ah;have h2:=List.length_filter_le (fun i:aO=>bl σ i.dst) a.insts;have h3:(uc σ a).ah.length=(a.ah.filter (fun p=>bl σ p.dst)).length:=by unfold uc;simp
   have h4:(uc σ a).insts.length=(a.insts.filter (fun i=>bl σ i.dst)).length:=by unfold uc;simp
   simp only[List.map_cons,List.sum_cons,Function.comp_apply];omega
 have:=this fs;omega
theorem Qb8(h:bV nm pa va fs=0)(hs:Sub pa va fs σ):bV nm pa va (xD σ fs)=0:=by
 unfold bV at h⊢;split at h
 ·cases h
 ·rename_i h1;split at h
  ·rename_i h2;have:=QcG (fs:=fs) (σ:=σ);rw[if_neg oM,if_pos (QcF h2 hs)]
  ·cases h
end
end Go.Mor
namespace Go.Mor
open Go.RowKit
section
variable {P : Program} {t : TypeId} {f0 f1 f2 f3 f4 : Field}
structure Qdc(P:Program)(t:TypeId)(f0 f1 f2 f3 f4:Field):Prop where
 VB:P.underlying t=some (.struct #[f0,f1,f2,f3,f4])
 held:P.stoodInHeld t=false
 n0:f0.name≠ "_"
 n1:f1.name≠ "_"
 n2:f2.name≠ "_"
 n3:f3.name≠ "_"
 n4:f4.name≠ "_"
 t0:P.underlying f0.type=some (.int .i64)
 t1:P.underlying f1.type=some (.int .i64)
 t2:P.underlying f2.type=some .string
 t3:P.underlying f3.type=some (.int .i64)
 t4:P.underlying f4.type=some (.int .i64)
 o0:f0.offset=0
 o1:f1.offset=1
 o2:f2.offset=2
 o3:f3.offset=3
 o4:f4.offset=4
abbrev QcH(a b:Int)(s:cV)(c d:Int):Value:= .agg #[vI a,vI b,.string s,vI c,vI d]
theorem sy{e:TypeId}(he:P.underlying e=some (.int .i64)){xs:Array Value}{off:Nat}{v:Value}(hx:xs[off]?=some v)(w:World):(part e xs off).run P w= .ok v w:=by
 simp[part,isAgg,run_underlying he,hx]
theorem Ro{e:TypeId}(he:P.underlying e=some .string){xs:Array Value}{off:Nat}{v:Value}(hx:xs[off]?=some v)(w:World):(part e xs off).run P w= .ok v w:=by
 simp[part,isAgg,run_underlying he,hx]
theorem Qdd(h:Qdc P t f0 f1 f2 f3 f4)(a b:Int)(s:cV)(c d:Int)(a' b':Int)(s':cV)(c' d':Int)(w:World):(Op.equal t (QcH a b s c d) (QcH a' b' s' c' d')).run P w= .ok ((a,b,s,c,d)==(a',b',s',c',d')) w:=by
 have hf:P.fieldsOf t=#[f0,f1,f2,f3,f4]:=by unfold Program.fieldsOf;rw[h.VB]
 unfold Op.equal;rw[show Op.maxDepth=9999+1 from rfl,run_equalIn_struct w 9999 t _ _ (by rw[hf];exact h.VB) h.held,hf];have e:((a,b,s,c,d)==(a',b',s',c',d'))=(a==a'&&(b==b'&&(s.toList==s'.toList&&(c==c'&&d==d')))):=by rw[←vV];rfl
 simp only[e,Op.eqFields,h.n0,h.n1,h.n2,h.n3,h.n4,h.o0,h.o1,h.o2,h.o3,h.o4,ne_eq,not_false_eq_true,if_true,Sem.run_bind];rw[sy h.t0 (v:=vI a) rfl,Result.andThen_ok,sy h.t0 (v:=vI a') rfl,Result.andThen_ok,run_equalIn_int w 9998 f0.type .i64 .i64 a a' h.t0,Result.andThen_ok];cases a==a' with
 |false=>simp
 |true=>
  simp only[Bool.not_true,Bool.false_eq_true,if_false,Bool.true_and,Sem.run_bind];rw[sy h.t1 (v:=vI b) rfl,Result.andThen_ok,sy h.t1 (v:=vI b') rfl,Result.andThen_ok,run_equalIn_int w 9998 f1.type .i64 .i64 b b' h.t1,Result.andThen_ok];cases b==b' with
  |false=>simp
  |true=>
   simp only[Bool.not_true,Bool.false_eq_true,if_false,Bool.true_and,Sem.run_bind];rw[Ro h.t2 (v:=vT s) rfl,Result.andThen_ok,Ro h.t2 (v:=vT s') rfl,Result.andThen_ok,run_equalIn_string w 9998 f2.type s s' h.t2,Result.andThen_ok];cases s.toList==s'.toList with
   |false=>simp
   |true=>
    simp only[Bool.not_true,Bool.false_eq_true,if_false,Bool.true_and,Sem.run_bind];rw[sy h.t3 (v:=vI c) rfl,Result.andThen_ok,sy h.t3 (v:=vI c') rfl,Result.andThen_ok,run_equalIn_int w 9998 f3.type .i64 .i64 c c' h.t3,Result.andThen_ok];cases c==c' with
    |false=>simp
    |true=>
     simp only[Bool.not_true,Bool.false_eq_true,if_false,Bool.true_and,Sem.run_bind];rw[sy h.t4 (v:=vI d) rfl,Result.andThen_ok,sy h.t4 (v:=vI d') rfl,Result.andThen_ok,run_equalIn_int w 9998 f4.type .i64 .i64 d d' h.t4,Result.andThen_ok];cases d==d'<;>simp
abbrev K5:=Int×Int×cV×Int×Int
def qB(k:K5):Value:=QcH k.1 k.2.1 k.2.2.1 k.2.2.2.1 k.2.2.2.2
theorem YK(h:Qdc P t f0 f1 f2 f3 f4)(s:K5)(w:World):∀(es:List MapEntry) (l:List (K5×Value)) (i:Nat),es.map (fun e=>(e.key,e.val))=vU qB l→(Instr.findAsking t (qB s) es i).run P w= .ok ((XS l s).map (fun p=>(i+p.1,p.2))) w
 |[],l,i,hl=>by
  cases l with
  |nil=>rfl
  |cons x r=>simp[vU]at hl
 |x::es,l,i,hl=>by
  cases l with
  |nil=>simp[vU]at hl
  |cons y r=>
   obtain⟨k0,v0⟩:=y;simp only[vU,List.map_cons,List.cons.injEq,Prod.mk.injEq]at hl;obtain⟨⟨h1,h2⟩,h3⟩:=hl;unfold Instr.findAsking XS;rw[Sem.run_bind,h1];have he:=Qdd h s.1 s.2.1 s.2.2.1 s.2.2.2.1 s.2.2.2.2 k0.1 k0.2.1 k0.2.2.1 k0.2.2.2.1 k0.2.2.2.2 w;rw[show(Op.equal t (qB s) (qB k0)).run P w= .ok (s==k0) w from he,Result.andThen_ok];cases s==k0 with
   |true=>simp[h2]
   |false=>
    simp only[Bool.false_eq_true,if_false];rw[YK h s w es r (i+1) h3];cases XS r s with
    |none=>rfl
    |some p=>simp only[Option.map_some];congr 2;rw[Nat.add_right_comm,Nat.add_assoc]
theorem QbC(h:Qdc P t f0 f1 f2 f3 f4):Xr P t (.struct #[f0,f1,f2,f3,f4]) qB where
 SN em a w:=by
  have c:∀{e:TypeId} {d:TypeDesc} {v:Value},P.underlying e=some d→MapKept.IsKey d v→(Instr.checkKey em 9999 e v).run P w= .ok () w:=fun h1 h2=>MapKept.run_checkKey h1 h2 em 9998
  have ki:∀n:Int,MapKept.IsKey (.int .i64) (vI n):=fun _=>rfl
  have ks:∀n:cV,MapKept.IsKey .string (vT n):=fun _=>trivial
  show(Instr.checkKey em (9999+1) t (qB a)).run P w=_;unfold Instr.checkKey;simp only[qB,QcH,Sem.run_bind,run_underlying h.VB,Result.andThen_ok];rw[←Array.forIn_toList];simp only[List.forIn_cons,List.forIn_nil,h.n0,h.n1,h.n2,h.n3,h.n4,h.o0,h.o1,h.o2,h.o3,h.o4,ne_eq,not_false_eq_true,if_true,Sem.run_bind,Sem.run_pure,Result.andThen_ok];rw[sy h.t0 (v:=vI a.1) rfl,Result.andThen_ok,c h.t0 (ki _),Result.andThen_ok];simp only[Sem.run_pure,Sem.run_bind,Result.andThen_ok];rw[sy h.t1 (v:=vI a.2.1) rfl,Result.andThen_ok,c h.t1 (ki _),Result.andThen_ok];simp only[Sem.run_pure,Sem.run_bind,Result.andThen_ok];rw[Ro h.t2 (v:=vT a.2.2.1) rfl,Result.andThen_ok,c h.t2 (ks _),Result.andThen_ok];simp only[Sem.run_pure,Sem.run_bind,Result.andThen_ok];rw[sy h.t3 (v:=vI a.2.2.2.1) rfl,Result.andThen_ok,c h.t3 (ki _),Result.andThen_ok];simp only[Sem.run_pure,Sem.run_bind,Result.andThen_ok];rw[sy h.t4 (v:=vI a.2.2.2.2) rfl,Result.andThen_ok,c h.t4 (ki _),Result.andThen_ok];rfl
 fnd s es l w hl:=by
  unfold Instr.findKey;rw[Sem.run_bind,run_underlying h.VB];simp only[Result.andThen_ok];have ha:=YK h s w es l 0 hl;have e0:(XS l s).map (fun p=>(0+p.1,p.2))=XS l s:=by cases XS l s<;>simp
  rw[e0]at ha;cases es with
  |nil=>
   cases l with
   |nil=>rfl
   |cons x r=>simp[vU]at hl
  |cons x es=>
   have hn:Instr.findNow (.struct #[f0,f1,f2,f3,f4]) (qB s) (x::es) 0=none:=by unfold Instr.findNow Instr.sameNow;rfl
   rw[hn];exact ha
 stays a w:=by
  have:Instr.sameBits 10000 (qB a) (qB a)=true:=by unfold qB QcH;simp[Instr.sameBits,sZ]
  simp[Instr.keyThatStays,this]
 eqv a b e:=by
  obtain⟨a1,a2,a3,a4,a5⟩:=a;obtain⟨b1,b2,b3,b4,b5⟩:=b;have e2:(a1==b1&&(a2==b2&&(a3.toList==b3.toList&&(a4==b4&&a5==b5))))=true:=by rw[←vV];exact e
  rw[←vV]at e2;simp only[Bool.and_eq_true,beq_iff_eq]at e2;obtain⟨rfl,rfl,h3,rfl,rfl⟩:=e2;have:a3=b3:=by simpa[sZ]using h3
  rw[this]
end
end Go.Mor
namespace Go.Mor
open Go.RowKit
abbrev yu:=K5
def Ar(op n:Int)(name:cV)(l:ar):yu:=(op,n,name,l.getD 0 (-1),l.getD 1 (-1))
def Ds(σ:Int→Int)(p:bI):Int→Int:=match oH σ p.dst p.args (-1)with
 |some o=>link σ p.dst o
 |none=>σ
abbrev StI:=(Int→Int)×List (yu×Int)
def Fa(s:StI)(i:aO):StI:=if i.op=12 then(link s.1 i.dst (s.1 ((i.args.map s.1).getD 0 0)),s.2)else if cP i.op then match DF s.2 (Ar i.op i.n i.name (i.args.map s.1))with
  |some v=>(link s.1 i.dst v,s.2)
  |none=>(s.1,Xq s.2 (Ar i.op i.n i.name (i.args.map s.1)) i.dst)
 else s
def fe(σ:Int→Int)(x:ay):Int→Int:=(x.insts.foldl Fa (x.ah.foldl Ds σ,[])).1
def YM(fs:List ay)(k:Nat):Int→Int:=(fs.take k).foldl fe (fun v=>v)
def BV(fs:List ay):Int→Int:=fs.foldl fe (fun v=>v)
def sz(fs:List ay):List ay:=xD (BV fs) fs
def qC:Nat→List ay→List ay
 |0,fs=>fs
 |n+1,fs=>if hY (sz fs)<hY fs then qC n (sz fs)else fs
def pt(fs:List ay):List ay:=qC (hY fs) fs
theorem Y4{α β:Type}[BEq α]{l:List (α×β)}{s:α}{v:β}{e:α×β}(h:e∈Xq l s v):e=(s,v)∨e∈l:=by
 induction l with
 |nil=>simp[Xq]at h;exact .inl h
 |cons a l ih=>
  obtain⟨k,u⟩:=a;unfold Xq at h;cases hs:s==k with
  |true=>
   rw[hs]at h;rcases List.mem_cons.1 h with h|h
   ·exact .inl h
   ·exact .inr (List.mem_cons_of_mem _ h)
  |false=>
   rw[hs]at h;rcases List.mem_cons.1 h with h|h
   ·exact .inr (h▸List.mem_cons_self ..)
   ·exact(ih h).imp id (List.mem_cons_of_mem _)
theorem QbD{α β:Type}[BEq α]{l:List (α×β)}{s:α}{v:β}(h:DF l s=some v):∃k,(k,v)∈l∧(s==k)=true:=by
 induction l with
 |nil=>simp[DF]at h
 |cons a l ih=>
  obtain⟨k,u⟩:=a;unfold DF at h;cases hs:s==k with
  |true=>rw[hs]at h;injection h with h;subst h;exact⟨k,List.mem_cons_self ..,hs⟩
  |false=>rw[hs]at h;obtain⟨k',h1,h2⟩:=ih h;exact⟨k',List.mem_cons_of_mem _ h1,h2⟩
section
variable {fs : List ay} {nm : ByteArray} {pa va : Int} {σ : Int → Int} {k j : Nat} {x : ay} {had : List (yu × Int)}
structure sX(va:Int)(σ:Int→Int)(d o:Int):Prop where
 dd:σ d=d
 oo:σ o=o
 ne:o≠d
 d0:0≤d
 d1:d<va
 o0:0≤o
 o1:o<va
theorem Xt(h:j9 nm pa va fs){d o c m:Int}(hd:(d,c,m)∈bF fs)(HU:σ d=d)(rM:σ o=o)(ho:Av pa va fs o c m):sX va σ d o:=by
 have bh:=zn h hd;have ZJ:=h.par;exact⟨HU,rM,by rintro rfl;exact QcE h hd ho,oM,bh.2,ho.1,ho.2.1⟩
structure oK(pa va:Int)(fs:List ay)(k:Nat)(σ:Int→Int):Prop where
 sub:Sub pa va fs σ
 F3:∀v c m:Int,(v,c,m)∈bF fs→(k:Int)≤c→σ v=v
structure pr(pa va:Int)(fs:List ay)(k:Nat)(x:ay)(j:Nat)(σ:Int→Int):Prop where
 sub:Sub pa va fs σ
 F3:∀v c m:Int,(v,c,m)∈bF fs→(k:Int)<c→σ v=v
 ah:∀(i:Nat) (p:bI),j≤i→x.ah[i]?=some p→σ p.dst=p.dst
 insts:∀v m:Int,(v,(k:Int),m)∈bF fs→0≤m→σ v=v
structure Xu(pa va:Int)(fs:List ay)(k:Nat)(x:ay)(j:Nat)(σ:Int→Int)(had:List (yu×Int)):Prop where
 sub:Sub pa va fs σ
 F3:∀v c m:Int,(v,c,m)∈bF fs→(k:Int)<c→σ v=v
 insts:∀v m:Int,(v,(k:Int),m)∈bF fs→(j:Int)≤m→σ v=v
 had:∀e,e∈had→σ e.2=e.2∧∃m:Int,0≤m∧m<j∧(e.2,(k:Int),m)∈bF fs
theorem oK.start:oK pa va fs 0 (fun v=>v):=⟨Sub.id,fun _ _ _ _ _=>rfl⟩
theorem oK.toP(h:oK pa va fs k σ)(hx:fs[k]?=some x):pr pa va fs k x 0 σ:=⟨h.sub,fun v c m hd hc=>h.F3 v c m hd oM,fun i p _ hp=>h.F3 p.dst k (-1) (sq.2 ⟨k,x,hx,rfl,.inl ⟨rfl,p,List.mem_of_getElem? hp,rfl⟩⟩) (Int.le_refl _),fun v m hd _=>h.F3 v k m hd (Int.le_refl _)⟩
theorem Qb9(h:j9 nm pa va fs)(hx:fs[k]?=some x):(nu x).Nodup:=by
 have:=h.yc.2.2;rw[pf]at this;exact this.sublist (rL (List.mem_of_getElem? hx))
theorem RM(h:j9 nm pa va fs)(hx:fs[k]?=some x){i:Nat}{p q:bI}(hp:x.ah[j]?=some p)(hq:x.ah[i]?=some q)(cU:i≠j):q.dst≠p.dst:=by
 have hn:=(List.nodup_append.1 (Qb9 h hx)).1;have zG:=List.pairwise_map.1 hn;exact kQ (R:=fun a b:bI=>a.dst≠b.dst) (fun _ _ h e=>h e.symm) zG hq hp cU
theorem pr.step(h:j9 nm pa va fs)(hx:fs[k]?=some x)(hs:pr pa va fs k x j σ){p:bI}(hp:x.ah[j]?=some p):pr pa va fs k x (j+1) (Ds σ p)∧∀o,oH σ p.dst p.args (-1)=some o→sX va σ p.dst o:=by
 unfold Ds;cases ho:oH σ p.dst p.args (-1)with
 |none=>exact⟨⟨hs.sub,hs.F3,fun i q hi hq=>hs.ah i q oM hq,hs.insts⟩,fun o h=>by cases h⟩
 |some o=>
  obtain⟨hd,rM,XT⟩:=Ym h hs.sub hx (List.mem_of_getElem? hp) ho;have HU:=hs.ah j p (Nat.le_refl _) hp;have cU:∀{v c m:Int},(v,c,m)∈bF fs→(c,m)≠((k:Int),(-1:Int))→σ v=v→link σ p.dst o v=v:=by intro v c m hv T6 e;rw[BM (by rw[e];rintro rfl;exact T6 (dj h hv hd)),e]
  refine⟨⟨hs.sub.link h hd HU rM XT,fun v c m hv hc=>cU hv (by intro e;injection e with e1;omega) (hs.F3 v c m hv hc),fun i q hi hq=> ?_,fun v m hv hm=>cU hv (by intro e;injection e with _ e1;omega) (hs.insts v m hv hm)⟩,fun o' e=>by injection e with e;subst e;exact Xt h hd HU rM XT⟩;have e:=hs.ah i q oM hq;show link σ p.dst o q.dst=q.dst;rw[BM (by rw[e];exact RM h hx hp hq oM),e]
theorem pr.toI(hs:pr pa va fs k x j σ):Xu pa va fs k x 0 σ []:=⟨hs.sub,hs.F3,fun v m hd hm=>hs.insts v m hd oM,sI⟩
theorem Xu.step(h:j9 nm pa va fs)(hx:fs[k]?=some x)(hs:Xu pa va fs k x j σ had){i:aO}(hi:x.insts[j]?=some i):Xu pa va fs k x (j+1) (Fa (σ,had) i).1 (Fa (σ,had) i).2∧(i.op=12→sX va σ i.dst (σ ((i.args.map σ).getD 0 0)))∧(i.op≠12→cP i.op→∀v,DF had (Ar i.op i.n i.name (i.args.map σ))=some v→sX va σ i.dst v):=by
 have uA:aU i.op→(i.dst,(k:Int),(j:Int))∈bF fs:=fun hm=>sq.2 ⟨k,x,hx,rfl,.inr ⟨j,i,hi,hm,rfl,rfl⟩⟩
 have cU:∀{o:Int},aU i.op→∀{v c m:Int},(v,c,m)∈bF fs→(c,m)≠((k:Int),(j:Int))→σ v=v→link σ i.dst o v=v:=by intro o hm v c m hv T6 e;rw[BM (by rw[e];rintro rfl;exact T6 (dj h hv (uA hm))),e]
 have keep:∀{o:Int},aU i.op→σ o=o→Av pa va fs o (k:Int) (j:Int)→Xu pa va fs k x (j+1) (link σ i.dst o) had:=by intro o hm rM XT;have HU:=hs.insts i.dst j (uA hm) (Int.le_refl _);refine⟨hs.sub.link h (uA hm) HU rM XT,fun v c m hv hc=>cU hm hv (by intro e;injection e with e1;omega) (hs.F3 v c m hv hc),fun v m hv hl=>cU hm hv (by intro e;injection e with _ e1;omega) (hs.insts v m hv oM),fun e he=> ?_⟩;obtain⟨e1,m,Zf,dg,dY⟩:=hs.had e he;exact⟨cU hm dY (by intro e;injection e with _ e1;omega) e1,m,Zf,oM,dY⟩
 have stay:∀QdE,(∀e,e∈QdE→σ e.2=e.2∧∃m:Int,0≤m∧m<((j+1:Nat):Int)∧(e.2,(k:Int),m)∈bF fs)→Xu pa va fs k x (j+1) σ QdE:=fun QdE hh=>⟨hs.sub,hs.F3,fun v m hv hl=>hs.insts v m hv oM,hh⟩
 unfold Fa;by_cases yB:i.op=12
 ·rw[if_pos yB];have hm:aU i.op:=iQ (.inr (.inl yB));have hlen:i.args.length=1:=by have:=h.yc.1 x (List.mem_of_getElem? hx) i (List.mem_of_getElem? hi);unfold bJ at this;omega
  obtain⟨a,ha⟩:∃a,i.args=[a]:=List.length_eq_one_iff.1 hlen;have e:(i.args.map σ).getD 0 0=σ a:=by rw[ha];rfl
  have XT:=hs.sub.av a k j oM (by have:=(List.getElem?_eq_some_iff.1 hx).1;omega) (Tf h hx hi (a:=a) (by rw[ha];simp));simp only[e,hs.sub.idem];exact⟨keep hm (hs.sub.idem a) XT,fun _=>Xt h (uA hm) (hs.insts i.dst j (uA hm) (Int.le_refl _)) (hs.sub.idem a) XT,fun hn=>absurd yB hn⟩
 ·rw[if_neg yB];by_cases hp:cP i.op
  ·rw[if_pos hp];have hm:=iQ hp;cases hl:DF had (Ar i.op i.n i.name (i.args.map σ))with
   |some v=>
    obtain⟨kk,nG,_⟩:=QbD hl;obtain⟨e1,m,Zf,dg,dY⟩:=hs.had _ nG;have bh:=zn h dY;have ZJ:=h.par;have XT:Av pa va fs v (k:Int) (j:Int):=(xM h).2 ⟨oM,bh.2,.inr ⟨k,m,dY,.inl ⟨rfl,dg⟩⟩⟩;refine⟨keep hm e1 XT,fun e=>absurd e yB,fun _ _ v' e=> ?_⟩;injection e with e;subst e;exact Xt h (uA hm) (hs.insts i.dst j (uA hm) (Int.le_refl _)) e1 XT
   |none=>
    refine⟨stay _ fun e he=> ?_,fun e=>absurd e yB,fun _ _ v' e=>by cases e⟩;rcases Y4 he with rfl|he
    ·exact⟨hs.insts i.dst j (uA hm) (Int.le_refl _),j,oM,oM,uA hm⟩
    ·obtain⟨e1,m,Zf,dg,dY⟩:=hs.had e he;exact⟨e1,m,Zf,oM,dY⟩
  ·rw[if_neg hp];refine⟨stay _ fun e he=> ?_,fun e=>absurd e yB,fun _ h=>absurd h hp⟩;obtain⟨e1,m,Zf,dg,dY⟩:=hs.had e he;exact⟨e1,m,Zf,oM,dY⟩
theorem Xu.toA(hs:Xu pa va fs k x j σ had):oK pa va fs (k+1) σ:=⟨hs.sub,fun v c m hd hc=>hs.F3 v c m hd oM⟩
theorem uh{α β:Type}(f:β→α→β)(a:β){l:List α}{j:Nat}{y:α}(hy:l[j]?=some y):(l.take (j+1)).foldl f a=f ((l.take j).foldl f a) y:=by
 obtain⟨hj,he⟩:=List.getElem?_eq_some_iff.1 hy;rw[List.take_succ_eq_append_getElem hj,List.foldl_append,he];rfl
theorem Tg{α β:Type}(f:β→α→β)(a:β){l:List α}{j:Nat}(hj:l.length≤j):(l.take j).foldl f a=l.foldl f a:=by rw[List.take_of_length_le hj]
theorem Qbk(h:j9 nm pa va fs)(hx:fs[k]?=some x)(hs:oK pa va fs k σ):∀j,j≤x.ah.length→pr pa va fs k x j ((x.ah.take j).foldl Ds σ)
 |0,_=>hs.toP hx
 |j+1,hj=>by obtain⟨p,hp⟩:=bu (l:=x.ah) (i:=j) oM;rw[uh _ _ hp];exact((Qbk h hx hs j oM).step h hx hp).1
theorem Qbm(h:j9 nm pa va fs)(hx:fs[k]?=some x)(hs:oK pa va fs k σ):∀j,j≤x.insts.length→Xu pa va fs k x j ((x.insts.take j).foldl Fa (x.ah.foldl Ds σ,[])).1 ((x.insts.take j).foldl Fa (x.ah.foldl Ds σ,[])).2
 |0,_=>by have:=(Qbk h hx hs x.ah.length (Nat.le_refl _)).toI;rw[List.take_length]at this;exact this
 |j+1,hj=>by obtain⟨i,hi⟩:=bu (l:=x.insts) (i:=j) oM;rw[uh _ _ hi];exact((Qbm h hx hs j oM).step h hx hi).1
theorem QcI(h:j9 nm pa va fs)(hx:fs[k]?=some x)(hs:oK pa va fs k σ):oK pa va fs (k+1) (fe σ x):=by
 have:=(Qbm h hx hs x.insts.length (Nat.le_refl _)).toA;rw[List.take_length]at this;exact this
theorem Xw(h:j9 nm pa va fs):∀k,k≤fs.length→oK pa va fs k (YM fs k)
 |0,_=>oK.start
 |k+1,hk=>by obtain⟨x,hx⟩:=bu (l:=fs) (i:=k) oM;unfold YM;rw[uh _ _ hx];exact QcI h hx (Xw h k oM)
theorem SL(h:j9 nm pa va fs):Sub pa va fs (BV fs):=by
 have:=(Xw h fs.length (Nat.le_refl _)).sub;unfold YM at this;rwa [List.take_length]at this
theorem Au(h:bV nm pa va fs=0):bV nm pa va (sz fs)=0:=Qb8 h (SL (qI h).1)
theorem Le:∀(n:Nat) {fs:List ay},bV nm pa va fs=0→bV nm pa va (qC n fs)=0
 |0,_,h=>h
 |n+1,fs,h=>by
  unfold qC;split
  ·exact Le n (Au h)
  ·exact h
theorem F4(h:bV nm pa va fs=0):bV nm pa va (pt fs)=0:=Le _ h
theorem SM:∀(n:Nat) (fs:List ay),(qC n fs).length=fs.length
 |0,_=>rfl
 |n+1,fs=>by
  unfold qC;split
  ·rw[SM n,sz,Lb]
  ·rfl
theorem NQ:(pt fs).length=fs.length:=SM _ _
theorem iR:∀(n:Nat) (fs:List ay),hY fs≤n→¬hY (sz (qC n fs))<hY (qC n fs)
 |0,fs,h=>by unfold qC;omega
 |n+1,fs,h=>by
  unfold qC;split
  ·exact iR n _ oM
  ·assumption
theorem rA:¬hY (sz (pt fs))<hY (pt fs):=iR _ _ (Nat.le_refl _)
theorem zE{n:Nat}(h:¬hY (sz fs)<hY fs):qC n fs=fs:=by
 cases n with
 |zero=>rfl
 |succ n=>unfold qC;rw[if_neg h]
theorem Y7{n:Nat}:hY fs≤n→qC n fs=pt fs:=by
 intro h;have key:∀(m:Nat) (fs:List ay),hY fs≤m→∀n,hY fs≤n→qC n fs=qC m fs:=by
  intro m;induction m with
  |zero=>
   intro fs h0 n hn;rw[zE oM];rfl
  |succ m ih=>
   intro fs hm n hn;cases n with
   |zero=>
    rw[zE (n:=m+1) oM];rfl
   |succ n=>
    unfold qC;split
    ·exact ih _ oM _ oM
    ·rfl
 exact key _ _ (Nat.le_refl _) _ h
end
end Go.Mor
namespace Go.Mor
open Go.RowKit
inductive Ch(to:ar):Int→Int→Nat→Prop
 |zero {v:Int}:0≤v→to[v.toNat]?=some v→Ch to v v 0
 |step {v u r:Int} {k:Nat}:0≤v→to[v.toNat]?=some u→u≠v→Ch to u r k→Ch to v r (k+1)
section
variable {to : List Int} {u v r s d o : Int} {k m : Nat}
theorem Ch.get(h:Ch to v r k):0≤v∧∃u,to[v.toNat]?=some u∧((u=v∧r=v∧k=0)∨(u≠v∧∃j,k=j+1∧Ch to u r j)):=by
 cases h with
 |zero h0 hv=>exact⟨h0,v,hv,.inl ⟨rfl,rfl,rfl⟩⟩
 | @step _ u _ j h0 hv cU hc=>exact⟨h0,u,hv,.inr ⟨cU,j,rfl,hc⟩⟩
theorem Ch.lt(h:Ch to v r k):0≤v∧v<to.length:=by
 obtain⟨h0,u,hu,_⟩:=h.get;have:=(List.getElem?_eq_some_iff.1 hu).1;exact⟨h0,oM⟩
theorem Ch.last(h:Ch to v r k):Ch to r r 0:=by
 induction h with
 |zero h0 hv=>exact .zero h0 hv
 |step _ _ _ _ ih=>exact ih
theorem Ch.set(hd:Ch to d d 0)(ho:Ch to o o 0)(cU:o≠d)(h:Ch to v r k):∃m,Ch (to.set d.toNat o) v (if r=d then o else r) m:=by
 have Uy:=hd.lt;have Vb:=ho.lt;have oo:Ch (to.set d.toNat o) o o 0:=by
  obtain⟨h0,u,hu,h2⟩:=ho.get;rcases h2 with⟨e,_,_⟩|⟨_,j,e,_⟩
  ·subst e;exact .zero h0 (by rw[List.getElem?_set_ne oM];exact hu)
  ·cases e
 induction h with
 | @zero v h0 hv=>
  by_cases e:v=d
  ·subst e;rw[if_pos rfl];exact⟨1,.step h0 (by rw[List.getElem?_set_self oM]) cU oo⟩
  ·rw[if_neg e];exact⟨0,.zero h0 (by rw[List.getElem?_set_ne oM];exact hv)⟩
 | @step v u r k h0 hv Qd0 hc ih=>
  obtain⟨m,hm⟩:=ih;have hvd:v≠d:=by
   rintro rfl;obtain⟨_,u',hu,h2⟩:=hd.get;rw[hv]at hu;injection hu with hu;subst hu;rcases h2 with⟨e,_,_⟩|⟨_,j,e,_⟩
   ·exact Qd0 e
   ·cases e
  exact⟨m+1,.step h0 (by rw[List.getElem?_set_ne oM];exact hv) Qd0 hm⟩
structure pH(va:Int)(D:Int→Prop)(to:ar)(σ:Int→Int):Prop where
 len:(to.length:Int)=va
 ch:∀v,D v→∃k,Ch to v (σ v) k
 cl:∀v,D v→D (σ v)
variable {va : Int} {D : Int → Prop} {σ : Int → Int}
theorem pH.root(h:pH va D to σ)(hv:D v)(e:σ v=v):Ch to v v 0:=by
 obtain⟨k,hk⟩:=h.ch v hv;rw[e]at hk;exact hk.last
theorem pH.set(h:pH va D to σ)(hd:D d)(ho:D o)(hl:sX va σ d o):pH va D (to.set d.toNat o) (link σ d o):=by
 have h1:=h.root hd hl.dd;have h2:=h.root ho hl.oo;refine⟨by rw[List.length_set];exact h.len,fun v hv=> ?_,fun v hv=> ?_⟩
 ·obtain⟨k,hk⟩:=h.ch v hv;exact h1.set h2 hl.ne hk
 ·unfold link;split
  ·exact ho
  ·exact h.cl v hv
theorem pH.imp{E:Int→Prop}{τ:Int→Int}(h:pH va D to σ)(hE:∀v,E v→D v∧σ v=τ v)(hc:∀v,E v→E (τ v)):pH va E to τ:=⟨h.len,fun v hv=>by
  obtain⟨k,hk⟩:=h.ch v (hE v hv).1;rw[(hE v hv).2]at hk;exact⟨k,hk⟩,hc⟩
theorem Ch.next(h:Ch to v r k)(hu:to[v.toNat]?=some u)(cU:u≠v):∃j,k=j+1∧Ch to u r j:=by
 obtain⟨_,u',pQ,h2⟩:=h.get;rw[hu]at pQ;injection pQ with pQ;subst pQ;rcases h2 with⟨e,_,_⟩|⟨_,j,e,hc⟩
 ·exact absurd e cU
 ·exact⟨j,e,hc⟩
theorem Ch.stay(h:Ch to v r k)(hu:to[v.toNat]?=some v):r=v:=by
 obtain⟨_,u',pQ,h2⟩:=h.get;rw[hu]at pQ;injection pQ with pQ;subst pQ;rcases h2 with⟨_,e,_⟩|⟨cU,_⟩
 ·exact e
 ·exact absurd rfl cU
end
def vR(l:List (yu×Int)):List (yu×Value):=l.map (fun p=>(p.1,vI p.2))
theorem QdF(l:List (yu×Int))(s:yu):DF (vR l) s=(DF l s).map vI:=by
 induction l with
 |nil=>rfl
 |cons x r ih=>
  obtain⟨k,v⟩:=x;show DF ((k,vI v)::vR r) s=_;unfold DF;cases s==k with
  |true=>rfl
  |false=>exact ih
theorem QdG(l:List (yu×Int))(s:yu)(v:Int):Xq (vR l) s (vI v)=vR (Xq l s v):=by
 induction l with
 |nil=>rfl
 |cons x r ih=>
  obtain⟨k,u⟩:=x;show Xq ((k,vI u)::vR r) s _=_;unfold Xq;cases s==k with
  |true=>rfl
  |false=>show _::Xq (vR r) s _=_;rw[ih];rfl
theorem Qet(l:List (yu×Int))(s:yu):vj true (DF (vR l) s) (vI 0)= .tuple #[vI ((DF l s).getD 0),.bool (DF l s).isSome]:=by
 rw[QdF];unfold vj;cases DF l s<;>rfl
theorem BW{α:Type}{l:List α}{j:Nat}{x:α}(h:l[j]?=some x):l.drop j=x::l.drop (j+1):=by
 obtain⟨hk,he⟩:=List.getElem?_eq_some_iff.1 h;rw[List.drop_eq_getElem_cons hk,he]
theorem Qcc{σ:Int→Int}{d a one:Int}{l:ar}(h:σ a=d∨σ a=one):oH σ d (a::l) one=oH σ d l one:=by rw[oH,if_pos h]
theorem Qce{σ:Int→Int}{d a one:Int}{l:ar}(h:¬(σ a=d∨σ a=one))(h0:0≤one):oH σ d (a::l) one=none:=by rw[oH,if_neg h,if_pos h0]
theorem Qcg{σ:Int→Int}{d a one:Int}{l:ar}(h:¬(σ a=d∨σ a=one))(h0:¬0≤one):oH σ d (a::l) one=oH σ d l (σ a):=by rw[oH,if_neg h,if_neg h0]
def xH(to:ar)(d:Int):Option Int→ar
 |some o=>to.set d.toNat o
 |none=>to
def nv(σ:Int→Int)(d:Int):Option Int→Int→Int
 |some o=>link σ d o
 |none=>σ
theorem SO(σ:Int→Int)(p:bI):Ds σ p=nv σ p.dst (oH σ p.dst p.args (-1)):=by
 unfold Ds;cases oH σ p.dst p.args (-1)<;>rfl
def ld(σ:Int→Int)(had:List (yu×Int))(op n:Int)(name:cV)(l:ar):Option Int:=if op=12 then some (σ (l.getD 0 0))else if cP op then DF had (Ar op n name l)else none
def Jx(had:List (yu×Int))(op dst n:Int)(name:cV)(l:ar):List (yu×Int):=if op=12 then had else if cP op then match DF had (Ar op n name l)with
  |some _=>had
  |none=>Xq had (Ar op n name l) dst
 else had
theorem SP(σ:Int→Int)(had:List (yu×Int))(i:aO):Fa (σ,had) i=(nv σ i.dst (ld σ had i.op i.n i.name (i.args.map σ)),Jx had i.op i.dst i.n i.name (i.args.map σ)):=by
 unfold Fa ld Jx;by_cases h:i.op=12
 ·simp only[if_pos h,nv]
 ·by_cases hp:cP i.op
  ·simp only[if_neg h,if_pos hp];cases DF had (Ar i.op i.n i.name (i.args.map σ))<;>rfl
  ·simp only[if_neg h,if_neg hp,nv]
theorem Oe{va:Int}{D:Int→Prop}{to:ar}{σ:Int→Int}{d:Int}(h:pH va D to σ)(hd:D d):∀(o:Option Int),(∀o',o=some o'→D o'∧sX va σ d o')→pH va D (xH to d o) (nv σ d o)
 |none,_=>h
 |some o,ho=>h.set hd (ho o rfl).1 (ho o rfl).2
end Go.Mor
namespace Go.Mor
open Go.RowKit
section
variable {α : Type} {f : α → α} {l : List α} {j : Nat} {x : α}
def mix(f:α→α)(l:List α)(j:Nat):List α:=(l.take j).map f++l.drop j
theorem F5:mix f l 0=l:=by simp[mix]
theorem Lf(h:l.length≤j):mix f l j=l.map f:=by unfold mix;rw[List.take_of_length_le h,List.drop_eq_nil_of_le h,List.append_nil]
theorem QbE:(mix f l j).length=l.length:=by unfold mix;simp;omega
theorem Lg(hx:l[j]?=some x):(mix f l j)[j]?=some x:=by
 obtain⟨hj,he⟩:=List.getElem?_eq_some_iff.1 hx;unfold mix;rw[List.getElem?_append_right (by simp;omega),List.getElem?_drop,List.length_map,List.length_take,Nat.min_eq_left oM,Nat.sub_self,Nat.add_zero,hx]
theorem Lh(hx:l[j]?=some x):(mix f l j).set j (f x)=mix f l (j+1):=by
 obtain⟨hj,he⟩:=List.getElem?_eq_some_iff.1 hx;unfold mix;rw[List.set_append_right _ _ (by simp;omega),List.length_map,List.length_take,Nat.min_eq_left oM,Nat.sub_self,List.drop_eq_getElem_cons hj,List.set_cons_zero,List.take_succ_eq_append_getElem hj,List.map_append,he];simp
end
def D2(σ:Int→Int)(p:cI):cI:={p with args:=p.args.map σ}
def wu(σ:Int→Int)(i:aO):aO:={i with args:=i.args.map σ}
def Li(x:bz):Prop:=x.e=1∨(x.e=2∧0≤x.v)
instance (x : bz) : Decidable (Li x) := by unfold Li; infer_instance
def ph(σ:Int→Int)(x:bz):bz:={x with ah:=x.ah.map (D2 σ),insts:=x.insts.map (wu σ),v:=if Li x then σ x.v else x.v}
theorem Qcj(σ:Int→Int)(p:cI):(D2 σ p).cells=p.cells:=by unfold D2 cI.cells;simp
theorem Tw(σ:Int→Int)(i:aO):(wu σ i).cells=i.cells:=by unfold wu aO.cells;simp
theorem Qde(σ:Int→Int)(A:aX)(c:Nat)(l:List cI):s3 A c (l.map (D2 σ))=s3 A c l:=by
 unfold s3 zc;rw[List.length_map,List.flatMap_map];congr 1;exact Qgu (fun f=>l.flatMap f) (funext fun p=>Qcj σ p)
theorem Qdf(σ:Int→Int)(A:aX)(c:Nat)(l:List aO):dJ A c (l.map (wu σ))=dJ A c l:=by
 unfold dJ zL;rw[List.length_map,List.flatMap_map];congr 1;exact Qgu (fun f=>l.flatMap f) (funext fun p=>Tw σ p)
theorem Qdg(σ:Int→Int)(l:List cI):(l.map (D2 σ)).map fz=l.map fz:=by rw[List.map_map];rfl
theorem QcJ(σ:Int→Int)(x:bz):gL (ph σ x)=[.au x.g 65 [.slice x.pA x.ah.length x.pc,.slice x.iA x.insts.length x.ic,vI x.e,vI (if Li x then σ x.v else x.v),vI x.a,vI x.b,.bool x.gone],s3 x.pA x.pc x.ah,dJ x.iA x.ic x.insts,.pk (x.ah.map fz),.pk ((x.ah.map (D2 σ)).map fj),.pk ((x.insts.map (wu σ)).map de)]:=by
 have e1:=Qde σ x.pA x.pc x.ah;have e2:=Qdf σ x.iA x.ic x.insts;have e3:=Qdg σ x.ah;show[bo.au x.g _ [.slice x.pA (x.ah.map (D2 σ)).length x.pc,.slice x.iA (x.insts.map (wu σ)).length x.ic,_,_,_,_,_],s3 x.pA x.pc (x.ah.map (D2 σ)),dJ x.iA x.ic (x.insts.map (wu σ)),.pk ((x.ah.map (D2 σ)).map fz),_,_]=_;rw[e1,e2,e3,List.length_map,List.length_map];rfl
theorem QdH(σ:Int→Int)(q:Nat)(nm:cV)(wk:Bool)(pa va:Int)(bA:aX)(bn bc:Nat)(A:aX)(c:Nat)(gs:List bz):gF q nm wk pa va bA bn bc A c (gs.map (ph σ))=[.au q 61 [.string nm,.bool wk,vI pa,vI va,.slice bA bn bc,.slice A gs.length c],jh A c gs,.pk ((gs.map (ph σ)).map gB)]:=by
 have e:jh A c (gs.map (ph σ))=jh A c gs:=by unfold jh jA;rw[List.length_map,List.map_map];rfl
 show[bo.au q _ [_,_,_,_,_,.slice A (gs.map (ph σ)).length c],jh A c (gs.map (ph σ)),_]=_;rw[e,List.length_map]
abbrev Jf(ws:Nat)(TA:aX)(tc nt:Nat)(to:ar)(q:Nat)(nm:cV)(wk:Bool)(pa va:Int)(bA:aX)(bn bc:Nat)(A:aX)(c:Nat)(gs:List bz):List bo:= .au ws 75 [.pointer (some (aZ q)),.slice TA nt tc]:: .row 3 1 TA nt tc (ints to)::gF q nm wk pa va bA bn bc A c gs
structure QcK(D:Int→Prop)(x:bz):Prop where
 lp:x.ah.length≤20000
 li:x.insts.length≤20000
 ah:∀p,p∈x.ah→p.args.length≤20000∧∀a,a∈p.args→D a
 insts:∀i,i∈x.insts→i.args.length≤20000∧∀a,a∈i.args→D a
 fin:Li x→D x.v
theorem Al{α β:Type}{f:α→β}{l:List α}{k:Nat}{x:α}(hx:l[k]?=some x):(l.take (k+1)).map f=(l.take k).map f++[f x]:=by
 obtain⟨hk,he⟩:=List.getElem?_eq_some_iff.1 hx;rw[List.take_succ_eq_append_getElem hk,List.map_append,he];rfl
end Go.Mor
namespace Go.Mor
open Go.RowKit
theorem vp{α:Type}{l:List α}{k:Nat}{x:α}(h:l[k]?=some x):l.set k x=l:=by
 obtain⟨hk,he⟩:=List.getElem?_eq_some_iff.1 h;rw[←he];exact List.set_getElem_self hk
section
variable {fs gs : List ay} {x : ay} {k j : Nat}
theorem rN(h:ec fs gs)(hx:fs[k]?=some x):∃A1 c1 ps A2 c2 is,gs[k]?=some ⟨A1,c1,ps,A2,c2,is,x.e,x.v,x.a,x.b⟩∧ps.map bI.e0=x.ah.map bI.e0∧is.map aO.e0=x.insts.map aO.e0:=by
 obtain⟨y,hy,e⟩:=oB h hx;have e1:x.e=y.e:=I3 e;have e2:x.v=y.v:=F0 e;have e3:x.a=y.a:=show x.e0.a=y.e0.a by rw[e]
 have e4:x.b=y.b:=show x.e0.b=y.e0.b by rw[e]
 have e5:=rC e;have e6:=rD e;obtain⟨A1,c1,ps,A2,c2,is,ye,yv,ya,yb⟩:=y;simp only at e1 e2 e3 e4 e5 e6;subst e1;subst e2;subst e3;subst e4;exact⟨A1,c1,ps,A2,c2,is,hy,e5.symm,e6.symm⟩
theorem zM{ps qs:List bI}(h:qs.map bI.e0=ps.map bI.e0){p:bI}(hp:ps[j]?=some p):∃A c,qs[j]?=some ⟨p.dst,A,c,p.args⟩:=by
 have h1:=Qgu (fun l:List bI=>l[j]?) h;simp only[List.getElem?_map,hp,Option.map_some]at h1;obtain⟨q,hq⟩:=bu (l:=qs) (i:=j) (by rw[eM h];exact(List.getElem?_eq_some_iff.1 hp).1);rw[hq,Option.map_some]at h1;injection h1 with h1;obtain⟨d,A,c,a⟩:=q;unfold bI.e0 at h1;simp only[bI.mk.injEq,true_and]at h1;obtain⟨rfl,rfl⟩:=h1;exact⟨A,c,hq⟩
theorem BC{ps qs:List aO}(h:qs.map aO.e0=ps.map aO.e0){p:aO}(hp:ps[j]?=some p):∃A c,qs[j]?=some ⟨p.op,p.dst,p.n,p.name,A,c,p.args⟩:=by
 have h1:=Qgu (fun l:List aO=>l[j]?) h;simp only[List.getElem?_map,hp,Option.map_some]at h1;obtain⟨q,hq⟩:=bu (l:=qs) (i:=j) (by rw[eM h];exact(List.getElem?_eq_some_iff.1 hp).1);rw[hq,Option.map_some]at h1;injection h1 with h1;obtain⟨o,d,n,nm,A,c,a⟩:=q;unfold aO.e0 at h1;simp only[aO.mk.injEq,true_and]at h1;obtain⟨rfl,rfl,rfl,rfl,rfl⟩:=h1;exact⟨A,c,hq⟩
end
def aO.z(p:aO):aO:={p with args:=List.replicate p.args.length 0}
end Go.Mor
namespace Go.Mor
open Go.RowKit
section
variable {fs : List ay} {nm : ByteArray} {pa va : Int} {σ τ : Int → Int} {k j : Nat} {x : ay} {had : List (yu × Int)} {d o : Int}
theorem ZC(h:sX va σ d o)(v:Int):link σ d o v=v↔σ v=v∧v≠d:=by
 by_cases e:σ v=d
 ·unfold link;rw[if_pos e];constructor
  ·rintro rfl;exact absurd (h.oo.symm.trans e) h.ne
  ·rintro⟨e1,e2⟩;exact absurd (e1.symm.trans e) e2
 ·rw[BM e];constructor
  ·intro e1;exact⟨e1,fun e2=>e (by rw[e1,e2])⟩
  ·exact fun e1=>e1.1
theorem Qck(hi:∀v,σ (σ v)=σ v)(v:Int):link σ d o (σ v)=link σ d o v:=by unfold link;rw[hi]
def uK(fs:List ay)(σ:Int→Int)(t:Bool):Prop:=(t=false→σ=fun v=>v)∧(t=true→∃v c m:Int,(v,c,m)∈bF fs∧σ v≠v)
theorem uK.start:uK fs (fun v=>v) false:=⟨fun _=>rfl,fun h=>(by cases h)⟩
theorem uK.on{c m:Int}(hl:sX va σ d o)(hd:(d,c,m)∈bF fs):uK fs (link σ d o) true:=⟨fun h=>(by cases h),fun _=>⟨d,c,m,hd,by rw[Qda hl.dd];exact hl.ne⟩⟩
theorem QdI:hY (xD (fun v=>v) fs)=hY fs:=by
 unfold hY jl;rw[List.take_of_length_le (Nat.le_refl _),List.take_of_length_le (Nat.le_refl _),Lb];unfold xD;rw[List.map_map];have:((fun x:ay=>x.ah.length+x.insts.length)∘uc (fun v=>v))=fun x=>x.ah.length+x.insts.length:=by
  funext x;simp only[Function.comp_apply,uc,List.length_map];have e1:x.ah.filter (fun p=>bl (fun v=>v) p.dst)=x.ah:=List.filter_eq_self.2 fun p _=>by unfold bl;simp
  have e2:x.insts.filter (fun p=>bl (fun v=>v) p.dst)=x.insts:=List.filter_eq_self.2 fun p _=>by unfold bl;simp
  rw[e1,e2]
 rw[this]
theorem Gh{α:Type}{p:α→Bool}:∀{l:List α} {x:α},x∈l→p x=false→(l.filter p).length<l.length
 |a::l,x,h,hp=>by
  rw[List.filter_cons];rcases List.mem_cons.1 h with rfl|h
  ·rw[if_neg (by simp[hp])];have:=List.length_filter_le p l;simp only[List.length_cons];omega
  ·have:=Gh h hp;split<;>simp only[List.length_cons]<;>omega
theorem QcL{v c m:Int}(hd:(v,c,m)∈bF fs)(hv:σ v≠v):hY (xD σ fs)<hY fs:=by
 obtain⟨k,x,hx,_,hh⟩:=sq.1 hd;have hk:bl σ v=false:=by unfold bl;simpa using hv
 have hb:(uc σ x).ah.length+(uc σ x).insts.length<x.ah.length+x.insts.length:=by
  unfold uc;simp only[List.length_map];have h1:=List.length_filter_le (fun p:bI=>bl σ p.dst) x.ah;have h2:=List.length_filter_le (fun i:aO=>bl σ i.dst) x.insts;rcases hh with⟨_,p,hp,rfl⟩|⟨j,i,hi,_,rfl,_⟩
  ·have:=Gh (p:=fun p:bI=>bl σ p.dst) hp hk;omega
  ·have:=Gh (p:=fun i:aO=>bl σ i.dst) (List.mem_of_getElem? hi) hk;omega
 have key:∀(l:List ay),x∈l→(l.map ((fun x=>x.ah.length+x.insts.length)∘uc σ)).sum<(l.map (fun x=>x.ah.length+x.insts.length)).sum:=by
  have le:∀(l:List ay),(l.map ((fun x=>x.ah.length+x.insts.length)∘uc σ)).sum≤(l.map (fun x=>x.ah.length+x.insts.length)).sum:=by
   intro l;induction l with
   |nil=>simp
   |cons a l ih=>
    have h1:=List.length_filter_le (fun p:bI=>bl σ p.dst) a.ah;have h2:=List.length_filter_le (fun i:aO=>bl σ i.dst) a.insts;have h3:(uc σ a).ah.length=(a.ah.filter (fun p=>bl σ p.dst)).length:=by unfold uc;simp
    have h4:(uc σ a).insts.length=(a.insts.filter (fun i=>bl σ i.dst)).length:=by unfold uc;simp
    simp only[List.map_cons,List.sum_cons,Function.comp_apply];omega
  intro l hl;induction l with
  |nil=>cases hl
  |cons a l ih=>
   simp only[List.map_cons,List.sum_cons,Function.comp_apply];rcases List.mem_cons.1 hl with rfl|hl
   ·have:=le l;omega
   ·have:=ih hl;have h1:=List.length_filter_le (fun p:bI=>bl σ p.dst) a.ah;have h2:=List.length_filter_le (fun i:aO=>bl σ i.dst) a.insts;have h3:(uc σ a).ah.length=(a.ah.filter (fun p=>bl σ p.dst)).length:=by unfold uc;simp
    have h4:(uc σ a).insts.length=(a.insts.filter (fun i=>bl σ i.dst)).length:=by unfold uc;simp
    omega
 unfold hY jl;rw[List.take_of_length_le (Nat.le_refl _),List.take_of_length_le (Nat.le_refl _),Lb];unfold xD;rw[List.map_map];have:=key fs (List.mem_of_getElem? hx);omega
theorem NR{t:Bool}(h:uK fs (BV fs) t):t=decide (hY (sz fs)<hY fs):=by
 unfold sz;cases t with
 |false=>rw[h.1 rfl,QdI];simp
 |true=>
  obtain⟨v,c,m,hd,hv⟩:=h.2 rfl;rw[decide_eq_true (QcL hd hv)]
theorem QcM{v c m:Int}(hd:(v,c,m)∈bF (xD σ fs)):σ v=v∧∃m',(v,c,m')∈bF fs:=by
 obtain⟨k,y,hy,rfl,hh⟩:=sq.1 hd;obtain⟨x,hx,rfl⟩:=EU.1 hy;rcases hh with⟨rfl,p,hp,rfl⟩|⟨j,i,hi,hm,rfl,rfl⟩
 ·obtain⟨q,hq,rfl⟩:=List.mem_map.1 hp;obtain⟨XV,Xe⟩:=List.mem_filter.1 hq;exact⟨(by simpa[bl]using Xe:σ q.dst=q.dst),-1,sq.2 ⟨k,x,hx,rfl,.inl ⟨rfl,q,XV,rfl⟩⟩⟩
 ·obtain⟨q,hq,rfl⟩:=List.mem_map.1 (List.mem_of_getElem? hi);obtain⟨XV,Xe⟩:=List.mem_filter.1 hq;obtain⟨j',Fk⟩:=List.mem_iff_getElem?.1 XV;exact⟨(by simpa[bl]using Xe:σ q.dst=q.dst),j',sq.2 ⟨k,x,hx,rfl,.inr ⟨j',q,Fk,hm,rfl,rfl⟩⟩⟩
def Dv(pa va:Int)(fs:List ay)(v:Int):Prop:=0≤v∧v<va∧(v<pa∨∃c m,(v,c,m)∈bF fs)
theorem T1(h:j9 nm pa va fs){v b q:Int}(hv:Av pa va fs v b q):Dv pa va fs v:=by
 obtain⟨h1,h2,h3⟩:=(xM h).1 hv;exact⟨h1,h2,h3.imp id fun⟨c,m,hd,_⟩=>⟨c,m,hd⟩⟩
theorem XM(h:j9 nm pa va fs){v c m:Int}(hd:(v,c,m)∈bF fs):Dv pa va fs v:=by
 have hr:=zn h hd;have:=h.par;exact⟨oM,hr.2,.inr ⟨c,m,hd⟩⟩
theorem Qdh{v:Int}(h:Dv pa va (xD σ fs) v)(hp:∀v,v<pa→σ v=v):Dv pa va fs v∧σ v=v:=by
 obtain⟨h1,h2,h3⟩:=h;rcases h3 with h3|⟨c,m,hd⟩
 ·exact⟨⟨h1,h2,.inl h3⟩,hp v h3⟩
 ·obtain⟨e,m',zI⟩:=QcM hd;exact⟨⟨h1,h2,.inr ⟨c,m',zI⟩⟩,e⟩
structure Ext(d:Int)(σ τ:Int→Int):Prop where
 comp:∀v,τ (σ v)=τ v
 fix:∀v,v≠d→(τ v=v↔σ v=v)
theorem Ext.refl(d:Int)(hi:∀v,σ (σ v)=σ v):Ext d σ σ:=⟨hi,fun _ _=>Iff.rfl⟩
theorem Ext.Pp(hi:∀v,σ (σ v)=σ v)(hl:sX va σ d o):Ext d σ (link σ d o):=⟨Qck hi,fun v hv=>(ZC hl v).trans ⟨fun h=>h.1,fun h=>⟨h,hv⟩⟩⟩
theorem Js(hi:∀v,σ (σ v)=σ v):∀(r:Option Int),(∀o,r=some o→sX va σ d o)→Ext d σ (nv σ d r)
 |none,_=>Ext.refl d hi
 |some o,h=>Ext.Pp hi (h o rfl)
theorem Qcl(hi:σ d=d):∀(r:Option Int),(∀o,r=some o→sX va σ d o)→(nv σ d r d=d↔r=none)
 |none,_=>⟨fun _=>rfl,fun _=>hi⟩
 |some o,h=>⟨fun e=>by have:=(ZC (h o rfl) d).1 e;exact absurd rfl this.2,fun e=>by cases e⟩
theorem Oa(h:Ext d σ τ){v:Int}(hv:v≠d):bl τ v=bl σ v:=by
 unfold bl;rw[Bool.eq_iff_iff,beq_iff_eq,beq_iff_eq];exact h.fix v hv
theorem O9(hi:σ d=d)(r:Option Int)(h:∀o,r=some o→sX va σ d o):bl (nv σ d r) d=r.isNone:=by
 unfold bl;rw[Bool.eq_iff_iff,beq_iff_eq,Qcl hi r h];cases r<;>simp
theorem uK.next{t:Bool}{c m:Int}(ht:uK fs σ t)(hd:(d,c,m)∈bF fs∨∀o:Int,¬sX va σ d o):∀(r:Option Int),(∀o,r=some o→sX va σ d o)→uK fs (nv σ d r) (t||r.isSome)
 |none,_=>by rw[show(none:Option Int).isSome=false from rfl,Bool.or_false];exact ht
 |some o,h=>by
  rw[show(some o:Option Int).isSome=true from rfl,Bool.or_true];rcases hd with hd|hd
  ·exact uK.on (h o rfl) hd
  ·exact absurd (h o rfl) (hd o)
end
end Go.Mor
namespace Go.Mor
open Go.RowKit
theorem Jw(to:ar)(d:Int):∀r:Option Int,(xH to d r).length=to.length
 |none=>rfl
 |some _=>List.length_set
section
variable {fs : List ay} {nm : ByteArray} {pa va : Int} {σ τ : Int → Int} {k j : Nat} {x : ay} {had : List (yu × Int)} {d o : Int}
structure BX(fs:List ay)(k:Nat)(σ τ:Int→Int):Prop where
 comp:∀v,τ (σ v)=τ v
 fix:∀v c m:Int,(v,c,m)∈bF fs→c<(k:Int)→(τ v=v↔σ v=v)
theorem BX.start(hi:∀v,σ (σ v)=σ v):BX fs k σ σ:=⟨hi,fun _ _ _ _ _=>Iff.rfl⟩
theorem BX.step{ρ:Int→Int}(h:j9 nm pa va fs)(hb:BX fs k σ τ)(he:Ext d τ ρ){m:Int}(hd:(d,(k:Int),m)∈bF fs):BX fs k σ ρ:=⟨fun v=>by rw[←he.comp (σ v),hb.comp,he.comp],fun v c m' hv hc=>by
  refine Iff.trans (he.fix v ?_) (hb.fix v c m' hv hc);rintro rfl;have:=dj h hv hd;injection this with e;omega⟩
theorem Qbn(h:j9 nm pa va fs)(hx:fs[k]?=some x){p:bI}(hp:p∈x.ah):∀a,a∈p.args→Dv pa va fs a:=by
 intro a ha;obtain⟨y,hy,hr⟩:=h.reads k (List.getElem?_eq_some_iff.1 hx).1;rw[hx]at hy;injection hy with hy;subst hy;obtain⟨j,hj⟩:=List.mem_iff_getElem?.1 hp;obtain⟨hl,XT⟩:=hr.ah j p hj;obtain⟨i,hi⟩:=List.mem_iff_getElem?.1 ha;obtain⟨s,hs⟩:=bu (l:=bS (af fs) (k:Int)) (i:=i) (by rw[←hl];exact(List.getElem?_eq_some_iff.1 hi).1);exact T1 h (XT i a s hi hs)
theorem Qbo(h:j9 nm pa va fs)(hx:fs[k]?=some x){i:aO}(hi:i∈x.insts):∀a,a∈i.args→Dv pa va fs a:=by
 intro a ha;obtain⟨j,hj⟩:=List.mem_iff_getElem?.1 hi;exact T1 h (Tf h hx hj ha)
theorem Ob(h:j9 nm pa va fs)(hs:Sub pa va fs σ){v:Int}(hv:Dv pa va fs v):Dv pa va fs (σ v):=by
 obtain⟨h1,h2,h3⟩:=hv;rcases h3 with h3|⟨c,m,hd⟩
 ·rw[hs.par v h3];exact⟨h1,h2,.inl h3⟩
 ·obtain⟨kk,y,hy,rfl,_⟩:=sq.1 hd;have XT:Av pa va fs v (kk:Int) (m+1):=(xM h).2 ⟨h1,h2,.inr ⟨kk,m,hd,.inl ⟨rfl,oM⟩⟩⟩;exact T1 h (hs.av v kk (m+1) oM (by have:=(List.getElem?_eq_some_iff.1 hy).1;omega) XT)
theorem Qbp(h:j9 nm pa va fs)(hx:fs[k]?=some x)(hs:pr pa va fs k x j σ){p:bI}(hp:x.ah[j]?=some p):∀o,oH σ p.dst p.args (-1)=some o→Dv pa va fs o∧sX va σ p.dst o:=by
 intro o ho;obtain⟨_,_,XT⟩:=Ym h hs.sub hx (List.mem_of_getElem? hp) ho;exact⟨T1 h XT,(hs.step h hx hp).2 o ho⟩
theorem K3(h:j9 nm pa va fs)(hx:fs[k]?=some x)(hs:Xu pa va fs k x j σ had){i:aO}(hi:x.insts[j]?=some i):∀o,ld σ had i.op i.n i.name (i.args.map σ)=some o→Dv pa va fs o∧sX va σ i.dst o:=by
 intro o ho;obtain⟨_,yB,ND⟩:=hs.step h hx hi;unfold ld at ho;by_cases e:i.op=12
 ·rw[if_pos e]at ho;injection ho with ho;subst ho;have hlen:i.args.length=1:=by have:=h.yc.1 x (List.mem_of_getElem? hx) i (List.mem_of_getElem? hi);unfold bJ at this;omega
  obtain⟨a,ha⟩:∃a,i.args=[a]:=List.length_eq_one_iff.1 hlen;have hda:=Qbo h hx (List.mem_of_getElem? hi) a (by rw[ha];simp);refine⟨?_,yB e⟩;rw[ha];exact Ob h hs.sub (Ob h hs.sub hda)
 ·rw[if_neg e]at ho;by_cases hp:cP i.op
  ·rw[if_pos hp]at ho;refine⟨?_,ND e hp o ho⟩;obtain⟨kk,nG,_⟩:=QbD ho;obtain⟨_,m,_,_,hd⟩:=hs.had _ nG;exact XM h hd
  ·rw[if_neg hp]at ho;cases ho
theorem Qdi(h:j9 nm pa va fs)(hx:fs[k]?=some x){i:aO}(hi:i∈x.insts)(yB:i.op=12):∃a,i.args=[a]:=by
 have:=h.yc.1 x (List.mem_of_getElem? hx) i hi;unfold bJ at this;exact List.length_eq_one_iff.1 oM
theorem Gi(h:j9 nm pa va fs)(hx:fs[k]?=some x){i:aO}(hi:x.insts[j]?=some i){l:ar}(hr:ld σ had i.op i.n i.name l≠none):(i.dst,(k:Int),(j:Int))∈bF fs:=by
 refine sq.2 ⟨k,x,hx,rfl,.inr ⟨j,i,hi,?_,rfl,rfl⟩⟩;unfold ld at hr;by_cases e:i.op=12
 ·unfold aU;omega
 ·rw[if_neg e]at hr;by_cases hp:cP i.op
  ·exact iQ hp
  ·rw[if_neg hp]at hr;exact absurd rfl hr
end
structure p5(D:Int→Prop)(σ:Int→Int)(x y:bz):Prop where
 g:y.g=x.g
 e:y.e=x.e
 v:y.v=x.v
 a:y.a=x.a
 b:y.b=x.b
 gone:y.gone=x.gone
 ah:y.ah=x.ah.filter (fun p=>bl σ p.dst)
 insts:y.insts.map (s5 σ)=(x.insts.filter (fun i=>bl σ i.dst)).map (s5 σ)
 args:∀i,i∈y.insts→i.args.length≤20000∧∀a,a∈i.args→D a
theorem Qcm{σ τ:Int→Int}(hc:∀v,τ (σ v)=τ v)(i:aO):s5 τ (s5 σ i)=s5 τ i:=by
 unfold s5;simp only[List.map_map,aO.mk.injEq,true_and];exact List.map_congr_left fun a _=>hc a
theorem QbF{σ τ:Int→Int}(hc:∀v,τ (σ v)=τ v){l m:List aO}(h:l.map (s5 σ)=m.map (s5 σ)):l.map (s5 τ)=m.map (s5 τ):=by
 have h1:=Qgu (List.map (s5 τ)) h;rw[List.map_map,List.map_map]at h1;have e:(s5 τ∘s5 σ)=s5 τ:=funext fun i=>Qcm hc i
 rwa [e]at h1
theorem p5.next{fs:List ay}{pa va:Int}{k i:Nat}{σ τ:Int→Int}{x y:bz}(hb:BX fs k σ τ)(hx:fs[i]?=some x.f)(hi:i<k)(Qeu:∀v,v<0→τ v=v∧σ v=v)(hd:∀j∈x.insts,aU j.op∨j.dst<0)(h:p5 (Dv pa va fs) σ x y):p5 (Dv pa va fs) τ x y:=by
 refine⟨h.g,h.e,h.v,h.a,h.b,h.gone,?_,?_,h.args⟩
 ·rw[h.ah];refine List.filter_congr fun p hp=> ?_
  unfold bl;rw[Bool.eq_iff_iff,beq_iff_eq,beq_iff_eq];exact(hb.fix p.dst i (-1) (sq.2 ⟨i,x.f,hx,rfl,.inl ⟨rfl,p.f,List.mem_map.2 ⟨p,hp,rfl⟩,rfl⟩⟩) oM).symm
 ·have h1:=QbF hb.comp h.insts;rw[h1];congr 1;refine List.filter_congr fun j hj=> ?_
  unfold bl;rw[Bool.eq_iff_iff,beq_iff_eq,beq_iff_eq];rcases hd j hj with hm|hm
  ·obtain⟨n,hn⟩:=List.mem_iff_getElem?.1 hj;exact(hb.fix j.dst i n (sq.2 ⟨i,x.f,hx,rfl,.inr ⟨n,j.e0,by show(x.insts.map aO.e0)[n]?=_;rw[List.getElem?_map,hn];rfl,hm,rfl,rfl⟩⟩) oM).symm
  ·have:=Qeu _ hm;exact⟨fun _=>this.1,fun _=>this.2⟩
end Go.Mor
namespace Go.Mor
open Go.RowKit
theorem Lj{α:Type}{σ τ:Int→Int}{g:α→Int}{l:List α}{y:α}{j:Nat}(hy:l[j]?=some y)(hk:∀(i:Nat) (z:α),i<j→l[i]?=some z→bl τ (g z)=bl σ (g z)):(l.take (j+1)).filter (fun z=>bl τ (g z))=(l.take j).filter (fun z=>bl σ (g z))++(if bl τ (g y)then[y]else[]):=by
 obtain⟨hj,he⟩:=List.getElem?_eq_some_iff.1 hy;rw[List.take_succ_eq_append_getElem hj,List.filter_append,he];have e1:List.filter (fun z=>bl τ (g z)) [y]=if bl τ (g y)then[y]else[]:=by rw[List.filter_cons,List.filter_nil]
 rw[e1];congr 1;refine List.filter_congr fun z hz=> ?_
 obtain⟨i,hi,rfl⟩:=List.mem_take_iff_getElem.1 hz;exact hk i _ oM (List.getElem?_eq_getElem oM)
structure nB(D:Int→Prop)(σ:Int→Int)(is us:List aO)(m:Nat):Prop where
 z:us.map aO.z=is.map aO.z
 drop:us.drop m=is.drop m
 sub:(us.take m).map (s5 σ)=(is.take m).map (s5 σ)
 args:∀i,i∈us→i.args.length≤20000∧∀a,a∈i.args→D a
section
variable {D : Int → Prop} {σ τ : Int → Int} {is us : List aO} {m : Nat} {i : aO}
theorem nB.start(h:∀i,i∈is→i.args.length≤20000∧∀a,a∈i.args→D a):nB D σ is is 0:=⟨rfl,rfl,rfl,h⟩
theorem nB.len(h:nB D σ is us m):us.length=is.length:=eM h.z
theorem nB.at(h:nB D σ is us m)(hi:is[m]?=some i):us[m]?=some i:=by
 have:(us.drop m)[0]?=some i:=by rw[h.drop];simpa using hi
 simpa using this
theorem Qd1(σ:Int→Int)(i:aO):(wu σ i).z=i.z:=by unfold wu aO.z;simp
theorem nB.put(h:nB D σ is us m)(hi:is[m]?=some i)(hc:∀v,τ (σ v)=τ v)(hD:∀v,D v→D (σ v)):nB D τ is (us.set m (wu σ i)) (m+1):=by
 have hu:=h.at hi;have Pt:=(List.getElem?_eq_some_iff.1 hu).1;refine⟨?_,?_,?_,fun j hj=> ?_⟩
 ·rw[List.map_set,Qd1,h.z,←List.map_set];congr 1;exact vp hi
 ·have e1:(us.set m (wu σ i)).drop (m+1)=us.drop (m+1):=by rw[List.drop_set,if_pos oM]
  rw[e1];have:=Qgu (List.drop 1) h.drop;simpa[List.drop_drop]using this
 ·have e1:(us.set m (wu σ i)).take (m+1)=us.take m++[wu σ i]:=by rw[List.take_succ_eq_append_getElem (by simpa using Pt),List.take_set_of_le (Nat.le_refl _)];simp
  rw[e1,List.map_append,QbF hc h.sub,Al hi];congr 1;have:s5 τ (wu σ i)=s5 τ i:=by unfold s5 wu;simp only[List.map_map,aO.mk.injEq,true_and];exact List.map_congr_left fun a _=>hc a
  rw[List.map_cons,List.map_nil,this]
 ·rcases List.mem_or_eq_of_mem_set hj with hj|rfl
  ·exact h.args j hj
  ·have hh:=h.args i (List.mem_of_getElem? hu);refine⟨by show(i.args.map σ).length≤_;rw[List.length_map];exact hh.1,fun a ha=> ?_⟩;obtain⟨b,hb,rfl⟩:=List.mem_map.1 (show a∈i.args.map σ from ha);exact hD _ (hh.2 b hb)
theorem nB.dst(h:nB D σ is us m){n:Nat}{u:aO}(hu:us[n]?=some u):∃y,is[n]?=some y∧y.dst=u.dst∧y.op=u.op:=by
 have h1:=Qgu (fun l:List aO=>l[n]?) h.z;simp only[List.getElem?_map,hu,Option.map_some]at h1;cases hy:is[n]? with
 |none=>rw[hy]at h1;cases h1
 |some y=>
  rw[hy,Option.map_some]at h1;injection h1 with h1;exact⟨y,rfl,(Qgu aO.dst h1).symm,(Qgu aO.op h1).symm⟩
theorem nB.kept(h:nB D σ is us m)(hm:is.length≤m):(us.filter (fun i=>bl τ i.dst)).map (s5 σ)=(is.filter (fun i=>bl τ i.dst)).map (s5 σ):=by
 have e:∀l:List aO,(l.filter (fun i=>bl τ i.dst)).map (s5 σ)=(l.map (s5 σ)).filter (fun i=>bl τ i.dst):=by intro l;rw[List.filter_map];rfl
 have hs:=h.sub;rw[List.take_of_length_le hm,List.take_of_length_le (by rw[h.len];exact hm)]at hs;rw[e,e,hs]
end
section
variable {fs : List ay} {nm : ByteArray} {pa va : Int} {σ : Int → Int} {k m : Nat} {x : ay} {had : List (yu × Int)}
theorem QcN(h:j9 nm pa va fs)(hx:fs[k]?=some x)(hs:Xu pa va fs k x m σ had){i:aO}(hi:x.insts[m]?=some i){n:Nat}(hn:n<m){y:aO}(hy:x.insts[n]?=some y):bl (nv σ i.dst (ld σ had i.op i.n i.name (i.args.map σ))) y.dst=bl σ y.dst:=by
 cases hr:ld σ had i.op i.n i.name (i.args.map σ)with
 |none=>rfl
 |some o=>
  have hl:=(K3 h hx hs hi o hr).2;have hd:=Gi h hx hi (l:=i.args.map σ) (σ:=σ) (had:=had) (by rw[hr];simp);refine Oa (Ext.Pp hs.sub.idem hl) (fun e=> ?_);have Ss:=h.yc.1 x (List.mem_of_getElem? hx) y (List.mem_of_getElem? hy);have h0:=hl.d0;have k9:aU y.op:=by
   rcases Ss.1 with hm|hm
   ·exact hm
   ·omega
  have hdy:(y.dst,(k:Int),(n:Int))∈bF fs:=sq.2 ⟨k,x,hx,rfl,.inr ⟨n,y,hy,k9,rfl,rfl⟩⟩;rw[e]at hdy;have:=dj h hdy hd;injection this with _ e2;omega
theorem QcO(h:j9 nm pa va fs)(hx:fs[k]?=some x)(hs:Xu pa va fs k x m σ had){i:aO}(hi:x.insts[m]?=some i){p:bI}(hp:p∈x.ah):bl (nv σ i.dst (ld σ had i.op i.n i.name (i.args.map σ))) p.dst=bl σ p.dst:=by
 cases hr:ld σ had i.op i.n i.name (i.args.map σ)with
 |none=>rfl
 |some o=>
  have hl:=(K3 h hx hs hi o hr).2;have hd:=Gi h hx hi (l:=i.args.map σ) (σ:=σ) (had:=had) (by rw[hr];simp);refine Oa (Ext.Pp hs.sub.idem hl) (fun e=> ?_);have hdp:(p.dst,(k:Int),(-1:Int))∈bF fs:=sq.2 ⟨k,x,hx,rfl,.inl ⟨rfl,p,hp,rfl⟩⟩;rw[e]at hdp;have:=dj h hdp hd;injection this with _ e2;omega
theorem Qdj(h:j9 nm pa va fs)(hx:fs[k]?=some x)(hs:Xu pa va fs k x m σ had){i:aO}(hi:x.insts[m]?=some i):bl (nv σ i.dst (ld σ had i.op i.n i.name (i.args.map σ))) i.dst=(ld σ had i.op i.n i.name (i.args.map σ)).isNone:=by
 refine O9 ?_ _ (fun o ho=>(K3 h hx hs hi o ho).2);have Ss:=h.yc.1 x (List.mem_of_getElem? hx) i (List.mem_of_getElem? hi);rcases Ss.1 with hm|hm
 ·exact hs.insts i.dst m (sq.2 ⟨k,x,hx,rfl,.inr ⟨m,i,hi,hm,rfl,rfl⟩⟩) (Int.le_refl _)
 ·have hp:=h.par;exact hs.sub.par _ oM
theorem Qdk(h:j9 nm pa va fs)(hx:fs[k]?=some x)(hs:pr pa va fs k x m σ){p:bI}(hp:x.ah[m]?=some p):bl (nv σ p.dst (oH σ p.dst p.args (-1))) p.dst=(oH σ p.dst p.args (-1)).isNone:=O9 (hs.ah m p (Nat.le_refl _) hp) _ (fun o ho=>(Qbp h hx hs hp o ho).2)
theorem Qcn(h:j9 nm pa va fs)(hx:fs[k]?=some x)(hs:pr pa va fs k x m σ){p:bI}(hp:x.ah[m]?=some p){n:Nat}(hn:n<m){q:bI}(hq:x.ah[n]?=some q):bl (nv σ p.dst (oH σ p.dst p.args (-1))) q.dst=bl σ q.dst:=Oa (Js hs.sub.idem _ (fun o ho=>(Qbp h hx hs hp o ho).2)) (RM h hx hp hq oM)
end
def Pc(σ:Int→Int)(x:gO):gO:=⟨(x.ah.filter (fun p=>bl σ p.dst)).map (fun p=>{p with args:=p.args.map σ}),(x.insts.filter (fun i=>bl σ i.dst)).map (s5 σ),x.e,if x.e=1∨(x.e=2∧0≤x.v)then σ x.v else x.v,x.a,x.b,x.gone⟩
theorem QdJ(σ:Int→Int)(x:gO):(Pc σ x).f=uc σ x.f:=by
 unfold Pc gO.f uc;simp only[ay.mk.injEq,true_and,and_true];refine⟨?_,rfl⟩;rw[List.map_map,List.filter_map,List.map_map];rfl
theorem QdK{D:Int→Prop}{σ:Int→Int}{x y:bz}(h:p5 D σ x y):(ph σ y).k=Pc σ x.k:=by
 unfold bz.k Pc ph;simp only[gO.mk.injEq];refine⟨?_,?_,h.e,?_,h.a,h.b,h.gone⟩
 ·rw[h.ah,List.map_map,List.filter_map,List.map_map];rfl
 ·rw[List.map_map];have e1:(aO.e0∘wu σ)=s5 σ:=rfl;rw[e1,h.insts,List.filter_map,List.map_map];rfl
 ·have e1:=h.e;have e2:=h.v;by_cases hG:Li y
  ·rw[if_pos hG,if_pos (by unfold Li at hG;rw[e1,e2]at hG;exact hG)];exact Qgu σ e2
  ·rw[if_neg hG,if_neg (fun hh=>hG (by unfold Li;rw[e1,e2];exact hh))];exact e2
theorem Qd2{D:Int→Prop}{σ:Int→Int}{x y:bz}(h:p5 D σ x y)(hl:x.ah.length≤20000)(hi:x.insts.length≤20000)(hp:∀p,p∈x.ah→p.args.length≤20000∧∀a,a∈p.args→D a)(hv:Li x→D x.v):QcK D y:=by
 refine⟨by rw[h.ah];exact Nat.le_trans (List.length_filter_le _ _) hl,?_,fun p zG=> ?_,h.args,fun hh=> ?_⟩
 ·have:=Qgu List.length h.insts;rw[List.length_map,List.length_map]at this;rw[this];exact Nat.le_trans (List.length_filter_le _ _) hi
 ·rw[h.ah]at zG;exact hp p (List.mem_filter.1 zG).1
 ·rw[h.v];exact hv (by unfold Li at hh⊢;rw[h.e,h.v]at hh;exact hh)
section
variable {gs : List bz} {nm : ByteArray} {pa va : Int} {σ τ : Int → Int} {k m j : Nat} {x : bz} {had : List (yu × Int)} {us : List aO} {D : Int → Prop}
theorem Jy(hx:gs[k]?=some x):(gs.map bz.f)[k]?=some x.f:=by rw[List.getElem?_map,hx];rfl
theorem LB{p:cI}(hp:x.ah[j]?=some p):x.f.ah[j]?=some p.f:=by show(x.ah.map cI.f)[j]?=_;rw[List.getElem?_map,hp];rfl
theorem zF{i:aO}(hi:x.insts[m]?=some i):x.f.insts[m]?=some i.e0:=by show(x.insts.map aO.e0)[m]?=_;rw[List.getElem?_map,hi];rfl
theorem Qdl(h:j9 nm pa va (gs.map bz.f))(hx:gs[k]?=some x)(hs:pr pa va (gs.map bz.f) k x.f j σ){p:cI}(hp:x.ah[j]?=some p):(x.ah.take (j+1)).filter (fun q=>bl (nv σ p.dst (oH σ p.dst p.args (-1))) q.dst)=(x.ah.take j).filter (fun q=>bl σ q.dst)++(if(oH σ p.dst p.args (-1)).isNone then[p]else[]):=by
 have h1:=Lj (σ:=σ) (τ:=nv σ p.dst (oH σ p.dst p.args (-1))) (g:=cI.dst) hp (fun n z hn hz=>Qcn (p:=p.f) (q:=z.f) h (Jy hx) hs (LB hp) hn (LB hz));rw[h1,show bl (nv σ p.dst (oH σ p.dst p.args (-1))) p.dst=_ from Qdk (p:=p.f) h (Jy hx) hs (LB hp)];rfl
theorem Qdm(h:j9 nm pa va (gs.map bz.f))(hx:gs[k]?=some x)(hs:Xu pa va (gs.map bz.f) k x.f m σ had)(hu:nB D σ x.insts us m){i:aO}(hi:x.insts[m]?=some i):((us.set m (wu σ i)).take (m+1)).filter (fun z=>bl (nv σ i.dst (ld σ had i.op i.n i.name (i.args.map σ))) z.dst)=(us.take m).filter (fun z=>bl σ z.dst)++(if(ld σ had i.op i.n i.name (i.args.map σ)).isNone then[wu σ i]else[]):=by
 have Pt:=(List.getElem?_eq_some_iff.1 (hu.at hi)).1;have h1:=Lj (σ:=σ) (τ:=nv σ i.dst (ld σ had i.op i.n i.name (i.args.map σ))) (g:=aO.dst) (l:=us.set m (wu σ i)) (j:=m) (y:=wu σ i) (by rw[List.getElem?_set_self Pt]) (fun n z hn hz=>by rw[List.getElem?_set_ne oM]at hz;obtain⟨y,hy,e1,_⟩:=hu.dst hz;rw[←e1];exact QcN (i:=i.e0) (y:=y.e0) h (Jy hx) hs (zF hi) hn (zF hy))
 rw[h1,List.take_set_of_le (Nat.le_refl _),show bl (nv σ i.dst (ld σ had i.op i.n i.name (i.args.map σ))) (wu σ i).dst=_ from Qdj (i:=i.e0) h (Jy hx) hs (zF hi)];rfl
theorem QbG(h:j9 nm pa va (gs.map bz.f))(hx:gs[k]?=some x)(hs:Xu pa va (gs.map bz.f) k x.f m σ had){i:aO}(hi:x.insts[m]?=some i):x.ah.filter (fun q=>bl (nv σ i.dst (ld σ had i.op i.n i.name (i.args.map σ))) q.dst)=x.ah.filter (fun q=>bl σ q.dst):=List.filter_congr fun p hp=>QcO (i:=i.e0) (p:=p.f) h (Jy hx) hs (zF hi) (show p.f∈x.f.ah from List.mem_map.2 ⟨p,hp,rfl⟩)
theorem QbH(h:j9 nm pa va (gs.map bz.f))(hx:gs[k]?=some x)(hs:Xu pa va (gs.map bz.f) k x.f m σ had){ρ:Int→Int}{i:aO}(hi:x.insts[m]?=some i)(hb:BX (gs.map bz.f) k ρ σ):BX (gs.map bz.f) k ρ (nv σ i.dst (ld σ had i.op i.n i.name (i.args.map σ))):=by
 cases hr:ld σ had i.op i.n i.name (i.args.map σ)with
 |none=>exact hb
 |some o=>
  have hl:=(K3 (i:=i.e0) h (Jy hx) hs (zF hi) o hr).2;have hd:=Gi (i:=i.e0) h (Jy hx) (zF hi) (l:=i.args.map σ) (σ:=σ) (had:=had) (by show ld σ had i.op i.n i.name (i.args.map σ)≠none;rw[hr];simp);exact hb.step h (Ext.Pp hs.sub.idem hl) hd
theorem QcP(h:j9 nm pa va (gs.map bz.f))(hx:gs[k]?=some x)(hs:Xu pa va (gs.map bz.f) k x.f m σ had){t:Bool}{i:aO}(hi:x.insts[m]?=some i)(ht:uK (gs.map bz.f) σ t):uK (gs.map bz.f) (nv σ i.dst (ld σ had i.op i.n i.name (i.args.map σ))) (t||(ld σ had i.op i.n i.name (i.args.map σ)).isSome):=by
 cases hr:ld σ had i.op i.n i.name (i.args.map σ)with
 |none=>rw[show(none:Option Int).isSome=false from rfl,Bool.or_false];exact ht
 |some o=>
  rw[show(some o:Option Int).isSome=true from rfl,Bool.or_true];have hl:=(K3 (i:=i.e0) h (Jy hx) hs (zF hi) o hr).2;exact uK.on hl (Gi (i:=i.e0) h (Jy hx) (zF hi) (l:=i.args.map σ) (σ:=σ) (had:=had) (by show ld σ had i.op i.n i.name (i.args.map σ)≠none;rw[hr];simp))
theorem Qdn(h:j9 nm pa va (gs.map bz.f)){hd:List bz}(hb:BX (gs.map bz.f) k σ τ)(mT:Sub pa va (gs.map bz.f) σ)(N9:Sub pa va (gs.map bz.f) τ)(ha:qF (p5 (Dv pa va (gs.map bz.f)) σ) (gs.take k) hd):qF (p5 (Dv pa va (gs.map bz.f)) τ) (gs.take k) hd:=by
 refine⟨ha.1,fun i y z hy hz=> ?_⟩;have hp:=ha.2 i y z hy hz;have ft:i<k:=by have:=(List.getElem?_eq_some_iff.1 hy).1;rw[List.length_take]at this;omega
 have hyg:gs[i]?=some y:=by rw[List.getElem?_take,if_pos ft]at hy;exact hy
 have ZJ:=h.par;refine hp.next hb (Jy hyg) ft (fun v hv=>⟨N9.par v oM,mT.par v oM⟩) (fun q hq=> ?_);have:=(h.yc.1 y.f (List.mem_of_getElem? (Jy hyg)) q.e0 (List.mem_map.2 ⟨q,hq,rfl⟩)).1;exact this.imp id (fun e=>by have e2:q.dst= -1:=e;omega)
theorem LC{fs:List ay}{x:ay}{to:ar}{i:aO}(hr:pH va (Dv pa va fs) to σ)(h:j9 nm pa va fs)(hx:fs[k]?=some x)(hs:Xu pa va fs k x m σ had)(hi:x.insts[m]?=some i):pH va (Dv pa va fs) (xH to i.dst (ld σ had i.op i.n i.name (i.args.map σ))) (nv σ i.dst (ld σ had i.op i.n i.name (i.args.map σ))):=by
 cases hq:ld σ had i.op i.n i.name (i.args.map σ)with
 |none=>exact hr
 |some o=>
  have hd:=Gi h hx hi (l:=i.args.map σ) (σ:=σ) (had:=had) (by rw[hq];simp);obtain⟨h1,h2⟩:=K3 h hx hs hi o hq;exact hr.set (XM h hd) h1 h2
theorem QdL{hd:List bz}(h:qF (p5 D σ) gs hd):hd.length=gs.length:=h.1.symm
theorem QbI{hd:List bz}(h:qF (p5 D σ) gs hd):hd.map (fun x=>x.g)=gs.map (fun x=>x.g):=by
 have hl:=h.1;refine List.ext_getElem? fun i=> ?_
 rw[List.getElem?_map,List.getElem?_map];by_cases hi:i<gs.length
 ·obtain⟨y,hy⟩:=bu (l:=gs) hi;obtain⟨z,hz⟩:=bu (l:=hd) (i:=i) (by have:=h.1;omega);rw[hy,hz,Option.map_some,Option.map_some,(h.2 i y z hy hz).g]
 ·rw[List.getElem?_eq_none oM,List.getElem?_eq_none oM]
theorem QdM{hd:List bz}(h:qF (p5 D σ) gs hd):(hd.map (ph σ)).map bz.k=(gs.map bz.k).map (Pc σ):=by
 have hl:=h.1;refine List.ext_getElem? fun i=> ?_
 rw[List.map_map,List.map_map,List.getElem?_map,List.getElem?_map];by_cases hi:i<gs.length
 ·obtain⟨y,hy⟩:=bu (l:=gs) hi;obtain⟨z,hz⟩:=bu (l:=hd) (i:=i) (by have:=h.1;omega);rw[hy,hz,Option.map_some,Option.map_some];exact Qgu some (QdK (h.2 i y z hy hz))
 ·rw[List.getElem?_eq_none oM,List.getElem?_eq_none oM];rfl
theorem QdN(h:j9 nm pa va (gs.map bz.f))(hf:Re (gs.map bz.f)){hd:List bz}(ha:qF (p5 (Dv pa va (gs.map bz.f)) σ) gs hd):∀y,y∈hd→QcK (Dv pa va (gs.map bz.f)) y:=by
 intro y hy;obtain⟨i,hi⟩:=List.mem_iff_getElem?.1 hy;obtain⟨x,hx⟩:=bu (l:=gs) (i:=i) (by have:=(List.getElem?_eq_some_iff.1 hi).1;have:=ha.1;omega);have pj:=List.mem_of_getElem? (Jy hx);refine Qd2 (ha.2 i x y hx hi) ?_ ?_ (fun p hp=>⟨hf.ap x.f pj p.f (List.mem_map.2 ⟨p,hp,rfl⟩),Qbn (p:=p.f) h (Jy hx) (List.mem_map.2 ⟨p,hp,rfl⟩)⟩) (fun hg=> ?_)
 ·have:=hf.lp x.f pj;rwa [show x.f.ah.length=x.ah.length from List.length_map ..]at this
 ·have:=hf.li x.f pj;rwa [show x.f.insts.length=x.insts.length from List.length_map ..]at this
 ·obtain⟨z,hz,hr⟩:=h.reads i (List.getElem?_eq_some_iff.1 (Jy hx)).1;rw[Jy hx]at hz;injection hz with hz;subst hz;have hR:pE x.f:=by
   rcases hg with e|⟨e,e2⟩
   ·exact .inl e
   ·refine .inr ⟨e,fun e3=> ?_⟩;have:x.v= -1:=e3;omega
  exact T1 h (hr.fin hR)
theorem Qdo{to:ar}(h:j9 nm pa va (gs.map bz.f))(hr:pH va (Dv pa va (gs.map bz.f)) to (BV (gs.map bz.f))):pH va (Dv pa va (sz (gs.map bz.f))) to (fun v=>v):=hr.imp (fun v hv=>Qdh hv (SL h).par) (fun _ hv=>hv)
end
end Go.Mor
namespace Go.Mor
open Go.RowKit
section
variable {fs gs : List ay} {σ : Int → Int}
theorem ZF{β:Type}(f:β→bI→β)(hf:∀b p,f b p.e0=f b p):∀(l:List bI) (b:β),(l.map bI.e0).foldl f b=l.foldl f b
 |[],_=>rfl
 |p::l,b=>by rw[List.map_cons,List.foldl_cons,List.foldl_cons,hf,ZF f hf l]
theorem ZL{β:Type}(f:β→aO→β)(hf:∀b p,f b p.e0=f b p):∀(l:List aO) (b:β),(l.map aO.e0).foldl f b=l.foldl f b
 |[],_=>rfl
 |p::l,b=>by rw[List.map_cons,List.foldl_cons,List.foldl_cons,hf,ZL f hf l]
theorem rX(σ:Int→Int)(x:ay):fe σ x.e0=fe σ x:=by
 unfold fe;show((x.insts.map aO.e0).foldl Fa ((x.ah.map bI.e0).foldl Ds σ,[])).1=_;rw[ZF Ds (fun _ _=>rfl),ZL Fa (fun _ _=>rfl)]
theorem Qdp(fs:List ay):BV (fs.map ay.e0)=BV fs:=by
 unfold BV;rw[List.foldl_map];congr 1;funext σ x;exact rX σ x
theorem Qdq(σ:Int→Int)(x:ay):uc σ x.e0=uc σ x:=by
 unfold uc ay.e0;simp only[ay.mk.injEq,true_and,and_true];refine⟨?_,?_,rfl⟩
 ·rw[List.filter_map,List.map_map];rfl
 ·rw[List.filter_map,List.map_map];rfl
theorem ZM(fs:List ay):sz (fs.map ay.e0)=sz fs:=by
 unfold sz xD;rw[Qdp,List.map_map];exact List.map_congr_left fun x _=>Qdq _ x
theorem Qbq(h:ec fs gs):sz fs=sz gs:=by rw[←ZM fs,←ZM gs,show fs.map ay.e0=gs.map ay.e0 from h]
theorem Pa(h:ec fs gs):ec (pt fs) (pt gs):=by
 unfold pt;rw[←jS h];cases hn:hY fs with
 |zero=>exact h
 |succ n=>
  unfold qC;rw[←Qbq h,←jS h];split
  ·exact rfl
  ·exact h
theorem Qbr(h:hY (sz fs)<hY fs):pt (sz fs)=pt fs:=by
 obtain⟨n,hn⟩:∃n,hY fs=n+1:=⟨hY fs-1,oM⟩;have e:pt fs=qC (n+1) fs:=by unfold pt;rw[hn]
 rw[e];show _=(if hY (sz fs)<hY fs then qC n (sz fs)else fs);rw[if_pos h,Y7 oM]
theorem Qbs(h:¬hY (sz fs)<hY fs):pt fs=fs:=zE h
theorem Oc{nm:cV}{pa va:Int}(hv:bV nm pa va fs=0)(ho:pL fs):pL (pt fs):=by
 have key:∀(n:Nat) (fs:List ay),bV nm pa va fs=0→pL fs→pL (qC n fs):=by
  intro n;induction n with
  |zero=>intro fs _ h;exact h
  |succ n ih=>
   intro fs hv ho;unfold qC;split
   ·refine ih _ (Au hv) ?_;obtain⟨hg,kx,_⟩:=qI hv;have hs:=SL hg;have QdO:∀v,Dv pa va fs v→In64 (BV fs v):=by intro v h;have:=Ob hg hs h;have h1:=this.1;have h2:=this.2.1;unfold In64;omega
    intro y hy;obtain⟨x,hx,rfl⟩:=List.mem_map.1 hy;obtain⟨k,hk⟩:=List.mem_iff_getElem?.1 hx;have h:=ho x hx;refine⟨?_,fun p hp=> ?_,?_,fun i hi=> ?_,h.e,?_,h.a,h.b⟩
    ·show gY ((x.ah.filter _).map (YI _)).length;rw[List.length_map];exact Nat.le_trans (List.length_filter_le _ _) h.lp
    ·obtain⟨p0,I6,rfl⟩:=List.mem_map.1 (show p∈(x.ah.filter _).map (YI _)from hp);have Zq:=(List.mem_filter.1 I6).1;have h0:=h.ah p0 Zq;refine⟨h0.dst,by show gY (p0.args.map _).length;rw[List.length_map];exact h0.len,fun a ha=> ?_⟩;obtain⟨b,hb,rfl⟩:=List.mem_map.1 (show a∈p0.args.map _ from ha);exact QdO b (Qbn hg hk Zq b hb)
    ·show gY ((x.insts.filter _).map (s5 _)).length;rw[List.length_map];exact Nat.le_trans (List.length_filter_le _ _) h.li
    ·obtain⟨i0,Rq,rfl⟩:=List.mem_map.1 (show i∈(x.insts.filter _).map (s5 _)from hi);have CO:=(List.mem_filter.1 Rq).1;have h0:=h.insts i0 CO;refine⟨h0.op,h0.dst,h0.n,h0.name,by show gY (i0.args.map _).length;rw[List.length_map];exact h0.len,fun a ha=> ?_⟩;obtain⟨b,hb,rfl⟩:=List.mem_map.1 (show a∈i0.args.map _ from ha);exact QdO b (Qbo hg hk CO b hb)
    ·show In64 (if Pb x then BV fs x.v else x.v);split
     ·rename_i hvx;obtain⟨z,hz,hr⟩:=hg.reads k (List.getElem?_eq_some_iff.1 hk).1;rw[hk]at hz;injection hz with hz;subst hz;refine QdO _ (T1 hg (hr.fin ?_));rcases hvx with e|⟨e,e2⟩
      ·exact .inl e
      ·exact .inr ⟨e,oM⟩
     ·exact h.v
   ·exact ho
 exact key _ _ hv ho
end
def XU(n:Nat):ar:=(List.range n).map (fun i:Nat=>(i:Int))
theorem XN(n:Nat):(XU n).length=n:=by simp[XU]
theorem QcQ(n:Nat):XU (n+1)=XU n++[(n:Int)]:=by simp[XU,List.range_succ]
theorem QcR{va:Int}{n:Nat}(hn:va=(n:Int)){D:Int→Prop}(hD:∀v,D v→0≤v∧v<va):pH va D (XU n) (fun v=>v):=⟨by rw[XN,hn],fun v hv=>⟨0,.zero (hD v hv).1 (by
  have:=hD v hv;unfold XU;rw[List.getElem?_map,List.getElem?_range oM];simp;omega)⟩,fun _ h=>h⟩
structure sQ(N:Int)(x:gO):Prop where
 gone:x.gone=false
 ah:∀p,p∈x.ah→PG N p∧0<p.from_.length∧p.from_.length≤20000
theorem sQ.next{N:Int}{x:gO}(h:sQ N x)(σ:Int→Int):sQ N (Pc σ x):=by
 refine⟨h.gone,fun p hp=> ?_⟩;obtain⟨q,hq,rfl⟩:=List.mem_map.1 (show p∈(x.ah.filter _).map _ from hp);obtain⟨h1,h2,h3⟩:=h.ah q (List.mem_filter.1 hq).1;exact⟨⟨h1.up,h1.yW,by show(q.args.map σ).length=q.from_.length;rw[List.length_map];exact h1.len⟩,h2,h3⟩
theorem Qbt(gs:List bz):(gs.map bz.k).map gO.f=gs.map bz.f:=by
 rw[List.map_map];refine List.map_congr_left fun x _=> ?_
 show gO.f x.k=x.f;unfold gO.f bz.k bz.f;simp only[List.map_map];rfl
theorem Od{gs nC:List bz}(h:nC.map bz.k=(gs.map bz.k).map (Pc (BV (gs.map bz.f)))):nC.map bz.f=sz (gs.map bz.f):=by
 have e:(gO.f∘Pc (BV (gs.map bz.f)))=(uc (BV (gs.map bz.f))∘gO.f):=funext fun x=>QdJ _ x
 rw[←Qbt nC,h,List.map_map,e,←List.map_map,Qbt];rfl
theorem XO{gs nC:List bz}{σ:Int→Int}{N:Int}(h:nC.map bz.k=(gs.map bz.k).map (Pc σ))(hu:∀x,x∈gs→sQ N x.k):∀x,x∈nC→sQ N x.k:=by
 intro x hx;have:x.k∈(gs.map bz.k).map (Pc σ):=by rw[←h];exact List.mem_map.2 ⟨x,hx,rfl⟩
 obtain⟨y,hy,e⟩:=List.mem_map.1 this;obtain⟨z,hz,rfl⟩:=List.mem_map.1 hy;rw[←e];exact(hu z hz).next σ
theorem QdP{gs:List bz}{n:Nat}(h:∀x,x∈gs→UK n gs.length x):∀x,x∈gs→sQ (gs.length:Int) x.k:=fun x hx=>⟨(h x hx).gone,fun p hp=>by
 obtain⟨q,hq,rfl⟩:=List.mem_map.1 (show p∈x.ah.map cI.k from hp);obtain⟨_,_,_,h4,h5,h6⟩:=(h x hx).ah q hq;exact⟨h6,h4,h5⟩⟩
theorem SQ{nm:cV}{pa va:Int}{gs:List bz}(h:j9 nm pa va (gs.map bz.f)):∀x,x∈gs.map bz.k→Jn (gs.length:Int) x:=by
 intro y hy;obtain⟨x,hx,rfl⟩:=List.mem_map.1 hy;have:=h.ends x.f (List.mem_map.2 ⟨x,hx,rfl⟩);rw[List.length_map]at this;exact this
theorem Qd3{nm:cV}{pa va:Int}{gs:List bz}(h:j9 nm pa va (gs.map bz.f))(hf:Re (gs.map bz.f))(hu:∀x,x∈gs→sQ (gs.length:Int) x.k):∀x,x∈gs.map bz.k→Rh (gs.length:Int) x:=by
 intro y hy;have he:=SQ h y hy;obtain⟨x,hx,rfl⟩:=List.mem_map.1 hy;have hl:=hf.lp x.f (List.mem_map.2 ⟨x,hx,rfl⟩);refine⟨?_,fun p hp=> ?_,fun e0=> ?_,fun e1=> ?_⟩
 ·show(x.ah.map cI.k).length≤20000;rw[List.length_map];rwa [show x.f.ah.length=x.ah.length from List.length_map ..]at hl
 ·obtain⟨h1,h2,h3⟩:=(hu x hx).ah p hp;exact⟨h2,h3,h1.len,h1.yW⟩
 ·rcases he with h|h|h|h
  ·exact h.2.1
  ·have:=h.1;omega
  ·have:=h.1;omega
  ·have:=h.1;omega
 ·rcases he with h|h|h|h
  ·have:=h.1;omega
  ·exact⟨h.2.1,h.2.2.1⟩
  ·have:=h.1;omega
  ·have:=h.1;omega
theorem Qdr{nm:cV}{pa va:Int}{gs:List bz}(h:j9 nm pa va (gs.map bz.f))(hu:∀x,x∈gs→sQ (gs.length:Int) x.k){fd:List ay}(ht:Yi (gs.map bz.k) fd):fd.map ay.e0=gs.map bz.f:=by
 rw[←Qbt gs];refine NI (fun x hx=> ?_) (fun x hx=> ?_) (fun x hx p hp=> ?_) ht
 ·obtain⟨y,hy,rfl⟩:=List.mem_map.1 hx;exact(hu y hy).gone
 ·rw[List.length_map];exact SQ h x hx
 ·obtain⟨y,hy,rfl⟩:=List.mem_map.1 hx;rw[List.length_map];exact((hu y hy).ah p hp).1
theorem Qct{fs:List ay}{gs0 gs nC:List bz}{nm:cV}{pa va:Int}(h0:gs0.map bz.k=lN fs)(hs:pt (gs.map bz.f)=pt (gs0.map bz.f))(hk:nC.map bz.k=(gs.map bz.k).map (Pc (BV (gs.map bz.f))))(ht:uK (gs.map bz.f) (BV (gs.map bz.f)) false)(hv:bV nm pa va (gs.map bz.f)=0)(hu:∀x,x∈gs→sQ (gs.length:Int) x.k){fd:List ay}(Ut:Yi (nC.map bz.k) fd):ec fd (pt fs):=by
 have hl:nC.length=gs.length:=by have:=Qgu List.length hk;simpa using this
 have pQ:=XO hk hu;rw[←hl]at pQ;have hf:=Od hk;have Yb:bV nm pa va (nC.map bz.f)=0:=by rw[hf];exact Au hv
 have h1:=Qdr (qI Yb).1 pQ Ut;have Qd4:¬hY (sz (gs.map bz.f))<hY (gs.map bz.f):=by have:=NR ht;simpa using this.symm
 have e1:ec (sz (gs.map bz.f)) (gs.map bz.f):=by
  unfold ec sz xD;rw[ht.1 rfl,List.map_map];refine List.map_congr_left fun x _=> ?_
  show(uc (fun v=>v) x).e0=x.e0;unfold uc ay.e0;have e1:x.ah.filter (fun p=>bl (fun v=>v) p.dst)=x.ah:=List.filter_eq_self.2 fun p _=>by unfold bl;simp
  have e2:x.insts.filter (fun p=>bl (fun v=>v) p.dst)=x.insts:=List.filter_eq_self.2 fun p _=>by unfold bl;simp
  rw[e1,e2];simp only[List.map_map,ite_self,ay.mk.injEq,true_and,and_true];refine⟨?_,?_⟩
  ·exact List.map_congr_left fun p _=>by simp[bI.e0,YI]
  ·exact List.map_congr_left fun p _=>by simp[aO.e0,s5]
 have h2:ec fd (nC.map bz.f):=by
  unfold ec;rw[h1];have:∀l:List bz,(l.map bz.f).map ay.e0=l.map bz.f:=fun l=>by
   rw[List.map_map];refine List.map_congr_left fun x _=> ?_
   show x.f.e0=x.f;unfold bz.f ay.e0;simp only[List.map_map];rfl
  rw[this]
 rw[hf]at h2;refine h2.trans (e1.trans ?_);rw[←Qbs Qd4,hs];exact Pa (BI h0).symm
end Go.Mor
namespace Go.Mor
open Go.RowKit
section
variable {fs : List ay} {nm : ByteArray} {pa va : Int} {σ : Int → Int} {k j : Nat} {x : ay} {had : List (yu × Int)} {v : Int}
theorem rI{d o:Int}(hl:sX va σ d o)(hv:σ v≠v):link σ d o v≠v:=fun e=>hv ((ZC hl v).1 e).1
theorem iZ{d:Int}:∀(r:Option Int),(∀o,r=some o→sX va σ d o)→σ v≠v→nv σ d r v≠v
 |none,_,hv=>hv
 |some o,h,hv=>rI (h o rfl) hv
theorem lh(σ:Int→Int)(had:List (yu×Int))(i:aO):(Fa (σ,had) i).1=nv σ i.dst (ld σ had i.op i.n i.name (i.args.map σ)):=by rw[SP]
theorem ke (h : j9 nm pa va fs) (hx : fs[k]? = some x) (hs : oK pa va fs k σ) (hj : j ≤ x.ah.length) (hv : ((x.ah.take j).foldl Ds σ) v ≠ v) : ∀ n, j ≤ n → n ≤ x.ah.length → ((x.ah.take n).foldl Ds σ) v ≠ v := by
  intro n hjn hn
  induction n with
  | zero => have : j = 0 := by omega
            subst this; exact hv
  | succ n ih =>
    by_cases e : j = n + 1
    · subst e; exact hv
    · obtain ⟨p, hp⟩ := bu (l := x.ah) (i := n) (by omega)
      have Hh := Qbk h hx hs n (by omega)
      rw [uh _ _ hp, SO]
      exact iZ _ (fun o ho => (Qbp h hx Hh hp o ho).2) (ih (by omega) (by omega))
theorem jF (h : j9 nm pa va fs) (hx : fs[k]? = some x) (hs : oK pa va fs k σ) (hj : j ≤ x.insts.length) (hv : ((x.insts.take j).foldl Fa (x.ah.foldl Ds σ, [])).1 v ≠ v) : ∀ n, j ≤ n → n ≤ x.insts.length → ((x.insts.take n).foldl Fa (x.ah.foldl Ds σ, [])).1 v ≠ v := by
  intro n hjn hn
  induction n with
  | zero => have : j = 0 := by omega
            subst this; exact hv
  | succ n ih =>
    by_cases e : j = n + 1
    · subst e; exact hv
    · obtain ⟨i, hi⟩ := bu (l := x.insts) (i := n) (by omega)
      have vW := Qbm h hx hs n (by omega)
      rw [uh _ _ hi]
      show (Fa (((x.insts.take n).foldl Fa (x.ah.foldl Ds σ, [])).1, ((x.insts.take n).foldl Fa (x.ah.foldl Ds σ, [])).2) i).1 v ≠ v
      rw [lh]
      exact iZ _ (fun o ho => (K3 h hx vW hi o ho).2) (ih (by omega) (by omega))
theorem nh(h:j9 nm pa va fs)(hx:fs[k]?=some x)(hs:oK pa va fs k σ)(hv:σ v≠v):fe σ x v≠v:=by
 have h1:=ke h hx hs (j:=0) (Nat.zero_le _) hv x.ah.length (Nat.zero_le _) (Nat.le_refl _);rw[List.take_length]at h1;have h2:=jF h hx hs (j:=0) (Nat.zero_le _) h1 x.insts.length (Nat.zero_le _) (Nat.le_refl _);rw[List.take_length]at h2;exact h2
theorem sP (h : j9 nm pa va fs) (hk : k ≤ fs.length) (hv : YM fs k v ≠ v) : ∀ n, k ≤ n → n ≤ fs.length → YM fs n v ≠ v := by
  intro n bW hn
  induction n with
  | zero => have : k = 0 := by omega
            subst this; exact hv
  | succ n ih =>
    by_cases e : k = n + 1
    · subst e; exact hv
    · obtain ⟨x, hx⟩ := bu (l := fs) (i := n) (by omega)
      have e1 : YM fs (n + 1) = fe (YM fs n) x := by unfold YM; rw [uh _ _ hx]
      rw [e1]
      exact nh h hx (Xw h n (by omega)) (ih (by omega) (by omega))
theorem lj(h:j9 nm pa va fs)(hk:k≤fs.length)(hv:YM fs k v≠v):BV fs v≠v:=by
 have:=sP h hk hv fs.length hk (Nat.le_refl _);unfold YM at this;rwa [List.take_length]at this
structure Still(fs:List ay):Prop where
 ah:∀(k:Nat) (x:ay),fs[k]?=some x→∀p,p∈x.ah→oH (fun v=>v) p.dst p.args (-1)=none
 insts:∀(k:Nat) (x:ay),fs[k]?=some x→∀(j:Nat) (i:aO),x.insts[j]?=some i→∃had,((x.insts.take j).foldl Fa ((fun v=>v),[]))=((fun v=>v),had)∧ld (fun v=>v) had i.op i.n i.name i.args=none
theorem s9(h:j9 nm pa va fs)(hn:¬hY (sz fs)<hY fs):Still fs:=by
 have Pf:∀v c m:Int,(v,c,m)∈bF fs→BV fs v=v:=fun v c m hd=>Classical.byContradiction fun e=>hn (QcL hd e)
 have uJ:∀(k:Nat) (x:ay),fs[k]?=some x→YM fs k=(fun v=>v)→∀j,j≤x.ah.length→(x.ah.take j).foldl Ds (fun v=>v)=fun v=>v:=by
  intro k x hx e j;have hs:oK pa va fs k (fun v=>v):=by rw[←e];exact Xw h k (by have:=(List.getElem?_eq_some_iff.1 hx).1;omega)
  induction j with
  |zero=>intro _;rfl
  |succ j ih=>
   intro hj;obtain⟨p,hp⟩:=bu (l:=x.ah) (i:=j) oM;have ej:=ih oM;rw[uh _ _ hp,ej,SO];cases hr:oH (fun v=>v) p.dst p.args (-1)with
   |none=>rfl
   |some o=>
    exfalso;have Hh:=Qbk h hx hs j oM;rw[ej]at Hh;have hl:=(Qbp h hx Hh hp o hr).2;have hd:(p.dst,(k:Int),(-1:Int))∈bF fs:=sq.2 ⟨k,x,hx,rfl,.inl ⟨rfl,p,List.mem_of_getElem? hp,rfl⟩⟩;have h1:((x.ah.take (j+1)).foldl Ds (fun v=>v)) p.dst≠p.dst:=by rw[uh _ _ hp,ej,SO,hr];rw[show nv (fun v=>v) p.dst (some o)=link (fun v=>v) p.dst o from rfl,Qda hl.dd];exact hl.ne
    have h2:=ke h hx hs hj h1 x.ah.length hj (Nat.le_refl _);rw[List.take_length]at h2;have h3:=jF h hx hs (j:=0) (Nat.zero_le _) h2 x.insts.length (Nat.zero_le _) (Nat.le_refl _);rw[List.take_length]at h3;have Jm:=(List.getElem?_eq_some_iff.1 hx).1;refine lj h (k:=k+1) oM (v:=p.dst) ?_ (Pf _ _ _ hd);have e1:YM fs (k+1)=fe (YM fs k) x:=by unfold YM;rw[uh _ _ hx]
    rw[e1,e];exact h3
 have Pg:∀(k:Nat) (x:ay),fs[k]?=some x→YM fs k=(fun v=>v)→∀j,j≤x.insts.length→∃had,(x.insts.take j).foldl Fa ((fun v=>v),[])=((fun v=>v),had)∧∀i,x.insts[j]?=some i→ld (fun v=>v) had i.op i.n i.name i.args=none:=by
  intro k x hx e j;have hs:oK pa va fs k (fun v=>v):=by rw[←e];exact Xw h k (by have:=(List.getElem?_eq_some_iff.1 hx).1;omega)
  have ep:=uJ k x hx e x.ah.length (Nat.le_refl _);rw[List.take_length]at ep;have nW:∀(j:Nat) (had:List (yu×Int)),j≤x.insts.length→(x.insts.take j).foldl Fa ((fun v=>v),[])=((fun v=>v),had)→∀i,x.insts[j]?=some i→ld (fun v=>v) had i.op i.n i.name i.args=none:=by
   intro j had hj eh i hi;cases hr:ld (fun v=>v) had i.op i.n i.name i.args with
   |none=>rfl
   |some o=>
    exfalso;have Fl:=(List.getElem?_eq_some_iff.1 hi).1;have vW:=Qbm h hx hs j hj;rw[ep,eh]at vW;have em:i.args.map (fun v=>v)=i.args:=List.map_id' _;have ZN:ld (fun v=>v) had i.op i.n i.name (i.args.map (fun v=>v))=some o:=by rw[em];exact hr
    have hl:=(K3 h hx vW hi o ZN).2;have hd:=Gi h hx hi (l:=i.args) (σ:=fun v=>v) (had:=had) (by rw[hr];simp);have h1:((x.insts.take (j+1)).foldl Fa (x.ah.foldl Ds (fun v=>v),[])).1 i.dst≠i.dst:=by rw[ep,uh _ _ hi,eh,lh,ZN];rw[show nv (fun v=>v) i.dst (some o)=link (fun v=>v) i.dst o from rfl,Qda hl.dd];exact hl.ne
    have h3:=jF h hx hs (j:=j+1) oM h1 x.insts.length oM (Nat.le_refl _);rw[List.take_length]at h3;have Jm:=(List.getElem?_eq_some_iff.1 hx).1;refine lj h (k:=k+1) oM (v:=i.dst) ?_ (Pf _ _ _ hd);have e1:YM fs (k+1)=fe (YM fs k) x:=by unfold YM;rw[uh _ _ hx]
    rw[e1,e];exact h3
  induction j with
  |zero=>intro hj;exact⟨[],rfl,nW 0 [] hj rfl⟩
  |succ j ih=>
   intro hj;obtain⟨had,eh,hd⟩:=ih oM;obtain⟨i,hi⟩:=bu (l:=x.insts) (i:=j) oM;have em:i.args.map (fun v=>v)=i.args:=List.map_id' _;have e1:(x.insts.take (j+1)).foldl Fa ((fun v=>v),[])=((fun v=>v),Jx had i.op i.dst i.n i.name i.args):=by rw[uh _ _ hi,eh,SP,em,hd i hi];rfl
   exact⟨_,e1,nW (j+1) _ hj e1⟩
 have Pl:∀k,k≤fs.length→YM fs k=fun v=>v:=by
  intro k;induction k with
  |zero=>intro _;rfl
  |succ k ih=>
   intro hk;obtain⟨x,hx⟩:=bu (l:=fs) (i:=k) oM;have e:=ih oM;have e1:YM fs (k+1)=fe (YM fs k) x:=by unfold YM;rw[uh _ _ hx]
   rw[e1,e];have ep:=uJ k x hx e x.ah.length (Nat.le_refl _);rw[List.take_length]at ep;obtain⟨had,eh,_⟩:=Pg k x hx e x.insts.length (Nat.le_refl _);rw[List.take_length]at eh;unfold fe;rw[ep,eh]
 refine⟨fun k x hx p hp=> ?_,fun k x hx j i hi=> ?_⟩
 ·obtain⟨j,hj⟩:=List.mem_iff_getElem?.1 hp;have Fl:=(List.getElem?_eq_some_iff.1 hj).1;have e:=Pl k (by have:=(List.getElem?_eq_some_iff.1 hx).1;omega);have e1:=uJ k x hx e (j+1) oM;rw[uh _ _ hj,uJ k x hx e j oM,SO]at e1;cases hr:oH (fun v=>v) p.dst p.args (-1)with
  |none=>rfl
  |some o=>
   exfalso;have hs:oK pa va fs k (fun v=>v):=by rw[←e];exact Xw h k (by have:=(List.getElem?_eq_some_iff.1 hx).1;omega)
   have Hh:=Qbk h hx hs j oM;rw[uJ k x hx e j oM]at Hh;have hl:=(Qbp h hx Hh hj o hr).2;rw[hr]at e1;have:=congrFun e1 p.dst;have e2:link (fun v=>v) p.dst o p.dst=p.dst:=this;rw[Qda hl.dd]at e2;exact hl.ne e2
 ·have q8:=(List.getElem?_eq_some_iff.1 hi).1;obtain⟨had,eh,hd⟩:=Pg k x hx (Pl k (by have:=(List.getElem?_eq_some_iff.1 hx).1;omega)) j oM;exact⟨had,eh,hd i hi⟩
end
end Go.Mor
namespace Go.Mor
open Go.RowKit
theorem lK{d one a:Int}{l:ar}(h1:¬a=d)(h2:¬(0≤one∧a≠one)):oH (fun v=>v) d (a::l) one=oH (fun v=>v) d l a:=by
 show(if a=d∨a=one then oH (fun v=>v) d l one else if 0≤one then none else oH (fun v=>v) d l a)=_;by_cases h3:a=one
 ·rw[if_pos (.inr h3),h3]
 ·rw[if_neg (by rintro(h|h);exact h1 h;exact h3 h),if_neg (fun h=>h2 ⟨h,h3⟩)]
theorem nE{d:Int}(one:Int):(oH (fun v=>v) d [] one).isSome=decide (one≥0):=by
 unfold oH;split
 ·rw[decide_eq_false oM];rfl
 ·rw[decide_eq_true oM];rfl
def gH(op:Int):Prop:=op=1∨op=6∨op=7∨41≤op∨(17≤op∧op≠20∧op≠21)
instance (op : Int) : Decidable (gH op) := by unfold gH; infer_instance
theorem kg{op:Int}(h:gH op):cP op:=by unfold gH at h;unfold cP;omega
theorem u6{a b:cV}(h:a.toList=b.toList):a=b:=by
 have h1:(a.toList==b.toList)=true:=by rw[h];exact beq_self_eq_true _
 rw[←vV]at h1;simpa[sZ]using h1
def lO(i j:aO):Prop:=((i.op=j.op∧i.n=j.n)∧i.name.toList=j.name.toList)∧i.args=j.args
instance (i j : aO) : Decidable (lO i j) := by unfold lO; infer_instance
theorem Po{a b:yu}(e:(a==b)=true):a=b:=by
 obtain⟨a1,a2,a3,a4,a5⟩:=a;obtain⟨b1,b2,b3,b4,b5⟩:=b;have e2:(a1==b1&&(a2==b2&&(a3.toList==b3.toList&&(a4==b4&&a5==b5))))=true:=by rw[←vV];exact e
 rw[←vV]at e2;simp only[Bool.and_eq_true,beq_iff_eq]at e2;obtain⟨rfl,rfl,h3,rfl,rfl⟩:=e2;have:a3=b3:=by simpa[sZ]using h3
 rw[this]
theorem qc(a:yu):(a==a)=true:=by
 obtain⟨a1,a2,a3,a4,a5⟩:=a;show(a1==a1&&(a2==a2&&(a3==a3&&(a4==a4&&a5==a5))))=true;simp[sZ]
theorem jU(s:yu)(v:Int):∀l:List (yu×Int),DF (Xq l s v) s=some v
 |[]=>by simp only[Xq,DF,qc]
 |(k,u)::l=>by
  unfold Xq;cases h:s==k with
  |true=>simp only[DF,qc]
  |false=>simp only[DF,h];exact jU s v l
theorem gS(s t:yu)(v:Int):∀l:List (yu×Int),DF l s≠none→DF (Xq l t v) s≠none
 |[],h=>absurd rfl h
 |(k,u)::l,h=>by
  unfold Xq;cases ht:t==k with
  |true=>
   have e:t=k:=Po ht;subst e;unfold DF at h⊢;cases hs:s==t with
   |true=>simp
   |false=>rw[hs]at h;exact h
  |false=>
   unfold DF at h⊢;cases hs:s==k with
   |true=>simp
   |false=>rw[hs]at h;exact gS s t v l h
structure gh(fs:List ay):Prop where
 ah:∀x,x∈fs→∀p,p∈x.ah→oH (fun v=>v) p.dst p.args (-1)=none
 copy:∀x,x∈fs→∀i,i∈x.insts→i.op≠12
 xO:∀x,x∈fs→∀(j k:Nat) (i l:aO),j<k→x.insts[j]?=some i→x.insts[k]?=some l→gH l.op→¬lO i l
section
variable {fs gs : List ay} {nm : ByteArray} {pa va : Int}
theorem Still.left(h:Still fs):gh fs:=by
 have hc:∀x,x∈fs→∀i,i∈x.insts→i.op≠12:=by intro x hx i hi yB;obtain⟨k,hk⟩:=List.mem_iff_getElem?.1 hx;obtain⟨j,hj⟩:=List.mem_iff_getElem?.1 hi;obtain⟨had,_,hd⟩:=h.insts k x hk j i hj;unfold ld at hd;rw[if_pos yB]at hd;cases hd
 refine⟨fun x hx p hp=> ?_,hc,?_⟩
 ·obtain⟨k,hk⟩:=List.mem_iff_getElem?.1 hx;exact h.ah k x hk p hp
 intro x hx j k i l er hi hl ho yE;obtain⟨kk,hkk⟩:=List.mem_iff_getElem?.1 hx;have key:∀m,m≤x.insts.length→∀had,(x.insts.take m).foldl Fa ((fun v=>v),[])=((fun v=>v),had)→∀(j:Nat) (i:aO),j<m→x.insts[j]?=some i→gH i.op→DF had (Ar i.op i.n i.name i.args)≠none:=by
  intro m;induction m with
  |zero=>intro _ _ _ j i hj;omega
  |succ m ih=>
   intro hm had eh j i hj hi ho;obtain⟨a,ha⟩:=bu (l:=x.insts) (i:=m) oM;obtain⟨h0,e0,hd⟩:=h.insts kk x hkk m a ha;have e1:(x.insts.take (m+1)).foldl Fa ((fun v=>v),[])=((fun v=>v),Jx h0 a.op a.dst a.n a.name a.args):=by rw[uh _ _ ha,e0,SP,List.map_id',hd];rfl
   rw[e1]at eh;injection eh with _ eh;subst eh;have a12:a.op≠12:=hc x hx a (List.mem_of_getElem? ha);unfold ld at hd;rw[if_neg a12]at hd;unfold Jx;rw[if_neg a12];by_cases e:j=m
   ·subst e;rw[ha]at hi;injection hi with hi;subst hi;rw[if_pos (kg ho)]at hd⊢;rw[hd];simp only;rw[jU];simp
   ·have h9:=ih oM h0 e0 j i oM hi ho;split
    ·split
     ·exact h9
     ·exact gS _ _ _ _ h9
    ·exact h9
 have Jm:=(List.getElem?_eq_some_iff.1 hl).1;obtain⟨had,eh,hd⟩:=h.insts kk x hkk k l hl;obtain⟨⟨⟨e1,e2⟩,e3⟩,e4⟩:=yE;have e3:=u6 e3;have h9:=key k oM had eh j i er hi (by rw[e1];exact ho);rw[e1,e2,e3,e4]at h9;unfold ld at hd;rw[if_neg (hc x hx l (List.mem_of_getElem? hl)),if_pos (kg ho)]at hd;exact h9 hd
theorem gh.alike(h:gh gs)(ha:ec fs gs):gh fs:=by
 refine⟨fun x hx p hp=> ?_,fun x hx i hi=> ?_,fun x hx j k i l er hi hl ho yE=> ?_⟩
 ·obtain⟨k,hk⟩:=List.mem_iff_getElem?.1 hx;obtain⟨j,hj⟩:=List.mem_iff_getElem?.1 hp;obtain⟨A1,c1,ps,A2,c2,is,hy,UN,_⟩:=rN ha hk;obtain⟨A,c,hq⟩:=zM UN hj;exact h.ah _ (List.mem_of_getElem? hy) ⟨p.dst,A,c,p.args⟩ (List.mem_of_getElem? hq)
 ·obtain⟨k,hk⟩:=List.mem_iff_getElem?.1 hx;obtain⟨j,hj⟩:=List.mem_iff_getElem?.1 hi;obtain⟨A1,c1,ps,A2,c2,is,hy,_,UO⟩:=rN ha hk;obtain⟨A,c,hq⟩:=BC UO hj;exact h.copy _ (List.mem_of_getElem? hy) ⟨i.op,i.dst,i.n,i.name,A,c,i.args⟩ (List.mem_of_getElem? hq)
 ·obtain⟨kk,hk⟩:=List.mem_iff_getElem?.1 hx;obtain⟨A1,c1,ps,A2,c2,is,hy,_,UO⟩:=rN ha hk;obtain⟨A,c,hq⟩:=BC UO hi;obtain⟨B,d,hr⟩:=BC UO hl;exact h.xO _ (List.mem_of_getElem? hy) j k _ _ er hq hr ho yE
theorem nL(hv:bV nm pa va fs=0):gh (pt fs):=(s9 (qI (F4 hv)).1 rA).left
end
end Go.Mor
