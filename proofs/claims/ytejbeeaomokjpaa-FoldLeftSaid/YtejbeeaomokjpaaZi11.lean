/-
  Texts of the proof, part 11.
-/
import Derived.Test.YtejbeeaomokjpaaZi10
import Derived.Shelf.SlSortCmp.Whole1
set_option maxRecDepth 10000
namespace Go.Mor
open Go.RowKit Go.Sort Go.Proofs
def Gw(w w':World):Prop:=∃q os,w'=grow (w.drewN q) os
theorem Gw.refl(w:World):Gw w w:=⟨0,#[],by rw[grow_empty];rfl⟩
theorem Gw.drew{w w':World}(h:Gw w w'):Gw w w'.drew:=by
 obtain⟨q,os,rfl⟩:=h;exact⟨q+1,os,rfl⟩
theorem Gw.kp{w w':World}(h:Gw w w'):Mem ba w w' []:=by
 obtain⟨q,os,rfl⟩:=h;refine⟨rfl,rfl,rfl,by simp[grow,World.drewN],fun k hk _=> ?_,sI,Qjn⟩;show(w.heap++os)[k]?=w.heap[k]?;rw[Array.getElem?_append_left hk]
end Go.Mor
namespace Go.Mor
open Go.RowKit Go.Sort Go.Proofs
theorem tm{α:Type}[Inhabited α](enc:α→Value)(d:Array α)(cur:Array Value)(h:d.size≤cur.size):((putCells enc 0 d cur).toList).take d.size=d.toList.map enc:=by
 refine uv fun i=> ?_
 by_cases hi:i<d.size
 ·have h2:i<cur.size:=oM;have e1:(putCells enc 0 d cur).toList[i]?=some (enc d[i]!):=by unfold putCells;rw[Array.getElem?_toList,Array.getElem?_mapIdx,Array.getElem?_eq_getElem h2];simp[hi]
  rw[List.getElem?_take_of_lt hi,e1,List.getElem?_map,Array.getElem?_toList,Array.getElem?_eq_getElem hi];simp[hi]
 ·rw[List.getElem?_eq_none (by rw[Qct];omega),List.getElem?_eq_none (by simp;omega)]
theorem BE{α:Type}[Inhabited α](enc:α→Value){w:World}{e n c g:Nat}{xs:aW}(h:(bo.row e 1 (some (aZ g)) n c xs).holds w)(m:Nat){dk:Array α}(hd:dk.size=n)(os:Array Obj):Mem (bo.row e 1 (some (aZ g)) n c xs).fp w (sortWorld enc w g 0 m dk os) [.row e 1 (some (aZ g)) n c (dk.toList.map enc)]:=by
 obtain⟨hl,h2⟩:=h;rcases h2 with⟨h2,_⟩|⟨g',cap,cur,hv,hb,hg,Ps,T6,Cn,ht⟩
 ·cases h2
 injection hv with hv _ hc;injection hv with hv;injection hv with hv;subst hv hc;have fm:g<w.heap.size:=mI hg;have Jg:(sortWorld enc w g 0 m dk os).heap=(w.heap.modify g (onCells (putCells enc 0 dk)))++os:=rfl;refine⟨rfl,rfl,rfl,?_,fun k hk cU=> ?_,?_,QcC _ _⟩
 ·rw[Jg];simp
 ·rw[Jg,Array.getElem?_append_left (by simpa using hk),Array.getElem?_modify,dd];intro e1;subst e1;exact cU ⟨(aZ g),rfl,rfl⟩
 ·simp only[jT];rintro _ rfl;refine⟨⟨by simp[hd],.inr ⟨g,c,putCells enc 0 dk cur,rfl,hb,?_,Ps,T6,?_,?_⟩⟩,fun k hk=> .inl hk⟩
  ·rw[Jg,Array.getElem?_append_left (by simpa using fm),Array.getElem?_modify,eh rfl,hg];rfl
  ·simpa[putCells]using Cn
  ·rw[sy,←hd];refine tm enc dk cur ?_;rw[sy]at Cn;omega
theorem Ga{α:Type}[Inhabited α](enc:α→Value){w:World}{e n c g:Nat}{d:Array α}(h:(bo.row e 1 (some (aZ g)) n c (d.toList.map enc)).holds w):Holds enc w g 0 d:=by
 intro j hj;obtain⟨ad,ha,hc⟩:=aB h j (enc d[j]!) (by rw[List.getElem?_map,Array.getElem?_toList,Array.getElem?_eq_getElem hj];simp[hj]);injection ha with ha;subst ha;rw[yq]at hc;have hf:=mK h j;rw[yq]at hf;exact⟨by rw[QcV];exact hc,by rw[QcV];exact hf⟩
def jY(n:Nat)(key:Nat→Int)(il:List Nat):Prop:=il.Perm (List.range n)∧il.Pairwise (fun i j=>key i≤key j)
def rJ(nl fl:ar)(i:Nat):Int:=nl.getD (fl.getD i 0).toNat 0
def gD(l:List Nat):ar:=l.map (fun i:Nat=>(i:Int))
theorem Gb{l:List Nat}{j i:Nat}(h:l[j]?=some i):(gD l)[j]?=some (i:Int):=by simp[gD,h]
theorem Gc{f:Nat→Int}{l:List Nat}{j i:Nat}(h:l[j]?=some i):(l.take (j+1)).map f=(l.take j).map f++[f i]:=by
 obtain⟨hj,he⟩:=List.getElem?_eq_some_iff.1 h;rw[kj hj,lh,he];rfl
def s7(n j:Nat):ar:=gD (List.range j)++List.replicate (n-j) 0
theorem Dn(n:Nat):ints (s7 n 0)=List.replicate n (vI 0):=by simp[s7,gD,ints]
theorem Gd(n:Nat):s7 n n=gD (List.range n):=by simp[s7]
theorem Dp{n j:Nat}(h:j<n):(ints (s7 n j)).set j (vI (j:Int))=ints (s7 n (j+1)):=by
 unfold s7 gD ints;obtain⟨d,hd⟩:=Nat.le.dest h;rw[show n-j=d+1 by omega,show n-(j+1)=d by omega,QdJ,Qi7];simp
def zh(n:Nat)(i:Fin n):Value:=vI (i.val:Int)
def Rg(nl fl:ar)(n:Nat)(i j:Fin n):Int:=rJ nl fl i.val-rJ nl fl j.val
theorem Nx(nl fl:ar)(n:Nat):SWO (ltOf (Rg nl fl n)):=by
 have e:∀x y,ltOf (Rg nl fl n) x y=decide (rJ nl fl x.val<rJ nl fl y.val):=by intro x y;unfold ltOf Rg;exact decide_eq_decide.2 oM
 refine⟨fun x=> ?_,fun x y z h1 h2=> ?_,fun x y z h1 h2=> ?_⟩
 ·rw[e];simp
 ·rw[e]at*;simp at*;omega
 ·rw[e]at*;simp at*;omega
theorem Dq(n:Nat):((Array.ofFn (n:=n) id).toList).map (zh n)=ints (gD (List.range n)):=by
 refine uv fun i=> ?_
 by_cases hi:i<n
 ·simp[ints,gD,zh,hi]
 ·simp[ints,gD,zh,hi]
theorem Dr{nl fl:ar}{n:Nat}[Inhabited (Fin n)]{d':Array (Fin n)}(hp:PermIn 0 (Array.ofFn (n:=n) id).size (Array.ofFn (n:=n) id) d')(hs:SortedIn (ltOf (Rg nl fl n)) 0 (Array.ofFn (n:=n) id).size d'):jY n (rJ nl fl) (d'.toList.map (·.val))∧d'.toList.map (zh n)=ints (gD (d'.toList.map (·.val))):=by
 obtain⟨h1,_,h3⟩:=hp;have hn:(Array.ofFn (n:=n) id).size=n:=sI;have pD:d'.size=n:=by rw[h1,hn]
 refine⟨⟨?_,?_⟩,?_⟩
 ·have e1:d'.extract 0 (Array.ofFn (n:=n) id).size=d':=by rw[←h1];exact Array.extract_size
  rw[e1,Array.extract_size]at h3;have:=h3.map (fun i:Fin n=>i.val);refine this.trans ?_;have e2:((Array.ofFn (n:=n) id).toList).map (fun i:Fin n=>i.val)=List.range n:=by
   refine uv fun i=> ?_
   by_cases hi:i<n<;>simp[hi]
  rw[e2]
 ·rw[QiV];intro i j hi hj Mu;simp only[ep,Array.length_toList]at hi hj;have:=hs i j (nL _) Mu (by rw[hn,←pD];exact hj);rw[getElem!_pos d' j oM,getElem!_pos d' i oM]at this;unfold ltOf Rg at this;simp only[Qjl]at this;simp only[List.getElem_map,Array.getElem_toList];omega
 ·unfold ints gD;rw[lK,lK];rfl
end Go.Mor
namespace Go.Mor
open Go.RowKit
def qF{α β:Type}(R:α→β→Prop)(l:List α)(m:List β):Prop:=l.length=m.length∧∀(i:Nat) (x:α) (y:β),l[i]?=some x→m[i]?=some y→R x y
section
variable {α β : Type} {R : α → β → Prop} {l : List α} {m : List β}
theorem qF.nil:qF R [] []:=⟨rfl,fun i x y h=>by simp at h⟩
theorem qF.snoc(h:qF R l m){x:α}{y:β}(hr:R x y):qF R (l++[x]) (m++[y]):=by
 obtain⟨hl,h⟩:=h;refine⟨by simp[hl],fun i a b ha hb=> ?_⟩;rcases Qjq i l.length with h1|h1|h1
 ·rw[List.getElem?_append_left h1]at ha;rw[List.getElem?_append_left oM]at hb;exact h i a b ha hb
 ·subst h1;rw[List.getElem?_append_right (iO _),Qcu]at ha;rw[List.getElem?_append_right oM,hl,Qcu]at hb;simp at ha hb;subst ha hb;exact hr
 ·rw[List.getElem?_eq_none (by simp;omega)]at ha;cases ha
theorem qF.next{k:Nat}(h:qF R (l.take k) m){x:α}(hx:l[k]?=some x){y:β}(hr:R x y):qF R (l.take (k+1)) (m++[y]):=by
 obtain⟨hk,he⟩:=List.getElem?_eq_some_iff.1 hx;rw[kj hk,he];exact h.snoc hr
end
def rK(gl:List Bool)(k:Nat):Nat:=((gl.take k).filter (fun b=> !b)).length
def qG(gl:List Bool)(k:Nat):ar:=(List.range gl.length).map (fun i=>if i<k∧gl.getD i true=false then(rK gl i:Int)else 0)
theorem EG(gl:List Bool)(k:Nat):rK gl k≤k:=by
 unfold rK;exact zE (I4 _ _) (by simp;omega)
theorem Jh{gl:List Bool}{k:Nat}(h:gl[k]?=some false):rK gl (k+1)=rK gl k+1:=by
 obtain⟨hk,he⟩:=List.getElem?_eq_some_iff.1 h;unfold rK;rw[kj hk,uK,he];simp
theorem Ny{gl:List Bool}{k:Nat}(h:gl[k]?=some true):rK gl (k+1)=rK gl k:=by
 obtain⟨hk,he⟩:=List.getElem?_eq_some_iff.1 h;unfold rK;rw[kj hk,uK,he];simp
theorem BF(gl:List Bool)(k:Nat):(qG gl k).length=gl.length:=by simp[qG]
theorem Ge(gl:List Bool):ints (qG gl 0)=List.replicate gl.length (vI 0):=by
 unfold qG ints;simp only[rV,xD,Qcv,lK];refine uv fun i=> ?_
 by_cases hi:i<gl.length
 ·simp[hi]
 ·simp[hi]
theorem Ji{gl:List Bool}{k:Nat}(h:gl[k]?=some false):(ints (qG gl k)).set k (vI (rK gl k:Int))=ints (qG gl (k+1)):=by
 obtain⟨hk,he⟩:=List.getElem?_eq_some_iff.1 h;unfold qG ints;refine uv fun i=> ?_
 by_cases hi:i<gl.length
 ·by_cases e:k=i
  ·subst e;rw[List.getElem?_set_self (by simpa using hk)];simp[hk,List.getD,he]
  ·rw[List.getElem?_set_ne e];simp only[List.getElem?_map,List.getElem?_range hi,tl];have:(i<k∧gl.getD i true=false)↔(i<k+1∧gl.getD i true=false):=and_congr oM Qcg;simp only[this]
 ·rw[List.getElem?_eq_none (by simp;omega),List.getElem?_eq_none (by simp;omega)]
theorem Nz{gl:List Bool}{k:Nat}(h:gl[k]?=some true):qG gl k=qG gl (k+1):=by
 obtain⟨hk,he⟩:=List.getElem?_eq_some_iff.1 h;unfold qG;refine Qdc fun i _=> ?_
 have:(i<k∧gl.getD i true=false)↔(i<k+1∧gl.getD i true=false):=by
  by_cases e:i=k
  ·subst e;simp[List.getD,h]
  ·exact and_congr oM Qcg
 simp only[this]
def ve(gl:List Bool):ar:=qG gl gl.length
theorem BG{gl:List Bool}{k i:Nat}(hi:i<gl.length):(qG gl k).getD i 0=if i<k∧gl.getD i true=false then(rK gl i:Int)else 0:=by
 unfold qG;rw[List.getD_eq_getElem?_getD,List.getElem?_map,List.getElem?_range hi];rfl
theorem Jj(gl:List Bool)(k:Nat)(hl:gl.length≤1000000):0≤(ve gl).getD k 0∧(ve gl).getD k 0≤1000000:=by
 unfold ve;by_cases hk:k<gl.length
 ·have:=EG gl k;rw[BG hk];by_cases hc:k<gl.length∧gl.getD k true=false
  ·rw[eh hc];omega
  ·rw[dd hc];omega
 ·rw[List.getD_eq_getElem?_getD,List.getElem?_eq_none (by rw[BF];omega)];simp
def nh(ks:List gO):List Bool:=ks.map (fun x=>x.gone)
def toA(nl:ar)(e a:Int):Int:=if e=0∨e=1 then nl.getD a.toNat 0 else if e=3 then a else 0
def toBb(nl:ar)(e b:Int):Int:=if e=1 then nl.getD b.toNat 0 else 0
def ZG(nl:ar)(p:vb)(q:bI):Prop:=q.dst=p.dst∧∃il,jY p.from_.length (rJ nl p.from_) il∧q.args=il.map (fun i=>p.args.getD i 0)
structure iM(nl:ar)(x:gO)(y:ay):Prop where
 ah:qF (ZG nl) x.ah y.ah
 insts:y.insts.map aO.e0=x.insts
 e:y.e=x.e
 v:y.v=x.v
 a:y.a=toA nl x.e x.a
 b:y.b=toBb nl x.e x.b
def pP(ks:List gO):List gO:=ks.filter (fun x=> !x.gone)
def Yi(ks:List gO)(fs:List ay):Prop:=qF (iM (ve (nh ks))) (pP ks) fs
structure Rh(n:Int)(x:gO):Prop where
 lp:x.ah.length≤20000
 ah:∀p,p∈x.ah→0<p.from_.length∧p.from_.length≤20000∧p.args.length=p.from_.length∧∀s,s∈p.from_→0≤s∧s<n
 e0:x.e=0→0≤x.a∧x.a<n
 e1:x.e=1→(0≤x.a∧x.a<n)∧0≤x.b∧x.b<n
theorem Jk{ks:List gO}{k:Nat}{x:gO}(hx:ks[k]?=some x)(h:x.gone=false):pP (ks.take (k+1))=pP (ks.take k)++[x]:=by
 obtain⟨hk,he⟩:=List.getElem?_eq_some_iff.1 hx;unfold pP;rw[kj hk,uK,he];simp[h]
theorem NB{ks:List gO}{k:Nat}{x:gO}(hx:ks[k]?=some x)(h:x.gone=true):pP (ks.take (k+1))=pP (ks.take k):=by
 obtain⟨hk,he⟩:=List.getElem?_eq_some_iff.1 hx;unfold pP;rw[kj hk,uK,he];simp[h]
section
variable {w : World} {A : Option Addr} {c : Nat} {ad : Addr} {k : Nat} {gs : List bz} {x : bz}
theorem tW(h:(jh A c gs).holds w)(hA:A=some ad)(hx:gs[k]?=some x):w.cell? (ad.add (k*1))=some (vP (aZ x.g)):=bB (aB h) hA (by unfold jA;rw[List.getElem?_map,hx];rfl)
theorem BH(h:(bo.pk (gs.map gB)).holds w)(hx:gs[k]?=some x){r:bo}(hr:r∈gL x):r.holds w:=oE (oE h (dB.2 ⟨x,cc hx,rfl⟩):(gB x).holds w) hr
theorem ng(h:(bo.pk (gs.map gB)).holds w)(hx:gs[k]?=some x){j:Nat}{v:Value}(hj:(gV x)[j]?=some v):w.cell? (ak x.g j)=some v:=ae (BH h hx (r:= .au x.g 65 (gV x)) sI) hj
theorem NC(hx:gs[k]?=some x):(nh (gs.map bz.k))[k]?=some x.gone:=by
 unfold nh;rw[List.getElem?_map,List.getElem?_map,hx];rfl
theorem xP(ks:List gO):(nh ks).length=ks.length:=by simp[nh]
end
end Go.Mor
namespace Go.Mor
open Go.RowKit
def cI.f(p:cI):bI:=⟨p.dst,none,0,p.args⟩
def bz.f(x:bz):ay:=⟨none,0,x.ah.map cI.f,none,0,x.insts.map aO.e0,x.e,x.v,x.a,x.b⟩
section
variable {fs : List ay} {gs : List bz} {nm : ByteArray} {pa va : Int}
theorem UJ(h:gs.map bz.k=lN fs):gs.map bz.f=fs.map ay.e0:=by
 have hl:gs.length=fs.length:=by have:=dj List.length h;rwa [ep,jR]at this
 refine uv fun i=> ?_
 rw[List.getElem?_map,List.getElem?_map];by_cases hi:i<fs.length
 ·obtain⟨x,hx⟩:=bu (l:=fs) hi;obtain⟨y,hy⟩:=bu (l:=gs) (i:=i) oM;have h1:=dj (fun l:List gO=>l[i]?) h;simp only[List.getElem?_map,hy,tl,mA hx]at h1;injection h1 with h1;rw[hx,hy,tl,tl];congr 1;unfold bz.f ay.e0;have e1:y.ah.map cI.k=x.ah.map (oG (bS (af fs) (i:Int))):=dj gO.ah h1;have e2:y.insts.map aO.e0=x.insts.map aO.e0:=dj gO.insts h1;have e3:y.e=x.e:=dj gO.e h1;have e4:y.v=x.v:=dj gO.v h1;have e5:y.a=x.a:=dj gO.a h1;have e6:y.b=x.b:=dj gO.b h1;have e7:y.ah.map cI.f=x.ah.map bI.e0:=by have h2:=dj (List.map (fun p:vb=>(⟨p.dst,none,0,p.args⟩:bI))) e1;rw[lK,lK]at h2;exact h2
  rw[e2,e3,e4,e5,e6,e7]
 ·rw[List.getElem?_eq_none oM,List.getElem?_eq_none oM];rfl
theorem BI(h:gs.map bz.k=lN fs):ec fs (gs.map bz.f):=by
 unfold ec;rw[UJ h,lK];refine Qdc fun x _=> ?_
 show x.e0=x.e0.e0;unfold ay.e0;simp only[lK];rfl
end
abbrev FrE:=aX×Nat×ar
structure Wk(gs:List bz)(n:Nat)(fc:List FrE)(rl:List Bool)(ls:ar):Prop where
 len:rl.length=n
 rd:∀i:Nat,i<n→rl.getD i false=true→Rd (gs.map bz.f) (i:Int)
 Tv:∀v,v∈ls→0≤v∧v<(n:Int)∧rl.getD v.toNat false=true
 PF:ls.length≤vd rl
 closed:∀i:Nat,i<n→rl.getD i false=true→(i:Int)∈ls∨∀e,fc[i]?=some e→∀a,a∈e.2.2→0≤a→rl.getD a.toNat false=true
end Go.Mor
namespace Go.Mor
open Go.RowKit
end Go.Mor
namespace Go.Mor
end Go.Mor
namespace Go.Mor
open Go.RowKit
structure VR(n:Nat)(x:ay):Prop where
 ah:∀p,p∈x.ah→0≤p.dst∧p.dst<(n:Int)
 insts:∀p,p∈x.insts→-1≤p.dst∧p.dst<(n:Int)∧∀a,a∈p.args→0≤a∧a<(n:Int)
 fin:wo x→0≤x.v∧x.v<(n:Int)
end Go.Mor
namespace Go.Mor
open Go.RowKit
end Go.Mor
namespace Go.Mor
end Go.Mor
namespace Go.Mor
end Go.Mor
namespace Go.Mor
open Go.RowKit
theorem Jl{fs:List ay}{k:Nat}{x:ay}{p:bI}(hx:fs[k]?=some x)(hp:p∈x.ah):(p.dst,(k:Int),-1)∈bF fs:=by
 unfold bF db;rw[Qcl,xC];exact⟨(x,k),Qdt.2 hx,qB _ (dB.2 ⟨p,hp,rfl⟩)⟩
theorem BK{fs:List ay}{k j:Nat}{x:ay}{p:aO}(hx:fs[k]?=some x)(hp:x.insts[j]?=some p)(hm:aU p.op):(p.dst,(k:Int),(j:Int))∈bF fs:=by
 unfold bF db;rw[Qcl,xC];exact⟨(x,k),Qdt.2 hx,QcD _ (dB.2 ⟨(p,j),ph.2 ⟨Qdt.2 hp,by simpa using hm⟩,rfl⟩)⟩
section
variable {nm : ByteArray} {pa va : Int} {fs : List ay} {n : Nat}
theorem NH(h:j9 nm pa va fs)(kx:va=(n:Int)):∀x,x∈fs→VR n x:=by
 intro x hx;obtain⟨k,hk⟩:=en.1 hx;have Jm:=(List.getElem?_eq_some_iff.1 hk).1;obtain⟨y,hy,hr⟩:=h.reads k Jm;rw[hk]at hy;injection hy with hy;subst hy;have I6:=h.par;refine⟨fun p hp=> ?_,fun p hp=> ?_,fun hf=> ?_⟩
 ·have:=h.yc.2.1 _ (Jl hk hp);simp only at this;omega
 ·obtain⟨j,hj⟩:=en.1 hp;have ha:∀a,a∈p.args→0≤a∧a<(n:Int):=by intro a ha;obtain⟨i,hi⟩:=en.1 ha;have:=hr.insts j p hj i a hi;exact⟨this.1,by rw[←kx];exact this.2.1⟩
  by_cases hm:aU p.op
  ·have:=h.yc.2.1 _ (BK hk hj hm);simp only at this;exact⟨oM,oM,ha⟩
  ·rcases(h.yc.1 x hx p hp).1 with h1|h1
   ·exact absurd h1 hm
   ·exact⟨oM,oM,ha⟩
 ·have:=hr.fin (by unfold wo at hf;unfold pE;omega);exact⟨this.1,by rw[←kx];exact this.2.1⟩
end
end Go.Mor
namespace Go.Mor
open Go.RowKit
theorem qI{nm:cV}{pa va:Int}{fs:List ay}(h:bV nm pa va fs=0):j9 nm pa va fs∧va≤20000∧(hY fs:Int)≤20000:=by
 unfold bV at h;split at h
 ·omega
 ·split at h
  ·rename_i h1 h2;exact⟨h2,oM,oM⟩
  ·omega
end Go.Mor
namespace Go.Mor
open Go.RowKit
def gO.f(x:gO):ay:=⟨none,0,x.ah.map (fun p=>⟨p.dst,none,0,p.args⟩),none,0,x.insts,x.e,x.v,x.a,x.b⟩
structure PG(n:Int)(p:vb):Prop where
 up:p.from_.Pairwise (·<·)
 yW:∀s,s∈p.from_→0≤s∧s<n
 len:p.args.length=p.from_.length
def Jn(n:Int)(x:gO):Prop:=(x.e=0∧(0≤x.a∧x.a<n)∧x.v=0∧x.b=0)∨(x.e=1∧(0≤x.a∧x.a<n)∧(0≤x.b∧x.b<n)∧x.a≠x.b)∨(x.e=2∧x.a=0∧x.b=0)∨(x.e=3∧cN x.a∧x.v=0∧x.b=0)
theorem NK(bs:List SB)(b:Int):(bS bs b).Pairwise (·<·):=by
 unfold bS dW;rw[QiR];refine List.Pairwise.filter _ ?_;refine List.pairwise_lt_range.imp ?_;intro a b h;exact Int.ofNat_lt.2 h
section
variable {nm : ByteArray} {pa va : Int} {fs : List ay} {n : Nat}
theorem Jq(h:j9 nm pa va fs){k:Nat}(hk:k<fs.length)(h0:k≠0):0<(bS (af fs) (k:Int)).length:=by
 have hr:Reach (tg (af fs)) (k:Int):=by have h1:=mv (bs:=af fs);rw[bE]at h1;exact jO.1 (h1.1 h.all k hk)
 have:∀x:Int,Reach (tg (af fs)) x→x≠0→∃s,s∈bS (af fs) x:=by
  intro x hx cU;cases hx with
  |zero=>exact absurd rfl cU
  |step hs ht=>
   rename_i s;refine⟨s,AN.2 ⟨?_,ht⟩⟩;exact mu (by rw[bE];exact h.pos) hs
 obtain⟨s,hs⟩:=this _ hr oM;exact QiY hs
theorem EH(hv:bV nm pa va fs=0)(hN:fs.length≤1000):Re fs:=by
 obtain⟨h,_,jv⟩:=qI hv;have hp:∀(k:Nat) (x:ay),fs[k]?=some x→x.ah.length+x.insts.length≤hY fs:=by
  intro k x hx;have hm:x.ah.length+x.insts.length∈(fs.take fs.length).map (fun x=>x.ah.length+x.insts.length):=by rw[nS (iO _)];exact dB.2 ⟨x,cc hx,rfl⟩
  have:∀l:List Nat,∀a,a∈l→a≤l.sum:=by
   intro l;induction l with
   |nil=>intro a ha;cases ha
   |cons b l ih=>
    intro a ha;rcases iR.1 ha with rfl|ha
    ·simp
    ·have:=ih a ha;simp;omega
  have:=this _ _ hm;unfold hY jl;omega
 have key:∀x,x∈fs→∃k:Nat,fs[k]?=some x:=fun x hx=>en.1 hx
 refine⟨fun x hx=> ?_,fun x hx=> ?_,fun x hx p jL=> ?_,fun x hx i hi=> ?_⟩
 ·obtain⟨k,hk⟩:=key x hx;have:=hp k x hk;omega
 ·obtain⟨k,hk⟩:=key x hx;have:=hp k x hk;omega
 ·obtain⟨k,hk⟩:=key x hx;obtain⟨y,hy,hr⟩:=h.reads k (List.getElem?_eq_some_iff.1 hk).1;rw[hk]at hy;injection hy with hy;subst hy;obtain⟨j,hj⟩:=en.1 jL;rw[(hr.ah j p hj).1];have:(bS (af fs) (k:Int)).length≤(af fs).length:=fZ _ _ _;rw[bE]at this;omega
 ·have:=(h.yc.1 x hx i hi).2;omega
structure UK(n N:Nat)(x:bz):Prop where
 lp:x.ah.length≤20000
 li:x.insts.length≤20000
 gone:x.gone=false
 ah:∀p,p∈x.ah→(0≤p.dst∧p.dst<(n:Int))∧p.args.length≤20000∧(∀a,a∈p.args→0≤a∧a<(n:Int))∧0<p.from_.length∧p.from_.length≤20000∧PG (N:Int) p.k
 insts:∀i,i∈x.insts→(cP i.op→0≤i.dst∧i.dst<(n:Int))∧i.args.length≤20000∧∀a,a∈i.args→0≤a∧a<(n:Int)
 ends:Jn (N:Int) x.k
 fin:(x.e=1∨x.e=2)→-1≤x.v∧x.v<(n:Int)
theorem Jr{gs:List bz}(hv:bV nm pa va fs=0)(hN:fs.length≤1000)(kx:va=(n:Int))(hg:gs.map bz.k=lN fs):∀x,x∈gs→UK n gs.length x:=by
 obtain⟨h,_,jv⟩:=qI hv;have Gg:=EH hv hN;have Yk:=NH h kx;have hl:gs.length=fs.length:=by have:=dj List.length hg;rwa [ep,jR]at this
 intro y hy;obtain⟨k,hk⟩:=en.1 hy;have Jm:=(List.getElem?_eq_some_iff.1 hk).1;obtain⟨x,hx⟩:=bu (l:=fs) (i:=k) oM;have pj:=cc hx;have h1:=dj (fun l:List gO=>l[k]?) hg;simp only[List.getElem?_map,hk,tl,mA hx]at h1;injection h1 with h1;have e1:y.ah.map cI.k=x.ah.map (oG (bS (af fs) (k:Int))):=dj gO.ah h1;have e2:y.insts.map aO.e0=x.insts.map aO.e0:=dj gO.insts h1;have e3:y.e=x.e:=dj gO.e h1;have e4:y.v=x.v:=dj gO.v h1;have e5:y.a=x.a:=dj gO.a h1;have e6:y.b=x.b:=dj gO.b h1;have e7:y.gone=false:=dj gO.gone h1;obtain⟨z,hz,hr⟩:=h.reads k oM;rw[hx]at hz;injection hz with hz;subst hz;have Yl:=Yk x pj;have Tx:(bS (af fs) (k:Int)).length≤fs.length:=by have:(bS (af fs) (k:Int)).length≤(af fs).length:=fZ _ _ _;rwa [bE]at this
 refine⟨by rw[Bs e1];exact Gg.lp x pj,by rw[eM e2];exact Gg.li x pj,e7,fun p hp=> ?_,fun i hi=> ?_,?_,fun hf=> ?_⟩
 ·obtain⟨j,hj⟩:=en.1 hp;have h2:=dj (fun l:List vb=>l[j]?) e1;simp only[List.getElem?_map,hj,tl]at h2;obtain⟨q,hq⟩:∃q,x.ah[j]?=some q:=bu (by rw[←Bs e1];exact(List.getElem?_eq_some_iff.1 hj).1);rw[hq,tl]at h2;injection h2 with h2;have d1:p.dst=q.dst:=dj vb.dst h2;have d2:p.from_=bS (af fs) (k:Int):=dj vb.from_ h2;have d3:p.args=q.args:=dj vb.args h2;obtain⟨h3,h4⟩:=hr.ah j q hq;have EI:k≠0:=by rintro rfl;have:=h.ah x hx;have:=(List.getElem?_eq_some_iff.1 hq).1;omega
  have Mj:=Jq h (k:=k) oM EI;refine⟨by rw[d1];exact Yl.ah q (cc hq),by rw[d3,h3];omega,fun a ha=> ?_,by rw[d2];exact Mj,by rw[d2];omega,⟨by show p.from_.Pairwise _;rw[d2];exact NK _ _,fun s hs=> ?_,by show p.args.length=p.from_.length;rw[d3,d2,h3]⟩⟩
  ·rw[d3]at ha;obtain⟨i,hi⟩:=en.1 ha;obtain⟨s,hs⟩:∃s,(bS (af fs) (k:Int))[i]?=some s:=bu (by rw[←h3];exact(List.getElem?_eq_some_iff.1 hi).1);have ht:=h4 i a s hi hs;exact⟨ht.1,by rw[←kx];exact ht.2.1⟩
  ·have QJ:s∈p.from_:=hs;rw[d2]at QJ;have:=AK QJ;rw[bE]at this;rw[hl];exact this
 ·obtain⟨j,hj⟩:=en.1 hi;have h2:=dj (fun l:List aO=>l[j]?) e2;simp only[List.getElem?_map,hj,tl]at h2;obtain⟨q,hq⟩:∃q,x.insts[j]?=some q:=bu (by rw[←eM e2];exact(List.getElem?_eq_some_iff.1 hj).1);rw[hq,tl]at h2;injection h2 with h2;have d1:i.op=q.op:=show i.e0.op=q.e0.op by rw[h2]
  have d2:i.dst=q.dst:=show i.e0.dst=q.e0.dst by rw[h2]
  have d3:i.args=q.args:=show i.e0.args=q.e0.args by rw[h2]
  have jE:=cc hq;obtain⟨h5,h6,h7⟩:=Yl.insts q jE;refine⟨fun hp=> ?_,by rw[d3];exact Gg.ai x pj q jE,by rw[d3];exact h7⟩;rw[d1]at hp;have:=h.yc.2.1 _ (BK hx hq (iQ hp));have ZJ:=h.par;simp only at this;rw[d2];omega
 ·have:=h.ends x pj;unfold ix at this;unfold Jn;show(y.e=0∧(0≤y.a∧y.a<_)∧y.v=0∧y.b=0)∨(y.e=1∧(0≤y.a∧y.a<_)∧(0≤y.b∧y.b<_)∧y.a≠y.b)∨(y.e=2∧y.a=0∧y.b=0)∨(y.e=3∧cN y.a∧y.v=0∧y.b=0);rw[e3,e4,e5,e6,hl];exact this
 ·rw[e3]at hf;rw[e4];by_cases ZK:pE x
  ·have ht:=hr.fin ZK;have:=ht.1;have:=ht.2.1;omega
  ·unfold pE at ZK;omega
end
end Go.Mor
namespace Go.Mor
open Go.RowKit
theorem D7{α β:Type}{f:α→β}{g:α→β}{d l:List α}{k:Nat}{x y:α}(h:d.map f=(l.take k).map g)(hx:l[k]?=some x)(hy:f y=g x):(d++[y]).map f=(l.take (k+1)).map g:=by
 obtain⟨hk,he⟩:=List.getElem?_eq_some_iff.1 hx;rw[lh,h,kj hk,lh,he];simp[hy]
theorem Jt{hd gs:List bz}(h:hd.map (·.g)=gs.map (·.g))(A:aX)(c:Nat):jh A c hd=jh A c gs:=by
 have hl:hd.length=gs.length:=by have:=dj List.length h;simpa using this
 have e:∀l:List bz,jA l=(l.map (·.g)).map (fun g=>Value.pointer (some (aZ g))):=fun l=>by unfold jA;rw[lK];rfl
 unfold jh;rw[hl,e,e,h]
theorem Qef(n:Nat):bD (List.replicate n false)=List.replicate n (vB false):=by simp[bD]
theorem QfM{α:Type}{l:List α}(h:0<l.length):∃m x,l=m++[x]:=by
 refine⟨l.dropLast,l.getLast (by intro e;rw[e]at h;simp at h),?_⟩;exact(List.dropLast_concat_getLast _).symm
theorem Gj{w:World}{ad:Addr}{l:ar}{i:Nat}{v:Int}(h:(bo.rd (some ad) (ints l)).holds w)(hi:l[i]?=some v):w.cell? (ad.add ((i:Int).toNat*1))=some (vI v):=by
 rw[ki];exact fR h rfl hi
theorem Y9(l:ar)(v:Int):(ints (l++[v])).take l.length=ints l:=by
 unfold ints;rw[lh,List.take_append_of_le_length sI,nS sI]
end Go.Mor
namespace Go.Mor
open Go.RowKit
def vl(bs:List SB)(pa va:Int)(ds:rn)(v b q:Int):Bool:=decide (0≤v)&&decide (v<va)&&(decide (v<pa)||match findD ds v with
 |some p=>if p.1=b then decide (p.2<q)else Cr (fS bs) p.1.toNat b.toNat
 |none=>false)
theorem vm{bs:List SB}{pa va:Int}{ds:rn}{v b q:Int}(h:vl bs pa va ds v b q=true):bX (gz bs) pa va ds v b q:=by
 unfold vl at h;simp only[ej,pQ,dF]at h;obtain⟨⟨h1,h2⟩,h3⟩:=h;refine⟨h1,h2,h3.imp id fun h3=> ?_⟩;split at h3
 ·rename_i p hp;refine⟨p,hp,?_⟩;split at h3
  ·rename_i e;exact .inl ⟨e,by simpa using h3⟩
  ·rename_i e;exact .inr ⟨e,h3⟩
 ·cases h3
def Du(pa va:Int)(fs:List ay)(k:Nat)(x:ay):Bool:=(x.ah.all fun p=>p.args.length==(bS (af fs) (k:Int)).length&&(p.args.zip (bS (af fs) (k:Int))).all fun u=>vl (af fs) pa va (bF fs) u.1 u.2 20000)&&(x.insts.zipIdx.all fun p=>p.1.args.all fun a=>vl (af fs) pa va (bF fs) a (k:Int) (p.2:Int))&&((!decide (x.e=1∨(x.e=2∧x.v≠-1)))||vl (af fs) pa va (bF fs) x.v (k:Int) 20000)
theorem Gk{pa va:Int}{fs:List ay}{k:Nat}{x:ay}(hx:fs[k]?=some x)(h:Du pa va fs k x=true):eL (gz (af fs)) (fun _=>20000) pE pa va fs k:=by
 unfold Du at h;simp only[ej]at h;obtain⟨⟨h1,h2⟩,h3⟩:=h;refine⟨x,hx,fun j p hp=> ?_,fun j p hp i a ha=> ?_,fun hf=> ?_⟩
 ·have:=xw.1 h1 p (cc hp);simp only[ej,bl]at this;refine⟨this.1,fun i a s ha hs=> ?_⟩;have hz:(a,s)∈p.args.zip (bS (af fs) (k:Int)):=by refine cc (i:=i) ?_;rw[List.getElem?_zip_eq_some];exact⟨ha,hs⟩
  exact vm (xw.1 this.2 _ hz)
 ·have:=xw.1 h2 (p,j) (Qdt.2 hp);exact vm (xw.1 this a (cc ha))
 ·rw[pQ]at h3;rcases h3 with h3|h3
  ·simp only[Qdx,Qjl]at h3;exact absurd hf h3
  ·exact vm h3
def Ju(nm:cV)(pa va:Int)(fs:List ay):Bool:=decide (bt nm)&&decide (0≤pa∧pa≤16∧pa≤va)&&decide (0<fs.length)&&(match fs[0]? with|some x=>decide (x.ah.length=0)|none=>true)&&decide ((bS (af fs) 0).length=0)&&decide ((aF (af fs)).length=fs.length)&&(fs.all fun x=>decide (ix (fs.length:Int) x))&&(fs.all fun x=>x.insts.all fun p=>decide (bJ p))&&((bF fs).all fun d=>decide (pa≤d.1)&&decide (d.1<va))&&decide (((bF fs).map (·.1)).Nodup)&&(fs.zipIdx.all fun x=>Du pa va fs x.2 x.1)
theorem NN{nm:cV}{pa va:Int}{fs:List ay}(h:Ju nm pa va fs=true):j9 nm pa va fs:=by
 unfold Ju at h;simp only[ej,dF,xw]at h;obtain⟨⟨⟨⟨⟨⟨⟨⟨⟨⟨h1,h2⟩,h3⟩,h4⟩,h5⟩,h6⟩,h7⟩,h8⟩,h9⟩,QV⟩,Uq⟩:=h;refine⟨h1,h2,h3,fun x hx=> ?_,h5,h6,h7,⟨h8,h9,QV⟩,fun k hk=> ?_⟩
 ·rw[hx]at h4;simpa using h4
 ·obtain⟨x,hx⟩:=bu hk;exact(xy h3 h6).eL (fun _ _ h=>h) (Gk hx (Uq (x,k) (Qdt.2 hx)))
theorem Jv{nm:cV}{pa va:Int}{fs:List ay}(h:(decide ((hY fs:Int)>20000∨va>20000)=false)∧Ju nm pa va fs=true):bV nm pa va fs=0:=(y6 (by simpa using h.1) (NN h.2)).symm
end Go.Mor
namespace Go.Mor
open Go.RowKit
theorem xQ{p:bI}:p.e0.Ok↔p.Ok:=⟨fun h=>⟨h.dst,h.len,h.args⟩,fun h=>⟨h.dst,h.len,h.args⟩⟩
theorem xR{p:aO}:p.e0.Ok↔p.Ok:=⟨fun h=>⟨h.op,h.dst,h.n,h.name,h.len,h.args⟩,fun h=>⟨h.op,h.dst,h.n,h.name,h.len,h.args⟩⟩
theorem xS{x:ay}:x.e0.Ok↔x.Ok:=by
 constructor
 ·intro h;have h1:=h.lp;have h2:=h.li;refine⟨?_,fun p hp=>xQ.1 (h.ah p.e0 (dB.2 ⟨p,hp,rfl⟩)),?_,fun p hp=>xR.1 (h.insts p.e0 (dB.2 ⟨p,hp,rfl⟩)),h.e,h.v,h.a,h.b⟩
  ·have:gY (x.ah.map bI.e0).length:=h1;rwa [ep]at this
  ·have:gY (x.insts.map aO.e0).length:=h2;rwa [ep]at this
 ·intro h;refine⟨?_,fun p hp=> ?_,?_,fun p hp=> ?_,h.e,h.v,h.a,h.b⟩
  ·show gY (x.ah.map bI.e0).length;rw[ep];exact h.lp
  ·obtain⟨q,hq,rfl⟩:=dB.1 hp;exact xQ.2 (h.ah q hq)
  ·show gY (x.insts.map aO.e0).length;rw[ep];exact h.li
  ·obtain⟨q,hq,rfl⟩:=dB.1 hp;exact xR.2 (h.insts q hq)
theorem pL.alike{fs gs:List ay}(h:ec fs gs)(ho:pL fs):pL gs:=by
 intro y hy;have:y.e0∈fs.map ay.e0:=by rw[show fs.map ay.e0=gs.map ay.e0 from h];exact dB.2 ⟨y,hy,rfl⟩
 obtain⟨x,hx,e⟩:=dB.1 this;exact xS.1 (e▸xS.2 (ho x hx))
theorem jS{fs gs:List ay}(h:ec fs gs):hY fs=hY gs:=by rw[←rF fs,←rF gs,h]
def lP(va:Int)(fs:List ay):Prop:=gZ va fs∨1500<hY fs
instance (va : Int) (fs : List ay) : Decidable (lP va fs) := by unfold lP; infer_instance
theorem Gl{va:Int}{fs:List ay}(h:¬lP va fs):fs.length≤60∧hY fs≤1500:=by
 unfold lP at h;exact⟨uO (fun e=>h (.inl e)),oM⟩
theorem Rl{w:World}{A9:aX}{e7 e9 n7 n9 c7 c9:Nat}{x:ay}(hp:x.ah=[])(h9:(bo.row e9 6 A9 n9 c9 (xV x)).holds w)(h7:(bo.row e7 5 x.iA n7 c7 (zL x.insts)).holds w)(hi:∀i,i∈x.insts→(bo.rd i.A (ints i.args)).holds w):RO ba w (.fn A9 [x]):=by
 refine RO.of (fun r hr=> ?_);rcases iR.1 hr with rfl|hr
 ·have h1:(bo.rd A9 ([x].flatMap xV)).holds w:=by rw[show[x].flatMap xV=xV x by simp];exact aB h9
  have:=jt (f:=xV) sw oM h1;unfold bo.blocks;rw[show(af [x]).map SB.cells=[x].map xV by unfold af;rw[lK];rfl];exact this
 ·obtain⟨y,hy,ZN⟩:=xC.1 hr;rw[jT]at hy;subst hy;unfold ay.parts at ZN;rw[hp]at ZN;rcases iR.1 ZN with rfl|hr3
  ·intro i cs h;simp at h
  rcases iR.1 hr3 with rfl|hr4
  ·exact jt gI oM (aB h7)
  rcases gh.1 hr4 with ZO|ZO
  ·simp at ZO
  ·obtain⟨p,hp,rfl⟩:=dB.1 ZO;exact hi p hp
theorem NO{w:World}{A:aX}:(bo.rd A (ints [])).holds w:=fun i v hi=>by simp[ints]at hi
def PH:cV:=⟨#[102]⟩
end Go.Mor
namespace Go.Mor
open Go.RowKit
section
variable {T : Int → List Int}
theorem EL{U:Int→ar}(h:∀x t,t∈U x→t∈T x){x:Int}(hr:Reach U x):Reach T x:=by
 induction hr with
 |zero=>exact .zero
 |step _ ht ih=>exact .step ih (h _ _ ht)
end
section
variable {fs : List ay} {nm : ByteArray} {pa va : Int}
abbrev Av(pa va:Int)(fs:List ay)(v b q:Int):Prop:=bX (Dm (tg (af fs))) pa va (bF fs) v b q
theorem Rn(h:j9 nm pa va fs){b:Int}(h0:0≤b)(h1:b<fs.length):Reach (tg (af fs)) b:=by
 have h2:=mv (bs:=af fs);rw[bE]at h2;have:=jO.1 (h2.1 h.all b.toNat oM);rwa [Qch h0]at this
end
end Go.Mor
namespace Go.Mor
open Go.RowKit
def Pb(x:ay):Prop:=x.e=1∨(x.e=2∧0≤x.v)
instance (x : ay) : Decidable (Pb x) := by unfold Pb; infer_instance
end Go.Mor
namespace Go.Mor
open Go.RowKit
section
variable {P : Program} {t : TypeId} {f0 f1 f2 f3 f4 : Field}
abbrev K5:=Int×Int×cV×Int×Int
end
end Go.Mor
namespace Go.Mor
open Go.RowKit
abbrev yu:=K5
section
variable {fs : List ay} {nm : ByteArray} {pa va : Int} {σ : Int → Int} {k j : Nat} {x : ay} {vg : List (yu × Int)}
theorem uh{α β:Type}(f:β→α→β)(a:β){l:List α}{j:Nat}{y:α}(hy:l[j]?=some y):(l.take (j+1)).foldl f a=f ((l.take j).foldl f a) y:=by
 obtain⟨hj,he⟩:=List.getElem?_eq_some_iff.1 hy;rw[kj hj,QiT,he];rfl
end
end Go.Mor
namespace Go.Mor
open Go.RowKit
theorem BW{α:Type}{l:List α}{j:Nat}{x:α}(h:l[j]?=some x):l.drop j=x::l.drop (j+1):=by
 obtain⟨hk,he⟩:=List.getElem?_eq_some_iff.1 h;rw[QjH hk,he]
end Go.Mor
namespace Go.Mor
open Go.RowKit
def Li(x:bz):Prop:=x.e=1∨(x.e=2∧0≤x.v)
instance (x : bz) : Decidable (Li x) := by unfold Li; infer_instance
end Go.Mor
namespace Go.Mor
open Go.RowKit
section
variable {fs gs : List ay} {x : ay} {k j : Nat}
theorem rN(h:ec fs gs)(hx:fs[k]?=some x):∃A1 c1 ps A2 c2 is,gs[k]?=some ⟨A1,c1,ps,A2,c2,is,x.e,x.v,x.a,x.b⟩∧ps.map bI.e0=x.ah.map bI.e0∧is.map aO.e0=x.insts.map aO.e0:=by
 obtain⟨y,hy,e⟩:=oB h hx;have e1:x.e=y.e:=I3 e;have e2:x.v=y.v:=F0 e;have e3:x.a=y.a:=show x.e0.a=y.e0.a by rw[e]
 have e4:x.b=y.b:=show x.e0.b=y.e0.b by rw[e]
 have e5:=rC e;have e6:=rD e;obtain⟨A1,c1,ps,A2,c2,is,ye,yv,ya,yb⟩:=y;simp only at e1 e2 e3 e4 e5 e6;subst e1;subst e2;subst e3;subst e4;exact⟨A1,c1,ps,A2,c2,is,hy,e5.symm,e6.symm⟩
theorem BC{ps qs:List aO}(h:qs.map aO.e0=ps.map aO.e0){p:aO}(hp:ps[j]?=some p):∃A c,qs[j]?=some ⟨p.op,p.dst,p.n,p.name,A,c,p.args⟩:=by
 have h1:=dj (fun l:List aO=>l[j]?) h;simp only[List.getElem?_map,hp,tl]at h1;obtain⟨q,hq⟩:=bu (l:=qs) (i:=j) (by rw[eM h];exact(List.getElem?_eq_some_iff.1 hp).1);rw[hq,tl]at h1;injection h1 with h1;obtain⟨o,d,n,nm,A,c,a⟩:=q;unfold aO.e0 at h1;simp only[aO.mk.injEq,Jf]at h1;obtain⟨rfl,rfl,rfl,rfl,rfl⟩:=h1;exact⟨A,c,hq⟩
end
end Go.Mor
namespace Go.Mor
open Go.RowKit
end Go.Mor
namespace Go.Mor
open Go.RowKit
end Go.Mor
namespace Go.Mor
open Go.RowKit
end Go.Mor
namespace Go.Mor
open Go.RowKit
end Go.Mor
namespace Go.Mor
open Go.RowKit
theorem Qeg(gl:List Bool){a b:Nat}(h:a≤b):rK gl a≤rK gl b:=by
 unfold rK;have e:gl.take a=(gl.take b).take a:=by rw[List.take_take,Nat.min_eq_left h]
 rw[e];exact((Qi1 a (gl.take b)).filter _).length_le
theorem QbK(b:Bool)(gl:List Bool)(i:Nat):rK (b::gl) (i+1)=(if b then 0 else 1)+rK gl i:=by
 unfold rK;cases b<;>simp<;>omega
abbrev fK(ks:List gO):List ay:=ks.map gO.f
abbrev tK(ks:List gO):Int→ar:=tg (af (fK ks))
def F2(ks:List gO)(t:Int):Int:=(ve (nh ks)).getD t.toNat 0
def mB(ks:List gO)(t:Int):Prop:=∃(i:Nat) (x:gO),t=(i:Int)∧ks[i]?=some x∧x.gone=false
section
variable {ks : List gO} {i j : Nat} {x y : gO}
theorem QcY(ks:List gO)(n:Nat):(pP (ks.take n)).length=rK (nh ks) n:=by
 unfold rK pP nh;rw[←List.map_take,QiS,ep];rfl
theorem QfN(hx:ks[i]?=some x)(hg:x.gone=false):(pP ks)[rK (nh ks) i]?=some x:=by
 have e:pP ks=pP (ks.take i)++(x::pP (ks.drop (i+1))):=by
  conv=>lhs;rw[←Qgu i ks,BW hx]
  unfold pP;rw[uK,xH,hg];rfl
 rw[e,List.getElem?_append_right (by rw[QcY];exact iO _),QcY,Qcu];rfl
theorem TA:∀{ks:List gO} {j:Nat},(pP ks)[j]?=some x→∃i,ks[i]?=some x∧x.gone=false∧rK (nh ks) i=j
 |[],j,h=>by simp[pP]at h
 |y::ks,j,h=>by
  cases hg:y.gone with
  |true=>
   have e:pP (y::ks)=pP ks:=by unfold pP;rw[xH,hg];rfl
   rw[e]at h;obtain⟨i,h1,h2,h3⟩:=TA h;refine⟨i+1,h1,h2,?_⟩;show rK (y.gone::nh ks) (i+1)=j;rw[QbK,hg,h3];simp
  |false=>
   have e:pP (y::ks)=y::pP ks:=by unfold pP;rw[xH,hg];rfl
   rw[e]at h;cases j with
   |zero=>
    injection h with h;subst h;exact⟨0,rfl,hg,rfl⟩
   |succ j=>
    obtain⟨i,h1,h2,h3⟩:=TA (ks:=ks) (j:=j) h;refine⟨i+1,h1,h2,?_⟩;show rK (y.gone::nh ks) (i+1)=j+1;rw[QbK,hg,h3];simp;omega
theorem QcZ(hx:ks[i]?=some x):(nh ks)[i]?=some x.gone:=by
 unfold nh;rw[List.getElem?_map,hx];rfl
theorem QdY(hx:ks[i]?=some x)(hg:x.gone=false)(h:i<j):rK (nh ks) i<rK (nh ks) j:=by
 have h1:=Jh (by rw[QcZ hx,hg]:(nh ks)[i]?=some false);have h2:=Qeg (nh ks) (show i+1≤j by omega);omega
theorem K2(hx:ks[i]?=some x)(hg:x.gone=false):F2 ks (i:Int)=(rK (nh ks) i:Int):=by
 have hl:i<(nh ks).length:=by rw[xP];exact(List.getElem?_eq_some_iff.1 hx).1
 unfold F2 ve;rw[ki,BG hl,eh ⟨hl,by rw[List.getD_eq_getElem?_getD,QcZ hx,hg];rfl⟩]
theorem mB.mk'(hx:ks[i]?=some x)(hg:x.gone=false):mB ks (i:Int):=⟨i,x,rfl,hx,hg⟩
theorem D9{a b:Int}(ha:mB ks a)(hb:mB ks b)(h:F2 ks a=F2 ks b):a=b:=by
 obtain⟨i,x,rfl,hx,uC⟩:=ha;obtain⟨j,y,rfl,hy,hgy⟩:=hb;rw[K2 hx uC,K2 hy hgy]at h;rcases Qjq i j with h1|h1|h1
 ·have:=QdY hx uC h1;omega
 ·rw[h1]
 ·have:=QdY hy hgy h1;omega
theorem XP(h:mB ks 0):F2 ks 0=0:=by
 obtain⟨i,x,h0,hx,hg⟩:=h;have:i=0:=oM;subst this;have:=K2 hx hg;rw[show((0:Nat):Int)=0 from rfl]at this;rw[this];simp[rK]
end
structure Pf(ks:List gO):Prop where
 zero:mB ks 0
 ends:∀x,x∈ks→x.gone=false→Jn (ks.length:Int) x
 gone:∀x,x∈ks→x.gone=true→x.ah=[]∧x.insts=[]∧x.e=2∧x.v= -1
 vj:∀s t:Int,t∈tK ks s→mB ks t
theorem QeC(ks:List gO):(af (fK ks)).length=ks.length:=by rw[bE,ep]
theorem K3{ks:List gO}{i:Nat}{x:gO}(hx:ks[i]?=some x):(fK ks)[i]?=some x.f:=by rw[List.getElem?_map,hx];rfl
theorem NL{ks:List gO}{i:Nat}{y:ay}(hx:(fK ks)[i]?=some y):∃x,ks[i]?=some x∧y=x.f:=by
 rw[List.getElem?_map,Qcz]at hx;obtain⟨x,hx,rfl⟩:=hx;exact⟨x,hx,rfl⟩
theorem Xj{ks:List gO}{i:Nat}{x:gO}(hx:ks[i]?=some x):tK ks (i:Int)=zH ks.length x.f.sb:=by
 show tg (af (fK ks)) (i:Int)=_;rw[wW oM (by rw[ki];exact gv (K3 hx)),QeC]
theorem ZC{ks:List gO}{s t:Int}(h:t∈tK ks s):∃(i:Nat) (x:gO),s=(i:Int)∧ks[i]?=some x:=by
 have hr:0≤s∧s<(ks.length:Int):=by apply QjE;intro hc;have:tK ks s=[]:=uI (by rw[QeC];omega);rw[this]at h;cases h
 obtain⟨x,hx⟩:=bu (l:=ks) (i:=s.toNat) oM;exact⟨s.toNat,x,oM,hx⟩
theorem NM{n:Nat}{t:Int}(h0:0≤t)(h1:t<(n:Int)):gU n t=true:=by unfold gU;simp[h0,h1]
def wL(x:gO):ar:=if x.e=0 then[x.a]else if x.e=1 then[x.a,x.b]else[]
theorem Qc0{n:Nat}{x:gO}(h:Jn (n:Int) x):zH n x.f.sb=wL x:=by
 show(if x.e=0 then[x.a]else if x.e=1 then(if x.a=x.b then[x.a]else[x.a,x.b])else[]).filter (gU n)=_;unfold wL;rcases h with⟨e,⟨h1,h2⟩,_⟩|⟨e,⟨h1,h2⟩,⟨h3,h4⟩,h5⟩|⟨e,_⟩|⟨e,_⟩
 ·rw[eh e,eh e];simp[NM h1 h2]
 ·rw[dd oM,eh e,dd h5,dd oM,eh e];simp[NM h1 h2,NM h3 h4]
 ·rw[dd oM,dd oM,dd oM,dd oM];rfl
 ·rw[dd oM,dd oM,dd oM,dd oM];rfl
theorem Qd{n:Nat}{x:gO}(h:x.e=2):zH n x.f.sb=[]:=by
 show(if x.e=0 then[x.a]else if x.e=1 then(if x.a=x.b then[x.a]else[x.a,x.b])else[]).filter (gU n)=_;rw[dd oM,dd oM];rfl
theorem Pf.at_{ks:List gO}(hc:Pf ks){i:Nat}{x:gO}(hx:ks[i]?=some x):tK ks (i:Int)=wL x:=by
 rw[Xj hx];cases hg:x.gone with
 |true=>
  have h:=(hc.gone x (cc hx) hg).2.2.1;rw[Qd h];unfold wL;rw[dd oM,dd oM]
 |false=>exact Qc0 (hc.ends x (cc hx) hg)
theorem Pf.src{ks:List gO}(hc:Pf ks){s t:Int}(h:t∈tK ks s):mB ks s:=by
 obtain⟨i,x,rfl,hx⟩:=ZC h;cases hg:x.gone with
 |false=>exact .mk' hx hg
 |true=>
  have h2:=(hc.gone x (cc hx) hg).2.2.1;rw[Xj hx,Qd h2]at h;cases h
section
variable {ks : List gO} {fs : List ay} {x : gO} {y : ay}
theorem Qc1(ht:Yi ks fs){i:Nat}{x:gO}(hx:ks[i]?=some x)(hg:x.gone=false):∃y,fs[rK (nh ks) i]?=some y∧iM (ve (nh ks)) x y:=by
 have h1:=QfN hx hg;obtain⟨y,hy⟩:=bu (l:=fs) (i:=rK (nh ks) i) (by rw[←ht.1];exact(List.getElem?_eq_some_iff.1 h1).1);exact⟨y,hy,ht.2 _ _ _ h1 hy⟩
theorem BJ(ht:Yi ks fs){j:Nat}{y:ay}(hy:fs[j]?=some y):∃i x,ks[i]?=some x∧x.gone=false∧rK (nh ks) i=j∧iM (ve (nh ks)) x y:=by
 obtain⟨x,hx⟩:=bu (l:=pP ks) (i:=j) (by rw[ht.1];exact(List.getElem?_eq_some_iff.1 hy).1);obtain⟨i,h1,h2,h3⟩:=TA hx;exact⟨i,x,h1,h2,h3,ht.2 _ _ _ hx hy⟩
theorem Pg(ht:Yi ks fs){t:Int}(h:mB ks t):0≤F2 ks t∧F2 ks t<(fs.length:Int):=by
 obtain⟨i,x,rfl,hx,hg⟩:=h;obtain⟨y,hy,_⟩:=Qc1 ht hx hg;have:=(List.getElem?_eq_some_iff.1 hy).1;rw[K2 hx hg];omega
theorem Qc3(hc:Pf ks)(ht:Yi ks fs){i:Int}(hi:mB ks i):tg (af fs) (F2 ks i)=(tK ks i).map (F2 ks):=by
 obtain⟨i,x,rfl,hx,hg⟩:=hi;obtain⟨y,hy,hb⟩:=Qc1 ht hx hg;have hL:∀t,t∈tK ks (i:Int)→mB ks t:=fun t h=>hc.vj _ _ h
 rw[hc.at_ hx]at hL⊢;rw[K2 hx hg,wW oM (by rw[ki];exact gv hy),bE];show(if y.e=0 then[y.a]else if y.e=1 then(if y.a=y.b then[y.a]else[y.a,y.b])else[]).filter (gU fs.length)=_;rw[hb.e,hb.a,hb.b];unfold wL at hL⊢;rcases hc.ends x (cc hx) hg with⟨e,⟨h1,h2⟩,_⟩|⟨e,⟨h1,h2⟩,⟨h3,h4⟩,h5⟩|⟨e,_⟩|⟨e,_⟩
 ·rw[eh e]at hL;have ha:=Pg ht (hL x.a sI);have ea:toA (ve (nh ks)) x.e x.a=F2 ks x.a:=by unfold toA;rw[eh (Or.inl e)];rfl
  rw[eh e,eh e,ea];have i1:gU fs.length (F2 ks x.a)=true:=NM ha.1 ha.2;rw[xH,i1];rfl
 ·rw[dd oM,eh e]at hL;have ea:toA (ve (nh ks)) x.e x.a=F2 ks x.a:=by unfold toA;rw[eh (Or.inr e)];rfl
  have eb:toBb (ve (nh ks)) x.e x.b=F2 ks x.b:=by unfold toBb;rw[eh e];rfl
  have la:=hL x.a sI;have lb:=hL x.b sI;have ha:=Pg ht la;have X2:=Pg ht lb;have i1:gU fs.length (F2 ks x.a)=true:=NM ha.1 ha.2;have i2:gU fs.length (F2 ks x.b)=true:=NM X2.1 X2.2;have cU:F2 ks x.a≠F2 ks x.b:=fun e=>h5 (D9 la lb e)
  have e0:¬x.e=0:=oM;rw[ea,eb,dd e0,eh e,dd cU,dd e0,eh e,xH,i1,eh rfl,xH,i2];rfl
 ·have e0:¬x.e=0:=oM;have e1:¬x.e=1:=oM;rw[dd e0,dd e1,dd e0,dd e1];rfl
 ·have e0:¬x.e=0:=oM;have e1:¬x.e=1:=oM;rw[dd e0,dd e1,dd e0,dd e1];rfl
theorem Qc5{U U':Int→ar}(h0:mB ks 0)(hU:∀i,mB ks i→U' (F2 ks i)=(U i).map (F2 ks))(hL:∀i t,t∈U i→mB ks t){i:Int}(h:Reach U i):Reach U' (F2 ks i)∧mB ks i:=by
 induction h with
 |zero=>exact⟨by rw[XP h0];exact .zero,h0⟩
 |step _ ht ih=>exact⟨.step ih.1 (by rw[hU _ ih.2];exact dB.2 ⟨_,ht,rfl⟩),hL _ _ ht⟩
theorem QeD{U U':Int→ar}(h0:mB ks 0)(hU:∀i,mB ks i→U' (F2 ks i)=(U i).map (F2 ks))(hL:∀i t,t∈U i→mB ks t){j:Int}(h:Reach U' j):∃i,mB ks i∧Reach U i∧F2 ks i=j:=by
 induction h with
 |zero=>exact⟨0,h0,.zero,XP h0⟩
 |step _ ht ih=>
  obtain⟨i,h1,h2,rfl⟩:=ih;rw[hU _ h1]at ht;obtain⟨t,h3,rfl⟩:=dB.1 ht;exact⟨t,hL _ _ h3,.step h2 h3,rfl⟩
theorem QeE(hc:Pf ks)(ht:Yi ks fs){a:Int}(ha:mB ks a){i:Int}(hi:mB ks i):Cq (tg (af fs)) (F2 ks a) (F2 ks i)=(Cq (tK ks) a i).map (F2 ks):=by
 unfold Cq;rw[Qc3 hc ht hi,QiS];congr 1;refine QdG fun t h=> ?_
 have hl:=hc.vj _ _ h;show(!(F2 ks t==F2 ks a))=!(t==a);by_cases e:t=a
 ·rw[e,beq_self_eq_true,beq_self_eq_true]
 ·have:F2 ks t≠F2 ks a:=fun h=>e (D9 hl ha h)
  rw[beq_false_of_ne this,beq_false_of_ne e]
theorem Qhn(hc:Pf ks)(ht:Yi ks fs){a b:Int}(ha:mB ks a)(hb:mB ks b):Dm (tg (af fs)) (F2 ks a) (F2 ks b)↔Dm (tK ks) a b:=by
 have hL:∀i t:Int,t∈Cq (tK ks) a i→mB ks t:=fun i t h=>hc.vj _ _ (im.1 h).1
 have hz:=XP hc.zero;have e0:F2 ks a≠0↔a≠0:=by refine not_congr ⟨fun h=>D9 ha hc.zero (h.trans hz.symm),fun h=>by rw[h];exact hz⟩
 unfold Dm;refine not_congr (and_congr e0 ⟨fun h=> ?_,fun h=>(Qc5 hc.zero (fun i hi=>QeE hc ht ha hi) hL h).1⟩);obtain⟨i,h1,h2,h3⟩:=QeD hc.zero (fun i hi=>QeE hc ht ha hi) hL h;rwa [D9 h1 hb h3]at h2
theorem QeF(hb:iM (ve (nh ks)) x y){v:Int}:(∃p,p∈y.ah∧p.dst=v)↔∃p,p∈x.ah∧p.dst=v:=by
 obtain⟨hl,hp⟩:=hb.ah;constructor
 ·rintro⟨q,hq,rfl⟩;obtain⟨j,hj⟩:=en.1 hq;obtain⟨p,ZI⟩:=bu (l:=x.ah) (i:=j) (by rw[hl];exact(List.getElem?_eq_some_iff.1 hj).1);exact⟨p,cc ZI,(hp j p q ZI hj).1.symm⟩
 ·rintro⟨p,jL,rfl⟩;obtain⟨j,hj⟩:=en.1 jL;obtain⟨q,jo⟩:=bu (l:=y.ah) (i:=j) (by rw[←hl];exact(List.getElem?_eq_some_iff.1 hj).1);exact⟨q,cc jo,(hp j p q hj jo).1⟩
theorem QeI(hb:iM (ve (nh ks)) x y){j:Nat}{i:aO}(hi:y.insts[j]?=some i):x.insts[j]?=some i.e0:=by
 rw[←hb.insts,List.getElem?_map,hi];rfl
theorem QfO(hb:iM (ve (nh ks)) x y){j:Nat}{i:aO}(hi:x.insts[j]?=some i):∃i',y.insts[j]?=some i'∧i'.e0=i:=by
 rw[←hb.insts,List.getElem?_map,Qcz]at hi;exact hi
theorem QdZ(ht:Yi ks fs){v c m:Int}:(v,c,m)∈bF fs↔∃b,mB ks b∧F2 ks b=c∧(v,b,m)∈bF (fK ks):=by
 rw[sq];constructor
 ·rintro⟨k,y,hy,rfl,h⟩;obtain⟨i,x,hx,hg,YO,hb⟩:=BJ ht hy;refine⟨i,.mk' hx hg,by rw[K2 hx hg,YO],sq.2 ⟨i,x.f,K3 hx,rfl,?_⟩⟩;rcases h with⟨h1,h2⟩|⟨j,a,h1,h2,h3,h4⟩
  ·obtain⟨p,hp,hd⟩:=(QeF hb).1 h2;exact .inl ⟨h1,_,dB.2 ⟨p,hp,rfl⟩,hd⟩
  ·exact .inr ⟨j,a.e0,QeI hb h1,h2,h3,h4⟩
 ·rintro⟨b,⟨i,x,rfl,hx,hg⟩,rfl,h⟩;obtain⟨k,z,hz,hk,h⟩:=sq.1 h;obtain⟨x',yk,rfl⟩:=NL hz;have:k=i:=oM;subst this;rw[hx]at yk;injection yk with yk;subst yk;obtain⟨y,hy,hb⟩:=Qc1 ht hx hg;refine⟨_,y,hy,K2 hx hg,?_⟩;rcases h with⟨h1,p,hp,h2⟩|⟨j,a,h1,h2,h3,h4⟩
  ·obtain⟨q,hq,rfl⟩:=dB.1 hp;exact .inl ⟨h1,(QeF hb).2 ⟨q,hq,h2⟩⟩
  ·obtain⟨a',nQ,e⟩:=QfO hb h1;subst e;exact .inr ⟨j,a',nQ,h2,h3,h4⟩
theorem QgK(hb:iM (ve (nh ks)) x y):nu y=nu x.f:=by
 obtain⟨hl,hp⟩:=hb.ah;unfold nu;congr 1
 ·show _=(x.ah.map _).map _;rw[lK];refine uv fun j=> ?_
  rw[List.getElem?_map,List.getElem?_map];by_cases hj:j<x.ah.length
  ·obtain⟨p,ZI⟩:=bu (l:=x.ah) hj;obtain⟨q,jo⟩:=bu (l:=y.ah) (i:=j) oM;rw[ZI,jo];exact dj some (hp j p q ZI jo).1
  ·rw[List.getElem?_eq_none oM,List.getElem?_eq_none oM];rfl
 ·show _=(x.insts.filter _).map _;rw[←hb.insts,QiS,lK];rfl
theorem QeK(ks:List gO):((pP ks).flatMap (fun x=>nu x.f)).Sublist (ks.flatMap (fun x=>nu x.f)):=by
 induction ks with
 |nil=>exact .slnil
 |cons x ks ih=>
  cases hg:x.gone with
  |true=>
   have e:pP (x::ks)=pP ks:=by unfold pP;rw[xH,hg];rfl
   rw[e,D3];exact ih.trans (List.sublist_append_right _ _)
  |false=>
   have e:pP (x::ks)=x::pP ks:=by unfold pP;rw[xH,hg];rfl
   rw[e,D3,D3];exact(List.Sublist.refl _).append ih
theorem QgL(ht:Yi ks fs):fs.flatMap nu=(pP ks).flatMap (fun x=>nu x.f):=by
 rw[Qjf,Qjf];congr 1;refine uv fun j=> ?_
 rw[List.getElem?_map,List.getElem?_map];by_cases hj:j<fs.length
 ·obtain⟨y,hy⟩:=bu (l:=fs) hj;obtain⟨x,hx⟩:=bu (l:=pP ks) (i:=j) (by rw[ht.1];exact hj);rw[hx,hy];exact dj some (QgK (ht.2 _ _ _ hx hy))
 ·rw[List.getElem?_eq_none oM,List.getElem?_eq_none (by rw[ht.1];omega)];rfl
theorem Qd0{pa va:Int}(ht:Yi ks fs)(h:ey pa va (bF (fK ks))):ey pa va (bF fs):=by
 refine⟨fun d hd=> ?_,?_⟩
 ·obtain⟨v,c,m⟩:=d;obtain⟨b,_,_,h1⟩:=(QdZ ht).1 hd;exact h.1 (v,b,m) h1
 ·have h2:=h.2;rw[pf]at h2⊢;rw[QgL ht];refine h2.sublist ?_;rw[show fK ks=ks.map gO.f from rfl,Qje];exact QeK ks
theorem QeN(g:gO→Nat)(ks:List gO):((pP ks).map g).sum≤(ks.map g).sum:=by
 induction ks with
 |nil=>exact iO _
 |cons x ks ih=>
  cases hg:x.gone with
  |true=>
   have e:pP (x::ks)=pP ks:=by unfold pP;rw[xH,hg];rfl
   rw[e,ze,Qcm];omega
  |false=>
   have e:pP (x::ks)=x::pP ks:=by unfold pP;rw[xH,hg];rfl
   rw[e,ze,Qcm,ze,Qcm];omega
theorem QbL(fs:List ay):hY fs=fs.length+(fs.map (fun x=>x.ah.length+x.insts.length)).sum:=by
 unfold hY jl;rw[nS (iO _)]
theorem QeO(ht:Yi ks fs):hY fs=(pP ks).length+((pP ks).map (fun x=>x.ah.length+x.insts.length)).sum:=by
 rw[QbL,ht.1];congr 2;refine uv fun j=> ?_
 rw[List.getElem?_map,List.getElem?_map];by_cases hj:j<fs.length
 ·obtain⟨y,hy⟩:=bu (l:=fs) hj;obtain⟨x,hx⟩:=bu (l:=pP ks) (i:=j) (by rw[ht.1];exact hj);have hb:=ht.2 _ _ _ hx hy;rw[hx,hy,tl,tl,←hb.ah.1,←hb.insts,ep]
 ·rw[List.getElem?_eq_none oM,List.getElem?_eq_none (by rw[ht.1];omega)];rfl
theorem vR(ks:List gO):hY (fK ks)=ks.length+(ks.map (fun x=>x.ah.length+x.insts.length)).sum:=by
 rw[QbL,ep,lK];congr 2;refine Qdc fun x _=> ?_
 show(x.ah.map _).length+_=_;rw[ep];rfl
theorem QfP(ht:Yi ks fs):hY fs≤hY (fK ks):=by
 rw[QeO ht,vR];have h1:(pP ks).length≤ks.length:=I4 _ _;have h2:=QeN (fun x=>x.ah.length+x.insts.length) ks;omega
end
end Go.Mor
namespace Go.Mor
open Go.RowKit
theorem Qdy:∀{l m:ar},l.Pairwise (·<·)→m.Pairwise (·<·)→(∀a,a∈l↔a∈m)→l=m
 |[],[],_,_,_=>rfl
 |[],b::m,_,_,h=>absurd ((h b).2 (o0 ..)) xK
 |a::l,[],_,_,h=>absurd ((h a).1 (o0 ..)) xK
 |a::l,b::m,hl,hm,h=>by
  obtain⟨h1,h2⟩:=Qcs.1 hl;obtain⟨h3,h4⟩:=Qcs.1 hm;have e:a=b:=by
   rcases iR.1 ((h a).1 (o0 ..))with e|ha
   ·exact e
   rcases iR.1 ((h b).2 (o0 ..))with e|hb
   ·exact e.symm
   have:=h1 b hb;have:=h3 a ha;omega
  subst e;rw[Qdy h2 h4 fun c=> ?_];constructor
  ·intro hc;rcases iR.1 ((h c).1 (jF _ hc))with e|h5
   ·subst e;have:=h1 c hc;omega
   ·exact h5
  ·intro hc;rcases iR.1 ((h c).2 (jF _ hc))with e|h5
   ·subst e;have:=h3 c hc;omega
   ·exact h5
abbrev rX(pa va:Int)(ks:List gO)(v b q:Int):Prop:=bX (Dm (tK ks)) pa va (bF (fK ks)) v b q
structure QhX(pa va:Int)(ks:List gO)(k:Nat)(p:vb):Prop where
 len:p.args.length=p.from_.length
 nd:p.from_.Nodup
 yW:∀s,s∈p.from_→0≤s∧s<(ks.length:Int)
 all:∀s:Int,(k:Int)∈tK ks s→s∈p.from_
 yc:∀a,a∈p.args→0≤a∧a<va
 av:∀(i:Nat) (s a:Int),p.from_[i]?=some s→p.args[i]?=some a→Reach (tK ks) s→(k:Int)∈tK ks s→rX pa va ks a s 20000
structure vU(nm:cV)(pa va:Int)(ks:List gO):Prop where
 UT:Pf ks
 name:bt nm
 par:0≤pa∧pa≤16∧pa≤va
 uJ:∀x,ks[0]?=some x→x.ah=[]
 QgM:∀s:Int,¬(0:Int)∈tK ks s
 Xv:∀x,x∈ks→∀i,i∈x.insts→bJ i
 once:ey pa va (bF (fK ks))
 iv:∀x,x∈ks→∀i,i∈x.insts→∀a,a∈i.args→0≤a∧a<va
 fv:∀x,x∈ks→(x.e=1∨(x.e=2∧x.v≠-1))→0≤x.v∧x.v<va
 ins:∀(k:Nat) (x:gO),ks[k]?=some x→Reach (tK ks) (k:Int)→∀(j:Nat) (i:aO),x.insts[j]?=some i→∀a,a∈i.args→rX pa va ks a (k:Int) (j:Int)
 fin:∀(k:Nat) (x:gO),ks[k]?=some x→Reach (tK ks) (k:Int)→(x.e=1∨(x.e=2∧x.v≠-1))→rX pa va ks x.v (k:Int) 20000
 pK:∀(k:Nat) (x:gO),ks[k]?=some x→∀p,p∈x.ah→QhX pa va ks k p
structure EJ(ks:List gO):Prop where
 reach:∀t:Int,mB ks t→Reach (tK ks) t
 bS:∀(k:Nat) (x:gO),ks[k]?=some x→∀p,p∈x.ah→∀s,s∈p.from_→(k:Int)∈tK ks s
section
variable {ks : List gO} {fs : List ay} {nm : ByteArray} {pa va : Int}
theorem QeP(hc:Pf ks){v c m:Int}(h:(v,c,m)∈bF (fK ks)):mB ks c:=by
 obtain⟨k,z,hz,rfl,h⟩:=sq.1 h;obtain⟨x,hx,rfl⟩:=NL hz;cases hg:x.gone with
 |false=>exact .mk' hx hg
 |true=>
  obtain⟨h1,h2,_⟩:=hc.gone x (cc hx) hg;rcases h with⟨_,p,hp,_⟩|⟨j,i,hi,_⟩
  ·have:p∈x.ah.map _:=hp;rw[h1]at this;cases this
  ·have:x.insts[j]?=some i:=hi;rw[h2]at this;cases this
theorem QeQ(hc:Pf ks)(ht:Yi ks fs)(ho:ey pa va (bF (fK ks))){v b q:Int}(hb:mB ks b)(h:rX pa va ks v b q):Av pa va fs v (F2 ks b) q:=by
 obtain⟨h1,h2,h3⟩:=(u3 ho.2).1 h;refine(u3 (Qd0 ht ho).2).2 ⟨h1,h2,?_⟩;rcases h3 with h3|⟨c,k,hd,h3⟩
 ·exact .inl h3
 have hl:=QeP hc hd;refine .inr ⟨F2 ks c,k,(QdZ ht).2 ⟨c,hl,rfl,hd⟩,?_⟩;rcases h3 with⟨e,h4⟩|⟨cU,h4⟩
 ·exact .inl ⟨by rw[e],h4⟩
 ·exact .inr ⟨fun e=>cU (D9 hl hb e),(Qhn hc ht hl hb).2 h4⟩
theorem QfQ(hc:Pf ks)(ht:Yi ks fs){k:Nat}{x:gO}(hx:ks[k]?=some x)(hg:x.gone=false){fl:ar}(C7:fl.Nodup)(cA:∀s:Int,(k:Int)∈tK ks s↔s∈fl){il:List Nat}(hs:jY fl.length (rJ (ve (nh ks)) fl) il):bS (af fs) (F2 ks (k:Int))=il.map (rJ (ve (nh ks)) fl):=by
 obtain⟨hp,hw⟩:=hs;have nG:∀i,i∈il↔i<fl.length:=fun i=>by rw[hp.mem_iff,ld]
 have LM:∀i,i<fl.length→fl[i]?=some (fl.getD i 0):=fun i hi=>by rw[List.getD_eq_getElem?_getD,List.getElem?_eq_getElem hi];rfl
 have QeR:∀i,i<fl.length→mB ks (fl.getD i 0):=fun i hi=>hc.src ((cA _).2 (cc (LM i hi)))
 have QhY:il.Nodup:=hp.nodup_iff.2 Qjd;refine Qdy (NK _ _) ?_ fun s=> ?_
 ·rw[QiR];have h3:il.Pairwise (fun i j=>rJ (ve (nh ks)) fl i≤rJ (ve (nh ks)) fl j∧i≠j):=hw.and QhY;refine h3.imp_of_mem fun {a b} ha hb h=> ?_
  obtain⟨h4,h5⟩:=h;have nQ:=(nG a).1 ha;have Co:=(nG b).1 hb;have cU:rJ (ve (nh ks)) fl a≠rJ (ve (nh ks)) fl b:=by intro e;have e1:fl.getD a 0=fl.getD b 0:=D9 (QeR a nQ) (QeR b Co) e;have h6:=LM a nQ;rw[e1,←LM b Co]at h6;exact h5 ((List.getElem?_inj nQ C7).1 h6)
  omega
 ·rw[AN,dB,bE];constructor
  ·rintro⟨⟨h1,h2⟩,h3⟩;obtain⟨y,hy⟩:=bu (l:=fs) (i:=s.toNat) oM;obtain⟨i,z,hz,BB,YO,_⟩:=BJ ht hy;have yi:mB ks (i:Int):= .mk' hz BB;have e:s=F2 ks (i:Int):=by rw[K2 hz BB,YO];omega
   rw[e,Qc3 hc ht yi]at h3;obtain⟨t,BD,oQ⟩:=dB.1 h3;have:t=(k:Int):=D9 (hc.vj _ _ BD) (.mk' hx hg) oQ;subst this;obtain⟨m,hm⟩:=en.1 ((cA _).1 BD);have Pt:=(List.getElem?_eq_some_iff.1 hm).1;refine⟨m,(nG m).2 Pt,?_⟩;rw[LM m Pt]at hm;injection hm with hm;rw[e,←hm];rfl
  ·rintro⟨m,hm,rfl⟩;have Pt:=(nG m).1 hm;have hl:=QeR m Pt;show(0≤F2 ks (fl.getD m 0)∧_)∧_∈tg _ (F2 ks (fl.getD m 0));refine⟨Pg ht hl,?_⟩;rw[Qc3 hc ht hl];exact dB.2 ⟨_,(cA _).2 (cc (LM m Pt)),rfl⟩
theorem QfR(h:vU nm pa va ks)(Dz:EJ ks)(ht:Yi ks fs):j9 nm pa va fs:=by
 have hc:=h.UT;have hz:=XP hc.zero;have h0:∃x,ks[0]?=some x∧x.gone=false:=by obtain⟨i,x,e,hx,hg⟩:=hc.zero;have:i=0:=oM;subst this;exact⟨x,hx,hg⟩
 obtain⟨x0,Hz,NT⟩:=h0;have Py:rK (nh ks) 0=0:=by simp[rK]
 obtain⟨y0,hy0,vX⟩:=Qc1 ht Hz NT;rw[Py]at hy0;have F8:=(List.getElem?_eq_some_iff.1 hy0).1;refine⟨h.name,h.par,F8,fun y hy=> ?_,?_,?_,fun y hy=> ?_,⟨fun y hy i hi=> ?_,Qd0 ht h.once⟩,fun k hk=> ?_⟩
 ·rw[hy0]at hy;injection hy with hy;subst hy;rw[←vX.ah.1,h.uJ x0 Hz];rfl
 ·have:bS (af fs) 0=[]:=List.eq_nil_iff_forall_not_mem.2 fun s hs=>by
   obtain⟨⟨h1,h2⟩,h3⟩:=AN.1 hs;rw[bE]at h2;obtain⟨y,hy⟩:=bu (l:=fs) (i:=s.toNat) oM;obtain⟨i,z,Xw,BB,YO,_⟩:=BJ ht hy;have e:s=F2 ks (i:Int):=by rw[K2 Xw BB,YO];omega
   rw[e,Qc3 hc ht (.mk' Xw BB)]at h3;obtain⟨t,BD,oQ⟩:=dB.1 h3;have:t=0:=D9 (hc.vj _ _ BD) hc.zero (oQ.trans hz.symm);subst this;exact h.QgM _ BD
  rw[this];rfl
 ·have h2:=mv (bs:=af fs);rw[bE]at h2;refine h2.2 fun i hi=>jO.2 ?_
  obtain⟨y,hy⟩:=bu (l:=fs) hi;obtain⟨j,z,Xw,BB,YO,_⟩:=BJ ht hy;have h3:=(Qc5 hc.zero (fun i hi=>Qc3 hc ht hi) hc.vj (Dz.reach _ (.mk' Xw BB))).1;rwa [K2 Xw BB,YO]at h3
 ·obtain⟨j,hj⟩:=en.1 hy;obtain⟨i,x,hx,hg,YO,hb⟩:=BJ ht hj;have hL:∀t,t∈wL x→mB ks t:=fun t h=>hc.vj (i:Int) t (by rw[hc.at_ hx];exact h)
  unfold ix;rw[hb.e,hb.a,hb.b,hb.v];unfold wL at hL;unfold toA toBb;rcases hc.ends x (cc hx) hg with⟨e,_,h3,h4⟩|⟨e,_,_,h5⟩|⟨e,h1,h2⟩|⟨e,h1,h2,h3⟩
  ·rw[eh e]at hL;rw[eh (.inl e),dd oM];exact .inl ⟨e,Pg ht (hL x.a sI),h3,rfl⟩
  ·rw[dd oM,eh e]at hL;rw[eh (.inr e),eh e];exact .inr (.inl ⟨e,Pg ht (hL x.a sI),Pg ht (hL x.b sI),fun e2=>h5 (D9 (hL x.a sI) (hL x.b sI) e2)⟩)
  ·rw[dd oM,dd oM,dd oM];exact .inr (.inr (.inl ⟨e,rfl,rfl⟩))
  ·rw[dd oM,eh e,dd oM];exact .inr (.inr (.inr ⟨e,h1,h2,rfl⟩))
 ·obtain⟨j,hj⟩:=en.1 hy;obtain⟨k,x,hx,hg,YO,hb⟩:=BJ ht hj;have:i.e0∈x.insts:=by rw[←hb.insts];exact dB.2 ⟨i,hi,rfl⟩
  have h9:bJ i.e0:=h.Xv x (cc hx) _ this;exact h9
 ·obtain⟨y,hy⟩:=bu (l:=fs) hk;obtain⟨i,x,hx,hg,YO,hb⟩:=BJ ht hy;have yi:mB ks (i:Int):= .mk' hx hg;have hr:=Dz.reach _ yi;have e:(k:Int)=F2 ks (i:Int):=by rw[K2 hx hg,YO]
  refine⟨y,hy,⟨fun j q hq=> ?_,fun j a ha m v hv=> ?_,fun hf=> ?_⟩⟩
  ·obtain⟨p,hp⟩:=bu (l:=x.ah) (i:=j) (by rw[hb.ah.1];exact(List.getElem?_eq_some_iff.1 hq).1);have jL:=cc hp;have hP:=h.pK i x hx p jL;obtain⟨_,il,hs,Uc⟩:=hb.ah.2 j p q hp hq;have Uw:=QfQ hc ht hx hg hP.nd (fun s=>⟨hP.all s,Dz.bS i x hx p jL s⟩) hs;rw[e,Uw,Uc,ep,ep];refine⟨rfl,fun m a s h1 h2=> ?_⟩;rw[List.getElem?_map,Qcz]at h1 h2;obtain⟨t,BD,rfl⟩:=h1;obtain⟨t',oQ,rfl⟩:=h2;rw[BD]at oQ;injection oQ with oQ;subst oQ;have x9:t<p.from_.length:=by have h3:=(hs.1.mem_iff).1 (cc BD);exact ld.1 h3
   have h3:p.from_[t]?=some (p.from_.getD t 0):=by rw[List.getD_eq_getElem?_getD,List.getElem?_eq_getElem x9];rfl
   have h4:p.args[t]?=some (p.args.getD t 0):=by rw[List.getD_eq_getElem?_getD,List.getElem?_eq_getElem (by rw[hP.len];exact x9)];rfl
   have h5:=Dz.bS i x hx p jL _ (cc h3);have h6:=hc.src h5;exact QeQ hc ht h.once h6 (hP.av t _ _ h3 h4 (Dz.reach _ h6) h5)
  ·have h1:=QeI hb ha;rw[e];exact QeQ hc ht h.once yi (h.ins i x hx hr j _ h1 v (cc hv))
  ·rw[e,hb.v];refine QeQ hc ht h.once yi (h.fin i x hx hr ?_);unfold pE at hf;rwa [hb.e,hb.v]at hf
theorem QeT(h:vU nm pa va ks)(Dz:EJ ks)(ht:Yi ks fs)(kx:va≤20000)(jv:(hY (fK ks):Int)≤20000):bV nm pa va fs=0:=by
 have h1:=QfP ht;exact(y6 oM (QfR h Dz ht)).symm
end
end Go.Mor
namespace Go.Mor
open Go.RowKit
section
variable {fs gs : List ay} {nm : ByteArray} {pa va : Int} {k : Nat}
theorem XS(fs:List ay):fK (lN fs)=fs.map ay.e0:=by
 refine uv fun i=> ?_
 rw[List.getElem?_map,List.getElem?_map];by_cases hi:i<fs.length
 ·obtain⟨x,hx⟩:=bu (l:=fs) hi;rw[mA hx,hx];show some (gO.f (Bx fs i x))=some x.e0;unfold Bx gO.f ay.e0 oG;simp only[lK];rfl
 ·rw[List.getElem?_eq_none (by rw[jR];omega),List.getElem?_eq_none oM];rfl
theorem Q8(fs:List ay):ec fs (fs.map ay.e0):=by
 unfold ec;rw[lK];refine Qdc fun x _=> ?_
 show x.e0=x.e0.e0;unfold ay.e0;simp only[lK];rfl
theorem F4{ks:List gO}(he:ks=lN fs){x:gO}(hx:ks[k]?=some x):∃y,fs[k]?=some y∧x=Bx fs k y:=by
 subst he;obtain⟨y,hy⟩:=bu (l:=fs) (i:=k) (by have:=(List.getElem?_eq_some_iff.1 hx).1;rwa [jR]at this);rw[mA hy]at hx;injection hx with hx;exact⟨y,hy,hx.symm⟩
theorem NP(h:j9 nm pa va fs):vU nm pa va (lN fs)∧EJ (lN fs):=by
 obtain⟨gs,Ma⟩:∃gs,gs=fs.map ay.e0:=⟨_,rfl⟩;have Vh:ec fs gs:=Ma▸Q8 fs;have hG:j9 nm pa va gs:=qu Vh h;have hF:fK (lN fs)=gs:=(XS fs).trans Ma.symm;have hK:lN gs=lN fs:=BA Vh.symm;have hlen:gs.length=fs.length:=by rw[Ma,ep]
 obtain⟨ks,xG⟩:∃ks,ks=lN fs:=⟨_,rfl⟩;rw[←xG]at hF hK⊢;have Jm:ks.length=gs.length:=by rw[xG,jR,hlen]
 have at_:∀{k:Nat} {x:gO},ks[k]?=some x→∃y,gs[k]?=some y∧x=Bx gs k y∧y=x.f:=by intro k x hx;obtain⟨y,hy,e⟩:=F4 hK.symm hx;have h1:=K3 hx;rw[hF,hy]at h1;injection h1 with h1;exact⟨y,hy,e,h1⟩
 have hT:tK ks=tg (af gs):=by show tg (af (fK ks))=_;rw[hF]
 have hng:∀x,x∈ks→x.gone=false:=fun x hx=>by obtain⟨k,hk⟩:=en.1 hx;obtain⟨y,_,e,_⟩:=at_ hk;rw[e];rfl
 have hz:∃x0,ks[0]?=some x0:=bu (by have:=hG.pos;omega);obtain⟨x0,Hz⟩:=hz;have XT:∀{v b q:Int},rX pa va ks v b q=Av pa va gs v b q:=fun {v b q}=>by unfold rX Av;rw[hT,hF]
 have vi:∀{k:Nat} {x:gO} {y:ay},ks[k]?=some x→gs[k]?=some y→y5 (Dm (tg (af gs))) (fun _=>20000) pE pa va gs k y:=by intro k x y hx hy;obtain⟨z,hz,hr⟩:=hG.reads k (List.getElem?_eq_some_iff.1 hy).1;rw[hy]at hz;injection hz with hz;subst hz;exact hr
 have hiv:∀{k:Nat} {x:gO},ks[k]?=some x→∀(j:Nat) (i:aO),x.insts[j]?=some i→∀a,a∈i.args→rX pa va ks a (k:Int) (j:Int):=by intro k x hx j i hi a ha;obtain⟨y,hy,_,e⟩:=at_ hx;rw[XT];obtain⟨m,hm⟩:=en.1 ha;exact(vi hx hy).insts j i (by rw[e];exact hi) m a hm
 have hfv:∀{k:Nat} {x:gO},ks[k]?=some x→(x.e=1∨(x.e=2∧x.v≠-1))→rX pa va ks x.v (k:Int) 20000:=by intro k x hx hf;obtain⟨y,hy,_,e⟩:=at_ hx;rw[XT];have:=(vi hx hy).fin (by rw[e];exact hf);rwa [e]at this
 have Uw:∀(k:Nat) (s:Int),(k:Int)∈tK ks s↔s∈bS (af gs) (k:Int):=by
  intro k s;rw[AN,hT];constructor
  ·intro h1;rw[←hT]at h1;obtain⟨i,x,rfl,hx⟩:=ZC h1;have:=(List.getElem?_eq_some_iff.1 hx).1;rw[hT]at h1;exact⟨⟨oM,by rw[bE];omega⟩,h1⟩
  ·exact fun h1=>h1.2
 refine⟨⟨⟨?_,?_,?_,?_⟩,hG.name,hG.par,?_,?_,?_,?_,?_,?_,?_,?_,?_⟩,⟨?_,?_⟩⟩
 ·exact⟨0,x0,rfl,Hz,hng x0 (cc Hz)⟩
 ·intro x hx _;obtain⟨k,hk⟩:=en.1 hx;obtain⟨y,hy,_,e⟩:=at_ hk;have:=hG.ends y (cc hy);rw[e,←Jm]at this;exact this
 ·intro x hx hg;rw[hng x hx]at hg;cases hg
 ·intro s t ht;rw[hT]at ht;have h1:=og ht;rw[bE]at h1;obtain⟨x,hx⟩:=bu (l:=ks) (i:=t.toNat) oM;exact⟨t.toNat,x,oM,hx,hng x (cc hx)⟩
 ·intro x hx;obtain⟨y,hy,_,e⟩:=at_ hx;have:=hG.ah y hy;rw[e]at this;have h2:(x.ah.map (fun p=>(⟨p.dst,none,0,p.args⟩:bI))).length=0:=this;rw[ep]at h2;exact Qi2.1 h2
 ·intro s hs;have h1:s∈bS (af gs) 0:=(Uw 0 s).1 hs;have h2:=hG.src;rw[Qi2.1 h2]at h1;cases h1
 ·intro x hx i hi;obtain⟨k,hk⟩:=en.1 hx;obtain⟨y,hy,_,e⟩:=at_ hk;exact hG.yc.1 y (cc hy) i (by rw[e];exact hi)
 ·rw[hF];exact hG.yc.2
 ·intro x hx i hi a ha;obtain⟨k,hk⟩:=en.1 hx;obtain⟨j,hj⟩:=en.1 hi;have:=hiv hk j i hj a ha;exact⟨this.1,this.2.1⟩
 ·intro x hx hf;obtain⟨k,hk⟩:=en.1 hx;have:=hfv hk hf;exact⟨this.1,this.2.1⟩
 ·intro k x hx _ j i hi a ha;exact hiv hx j i hi a ha
 ·intro k x hx _ hf;exact hfv hx hf
 ·intro k x hx p hp;obtain⟨y,hy,e1,e⟩:=at_ hx;have hr:=vi hx hy;rw[e1]at hp;obtain⟨q,hq,rfl⟩:=dB.1 (show p∈y.ah.map (oG (bS (af gs) (k:Int)))from hp);obtain⟨j,hj⟩:=en.1 hq;obtain⟨h1,h2⟩:=hr.ah j q hj;have Tu:=NK (af gs) (k:Int);refine⟨h1,Tu.imp (fun h=>oM),fun s hs=> ?_,fun s hs=>(Uw k s).1 hs,fun a ha=> ?_,fun i s a hs ha _ _=> ?_⟩
  ·have:=(AN.1 (show s∈bS (af gs) (k:Int)from hs)).1;rw[bE]at this;omega
  ·obtain⟨i,hi⟩:=en.1 (show a∈q.args from ha);obtain⟨s,hs⟩:=bu (l:=bS (af gs) (k:Int)) (i:=i) (by rw[←h1];exact(List.getElem?_eq_some_iff.1 hi).1);have:=h2 i a s hi hs;exact⟨this.1,this.2.1⟩
  ·rw[XT];exact h2 i a s ha hs
 ·rintro t ⟨i,x,rfl,hx,_⟩;rw[hT];have:=(List.getElem?_eq_some_iff.1 hx).1;exact Rn hG oM oM
 ·intro k x hx p hp s hs;obtain⟨y,hy,e1,e⟩:=at_ hx;rw[e1]at hp;obtain⟨q,hq,rfl⟩:=dB.1 (show p∈y.ah.map (oG (bS (af gs) (k:Int)))from hp);exact(Uw k s).2 hs
end
def xO(i:aO):Bool×Int:=(decide (aU i.op),i.dst)
def shB(x:ay):ar×List (Bool×Int):=(x.ah.map (fun p=>p.dst),x.insts.map xO)
theorem Qdz{b:Int}{l m:List bI}(h:l.map (fun p=>p.dst)=m.map (fun p=>p.dst)):cC b l=cC b m:=by
 unfold cC;have e:(fun p:bI=>(p.dst,b,(-1:Int)))=(fun d:Int=>(d,b,(-1:Int)))∘(fun p:bI=>p.dst):=rfl;rw[e,←lK,←lK,h]
theorem Xk(b:Int)(l:List aO):cT b l=((l.map xO).zipIdx.filter (fun x=>x.1.1)).map (fun x=>(x.1.2,b,(x.2:Int))):=by
 unfold cT;rw[List.zipIdx_map,QiS,lK];rfl
theorem QdA{b:Int}{l m:List aO}(h:l.map xO=m.map xO):cT b l=cT b m:=by rw[Xk,Xk,h]
theorem QfS{fs gs:List ay}(h:fs.map shB=gs.map shB):bF fs=bF gs:=by
 have hl:fs.length=gs.length:=by simpa using dj List.length h
 unfold bF db;rw[nS (iO _),nS (iO _),Qjf,Qjf];congr 1;refine uv fun i=> ?_
 rw[List.getElem?_map,List.getElem?_map,List.getElem?_zipIdx,List.getElem?_zipIdx];have h1:=dj (fun l:List (ar×List (Bool×Int))=>l[i]?) h;simp only[List.getElem?_map]at h1;cases hx:fs[i]? with
 |none=>rw[hx]at h1;cases hy:gs[i]? with
  |none=>rfl
  |some y=>rw[hy]at h1;cases h1
 |some x=>rw[hx]at h1;cases hy:gs[i]? with
  |none=>rw[hy]at h1;cases h1
  |some y=>
   rw[hy]at h1;injection h1 with h1;have e1:x.ah.map (fun p=>p.dst)=y.ah.map (fun p=>p.dst):=dj Prod.fst h1;have e2:x.insts.map xO=y.insts.map xO:=dj Prod.snd h1;simp only[tl];unfold eJ;rw[Qdz e1,QdA e2]
theorem qF.map_eq{α β γ:Type}{R:α→β→Prop}{f:α→γ}{g:β→γ}{l:List α}{m:List β}(h:qF R l m)(hf:∀a b,a∈l→b∈m→R a b→f a=g b):l.map f=m.map g:=by
 refine uv fun i=> ?_
 rw[List.getElem?_map,List.getElem?_map];by_cases hi:i<l.length
 ·obtain⟨a,ha⟩:=bu (l:=l) hi;obtain⟨b,hb⟩:=bu (l:=m) (i:=i) (by rw[←h.1];exact hi);rw[ha,hb];exact dj some (hf a b (cc ha) (cc hb) (h.2 i a b ha hb))
 ·rw[List.getElem?_eq_none oM,List.getElem?_eq_none (by rw[←h.1];omega)];rfl
theorem qF.fwd{α β:Type}{R:α→β→Prop}{l:List α}{m:List β}(h:qF R l m){i:Nat}{a:α}(ha:l[i]?=some a):∃b,m[i]?=some b∧R a b:=by
 obtain⟨b,hb⟩:=bu (l:=m) (i:=i) (by rw[←h.1];exact(List.getElem?_eq_some_iff.1 ha).1);exact⟨b,hb,h.2 i a b ha hb⟩
theorem qF.bwd{α β:Type}{R:α→β→Prop}{l:List α}{m:List β}(h:qF R l m){i:Nat}{b:β}(hb:m[i]?=some b):∃a,l[i]?=some a∧R a b:=by
 obtain⟨a,ha⟩:=bu (l:=l) (i:=i) (by rw[h.1];exact(List.getElem?_eq_some_iff.1 hb).1);exact⟨a,ha,h.2 i a b ha hb⟩
def QeU(i i':aO):Prop:=i'=i∨(i'.op=1∧i'.name.size=0∧i'.args=[]∧i'.dst=i.dst∧aU i.op)
structure Cm(x y:gO):Prop where
 gone:y.gone=x.gone
 ah:y.ah=x.ah
 insts:qF QeU x.insts y.insts
 ends:(y.e=x.e∧y.v=x.v∧y.a=x.a∧y.b=x.b)∨(x.e=1∧y.e=0∧y.v=0∧y.b=0∧(y.a=x.a∨y.a=x.b))
section
variable {ks ms : List gO} {nm : ByteArray} {pa va : Int}
theorem QdB{D E:Int→Int→Prop}{ds:rn}{v b q:Int}(h:bX D pa va ds v b q)(hm:∀a,D a b→E a b):bX E pa va ds v b q:=⟨h.1,h.2.1,h.2.2.imp id fun⟨p,hp,h3⟩=>⟨p,hp,h3.imp id fun⟨h4,h5⟩=>⟨h4,hm _ h5⟩⟩⟩
theorem Qd1{T U:Int→ar}(h:∀x t,t∈U x→t∈T x){a b:Int}(hd:Dm T a b):Dm U a b:=fun⟨h1,h2⟩=>hd ⟨h1,EL (fun x t ht=>by
  obtain⟨q1,q2⟩:=im.1 ht;exact im.2 ⟨h x t q1,q2⟩) h2⟩
theorem Cm.tg{x y:gO}(h:Cm x y){t:Int}(ht:t∈wL y):t∈wL x:=by
 unfold wL at ht⊢;rcases h.ends with⟨e1,_,e3,e4⟩|⟨e1,e2,_,_,e4⟩
 ·rwa [e1,e3,e4]at ht
 ·rw[eh e2]at ht;rw[dd oM,eh e1];rw[jT]at ht;rcases e4 with e4|e4<;>simp[ht,e4]
theorem Cm.Jn{N:Int}{x y:gO}(h:Cm x y)(he:Jn N x):Jn N y:=by
 unfold Go.Mor.Jn at he⊢;rcases h.ends with⟨e1,e2,e3,e4⟩|⟨e1,e2,e3,e4,e5⟩
 ·rwa [e1,e2,e3,e4]
 ·left;rcases he with he|⟨_,h2,h3,_⟩|he|he
  ·omega
  ·refine⟨e2,?_,e3,e4⟩;rcases e5 with e5|e5<;>rw[e5]<;>assumption
  ·omega
  ·omega
theorem QbN(hl:qF Cm ks ms){t:Int}:mB ks t→mB ms t:=by
 rintro⟨i,x,rfl,hx,hg⟩;obtain⟨y,hy,hb⟩:=hl.fwd hx;exact .mk' hy (by rw[hb.gone,hg])
theorem Qd2(hc:Pf ks)(hl:qF Cm ks ms){s t:Int}(h:t∈tK ms s):t∈tK ks s:=by
 obtain⟨i,y,rfl,hy⟩:=ZC h;obtain⟨x,hx,hb⟩:=hl.bwd hy;rw[hc.at_ hx];refine hb.tg ?_;rw[Xj hy]at h;cases hg:x.gone with
 |true=>
  obtain⟨_,_,h3,_⟩:=hc.gone x (cc hx) hg;rcases hb.ends with⟨e,_⟩|⟨e,_⟩
  ·rw[Qd (by rw[e,h3])]at h;cases h
  ·omega
 |false=>
  have:=hb.Jn (hc.ends x (cc hx) hg);rw[hl.1]at this;rwa [Qc0 this]at h
theorem QeV(hc:Pf ks)(hl:qF Cm ks ms):Pf ms:=by
 refine⟨QbN hl hc.zero,fun y hy hg=> ?_,fun y hy hg=> ?_,fun s t ht=>QbN hl (hc.vj s t (Qd2 hc hl ht))⟩
 ·obtain⟨i,hi⟩:=en.1 hy;obtain⟨x,hx,hb⟩:=hl.bwd hi;rw[←hl.1];exact hb.Jn (hc.ends x (cc hx) (by rw[←hb.gone,hg]))
 ·obtain⟨i,hi⟩:=en.1 hy;obtain⟨x,hx,hb⟩:=hl.bwd hi;obtain⟨h1,h2,h3,h4⟩:=hc.gone x (cc hx) (by rw[←hb.gone,hg]);have q8:=hb.insts.1;rw[h2]at q8;refine⟨by rw[hb.ah,h1],Qi2.1 q8.symm,?_⟩;rcases hb.ends with⟨e1,e2,_⟩|⟨e,_⟩
  ·exact⟨by rw[e1,h3],by rw[e2,h4]⟩
  ·omega
theorem QfT(hl:qF Cm ks ms):(fK ks).map shB=(fK ms).map shB:=by
 rw[lK,lK];refine hl.map_eq fun x y _ _ hb=> ?_
 show(((x.ah.map _).map _:ar),x.insts.map xO)=(((y.ah.map _).map _:ar),y.insts.map xO);rw[hb.ah];congr 1;refine hb.insts.map_eq fun a b _ _ h=> ?_
 rcases h with e|⟨e1,_,_,e4,e5⟩
 ·rw[e]
 ·unfold xO;rw[e4,e1];congr 1;have:aU 1:=by unfold aU;omega
  simp[e5,this]
theorem QbO(h:vU nm pa va ks)(hl:qF Cm ks ms):vU nm pa va ms:=by
 have hc:=h.UT;have hd:bF (fK ms)=bF (fK ks):=(QfS (QfT hl)).symm;have j5:∀x t:Int,t∈tK ms x→t∈tK ks x:=fun x t ht=>Qd2 hc hl ht
 have hr:∀{t:Int},Reach (tK ms) t→Reach (tK ks) t:=fun ht=>EL j5 ht
 have XT:∀{v b q:Int},rX pa va ks v b q→rX pa va ms v b q:=fun {v b q} ha=>by unfold rX;rw[hd];exact QdB ha fun a ha=>Qd1 j5 ha
 have bk:∀{y:gO},y∈ms→∃(i:Nat) (x:gO),ks[i]?=some x∧x∈ks∧Cm x y:=fun {y} hy=>by obtain⟨i,hi⟩:=en.1 hy;obtain⟨x,hx,hb⟩:=hl.bwd hi;exact⟨i,x,hx,cc hx,hb⟩
 refine⟨QeV hc hl,h.name,h.par,fun y hy=> ?_,fun s hs=>h.QgM s (j5 _ _ hs),fun y hy i hi=> ?_,by rw[hd];exact h.once,fun y hy i hi a ha=> ?_,fun y hy hf=> ?_,fun k y hy hk j i hi a ha=> ?_,fun k y hy hk hf=> ?_,fun k y hy p hp=> ?_⟩
 ·obtain⟨x,hx,hb⟩:=hl.bwd hy;rw[hb.ah];exact h.uJ x hx
 ·obtain⟨_,x,_,pj,hb⟩:=bk hy;obtain⟨j,hj⟩:=en.1 hi;obtain⟨i0,Rq,e⟩:=hb.insts.bwd hj;rcases e with e|⟨e1,e2,e3,_,_⟩
  ·rw[e];exact h.Xv x pj i0 (cc Rq)
  ·unfold bJ;refine⟨.inl (by rw[e1];unfold aU;omega),.inl ⟨e1,e2,by rw[e3];rfl⟩⟩
 ·obtain⟨_,x,_,pj,hb⟩:=bk hy;obtain⟨j,hj⟩:=en.1 hi;obtain⟨i0,Rq,e⟩:=hb.insts.bwd hj;rcases e with e|⟨_,_,e3,_⟩
  ·rw[e]at ha;exact h.iv x pj i0 (cc Rq) a ha
  ·rw[e3]at ha;cases ha
 ·obtain⟨_,x,_,pj,hb⟩:=bk hy;rcases hb.ends with⟨e1,e2,_⟩|⟨_,e2,_⟩
  ·rw[e1,e2]at hf;rw[e2];exact h.fv x pj hf
  ·omega
 ·obtain⟨x,hx,hb⟩:=hl.bwd hy;obtain⟨i0,Rq,e⟩:=hb.insts.bwd hi;rcases e with e|⟨_,_,e3,_⟩
  ·rw[e]at ha;exact XT (h.ins k x hx (hr hk) j i0 Rq a ha)
  ·rw[e3]at ha;cases ha
 ·obtain⟨x,hx,hb⟩:=hl.bwd hy;rcases hb.ends with⟨e1,e2,_⟩|⟨_,e2,_⟩
  ·rw[e1,e2]at hf;rw[e2];exact XT (h.fin k x hx (hr hk) hf)
  ·omega
 ·obtain⟨x,hx,hb⟩:=hl.bwd hy;rw[hb.ah]at hp;have hP:=h.pK k x hx p hp;exact⟨hP.len,hP.nd,by rw[←hl.1];exact hP.yW,fun s hs=>hP.all s (j5 _ _ hs),hP.yc,fun i s a hs ha hrs xG=>XT (hP.av i s a hs ha (hr hrs) (j5 _ _ xG))⟩
end
end Go.Mor
namespace Go.Mor
open Go.RowKit
def EU(ks:List gO)(k:Int):ar:=((List.range ks.length).filter (fun s=>match ks[s]? with
 |some x=> !x.gone&&(wL x).contains k
 |none=>false)).map (fun s:Nat=>(s:Int))
def ke(S:ar)(p:vb):vb:=⟨p.dst,((p.from_.zip p.args).filter (fun q=>S.contains q.1)).map (·.1),((p.from_.zip p.args).filter (fun q=>S.contains q.1)).map (·.2)⟩
def QgN(x:gO):gO:={x with gone:=true,ah:=[],insts:=[],e:=2,v:= -1}
noncomputable def sj(ks:List gO)(k:Nat)(x:gO):gO:=open Classical in if¬Reach (tK ks) (k:Int)∧x.gone=false then QgN x else x
noncomputable def o1(ks:List gO):List gO:=ks.zipIdx.map (fun p=>sj ks p.2 p.1)
def K8(S:ar)(x:gO):gO:={x with ah:=x.ah.map (ke S)}
noncomputable def kg(ks:List gO):List gO:=(o1 ks).zipIdx.map (fun p=>K8 (EU (o1 ks) (p.2:Int)) p.1)
noncomputable def sW(ks:List gO):Bool:=open Classical in decide (∃(k:Nat) (x:gO),ks[k]?=some x∧x.gone=false∧¬Reach (tK ks) (k:Int))
section
variable {ks ms : List gO} {k : Nat} {x y : gO} {nm : ByteArray} {pa va : Int}
theorem BM(hx:ks[k]?=some x):(o1 ks)[k]?=some (sj ks k x):=by
 unfold o1;rw[List.getElem?_map,List.getElem?_zipIdx,hx];simp
theorem BV(ks:List gO):(o1 ks).length=ks.length:=by simp[o1]
theorem tn(hx:ks[k]?=some x):(kg ks)[k]?=some (K8 (EU (o1 ks) (k:Int)) (sj ks k x)):=by
 unfold kg;rw[List.getElem?_map,List.getElem?_zipIdx,BM hx];simp
theorem o2(ks:List gO):(kg ks).length=ks.length:=by simp[kg,o1]
theorem QeW{s t:Int}:s∈EU ks t↔∃(i:Nat) (x:gO),s=(i:Int)∧ks[i]?=some x∧x.gone=false∧t∈wL x:=by
 unfold EU;rw[dB];constructor
 ·rintro⟨i,hi,rfl⟩;obtain⟨h1,h2⟩:=ph.1 hi;obtain⟨x,hx⟩:=bu (l:=ks) (i:=i) (ld.1 h1);rw[hx]at h2;simp only[ej,Qdx,Qi6,dF]at h2;exact⟨i,x,rfl,hx,h2.1,h2.2⟩
 ·rintro⟨i,x,rfl,hx,hg,ht⟩;refine⟨i,ph.2 ⟨ld.2 (List.getElem?_eq_some_iff.1 hx).1,?_⟩,rfl⟩;rw[hx];simp[hg,ht]
theorem Jw(hc:Pf ks){t:Int}(h:Reach (tK ks) t):mB ks t:=by
 cases h with
 |zero=>exact hc.zero
 |step _ ht=>exact hc.vj _ _ ht
theorem QfU{ks:List gO}{k:Nat}{x:gO}(hx:ks[k]?=some x)(h:mB ks (k:Int)):x.gone=false:=by
 obtain⟨i,y,e,hy,hg⟩:=h;have:i=k:=oM;subst this;rw[hx]at hy;injection hy with hy;rwa [hy]
theorem uc(hc:Pf ks)(hx:ks[k]?=some x)(hr:Reach (tK ks) (k:Int)):(kg ks)[k]?=some (K8 (EU (o1 ks) (k:Int)) x)∧x.gone=false:=by
 refine⟨?_,QfU hx (Jw hc hr)⟩;rw[tn hx];unfold sj;rw[dd (fun h=>h.1 hr)]
theorem F5(hc:Pf ks)(hx:ks[k]?=some x)(hr:¬Reach (tK ks) (k:Int)):∃y,(kg ks)[k]?=some y∧y.gone=true∧y.ah=[]∧y.insts=[]∧y.e=2∧y.v= -1:=by
 refine⟨_,tn hx,?_⟩;unfold sj;cases hg:x.gone with
 |false=>
  rw[eh ⟨hr,rfl⟩];exact⟨rfl,rfl,rfl,rfl,rfl⟩
 |true=>
  obtain⟨h1,h2,h3,h4⟩:=hc.gone x (cc hx) hg;rw[dd (fun h=>by have:=h.2;cases this)];exact⟨hg,by show x.ah.map _=[];rw[h1];rfl,h2,h3,h4⟩
theorem qH(hy:(kg ks)[k]?=some y):∃x,ks[k]?=some x:=bu (by rw[←o2 ks];exact(List.getElem?_eq_some_iff.1 hy).1)
theorem ZF(hc:Pf ks)(hy:(kg ks)[k]?=some y)(hg:y.gone=false):∃x,ks[k]?=some x∧x.gone=false∧Reach (tK ks) (k:Int)∧y=K8 (EU (o1 ks) (k:Int)) x:=by
 obtain⟨x,hx⟩:=qH hy;by_cases hr:Reach (tK ks) (k:Int)
 ·obtain⟨h1,h2⟩:=uc hc hx hr;rw[hy]at h1;injection h1 with h1;exact⟨x,hx,h2,hr,h1⟩
 ·obtain⟨z,hz,h1,_⟩:=F5 hc hx hr;rw[hy]at hz;injection hz with hz;rw[←hz,hg]at h1;cases h1
theorem Gf(hc:Pf ks){s t:Int}:t∈tK (kg ks) s↔Reach (tK ks) s∧t∈tK ks s:=by
 constructor
 ·intro h;obtain⟨i,y,rfl,hy⟩:=ZC h;obtain⟨x,hx⟩:=qH hy;by_cases hr:Reach (tK ks) (i:Int)
  ·refine⟨hr,?_⟩;obtain⟨h1,h2⟩:=uc hc hx hr;rw[hy]at h1;injection h1 with h1;rw[Xj hy,h1,o2]at h;rw[Xj hx];exact h
  ·obtain⟨z,hz,_,_,_,h1,_⟩:=F5 hc hx hr;rw[hy]at hz;injection hz with hz;subst hz;rw[Xj hy,Qd h1]at h;cases h
 ·rintro⟨hr,h⟩;obtain⟨i,x,rfl,hx⟩:=ZC h;obtain⟨h1,h2⟩:=uc hc hx hr;rw[Xj h1,o2];rw[Xj hx]at h;exact h
theorem Lb(hc:Pf ks){t:Int}:Reach (tK (kg ks)) t↔Reach (tK ks) t:=by
 constructor
 ·exact fun h=>EL (fun x t ht=>((Gf hc).1 ht).2) h
 ·intro h;induction h with
  |zero=>exact .zero
  |step h1 ht ih=>exact .step ih ((Gf hc).2 ⟨h1,ht⟩)
theorem Pk(hc:Pf ks){t:Int}:mB (kg ks) t↔Reach (tK ks) t:=by
 constructor
 ·rintro⟨i,y,rfl,hy,hg⟩;obtain⟨_,_,_,hr,_⟩:=ZF hc hy hg;exact hr
 ·intro h;obtain⟨i,x,rfl,hx,hg⟩:=Jw hc h;exact .mk' (uc hc hx h).1 hg
theorem Qeh(hc:Pf ks):Pf (kg ks):=by
 refine⟨(Pk hc).2 .zero,fun y hy hg=> ?_,fun y hy hg=> ?_,fun s t ht=> ?_⟩
 ·obtain⟨i,hi⟩:=en.1 hy;obtain⟨x,hx,uC,_,rfl⟩:=ZF hc hi hg;rw[o2];exact hc.ends x (cc hx) uC
 ·obtain⟨i,hi⟩:=en.1 hy;obtain⟨x,hx⟩:=qH hi;by_cases hr:Reach (tK ks) (i:Int)
  ·obtain⟨h1,h2⟩:=uc hc hx hr;rw[hi]at h1;injection h1 with h1;rw[h1]at hg;rw[show(K8 (EU (o1 ks) (i:Int)) x).gone=x.gone from rfl,h2]at hg;cases hg
  ·obtain⟨z,hz,_,h1,h2,h3,h4⟩:=F5 hc hx hr;rw[hi]at hz;injection hz with hz;subst hz;exact⟨h1,h2,h3,h4⟩
 ·obtain⟨h1,h2⟩:=(Gf hc).1 ht;exact(Pk hc).2 (.step h1 h2)
theorem Pl(hc:Pf ks){s:Int}:s∈EU (o1 ks) (k:Int)↔Reach (tK ks) s∧(k:Int)∈tK ks s:=by
 rw[QeW];constructor
 ·rintro⟨i,y,rfl,hy,hg,ht⟩;obtain⟨x,hx⟩:=bu (l:=ks) (i:=i) (by rw[←BV ks];exact(List.getElem?_eq_some_iff.1 hy).1);rw[BM hx]at hy;injection hy with hy;unfold sj at hy;split at hy
  ·rw[←hy]at hg;cases hg
  ·rename_i hn;rw[hy]at hn;have hr:Reach (tK ks) (i:Int):=QjE fun h=>hn ⟨h,hg⟩
   refine⟨hr,?_⟩;rw[hc.at_ hx,hy];exact ht
 ·rintro⟨hr,ht⟩;obtain⟨i,x,rfl,hx,hg⟩:=Jw hc hr;refine⟨i,x,rfl,?_,hg,by rwa [hc.at_ hx]at ht⟩;rw[BM hx];unfold sj;rw[dd (fun h=>h.1 hr)]
theorem ZH(hc:Pf ks){v c m:Int}:(v,c,m)∈bF (fK (kg ks))↔Reach (tK ks) c∧(v,c,m)∈bF (fK ks):=by
 rw[sq,sq];constructor
 ·rintro⟨i,z,hz,rfl,h⟩;obtain⟨y,hy,rfl⟩:=NL hz;obtain⟨x,hx⟩:=qH hy;by_cases hr:Reach (tK ks) (i:Int)
  ·obtain⟨h1,h2⟩:=uc hc hx hr;rw[hy]at h1;injection h1 with h1;subst h1;refine⟨hr,i,x.f,K3 hx,rfl,h.imp (fun⟨h3,p,hp,hd⟩=>⟨h3,?_⟩) id⟩;obtain⟨q,hq,rfl⟩:=dB.1 hp;obtain⟨r,hr,rfl⟩:=dB.1 hq;exact⟨_,dB.2 ⟨r,hr,rfl⟩,hd⟩
  ·obtain⟨w,hw,_,h1,h2,_⟩:=F5 hc hx hr;rw[hy]at hw;injection hw with hw;subst hw;rcases h with⟨_,p,hp,_⟩|⟨j,a,ha,_⟩
   ·have:p∈y.ah.map _:=hp;rw[h1]at this;cases this
   ·have:y.insts[j]?=some a:=ha;rw[h2]at this;cases this
 ·rintro⟨hr,i,z,hz,rfl,h⟩;obtain⟨x,hx,rfl⟩:=NL hz;obtain⟨h1,h2⟩:=uc hc hx hr;refine⟨i,_,K3 h1,rfl,h.imp (fun⟨h3,p,hp,hd⟩=>⟨h3,?_⟩) id⟩;obtain⟨q,hq,rfl⟩:=dB.1 hp;exact⟨_,dB.2 ⟨ke (EU (o1 ks) (i:Int)) q,dB.2 ⟨q,hq,rfl⟩,rfl⟩,hd⟩
theorem ZL{α β γ:Type}{f:α→List γ}{g:β→List γ}:∀{l:List α} {m:List β},qF (fun a b=>(g b).Sublist (f a)) l m→(m.flatMap g).Sublist (l.flatMap f)
 |[],[],_=> .slnil
 |[],b::m,h=>by have:=h.1;simp at this
 |a::l,[],h=>by have:=h.1;simp at this
 |a::l,b::m,h=>by rw[D3,D3];exact(h.2 0 a b rfl rfl).append (ZL ⟨by have:=h.1;simpa using this,fun i x y hx hy=>h.2 (i+1) x y hx hy⟩)
theorem ZM(hc:Pf ks)(h:ey pa va (bF (fK ks))):ey pa va (bF (fK (kg ks))):=by
 refine⟨fun d hd=> ?_,?_⟩
 ·obtain⟨v,c,m⟩:=d;exact h.1 _ ((ZH hc).1 hd).2
 ·have h2:=h.2;rw[pf]at h2⊢;refine h2.sublist (ZL ⟨by rw[ep,ep,o2],fun i a b ha hb=> ?_⟩);obtain⟨x,hx,rfl⟩:=NL ha;obtain⟨y,hy,rfl⟩:=NL hb;by_cases hr:Reach (tK ks) (i:Int)
  ·obtain⟨h1,_⟩:=uc hc hx hr;rw[hy]at h1;injection h1 with h1;subst h1;have:nu (K8 (EU (o1 ks) (i:Int)) x).f=nu x.f:=by unfold nu;congr 1;show((x.ah.map _).map _).map _=(x.ah.map _).map _;rw[lK,lK,lK];rfl
   rw[this];exact List.Sublist.refl _
  ·obtain⟨w,hw,_,h1,h2,_⟩:=F5 hc hx hr;rw[hy]at hw;injection hw with hw;subst hw;have:nu y.f=[]:=by unfold nu;show(y.ah.map _).map _++(y.insts.filter _).map _=[];rw[h1,h2];rfl
   rw[this];exact List.nil_sublist _
theorem Qal{S:ar}{p:vb}{i:Nat}{s a:Int}(hs:(ke S p).from_[i]?=some s)(ha:(ke S p).args[i]?=some a):s∈S∧∃j:Nat,p.from_[j]?=some s∧p.args[j]?=some a:=by
 unfold ke at hs ha;simp only[List.getElem?_map,Qcz]at hs ha;obtain⟨q,hq,rfl⟩:=hs;obtain⟨r,hr,rfl⟩:=ha;rw[hq]at hr;injection hr with hr;subst hr;obtain⟨h1,h2⟩:=ph.1 (cc hq);obtain⟨j,hj⟩:=en.1 h1;rw[List.getElem?_zip_eq_some]at hj;exact⟨by simpa using h2,j,hj.1,hj.2⟩
theorem Qei{S:ar}{p:vb}(hl:p.args.length=p.from_.length):(ke S p).from_=p.from_.filter (fun s=>S.contains s):=by
 unfold ke;show((p.from_.zip p.args).filter ((fun s=>S.contains s)∘Prod.fst)).map Prod.fst=_;rw[←QiS,List.map_fst_zip oM]
theorem Qbg(S:ar)(p:vb):(ke S p).args.length=(ke S p).from_.length:=by
 unfold ke;rw[ep,ep]
theorem yn(h:vU nm pa va ks):vU nm pa va (kg ks)∧EJ (kg ks):=by
 have hc:=h.UT;have j5:∀x t:Int,t∈tK (kg ks) x→t∈tK ks x:=fun x t ht=>((Gf hc).1 ht).2
 have XT:∀{v b q:Int},Reach (tK ks) b→rX pa va ks v b q→rX pa va (kg ks) v b q:=by
  intro v b q hr ha;obtain⟨h1,h2,h3⟩:=(u3 h.once.2).1 ha;refine(u3 (ZM hc h.once).2).2 ⟨h1,h2,h3.imp id fun⟨c,m,hd,h4⟩=>⟨c,m,?_,?_⟩⟩
  ·refine(ZH hc).2 ⟨?_,hd⟩;rcases h4 with⟨rfl,_⟩|⟨_,h5⟩
   ·exact hr
   ·exact Dm.reach hr h5
  ·exact h4.imp id fun⟨h5,h6⟩=>⟨h5,Qd1 j5 h6⟩
 have yes:∀{k:Nat} {y:gO},(kg ks)[k]?=some y→Reach (tK ks) (k:Int)→∃x,ks[k]?=some x∧y=K8 (EU (o1 ks) (k:Int)) x:=by intro k y hy hr;obtain⟨x,hx⟩:=qH hy;obtain⟨h1,_⟩:=uc hc hx hr;rw[hy]at h1;injection h1 with h1;exact⟨x,hx,h1⟩
 have no:∀{k:Nat} {y:gO},(kg ks)[k]?=some y→¬Reach (tK ks) (k:Int)→y.ah=[]∧y.insts=[]∧y.e=2∧y.v= -1:=by intro k y hy hr;obtain⟨x,hx⟩:=qH hy;obtain⟨w,hw,_,h1,h2,h3,h4⟩:=F5 hc hx hr;rw[hy]at hw;injection hw with hw;subst hw;exact⟨h1,h2,h3,h4⟩
 refine⟨⟨Qeh hc,h.name,h.par,fun y hy=> ?_,fun s hs=>h.QgM s (j5 _ _ hs),fun y hy i hi=> ?_,ZM hc h.once,fun y hy i hi a ha=> ?_,fun y hy hf=> ?_,fun k y hy hk j i hi a ha=> ?_,fun k y hy hk hf=> ?_,fun k y hy p hp=> ?_⟩,⟨fun t ht=>(Lb hc).2 ((Pk hc).1 ht),fun k y hy p hp s hs=> ?_⟩⟩
 ·obtain⟨x,hx,rfl⟩:=yes hy .zero;show x.ah.map _=[];rw[h.uJ x hx];rfl
 ·obtain⟨k,hk⟩:=en.1 hy;by_cases hr:Reach (tK ks) (k:Int)
  ·obtain⟨x,hx,rfl⟩:=yes hk hr;exact h.Xv x (cc hx) i hi
  ·rw[(no hk hr).2.1]at hi;cases hi
 ·obtain⟨k,hk⟩:=en.1 hy;by_cases hr:Reach (tK ks) (k:Int)
  ·obtain⟨x,hx,rfl⟩:=yes hk hr;exact h.iv x (cc hx) i hi a ha
  ·rw[(no hk hr).2.1]at hi;cases hi
 ·obtain⟨k,hk⟩:=en.1 hy;by_cases hr:Reach (tK ks) (k:Int)
  ·obtain⟨x,hx,rfl⟩:=yes hk hr;exact h.fv x (cc hx) hf
  ·have h1:=(no hk hr).2.2;rcases hf with hf|⟨_,hf⟩
   ·omega
   ·exact absurd h1.2 hf
 ·have hr:=(Lb hc).1 hk;obtain⟨x,hx,rfl⟩:=yes hy hr;exact XT hr (h.ins k x hx hr j i hi a ha)
 ·have hr:=(Lb hc).1 hk;obtain⟨x,hx,rfl⟩:=yes hy hr;exact XT hr (h.fin k x hx hr hf)
 ·by_cases hr:Reach (tK ks) (k:Int)
  ·obtain⟨x,hx,rfl⟩:=yes hy hr;obtain⟨q,hq,rfl⟩:=dB.1 (show p∈x.ah.map _ from hp);have hP:=h.pK k x hx q hq;have Oe:=Qei (S:=EU (o1 ks) (k:Int)) hP.len;refine⟨Qbg _ _,by rw[Oe];exact hP.nd.sublist Qi0,fun s hs=> ?_,fun s hs=> ?_,fun a ha=> ?_,fun i s a hs ha hrs xG=> ?_⟩
   ·rw[Oe]at hs;rw[o2];exact hP.yW s (ph.1 hs).1
   ·rw[Oe];have h1:=(Gf hc).1 hs;exact ph.2 ⟨hP.all s h1.2,by simpa using(Pl hc).2 h1⟩
   ·obtain⟨i,hi⟩:=en.1 ha;obtain⟨s,hs⟩:=bu (l:=(ke (EU (o1 ks) (k:Int)) q).from_) (i:=i) (by rw[←Qbg];exact(List.getElem?_eq_some_iff.1 hi).1);obtain⟨_,j,_,hj⟩:=Qal hs hi;exact hP.yc a (cc hj)
   ·obtain⟨h1,j,hj,hja⟩:=Qal hs ha;have h2:=(Pl hc).1 h1;exact XT h2.1 (hP.av j s a hj hja h2.1 h2.2)
  ·rw[(no hy hr).1]at hp;cases hp
 ·by_cases hr:Reach (tK ks) (k:Int)
  ·obtain⟨x,hx,rfl⟩:=yes hy hr;obtain⟨q,hq,rfl⟩:=dB.1 (show p∈x.ah.map _ from hp);obtain⟨i,hi⟩:=en.1 hs;obtain⟨a,ha⟩:=bu (l:=(ke (EU (o1 ks) (k:Int)) q).args) (i:=i) (by rw[Qbg];exact(List.getElem?_eq_some_iff.1 hi).1);obtain⟨h1,_⟩:=Qal hi ha;exact(Gf hc).2 ((Pl hc).1 h1)
  ·rw[(no hy hr).1]at hp;cases hp
end
end Go.Mor
namespace Go.Mor
def QeX(a b:Int):Int:=IntKind.i64.wrap ((BitVec.ofInt 64 a&&&BitVec.ofInt 64 b).toNat:Int)
def XM(a b:Int):Int:=IntKind.i64.wrap ((BitVec.ofInt 64 a|||BitVec.ofInt 64 b).toNat:Int)
def QbB(a b:Int):Int:=IntKind.i64.wrap ((BitVec.ofInt 64 a^^^BitVec.ofInt 64 b).toNat:Int)
def nW(b:Int):Int:=IntKind.u64.wrap ((BitVec.ofInt 64 (IntKind.u64.wrap b)&&&BitVec.ofInt 64 63).toNat:Int)
def QeY(a n:Int):Int:=IntKind.i64.wrap (a*2^min n.toNat 64)
def Qej(a n:Int):Int:=a.fdiv (2^min n.toNat 64)
def xN(op a b:Int):Int×Int:=if b=0 then(0,3)else if b= -1∧op=4 then(IntKind.i64.wrap (0-a),0)else if b= -1 then(0,0)else if op=4 then(IntKind.i64.wrap (a.tdiv b),0)else(a.tmod b,0)
def nI(op a b:Int):Int×Int:=if op=1 then(IntKind.i64.wrap (a+b),0)else if op=2 then(IntKind.i64.wrap (a-b),0)else if op=3 then(IntKind.i64.wrap (a*b),0)else if op=4∨op=5 then xN op a b else if op=6 then(QeX a b,0)else if op=7 then(XM a b,0)else if op=8 then(QbB a b,0)else if op=9 then(QeY a (nW b),0)else if op=10 then(Qej a (nW b),0)else if op=11 then(EK (decide (a=b)),0)else if op=12 then(EK (a !=b),0)else if op=13 then(EK (decide (a<b)),0)else if op=14 then(EK (decide (a≤b)),0)else if op=15 then(EK (decide (a>b)),0)else if op=16 then(EK (decide (a≥b)),0)else(0,-1)
def Gh(op a:Int):Int×Int:=if op=1 then(IntKind.i64.wrap (0-a),0)else if op=2 then(QbB (-1) a,0)else if op=3 then(EK (decide (a=0)),0)else(0,-1)
theorem Qc6{op a b:Int}(h:b=0):xN op a b=(0,3):=by unfold xN;rw[eh h]
theorem Qc7{op a b:Int}(h:b= -1)(h1:op=4):xN op a b=(IntKind.i64.wrap (0-a),0):=by unfold xN;rw[dd oM,eh ⟨h,h1⟩]
theorem Qc8{op a b:Int}(h:b= -1)(h1:op≠4):xN op a b=(0,0):=by unfold xN;rw[dd oM,dd (fun e=>h1 e.2),eh h]
theorem Qc9{op a b:Int}(h:b≠0)(h2:b≠-1)(h1:op=4):xN op a b=(IntKind.i64.wrap (a.tdiv b),0):=by unfold xN;rw[dd h,dd (fun e=>h2 e.1),dd h2,eh h1]
theorem Qda{op a b:Int}(h:b≠0)(h2:b≠-1)(h1:op≠4):xN op a b=(a.tmod b,0):=by unfold xN;rw[dd h,dd (fun e=>h2 e.1),dd h2,dd h1]
theorem QcG{op a b:Int}(h:¬(1≤op∧op≤16)):nI op a b=(0,-1):=by
 unfold nI;rw[dd oM,dd oM,dd oM,dd oM,dd oM,dd oM,dd oM,dd oM,dd oM,dd oM,dd oM,dd oM,dd oM,dd oM,dd oM]
theorem QdC{op a b:Int}(h:op=4∨op=5):nI op a b=((xN op a b).1,(xN op a b).2):=by
 unfold nI;rw[dd oM,dd oM,dd oM,eh h]
theorem Qd3{op a:Int}(h1:¬op=1)(h2:¬op=2)(h3:¬op=3):Gh op a=(0,-1):=by unfold Gh;rw[dd h1,dd h2,dd h3]
section
variable {op a b : Int}
theorem bo1(h:op=1:=by assumption):nI op a b=(IntKind.i64.wrap (a+b),0):=by subst h;rfl
theorem bo2(h:op=2:=by assumption):nI op a b=(IntKind.i64.wrap (a-b),0):=by subst h;rfl
theorem bo3(h:op=3:=by assumption):nI op a b=(IntKind.i64.wrap (a*b),0):=by subst h;rfl
theorem bo6(h:op=6:=by assumption):nI op a b=(QeX a b,0):=by subst h;rfl
theorem bo7(h:op=7:=by assumption):nI op a b=(XM a b,0):=by subst h;rfl
theorem bo8(h:op=8:=by assumption):nI op a b=(QbB a b,0):=by subst h;rfl
theorem bo9(h:op=9:=by assumption):nI op a b=(QeY a (nW b),0):=by subst h;rfl
theorem QhZ(h:op=10:=by assumption):nI op a b=(Qej a (nW b),0):=by subst h;rfl
theorem Qh0(h:op=11:=by assumption):nI op a b=(EK (decide (a=b)),0):=by subst h;rfl
theorem Qh1(h:op=12:=by assumption):nI op a b=(EK (a !=b),0):=by subst h;rfl
theorem Qh2(h:op=13:=by assumption):nI op a b=(EK (decide (a<b)),0):=by subst h;rfl
theorem Qh3(h:op=14:=by assumption):nI op a b=(EK (decide (a≤b)),0):=by subst h;rfl
theorem Qh4(h:op=15:=by assumption):nI op a b=(EK (decide (a>b)),0):=by subst h;rfl
theorem Qh5(h:op=16:=by assumption):nI op a b=(EK (decide (a≥b)),0):=by subst h;rfl
theorem uo1(h:op=1:=by assumption):Gh op a=(IntKind.i64.wrap (0-a),0):=by subst h;rfl
theorem uo2(h:op=2:=by assumption):Gh op a=(QbB (-1) a,0):=by subst h;rfl
theorem uo3(h:op=3:=by assumption):Gh op a=(EK (decide (a=0)),0):=by subst h;rfl
end
structure PSt where
 mem:ar
 next:Int
 pos:Nat
 out:ar
 steps:Int
 opened:Int
inductive Got(α:Type)where
 |ok(a:α)(s:PSt)
 |stop(k c:Int)(s:PSt)
structure RFn where
 nm:cV
 wk:Bool
 pa:Int
 va:Int
 A:aX
 c:Nat
 blks:List ay
 qA:aX
 qc:Nat
 bS:List (aX×Nat×ar)
structure Env0 where
 fns:List RFn
 names:List (cV×Int)
 data:List (cV×Int)
 inp:ar
 qd:Nat
 fuel:Int
def atS(n:Int)(s:PSt):Got Nat:=if n<1∨n≥s.next then .stop 5 0 s else .ok n.toNat s
def a0(l:ar):Int:=l.getD 0 0
def a1(l:ar):Int:=l.getD 1 0
theorem PA{n:Int}{s:PSt}(h:n<1∨n≥s.next):atS n s= .stop 5 0 s:=by unfold atS;rw[eh h]
end Go.Mor
namespace Go.Mor
open Go.RowKit
abbrev KN:=List (Bool×Int)
def XU(kn:KN)(v:Int):Bool:=(kn.getD v.toNat (false,0)).1
def qv(kn:KN)(v:Int):Int:=(kn.getD v.toNat (false,0)).2
def wu(kn:KN)(l:ar):Bool:=l.all (XU kn)
def mi(kn:KN)(i:aO):Int×Int:=if 40≤i.op then Gh (i.op-40) (qv kn (i.args.getD 0 0))else nI (i.op-16) (qv kn (i.args.getD 0 0)) (qv kn (i.args.getD 1 0))
def q0(kn:KN)(i:aO):Prop:=16<i.op∧wu kn i.args=true∧(mi kn i).2=0
instance (kn : KN) (i : aO) : Decidable (q0 kn i) := by unfold q0; infer_instance
def rU(kn:KN)(i:aO):aO:=⟨1,i.dst,(mi kn i).1,⟨#[]⟩,none,0,[]⟩
abbrev O9:=List aO×KN×Bool
def mb(s:O9)(i:aO):O9:=if q0 s.2.1 i then(s.1++[rU s.2.1 i],s.2.1.set i.dst.toNat (true,(mi s.2.1 i).1),true)else(s.1++[i],s.2.1,s.2.2)
def oH(kn:KN)(t:Bool)(l:List aO):O9:=l.foldl mb ([],kn,t)
def Ar(kn:KN)(e v:Int):Prop:=e=1∧XU kn v=true
instance (kn : KN) (e v : Int) : Decidable (Ar kn e v) := by unfold Ar; infer_instance
def bK(kn:KN)(x:gO):gO:=if Ar (oH kn false x.insts).2.1 x.e x.v then {x with insts:=(oH kn false x.insts).1,e:=0,v:=0,a:=(if qv (oH kn false x.insts).2.1 x.v=0 then x.b else x.a),b:=0}else {x with insts:=(oH kn false x.insts).1}
def bG(kn:KN)(x:bz):bz:=if Ar (oH kn false x.insts).2.1 x.e x.v then {x with insts:=(oH kn false x.insts).1,e:=0,v:=0,a:=(if qv (oH kn false x.insts).2.1 x.v=0 then x.b else x.a),b:=0}else {x with insts:=(oH kn false x.insts).1}
abbrev StK:=List gO×KN×Bool
def yr(s:StK)(x:gO):StK:=(s.1++[bK s.2.1 x],(oH s.2.1 false x.insts).2.1,s.2.2||(oH s.2.1 false x.insts).2.2||decide (Ar (oH s.2.1 false x.insts).2.1 x.e x.v))
def nU(ks:List gO)(kn:KN):StK:=ks.foldl yr ([],kn,false)
def Au(s:List bz×KN×Bool)(x:bz):List bz×KN×Bool:=(s.1++[bG s.2.1 x],(oH s.2.1 false x.insts).2.1,s.2.2||(oH s.2.1 false x.insts).2.2||decide (Ar (oH s.2.1 false x.insts).2.1 x.e x.v))
def Qbi(gs:List bz)(kn:KN):List bz×KN×Bool:=gs.foldl Au ([],kn,false)
theorem Gi{a:List aO}{kn:KN}{t:Bool}{i:aO}(h:q0 kn i):mb (a,kn,t) i=(a++[rU kn i],kn.set i.dst.toNat (true,(mi kn i).1),true):=by
 unfold mb;rw[eh (show q0 (a,kn,t).2.1 i from h)]
theorem Hv{a:List aO}{kn:KN}{t:Bool}{i:aO}(h:¬q0 kn i):mb (a,kn,t) i=(a++[i],kn,t):=by
 unfold mb;rw[dd (show¬q0 (a,kn,t).2.1 i from h)]
theorem QfV(s:O9)(i:aO):mb (s.1.map aO.e0,s.2) i.e0=((mb s i).1.map aO.e0,(mb s i).2):=by
 unfold mb;by_cases h:q0 s.2.1 i
 ·rw[eh (show q0 (s.1.map aO.e0,s.2).2.1 i.e0 from h),eh h,lh];rfl
 ·rw[dd (show¬q0 (s.1.map aO.e0,s.2).2.1 i.e0 from h),dd h,lh];rfl
theorem QfW(l:List aO)(s:O9):(l.map aO.e0).foldl mb (s.1.map aO.e0,s.2)=((l.foldl mb s).1.map aO.e0,(l.foldl mb s).2):=by
 induction l generalizing s with
 |nil=>rfl
 |cons i l ih=>rw[ze,Qcn,QfV,ih,Qcn]
theorem QdD(kn:KN)(t:Bool)(l:List aO):oH kn t (l.map aO.e0)=((oH kn t l).1.map aO.e0,(oH kn t l).2):=QfW l ([],kn,t)
theorem Qh6(kn:KN)(x:bz):(bG kn x).k=bK kn x.k:=by
 unfold bG bK bz.k;show bz.k (if Ar (oH kn false x.insts).2.1 x.e x.v then _ else _)=_;simp only[QdD];split<;>rfl
theorem QfX(s:List bz×KN×Bool)(x:bz):yr (s.1.map bz.k,s.2) x.k=((Au s x).1.map bz.k,(Au s x).2):=by
 unfold yr Au;rw[lh];show(s.1.map bz.k++[bK s.2.1 x.k],(oH s.2.1 false (x.insts.map aO.e0)).2.1,s.2.2||(oH s.2.1 false (x.insts.map aO.e0)).2.2||decide (Ar (oH s.2.1 false (x.insts.map aO.e0)).2.1 x.e x.v))=_;rw[QdD,←Qh6];rfl
theorem QfY(gs:List bz)(kn:KN):nU (gs.map bz.k) kn=((Qbi gs kn).1.map bz.k,(Qbi gs kn).2):=by
 unfold nU Qbi;have key:∀(l:List bz) (s:List bz×KN×Bool),(l.map bz.k).foldl yr (s.1.map bz.k,s.2)=((l.foldl Au s).1.map bz.k,(l.foldl Au s).2):=by
  intro l;induction l with
  |nil=>intro s;rfl
  |cons x l ih=>intro s;rw[ze,Qcn,QfX,ih,Qcn]
 exact key gs ([],kn,false)
theorem Qbk(l:List aO)(a:List aO)(kn:KN)(t:Bool):l.foldl mb (a,kn,t)=(a++(oH kn false l).1,(oH kn false l).2.1,t||(oH kn false l).2.2):=by
 induction l generalizing a kn t with
 |nil=>simp[oH]
 |cons i l ih=>
  unfold oH;rw[Qcn,Qcn];by_cases h:q0 kn i
  ·rw[Gi h,Gi h,ih,ih];simp
  ·rw[Hv h,Hv h,ih,ih];simp
structure Qho(kn:KN)(l:List aO)(s:O9):Prop where
 less:qF QeU l s.1
 len:s.2.1.length=kn.length
 stop:s.2.2=false→s.1=l∧s.2.1=kn∧∀i,i∈l→¬q0 kn i
 PF:(s.1.filter (fun i=>decide (16<i.op))).length+(if s.2.2 then 1 else 0)≤(l.filter (fun i=>decide (16<i.op))).length
theorem Qek{kn:KN}{i:aO}(h:q0 kn i):QeU i (rU kn i):= .inr ⟨rfl,rfl,rfl,rfl,by have:=h.1;unfold aU;omega⟩
theorem QbP(kn:KN)(l:List aO):∀m,m≤l.length→Qho kn (l.take m) (oH kn false (l.take m)):=by
 intro m;induction m with
 |zero=>intro _;exact⟨qF.nil,rfl,fun _=>⟨rfl,rfl,sI⟩,by simp[oH]⟩
 |succ m ih=>
  intro hm;have h:=ih oM;obtain⟨i,hi⟩:=bu (l:=l) (i:=m) oM;obtain⟨hk,he⟩:=List.getElem?_eq_some_iff.1 hi;have e:l.take (m+1)=l.take m++[i]:=by rw[kj hk,he]
  have e2:oH kn false (l.take (m+1))=mb (oH kn false (l.take m)) i:=by unfold oH;rw[e,QiT];rfl
  obtain⟨s,hs⟩:∃s,s=oH kn false (l.take m):=⟨_,rfl⟩;rw[e2,←hs];rw[←hs]at h;unfold mb;by_cases hd:q0 s.2.1 i
  ·rw[eh hd];refine⟨by rw[e];exact h.less.snoc (Qek hd),by simp[h.len],fun h9=>(by cases h9),?_⟩;rw[e,uK,uK,vA,vA];have h1:=h.PF;have h2:([rU s.2.1 i].filter (fun i=>decide (16<i.op))).length=0:=rfl;have h3:([i].filter (fun i=>decide (16<i.op))).length=1:=by simp[hd.1]
   rw[h2,h3];simp only[Qcy];split at h1<;>omega
  ·rw[dd hd];refine⟨by rw[e];exact h.less.snoc (.inl rfl),h.len,fun h9=> ?_,?_⟩
   ·obtain⟨h1,h2,h3⟩:=h.stop h9;refine⟨by rw[e];show s.1++[i]=_;rw[h1],h2,fun j hj=> ?_⟩;rw[e]at hj;rcases gh.1 hj with hj|hj
    ·exact h3 j hj
    ·rw[jT.1 hj,←h2];exact hd
   ·rw[e,uK,uK,vA,vA];have h1:=h.PF;show _+_+(if s.2.2=true then 1 else 0)≤_;omega
theorem Lc(kn:KN)(l:List aO):Qho kn l (oH kn false l):=by
 have:=QbP kn l l.length (iO _);rwa [Qcl]at this
def wB(x:gO):Nat:=(x.insts.filter (fun i=>decide (16<i.op))).length+(if x.e=1 then 1 else 0)
def wK(ks:List gO):Nat:=(ks.map wB).sum
structure Qhp(kn:KN)(ks:List gO)(s:StK):Prop where
 less:qF Cm ks s.1
 len:s.2.1.length=kn.length
 stop:s.2.2=false→s.1=ks∧s.2.1=kn∧∀x,x∈ks→(∀i,i∈x.insts→¬q0 kn i)∧¬Ar kn x.e x.v
 PF:wK s.1+(if s.2.2 then 1 else 0)≤wK ks
theorem QfZ(kn:KN)(x:gO):Cm x (bK kn x):=by
 unfold bK;have h:=(Lc kn x.insts).less;by_cases he:Ar (oH kn false x.insts).2.1 x.e x.v
 ·rw[eh he];refine⟨rfl,rfl,h,.inr ⟨he.1,rfl,rfl,rfl,?_⟩⟩;show(if _ then x.b else x.a)=x.a∨(if _ then x.b else x.a)=x.b;split
  ·exact .inr rfl
  ·exact .inl rfl
 ·rw[dd he];exact⟨rfl,rfl,h,.inl ⟨rfl,rfl,rfl,rfl⟩⟩
theorem QgO(kn:KN)(x:gO):wB (bK kn x)+(if(oH kn false x.insts).2.2||decide (Ar (oH kn false x.insts).2.1 x.e x.v)then 1 else 0)≤wB x:=by
 have h:=(Lc kn x.insts).PF;unfold bK wB;by_cases he:Ar (oH kn false x.insts).2.1 x.e x.v
 ·rw[eh he,NI he,Bool.or_true];have h1:=he.1;simp only[h1,Qcy];show((oH kn false x.insts).1.filter (fun i=>decide (16<i.op))).length+(if(0:Int)=1 then 1 else 0)+1≤_;rw[dd oM];split at h<;>omega
 ·rw[dd he,Oc he,Bool.or_false];show((oH kn false x.insts).1.filter (fun i=>decide (16<i.op))).length+(if x.e=1 then 1 else 0)+_≤_;omega
theorem Qf0{kn:KN}{x:gO}(h1:(oH kn false x.insts).2.2=false)(h2:¬Ar (oH kn false x.insts).2.1 x.e x.v):bK kn x=x∧(oH kn false x.insts).2.1=kn:=by
 obtain⟨q1,q2,_⟩:=(Lc kn x.insts).stop h1;unfold bK;rw[dd h2,q1];exact⟨rfl,q2⟩
theorem QdE(kn:KN)(ks:List gO):∀m,m≤ks.length→Qhp kn (ks.take m) (nU (ks.take m) kn):=by
 intro m;induction m with
 |zero=>intro _;exact⟨qF.nil,rfl,fun _=>⟨rfl,rfl,sI⟩,by simp[nU,wK]⟩
 |succ m ih=>
  intro hm;have h:=ih oM;obtain⟨x,hx⟩:=bu (l:=ks) (i:=m) oM;obtain⟨hk,he⟩:=List.getElem?_eq_some_iff.1 hx;have e:ks.take (m+1)=ks.take m++[x]:=by rw[kj hk,he]
  have e2:nU (ks.take (m+1)) kn=yr (nU (ks.take m) kn) x:=by unfold nU;rw[e,QiT];rfl
  obtain⟨s,hs⟩:∃s,s=nU (ks.take m) kn:=⟨_,rfl⟩;rw[e2,←hs];rw[←hs]at h;unfold yr;refine⟨by rw[e];exact h.less.snoc (QfZ _ _),by rw[←h.len];exact(Lc s.2.1 x.insts).len,fun h9=> ?_,?_⟩
  ·have h9':(s.2.2||(oH s.2.1 false x.insts).2.2||decide (Ar (oH s.2.1 false x.insts).2.1 x.e x.v))=false:=h9;rw[Bool.or_eq_false_iff,Bool.or_eq_false_iff]at h9';obtain⟨⟨h1,h2⟩,h3⟩:=h9';obtain⟨q1,q2,q3⟩:=h.stop h1;have h3:=iC h3;obtain⟨q4,q5⟩:=Qf0 h2 h3;obtain⟨_,_,q6⟩:=(Lc s.2.1 x.insts).stop h2;refine⟨by rw[e];show s.1++[bK s.2.1 x]=_;rw[q1,q4],q5.trans q2,fun y hy=> ?_⟩;rw[e]at hy;rcases gh.1 hy with hy|hy
   ·exact q3 y hy
   ·rw[jT.1 hy,←q2];rw[q5]at h3;exact⟨q6,h3⟩
  ·have h1:=h.PF;have h2:=QgO s.2.1 x;unfold wK at h1⊢;rw[e,lh,lh,List.sum_append,List.sum_append];show _+[wB (bK s.2.1 x)].sum+(if(s.2.2||(oH s.2.1 false x.insts).2.2||decide (Ar (oH s.2.1 false x.insts).2.1 x.e x.v))=true then 1 else 0)≤_+[wB x].sum;simp only[Qcm,List.sum_nil,Nat.add_zero];cases mT:s.2.2 with
   |true=>
    rw[mT]at h1;simp only[Qcy,Bool.true_or]at h1⊢;split at h2<;>omega
   |false=>
    rw[mT]at h1;simp only[Bool.false_or]at h1⊢;have h1':(List.map wB s.1).sum≤(List.map wB (List.take m ks)).sum:=by simpa using h1
    split at h2
    ·rename_i hq;rw[eh hq];omega
    ·rename_i hq;rw[dd hq];omega
theorem QeZ(ks:List gO)(kn:KN):Qhp kn ks (nU ks kn):=by
 have:=QdE kn ks ks.length (iO _);rwa [Qcl]at this
end Go.Mor
namespace Go.Mor
open Go.RowKit
theorem Qd4(x:Int):In64 (IntKind.i64.wrap x):=by
 have h:∀m:Int,0≤m→m<18446744073709551616→In64 (if 9223372036854775808≤m then m-18446744073709551616 else m):=fun m h0 h1=>by
  unfold In64;by_cases hm:9223372036854775808≤m
  ·rw[eh hm];omega
  ·rw[dd hm];omega
 have h2:=h (x % 18446744073709551616) oM oM;unfold IntKind.wrap;simpa[IntKind.signed,IntKind.bits]using h2
theorem Fa:In64 0:=⟨dQ,dQ⟩
theorem Qdb(b:Bool):In64 (EK b):=by cases b<;>exact⟨dQ,dQ⟩
theorem Qf1{a b:Int}(h:In64 a):In64 (a.tmod b):=by
 unfold In64 at*;have h2:(a.tmod b).natAbs≤a.natAbs:=by rw[Int.natAbs_tmod];exact Nat.mod_le _ _
 by_cases h0:0≤a
 ·have:=Int.tmod_nonneg b h0;omega
 ·have h3:=Int.tmod_nonneg b (show 0≤-a by omega);rw[Int.neg_tmod]at h3;omega
theorem Qf2{a:Int}{n:Nat}(h:In64 a):In64 (a.fdiv (2^n)):=by
 unfold In64 at*;have hp:(1:Int)≤2^n:=by have:(1:Nat)≤2^n:=Nat.one_le_two_pow;exact_mod_cast this
 rw[Int.fdiv_eq_ediv_of_nonneg _ oM];by_cases h0:0≤a
 ·have h1:=Int.ediv_le_self (2^n:Int) h0;have h2:0≤a / 2^n:=Int.ediv_nonneg h0 oM;omega
 ·have h1:a / 2^n<0:=Int.ediv_lt_of_lt_mul oM oM;have h2:a≤a / 2^n:=by rw[Int.le_ediv_iff_mul_le oM];have h4:=Int.mul_le_mul_of_nonneg_left hp (show 0≤-a by omega);rw[Int.neg_mul,Int.neg_mul]at h4;omega
  omega
theorem QcH{P:Prop}[Decidable P]{p q:Int×Int}(hp:In64 p.1)(hq:In64 q.1):In64 (if P then p else q).1:=by
 split
 ·exact hp
 ·exact hq
theorem QgP{op a b:Int}(ha:In64 a):In64 (nI op a b).1:=by
 unfold nI xN Qej;repeat' apply QcH
 all_goals first|exact Qd4 _|exact Fa|exact Qdb _|exact Qf1 ha|exact Qf2 ha
theorem Qhq{op a:Int}:In64 (Gh op a).1:=by
 unfold Gh;repeat' apply QcH
 all_goals first|exact Qd4 _|exact Fa|exact Qdb _
def sX(ks:List gO):List aO:=ks.flatMap (fun x=>x.insts)
def vk(kn:KN)(l:List aO):Prop:=∀i,i∈l→i.op=1→kn.getD i.dst.toNat (false,0)=(true,i.n)
structure rI(n:Nat)(l:List aO):Prop where
 nd:((l.filter (fun i=>decide (aU i.op))).map (fun i=>i.dst)).Nodup
 yW:∀i,i∈l→aU i.op→0≤i.dst∧i.dst.toNat<n
theorem NQ:aU 1:=by unfold aU;omega
theorem QcI{α:Type}{l:List α}{i j:Nat}{a d:α}:(l.set i a).getD j d=if i=j∧i<l.length then a else l.getD j d:=by
 rw[List.getD_eq_getElem?_getD,List.getD_eq_getElem?_getD,List.getElem?_set];by_cases e:i=j
 ·subst e;by_cases hl:i<l.length
  ·rw[eh rfl,eh hl,eh ⟨rfl,hl⟩];rfl
  ·rw[eh rfl,dd hl,dd (fun h=>hl h.2),List.getElem?_eq_none oM]
 ·rw[dd e,dd (fun h=>e h.1)]
theorem rI.mid{n:Nat}{a r:List aO}{i j:aO}(h:rI n (a++i::r))(hi:aU i.op)(hj:aU j.op)(hm:j∈a++r):j.dst≠i.dst:=by
 have h1:=h.nd;rw[uK,xH,eh (by simp[hi]),lh,ze,ND]at h1;obtain⟨_,h3,h4⟩:=h1;rcases gh.1 hm with h5|h5
 ·exact h4 j.dst (dB.2 ⟨j,ph.2 ⟨h5,by simp[hj]⟩,rfl⟩) i.dst (o0 ..)
 ·intro e;exact(QiN.1 h3).1 (e▸dB.2 ⟨j,ph.2 ⟨h5,by simp[hj]⟩,rfl⟩)
theorem rI.put{n:Nat}{a r:List aO}{i i':aO}(h:rI n (a++i::r))(hi:aU i.op)(ln:aU i'.op)(hd:i'.dst=i.dst):rI n (a++i'::r):=by
 refine⟨?_,fun j hj hm=> ?_⟩
 ·have h1:=h.nd;rw[uK,xH,eh (by simp[hi]),lh,ze]at h1;rw[uK,xH,eh (by simp[ln]),lh,ze,hd];exact h1
 ·rcases gh.1 hj with h1|h1
  ·exact h.yW j (qB _ h1) hm
  ·rcases iR.1 h1 with h1|h1
   ·subst h1;rw[hd];exact h.yW i sI hi
   ·exact h.yW j (by simp[h1]) hm
theorem rI.ne{n:Nat}{a r:List aO}{i j:aO}(h:rI n (a++i::r))(hi:aU i.op)(hj:aU j.op)(hm:j∈a++r):j.dst.toNat≠i.dst.toNat:=by
 have h1:=h.mid hi hj hm;have h2:=(h.yW i sI hi).1;have h3:=(h.yW j (by rcases gh.1 hm with h|h<;>simp[h]) hj).1;omega
theorem Qf3{kn:KN}{a r:List aO}{i:aO}(hn:rI kn.length (a++i::r))(hk:vk kn (a++i::r))(hd:q0 kn i):vk (kn.set i.dst.toNat (true,(mi kn i).1)) (a++rU kn i::r):=by
 have hi:aU i.op:=by have:=hd.1;unfold aU;omega
 intro j hj h1;rw[QcI];have key:j∈a++r→(if i.dst.toNat=j.dst.toNat∧i.dst.toNat<kn.length then(true,(mi kn i).1)else kn.getD j.dst.toNat (false,0))=(true,j.n):=by intro hm;have:=hn.ne hi (by rw[h1];exact NQ) hm;rw[dd (fun h=>this h.1.symm)];exact hk j (by rcases gh.1 hm with h|h<;>simp[h]) h1
 rcases gh.1 hj with h2|h2
 ·exact key (qB _ h2)
 ·rcases iR.1 h2 with h2|h2
  ·subst h2;rw[eh ⟨rfl,(hn.yW i sI hi).2⟩];rfl
  ·exact key (QcD _ h2)
theorem QcJ:∀(l a:List aO) (kn:KN) (t:Bool),rI kn.length (a++l)→vk kn (a++l)→rI kn.length (l.foldl mb (a,kn,t)).1∧vk (l.foldl mb (a,kn,t)).2.1 (l.foldl mb (a,kn,t)).1∧(l.foldl mb (a,kn,t)).2.1.length=kn.length
 |[],a,kn,t,hn,hk=>by rw[Od]at hn hk;exact⟨hn,hk,rfl⟩
 |i::l,a,kn,t,hn,hk=>by
  rw[Qcn];by_cases hd:q0 kn i
  ·rw[Gi hd];have hi:aU i.op:=by have:=hd.1;unfold aU;omega
   have e:a++rU kn i::l=(a++[rU kn i])++l:=sI;have h1:=hn.put hi (i':=rU kn i) NQ rfl;have h2:=Qf3 hn hk hd;rw[e]at h1 h2;have hl:(kn.set i.dst.toNat (true,(mi kn i).1)).length=kn.length:=QfI;have:=QcJ l (a++[rU kn i]) (kn.set i.dst.toNat (true,(mi kn i).1)) true (by rw[hl];exact h1) h2;rwa [hl]at this
  ·rw[Hv hd];have e:a++i::l=(a++[i])++l:=sI;rw[e]at hn hk;exact QcJ l (a++[i]) kn t hn hk
theorem Qbm(kn:KN)(x:gO):(bK kn x).insts=(oH kn false x.insts).1:=by unfold bK;split<;>rfl
theorem QbQ:∀(ks done:List gO) (kn:KN) (t:Bool),sX (ks.foldl yr (done,kn,t)).1=((sX ks).foldl mb (sX done,kn,t)).1∧(ks.foldl yr (done,kn,t)).2.1=((sX ks).foldl mb (sX done,kn,t)).2.1
 |[],done,kn,t=>⟨rfl,rfl⟩
 |x::ks,done,kn,t=>by
  have e:sX (x::ks)=x.insts++sX ks:=rfl;rw[Qcn,e,QiT,Qbk x.insts];have e2:sX (done++[bK kn x])=sX done++(oH kn false x.insts).1:=by unfold sX;rw[Qjb,D3,List.flatMap_nil,Od,Qbm]
  obtain⟨h1,h2⟩:=QbQ ks (done++[bK kn x]) (oH kn false x.insts).2.1 (t||(oH kn false x.insts).2.2||decide (Ar (oH kn false x.insts).2.1 x.e x.v));rw[e2]at h1 h2;have ht:∀(l a:List aO) (kn:KN) (t t':Bool),(l.foldl mb (a,kn,t)).1=(l.foldl mb (a,kn,t')).1∧(l.foldl mb (a,kn,t)).2.1=(l.foldl mb (a,kn,t')).2.1:=by intro l a kn t t';rw[Qbk,Qbk l a kn t'];exact⟨rfl,rfl⟩
  refine⟨h1.trans (ht _ _ _ _ _).1,h2.trans (ht _ _ _ _ _).2⟩
theorem Qf4{ks:List gO}{kn:KN}(hn:rI kn.length (sX ks))(hk:vk kn (sX ks)):vk (nU ks kn).2.1 (sX (nU ks kn).1)∧(nU ks kn).2.1.length=kn.length:=by
 obtain⟨h1,h2⟩:=QbQ ks [] kn false;obtain⟨_,h3,h4⟩:=QcJ (sX ks) [] kn false hn hk;have e:sX ([]:List gO)=[]:=rfl;rw[e]at h1 h2;unfold nU;rw[h1,h2];exact⟨h3,h4⟩
def kt(l:List aO)(z:KN):KN:=l.foldl (fun kn i=>if i.op=1 then kn.set i.dst.toNat (true,i.n)else kn) z
def qN(ks:List gO)(n:Nat):KN:=kt (sX ks) (List.replicate n (false,0))
theorem BX(l:List aO)(z:KN):(kt l z).length=z.length:=by
 unfold kt;induction l generalizing z with
 |nil=>rfl
 |cons i l ih=>rw[Qcn,ih];split<;>simp
theorem Xl(l:List aO)(i:aO)(z:KN):kt (l++[i]) z=if i.op=1 then(kt l z).set i.dst.toNat (true,i.n)else kt l z:=by unfold kt;rw[QiT];rfl
theorem Qe0{l:List aO}{n:Nat}(hn:rI n l):∀m,m≤l.length→vk (kt (l.take m) (List.replicate n (false,0))) (l.take m):=by
 intro m;induction m with
 |zero=>intro _ i hi;simp at hi
 |succ m ih=>
  intro hm i hi h1;have h:=ih oM;obtain⟨a,ha⟩:=bu (l:=l) (i:=m) oM;have e:l=l.take m++a::l.drop (m+1):=by conv=>lhs;rw[←Qgu m l,BW ha]
  have e1:l.take (m+1)=l.take m++[a]:=by obtain⟨q1,q2⟩:=List.getElem?_eq_some_iff.1 ha;rw[kj q1,q2]
  rw[e1,Xl];rw[e1]at hi;have hl:=BX (l.take m) (List.replicate n (false,0));rw[QdX]at hl;rw[e]at hn;have hlen:(kt (l.take m) (List.replicate n (false,(0:Int)))).length=n:=hl;rcases gh.1 hi with hi|hi
  ·split
   ·rename_i L2;have:=hn.ne (by rw[L2];exact NQ) (j:=i) (by rw[h1];exact NQ) (qB _ hi);rw[QcI,dd (fun h=>this h.1.symm)];exact h i hi h1
   ·exact h i hi h1
  ·rw[jT]at hi;subst hi;rw[eh h1,QcI,eh ⟨rfl,by rw[hlen];exact(hn.yW i sI (by rw[h1];exact NQ)).2⟩]
theorem Qbn{ks:List gO}{n:Nat}(hn:rI n (sX ks)):vk (qN ks n) (sX ks):=by
 have:=Qe0 hn (sX ks).length (iO _);rwa [Qcl]at this
theorem QjI(l:List aO)(n:Nat)(v:Int):XU (kt l (List.replicate n (false,0))) v=true→∃i,i∈l∧i.op=1∧i.dst.toNat=v.toNat:=by
 have key:∀(l:List aO) (z:KN),XU (kt l z) v=true→XU z v=true∨∃i,i∈l∧i.op=1∧i.dst.toNat=v.toNat:=by
  intro l;induction l with
  |nil=>intro z h;exact .inl h
  |cons i l ih=>
   intro z h;have e:kt (i::l) z=kt l (if i.op=1 then z.set i.dst.toNat (true,i.n)else z):=rfl;rw[e]at h;rcases ih _ h with h1|⟨j,hj,h2⟩
   ·split at h1
    ·rename_i h3;unfold XU at h1;rw[QcI]at h1;split at h1
     ·rename_i h4;exact .inr ⟨i,o0 ..,h3,h4.1⟩
     ·exact .inl h1
    ·exact .inl h1
   ·exact .inr ⟨j,jF _ hj,h2⟩
 intro h;rcases key l _ h with h1|h1
 ·exfalso;unfold XU at h1;rw[List.getD_eq_getElem?_getD,List.getElem?_replicate]at h1;split at h1<;>cases h1
 ·exact h1
theorem QcK{pa va:Int}{ks:List gO}{n:Nat}(hp:0≤pa)(kx:va=(n:Int))(h:ey pa va (bF (fK ks))):rI n (sX ks):=by
 refine⟨?_,fun i hi hm=> ?_⟩
 ·have h2:=h.2;rw[pf]at h2;refine h2.sublist ?_;unfold sX;rw[List.filter_flatMap,List.map_flatMap,show fK ks=ks.map gO.f from rfl,Qje];refine ZL ⟨rfl,fun i a b ha hb=> ?_⟩;rw[ha]at hb;injection hb with hb;subst hb;exact List.sublist_append_right _ _
 ·obtain⟨x,hx,hi⟩:=xC.1 hi;obtain⟨k,hk⟩:=en.1 hx;obtain⟨j,hj⟩:=en.1 hi;have:=h.1 _ (sq.2 ⟨k,x.f,K3 hk,rfl,.inr ⟨j,i,hj,hm,rfl,rfl⟩⟩);have h1:pa≤i.dst:=this.1;have h2:i.dst<va:=this.2;omega
end Go.Mor
namespace Go.Mor
open Go.RowKit
theorem XV{α β:Type}{f:α→Nat}{g:β→Nat}:∀{l:List α} {m:List β},qF (fun a b=>g b≤f a) l m→(m.map g).sum≤(l.map f).sum
 |[],[],_=>iO _
 |[],b::m,h=>by have:=h.1;simp at this
 |a::l,[],h=>by have:=h.1;simp at this
 |a::l,b::m,h=>by have h1:=h.2 0 a b rfl rfl;have h2:=XV (l:=l) (m:=m) ⟨by have:=h.1;simpa using this,fun i x y hx hy=>h.2 (i+1) x y hx hy⟩;rw[ze,ze,Qcm,Qcm];omega
theorem Qd5{α β:Type}{f:α→Nat}{g:β→Nat}:∀{l:List α} {m:List β},qF (fun a b=>g b≤f a) l m→∀{k:Nat} {a:α} {b:β},l[k]?=some a→m[k]?=some b→g b<f a→(m.map g).sum<(l.map f).sum
 |[],m,_,k,a,b,hl,_,_=>by simp at hl
 |a::l,[],h,_,_,_,_,_,_=>by have:=h.1;simp at this
 |a::l,b::m,h,k,x,y,hx,hy,fm=>by
  have h1:=h.2 0 a b rfl rfl;have h3:qF (fun a b=>g b≤f a) l m:=⟨by have:=h.1;simpa using this,fun i x y hx hy=>h.2 (i+1) x y hx hy⟩;rw[ze,ze,Qcm,Qcm];cases k with
  |zero=>
   injection hx with hx;injection hy with hy;subst hx;subst hy;have h2:=XV h3;omega
  |succ k=>
   have h2:=Qd5 h3 hx hy fm;omega
def KW(x:gO):Nat:=if x.gone then 0 else 1
theorem Rk(ks:List gO):(pP ks).length=(ks.map KW).sum:=by
 induction ks with
 |nil=>rfl
 |cons x ks ih=>
  rw[ze,Qcm,←ih];unfold pP KW;rw[xH];cases x.gone<;>simp<;>omega
def wM(ks:List gO):Nat:=wK ks+(pP ks).length
section
variable {ks ms : List gO} {kn : KN} {nm : ByteArray} {pa va : Int}
theorem Qf5(h:qF Cm ks ms):(pP ms).length=(pP ks).length:=by
 rw[Rk,Rk];congr 1;exact(h.map_eq fun x y _ _ hb=>by unfold KW;rw[hb.gone]).symm
theorem Yj(kn:KN)(h:(nU ks kn).2.2=true):wM (nU ks kn).1<wM ks:=by
 have hp:=QeZ ks kn;have h1:=hp.PF;have h2:=Qf5 hp.less;rw[h,eh rfl]at h1;unfold wM;omega
theorem T1(ks:List gO):qF (fun x y=>y.insts.length≤x.insts.length∧y.ah.length≤x.ah.length∧wB y≤wB x∧KW y≤KW x) ks (kg ks):=by
 refine⟨(o2 ks).symm,fun k x y hx hy=> ?_⟩;rw[tn hx]at hy;injection hy with hy;subst hy;unfold sj;split
 ·refine⟨nL _,nL _,?_,nL _⟩;show(([]:List aO).filter _).length+(if(2:Int)=1 then 1 else 0)≤_;simp
 ·exact⟨iO _,by show(x.ah.map _).length≤_;rw[ep];exact iO _,iO _,iO _⟩
theorem qF.imp{α β:Type}{R S:α→β→Prop}{l:List α}{m:List β}(h:qF R l m)(hi:∀a b,R a b→S a b):qF S l m:=⟨h.1,fun i a b ha hb=>hi a b (h.2 i a b ha hb)⟩
theorem Qe1(ks:List gO):wK (kg ks)≤wK ks:=XV ((T1 ks).imp fun _ _ h=>h.2.2.1)
theorem Rm(h:sW ks=true):wM (kg ks)<wM ks:=by
 have h1:=Qe1 ks;have h2:(pP (kg ks)).length<(pP ks).length:=by rw[Rk,Rk];unfold sW at h;obtain⟨k,x,hx,hg,hr⟩:=(@decide_eq_true_iff _ (Classical.propDecidable _)).1 h;refine Qd5 ((T1 ks).imp fun _ _ h=>h.2.2.2) hx (tn hx) ?_;unfold sj;rw[eh ⟨hr,hg⟩];show(0:Nat)<KW x;unfold KW;rw[hg];decide
 unfold wM;omega
theorem Qb8(h:qF Cm ks ms):hY (fK ms)=hY (fK ks):=by
 rw[vR,vR,h.1];congr 2;exact(h.map_eq fun x y _ _ hb=>by rw[hb.ah,hb.insts.1]).symm
theorem Po(ks:List gO):hY (fK (kg ks))≤hY (fK ks):=by
 rw[vR,vR,o2];have:=XV (f:=fun x:gO=>x.ah.length+x.insts.length) (g:=fun x:gO=>x.ah.length+x.insts.length) ((T1 ks).imp fun _ _ h=>by have:=h.1;have:=h.2.1;omega);omega
noncomputable def Ds:Nat→List gO→KN→List gO
 |0,ks,_=>ks
 |n+1,ks,kn=>if(nU ks kn).2.2=true then Ds n (nU ks kn).1 (nU ks kn).2.1 else if sW ks=true then Ds n (kg ks) kn else kg ks
noncomputable def Le(ks:List gO)(kn:KN):List gO:=Ds (wM ks+1) ks kn
theorem Ro:∀(n:Nat) (ks:List gO) (kn:KN) (m:Nat),wM ks<n→wM ks<m→Ds n ks kn=Ds m ks kn
 |0,_,_,_,h,_=>oM
 |_,_,_,0,_,h=>oM
 |n+1,ks,kn,m+1,hn,hm=>by
  unfold Ds;by_cases h1:(nU ks kn).2.2=true
  ·rw[eh h1,eh h1];have:=Yj kn h1;exact Ro n _ _ m oM oM
  ·rw[dd h1,dd h1];by_cases h2:sW ks=true
   ·rw[eh h2,eh h2];have:=Rm h2;exact Ro n _ _ m oM oM
   ·rw[dd h2,dd h2]
theorem Qe2(h:(nU ks kn).2.2=true):Le (nU ks kn).1 (nU ks kn).2.1=Le ks kn:=by
 unfold Le;have e:Ds (wM ks+1) ks kn=Ds (wM ks) (nU ks kn).1 (nU ks kn).2.1:=by show(if _ then _ else _)=_;rw[eh h]
 rw[e];have:=Yj kn h;exact Ro _ _ _ _ oM oM
theorem QgQ(h:(nU ks kn).2.2=false)(h2:sW ks=true):Le (kg ks) kn=Le ks kn:=by
 unfold Le;have e:Ds (wM ks+1) ks kn=Ds (wM ks) (kg ks) kn:=by show(if _ then _ else _)=_;rw[dd (by rw[h];decide),eh h2]
 rw[e];have:=Rm h2;exact Ro _ _ _ _ oM oM
theorem QdF(h:(nU ks kn).2.2=false)(h2:sW ks=false):Le ks kn=kg ks:=by
 unfold Le;show(if _ then _ else _)=_;rw[dd (by rw[h];decide),dd (by rw[h2];decide)]
def Dt(kn:KN)(ks:List gO):Prop:=∀x,x∈ks→(∀i,i∈x.insts→¬q0 kn i)∧¬Ar kn x.e x.v
def sP(ks:List gO):Prop:=∀x,x∈ks→x.insts.map aO.e0=x.insts
def pq(kn:KN):Prop:=∀c,c∈kn→In64 c.2
def Xq(ks:List gO):Prop:=∀x,x∈ks→(∀i,i∈x.insts→i.Ok)∧In64 x.e∧In64 x.v∧In64 x.a∧In64 x.b∧(∀p,p∈x.ah→In64 p.dst)
theorem Qf6(h:sP ks)(kn:KN):sP (nU ks kn).1:=by
 have key:∀(l done:List gO) (kn:KN) (t:Bool),sP l→sP done→sP (l.foldl yr (done,kn,t)).1:=by
  intro l;induction l with
  |nil=>intro done kn t _ h;exact h
  |cons x l ih=>
   intro done kn t hl hd;rw[Qcn];refine ih _ _ _ (fun y hy=>hl y (jF _ hy)) fun y hy=> ?_
   rcases gh.1 hy with hy|hy
   ·exact hd y hy
   ·rw[jT.1 hy,Qbm];have:=QdD kn false x.insts;rw[hl x (o0 ..)]at this;exact(dj Prod.fst this).symm
 exact key ks [] kn false h (by intro y hy;cases hy)
theorem Qbo(h:sP ks):sP (kg ks):=by
 intro y hy;obtain⟨k,hk⟩:=en.1 hy;obtain⟨x,hx⟩:=qH hk;rw[tn hx]at hk;injection hk with hk;subst hk;unfold sj;split
 ·rfl
 ·exact h x (cc hx)
theorem QgR(hk:pq kn)(v:Int):In64 (qv kn v):=by
 unfold qv;rw[List.getD_eq_getElem?_getD];cases h:kn[v.toNat]? with
 |none=>exact Fa
 |some c=>exact hk c (cc h)
theorem Qd6(hk:pq kn)(i:aO):In64 (mi kn i).1:=by
 unfold mi;exact QcH Qhq (QgP (QgR hk _))
theorem pq.set(hk:pq kn){v:Int}(hv:In64 v)(j:Nat):pq (kn.set j (true,v)):=by
 intro c hc;rcases QjM hc with h|h
 ·exact hk c h
 ·rw[h];exact hv
theorem QcL:∀(l a:List aO) (kn:KN) (t:Bool),pq kn→(∀i,i∈a→i.Ok)→(∀i,i∈l→i.Ok)→pq (l.foldl mb (a,kn,t)).2.1∧∀i,i∈(l.foldl mb (a,kn,t)).1→i.Ok
 |[],a,kn,t,hk,ha,_=>⟨hk,ha⟩
 |i::l,a,kn,t,hk,ha,hl=>by
  rw[Qcn];by_cases hd:q0 kn i
  ·rw[Gi hd];refine QcL l _ _ _ (hk.set (Qd6 hk i) _) (fun j hj=> ?_) fun j hj=>hl j (jF _ hj)
   rcases gh.1 hj with hj|hj
   ·exact ha j hj
   ·rw[jT.1 hj];have:=hl i (o0 ..);exact⟨⟨by show(-9223372036854775808:Int)≤1;omega,by show(1:Int)≤9223372036854775807;omega⟩,this.dst,Qd6 hk i,by show(0:Nat)≤_;omega,by show(0:Nat)≤_;omega,by intro x hx;cases hx⟩
  ·rw[Hv hd];refine QcL l _ _ _ hk (fun j hj=> ?_) fun j hj=>hl j (jF _ hj)
   rcases gh.1 hj with hj|hj
   ·exact ha j hj
   ·rw[jT.1 hj];exact hl i (o0 ..)
theorem Qf7(h:Xq ks)(hk:pq kn):Xq (nU ks kn).1∧pq (nU ks kn).2.1:=by
 have key:∀(l done:List gO) (kn:KN) (t:Bool),Xq l→Xq done→pq kn→Xq (l.foldl yr (done,kn,t)).1∧pq (l.foldl yr (done,kn,t)).2.1:=by
  intro l;induction l with
  |nil=>intro done kn t _ h hk;exact⟨h,hk⟩
  |cons x l ih=>
   intro done kn t hl hd hk;rw[Qcn];obtain⟨hx,h1,h2,h3,h4,h5⟩:=hl x (o0 ..);obtain⟨q1,q2⟩:=QcL x.insts [] kn false hk (by intro i hi;cases hi) hx;refine ih _ _ _ (fun y hy=>hl y (jF _ hy)) (fun y hy=> ?_) q1;rcases gh.1 hy with hy|hy
   ·exact hd y hy
   ·rw[jT.1 hy];show(∀i,i∈(bK kn x).insts→_)∧_;rw[Qbm];refine⟨q2,?_⟩;unfold bK;split
    ·refine⟨Fa,Fa,?_,Fa,h5⟩;show In64 (if _ then x.b else x.a);split<;>assumption
    ·exact⟨h1,h2,h3,h4,h5⟩
 exact key ks [] kn false h (by intro y hy;cases hy) hk
theorem Qdd(h:Xq ks):Xq (kg ks):=by
 intro y hy;obtain⟨k,hk⟩:=en.1 hy;obtain⟨x,hx⟩:=qH hk;rw[tn hx]at hk;injection hk with hk;subst hk;obtain⟨h0,h1,h2,h3,h4,h5⟩:=h x (cc hx);unfold sj;split
 ·exact⟨(by intro i hi;cases hi),⟨by show(-9223372036854775808:Int)≤2;omega,by show(2:Int)≤9223372036854775807;omega⟩,⟨by show(-9223372036854775808:Int)≤-1;omega,by show(-1:Int)≤9223372036854775807;omega⟩,h3,h4,(by intro p hp;cases hp)⟩
 ·refine⟨h0,h1,h2,h3,h4,fun p hp=> ?_⟩;obtain⟨q,hq,rfl⟩:=dB.1 (show p∈x.ah.map _ from hp);exact h5 q hq
structure QgC(nm:cV)(pa va:Int)(sz:Nat)(ks rs:List gO)(kn:KN):Prop where
 UH:vU nm pa va rs
 tight:EJ rs
 len:rs.length=ks.length
 size:hY (fK rs)≤sz
 e0:sP rs
 knq:vk kn (sX rs)
 still:Dt kn rs
theorem Qbp{i:aO}(h:i∈sX (kg ks)):i∈sX ks:=by
 obtain⟨y,hy,hi⟩:=xC.1 h;obtain⟨k,hk⟩:=en.1 hy;obtain⟨x,hx⟩:=qH hk;rw[tn hx]at hk;injection hk with hk;subst hk;unfold sj at hi;split at hi
 ·cases hi
 ·exact xC.2 ⟨x,cc hx,hi⟩
theorem Qde(h:Dt kn ks):Dt kn (kg ks):=by
 intro y hy;obtain⟨k,hk⟩:=en.1 hy;obtain⟨x,hx⟩:=qH hk;rw[tn hx]at hk;injection hk with hk;subst hk;obtain⟨h1,h2⟩:=h x (cc hx);unfold sj;split
 ·exact⟨(by intro i hi;cases hi),fun hh=>by have h3:(2:Int)=1:=hh.1;omega⟩
 ·exact⟨h1,h2⟩
theorem UP{n:Nat}(kx:va=(n:Int)):∀(f:Nat) (ks:List gO) (kn:KN),wM ks<f→vU nm pa va ks→vk kn (sX ks)→kn.length=n→sP ks→∃B5,QgC nm pa va (hY (fK ks)) ks (Ds f ks kn) B5
 |0,_,_,h,_,_,_,_=>oM
 |f+1,ks,kn,hf,hg,hk,hl,he=>by
  have hp:=QeZ ks kn;have C7:=QcK hg.par.1 kx hg.once;rw[←hl]at C7;obtain⟨q1,q2⟩:=Qf4 C7 hk;unfold Ds;by_cases h1:(nU ks kn).2.2=true
  ·rw[eh h1];have:=Yj kn h1;obtain⟨B5,h⟩:=UP kx f (nU ks kn).1 (nU ks kn).2.1 oM (QbO hg hp.less) q1 (by rw[q2,hl]) (Qf6 he kn);rw[Qb8 hp.less]at h;exact⟨B5,h.UH,h.tight,by rw[h.len,←hp.less.1],h.size,h.e0,h.knq,h.still⟩
  ·rw[dd h1];have h1f:(nU ks kn).2.2=false:=by simpa using h1
   by_cases h2:sW ks=true
   ·rw[eh h2];have:=Rm h2;have UN:=Po ks;obtain⟨B5,h⟩:=UP kx f (kg ks) kn oM (yn hg).1 (fun i hi=>hk i (Qbp hi)) hl (Qbo he);exact⟨B5,h.UH,h.tight,by rw[h.len,o2],by have:=h.size;omega,h.e0,h.knq,h.still⟩
   ·rw[dd h2];obtain⟨_,_,h3⟩:=hp.stop h1f;exact⟨kn,(yn hg).1,(yn hg).2,o2 ks,Po ks,Qbo he,fun i hi=>hk i (Qbp hi),Qde h3⟩
theorem Qbq:∀(f:Nat) (ks:List gO) (kn:KN),Xq ks→pq kn→Xq (Ds f ks kn)
 |0,_,_,h,_=>h
 |f+1,ks,kn,h,hk=>by
  obtain⟨q1,q2⟩:=Qf7 h hk;unfold Ds;split
  ·exact Qbq f _ _ q1 q2
  ·split
   ·exact Qbq f _ _ (Qdd h) hk
   ·exact Qdd h
end
end Go.Mor
namespace Go.Mor
open Go.RowKit
def W1(n:Nat)(key:Nat→Int):List Nat:=(List.range n).mergeSort (fun i j=>decide (key i≤key j))
theorem Qd7(n:Nat)(key:Nat→Int):jY n key (W1 n key):=by
 refine⟨List.mergeSort_perm _ _,?_⟩;have h:=List.pairwise_mergeSort (le:=fun i j=>decide (key i≤key j)) (fun a b c h1 h2=>by simp only[dF]at*;omega) (fun a b=>by simp only[pQ,dF];omega) (List.range n);exact h.imp fun h=>gS h
def toP(nl:ar)(p:vb):bI:=⟨p.dst,none,0,(W1 p.from_.length (rJ nl p.from_)).map (fun i=>p.args.getD i 0)⟩
def toBl(nl:ar)(x:gO):ay:=⟨none,0,x.ah.map (toP nl),none,0,x.insts,x.e,x.v,toA nl x.e x.a,toBb nl x.e x.b⟩
def toF(ks:List gO):List ay:=(pP ks).map (toBl (ve (nh ks)))
theorem qF.map{α β:Type}{R:α→β→Prop}{f:α→β}{l:List α}(h:∀a,a∈l→R a (f a)):qF R l (l.map f):=by
 refine⟨by rw[ep],fun i a b ha hb=> ?_⟩;rw[List.getElem?_map,ha]at hb;injection hb with hb;rw[←hb];exact h a (cc ha)
theorem Qf8{ks:List gO}(he:sP ks):Yi ks (toF ks):=qF.map fun x hx=>by
 have yk:x∈ks:=(ph.1 hx).1;exact⟨qF.map fun p _=>⟨rfl,_,Qd7 _ _,rfl⟩,he x yk,rfl,rfl,rfl,rfl⟩
theorem Qdf{n:Nat}{key:Nat→Int}{l m:List Nat}(h1:jY n key l)(h2:jY n key m)(hi:∀i j,i<n→j<n→key i=key j→i=j):l=m:=by
 have up:∀{l:List Nat},jY n key l→(l.map key).Pairwise (·<·):=by
  intro l h;rw[QiR];have hn:l.Nodup:=h.1.nodup_iff.2 Qjd;have h3:l.Pairwise (fun i j=>key i≤key j∧i≠j):=h.2.and hn;refine h3.imp_of_mem fun {a b} ha hb hq=> ?_
  have nQ:=ld.1 (h.1.mem_iff.1 ha);have Co:=ld.1 (h.1.mem_iff.1 hb);have cU:key a≠key b:=fun e=>hq.2 (hi a b nQ Co e)
  have:=hq.1;omega
 have e:l.map key=m.map key:=Qdy (up h1) (up h2) fun a=>by simp only[dB];exact⟨fun⟨i,h3,h4⟩=>⟨i,h2.1.mem_iff.2 (h1.1.mem_iff.1 h3),h4⟩,fun⟨i,h3,h4⟩=>⟨i,h1.1.mem_iff.2 (h2.1.mem_iff.1 h3),h4⟩⟩
 refine uv fun i=> ?_
 have e1:=dj (fun l:ar=>l[i]?) e;simp only[List.getElem?_map]at e1;cases hl:l[i]? with
 |none=>rw[hl]at e1;cases hm:m[i]? with
  |none=>rfl
  |some b=>rw[hm]at e1;cases e1
 |some a=>rw[hl]at e1;cases hm:m[i]? with
  |none=>rw[hm]at e1;cases e1
  |some b=>
   rw[hm]at e1;injection e1 with e1;rw[hi a b (ld.1 (h1.1.mem_iff.1 (cc hl))) (ld.1 (h2.1.mem_iff.1 (cc hm))) e1]
section
variable {ks : List gO} {fs fd fe : List ay} {kn : KN} {nm : ByteArray} {pa va : Int}
theorem Qf9(hg:vU nm pa va ks)(Dz:EJ ks)(h1:Yi ks fd)(h2:Yi ks fe):ec fd fe:=by
 have hc:=hg.UT;unfold ec;refine uv fun j=> ?_
 rw[List.getElem?_map,List.getElem?_map];by_cases hj:j<fd.length
 ·obtain⟨y,hy⟩:=bu (l:=fd) hj;obtain⟨i,x,hx,uC,YO,hb⟩:=BJ h1 hy;obtain⟨z,hz,tP⟩:=Qc1 h2 hx uC;rw[YO]at hz;rw[hy,hz,tl,tl];congr 1;unfold ay.e0;rw[hb.insts,tP.insts,hb.e,tP.e,hb.v,tP.v,hb.a,tP.a,hb.b,tP.b];have hp:y.ah.map bI.e0=z.ah.map bI.e0:=by
   refine uv fun m=> ?_
   rw[List.getElem?_map,List.getElem?_map];by_cases hm:m<x.ah.length
   ·obtain⟨p,hp⟩:=bu (l:=x.ah) hm;obtain⟨q,hq,hd,il,hs,ha⟩:=hb.ah.fwd hp;obtain⟨q2,Xe,Vm,il2,N9,yX⟩:=tP.ah.fwd hp;have hP:=hg.pK i x hx p (cc hp);have LM:∀i,i<p.from_.length→p.from_[i]?=some (p.from_.getD i 0):=fun i hi=>by rw[List.getD_eq_getElem?_getD,List.getElem?_eq_getElem hi];rfl
    have e:=Qdf hs N9 fun a b ha hb he=>by have la:=hc.src (Dz.bS i x hx p (cc hp) _ (cc (LM a ha)));have lb:=hc.src (Dz.bS i x hx p (cc hp) _ (cc (LM b hb)));have e1:p.from_.getD a 0=p.from_.getD b 0:=D9 la lb he;have h6:=LM a ha;rw[e1,←LM b hb]at h6;exact(List.getElem?_inj ha hP.nd).1 h6
    rw[hq,Xe];unfold bI.e0;simp only[tl];rw[hd,Vm,ha,yX,e]
   ·rw[List.getElem?_eq_none (by rw[←hb.ah.1];omega),List.getElem?_eq_none (by rw[←tP.ah.1];omega)]
  rw[hp]
 ·rw[List.getElem?_eq_none oM,List.getElem?_eq_none (by rw[←h2.1,h1.1];omega)]
noncomputable def Lf(va:Int)(fs:List ay):List gO:=Le (lN fs) (qN (lN fs) va.toNat)
noncomputable def Be(va:Int)(fs:List ay):List ay:=toF (Lf va fs)
theorem Qd8(fs:List ay):sP (lN fs):=by
 intro x hx;obtain⟨k,hk⟩:=en.1 hx;obtain⟨y,_,rfl⟩:=F4 rfl hk;show(y.insts.map aO.e0).map aO.e0=y.insts.map aO.e0;rw[lK];rfl
theorem QcM(hv:bV nm pa va fs=0):∃kn,QgC nm pa va (hY fs) (lN fs) (Lf va fs) kn:=by
 obtain⟨hg,kx,jv⟩:=qI hv;have hk:=NP hg;obtain⟨n,hn⟩:=Tg (show 0≤va by have:=hg.par;omega);have e:va.toNat=n:=oM;have C7:=QcK hg.par.1 hn hk.1.once;obtain⟨kn,h⟩:=UP hn _ _ _ (Nat.lt_succ_self _) hk.1 (Qbn C7) (by unfold qN;rw[BX,QdX]) (Qd8 fs);rw[XS,←jS (Q8 fs)]at h;refine⟨kn,?_⟩;unfold Lf Le;rw[e];exact h
theorem Jx(hv:bV nm pa va fs=0):bV nm pa va (Be va fs)=0:=by
 obtain⟨hg,kx,jv⟩:=qI hv;obtain⟨kn,h⟩:=QcM hv;exact QeT h.UH h.tight (Qf8 h.e0) kx (by have:=h.size;omega)
theorem Qbr(hv:bV nm pa va fs=0):(Be va fs).length≤fs.length:=by
 obtain⟨kn,h⟩:=QcM hv;have h1:=h.len;rw[jR]at h1;unfold Be toF;rw[ep,←h1];exact I4 _ _
theorem Qga(gx:pL fs):Xq (lN fs):=by
 intro x hx;obtain⟨k,hk⟩:=en.1 hx;obtain⟨y,hy,rfl⟩:=F4 rfl hk;have h:=gx y (cc hy);refine⟨fun i hi=> ?_,h.e,h.v,h.a,h.b,fun p hp=> ?_⟩
 ·obtain⟨j,hj,rfl⟩:=dB.1 (show i∈y.insts.map aO.e0 from hi);have:=h.insts j hj;exact⟨this.op,this.dst,this.n,this.name,this.len,this.args⟩
 ·obtain⟨q,hq,rfl⟩:=dB.1 (show p∈y.ah.map _ from hp);exact(h.ah q hq).dst
theorem Qel{ks:List gO}{n:Nat}(h:Xq ks):pq (qN ks n):=by
 have key:∀(l:List aO) (z:KN),(∀i,i∈l→i.Ok)→pq z→pq (kt l z):=by
  intro l;induction l with
  |nil=>intro z _ h;exact h
  |cons i l ih=>
   intro z hl hz;have e:kt (i::l) z=kt l (if i.op=1 then z.set i.dst.toNat (true,i.n)else z):=rfl;rw[e];refine ih _ (fun j hj=>hl j (jF _ hj)) ?_;split
   ·exact hz.set (hl i (o0 ..)).n _
   ·exact hz
 refine key _ _ (fun i hi=> ?_) fun c hc=> ?_
 ·obtain⟨x,hx,hi⟩:=xC.1 hi;exact(h x hx).1 i hi
 ·rw[(List.mem_replicate.1 hc).2];exact Fa
theorem Qb9:∀{l m:List Nat},l.Nodup→(∀a,a∈l→a∈m)→l.length≤m.length
 |[],_,_,_=>nL _
 |a::l,m,hn,h=>by
  obtain⟨h1,h2⟩:=QiN.1 hn;have ha:=h a (o0 ..);have:=Qb9 (l:=l) (m:=m.erase a) h2 fun b hb=>(List.mem_erase_of_ne (fun e=>h1 (by rw[←e];exact hb))).2 (h b (jF _ hb))
  rw[List.length_erase_of_mem ha]at this;have:=QiY ha;rw[qC];omega
theorem Qem:∀{l:ar} {n:Nat},l.Nodup→(∀a,a∈l→0≤a∧a<(n:Int))→l.length≤n:=by
 intro l n hn hr;have h1:(l.map Int.toNat).Nodup:=by
  rw[List.nodup_iff_pairwise_ne,QiR];refine hn.imp_of_mem fun {a b} ha hb Hl e=>Hl ?_
  have:=(hr a ha).1;have:=(hr b hb).1;omega
 have h2:∀a,a∈l.map Int.toNat→a∈List.range n:=fun a ha=>by obtain⟨b,hb,rfl⟩:=dB.1 ha;have:=hr b hb;exact ld.2 oM
 have:=Qb9 h1 h2;rwa [ep,Qds]at this
theorem VB(hg:vU nm pa va ks){k:Nat}{x:gO}(hx:ks[k]?=some x){p:vb}(hp:p∈x.ah):p.from_.length≤ks.length:=by
 have hP:=hg.pK k x hx p hp;exact Qem hP.nd hP.yW
theorem QgS(hg:vU nm pa va ks)(hi:Xq ks)(kx:va≤20000)(jv:(hY (fK ks):Int)≤20000):pL (toF ks):=by
 have hs:=vR ks;have ZJ:=hg.par;have RM:∀(l:List Nat) (a:Nat),a∈l→a≤l.sum:=by
  intro l;induction l with
  |nil=>intro a h;cases h
  |cons b l ih=>
   intro a h;rw[Qcm];rcases iR.1 h with h|h
   ·omega
   ·have:=ih a h;omega
 have hN:ks.length≤20000:=oM;have Qhr:∀v:Int,0≤v→v≤1000000→In64 v:=fun v h0 h1=>⟨oM,oM⟩
 intro y hy;obtain⟨x,hx,rfl⟩:=dB.1 hy;have yk:x∈ks:=(ph.1 hx).1;obtain⟨k,hk⟩:=en.1 yk;have hl:=RM _ _ (dB.2 ⟨x,yk,rfl⟩:(fun x:gO=>x.ah.length+x.insts.length) x∈ks.map (fun x=>x.ah.length+x.insts.length));have LG:x.ah.length+x.insts.length≤20000:=by have:x.ah.length+x.insts.length≤(ks.map (fun x=>x.ah.length+x.insts.length)).sum:=hl;omega
 obtain⟨h0,h1,h2,h3,h4,h5⟩:=hi x yk;have NJ:∀a:Int,In64 ((ve (nh ks)).getD a.toNat 0):=fun a=>by have:=Jj (nh ks) a.toNat (by rw[xP];omega);exact Qhr _ this.1 this.2
 refine⟨?_,fun p hp=> ?_,?_,fun i hi=> ?_,h1,h2,?_,?_⟩
 ·show gY (x.ah.map _).length;rw[ep];unfold gY;omega
 ·obtain⟨q,hq,rfl⟩:=dB.1 (show p∈x.ah.map _ from hp);have hP:=hg.pK k x hk q hq;have hqs:=VB hg hk hq;refine⟨h5 q hq,?_,fun a ha=> ?_⟩
  ·show gY ((W1 _ _).map _).length;rw[ep,(Qd7 _ _).1.length_eq,Qds];unfold gY;omega
  ·obtain⟨i,_,rfl⟩:=dB.1 (show a∈(W1 _ _).map _ from ha);rw[List.getD_eq_getElem?_getD];cases Xe:q.args[i]? with
   |none=>exact Fa
   |some b=>
    have:=hP.yc b (cc Xe);exact Qhr _ this.1 (by show b≤_;omega)
 ·show gY x.insts.length;unfold gY;omega
 ·exact h0 i hi
 ·show In64 (toA _ x.e x.a);unfold toA;split
  ·exact NJ _
  ·split
   ·exact h3
   ·exact Fa
 ·show In64 (toBb _ x.e x.b);unfold toBb;split
  ·exact NJ _
  ·exact Fa
theorem Qbs(hv:bV nm pa va fs=0)(gx:pL fs):pL (Be va fs):=by
 obtain⟨hg,kx,jv⟩:=qI hv;obtain⟨kn,h⟩:=QcM hv;have hi:=Qga gx;exact QgS h.UH (Qbq _ _ _ hi (Qel hi)) kx (by have:=h.size;omega)
theorem QjT{n:Nat}(kx:va=(n:Int))(hg:vU nm pa va ks)(hk:vk kn (sX ks))(hs:Dt kn ks)(ht:Yi ks fd)(hd:j9 nm pa va fd):Dt (qN (lN fd) n) (lN fd):=by
 have dG:=(NP hd).1;have C7:=QcK dG.par.1 kx dG.once;have hca:=Qbn C7;have mem:∀{x:gO},x∈lN fd→∃z,z∈ks∧x.insts=z.insts∧x.e=z.e∧x.v=z.v:=by intro x hx;obtain⟨j,hj⟩:=en.1 hx;obtain⟨y,hy,rfl⟩:=F4 rfl hj;obtain⟨i,z,hz,_,_,hb⟩:=BJ ht hy;exact⟨z,cc hz,hb.insts,hb.e,hb.v⟩
 have agree:∀v:Int,XU (qN (lN fd) n) v=true→(qN (lN fd) n).getD v.toNat (false,0)=kn.getD v.toNat (false,0):=by intro v h;obtain⟨i,hi,h1,h2⟩:=QjI _ _ _ h;have h3:=hca i hi h1;obtain⟨x,hx,VE⟩:=xC.1 hi;obtain⟨z,hz,e1,_⟩:=mem hx;have h4:=hk i (xC.2 ⟨z,hz,e1▸VE⟩) h1;rw[←h2,h3,h4]
 intro x hx;obtain⟨z,hz,e1,e2,e3⟩:=mem hx;obtain⟨h1,h2⟩:=hs z hz;rw[e1,e2,e3];refine⟨fun i hi hd=>h1 i hi ?_,fun he=>h2 ⟨he.1,?_⟩⟩
 ·obtain⟨q1,q2,q3⟩:=hd;have cA:∀a,a∈i.args→XU (qN (lN fd) n) a=true:=by unfold wu at q2;exact xw.1 q2
  refine⟨q1,?_,?_⟩
  ·unfold wu;refine xw.2 fun a ha=> ?_
   have h5:=cA a ha;have h6:=agree a h5;unfold XU at h5⊢;rwa [h6]at h5
  ·have hN:∀a,a∈i.args→qv (qN (lN fd) n) a=qv kn a:=fun a ha=>by unfold qv;rw[agree a (cA a ha)]
   have Ss:=(hg.Xv z hz i hi).2;unfold mi at q3⊢;split at q3
   ·rename_i h40;rw[eh h40];have hl:0<i.args.length:=oM;have h0:i.args.getD 0 0∈i.args:=by rw[List.getD_eq_getElem?_getD,List.getElem?_eq_getElem hl];exact QdI hl
    rwa [hN _ h0]at q3
   ·rename_i h40;rw[dd h40];have hl:1<i.args.length:=oM;have h0:i.args.getD 0 0∈i.args:=by rw[List.getD_eq_getElem?_getD,List.getElem?_eq_getElem (show 0<i.args.length by omega)];exact QdI _
    have h1:i.args.getD 1 0∈i.args:=by rw[List.getD_eq_getElem?_getD,List.getElem?_eq_getElem hl];exact QdI hl
    rwa [hN _ h0,hN _ h1]at q3
 ·have h5:=he.2;have h6:=agree _ h5;unfold XU at h5⊢;rwa [h6]at h5
theorem QjJ{n:Nat}(kx:va=(n:Int))(hv:bV nm pa va fs=0)(ha:ec fd (Be va fs)):Dt (qN (lN fd) n) (lN fd):=by
 obtain⟨kn,h⟩:=QcM hv;rw[BA ha];exact QjT kx h.UH h.knq h.still (Qf8 h.e0) (qI (Jx hv)).1
end
end Go.Mor
namespace Go.Mor
open Go.RowKit
end Go.Mor
namespace Go.Mor
open Go.RowKit
def KnF(fs:List ay)(a N:Int):Prop:=0≤a∧∃x,x∈fs∧∃i,i∈x.insts∧i.dst=a∧i.op=1∧i.n=N
structure QjF(fs:List ay):Prop where
 Qj6:∀x,x∈fs→∀i,i∈x.insts→16<i.op→¬(∀(k:Nat) (a:Int),i.args[k]?=some a→∃N,KnF fs a N∧¬(k=1∧N=0∧(i.op=20∨i.op=21)))
 fin:∀x,x∈fs→x.e=1→¬∃N,KnF fs x.v N
theorem QjU{op a b:Int}(h1:1≤op)(h2:op≤16)(h:¬((op=4∨op=5)∧b=0)):(nI op a b).2=0:=by
 by_cases h45:op=4∨op=5
 ·have hb:b≠0:=fun e=>h ⟨h45,e⟩
  rw[QdC h45];show(xN op a b).2=0;by_cases hm:b= -1
  ·rcases h45 with e|e
   ·rw[Qc7 hm e]
   ·rw[Qc8 hm oM]
  ·rcases h45 with e|e
   ·rw[Qc9 hb hm e]
   ·rw[Qda hb hm oM]
 ·have key:op=1∨op=2∨op=3∨op=6∨op=7∨op=8∨op=9∨op=10∨op=11∨op=12∨op=13∨op=14∨op=15∨op=16:=oM;rcases key with rfl|rfl|rfl|rfl|rfl|rfl|rfl|rfl|rfl|rfl|rfl|rfl|rfl|rfl<;>rfl
theorem QjZ{op a:Int}(h1:1≤op)(h2:op≤3):(Gh op a).2=0:=by
 unfold Gh;repeat' split
 all_goals first|rfl|omega
theorem QjR{fs fd:List ay}{nm:cV}{pa va:Int}(hv:bV nm pa va fs=0)(ha:ec fd (Be va fs)):QjF fd:=by
 have hvd:bV nm pa va fd=0:=(oC ha).trans (Jx hv);obtain⟨hg,_,_⟩:=qI hvd;obtain⟨n,hn⟩:=Tg (show 0≤va by have:=hg.par;omega);have hs:=QjJ hn hv ha;have W5:=(NP hg).1;have hca:=Qbn (QcK W5.par.1 hn W5.once);have mem:∀{x:ay},x∈fd→∃z,z∈lN fd∧z.insts=x.insts.map aO.e0∧z.e=x.e∧z.v=x.v:=by intro x hx;obtain⟨k,hk⟩:=en.1 hx;exact⟨_,cc (mA hk),rfl,rfl,rfl⟩
 have kn:∀{a N:Int},KnF fd a N→XU (qN (lN fd) n) a=true∧qv (qN (lN fd) n) a=N:=by rintro a N ⟨_,x,hx,i,hi,rfl,h1,rfl⟩;obtain⟨z,hz,hzi,_⟩:=mem hx;have h2:(qN (lN fd) n).getD i.dst.toNat (false,0)=(true,i.n):=hca i.e0 (xC.2 ⟨z,hz,by rw[hzi];exact dB.2 ⟨i,hi,rfl⟩⟩) h1;unfold XU qv;rw[h2];exact⟨rfl,rfl⟩
 refine⟨fun x hx i hi LB cA=> ?_,fun x hx he ⟨N,hk⟩=> ?_⟩
 ·obtain⟨z,hz,hzi,_⟩:=mem hx;have hie:i.e0∈z.insts:=by rw[hzi];exact dB.2 ⟨i,hi,rfl⟩
  have Ss:bJ i.e0:=W5.Xv z hz _ hie;have h2:=Ss.2;have VX:i.e0.op=i.op:=rfl;have Vh:i.e0.args.length=i.args.length:=rfl;refine(hs z hz).1 i.e0 hie ⟨LB,?_,?_⟩
  ·unfold wu;refine xw.2 fun a ha=> ?_
   obtain⟨k,hk⟩:=en.1 (show a∈i.args from ha);obtain⟨N,hN,_⟩:=cA k a hk;exact(kn hN).1
  ·unfold mi;by_cases h40:40≤i.op
   ·rw[eh (show 40≤i.e0.op from h40)];exact QjZ (by show 1≤i.op-40;omega) (by show i.op-40≤3;omega)
   ·rw[dd (show¬40≤i.e0.op from h40)];refine QjU (by show 1≤i.op-16;omega) (by show i.op-16≤16;omega) ?_;rintro⟨h5,h6⟩;have hl:1<i.args.length:=oM;have h7:i.args[1]?=some (i.args.getD 1 0):=by rw[List.getD_eq_getElem?_getD,List.getElem?_eq_getElem hl];rfl
    obtain⟨N,hN,X7⟩:=cA 1 _ h7;have h8:qv (qN (lN fd) n) (i.args.getD 1 0)=0:=h6;rw[(kn hN).2]at h8;have h9:i.op-16=4∨i.op-16=5:=h5;exact X7 ⟨rfl,h8,oM⟩
 ·obtain⟨z,hz,_,hze,hzv⟩:=mem hx;exact(hs z hz).2 ⟨by rw[hze];exact he,by rw[hzv];exact(kn hk).1⟩
abbrev zI:aO:=⟨0,0,0,⟨#[]⟩,none,0,[]⟩
def vn(fs:List ay)(v:Int):Option aO:=(fs.flatMap (fun x=>x.insts)).find? (fun i=>decide (i.dst=v∧0≤v))
def lS(fs:List ay)(v:Int):aO:=(vn fs v).getD zI
def XN(fs:List ay)(v:Int):Bool:=(vn fs v).isSome
def knO(fs:List ay)(v:Int):Bool:=XN fs v&&decide ((lS fs v).op=1)
section
variable {fs : List ay} {v : Int} {k m : Nat} {x : ay} {i : aO}
theorem Qe4(X7:∀(a:Nat) (y:ay),a<k→fs[a]?=some y→∀i,i∈y.insts→¬(i.dst=v∧0≤v))(hx:fs[k]?=some x)(Ue:∀(a:Nat) (i:aO),a<m→x.insts[a]?=some i→¬(i.dst=v∧0≤v))(hi:x.insts[m]?=some i)(hp:i.dst=v∧0≤v):vn fs v=some i:=by
 have e:fs.flatMap (fun x=>x.insts)=(fs.take k).flatMap (fun x=>x.insts)++(x.insts.take m++(i::(x.insts.drop (m+1)++(fs.drop (k+1)).flatMap (fun x=>x.insts)))):=by
  conv=>lhs;rw[←Qgu k fs,BW hx]
  rw[Qjb,D3];conv=>lhs;rw[←Qgu m x.insts,BW hi]
  simp
 unfold vn;rw[e,List.find?_append,List.find?_append,List.find?_cons];have h1:((fs.take k).flatMap (fun x=>x.insts)).find? (fun i=>decide (i.dst=v∧0≤v))=none:=by
  rw[List.find?_eq_none];intro j hj;obtain⟨y,hy,hj⟩:=xC.1 hj;obtain⟨a,ha⟩:=en.1 hy;have hak:a<k:=by have:=(List.getElem?_eq_some_iff.1 ha).1;rw[Qct]at this;omega
  rw[List.getElem?_take,eh hak]at ha;have:=X7 a y hak ha j hj;simpa using this
 have h2:(x.insts.take m).find? (fun i=>decide (i.dst=v∧0≤v))=none:=by
  rw[List.find?_eq_none];intro j hj;obtain⟨a,ha⟩:=en.1 hj;have ham:a<m:=by have:=(List.getElem?_eq_some_iff.1 ha).1;rw[Qct]at this;omega
  rw[List.getElem?_take,eh ham]at ha;have:=Ue a j ham ha;simpa using this
 rw[h1,h2];simp[hp]
theorem Qe5(hk:fs.length≤k)(X7:∀(a:Nat) (y:ay),a<k→fs[a]?=some y→∀i,i∈y.insts→¬(i.dst=v∧0≤v)):vn fs v=none:=by
 unfold vn;rw[List.find?_eq_none];intro j hj;obtain⟨y,hy,hj⟩:=xC.1 hj;obtain⟨a,ha⟩:=en.1 hy;have:=X7 a y (by have:=(List.getElem?_eq_some_iff.1 ha).1;omega) ha j hj;simpa using this
theorem Qgb(h:vn fs v=some i):0≤v∧∃x,x∈fs∧i∈x.insts∧i.dst=v:=by
 unfold vn at h;have h1:=List.find?_some h;obtain⟨x,hx,hi⟩:=xC.1 (List.mem_of_find?_eq_some h);simp only[dF]at h1;exact⟨h1.2,x,hx,hi,h1.1⟩
theorem QjV(h:knO fs v=true):KnF fs v (lS fs v).n:=by
 unfold knO XN at h;rw[ej]at h;obtain⟨h1,h2⟩:=h;obtain⟨i,hi⟩:=Option.isSome_iff_exists.1 h1;have e:lS fs v=i:=by unfold lS;rw[hi];rfl
 rw[e]at h2⊢;obtain⟨q1,x,q2,q3,q4⟩:=Qgb hi;exact⟨q1,x,q2,i,q3,q4,gS h2,rfl⟩
end
def iZ(A5 A6 A7:aX):ay:=⟨none,0,[],A7,4,[⟨1,0,2,⟨#[]⟩,none,0,[]⟩,⟨1,1,3,⟨#[]⟩,none,0,[]⟩,⟨17,2,0,⟨#[]⟩,A5,2,[0,1]⟩,⟨10,-1,0,⟨#[]⟩,A6,1,[2]⟩],2,-1,0,0⟩
theorem QgD{A5 A6 A7:aX}:pL [iZ A5 A6 A7]:=by
 intro x hx;rw[jT]at hx;subst hx;refine⟨by simp[iZ,gY],fun p hp=>by simp[iZ]at hp,by simp[iZ,gY],fun p hp=> ?_,by simp[iZ,In64],by simp[iZ,In64],by simp[iZ,In64],by simp[iZ,In64]⟩;simp only[iZ,iR,xK,rA]at hp;rcases hp with rfl|rfl|rfl|rfl
 ·exact⟨by simp[In64],by simp[In64],by simp[In64],by show(0:Nat)≤_;omega,by simp[gY],fun x hx=>by simp at hx⟩
 ·exact⟨by simp[In64],by simp[In64],by simp[In64],by show(0:Nat)≤_;omega,by simp[gY],fun x hx=>by simp at hx⟩
 ·exact⟨by simp[In64],by simp[In64],by simp[In64],by show(0:Nat)≤_;omega,by simp[gY],fun x hx=>by simp at hx;rcases hx with rfl|rfl<;>simp[In64]⟩
 ·exact⟨by simp[In64],by simp[In64],by simp[In64],by show(0:Nat)≤_;omega,by simp[gY],fun x hx=>by simp at hx;subst hx;simp[In64]⟩
theorem Qbt{A5 A6 A7:aX}:bV PH 0 3 [iZ A5 A6 A7]=0:=Jv ⟨by simp[hY,jl,iZ],by rfl⟩
def XO:List aO:=[⟨1,0,2,⟨#[]⟩,none,0,[]⟩,⟨1,1,3,⟨#[]⟩,none,0,[]⟩,⟨1,2,5,⟨#[]⟩,none,0,[]⟩,⟨10,-1,0,⟨#[]⟩,none,0,[2]⟩]
def rL:gO:=⟨[],XO,2,-1,0,0,false⟩
theorem Qdh{A5 A6 A7:aX}:nU (lN [iZ A5 A6 A7]) (qN (lN [iZ A5 A6 A7]) 3)=([rL],[(true,2),(true,3),(true,5)],true):=kR
theorem Qe6:nU [rL] [(true,2),(true,3),(true,5)]=([rL],[(true,2),(true,3),(true,5)],false):=kR
theorem Qdi:kg [rL]=[rL]∧sW [rL]=false:=by
 have h0:([rL]:List gO)[0]?=some rL:=rfl;have hr:Reach (tK [rL]) (0:Int):= .zero;constructor
 ·have h1:=tn h0;have h2:sj [rL] 0 rL=rL:=by unfold sj;rw[dd (fun h=>h.1 hr)]
  rw[h2]at h1;have hl:=o2 [rL];refine uv fun i=> ?_
  cases i with
  |zero=>rw[h1];rfl
  |succ i=>rw[List.getElem?_eq_none (by rw[hl];simp),List.getElem?_eq_none sI]
 ·unfold sW;refine(@Qjl _ (Classical.propDecidable _)).2 ?_;rintro⟨k,x,hx,_,hn⟩;have:k=0:=by have:=(List.getElem?_eq_some_iff.1 hx).1;simp at this;omega
  subst this;exact hn hr
theorem Qgc{A5 A6 A7:aX}:Be 3 [iZ A5 A6 A7]=[⟨none,0,[],none,0,XO,2,-1,0,0⟩]:=by
 have e:Lf 3 [iZ A5 A6 A7]=[rL]:=by unfold Lf;rw[show(3:Int).toNat=3 from rfl];have h1:=Qe2 (ks:=lN [iZ A5 A6 A7]) (kn:=qN (lN [iZ A5 A6 A7]) 3) (by rw[Qdh]);rw[Qdh]at h1;rw[←h1,QdF (by rw[Qe6]) Qdi.2,Qdi.1]
 unfold Be;rw[e];rfl
theorem Qgd{A5 A6 A7:aX}{fd:List ay}(h:ec fd (Be 3 [iZ A5 A6 A7])):(∃x,x∈fd∧∃i,i∈x.insts∧i.dst=2)∧∀x,x∈fd→∀i,i∈x.insts→i.dst=2→i.op=1∧i.n=5:=by
 rw[Qgc]at h;obtain⟨A1,c1,ps,A2,c2,is,hy,_,UO⟩:=rN h.symm (k:=0) rfl;have UO:is.map aO.e0=XO.map aO.e0:=UO;have hl:=h.len;constructor
 ·obtain⟨A,c,hq⟩:=BC UO (j:=2) (p:=⟨1,2,5,⟨#[]⟩,none,0,[]⟩) rfl;exact⟨_,cc hy,_,cc hq,rfl⟩
 ·intro x hx i hi hd;obtain⟨k,hk⟩:=en.1 hx;have:k=0:=by have:=(List.getElem?_eq_some_iff.1 hk).1;simp at hl;omega
  subst this;rw[hy]at hk;injection hk with hk;subst hk;have hi:i.e0∈is.map aO.e0:=dB.2 ⟨i,hi,rfl⟩;rw[UO]at hi;have hi:i.e0∈XO:=hi;simp only[XO,iR,xK,rA]at hi;have e1:i.e0.dst=2:=hd;rcases hi with e|e|e|e
  ·rw[e]at e1;simp at e1
  ·rw[e]at e1;simp at e1
  ·exact⟨dj aO.op e,dj aO.n e⟩
  ·rw[e]at e1;simp at e1
theorem Qhs{A5 A6 A7:aX}{fd:List ay}(h:ec fd (Be 3 [iZ A5 A6 A7])):XN fd 2=true∧(lS fd 2).op=1∧(lS fd 2).n=5:=by
 obtain⟨⟨x,hx,i,hi,hd⟩,cA⟩:=Qgd h;cases hm:vn fd 2 with
 |none=>
  exfalso;unfold vn at hm;rw[List.find?_eq_none]at hm;exact hm i (xC.2 ⟨x,hx,hi⟩) (by simp[hd])
 |some j=>
  obtain⟨_,y,hy,hj,hjd⟩:=Qgb hm;have e:lS fd 2=j:=by unfold lS;rw[hm];rfl
  rw[e];exact⟨by unfold XN;rw[hm];rfl,cA y hy j hj hjd⟩
end Go.Mor
namespace Go.Mor
open Go.RowKit
theorem Qht{x:gO}(h:x.e=0):wL x=[x.a]:=by unfold wL;rw[eh h]
theorem Qhu{x:gO}(h0:¬x.e=0)(h:x.e=1):wL x=[x.a,x.b]:=by unfold wL;rw[dd h0,eh h]
theorem Qhv{x:gO}(h0:¬x.e=0)(h:¬x.e=1):wL x=[]:=by unfold wL;rw[dd h0,dd h]
theorem Qd9(x:gO):(wL x).length≤2:=by unfold wL;split;simp;split<;>simp
def QgT(N:Int)(x:gO):Prop:=x.gone=false→Jn N x
theorem Qea{N:Int}{x:gO}(h:Jn N x):(wL x).Nodup∧∀t,t∈wL x→0≤t∧t<N:=by
 unfold wL;rcases h with⟨e,h1,_⟩|⟨e,h1,h2,h3⟩|⟨e,_⟩|⟨e,_⟩
 ·rw[eh e];exact⟨sI,by intro t ht;rw[jT.1 ht];exact h1⟩
 ·rw[dd oM,eh e];refine⟨by simp[h3],?_⟩;intro t ht;rcases iR.1 ht with rfl|ht
  ·exact h1
  ·rw[jT.1 ht];exact h2
 ·rw[dd oM,dd oM];exact⟨sI,sI⟩
 ·rw[dd oM,dd oM];exact⟨sI,sI⟩
def BL(ks:List gO)(n:Nat)(t:Int):ar:=((List.range n).filter (fun s=>match ks[s]? with
 |some x=> !x.gone&&(wL x).contains t
 |none=>false)).map (fun s:Nat=>(s:Int))
def QbC(ks:List gO)(n:Nat):List ar:=(List.range ks.length).map (fun t:Nat=>BL ks n (t:Int))
def QbD(ks:List gO)(n:Nat)(l:ar):List ar:=(List.range ks.length).map (fun t:Nat=>BL ks n (t:Int)++(if(t:Int)∈l then[(n:Int)]else[]))
def Qge(ks:List gO):List ar:=(List.range ks.length).map (fun t:Nat=>EU ks (t:Int))
section
variable {ks : List gO} {n : Nat} {x : gO}
theorem Qen(ks:List gO):QbC ks 0=List.replicate ks.length []:=by
 unfold QbC BL;simp only[List.range_zero,Qjy,QiX];exact List.map_const' ..|>.trans (by rw[Qds])
theorem Qe7(ks:List gO)(n:Nat):QbD ks n []=QbC ks n:=by
 unfold QbD QbC;refine Qdc fun t _=> ?_
 simp
theorem Qca(hx:ks[n]?=some x)(t:Int):BL ks (n+1) t=BL ks n t++(if(!x.gone&&(wL x).contains t)=true then[(n:Int)]else[]):=by
 unfold BL;rw[Qi7,uK,lh];congr 1;rw[xH,hx];simp only[Qjy];split<;>rfl
theorem Qeo(hx:ks[n]?=some x)(hg:x.gone=true):QbC ks (n+1)=QbC ks n:=by
 unfold QbC;refine Qdc fun t _=> ?_
 rw[Qca hx,hg];simp
theorem Qe8(hx:ks[n]?=some x)(hg:x.gone=false):QbD ks n (wL x)=QbC ks (n+1):=by
 unfold QbD QbC;refine Qdc fun t _=> ?_
 rw[Qca hx,hg];congr 1;simp
theorem Qe9{l:ar}{t:Nat}(ht:t<ks.length)(hn:(t:Int)∉l):(QbD ks n l)[t]?=some (BL ks n (t:Int)):=by
 unfold QbD;rw[List.getElem?_map,List.getElem?_range ht];simp[hn]
theorem Qfa{l:ar}{t:Nat}(ht:t<ks.length)(_hn:(t:Int)∉l):(QbD ks n l).set t (BL ks n (t:Int)++[(n:Int)])=QbD ks n (l++[(t:Int)]):=by
 unfold QbD;refine uv fun i=> ?_
 by_cases hi:i<ks.length
 ·by_cases e:t=i
  ·subst e;rw[List.getElem?_set_self (by simpa using ht),List.getElem?_map,List.getElem?_range ht];simp
  ·rw[List.getElem?_set_ne e,List.getElem?_map,List.getElem?_map,List.getElem?_range hi];have:¬(i:Int)=(t:Int):=oM;simp[this]
 ·rw[List.getElem?_eq_none (by simp;omega),List.getElem?_eq_none (by simp;omega)]
theorem Qdj(ks:List gO)(n:Nat)(t:Int):(BL ks n t).length≤n:=by
 unfold BL;rw[ep];exact zE (I4 _ _) sI
theorem Qfb(ks:List gO)(t:Int):(EU ks t).length≤ks.length:=Qdj ks ks.length t
theorem Qfc{t:Nat}(ht:t<ks.length):(Qge ks)[t]?=some (EU ks (t:Int)):=by
 unfold Qge;rw[List.getElem?_map,List.getElem?_range ht];rfl
theorem Qfd{l:ar}(hn:l.Nodup){j:Nat}{t:Int}(h:l[j]?=some t):t∉l.take j:=by
 intro hm;obtain⟨i,hi⟩:=en.1 hm;have h1:i<j:=by have:=(List.getElem?_eq_some_iff.1 hi).1;rw[Qct]at this;omega
 rw[List.getElem?_take,eh h1]at hi;have:=(List.getElem?_inj (List.getElem?_eq_some_iff.1 hi).1 hn).1 (hi.trans h.symm);omega
end
def sg(S:ar)(p:vb)(j:Nat):List (Int×Int):=((p.from_.zip p.args).take j).filter (fun q=>S.contains q.1)
section
variable {S : List Int} {p : vb} {j : Nat} {s a : Int}
theorem Qfe{l m:ar}(hs:l[j]?=some s)(ha:m[j]?=some a):(l.zip m)[j]?=some (s,a):=by
 rw[List.getElem?_zip_eq_some];exact⟨hs,ha⟩
theorem Qgf(hs:p.from_[j]?=some s)(ha:p.args[j]?=some a)(h:S.contains s=true):sg S p (j+1)=sg S p j++[(s,a)]:=by
 obtain⟨hk,he⟩:=List.getElem?_eq_some_iff.1 (Qfe hs ha);unfold sg;rw[kj hk,uK,he,xH,eh h];rfl
theorem QgU(hs:p.from_[j]?=some s)(ha:p.args[j]?=some a)(h:S.contains s=false):sg S p (j+1)=sg S p j:=by
 obtain⟨hk,he⟩:=List.getElem?_eq_some_iff.1 (Qfe hs ha);unfold sg;rw[kj hk,uK,he,xH,dd (by rw[h];decide)];simp
theorem Qgg:(sg S p j).length≤j:=by
 unfold sg;exact zE (I4 _ _) (by rw[Qct];omega)
theorem Qgh(hl:p.args.length=p.from_.length)(hj:p.from_.length≤j):ke S p=⟨p.dst,(sg S p j).map (·.1),(sg S p j).map (·.2)⟩:=by
 unfold ke sg;rw[nS (by rw[List.length_zip];omega)]
end
def sm(S:ar)(p:vb)(j:Nat):ar:=(sg S p j).map (·.1)
def zn(S:ar)(p:vb)(j:Nat):ar:=(sg S p j).map (·.2)
section
variable {S : List Int} {p : vb} {j : Nat} {s a : Int}
theorem Qgi(hs:p.from_[j]?=some s)(ha:p.args[j]?=some a)(h:S.contains s=true):sm S p (j+1)=sm S p j++[s]∧zn S p (j+1)=zn S p j++[a]:=by
 unfold sm zn;rw[Qgf hs ha h];simp
theorem QgV(hs:p.from_[j]?=some s)(ha:p.args[j]?=some a)(h:S.contains s=false):sm S p (j+1)=sm S p j∧zn S p (j+1)=zn S p j:=by
 unfold sm zn;rw[QgU hs ha h];exact⟨rfl,rfl⟩
theorem Qgj:(sm S p j).length≤j∧(zn S p j).length=(sm S p j).length:=by
 unfold sm zn;rw[ep,ep];exact⟨Qgg,rfl⟩
end
theorem Qff:∀{l:List cI} {m:Nat} {p:cI},l[m]?=some p→∀(A1 A2:aX) (c1 c2:Nat) (f a:ar),((zc l).set (m*3+1) (vS A1 f.length c1)).set (m*3+2) (vS A2 a.length c2)=zc (l.set m ⟨p.dst,A1,c1,f,A2,c2,a⟩)
 |[],m,p,h,_,_,_,_,_,_=>by simp at h
 |q::l,0,p,h,A1,A2,c1,c2,f,a=>by injection h with h;subst h;rfl
 |q::l,m+1,p,h,A1,A2,c1,c2,f,a=>by
  have ih:=Qff (l:=l) (m:=m) h A1 A2 c1 c2 f a;have e:∀(q:cI) (l:List cI),zc (q::l)=q.cells++zc l:=fun _ _=>rfl
  rw[Qja,e,e,←ih,show(m+1)*3+1=q.cells.length+(m*3+1)by rw[xM];omega,show(m+1)*3+2=q.cells.length+(m*3+2)by rw[xM];omega];rw[QdT _ _ oM,QdT _ _ oM];simp
def Xr(ml:List Bool):Nat:=(ml.filter (fun b=> !b)).length
structure QbE(ks:List gO)(ml:List Bool)(o9:ar):Prop where
 len:ml.length=ks.length
 zero:ml.getD 0 false=true
 sub:∀t:Nat,ml.getD t false=true→Reach (tK ks) (t:Int)
 wy:∀t,t∈o9→0≤t∧t<(ks.length:Int)∧ml.getD t.toNat false=true
 cl:∀s:Nat,ml.getD s false=true→(s:Int)∈o9∨∀t:Int,t∈tK ks (s:Int)→ml.getD t.toNat false=true
structure QbF(ks:List gO)(b:Nat)(l:ar)(ml:List Bool)(o9:ar):Prop where
 len:ml.length=ks.length
 zero:ml.getD 0 false=true
 sub:∀t:Nat,ml.getD t false=true→Reach (tK ks) (t:Int)
 wy:∀t,t∈o9→0≤t∧t<(ks.length:Int)∧ml.getD t.toNat false=true
 at_:Reach (tK ks) (b:Int)
 done:∀t,t∈l→ml.getD t.toNat false=true
 cl:∀s:Nat,ml.getD s false=true→(s:Int)∈o9∨s=b∨∀t:Int,t∈tK ks (s:Int)→ml.getD t.toNat false=true
theorem Qdk:∀{ml:List Bool} {t:Nat},ml[t]?=some false→Xr (ml.set t true)+1=Xr ml
 |[],t,h=>by simp at h
 |b::ml,0,h=>by injection h with h;subst h;simp[Xr]
 |b::ml,t+1,h=>by
  have h1:=Qdk (ml:=ml) (t:=t) h;have key:∀l:List Bool,Xr (b::l)=Xr l+(if b then 0 else 1):=fun l=>by unfold Xr;cases b<;>simp
  rw[Qja,key,key];omega
section
variable {ks : List gO} {ml : List Bool} {o9 l : List Int} {b : Nat} {t : Int}
theorem QdK(ml:List Bool)(t s:Nat)(ht:t<ml.length):(ml.set t true).getD s false=true↔s=t∨ml.getD s false=true:=by
 rw[List.getD_eq_getElem?_getD,List.getElem?_set];by_cases e:t=s
 ·subst e;rw[eh rfl,eh ht];simp
 ·rw[dd e,←List.getD_eq_getElem?_getD];exact⟨.inr,fun h=>h.resolve_left (fun e2=>e e2.symm)⟩
theorem QbE.start(hc:Pf ks):QbE ks ((List.replicate ks.length false).set 0 true) [0]:=by
 have h0:0<ks.length:=by obtain⟨i,x,_,hx,_⟩:=hc.zero;have:=(List.getElem?_eq_some_iff.1 hx).1;omega
 have key:∀s:Nat,((List.replicate ks.length false).set 0 true).getD s false=true→s=0:=by
  intro s h;rcases(QdK _ 0 s (by simpa using h0)).1 h with h|h
  ·exact h
  ·exfalso;rw[List.getD_eq_getElem?_getD,List.getElem?_replicate]at h;split at h<;>cases h
 have hz:((List.replicate ks.length false).set 0 true).getD 0 false=true:=(QdK _ 0 0 (by simpa using h0)).2 (.inl rfl);refine⟨sI,hz,fun t ht=> ?_,fun t ht=> ?_,fun s hs=> ?_⟩
 ·rw[key t ht];exact .zero
 ·rw[jT.1 ht];exact⟨oM,oM,hz⟩
 ·rw[key s hs];exact .inl sI
theorem QbE.pop(h:QbE ks ml (o9++[(b:Int)])):QbF ks b [] ml o9:=by
 have hb:=h.wy (b:Int) sI;refine⟨h.len,h.zero,h.sub,fun t ht=>h.wy t (by simp[ht]),h.sub b (by simpa using hb.2.2),fun t ht=>(by cases ht),fun s hs=> ?_⟩;rcases h.cl s hs with h1|h1
 ·rcases gh.1 h1 with h1|h1
  ·exact .inl h1
  ·exact .inr (.inl (by have:=jT.1 h1;omega))
 ·exact .inr (.inr h1)
theorem QbF.old(h:QbF ks b l ml o9)(hm:ml.getD t.toNat false=true):QbF ks b (l++[t]) ml o9:=⟨h.len,h.zero,h.sub,h.wy,h.at_,fun s hs=>by
  rcases gh.1 hs with hs|hs
  ·exact h.done s hs
  ·rw[jT.1 hs];exact hm,h.cl⟩
theorem QbF.new(h:QbF ks b l ml o9)(ht:t∈tK ks (b:Int))(h0:0≤t)(h1:t<(ks.length:Int)):QbF ks b (l++[t]) (ml.set t.toNat true) (o9++[t]):=by
 have hl:=h.len;have hs:=fun s=>QdK ml t.toNat s oM
 have hr:Reach (tK ks) t:= .step h.at_ ht;refine⟨by simp[h.len],(hs 0).2 (.inr h.zero),fun s hm=> ?_,fun s hm=> ?_,h.at_,fun s hm=> ?_,fun s hm=> ?_⟩
 ·rcases(hs s).1 hm with e|e
  ·rw[e,Qch h0];exact hr
  ·exact h.sub s e
 ·rcases gh.1 hm with hm|hm
  ·obtain⟨q1,q2,q3⟩:=h.wy s hm;exact⟨q1,q2,(hs _).2 (.inr q3)⟩
  ·rw[jT.1 hm];exact⟨h0,h1,(hs _).2 (.inl rfl)⟩
 ·rcases gh.1 hm with hm|hm
  ·exact(hs _).2 (.inr (h.done s hm))
  ·rw[jT.1 hm];exact(hs _).2 (.inl rfl)
 ·rcases(hs s).1 hm with e|e
  ·exact .inl (by rw[e,Qch h0];simp)
  ·rcases h.cl s e with q|q|q
   ·exact .inl (by simp[q])
   ·exact .inr (.inl q)
   ·exact .inr (.inr fun u hu=>(hs _).2 (.inr (q u hu)))
theorem QbF.fin(h:QbF ks b l ml o9)(hl:tK ks (b:Int)=l):QbE ks ml o9:=⟨h.len,h.zero,h.sub,h.wy,fun s hs=>by
  rcases h.cl s hs with q|q|q
  ·exact .inl q
  ·exact .inr (by rw[q,hl];exact h.done)
  ·exact .inr q⟩
theorem QbE.done(h:QbE ks ml [])(hc:Pf ks)(t:Nat):ml.getD t false=true↔Reach (tK ks) (t:Int):=by
 refine⟨h.sub t,fun hr=> ?_⟩;have key:∀x:Int,Reach (tK ks) x→ml.getD x.toNat false=true:=by
  intro x hx;induction hx with
  |zero=>exact h.zero
  | @step x t hx ht ih=>
   obtain⟨i,z,rfl,_,_⟩:=Jw hc hx;rcases h.cl i (by simpa using ih)with q|q
   ·cases q
   ·exact q t ht
 simpa using key _ hr
end
theorem Qbu{w:World}{A:aX}{ad:Addr}{k:Nat}{gs:List bz}{x:bz}(h:(bo.rd A (jA gs)).holds w)(hA:A=some ad)(hx:gs[k]?=some x):w.cell? (ad.add (k*1))=some (vP (aZ x.g)):=bB h hA (by unfold jA;rw[List.getElem?_map,hx];rfl)
theorem Qgk(ml:List Bool):Xr ml≤ml.length:=I4 _ _
def Qgl(x:bz):Prop:=x.ah.length≤20000∧∀p,p∈x.ah→p.args.length=p.from_.length∧p.from_.length≤20000
abbrev Oa(x:bz):bz:=⟨x.g,none,0,[],none,0,[],2,-1,x.a,x.b,true⟩
theorem QgW(x:bz):Qgl (Oa x):=⟨nL _,fun p hp=>(by cases hp)⟩
theorem Qhw{ks:List gO}{k:Nat}{x:bz}(hr:¬Reach (tK ks) (k:Int))(hg:x.gone=false):(Oa x).k=sj ks k x.k:=by
 unfold sj;rw[eh ⟨hr,hg⟩];rfl
theorem QgX{ks:List gO}{k:Nat}{x:bz}(h:¬(¬Reach (tK ks) (k:Int)∧x.gone=false)):x.k=sj ks k x.k:=by
 unfold sj;rw[dd (show¬(¬Reach (tK ks) (k:Int)∧x.k.gone=false)from h)]
theorem Qcb{ks:List gO}{k:Nat}{x:gO}{tb tb':Bool}(hx:ks[k]?=some x)(h:tb=true↔∃(i:Nat) (x:gO),i<k∧ks[i]?=some x∧x.gone=false∧¬Reach (tK ks) (i:Int))(h':tb'=true↔tb=true∨(x.gone=false∧¬Reach (tK ks) (k:Int))):tb'=true↔∃(i:Nat) (x:gO),i<k+1∧ks[i]?=some x∧x.gone=false∧¬Reach (tK ks) (i:Int):=by
 rw[h',h];constructor
 ·rintro(⟨i,y,h1,h2⟩|h1)
  ·exact⟨i,y,oM,h2⟩
  ·exact⟨k,x,oM,hx,h1⟩
 ·rintro⟨i,y,h1,h2,h3⟩;by_cases e:i=k
  ·subst e;rw[hx]at h2;injection h2 with h2;subst h2;exact .inr h3
  ·exact .inl ⟨i,y,oM,h2,h3⟩
theorem Qfg{ks:List gO}{k:Nat}{tb:Bool}(hk:ks.length≤k)(h:tb=true↔∃(i:Nat) (x:gO),i<k∧ks[i]?=some x∧x.gone=false∧¬Reach (tK ks) (i:Int)):tb=sW ks:=by
 have h2:sW ks=true↔∃(i:Nat) (x:gO),ks[i]?=some x∧x.gone=false∧¬Reach (tK ks) (i:Int):=by unfold sW;exact @decide_eq_true_iff _ (Classical.propDecidable _)
 rw[Qi9,h,h2];exact⟨fun⟨i,x,_,h⟩=>⟨i,x,h⟩,fun⟨i,x,h⟩=>⟨i,x,by have:=(List.getElem?_eq_some_iff.1 h.1).1;omega,h⟩⟩
theorem QdL{ks:List gO}(hc:Pf ks):∀x,x∈o1 ks→QgT (ks.length:Int) x:=by
 intro y hy hg;obtain⟨k,hk⟩:=en.1 hy;obtain⟨x,hx⟩:=bu (l:=ks) (i:=k) (by rw[←BV ks];exact(List.getElem?_eq_some_iff.1 hk).1);rw[BM hx]at hk;injection hk with hk;subst hk;unfold sj at hg⊢;split at hg
 ·cases hg
 ·rename_i h;rw[dd h];exact hc.ends x (cc hx) hg
theorem Qdl{ks hd:List gO}{k:Nat}{x y:gO}(hh:hd=(kg ks).take k)(hx:(o1 ks)[k]?=some x)(hy:y=K8 (EU (o1 ks) (k:Int)) x):hd++[y]=(kg ks).take (k+1):=by
 have h1:(kg ks)[k]?=some (K8 (EU (o1 ks) (k:Int)) x):=by unfold kg;rw[List.getElem?_map,List.getElem?_zipIdx,hx];simp
 obtain⟨hk,he⟩:=List.getElem?_eq_some_iff.1 h1;rw[kj hk,he,hh,hy]
theorem Qfh{S:ar}{x:bz}{pd:List cI}{j:Nat}{p q:cI}(hp:x.ah[j]?=some p)(h:pd.map cI.k=(x.ah.take j).map (fun p=>ke S p.k))(hq:q.k=ke S p.k):(pd++[q]).map cI.k=(x.ah.take (j+1)).map (fun p=>ke S p.k):=by
 obtain⟨hk,he⟩:=List.getElem?_eq_some_iff.1 hp;rw[kj hk,he,lh,lh,h];simp[hq]
theorem QcN{α:Type}{l pd:List α}{j:Nat}{p y:α}(hp:l[j]?=some p)(hl:pd.length=j):(pd++l.drop j).set j y=(pd++[y])++l.drop (j+1):=by
 rw[BW hp,QdT _ _ oM,hl,Qcu,s5];rfl
theorem Mem.Qhx{S:Nat→Prop}{w0 w:World}{a b c:bo}(h:Mem S w0 w [a,b,c]):Mem S w0 w [.pk [a,b,c]]:=Mem.pack (l:=[a,b,c]) (L:=[]) h
theorem Qbw{ks hd:List gO}{k:Nat}{x:gO}(hh:hd=(o1 ks).take k)(hx:ks[k]?=some x){y:gO}(hy:y=sj ks k x):hd++[y]=(o1 ks).take (k+1):=by
 obtain⟨hk,he⟩:=List.getElem?_eq_some_iff.1 (BM hx);rw[kj hk,he,hh,hy]
end Go.Mor
