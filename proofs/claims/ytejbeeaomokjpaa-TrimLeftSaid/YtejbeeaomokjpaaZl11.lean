/-
  Texts of the proof, part 11.
-/
import Derived.Test.YtejbeeaomokjpaaZl10
import Derived.Shelf.SlSortCmp.Whole1
set_option maxRecDepth 10000
namespace Go.Mor
open Go.RowKit Go.Sort Go.Proofs
def Gw(w w':World):Prop:=∃q os,w'=grow (w.drewN q) os
theorem Gw.refl(w:World):Gw w w:=⟨0,#[],by rw[grow_empty];rfl⟩
theorem Gw.drew{w w':World}(h:Gw w w'):Gw w w'.drew:=by
 obtain⟨q,os,rfl⟩:=h;exact⟨q+1,os,rfl⟩
theorem Gw.kp{w w':World}(h:Gw w w'):Mem bK w w' []:=by
 obtain⟨q,os,rfl⟩:=h;refine⟨rfl,rfl,rfl,by simp[grow,World.drewN],fun k hk _=> ?_,sI,jT⟩;show(w.heap++os)[k]?=w.heap[k]?;rw[Array.getElem?_append_left hk]
end Go.Mor
namespace Go.Mor
open Go.RowKit Go.Sort Go.Proofs
theorem tm{α:Type}[Inhabited α](enc:α→Value)(d:Array α)(cur:Array Value)(h:d.size≤cur.size):((putCells enc 0 d cur).toList).take d.size=d.toList.map enc:=by
 refine QdX fun i=> ?_
 by_cases hi:i<d.size
 ·have h2:i<cur.size:=oM;have e1:(putCells enc 0 d cur).toList[i]?=some (enc d[i]!):=by unfold putCells;rw[Array.getElem?_toList,Array.getElem?_mapIdx,Array.getElem?_eq_getElem h2];simp[hi]
  rw[List.getElem?_take_of_lt hi,e1,List.getElem?_map,Array.getElem?_toList,Array.getElem?_eq_getElem hi];simp[hi]
 ·rw[List.getElem?_eq_none (by rw[QjL];omega),List.getElem?_eq_none (by simp;omega)]
theorem BE{α:Type}[Inhabited α](enc:α→Value){w:World}{e n c g:Nat}{xs:aW}(h:(bo.row e 1 (some (aZ g)) n c xs).holds w)(m:Nat){dk:Array α}(hd:dk.size=n)(os:Array Obj):Mem (bo.row e 1 (some (aZ g)) n c xs).fp w (sortWorld enc w g 0 m dk os) [.row e 1 (some (aZ g)) n c (dk.toList.map enc)]:=by
 obtain⟨hl,h2⟩:=h;rcases h2 with⟨h2,_⟩|⟨g',cap,cur,hv,hb,hg,Ps,T6,Cn,ht⟩
 ·cases h2
 injection hv with hv _ hc;injection hv with hv;injection hv with hv;subst hv hc;have fm:g<w.heap.size:=mI hg;have Jg:(sortWorld enc w g 0 m dk os).heap=(w.heap.modify g (onCells (putCells enc 0 dk)))++os:=rfl;refine⟨rfl,rfl,rfl,?_,fun k hk cU=> ?_,?_,cc _ _⟩
 ·rw[Jg];simp
 ·rw[Jg,Array.getElem?_append_left (by simpa using hk),Array.getElem?_modify,QcA];intro e1;subst e1;exact cU ⟨(aZ g),rfl,rfl⟩
 ·simp only[QcC];rintro _ rfl;refine⟨⟨by simp[hd],.inr ⟨g,c,putCells enc 0 dk cur,rfl,hb,?_,Ps,T6,?_,?_⟩⟩,fun k hk=> .inl hk⟩
  ·rw[Jg,Array.getElem?_append_left (by simpa using fm),Array.getElem?_modify,dd rfl,hg];rfl
  ·simpa[putCells]using Cn
  ·rw[QiX,←hd];refine tm enc dk cur ?_;rw[QiX]at Cn;omega
theorem Ga{α:Type}[Inhabited α](enc:α→Value){w:World}{e n c g:Nat}{d:Array α}(h:(bo.row e 1 (some (aZ g)) n c (d.toList.map enc)).holds w):Holds enc w g 0 d:=by
 intro j hj;obtain⟨ad,ha,hc⟩:=aB h j (enc d[j]!) (by rw[List.getElem?_map,Array.getElem?_toList,Array.getElem?_eq_getElem hj];simp[hj]);injection ha with ha;subst ha;rw[yq]at hc;have hf:=mK h j;rw[yq]at hf;exact⟨by rw[Qgu];exact hc,by rw[Qgu];exact hf⟩
def jY(n:Nat)(key:Nat→Int)(il:List Nat):Prop:=il.Perm (List.range n)∧il.Pairwise (fun i j=>key i≤key j)
def rJ(nl fl:ar)(i:Nat):Int:=nl.getD (fl.getD i 0).toNat 0
def gD(l:List Nat):ar:=l.map (fun i:Nat=>(i:Int))
theorem Gb{l:List Nat}{j i:Nat}(h:l[j]?=some i):(gD l)[j]?=some (i:Int):=by simp[gD,h]
theorem Gc{f:Nat→Int}{l:List Nat}{j i:Nat}(h:l[j]?=some i):(l.take (j+1)).map f=(l.take j).map f++[f i]:=by
 obtain⟨hj,he⟩:=List.getElem?_eq_some_iff.1 h;rw[QjK hj,Qjy,he];rfl
def s7(n j:Nat):ar:=gD (List.range j)++List.replicate (n-j) 0
theorem Dn(n:Nat):ints (s7 n 0)=List.replicate n (vI 0):=by simp[s7,gD,ints]
theorem Gd(n:Nat):s7 n n=gD (List.range n):=by simp[s7]
theorem Dp{n j:Nat}(h:j<n):(ints (s7 n j)).set j (vI (j:Int))=ints (s7 n (j+1)):=by
 unfold s7 gD ints;obtain⟨d,hd⟩:=Nat.le.dest h;rw[show n-j=d+1 by omega,show n-(j+1)=d by omega,QfI,lh];simp
def zh(n:Nat)(i:Fin n):Value:=vI (i.val:Int)
def Rg(nl fl:ar)(n:Nat)(i j:Fin n):Int:=rJ nl fl i.val-rJ nl fl j.val
theorem Nx(nl fl:ar)(n:Nat):SWO (ltOf (Rg nl fl n)):=by
 have e:∀x y,ltOf (Rg nl fl n) x y=decide (rJ nl fl x.val<rJ nl fl y.val):=by intro x y;unfold ltOf Rg;exact decide_eq_decide.2 oM
 refine⟨fun x=> ?_,fun x y z h1 h2=> ?_,fun x y z h1 h2=> ?_⟩
 ·rw[e];simp
 ·rw[e]at*;simp at*;omega
 ·rw[e]at*;simp at*;omega
theorem Dq(n:Nat):((Array.ofFn (n:=n) id).toList).map (zh n)=ints (gD (List.range n)):=by
 refine QdX fun i=> ?_
 by_cases hi:i<n
 ·simp[ints,gD,zh,hi]
 ·simp[ints,gD,zh,hi]
theorem Qkg{nl fl:ar}{n:Nat}[Inhabited (Fin n)]{d':Array (Fin n)}(hp:PermIn 0 (Array.ofFn (n:=n) id).size (Array.ofFn (n:=n) id) d')(hs:SortedIn (ltOf (Rg nl fl n)) 0 (Array.ofFn (n:=n) id).size d'):jY n (rJ nl fl) (d'.toList.map (·.val))∧d'.toList.map (zh n)=ints (gD (d'.toList.map (·.val))):=by
 obtain⟨h1,_,h3⟩:=hp;have hn:(Array.ofFn (n:=n) id).size=n:=sI;have pD:d'.size=n:=by rw[h1,hn]
 refine⟨⟨?_,?_⟩,?_⟩
 ·have e1:d'.extract 0 (Array.ofFn (n:=n) id).size=d':=by rw[←h1];exact Array.extract_size
  rw[e1,Array.extract_size]at h3;have:=h3.map (fun i:Fin n=>i.val);refine this.trans ?_;have e2:((Array.ofFn (n:=n) id).toList).map (fun i:Fin n=>i.val)=List.range n:=by
   refine QdX fun i=> ?_
   by_cases hi:i<n<;>simp[hi]
  rw[e2]
 ·rw[QiW];intro i j hi hj Mu;simp only[QjN,Array.length_toList]at hi hj;have:=hs i j (Qdv _) Mu (by rw[hn,←pD];exact hj);rw[getElem!_pos d' j oM,getElem!_pos d' i oM]at this;unfold ltOf Rg at this;simp only[nS]at this;simp only[List.getElem_map,Array.getElem_toList];omega
 ·unfold ints gD;rw[Qcn,Qcn];rfl
end Go.Mor
namespace Go.Mor
open Go.RowKit
def qF{α β:Type}(R:α→β→Prop)(l:List α)(m:List β):Prop:=l.length=m.length∧∀(i:Nat) (x:α) (y:β),l[i]?=some x→m[i]?=some y→R x y
section
variable {α β : Type} {R : α → β → Prop} {l : List α} {m : List β}
theorem qF.nil:qF R [] []:=⟨rfl,fun i x y h=>by simp at h⟩
theorem qF.snoc(h:qF R l m){x:α}{y:β}(hr:R x y):qF R (l++[x]) (m++[y]):=by
 obtain⟨hl,h⟩:=h;refine⟨by simp[hl],fun i a b ha hb=> ?_⟩;rcases iR i l.length with h1|h1|h1
 ·rw[List.getElem?_append_left h1]at ha;rw[List.getElem?_append_left oM]at hb;exact h i a b ha hb
 ·subst h1;rw[List.getElem?_append_right (Qjn _),QiN]at ha;rw[List.getElem?_append_right oM,hl,QiN]at hb;simp at ha hb;subst ha hb;exact hr
 ·rw[List.getElem?_eq_none (by simp;omega)]at ha;cases ha
theorem qF.next{k:Nat}(h:qF R (l.take k) m){x:α}(hx:l[k]?=some x){y:β}(hr:R x y):qF R (l.take (k+1)) (m++[y]):=by
 obtain⟨hk,he⟩:=List.getElem?_eq_some_iff.1 hx;rw[QjK hk,he];exact h.snoc hr
end
def rK(gl:List Bool)(k:Nat):Nat:=((gl.take k).filter (fun b=> !b)).length
def qG(gl:List Bool)(k:Nat):ar:=(List.range gl.length).map (fun i=>if i<k∧gl.getD i true=false then(rK gl i:Int)else 0)
theorem EG(gl:List Bool)(k:Nat):rK gl k≤k:=by
 unfold rK;exact pX (Qjt _ _) (by simp;omega)
theorem Jh{gl:List Bool}{k:Nat}(h:gl[k]?=some false):rK gl (k+1)=rK gl k+1:=by
 obtain⟨hk,he⟩:=List.getElem?_eq_some_iff.1 h;unfold rK;rw[QjK hk,xH,he];simp
theorem Ny{gl:List Bool}{k:Nat}(h:gl[k]?=some true):rK gl (k+1)=rK gl k:=by
 obtain⟨hk,he⟩:=List.getElem?_eq_some_iff.1 h;unfold rK;rw[QjK hk,xH,he];simp
theorem BF(gl:List Bool)(k:Nat):(qG gl k).length=gl.length:=by simp[qG]
theorem Ge(gl:List Bool):ints (qG gl 0)=List.replicate gl.length (vI 0):=by
 unfold qG ints;simp only[zF,Qcj,sy,Qcn];refine QdX fun i=> ?_
 by_cases hi:i<gl.length
 ·simp[hi]
 ·simp[hi]
theorem Ji{gl:List Bool}{k:Nat}(h:gl[k]?=some false):(ints (qG gl k)).set k (vI (rK gl k:Int))=ints (qG gl (k+1)):=by
 obtain⟨hk,he⟩:=List.getElem?_eq_some_iff.1 h;unfold qG ints;refine QdX fun i=> ?_
 by_cases hi:i<gl.length
 ·by_cases e:k=i
  ·subst e;rw[List.getElem?_set_self (by simpa using hk)];simp[hk,List.getD,he]
  ·rw[List.getElem?_set_ne e];simp only[List.getElem?_map,List.getElem?_range hi,s9];have:(i<k∧gl.getD i true=false)↔(i<k+1∧gl.getD i true=false):=and_congr oM Qi1;simp only[this]
 ·rw[List.getElem?_eq_none (by simp;omega),List.getElem?_eq_none (by simp;omega)]
theorem Nz{gl:List Bool}{k:Nat}(h:gl[k]?=some true):qG gl k=qG gl (k+1):=by
 obtain⟨hk,he⟩:=List.getElem?_eq_some_iff.1 h;unfold qG;refine Qch fun i _=> ?_
 have:(i<k∧gl.getD i true=false)↔(i<k+1∧gl.getD i true=false):=by
  by_cases e:i=k
  ·subst e;simp[List.getD,h]
  ·exact and_congr oM Qi1
 simp only[this]
def ve(gl:List Bool):ar:=qG gl gl.length
theorem BG{gl:List Bool}{k i:Nat}(hi:i<gl.length):(qG gl k).getD i 0=if i<k∧gl.getD i true=false then(rK gl i:Int)else 0:=by
 unfold qG;rw[List.getD_eq_getElem?_getD,List.getElem?_map,List.getElem?_range hi];rfl
theorem Jj(gl:List Bool)(k:Nat)(hl:gl.length≤1000000):0≤(ve gl).getD k 0∧(ve gl).getD k 0≤1000000:=by
 unfold ve;by_cases hk:k<gl.length
 ·have:=EG gl k;rw[BG hk];by_cases hc:k<gl.length∧gl.getD k true=false
  ·rw[dd hc];omega
  ·rw[QcA hc];omega
 ·rw[List.getD_eq_getElem?_getD,List.getElem?_eq_none (by rw[BF];omega)];simp
def nh(ks:List gO):List Bool:=ks.map (fun x=>x.gone)
def toA(nl:ar)(e a:Int):Int:=if e=0∨e=1 then nl.getD a.toNat 0 else if e=3 then a else 0
def toBb(nl:ar)(e b:Int):Int:=if e=1 then nl.getD b.toNat 0 else 0
def ZG(nl:ar)(p:vb)(q:bI):Prop:=q.dst=p.dst∧∃il,jY p.from_.length (rJ nl p.from_) il∧q.args=il.map (fun i=>p.args.getD i 0)
structure iM(nl:ar)(x:gO)(y:ay):Prop where
 ah:qF (ZG nl) x.ah y.ah
 insts:y.insts.map aO.e0=x.insts
 e:y.e=x.e
 v:y.v=x.v
 a:y.a=toA nl x.e x.a
 b:y.b=toBb nl x.e x.b
def pP(ks:List gO):List gO:=ks.filter (fun x=> !x.gone)
def Yi(ks:List gO)(fs:List ay):Prop:=qF (iM (ve (nh ks))) (pP ks) fs
structure Rh(n:Int)(x:gO):Prop where
 lp:x.ah.length≤20000
 ah:∀p,p∈x.ah→0<p.from_.length∧p.from_.length≤20000∧p.args.length=p.from_.length∧∀s,s∈p.from_→0≤s∧s<n
 e0:x.e=0→0≤x.a∧x.a<n
 e1:x.e=1→(0≤x.a∧x.a<n)∧0≤x.b∧x.b<n
theorem Jk{ks:List gO}{k:Nat}{x:gO}(hx:ks[k]?=some x)(h:x.gone=false):pP (ks.take (k+1))=pP (ks.take k)++[x]:=by
 obtain⟨hk,he⟩:=List.getElem?_eq_some_iff.1 hx;unfold pP;rw[QjK hk,xH,he];simp[h]
theorem NB{ks:List gO}{k:Nat}{x:gO}(hx:ks[k]?=some x)(h:x.gone=true):pP (ks.take (k+1))=pP (ks.take k):=by
 obtain⟨hk,he⟩:=List.getElem?_eq_some_iff.1 hx;unfold pP;rw[QjK hk,xH,he];simp[h]
section
variable {w : World} {A : Option Addr} {c : Nat} {ad : Addr} {k : Nat} {gs : List bz} {x : bz}
theorem tW(h:(jh A c gs).holds w)(hA:A=some ad)(hx:gs[k]?=some x):w.cell? (ad.add (k*1))=some (vP (aZ x.g)):=bB (aB h) hA (by unfold jA;rw[List.getElem?_map,hx];rfl)
theorem BH(h:(bo.pk (gs.map gB)).holds w)(hx:gs[k]?=some x){r:bo}(hr:r∈gL x):r.holds w:=oE (oE h (jd.2 ⟨x,Qcs hx,rfl⟩):(gB x).holds w) hr
theorem ng(h:(bo.pk (gs.map gB)).holds w)(hx:gs[k]?=some x){j:Nat}{v:Value}(hj:(gV x)[j]?=some v):w.cell? (ak x.g j)=some v:=ae (BH h hx (r:= .au x.g 65 (gV x)) sI) hj
theorem NC(hx:gs[k]?=some x):(nh (gs.map bz.k))[k]?=some x.gone:=by
 unfold nh;rw[List.getElem?_map,List.getElem?_map,hx];rfl
theorem xP(ks:List gO):(nh ks).length=ks.length:=by simp[nh]
end
end Go.Mor
namespace Go.Mor
open Go.RowKit
def cI.f(p:cI):bI:=⟨p.dst,none,0,p.args⟩
def bz.f(x:bz):ay:=⟨none,0,x.ah.map cI.f,none,0,x.insts.map aO.e0,x.e,x.v,x.a,x.b⟩
section
variable {fs : List ay} {gs : List bz} {nm : ByteArray} {pa va : Int}
theorem UJ(h:gs.map bz.k=lN fs):gs.map bz.f=fs.map ay.e0:=by
 have hl:gs.length=fs.length:=by have:=Qi9 List.length h;rwa [QjN,jR]at this
 refine QdX fun i=> ?_
 rw[List.getElem?_map,List.getElem?_map];by_cases hi:i<fs.length
 ·obtain⟨x,hx⟩:=bu (l:=fs) hi;obtain⟨y,hy⟩:=bu (l:=gs) (i:=i) oM;have h1:=Qi9 (fun l:List gO=>l[i]?) h;simp only[List.getElem?_map,hy,s9,mA hx]at h1;injection h1 with h1;rw[hx,hy,s9,s9];congr 1;unfold bz.f ay.e0;have e1:y.ah.map cI.k=x.ah.map (oG (bS (af fs) (i:Int))):=Qi9 gO.ah h1;have e2:y.insts.map aO.e0=x.insts.map aO.e0:=Qi9 gO.insts h1;have e3:y.e=x.e:=Qi9 gO.e h1;have e4:y.v=x.v:=Qi9 gO.v h1;have e5:y.a=x.a:=Qi9 gO.a h1;have e6:y.b=x.b:=Qi9 gO.b h1;have e7:y.ah.map cI.f=x.ah.map bI.e0:=by have h2:=Qi9 (List.map (fun p:vb=>(⟨p.dst,none,0,p.args⟩:bI))) e1;rw[Qcn,Qcn]at h2;exact h2
  rw[e2,e3,e4,e5,e6,e7]
 ·rw[List.getElem?_eq_none oM,List.getElem?_eq_none oM];rfl
theorem BI(h:gs.map bz.k=lN fs):ec fs (gs.map bz.f):=by
 unfold ec;rw[UJ h,Qcn];refine Qch fun x _=> ?_
 show x.e0=x.e0.e0;unfold ay.e0;simp only[Qcn];rfl
end
theorem Qeu{α β:Type}{f:α→List β}:∀{l:List α} {x:α},x∈l→(f x).Sublist (l.flatMap f)
 |a::l,x,h=>by
  rw[iC];rcases Qcx.1 h with rfl|h
  ·exact List.sublist_append_left _ _
  ·exact(Qeu h).trans (Qh3 _ _)
abbrev FrE:=aX×Nat×ar
structure Wk(gs:List bz)(n:Nat)(fc:List FrE)(rl:List Bool)(ls:ar):Prop where
 len:rl.length=n
 rd:∀i:Nat,i<n→rl.getD i false=true→Rd (gs.map bz.f) (i:Int)
 Tv:∀v,v∈ls→0≤v∧v<(n:Int)∧rl.getD v.toNat false=true
 PF:ls.length≤vd rl
 closed:∀i:Nat,i<n→rl.getD i false=true→(i:Int)∈ls∨∀e,fc[i]?=some e→∀a,a∈e.2.2→0≤a→rl.getD a.toNat false=true
end Go.Mor
namespace Go.Mor
open Go.RowKit
end Go.Mor
namespace Go.Mor
end Go.Mor
namespace Go.Mor
open Go.RowKit
structure VR(n:Nat)(x:ay):Prop where
 ah:∀p,p∈x.ah→0≤p.dst∧p.dst<(n:Int)
 insts:∀p,p∈x.insts→-1≤p.dst∧p.dst<(n:Int)∧∀a,a∈p.args→0≤a∧a<(n:Int)
 fin:wo x→0≤x.v∧x.v<(n:Int)
end Go.Mor
namespace Go.Mor
open Go.RowKit
end Go.Mor
namespace Go.Mor
end Go.Mor
namespace Go.Mor
end Go.Mor
namespace Go.Mor
open Go.RowKit
theorem Jl{fs:List ay}{k:Nat}{x:ay}{p:bI}(hx:fs[k]?=some x)(hp:p∈x.ah):(p.dst,(k:Int),-1)∈bF fs:=by
 unfold bF db;rw[Qcg,pZ];exact⟨(x,k),Qi2.2 hx,Qi6 _ (jd.2 ⟨p,hp,rfl⟩)⟩
theorem BK{fs:List ay}{k j:Nat}{x:ay}{p:aO}(hx:fs[k]?=some x)(hp:x.insts[j]?=some p)(hm:aU p.op):(p.dst,(k:Int),(j:Int))∈bF fs:=by
 unfold bF db;rw[Qcg,pZ];exact⟨(x,k),Qi2.2 hx,Qjl _ (jd.2 ⟨(p,j),Qjr.2 ⟨Qi2.2 hp,by simpa using hm⟩,rfl⟩)⟩
section
variable {nm : ByteArray} {pa va : Int} {fs : List ay} {n : Nat}
theorem NH(h:j9 nm pa va fs)(kx:va=(n:Int)):∀x,x∈fs→VR n x:=by
 intro x hx;obtain⟨k,hk⟩:=jF.1 hx;have Jm:=(List.getElem?_eq_some_iff.1 hk).1;obtain⟨y,hy,hr⟩:=h.reads k Jm;rw[hk]at hy;injection hy with hy;subst hy;have I6:=h.par;refine⟨fun p hp=> ?_,fun p hp=> ?_,fun hf=> ?_⟩
 ·have:=h.QbQ.2.1 _ (Jl hk hp);simp only at this;omega
 ·obtain⟨j,hj⟩:=jF.1 hp;have ha:∀a,a∈p.args→0≤a∧a<(n:Int):=by intro a ha;obtain⟨i,hi⟩:=jF.1 ha;have:=hr.insts j p hj i a hi;exact⟨this.1,by rw[←kx];exact this.2.1⟩
  by_cases hm:aU p.op
  ·have:=h.QbQ.2.1 _ (BK hk hj hm);simp only at this;exact⟨oM,oM,ha⟩
  ·rcases(h.QbQ.1 x hx p hp).1 with h1|h1
   ·exact absurd h1 hm
   ·exact⟨oM,oM,ha⟩
 ·have:=hr.fin (by unfold wo at hf;unfold pE;omega);exact⟨this.1,by rw[←kx];exact this.2.1⟩
end
end Go.Mor
namespace Go.Mor
open Go.RowKit
theorem qI{nm:cV}{pa va:Int}{fs:List ay}(h:bV nm pa va fs=0):j9 nm pa va fs∧va≤20000∧(hY fs:Int)≤20000:=by
 unfold bV at h;split at h
 ·omega
 ·split at h
  ·rename_i h1 h2;exact⟨h2,oM,oM⟩
  ·omega
end Go.Mor
namespace Go.Mor
open Go.RowKit
def gO.f(x:gO):ay:=⟨none,0,x.ah.map (fun p=>⟨p.dst,none,0,p.args⟩),none,0,x.insts,x.e,x.v,x.a,x.b⟩
structure PG(n:Int)(p:vb):Prop where
 up:p.from_.Pairwise (·<·)
 yW:∀s,s∈p.from_→0≤s∧s<n
 len:p.args.length=p.from_.length
def O9(n:Int)(x:gO):Prop:=(x.e=0∧(0≤x.a∧x.a<n)∧x.v=0∧x.b=0)∨(x.e=1∧(0≤x.a∧x.a<n)∧(0≤x.b∧x.b<n)∧x.a≠x.b)∨(x.e=2∧x.a=0∧x.b=0)∨(x.e=3∧cN x.a∧x.v=0∧x.b=0)
theorem NK(bs:List SB)(b:Int):(bS bs b).Pairwise (·<·):=by
 unfold bS dW;rw[gS];refine List.Pairwise.filter _ ?_;refine List.pairwise_lt_range.imp ?_;intro a b h;exact Int.ofNat_lt.2 h
section
variable {nm : ByteArray} {pa va : Int} {fs : List ay} {n : Nat}
theorem Jq(h:j9 nm pa va fs){k:Nat}(hk:k<fs.length)(h0:k≠0):0<(bS (af fs) (k:Int)).length:=by
 have hr:Reach (tg (af fs)) (k:Int):=by have h1:=mv (bs:=af fs);rw[bE]at h1;exact jO.1 (h1.1 h.all k hk)
 have:∀x:Int,Reach (tg (af fs)) x→x≠0→∃s,s∈bS (af fs) x:=by
  intro x hx cU;cases hx with
  |zero=>exact absurd rfl cU
  |step hs ht=>
   rename_i s;refine⟨s,AN.2 ⟨?_,ht⟩⟩;exact mu (by rw[bE];exact h.pos) hs
 obtain⟨s,hs⟩:=this _ hr oM;exact QdG hs
theorem EH(hv:bV nm pa va fs=0)(hN:fs.length≤1000):Re fs:=by
 obtain⟨h,_,jv⟩:=qI hv;have hp:∀(k:Nat) (x:ay),fs[k]?=some x→x.ah.length+x.insts.length≤hY fs:=by
  intro k x hx;have hm:x.ah.length+x.insts.length∈(fs.take fs.length).map (fun x=>x.ah.length+x.insts.length):=by rw[uK (Qjn _)];exact jd.2 ⟨x,Qcs hx,rfl⟩
  have:∀l:List Nat,∀a,a∈l→a≤l.sum:=by
   intro l;induction l with
   |nil=>intro a ha;cases ha
   |cons b l ih=>
    intro a ha;rcases Qcx.1 ha with rfl|ha
    ·simp
    ·have:=ih a ha;simp;omega
  have:=this _ _ hm;unfold hY jl;omega
 have key:∀x,x∈fs→∃k:Nat,fs[k]?=some x:=fun x hx=>jF.1 hx
 refine⟨fun x hx=> ?_,fun x hx=> ?_,fun x hx p jL=> ?_,fun x hx i hi=> ?_⟩
 ·obtain⟨k,hk⟩:=key x hx;have:=hp k x hk;omega
 ·obtain⟨k,hk⟩:=key x hx;have:=hp k x hk;omega
 ·obtain⟨k,hk⟩:=key x hx;obtain⟨y,hy,hr⟩:=h.reads k (List.getElem?_eq_some_iff.1 hk).1;rw[hk]at hy;injection hy with hy;subst hy;obtain⟨j,hj⟩:=jF.1 jL;rw[(hr.ah j p hj).1];have:(bS (af fs) (k:Int)).length≤(af fs).length:=fZ _ _ _;rw[bE]at this;omega
 ·have:=(h.QbQ.1 x hx i hi).2;omega
structure UK(n N:Nat)(x:bz):Prop where
 lp:x.ah.length≤20000
 li:x.insts.length≤20000
 gone:x.gone=false
 ah:∀p,p∈x.ah→(0≤p.dst∧p.dst<(n:Int))∧p.args.length≤20000∧(∀a,a∈p.args→0≤a∧a<(n:Int))∧0<p.from_.length∧p.from_.length≤20000∧PG (N:Int) p.k
 insts:∀i,i∈x.insts→(cP i.op→0≤i.dst∧i.dst<(n:Int))∧i.args.length≤20000∧∀a,a∈i.args→0≤a∧a<(n:Int)
 ends:O9 (N:Int) x.k
 fin:(x.e=1∨x.e=2)→-1≤x.v∧x.v<(n:Int)
theorem Jr{gs:List bz}(hv:bV nm pa va fs=0)(hN:fs.length≤1000)(kx:va=(n:Int))(hg:gs.map bz.k=lN fs):∀x,x∈gs→UK n gs.length x:=by
 obtain⟨h,_,jv⟩:=qI hv;have Gg:=EH hv hN;have Yk:=NH h kx;have hl:gs.length=fs.length:=by have:=Qi9 List.length hg;rwa [QjN,jR]at this
 intro y hy;obtain⟨k,hk⟩:=jF.1 hy;have Jm:=(List.getElem?_eq_some_iff.1 hk).1;obtain⟨x,hx⟩:=bu (l:=fs) (i:=k) oM;have pj:=Qcs hx;have h1:=Qi9 (fun l:List gO=>l[k]?) hg;simp only[List.getElem?_map,hk,s9,mA hx]at h1;injection h1 with h1;have e1:y.ah.map cI.k=x.ah.map (oG (bS (af fs) (k:Int))):=Qi9 gO.ah h1;have e2:y.insts.map aO.e0=x.insts.map aO.e0:=Qi9 gO.insts h1;have e3:y.e=x.e:=Qi9 gO.e h1;have e4:y.v=x.v:=Qi9 gO.v h1;have e5:y.a=x.a:=Qi9 gO.a h1;have e6:y.b=x.b:=Qi9 gO.b h1;have e7:y.gone=false:=Qi9 gO.gone h1;obtain⟨z,hz,hr⟩:=h.reads k oM;rw[hx]at hz;injection hz with hz;subst hz;have Yl:=Yk x pj;have Tx:(bS (af fs) (k:Int)).length≤fs.length:=by have:(bS (af fs) (k:Int)).length≤(af fs).length:=fZ _ _ _;rwa [bE]at this
 refine⟨by rw[Bs e1];exact Gg.lp x pj,by rw[eM e2];exact Gg.li x pj,e7,fun p hp=> ?_,fun i hi=> ?_,?_,fun hf=> ?_⟩
 ·obtain⟨j,hj⟩:=jF.1 hp;have h2:=Qi9 (fun l:List vb=>l[j]?) e1;simp only[List.getElem?_map,hj,s9]at h2;obtain⟨q,hq⟩:∃q,x.ah[j]?=some q:=bu (by rw[←Bs e1];exact(List.getElem?_eq_some_iff.1 hj).1);rw[hq,s9]at h2;injection h2 with h2;have d1:p.dst=q.dst:=Qi9 vb.dst h2;have d2:p.from_=bS (af fs) (k:Int):=Qi9 vb.from_ h2;have d3:p.args=q.args:=Qi9 vb.args h2;obtain⟨h3,h4⟩:=hr.ah j q hq;have EI:k≠0:=by rintro rfl;have:=h.ah x hx;have:=(List.getElem?_eq_some_iff.1 hq).1;omega
  have Mj:=Jq h (k:=k) oM EI;refine⟨by rw[d1];exact Yl.ah q (Qcs hq),by rw[d3,h3];omega,fun a ha=> ?_,by rw[d2];exact Mj,by rw[d2];omega,⟨by show p.from_.Pairwise _;rw[d2];exact NK _ _,fun s hs=> ?_,by show p.args.length=p.from_.length;rw[d3,d2,h3]⟩⟩
  ·rw[d3]at ha;obtain⟨i,hi⟩:=jF.1 ha;obtain⟨s,hs⟩:∃s,(bS (af fs) (k:Int))[i]?=some s:=bu (by rw[←h3];exact(List.getElem?_eq_some_iff.1 hi).1);have ht:=h4 i a s hi hs;exact⟨ht.1,by rw[←kx];exact ht.2.1⟩
  ·have QJ:s∈p.from_:=hs;rw[d2]at QJ;have:=AK QJ;rw[bE]at this;rw[hl];exact this
 ·obtain⟨j,hj⟩:=jF.1 hi;have h2:=Qi9 (fun l:List aO=>l[j]?) e2;simp only[List.getElem?_map,hj,s9]at h2;obtain⟨q,hq⟩:∃q,x.insts[j]?=some q:=bu (by rw[←eM e2];exact(List.getElem?_eq_some_iff.1 hj).1);rw[hq,s9]at h2;injection h2 with h2;have d1:i.op=q.op:=show i.e0.op=q.e0.op by rw[h2]
  have d2:i.dst=q.dst:=show i.e0.dst=q.e0.dst by rw[h2]
  have d3:i.args=q.args:=show i.e0.args=q.e0.args by rw[h2]
  have jE:=Qcs hq;obtain⟨h5,h6,h7⟩:=Yl.insts q jE;refine⟨fun hp=> ?_,by rw[d3];exact Gg.ai x pj q jE,by rw[d3];exact h7⟩;rw[d1]at hp;have:=h.QbQ.2.1 _ (BK hx hq (iQ hp));have ZJ:=h.par;simp only at this;rw[d2];omega
 ·have:=h.ends x pj;unfold ix at this;unfold O9;show(y.e=0∧(0≤y.a∧y.a<_)∧y.v=0∧y.b=0)∨(y.e=1∧(0≤y.a∧y.a<_)∧(0≤y.b∧y.b<_)∧y.a≠y.b)∨(y.e=2∧y.a=0∧y.b=0)∨(y.e=3∧cN y.a∧y.v=0∧y.b=0);rw[e3,e4,e5,e6,hl];exact this
 ·rw[e3]at hf;rw[e4];by_cases ZK:pE x
  ·have ht:=hr.fin ZK;have:=ht.1;have:=ht.2.1;omega
  ·unfold pE at ZK;omega
end
end Go.Mor
namespace Go.Mor
open Go.RowKit
theorem D7{α β:Type}{f:α→β}{g:α→β}{d l:List α}{k:Nat}{x y:α}(h:d.map f=(l.take k).map g)(hx:l[k]?=some x)(hy:f y=g x):(d++[y]).map f=(l.take (k+1)).map g:=by
 obtain⟨hk,he⟩:=List.getElem?_eq_some_iff.1 hx;rw[Qjy,h,QjK hk,Qjy,he];simp[hy]
theorem Jt{hd gs:List bz}(h:hd.map (·.g)=gs.map (·.g))(A:aX)(c:Nat):jh A c hd=jh A c gs:=by
 have hl:hd.length=gs.length:=by have:=Qi9 List.length h;simpa using this
 have e:∀l:List bz,jA l=(l.map (·.g)).map (fun g=>Value.pointer (some (aZ g))):=fun l=>by unfold jA;rw[Qcn];rfl
 unfold jh;rw[hl,e,e,h]
theorem Qef(n:Nat):bD (List.replicate n false)=List.replicate n (vB false):=by simp[bD]
theorem QfM{α:Type}{l:List α}(h:0<l.length):∃m x,l=m++[x]:=by
 refine⟨l.dropLast,l.getLast (by intro e;rw[e]at h;simp at h),?_⟩;exact(List.dropLast_concat_getLast _).symm
theorem Gj{w:World}{ad:Addr}{l:ar}{i:Nat}{v:Int}(h:(bo.rd (some ad) (ints l)).holds w)(hi:l[i]?=some v):w.cell? (ad.add ((i:Int).toNat*1))=some (vI v):=by
 rw[ld];exact fR h rfl hi
theorem Y9(l:ar)(v:Int):(ints (l++[v])).take l.length=ints l:=by
 unfold ints;rw[Qjy,List.take_append_of_le_length sI,uK sI]
end Go.Mor
namespace Go.Mor
open Go.RowKit
def vl(bs:List SB)(pa va:Int)(ds:rn)(v b q:Int):Bool:=decide (0≤v)&&decide (v<va)&&(decide (v<pa)||match findD ds v with
 |some p=>if p.1=b then decide (p.2<q)else Cr (fS bs) p.1.toNat b.toNat
 |none=>false)
theorem vm{bs:List SB}{pa va:Int}{ds:rn}{v b q:Int}(h:vl bs pa va ds v b q=true):bX (gz bs) pa va ds v b q:=by
 unfold vl at h;simp only[Qjo,QiZ,QcD]at h;obtain⟨⟨h1,h2⟩,h3⟩:=h;refine⟨h1,h2,h3.imp id fun h3=> ?_⟩;split at h3
 ·rename_i p hp;refine⟨p,hp,?_⟩;split at h3
  ·rename_i e;exact .inl ⟨e,by simpa using h3⟩
  ·rename_i e;exact .inr ⟨e,h3⟩
 ·cases h3
def Du(pa va:Int)(fs:List ay)(k:Nat)(x:ay):Bool:=(x.ah.all fun p=>p.args.length==(bS (af fs) (k:Int)).length&&(p.args.zip (bS (af fs) (k:Int))).all fun u=>vl (af fs) pa va (bF fs) u.1 u.2 20000)&&(x.insts.zipIdx.all fun p=>p.1.args.all fun a=>vl (af fs) pa va (bF fs) a (k:Int) (p.2:Int))&&((!decide (x.e=1∨(x.e=2∧x.v≠-1)))||vl (af fs) pa va (bF fs) x.v (k:Int) 20000)
theorem Gk{pa va:Int}{fs:List ay}{k:Nat}{x:ay}(hx:fs[k]?=some x)(h:Du pa va fs k x=true):eL (gz (af fs)) (fun _=>20000) pE pa va fs k:=by
 unfold Du at h;simp only[Qjo]at h;obtain⟨⟨h1,h2⟩,h3⟩:=h;refine⟨x,hx,fun j p hp=> ?_,fun j p hp i a ha=> ?_,fun hf=> ?_⟩
 ·have:=Qjq.1 h1 p (Qcs hp);simp only[Qjo,Js]at this;refine⟨this.1,fun i a s ha hs=> ?_⟩;have hz:(a,s)∈p.args.zip (bS (af fs) (k:Int)):=by refine Qcs (i:=i) ?_;rw[List.getElem?_zip_eq_some];exact⟨ha,hs⟩
  exact vm (Qjq.1 this.2 _ hz)
 ·have:=Qjq.1 h2 (p,j) (Qi2.2 hp);exact vm (Qjq.1 this a (Qcs ha))
 ·rw[QiZ]at h3;rcases h3 with h3|h3
  ·simp only[dB,nS]at h3;exact absurd hf h3
  ·exact vm h3
def Ju(nm:cV)(pa va:Int)(fs:List ay):Bool:=decide (bt nm)&&decide (0≤pa∧pa≤16∧pa≤va)&&decide (0<fs.length)&&(match fs[0]? with|some x=>decide (x.ah.length=0)|none=>true)&&decide ((bS (af fs) 0).length=0)&&decide ((aF (af fs)).length=fs.length)&&(fs.all fun x=>decide (ix (fs.length:Int) x))&&(fs.all fun x=>x.insts.all fun p=>decide (bJ p))&&((bF fs).all fun d=>decide (pa≤d.1)&&decide (d.1<va))&&decide (((bF fs).map (·.1)).Nodup)&&(fs.zipIdx.all fun x=>Du pa va fs x.2 x.1)
theorem NN{nm:cV}{pa va:Int}{fs:List ay}(h:Ju nm pa va fs=true):j9 nm pa va fs:=by
 unfold Ju at h;simp only[Qjo,QcD,Qjq]at h;obtain⟨⟨⟨⟨⟨⟨⟨⟨⟨⟨h1,h2⟩,h3⟩,h4⟩,h5⟩,h6⟩,h7⟩,h8⟩,h9⟩,QV⟩,Uq⟩:=h;refine⟨h1,h2,h3,fun x hx=> ?_,h5,h6,h7,⟨h8,h9,QV⟩,fun k hk=> ?_⟩
 ·rw[hx]at h4;simpa using h4
 ·obtain⟨x,hx⟩:=bu hk;exact(xy h3 h6).eL (fun _ _ h=>h) (Gk hx (Uq (x,k) (Qi2.2 hx)))
theorem Jv{nm:cV}{pa va:Int}{fs:List ay}(h:(decide ((hY fs:Int)>20000∨va>20000)=false)∧Ju nm pa va fs=true):bV nm pa va fs=0:=(y6 (by simpa using h.1) (NN h.2)).symm
end Go.Mor
namespace Go.Mor
open Go.RowKit
theorem xQ{p:bI}:p.e0.Ok↔p.Ok:=⟨fun h=>⟨h.dst,h.len,h.args⟩,fun h=>⟨h.dst,h.len,h.args⟩⟩
theorem xR{p:aO}:p.e0.Ok↔p.Ok:=⟨fun h=>⟨h.op,h.dst,h.n,h.name,h.len,h.args⟩,fun h=>⟨h.op,h.dst,h.n,h.name,h.len,h.args⟩⟩
theorem xS{x:ay}:x.e0.Ok↔x.Ok:=by
 constructor
 ·intro h;have h1:=h.lp;have h2:=h.li;refine⟨?_,fun p hp=>xQ.1 (h.ah p.e0 (jd.2 ⟨p,hp,rfl⟩)),?_,fun p hp=>xR.1 (h.insts p.e0 (jd.2 ⟨p,hp,rfl⟩)),h.e,h.v,h.a,h.b⟩
  ·have:gY (x.ah.map bI.e0).length:=h1;rwa [QjN]at this
  ·have:gY (x.insts.map aO.e0).length:=h2;rwa [QjN]at this
 ·intro h;refine⟨?_,fun p hp=> ?_,?_,fun p hp=> ?_,h.e,h.v,h.a,h.b⟩
  ·show gY (x.ah.map bI.e0).length;rw[QjN];exact h.lp
  ·obtain⟨q,hq,rfl⟩:=jd.1 hp;exact xQ.2 (h.ah q hq)
  ·show gY (x.insts.map aO.e0).length;rw[QjN];exact h.li
  ·obtain⟨q,hq,rfl⟩:=jd.1 hp;exact xR.2 (h.insts q hq)
theorem pL.alike{fs gs:List ay}(h:ec fs gs)(ho:pL fs):pL gs:=by
 intro y hy;have:y.e0∈fs.map ay.e0:=by rw[show fs.map ay.e0=gs.map ay.e0 from h];exact jd.2 ⟨y,hy,rfl⟩
 obtain⟨x,hx,e⟩:=jd.1 this;exact xS.1 (e▸xS.2 (ho x hx))
theorem jS{fs gs:List ay}(h:ec fs gs):hY fs=hY gs:=by rw[←rF fs,←rF gs,h]
def lP(va:Int)(fs:List ay):Prop:=gZ va fs∨1500<hY fs
instance (va : Int) (fs : List ay) : Decidable (lP va fs) := by unfold lP; infer_instance
theorem Gl{va:Int}{fs:List ay}(h:¬lP va fs):fs.length≤60∧hY fs≤1500:=by
 unfold lP at h;exact⟨uO (fun e=>h (.inl e)),oM⟩
theorem Rl{w:World}{A9:aX}{e7 e9 n7 n9 c7 c9:Nat}{x:ay}(hp:x.ah=[])(h9:(bo.row e9 6 A9 n9 c9 (xV x)).holds w)(h7:(bo.row e7 5 x.iA n7 c7 (zL x.insts)).holds w)(hi:∀i,i∈x.insts→(bo.rd i.A (ints i.args)).holds w):RO bK w (.fn A9 [x]):=by
 refine RO.of (fun r hr=> ?_);rcases Qcx.1 hr with rfl|hr
 ·have h1:(bo.rd A9 ([x].flatMap xV)).holds w:=by rw[show[x].flatMap xV=xV x by simp];exact aB h9
  have:=jt (f:=xV) sw oM h1;unfold bo.blocks;rw[show(af [x]).map SB.cells=[x].map xV by unfold af;rw[Qcn];rfl];exact this
 ·obtain⟨y,hy,ZN⟩:=pZ.1 hr;rw[QcC]at hy;subst hy;unfold ay.parts at ZN;rw[hp]at ZN;rcases Qcx.1 ZN with rfl|hr3
  ·intro i cs h;simp at h
  rcases Qcx.1 hr3 with rfl|hr4
  ·exact jt gI oM (aB h7)
  rcases QiU.1 hr4 with ZO|ZO
  ·simp at ZO
  ·obtain⟨p,hp,rfl⟩:=jd.1 ZO;exact hi p hp
theorem NO{w:World}{A:aX}:(bo.rd A (ints [])).holds w:=fun i v hi=>by simp[ints]at hi
def PH:cV:=⟨#[102]⟩
end Go.Mor
namespace Go.Mor
open Go.RowKit
section
variable {T : Int → List Int}
theorem EL{U:Int→ar}(h:∀x t,t∈U x→t∈T x){x:Int}(hr:Reach U x):Reach T x:=by
 induction hr with
 |zero=>exact .zero
 |step _ ht ih=>exact .step ih (h _ _ ht)
theorem Qmi{a b x:Int}(hb:b≠0)(h:Reach (Cq T a) x):Reach (Cq T b) x∨Reach (Cq T a) b:=by
 induction h with
 |zero=>exact .inl .zero
 | @step x t hx ht ih=>
  rcases ih with ih|ih
  ·by_cases e:t=b
   ·exact .inr (e▸ .step hx ht)
   ·exact .inl (.step ih (im.2 ⟨(im.1 ht).1,e⟩))
  ·exact .inr ih
theorem Dm.trans{a b c:Int}(h1:Dm T a b)(h2:Dm T b c):Dm T a c:=by
 rintro⟨ha,hr⟩;by_cases hb:b=0
 ·subst hb;exact ha (Dm.yT h1)
 ·rcases Qmi hb hr with h|h
  ·exact h2 ⟨hb,h⟩
  ·exact h1 ⟨ha,h⟩
theorem QjI{b x:Int}(hb:b≠0)(h:Reach (Cq T b) x):x≠b:=by
 cases h with
 |zero=>exact fun e=>hb e.symm
 |step _ ht=>exact(im.1 ht).2
theorem Dm.Qns{a b:Int}(hr:Reach T b)(h1:Dm T a b)(h2:Dm T b a):a=b:=by
 by_cases ha:a=0
 ·subst ha;exact(Dm.yT h2).symm
 by_cases hb:b=0
 ·subst hb;exact Dm.yT h1
 by_cases e:a=b
 ·exact e
 exfalso;have key:∀x,Reach T x→Reach (Cq (Cq T a) b) x∨Reach (Cq T b) a∨Reach (Cq T a) b:=by
  intro x hx;induction hx with
  |zero=>exact .inl .zero
  | @step x t hx ht ih=>
   rcases ih with ih|ih
   ·by_cases ea:t=a
    ·subst ea;refine .inr (.inl (.step (EL (fun x s hs=> ?_) ih) (im.2 ⟨ht,e⟩)));obtain⟨q1,q2⟩:=im.1 hs;exact im.2 ⟨(im.1 q1).1,q2⟩
    ·by_cases eb:t=b
     ·subst eb;refine .inr (.inr (.step (EL (fun x s hs=>(im.1 hs).1) ih) (im.2 ⟨ht,fun e2=>e e2.symm⟩)))
     ·exact .inl (.step ih (im.2 ⟨im.2 ⟨ht,ea⟩,eb⟩))
   ·exact .inr ih
 rcases key b hr with h|h|h
 ·exact QjI hb h rfl
 ·exact h2 ⟨hb,h⟩
 ·exact h1 ⟨ha,h⟩
end
section
variable {fs : List ay} {nm : ByteArray} {pa va : Int}
abbrev Av(pa va:Int)(fs:List ay)(v b q:Int):Prop:=bX (Dm (tg (af fs))) pa va (bF fs) v b q
theorem Rn(h:j9 nm pa va fs){b:Int}(h0:0≤b)(h1:b<fs.length):Reach (tg (af fs)) b:=by
 have h2:=mv (bs:=af fs);rw[bE]at h2;have:=jO.1 (h2.1 h.all b.toNat oM);rwa [QiT h0]at this
def link(σ:Int→Int)(d o:Int):Int→Int:=fun v=>if σ v=d then o else σ v
end
end Go.Mor
namespace Go.Mor
open Go.RowKit
def Pb(x:ay):Prop:=x.e=1∨(x.e=2∧0≤x.v)
instance (x : ay) : Decidable (Pb x) := by unfold Pb; infer_instance
end Go.Mor
namespace Go.Mor
open Go.RowKit
section
variable {P : Program} {t : TypeId} {f0 f1 f2 f3 f4 : Field}
abbrev K5:=Int×Int×cV×Int×Int
end
end Go.Mor
namespace Go.Mor
open Go.RowKit
abbrev yu:=K5
section
variable {fs : List ay} {nm : ByteArray} {pa va : Int} {σ : Int → Int} {k j : Nat} {x : ay} {vg : List (yu × Int)}
theorem uh{α β:Type}(f:β→α→β)(a:β){l:List α}{j:Nat}{y:α}(hy:l[j]?=some y):(l.take (j+1)).foldl f a=f ((l.take j).foldl f a) y:=by
 obtain⟨hj,he⟩:=List.getElem?_eq_some_iff.1 hy;rw[QjK hj,Qf3,he];rfl
end
end Go.Mor
namespace Go.Mor
open Go.RowKit
inductive Ch(to:ar):Int→Int→Nat→Prop
 |zero {v:Int}:0≤v→to[v.toNat]?=some v→Ch to v v 0
 |step {v u r:Int} {k:Nat}:0≤v→to[v.toNat]?=some u→u≠v→Ch to u r k→Ch to v r (k+1)
section
variable {to : List Int} {u v r s d o : Int} {k m : Nat}
theorem Ch.get(h:Ch to v r k):0≤v∧∃u,to[v.toNat]?=some u∧((u=v∧r=v∧k=0)∨(u≠v∧∃j,k=j+1∧Ch to u r j)):=by
 cases h with
 |zero h0 hv=>exact⟨h0,v,hv,.inl ⟨rfl,rfl,rfl⟩⟩
 | @step _ u _ j h0 hv cU hc=>exact⟨h0,u,hv,.inr ⟨cU,j,rfl,hc⟩⟩
theorem Ch.lt(h:Ch to v r k):0≤v∧v<to.length:=by
 obtain⟨h0,u,hu,_⟩:=h.get;have:=(List.getElem?_eq_some_iff.1 hu).1;exact⟨h0,oM⟩
theorem Ch.last(h:Ch to v r k):Ch to r r 0:=by
 induction h with
 |zero h0 hv=>exact .zero h0 hv
 |step _ _ _ _ ih=>exact ih
structure Le(va:Int)(D:Int→Prop)(to:ar)(σ:Int→Int):Prop where
 len:(to.length:Int)=va
 ch:∀v,D v→∃k,Ch to v (σ v) k
 cl:∀v,D v→D (σ v)
variable {va : Int} {D : Int → Prop} {σ : Int → Int}
theorem Le.root(h:Le va D to σ)(hv:D v)(e:σ v=v):Ch to v v 0:=by
 obtain⟨k,hk⟩:=h.ch v hv;rw[e]at hk;exact hk.last
theorem Ch.next(h:Ch to v r k)(hu:to[v.toNat]?=some u)(cU:u≠v):∃j,k=j+1∧Ch to u r j:=by
 obtain⟨_,u',hu',h2⟩:=h.get;rw[hu]at hu';injection hu' with hu';subst hu';rcases h2 with⟨e,_,_⟩|⟨_,j,e,hc⟩
 ·exact absurd e cU
 ·exact⟨j,e,hc⟩
theorem Ch.stay(h:Ch to v r k)(hu:to[v.toNat]?=some v):r=v:=by
 obtain⟨_,u',hu',h2⟩:=h.get;rw[hu]at hu';injection hu' with hu';subst hu';rcases h2 with⟨_,e,_⟩|⟨cU,_⟩
 ·exact e
 ·exact absurd rfl cU
end
theorem BW{α:Type}{l:List α}{j:Nat}{x:α}(h:l[j]?=some x):l.drop j=x::l.drop (j+1):=by
 obtain⟨hk,he⟩:=List.getElem?_eq_some_iff.1 h;rw[tl hk,he]
end Go.Mor
namespace Go.Mor
open Go.RowKit
section
variable {α : Type} {f : α → α} {l : List α} {j : Nat} {x : α}
def mix(f:α→α)(l:List α)(j:Nat):List α:=(l.take j).map f++l.drop j
theorem Qbq:mix f l 0=l:=by simp[mix]
theorem Qb8(h:l.length≤j):mix f l j=l.map f:=by unfold mix;rw[uK h,QjH h,QiY]
theorem Qf4:(mix f l j).length=l.length:=by unfold mix;simp;omega
theorem Qcc(hx:l[j]?=some x):(mix f l j)[j]?=some x:=by
 obtain⟨hj,he⟩:=List.getElem?_eq_some_iff.1 hx;unfold mix;rw[List.getElem?_append_right (by simp;omega),List.getElem?_drop,QjN,QjL,Qds oM,QiN,Nat.add_zero,hx]
theorem QcB(hx:l[j]?=some x):(mix f l j).set j (f x)=mix f l (j+1):=by
 obtain⟨hj,he⟩:=List.getElem?_eq_some_iff.1 hx;unfold mix;rw[Qjc _ _ (by simp;omega),QjN,QjL,Qds oM,QiN,tl hj,List.set_cons_zero,QjK hj,Qjy,he];simp
end
def Qc(σ:Int→Int)(p:cI):cI:={p with args:=p.args.map σ}
def upI(σ:Int→Int)(i:aO):aO:={i with args:=i.args.map σ}
def Li(x:bz):Prop:=x.e=1∨(x.e=2∧0≤x.v)
instance (x : bz) : Decidable (Li x) := by unfold Li; infer_instance
def r2(σ:Int→Int)(x:bz):bz:={x with ah:=x.ah.map (Qc σ),insts:=x.insts.map (upI σ),v:=if Li x then σ x.v else x.v}
theorem QkZ(σ:Int→Int)(p:cI):(Qc σ p).cells=p.cells:=by unfold Qc cI.cells;simp
theorem Qk0(σ:Int→Int)(i:aO):(upI σ i).cells=i.cells:=by unfold upI aO.cells;simp
theorem Qmj(σ:Int→Int)(A:aX)(c:Nat)(l:List cI):s3 A c (l.map (Qc σ))=s3 A c l:=by
 unfold s3 zc;rw[QjN,Oc];congr 1;exact Qi9 (fun f=>l.flatMap f) (funext fun p=>QkZ σ p)
theorem Qmk(σ:Int→Int)(A:aX)(c:Nat)(l:List aO):dJ A c (l.map (upI σ))=dJ A c l:=by
 unfold dJ zL;rw[QjN,Oc];congr 1;exact Qi9 (fun f=>l.flatMap f) (funext fun p=>Qk0 σ p)
theorem Qml(σ:Int→Int)(l:List cI):(l.map (Qc σ)).map fz=l.map fz:=by rw[Qcn];rfl
theorem Qlt(σ:Int→Int)(x:bz):gL (r2 σ x)=[.au x.g 65 [.slice x.pA x.ah.length x.pc,.slice x.iA x.insts.length x.ic,vI x.e,vI (if Li x then σ x.v else x.v),vI x.a,vI x.b,.bool x.gone],s3 x.pA x.pc x.ah,dJ x.iA x.ic x.insts,.pk (x.ah.map fz),.pk ((x.ah.map (Qc σ)).map fj),.pk ((x.insts.map (upI σ)).map de)]:=by
 have e1:=Qmj σ x.pA x.pc x.ah;have e2:=Qmk σ x.iA x.ic x.insts;have e3:=Qml σ x.ah;show[bo.au x.g _ [.slice x.pA (x.ah.map (Qc σ)).length x.pc,.slice x.iA (x.insts.map (upI σ)).length x.ic,_,_,_,_,_],s3 x.pA x.pc (x.ah.map (Qc σ)),dJ x.iA x.ic (x.insts.map (upI σ)),.pk ((x.ah.map (Qc σ)).map fz),_,_]=_;rw[e1,e2,e3,QjN,QjN];rfl
theorem Qnt(σ:Int→Int)(q:Nat)(nm:cV)(wk:Bool)(pa va:Int)(bA:aX)(bn bc:Nat)(A:aX)(c:Nat)(gs:List bz):gF q nm wk pa va bA bn bc A c (gs.map (r2 σ))=[.au q 61 (Qp2 nm wk pa va bA bn bc A gs.length c),jh A c gs,.pk ((gs.map (r2 σ)).map gB)]:=by
 have e:jh A c (gs.map (r2 σ))=jh A c gs:=by unfold jh jA;rw[QjN,Qcn];rfl
 show[bo.au q _ [_,_,_,_,_,.slice A (gs.map (r2 σ)).length c],jh A c (gs.map (r2 σ)),_]=_;rw[e,QjN]
structure Qnf(D:Int→Prop)(x:bz):Prop where
 lp:x.ah.length≤20000
 li:x.insts.length≤20000
 ah:∀p,p∈x.ah→p.args.length≤20000∧∀a,a∈p.args→D a
 insts:∀i,i∈x.insts→i.args.length≤20000∧∀a,a∈i.args→D a
 fin:Li x→D x.v
theorem Nn{α β:Type}{f:α→β}{l:List α}{k:Nat}{x:α}(hx:l[k]?=some x):(l.take (k+1)).map f=(l.take k).map f++[f x]:=by
 obtain⟨hk,he⟩:=List.getElem?_eq_some_iff.1 hx;rw[QjK hk,Qjy,he];rfl
end Go.Mor
namespace Go.Mor
open Go.RowKit
end Go.Mor
namespace Go.Mor
open Go.RowKit
end Go.Mor
namespace Go.Mor
open Go.RowKit
end Go.Mor
namespace Go.Mor
open Go.RowKit
end Go.Mor
namespace Go.Mor
open Go.RowKit
def idL(n:Nat):ar:=(List.range n).map (fun i:Nat=>(i:Int))
theorem Qmm(n:Nat):(idL n).length=n:=by simp[idL]
theorem Qlu{va:Int}{n:Nat}(hn:va=(n:Int)){D:Int→Prop}(hD:∀v,D v→0≤v∧v<va):Le va D (idL n) (fun v=>v):=⟨by rw[Qmm,hn],fun v hv=>⟨0,.zero (hD v hv).1 (by
  have:=hD v hv;unfold idL;rw[List.getElem?_map,List.getElem?_range oM];simp;omega)⟩,fun _ h=>h⟩
end Go.Mor
namespace Go.Mor
open Go.RowKit
theorem Qeg(gl:List Bool){a b:Nat}(h:a≤b):rK gl a≤rK gl b:=by
 unfold rK;have e:gl.take a=(gl.take b).take a:=by rw[List.take_take,Qds h]
 rw[e];exact((D3 a (gl.take b)).filter _).length_le
theorem QbK(b:Bool)(gl:List Bool)(i:Nat):rK (b::gl) (i+1)=(if b then 0 else 1)+rK gl i:=by
 unfold rK;cases b<;>simp<;>omega
abbrev fK(ks:List gO):List ay:=ks.map gO.f
abbrev tK(ks:List gO):Int→ar:=tg (af (fK ks))
def F2(ks:List gO)(t:Int):Int:=(ve (nh ks)).getD t.toNat 0
def mB(ks:List gO)(t:Int):Prop:=∃(i:Nat) (x:gO),t=(i:Int)∧ks[i]?=some x∧x.gone=false
section
variable {ks : List gO} {i j : Nat} {x y : gO}
theorem QcY(ks:List gO)(n:Nat):(pP (ks.take n)).length=rK (nh ks) n:=by
 unfold rK pP nh;rw[←bl,NI,QjN];rfl
theorem QfN(hx:ks[i]?=some x)(hg:x.gone=false):(pP ks)[rK (nh ks) i]?=some x:=by
 have e:pP ks=pP (ks.take i)++(x::pP (ks.drop (i+1))):=by
  conv=>lhs;rw[←xK i ks,BW hx]
  unfold pP;rw[xH,Qjz,hg];rfl
 rw[e,List.getElem?_append_right (by rw[QcY];exact Qjn _),QcY,QiN];rfl
theorem Qfu:∀{ks:List gO} {j:Nat},(pP ks)[j]?=some x→∃i,ks[i]?=some x∧x.gone=false∧rK (nh ks) i=j
 |[],j,h=>by simp[pP]at h
 |y::ks,j,h=>by
  cases hg:y.gone with
  |true=>
   have e:pP (y::ks)=pP ks:=by unfold pP;rw[Qjz,hg];rfl
   rw[e]at h;obtain⟨i,h1,h2,h3⟩:=Qfu h;refine⟨i+1,h1,h2,?_⟩;show rK (y.gone::nh ks) (i+1)=j;rw[QbK,hg,h3];simp
  |false=>
   have e:pP (y::ks)=y::pP ks:=by unfold pP;rw[Qjz,hg];rfl
   rw[e]at h;cases j with
   |zero=>
    injection h with h;subst h;exact⟨0,rfl,hg,rfl⟩
   |succ j=>
    obtain⟨i,h1,h2,h3⟩:=Qfu (ks:=ks) (j:=j) h;refine⟨i+1,h1,h2,?_⟩;show rK (y.gone::nh ks) (i+1)=j+1;rw[QbK,hg,h3];simp;omega
theorem QcZ(hx:ks[i]?=some x):(nh ks)[i]?=some x.gone:=by
 unfold nh;rw[List.getElem?_map,hx];rfl
theorem QdY(hx:ks[i]?=some x)(hg:x.gone=false)(h:i<j):rK (nh ks) i<rK (nh ks) j:=by
 have h1:=Jh (by rw[QcZ hx,hg]:(nh ks)[i]?=some false);have h2:=Qeg (nh ks) (show i+1≤j by omega);omega
theorem K2(hx:ks[i]?=some x)(hg:x.gone=false):F2 ks (i:Int)=(rK (nh ks) i:Int):=by
 have hl:i<(nh ks).length:=by rw[xP];exact(List.getElem?_eq_some_iff.1 hx).1
 unfold F2 ve;rw[ld,BG hl,dd ⟨hl,by rw[List.getD_eq_getElem?_getD,QcZ hx,hg];rfl⟩]
theorem mB.mk'(hx:ks[i]?=some x)(hg:x.gone=false):mB ks (i:Int):=⟨i,x,rfl,hx,hg⟩
theorem D9{a b:Int}(ha:mB ks a)(hb:mB ks b)(h:F2 ks a=F2 ks b):a=b:=by
 obtain⟨i,x,rfl,hx,uC⟩:=ha;obtain⟨j,y,rfl,hy,hgy⟩:=hb;rw[K2 hx uC,K2 hy hgy]at h;rcases iR i j with h1|h1|h1
 ·have:=QdY hx uC h1;omega
 ·rw[h1]
 ·have:=QdY hy hgy h1;omega
theorem XP(h:mB ks 0):F2 ks 0=0:=by
 obtain⟨i,x,h0,hx,hg⟩:=h;have:i=0:=oM;subst this;have:=K2 hx hg;rw[show((0:Nat):Int)=0 from rfl]at this;rw[this];simp[rK]
end
structure Pf(ks:List gO):Prop where
 zero:mB ks 0
 ends:∀x,x∈ks→x.gone=false→O9 (ks.length:Int) x
 gone:∀x,x∈ks→x.gone=true→x.ah=[]∧x.insts=[]∧x.e=2∧x.v= -1
 vj:∀s t:Int,t∈tK ks s→mB ks t
theorem QeC(ks:List gO):(af (fK ks)).length=ks.length:=by rw[bE,QjN]
theorem K3{ks:List gO}{i:Nat}{x:gO}(hx:ks[i]?=some x):(fK ks)[i]?=some x.f:=by rw[List.getElem?_map,hx];rfl
theorem NL{ks:List gO}{i:Nat}{y:ay}(hx:(fK ks)[i]?=some y):∃x,ks[i]?=some x∧y=x.f:=by
 rw[List.getElem?_map,Jo]at hx;obtain⟨x,hx,rfl⟩:=hx;exact⟨x,hx,rfl⟩
theorem Xj{ks:List gO}{i:Nat}{x:gO}(hx:ks[i]?=some x):tK ks (i:Int)=zH ks.length x.f.sb:=by
 show tg (af (fK ks)) (i:Int)=_;rw[wW oM (by rw[ld];exact gv (K3 hx)),QeC]
theorem ZC{ks:List gO}{s t:Int}(h:t∈tK ks s):∃(i:Nat) (x:gO),s=(i:Int)∧ks[i]?=some x:=by
 have hr:0≤s∧s<(ks.length:Int):=by apply Classical.byContradiction;intro hc;have:tK ks s=[]:=uI (by rw[QeC];omega);rw[this]at h;cases h
 obtain⟨x,hx⟩:=bu (l:=ks) (i:=s.toNat) oM;exact⟨s.toNat,x,oM,hx⟩
theorem NM{n:Nat}{t:Int}(h0:0≤t)(h1:t<(n:Int)):gU n t=true:=by unfold gU;simp[h0,h1]
def wL(x:gO):ar:=if x.e=0 then[x.a]else if x.e=1 then[x.a,x.b]else[]
theorem Qc0{n:Nat}{x:gO}(h:O9 (n:Int) x):zH n x.f.sb=wL x:=by
 show(if x.e=0 then[x.a]else if x.e=1 then(if x.a=x.b then[x.a]else[x.a,x.b])else[]).filter (gU n)=_;unfold wL;rcases h with⟨e,⟨h1,h2⟩,_⟩|⟨e,⟨h1,h2⟩,⟨h3,h4⟩,h5⟩|⟨e,_⟩|⟨e,_⟩
 ·rw[dd e,dd e];simp[NM h1 h2]
 ·rw[QcA oM,dd e,QcA h5,QcA oM,dd e];simp[NM h1 h2,NM h3 h4]
 ·rw[QcA oM,QcA oM,QcA oM,QcA oM];rfl
 ·rw[QcA oM,QcA oM,QcA oM,QcA oM];rfl
theorem Qd{n:Nat}{x:gO}(h:x.e=2):zH n x.f.sb=[]:=by
 show(if x.e=0 then[x.a]else if x.e=1 then(if x.a=x.b then[x.a]else[x.a,x.b])else[]).filter (gU n)=_;rw[QcA oM,QcA oM];rfl
theorem Pf.at_{ks:List gO}(hc:Pf ks){i:Nat}{x:gO}(hx:ks[i]?=some x):tK ks (i:Int)=wL x:=by
 rw[Xj hx];cases hg:x.gone with
 |true=>
  have h:=(hc.gone x (Qcs hx) hg).2.2.1;rw[Qd h];unfold wL;rw[QcA oM,QcA oM]
 |false=>exact Qc0 (hc.ends x (Qcs hx) hg)
theorem Pf.src{ks:List gO}(hc:Pf ks){s t:Int}(h:t∈tK ks s):mB ks s:=by
 obtain⟨i,x,rfl,hx⟩:=ZC h;cases hg:x.gone with
 |false=>exact .mk' hx hg
 |true=>
  have h2:=(hc.gone x (Qcs hx) hg).2.2.1;rw[Xj hx,Qd h2]at h;cases h
section
variable {ks : List gO} {fs : List ay} {x : gO} {y : ay}
theorem Qc1(ht:Yi ks fs){i:Nat}{x:gO}(hx:ks[i]?=some x)(hg:x.gone=false):∃y,fs[rK (nh ks) i]?=some y∧iM (ve (nh ks)) x y:=by
 have h1:=QfN hx hg;obtain⟨y,hy⟩:=bu (l:=fs) (i:=rK (nh ks) i) (by rw[←ht.1];exact(List.getElem?_eq_some_iff.1 h1).1);exact⟨y,hy,ht.2 _ _ _ h1 hy⟩
theorem BJ(ht:Yi ks fs){j:Nat}{y:ay}(hy:fs[j]?=some y):∃i x,ks[i]?=some x∧x.gone=false∧rK (nh ks) i=j∧iM (ve (nh ks)) x y:=by
 obtain⟨x,hx⟩:=bu (l:=pP ks) (i:=j) (by rw[ht.1];exact(List.getElem?_eq_some_iff.1 hy).1);obtain⟨i,h1,h2,h3⟩:=Qfu hx;exact⟨i,x,h1,h2,h3,ht.2 _ _ _ hx hy⟩
theorem Pg(ht:Yi ks fs){t:Int}(h:mB ks t):0≤F2 ks t∧F2 ks t<(fs.length:Int):=by
 obtain⟨i,x,rfl,hx,hg⟩:=h;obtain⟨y,hy,_⟩:=Qc1 ht hx hg;have:=(List.getElem?_eq_some_iff.1 hy).1;rw[K2 hx hg];omega
theorem Qc3(hc:Pf ks)(ht:Yi ks fs){i:Int}(hi:mB ks i):tg (af fs) (F2 ks i)=(tK ks i).map (F2 ks):=by
 obtain⟨i,x,rfl,hx,hg⟩:=hi;obtain⟨y,hy,hb⟩:=Qc1 ht hx hg;have hL:∀t,t∈tK ks (i:Int)→mB ks t:=fun t h=>hc.vj _ _ h
 rw[hc.at_ hx]at hL⊢;rw[K2 hx hg,wW oM (by rw[ld];exact gv hy),bE];show(if y.e=0 then[y.a]else if y.e=1 then(if y.a=y.b then[y.a]else[y.a,y.b])else[]).filter (gU fs.length)=_;rw[hb.e,hb.a,hb.b];unfold wL at hL⊢;rcases hc.ends x (Qcs hx) hg with⟨e,⟨h1,h2⟩,_⟩|⟨e,⟨h1,h2⟩,⟨h3,h4⟩,h5⟩|⟨e,_⟩|⟨e,_⟩
 ·rw[dd e]at hL;have ha:=Pg ht (hL x.a sI);have ea:toA (ve (nh ks)) x.e x.a=F2 ks x.a:=by unfold toA;rw[dd (Or.inl e)];rfl
  rw[dd e,dd e,ea];have i1:gU fs.length (F2 ks x.a)=true:=NM ha.1 ha.2;rw[Qjz,i1];rfl
 ·rw[QcA oM,dd e]at hL;have ea:toA (ve (nh ks)) x.e x.a=F2 ks x.a:=by unfold toA;rw[dd (Or.inr e)];rfl
  have eb:toBb (ve (nh ks)) x.e x.b=F2 ks x.b:=by unfold toBb;rw[dd e];rfl
  have la:=hL x.a sI;have lb:=hL x.b sI;have ha:=Pg ht la;have X2:=Pg ht lb;have i1:gU fs.length (F2 ks x.a)=true:=NM ha.1 ha.2;have i2:gU fs.length (F2 ks x.b)=true:=NM X2.1 X2.2;have cU:F2 ks x.a≠F2 ks x.b:=fun e=>h5 (D9 la lb e)
  have e0:¬x.e=0:=oM;rw[ea,eb,QcA e0,dd e,QcA cU,QcA e0,dd e,Qjz,i1,dd rfl,Qjz,i2];rfl
 ·have e0:¬x.e=0:=oM;have e1:¬x.e=1:=oM;rw[QcA e0,QcA e1,QcA e0,QcA e1];rfl
 ·have e0:¬x.e=0:=oM;have e1:¬x.e=1:=oM;rw[QcA e0,QcA e1,QcA e0,QcA e1];rfl
theorem Qc5{U U':Int→ar}(h0:mB ks 0)(hU:∀i,mB ks i→U' (F2 ks i)=(U i).map (F2 ks))(hL:∀i t,t∈U i→mB ks t){i:Int}(h:Reach U i):Reach U' (F2 ks i)∧mB ks i:=by
 induction h with
 |zero=>exact⟨by rw[XP h0];exact .zero,h0⟩
 |step _ ht ih=>exact⟨.step ih.1 (by rw[hU _ ih.2];exact jd.2 ⟨_,ht,rfl⟩),hL _ _ ht⟩
theorem QeD{U U':Int→ar}(h0:mB ks 0)(hU:∀i,mB ks i→U' (F2 ks i)=(U i).map (F2 ks))(hL:∀i t,t∈U i→mB ks t){j:Int}(h:Reach U' j):∃i,mB ks i∧Reach U i∧F2 ks i=j:=by
 induction h with
 |zero=>exact⟨0,h0,.zero,XP h0⟩
 |step _ ht ih=>
  obtain⟨i,h1,h2,rfl⟩:=ih;rw[hU _ h1]at ht;obtain⟨t,h3,rfl⟩:=jd.1 ht;exact⟨t,hL _ _ h3,.step h2 h3,rfl⟩
theorem QeE(hc:Pf ks)(ht:Yi ks fs){a:Int}(ha:mB ks a){i:Int}(hi:mB ks i):Cq (tg (af fs)) (F2 ks a) (F2 ks i)=(Cq (tK ks) a i).map (F2 ks):=by
 unfold Cq;rw[Qc3 hc ht hi,NI];congr 1;refine I4 fun t h=> ?_
 have hl:=hc.vj _ _ h;show(!(F2 ks t==F2 ks a))=!(t==a);by_cases e:t=a
 ·rw[e,beq_self_eq_true,beq_self_eq_true]
 ·have:F2 ks t≠F2 ks a:=fun h=>e (D9 hl ha h)
  rw[beq_false_of_ne this,beq_false_of_ne e]
theorem Qhn(hc:Pf ks)(ht:Yi ks fs){a b:Int}(ha:mB ks a)(hb:mB ks b):Dm (tg (af fs)) (F2 ks a) (F2 ks b)↔Dm (tK ks) a b:=by
 have hL:∀i t:Int,t∈Cq (tK ks) a i→mB ks t:=fun i t h=>hc.vj _ _ (im.1 h).1
 have hz:=XP hc.zero;have e0:F2 ks a≠0↔a≠0:=by refine not_congr ⟨fun h=>D9 ha hc.zero (h.trans hz.symm),fun h=>by rw[h];exact hz⟩
 unfold Dm;refine not_congr (and_congr e0 ⟨fun h=> ?_,fun h=>(Qc5 hc.zero (fun i hi=>QeE hc ht ha hi) hL h).1⟩);obtain⟨i,h1,h2,h3⟩:=QeD hc.zero (fun i hi=>QeE hc ht ha hi) hL h;rwa [D9 h1 hb h3]at h2
theorem QeF(hb:iM (ve (nh ks)) x y){v:Int}:(∃p,p∈y.ah∧p.dst=v)↔∃p,p∈x.ah∧p.dst=v:=by
 obtain⟨hl,hp⟩:=hb.ah;constructor
 ·rintro⟨q,hq,rfl⟩;obtain⟨j,hj⟩:=jF.1 hq;obtain⟨p,ZI⟩:=bu (l:=x.ah) (i:=j) (by rw[hl];exact(List.getElem?_eq_some_iff.1 hj).1);exact⟨p,Qcs ZI,(hp j p q ZI hj).1.symm⟩
 ·rintro⟨p,jL,rfl⟩;obtain⟨j,hj⟩:=jF.1 jL;obtain⟨q,jo⟩:=bu (l:=y.ah) (i:=j) (by rw[←hl];exact(List.getElem?_eq_some_iff.1 hj).1);exact⟨q,Qcs jo,(hp j p q hj jo).1⟩
theorem QeI(hb:iM (ve (nh ks)) x y){j:Nat}{i:aO}(hi:y.insts[j]?=some i):x.insts[j]?=some i.e0:=by
 rw[←hb.insts,List.getElem?_map,hi];rfl
theorem QfO(hb:iM (ve (nh ks)) x y){j:Nat}{i:aO}(hi:x.insts[j]?=some i):∃i',y.insts[j]?=some i'∧i'.e0=i:=by
 rw[←hb.insts,List.getElem?_map,Jo]at hi;exact hi
theorem QdZ(ht:Yi ks fs){v c m:Int}:(v,c,m)∈bF fs↔∃b,mB ks b∧F2 ks b=c∧(v,b,m)∈bF (fK ks):=by
 rw[sq];constructor
 ·rintro⟨k,y,hy,rfl,h⟩;obtain⟨i,x,hx,hg,YO,hb⟩:=BJ ht hy;refine⟨i,.mk' hx hg,by rw[K2 hx hg,YO],sq.2 ⟨i,x.f,K3 hx,rfl,?_⟩⟩;rcases h with⟨h1,h2⟩|⟨j,a,h1,h2,h3,h4⟩
  ·obtain⟨p,hp,hd⟩:=(QeF hb).1 h2;exact .inl ⟨h1,_,jd.2 ⟨p,hp,rfl⟩,hd⟩
  ·exact .inr ⟨j,a.e0,QeI hb h1,h2,h3,h4⟩
 ·rintro⟨b,⟨i,x,rfl,hx,hg⟩,rfl,h⟩;obtain⟨k,z,hz,hk,h⟩:=sq.1 h;obtain⟨x',yk,rfl⟩:=NL hz;have:k=i:=oM;subst this;rw[hx]at yk;injection yk with yk;subst yk;obtain⟨y,hy,hb⟩:=Qc1 ht hx hg;refine⟨_,y,hy,K2 hx hg,?_⟩;rcases h with⟨h1,p,hp,h2⟩|⟨j,a,h1,h2,h3,h4⟩
  ·obtain⟨q,hq,rfl⟩:=jd.1 hp;exact .inl ⟨h1,(QeF hb).2 ⟨q,hq,h2⟩⟩
  ·obtain⟨a',nQ,e⟩:=QfO hb h1;subst e;exact .inr ⟨j,a',nQ,h2,h3,h4⟩
theorem QgK(hb:iM (ve (nh ks)) x y):nu y=nu x.f:=by
 obtain⟨hl,hp⟩:=hb.ah;unfold nu;congr 1
 ·show _=(x.ah.map _).map _;rw[Qcn];refine QdX fun j=> ?_
  rw[List.getElem?_map,List.getElem?_map];by_cases hj:j<x.ah.length
  ·obtain⟨p,ZI⟩:=bu (l:=x.ah) hj;obtain⟨q,jo⟩:=bu (l:=y.ah) (i:=j) oM;rw[ZI,jo];exact Qi9 some (hp j p q ZI jo).1
  ·rw[List.getElem?_eq_none oM,List.getElem?_eq_none oM];rfl
 ·show _=(x.insts.filter _).map _;rw[←hb.insts,NI,Qcn];rfl
theorem QeK(ks:List gO):((pP ks).flatMap (fun x=>nu x.f)).Sublist (ks.flatMap (fun x=>nu x.f)):=by
 induction ks with
 |nil=>exact .slnil
 |cons x ks ih=>
  cases hg:x.gone with
  |true=>
   have e:pP (x::ks)=pP ks:=by unfold pP;rw[Qjz,hg];rfl
   rw[e,iC];exact ih.trans (Qh3 _ _)
  |false=>
   have e:pP (x::ks)=x::pP ks:=by unfold pP;rw[Qjz,hg];rfl
   rw[e,iC,iC];exact(Qdr _).append ih
theorem QgL(ht:Yi ks fs):fs.flatMap nu=(pP ks).flatMap (fun x=>nu x.f):=by
 rw[Qdz,Qdz];congr 1;refine QdX fun j=> ?_
 rw[List.getElem?_map,List.getElem?_map];by_cases hj:j<fs.length
 ·obtain⟨y,hy⟩:=bu (l:=fs) hj;obtain⟨x,hx⟩:=bu (l:=pP ks) (i:=j) (by rw[ht.1];exact hj);rw[hx,hy];exact Qi9 some (QgK (ht.2 _ _ _ hx hy))
 ·rw[List.getElem?_eq_none oM,List.getElem?_eq_none (by rw[ht.1];omega)];rfl
theorem Qd0{pa va:Int}(ht:Yi ks fs)(h:ey pa va (bF (fK ks))):ey pa va (bF fs):=by
 refine⟨fun d hd=> ?_,?_⟩
 ·obtain⟨v,c,m⟩:=d;obtain⟨b,_,_,h1⟩:=(QdZ ht).1 hd;exact h.1 (v,b,m) h1
 ·have h2:=h.2;rw[pf]at h2⊢;rw[QgL ht];refine h2.sublist ?_;rw[show fK ks=ks.map gO.f from rfl,Oc];exact QeK ks
theorem QeN(g:gO→Nat)(ks:List gO):((pP ks).map g).sum≤(ks.map g).sum:=by
 induction ks with
 |nil=>exact Qjn _
 |cons x ks ih=>
  cases hg:x.gone with
  |true=>
   have e:pP (x::ks)=pP ks:=by unfold pP;rw[Qjz,hg];rfl
   rw[e,lR,B5];omega
  |false=>
   have e:pP (x::ks)=x::pP ks:=by unfold pP;rw[Qjz,hg];rfl
   rw[e,lR,B5,lR,B5];omega
theorem QbL(fs:List ay):hY fs=fs.length+(fs.map (fun x=>x.ah.length+x.insts.length)).sum:=by
 unfold hY jl;rw[uK (Qjn _)]
theorem QeO(ht:Yi ks fs):hY fs=(pP ks).length+((pP ks).map (fun x=>x.ah.length+x.insts.length)).sum:=by
 rw[QbL,ht.1];congr 2;refine QdX fun j=> ?_
 rw[List.getElem?_map,List.getElem?_map];by_cases hj:j<fs.length
 ·obtain⟨y,hy⟩:=bu (l:=fs) hj;obtain⟨x,hx⟩:=bu (l:=pP ks) (i:=j) (by rw[ht.1];exact hj);have hb:=ht.2 _ _ _ hx hy;rw[hx,hy,s9,s9,←hb.ah.1,←hb.insts,QjN]
 ·rw[List.getElem?_eq_none oM,List.getElem?_eq_none (by rw[ht.1];omega)];rfl
theorem vR(ks:List gO):hY (fK ks)=ks.length+(ks.map (fun x=>x.ah.length+x.insts.length)).sum:=by
 rw[QbL,QjN,Qcn];congr 2;refine Qch fun x _=> ?_
 show(x.ah.map _).length+_=_;rw[QjN];rfl
theorem QfP(ht:Yi ks fs):hY fs≤hY (fK ks):=by
 rw[QeO ht,vR];have h1:(pP ks).length≤ks.length:=Qjt _ _;have h2:=QeN (fun x=>x.ah.length+x.insts.length) ks;omega
end
end Go.Mor
namespace Go.Mor
open Go.RowKit
theorem Qdy:∀{l m:ar},l.Pairwise (·<·)→m.Pairwise (·<·)→(∀a,a∈l↔a∈m)→l=m
 |[],[],_,_,_=>rfl
 |[],b::m,_,_,h=>absurd ((h b).2 (en ..)) QjD
 |a::l,[],_,_,h=>absurd ((h a).1 (en ..)) QjD
 |a::l,b::m,hl,hm,h=>by
  obtain⟨h1,h2⟩:=zE.1 hl;obtain⟨h3,h4⟩:=zE.1 hm;have e:a=b:=by
   rcases Qcx.1 ((h a).1 (en ..))with e|ha
   ·exact e
   rcases Qcx.1 ((h b).2 (en ..))with e|hb
   ·exact e.symm
   have:=h1 b hb;have:=h3 a ha;omega
  subst e;rw[Qdy h2 h4 fun c=> ?_];constructor
  ·intro hc;rcases Qcx.1 ((h c).1 (QiV _ hc))with e|h5
   ·subst e;have:=h1 c hc;omega
   ·exact h5
  ·intro hc;rcases Qcx.1 ((h c).2 (QiV _ hc))with e|h5
   ·subst e;have:=h3 c hc;omega
   ·exact h5
abbrev rX(pa va:Int)(ks:List gO)(v b q:Int):Prop:=bX (Dm (tK ks)) pa va (bF (fK ks)) v b q
structure QhX(pa va:Int)(ks:List gO)(k:Nat)(p:vb):Prop where
 len:p.args.length=p.from_.length
 nd:p.from_.Nodup
 yW:∀s,s∈p.from_→0≤s∧s<(ks.length:Int)
 all:∀s:Int,(k:Int)∈tK ks s→s∈p.from_
 QbQ:∀a,a∈p.args→0≤a∧a<va
 av:∀(i:Nat) (s a:Int),p.from_[i]?=some s→p.args[i]?=some a→Reach (tK ks) s→(k:Int)∈tK ks s→rX pa va ks a s 20000
structure vU(nm:cV)(pa va:Int)(ks:List gO):Prop where
 UT:Pf ks
 name:bt nm
 par:0≤pa∧pa≤16∧pa≤va
 uJ:∀x,ks[0]?=some x→x.ah=[]
 QgM:∀s:Int,¬(0:Int)∈tK ks s
 Xv:∀x,x∈ks→∀i,i∈x.insts→bJ i
 once:ey pa va (bF (fK ks))
 iv:∀x,x∈ks→∀i,i∈x.insts→∀a,a∈i.args→0≤a∧a<va
 fv:∀x,x∈ks→(x.e=1∨(x.e=2∧x.v≠-1))→0≤x.v∧x.v<va
 ins:∀(k:Nat) (x:gO),ks[k]?=some x→Reach (tK ks) (k:Int)→∀(j:Nat) (i:aO),x.insts[j]?=some i→∀a,a∈i.args→rX pa va ks a (k:Int) (j:Int)
 fin:∀(k:Nat) (x:gO),ks[k]?=some x→Reach (tK ks) (k:Int)→(x.e=1∨(x.e=2∧x.v≠-1))→rX pa va ks x.v (k:Int) 20000
 pK:∀(k:Nat) (x:gO),ks[k]?=some x→∀p,p∈x.ah→QhX pa va ks k p
structure EJ(ks:List gO):Prop where
 reach:∀t:Int,mB ks t→Reach (tK ks) t
 bS:∀(k:Nat) (x:gO),ks[k]?=some x→∀p,p∈x.ah→∀s,s∈p.from_→(k:Int)∈tK ks s
section
variable {ks : List gO} {fs : List ay} {nm : ByteArray} {pa va : Int}
theorem QeP(hc:Pf ks){v c m:Int}(h:(v,c,m)∈bF (fK ks)):mB ks c:=by
 obtain⟨k,z,hz,rfl,h⟩:=sq.1 h;obtain⟨x,hx,rfl⟩:=NL hz;cases hg:x.gone with
 |false=>exact .mk' hx hg
 |true=>
  obtain⟨h1,h2,_⟩:=hc.gone x (Qcs hx) hg;rcases h with⟨_,p,hp,_⟩|⟨j,i,hi,_⟩
  ·have:p∈x.ah.map _:=hp;rw[h1]at this;cases this
  ·have:x.insts[j]?=some i:=hi;rw[h2]at this;cases this
theorem QeQ(hc:Pf ks)(ht:Yi ks fs)(ho:ey pa va (bF (fK ks))){v b q:Int}(hb:mB ks b)(h:rX pa va ks v b q):Av pa va fs v (F2 ks b) q:=by
 obtain⟨h1,h2,h3⟩:=(u3 ho.2).1 h;refine(u3 (Qd0 ht ho).2).2 ⟨h1,h2,?_⟩;rcases h3 with h3|⟨c,k,hd,h3⟩
 ·exact .inl h3
 have hl:=QeP hc hd;refine .inr ⟨F2 ks c,k,(QdZ ht).2 ⟨c,hl,rfl,hd⟩,?_⟩;rcases h3 with⟨e,h4⟩|⟨cU,h4⟩
 ·exact .inl ⟨by rw[e],h4⟩
 ·exact .inr ⟨fun e=>cU (D9 hl hb e),(Qhn hc ht hl hb).2 h4⟩
theorem QfQ(hc:Pf ks)(ht:Yi ks fs){k:Nat}{x:gO}(hx:ks[k]?=some x)(hg:x.gone=false){fl:ar}(C7:fl.Nodup)(cA:∀s:Int,(k:Int)∈tK ks s↔s∈fl){il:List Nat}(hs:jY fl.length (rJ (ve (nh ks)) fl) il):bS (af fs) (F2 ks (k:Int))=il.map (rJ (ve (nh ks)) fl):=by
 obtain⟨hp,hw⟩:=hs;have nG:∀i,i∈il↔i<fl.length:=fun i=>by rw[hp.mem_iff,Qi4]
 have LM:∀i,i<fl.length→fl[i]?=some (fl.getD i 0):=fun i hi=>by rw[List.getD_eq_getElem?_getD,List.getElem?_eq_getElem hi];rfl
 have QeR:∀i,i<fl.length→mB ks (fl.getD i 0):=fun i hi=>hc.src ((cA _).2 (Qcs (LM i hi)))
 have QhY:il.Nodup:=hp.nodup_iff.2 Qhq;refine Qdy (NK _ _) ?_ fun s=> ?_
 ·rw[gS];have h3:il.Pairwise (fun i j=>rJ (ve (nh ks)) fl i≤rJ (ve (nh ks)) fl j∧i≠j):=hw.and QhY;refine h3.imp_of_mem fun {a b} ha hb h=> ?_
  obtain⟨h4,h5⟩:=h;have nQ:=(nG a).1 ha;have Co:=(nG b).1 hb;have cU:rJ (ve (nh ks)) fl a≠rJ (ve (nh ks)) fl b:=by intro e;have e1:fl.getD a 0=fl.getD b 0:=D9 (QeR a nQ) (QeR b Co) e;have h6:=LM a nQ;rw[e1,←LM b Co]at h6;exact h5 ((List.getElem?_inj nQ C7).1 h6)
  omega
 ·rw[AN,jd,bE];constructor
  ·rintro⟨⟨h1,h2⟩,h3⟩;obtain⟨y,hy⟩:=bu (l:=fs) (i:=s.toNat) oM;obtain⟨i,z,hz,BB,YO,_⟩:=BJ ht hy;have yi:mB ks (i:Int):= .mk' hz BB;have e:s=F2 ks (i:Int):=by rw[K2 hz BB,YO];omega
   rw[e,Qc3 hc ht yi]at h3;obtain⟨t,BD,oQ⟩:=jd.1 h3;have:t=(k:Int):=D9 (hc.vj _ _ BD) (.mk' hx hg) oQ;subst this;obtain⟨m,hm⟩:=jF.1 ((cA _).1 BD);have Pt:=(List.getElem?_eq_some_iff.1 hm).1;refine⟨m,(nG m).2 Pt,?_⟩;rw[LM m Pt]at hm;injection hm with hm;rw[e,←hm];rfl
  ·rintro⟨m,hm,rfl⟩;have Pt:=(nG m).1 hm;have hl:=QeR m Pt;show(0≤F2 ks (fl.getD m 0)∧_)∧_∈tg _ (F2 ks (fl.getD m 0));refine⟨Pg ht hl,?_⟩;rw[Qc3 hc ht hl];exact jd.2 ⟨_,(cA _).2 (Qcs (LM m Pt)),rfl⟩
theorem QfR(h:vU nm pa va ks)(Dz:EJ ks)(ht:Yi ks fs):j9 nm pa va fs:=by
 have hc:=h.UT;have hz:=XP hc.zero;have h0:∃x,ks[0]?=some x∧x.gone=false:=by obtain⟨i,x,e,hx,hg⟩:=hc.zero;have:i=0:=oM;subst this;exact⟨x,hx,hg⟩
 obtain⟨x0,Hz,NT⟩:=h0;have Py:rK (nh ks) 0=0:=by simp[rK]
 obtain⟨y0,hy0,vX⟩:=Qc1 ht Hz NT;rw[Py]at hy0;have F8:=(List.getElem?_eq_some_iff.1 hy0).1;refine⟨h.name,h.par,F8,fun y hy=> ?_,?_,?_,fun y hy=> ?_,⟨fun y hy i hi=> ?_,Qd0 ht h.once⟩,fun k hk=> ?_⟩
 ·rw[hy0]at hy;injection hy with hy;subst hy;rw[←vX.ah.1,h.uJ x0 Hz];rfl
 ·have:bS (af fs) 0=[]:=List.eq_nil_iff_forall_not_mem.2 fun s hs=>by
   obtain⟨⟨h1,h2⟩,h3⟩:=AN.1 hs;rw[bE]at h2;obtain⟨y,hy⟩:=bu (l:=fs) (i:=s.toNat) oM;obtain⟨i,z,Xw,BB,YO,_⟩:=BJ ht hy;have e:s=F2 ks (i:Int):=by rw[K2 Xw BB,YO];omega
   rw[e,Qc3 hc ht (.mk' Xw BB)]at h3;obtain⟨t,BD,oQ⟩:=jd.1 h3;have:t=0:=D9 (hc.vj _ _ BD) hc.zero (oQ.trans hz.symm);subst this;exact h.QgM _ BD
  rw[this];rfl
 ·have h2:=mv (bs:=af fs);rw[bE]at h2;refine h2.2 fun i hi=>jO.2 ?_
  obtain⟨y,hy⟩:=bu (l:=fs) hi;obtain⟨j,z,Xw,BB,YO,_⟩:=BJ ht hy;have h3:=(Qc5 hc.zero (fun i hi=>Qc3 hc ht hi) hc.vj (Dz.reach _ (.mk' Xw BB))).1;rwa [K2 Xw BB,YO]at h3
 ·obtain⟨j,hj⟩:=jF.1 hy;obtain⟨i,x,hx,hg,YO,hb⟩:=BJ ht hj;have hL:∀t,t∈wL x→mB ks t:=fun t h=>hc.vj (i:Int) t (by rw[hc.at_ hx];exact h)
  unfold ix;rw[hb.e,hb.a,hb.b,hb.v];unfold wL at hL;unfold toA toBb;rcases hc.ends x (Qcs hx) hg with⟨e,_,h3,h4⟩|⟨e,_,_,h5⟩|⟨e,h1,h2⟩|⟨e,h1,h2,h3⟩
  ·rw[dd e]at hL;rw[dd (.inl e),QcA oM];exact .inl ⟨e,Pg ht (hL x.a sI),h3,rfl⟩
  ·rw[QcA oM,dd e]at hL;rw[dd (.inr e),dd e];exact .inr (.inl ⟨e,Pg ht (hL x.a sI),Pg ht (hL x.b sI),fun e2=>h5 (D9 (hL x.a sI) (hL x.b sI) e2)⟩)
  ·rw[QcA oM,QcA oM,QcA oM];exact .inr (.inr (.inl ⟨e,rfl,rfl⟩))
  ·rw[QcA oM,dd e,QcA oM];exact .inr (.inr (.inr ⟨e,h1,h2,rfl⟩))
 ·obtain⟨j,hj⟩:=jF.1 hy;obtain⟨k,x,hx,hg,YO,hb⟩:=BJ ht hj;have:i.e0∈x.insts:=by rw[←hb.insts];exact jd.2 ⟨i,hi,rfl⟩
  have h9:bJ i.e0:=h.Xv x (Qcs hx) _ this;exact h9
 ·obtain⟨y,hy⟩:=bu (l:=fs) hk;obtain⟨i,x,hx,hg,YO,hb⟩:=BJ ht hy;have yi:mB ks (i:Int):= .mk' hx hg;have hr:=Dz.reach _ yi;have e:(k:Int)=F2 ks (i:Int):=by rw[K2 hx hg,YO]
  refine⟨y,hy,⟨fun j q hq=> ?_,fun j a ha m v hv=> ?_,fun hf=> ?_⟩⟩
  ·obtain⟨p,hp⟩:=bu (l:=x.ah) (i:=j) (by rw[hb.ah.1];exact(List.getElem?_eq_some_iff.1 hq).1);have jL:=Qcs hp;have hP:=h.pK i x hx p jL;obtain⟨_,il,hs,Uc⟩:=hb.ah.2 j p q hp hq;have Uw:=QfQ hc ht hx hg hP.nd (fun s=>⟨hP.all s,Dz.bS i x hx p jL s⟩) hs;rw[e,Uw,Uc,QjN,QjN];refine⟨rfl,fun m a s h1 h2=> ?_⟩;rw[List.getElem?_map,Jo]at h1 h2;obtain⟨t,BD,rfl⟩:=h1;obtain⟨t',oQ,rfl⟩:=h2;rw[BD]at oQ;injection oQ with oQ;subst oQ;have x9:t<p.from_.length:=by have h3:=(hs.1.mem_iff).1 (Qcs BD);exact Qi4.1 h3
   have h3:p.from_[t]?=some (p.from_.getD t 0):=by rw[List.getD_eq_getElem?_getD,List.getElem?_eq_getElem x9];rfl
   have h4:p.args[t]?=some (p.args.getD t 0):=by rw[List.getD_eq_getElem?_getD,List.getElem?_eq_getElem (by rw[hP.len];exact x9)];rfl
   have h5:=Dz.bS i x hx p jL _ (Qcs h3);have h6:=hc.src h5;exact QeQ hc ht h.once h6 (hP.av t _ _ h3 h4 (Dz.reach _ h6) h5)
  ·have h1:=QeI hb ha;rw[e];exact QeQ hc ht h.once yi (h.ins i x hx hr j _ h1 v (Qcs hv))
  ·rw[e,hb.v];refine QeQ hc ht h.once yi (h.fin i x hx hr ?_);unfold pE at hf;rwa [hb.e,hb.v]at hf
theorem QeT(h:vU nm pa va ks)(Dz:EJ ks)(ht:Yi ks fs)(kx:va≤20000)(jv:(hY (fK ks):Int)≤20000):bV nm pa va fs=0:=by
 have h1:=QfP ht;exact(y6 oM (QfR h Dz ht)).symm
end
end Go.Mor
namespace Go.Mor
open Go.RowKit
section
variable {fs gs : List ay} {nm : ByteArray} {pa va : Int} {k : Nat}
theorem XS(fs:List ay):fK (lN fs)=fs.map ay.e0:=by
 refine QdX fun i=> ?_
 rw[List.getElem?_map,List.getElem?_map];by_cases hi:i<fs.length
 ·obtain⟨x,hx⟩:=bu (l:=fs) hi;rw[mA hx,hx];show some (gO.f (Bx fs i x))=some x.e0;unfold Bx gO.f ay.e0 oG;simp only[Qcn];rfl
 ·rw[List.getElem?_eq_none (by rw[jR];omega),List.getElem?_eq_none oM];rfl
theorem Q8(fs:List ay):ec fs (fs.map ay.e0):=by
 unfold ec;rw[Qcn];refine Qch fun x _=> ?_
 show x.e0=x.e0.e0;unfold ay.e0;simp only[Qcn];rfl
theorem F4{ks:List gO}(he:ks=lN fs){x:gO}(hx:ks[k]?=some x):∃y,fs[k]?=some y∧x=Bx fs k y:=by
 subst he;obtain⟨y,hy⟩:=bu (l:=fs) (i:=k) (by have:=(List.getElem?_eq_some_iff.1 hx).1;rwa [jR]at this);rw[mA hy]at hx;injection hx with hx;exact⟨y,hy,hx.symm⟩
theorem NP(h:j9 nm pa va fs):vU nm pa va (lN fs)∧EJ (lN fs):=by
 obtain⟨gs,Ma⟩:∃gs,gs=fs.map ay.e0:=⟨_,rfl⟩;have Vh:ec fs gs:=Ma▸Q8 fs;have hG:j9 nm pa va gs:=qu Vh h;have hF:fK (lN fs)=gs:=(XS fs).trans Ma.symm;have hK:lN gs=lN fs:=BA Vh.symm;have hlen:gs.length=fs.length:=by rw[Ma,QjN]
 obtain⟨ks,xG⟩:∃ks,ks=lN fs:=⟨_,rfl⟩;rw[←xG]at hF hK⊢;have Jm:ks.length=gs.length:=by rw[xG,jR,hlen]
 have at_:∀{k:Nat} {x:gO},ks[k]?=some x→∃y,gs[k]?=some y∧x=Bx gs k y∧y=x.f:=by intro k x hx;obtain⟨y,hy,e⟩:=F4 hK.symm hx;have h1:=K3 hx;rw[hF,hy]at h1;injection h1 with h1;exact⟨y,hy,e,h1⟩
 have hT:tK ks=tg (af gs):=by show tg (af (fK ks))=_;rw[hF]
 have hng:∀x,x∈ks→x.gone=false:=fun x hx=>by obtain⟨k,hk⟩:=jF.1 hx;obtain⟨y,_,e,_⟩:=at_ hk;rw[e];rfl
 have hz:∃x0,ks[0]?=some x0:=bu (by have:=hG.pos;omega);obtain⟨x0,Hz⟩:=hz;have XT:∀{v b q:Int},rX pa va ks v b q=Av pa va gs v b q:=fun {v b q}=>by unfold rX Av;rw[hT,hF]
 have vi:∀{k:Nat} {x:gO} {y:ay},ks[k]?=some x→gs[k]?=some y→Qgq (Dm (tg (af gs))) (fun _=>20000) pE pa va gs k y:=by intro k x y hx hy;obtain⟨z,hz,hr⟩:=hG.reads k (List.getElem?_eq_some_iff.1 hy).1;rw[hy]at hz;injection hz with hz;subst hz;exact hr
 have hiv:∀{k:Nat} {x:gO},ks[k]?=some x→∀(j:Nat) (i:aO),x.insts[j]?=some i→∀a,a∈i.args→rX pa va ks a (k:Int) (j:Int):=by intro k x hx j i hi a ha;obtain⟨y,hy,_,e⟩:=at_ hx;rw[XT];obtain⟨m,hm⟩:=jF.1 ha;exact(vi hx hy).insts j i (by rw[e];exact hi) m a hm
 have hfv:∀{k:Nat} {x:gO},ks[k]?=some x→(x.e=1∨(x.e=2∧x.v≠-1))→rX pa va ks x.v (k:Int) 20000:=by intro k x hx hf;obtain⟨y,hy,_,e⟩:=at_ hx;rw[XT];have:=(vi hx hy).fin (by rw[e];exact hf);rwa [e]at this
 have Uw:∀(k:Nat) (s:Int),(k:Int)∈tK ks s↔s∈bS (af gs) (k:Int):=by
  intro k s;rw[AN,hT];constructor
  ·intro h1;rw[←hT]at h1;obtain⟨i,x,rfl,hx⟩:=ZC h1;have:=(List.getElem?_eq_some_iff.1 hx).1;rw[hT]at h1;exact⟨⟨oM,by rw[bE];omega⟩,h1⟩
  ·exact fun h1=>h1.2
 refine⟨⟨⟨?_,?_,?_,?_⟩,hG.name,hG.par,?_,?_,?_,?_,?_,?_,?_,?_,?_⟩,⟨?_,?_⟩⟩
 ·exact⟨0,x0,rfl,Hz,hng x0 (Qcs Hz)⟩
 ·intro x hx _;obtain⟨k,hk⟩:=jF.1 hx;obtain⟨y,hy,_,e⟩:=at_ hk;have:=hG.ends y (Qcs hy);rw[e,←Jm]at this;exact this
 ·intro x hx hg;rw[hng x hx]at hg;cases hg
 ·intro s t ht;rw[hT]at ht;have h1:=og ht;rw[bE]at h1;obtain⟨x,hx⟩:=bu (l:=ks) (i:=t.toNat) oM;exact⟨t.toNat,x,oM,hx,hng x (Qcs hx)⟩
 ·intro x hx;obtain⟨y,hy,_,e⟩:=at_ hx;have:=hG.ah y hy;rw[e]at this;have h2:(x.ah.map (fun p=>(⟨p.dst,none,0,p.args⟩:bI))).length=0:=this;rw[QjN]at h2;exact Qf5.1 h2
 ·intro s hs;have h1:s∈bS (af gs) 0:=(Uw 0 s).1 hs;have h2:=hG.src;rw[Qf5.1 h2]at h1;cases h1
 ·intro x hx i hi;obtain⟨k,hk⟩:=jF.1 hx;obtain⟨y,hy,_,e⟩:=at_ hk;exact hG.QbQ.1 y (Qcs hy) i (by rw[e];exact hi)
 ·rw[hF];exact hG.QbQ.2
 ·intro x hx i hi a ha;obtain⟨k,hk⟩:=jF.1 hx;obtain⟨j,hj⟩:=jF.1 hi;have:=hiv hk j i hj a ha;exact⟨this.1,this.2.1⟩
 ·intro x hx hf;obtain⟨k,hk⟩:=jF.1 hx;have:=hfv hk hf;exact⟨this.1,this.2.1⟩
 ·intro k x hx _ j i hi a ha;exact hiv hx j i hi a ha
 ·intro k x hx _ hf;exact hfv hx hf
 ·intro k x hx p hp;obtain⟨y,hy,e1,e⟩:=at_ hx;have hr:=vi hx hy;rw[e1]at hp;obtain⟨q,hq,rfl⟩:=jd.1 (show p∈y.ah.map (oG (bS (af gs) (k:Int)))from hp);obtain⟨j,hj⟩:=jF.1 hq;obtain⟨h1,h2⟩:=hr.ah j q hj;have Tu:=NK (af gs) (k:Int);refine⟨h1,Tu.imp (fun h=>oM),fun s hs=> ?_,fun s hs=>(Uw k s).1 hs,fun a ha=> ?_,fun i s a hs ha _ _=> ?_⟩
  ·have:=(AN.1 (show s∈bS (af gs) (k:Int)from hs)).1;rw[bE]at this;omega
  ·obtain⟨i,hi⟩:=jF.1 (show a∈q.args from ha);obtain⟨s,hs⟩:=bu (l:=bS (af gs) (k:Int)) (i:=i) (by rw[←h1];exact(List.getElem?_eq_some_iff.1 hi).1);have:=h2 i a s hi hs;exact⟨this.1,this.2.1⟩
  ·rw[XT];exact h2 i a s ha hs
 ·rintro t ⟨i,x,rfl,hx,_⟩;rw[hT];have:=(List.getElem?_eq_some_iff.1 hx).1;exact Rn hG oM oM
 ·intro k x hx p hp s hs;obtain⟨y,hy,e1,e⟩:=at_ hx;rw[e1]at hp;obtain⟨q,hq,rfl⟩:=jd.1 (show p∈y.ah.map (oG (bS (af gs) (k:Int)))from hp);exact(Uw k s).2 hs
end
theorem qF.map_eq{α β γ:Type}{R:α→β→Prop}{f:α→γ}{g:β→γ}{l:List α}{m:List β}(h:qF R l m)(hf:∀a b,a∈l→b∈m→R a b→f a=g b):l.map f=m.map g:=by
 refine QdX fun i=> ?_
 rw[List.getElem?_map,List.getElem?_map];by_cases hi:i<l.length
 ·obtain⟨a,ha⟩:=bu (l:=l) hi;obtain⟨b,hb⟩:=bu (l:=m) (i:=i) (by rw[←h.1];exact hi);rw[ha,hb];exact Qi9 some (hf a b (Qcs ha) (Qcs hb) (h.2 i a b ha hb))
 ·rw[List.getElem?_eq_none oM,List.getElem?_eq_none (by rw[←h.1];omega)];rfl
theorem qF.fwd{α β:Type}{R:α→β→Prop}{l:List α}{m:List β}(h:qF R l m){i:Nat}{a:α}(ha:l[i]?=some a):∃b,m[i]?=some b∧R a b:=by
 obtain⟨b,hb⟩:=bu (l:=m) (i:=i) (by rw[←h.1];exact(List.getElem?_eq_some_iff.1 ha).1);exact⟨b,hb,h.2 i a b ha hb⟩
theorem qF.bwd{α β:Type}{R:α→β→Prop}{l:List α}{m:List β}(h:qF R l m){i:Nat}{b:β}(hb:m[i]?=some b):∃a,l[i]?=some a∧R a b:=by
 obtain⟨a,ha⟩:=bu (l:=l) (i:=i) (by rw[h.1];exact(List.getElem?_eq_some_iff.1 hb).1);exact⟨a,ha,h.2 i a b ha hb⟩
section
variable {ks ms : List gO} {nm : ByteArray} {pa va : Int}
theorem Qd1{T U:Int→ar}(h:∀x t,t∈U x→t∈T x){a b:Int}(hd:Dm T a b):Dm U a b:=fun⟨h1,h2⟩=>hd ⟨h1,EL (fun x t ht=>by
  obtain⟨q1,q2⟩:=im.1 ht;exact im.2 ⟨h x t q1,q2⟩) h2⟩
end
end Go.Mor
namespace Go.Mor
open Go.RowKit
def EU(ks:List gO)(k:Int):ar:=((List.range ks.length).filter (fun s=>match ks[s]? with
 |some x=> !x.gone&&(wL x).contains k
 |none=>false)).map (fun s:Nat=>(s:Int))
def ke(S:ar)(p:vb):vb:=⟨p.dst,((p.from_.zip p.args).filter (fun q=>S.contains q.1)).map (·.1),((p.from_.zip p.args).filter (fun q=>S.contains q.1)).map (·.2)⟩
def QgN(x:gO):gO:={x with gone:=true,ah:=[],insts:=[],e:=2,v:= -1}
noncomputable def sj(ks:List gO)(k:Nat)(x:gO):gO:=open Classical in if¬Reach (tK ks) (k:Int)∧x.gone=false then QgN x else x
noncomputable def o1(ks:List gO):List gO:=ks.zipIdx.map (fun p=>sj ks p.2 p.1)
def K8(S:ar)(x:gO):gO:={x with ah:=x.ah.map (ke S)}
noncomputable def kg(ks:List gO):List gO:=(o1 ks).zipIdx.map (fun p=>K8 (EU (o1 ks) (p.2:Int)) p.1)
noncomputable def sW(ks:List gO):Bool:=open Classical in decide (∃(k:Nat) (x:gO),ks[k]?=some x∧x.gone=false∧¬Reach (tK ks) (k:Int))
section
variable {ks ms : List gO} {k : Nat} {x y : gO} {nm : ByteArray} {pa va : Int}
theorem BM(hx:ks[k]?=some x):(o1 ks)[k]?=some (sj ks k x):=by
 unfold o1;rw[List.getElem?_map,List.getElem?_zipIdx,hx];simp
theorem BV(ks:List gO):(o1 ks).length=ks.length:=by simp[o1]
theorem tn(hx:ks[k]?=some x):(kg ks)[k]?=some (K8 (EU (o1 ks) (k:Int)) (sj ks k x)):=by
 unfold kg;rw[List.getElem?_map,List.getElem?_zipIdx,BM hx];simp
theorem o2(ks:List gO):(kg ks).length=ks.length:=by simp[kg,o1]
theorem QeW{s t:Int}:s∈EU ks t↔∃(i:Nat) (x:gO),s=(i:Int)∧ks[i]?=some x∧x.gone=false∧t∈wL x:=by
 unfold EU;rw[jd];constructor
 ·rintro⟨i,hi,rfl⟩;obtain⟨h1,h2⟩:=Qjr.1 hi;obtain⟨x,hx⟩:=bu (l:=ks) (i:=i) (Qi4.1 h1);rw[hx]at h2;simp only[Qjo,dB,QdI,QcD]at h2;exact⟨i,x,rfl,hx,h2.1,h2.2⟩
 ·rintro⟨i,x,rfl,hx,hg,ht⟩;refine⟨i,Qjr.2 ⟨Qi4.2 (List.getElem?_eq_some_iff.1 hx).1,?_⟩,rfl⟩;rw[hx];simp[hg,ht]
theorem Jw(hc:Pf ks){t:Int}(h:Reach (tK ks) t):mB ks t:=by
 cases h with
 |zero=>exact hc.zero
 |step _ ht=>exact hc.vj _ _ ht
theorem QfU{ks:List gO}{k:Nat}{x:gO}(hx:ks[k]?=some x)(h:mB ks (k:Int)):x.gone=false:=by
 obtain⟨i,y,e,hy,hg⟩:=h;have:i=k:=oM;subst this;rw[hx]at hy;injection hy with hy;rwa [hy]
theorem uc(hc:Pf ks)(hx:ks[k]?=some x)(hr:Reach (tK ks) (k:Int)):(kg ks)[k]?=some (K8 (EU (o1 ks) (k:Int)) x)∧x.gone=false:=by
 refine⟨?_,QfU hx (Jw hc hr)⟩;rw[tn hx];unfold sj;rw[QcA (fun h=>h.1 hr)]
theorem F5(hc:Pf ks)(hx:ks[k]?=some x)(hr:¬Reach (tK ks) (k:Int)):∃y,(kg ks)[k]?=some y∧y.gone=true∧y.ah=[]∧y.insts=[]∧y.e=2∧y.v= -1:=by
 refine⟨_,tn hx,?_⟩;unfold sj;cases hg:x.gone with
 |false=>
  rw[dd ⟨hr,rfl⟩];exact⟨rfl,rfl,rfl,rfl,rfl⟩
 |true=>
  obtain⟨h1,h2,h3,h4⟩:=hc.gone x (Qcs hx) hg;rw[QcA (fun h=>by have:=h.2;cases this)];exact⟨hg,by show x.ah.map _=[];rw[h1];rfl,h2,h3,h4⟩
theorem qH(hy:(kg ks)[k]?=some y):∃x,ks[k]?=some x:=bu (by rw[←o2 ks];exact(List.getElem?_eq_some_iff.1 hy).1)
theorem ZF(hc:Pf ks)(hy:(kg ks)[k]?=some y)(hg:y.gone=false):∃x,ks[k]?=some x∧x.gone=false∧Reach (tK ks) (k:Int)∧y=K8 (EU (o1 ks) (k:Int)) x:=by
 obtain⟨x,hx⟩:=qH hy;by_cases hr:Reach (tK ks) (k:Int)
 ·obtain⟨h1,h2⟩:=uc hc hx hr;rw[hy]at h1;injection h1 with h1;exact⟨x,hx,h2,hr,h1⟩
 ·obtain⟨z,hz,h1,_⟩:=F5 hc hx hr;rw[hy]at hz;injection hz with hz;rw[←hz,hg]at h1;cases h1
theorem Gf(hc:Pf ks){s t:Int}:t∈tK (kg ks) s↔Reach (tK ks) s∧t∈tK ks s:=by
 constructor
 ·intro h;obtain⟨i,y,rfl,hy⟩:=ZC h;obtain⟨x,hx⟩:=qH hy;by_cases hr:Reach (tK ks) (i:Int)
  ·refine⟨hr,?_⟩;obtain⟨h1,h2⟩:=uc hc hx hr;rw[hy]at h1;injection h1 with h1;rw[Xj hy,h1,o2]at h;rw[Xj hx];exact h
  ·obtain⟨z,hz,_,_,_,h1,_⟩:=F5 hc hx hr;rw[hy]at hz;injection hz with hz;subst hz;rw[Xj hy,Qd h1]at h;cases h
 ·rintro⟨hr,h⟩;obtain⟨i,x,rfl,hx⟩:=ZC h;obtain⟨h1,h2⟩:=uc hc hx hr;rw[Xj h1,o2];rw[Xj hx]at h;exact h
theorem Lb(hc:Pf ks){t:Int}:Reach (tK (kg ks)) t↔Reach (tK ks) t:=by
 constructor
 ·exact fun h=>EL (fun x t ht=>((Gf hc).1 ht).2) h
 ·intro h;induction h with
  |zero=>exact .zero
  |step h1 ht ih=>exact .step ih ((Gf hc).2 ⟨h1,ht⟩)
theorem Pk(hc:Pf ks){t:Int}:mB (kg ks) t↔Reach (tK ks) t:=by
 constructor
 ·rintro⟨i,y,rfl,hy,hg⟩;obtain⟨_,_,_,hr,_⟩:=ZF hc hy hg;exact hr
 ·intro h;obtain⟨i,x,rfl,hx,hg⟩:=Jw hc h;exact .mk' (uc hc hx h).1 hg
theorem Qeh(hc:Pf ks):Pf (kg ks):=by
 refine⟨(Pk hc).2 .zero,fun y hy hg=> ?_,fun y hy hg=> ?_,fun s t ht=> ?_⟩
 ·obtain⟨i,hi⟩:=jF.1 hy;obtain⟨x,hx,uC,_,rfl⟩:=ZF hc hi hg;rw[o2];exact hc.ends x (Qcs hx) uC
 ·obtain⟨i,hi⟩:=jF.1 hy;obtain⟨x,hx⟩:=qH hi;by_cases hr:Reach (tK ks) (i:Int)
  ·obtain⟨h1,h2⟩:=uc hc hx hr;rw[hi]at h1;injection h1 with h1;rw[h1]at hg;rw[show(K8 (EU (o1 ks) (i:Int)) x).gone=x.gone from rfl,h2]at hg;cases hg
  ·obtain⟨z,hz,_,h1,h2,h3,h4⟩:=F5 hc hx hr;rw[hi]at hz;injection hz with hz;subst hz;exact⟨h1,h2,h3,h4⟩
 ·obtain⟨h1,h2⟩:=(Gf hc).1 ht;exact(Pk hc).2 (.step h1 h2)
theorem Pl(hc:Pf ks){s:Int}:s∈EU (o1 ks) (k:Int)↔Reach (tK ks) s∧(k:Int)∈tK ks s:=by
 rw[QeW];constructor
 ·rintro⟨i,y,rfl,hy,hg,ht⟩;obtain⟨x,hx⟩:=bu (l:=ks) (i:=i) (by rw[←BV ks];exact(List.getElem?_eq_some_iff.1 hy).1);rw[BM hx]at hy;injection hy with hy;unfold sj at hy;split at hy
  ·rw[←hy]at hg;cases hg
  ·rename_i hn;rw[hy]at hn;have hr:Reach (tK ks) (i:Int):=Classical.byContradiction fun h=>hn ⟨h,hg⟩
   refine⟨hr,?_⟩;rw[hc.at_ hx,hy];exact ht
 ·rintro⟨hr,ht⟩;obtain⟨i,x,rfl,hx,hg⟩:=Jw hc hr;refine⟨i,x,rfl,?_,hg,by rwa [hc.at_ hx]at ht⟩;rw[BM hx];unfold sj;rw[QcA (fun h=>h.1 hr)]
theorem ZH(hc:Pf ks){v c m:Int}:(v,c,m)∈bF (fK (kg ks))↔Reach (tK ks) c∧(v,c,m)∈bF (fK ks):=by
 rw[sq,sq];constructor
 ·rintro⟨i,z,hz,rfl,h⟩;obtain⟨y,hy,rfl⟩:=NL hz;obtain⟨x,hx⟩:=qH hy;by_cases hr:Reach (tK ks) (i:Int)
  ·obtain⟨h1,h2⟩:=uc hc hx hr;rw[hy]at h1;injection h1 with h1;subst h1;refine⟨hr,i,x.f,K3 hx,rfl,h.imp (fun⟨h3,p,hp,hd⟩=>⟨h3,?_⟩) id⟩;obtain⟨q,hq,rfl⟩:=jd.1 hp;obtain⟨r,hr,rfl⟩:=jd.1 hq;exact⟨_,jd.2 ⟨r,hr,rfl⟩,hd⟩
  ·obtain⟨w,hw,_,h1,h2,_⟩:=F5 hc hx hr;rw[hy]at hw;injection hw with hw;subst hw;rcases h with⟨_,p,hp,_⟩|⟨j,a,ha,_⟩
   ·have:p∈y.ah.map _:=hp;rw[h1]at this;cases this
   ·have:y.insts[j]?=some a:=ha;rw[h2]at this;cases this
 ·rintro⟨hr,i,z,hz,rfl,h⟩;obtain⟨x,hx,rfl⟩:=NL hz;obtain⟨h1,h2⟩:=uc hc hx hr;refine⟨i,_,K3 h1,rfl,h.imp (fun⟨h3,p,hp,hd⟩=>⟨h3,?_⟩) id⟩;obtain⟨q,hq,rfl⟩:=jd.1 hp;exact⟨_,jd.2 ⟨ke (EU (o1 ks) (i:Int)) q,jd.2 ⟨q,hq,rfl⟩,rfl⟩,hd⟩
theorem ZL{α β γ:Type}{f:α→List γ}{g:β→List γ}:∀{l:List α} {m:List β},qF (fun a b=>(g b).Sublist (f a)) l m→(m.flatMap g).Sublist (l.flatMap f)
 |[],[],_=> .slnil
 |[],b::m,h=>by have:=h.1;simp at this
 |a::l,[],h=>by have:=h.1;simp at this
 |a::l,b::m,h=>by rw[iC,iC];exact(h.2 0 a b rfl rfl).append (ZL ⟨by have:=h.1;simpa using this,fun i x y hx hy=>h.2 (i+1) x y hx hy⟩)
theorem ZM(hc:Pf ks)(h:ey pa va (bF (fK ks))):ey pa va (bF (fK (kg ks))):=by
 refine⟨fun d hd=> ?_,?_⟩
 ·obtain⟨v,c,m⟩:=d;exact h.1 _ ((ZH hc).1 hd).2
 ·have h2:=h.2;rw[pf]at h2⊢;refine h2.sublist (ZL ⟨by rw[QjN,QjN,o2],fun i a b ha hb=> ?_⟩);obtain⟨x,hx,rfl⟩:=NL ha;obtain⟨y,hy,rfl⟩:=NL hb;by_cases hr:Reach (tK ks) (i:Int)
  ·obtain⟨h1,_⟩:=uc hc hx hr;rw[hy]at h1;injection h1 with h1;subst h1;have:nu (K8 (EU (o1 ks) (i:Int)) x).f=nu x.f:=by unfold nu;congr 1;show((x.ah.map _).map _).map _=(x.ah.map _).map _;rw[Qcn,Qcn,Qcn];rfl
   rw[this];exact Qdr _
  ·obtain⟨w,hw,_,h1,h2,_⟩:=F5 hc hx hr;rw[hy]at hw;injection hw with hw;subst hw;have:nu y.f=[]:=by unfold nu;show(y.ah.map _).map _++(y.insts.filter _).map _=[];rw[h1,h2];rfl
   rw[this];exact List.nil_sublist _
theorem Qal{S:ar}{p:vb}{i:Nat}{s a:Int}(hs:(ke S p).from_[i]?=some s)(ha:(ke S p).args[i]?=some a):s∈S∧∃j:Nat,p.from_[j]?=some s∧p.args[j]?=some a:=by
 unfold ke at hs ha;simp only[List.getElem?_map,Jo]at hs ha;obtain⟨q,hq,rfl⟩:=hs;obtain⟨r,hr,rfl⟩:=ha;rw[hq]at hr;injection hr with hr;subst hr;obtain⟨h1,h2⟩:=Qjr.1 (Qcs hq);obtain⟨j,hj⟩:=jF.1 h1;rw[List.getElem?_zip_eq_some]at hj;exact⟨by simpa using h2,j,hj.1,hj.2⟩
theorem Qei{S:ar}{p:vb}(hl:p.args.length=p.from_.length):(ke S p).from_=p.from_.filter (fun s=>S.contains s):=by
 unfold ke;show((p.from_.zip p.args).filter ((fun s=>S.contains s)∘Prod.fst)).map Prod.fst=_;rw[←NI,List.map_fst_zip oM]
theorem Qbg(S:ar)(p:vb):(ke S p).args.length=(ke S p).from_.length:=by
 unfold ke;rw[QjN,QjN]
theorem yn(h:vU nm pa va ks):vU nm pa va (kg ks)∧EJ (kg ks):=by
 have hc:=h.UT;have j5:∀x t:Int,t∈tK (kg ks) x→t∈tK ks x:=fun x t ht=>((Gf hc).1 ht).2
 have XT:∀{v b q:Int},Reach (tK ks) b→rX pa va ks v b q→rX pa va (kg ks) v b q:=by
  intro v b q hr ha;obtain⟨h1,h2,h3⟩:=(u3 h.once.2).1 ha;refine(u3 (ZM hc h.once).2).2 ⟨h1,h2,h3.imp id fun⟨c,m,hd,h4⟩=>⟨c,m,?_,?_⟩⟩
  ·refine(ZH hc).2 ⟨?_,hd⟩;rcases h4 with⟨rfl,_⟩|⟨_,h5⟩
   ·exact hr
   ·exact Dm.reach hr h5
  ·exact h4.imp id fun⟨h5,h6⟩=>⟨h5,Qd1 j5 h6⟩
 have yes:∀{k:Nat} {y:gO},(kg ks)[k]?=some y→Reach (tK ks) (k:Int)→∃x,ks[k]?=some x∧y=K8 (EU (o1 ks) (k:Int)) x:=by intro k y hy hr;obtain⟨x,hx⟩:=qH hy;obtain⟨h1,_⟩:=uc hc hx hr;rw[hy]at h1;injection h1 with h1;exact⟨x,hx,h1⟩
 have no:∀{k:Nat} {y:gO},(kg ks)[k]?=some y→¬Reach (tK ks) (k:Int)→y.ah=[]∧y.insts=[]∧y.e=2∧y.v= -1:=by intro k y hy hr;obtain⟨x,hx⟩:=qH hy;obtain⟨w,hw,_,h1,h2,h3,h4⟩:=F5 hc hx hr;rw[hy]at hw;injection hw with hw;subst hw;exact⟨h1,h2,h3,h4⟩
 refine⟨⟨Qeh hc,h.name,h.par,fun y hy=> ?_,fun s hs=>h.QgM s (j5 _ _ hs),fun y hy i hi=> ?_,ZM hc h.once,fun y hy i hi a ha=> ?_,fun y hy hf=> ?_,fun k y hy hk j i hi a ha=> ?_,fun k y hy hk hf=> ?_,fun k y hy p hp=> ?_⟩,⟨fun t ht=>(Lb hc).2 ((Pk hc).1 ht),fun k y hy p hp s hs=> ?_⟩⟩
 ·obtain⟨x,hx,rfl⟩:=yes hy .zero;show x.ah.map _=[];rw[h.uJ x hx];rfl
 ·obtain⟨k,hk⟩:=jF.1 hy;by_cases hr:Reach (tK ks) (k:Int)
  ·obtain⟨x,hx,rfl⟩:=yes hk hr;exact h.Xv x (Qcs hx) i hi
  ·rw[(no hk hr).2.1]at hi;cases hi
 ·obtain⟨k,hk⟩:=jF.1 hy;by_cases hr:Reach (tK ks) (k:Int)
  ·obtain⟨x,hx,rfl⟩:=yes hk hr;exact h.iv x (Qcs hx) i hi a ha
  ·rw[(no hk hr).2.1]at hi;cases hi
 ·obtain⟨k,hk⟩:=jF.1 hy;by_cases hr:Reach (tK ks) (k:Int)
  ·obtain⟨x,hx,rfl⟩:=yes hk hr;exact h.fv x (Qcs hx) hf
  ·have h1:=(no hk hr).2.2;rcases hf with hf|⟨_,hf⟩
   ·omega
   ·exact absurd h1.2 hf
 ·have hr:=(Lb hc).1 hk;obtain⟨x,hx,rfl⟩:=yes hy hr;exact XT hr (h.ins k x hx hr j i hi a ha)
 ·have hr:=(Lb hc).1 hk;obtain⟨x,hx,rfl⟩:=yes hy hr;exact XT hr (h.fin k x hx hr hf)
 ·by_cases hr:Reach (tK ks) (k:Int)
  ·obtain⟨x,hx,rfl⟩:=yes hy hr;obtain⟨q,hq,rfl⟩:=jd.1 (show p∈x.ah.map _ from hp);have hP:=h.pK k x hx q hq;have Oe:=Qei (S:=EU (o1 ks) (k:Int)) hP.len;refine⟨Qbg _ _,by rw[Oe];exact hP.nd.sublist QjC,fun s hs=> ?_,fun s hs=> ?_,fun a ha=> ?_,fun i s a hs ha hrs xG=> ?_⟩
   ·rw[Oe]at hs;rw[o2];exact hP.yW s (Qjr.1 hs).1
   ·rw[Oe];have h1:=(Gf hc).1 hs;exact Qjr.2 ⟨hP.all s h1.2,by simpa using(Pl hc).2 h1⟩
   ·obtain⟨i,hi⟩:=jF.1 ha;obtain⟨s,hs⟩:=bu (l:=(ke (EU (o1 ks) (k:Int)) q).from_) (i:=i) (by rw[←Qbg];exact(List.getElem?_eq_some_iff.1 hi).1);obtain⟨_,j,_,hj⟩:=Qal hs hi;exact hP.QbQ a (Qcs hj)
   ·obtain⟨h1,j,hj,hja⟩:=Qal hs ha;have h2:=(Pl hc).1 h1;exact XT h2.1 (hP.av j s a hj hja h2.1 h2.2)
  ·rw[(no hy hr).1]at hp;cases hp
 ·by_cases hr:Reach (tK ks) (k:Int)
  ·obtain⟨x,hx,rfl⟩:=yes hy hr;obtain⟨q,hq,rfl⟩:=jd.1 (show p∈x.ah.map _ from hp);obtain⟨i,hi⟩:=jF.1 hs;obtain⟨a,ha⟩:=bu (l:=(ke (EU (o1 ks) (k:Int)) q).args) (i:=i) (by rw[Qbg];exact(List.getElem?_eq_some_iff.1 hi).1);obtain⟨h1,_⟩:=Qal hi ha;exact(Gf hc).2 ((Pl hc).1 h1)
  ·rw[(no hy hr).1]at hp;cases hp
end
end Go.Mor
namespace Go.Mor
def QeX(a b:Int):Int:=IntKind.i64.wrap ((BitVec.ofInt 64 a&&&BitVec.ofInt 64 b).toNat:Int)
def XM(a b:Int):Int:=IntKind.i64.wrap ((BitVec.ofInt 64 a|||BitVec.ofInt 64 b).toNat:Int)
def QbB(a b:Int):Int:=IntKind.i64.wrap ((BitVec.ofInt 64 a^^^BitVec.ofInt 64 b).toNat:Int)
def nW(b:Int):Int:=IntKind.u64.wrap ((BitVec.ofInt 64 (IntKind.u64.wrap b)&&&BitVec.ofInt 64 63).toNat:Int)
def QeY(a n:Int):Int:=IntKind.i64.wrap (a*2^min n.toNat 64)
def Qej(a n:Int):Int:=a.fdiv (2^min n.toNat 64)
def xN(op a b:Int):Int×Int:=if b=0 then(0,3)else if b= -1∧op=4 then(IntKind.i64.wrap (0-a),0)else if b= -1 then(0,0)else if op=4 then(IntKind.i64.wrap (a.tdiv b),0)else(a.tmod b,0)
def nI(op a b:Int):Int×Int:=if op=1 then(IntKind.i64.wrap (a+b),0)else if op=2 then(IntKind.i64.wrap (a-b),0)else if op=3 then(IntKind.i64.wrap (a*b),0)else if op=4∨op=5 then xN op a b else if op=6 then(QeX a b,0)else if op=7 then(XM a b,0)else if op=8 then(QbB a b,0)else if op=9 then(QeY a (nW b),0)else if op=10 then(Qej a (nW b),0)else if op=11 then(EK (decide (a=b)),0)else if op=12 then(EK (a !=b),0)else if op=13 then(EK (decide (a<b)),0)else if op=14 then(EK (decide (a≤b)),0)else if op=15 then(EK (decide (a>b)),0)else if op=16 then(EK (decide (a≥b)),0)else(0,-1)
def Gh(op a:Int):Int×Int:=if op=1 then(IntKind.i64.wrap (0-a),0)else if op=2 then(QbB (-1) a,0)else if op=3 then(EK (decide (a=0)),0)else(0,-1)
structure PSt where
 mem:ar
 next:Int
 pos:Nat
 out:ar
 steps:Int
 opened:Int
inductive Got(α:Type)where
 |ok(a:α)(s:PSt)
 |stop(k c:Int)(s:PSt)
structure RFn where
 nm:cV
 wk:Bool
 pa:Int
 va:Int
 A:aX
 c:Nat
 blks:List ay
 qA:aX
 qc:Nat
 bS:List (aX×Nat×ar)
structure Env0 where
 fns:List RFn
 names:List (cV×Int)
 data:List (cV×Int)
 inp:ar
 qd:Nat
 fuel:Int
def atS(n:Int)(s:PSt):Got Nat:=if n<1∨n≥s.next then .stop 5 0 s else .ok n.toNat s
def a0(l:ar):Int:=l.getD 0 0
def a1(l:ar):Int:=l.getD 1 0
theorem PA{n:Int}{s:PSt}(h:n<1∨n≥s.next):atS n s= .stop 5 0 s:=by unfold atS;rw[dd h]
end Go.Mor
namespace Go.Mor
open Go.RowKit
abbrev KN:=List (Bool×Int)
def XU(kn:KN)(v:Int):Bool:=(kn.getD v.toNat (false,0)).1
def qv(kn:KN)(v:Int):Int:=(kn.getD v.toNat (false,0)).2
def wu(kn:KN)(l:ar):Bool:=l.all (XU kn)
def mi(kn:KN)(i:aO):Int×Int:=if 40≤i.op then Gh (i.op-40) (qv kn (i.args.getD 0 0))else nI (i.op-16) (qv kn (i.args.getD 0 0)) (qv kn (i.args.getD 1 0))
def q0(kn:KN)(i:aO):Prop:=16<i.op∧wu kn i.args=true∧(mi kn i).2=0
instance (kn : KN) (i : aO) : Decidable (q0 kn i) := by unfold q0; infer_instance
def Ar(kn:KN)(e v:Int):Prop:=e=1∧XU kn v=true
instance (kn : KN) (e v : Int) : Decidable (Ar kn e v) := by unfold Ar; infer_instance
def wB(x:gO):Nat:=(x.insts.filter (fun i=>decide (16<i.op))).length+(if x.e=1 then 1 else 0)
end Go.Mor
namespace Go.Mor
open Go.RowKit
theorem Fa:In64 0:=⟨dQ,dQ⟩
def sX(ks:List gO):List aO:=ks.flatMap (fun x=>x.insts)
def KnQ(kn:KN)(l:List aO):Prop:=∀i,i∈l→i.op=1→kn.getD i.dst.toNat (false,0)=(true,i.n)
structure NdI(n:Nat)(l:List aO):Prop where
 nd:((l.filter (fun i=>decide (aU i.op))).map (fun i=>i.dst)).Nodup
 yW:∀i,i∈l→aU i.op→0≤i.dst∧i.dst.toNat<n
theorem NQ:aU 1:=by unfold aU;omega
theorem QmC{α:Type}{l:List α}{i j:Nat}{a d:α}:(l.set i a).getD j d=if i=j∧i<l.length then a else l.getD j d:=by
 rw[List.getD_eq_getElem?_getD,List.getD_eq_getElem?_getD,List.getElem?_set];by_cases e:i=j
 ·subst e;by_cases hl:i<l.length
  ·rw[dd rfl,dd hl,dd ⟨rfl,hl⟩];rfl
  ·rw[dd rfl,QcA hl,QcA (fun h=>hl h.2),List.getElem?_eq_none oM]
 ·rw[QcA e,QcA (fun h=>e h.1)]
theorem NdI.mid{n:Nat}{a r:List aO}{i j:aO}(h:NdI n (a++i::r))(hi:aU i.op)(hj:aU j.op)(hm:j∈a++r):j.dst≠i.dst:=by
 have h1:=h.nd;rw[xH,Qjz,dd (by simp[hi]),Qjy,lR,Tg]at h1;obtain⟨_,h3,h4⟩:=h1;rcases QiU.1 hm with h5|h5
 ·exact h4 j.dst (jd.2 ⟨j,Qjr.2 ⟨h5,by simp[hj]⟩,rfl⟩) i.dst (en ..)
 ·intro e;exact(QiR.1 h3).1 (e▸jd.2 ⟨j,Qjr.2 ⟨h5,by simp[hj]⟩,rfl⟩)
theorem NdI.ne{n:Nat}{a r:List aO}{i j:aO}(h:NdI n (a++i::r))(hi:aU i.op)(hj:aU j.op)(hm:j∈a++r):j.dst.toNat≠i.dst.toNat:=by
 have h1:=h.mid hi hj hm;have h2:=(h.yW i sI hi).1;have h3:=(h.yW j (by rcases QiU.1 hm with h|h<;>simp[h]) hj).1;omega
def oo(l:List aO)(z:KN):KN:=l.foldl (fun kn i=>if i.op=1 then kn.set i.dst.toNat (true,i.n)else kn) z
def qN(ks:List gO)(n:Nat):KN:=oo (sX ks) (List.replicate n (false,0))
theorem BX(l:List aO)(z:KN):(oo l z).length=z.length:=by
 unfold oo;induction l generalizing z with
 |nil=>rfl
 |cons i l ih=>rw[List.foldl_cons,ih];split<;>simp
theorem Xl(l:List aO)(i:aO)(z:KN):oo (l++[i]) z=if i.op=1 then(oo l z).set i.dst.toNat (true,i.n)else oo l z:=by unfold oo;rw[Qf3];rfl
theorem Qok{l:List aO}{n:Nat}(hn:NdI n l):∀m,m≤l.length→KnQ (oo (l.take m) (List.replicate n (false,0))) (l.take m):=by
 intro m;induction m with
 |zero=>intro _ i hi;simp at hi
 |succ m ih=>
  intro hm i hi h1;have h:=ih oM;obtain⟨a,ha⟩:=bu (l:=l) (i:=m) oM;have e:l=l.take m++a::l.drop (m+1):=by conv=>lhs;rw[←xK m l,BW ha]
  have e1:l.take (m+1)=l.take m++[a]:=by obtain⟨q1,q2⟩:=List.getElem?_eq_some_iff.1 ha;rw[QjK q1,q2]
  rw[e1,Xl];rw[e1]at hi;have hl:=BX (l.take m) (List.replicate n (false,0));rw[Qct]at hl;rw[e]at hn;have hlen:(oo (l.take m) (List.replicate n (false,(0:Int)))).length=n:=hl;rcases QiU.1 hi with hi|hi
  ·split
   ·rename_i L2;have:=hn.ne (by rw[L2];exact NQ) (j:=i) (by rw[h1];exact NQ) (Qi6 _ hi);rw[QmC,QcA (fun h=>this h.1.symm)];exact h i hi h1
   ·exact h i hi h1
  ·rw[QcC]at hi;subst hi;rw[dd h1,QmC,dd ⟨rfl,by rw[hlen];exact(hn.yW i sI (by rw[h1];exact NQ)).2⟩]
theorem Qj3{ks:List gO}{n:Nat}(hn:NdI n (sX ks)):KnQ (qN ks n) (sX ks):=by
 have:=Qok hn (sX ks).length (Qjn _);rwa [Qcg]at this
theorem Qqe{pa va:Int}{ks:List gO}{n:Nat}(hp:0≤pa)(kx:va=(n:Int))(h:ey pa va (bF (fK ks))):NdI n (sX ks):=by
 refine⟨?_,fun i hi hm=> ?_⟩
 ·have h2:=h.2;rw[pf]at h2;refine h2.sublist ?_;unfold sX;rw[List.filter_flatMap,List.map_flatMap,show fK ks=ks.map gO.f from rfl,Oc];refine ZL ⟨rfl,fun i a b ha hb=> ?_⟩;rw[ha]at hb;injection hb with hb;subst hb;exact Qh3 _ _
 ·obtain⟨x,hx,hi⟩:=pZ.1 hi;obtain⟨k,hk⟩:=jF.1 hx;obtain⟨j,hj⟩:=jF.1 hi;have:=h.1 _ (sq.2 ⟨k,x.f,K3 hk,rfl,.inr ⟨j,i,hj,hm,rfl,rfl⟩⟩);have h1:pa≤i.dst:=this.1;have h2:i.dst<va:=this.2;omega
end Go.Mor
namespace Go.Mor
open Go.RowKit
theorem XV{α β:Type}{f:α→Nat}{g:β→Nat}:∀{l:List α} {m:List β},qF (fun a b=>g b≤f a) l m→(m.map g).sum≤(l.map f).sum
 |[],[],_=>Qjn _
 |[],b::m,h=>by have:=h.1;simp at this
 |a::l,[],h=>by have:=h.1;simp at this
 |a::l,b::m,h=>by have h1:=h.2 0 a b rfl rfl;have h2:=XV (l:=l) (m:=m) ⟨by have:=h.1;simpa using this,fun i x y hx hy=>h.2 (i+1) x y hx hy⟩;rw[lR,lR,B5,B5];omega
theorem Qd5{α β:Type}{f:α→Nat}{g:β→Nat}:∀{l:List α} {m:List β},qF (fun a b=>g b≤f a) l m→∀{k:Nat} {a:α} {b:β},l[k]?=some a→m[k]?=some b→g b<f a→(m.map g).sum<(l.map f).sum
 |[],m,_,k,a,b,hl,_,_=>by simp at hl
 |a::l,[],h,_,_,_,_,_,_=>by have:=h.1;simp at this
 |a::l,b::m,h,k,x,y,hx,hy,fm=>by
  have h1:=h.2 0 a b rfl rfl;have h3:qF (fun a b=>g b≤f a) l m:=⟨by have:=h.1;simpa using this,fun i x y hx hy=>h.2 (i+1) x y hx hy⟩;rw[lR,lR,B5,B5];cases k with
  |zero=>
   injection hx with hx;injection hy with hy;subst hx;subst hy;have h2:=XV h3;omega
  |succ k=>
   have h2:=Qd5 h3 hx hy fm;omega
def KW(x:gO):Nat:=if x.gone then 0 else 1
theorem Rk(ks:List gO):(pP ks).length=(ks.map KW).sum:=by
 induction ks with
 |nil=>rfl
 |cons x ks ih=>
  rw[lR,B5,←ih];unfold pP KW;rw[Qjz];cases x.gone<;>simp<;>omega
section
variable {ks ms : List gO} {kn : KN} {nm : ByteArray} {pa va : Int}
theorem T1(ks:List gO):qF (fun x y=>y.insts.length≤x.insts.length∧y.ah.length≤x.ah.length∧wB y≤wB x∧KW y≤KW x) ks (kg ks):=by
 refine⟨(o2 ks).symm,fun k x y hx hy=> ?_⟩;rw[tn hx]at hy;injection hy with hy;subst hy;unfold sj;split
 ·refine⟨Qdv _,Qdv _,?_,Qdv _⟩;show(([]:List aO).filter _).length+(if(2:Int)=1 then 1 else 0)≤_;simp
 ·exact⟨Qjn _,by show(x.ah.map _).length≤_;rw[QjN];exact Qjn _,Qjn _,Qjn _⟩
theorem qF.imp{α β:Type}{R S:α→β→Prop}{l:List α}{m:List β}(h:qF R l m)(hi:∀a b,R a b→S a b):qF S l m:=⟨h.1,fun i a b ha hb=>hi a b (h.2 i a b ha hb)⟩
theorem Po(ks:List gO):hY (fK (kg ks))≤hY (fK ks):=by
 rw[vR,vR,o2];have:=XV (f:=fun x:gO=>x.ah.length+x.insts.length) (g:=fun x:gO=>x.ah.length+x.insts.length) ((T1 ks).imp fun _ _ h=>by have:=h.1;have:=h.2.1;omega);omega
def sP(ks:List gO):Prop:=∀x,x∈ks→x.insts.map aO.e0=x.insts
def Xq(ks:List gO):Prop:=∀x,x∈ks→(∀i,i∈x.insts→i.Ok)∧In64 x.e∧In64 x.v∧In64 x.a∧In64 x.b∧(∀p,p∈x.ah→In64 p.dst)
theorem Qbo(h:sP ks):sP (kg ks):=by
 intro y hy;obtain⟨k,hk⟩:=jF.1 hy;obtain⟨x,hx⟩:=qH hk;rw[tn hx]at hk;injection hk with hk;subst hk;unfold sj;split
 ·rfl
 ·exact h x (Qcs hx)
theorem Qdd(h:Xq ks):Xq (kg ks):=by
 intro y hy;obtain⟨k,hk⟩:=jF.1 hy;obtain⟨x,hx⟩:=qH hk;rw[tn hx]at hk;injection hk with hk;subst hk;obtain⟨h0,h1,h2,h3,h4,h5⟩:=h x (Qcs hx);unfold sj;split
 ·exact⟨(by intro i hi;cases hi),⟨by show(-9223372036854775808:Int)≤2;omega,by show(2:Int)≤9223372036854775807;omega⟩,⟨by show(-9223372036854775808:Int)≤-1;omega,by show(-1:Int)≤9223372036854775807;omega⟩,h3,h4,(by intro p hp;cases hp)⟩
 ·refine⟨h0,h1,h2,h3,h4,fun p hp=> ?_⟩;obtain⟨q,hq,rfl⟩:=jd.1 (show p∈x.ah.map _ from hp);exact h5 q hq
end
end Go.Mor
namespace Go.Mor
open Go.RowKit
inductive Dr:List aO→List aO→Prop
 |nil:Dr [] []
 |keep {i:aO} {l m:List aO}:Dr l m→Dr (i::l) (i::m)
 |drop {i:aO} {l m:List aO}:i.op=11→Dr l m→Dr (i::l) m
theorem Dr.sub{l m:List aO}(h:Dr l m):m.Sublist l:=by
 induction h with
 |nil=>exact .slnil
 |keep _ ih=>exact ih.cons_cons _
 |drop _ _ ih=>exact ih.cons _
theorem Dr.app{l m l' m':List aO}(h:Dr l m)(h':Dr l' m'):Dr (l++l') (m++m'):=by
 induction h with
 |nil=>exact h'
 |keep _ ih=>exact .keep ih
 |drop e _ ih=>exact .drop e ih
structure Qnu(l m:List aO)(f:Nat→Nat):Prop where
 up:∀i j,i<j→f i<f j
 get:∀(j:Nat) (i:aO),m[j]?=some i→l[f j]?=some i
 kept:∀(k:Nat) (i:aO),l[k]?=some i→i.op≠11→∃j,f j=k∧m[j]?=some i
theorem Dr.pos{l m:List aO}(h:Dr l m):∃f,Qnu l m f:=by
 induction h with
 |nil=>exact⟨id,fun _ _ h=>h,fun j i h=>by simp at h,fun k i h=>by simp at h⟩
 | @keep i l m _ ih=>
  obtain⟨f,hf⟩:=ih;refine⟨fun j=>match j with|0=>0|j+1=>f j+1,fun a b Hl=> ?_,fun j a ha=> ?_,fun k a ha ho=> ?_⟩
  ·cases b with
   |zero=>omega
   |succ b=>cases a with
    |zero=>show 0<f b+1;omega
    |succ a=>show f a+1<f b+1;have:=hf.up a b oM;omega
  ·cases j with
   |zero=>exact ha
   |succ j=>exact hf.get j a ha
  ·cases k with
   |zero=>exact⟨0,rfl,ha⟩
   |succ k=>
    obtain⟨j,h1,h2⟩:=hf.kept k a ha ho;exact⟨j+1,by show f j+1=k+1;omega,h2⟩
 | @drop i l m he _ ih=>
  obtain⟨f,hf⟩:=ih;refine⟨fun j=>f j+1,fun a b Hl=>by have:=hf.up a b Hl;show f a+1<f b+1;omega,fun j a ha=>hf.get j a ha,fun k a ha ho=> ?_⟩;cases k with
  |zero=>injection ha with ha;subst ha;exact absurd he ho
  |succ k=>
   obtain⟨j,h1,h2⟩:=hf.kept k a ha ho;exact⟨j,by show f j+1=k+1;omega,h2⟩
theorem Qnu.le{l m:List aO}{f:Nat→Nat}(h:Qnu l m f)(j:Nat):j≤f j:=by
 induction j with
 |zero=>omega
 |succ j ih=>have:=h.up j (j+1) oM;omega
structure Tb(x y:gO):Prop where
 gone:y.gone=x.gone
 ah:y.ah=x.ah
 insts:(Dr x.insts y.insts∧y.e=x.e∧y.v=x.v∧y.a=x.a∧y.b=x.b)∨(x.gone=false∧(∃p s,x.insts=p++s∧Dr p y.insts)∧y.e=3∧cN y.a∧y.v=0∧y.b=0)
theorem Tb.pos{x y:gO}(h:Tb x y):∃f:Nat→Nat,(∀i j,i<j→f i<f j)∧(∀(j:Nat) (i:aO),y.insts[j]?=some i→x.insts[f j]?=some i)∧(∀j,j≤f j)∧∀(k:Nat) (i:aO),x.insts[k]?=some i→i.op≠11→(∃j,f j=k∧y.insts[j]?=some i)∨(y.e=3∧∀(j:Nat) (i:aO),y.insts[j]?=some i→f j<k):=by
 rcases h.insts with⟨hd,_⟩|⟨_,⟨p,s,e,hd⟩,he,_⟩
 ·obtain⟨f,hf⟩:=hd.pos;exact⟨f,hf.up,hf.get,hf.le,fun k i hk ho=> .inl (hf.kept k i hk ho)⟩
 ·obtain⟨f,hf⟩:=hd.pos;have fm:∀(j:Nat) (i:aO),y.insts[j]?=some i→f j<p.length:=fun j i hj=>(List.getElem?_eq_some_iff.1 (hf.get j i hj)).1
  refine⟨f,hf.up,fun j i hj=> ?_,hf.le,fun k i hk ho=> ?_⟩
  ·rw[e,List.getElem?_append_left (fm j i hj)];exact hf.get j i hj
  ·by_cases Ti:k<p.length
   ·rw[e,List.getElem?_append_left Ti]at hk;exact .inl (hf.kept k i hk ho)
   ·exact .inr ⟨he,fun j a hj=>by have:=fm j a hj;omega⟩
theorem Tb.sub{x y:gO}(h:Tb x y):y.insts.Sublist x.insts:=by
 rcases h.insts with⟨hd,_⟩|⟨_,⟨p,s,e,hd⟩,_⟩
 ·exact hd.sub
 ·rw[e];exact hd.sub.trans (List.sublist_append_left p s)
theorem Tb.tg{x y:gO}(h:Tb x y):wL y=wL x∨wL y=[]:=by
 rcases h.insts with⟨_,e1,_,e3,e4⟩|⟨_,_,e,_⟩
 ·left;unfold wL;rw[e1,e3,e4]
 ·right;unfold wL;rw[QcA oM,QcA oM]
theorem Tb.O9{N:Int}{x y:gO}(h:Tb x y)(he:O9 N x):O9 N y:=by
 unfold Go.Mor.O9 at he⊢;rcases h.insts with⟨_,e1,e2,e3,e4⟩|⟨_,_,e1,e2,e3,e4⟩
 ·rwa [e1,e2,e3,e4]
 ·exact .inr (.inr (.inr ⟨e1,e2,e3,e4⟩))
section
variable {ks ms : List gO} {nm : ByteArray} {pa va : Int}
theorem QjJ(hl:qF Tb ks ms){t:Int}:mB ks t→mB ms t:=by
 rintro⟨i,x,rfl,hx,hg⟩;obtain⟨y,hy,hb⟩:=hl.fwd hx;exact .mk' hy (by rw[hb.gone,hg])
theorem Qkh(hc:Pf ks)(hl:qF Tb ks ms){i:Nat}{x y:gO}(hx:ks[i]?=some x)(hy:ms[i]?=some y):tK ms (i:Int)=wL y:=by
 have hb:=hl.2 i x y hx hy;rw[Xj hy];cases hg:x.gone with
 |true=>
  obtain⟨_,_,h3,_⟩:=hc.gone x (Qcs hx) hg;rcases hb.insts with⟨_,e,_⟩|⟨hg2,_⟩
  ·rw[Qd (by rw[e,h3])];unfold wL;rw[QcA oM,QcA oM]
  ·rw[hg]at hg2;cases hg2
 |false=>
  have:=hb.O9 (hc.ends x (Qcs hx) hg);rw[hl.1]at this;exact Qc0 this
theorem Qh4(hc:Pf ks)(hl:qF Tb ks ms){s t:Int}(h:t∈tK ms s):t∈tK ks s:=by
 obtain⟨i,y,rfl,hy⟩:=ZC h;obtain⟨x,hx,hb⟩:=hl.bwd hy;rw[Qkh hc hl hx hy]at h;rw[hc.at_ hx];rcases hb.tg with e|e
 ·rwa [e]at h
 ·rw[e]at h;cases h
theorem Qmn(hc:Pf ks)(hl:qF Tb ks ms):Pf ms:=by
 refine⟨QjJ hl hc.zero,fun y hy hg=> ?_,fun y hy hg=> ?_,fun s t ht=>QjJ hl (hc.vj s t (Qh4 hc hl ht))⟩
 ·obtain⟨i,hi⟩:=jF.1 hy;obtain⟨x,hx,hb⟩:=hl.bwd hi;rw[←hl.1];exact hb.O9 (hc.ends x (Qcs hx) (by rw[←hb.gone,hg]))
 ·obtain⟨i,hi⟩:=jF.1 hy;obtain⟨x,hx,hb⟩:=hl.bwd hi;have uC:x.gone=true:=by rw[←hb.gone,hg]
  obtain⟨h1,h2,h3,h4⟩:=hc.gone x (Qcs hx) uC;have hs:=hb.sub;rw[h2]at hs;refine⟨by rw[hb.ah,h1],List.eq_nil_of_sublist_nil hs,?_⟩;rcases hb.insts with⟨_,e1,e2,_⟩|⟨hg2,_⟩
  ·exact⟨by rw[e1,h3],by rw[e2,h4]⟩
  ·rw[uC]at hg2;cases hg2
theorem Qmo{T:Int→ar}{c b:Int}(hr:Reach T b)(hd:Dm T c b)(cU:c≠b):T c≠[]:=by
 intro e;have key:∀x,Reach T x→x=c∨(x≠c∧(c≠0→Reach (Cq T c) x)∧(c=0→x=0)):=by
  intro x hx;induction hx with
  |zero=>
   by_cases h:(0:Int)=c
   ·exact .inl h
   ·exact .inr ⟨h,fun _=> .zero,fun h2=>absurd h2.symm h⟩
  | @step y t hy ht ih=>
   by_cases h:t=c
   ·exact .inl h
   rcases ih with ih|⟨h1,h2,h3⟩
   ·rw[ih,e]at ht;cases ht
   ·refine .inr ⟨h,fun Py=> .step (h2 Py) (im.2 ⟨ht,h⟩),fun Py=> ?_⟩;have:=h3 Py;exact absurd (this.trans Py.symm) h1
 rcases key b hr with h|⟨h1,h2,h3⟩
 ·exact cU h.symm
 ·by_cases Py:c=0
  ·exact h1 ((h3 Py).trans Py.symm)
  ·exact hd ⟨Py,h2 Py⟩
theorem QjP(hl:qF Tb ks ms)(h:ey pa va (bF (fK ks))):ey pa va (bF (fK ms)):=by
 refine⟨fun d hd=> ?_,?_⟩
 ·obtain⟨v,c,m⟩:=d;obtain⟨i,z,hz,rfl,hq⟩:=sq.1 hd;obtain⟨y,hy,rfl⟩:=NL hz;obtain⟨x,hx,hb⟩:=hl.bwd hy;obtain⟨f,_,rh,_⟩:=hb.pos;rcases hq with⟨rfl,p,hp,hdp⟩|⟨j,a,ha,hm,hda,rfl⟩
  ·have hp:p∈y.ah.map (fun p=>(⟨p.dst,none,0,p.args⟩:bI)):=hp;rw[hb.ah]at hp;exact h.1 (v,(i:Int),-1) (sq.2 ⟨i,x.f,K3 hx,rfl,.inl ⟨rfl,p,hp,hdp⟩⟩)
  ·exact h.1 (v,(i:Int),(f j:Int)) (sq.2 ⟨i,x.f,K3 hx,rfl,.inr ⟨f j,a,rh j a ha,hm,hda,rfl⟩⟩)
 ·have h2:=h.2;rw[pf]at h2⊢;refine h2.sublist (ZL ⟨by rw[QjN,QjN,hl.1],fun i a b ha hb=> ?_⟩);obtain⟨x,hx,rfl⟩:=NL ha;obtain⟨y,hy,rfl⟩:=NL hb;have hxy:=hl.2 i x y hx hy;unfold nu;show((y.ah.map _).map _++(y.insts.filter _).map _).Sublist ((x.ah.map _).map _++(x.insts.filter _).map _);rw[hxy.ah];exact(Qdr _).append ((hxy.sub.filter _).map _)
theorem Qlv(h:vU nm pa va ks)(hl:qF Tb ks ms){b:Nat}{x y:gO}(hx:ks[b]?=some x)(hy:ms[b]?=some y)(hr:Reach (tK ms) (b:Int)){v q q':Int}(hq:∀(k:Nat) (i:aO),x.insts[k]?=some i→aU i.op→(k:Int)<q→∃j:Nat,y.insts[j]?=some i∧(j:Int)<q')(hq0:(-1:Int)<q→(-1:Int)<q')(ha:rX pa va ks v (b:Int) q):rX pa va ms v (b:Int) q':=by
 have hc:=h.UT;have j5:∀x t:Int,t∈tK ms x→t∈tK ks x:=fun x t ht=>Qh4 hc hl ht
 obtain⟨h1,h2,h3⟩:=(u3 h.once.2).1 ha;refine(u3 (QjP hl h.once).2).2 ⟨h1,h2,?_⟩;rcases h3 with h3|⟨c,m,hd,h3⟩
 ·exact .inl h3
 obtain⟨ci,z,hz,rfl,hdq⟩:=sq.1 hd;obtain⟨xc,hxc,rfl⟩:=NL hz;obtain⟨yc,hyc,hbc⟩:=hl.fwd hxc;right;rcases h3 with⟨e,h4⟩|⟨cU,h4⟩
 ·have:ci=b:=oM;subst this;rw[hx]at hxc;injection hxc with hxc;subst hxc;rw[hy]at hyc;injection hyc with hyc;subst hyc;rcases hdq with⟨rfl,p,hp,hdp⟩|⟨k,i,hi,hm,HO,rfl⟩
  ·refine⟨(ci:Int),-1,sq.2 ⟨ci,y.f,K3 hy,rfl,.inl ⟨rfl,p,?_,hdp⟩⟩,.inl ⟨rfl,hq0 h4⟩⟩;show p∈y.ah.map (fun p=>(⟨p.dst,none,0,p.args⟩:bI));rw[hbc.ah];exact hp
  ·obtain⟨j,hj,hjq⟩:=hq k i hi hm h4;exact⟨(ci:Int),(j:Int),sq.2 ⟨ci,y.f,K3 hy,rfl,.inr ⟨j,i,hj,hm,HO,rfl⟩⟩,.inl ⟨rfl,hjq⟩⟩
 ·have hdm:=Qd1 j5 h4;have Hx:=Qmo hr hdm cU;rw[Qkh hc hl hxc hyc]at Hx;have Ps:¬yc.e=3:=fun e=>Hx (by unfold wL;rw[QcA oM,QcA oM])
  rcases hdq with⟨rfl,p,hp,hdp⟩|⟨k,i,hi,hm,HO,rfl⟩
  ·refine⟨(ci:Int),-1,sq.2 ⟨ci,yc.f,K3 hyc,rfl,.inl ⟨rfl,p,?_,hdp⟩⟩,.inr ⟨cU,hdm⟩⟩;show p∈yc.ah.map (fun p=>(⟨p.dst,none,0,p.args⟩:bI));rw[hbc.ah];exact hp
  ·obtain⟨g,_,_,_,hk⟩:=hbc.pos;rcases hk k i hi (fun e=>by rw[e]at hm;unfold aU at hm;omega)with⟨j,_,hj⟩|⟨e3,_⟩
   ·exact⟨(ci:Int),(j:Int),sq.2 ⟨ci,yc.f,K3 hyc,rfl,.inr ⟨j,i,hj,hm,HO,rfl⟩⟩,.inr ⟨cU,hdm⟩⟩
   ·exact absurd e3 Ps
theorem QjR(h:vU nm pa va ks)(hl:qF Tb ks ms):vU nm pa va ms:=by
 have hc:=h.UT;have j5:∀x t:Int,t∈tK ms x→t∈tK ks x:=fun x t ht=>Qh4 hc hl ht
 have hr:∀{t:Int},Reach (tK ms) t→Reach (tK ks) t:=fun ht=>EL j5 ht
 have bk:∀{y:gO},y∈ms→∃(i:Nat) (x:gO),ks[i]?=some x∧x∈ks∧Tb x y:=fun {y} hy=>by obtain⟨i,hi⟩:=jF.1 hy;obtain⟨x,hx,hb⟩:=hl.bwd hi;exact⟨i,x,hx,Qcs hx,hb⟩
 have CF:∀{k:Nat} {x y:gO} {v:Int},ks[k]?=some x→ms[k]?=some y→Reach (tK ms) (k:Int)→y.e≠3→rX pa va ks v (k:Int) 20000→rX pa va ms v (k:Int) 20000:=by
  intro k x y v hx hy YQ he ha;obtain⟨f,_,_,hle,hk⟩:=(hl.2 k x y hx hy).pos;refine Qlv h hl hx hy YQ (fun m i hi hm fm=> ?_) (fun _=>oM) ha;rcases hk m i hi (fun e=>by rw[e]at hm;unfold aU at hm;omega)with⟨j,h1,h2⟩|⟨e3,_⟩
  ·have:=hle j;exact⟨j,h2,oM⟩
  ·exact absurd e3 he
 refine⟨Qmn hc hl,h.name,h.par,fun y hy=> ?_,fun s hs=>h.QgM s (j5 _ _ hs),fun y hy i hi=> ?_,QjP hl h.once,fun y hy i hi a ha=> ?_,fun y hy hf=> ?_,fun k y hy hk j i hi a ha=> ?_,fun k y hy hk hf=> ?_,fun k y hy p hp=> ?_⟩
 ·obtain⟨x,hx,hb⟩:=hl.bwd hy;rw[hb.ah];exact h.uJ x hx
 ·obtain⟨_,x,_,pj,hb⟩:=bk hy;exact h.Xv x pj i (hb.sub.mem hi)
 ·obtain⟨_,x,_,pj,hb⟩:=bk hy;exact h.iv x pj i (hb.sub.mem hi) a ha
 ·obtain⟨_,x,_,pj,hb⟩:=bk hy;rcases hb.insts with⟨_,e1,e2,_⟩|⟨_,_,e1,_⟩
  ·rw[e1,e2]at hf;rw[e2];exact h.fv x pj hf
  ·omega
 ·obtain⟨x,hx,hb⟩:=hl.bwd hy;obtain⟨f,Tu,rh,_,Qoc⟩:=hb.pos;have yX:=h.ins k x hx (hr hk) (f j) i (rh j i hi) a ha;refine Qlv h hl hx hy hk (fun m i' ln hm fm=> ?_) (fun _=>oM) yX;rcases Qoc m i' ln (fun e=>by rw[e]at hm;unfold aU at hm;omega)with⟨j',h1,h2⟩|⟨_,h3⟩
  ·refine⟨j',h2,?_⟩;rcases iO j' j with h4|h4
   ·omega
   ·exfalso;rcases Nat.lt_or_eq_of_le h4 with h5|h5
    ·have:=Tu j j' h5;omega
    ·subst h5;omega
  ·have:=h3 j i hi;omega
 ·obtain⟨x,hx,hb⟩:=hl.bwd hy;rcases hb.insts with⟨_,e1,e2,_⟩|⟨_,_,e1,_⟩
  ·have h9:=CF hx hy hk oM (h.fin k x hx (hr hk) (by rw[e1,e2]at hf;exact hf));rw[e2];exact h9
  ·omega
 ·obtain⟨x,hx,hb⟩:=hl.bwd hy;rw[hb.ah]at hp;have hP:=h.pK k x hx p hp;refine⟨hP.len,hP.nd,by rw[←hl.1];exact hP.yW,fun s hs=>hP.all s (j5 _ _ hs),hP.QbQ,fun i s a hs ha hrs xG=> ?_⟩;obtain⟨si,ys,rfl,hys⟩:=ZC xG;obtain⟨xs,hxs,Ig⟩:=hl.bwd hys;refine CF hxs hys hrs ?_ (hP.av i _ a hs ha (hr hrs) (j5 _ _ xG));intro e;rw[Qkh hc hl hxs hys]at xG;unfold wL at xG;rw[QcA oM,QcA oM]at xG;cases xG
end
end Go.Mor
namespace Go.Mor
open Go.RowKit
theorem Qkz{T:Int→ar}{k at_:Int}(h:∀s,at_∈T s→s=k)(h0:at_≠0):Dm T k at_:=by
 rintro⟨hk,hr⟩;have key:∀t,Reach (Cq T k) t→t=at_→False:=by
  intro t ht e;cases ht with
  |zero=>exact h0 e.symm
  | @step s _ hs qZ=>
   have:=h s (e▸(im.1 qZ).1);exact QjI hk hs this
 exact key _ hr rfl
def Qbm(d o v:Int):Int:=if v=d then o else v
def xL(e v:Int):Prop:=e=1∨(e=2∧0≤v)
instance (e v : Int) : Decidable (xL e v) := by unfold xL; infer_instance
def QhD(d o:Int)(p:vb):vb:={p with args:=p.args.map (Qbm d o)}
def QdM(d o:Int)(i:aO):aO:={i with args:=i.args.map (Qbm d o)}
def Qez(d o:Int)(x:gO):gO:={x with ah:=(x.ah.filter (fun p=>p.dst !=d)).map (QhD d o),insts:=x.insts.map (QdM d o),v:=if xL x.e x.v then Qbm d o x.v else x.v}
def Lc(d o:Int)(ks:List gO):List gO:=ks.map (Qez d o)
section
variable {ks : List gO} {nm : ByteArray} {pa va : Int} {k at_ : Nat} {x : gO} {d o : Int}
theorem Qh5(hx:ks[k]?=some x):(Lc d o ks)[k]?=some (Qez d o x):=by unfold Lc;rw[List.getElem?_map,hx];rfl
theorem Lf{y:gO}(hy:(Lc d o ks)[k]?=some y):∃x,ks[k]?=some x∧y=Qez d o x:=by
 unfold Lc at hy;rw[List.getElem?_map,Jo]at hy;obtain⟨x,hx,rfl⟩:=hy;exact⟨x,hx,rfl⟩
theorem QkA(ks:List gO)(d o:Int):tK (Lc d o ks)=tK ks:=by
 refine lJ ?_;unfold Lc;rw[Qcn,Qcn,Qcn];rfl
theorem Qmp(h:vU nm pa va ks)(hs:∀s,(at_:Int)∈tK ks s→s=(k:Int))(h0:at_≠0)(cU:k≠at_)(hr:Reach (tK ks) (at_:Int))(ha:rX pa va ks o (k:Int) 20000):rX pa va ks o (at_:Int) (-1):=by
 obtain⟨h1,h2,h3⟩:=(u3 h.once.2).1 ha;have hd:=Qkz hs oM;refine(u3 h.once.2).2 ⟨h1,h2,h3.imp id fun⟨c,m,hdf,h4⟩=>⟨c,m,hdf,.inr ?_⟩⟩;rcases h4 with⟨rfl,_⟩|⟨hck,h4⟩
 ·exact⟨oM,hd⟩
 ·refine⟨fun e=> ?_,h4.trans hd⟩;subst e;have:=Dm.Qns (Dm.reach hr hd) h4 hd;omega
theorem Qfv(h:vU nm pa va ks)(hd:(d,(at_:Int),(-1:Int))∈bF (fK ks)){v c m:Int}:(v,c,m)∈bF (fK (Lc d o ks))↔(v,c,m)∈bF (fK ks)∧v≠d:=by
 have one:∀{p q:Int×Int},(d,p)∈bF (fK ks)→(d,q)∈bF (fK ks)→p=q:=fun {p q} h1 h2=>by have e1:=(xB h.once.2).2 h1;have e2:=(xB h.once.2).2 h2;rw[e1]at e2;injection e2
 rw[sq,sq];constructor
 ·rintro⟨i,z,hz,rfl,hq⟩;obtain⟨y,hy,rfl⟩:=NL hz;obtain⟨x,hx,rfl⟩:=Lf hy;rcases hq with⟨rfl,p,hp,hdp⟩|⟨j,a,ha,hm,hda,rfl⟩
  ·obtain⟨q,hq,rfl⟩:=jd.1 (show p∈((x.ah.filter (fun p=>p.dst !=d)).map (QhD d o)).map (fun p=>(⟨p.dst,none,0,p.args⟩:bI))from hp);obtain⟨r,hr,rfl⟩:=jd.1 hq;obtain⟨Zd,ZN⟩:=Qjr.1 hr;have hdp:r.dst=v:=hdp;exact⟨⟨i,x.f,K3 hx,rfl,.inl ⟨rfl,_,jd.2 ⟨r,Zd,rfl⟩,hdp⟩⟩,by rw[←hdp];simpa using ZN⟩
  ·have ha:(x.insts.map (QdM d o))[j]?=some a:=ha;rw[List.getElem?_map,Jo]at ha;obtain⟨b,hb,rfl⟩:=ha;refine⟨⟨i,x.f,K3 hx,rfl,.inr ⟨j,b,hb,hm,hda,rfl⟩⟩,fun e=> ?_⟩;have h2:(d,(i:Int),(j:Int))∈bF (fK ks):=sq.2 ⟨i,x.f,K3 hx,rfl,.inr ⟨j,b,hb,hm,by rw[←e];exact hda,rfl⟩⟩;have:=one hd h2;injection this with _ h3;omega
 ·rintro⟨⟨i,z,hz,rfl,hq⟩,cU⟩;obtain⟨x,hx,rfl⟩:=NL hz;refine⟨i,_,K3 (Qh5 hx),rfl,?_⟩;rcases hq with⟨rfl,p,hp,hdp⟩|⟨j,a,ha,hm,hda,rfl⟩
  ·obtain⟨q,hq,rfl⟩:=jd.1 (show p∈x.ah.map (fun p=>(⟨p.dst,none,0,p.args⟩:bI))from hp);have hdp:q.dst=v:=hdp;refine .inl ⟨rfl,⟨q.dst,none,0,q.args.map (Qbm d o)⟩,?_,hdp⟩;exact jd.2 ⟨QhD d o q,jd.2 ⟨q,Qjr.2 ⟨hq,by rw[hdp];simpa using cU⟩,rfl⟩,rfl⟩
  ·refine .inr ⟨j,QdM d o a,?_,hm,hda,rfl⟩;show(x.insts.map (QdM d o))[j]?=_;rw[List.getElem?_map,show x.insts[j]?=some a from ha];rfl
theorem Qfw(h:vU nm pa va ks)(hd:(d,(at_:Int),(-1:Int))∈bF (fK ks)):ey pa va (bF (fK (Lc d o ks))):=by
 refine⟨fun e he=>h.once.1 e ((Qfv h hd).1 he).1,?_⟩;have h2:=h.once.2;rw[pf]at h2⊢;refine h2.sublist (ZL ⟨by unfold Lc;rw[QjN,QjN,QjN],fun i a b ha hb=> ?_⟩);obtain⟨x,hx,rfl⟩:=NL ha;obtain⟨y,hy,rfl⟩:=NL hb;rw[Qh5 hx]at hy;injection hy with hy;subst hy;unfold nu;show((((x.ah.filter _).map _).map _).map _++((x.insts.map (QdM d o)).filter _).map _).Sublist ((x.ah.map _).map _++(x.insts.filter _).map _);refine List.Sublist.append ?_ ?_
 ·rw[Qcn,Qcn,Qcn];exact(QjC (l:=x.ah)).map _
 ·rw[NI,Qcn];exact Qdr _
theorem Qmq(h:vU nm pa va ks)(hd:(d,(at_:Int),(-1:Int))∈bF (fK ks))(ho:rX pa va ks o (at_:Int) (-1)):o≠d:=by
 obtain⟨g1,g2,g3⟩:=(u3 h.once.2).1 ho;have W7:pa≤d:=(h.once.1 _ hd).1;rintro rfl;rcases g3 with g3|⟨c,m,hc,g3⟩
 ·omega
 ·have e1:=(xB h.once.2).2 hc;have e2:=(xB h.once.2).2 hd;rw[e1]at e2;injection e2 with e;injection e with e1 e2;rcases g3 with⟨_,g3⟩|⟨g3,_⟩
  ·omega
  ·exact g3 e1
theorem Qh6(h:vU nm pa va ks)(hd:(d,(at_:Int),(-1:Int))∈bF (fK ks))(ho:rX pa va ks o (at_:Int) (-1)){v b q:Int}(hr:Reach (tK ks) b)(ha:rX pa va ks v b q):rX pa va (Lc d o ks) (Qbm d o v) b q:=by
 have one:∀{w:Int} {p q:Int×Int},(w,p)∈bF (fK ks)→(w,q)∈bF (fK ks)→p=q:=fun {w p q} h1 h2=>by have e1:=(xB h.once.2).2 h1;have e2:=(xB h.once.2).2 h2;rw[e1]at e2;injection e2
 obtain⟨h1,h2,h3⟩:=(u3 h.once.2).1 ha;obtain⟨g1,g2,g3⟩:=(u3 h.once.2).1 ho;have W7:=(h.once.1 _ hd).1;have W7:pa≤d:=W7;have yy:o≠d:=by
  rintro rfl;rcases g3 with g3|⟨c,m,hc,g3⟩
  ·omega
  ·have e:=one hc hd;injection e with e1 e2;rcases g3 with⟨_,g3⟩|⟨g3,_⟩
   ·omega
   ·exact g3 e1
 unfold rX;rw[QkA];by_cases e:v=d
 ·subst e;unfold Qbm;rw[dd rfl];refine(u3 (Qfw h hd).2).2 ⟨g1,g2,g3.imp id fun⟨c,m,hc,g4⟩=>⟨c,m,(Qfv h hd).2 ⟨hc,yy⟩,?_⟩⟩;rcases g4 with⟨_,g4⟩|⟨hca,g4⟩
  ·obtain⟨i,z,hz,rfl,hq⟩:=sq.1 hc;rcases hq with⟨rfl,_⟩|⟨j,_,_,_,_,rfl⟩<;>omega
  right;rcases h3 with h3|⟨c',m',K4,h3⟩
  ·omega
  have e1:=one K4 hd;injection e1 with e1 e2;subst e1;rcases h3 with⟨rfl,_⟩|⟨cU,h3⟩
  ·exact⟨hca,g4⟩
  ·refine⟨fun e3=> ?_,g4.trans h3⟩;subst e3;exact hca (Dm.Qns (Dm.reach hr h3) g4 h3)
 ·unfold Qbm;rw[QcA e];exact(u3 (Qfw h hd).2).2 ⟨h1,h2,h3.imp id fun⟨c,m,hc,h4⟩=>⟨c,m,(Qfv h hd).2 ⟨hc,e⟩,h4⟩⟩
theorem Qk1(h:vU nm pa va ks)(ht:EJ ks)(hd:(d,(at_:Int),(-1:Int))∈bF (fK ks))(ho:rX pa va ks o (at_:Int) (-1)):vU nm pa va (Lc d o ks)∧EJ (Lc d o ks):=by
 have hT:=QkA ks d o;have hlen:(Lc d o ks).length=ks.length:=by unfold Lc;rw[QjN]
 have Qnv:∀v:Int,0≤v∧v<va→0≤Qbm d o v∧Qbm d o v<va:=fun v hv=>by
  unfold Qbm;split
  ·exact⟨ho.1,ho.2.1⟩
  ·exact hv
 have hlv:∀{t:Int},mB (Lc d o ks) t↔mB ks t:=fun {t}=>by
  constructor
  ·rintro⟨i,y,rfl,hy,hg⟩;obtain⟨x,hx,rfl⟩:=Lf hy;exact .mk' hx hg
  ·rintro⟨i,x,rfl,hx,hg⟩;exact .mk' (Qh5 hx) hg
 have bk:∀{y:gO},y∈Lc d o ks→∃x,x∈ks∧y=Qez d o x:=fun {y} hy=>by obtain⟨x,hx,rfl⟩:=jd.1 (show y∈ks.map (Qez d o)from hy);exact⟨x,hx,rfl⟩
 refine⟨⟨⟨hlv.2 h.UT.zero,fun y hy hg=> ?_,fun y hy hg=> ?_,fun s t qZ=>hlv.2 (h.UT.vj s t (by rw[←hT];exact qZ))⟩,h.name,h.par,fun y hy=> ?_,fun s=>by rw[hT];exact h.QgM s,fun y hy i hi=> ?_,Qfw h hd,fun y hy i hi a ha=> ?_,fun y hy hf=> ?_,fun k y hy hk j i hi a ha=> ?_,fun k y hy hk hf=> ?_,fun k y hy p hp=> ?_⟩,⟨fun t hl=>by rw[hT];exact ht.reach t (hlv.1 hl),fun k y hy p hp s hs=> ?_⟩⟩
 ·obtain⟨x,hx,rfl⟩:=bk hy;rw[hlen];have he:=h.UT.ends x hx hg;unfold O9 at he⊢;show(x.e=0∧_∧(if xL x.e x.v then Qbm d o x.v else x.v)=0∧_)∨_∨_∨(x.e=3∧_∧(if xL x.e x.v then Qbm d o x.v else x.v)=0∧_);rcases he with⟨e,h1,h2,h3⟩|he|he|⟨e,h1,h2,h3⟩
  ·exact .inl ⟨e,h1,by rw[QcA (by unfold xL;omega)];exact h2,h3⟩
  ·exact .inr (.inl he)
  ·exact .inr (.inr (.inl he))
  ·exact .inr (.inr (.inr ⟨e,h1,by rw[QcA (by unfold xL;omega)];exact h2,h3⟩))
 ·obtain⟨x,hx,rfl⟩:=bk hy;obtain⟨h1,h2,h3,h4⟩:=h.UT.gone x hx hg;refine⟨by show(x.ah.filter _).map _=[];rw[h1];rfl,by show x.insts.map _=[];rw[h2];rfl,h3,?_⟩;show(if xL x.e x.v then Qbm d o x.v else x.v)= -1;rw[QcA (by unfold xL;omega)];exact h4
 ·obtain⟨x,hx,rfl⟩:=Lf hy;show(x.ah.filter _).map _=[];rw[h.uJ x hx];rfl
 ·obtain⟨x,hx,rfl⟩:=bk hy;obtain⟨a,ha,rfl⟩:=jd.1 (show i∈x.insts.map _ from hi);have:=h.Xv x hx a ha;unfold bJ at this⊢;show(aU a.op∨a.dst= -1)∧_;have Vh:(QdM d o a).args.length=a.args.length:=by show(a.args.map _).length=_;rw[QjN]
  simp only[Vh];exact this
 ·obtain⟨x,hx,rfl⟩:=bk hy;obtain⟨b,hb,rfl⟩:=jd.1 (show i∈x.insts.map _ from hi);obtain⟨c,hc,rfl⟩:=jd.1 (show a∈b.args.map _ from ha);exact Qnv c (h.iv x hx b hb c hc)
 ·obtain⟨x,hx,rfl⟩:=bk hy;have hf:x.e=1∨(x.e=2∧(if xL x.e x.v then Qbm d o x.v else x.v)≠-1):=hf;show 0≤(if xL x.e x.v then Qbm d o x.v else x.v)∧_;by_cases vi:xL x.e x.v
  ·have hv:0≤x.v∧x.v<va:=h.fv x hx (by unfold xL at vi;omega);show 0≤(if xL x.e x.v then Qbm d o x.v else x.v)∧(if xL x.e x.v then Qbm d o x.v else x.v)<va;rw[dd vi];exact Qnv _ hv
  ·rw[QcA vi]at hf;have hv:0≤x.v∧x.v<va:=h.fv x hx hf;exfalso;unfold xL at vi;omega
 ·obtain⟨x,hx,rfl⟩:=Lf hy;rw[hT]at hk;have hi:(x.insts.map (QdM d o))[j]?=some i:=hi;rw[List.getElem?_map,Jo]at hi;obtain⟨b,hb,rfl⟩:=hi;obtain⟨c,hc,rfl⟩:=jd.1 (show a∈b.args.map _ from ha);exact Qh6 h hd ho hk (h.ins k x hx hk j b hb c hc)
 ·obtain⟨x,hx,rfl⟩:=Lf hy;rw[hT]at hk;have hf:x.e=1∨(x.e=2∧(if xL x.e x.v then Qbm d o x.v else x.v)≠-1):=hf;show rX pa va _ (if xL x.e x.v then Qbm d o x.v else x.v) (k:Int) 20000;by_cases vi:xL x.e x.v
  ·rw[dd vi];exact Qh6 h hd ho hk (h.fin k x hx hk (by unfold xL at vi;omega))
  ·rw[QcA vi]at hf;have hv:0≤x.v∧x.v<va:=h.fv x (Qcs hx) hf;exfalso;unfold xL at vi;omega
 ·obtain⟨x,hx,rfl⟩:=Lf hy;obtain⟨q,hq,rfl⟩:=jd.1 (show p∈(x.ah.filter _).map _ from hp);have hP:=h.pK k x hx q (Qjr.1 hq).1;refine⟨by show(q.args.map _).length=_;rw[QjN];exact hP.len,hP.nd,by rw[hlen];exact hP.yW,fun s hs=>hP.all s (by rw[←hT];exact hs),fun a ha=> ?_,fun i s a hs ha hrs xG=> ?_⟩
  ·obtain⟨c,hc,rfl⟩:=jd.1 (show a∈q.args.map _ from ha);exact Qnv c (hP.QbQ c hc)
  ·have ha:(q.args.map (Qbm d o))[i]?=some a:=ha;rw[List.getElem?_map,Jo]at ha;obtain⟨c,hc,rfl⟩:=ha;rw[hT]at hrs xG;exact Qh6 h hd ho hrs (hP.av i s c hs hc hrs xG)
 ·obtain⟨x,hx,rfl⟩:=Lf hy;obtain⟨q,hq,rfl⟩:=jd.1 (show p∈(x.ah.filter _).map _ from hp);rw[hT];exact ht.bS k x hx q (Qjr.1 hq).1 s hs
end
end Go.Mor
namespace Go.Mor
open Go.RowKit
structure Ctr(U U':Int→ar)(k a:Int):Prop where
 same:∀s,s≠k→s≠a→U' s=U s
 out:U' k=U a
 one:∀t,t∈U k↔t=a
 src:∀s,a∈U s→s=k
 a0:a≠0
 ne:k≠a
theorem Ctr.fwd{U U':Int→ar}{k a:Int}(h:Ctr U U' k a){t:Int}(hr:Reach U' t):Reach U t∧t≠a:=by
 induction hr with
 |zero=>exact⟨.zero,fun e=>h.a0 e.symm⟩
 | @step s t _ ht ih=>
  obtain⟨h1,h2⟩:=ih;by_cases e:s=k
  ·subst e;rw[h.out]at ht;have ha:Reach U a:= .step h1 ((h.one a).2 rfl);exact⟨.step ha ht,fun e=>h.ne ((h.src a (e▸ht)).symm)⟩
  ·rw[h.same s e h2]at ht;exact⟨.step h1 ht,fun e2=>e (h.src s (e2▸ht))⟩
theorem Ctr.bwd{U U':Int→ar}{k a:Int}(h:Ctr U U' k a){t:Int}(hr:Reach U t):(t≠a→Reach U' t)∧(t=a→Reach U' k):=by
 induction hr with
 |zero=>exact⟨fun _=> .zero,fun e=>absurd e.symm h.a0⟩
 | @step s t _ ht ih=>
  by_cases ea:s=a
  ·subst ea;have hk:=ih.2 rfl;exact⟨fun _=> .step hk (by rw[h.out];exact ht),fun _=>hk⟩
  ·by_cases ek:s=k
   ·subst ek;have:=(h.one t).1 ht;exact⟨fun e=>absurd this e,fun _=>ih.1 ea⟩
   ·exact⟨fun _=> .step (ih.1 ea) (by rw[h.same s ek ea];exact ht),fun e=>absurd (h.src s (e▸ht)) ek⟩
theorem Ctr.Cq{U U':Int→ar}{k a:Int}(h:Ctr U U' k a){c:Int}(hc:c≠a):Ctr (Cq U c) (Cq U' c) k a:=⟨fun s h1 h2=>by unfold Go.Mor.Cq;rw[h.same s h1 h2],by unfold Go.Mor.Cq;rw[h.out],fun t=>by rw[im,h.one];exact⟨fun h=>h.1,fun e=>⟨e,fun e2=>hc (e2.symm.trans e)⟩⟩,fun s hs=>h.src s (im.1 hs).1,h.a0,h.ne⟩
theorem Ctr.dm{U U':Int→ar}{k a:Int}(h:Ctr U U' k a){c b:Int}(hc:c≠a)(hb:b≠a):Dm U' c b↔Dm U c b:=by
 unfold Dm;exact not_congr (and_congr Qi1 ⟨fun hr=>((h.Cq hc).fwd hr).1,fun hr=>((h.Cq hc).bwd hr).1 hb⟩)
def oH(a k s:Int):Int:=if s=a then k else s
def QeA(a k:Int)(p:vb):vb:={p with from_:=p.from_.map (oH a k)}
def Qd6(a k:Int)(x:gO):gO:={x with ah:=x.ah.map (QeA a k)}
def QeU(b x:gO):gO:={b with insts:=b.insts++x.insts,e:=x.e,v:=x.v,a:=x.a,b:=x.b}
def vn(k a:Nat)(x:gO)(i:Nat)(y:gO):gO:=if i=k then QeU (Qd6 a k y) x else if i=a then QgN y else Qd6 a k y
def rN(ks:List gO)(k a:Nat)(x:gO):List gO:=ks.zipIdx.map (fun q=>vn k a x q.2 q.1)
theorem rL{ks:List gO}{k a i:Nat}{x y:gO}(hy:ks[i]?=some y):(rN ks k a x)[i]?=some (vn k a x i y):=by
 unfold rN;rw[List.getElem?_map,List.getElem?_zipIdx,hy];simp
theorem sh(ks:List gO)(k a:Nat)(x:gO):(rN ks k a x).length=ks.length:=by simp[rN]
theorem Qeb{ks:List gO}{k a i:Nat}{x z:gO}(hz:(rN ks k a x)[i]?=some z):∃y,ks[i]?=some y∧z=vn k a x i y:=by
 obtain⟨y,hy⟩:=bu (l:=ks) (i:=i) (by rw[←sh ks k a x];exact(List.getElem?_eq_some_iff.1 hz).1);rw[rL hy]at hz;injection hz with hz;exact⟨y,hy,hz.symm⟩
theorem Qdb:∀(l:List Nat) (i:Nat) (v:Nat) {u:Nat},l[i]?=some u→(l.set i v).sum+u=l.sum+v
 |[],i,v,u,h=>by simp at h
 |a::l,0,v,u,h=>by injection h with h;subst h;simp;omega
 |a::l,i+1,v,u,h=>by have:=Qdb l i v (u:=u) h;simp only[QdT,B5];omega
theorem Qh9{l m:List Nat}{k a u v:Nat}(cU:k≠a)(Qf:m.length=l.length)(hk:l[k]?=some u)(ha:l[a]?=some v)(ja:m[k]?=some (u+v))(nQ:m[a]?=some 0)(ho:∀i,i≠k→i≠a→m[i]?=l[i]?):m.sum=l.sum:=by
 have e:m=(l.set k (u+v)).set a 0:=by
  refine QdX fun i=> ?_
  have Vh:=(List.getElem?_eq_some_iff.1 ha).1;have Jm:=(List.getElem?_eq_some_iff.1 hk).1;rw[List.getElem?_set,List.getElem?_set];by_cases e1:a=i
  ·subst e1;rw[dd rfl,u6,dd Vh,nQ]
  ·rw[QcA e1];by_cases e2:k=i
   ·subst e2;rw[dd rfl,dd Jm,ja]
   ·rw[QcA e2];exact ho i (fun h=>e2 h.symm) (fun h=>e1 h.symm)
 have h1:=Qdb l k (u+v) hk;have h2:=Qdb (l.set k (u+v)) a 0 (u:=v) (by rw[List.getElem?_set_ne cU];exact ha);rw[e];omega
structure Jn(nm:cV)(pa va:Int)(ks:List gO)(k a:Nat)(b x:gO):Prop where
 UH:vU nm pa va ks
 tight:EJ ks
 hb:ks[k]?=some b
 hx:ks[a]?=some x
 bg:b.gone=false
 be:b.e=0
 ba:b.a=(a:Int)
 ne:k≠a
 xp:x.ah=[]
 src:∀s,(a:Int)∈tK ks s→s=(k:Int)
 len:b.insts.length+x.insts.length≤20000
section
variable {nm : ByteArray} {pa va : Int} {ks : List gO} {k a : Nat} {b x : gO}
theorem Jn.tk(h:Jn nm pa va ks k a b x):tK ks (k:Int)=[(a:Int)]:=by
 rw[h.UH.UT.at_ h.hb,Qnw h.be,h.ba]
where Qnw {x : gO} (e : x.e = 0) : wL x = [x.a] := by unfold wL; rw [if_pos e]
theorem Jn.a0(h:Jn nm pa va ks k a b x):(a:Int)≠0:=by
 intro e;refine h.UH.QgM (k:Int) ?_;rw[h.tk,e];simp
theorem Jn.xg(h:Jn nm pa va ks k a b x):x.gone=false:=QfU h.hx (h.UH.UT.vj (k:Int) (a:Int) (by rw[h.tk];simp))
theorem QjT(h:Jn nm pa va ks k a b x):tK (rN ks k a x) (k:Int)=tK ks (a:Int)∧tK (rN ks k a x) (a:Int)=[]∧∀s:Int,s≠(k:Int)→s≠(a:Int)→tK (rN ks k a x) s=tK ks s:=by
 refine⟨?_,?_,fun s h1 h2=> ?_⟩
 ·rw[Xj (rL h.hb),Xj h.hx,sh];unfold vn;rw[dd rfl];rfl
 ·rw[Xj (rL h.hx)];unfold vn;rw[QcA (fun e=>h.ne e.symm),dd rfl];exact Qd rfl
 ·by_cases hr:0≤s∧s<(ks.length:Int)
  ·obtain⟨y,hy⟩:=bu (l:=ks) (i:=s.toNat) oM;have e:s=(s.toNat:Int):=oM;rw[e,Xj (rL hy),Xj hy,sh];unfold vn;rw[QcA oM,QcA oM];rfl
  ·have h3:tK ks s=[]:=uI (by rw[QeC];omega);have h4:tK (rN ks k a x) s=[]:=uI (by rw[QeC,sh];omega);rw[h3,h4]
theorem Jn.ctr(h:Jn nm pa va ks k a b x):Ctr (tK ks) (tK (rN ks k a x)) (k:Int) (a:Int):=by
 obtain⟨h1,_,h3⟩:=QjT h;exact⟨fun s e1 e2=>h3 s e1 e2,h1,fun t=>by rw[h.tk];simp,h.src,h.a0,by have:=h.ne;omega⟩
theorem Qbr(h:Jn nm pa va ks k a b x){v c m:Int}:(v,c,m)∈bF (fK (rN ks k a x))↔(c≠(a:Int)∧(v,c,m)∈bF (fK ks))∨(c=(k:Int)∧∃m0:Int,0≤m0∧m0<(x.insts.length:Int)∧m=(b.insts.length:Int)+m0∧(v,(a:Int),m0)∈bF (fK ks)):=by
 rw[sq];constructor
 ·rintro⟨i,z,hz,rfl,hq⟩;obtain⟨w,hw,rfl⟩:=NL hz;obtain⟨y,hy,rfl⟩:=Qeb hw;unfold vn at hq;by_cases ek:i=k
  ·subst ek;rw[dd rfl]at hq;rw[h.hb]at hy;injection hy with hy;subst hy;rcases hq with⟨rfl,p,hp,hd⟩|⟨j,i',hi,hm,hd,rfl⟩
   ·obtain⟨q,hq,rfl⟩:=jd.1 (show p∈((b.ah.map (QeA a i)).map (fun p=>(⟨p.dst,none,0,p.args⟩:bI)))from hp);obtain⟨r,hr,rfl⟩:=jd.1 hq;exact .inl ⟨by have:=h.ne;omega,sq.2 ⟨i,b.f,K3 h.hb,rfl,.inl ⟨rfl,_,jd.2 ⟨r,hr,rfl⟩,hd⟩⟩⟩
   ·have hi:(b.insts++x.insts)[j]?=some i':=hi;by_cases hj:j<b.insts.length
    ·rw[List.getElem?_append_left hj]at hi;exact .inl ⟨by have:=h.ne;omega,sq.2 ⟨i,b.f,K3 h.hb,rfl,.inr ⟨j,i',hi,hm,hd,rfl⟩⟩⟩
    ·rw[List.getElem?_append_right oM]at hi;have hl:=(List.getElem?_eq_some_iff.1 hi).1;exact .inr ⟨rfl,((j-b.insts.length:Nat):Int),oM,oM,oM,sq.2 ⟨a,x.f,K3 h.hx,rfl,.inr ⟨j-b.insts.length,i',hi,hm,hd,rfl⟩⟩⟩
  ·rw[QcA ek]at hq;by_cases ea:i=a
   ·rw[dd ea]at hq;rcases hq with⟨_,p,hp,_⟩|⟨j,i',hi,_⟩
    ·cases(show p∈([]:List bI)from hp)
    ·have:([]:List aO)[j]?=some i':=hi;simp at this
   ·rw[QcA ea]at hq;refine .inl ⟨oM,sq.2 ⟨i,y.f,K3 hy,rfl,?_⟩⟩;rcases hq with⟨rfl,p,hp,hd⟩|hq
    ·obtain⟨q,hq,rfl⟩:=jd.1 (show p∈((y.ah.map (QeA a k)).map (fun p=>(⟨p.dst,none,0,p.args⟩:bI)))from hp);obtain⟨r,hr,rfl⟩:=jd.1 hq;exact .inl ⟨rfl,_,jd.2 ⟨r,hr,rfl⟩,hd⟩
    ·exact .inr hq
 ·rintro(⟨hca,hd⟩|⟨rfl,m0,h0,h1,rfl,hd⟩)
  ·obtain⟨i,z,hz,rfl,hq⟩:=sq.1 hd;obtain⟨y,hy,rfl⟩:=NL hz;refine⟨i,_,K3 (rL hy),rfl,?_⟩;unfold vn;by_cases ek:i=k
   ·subst ek;rw[dd rfl];rcases hq with⟨rfl,p,hp,hdp⟩|⟨j,i',hi,hm,HO,rfl⟩
    ·obtain⟨r,hr,rfl⟩:=jd.1 (show p∈y.ah.map (fun p=>(⟨p.dst,none,0,p.args⟩:bI))from hp);exact .inl ⟨rfl,⟨r.dst,none,0,r.args⟩,jd.2 ⟨QeA a i r,jd.2 ⟨r,hr,rfl⟩,rfl⟩,hdp⟩
    ·refine .inr ⟨j,i',?_,hm,HO,rfl⟩;have hi:y.insts[j]?=some i':=hi;show(y.insts++x.insts)[j]?=_;rw[List.getElem?_append_left (List.getElem?_eq_some_iff.1 hi).1];exact hi
   ·rw[QcA ek,QcA (fun e=>hca (by rw[e]))];rcases hq with⟨rfl,p,hp,hdp⟩|hq
    ·obtain⟨r,hr,rfl⟩:=jd.1 (show p∈y.ah.map (fun p=>(⟨p.dst,none,0,p.args⟩:bI))from hp);exact .inl ⟨rfl,⟨r.dst,none,0,r.args⟩,jd.2 ⟨QeA a k r,jd.2 ⟨r,hr,rfl⟩,rfl⟩,hdp⟩
    ·exact .inr hq
  ·obtain⟨i,z,hz,hi,hq⟩:=sq.1 hd;have:i=a:=oM;subst this;obtain⟨y,hy,rfl⟩:=NL hz;rw[h.hx]at hy;injection hy with hy;subst hy;rcases hq with⟨rfl,_⟩|⟨j,i',ln,hm,HO,rfl⟩
   ·omega
   ·refine⟨k,_,K3 (rL h.hb),rfl,.inr ⟨b.insts.length+j,i',?_,hm,HO,oM⟩⟩;unfold vn;rw[dd rfl];show(b.insts++x.insts)[b.insts.length+j]?=_;rw[List.getElem?_append_right oM,Nat.add_sub_cancel_left];exact ln
theorem Qlw(h:Jn nm pa va ks k a b x){v m:Int}(hd:(v,(a:Int),m)∈bF (fK ks)):0≤m∧m<(x.insts.length:Int):=by
 obtain⟨i,z,hz,hi,hq⟩:=sq.1 hd;have:i=a:=oM;subst this;obtain⟨y,hy,rfl⟩:=NL hz;rw[h.hx]at hy;injection hy with hy;subst hy;rcases hq with⟨_,p,hp,_⟩|⟨j,i',ln,_,_,rfl⟩
 ·have hp:p∈x.ah.map (fun p=>(⟨p.dst,none,0,p.args⟩:bI)):=hp;rw[h.xp]at hp;cases hp
 ·have:=(List.getElem?_eq_some_iff.1 ln).1;have:j<x.insts.length:=this;omega
theorem Qod(h:Jn nm pa va ks k a b x){v m:Int}(hd:(v,(k:Int),m)∈bF (fK ks)):m<(b.insts.length:Int):=by
 obtain⟨i,z,hz,hi,hq⟩:=sq.1 hd;have:i=k:=oM;subst this;obtain⟨y,hy,rfl⟩:=NL hz;rw[h.hb]at hy;injection hy with hy;subst hy;rcases hq with⟨rfl,_⟩|⟨j,i',ln,_,_,rfl⟩
 ·omega
 ·have:=(List.getElem?_eq_some_iff.1 ln).1;have:j<b.insts.length:=this;omega
theorem Qlx(b x:gO)(hp:x.ah=[])(a k:Int):(QeU (Qd6 a k b) x).f.ah.map (fun p=>p.dst)=b.f.ah.map (fun p=>p.dst)∧nu (QeU (Qd6 a k b) x).f=nu b.f++nu x.f:=by
 have e1:(QeU (Qd6 a k b) x).f.ah.map (fun p=>p.dst)=b.f.ah.map (fun p=>p.dst):=by show((b.ah.map (QeA a k)).map _).map _=(b.ah.map _).map _;rw[Qcn,Qcn,Qcn];rfl
 refine⟨e1,?_⟩;unfold nu;rw[e1];show _++((b.insts++x.insts).filter _).map _=(_++(b.insts.filter _).map _)++((x.ah.map _).map _++(x.insts.filter _).map _);rw[xH,Qjy,hp];simp
theorem Qed(h:Jn nm pa va ks k a b x):ey pa va (bF (fK (rN ks k a x))):=by
 refine⟨fun d hd=> ?_,?_⟩
 ·obtain⟨v,c,m⟩:=d;rcases(Qbr h).1 hd with⟨_,h1⟩|⟨_,m0,_,_,_,h1⟩
  ·exact h.UH.once.1 _ h1
  ·exact h.UH.once.1 (v,(a:Int),m0) h1
 ·have h2:=h.UH.once.2;rw[pf]at h2⊢;rw[List.nodup_iff_count]at h2⊢;intro u;rw[List.count_flatMap];have h3:=h2 u;rw[List.count_flatMap]at h3;refine pX (Nat.le_of_eq ?_) h3;have at_:∀{l:List gO} {i:Nat} {y:gO},l[i]?=some y→((fK l).map (List.count u∘nu))[i]?=some (List.count u (nu y.f)):=fun {l i y} hy=>by rw[List.getElem?_map,K3 hy];rfl
  refine Qh9 h.ne (by rw[QjN,QjN,QjN,QjN,sh]) (at_ h.hb) (at_ h.hx) ?_ ?_ fun i CO ff=> ?_
  ·rw[at_ (rL h.hb)];unfold vn;rw[dd rfl,(Qlx b x h.xp a k).2,List.count_append]
  ·rw[at_ (rL h.hx)];unfold vn;rw[QcA (fun e=>h.ne e.symm),dd rfl];rfl
  ·cases hy:ks[i]? with
   |none=>
    have hl:=List.getElem?_eq_none_iff.1 hy;rw[List.getElem?_eq_none (by rw[QjN,QjN,sh];exact hl),List.getElem?_eq_none (by rw[QjN,QjN];exact hl)]
   |some y=>
    rw[at_ (rL hy),at_ hy];unfold vn;rw[QcA CO,QcA ff];congr 2;unfold nu;congr 1;show((y.ah.map (QeA a k)).map _).map _=(y.ah.map _).map _;rw[Qcn,Qcn,Qcn];rfl
end
end Go.Mor
namespace Go.Mor
open Go.RowKit
section
variable {nm : ByteArray} {pa va : Int} {ks : List gO} {k a : Nat} {b x : gO}
theorem Jn.dka(h:Jn nm pa va ks k a b x):Dm (tK ks) (k:Int) (a:Int):=Qkz h.src h.a0
theorem Jn.ra(h:Jn nm pa va ks k a b x):Reach (tK ks) (a:Int):=h.tight.reach _ (.mk' h.hx h.xg)
theorem QeV(h:Jn nm pa va ks k a b x){v c q:Int}(hca:c≠(a:Int))(hr:Reach (tK ks) c)(ha:rX pa va ks v c q):rX pa va (rN ks k a x) v c q:=by
 obtain⟨h1,h2,h3⟩:=(u3 h.UH.once.2).1 ha;refine(u3 (Qed h).2).2 ⟨h1,h2,h3.imp id fun⟨e,m,hd,h4⟩=> ?_⟩;by_cases ea:e=(a:Int)
 ·subst ea;obtain⟨m0,m1⟩:=Qlw h hd;refine⟨(k:Int),_,(Qbr h).2 (.inr ⟨rfl,m,m0,m1,rfl,hd⟩),?_⟩;rcases h4 with⟨h4,_⟩|⟨_,h4⟩
  ·exact absurd h4.symm hca
  ·right;refine⟨fun e=> ?_,(h.ctr.dm (by have:=h.ne;omega) hca).2 (h.dka.trans h4)⟩;subst e;have:=Dm.Qns (Dm.reach hr h4) h.dka h4;have:=h.ne;omega
 ·exact⟨e,m,(Qbr h).2 (.inl ⟨ea,hd⟩),h4.imp id fun⟨q1,q2⟩=>⟨q1,(h.ctr.dm ea hca).2 q2⟩⟩
theorem QfE(h:Jn nm pa va ks k a b x){v q q':Int}(hq:∀m:Int,0≤m→m<(x.insts.length:Int)→m<q→(b.insts.length:Int)+m<q')(Fp:(b.insts.length:Int)≤q')(ha:rX pa va ks v (a:Int) q):rX pa va (rN ks k a x) v (k:Int) q':=by
 have hka:(k:Int)≠(a:Int):=by have:=h.ne;omega
 obtain⟨h1,h2,h3⟩:=(u3 h.UH.once.2).1 ha;refine(u3 (Qed h).2).2 ⟨h1,h2,h3.imp id fun⟨e,m,hd,h4⟩=> ?_⟩;by_cases ea:e=(a:Int)
 ·subst ea;obtain⟨m0,m1⟩:=Qlw h hd;rcases h4 with⟨_,h4⟩|⟨h4,_⟩
  ·exact⟨(k:Int),_,(Qbr h).2 (.inr ⟨rfl,m,m0,m1,rfl,hd⟩),.inl ⟨rfl,hq m m0 m1 h4⟩⟩
  ·exact absurd rfl h4
 ·have h5:Dm (tK ks) e (a:Int):=by
   rcases h4 with⟨h4,_⟩|⟨_,h4⟩
   ·exact absurd h4 ea
   ·exact h4
  refine⟨e,m,(Qbr h).2 (.inl ⟨ea,hd⟩),?_⟩;by_cases ek:e=(k:Int)
  ·subst ek;have:=Qod h hd;exact .inl ⟨rfl,oM⟩
  ·refine .inr ⟨ek,(h.ctr.dm ea hka).2 ?_⟩;rintro⟨e0,hr⟩;exact h5 ⟨e0,.step hr (im.2 ⟨by rw[h.tk];simp,fun e2=>ea e2.symm⟩)⟩
theorem QcF{a k s:Int}(h:s≠a):oH a k s=s:=by unfold oH;rw[QcA h]
theorem Qki(h:Jn nm pa va ks k a b x):vU nm pa va (rN ks k a x)∧EJ (rN ks k a x):=by
 have hg:=h.UH;have hc:=hg.UT;have hka:(k:Int)≠(a:Int):=by have:=h.ne;omega
 obtain⟨t1,t2,t3⟩:=QjT h;have hct:=h.ctr;have Na:Reach (tK ks) (k:Int):=h.tight.reach _ (.mk' h.hb h.bg);have who:∀{i:Nat} {z:gO},(rN ks k a x)[i]?=some z→(i=k∧z=QeU (Qd6 a k b) x)∨(i≠k∧i=a∧z=QgN x)∨(i≠k∧i≠a∧∃y,ks[i]?=some y∧z=Qd6 a k y):=by
  intro i z hz;obtain⟨y,hy,rfl⟩:=Qeb hz;unfold vn;by_cases ek:i=k
  ·subst ek;rw[h.hb]at hy;injection hy with hy;subst hy;rw[dd rfl];exact .inl ⟨rfl,rfl⟩
  ·rw[QcA ek];by_cases ea:i=a
   ·subst ea;rw[h.hx]at hy;injection hy with hy;subst hy;rw[dd rfl];exact .inr (.inl ⟨ek,rfl,rfl⟩)
   ·rw[QcA ea];exact .inr (.inr ⟨ek,ea,y,hy,rfl⟩)
 have hlv:∀{t:Int},mB (rN ks k a x) t↔mB ks t∧t≠(a:Int):=by
  intro t;constructor
  ·rintro⟨i,z,rfl,hz,BB⟩;rcases who hz with⟨rfl,rfl⟩|⟨_,rfl,rfl⟩|⟨_,ha,y,hy,rfl⟩
   ·exact⟨.mk' h.hb h.bg,hka⟩
   ·cases BB
   ·exact⟨.mk' hy BB,oM⟩
  ·rintro⟨⟨i,y,rfl,hy,hgy⟩,cU⟩;refine .mk' (rL hy) ?_;unfold vn;by_cases ek:i=k
   ·subst ek;rw[h.hb]at hy;injection hy with hy;subst hy;rw[dd rfl];exact h.bg
   ·rw[QcA ek,QcA (fun e=>cU (by rw[e]))];exact hgy
 have hrc:∀{t:Int},Reach (tK (rN ks k a x)) t→Reach (tK ks) t∧t≠(a:Int):=fun hr=>hct.fwd hr
 have VS:∀{i:Nat} {y:gO} {p:vb},ks[i]?=some y→p∈y.ah→i≠a→QhX pa va (rN ks k a x) i (QeA a k p)∧∀s,s∈(QeA a k p).from_→(i:Int)∈tK (rN ks k a x) s:=by
  intro i y p hy hp hia;have hP:=hg.pK i y hy p hp;have hS:=h.tight.bS i y hy p hp;have LF:(k:Int)∉p.from_:=fun hk=>by have:=hS _ hk;rw[h.tk,QcC]at this;omega
  have Hx:∀s,s∈p.from_→(i:Int)∈tK (rN ks k a x) (oH a k s):=by
   intro s hs;have h1:=hS s hs;by_cases e:s=(a:Int)
   ·subst e;unfold oH;rw[dd rfl,t1];exact h1
   ·rw[QcF e,t3 s (fun e2=>LF (e2▸hs)) e];exact h1
  refine⟨⟨?_,?_,fun s hs=> ?_,fun s hs=> ?_,hP.QbQ,fun j s v hs hv hrs xG=> ?_⟩,fun s hs=> ?_⟩
  ·show p.args.length=(p.from_.map _).length;rw[QjN];exact hP.len
  ·show(p.from_.map (oH a k)).Nodup;rw[QjE,gS];refine(QjE.1 hP.nd).imp_of_mem fun {s t} hs ht qZ e=>qZ ?_
   unfold oH at e;by_cases e1:s=(a:Int)
   ·by_cases e2:t=(a:Int)
    ·rw[e1,e2]
    ·rw[dd e1,QcA e2]at e;exact absurd (e▸ht) LF
   ·by_cases e2:t=(a:Int)
    ·rw[QcA e1,dd e2]at e;exact absurd (e▸hs) LF
    ·rwa [QcA e1,QcA e2]at e
  ·obtain⟨t,ht,rfl⟩:=jd.1 (show s∈p.from_.map (oH a k)from hs);rw[sh];unfold oH;split
   ·have:=(List.getElem?_eq_some_iff.1 h.hb).1;omega
   ·exact hP.yW t ht
  ·show s∈p.from_.map (oH a k);have hsa:s≠(a:Int):=by rintro rfl;rw[t2]at hs;cases hs
   by_cases e:s=(k:Int)
   ·subst e;rw[t1]at hs;exact jd.2 ⟨(a:Int),hP.all _ hs,by unfold oH;rw[dd rfl]⟩
   ·rw[t3 s e hsa]at hs;exact jd.2 ⟨s,hP.all s hs,QcF hsa⟩
  ·have hs:(p.from_.map (oH a k))[j]?=some s:=hs;rw[List.getElem?_map,Jo]at hs;obtain⟨t,ht,rfl⟩:=hs;have htm:=Qcs ht;have Dz:=hS t htm;by_cases e:t=(a:Int)
   ·subst e;have h5:=hP.av j _ v ht hv h.ra Dz;unfold oH;rw[dd rfl];have hl:=h.len;exact QfE h (fun m _ h7 _=>oM) oM h5
   ·rw[QcF e]at hrs⊢;exact QeV h e (hrc hrs).1 (hP.av j t v ht hv (hrc hrs).1 Dz)
  ·obtain⟨t,ht,rfl⟩:=jd.1 (show s∈p.from_.map (oH a k)from hs);exact Hx t ht
 refine⟨⟨⟨hlv.2 ⟨hc.zero,fun e=>h.a0 e.symm⟩,fun z hz BB=> ?_,fun z hz BB=> ?_,fun s t ht=> ?_⟩,hg.name,hg.par,fun z hz=> ?_,fun s hs=> ?_,fun z hz i hi=> ?_,Qed h,fun z hz i hi v hv=> ?_,fun z hz hf=> ?_,fun n z hz hk j i hi v hv=> ?_,fun n z hz hk hf=> ?_,fun n z hz p hp=> ?_⟩,⟨fun t hl=> ?_,fun n z hz p hp s hs=> ?_⟩⟩
 ·obtain⟨i,hi⟩:=jF.1 hz;rw[sh];rcases who hi with⟨rfl,rfl⟩|⟨_,rfl,rfl⟩|⟨_,_,y,hy,rfl⟩
  ·exact hc.ends x (Qcs h.hx) h.xg
  ·cases BB
  ·exact hc.ends y (Qcs hy) BB
 ·obtain⟨i,hi⟩:=jF.1 hz;rcases who hi with⟨rfl,rfl⟩|⟨_,rfl,rfl⟩|⟨_,_,y,hy,rfl⟩
  ·rw[show(QeU (Qd6 a i b) x).gone=b.gone from rfl,h.bg]at BB;cases BB
  ·exact⟨rfl,rfl,rfl,rfl⟩
  ·obtain⟨h1,h2,h3,h4⟩:=hc.gone y (Qcs hy) BB;exact⟨by show y.ah.map _=[];rw[h1];rfl,h2,h3,h4⟩
 ·refine hlv.2 ?_;have hsa:s≠(a:Int):=by rintro rfl;rw[t2]at ht;cases ht
  by_cases e:s=(k:Int)
  ·subst e;rw[t1]at ht;exact⟨hc.vj _ _ ht,fun e=>hka ((h.src _ (e▸ht)).symm)⟩
  ·rw[t3 s e hsa]at ht;exact⟨hc.vj _ _ ht,fun e2=>e (h.src s (e2▸ht))⟩
 ·have Ij:a≠0:=by have:=h.a0;omega
  rcases who hz with⟨e,rfl⟩|⟨_,e,rfl⟩|⟨_,_,y,hy,rfl⟩
  ·show b.ah.map _=[];rw[hg.uJ b (by rw[e];exact h.hb)];rfl
  ·exact absurd e.symm Ij
  ·show y.ah.map _=[];rw[hg.uJ y hy];rfl
 ·have hsa:s≠(a:Int):=by rintro rfl;rw[t2]at hs;cases hs
  by_cases e:s=(k:Int)
  ·subst e;rw[t1]at hs;exact hg.QgM _ hs
  ·rw[t3 s e hsa]at hs;exact hg.QgM _ hs
 ·obtain⟨n,hn⟩:=jF.1 hz;rcases who hn with⟨rfl,rfl⟩|⟨_,rfl,rfl⟩|⟨_,_,y,hy,rfl⟩
  ·rcases QiU.1 (show i∈b.insts++x.insts from hi)with hi|hi
   ·exact hg.Xv b (Qcs h.hb) i hi
   ·exact hg.Xv x (Qcs h.hx) i hi
  ·cases hi
  ·exact hg.Xv y (Qcs hy) i hi
 ·obtain⟨n,hn⟩:=jF.1 hz;rcases who hn with⟨rfl,rfl⟩|⟨_,rfl,rfl⟩|⟨_,_,y,hy,rfl⟩
  ·rcases QiU.1 (show i∈b.insts++x.insts from hi)with hi|hi
   ·exact hg.iv b (Qcs h.hb) i hi v hv
   ·exact hg.iv x (Qcs h.hx) i hi v hv
  ·cases hi
  ·exact hg.iv y (Qcs hy) i hi v hv
 ·obtain⟨n,hn⟩:=jF.1 hz;rcases who hn with⟨rfl,rfl⟩|⟨_,rfl,rfl⟩|⟨_,_,y,hy,rfl⟩
  ·exact hg.fv x (Qcs h.hx) hf
  ·rcases hf with hf|⟨_,hf⟩
   ·have h9:(2:Int)=1:=hf;omega
   ·exact absurd (show(-1:Int)= -1 from rfl) hf
  ·exact hg.fv y (Qcs hy) hf
 ·have Qkj:=hrc hk;rcases who hz with⟨rfl,rfl⟩|⟨_,rfl,rfl⟩|⟨_,hna,y,hy,rfl⟩
  ·have hi:(b.insts++x.insts)[j]?=some i:=hi;by_cases hj:j<b.insts.length
   ·rw[List.getElem?_append_left hj]at hi;exact QeV h hka Qkj.1 (hg.ins n b h.hb Qkj.1 j i hi v hv)
   ·rw[List.getElem?_append_right oM]at hi;have h5:=hg.ins a x h.hx h.ra _ i hi v hv;exact QfE h (fun m _ _ h8=>oM) oM h5
  ·cases(show([]:List aO)[j]?=some i from hi)
  ·exact QeV h oM Qkj.1 (hg.ins n y hy Qkj.1 j i hi v hv)
 ·have Qkj:=hrc hk;rcases who hz with⟨rfl,rfl⟩|⟨_,rfl,rfl⟩|⟨_,hna,y,hy,rfl⟩
  ·have h5:=hg.fin a x h.hx h.ra hf;have hl:=h.len;exact QfE h (fun m _ h7 _=>oM) oM h5
  ·rcases hf with hf|⟨_,hf⟩
   ·have h9:(2:Int)=1:=hf;omega
   ·exact absurd (show(-1:Int)= -1 from rfl) hf
  ·exact QeV h oM Qkj.1 (hg.fin n y hy Qkj.1 hf)
 ·rcases who hz with⟨rfl,rfl⟩|⟨_,rfl,rfl⟩|⟨_,hna,y,hy,rfl⟩
  ·obtain⟨q,hq,rfl⟩:=jd.1 (show p∈b.ah.map (QeA a n)from hp);exact(VS h.hb hq h.ne).1
  ·cases hp
  ·obtain⟨q,hq,rfl⟩:=jd.1 (show p∈y.ah.map (QeA a k)from hp);exact(VS hy hq hna).1
 ·obtain⟨h1,h2⟩:=hlv.1 hl;exact(hct.bwd (h.tight.reach t h1)).1 h2
 ·rcases who hz with⟨rfl,rfl⟩|⟨_,rfl,rfl⟩|⟨_,hna,y,hy,rfl⟩
  ·obtain⟨q,hq,rfl⟩:=jd.1 (show p∈b.ah.map (QeA a n)from hp);exact(VS h.hb hq h.ne).2 s hs
  ·cases hp
  ·obtain⟨q,hq,rfl⟩:=jd.1 (show p∈y.ah.map (QeA a k)from hp);exact(VS hy hq hna).2 s hs
theorem Qkk(h:Jn nm pa va ks k a b x):hY (fK (rN ks k a x))=hY (fK ks):=by
 rw[vR,vR,sh];congr 1;have at_:∀{l:List gO} {i:Nat} {y:gO},l[i]?=some y→(l.map (fun x=>x.ah.length+x.insts.length))[i]?=some (y.ah.length+y.insts.length):=fun {l i y} hy=>by rw[List.getElem?_map,hy];rfl
 refine Qh9 h.ne (by rw[QjN,QjN,sh]) (at_ h.hb) (at_ h.hx) ?_ ?_ fun i CO ff=> ?_
 ·rw[at_ (rL h.hb)];unfold vn;rw[dd rfl];show some ((b.ah.map _).length+(b.insts++x.insts).length)=_;rw[QjN,rV,h.xp];simp;omega
 ·rw[at_ (rL h.hx)];unfold vn;rw[QcA (fun e=>h.ne e.symm),dd rfl];rfl
 ·cases hy:ks[i]? with
  |none=>
   have hl:=List.getElem?_eq_none_iff.1 hy;rw[List.getElem?_eq_none (by rw[QjN,sh];exact hl),List.getElem?_eq_none (by rw[QjN];exact hl)]
  |some y=>
   rw[at_ (rL hy),at_ hy];unfold vn;rw[QcA CO,QcA ff];show some ((y.ah.map _).length+_)=_;rw[QjN];rfl
end
end Go.Mor
namespace Go.Mor
open Go.RowKit
def QcG(σ:Int→Int)(p:vb):vb:={p with args:=p.args.map σ}
def QeZ(σ:Int→Int)(i:aO):aO:={i with args:=i.args.map σ}
def BC(σ:Int→Int)(x:gO):gO:={x with ah:=x.ah.map (QcG σ),insts:=x.insts.map (QeZ σ),v:=if xL x.e x.v then σ x.v else x.v}
def um(σ:Int→Int)(ks:List gO):List gO:=ks.map (BC σ)
section
variable {ks : List gO} {σ : Int → Int} {k a : Nat} {b x y : gO} {nm : ByteArray} {pa va : Int}
theorem Qbn(hx:ks[k]?=some x):(um σ ks)[k]?=some (BC σ x):=by unfold um;rw[List.getElem?_map,hx];rfl
theorem QfF(σ:Int→Int)(ks:List gO):tK (um σ ks)=tK ks:=by
 refine lJ ?_;unfold um;rw[Qcn,Qcn,Qcn];rfl
theorem Qly(hx:ks[a]?=some x)(l:List vb):tK (ks.set a {x with ah:=l})=tK ks:=by
 refine lJ ?_;rw[Qcn,Qcn];refine QdX fun i=> ?_
 rw[List.getElem?_map,List.getElem?_map,List.getElem?_set];have hl:=(List.getElem?_eq_some_iff.1 hx).1;by_cases e:a=i
 ·subst e;rw[dd rfl,dd hl,hx];rfl
 ·rw[QcA e]
theorem QgC(hx:ks[a]?=some x)(l:List vb):(ks.set a {x with ah:=l})[a]?=some {x with ah:=l}:=List.getElem?_set_self (List.getElem?_eq_some_iff.1 hx).1
theorem Qlz{p:vb}{ps:List vb}{d o:Int}(hx:ks[a]?=some x)(hd:p.dst=d)(hz:∀y,y∈ks→xL y.e y.v→0≤σ y.v)(UN:∀q,q∈ps→q.dst≠d)(hot:∀(i:Nat) (y:gO),i≠a→ks[i]?=some y→∀q,q∈y.ah→q.dst≠d):Lc d o (um σ (ks.set a {x with ah:=p::ps}))=um (link σ d o) (ks.set a {x with ah:=ps}):=by
 have hl:=(List.getElem?_eq_some_iff.1 hx).1;have hI:∀l:List aO,(l.map (QeZ σ)).map (QdM d o)=l.map (QeZ (link σ d o)):=fun l=>by
  rw[Qcn];refine Qch fun i _=> ?_
  show QdM d o (QeZ σ i)=QeZ (link σ d o) i;unfold QdM QeZ;simp only[Qcn];rfl
 have hP:∀l:List vb,(∀q,q∈l→q.dst≠d)→((l.map (QcG σ)).filter (fun p=>p.dst !=d)).map (QhD d o)=l.map (QcG (link σ d o)):=fun l hq=>by
  rw[QjO.2 fun q hm=>by obtain⟨r,hr,rfl⟩:=jd.1 hm;have:=hq r hr;show(r.dst !=d)=true;simpa using this,Qcn]
  refine Qch fun i _=> ?_
  show QhD d o (QcG σ i)=QcG (link σ d o) i;unfold QhD QcG;simp only[Qcn];rfl
 have hV:∀(e v:Int),(xL e v→0≤σ v)→(if xL e (if xL e v then σ v else v)then Qbm d o (if xL e v then σ v else v)else(if xL e v then σ v else v))=if xL e v then link σ d o v else v:=by
  intro e v h;by_cases hr:xL e v
  ·have h2:xL e (σ v):=by have h3:=h hr;unfold xL at hr⊢;omega
   simp only[dd hr,dd h2];rfl
  ·simp only[QcA hr]
 unfold Lc um;rw[Qcn];refine QdX fun i=> ?_
 rw[List.getElem?_map,List.getElem?_map,List.getElem?_set,List.getElem?_set];by_cases e:a=i
 ·subst e;rw[dd rfl,dd hl,dd rfl,dd hl];refine Qi9 some ?_;show Qez d o (BC σ {x with ah:=p::ps})=BC (link σ d o) {x with ah:=ps};unfold Qez BC;simp only[gO.mk.injEq,pQ,D2];refine⟨?_,hI _,hV _ _ (hz x (Qcs hx))⟩;rw[lR,Qjz,QcA (by show¬(p.dst !=d)=true;simp[hd])];exact hP ps UN
 ·rw[QcA e,QcA e];cases hy:ks[i]? with
  |none=>rfl
  |some y=>
   refine Qi9 some ?_;show Qez d o (BC σ y)=BC (link σ d o) y;unfold Qez BC;simp only[gO.mk.injEq,pQ,D2];exact⟨hP _ (hot i y (fun h=>e h.symm) hy),hI _,hV _ _ (hz y (Qcs hy))⟩
def stJ(σ:Int→Int)(p:vb):Int→Int:=link σ p.dst (σ (p.args.getD 0 0))
def Qkl(σ:Int→Int)(x:gO):Int→Int:=x.ah.foldl stJ σ
def Te(va v:Int):Prop:=0≤v∧v<va
structure LkQ(va:Int)(τ:Int→Int)(p:vb)(u:Int):Prop where
 args:p.args=[u]
 ur:Te va u
 d:Te va p.dst
 ne:τ u≠p.dst
 own:τ p.dst=p.dst
def Qc9(ks:List gO)(k a:Nat)(x:gO):List gO:=rN (ks.set a {x with ah:=[]}) k a {x with ah:=[]}
theorem QjU(h:ey pa va (bF (fK ks))){i:Nat}(hx:ks[a]?=some x)(hy:ks[i]?=some y){p q:vb}{m n:Nat}(hp:x.ah[m]?=some p)(hq:y.ah[n]?=some q)(e:p.dst=q.dst):a=i∧m=n:=by
 have h1:(p.dst,(a:Int),(-1:Int))∈bF (fK ks):=sq.2 ⟨a,x.f,K3 hx,rfl,.inl ⟨rfl,_,jd.2 ⟨p,Qcs hp,rfl⟩,rfl⟩⟩;have h2:(p.dst,(i:Int),(-1:Int))∈bF (fK ks):=sq.2 ⟨i,y.f,K3 hy,rfl,.inl ⟨rfl,_,jd.2 ⟨q,Qcs hq,rfl⟩,e.symm⟩⟩;have e1:=(xB h.2).2 h1;have e2:=(xB h.2).2 h2;rw[e1]at e2;injection e2 with e2;injection e2 with e2 _;have e3:a=i:=oM;subst e3;rw[hx]at hy;injection hy with hy;subst hy;refine⟨rfl,?_⟩;have hn:=h.2;rw[pf]at hn;have hs:(nu x.f).Nodup:=hn.sublist (Qeu (Qcs (K3 hx)));have hs:=(Tg.1 hs).1;have hs:((x.ah.map (fun p=>(⟨p.dst,none,0,p.args⟩:bI))).map (fun p=>p.dst)).Nodup:=hs;rw[Qcn]at hs;have g1:(x.ah.map ((fun p:bI=>p.dst)∘fun p=>(⟨p.dst,none,0,p.args⟩:bI)))[m]?=some p.dst:=by rw[List.getElem?_map,hp];rfl
 have g2:(x.ah.map ((fun p:bI=>p.dst)∘fun p=>(⟨p.dst,none,0,p.args⟩:bI)))[n]?=some p.dst:=by rw[List.getElem?_map,hq,e];rfl
 exact(List.getElem?_inj (List.getElem?_eq_some_iff.1 g1).1 hs).1 (g1.trans g2.symm)
theorem Qmr{ks:List gO}{k a:Nat}{p:vb}(hP:QhX pa va ks a p)(o8:∀s,s∈p.from_→s=(k:Int))(hk:(a:Int)∈tK ks (k:Int)):p.from_=[(k:Int)]∧∃v,p.args=[v]:=by
 have hm:=hP.all _ hk;have hf:p.from_=[(k:Int)]:=by
  match Mh:p.from_,hP.nd,o8,hm with
  |[],_,_,h=>cases h
  |[s],_,hi,_=>rw[hi s sI]
  |s::t::l,hn,hi,_=>
   have h1:=hi s sI;have h2:=hi t sI;rw[h1,h2]at hn;simp at hn
 refine⟨hf,Qms ?_⟩;rw[hP.len,hf];rfl
where Qms {l : List Int} (h : l.length = 1) : ∃ v, l = [v] := List.length_eq_one_iff.1 h
end
end Go.Mor
namespace Go.Mor
open Go.RowKit
section
variable {ks : List gO} {σ : Int → Int} {k a : Nat} {b x y : gO} {nm : ByteArray} {pa va : Int}
theorem QlA(hy:(um σ ks)[k]?=some y):∃x,ks[k]?=some x∧y=BC σ x:=by
 unfold um at hy;rw[List.getElem?_map,Jo]at hy;obtain⟨x,hx,rfl⟩:=hy;exact⟨x,hx,rfl⟩
theorem QhE(h:ks[a]?=some x)(cU:k≠a):rN (um σ ks) k a (BC σ x)=um σ (rN ks k a x):=by
 refine QdX fun i=> ?_
 cases hy:ks[i]? with
 |none=>
  have hl:=List.getElem?_eq_none_iff.1 hy;rw[List.getElem?_eq_none (by rw[sh];unfold um;rw[QjN];exact hl),List.getElem?_eq_none (by unfold um;rw[QjN,sh];exact hl)]
 |some y=>
  rw[rL (Qbn hy),Qbn (rL hy)];congr 1;have QlB:∀y:gO,Qd6 a k (BC σ y)=BC σ (Qd6 a k y):=fun y=>by unfold Qd6 BC;simp only[Qcn,gO.mk.injEq,pQ,D2];rfl
  unfold vn;by_cases e:i=k
  ·rw[dd e,dd e,QlB];unfold QeU BC;simp only[Qjy]
  ·rw[QcA e,QcA e];by_cases e2:i=a
   ·rw[dd e2,dd e2];unfold QgN BC;rfl
   ·rw[QcA e2,QcA e2,QlB]
theorem Ch.Qng{to:ar}{d v r u:Int}{k:Nat}(h:Ch to v r k)(hd:Ch to d d 0)(hr:r≠d):Ch (to.set d.toNat u) v r k:=by
 have Uy:=hd.lt;induction h with
 | @zero v h0 hv=>exact .zero h0 (by rw[List.getElem?_set_ne oM];exact hv)
 | @step v u r k h0 hv QlC hc ih=>
  have hvd:v≠d:=by
   rintro rfl;obtain⟨_,u',hu,h2⟩:=hd.get;rw[hv]at hu;injection hu with hu;subst hu;rcases h2 with⟨e,_,_⟩|⟨_,j,e,_⟩
   ·exact QlC e
   ·cases e
  exact .step h0 (by rw[List.getElem?_set_ne oM];exact hv) QlC (ih hr)
theorem Ch.QoV{to:ar}{d v r u s:Int}{k m:Nat}(h:Ch to v r k)(hr:r=d)(hd:Ch to d d 0)(hu:Ch (to.set d.toNat u) u s m)(cU:u≠d):∃n,Ch (to.set d.toNat u) v s n:=by
 have Uy:=hd.lt;induction h with
 | @zero v h0 hv=>
  subst hr;exact⟨m+1,.step h0 (by rw[List.getElem?_set_self oM]) cU hu⟩
 | @step v u' r k h0 hv QlC hc ih=>
  have hvd:v≠d:=by
   rintro rfl;obtain⟨_,w,hw,h2⟩:=hd.get;rw[hv]at hw;injection hw with hw;subst hw;rcases h2 with⟨e,_,_⟩|⟨_,j,e,_⟩
   ·exact QlC e
   ·cases e
  obtain⟨n,hn⟩:=ih hr;exact⟨n+1,.step h0 (by rw[List.getElem?_set_ne oM];exact hv) QlC hn⟩
theorem Le.put{va d u:Int}{D:Int→Prop}{to:ar}{σ:Int→Int}(h:Le va D to σ)(hd:D d)(hu:D u)(e:σ d=d)(cU:σ u≠d):Le va D (to.set d.toNat u) (link σ d (σ u)):=by
 have h1:=h.root hd e;have TL:u≠d:=by rintro rfl;exact cU e
 obtain⟨m,hm⟩:=h.ch u hu;have dY:=hm.Qng (u:=u) h1 cU;refine⟨by rw[u6];exact h.len,fun v hv=> ?_,fun v hv=> ?_⟩
 ·obtain⟨k,hk⟩:=h.ch v hv;unfold link;by_cases e2:σ v=d
  ·rw[dd e2];exact hk.QoV e2 h1 dY TL
  ·rw[QcA e2];exact⟨k,hk.Qng h1 e2⟩
 ·unfold link;split
  ·exact h.cl u hu
  ·exact h.cl v hv
theorem QjV(hx:ks[a]?=some x)(hk:k≠a)(h0:a≠0)(hs:∀s,(a:Int)∈tK ks s→s=(k:Int))(hka:(a:Int)∈tK ks (k:Int))(hzr:∀y,y∈ks→xL y.e y.v→Te va y.v):∀(ps:List vb) (σ:Int→Int),vU nm pa va (um σ (ks.set a {x with ah:=ps}))→EJ (um σ (ks.set a {x with ah:=ps}))→(∀v,Te va v→Te va (σ v))→(∀q,q∈ps→∀u,u∈q.args→Te va u)→(∀q,q∈ps→σ q.dst=q.dst)→(∀(i:Nat) (y:gO),i≠a→ks[i]?=some y→∀q,q∈y.ah→σ q.dst=q.dst)→vU nm pa va (um (ps.foldl stJ σ) (ks.set a {x with ah:=[]}))∧EJ (um (ps.foldl stJ σ) (ks.set a {x with ah:=[]}))∧(∀v,Te va v→Te va (ps.foldl stJ σ v))∧(∀(i:Nat) (y:gO),i≠a→ks[i]?=some y→∀q,q∈y.ah→ps.foldl stJ σ q.dst=q.dst)∧∀(j:Nat) (p:vb),ps[j]?=some p→∃u,LkQ va ((ps.take j).foldl stJ σ) p u
 |[],_,hg,ht,hz,_,_,hoy=>⟨hg,ht,hz,hoy,fun j p hj=>by simp at hj⟩
 |p::ps,σ,hg,ht,hz,Qoe,qf,hoy=>by
  rw[List.foldl_cons];have hT:tK (um σ (ks.set a {x with ah:=p::ps}))=tK ks:=by rw[QfF,Qly hx]
  have LM:=Qbn (σ:=σ) (QgC hx (p::ps));have hlv:mB (um σ (ks.set a {x with ah:=p::ps})) (a:Int):=hg.UT.vj (k:Int) _ (by rw[hT];exact hka);have IH:=ht.reach _ hlv;have YQ:Reach (tK (um σ (ks.set a {x with ah:=p::ps}))) (k:Int):=ht.reach _ (hg.UT.src (by rw[hT];exact hka));have nG:QcG σ p∈(BC σ {x with ah:=p::ps}).ah:=jd.2 ⟨p,en ..,rfl⟩;have hP:=hg.pK a _ LM _ nG;obtain⟨hf,v,hv⟩:=Qmr hP (fun s h=>hs s (by rw[←hT];exact ht.bS a _ LM _ nG s h)) (by rw[hT];exact hka);have Hn:p.args.map σ=[v]:=hv;obtain⟨u,hu,rfl⟩:∃u,p.args=[u]∧σ u=v:=by
   match hl:p.args with
   |[]=>rw[hl]at Hn;cases Hn
   |[u]=>rw[hl]at Hn;injection Hn with h1 _;exact⟨u,rfl,h1⟩
   |_::_::_=>rw[hl]at Hn;injection Hn with _ h1;cases h1
  have XT:=hP.av 0 (k:Int) (σ u) (by rw[hf];rfl) (by rw[hv];rfl) YQ (by rw[hT];exact hka);have ho:=Qmp hg (fun s h=>hs s (by rw[←hT];exact h)) h0 hk IH XT;have hd:(p.dst,(a:Int),(-1:Int))∈bF (fK (um σ (ks.set a {x with ah:=p::ps}))):=sq.2 ⟨a,_,K3 LM,rfl,.inl ⟨rfl,⟨p.dst,none,0,p.args.map σ⟩,jd.2 ⟨QcG σ p,nG,rfl⟩,rfl⟩⟩;have yy:σ u≠p.dst:=Qmq hg hd ho;have QU:=Qk1 hg ht hd ho;have X9:=hg.once.1 _ hd;have Ua:∀y,y∈ks→xL y.e y.v→0≤σ y.v:=fun y hy hr=>(hz _ (hzr y hy hr)).1
  have UN:∀q,q∈ps→q.dst≠p.dst:=fun q hq e=>by
   obtain⟨j,hj⟩:=jF.1 hq;have h1:(BC σ {x with ah:=p::ps}).ah[0]?=some (QcG σ p):=rfl;have h2:(BC σ {x with ah:=p::ps}).ah[j+1]?=some (QcG σ q):=by show((p::ps).map (QcG σ))[j+1]?=_;rw[List.getElem?_map,List.getElem?_cons_succ,hj];rfl
   have:=(QjU hg.once LM LM h1 h2 e.symm).2;omega
  have hot:∀(i:Nat) (y:gO),i≠a→ks[i]?=some y→∀q,q∈y.ah→q.dst≠p.dst:=fun i y hi hy q hq e=>by
   obtain⟨j,hj⟩:=jF.1 hq;have h1:(BC σ {x with ah:=p::ps}).ah[0]?=some (QcG σ p):=rfl;have hyi:(um σ (ks.set a {x with ah:=p::ps}))[i]?=some (BC σ y):=Qbn (by rw[List.getElem?_set_ne (fun e=>hi e.symm)];exact hy);have h2:(BC σ y).ah[j]?=some (QcG σ q):=by show(y.ah.map (QcG σ))[j]?=_;rw[List.getElem?_map,hj];rfl
   exact hi (QjU hg.once LM hyi h1 h2 e.symm).1.symm
  rw[Qlz hx rfl Ua UN hot]at QU;have e0:stJ σ p=link σ p.dst (σ u):=by unfold stJ;rw[hu];rfl
  have yE:∀q:vb,q.dst≠p.dst→σ q.dst=q.dst→link σ p.dst (σ u) q.dst=q.dst:=fun q h1 h2=>by unfold link;rw[h2,QcA h1]
  have hu1:Te va u:=Qoe p (en ..) u (by rw[hu];simp);rw[e0];obtain⟨g1,g2,g3,g4,g5⟩:=QjV hx hk h0 hs hka hzr ps (link σ p.dst (σ u)) QU.1 QU.2 (fun v hv=>by unfold link;split;exact hz u hu1;exact hz v hv) (fun q hq=>Qoe q (QiV _ hq)) (fun q hq=>yE q (UN q hq) (qf q (QiV _ hq))) (fun i y hi hy q hq=>yE q (hot i y hi hy q hq) (hoy i y hi hy q hq));refine⟨g1,g2,g3,g4,fun j r hj=> ?_⟩;cases j with
  |zero=>
   injection hj with hj;subst hj;refine⟨u,hu,hu1,⟨?_,X9.2⟩,yy,qf _ (en ..)⟩;have:=hg.par.1;have:=X9.1;show 0≤p.dst;have h9:pa≤p.dst:=this;omega
  |succ j=>
   rw[List.take_succ_cons,List.foldl_cons,e0];exact g5 j r hj
structure Qmt(ks:List gO)(k a:Nat)(b x:gO):Prop where
 hb:ks[k]?=some b
 hx:ks[a]?=some x
 bg:b.gone=false
 be:b.e=0
 ba:b.a=(a:Int)
 ne:k≠a
 src:∀s,(a:Int)∈tK ks s→s=(k:Int)
theorem QgD(σ:Int→Int)(ks:List gO):hY (fK (um σ ks))=hY (fK ks):=by
 rw[vR,vR];unfold um;rw[QjN,Qcn];congr 2;refine Qch fun x _=> ?_
 show(x.ah.map _).length+(x.insts.map _).length=_;rw[QjN,QjN]
theorem QlD(hx:ks[a]?=some x):hY (fK (ks.set a {x with ah:=[]}))≤hY (fK ks):=by
 rw[vR,vR,u6];have:=XV (f:=fun x:gO=>x.ah.length+x.insts.length) (g:=fun x:gO=>x.ah.length+x.insts.length) (l:=ks) (m:=ks.set a {x with ah:=[]}) ⟨by rw[u6],fun i y z hy hz=>by
  rw[List.getElem?_set]at hz;split at hz
  ·rename_i e;subst e;split at hz
   ·injection hz with hz;subst hz;rw[hx]at hy;injection hy with hy;subst hy;show 0+x.insts.length≤x.ah.length+x.insts.length;omega
   ·cases hz
  ·rw[hy]at hz;injection hz with hz;subst hz;exact Qjn _⟩
 omega
end
end Go.Mor
namespace Go.Mor
open Go.RowKit
structure JQ(nm:cV)(pa va:Int)(ks:List gO)(σ:Int→Int):Prop where
 UH:vU nm pa va (um σ ks)
 tight:EJ (um σ ks)
 sg:∀v,Te va v→Te va (σ v)
 own:∀y,y∈ks→∀q,q∈y.ah→σ q.dst=q.dst
 pr:∀y,y∈ks→∀q,q∈y.ah→∀u,u∈q.args→Te va u
 ir:∀y,y∈ks→∀i,i∈y.insts→∀u,u∈i.args→Te va u
 er:∀y,y∈ks→xL y.e y.v→Te va y.v
 size:(hY (fK ks):Int)≤20000
theorem Qe0{α:Type}{l:List α}{i:Nat}{x:α}(h:l[i]?=some x):l.set i x=l:=by
 refine QdX fun j=> ?_
 rw[List.getElem?_set];split
 ·rename_i e;subst e;rw[dd (List.getElem?_eq_some_iff.1 h).1,h]
 ·rfl
theorem QjW:∀(l:List Nat) (a:Nat),a∈l→a≤l.sum
 |[],a,h=>by cases h
 |b::l,a,h=>by
  rw[B5];rcases Qcx.1 h with h|h
  ·omega
  ·have:=QjW l a h;omega
theorem Qkm{l:List Nat}{k a u v:Nat}(cU:k≠a)(hk:l[k]?=some u)(ha:l[a]?=some v):u+v≤l.sum:=by
 have h1:=Qdb l k 0 hk;have h2:=QjW (l.set k 0) v (Qcs (i:=a) (by rw[List.getElem?_set_ne cU];exact ha));omega
section
variable {ks : List gO} {σ : Int → Int} {k a : Nat} {b x y : gO} {nm : ByteArray} {pa va : Int}
theorem JQ.live(h:JQ nm pa va ks σ){s t:Int}(ht:t∈tK ks s):mB ks t:=by
 obtain⟨i,z,rfl,hz,hg⟩:=h.UH.UT.vj s t (by rw[QfF];exact ht);obtain⟨x,hx,rfl⟩:=QlA hz;exact .mk' hx hg
theorem JQ.vj(h:JQ nm pa va ks σ)(hx:ks[k]?=some x):tK ks (k:Int)=wL x:=by
 have:=h.UH.UT.at_ (Qbn (σ:=σ) hx);rw[QfF]at this;rw[this];rfl
theorem Qmu(h:ks[a]?=some x){i:Nat}{y:gO}(hy:(ks.set a {x with ah:=[]})[i]?=some y):(i=a∧y={x with ah:=[]})∨(i≠a∧ks[i]?=some y):=by
 rw[List.getElem?_set]at hy;split at hy
 ·rename_i e;split at hy
  ·injection hy with hy;exact .inl ⟨e.symm,hy.symm⟩
  ·cases hy
 ·rename_i e;exact .inr ⟨fun h=>e h.symm,hy⟩
theorem QcH(hb:ks[k]?=some b)(hx:ks[a]?=some x)(cU:k≠a){i:Nat}{z:gO}(hz:(Qc9 ks k a x)[i]?=some z):(i=k∧z=QeU (Qd6 a k b) {x with ah:=[]})∨(i=a∧z=QgN x)∨(i≠k∧i≠a∧∃y,ks[i]?=some y∧z=Qd6 a k y):=by
 obtain⟨y,hy,rfl⟩:=Qeb hz;unfold vn;rcases Qmu hx hy with⟨rfl,rfl⟩|⟨hia,hy⟩
 ·rw[QcA (fun e=>cU e.symm),dd rfl];exact .inr (.inl ⟨rfl,rfl⟩)
 ·by_cases e:i=k
  ·subst e;rw[dd rfl];rw[hb]at hy;injection hy with hy;subst hy;exact .inl ⟨rfl,rfl⟩
  ·rw[QcA e,QcA hia];exact .inr (.inr ⟨e,hia,y,hy,rfl⟩)
theorem Qde(hb:ks[k]?=some b)(hx:ks[a]?=some x)(cU:k≠a):(Qc9 ks k a x)[k]?=some (QeU (Qd6 a k b) {x with ah:=[]}):=by
 have h:(ks.set a {x with ah:=[]})[k]?=some b:=by rw[List.getElem?_set_ne (fun e=>cU e.symm)];exact hb
 unfold Qc9;rw[rL h];unfold vn;rw[dd rfl]
theorem Qe1(hx:ks[a]?=some x)(cU:k≠a):(Qc9 ks k a x)[a]?=some (QgN x):=by
 unfold Qc9;rw[rL (QgC hx [])];unfold vn;rw[QcA (fun e=>cU e.symm),dd rfl];rfl
theorem Qe2{i:Nat}(hy:ks[i]?=some y)(ft:i≠k)(hia:i≠a):(Qc9 ks k a x)[i]?=some (Qd6 a k y):=by
 have h:(ks.set a {x with ah:=[]})[i]?=some y:=by rw[List.getElem?_set_ne (fun e=>hia e.symm)];exact hy
 unfold Qc9;rw[rL h];unfold vn;rw[QcA ft,QcA hia]
theorem QcI(ks:List gO)(k a:Nat)(x:gO):(Qc9 ks k a x).length=ks.length:=by
 unfold Qc9;rw[sh,u6]
theorem QhF(h:JQ nm pa va ks σ)(hc:Qmt ks k a b x):JQ nm pa va (Qc9 ks k a x) (Qkl σ x)∧∀(j:Nat) (p:vb),x.ah[j]?=some p→∃u,LkQ va ((x.ah.take j).foldl stJ σ) p u:=by
 have hka:(a:Int)∈tK ks (k:Int):=by rw[h.vj hc.hb];unfold wL;rw[dd hc.be,hc.ba];simp
 have Ij:a≠0:=by rintro rfl;exact h.UH.QgM (k:Int) (by rw[QfF];exact hka)
 have e0:ks.set a {x with ah:=x.ah}=ks:=Qe0 hc.hx;have pj:=Qcs hc.hx;have hbm:=Qcs hc.hb;obtain⟨g1,g2,g3,g4,g5⟩:=QjV hc.hx hc.ne Ij hc.src hka h.er x.ah σ (by rw[e0];exact h.UH) (by rw[e0];exact h.tight) h.sg (h.pr x pj) (h.own x pj) (fun i y _ hy=>h.own y (Qcs hy));have jv:=h.size;have Zw:=QlD hc.hx;have TH:(ks.set a {x with ah:=[]})[k]?=some b:=by rw[List.getElem?_set_ne (fun e=>hc.ne e.symm)];exact hc.hb
 have hjn:Jn nm pa va (um (Qkl σ x) (ks.set a {x with ah:=[]})) k a (BC (Qkl σ x) b) (BC (Qkl σ x) {x with ah:=[]}):=by
  refine⟨g1,g2,Qbn TH,Qbn (QgC hc.hx []),hc.bg,hc.be,hc.ba,hc.ne,rfl,fun s hs=>hc.src s ?_,?_⟩
  ·rw[QfF,Qly hc.hx]at hs;exact hs
  ·show(b.insts.map _).length+(x.insts.map _).length≤_;rw[QjN,QjN];have h1:=vR ks;have h2:(b.ah.length+b.insts.length)+(x.ah.length+x.insts.length)≤_:=Qkm (l:=ks.map (fun x=>x.ah.length+x.insts.length)) hc.ne (by rw[List.getElem?_map,hc.hb];rfl) (by rw[List.getElem?_map,hc.hx];rfl);omega
 have hm:=Qki hjn;rw[QhE (QgC hc.hx []) hc.ne]at hm;refine⟨⟨hm.1,hm.2,g3,fun y hy q hq=> ?_,fun y hy q hq=> ?_,fun y hy i hi=> ?_,fun y hy hr=> ?_,?_⟩,g5⟩
 ·obtain⟨i,hi⟩:=jF.1 hy;rcases QcH hc.hb hc.hx hc.ne hi with⟨rfl,rfl⟩|⟨rfl,rfl⟩|⟨_,h2,z,hz,rfl⟩
  ·obtain⟨r,hr,rfl⟩:=jd.1 (show q∈b.ah.map _ from hq);exact g4 i b hc.ne hc.hb r hr
  ·cases hq
  ·obtain⟨r,hr,rfl⟩:=jd.1 (show q∈z.ah.map _ from hq);exact g4 i z h2 hz r hr
 ·obtain⟨i,hi⟩:=jF.1 hy;rcases QcH hc.hb hc.hx hc.ne hi with⟨rfl,rfl⟩|⟨rfl,rfl⟩|⟨_,h2,z,hz,rfl⟩
  ·obtain⟨r,hr,rfl⟩:=jd.1 (show q∈b.ah.map _ from hq);exact h.pr b hbm r hr
  ·cases hq
  ·obtain⟨r,hr,rfl⟩:=jd.1 (show q∈z.ah.map _ from hq);exact h.pr z (Qcs hz) r hr
 ·obtain⟨n,hn⟩:=jF.1 hy;rcases QcH hc.hb hc.hx hc.ne hn with⟨rfl,rfl⟩|⟨rfl,rfl⟩|⟨_,h2,z,hz,rfl⟩
  ·rcases QiU.1 (show i∈b.insts++x.insts from hi)with hi|hi
   ·exact h.ir b hbm i hi
   ·exact h.ir x pj i hi
  ·cases hi
  ·exact h.ir z (Qcs hz) i hi
 ·obtain⟨n,hn⟩:=jF.1 hy;rcases QcH hc.hb hc.hx hc.ne hn with⟨rfl,rfl⟩|⟨rfl,rfl⟩|⟨_,h2,z,hz,rfl⟩
  ·exact h.er x pj hr
  ·exfalso;unfold xL at hr;have h1:(2:Int)=1∨((2:Int)=2∧(0:Int)≤-1):=hr;omega
  ·exact h.er z (Qcs hz) hr
 ·have h1:=Qkk hjn;rw[QhE (QgC hc.hx []) hc.ne,QgD,QgD]at h1;show(hY (fK (rN _ k a _)):Int)≤_;rw[h1];omega
end
end Go.Mor
namespace Go.Mor
open Go.RowKit
theorem Qht{x:gO}(h:x.e=0):wL x=[x.a]:=by unfold wL;rw[dd h]
theorem Qhu{x:gO}(h0:¬x.e=0)(h:x.e=1):wL x=[x.a,x.b]:=by unfold wL;rw[QcA h0,dd h]
theorem Qhv{x:gO}(h0:¬x.e=0)(h:¬x.e=1):wL x=[]:=by unfold wL;rw[QcA h0,QcA h]
theorem Qd9(x:gO):(wL x).length≤2:=by unfold wL;split;simp;split<;>simp
def QgT(N:Int)(x:gO):Prop:=x.gone=false→O9 N x
theorem Qea{N:Int}{x:gO}(h:O9 N x):(wL x).Nodup∧∀t,t∈wL x→0≤t∧t<N:=by
 unfold wL;rcases h with⟨e,h1,_⟩|⟨e,h1,h2,h3⟩|⟨e,_⟩|⟨e,_⟩
 ·rw[dd e];exact⟨sI,by intro t ht;rw[QcC.1 ht];exact h1⟩
 ·rw[QcA oM,dd e];refine⟨by simp[h3],?_⟩;intro t ht;rcases Qcx.1 ht with rfl|ht
  ·exact h1
  ·rw[QcC.1 ht];exact h2
 ·rw[QcA oM,QcA oM];exact⟨sI,sI⟩
 ·rw[QcA oM,QcA oM];exact⟨sI,sI⟩
def BL(ks:List gO)(n:Nat)(t:Int):ar:=((List.range n).filter (fun s=>match ks[s]? with
 |some x=> !x.gone&&(wL x).contains t
 |none=>false)).map (fun s:Nat=>(s:Int))
def QbC(ks:List gO)(n:Nat):List ar:=(List.range ks.length).map (fun t:Nat=>BL ks n (t:Int))
def QbD(ks:List gO)(n:Nat)(l:ar):List ar:=(List.range ks.length).map (fun t:Nat=>BL ks n (t:Int)++(if(t:Int)∈l then[(n:Int)]else[]))
def Qge(ks:List gO):List ar:=(List.range ks.length).map (fun t:Nat=>EU ks (t:Int))
section
variable {ks : List gO} {n : Nat} {x : gO}
theorem Qen(ks:List gO):QbC ks 0=List.replicate ks.length []:=by
 unfold QbC BL;simp only[List.range_zero,ep,Qi3];exact List.map_const' ..|>.trans (by rw[Qdc])
theorem Qe7(ks:List gO)(n:Nat):QbD ks n []=QbC ks n:=by
 unfold QbD QbC;refine Qch fun t _=> ?_
 simp
theorem Qca(hx:ks[n]?=some x)(t:Int):BL ks (n+1) t=BL ks n t++(if(!x.gone&&(wL x).contains t)=true then[(n:Int)]else[]):=by
 unfold BL;rw[lh,xH,Qjy];congr 1;rw[Qjz,hx];simp only[ep];split<;>rfl
theorem Qeo(hx:ks[n]?=some x)(hg:x.gone=true):QbC ks (n+1)=QbC ks n:=by
 unfold QbC;refine Qch fun t _=> ?_
 rw[Qca hx,hg];simp
theorem Qe8(hx:ks[n]?=some x)(hg:x.gone=false):QbD ks n (wL x)=QbC ks (n+1):=by
 unfold QbD QbC;refine Qch fun t _=> ?_
 rw[Qca hx,hg];congr 1;simp
theorem Qe9{l:ar}{t:Nat}(ht:t<ks.length)(hn:(t:Int)∉l):(QbD ks n l)[t]?=some (BL ks n (t:Int)):=by
 unfold QbD;rw[List.getElem?_map,List.getElem?_range ht];simp[hn]
theorem Qfa{l:ar}{t:Nat}(ht:t<ks.length)(_hn:(t:Int)∉l):(QbD ks n l).set t (BL ks n (t:Int)++[(n:Int)])=QbD ks n (l++[(t:Int)]):=by
 unfold QbD;refine QdX fun i=> ?_
 by_cases hi:i<ks.length
 ·by_cases e:t=i
  ·subst e;rw[List.getElem?_set_self (by simpa using ht),List.getElem?_map,List.getElem?_range ht];simp
  ·rw[List.getElem?_set_ne e,List.getElem?_map,List.getElem?_map,List.getElem?_range hi];have:¬(i:Int)=(t:Int):=oM;simp[this]
 ·rw[List.getElem?_eq_none (by simp;omega),List.getElem?_eq_none (by simp;omega)]
theorem Qdj(ks:List gO)(n:Nat)(t:Int):(BL ks n t).length≤n:=by
 unfold BL;rw[QjN];exact pX (Qjt _ _) sI
theorem Qfb(ks:List gO)(t:Int):(EU ks t).length≤ks.length:=Qdj ks ks.length t
theorem Qfc{t:Nat}(ht:t<ks.length):(Qge ks)[t]?=some (EU ks (t:Int)):=by
 unfold Qge;rw[List.getElem?_map,List.getElem?_range ht];rfl
theorem QgE(ks:List gO):(Qge ks).length=ks.length:=by simp[Qge]
theorem Qfd{l:ar}(hn:l.Nodup){j:Nat}{t:Int}(h:l[j]?=some t):t∉l.take j:=by
 intro hm;obtain⟨i,hi⟩:=jF.1 hm;have h1:i<j:=by have:=(List.getElem?_eq_some_iff.1 hi).1;rw[QjL]at this;omega
 rw[List.getElem?_take,dd h1]at hi;have:=(List.getElem?_inj (List.getElem?_eq_some_iff.1 hi).1 hn).1 (hi.trans h.symm);omega
end
def kpL(S:ar)(p:vb)(j:Nat):List (Int×Int):=((p.from_.zip p.args).take j).filter (fun q=>S.contains q.1)
section
variable {S : List Int} {p : vb} {j : Nat} {s a : Int}
theorem Qfe{l m:ar}(hs:l[j]?=some s)(ha:m[j]?=some a):(l.zip m)[j]?=some (s,a):=by
 rw[List.getElem?_zip_eq_some];exact⟨hs,ha⟩
theorem Qgf(hs:p.from_[j]?=some s)(ha:p.args[j]?=some a)(h:S.contains s=true):kpL S p (j+1)=kpL S p j++[(s,a)]:=by
 obtain⟨hk,he⟩:=List.getElem?_eq_some_iff.1 (Qfe hs ha);unfold kpL;rw[QjK hk,xH,he,Qjz,dd h];rfl
theorem QgU(hs:p.from_[j]?=some s)(ha:p.args[j]?=some a)(h:S.contains s=false):kpL S p (j+1)=kpL S p j:=by
 obtain⟨hk,he⟩:=List.getElem?_eq_some_iff.1 (Qfe hs ha);unfold kpL;rw[QjK hk,xH,he,Qjz,QcA (by rw[h];decide)];simp
theorem Qgg:(kpL S p j).length≤j:=by
 unfold kpL;exact pX (Qjt _ _) (by rw[QjL];omega)
theorem Qgh(hl:p.args.length=p.from_.length)(hj:p.from_.length≤j):ke S p=⟨p.dst,(kpL S p j).map (·.1),(kpL S p j).map (·.2)⟩:=by
 unfold ke kpL;rw[uK (by rw[List.length_zip];omega)]
end
def sm(S:ar)(p:vb)(j:Nat):ar:=(kpL S p j).map (·.1)
def zn(S:ar)(p:vb)(j:Nat):ar:=(kpL S p j).map (·.2)
section
variable {S : List Int} {p : vb} {j : Nat} {s a : Int}
theorem Qgi(hs:p.from_[j]?=some s)(ha:p.args[j]?=some a)(h:S.contains s=true):sm S p (j+1)=sm S p j++[s]∧zn S p (j+1)=zn S p j++[a]:=by
 unfold sm zn;rw[Qgf hs ha h];simp
theorem QgV(hs:p.from_[j]?=some s)(ha:p.args[j]?=some a)(h:S.contains s=false):sm S p (j+1)=sm S p j∧zn S p (j+1)=zn S p j:=by
 unfold sm zn;rw[QgU hs ha h];exact⟨rfl,rfl⟩
theorem Qgj:(sm S p j).length≤j∧(zn S p j).length=(sm S p j).length:=by
 unfold sm zn;rw[QjN,QjN];exact⟨Qgg,rfl⟩
end
theorem Qff:∀{l:List cI} {m:Nat} {p:cI},l[m]?=some p→∀(A1 A2:aX) (c1 c2:Nat) (f a:ar),((zc l).set (m*3+1) (vS A1 f.length c1)).set (m*3+2) (vS A2 a.length c2)=zc (l.set m ⟨p.dst,A1,c1,f,A2,c2,a⟩)
 |[],m,p,h,_,_,_,_,_,_=>by simp at h
 |q::l,0,p,h,A1,A2,c1,c2,f,a=>by injection h with h;subst h;rfl
 |q::l,m+1,p,h,A1,A2,c1,c2,f,a=>by
  have ih:=Qff (l:=l) (m:=m) h A1 A2 c1 c2 f a;have e:∀(q:cI) (l:List cI),zc (q::l)=q.cells++zc l:=fun _ _=>rfl
  rw[QdT,e,e,←ih,show(m+1)*3+1=q.cells.length+(m*3+1)by rw[xM];omega,show(m+1)*3+2=q.cells.length+(m*3+2)by rw[xM];omega];rw[Qjc _ _ oM,Qjc _ _ oM];simp
def Xr(ml:List Bool):Nat:=(ml.filter (fun b=> !b)).length
structure QbE(ks:List gO)(ml:List Bool)(o9:ar):Prop where
 len:ml.length=ks.length
 zero:ml.getD 0 false=true
 sub:∀t:Nat,ml.getD t false=true→Reach (tK ks) (t:Int)
 wy:∀t,t∈o9→0≤t∧t<(ks.length:Int)∧ml.getD t.toNat false=true
 cl:∀s:Nat,ml.getD s false=true→(s:Int)∈o9∨∀t:Int,t∈tK ks (s:Int)→ml.getD t.toNat false=true
structure QbF(ks:List gO)(b:Nat)(l:ar)(ml:List Bool)(o9:ar):Prop where
 len:ml.length=ks.length
 zero:ml.getD 0 false=true
 sub:∀t:Nat,ml.getD t false=true→Reach (tK ks) (t:Int)
 wy:∀t,t∈o9→0≤t∧t<(ks.length:Int)∧ml.getD t.toNat false=true
 at_:Reach (tK ks) (b:Int)
 done:∀t,t∈l→ml.getD t.toNat false=true
 cl:∀s:Nat,ml.getD s false=true→(s:Int)∈o9∨s=b∨∀t:Int,t∈tK ks (s:Int)→ml.getD t.toNat false=true
theorem Qdk:∀{ml:List Bool} {t:Nat},ml[t]?=some false→Xr (ml.set t true)+1=Xr ml
 |[],t,h=>by simp at h
 |b::ml,0,h=>by injection h with h;subst h;simp[Xr]
 |b::ml,t+1,h=>by
  have h1:=Qdk (ml:=ml) (t:=t) h;have key:∀l:List Bool,Xr (b::l)=Xr l+(if b then 0 else 1):=fun l=>by unfold Xr;cases b<;>simp
  rw[QdT,key,key];omega
section
variable {ks : List gO} {ml : List Bool} {o9 l : List Int} {b : Nat} {t : Int}
theorem QdK(ml:List Bool)(t s:Nat)(ht:t<ml.length):(ml.set t true).getD s false=true↔s=t∨ml.getD s false=true:=by
 rw[List.getD_eq_getElem?_getD,List.getElem?_set];by_cases e:t=s
 ·subst e;rw[dd rfl,dd ht];simp
 ·rw[QcA e,←List.getD_eq_getElem?_getD];exact⟨.inr,fun h=>h.resolve_left (fun e2=>e e2.symm)⟩
theorem QbE.start(hc:Pf ks):QbE ks ((List.replicate ks.length false).set 0 true) [0]:=by
 have h0:0<ks.length:=by obtain⟨i,x,_,hx,_⟩:=hc.zero;have:=(List.getElem?_eq_some_iff.1 hx).1;omega
 have key:∀s:Nat,((List.replicate ks.length false).set 0 true).getD s false=true→s=0:=by
  intro s h;rcases(QdK _ 0 s (by simpa using h0)).1 h with h|h
  ·exact h
  ·exfalso;rw[List.getD_eq_getElem?_getD,List.getElem?_replicate]at h;split at h<;>cases h
 have hz:((List.replicate ks.length false).set 0 true).getD 0 false=true:=(QdK _ 0 0 (by simpa using h0)).2 (.inl rfl);refine⟨sI,hz,fun t ht=> ?_,fun t ht=> ?_,fun s hs=> ?_⟩
 ·rw[key t ht];exact .zero
 ·rw[QcC.1 ht];exact⟨oM,oM,hz⟩
 ·rw[key s hs];exact .inl sI
theorem QbE.pop(h:QbE ks ml (o9++[(b:Int)])):QbF ks b [] ml o9:=by
 have hb:=h.wy (b:Int) sI;refine⟨h.len,h.zero,h.sub,fun t ht=>h.wy t (by simp[ht]),h.sub b (by simpa using hb.2.2),fun t ht=>(by cases ht),fun s hs=> ?_⟩;rcases h.cl s hs with h1|h1
 ·rcases QiU.1 h1 with h1|h1
  ·exact .inl h1
  ·exact .inr (.inl (by have:=QcC.1 h1;omega))
 ·exact .inr (.inr h1)
theorem QbF.old(h:QbF ks b l ml o9)(hm:ml.getD t.toNat false=true):QbF ks b (l++[t]) ml o9:=⟨h.len,h.zero,h.sub,h.wy,h.at_,fun s hs=>by
  rcases QiU.1 hs with hs|hs
  ·exact h.done s hs
  ·rw[QcC.1 hs];exact hm,h.cl⟩
theorem QbF.new(h:QbF ks b l ml o9)(ht:t∈tK ks (b:Int))(h0:0≤t)(h1:t<(ks.length:Int)):QbF ks b (l++[t]) (ml.set t.toNat true) (o9++[t]):=by
 have hl:=h.len;have hs:=fun s=>QdK ml t.toNat s oM
 have hr:Reach (tK ks) t:= .step h.at_ ht;refine⟨by simp[h.len],(hs 0).2 (.inr h.zero),fun s hm=> ?_,fun s hm=> ?_,h.at_,fun s hm=> ?_,fun s hm=> ?_⟩
 ·rcases(hs s).1 hm with e|e
  ·rw[e,QiT h0];exact hr
  ·exact h.sub s e
 ·rcases QiU.1 hm with hm|hm
  ·obtain⟨q1,q2,q3⟩:=h.wy s hm;exact⟨q1,q2,(hs _).2 (.inr q3)⟩
  ·rw[QcC.1 hm];exact⟨h0,h1,(hs _).2 (.inl rfl)⟩
 ·rcases QiU.1 hm with hm|hm
  ·exact(hs _).2 (.inr (h.done s hm))
  ·rw[QcC.1 hm];exact(hs _).2 (.inl rfl)
 ·rcases(hs s).1 hm with e|e
  ·exact .inl (by rw[e,QiT h0];simp)
  ·rcases h.cl s e with q|q|q
   ·exact .inl (by simp[q])
   ·exact .inr (.inl q)
   ·exact .inr (.inr fun u hu=>(hs _).2 (.inr (q u hu)))
theorem QbF.fin(h:QbF ks b l ml o9)(hl:tK ks (b:Int)=l):QbE ks ml o9:=⟨h.len,h.zero,h.sub,h.wy,fun s hs=>by
  rcases h.cl s hs with q|q|q
  ·exact .inl q
  ·exact .inr (by rw[q,hl];exact h.done)
  ·exact .inr q⟩
theorem QbE.done(h:QbE ks ml [])(hc:Pf ks)(t:Nat):ml.getD t false=true↔Reach (tK ks) (t:Int):=by
 refine⟨h.sub t,fun hr=> ?_⟩;have key:∀x:Int,Reach (tK ks) x→ml.getD x.toNat false=true:=by
  intro x hx;induction hx with
  |zero=>exact h.zero
  | @step x t hx ht ih=>
   obtain⟨i,z,rfl,_,_⟩:=Jw hc hx;rcases h.cl i (by simpa using ih)with q|q
   ·cases q
   ·exact q t ht
 simpa using key _ hr
end
theorem Qbu{w:World}{A:aX}{ad:Addr}{k:Nat}{gs:List bz}{x:bz}(h:(bo.rd A (jA gs)).holds w)(hA:A=some ad)(hx:gs[k]?=some x):w.cell? (ad.add (k*1))=some (vP (aZ x.g)):=bB h hA (by unfold jA;rw[List.getElem?_map,hx];rfl)
theorem Qgk(ml:List Bool):Xr ml≤ml.length:=Qjt _ _
def Qgl(x:bz):Prop:=x.ah.length≤20000∧∀p,p∈x.ah→p.args.length=p.from_.length∧p.from_.length≤20000
abbrev Oa(x:bz):bz:=⟨x.g,none,0,[],none,0,[],2,-1,x.a,x.b,true⟩
theorem QgW(x:bz):Qgl (Oa x):=⟨Qdv _,fun p hp=>(by cases hp)⟩
theorem Qhw{ks:List gO}{k:Nat}{x:bz}(hr:¬Reach (tK ks) (k:Int))(hg:x.gone=false):(Oa x).k=sj ks k x.k:=by
 unfold sj;rw[dd ⟨hr,hg⟩];rfl
theorem QgX{ks:List gO}{k:Nat}{x:bz}(h:¬(¬Reach (tK ks) (k:Int)∧x.gone=false)):x.k=sj ks k x.k:=by
 unfold sj;rw[QcA (show¬(¬Reach (tK ks) (k:Int)∧x.k.gone=false)from h)]
theorem Qcb{ks:List gO}{k:Nat}{x:gO}{tb tb':Bool}(hx:ks[k]?=some x)(h:tb=true↔∃(i:Nat) (x:gO),i<k∧ks[i]?=some x∧x.gone=false∧¬Reach (tK ks) (i:Int))(h':tb'=true↔tb=true∨(x.gone=false∧¬Reach (tK ks) (k:Int))):tb'=true↔∃(i:Nat) (x:gO),i<k+1∧ks[i]?=some x∧x.gone=false∧¬Reach (tK ks) (i:Int):=by
 rw[h',h];constructor
 ·rintro(⟨i,y,h1,h2⟩|h1)
  ·exact⟨i,y,oM,h2⟩
  ·exact⟨k,x,oM,hx,h1⟩
 ·rintro⟨i,y,h1,h2,h3⟩;by_cases e:i=k
  ·subst e;rw[hx]at h2;injection h2 with h2;subst h2;exact .inr h3
  ·exact .inl ⟨i,y,oM,h2,h3⟩
theorem Qfg{ks:List gO}{k:Nat}{tb:Bool}(hk:ks.length≤k)(h:tb=true↔∃(i:Nat) (x:gO),i<k∧ks[i]?=some x∧x.gone=false∧¬Reach (tK ks) (i:Int)):tb=sW ks:=by
 have h2:sW ks=true↔∃(i:Nat) (x:gO),ks[i]?=some x∧x.gone=false∧¬Reach (tK ks) (i:Int):=by unfold sW;exact @decide_eq_true_iff _ (Classical.propDecidable _)
 rw[xJ,h,h2];exact⟨fun⟨i,x,_,h⟩=>⟨i,x,h⟩,fun⟨i,x,h⟩=>⟨i,x,by have:=(List.getElem?_eq_some_iff.1 h.1).1;omega,h⟩⟩
theorem QdL{ks:List gO}(hc:Pf ks):∀x,x∈o1 ks→QgT (ks.length:Int) x:=by
 intro y hy hg;obtain⟨k,hk⟩:=jF.1 hy;obtain⟨x,hx⟩:=bu (l:=ks) (i:=k) (by rw[←BV ks];exact(List.getElem?_eq_some_iff.1 hk).1);rw[BM hx]at hk;injection hk with hk;subst hk;unfold sj at hg⊢;split at hg
 ·cases hg
 ·rename_i h;rw[QcA h];exact hc.ends x (Qcs hx) hg
theorem Qdl{ks hd:List gO}{k:Nat}{x y:gO}(hh:hd=(kg ks).take k)(hx:(o1 ks)[k]?=some x)(hy:y=K8 (EU (o1 ks) (k:Int)) x):hd++[y]=(kg ks).take (k+1):=by
 have h1:(kg ks)[k]?=some (K8 (EU (o1 ks) (k:Int)) x):=by unfold kg;rw[List.getElem?_map,List.getElem?_zipIdx,hx];simp
 obtain⟨hk,he⟩:=List.getElem?_eq_some_iff.1 h1;rw[QjK hk,he,hh,hy]
theorem Qfh{S:ar}{x:bz}{pd:List cI}{j:Nat}{p q:cI}(hp:x.ah[j]?=some p)(h:pd.map cI.k=(x.ah.take j).map (fun p=>ke S p.k))(hq:q.k=ke S p.k):(pd++[q]).map cI.k=(x.ah.take (j+1)).map (fun p=>ke S p.k):=by
 obtain⟨hk,he⟩:=List.getElem?_eq_some_iff.1 hp;rw[QjK hk,he,Qjy,Qjy,h];simp[hq]
theorem QcN{α:Type}{l pd:List α}{j:Nat}{p y:α}(hp:l[j]?=some p)(hl:pd.length=j):(pd++l.drop j).set j y=(pd++[y])++l.drop (j+1):=by
 rw[BW hp,Qjc _ _ oM,hl,QiN,xD];rfl
theorem Mem.Qhx{S:Nat→Prop}{w0 w:World}{a b c:bo}(h:Mem S w0 w [a,b,c]):Mem S w0 w [.pk [a,b,c]]:=Mem.pack (l:=[a,b,c]) (L:=[]) h
theorem Qbw{ks hd:List gO}{k:Nat}{x:gO}(hh:hd=(o1 ks).take k)(hx:ks[k]?=some x){y:gO}(hy:y=sj ks k x):hd++[y]=(o1 ks).take (k+1):=by
 obtain⟨hk,he⟩:=List.getElem?_eq_some_iff.1 (BM hx);rw[QjK hk,he,hh,hy]
end Go.Mor
namespace Go.Mor
open Go.RowKit
def Qof:gO:=⟨[],[],2,-1,0,0,true⟩
def xe(ks:List gO)(k:Nat):gO:=ks.getD k Qof
structure JS where
 ks:List gO
 S:List ar
 sg:Int→Int
 t:Bool
def QfG(a k:Int)(l:ar)(S:List ar):List ar:=S.zipIdx.map (fun q=>if(q.2:Int)∈l then q.1.map (oH a k)else q.1)
theorem TI(a k:Int)(l:ar)(S:List ar):(QfG a k l S).length=S.length:=by simp[QfG]
theorem QcJ{a k:Int}{l:ar}{S:List ar}{t:Nat}{r:ar}(h:S[t]?=some r):(QfG a k l S)[t]?=some (if(t:Int)∈l then r.map (oH a k)else r):=by
 unfold QfG;rw[List.getElem?_map,List.getElem?_zipIdx,h];simp
def UO(s:JS)(k:Nat):Nat:=(xe s.ks k).a.toNat
def I5(s:JS)(k:Nat):Prop:=(xe s.ks k).gone=false∧(xe s.ks k).e=0∧(s.S.getD (UO s k) []).length=1∧UO s k≠k∧(xe s.ks (UO s k)).gone=false
instance (s : JS) (k : Nat) : Decidable (I5 s k) := by unfold I5; infer_instance
def doJ(s:JS)(k:Nat):JS:=⟨Qc9 s.ks k (UO s k) (xe s.ks (UO s k)),QfG (UO s k) k (wL (xe s.ks (UO s k))) s.S,Qkl s.sg (xe s.ks (UO s k)),true⟩
def Ph:Nat→JS→Nat→JS
 |0,s,_=>s
 |f+1,s,k=>if I5 s k then Ph f (doJ s k) k else s
def O8(ks:List gO):Nat:=(pP ks).length
def QfX(s:JS)(k:Nat):JS:=Ph (O8 s.ks+1) s k
def q6(ks:List gO):JS:=⟨ks,Qge ks,id,false⟩
def Qc6(ks:List gO)(n:Nat):JS:=(List.range n).foldl QfX (q6 ks)
def Qe4(ks:List gO):JS:=Qc6 ks ks.length
theorem UP(ks:List gO)(n:Nat):Qc6 ks (n+1)=QfX (Qc6 ks n) n:=by
 unfold Qc6;rw[lh,Qf3];rfl
section
variable {ks : List gO} {s : JS} {k a : Nat} {b x y : gO} {nm : ByteArray} {pa va : Int}
theorem Qf6(h:ks[k]?=some x):xe ks k=x:=by unfold xe;rw[List.getD_eq_getElem?_getD,h];rfl
theorem UQ(h:(xe ks k).gone=false):ks[k]?=some (xe ks k):=by
 unfold xe at h⊢;rw[List.getD_eq_getElem?_getD]at h⊢;cases hx:ks[k]? with
 |none=>rw[hx]at h;cases h
 |some x=>rfl
theorem QkB(h:I5 s k):O8 (doJ s k).ks+1=O8 s.ks:=by
 obtain⟨h1,h2,_,cU,h5⟩:=h;have hb:=UQ h1;have hx:=UQ h5;unfold O8;rw[Rk,Rk];have hk:(s.ks.map KW)[UO s k]?=some 1:=by rw[List.getElem?_map,hx];show some (KW _)=_;unfold KW;rw[h5];rfl
 have e:(doJ s k).ks.map KW=(s.ks.map KW).set (UO s k) 0:=by
  refine QdX fun i=> ?_
  rw[List.getElem?_map,List.getElem?_set];have hl:(doJ s k).ks.length=s.ks.length:=QcI ..;by_cases e:UO s k=i
  ·subst e;rw[dd rfl,dd (List.getElem?_eq_some_iff.1 hk).1];show((Qc9 _ _ _ _)[_]?).map _=_;rw[Qe1 hx (fun e=>cU e.symm)];rfl
  ·rw[QcA e,List.getElem?_map];show((Qc9 _ _ _ _)[_]?).map _=_;by_cases e2:k=i
   ·subst e2;rw[Qde hb hx (fun e=>cU e.symm),hb];rfl
   ·cases hy:s.ks[i]? with
    |none=>
     have:=List.getElem?_eq_none_iff.1 hy;rw[List.getElem?_eq_none (by rw[QcI];exact this)]
    |some y=>
     rw[Qe2 hy (fun h=>e2 h.symm) (fun h=>e h.symm)];rfl
 rw[e];have:=Qdb (s.ks.map KW) (UO s k) 0 hk;omega
theorem QjX:∀(n:Nat) (s:JS) (m k:Nat),O8 s.ks<n→O8 s.ks<m→Ph n s k=Ph m s k
 |0,_,_,_,h,_=>oM
 |_,_,0,_,_,h=>oM
 |n+1,s,m+1,k,hn,hm=>by
  unfold Ph;by_cases h:I5 s k
  ·rw[dd h,dd h];have:=QkB h;exact QjX n _ m k oM oM
  ·rw[QcA h,QcA h]
theorem Qmv(h:I5 s k):QfX (doJ s k) k=QfX s k:=by
 unfold QfX;have e:Ph (O8 s.ks+1) s k=Ph (O8 s.ks) (doJ s k) k:=by show(if _ then _ else _)=_;rw[dd h]
 have:=QkB h;rw[e];exact QjX _ _ _ _ oM oM
theorem Qf7(h:¬I5 s k):QfX s k=s:=by
 unfold QfX Ph;rw[QcA h]
structure JI(nm:cV)(pa va:Int)(n:Nat)(s:JS):Prop where
 q:JQ nm pa va s.ks s.sg
 len:s.ks.length=n
 sl:s.S.length=n
 rows:∀(t:Nat) (r:ar),s.S[t]?=some r→mB s.ks (t:Int)→∀c:Int,c∈r↔(t:Int)∈tK s.ks c
theorem JI.can{n:Nat}(h:JI nm pa va n s)(hc:I5 s k):Qmt s.ks k (UO s k) (xe s.ks k) (xe s.ks (UO s k)):=by
 obtain⟨h1,h2,h3,cU,h5⟩:=hc;have hb:=UQ h1;have hx:=UQ h5;have XR:tK s.ks (k:Int)=[(xe s.ks k).a]:=by rw[h.q.vj hb];unfold wL;rw[dd h2]
 obtain⟨i,z,hi,_,_⟩:=h.q.live (s:=(k:Int)) (t:=(xe s.ks k).a) (by rw[XR];simp);have ha:(xe s.ks k).a=(UO s k:Int):=by unfold UO;omega
 refine⟨hb,hx,h1,h2,ha,fun e=>cU e.symm,fun c hc=> ?_⟩;obtain⟨r,hr⟩:=bu (l:=s.S) (i:=UO s k) (by rw[h.sl,←h.len];exact(List.getElem?_eq_some_iff.1 hx).1);have e:s.S.getD (UO s k) []=r:=by rw[List.getD_eq_getElem?_getD,hr];rfl
 rw[e]at h3;obtain⟨u,hu⟩:=List.length_eq_one_iff.1 h3;have h6:=(h.rows _ _ hr (.mk' hx h5) c).2 hc;have h7:=(h.rows _ _ hr (.mk' hx h5) (k:Int)).2 (by rw[XR,ha];simp);rw[hu]at h6 h7;rw[QcC.1 h6,QcC.1 h7]
theorem JI.step{n:Nat}(h:JI nm pa va n s)(hc:I5 s k):JI nm pa va n (doJ s k):=by
 have hq:=h.can hc;obtain⟨g1,_⟩:=QhF h.q hq;refine⟨g1,by rw[←h.len];exact QcI ..,(TI ..).trans h.sl,fun t r hr hlv c=> ?_⟩;obtain⟨r0,Fc⟩:=bu (l:=s.S) (i:=t) (by have:=(List.getElem?_eq_some_iff.1 hr).1;rwa [show(doJ s k).S.length=s.S.length from TI ..]at this);obtain⟨hta,Va⟩:(t:Int)≠(UO s k:Int)∧mB s.ks (t:Int):=by
  obtain⟨i,z,hi,hz,BB⟩:=hlv;have:t=i:=oM;subst this;rcases QcH hq.hb hq.hx hq.ne hz with⟨rfl,rfl⟩|⟨_,rfl⟩|⟨_,h2,y,hy,rfl⟩
  ·exact⟨by have:=hq.ne;omega,.mk' hq.hb hq.bg⟩
  ·cases BB
  ·exact⟨oM,.mk' hy BB⟩
 have h0:=h.rows t r0 Fc Va;have hr:r=r0.map (oH (UO s k) k):=by
  have h1:(doJ s k).S[t]?=_:=QcJ Fc;rw[h1]at hr;injection hr with hr;rw[←hr];split
  ·rfl
  ·rename_i hnt;refine((Qch fun c hc=> ?_).trans (Qbi r0)).symm;refine QcF fun e=>hnt ?_
   rw[e]at hc;have:=(h0 _).1 hc;rwa [h.q.vj hq.hx]at this
 subst hr;have hka:(UO s k:Int)∈tK s.ks (k:Int):=by rw[h.q.vj hq.hb];unfold wL;rw[dd hq.be,hq.ba];simp
 have htk:tK s.ks (k:Int)=[(UO s k:Int)]:=by rw[h.q.vj hq.hb];unfold wL;rw[dd hq.be,hq.ba]
 have t1:tK (doJ s k).ks (k:Int)=tK s.ks (UO s k:Int):=by exact(g1.vj (Qde hq.hb hq.hx hq.ne)).trans (h.q.vj hq.hx).symm
 have t2:tK (doJ s k).ks (UO s k:Int)=[]:=by refine(g1.vj (Qe1 hq.hx hq.ne)).trans ?_;unfold wL QgN;rw[QcA (show¬(2:Int)=0 by omega),QcA (show¬(2:Int)=1 by omega)]
 have t3:∀c:Int,c≠(k:Int)→c≠(UO s k:Int)→tK (doJ s k).ks c=tK s.ks c:=by
  intro c h1 h2;by_cases hr:0≤c∧c<(s.ks.length:Int)
  ·obtain⟨y,hy⟩:=bu (l:=s.ks) (i:=c.toNat) oM;have e:c=(c.toNat:Int):=oM;rw[e,h.q.vj hy];have h9:=g1.vj (Qe2 (k:=k) (a:=UO s k) (x:=xe s.ks (UO s k)) hy oM oM);exact h9
  ·have h3:tK s.ks c=[]:=uI (by rw[QeC];omega);have h4:tK (doJ s k).ks c=[]:=uI (by rw[QeC,show(doJ s k).ks.length=s.ks.length from QcI ..];omega);rw[h3,h4]
 have cU:(k:Int)≠(UO s k:Int):=by have:=hq.ne;omega
 constructor
 ·intro hm;obtain⟨d,hd,rfl⟩:=jd.1 hm;have Vm:=(h0 d).1 hd;by_cases e:d=(UO s k:Int)
  ·subst e;unfold oH;rw[dd rfl,t1];exact Vm
  ·rw[QcF e];by_cases e2:d=(k:Int)
   ·subst e2;rw[htk]at Vm;exact absurd (QcC.1 Vm) hta
   ·rw[t3 d e2 e];exact Vm
 ·intro hm;by_cases e2:c=(k:Int)
  ·subst e2;rw[t1]at hm;exact jd.2 ⟨_,(h0 _).2 hm,by unfold oH;rw[dd rfl]⟩
  ·by_cases e:c=(UO s k:Int)
   ·subst e;rw[t2]at hm;cases hm
   ·rw[t3 c e2 e]at hm;exact jd.2 ⟨c,(h0 c).2 hm,QcF e⟩
structure JE(n:Nat)(ks:List gO)(m:Nat)(s:JS):Prop where
 lv:O8 s.ks+(if s.t then 1 else 0)≤O8 ks
 no:s.t=false→s=q6 ks∧∀k,k<m→¬I5 (q6 ks) k
theorem QhG{n:Nat}{ks:List gO}{k:Nat}:∀(f:Nat) (s:JS),JI nm pa va n s→O8 s.ks+(if s.t then 1 else 0)≤O8 ks→JI nm pa va n (Ph f s k)∧O8 (Ph f s k).ks+(if(Ph f s k).t then 1 else 0)≤O8 ks∧((Ph f s k).t=false→Ph f s k=s∧(0<f→¬I5 s k))
 |0,s,h,h2=>⟨h,h2,fun _=>⟨rfl,fun h=>absurd h (Nat.lt_irrefl 0)⟩⟩
 |f+1,s,h,h2=>by
  unfold Ph;by_cases hc:I5 s k
  ·rw[dd hc];have h3:=QkB hc;obtain⟨q1,q2,q3⟩:=QhG (ks:=ks) (k:=k) f (doJ s k) (h.step hc) (by show _+(if true=true then 1 else 0)≤_;rw[dd rfl];omega);refine⟨q1,q2,fun h4=> ?_⟩;have:=(q3 h4).1;rw[this]at h4;cases h4
  ·rw[QcA hc];exact⟨h,h2,fun _=>⟨rfl,fun _=>hc⟩⟩
theorem QhQ{n:Nat}{ks:List gO}(h:JI nm pa va n (q6 ks)):∀m,JI nm pa va n (Qc6 ks m)∧JE n ks m (Qc6 ks m)
 |0=>⟨h,⟨Qjn _,fun _=>⟨rfl,fun k hk=>absurd hk (zF _)⟩⟩⟩
 |m+1=>by
  obtain⟨h1,h2⟩:=QhQ h m;rw[UP];obtain⟨q1,q2,q3⟩:=QhG (ks:=ks) (k:=m) (O8 (Qc6 ks m).ks+1) _ h1 h2.lv;refine⟨q1,q2,fun ht=> ?_⟩;obtain⟨e,hn⟩:=q3 ht;have oQ:(Qc6 ks m).t=false:=by rw[←e];exact ht
  obtain⟨e2,h4⟩:=h2.no oQ;refine⟨e.trans e2,fun k hk=> ?_⟩;by_cases hkm:k<m
  ·exact h4 k hkm
  ·have:k=m:=oM;subst this;rw[←e2];exact hn (Nat.succ_pos _)
theorem Qkn(ks:List gO):um id ks=ks:=by
 unfold um;refine(Qch fun x _=> ?_).trans (Qbi ks);show BC id x=x;unfold BC;have e1:x.ah.map (QcG id)=x.ah:=(Qch fun p _=>by show QcG id p=p;unfold QcG;rw[Qbi]).trans (List.map_id' _);have e2:x.insts.map (QeZ id)=x.insts:=(Qch fun p _=>by show QeZ id p=p;unfold QeZ;rw[Qbi]).trans (List.map_id' _);rw[e1,e2];split<;>rfl
theorem QgI(hc:Pf ks){t c:Int}:c∈EU ks t↔t∈tK ks c:=by
 rw[QeW];constructor
 ·rintro⟨i,x,rfl,hx,_,ht⟩;rw[hc.at_ hx];exact ht
 ·intro ht;obtain⟨i,x,rfl,hx,hg⟩:=hc.src ht;rw[hc.at_ hx]at ht;exact⟨i,x,rfl,hx,hg,ht⟩
theorem QgJ(hg:vU nm pa va ks)(ht:EJ ks)(jv:(hY (fK ks):Int)≤20000):JI nm pa va ks.length (q6 ks):=by
 refine⟨⟨by rw[show(q6 ks).ks=ks from rfl,show(q6 ks).sg=id from rfl,Qkn];exact hg,by rw[show(q6 ks).ks=ks from rfl,show(q6 ks).sg=id from rfl,Qkn];exact ht,fun v h=>h,fun _ _ _ _=>rfl,fun y hy q hq u hu=> ?_,fun y hy i hi u hu=>hg.iv y hy i hi u hu,fun y hy hr=> ?_,jv⟩,rfl,QgE ks,fun t r hr _ c=> ?_⟩
 ·obtain⟨k,hk⟩:=jF.1 hy;exact(hg.pK k y hk q hq).QbQ u hu
 ·exact hg.fv y hy (by unfold xL at hr;omega)
 ·have hl:=(List.getElem?_eq_some_iff.1 hr).1;have hr:(Qge ks)[t]?=some r:=hr;rw[Qfc (by rw[show(q6 ks).S=Qge ks from rfl,QgE]at hl;exact hl)]at hr;injection hr with hr;subst hr;exact QgI hg.UT
end
end Go.Mor
namespace Go.Mor
open Go.RowKit
def W1(n:Nat)(key:Nat→Int):List Nat:=(List.range n).mergeSort (fun i j=>decide (key i≤key j))
theorem Qd7(n:Nat)(key:Nat→Int):jY n key (W1 n key):=by
 refine⟨List.mergeSort_perm _ _,?_⟩;have h:=List.pairwise_mergeSort (le:=fun i j=>decide (key i≤key j)) (fun a b c h1 h2=>by simp only[QcD]at*;omega) (fun a b=>by simp only[QiZ,QcD];omega) (List.range n);exact h.imp fun h=>nF h
def toP(nl:ar)(p:vb):bI:=⟨p.dst,none,0,(W1 p.from_.length (rJ nl p.from_)).map (fun i=>p.args.getD i 0)⟩
def toBl(nl:ar)(x:gO):ay:=⟨none,0,x.ah.map (toP nl),none,0,x.insts,x.e,x.v,toA nl x.e x.a,toBb nl x.e x.b⟩
def toF(ks:List gO):List ay:=(pP ks).map (toBl (ve (nh ks)))
theorem qF.map{α β:Type}{R:α→β→Prop}{f:α→β}{l:List α}(h:∀a,a∈l→R a (f a)):qF R l (l.map f):=by
 refine⟨by rw[QjN],fun i a b ha hb=> ?_⟩;rw[List.getElem?_map,ha]at hb;injection hb with hb;rw[←hb];exact h a (Qcs ha)
theorem Qf8{ks:List gO}(he:sP ks):Yi ks (toF ks):=qF.map fun x hx=>by
 have yk:x∈ks:=(Qjr.1 hx).1;exact⟨qF.map fun p _=>⟨rfl,_,Qd7 _ _,rfl⟩,he x yk,rfl,rfl,rfl,rfl⟩
theorem Qdf{n:Nat}{key:Nat→Int}{l m:List Nat}(h1:jY n key l)(h2:jY n key m)(hi:∀i j,i<n→j<n→key i=key j→i=j):l=m:=by
 have up:∀{l:List Nat},jY n key l→(l.map key).Pairwise (·<·):=by
  intro l h;rw[gS];have hn:l.Nodup:=h.1.nodup_iff.2 Qhq;have h3:l.Pairwise (fun i j=>key i≤key j∧i≠j):=h.2.and hn;refine h3.imp_of_mem fun {a b} ha hb hq=> ?_
  have nQ:=Qi4.1 (h.1.mem_iff.1 ha);have Co:=Qi4.1 (h.1.mem_iff.1 hb);have cU:key a≠key b:=fun e=>hq.2 (hi a b nQ Co e)
  have:=hq.1;omega
 have e:l.map key=m.map key:=Qdy (up h1) (up h2) fun a=>by simp only[jd];exact⟨fun⟨i,h3,h4⟩=>⟨i,h2.1.mem_iff.2 (h1.1.mem_iff.1 h3),h4⟩,fun⟨i,h3,h4⟩=>⟨i,h1.1.mem_iff.2 (h2.1.mem_iff.1 h3),h4⟩⟩
 refine QdX fun i=> ?_
 have e1:=Qi9 (fun l:ar=>l[i]?) e;simp only[List.getElem?_map]at e1;cases hl:l[i]? with
 |none=>rw[hl]at e1;cases hm:m[i]? with
  |none=>rfl
  |some b=>rw[hm]at e1;cases e1
 |some a=>rw[hl]at e1;cases hm:m[i]? with
  |none=>rw[hm]at e1;cases e1
  |some b=>
   rw[hm]at e1;injection e1 with e1;rw[hi a b (Qi4.1 (h1.1.mem_iff.1 (Qcs hl))) (Qi4.1 (h2.1.mem_iff.1 (Qcs hm))) e1]
section
variable {ks : List gO} {fs fd fe : List ay} {kn : KN} {nm : ByteArray} {pa va : Int}
theorem Qf9(hg:vU nm pa va ks)(Dz:EJ ks)(h1:Yi ks fd)(h2:Yi ks fe):ec fd fe:=by
 have hc:=hg.UT;unfold ec;refine QdX fun j=> ?_
 rw[List.getElem?_map,List.getElem?_map];by_cases hj:j<fd.length
 ·obtain⟨y,hy⟩:=bu (l:=fd) hj;obtain⟨i,x,hx,uC,YO,hb⟩:=BJ h1 hy;obtain⟨z,hz,tP⟩:=Qc1 h2 hx uC;rw[YO]at hz;rw[hy,hz,s9,s9];congr 1;unfold ay.e0;rw[hb.insts,tP.insts,hb.e,tP.e,hb.v,tP.v,hb.a,tP.a,hb.b,tP.b];have hp:y.ah.map bI.e0=z.ah.map bI.e0:=by
   refine QdX fun m=> ?_
   rw[List.getElem?_map,List.getElem?_map];by_cases hm:m<x.ah.length
   ·obtain⟨p,hp⟩:=bu (l:=x.ah) hm;obtain⟨q,hq,hd,il,hs,ha⟩:=hb.ah.fwd hp;obtain⟨q2,Xe,Vm,il2,N9,yX⟩:=tP.ah.fwd hp;have hP:=hg.pK i x hx p (Qcs hp);have LM:∀i,i<p.from_.length→p.from_[i]?=some (p.from_.getD i 0):=fun i hi=>by rw[List.getD_eq_getElem?_getD,List.getElem?_eq_getElem hi];rfl
    have e:=Qdf hs N9 fun a b ha hb he=>by have la:=hc.src (Dz.bS i x hx p (Qcs hp) _ (Qcs (LM a ha)));have lb:=hc.src (Dz.bS i x hx p (Qcs hp) _ (Qcs (LM b hb)));have e1:p.from_.getD a 0=p.from_.getD b 0:=D9 la lb he;have h6:=LM a ha;rw[e1,←LM b hb]at h6;exact(List.getElem?_inj ha hP.nd).1 h6
    rw[hq,Xe];unfold bI.e0;simp only[s9];rw[hd,Vm,ha,yX,e]
   ·rw[List.getElem?_eq_none (by rw[←hb.ah.1];omega),List.getElem?_eq_none (by rw[←tP.ah.1];omega)]
  rw[hp]
 ·rw[List.getElem?_eq_none oM,List.getElem?_eq_none (by rw[←h2.1,h1.1];omega)]
theorem Qd8(fs:List ay):sP (lN fs):=by
 intro x hx;obtain⟨k,hk⟩:=jF.1 hx;obtain⟨y,_,rfl⟩:=F4 rfl hk;show(y.insts.map aO.e0).map aO.e0=y.insts.map aO.e0;rw[Qcn];rfl
theorem Qga(gx:pL fs):Xq (lN fs):=by
 intro x hx;obtain⟨k,hk⟩:=jF.1 hx;obtain⟨y,hy,rfl⟩:=F4 rfl hk;have h:=gx y (Qcs hy);refine⟨fun i hi=> ?_,h.e,h.v,h.a,h.b,fun p hp=> ?_⟩
 ·obtain⟨j,hj,rfl⟩:=jd.1 (show i∈y.insts.map aO.e0 from hi);have:=h.insts j hj;exact⟨this.op,this.dst,this.n,this.name,this.len,this.args⟩
 ·obtain⟨q,hq,rfl⟩:=jd.1 (show p∈y.ah.map _ from hp);exact(h.ah q hq).dst
theorem Qb9:∀{l m:List Nat},l.Nodup→(∀a,a∈l→a∈m)→l.length≤m.length
 |[],_,_,_=>Qdv _
 |a::l,m,hn,h=>by
  obtain⟨h1,h2⟩:=QiR.1 hn;have ha:=h a (en ..);have:=Qb9 (l:=l) (m:=m.erase a) h2 fun b hb=>(List.mem_erase_of_ne (fun e=>h1 (by rw[←e];exact hb))).2 (h b (QiV _ hb))
  rw[List.length_erase_of_mem ha]at this;have:=QdG ha;rw[je];omega
theorem Qem:∀{l:ar} {n:Nat},l.Nodup→(∀a,a∈l→0≤a∧a<(n:Int))→l.length≤n:=by
 intro l n hn hr;have h1:(l.map Int.toNat).Nodup:=by
  rw[QjE,gS];refine hn.imp_of_mem fun {a b} ha hb Hl e=>Hl ?_
  have:=(hr a ha).1;have:=(hr b hb).1;omega
 have h2:∀a,a∈l.map Int.toNat→a∈List.range n:=fun a ha=>by obtain⟨b,hb,rfl⟩:=jd.1 ha;have:=hr b hb;exact Qi4.2 oM
 have:=Qb9 h1 h2;rwa [QjN,Qdc]at this
theorem VB(hg:vU nm pa va ks){k:Nat}{x:gO}(hx:ks[k]?=some x){p:vb}(hp:p∈x.ah):p.from_.length≤ks.length:=by
 have hP:=hg.pK k x hx p hp;exact Qem hP.nd hP.yW
theorem QgS(hg:vU nm pa va ks)(hi:Xq ks)(kx:va≤20000)(jv:(hY (fK ks):Int)≤20000):pL (toF ks):=by
 have hs:=vR ks;have ZJ:=hg.par;have RM:∀(l:List Nat) (a:Nat),a∈l→a≤l.sum:=by
  intro l;induction l with
  |nil=>intro a h;cases h
  |cons b l ih=>
   intro a h;rw[B5];rcases Qcx.1 h with h|h
   ·omega
   ·have:=ih a h;omega
 have hN:ks.length≤20000:=oM;have Qhr:∀v:Int,0≤v→v≤1000000→In64 v:=fun v h0 h1=>⟨oM,oM⟩
 intro y hy;obtain⟨x,hx,rfl⟩:=jd.1 hy;have yk:x∈ks:=(Qjr.1 hx).1;obtain⟨k,hk⟩:=jF.1 yk;have hl:=RM _ _ (jd.2 ⟨x,yk,rfl⟩:(fun x:gO=>x.ah.length+x.insts.length) x∈ks.map (fun x=>x.ah.length+x.insts.length));have LG:x.ah.length+x.insts.length≤20000:=by have:x.ah.length+x.insts.length≤(ks.map (fun x=>x.ah.length+x.insts.length)).sum:=hl;omega
 obtain⟨h0,h1,h2,h3,h4,h5⟩:=hi x yk;have NJ:∀a:Int,In64 ((ve (nh ks)).getD a.toNat 0):=fun a=>by have:=Jj (nh ks) a.toNat (by rw[xP];omega);exact Qhr _ this.1 this.2
 refine⟨?_,fun p hp=> ?_,?_,fun i hi=> ?_,h1,h2,?_,?_⟩
 ·show gY (x.ah.map _).length;rw[QjN];unfold gY;omega
 ·obtain⟨q,hq,rfl⟩:=jd.1 (show p∈x.ah.map _ from hp);have hP:=hg.pK k x hk q hq;have hqs:=VB hg hk hq;refine⟨h5 q hq,?_,fun a ha=> ?_⟩
  ·show gY ((W1 _ _).map _).length;rw[QjN,(Qd7 _ _).1.length_eq,Qdc];unfold gY;omega
  ·obtain⟨i,_,rfl⟩:=jd.1 (show a∈(W1 _ _).map _ from ha);rw[List.getD_eq_getElem?_getD];cases Xe:q.args[i]? with
   |none=>exact Fa
   |some b=>
    have:=hP.QbQ b (Qcs Xe);exact Qhr _ this.1 (by show b≤_;omega)
 ·show gY x.insts.length;unfold gY;omega
 ·exact h0 i hi
 ·show In64 (toA _ x.e x.a);unfold toA;split
  ·exact NJ _
  ·split
   ·exact h3
   ·exact Fa
 ·show In64 (toBb _ x.e x.b);unfold toBb;split
  ·exact NJ _
  ·exact Fa
end
end Go.Mor
namespace Go.Mor
open Go.RowKit
def QfH(i:aO):Int:=i.args.getD 0 0
def W9(kn:KN)(i:aO):Bool:=i.op==11&&XU kn (QfH i)
def flQ(kn:KN)(i:aO):Bool:=W9 kn i&&qv kn (QfH i)==0
def pq(kn:KN)(l:List aO):List aO:=l.filter (fun i=> !W9 kn i)
def nAt(l:List aO)(j:Nat):Int:=match l[j]? with
 |some i=>i.n
 |none=>0
def Qe5(kn:KN)(x:gO):gO:=match x.insts.findIdx? (flQ kn)with
 |some j=>{x with insts:=pq kn (x.insts.take j),e:=3,v:=0,a:=nAt x.insts j,b:=0}
 |none=>{x with insts:=pq kn x.insts}
def Qbp(kn:KN)(ks:List gO):List gO:=ks.map (Qe5 kn)
def Ds(kn:KN)(ks:List gO):Bool:=(sX ks).any (W9 kn)
def Qc7(l:List aO)(v:Int):Prop:=∃i,i∈l∧i.op=11∧QfH i=v
def nU(ks:List gO)(k:Nat)(v:Int):Prop:=∃(a:Nat) (y:gO),ks[a]?=some y∧a≠k∧Qc7 y.insts v∧Dm (tK ks) (a:Int) (k:Int)
def QdS(Q:Int→Prop)(l:List aO)(j:Nat):Prop:=∃i,l[j]?=some i∧i.op=11∧(Q (QfH i)∨Qc7 (l.take j) (QfH i))
noncomputable def gH(Q:Int→Prop)(l:List aO)(j:Nat):Bool:=@decide (QdS Q l j) (Classical.propDecidable _)
def lj{α:Type}(P:Nat→Bool)(l:List α)(j:Nat):List α:=(((l.take j).zipIdx).filter (fun q=> !P q.2)).map (·.1)
noncomputable def agB(ks:List gO)(k:Nat)(x:gO):gO:={x with insts:=lj (gH (nU ks k) x.insts) x.insts x.insts.length}
noncomputable def agK(ks:List gO):List gO:=ks.zipIdx.map (fun q=>agB ks q.2 q.1)
noncomputable def agT(ks:List gO):Bool:=@decide (∃(k:Nat) (x:gO) (j:Nat),ks[k]?=some x∧QdS (nU ks k) x.insts j) (Classical.propDecidable _)
section
variable {α : Type} {P : Nat → Bool} {l : List α} {j : Nat} {x : α}
theorem QgO:lj P l 0=[]:=rfl
theorem Xg(hx:l[j]?=some x):lj P l (j+1)=lj P l j++(if P j then[]else[x]):=by
 obtain⟨hj,he⟩:=List.getElem?_eq_some_iff.1 hx;unfold lj;rw[QjK hj,List.zipIdx_append,xH,Qjy,he];congr 1;rw[QjL,Qds oM];show List.map (·.1) (List.filter _ [(x,0+j)])=_;rw[Qgu];cases h:P j<;>simp[h]
theorem QhR(hx:l[j]?=some x)(h:P j=false):lj P l (j+1)=lj P l j++[x]:=by rw[Xg hx,h];rfl
theorem QgP(hx:l[j]?=some x)(h:P j=true):lj P l (j+1)=lj P l j:=by rw[Xg hx,h];simp
theorem QcK(h:∀i,i<j→P i=false)(hj:j≤l.length):lj P l j=l.take j:=by
 induction j with
 |zero=>simp[QgO]
 |succ j ih=>
  obtain⟨x,hx⟩:=bu (l:=l) (i:=j) oM;obtain⟨hk,he⟩:=List.getElem?_eq_some_iff.1 hx;rw[QhR hx (h j oM),ih (fun i hi=>h i oM) oM,QjK hk,he]
theorem Qk2{β:Type}(f:α→β):lj P (l.map f) j=(lj P l j).map f:=by
 by_cases hj:j≤l.length
 ·induction j with
  |zero=>rfl
  |succ j ih=>
   obtain⟨x,hx⟩:=bu (l:=l) (i:=j) oM;rw[Xg hx,Xg (x:=f x) (by rw[List.getElem?_map,hx];rfl),ih oM,Qjy];split<;>rfl
 ·unfold lj;rw[uK (by rw[QjN];omega),uK oM,List.zipIdx_map,NI,Qcn,Qcn];rfl
end
theorem Dr.filter(kn:KN)(l:List aO):Dr l (pq kn l):=by
 induction l with
 |nil=>exact .nil
 |cons i l ih=>
  unfold pq;rw[Qjz];by_cases h:W9 kn i=true
  ·rw[h];refine .drop ?_ ih;unfold W9 at h;simp only[Qjo,Js]at h;exact h.1
  ·rw[dd (by simpa using h)];exact .keep ih
theorem Dr.said(Q:Int→Prop)(l:List aO):∀j,j≤l.length→Dr (l.take j) (lj (gH Q l) l j)
 |0,_=>by rw[QgO];simpa using Dr.nil
 |j+1,hj=>by
  obtain⟨x,hx⟩:=bu (l:=l) (i:=j) oM;obtain⟨hk,he⟩:=List.getElem?_eq_some_iff.1 hx;rw[Xg hx,QjK hk,he];refine(Dr.said Q l j oM).app ?_;by_cases h:gH Q l j=true
  ·rw[dd h];obtain⟨i,hi,ho,_⟩:=(@decide_eq_true_iff _ (Classical.propDecidable _)).1 h;rw[hx]at hi;injection hi with hi;subst hi;exact .drop ho .nil
  ·rw[QcA h];exact .keep .nil
section
variable {ks ms : List gO} {kn : KN} {nm : ByteArray} {pa va : Int}
theorem Qmw{x:gO}(hs:∀i,i∈x.insts→bJ i)(hg:x.gone=true→x.insts=[]):Tb x (Qe5 kn x):=by
 unfold Qe5;split
 ·rename_i j hj;obtain⟨h1,h2,_⟩:=List.findIdx?_eq_some_iff_getElem.1 hj;have hi:x.insts[j]?=some x.insts[j]:=List.getElem?_eq_getElem h1;refine⟨rfl,rfl,.inr ⟨?_,⟨x.insts.take j,x.insts.drop j,(xK ..).symm,Dr.filter kn _⟩,rfl,?_,rfl,rfl⟩⟩
  ·cases h:x.gone with
   |false=>rfl
   |true=>rw[hg h]at h1;cases h1
  ·show cN (nAt x.insts j);unfold nAt;rw[hi];have h3:=(hs _ (Qi7 h1)).2;have h4:x.insts[j].op=11:=by unfold flQ W9 at h2;simp only[Qjo,Js]at h2;exact h2.1.1
   show cN x.insts[j].n;rw[h4]at h3;rcases h3 with h|h|h|h|h|h|h|h|h|h|h<;>first|exact h.2.1|omega
 ·exact⟨rfl,rfl,.inl ⟨Dr.filter kn _,rfl,rfl,rfl,rfl⟩⟩
theorem Qbs(h:vU nm pa va ks):qF Tb ks (Qbp kn ks):=by
 refine⟨by unfold Qbp;rw[QjN],fun k x y hx hy=> ?_⟩;unfold Qbp at hy;rw[List.getElem?_map,hx]at hy;injection hy with hy;subst hy;have hm:=Qcs hx;exact Qmw (h.Xv x hm) fun hg=>(h.UT.gone x hm hg).2.1
theorem QgQ{k:Nat}{x:gO}(hx:ks[k]?=some x):(agK ks)[k]?=some (agB ks k x):=by
 unfold agK;rw[List.getElem?_map,List.getElem?_zipIdx,hx];simp
theorem Qe6(ks:List gO):(agK ks).length=ks.length:=by simp[agK]
theorem QdA(ks:List gO):qF Tb ks (agK ks):=by
 refine⟨(Qe6 ks).symm,fun k x y hx hy=> ?_⟩;rw[QgQ hx]at hy;injection hy with hy;subst hy;have:=Dr.said (nU ks k) x.insts x.insts.length (Qjn _);rw[Qcg]at this;exact⟨rfl,rfl,.inl ⟨this,rfl,rfl,rfl,rfl⟩⟩
theorem Cl{Q:Int→Prop}{l:List aO}{j:Nat}:gH Q l j=true↔QdS Q l j:=@decide_eq_true_iff _ (Classical.propDecidable _)
theorem QcL:agT ks=true↔∃(k:Nat) (x:gO) (j:Nat),ks[k]?=some x∧QdS (nU ks k) x.insts j:=@decide_eq_true_iff _ (Classical.propDecidable _)
theorem Qmx(h:agT ks=false):agK ks=ks:=by
 refine QdX fun k=> ?_
 cases hx:ks[k]? with
 |none=>rw[List.getElem?_eq_none (by rw[Qe6];exact List.getElem?_eq_none_iff.1 hx)]
 |some x=>
  rw[QgQ hx];have:lj (gH (nU ks k) x.insts) x.insts x.insts.length=x.insts:=by
   rw[QcK (fun i _=> ?_) (Qjn _),Qcg];cases h2:gH (nU ks k) x.insts i with
   |false=>rfl
   |true=>rw[QcL.2 ⟨k,x,i,hx,Cl.1 h2⟩]at h;cases h
  unfold agB;rw[this]
theorem QlE(h:Ds kn ks=false):Qbp kn ks=ks:=by
 unfold Qbp;refine(Qch fun x hx=> ?_).trans (Qbi ks);have h1:∀i,i∈x.insts→W9 kn i=false:=fun i hi=>by unfold Ds at h;have:=vA.1 h i (pZ.2 ⟨x,hx,hi⟩);simpa using this
 have h2:x.insts.findIdx? (flQ kn)=none:=by rw[List.findIdx?_eq_none_iff];intro i hi;unfold flQ;rw[h1 i hi];rfl
 have h3:pq kn x.insts=x.insts:=QjO.2 fun i hi=>by rw[h1 i hi];rfl
 show Qe5 kn x=x;unfold Qe5;rw[h2,h3]
def iN(ks:List gO):Nat:=(ks.map (fun x=>x.insts.length)).sum
theorem QlF(h:qF Tb ks ms):O8 ms=O8 ks:=by
 unfold O8;rw[Rk,Rk];congr 1;exact(h.map_eq fun x y _ _ hb=>by unfold KW;rw[hb.gone]).symm
theorem QjZ(h:qF Tb ks ms):hY (fK ms)≤hY (fK ks):=by
 rw[vR,vR,h.1];have:=XV (f:=fun x:gO=>x.ah.length+x.insts.length) (g:=fun x:gO=>x.ah.length+x.insts.length) (h.imp fun _ _ h=>by have:=h.sub.length_le;rw[h.ah];omega);omega
theorem Qnx(h:vU nm pa va ks)(ht:Ds kn ks=true):iN (Qbp kn ks)<iN ks:=by
 unfold Ds at ht;obtain⟨i,hi,hc⟩:=Qju.1 ht;obtain⟨x,hx,hi⟩:=pZ.1 hi;obtain⟨k,hk⟩:=jF.1 hx;have hcu:=Qbs (kn:=kn) h;have u9:(Qbp kn ks)[k]?=some (Qe5 kn x):=by unfold Qbp;rw[List.getElem?_map,hk];rfl
 refine Qd5 (hcu.imp fun _ _ h=>h.sub.length_le) hk u9 ?_;show(Qe5 kn x).insts.length<x.insts.length;have hf:∀l:List aO,i∈l→(pq kn l).length<l.length:=fun l hl=>by
  unfold pq;refine Nat.lt_of_le_of_ne (Qjt _ _) fun e=> ?_
  have:=Qcm.1 e i hl;rw[hc]at this;cases this
 unfold Qe5;split
 ·rename_i j hj;obtain⟨h1,_⟩:=List.findIdx?_eq_some_iff_getElem.1 hj;show(pq kn (x.insts.take j)).length<_;have h2:(pq kn (x.insts.take j)).length≤j:=pX (Qjt _ _) (by rw[QjL];omega);omega
 ·exact hf _ hi
theorem Qog(ht:agT ks=true):iN (agK ks)<iN ks:=by
 obtain⟨k,x,j,hx,hs⟩:=QcL.1 ht;refine Qd5 ((QdA ks).imp fun _ _ h=>h.sub.length_le) hx (QgQ hx) ?_;show(lj _ x.insts x.insts.length).length<x.insts.length;unfold lj;rw[QjN,Qcg];have hl:x.insts.zipIdx.length=x.insts.length:=List.length_zipIdx;have Mj:=hs;obtain⟨i,hi,_⟩:=hs;refine Nat.lt_of_le_of_ne (by have:=Qjt (fun q:aO×Nat=> !gH (nU ks k) x.insts q.2) x.insts.zipIdx;omega) fun e=> ?_
 have:=Qcm.1 (e.trans hl.symm) (i,j) (mem_zipIdx.2 hi);have h9:(!gH (nU ks k) x.insts j)=true:=this;rw[Cl.2 Mj]at h9;cases h9
theorem Qj0(ks:List gO):iN (kg ks)≤iN ks:=XV ((T1 ks).imp fun _ _ h=>h.1)
theorem QlG(h:sW ks=true):O8 (kg ks)<O8 ks:=by
 unfold O8;rw[Rk,Rk];unfold sW at h;obtain⟨k,x,hx,hg,hr⟩:=(@decide_eq_true_iff _ (Classical.propDecidable _)).1 h;refine Qd5 ((T1 ks).imp fun _ _ h=>h.2.2.2) hx (tn hx) ?_;unfold sj;rw[dd ⟨hr,hg⟩];show(0:Nat)<KW x;unfold KW;rw[hg];decide
end
end Go.Mor
namespace Go.Mor
open Go.RowKit
def jnK(ks:List gO):List gO:=um (Qe4 ks).sg (Qe4 ks).ks
def jnT(ks:List gO):Bool:=(Qe4 ks).t
def wT(ks:List gO):Nat:=iN ks+O8 ks
noncomputable def Qbj(n:Nat):Nat→List gO→List gO
 |0,ks=>ks
 |f+1,ks=>if Ds (qN ks n) ks=true then Qbj n f (Qbp (qN ks n) ks)else if sW ks=true then Qbj n f (kg ks)else if jnT (kg ks)=true then Qbj n f (jnK (kg ks))else if agT (kg ks)=true then Qbj n f (agK (kg ks))else kg ks
noncomputable def Rm(n:Nat)(ks:List gO):List gO:=Qbj n (wT ks+1) ks
theorem QfJ{P:JS→Prop}(hs:∀s k,I5 s k→P s→P (doJ s k)){ks:List gO}(h0:P (q6 ks)):P (Qe4 ks):=by
 have hI:∀(f:Nat) (s:JS) (k:Nat),P s→P (Ph f s k):=by
  intro f;induction f with
  |zero=>intro s k h;exact h
  |succ f ih=>
   intro s k h;unfold Ph;split
   ·rename_i hc;exact ih _ k (hs s k hc h)
   ·exact h
 have hT:∀m,P (Qc6 ks m):=by
  intro m;induction m with
  |zero=>exact h0
  |succ m ih=>rw[UP];exact hI _ _ _ ih
 exact hT _
section
variable {ks : List gO} {nm : ByteArray} {pa va : Int}
theorem Qib{s:JS}{k:Nat}(h:I5 s k):s.ks[k]?=some (xe s.ks k)∧s.ks[UO s k]?=some (xe s.ks (UO s k))∧k≠UO s k:=⟨UQ h.1,UQ h.2.2.2.2,fun e=>h.2.2.2.1 e.symm⟩
theorem Qoh{s:JS}{k:Nat}(h:I5 s k):iN (doJ s k).ks=iN s.ks:=by
 obtain⟨hb,hx,cU⟩:=Qib h;refine Qh9 cU (by rw[QjN,QjN];exact QcI ..) (by rw[List.getElem?_map,hb];rfl) (by rw[List.getElem?_map,hx];rfl) ?_ ?_ fun i h1 h2=> ?_
 ·rw[List.getElem?_map];show((Qc9 _ _ _ _)[k]?).map _=_;rw[Qde hb hx cU];show some ((xe s.ks k).insts++(xe s.ks (UO s k)).insts).length=_;rw[rV]
 ·rw[List.getElem?_map];show((Qc9 _ _ _ _)[UO s k]?).map _=_;rw[Qe1 hx cU];rfl
 ·rw[List.getElem?_map,List.getElem?_map];show((Qc9 _ _ _ _)[i]?).map _=_;cases hy:s.ks[i]? with
  |none=>rw[List.getElem?_eq_none (by rw[QcI];exact List.getElem?_eq_none_iff.1 hy)]
  |some y=>rw[Qe2 hy h1 h2];rfl
theorem Qoi{s:JS}{k:Nat}(h:I5 s k)(he:sP s.ks):sP (doJ s k).ks:=by
 obtain⟨hb,hx,cU⟩:=Qib h;intro z hz;obtain⟨i,hi⟩:=jF.1 hz;rcases QcH hb hx cU hi with⟨_,rfl⟩|⟨_,rfl⟩|⟨_,_,y,hy,rfl⟩
 ·show((xe s.ks k).insts++(xe s.ks (UO s k)).insts).map _=_;rw[Qjy,he _ (Qcs hb),he _ (Qcs hx)];rfl
 ·rfl
 ·exact he y (Qcs hy)
theorem Qoj{s:JS}{k:Nat}(h:I5 s k)(he:Xq s.ks):Xq (doJ s k).ks:=by
 obtain⟨hb,hx,cU⟩:=Qib h;obtain⟨b0,b1,b2,b3,b4,b5⟩:=he _ (Qcs hb);obtain⟨x0,x1,x2,x3,x4,x5⟩:=he _ (Qcs hx);intro z hz;obtain⟨i,hi⟩:=jF.1 hz;rcases QcH hb hx cU hi with⟨_,rfl⟩|⟨_,rfl⟩|⟨_,_,y,hy,rfl⟩
 ·refine⟨fun i hi=> ?_,x1,x2,x3,x4,fun p hp=> ?_⟩
  ·rcases QiU.1 (show i∈(xe s.ks k).insts++(xe s.ks (UO s k)).insts from hi)with h|h
   ·exact b0 i h
   ·exact x0 i h
  ·obtain⟨q,hq,rfl⟩:=jd.1 (show p∈(xe s.ks k).ah.map _ from hp);exact b5 q hq
 ·exact⟨(by intro i hi;cases hi),⟨by show(-9223372036854775808:Int)≤2;omega,by show(2:Int)≤9223372036854775807;omega⟩,⟨by show(-9223372036854775808:Int)≤-1;omega,by show(-1:Int)≤9223372036854775807;omega⟩,x3,x4,(by intro p hp;cases hp)⟩
 ·obtain⟨y0,y1,y2,y3,y4,y5⟩:=he _ (Qcs hy);refine⟨y0,y1,y2,y3,y4,fun p hp=> ?_⟩;obtain⟨q,hq,rfl⟩:=jd.1 (show p∈y.ah.map _ from hp);exact y5 q hq
theorem Qny(σ:Int→Int)(h:sP ks):sP (um σ ks):=by
 intro z hz;obtain⟨x,hx,rfl⟩:=jd.1 (show z∈ks.map (BC σ)from hz);show(x.insts.map (QeZ σ)).map aO.e0=x.insts.map (QeZ σ);have h2:=Qi9 (List.map (QeZ σ)) (h x hx);rw[Qcn]at h2⊢;exact h2
theorem Qnz(σ:Int→Int)(ks:List gO):iN (um σ ks)=iN ks:=by
 unfold iN um;rw[Qcn];congr 1;exact Qch fun x _=>by show(x.insts.map _).length=_;rw[QjN]
theorem QnA(σ:Int→Int)(ks:List gO):O8 (um σ ks)=O8 ks:=by
 unfold O8;rw[Rk,Rk];unfold um;rw[Qcn];rfl
theorem QkC{u:Int}(kx:va≤20000)(h:Te va u):In64 u:=by
 unfold Te at h;unfold In64;omega
theorem QnB{σ:Int→Int}(kx:va≤20000)(hq:JQ nm pa va ks σ)(h:Xq ks):Xq (um σ ks):=by
 intro z hz;obtain⟨x,hx,rfl⟩:=jd.1 (show z∈ks.map (BC σ)from hz);obtain⟨x0,x1,x2,x3,x4,x5⟩:=h x hx;refine⟨fun i hi=> ?_,x1,?_,x3,x4,fun p hp=> ?_⟩
 ·obtain⟨j,hj,rfl⟩:=jd.1 (show i∈x.insts.map _ from hi);have h0:=x0 j hj;refine⟨h0.op,h0.dst,h0.n,h0.name,by show gY (j.args.map σ).length;rw[QjN];exact h0.len,fun u hu=> ?_⟩;obtain⟨w,hw,rfl⟩:=jd.1 (show u∈j.args.map σ from hu);exact QkC kx (hq.sg w (hq.ir x hx j hj w hw))
 ·show In64 (if xL x.e x.v then σ x.v else x.v);split
  ·rename_i hr;exact QkC kx (hq.sg _ (hq.er x hx hr))
  ·exact x2
 ·obtain⟨q,hq,rfl⟩:=jd.1 (show p∈x.ah.map _ from hp);exact x5 q hq
structure xw(nm:cV)(pa va:Int)(ks:List gO):Prop where
 UH:vU nm pa va ks
 size:(hY (fK ks):Int)≤20000
theorem xw.knw(h:xw nm pa va ks)(kn:KN):xw nm pa va (Qbp kn ks):=by
 have h1:=QjZ (Qbs (kn:=kn) h.UH);exact⟨QjR h.UH (Qbs h.UH),by have:=h.size;omega⟩
theorem xw.prune(h:xw nm pa va ks):xw nm pa va (kg ks):=by
 have h1:=Po ks;exact⟨(yn h.UH).1,by have:=h.size;omega⟩
theorem xw.ag(h:xw nm pa va ks):xw nm pa va (agK ks):=by
 have h1:=QjZ (QdA ks);exact⟨QjR h.UH (QdA ks),by have:=h.size;omega⟩
theorem Qgb(h:xw nm pa va ks)(ht:EJ ks):JI nm pa va ks.length (Qe4 ks)∧JE ks.length ks ks.length (Qe4 ks):=QhQ (QgJ h.UH ht h.size) ks.length
theorem xw.join(h:xw nm pa va ks)(ht:EJ ks):xw nm pa va (jnK ks)∧EJ (jnK ks)∧(jnK ks).length=ks.length:=by
 obtain⟨h1,_⟩:=Qgb h ht;refine⟨⟨h1.q.UH,?_⟩,h1.q.tight,?_⟩
 ·unfold jnK;rw[QgD];exact h1.q.size
 ·unfold jnK um;rw[QjN,h1.len]
theorem Qmy(h:xw nm pa va ks)(ht:EJ ks)(hj:jnT ks=true):O8 (jnK ks)<O8 ks:=by
 obtain⟨_,h2⟩:=Qgb h ht;have h3:=h2.lv;unfold jnT at hj;unfold jnK;rw[QnA];rw[hj,dd rfl]at h3;omega
theorem Qmz(ks:List gO):iN (jnK ks)=iN ks:=by
 unfold jnK;rw[Qnz];exact QfJ (P:=fun s=>iN s.ks=iN ks) (fun s k hc h=>(Qoh hc).trans h) rfl
theorem QkD(h:xw nm pa va ks)(ht:EJ ks)(hj:jnT ks=false):jnK ks=ks∧∀k,¬I5 (q6 ks) k:=by
 obtain⟨_,h2⟩:=Qgb h ht;obtain⟨h3,h4⟩:=h2.no hj;refine⟨by unfold jnK;rw[h3];exact Qkn ks,fun k hc=> ?_⟩;by_cases hk:k<ks.length
 ·exact h4 k hk hc
 ·have h5:=UQ hc.1;have:(q6 ks).ks.length=ks.length:=rfl;rw[List.getElem?_eq_none oM]at h5;cases h5
theorem QkE(h:xw nm pa va ks){kn:KN}(ht:Ds kn ks=true):wT (Qbp kn ks)<wT ks:=by
 have h1:=Qnx h.UH ht;have h2:=QlF (Qbs (kn:=kn) h.UH);unfold wT;omega
theorem Qgc(ht:sW ks=true):wT (kg ks)<wT ks:=by
 have h1:=QlG ht;have h2:=Qj0 ks;unfold wT;omega
theorem Qbt(ks:List gO):wT (kg ks)≤wT ks:=by
 have h1:O8 (kg ks)≤O8 ks:=by unfold O8;rw[Rk,Rk];exact XV ((T1 ks).imp fun _ _ h=>h.2.2.2)
 have h2:=Qj0 ks;unfold wT;omega
theorem Qic(h:xw nm pa va ks)(ht:EJ ks)(hj:jnT ks=true):wT (jnK ks)<wT ks:=by
 have h1:=Qmy h ht hj;have h2:=Qmz ks;unfold wT;omega
theorem QmA(ht:agT ks=true):wT (agK ks)<wT ks:=by
 have h1:=Qog ht;have h2:=QlF (QdA ks);unfold wT;omega
theorem Qdh{v:Nat}:∀(n:Nat) (ks:List gO) (m:Nat),xw nm pa va ks→wT ks<n→wT ks<m→Qbj v n ks=Qbj v m ks
 |0,_,_,_,h,_=>oM
 |_,_,0,_,_,h=>oM
 |n+1,ks,m+1,hq,hn,hm=>by
  unfold Qbj;have hp:=(yn hq.UH).2;have hw0:=Qbt ks;by_cases h1:Ds (qN ks v) ks=true
  ·rw[dd h1,dd h1];have:=QkE hq h1;exact Qdh n _ m (hq.knw _) oM oM
  ·rw[QcA h1,QcA h1];by_cases h2:sW ks=true
   ·rw[dd h2,dd h2];have:=Qgc h2;exact Qdh n _ m hq.prune oM oM
   ·rw[QcA h2,QcA h2];by_cases h3:jnT (kg ks)=true
    ·rw[dd h3,dd h3];have:=Qic hq.prune hp h3;exact Qdh n _ m (hq.prune.join hp).1 oM oM
    ·rw[QcA h3,QcA h3];by_cases h4:agT (kg ks)=true
     ·rw[dd h4,dd h4];have:=QmA h4;exact Qdh n _ m hq.prune.ag oM oM
     ·rw[QcA h4,QcA h4]
theorem Qgd{v:Nat}{ms:List gO}(hm:xw nm pa va ms)(hw:wT ms<wT ks)(e:Qbj v (wT ks+1) ks=Qbj v (wT ks) ms):Rm v ms=Rm v ks:=by
 unfold Rm;rw[e];exact Qdh _ _ _ hm oM oM
theorem QnC{v:Nat}(h:xw nm pa va ks)(h1:Ds (qN ks v) ks=true):Rm v (Qbp (qN ks v) ks)=Rm v ks:=Qgd (h.knw _) (QkE h h1) (by show(if _ then _ else _)=_;rw[dd h1])
theorem QnD{v:Nat}(h:xw nm pa va ks)(h1:Ds (qN ks v) ks=false)(h2:sW ks=true):Rm v (kg ks)=Rm v ks:=Qgd h.prune (Qgc h2) (by show(if _ then _ else _)=_;rw[QcA (by rw[h1];decide),dd h2])
theorem QnE{v:Nat}(h:xw nm pa va ks)(h1:Ds (qN ks v) ks=false)(h2:sW ks=false)(h3:jnT (kg ks)=true):Rm v (jnK (kg ks))=Rm v ks:=by
 have hp:=(yn h.UH).2;have:=Qic h.prune hp h3;have:=Qbt ks;exact Qgd (h.prune.join hp).1 oM (by show(if _ then _ else _)=_;rw[QcA (by rw[h1];decide),QcA (by rw[h2];decide),dd h3])
theorem QlH{v:Nat}(h:xw nm pa va ks)(h1:Ds (qN ks v) ks=false)(h2:sW ks=false)(h3:jnT (kg ks)=false)(h4:agT (kg ks)=true):Rm v (agK (kg ks))=Rm v ks:=by
 have:=QmA h4;have:=Qbt ks;exact Qgd h.prune.ag oM (by show(if _ then _ else _)=_;rw[QcA (by rw[h1];decide),QcA (by rw[h2];decide),QcA (by rw[h3];decide),dd h4])
theorem QlI{v:Nat}(h1:Ds (qN ks v) ks=false)(h2:sW ks=false)(h3:jnT (kg ks)=false)(h4:agT (kg ks)=false):Rm v ks=kg ks:=by
 unfold Rm;show(if _ then _ else _)=_;rw[QcA (by rw[h1];decide),QcA (by rw[h2];decide),QcA (by rw[h3];decide),QcA (by rw[h4];decide)]
structure QgR(n:Nat)(ks:List gO):Prop where
 k:Ds (qN ks n) ks=false
 j:∀k,¬I5 (q6 ks) k
 a:agT ks=false
theorem Qj1(hc:Pf ks)(h:sW ks=false):sX (kg ks)=sX ks:=by
 unfold sX;rw[Qdz,Qdz];congr 1;refine QdX fun k=> ?_
 rw[List.getElem?_map,List.getElem?_map];cases hx:ks[k]? with
 |none=>rw[List.getElem?_eq_none (by rw[o2];exact List.getElem?_eq_none_iff.1 hx)]
 |some x=>
  rw[tn hx];unfold sj;split
  ·rename_i hh;unfold sW at h;exact absurd ⟨k,x,hx,hh.2,hh.1⟩ ((@nS _ (Classical.propDecidable _)).1 h)
  ·rfl
theorem QlJ{ms:List gO}(hl:qF Tb ks ms)(h:sP ks):sP ms:=by
 intro y hy;obtain⟨k,hk⟩:=jF.1 hy;obtain⟨x,hx,hb⟩:=hl.bwd hk;have h1:∀i,i∈x.insts→i.e0=i:=fun i hi=>by obtain⟨j,hj⟩:=jF.1 hi;have h2:=Qi9 (fun l:List aO=>l[j]?) (h x (Qcs hx));simp only[List.getElem?_map,hj,s9,p5]at h2;exact h2
 exact(Qch fun i hi=>h1 i (hb.sub.mem hi)).trans (List.map_id' _)
theorem QlK{ms:List gO}(hg:vU nm pa va ks)(hl:qF Tb ks ms)(h:Xq ks):Xq ms:=by
 intro y hy;obtain⟨k,hk⟩:=jF.1 hy;obtain⟨x,hx,hb⟩:=hl.bwd hk;obtain⟨x0,x1,x2,x3,x4,x5⟩:=h x (Qcs hx);refine⟨fun i hi=>x0 i (hb.sub.mem hi),?_⟩;rw[hb.ah];rcases hb.insts with⟨_,e1,e2,e3,e4⟩|⟨_,_,e1,e2,e3,e4⟩
 ·rw[e1,e2,e3,e4];exact⟨x1,x2,x3,x4,x5⟩
 ·rw[e1,e3,e4];unfold cN at e2;exact⟨⟨oM,oM⟩,Fa,⟨oM,oM⟩,Fa,x5⟩
structure Qnh(nm:cV)(pa va:Int)(n:Nat)(ks rs:List gO):Prop where
 q:xw nm pa va rs
 tight:EJ rs
 len:rs.length=ks.length
 e0:sP rs
 still:QgR n rs
theorem Qbx{n:Nat}:∀(f:Nat) (ks:List gO),wT ks<f→xw nm pa va ks→sP ks→Qnh nm pa va n ks (Qbj n f ks)
 |0,_,h,_,_=>oM
 |f+1,ks,hf,hq,he=>by
  have hp:=(yn hq.UH).2;have hw0:=Qbt ks;unfold Qbj;by_cases h1:Ds (qN ks n) ks=true
  ·rw[dd h1];have:=QkE hq h1;have h:=Qbx (n:=n) f _ oM (hq.knw (qN ks n)) (QlJ (Qbs hq.UH) he);exact⟨h.q,h.tight,by rw[h.len];unfold Qbp;rw[QjN],h.e0,h.still⟩
  ·rw[QcA h1];by_cases h2:sW ks=true
   ·rw[dd h2];have:=Qgc h2;have h:=Qbx (n:=n) f _ oM hq.prune (Qbo he);exact⟨h.q,h.tight,by rw[h.len,o2],h.e0,h.still⟩
   ·rw[QcA h2];by_cases h3:jnT (kg ks)=true
    ·rw[dd h3];have:=Qic hq.prune hp h3;obtain⟨q1,q2,q3⟩:=hq.prune.join hp;have h:=Qbx (n:=n) f _ oM q1 (Qny _ (QfJ (P:=fun s=>sP s.ks) (fun s k hc h=>Qoi hc h) (Qbo he)));exact⟨h.q,h.tight,by rw[h.len];exact q3.trans (o2 ks),h.e0,h.still⟩
    ·rw[QcA h3];by_cases h4:agT (kg ks)=true
     ·rw[dd h4];have:=QmA h4;have h:=Qbx (n:=n) f _ oM hq.prune.ag (QlJ (QdA _) (Qbo he));exact⟨h.q,h.tight,by rw[h.len,Qe6,o2],h.e0,h.still⟩
     ·rw[QcA h4];have h1:Ds (qN ks n) ks=false:=by simpa using h1
      have h2:sW ks=false:=by simpa using h2
      have h3:jnT (kg ks)=false:=by simpa using h3
      have h4:agT (kg ks)=false:=by simpa using h4
      have Mh:=Qj1 hq.UH.UT h2;refine⟨hq.prune,hp,o2 ks,Qbo he,⟨?_,(QkD hq.prune hp h3).2,h4⟩⟩;unfold Ds qN at h1⊢;rw[Mh];exact h1
theorem Qdi{n:Nat}(kx:va≤20000):∀(f:Nat) (ks:List gO),xw nm pa va ks→Xq ks→Xq (Qbj n f ks)
 |0,_,_,h=>h
 |f+1,ks,hq,h=>by
  have hp:=(yn hq.UH).2;unfold Qbj;split
  ·exact Qdi kx f _ (hq.knw _) (QlK hq.UH (Qbs hq.UH) h)
  ·split
   ·exact Qdi kx f _ hq.prune (Qdd h)
   ·split
    ·refine Qdi kx f _ (hq.prune.join hp).1 (QnB kx (Qgb hq.prune hp).1.q ?_);exact QfJ (P:=fun s=>Xq s.ks) (fun s k hc h=>Qoj hc h) (Qdd h)
    ·split
     ·exact Qdi kx f _ hq.prune.ag (QlK hq.prune.UH (QdA _) (Qdd h))
     ·exact Qdd h
end
end Go.Mor
namespace Go.Mor
open Go.RowKit
section
variable {ks : List gO} {fs fd : List ay} {nm : ByteArray} {pa va : Int}
theorem QkF:∀{l m:ar},m.length=l.length→(l.zip m).map (·.1)=l∧(l.zip m).map (·.2)=m
 |[],[],_=>⟨rfl,rfl⟩
 |a::l,b::m,h=>by obtain⟨h1,h2⟩:=QkF (l:=l) (m:=m) (by simpa using h);rw[List.zip_cons_cons,lR,lR,h1,h2];exact⟨rfl,rfl⟩
 |[],_::_,h=>by simp at h
 |_::_,[],h=>by simp at h
theorem QgY(hg:vU nm pa va ks)(ht:EJ ks):kg ks=ks∧sW ks=false:=by
 have hr:∀{k:Nat} {x:gO},ks[k]?=some x→¬(¬Reach (tK ks) (k:Int)∧x.gone=false):=fun {k x} hx h=>h.1 (ht.reach _ (.mk' hx h.2))
 refine⟨QdX fun k=> ?_,?_⟩
 ·cases hx:ks[k]? with
  |none=>rw[List.getElem?_eq_none (by rw[o2];exact List.getElem?_eq_none_iff.1 hx)]
  |some x=>
   rw[tn hx];unfold sj;rw[QcA (hr hx)];unfold K8;congr 1;have:x.ah.map (ke (EU (o1 ks) (k:Int)))=x.ah:=by
    refine(Qch fun p hp=> ?_).trans (Qbi x.ah);have hP:=hg.pK k x hx p hp;have hz:=QkF hP.len;have hf:(p.from_.zip p.args).filter (fun q=>(EU (o1 ks) (k:Int)).contains q.1)=p.from_.zip p.args:=QjO.2 fun q hq=>by
     have h1:q.1∈p.from_:=by have h0:q.1∈(p.from_.zip p.args).map (·.1):=jd.2 ⟨q,hq,rfl⟩;rwa [hz.1]at h0
     have h2:=ht.bS k x hx p hp q.1 h1;have h3:=(Pl hg.UT (k:=k) (s:=q.1)).2 ⟨ht.reach _ (hg.UT.src h2),h2⟩;exact List.contains_iff_mem.2 h3
    show ke _ p=p;unfold ke;rw[hf,hz.1,hz.2]
   rw[this]
 ·unfold sW;refine(@nS _ (Classical.propDecidable _)).2 ?_;rintro⟨k,x,hx,hg,h⟩;exact hr hx ⟨h,hg⟩
noncomputable def Qfj(va:Int)(fs:List ay):List gO:=Rm va.toNat (lN fs)
noncomputable def Qbk(va:Int)(fs:List ay):List ay:=toF (Qfj va fs)
theorem Xh(hv:bV nm pa va fs=0):xw nm pa va (lN fs)∧EJ (lN fs):=by
 obtain⟨hg,kx,jv⟩:=qI hv;have hk:=NP hg;refine⟨⟨hk.1,?_⟩,hk.2⟩;rw[XS,←jS (Q8 fs)];exact jv
theorem Qid(hv:bV nm pa va fs=0):Qnh nm pa va va.toNat (lN fs) (Qfj va fs):=Qbx _ _ (Nat.lt_succ_self _) (Xh hv).1 (Qd8 fs)
theorem Xk(hv:bV nm pa va fs=0):bV nm pa va (Qbk va fs)=0:=by
 have h:=Qid hv;exact QeT h.q.UH h.tight (Qf8 h.e0) (qI hv).2.1 h.q.size
theorem Qg0(hv:bV nm pa va fs=0):(Qbk va fs).length≤fs.length:=by
 have h1:=(Qid hv).len;rw[jR]at h1;unfold Qbk toF;rw[QjN,←h1];exact Qjt _ _
theorem Qhd(hv:bV nm pa va fs=0)(gx:pL fs):pL (Qbk va fs):=by
 have kx:=(qI hv).2.1;have h:=Qid hv;exact QgS h.q.UH (Qdi kx _ _ (Xh hv).1 (Qga gx)) kx h.q.size
theorem Qqf(hc:Pf ks)(ht:Yi ks fd):sX (lN fd)=sX ks:=by
 have e1:sX ks=(pP ks).flatMap (fun x=>x.insts):=by
  have hg:=hc.gone;clear hc ht;induction ks with
  |nil=>rfl
  |cons x ks ih=>
   have ih:=ih fun y hy=>hg y (QiV _ hy)
   unfold sX pP at ih⊢;rw[iC,ih,Qjz];cases h:x.gone with
   |true=>rw[(hg x (en ..) h).2.1];rfl
   |false=>rfl
 rw[e1];unfold sX;rw[Qdz,Qdz];congr 1;refine QdX fun j=> ?_
 rw[List.getElem?_map,List.getElem?_map];by_cases hj:j<fd.length
 ·obtain⟨y,hy⟩:=bu (l:=fd) hj;obtain⟨x,hx⟩:=bu (l:=pP ks) (i:=j) (by rw[ht.1];exact hj);rw[hx,mA hy];exact Qi9 some (ht.2 _ _ _ hx hy).insts
 ·rw[List.getElem?_eq_none (by rw[jR];omega),List.getElem?_eq_none (by rw[ht.1];omega)]
theorem Qbf(fd:List ay):tK (lN fd)=tg (af fd):=by
 show tg (af (fK (lN fd)))=_;rw[XS];refine lJ ?_;rw[Qcn];rfl
theorem Qko(hc:Pf ks){k a:Nat}{b:gO}(hb:ks[k]?=some b)(hg:b.gone=false)(he:b.e=0)(ha:b.a=(a:Int))(cU:a≠k)(hs:∀c,(a:Int)∈tK ks c→c=(k:Int)):I5 (q6 ks) k:=by
 have hka:(a:Int)∈tK ks (k:Int):=by rw[hc.at_ hb];unfold wL;rw[dd he,ha];simp
 obtain⟨i,x,hi,hx,uC⟩:=hc.vj _ _ hka;have:a=i:=oM;subst this;have e:xe (q6 ks).ks k=b:=Qf6 hb;have e2:UO (q6 ks) k=a:=by unfold UO;rw[e,ha];omega
 refine⟨by rw[e];exact hg,by rw[e];exact he,?_,by rw[e2];exact cU,by rw[e2,show xe (q6 ks).ks a=x from Qf6 hx];exact uC⟩;rw[e2];have e3:(q6 ks).S.getD a []=EU ks (a:Int):=by rw[List.getD_eq_getElem?_getD];show((Qge ks)[a]?).getD []=_;rw[Qfc (List.getElem?_eq_some_iff.1 hx).1];rfl
 rw[e3];have C7:(EU ks (a:Int)).Nodup:=by unfold EU;rw[QjE,gS];exact(QjE.1 (Qhq.sublist QjC)).imp fun h e=>h oM
 have hm:=(QgI hc (t:=(a:Int)) (c:=(k:Int))).2 hka;have cA:∀c,c∈EU ks (a:Int)→c=(k:Int):=fun c h=>hs c ((QgI hc).1 h)
 match hl:EU ks (a:Int),C7,hm,cA with
 |[],_,h,_=>cases h
 |[_],_,_,_=>rfl
 |s::t::l,hn,_,hi=>
  have h1:=hi s sI;have h2:=hi t sI;rw[h1,h2]at hn;simp at hn
theorem QkQ{ks:List gO}(hg:vU nm pa va ks)(ht:EJ ks)(jv:(hY (fK ks):Int)≤20000){k:Nat}(h:I5 (q6 ks) k):Qmt ks k (UO (q6 ks) k) (xe ks k) (xe ks (UO (q6 ks) k)):=(QgJ hg ht jv).can h
theorem Qk3{n:Nat}(h:xw nm pa va ks)(Dz:EJ ks)(hs:QgR n ks)(ht:Yi ks fd)(hd:xw nm pa va (lN fd))(hdt:EJ (lN fd)):QgR n (lN fd):=by
 have hc:=h.UH.UT;have dc:=hd.UH.UT;have Mh:=Qqf hc ht;have back:∀{j:Nat} {y:gO},(lN fd)[j]?=some y→∃(i:Nat) (x:gO),ks[i]?=some x∧x.gone=false∧F2 ks (i:Int)=(j:Int)∧y.insts=x.insts∧y.e=x.e∧y.a=toA (ve (nh ks)) x.e x.a:=by intro j y hy;obtain⟨z,hz,rfl⟩:=F4 rfl hy;obtain⟨i,x,hx,hg,YO,hb⟩:=BJ ht hz;exact⟨i,x,hx,hg,by rw[K2 hx hg,YO],hb.insts,hb.e,hb.a⟩
 refine⟨?_,fun j hj=> ?_,?_⟩
 ·have:=hs.k;unfold Ds qN at this⊢;rw[Mh];exact this
 ·have hq:=QkQ hd.UH hdt hd.size hj;obtain⟨k,b,hb,hgb,hnu,_,he,ha⟩:=back hq.hb;have he0:b.e=0:=by rw[←he];exact hq.be
  have hba:(UO (q6 (lN fd)) j:Int)=F2 ks b.a:=by rw[←hq.ba,ha];unfold toA;rw[dd (.inl he0)];rfl
  have hka:b.a∈tK ks (k:Int):=by rw[hc.at_ hb];unfold wL;rw[dd he0];simp
  have hla:=hc.vj _ _ hka;have yE:mB ks (k:Int):= .mk' hb hgb;obtain⟨a,x,hae,hx,uC⟩:=hla;refine hs.j k (Qko hc hb hgb he0 hae (fun e=> ?_) fun c T6=> ?_)
  ·subst e;rw[hae,hnu]at hba;have:=hq.ne;omega
  ·have hlc:=hc.src T6;have h1:=Qc3 hc ht hlc;have h2:F2 ks (a:Int)∈tK (lN fd) (F2 ks c):=by rw[Qbf,h1];exact jd.2 ⟨_,T6,rfl⟩
   rw[←hae,←hba]at h2;have h3:=hq.src _ h2;rw[←hnu]at h3;exact D9 hlc yE h3
 ·cases h9:agT (lN fd)with
  |false=>rfl
  |true=>
   obtain⟨j,y,m,hy,i,hi,ho,hq⟩:=QcL.1 h9;obtain⟨k,x,hx,uC,hnu,o8,_⟩:=back hy;have:agT ks=true:=by
    refine QcL.2 ⟨k,x,m,hx,i,by rw[←o8];exact hi,ho,?_⟩;rw[←o8];refine hq.imp ?_ id;rintro⟨a,z,hz,cU,hak,hdm⟩;obtain⟨a',z',hz',QqI,Qqz,QqJ,_⟩:=back hz;refine⟨a',z',hz',fun e=> ?_,by rw[←QqJ];exact hak,?_⟩
    ·subst e;rw[Qqz]at hnu;omega
    ·rw[Qbf,←hnu,←Qqz]at hdm;exact(Qhn hc ht (.mk' hz' QqI) (.mk' hx uC)).1 hdm
   rw[hs.a]at this;cases this
theorem Qj2(hv:bV nm pa va fs=0)(ha:ec fd (Qbk va fs)):QgR va.toNat (lN fd):=by
 have h:=Qid hv;rw[BA ha];have hd:=Xh (Xk hv);exact Qk3 h.q h.tight h.still (Qf8 h.e0) hd.1 hd.2
theorem Qhf{n:Nat}(h:xw nm pa va ks)(ht:EJ ks)(hs:QgR n ks):Rm n ks=ks:=by
 obtain⟨h1,h2⟩:=QgY h.UH ht;have h3:jnT ks=false:=by
  have hn:∀m,Qc6 ks m=q6 ks:=by
   intro m;induction m with
   |zero=>rfl
   |succ m ih=>rw[UP,ih,Qf7 (hs.j m)]
  unfold jnT Qe4;rw[hn];rfl
 rw[QlI hs.k h2 (by rw[h1];exact h3) (by rw[h1];exact hs.a),h1]
end
end Go.Mor
namespace Go.Mor
open Go.RowKit
def txB(A5 A6 A7:aX):ay:=⟨none,0,[],A7,3,[⟨9,0,0,⟨#[]⟩,none,0,[]⟩,⟨11,-1,1,⟨#[]⟩,A5,1,[0]⟩,⟨11,-1,2,⟨#[]⟩,A6,1,[0]⟩],2,-1,0,0⟩
def txC:ay:=⟨none,0,[],none,2,[⟨9,0,0,⟨#[]⟩,none,0,[]⟩,⟨11,-1,1,⟨#[]⟩,none,1,[0]⟩],2,-1,0,0⟩
def txK:gO:=⟨[],[⟨9,0,0,⟨#[]⟩,none,0,[]⟩,⟨11,-1,1,⟨#[]⟩,none,0,[0]⟩,⟨11,-1,2,⟨#[]⟩,none,0,[0]⟩],2,-1,0,0,false⟩
def txL:gO:=⟨[],[⟨9,0,0,⟨#[]⟩,none,0,[]⟩,⟨11,-1,1,⟨#[]⟩,none,0,[0]⟩],2,-1,0,0,false⟩
theorem Qni{A5 A6 A7:aX}:pL [txB A5 A6 A7]:=by
 intro x hx;rw[QcC]at hx;subst hx;refine⟨by simp[txB,gY],fun p hp=>by simp[txB]at hp,by simp[txB,gY],fun p hp=> ?_,by simp[txB,In64],by simp[txB,In64],by simp[txB,In64],by simp[txB,In64]⟩;simp only[txB,Qcx,QjD,Qck]at hp;rcases hp with rfl|rfl|rfl
 ·exact⟨by simp[In64],by simp[In64],by simp[In64],by show(0:Nat)≤_;omega,by simp[gY],fun x hx=>by simp at hx⟩
 ·exact⟨by simp[In64],by simp[In64],by simp[In64],by show(0:Nat)≤_;omega,by simp[gY],fun x hx=>by simp at hx;subst hx;simp[In64]⟩
 ·exact⟨by simp[In64],by simp[In64],by simp[In64],by show(0:Nat)≤_;omega,by simp[gY],fun x hx=>by simp at hx;subst hx;simp[In64]⟩
theorem Qdn{A5 A6 A7:aX}:bV PH 0 1 [txB A5 A6 A7]=0:=Jv ⟨by simp[hY,jl,txB],by rfl⟩
theorem QlL:bV PH 0 1 [txC]=0:=Jv ⟨by simp[hY,jl,txC],by rfl⟩
theorem QmD{x:gO}(hx:x.e=2)(k:Nat):¬I5 (q6 [x]) k:=by
 rintro⟨h1,h2,_⟩;cases k with
 |zero=>rw[show xe (q6 [x]).ks 0=x from rfl,hx]at h2;cases h2
 |succ k=>rw[show xe (q6 [x]).ks (k+1)=Qof from rfl]at h1;cases h1
theorem QhT{x:gO}(v:Int):¬nU [x] 0 v:=by
 rintro⟨a,y,hy,cU,_⟩;have:=(List.getElem?_eq_some_iff.1 hy).1;simp at this;omega
theorem Qnj:agK [txK]=[txL]∧agT [txK]=true:=by
 have hn:∀j,j<2→gH (nU [txK] 0) txK.insts j=false:=fun j hj=>by
  cases h:gH (nU [txK] 0) txK.insts j with
  |false=>rfl
  |true=>
   exfalso;obtain⟨i,hi,ho,hq⟩:=Cl.1 h;rcases hq with hq|⟨i2,h2,h3,_⟩
   ·exact QhT _ hq
   ·have:j=0∨j=1:=oM;rcases this with rfl|rfl
    ·cases h2
    ·have h2:i2∈[(⟨9,0,0,⟨#[]⟩,none,0,[]⟩:aO)]:=h2;rw[QcC]at h2;rw[h2]at h3;simp at h3
 have hy:QdS (nU [txK] 0) txK.insts 2:=⟨_,rfl,rfl,.inr ⟨⟨11,-1,1,⟨#[]⟩,none,0,[0]⟩,by simp[txK],rfl,rfl⟩⟩;refine⟨?_,QcL.2 ⟨0,txK,2,rfl,hy⟩⟩;have h1:=QgQ (ks:=[txK]) (k:=0) rfl;have hl:=Qe6 [txK];have e:agB [txK] 0 txK=txL:=by unfold agB;rw[show txK.insts.length=2+1 from rfl,QgP (x:=⟨11,-1,2,⟨#[]⟩,none,0,[0]⟩) rfl (Cl.2 hy),QcK hn (by show 2≤3;omega)];rfl
 rw[e]at h1;refine QdX fun i=> ?_
 cases i with
 |zero=>rw[h1];rfl
 |succ i=>rw[List.getElem?_eq_none (by rw[hl];simp),List.getElem?_eq_none sI]
theorem QoY:agT [txL]=false:=by
 cases h:agT [txL]with
 |false=>rfl
 |true=>
  exfalso;obtain⟨k,x,j,hk,i,hi,ho,hq⟩:=QcL.1 h;have:k=0:=by have:=(List.getElem?_eq_some_iff.1 hk).1;simp at this;omega
  subst this;have:txL=x:=by injection hk
  subst this;rcases hq with hq|⟨i2,h2,h3,_⟩
  ·exact QhT _ hq
  ·have hj:j<2:=(List.getElem?_eq_some_iff.1 hi).1;have:j=0∨j=1:=oM;rcases this with rfl|rfl
   ·cases h2
   ·have h2:i2∈[(⟨9,0,0,⟨#[]⟩,none,0,[]⟩:aO)]:=h2;rw[QcC]at h2;rw[h2]at h3;simp at h3
theorem QmE{A5 A6 A7:aX}:Qfj 1 [txB A5 A6 A7]=[txL]:=by
 obtain⟨hq,ht⟩:=Xh (Qdn (A5:=A5) (A6:=A6) (A7:=A7));obtain⟨Xe,oQ⟩:=Xh QlL;have e1:lN [txB A5 A6 A7]=[txK]:=rfl;have e2:lN [txC]=[txL]:=rfl;rw[e1]at hq ht;rw[e2]at Xe oQ;unfold Qfj;rw[e1,show(1:Int).toNat=1 from rfl];obtain⟨p1,p2⟩:=QgY hq.UH ht;have hj:jnT [txK]=false:=kR;have h:=QlH (v:=1) hq kR p2 (by rw[p1];exact hj) (by rw[p1];exact Qnj.2);rw[p1,Qnj.1]at h;rw[←h];exact Qhf Xe oQ ⟨kR,QmD rfl,QoY⟩
theorem QmF{A5 A6 A7:aX}:hY (Qbk 1 [txB A5 A6 A7])=3:=by
 unfold Qbk;rw[QmE];kernel_rfl
end Go.Mor
namespace Go.Mor
open Go.RowKit
end Go.Mor
namespace Go.Mor
open Go.RowKit
def KnF(fs:List ay)(a N:Int):Prop:=0≤a∧∃x,x∈fs∧∃i,i∈x.insts∧i.dst=a∧i.op=1∧i.n=N
abbrev zI:aO:=⟨0,0,0,⟨#[]⟩,none,0,[]⟩
def mkF(fs:List ay)(v:Int):Option aO:=(fs.flatMap (fun x=>x.insts)).find? (fun i=>decide (i.dst=v∧0≤v))
def mkI(fs:List ay)(v:Int):aO:=(mkF fs v).getD zI
def gh(fs:List ay)(v:Int):Bool:=(mkF fs v).isSome
def knO(fs:List ay)(v:Int):Bool:=gh fs v&&decide ((mkI fs v).op=1)
section
variable {fs : List ay} {v : Int} {k m : Nat} {x : ay} {i : aO}
theorem QoW(X7:∀(a:Nat) (y:ay),a<k→fs[a]?=some y→∀i,i∈y.insts→¬(i.dst=v∧0≤v))(hx:fs[k]?=some x)(Ue:∀(a:Nat) (i:aO),a<m→x.insts[a]?=some i→¬(i.dst=v∧0≤v))(hi:x.insts[m]?=some i)(hp:i.dst=v∧0≤v):mkF fs v=some i:=by
 have e:fs.flatMap (fun x=>x.insts)=(fs.take k).flatMap (fun x=>x.insts)++(x.insts.take m++(i::(x.insts.drop (m+1)++(fs.drop (k+1)).flatMap (fun x=>x.insts)))):=by
  conv=>lhs;rw[←xK k fs,BW hx]
  rw[Qi0,iC];conv=>lhs;rw[←xK m x.insts,BW hi]
  simp
 unfold mkF;rw[e,List.find?_append,List.find?_append,List.find?_cons];have h1:((fs.take k).flatMap (fun x=>x.insts)).find? (fun i=>decide (i.dst=v∧0≤v))=none:=by
  rw[List.find?_eq_none];intro j hj;obtain⟨y,hy,hj⟩:=pZ.1 hj;obtain⟨a,ha⟩:=jF.1 hy;have hak:a<k:=by have:=(List.getElem?_eq_some_iff.1 ha).1;rw[QjL]at this;omega
  rw[List.getElem?_take,dd hak]at ha;have:=X7 a y hak ha j hj;simpa using this
 have h2:(x.insts.take m).find? (fun i=>decide (i.dst=v∧0≤v))=none:=by
  rw[List.find?_eq_none];intro j hj;obtain⟨a,ha⟩:=jF.1 hj;have ham:a<m:=by have:=(List.getElem?_eq_some_iff.1 ha).1;rw[QjL]at this;omega
  rw[List.getElem?_take,dd ham]at ha;have:=Ue a j ham ha;simpa using this
 rw[h1,h2];simp[hp]
theorem QoX(hk:fs.length≤k)(X7:∀(a:Nat) (y:ay),a<k→fs[a]?=some y→∀i,i∈y.insts→¬(i.dst=v∧0≤v)):mkF fs v=none:=by
 unfold mkF;rw[List.find?_eq_none];intro j hj;obtain⟨y,hy,hj⟩:=pZ.1 hj;obtain⟨a,ha⟩:=jF.1 hy;have:=X7 a y (by have:=(List.getElem?_eq_some_iff.1 ha).1;omega) ha j hj;simpa using this
theorem Qqg(h:mkF fs v=some i):0≤v∧∃x,x∈fs∧i∈x.insts∧i.dst=v:=by
 unfold mkF at h;have h1:=List.find?_some h;obtain⟨x,hx,hi⟩:=pZ.1 (List.mem_of_find?_eq_some h);simp only[QcD]at h1;exact⟨h1.2,x,hx,hi,h1.1⟩
theorem QpV(h:knO fs v=true):KnF fs v (mkI fs v).n:=by
 unfold knO gh at h;rw[Qjo]at h;obtain⟨h1,h2⟩:=h;obtain⟨i,hi⟩:=Option.isSome_iff_exists.1 h1;have e:mkI fs v=i:=by unfold mkI;rw[hi];rfl
 rw[e]at h2⊢;obtain⟨q1,x,q2,q3,q4⟩:=Qqg hi;exact⟨q1,x,q2,i,q3,q4,nF h2,rfl⟩
end
end Go.Mor
namespace Go.Mor
open Go.RowKit
structure QjY(fs:List ay):Prop where
 jmp:∀(k:Nat) (x:ay),fs[k]?=some x→x.e=0→2≤(bS (af fs) x.a).length
 arg:∀x,x∈fs→∀i,i∈x.insts→i.op=11→i.args.length=1
 known:∀x,x∈fs→∀i,i∈x.insts→i.op=11→¬∃N,KnF fs (QfH i) N
 asked:∀(b:Nat) (x:ay) (m:Nat) (i:aO),fs[b]?=some x→x.insts[m]?=some i→i.op=11→∀(d k:Nat) (y:ay) (j:aO),fs[d]?=some y→y.insts[k]?=some j→j.op=11→QfH j=QfH i→¬((d=b∧k<m)∨(d≠b∧gz (af fs) (d:Int) (b:Int)))
theorem Qk4{T:Int→ar}{k:Int}(h:∀c,k∈T c→c=k){b:Int}(hb:Reach T b):b=k→k=0:=by
 induction hb with
 |zero=>intro e;exact e.symm
 |step _ ht ih=>intro e;subst e;exact ih (h _ ht)
theorem Qmf{fs fd:List ay}{nm:cV}{pa va:Int}(hv:bV nm pa va fs=0)(ha:ec fd (Qbk va fs)):QjY fd:=by
 have hvd:bV nm pa va fd=0:=(oC ha).trans (Xk hv);obtain⟨hg,_,_⟩:=qI hvd;obtain⟨n,hn⟩:=yA (show 0≤va by have:=hg.par;omega);have hs:=Qj2 hv ha;rw[show va.toNat=n by omega]at hs;obtain⟨W5,htk⟩:=NP hg;have hc:=W5.UT;have hca:=Qj3 (Qqe W5.par.1 hn W5.once);have mem:∀{x:ay},x∈fd→∃z,z∈lN fd∧z.insts=x.insts.map aO.e0:=by intro x hx;obtain⟨k,hk⟩:=jF.1 hx;exact⟨_,Qcs (mA hk),rfl⟩
 have kn:∀{a N:Int},KnF fd a N→XU (qN (lN fd) n) a=true:=by rintro a N ⟨_,x,hx,i,hi,rfl,h1,rfl⟩;obtain⟨z,hz,hzi⟩:=mem hx;have h2:(qN (lN fd) n).getD i.dst.toNat (false,0)=(true,i.n):=hca i.e0 (pZ.2 ⟨z,hz,by rw[hzi];exact jd.2 ⟨i,hi,rfl⟩⟩) h1;unfold XU;rw[h2]
 refine⟨fun k x hx he=> ?_,fun x hx i hi Uq=> ?_,fun x hx i hi Uq ⟨N,hk⟩=> ?_,fun b x m i hx hi Uq d k y j hy hj QqA Yb hor=> ?_⟩
 ·refine Classical.byContradiction fun fm=> ?_
  have hz:=mA hx;have DT:=hg.ends x (Qcs hx);have IH:0≤x.a∧x.a<(fd.length:Int):=by unfold ix at DT;omega
  obtain⟨a,hae⟩:=yA IH.1;have hka:(a:Int)∈tK (lN fd) (k:Int):=by rw[hc.at_ hz];unfold wL;rw[dd (show(Bx fd k x).e=0 from he),show(Bx fd k x).a=x.a from rfl,hae];simp
  have hms:∀c,(a:Int)∈tK (lN fd) c→c∈bS (af fd) (a:Int):=fun c h=>by obtain⟨i,z,rfl,hz,_⟩:=hc.src h;refine AN.2 ⟨⟨oM,?_⟩,by rw[←Qbf];exact h⟩;have:=(List.getElem?_eq_some_iff.1 hz).1;rw[jR]at this;rw[bE];omega
  have QS:∀c,(a:Int)∈tK (lN fd) c→c=(k:Int):=fun c h=>by
   have h1:=hms c h;have h2:=hms _ hka;rw[hae]at fm;match hl:bS (af fd) (a:Int),h1,h2,fm with
   |[],h1,_,_=>cases h1
   |[s],h1,h2,_=>
    rw[QcC]at h1 h2;omega
   |s::t::l,_,_,fm=>exact absurd (by simp only[je];omega) fm
  by_cases hak:a=k
  ·subst hak;have hr:=htk.reach _ (.mk' hz rfl);have h0:=Qk4 QS hr rfl;rw[h0]at hka;have h2:=hms _ (by rw[h0];exact hka);rw[h0]at h2;have h3:=hg.src;rw[Qf5.1 h3]at h2;cases h2
  ·exact hs.j k (Qko hc hz rfl he hae hak QS)
 ·obtain⟨z,hz,hzi⟩:=mem hx;have Ss:bJ i.e0:=W5.Xv z hz _ (by rw[hzi];exact jd.2 ⟨i,hi,rfl⟩);have h2:=Ss.2;have VX:i.e0.op=i.op:=rfl;have Vh:i.e0.args.length=i.args.length:=rfl;omega
 ·obtain⟨z,hz,hzi⟩:=mem hx;have h1:=hs.k;unfold Ds at h1;have h2:=vA.1 h1 i.e0 (pZ.2 ⟨z,hz,by rw[hzi];exact jd.2 ⟨i,hi,rfl⟩⟩);refine h2 ?_;unfold W9;rw[show i.e0.op=i.op from rfl,Uq,show QfH i.e0=QfH i from rfl,kn hk];rfl
 ·have hz:=mA hx;have hzd:=mA hy;have e1:(Bx fd b x).insts=x.insts.map aO.e0:=rfl;have e2:(Bx fd d y).insts=y.insts.map aO.e0:=rfl;have:agT (lN fd)=true:=by
   refine QcL.2 ⟨b,_,m,hz,i.e0,by rw[e1,List.getElem?_map,hi];rfl,Uq,?_⟩;rcases hor with⟨rfl,fm⟩|⟨cU,hov⟩
   ·refine .inr ⟨j.e0,?_,QqA,Yb⟩;rw[hx]at hy;injection hy with hy;subst hy;rw[e1];refine Qcs (i:=k) ?_;rw[List.getElem?_take,dd fm,List.getElem?_map,hj];rfl
   ·refine .inl ⟨d,_,hzd,cU,⟨j.e0,by rw[e2];exact jd.2 ⟨j,Qcs hj,rfl⟩,QqA,Yb⟩,?_⟩;rw[Qbf];have kH:=(List.getElem?_eq_some_iff.1 hx).1;have LC:=(List.getElem?_eq_some_iff.1 hy).1;have wA:=bE fd;exact(Nk (by rw[wA];exact hg.pos) (by rw[wA];exact hg.all) oM oM).1 hov
  rw[hs.a]at this;cases this
end Go.Mor
