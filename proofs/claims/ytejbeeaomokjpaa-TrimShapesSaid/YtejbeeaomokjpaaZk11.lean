/-
  Texts of the proof, part 11.
-/
import Derived.Test.YtejbeeaomokjpaaZk10
import Derived.Shelf.SlSortCmp.Whole1
set_option maxRecDepth 10000
namespace Go.Mor
open Go.RowKit Go.Sort Go.Proofs
def Gw(w w':World):Prop:=∃q os,w'=grow (w.drewN q) os
theorem Gw.refl(w:World):Gw w w:=⟨0,#[],by rw[grow_empty];rfl⟩
theorem Gw.drew{w w':World}(h:Gw w w'):Gw w w'.drew:=by
 obtain⟨q,os,rfl⟩:=h;exact⟨q+1,os,rfl⟩
theorem Gw.kp{w w':World}(h:Gw w w'):Mem bK w w' []:=by
 obtain⟨q,os,rfl⟩:=h;refine⟨rfl,rfl,rfl,by simp[grow,World.drewN],fun k hk _=> ?_,sI,jT⟩;show(w.heap++os)[k]?=w.heap[k]?;rw[Array.getElem?_append_left hk]
end Go.Mor
namespace Go.Mor
open Go.RowKit Go.Sort Go.Proofs
theorem tm{α:Type}[Inhabited α](enc:α→Value)(d:Array α)(cur:Array Value)(h:d.size≤cur.size):((putCells enc 0 d cur).toList).take d.size=d.toList.map enc:=by
 refine QdX fun i=> ?_
 by_cases hi:i<d.size
 ·have h2:i<cur.size:=oM;have e1:(putCells enc 0 d cur).toList[i]?=some (enc d[i]!):=by unfold putCells;rw[Array.getElem?_toList,Array.getElem?_mapIdx,Array.getElem?_eq_getElem h2];simp[hi]
  rw[List.getElem?_take_of_lt hi,e1,List.getElem?_map,Array.getElem?_toList,Array.getElem?_eq_getElem hi];simp[hi]
 ·rw[List.getElem?_eq_none (by rw[QjL];omega),List.getElem?_eq_none (by simp;omega)]
theorem BE{α:Type}[Inhabited α](enc:α→Value){w:World}{e n c g:Nat}{xs:aW}(h:(bo.row e 1 (some (aZ g)) n c xs).holds w)(m:Nat){dk:Array α}(hd:dk.size=n)(os:Array Obj):Mem (bo.row e 1 (some (aZ g)) n c xs).fp w (sortWorld enc w g 0 m dk os) [.row e 1 (some (aZ g)) n c (dk.toList.map enc)]:=by
 obtain⟨hl,h2⟩:=h;rcases h2 with⟨h2,_⟩|⟨g',cap,cur,hv,hb,hg,Ps,T6,Cn,ht⟩
 ·cases h2
 injection hv with hv _ hc;injection hv with hv;injection hv with hv;subst hv hc;have fm:g<w.heap.size:=mI hg;have Jg:(sortWorld enc w g 0 m dk os).heap=(w.heap.modify g (onCells (putCells enc 0 dk)))++os:=rfl;refine⟨rfl,rfl,rfl,?_,fun k hk cU=> ?_,?_,cc _ _⟩
 ·rw[Jg];simp
 ·rw[Jg,Array.getElem?_append_left (by simpa using hk),Array.getElem?_modify,QcA];intro e1;subst e1;exact cU ⟨(aZ g),rfl,rfl⟩
 ·simp only[QcC];rintro _ rfl;refine⟨⟨by simp[hd],.inr ⟨g,c,putCells enc 0 dk cur,rfl,hb,?_,Ps,T6,?_,?_⟩⟩,fun k hk=> .inl hk⟩
  ·rw[Jg,Array.getElem?_append_left (by simpa using fm),Array.getElem?_modify,dd rfl,hg];rfl
  ·simpa[putCells]using Cn
  ·rw[QiX,←hd];refine tm enc dk cur ?_;rw[QiX]at Cn;omega
theorem Ga{α:Type}[Inhabited α](enc:α→Value){w:World}{e n c g:Nat}{d:Array α}(h:(bo.row e 1 (some (aZ g)) n c (d.toList.map enc)).holds w):Holds enc w g 0 d:=by
 intro j hj;obtain⟨ad,ha,hc⟩:=aB h j (enc d[j]!) (by rw[List.getElem?_map,Array.getElem?_toList,Array.getElem?_eq_getElem hj];simp[hj]);injection ha with ha;subst ha;rw[yq]at hc;have hf:=mK h j;rw[yq]at hf;exact⟨by rw[Qgu];exact hc,by rw[Qgu];exact hf⟩
def jY(n:Nat)(key:Nat→Int)(il:List Nat):Prop:=il.Perm (List.range n)∧il.Pairwise (fun i j=>key i≤key j)
def rJ(nl fl:ar)(i:Nat):Int:=nl.getD (fl.getD i 0).toNat 0
def gD(l:List Nat):ar:=l.map (fun i:Nat=>(i:Int))
theorem Gb{l:List Nat}{j i:Nat}(h:l[j]?=some i):(gD l)[j]?=some (i:Int):=by simp[gD,h]
theorem Gc{f:Nat→Int}{l:List Nat}{j i:Nat}(h:l[j]?=some i):(l.take (j+1)).map f=(l.take j).map f++[f i]:=by
 obtain⟨hj,he⟩:=List.getElem?_eq_some_iff.1 h;rw[QjK hj,Qjy,he];rfl
def s7(n j:Nat):ar:=gD (List.range j)++List.replicate (n-j) 0
theorem Dn(n:Nat):ints (s7 n 0)=List.replicate n (vI 0):=by simp[s7,gD,ints]
theorem Gd(n:Nat):s7 n n=gD (List.range n):=by simp[s7]
theorem Dp{n j:Nat}(h:j<n):(ints (s7 n j)).set j (vI (j:Int))=ints (s7 n (j+1)):=by
 unfold s7 gD ints;obtain⟨d,hd⟩:=Nat.le.dest h;rw[show n-j=d+1 by omega,show n-(j+1)=d by omega,QfI,lh];simp
def zh(n:Nat)(i:Fin n):Value:=vI (i.val:Int)
def Rg(nl fl:ar)(n:Nat)(i j:Fin n):Int:=rJ nl fl i.val-rJ nl fl j.val
theorem Nx(nl fl:ar)(n:Nat):SWO (ltOf (Rg nl fl n)):=by
 have e:∀x y,ltOf (Rg nl fl n) x y=decide (rJ nl fl x.val<rJ nl fl y.val):=by intro x y;unfold ltOf Rg;exact decide_eq_decide.2 oM
 refine⟨fun x=> ?_,fun x y z h1 h2=> ?_,fun x y z h1 h2=> ?_⟩
 ·rw[e];simp
 ·rw[e]at*;simp at*;omega
 ·rw[e]at*;simp at*;omega
theorem Dq(n:Nat):((Array.ofFn (n:=n) id).toList).map (zh n)=ints (gD (List.range n)):=by
 refine QdX fun i=> ?_
 by_cases hi:i<n
 ·simp[ints,gD,zh,hi]
 ·simp[ints,gD,zh,hi]
theorem Qkg{nl fl:ar}{n:Nat}[Inhabited (Fin n)]{d':Array (Fin n)}(hp:PermIn 0 (Array.ofFn (n:=n) id).size (Array.ofFn (n:=n) id) d')(hs:SortedIn (ltOf (Rg nl fl n)) 0 (Array.ofFn (n:=n) id).size d'):jY n (rJ nl fl) (d'.toList.map (·.val))∧d'.toList.map (zh n)=ints (gD (d'.toList.map (·.val))):=by
 obtain⟨h1,_,h3⟩:=hp;have hn:(Array.ofFn (n:=n) id).size=n:=sI;have pD:d'.size=n:=by rw[h1,hn]
 refine⟨⟨?_,?_⟩,?_⟩
 ·have e1:d'.extract 0 (Array.ofFn (n:=n) id).size=d':=by rw[←h1];exact Array.extract_size
  rw[e1,Array.extract_size]at h3;have:=h3.map (fun i:Fin n=>i.val);refine this.trans ?_;have e2:((Array.ofFn (n:=n) id).toList).map (fun i:Fin n=>i.val)=List.range n:=by
   refine QdX fun i=> ?_
   by_cases hi:i<n<;>simp[hi]
  rw[e2]
 ·rw[QiW];intro i j hi hj Mu;simp only[QjN,Array.length_toList]at hi hj;have:=hs i j (Qdv _) Mu (by rw[hn,←pD];exact hj);rw[getElem!_pos d' j oM,getElem!_pos d' i oM]at this;unfold ltOf Rg at this;simp only[nS]at this;simp only[List.getElem_map,Array.getElem_toList];omega
 ·unfold ints gD;rw[Qcn,Qcn];rfl
end Go.Mor
namespace Go.Mor
open Go.RowKit
def qF{α β:Type}(R:α→β→Prop)(l:List α)(m:List β):Prop:=l.length=m.length∧∀(i:Nat) (x:α) (y:β),l[i]?=some x→m[i]?=some y→R x y
section
variable {α β : Type} {R : α → β → Prop} {l : List α} {m : List β}
theorem qF.nil:qF R [] []:=⟨rfl,fun i x y h=>by simp at h⟩
theorem qF.snoc(h:qF R l m){x:α}{y:β}(hr:R x y):qF R (l++[x]) (m++[y]):=by
 obtain⟨hl,h⟩:=h;refine⟨by simp[hl],fun i a b ha hb=> ?_⟩;rcases iR i l.length with h1|h1|h1
 ·rw[List.getElem?_append_left h1]at ha;rw[List.getElem?_append_left oM]at hb;exact h i a b ha hb
 ·subst h1;rw[List.getElem?_append_right (Qjn _),QiN]at ha;rw[List.getElem?_append_right oM,hl,QiN]at hb;simp at ha hb;subst ha hb;exact hr
 ·rw[List.getElem?_eq_none (by simp;omega)]at ha;cases ha
theorem qF.next{k:Nat}(h:qF R (l.take k) m){x:α}(hx:l[k]?=some x){y:β}(hr:R x y):qF R (l.take (k+1)) (m++[y]):=by
 obtain⟨hk,he⟩:=List.getElem?_eq_some_iff.1 hx;rw[QjK hk,he];exact h.snoc hr
end
def rK(gl:List Bool)(k:Nat):Nat:=((gl.take k).filter (fun b=> !b)).length
def qG(gl:List Bool)(k:Nat):ar:=(List.range gl.length).map (fun i=>if i<k∧gl.getD i true=false then(rK gl i:Int)else 0)
theorem EG(gl:List Bool)(k:Nat):rK gl k≤k:=by
 unfold rK;exact pX (Qjt _ _) (by simp;omega)
theorem Jh{gl:List Bool}{k:Nat}(h:gl[k]?=some false):rK gl (k+1)=rK gl k+1:=by
 obtain⟨hk,he⟩:=List.getElem?_eq_some_iff.1 h;unfold rK;rw[QjK hk,xH,he];simp
theorem Ny{gl:List Bool}{k:Nat}(h:gl[k]?=some true):rK gl (k+1)=rK gl k:=by
 obtain⟨hk,he⟩:=List.getElem?_eq_some_iff.1 h;unfold rK;rw[QjK hk,xH,he];simp
theorem BF(gl:List Bool)(k:Nat):(qG gl k).length=gl.length:=by simp[qG]
theorem Ge(gl:List Bool):ints (qG gl 0)=List.replicate gl.length (vI 0):=by
 unfold qG ints;simp only[zF,Qcj,sy,Qcn];refine QdX fun i=> ?_
 by_cases hi:i<gl.length
 ·simp[hi]
 ·simp[hi]
theorem Ji{gl:List Bool}{k:Nat}(h:gl[k]?=some false):(ints (qG gl k)).set k (vI (rK gl k:Int))=ints (qG gl (k+1)):=by
 obtain⟨hk,he⟩:=List.getElem?_eq_some_iff.1 h;unfold qG ints;refine QdX fun i=> ?_
 by_cases hi:i<gl.length
 ·by_cases e:k=i
  ·subst e;rw[List.getElem?_set_self (by simpa using hk)];simp[hk,List.getD,he]
  ·rw[List.getElem?_set_ne e];simp only[List.getElem?_map,List.getElem?_range hi,s9];have:(i<k∧gl.getD i true=false)↔(i<k+1∧gl.getD i true=false):=and_congr oM Qi1;simp only[this]
 ·rw[List.getElem?_eq_none (by simp;omega),List.getElem?_eq_none (by simp;omega)]
theorem Nz{gl:List Bool}{k:Nat}(h:gl[k]?=some true):qG gl k=qG gl (k+1):=by
 obtain⟨hk,he⟩:=List.getElem?_eq_some_iff.1 h;unfold qG;refine Qch fun i _=> ?_
 have:(i<k∧gl.getD i true=false)↔(i<k+1∧gl.getD i true=false):=by
  by_cases e:i=k
  ·subst e;simp[List.getD,h]
  ·exact and_congr oM Qi1
 simp only[this]
def ve(gl:List Bool):ar:=qG gl gl.length
theorem BG{gl:List Bool}{k i:Nat}(hi:i<gl.length):(qG gl k).getD i 0=if i<k∧gl.getD i true=false then(rK gl i:Int)else 0:=by
 unfold qG;rw[List.getD_eq_getElem?_getD,List.getElem?_map,List.getElem?_range hi];rfl
theorem Jj(gl:List Bool)(k:Nat)(hl:gl.length≤1000000):0≤(ve gl).getD k 0∧(ve gl).getD k 0≤1000000:=by
 unfold ve;by_cases hk:k<gl.length
 ·have:=EG gl k;rw[BG hk];by_cases hc:k<gl.length∧gl.getD k true=false
  ·rw[dd hc];omega
  ·rw[QcA hc];omega
 ·rw[List.getD_eq_getElem?_getD,List.getElem?_eq_none (by rw[BF];omega)];simp
def nh(ks:List gO):List Bool:=ks.map (fun x=>x.gone)
def toA(nl:ar)(e a:Int):Int:=if e=0∨e=1 then nl.getD a.toNat 0 else if e=3 then a else 0
def toBb(nl:ar)(e b:Int):Int:=if e=1 then nl.getD b.toNat 0 else 0
def ZG(nl:ar)(p:vb)(q:bI):Prop:=q.dst=p.dst∧∃il,jY p.from_.length (rJ nl p.from_) il∧q.args=il.map (fun i=>p.args.getD i 0)
structure iM(nl:ar)(x:gO)(y:ay):Prop where
 ah:qF (ZG nl) x.ah y.ah
 insts:y.insts.map aO.e0=x.insts
 e:y.e=x.e
 v:y.v=x.v
 a:y.a=toA nl x.e x.a
 b:y.b=toBb nl x.e x.b
def pP(ks:List gO):List gO:=ks.filter (fun x=> !x.gone)
def Yi(ks:List gO)(fs:List ay):Prop:=qF (iM (ve (nh ks))) (pP ks) fs
structure Rh(n:Int)(x:gO):Prop where
 lp:x.ah.length≤20000
 ah:∀p,p∈x.ah→0<p.from_.length∧p.from_.length≤20000∧p.args.length=p.from_.length∧∀s,s∈p.from_→0≤s∧s<n
 e0:x.e=0→0≤x.a∧x.a<n
 e1:x.e=1→(0≤x.a∧x.a<n)∧0≤x.b∧x.b<n
theorem Jk{ks:List gO}{k:Nat}{x:gO}(hx:ks[k]?=some x)(h:x.gone=false):pP (ks.take (k+1))=pP (ks.take k)++[x]:=by
 obtain⟨hk,he⟩:=List.getElem?_eq_some_iff.1 hx;unfold pP;rw[QjK hk,xH,he];simp[h]
theorem NB{ks:List gO}{k:Nat}{x:gO}(hx:ks[k]?=some x)(h:x.gone=true):pP (ks.take (k+1))=pP (ks.take k):=by
 obtain⟨hk,he⟩:=List.getElem?_eq_some_iff.1 hx;unfold pP;rw[QjK hk,xH,he];simp[h]
section
variable {w : World} {A : Option Addr} {c : Nat} {ad : Addr} {k : Nat} {gs : List bz} {x : bz}
theorem tW(h:(jh A c gs).holds w)(hA:A=some ad)(hx:gs[k]?=some x):w.cell? (ad.add (k*1))=some (vP (aZ x.g)):=bB (aB h) hA (by unfold jA;rw[List.getElem?_map,hx];rfl)
theorem BH(h:(bo.pk (gs.map gB)).holds w)(hx:gs[k]?=some x){r:bo}(hr:r∈gL x):r.holds w:=oE (oE h (jd.2 ⟨x,Qcs hx,rfl⟩):(gB x).holds w) hr
theorem ng(h:(bo.pk (gs.map gB)).holds w)(hx:gs[k]?=some x){j:Nat}{v:Value}(hj:(gV x)[j]?=some v):w.cell? (ak x.g j)=some v:=ae (BH h hx (r:= .au x.g 65 (gV x)) sI) hj
theorem NC(hx:gs[k]?=some x):(nh (gs.map bz.k))[k]?=some x.gone:=by
 unfold nh;rw[List.getElem?_map,List.getElem?_map,hx];rfl
theorem xP(ks:List gO):(nh ks).length=ks.length:=by simp[nh]
end
end Go.Mor
namespace Go.Mor
open Go.RowKit
def cI.f(p:cI):bI:=⟨p.dst,none,0,p.args⟩
def bz.f(x:bz):ay:=⟨none,0,x.ah.map cI.f,none,0,x.insts.map aO.e0,x.e,x.v,x.a,x.b⟩
section
variable {fs : List ay} {gs : List bz} {nm : ByteArray} {pa va : Int}
theorem UJ(h:gs.map bz.k=lN fs):gs.map bz.f=fs.map ay.e0:=by
 have hl:gs.length=fs.length:=by have:=Qi9 List.length h;rwa [QjN,jR]at this
 refine QdX fun i=> ?_
 rw[List.getElem?_map,List.getElem?_map];by_cases hi:i<fs.length
 ·obtain⟨x,hx⟩:=bu (l:=fs) hi;obtain⟨y,hy⟩:=bu (l:=gs) (i:=i) oM;have h1:=Qi9 (fun l:List gO=>l[i]?) h;simp only[List.getElem?_map,hy,s9,mA hx]at h1;injection h1 with h1;rw[hx,hy,s9,s9];congr 1;unfold bz.f ay.e0;have e1:y.ah.map cI.k=x.ah.map (oG (bS (af fs) (i:Int))):=Qi9 gO.ah h1;have e2:y.insts.map aO.e0=x.insts.map aO.e0:=Qi9 gO.insts h1;have e3:y.e=x.e:=Qi9 gO.e h1;have e4:y.v=x.v:=Qi9 gO.v h1;have e5:y.a=x.a:=Qi9 gO.a h1;have e6:y.b=x.b:=Qi9 gO.b h1;have e7:y.ah.map cI.f=x.ah.map bI.e0:=by have h2:=Qi9 (List.map (fun p:vb=>(⟨p.dst,none,0,p.args⟩:bI))) e1;rw[Qcn,Qcn]at h2;exact h2
  rw[e2,e3,e4,e5,e6,e7]
 ·rw[List.getElem?_eq_none oM,List.getElem?_eq_none oM];rfl
theorem BI(h:gs.map bz.k=lN fs):ec fs (gs.map bz.f):=by
 unfold ec;rw[UJ h,Qcn];refine Qch fun x _=> ?_
 show x.e0=x.e0.e0;unfold ay.e0;simp only[Qcn];rfl
end
theorem Qeu{α β:Type}{f:α→List β}:∀{l:List α} {x:α},x∈l→(f x).Sublist (l.flatMap f)
 |a::l,x,h=>by
  rw[iC];rcases Qcx.1 h with rfl|h
  ·exact List.sublist_append_left _ _
  ·exact(Qeu h).trans (Qh3 _ _)
abbrev FrE:=aX×Nat×ar
structure Wk(gs:List bz)(n:Nat)(fc:List FrE)(rl:List Bool)(ls:ar):Prop where
 len:rl.length=n
 rd:∀i:Nat,i<n→rl.getD i false=true→Rd (gs.map bz.f) (i:Int)
 Tv:∀v,v∈ls→0≤v∧v<(n:Int)∧rl.getD v.toNat false=true
 PF:ls.length≤vd rl
 closed:∀i:Nat,i<n→rl.getD i false=true→(i:Int)∈ls∨∀e,fc[i]?=some e→∀a,a∈e.2.2→0≤a→rl.getD a.toNat false=true
end Go.Mor
namespace Go.Mor
open Go.RowKit
end Go.Mor
namespace Go.Mor
end Go.Mor
namespace Go.Mor
open Go.RowKit
structure VR(n:Nat)(x:ay):Prop where
 ah:∀p,p∈x.ah→0≤p.dst∧p.dst<(n:Int)
 insts:∀p,p∈x.insts→-1≤p.dst∧p.dst<(n:Int)∧∀a,a∈p.args→0≤a∧a<(n:Int)
 fin:wo x→0≤x.v∧x.v<(n:Int)
end Go.Mor
namespace Go.Mor
open Go.RowKit
end Go.Mor
namespace Go.Mor
end Go.Mor
namespace Go.Mor
end Go.Mor
namespace Go.Mor
open Go.RowKit
theorem Jl{fs:List ay}{k:Nat}{x:ay}{p:bI}(hx:fs[k]?=some x)(hp:p∈x.ah):(p.dst,(k:Int),-1)∈bF fs:=by
 unfold bF db;rw[Qcg,pZ];exact⟨(x,k),Qi2.2 hx,Qi6 _ (jd.2 ⟨p,hp,rfl⟩)⟩
theorem BK{fs:List ay}{k j:Nat}{x:ay}{p:aO}(hx:fs[k]?=some x)(hp:x.insts[j]?=some p)(hm:aU p.op):(p.dst,(k:Int),(j:Int))∈bF fs:=by
 unfold bF db;rw[Qcg,pZ];exact⟨(x,k),Qi2.2 hx,Qjl _ (jd.2 ⟨(p,j),Qjr.2 ⟨Qi2.2 hp,by simpa using hm⟩,rfl⟩)⟩
section
variable {nm : ByteArray} {pa va : Int} {fs : List ay} {n : Nat}
theorem NH(h:j9 nm pa va fs)(kx:va=(n:Int)):∀x,x∈fs→VR n x:=by
 intro x hx;obtain⟨k,hk⟩:=jF.1 hx;have Jm:=(List.getElem?_eq_some_iff.1 hk).1;obtain⟨y,hy,hr⟩:=h.reads k Jm;rw[hk]at hy;injection hy with hy;subst hy;have I6:=h.par;refine⟨fun p hp=> ?_,fun p hp=> ?_,fun hf=> ?_⟩
 ·have:=h.QbQ.2.1 _ (Jl hk hp);simp only at this;omega
 ·obtain⟨j,hj⟩:=jF.1 hp;have ha:∀a,a∈p.args→0≤a∧a<(n:Int):=by intro a ha;obtain⟨i,hi⟩:=jF.1 ha;have:=hr.insts j p hj i a hi;exact⟨this.1,by rw[←kx];exact this.2.1⟩
  by_cases hm:aU p.op
  ·have:=h.QbQ.2.1 _ (BK hk hj hm);simp only at this;exact⟨oM,oM,ha⟩
  ·rcases(h.QbQ.1 x hx p hp).1 with h1|h1
   ·exact absurd h1 hm
   ·exact⟨oM,oM,ha⟩
 ·have:=hr.fin (by unfold wo at hf;unfold pE;omega);exact⟨this.1,by rw[←kx];exact this.2.1⟩
end
end Go.Mor
namespace Go.Mor
open Go.RowKit
theorem qI{nm:cV}{pa va:Int}{fs:List ay}(h:bV nm pa va fs=0):j9 nm pa va fs∧va≤20000∧(hY fs:Int)≤20000:=by
 unfold bV at h;split at h
 ·omega
 ·split at h
  ·rename_i h1 h2;exact⟨h2,oM,oM⟩
  ·omega
end Go.Mor
namespace Go.Mor
open Go.RowKit
def gO.f(x:gO):ay:=⟨none,0,x.ah.map (fun p=>⟨p.dst,none,0,p.args⟩),none,0,x.insts,x.e,x.v,x.a,x.b⟩
structure PG(n:Int)(p:vb):Prop where
 up:p.from_.Pairwise (·<·)
 yW:∀s,s∈p.from_→0≤s∧s<n
 len:p.args.length=p.from_.length
def O9(n:Int)(x:gO):Prop:=(x.e=0∧(0≤x.a∧x.a<n)∧x.v=0∧x.b=0)∨(x.e=1∧(0≤x.a∧x.a<n)∧(0≤x.b∧x.b<n)∧x.a≠x.b)∨(x.e=2∧x.a=0∧x.b=0)∨(x.e=3∧cN x.a∧x.v=0∧x.b=0)
theorem NK(bs:List SB)(b:Int):(bS bs b).Pairwise (·<·):=by
 unfold bS dW;rw[gS];refine List.Pairwise.filter _ ?_;refine List.pairwise_lt_range.imp ?_;intro a b h;exact Int.ofNat_lt.2 h
section
variable {nm : ByteArray} {pa va : Int} {fs : List ay} {n : Nat}
theorem Jq(h:j9 nm pa va fs){k:Nat}(hk:k<fs.length)(h0:k≠0):0<(bS (af fs) (k:Int)).length:=by
 have hr:Reach (tg (af fs)) (k:Int):=by have h1:=mv (bs:=af fs);rw[bE]at h1;exact jO.1 (h1.1 h.all k hk)
 have:∀x:Int,Reach (tg (af fs)) x→x≠0→∃s,s∈bS (af fs) x:=by
  intro x hx cU;cases hx with
  |zero=>exact absurd rfl cU
  |step hs ht=>
   rename_i s;refine⟨s,AN.2 ⟨?_,ht⟩⟩;exact mu (by rw[bE];exact h.pos) hs
 obtain⟨s,hs⟩:=this _ hr oM;exact QdG hs
theorem EH(hv:bV nm pa va fs=0)(hN:fs.length≤1000):Re fs:=by
 obtain⟨h,_,jv⟩:=qI hv;have hp:∀(k:Nat) (x:ay),fs[k]?=some x→x.ah.length+x.insts.length≤hY fs:=by
  intro k x hx;have hm:x.ah.length+x.insts.length∈(fs.take fs.length).map (fun x=>x.ah.length+x.insts.length):=by rw[uK (Qjn _)];exact jd.2 ⟨x,Qcs hx,rfl⟩
  have:∀l:List Nat,∀a,a∈l→a≤l.sum:=by
   intro l;induction l with
   |nil=>intro a ha;cases ha
   |cons b l ih=>
    intro a ha;rcases Qcx.1 ha with rfl|ha
    ·simp
    ·have:=ih a ha;simp;omega
  have:=this _ _ hm;unfold hY jl;omega
 have key:∀x,x∈fs→∃k:Nat,fs[k]?=some x:=fun x hx=>jF.1 hx
 refine⟨fun x hx=> ?_,fun x hx=> ?_,fun x hx p jL=> ?_,fun x hx i hi=> ?_⟩
 ·obtain⟨k,hk⟩:=key x hx;have:=hp k x hk;omega
 ·obtain⟨k,hk⟩:=key x hx;have:=hp k x hk;omega
 ·obtain⟨k,hk⟩:=key x hx;obtain⟨y,hy,hr⟩:=h.reads k (List.getElem?_eq_some_iff.1 hk).1;rw[hk]at hy;injection hy with hy;subst hy;obtain⟨j,hj⟩:=jF.1 jL;rw[(hr.ah j p hj).1];have:(bS (af fs) (k:Int)).length≤(af fs).length:=fZ _ _ _;rw[bE]at this;omega
 ·have:=(h.QbQ.1 x hx i hi).2;omega
structure UK(n N:Nat)(x:bz):Prop where
 lp:x.ah.length≤20000
 li:x.insts.length≤20000
 gone:x.gone=false
 ah:∀p,p∈x.ah→(0≤p.dst∧p.dst<(n:Int))∧p.args.length≤20000∧(∀a,a∈p.args→0≤a∧a<(n:Int))∧0<p.from_.length∧p.from_.length≤20000∧PG (N:Int) p.k
 insts:∀i,i∈x.insts→(cP i.op→0≤i.dst∧i.dst<(n:Int))∧i.args.length≤20000∧∀a,a∈i.args→0≤a∧a<(n:Int)
 ends:O9 (N:Int) x.k
 fin:(x.e=1∨x.e=2)→-1≤x.v∧x.v<(n:Int)
theorem Jr{gs:List bz}(hv:bV nm pa va fs=0)(hN:fs.length≤1000)(kx:va=(n:Int))(hg:gs.map bz.k=lN fs):∀x,x∈gs→UK n gs.length x:=by
 obtain⟨h,_,jv⟩:=qI hv;have Gg:=EH hv hN;have Yk:=NH h kx;have hl:gs.length=fs.length:=by have:=Qi9 List.length hg;rwa [QjN,jR]at this
 intro y hy;obtain⟨k,hk⟩:=jF.1 hy;have Jm:=(List.getElem?_eq_some_iff.1 hk).1;obtain⟨x,hx⟩:=bu (l:=fs) (i:=k) oM;have pj:=Qcs hx;have h1:=Qi9 (fun l:List gO=>l[k]?) hg;simp only[List.getElem?_map,hk,s9,mA hx]at h1;injection h1 with h1;have e1:y.ah.map cI.k=x.ah.map (oG (bS (af fs) (k:Int))):=Qi9 gO.ah h1;have e2:y.insts.map aO.e0=x.insts.map aO.e0:=Qi9 gO.insts h1;have e3:y.e=x.e:=Qi9 gO.e h1;have e4:y.v=x.v:=Qi9 gO.v h1;have e5:y.a=x.a:=Qi9 gO.a h1;have e6:y.b=x.b:=Qi9 gO.b h1;have e7:y.gone=false:=Qi9 gO.gone h1;obtain⟨z,hz,hr⟩:=h.reads k oM;rw[hx]at hz;injection hz with hz;subst hz;have Yl:=Yk x pj;have Tx:(bS (af fs) (k:Int)).length≤fs.length:=by have:(bS (af fs) (k:Int)).length≤(af fs).length:=fZ _ _ _;rwa [bE]at this
 refine⟨by rw[Bs e1];exact Gg.lp x pj,by rw[eM e2];exact Gg.li x pj,e7,fun p hp=> ?_,fun i hi=> ?_,?_,fun hf=> ?_⟩
 ·obtain⟨j,hj⟩:=jF.1 hp;have h2:=Qi9 (fun l:List vb=>l[j]?) e1;simp only[List.getElem?_map,hj,s9]at h2;obtain⟨q,hq⟩:∃q,x.ah[j]?=some q:=bu (by rw[←Bs e1];exact(List.getElem?_eq_some_iff.1 hj).1);rw[hq,s9]at h2;injection h2 with h2;have d1:p.dst=q.dst:=Qi9 vb.dst h2;have d2:p.from_=bS (af fs) (k:Int):=Qi9 vb.from_ h2;have d3:p.args=q.args:=Qi9 vb.args h2;obtain⟨h3,h4⟩:=hr.ah j q hq;have EI:k≠0:=by rintro rfl;have:=h.ah x hx;have:=(List.getElem?_eq_some_iff.1 hq).1;omega
  have Mj:=Jq h (k:=k) oM EI;refine⟨by rw[d1];exact Yl.ah q (Qcs hq),by rw[d3,h3];omega,fun a ha=> ?_,by rw[d2];exact Mj,by rw[d2];omega,⟨by show p.from_.Pairwise _;rw[d2];exact NK _ _,fun s hs=> ?_,by show p.args.length=p.from_.length;rw[d3,d2,h3]⟩⟩
  ·rw[d3]at ha;obtain⟨i,hi⟩:=jF.1 ha;obtain⟨s,hs⟩:∃s,(bS (af fs) (k:Int))[i]?=some s:=bu (by rw[←h3];exact(List.getElem?_eq_some_iff.1 hi).1);have ht:=h4 i a s hi hs;exact⟨ht.1,by rw[←kx];exact ht.2.1⟩
  ·have QJ:s∈p.from_:=hs;rw[d2]at QJ;have:=AK QJ;rw[bE]at this;rw[hl];exact this
 ·obtain⟨j,hj⟩:=jF.1 hi;have h2:=Qi9 (fun l:List aO=>l[j]?) e2;simp only[List.getElem?_map,hj,s9]at h2;obtain⟨q,hq⟩:∃q,x.insts[j]?=some q:=bu (by rw[←eM e2];exact(List.getElem?_eq_some_iff.1 hj).1);rw[hq,s9]at h2;injection h2 with h2;have d1:i.op=q.op:=show i.e0.op=q.e0.op by rw[h2]
  have d2:i.dst=q.dst:=show i.e0.dst=q.e0.dst by rw[h2]
  have d3:i.args=q.args:=show i.e0.args=q.e0.args by rw[h2]
  have jE:=Qcs hq;obtain⟨h5,h6,h7⟩:=Yl.insts q jE;refine⟨fun hp=> ?_,by rw[d3];exact Gg.ai x pj q jE,by rw[d3];exact h7⟩;rw[d1]at hp;have:=h.QbQ.2.1 _ (BK hx hq (iQ hp));have ZJ:=h.par;simp only at this;rw[d2];omega
 ·have:=h.ends x pj;unfold ix at this;unfold O9;show(y.e=0∧(0≤y.a∧y.a<_)∧y.v=0∧y.b=0)∨(y.e=1∧(0≤y.a∧y.a<_)∧(0≤y.b∧y.b<_)∧y.a≠y.b)∨(y.e=2∧y.a=0∧y.b=0)∨(y.e=3∧cN y.a∧y.v=0∧y.b=0);rw[e3,e4,e5,e6,hl];exact this
 ·rw[e3]at hf;rw[e4];by_cases ZK:pE x
  ·have ht:=hr.fin ZK;have:=ht.1;have:=ht.2.1;omega
  ·unfold pE at ZK;omega
end
end Go.Mor
namespace Go.Mor
open Go.RowKit
theorem D7{α β:Type}{f:α→β}{g:α→β}{d l:List α}{k:Nat}{x y:α}(h:d.map f=(l.take k).map g)(hx:l[k]?=some x)(hy:f y=g x):(d++[y]).map f=(l.take (k+1)).map g:=by
 obtain⟨hk,he⟩:=List.getElem?_eq_some_iff.1 hx;rw[Qjy,h,QjK hk,Qjy,he];simp[hy]
theorem Jt{hd gs:List bz}(h:hd.map (·.g)=gs.map (·.g))(A:aX)(c:Nat):jh A c hd=jh A c gs:=by
 have hl:hd.length=gs.length:=by have:=Qi9 List.length h;simpa using this
 have e:∀l:List bz,jA l=(l.map (·.g)).map (fun g=>Value.pointer (some (aZ g))):=fun l=>by unfold jA;rw[Qcn];rfl
 unfold jh;rw[hl,e,e,h]
theorem Qef(n:Nat):bD (List.replicate n false)=List.replicate n (vB false):=by simp[bD]
theorem QfM{α:Type}{l:List α}(h:0<l.length):∃m x,l=m++[x]:=by
 refine⟨l.dropLast,l.getLast (by intro e;rw[e]at h;simp at h),?_⟩;exact(List.dropLast_concat_getLast _).symm
theorem Gj{w:World}{ad:Addr}{l:ar}{i:Nat}{v:Int}(h:(bo.rd (some ad) (ints l)).holds w)(hi:l[i]?=some v):w.cell? (ad.add ((i:Int).toNat*1))=some (vI v):=by
 rw[ld];exact fR h rfl hi
theorem Y9(l:ar)(v:Int):(ints (l++[v])).take l.length=ints l:=by
 unfold ints;rw[Qjy,List.take_append_of_le_length sI,uK sI]
end Go.Mor
namespace Go.Mor
open Go.RowKit
def vl(bs:List SB)(pa va:Int)(ds:rn)(v b q:Int):Bool:=decide (0≤v)&&decide (v<va)&&(decide (v<pa)||match findD ds v with
 |some p=>if p.1=b then decide (p.2<q)else Cr (fS bs) p.1.toNat b.toNat
 |none=>false)
theorem vm{bs:List SB}{pa va:Int}{ds:rn}{v b q:Int}(h:vl bs pa va ds v b q=true):bX (gz bs) pa va ds v b q:=by
 unfold vl at h;simp only[Qjo,QiZ,QcD]at h;obtain⟨⟨h1,h2⟩,h3⟩:=h;refine⟨h1,h2,h3.imp id fun h3=> ?_⟩;split at h3
 ·rename_i p hp;refine⟨p,hp,?_⟩;split at h3
  ·rename_i e;exact .inl ⟨e,by simpa using h3⟩
  ·rename_i e;exact .inr ⟨e,h3⟩
 ·cases h3
def Du(pa va:Int)(fs:List ay)(k:Nat)(x:ay):Bool:=(x.ah.all fun p=>p.args.length==(bS (af fs) (k:Int)).length&&(p.args.zip (bS (af fs) (k:Int))).all fun u=>vl (af fs) pa va (bF fs) u.1 u.2 20000)&&(x.insts.zipIdx.all fun p=>p.1.args.all fun a=>vl (af fs) pa va (bF fs) a (k:Int) (p.2:Int))&&((!decide (x.e=1∨(x.e=2∧x.v≠-1)))||vl (af fs) pa va (bF fs) x.v (k:Int) 20000)
theorem Gk{pa va:Int}{fs:List ay}{k:Nat}{x:ay}(hx:fs[k]?=some x)(h:Du pa va fs k x=true):eL (gz (af fs)) (fun _=>20000) pE pa va fs k:=by
 unfold Du at h;simp only[Qjo]at h;obtain⟨⟨h1,h2⟩,h3⟩:=h;refine⟨x,hx,fun j p hp=> ?_,fun j p hp i a ha=> ?_,fun hf=> ?_⟩
 ·have:=Qjq.1 h1 p (Qcs hp);simp only[Qjo,Js]at this;refine⟨this.1,fun i a s ha hs=> ?_⟩;have hz:(a,s)∈p.args.zip (bS (af fs) (k:Int)):=by refine Qcs (i:=i) ?_;rw[List.getElem?_zip_eq_some];exact⟨ha,hs⟩
  exact vm (Qjq.1 this.2 _ hz)
 ·have:=Qjq.1 h2 (p,j) (Qi2.2 hp);exact vm (Qjq.1 this a (Qcs ha))
 ·rw[QiZ]at h3;rcases h3 with h3|h3
  ·simp only[dB,nS]at h3;exact absurd hf h3
  ·exact vm h3
def Ju(nm:cV)(pa va:Int)(fs:List ay):Bool:=decide (bt nm)&&decide (0≤pa∧pa≤16∧pa≤va)&&decide (0<fs.length)&&(match fs[0]? with|some x=>decide (x.ah.length=0)|none=>true)&&decide ((bS (af fs) 0).length=0)&&decide ((aF (af fs)).length=fs.length)&&(fs.all fun x=>decide (ix (fs.length:Int) x))&&(fs.all fun x=>x.insts.all fun p=>decide (bJ p))&&((bF fs).all fun d=>decide (pa≤d.1)&&decide (d.1<va))&&decide (((bF fs).map (·.1)).Nodup)&&(fs.zipIdx.all fun x=>Du pa va fs x.2 x.1)
theorem NN{nm:cV}{pa va:Int}{fs:List ay}(h:Ju nm pa va fs=true):j9 nm pa va fs:=by
 unfold Ju at h;simp only[Qjo,QcD,Qjq]at h;obtain⟨⟨⟨⟨⟨⟨⟨⟨⟨⟨h1,h2⟩,h3⟩,h4⟩,h5⟩,h6⟩,h7⟩,h8⟩,h9⟩,QV⟩,Uq⟩:=h;refine⟨h1,h2,h3,fun x hx=> ?_,h5,h6,h7,⟨h8,h9,QV⟩,fun k hk=> ?_⟩
 ·rw[hx]at h4;simpa using h4
 ·obtain⟨x,hx⟩:=bu hk;exact(xy h3 h6).eL (fun _ _ h=>h) (Gk hx (Uq (x,k) (Qi2.2 hx)))
theorem Jv{nm:cV}{pa va:Int}{fs:List ay}(h:(decide ((hY fs:Int)>20000∨va>20000)=false)∧Ju nm pa va fs=true):bV nm pa va fs=0:=(y6 (by simpa using h.1) (NN h.2)).symm
end Go.Mor
namespace Go.Mor
open Go.RowKit
theorem xQ{p:bI}:p.e0.Ok↔p.Ok:=⟨fun h=>⟨h.dst,h.len,h.args⟩,fun h=>⟨h.dst,h.len,h.args⟩⟩
theorem xR{p:aO}:p.e0.Ok↔p.Ok:=⟨fun h=>⟨h.op,h.dst,h.n,h.name,h.len,h.args⟩,fun h=>⟨h.op,h.dst,h.n,h.name,h.len,h.args⟩⟩
theorem xS{x:ay}:x.e0.Ok↔x.Ok:=by
 constructor
 ·intro h;have h1:=h.lp;have h2:=h.li;refine⟨?_,fun p hp=>xQ.1 (h.ah p.e0 (jd.2 ⟨p,hp,rfl⟩)),?_,fun p hp=>xR.1 (h.insts p.e0 (jd.2 ⟨p,hp,rfl⟩)),h.e,h.v,h.a,h.b⟩
  ·have:gY (x.ah.map bI.e0).length:=h1;rwa [QjN]at this
  ·have:gY (x.insts.map aO.e0).length:=h2;rwa [QjN]at this
 ·intro h;refine⟨?_,fun p hp=> ?_,?_,fun p hp=> ?_,h.e,h.v,h.a,h.b⟩
  ·show gY (x.ah.map bI.e0).length;rw[QjN];exact h.lp
  ·obtain⟨q,hq,rfl⟩:=jd.1 hp;exact xQ.2 (h.ah q hq)
  ·show gY (x.insts.map aO.e0).length;rw[QjN];exact h.li
  ·obtain⟨q,hq,rfl⟩:=jd.1 hp;exact xR.2 (h.insts q hq)
theorem pL.alike{fs gs:List ay}(h:ec fs gs)(ho:pL fs):pL gs:=by
 intro y hy;have:y.e0∈fs.map ay.e0:=by rw[show fs.map ay.e0=gs.map ay.e0 from h];exact jd.2 ⟨y,hy,rfl⟩
 obtain⟨x,hx,e⟩:=jd.1 this;exact xS.1 (e▸xS.2 (ho x hx))
theorem jS{fs gs:List ay}(h:ec fs gs):hY fs=hY gs:=by rw[←rF fs,←rF gs,h]
theorem ec.trans{fs gs hs:List ay}(h:ec fs gs)(h':ec gs hs):ec fs hs:=Eq.trans h h'
def lP(va:Int)(fs:List ay):Prop:=gZ va fs∨1500<hY fs
instance (va : Int) (fs : List ay) : Decidable (lP va fs) := by unfold lP; infer_instance
theorem Gl{va:Int}{fs:List ay}(h:¬lP va fs):fs.length≤60∧hY fs≤1500:=by
 unfold lP at h;exact⟨uO (fun e=>h (.inl e)),oM⟩
theorem Rl{w:World}{A9:aX}{e7 e9 n7 n9 c7 c9:Nat}{x:ay}(hp:x.ah=[])(h9:(bo.row e9 6 A9 n9 c9 (xV x)).holds w)(h7:(bo.row e7 5 x.iA n7 c7 (zL x.insts)).holds w)(hi:∀i,i∈x.insts→(bo.rd i.A (ints i.args)).holds w):RO bK w (.fn A9 [x]):=by
 refine RO.of (fun r hr=> ?_);rcases Qcx.1 hr with rfl|hr
 ·have h1:(bo.rd A9 ([x].flatMap xV)).holds w:=by rw[show[x].flatMap xV=xV x by simp];exact aB h9
  have:=jt (f:=xV) sw oM h1;unfold bo.blocks;rw[show(af [x]).map SB.cells=[x].map xV by unfold af;rw[Qcn];rfl];exact this
 ·obtain⟨y,hy,ZN⟩:=pZ.1 hr;rw[QcC]at hy;subst hy;unfold ay.parts at ZN;rw[hp]at ZN;rcases Qcx.1 ZN with rfl|hr3
  ·intro i cs h;simp at h
  rcases Qcx.1 hr3 with rfl|hr4
  ·exact jt gI oM (aB h7)
  rcases QiU.1 hr4 with ZO|ZO
  ·simp at ZO
  ·obtain⟨p,hp,rfl⟩:=jd.1 ZO;exact hi p hp
theorem NO{w:World}{A:aX}:(bo.rd A (ints [])).holds w:=fun i v hi=>by simp[ints]at hi
def PH:cV:=⟨#[102]⟩
end Go.Mor
namespace Go.Mor
open Go.RowKit
theorem QjS{α:Type}{l:List α}{k:Nat}{x:α}(h:l[k]?=some x):l.set k x=l:=by
 obtain⟨hk,he⟩:=List.getElem?_eq_some_iff.1 h;rw[←he];exact List.set_getElem_self hk
section
variable {fs gs : List ay} {x : ay} {k j : Nat}
theorem QoW(h:ec fs gs)(hx:fs[k]?=some x):∃A1 c1 ps A2 c2 is,gs[k]?=some ⟨A1,c1,ps,A2,c2,is,x.e,x.v,x.a,x.b⟩∧ps.map bI.e0=x.ah.map bI.e0∧is.map aO.e0=x.insts.map aO.e0:=by
 obtain⟨y,hy,e⟩:=oB h hx;have e1:x.e=y.e:=I3 e;have e2:x.v=y.v:=F0 e;have e3:x.a=y.a:=show x.e0.a=y.e0.a by rw[e]
 have e4:x.b=y.b:=show x.e0.b=y.e0.b by rw[e]
 have e5:=rC e;have e6:=rD e;obtain⟨A1,c1,ps,A2,c2,is,ye,yv,ya,yb⟩:=y;simp only at e1 e2 e3 e4 e5 e6;subst e1;subst e2;subst e3;subst e4;exact⟨A1,c1,ps,A2,c2,is,hy,e5.symm,e6.symm⟩
theorem Qqt{ps qs:List bI}(h:qs.map bI.e0=ps.map bI.e0){p:bI}(hp:ps[j]?=some p):∃A c,qs[j]?=some ⟨p.dst,A,c,p.args⟩:=by
 have h1:=Qi9 (fun l:List bI=>l[j]?) h;simp only[List.getElem?_map,hp,s9]at h1;obtain⟨q,hq⟩:=bu (l:=qs) (i:=j) (by rw[eM h];exact(List.getElem?_eq_some_iff.1 hp).1);rw[hq,s9]at h1;injection h1 with h1;obtain⟨d,A,c,a⟩:=q;unfold bI.e0 at h1;simp only[bI.mk.injEq,pQ]at h1;obtain⟨rfl,rfl⟩:=h1;exact⟨A,c,hq⟩
theorem Qqu{ps qs:List aO}(h:qs.map aO.e0=ps.map aO.e0){p:aO}(hp:ps[j]?=some p):∃A c,qs[j]?=some ⟨p.op,p.dst,p.n,p.name,A,c,p.args⟩:=by
 have h1:=Qi9 (fun l:List aO=>l[j]?) h;simp only[List.getElem?_map,hp,s9]at h1;obtain⟨q,hq⟩:=bu (l:=qs) (i:=j) (by rw[eM h];exact(List.getElem?_eq_some_iff.1 hp).1);rw[hq,s9]at h1;injection h1 with h1;obtain⟨o,d,n,nm,A,c,a⟩:=q;unfold aO.e0 at h1;simp only[aO.mk.injEq,pQ]at h1;obtain⟨rfl,rfl,rfl,rfl,rfl⟩:=h1;exact⟨A,c,hq⟩
end
theorem QoX{w:World}:RO bK w (.fn none []):=RO.of fun r hr=>by
 rcases Qcx.1 hr with rfl|hr
 ·intro i cs h;simp[af]at h
 ·simp at hr
def aO.z(p:aO):aO:={p with args:=List.replicate p.args.length 0}
def ay.z(x:ay):ay:={x with insts:=x.insts.map aO.z}
def QkG(gd fe:List ay):Prop:=gd.map ay.z=fe.map ay.z
section
variable {gd fe : List ay} {x : ay} {kb ki kj : Nat} {p : aO} {ys : List aO} {us : List Int}
theorem Qqp(h:QkG gd fe)(hx:fe[kb]?=some x):∃ys,gd[kb]?=some {x with insts:=ys}∧ys.map aO.z=x.insts.map aO.z:=by
 have hl:gd.length=fe.length:=eM h;have h1:=Qi9 (fun l:List ay=>l[kb]?) h;simp only[List.getElem?_map,hx,s9]at h1;obtain⟨y,hy⟩:=bu (l:=gd) (i:=kb) (by rw[hl];exact(List.getElem?_eq_some_iff.1 hx).1);rw[hy,s9]at h1;injection h1 with h1;refine⟨y.insts,?_,Qi9 ay.insts h1⟩;rw[hy];congr 1;obtain⟨a1,a2,a3,a4,a5,a6,a7,a8,a9,jG⟩:=y;obtain⟨b1,b2,b3,b4,b5,b6,b7,b8,b9,eF⟩:=x;unfold ay.z at h1;simp only[ay.mk.injEq]at h1⊢;obtain⟨h1,h2,h3,h4,h5,h6,h7,h8,h9,QV⟩:=h1;exact⟨h1,h2,h3,h4,h5,trivial,h7,h8,h9,QV⟩
theorem QqC(h:ys.map aO.z=x.insts.map aO.z)(hp:x.insts[ki]?=some p):∃us,ys[ki]?=some {p with args:=us}∧us.length=p.args.length:=by
 have h1:=Qi9 (fun l:List aO=>l[ki]?) h;simp only[List.getElem?_map,hp,s9]at h1;obtain⟨q,hq⟩:=bu (l:=ys) (i:=ki) (by rw[eM h];exact(List.getElem?_eq_some_iff.1 hp).1);rw[hq,s9]at h1;injection h1 with h1;refine⟨q.args,?_,?_⟩
 ·rw[hq];congr 1;obtain⟨a1,a2,a3,a4,a5,a6,a7⟩:=q;obtain⟨b1,b2,b3,b4,b5,b6,b7⟩:=p;unfold aO.z at h1;simp only[aO.mk.injEq]at h1⊢;obtain⟨h1,h2,h3,h4,h5,h6,h7⟩:=h1;exact⟨h1,h2,h3,h4,h5,h6,trivial⟩
 ·have:=Qi9 (fun i:aO=>i.args.length) h1;simpa[aO.z]using this
theorem Qqf(p:aO):p.z.cells=p.cells:=by unfold aO.z aO.cells;simp
theorem Qqa(h:ys.map aO.z=x.insts.map aO.z):zL ys=zL x.insts:=by
 have e:∀l:List aO,zL l=zL (l.map aO.z):=by intro l;unfold zL;rw[Oc];congr 1;funext p;exact(Qqf p).symm
 rw[e ys,h,←e]
theorem Qqg{S:Nat→Prop}{w0 w:World}{L:List bo}(h:Mem S w0 w (.pk (gd.map bT)::L))(hy:gd[kb]?=some {x with insts:=ys})(hz:ys.map aO.z=x.insts.map aO.z)(hp:ys[ki]?=some {p with args:=us})(hl:us.length=p.args.length):Mem S w0 w (.row 3 1 p.A p.args.length p.c (ints us)::qE x.pA x.pc x.ah::dJ x.iA x.ic x.insts:: .pk (x.ah.map di):: .pk ((ys.map de).eraseIdx ki):: .pk ((gd.map bT).eraseIdx kb)::L):=by
 have h1:=h.Jb kb (r:=bT {x with insts:=ys}) (by rw[List.getElem?_map,hy];rfl);have h2:Mem S w0 w (qE x.pA x.pc x.ah::dJ x.iA x.ic ys:: .pk (x.ah.map di):: .pk (ys.map de):: .pk ((gd.map bT).eraseIdx kb)::L):=Mem.unpack (l:=F9 {x with insts:=ys}) h1;have h3:dJ x.iA x.ic ys=dJ x.iA x.ic x.insts:=by unfold dJ;rw[Qqa hz,eM hz]
 rw[h3]at h2;have h4:Mem S w0 w (.pk (ys.map de)::qE x.pA x.pc x.ah::dJ x.iA x.ic x.insts:: .pk (x.ah.map di):: .pk ((gd.map bT).eraseIdx kb)::L):=h2.perm (Qf2 (l₁:=[qE x.pA x.pc x.ah,dJ x.iA x.ic x.insts,bo.pk (x.ah.map di)]) (a:=bo.pk (ys.map de)) (l₂:=bo.pk ((gd.map bT).eraseIdx kb)::L));have h5:=h4.Jb ki (r:=de {p with args:=us}) (by rw[List.getElem?_map,hp];rfl);have h6:de {p with args:=us}= .row 3 1 p.A p.args.length p.c (ints us):=by unfold de;rw[←hl]
 rw[h6]at h5;refine h5.perm (List.Perm.cons _ ?_);exact(Qf2 (l₁:=[qE x.pA x.pc x.ah,dJ x.iA x.ic x.insts,bo.pk (x.ah.map di)]) (a:=bo.pk ((ys.map de).eraseIdx ki)) (l₂:=bo.pk ((gd.map bT).eraseIdx kb)::L)).symm
theorem W9{α β:Type}(f:α→β)(l:List α)(k:Nat)(y:α):(l.set k y).map f=(l.map f).set k (f y):=qB
theorem Qqv{S:Nat→Prop}{w0 w:World}{L:List bo}{us':ar}(h:Mem S w0 w (.row 3 1 p.A p.args.length p.c (ints us')::qE x.pA x.pc x.ah::dJ x.iA x.ic x.insts:: .pk (x.ah.map di):: .pk ((ys.map de).eraseIdx ki):: .pk ((gd.map bT).eraseIdx kb)::L))(hb:kb<gd.length)(hz:(ys.set ki {p with args:=us'}).map aO.z=x.insts.map aO.z)(hi:ki<ys.length)(hl:us'.length=p.args.length):Mem S w0 w (.pk ((gd.set kb {x with insts:=ys.set ki {p with args:=us'}}).map bT)::L):=by
 have h6:de {p with args:=us'}= .row 3 1 p.A p.args.length p.c (ints us'):=by unfold de;rw[←hl]
 rw[←h6]at h;have h5:Mem S w0 w (de {p with args:=us'}:: .pk ((ys.map de).eraseIdx ki)::qE x.pA x.pc x.ah::dJ x.iA x.ic x.insts:: .pk (x.ah.map di):: .pk ((gd.map bT).eraseIdx kb)::L):=h.perm (List.Perm.cons _ (Qf2 (l₁:=[qE x.pA x.pc x.ah,dJ x.iA x.ic x.insts,bo.pk (x.ah.map di)]) (a:=bo.pk ((ys.map de).eraseIdx ki)) (l₂:=bo.pk ((gd.map bT).eraseIdx kb)::L)));have h4:=h5.PE (by rw[QjN];exact hi);rw[←W9]at h4;have h3:dJ x.iA x.ic x.insts=dJ x.iA x.ic (ys.set ki {p with args:=us'}):=by unfold dJ;rw[Qqa hz,eM hz]
 rw[h3]at h4;have h2:Mem S w0 w (qE x.pA x.pc x.ah::dJ x.iA x.ic (ys.set ki {p with args:=us'}):: .pk (x.ah.map di):: .pk ((ys.set ki {p with args:=us'}).map de):: .pk ((gd.map bT).eraseIdx kb)::L):=h4.perm (Qf2 (l₁:=[qE x.pA x.pc x.ah,dJ x.iA x.ic (ys.set ki {p with args:=us'}),bo.pk (x.ah.map di)]) (a:=bo.pk ((ys.set ki {p with args:=us'}).map de)) (l₂:=bo.pk ((gd.map bT).eraseIdx kb)::L)).symm;have h1:Mem S w0 w (bT {x with insts:=ys.set ki {p with args:=us'}}:: .pk ((gd.map bT).eraseIdx kb)::L):=Mem.pack (l:=F9 {x with insts:=ys.set ki {p with args:=us'}}) h2;have h0:=h1.PE (by rw[QjN];exact hb);rwa [←W9]at h0
theorem Qqb(hz:ys.map aO.z=x.insts.map aO.z)(hp:x.insts[ki]?=some p){us':ar}(hl:us'.length=p.args.length):(ys.set ki {p with args:=us'}).map aO.z=x.insts.map aO.z:=by
 rw[W9,hz];have:aO.z {p with args:=us'}=p.z:=by unfold aO.z;simp only[hl]
 rw[this,←W9];congr 1;exact QjS hp
theorem QqD(hz:QkG gd fe)(hx:fe[kb]?=some x){zs:List aO}(hi:zs.map aO.z=x.insts.map aO.z):QkG (gd.set kb {x with insts:=zs}) fe:=by
 unfold QkG;rw[W9,show gd.map ay.z=fe.map ay.z from hz];have:ay.z {x with insts:=zs}=x.z:=by unfold ay.z;simp only[hi]
 rw[this,←W9];congr 1;exact QjS hx
theorem QmC{w:World}(h:(bo.pk (gd.map bT)).holds w)(hz:QkG gd fe)(hx:fe[kb]?=some x):(dJ x.iA x.ic x.insts).holds w:=by
 obtain⟨ys,hy,hys⟩:=Qqp hz hx;have hb:(bT {x with insts:=ys}).holds w:=oE h (jd.2 ⟨_,Qcs hy,rfl⟩);have:(dJ x.iA x.ic ys).holds w:=oE hb sI;have h3:dJ x.iA x.ic ys=dJ x.iA x.ic x.insts:=by unfold dJ;rw[Qqa hys,eM hys]
 rwa [h3]at this
end
end Go.Mor
