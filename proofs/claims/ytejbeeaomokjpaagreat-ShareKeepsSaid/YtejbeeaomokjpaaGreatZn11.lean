/-
  Texts of the proof, part 11.
-/
import Derived.Test.YtejbeeaomokjpaaGreatZn10
import Derived.Shelf.SlSortCmp.Whole1
set_option maxRecDepth 10000
namespace Go.Mor
open Go.RowKit Go.Sort Go.Proofs
def Gw(w w':World):Prop:=∃q os,w'=grow (w.drewN q) os
theorem Gw.refl(w:World):Gw w w:=⟨0,#[],by rw[grow_empty];rfl⟩
theorem Gw.drew{w w':World}(h:Gw w w'):Gw w w'.drew:=by
 obtain⟨q,os,rfl⟩:=h;exact⟨q+1,os,rfl⟩
theorem Gw.kp{w w':World}(h:Gw w w'):Mem bq w w' []:=by
 obtain⟨q,os,rfl⟩:=h;refine⟨rfl,rfl,rfl,by simp[grow,World.drewN],fun k hk _=> ?_,sI,u6⟩;show(w.heap++os)[k]?=w.heap[k]?;rw[Array.getElem?_append_left hk]
end Go.Mor
namespace Go.Mor
open Go.RowKit Go.Sort Go.Proofs
theorem wI{α:Type}[Inhabited α](enc:α→Value)(d:Array α)(cur:Array Value)(h:d.size≤cur.size):((putCells enc 0 d cur).toList).take d.size=d.toList.map enc:=by
 refine QoL fun i=> ?_
 by_cases hi:i<d.size
 ·have h2:i<cur.size:=oM;have e1:(putCells enc 0 d cur).toList[i]?=some (enc d[i]!):=by unfold putCells;rw[Array.getElem?_toList,Array.getElem?_mapIdx,Array.getElem?_eq_getElem h2];simp[hi]
  rw[List.getElem?_take_of_lt hi,e1,List.getElem?_map,Array.getElem?_toList,Array.getElem?_eq_getElem hi];simp[hi]
 ·rw[List.getElem?_eq_none (by rw[QoT];omega),List.getElem?_eq_none (by simp;omega)]
theorem Gv{α:Type}[Inhabited α](enc:α→Value){w:World}{e n c g:Nat}{xs:aP}(h:(bx.row e 1 (some (aZ g)) n c xs).holds w)(m:Nat){dk:Array α}(hd:dk.size=n)(os:Array Obj):Mem (bx.row e 1 (some (aZ g)) n c xs).fp w (sortWorld enc w g 0 m dk os) [.row e 1 (some (aZ g)) n c (dk.toList.map enc)]:=by
 obtain⟨hl,h2⟩:=h;rcases h2 with⟨h2,_⟩|⟨g',cap,cur,hv,hb,hg,Vs,ZT,oZ,ht⟩
 ·cases h2
 injection hv with hv _ hc;injection hv with hv;injection hv with hv;subst hv hc;have eV:g<w.heap.size:=ob hg;have RF:(sortWorld enc w g 0 m dk os).heap=(w.heap.modify g (onCells (putCells enc 0 dk)))++os:=rfl;refine⟨rfl,rfl,rfl,?_,fun k hk dt=> ?_,?_,Jb _ _⟩
 ·rw[RF];simp
 ·rw[RF,Array.getElem?_append_left (by simpa using hk),Array.getElem?_modify,Ds];intro e1;subst e1;exact dt ⟨(aZ g),rfl,rfl⟩
 ·simp only[yX];rintro _ rfl;refine⟨⟨by simp[hd],.inr ⟨g,c,putCells enc 0 dk cur,rfl,hb,?_,Vs,ZT,?_,?_⟩⟩,fun k hk=> .inl hk⟩
  ·rw[RF,Array.getElem?_append_left (by simpa using eV),Array.getElem?_modify,Kt rfl,hg];rfl
  ·simpa[putCells]using oZ
  ·rw[Qoz,←hd];refine wI enc dk cur ?_;rw[Qoz]at oZ;omega
theorem Nh{α:Type}[Inhabited α](enc:α→Value){w:World}{e n c g:Nat}{d:Array α}(h:(bx.row e 1 (some (aZ g)) n c (d.toList.map enc)).holds w):Holds enc w g 0 d:=by
 intro j hj;obtain⟨ad,ha,hc⟩:=aD h j (enc d[j]!) (by rw[List.getElem?_map,Array.getElem?_toList,Array.getElem?_eq_getElem hj];simp[hj]);injection ha with ha;subst ha;rw[C0]at hc;have hf:=oe h j;rw[C0]at hf;exact⟨by rw[Qpd];exact hc,by rw[Qpd];exact hf⟩
def ko(n:Nat)(key:Nat→Int)(il:List Nat):Prop:=il.Perm (List.range n)∧il.Pairwise (fun i j=>key i≤key j)
def tX(nl fl:af)(i:Nat):Int:=nl.getD (fl.getD i 0).toNat 0
theorem ko.rising{n:Nat}{key:Nat→Int}{il:List Nat}(h:ko n key il)(hr:∀i j,i<j→j<n→key i<key j):il=List.range n:=by
 have key_inj:∀i j,i<n→j<n→key i≤key j→key j≤key i→i=j:=by
  intro i j hi hj h1 h2;rcases Qqf i j with h3|h3|h3
  ·have:=hr i j h3 hj;omega
  ·exact h3
  ·have:=hr j i h3 hi;omega
 refine List.Perm.eq_of_pairwise (le:=fun i j=>key i≤key j) ?_ h.2 ?_ h.1
 ·intro a b ha hb h1 h2;have nW:=QoA.1 (h.1.mem_iff.1 ha);have AX:=QoA.1 hb;exact key_inj a b nW AX h1 h2
 ·rw[QpB];intro i j hi hj LY;simp only[QpK]at hi hj;simp only[List.getElem_range];have:=hr i j LY hj;omega
def gI(l:List Nat):af:=l.map (fun i:Nat=>(i:Int))
theorem Ni{l:List Nat}{j i:Nat}(h:l[j]?=some i):(gI l)[j]?=some (i:Int):=by simp[gI,h]
theorem Nj{f:Nat→Int}{l:List Nat}{j i:Nat}(h:l[j]?=some i):(l.take (j+1)).map f=(l.take j).map f++[f i]:=by
 obtain⟨hj,he⟩:=List.getElem?_eq_some_iff.1 h;rw[Qow hj,Qou,he];rfl
def vV(n j:Nat):af:=gI (List.range j)++List.replicate (n-j) 0
theorem Jc(n:Nat):ints (vV n 0)=List.replicate n (vI 0):=by simp[vV,gI,ints]
theorem Nk(n:Nat):vV n n=gI (List.range n):=by simp[vV]
theorem Jd{n j:Nat}(h:j<n):(ints (vV n j)).set j (vI (j:Int))=ints (vV n (j+1)):=by
 unfold vV gI ints;obtain⟨d,hd⟩:=Nat.le.dest h;rw[show n-j=d+1 by omega,show n-(j+1)=d by omega,Qpx,QpH];simp
def D4(n:Nat)(i:Fin n):Value:=vI (i.val:Int)
def Mx(nl fl:af)(n:Nat)(i j:Fin n):Int:=tX nl fl i.val-tX nl fl j.val
theorem Xq(nl fl:af)(n:Nat):SWO (ltOf (Mx nl fl n)):=by
 have e:∀x y,ltOf (Mx nl fl n) x y=decide (tX nl fl x.val<tX nl fl y.val):=by intro x y;unfold ltOf Mx;exact decide_eq_decide.2 oM
 refine⟨fun x=> ?_,fun x y z h1 h2=> ?_,fun x y z h1 h2=> ?_⟩
 ·rw[e];simp
 ·rw[e]at*;simp at*;omega
 ·rw[e]at*;simp at*;omega
theorem Je(n:Nat):((Array.ofFn (n:=n) id).toList).map (D4 n)=ints (gI (List.range n)):=by
 refine QoL fun i=> ?_
 by_cases hi:i<n
 ·simp[ints,gI,D4,hi]
 ·simp[ints,gI,D4,hi]
theorem Jf{nl fl:af}{n:Nat}[Inhabited (Fin n)]{d':Array (Fin n)}(hp:PermIn 0 (Array.ofFn (n:=n) id).size (Array.ofFn (n:=n) id) d')(hs:SortedIn (ltOf (Mx nl fl n)) 0 (Array.ofFn (n:=n) id).size d'):ko n (tX nl fl) (d'.toList.map (·.val))∧d'.toList.map (D4 n)=ints (gI (d'.toList.map (·.val))):=by
 obtain⟨h1,_,h3⟩:=hp;have hn:(Array.ofFn (n:=n) id).size=n:=sI;have rn:d'.size=n:=by rw[h1,hn]
 refine⟨⟨?_,?_⟩,?_⟩
 ·have e1:d'.extract 0 (Array.ofFn (n:=n) id).size=d':=by rw[←h1];exact Array.extract_size
  rw[e1,Array.extract_size]at h3;have:=h3.map (fun i:Fin n=>i.val);refine this.trans ?_;have e2:((Array.ofFn (n:=n) id).toList).map (fun i:Fin n=>i.val)=List.range n:=by
   refine QoL fun i=> ?_
   by_cases hi:i<n<;>simp[hi]
  rw[e2]
 ·rw[QpB];intro i j hi hj LY;simp only[QlO,Array.length_toList]at hi hj;have:=hs i j (Qom _) LY (by rw[hn,←rn];exact hj);rw[getElem!_pos d' j oM,getElem!_pos d' i oM]at this;unfold ltOf Mx at this;simp only[Qqs]at this;simp only[List.getElem_map,Array.getElem_toList];omega
 ·unfold ints gI;rw[QlQ,QlQ];rfl
end Go.Mor
namespace Go.Mor
open Go.RowKit
def sU{α β:Type}(R:α→β→Prop)(l:List α)(m:List β):Prop:=l.length=m.length∧∀(i:Nat) (x:α) (y:β),l[i]?=some x→m[i]?=some y→R x y
section
variable {α β : Type} {R : α → β → Prop} {l : List α} {m : List β}
theorem sU.nil:sU R [] []:=⟨rfl,fun i x y h=>by simp at h⟩
theorem sU.snoc(h:sU R l m){x:α}{y:β}(hr:R x y):sU R (l++[x]) (m++[y]):=by
 obtain⟨hl,h⟩:=h;refine⟨by simp[hl],fun i a b ha hb=> ?_⟩;rcases Qqf i l.length with h1|h1|h1
 ·rw[List.getElem?_append_left h1]at ha;rw[List.getElem?_append_left oM]at hb;exact h i a b ha hb
 ·subst h1;rw[List.getElem?_append_right (kQ _),Qpl]at ha;rw[List.getElem?_append_right oM,hl,Qpl]at hb;simp at ha hb;subst ha hb;exact hr
 ·rw[List.getElem?_eq_none (by simp;omega)]at ha;cases ha
theorem sU.next{k:Nat}(h:sU R (l.take k) m){x:α}(hx:l[k]?=some x){y:β}(hr:R x y):sU R (l.take (k+1)) (m++[y]):=by
 obtain⟨hk,he⟩:=List.getElem?_eq_some_iff.1 hx;rw[Qow hk,he];exact h.snoc hr
end
def tY(gl:List Bool)(k:Nat):Nat:=((gl.take k).filter (fun b=> !b)).length
def sV(gl:List Bool)(k:Nat):af:=(List.range gl.length).map (fun i=>if i<k∧gl.getD i true=false then(tY gl i:Int)else 0)
theorem K1(gl:List Bool)(k:Nat):tY gl k≤k:=by
 unfold tY;exact QoJ (QoI _ _) (by simp;omega)
theorem RG{gl:List Bool}{k:Nat}(h:gl[k]?=some false):tY gl (k+1)=tY gl k+1:=by
 obtain⟨hk,he⟩:=List.getElem?_eq_some_iff.1 h;unfold tY;rw[Qow hk,QoW,he];simp
theorem Xr{gl:List Bool}{k:Nat}(h:gl[k]?=some true):tY gl (k+1)=tY gl k:=by
 obtain⟨hk,he⟩:=List.getElem?_eq_some_iff.1 h;unfold tY;rw[Qow hk,QoW,he];simp
theorem Gx(gl:List Bool)(k:Nat):(sV gl k).length=gl.length:=by simp[sV]
theorem Nl(gl:List Bool):ints (sV gl 0)=List.replicate gl.length (vI 0):=by
 unfold sV ints;simp only[QoB,QoU,Qo0,QlQ];refine QoL fun i=> ?_
 by_cases hi:i<gl.length
 ·simp[hi]
 ·simp[hi]
theorem RH{gl:List Bool}{k:Nat}(h:gl[k]?=some false):(ints (sV gl k)).set k (vI (tY gl k:Int))=ints (sV gl (k+1)):=by
 obtain⟨hk,he⟩:=List.getElem?_eq_some_iff.1 h;unfold sV ints;refine QoL fun i=> ?_
 by_cases hi:i<gl.length
 ·by_cases e:k=i
  ·subst e;rw[List.getElem?_set_self (by simpa using hk)];simp[hk,List.getD,he]
  ·rw[List.getElem?_set_ne e];simp only[List.getElem?_map,List.getElem?_range hi,Fc];have:(i<k∧gl.getD i true=false)↔(i<k+1∧gl.getD i true=false):=and_congr oM QoN;simp only[this]
 ·rw[List.getElem?_eq_none (by simp;omega),List.getElem?_eq_none (by simp;omega)]
theorem Xt{gl:List Bool}{k:Nat}(h:gl[k]?=some true):sV gl k=sV gl (k+1):=by
 obtain⟨hk,he⟩:=List.getElem?_eq_some_iff.1 h;unfold sV;refine QoV fun i _=> ?_
 have:(i<k∧gl.getD i true=false)↔(i<k+1∧gl.getD i true=false):=by
  by_cases e:i=k
  ·subst e;simp[List.getD,h]
  ·exact and_congr oM QoN
 simp only[this]
def zb(gl:List Bool):af:=sV gl gl.length
theorem Gy{gl:List Bool}{k i:Nat}(hi:i<gl.length):(sV gl k).getD i 0=if i<k∧gl.getD i true=false then(tY gl i:Int)else 0:=by
 unfold sV;rw[List.getD_eq_getElem?_getD,List.getElem?_map,List.getElem?_range hi];rfl
theorem RI(gl:List Bool)(k:Nat)(hl:gl.length≤1000000):0≤(zb gl).getD k 0∧(zb gl).getD k 0≤1000000:=by
 unfold zb;by_cases hk:k<gl.length
 ·have:=K1 gl k;rw[Gy hk];by_cases hc:k<gl.length∧gl.getD k true=false
  ·rw[Kt hc];omega
  ·rw[Ds hc];omega
 ·rw[List.getD_eq_getElem?_getD,List.getElem?_eq_none (by rw[Gx];omega)];simp
def lV(ks:List gT):List Bool:=ks.map (fun x=>x.gone)
def toA(nl:af)(e a:Int):Int:=if e=0∨e=1 then nl.getD a.toNat 0 else if e=3 then a else 0
def toBb(nl:af)(e b:Int):Int:=if e=1 then nl.getD b.toNat 0 else 0
def ToP(nl:af)(p:y8)(q:bZ):Prop:=q.dst=p.dst∧∃il,ko p.from_.length (tX nl p.from_) il∧q.args=il.map (fun i=>p.args.getD i 0)
structure ToB(nl:af)(x:gT)(y:aE):Prop where
 au:sU (ToP nl) x.au y.au
 insts:y.insts.map bl.e0=x.insts
 e:y.e=x.e
 v:y.v=x.v
 a:y.a=toA nl x.e x.a
 b:y.b=toBb nl x.e x.b
def rQ(ks:List gT):List gT:=ks.filter (fun x=> !x.gone)
def ToQ(ks:List gT)(fs:List aE):Prop:=sU (ToB (zb (lV ks))) (rQ ks) fs
structure Qcl(n:Int)(x:gT):Prop where
 lp:x.au.length≤20000
 au:∀p,p∈x.au→0<p.from_.length∧p.from_.length≤20000∧p.args.length=p.from_.length∧∀s,s∈p.from_→0≤s∧s<n
 e0:x.e=0→0≤x.a∧x.a<n
 e1:x.e=1→(0≤x.a∧x.a<n)∧0≤x.b∧x.b<n
theorem RJ{ks:List gT}{k:Nat}{x:gT}(hx:ks[k]?=some x)(h:x.gone=false):rQ (ks.take (k+1))=rQ (ks.take k)++[x]:=by
 obtain⟨hk,he⟩:=List.getElem?_eq_some_iff.1 hx;unfold rQ;rw[Qow hk,QoW,he];simp[h]
theorem Xu{ks:List gT}{k:Nat}{x:gT}(hx:ks[k]?=some x)(h:x.gone=true):rQ (ks.take (k+1))=rQ (ks.take k):=by
 obtain⟨hk,he⟩:=List.getElem?_eq_some_iff.1 hx;unfold rQ;rw[Qow hk,QoW,he];simp[h]
section
variable {w : World} {A : Option Addr} {c : Nat} {ad : Addr} {k : Nat} {gs : List bN} {x : bN}
theorem xB(h:(jS A c gs).holds w)(hA:A=some ad)(hx:gs[k]?=some x):w.cell? (ad.add (k*1))=some (vP (aZ x.g)):=bJ (aD h) hA (by unfold jW;rw[List.getElem?_map,hx];rfl)
theorem Gz(h:(bx.pk (gs.map gB)).holds w)(hx:gs[k]?=some x){r:bx}(hr:r∈gL x):r.holds w:=yM (yM h (Qhz.2 ⟨x,D7 hx,rfl⟩):(gB x).holds w) hr
theorem oJ(h:(bx.pk (gs.map gB)).holds w)(hx:gs[k]?=some x){j:Nat}{v:Value}(hj:(gV x)[j]?=some v):w.cell? (ao x.g j)=some v:=ae (Gz h hx (r:= .aB x.g 79 (gV x)) sI) hj
theorem Xv(hx:gs[k]?=some x):(lV (gs.map bN.k))[k]?=some x.gone:=by
 unfold lV;rw[List.getElem?_map,List.getElem?_map,hx];rfl
theorem Cu(ks:List gT):(lV ks).length=ks.length:=by simp[lV]
end
end Go.Mor
namespace Go.Mor
open Go.RowKit
def dh.f(p:dh):bZ:=⟨p.dst,none,0,p.args⟩
def bN.f(x:bN):aE:=⟨none,0,x.au.map dh.f,none,0,x.insts.map bl.e0,x.e,x.v,x.a,x.b⟩
section
variable {fs : List aE} {gs : List bN} {nm : ByteArray} {pa va : Int}
theorem Qfr(h:gs.map bN.k=mK fs):gs.map bN.f=fs.map aE.e0:=by
 have hl:gs.length=fs.length:=by have:=Qlh List.length h;rwa [QlO,j8]at this
 refine QoL fun i=> ?_
 rw[List.getElem?_map,List.getElem?_map];by_cases hi:i<fs.length
 ·obtain⟨x,hx⟩:=aM (l:=fs) hi;obtain⟨y,hy⟩:=aM (l:=gs) (i:=i) oM;have h1:=Qlh (fun l:List gT=>l[i]?) h;simp only[List.getElem?_map,hy,Fc,nH hx]at h1;injection h1 with h1;rw[hx,hy,Fc,Fc];congr 1;unfold bN.f aE.e0;have e1:y.au.map dh.k=x.au.map (qy (bG (aq fs) (i:Int))):=Qlh gT.au h1;have e2:y.insts.map bl.e0=x.insts.map bl.e0:=Qlh gT.insts h1;have e3:y.e=x.e:=Qlh gT.e h1;have e4:y.v=x.v:=Qlh gT.v h1;have e5:y.a=x.a:=Qlh gT.a h1;have e6:y.b=x.b:=Qlh gT.b h1;have e7:y.au.map dh.f=x.au.map bZ.e0:=by have h2:=Qlh (List.map (fun p:y8=>(⟨p.dst,none,0,p.args⟩:bZ))) e1;rw[QlQ,QlQ]at h2;exact h2
  rw[e2,e3,e4,e5,e6,e7]
 ·rw[List.getElem?_eq_none oM,List.getElem?_eq_none oM];rfl
theorem GA(h:gs.map bN.k=mK fs):eH fs (gs.map bN.f):=by
 unfold eH;rw[Qfr h,QlQ];refine QoV fun x _=> ?_
 show x.e0=x.e0.e0;unfold aE.e0;simp only[QlQ];rfl
end
theorem tZ{α β:Type}{f:α→List β}:∀{l:List α} {x:α},x∈l→(f x).Sublist (l.flatMap f)
 |a::l,x,h=>by
  rw[Qpg];rcases Qon.1 h with rfl|h
  ·exact List.sublist_append_left _ _
  ·exact(tZ h).trans (List.sublist_append_right _ _)
abbrev vW:=ar×Nat×af
structure Wk(gs:List bN)(n:Nat)(fc:List vW)(rl:List Bool)(ls:af):Prop where
 len:rl.length=n
 rd:∀i:Nat,i<n→rl.getD i false=true→Rd (gs.map bN.f) (i:Int)
 lst:∀v,v∈ls→0≤v∧v<(n:Int)∧rl.getD v.toNat false=true
 cnt:ls.length≤za rl
 closed:∀i:Nat,i<n→rl.getD i false=true→(i:Int)∈ls∨∀e,fc[i]?=some e→∀a,a∈e.2.2→0≤a→rl.getD a.toNat false=true
end Go.Mor
namespace Go.Mor
open Go.RowKit
end Go.Mor
namespace Go.Mor
end Go.Mor
namespace Go.Mor
open Go.RowKit
structure VR(n:Nat)(x:aE):Prop where
 au:∀p,p∈x.au→0≤p.dst∧p.dst<(n:Int)
 insts:∀p,p∈x.insts→-1≤p.dst∧p.dst<(n:Int)∧∀a,a∈p.args→0≤a∧a<(n:Int)
 fin:AB x→0≤x.v∧x.v<(n:Int)
end Go.Mor
namespace Go.Mor
open Go.RowKit
end Go.Mor
namespace Go.Mor
end Go.Mor
namespace Go.Mor
end Go.Mor
namespace Go.Mor
open Go.RowKit
theorem RK{fs:List aE}{k:Nat}{x:aE}{p:bZ}(hx:fs[k]?=some x)(hp:p∈x.au):(p.dst,(k:Int),-1)∈bO fs:=by
 unfold bO dz;rw[QoF,Qo8];exact⟨(x,k),Qpo.2 hx,Qox _ (Qhz.2 ⟨p,hp,rfl⟩)⟩
theorem GC{fs:List aE}{k j:Nat}{x:aE}{p:bl}(hx:fs[k]?=some x)(hp:x.insts[j]?=some p)(hm:aK p.op):(p.dst,(k:Int),(j:Int))∈bO fs:=by
 unfold bO dz;rw[QoF,Qo8];exact⟨(x,k),Qpo.2 hx,Qo5 _ (Qhz.2 ⟨(p,j),Qov.2 ⟨Qpo.2 hp,by simpa using hm⟩,rfl⟩)⟩
section
variable {nm : ByteArray} {pa va : Int} {fs : List aE} {n : Nat}
theorem Xz(h:iY nm pa va fs)(jR:va=(n:Int)):∀x,x∈fs→VR n x:=by
 intro x hx;obtain⟨k,hk⟩:=Qmp.1 hx;have Qk:=(List.getElem?_eq_some_iff.1 hk).1;obtain⟨y,hy,hr⟩:=h.reads k Qk;rw[hk]at hy;injection hy with hy;subst hy;have kr:=h.par;refine⟨fun p hp=> ?_,fun p hp=> ?_,fun hf=> ?_⟩
 ·have:=h.bC.2.1 _ (RK hk hp);simp only at this;omega
 ·obtain⟨j,hj⟩:=Qmp.1 hp;have ha:∀a,a∈p.args→0≤a∧a<(n:Int):=by intro a ha;obtain⟨i,hi⟩:=Qmp.1 ha;have:=hr.insts j p hj i a hi;exact⟨this.1,by rw[←jR];exact this.2.1⟩
  by_cases hm:aK p.op
  ·have:=h.bC.2.1 _ (GC hk hj hm);simp only at this;exact⟨oM,oM,ha⟩
  ·rcases(h.bC.1 x hx p hp).1 with h1|h1
   ·exact absurd h1 hm
   ·exact⟨oM,oM,ha⟩
 ·have:=hr.fin (by unfold AB at hf;unfold qp;omega);exact⟨this.1,by rw[←jR];exact this.2.1⟩
end
end Go.Mor
namespace Go.Mor
open Go.RowKit
theorem oK{nm:aV}{pa va:Int}{fs:List aE}(h:cC nm pa va fs=0):iY nm pa va fs∧va≤20000∧(dw fs:Int)≤20000:=by
 unfold cC at h;split at h
 ·omega
 ·split at h
  ·rename_i h1 h2;exact⟨h2,oM,oM⟩
  ·omega
end Go.Mor
namespace Go.Mor
open Go.RowKit
def gT.f(x:gT):aE:=⟨none,0,x.au.map (fun p=>⟨p.dst,none,0,p.args⟩),none,0,x.insts,x.e,x.v,x.a,x.b⟩
structure Qam(n:Int)(p:y8):Prop where
 up:p.from_.Pairwise (·<·)
 Dy:∀s,s∈p.from_→0≤s∧s<n
 len:p.args.length=p.from_.length
def RL(n:Int)(x:gT):Prop:=(x.e=0∧(0≤x.a∧x.a<n)∧x.v=0∧x.b=0)∨(x.e=1∧(0≤x.a∧x.a<n)∧(0≤x.b∧x.b<n)∧x.a≠x.b)∨(x.e=2∧x.a=0∧x.b=0)∨(x.e=3∧dj x.a∧x.v=0∧x.b=0)
theorem Nn{gl:List Bool}(h:∀b,b∈gl→b=false){i:Nat}(hi:i<gl.length):(zb gl).getD i 0=(i:Int):=by
 unfold zb;have h1:gl.getD i true=false:=by rw[List.getD_eq_getElem?_getD,List.getElem?_eq_getElem hi];exact h _ (QpC hi)
 rw[Gy hi,Kt ⟨hi,h1⟩];have:tY gl i=i:=by unfold tY;rw[Qpw.2 (fun b hb=>by rw[h b (QpR hb)];rfl),QoT];omega
 rw[this]
theorem RM(l:af):(List.range l.length).map (fun i=>l.getD i 0)=l:=by
 refine QoL fun i=> ?_
 by_cases hi:i<l.length
 ·simp[hi]
 ·simp[hi]
theorem XA{ks:List gT}{fs:List aE}(hg:∀x,x∈ks→x.gone=false)(he:∀x,x∈ks→RL (ks.length:Int) x)(hp:∀x,x∈ks→∀p,p∈x.au→Qam (ks.length:Int) p)(h:ToQ ks fs):fs.map aE.e0=ks.map gT.f:=by
 have hl:rQ ks=ks:=Qpw.2 fun x hx=>by rw[hg x hx];rfl
 unfold ToQ at h;rw[hl]at h;obtain⟨hlen,h⟩:=h;have O6:∀b,b∈lV ks→b=false:=by intro b hb;obtain⟨x,hx,rfl⟩:=Qhz.1 hb;exact hg x hx
 have XB:∀a:Int,0≤a→a<(ks.length:Int)→(zb (lV ks)).getD a.toNat 0=a:=by intro a h0 h1;rw[Nn O6 (by rw[Cu];omega)];omega
 refine QoL fun i=> ?_
 rw[List.getElem?_map,List.getElem?_map];by_cases hi:i<ks.length
 ·obtain⟨x,hx⟩:=aM (l:=ks) hi;obtain⟨y,hy⟩:=aM (l:=fs) (i:=i) oM;have mI:=D7 hx;have hb:=h i x y hx hy;rw[hx,hy,Fc,Fc];congr 1;unfold aE.e0 gT.f;have h1:y.au.map bZ.e0=x.au.map (fun p=>(⟨p.dst,none,0,p.args⟩:bZ)):=by
   obtain⟨kY,hpp⟩:=hb.au;refine QoL fun j=> ?_
   rw[List.getElem?_map,List.getElem?_map];by_cases hj:j<x.au.length
   ·obtain⟨p,hpj⟩:=aM (l:=x.au) hj;obtain⟨q,hqj⟩:=aM (l:=y.au) (i:=j) oM;obtain⟨hd,il,hs,ha⟩:=hpp j p q hpj hqj;have hu:=hp x mI p (D7 hpj);have hk:∀i,i<p.from_.length→tX (zb (lV ks)) p.from_ i=p.from_.getD i 0:=by
     intro i hi;unfold tX;have hm:p.from_.getD i 0∈p.from_:=by rw[List.getD_eq_getElem?_getD,List.getElem?_eq_getElem hi];exact QpC hi
     obtain⟨h0,h1⟩:=hu.Dy _ hm;exact XB _ h0 h1
    have:=hs.rising (fun a b OZ hb=>by rw[hk a oM,hk b hb];have:=QpB.1 hu.up a b oM hb OZ;rw[List.getD_eq_getElem?_getD,List.getD_eq_getElem?_getD,List.getElem?_eq_getElem hb,List.getElem?_eq_getElem (show a<p.from_.length by omega)];exact this)
    rw[this,←hu.len,RM]at ha;rw[hpj,hqj,Fc,Fc];unfold bZ.e0;rw[hd,ha]
   ·rw[List.getElem?_eq_none oM,List.getElem?_eq_none oM];rfl
  have ha:y.a=x.a∧y.b=x.b:=by
   rw[hb.a,hb.b];unfold toA toBb;rcases he x mI with⟨e,⟨h1,h2⟩,h3,h4⟩|⟨e,⟨h1,h2⟩,⟨h3,h4⟩,_⟩|⟨e,h1,h2⟩|⟨e,h1,h2,h3⟩
   ·rw[Kt (.inl e),Ds oM,XB _ h1 h2,h4];exact⟨rfl,rfl⟩
   ·rw[Kt (.inr e),Kt e,XB _ h1 h2,XB _ h3 h4];exact⟨rfl,rfl⟩
   ·rw[Ds oM,Ds oM,Ds oM,h1,h2];exact⟨rfl,rfl⟩
   ·rw[Ds oM,Kt e,Ds oM,h3];exact⟨rfl,rfl⟩
  rw[h1,hb.insts,hb.e,hb.v,ha.1,ha.2]
 ·rw[List.getElem?_eq_none oM,List.getElem?_eq_none oM];rfl
theorem XC(bs:List SB)(b:Int):(bG bs b).Pairwise (·<·):=by
 unfold bG ef;rw[QpX];refine List.Pairwise.filter _<|List.pairwise_lt_range.imp ?_;intro a b h;exact Int.ofNat_lt.2 h
section
variable {nm : ByteArray} {pa va : Int} {fs : List aE} {n : Nat}
theorem RN(h:iY nm pa va fs){k:Nat}(hk:k<fs.length)(h0:k≠0):0<(bG (aq fs) (k:Int)).length:=by
 have hr:Reach (tg (aq fs)) (k:Int):=by have h1:=nD (bs:=aq fs);rw[bK]at h1;exact j5.1 (h1.1 h.all k hk)
 have:∀x:Int,Reach (tg (aq fs)) x→x≠0→∃s,s∈bG (aq fs) x:=by
  intro x hx dt;cases hx with
  |zero=>exact absurd rfl dt
  |step hs ht=>
   rename_i s;refine⟨s,tJ.2 ⟨?_,ht⟩⟩;exact ny (by rw[bK];exact h.pos) hs
 obtain⟨s,hs⟩:=this _ hr oM;exact QpU hs
theorem K2(hv:cC nm pa va fs=0)(hN:fs.length≤1000):Us fs:=by
 obtain⟨h,_,jB⟩:=oK hv;have hp:∀(k:Nat) (x:aE),fs[k]?=some x→x.au.length+x.insts.length≤dw fs:=by
  intro k x hx;have hm:x.au.length+x.insts.length∈(fs.take fs.length).map (fun x=>x.au.length+x.insts.length):=by rw[Qot (kQ _)];exact Qhz.2 ⟨x,D7 hx,rfl⟩
  have:∀l:List Nat,∀a,a∈l→a≤l.sum:=by
   intro l;induction l with
   |nil=>intro a ha;cases ha
   |cons b l ih=>
    intro a ha;rcases Qon.1 ha with rfl|ha
    ·simp
    ·have:=ih a ha;simp;omega
  have:=this _ _ hm;unfold dw jd;omega
 have key:∀x,x∈fs→∃k:Nat,fs[k]?=some x:=fun x hx=>Qmp.1 hx
 refine⟨fun x hx=> ?_,fun x hx=> ?_,fun x hx p jD=> ?_,fun x hx i hi=> ?_⟩
 ·obtain⟨k,hk⟩:=key x hx;have:=hp k x hk;omega
 ·obtain⟨k,hk⟩:=key x hx;have:=hp k x hk;omega
 ·obtain⟨k,hk⟩:=key x hx;obtain⟨y,hy,hr⟩:=h.reads k (List.getElem?_eq_some_iff.1 hk).1;rw[hk]at hy;injection hy with hy;subst hy;obtain⟨j,hj⟩:=Qmp.1 jD;rw[(hr.au j p hj).1];have:(bG (aq fs) (k:Int)).length≤(aq fs).length:=fR _ _ _;rw[bK]at this;omega
 ·have:=(h.bC.1 x hx i hi).2;omega
structure GIn(n N:Nat)(x:bN):Prop where
 lp:x.au.length≤20000
 li:x.insts.length≤20000
 gone:x.gone=false
 au:∀p,p∈x.au→(0≤p.dst∧p.dst<(n:Int))∧p.args.length≤20000∧(∀a,a∈p.args→0≤a∧a<(n:Int))∧0<p.from_.length∧p.from_.length≤20000∧Qam (N:Int) p.k
 insts:∀i,i∈x.insts→(db i.op→0≤i.dst∧i.dst<(n:Int))∧i.args.length≤20000∧∀a,a∈i.args→0≤a∧a<(n:Int)
 ends:RL (N:Int) x.k
 fin:(x.e=1∨x.e=2)→-1≤x.v∧x.v<(n:Int)
theorem RP{gs:List bN}(hv:cC nm pa va fs=0)(hN:fs.length≤1000)(jR:va=(n:Int))(hg:gs.map bN.k=mK fs):∀x,x∈gs→GIn n gs.length x:=by
 obtain⟨h,_,jB⟩:=oK hv;have No:=K2 hv hN;have hvr:=Xz h jR;have hl:gs.length=fs.length:=by have:=Qlh List.length hg;rwa [QlO,j8]at this
 intro y hy;obtain⟨k,hk⟩:=Qmp.1 hy;have Qk:=(List.getElem?_eq_some_iff.1 hk).1;obtain⟨x,hx⟩:=aM (l:=fs) (i:=k) oM;have mI:=D7 hx;have h1:=Qlh (fun l:List gT=>l[k]?) hg;simp only[List.getElem?_map,hk,Fc,nH hx]at h1;injection h1 with h1;have e1:y.au.map dh.k=x.au.map (qy (bG (aq fs) (k:Int))):=Qlh gT.au h1;have e2:y.insts.map bl.e0=x.insts.map bl.e0:=Qlh gT.insts h1;have e3:y.e=x.e:=Qlh gT.e h1;have e4:y.v=x.v:=Qlh gT.v h1;have e5:y.a=x.a:=Qlh gT.a h1;have e6:y.b=x.b:=Qlh gT.b h1;have e7:y.gone=false:=Qlh gT.gone h1;obtain⟨z,hz,hr⟩:=h.reads k oM;rw[hx]at hz;injection hz with hz;subst hz;have Na:=hvr x mI;have U7:(bG (aq fs) (k:Int)).length≤fs.length:=by have:(bG (aq fs) (k:Int)).length≤(aq fs).length:=fR _ _ _;rwa [bK]at this
 refine⟨by rw[Gp e1];exact No.lp x mI,by rw[mJ e2];exact No.li x mI,e7,fun p hp=> ?_,fun i hi=> ?_,?_,fun hf=> ?_⟩
 ·obtain⟨j,hj⟩:=Qmp.1 hp;have h2:=Qlh (fun l:List y8=>l[j]?) e1;simp only[List.getElem?_map,hj,Fc]at h2;obtain⟨q,hq⟩:∃q,x.au[j]?=some q:=aM (by rw[←Gp e1];exact(List.getElem?_eq_some_iff.1 hj).1);rw[hq,Fc]at h2;injection h2 with h2;have d1:p.dst=q.dst:=Qlh y8.dst h2;have d2:p.from_=bG (aq fs) (k:Int):=Qlh y8.from_ h2;have d3:p.args=q.args:=Qlh y8.args h2;obtain⟨h3,h4⟩:=hr.au j q hq;have Fl:k≠0:=by rintro rfl;have:=h.au x hx;have:=(List.getElem?_eq_some_iff.1 hq).1;omega
  have Vw:=RN h (k:=k) oM Fl;refine⟨by rw[d1];exact Na.au q (D7 hq),by rw[d3,h3];omega,fun a ha=> ?_,by rw[d2];exact Vw,by rw[d2];omega,⟨by show p.from_.Pairwise _;rw[d2];exact XC _ _,fun s hs=> ?_,by show p.args.length=p.from_.length;rw[d3,d2,h3]⟩⟩
  ·rw[d3]at ha;obtain⟨i,hi⟩:=Qmp.1 ha;obtain⟨s,hs⟩:∃s,(bG (aq fs) (k:Int))[i]?=some s:=aM (by rw[←h3];exact(List.getElem?_eq_some_iff.1 hi).1);have ht:=h4 i a s hi hs;exact⟨ht.1,by rw[←jR];exact ht.2.1⟩
  ·have PN:s∈p.from_:=hs;rw[d2]at PN;have:=Fy PN;rw[bK]at this;rw[hl];exact this
 ·obtain⟨j,hj⟩:=Qmp.1 hi;have h2:=Qlh (fun l:List bl=>l[j]?) e2;simp only[List.getElem?_map,hj,Fc]at h2;obtain⟨q,hq⟩:∃q,x.insts[j]?=some q:=aM (by rw[←mJ e2];exact(List.getElem?_eq_some_iff.1 hj).1);rw[hq,Fc]at h2;injection h2 with h2;have d1:i.op=q.op:=show i.e0.op=q.e0.op by rw[h2]
  have d2:i.dst=q.dst:=show i.e0.dst=q.e0.dst by rw[h2]
  have d3:i.args=q.args:=show i.e0.args=q.e0.args by rw[h2]
  have Gg:=D7 hq;obtain⟨h5,h6,h7⟩:=Na.insts q Gg;refine⟨fun hp=> ?_,by rw[d3];exact No.ai x mI q Gg,by rw[d3];exact h7⟩;rw[d1]at hp;have:=h.bC.2.1 _ (GC hx hq (jf hp));have W9:=h.par;simp only at this;rw[d2];omega
 ·have:=h.ends x mI;unfold fU at this;unfold RL;show(y.e=0∧(0≤y.a∧y.a<_)∧y.v=0∧y.b=0)∨(y.e=1∧(0≤y.a∧y.a<_)∧(0≤y.b∧y.b<_)∧y.a≠y.b)∨(y.e=2∧y.a=0∧y.b=0)∨(y.e=3∧dj y.a∧y.v=0∧y.b=0);rw[e3,e4,e5,e6,hl];exact this
 ·rw[e3]at hf;rw[e4];by_cases hv2:qp x
  ·have ht:=hr.fin hv2;have:=ht.1;have:=ht.2.1;omega
  ·unfold qp at hv2;omega
end
end Go.Mor
namespace Go.Mor
open Go.RowKit
theorem RR{hd gs:List bN}(h:hd.map (·.g)=gs.map (·.g))(A:ar)(c:Nat):jS A c hd=jS A c gs:=by
 have hl:hd.length=gs.length:=by have:=Qlh List.length h;simpa using this
 have e:∀l:List bN,jW l=(l.map (·.g)).map (fun g=>Value.pointer (some (aZ g))):=fun l=>by unfold jW;rw[QlQ];rfl
 unfold jS;rw[hl,e,e,h]
theorem Nr{w:World}{ad:Addr}{l:af}{i:Nat}{v:Int}(h:(bx.rd (some ad) (ints l)).holds w)(hi:l[i]?=some v):w.cell? (ad.add ((i:Int).toNat*1))=some (vI v):=by
 rw[Qoq];exact fx h rfl hi
end Go.Mor
namespace Go.Mor
open Go.RowKit
def zh(bs:List SB)(pa va:Int)(ds:tz)(v b q:Int):Bool:=decide (0≤v)&&decide (v<va)&&(decide (v<pa)||match findD ds v with
 |some p=>if p.1=b then decide (p.2<q)else HE (gu bs) p.1.toNat b.toNat
 |none=>false)
theorem zi{bs:List SB}{pa va:Int}{ds:tz}{v b q:Int}(h:zh bs pa va ds v b q=true):cI (gH bs) pa va ds v b q:=by
 unfold zh at h;simp only[QlP,Qos,QhA]at h;obtain⟨⟨h1,h2⟩,h3⟩:=h;refine⟨h1,h2,h3.imp id fun h3=> ?_⟩;split at h3
 ·rename_i p hp;refine⟨p,hp,?_⟩;split at h3
  ·rename_i e;exact .inl ⟨e,by simpa using h3⟩
  ·rename_i e;exact .inr ⟨e,h3⟩
 ·cases h3
def Ji(pa va:Int)(fs:List aE)(k:Nat)(x:aE):Bool:=(x.au.all fun p=>p.args.length==(bG (aq fs) (k:Int)).length&&(p.args.zip (bG (aq fs) (k:Int))).all fun u=>zh (aq fs) pa va (bO fs) u.1 u.2 20000)&&(x.insts.zipIdx.all fun p=>p.1.args.all fun a=>zh (aq fs) pa va (bO fs) a (k:Int) (p.2:Int))&&((!decide (x.e=1∨(x.e=2∧x.v≠-1)))||zh (aq fs) pa va (bO fs) x.v (k:Int) 20000)
theorem Ns{pa va:Int}{fs:List aE}{k:Nat}{x:aE}(hx:fs[k]?=some x)(h:Ji pa va fs k x=true):ft (gH (aq fs)) (fun _=>20000) qp pa va fs k:=by
 unfold Ji at h;simp only[QlP]at h;obtain⟨⟨h1,h2⟩,h3⟩:=h;refine⟨x,hx,fun j p hp=> ?_,fun j p hp i a ha=> ?_,fun hf=> ?_⟩
 ·have:=QoP.1 h1 p (D7 hp);simp only[QlP,Qco]at this;refine⟨this.1,fun i a s ha hs=> ?_⟩;have hz:(a,s)∈p.args.zip (bG (aq fs) (k:Int)):=by refine D7 (i:=i) ?_;rw[List.getElem?_zip_eq_some];exact⟨ha,hs⟩
  exact zi (QoP.1 this.2 _ hz)
 ·have:=QoP.1 h2 (p,j) (Qpo.2 hp);exact zi (QoP.1 this a (D7 ha))
 ·rw[Qos]at h3;rcases h3 with h3|h3
  ·simp only[Qpt,Qqs]at h3;exact absurd hf h3
  ·exact zi h3
def RS(nm:aV)(pa va:Int)(fs:List aE):Bool:=decide (bB nm)&&decide (0≤pa∧pa≤16∧pa≤va)&&decide (0<fs.length)&&(match fs[0]? with|some x=>decide (x.au.length=0)|none=>true)&&decide ((bG (aq fs) 0).length=0)&&decide ((aH (aq fs)).length=fs.length)&&(fs.all fun x=>decide (fU (fs.length:Int) x))&&(fs.all fun x=>x.insts.all fun p=>decide (bQ p))&&((bO fs).all fun d=>decide (pa≤d.1)&&decide (d.1<va))&&decide (((bO fs).map (·.1)).Nodup)&&(fs.zipIdx.all fun x=>Ji pa va fs x.2 x.1)
theorem XG{nm:aV}{pa va:Int}{fs:List aE}(h:RS nm pa va fs=true):iY nm pa va fs:=by
 unfold RS at h;simp only[QlP,QhA,QoP]at h;obtain⟨⟨⟨⟨⟨⟨⟨⟨⟨⟨h1,h2⟩,h3⟩,h4⟩,h5⟩,h6⟩,h7⟩,h8⟩,h9⟩,xm⟩,Hy⟩:=h;refine⟨h1,h2,h3,fun x hx=> ?_,h5,h6,h7,⟨h8,h9,xm⟩,fun k hk=> ?_⟩
 ·rw[hx]at h4;simpa using h4
 ·obtain⟨x,hx⟩:=aM hk;exact(Cc h3 h6).ft (fun _ _ h=>h) (Ns hx (Hy (x,k) (Qpo.2 hx)))
theorem RT{nm:aV}{pa va:Int}{fs:List aE}(h:(decide ((dw fs:Int)>20000∨va>20000)=false)∧RS nm pa va fs=true):cC nm pa va fs=0:=(DQ (by simpa using h.1) (XG h.2)).symm
end Go.Mor
namespace Go.Mor
open Go.RowKit
theorem QdZ{p:bZ}:p.e0.Ok↔p.Ok:=⟨fun h=>⟨h.dst,h.len,h.args⟩,fun h=>⟨h.dst,h.len,h.args⟩⟩
theorem Qd0{p:bl}:p.e0.Ok↔p.Ok:=⟨fun h=>⟨h.op,h.dst,h.n,h.name,h.len,h.args⟩,fun h=>⟨h.op,h.dst,h.n,h.name,h.len,h.args⟩⟩
theorem Cx{x:aE}:x.e0.Ok↔x.Ok:=by
 constructor
 ·intro h;have h1:=h.lp;have h2:=h.li;refine⟨?_,fun p hp=>QdZ.1 (h.au p.e0 (Qhz.2 ⟨p,hp,rfl⟩)),?_,fun p hp=>Qd0.1 (h.insts p.e0 (Qhz.2 ⟨p,hp,rfl⟩)),h.e,h.v,h.a,h.b⟩
  ·have:dJ (x.au.map bZ.e0).length:=h1;rwa [QlO]at this
  ·have:dJ (x.insts.map bl.e0).length:=h2;rwa [QlO]at this
 ·intro h;refine⟨?_,fun p hp=> ?_,?_,fun p hp=> ?_,h.e,h.v,h.a,h.b⟩
  ·show dJ (x.au.map bZ.e0).length;rw[QlO];exact h.lp
  ·obtain⟨q,hq,rfl⟩:=Qhz.1 hp;exact QdZ.2 (h.au q hq)
  ·show dJ (x.insts.map bl.e0).length;rw[QlO];exact h.li
  ·obtain⟨q,hq,rfl⟩:=Qhz.1 hp;exact Qd0.2 (h.insts q hq)
theorem pz.alike{fs gs:List aE}(h:eH fs gs)(ho:pz fs):pz gs:=by
 intro y hy;have:y.e0∈fs.map aE.e0:=by rw[show fs.map aE.e0=gs.map aE.e0 from h];exact Qhz.2 ⟨y,hy,rfl⟩
 obtain⟨x,hx,e⟩:=Qhz.1 this;exact Cx.1 (e▸Cx.2 (ho x hx))
theorem Jj{fs gs:List aE}(h:eH fs gs):dw fs=dw gs:=by rw[←tV fs,←tV gs,h]
theorem eH.trans{fs gs hs:List aE}(h:eH fs gs)(h':eH gs hs):eH fs hs:=Eq.trans h h'
def iJ(va:Int)(fs:List aE):Prop:=fS va fs∨1500<dw fs
instance (va : Int) (fs : List aE) : Decidable (iJ va fs) := by unfold iJ; infer_instance
theorem Nt{va:Int}{fs:List aE}(h:¬iJ va fs):fs.length≤60∧dw fs≤1500:=by
 unfold iJ at h;exact⟨D3 (fun e=>h (.inl e)),oM⟩
theorem Qcp{w:World}{A9:ar}{e7 e9 n7 n9 c7 c9:Nat}{x:aE}(hp:x.au=[])(h9:(bx.row e9 6 A9 n9 c9 (xV x)).holds w)(h7:(bx.row e7 5 x.iA n7 c7 (Ry x.insts)).holds w)(hi:∀i,i∈x.insts→(bx.rd i.A (ints i.args)).holds w):RO bq w (.fn A9 [x]):=by
 refine RO.of (fun r hr=> ?_);rcases Qon.1 hr with rfl|hr
 ·have h1:(bx.rd A9 ([x].flatMap xV)).holds w:=by rw[show[x].flatMap xV=xV x by simp];exact aD h9
  have:=jN (f:=xV) y7 oM h1;unfold bx.blocks;rw[show(aq [x]).map SB.cells=[x].map xV by unfold aq;rw[QlQ];rfl];exact this
 ·obtain⟨y,hy,RU⟩:=Qo8.1 hr;rw[yX]at hy;subst hy;unfold aE.parts at RU;rw[hp]at RU;rcases Qon.1 RU with rfl|hr3
  ·intro i cs h;simp at h
  rcases Qon.1 hr3 with rfl|hr4
  ·exact jN kn oM (aD h7)
  rcases Qn2.1 hr4 with hr5|hr5
  ·simp at hr5
  ·obtain⟨p,hp,rfl⟩:=Qhz.1 hr5;exact hi p hp
theorem XH{w:World}{A:ar}:(bx.rd A (ints [])).holds w:=fun i v hi=>by simp[ints]at hi
def Gh:aV:=⟨#[102]⟩
end Go.Mor
namespace Go.Mor
open Go.RowKit
section
variable {T : Int → List Int}
theorem zd{U:Int→af}(h:∀x t,t∈U x→t∈T x){x:Int}(hr:Reach U x):Reach T x:=by
 induction hr with
 |zero=>exact .zero
 |step _ ht ih=>exact .step ih (h _ _ ht)
theorem Qkn{a b x:Int}(hb:b≠0)(h:Reach (HD T a) x):Reach (HD T b) x∨Reach (HD T a) b:=by
 induction h with
 |zero=>exact .inl .zero
 | @step x t hx ht ih=>
  rcases ih with ih|ih
  ·by_cases e:t=b
   ·exact .inr (e▸ .step hx ht)
   ·exact .inl (.step ih (iy.2 ⟨(iy.1 ht).1,e⟩))
  ·exact .inr ih
theorem Dm.trans{a b c:Int}(h1:Dm T a b)(h2:Dm T b c):Dm T a c:=by
 rintro⟨ha,hr⟩;by_cases hb:b=0
 ·subst hb;exact ha (Dm.vr h1)
 ·rcases Qkn hb hr with h|h
  ·exact h2 ⟨hb,h⟩
  ·exact h1 ⟨ha,h⟩
theorem Vf{b x:Int}(hb:b≠0)(h:Reach (HD T b) x):x≠b:=by
 cases h with
 |zero=>exact fun e=>hb e.symm
 |step _ ht=>exact(iy.1 ht).2
theorem Dm.QmZ{a b:Int}(hr:Reach T b)(h1:Dm T a b)(h2:Dm T b a):a=b:=by
 by_cases ha:a=0
 ·subst ha;exact(Dm.vr h2).symm
 by_cases hb:b=0
 ·subst hb;exact Dm.vr h1
 by_cases e:a=b
 ·exact e
 exfalso;have key:∀x,Reach T x→Reach (HD (HD T a) b) x∨Reach (HD T b) a∨Reach (HD T a) b:=by
  intro x hx;induction hx with
  |zero=>exact .inl .zero
  | @step x t hx ht ih=>
   rcases ih with ih|ih
   ·by_cases ea:t=a
    ·subst ea;refine .inr (.inl (.step (zd (fun x s hs=> ?_) ih) (iy.2 ⟨ht,e⟩)));obtain⟨q1,q2⟩:=iy.1 hs;exact iy.2 ⟨(iy.1 q1).1,q2⟩
    ·by_cases eb:t=b
     ·subst eb;refine .inr (.inr (.step (zd (fun x s hs=>(iy.1 hs).1) ih) (iy.2 ⟨ht,fun e2=>e e2.symm⟩)))
     ·exact .inl (.step ih (iy.2 ⟨iy.2 ⟨ht,ea⟩,eb⟩))
   ·exact .inr ih
 rcases key b hr with h|h|h
 ·exact Vf hb h rfl
 ·exact h2 ⟨hb,h⟩
 ·exact h1 ⟨ha,h⟩
theorem MX{c x:Int}(hr:Reach T x)(hx:x=c)(hc:c≠0):∃s,Reach (HD T c) s∧c∈T s:=by
 have key:∀x,Reach T x→Reach (HD T c) x∨∃s,Reach (HD T c) s∧c∈T s:=by
  intro x h;induction h with
  |zero=>exact .inl .zero
  | @step x t _ ht ih=>
   rcases ih with ih|ih
   ·by_cases e:t=c
    ·subst e;exact .inr ⟨x,ih,ht⟩
    ·exact .inl (.step ih (iy.2 ⟨ht,e⟩))
   ·exact .inr ih
 rcases key x hr with h|h
 ·exact absurd hx (Vf hc h)
 ·exact h
theorem QlB{c e:Int}(hr:Reach T c)(hc:c≠0)(h:∀s,Reach (HD T c) s→c∈T s→Dm T e s):Dm T e c∧e≠c:=by
 constructor
 ·rintro⟨he,hre⟩;obtain⟨s,hs,ht⟩:=MX (T:=HD T e) hre rfl hc;have h1:Reach (HD T c) s:=zd (fun x t ht=>by obtain⟨q1,q2⟩:=iy.1 ht;exact iy.2 ⟨(iy.1 q1).1,q2⟩) hs
  exact h s h1 (iy.1 ht).1 ⟨he,zd (fun x t ht=>(iy.1 ht).1) hs⟩
 ·rintro rfl;obtain⟨s,hs,ht⟩:=MX hr rfl hc;exact h s hs ht ⟨hc,hs⟩
end
section
variable {fs : List aE} {nm : ByteArray} {pa va : Int}
abbrev Av(pa va:Int)(fs:List aE)(v b q:Int):Prop:=cI (Dm (tg (aq fs))) pa va (bO fs) v b q
theorem kf(h:iY nm pa va fs){v b q:Int}:Av pa va fs v b q↔0≤v∧v<va∧(v<pa∨∃c k,(v,c,k)∈bO fs∧((c=b∧k<q)∨(c≠b∧Dm (tg (aq fs)) c b))):=yV h.bC.2.2
theorem o8(h:iY nm pa va fs){v:Int}{p q:Int×Int}(h1:(v,p)∈bO fs)(h2:(v,q)∈bO fs):p=q:=by
 have e1:=(Ce h.bC.2.2).2 h1;have e2:=(Ce h.bC.2.2).2 h2;rw[e1]at e2;injection e2
theorem pj(h:iY nm pa va fs){v:Int}{p:Int×Int}(h1:(v,p)∈bO fs):pa≤v∧v<va:=h.bC.2.1 _ h1
theorem Vv(h:iY nm pa va fs){b:Int}(h0:0≤b)(h1:b<fs.length):Reach (tg (aq fs)) b:=by
 have h2:=nD (bs:=aq fs);rw[bK]at h2;have:=j5.1 (h2.1 h.all b.toNat oM);rwa [Qo7 h0]at this
theorem Qi7(h:iY nm pa va fs){u v b q c k:Int}(wF:0≤b)(jU:b<fs.length)(hd:(v,c,k)∈bO fs)(hu:Av pa va fs u c k)(hv:Av pa va fs v b q):Av pa va fs u b q:=by
 have Nv:=pj h hd;obtain⟨h1,h2,h3⟩:=(kf h).1 hv;obtain⟨g1,g2,g3⟩:=(kf h).1 hu;refine(kf h).2 ⟨g1,g2,?_⟩;rcases g3 with g3|⟨e,m,hm,g3⟩
 ·exact .inl g3
 right;rcases h3 with h3|⟨c',k',EI,h3⟩
 ·omega
 have e1:=o8 h hd EI;injection e1 with e1 e2;subst e1;subst e2;refine⟨e,m,hm,?_⟩;rcases g3 with⟨rfl,g3⟩|⟨g3,g4⟩
 ·exact h3.imp (fun⟨q1,q2⟩=>⟨q1,oM⟩) id
 ·right;rcases h3 with⟨rfl,_⟩|⟨q1,q2⟩
  ·exact⟨g3,g4⟩
  ·refine⟨fun e2=> ?_,g4.trans q2⟩;subst e2;exact g3 (Dm.QmZ (Dm.reach (Vv h wF jU) q2) g4 q2)
theorem Qek(h:iY nm pa va fs){v c k:Int}(hd:(v,c,k)∈bO fs):¬Av pa va fs v c k:=by
 intro hv;have Nv:=pj h hd;obtain⟨_,_,h3⟩:=(kf h).1 hv;rcases h3 with h3|⟨c',k',EI,h3⟩
 ·omega
 ·have e1:=o8 h hd EI;injection e1 with e1 e2;subst e1;subst e2;rcases h3 with⟨_,h3⟩|⟨h3,_⟩
  ·omega
  ·exact h3 rfl
def link(σ:Int→Int)(d o:Int):Int→Int:=fun v=>if σ v=d then o else σ v
structure Sub(pa va:Int)(fs:List aE)(σ:Int→Int):Prop where
 av:∀v b q:Int,0≤b→b<fs.length→Av pa va fs v b q→Av pa va fs (σ v) b q
 idem:∀v,σ (σ v)=σ v
 par:∀v,v<pa→σ v=v
theorem Sub.id:Sub pa va fs (fun v=>v):=⟨fun _ _ _ _ _ h=>h,fun _=>rfl,fun _ _=>rfl⟩
theorem Sub.link(h:iY nm pa va fs){σ:Int→Int}(hs:Sub pa va fs σ){d o c k:Int}(hd:(d,c,k)∈bO fs)(PF:σ d=d)(hoo:σ o=o)(ho:Av pa va fs o c k):Sub pa va fs (link σ d o):=by
 have dt:o≠d:=by rintro rfl;exact Qek h hd ho
 have Nv:=pj h hd;refine⟨fun v b q h0 h1 hv=> ?_,fun v=> ?_,fun v hv=> ?_⟩
 ·unfold Go.Mor.link;have:=hs.av v b q h0 h1 hv;split
  ·rename_i e;rw[e]at this;exact Qi7 h h0 h1 hd ho this
  ·exact this
 ·unfold Go.Mor.link;by_cases e:σ v=d
  ·rw[Kt e,hoo,Ds dt]
  ·rw[Ds e,hs.idem,Ds e]
 ·unfold Go.Mor.link;rw[hs.par v hv,Ds oM]
theorem UN{σ:Int→Int}{d o:Int}(PF:σ d=d):link σ d o d=o:=by unfold link;rw[Kt PF]
theorem pr{σ:Int→Int}{d o v:Int}(h:σ v≠d):link σ d o v=σ v:=by unfold link;rw[Ds h]
def jm(σ:Int→Int)(d:Int):af→Int→Option Int
 |[],one=>if one<0 then none else some one
 |a::l,one=>if σ a=d∨σ a=one then jm σ d l one else if 0≤one then none else jm σ d l (σ a)
theorem Cg{σ:Int→Int}{d:Int}:∀{l:af} {one o:Int},jm σ d l one=some o→(∀a,a∈l→0≤σ a)→0≤o∧(0≤one→o=one)∧(∀a,a∈l→σ a=d∨σ a=o)∧(one=o∨∃a,a∈l∧σ a=o∧σ a≠d)
 |[],one,o,h,_=>by
  unfold jm at h;split at h
  ·cases h
  ·injection h with h;subst h;exact⟨oM,fun _=>rfl,sI,.inl rfl⟩
 |a::l,one,o,h,hl=>by
  unfold jm at h;have UU:∀b,b∈l→0≤σ b:=fun b hb=>hl b (Qmq _ hb)
  have ha:=hl a (Qop ..);split at h
  ·rename_i e;obtain⟨q1,q2,q3,q4⟩:=Cg h UU;refine⟨q1,q2,fun b hb=> ?_,q4.imp id fun⟨b,hb,h1⟩=>⟨b,Qmq _ hb,h1⟩⟩;rcases Qon.1 hb with rfl|hb
   ·rcases e with e|e
    ·exact .inl e
    ·by_cases h0:0≤one
     ·exact .inr (by rw[e,q2 h0])
     ·omega
   ·exact q3 b hb
  ·split at h
   ·cases h
   ·rename_i e _;obtain⟨q1,q2,q3,q4⟩:=Cg h UU;have eo:=q2 ha;refine⟨q1,fun h0=>oM,fun b hb=> ?_,.inr ⟨a,Qop ..,eo.symm,fun e2=>e (.inl e2)⟩⟩;rcases Qon.1 hb with rfl|hb
    ·exact .inr eo.symm
    ·exact q3 b hb
theorem Xx(h:iY nm pa va fs){σ:Int→Int}(hs:Sub pa va fs σ){k:Nat}{x:aE}(hx:fs[k]?=some x){p:bZ}(hp:p∈x.au){o:Int}(ho:jm σ p.dst p.args (-1)=some o):(p.dst,(k:Int),-1)∈bO fs∧σ o=o∧Av pa va fs o (k:Int) (-1):=by
 have hd:(p.dst,(k:Int),-1)∈bO fs:=q7.2 ⟨k,x,hx,rfl,.inl ⟨rfl,p,hp,rfl⟩⟩;have Qk:=(List.getElem?_eq_some_iff.1 hx).1;have Fl:(k:Int)≠0:=by intro e;have:k=0:=oM;subst this;have:=h.au x hx;exact absurd (QpU hp) oM
 obtain⟨y,hy,hr⟩:=h.reads k Qk;rw[hx]at hy;injection hy with hy;subst hy;obtain⟨j,hj⟩:=Qmp.1 hp;obtain⟨hl,yN⟩:=hr.au j p hj;have r4:∀(i:Nat) (a s:Int),p.args[i]?=some a→(bG (aq fs) (k:Int))[i]?=some s→Av pa va fs (σ a) s 20000:=by intro i a s ha PN;have NB:=(tJ.1 (D7 PN)).1;rw[bK]at NB;exact hs.av a s 20000 NB.1 NB.2 (yN i a s ha PN)
 have Dg:∀a,a∈p.args→0≤σ a:=by intro a ha;obtain⟨i,hi⟩:=Qmp.1 ha;obtain⟨s,PN⟩:=aM (l:=bG (aq fs) (k:Int)) (i:=i) (by rw[←hl];exact(List.getElem?_eq_some_iff.1 hi).1);exact(r4 i a s hi PN).1
 obtain⟨q1,_,q3,q4⟩:=Cg ho Dg;have Nv:=pj h hd;obtain⟨a0,OS,e0,en0⟩:∃a,a∈p.args∧σ a=o∧σ a≠p.dst:=by
  rcases q4 with q4|q4
  ·omega
  ·exact q4
 have hoo:σ o=o:=by rw[←e0,hs.idem]
 refine⟨hd,hoo,?_⟩;have cV:∀s,Reach (HD (tg (aq fs)) (k:Int)) s→(k:Int)∈tg (aq fs) s→Av pa va fs o s 20000:=by
  intro s ak WG;have No:s∈bG (aq fs) (k:Int):=tJ.2 ⟨ny (by rw[bK];exact h.pos) (zd (fun x t ht=>(iy.1 ht).1) ak),WG⟩;obtain⟨i,hi⟩:=Qmp.1 No;obtain⟨a,ha⟩:=aM (l:=p.args) (i:=i) (by rw[hl];exact(List.getElem?_eq_some_iff.1 hi).1);have hv:=r4 i a s ha hi;rcases q3 a (D7 ha)with e|e
  ·exfalso;rw[e]at hv;obtain⟨_,_,h3⟩:=(kf h).1 hv;rcases h3 with h3|⟨c,m,EI,h3⟩
   ·omega
   ·have e1:=o8 h hd EI;injection e1 with e1 e2;subst e1;rcases h3 with⟨h3,_⟩|⟨_,h3⟩
    ·exact Vf Fl ak h3.symm
    ·exact h3 ⟨Fl,ak⟩
  ·rw[e]at hv;exact hv
 have Va:=Vv h (b:=(k:Int)) oM oM;obtain⟨s0,Vw,ht0⟩:=MX Va rfl Fl;obtain⟨o0,o1,o2⟩:=(kf h).1 (cV s0 Vw ht0);refine(kf h).2 ⟨o0,o1,?_⟩;rcases o2 with o2|⟨e,m,hm,_⟩
 ·exact .inl o2
 ·right;have G0:=QlB (e:=e) Va Fl (fun s ak WG=>by
   obtain⟨_,_,g⟩:=(kf h).1 (cV s ak WG);rcases g with g|⟨e',m',Px,g⟩
   ·have:=pj h hm;omega
   ·have e1:=o8 h hm Px;injection e1 with e1 e2;subst e1;rcases g with⟨g,_⟩|⟨_,g⟩
    ·subst g;exact Dm.self _
    ·exact g)
  exact⟨e,m,hm,.inr ⟨G0.2,G0.1⟩⟩
theorem uu(h:iY nm pa va fs){k j:Nat}{x:aE}{i:bl}(hx:fs[k]?=some x)(hi:x.insts[j]?=some i){a:Int}(ha:a∈i.args):Av pa va fs a (k:Int) (j:Int):=by
 obtain⟨y,hy,hr⟩:=h.reads k (List.getElem?_eq_some_iff.1 hx).1;rw[hx]at hy;injection hy with hy;subst hy;obtain⟨m,hm⟩:=Qmp.1 ha;exact hr.insts j i hi m a hm
end
end Go.Mor
namespace Go.Mor
open Go.RowKit
def bf(σ:Int→Int)(d:Int):Bool:=σ d==d
def uv(σ:Int→Int)(p:bZ):bZ:=⟨p.dst,none,0,p.args.map σ⟩
def lZ(σ:Int→Int)(i:bl):bl:=⟨i.op,i.dst,i.n,i.name,none,0,i.args.map σ⟩
def tW(x:aE):Prop:=x.e=1∨(x.e=2∧0≤x.v)
instance (x : aE) : Decidable (tW x) := by unfold tW; infer_instance
def nE(σ:Int→Int)(x:aE):aE:=⟨none,0,(x.au.filter (fun p=>bf σ p.dst)).map (uv σ),none,0,(x.insts.filter (fun i=>bf σ i.dst)).map (lZ σ),x.e,if tW x then σ x.v else x.v,x.a,x.b⟩
def pt(σ:Int→Int)(fs:List aE):List aE:=fs.map (nE σ)
section
variable {fs : List aE} {nm : ByteArray} {pa va : Int} {σ : Int → Int}
theorem uw{k:Nat}{y:aE}:(pt σ fs)[k]?=some y↔∃x,fs[k]?=some x∧y=nE σ x:=by
 unfold pt;rw[List.getElem?_map,QoQ];exact⟨fun⟨x,h,e⟩=>⟨x,h,e.symm⟩,fun⟨x,h,e⟩=>⟨x,h,e.symm⟩⟩
theorem Qbi:(pt σ fs).map o5=fs.map o5:=by
 unfold pt;rw[QlQ];rfl
theorem ze:(pt σ fs).length=fs.length:=by unfold pt;rw[QlO]
theorem Qmm(x:aE):(o6 (nE σ x)).Sublist (o6 x):=by
 unfold o6 nE;simp only[QlQ];refine List.Sublist.append ?_ ?_
 ·have:((fun p:bZ=>p.dst)∘uv σ)=fun p=>p.dst:=rfl
  rw[this];exact Qpm.map _
 ·rw[Qpy,QlQ];have:((fun i:bl=>i.dst)∘lZ σ)=fun i=>i.dst:=rfl
  rw[this];have e2:((fun i:bl=>decide (aK i.op))∘lZ σ)=fun i=>decide (aK i.op):=rfl
  rw[e2];exact(Qpm.filter _).map _
theorem Qhw(h:eO pa va (bO fs)):eO pa va (bO (pt σ fs)):=by
 have hs:((bO (pt σ fs)).map (·.1)).Sublist ((bO fs).map (·.1)):=by rw[q6,q6];unfold pt;rw[QpY];exact Gc fun x _=>Qmm x
 refine⟨fun d hd=> ?_,h.2.sublist hs⟩;have:=hs.subset (Qhz.2 ⟨d,hd,rfl⟩);obtain⟨e,he,h1⟩:=Qhz.1 this;rw[←h1];exact h.1 e he
theorem sub_def{v:Int}{b q:Int}(hv:σ v=v)(h:(v,b,q)∈bO fs):∃q',(v,b,q')∈bO (pt σ fs)∧q'≤q∧∀(k:Nat) (x:aE) (j:Nat),fs[k]?=some x→b=(k:Int)→q<(j:Int)→q'<(pI (fun i=>bf σ i.dst) x.insts j:Int):=by
 obtain⟨k,x,hx,rfl,h|⟨j,i,hi,hm,rfl,rfl⟩⟩:=q7.1 h
 ·obtain⟨rfl,p,hp,rfl⟩:=h;refine⟨-1,q7.2 ⟨k,nE σ x,uw.2 ⟨x,hx,rfl⟩,rfl,.inl ⟨rfl,uv σ p,Qhz.2 ⟨p,Qov.2 ⟨hp,?_⟩,rfl⟩,rfl⟩⟩,oM,fun k' x' j' _ _ _=>oM⟩;unfold bf;rw[hv];exact QpN _
 ·have hk:bf σ i.dst=true:=by unfold bf;rw[hv];exact QpN _
  refine⟨(pI (fun i=>bf σ i.dst) x.insts j:Nat),q7.2 ⟨k,nE σ x,uw.2 ⟨x,hx,rfl⟩,rfl,.inr ⟨_,lZ σ i,?_,hm,rfl,rfl⟩⟩,?_,fun k' x' j' uI e hj=> ?_⟩
  ·show((x.insts.filter (fun i=>bf σ i.dst)).map (lZ σ))[_]?=_;rw[List.getElem?_map,MT (f:=fun i:bl=>bf σ i.dst) hi hk];rfl
  ·have:=W4 (f:=fun i:bl=>bf σ i.dst) (l:=x.insts) j;omega
  ·have:k'=k:=oM;subst this;rw[hx]at uI;injection uI with uI;subst uI;have:=Qca (f:=fun i:bl=>bf σ i.dst) hi hk (j:=j') oM;omega
theorem Np(h:iY nm pa va fs)(hs:Sub pa va fs σ){v b q q':Int}(h0:0≤b)(h1:b<fs.length)(hq:(∃(k:Nat) (x:aE) (j:Nat),fs[k]?=some x∧b=(k:Int)∧q=(j:Int)∧q'=(pI (fun i=>bf σ i.dst) x.insts j:Int))∨q≤q')(hv:Av pa va fs v b q):cI (Dm (tg (aq fs))) pa va (bO (pt σ fs)) (σ v) b q':=by
 obtain⟨g1,g2,g3⟩:=(kf h).1 (hs.av v b q h0 h1 hv);refine(yV (Qhw h.bC.2).2).2 ⟨g1,g2,g3.imp id ?_⟩;rintro⟨c,k,hd,h4⟩;obtain⟨k',EI,hle,eV⟩:=sub_def (hs.idem v) hd;refine⟨c,k',EI,h4.imp (fun⟨e,hk⟩=>⟨e,?_⟩) id⟩;rcases hq with⟨kb,x,j,hx,rfl,rfl,rfl⟩|hq
 ·exact eV kb x j hx e hk
 ·omega
theorem Qle{i:bl}(h:bQ i):bQ (lZ σ i):=by
 unfold bQ at h⊢;simpa only[lZ,QlO]using h
theorem QlD(h:iY nm pa va fs)(hs:Sub pa va fs σ):iY nm pa va (pt σ fs):=by
 have he:=Qbi (σ:=σ) (fs:=fs);have hl:=ze (σ:=σ) (fs:=fs);refine⟨h.name,h.par,by rw[hl];exact h.pos,fun y hy=> ?_,?_,(yU he).2 h.all,fun y hy=> ?_,⟨fun y hy p hp=> ?_,Qhw h.bC.2⟩,fun k hk=> ?_⟩
 ·obtain⟨x,hx,rfl⟩:=uw.1 hy;have:=h.au x hx;show((x.au.filter _).map (uv σ)).length=0;rw[QlO];have h2:=QoI (fun p:bZ=>bf σ p.dst) x.au;omega
 ·rw[j7 he];exact h.src
 ·obtain⟨x,hx,rfl⟩:=Qhz.1 hy;rw[hl];have:=h.ends x hx;unfold fU at this⊢;show(x.e=0∧(0≤x.a∧x.a<_)∧(if tW x then σ x.v else x.v)=0∧x.b=0)∨(x.e=1∧(0≤x.a∧x.a<_)∧(0≤x.b∧x.b<_)∧x.a≠x.b)∨(x.e=2∧x.a=0∧x.b=0)∨(x.e=3∧dj x.a∧(if tW x then σ x.v else x.v)=0∧x.b=0);rcases this with⟨e,h1,h2,h3⟩|h1|h1|⟨e,h1,h2,h3⟩
  ·exact .inl ⟨e,h1,by rw[Ds (by unfold tW;omega)];exact h2,h3⟩
  ·exact .inr (.inl h1)
  ·exact .inr (.inr (.inl h1))
  ·exact .inr (.inr (.inr ⟨e,h1,by rw[Ds (by unfold tW;omega)];exact h2,h3⟩))
 ·obtain⟨x,hx,rfl⟩:=Qhz.1 hy;obtain⟨i,hi,rfl⟩:=Qhz.1 hp;exact Qle (h.bC.1 x hx i (Qov.1 hi).1)
 ·obtain⟨x,hx,hr⟩:=h.reads k oM;have Qk:(k:Int)<fs.length:=oM;refine⟨nE σ x,uw.2 ⟨x,hx,rfl⟩,⟨fun j p hp=> ?_,fun m p hp i a ha=> ?_,fun hR=> ?_⟩⟩
  ·have EC:((x.au.filter (fun p=>bf σ p.dst)).map (uv σ))[j]?=some p:=hp;rw[List.getElem?_map,QoQ]at EC;obtain⟨p0,kr,rfl⟩:=EC;obtain⟨j',h1,h2,_⟩:=vN kr;obtain⟨h3,h4⟩:=hr.au j' p0 h1;rw[j7 he,mH he];refine⟨by show(p0.args.map σ).length=_;rw[QlO];exact h3,fun i a s ha PN=> ?_⟩;have nW:(p0.args.map σ)[i]?=some a:=ha;rw[List.getElem?_map,QoQ]at nW;obtain⟨a0,OS,rfl⟩:=nW;have NB:=(tJ.1 (D7 PN)).1;rw[bK]at NB;exact Np h hs NB.1 NB.2 (.inr (Qol _)) (h4 i a0 s OS PN)
  ·have EC:((x.insts.filter (fun i=>bf σ i.dst)).map (lZ σ))[m]?=some p:=hp;rw[List.getElem?_map,QoQ]at EC;obtain⟨p0,kr,rfl⟩:=EC;obtain⟨j',h1,h2,h3⟩:=vN kr;have nW:(p0.args.map σ)[i]?=some a:=ha;rw[List.getElem?_map,QoQ]at nW;obtain⟨a0,OS,rfl⟩:=nW;rw[mH he];exact Np h hs oM Qk (.inl ⟨k,x,j',hx,rfl,rfl,by rw[h3]⟩) (hr.insts j' p0 h1 i a0 OS)
  ·have Qok:=h.ends x (D7 hx);have hR2:qp x:=by
    rcases hR with e|⟨e,dt⟩
    ·exact .inl e
    ·refine .inr ⟨e,fun e2=> ?_⟩;apply dt;show(if tW x then σ x.v else x.v)= -1;have e':x.e=2:=e;rw[Ds (by unfold tW;omega)];exact e2
   have ht:=hr.fin hR2;have zY:tW x:=by
    rcases hR2 with e|⟨e,_⟩
    ·exact .inl e
    ·exact .inr ⟨e,ht.1⟩
   show cI (Dm (tg (aq (pt σ fs)))) pa va (bO (pt σ fs)) (if tW x then σ x.v else x.v) (k:Int) 20000;rw[Kt zY,mH he];exact Np h hs oM Qk (.inr (Qol _)) ht
theorem QlE:dw (pt σ fs)≤dw fs:=by
 unfold dw jd;rw[Qot (kQ _),Qot (kQ _)];unfold pt;rw[QlO,QlQ];have:∀l:List aE,(l.map ((fun x=>x.au.length+x.insts.length)∘nE σ)).sum≤(l.map (fun x=>x.au.length+x.insts.length)).sum:=by
  intro l;induction l with
  |nil=>simp
  |cons a l ih=>
   have h1:=QoI (fun p:bZ=>bf σ p.dst) a.au;have h2:=QoI (fun i:bl=>bf σ i.dst) a.insts;have h3:(nE σ a).au.length=(a.au.filter (fun p=>bf σ p.dst)).length:=by unfold nE;simp
   have h4:(nE σ a).insts.length=(a.insts.filter (fun i=>bf σ i.dst)).length:=by unfold nE;simp
   simp only[QoK,Qpz,QpZ];omega
 have:=this fs;omega
theorem Qlf(h:cC nm pa va fs=0)(hs:Sub pa va fs σ):cC nm pa va (pt σ fs)=0:=by
 unfold cC at h⊢;split at h
 ·cases h
 ·rename_i h1;split at h
  ·rename_i h2;have:=QlE (fs:=fs) (σ:=σ);rw[Ds oM,Kt (QlD h2 hs)]
  ·cases h
end
end Go.Mor
namespace Go.Mor
open Go.RowKit
section
variable {P : Program} {t : TypeId} {f0 f1 f2 f3 f4 : Field}
structure Qmn(P:Program)(t:TypeId)(f0 f1 f2 f3 f4:Field):Prop where
 und:P.underlying t=some (.struct #[f0,f1,f2,f3,f4])
 held:P.stoodInHeld t=false
 n0:f0.name≠ "_"
 n1:f1.name≠ "_"
 n2:f2.name≠ "_"
 n3:f3.name≠ "_"
 n4:f4.name≠ "_"
 t0:P.underlying f0.type=some (.int .i64)
 t1:P.underlying f1.type=some (.int .i64)
 t2:P.underlying f2.type=some .string
 t3:P.underlying f3.type=some (.int .i64)
 t4:P.underlying f4.type=some (.int .i64)
 o0:f0.offset=0
 o1:f1.offset=1
 o2:f2.offset=2
 o3:f3.offset=3
 o4:f4.offset=4
abbrev QlF(a b:Int)(s:aV)(c d:Int):Value:= .agg #[vI a,vI b,.string s,vI c,vI d]
theorem mL{e:TypeId}(he:P.underlying e=some (.int .i64)){xs:Array Value}{off:Nat}{v:Value}(hx:xs[off]?=some v)(w:World):(part e xs off).run P w= .ok v w:=by
 simp[part,isAgg,QoH he,hx]
theorem Xy{e:TypeId}(he:P.underlying e=some .string){xs:Array Value}{off:Nat}{v:Value}(hx:xs[off]?=some v)(w:World):(part e xs off).run P w= .ok v w:=by
 simp[part,isAgg,QoH he,hx]
theorem Qmo(h:Qmn P t f0 f1 f2 f3 f4)(a b:Int)(s:aV)(c d:Int)(a' b':Int)(s':aV)(c' d':Int)(w:World):(Op.equal t (QlF a b s c d) (QlF a' b' s' c' d')).run P w= .ok ((a,b,s,c,d)==(a',b',s',c',d')) w:=by
 have hf:P.fieldsOf t=#[f0,f1,f2,f3,f4]:=by unfold Program.fieldsOf;rw[h.und]
 unfold Op.equal;rw[show Op.maxDepth=9999+1 from rfl,run_equalIn_struct w 9999 t _ _ (by rw[hf];exact h.und) h.held,hf];have e:((a,b,s,c,d)==(a',b',s',c',d'))=(a==a'&&(b==b'&&(s.toList==s'.toList&&(c==c'&&d==d')))):=by rw[←beq_toListBytes];rfl
 simp only[e,Op.eqFields,h.n0,h.n1,h.n2,h.n3,h.n4,h.o0,h.o1,h.o2,h.o3,h.o4,QoR,QoY,Qpj,Qor];rw[mL h.t0 (v:=vI a) rfl,QnS,mL h.t0 (v:=vI a') rfl,QnS,Qp0 w 9998 f0.type .i64 .i64 a a' h.t0,QnS];cases a==a' with
 |false=>simp
 |true=>
  simp only[QpS,Qpp,Qo0,Bool.true_and,Qor];rw[mL h.t1 (v:=vI b) rfl,QnS,mL h.t1 (v:=vI b') rfl,QnS,Qp0 w 9998 f1.type .i64 .i64 b b' h.t1,QnS];cases b==b' with
  |false=>simp
  |true=>
   simp only[QpS,Qpp,Qo0,Bool.true_and,Qor];rw[Xy h.t2 (v:=vT s) rfl,QnS,Xy h.t2 (v:=vT s') rfl,QnS,run_equalIn_string w 9998 f2.type s s' h.t2,QnS];cases s.toList==s'.toList with
   |false=>simp
   |true=>
    simp only[QpS,Qpp,Qo0,Bool.true_and,Qor];rw[mL h.t3 (v:=vI c) rfl,QnS,mL h.t3 (v:=vI c') rfl,QnS,Qp0 w 9998 f3.type .i64 .i64 c c' h.t3,QnS];cases c==c' with
    |false=>simp
    |true=>
     simp only[QpS,Qpp,Qo0,Bool.true_and,Qor];rw[mL h.t4 (v:=vI d) rfl,QnS,mL h.t4 (v:=vI d') rfl,QnS,Qp0 w 9998 f4.type .i64 .i64 d d' h.t4,QnS];cases d==d'<;>simp
abbrev K5:=Int×Int×aV×Int×Int
def l5(k:K5):Value:=QlF k.1 k.2.1 k.2.2.1 k.2.2.2.1 k.2.2.2.2
theorem Qhx(h:Qmn P t f0 f1 f2 f3 f4)(s:K5)(w:World):∀(es:List MapEntry) (l:List (K5×Value)) (i:Nat),es.map (fun e=>(e.key,e.val))=pP l5 l→(Instr.findAsking t (l5 s) es i).run P w= .ok ((iM l s).map (fun p=>(i+p.1,p.2))) w
 |[],l,i,hl=>by
  cases l with
  |nil=>rfl
  |cons x r=>simp[pP]at hl
 |x::es,l,i,hl=>by
  cases l with
  |nil=>simp[pP]at hl
  |cons y r=>
   obtain⟨k0,v0⟩:=y;simp only[pP,QoK,QpM,Qaq]at hl;obtain⟨⟨h1,h2⟩,h3⟩:=hl;unfold Instr.findAsking iM;rw[Qor,h1];have he:=Qmo h s.1 s.2.1 s.2.2.1 s.2.2.2.1 s.2.2.2.2 k0.1 k0.2.1 k0.2.2.1 k0.2.2.2.1 k0.2.2.2.2 w;rw[show(Op.equal t (l5 s) (l5 k0)).run P w= .ok (s==k0) w from he,QnS];cases s==k0 with
   |true=>simp[h2]
   |false=>
    simp only[Qpp,Qo0];rw[Qhx h s w es r (i+1) h3];cases iM r s with
    |none=>rfl
    |some p=>simp only[Fc];congr 2;rw[Nat.add_right_comm,QpG]
theorem QkG(h:Qmn P t f0 f1 f2 f3 f4):Qej P t (.struct #[f0,f1,f2,f3,f4]) l5 where
 chk em a w:=by
  have c:∀{e:TypeId} {d:TypeDesc} {v:Value},P.underlying e=some d→MapKept.IsKey d v→(Instr.checkKey em 9999 e v).run P w= .ok () w:=fun h1 h2=>MapKept.run_checkKey h1 h2 em 9998
  have ki:∀n:Int,MapKept.IsKey (.int .i64) (vI n):=fun _=>rfl
  have ks:∀n:aV,MapKept.IsKey .string (vT n):=fun _=>trivial
  show(Instr.checkKey em (9999+1) t (l5 a)).run P w=_;unfold Instr.checkKey;simp only[l5,QlF,Qor,QoH h.und,QnS];rw[←Array.forIn_toList];simp only[List.forIn_cons,List.forIn_nil,h.n0,h.n1,h.n2,h.n3,h.n4,h.o0,h.o1,h.o2,h.o3,h.o4,QoR,QoY,Qpj,Qor,Qo4,QnS];rw[mL h.t0 (v:=vI a.1) rfl,QnS,c h.t0 (ki _),QnS];simp only[Qo4,Qor,QnS];rw[mL h.t1 (v:=vI a.2.1) rfl,QnS,c h.t1 (ki _),QnS];simp only[Qo4,Qor,QnS];rw[Xy h.t2 (v:=vT a.2.2.1) rfl,QnS,c h.t2 (ks _),QnS];simp only[Qo4,Qor,QnS];rw[mL h.t3 (v:=vI a.2.2.2.1) rfl,QnS,c h.t3 (ki _),QnS];simp only[Qo4,Qor,QnS];rw[mL h.t4 (v:=vI a.2.2.2.2) rfl,QnS,c h.t4 (ki _),QnS];rfl
 fnd s es l w hl:=by
  unfold Instr.findKey;rw[Qor,QoH h.und];simp only[QnS];have ha:=Qhx h s w es l 0 hl;have e0:(iM l s).map (fun p=>(0+p.1,p.2))=iM l s:=by cases iM l s<;>simp
  rw[e0]at ha;cases es with
  |nil=>
   cases l with
   |nil=>rfl
   |cons x r=>simp[pP]at hl
  |cons x es=>
   have hn:Instr.findNow (.struct #[f0,f1,f2,f3,f4]) (l5 s) (x::es) 0=none:=by unfold Instr.findNow Instr.sameNow;rfl
   rw[hn];exact ha
 stays a w:=by
  have:Instr.sameBits 10000 (l5 a) (l5 a)=true:=by unfold l5 QlF;simp[Instr.sameBits,Qqv]
  simp[Instr.keyThatStays,this]
 eqv a b e:=by
  obtain⟨a1,a2,a3,a4,a5⟩:=a;obtain⟨b1,b2,b3,b4,b5⟩:=b;have e2:(a1==b1&&(a2==b2&&(a3.toList==b3.toList&&(a4==b4&&a5==b5))))=true:=by rw[←beq_toListBytes];exact e
  rw[←beq_toListBytes]at e2;simp only[QlP,Qco]at e2;obtain⟨rfl,rfl,h3,rfl,rfl⟩:=e2;have:a3=b3:=by simpa[Qqv]using h3
  rw[this]
end
end Go.Mor
namespace Go.Mor
open Go.RowKit
abbrev q9:=K5
def qI(op n:Int)(name:aV)(l:af):q9:=(op,n,name,l.getD 0 (-1),l.getD 1 (-1))
def po(σ:Int→Int)(p:bZ):Int→Int:=match jm σ p.dst p.args (-1)with
 |some o=>link σ p.dst o
 |none=>σ
abbrev StI:=(Int→Int)×List (q9×Int)
def mN(s:StI)(i:bl):StI:=if i.op=12 then(link s.1 i.dst (s.1 ((i.args.map s.1).getD 0 0)),s.2)else if db i.op then match fh s.2 (qI i.op i.n i.name (i.args.map s.1))with
  |some v=>(link s.1 i.dst v,s.2)
  |none=>(s.1,V3 s.2 (qI i.op i.n i.name (i.args.map s.1)) i.dst)
 else s
def yW(σ:Int→Int)(x:aE):Int→Int:=(x.insts.foldl mN (x.au.foldl po σ,[])).1
def sR(fs:List aE)(k:Nat):Int→Int:=(fs.take k).foldl yW (fun v=>v)
def lW(fs:List aE):Int→Int:=fs.foldl yW (fun v=>v)
def gX(fs:List aE):List aE:=pt (lW fs) fs
def gJ:Nat→List aE→List aE
 |0,fs=>fs
 |n+1,fs=>if dw (gX fs)<dw fs then gJ n (gX fs)else fs
def mi(fs:List aE):List aE:=gJ (dw fs) fs
theorem Qcd{α β:Type}[BEq α]{l:List (α×β)}{s:α}{v:β}{e:α×β}(h:e∈V3 l s v):e=(s,v)∨e∈l:=by
 induction l with
 |nil=>simp[V3]at h;exact .inl h
 |cons a l ih=>
  obtain⟨k,u⟩:=a;unfold V3 at h;cases hs:s==k with
  |true=>
   rw[hs]at h;rcases Qon.1 h with h|h
   ·exact .inl h
   ·exact .inr (Qmq _ h)
  |false=>
   rw[hs]at h;rcases Qon.1 h with h|h
   ·exact .inr (h▸Qop ..)
   ·exact(ih h).imp id (Qmq _)
theorem XD{α β:Type}[BEq α]{l:List (α×β)}{s:α}{v:β}(h:fh l s=some v):∃k,(k,v)∈l∧(s==k)=true:=by
 induction l with
 |nil=>simp[fh]at h
 |cons a l ih=>
  obtain⟨k,u⟩:=a;unfold fh at h;cases hs:s==k with
  |true=>rw[hs]at h;injection h with h;subst h;exact⟨k,Qop ..,hs⟩
  |false=>rw[hs]at h;obtain⟨k',h1,h2⟩:=ih h;exact⟨k',Qmq _ h1,h2⟩
section
variable {fs : List aE} {nm : ByteArray} {pa va : Int} {σ : Int → Int} {k j : Nat} {x : aE} {had : List (q9 × Int)}
structure nI(va:Int)(σ:Int→Int)(d o:Int):Prop where
 dd:σ d=d
 oo:σ o=o
 ne:o≠d
 d0:0≤d
 d1:d<va
 o0:0≤o
 o1:o<va
theorem Qel(h:iY nm pa va fs){d o c m:Int}(hd:(d,c,m)∈bO fs)(PF:σ d=d)(hoo:σ o=o)(ho:Av pa va fs o c m):nI va σ d o:=by
 have Nv:=pj h hd;have W9:=h.par;exact⟨PF,hoo,by rintro rfl;exact Qek h hd ho,oM,Nv.2,ho.1,ho.2.1⟩
structure zl(pa va:Int)(fs:List aE)(k:Nat)(σ:Int→Int):Prop where
 sub:Sub pa va fs σ
 zf:∀v c m:Int,(v,c,m)∈bO fs→(k:Int)≤c→σ v=v
structure Ut(pa va:Int)(fs:List aE)(k:Nat)(x:aE)(j:Nat)(σ:Int→Int):Prop where
 sub:Sub pa va fs σ
 zf:∀v c m:Int,(v,c,m)∈bO fs→(k:Int)<c→σ v=v
 au:∀(i:Nat) (p:bZ),j≤i→x.au[i]?=some p→σ p.dst=p.dst
 insts:∀v m:Int,(v,(k:Int),m)∈bO fs→0≤m→σ v=v
structure xp(pa va:Int)(fs:List aE)(k:Nat)(x:aE)(j:Nat)(σ:Int→Int)(had:List (q9×Int)):Prop where
 sub:Sub pa va fs σ
 zf:∀v c m:Int,(v,c,m)∈bO fs→(k:Int)<c→σ v=v
 insts:∀v m:Int,(v,(k:Int),m)∈bO fs→(j:Int)≤m→σ v=v
 had:∀e,e∈had→σ e.2=e.2∧∃m:Int,0≤m∧m<j∧(e.2,(k:Int),m)∈bO fs
theorem zl.start:zl pa va fs 0 (fun v=>v):=⟨Sub.id,fun _ _ _ _ _=>rfl⟩
theorem zl.toP(h:zl pa va fs k σ)(hx:fs[k]?=some x):Ut pa va fs k x 0 σ:=⟨h.sub,fun v c m hd hc=>h.zf v c m hd oM,fun i p _ hp=>h.zf p.dst k (-1) (q7.2 ⟨k,x,hx,rfl,.inl ⟨rfl,p,D7 hp,rfl⟩⟩) (Qol _),fun v m hd _=>h.zf v k m hd (Qol _)⟩
theorem Nq(h:iY nm pa va fs)(hx:fs[k]?=some x):(o6 x).Nodup:=by
 have:=h.bC.2.2;rw[q6]at this;exact this.sublist (tZ (D7 hx))
theorem Gb(h:iY nm pa va fs)(hx:fs[k]?=some x){i:Nat}{p q:bZ}(hp:x.au[j]?=some p)(hq:x.au[i]?=some q)(dt:i≠j):q.dst≠p.dst:=by
 have hn:=(QoS.1 (Nq h hx)).1;have EC:=QpX.1 hn;exact lv (R:=fun a b:bZ=>a.dst≠b.dst) (fun _ _ h e=>h e.symm) EC hq hp dt
theorem Ut.step(h:iY nm pa va fs)(hx:fs[k]?=some x)(hs:Ut pa va fs k x j σ){p:bZ}(hp:x.au[j]?=some p):Ut pa va fs k x (j+1) (po σ p)∧∀o,jm σ p.dst p.args (-1)=some o→nI va σ p.dst o:=by
 unfold po;cases ho:jm σ p.dst p.args (-1)with
 |none=>exact⟨⟨hs.sub,hs.zf,fun i q hi hq=>hs.au i q oM hq,hs.insts⟩,fun o h=>by cases h⟩
 |some o=>
  obtain⟨hd,hoo,yN⟩:=Xx h hs.sub hx (D7 hp) ho;have PF:=hs.au j p (kQ _) hp;have dt:∀{v c m:Int},(v,c,m)∈bO fs→(c,m)≠((k:Int),(-1:Int))→σ v=v→link σ p.dst o v=v:=by intro v c m hv ZT e;rw[pr (by rw[e];rintro rfl;exact ZT (o8 h hv hd)),e]
  refine⟨⟨hs.sub.link h hd PF hoo yN,fun v c m hv hc=>dt hv (by intro e;injection e with e1;omega) (hs.zf v c m hv hc),fun i q hi hq=> ?_,fun v m hv hm=>dt hv (by intro e;injection e with _ e1;omega) (hs.insts v m hv hm)⟩,fun o' e=>by injection e with e;subst e;exact Qel h hd PF hoo yN⟩;have e:=hs.au i q oM hq;show link σ p.dst o q.dst=q.dst;rw[pr (by rw[e];exact Gb h hx hp hq oM),e]
theorem Ut.toI(hs:Ut pa va fs k x j σ):xp pa va fs k x 0 σ []:=⟨hs.sub,hs.zf,fun v m hd hm=>hs.insts v m hd oM,sI⟩
theorem xp.step(h:iY nm pa va fs)(hx:fs[k]?=some x)(hs:xp pa va fs k x j σ had){i:bl}(hi:x.insts[j]?=some i):xp pa va fs k x (j+1) (mN (σ,had) i).1 (mN (σ,had) i).2∧(i.op=12→nI va σ i.dst (σ ((i.args.map σ).getD 0 0)))∧(i.op≠12→db i.op→∀v,fh had (qI i.op i.n i.name (i.args.map σ))=some v→nI va σ i.dst v):=by
 have xU:aK i.op→(i.dst,(k:Int),(j:Int))∈bO fs:=fun hm=>q7.2 ⟨k,x,hx,rfl,.inr ⟨j,i,hi,hm,rfl,rfl⟩⟩
 have dt:∀{o:Int},aK i.op→∀{v c m:Int},(v,c,m)∈bO fs→(c,m)≠((k:Int),(j:Int))→σ v=v→link σ i.dst o v=v:=by intro o hm v c m hv ZT e;rw[pr (by rw[e];rintro rfl;exact ZT (o8 h hv (xU hm))),e]
 have keep:∀{o:Int},aK i.op→σ o=o→Av pa va fs o (k:Int) (j:Int)→xp pa va fs k x (j+1) (link σ i.dst o) had:=by intro o hm hoo yN;have PF:=hs.insts i.dst j (xU hm) (Qol _);refine⟨hs.sub.link h (xU hm) PF hoo yN,fun v c m hv hc=>dt hm hv (by intro e;injection e with e1;omega) (hs.zf v c m hv hc),fun v m hv hl=>dt hm hv (by intro e;injection e with _ e1;omega) (hs.insts v m hv oM),fun e he=> ?_⟩;obtain⟨e1,m,hm0,ZH,dH⟩:=hs.had e he;exact⟨dt hm dH (by intro e;injection e with _ e1;omega) e1,m,hm0,oM,dH⟩
 have stay:∀QkQ,(∀e,e∈QkQ→σ e.2=e.2∧∃m:Int,0≤m∧m<((j+1:Nat):Int)∧(e.2,(k:Int),m)∈bO fs)→xp pa va fs k x (j+1) σ QkQ:=fun QkQ hh=>⟨hs.sub,hs.zf,fun v m hv hl=>hs.insts v m hv oM,hh⟩
 unfold mN;by_cases Ky:i.op=12
 ·rw[Kt Ky];have hm:aK i.op:=jf (.inr (.inl Ky));have hlen:i.args.length=1:=by have:=h.bC.1 x (D7 hx) i (D7 hi);unfold bQ at this;omega
  obtain⟨a,ha⟩:∃a,i.args=[a]:=QpT.1 hlen;have e:(i.args.map σ).getD 0 0=σ a:=by rw[ha];rfl
  have yN:=hs.sub.av a k j oM (by have:=(List.getElem?_eq_some_iff.1 hx).1;omega) (uu h hx hi (a:=a) (by rw[ha];simp));simp only[e,hs.sub.idem];exact⟨keep hm (hs.sub.idem a) yN,fun _=>Qel h (xU hm) (hs.insts i.dst j (xU hm) (Qol _)) (hs.sub.idem a) yN,fun hn=>absurd Ky hn⟩
 ·rw[Ds Ky];by_cases hp:db i.op
  ·rw[Kt hp];have hm:=jf hp;cases hl:fh had (qI i.op i.n i.name (i.args.map σ))with
   |some v=>
    obtain⟨kk,pv,_⟩:=XD hl;obtain⟨e1,m,hm0,ZH,dH⟩:=hs.had _ pv;have Nv:=pj h dH;have W9:=h.par;have yN:Av pa va fs v (k:Int) (j:Int):=(kf h).2 ⟨oM,Nv.2,.inr ⟨k,m,dH,.inl ⟨rfl,ZH⟩⟩⟩;refine⟨keep hm e1 yN,fun e=>absurd e Ky,fun _ _ v' e=> ?_⟩;injection e with e;subst e;exact Qel h (xU hm) (hs.insts i.dst j (xU hm) (Qol _)) e1 yN
   |none=>
    refine⟨stay _ fun e he=> ?_,fun e=>absurd e Ky,fun _ _ v' e=>by cases e⟩;rcases Qcd he with rfl|he
    ·exact⟨hs.insts i.dst j (xU hm) (Qol _),j,oM,oM,xU hm⟩
    ·obtain⟨e1,m,hm0,ZH,dH⟩:=hs.had e he;exact⟨e1,m,hm0,oM,dH⟩
  ·rw[Ds hp];refine⟨stay _ fun e he=> ?_,fun e=>absurd e Ky,fun _ h=>absurd h hp⟩;obtain⟨e1,m,hm0,ZH,dH⟩:=hs.had e he;exact⟨e1,m,hm0,oM,dH⟩
theorem xp.toA(hs:xp pa va fs k x j σ had):zl pa va fs (k+1) σ:=⟨hs.sub,fun v c m hd hc=>hs.zf v c m hd oM⟩
theorem ka{α β:Type}(f:β→α→β)(a:β){l:List α}{j:Nat}{y:α}(hy:l[j]?=some y):(l.take (j+1)).foldl f a=f ((l.take j).foldl f a) y:=by
 obtain⟨hj,he⟩:=List.getElem?_eq_some_iff.1 hy;rw[Qow hj,Qp1,he];rfl
theorem Qbj{α β:Type}(f:β→α→β)(a:β){l:List α}{j:Nat}(hj:l.length≤j):(l.take j).foldl f a=l.foldl f a:=by rw[Qot hj]
theorem OM(h:iY nm pa va fs)(hx:fs[k]?=some x)(hs:zl pa va fs k σ):∀j,j≤x.au.length→Ut pa va fs k x j ((x.au.take j).foldl po σ)
 |0,_=>hs.toP hx
 |j+1,hj=>by obtain⟨p,hp⟩:=aM (l:=x.au) (i:=j) oM;rw[ka _ _ hp];exact((OM h hx hs j oM).step h hx hp).1
theorem ON(h:iY nm pa va fs)(hx:fs[k]?=some x)(hs:zl pa va fs k σ):∀j,j≤x.insts.length→xp pa va fs k x j ((x.insts.take j).foldl mN (x.au.foldl po σ,[])).1 ((x.insts.take j).foldl mN (x.au.foldl po σ,[])).2
 |0,_=>by have:=(OM h hx hs x.au.length (kQ _)).toI;rw[QoF]at this;exact this
 |j+1,hj=>by obtain⟨i,hi⟩:=aM (l:=x.insts) (i:=j) oM;rw[ka _ _ hi];exact((ON h hx hs j oM).step h hx hi).1
theorem QlG(h:iY nm pa va fs)(hx:fs[k]?=some x)(hs:zl pa va fs k σ):zl pa va fs (k+1) (yW σ x):=by
 have:=(ON h hx hs x.insts.length (kQ _)).toA;rw[QoF]at this;exact this
theorem sP(h:iY nm pa va fs):∀k,k≤fs.length→zl pa va fs k (sR fs k)
 |0,_=>zl.start
 |k+1,hk=>by obtain⟨x,hx⟩:=aM (l:=fs) (i:=k) oM;unfold sR;rw[ka _ _ hx];exact QlG h hx (sP h k oM)
theorem zk(h:iY nm pa va fs):Sub pa va fs (lW fs):=by
 have:=(sP h fs.length (kQ _)).sub;unfold sR at this;rwa [QoF]at this
theorem u9(h:cC nm pa va fs=0):cC nm pa va (gX fs)=0:=Qlf h (zk (oK h).1)
theorem vt:∀(n:Nat) {fs:List aE},cC nm pa va fs=0→cC nm pa va (gJ n fs)=0
 |0,_,h=>h
 |n+1,fs,h=>by
  unfold gJ;split
  ·exact vt n (u9 h)
  ·exact h
theorem UB(h:cC nm pa va fs=0):cC nm pa va (mi fs)=0:=vt _ h
theorem XE:∀(n:Nat) (fs:List aE),(gJ n fs).length=fs.length
 |0,_=>rfl
 |n+1,fs=>by
  unfold gJ;split
  ·rw[XE n,gX,ze]
  ·rfl
theorem Qbk:(mi fs).length=fs.length:=XE _ _
theorem Ar{n:Nat}(h:¬dw (gX fs)<dw fs):gJ n fs=fs:=by
 cases n with
 |zero=>rfl
 |succ n=>unfold gJ;rw[Ds h]
theorem Qhy{n:Nat}:dw fs≤n→gJ n fs=mi fs:=by
 intro h;have key:∀(m:Nat) (fs:List aE),dw fs≤m→∀n,dw fs≤n→gJ n fs=gJ m fs:=by
  intro m;induction m with
  |zero=>
   intro fs h0 n hn;rw[Ar oM];rfl
  |succ m ih=>
   intro fs hm n hn;cases n with
   |zero=>
    rw[Ar (n:=m+1) oM];rfl
   |succ n=>
    unfold gJ;split
    ·exact ih _ oM _ oM
    ·rfl
 exact key _ _ (kQ _) _ h
end
end Go.Mor
namespace Go.Mor
open Go.RowKit
def QbY(σ τ:Int→Int):Prop:=∀v,τ (σ v)=τ v
theorem QbY.trans{a b c:Int→Int}(h:QbY a b)(h2:QbY b c):QbY a c:=fun v=>by rw[←h2 (a v),h v,h2 v]
theorem Qb1{σ:Int→Int}(h:∀v,σ (σ v)=σ v)(d o:Int):QbY σ (link σ d o):=fun v=>by unfold link;rw[h]
theorem Qgb{σ:Int→Int}(h:∀v,σ (σ v)=σ v)(p:bZ):QbY σ (po σ p):=by
 unfold po;split
 ·exact Qb1 h _ _
 ·exact h
theorem Qgc{s:StI}(h:∀v,s.1 (s.1 v)=s.1 v)(i:bl):QbY s.1 (mN s i).1:=by
 unfold mN;split
 ·exact Qb1 h _ _
 split
 ·split
  ·exact Qb1 h _ _
  ·exact h
 ·exact h
theorem Qb3{v:Int}:∀(l:List bZ) (σ:Int→Int),(∀p,p∈l→p.dst≠v)→σ v=v→l.foldl po σ v=v
 |[],σ,_,h=>h
 |p::l,σ,hp,h=>by
  rw[QpE];refine Qb3 l _ (fun q hq=>hp q (Qmq _ hq)) ?_;unfold po;cases ho:jm σ p.dst p.args (-1)with
  |none=>exact h
  |some o=>
   show link σ p.dst o v=v;rw[pr (by rw[h];exact(hp p (Qop ..)).symm),h]
theorem QlN{a b:aV}(h:(a==b)=true):a=b:=by
 cases a with
 |mk a=>
  cases b with
  |mk b=>
   have h:(a==b)=true:=h;rw[eq_of_beq h]
theorem QkR{s k:q9}(h:(s==k)=true):s=k:=by
 obtain⟨a,b,c,d,e⟩:=s;obtain⟨a',b',c',d',e'⟩:=k;have h:(a==a'&&(b==b'&&(c==c'&&(d==d'&&e==e'))))=true:=h;simp only[QlP]at h;obtain⟨h1,h2,h3,h4,h5⟩:=h;rw[eq_of_beq h1,eq_of_beq h2,QlN h3,eq_of_beq h4,eq_of_beq h5]
theorem Qi8{v:Int}{s:StI}{i:bl}(hp:aK i.op→i.dst≠v)(h:s.1 v=v):(mN s i).1 v=v:=by
 unfold mN;split
 ·rename_i Ky;have hm:aK i.op:=jf (.inr (.inl Ky));show link s.1 i.dst _ v=v;rw[pr (by rw[h];exact(hp hm).symm),h]
 split
 ·rename_i hq;split
  ·show link s.1 i.dst _ v=v;rw[pr (by rw[h];exact(hp (jf hq)).symm),h]
  ·exact h
 ·exact h
theorem Qdb{v:Int}:∀(l:List bl) (s:StI),(∀i,i∈l→aK i.op→i.dst≠v)→s.1 v=v→(l.foldl mN s).1 v=v
 |[],s,_,h=>h
 |i::l,s,hp,h=>by rw[QpE];exact Qdb l _ (fun q hq=>hp q (Qmq _ hq)) (Qi8 (hp i (Qop ..)) h)
theorem Qd1{v:Int}:∀(l:List aE) (σ:Int→Int),(∀x,x∈l→(∀p,p∈x.au→p.dst≠v)∧∀i,i∈x.insts→aK i.op→i.dst≠v)→σ v=v→l.foldl yW σ v=v
 |[],σ,_,h=>h
 |x::l,σ,hp,h=>by rw[QpE];refine Qd1 l _ (fun q hq=>hp q (Qmq _ hq)) ?_;obtain⟨h1,h2⟩:=hp x (Qop ..);exact Qdb _ _ h2 (Qb3 _ _ h1 h)
section
variable {fs : List aE} {nm : ByteArray} {pa va : Int} {k j : Nat} {x : aE}
abbrev sgP(fs:List aE)(k:Nat)(x:aE)(j:Nat):Int→Int:=(x.au.take j).foldl po (sR fs k)
abbrev o7(fs:List aE)(k:Nat)(x:aE)(j:Nat):StI:=(x.insts.take j).foldl mN (x.au.foldl po (sR fs k),[])
theorem Qis(hx:fs[k]?=some x):sR fs (k+1)=yW (sR fs k) x:=by unfold sR;rw[ka _ _ hx]
theorem Qi9(hk:fs.length≤k):sR fs k=lW fs:=by unfold sR lW;rw[Qot hk]
theorem Qgd(h:iY nm pa va fs)(hx:fs[k]?=some x):∀n j,j+n≤x.au.length→QbY (sgP fs k x j) (sgP fs k x (j+n))
 |0,j,hj=>(OM h hx (sP h k (by have:=(List.getElem?_eq_some_iff.1 hx).1;omega)) j hj).sub.idem
 |n+1,j,hj=>by
  have Qk:=(List.getElem?_eq_some_iff.1 hx).1;obtain⟨p,hp⟩:=aM (l:=x.au) (i:=j) oM;have h1:QbY (sgP fs k x j) (sgP fs k x (j+1)):=by unfold sgP;rw[ka _ _ hp];exact Qgb (OM h hx (sP h k oM) j oM).sub.idem p
  have h2:=Qgd h hx n (j+1) oM;rw[show j+(n+1)=j+1+n by omega];exact h1.trans h2
theorem Qge(h:iY nm pa va fs)(hx:fs[k]?=some x):∀n j,j+n≤x.insts.length→QbY (o7 fs k x j).1 (o7 fs k x (j+n)).1
 |0,j,hj=>(ON h hx (sP h k (by have:=(List.getElem?_eq_some_iff.1 hx).1;omega)) j hj).sub.idem
 |n+1,j,hj=>by
  have Qk:=(List.getElem?_eq_some_iff.1 hx).1;obtain⟨i,hi⟩:=aM (l:=x.insts) (i:=j) oM;have h1:QbY (o7 fs k x j).1 (o7 fs k x (j+1)).1:=by unfold o7;rw[ka _ _ hi];exact Qgc (ON h hx (sP h k oM) j oM).sub.idem i
  have h2:=Qge h hx n (j+1) oM;rw[show j+(n+1)=j+1+n by omega];exact h1.trans h2
theorem Qem(hx:fs[k]?=some x):(o7 fs k x x.insts.length).1=sR fs (k+1):=by
 rw[Qis hx];unfold o7 yW;rw[QoF]
theorem Qdc:(o7 fs k x 0).1=sgP fs k x x.au.length:=by
 unfold o7 sgP;rw[QoF];rfl
theorem QjY(h:iY nm pa va fs):∀n k,k+n≤fs.length→QbY (sR fs k) (sR fs (k+n))
 |0,k,hk=>(sP h k hk).sub.idem
 |n+1,k,hk=>by
  obtain⟨x,hx⟩:=aM (l:=fs) (i:=k) oM;have h1:QbY (sR fs k) (sgP fs k x x.au.length):=by have:=Qgd h hx x.au.length 0 oM;rw[Qpd]at this;exact this
  have h2:=Qge h hx x.insts.length 0 oM;rw[Qpd,Qem hx,Qdc]at h2;have h3:=QjY h n (k+1) oM;rw[show k+(n+1)=k+1+n by omega];exact(h1.trans h2).trans h3
theorem Qbd(h:iY nm pa va fs)(hx:fs[k]?=some x)(hj:j≤x.insts.length):QbY (o7 fs k x j).1 (lW fs):=by
 have Qk:=(List.getElem?_eq_some_iff.1 hx).1;have h1:=Qge h hx (x.insts.length-j) j oM;rw[show j+(x.insts.length-j)=x.insts.length by omega,Qem hx]at h1;have h2:=QjY h (fs.length-(k+1)) (k+1) oM;rw[show k+1+(fs.length-(k+1))=fs.length by omega,Qi9 (kQ _)]at h2;exact h1.trans h2
theorem Qd2(h:iY nm pa va fs)(hx:fs[k]?=some x)(hj:j≤x.au.length):QbY (sgP fs k x j) (lW fs):=by
 have h1:=Qgd h hx (x.au.length-j) j oM;rw[show j+(x.au.length-j)=x.au.length by omega,←Qdc]at h1;exact h1.trans (Qbd h hx (Qom _))
theorem Qgf(h:iY nm pa va fs)(hx:fs[k]?=some x){v m:Int}(hd:(v,(k:Int),m)∈bO fs)(hs:sR fs (k+1) v=v):lW fs v=v:=by
 have e:lW fs=(fs.drop (k+1)).foldl yW (sR fs (k+1)):=by unfold lW sR;rw[←Qp1,Qpq]
 rw[e];refine Qd1 _ _ (fun y hy=> ?_) hs;obtain⟨n,hn⟩:=Qmp.1 hy;rw[List.getElem?_drop]at hn;constructor
 ·rintro p hp rfl;have e1:=o8 h hd (q7.2 ⟨_,y,hn,rfl,.inl ⟨rfl,p,hp,rfl⟩⟩);injection e1 with e1;omega
 ·rintro i hi hm rfl;obtain⟨q,hq⟩:=Qmp.1 hi;have e1:=o8 h hd (q7.2 ⟨_,y,hn,rfl,.inr ⟨q,i,hq,hm,rfl,rfl⟩⟩);injection e1 with e1;omega
theorem Qde(h:iY nm pa va fs)(hx:fs[k]?=some x){v m:Int}(hd:(v,(k:Int),m)∈bO fs)(hm:m<(j:Int))(hj:j≤x.insts.length)(hs:(o7 fs k x j).1 v=v):lW fs v=v:=by
 refine Qgf h hx hd ?_;rw[←Qem hx];have e:o7 fs k x x.insts.length=(x.insts.drop j).foldl mN (o7 fs k x j):=by unfold o7;rw[←Qp1,Qpq,QoF]
 rw[e];refine Qdb _ _ (fun i hi pJ hv=> ?_) hs;subst hv;obtain⟨n,hn⟩:=Qmp.1 hi;rw[List.getElem?_drop]at hn;have e1:=o8 h hd (q7.2 ⟨k,x,hx,rfl,.inr ⟨_,i,hn,pJ,rfl,rfl⟩⟩);injection e1 with _ e1;omega
theorem QjZ(h:iY nm pa va fs)(hx:fs[k]?=some x){p:bZ}(hp:x.au[j]?=some p)(hs:sgP fs k x (j+1) p.dst=p.dst):lW fs p.dst=p.dst:=by
 have hd:(p.dst,(k:Int),(-1:Int))∈bO fs:=q7.2 ⟨k,x,hx,rfl,.inl ⟨rfl,p,D7 hp,rfl⟩⟩;refine Qde h hx hd (j:=0) oM (Qom _) ?_;rw[Qdc];have e:sgP fs k x x.au.length=(x.au.drop (j+1)).foldl po (sgP fs k x (j+1)):=by unfold sgP;rw[←Qp1,Qpq,QoF]
 rw[e];refine Qb3 _ _ (fun q hq=> ?_) hs;obtain⟨n,hn⟩:=Qmp.1 hq;rw[List.getElem?_drop]at hn;exact Gb h hx hp hn oM
structure CR(pa va:Int)(fs:List aE)(σ:Int→Int):Prop where
 sub:Sub pa va fs σ
 sf:∀(k:Nat) (x:aE) (p:bZ),fs[k]?=some x→p∈x.au→σ p.dst≠p.dst→Av pa va fs (σ p.dst) (k:Int) (-1)∧∀a,a∈p.args→σ a=σ p.dst
 ins:∀(k:Nat) (x:aE) (j:Nat) (i:bl),fs[k]?=some x→x.insts[j]?=some i→aK i.op→σ i.dst≠i.dst→(i.op=12∧σ i.dst=σ (i.args.getD 0 0))∨
  (i.op≠12∧db i.op∧∃(m:Nat) (i0:bl),m<j∧x.insts[m]?=some i0∧i0.op=i.op∧i0.n=i.n∧i0.name=i.name∧i0.args.map σ=i.args.map σ∧σ i.dst=σ i0.dst)
theorem CR.id:CR pa va fs (fun v=>v):=⟨Sub.id,fun _ _ _ _ _ h=>absurd rfl h,fun _ _ _ _ _ _ _ h=>absurd rfl h⟩
theorem Qj5(h:iY nm pa va fs)(hx:fs[k]?=some x){p:bZ}(hp:p∈x.au)(dt:lW fs p.dst≠p.dst):Av pa va fs (lW fs p.dst) (k:Int) (-1)∧∀a,a∈p.args→lW fs a=lW fs p.dst:=by
 have Qk:=(List.getElem?_eq_some_iff.1 hx).1;obtain⟨j,hj⟩:=Qmp.1 hp;have Kf:=(List.getElem?_eq_some_iff.1 hj).1;have hs:=OM h hx (sP h k oM) j oM;have PF:=hs.au j p (kQ _) hj;have e1:sgP fs k x (j+1)=po (sgP fs k x j) p:=by unfold sgP;rw[ka _ _ hj]
 cases ho:jm (sgP fs k x j) p.dst p.args (-1)with
 |none=>
  exfalso;refine dt (QjZ h hx hj ?_);rw[e1];unfold po;rw[ho];exact PF
 |some o=>
  obtain⟨hd,hoo,yN⟩:=Xx h hs.sub hx hp ho;have hF:=zk h;have e2:sgP fs k x (j+1) p.dst=o:=by rw[e1];unfold po;rw[ho];exact UN PF
  have e3:lW fs p.dst=lW fs o:=by rw[←Qd2 h hx (j:=j+1) oM p.dst,e2]
  refine⟨by rw[e3];exact hF.av o _ _ oM oM yN,fun a ha=> ?_⟩;have Dg:∀a,a∈p.args→0≤sgP fs k x j a:=by intro a ha;obtain⟨y,hy,hr⟩:=h.reads k Qk;rw[hx]at hy;injection hy with hy;subst hy;obtain⟨hl,yN⟩:=hr.au j p hj;obtain⟨i,hi⟩:=Qmp.1 ha;obtain⟨s,PN⟩:=aM (l:=bG (aq fs) (k:Int)) (i:=i) (by rw[←hl];exact(List.getElem?_eq_some_iff.1 hi).1);have NB:=(tJ.1 (D7 PN)).1;rw[bK]at NB;exact(hs.sub.av a s 20000 NB.1 NB.2 (yN i a s hi PN)).1
  obtain⟨_,_,q3,_⟩:=Cg ho Dg;rw[←Qd2 h hx (j:=j) oM a];rcases q3 a ha with e|e
  ·rw[e]
  ·rw[e,e3]
theorem Qk6{l m:af}(hl:l.length=m.length)(h2:l.length≤2)(e0:l.getD 0 (-1)=m.getD 0 (-1))(e1:l.getD 1 (-1)=m.getD 1 (-1)):l=m:=by
 match l,m,hl,h2,e0,e1 with
 |[],[],_,_,_,_=>rfl
 |[a],[b],_,_,e0,_=>exact Qlh (fun q=>[q]) e0
 |[a,b],[c,d],_,_,e0,e1=>
  have h0:a=c:=e0;have h1:b=d:=e1;rw[h0,h1]
def Qno(fs:List aE)(k:Nat)(x:aE)(j:Nat)(had:List (q9×Int)):Prop:=∀e,e∈had→∃(m:Nat) (i0:bl),m<j∧x.insts[m]?=some i0∧i0.op≠12∧db i0.op∧e.1=qI i0.op i0.n i0.name (i0.args.map (o7 fs k x m).1)∧e.2=i0.dst
theorem Qj6:∀j,j≤x.insts.length→Qno fs k x j (o7 fs k x j).2
 |0,_=>fun e he=>by cases he
 |j+1,hj=>by
  obtain⟨i,hi⟩:=aM (l:=x.insts) (i:=j) oM;have ih:=Qj6 j oM;have e1:o7 fs k x (j+1)=mN (o7 fs k x j) i:=by unfold o7;rw[ka _ _ hi]
  have up:∀e,e∈(o7 fs k x j).2→∃(m:Nat) (i0:bl),m<j+1∧x.insts[m]?=some i0∧i0.op≠12∧db i0.op∧e.1=qI i0.op i0.n i0.name (i0.args.map (o7 fs k x m).1)∧e.2=i0.dst:=fun e he=>by obtain⟨m,i0,h1,h2⟩:=ih e he;exact⟨m,i0,oM,h2⟩
  rw[e1];intro e he;unfold mN at he;split at he
  ·exact up e he
  ·rename_i Ky;split at he
   ·rename_i hp;split at he
    ·exact up e he
    ·rcases Qcd he with rfl|he
     ·exact⟨j,i,oM,hi,Ky,hp,rfl,rfl⟩
     ·exact up e he
   ·exact up e he
theorem Qj7(h:iY nm pa va fs)(hx:fs[k]?=some x){i:bl}(hi:x.insts[j]?=some i)(hm:aK i.op)(dt:lW fs i.dst≠i.dst):(i.op=12∧lW fs i.dst=lW fs (i.args.getD 0 0))∨(i.op≠12∧db i.op∧∃(m:Nat) (i0:bl),m<j∧x.insts[m]?=some i0∧i0.op=i.op∧i0.n=i.n∧i0.name=i.name∧i0.args.map (lW fs)=i.args.map (lW fs)∧lW fs i.dst=lW fs i0.dst):=by
 have Qk:=(List.getElem?_eq_some_iff.1 hx).1;have Kf:=(List.getElem?_eq_some_iff.1 hi).1;have hs:=ON h hx (sP h k oM) j oM;have hd:(i.dst,(k:Int),(j:Int))∈bO fs:=q7.2 ⟨k,x,hx,rfl,.inr ⟨j,i,hi,hm,rfl,rfl⟩⟩;have PF:=hs.insts i.dst j hd (Qol _);have e1:o7 fs k x (j+1)=mN (o7 fs k x j) i:=by unfold o7;rw[ka _ _ hi]
 have hE:=Qbd h hx (j:=j+1) oM;have W6:=fun(q:bl) (m:Nat) (hq:x.insts[m]?=some q)=>(h.bC.1 x (D7 hx) q (D7 hq)).2
 have stay:(o7 fs k x (j+1)).1=(o7 fs k x j).1→False:=fun e=>dt (Qde h hx hd (j:=j+1) oM oM (by rw[e];exact PF))
 by_cases Ky:i.op=12
 ·left;refine⟨Ky,?_⟩;have hlen:i.args.length=1:=by have:=W6 i j hi;omega
  obtain⟨a,ha⟩:∃a,i.args=[a]:=QpT.1 hlen;have e2:(o7 fs k x (j+1)).1 i.dst=(o7 fs k x j).1 a:=by rw[e1];unfold mN;rw[Kt Ky,ha];show link (o7 fs k x j).1 i.dst _ i.dst=_;rw[UN PF];exact hs.sub.idem a
  rw[←hE i.dst,e2,Qbd h hx (j:=j) oM a,ha];rfl
 ·right;by_cases hp:db i.op
  ·cases hl:fh (o7 fs k x j).2 (qI i.op i.n i.name (i.args.map (o7 fs k x j).1))with
   |none=>
    exact(stay (by rw[e1];unfold mN;rw[Ds Ky,Kt hp,hl])).elim
   |some v=>
    obtain⟨kk,pv,Yo⟩:=XD hl;obtain⟨m,i0,hmj,UE,h012,kr,hk,hv⟩:=Qj6 (fs:=fs) (k:=k) j oM _ pv;have hk:kk=qI i0.op i0.n i0.name (i0.args.map (o7 fs k x m).1):=hk;have hv:v=i0.dst:=hv;have hke:qI i.op i.n i.name (i.args.map (o7 fs k x j).1)=kk:=QkR Yo;rw[hk]at hke;unfold qI at hke;injection hke with q1 hke;injection hke with q2 hke;injection hke with q3 hke;injection hke with q4 q5;have hla:i0.args.length=i.args.length∧i.args.length≤2:=by have s1:=W6 i j hi;have s0:=W6 i0 m UE;unfold db at hp;rw[←q1]at s0;omega
    have Qnq:i.args.map (o7 fs k x j).1=i0.args.map (o7 fs k x m).1:=Qk6 (by rw[QlO,QlO];omega) (by rw[QlO];omega) q4 q5;have hF:i0.args.map (lW fs)=i.args.map (lW fs):=by
     have t1:i0.args.map (lW fs)=(i0.args.map (o7 fs k x m).1).map (lW fs):=by rw[QlQ];exact QoV fun a _=>(Qbd h hx (j:=m) oM a).symm
     have t2:i.args.map (lW fs)=(i.args.map (o7 fs k x j).1).map (lW fs):=by rw[QlQ];exact QoV fun a _=>(Qbd h hx (j:=j) oM a).symm
     rw[t1,t2,Qnq]
    have e2:(o7 fs k x (j+1)).1 i.dst=i0.dst:=by rw[e1];unfold mN;rw[Ds Ky,Kt hp,hl,←hv];exact UN PF
    exact⟨Ky,hp,m,i0,hmj,UE,q1.symm,q2.symm,q3.symm,hF,by rw[←hE i.dst,e2]⟩
  ·exact(stay (by rw[e1];unfold mN;rw[Ds Ky,Ds hp])).elim
theorem Qlg(h:iY nm pa va fs):CR pa va fs (lW fs):=⟨zk h,fun _ _ _ hx hp dt=>Qj5 h hx hp dt,fun _ _ _ _ hx hi hm dt=>Qj7 h hx hi hm dt⟩
end
end Go.Mor
namespace Go.Mor
def tB(a b:Int):Int:=IntKind.i64.wrap ((BitVec.ofInt 64 a&&&BitVec.ofInt 64 b).toNat:Int)
def Z3(a b:Int):Int:=IntKind.i64.wrap ((BitVec.ofInt 64 a|||BitVec.ofInt 64 b).toNat:Int)
def rp(a b:Int):Int:=IntKind.i64.wrap ((BitVec.ofInt 64 a^^^BitVec.ofInt 64 b).toNat:Int)
def tC(b:Int):Int:=IntKind.u64.wrap ((BitVec.ofInt 64 (IntKind.u64.wrap b)&&&BitVec.ofInt 64 63).toNat:Int)
def Fi(a n:Int):Int:=IntKind.i64.wrap (a*2^min n.toNat 64)
def Dh(a n:Int):Int:=a.fdiv (2^min n.toNat 64)
def jE(op a b:Int):Int×Int:=if b=0 then(0,3)else if b= -1∧op=4 then(IntKind.i64.wrap (0-a),0)else if b= -1 then(0,0)else if op=4 then(IntKind.i64.wrap (a.tdiv b),0)else(a.tmod b,0)
def cA(op a b:Int):Int×Int:=if op=1 then(IntKind.i64.wrap (a+b),0)else if op=2 then(IntKind.i64.wrap (a-b),0)else if op=3 then(IntKind.i64.wrap (a*b),0)else if op=4∨op=5 then jE op a b else if op=6 then(tB a b,0)else if op=7 then(Z3 a b,0)else if op=8 then(rp a b,0)else if op=9 then(Fi a (tC b),0)else if op=10 then(Dh a (tC b),0)else if op=11 then(cO (decide (a=b)),0)else if op=12 then(cO (a !=b),0)else if op=13 then(cO (decide (a<b)),0)else if op=14 then(cO (decide (a≤b)),0)else if op=15 then(cO (decide (a>b)),0)else if op=16 then(cO (decide (a≥b)),0)else(0,-1)
def rJ(op a:Int):Int×Int:=if op=1 then(IntKind.i64.wrap (0-a),0)else if op=2 then(rp (-1) a,0)else if op=3 then(cO (decide (a=0)),0)else(0,-1)
theorem Bo{op a b:Int}(h:b=0):jE op a b=(0,3):=by unfold jE;rw[Kt h]
theorem Bp{op a b:Int}(h:b= -1)(h1:op=4):jE op a b=(IntKind.i64.wrap (0-a),0):=by unfold jE;rw[Ds oM,Kt ⟨h,h1⟩]
theorem Br{op a b:Int}(h:b= -1)(h1:op≠4):jE op a b=(0,0):=by unfold jE;rw[Ds oM,Ds (fun e=>h1 e.2),Kt h]
theorem Bs{op a b:Int}(h:b≠0)(h2:b≠-1)(h1:op=4):jE op a b=(IntKind.i64.wrap (a.tdiv b),0):=by unfold jE;rw[Ds h,Ds (fun e=>h2 e.1),Ds h2,Kt h1]
theorem Bx{op a b:Int}(h:b≠0)(h2:b≠-1)(h1:op≠4):jE op a b=(a.tmod b,0):=by unfold jE;rw[Ds h,Ds (fun e=>h2 e.1),Ds h2,Ds h1]
theorem gz{op a b:Int}(h:¬(1≤op∧op≤16)):cA op a b=(0,-1):=by
 unfold cA;rw[Ds oM,Ds oM,Ds oM,Ds oM,Ds oM,Ds oM,Ds oM,Ds oM,Ds oM,Ds oM,Ds oM,Ds oM,Ds oM,Ds oM,Ds oM]
theorem p9{op a b:Int}(h:op=4∨op=5):cA op a b=((jE op a b).1,(jE op a b).2):=by
 unfold cA;rw[Ds oM,Ds oM,Ds oM,Kt h]
theorem tD{op a:Int}(h1:¬op=1)(h2:¬op=2)(h3:¬op=3):rJ op a=(0,-1):=by unfold rJ;rw[Ds h1,Ds h2,Ds h3]
section
variable {op a b : Int}
theorem bo1(h:op=1:=by assumption):cA op a b=(IntKind.i64.wrap (a+b),0):=by subst h;rfl
theorem bo2(h:op=2:=by assumption):cA op a b=(IntKind.i64.wrap (a-b),0):=by subst h;rfl
theorem bo3(h:op=3:=by assumption):cA op a b=(IntKind.i64.wrap (a*b),0):=by subst h;rfl
theorem bo6(h:op=6:=by assumption):cA op a b=(tB a b,0):=by subst h;rfl
theorem bo7(h:op=7:=by assumption):cA op a b=(Z3 a b,0):=by subst h;rfl
theorem bo8(h:op=8:=by assumption):cA op a b=(rp a b,0):=by subst h;rfl
theorem bo9(h:op=9:=by assumption):cA op a b=(Fi a (tC b),0):=by subst h;rfl
theorem QeE(h:op=10:=by assumption):cA op a b=(Dh a (tC b),0):=by subst h;rfl
theorem QeF(h:op=11:=by assumption):cA op a b=(cO (decide (a=b)),0):=by subst h;rfl
theorem QeG(h:op=12:=by assumption):cA op a b=(cO (a !=b),0):=by subst h;rfl
theorem QeH(h:op=13:=by assumption):cA op a b=(cO (decide (a<b)),0):=by subst h;rfl
theorem QeI(h:op=14:=by assumption):cA op a b=(cO (decide (a≤b)),0):=by subst h;rfl
theorem QeJ(h:op=15:=by assumption):cA op a b=(cO (decide (a>b)),0):=by subst h;rfl
theorem QeK(h:op=16:=by assumption):cA op a b=(cO (decide (a≥b)),0):=by subst h;rfl
theorem Z4(h:op=1:=by assumption):rJ op a=(IntKind.i64.wrap (0-a),0):=by subst h;rfl
theorem Z5(h:op=2:=by assumption):rJ op a=(rp (-1) a,0):=by subst h;rfl
theorem Z6(h:op=3:=by assumption):rJ op a=(cO (decide (a=0)),0):=by subst h;rfl
end
structure cQ where
 mem:af
 next:Int
 pos:Nat
 out:af
 steps:Int
 opened:Int
inductive dp(α:Type)where
 |ok(a:α)(s:cQ)
 |stop(k c:Int)(s:cQ)
def dp.bind{α β:Type}(g:dp α)(f:α→cQ→dp β):dp β:=match g with
 | .ok a s=>f a s
 | .stop k c s=> .stop k c s
structure et where
 nm:aV
 wk:Bool
 pa:Int
 va:Int
 A:ar
 c:Nat
 bh:List aE
 qA:ar
 qc:Nat
 bG:List (ar×Nat×af)
def et.cells(f:et):aP:=fV f.nm f.wk f.pa f.va f.A f.c f.bh
def et.src(f:et)(k:Nat):af:=(f.bG.getD k (none,0,[])).2.2
structure Env0 where
 fns:List et
 names:List (aV×Int)
 data:List (aV×Int)
 inp:af
 bR:Nat
 fuel:Int
def cT(E:Env0)(s:cQ):dp Unit:=if s.steps=E.fuel then .stop 0 0 s else .ok () {s with steps:=s.steps+1}
def uy(n:Int)(s:cQ):dp Nat:=if n<1∨n≥s.next then .stop 5 0 s else .ok n.toNat s
def a0(l:af):Int:=l.getD 0 0
def a1(l:af):Int:=l.getD 1 0
def bV(E:Env0)(call:Int→af→cQ→dp Int)(i:bl)(l:af)(s:cQ):dp Int:=
 if i.op=1 then .ok i.n s
 else if i.op=2 then(uy (IntKind.i64.wrap (a0 l+i.n)) s).bind fun k s=> .ok (s.mem.getD k 0) s
 else if i.op=3 then(uy (IntKind.i64.wrap (a0 l+i.n)) s).bind fun k s=> .ok 0 {s with mem:=s.mem.set k (a1 l)}
 else if i.op=4 then match fh E.names i.name with
  |some n=>call n l s
  |none=> .stop 5 0 s
 else if i.op=5 then call (a0 l) l.tail s
 else if i.op=6 then match fh E.data i.name with
  |some n=> .ok n s
  |none=> .stop 5 0 s
 else if i.op=7 then match fh E.names i.name with
  |some n=> .ok n s
  |none=> .stop 5 0 s
 else if i.op=8 then if a0 l<0 then .stop 5 0 s else if a0 l>(E.bR:Int)-s.next then .stop 3 0 s else .ok s.next {s with next:=s.next+a0 l}
 else if i.op=9 then if s.pos<E.inp.length then .ok (E.inp.getD s.pos 0) {s with pos:=s.pos+1}else .ok (-1) s
 else if i.op=10 then .ok 0 (if s.out.length<4096 then {s with out:=s.out++[IntKind.u8.wrap (a0 l)]}else s)
 else if i.op=11 then if a0 l=0 then .stop 2 i.n s else .ok 0 s
 else if i.op=12 then .ok (a0 l) s
 else if i.op≥40 then .ok (rJ (i.op-40) (a0 l)).1 s
 else if(cA (i.op-16) (a0 l) (a1 l)).2=0 then .ok (cA (i.op-16) (a0 l) (a1 l)).1 s else .stop 2 (cA (i.op-16) (a0 l) (a1 l)).2 s
section
variable {E : Env0} {call : Int → List Int → cQ → dp Int} {i : bl} {l : List Int} {s : cQ}
theorem qa(h:i.op=1):bV E call i l s= .ok i.n s:=by unfold bV;rw[Kt h]
theorem qb(h:i.op=2):bV E call i l s=(uy (IntKind.i64.wrap (a0 l+i.n)) s).bind fun k s=> .ok (s.mem.getD k 0) s:=by unfold bV;rw[h];rfl
theorem qd(h:i.op=3):bV E call i l s=(uy (IntKind.i64.wrap (a0 l+i.n)) s).bind fun k s=> .ok 0 {s with mem:=s.mem.set k (a1 l)}:=by unfold bV;rw[h];rfl
theorem vF(h:i.op=4):bV E call i l s=match fh E.names i.name with|some n=>call n l s|none=> .stop 5 0 s:=by unfold bV;rw[h];rfl
theorem sn(h:i.op=5):bV E call i l s=call (a0 l) l.tail s:=by unfold bV;rw[h];rfl
theorem ox(h:i.op=6):bV E call i l s=match fh E.data i.name with|some n=> .ok n s|none=> .stop 5 0 s:=by unfold bV;rw[h];rfl
theorem oy(h:i.op=7):bV E call i l s=match fh E.names i.name with|some n=> .ok n s|none=> .stop 5 0 s:=by unfold bV;rw[h];rfl
theorem sq(h:i.op=8):bV E call i l s=if a0 l<0 then .stop 5 0 s else if a0 l>(E.bR:Int)-s.next then .stop 3 0 s else .ok s.next {s with next:=s.next+a0 l}:=by
 unfold bV;rw[h];rfl
theorem sr(h:i.op=9):bV E call i l s=if s.pos<E.inp.length then .ok (E.inp.getD s.pos 0) {s with pos:=s.pos+1}else .ok (-1) s:=by
 unfold bV;rw[h];rfl
theorem oz(h:i.op=10):bV E call i l s= .ok 0 (if s.out.length<4096 then {s with out:=s.out++[IntKind.u8.wrap (a0 l)]}else s):=by
 unfold bV;rw[h];rfl
theorem mr(h:i.op=11):bV E call i l s=if a0 l=0 then .stop 2 i.n s else .ok 0 s:=by
 unfold bV;rw[h];rfl
theorem mu(h:i.op=12):bV E call i l s= .ok (a0 l) s:=by
 unfold bV;rw[h];rfl
theorem mv(h:i.op≥40):bV E call i l s= .ok (rJ (i.op-40) (a0 l)).1 s:=by
 unfold bV;rw[Ds oM,Ds oM,Ds oM,Ds oM,Ds oM,Ds oM,Ds oM,Ds oM,Ds oM,Ds oM,Ds oM,Ds oM,Kt h]
theorem kB (h : i.op < 1 ∨ 13 ≤ i.op) (h2 : i.op < 40) : bV E call i l s = if (cA (i.op - 16) (a0 l) (a1 l)).2 = 0 then .ok (cA (i.op - 16) (a0 l) (a1 l)).1 s else .stop 2 (cA (i.op - 16) (a0 l) (a1 l)).2 s := by
 unfold bV; rw [Ds oM, Ds oM, Ds oM, Ds oM, Ds oM, Ds oM, Ds oM, Ds oM, Ds oM, Ds oM, Ds oM, Ds oM, Ds oM]
end
theorem KB{n:Int}{s:cQ}(h:n<1∨n≥s.next):uy n s= .stop 5 0 s:=by unfold uy;rw[Kt h]
theorem Qc{n:Int}{s:cQ}(h:¬(n<1∨n≥s.next)):uy n s= .ok n.toNat s:=by unfold uy;rw[Ds h]
theorem KC{E:Env0}{s:cQ}(h:s.steps=E.fuel):cT E s= .stop 0 0 s:=by unfold cT;rw[Kt h]
theorem yj{E:Env0}{s:cQ}(h:¬s.steps=E.fuel):cT E s= .ok () {s with steps:=s.steps+1}:=by unfold cT;rw[Ds h]
def fe(bC:af)(args:af):af:=args.map (fun v=>bC.getD v.toNat 0)
def cS(E:Env0)(call:Int→af→cQ→dp Int):List bl→af→cQ→dp af
 |[],bC,s=> .ok bC s
 |i::r,bC,s=>(cT E s).bind fun _ s=>(bV E call i (fe bC i.args) s).bind fun v s=>
  cS E call r (if 0≤i.dst∧aK i.op then bC.set i.dst.toNat v else bC) s
def jF(bC:af):List (Int×Int)→af
 |[]=>bC
 |(d,v)::r=>jF (bC.set d.toNat v) r
def gr(ps:List bZ)(at_:Nat)(bC:af):af:=jF bC (ps.map (fun p=>(p.dst,bC.getD (p.args.getD at_ 0).toNat 0)))
def eG:af→Int→Nat
 |[],_=>0
 |x::r,v=>if x=v then 0 else eG r v+1
def fi(E:Env0)(call:Int→af→cQ→dp Int)(f:et)(k from_:Int)(bC:af)(s:cQ):dp (Int×Int×af):=
 match f.bh[k.toNat]? with
 |none=> .stop 5 0 s
 |some x=>(cS E call x.insts (gr x.au (eG (f.src k.toNat) from_) bC) s).bind fun bC s=>(cT E s).bind fun _ s=>
  if x.e=0 then .ok (x.a,0,bC) s
  else if x.e=1 then .ok (if bC.getD x.v.toNat 0≠0 then x.a else x.b,0,bC) s
  else if x.e=3 then .stop 2 x.a s
  else .ok (-1,if x.v≥0 then bC.getD x.v.toNat 0 else 0,bC) s
def fF(E:Env0)(body:et→Int→Int→af→cQ→dp Int)(n:Int)(l:af)(s:cQ):dp Int:=if n<1∨n≥(E.fns.length:Int)+1 then .stop 5 0 s else match E.fns[(n-1).toNat]? with
 |none=> .stop 5 0 s
 |some f=>if(l.length:Int)≠f.pa then .stop 5 0 s else if s.opened=1200 then .stop 4 0 s else body f 0 (-1) (l++List.replicate (f.va.toNat-l.length) 0) {s with opened:=s.opened+1}
def iW(E:Env0):Nat→et→Int→Int→af→cQ→dp Int
 |0,_,_,_,_,s=> .stop 5 0 s
 |g+1,f,k,from_,bC,s=>(fi E (fF E (iW E g)) f k from_ bC s).bind fun r s=>
  if r.1<0 then .ok r.2.1 {s with opened:=s.opened-1}else iW E g f r.1 k r.2.2 s
def dN(E:Env0)(g:Nat):Int→af→cQ→dp Int:=fF E (iW E g)
def gW(E:Env0)(g:Nat):List aV→cQ→dp Unit
 |[],s=> .ok () s
 |b::r,s=>match fh E.names b with
  |none=> .stop 5 0 s
  |some n=>(dN E g n [] s).bind fun _ s=>gW E g r s
end Go.Mor
