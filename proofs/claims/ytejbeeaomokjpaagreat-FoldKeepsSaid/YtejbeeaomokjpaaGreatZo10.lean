/-
  Texts of the proof, part 10.
-/
import Derived.Test.YtejbeeaomokjpaaGreatZo9
import Derived.Shelf.SlSortCmp.Whole1
set_option maxRecDepth 10000
open List Go.RowKit Go.Sort Go.Proofs
open List renaming length -> ae
namespace Go.Mor
def Gw(w w':World):Prop:=∃q os,w'=grow (w.drewN q) os
theorem Gw.refl(w:World):Gw w w:=⟨0,#[],by rw[grow_empty];rfl⟩
theorem Gw.drew{w w':World}(h:Gw w w'):Gw w w'.drew:=by
 obtain⟨q,os,rfl⟩:=h;exact⟨q+1,os,rfl⟩
theorem Gw.kp{w w':World}(h:Gw w w'):Mem bI w w' []:=by
 obtain⟨q,os,rfl⟩:=h;refine⟨rfl,rfl,rfl,by simp[grow,World.drewN],λk hk _=> ?_,sI,HK⟩;show(w.heap++os)[k]?=w.heap[k]?;rw[HV hk]
theorem BE{α:Type}[Inhabited α](enc:α->Value)(d:Array α)(cur:Array Value)(h:d.size<=cur.size):((putCells enc 0 d cur).toList).take d.size=d.toList.map enc:=by
 refine fM λi=> ?_
 by_cases hi:i<d.size
 ·have h2:i<cur.size:=oM;have e1:(putCells enc 0 d cur).toList[i]?=some (enc d[i]!):=by unfold putCells;rw[IM,Array.getElem?_mapIdx,IP h2];simp[hi]
  rw[uQ hi,e1,aL,IM,IP hi];simp[hi]
 ·rw[db (by rw[ja];omega),db (by simp;omega)]
theorem La{α:Type}[Inhabited α](enc:α->Value){w:World}{e n c g:Nat}{xs:bh}(h:(bD.row e 1 (some (aZ g)) n c xs).holds w)(m:Nat){dk:Array α}(hd:dk.size=n)(os:Array Obj):Mem (bD.row e 1 (some (aZ g)) n c xs).fp w (sortWorld enc w g 0 m dk os) [.row e 1 (some (aZ g)) n c (dk.toList.map enc)]:=by
 obtain⟨hl,h2⟩:=h;rcases h2 with⟨h2,_⟩|⟨g',cap,cur,hv,hb,hg,hnc,Vi,rP,ht⟩
 ·cases h2
 injection hv with hv _ hc;injection hv with hv;injection hv with hv;subst hv hc;have ir:g<w.heap.size:=rO hg;have Xg:(sortWorld enc w g 0 m dk os).heap=(w.heap.modify g (onCells (putCells enc 0 dk)))++os:=rfl;refine⟨rfl,rfl,rfl,?_,λk hk eC=> ?_,?_,oh _ _⟩
 ·rw[Xg];simp
 ·rw[Xg,HV (by simpa using hk),HL,ao];intro e1;subst e1;exact eC ⟨(aZ g),rfl,rfl⟩
 ·simp only[cF];rintro _ rfl;refine⟨⟨by simp[hd],.inr ⟨g,c,putCells enc 0 dk cur,rfl,hb,?_,hnc,Vi,?_,?_⟩⟩,λk hk=> .inl hk⟩
  ·rw[Xg,HV (by simpa using ir),HL,ax rfl,hg];rfl
  ·simpa[putCells]using rP
  ·rw[fx,<-hd];refine BE enc dk cur ?_;rw[fx]at rP;omega
theorem S9{α:Type}[Inhabited α](enc:α->Value){w:World}{e n c g:Nat}{d:Array α}(h:(bD.row e 1 (some (aZ g)) n c (d.toList.map enc)).holds w):Holds enc w g 0 d:=by
 intro j hj;obtain⟨ad,ha,hc⟩:=aF h j (enc d[j]!) (by rw[aL,IM,IP hj];simp[hj]);injection ha with ha;subst ha;rw[HW]at hc;have hf:=rQ h j;rw[HW]at hf;exact⟨by rw[nK];exact hc,by rw[nK];exact hf⟩
def lx(n:Nat)(key:Nat->Int)(il:List Nat):Prop:=il.Perm (List.range n)/\il.Pairwise (λi j=>key i<=key j)
def sj(nl fl:ah)(i:Nat):Int:=nl.getD (fl.getD i 0).toNat 0
def ku(l:List Nat):ah:=l.map (λi:Nat=>(i:Int))
theorem Ta{l:List Nat}{j i:Nat}(h:l[j]?=some i):(ku l)[j]?=some (i:Int):=by simp[ku,h]
theorem Tb{f:Nat->Int}{l:List Nat}{j i:Nat}(h:l[j]?=some i):(l.take (j+1)).map f=(l.take j).map f++[f i]:=by
 obtain⟨hj,he⟩:=aW.1 h;rw[dh hj,bZ,he];rfl
def AD(n j:Nat):ah:=ku (List.range j)++List.replicate (n-j) 0
theorem Ov(n:Nat):ints (AD n 0)=List.replicate n (vI 0):=by simp[AD,ku,ints]
theorem Tc(n:Nat):AD n n=ku (List.range n):=by simp[AD]
theorem Ow{n j:Nat}(h:j<n):(ints (AD n j)).set j (vI (j:Int))=ints (AD n (j+1)):=by
 unfold AD ku ints;obtain⟨d,hd⟩:=Nat.le.dest h;rw[show n-j=d+1 by omega,show n-(j+1)=d by omega,p9,oH];simp
def IQ(n:Nat)(i:Fin n):Value:=vI (i.val:Int)
def cfF(nl fl:ah)(n:Nat)(i j:Fin n):Int:=sj nl fl i.val-sj nl fl j.val
theorem Qcj(nl fl:ah)(n:Nat):SWO (ltOf (cfF nl fl n)):=by
 have e:∀x y,ltOf (cfF nl fl n) x y=decide (sj nl fl x.val<sj nl fl y.val):=by intro x y;unfold ltOf cfF;exact decide_eq_decide.2 oM
 refine⟨λx=> ?_,λx y z h1 h2=> ?_,λx y z h1 h2=> ?_⟩
 ·rw[e];simp
 ·rw[e]at*;simp at*;omega
 ·rw[e]at*;simp at*;omega
theorem Ox(n:Nat):((Array.ofFn (n:=n) id).toList).map (IQ n)=ints (ku (List.range n)):=by
 refine fM λi=> ?_
 by_cases hi:i<n
 ·simp[ints,ku,IQ,hi]
 ·simp[ints,ku,IQ,hi]
theorem Oy{nl fl:ah}{n:Nat}[Inhabited (Fin n)]{d':Array (Fin n)}(hp:PermIn 0 (Array.ofFn (n:=n) id).size (Array.ofFn (n:=n) id) d')(hs:SortedIn (ltOf (cfF nl fl n)) 0 (Array.ofFn (n:=n) id).size d'):lx n (sj nl fl) (d'.toList.map (·.val))/\d'.toList.map (IQ n)=ints (ku (d'.toList.map (·.val))):=by
 obtain⟨h1,_,h3⟩:=hp;have hn:(Array.ofFn (n:=n) id).size=n:=sI;have td:d'.size=n:=by rw[h1,hn]
 refine⟨⟨?_,?_⟩,?_⟩
 ·have e1:d'.extract 0 (Array.ofFn (n:=n) id).size=d':=by rw[<-h1];exact Array.extract_size
  rw[e1,Array.extract_size]at h3;have:=h3.map (λi:Fin n=>i.val);refine this.trans ?_;have e2:((Array.ofFn (n:=n) id).toList).map (λi:Fin n=>i.val)=List.range n:=by
   refine fM λi=> ?_
   by_cases hi:i<n<;>simp[hi]
  rw[e2]
 ·rw[tx];intro i j hi hj hij;simp only[bl,Array.length_toList]at hi hj;have:=hs i j (cI _) hij (by rw[hn,<-td];exact hj);rw[getElem!_pos d' j oM,getElem!_pos d' i oM]at this;unfold ltOf cfF at this;simp only[Dq]at this;simp only[getElem_map,Array.getElem_toList];omega
 ·unfold ints ku;rw[dz,dz];rfl
def gH{α β:Type}(R:α->β->Prop)(l:List α)(m:List β):Prop:=ae l=ae m/\∀(i:Nat) (x:α) (y:β),l[i]?=some x->m[i]?=some y->R x y
section
variable{α β:Type}{R:α -> β -> Prop}{l:List α}{m:List β}
theorem gH.nil:gH R [] []:=⟨rfl,λi x y h=>by simp at h⟩
theorem gH.snoc(h:gH R l m){x:α}{y:β}(hr:R x y):gH R (l++[x]) (m++[y]):=by
 obtain⟨hl,h⟩:=h;refine⟨by simp[hl],λi a b ha hb=> ?_⟩;rcases HX i (ae l)with h1|h1|h1
 ·rw[o9 h1]at ha;rw[o9 oM]at hb;exact h i a b ha hb
 ·subst h1;rw[lJ (cH _),l5]at ha;rw[lJ oM,hl,l5]at hb;simp at ha hb;subst ha hb;exact hr
 ·rw[db (by simp;omega)]at ha;cases ha
theorem gH.next{k:Nat}(h:gH R (l.take k) m){x:α}(hx:l[k]?=some x){y:β}(hr:R x y):gH R (l.take (k+1)) (m++[y]):=by
 obtain⟨hk,he⟩:=aW.1 hx;rw[dh hk,he];exact h.snoc hr
end
def ly(gl:List Bool)(k:Nat):Nat:=ae ((gl.take k).filter (λb=> !b))
def wF(gl:List Bool)(k:Nat):ah:=(List.range (ae gl)).map (λi=>if i<k/\gl.getD i true=false then(ly gl i:Int)else 0)
theorem QQ(gl:List Bool)(k:Nat):ly gl k<=k:=by
 unfold ly;exact iz (j6 _ _) (by simp;omega)
theorem Lb{gl:List Bool}{k:Nat}(h:gl[k]?=some false):ly gl (k+1)=ly gl k+1:=by
 obtain⟨hk,he⟩:=aW.1 h;unfold ly;rw[dh hk,e8,he];simp
theorem Qck{gl:List Bool}{k:Nat}(h:gl[k]?=some true):ly gl (k+1)=ly gl k:=by
 obtain⟨hk,he⟩:=aW.1 h;unfold ly;rw[dh hk,e8,he];simp
theorem Lc(gl:List Bool)(k:Nat):ae (wF gl k)=ae gl:=by simp[wF]
theorem Td(gl:List Bool):ints (wF gl 0)=List.replicate (ae gl) (vI 0):=by
 unfold wF ints;simp only[eL,jn,mJ,dz];refine fM λi=> ?_
 by_cases hi:i<ae gl
 ·simp[hi]
 ·simp[hi]
theorem Xh{gl:List Bool}{k:Nat}(h:gl[k]?=some false):(ints (wF gl k)).set k (vI (ly gl k:Int))=ints (wF gl (k+1)):=by
 obtain⟨hk,he⟩:=aW.1 h;unfold wF ints;refine fM λi=> ?_
 by_cases hi:i<ae gl
 ·by_cases e:k=i
  ·subst e;rw[kP (by simpa using hk)];simp[hk,List.getD,he]
  ·rw[jP e];simp only[aL,nN hi,ft];have:(i<k/\gl.getD i true=false)↔(i<k+1/\gl.getD i true=false):=and_congr oM ju;simp only[this]
 ·rw[db (by simp;omega),db (by simp;omega)]
theorem Qcl{gl:List Bool}{k:Nat}(h:gl[k]?=some true):wF gl k=wF gl (k+1):=by
 obtain⟨hk,he⟩:=aW.1 h;unfold wF;refine nL λi _=> ?_
 have:(i<k/\gl.getD i true=false)↔(i<k+1/\gl.getD i true=false):=by
  by_cases e:i=k
  ·subst e;simp[List.getD,h]
  ·exact and_congr oM ju
 simp only[this]
def mC(gl:List Bool):ah:=wF gl (ae gl)
theorem Ld{gl:List Bool}{k i:Nat}(hi:i<ae gl):(wF gl k).getD i 0=if i<k/\gl.getD i true=false then(ly gl i:Int)else 0:=by
 unfold wF;rw[et,aL,nN hi];rfl
theorem Le(gl:List Bool)(k:Nat)(hl:ae gl<=1000000):0<=(mC gl).getD k 0/\(mC gl).getD k 0<=1000000:=by
 unfold mC;by_cases hk:k<ae gl
 ·have:=QQ gl k;rw[Ld hk];by_cases hc:k<ae gl/\gl.getD k true=false
  ·rw[ax hc];omega
  ·rw[ao hc];omega
 ·rw[et,db (by rw[Lc];omega)];simp
def ew(ks:List bp):List Bool:=ks.map (λx=>x.gone)
def toA(nl:ah)(e a:Int):Int:=if e=0\/e=1 then nl.getD a.toNat 0 else if e=3 then a else 0
def toBb(nl:ah)(e b:Int):Int:=if e=1 then nl.getD b.toNat 0 else 0
def ToP(nl:ah)(p:da)(q:cV):Prop:=q.dst=p.dst/\∃il,lx (ae p.from_) (sj nl p.from_) il/\q.args=il.map (λi=>p.args.getD i 0)
structure ToB(nl:ah)(x:bp)(y:aG):Prop where
 ak:gH (ToP nl) x.ak y.ak
 insts:y.insts.map aQ.e0=x.insts
 e:y.e=x.e
 v:y.v=x.v
 a:y.a=toA nl x.e x.a
 b:y.b=toBb nl x.e x.b
def eE(ks:List bp):List bp:=ks.filter (λx=> !x.gone)
def BF(ks:List bp)(fs:List aG):Prop:=gH (ToB (mC (ew ks))) (eE ks) fs
structure QjL(n:Int)(x:bp):Prop where
 lp:ae x.ak<=20000
 ak:∀p,p∈x.ak->0<ae p.from_/\ae p.from_<=20000/\ae p.args=ae p.from_/\∀s,s∈p.from_->0<=s/\s<n
 e0:x.e=0->0<=x.a/\x.a<n
 e1:x.e=1->(0<=x.a/\x.a<n)/\0<=x.b/\x.b<n
theorem Xi{ks:List bp}{k:Nat}{x:bp}(hx:ks[k]?=some x)(h:x.gone=false):eE (ks.take (k+1))=eE (ks.take k)++[x]:=by
 obtain⟨hk,he⟩:=aW.1 hx;unfold eE;rw[dh hk,e8,he];simp[h]
theorem Qcm{ks:List bp}{k:Nat}{x:bp}(hx:ks[k]?=some x)(h:x.gone=true):eE (ks.take (k+1))=eE (ks.take k):=by
 obtain⟨hk,he⟩:=aW.1 hx;unfold eE;rw[dh hk,e8,he];simp[h]
section
variable{w:World}{A:Option Addr}{c:Nat}{ad:Addr}{k:Nat}{gs:List aY}{x:aY}
theorem uZ(h:(jH A c gs).holds w)(hA:A=some ad)(hx:gs[k]?=some x):w.cell? (ad.add (k*1))=some (vP (aZ x.g)):=bW (aF h) hA (by unfold nh;rw[aL,hx];rfl)
theorem QR(h:(bD.pk (gs.map gB)).holds w)(hx:gs[k]?=some x){r:bD}(hr:r∈gL x):r.holds w:=qv (qv h (aO.2 ⟨x,aI hx,rfl⟩):(gB x).holds w) hr
theorem CD(h:(bD.pk (gs.map gB)).holds w)(hx:gs[k]?=some x){j:Nat}{v:Value}(hj:(gV x)[j]?=some v):w.cell? (aq x.g j)=some v:=af (QR h hx (r:= .aM x.g 79 (gV x)) sI) hj
theorem Qcn(hx:gs[k]?=some x):(ew (gs.map aY.k))[k]?=some x.gone:=by
 unfold ew;rw[aL,aL,hx];rfl
theorem zv(ks:List bp):ae (ew ks)=ae ks:=by simp[ew]
end
def fN.f(p:fN):cV:=⟨p.dst,none,0,p.args⟩
def aY.f(x:aY):aG:=⟨none,0,x.ak.map fN.f,none,0,x.insts.map aQ.e0,x.e,x.v,x.a,x.b⟩
section
variable{fs:List aG}{gs:List aY}{nm:ByteArray}{pa va:Int}
theorem QjM(h:gs.map aY.k=gM fs):gs.map aY.f=fs.map aG.e0:=by
 have hl:ae gs=ae fs:=by have:=aK List.length h;rwa [bl,jh]at this
 refine fM λi=> ?_
 rw[aL,aL];by_cases hi:i<ae fs
 ·obtain⟨x,hx⟩:=aP (l:=fs) hi;obtain⟨y,hy⟩:=aP (l:=gs) (i:=i) oM;have h1:=aK (λl:List bp=>l[i]?) h;simp only[aL,hy,ft,mq hx]at h1;injection h1 with h1;rw[hx,hy,ft,ft];congr 1;unfold aY.f aG.e0;have e1:y.ak.map fN.k=x.ak.map (qw (bO (au fs) (i:Int))):=aK bp.ak h1;have e2:y.insts.map aQ.e0=x.insts.map aQ.e0:=aK bp.insts h1;have e3:y.e=x.e:=aK bp.e h1;have e4:y.v=x.v:=aK bp.v h1;have e5:y.a=x.a:=aK bp.a h1;have e6:y.b=x.b:=aK bp.b h1;have e7:y.ak.map fN.f=x.ak.map cV.e0:=by have h2:=aK (List.map (λp:da=>(⟨p.dst,none,0,p.args⟩:cV))) e1;rw[dz,dz]at h2;exact h2
  rw[e2,e3,e4,e5,e6,e7]
 ·rw[db oM,db oM];rfl
theorem Xj(h:gs.map aY.k=gM fs):fY fs (gs.map aY.f):=by
 unfold fY;rw[QjM h,dz];refine nL λx _=> ?_
 show x.e0=x.e0.e0;unfold aG.e0;simp only[dz];rfl
end
theorem x9{α β:Type}{f:α->List β}:∀{l:List α} {x:α},x∈l->(f x).Sublist (l.flatMap f)
 |a::l,x,h=>by
  rw[iE];rcases cG.1 h with rfl|h
  ·exact sublist_append_left _ _
  ·exact(x9 h).trans (IT _ _)
abbrev FrE:=ar×Nat×ah
structure Wk(gs:List aY)(n:Nat)(fc:List FrE)(rl:List Bool)(ls:ah):Prop where
 len:ae rl=n
 rd:∀i:Nat,i<n->rl.getD i false=true->Rd (gs.map aY.f) (i:Int)
 lst:∀v,v∈ls->0<=v/\v<(n:Int)/\rl.getD v.toNat false=true
 cnt:ae ls<=Qm0 rl
 closed:∀i:Nat,i<n->rl.getD i false=true->(i:Int)∈ls\/∀e,fc[i]?=some e->∀a,a∈e.2.2->0<=a->rl.getD a.toNat false=true
def bp.f(x:bp):aG:=⟨none,0,x.ak.map (λp=>⟨p.dst,none,0,p.args⟩),none,0,x.insts,x.e,x.v,x.a,x.b⟩
structure QjN(n:Int)(p:da):Prop where
 up:p.from_.Pairwise (·<·)
 xo:∀s,s∈p.from_->0<=s/\s<n
 len:ae p.args=ae p.from_
def rn(n:Int)(x:bp):Prop:=(x.e=0/\(0<=x.a/\x.a<n)/\x.v=0/\x.b=0)\/(x.e=1/\(0<=x.a/\x.a<n)/\(0<=x.b/\x.b<n)/\x.a≠x.b)\/(x.e=2/\x.a=0/\x.b=0)\/(x.e=3/\eG x.a/\x.v=0/\x.b=0)
theorem CE(bs:List SB)(b:Int):(bO bs b).Pairwise (·<·):=by
 unfold bO gR;rw[uR];refine List.Pairwise.filter _<|pairwise_lt_range.imp ?_;intro a b h;exact Int.ofNat_lt.2 h
section
variable{nm:ByteArray}{pa va:Int}{fs:List aG}{n:Nat}
theorem Xl(h:eU nm pa va fs){k:Nat}(hk:k<ae fs)(h0:k≠0):0<ae (bO (au fs) (k:Int)):=by
 have hr:Reach (tg (au fs)) (k:Int):=by have h1:=nY (bs:=au fs);rw[bM]at h1;exact kU.1 (h1.1 h.all k hk)
 have:∀x:Int,Reach (tg (au fs)) x->x≠0->∃s,s∈bO (au fs) x:=by
  intro x hx eC;cases hx with
  |zero=>exact absurd rfl eC
  |step hs ht=>
   rename_i s;refine⟨s,pt.2 ⟨?_,ht⟩⟩;exact rk (by rw[bM];exact h.pos) hs
 obtain⟨s,hs⟩:=this _ hr oM;exact tB hs
theorem QS(hv:cS nm pa va fs=0)(hN:ae fs<=1000):FSm fs:=by
 obtain⟨h,_,iX⟩:=kh hv;have hp:∀(k:Nat) (x:aG),fs[k]?=some x->ae x.ak+ae x.insts<=de fs:=by
  intro k x hx;have hm:ae x.ak+ae x.insts∈(fs.take (ae fs)).map (λx=>ae x.ak+ae x.insts):=by rw[cL (cH _)];exact aO.2 ⟨x,aI hx,rfl⟩
  have:∀l:List Nat,∀a,a∈l->a<=l.sum:=by
   intro l;induction l with
   |nil=>intro a ha;cases ha
   |cons b l ih=>
    intro a ha;rcases cG.1 ha with rfl|ha
    ·simp
    ·have:=ih a ha;simp;omega
  have:=this _ _ hm;unfold de ma;omega
 have key:∀x,x∈fs->∃k:Nat,fs[k]?=some x:=λx hx=>bq.1 hx
 refine⟨λx hx=> ?_,λx hx=> ?_,λx hx p j8=> ?_,λx hx i hi=> ?_⟩
 ·obtain⟨k,hk⟩:=key x hx;have:=hp k x hk;omega
 ·obtain⟨k,hk⟩:=key x hx;have:=hp k x hk;omega
 ·obtain⟨k,hk⟩:=key x hx;obtain⟨y,hy,hr⟩:=h.reads k (aW.1 hk).1;rw[hk]at hy;injection hy with hy;subst hy;obtain⟨j,hj⟩:=bq.1 j8;rw[(hr.ak j p hj).1];have:ae (bO (au fs) (k:Int))<=ae (au fs):=jz _ _ _;rw[bM]at this;omega
 ·have:=(h.bN.1 x hx i hi).2;omega
structure GIn(n N:Nat)(x:aY):Prop where
 lp:ae x.ak<=20000
 li:ae x.insts<=20000
 gone:x.gone=false
 ak:∀p,p∈x.ak->(0<=p.dst/\p.dst<(n:Int))/\ae p.args<=20000/\(∀a,a∈p.args->0<=a/\a<(n:Int))/\0<ae p.from_/\ae p.from_<=20000/\QjN (N:Int) p.k
 insts:∀i,i∈x.insts->(DG i.op->0<=i.dst/\i.dst<(n:Int))/\ae i.args<=20000/\∀a,a∈i.args->0<=a/\a<(n:Int)
 ends:rn (N:Int) x.k
 fin:(x.e=1\/x.e=2)->-1<=x.v/\x.v<(n:Int)
theorem Xm{gs:List aY}(hv:cS nm pa va fs=0)(hN:ae fs<=1000)(kr:va=(n:Int))(hg:gs.map aY.k=gM fs):∀x,x∈gs->GIn n (ae gs) x:=by
 obtain⟨h,_,iX⟩:=kh hv;have Oz:=QS hv hN;have hvr:=Qco h kr;have hl:ae gs=ae fs:=by have:=aK List.length hg;rwa [bl,jh]at this
 intro y hy;obtain⟨k,hk⟩:=bq.1 hy;have BG:=(aW.1 hk).1;obtain⟨x,hx⟩:=aP (l:=fs) (i:=k) oM;have sm:=aI hx;have h1:=aK (λl:List bp=>l[k]?) hg;simp only[aL,hk,ft,mq hx]at h1;injection h1 with h1;have e1:y.ak.map fN.k=x.ak.map (qw (bO (au fs) (k:Int))):=aK bp.ak h1;have e2:y.insts.map aQ.e0=x.insts.map aQ.e0:=aK bp.insts h1;have e3:y.e=x.e:=aK bp.e h1;have e4:y.v=x.v:=aK bp.v h1;have e5:y.a=x.a:=aK bp.a h1;have e6:y.b=x.b:=aK bp.b h1;have e7:y.gone=false:=aK bp.gone h1;obtain⟨z,hz,hr⟩:=h.reads k oM;rw[hx]at hz;injection hz with hz;subst hz;have hv1:=hvr x sm;have Xn:ae (bO (au fs) (k:Int))<=ae fs:=by have:ae (bO (au fs) (k:Int))<=ae (au fs):=jz _ _ _;rwa [bM]at this
 refine⟨by rw[K9 e1];exact Oz.lp x sm,by rw[oJ e2];exact Oz.li x sm,e7,λp hp=> ?_,λi hi=> ?_,?_,λhf=> ?_⟩
 ·obtain⟨j,hj⟩:=bq.1 hp;have h2:=aK (λl:List da=>l[j]?) e1;simp only[aL,hj,ft]at h2;obtain⟨q,hq⟩:∃q,x.ak[j]?=some q:=aP (by rw[<-K9 e1];exact(aW.1 hj).1);rw[hq,ft]at h2;injection h2 with h2;have d1:p.dst=q.dst:=aK da.dst h2;have d2:p.from_=bO (au fs) (k:Int):=aK da.from_ h2;have d3:p.args=q.args:=aK da.args h2;obtain⟨h3,h4⟩:=hr.ak j q hq;have Xo:k≠0:=by rintro rfl;have:=h.ak x hx;have:=(aW.1 hq).1;omega
  have hs0:=Xl h (k:=k) oM Xo;refine⟨by rw[d1];exact hv1.ak q (aI hq),by rw[d3,h3];omega,λa ha=> ?_,by rw[d2];exact hs0,by rw[d2];omega,⟨by show p.from_.Pairwise _;rw[d2];exact CE _ _,λs hs=> ?_,by show ae p.args=ae p.from_;rw[d3,d2,h3]⟩⟩
  ·rw[d3]at ha;obtain⟨i,hi⟩:=bq.1 ha;obtain⟨s,hs⟩:∃s,(bO (au fs) (k:Int))[i]?=some s:=aP (by rw[<-h3];exact(aW.1 hi).1);have ht:=h4 i a s hi hs;exact⟨ht.1,by rw[<-kr];exact ht.2.1⟩
  ·have Wg:s∈p.from_:=hs;rw[d2]at Wg;have:=KE Wg;rw[bM]at this;rw[hl];exact this
 ·obtain⟨j,hj⟩:=bq.1 hi;have h2:=aK (λl:List aQ=>l[j]?) e2;simp only[aL,hj,ft]at h2;obtain⟨q,hq⟩:∃q,x.insts[j]?=some q:=aP (by rw[<-oJ e2];exact(aW.1 hj).1);rw[hq,ft]at h2;injection h2 with h2;have d1:i.op=q.op:=show i.e0.op=q.e0.op by rw[h2]
  have d2:i.dst=q.dst:=show i.e0.dst=q.e0.dst by rw[h2]
  have d3:i.args=q.args:=show i.e0.args=q.e0.args by rw[h2]
  have hqm:=aI hq;obtain⟨h5,h6,h7⟩:=hv1.insts q hqm;refine⟨λhp=> ?_,by rw[d3];exact Oz.ai x sm q hqm,by rw[d3];exact h7⟩;rw[d1]at hp;have:=h.bN.2.1 _ (Lf hx hq (Oi hp));have Ft:=h.par;simp only at this;rw[d2];omega
 ·have:=h.ends x sm;unfold jm at this;unfold rn;show(y.e=0/\(0<=y.a/\y.a<_)/\y.v=0/\y.b=0)\/(y.e=1/\(0<=y.a/\y.a<_)/\(0<=y.b/\y.b<_)/\y.a≠y.b)\/(y.e=2/\y.a=0/\y.b=0)\/(y.e=3/\eG y.a/\y.v=0/\y.b=0);rw[e3,e4,e5,e6,hl];exact this
 ·rw[e3]at hf;rw[e4];by_cases hv2:tP x
  ·have ht:=hr.fin hv2;have:=ht.1;have:=ht.2.1;omega
  ·unfold tP at hv2;omega
end
theorem qT{α β:Type}{f:α->β}{g:α->β}{d l:List α}{k:Nat}{x y:α}(h:d.map f=(l.take k).map g)(hx:l[k]?=some x)(hy:f y=g x):(d++[y]).map f=(l.take (k+1)).map g:=by
 obtain⟨hk,he⟩:=aW.1 hx;rw[bZ,h,dh hk,bZ,he];simp[hy]
theorem DN{hd gs:List aY}(h:hd.map (·.g)=gs.map (·.g))(A:ar)(c:Nat):jH A c hd=jH A c gs:=by
 have hl:ae hd=ae gs:=by have:=aK List.length h;simpa using this
 have e:∀l:List aY,nh l=(l.map (·.g)).map (λg=>Value.pointer (some (aZ g))):=λl=>by unfold nh;rw[dz];rfl
 unfold jH;rw[hl,e,e,h]
theorem Te(n:Nat):gf (List.replicate n false)=List.replicate n (vB false):=by simp[gf]
theorem Qcp{α:Type}{l:List α}(h:0<ae l):∃m x,l=m++[x]:=by
 refine⟨l.dropLast,l.getLast (by intro e;rw[e]at h;simp at h),?_⟩;exact(dropLast_concat_getLast _).symm
theorem rp{w:World}{ad:Addr}{l:ah}{i:Nat}{v:Int}(h:(bD.rd (some ad) (ints l)).holds w)(hi:l[i]?=some v):w.cell? (ad.add ((i:Int).toNat*1))=some (vI v):=by
 rw[cN];exact iP h rfl hi
theorem DP(l:ah)(v:Int):(ints (l++[v])).take (ae l)=ints l:=by
 unfold ints;rw[bZ,take_append_of_le_length sI,cL sI]
theorem GD{p:cV}:p.e0.Ok↔p.Ok:=⟨λh=>⟨h.dst,h.len,h.args⟩,λh=>⟨h.dst,h.len,h.args⟩⟩
theorem GF{p:aQ}:p.e0.Ok↔p.Ok:=⟨λh=>⟨h.op,h.dst,h.n,h.name,h.len,h.args⟩,λh=>⟨h.op,h.dst,h.n,h.name,h.len,h.args⟩⟩
theorem GG{x:aG}:x.e0.Ok↔x.Ok:=by
 constructor
 ·intro h;have h1:=h.lp;have h2:=h.li;refine⟨?_,λp hp=>GD.1 (h.ak p.e0 (aO.2 ⟨p,hp,rfl⟩)),?_,λp hp=>GF.1 (h.insts p.e0 (aO.2 ⟨p,hp,rfl⟩)),h.e,h.v,h.a,h.b⟩
  ·have:fg (ae (x.ak.map cV.e0)):=h1;rwa [bl]at this
  ·have:fg (ae (x.insts.map aQ.e0)):=h2;rwa [bl]at this
 ·intro h;refine⟨?_,λp hp=> ?_,?_,λp hp=> ?_,h.e,h.v,h.a,h.b⟩
  ·show fg (ae (x.ak.map cV.e0));rw[bl];exact h.lp
  ·obtain⟨q,hq,rfl⟩:=aO.1 hp;exact GD.2 (h.ak q hq)
  ·show fg (ae (x.insts.map aQ.e0));rw[bl];exact h.li
  ·obtain⟨q,hq,rfl⟩:=aO.1 hp;exact GF.2 (h.insts q hq)
theorem rH.alike{fs gs:List aG}(h:fY fs gs)(ho:rH fs):rH gs:=by
 intro y hy;have:y.e0∈fs.map aG.e0:=by rw[show fs.map aG.e0=gs.map aG.e0 from h];exact aO.2 ⟨y,hy,rfl⟩
 obtain⟨x,hx,e⟩:=aO.1 this;exact GG.1 (e▸GG.2 (ho x hx))
theorem DS{fs gs:List aG}(h:fY fs gs):de fs=de gs:=by rw[<-xZ fs,<-xZ gs,h]
def lB(va:Int)(fs:List aG):Prop:=jA va fs\/1500<de fs
instance (va : Int) (fs : List aG) : Decidable (lB va fs) := by unfold lB; infer_instance
theorem Tg{va:Int}{fs:List aG}(h:¬lB va fs):ae fs<=60/\de fs<=1500:=by
 unfold lB at h;exact⟨wj (λe=>h (.inl e)),oM⟩
theorem QgT{w:World}{A9:ar}{e7 e9 n7 n9 c7 c9:Nat}{x:aG}(hp:x.ak=[])(h9:(bD.row e9 6 A9 n9 c9 (xV x)).holds w)(h7:(bD.row e7 5 x.iA n7 c7 (ow x.insts)).holds w)(hi:∀i,i∈x.insts->(bD.rd i.A (ints i.args)).holds w):RO bI w (.fn A9 [x]):=by
 refine RO.of (λr hr=> ?_);rcases cG.1 hr with rfl|hr
 ·have h1:(bD.rd A9 ([x].flatMap xV)).holds w:=by rw[show[x].flatMap xV=xV x by simp];exact aF h9
  have:=pD (f:=xV) DM oM h1;unfold bD.blocks;rw[show(au [x]).map SB.cells=[x].map xV by unfold au;rw[dz];rfl];exact this
 ·obtain⟨y,hy,QT⟩:=fG.1 hr;rw[cF]at hy;subst hy;unfold aG.parts at QT;rw[hp]at QT;rcases cG.1 QT with rfl|hr3
  ·intro i cs h;simp at h
  rcases cG.1 hr3 with rfl|hr4
  ·exact pD kB oM (aF h7)
  rcases bV.1 hr4 with hr5|hr5
  ·simp at hr5
  ·obtain⟨p,hp,rfl⟩:=aO.1 hr5;exact hi p hp
theorem QU{w:World}{A:ar}:(bD.rd A (ints [])).holds w:=λi v hi=>by simp[ints]at hi
def dxN:bo:=⟨#[102]⟩
section
variable{T:Int -> List Int}
theorem DT{U:Int->ah}(h:∀x t,t∈U x->t∈T x){x:Int}(hr:Reach U x):Reach T x:=by
 induction hr with
 |zero=>exact .zero
 |step _ ht ih=>exact .step ih (h _ _ ht)
end
section
variable{fs:List aG}{nm:ByteArray}{pa va:Int}
abbrev Av(pa va:Int)(fs:List aG)(v b q:Int):Prop:=dw (Dm (tg (au fs))) pa va (bQ fs) v b q
theorem nC(h:eU nm pa va fs){v b q:Int}:Av pa va fs v b q↔0<=v/\v<va/\(v<pa\/∃c k,(v,c,k)∈bQ fs/\((c=b/\k<q)\/(c≠b/\Dm (tg (au fs)) c b))):=pw h.bN.2.2
theorem IV(h:eU nm pa va fs){v:Int}{p q:Int×Int}(h1:(v,p)∈bQ fs)(h2:(v,q)∈bQ fs):p=q:=by
 have e1:=(uW h.bN.2.2).2 h1;have e2:=(uW h.bN.2.2).2 h2;rw[e1]at e2;injection e2
theorem IW(h:eU nm pa va fs){v:Int}{p:Int×Int}(h1:(v,p)∈bQ fs):pa<=v/\v<va:=h.bN.2.1 _ h1
theorem OB(h:eU nm pa va fs){b:Int}(h0:0<=b)(h1:b<ae fs):Reach (tg (au fs)) b:=by
 have h2:=nY (bs:=au fs);rw[bM]at h2;have:=kU.1 (h2.1 h.all b.toNat oM);rwa [jM h0]at this
theorem Xr(h:eU nm pa va fs){v c k:Int}(hd:(v,c,k)∈bQ fs):¬Av pa va fs v c k:=by
 intro hv;have hrg:=IW h hd;obtain⟨_,_,h3⟩:=(nC h).1 hv;rcases h3 with h3|⟨c',k',J0,h3⟩
 ·omega
 ·have e1:=IV h hd J0;injection e1 with e1 e2;subst e1;subst e2;rcases h3 with⟨_,h3⟩|⟨h3,_⟩
  ·omega
  ·exact h3 rfl
theorem zw(h:eU nm pa va fs){k j:Nat}{x:aG}{i:aQ}(hx:fs[k]?=some x)(hi:x.insts[j]?=some i){a:Int}(ha:a∈i.args):Av pa va fs a (k:Int) (j:Int):=by
 obtain⟨y,hy,hr⟩:=h.reads k (aW.1 hx).1;rw[hx]at hy;injection hy with hy;subst hy;obtain⟨m,hm⟩:=bq.1 ha;exact hr.insts j i hi m a hm
end
def QjO(x:aG):Prop:=x.e=1\/(x.e=2/\0<=x.v)
instance (x : aG) : Decidable (QjO x) := by unfold QjO; infer_instance
abbrev Qm1:=K5
section
variable{fs:List aG}{nm:ByteArray}{pa va:Int}{σ:Int -> Int}{k j:Nat}{x:aG}{had:List (Qm1 × Int)}
theorem Th(h:eU nm pa va fs)(hx:fs[k]?=some x):(nZ x).Nodup:=by
 have:=h.bN.2.2;rw[uV]at this;exact this.sublist (x9 (aI hx))
theorem sn{α β:Type}(f:β->α->β)(a:β){l:List α}{j:Nat}{y:α}(hy:l[j]?=some y):(l.take (j+1)).foldl f a=f ((l.take j).foldl f a) y:=by
 obtain⟨hj,he⟩:=aW.1 hy;rw[dh hj,sq,he];rfl
end
theorem fB{α:Type}{l:List α}{j:Nat}{x:α}(h:l[j]?=some x):l.drop j=x::l.drop (j+1):=by
 obtain⟨hk,he⟩:=aW.1 h;rw[Ae hk,he]
def Qko(x:aY):Prop:=x.e=1\/(x.e=2/\0<=x.v)
instance (x : aY) : Decidable (Qko x) := by unfold Qko; infer_instance
section
variable{fs gs:List aG}{x:aG}{k j:Nat}
theorem X4(h:fY fs gs)(hx:fs[k]?=some x):∃A1 c1 ps A2 c2 is,gs[k]?=some ⟨A1,c1,ps,A2,c2,is,x.e,x.v,x.a,x.b⟩/\ps.map cV.e0=x.ak.map cV.e0/\is.map aQ.e0=x.insts.map aQ.e0:=by
 obtain⟨y,hy,e⟩:=tR h hx;have e1:x.e=y.e:=W8 e;have e2:x.v=y.v:=W9 e;have e3:x.a=y.a:=show x.e0.a=y.e0.a by rw[e]
 have e4:x.b=y.b:=show x.e0.b=y.e0.b by rw[e]
 have e5:=uT e;have e6:=tS e;obtain⟨A1,c1,ps,A2,c2,is,ye,yv,ya,yb⟩:=y;simp only at e1 e2 e3 e4 e5 e6;subst e1;subst e2;subst e3;subst e4;exact⟨A1,c1,ps,A2,c2,is,hy,e5.symm,e6.symm⟩
theorem Qhd{ps qs:List aQ}(h:qs.map aQ.e0=ps.map aQ.e0){p:aQ}(hp:ps[j]?=some p):∃A c,qs[j]?=some ⟨p.op,p.dst,p.n,p.name,A,c,p.args⟩:=by
 have h1:=aK (λl:List aQ=>l[j]?) h;simp only[aL,hp,ft]at h1;obtain⟨q,hq⟩:=aP (l:=qs) (i:=j) (by rw[oJ h];exact(aW.1 hp).1);rw[hq,ft]at h1;injection h1 with h1;obtain⟨o,d,n,nm,A,c,a⟩:=q;unfold aQ.e0 at h1;simp only[aQ.mk.injEq,jR]at h1;obtain⟨rfl,rfl,rfl,rfl,rfl⟩:=h1;exact⟨A,c,hq⟩
end
theorem Tv(gl:List Bool){a b:Nat}(h:a<=b):ly gl a<=ly gl b:=by
 unfold ly;have e:gl.take a=(gl.take b).take a:=by rw[take_take,Nat.min_eq_left h]
 rw[e];exact((xQ a (gl.take b)).filter _).length_le
theorem G4(b:Bool)(gl:List Bool)(i:Nat):ly (b::gl) (i+1)=(if b then 0 else 1)+ly gl i:=by
 unfold ly;cases b<;>simp<;>omega
abbrev fK(ks:List bp):List aG:=ks.map bp.f
abbrev tK(ks:List bp):Int->ah:=tg (au (fK ks))
def na(ks:List bp)(t:Int):Int:=(mC (ew ks)).getD t.toNat 0
def eK(ks:List bp)(t:Int):Prop:=∃(i:Nat) (x:bp),t=(i:Int)/\ks[i]?=some x/\x.gone=false
section
variable{ks:List bp}{i j:Nat}{x y:bp}
theorem LG(ks:List bp)(n:Nat):ae (eE (ks.take n))=ly (ew ks) n:=by
 unfold ly eE ew;rw[<-map_take,uU,bl];rfl
theorem QcO(hx:ks[i]?=some x)(hg:x.gone=false):(eE ks)[ly (ew ks) i]?=some x:=by
 have e:eE ks=eE (ks.take i)++(x::eE (ks.drop (i+1))):=by
  conv=>lhs;rw[<-oI i ks,fB hx]
  unfold eE;rw[e8,gN,hg];rfl
 rw[e,lJ (by rw[LG];exact cH _),LG,l5];rfl
theorem zF:∀{ks:List bp} {j:Nat},(eE ks)[j]?=some x->∃i,ks[i]?=some x/\x.gone=false/\ly (ew ks) i=j
 |[],j,h=>by simp[eE]at h
 |y::ks,j,h=>by
  cases hg:y.gone with
  |true=>
   have e:eE (y::ks)=eE ks:=by unfold eE;rw[gN,hg];rfl
   rw[e]at h;obtain⟨i,h1,h2,h3⟩:=zF h;refine⟨i+1,h1,h2,?_⟩;show ly (y.gone::ew ks) (i+1)=j;rw[G4,hg,h3];simp
  |false=>
   have e:eE (y::ks)=y::eE ks:=by unfold eE;rw[gN,hg];rfl
   rw[e]at h;cases j with
   |zero=>
    injection h with h;subst h;exact⟨0,rfl,hg,rfl⟩
   |succ j=>
    obtain⟨i,h1,h2,h3⟩:=zF (ks:=ks) (j:=j) h;refine⟨i+1,h1,h2,?_⟩;show ly (y.gone::ew ks) (i+1)=j+1;rw[G4,hg,h3];simp;omega
theorem LH(hx:ks[i]?=some x):(ew ks)[i]?=some x.gone:=by
 unfold ew;rw[aL,hx];rfl
theorem Rb(hx:ks[i]?=some x)(hg:x.gone=false)(h:i<j):ly (ew ks) i<ly (ew ks) j:=by
 have h1:=Lb (by rw[LH hx,hg]:(ew ks)[i]?=some false);have h2:=Tv (ew ks) (show i+1<=j by omega);omega
theorem s8(hx:ks[i]?=some x)(hg:x.gone=false):na ks (i:Int)=(ly (ew ks) i:Int):=by
 have hl:i<ae (ew ks):=by rw[zv];exact(aW.1 hx).1
 unfold na mC;rw[cN,Ld hl,ax ⟨hl,by rw[et,LH hx,hg];rfl⟩]
theorem eK.mk'(hx:ks[i]?=some x)(hg:x.gone=false):eK ks (i:Int):=⟨i,x,rfl,hx,hg⟩
theorem pJ{a b:Int}(ha:eK ks a)(hb:eK ks b)(h:na ks a=na ks b):a=b:=by
 obtain⟨i,x,rfl,hx,hgx⟩:=ha;obtain⟨j,y,rfl,hy,Tw⟩:=hb;rw[s8 hx hgx,s8 hy Tw]at h;rcases HX i j with h1|h1|h1
 ·have:=Rb hx hgx h1;omega
 ·rw[h1]
 ·have:=Rb hy Tw h1;omega
theorem yk(h:eK ks 0):na ks 0=0:=by
 obtain⟨i,x,h0,hx,hg⟩:=h;have:i=0:=oM;subst this;have:=s8 hx hg;rw[show((0:Nat):Int)=0 from rfl]at this;rw[this];simp[ly]
end
structure vL(ks:List bp):Prop where
 zero:eK ks 0
 ends:∀x,x∈ks->x.gone=false->rn (ae ks:Int) x
 gone:∀x,x∈ks->x.gone=true->x.ak=[]/\x.insts=[]/\x.e=2/\x.v= -1
 X5:∀s t:Int,t∈tK ks s->eK ks t
theorem X6(ks:List bp):ae (au (fK ks))=ae ks:=by rw[bM,bl]
theorem uk{ks:List bp}{i:Nat}{x:bp}(hx:ks[i]?=some x):(fK ks)[i]?=some x.f:=by rw[aL,hx];rfl
theorem u9{ks:List bp}{i:Nat}{y:aG}(hx:(fK ks)[i]?=some y):∃x,ks[i]?=some x/\y=x.f:=by
 rw[aL,jJ]at hx;obtain⟨x,hx,rfl⟩:=hx;exact⟨x,hx,rfl⟩
theorem AK{ks:List bp}{i:Nat}{x:bp}(hx:ks[i]?=some x):tK ks (i:Int)=Ch (ae ks) x.f.sb:=by
 show tg (au (fK ks)) (i:Int)=_;rw[xF oM (by rw[cN];exact gS (uk hx)),X6]
theorem Eg{ks:List bp}{s t:Int}(h:t∈tK ks s):∃(i:Nat) (x:bp),s=(i:Int)/\ks[i]?=some x:=by
 have hr:0<=s/\s<(ae ks:Int):=by apply ym;intro hc;have:tK ks s=[]:=zd (by rw[X6];omega);rw[this]at h;cases h
 obtain⟨x,hx⟩:=aP (l:=ks) (i:=s.toNat) oM;exact⟨s.toNat,x,oM,hx⟩
theorem vb{n:Nat}{t:Int}(h0:0<=t)(h1:t<(n:Int)):jS n t=true:=by unfold jS;simp[h0,h1]
def me(x:bp):ah:=if x.e=0 then[x.a]else if x.e=1 then[x.a,x.b]else[]
theorem LJ{n:Nat}{x:bp}(h:rn (n:Int) x):Ch n x.f.sb=me x:=by
 show(if x.e=0 then[x.a]else if x.e=1 then(if x.a=x.b then[x.a]else[x.a,x.b])else[]).filter (jS n)=_;unfold me;rcases h with⟨e,⟨h1,h2⟩,_⟩|⟨e,⟨h1,h2⟩,⟨h3,h4⟩,h5⟩|⟨e,_⟩|⟨e,_⟩
 ·rw[ax e,ax e];simp[vb h1 h2]
 ·rw[ao oM,ax e,ao h5,ao oM,ax e];simp[vb h1 h2,vb h3 h4]
 ·rw[ao oM,ao oM,ao oM,ao oM];rfl
 ·rw[ao oM,ao oM,ao oM,ao oM];rfl
theorem yn{n:Nat}{x:bp}(h:x.e=2):Ch n x.f.sb=[]:=by
 show(if x.e=0 then[x.a]else if x.e=1 then(if x.a=x.b then[x.a]else[x.a,x.b])else[]).filter (jS n)=_;rw[ao oM,ao oM];rfl
theorem vL.at_{ks:List bp}(hc:vL ks){i:Nat}{x:bp}(hx:ks[i]?=some x):tK ks (i:Int)=me x:=by
 rw[AK hx];cases hg:x.gone with
 |true=>
  have h:=(hc.gone x (aI hx) hg).2.2.1;rw[yn h];unfold me;rw[ao oM,ao oM]
 |false=>exact LJ (hc.ends x (aI hx) hg)
theorem vL.src{ks:List bp}(hc:vL ks){s t:Int}(h:t∈tK ks s):eK ks s:=by
 obtain⟨i,x,rfl,hx⟩:=Eg h;cases hg:x.gone with
 |false=>exact .mk' hx hg
 |true=>
  have h2:=(hc.gone x (aI hx) hg).2.2.1;rw[AK hx,yn h2]at h;cases h
section
variable{ks:List bp}{fs:List aG}{x:bp}{y:aG}
theorem G5(ht:BF ks fs){i:Nat}{x:bp}(hx:ks[i]?=some x)(hg:x.gone=false):∃y,fs[ly (ew ks) i]?=some y/\ToB (mC (ew ks)) x y:=by
 have h1:=QcO hx hg;obtain⟨y,hy⟩:=aP (l:=fs) (i:=ly (ew ks) i) (by rw[<-ht.1];exact(aW.1 h1).1);exact⟨y,hy,ht.2 _ _ _ h1 hy⟩
theorem qD(ht:BF ks fs){j:Nat}{y:aG}(hy:fs[j]?=some y):∃i x,ks[i]?=some x/\x.gone=false/\ly (ew ks) i=j/\ToB (mC (ew ks)) x y:=by
 obtain⟨x,hx⟩:=aP (l:=eE ks) (i:=j) (by rw[ht.1];exact(aW.1 hy).1);obtain⟨i,h1,h2,h3⟩:=zF hx;exact⟨i,x,h1,h2,h3,ht.2 _ _ _ hx hy⟩
theorem pK(ht:BF ks fs){t:Int}(h:eK ks t):0<=na ks t/\na ks t<(ae fs:Int):=by
 obtain⟨i,x,rfl,hx,hg⟩:=h;obtain⟨y,hy,_⟩:=G5 ht hx hg;have:=(aW.1 hy).1;rw[s8 hx hg];omega
theorem LK(hc:vL ks)(ht:BF ks fs){i:Int}(hi:eK ks i):tg (au fs) (na ks i)=(tK ks i).map (na ks):=by
 obtain⟨i,x,rfl,hx,hg⟩:=hi;obtain⟨y,hy,hb⟩:=G5 ht hx hg;have hL:∀t,t∈tK ks (i:Int)->eK ks t:=λt h=>hc.X5 _ _ h
 rw[hc.at_ hx]at hL⊢;rw[s8 hx hg,xF oM (by rw[cN];exact gS hy),bM];show(if y.e=0 then[y.a]else if y.e=1 then(if y.a=y.b then[y.a]else[y.a,y.b])else[]).filter (jS (ae fs))=_;rw[hb.e,hb.a,hb.b];unfold me at hL⊢;rcases hc.ends x (aI hx) hg with⟨e,⟨h1,h2⟩,_⟩|⟨e,⟨h1,h2⟩,⟨h3,h4⟩,h5⟩|⟨e,_⟩|⟨e,_⟩
 ·rw[ax e]at hL;have ha:=pK ht (hL x.a sI);have ea:toA (mC (ew ks)) x.e x.a=na ks x.a:=by unfold toA;rw[ax (Or.inl e)];rfl
  rw[ax e,ax e,ea];have i1:jS (ae fs) (na ks x.a)=true:=vb ha.1 ha.2;rw[gN,i1];rfl
 ·rw[ao oM,ax e]at hL;have ea:toA (mC (ew ks)) x.e x.a=na ks x.a:=by unfold toA;rw[ax (Or.inr e)];rfl
  have eb:toBb (mC (ew ks)) x.e x.b=na ks x.b:=by unfold toBb;rw[ax e];rfl
  have la:=hL x.a sI;have lb:=hL x.b sI;have ha:=pK ht la;have hbb:=pK ht lb;have i1:jS (ae fs) (na ks x.a)=true:=vb ha.1 ha.2;have i2:jS (ae fs) (na ks x.b)=true:=vb hbb.1 hbb.2;have eC:na ks x.a≠na ks x.b:=λe=>h5 (pJ la lb e)
  have e0:¬x.e=0:=oM;rw[ea,eb,ao e0,ax e,ao eC,ao e0,ax e,gN,i1,ax rfl,gN,i2];rfl
 ·have e0:¬x.e=0:=oM;have e1:¬x.e=1:=oM;rw[ao e0,ao e1,ao e0,ao e1];rfl
 ·have e0:¬x.e=0:=oM;have e1:¬x.e=1:=oM;rw[ao e0,ao e1,ao e0,ao e1];rfl
theorem LL{U U':Int->ah}(h0:eK ks 0)(hU:∀i,eK ks i->U' (na ks i)=(U i).map (na ks))(hL:∀i t,t∈U i->eK ks t){i:Int}(h:Reach U i):Reach U' (na ks i)/\eK ks i:=by
 induction h with
 |zero=>exact⟨by rw[yk h0];exact .zero,h0⟩
 |step _ ht ih=>exact⟨.step ih.1 (by rw[hU _ ih.2];exact aO.2 ⟨_,ht,rfl⟩),hL _ _ ht⟩
theorem X7{U U':Int->ah}(h0:eK ks 0)(hU:∀i,eK ks i->U' (na ks i)=(U i).map (na ks))(hL:∀i t,t∈U i->eK ks t){j:Int}(h:Reach U' j):∃i,eK ks i/\Reach U i/\na ks i=j:=by
 induction h with
 |zero=>exact⟨0,h0,.zero,yk h0⟩
 |step _ ht ih=>
  obtain⟨i,h1,h2,rfl⟩:=ih;rw[hU _ h1]at ht;obtain⟨t,h3,rfl⟩:=aO.1 ht;exact⟨t,hL _ _ h3,.step h2 h3,rfl⟩
theorem X8(hc:vL ks)(ht:BF ks fs){a:Int}(ha:eK ks a){i:Int}(hi:eK ks i):Gk (tg (au fs)) (na ks a) (na ks i)=(Gk (tK ks) a i).map (na ks):=by
 unfold Gk;rw[LK hc ht hi,uU];congr 1;refine qH λt h=> ?_
 have hl:=hc.X5 _ _ h;show(!(na ks t==na ks a))=!(t==a);by_cases e:t=a
 ·rw[e,beq_self_eq_true,beq_self_eq_true]
 ·have:na ks t≠na ks a:=λh=>e (pJ hl ha h)
  rw[beq_false_of_ne this,beq_false_of_ne e]
theorem Qkp(hc:vL ks)(ht:BF ks fs){a b:Int}(ha:eK ks a)(hb:eK ks b):Dm (tg (au fs)) (na ks a) (na ks b)↔Dm (tK ks) a b:=by
 have hL:∀i t:Int,t∈Gk (tK ks) a i->eK ks t:=λi t h=>hc.X5 _ _ (jq.1 h).1
 have hz:=yk hc.zero;have e0:na ks a≠0↔a≠0:=by refine not_congr ⟨λh=>pJ ha hc.zero (h.trans hz.symm),λh=>by rw[h];exact hz⟩
 unfold Dm;refine not_congr (and_congr e0 ⟨λh=> ?_,λh=>(LL hc.zero (λi hi=>X8 hc ht ha hi) hL h).1⟩);obtain⟨i,h1,h2,h3⟩:=X7 hc.zero (λi hi=>X8 hc ht ha hi) hL h;rwa [pJ h1 hb h3]at h2
theorem X9(hb:ToB (mC (ew ks)) x y){v:Int}:(∃p,p∈y.ak/\p.dst=v)↔∃p,p∈x.ak/\p.dst=v:=by
 obtain⟨hl,hp⟩:=hb.ak;constructor
 ·rintro⟨q,hq,rfl⟩;obtain⟨j,hj⟩:=bq.1 hq;obtain⟨p,hpj⟩:=aP (l:=x.ak) (i:=j) (by rw[hl];exact(aW.1 hj).1);exact⟨p,aI hpj,(hp j p q hpj hj).1.symm⟩
 ·rintro⟨p,j8,rfl⟩;obtain⟨j,hj⟩:=bq.1 j8;obtain⟨q,hqj⟩:=aP (l:=y.ak) (i:=j) (by rw[<-hl];exact(aW.1 hj).1);exact⟨q,aI hqj,(hp j p q hj hqj).1⟩
theorem Ya(hb:ToB (mC (ew ks)) x y){j:Nat}{i:aQ}(hi:y.insts[j]?=some i):x.insts[j]?=some i.e0:=by
 rw[<-hb.insts,aL,hi];rfl
theorem QcP(hb:ToB (mC (ew ks)) x y){j:Nat}{i:aQ}(hi:x.insts[j]?=some i):∃i',y.insts[j]?=some i'/\i'.e0=i:=by
 rw[<-hb.insts,aL,jJ]at hi;exact hi
theorem Rc(ht:BF ks fs){v c m:Int}:(v,c,m)∈bQ fs↔∃b,eK ks b/\na ks b=c/\(v,b,m)∈bQ (fK ks):=by
 rw[fL];constructor
 ·rintro⟨k,y,hy,rfl,h⟩;obtain⟨i,x,hx,hg,Fz,hb⟩:=qD ht hy;refine⟨i,.mk' hx hg,by rw[s8 hx hg,Fz],fL.2 ⟨i,x.f,uk hx,rfl,?_⟩⟩;rcases h with⟨h1,h2⟩|⟨j,a,h1,h2,h3,h4⟩
  ·obtain⟨p,hp,hd⟩:=(X9 hb).1 h2;exact .inl ⟨h1,_,aO.2 ⟨p,hp,rfl⟩,hd⟩
  ·exact .inr ⟨j,a.e0,Ya hb h1,h2,h3,h4⟩
 ·rintro⟨b,⟨i,x,rfl,hx,hg⟩,rfl,h⟩;obtain⟨k,z,hz,hk,h⟩:=fL.1 h;obtain⟨x',rR,rfl⟩:=u9 hz;have:k=i:=oM;subst this;rw[hx]at rR;injection rR with rR;subst rR;obtain⟨y,hy,hb⟩:=G5 ht hx hg;refine⟨_,y,hy,s8 hx hg,?_⟩;rcases h with⟨h1,p,hp,h2⟩|⟨j,a,h1,h2,h3,h4⟩
  ·obtain⟨q,hq,rfl⟩:=aO.1 hp;exact .inl ⟨h1,(X9 hb).2 ⟨q,hq,h2⟩⟩
  ·obtain⟨a',pS,e⟩:=QcP hb h1;subst e;exact .inr ⟨j,a',pS,h2,h3,h4⟩
theorem Qhe(hb:ToB (mC (ew ks)) x y):nZ y=nZ x.f:=by
 obtain⟨hl,hp⟩:=hb.ak;unfold nZ;congr 1
 ·show _=(x.ak.map _).map _;rw[dz];refine fM λj=> ?_
  rw[aL,aL];by_cases hj:j<ae x.ak
  ·obtain⟨p,hpj⟩:=aP (l:=x.ak) hj;obtain⟨q,hqj⟩:=aP (l:=y.ak) (i:=j) oM;rw[hpj,hqj];exact aK some (hp j p q hpj hqj).1
  ·rw[db oM,db oM];rfl
 ·show _=(x.insts.filter _).map _;rw[<-hb.insts,uU,dz];rfl
theorem Yb(ks:List bp):((eE ks).flatMap (λx=>nZ x.f)).Sublist (ks.flatMap (λx=>nZ x.f)):=by
 induction ks with
 |nil=>exact .slnil
 |cons x ks ih=>
  cases hg:x.gone with
  |true=>
   have e:eE (x::ks)=eE ks:=by unfold eE;rw[gN,hg];rfl
   rw[e,iE];exact ih.trans (IT _ _)
  |false=>
   have e:eE (x::ks)=x::eE ks:=by unfold eE;rw[gN,hg];rfl
   rw[e,iE,iE];exact(List.Sublist.refl _).append ih
theorem Qhf(ht:BF ks fs):fs.flatMap nZ=(eE ks).flatMap (λx=>nZ x.f):=by
 rw[CJ,CJ];congr 1;refine fM λj=> ?_
 rw[aL,aL];by_cases hj:j<ae fs
 ·obtain⟨y,hy⟩:=aP (l:=fs) hj;obtain⟨x,hx⟩:=aP (l:=eE ks) (i:=j) (by rw[ht.1];exact hj);rw[hx,hy];exact aK some (Qhe (ht.2 _ _ _ hx hy))
 ·rw[db oM,db (by rw[ht.1];omega)];rfl
theorem Re{pa va:Int}(ht:BF ks fs)(h:gD pa va (bQ (fK ks))):gD pa va (bQ fs):=by
 refine⟨λd hd=> ?_,?_⟩
 ·obtain⟨v,c,m⟩:=d;obtain⟨b,_,_,h1⟩:=(Rc ht).1 hd;exact h.1 (v,b,m) h1
 ·have h2:=h.2;rw[uV]at h2⊢;rw[Qhf ht];refine h2.sublist ?_;rw[show fK ks=ks.map bp.f from rfl,CA];exact Yb ks
theorem Yc(g:bp->Nat)(ks:List bp):((eE ks).map g).sum<=(ks.map g).sum:=by
 induction ks with
 |nil=>exact cH _
 |cons x ks ih=>
  cases hg:x.gone with
  |true=>
   have e:eE (x::ks)=eE ks:=by unfold eE;rw[gN,hg];rfl
   rw[e,gu,jN];omega
  |false=>
   have e:eE (x::ks)=x::eE ks:=by unfold eE;rw[gN,hg];rfl
   rw[e,gu,jN,gu,jN];omega
theorem G6(fs:List aG):de fs=ae fs+(fs.map (λx=>ae x.ak+ae x.insts)).sum:=by
 unfold de ma;rw[cL (cH _)]
theorem Qhg(ht:BF ks fs):de fs=ae (eE ks)+((eE ks).map (λx=>ae x.ak+ae x.insts)).sum:=by
 rw[G6,ht.1];congr 2;refine fM λj=> ?_
 rw[aL,aL];by_cases hj:j<ae fs
 ·obtain⟨y,hy⟩:=aP (l:=fs) hj;obtain⟨x,hx⟩:=aP (l:=eE ks) (i:=j) (by rw[ht.1];exact hj);have hb:=ht.2 _ _ _ hx hy;rw[hx,hy,ft,ft,<-hb.ak.1,<-hb.insts,bl]
 ·rw[db oM,db (by rw[ht.1];omega)];rfl
theorem mu(ks:List bp):de (fK ks)=ae ks+(ks.map (λx=>ae x.ak+ae x.insts)).sum:=by
 rw[G6,bl,dz];congr 2;refine nL λx _=> ?_
 show ae (x.ak.map _)+_=_;rw[bl];rfl
theorem QcQ(ht:BF ks fs):de fs<=de (fK ks):=by
 rw[Qhg ht,mu];have h1:ae (eE ks)<=ae ks:=j6 _ _;have h2:=Yc (λx=>ae x.ak+ae x.insts) ks;omega
end
theorem O0:∀{l m:ah},l.Pairwise (·<·)->m.Pairwise (·<·)->(∀a,a∈l↔a∈m)->l=m
 |[],[],_,_,_=>rfl
 |[],b::m,_,_,h=>absurd ((h b).2 (cK ..)) jt
 |a::l,[],_,_,h=>absurd ((h a).1 (cK ..)) jt
 |a::l,b::m,hl,hm,h=>by
  obtain⟨h1,h2⟩:=l7.1 hl;obtain⟨h3,h4⟩:=l7.1 hm;have e:a=b:=by
   rcases cG.1 ((h a).1 (cK ..))with e|ha
   ·exact e
   rcases cG.1 ((h b).2 (cK ..))with e|hb
   ·exact e.symm
   have:=h1 b hb;have:=h3 a ha;omega
  subst e;rw[O0 h2 h4 λc=> ?_];constructor
  ·intro hc;rcases cG.1 ((h c).1 (cr _ hc))with e|h5
   ·subst e;have:=h1 c hc;omega
   ·exact h5
  ·intro hc;rcases cG.1 ((h c).2 (cr _ hc))with e|h5
   ·subst e;have:=h3 c hc;omega
   ·exact h5
abbrev Tx(pa va:Int)(ks:List bp)(v b q:Int):Prop:=dw (Dm (tK ks)) pa va (bQ (fK ks)) v b q
structure Qnp(pa va:Int)(ks:List bp)(k:Nat)(p:da):Prop where
 len:ae p.args=ae p.from_
 nd:p.from_.Nodup
 xo:∀s,s∈p.from_->0<=s/\s<(ae ks:Int)
 all:∀s:Int,(k:Int)∈tK ks s->s∈p.from_
 bN:∀a,a∈p.args->0<=a/\a<va
 av:∀(i:Nat) (s a:Int),p.from_[i]?=some s->p.args[i]?=some a->Reach (tK ks) s->(k:Int)∈tK ks s->Tx pa va ks a s 20000
structure j4(nm:bo)(pa va:Int)(ks:List bp):Prop where
 zx:vL ks
 name:bX nm
 par:0<=pa/\pa<=16/\pa<=va
 QcR:∀x,ks[0]?=some x->x.ak=[]
 Qhh:∀s:Int,¬(0:Int)∈tK ks s
 shp:∀x,x∈ks->∀i,i∈x.insts->cA i
 once:gD pa va (bQ (fK ks))
 iv:∀x,x∈ks->∀i,i∈x.insts->∀a,a∈i.args->0<=a/\a<va
 fv:∀x,x∈ks->(x.e=1\/(x.e=2/\x.v≠-1))->0<=x.v/\x.v<va
 ins:∀(k:Nat) (x:bp),ks[k]?=some x->Reach (tK ks) (k:Int)->∀(j:Nat) (i:aQ),x.insts[j]?=some i->∀a,a∈i.args->Tx pa va ks a (k:Int) (j:Int)
 fin:∀(k:Nat) (x:bp),ks[k]?=some x->Reach (tK ks) (k:Int)->(x.e=1\/(x.e=2/\x.v≠-1))->Tx pa va ks x.v (k:Int) 20000
 JZ:∀(k:Nat) (x:bp),ks[k]?=some x->∀p,p∈x.ak->Qnp pa va ks k p
structure oo(ks:List bp):Prop where
 reach:∀t:Int,eK ks t->Reach (tK ks) t
 bO:∀(k:Nat) (x:bp),ks[k]?=some x->∀p,p∈x.ak->∀s,s∈p.from_->(k:Int)∈tK ks s
section
variable{ks:List bp}{fs:List aG}{nm:ByteArray}{pa va:Int}
theorem Yd(hc:vL ks){v c m:Int}(h:(v,c,m)∈bQ (fK ks)):eK ks c:=by
 obtain⟨k,z,hz,rfl,h⟩:=fL.1 h;obtain⟨x,hx,rfl⟩:=u9 hz;cases hg:x.gone with
 |false=>exact .mk' hx hg
 |true=>
  obtain⟨h1,h2,_⟩:=hc.gone x (aI hx) hg;rcases h with⟨_,p,hp,_⟩|⟨j,i,hi,_⟩
  ·have:p∈x.ak.map _:=hp;rw[h1]at this;cases this
  ·have:x.insts[j]?=some i:=hi;rw[h2]at this;cases this
theorem Ye(hc:vL ks)(ht:BF ks fs)(ho:gD pa va (bQ (fK ks))){v b q:Int}(hb:eK ks b)(h:Tx pa va ks v b q):Av pa va fs v (na ks b) q:=by
 obtain⟨h1,h2,h3⟩:=(pw ho.2).1 h;refine(pw (Re ht ho).2).2 ⟨h1,h2,?_⟩;rcases h3 with h3|⟨c,k,hd,h3⟩
 ·exact .inl h3
 have hl:=Yd hc hd;refine .inr ⟨na ks c,k,(Rc ht).2 ⟨c,hl,rfl,hd⟩,?_⟩;rcases h3 with⟨e,h4⟩|⟨eC,h4⟩
 ·exact .inl ⟨by rw[e],h4⟩
 ·exact .inr ⟨λe=>eC (pJ hl hb e),(Qkp hc ht hl hb).2 h4⟩
theorem Rf(hc:vL ks)(ht:BF ks fs){k:Nat}{x:bp}(hx:ks[k]?=some x)(hg:x.gone=false){fl:ah}(yO:fl.Nodup)(cY:∀s:Int,(k:Int)∈tK ks s↔s∈fl){il:List Nat}(hs:lx (ae fl) (sj (mC (ew ks)) fl) il):bO (au fs) (na ks (k:Int))=il.map (sj (mC (ew ks)) fl):=by
 obtain⟨hp,hw⟩:=hs;have nt:∀i,i∈il↔i<ae fl:=λi=>by rw[hp.mem_iff,dp]
 have Cw:∀i,i<ae fl->fl[i]?=some (fl.getD i 0):=λi hi=>by rw[et,dF hi];rfl
 have Yf:∀i,i<ae fl->eK ks (fl.getD i 0):=λi hi=>hc.src ((cY _).2 (aI (Cw i hi)))
 have Qnq:il.Nodup:=hp.nodup_iff.2 xU;refine O0 (CE _ _) ?_ λs=> ?_
 ·rw[uR];have h3:il.Pairwise (λi j=>sj (mC (ew ks)) fl i<=sj (mC (ew ks)) fl j/\i≠j):=hw.and Qnq;refine h3.imp_of_mem λ{a b} ha hb h=> ?_
  obtain⟨h4,h5⟩:=h;have pS:=(nt a).1 ha;have HR:=(nt b).1 hb;have eC:sj (mC (ew ks)) fl a≠sj (mC (ew ks)) fl b:=by intro e;have e1:fl.getD a 0=fl.getD b 0:=pJ (Yf a pS) (Yf b HR) e;have h6:=Cw a pS;rw[e1,<-Cw b HR]at h6;exact h5 ((CK pS yO).1 h6)
  omega
 ·rw[pt,aO,bM];constructor
  ·rintro⟨⟨h1,h2⟩,h3⟩;obtain⟨y,hy⟩:=aP (l:=fs) (i:=s.toNat) oM;obtain⟨i,z,hz,Rg,Fz,_⟩:=qD ht hy;have Vw:eK ks (i:Int):= .mk' hz Rg;have e:s=na ks (i:Int):=by rw[s8 hz Rg,Fz];omega
   rw[e,LK hc ht Vw]at h3;obtain⟨t,Yg,Ff⟩:=aO.1 h3;have:t=(k:Int):=pJ (hc.X5 _ _ Yg) (.mk' hx hg) Ff;subst this;obtain⟨m,hm⟩:=bq.1 ((cY _).1 Yg);have C7:=(aW.1 hm).1;refine⟨m,(nt m).2 C7,?_⟩;rw[Cw m C7]at hm;injection hm with hm;rw[e,<-hm];rfl
  ·rintro⟨m,hm,rfl⟩;have C7:=(nt m).1 hm;have hl:=Yf m C7;show(0<=na ks (fl.getD m 0)/\_)/\_∈tg _ (na ks (fl.getD m 0));refine⟨pK ht hl,?_⟩;rw[LK hc ht hl];exact aO.2 ⟨_,(cY _).2 (aI (Cw m C7)),rfl⟩
theorem QcS(h:j4 nm pa va ks)(ud:oo ks)(ht:BF ks fs):eU nm pa va fs:=by
 have hc:=h.zx;have hz:=yk hc.zero;have h0:∃x,ks[0]?=some x/\x.gone=false:=by obtain⟨i,x,e,hx,hg⟩:=hc.zero;have:i=0:=oM;subst this;exact⟨x,hx,hg⟩
 obtain⟨x0,AL,hg0⟩:=h0;have hc0:ly (ew ks) 0=0:=by simp[ly]
 obtain⟨y0,hy0,xP⟩:=G5 ht AL hg0;rw[hc0]at hy0;have II:=(aW.1 hy0).1;refine⟨h.name,h.par,II,λy hy=> ?_,?_,?_,λy hy=> ?_,⟨λy hy i hi=> ?_,Re ht h.once⟩,λk hk=> ?_⟩
 ·rw[hy0]at hy;injection hy with hy;subst hy;rw[<-xP.ak.1,h.QcR x0 AL];rfl
 ·have:bO (au fs) 0=[]:=eq_nil_iff_forall_not_mem.2 λs hs=>by
   obtain⟨⟨h1,h2⟩,h3⟩:=pt.1 hs;rw[bM]at h2;obtain⟨y,hy⟩:=aP (l:=fs) (i:=s.toNat) oM;obtain⟨i,z,zG,Rg,Fz,_⟩:=qD ht hy;have e:s=na ks (i:Int):=by rw[s8 zG Rg,Fz];omega
   rw[e,LK hc ht (.mk' zG Rg)]at h3;obtain⟨t,Yg,Ff⟩:=aO.1 h3;have:t=0:=pJ (hc.X5 _ _ Yg) hc.zero (Ff.trans hz.symm);subst this;exact h.Qhh _ Yg
  rw[this];rfl
 ·have h2:=nY (bs:=au fs);rw[bM]at h2;refine h2.2 λi hi=>kU.2 ?_
  obtain⟨y,hy⟩:=aP (l:=fs) hi;obtain⟨j,z,zG,Rg,Fz,_⟩:=qD ht hy;have h3:=(LL hc.zero (λi hi=>LK hc ht hi) hc.X5 (ud.reach _ (.mk' zG Rg))).1;rwa [s8 zG Rg,Fz]at h3
 ·obtain⟨j,hj⟩:=bq.1 hy;obtain⟨i,x,hx,hg,Fz,hb⟩:=qD ht hj;have hL:∀t,t∈me x->eK ks t:=λt h=>hc.X5 (i:Int) t (by rw[hc.at_ hx];exact h)
  unfold jm;rw[hb.e,hb.a,hb.b,hb.v];unfold me at hL;unfold toA toBb;rcases hc.ends x (aI hx) hg with⟨e,_,h3,h4⟩|⟨e,_,_,h5⟩|⟨e,h1,h2⟩|⟨e,h1,h2,h3⟩
  ·rw[ax e]at hL;rw[ax (.inl e),ao oM];exact .inl ⟨e,pK ht (hL x.a sI),h3,rfl⟩
  ·rw[ao oM,ax e]at hL;rw[ax (.inr e),ax e];exact .inr (.inl ⟨e,pK ht (hL x.a sI),pK ht (hL x.b sI),λe2=>h5 (pJ (hL x.a sI) (hL x.b sI) e2)⟩)
  ·rw[ao oM,ao oM,ao oM];exact .inr (.inr (.inl ⟨e,rfl,rfl⟩))
  ·rw[ao oM,ax e,ao oM];exact .inr (.inr (.inr ⟨e,h1,h2,rfl⟩))
 ·obtain⟨j,hj⟩:=bq.1 hy;obtain⟨k,x,hx,hg,Fz,hb⟩:=qD ht hj;have:i.e0∈x.insts:=by rw[<-hb.insts];exact aO.2 ⟨i,hi,rfl⟩
  have h9:cA i.e0:=h.shp x (aI hx) _ this;exact h9
 ·obtain⟨y,hy⟩:=aP (l:=fs) hk;obtain⟨i,x,hx,hg,Fz,hb⟩:=qD ht hy;have Vw:eK ks (i:Int):= .mk' hx hg;have hr:=ud.reach _ Vw;have e:(k:Int)=na ks (i:Int):=by rw[s8 hx hg,Fz]
  refine⟨y,hy,⟨λj q hq=> ?_,λj a ha m v hv=> ?_,λhf=> ?_⟩⟩
  ·obtain⟨p,hp⟩:=aP (l:=x.ak) (i:=j) (by rw[hb.ak.1];exact(aW.1 hq).1);have j8:=aI hp;have hP:=h.JZ i x hx p j8;obtain⟨_,il,hs,Da⟩:=hb.ak.2 j p q hp hq;have QB:=Rf hc ht hx hg hP.nd (λs=>⟨hP.all s,ud.bO i x hx p j8 s⟩) hs;rw[e,QB,Da,bl,bl];refine⟨rfl,λm a s h1 h2=> ?_⟩;rw[aL,jJ]at h1 h2;obtain⟨t,Yg,rfl⟩:=h1;obtain⟨t',Ff,rfl⟩:=h2;rw[Yg]at Ff;injection Ff with Ff;subst Ff;have htl:t<ae p.from_:=by have h3:=(hs.1.mem_iff).1 (aI Yg);exact dp.1 h3
   have h3:p.from_[t]?=some (p.from_.getD t 0):=by rw[et,dF htl];rfl
   have h4:p.args[t]?=some (p.args.getD t 0):=by rw[et,dF (by rw[hP.len];exact htl)];rfl
   have h5:=ud.bO i x hx p j8 _ (aI h3);have h6:=hc.src h5;exact Ye hc ht h.once h6 (hP.av t _ _ h3 h4 (ud.reach _ h6) h5)
  ·have h1:=Ya hb ha;rw[e];exact Ye hc ht h.once Vw (h.ins i x hx hr j _ h1 v (aI hv))
  ·rw[e,hb.v];refine Ye hc ht h.once Vw (h.fin i x hx hr ?_);unfold tP at hf;rwa [hb.e,hb.v]at hf
theorem Yh(h:j4 nm pa va ks)(ud:oo ks)(ht:BF ks fs)(kr:va<=20000)(iX:(de (fK ks):Int)<=20000):cS nm pa va fs=0:=by
 have h1:=QcQ ht;exact(Cz oM (QcS h ud ht)).symm
end
section
variable{fs gs:List aG}{nm:ByteArray}{pa va:Int}{k:Nat}
theorem Ja(fs:List aG):fK (gM fs)=fs.map aG.e0:=by
 refine fM λi=> ?_
 rw[aL,aL];by_cases hi:i<ae fs
 ·obtain⟨x,hx⟩:=aP (l:=fs) hi;rw[mq hx,hx];show some (bp.f (x8 fs i x))=some x.e0;unfold x8 bp.f aG.e0 qw;simp only[dz];rfl
 ·rw[db (by rw[jh];omega),db oM];rfl
theorem Eh(fs:List aG):fY fs (fs.map aG.e0):=by
 unfold fY;rw[dz];refine nL λx _=> ?_
 show x.e0=x.e0.e0;unfold aG.e0;simp only[dz];rfl
theorem vc{ks:List bp}(he:ks=gM fs){x:bp}(hx:ks[k]?=some x):∃y,fs[k]?=some y/\x=x8 fs k y:=by
 subst he;obtain⟨y,hy⟩:=aP (l:=fs) (i:=k) (by have:=(aW.1 hx).1;rwa [jh]at this);rw[mq hy]at hx;injection hx with hx;exact⟨y,hy,hx.symm⟩
theorem zH(h:eU nm pa va fs):j4 nm pa va (gM fs)/\oo (gM fs):=by
 obtain⟨gs,Jb⟩:∃gs,gs=fs.map aG.e0:=⟨_,rfl⟩;have XI:fY fs gs:=Jb▸Eh fs;have hG:eU nm pa va gs:=se XI h;have hF:fK (gM fs)=gs:=(Ja fs).trans Jb.symm;have hK:gM gs=gM fs:=AB XI.symm;have hlen:ae gs=ae fs:=by rw[Jb,bl]
 obtain⟨ks,QP⟩:∃ks,ks=gM fs:=⟨_,rfl⟩;rw[<-QP]at hF hK⊢;have BG:ae ks=ae gs:=by rw[QP,jh,hlen]
 have at_:∀{k:Nat} {x:bp},ks[k]?=some x->∃y,gs[k]?=some y/\x=x8 gs k y/\y=x.f:=by intro k x hx;obtain⟨y,hy,e⟩:=vc hK.symm hx;have h1:=uk hx;rw[hF,hy]at h1;injection h1 with h1;exact⟨y,hy,e,h1⟩
 have hT:tK ks=tg (au gs):=by show tg (au (fK ks))=_;rw[hF]
 have hng:∀x,x∈ks->x.gone=false:=λx hx=>by obtain⟨k,hk⟩:=bq.1 hx;obtain⟨y,_,e,_⟩:=at_ hk;rw[e];rfl
 have hz:∃x0,ks[0]?=some x0:=aP (by have:=hG.pos;omega);obtain⟨x0,AL⟩:=hz;have FA:∀{v b q:Int},Tx pa va ks v b q=Av pa va gs v b q:=λ{v b q}=>by unfold Tx Av;rw[hT,hF]
 have DY:∀{k:Nat} {x:bp} {y:aG},ks[k]?=some x->gs[k]?=some y->zp (Dm (tg (au gs))) (λ_=>20000) tP pa va gs k y:=by intro k x y hx hy;obtain⟨z,hz,hr⟩:=hG.reads k (aW.1 hy).1;rw[hy]at hz;injection hz with hz;subst hz;exact hr
 have hiv:∀{k:Nat} {x:bp},ks[k]?=some x->∀(j:Nat) (i:aQ),x.insts[j]?=some i->∀a,a∈i.args->Tx pa va ks a (k:Int) (j:Int):=by intro k x hx j i hi a ha;obtain⟨y,hy,_,e⟩:=at_ hx;rw[FA];obtain⟨m,hm⟩:=bq.1 ha;exact(DY hx hy).insts j i (by rw[e];exact hi) m a hm
 have hfv:∀{k:Nat} {x:bp},ks[k]?=some x->(x.e=1\/(x.e=2/\x.v≠-1))->Tx pa va ks x.v (k:Int) 20000:=by intro k x hx hf;obtain⟨y,hy,_,e⟩:=at_ hx;rw[FA];have:=(DY hx hy).fin (by rw[e];exact hf);rwa [e]at this
 have QB:∀(k:Nat) (s:Int),(k:Int)∈tK ks s↔s∈bO (au gs) (k:Int):=by
  intro k s;rw[pt,hT];constructor
  ·intro h1;rw[<-hT]at h1;obtain⟨i,x,rfl,hx⟩:=Eg h1;have:=(aW.1 hx).1;rw[hT]at h1;exact⟨⟨oM,by rw[bM];omega⟩,h1⟩
  ·exact λh1=>h1.2
 refine⟨⟨⟨?_,?_,?_,?_⟩,hG.name,hG.par,?_,?_,?_,?_,?_,?_,?_,?_,?_⟩,⟨?_,?_⟩⟩
 ·exact⟨0,x0,rfl,AL,hng x0 (aI AL)⟩
 ·intro x hx _;obtain⟨k,hk⟩:=bq.1 hx;obtain⟨y,hy,_,e⟩:=at_ hk;have:=hG.ends y (aI hy);rw[e,<-BG]at this;exact this
 ·intro x hx hg;rw[hng x hx]at hg;cases hg
 ·intro s t ht;rw[hT]at ht;have h1:=r4 ht;rw[bM]at h1;obtain⟨x,hx⟩:=aP (l:=ks) (i:=t.toNat) oM;exact⟨t.toNat,x,oM,hx,hng x (aI hx)⟩
 ·intro x hx;obtain⟨y,hy,_,e⟩:=at_ hx;have:=hG.ak y hy;rw[e]at this;have h2:ae (x.ak.map (λp=>(⟨p.dst,none,0,p.args⟩:cV)))=0:=this;rw[bl]at h2;exact sC.1 h2
 ·intro s hs;have h1:s∈bO (au gs) 0:=(QB 0 s).1 hs;have h2:=hG.src;rw[sC.1 h2]at h1;cases h1
 ·intro x hx i hi;obtain⟨k,hk⟩:=bq.1 hx;obtain⟨y,hy,_,e⟩:=at_ hk;exact hG.bN.1 y (aI hy) i (by rw[e];exact hi)
 ·rw[hF];exact hG.bN.2
 ·intro x hx i hi a ha;obtain⟨k,hk⟩:=bq.1 hx;obtain⟨j,hj⟩:=bq.1 hi;have:=hiv hk j i hj a ha;exact⟨this.1,this.2.1⟩
 ·intro x hx hf;obtain⟨k,hk⟩:=bq.1 hx;have:=hfv hk hf;exact⟨this.1,this.2.1⟩
 ·intro k x hx _ j i hi a ha;exact hiv hx j i hi a ha
 ·intro k x hx _ hf;exact hfv hx hf
 ·intro k x hx p hp;obtain⟨y,hy,e1,e⟩:=at_ hx;have hr:=DY hx hy;rw[e1]at hp;obtain⟨q,hq,rfl⟩:=aO.1 (show p∈y.ak.map (qw (bO (au gs) (k:Int)))from hp);obtain⟨j,hj⟩:=bq.1 hq;obtain⟨h1,h2⟩:=hr.ak j q hj;have Ol:=CE (au gs) (k:Int);refine⟨h1,Ol.imp (λh=>oM),λs hs=> ?_,λs hs=>(QB k s).1 hs,λa ha=> ?_,λi s a hs ha _ _=> ?_⟩
  ·have:=(pt.1 (show s∈bO (au gs) (k:Int)from hs)).1;rw[bM]at this;omega
  ·obtain⟨i,hi⟩:=bq.1 (show a∈q.args from ha);obtain⟨s,hs⟩:=aP (l:=bO (au gs) (k:Int)) (i:=i) (by rw[<-h1];exact(aW.1 hi).1);have:=h2 i a s hi hs;exact⟨this.1,this.2.1⟩
  ·rw[FA];exact h2 i a s ha hs
 ·rintro t ⟨i,x,rfl,hx,_⟩;rw[hT];have:=(aW.1 hx).1;exact OB hG oM oM
 ·intro k x hx p hp s hs;obtain⟨y,hy,e1,e⟩:=at_ hx;rw[e1]at hp;obtain⟨q,hq,rfl⟩:=aO.1 (show p∈y.ak.map (qw (bO (au gs) (k:Int)))from hp);exact(QB k s).2 hs
end
def shI(i:aQ):Bool×Int:=(decide (aJ i.op),i.dst)
def shB(x:aG):ah×List (Bool×Int):=(x.ak.map (λp=>p.dst),x.insts.map shI)
theorem O1{b:Int}{l m:List cV}(h:l.map (λp=>p.dst)=m.map (λp=>p.dst)):dJ b l=dJ b m:=by
 unfold dJ;have e:(λp:cV=>(p.dst,b,(-1:Int)))=(λd:Int=>(d,b,(-1:Int)))∘(λp:cV=>p.dst):=rfl;rw[e,<-dz,<-dz,h]
theorem AM(b:Int)(l:List aQ):eh b l=((l.map shI).zipIdx.filter (λx=>x.1.1)).map (λx=>(x.1.2,b,(x.2:Int))):=by
 unfold eh;rw[zipIdx_map,uU,dz];rfl
theorem O2{b:Int}{l m:List aQ}(h:l.map shI=m.map shI):eh b l=eh b m:=by rw[AM,AM,h]
theorem QcT{fs gs:List aG}(h:fs.map shB=gs.map shB):bQ fs=bQ gs:=by
 have hl:ae fs=ae gs:=by simpa using aK List.length h
 unfold bQ ff;rw[cL (cH _),cL (cH _),CJ,CJ];congr 1;refine fM λi=> ?_
 rw[aL,aL,l6,l6];have h1:=aK (λl:List (ah×List (Bool×Int))=>l[i]?) h;simp only[aL]at h1;cases hx:fs[i]? with
 |none=>rw[hx]at h1;cases hy:gs[i]? with
  |none=>rfl
  |some y=>rw[hy]at h1;cases h1
 |some x=>rw[hx]at h1;cases hy:gs[i]? with
  |none=>rw[hy]at h1;cases h1
  |some y=>
   rw[hy]at h1;injection h1 with h1;have e1:x.ak.map (λp=>p.dst)=y.ak.map (λp=>p.dst):=aK Prod.fst h1;have e2:x.insts.map shI=y.insts.map shI:=aK Prod.snd h1;simp only[ft];unfold gO;rw[O1 e1,O2 e2]
theorem gH.map_eq{α β γ:Type}{R:α->β->Prop}{f:α->γ}{g:β->γ}{l:List α}{m:List β}(h:gH R l m)(hf:∀a b,a∈l->b∈m->R a b->f a=g b):l.map f=m.map g:=by
 refine fM λi=> ?_
 rw[aL,aL];by_cases hi:i<ae l
 ·obtain⟨a,ha⟩:=aP (l:=l) hi;obtain⟨b,hb⟩:=aP (l:=m) (i:=i) (by rw[<-h.1];exact hi);rw[ha,hb];exact aK some (hf a b (aI ha) (aI hb) (h.2 i a b ha hb))
 ·rw[db oM,db (by rw[<-h.1];omega)];rfl
theorem gH.fwd{α β:Type}{R:α->β->Prop}{l:List α}{m:List β}(h:gH R l m){i:Nat}{a:α}(ha:l[i]?=some a):∃b,m[i]?=some b/\R a b:=by
 obtain⟨b,hb⟩:=aP (l:=m) (i:=i) (by rw[<-h.1];exact(aW.1 ha).1);exact⟨b,hb,h.2 i a b ha hb⟩
theorem gH.bwd{α β:Type}{R:α->β->Prop}{l:List α}{m:List β}(h:gH R l m){i:Nat}{b:β}(hb:m[i]?=some b):∃a,l[i]?=some a/\R a b:=by
 obtain⟨a,ha⟩:=aP (l:=l) (i:=i) (by rw[h.1];exact(aW.1 hb).1);exact⟨a,ha,h.2 i a b ha hb⟩
def Yi(i i':aQ):Prop:=i'=i\/(i'.op=1/\i'.name.size=0/\i'.args=[]/\i'.dst=i.dst/\aJ i.op)
structure qE(x y:bp):Prop where
 gone:y.gone=x.gone
 ak:y.ak=x.ak
 insts:gH Yi x.insts y.insts
 ends:(y.e=x.e/\y.v=x.v/\y.a=x.a/\y.b=x.b)\/(x.e=1/\y.e=0/\y.v=0/\y.b=0/\(y.a=x.a\/y.a=x.b))
section
variable{ks ms:List bp}{nm:ByteArray}{pa va:Int}
theorem O3{D E:Int->Int->Prop}{ds:xn}{v b q:Int}(h:dw D pa va ds v b q)(hm:∀a,D a b->E a b):dw E pa va ds v b q:=⟨h.1,h.2.1,h.2.2.imp id fun⟨p,hp,h3⟩=>⟨p,hp,h3.imp id fun⟨h4,h5⟩=>⟨h4,hm _ h5⟩⟩⟩
theorem Rh{T U:Int->ah}(h:∀x t,t∈U x->t∈T x){a b:Int}(hd:Dm T a b):Dm U a b:=fun⟨h1,h2⟩=>hd ⟨h1,DT (λx t ht=>by
  obtain⟨q1,q2⟩:=jq.1 ht;exact jq.2 ⟨h x t q1,q2⟩) h2⟩
theorem qE.tg{x y:bp}(h:qE x y){t:Int}(ht:t∈me y):t∈me x:=by
 unfold me at ht⊢;rcases h.ends with⟨e1,_,e3,e4⟩|⟨e1,e2,_,_,e4⟩
 ·rwa [e1,e3,e4]at ht
 ·rw[ax e2]at ht;rw[ao oM,ax e1];rw[cF]at ht;rcases e4 with e4|e4<;>simp[ht,e4]
theorem qE.rn{N:Int}{x y:bp}(h:qE x y)(he:rn N x):rn N y:=by
 unfold Go.Mor.rn at he⊢;rcases h.ends with⟨e1,e2,e3,e4⟩|⟨e1,e2,e3,e4,e5⟩
 ·rwa [e1,e2,e3,e4]
 ·left;rcases he with he|⟨_,h2,h3,_⟩|he|he
  ·omega
  ·refine⟨e2,?_,e3,e4⟩;rcases e5 with e5|e5<;>rw[e5]<;>assumption
  ·omega
  ·omega
theorem G7(hl:gH qE ks ms){t:Int}:eK ks t->eK ms t:=by
 rintro⟨i,x,rfl,hx,hg⟩;obtain⟨y,hy,hb⟩:=hl.fwd hx;exact .mk' hy (by rw[hb.gone,hg])
theorem Ri(hc:vL ks)(hl:gH qE ks ms){s t:Int}(h:t∈tK ms s):t∈tK ks s:=by
 obtain⟨i,y,rfl,hy⟩:=Eg h;obtain⟨x,hx,hb⟩:=hl.bwd hy;rw[hc.at_ hx];refine hb.tg ?_;rw[AK hy]at h;cases hg:x.gone with
 |true=>
  obtain⟨_,_,h3,_⟩:=hc.gone x (aI hx) hg;rcases hb.ends with⟨e,_⟩|⟨e,_⟩
  ·rw[yn (by rw[e,h3])]at h;cases h
  ·omega
 |false=>
  have:=hb.rn (hc.ends x (aI hx) hg);rw[hl.1]at this;rwa [LJ this]at h
theorem Yj(hc:vL ks)(hl:gH qE ks ms):vL ms:=by
 refine⟨G7 hl hc.zero,λy hy hg=> ?_,λy hy hg=> ?_,λs t ht=>G7 hl (hc.X5 s t (Ri hc hl ht))⟩
 ·obtain⟨i,hi⟩:=bq.1 hy;obtain⟨x,hx,hb⟩:=hl.bwd hi;rw[<-hl.1];exact hb.rn (hc.ends x (aI hx) (by rw[<-hb.gone,hg]))
 ·obtain⟨i,hi⟩:=bq.1 hy;obtain⟨x,hx,hb⟩:=hl.bwd hi;obtain⟨h1,h2,h3,h4⟩:=hc.gone x (aI hx) (by rw[<-hb.gone,hg]);have qY:=hb.insts.1;rw[h2]at qY;refine⟨by rw[hb.ak,h1],sC.1 qY.symm,?_⟩;rcases hb.ends with⟨e1,e2,_⟩|⟨e,_⟩
  ·exact⟨by rw[e1,h3],by rw[e2,h4]⟩
  ·omega
theorem QcU(hl:gH qE ks ms):(fK ks).map shB=(fK ms).map shB:=by
 rw[dz,dz];refine hl.map_eq λx y _ _ hb=> ?_
 show(((x.ak.map _).map _:ah),x.insts.map shI)=(((y.ak.map _).map _:ah),y.insts.map shI);rw[hb.ak];congr 1;refine hb.insts.map_eq λa b _ _ h=> ?_
 rcases h with e|⟨e1,_,_,e4,e5⟩
 ·rw[e]
 ·unfold shI;rw[e4,e1];congr 1;have:aJ 1:=by unfold aJ;omega
  simp[e5,this]
theorem zJ(h:j4 nm pa va ks)(hl:gH qE ks ms):j4 nm pa va ms:=by
 have hc:=h.zx;have hd:bQ (fK ms)=bQ (fK ks):=(QcT (QcU hl)).symm;have kE:∀x t:Int,t∈tK ms x->t∈tK ks x:=λx t ht=>Ri hc hl ht
 have hr:∀{t:Int},Reach (tK ms) t->Reach (tK ks) t:=λht=>DT kE ht
 have FA:∀{v b q:Int},Tx pa va ks v b q->Tx pa va ms v b q:=λ{v b q} ha=>by unfold Tx;rw[hd];exact O3 ha λa ha=>Rh kE ha
 have bk:∀{y:bp},y∈ms->∃(i:Nat) (x:bp),ks[i]?=some x/\x∈ks/\qE x y:=λ{y} hy=>by obtain⟨i,hi⟩:=bq.1 hy;obtain⟨x,hx,hb⟩:=hl.bwd hi;exact⟨i,x,hx,aI hx,hb⟩
 refine⟨Yj hc hl,h.name,h.par,λy hy=> ?_,λs hs=>h.Qhh s (kE _ _ hs),λy hy i hi=> ?_,by rw[hd];exact h.once,λy hy i hi a ha=> ?_,λy hy hf=> ?_,λk y hy hk j i hi a ha=> ?_,λk y hy hk hf=> ?_,λk y hy p hp=> ?_⟩
 ·obtain⟨x,hx,hb⟩:=hl.bwd hy;rw[hb.ak];exact h.QcR x hx
 ·obtain⟨_,x,_,sm,hb⟩:=bk hy;obtain⟨j,hj⟩:=bq.1 hi;obtain⟨i0,Ti,e⟩:=hb.insts.bwd hj;rcases e with e|⟨e1,e2,e3,_,_⟩
  ·rw[e];exact h.shp x sm i0 (aI Ti)
  ·unfold cA;refine⟨.inl (by rw[e1];unfold aJ;omega),.inl ⟨e1,e2,by rw[e3];rfl⟩⟩
 ·obtain⟨_,x,_,sm,hb⟩:=bk hy;obtain⟨j,hj⟩:=bq.1 hi;obtain⟨i0,Ti,e⟩:=hb.insts.bwd hj;rcases e with e|⟨_,_,e3,_⟩
  ·rw[e]at ha;exact h.iv x sm i0 (aI Ti) a ha
  ·rw[e3]at ha;cases ha
 ·obtain⟨_,x,_,sm,hb⟩:=bk hy;rcases hb.ends with⟨e1,e2,_⟩|⟨_,e2,_⟩
  ·rw[e1,e2]at hf;rw[e2];exact h.fv x sm hf
  ·omega
 ·obtain⟨x,hx,hb⟩:=hl.bwd hy;obtain⟨i0,Ti,e⟩:=hb.insts.bwd hi;rcases e with e|⟨_,_,e3,_⟩
  ·rw[e]at ha;exact FA (h.ins k x hx (hr hk) j i0 Ti a ha)
  ·rw[e3]at ha;cases ha
 ·obtain⟨x,hx,hb⟩:=hl.bwd hy;rcases hb.ends with⟨e1,e2,_⟩|⟨_,e2,_⟩
  ·rw[e1,e2]at hf;rw[e2];exact FA (h.fin k x hx (hr hk) hf)
  ·omega
 ·obtain⟨x,hx,hb⟩:=hl.bwd hy;rw[hb.ak]at hp;have hP:=h.JZ k x hx p hp;exact⟨hP.len,hP.nd,by rw[<-hl.1];exact hP.xo,λs hs=>hP.all s (kE _ _ hs),hP.bN,λi s a hs ha hrs QP=>FA (hP.av i s a hs ha (hr hrs) (kE _ _ QP))⟩
end
def ru(ks:List bp)(k:Int):ah:=((List.range (ae ks)).filter (λs=>match ks[s]? with
 |some x=> !x.gone&&(me x).contains k
 |none=>false)).map (λs:Nat=>(s:Int))
def G8(S:ah)(p:da):da:=⟨p.dst,((p.from_.zip p.args).filter (λq=>S.contains q.1)).map (·.1),((p.from_.zip p.args).filter (λq=>S.contains q.1)).map (·.2)⟩
def Qhi(x:bp):bp:={x with gone:=true,ak:=[],insts:=[],e:=2,v:= -1}
noncomputable def jD(ks:List bp)(k:Nat)(x:bp):bp:=open Classical in if¬Reach (tK ks) (k:Int)/\x.gone=false then Qhi x else x
noncomputable def gv(ks:List bp):List bp:=ks.zipIdx.map (λp=>jD ks p.2 p.1)
def vM(S:ah)(x:bp):bp:={x with ak:=x.ak.map (G8 S)}
noncomputable def dW(ks:List bp):List bp:=(gv ks).zipIdx.map (λp=>vM (ru (gv ks) (p.2:Int)) p.1)
noncomputable def kH(ks:List bp):Bool:=open Classical in decide (∃(k:Nat) (x:bp),ks[k]?=some x/\x.gone=false/\¬Reach (tK ks) (k:Int))
section
variable{ks ms:List bp}{k:Nat}{x y:bp}{nm:ByteArray}{pa va:Int}
theorem pL(hx:ks[k]?=some x):(gv ks)[k]?=some (jD ks k x):=by
 unfold gv;rw[aL,l6,hx];simp
theorem pM(ks:List bp):ae (gv ks)=ae ks:=by simp[gv]
theorem kj(hx:ks[k]?=some x):(dW ks)[k]?=some (vM (ru (gv ks) (k:Int)) (jD ks k x)):=by
 unfold dW;rw[aL,l6,pL hx];simp
theorem gK(ks:List bp):ae (dW ks)=ae ks:=by simp[dW,gv]
theorem Yk{s t:Int}:s∈ru ks t↔∃(i:Nat) (x:bp),s=(i:Int)/\ks[i]?=some x/\x.gone=false/\t∈me x:=by
 unfold ru;rw[aO];constructor
 ·rintro⟨i,hi,rfl⟩;obtain⟨h1,h2⟩:=dY.1 hi;obtain⟨x,hx⟩:=aP (l:=ks) (i:=i) (dp.1 h1);rw[hx]at h2;simp only[bu,oi,zc,aU]at h2;exact⟨i,x,rfl,hx,h2.1,h2.2⟩
 ·rintro⟨i,x,rfl,hx,hg,ht⟩;refine⟨i,dY.2 ⟨dp.2 (aW.1 hx).1,?_⟩,rfl⟩;rw[hx];simp[hg,ht]
theorem sD(hc:vL ks){t:Int}(h:Reach (tK ks) t):eK ks t:=by
 cases h with
 |zero=>exact hc.zero
 |step _ ht=>exact hc.X5 _ _ ht
theorem QcV{ks:List bp}{k:Nat}{x:bp}(hx:ks[k]?=some x)(h:eK ks (k:Int)):x.gone=false:=by
 obtain⟨i,y,e,hy,hg⟩:=h;have:i=k:=oM;subst this;rw[hx]at hy;injection hy with hy;rwa [hy]
theorem lF(hc:vL ks)(hx:ks[k]?=some x)(hr:Reach (tK ks) (k:Int)):(dW ks)[k]?=some (vM (ru (gv ks) (k:Int)) x)/\x.gone=false:=by
 refine⟨?_,QcV hx (sD hc hr)⟩;rw[kj hx];unfold jD;rw[ao (λh=>h.1 hr)]
theorem rv(hc:vL ks)(hx:ks[k]?=some x)(hr:¬Reach (tK ks) (k:Int)):∃y,(dW ks)[k]?=some y/\y.gone=true/\y.ak=[]/\y.insts=[]/\y.e=2/\y.v= -1:=by
 refine⟨_,kj hx,?_⟩;unfold jD;cases hg:x.gone with
 |false=>
  rw[ax ⟨hr,rfl⟩];exact⟨rfl,rfl,rfl,rfl,rfl⟩
 |true=>
  obtain⟨h1,h2,h3,h4⟩:=hc.gone x (aI hx) hg;rw[ao (λh=>by have:=h.2;cases this)];exact⟨hg,by show x.ak.map _=[];rw[h1];rfl,h2,h3,h4⟩
theorem jE(hy:(dW ks)[k]?=some y):∃x,ks[k]?=some x:=aP (by rw[<-gK ks];exact(aW.1 hy).1)
theorem wU(hc:vL ks)(hy:(dW ks)[k]?=some y)(hg:y.gone=false):∃x,ks[k]?=some x/\x.gone=false/\Reach (tK ks) (k:Int)/\y=vM (ru (gv ks) (k:Int)) x:=by
 obtain⟨x,hx⟩:=jE hy;by_cases hr:Reach (tK ks) (k:Int)
 ·obtain⟨h1,h2⟩:=lF hc hx hr;rw[hy]at h1;injection h1 with h1;exact⟨x,hx,h2,hr,h1⟩
 ·obtain⟨z,hz,h1,_⟩:=rv hc hx hr;rw[hy]at hz;injection hz with hz;rw[<-hz,hg]at h1;cases h1
theorem ry(hc:vL ks){s t:Int}:t∈tK (dW ks) s↔Reach (tK ks) s/\t∈tK ks s:=by
 constructor
 ·intro h;obtain⟨i,y,rfl,hy⟩:=Eg h;obtain⟨x,hx⟩:=jE hy;by_cases hr:Reach (tK ks) (i:Int)
  ·refine⟨hr,?_⟩;obtain⟨h1,h2⟩:=lF hc hx hr;rw[hy]at h1;injection h1 with h1;rw[AK hy,h1,gK]at h;rw[AK hx];exact h
  ·obtain⟨z,hz,_,_,_,h1,_⟩:=rv hc hx hr;rw[hy]at hz;injection hz with hz;subst hz;rw[AK hy,yn h1]at h;cases h
 ·rintro⟨hr,h⟩;obtain⟨i,x,rfl,hx⟩:=Eg h;obtain⟨h1,h2⟩:=lF hc hx hr;rw[AK h1,gK];rw[AK hx]at h;exact h
theorem um(hc:vL ks){t:Int}:Reach (tK (dW ks)) t↔Reach (tK ks) t:=by
 constructor
 ·exact λh=>DT (λx t ht=>((ry hc).1 ht).2) h
 ·intro h;induction h with
  |zero=>exact .zero
  |step h1 ht ih=>exact .step ih ((ry hc).2 ⟨h1,ht⟩)
theorem wV(hc:vL ks){t:Int}:eK (dW ks) t↔Reach (tK ks) t:=by
 constructor
 ·rintro⟨i,y,rfl,hy,hg⟩;obtain⟨_,_,_,hr,_⟩:=wU hc hy hg;exact hr
 ·intro h;obtain⟨i,x,rfl,hx,hg⟩:=sD hc h;exact .mk' (lF hc hx h).1 hg
theorem Ty(hc:vL ks):vL (dW ks):=by
 refine⟨(wV hc).2 .zero,λy hy hg=> ?_,λy hy hg=> ?_,λs t ht=> ?_⟩
 ·obtain⟨i,hi⟩:=bq.1 hy;obtain⟨x,hx,hgx,_,rfl⟩:=wU hc hi hg;rw[gK];exact hc.ends x (aI hx) hgx
 ·obtain⟨i,hi⟩:=bq.1 hy;obtain⟨x,hx⟩:=jE hi;by_cases hr:Reach (tK ks) (i:Int)
  ·obtain⟨h1,h2⟩:=lF hc hx hr;rw[hi]at h1;injection h1 with h1;rw[h1]at hg;rw[show(vM (ru (gv ks) (i:Int)) x).gone=x.gone from rfl,h2]at hg;cases hg
  ·obtain⟨z,hz,_,h1,h2,h3,h4⟩:=rv hc hx hr;rw[hi]at hz;injection hz with hz;subst hz;exact⟨h1,h2,h3,h4⟩
 ·obtain⟨h1,h2⟩:=(ry hc).1 ht;exact(wV hc).2 (.step h1 h2)
theorem wW(hc:vL ks){s:Int}:s∈ru (gv ks) (k:Int)↔Reach (tK ks) s/\(k:Int)∈tK ks s:=by
 rw[Yk];constructor
 ·rintro⟨i,y,rfl,hy,hg,ht⟩;obtain⟨x,hx⟩:=aP (l:=ks) (i:=i) (by rw[<-pM ks];exact(aW.1 hy).1);rw[pL hx]at hy;injection hy with hy;unfold jD at hy;split at hy
  ·rw[<-hy]at hg;cases hg
  ·rename_i hn;rw[hy]at hn;have hr:Reach (tK ks) (i:Int):=ym λh=>hn ⟨h,hg⟩
   refine⟨hr,?_⟩;rw[hc.at_ hx,hy];exact ht
 ·rintro⟨hr,ht⟩;obtain⟨i,x,rfl,hx,hg⟩:=sD hc hr;refine⟨i,x,rfl,?_,hg,by rwa [hc.at_ hx]at ht⟩;rw[pL hx];unfold jD;rw[ao (λh=>h.1 hr)]
theorem Ei(hc:vL ks){v c m:Int}:(v,c,m)∈bQ (fK (dW ks))↔Reach (tK ks) c/\(v,c,m)∈bQ (fK ks):=by
 rw[fL,fL];constructor
 ·rintro⟨i,z,hz,rfl,h⟩;obtain⟨y,hy,rfl⟩:=u9 hz;obtain⟨x,hx⟩:=jE hy;by_cases hr:Reach (tK ks) (i:Int)
  ·obtain⟨h1,h2⟩:=lF hc hx hr;rw[hy]at h1;injection h1 with h1;subst h1;refine⟨hr,i,x.f,uk hx,rfl,h.imp (fun⟨h3,p,hp,hd⟩=>⟨h3,?_⟩) id⟩;obtain⟨q,hq,rfl⟩:=aO.1 hp;obtain⟨r,hr,rfl⟩:=aO.1 hq;exact⟨_,aO.2 ⟨r,hr,rfl⟩,hd⟩
  ·obtain⟨w,hw,_,h1,h2,_⟩:=rv hc hx hr;rw[hy]at hw;injection hw with hw;subst hw;rcases h with⟨_,p,hp,_⟩|⟨j,a,ha,_⟩
   ·have:p∈y.ak.map _:=hp;rw[h1]at this;cases this
   ·have:y.insts[j]?=some a:=ha;rw[h2]at this;cases this
 ·rintro⟨hr,i,z,hz,rfl,h⟩;obtain⟨x,hx,rfl⟩:=u9 hz;obtain⟨h1,h2⟩:=lF hc hx hr;refine⟨i,_,uk h1,rfl,h.imp (fun⟨h3,p,hp,hd⟩=>⟨h3,?_⟩) id⟩;obtain⟨q,hq,rfl⟩:=aO.1 hp;exact⟨_,aO.2 ⟨G8 (ru (gv ks) (i:Int)) q,aO.2 ⟨q,hq,rfl⟩,rfl⟩,hd⟩
theorem Ej{α β γ:Type}{f:α->List γ}{g:β->List γ}:∀{l:List α} {m:List β},gH (λa b=>(g b).Sublist (f a)) l m->(m.flatMap g).Sublist (l.flatMap f)
 |[],[],_=> .slnil
 |[],b::m,h=>by have:=h.1;simp at this
 |a::l,[],h=>by have:=h.1;simp at this
 |a::l,b::m,h=>by rw[iE,iE];exact(h.2 0 a b rfl rfl).append (Ej ⟨by have:=h.1;simpa using this,λi x y hx hy=>h.2 (i+1) x y hx hy⟩)
theorem Ek(hc:vL ks)(h:gD pa va (bQ (fK ks))):gD pa va (bQ (fK (dW ks))):=by
 refine⟨λd hd=> ?_,?_⟩
 ·obtain⟨v,c,m⟩:=d;exact h.1 _ ((Ei hc).1 hd).2
 ·have h2:=h.2;rw[uV]at h2⊢;refine h2.sublist (Ej ⟨by rw[bl,bl,gK],λi a b ha hb=> ?_⟩);obtain⟨x,hx,rfl⟩:=u9 ha;obtain⟨y,hy,rfl⟩:=u9 hb;by_cases hr:Reach (tK ks) (i:Int)
  ·obtain⟨h1,_⟩:=lF hc hx hr;rw[hy]at h1;injection h1 with h1;subst h1;have:nZ (vM (ru (gv ks) (i:Int)) x).f=nZ x.f:=by unfold nZ;congr 1;show((x.ak.map _).map _).map _=(x.ak.map _).map _;rw[dz,dz,dz];rfl
   rw[this];exact List.Sublist.refl _
  ·obtain⟨w,hw,_,h1,h2,_⟩:=rv hc hx hr;rw[hy]at hw;injection hw with hw;subst hw;have:nZ y.f=[]:=by unfold nZ;show(y.ak.map _).map _++(y.insts.filter _).map _=[];rw[h1,h2];rfl
   rw[this];exact nil_sublist _
theorem yo{S:ah}{p:da}{i:Nat}{s a:Int}(hs:(G8 S p).from_[i]?=some s)(ha:(G8 S p).args[i]?=some a):s∈S/\∃j:Nat,p.from_[j]?=some s/\p.args[j]?=some a:=by
 unfold G8 at hs ha;simp only[aL,jJ]at hs ha;obtain⟨q,hq,rfl⟩:=hs;obtain⟨r,hr,rfl⟩:=ha;rw[hq]at hr;injection hr with hr;subst hr;obtain⟨h1,h2⟩:=dY.1 (aI hq);obtain⟨j,hj⟩:=bq.1 h1;rw[IU]at hj;exact⟨by simpa using h2,j,hj.1,hj.2⟩
theorem Tz{S:ah}{p:da}(hl:ae p.args=ae p.from_):(G8 S p).from_=p.from_.filter (λs=>S.contains s):=by
 unfold G8;show((p.from_.zip p.args).filter ((λs=>S.contains s)∘Prod.fst)).map Prod.fst=_;rw[<-uU,map_fst_zip oM]
theorem El(S:ah)(p:da):(G8 S p).args.length=(G8 S p).from_.length:=by
 unfold G8;rw[bl,bl]
theorem mf(h:j4 nm pa va ks):j4 nm pa va (dW ks)/\oo (dW ks):=by
 have hc:=h.zx;have kE:∀x t:Int,t∈tK (dW ks) x->t∈tK ks x:=λx t ht=>((ry hc).1 ht).2
 have FA:∀{v b q:Int},Reach (tK ks) b->Tx pa va ks v b q->Tx pa va (dW ks) v b q:=by
  intro v b q hr ha;obtain⟨h1,h2,h3⟩:=(pw h.once.2).1 ha;refine(pw (Ek hc h.once).2).2 ⟨h1,h2,h3.imp id fun⟨c,m,hd,h4⟩=>⟨c,m,?_,?_⟩⟩
  ·refine(Ei hc).2 ⟨?_,hd⟩;rcases h4 with⟨rfl,_⟩|⟨_,h5⟩
   ·exact hr
   ·exact Dm.reach hr h5
  ·exact h4.imp id fun⟨h5,h6⟩=>⟨h5,Rh kE h6⟩
 have yes:∀{k:Nat} {y:bp},(dW ks)[k]?=some y->Reach (tK ks) (k:Int)->∃x,ks[k]?=some x/\y=vM (ru (gv ks) (k:Int)) x:=by intro k y hy hr;obtain⟨x,hx⟩:=jE hy;obtain⟨h1,_⟩:=lF hc hx hr;rw[hy]at h1;injection h1 with h1;exact⟨x,hx,h1⟩
 have no:∀{k:Nat} {y:bp},(dW ks)[k]?=some y->¬Reach (tK ks) (k:Int)->y.ak=[]/\y.insts=[]/\y.e=2/\y.v= -1:=by intro k y hy hr;obtain⟨x,hx⟩:=jE hy;obtain⟨w,hw,_,h1,h2,h3,h4⟩:=rv hc hx hr;rw[hy]at hw;injection hw with hw;subst hw;exact⟨h1,h2,h3,h4⟩
 refine⟨⟨Ty hc,h.name,h.par,λy hy=> ?_,λs hs=>h.Qhh s (kE _ _ hs),λy hy i hi=> ?_,Ek hc h.once,λy hy i hi a ha=> ?_,λy hy hf=> ?_,λk y hy hk j i hi a ha=> ?_,λk y hy hk hf=> ?_,λk y hy p hp=> ?_⟩,⟨λt ht=>(um hc).2 ((wV hc).1 ht),λk y hy p hp s hs=> ?_⟩⟩
 ·obtain⟨x,hx,rfl⟩:=yes hy .zero;show x.ak.map _=[];rw[h.QcR x hx];rfl
 ·obtain⟨k,hk⟩:=bq.1 hy;by_cases hr:Reach (tK ks) (k:Int)
  ·obtain⟨x,hx,rfl⟩:=yes hk hr;exact h.shp x (aI hx) i hi
  ·rw[(no hk hr).2.1]at hi;cases hi
 ·obtain⟨k,hk⟩:=bq.1 hy;by_cases hr:Reach (tK ks) (k:Int)
  ·obtain⟨x,hx,rfl⟩:=yes hk hr;exact h.iv x (aI hx) i hi a ha
  ·rw[(no hk hr).2.1]at hi;cases hi
 ·obtain⟨k,hk⟩:=bq.1 hy;by_cases hr:Reach (tK ks) (k:Int)
  ·obtain⟨x,hx,rfl⟩:=yes hk hr;exact h.fv x (aI hx) hf
  ·have h1:=(no hk hr).2.2;rcases hf with hf|⟨_,hf⟩
   ·omega
   ·exact absurd h1.2 hf
 ·have hr:=(um hc).1 hk;obtain⟨x,hx,rfl⟩:=yes hy hr;exact FA hr (h.ins k x hx hr j i hi a ha)
 ·have hr:=(um hc).1 hk;obtain⟨x,hx,rfl⟩:=yes hy hr;exact FA hr (h.fin k x hx hr hf)
 ·by_cases hr:Reach (tK ks) (k:Int)
  ·obtain⟨x,hx,rfl⟩:=yes hy hr;obtain⟨q,hq,rfl⟩:=aO.1 (show p∈x.ak.map _ from hp);have hP:=h.JZ k x hx q hq;have hfr:=Tz (S:=ru (gv ks) (k:Int)) hP.len;refine⟨El _ _,by rw[hfr];exact hP.nd.sublist xL,λs hs=> ?_,λs hs=> ?_,λa ha=> ?_,λi s a hs ha hrs QP=> ?_⟩
   ·rw[hfr]at hs;rw[gK];exact hP.xo s (dY.1 hs).1
   ·rw[hfr];have h1:=(ry hc).1 hs;exact dY.2 ⟨hP.all s h1.2,by simpa using(wW hc).2 h1⟩
   ·obtain⟨i,hi⟩:=bq.1 ha;obtain⟨s,hs⟩:=aP (l:=(G8 (ru (gv ks) (k:Int)) q).from_) (i:=i) (by rw[<-El];exact(aW.1 hi).1);obtain⟨_,j,_,hj⟩:=yo hs hi;exact hP.bN a (aI hj)
   ·obtain⟨h1,j,hj,hja⟩:=yo hs ha;have h2:=(wW hc).1 h1;exact FA h2.1 (hP.av j s a hj hja h2.1 h2.2)
  ·rw[(no hy hr).1]at hp;cases hp
 ·by_cases hr:Reach (tK ks) (k:Int)
  ·obtain⟨x,hx,rfl⟩:=yes hy hr;obtain⟨q,hq,rfl⟩:=aO.1 (show p∈x.ak.map _ from hp);obtain⟨i,hi⟩:=bq.1 hs;obtain⟨a,ha⟩:=aP (l:=(G8 (ru (gv ks) (k:Int)) q).args) (i:=i) (by rw[El];exact(aW.1 hi).1);obtain⟨h1,_⟩:=yo hi ha;exact(ry hc).2 ((wW hc).1 h1)
  ·rw[(no hy hr).1]at hp;cases hp
end
abbrev KN:=List (Bool×Int)
def CL(kn:KN)(v:Int):Bool:=(kn.getD v.toNat (false,0)).1
def ji(kn:KN)(v:Int):Int:=(kn.getD v.toNat (false,0)).2
def lU(kn:KN)(l:ah):Bool:=l.all (CL kn)
def iR(kn:KN)(i:aQ):Int×Int:=if 40<=i.op then nD (i.op-40) (ji kn (i.args.getD 0 0))else cW (i.op-16) (ji kn (i.args.getD 0 0)) (ji kn (i.args.getD 1 0))
def iZ(kn:KN)(i:aQ):Prop:=16<i.op/\lU kn i.args=true/\(iR kn i).2=0
instance (kn : KN) (i : aQ) : Decidable (iZ kn i) := by unfold iZ; infer_instance
def oq(kn:KN)(i:aQ):aQ:=⟨1,i.dst,(iR kn i).1,⟨#[]⟩,none,0,[]⟩
abbrev StF:=List aQ×KN×Bool
def eF(s:StF)(i:aQ):StF:=if iZ s.2.1 i then(s.1++[oq s.2.1 i],s.2.1.set i.dst.toNat (true,(iR s.2.1 i).1),true)else(s.1++[i],s.2.1,s.2.2)
def gr(kn:KN)(t:Bool)(l:List aQ):StF:=l.foldl eF ([],kn,t)
def oN(kn:KN)(e v:Int):Prop:=e=1/\CL kn v=true
instance (kn : KN) (e v : Int) : Decidable (oN kn e v) := by unfold oN; infer_instance
def bK(kn:KN)(x:bp):bp:=if oN (gr kn false x.insts).2.1 x.e x.v then {x with insts:=(gr kn false x.insts).1,e:=0,v:=0,a:=(if ji (gr kn false x.insts).2.1 x.v=0 then x.b else x.a),b:=0}else {x with insts:=(gr kn false x.insts).1}
def bG(kn:KN)(x:aY):aY:=if oN (gr kn false x.insts).2.1 x.e x.v then {x with insts:=(gr kn false x.insts).1,e:=0,v:=0,a:=(if ji (gr kn false x.insts).2.1 x.v=0 then x.b else x.a),b:=0}else {x with insts:=(gr kn false x.insts).1}
abbrev StK:=List bp×KN×Bool
def ot(s:StK)(x:bp):StK:=(s.1++[bK s.2.1 x],(gr s.2.1 false x.insts).2.1,s.2.2||(gr s.2.1 false x.insts).2.2||decide (oN (gr s.2.1 false x.insts).2.1 x.e x.v))
def fk(ks:List bp)(kn:KN):StK:=ks.foldl ot ([],kn,false)
def ou(s:List aY×KN×Bool)(x:aY):List aY×KN×Bool:=(s.1++[bG s.2.1 x],(gr s.2.1 false x.insts).2.1,s.2.2||(gr s.2.1 false x.insts).2.2||decide (oN (gr s.2.1 false x.insts).2.1 x.e x.v))
def Em(gs:List aY)(kn:KN):List aY×KN×Bool:=gs.foldl ou ([],kn,false)
theorem o1{a:List aQ}{kn:KN}{t:Bool}{i:aQ}(h:iZ kn i):eF (a,kn,t) i=(a++[oq kn i],kn.set i.dst.toNat (true,(iR kn i).1),true):=by
 unfold eF;rw[ax (show iZ (a,kn,t).2.1 i from h)]
theorem rz{a:List aQ}{kn:KN}{t:Bool}{i:aQ}(h:¬iZ kn i):eF (a,kn,t) i=(a++[i],kn,t):=by
 unfold eF;rw[ao (show¬iZ (a,kn,t).2.1 i from h)]
theorem QcW(s:StF)(i:aQ):eF (s.1.map aQ.e0,s.2) i.e0=((eF s i).1.map aQ.e0,(eF s i).2):=by
 unfold eF;by_cases h:iZ s.2.1 i
 ·rw[ax (show iZ (s.1.map aQ.e0,s.2).2.1 i.e0 from h),ax h,bZ];rfl
 ·rw[ao (show¬iZ (s.1.map aQ.e0,s.2).2.1 i.e0 from h),ao h,bZ];rfl
theorem QcX(l:List aQ)(s:StF):(l.map aQ.e0).foldl eF (s.1.map aQ.e0,s.2)=((l.foldl eF s).1.map aQ.e0,(l.foldl eF s).2):=by
 induction l generalizing s with
 |nil=>rfl
 |cons i l ih=>rw[gu,lG,QcW,ih,lG]
theorem O4(kn:KN)(t:Bool)(l:List aQ):gr kn t (l.map aQ.e0)=((gr kn t l).1.map aQ.e0,(gr kn t l).2):=QcX l ([],kn,t)
theorem Qnr(kn:KN)(x:aY):(bG kn x).k=bK kn x.k:=by
 unfold bG bK aY.k;show aY.k (if oN (gr kn false x.insts).2.1 x.e x.v then _ else _)=_;simp only[O4];split<;>rfl
theorem QcY(s:List aY×KN×Bool)(x:aY):ot (s.1.map aY.k,s.2) x.k=((ou s x).1.map aY.k,(ou s x).2):=by
 unfold ot ou;rw[bZ];show(s.1.map aY.k++[bK s.2.1 x.k],(gr s.2.1 false (x.insts.map aQ.e0)).2.1,s.2.2||(gr s.2.1 false (x.insts.map aQ.e0)).2.2||decide (oN (gr s.2.1 false (x.insts.map aQ.e0)).2.1 x.e x.v))=_;rw[O4,<-Qnr];rfl
theorem QcZ(gs:List aY)(kn:KN):fk (gs.map aY.k) kn=((Em gs kn).1.map aY.k,(Em gs kn).2):=by
 unfold fk Em;have key:∀(l:List aY) (s:List aY×KN×Bool),(l.map aY.k).foldl ot (s.1.map aY.k,s.2)=((l.foldl ou s).1.map aY.k,(l.foldl ou s).2):=by
  intro l;induction l with
  |nil=>intro s;rfl
  |cons x l ih=>intro s;rw[gu,lG,QcY,ih,lG]
 exact key gs ([],kn,false)
theorem En(l:List aQ)(a:List aQ)(kn:KN)(t:Bool):l.foldl eF (a,kn,t)=(a++(gr kn false l).1,(gr kn false l).2.1,t||(gr kn false l).2.2):=by
 induction l generalizing a kn t with
 |nil=>simp[gr]
 |cons i l ih=>
  unfold gr;rw[lG,lG];by_cases h:iZ kn i
  ·rw[o1 h,o1 h,ih,ih];simp
  ·rw[rz h,rz h,ih,ih];simp
structure Qkq(kn:KN)(l:List aQ)(s:StF):Prop where
 less:gH Yi l s.1
 len:ae s.2.1=ae kn
 stop:s.2.2=false->s.1=l/\s.2.1=kn/\∀i,i∈l->¬iZ kn i
 cnt:ae (s.1.filter (λi=>decide (16<i.op)))+(if s.2.2 then 1 else 0)<=ae (l.filter (λi=>decide (16<i.op)))
theorem TA{kn:KN}{i:aQ}(h:iZ kn i):Yi i (oq kn i):= .inr ⟨rfl,rfl,rfl,rfl,by have:=h.1;unfold aJ;omega⟩
theorem G9(kn:KN)(l:List aQ):∀m,m<=ae l->Qkq kn (l.take m) (gr kn false (l.take m)):=by
 intro m;induction m with
 |zero=>intro _;exact⟨gH.nil,rfl,λ_=>⟨rfl,rfl,sI⟩,by simp[gr]⟩
 |succ m ih=>
  intro hm;have h:=ih oM;obtain⟨i,hi⟩:=aP (l:=l) (i:=m) oM;obtain⟨hk,he⟩:=aW.1 hi;have e:l.take (m+1)=l.take m++[i]:=by rw[dh hk,he]
  have e2:gr kn false (l.take (m+1))=eF (gr kn false (l.take m)) i:=by unfold gr;rw[e,sq];rfl
  obtain⟨s,hs⟩:∃s,s=gr kn false (l.take m):=⟨_,rfl⟩;rw[e2,<-hs];rw[<-hs]at h;unfold eF;by_cases hd:iZ s.2.1 i
  ·rw[ax hd];refine⟨by rw[e];exact h.less.snoc (TA hd),by simp[h.len],λh9=>(by cases h9),?_⟩;rw[e,e8,e8,dG,dG];have h1:=h.cnt;have h2:ae ([oq s.2.1 i].filter (λi=>decide (16<i.op)))=0:=rfl;have h3:ae ([i].filter (λi=>decide (16<i.op)))=1:=by simp[hd.1]
   rw[h2,h3];simp only[mM];split at h1<;>omega
  ·rw[ao hd];refine⟨by rw[e];exact h.less.snoc (.inl rfl),h.len,λh9=> ?_,?_⟩
   ·obtain⟨h1,h2,h3⟩:=h.stop h9;refine⟨by rw[e];show s.1++[i]=_;rw[h1],h2,λj hj=> ?_⟩;rw[e]at hj;rcases bV.1 hj with hj|hj
    ·exact h3 j hj
    ·rw[cF.1 hj,<-h2];exact hd
   ·rw[e,e8,e8,dG,dG];have h1:=h.cnt;show _+_+(if s.2.2=true then 1 else 0)<=_;omega
theorem uo(kn:KN)(l:List aQ):Qkq kn l (gr kn false l):=by
 have:=G9 kn l (ae l) (cH _);rwa [gC]at this
def wB(x:bp):Nat:=ae (x.insts.filter (λi=>decide (16<i.op)))+(if x.e=1 then 1 else 0)
def wK(ks:List bp):Nat:=(ks.map wB).sum
structure Qkr(kn:KN)(ks:List bp)(s:StK):Prop where
 less:gH qE ks s.1
 len:ae s.2.1=ae kn
 stop:s.2.2=false->s.1=ks/\s.2.1=kn/\∀x,x∈ks->(∀i,i∈x.insts->¬iZ kn i)/\¬oN kn x.e x.v
 cnt:wK s.1+(if s.2.2 then 1 else 0)<=wK ks
theorem Qc0(kn:KN)(x:bp):qE x (bK kn x):=by
 unfold bK;have h:=(uo kn x.insts).less;by_cases he:oN (gr kn false x.insts).2.1 x.e x.v
 ·rw[ax he];refine⟨rfl,rfl,h,.inr ⟨he.1,rfl,rfl,rfl,?_⟩⟩;show(if _ then x.b else x.a)=x.a\/(if _ then x.b else x.a)=x.b;split
  ·exact .inr rfl
  ·exact .inl rfl
 ·rw[ao he];exact⟨rfl,rfl,h,.inl ⟨rfl,rfl,rfl,rfl⟩⟩
theorem Qhj(kn:KN)(x:bp):wB (bK kn x)+(if(gr kn false x.insts).2.2||decide (oN (gr kn false x.insts).2.1 x.e x.v)then 1 else 0)<=wB x:=by
 have h:=(uo kn x.insts).cnt;unfold bK wB;by_cases he:oN (gr kn false x.insts).2.1 x.e x.v
 ·rw[ax he,jO he,Bool.or_true];have h1:=he.1;simp only[h1,mM];show ae ((gr kn false x.insts).1.filter (λi=>decide (16<i.op)))+(if(0:Int)=1 then 1 else 0)+1<=_;rw[ao oM];split at h<;>omega
 ·rw[ao he,kM he,Bool.or_false];show ae ((gr kn false x.insts).1.filter (λi=>decide (16<i.op)))+(if x.e=1 then 1 else 0)+_<=_;omega
theorem Qc1{kn:KN}{x:bp}(h1:(gr kn false x.insts).2.2=false)(h2:¬oN (gr kn false x.insts).2.1 x.e x.v):bK kn x=x/\(gr kn false x.insts).2.1=kn:=by
 obtain⟨q1,q2,_⟩:=(uo kn x.insts).stop h1;unfold bK;rw[ao h2,q1];exact⟨rfl,q2⟩
theorem O5(kn:KN)(ks:List bp):∀m,m<=ae ks->Qkr kn (ks.take m) (fk (ks.take m) kn):=by
 intro m;induction m with
 |zero=>intro _;exact⟨gH.nil,rfl,λ_=>⟨rfl,rfl,sI⟩,by simp[fk,wK]⟩
 |succ m ih=>
  intro hm;have h:=ih oM;obtain⟨x,hx⟩:=aP (l:=ks) (i:=m) oM;obtain⟨hk,he⟩:=aW.1 hx;have e:ks.take (m+1)=ks.take m++[x]:=by rw[dh hk,he]
  have e2:fk (ks.take (m+1)) kn=ot (fk (ks.take m) kn) x:=by unfold fk;rw[e,sq];rfl
  obtain⟨s,hs⟩:∃s,s=fk (ks.take m) kn:=⟨_,rfl⟩;rw[e2,<-hs];rw[<-hs]at h;unfold ot;refine⟨by rw[e];exact h.less.snoc (Qc0 _ _),by rw[<-h.len];exact(uo s.2.1 x.insts).len,λh9=> ?_,?_⟩
  ·have h9':(s.2.2||(gr s.2.1 false x.insts).2.2||decide (oN (gr s.2.1 false x.insts).2.1 x.e x.v))=false:=h9;rw[Bool.or_eq_false_iff,Bool.or_eq_false_iff]at h9';obtain⟨⟨h1,h2⟩,h3⟩:=h9';obtain⟨q1,q2,q3⟩:=h.stop h1;have h3:=cD h3;obtain⟨q4,q5⟩:=Qc1 h2 h3;obtain⟨_,_,q6⟩:=(uo s.2.1 x.insts).stop h2;refine⟨by rw[e];show s.1++[bK s.2.1 x]=_;rw[q1,q4],q5.trans q2,λy hy=> ?_⟩;rw[e]at hy;rcases bV.1 hy with hy|hy
   ·exact q3 y hy
   ·rw[cF.1 hy,<-q2];rw[q5]at h3;exact⟨q6,h3⟩
  ·have h1:=h.cnt;have h2:=Qhj s.2.1 x;unfold wK at h1⊢;rw[e,bZ,bZ,sum_append,sum_append];show _+[wB (bK s.2.1 x)].sum+(if(s.2.2||(gr s.2.1 false x.insts).2.2||decide (oN (gr s.2.1 false x.insts).2.1 x.e x.v))=true then 1 else 0)<=_+[wB x].sum;simp only[jN,sum_nil,Nat.add_zero];cases hs1:s.2.2 with
   |true=>
    rw[hs1]at h1;simp only[mM,Bool.true_or]at h1⊢;split at h2<;>omega
   |false=>
    rw[hs1]at h1;simp only[Bool.false_or]at h1⊢;have h1':(List.map wB s.1).sum<=(List.map wB (List.take m ks)).sum:=by simpa using h1
    split at h2
    ·rename_i hq;rw[ax hq];omega
    ·rename_i hq;rw[ao hq];omega
theorem Rj(ks:List bp)(kn:KN):Qkr kn ks (fk ks kn):=by
 have:=O5 kn ks (ae ks) (cH _);rwa [gC]at this
def jV(ks:List bp):List aQ:=ks.flatMap (λx=>x.insts)
def KnQ(kn:KN)(l:List aQ):Prop:=∀i,i∈l->i.op=1->kn.getD i.dst.toNat (false,0)=(true,i.n)
structure O6(n:Nat)(l:List aQ):Prop where
 nd:((l.filter (λi=>decide (aJ i.op))).map (λi=>i.dst)).Nodup
 xo:∀i,i∈l->aJ i.op->0<=i.dst/\i.dst.toNat<n
theorem mW:aJ 1:=by unfold aJ;omega
theorem Eo{α:Type}{l:List α}{i j:Nat}{a d:α}:(l.set i a).getD j d=if i=j/\i<ae l then a else l.getD j d:=by
 rw[et,et,getElem?_set];by_cases e:i=j
 ·subst e;by_cases hl:i<ae l
  ·rw[ax rfl,ax hl,ax ⟨rfl,hl⟩];rfl
  ·rw[ax rfl,ao hl,ao (λh=>hl h.2),db oM]
 ·rw[ao e,ao (λh=>e h.1)]
theorem O6.mid{n:Nat}{a r:List aQ}{i j:aQ}(h:O6 n (a++i::r))(hi:aJ i.op)(hj:aJ j.op)(hm:j∈a++r):j.dst≠i.dst:=by
 have h1:=h.nd;rw[e8,gN,ax (by simp[hi]),bZ,gu,jL]at h1;obtain⟨_,h3,h4⟩:=h1;rcases bV.1 hm with h5|h5
 ·exact h4 j.dst (aO.2 ⟨j,dY.2 ⟨h5,by simp[hj]⟩,rfl⟩) i.dst (cK ..)
 ·intro e;exact(qk.1 h3).1 (e▸aO.2 ⟨j,dY.2 ⟨h5,by simp[hj]⟩,rfl⟩)
theorem O6.put{n:Nat}{a r:List aQ}{i i':aQ}(h:O6 n (a++i::r))(hi:aJ i.op)(tc:aJ i'.op)(hd:i'.dst=i.dst):O6 n (a++i'::r):=by
 refine⟨?_,λj hj hm=> ?_⟩
 ·have h1:=h.nd;rw[e8,gN,ax (by simp[hi]),bZ,gu]at h1;rw[e8,gN,ax (by simp[tc]),bZ,gu,hd];exact h1
 ·rcases bV.1 hj with h1|h1
  ·exact h.xo j (ej _ h1) hm
  ·rcases cG.1 h1 with h1|h1
   ·subst h1;rw[hd];exact h.xo i sI hi
   ·exact h.xo j (by simp[h1]) hm
theorem O6.ne{n:Nat}{a r:List aQ}{i j:aQ}(h:O6 n (a++i::r))(hi:aJ i.op)(hj:aJ j.op)(hm:j∈a++r):j.dst.toNat≠i.dst.toNat:=by
 have h1:=h.mid hi hj hm;have h2:=(h.xo i sI hi).1;have h3:=(h.xo j (by rcases bV.1 hm with h|h<;>simp[h]) hj).1;omega
theorem Qc4{kn:KN}{a r:List aQ}{i:aQ}(hn:O6 (ae kn) (a++i::r))(hk:KnQ kn (a++i::r))(hd:iZ kn i):KnQ (kn.set i.dst.toNat (true,(iR kn i).1)) (a++oq kn i::r):=by
 have hi:aJ i.op:=by have:=hd.1;unfold aJ;omega
 intro j hj h1;rw[Eo];have key:j∈a++r->(if i.dst.toNat=j.dst.toNat/\i.dst.toNat<ae kn then(true,(iR kn i).1)else kn.getD j.dst.toNat (false,0))=(true,j.n):=by intro hm;have:=hn.ne hi (by rw[h1];exact mW) hm;rw[ao (λh=>this h.1.symm)];exact hk j (by rcases bV.1 hm with h|h<;>simp[h]) h1
 rcases bV.1 hj with h2|h2
 ·exact key (ej _ h2)
 ·rcases cG.1 h2 with h2|h2
  ·subst h2;rw[ax ⟨rfl,(hn.xo i sI hi).2⟩];rfl
  ·exact key (kF _ h2)
theorem Jd:∀(l a:List aQ) (kn:KN) (t:Bool),O6 (ae kn) (a++l)->KnQ kn (a++l)->O6 (ae kn) (l.foldl eF (a,kn,t)).1/\KnQ (l.foldl eF (a,kn,t)).2.1 (l.foldl eF (a,kn,t)).1/\(l.foldl eF (a,kn,t)).2.1.length=ae kn
 |[],a,kn,t,hn,hk=>by rw[iq]at hn hk;exact⟨hn,hk,rfl⟩
 |i::l,a,kn,t,hn,hk=>by
  rw[lG];by_cases hd:iZ kn i
  ·rw[o1 hd];have hi:aJ i.op:=by have:=hd.1;unfold aJ;omega
   have e:a++oq kn i::l=(a++[oq kn i])++l:=sI;have h1:=hn.put hi (i':=oq kn i) mW rfl;have h2:=Qc4 hn hk hd;rw[e]at h1 h2;have hl:ae (kn.set i.dst.toNat (true,(iR kn i).1))=ae kn:=lj;have:=Jd l (a++[oq kn i]) (kn.set i.dst.toNat (true,(iR kn i).1)) true (by rw[hl];exact h1) h2;rwa [hl]at this
  ·rw[rz hd];have e:a++i::l=(a++[i])++l:=sI;rw[e]at hn hk;exact Jd l (a++[i]) kn t hn hk
theorem Ep(kn:KN)(x:bp):(bK kn x).insts=(gr kn false x.insts).1:=by unfold bK;split<;>rfl
theorem Ha:∀(ks done:List bp) (kn:KN) (t:Bool),jV (ks.foldl ot (done,kn,t)).1=((jV ks).foldl eF (jV done,kn,t)).1/\(ks.foldl ot (done,kn,t)).2.1=((jV ks).foldl eF (jV done,kn,t)).2.1
 |[],done,kn,t=>⟨rfl,rfl⟩
 |x::ks,done,kn,t=>by
  have e:jV (x::ks)=x.insts++jV ks:=rfl;rw[lG,e,sq,En x.insts];have e2:jV (done++[bK kn x])=jV done++(gr kn false x.insts).1:=by unfold jV;rw[qf,iE,CM,iq,Ep]
  obtain⟨h1,h2⟩:=Ha ks (done++[bK kn x]) (gr kn false x.insts).2.1 (t||(gr kn false x.insts).2.2||decide (oN (gr kn false x.insts).2.1 x.e x.v));rw[e2]at h1 h2;have ht:∀(l a:List aQ) (kn:KN) (t t':Bool),(l.foldl eF (a,kn,t)).1=(l.foldl eF (a,kn,t')).1/\(l.foldl eF (a,kn,t)).2.1=(l.foldl eF (a,kn,t')).2.1:=by intro l a kn t t';rw[En,En l a kn t'];exact⟨rfl,rfl⟩
  refine⟨h1.trans (ht _ _ _ _ _).1,h2.trans (ht _ _ _ _ _).2⟩
theorem Qc5{ks:List bp}{kn:KN}(hn:O6 (ae kn) (jV ks))(hk:KnQ kn (jV ks)):KnQ (fk ks kn).2.1 (jV (fk ks kn).1)/\(fk ks kn).2.1.length=ae kn:=by
 obtain⟨h1,h2⟩:=Ha ks [] kn false;obtain⟨_,h3,h4⟩:=Jd (jV ks) [] kn false hn hk;have e:jV ([]:List bp)=[]:=rfl;rw[e]at h1 h2;unfold fk;rw[h1,h2];exact⟨h3,h4⟩
def dM(l:List aQ)(z:KN):KN:=l.foldl (λkn i=>if i.op=1 then kn.set i.dst.toNat (true,i.n)else kn) z
def kk(ks:List bp)(n:Nat):KN:=dM (jV ks) (List.replicate n (false,0))
theorem pN(l:List aQ)(z:KN):ae (dM l z)=ae z:=by
 unfold dM;induction l generalizing z with
 |nil=>rfl
 |cons i l ih=>rw[lG,ih];split<;>simp
theorem AN(l:List aQ)(i:aQ)(z:KN):dM (l++[i]) z=if i.op=1 then(dM l z).set i.dst.toNat (true,i.n)else dM l z:=by unfold dM;rw[sq];rfl
theorem Ym{l:List aQ}{n:Nat}(hn:O6 n l):∀m,m<=ae l->KnQ (dM (l.take m) (List.replicate n (false,0))) (l.take m):=by
 intro m;induction m with
 |zero=>intro _ i hi;simp at hi
 |succ m ih=>
  intro hm i hi h1;have h:=ih oM;obtain⟨a,ha⟩:=aP (l:=l) (i:=m) oM;have e:l=l.take m++a::l.drop (m+1):=by conv=>lhs;rw[<-oI m l,fB ha]
  have e1:l.take (m+1)=l.take m++[a]:=by obtain⟨q1,q2⟩:=aW.1 ha;rw[dh q1,q2]
  rw[e1,AN];rw[e1]at hi;have hl:=pN (l.take m) (List.replicate n (false,0));rw[qI]at hl;rw[e]at hn;have hlen:ae (dM (l.take m) (List.replicate n (false,(0:Int))))=n:=hl;rcases bV.1 hi with hi|hi
  ·split
   ·rename_i ON;have:=hn.ne (by rw[ON];exact mW) (j:=i) (by rw[h1];exact mW) (ej _ hi);rw[Eo,ao (λh=>this h.1.symm)];exact h i hi h1
   ·exact h i hi h1
  ·rw[cF]at hi;subst hi;rw[ax h1,Eo,ax ⟨rfl,by rw[hlen];exact(hn.xo i sI (by rw[h1];exact mW)).2⟩]
theorem Er{ks:List bp}{n:Nat}(hn:O6 n (jV ks)):KnQ (kk ks n) (jV ks):=by
 have:=Ym hn (ae (jV ks)) (cH _);rwa [gC]at this
theorem LN(l:List aQ)(n:Nat)(v:Int):CL (dM l (List.replicate n (false,0))) v=true->∃i,i∈l/\i.op=1/\i.dst.toNat=v.toNat:=by
 have key:∀(l:List aQ) (z:KN),CL (dM l z) v=true->CL z v=true\/∃i,i∈l/\i.op=1/\i.dst.toNat=v.toNat:=by
  intro l;induction l with
  |nil=>intro z h;exact .inl h
  |cons i l ih=>
   intro z h;have e:dM (i::l) z=dM l (if i.op=1 then z.set i.dst.toNat (true,i.n)else z):=rfl;rw[e]at h;rcases ih _ h with h1|⟨j,hj,h2⟩
   ·split at h1
    ·rename_i h3;unfold CL at h1;rw[Eo]at h1;split at h1
     ·rename_i h4;exact .inr ⟨i,cK ..,h3,h4.1⟩
     ·exact .inl h1
    ·exact .inl h1
   ·exact .inr ⟨j,cr _ hj,h2⟩
 intro h;rcases key l _ h with h1|h1
 ·exfalso;unfold CL at h1;rw[et,getElem?_replicate]at h1;split at h1<;>cases h1
 ·exact h1
theorem Je{pa va:Int}{ks:List bp}{n:Nat}(hp:0<=pa)(kr:va=(n:Int))(h:gD pa va (bQ (fK ks))):O6 n (jV ks):=by
 refine⟨?_,λi hi hm=> ?_⟩
 ·have h2:=h.2;rw[uV]at h2;refine h2.sublist ?_;unfold jV;rw[filter_flatMap,map_flatMap,show fK ks=ks.map bp.f from rfl,CA];refine Ej ⟨rfl,λi a b ha hb=> ?_⟩;rw[ha]at hb;injection hb with hb;subst hb;exact IT _ _
 ·obtain⟨x,hx,hi⟩:=fG.1 hi;obtain⟨k,hk⟩:=bq.1 hx;obtain⟨j,hj⟩:=bq.1 hi;have:=h.1 _ (fL.2 ⟨k,x.f,uk hk,rfl,.inr ⟨j,i,hj,hm,rfl,rfl⟩⟩);have h1:pa<=i.dst:=this.1;have h2:i.dst<va:=this.2;omega
theorem CN{α β:Type}{f:α->Nat}{g:β->Nat}:∀{l:List α} {m:List β},gH (λa b=>g b<=f a) l m->(m.map g).sum<=(l.map f).sum
 |[],[],_=>cH _
 |[],b::m,h=>by have:=h.1;simp at this
 |a::l,[],h=>by have:=h.1;simp at this
 |a::l,b::m,h=>by have h1:=h.2 0 a b rfl rfl;have h2:=CN (l:=l) (m:=m) ⟨by have:=h.1;simpa using this,λi x y hx hy=>h.2 (i+1) x y hx hy⟩;rw[gu,gu,jN,jN];omega
theorem Rl{α β:Type}{f:α->Nat}{g:β->Nat}:∀{l:List α} {m:List β},gH (λa b=>g b<=f a) l m->∀{k:Nat} {a:α} {b:β},l[k]?=some a->m[k]?=some b->g b<f a->(m.map g).sum<(l.map f).sum
 |[],m,_,k,a,b,hl,_,_=>by simp at hl
 |a::l,[],h,_,_,_,_,_,_=>by have:=h.1;simp at this
 |a::l,b::m,h,k,x,y,hx,hy,ir=>by
  have h1:=h.2 0 a b rfl rfl;have h3:gH (λa b=>g b<=f a) l m:=⟨by have:=h.1;simpa using this,λi x y hx hy=>h.2 (i+1) x y hx hy⟩;rw[gu,gu,jN,jN];cases k with
  |zero=>
   injection hx with hx;injection hy with hy;subst hx;subst hy;have h2:=CN h3;omega
  |succ k=>
   have h2:=Rl h3 hx hy ir;omega
def lvB(x:bp):Nat:=if x.gone then 0 else 1
theorem yq(ks:List bp):ae (eE ks)=(ks.map lvB).sum:=by
 induction ks with
 |nil=>rfl
 |cons x ks ih=>
  rw[gu,jN,<-ih];unfold eE lvB;rw[gN];cases x.gone<;>simp<;>omega
def wM(ks:List bp):Nat:=wK ks+ae (eE ks)
section
variable{ks ms:List bp}{kn:KN}{nm:ByteArray}{pa va:Int}
theorem Qc6(h:gH qE ks ms):ae (eE ms)=ae (eE ks):=by
 rw[yq,yq];congr 1;exact(h.map_eq λx y _ _ hb=>by unfold lvB;rw[hb.gone]).symm
theorem CO(kn:KN)(h:(fk ks kn).2.2=true):wM (fk ks kn).1<wM ks:=by
 have hp:=Rj ks kn;have h1:=hp.cnt;have h2:=Qc6 hp.less;rw[h,ax rfl]at h1;unfold wM;omega
theorem zK(ks:List bp):gH (λx y=>ae y.insts<=ae x.insts/\ae y.ak<=ae x.ak/\wB y<=wB x/\lvB y<=lvB x) ks (dW ks):=by
 refine⟨(gK ks).symm,λk x y hx hy=> ?_⟩;rw[kj hx]at hy;injection hy with hy;subst hy;unfold jD;split
 ·refine⟨cI _,cI _,?_,cI _⟩;show ae (([]:List aQ).filter _)+(if(2:Int)=1 then 1 else 0)<=_;simp
 ·exact⟨cH _,by show ae (x.ak.map _)<=_;rw[bl];exact cH _,cH _,cH _⟩
theorem gH.imp{α β:Type}{R S:α->β->Prop}{l:List α}{m:List β}(h:gH R l m)(hi:∀a b,R a b->S a b):gH S l m:=⟨h.1,λi a b ha hb=>hi a b (h.2 i a b ha hb)⟩
theorem Yn(ks:List bp):wK (dW ks)<=wK ks:=CN ((zK ks).imp λ_ _ h=>h.2.2.1)
theorem yr(h:kH ks=true):wM (dW ks)<wM ks:=by
 have h1:=Yn ks;have h2:ae (eE (dW ks))<ae (eE ks):=by rw[yq,yq];unfold kH at h;obtain⟨k,x,hx,hg,hr⟩:=(@decide_eq_true_iff _ (Classical.propDecidable _)).1 h;refine Rl ((zK ks).imp λ_ _ h=>h.2.2.2) hx (kj hx) ?_;unfold jD;rw[ax ⟨hr,hg⟩];show(0:Nat)<lvB x;unfold lvB;rw[hg];decide
 unfold wM;omega
theorem Hb(h:gH qE ks ms):de (fK ms)=de (fK ks):=by
 rw[mu,mu,h.1];congr 2;exact(h.map_eq λx y _ _ hb=>by rw[hb.ak,hb.insts.1]).symm
theorem wX(ks:List bp):de (fK (dW ks))<=de (fK ks):=by
 rw[mu,mu,gK];have:=CN (f:=λx:bp=>ae x.ak+ae x.insts) (g:=λx:bp=>ae x.ak+ae x.insts) ((zK ks).imp λ_ _ h=>by have:=h.1;have:=h.2.1;omega);omega
noncomputable def oB:Nat->List bp->KN->List bp
 |0,ks,_=>ks
 |n+1,ks,kn=>if(fk ks kn).2.2=true then oB n (fk ks kn).1 (fk ks kn).2.1 else if kH ks=true then oB n (dW ks) kn else dW ks
noncomputable def s9(ks:List bp)(kn:KN):List bp:=oB (wM ks+1) ks kn
theorem yt:∀(n:Nat) (ks:List bp) (kn:KN) (m:Nat),wM ks<n->wM ks<m->oB n ks kn=oB m ks kn
 |0,_,_,_,h,_=>oM
 |_,_,_,0,_,h=>oM
 |n+1,ks,kn,m+1,hn,hm=>by
  unfold oB;by_cases h1:(fk ks kn).2.2=true
  ·rw[ax h1,ax h1];have:=CO kn h1;exact yt n _ _ m oM oM
  ·rw[ao h1,ao h1];by_cases h2:kH ks=true
   ·rw[ax h2,ax h2];have:=yr h2;exact yt n _ _ m oM oM
   ·rw[ao h2,ao h2]
theorem Yo(h:(fk ks kn).2.2=true):s9 (fk ks kn).1 (fk ks kn).2.1=s9 ks kn:=by
 unfold s9;have e:oB (wM ks+1) ks kn=oB (wM ks) (fk ks kn).1 (fk ks kn).2.1:=by show(if _ then _ else _)=_;rw[ax h]
 rw[e];have:=CO kn h;exact yt _ _ _ _ oM oM
theorem Qhk(h:(fk ks kn).2.2=false)(h2:kH ks=true):s9 (dW ks) kn=s9 ks kn:=by
 unfold s9;have e:oB (wM ks+1) ks kn=oB (wM ks) (dW ks) kn:=by show(if _ then _ else _)=_;rw[ao (by rw[h];decide),ax h2]
 rw[e];have:=yr h2;exact yt _ _ _ _ oM oM
theorem Yp(h:(fk ks kn).2.2=false)(h2:kH ks=false):s9 ks kn=dW ks:=by
 unfold s9;show(if _ then _ else _)=_;rw[ao (by rw[h];decide),ao (by rw[h2];decide)]
def Jf(kn:KN)(ks:List bp):Prop:=∀x,x∈ks->(∀i,i∈x.insts->¬iZ kn i)/\¬oN kn x.e x.v
def Vx(ks:List bp):Prop:=∀x,x∈ks->x.insts.map aQ.e0=x.insts
def O7(kn:KN):Prop:=∀c,c∈kn->In64 c.2
def BJ(ks:List bp):Prop:=∀x,x∈ks->(∀i,i∈x.insts->i.Ok)/\In64 x.e/\In64 x.v/\In64 x.a/\In64 x.b/\(∀p,p∈x.ak->In64 p.dst)
theorem Qc7(h:Vx ks)(kn:KN):Vx (fk ks kn).1:=by
 have key:∀(l done:List bp) (kn:KN) (t:Bool),Vx l->Vx done->Vx (l.foldl ot (done,kn,t)).1:=by
  intro l;induction l with
  |nil=>intro done kn t _ h;exact h
  |cons x l ih=>
   intro done kn t hl hd;rw[lG];refine ih _ _ _ (λy hy=>hl y (cr _ hy)) λy hy=> ?_
   rcases bV.1 hy with hy|hy
   ·exact hd y hy
   ·rw[cF.1 hy,Ep];have:=O4 kn false x.insts;rw[hl x (cK ..)]at this;exact(aK Prod.fst this).symm
 exact key ks [] kn false h (by intro y hy;cases hy)
theorem LO(h:Vx ks):Vx (dW ks):=by
 intro y hy;obtain⟨k,hk⟩:=bq.1 hy;obtain⟨x,hx⟩:=jE hk;rw[kj hx]at hk;injection hk with hk;subst hk;unfold jD;split
 ·rfl
 ·exact h x (aI hx)
theorem Qhl(hk:O7 kn)(v:Int):In64 (ji kn v):=by
 unfold ji;rw[et];cases h:kn[v.toNat]? with
 |none=>exact jf
 |some c=>exact hk c (aI h)
theorem Rm(hk:O7 kn)(i:aQ):In64 (iR kn i).1:=by
 unfold iR;exact Jc Qfk (Yl (Qhl hk _))
theorem O7.set(hk:O7 kn){v:Int}(hv:In64 v)(j:Nat):O7 (kn.set j (true,v)):=by
 intro c hc;rcases H5 hc with h|h
 ·exact hk c h
 ·rw[h];exact hv
theorem Jg:∀(l a:List aQ) (kn:KN) (t:Bool),O7 kn->(∀i,i∈a->i.Ok)->(∀i,i∈l->i.Ok)->O7 (l.foldl eF (a,kn,t)).2.1/\∀i,i∈(l.foldl eF (a,kn,t)).1->i.Ok
 |[],a,kn,t,hk,ha,_=>⟨hk,ha⟩
 |i::l,a,kn,t,hk,ha,hl=>by
  rw[lG];by_cases hd:iZ kn i
  ·rw[o1 hd];refine Jg l _ _ _ (hk.set (Rm hk i) _) (λj hj=> ?_) λj hj=>hl j (cr _ hj)
   rcases bV.1 hj with hj|hj
   ·exact ha j hj
   ·rw[cF.1 hj];have:=hl i (cK ..);exact⟨⟨by show(-9223372036854775808:Int)<=1;omega,by show(1:Int)<=9223372036854775807;omega⟩,this.dst,Rm hk i,by show(0:Nat)<=_;omega,by show(0:Nat)<=_;omega,by intro x hx;cases hx⟩
  ·rw[rz hd];refine Jg l _ _ _ hk (λj hj=> ?_) λj hj=>hl j (cr _ hj)
   rcases bV.1 hj with hj|hj
   ·exact ha j hj
   ·rw[cF.1 hj];exact hl i (cK ..)
theorem Qc8(h:BJ ks)(hk:O7 kn):BJ (fk ks kn).1/\O7 (fk ks kn).2.1:=by
 have key:∀(l done:List bp) (kn:KN) (t:Bool),BJ l->BJ done->O7 kn->BJ (l.foldl ot (done,kn,t)).1/\O7 (l.foldl ot (done,kn,t)).2.1:=by
  intro l;induction l with
  |nil=>intro done kn t _ h hk;exact⟨h,hk⟩
  |cons x l ih=>
   intro done kn t hl hd hk;rw[lG];obtain⟨hx,h1,h2,h3,h4,h5⟩:=hl x (cK ..);obtain⟨q1,q2⟩:=Jg x.insts [] kn false hk (by intro i hi;cases hi) hx;refine ih _ _ _ (λy hy=>hl y (cr _ hy)) (λy hy=> ?_) q1;rcases bV.1 hy with hy|hy
   ·exact hd y hy
   ·rw[cF.1 hy];show(∀i,i∈(bK kn x).insts->_)/\_;rw[Ep];refine⟨q2,?_⟩;unfold bK;split
    ·refine⟨jf,jf,?_,jf,h5⟩;show In64 (if _ then x.b else x.a);split<;>assumption
    ·exact⟨h1,h2,h3,h4,h5⟩
 exact key ks [] kn false h (by intro y hy;cases hy) hk
theorem LP(h:BJ ks):BJ (dW ks):=by
 intro y hy;obtain⟨k,hk⟩:=bq.1 hy;obtain⟨x,hx⟩:=jE hk;rw[kj hx]at hk;injection hk with hk;subst hk;obtain⟨h0,h1,h2,h3,h4,h5⟩:=h x (aI hx);unfold jD;split
 ·exact⟨(by intro i hi;cases hi),⟨by show(-9223372036854775808:Int)<=2;omega,by show(2:Int)<=9223372036854775807;omega⟩,⟨by show(-9223372036854775808:Int)<=-1;omega,by show(-1:Int)<=9223372036854775807;omega⟩,h3,h4,(by intro p hp;cases hp)⟩
 ·refine⟨h0,h1,h2,h3,h4,λp hp=> ?_⟩;obtain⟨q,hq,rfl⟩:=aO.1 (show p∈x.ak.map _ from hp);exact h5 q hq
structure Qfl(nm:bo)(pa va:Int)(sz:Nat)(ks rs:List bp)(kn:KN):Prop where
 zL:j4 nm pa va rs
 tight:oo rs
 len:ae rs=ae ks
 size:de (fK rs)<=sz
 e0:Vx rs
 knq:KnQ kn (jV rs)
 still:Jf kn rs
theorem Es{i:aQ}(h:i∈jV (dW ks)):i∈jV ks:=by
 obtain⟨y,hy,hi⟩:=fG.1 h;obtain⟨k,hk⟩:=bq.1 hy;obtain⟨x,hx⟩:=jE hk;rw[kj hx]at hk;injection hk with hk;subst hk;unfold jD at hi;split at hi
 ·cases hi
 ·exact fG.2 ⟨x,aI hx,hi⟩
theorem LQ(h:Jf kn ks):Jf kn (dW ks):=by
 intro y hy;obtain⟨k,hk⟩:=bq.1 hy;obtain⟨x,hx⟩:=jE hk;rw[kj hx]at hk;injection hk with hk;subst hk;obtain⟨h1,h2⟩:=h x (aI hx);unfold jD;split
 ·exact⟨(by intro i hi;cases hi),λhh=>by have h3:(2:Int)=1:=hh.1;omega⟩
 ·exact⟨h1,h2⟩
theorem zM{n:Nat}(kr:va=(n:Int)):∀(f:Nat) (ks:List bp) (kn:KN),wM ks<f->j4 nm pa va ks->KnQ kn (jV ks)->ae kn=n->Vx ks->∃kn',Qfl nm pa va (de (fK ks)) ks (oB f ks kn) kn'
 |0,_,_,h,_,_,_,_=>oM
 |f+1,ks,kn,hf,hg,hk,hl,he=>by
  have hp:=Rj ks kn;have yO:=Je hg.par.1 kr hg.once;rw[<-hl]at yO;obtain⟨q1,q2⟩:=Qc5 yO hk;unfold oB;by_cases h1:(fk ks kn).2.2=true
  ·rw[ax h1];have:=CO kn h1;obtain⟨kn',h⟩:=zM kr f (fk ks kn).1 (fk ks kn).2.1 oM (zJ hg hp.less) q1 (by rw[q2,hl]) (Qc7 he kn);rw[Hb hp.less]at h;exact⟨kn',h.zL,h.tight,by rw[h.len,<-hp.less.1],h.size,h.e0,h.knq,h.still⟩
  ·rw[ao h1];have h1f:(fk ks kn).2.2=false:=by simpa using h1
   by_cases h2:kH ks=true
   ·rw[ax h2];have:=yr h2;have hps:=wX ks;obtain⟨kn',h⟩:=zM kr f (dW ks) kn oM (mf hg).1 (λi hi=>hk i (Es hi)) hl (LO he);exact⟨kn',h.zL,h.tight,by rw[h.len,gK],by have:=h.size;omega,h.e0,h.knq,h.still⟩
   ·rw[ao h2];obtain⟨_,_,h3⟩:=hp.stop h1f;exact⟨kn,(mf hg).1,(mf hg).2,gK ks,wX ks,LO he,λi hi=>hk i (Es hi),LQ h3⟩
theorem Et:∀(f:Nat) (ks:List bp) (kn:KN),BJ ks->O7 kn->BJ (oB f ks kn)
 |0,_,_,h,_=>h
 |f+1,ks,kn,h,hk=>by
  obtain⟨q1,q2⟩:=Qc8 h hk;unfold oB;split
  ·exact Et f _ _ q1 q2
  ·split
   ·exact Et f _ _ (LP h) hk
   ·exact LP h
end
def Hc(n:Nat)(key:Nat->Int):List Nat:=(List.range n).mergeSort (λi j=>decide (key i<=key j))
theorem Rn(n:Nat)(key:Nat->Int):lx n key (Hc n key):=by
 refine⟨mergeSort_perm _ _,?_⟩;have h:=pairwise_mergeSort (le:=λi j=>decide (key i<=key j)) (λa b c h1 h2=>by simp only[aU]at*;omega) (λa b=>by simp only[dt,aU];omega) (List.range n);exact h.imp λh=>cf h
def toP(nl:ah)(p:da):cV:=⟨p.dst,none,0,(Hc (ae p.from_) (sj nl p.from_)).map (λi=>p.args.getD i 0)⟩
def toBl(nl:ah)(x:bp):aG:=⟨none,0,x.ak.map (toP nl),none,0,x.insts,x.e,x.v,toA nl x.e x.a,toBb nl x.e x.b⟩
def toF(ks:List bp):List aG:=(eE ks).map (toBl (mC (ew ks)))
theorem gH.map{α β:Type}{R:α->β->Prop}{f:α->β}{l:List α}(h:∀a,a∈l->R a (f a)):gH R l (l.map f):=by
 refine⟨by rw[bl],λi a b ha hb=> ?_⟩;rw[aL,ha]at hb;injection hb with hb;rw[<-hb];exact h a (aI ha)
theorem Qhm{ks:List bp}(he:Vx ks):BF ks (toF ks):=gH.map λx hx=>by
 have rR:x∈ks:=(dY.1 hx).1;exact⟨gH.map λp _=>⟨rfl,_,Rn _ _,rfl⟩,he x rR,rfl,rfl,rfl,rfl⟩
theorem LR{n:Nat}{key:Nat->Int}{l m:List Nat}(h1:lx n key l)(h2:lx n key m)(hi:∀i j,i<n->j<n->key i=key j->i=j):l=m:=by
 have up:∀{l:List Nat},lx n key l->(l.map key).Pairwise (·<·):=by
  intro l h;rw[uR];have hn:l.Nodup:=h.1.nodup_iff.2 xU;have h3:l.Pairwise (λi j=>key i<=key j/\i≠j):=h.2.and hn;refine h3.imp_of_mem λ{a b} ha hb hq=> ?_
  have pS:=dp.1 (h.1.mem_iff.1 ha);have HR:=dp.1 (h.1.mem_iff.1 hb);have eC:key a≠key b:=λe=>hq.2 (hi a b pS HR e)
  have:=hq.1;omega
 have e:l.map key=m.map key:=O0 (up h1) (up h2) λa=>by simp only[aO];exact⟨fun⟨i,h3,h4⟩=>⟨i,h2.1.mem_iff.2 (h1.1.mem_iff.1 h3),h4⟩,fun⟨i,h3,h4⟩=>⟨i,h1.1.mem_iff.2 (h2.1.mem_iff.1 h3),h4⟩⟩
 refine fM λi=> ?_
 have e1:=aK (λl:ah=>l[i]?) e;simp only[aL]at e1;cases hl:l[i]? with
 |none=>rw[hl]at e1;cases hm:m[i]? with
  |none=>rfl
  |some b=>rw[hm]at e1;cases e1
 |some a=>rw[hl]at e1;cases hm:m[i]? with
  |none=>rw[hm]at e1;cases e1
  |some b=>
   rw[hm]at e1;injection e1 with e1;rw[hi a b (dp.1 (h1.1.mem_iff.1 (aI hl))) (dp.1 (h2.1.mem_iff.1 (aI hm))) e1]
section
variable{ks:List bp}{fs fd fe:List aG}{kn:KN}{nm:ByteArray}{pa va:Int}
theorem Qc9(hg:j4 nm pa va ks)(ud:oo ks)(h1:BF ks fd)(h2:BF ks fe):fY fd fe:=by
 have hc:=hg.zx;unfold fY;refine fM λj=> ?_
 rw[aL,aL];by_cases hj:j<ae fd
 ·obtain⟨y,hy⟩:=aP (l:=fd) hj;obtain⟨i,x,hx,hgx,Fz,hb⟩:=qD h1 hy;obtain⟨z,hz,tm⟩:=G5 h2 hx hgx;rw[Fz]at hz;rw[hy,hz,ft,ft];congr 1;unfold aG.e0;rw[hb.insts,tm.insts,hb.e,tm.e,hb.v,tm.v,hb.a,tm.a,hb.b,tm.b];have hp:y.ak.map cV.e0=z.ak.map cV.e0:=by
   refine fM λm=> ?_
   rw[aL,aL];by_cases hm:m<ae x.ak
   ·obtain⟨p,hp⟩:=aP (l:=x.ak) hm;obtain⟨q,hq,hd,il,hs,ha⟩:=hb.ak.fwd hp;obtain⟨q2,hq2,hd2,il2,Vv,Iv⟩:=tm.ak.fwd hp;have hP:=hg.JZ i x hx p (aI hp);have Cw:∀i,i<ae p.from_->p.from_[i]?=some (p.from_.getD i 0):=λi hi=>by rw[et,dF hi];rfl
    have e:=LR hs Vv λa b ha hb he=>by have la:=hc.src (ud.bO i x hx p (aI hp) _ (aI (Cw a ha)));have lb:=hc.src (ud.bO i x hx p (aI hp) _ (aI (Cw b hb)));have e1:p.from_.getD a 0=p.from_.getD b 0:=pJ la lb he;have h6:=Cw a ha;rw[e1,<-Cw b hb]at h6;exact(CK ha hP.nd).1 h6
    rw[hq,hq2];unfold cV.e0;simp only[ft];rw[hd,hd2,ha,Iv,e]
   ·rw[db (by rw[<-hb.ak.1];omega),db (by rw[<-tm.ak.1];omega)]
  rw[hp]
 ·rw[db oM,db (by rw[<-h2.1,h1.1];omega)]
noncomputable def uq(va:Int)(fs:List aG):List bp:=s9 (gM fs) (kk (gM fs) va.toNat)
noncomputable def rB(va:Int)(fs:List aG):List aG:=toF (uq va fs)
theorem Qda(fs:List aG):Vx (gM fs):=by
 intro x hx;obtain⟨k,hk⟩:=bq.1 hx;obtain⟨y,_,rfl⟩:=vc rfl hk;show(y.insts.map aQ.e0).map aQ.e0=y.insts.map aQ.e0;rw[dz];rfl
theorem Jh(hv:cS nm pa va fs=0):∃kn,Qfl nm pa va (de fs) (gM fs) (uq va fs) kn:=by
 obtain⟨hg,kr,iX⟩:=kh hv;have hk:=zH hg;obtain⟨n,hn⟩:=lk (show 0<=va by have:=hg.par;omega);have e:va.toNat=n:=oM;have yO:=Je hg.par.1 hn hk.1.once;obtain⟨kn,h⟩:=zM hn _ _ _ (Nat.lt_succ_self _) hk.1 (Er yO) (by unfold kk;rw[pN,qI]) (Qda fs);rw[Ja,<-DS (Eh fs)]at h;refine⟨kn,?_⟩;unfold uq s9;rw[e];exact h
theorem O8(hv:cS nm pa va fs=0):cS nm pa va (rB va fs)=0:=by
 obtain⟨hg,kr,iX⟩:=kh hv;obtain⟨kn,h⟩:=Jh hv;exact Yh h.zL h.tight (Qhm h.e0) kr (by have:=h.size;omega)
theorem LS(hv:cS nm pa va fs=0):ae (rB va fs)<=ae fs:=by
 obtain⟨kn,h⟩:=Jh hv;have h1:=h.len;rw[jh]at h1;unfold rB toF;rw[bl,<-h1];exact j6 _ _
theorem Qdb(kC:rH fs):BJ (gM fs):=by
 intro x hx;obtain⟨k,hk⟩:=bq.1 hx;obtain⟨y,hy,rfl⟩:=vc rfl hk;have h:=kC y (aI hy);refine⟨λi hi=> ?_,h.e,h.v,h.a,h.b,λp hp=> ?_⟩
 ·obtain⟨j,hj,rfl⟩:=aO.1 (show i∈y.insts.map aQ.e0 from hi);have:=h.insts j hj;exact⟨this.op,this.dst,this.n,this.name,this.len,this.args⟩
 ·obtain⟨q,hq,rfl⟩:=aO.1 (show p∈y.ak.map _ from hp);exact(h.ak q hq).dst
theorem TB{ks:List bp}{n:Nat}(h:BJ ks):O7 (kk ks n):=by
 have key:∀(l:List aQ) (z:KN),(∀i,i∈l->i.Ok)->O7 z->O7 (dM l z):=by
  intro l;induction l with
  |nil=>intro z _ h;exact h
  |cons i l ih=>
   intro z hl hz;have e:dM (i::l) z=dM l (if i.op=1 then z.set i.dst.toNat (true,i.n)else z):=rfl;rw[e];refine ih _ (λj hj=>hl j (cr _ hj)) ?_;split
   ·exact hz.set (hl i (cK ..)).n _
   ·exact hz
 refine key _ _ (λi hi=> ?_) λc hc=> ?_
 ·obtain⟨x,hx,hi⟩:=fG.1 hi;exact(h x hx).1 i hi
 ·rw[(yu.1 hc).2];exact jf
theorem Hd:∀{l m:List Nat},l.Nodup->(∀a,a∈l->a∈m)->ae l<=ae m
 |[],_,_,_=>cI _
 |a::l,m,hn,h=>by
  obtain⟨h1,h2⟩:=qk.1 hn;have ha:=h a (cK ..);have:=Hd (l:=l) (m:=m.erase a) h2 λb hb=>(mem_erase_of_ne (λe=>h1 (by rw[<-e];exact hb))).2 (h b (cr _ hb))
  rw[length_erase_of_mem ha]at this;have:=tB ha;rw[fh];omega
theorem TD:∀{l:ah} {n:Nat},l.Nodup->(∀a,a∈l->0<=a/\a<(n:Int))->ae l<=n:=by
 intro l n hn hr;have h1:(l.map Int.toNat).Nodup:=by
  rw[nodup_iff_pairwise_ne,uR];refine hn.imp_of_mem λ{a b} ha hb KJ e=>KJ ?_
  have:=(hr a ha).1;have:=(hr b hb).1;omega
 have h2:∀a,a∈l.map Int.toNat->a∈List.range n:=λa ha=>by obtain⟨b,hb,rfl⟩:=aO.1 ha;have:=hr b hb;exact dp.2 oM
 have:=Hd h1 h2;rwa [bl,qj]at this
theorem zN(hg:j4 nm pa va ks){k:Nat}{x:bp}(hx:ks[k]?=some x){p:da}(hp:p∈x.ak):ae p.from_<=ae ks:=by
 have hP:=hg.JZ k x hx p hp;exact TD hP.nd hP.xo
theorem Qhn(hg:j4 nm pa va ks)(hi:BJ ks)(kr:va<=20000)(iX:(de (fK ks):Int)<=20000):rH (toF ks):=by
 have hs:=mu ks;have Ft:=hg.par;have yw:∀(l:List Nat) (a:Nat),a∈l->a<=l.sum:=by
  intro l;induction l with
  |nil=>intro a h;cases h
  |cons b l ih=>
   intro a h;rw[jN];rcases cG.1 h with h|h
   ·omega
   ·have:=ih a h;omega
 have hN:ae ks<=20000:=oM;have Qks:∀v:Int,0<=v->v<=1000000->In64 v:=λv h0 h1=>⟨oM,oM⟩
 intro y hy;obtain⟨x,hx,rfl⟩:=aO.1 hy;have rR:x∈ks:=(dY.1 hx).1;obtain⟨k,hk⟩:=bq.1 rR;have hl:=yw _ _ (aO.2 ⟨x,rR,rfl⟩:(λx:bp=>ae x.ak+ae x.insts) x∈ks.map (λx=>ae x.ak+ae x.insts));have JY:ae x.ak+ae x.insts<=20000:=by have:ae x.ak+ae x.insts<=(ks.map (λx=>ae x.ak+ae x.insts)).sum:=hl;omega
 obtain⟨h0,h1,h2,h3,h4,h5⟩:=hi x rR;have Qkt:∀a:Int,In64 ((mC (ew ks)).getD a.toNat 0):=λa=>by have:=Le (ew ks) a.toNat (by rw[zv];omega);exact Qks _ this.1 this.2
 refine⟨?_,λp hp=> ?_,?_,λi hi=> ?_,h1,h2,?_,?_⟩
 ·show fg (ae (x.ak.map _));rw[bl];unfold fg;omega
 ·obtain⟨q,hq,rfl⟩:=aO.1 (show p∈x.ak.map _ from hp);have hP:=hg.JZ k x hk q hq;have hqs:=zN hg hk hq;refine⟨h5 q hq,?_,λa ha=> ?_⟩
  ·show fg (ae ((Hc _ _).map _));rw[bl,(Rn _ _).1.length_eq,qj];unfold fg;omega
  ·obtain⟨i,_,rfl⟩:=aO.1 (show a∈(Hc _ _).map _ from ha);rw[et];cases hq2:q.args[i]? with
   |none=>exact jf
   |some b=>
    have:=hP.bN b (aI hq2);exact Qks _ this.1 (by show b<=_;omega)
 ·show fg (ae x.insts);unfold fg;omega
 ·exact h0 i hi
 ·show In64 (toA _ x.e x.a);unfold toA;split
  ·exact Qkt _
  ·split
   ·exact h3
   ·exact jf
 ·show In64 (toBb _ x.e x.b);unfold toBb;split
  ·exact Qkt _
  ·exact jf
theorem LU(hv:cS nm pa va fs=0)(kC:rH fs):rH (rB va fs):=by
 obtain⟨hg,kr,iX⟩:=kh hv;obtain⟨kn,h⟩:=Jh hv;have hi:=Qdb kC;exact Qhn h.zL (Et _ _ _ hi (TB hi)) kr (by have:=h.size;omega)
end
abbrev zI:aQ:=⟨0,0,0,⟨#[]⟩,none,0,[]⟩
def F0(fs:List aG)(v:Int):Option aQ:=(fs.flatMap (λx=>x.insts)).find? (λi=>decide (i.dst=v/\0<=v))
def Kd(fs:List aG)(v:Int):aQ:=(F0 fs v).getD zI
def mkB(fs:List aG)(v:Int):Bool:=(F0 fs v).isSome
section
variable{fs:List aG}{v:Int}{k m:Nat}{x:aG}{i:aQ}
theorem Qay(E9:∀(a:Nat) (y:aG),a<k->fs[a]?=some y->∀i,i∈y.insts->¬(i.dst=v/\0<=v))(hx:fs[k]?=some x)(Sk:∀(a:Nat) (i:aQ),a<m->x.insts[a]?=some i->¬(i.dst=v/\0<=v))(hi:x.insts[m]?=some i)(hp:i.dst=v/\0<=v):F0 fs v=some i:=by
 have e:fs.flatMap (λx=>x.insts)=(fs.take k).flatMap (λx=>x.insts)++(x.insts.take m++(i::(x.insts.drop (m+1)++(fs.drop (k+1)).flatMap (λx=>x.insts)))):=by
  conv=>lhs;rw[<-oI k fs,fB hx]
  rw[qf,iE];conv=>lhs;rw[<-oI m x.insts,fB hi]
  simp
 unfold F0;rw[e,find?_append,find?_append,find?_cons];have h1:((fs.take k).flatMap (λx=>x.insts)).find? (λi=>decide (i.dst=v/\0<=v))=none:=by
  rw[qg];intro j hj;obtain⟨y,hy,hj⟩:=fG.1 hj;obtain⟨a,ha⟩:=bq.1 hy;have hak:a<k:=by have:=(aW.1 ha).1;rw[ja]at this;omega
  rw[getElem?_take,ax hak]at ha;have:=E9 a y hak ha j hj;simpa using this
 have h2:(x.insts.take m).find? (λi=>decide (i.dst=v/\0<=v))=none:=by
  rw[qg];intro j hj;obtain⟨a,ha⟩:=bq.1 hj;have ham:a<m:=by have:=(aW.1 ha).1;rw[ja]at this;omega
  rw[getElem?_take,ax ham]at ha;have:=Sk a j ham ha;simpa using this
 rw[h1,h2];simp[hp]
theorem Qaz(hk:ae fs<=k)(E9:∀(a:Nat) (y:aG),a<k->fs[a]?=some y->∀i,i∈y.insts->¬(i.dst=v/\0<=v)):F0 fs v=none:=by
 unfold F0;rw[qg];intro j hj;obtain⟨y,hy,hj⟩:=fG.1 hj;obtain⟨a,ha⟩:=bq.1 hy;have:=E9 a y (by have:=(aW.1 ha).1;omega) ha j hj;simpa using this
theorem Qev(h:F0 fs v=some i):0<=v/\∃x,x∈fs/\i∈x.insts/\i.dst=v:=by
 unfold F0 at h;have h1:=find?_some h;obtain⟨x,hx,hi⟩:=fG.1 (mem_of_find?_eq_some h);simp only[aU]at h1;exact⟨h1.2,x,hx,hi,h1.1⟩
end
def E0(A5 A6 A7:ar):aG:=⟨none,0,[],A7,4,[⟨1,0,2,⟨#[]⟩,none,0,[]⟩,⟨1,1,3,⟨#[]⟩,none,0,[]⟩,⟨17,2,0,⟨#[]⟩,A5,2,[0,1]⟩,⟨10,-1,0,⟨#[]⟩,A6,1,[2]⟩],2,-1,0,0⟩
theorem Qgc{A5 A6 A7:ar}:rH [E0 A5 A6 A7]:=by
 intro x hx;rw[cF]at hx;subst hx;refine⟨by simp[E0,fg],λp hp=>by simp[E0]at hp,by simp[E0,fg],λp hp=> ?_,by simp[E0,In64],by simp[E0,In64],by simp[E0,In64],by simp[E0,In64]⟩;simp only[E0,cG,jt,fH]at hp;rcases hp with rfl|rfl|rfl|rfl
 ·exact⟨by simp[In64],by simp[In64],by simp[In64],by show(0:Nat)<=_;omega,by simp[fg],λx hx=>by simp at hx⟩
 ·exact⟨by simp[In64],by simp[In64],by simp[In64],by show(0:Nat)<=_;omega,by simp[fg],λx hx=>by simp at hx⟩
 ·exact⟨by simp[In64],by simp[In64],by simp[In64],by show(0:Nat)<=_;omega,by simp[fg],λx hx=>by simp at hx;rcases hx with rfl|rfl<;>simp[In64]⟩
 ·exact⟨by simp[In64],by simp[In64],by simp[In64],by show(0:Nat)<=_;omega,by simp[fg],λx hx=>by simp at hx;subst hx;simp[In64]⟩
theorem E1{A5 A6 A7:ar}:cS dxN 0 3 [E0 A5 A6 A7]=0:=Xq ⟨by simp[de,ma,E0],by rfl⟩
def fxI:List aQ:=[⟨1,0,2,⟨#[]⟩,none,0,[]⟩,⟨1,1,3,⟨#[]⟩,none,0,[]⟩,⟨1,2,5,⟨#[]⟩,none,0,[]⟩,⟨10,-1,0,⟨#[]⟩,none,0,[2]⟩]
def R1:bp:=⟨[],fxI,2,-1,0,0,false⟩
theorem MF{A5 A6 A7:ar}:fk (gM [E0 A5 A6 A7]) (kk (gM [E0 A5 A6 A7]) 3)=([R1],[(true,2),(true,3),(true,5)],true):=kR
theorem QaA:fk [R1] [(true,2),(true,3),(true,5)]=([R1],[(true,2),(true,3),(true,5)],false):=kR
theorem MG:dW [R1]=[R1]/\kH [R1]=false:=by
 have h0:([R1]:List bp)[0]?=some R1:=rfl;have hr:Reach (tK [R1]) (0:Int):= .zero;constructor
 ·have h1:=kj h0;have h2:jD [R1] 0 R1=R1:=by unfold jD;rw[ao (λh=>h.1 hr)]
  rw[h2]at h1;have hl:=gK [R1];refine fM λi=> ?_
  cases i with
  |zero=>rw[h1];rfl
  |succ i=>rw[db (by rw[hl];simp),db sI]
 ·unfold kH;refine(@Dq _ (Classical.propDecidable _)).2 ?_;rintro⟨k,x,hx,_,hn⟩;have:k=0:=by have:=(aW.1 hx).1;simp at this;omega
  subst this;exact hn hr
theorem Qew{A5 A6 A7:ar}:rB 3 [E0 A5 A6 A7]=[⟨none,0,[],none,0,fxI,2,-1,0,0⟩]:=by
 have e:uq 3 [E0 A5 A6 A7]=[R1]:=by unfold uq;rw[show(3:Int).toNat=3 from rfl];have h1:=Yo (ks:=gM [E0 A5 A6 A7]) (kn:=kk (gM [E0 A5 A6 A7]) 3) (by rw[MF]);rw[MF]at h1;rw[<-h1,Yp (by rw[QaA]) MG.2,MG.1]
 unfold rB;rw[e];rfl
theorem Qex{A5 A6 A7:ar}{fd:List aG}(h:fY fd (rB 3 [E0 A5 A6 A7])):(∃x,x∈fd/\∃i,i∈x.insts/\i.dst=2)/\∀x,x∈fd->∀i,i∈x.insts->i.dst=2->i.op=1/\i.n=5:=by
 rw[Qew]at h;obtain⟨A1,c1,ps,A2,c2,is,hy,_,his⟩:=X4 h.symm (k:=0) rfl;have his:is.map aQ.e0=fxI.map aQ.e0:=his;have hl:=h.len;constructor
 ·obtain⟨A,c,hq⟩:=Qhd his (j:=2) (p:=⟨1,2,5,⟨#[]⟩,none,0,[]⟩) rfl;exact⟨_,aI hy,_,aI hq,rfl⟩
 ·intro x hx i hi hd;obtain⟨k,hk⟩:=bq.1 hx;have:k=0:=by have:=(aW.1 hk).1;simp at hl;omega
  subst this;rw[hy]at hk;injection hk with hk;subst hk;have hi:i.e0∈is.map aQ.e0:=aO.2 ⟨i,hi,rfl⟩;rw[his]at hi;have hi:i.e0∈fxI:=hi;simp only[fxI,cG,jt,fH]at hi;have e1:i.e0.dst=2:=hd;rcases hi with e|e|e|e
  ·rw[e]at e1;simp at e1
  ·rw[e]at e1;simp at e1
  ·exact⟨aK aQ.op e,aK aQ.n e⟩
  ·rw[e]at e1;simp at e1
theorem Qma{A5 A6 A7:ar}{fd:List aG}(h:fY fd (rB 3 [E0 A5 A6 A7])):mkB fd 2=true/\(Kd fd 2).op=1/\(Kd fd 2).n=5:=by
 obtain⟨⟨x,hx,i,hi,hd⟩,cY⟩:=Qex h;cases hm:F0 fd 2 with
 |none=>
  exfalso;unfold F0 at hm;rw[qg]at hm;exact hm i (fG.2 ⟨x,hx,hi⟩) (by simp[hd])
 |some j=>
  obtain⟨_,y,hy,hj,hjd⟩:=Qev hm;have e:Kd fd 2=j:=by unfold Kd;rw[hm];rfl
  rw[e];exact⟨by unfold mkB;rw[hm];rfl,cY y hy j hj hjd⟩
theorem Qmb{x:bp}(h:x.e=0):me x=[x.a]:=by unfold me;rw[ax h]
theorem Qmc{x:bp}(h0:¬x.e=0)(h:x.e=1):me x=[x.a,x.b]:=by unfold me;rw[ao h0,ax h]
theorem Qmd{x:bp}(h0:¬x.e=0)(h:¬x.e=1):me x=[]:=by unfold me;rw[ao h0,ao h]
theorem R2(x:bp):ae (me x)<=2:=by unfold me;split;simp;split<;>simp
def QiW(N:Int)(x:bp):Prop:=x.gone=false->rn N x
theorem R3{N:Int}{x:bp}(h:rn N x):(me x).Nodup/\∀t,t∈me x->0<=t/\t<N:=by
 unfold me;rcases h with⟨e,h1,_⟩|⟨e,h1,h2,h3⟩|⟨e,_⟩|⟨e,_⟩
 ·rw[ax e];exact⟨sI,by intro t ht;rw[cF.1 ht];exact h1⟩
 ·rw[ao oM,ax e];refine⟨by simp[h3],?_⟩;intro t ht;rcases cG.1 ht with rfl|ht
  ·exact h1
  ·rw[cF.1 ht];exact h2
 ·rw[ao oM,ao oM];exact⟨sI,sI⟩
 ·rw[ao oM,ao oM];exact⟨sI,sI⟩
def sO(ks:List bp)(n:Nat)(t:Int):ah:=((List.range n).filter (λs=>match ks[s]? with
 |some x=> !x.gone&&(me x).contains t
 |none=>false)).map (λs:Nat=>(s:Int))
def F1(ks:List bp)(n:Nat):List ah:=(List.range (ae ks)).map (λt:Nat=>sO ks n (t:Int))
def F2(ks:List bp)(n:Nat)(l:ah):List ah:=(List.range (ae ks)).map (λt:Nat=>sO ks n (t:Int)++(if(t:Int)∈l then[(n:Int)]else[]))
def Qey(ks:List bp):List ah:=(List.range (ae ks)).map (λt:Nat=>ru ks (t:Int))
section
variable{ks:List bp}{n:Nat}{x:bp}
theorem UX(ks:List bp):F1 ks 0=List.replicate (ae ks) []:=by
 unfold F1 sO;simp only[range_zero,Ci,qG];exact map_const' ..|>.trans (by rw[qj])
theorem QaB(ks:List bp)(n:Nat):F2 ks n []=F1 ks n:=by
 unfold F2 F1;refine nL λt _=> ?_
 simp
theorem HB(hx:ks[n]?=some x)(t:Int):sO ks (n+1) t=sO ks n t++(if(!x.gone&&(me x).contains t)=true then[(n:Int)]else[]):=by
 unfold sO;rw[oH,e8,bZ];congr 1;rw[gN,hx];simp only[Ci];split<;>rfl
theorem UY(hx:ks[n]?=some x)(hg:x.gone=true):F1 ks (n+1)=F1 ks n:=by
 unfold F1;refine nL λt _=> ?_
 rw[HB hx,hg];simp
theorem QaC(hx:ks[n]?=some x)(hg:x.gone=false):F2 ks n (me x)=F1 ks (n+1):=by
 unfold F2 F1;refine nL λt _=> ?_
 rw[HB hx,hg];congr 1;simp
theorem QaD{l:ah}{t:Nat}(ht:t<ae ks)(hn:(t:Int)∉l):(F2 ks n l)[t]?=some (sO ks n (t:Int)):=by
 unfold F2;rw[aL,nN ht];simp[hn]
theorem QaE{l:ah}{t:Nat}(ht:t<ae ks)(_hn:(t:Int)∉l):(F2 ks n l).set t (sO ks n (t:Int)++[(n:Int)])=F2 ks n (l++[(t:Int)]):=by
 unfold F2;refine fM λi=> ?_
 by_cases hi:i<ae ks
 ·by_cases e:t=i
  ·subst e;rw[kP (by simpa using ht),aL,nN ht];simp
  ·rw[jP e,aL,aL,nN hi];have:¬(i:Int)=(t:Int):=oM;simp[this]
 ·rw[db (by simp;omega),db (by simp;omega)]
theorem MH(ks:List bp)(n:Nat)(t:Int):ae (sO ks n t)<=n:=by
 unfold sO;rw[bl];exact iz (j6 _ _) sI
theorem QaF(ks:List bp)(t:Int):ae (ru ks t)<=ae ks:=MH ks (ae ks) t
theorem QaG{t:Nat}(ht:t<ae ks):(Qey ks)[t]?=some (ru ks (t:Int)):=by
 unfold Qey;rw[aL,nN ht];rfl
theorem QaH{l:ah}(hn:l.Nodup){j:Nat}{t:Int}(h:l[j]?=some t):t∉l.take j:=by
 intro hm;obtain⟨i,hi⟩:=bq.1 hm;have h1:i<j:=by have:=(aW.1 hi).1;rw[ja]at this;omega
 rw[getElem?_take,ax h1]at hi;have:=(CK (aW.1 hi).1 hn).1 (hi.trans h.symm);omega
end
def UZ(S:ah)(p:da)(j:Nat):List (Int×Int):=((p.from_.zip p.args).take j).filter (λq=>S.contains q.1)
section
variable{S:List Int}{p:da}{j:Nat}{s a:Int}
theorem QaI{l m:ah}(hs:l[j]?=some s)(ha:m[j]?=some a):(l.zip m)[j]?=some (s,a):=by
 rw[IU];exact⟨hs,ha⟩
theorem Qez(hs:p.from_[j]?=some s)(ha:p.args[j]?=some a)(h:S.contains s=true):UZ S p (j+1)=UZ S p j++[(s,a)]:=by
 obtain⟨hk,he⟩:=aW.1 (QaI hs ha);unfold UZ;rw[dh hk,e8,he,gN,ax h];rfl
theorem QiX(hs:p.from_[j]?=some s)(ha:p.args[j]?=some a)(h:S.contains s=false):UZ S p (j+1)=UZ S p j:=by
 obtain⟨hk,he⟩:=aW.1 (QaI hs ha);unfold UZ;rw[dh hk,e8,he,gN,ao (by rw[h];decide)];simp
theorem QeA:ae (UZ S p j)<=j:=by
 unfold UZ;exact iz (j6 _ _) (by rw[ja];omega)
theorem QeB(hl:ae p.args=ae p.from_)(hj:ae p.from_<=j):G8 S p=⟨p.dst,(UZ S p j).map (·.1),(UZ S p j).map (·.2)⟩:=by
 unfold G8 UZ;rw[cL (by rw[length_zip];omega)]
end
def mE(S:ah)(p:da)(j:Nat):ah:=(UZ S p j).map (·.1)
def uG(S:ah)(p:da)(j:Nat):ah:=(UZ S p j).map (·.2)
section
variable{S:List Int}{p:da}{j:Nat}{s a:Int}
theorem QeC(hs:p.from_[j]?=some s)(ha:p.args[j]?=some a)(h:S.contains s=true):mE S p (j+1)=mE S p j++[s]/\uG S p (j+1)=uG S p j++[a]:=by
 unfold mE uG;rw[Qez hs ha h];simp
theorem QiY(hs:p.from_[j]?=some s)(ha:p.args[j]?=some a)(h:S.contains s=false):mE S p (j+1)=mE S p j/\uG S p (j+1)=uG S p j:=by
 unfold mE uG;rw[QiX hs ha h];exact⟨rfl,rfl⟩
theorem QeD:ae (mE S p j)<=j/\ae (uG S p j)=ae (mE S p j):=by
 unfold mE uG;rw[bl,bl];exact⟨QeA,rfl⟩
end
theorem QaJ:∀{l:List fN} {m:Nat} {p:fN},l[m]?=some p->∀(A1 A2:ar) (c1 c2:Nat) (f a:ah),((om l).set (m*3+1) (vS A1 (ae f) c1)).set (m*3+2) (vS A2 (ae a) c2)=om (l.set m ⟨p.dst,A1,c1,f,A2,c2,a⟩)
 |[],m,p,h,_,_,_,_,_,_=>by simp at h
 |q::l,0,p,h,A1,A2,c1,c2,f,a=>by injection h with h;subst h;rfl
 |q::l,m+1,p,h,A1,A2,c1,c2,f,a=>by
  have ih:=QaJ (l:=l) (m:=m) h A1 A2 c1 c2 f a;have e:∀(q:fN) (l:List fN),om (q::l)=q.cells++om l:=λ_ _=>rfl
  rw[Cq,e,e,<-ih,show(m+1)*3+1=ae q.cells+(m*3+1)by rw[mQ];omega,show(m+1)*3+2=ae q.cells+(m*3+2)by rw[mQ];omega];rw[qi _ _ oM,qi _ _ oM];simp
def BX(ml:List Bool):Nat:=ae (ml.filter (λb=> !b))
structure F3(ks:List bp)(ml:List Bool)(lS:ah):Prop where
 len:ae ml=ae ks
 zero:ml.getD 0 false=true
 sub:∀t:Nat,ml.getD t false=true->Reach (tK ks) (t:Int)
 wy:∀t,t∈lS->0<=t/\t<(ae ks:Int)/\ml.getD t.toNat false=true
 cl:∀s:Nat,ml.getD s false=true->(s:Int)∈lS\/∀t:Int,t∈tK ks (s:Int)->ml.getD t.toNat false=true
structure F4(ks:List bp)(b:Nat)(l:ah)(ml:List Bool)(lS:ah):Prop where
 len:ae ml=ae ks
 zero:ml.getD 0 false=true
 sub:∀t:Nat,ml.getD t false=true->Reach (tK ks) (t:Int)
 wy:∀t,t∈lS->0<=t/\t<(ae ks:Int)/\ml.getD t.toNat false=true
 at_:Reach (tK ks) (b:Int)
 done:∀t,t∈l->ml.getD t.toNat false=true
 cl:∀s:Nat,ml.getD s false=true->(s:Int)∈lS\/s=b\/∀t:Int,t∈tK ks (s:Int)->ml.getD t.toNat false=true
theorem MJ:∀{ml:List Bool} {t:Nat},ml[t]?=some false->BX (ml.set t true)+1=BX ml
 |[],t,h=>by simp at h
 |b::ml,0,h=>by injection h with h;subst h;simp[BX]
 |b::ml,t+1,h=>by
  have h1:=MJ (ml:=ml) (t:=t) h;have key:∀l:List Bool,BX (b::l)=BX l+(if b then 0 else 1):=λl=>by unfold BX;cases b<;>simp
  rw[Cq,key,key];omega
section
variable{ks:List bp}{ml:List Bool}{lS l:List Int}{b:Nat}{t:Int}
theorem P5(ml:List Bool)(t s:Nat)(ht:t<ae ml):(ml.set t true).getD s false=true↔s=t\/ml.getD s false=true:=by
 rw[et,getElem?_set];by_cases e:t=s
 ·subst e;rw[ax rfl,ax ht];simp
 ·rw[ao e,<-et];exact⟨.inr,λh=>h.resolve_left (λe2=>e e2.symm)⟩
theorem F3.start(hc:vL ks):F3 ks ((List.replicate (ae ks) false).set 0 true) [0]:=by
 have h0:0<ae ks:=by obtain⟨i,x,_,hx,_⟩:=hc.zero;have:=(aW.1 hx).1;omega
 have key:∀s:Nat,((List.replicate (ae ks) false).set 0 true).getD s false=true->s=0:=by
  intro s h;rcases(P5 _ 0 s (by simpa using h0)).1 h with h|h
  ·exact h
  ·exfalso;rw[et,getElem?_replicate]at h;split at h<;>cases h
 have hz:((List.replicate (ae ks) false).set 0 true).getD 0 false=true:=(P5 _ 0 0 (by simpa using h0)).2 (.inl rfl);refine⟨sI,hz,λt ht=> ?_,λt ht=> ?_,λs hs=> ?_⟩
 ·rw[key t ht];exact .zero
 ·rw[cF.1 ht];exact⟨oM,oM,hz⟩
 ·rw[key s hs];exact .inl sI
theorem F3.pop(h:F3 ks ml (lS++[(b:Int)])):F4 ks b [] ml lS:=by
 have hb:=h.wy (b:Int) sI;refine⟨h.len,h.zero,h.sub,λt ht=>h.wy t (by simp[ht]),h.sub b (by simpa using hb.2.2),λt ht=>(by cases ht),λs hs=> ?_⟩;rcases h.cl s hs with h1|h1
 ·rcases bV.1 h1 with h1|h1
  ·exact .inl h1
  ·exact .inr (.inl (by have:=cF.1 h1;omega))
 ·exact .inr (.inr h1)
theorem F4.old(h:F4 ks b l ml lS)(hm:ml.getD t.toNat false=true):F4 ks b (l++[t]) ml lS:=⟨h.len,h.zero,h.sub,h.wy,h.at_,λs hs=>by
  rcases bV.1 hs with hs|hs
  ·exact h.done s hs
  ·rw[cF.1 hs];exact hm,h.cl⟩
theorem F4.new(h:F4 ks b l ml lS)(ht:t∈tK ks (b:Int))(h0:0<=t)(h1:t<(ae ks:Int)):F4 ks b (l++[t]) (ml.set t.toNat true) (lS++[t]):=by
 have hl:=h.len;have hs:=λs=>P5 ml t.toNat s oM
 have hr:Reach (tK ks) t:= .step h.at_ ht;refine⟨by simp[h.len],(hs 0).2 (.inr h.zero),λs hm=> ?_,λs hm=> ?_,h.at_,λs hm=> ?_,λs hm=> ?_⟩
 ·rcases(hs s).1 hm with e|e
  ·rw[e,jM h0];exact hr
  ·exact h.sub s e
 ·rcases bV.1 hm with hm|hm
  ·obtain⟨q1,q2,q3⟩:=h.wy s hm;exact⟨q1,q2,(hs _).2 (.inr q3)⟩
  ·rw[cF.1 hm];exact⟨h0,h1,(hs _).2 (.inl rfl)⟩
 ·rcases bV.1 hm with hm|hm
  ·exact(hs _).2 (.inr (h.done s hm))
  ·rw[cF.1 hm];exact(hs _).2 (.inl rfl)
 ·rcases(hs s).1 hm with e|e
  ·exact .inl (by rw[e,jM h0];simp)
  ·rcases h.cl s e with q|q|q
   ·exact .inl (by simp[q])
   ·exact .inr (.inl q)
   ·exact .inr (.inr λu hu=>(hs _).2 (.inr (q u hu)))
theorem F4.fin(h:F4 ks b l ml lS)(hl:tK ks (b:Int)=l):F3 ks ml lS:=⟨h.len,h.zero,h.sub,h.wy,λs hs=>by
  rcases h.cl s hs with q|q|q
  ·exact .inl q
  ·exact .inr (by rw[q,hl];exact h.done)
  ·exact .inr q⟩
theorem F3.done(h:F3 ks ml [])(hc:vL ks)(t:Nat):ml.getD t false=true↔Reach (tK ks) (t:Int):=by
 refine⟨h.sub t,λhr=> ?_⟩;have key:∀x:Int,Reach (tK ks) x->ml.getD x.toNat false=true:=by
  intro x hx;induction hx with
  |zero=>exact h.zero
  | @step x t hx ht ih=>
   obtain⟨i,z,rfl,_,_⟩:=sD hc hx;rcases h.cl i (by simpa using ih)with q|q
   ·cases q
   ·exact q t ht
 simpa using key _ hr
end
theorem E2{w:World}{A:ar}{ad:Addr}{k:Nat}{gs:List aY}{x:aY}(h:(bD.rd A (nh gs)).holds w)(hA:A=some ad)(hx:gs[k]?=some x):w.cell? (ad.add (k*1))=some (vP (aZ x.g)):=bW h hA (by unfold nh;rw[aL,hx];rfl)
theorem QeE(ml:List Bool):BX ml<=ae ml:=j6 _ _
def QeF(x:aY):Prop:=ae x.ak<=20000/\∀p,p∈x.ak->ae p.args=ae p.from_/\ae p.from_<=20000
abbrev QaK(x:aY):aY:=⟨x.g,none,0,[],none,0,[],2,-1,x.a,x.b,true⟩
theorem QiZ(x:aY):QeF (QaK x):=⟨cI _,λp hp=>(by cases hp)⟩
theorem Qme{ks:List bp}{k:Nat}{x:aY}(hr:¬Reach (tK ks) (k:Int))(hg:x.gone=false):(QaK x).k=jD ks k x.k:=by
 unfold jD;rw[ax ⟨hr,hg⟩];rfl
theorem Qi0{ks:List bp}{k:Nat}{x:aY}(h:¬(¬Reach (tK ks) (k:Int)/\x.gone=false)):x.k=jD ks k x.k:=by
 unfold jD;rw[ao (show¬(¬Reach (tK ks) (k:Int)/\x.k.gone=false)from h)]
theorem HC{ks:List bp}{k:Nat}{x:bp}{tb tb':Bool}(hx:ks[k]?=some x)(h:tb=true↔∃(i:Nat) (x:bp),i<k/\ks[i]?=some x/\x.gone=false/\¬Reach (tK ks) (i:Int))(h':tb'=true↔tb=true\/(x.gone=false/\¬Reach (tK ks) (k:Int))):tb'=true↔∃(i:Nat) (x:bp),i<k+1/\ks[i]?=some x/\x.gone=false/\¬Reach (tK ks) (i:Int):=by
 rw[h',h];constructor
 ·rintro(⟨i,y,h1,h2⟩|h1)
  ·exact⟨i,y,oM,h2⟩
  ·exact⟨k,x,oM,hx,h1⟩
 ·rintro⟨i,y,h1,h2,h3⟩;by_cases e:i=k
  ·subst e;rw[hx]at h2;injection h2 with h2;subst h2;exact .inr h3
  ·exact .inl ⟨i,y,oM,h2,h3⟩
theorem QaL{ks:List bp}{k:Nat}{tb:Bool}(hk:ae ks<=k)(h:tb=true↔∃(i:Nat) (x:bp),i<k/\ks[i]?=some x/\x.gone=false/\¬Reach (tK ks) (i:Int)):tb=kH ks:=by
 have h2:kH ks=true↔∃(i:Nat) (x:bp),ks[i]?=some x/\x.gone=false/\¬Reach (tK ks) (i:Int):=by unfold kH;exact @decide_eq_true_iff _ (Classical.propDecidable _)
 rw[Bool.eq_iff_iff,h,h2];exact⟨fun⟨i,x,_,h⟩=>⟨i,x,h⟩,fun⟨i,x,h⟩=>⟨i,x,by have:=(aW.1 h.1).1;omega,h⟩⟩
theorem P6{ks:List bp}(hc:vL ks):∀x,x∈gv ks->QiW (ae ks:Int) x:=by
 intro y hy hg;obtain⟨k,hk⟩:=bq.1 hy;obtain⟨x,hx⟩:=aP (l:=ks) (i:=k) (by rw[<-pM ks];exact(aW.1 hk).1);rw[pL hx]at hk;injection hk with hk;subst hk;unfold jD at hg⊢;split at hg
 ·cases hg
 ·rename_i h;rw[ao h];exact hc.ends x (aI hx) hg
theorem MK{ks hd:List bp}{k:Nat}{x y:bp}(hh:hd=(dW ks).take k)(hx:(gv ks)[k]?=some x)(hy:y=vM (ru (gv ks) (k:Int)) x):hd++[y]=(dW ks).take (k+1):=by
 have h1:(dW ks)[k]?=some (vM (ru (gv ks) (k:Int)) x):=by unfold dW;rw[aL,l6,hx];simp
 obtain⟨hk,he⟩:=aW.1 h1;rw[dh hk,he,hh,hy]
theorem QaM{S:ah}{x:aY}{pd:List fN}{j:Nat}{p q:fN}(hp:x.ak[j]?=some p)(h:pd.map fN.k=(x.ak.take j).map (λp=>G8 S p.k))(hq:q.k=G8 S p.k):(pd++[q]).map fN.k=(x.ak.take (j+1)).map (λp=>G8 S p.k):=by
 obtain⟨hk,he⟩:=aW.1 hp;rw[dh hk,he,bZ,bZ,h];simp[hq]
theorem JQ{α:Type}{l pd:List α}{j:Nat}{p y:α}(hp:l[j]?=some p)(hl:ae pd=j):(pd++l.drop j).set j y=(pd++[y])++l.drop (j+1):=by
 rw[fB hp,qi _ _ oM,hl,l5,dV];rfl
theorem Mem.Qmf{S:Nat->Prop}{w0 w:World}{a b c:bD}(h:Mem S w0 w [a,b,c]):Mem S w0 w [.pk [a,b,c]]:=Mem.pack (l:=[a,b,c]) (L:=[]) h
theorem E3{ks hd:List bp}{k:Nat}{x:bp}(hh:hd=(gv ks).take k)(hx:ks[k]?=some x){y:bp}(hy:y=jD ks k x):hd++[y]=(gv ks).take (k+1):=by
 obtain⟨hk,he⟩:=aW.1 (pL hx);rw[dh hk,he,hh,hy]
def Qgl(op:Int):Prop:=op=1\/op=6\/op=7\/41<=op\/(17<=op/\op≠20/\op≠21)
instance (op : Int) : Decidable (Qgl op) := by unfold Qgl; infer_instance
def Qgm(i j:aQ):Prop:=((i.op=j.op/\i.n=j.n)/\i.name.toList=j.name.toList)/\i.args=j.args
instance (i j : aQ) : Decidable (Qgm i j) := by unfold Qgm; infer_instance
end Go.Mor
