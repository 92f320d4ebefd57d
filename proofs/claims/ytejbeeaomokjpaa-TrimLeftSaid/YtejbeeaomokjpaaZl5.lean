/-
  Texts of the proof, part 5.
-/
import Derived.Test.YtejbeeaomokjpaaZl4
import Derived.ProofKit
import Derived.Deep.Fields
import Derived.Lib.SmallJoins
set_option maxRecDepth 10000
namespace Go.Mor
open Go.ChangeShapes Go.WideShapes Go.Deep
section
variable {H : Type} {enc : TypeId × Value → H} {P : Program} {w : World} {base : Nat} {spare : Nat → Bool} {held : Bool}
theorem QL{t:TypeId}{k:IntKind}(ht:P.underlying t=some (.int k)){fuel:Nat}{v:Value}{x:DataW H×List MemPlace}(h:DataW.trod enc P w base spare held fuel t [v]=some x):∃n,v= .int k n∧k.min≤n∧n≤k.max:=by
 obtain⟨n,h1,_,h2⟩:=DataW.trod_int ht h;simp at h1;simp only[Lit.wf,Qjo,QcD]at h2;exact⟨n,h1,h2.1,h2.2⟩
theorem tD{α:Type}{n:Nat}{p:Nat→α→Prop}(h:∀i,i<n→∃x,p i x):∃l:List α,l.length=n∧∀i x,l[i]?=some x→p i x:=by
 induction n with
 |zero=>exact⟨[],rfl,sI⟩
 |succ n ih=>
  obtain⟨l,hl,hp⟩:=ih fun i hi=>h i oM
  obtain⟨x,hx⟩:=h n oM;refine⟨l++[x],by simp[hl],fun i y hi=> ?_⟩;rcases iR i n with h1|h1|h1
  ·rw[List.getElem?_append_left oM]at hi;exact hp i y hi
  ·subst h1;rw[List.getElem?_append_right oM]at hi;simp[hl]at hi;exact hi▸hx
  ·rw[List.getElem?_eq_none (by simp;omega)]at hi;cases hi
end
end Go.Mor
namespace Go.Mor
open Go.ChangeShapes Go.WideShapes Go.ChangeAt Go.RowKit Go.Deep
section
variable {H : Type} {enc : TypeId × Value → H} {P : Program}
theorem pJ(hl:laidOutB P=true){base:Nat}{sp:Nat→Bool}{W W':World}:∀{ts:List TypeId} {vs:aW} {ds:List (DataW H)} {ps:List MemPlace},ts.all (fun t=>P.readableRec t&&decide (t<P.types.size))=true→DataW.TrodAll enc P W base (fun _=>true) true ts vs ds ps→(∀p∈ps,W.sameAt W' p)→(∀p∈ps,sp p.block=true)→DataW.TrodAll enc P W' base sp true ts vs ds ps
 |[],vs,ds,ps,_,h,_,_=>by cases vs<;>cases ds<;>simp_all[DataW.TrodAll]
 |t::ts,vs,ds,ps,hr,h,Pu,hs=>by obtain⟨v,Pv,d,ds',p,q,rfl,rfl,rfl,h1,h2⟩:=trodAll_cons h;simp only[List.all_cons,Qjo,QcD]at hr;exact⟨p,q,WideElems.Trod_stays hl hr.1.1 hr.1.2 h1 (fun x hx=>Pu x (Qi6 _ hx)) (fun x hx=>hs x (Qi6 _ hx)),pJ hl hr.2 h2 (fun x hx=>Pu x (Qjl _ hx)) (fun x hx=>hs x (Qjl _ hx)),rfl⟩
theorem Fq(hl:laidOutB P=true){f:Func}{s:ChangeSpec}{W W':World}{args:Array Value}{ds gs:List (DataW H)}{ps:List MemPlace}{tb:TypeId}(hb:P.underlying tb=some .bool)(Zm:f.resultTypes=#[tb])(hr:f.params.toList.all (fun t=>P.readableRec t&&decide (t<P.types.size))=true)(hv:s.vars=[])(hW:DataW.Whole enc P f.params.toList [] false W args.toList ds gs ps)(h1:(s.fn H (ds++gs)).results=[.lit (.bool true)])(h2:(s.fn H (ds++gs)).args=ds)(h3:(s.fn H (ds++gs)).vars=[]){w':World}(hm:Mem bK W W' [])(e:W'=w'):s.post enc P f false true false false W args (.bool true) w':=by
 subst e;obtain⟨p,q,hA,hV,Pw,hz,hn⟩:=hW;obtain⟨hg,hq⟩:=trodVars_none hV;subst hg;subst hq;have Co:Below W.heap.size W W':=hm.below;have X3:DataW.Whole enc P f.params.toList [] false W args.toList ds [] ps:=⟨p,[],hA,hV,Pw,hz,hn⟩;have fm:=X3.lt;rw[QiY]at Pw;subst Pw;refine⟨ds,[],ps,[],ps,[],by rw[hv];exact X3,?_,?_,?_,Co.frame _,fun h=>by simp at h⟩
 ·rw[h1,Zm];exact trodAll_mk1 (shut_bool hb _)
 ·rw[h2];exact pJ hl hr hA (fun x hx=>Co.same (fm x hx)) (fun x hx=>by simpa using fm x hx)
 ·rw[h3,hv];exact(rfl:_=_)
end
end Go.Mor
namespace Go.Mor
open Go.RowKit
theorem Fs{P:Program}{c:Code}{K:Act→World→Prop}{Q:Exit→Act→World→Prop}{a:Act}{w:World}{k k':Nat}{N:FN}{env:Env}{d:Option Nat}{ty:Nat}{g:Option (Nat×Bool)}{t t':TypeId}{x:Operand}(hk:ao c k=some (d,.convert t t' x,ty,g))(hF:Fr a N env)(hg:bw c g env=some true)(hd:iy d N=true)(ja:k+1=k'){kd kd' ks:IntKind}{i z:Int}(hx:ev env x=some (.int kd i))(hs:P.underlying t=some (.int ks))(ht:P.underlying t'=some (.int kd'))(hz:kd'.wrap i=z)(h:∀a',a'=a.put d (.int kd' z)→Fr a' N (dE env d (.int kd' z))→br P c K Q k' a' w):br P c K Q k a w:=by
 refine eO hk hF hg hd ja (fun o ho=> ?_) h;unfold execOp;rw[ho];simp[hF.ev hx,convert,xf,vc hs,vc ht,Qdu,Conv.intToInt,hz]
end Go.Mor
namespace Go.Mor
open Go.RowKit
def bo.Hi(A:aX)(size:Nat)(Px:List aW):bo where
 fp:=fun k=>(∃i cs,Px[i]?=some cs∧cs≠[])∧∃a,A=some a∧a.block=k
 holds w:=∀i cs,Px[i]?=some cs→∃ad,A=some ad∧∀j v,cs[j]?=some v→w.cell? ((ad.add (i*size)).add j)=some v
 gJ:=by
  intro w w' h hw i cs hi
  obtain⟨a,ha,hc⟩:=hw i cs hi
  refine⟨a,ha,fun j v hj=> ?_⟩
  rw[←hc j v hj]
  refine World.cell?_of_block ?_
  rw[block_add,block_add]
  exact h a.block ⟨⟨i,cs,hi,by rintro rfl;simp at hj⟩,a,ha,rfl⟩
 lt:=by
  rintro w k hw ⟨⟨i,cs,hi,cU⟩,a,rfl,rfl⟩
  obtain⟨a',ha,hc⟩:=hw i cs hi
  injection ha with ha
  subst ha
  cases cs with
  |nil=>exact absurd rfl cU
  |cons x cs=>
   have h0:=hc 0 x rfl
   unfold World.cell? at h0
   split at h0
   ·rename_i h;have:=mI h;rwa [block_add,block_add]at this
   ·cases h0
theorem e8{w:World}{A:aX}{size:Nat}{Px:List aW}{ad:Addr}(h:(bo.Hi A size Px).holds w)(hA:A=some ad){i:Nat}{cs:aW}(hi:Px[i]?=some cs):∀j v,cs[j]?=some v→w.cell? ((ad.add (i*size)).add j)=some v:=by
 obtain⟨a',ha,hc⟩:=h i cs hi;rw[hA]at ha;injection ha with ha;subst ha;exact hc
theorem qw{w:World}{A:aX}{size:Nat}{Px:List aW}{cs:aW}{i:Nat}(h:(bo.Hi A size Px).holds w)(hi:Px[i]?=some cs):∃ad,A=some ad:=by
 obtain⟨a',ha,_⟩:=h i cs hi;exact⟨a',ha⟩
structure SB where
 pA:aX
 pn:Nat
 pc:Nat
 iA:aX
 ik:Nat
 ic:Nat
 e:Int
 v:Int
 a:Int
 b:Int
def SB.cells(x:SB):aW:=[.slice x.pA x.pn x.pc,.slice x.iA x.ik x.ic,vI x.e,vI x.v,vI x.a,vI x.b]
def bo.blocks(A:aX)(bs:List SB):bo:= .Hi A 6 (bs.map SB.cells)
theorem dN{w:World}{A:aX}{bs:List SB}{i:Nat}{x:SB}(h:(bo.blocks A bs).holds w)(hi:bs[i]?=some x):∃ad,A=some ad:=qw (cs:=x.cells) (i:=i) h (by simp[hi])
theorem qj{w:World}{A:aX}{bs:List SB}{ad:Addr}{i:Nat}{x:SB}(h:(bo.blocks A bs).holds w)(hA:A=some ad)(hi:bs[i]?=some x):∀j v,[.slice x.pA x.pn x.pc,.slice x.iA x.ik x.ic,vI x.e,vI x.v,vI x.a,vI x.b][j]?=some v→w.cell? ((ad.add (i*6)).add j)=some v:=e8 (cs:=x.cells) h hA (by simp[hi])
theorem H0{α:Type}{l:List α}{i:Int}(h0:0≤i)(h:i<l.length):∃x,l[i.toNat]?=some x:=⟨_,List.getElem?_eq_getElem oM⟩
theorem H2{l:ar}{k:Int}{j:Nat}(h:(l.take j).contains k=false)(hc:¬(l.getD (j:Int).toNat 0=k))(hj:j<l.length):(l.take (j+1)).contains k=false:=by
 rw[QjK hj];simp only[ld,List.getD,List.getElem?_eq_getElem hj,Qjs]at hc;simp only[QdI,nS,QiU,QcC]at h⊢;exact fun hh=>hh.elim h (fun e=>hc e.symm)
theorem Mw{l:ar}{k:Int}{j:Nat}(hc:l.getD (j:Int).toNat 0=k)(hj:j<l.length):l.contains k=true:=by
 simp only[ld,List.getD,List.getElem?_eq_getElem hj,Qjs]at hc;simp only[QdI,QcD];exact hc▸Qi7 hj
theorem QM{l:ar}{k:Int}{j:Nat}(h:(l.take j).contains k=false)(hj:l.length≤j):l.contains k=false:=by
 rwa [uK hj]at h
theorem mO{w w':World}{A:aX}{n c:Nat}{l l0:ar}(hM:Mem bK w w' [.row 3 1 A n c (ints l)])(e:l=l0)(hn:n=l.length):∃A' c',Value.slice A n c=vS A' l0.length c'∧Mem bK w w' [.row 3 1 A' l0.length c' (ints l0)]:=by
 subst e;subst hn;exact⟨A,c,rfl,hM⟩
theorem Ha{w w':World}{l0:ar}(hM:Mem bK w w' [])(e:l0=[]):∃A' c',Value.slice none 0 0=vS A' l0.length c'∧Mem bK w w' [.row 3 1 A' l0.length c' (ints l0)]:=by
 subst e;exact⟨none,0,rfl,hM.call (Mem.gK _ 3 1)⟩
def gU(n:Nat)(t:Int):Bool:=decide (0≤t)&&decide (t<n)
def zH(n:Nat)(x:SB):ar:=(if x.e=0 then[x.a]else if x.e=1 then(if x.a=x.b then[x.a]else[x.a,x.b])else[]).filter (gU n)
def tg(bs:List SB)(b:Int):ar:=if 0≤b then(match bs[b.toNat]? with
 |some x=>zH bs.length x
 |none=>[])else[]
theorem uI{bs:List SB}{b:Int}(h:b<0∨(bs.length:Int)≤b):tg bs b=[]:=by
 unfold tg;split
 ·rw[List.getElem?_eq_none oM]
 ·rfl
theorem wW{bs:List SB}{b:Int}{x:SB}(h:0≤b)(hx:bs[b.toNat]?=some x):tg bs b=zH bs.length x:=by
 unfold tg;rw[dd h,hx]
theorem Mx(n:Nat)(x:SB):(zH n x).length≤2:=by
 unfold zH;refine pX (Qjt _ _) ?_;split
 ·simp
 ·split
  ·split<;>simp
  ·simp
theorem oe(bs:List SB)(b:Int):(tg bs b).length≤2:=by
 unfold tg;split
 ·split
  ·exact Mx _ _
  ·simp
 ·simp
theorem og{bs:List SB}{b t:Int}(h:t∈tg bs b):0≤t∧t<bs.length:=by
 unfold tg at h;split at h
 ·split at h
  ·simp only[zH,Qjr,gU,Qjo,QcD]at h;exact h.2
  ·simp at h
 ·simp at h
theorem QN{n:Nat}{t:Int}(h:t<0):gU n t=false:=by
 unfold gU;simp;omega
theorem QO{n:Nat}{t:Int}(h:¬t<0):decide (t≥(n:Int))=!(gU n t):=by
 unfold gU;have h0:decide (0≤t)=true:=by simp;omega
 rw[h0,Bool.true_and];by_cases h1:t<(n:Int)
 ·simp[h1]
 ·simp[h1];omega
theorem ints_set(l:ar)(i:Nat)(v:Int):ints (l.set i v)=(ints l).set i (vI v):=by simp[ints,qB]
theorem mP(n:Nat)(l:ar):l.filter (fun x=> !((fun x=> !(gU n x)) x))=l.filter (gU n):=by
 apply I4;intro x _;simp
theorem H3{n:Nat}{x:SB}(h0:¬x.e=0)(h1:¬x.e=1):([]:ar).filter (fun x=> !((fun x=> !(gU n x)) x))=zH n x:=by
 rw[mP];unfold zH;rw[QcA h0,QcA h1]
theorem Eh{n:Nat}{x:SB}(h:x.e=0∨(¬x.e=0∧x.e=1∧x.a=x.b)):[x.a].filter (fun x=> !((fun x=> !(gU n x)) x))=zH n x:=by
 rw[mP];unfold zH;rcases h with h|⟨h,h1,h2⟩
 ·rw[dd h]
 ·rw[QcA h,dd h1,dd h2]
theorem My{n:Nat}{x:SB}(h:x.e=1)(h2:¬x.a=x.b):[x.a,x.b].filter (fun x=> !((fun x=> !(gU n x)) x))=zH n x:=by
 rw[mP];unfold zH;rw[QcA oM,dd h,QcA h2]
def LH(n:Nat)(x:SB):ar:=if gU n x.a then[x.a]else[]
def QP(n:Nat)(x:SB):ar:=if x.e=1∧x.b≠x.a∧gU n x.b=true then[x.b]else[]
theorem rt_eq{n:Nat}{x:SB}(h:x.e=0∨x.e=1):LH n x++QP n x=zH n x:=by
 unfold LH QP zH;rcases h with h|h
 ·rw[dd h,QcA (show¬(x.e=1∧x.b≠x.a∧gU n x.b=true)by rintro⟨h1,_⟩;omega)];by_cases h1:gU n x.a=true<;>simp[h1]
 ·rw[QcA (show¬x.e=0 by omega),dd h];by_cases h0:x.a=x.b
  ·rw[dd h0,QcA (show¬(x.e=1∧x.b≠x.a∧gU n x.b=true)from fun hh=>hh.2.1 h0.symm)];by_cases h1:gU n x.a=true<;>simp[h1]
  ·rw[QcA h0];have eD:x.b≠x.a:=fun e=>h0 e.symm
   by_cases h1:gU n x.a=true<;>by_cases h2:gU n x.b=true
   ·rw[dd h1,dd ⟨h,eD,h2⟩];simp[h1,h2]
   ·rw[dd h1,QcA (fun hh=>h2 hh.2.2)];simp[h1,h2]
   ·rw[QcA h1,dd ⟨h,eD,h2⟩];simp[h1,h2]
   ·rw[QcA h1,QcA (fun hh=>h2 hh.2.2)];simp[h1,h2]
theorem Mz{n:Nat}{x:SB}(h0:¬x.e=0)(h1:¬x.e=1):zH n x=[]:=by
 unfold zH;rw[QcA h0,QcA h1];rfl
theorem MA{n:Nat}{x:SB}(h0:x.a≥0)(h1:x.a<n):LH n x=[x.a]:=by simp[LH,gU,h0,h1]
theorem H4{n:Nat}{x:SB}(h:x.a<0∨¬x.a<n):LH n x=[]:=by
 unfold LH gU;rw[QcA];simp only[Qjo,QcD];omega
theorem MB{n:Nat}{x:SB}(h:x.e=1)(h':x.b≠x.a)(h0:x.b≥0)(h1:x.b<n):QP n x=[x.b]:=by simp[QP,gU,h,h',h0,h1]
theorem yD{n:Nat}{x:SB}(h:¬x.e=1∨¬x.b≠x.a∨¬(x.b≥0)∨¬x.b<n):QP n x=[]:=by
 unfold QP gU;rw[QcA];simp only[Qjo,QcD];omega
theorem Ei(n:Nat)(x:SB):(LH n x).length≤1:=by unfold LH;split<;>simp
def dW(bs:List SB)(b:Int)(k:Nat):ar:=((List.range k).filter (fun i:Nat=>(tg bs (i:Int)).contains b)).map (fun i:Nat=>(i:Int))
def bS(bs:List SB)(b:Int):ar:=dW bs b bs.length
theorem oh(bs:List SB)(b:Int)(k:Nat):dW bs b (k+1)=dW bs b k++(if(tg bs (k:Int)).contains b=true then[(k:Int)]else[]):=by
 unfold dW;rw[lh,xH,Qjy];congr 1;by_cases h:(tg bs (k:Int)).contains b=true
 ·rw[dd h];simp only[Qjz,h,Qi5,ep,lR,Qi3]
 ·rw[QcA h];rw[QjA]at h;simp only[Qjz,h,Qcr,sy,ep,Qi3]
theorem fZ(bs:List SB)(b:Int)(k:Nat):(dW bs b k).length≤k:=by
 unfold dW;rw[QjN];exact pX (Qjt _ _) sI
def nH(p:Int→Bool)(l:ar):Int:=match l.findIdx? p with
 |some i=>(i:Int)
 |none=> -1
theorem H5{p:Int→Bool}{l:ar}{j:Nat}(h:(l.take j).any p=false)(hc:p (l.getD (j:Int).toNat 0)=false)(hj:j<l.length):(l.take (j+1)).any p=false:=by
 rw[QjK hj];simp only[ld,List.getD,List.getElem?_eq_getElem hj,Qjs]at hc;rw[QjB,h];simp[hc]
theorem Aj{p:Int→Bool}{l:ar}{j:Nat}(h:(l.take j).any p=false)(hc:p (l.getD (j:Int).toNat 0)=true)(hj:j<l.length):nH p l=(j:Int):=by
 simp only[ld,List.getD,List.getElem?_eq_getElem hj,Qjs]at hc;unfold nH;have:l.findIdx? p=some j:=by rw[List.findIdx?_eq_some_iff_getElem];refine⟨hj,hc,fun i hi=> ?_⟩;simp only[vA]at h;exact h _ (s5.2 ⟨i,by simp;omega,sI⟩)
 rw[this]
theorem wX{p:Int→Bool}{l:ar}{j:Nat}(h:(l.take j).any p=false)(hj:l.length≤j):nH p l= -1:=by
 rw[uK hj]at h;unfold nH;have:l.findIdx? p=none:=by rw[List.findIdx?_eq_none_iff];simpa using h
 rw[this]
theorem yH(p:Int→Bool)(l:ar): -1≤nH p l∧nH p l<l.length:=by
 unfold nH;cases h:l.findIdx? p with
 |none=>simp only[];omega
 |some i=>
  rw[List.findIdx?_eq_some_iff_getElem]at h;obtain⟨h1,_⟩:=h;simp only[];omega
theorem QbA(l:ar)(k:Int):decide (nH (fun x=>x==k) l≥0)=l.contains k:=by
 unfold nH;cases h:l.findIdx? (fun x=>x==k)with
 |none=>
  rw[List.findIdx?_eq_none_iff]at h;have:l.contains k=false:=by simp only[QdI,nS];intro hk;have:=h k hk;simp at this
  rw[this];simp
 |some i=>
  rw[List.findIdx?_eq_some_iff_getElem]at h;obtain⟨h1,h2,_⟩:=h;have:l.contains k=true:=by
   simp only[QdI,QcD];have h3:l[i]=k:=by simpa using h2
   exact h3▸Qi7 h1
  rw[this];simp only[ge_iff_le,QcD];omega
def kept(p:Int→Bool)(l:ar)(j:Nat):ar:=(l.take j).filter (fun x=> !p x)
theorem H6{p:Int→Bool}{l:ar}{j:Nat}(hj:j<l.length)(hc:p (l.getD (j:Int).toNat 0)=false):kept p l (j+1)=kept p l j++[l.getD (j:Int).toNat 0]:=by
 unfold kept;simp only[ld,List.getD,List.getElem?_eq_getElem hj,Qjs]at hc⊢;rw[QjK hj,xH];simp[hc]
theorem MC{p:Int→Bool}{l:ar}{j:Nat}(hj:j<l.length)(hc:p (l.getD (j:Int).toNat 0)=true):kept p l (j+1)=kept p l j:=by
 unfold kept;simp only[ld,List.getD,List.getElem?_eq_getElem hj,Qjs]at hc⊢;rw[QjK hj,xH];simp[hc]
theorem An{p:Int→Bool}{l:ar}{j:Nat}(hj:l.length≤j):kept p l j=l.filter (fun x=> !p x):=by
 unfold kept;rw[uK hj]
theorem any_filter{p:Int→Bool}{l:ar}(h:nH p l= -1):l.filter (fun x=> !p x)=l:=by
 unfold nH at h;cases hh:l.findIdx? p with
 |some i=>rw[hh]at h;simp only[]at h;omega
 |none=>
  rw[List.findIdx?_eq_none_iff]at hh;rw[QjO];intro x hx;simp[hh x hx]
theorem CQ{p:Int→Bool}{l:ar}(h:nH p l≠-1):∃i:Nat,nH p l=(i:Int)∧i<l.length∧kept p l (i+1)=l.take i:=by
 unfold nH at h⊢;cases hh:l.findIdx? p with
 |none=>rw[hh]at h;simp at h
 |some i=>
  rw[List.findIdx?_eq_some_iff_getElem]at hh;obtain⟨h1,h2,h3⟩:=hh;refine⟨i,rfl,h1,?_⟩;unfold kept;rw[QjK h1,xH];have:[l[i]].filter (fun x=> !p x)=[]:=by simp[h2]
  rw[this,QiY,QjO];intro x hx;obtain⟨j,hj,rfl⟩:=s5.1 hx;simp at hj;have:=h3 j oM;simpa using this
def CR(l m k:ar)(j:Nat):Prop:=m.length=l.length∧m.take k.length=k∧m.drop j=l.drop j∧k.length<j
theorem H7{l m k:ar}{j:Nat}(h:CR l m k j):m.getD (j:Int).toNat 0=l.getD (j:Int).toNat 0:=by
 obtain⟨h1,_,h3,_⟩:=h;simp only[ld,List.getD];have e:∀x:ar,x[j]?=(x.drop j)[0]?:=fun x=>sI
 rw[e m,e l,h3]
theorem MD{l m k:ar}{j:Nat}(h:CR l m k j):CR l m k (j+1):=by
 obtain⟨h1,h2,h3,h4⟩:=h;refine⟨h1,h2,?_,oM⟩;rw[←xC,←xC,h3]
theorem H8{l m k:ar}{j:Nat}(h:CR l m k j)(hj:j<l.length)(v:Int):CR l (m.set k.length v) (k++[v]) (j+1):=by
 obtain⟨h1,h2,h3,h4⟩:=h;refine⟨by simpa using h1,?_,?_,by simp;omega⟩
 ·rw[rV,Qcz,QjK (by simp;omega)];rw[Qjh (Qjn _),h2];simp
 ·rw[ej,dd oM,←xC,←xC,h3]
theorem halfL_start{l:ar}{i:Nat}(hi:i<l.length):CR l l (l.take i) (i+1):=by
 refine⟨rfl,sI,rfl,by simp;omega⟩
theorem ME{k m:ar}(h2:m.take k.length=k)(z y:aW):((ints m).take (k.length*1)++z++y).take (k.length*1)=ints k:=by
 have hl:k.length≤m.length:=by have:=Qi9 List.length h2;simp at this;omega
 have hi:(ints m).take (k.length*1)=ints k:=by rw[QiX];unfold ints;rw[←bl,h2]
 rw[hi,xD];have:k.length*1=(ints k).length:=by rw[jk,QiX]
 rw[this,List.take_left]
end Go.Mor
namespace Go.Mor
open Go.RowKit
def dstsOf(c:Code):Nat→Nat→List Nat
 |0,_=>[]
 |n+1,k=>match ao c k with
  |some (some d,_,_,_)=>d::dstsOf c n (k+1)
  |_=>dstsOf c n (k+1)
def MF(l:List Nat)(t:Nat):Bool:=match l with
 |[]=>false
 |x::r=>match Nat.beq x t with
  |true=>true
  |false=>MF r t
def X4(env:Env)(t:Nat):Bool:=match env with
 |[]=>false
 |(x,_)::r=>match Nat.beq x t with
  |true=>true
  |false=>X4 r t
def qm(keys:List Nat)(env:Env):List Nat→Bool
 |[]=>true
 |d::r=>match MF keys d with
  |true=>qm keys env r
  |false=>match X4 env d with
   |true=>false
   |false=>qm keys env r
theorem H9{l:List Nat}{t:Nat}(h:MF l t=true):t∈l:=by
 induction l with
 |nil=>cases h
 |cons x r ih=>
  unfold MF at h;split at h
  ·rename_i hb;exact Qcx.2 (.inl (sZ hb).symm)
  ·exact QiV _ (ih h)
theorem Ia{env:Env}{t:Nat}{v:Value}(h:look env t=some v):X4 env t=true:=by
 induction env with
 |nil=>simp[look]at h
 |cons x r ih=>
  obtain⟨k,u⟩:=x;unfold look at h;unfold X4;split at h
  ·rename_i hb;rw[hb]
  ·rename_i hb;rw[hb];exact ih h
theorem CS{keys:List Nat}{env:Env}{ds:List Nat}(h:qm keys env ds=true){t:Nat}(ht:t∈ds){v:Value}(hv:look env t=some v):t∈keys:=by
 induction ds with
 |nil=>cases ht
 |cons d r ih=>
  unfold qm at h;rcases Qcx.1 ht with rfl|ht
  ·split at h
   ·rename_i hk;exact H9 hk
   ·rw[Ia hv]at h;cases h
  ·split at h
   ·exact ih h ht
   ·split at h
    ·cases h
    ·exact ih h ht
theorem Ap{l r:Env}{t:Nat}:look (l++r) t=match look l t with
  |some v=>some v
  |none=>look r t:=by
 induction l with
 |nil=>rfl
 |cons x l ih=>
  obtain⟨k,u⟩:=x;show look ((k,u)::(l++r)) t=_;simp only[look];split
  ·rfl
  ·exact ih
theorem Ib{keys:List Nat}{env:Env}{t:Nat}{v:Value}(h:t∈keys)(hv:look env t=some v):look (lx keys env) t=some v:=by
 induction keys with
 |nil=>cases h
 |cons k r ih=>
  unfold lx;by_cases e:k=t
  ·subst e;rw[hv];simp[look,Nat.beq_refl]
  ·have hb:Nat.beq k t=false:=by rw[←QjA];exact fun h=>e (sZ h)
   rcases Qcx.1 h with rfl|h
   ·exact absurd rfl e
   ·split
    ·simp only[look,hb];exact ih h
    ·exact ih h
theorem mQ{P:Program}{c:Code}{N:FN}:∀(n k:Nat) {env e1:Env},o3 P c N n k env=some e1→∀t,t∉dstsOf c n k→look e1 t=look env t
 |0,k,env,e1,h,t,_=>by simp only[o3,p5]at h;rw[h]
 |n+1,k,env,e1,h,t,ht=>by
  simp only[o3]at h;split at h
  ·rename_i d op ty g hk;have step:∀v,o3 P c N n (k+1) (dE env d v)=some e1→look e1 t=look env t:=by
    intro v hv;cases d with
    |none=>
     simp only[dstsOf,hk]at ht;exact mQ n (k+1) hv t ht
    |some d=>
     simp only[dstsOf,hk,Qcx,not_or]at ht;have:=mQ n (k+1) hv t ht.2;rw[this];have hb:Nat.beq d t=false:=by rw[←QjA];exact fun h=>ht.1 (sZ h).symm
     simp[dE,look,hb]
   split at h
   ·split at h
    ·split at h
     ·exact step _ h
     ·cases h
    ·exact step _ h
    ·cases h
   ·cases h
  ·cases h
theorem sR{P:Program}{c:Code}{N:FN}:∀(n k:Nat) {env e1:Env},o3 P c N n k env=some e1→∃pre,e1=pre++env
 |0,k,env,e1,h=>by simp only[o3,p5]at h;exact⟨[],h.symm⟩
 |n+1,k,env,e1,h=>by
  simp only[o3]at h;split at h
  ·rename_i d op ty g hk;have step:∀v,o3 P c N n (k+1) (dE env d v)=some e1→∃pre,e1=pre++env:=by
    intro v hv;obtain⟨pre,hp⟩:=sR n (k+1) hv;cases d with
    |none=>exact⟨pre,hp⟩
    |some d=>exact⟨pre++[(d,v)],by rw[hp];simp[dE]⟩
   split at h
   ·split at h
    ·split at h
     ·exact step _ h
     ·cases h
    ·exact step _ h
    ·cases h
   ·cases h
  ·cases h
theorem CT{P:Program}{c:Code}{K:Act→World→Prop}{Q:Exit→Act→World→Prop}{w:World}{N:FN}(n k':Nat){k:Nat}{a:Act}{env news:Env}(keys:List Nat)(hF:Fr a N env)(hp:(o3 P c N n k env).map (lx keys)=some news)(hc:qm keys env (dstsOf c n k)=true)(hk:k+n=k')(h:∀a',Fr a' N (news++env)→br P c K Q k' a' w):br P c K Q k a w:=by
 cases hr:o3 P c N n k env with
 |none=>rw[hr]at hp;cases hp
 |some Fe=>
  rw[hr]at hp;simp only[s9,p5]at hp;subst hk;refine q9 n k hF hr (fun a' Ec=>h a' ⟨Ec.defers,Ec.size,fun t v hv=> ?_⟩);rw[Ap]at hv;split at hv
  ·rename_i u hu;injection hv with hv;subst hv;rw[←hp]at hu;exact Ec.slot t u (ui hu)
  ·rename_i hu;refine Ec.slot t v ?_;by_cases hd:t∈dstsOf c n k
   ·have hk:=CS hc hd hv;cases he:look Fe t with
    |some x=>
     have h1:=Ib hk he;rw[hp,hu]at h1;cases h1
    |none=>
     exfalso;obtain⟨pre,CE⟩:=sR n k hr;rw[CE,Ap]at he;split at he
     ·cases he
     ·rw[hv]at he;cases he
   ·rw[mQ n k hr t hd];exact hv
end Go.Mor
namespace Go.Mor
open Go.RowKit
def MG(P:Program)(c:Code)(N:FN)(env:Env)(k:Nat):Option (Option Nat×Addr):=match ao c k with
 |some (d,.load t x,_,g)=>match bw c g env,iy d N,uq P t,ev env x with
  |some true,true,true,some (.pointer (some ad))=>some (d,ad)
  |_,_,_,_=>none
 |_=>none
def Tl(P:Program)(c:Code)(N:FN)(env:Env)(k:Nat):Option (Option Nat×Addr×Option Nat):=match ao c k with
 |some (d,.load t x,_,g)=>match bw c g env,iy d N,ev env x with
  |some true,true,some (.pointer (some ad))=>some (d,ad,tf P t)
  |_,_,_=>none
 |_=>none
def MH(P:Program)(c:Code)(N:FN)(env:Env)(k:Nat):Option (Option Nat×aX×Nat×Nat×Int):=match ao c k with
 |some (d,.indexAddr t x y,_,g)=>match bw c g env,iy d N,ev env x,ev env y with
  |some true,true,some (.slice A n _),some (.int _ i)=>match P.underlying t with
   |some (.slice e)=>match P.info? e with
    |some inf=>some (d,A,n,inf.size,i)
    |none=>none
   |_=>none
  |_,_,_,_=>none
 |_=>none
def QQ(c:Code)(N:FN)(env:Env)(k:Nat):Option (Option Nat×Int):=match ao c k with
 |some (d,.binOp op _ x y _,_,g)=>match bw c g env,iy d N,ev env x,ev env y with
  |some true,true,some (.int .i64 i),some (.int .i64 j)=>match X0 op i j with
   |some z=>some (d,z)
   |none=>none
  |_,_,_,_=>none
 |_=>none
def Tm(P:Program)(c:Code)(N:FN)(env:Env)(k:Nat):Option (Option Nat×Nat×Array Value):=match ao c k with
 |some (d,.call {callee:= .value x,args:=args,argTypes:=_},_,g)=>match bw c g env,iy d N,ev env x,Mg env args.toList with
  |some true,true,some (.func (.func f) first cap),some vs=>match first.size,uw P f with
   |0,true=>some (d,f,(vs++cap.toList).toArray)
   |_,_=>none
  |_,_,_,_=>none
 |_=>none
def X5(c:Code)(N:FN)(env:Env)(k:Nat):Option (Option Nat×Option Bool):=match ao c k with
 |some (d,_,_,g)=>match iy d N with
  |true=>some (d,bw c g env)
  |false=>none
 |none=>none
section
variable {P : Program} {c : Code} {K : Act → World → Prop} {Q : Exit → Act → World → Prop} {a : Act} {w w0 : World} {S : Nat → Prop} {L : List bo} {k : Nat} {N : FN} {env : Env}
theorem bf(d:Option Nat)(ad:Addr)(hF:Fr a N env)(hk:MG P c N env k=some (d,ad))(v:Value)(hc:w.cell? ad=some v)(h:∀a',Fr a' N (dE env d v)→br P c K Q (k+1) a' w):br P c K Q k a w:=by
 unfold MG at hk;split at hk
 ·rename_i h0;split at hk
  ·rename_i h1 h2 h3 h4;simp only[p5,eh]at hk;obtain⟨rfl,rfl⟩:=hk;exact p8 h0 hF h1 h2 rfl h4 h3 hc (fun a' _=>h a')
  ·cases hk
 ·cases hk
theorem MI(d:Option Nat)(ad:Addr)(vs:aW)(hF:Fr a N env)(hk:Tl P c N env k=some (d,ad,some vs.length))(hc:∀j v,vs[j]?=some v→w.cell? (ad.add j)=some v)(h:∀a',Fr a' N (dE env d (.agg vs.toArray))→br P c K Q (k+1) a' w):br P c K Q k a w:=by
 unfold Tl at hk;split at hk
 ·rename_i h0;split at hk
  ·rename_i h1 h2 h4;simp only[p5,eh]at hk;obtain⟨rfl,rfl,h3⟩:=hk;exact eV h0 hF h1 h2 rfl h4 h3 hc (fun a' _=>h a')
  ·cases hk
 ·cases hk
theorem Hb(d:Option Nat)(ad:Addr)(n size:Nat)(i:Int)(hF:Fr a N env)(hk:MH P c N env k=some (d,some ad,n,size,i))(h0:0≤i)(h1:i<n)(h:∀a',Fr a' N (dE env d (vP (ad.add (i.toNat*size))))→br P c K Q (k+1) a' w):br P c K Q k a w:=by
 unfold MH at hk;split at hk
 ·rename_i g0;split at hk
  ·rename_i g1 g2 g3 g4;split at hk
   ·rename_i e ht;split at hk
    ·rename_i inf hs;simp only[p5,eh]at hk;obtain⟨rfl,hA,rfl,rfl,rfl⟩:=hk;exact p9 g0 hF g1 g2 rfl g3 g4 hA ht (by rw[hs];rfl) h0 h1 (fun a' _=>h a')
    ·cases hk
   ·cases hk
  ·cases hk
 ·cases hk
theorem tE(d:Option Nat)(z:Int)(hF:Fr a N env){z0:Int}(hk:QQ c N env k=some (d,z0))(hz:z0=z)(h1: -9223372036854775808≤z)(h2:z≤9223372036854775807)(h:∀a',Fr a' N (dE env d (vI z))→br P c K Q (k+1) a' w):br P c K Q k a w:=by
 subst hz;unfold QQ at hk;split at hk
 ·rename_i g0;split at hk
  ·rename_i g1 g2 g3 g4;split at hk
   ·rename_i z hz;simp only[p5,eh]at hk;obtain⟨rfl,rfl⟩:=hk;exact fU g0 hF g1 g2 rfl g3 g4 hz h1 h2 (fun a' _=>h a')
   ·cases hk
  ·cases hk
 ·cases hk
theorem mR(d:Option Nat)(f:FuncId)(vs:aW)(hF:Fr a N env)(hk:Tm P c N env k=some (d,f,vs.toArray)){Φ:Value→World→Prop}(hc:Calls P f vs.toArray w (fE Φ))(h:∀v w',Φ v w'→∀a',Fr a' N (dE env d v)→br P c K Q (k+1) a' w'):br P c K Q k a w:=by
 unfold Tm at hk;split at hk
 ·rename_i d' x args ts ty g g0;split at hk
  ·rename_i f' first cap us g1 g2 g3 g4
   split at hk
   ·rename_i hs hf;simp only[p5,eh]at hk;obtain⟨rfl,rfl,hv⟩:=hk;have CU:first=#[]:=Tc hs
    subst CU;exact iT g0 hF g1 g2 rfl (f:=f') (vs:=us) (cap:=cap.toList) (by simpa using g3) g4 hf (by rw[hv];exact hc) (fun v w' hv a' _=>h v w' hv a')
   ·cases hk
  ·cases hk
 ·cases hk
theorem aw{B:Bool}{d:Option Nat}(v:Value)(hF:Fr a N env)(hg:X5 c N env k=some (d,some B))(hr:B=true→(∀a',Fr a' N (dE env d v)→br P c K Q (k+1) a' w)→br P c K Q k a w)(h:∀a',Fr a' N (dE env d (cond B v undef))→br P c K Q (k+1) a' w):br P c K Q k a w:=by
 cases B with
 |true=>exact hr rfl h
 |false=>
  unfold X5 at hg;split at hg
  ·rename_i h0;split at hg
   ·rename_i hd;simp only[p5,eh]at hg;obtain⟨rfl,hg⟩:=hg;exact r3 h0 hF hg (h _ (hF.put hd undef))
   ·cases hg
  ·cases hg
theorem ib{B:Bool}{d:Option Nat}(v:Value)(hF:Fr a N env)(hg:X5 c N env k=some (d,some B))(hr:B=true→(∀a' w',Mem bK w w' []→Fr a' N (dE env d v)→br P c K Q (k+1) a' w')→br P c K Q k a w)(h:∀a' w',Mem bK w w' []→Fr a' N (dE env d (cond B v undef))→br P c K Q (k+1) a' w'):br P c K Q k a w:=by
 cases B with
 |true=>exact hr rfl h
 |false=>
  unfold X5 at hg;split at hg
  ·rename_i h0;split at hg
   ·rename_i hd;simp only[p5,eh]at hg;obtain⟨rfl,hg⟩:=hg;exact r3 h0 hF hg (h _ _ (Mem.init w) (hF.put hd undef))
   ·cases hg
  ·cases hg
theorem jy(b:Bool):((!b)=true)=(¬b=true):=by cases b<;>simp
end
end Go.Mor
namespace Go.Mor
open Go.RowKit
theorem Aq{P:Program}{c:Code}{K:Act→World→Prop}{Q:Exit→Act→World→Prop}{a:Act}{w:World}{k k':Nat}{N:FN}{env:Env}{d:Option Nat}{ty:Nat}{g:Option (Nat×Bool)}{op:UnOp}{t:TypeId}{x:Operand}(hk:ao c k=some (d,.unOp op t x,ty,g))(hF:Fr a N env)(hg:bw c g env=some true)(hd:iy d N=true)(ja:k+1=k'){kd:IntKind}{i:Int}{z:Value}(hx:ev env x=some (.int kd i))(hb:∀w,(Op.unary op (.int kd i)).run P w= .ok z w)(h:∀a',a'=a.put d z→Fr a' N (dE env d z)→br P c K Q k' a' w):br P c K Q k a w:=by
 refine eO hk hF hg hd ja (fun o ho=> ?_) h;unfold execOp;rw[ho];simp only[hF.ev hx,xf,hb,Qdu];rfl
end Go.Mor
namespace Go.Mor
open Go.RowKit
section
variable {P : Program} {c : Code} {K : Act → World → Prop} {Q : Exit → Act → World → Prop} {a : Act} {w : World}
theorem MJ{t:Nat}{N:FN}{env:Env}{e:Bool}{R:Prop}(hk:kind c= .cond (.tmp t))(hF:Fr a N env)(hv:look env t=some (vB e))(i:e=true↔R)(ht:R→W P (Code.l c) K Q a w)(hf:¬R→W P (Code.r c) K Q a w):W P c K Q a w:=CC hk hF hv (fun h=>ht (i.1 h)) (fun h=>hf (fun r=>by rw[i.2 r]at h;cases h))
end
end Go.Mor
namespace Go.Mor
open Go.RowKit
section
variable {P : Program} {c : Code} {K : Act → World → Prop} {Q : Exit → Act → World → Prop} {a : Act} {w : World}
def spE(P:Program)(c:Code)(N:FN)(env:Env)(keys:List Nat):Option Env:=match kind c,kind (Code.l c)with
 | .seq,.region false=>match o3 P (Code.l c) N (opsOf (Code.l c)).size 0 env,qm keys env (dstsOf (Code.l c) (opsOf (Code.l c)).size 0)with
  |some e,true=>some (lx keys e)
  |_,_=>none
 |_,_=>none
theorem Zn(h1:(match kind c,kind (Code.l c)with| .seq,.region false=>true|_,_=>false)=true)(h:br P (Code.l c) (fun a w=>W P (Code.r c) K Q a w) Q 0 a w):W P c K Q a w:=by
 split at h1
 ·rename_i e1 e2;exact Pq e1 (zY e2 h)
 ·cases h1
end
end Go.Mor
namespace Go.Mor
open Go.RowKit
def bo.all(l:List bo):bo where
 fp:=fun k=>∃r,r∈l∧r.fp k
 holds w:=∀r,r∈l→r.holds w
 gJ:=fun h hw r hr=>r.gJ (fun k hk=>h k ⟨r,hr,hk⟩) (hw r hr)
 lt:=fun hw ⟨r,hr,hk⟩=>r.lt (hw r hr) hk
theorem RO.sub{S:Nat→Prop}{w:World}{l:List bo}{r:bo}(h:RO S w (.all l))(hr:r∈l):RO S w r:=⟨h.1 r hr,fun g hg=>h.2 g ⟨r,hr,hg⟩⟩
structure bI where
 dst:Int
 A:aX
 c:Nat
 args:ar
def bI.cells(x:bI):aW:=[vI x.dst,.slice x.A x.args.length x.c]
structure aO where
 op:Int
 dst:Int
 n:Int
 name:cV
 A:aX
 c:Nat
 args:ar
def aO.cells(x:aO):aW:=[vI x.op,vI x.dst,vI x.n,.string x.name,.slice x.A x.args.length x.c]
structure ay where
 pA:aX
 pc:Nat
 ah:List bI
 iA:aX
 ic:Nat
 insts:List aO
 e:Int
 v:Int
 a:Int
 b:Int
def ay.sb(x:ay):SB:=⟨x.pA,x.ah.length,x.pc,x.iA,x.insts.length,x.ic,x.e,x.v,x.a,x.b⟩
def af(fs:List ay):List SB:=fs.map ay.sb
theorem bE(fs:List ay):(af fs).length=fs.length:=by simp[af]
theorem gv{fs:List ay}{i:Nat}{x:ay}(h:fs[i]?=some x):(af fs)[i]?=some x.sb:=by simp[af,h]
def ay.parts(x:ay):List bo:= .Hi x.pA 2 (x.ah.map bI.cells):: .Hi x.iA 5 (x.insts.map aO.cells)::(x.ah.map (fun p=>bo.rd p.A (ints p.args))++x.insts.map (fun p=>bo.rd p.A (ints p.args)))
def bo.fn(A:aX)(fs:List ay):bo:= .all (.blocks A (af fs)::fs.flatMap ay.parts)
section
variable {S : Nat → Prop} {w : World} {A : Option Addr} {fs : List ay}
theorem RO.bs(h:RO S w (.fn A fs)):RO S w (.blocks A (af fs)):=h.sub (en)
theorem RO.ah(h:RO S w (.fn A fs)){i:Nat}{x:ay}(hx:fs[i]?=some x):RO S w (.Hi x.pA 2 (x.ah.map bI.cells)):=h.sub (QiV _ (pZ.2 ⟨x,Qcs hx,en⟩))
theorem RO.insts(h:RO S w (.fn A fs)){i:Nat}{x:ay}(hx:fs[i]?=some x):RO S w (.Hi x.iA 5 (x.insts.map aO.cells)):=h.sub (QiV _ (pZ.2 ⟨x,Qcs hx,QiV _ en⟩))
theorem RO.pK(h:RO S w (.fn A fs)){i j:Nat}{x:ay}{p:bI}(hx:fs[i]?=some x)(hp:x.ah[j]?=some p):RO S w (.rd p.A (ints p.args)):=h.sub (QiV _ (pZ.2 ⟨x,Qcs hx,QiV _ (QiV _ (Qi6 _ (jd.2 ⟨p,Qcs hp,rfl⟩)))⟩))
theorem RO.inst(h:RO S w (.fn A fs)){i j:Nat}{x:ay}{p:aO}(hx:fs[i]?=some x)(hp:x.insts[j]?=some p):RO S w (.rd p.A (ints p.args)):=h.sub (QiV _ (pZ.2 ⟨x,Qcs hx,QiV _ (QiV _ (Qjl _ (jd.2 ⟨p,Qcs hp,rfl⟩)))⟩))
end
theorem cZ{w:World}{A:aX}{fs:List ay}{ad:Addr}{i:Nat}{x:ay}(h:(bo.blocks A (af fs)).holds w)(hA:A=some ad)(hi:fs[i]?=some x):∀j v,[.slice x.pA x.ah.length x.pc,.slice x.iA x.insts.length x.ic,vI x.e,vI x.v,vI x.a,vI x.b][j]?=some v→w.cell? ((ad.add (i*6)).add j)=some v:=qj h hA (gv hi)
theorem Hc{w:World}{x:ay}{ad:Addr}{i:Nat}{p:bI}(h:(bo.Hi x.pA 2 (x.ah.map bI.cells)).holds w)(hA:x.pA=some ad)(hi:x.ah[i]?=some p):∀j v,[vI p.dst,.slice p.A p.args.length p.c][j]?=some v→w.cell? ((ad.add (i*2)).add j)=some v:=e8 (cs:=p.cells) h hA (by simp[hi])
theorem mS{w:World}{x:ay}{ad:Addr}{i:Nat}{p:aO}(h:(bo.Hi x.iA 5 (x.insts.map aO.cells)).holds w)(hA:x.iA=some ad)(hi:x.insts[i]?=some p):∀j v,[vI p.op,vI p.dst,vI p.n,.string p.name,.slice p.A p.args.length p.c][j]?=some v→w.cell? ((ad.add (i*5)).add j)=some v:=e8 (cs:=p.cells) h hA (by simp[hi])
def In64(n:Int):Prop:= -9223372036854775808≤n∧n≤9223372036854775807
def gY(n:Nat):Prop:=n≤281474976710656
structure bI.Ok(p:bI):Prop where
 dst:In64 p.dst
 len:gY p.args.length
 args:∀x,x∈p.args→In64 x
structure aO.Ok(p:aO):Prop where
 op:In64 p.op
 dst:In64 p.dst
 n:In64 p.n
 name:gY p.name.size
 len:gY p.args.length
 args:∀x,x∈p.args→In64 x
structure ay.Ok(x:ay):Prop where
 lp:gY x.ah.length
 ah:∀p,p∈x.ah→p.Ok
 li:gY x.insts.length
 insts:∀p,p∈x.insts→p.Ok
 e:In64 x.e
 v:In64 x.v
 a:In64 x.a
 b:In64 x.b
def pL(fs:List ay):Prop:=∀x,x∈fs→x.Ok
theorem pL.get{fs:List ay}(h:pL fs){i:Nat}{x:ay}(hi:fs[i]?=some x):x.Ok:=h x (Qcs hi)
theorem bu{α:Type}{l:List α}{i:Nat}(h:i<l.length):∃x,l[i]?=some x:=⟨_,List.getElem?_eq_getElem h⟩
abbrev fV(nm:cV)(wk:Bool)(pa va:Int)(A:aX)(c:Nat)(fs:List ay):aW:=[.string nm,.bool wk,vI pa,vI va,.slice A (af fs).length c]
abbrev fA(nm:cV)(wk:Bool)(pa va:Int)(A:aX)(c:Nat)(fs:List ay):Value:= .agg #[.string nm,.bool wk,vI pa,vI va,.slice A (af fs).length c]
abbrev xV(x:ay):aW:=[.slice x.pA x.ah.length x.pc,.slice x.iA x.insts.length x.ic,vI x.e,vI x.v,vI x.a,vI x.b]
abbrev xA(x:ay):Value:= .agg #[.slice x.pA x.ah.length x.pc,.slice x.iA x.insts.length x.ic,vI x.e,vI x.v,vI x.a,vI x.b]
abbrev iV(p:aO):aW:=[vI p.op,vI p.dst,vI p.n,.string p.name,.slice p.A p.args.length p.c]
abbrev iG(p:aO):Value:= .agg #[vI p.op,vI p.dst,vI p.n,.string p.name,.slice p.A p.args.length p.c]
abbrev pV(p:bI):aW:=[vI p.dst,.slice p.A p.args.length p.c]
abbrev QqS(i:aO):List Value:=[.int .i64 i.op,.int .i64 i.dst,.int .i64 i.n,.string i.name,.slice i.A i.args.length i.c]
abbrev QqT(i:aO):Value:= .agg #[.int .i64 i.op,.int .i64 i.dst,.int .i64 i.n,.string i.name,.slice i.A i.args.length i.c]
abbrev QqV(x:ay):List Value:=[.slice x.pA x.ah.length x.pc,.slice x.iA x.insts.length x.ic,.int .i64 x.e,.int .i64 x.v,.int .i64 x.a,.int .i64 x.b]
abbrev QqW(x:ay):Value:= .agg #[.slice x.pA x.ah.length x.pc,.slice x.iA x.insts.length x.ic,.int .i64 x.e,.int .i64 x.v,.int .i64 x.a,.int .i64 x.b]
end Go.Mor
