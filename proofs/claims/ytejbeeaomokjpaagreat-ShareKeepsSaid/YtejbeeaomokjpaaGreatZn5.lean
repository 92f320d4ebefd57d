/-
  Texts of the proof, part 5.
-/
import Derived.Test.YtejbeeaomokjpaaGreatZn4
import Derived.ProofKit
import Derived.Deep.Fields
import Derived.Lib.SmallJoins
set_option maxRecDepth 10000
namespace Go.Mor
open Go.ChangeShapes Go.WideShapes Go.Deep
section
variable {H : Type} {enc : TypeId × Value → H} {P : Program} {w : World} {base : Nat} {spare : Nat → Bool} {held : Bool}
theorem PO{t:TypeId}{k:IntKind}(ht:P.underlying t=some (.int k)){fuel:Nat}{v:Value}{x:DataW H×List MemPlace}(h:DataW.trod enc P w base spare held fuel t [v]=some x):∃n,v= .int k n∧k.min≤n∧n≤k.max:=by
 obtain⟨n,h1,_,h2⟩:=DataW.trod_int ht h;simp at h1;simp only[Lit.wf,QlP,QhA]at h2;exact⟨n,h1,h2.1,h2.2⟩
theorem oh{α:Type}{n:Nat}{p:Nat→α→Prop}(h:∀i,i<n→∃x,p i x):∃l:List α,l.length=n∧∀i x,l[i]?=some x→p i x:=by
 induction n with
 |zero=>exact⟨[],rfl,sI⟩
 |succ n ih=>
  obtain⟨l,hl,hp⟩:=ih fun i hi=>h i oM
  obtain⟨x,hx⟩:=h n oM;refine⟨l++[x],by simp[hl],fun i y hi=> ?_⟩;rcases Qqf i n with h1|h1|h1
  ·rw[List.getElem?_append_left oM]at hi;exact hp i y hi
  ·subst h1;rw[List.getElem?_append_right oM]at hi;simp[hl]at hi;exact hi▸hx
  ·rw[List.getElem?_eq_none (by simp;omega)]at hi;cases hi
end
end Go.Mor
namespace Go.Mor
open Go.ChangeShapes Go.WideShapes Go.ChangeAt Go.RowKit Go.Deep
section
variable {H : Type} {enc : TypeId × Value → H} {P : Program}
theorem rE(hl:laidOutB P=true){base:Nat}{sp:Nat→Bool}{W W':World}:∀{ts:List TypeId} {vs:aP} {ds:List (DataW H)} {ps:List MemPlace},ts.all (fun t=>P.readableRec t&&decide (t<P.types.size))=true→DataW.TrodAll enc P W base (fun _=>true) true ts vs ds ps→(∀p∈ps,W.sameAt W' p)→(∀p∈ps,sp p.block=true)→DataW.TrodAll enc P W' base sp true ts vs ds ps
 |[],vs,ds,ps,_,h,_,_=>by cases vs<;>cases ds<;>simp_all[DataW.TrodAll]
 |t::ts,vs,ds,ps,hr,h,ZV,hs=>by obtain⟨v,ZW,d,ds',p,q,rfl,rfl,rfl,h1,h2⟩:=trodAll_cons h;simp only[List.all_cons,QlP,QhA]at hr;exact⟨p,q,WideElems.Trod_stays hl hr.1.1 hr.1.2 h1 (fun x hx=>ZV x (Qox _ hx)) (fun x hx=>hs x (Qox _ hx)),rE hl hr.2 h2 (fun x hx=>ZV x (Qo5 _ hx)) (fun x hx=>hs x (Qo5 _ hx)),rfl⟩
theorem L0(hl:laidOutB P=true){f:Func}{s:ChangeSpec}{W W':World}{args:Array Value}{ds gs:List (DataW H)}{ps:List MemPlace}{tb:TypeId}(hb:P.underlying tb=some .bool)(QhT:f.resultTypes=#[tb])(hr:f.params.toList.all (fun t=>P.readableRec t&&decide (t<P.types.size))=true)(hv:s.vars=[])(hW:DataW.Whole enc P f.params.toList [] false W args.toList ds gs ps)(h1:(s.fn H (ds++gs)).results=[.lit (.bool true)])(h2:(s.fn H (ds++gs)).args=ds)(h3:(s.fn H (ds++gs)).vars=[]){w':World}(hm:Mem bq W W' [])(e:W'=w'):s.post enc P f false true false false W args (.bool true) w':=by
 subst e;obtain⟨p,q,hA,hV,ZX,hz,hn⟩:=hW;obtain⟨hg,hq⟩:=trodVars_none hV;subst hg;subst hq;have AX:Below W.heap.size W W':=hm.below;have hW':DataW.Whole enc P f.params.toList [] false W args.toList ds [] ps:=⟨p,[],hA,hV,ZX,hz,hn⟩;have eV:=hW'.lt;rw[QoZ]at ZX;subst ZX;refine⟨ds,[],ps,[],ps,[],by rw[hv];exact hW',?_,?_,?_,AX.frame _,fun h=>by simp at h⟩
 ·rw[h1,QhT];exact trodAll_mk1 (shut_bool hb _)
 ·rw[h2];exact rE hl hr hA (fun x hx=>AX.same (eV x hx)) (fun x hx=>by simpa using eV x hx)
 ·rw[h3,hv];exact(rfl:_=_)
end
end Go.Mor
namespace Go.Mor
open Go.RowKit
theorem L1{P:Program}{c:Code}{K:Act→World→Prop}{Q:Exit→Act→World→Prop}{a:Act}{w:World}{k k':Nat}{N:FN}{env:Env}{d:Option Nat}{ty:Nat}{g:Option (Nat×Bool)}{t t':TypeId}{x:Operand}(hk:ax c k=some (d,.convert t t' x,ty,g))(hF:Fr a N env)(hg:bD c g env=some true)(hd:gp d N=true)(iO:k+1=k'){kd kd' ks:IntKind}{i z:Int}(hx:ev env x=some (.int kd i))(hs:P.underlying t=some (.int ks))(ht:P.underlying t'=some (.int kd'))(hz:kd'.wrap i=z)(h:∀a',a'=a.put d (.int kd' z)→Fr a' N (dq env d (.int kd' z))→bz P c K Q k' a' w):bz P c K Q k a w:=by
 refine eC hk hF hg hd iO (fun o ho=> ?_) h;unfold execOp;rw[ho];simp[hF.ev hx,convert,Qor,QoH hs,QoH ht,QnS,Conv.intToInt,hz]
theorem ZY{n:Int}(h:(Lit.int .u8 n).wf=true):0≤n∧n≤255:=by
 simp only[Lit.wf,QlP,QhA]at h;exact⟨h.1,h.2⟩
end Go.Mor
namespace Go.Mor
open Go.RowKit
def bx.l7(A:ar)(size:Nat)(PQ:List aP):bx where
 fp:=fun k=>(∃i cs,PQ[i]?=some cs∧cs≠[])∧∃a,A=some a∧a.block=k
 holds w:=∀i cs,PQ[i]?=some cs→∃ad,A=some ad∧∀j v,cs[j]?=some v→w.cell? ((ad.add (i*size)).add j)=some v
 gO:=by
  intro w w' h hw i cs hi
  obtain⟨a,ha,hc⟩:=hw i cs hi
  refine⟨a,ha,fun j v hj=> ?_⟩
  rw[←hc j v hj]
  refine World.cell?_of_block ?_
  rw[block_add,block_add]
  exact h a.block ⟨⟨i,cs,hi,by rintro rfl;simp at hj⟩,a,ha,rfl⟩
 lt:=by
  rintro w k hw ⟨⟨i,cs,hi,dt⟩,a,rfl,rfl⟩
  obtain⟨a',ha,hc⟩:=hw i cs hi
  injection ha with ha
  subst ha
  cases cs with
  |nil=>exact absurd rfl dt
  |cons x cs=>
   have h0:=hc 0 x rfl
   unfold World.cell? at h0
   split at h0
   ·rename_i h;have:=ob h;rwa [block_add,block_add]at this
   ·cases h0
theorem aQ{w:World}{A:ar}{size:Nat}{PQ:List aP}{ad:Addr}(h:(bx.l7 A size PQ).holds w)(hA:A=some ad){i:Nat}{cs:aP}(hi:PQ[i]?=some cs):∀j v,cs[j]?=some v→w.cell? ((ad.add (i*size)).add j)=some v:=by
 obtain⟨a',ha,hc⟩:=h i cs hi;rw[hA]at ha;injection ha with ha;subst ha;exact hc
theorem bw{w:World}{A:ar}{size:Nat}{PQ:List aP}{cs:aP}{i:Nat}(h:(bx.l7 A size PQ).holds w)(hi:PQ[i]?=some cs):∃ad,A=some ad:=by
 obtain⟨a',ha,_⟩:=h i cs hi;exact⟨a',ha⟩
structure SB where
 pA:ar
 pn:Nat
 pc:Nat
 iA:ar
 ik:Nat
 ic:Nat
 e:Int
 v:Int
 a:Int
 b:Int
def SB.cells(x:SB):aP:=[.slice x.pA x.pn x.pc,.slice x.iA x.ik x.ic,vI x.e,vI x.v,vI x.a,vI x.b]
def bx.blocks(A:ar)(bs:List SB):bx:= .l7 A 6 (bs.map SB.cells)
theorem ek{w:World}{A:ar}{bs:List SB}{i:Nat}{x:SB}(h:(bx.blocks A bs).holds w)(hi:bs[i]?=some x):∃ad,A=some ad:=bw (cs:=x.cells) (i:=i) h (by simp[hi])
theorem sd{w:World}{A:ar}{bs:List SB}{ad:Addr}{i:Nat}{x:SB}(h:(bx.blocks A bs).holds w)(hA:A=some ad)(hi:bs[i]?=some x):∀j v,[.slice x.pA x.pn x.pc,.slice x.iA x.ik x.ic,vI x.e,vI x.v,vI x.a,vI x.b][j]?=some v→w.cell? ((ad.add (i*6)).add j)=some v:=aQ (cs:=x.cells) h hA (by simp[hi])
theorem PR{α:Type}{l:List α}{i:Int}(h0:0≤i)(h:i<l.length):∃x,l[i.toNat]?=some x:=⟨_,List.getElem?_eq_getElem oM⟩
theorem PS{l:af}{k:Int}{j:Nat}(h:(l.take j).contains k=false)(hc:¬(l.getD (j:Int).toNat 0=k))(hj:j<l.length):(l.take (j+1)).contains k=false:=by
 rw[Qow hj];simp only[Qoq,List.getD,List.getElem?_eq_getElem hj,Qpf]at hc;simp only[Qqr,Qqs,Qn2,yX]at h⊢;exact fun hh=>hh.elim h (fun e=>hc e.symm)
theorem VJ{l:af}{k:Int}{j:Nat}(hc:l.getD (j:Int).toNat 0=k)(hj:j<l.length):l.contains k=true:=by
 simp only[Qoq,List.getD,List.getElem?_eq_getElem hj,Qpf]at hc;simp only[Qqr,QhA];exact hc▸QpC hj
theorem Qbx{l:af}{k:Int}{j:Nat}(h:(l.take j).contains k=false)(hj:l.length≤j):l.contains k=false:=by
 rwa [Qot hj]at h
theorem oi{w w':World}{A:ar}{n c:Nat}{l l0:af}(hM:Mem bq w w' [.row 3 1 A n c (ints l)])(e:l=l0)(hn:n=l.length):∃A' c',Value.slice A n c=vS A' l0.length c'∧Mem bq w w' [.row 3 1 A' l0.length c' (ints l0)]:=by
 subst e;subst hn;exact⟨A,c,rfl,hM⟩
theorem qP{w w':World}{l0:af}(hM:Mem bq w w' [])(e:l0=[]):∃A' c',Value.slice none 0 0=vS A' l0.length c'∧Mem bq w w' [.row 3 1 A' l0.length c' (ints l0)]:=by
 subst e;exact⟨none,0,rfl,hM.call (Mem.dY _ 3 1)⟩
def gP(n:Nat)(t:Int):Bool:=decide (0≤t)&&decide (t<n)
def Ag(n:Nat)(x:SB):af:=(if x.e=0 then[x.a]else if x.e=1 then(if x.a=x.b then[x.a]else[x.a,x.b])else[]).filter (gP n)
def tg(bs:List SB)(b:Int):af:=if 0≤b then(match bs[b.toNat]? with
 |some x=>Ag bs.length x
 |none=>[])else[]
theorem x7{bs:List SB}{b:Int}(h:b<0∨(bs.length:Int)≤b):tg bs b=[]:=by
 unfold tg;split
 ·rw[List.getElem?_eq_none oM]
 ·rfl
theorem x8{bs:List SB}{b:Int}{x:SB}(h:0≤b)(hx:bs[b.toNat]?=some x):tg bs b=Ag bs.length x:=by
 unfold tg;rw[Kt h,hx]
theorem VK(n:Nat)(x:SB):(Ag n x).length≤2:=by
 unfold Ag;refine QoJ (QoI _ _) ?_;split
 ·simp
 ·split
  ·split<;>simp
  ·simp
theorem pY(bs:List SB)(b:Int):(tg bs b).length≤2:=by
 unfold tg;split
 ·split
  ·exact VK _ _
  ·simp
 ·simp
theorem pZ{bs:List SB}{b t:Int}(h:t∈tg bs b):0≤t∧t<bs.length:=by
 unfold tg at h;split at h
 ·split at h
  ·simp only[Ag,Qov,gP,QlP,QhA]at h;exact h.2
  ·simp at h
 ·simp at h
theorem Qby{n:Nat}{t:Int}(h:t<0):gP n t=false:=by
 unfold gP;simp;omega
theorem Qbz{n:Nat}{t:Int}(h:¬t<0):decide (t≥(n:Int))=!(gP n t):=by
 unfold gP;have h0:decide (0≤t)=true:=by simp;omega
 rw[h0,Bool.true_and];by_cases h1:t<(n:Int)
 ·simp[h1]
 ·simp[h1];omega
theorem ints_set(l:af)(i:Nat)(v:Int):ints (l.set i v)=(ints l).set i (vI v):=by simp[ints,Qpk]
theorem oj(n:Nat)(l:af):l.filter (fun x=> !((fun x=> !(gP n x)) x))=l.filter (gP n):=by
 apply Qpu;intro x _;simp
theorem PT{n:Nat}{x:SB}(h0:¬x.e=0)(h1:¬x.e=1):([]:af).filter (fun x=> !((fun x=> !(gP n x)) x))=Ag n x:=by
 rw[oj];unfold Ag;rw[Ds h0,Ds h1]
theorem Ki{n:Nat}{x:SB}(h:x.e=0∨(¬x.e=0∧x.e=1∧x.a=x.b)):[x.a].filter (fun x=> !((fun x=> !(gP n x)) x))=Ag n x:=by
 rw[oj];unfold Ag;rcases h with h|⟨h,h1,h2⟩
 ·rw[Kt h]
 ·rw[Ds h,Kt h1,Kt h2]
theorem VL{n:Nat}{x:SB}(h:x.e=1)(h2:¬x.a=x.b):[x.a,x.b].filter (fun x=> !((fun x=> !(gP n x)) x))=Ag n x:=by
 rw[oj];unfold Ag;rw[Ds oM,Kt h,Ds h2]
def UW(n:Nat)(x:SB):af:=if gP n x.a then[x.a]else[]
def Lv(n:Nat)(x:SB):af:=if x.e=1∧x.b≠x.a∧gP n x.b=true then[x.b]else[]
theorem rt_eq{n:Nat}{x:SB}(h:x.e=0∨x.e=1):UW n x++Lv n x=Ag n x:=by
 unfold UW Lv Ag;rcases h with h|h
 ·rw[Kt h,Ds (show¬(x.e=1∧x.b≠x.a∧gP n x.b=true)by rintro⟨h1,_⟩;omega)];by_cases h1:gP n x.a=true<;>simp[h1]
 ·rw[Ds (show¬x.e=0 by omega),Kt h];by_cases h0:x.a=x.b
  ·rw[Kt h0,Ds (show¬(x.e=1∧x.b≠x.a∧gP n x.b=true)from fun hh=>hh.2.1 h0.symm)];by_cases h1:gP n x.a=true<;>simp[h1]
  ·rw[Ds h0];have h0':x.b≠x.a:=fun e=>h0 e.symm
   by_cases h1:gP n x.a=true<;>by_cases h2:gP n x.b=true
   ·rw[Kt h1,Kt ⟨h,h0',h2⟩];simp[h1,h2]
   ·rw[Kt h1,Ds (fun hh=>h2 hh.2.2)];simp[h1,h2]
   ·rw[Ds h1,Kt ⟨h,h0',h2⟩];simp[h1,h2]
   ·rw[Ds h1,Ds (fun hh=>h2 hh.2.2)];simp[h1,h2]
theorem VM{n:Nat}{x:SB}(h0:¬x.e=0)(h1:¬x.e=1):Ag n x=[]:=by
 unfold Ag;rw[Ds h0,Ds h1];rfl
theorem VN{n:Nat}{x:SB}(h0:x.a≥0)(h1:x.a<n):UW n x=[x.a]:=by simp[UW,gP,h0,h1]
theorem PU{n:Nat}{x:SB}(h:x.a<0∨¬x.a<n):UW n x=[]:=by
 unfold UW gP;rw[Ds];simp only[QlP,QhA];omega
theorem VO{n:Nat}{x:SB}(h:x.e=1)(h':x.b≠x.a)(h0:x.b≥0)(h1:x.b<n):Lv n x=[x.b]:=by simp[Lv,gP,h,h',h0,h1]
theorem C4{n:Nat}{x:SB}(h:¬x.e=1∨¬x.b≠x.a∨¬(x.b≥0)∨¬x.b<n):Lv n x=[]:=by
 unfold Lv gP;rw[Ds];simp only[QlP,QhA];omega
theorem Kj(n:Nat)(x:SB):(UW n x).length≤1:=by unfold UW;split<;>simp
def ef(bs:List SB)(b:Int)(k:Nat):af:=((List.range k).filter (fun i:Nat=>(tg bs (i:Int)).contains b)).map (fun i:Nat=>(i:Int))
def bG(bs:List SB)(b:Int):af:=ef bs b bs.length
theorem p5(bs:List SB)(b:Int)(k:Nat):ef bs b (k+1)=ef bs b k++(if(tg bs (k:Int)).contains b=true then[(k:Int)]else[]):=by
 unfold ef;rw[QpH,QoW,Qou];congr 1;by_cases h:(tg bs (k:Int)).contains b=true
 ·rw[Kt h];simp only[Qpv,h,Qpj,List.filter_nil,QoK,Qps]
 ·rw[Ds h];rw[Qqn]at h;simp only[Qpv,h,Qpp,Qo0,List.filter_nil,Qps]
theorem fR(bs:List SB)(b:Int)(k:Nat):(ef bs b k).length≤k:=by
 unfold ef;rw[QlO];exact QoJ (QoI _ _) sI
def pw(p:Int→Bool)(l:af):Int:=match l.findIdx? p with
 |some i=>(i:Int)
 |none=> -1
theorem Qlu{p:Int→Bool}{l:af}{j:Nat}(h:(l.take j).any p=false)(hc:p (l.getD (j:Int).toNat 0)=false)(hj:j<l.length):(l.take (j+1)).any p=false:=by
 rw[Qow hj];simp only[Qoq,List.getD,List.getElem?_eq_getElem hj,Qpf]at hc;rw[List.any_append,h];simp[hc]
theorem E7{p:Int→Bool}{l:af}{j:Nat}(h:(l.take j).any p=false)(hc:p (l.getD (j:Int).toNat 0)=true)(hj:j<l.length):pw p l=(j:Int):=by
 simp only[Qoq,List.getD,List.getElem?_eq_getElem hj,Qpf]at hc;unfold pw;have:l.findIdx? p=some j:=by rw[List.findIdx?_eq_some_iff_getElem];refine⟨hj,hc,fun i hi=> ?_⟩;simp only[List.any_eq_false]at h;exact h _ (Qqo.2 ⟨i,by simp;omega,sI⟩)
 rw[this]
theorem Bc{p:Int→Bool}{l:af}{j:Nat}(h:(l.take j).any p=false)(hj:l.length≤j):pw p l= -1:=by
 rw[Qot hj]at h;unfold pw;have:l.findIdx? p=none:=by rw[List.findIdx?_eq_none_iff];simpa using h
 rw[this]
theorem C5(p:Int→Bool)(l:af): -1≤pw p l∧pw p l<l.length:=by
 unfold pw;cases h:l.findIdx? p with
 |none=>simp only[];omega
 |some i=>
  rw[List.findIdx?_eq_some_iff_getElem]at h;obtain⟨h1,_⟩:=h;simp only[];omega
def kept(p:Int→Bool)(l:af)(j:Nat):af:=(l.take j).filter (fun x=> !p x)
theorem PW{p:Int→Bool}{l:af}{j:Nat}(hj:j<l.length)(hc:p (l.getD (j:Int).toNat 0)=false):kept p l (j+1)=kept p l j++[l.getD (j:Int).toNat 0]:=by
 unfold kept;simp only[Qoq,List.getD,List.getElem?_eq_getElem hj,Qpf]at hc⊢;rw[Qow hj,QoW];simp[hc]
theorem VP{p:Int→Bool}{l:af}{j:Nat}(hj:j<l.length)(hc:p (l.getD (j:Int).toNat 0)=true):kept p l (j+1)=kept p l j:=by
 unfold kept;simp only[Qoq,List.getD,List.getElem?_eq_getElem hj,Qpf]at hc⊢;rw[Qow hj,QoW];simp[hc]
theorem E8{p:Int→Bool}{l:af}{j:Nat}(hj:l.length≤j):kept p l j=l.filter (fun x=> !p x):=by
 unfold kept;rw[Qot hj]
theorem any_filter{p:Int→Bool}{l:af}(h:pw p l= -1):l.filter (fun x=> !p x)=l:=by
 unfold pw at h;cases hh:l.findIdx? p with
 |some i=>rw[hh]at h;simp only[]at h;omega
 |none=>
  rw[List.findIdx?_eq_none_iff]at hh;rw[Qpw];intro x hx;simp[hh x hx]
theorem H8{p:Int→Bool}{l:af}(h:pw p l≠-1):∃i:Nat,pw p l=(i:Int)∧i<l.length∧kept p l (i+1)=l.take i:=by
 unfold pw at h⊢;cases hh:l.findIdx? p with
 |none=>rw[hh]at h;simp at h
 |some i=>
  rw[List.findIdx?_eq_some_iff_getElem]at hh;obtain⟨h1,h2,h3⟩:=hh;refine⟨i,rfl,h1,?_⟩;unfold kept;rw[Qow h1,QoW];have:[l[i]].filter (fun x=> !p x)=[]:=by simp[h2]
  rw[this,QoZ,Qpw];intro x hx;obtain⟨j,hj,rfl⟩:=Qqo.1 hx;simp at hj;have:=h3 j oM;simpa using this
def H9(l m k:af)(j:Nat):Prop:=m.length=l.length∧m.take k.length=k∧m.drop j=l.drop j∧k.length<j
theorem PX{l m k:af}{j:Nat}(h:H9 l m k j):m.getD (j:Int).toNat 0=l.getD (j:Int).toNat 0:=by
 obtain⟨h1,_,h3,_⟩:=h;simp only[Qoq,List.getD];have e:∀x:af,x[j]?=(x.drop j)[0]?:=fun x=>sI
 rw[e m,e l,h3]
theorem VS{l m k:af}{j:Nat}(h:H9 l m k j):H9 l m k (j+1):=by
 obtain⟨h1,h2,h3,h4⟩:=h;refine⟨h1,h2,?_,oM⟩;rw[←Qqb,←Qqb,h3]
theorem PY{l m k:af}{j:Nat}(h:H9 l m k j)(hj:j<l.length)(v:Int):H9 l (m.set k.length v) (k++[v]) (j+1):=by
 obtain⟨h1,h2,h3,h4⟩:=h;refine⟨by simpa using h1,?_,?_,by simp;omega⟩
 ·rw[QoG,List.length_singleton,Qow (by simp;omega)];rw[Qp4 (kQ _),h2];simp
 ·rw[Qqc,Kt oM,←Qqb,←Qqb,h3]
theorem halfL_start{l:af}{i:Nat}(hi:i<l.length):H9 l l (l.take i) (i+1):=by
 refine⟨rfl,sI,rfl,by simp;omega⟩
theorem VT{k m:af}(h2:m.take k.length=k)(z y:aP):((ints m).take (k.length*1)++z++y).take (k.length*1)=ints k:=by
 have hl:k.length≤m.length:=by have:=Qlh List.length h2;simp at this;omega
 have hi:(ints m).take (k.length*1)=ints k:=by rw[Qoz];unfold ints;rw[←List.map_take,h2]
 rw[hi,QoC];have:k.length*1=(ints k).length:=by rw[dg,Qoz]
 rw[this,List.take_left]
end Go.Mor
namespace Go.Mor
open Go.RowKit
def dstsOf(c:Code):Nat→Nat→List Nat
 |0,_=>[]
 |n+1,k=>match ax c k with
  |some (some d,_,_,_)=>d::dstsOf c n (k+1)
  |_=>dstsOf c n (k+1)
def VU(l:List Nat)(t:Nat):Bool:=match l with
 |[]=>false
 |x::r=>match Nat.beq x t with
  |true=>true
  |false=>VU r t
def inE(env:Env)(t:Nat):Bool:=match env with
 |[]=>false
 |(x,_)::r=>match Nat.beq x t with
  |true=>true
  |false=>inE r t
def se(keys:List Nat)(env:Env):List Nat→Bool
 |[]=>true
 |d::r=>match VU keys d with
  |true=>se keys env r
  |false=>match inE env d with
   |true=>false
   |false=>se keys env r
theorem PZ{l:List Nat}{t:Nat}(h:VU l t=true):t∈l:=by
 induction l with
 |nil=>cases h
 |cons x r ih=>
  unfold VU at h;split at h
  ·rename_i hb;exact Qon.2 (.inl (Kb hb).symm)
  ·exact Qmq _ (ih h)
theorem P0{env:Env}{t:Nat}{v:Value}(h:look env t=some v):inE env t=true:=by
 induction env with
 |nil=>simp[look]at h
 |cons x r ih=>
  obtain⟨k,u⟩:=x;unfold look at h;unfold inE;split at h
  ·rename_i hb;rw[hb]
  ·rename_i hb;rw[hb];exact ih h
theorem Ia{keys:List Nat}{env:Env}{ds:List Nat}(h:se keys env ds=true){t:Nat}(ht:t∈ds){v:Value}(hv:look env t=some v):t∈keys:=by
 induction ds with
 |nil=>cases ht
 |cons d r ih=>
  unfold se at h;rcases Qon.1 ht with rfl|ht
  ·split at h
   ·rename_i hk;exact PZ hk
   ·rw[P0 hv]at h;cases h
  ·split at h
   ·exact ih h ht
   ·split at h
    ·cases h
    ·exact ih h ht
theorem E9{l r:Env}{t:Nat}:look (l++r) t=match look l t with
  |some v=>some v
  |none=>look r t:=by
 induction l with
 |nil=>rfl
 |cons x l ih=>
  obtain⟨k,u⟩:=x;show look ((k,u)::(l++r)) t=_;simp only[look];split
  ·rfl
  ·exact ih
theorem P1{keys:List Nat}{env:Env}{t:Nat}{v:Value}(h:t∈keys)(hv:look env t=some v):look (mh keys env) t=some v:=by
 induction keys with
 |nil=>cases h
 |cons k r ih=>
  unfold mh;by_cases e:k=t
  ·subst e;rw[hv];simp[look,Nat.beq_refl]
  ·have hb:Nat.beq k t=false:=by rw[←Qqn];exact fun h=>e (Kb h)
   rcases Qon.1 h with rfl|h
   ·exact absurd rfl e
   ·split
    ·simp only[look,hb];exact ih h
    ·exact ih h
theorem om{P:Program}{c:Code}{N:FN}:∀(n k:Nat) {env e1:Env},eK P c N n k env=some e1→∀t,t∉dstsOf c n k→look e1 t=look env t
 |0,k,env,e1,h,t,_=>by simp only[eK,Kr]at h;rw[h]
 |n+1,k,env,e1,h,t,ht=>by
  simp only[eK]at h;split at h
  ·rename_i d op ty g hk;have step:∀v,eK P c N n (k+1) (dq env d v)=some e1→look e1 t=look env t:=by
    intro v hv;cases d with
    |none=>
     simp only[dstsOf,hk]at ht;exact om n (k+1) hv t ht
    |some d=>
     simp only[dstsOf,hk,Qon,not_or]at ht;have:=om n (k+1) hv t ht.2;rw[this];have hb:Nat.beq d t=false:=by rw[←Qqn];exact fun h=>ht.1 (Kb h).symm
     simp[dq,look,hb]
   split at h
   ·split at h
    ·split at h
     ·exact step _ h
     ·cases h
    ·exact step _ h
    ·cases h
   ·cases h
  ·cases h
theorem Uz{P:Program}{c:Code}{N:FN}:∀(n k:Nat) {env e1:Env},eK P c N n k env=some e1→∃pre,e1=pre++env
 |0,k,env,e1,h=>by simp only[eK,Kr]at h;exact⟨[],h.symm⟩
 |n+1,k,env,e1,h=>by
  simp only[eK]at h;split at h
  ·rename_i d op ty g hk;have step:∀v,eK P c N n (k+1) (dq env d v)=some e1→∃pre,e1=pre++env:=by
    intro v hv;obtain⟨pre,hp⟩:=Uz n (k+1) hv;cases d with
    |none=>exact⟨pre,hp⟩
    |some d=>exact⟨pre++[(d,v)],by rw[hp];simp[dq]⟩
   split at h
   ·split at h
    ·split at h
     ·exact step _ h
     ·cases h
    ·exact step _ h
    ·cases h
   ·cases h
  ·cases h
theorem Ib{P:Program}{c:Code}{K:Act→World→Prop}{Q:Exit→Act→World→Prop}{w:World}{N:FN}(n k':Nat){k:Nat}{a:Act}{env news:Env}(keys:List Nat)(hF:Fr a N env)(hp:(eK P c N n k env).map (mh keys)=some news)(hc:se keys env (dstsOf c n k)=true)(hk:k+n=k')(h:∀a',Fr a' N (news++env)→bz P c K Q k' a' w):bz P c K Q k a w:=by
 cases hr:eK P c N n k env with
 |none=>rw[hr]at hp;cases hp
 |some LP=>
  rw[hr]at hp;simp only[Fc,Kr]at hp;subst hk;refine tj n k hF hr (fun a' Hv=>h a' ⟨Hv.defers,Hv.size,fun t v hv=> ?_⟩);rw[E9]at hv;split at hv
  ·rename_i u hu;injection hv with hv;subst hv;rw[←hp]at hu;exact Hv.slot t u (xH hu)
  ·rename_i hu;refine Hv.slot t v ?_;by_cases hd:t∈dstsOf c n k
   ·have hk:=Ia hc hd hv;cases he:look LP t with
    |some x=>
     have h1:=P1 hk he;rw[hp,hu]at h1;cases h1
    |none=>
     exfalso;obtain⟨pre,HZ⟩:=Uz n k hr;rw[HZ,E9]at he;split at he
     ·cases he
     ·rw[hv]at he;cases he
   ·rw[om n k hr t hd];exact hv
end Go.Mor
namespace Go.Mor
open Go.RowKit
def VV(P:Program)(c:Code)(N:FN)(env:Env)(k:Nat):Option (Option Nat×Addr):=match ax c k with
 |some (d,.load t x,_,g)=>match bD c g env,gp d N,xL P t,ev env x with
  |some true,true,true,some (.pointer (some ad))=>some (d,ad)
  |_,_,_,_=>none
 |_=>none
def Te(P:Program)(c:Code)(N:FN)(env:Env)(k:Nat):Option (Option Nat×Addr×Option Nat):=match ax c k with
 |some (d,.load t x,_,g)=>match bD c g env,gp d N,ev env x with
  |some true,true,some (.pointer (some ad))=>some (d,ad,uJ P t)
  |_,_,_=>none
 |_=>none
def VW(P:Program)(c:Code)(N:FN)(env:Env)(k:Nat):Option (Option Nat×ar×Nat×Nat×Int):=match ax c k with
 |some (d,.indexAddr t x y,_,g)=>match bD c g env,gp d N,ev env x,ev env y with
  |some true,true,some (.slice A n _),some (.int _ i)=>match P.underlying t with
   |some (.slice e)=>match P.info? e with
    |some inf=>some (d,A,n,inf.size,i)
    |none=>none
   |_=>none
  |_,_,_,_=>none
 |_=>none
def Lw(c:Code)(N:FN)(env:Env)(k:Nat):Option (Option Nat×Int):=match ax c k with
 |some (d,.binOp op _ x y _,_,g)=>match bD c g env,gp d N,ev env x,ev env y with
  |some true,true,some (.int .i64 i),some (.int .i64 j)=>match arI op i j with
   |some z=>some (d,z)
   |none=>none
  |_,_,_,_=>none
 |_=>none
def Tf(P:Program)(c:Code)(N:FN)(env:Env)(k:Nat):Option (Option Nat×Nat×Array Value):=match ax c k with
 |some (d,.call {callee:= .value x,args:=args,argTypes:=_},_,g)=>match bD c g env,gp d N,ev env x,Vt env args.toList with
  |some true,true,some (.func (.func f) first cap),some vs=>match first.size,xP P f with
   |0,true=>some (d,f,(vs++cap.toList).toArray)
   |_,_=>none
  |_,_,_,_=>none
 |_=>none
def gdE(c:Code)(N:FN)(env:Env)(k:Nat):Option (Option Nat×Option Bool):=match ax c k with
 |some (d,_,_,g)=>match gp d N with
  |true=>some (d,bD c g env)
  |false=>none
 |none=>none
section
variable {P : Program} {c : Code} {K : Act → World → Prop} {Q : Exit → Act → World → Prop} {a : Act} {w w0 : World} {S : Nat → Prop} {L : List bx} {k : Nat} {N : FN} {env : Env}
theorem br(d:Option Nat)(ad:Addr)(hF:Fr a N env)(hk:VV P c N env k=some (d,ad))(v:Value)(hc:w.cell? ad=some v)(h:∀a',Fr a' N (dq env d v)→bz P c K Q (k+1) a' w):bz P c K Q k a w:=by
 unfold VV at hk;split at hk
 ·rename_i h0;split at hk
  ·rename_i h1 h2 h3 h4;simp only[Kr,Qaq]at hk;obtain⟨rfl,rfl⟩:=hk;exact rY h0 hF h1 h2 rfl h4 h3 hc (fun a' _=>h a')
  ·cases hk
 ·cases hk
theorem VX(d:Option Nat)(ad:Addr)(vs:aP)(hF:Fr a N env)(hk:Te P c N env k=some (d,ad,some vs.length))(hc:∀j v,vs[j]?=some v→w.cell? (ad.add j)=some v)(h:∀a',Fr a' N (dq env d (.agg vs.toArray))→bz P c K Q (k+1) a' w):bz P c K Q k a w:=by
 unfold Te at hk;split at hk
 ·rename_i h0;split at hk
  ·rename_i h1 h2 h4;simp only[Kr,Qaq]at hk;obtain⟨rfl,rfl,h3⟩:=hk;exact fQ h0 hF h1 h2 rfl h4 h3 hc (fun a' _=>h a')
  ·cases hk
 ·cases hk
theorem mj(d:Option Nat)(ad:Addr)(n size:Nat)(i:Int)(hF:Fr a N env)(hk:VW P c N env k=some (d,some ad,n,size,i))(h0:0≤i)(h1:i<n)(h:∀a',Fr a' N (dq env d (vP (ad.add (i.toNat*size))))→bz P c K Q (k+1) a' w):bz P c K Q k a w:=by
 unfold VW at hk;split at hk
 ·rename_i g0;split at hk
  ·rename_i g1 g2 g3 g4;split at hk
   ·rename_i e ht;split at hk
    ·rename_i inf hs;simp only[Kr,Qaq]at hk;obtain⟨rfl,hA,rfl,rfl,rfl⟩:=hk;exact r2 g0 hF g1 g2 rfl g3 g4 hA ht (by rw[hs];rfl) h0 h1 (fun a' _=>h a')
    ·cases hk
   ·cases hk
  ·cases hk
 ·cases hk
theorem GF(d:Option Nat)(z:Int)(hF:Fr a N env){z0:Int}(hk:Lw c N env k=some (d,z0))(hz:z0=z)(h1: -9223372036854775808≤z)(h2:z≤9223372036854775807)(h:∀a',Fr a' N (dq env d (vI z))→bz P c K Q (k+1) a' w):bz P c K Q k a w:=by
 subst hz;unfold Lw at hk;split at hk
 ·rename_i g0;split at hk
  ·rename_i g1 g2 g3 g4;split at hk
   ·rename_i z hz;simp only[Kr,Qaq]at hk;obtain⟨rfl,rfl⟩:=hk;exact gv g0 hF g1 g2 rfl g3 g4 hz h1 h2 (fun a' _=>h a')
   ·cases hk
  ·cases hk
 ·cases hk
theorem oq(d:Option Nat)(f:FuncId)(vs:aP)(hF:Fr a N env)(hk:Tf P c N env k=some (d,f,vs.toArray)){Φ:Value→World→Prop}(hc:Calls P f vs.toArray w (ez Φ))(h:∀v w',Φ v w'→∀a',Fr a' N (dq env d v)→bz P c K Q (k+1) a' w'):bz P c K Q k a w:=by
 unfold Tf at hk;split at hk
 ·rename_i d' x args ts ty g g0;split at hk
  ·rename_i f' first cap us g1 g2 g3 g4
   split at hk
   ·rename_i hs hf;simp only[Kr,Qaq]at hk;obtain⟨rfl,rfl,hv⟩:=hk;have Ic:first=#[]:=Qqt hs
    subst Ic;exact gK g0 hF g1 g2 rfl (f:=f') (vs:=us) (cap:=cap.toList) (by simpa using g3) g4 hf (by rw[hv];exact hc) (fun v w' hv a' _=>h v w' hv a')
   ·cases hk
  ·cases hk
 ·cases hk
theorem az{B:Bool}{d:Option Nat}(v:Value)(hF:Fr a N env)(hg:gdE c N env k=some (d,some B))(hr:B=true→(∀a',Fr a' N (dq env d v)→bz P c K Q (k+1) a' w)→bz P c K Q k a w)(h:∀a',Fr a' N (dq env d (cond B v undef))→bz P c K Q (k+1) a' w):bz P c K Q k a w:=by
 cases B with
 |true=>exact hr rfl h
 |false=>
  unfold gdE at hg;split at hg
  ·rename_i h0;split at hg
   ·rename_i hd;simp only[Kr,Qaq]at hg;obtain⟨rfl,hg⟩:=hg;exact uG h0 hF hg (h _ (hF.put hd undef))
   ·cases hg
  ·cases hg
theorem iu{B:Bool}{d:Option Nat}(v:Value)(hF:Fr a N env)(hg:gdE c N env k=some (d,some B))(hr:B=true→(∀a' w',Mem bq w w' []→Fr a' N (dq env d v)→bz P c K Q (k+1) a' w')→bz P c K Q k a w)(h:∀a' w',Mem bq w w' []→Fr a' N (dq env d (cond B v undef))→bz P c K Q (k+1) a' w'):bz P c K Q k a w:=by
 cases B with
 |true=>exact hr rfl h
 |false=>
  unfold gdE at hg;split at hg
  ·rename_i h0;split at hg
   ·rename_i hd;simp only[Kr,Qaq]at hg;obtain⟨rfl,hg⟩:=hg;exact uG h0 hF hg (h _ _ (Mem.init w) (hF.put hd undef))
   ·cases hg
  ·cases hg
theorem iU(b:Bool):((!b)=true)=(¬b=true):=by cases b<;>simp
end
end Go.Mor
namespace Go.Mor
open Go.RowKit
theorem P2{P:Program}{c:Code}{K:Act→World→Prop}{Q:Exit→Act→World→Prop}{a:Act}{w:World}{k k':Nat}{N:FN}{env:Env}{d:Option Nat}{ty:Nat}{g:Option (Nat×Bool)}{op:UnOp}{t:TypeId}{x:Operand}(hk:ax c k=some (d,.unOp op t x,ty,g))(hF:Fr a N env)(hg:bD c g env=some true)(hd:gp d N=true)(iO:k+1=k'){kd:IntKind}{i:Int}{z:Value}(hx:ev env x=some (.int kd i))(hb:∀w,(Op.unary op (.int kd i)).run P w= .ok z w)(h:∀a',a'=a.put d z→Fr a' N (dq env d z)→bz P c K Q k' a' w):bz P c K Q k a w:=by
 refine eC hk hF hg hd iO (fun o ho=> ?_) h;unfold execOp;rw[ho];simp only[hF.ev hx,Qor,hb,QnS];rfl
end Go.Mor
namespace Go.Mor
open Go.RowKit
section
variable {P : Program} {c : Code} {K : Act → World → Prop} {Q : Exit → Act → World → Prop} {a : Act} {w : World}
theorem VY{t:Nat}{N:FN}{env:Env}{e:Bool}{R:Prop}(hk:kind c= .cond (.tmp t))(hF:Fr a N env)(hv:look env t=some (vB e))(i:e=true↔R)(ht:R→W P (Code.l c) K Q a w)(hf:¬R→W P (Code.r c) K Q a w):W P c K Q a w:=HW hk hF hv (fun h=>ht (i.1 h)) (fun h=>hf (fun r=>by rw[i.2 r]at h;cases h))
end
end Go.Mor
namespace Go.Mor
open Go.RowKit
section
variable {P : Program} {c : Code} {K : Act → World → Prop} {Q : Exit → Act → World → Prop} {a : Act} {w : World}
def spE(P:Program)(c:Code)(N:FN)(env:Env)(keys:List Nat):Option Env:=match kind c,kind (Code.l c)with
 | .seq,.region false=>match eK P (Code.l c) N (opsOf (Code.l c)).size 0 env,se keys env (dstsOf (Code.l c) (opsOf (Code.l c)).size 0)with
  |some e,true=>some (mh keys e)
  |_,_=>none
 |_,_=>none
theorem QhU(h1:(match kind c,kind (Code.l c)with| .seq,.region false=>true|_,_=>false)=true)(h:bz P (Code.l c) (fun a w=>W P (Code.r c) K Q a w) Q 0 a w):W P c K Q a w:=by
 split at h1
 ·rename_i e1 e2;exact ZS e1 (EX e2 h)
 ·cases h1
end
end Go.Mor
namespace Go.Mor
open Go.RowKit
def bx.all(l:List bx):bx where
 fp:=fun k=>∃r,r∈l∧r.fp k
 holds w:=∀r,r∈l→r.holds w
 gO:=fun h hw r hr=>r.gO (fun k hk=>h k ⟨r,hr,hk⟩) (hw r hr)
 lt:=fun hw ⟨r,hr,hk⟩=>r.lt (hw r hr) hk
theorem RO.sub{S:Nat→Prop}{w:World}{l:List bx}{r:bx}(h:RO S w (.all l))(hr:r∈l):RO S w r:=⟨h.1 r hr,fun g hg=>h.2 g ⟨r,hr,hg⟩⟩
structure bZ where
 dst:Int
 A:ar
 c:Nat
 args:af
def bZ.cells(x:bZ):aP:=[vI x.dst,.slice x.A x.args.length x.c]
structure bl where
 op:Int
 dst:Int
 n:Int
 name:aV
 A:ar
 c:Nat
 args:af
def bl.cells(x:bl):aP:=[vI x.op,vI x.dst,vI x.n,.string x.name,.slice x.A x.args.length x.c]
structure aE where
 pA:ar
 pc:Nat
 au:List bZ
 iA:ar
 ic:Nat
 insts:List bl
 e:Int
 v:Int
 a:Int
 b:Int
def aE.sb(x:aE):SB:=⟨x.pA,x.au.length,x.pc,x.iA,x.insts.length,x.ic,x.e,x.v,x.a,x.b⟩
def aq(fs:List aE):List SB:=fs.map aE.sb
theorem bK(fs:List aE):(aq fs).length=fs.length:=by simp[aq]
theorem fH{fs:List aE}{i:Nat}{x:aE}(h:fs[i]?=some x):(aq fs)[i]?=some x.sb:=by simp[aq,h]
def aE.parts(x:aE):List bx:= .l7 x.pA 2 (x.au.map bZ.cells):: .l7 x.iA 5 (x.insts.map bl.cells)::(x.au.map (fun p=>bx.rd p.A (ints p.args))++x.insts.map (fun p=>bx.rd p.A (ints p.args)))
def bx.fn(A:ar)(fs:List aE):bx:= .all (.blocks A (aq fs)::fs.flatMap aE.parts)
section
variable {S : Nat → Prop} {w : World} {A : Option Addr} {fs : List aE}
theorem RO.bs(h:RO S w (.fn A fs)):RO S w (.blocks A (aq fs)):=h.sub (Qop)
theorem RO.au(h:RO S w (.fn A fs)){i:Nat}{x:aE}(hx:fs[i]?=some x):RO S w (.l7 x.pA 2 (x.au.map bZ.cells)):=h.sub (Qmq _ (Qo8.2 ⟨x,D7 hx,Qop⟩))
theorem RO.insts(h:RO S w (.fn A fs)){i:Nat}{x:aE}(hx:fs[i]?=some x):RO S w (.l7 x.iA 5 (x.insts.map bl.cells)):=h.sub (Qmq _ (Qo8.2 ⟨x,D7 hx,Qmq _ Qop⟩))
theorem RO.sf(h:RO S w (.fn A fs)){i j:Nat}{x:aE}{p:bZ}(hx:fs[i]?=some x)(hp:x.au[j]?=some p):RO S w (.rd p.A (ints p.args)):=h.sub (Qmq _ (Qo8.2 ⟨x,D7 hx,Qmq _ (Qmq _ (Qox _ (Qhz.2 ⟨p,D7 hp,rfl⟩)))⟩))
theorem RO.inst(h:RO S w (.fn A fs)){i j:Nat}{x:aE}{p:bl}(hx:fs[i]?=some x)(hp:x.insts[j]?=some p):RO S w (.rd p.A (ints p.args)):=h.sub (Qmq _ (Qo8.2 ⟨x,D7 hx,Qmq _ (Qmq _ (Qo5 _ (Qhz.2 ⟨p,D7 hp,rfl⟩)))⟩))
end
theorem gf{w:World}{A:ar}{size:Nat}{PQ:List aP}{ad:Addr}(h:(bx.l7 A size PQ).holds w)(hA:A=some ad){i:Nat}{cs:aP}(hi:PQ[i]?=some cs):∀j v,cs[j]?=some v→w.cell? ((ad.add (i*size)).add j)=some v:=aQ h hA hi
theorem dy{w:World}{A:ar}{fs:List aE}{ad:Addr}{i:Nat}{x:aE}(h:(bx.blocks A (aq fs)).holds w)(hA:A=some ad)(hi:fs[i]?=some x):∀j v,[.slice x.pA x.au.length x.pc,.slice x.iA x.insts.length x.ic,vI x.e,vI x.v,vI x.a,vI x.b][j]?=some v→w.cell? ((ad.add (i*6)).add j)=some v:=sd h hA (fH hi)
theorem qQ{w:World}{x:aE}{ad:Addr}{i:Nat}{p:bZ}(h:(bx.l7 x.pA 2 (x.au.map bZ.cells)).holds w)(hA:x.pA=some ad)(hi:x.au[i]?=some p):∀j v,[vI p.dst,.slice p.A p.args.length p.c][j]?=some v→w.cell? ((ad.add (i*2)).add j)=some v:=aQ (cs:=p.cells) h hA (by simp[hi])
theorem ml{w:World}{x:aE}{ad:Addr}{i:Nat}{p:bl}(h:(bx.l7 x.iA 5 (x.insts.map bl.cells)).holds w)(hA:x.iA=some ad)(hi:x.insts[i]?=some p):∀j v,[vI p.op,vI p.dst,vI p.n,.string p.name,.slice p.A p.args.length p.c][j]?=some v→w.cell? ((ad.add (i*5)).add j)=some v:=aQ (cs:=p.cells) h hA (by simp[hi])
def In64(n:Int):Prop:= -9223372036854775808≤n∧n≤9223372036854775807
def dJ(n:Nat):Prop:=n≤281474976710656
structure bZ.Ok(p:bZ):Prop where
 dst:In64 p.dst
 len:dJ p.args.length
 args:∀x,x∈p.args→In64 x
structure bl.Ok(p:bl):Prop where
 op:In64 p.op
 dst:In64 p.dst
 n:In64 p.n
 name:dJ p.name.size
 len:dJ p.args.length
 args:∀x,x∈p.args→In64 x
structure aE.Ok(x:aE):Prop where
 lp:dJ x.au.length
 au:∀p,p∈x.au→p.Ok
 li:dJ x.insts.length
 insts:∀p,p∈x.insts→p.Ok
 e:In64 x.e
 v:In64 x.v
 a:In64 x.a
 b:In64 x.b
def pz(fs:List aE):Prop:=∀x,x∈fs→x.Ok
theorem pz.get{fs:List aE}(h:pz fs){i:Nat}{x:aE}(hi:fs[i]?=some x):x.Ok:=h x (D7 hi)
theorem aM{α:Type}{l:List α}{i:Nat}(h:i<l.length):∃x,l[i]?=some x:=⟨_,List.getElem?_eq_getElem h⟩
abbrev fV(nm:aV)(wk:Bool)(pa va:Int)(A:ar)(c:Nat)(fs:List aE):aP:=[.string nm,.bool wk,vI pa,vI va,.slice A (aq fs).length c]
abbrev fA(nm:aV)(wk:Bool)(pa va:Int)(A:ar)(c:Nat)(fs:List aE):Value:= .agg #[.string nm,.bool wk,vI pa,vI va,.slice A (aq fs).length c]
abbrev xV(x:aE):aP:=[.slice x.pA x.au.length x.pc,.slice x.iA x.insts.length x.ic,vI x.e,vI x.v,vI x.a,vI x.b]
abbrev xA(x:aE):Value:= .agg #[.slice x.pA x.au.length x.pc,.slice x.iA x.insts.length x.ic,vI x.e,vI x.v,vI x.a,vI x.b]
abbrev iV(p:bl):aP:=[vI p.op,vI p.dst,vI p.n,.string p.name,.slice p.A p.args.length p.c]
abbrev iG(p:bl):Value:= .agg #[vI p.op,vI p.dst,vI p.n,.string p.name,.slice p.A p.args.length p.c]
abbrev pV(p:bZ):aP:=[vI p.dst,.slice p.A p.args.length p.c]
abbrev QnQ(fs:List aE):Nat:=(aq fs).length
abbrev Qk0(i:bl):List Value:=[.int .i64 i.op,.int .i64 i.dst,.int .i64 i.n,.string i.name,.slice i.A i.args.length i.c]
abbrev Qk1(i:bl):Value:= .agg #[.int .i64 i.op,.int .i64 i.dst,.int .i64 i.n,.string i.name,.slice i.A i.args.length i.c]
abbrev Qk2(x:aE):List Value:=[.slice x.pA x.au.length x.pc,.slice x.iA x.insts.length x.ic,.int .i64 x.e,.int .i64 x.v,.int .i64 x.a,.int .i64 x.b]
abbrev Qk3(x:aE):Value:= .agg #[.slice x.pA x.au.length x.pc,.slice x.iA x.insts.length x.ic,.int .i64 x.e,.int .i64 x.v,.int .i64 x.a,.int .i64 x.b]
end Go.Mor
