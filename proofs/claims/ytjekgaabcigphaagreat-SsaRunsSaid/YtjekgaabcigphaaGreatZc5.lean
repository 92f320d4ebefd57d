/-
  Texts of the proof, part 5.
-/
import Derived.Test.YtjekgaabcigphaaGreatZc4
import Derived.ProofKit
import Derived.Deep.Fields
import Derived.Lib.SmallJoins
set_option maxRecDepth 10000
namespace Go.Mor
open Go.ChangeShapes Go.WideShapes Go.Deep
section
variable {H : Type} {enc : TypeId × Value → H} {P : Program} {w : World} {base : Nat} {spare : Nat → Bool} {held : Bool}
theorem Qj{t:TypeId}{k:IntKind}(ht:P.underlying t=some (.int k)){fuel:Nat}{v:Value}{x:DataW H×List MemPlace}(h:DataW.trod enc P w base spare held fuel t [v]=some x):∃n,v= .int k n∧k.min≤n∧n≤k.max:=by
 obtain⟨n,h1,_,h2⟩:=DataW.trod_int ht h;simp at h1;simp only[Lit.wf,bo,aE]at h2;exact⟨n,h1,h2.1,h2.2⟩
theorem lN{α:Type}{n:Nat}{p:Nat→α→Prop}(h:∀i,i<n→∃x,p i x):∃l:List α,l.length=n∧∀i x,l[i]?=some x→p i x:=by
 induction n with
 |zero=>exact⟨[],rfl,sI⟩
 |succ n ih=>
  obtain⟨l,hl,hp⟩:=ih fun i hi=>h i oM
  obtain⟨x,hx⟩:=h n oM;refine⟨l++[x],by simp[hl],fun i y hi=> ?_⟩;rcases Nat.lt_trichotomy i n with h1|h1|h1
  ·rw[List.getElem?_append_left oM]at hi;exact hp i y hi
  ·subst h1;rw[List.getElem?_append_right oM]at hi;simp[hl]at hi;exact hi▸hx
  ·rw[List.getElem?_eq_none (by simp;omega)]at hi;cases hi
end
end Go.Mor
namespace Go.Mor
open Go.ChangeShapes Go.WideShapes Go.ChangeAt Go.RowKit Go.Deep
section
variable {H : Type} {enc : TypeId × Value → H} {P : Program}
theorem sq(hl:laidOutB P=true){base:Nat}{sp:Nat→Bool}{W W':World}:∀{ts:List TypeId} {vs:aO} {ds:List (DataW H)} {ps:List MemPlace},ts.all (fun t=>P.readableRec t&&decide (t<P.types.size))=true→DataW.TrodAll enc P W base (fun _=>true) true ts vs ds ps→(∀p∈ps,W.sameAt W' p)→(∀p∈ps,sp p.block=true)→DataW.TrodAll enc P W' base sp true ts vs ds ps
 |[],vs,ds,ps,_,h,_,_=>by cases vs<;>cases ds<;>simp_all[DataW.TrodAll]
 |t::ts,vs,ds,ps,hr,h,Z2,hs=>by obtain⟨v,Z3,d,ds',p,q,rfl,rfl,rfl,h1,h2⟩:=trodAll_cons h;simp only[List.all_cons,bo,aE]at hr;exact⟨p,q,WideElems.Trod_stays hl hr.1.1 hr.1.2 h1 (fun x hx=>Z2 x (dG _ hx)) (fun x hx=>hs x (dG _ hx)),sq hl hr.2 h2 (fun x hx=>Z2 x (iR _ hx)) (fun x hx=>hs x (iR _ hx)),rfl⟩
theorem MB(hl:laidOutB P=true){f:Func}{s:ChangeSpec}{W W':World}{args:Array Value}{ds gs:List (DataW H)}{ps:List MemPlace}{tb:TypeId}(hb:P.underlying tb=some .bool)(QhY:f.resultTypes=#[tb])(hr:f.params.toList.all (fun t=>P.readableRec t&&decide (t<P.types.size))=true)(hv:s.vars=[])(hW:DataW.Whole enc P f.params.toList [] false W args.toList ds gs ps)(h1:(s.fn H (ds++gs)).results=[.lit (.bool true)])(h2:(s.fn H (ds++gs)).args=ds)(h3:(s.fn H (ds++gs)).vars=[]){w':World}(hm:Mem aX W W' [])(e:W'=w'):s.post enc P f false true false false W args (.bool true) w':=by
 subst e;obtain⟨p,q,hA,hV,hpq,hz,hn⟩:=hW;obtain⟨hg,hq⟩:=trodVars_none hV;subst hg;subst hq;have KH:Below W.heap.size W W':=hm.below;have hW':DataW.Whole enc P f.params.toList [] false W args.toList ds [] ps:=⟨p,[],hA,hV,hpq,hz,hn⟩;have fM:=hW'.lt;rw[mm]at hpq;subst hpq;refine⟨ds,[],ps,[],ps,[],by rw[hv];exact hW',?_,?_,?_,KH.frame _,fun h=>by simp at h⟩
 ·rw[h1,QhY];exact trodAll_mk1 (shut_bool hb _)
 ·rw[h2];exact sq hl hr hA (fun x hx=>KH.same (fM x hx)) (fun x hx=>by simpa using fM x hx)
 ·rw[h3,hv];exact(rfl:_=_)
end
end Go.Mor
namespace Go.Mor
open Go.RowKit
theorem Cc{P:Program}{c:Code}{K:Act→World→Prop}{Q:Exit→Act→World→Prop}{a:Act}{w:World}{k k':Nat}{N:FN}{env:Env}{d:Option Nat}{ty:Nat}{g:Option (Nat×Bool)}{t t':TypeId}{x:Operand}(hk:ay c k=some (d,.convert t t' x,ty,g))(hF:Fr a N env)(hg:bt c g env=some true)(hd:gq d N=true)(jN:k+1=k'){kd kd' ks:IntKind}{i z:Int}(hx:ev env x=some (.int kd i))(hs:P.underlying t=some (.int ks))(ht:P.underlying t'=some (.int kd'))(hz:kd'.wrap i=z)(h:∀a',a'=a.put d (.int kd' z)→Fr a' N (cO env d (.int kd' z))→aV P c K Q k' a' w):aV P c K Q k a w:=by
 refine eD hk hF hg hd jN (fun o ho=> ?_) h;unfold execOp;rw[ho];simp[hF.ev hx,convert,cT,eY hs,eY ht,dz,Conv.intToInt,hz]
theorem Z4{n:Int}(h:(Lit.int .u8 n).wf=true):0≤n∧n≤255:=by
 simp only[Lit.wf,bo,aE]at h;exact⟨h.1,h.2⟩
end Go.Mor
namespace Go.Mor
open Go.RowKit
def bx.jY(A:ao)(size:Nat)(Qk:List aO):bx where
 fp:=fun k=>(∃i cs,Qk[i]?=some cs∧cs≠[])∧∃a,A=some a∧a.block=k
 holds w:=∀i cs,Qk[i]?=some cs→∃ad,A=some ad∧∀j v,cs[j]?=some v→w.cell? ((ad.add (i*size)).add j)=some v
 gZ:=by
  intro w w' h hw i cs hi
  obtain⟨a,ha,hc⟩:=hw i cs hi
  refine⟨a,ha,fun j v hj=> ?_⟩
  rw[←hc j v hj]
  refine World.cell?_of_block ?_
  rw[block_add,block_add]
  exact h a.block ⟨⟨i,cs,hi,by rintro rfl;simp at hj⟩,a,ha,rfl⟩
 lt:=by
  rintro w k hw ⟨⟨i,cs,hi,dN⟩,a,rfl,rfl⟩
  obtain⟨a',ha,hc⟩:=hw i cs hi
  injection ha with ha
  subst ha
  cases cs with
  |nil=>exact absurd rfl dN
  |cons x cs=>
   have h0:=hc 0 x rfl
   unfold World.cell? at h0
   split at h0
   ·rename_i h;have:=gr h;rwa [block_add,block_add]at this
   ·cases h0
theorem ba{w:World}{A:ao}{size:Nat}{Qk:List aO}{ad:Addr}(h:(bx.jY A size Qk).holds w)(hA:A=some ad){i:Nat}{cs:aO}(hi:Qk[i]?=some cs):∀j v,cs[j]?=some v→w.cell? ((ad.add (i*size)).add j)=some v:=by
 obtain⟨a',ha,hc⟩:=h i cs hi;rw[hA]at ha;injection ha with ha;subst ha;exact hc
theorem bd{w:World}{A:ao}{size:Nat}{Qk:List aO}{cs:aO}{i:Nat}(h:(bx.jY A size Qk).holds w)(hi:Qk[i]?=some cs):∃ad,A=some ad:=by
 obtain⟨a',ha,_⟩:=h i cs hi;exact⟨a',ha⟩
structure SB where
 pA:ao
 pn:Nat
 pc:Nat
 iA:ao
 ik:Nat
 ic:Nat
 e:Int
 v:Int
 a:Int
 b:Int
def SB.cells(x:SB):aO:=[.slice x.pA x.pn x.pc,.slice x.iA x.ik x.ic,vI x.e,vI x.v,vI x.a,vI x.b]
def bx.blocks(A:ao)(bs:List SB):bx:= .jY A 6 (bs.map SB.cells)
theorem eV{w:World}{A:ao}{bs:List SB}{i:Nat}{x:SB}(h:(bx.blocks A bs).holds w)(hi:bs[i]?=some x):∃ad,A=some ad:=bd (cs:=x.cells) (i:=i) h (by simp[hi])
theorem sR{w:World}{A:ao}{bs:List SB}{ad:Addr}{i:Nat}{x:SB}(h:(bx.blocks A bs).holds w)(hA:A=some ad)(hi:bs[i]?=some x):∀j v,[.slice x.pA x.pn x.pc,.slice x.iA x.ik x.ic,vI x.e,vI x.v,vI x.a,vI x.b][j]?=some v→w.cell? ((ad.add (i*6)).add j)=some v:=ba (cs:=x.cells) h hA (by simp[hi])
theorem Ql{α:Type}{l:List α}{i:Int}(h0:0≤i)(h:i<l.length):∃x,l[i.toNat]?=some x:=⟨_,List.getElem?_eq_getElem oM⟩
theorem Qm{l:af}{k:Int}{j:Nat}(h:(l.take j).contains k=false)(hc:¬(l.getD (j:Int).toNat 0=k))(hj:j<l.length):(l.take (j+1)).contains k=false:=by
 rw[fO hj];simp only[cZ,List.getD,List.getElem?_eq_getElem hj,kK]at hc;simp only[Ix,decide_eq_false_iff_not,bX,cI]at h⊢;exact fun hh=>hh.elim h (fun e=>hc e.symm)
theorem V5{l:af}{k:Int}{j:Nat}(hc:l.getD (j:Int).toNat 0=k)(hj:j<l.length):l.contains k=true:=by
 simp only[cZ,List.getD,List.getElem?_eq_getElem hj,kK]at hc;simp only[Ix,aE];exact hc▸qH hj
theorem Qbx{l:af}{k:Int}{j:Nat}(h:(l.take j).contains k=false)(hj:l.length≤j):l.contains k=false:=by
 rwa [kh hj]at h
theorem pq{w w':World}{A:ao}{n c:Nat}{l l0:af}(hM:Mem aX w w' [.row 3 1 A n c (ints l)])(e:l=l0)(hn:n=l.length):∃A' c',Value.slice A n c=vS A' l0.length c'∧Mem aX w w' [.row 3 1 A' l0.length c' (ints l0)]:=by
 subst e;subst hn;exact⟨A,c,rfl,hM⟩
theorem rE{w w':World}{l0:af}(hM:Mem aX w w' [])(e:l0=[]):∃A' c',Value.slice none 0 0=vS A' l0.length c'∧Mem aX w w' [.row 3 1 A' l0.length c' (ints l0)]:=by
 subst e;exact⟨none,0,rfl,hM.call (Mem.gb _ 3 1)⟩
def iX(n:Nat)(t:Int):Bool:=decide (0≤t)&&decide (t<n)
def Fh(n:Nat)(x:SB):af:=(if x.e=0 then[x.a]else if x.e=1 then(if x.a=x.b then[x.a]else[x.a,x.b])else[]).filter (iX n)
def tg(bs:List SB)(b:Int):af:=if 0≤b then(match bs[b.toNat]? with
 |some x=>Fh bs.length x
 |none=>[])else[]
theorem y2{bs:List SB}{b:Int}(h:b<0∨(bs.length:Int)≤b):tg bs b=[]:=by
 unfold tg;split
 ·rw[List.getElem?_eq_none oM]
 ·rfl
theorem y3{bs:List SB}{b:Int}{x:SB}(h:0≤b)(hx:bs[b.toNat]?=some x):tg bs b=Fh bs.length x:=by
 unfold tg;rw[bC h,hx]
theorem V6(n:Nat)(x:SB):(Fh n x).length≤2:=by
 unfold Fh;refine iv (m5 _ _) ?_;split
 ·simp
 ·split
  ·split<;>simp
  ·simp
theorem qI(bs:List SB)(b:Int):(tg bs b).length≤2:=by
 unfold tg;split
 ·split
  ·exact V6 _ _
  ·simp
 ·simp
theorem qJ{bs:List SB}{b t:Int}(h:t∈tg bs b):0≤t∧t<bs.length:=by
 unfold tg at h;split at h
 ·split at h
  ·simp only[Fh,e8,iX,bo,aE]at h;exact h.2
  ·simp at h
 ·simp at h
theorem Qby{n:Nat}{t:Int}(h:t<0):iX n t=false:=by
 unfold iX;simp;omega
theorem Qbz{n:Nat}{t:Int}(h:¬t<0):decide (t≥(n:Int))=!(iX n t):=by
 unfold iX;have h0:decide (0≤t)=true:=by simp;omega
 rw[h0,y4];by_cases h1:t<(n:Int)
 ·simp[h1]
 ·simp[h1];omega
theorem ints_set(l:af)(i:Nat)(v:Int):ints (l.set i v)=(ints l).set i (vI v):=by simp[ints,po]
theorem pr(n:Nat)(l:af):l.filter (fun x=> !((fun x=> !(iX n x)) x))=l.filter (iX n):=by
 apply qF;intro x _;simp
theorem Qn{n:Nat}{x:SB}(h0:¬x.e=0)(h1:¬x.e=1):([]:af).filter (fun x=> !((fun x=> !(iX n x)) x))=Fh n x:=by
 rw[pr];unfold Fh;rw[aB h0,aB h1]
theorem KO{n:Nat}{x:SB}(h:x.e=0∨(¬x.e=0∧x.e=1∧x.a=x.b)):[x.a].filter (fun x=> !((fun x=> !(iX n x)) x))=Fh n x:=by
 rw[pr];unfold Fh;rcases h with h|⟨h,h1,h2⟩
 ·rw[bC h]
 ·rw[aB h,bC h1,bC h2]
theorem V7{n:Nat}{x:SB}(h:x.e=1)(h2:¬x.a=x.b):[x.a,x.b].filter (fun x=> !((fun x=> !(iX n x)) x))=Fh n x:=by
 rw[pr];unfold Fh;rw[aB oM,bC h,aB h2]
def Vi(n:Nat)(x:SB):af:=if iX n x.a then[x.a]else[]
def rt2(n:Nat)(x:SB):af:=if x.e=1∧x.b≠x.a∧iX n x.b=true then[x.b]else[]
theorem rt_eq{n:Nat}{x:SB}(h:x.e=0∨x.e=1):Vi n x++rt2 n x=Fh n x:=by
 unfold Vi rt2 Fh;rcases h with h|h
 ·rw[bC h,aB (show¬(x.e=1∧x.b≠x.a∧iX n x.b=true)by rintro⟨h1,_⟩;omega)];by_cases h1:iX n x.a=true<;>simp[h1]
 ·rw[aB (show¬x.e=0 by omega),bC h];by_cases h0:x.a=x.b
  ·rw[bC h0,aB (show¬(x.e=1∧x.b≠x.a∧iX n x.b=true)from fun hh=>hh.2.1 h0.symm)];by_cases h1:iX n x.a=true<;>simp[h1]
  ·rw[aB h0];have h0':x.b≠x.a:=fun e=>h0 e.symm
   by_cases h1:iX n x.a=true<;>by_cases h2:iX n x.b=true
   ·rw[bC h1,bC ⟨h,h0',h2⟩];simp[h1,h2]
   ·rw[bC h1,aB (fun hh=>h2 hh.2.2)];simp[h1,h2]
   ·rw[aB h1,bC ⟨h,h0',h2⟩];simp[h1,h2]
   ·rw[aB h1,aB (fun hh=>h2 hh.2.2)];simp[h1,h2]
theorem V8{n:Nat}{x:SB}(h0:¬x.e=0)(h1:¬x.e=1):Fh n x=[]:=by
 unfold Fh;rw[aB h0,aB h1];rfl
theorem V9{n:Nat}{x:SB}(h0:x.a≥0)(h1:x.a<n):Vi n x=[x.a]:=by simp[Vi,iX,h0,h1]
theorem Qo{n:Nat}{x:SB}(h:x.a<0∨¬x.a<n):Vi n x=[]:=by
 unfold Vi iX;rw[aB];simp only[bo,aE];omega
theorem Wa{n:Nat}{x:SB}(h:x.e=1)(h':x.b≠x.a)(h0:x.b≥0)(h1:x.b<n):rt2 n x=[x.b]:=by simp[rt2,iX,h,h',h0,h1]
theorem DE{n:Nat}{x:SB}(h:¬x.e=1∨¬x.b≠x.a∨¬(x.b≥0)∨¬x.b<n):rt2 n x=[]:=by
 unfold rt2 iX;rw[aB];simp only[bo,aE];omega
theorem KP(n:Nat)(x:SB):(Vi n x).length≤1:=by unfold Vi;split<;>simp
def fh(bs:List SB)(b:Int)(k:Nat):af:=((List.range k).filter (fun i:Nat=>(tg bs (i:Int)).contains b)).map (fun i:Nat=>(i:Int))
def bO(bs:List SB)(b:Int):af:=fh bs b bs.length
theorem qK(bs:List SB)(b:Int)(k:Nat):fh bs b (k+1)=fh bs b k++(if(tg bs (k:Int)).contains b=true then[(k:Int)]else[]):=by
 unfold fh;rw[sS,ly,di];congr 1;by_cases h:(tg bs (k:Int)).contains b=true
 ·rw[bC h];simp only[List.filter_cons,h,mn,List.filter_nil,ga,kc]
 ·rw[aB h];rw[qL]at h;simp only[List.filter_cons,h,m4,iP,List.filter_nil,kc]
theorem ki(bs:List SB)(b:Int)(k:Nat):(fh bs b k).length≤k:=by
 unfold fh;rw[fi];exact iv (m5 _ _) sI
def ow(p:Int→Bool)(l:af):Int:=match l.findIdx? p with
 |some i=>(i:Int)
 |none=> -1
theorem FO{p:Int→Bool}{l:af}{j:Nat}(h:(l.take j).any p=false)(hc:p (l.getD (j:Int).toNat 0)=false)(hj:j<l.length):(l.take (j+1)).any p=false:=by
 rw[fO hj];simp only[cZ,List.getD,List.getElem?_eq_getElem hj,kK]at hc;rw[List.any_append,h];simp[hc]
theorem y5{p:Int→Bool}{l:af}{j:Nat}(h:(l.take j).any p=false)(hc:p (l.getD (j:Int).toNat 0)=true)(hj:j<l.length):ow p l=(j:Int):=by
 simp only[cZ,List.getD,List.getElem?_eq_getElem hj,kK]at hc;unfold ow;have:l.findIdx? p=some j:=by rw[List.findIdx?_eq_some_iff_getElem];refine⟨hj,hc,fun i hi=> ?_⟩;simp only[List.any_eq_false]at h;exact h _ (DF.2 ⟨i,by simp;omega,sI⟩)
 rw[this]
theorem vk{p:Int→Bool}{l:af}{j:Nat}(h:(l.take j).any p=false)(hj:l.length≤j):ow p l= -1:=by
 rw[kh hj]at h;unfold ow;have:l.findIdx? p=none:=by rw[List.findIdx?_eq_none_iff];simpa using h
 rw[this]
theorem DG(p:Int→Bool)(l:af): -1≤ow p l∧ow p l<l.length:=by
 unfold ow;cases h:l.findIdx? p with
 |none=>simp only[];omega
 |some i=>
  rw[List.findIdx?_eq_some_iff_getElem]at h;obtain⟨h1,_⟩:=h;simp only[];omega
def kept(p:Int→Bool)(l:af)(j:Nat):af:=(l.take j).filter (fun x=> !p x)
theorem Qp{p:Int→Bool}{l:af}{j:Nat}(hj:j<l.length)(hc:p (l.getD (j:Int).toNat 0)=false):kept p l (j+1)=kept p l j++[l.getD (j:Int).toNat 0]:=by
 unfold kept;simp only[cZ,List.getD,List.getElem?_eq_getElem hj,kK]at hc⊢;rw[fO hj,ly];simp[hc]
theorem Wb{p:Int→Bool}{l:af}{j:Nat}(hj:j<l.length)(hc:p (l.getD (j:Int).toNat 0)=true):kept p l (j+1)=kept p l j:=by
 unfold kept;simp only[cZ,List.getD,List.getElem?_eq_getElem hj,kK]at hc⊢;rw[fO hj,ly];simp[hc]
theorem FP{p:Int→Bool}{l:af}{j:Nat}(hj:l.length≤j):kept p l j=l.filter (fun x=> !p x):=by
 unfold kept;rw[kh hj]
theorem any_filter{p:Int→Bool}{l:af}(h:ow p l= -1):l.filter (fun x=> !p x)=l:=by
 unfold ow at h;cases hh:l.findIdx? p with
 |some i=>rw[hh]at h;simp only[]at h;omega
 |none=>
  rw[List.findIdx?_eq_none_iff]at hh;rw[Iy];intro x hx;simp[hh x hx]
theorem Iz{p:Int→Bool}{l:af}(h:ow p l≠-1):∃i:Nat,ow p l=(i:Int)∧i<l.length∧kept p l (i+1)=l.take i:=by
 unfold ow at h⊢;cases hh:l.findIdx? p with
 |none=>rw[hh]at h;simp at h
 |some i=>
  rw[List.findIdx?_eq_some_iff_getElem]at hh;obtain⟨h1,h2,h3⟩:=hh;refine⟨i,rfl,h1,?_⟩;unfold kept;rw[fO h1,ly];have:[l[i]].filter (fun x=> !p x)=[]:=by simp[h2]
  rw[this,mm,Iy];intro x hx;obtain⟨j,hj,rfl⟩:=DF.1 hx;simp at hj;have:=h3 j oM;simpa using this
def IA(l m k:af)(j:Nat):Prop:=m.length=l.length∧m.take k.length=k∧m.drop j=l.drop j∧k.length<j
theorem Qq{l m k:af}{j:Nat}(h:IA l m k j):m.getD (j:Int).toNat 0=l.getD (j:Int).toNat 0:=by
 obtain⟨h1,_,h3,_⟩:=h;simp only[cZ,List.getD];have e:∀x:af,x[j]?=(x.drop j)[0]?:=fun x=>sI
 rw[e m,e l,h3]
theorem Wc{l m k:af}{j:Nat}(h:IA l m k j):IA l m k (j+1):=by
 obtain⟨h1,h2,h3,h4⟩:=h;refine⟨h1,h2,?_,oM⟩;rw[←DH,←DH,h3]
theorem Qr{l m k:af}{j:Nat}(h:IA l m k j)(hj:j<l.length)(v:Int):IA l (m.set k.length v) (k++[v]) (j+1):=by
 obtain⟨h1,h2,h3,h4⟩:=h;refine⟨by simpa using h1,?_,?_,by simp;omega⟩
 ·rw[fz,List.length_singleton,fO (by simp;omega)];rw[Dp (cB _),h2];simp
 ·rw[List.drop_set,bC oM,←DH,←DH,h3]
theorem IB{l:af}{i:Nat}(hi:i<l.length):IA l l (l.take i) (i+1):=by
 refine⟨rfl,sI,rfl,by simp;omega⟩
theorem Wd{k m:af}(h2:m.take k.length=k)(z y:aO):((ints m).take (k.length*1)++z++y).take (k.length*1)=ints k:=by
 have hl:k.length≤m.length:=by have:=bE List.length h2;simp at this;omega
 have hi:(ints m).take (k.length*1)=ints k:=by rw[eE];unfold ints;rw[←List.map_take,h2]
 rw[hi,en];have:k.length*1=(ints k).length:=by rw[dq,eE]
 rw[this,List.take_left]
end Go.Mor
namespace Go.Mor
open Go.RowKit
def dstsOf(c:Code):Nat→Nat→List Nat
 |0,_=>[]
 |n+1,k=>match ay c k with
  |some (some d,_,_,_)=>d::dstsOf c n (k+1)
  |_=>dstsOf c n (k+1)
def We(l:List Nat)(t:Nat):Bool:=match l with
 |[]=>false
 |x::r=>match Nat.beq x t with
  |true=>true
  |false=>We r t
def inE(env:Env)(t:Nat):Bool:=match env with
 |[]=>false
 |(x,_)::r=>match Nat.beq x t with
  |true=>true
  |false=>inE r t
def sT(keys:List Nat)(env:Env):List Nat→Bool
 |[]=>true
 |d::r=>match We keys d with
  |true=>sT keys env r
  |false=>match inE env d with
   |true=>false
   |false=>sT keys env r
theorem Qs{l:List Nat}{t:Nat}(h:We l t=true):t∈l:=by
 induction l with
 |nil=>cases h
 |cons x r ih=>
  unfold We at h;split at h
  ·rename_i hb;exact db.2 (.inl (iq hb).symm)
  ·exact bT _ (ih h)
theorem Qt{env:Env}{t:Nat}{v:Value}(h:look env t=some v):inE env t=true:=by
 induction env with
 |nil=>simp[look]at h
 |cons x r ih=>
  obtain⟨k,u⟩:=x;unfold look at h;unfold inE;split at h
  ·rename_i hb;rw[hb]
  ·rename_i hb;rw[hb];exact ih h
theorem IC{keys:List Nat}{env:Env}{ds:List Nat}(h:sT keys env ds=true){t:Nat}(ht:t∈ds){v:Value}(hv:look env t=some v):t∈keys:=by
 induction ds with
 |nil=>cases ht
 |cons d r ih=>
  unfold sT at h;rcases db.1 ht with rfl|ht
  ·split at h
   ·rename_i hk;exact Qs hk
   ·rw[Qt hv]at h;cases h
  ·split at h
   ·exact ih h ht
   ·split at h
    ·cases h
    ·exact ih h ht
theorem FQ{l r:Env}{t:Nat}:look (l++r) t=match look l t with
  |some v=>some v
  |none=>look r t:=by
 induction l with
 |nil=>rfl
 |cons x l ih=>
  obtain⟨k,u⟩:=x;show look ((k,u)::(l++r)) t=_;simp only[look];split
  ·rfl
  ·exact ih
theorem Qu{keys:List Nat}{env:Env}{t:Nat}{v:Value}(h:t∈keys)(hv:look env t=some v):look (nR keys env) t=some v:=by
 induction keys with
 |nil=>cases h
 |cons k r ih=>
  unfold nR;by_cases e:k=t
  ·subst e;rw[hv];simp[look,Nat.beq_refl]
  ·have hb:Nat.beq k t=false:=by rw[←qL];exact fun h=>e (iq h)
   rcases db.1 h with rfl|h
   ·exact absurd rfl e
   ·split
    ·simp only[look,hb];exact ih h
    ·exact ih h
theorem pt{P:Program}{c:Code}{N:FN}:∀(n k:Nat) {env e1:Env},fE P c N n k env=some e1→∀t,t∉dstsOf c n k→look e1 t=look env t
 |0,k,env,e1,h,t,_=>by simp only[fE,cP]at h;rw[h]
 |n+1,k,env,e1,h,t,ht=>by
  simp only[fE]at h;split at h
  ·rename_i d op ty g hk;have step:∀v,fE P c N n (k+1) (cO env d v)=some e1→look e1 t=look env t:=by
    intro v hv;cases d with
    |none=>
     simp only[dstsOf,hk]at ht;exact pt n (k+1) hv t ht
    |some d=>
     simp only[dstsOf,hk,db,not_or]at ht;have:=pt n (k+1) hv t ht.2;rw[this];have hb:Nat.beq d t=false:=by rw[←qL];exact fun h=>ht.1 (iq h).symm
     simp[cO,look,hb]
   split at h
   ·split at h
    ·split at h
     ·exact step _ h
     ·cases h
    ·exact step _ h
    ·cases h
   ·cases h
  ·cases h
theorem wB{P:Program}{c:Code}{N:FN}:∀(n k:Nat) {env e1:Env},fE P c N n k env=some e1→∃pre,e1=pre++env
 |0,k,env,e1,h=>by simp only[fE,cP]at h;exact⟨[],h.symm⟩
 |n+1,k,env,e1,h=>by
  simp only[fE]at h;split at h
  ·rename_i d op ty g hk;have step:∀v,fE P c N n (k+1) (cO env d v)=some e1→∃pre,e1=pre++env:=by
    intro v hv;obtain⟨pre,hp⟩:=wB n (k+1) hv;cases d with
    |none=>exact⟨pre,hp⟩
    |some d=>exact⟨pre++[(d,v)],by rw[hp];simp[cO]⟩
   split at h
   ·split at h
    ·split at h
     ·exact step _ h
     ·cases h
    ·exact step _ h
    ·cases h
   ·cases h
  ·cases h
theorem IE{P:Program}{c:Code}{K:Act→World→Prop}{Q:Exit→Act→World→Prop}{w:World}{N:FN}(n k':Nat){k:Nat}{a:Act}{env news:Env}(keys:List Nat)(hF:Fr a N env)(hp:(fE P c N n k env).map (nR keys)=some news)(hc:sT keys env (dstsOf c n k)=true)(hk:k+n=k')(h:∀a',Fr a' N (news++env)→aV P c K Q k' a' w):aV P c K Q k a w:=by
 cases hr:fE P c N n k env with
 |none=>rw[hr]at hp;cases hp
 |some Mt=>
  rw[hr]at hp;simp only[gC,cP]at hp;subst hk;refine tH n k hF hr (fun a' Fg=>h a' ⟨Fg.defers,Fg.size,fun t v hv=> ?_⟩);rw[FQ]at hv;split at hv
  ·rename_i u hu;injection hv with hv;subst hv;rw[←hp]at hu;exact Fg.slot t u (yB hu)
  ·rename_i hu;refine Fg.slot t v ?_;by_cases hd:t∈dstsOf c n k
   ·have hk:=IC hc hd hv;cases he:look Mt t with
    |some x=>
     have h1:=Qu hk he;rw[hp,hu]at h1;cases h1
    |none=>
     exfalso;obtain⟨pre,Im⟩:=wB n k hr;rw[Im,FQ]at he;split at he
     ·cases he
     ·rw[hv]at he;cases he
   ·rw[pt n k hr t hd];exact hv
end Go.Mor
namespace Go.Mor
open Go.RowKit
def Wf(P:Program)(c:Code)(N:FN)(env:Env)(k:Nat):Option (Option Nat×Addr):=match ay c k with
 |some (d,.load t x,_,g)=>match bt c g env,gq d N,xu P t,ev env x with
  |some true,true,true,some (.pointer (some ad))=>some (d,ad)
  |_,_,_,_=>none
 |_=>none
def lsE(P:Program)(c:Code)(N:FN)(env:Env)(k:Nat):Option (Option Nat×Addr×Option Nat):=match ay c k with
 |some (d,.load t x,_,g)=>match bt c g env,gq d N,ev env x with
  |some true,true,some (.pointer (some ad))=>some (d,ad,yH P t)
  |_,_,_=>none
 |_=>none
def Wg(P:Program)(c:Code)(N:FN)(env:Env)(k:Nat):Option (Option Nat×ao×Nat×Nat×Int):=match ay c k with
 |some (d,.indexAddr t x y,_,g)=>match bt c g env,gq d N,ev env x,ev env y with
  |some true,true,some (.slice A n _),some (.int _ i)=>match P.underlying t with
   |some (.slice e)=>match P.info? e with
    |some inf=>some (d,A,n,inf.size,i)
    |none=>none
   |_=>none
  |_,_,_,_=>none
 |_=>none
def arE(c:Code)(N:FN)(env:Env)(k:Nat):Option (Option Nat×Int):=match ay c k with
 |some (d,.binOp op _ x y _,_,g)=>match bt c g env,gq d N,ev env x,ev env y with
  |some true,true,some (.int .i64 i),some (.int .i64 j)=>match arI op i j with
   |some z=>some (d,z)
   |none=>none
  |_,_,_,_=>none
 |_=>none
def clE(P:Program)(c:Code)(N:FN)(env:Env)(k:Nat):Option (Option Nat×Nat×Array Value):=match ay c k with
 |some (d,.call {callee:= .value x,args:=args,argTypes:=_},_,g)=>match bt c g env,gq d N,ev env x,P2 env args.toList with
  |some true,true,some (.func (.func f) first cap),some vs=>match first.size,mZ P f with
   |0,true=>some (d,f,(vs++cap.toList).toArray)
   |_,_=>none
  |_,_,_,_=>none
 |_=>none
def gdE(c:Code)(N:FN)(env:Env)(k:Nat):Option (Option Nat×Option Bool):=match ay c k with
 |some (d,_,_,g)=>match gq d N with
  |true=>some (d,bt c g env)
  |false=>none
 |none=>none
section
variable {P : Program} {c : Code} {K : Act → World → Prop} {Q : Exit → Act → World → Prop} {a : Act} {w w0 : World} {S : Nat → Prop} {L : List bx} {k : Nat} {N : FN} {env : Env}
theorem bq(d:Option Nat)(ad:Addr)(hF:Fr a N env)(hk:Wf P c N env k=some (d,ad))(v:Value)(hc:w.cell? ad=some v)(h:∀a',Fr a' N (cO env d v)→aV P c K Q (k+1) a' w):aV P c K Q k a w:=by
 unfold Wf at hk;split at hk
 ·rename_i h0;split at hk
  ·rename_i h1 h2 h3 h4;simp only[cP,cF]at hk;obtain⟨rfl,rfl⟩:=hk;exact sJ h0 hF h1 h2 rfl h4 h3 hc (fun a' _=>h a')
  ·cases hk
 ·cases hk
theorem Wh(d:Option Nat)(ad:Addr)(vs:aO)(hF:Fr a N env)(hk:lsE P c N env k=some (d,ad,some vs.length))(hc:∀j v,vs[j]?=some v→w.cell? (ad.add j)=some v)(h:∀a',Fr a' N (cO env d (.agg vs.toArray))→aV P c K Q (k+1) a' w):aV P c K Q k a w:=by
 unfold lsE at hk;split at hk
 ·rename_i h0;split at hk
  ·rename_i h1 h2 h4;simp only[cP,cF]at hk;obtain⟨rfl,rfl,h3⟩:=hk;exact ix h0 hF h1 h2 rfl h4 h3 hc (fun a' _=>h a')
  ·cases hk
 ·cases hk
theorem pv(d:Option Nat)(ad:Addr)(n size:Nat)(i:Int)(hF:Fr a N env)(hk:Wg P c N env k=some (d,some ad,n,size,i))(h0:0≤i)(h1:i<n)(h:∀a',Fr a' N (cO env d (vP (ad.add (i.toNat*size))))→aV P c K Q (k+1) a' w):aV P c K Q k a w:=by
 unfold Wg at hk;split at hk
 ·rename_i g0;split at hk
  ·rename_i g1 g2 g3 g4;split at hk
   ·rename_i e ht;split at hk
    ·rename_i inf hs;simp only[cP,cF]at hk;obtain⟨rfl,hA,rfl,rfl,rfl⟩:=hk;exact sK g0 hF g1 g2 rfl g3 g4 hA ht (by rw[hs];rfl) h0 h1 (fun a' _=>h a')
    ·cases hk
   ·cases hk
  ·cases hk
 ·cases hk
theorem tN(d:Option Nat)(z:Int)(hF:Fr a N env){z0:Int}(hk:arE c N env k=some (d,z0))(hz:z0=z)(h1: -9223372036854775808≤z)(h2:z≤9223372036854775807)(h:∀a',Fr a' N (cO env d (vI z))→aV P c K Q (k+1) a' w):aV P c K Q k a w:=by
 subst hz;unfold arE at hk;split at hk
 ·rename_i g0;split at hk
  ·rename_i g1 g2 g3 g4;split at hk
   ·rename_i z hz;simp only[cP,cF]at hk;obtain⟨rfl,rfl⟩:=hk;exact jk g0 hF g1 g2 rfl g3 g4 hz h1 h2 (fun a' _=>h a')
   ·cases hk
  ·cases hk
 ·cases hk
theorem nU(d:Option Nat)(f:FuncId)(vs:aO)(hF:Fr a N env)(hk:clE P c N env k=some (d,f,vs.toArray)){Φ:Value→World→Prop}(hc:Calls P f vs.toArray w (ff Φ))(h:∀v w',Φ v w'→∀a',Fr a' N (cO env d v)→aV P c K Q (k+1) a' w'):aV P c K Q k a w:=by
 unfold clE at hk;split at hk
 ·rename_i d' x args ts ty g g0;split at hk
  ·rename_i f' first cap us g1 g2 g3 g4
   split at hk
   ·rename_i hs hf;simp only[cP,cF]at hk;obtain⟨rfl,rfl,hv⟩:=hk;have IG:first=#[]:=DI hs
    subst IG;exact lv g0 hF g1 g2 rfl (f:=f') (vs:=us) (cap:=cap.toList) (by simpa using g3) g4 hf (by rw[hv];exact hc) (fun v w' hv a' _=>h v w' hv a')
   ·cases hk
  ·cases hk
 ·cases hk
theorem az{B:Bool}{d:Option Nat}(v:Value)(hF:Fr a N env)(hg:gdE c N env k=some (d,some B))(hr:B=true→(∀a',Fr a' N (cO env d v)→aV P c K Q (k+1) a' w)→aV P c K Q k a w)(h:∀a',Fr a' N (cO env d (cond B v undef))→aV P c K Q (k+1) a' w):aV P c K Q k a w:=by
 cases B with
 |true=>exact hr rfl h
 |false=>
  unfold gdE at hg;split at hg
  ·rename_i h0;split at hg
   ·rename_i hd;simp only[cP,cF]at hg;obtain⟨rfl,hg⟩:=hg;exact u4 h0 hF hg (h _ (hF.put hd undef))
   ·cases hg
  ·cases hg
theorem iy{B:Bool}{d:Option Nat}(v:Value)(hF:Fr a N env)(hg:gdE c N env k=some (d,some B))(hr:B=true→(∀a' w',Mem aX w w' []→Fr a' N (cO env d v)→aV P c K Q (k+1) a' w')→aV P c K Q k a w)(h:∀a' w',Mem aX w w' []→Fr a' N (cO env d (cond B v undef))→aV P c K Q (k+1) a' w'):aV P c K Q k a w:=by
 cases B with
 |true=>exact hr rfl h
 |false=>
  unfold gdE at hg;split at hg
  ·rename_i h0;split at hg
   ·rename_i hd;simp only[cP,cF]at hg;obtain⟨rfl,hg⟩:=hg;exact u4 h0 hF hg (h _ _ (Mem.init w) (hF.put hd undef))
   ·cases hg
  ·cases hg
theorem jQ(b:Bool):((!b)=true)=(¬b=true):=by cases b<;>simp
end
end Go.Mor
namespace Go.Mor
open Go.RowKit
theorem Qv{P:Program}{c:Code}{K:Act→World→Prop}{Q:Exit→Act→World→Prop}{a:Act}{w:World}{k k':Nat}{N:FN}{env:Env}{d:Option Nat}{ty:Nat}{g:Option (Nat×Bool)}{op:UnOp}{t:TypeId}{x:Operand}(hk:ay c k=some (d,.unOp op t x,ty,g))(hF:Fr a N env)(hg:bt c g env=some true)(hd:gq d N=true)(jN:k+1=k'){kd:IntKind}{i:Int}{z:Value}(hx:ev env x=some (.int kd i))(hb:∀w,(Op.unary op (.int kd i)).run P w= .ok z w)(h:∀a',a'=a.put d z→Fr a' N (cO env d z)→aV P c K Q k' a' w):aV P c K Q k a w:=by
 refine eD hk hF hg hd jN (fun o ho=> ?_) h;unfold execOp;rw[ho];simp only[hF.ev hx,cT,hb,dz];rfl
end Go.Mor
namespace Go.Mor
open Go.RowKit
section
variable {P : Program} {c : Code} {K : Act → World → Prop} {Q : Exit → Act → World → Prop} {a : Act} {w : World}
theorem Wi{t:Nat}{N:FN}{env:Env}{e:Bool}{R:Prop}(hk:kind c= .cond (.tmp t))(hF:Fr a N env)(hv:look env t=some (vB e))(i:e=true↔R)(ht:R→W P (Code.l c) K Q a w)(hf:¬R→W P (Code.r c) K Q a w):W P c K Q a w:=Ih hk hF hv (fun h=>ht (i.1 h)) (fun h=>hf (fun r=>by rw[i.2 r]at h;cases h))
end
end Go.Mor
namespace Go.Mor
open Go.RowKit
section
variable {P : Program} {c : Code} {K : Act → World → Prop} {Q : Exit → Act → World → Prop} {a : Act} {w : World}
def spE(P:Program)(c:Code)(N:FN)(env:Env)(keys:List Nat):Option Env:=match kind c,kind (Code.l c)with
 | .seq,.region false=>match fE P (Code.l c) N (opsOf (Code.l c)).size 0 env,sT keys env (dstsOf (Code.l c) (opsOf (Code.l c)).size 0)with
  |some e,true=>some (nR keys e)
  |_,_=>none
 |_,_=>none
theorem QhZ(h1:(match kind c,kind (Code.l c)with| .seq,.region false=>true|_,_=>false)=true)(h:aV P (Code.l c) (fun a w=>W P (Code.r c) K Q a w) Q 0 a w):W P c K Q a w:=by
 split at h1
 ·rename_i e1 e2;exact ZY e1 (FB e2 h)
 ·cases h1
end
end Go.Mor
namespace Go.Mor
open Go.RowKit
def bx.all(l:List bx):bx where
 fp:=fun k=>∃r,r∈l∧r.fp k
 holds w:=∀r,r∈l→r.holds w
 gZ:=fun h hw r hr=>r.gZ (fun k hk=>h k ⟨r,hr,hk⟩) (hw r hr)
 lt:=fun hw ⟨r,hr,hk⟩=>r.lt (hw r hr) hk
theorem RO.sub{S:Nat→Prop}{w:World}{l:List bx}{r:bx}(h:RO S w (.all l))(hr:r∈l):RO S w r:=⟨h.1 r hr,fun g hg=>h.2 g ⟨r,hr,hg⟩⟩
structure gv where
 dst:Int
 A:ao
 c:Nat
 args:af
def gv.cells(x:gv):aO:=[vI x.dst,.slice x.A x.args.length x.c]
structure cH where
 op:Int
 dst:Int
 n:Int
 name:aM
 A:ao
 c:Nat
 args:af
def cH.cells(x:cH):aO:=[vI x.op,vI x.dst,vI x.n,.string x.name,.slice x.A x.args.length x.c]
structure bF where
 pA:ao
 pc:Nat
 aK:List gv
 iA:ao
 ic:Nat
 insts:List cH
 e:Int
 v:Int
 a:Int
 b:Int
def bF.sb(x:bF):SB:=⟨x.pA,x.aK.length,x.pc,x.iA,x.insts.length,x.ic,x.e,x.v,x.a,x.b⟩
def aq(fs:List bF):List SB:=fs.map bF.sb
theorem dd(fs:List bF):(aq fs).length=fs.length:=by simp[aq]
theorem hU{fs:List bF}{i:Nat}{x:bF}(h:fs[i]?=some x):(aq fs)[i]?=some x.sb:=by simp[aq,h]
def bF.parts(x:bF):List bx:= .jY x.pA 2 (x.aK.map gv.cells):: .jY x.iA 5 (x.insts.map cH.cells)::(x.aK.map (fun p=>bx.rd p.A (ints p.args))++x.insts.map (fun p=>bx.rd p.A (ints p.args)))
def bx.fn(A:ao)(fs:List bF):bx:= .all (.blocks A (aq fs)::fs.flatMap bF.parts)
section
variable {S : Nat → Prop} {w : World} {A : Option Addr} {fs : List bF}
theorem RO.bs(h:RO S w (.fn A fs)):RO S w (.blocks A (aq fs)):=h.sub (cJ)
theorem RO.aK(h:RO S w (.fn A fs)){i:Nat}{x:bF}(hx:fs[i]?=some x):RO S w (.jY x.pA 2 (x.aK.map gv.cells)):=h.sub (bT _ (jl.2 ⟨x,bu hx,cJ⟩))
theorem RO.insts(h:RO S w (.fn A fs)){i:Nat}{x:bF}(hx:fs[i]?=some x):RO S w (.jY x.iA 5 (x.insts.map cH.cells)):=h.sub (bT _ (jl.2 ⟨x,bu hx,bT _ cJ⟩))
theorem RO.Z5(h:RO S w (.fn A fs)){i j:Nat}{x:bF}{p:gv}(hx:fs[i]?=some x)(hp:x.aK[j]?=some p):RO S w (.rd p.A (ints p.args)):=h.sub (bT _ (jl.2 ⟨x,bu hx,bT _ (bT _ (dG _ (bD.2 ⟨p,bu hp,rfl⟩)))⟩))
theorem RO.inst(h:RO S w (.fn A fs)){i j:Nat}{x:bF}{p:cH}(hx:fs[i]?=some x)(hp:x.insts[j]?=some p):RO S w (.rd p.A (ints p.args)):=h.sub (bT _ (jl.2 ⟨x,bu hx,bT _ (bT _ (iR _ (bD.2 ⟨p,bu hp,rfl⟩)))⟩))
end
theorem dk{w:World}{A:ao}{size:Nat}{Qk:List aO}{ad:Addr}(h:(bx.jY A size Qk).holds w)(hA:A=some ad){i:Nat}{cs:aO}(hi:Qk[i]?=some cs):∀j v,cs[j]?=some v→w.cell? ((ad.add (i*size)).add j)=some v:=ba h hA hi
theorem ei{w:World}{A:ao}{fs:List bF}{ad:Addr}{i:Nat}{x:bF}(h:(bx.blocks A (aq fs)).holds w)(hA:A=some ad)(hi:fs[i]?=some x):∀j v,[.slice x.pA x.aK.length x.pc,.slice x.iA x.insts.length x.ic,vI x.e,vI x.v,vI x.a,vI x.b][j]?=some v→w.cell? ((ad.add (i*6)).add j)=some v:=sR h hA (hU hi)
theorem pw{w:World}{x:bF}{ad:Addr}{i:Nat}{p:gv}(h:(bx.jY x.pA 2 (x.aK.map gv.cells)).holds w)(hA:x.pA=some ad)(hi:x.aK[i]?=some p):∀j v,[vI p.dst,.slice p.A p.args.length p.c][j]?=some v→w.cell? ((ad.add (i*2)).add j)=some v:=ba (cs:=p.cells) h hA (by simp[hi])
theorem nW{w:World}{x:bF}{ad:Addr}{i:Nat}{p:cH}(h:(bx.jY x.iA 5 (x.insts.map cH.cells)).holds w)(hA:x.iA=some ad)(hi:x.insts[i]?=some p):∀j v,[vI p.op,vI p.dst,vI p.n,.string p.name,.slice p.A p.args.length p.c][j]?=some v→w.cell? ((ad.add (i*5)).add j)=some v:=ba (cs:=p.cells) h hA (by simp[hi])
def In64(n:Int):Prop:= -9223372036854775808≤n∧n≤9223372036854775807
def dh(n:Nat):Prop:=n≤281474976710656
structure gv.Ok(p:gv):Prop where
 dst:In64 p.dst
 len:dh p.args.length
 args:∀x,x∈p.args→In64 x
structure cH.Ok(p:cH):Prop where
 op:In64 p.op
 dst:In64 p.dst
 n:In64 p.n
 name:dh p.name.size
 len:dh p.args.length
 args:∀x,x∈p.args→In64 x
structure bF.Ok(x:bF):Prop where
 lp:dh x.aK.length
 aK:∀p,p∈x.aK→p.Ok
 li:dh x.insts.length
 insts:∀p,p∈x.insts→p.Ok
 e:In64 x.e
 v:In64 x.v
 a:In64 x.a
 b:In64 x.b
def xX(fs:List bF):Prop:=∀x,x∈fs→x.Ok
theorem xX.get{fs:List bF}(h:xX fs){i:Nat}{x:bF}(hi:fs[i]?=some x):x.Ok:=h x (bu hi)
theorem aY{α:Type}{l:List α}{i:Nat}(h:i<l.length):∃x,l[i]?=some x:=⟨_,List.getElem?_eq_getElem h⟩
abbrev fV(nm:aM)(wk:Bool)(pa va:Int)(A:ao)(c:Nat)(fs:List bF):aO:=[.string nm,.bool wk,vI pa,vI va,.slice A (aq fs).length c]
abbrev fA(nm:aM)(wk:Bool)(pa va:Int)(A:ao)(c:Nat)(fs:List bF):Value:= .agg #[.string nm,.bool wk,vI pa,vI va,.slice A (aq fs).length c]
abbrev xV(x:bF):aO:=[.slice x.pA x.aK.length x.pc,.slice x.iA x.insts.length x.ic,vI x.e,vI x.v,vI x.a,vI x.b]
abbrev xA(x:bF):Value:= .agg #[.slice x.pA x.aK.length x.pc,.slice x.iA x.insts.length x.ic,vI x.e,vI x.v,vI x.a,vI x.b]
abbrev iV(p:cH):aO:=[vI p.op,vI p.dst,vI p.n,.string p.name,.slice p.A p.args.length p.c]
abbrev iG(p:cH):Value:= .agg #[vI p.op,vI p.dst,vI p.n,.string p.name,.slice p.A p.args.length p.c]
abbrev pV(p:gv):aO:=[vI p.dst,.slice p.A p.args.length p.c]
end Go.Mor
