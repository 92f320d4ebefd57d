/-
  Texts of the proof, part 5.
-/
import Derived.Test.YthgbejihcchcnaaDoorZd4
import Derived.ProofKit
import Derived.Deep.Fields
import Derived.Lib.SmallJoins
set_option maxRecDepth 10000
namespace Go.Mor
open Go.ChangeShapes Go.WideShapes Go.Deep
section
variable {H : Type} {enc : TypeId × Value → H} {P : Program} {w : World} {base : Nat} {spare : Nat → Bool} {held : Bool}
theorem Vq{t:TypeId}{k:IntKind}(ht:P.underlying t=some (.int k)){fuel:Nat}{v:Value}{x:DataW H×List MemPlace}(h:DataW.trod enc P w base spare held fuel t [v]=some x):∃n,v= .int k n∧k.min≤n∧n≤k.max:=by
 obtain⟨n,h1,_,h2⟩:=DataW.trod_int ht h;simp at h1;simp only[Lit.wf,Bool.and_eq_true,decide_eq_true_eq]at h2;exact⟨n,h1,h2.1,h2.2⟩
theorem rS{α:Type}{n:Nat}{p:Nat→α→Prop}(h:∀i,i<n→∃x,p i x):∃l:List α,l.length=n∧∀i x,l[i]?=some x→p i x:=by
 induction n with
 |zero=>exact⟨[],rfl,sI⟩
 |succ n ih=>
  obtain⟨l,hl,hp⟩:=ih fun i hi=>h i oM
  obtain⟨x,hx⟩:=h n oM;refine⟨l++[x],by simp[hl],fun i y hi=> ?_⟩;rcases Nat.lt_trichotomy i n with h1|h1|h1
  ·rw[List.getElem?_append_left oM]at hi;exact hp i y hi
  ·subst h1;rw[List.getElem?_append_right oM]at hi;simp[hl]at hi;exact hi▸hx
  ·rw[List.getElem?_eq_none (by simp;omega)]at hi;cases hi
end
end Go.Mor
namespace Go.Mor
open Go.ChangeShapes Go.WideShapes Go.ChangeAt Go.RowKit Go.Deep
section
variable {H : Type} {enc : TypeId × Value → H} {P : Program}
theorem qy(hl:laidOutB P=true){base:Nat}{sp:Nat→Bool}{W W':World}:∀{ts:List TypeId} {vs:bp} {ds:List (DataW H)} {ps:List MemPlace},ts.all (fun t=>P.readableRec t&&decide (t<P.types.size))=true→DataW.TrodAll enc P W base (fun _=>true) true ts vs ds ps→(∀p∈ps,W.sameAt W' p)→(∀p∈ps,sp p.block=true)→DataW.TrodAll enc P W' base sp true ts vs ds ps
 |[],vs,ds,ps,_,h,_,_=>by cases vs<;>cases ds<;>simp_all[DataW.TrodAll]
 |t::ts,vs,ds,ps,hr,h,Tq,hs=>by obtain⟨v,Tr,d,ds',p,q,rfl,rfl,rfl,h1,h2⟩:=trodAll_cons h;simp only[List.all_cons,Bool.and_eq_true,decide_eq_true_eq]at hr;exact⟨p,q,WideElems.Trod_stays hl hr.1.1 hr.1.2 h1 (fun x hx=>Tq x (List.mem_append_left _ hx)) (fun x hx=>hs x (List.mem_append_left _ hx)),qy hl hr.2 h2 (fun x hx=>Tq x (List.mem_append_right _ hx)) (fun x hx=>hs x (List.mem_append_right _ hx)),rfl⟩
theorem Ie(hl:laidOutB P=true){f:Func}{s:ChangeSpec}{W W':World}{args:Array Value}{ds gs:List (DataW H)}{ps:List MemPlace}{tb:TypeId}(hb:P.underlying tb=some .bool)(Qdc:f.resultTypes=#[tb])(hr:f.params.toList.all (fun t=>P.readableRec t&&decide (t<P.types.size))=true)(hv:s.vars=[])(hW:DataW.Whole enc P f.params.toList [] false W args.toList ds gs ps)(h1:(s.fn H (ds++gs)).results=[.lit (.bool true)])(h2:(s.fn H (ds++gs)).args=ds)(h3:(s.fn H (ds++gs)).vars=[]){w':World}(hm:Mem aR W W' [])(e:W'=w'):s.post enc P f false true false false W args (.bool true) w':=by
 subst e;obtain⟨p,q,hA,hV,rV,hz,hn⟩:=hW;obtain⟨hg,hq⟩:=trodVars_none hV;subst hg;subst hq;have GI:Below W.heap.size W W':=hm.below;have hW':DataW.Whole enc P f.params.toList [] false W args.toList ds [] ps:=⟨p,[],hA,hV,rV,hz,hn⟩;have fo:=hW'.lt;rw[List.append_nil]at rV;subst rV;refine⟨ds,[],ps,[],ps,[],by rw[hv];exact hW',?_,?_,?_,GI.frame _,fun h=>by simp at h⟩
 ·rw[h1,Qdc];exact trodAll_mk1 (shut_bool hb _)
 ·rw[h2];exact qy hl hr hA (fun x hx=>GI.same (fo x hx)) (fun x hx=>by simpa using fo x hx)
 ·rw[h3,hv];exact(rfl:_=_)
end
end Go.Mor
namespace Go.Mor
open Go.RowKit
def aL.GM(A:aA)(size:Nat)(K8:List bp):aL where
 fp:=fun k=>(∃i cs,K8[i]?=some cs∧cs≠[])∧∃a,A=some a∧a.block=k
 holds w:=∀i cs,K8[i]?=some cs→∃ad,A=some ad∧∀j v,cs[j]?=some v→w.cell? ((ad.add (i*size)).add j)=some v
 fL:=by
  intro w w' h hw i cs hi
  obtain⟨a,ha,hc⟩:=hw i cs hi
  refine⟨a,ha,fun j v hj=> ?_⟩
  rw[←hc j v hj]
  refine World.cell?_of_block ?_
  rw[block_add,block_add]
  exact h a.block ⟨⟨i,cs,hi,by rintro rfl;simp at hj⟩,a,ha,rfl⟩
 lt:=by
  rintro w k hw ⟨⟨i,cs,hi,dG⟩,a,rfl,rfl⟩
  obtain⟨a',ha,hc⟩:=hw i cs hi
  injection ha with ha
  subst ha
  cases cs with
  |nil=>exact absurd rfl dG
  |cons x cs=>
   have h0:=hc 0 x rfl
   unfold World.cell? at h0
   split at h0
   ·rename_i h;have:=kz h;rwa [block_add,block_add]at this
   ·cases h0
theorem An{w:World}{A:aA}{size:Nat}{K8:List bp}{ad:Addr}(h:(aL.GM A size K8).holds w)(hA:A=some ad){i:Nat}{cs:bp}(hi:K8[i]?=some cs):∀j v,cs[j]?=some v→w.cell? ((ad.add (i*size)).add j)=some v:=by
 obtain⟨a',ha,hc⟩:=h i cs hi;rw[hA]at ha;injection ha with ha;subst ha;exact hc
theorem cZ{w:World}{A:aA}{size:Nat}{K8:List bp}{cs:bp}{i:Nat}(h:(aL.GM A size K8).holds w)(hi:K8[i]?=some cs):∃ad,A=some ad:=by
 obtain⟨a',ha,_⟩:=h i cs hi;exact⟨a',ha⟩
structure SB where
 pA:aA
 pn:Nat
 pc:Nat
 iA:aA
 ik:Nat
 ic:Nat
 e:Int
 v:Int
 a:Int
 b:Int
def SB.cells(x:SB):bp:=[.slice x.pA x.pn x.pc,.slice x.iA x.ik x.ic,vI x.e,vI x.v,vI x.a,vI x.b]
def aL.blocks(A:aA)(bs:List SB):aL:= .GM A 6 (bs.map SB.cells)
theorem di{w:World}{A:aA}{bs:List SB}{i:Nat}{x:SB}(h:(aL.blocks A bs).holds w)(hi:bs[i]?=some x):∃ad,A=some ad:=cZ (cs:=x.cells) (i:=i) h (by simp[hi])
theorem qR{w:World}{A:aA}{bs:List SB}{ad:Addr}{i:Nat}{x:SB}(h:(aL.blocks A bs).holds w)(hA:A=some ad)(hi:bs[i]?=some x):∀j v,[.slice x.pA x.pn x.pc,.slice x.iA x.ik x.ic,vI x.e,vI x.v,vI x.a,vI x.b][j]?=some v→w.cell? ((ad.add (i*6)).add j)=some v:=An (cs:=x.cells) h hA (by simp[hi])
theorem K9{α:Type}{l:List α}{i:Int}(h0:0≤i)(h:i<l.length):∃x,l[i.toNat]?=some x:=⟨_,List.getElem?_eq_getElem oM⟩
theorem La{l:ar}{k:Int}{j:Nat}(h:(l.take j).contains k=false)(hc:¬(l.getD (j:Int).toNat 0=k))(hj:j<l.length):(l.take (j+1)).contains k=false:=by
 rw[List.take_succ_eq_append_getElem hj];simp only[Int.toNat_natCast,List.getD,List.getElem?_eq_getElem hj,Option.getD_some]at hc;simp only[List.contains_eq_mem,kq,List.mem_append,List.mem_singleton]at h⊢;exact fun hh=>hh.elim h (fun e=>hc e.symm)
theorem QG{l:ar}{k:Int}{j:Nat}(hc:l.getD (j:Int).toNat 0=k)(hj:j<l.length):l.contains k=true:=by
 simp only[Int.toNat_natCast,List.getD,List.getElem?_eq_getElem hj,Option.getD_some]at hc;simp only[List.contains_eq_mem,decide_eq_true_eq];exact hc▸List.getElem_mem hj
theorem Vr{l:ar}{k:Int}{j:Nat}(h:(l.take j).contains k=false)(hj:l.length≤j):l.contains k=false:=by
 rwa [List.take_of_length_le hj]at h
theorem lH{w w':World}{A:aA}{n c:Nat}{l l0:ar}(hM:Mem aR w w' [.row 3 1 A n c (ints l)])(e:l=l0)(hn:n=l.length):∃A' c',Value.slice A n c=vS A' l0.length c'∧Mem aR w w' [.row 3 1 A' l0.length c' (ints l0)]:=by
 subst e;subst hn;exact⟨A,c,rfl,hM⟩
theorem pU{w w':World}{l0:ar}(hM:Mem aR w w' [])(e:l0=[]):∃A' c',Value.slice none 0 0=vS A' l0.length c'∧Mem aR w w' [.row 3 1 A' l0.length c' (ints l0)]:=by
 subst e;exact⟨none,0,rfl,hM.call (Mem.gG _ 3 1)⟩
def iC(n:Nat)(t:Int):Bool:=decide (0≤t)&&decide (t<n)
def CH(n:Nat)(x:SB):ar:=(if x.e=0 then[x.a]else if x.e=1 then(if x.a=x.b then[x.a]else[x.a,x.b])else[]).filter (iC n)
def tg(bs:List SB)(b:Int):ar:=if 0≤b then(match bs[b.toNat]? with
 |some x=>CH bs.length x
 |none=>[])else[]
theorem vX{bs:List SB}{b:Int}(h:b<0∨(bs.length:Int)≤b):tg bs b=[]:=by
 unfold tg;split
 ·rw[List.getElem?_eq_none oM]
 ·rfl
theorem yP{bs:List SB}{b:Int}{x:SB}(h:0≤b)(hx:bs[b.toNat]?=some x):tg bs b=CH bs.length x:=by
 unfold tg;rw[if_pos h,hx]
theorem QH(n:Nat)(x:SB):(CH n x).length≤2:=by
 unfold CH;refine Nat.le_trans (bx _ _) ?_;split
 ·simp
 ·split
  ·split<;>simp
  ·simp
theorem mZ(bs:List SB)(b:Int):(tg bs b).length≤2:=by
 unfold tg;split
 ·split
  ·exact QH _ _
  ·simp
 ·simp
theorem nY{bs:List SB}{b t:Int}(h:t∈tg bs b):0≤t∧t<bs.length:=by
 unfold tg at h;split at h
 ·split at h
  ·simp only[CH,List.mem_filter,iC,Bool.and_eq_true,decide_eq_true_eq]at h;exact h.2
  ·simp at h
 ·simp at h
theorem Vs{n:Nat}{t:Int}(h:t<0):iC n t=false:=by
 unfold iC;simp;omega
theorem Vt{n:Nat}{t:Int}(h:¬t<0):decide (t≥(n:Int))=!(iC n t):=by
 unfold iC;have h0:decide (0≤t)=true:=by simp;omega
 rw[h0,Bool.true_and];by_cases h1:t<(n:Int)
 ·simp[h1]
 ·simp[h1];omega
theorem ints_set(l:ar)(i:Nat)(v:Int):ints (l.set i v)=(ints l).set i (vI v):=by simp[ints,List.map_set]
theorem nZ(n:Nat)(l:ar):l.filter (fun x=> !((fun x=> !(iC n x)) x))=l.filter (iC n):=by
 apply List.filter_congr;intro x _;simp
theorem Lb{n:Nat}{x:SB}(h0:¬x.e=0)(h1:¬x.e=1):([]:ar).filter (fun x=> !((fun x=> !(iC n x)) x))=CH n x:=by
 rw[nZ];unfold CH;rw[if_neg h0,if_neg h1]
theorem GN{n:Nat}{x:SB}(h:x.e=0∨(¬x.e=0∧x.e=1∧x.a=x.b)):[x.a].filter (fun x=> !((fun x=> !(iC n x)) x))=CH n x:=by
 rw[nZ];unfold CH;rcases h with h|⟨h,h1,h2⟩
 ·rw[if_pos h]
 ·rw[if_neg h,if_pos h1,if_pos h2]
theorem QI{n:Nat}{x:SB}(h:x.e=1)(h2:¬x.a=x.b):[x.a,x.b].filter (fun x=> !((fun x=> !(iC n x)) x))=CH n x:=by
 rw[nZ];unfold CH;rw[if_neg oM,if_pos h,if_neg h2]
def PS(n:Nat)(x:SB):ar:=if iC n x.a then[x.a]else[]
def Vu(n:Nat)(x:SB):ar:=if x.e=1∧x.b≠x.a∧iC n x.b=true then[x.b]else[]
theorem rt_eq{n:Nat}{x:SB}(h:x.e=0∨x.e=1):PS n x++Vu n x=CH n x:=by
 unfold PS Vu CH;rcases h with h|h
 ·rw[if_pos h,if_neg (show¬(x.e=1∧x.b≠x.a∧iC n x.b=true)by rintro⟨h1,_⟩;omega)];by_cases h1:iC n x.a=true<;>simp[h1]
 ·rw[if_neg (show¬x.e=0 by omega),if_pos h];by_cases h0:x.a=x.b
  ·rw[if_pos h0,if_neg (show¬(x.e=1∧x.b≠x.a∧iC n x.b=true)from fun hh=>hh.2.1 h0.symm)];by_cases h1:iC n x.a=true<;>simp[h1]
  ·rw[if_neg h0];have h0':x.b≠x.a:=fun e=>h0 e.symm
   by_cases h1:iC n x.a=true<;>by_cases h2:iC n x.b=true
   ·rw[if_pos h1,if_pos ⟨h,h0',h2⟩];simp[h1,h2]
   ·rw[if_pos h1,if_neg (fun hh=>h2 hh.2.2)];simp[h1,h2]
   ·rw[if_neg h1,if_pos ⟨h,h0',h2⟩];simp[h1,h2]
   ·rw[if_neg h1,if_neg (fun hh=>h2 hh.2.2)];simp[h1,h2]
theorem QJ{n:Nat}{x:SB}(h0:¬x.e=0)(h1:¬x.e=1):CH n x=[]:=by
 unfold CH;rw[if_neg h0,if_neg h1];rfl
theorem QK{n:Nat}{x:SB}(h0:x.a≥0)(h1:x.a<n):PS n x=[x.a]:=by simp[PS,iC,h0,h1]
theorem Lc{n:Nat}{x:SB}(h:x.a<0∨¬x.a<n):PS n x=[]:=by
 unfold PS iC;rw[if_neg];simp only[Bool.and_eq_true,decide_eq_true_eq];omega
theorem QL{n:Nat}{x:SB}(h:x.e=1)(h':x.b≠x.a)(h0:x.b≥0)(h1:x.b<n):Vu n x=[x.b]:=by simp[Vu,iC,h,h',h0,h1]
theorem Ap{n:Nat}{x:SB}(h:¬x.e=1∨¬x.b≠x.a∨¬(x.b≥0)∨¬x.b<n):Vu n x=[]:=by
 unfold Vu iC;rw[if_neg];simp only[Bool.and_eq_true,decide_eq_true_eq];omega
theorem GO(n:Nat)(x:SB):(PS n x).length≤1:=by unfold PS;split<;>simp
def eL(bs:List SB)(b:Int)(k:Nat):ar:=((List.range k).filter (fun i:Nat=>(tg bs (i:Int)).contains b)).map (fun i:Nat=>(i:Int))
def bW(bs:List SB)(b:Int):ar:=eL bs b bs.length
theorem o9(bs:List SB)(b:Int)(k:Nat):eL bs b (k+1)=eL bs b k++(if(tg bs (k:Int)).contains b=true then[(k:Int)]else[]):=by
 unfold eL;rw[List.range_succ,List.filter_append,List.map_append];congr 1;by_cases h:(tg bs (k:Int)).contains b=true
 ·rw[if_pos h];simp only[List.filter_cons,h,if_true,List.filter_nil,List.map_cons,List.map_nil]
 ·rw[if_neg h];rw[Bool.not_eq_true]at h;simp only[List.filter_cons,h,Bool.false_eq_true,if_false,List.filter_nil,List.map_nil]
theorem iQ(bs:List SB)(b:Int)(k:Nat):(eL bs b k).length≤k:=by
 unfold eL;rw[List.length_map];exact Nat.le_trans (bx _ _) sI
def oG(p:Int→Bool)(l:ar):Int:=match l.findIdx? p with
 |some i=>(i:Int)
 |none=> -1
theorem Ld{p:Int→Bool}{l:ar}{j:Nat}(h:(l.take j).any p=false)(hc:p (l.getD (j:Int).toNat 0)=false)(hj:j<l.length):(l.take (j+1)).any p=false:=by
 rw[List.take_succ_eq_append_getElem hj];simp only[Int.toNat_natCast,List.getD,List.getElem?_eq_getElem hj,Option.getD_some]at hc;rw[List.any_append,h];simp[hc]
theorem CI{p:Int→Bool}{l:ar}{j:Nat}(h:(l.take j).any p=false)(hc:p (l.getD (j:Int).toNat 0)=true)(hj:j<l.length):oG p l=(j:Int):=by
 simp only[Int.toNat_natCast,List.getD,List.getElem?_eq_getElem hj,Option.getD_some]at hc;unfold oG;have:l.findIdx? p=some j:=by rw[List.findIdx?_eq_some_iff_getElem];refine⟨hj,hc,fun i hi=> ?_⟩;simp only[List.any_eq_false]at h;exact h _ (List.mem_iff_getElem.2 ⟨i,by simp;omega,sI⟩)
 rw[this]
theorem yQ{p:Int→Bool}{l:ar}{j:Nat}(h:(l.take j).any p=false)(hj:l.length≤j):oG p l= -1:=by
 rw[List.take_of_length_le hj]at h;unfold oG;have:l.findIdx? p=none:=by rw[List.findIdx?_eq_none_iff];simpa using h
 rw[this]
theorem Av(p:Int→Bool)(l:ar): -1≤oG p l∧oG p l<l.length:=by
 unfold oG;cases h:l.findIdx? p with
 |none=>simp only[];omega
 |some i=>
  rw[List.findIdx?_eq_some_iff_getElem]at h;obtain⟨h1,_⟩:=h;simp only[];omega
def kept(p:Int→Bool)(l:ar)(j:Nat):ar:=(l.take j).filter (fun x=> !p x)
theorem Le{p:Int→Bool}{l:ar}{j:Nat}(hj:j<l.length)(hc:p (l.getD (j:Int).toNat 0)=false):kept p l (j+1)=kept p l j++[l.getD (j:Int).toNat 0]:=by
 unfold kept;simp only[Int.toNat_natCast,List.getD,List.getElem?_eq_getElem hj,Option.getD_some]at hc⊢;rw[List.take_succ_eq_append_getElem hj,List.filter_append];simp[hc]
theorem QM{p:Int→Bool}{l:ar}{j:Nat}(hj:j<l.length)(hc:p (l.getD (j:Int).toNat 0)=true):kept p l (j+1)=kept p l j:=by
 unfold kept;simp only[Int.toNat_natCast,List.getD,List.getElem?_eq_getElem hj,Option.getD_some]at hc⊢;rw[List.take_succ_eq_append_getElem hj,List.filter_append];simp[hc]
theorem CJ{p:Int→Bool}{l:ar}{j:Nat}(hj:l.length≤j):kept p l j=l.filter (fun x=> !p x):=by
 unfold kept;rw[List.take_of_length_le hj]
theorem any_filter{p:Int→Bool}{l:ar}(h:oG p l= -1):l.filter (fun x=> !p x)=l:=by
 unfold oG at h;cases hh:l.findIdx? p with
 |some i=>rw[hh]at h;simp only[]at h;omega
 |none=>
  rw[List.findIdx?_eq_none_iff]at hh;rw[List.filter_eq_self];intro x hx;simp[hh x hx]
theorem EI{p:Int→Bool}{l:ar}(h:oG p l≠-1):∃i:Nat,oG p l=(i:Int)∧i<l.length∧kept p l (i+1)=l.take i:=by
 unfold oG at h⊢;cases hh:l.findIdx? p with
 |none=>rw[hh]at h;simp at h
 |some i=>
  rw[List.findIdx?_eq_some_iff_getElem]at hh;obtain⟨h1,h2,h3⟩:=hh;refine⟨i,rfl,h1,?_⟩;unfold kept;rw[List.take_succ_eq_append_getElem h1,List.filter_append];have:[l[i]].filter (fun x=> !p x)=[]:=by simp[h2]
  rw[this,List.append_nil,List.filter_eq_self];intro x hx;obtain⟨j,hj,rfl⟩:=List.mem_iff_getElem.1 hx;simp at hj;have:=h3 j oM;simpa using this
def EJ(l m k:ar)(j:Nat):Prop:=m.length=l.length∧m.take k.length=k∧m.drop j=l.drop j∧k.length<j
theorem Lf{l m k:ar}{j:Nat}(h:EJ l m k j):m.getD (j:Int).toNat 0=l.getD (j:Int).toNat 0:=by
 obtain⟨h1,_,h3,_⟩:=h;simp only[Int.toNat_natCast,List.getD];have e:∀x:ar,x[j]?=(x.drop j)[0]?:=fun x=>sI
 rw[e m,e l,h3]
theorem QN{l m k:ar}{j:Nat}(h:EJ l m k j):EJ l m k (j+1):=by
 obtain⟨h1,h2,h3,h4⟩:=h;refine⟨h1,h2,?_,oM⟩;rw[←List.drop_drop,←List.drop_drop,h3]
theorem Lg{l m k:ar}{j:Nat}(h:EJ l m k j)(hj:j<l.length)(v:Int):EJ l (m.set k.length v) (k++[v]) (j+1):=by
 obtain⟨h1,h2,h3,h4⟩:=h;refine⟨by simpa using h1,?_,?_,by simp;omega⟩
 ·rw[List.length_append,List.length_singleton,List.take_succ_eq_append_getElem (by simp;omega)];rw[List.take_set_of_le (Nat.le_refl _),h2];simp
 ·rw[List.drop_set,if_pos oM,←List.drop_drop,←List.drop_drop,h3]
theorem EK{l:ar}{i:Nat}(hi:i<l.length):EJ l l (l.take i) (i+1):=by
 refine⟨rfl,sI,rfl,by simp;omega⟩
theorem QO{k m:ar}(h2:m.take k.length=k)(z y:bp):((ints m).take (k.length*1)++z++y).take (k.length*1)=ints k:=by
 have hl:k.length≤m.length:=by have:=congrArg List.length h2;simp at this;omega
 have hi:(ints m).take (k.length*1)=ints k:=by rw[Nat.mul_one];unfold ints;rw[←List.map_take,h2]
 rw[hi,List.append_assoc];have:k.length*1=(ints k).length:=by rw[CB,Nat.mul_one]
 rw[this,List.take_left]
end Go.Mor
namespace Go.Mor
open Go.RowKit
theorem yR{P:Program}{c:Code}{K:Act→World→Prop}{Q:Exit→Act→World→Prop}{a:Act}{w:World}{k k':Nat}{N:FN}{env:Env}{d:Option Nat}{ty:Nat}{g:Option (Nat×Bool)}{t t':TypeId}{x:Operand}(hk:ao c k=some (d,.convert t t' x,ty,g))(hF:Fr a N env)(hg:bu c g env=some true)(hd:gL d N=true)(im:k+1=k'){kd kd' ks:IntKind}{i z:Int}(hx:ev env x=some (.int kd i))(hs:P.underlying t=some (.int ks))(ht:P.underlying t'=some (.int kd'))(hz:kd'.wrap i=z)(h:∀a',a'=a.put d (.int kd' z)→Fr a' N (dN env d (.int kd' z))→bw P c K Q k' a' w):bw P c K Q k a w:=by
 refine dR hk hF hg hd im (fun o ho=> ?_) h;unfold execOp;rw[ho];simp[hF.ev hx,convert,Sem.run_bind,run_underlying hs,run_underlying ht,Result.andThen_ok,Conv.intToInt,hz]
end Go.Mor
namespace Go.Mor
open Go.RowKit
def dstsOf(c:Code):Nat→Nat→List Nat
 |0,_=>[]
 |n+1,k=>match ao c k with
  |some (some d,_,_,_)=>d::dstsOf c n (k+1)
  |_=>dstsOf c n (k+1)
def QP(l:List Nat)(t:Nat):Bool:=match l with
 |[]=>false
 |x::r=>match Nat.beq x t with
  |true=>true
  |false=>QP r t
def inE(env:Env)(t:Nat):Bool:=match env with
 |[]=>false
 |(x,_)::r=>match Nat.beq x t with
  |true=>true
  |false=>inE r t
def qS(keys:List Nat)(env:Env):List Nat→Bool
 |[]=>true
 |d::r=>match QP keys d with
  |true=>qS keys env r
  |false=>match inE env d with
   |true=>false
   |false=>qS keys env r
theorem Lh{l:List Nat}{t:Nat}(h:QP l t=true):t∈l:=by
 induction l with
 |nil=>cases h
 |cons x r ih=>
  unfold QP at h;split at h
  ·rename_i hb;exact List.mem_cons.2 (.inl (Nat.eq_of_beq_eq_true hb).symm)
  ·exact List.mem_cons_of_mem _ (ih h)
theorem Li{env:Env}{t:Nat}{v:Value}(h:look env t=some v):inE env t=true:=by
 induction env with
 |nil=>simp[look]at h
 |cons x r ih=>
  obtain⟨k,u⟩:=x;unfold look at h;unfold inE;split at h
  ·rename_i hb;rw[hb]
  ·rename_i hb;rw[hb];exact ih h
theorem EL{keys:List Nat}{env:Env}{ds:List Nat}(h:qS keys env ds=true){t:Nat}(ht:t∈ds){v:Value}(hv:look env t=some v):t∈keys:=by
 induction ds with
 |nil=>cases ht
 |cons d r ih=>
  unfold qS at h;rcases List.mem_cons.1 ht with rfl|ht
  ·split at h
   ·rename_i hk;exact Lh hk
   ·rw[Li hv]at h;cases h
  ·split at h
   ·exact ih h ht
   ·split at h
    ·cases h
    ·exact ih h ht
theorem CK{l r:Env}{t:Nat}:look (l++r) t=match look l t with
  |some v=>some v
  |none=>look r t:=by
 induction l with
 |nil=>rfl
 |cons x l ih=>
  obtain⟨k,u⟩:=x;show look ((k,u)::(l++r)) t=_;simp only[look];split
  ·rfl
  ·exact ih
theorem Lj{keys:List Nat}{env:Env}{t:Nat}{v:Value}(h:t∈keys)(hv:look env t=some v):look (mz keys env) t=some v:=by
 induction keys with
 |nil=>cases h
 |cons k r ih=>
  unfold mz;by_cases e:k=t
  ·subst e;rw[hv];simp[look,Nat.beq_refl]
  ·have hb:Nat.beq k t=false:=by rw[←Bool.not_eq_true];exact fun h=>e (Nat.eq_of_beq_eq_true h)
   rcases List.mem_cons.1 h with rfl|h
   ·exact absurd rfl e
   ·split
    ·simp only[look,hb];exact ih h
    ·exact ih h
theorem n8{P:Program}{c:Code}{N:FN}:∀(n k:Nat) {env e1:Env},eM P c N n k env=some e1→∀t,t∉dstsOf c n k→look e1 t=look env t
 |0,k,env,e1,h,t,_=>by simp only[eM,Option.some.injEq]at h;rw[h]
 |n+1,k,env,e1,h,t,ht=>by
  simp only[eM]at h;split at h
  ·rename_i d op ty g hk;have step:∀v,eM P c N n (k+1) (dN env d v)=some e1→look e1 t=look env t:=by
    intro v hv;cases d with
    |none=>
     simp only[dstsOf,hk]at ht;exact n8 n (k+1) hv t ht
    |some d=>
     simp only[dstsOf,hk,List.mem_cons,not_or]at ht;have:=n8 n (k+1) hv t ht.2;rw[this];have hb:Nat.beq d t=false:=by rw[←Bool.not_eq_true];exact fun h=>ht.1 (Nat.eq_of_beq_eq_true h).symm
     simp[dN,look,hb]
   split at h
   ·split at h
    ·split at h
     ·exact step _ h
     ·cases h
    ·exact step _ h
    ·cases h
   ·cases h
  ·cases h
theorem tU{P:Program}{c:Code}{N:FN}:∀(n k:Nat) {env e1:Env},eM P c N n k env=some e1→∃pre,e1=pre++env
 |0,k,env,e1,h=>by simp only[eM,Option.some.injEq]at h;exact⟨[],h.symm⟩
 |n+1,k,env,e1,h=>by
  simp only[eM]at h;split at h
  ·rename_i d op ty g hk;have step:∀v,eM P c N n (k+1) (dN env d v)=some e1→∃pre,e1=pre++env:=by
    intro v hv;obtain⟨pre,hp⟩:=tU n (k+1) hv;cases d with
    |none=>exact⟨pre,hp⟩
    |some d=>exact⟨pre++[(d,v)],by rw[hp];simp[dN]⟩
   split at h
   ·split at h
    ·split at h
     ·exact step _ h
     ·cases h
    ·exact step _ h
    ·cases h
   ·cases h
  ·cases h
theorem EM{P:Program}{c:Code}{K:Act→World→Prop}{Q:Exit→Act→World→Prop}{w:World}{N:FN}(n k':Nat){k:Nat}{a:Act}{env news:Env}(keys:List Nat)(hF:Fr a N env)(hp:(eM P c N n k env).map (mz keys)=some news)(hc:qS keys env (dstsOf c n k)=true)(hk:k+n=k')(h:∀a',Fr a' N (news++env)→bw P c K Q k' a' w):bw P c K Q k a w:=by
 cases hr:eM P c N n k env with
 |none=>rw[hr]at hp;cases hp
 |some H6=>
  rw[hr]at hp;simp only[Option.map_some,Option.some.injEq]at hp;subst hk;refine rF n k hF hr (fun a' GH=>h a' ⟨GH.defers,GH.size,fun t v hv=> ?_⟩);rw[CK]at hv;split at hv
  ·rename_i u hu;injection hv with hv;subst hv;rw[←hp]at hu;exact GH.slot t u (vt hu)
  ·rename_i hu;refine GH.slot t v ?_;by_cases hd:t∈dstsOf c n k
   ·have hk:=EL hc hd hv;cases he:look H6 t with
    |some x=>
     have h1:=Lj hk he;rw[hp,hu]at h1;cases h1
    |none=>
     exfalso;obtain⟨pre,Ey⟩:=tU n k hr;rw[Ey,CK]at he;split at he
     ·cases he
     ·rw[hv]at he;cases he
   ·rw[n8 n k hr t hd];exact hv
end Go.Mor
namespace Go.Mor
open Go.RowKit
def QQ(P:Program)(c:Code)(N:FN)(env:Env)(k:Nat):Option (Option Nat×Addr):=match ao c k with
 |some (d,.load t x,_,g)=>match bu c g env,gL d N,uw P t,ev env x with
  |some true,true,true,some (.pointer (some ad))=>some (d,ad)
  |_,_,_,_=>none
 |_=>none
def YV(P:Program)(c:Code)(N:FN)(env:Env)(k:Nat):Option (Option Nat×Addr×Option Nat):=match ao c k with
 |some (d,.load t x,_,g)=>match bu c g env,gL d N,ev env x with
  |some true,true,some (.pointer (some ad))=>some (d,ad,vy P t)
  |_,_,_=>none
 |_=>none
def QR(P:Program)(c:Code)(N:FN)(env:Env)(k:Nat):Option (Option Nat×aA×Nat×Nat×Int):=match ao c k with
 |some (d,.indexAddr t x y,_,g)=>match bu c g env,gL d N,ev env x,ev env y with
  |some true,true,some (.slice A n _),some (.int _ i)=>match P.underlying t with
   |some (.slice e)=>match P.info? e with
    |some inf=>some (d,A,n,inf.size,i)
    |none=>none
   |_=>none
  |_,_,_,_=>none
 |_=>none
def YW(c:Code)(N:FN)(env:Env)(k:Nat):Option (Option Nat×Int):=match ao c k with
 |some (d,.binOp op _ x y _,_,g)=>match bu c g env,gL d N,ev env x,ev env y with
  |some true,true,some (.int .i64 i),some (.int .i64 j)=>match arI op i j with
   |some z=>some (d,z)
   |none=>none
  |_,_,_,_=>none
 |_=>none
def YX(P:Program)(c:Code)(N:FN)(env:Env)(k:Nat):Option (Option Nat×Nat×Array Value):=match ao c k with
 |some (d,.call {callee:= .value x,args:=args,argTypes:=_},_,g)=>match bu c g env,gL d N,ev env x,Kt env args.toList with
  |some true,true,some (.func (.func f) first cap),some vs=>match first.size,s4 P f with
   |0,true=>some (d,f,(vs++cap.toList).toArray)
   |_,_=>none
  |_,_,_,_=>none
 |_=>none
def gdE(c:Code)(N:FN)(env:Env)(k:Nat):Option (Option Nat×Option Bool):=match ao c k with
 |some (d,_,_,g)=>match gL d N with
  |true=>some (d,bu c g env)
  |false=>none
 |none=>none
section
variable {P : Program} {c : Code} {K : Act → World → Prop} {Q : Exit → Act → World → Prop} {a : Act} {w w0 : World} {S : Nat → Prop} {L : List aL} {k : Nat} {N : FN} {env : Env}
theorem aV(d:Option Nat)(ad:Addr)(hF:Fr a N env)(hk:QQ P c N env k=some (d,ad))(v:Value)(hc:w.cell? ad=some v)(h:∀a',Fr a' N (dN env d v)→bw P c K Q (k+1) a' w):bw P c K Q k a w:=by
 unfold QQ at hk;split at hk
 ·rename_i h0;split at hk
  ·rename_i h1 h2 h3 h4;simp only[Option.some.injEq,Prod.mk.injEq]at hk;obtain⟨rfl,rfl⟩:=hk;exact qK h0 hF h1 h2 rfl h4 h3 hc (fun a' _=>h a')
  ·cases hk
 ·cases hk
theorem QS(d:Option Nat)(ad:Addr)(vs:bp)(hF:Fr a N env)(hk:YV P c N env k=some (d,ad,some vs.length))(hc:∀j v,vs[j]?=some v→w.cell? (ad.add j)=some v)(h:∀a',Fr a' N (dN env d (.agg vs.toArray))→bw P c K Q (k+1) a' w):bw P c K Q k a w:=by
 unfold YV at hk;split at hk
 ·rename_i h0;split at hk
  ·rename_i h1 h2 h4;simp only[Option.some.injEq,Prod.mk.injEq]at hk;obtain⟨rfl,rfl,h3⟩:=hk;exact eZ h0 hF h1 h2 rfl h4 h3 hc (fun a' _=>h a')
  ·cases hk
 ·cases hk
theorem iY(d:Option Nat)(ad:Addr)(n size:Nat)(i:Int)(hF:Fr a N env)(hk:QR P c N env k=some (d,some ad,n,size,i))(h0:0≤i)(h1:i<n)(h:∀a',Fr a' N (dN env d (vP (ad.add (i.toNat*size))))→bw P c K Q (k+1) a' w):bw P c K Q k a w:=by
 unfold QR at hk;split at hk
 ·rename_i g0;split at hk
  ·rename_i g1 g2 g3 g4;split at hk
   ·rename_i e ht;split at hk
    ·rename_i inf hs;simp only[Option.some.injEq,Prod.mk.injEq]at hk;obtain⟨rfl,hA,rfl,rfl,rfl⟩:=hk;exact qL g0 hF g1 g2 rfl g3 g4 hA ht (by rw[hs];rfl) h0 h1 (fun a' _=>h a')
    ·cases hk
   ·cases hk
  ·cases hk
 ·cases hk
theorem mB(d:Option Nat)(z:Int)(hF:Fr a N env){z0:Int}(hk:YW c N env k=some (d,z0))(hz:z0=z)(h1: -9223372036854775808≤z)(h2:z≤9223372036854775807)(h:∀a',Fr a' N (dN env d (vI z))→bw P c K Q (k+1) a' w):bw P c K Q k a w:=by
 subst hz;unfold YW at hk;split at hk
 ·rename_i g0;split at hk
  ·rename_i g1 g2 g3 g4;split at hk
   ·rename_i z hz;simp only[Option.some.injEq,Prod.mk.injEq]at hk;obtain⟨rfl,rfl⟩:=hk;exact iJ g0 hF g1 g2 rfl g3 g4 hz h1 h2 (fun a' _=>h a')
   ·cases hk
  ·cases hk
 ·cases hk
theorem oa(d:Option Nat)(f:FuncId)(vs:bp)(hF:Fr a N env)(hk:YX P c N env k=some (d,f,vs.toArray)){Φ:Value→World→Prop}(hc:Calls P f vs.toArray w (eU Φ))(h:∀v w',Φ v w'→∀a',Fr a' N (dN env d v)→bw P c K Q (k+1) a' w'):bw P c K Q k a w:=by
 unfold YX at hk;split at hk
 ·rename_i d' x args ts ty g g0;split at hk
  ·rename_i f' first cap us g1 g2 g3 g4
   split at hk
   ·rename_i hs hf;simp only[Option.some.injEq,Prod.mk.injEq]at hk;obtain⟨rfl,rfl,hv⟩:=hk;have EN:first=#[]:=Array.eq_empty_of_size_eq_zero hs
    subst EN;exact dY g0 hF g1 g2 rfl (f:=f') (vs:=us) (cap:=cap.toList) (by simpa using g3) g4 hf (by rw[hv];exact hc) (fun v w' hv a' _=>h v w' hv a')
   ·cases hk
  ·cases hk
 ·cases hk
theorem av{B:Bool}{d:Option Nat}(v:Value)(hF:Fr a N env)(hg:gdE c N env k=some (d,some B))(hr:B=true→(∀a',Fr a' N (dN env d v)→bw P c K Q (k+1) a' w)→bw P c K Q k a w)(h:∀a',Fr a' N (dN env d (cond B v undef))→bw P c K Q (k+1) a' w):bw P c K Q k a w:=by
 cases B with
 |true=>exact hr rfl h
 |false=>
  unfold gdE at hg;split at hg
  ·rename_i h0;split at hg
   ·rename_i hd;simp only[Option.some.injEq,Prod.mk.injEq]at hg;obtain⟨rfl,hg⟩:=hg;exact sY h0 hF hg (h _ (hF.put hd undef))
   ·cases hg
  ·cases hg
theorem iZ{B:Bool}{d:Option Nat}(v:Value)(hF:Fr a N env)(hg:gdE c N env k=some (d,some B))(hr:B=true→(∀a' w',Mem aR w w' []→Fr a' N (dN env d v)→bw P c K Q (k+1) a' w')→bw P c K Q k a w)(h:∀a' w',Mem aR w w' []→Fr a' N (dN env d (cond B v undef))→bw P c K Q (k+1) a' w'):bw P c K Q k a w:=by
 cases B with
 |true=>exact hr rfl h
 |false=>
  unfold gdE at hg;split at hg
  ·rename_i h0;split at hg
   ·rename_i hd;simp only[Option.some.injEq,Prod.mk.injEq]at hg;obtain⟨rfl,hg⟩:=hg;exact sY h0 hF hg (h _ _ (Mem.init w) (hF.put hd undef))
   ·cases hg
  ·cases hg
theorem jG(b:Bool):((!b)=true)=(¬b=true):=by cases b<;>simp
end
end Go.Mor
namespace Go.Mor
open Go.RowKit
theorem vY{P:Program}{c:Code}{K:Act→World→Prop}{Q:Exit→Act→World→Prop}{a:Act}{w:World}{k k':Nat}{N:FN}{env:Env}{d:Option Nat}{ty:Nat}{g:Option (Nat×Bool)}{op:UnOp}{t:TypeId}{x:Operand}(hk:ao c k=some (d,.unOp op t x,ty,g))(hF:Fr a N env)(hg:bu c g env=some true)(hd:gL d N=true)(im:k+1=k'){kd:IntKind}{i:Int}{z:Value}(hx:ev env x=some (.int kd i))(hb:∀w,(Op.unary op (.int kd i)).run P w= .ok z w)(h:∀a',a'=a.put d z→Fr a' N (dN env d z)→bw P c K Q k' a' w):bw P c K Q k a w:=by
 refine dR hk hF hg hd im (fun o ho=> ?_) h;unfold execOp;rw[ho];simp only[hF.ev hx,Sem.run_bind,hb,Result.andThen_ok];rfl
end Go.Mor
namespace Go.Mor
open Go.RowKit
section
variable {P : Program} {c : Code} {K : Act → World → Prop} {Q : Exit → Act → World → Prop} {a : Act} {w : World}
theorem QT{t:Nat}{N:FN}{env:Env}{e:Bool}{R:Prop}(hk:kind c= .cond (.tmp t))(hF:Fr a N env)(hv:look env t=some (vB e))(i:e=true↔R)(ht:R→W P (Code.l c) K Q a w)(hf:¬R→W P (Code.r c) K Q a w):W P c K Q a w:=Eu hk hF hv (fun h=>ht (i.1 h)) (fun h=>hf (fun r=>by rw[i.2 r]at h;cases h))
end
end Go.Mor
namespace Go.Mor
open Go.RowKit
section
variable {P : Program} {c : Code} {K : Act → World → Prop} {Q : Exit → Act → World → Prop} {a : Act} {w : World}
def spE(P:Program)(c:Code)(N:FN)(env:Env)(keys:List Nat):Option Env:=match kind c,kind (Code.l c)with
 | .seq,.region false=>match eM P (Code.l c) N (opsOf (Code.l c)).size 0 env,qS keys env (dstsOf (Code.l c) (opsOf (Code.l c)).size 0)with
  |some e,true=>some (mz keys e)
  |_,_=>none
 |_,_=>none
theorem Qdd(h1:(match kind c,kind (Code.l c)with| .seq,.region false=>true|_,_=>false)=true)(h:bw P (Code.l c) (fun a w=>W P (Code.r c) K Q a w) Q 0 a w):W P c K Q a w:=by
 split at h1
 ·rename_i e1 e2;exact Tl e1 (Cx e2 h)
 ·cases h1
end
end Go.Mor
namespace Go.Mor
open Go.RowKit
def aL.all(l:List aL):aL where
 fp:=fun k=>∃r,r∈l∧r.fp k
 holds w:=∀r,r∈l→r.holds w
 fL:=fun h hw r hr=>r.fL (fun k hk=>h k ⟨r,hr,hk⟩) (hw r hr)
 lt:=fun hw ⟨r,hr,hk⟩=>r.lt (hw r hr) hk
theorem RO.sub{S:Nat→Prop}{w:World}{l:List aL}{r:aL}(h:RO S w (.all l))(hr:r∈l):RO S w r:=⟨h.1 r hr,fun g hg=>h.2 g ⟨r,hr,hg⟩⟩
structure fI where
 dst:Int
 A:aA
 c:Nat
 args:ar
def fI.cells(x:fI):bp:=[vI x.dst,.slice x.A x.args.length x.c]
structure cV where
 op:Int
 dst:Int
 n:Int
 name:eV
 A:aA
 c:Nat
 args:ar
def cV.cells(x:cV):bp:=[vI x.op,vI x.dst,vI x.n,.string x.name,.slice x.A x.args.length x.c]
structure aI where
 pA:aA
 pc:Nat
 aE:List fI
 iA:aA
 ic:Nat
 insts:List cV
 e:Int
 v:Int
 a:Int
 b:Int
def aI.sb(x:aI):SB:=⟨x.pA,x.aE.length,x.pc,x.iA,x.insts.length,x.ic,x.e,x.v,x.a,x.b⟩
def ae(fs:List aI):List SB:=fs.map aI.sb
theorem bS(fs:List aI):(ae fs).length=fs.length:=by simp[ae]
theorem fh{fs:List aI}{i:Nat}{x:aI}(h:fs[i]?=some x):(ae fs)[i]?=some x.sb:=by simp[ae,h]
def aI.parts(x:aI):List aL:= .GM x.pA 2 (x.aE.map fI.cells):: .GM x.iA 5 (x.insts.map cV.cells)::(x.aE.map (fun p=>aL.rd p.A (ints p.args))++x.insts.map (fun p=>aL.rd p.A (ints p.args)))
def aL.fn(A:aA)(fs:List aI):aL:= .all (.blocks A (ae fs)::fs.flatMap aI.parts)
section
variable {S : Nat → Prop} {w : World} {A : Option Addr} {fs : List aI}
theorem RO.bs(h:RO S w (.fn A fs)):RO S w (.blocks A (ae fs)):=h.sub (List.mem_cons_self)
theorem RO.aE(h:RO S w (.fn A fs)){i:Nat}{x:aI}(hx:fs[i]?=some x):RO S w (.GM x.pA 2 (x.aE.map fI.cells)):=h.sub (List.mem_cons_of_mem _ (List.mem_flatMap.2 ⟨x,List.mem_of_getElem? hx,List.mem_cons_self⟩))
theorem RO.insts(h:RO S w (.fn A fs)){i:Nat}{x:aI}(hx:fs[i]?=some x):RO S w (.GM x.iA 5 (x.insts.map cV.cells)):=h.sub (List.mem_cons_of_mem _ (List.mem_flatMap.2 ⟨x,List.mem_of_getElem? hx,List.mem_cons_of_mem _ List.mem_cons_self⟩))
theorem RO.uW(h:RO S w (.fn A fs)){i j:Nat}{x:aI}{p:fI}(hx:fs[i]?=some x)(hp:x.aE[j]?=some p):RO S w (.rd p.A (ints p.args)):=h.sub (List.mem_cons_of_mem _ (List.mem_flatMap.2 ⟨x,List.mem_of_getElem? hx,List.mem_cons_of_mem _ (List.mem_cons_of_mem _ (List.mem_append_left _ (List.mem_map.2 ⟨p,List.mem_of_getElem? hp,rfl⟩)))⟩))
theorem RO.inst(h:RO S w (.fn A fs)){i j:Nat}{x:aI}{p:cV}(hx:fs[i]?=some x)(hp:x.insts[j]?=some p):RO S w (.rd p.A (ints p.args)):=h.sub (List.mem_cons_of_mem _ (List.mem_flatMap.2 ⟨x,List.mem_of_getElem? hx,List.mem_cons_of_mem _ (List.mem_cons_of_mem _ (List.mem_append_right _ (List.mem_map.2 ⟨p,List.mem_of_getElem? hp,rfl⟩)))⟩))
end
theorem de{w:World}{A:aA}{fs:List aI}{ad:Addr}{i:Nat}{x:aI}(h:(aL.blocks A (ae fs)).holds w)(hA:A=some ad)(hi:fs[i]?=some x):∀j v,[.slice x.pA x.aE.length x.pc,.slice x.iA x.insts.length x.ic,vI x.e,vI x.v,vI x.a,vI x.b][j]?=some v→w.cell? ((ad.add (i*6)).add j)=some v:=qR h hA (fh hi)
theorem ja{w:World}{x:aI}{ad:Addr}{i:Nat}{p:fI}(h:(aL.GM x.pA 2 (x.aE.map fI.cells)).holds w)(hA:x.pA=some ad)(hi:x.aE[i]?=some p):∀j v,[vI p.dst,.slice p.A p.args.length p.c][j]?=some v→w.cell? ((ad.add (i*2)).add j)=some v:=An (cs:=p.cells) h hA (by simp[hi])
theorem gx{w:World}{x:aI}{ad:Addr}{i:Nat}{p:cV}(h:(aL.GM x.iA 5 (x.insts.map cV.cells)).holds w)(hA:x.iA=some ad)(hi:x.insts[i]?=some p):∀j v,[vI p.op,vI p.dst,vI p.n,.string p.name,.slice p.A p.args.length p.c][j]?=some v→w.cell? ((ad.add (i*5)).add j)=some v:=An (cs:=p.cells) h hA (by simp[hi])
def In64(n:Int):Prop:= -9223372036854775808≤n∧n≤9223372036854775807
def jq(n:Nat):Prop:=n≤281474976710656
structure fI.Ok(p:fI):Prop where
 dst:In64 p.dst
 len:jq p.args.length
 args:∀x,x∈p.args→In64 x
structure cV.Ok(p:cV):Prop where
 op:In64 p.op
 dst:In64 p.dst
 n:In64 p.n
 name:jq p.name.size
 len:jq p.args.length
 args:∀x,x∈p.args→In64 x
structure aI.Ok(x:aI):Prop where
 lp:jq x.aE.length
 aE:∀p,p∈x.aE→p.Ok
 li:jq x.insts.length
 insts:∀p,p∈x.insts→p.Ok
 e:In64 x.e
 v:In64 x.v
 a:In64 x.a
 b:In64 x.b
def rp(fs:List aI):Prop:=∀x,x∈fs→x.Ok
theorem rp.get{fs:List aI}(h:rp fs){i:Nat}{x:aI}(hi:fs[i]?=some x):x.Ok:=h x (List.mem_of_getElem? hi)
theorem ba{α:Type}{l:List α}{i:Nat}(h:i<l.length):∃x,l[i]?=some x:=⟨_,List.getElem?_eq_getElem h⟩
abbrev fV(nm:eV)(wk:Bool)(pa va:Int)(A:aA)(c:Nat)(fs:List aI):bp:=[.string nm,.bool wk,vI pa,vI va,.slice A (ae fs).length c]
abbrev fA(nm:eV)(wk:Bool)(pa va:Int)(A:aA)(c:Nat)(fs:List aI):Value:= .agg #[.string nm,.bool wk,vI pa,vI va,.slice A (ae fs).length c]
abbrev xV(x:aI):bp:=[.slice x.pA x.aE.length x.pc,.slice x.iA x.insts.length x.ic,vI x.e,vI x.v,vI x.a,vI x.b]
abbrev xA(x:aI):Value:= .agg #[.slice x.pA x.aE.length x.pc,.slice x.iA x.insts.length x.ic,vI x.e,vI x.v,vI x.a,vI x.b]
abbrev iV(p:cV):bp:=[vI p.op,vI p.dst,vI p.n,.string p.name,.slice p.A p.args.length p.c]
abbrev iG(p:cV):Value:= .agg #[vI p.op,vI p.dst,vI p.n,.string p.name,.slice p.A p.args.length p.c]
abbrev pV(p:fI):bp:=[vI p.dst,.slice p.A p.args.length p.c]
end Go.Mor
