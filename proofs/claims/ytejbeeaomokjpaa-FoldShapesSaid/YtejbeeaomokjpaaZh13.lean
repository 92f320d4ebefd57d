/-
  Texts of the proof, part 13.
-/
import Derived.Test.YtejbeeaomokjpaaZh12
set_option maxRecDepth 10000
namespace Go.Mor
open Go.RowKit
theorem XV{α β:Type}{f:α→Nat}{g:β→Nat}:∀{l:List α} {m:List β},qF (fun a b=>g b≤f a) l m→(m.map g).sum≤(l.map f).sum
 |[],[],_=>Nat.le_refl _
 |[],b::m,h=>by have:=h.1;simp at this
 |a::l,[],h=>by have:=h.1;simp at this
 |a::l,b::m,h=>by have h1:=h.2 0 a b rfl rfl;have h2:=XV (l:=l) (m:=m) ⟨by have:=h.1;simpa using this,fun i x y hx hy=>h.2 (i+1) x y hx hy⟩;rw[List.map_cons,List.map_cons,List.sum_cons,List.sum_cons];omega
theorem Qd5{α β:Type}{f:α→Nat}{g:β→Nat}:∀{l:List α} {m:List β},qF (fun a b=>g b≤f a) l m→∀{k:Nat} {a:α} {b:β},l[k]?=some a→m[k]?=some b→g b<f a→(m.map g).sum<(l.map f).sum
 |[],m,_,k,a,b,hl,_,_=>by simp at hl
 |a::l,[],h,_,_,_,_,_,_=>by have:=h.1;simp at this
 |a::l,b::m,h,k,x,y,hx,hy,fm=>by
  have h1:=h.2 0 a b rfl rfl;have h3:qF (fun a b=>g b≤f a) l m:=⟨by have:=h.1;simpa using this,fun i x y hx hy=>h.2 (i+1) x y hx hy⟩;rw[List.map_cons,List.map_cons,List.sum_cons,List.sum_cons];cases k with
  |zero=>
   injection hx with hx;injection hy with hy;subst hx;subst hy;have h2:=XV h3;omega
  |succ k=>
   have h2:=Qd5 h3 hx hy fm;omega
def KW(x:gO):Nat:=if x.gone then 0 else 1
theorem Rk(ks:List gO):(pP ks).length=(ks.map KW).sum:=by
 induction ks with
 |nil=>rfl
 |cons x ks ih=>
  rw[List.map_cons,List.sum_cons,←ih];unfold pP KW;rw[List.filter_cons];cases x.gone<;>simp<;>omega
def wM(ks:List gO):Nat:=wK ks+(pP ks).length
section
variable {ks ms : List gO} {kn : KN} {nm : ByteArray} {pa va : Int}
theorem Qf5(h:qF Cm ks ms):(pP ms).length=(pP ks).length:=by
 rw[Rk,Rk];congr 1;exact(h.map_eq fun x y _ _ hb=>by unfold KW;rw[hb.gone]).symm
theorem Yj(kn:KN)(h:(nU ks kn).2.2=true):wM (nU ks kn).1<wM ks:=by
 have hp:=QeZ ks kn;have h1:=hp.PF;have h2:=Qf5 hp.less;rw[h,if_pos rfl]at h1;unfold wM;omega
theorem T1(ks:List gO):qF (fun x y=>y.insts.length≤x.insts.length∧y.ah.length≤x.ah.length∧wB y≤wB x∧KW y≤KW x) ks (kg ks):=by
 refine⟨(o2 ks).symm,fun k x y hx hy=> ?_⟩;rw[tn hx]at hy;injection hy with hy;subst hy;unfold sj;split
 ·refine⟨Nat.zero_le _,Nat.zero_le _,?_,Nat.zero_le _⟩;show(([]:List aO).filter _).length+(if(2:Int)=1 then 1 else 0)≤_;simp
 ·exact⟨Nat.le_refl _,by show(x.ah.map _).length≤_;rw[List.length_map];exact Nat.le_refl _,Nat.le_refl _,Nat.le_refl _⟩
theorem qF.imp{α β:Type}{R S:α→β→Prop}{l:List α}{m:List β}(h:qF R l m)(hi:∀a b,R a b→S a b):qF S l m:=⟨h.1,fun i a b ha hb=>hi a b (h.2 i a b ha hb)⟩
theorem Qe1(ks:List gO):wK (kg ks)≤wK ks:=XV ((T1 ks).imp fun _ _ h=>h.2.2.1)
theorem Rm(h:sW ks=true):wM (kg ks)<wM ks:=by
 have h1:=Qe1 ks;have h2:(pP (kg ks)).length<(pP ks).length:=by rw[Rk,Rk];unfold sW at h;obtain⟨k,x,hx,hg,hr⟩:=(@decide_eq_true_iff _ (Classical.propDecidable _)).1 h;refine Qd5 ((T1 ks).imp fun _ _ h=>h.2.2.2) hx (tn hx) ?_;unfold sj;rw[if_pos ⟨hr,hg⟩];show(0:Nat)<KW x;unfold KW;rw[hg];decide
 unfold wM;omega
theorem Qb8(h:qF Cm ks ms):hY (fK ms)=hY (fK ks):=by
 rw[vR,vR,h.1];congr 2;exact(h.map_eq fun x y _ _ hb=>by rw[hb.ah,hb.insts.1]).symm
theorem Po(ks:List gO):hY (fK (kg ks))≤hY (fK ks):=by
 rw[vR,vR,o2];have:=XV (f:=fun x:gO=>x.ah.length+x.insts.length) (g:=fun x:gO=>x.ah.length+x.insts.length) ((T1 ks).imp fun _ _ h=>by have:=h.1;have:=h.2.1;omega);omega
noncomputable def Ds:Nat→List gO→KN→List gO
 |0,ks,_=>ks
 |n+1,ks,kn=>if(nU ks kn).2.2=true then Ds n (nU ks kn).1 (nU ks kn).2.1 else if sW ks=true then Ds n (kg ks) kn else kg ks
noncomputable def Le(ks:List gO)(kn:KN):List gO:=Ds (wM ks+1) ks kn
theorem Ro:∀(n:Nat) (ks:List gO) (kn:KN) (m:Nat),wM ks<n→wM ks<m→Ds n ks kn=Ds m ks kn
 |0,_,_,_,h,_=>oM
 |_,_,_,0,_,h=>oM
 |n+1,ks,kn,m+1,hn,hm=>by
  unfold Ds;by_cases h1:(nU ks kn).2.2=true
  ·rw[if_pos h1,if_pos h1];have:=Yj kn h1;exact Ro n _ _ m oM oM
  ·rw[if_neg h1,if_neg h1];by_cases h2:sW ks=true
   ·rw[if_pos h2,if_pos h2];have:=Rm h2;exact Ro n _ _ m oM oM
   ·rw[if_neg h2,if_neg h2]
theorem Qe2(h:(nU ks kn).2.2=true):Le (nU ks kn).1 (nU ks kn).2.1=Le ks kn:=by
 unfold Le;have e:Ds (wM ks+1) ks kn=Ds (wM ks) (nU ks kn).1 (nU ks kn).2.1:=by show(if _ then _ else _)=_;rw[if_pos h]
 rw[e];have:=Yj kn h;exact Ro _ _ _ _ oM oM
theorem QgQ(h:(nU ks kn).2.2=false)(h2:sW ks=true):Le (kg ks) kn=Le ks kn:=by
 unfold Le;have e:Ds (wM ks+1) ks kn=Ds (wM ks) (kg ks) kn:=by show(if _ then _ else _)=_;rw[if_neg (by rw[h];decide),if_pos h2]
 rw[e];have:=Rm h2;exact Ro _ _ _ _ oM oM
theorem QdF(h:(nU ks kn).2.2=false)(h2:sW ks=false):Le ks kn=kg ks:=by
 unfold Le;show(if _ then _ else _)=_;rw[if_neg (by rw[h];decide),if_neg (by rw[h2];decide)]
def Dt(kn:KN)(ks:List gO):Prop:=∀x,x∈ks→(∀i,i∈x.insts→¬q0 kn i)∧¬Ar kn x.e x.v
def sP(ks:List gO):Prop:=∀x,x∈ks→x.insts.map aO.e0=x.insts
def pq(kn:KN):Prop:=∀c,c∈kn→In64 c.2
def Xq(ks:List gO):Prop:=∀x,x∈ks→(∀i,i∈x.insts→i.Ok)∧In64 x.e∧In64 x.v∧In64 x.a∧In64 x.b∧(∀p,p∈x.ah→In64 p.dst)
theorem Qf6(h:sP ks)(kn:KN):sP (nU ks kn).1:=by
 have key:∀(l done:List gO) (kn:KN) (t:Bool),sP l→sP done→sP (l.foldl yr (done,kn,t)).1:=by
  intro l;induction l with
  |nil=>intro done kn t _ h;exact h
  |cons x l ih=>
   intro done kn t hl hd;rw[List.foldl_cons];refine ih _ _ _ (fun y hy=>hl y (List.mem_cons_of_mem _ hy)) fun y hy=> ?_
   rcases List.mem_append.1 hy with hy|hy
   ·exact hd y hy
   ·rw[List.mem_singleton.1 hy,Qbm];have:=QdD kn false x.insts;rw[hl x (List.mem_cons_self ..)]at this;exact(sZ Prod.fst this).symm
 exact key ks [] kn false h (by intro y hy;cases hy)
theorem Qbo(h:sP ks):sP (kg ks):=by
 intro y hy;obtain⟨k,hk⟩:=List.mem_iff_getElem?.1 hy;obtain⟨x,hx⟩:=qH hk;rw[tn hx]at hk;injection hk with hk;subst hk;unfold sj;split
 ·rfl
 ·exact h x (List.mem_of_getElem? hx)
theorem QgR(hk:pq kn)(v:Int):In64 (qv kn v):=by
 unfold qv;rw[List.getD_eq_getElem?_getD];cases h:kn[v.toNat]? with
 |none=>exact Fa
 |some c=>exact hk c (List.mem_of_getElem? h)
theorem Qd6(hk:pq kn)(i:aO):In64 (mi kn i).1:=by
 unfold mi;exact QcH Qhq (QgP (QgR hk _))
theorem pq.set(hk:pq kn){v:Int}(hv:In64 v)(j:Nat):pq (kn.set j (true,v)):=by
 intro c hc;rcases List.mem_or_eq_of_mem_set hc with h|h
 ·exact hk c h
 ·rw[h];exact hv
theorem QcL:∀(l a:List aO) (kn:KN) (t:Bool),pq kn→(∀i,i∈a→i.Ok)→(∀i,i∈l→i.Ok)→pq (l.foldl mb (a,kn,t)).2.1∧∀i,i∈(l.foldl mb (a,kn,t)).1→i.Ok
 |[],a,kn,t,hk,ha,_=>⟨hk,ha⟩
 |i::l,a,kn,t,hk,ha,hl=>by
  rw[List.foldl_cons];by_cases hd:q0 kn i
  ·rw[Gi hd];refine QcL l _ _ _ (hk.set (Qd6 hk i) _) (fun j hj=> ?_) fun j hj=>hl j (List.mem_cons_of_mem _ hj)
   rcases List.mem_append.1 hj with hj|hj
   ·exact ha j hj
   ·rw[List.mem_singleton.1 hj];have:=hl i (List.mem_cons_self ..);exact⟨⟨by show(-9223372036854775808:Int)≤1;omega,by show(1:Int)≤9223372036854775807;omega⟩,this.dst,Qd6 hk i,by show(0:Nat)≤_;omega,by show(0:Nat)≤_;omega,by intro x hx;cases hx⟩
  ·rw[Hv hd];refine QcL l _ _ _ hk (fun j hj=> ?_) fun j hj=>hl j (List.mem_cons_of_mem _ hj)
   rcases List.mem_append.1 hj with hj|hj
   ·exact ha j hj
   ·rw[List.mem_singleton.1 hj];exact hl i (List.mem_cons_self ..)
theorem Qf7(h:Xq ks)(hk:pq kn):Xq (nU ks kn).1∧pq (nU ks kn).2.1:=by
 have key:∀(l done:List gO) (kn:KN) (t:Bool),Xq l→Xq done→pq kn→Xq (l.foldl yr (done,kn,t)).1∧pq (l.foldl yr (done,kn,t)).2.1:=by
  intro l;induction l with
  |nil=>intro done kn t _ h hk;exact⟨h,hk⟩
  |cons x l ih=>
   intro done kn t hl hd hk;rw[List.foldl_cons];obtain⟨hx,h1,h2,h3,h4,h5⟩:=hl x (List.mem_cons_self ..);obtain⟨q1,q2⟩:=QcL x.insts [] kn false hk (by intro i hi;cases hi) hx;refine ih _ _ _ (fun y hy=>hl y (List.mem_cons_of_mem _ hy)) (fun y hy=> ?_) q1;rcases List.mem_append.1 hy with hy|hy
   ·exact hd y hy
   ·rw[List.mem_singleton.1 hy];show(∀i,i∈(bK kn x).insts→_)∧_;rw[Qbm];refine⟨q2,?_⟩;unfold bK;split
    ·refine⟨Fa,Fa,?_,Fa,h5⟩;show In64 (if _ then x.b else x.a);split<;>assumption
    ·exact⟨h1,h2,h3,h4,h5⟩
 exact key ks [] kn false h (by intro y hy;cases hy) hk
theorem Qdd(h:Xq ks):Xq (kg ks):=by
 intro y hy;obtain⟨k,hk⟩:=List.mem_iff_getElem?.1 hy;obtain⟨x,hx⟩:=qH hk;rw[tn hx]at hk;injection hk with hk;subst hk;obtain⟨h0,h1,h2,h3,h4,h5⟩:=h x (List.mem_of_getElem? hx);unfold sj;split
 ·exact⟨(by intro i hi;cases hi),⟨by show(-9223372036854775808:Int)≤2;omega,by show(2:Int)≤9223372036854775807;omega⟩,⟨by show(-9223372036854775808:Int)≤-1;omega,by show(-1:Int)≤9223372036854775807;omega⟩,h3,h4,(by intro p hp;cases hp)⟩
 ·refine⟨h0,h1,h2,h3,h4,fun p hp=> ?_⟩;obtain⟨q,hq,rfl⟩:=List.mem_map.1 (show p∈x.ah.map _ from hp);exact h5 q hq
structure QgC(nm:cV)(pa va:Int)(sz:Nat)(ks rs:List gO)(kn:KN):Prop where
 UH:vU nm pa va rs
 tight:EJ rs
 len:rs.length=ks.length
 size:hY (fK rs)≤sz
 e0:sP rs
 knq:vk kn (sX rs)
 still:Dt kn rs
theorem Qbp{i:aO}(h:i∈sX (kg ks)):i∈sX ks:=by
 obtain⟨y,hy,hi⟩:=List.mem_flatMap.1 h;obtain⟨k,hk⟩:=List.mem_iff_getElem?.1 hy;obtain⟨x,hx⟩:=qH hk;rw[tn hx]at hk;injection hk with hk;subst hk;unfold sj at hi;split at hi
 ·cases hi
 ·exact List.mem_flatMap.2 ⟨x,List.mem_of_getElem? hx,hi⟩
theorem Qde(h:Dt kn ks):Dt kn (kg ks):=by
 intro y hy;obtain⟨k,hk⟩:=List.mem_iff_getElem?.1 hy;obtain⟨x,hx⟩:=qH hk;rw[tn hx]at hk;injection hk with hk;subst hk;obtain⟨h1,h2⟩:=h x (List.mem_of_getElem? hx);unfold sj;split
 ·exact⟨(by intro i hi;cases hi),fun hh=>by have h3:(2:Int)=1:=hh.1;omega⟩
 ·exact⟨h1,h2⟩
theorem UP{n:Nat}(kx:va=(n:Int)):∀(f:Nat) (ks:List gO) (kn:KN),wM ks<f→vU nm pa va ks→vk kn (sX ks)→kn.length=n→sP ks→∃B5,QgC nm pa va (hY (fK ks)) ks (Ds f ks kn) B5
 |0,_,_,h,_,_,_,_=>oM
 |f+1,ks,kn,hf,hg,hk,hl,he=>by
  have hp:=QeZ ks kn;have C7:=QcK hg.par.1 kx hg.once;rw[←hl]at C7;obtain⟨q1,q2⟩:=Qf4 C7 hk;unfold Ds;by_cases h1:(nU ks kn).2.2=true
  ·rw[if_pos h1];have:=Yj kn h1;obtain⟨B5,h⟩:=UP kx f (nU ks kn).1 (nU ks kn).2.1 oM (QbO hg hp.less) q1 (by rw[q2,hl]) (Qf6 he kn);rw[Qb8 hp.less]at h;exact⟨B5,h.UH,h.tight,by rw[h.len,←hp.less.1],h.size,h.e0,h.knq,h.still⟩
  ·rw[if_neg h1];have h1f:(nU ks kn).2.2=false:=by simpa using h1
   by_cases h2:sW ks=true
   ·rw[if_pos h2];have:=Rm h2;have UN:=Po ks;obtain⟨B5,h⟩:=UP kx f (kg ks) kn oM (yn hg).1 (fun i hi=>hk i (Qbp hi)) hl (Qbo he);exact⟨B5,h.UH,h.tight,by rw[h.len,o2],by have:=h.size;omega,h.e0,h.knq,h.still⟩
   ·rw[if_neg h2];obtain⟨_,_,h3⟩:=hp.stop h1f;exact⟨kn,(yn hg).1,(yn hg).2,o2 ks,Po ks,Qbo he,fun i hi=>hk i (Qbp hi),Qde h3⟩
theorem Qbq:∀(f:Nat) (ks:List gO) (kn:KN),Xq ks→pq kn→Xq (Ds f ks kn)
 |0,_,_,h,_=>h
 |f+1,ks,kn,h,hk=>by
  obtain⟨q1,q2⟩:=Qf7 h hk;unfold Ds;split
  ·exact Qbq f _ _ q1 q2
  ·split
   ·exact Qbq f _ _ (Qdd h) hk
   ·exact Qdd h
end
end Go.Mor
namespace Go.Mor
open Go.RowKit
def W1(n:Nat)(key:Nat→Int):List Nat:=(List.range n).mergeSort (fun i j=>decide (key i≤key j))
theorem Qd7(n:Nat)(key:Nat→Int):jY n key (W1 n key):=by
 refine⟨List.mergeSort_perm _ _,?_⟩;have h:=List.pairwise_mergeSort (le:=fun i j=>decide (key i≤key j)) (fun a b c h1 h2=>by simp only[decide_eq_true_eq]at*;omega) (fun a b=>by simp only[Bool.or_eq_true,decide_eq_true_eq];omega) (List.range n);exact h.imp fun h=>of_decide_eq_true h
def toP(nl:ar)(p:vb):bI:=⟨p.dst,none,0,(W1 p.from_.length (rJ nl p.from_)).map (fun i=>p.args.getD i 0)⟩
def toBl(nl:ar)(x:gO):ay:=⟨none,0,x.ah.map (toP nl),none,0,x.insts,x.e,x.v,toA nl x.e x.a,toBb nl x.e x.b⟩
def toF(ks:List gO):List ay:=(pP ks).map (toBl (ve (nh ks)))
theorem qF.map{α β:Type}{R:α→β→Prop}{f:α→β}{l:List α}(h:∀a,a∈l→R a (f a)):qF R l (l.map f):=by
 refine⟨by rw[List.length_map],fun i a b ha hb=> ?_⟩;rw[List.getElem?_map,ha]at hb;injection hb with hb;rw[←hb];exact h a (List.mem_of_getElem? ha)
theorem Qf8{ks:List gO}(he:sP ks):Yi ks (toF ks):=qF.map fun x hx=>by
 have yk:x∈ks:=(List.mem_filter.1 hx).1;exact⟨qF.map fun p _=>⟨rfl,_,Qd7 _ _,rfl⟩,he x yk,rfl,rfl,rfl,rfl⟩
theorem Qdf{n:Nat}{key:Nat→Int}{l m:List Nat}(h1:jY n key l)(h2:jY n key m)(hi:∀i j,i<n→j<n→key i=key j→i=j):l=m:=by
 have up:∀{l:List Nat},jY n key l→(l.map key).Pairwise (·<·):=by
  intro l h;rw[List.pairwise_map];have hn:l.Nodup:=h.1.nodup_iff.2 List.nodup_range;have h3:l.Pairwise (fun i j=>key i≤key j∧i≠j):=h.2.and hn;refine h3.imp_of_mem fun {a b} ha hb hq=> ?_
  have nQ:=List.mem_range.1 (h.1.mem_iff.1 ha);have Co:=List.mem_range.1 (h.1.mem_iff.1 hb);have cU:key a≠key b:=fun e=>hq.2 (hi a b nQ Co e)
  have:=hq.1;omega
 have e:l.map key=m.map key:=Qdy (up h1) (up h2) fun a=>by simp only[List.mem_map];exact⟨fun⟨i,h3,h4⟩=>⟨i,h2.1.mem_iff.2 (h1.1.mem_iff.1 h3),h4⟩,fun⟨i,h3,h4⟩=>⟨i,h1.1.mem_iff.2 (h2.1.mem_iff.1 h3),h4⟩⟩
 refine List.ext_getElem? fun i=> ?_
 have e1:=sZ (fun l:ar=>l[i]?) e;simp only[List.getElem?_map]at e1;cases hl:l[i]? with
 |none=>rw[hl]at e1;cases hm:m[i]? with
  |none=>rfl
  |some b=>rw[hm]at e1;cases e1
 |some a=>rw[hl]at e1;cases hm:m[i]? with
  |none=>rw[hm]at e1;cases e1
  |some b=>
   rw[hm]at e1;injection e1 with e1;rw[hi a b (List.mem_range.1 (h1.1.mem_iff.1 (List.mem_of_getElem? hl))) (List.mem_range.1 (h2.1.mem_iff.1 (List.mem_of_getElem? hm))) e1]
section
variable {ks : List gO} {fs fd fe : List ay} {kn : KN} {nm : ByteArray} {pa va : Int}
theorem Qf9(hg:vU nm pa va ks)(Dz:EJ ks)(h1:Yi ks fd)(h2:Yi ks fe):ec fd fe:=by
 have hc:=hg.UT;unfold ec;refine List.ext_getElem? fun j=> ?_
 rw[List.getElem?_map,List.getElem?_map];by_cases hj:j<fd.length
 ·obtain⟨y,hy⟩:=bu (l:=fd) hj;obtain⟨i,x,hx,uC,YO,hb⟩:=BJ h1 hy;obtain⟨z,hz,tP⟩:=Qc1 h2 hx uC;rw[YO]at hz;rw[hy,hz,Option.map_some,Option.map_some];congr 1;unfold ay.e0;rw[hb.insts,tP.insts,hb.e,tP.e,hb.v,tP.v,hb.a,tP.a,hb.b,tP.b];have hp:y.ah.map bI.e0=z.ah.map bI.e0:=by
   refine List.ext_getElem? fun m=> ?_
   rw[List.getElem?_map,List.getElem?_map];by_cases hm:m<x.ah.length
   ·obtain⟨p,hp⟩:=bu (l:=x.ah) hm;obtain⟨q,hq,hd,il,hs,ha⟩:=hb.ah.fwd hp;obtain⟨q2,Xe,Vm,il2,N9,yX⟩:=tP.ah.fwd hp;have hP:=hg.pK i x hx p (List.mem_of_getElem? hp);have LM:∀i,i<p.from_.length→p.from_[i]?=some (p.from_.getD i 0):=fun i hi=>by rw[List.getD_eq_getElem?_getD,List.getElem?_eq_getElem hi];rfl
    have e:=Qdf hs N9 fun a b ha hb he=>by have la:=hc.src (Dz.bS i x hx p (List.mem_of_getElem? hp) _ (List.mem_of_getElem? (LM a ha)));have lb:=hc.src (Dz.bS i x hx p (List.mem_of_getElem? hp) _ (List.mem_of_getElem? (LM b hb)));have e1:p.from_.getD a 0=p.from_.getD b 0:=D9 la lb he;have h6:=LM a ha;rw[e1,←LM b hb]at h6;exact(List.getElem?_inj ha hP.nd).1 h6
    rw[hq,Xe];unfold bI.e0;simp only[Option.map_some];rw[hd,Vm,ha,yX,e]
   ·rw[List.getElem?_eq_none (by rw[←hb.ah.1];omega),List.getElem?_eq_none (by rw[←tP.ah.1];omega)]
  rw[hp]
 ·rw[List.getElem?_eq_none oM,List.getElem?_eq_none (by rw[←h2.1,h1.1];omega)]
noncomputable def Lf(va:Int)(fs:List ay):List gO:=Le (lN fs) (qN (lN fs) va.toNat)
noncomputable def Be(va:Int)(fs:List ay):List ay:=toF (Lf va fs)
theorem Qd8(fs:List ay):sP (lN fs):=by
 intro x hx;obtain⟨k,hk⟩:=List.mem_iff_getElem?.1 hx;obtain⟨y,_,rfl⟩:=F4 rfl hk;show(y.insts.map aO.e0).map aO.e0=y.insts.map aO.e0;rw[List.map_map];rfl
theorem QcM(hv:bV nm pa va fs=0):∃kn,QgC nm pa va (hY fs) (lN fs) (Lf va fs) kn:=by
 obtain⟨hg,kx,jv⟩:=qI hv;have hk:=NP hg;obtain⟨n,hn⟩:=Int.eq_ofNat_of_zero_le (show 0≤va by have:=hg.par;omega);have e:va.toNat=n:=oM;have C7:=QcK hg.par.1 hn hk.1.once;obtain⟨kn,h⟩:=UP hn _ _ _ (Nat.lt_succ_self _) hk.1 (Qbn C7) (by unfold qN;rw[BX,List.length_replicate]) (Qd8 fs);rw[XS,←jS (Q8 fs)]at h;refine⟨kn,?_⟩;unfold Lf Le;rw[e];exact h
theorem Jx(hv:bV nm pa va fs=0):bV nm pa va (Be va fs)=0:=by
 obtain⟨hg,kx,jv⟩:=qI hv;obtain⟨kn,h⟩:=QcM hv;exact QeT h.UH h.tight (Qf8 h.e0) kx (by have:=h.size;omega)
theorem Qbr(hv:bV nm pa va fs=0):(Be va fs).length≤fs.length:=by
 obtain⟨kn,h⟩:=QcM hv;have h1:=h.len;rw[jR]at h1;unfold Be toF;rw[List.length_map,←h1];exact List.length_filter_le _ _
theorem Qga(gx:pL fs):Xq (lN fs):=by
 intro x hx;obtain⟨k,hk⟩:=List.mem_iff_getElem?.1 hx;obtain⟨y,hy,rfl⟩:=F4 rfl hk;have h:=gx y (List.mem_of_getElem? hy);refine⟨fun i hi=> ?_,h.e,h.v,h.a,h.b,fun p hp=> ?_⟩
 ·obtain⟨j,hj,rfl⟩:=List.mem_map.1 (show i∈y.insts.map aO.e0 from hi);have:=h.insts j hj;exact⟨this.op,this.dst,this.n,this.name,this.len,this.args⟩
 ·obtain⟨q,hq,rfl⟩:=List.mem_map.1 (show p∈y.ah.map _ from hp);exact(h.ah q hq).dst
theorem Qel{ks:List gO}{n:Nat}(h:Xq ks):pq (qN ks n):=by
 have key:∀(l:List aO) (z:KN),(∀i,i∈l→i.Ok)→pq z→pq (kt l z):=by
  intro l;induction l with
  |nil=>intro z _ h;exact h
  |cons i l ih=>
   intro z hl hz;have e:kt (i::l) z=kt l (if i.op=1 then z.set i.dst.toNat (true,i.n)else z):=rfl;rw[e];refine ih _ (fun j hj=>hl j (List.mem_cons_of_mem _ hj)) ?_;split
   ·exact hz.set (hl i (List.mem_cons_self ..)).n _
   ·exact hz
 refine key _ _ (fun i hi=> ?_) fun c hc=> ?_
 ·obtain⟨x,hx,hi⟩:=List.mem_flatMap.1 hi;exact(h x hx).1 i hi
 ·rw[(List.mem_replicate.1 hc).2];exact Fa
theorem Qb9:∀{l m:List Nat},l.Nodup→(∀a,a∈l→a∈m)→l.length≤m.length
 |[],_,_,_=>Nat.zero_le _
 |a::l,m,hn,h=>by
  obtain⟨h1,h2⟩:=List.nodup_cons.1 hn;have ha:=h a (List.mem_cons_self ..);have:=Qb9 (l:=l) (m:=m.erase a) h2 fun b hb=>(List.mem_erase_of_ne (fun e=>h1 (by rw[←e];exact hb))).2 (h b (List.mem_cons_of_mem _ hb))
  rw[List.length_erase_of_mem ha]at this;have:=List.length_pos_of_mem ha;rw[List.length_cons];omega
theorem Qem:∀{l:ar} {n:Nat},l.Nodup→(∀a,a∈l→0≤a∧a<(n:Int))→l.length≤n:=by
 intro l n hn hr;have h1:(l.map Int.toNat).Nodup:=by
  rw[List.nodup_iff_pairwise_ne,List.pairwise_map];refine hn.imp_of_mem fun {a b} ha hb Hl e=>Hl ?_
  have:=(hr a ha).1;have:=(hr b hb).1;omega
 have h2:∀a,a∈l.map Int.toNat→a∈List.range n:=fun a ha=>by obtain⟨b,hb,rfl⟩:=List.mem_map.1 ha;have:=hr b hb;exact List.mem_range.2 oM
 have:=Qb9 h1 h2;rwa [List.length_map,List.length_range]at this
theorem VB(hg:vU nm pa va ks){k:Nat}{x:gO}(hx:ks[k]?=some x){p:vb}(hp:p∈x.ah):p.from_.length≤ks.length:=by
 have hP:=hg.pK k x hx p hp;exact Qem hP.nd hP.yW
theorem QgS(hg:vU nm pa va ks)(hi:Xq ks)(kx:va≤20000)(jv:(hY (fK ks):Int)≤20000):pL (toF ks):=by
 have hs:=vR ks;have ZJ:=hg.par;have RM:∀(l:List Nat) (a:Nat),a∈l→a≤l.sum:=by
  intro l;induction l with
  |nil=>intro a h;cases h
  |cons b l ih=>
   intro a h;rw[List.sum_cons];rcases List.mem_cons.1 h with h|h
   ·omega
   ·have:=ih a h;omega
 have hN:ks.length≤20000:=oM;have Qhr:∀v:Int,0≤v→v≤1000000→In64 v:=fun v h0 h1=>⟨oM,oM⟩
 intro y hy;obtain⟨x,hx,rfl⟩:=List.mem_map.1 hy;have yk:x∈ks:=(List.mem_filter.1 hx).1;obtain⟨k,hk⟩:=List.mem_iff_getElem?.1 yk;have hl:=RM _ _ (List.mem_map.2 ⟨x,yk,rfl⟩:(fun x:gO=>x.ah.length+x.insts.length) x∈ks.map (fun x=>x.ah.length+x.insts.length));have LG:x.ah.length+x.insts.length≤20000:=by have:x.ah.length+x.insts.length≤(ks.map (fun x=>x.ah.length+x.insts.length)).sum:=hl;omega
 obtain⟨h0,h1,h2,h3,h4,h5⟩:=hi x yk;have NJ:∀a:Int,In64 ((ve (nh ks)).getD a.toNat 0):=fun a=>by have:=Jj (nh ks) a.toNat (by rw[xP];omega);exact Qhr _ this.1 this.2
 refine⟨?_,fun p hp=> ?_,?_,fun i hi=> ?_,h1,h2,?_,?_⟩
 ·show gY (x.ah.map _).length;rw[List.length_map];unfold gY;omega
 ·obtain⟨q,hq,rfl⟩:=List.mem_map.1 (show p∈x.ah.map _ from hp);have hP:=hg.pK k x hk q hq;have hqs:=VB hg hk hq;refine⟨h5 q hq,?_,fun a ha=> ?_⟩
  ·show gY ((W1 _ _).map _).length;rw[List.length_map,(Qd7 _ _).1.length_eq,List.length_range];unfold gY;omega
  ·obtain⟨i,_,rfl⟩:=List.mem_map.1 (show a∈(W1 _ _).map _ from ha);rw[List.getD_eq_getElem?_getD];cases Xe:q.args[i]? with
   |none=>exact Fa
   |some b=>
    have:=hP.yc b (List.mem_of_getElem? Xe);exact Qhr _ this.1 (by show b≤_;omega)
 ·show gY x.insts.length;unfold gY;omega
 ·exact h0 i hi
 ·show In64 (toA _ x.e x.a);unfold toA;split
  ·exact NJ _
  ·split
   ·exact h3
   ·exact Fa
 ·show In64 (toBb _ x.e x.b);unfold toBb;split
  ·exact NJ _
  ·exact Fa
theorem Qbs(hv:bV nm pa va fs=0)(gx:pL fs):pL (Be va fs):=by
 obtain⟨hg,kx,jv⟩:=qI hv;obtain⟨kn,h⟩:=QcM hv;have hi:=Qga gx;exact QgS h.UH (Qbq _ _ _ hi (Qel hi)) kx (by have:=h.size;omega)
end
end Go.Mor
namespace Go.Mor
open Go.RowKit
end Go.Mor
namespace Go.Mor
open Go.RowKit
abbrev zI:aO:=⟨0,0,0,⟨#[]⟩,none,0,[]⟩
def vn(fs:List ay)(v:Int):Option aO:=(fs.flatMap (fun x=>x.insts)).find? (fun i=>decide (i.dst=v∧0≤v))
def lS(fs:List ay)(v:Int):aO:=(vn fs v).getD zI
def XN(fs:List ay)(v:Int):Bool:=(vn fs v).isSome
section
variable {fs : List ay} {v : Int} {k m : Nat} {x : ay} {i : aO}
theorem Qe4(X7:∀(a:Nat) (y:ay),a<k→fs[a]?=some y→∀i,i∈y.insts→¬(i.dst=v∧0≤v))(hx:fs[k]?=some x)(Ue:∀(a:Nat) (i:aO),a<m→x.insts[a]?=some i→¬(i.dst=v∧0≤v))(hi:x.insts[m]?=some i)(hp:i.dst=v∧0≤v):vn fs v=some i:=by
 have e:fs.flatMap (fun x=>x.insts)=(fs.take k).flatMap (fun x=>x.insts)++(x.insts.take m++(i::(x.insts.drop (m+1)++(fs.drop (k+1)).flatMap (fun x=>x.insts)))):=by
  conv=>lhs;rw[←List.take_append_drop k fs,BW hx]
  rw[List.flatMap_append,List.flatMap_cons];conv=>lhs;rw[←List.take_append_drop m x.insts,BW hi]
  simp
 unfold vn;rw[e,List.find?_append,List.find?_append,List.find?_cons];have h1:((fs.take k).flatMap (fun x=>x.insts)).find? (fun i=>decide (i.dst=v∧0≤v))=none:=by
  rw[List.find?_eq_none];intro j hj;obtain⟨y,hy,hj⟩:=List.mem_flatMap.1 hj;obtain⟨a,ha⟩:=List.mem_iff_getElem?.1 hy;have hak:a<k:=by have:=(List.getElem?_eq_some_iff.1 ha).1;rw[List.length_take]at this;omega
  rw[List.getElem?_take,if_pos hak]at ha;have:=X7 a y hak ha j hj;simpa using this
 have h2:(x.insts.take m).find? (fun i=>decide (i.dst=v∧0≤v))=none:=by
  rw[List.find?_eq_none];intro j hj;obtain⟨a,ha⟩:=List.mem_iff_getElem?.1 hj;have ham:a<m:=by have:=(List.getElem?_eq_some_iff.1 ha).1;rw[List.length_take]at this;omega
  rw[List.getElem?_take,if_pos ham]at ha;have:=Ue a j ham ha;simpa using this
 rw[h1,h2];simp[hp]
theorem Qe5(hk:fs.length≤k)(X7:∀(a:Nat) (y:ay),a<k→fs[a]?=some y→∀i,i∈y.insts→¬(i.dst=v∧0≤v)):vn fs v=none:=by
 unfold vn;rw[List.find?_eq_none];intro j hj;obtain⟨y,hy,hj⟩:=List.mem_flatMap.1 hj;obtain⟨a,ha⟩:=List.mem_iff_getElem?.1 hy;have:=X7 a y (by have:=(List.getElem?_eq_some_iff.1 ha).1;omega) ha j hj;simpa using this
theorem Qgb(h:vn fs v=some i):0≤v∧∃x,x∈fs∧i∈x.insts∧i.dst=v:=by
 unfold vn at h;have h1:=List.find?_some h;obtain⟨x,hx,hi⟩:=List.mem_flatMap.1 (List.mem_of_find?_eq_some h);simp only[decide_eq_true_eq]at h1;exact⟨h1.2,x,hx,hi,h1.1⟩
end
def iZ(A5 A6 A7:aX):ay:=⟨none,0,[],A7,4,[⟨1,0,2,⟨#[]⟩,none,0,[]⟩,⟨1,1,3,⟨#[]⟩,none,0,[]⟩,⟨17,2,0,⟨#[]⟩,A5,2,[0,1]⟩,⟨10,-1,0,⟨#[]⟩,A6,1,[2]⟩],2,-1,0,0⟩
theorem QgD{A5 A6 A7:aX}:pL [iZ A5 A6 A7]:=by
 intro x hx;rw[List.mem_singleton]at hx;subst hx;refine⟨by simp[iZ,gY],fun p hp=>by simp[iZ]at hp,by simp[iZ,gY],fun p hp=> ?_,by simp[iZ,In64],by simp[iZ,In64],by simp[iZ,In64],by simp[iZ,In64]⟩;simp only[iZ,List.mem_cons,List.not_mem_nil,or_false]at hp;rcases hp with rfl|rfl|rfl|rfl
 ·exact⟨by simp[In64],by simp[In64],by simp[In64],by show(0:Nat)≤_;omega,by simp[gY],fun x hx=>by simp at hx⟩
 ·exact⟨by simp[In64],by simp[In64],by simp[In64],by show(0:Nat)≤_;omega,by simp[gY],fun x hx=>by simp at hx⟩
 ·exact⟨by simp[In64],by simp[In64],by simp[In64],by show(0:Nat)≤_;omega,by simp[gY],fun x hx=>by simp at hx;rcases hx with rfl|rfl<;>simp[In64]⟩
 ·exact⟨by simp[In64],by simp[In64],by simp[In64],by show(0:Nat)≤_;omega,by simp[gY],fun x hx=>by simp at hx;subst hx;simp[In64]⟩
theorem Qbt{A5 A6 A7:aX}:bV PH 0 3 [iZ A5 A6 A7]=0:=Jv ⟨by simp[hY,jl,iZ],by rfl⟩
def XO:List aO:=[⟨1,0,2,⟨#[]⟩,none,0,[]⟩,⟨1,1,3,⟨#[]⟩,none,0,[]⟩,⟨1,2,5,⟨#[]⟩,none,0,[]⟩,⟨10,-1,0,⟨#[]⟩,none,0,[2]⟩]
def rL:gO:=⟨[],XO,2,-1,0,0,false⟩
theorem Qdh{A5 A6 A7:aX}:nU (lN [iZ A5 A6 A7]) (qN (lN [iZ A5 A6 A7]) 3)=([rL],[(true,2),(true,3),(true,5)],true):=kR
theorem Qe6:nU [rL] [(true,2),(true,3),(true,5)]=([rL],[(true,2),(true,3),(true,5)],false):=kR
theorem Qdi:kg [rL]=[rL]∧sW [rL]=false:=by
 have h0:([rL]:List gO)[0]?=some rL:=rfl;have hr:Reach (tK [rL]) (0:Int):= .zero;constructor
 ·have h1:=tn h0;have h2:sj [rL] 0 rL=rL:=by unfold sj;rw[if_neg (fun h=>h.1 hr)]
  rw[h2]at h1;have hl:=o2 [rL];refine List.ext_getElem? fun i=> ?_
  cases i with
  |zero=>rw[h1];rfl
  |succ i=>rw[List.getElem?_eq_none (by rw[hl];simp),List.getElem?_eq_none sI]
 ·unfold sW;refine(@decide_eq_false_iff_not _ (Classical.propDecidable _)).2 ?_;rintro⟨k,x,hx,_,hn⟩;have:k=0:=by have:=(List.getElem?_eq_some_iff.1 hx).1;simp at this;omega
  subst this;exact hn hr
theorem Qgc{A5 A6 A7:aX}:Be 3 [iZ A5 A6 A7]=[⟨none,0,[],none,0,XO,2,-1,0,0⟩]:=by
 have e:Lf 3 [iZ A5 A6 A7]=[rL]:=by unfold Lf;rw[show(3:Int).toNat=3 from rfl];have h1:=Qe2 (ks:=lN [iZ A5 A6 A7]) (kn:=qN (lN [iZ A5 A6 A7]) 3) (by rw[Qdh]);rw[Qdh]at h1;rw[←h1,QdF (by rw[Qe6]) Qdi.2,Qdi.1]
 unfold Be;rw[e];rfl
theorem Qgd{A5 A6 A7:aX}{fd:List ay}(h:ec fd (Be 3 [iZ A5 A6 A7])):(∃x,x∈fd∧∃i,i∈x.insts∧i.dst=2)∧∀x,x∈fd→∀i,i∈x.insts→i.dst=2→i.op=1∧i.n=5:=by
 rw[Qgc]at h;obtain⟨A1,c1,ps,A2,c2,is,hy,_,UO⟩:=rN h.symm (k:=0) rfl;have UO:is.map aO.e0=XO.map aO.e0:=UO;have hl:=h.len;constructor
 ·obtain⟨A,c,hq⟩:=BC UO (j:=2) (p:=⟨1,2,5,⟨#[]⟩,none,0,[]⟩) rfl;exact⟨_,List.mem_of_getElem? hy,_,List.mem_of_getElem? hq,rfl⟩
 ·intro x hx i hi hd;obtain⟨k,hk⟩:=List.mem_iff_getElem?.1 hx;have:k=0:=by have:=(List.getElem?_eq_some_iff.1 hk).1;simp at hl;omega
  subst this;rw[hy]at hk;injection hk with hk;subst hk;have hi:i.e0∈is.map aO.e0:=List.mem_map.2 ⟨i,hi,rfl⟩;rw[UO]at hi;have hi:i.e0∈XO:=hi;simp only[XO,List.mem_cons,List.not_mem_nil,or_false]at hi;have e1:i.e0.dst=2:=hd;rcases hi with e|e|e|e
  ·rw[e]at e1;simp at e1
  ·rw[e]at e1;simp at e1
  ·exact⟨sZ aO.op e,sZ aO.n e⟩
  ·rw[e]at e1;simp at e1
theorem Qhs{A5 A6 A7:aX}{fd:List ay}(h:ec fd (Be 3 [iZ A5 A6 A7])):XN fd 2=true∧(lS fd 2).op=1∧(lS fd 2).n=5:=by
 obtain⟨⟨x,hx,i,hi,hd⟩,cA⟩:=Qgd h;cases hm:vn fd 2 with
 |none=>
  exfalso;unfold vn at hm;rw[List.find?_eq_none]at hm;exact hm i (List.mem_flatMap.2 ⟨x,hx,hi⟩) (by simp[hd])
 |some j=>
  obtain⟨_,y,hy,hj,hjd⟩:=Qgb hm;have e:lS fd 2=j:=by unfold lS;rw[hm];rfl
  rw[e];exact⟨by unfold XN;rw[hm];rfl,cA y hy j hj hjd⟩
end Go.Mor
namespace Go.Mor
open Go.RowKit
theorem Qht{x:gO}(h:x.e=0):wL x=[x.a]:=by unfold wL;rw[if_pos h]
theorem Qhu{x:gO}(h0:¬x.e=0)(h:x.e=1):wL x=[x.a,x.b]:=by unfold wL;rw[if_neg h0,if_pos h]
theorem Qhv{x:gO}(h0:¬x.e=0)(h:¬x.e=1):wL x=[]:=by unfold wL;rw[if_neg h0,if_neg h]
theorem Qd9(x:gO):(wL x).length≤2:=by unfold wL;split;simp;split<;>simp
def QgT(N:Int)(x:gO):Prop:=x.gone=false→Jn N x
theorem Qea{N:Int}{x:gO}(h:Jn N x):(wL x).Nodup∧∀t,t∈wL x→0≤t∧t<N:=by
 unfold wL;rcases h with⟨e,h1,_⟩|⟨e,h1,h2,h3⟩|⟨e,_⟩|⟨e,_⟩
 ·rw[if_pos e];exact⟨sI,by intro t ht;rw[List.mem_singleton.1 ht];exact h1⟩
 ·rw[if_neg oM,if_pos e];refine⟨by simp[h3],?_⟩;intro t ht;rcases List.mem_cons.1 ht with rfl|ht
  ·exact h1
  ·rw[List.mem_singleton.1 ht];exact h2
 ·rw[if_neg oM,if_neg oM];exact⟨sI,sI⟩
 ·rw[if_neg oM,if_neg oM];exact⟨sI,sI⟩
def BL(ks:List gO)(n:Nat)(t:Int):ar:=((List.range n).filter (fun s=>match ks[s]? with
 |some x=> !x.gone&&(wL x).contains t
 |none=>false)).map (fun s:Nat=>(s:Int))
def QbC(ks:List gO)(n:Nat):List ar:=(List.range ks.length).map (fun t:Nat=>BL ks n (t:Int))
def QbD(ks:List gO)(n:Nat)(l:ar):List ar:=(List.range ks.length).map (fun t:Nat=>BL ks n (t:Int)++(if(t:Int)∈l then[(n:Int)]else[]))
def Qge(ks:List gO):List ar:=(List.range ks.length).map (fun t:Nat=>EU ks (t:Int))
section
variable {ks : List gO} {n : Nat} {x : gO}
theorem Qen(ks:List gO):QbC ks 0=List.replicate ks.length []:=by
 unfold QbC BL;simp only[List.range_zero,List.filter_nil,List.map_nil];exact List.map_const' ..|>.trans (by rw[List.length_range])
theorem Qe7(ks:List gO)(n:Nat):QbD ks n []=QbC ks n:=by
 unfold QbD QbC;refine List.map_congr_left fun t _=> ?_
 simp
theorem Qca(hx:ks[n]?=some x)(t:Int):BL ks (n+1) t=BL ks n t++(if(!x.gone&&(wL x).contains t)=true then[(n:Int)]else[]):=by
 unfold BL;rw[List.range_succ,List.filter_append,List.map_append];congr 1;rw[List.filter_cons,hx];simp only[List.filter_nil];split<;>rfl
theorem Qeo(hx:ks[n]?=some x)(hg:x.gone=true):QbC ks (n+1)=QbC ks n:=by
 unfold QbC;refine List.map_congr_left fun t _=> ?_
 rw[Qca hx,hg];simp
theorem Qe8(hx:ks[n]?=some x)(hg:x.gone=false):QbD ks n (wL x)=QbC ks (n+1):=by
 unfold QbD QbC;refine List.map_congr_left fun t _=> ?_
 rw[Qca hx,hg];congr 1;simp
theorem Qe9{l:ar}{t:Nat}(ht:t<ks.length)(hn:(t:Int)∉l):(QbD ks n l)[t]?=some (BL ks n (t:Int)):=by
 unfold QbD;rw[List.getElem?_map,List.getElem?_range ht];simp[hn]
theorem Qfa{l:ar}{t:Nat}(ht:t<ks.length)(_hn:(t:Int)∉l):(QbD ks n l).set t (BL ks n (t:Int)++[(n:Int)])=QbD ks n (l++[(t:Int)]):=by
 unfold QbD;refine List.ext_getElem? fun i=> ?_
 by_cases hi:i<ks.length
 ·by_cases e:t=i
  ·subst e;rw[List.getElem?_set_self (by simpa using ht),List.getElem?_map,List.getElem?_range ht];simp
  ·rw[List.getElem?_set_ne e,List.getElem?_map,List.getElem?_map,List.getElem?_range hi];have:¬(i:Int)=(t:Int):=oM;simp[this]
 ·rw[List.getElem?_eq_none (by simp;omega),List.getElem?_eq_none (by simp;omega)]
theorem Qdj(ks:List gO)(n:Nat)(t:Int):(BL ks n t).length≤n:=by
 unfold BL;rw[List.length_map];exact Nat.le_trans (List.length_filter_le _ _) sI
theorem Qfb(ks:List gO)(t:Int):(EU ks t).length≤ks.length:=Qdj ks ks.length t
theorem Qfc{t:Nat}(ht:t<ks.length):(Qge ks)[t]?=some (EU ks (t:Int)):=by
 unfold Qge;rw[List.getElem?_map,List.getElem?_range ht];rfl
theorem Qfd{l:ar}(hn:l.Nodup){j:Nat}{t:Int}(h:l[j]?=some t):t∉l.take j:=by
 intro hm;obtain⟨i,hi⟩:=List.mem_iff_getElem?.1 hm;have h1:i<j:=by have:=(List.getElem?_eq_some_iff.1 hi).1;rw[List.length_take]at this;omega
 rw[List.getElem?_take,if_pos h1]at hi;have:=(List.getElem?_inj (List.getElem?_eq_some_iff.1 hi).1 hn).1 (hi.trans h.symm);omega
end
def sg(S:ar)(p:vb)(j:Nat):List (Int×Int):=((p.from_.zip p.args).take j).filter (fun q=>S.contains q.1)
section
variable {S : List Int} {p : vb} {j : Nat} {s a : Int}
theorem Qfe{l m:ar}(hs:l[j]?=some s)(ha:m[j]?=some a):(l.zip m)[j]?=some (s,a):=by
 rw[List.getElem?_zip_eq_some];exact⟨hs,ha⟩
theorem Qgf(hs:p.from_[j]?=some s)(ha:p.args[j]?=some a)(h:S.contains s=true):sg S p (j+1)=sg S p j++[(s,a)]:=by
 obtain⟨hk,he⟩:=List.getElem?_eq_some_iff.1 (Qfe hs ha);unfold sg;rw[List.take_succ_eq_append_getElem hk,List.filter_append,he,List.filter_cons,if_pos h];rfl
theorem QgU(hs:p.from_[j]?=some s)(ha:p.args[j]?=some a)(h:S.contains s=false):sg S p (j+1)=sg S p j:=by
 obtain⟨hk,he⟩:=List.getElem?_eq_some_iff.1 (Qfe hs ha);unfold sg;rw[List.take_succ_eq_append_getElem hk,List.filter_append,he,List.filter_cons,if_neg (by rw[h];decide)];simp
theorem Qgg:(sg S p j).length≤j:=by
 unfold sg;exact Nat.le_trans (List.length_filter_le _ _) (by rw[List.length_take];omega)
theorem Qgh(hl:p.args.length=p.from_.length)(hj:p.from_.length≤j):ke S p=⟨p.dst,(sg S p j).map (·.1),(sg S p j).map (·.2)⟩:=by
 unfold ke sg;rw[List.take_of_length_le (by rw[List.length_zip];omega)]
end
def sm(S:ar)(p:vb)(j:Nat):ar:=(sg S p j).map (·.1)
def zn(S:ar)(p:vb)(j:Nat):ar:=(sg S p j).map (·.2)
section
variable {S : List Int} {p : vb} {j : Nat} {s a : Int}
theorem Qgi(hs:p.from_[j]?=some s)(ha:p.args[j]?=some a)(h:S.contains s=true):sm S p (j+1)=sm S p j++[s]∧zn S p (j+1)=zn S p j++[a]:=by
 unfold sm zn;rw[Qgf hs ha h];simp
theorem QgV(hs:p.from_[j]?=some s)(ha:p.args[j]?=some a)(h:S.contains s=false):sm S p (j+1)=sm S p j∧zn S p (j+1)=zn S p j:=by
 unfold sm zn;rw[QgU hs ha h];exact⟨rfl,rfl⟩
theorem Qgj:(sm S p j).length≤j∧(zn S p j).length=(sm S p j).length:=by
 unfold sm zn;rw[List.length_map,List.length_map];exact⟨Qgg,rfl⟩
end
theorem Qff:∀{l:List cI} {m:Nat} {p:cI},l[m]?=some p→∀(A1 A2:aX) (c1 c2:Nat) (f a:ar),((zc l).set (m*3+1) (vS A1 f.length c1)).set (m*3+2) (vS A2 a.length c2)=zc (l.set m ⟨p.dst,A1,c1,f,A2,c2,a⟩)
 |[],m,p,h,_,_,_,_,_,_=>by simp at h
 |q::l,0,p,h,A1,A2,c1,c2,f,a=>by injection h with h;subst h;rfl
 |q::l,m+1,p,h,A1,A2,c1,c2,f,a=>by
  have ih:=Qff (l:=l) (m:=m) h A1 A2 c1 c2 f a;have e:∀(q:cI) (l:List cI),zc (q::l)=q.cells++zc l:=fun _ _=>rfl
  rw[List.set_cons_succ,e,e,←ih,show(m+1)*3+1=q.cells.length+(m*3+1)by rw[xM];omega,show(m+1)*3+2=q.cells.length+(m*3+2)by rw[xM];omega];rw[List.set_append_right _ _ oM,List.set_append_right _ _ oM];simp
def Xr(ml:List Bool):Nat:=(ml.filter (fun b=> !b)).length
structure QbE(ks:List gO)(ml:List Bool)(o9:ar):Prop where
 len:ml.length=ks.length
 zero:ml.getD 0 false=true
 sub:∀t:Nat,ml.getD t false=true→Reach (tK ks) (t:Int)
 wy:∀t,t∈o9→0≤t∧t<(ks.length:Int)∧ml.getD t.toNat false=true
 cl:∀s:Nat,ml.getD s false=true→(s:Int)∈o9∨∀t:Int,t∈tK ks (s:Int)→ml.getD t.toNat false=true
structure QbF(ks:List gO)(b:Nat)(l:ar)(ml:List Bool)(o9:ar):Prop where
 len:ml.length=ks.length
 zero:ml.getD 0 false=true
 sub:∀t:Nat,ml.getD t false=true→Reach (tK ks) (t:Int)
 wy:∀t,t∈o9→0≤t∧t<(ks.length:Int)∧ml.getD t.toNat false=true
 at_:Reach (tK ks) (b:Int)
 done:∀t,t∈l→ml.getD t.toNat false=true
 cl:∀s:Nat,ml.getD s false=true→(s:Int)∈o9∨s=b∨∀t:Int,t∈tK ks (s:Int)→ml.getD t.toNat false=true
theorem Qdk:∀{ml:List Bool} {t:Nat},ml[t]?=some false→Xr (ml.set t true)+1=Xr ml
 |[],t,h=>by simp at h
 |b::ml,0,h=>by injection h with h;subst h;simp[Xr]
 |b::ml,t+1,h=>by
  have h1:=Qdk (ml:=ml) (t:=t) h;have key:∀l:List Bool,Xr (b::l)=Xr l+(if b then 0 else 1):=fun l=>by unfold Xr;cases b<;>simp
  rw[List.set_cons_succ,key,key];omega
section
variable {ks : List gO} {ml : List Bool} {o9 l : List Int} {b : Nat} {t : Int}
theorem QdK(ml:List Bool)(t s:Nat)(ht:t<ml.length):(ml.set t true).getD s false=true↔s=t∨ml.getD s false=true:=by
 rw[List.getD_eq_getElem?_getD,List.getElem?_set];by_cases e:t=s
 ·subst e;rw[if_pos rfl,if_pos ht];simp
 ·rw[if_neg e,←List.getD_eq_getElem?_getD];exact⟨.inr,fun h=>h.resolve_left (fun e2=>e e2.symm)⟩
theorem QbE.start(hc:Pf ks):QbE ks ((List.replicate ks.length false).set 0 true) [0]:=by
 have h0:0<ks.length:=by obtain⟨i,x,_,hx,_⟩:=hc.zero;have:=(List.getElem?_eq_some_iff.1 hx).1;omega
 have key:∀s:Nat,((List.replicate ks.length false).set 0 true).getD s false=true→s=0:=by
  intro s h;rcases(QdK _ 0 s (by simpa using h0)).1 h with h|h
  ·exact h
  ·exfalso;rw[List.getD_eq_getElem?_getD,List.getElem?_replicate]at h;split at h<;>cases h
 have hz:((List.replicate ks.length false).set 0 true).getD 0 false=true:=(QdK _ 0 0 (by simpa using h0)).2 (.inl rfl);refine⟨sI,hz,fun t ht=> ?_,fun t ht=> ?_,fun s hs=> ?_⟩
 ·rw[key t ht];exact .zero
 ·rw[List.mem_singleton.1 ht];exact⟨oM,oM,hz⟩
 ·rw[key s hs];exact .inl sI
theorem QbE.pop(h:QbE ks ml (o9++[(b:Int)])):QbF ks b [] ml o9:=by
 have hb:=h.wy (b:Int) sI;refine⟨h.len,h.zero,h.sub,fun t ht=>h.wy t (by simp[ht]),h.sub b (by simpa using hb.2.2),fun t ht=>(by cases ht),fun s hs=> ?_⟩;rcases h.cl s hs with h1|h1
 ·rcases List.mem_append.1 h1 with h1|h1
  ·exact .inl h1
  ·exact .inr (.inl (by have:=List.mem_singleton.1 h1;omega))
 ·exact .inr (.inr h1)
theorem QbF.old(h:QbF ks b l ml o9)(hm:ml.getD t.toNat false=true):QbF ks b (l++[t]) ml o9:=⟨h.len,h.zero,h.sub,h.wy,h.at_,fun s hs=>by
  rcases List.mem_append.1 hs with hs|hs
  ·exact h.done s hs
  ·rw[List.mem_singleton.1 hs];exact hm,h.cl⟩
theorem QbF.new(h:QbF ks b l ml o9)(ht:t∈tK ks (b:Int))(h0:0≤t)(h1:t<(ks.length:Int)):QbF ks b (l++[t]) (ml.set t.toNat true) (o9++[t]):=by
 have hl:=h.len;have hs:=fun s=>QdK ml t.toNat s oM
 have hr:Reach (tK ks) t:= .step h.at_ ht;refine⟨by simp[h.len],(hs 0).2 (.inr h.zero),fun s hm=> ?_,fun s hm=> ?_,h.at_,fun s hm=> ?_,fun s hm=> ?_⟩
 ·rcases(hs s).1 hm with e|e
  ·rw[e,Int.toNat_of_nonneg h0];exact hr
  ·exact h.sub s e
 ·rcases List.mem_append.1 hm with hm|hm
  ·obtain⟨q1,q2,q3⟩:=h.wy s hm;exact⟨q1,q2,(hs _).2 (.inr q3)⟩
  ·rw[List.mem_singleton.1 hm];exact⟨h0,h1,(hs _).2 (.inl rfl)⟩
 ·rcases List.mem_append.1 hm with hm|hm
  ·exact(hs _).2 (.inr (h.done s hm))
  ·rw[List.mem_singleton.1 hm];exact(hs _).2 (.inl rfl)
 ·rcases(hs s).1 hm with e|e
  ·exact .inl (by rw[e,Int.toNat_of_nonneg h0];simp)
  ·rcases h.cl s e with q|q|q
   ·exact .inl (by simp[q])
   ·exact .inr (.inl q)
   ·exact .inr (.inr fun u hu=>(hs _).2 (.inr (q u hu)))
theorem QbF.fin(h:QbF ks b l ml o9)(hl:tK ks (b:Int)=l):QbE ks ml o9:=⟨h.len,h.zero,h.sub,h.wy,fun s hs=>by
  rcases h.cl s hs with q|q|q
  ·exact .inl q
  ·exact .inr (by rw[q,hl];exact h.done)
  ·exact .inr q⟩
theorem QbE.done(h:QbE ks ml [])(hc:Pf ks)(t:Nat):ml.getD t false=true↔Reach (tK ks) (t:Int):=by
 refine⟨h.sub t,fun hr=> ?_⟩;have key:∀x:Int,Reach (tK ks) x→ml.getD x.toNat false=true:=by
  intro x hx;induction hx with
  |zero=>exact h.zero
  | @step x t hx ht ih=>
   obtain⟨i,z,rfl,_,_⟩:=Jw hc hx;rcases h.cl i (by simpa using ih)with q|q
   ·cases q
   ·exact q t ht
 simpa using key _ hr
end
theorem Qbu{w:World}{A:aX}{ad:Addr}{k:Nat}{gs:List bz}{x:bz}(h:(bo.rd A (jA gs)).holds w)(hA:A=some ad)(hx:gs[k]?=some x):w.cell? (ad.add (k*1))=some (vP (aZ x.g)):=bB h hA (by unfold jA;rw[List.getElem?_map,hx];rfl)
theorem Qgk(ml:List Bool):Xr ml≤ml.length:=List.length_filter_le _ _
def Qgl(x:bz):Prop:=x.ah.length≤20000∧∀p,p∈x.ah→p.args.length=p.from_.length∧p.from_.length≤20000
abbrev Oa(x:bz):bz:=⟨x.g,none,0,[],none,0,[],2,-1,x.a,x.b,true⟩
theorem QgW(x:bz):Qgl (Oa x):=⟨Nat.zero_le _,fun p hp=>(by cases hp)⟩
theorem Qhw{ks:List gO}{k:Nat}{x:bz}(hr:¬Reach (tK ks) (k:Int))(hg:x.gone=false):(Oa x).k=sj ks k x.k:=by
 unfold sj;rw[if_pos ⟨hr,hg⟩];rfl
theorem QgX{ks:List gO}{k:Nat}{x:bz}(h:¬(¬Reach (tK ks) (k:Int)∧x.gone=false)):x.k=sj ks k x.k:=by
 unfold sj;rw[if_neg (show¬(¬Reach (tK ks) (k:Int)∧x.k.gone=false)from h)]
theorem Qcb{ks:List gO}{k:Nat}{x:gO}{tb tb':Bool}(hx:ks[k]?=some x)(h:tb=true↔∃(i:Nat) (x:gO),i<k∧ks[i]?=some x∧x.gone=false∧¬Reach (tK ks) (i:Int))(h':tb'=true↔tb=true∨(x.gone=false∧¬Reach (tK ks) (k:Int))):tb'=true↔∃(i:Nat) (x:gO),i<k+1∧ks[i]?=some x∧x.gone=false∧¬Reach (tK ks) (i:Int):=by
 rw[h',h];constructor
 ·rintro(⟨i,y,h1,h2⟩|h1)
  ·exact⟨i,y,oM,h2⟩
  ·exact⟨k,x,oM,hx,h1⟩
 ·rintro⟨i,y,h1,h2,h3⟩;by_cases e:i=k
  ·subst e;rw[hx]at h2;injection h2 with h2;subst h2;exact .inr h3
  ·exact .inl ⟨i,y,oM,h2,h3⟩
theorem Qfg{ks:List gO}{k:Nat}{tb:Bool}(hk:ks.length≤k)(h:tb=true↔∃(i:Nat) (x:gO),i<k∧ks[i]?=some x∧x.gone=false∧¬Reach (tK ks) (i:Int)):tb=sW ks:=by
 have h2:sW ks=true↔∃(i:Nat) (x:gO),ks[i]?=some x∧x.gone=false∧¬Reach (tK ks) (i:Int):=by unfold sW;exact @decide_eq_true_iff _ (Classical.propDecidable _)
 rw[Bool.eq_iff_iff,h,h2];exact⟨fun⟨i,x,_,h⟩=>⟨i,x,h⟩,fun⟨i,x,h⟩=>⟨i,x,by have:=(List.getElem?_eq_some_iff.1 h.1).1;omega,h⟩⟩
theorem QdL{ks:List gO}(hc:Pf ks):∀x,x∈o1 ks→QgT (ks.length:Int) x:=by
 intro y hy hg;obtain⟨k,hk⟩:=List.mem_iff_getElem?.1 hy;obtain⟨x,hx⟩:=bu (l:=ks) (i:=k) (by rw[←BV ks];exact(List.getElem?_eq_some_iff.1 hk).1);rw[BM hx]at hk;injection hk with hk;subst hk;unfold sj at hg⊢;split at hg
 ·cases hg
 ·rename_i h;rw[if_neg h];exact hc.ends x (List.mem_of_getElem? hx) hg
theorem Qdl{ks hd:List gO}{k:Nat}{x y:gO}(hh:hd=(kg ks).take k)(hx:(o1 ks)[k]?=some x)(hy:y=K8 (EU (o1 ks) (k:Int)) x):hd++[y]=(kg ks).take (k+1):=by
 have h1:(kg ks)[k]?=some (K8 (EU (o1 ks) (k:Int)) x):=by unfold kg;rw[List.getElem?_map,List.getElem?_zipIdx,hx];simp
 obtain⟨hk,he⟩:=List.getElem?_eq_some_iff.1 h1;rw[List.take_succ_eq_append_getElem hk,he,hh,hy]
theorem Qfh{S:ar}{x:bz}{pd:List cI}{j:Nat}{p q:cI}(hp:x.ah[j]?=some p)(h:pd.map cI.k=(x.ah.take j).map (fun p=>ke S p.k))(hq:q.k=ke S p.k):(pd++[q]).map cI.k=(x.ah.take (j+1)).map (fun p=>ke S p.k):=by
 obtain⟨hk,he⟩:=List.getElem?_eq_some_iff.1 hp;rw[List.take_succ_eq_append_getElem hk,he,List.map_append,List.map_append,h];simp[hq]
theorem QcN{α:Type}{l pd:List α}{j:Nat}{p y:α}(hp:l[j]?=some p)(hl:pd.length=j):(pd++l.drop j).set j y=(pd++[y])++l.drop (j+1):=by
 rw[BW hp,List.set_append_right _ _ oM,hl,Nat.sub_self,List.append_assoc];rfl
theorem Mem.Qhx{S:Nat→Prop}{w0 w:World}{a b c:bo}(h:Mem S w0 w [a,b,c]):Mem S w0 w [.pk [a,b,c]]:=Mem.pack (l:=[a,b,c]) (L:=[]) h
theorem Qbw{ks hd:List gO}{k:Nat}{x:gO}(hh:hd=(o1 ks).take k)(hx:ks[k]?=some x){y:gO}(hy:y=sj ks k x):hd++[y]=(o1 ks).take (k+1):=by
 obtain⟨hk,he⟩:=List.getElem?_eq_some_iff.1 (BM hx);rw[List.take_succ_eq_append_getElem hk,he,hh,hy]
end Go.Mor
