/-
  Texts of the proof, part 13.
-/
import Derived.Test.YtejbeeaomokjpaaZk12
set_option maxRecDepth 10000
namespace Go.Mor
open Go.RowKit
section
variable {nm : ByteArray} {pa va : Int} {ks : List gO} {k a : Nat} {b x : gO}
theorem Jn.dka(h:Jn nm pa va ks k a b x):Dm (tK ks) (k:Int) (a:Int):=Qkz h.src h.a0
theorem Jn.ra(h:Jn nm pa va ks k a b x):Reach (tK ks) (a:Int):=h.tight.reach _ (.mk' h.hx h.xg)
theorem QeV(h:Jn nm pa va ks k a b x){v c q:Int}(hca:c≠(a:Int))(hr:Reach (tK ks) c)(ha:rX pa va ks v c q):rX pa va (rN ks k a x) v c q:=by
 obtain⟨h1,h2,h3⟩:=(u3 h.UH.once.2).1 ha;refine(u3 (Qed h).2).2 ⟨h1,h2,h3.imp id fun⟨e,m,hd,h4⟩=> ?_⟩;by_cases ea:e=(a:Int)
 ·subst ea;obtain⟨m0,m1⟩:=Qlw h hd;refine⟨(k:Int),_,(Qbr h).2 (.inr ⟨rfl,m,m0,m1,rfl,hd⟩),?_⟩;rcases h4 with⟨h4,_⟩|⟨_,h4⟩
  ·exact absurd h4.symm hca
  ·right;refine⟨fun e=> ?_,(h.ctr.dm (by have:=h.ne;omega) hca).2 (h.dka.trans h4)⟩;subst e;have:=Dm.Qns (Dm.reach hr h4) h.dka h4;have:=h.ne;omega
 ·exact⟨e,m,(Qbr h).2 (.inl ⟨ea,hd⟩),h4.imp id fun⟨q1,q2⟩=>⟨q1,(h.ctr.dm ea hca).2 q2⟩⟩
theorem QfE(h:Jn nm pa va ks k a b x){v q q':Int}(hq:∀m:Int,0≤m→m<(x.insts.length:Int)→m<q→(b.insts.length:Int)+m<q')(Fp:(b.insts.length:Int)≤q')(ha:rX pa va ks v (a:Int) q):rX pa va (rN ks k a x) v (k:Int) q':=by
 have hka:(k:Int)≠(a:Int):=by have:=h.ne;omega
 obtain⟨h1,h2,h3⟩:=(u3 h.UH.once.2).1 ha;refine(u3 (Qed h).2).2 ⟨h1,h2,h3.imp id fun⟨e,m,hd,h4⟩=> ?_⟩;by_cases ea:e=(a:Int)
 ·subst ea;obtain⟨m0,m1⟩:=Qlw h hd;rcases h4 with⟨_,h4⟩|⟨h4,_⟩
  ·exact⟨(k:Int),_,(Qbr h).2 (.inr ⟨rfl,m,m0,m1,rfl,hd⟩),.inl ⟨rfl,hq m m0 m1 h4⟩⟩
  ·exact absurd rfl h4
 ·have h5:Dm (tK ks) e (a:Int):=by
   rcases h4 with⟨h4,_⟩|⟨_,h4⟩
   ·exact absurd h4 ea
   ·exact h4
  refine⟨e,m,(Qbr h).2 (.inl ⟨ea,hd⟩),?_⟩;by_cases ek:e=(k:Int)
  ·subst ek;have:=Qod h hd;exact .inl ⟨rfl,oM⟩
  ·refine .inr ⟨ek,(h.ctr.dm ea hka).2 ?_⟩;rintro⟨e0,hr⟩;exact h5 ⟨e0,.step hr (im.2 ⟨by rw[h.tk];simp,fun e2=>ea e2.symm⟩)⟩
theorem QcF{a k s:Int}(h:s≠a):oH a k s=s:=by unfold oH;rw[QcA h]
theorem Qki(h:Jn nm pa va ks k a b x):vU nm pa va (rN ks k a x)∧EJ (rN ks k a x):=by
 have hg:=h.UH;have hc:=hg.UT;have hka:(k:Int)≠(a:Int):=by have:=h.ne;omega
 obtain⟨t1,t2,t3⟩:=QjT h;have hct:=h.ctr;have Na:Reach (tK ks) (k:Int):=h.tight.reach _ (.mk' h.hb h.bg);have who:∀{i:Nat} {z:gO},(rN ks k a x)[i]?=some z→(i=k∧z=QeU (Qd6 a k b) x)∨(i≠k∧i=a∧z=QgN x)∨(i≠k∧i≠a∧∃y,ks[i]?=some y∧z=Qd6 a k y):=by
  intro i z hz;obtain⟨y,hy,rfl⟩:=Qeb hz;unfold vn;by_cases ek:i=k
  ·subst ek;rw[h.hb]at hy;injection hy with hy;subst hy;rw[dd rfl];exact .inl ⟨rfl,rfl⟩
  ·rw[QcA ek];by_cases ea:i=a
   ·subst ea;rw[h.hx]at hy;injection hy with hy;subst hy;rw[dd rfl];exact .inr (.inl ⟨ek,rfl,rfl⟩)
   ·rw[QcA ea];exact .inr (.inr ⟨ek,ea,y,hy,rfl⟩)
 have hlv:∀{t:Int},mB (rN ks k a x) t↔mB ks t∧t≠(a:Int):=by
  intro t;constructor
  ·rintro⟨i,z,rfl,hz,BB⟩;rcases who hz with⟨rfl,rfl⟩|⟨_,rfl,rfl⟩|⟨_,ha,y,hy,rfl⟩
   ·exact⟨.mk' h.hb h.bg,hka⟩
   ·cases BB
   ·exact⟨.mk' hy BB,oM⟩
  ·rintro⟨⟨i,y,rfl,hy,hgy⟩,cU⟩;refine .mk' (rL hy) ?_;unfold vn;by_cases ek:i=k
   ·subst ek;rw[h.hb]at hy;injection hy with hy;subst hy;rw[dd rfl];exact h.bg
   ·rw[QcA ek,QcA (fun e=>cU (by rw[e]))];exact hgy
 have hrc:∀{t:Int},Reach (tK (rN ks k a x)) t→Reach (tK ks) t∧t≠(a:Int):=fun hr=>hct.fwd hr
 have VS:∀{i:Nat} {y:gO} {p:vb},ks[i]?=some y→p∈y.ah→i≠a→QhX pa va (rN ks k a x) i (QeA a k p)∧∀s,s∈(QeA a k p).from_→(i:Int)∈tK (rN ks k a x) s:=by
  intro i y p hy hp hia;have hP:=hg.pK i y hy p hp;have hS:=h.tight.bS i y hy p hp;have LF:(k:Int)∉p.from_:=fun hk=>by have:=hS _ hk;rw[h.tk,QcC]at this;omega
  have Hx:∀s,s∈p.from_→(i:Int)∈tK (rN ks k a x) (oH a k s):=by
   intro s hs;have h1:=hS s hs;by_cases e:s=(a:Int)
   ·subst e;unfold oH;rw[dd rfl,t1];exact h1
   ·rw[QcF e,t3 s (fun e2=>LF (e2▸hs)) e];exact h1
  refine⟨⟨?_,?_,fun s hs=> ?_,fun s hs=> ?_,hP.QbQ,fun j s v hs hv hrs xG=> ?_⟩,fun s hs=> ?_⟩
  ·show p.args.length=(p.from_.map _).length;rw[QjN];exact hP.len
  ·show(p.from_.map (oH a k)).Nodup;rw[QjE,gS];refine(QjE.1 hP.nd).imp_of_mem fun {s t} hs ht qZ e=>qZ ?_
   unfold oH at e;by_cases e1:s=(a:Int)
   ·by_cases e2:t=(a:Int)
    ·rw[e1,e2]
    ·rw[dd e1,QcA e2]at e;exact absurd (e▸ht) LF
   ·by_cases e2:t=(a:Int)
    ·rw[QcA e1,dd e2]at e;exact absurd (e▸hs) LF
    ·rwa [QcA e1,QcA e2]at e
  ·obtain⟨t,ht,rfl⟩:=jd.1 (show s∈p.from_.map (oH a k)from hs);rw[sh];unfold oH;split
   ·have:=(List.getElem?_eq_some_iff.1 h.hb).1;omega
   ·exact hP.yW t ht
  ·show s∈p.from_.map (oH a k);have hsa:s≠(a:Int):=by rintro rfl;rw[t2]at hs;cases hs
   by_cases e:s=(k:Int)
   ·subst e;rw[t1]at hs;exact jd.2 ⟨(a:Int),hP.all _ hs,by unfold oH;rw[dd rfl]⟩
   ·rw[t3 s e hsa]at hs;exact jd.2 ⟨s,hP.all s hs,QcF hsa⟩
  ·have hs:(p.from_.map (oH a k))[j]?=some s:=hs;rw[List.getElem?_map,Jo]at hs;obtain⟨t,ht,rfl⟩:=hs;have htm:=Qcs ht;have Dz:=hS t htm;by_cases e:t=(a:Int)
   ·subst e;have h5:=hP.av j _ v ht hv h.ra Dz;unfold oH;rw[dd rfl];have hl:=h.len;exact QfE h (fun m _ h7 _=>oM) oM h5
   ·rw[QcF e]at hrs⊢;exact QeV h e (hrc hrs).1 (hP.av j t v ht hv (hrc hrs).1 Dz)
  ·obtain⟨t,ht,rfl⟩:=jd.1 (show s∈p.from_.map (oH a k)from hs);exact Hx t ht
 refine⟨⟨⟨hlv.2 ⟨hc.zero,fun e=>h.a0 e.symm⟩,fun z hz BB=> ?_,fun z hz BB=> ?_,fun s t ht=> ?_⟩,hg.name,hg.par,fun z hz=> ?_,fun s hs=> ?_,fun z hz i hi=> ?_,Qed h,fun z hz i hi v hv=> ?_,fun z hz hf=> ?_,fun n z hz hk j i hi v hv=> ?_,fun n z hz hk hf=> ?_,fun n z hz p hp=> ?_⟩,⟨fun t hl=> ?_,fun n z hz p hp s hs=> ?_⟩⟩
 ·obtain⟨i,hi⟩:=jF.1 hz;rw[sh];rcases who hi with⟨rfl,rfl⟩|⟨_,rfl,rfl⟩|⟨_,_,y,hy,rfl⟩
  ·exact hc.ends x (Qcs h.hx) h.xg
  ·cases BB
  ·exact hc.ends y (Qcs hy) BB
 ·obtain⟨i,hi⟩:=jF.1 hz;rcases who hi with⟨rfl,rfl⟩|⟨_,rfl,rfl⟩|⟨_,_,y,hy,rfl⟩
  ·rw[show(QeU (Qd6 a i b) x).gone=b.gone from rfl,h.bg]at BB;cases BB
  ·exact⟨rfl,rfl,rfl,rfl⟩
  ·obtain⟨h1,h2,h3,h4⟩:=hc.gone y (Qcs hy) BB;exact⟨by show y.ah.map _=[];rw[h1];rfl,h2,h3,h4⟩
 ·refine hlv.2 ?_;have hsa:s≠(a:Int):=by rintro rfl;rw[t2]at ht;cases ht
  by_cases e:s=(k:Int)
  ·subst e;rw[t1]at ht;exact⟨hc.vj _ _ ht,fun e=>hka ((h.src _ (e▸ht)).symm)⟩
  ·rw[t3 s e hsa]at ht;exact⟨hc.vj _ _ ht,fun e2=>e (h.src s (e2▸ht))⟩
 ·have Ij:a≠0:=by have:=h.a0;omega
  rcases who hz with⟨e,rfl⟩|⟨_,e,rfl⟩|⟨_,_,y,hy,rfl⟩
  ·show b.ah.map _=[];rw[hg.uJ b (by rw[e];exact h.hb)];rfl
  ·exact absurd e.symm Ij
  ·show y.ah.map _=[];rw[hg.uJ y hy];rfl
 ·have hsa:s≠(a:Int):=by rintro rfl;rw[t2]at hs;cases hs
  by_cases e:s=(k:Int)
  ·subst e;rw[t1]at hs;exact hg.QgM _ hs
  ·rw[t3 s e hsa]at hs;exact hg.QgM _ hs
 ·obtain⟨n,hn⟩:=jF.1 hz;rcases who hn with⟨rfl,rfl⟩|⟨_,rfl,rfl⟩|⟨_,_,y,hy,rfl⟩
  ·rcases QiU.1 (show i∈b.insts++x.insts from hi)with hi|hi
   ·exact hg.Xv b (Qcs h.hb) i hi
   ·exact hg.Xv x (Qcs h.hx) i hi
  ·cases hi
  ·exact hg.Xv y (Qcs hy) i hi
 ·obtain⟨n,hn⟩:=jF.1 hz;rcases who hn with⟨rfl,rfl⟩|⟨_,rfl,rfl⟩|⟨_,_,y,hy,rfl⟩
  ·rcases QiU.1 (show i∈b.insts++x.insts from hi)with hi|hi
   ·exact hg.iv b (Qcs h.hb) i hi v hv
   ·exact hg.iv x (Qcs h.hx) i hi v hv
  ·cases hi
  ·exact hg.iv y (Qcs hy) i hi v hv
 ·obtain⟨n,hn⟩:=jF.1 hz;rcases who hn with⟨rfl,rfl⟩|⟨_,rfl,rfl⟩|⟨_,_,y,hy,rfl⟩
  ·exact hg.fv x (Qcs h.hx) hf
  ·rcases hf with hf|⟨_,hf⟩
   ·have h9:(2:Int)=1:=hf;omega
   ·exact absurd (show(-1:Int)= -1 from rfl) hf
  ·exact hg.fv y (Qcs hy) hf
 ·have Qkj:=hrc hk;rcases who hz with⟨rfl,rfl⟩|⟨_,rfl,rfl⟩|⟨_,hna,y,hy,rfl⟩
  ·have hi:(b.insts++x.insts)[j]?=some i:=hi;by_cases hj:j<b.insts.length
   ·rw[List.getElem?_append_left hj]at hi;exact QeV h hka Qkj.1 (hg.ins n b h.hb Qkj.1 j i hi v hv)
   ·rw[List.getElem?_append_right oM]at hi;have h5:=hg.ins a x h.hx h.ra _ i hi v hv;exact QfE h (fun m _ _ h8=>oM) oM h5
  ·cases(show([]:List aO)[j]?=some i from hi)
  ·exact QeV h oM Qkj.1 (hg.ins n y hy Qkj.1 j i hi v hv)
 ·have Qkj:=hrc hk;rcases who hz with⟨rfl,rfl⟩|⟨_,rfl,rfl⟩|⟨_,hna,y,hy,rfl⟩
  ·have h5:=hg.fin a x h.hx h.ra hf;have hl:=h.len;exact QfE h (fun m _ h7 _=>oM) oM h5
  ·rcases hf with hf|⟨_,hf⟩
   ·have h9:(2:Int)=1:=hf;omega
   ·exact absurd (show(-1:Int)= -1 from rfl) hf
  ·exact QeV h oM Qkj.1 (hg.fin n y hy Qkj.1 hf)
 ·rcases who hz with⟨rfl,rfl⟩|⟨_,rfl,rfl⟩|⟨_,hna,y,hy,rfl⟩
  ·obtain⟨q,hq,rfl⟩:=jd.1 (show p∈b.ah.map (QeA a n)from hp);exact(VS h.hb hq h.ne).1
  ·cases hp
  ·obtain⟨q,hq,rfl⟩:=jd.1 (show p∈y.ah.map (QeA a k)from hp);exact(VS hy hq hna).1
 ·obtain⟨h1,h2⟩:=hlv.1 hl;exact(hct.bwd (h.tight.reach t h1)).1 h2
 ·rcases who hz with⟨rfl,rfl⟩|⟨_,rfl,rfl⟩|⟨_,hna,y,hy,rfl⟩
  ·obtain⟨q,hq,rfl⟩:=jd.1 (show p∈b.ah.map (QeA a n)from hp);exact(VS h.hb hq h.ne).2 s hs
  ·cases hp
  ·obtain⟨q,hq,rfl⟩:=jd.1 (show p∈y.ah.map (QeA a k)from hp);exact(VS hy hq hna).2 s hs
theorem Qkk(h:Jn nm pa va ks k a b x):hY (fK (rN ks k a x))=hY (fK ks):=by
 rw[vR,vR,sh];congr 1;have at_:∀{l:List gO} {i:Nat} {y:gO},l[i]?=some y→(l.map (fun x=>x.ah.length+x.insts.length))[i]?=some (y.ah.length+y.insts.length):=fun {l i y} hy=>by rw[List.getElem?_map,hy];rfl
 refine Qh9 h.ne (by rw[QjN,QjN,sh]) (at_ h.hb) (at_ h.hx) ?_ ?_ fun i CO ff=> ?_
 ·rw[at_ (rL h.hb)];unfold vn;rw[dd rfl];show some ((b.ah.map _).length+(b.insts++x.insts).length)=_;rw[QjN,rV,h.xp];simp;omega
 ·rw[at_ (rL h.hx)];unfold vn;rw[QcA (fun e=>h.ne e.symm),dd rfl];rfl
 ·cases hy:ks[i]? with
  |none=>
   have hl:=List.getElem?_eq_none_iff.1 hy;rw[List.getElem?_eq_none (by rw[QjN,sh];exact hl),List.getElem?_eq_none (by rw[QjN];exact hl)]
  |some y=>
   rw[at_ (rL hy),at_ hy];unfold vn;rw[QcA CO,QcA ff];show some ((y.ah.map _).length+_)=_;rw[QjN];rfl
end
end Go.Mor
namespace Go.Mor
open Go.RowKit
def QcG(σ:Int→Int)(p:vb):vb:={p with args:=p.args.map σ}
def QeZ(σ:Int→Int)(i:aO):aO:={i with args:=i.args.map σ}
def BC(σ:Int→Int)(x:gO):gO:={x with ah:=x.ah.map (QcG σ),insts:=x.insts.map (QeZ σ),v:=if xL x.e x.v then σ x.v else x.v}
def um(σ:Int→Int)(ks:List gO):List gO:=ks.map (BC σ)
section
variable {ks : List gO} {σ : Int → Int} {k a : Nat} {b x y : gO} {nm : ByteArray} {pa va : Int}
theorem Qbn(hx:ks[k]?=some x):(um σ ks)[k]?=some (BC σ x):=by unfold um;rw[List.getElem?_map,hx];rfl
theorem QfF(σ:Int→Int)(ks:List gO):tK (um σ ks)=tK ks:=by
 refine lJ ?_;unfold um;rw[Qcn,Qcn,Qcn];rfl
theorem Qly(hx:ks[a]?=some x)(l:List vb):tK (ks.set a {x with ah:=l})=tK ks:=by
 refine lJ ?_;rw[Qcn,Qcn];refine QdX fun i=> ?_
 rw[List.getElem?_map,List.getElem?_map,List.getElem?_set];have hl:=(List.getElem?_eq_some_iff.1 hx).1;by_cases e:a=i
 ·subst e;rw[dd rfl,dd hl,hx];rfl
 ·rw[QcA e]
theorem QgC(hx:ks[a]?=some x)(l:List vb):(ks.set a {x with ah:=l})[a]?=some {x with ah:=l}:=List.getElem?_set_self (List.getElem?_eq_some_iff.1 hx).1
theorem Qlz{p:vb}{ps:List vb}{d o:Int}(hx:ks[a]?=some x)(hd:p.dst=d)(hz:∀y,y∈ks→xL y.e y.v→0≤σ y.v)(UN:∀q,q∈ps→q.dst≠d)(hot:∀(i:Nat) (y:gO),i≠a→ks[i]?=some y→∀q,q∈y.ah→q.dst≠d):Lc d o (um σ (ks.set a {x with ah:=p::ps}))=um (link σ d o) (ks.set a {x with ah:=ps}):=by
 have hl:=(List.getElem?_eq_some_iff.1 hx).1;have hI:∀l:List aO,(l.map (QeZ σ)).map (QdM d o)=l.map (QeZ (link σ d o)):=fun l=>by
  rw[Qcn];refine Qch fun i _=> ?_
  show QdM d o (QeZ σ i)=QeZ (link σ d o) i;unfold QdM QeZ;simp only[Qcn];rfl
 have hP:∀l:List vb,(∀q,q∈l→q.dst≠d)→((l.map (QcG σ)).filter (fun p=>p.dst !=d)).map (QhD d o)=l.map (QcG (link σ d o)):=fun l hq=>by
  rw[QjO.2 fun q hm=>by obtain⟨r,hr,rfl⟩:=jd.1 hm;have:=hq r hr;show(r.dst !=d)=true;simpa using this,Qcn]
  refine Qch fun i _=> ?_
  show QhD d o (QcG σ i)=QcG (link σ d o) i;unfold QhD QcG;simp only[Qcn];rfl
 have hV:∀(e v:Int),(xL e v→0≤σ v)→(if xL e (if xL e v then σ v else v)then Qbm d o (if xL e v then σ v else v)else(if xL e v then σ v else v))=if xL e v then link σ d o v else v:=by
  intro e v h;by_cases hr:xL e v
  ·have h2:xL e (σ v):=by have h3:=h hr;unfold xL at hr⊢;omega
   simp only[dd hr,dd h2];rfl
  ·simp only[QcA hr]
 unfold Lc um;rw[Qcn];refine QdX fun i=> ?_
 rw[List.getElem?_map,List.getElem?_map,List.getElem?_set,List.getElem?_set];by_cases e:a=i
 ·subst e;rw[dd rfl,dd hl,dd rfl,dd hl];refine Qi9 some ?_;show Qez d o (BC σ {x with ah:=p::ps})=BC (link σ d o) {x with ah:=ps};unfold Qez BC;simp only[gO.mk.injEq,pQ,D2];refine⟨?_,hI _,hV _ _ (hz x (Qcs hx))⟩;rw[lR,Qjz,QcA (by show¬(p.dst !=d)=true;simp[hd])];exact hP ps UN
 ·rw[QcA e,QcA e];cases hy:ks[i]? with
  |none=>rfl
  |some y=>
   refine Qi9 some ?_;show Qez d o (BC σ y)=BC (link σ d o) y;unfold Qez BC;simp only[gO.mk.injEq,pQ,D2];exact⟨hP _ (hot i y (fun h=>e h.symm) hy),hI _,hV _ _ (hz y (Qcs hy))⟩
def stJ(σ:Int→Int)(p:vb):Int→Int:=link σ p.dst (σ (p.args.getD 0 0))
def Qkl(σ:Int→Int)(x:gO):Int→Int:=x.ah.foldl stJ σ
def Te(va v:Int):Prop:=0≤v∧v<va
structure LkQ(va:Int)(τ:Int→Int)(p:vb)(u:Int):Prop where
 args:p.args=[u]
 ur:Te va u
 d:Te va p.dst
 ne:τ u≠p.dst
 own:τ p.dst=p.dst
def Qc9(ks:List gO)(k a:Nat)(x:gO):List gO:=rN (ks.set a {x with ah:=[]}) k a {x with ah:=[]}
theorem QjU(h:ey pa va (bF (fK ks))){i:Nat}(hx:ks[a]?=some x)(hy:ks[i]?=some y){p q:vb}{m n:Nat}(hp:x.ah[m]?=some p)(hq:y.ah[n]?=some q)(e:p.dst=q.dst):a=i∧m=n:=by
 have h1:(p.dst,(a:Int),(-1:Int))∈bF (fK ks):=sq.2 ⟨a,x.f,K3 hx,rfl,.inl ⟨rfl,_,jd.2 ⟨p,Qcs hp,rfl⟩,rfl⟩⟩;have h2:(p.dst,(i:Int),(-1:Int))∈bF (fK ks):=sq.2 ⟨i,y.f,K3 hy,rfl,.inl ⟨rfl,_,jd.2 ⟨q,Qcs hq,rfl⟩,e.symm⟩⟩;have e1:=(xB h.2).2 h1;have e2:=(xB h.2).2 h2;rw[e1]at e2;injection e2 with e2;injection e2 with e2 _;have e3:a=i:=oM;subst e3;rw[hx]at hy;injection hy with hy;subst hy;refine⟨rfl,?_⟩;have hn:=h.2;rw[pf]at hn;have hs:(nu x.f).Nodup:=hn.sublist (Qeu (Qcs (K3 hx)));have hs:=(Tg.1 hs).1;have hs:((x.ah.map (fun p=>(⟨p.dst,none,0,p.args⟩:bI))).map (fun p=>p.dst)).Nodup:=hs;rw[Qcn]at hs;have g1:(x.ah.map ((fun p:bI=>p.dst)∘fun p=>(⟨p.dst,none,0,p.args⟩:bI)))[m]?=some p.dst:=by rw[List.getElem?_map,hp];rfl
 have g2:(x.ah.map ((fun p:bI=>p.dst)∘fun p=>(⟨p.dst,none,0,p.args⟩:bI)))[n]?=some p.dst:=by rw[List.getElem?_map,hq,e];rfl
 exact(List.getElem?_inj (List.getElem?_eq_some_iff.1 g1).1 hs).1 (g1.trans g2.symm)
theorem Qmr{ks:List gO}{k a:Nat}{p:vb}(hP:QhX pa va ks a p)(o8:∀s,s∈p.from_→s=(k:Int))(hk:(a:Int)∈tK ks (k:Int)):p.from_=[(k:Int)]∧∃v,p.args=[v]:=by
 have hm:=hP.all _ hk;have hf:p.from_=[(k:Int)]:=by
  match Mh:p.from_,hP.nd,o8,hm with
  |[],_,_,h=>cases h
  |[s],_,hi,_=>rw[hi s sI]
  |s::t::l,hn,hi,_=>
   have h1:=hi s sI;have h2:=hi t sI;rw[h1,h2]at hn;simp at hn
 refine⟨hf,Qms ?_⟩;rw[hP.len,hf];rfl
where Qms {l : List Int} (h : l.length = 1) : ∃ v, l = [v] := List.length_eq_one_iff.1 h
end
end Go.Mor
namespace Go.Mor
open Go.RowKit
section
variable {ks : List gO} {σ : Int → Int} {k a : Nat} {b x y : gO} {nm : ByteArray} {pa va : Int}
theorem QlA(hy:(um σ ks)[k]?=some y):∃x,ks[k]?=some x∧y=BC σ x:=by
 unfold um at hy;rw[List.getElem?_map,Jo]at hy;obtain⟨x,hx,rfl⟩:=hy;exact⟨x,hx,rfl⟩
theorem QhE(h:ks[a]?=some x)(cU:k≠a):rN (um σ ks) k a (BC σ x)=um σ (rN ks k a x):=by
 refine QdX fun i=> ?_
 cases hy:ks[i]? with
 |none=>
  have hl:=List.getElem?_eq_none_iff.1 hy;rw[List.getElem?_eq_none (by rw[sh];unfold um;rw[QjN];exact hl),List.getElem?_eq_none (by unfold um;rw[QjN,sh];exact hl)]
 |some y=>
  rw[rL (Qbn hy),Qbn (rL hy)];congr 1;have QlB:∀y:gO,Qd6 a k (BC σ y)=BC σ (Qd6 a k y):=fun y=>by unfold Qd6 BC;simp only[Qcn,gO.mk.injEq,pQ,D2];rfl
  unfold vn;by_cases e:i=k
  ·rw[dd e,dd e,QlB];unfold QeU BC;simp only[Qjy]
  ·rw[QcA e,QcA e];by_cases e2:i=a
   ·rw[dd e2,dd e2];unfold QgN BC;rfl
   ·rw[QcA e2,QcA e2,QlB]
theorem Ch.Qng{to:ar}{d v r u:Int}{k:Nat}(h:Ch to v r k)(hd:Ch to d d 0)(hr:r≠d):Ch (to.set d.toNat u) v r k:=by
 have Uy:=hd.lt;induction h with
 | @zero v h0 hv=>exact .zero h0 (by rw[List.getElem?_set_ne oM];exact hv)
 | @step v u r k h0 hv QlC hc ih=>
  have hvd:v≠d:=by
   rintro rfl;obtain⟨_,u',hu,h2⟩:=hd.get;rw[hv]at hu;injection hu with hu;subst hu;rcases h2 with⟨e,_,_⟩|⟨_,j,e,_⟩
   ·exact QlC e
   ·cases e
  exact .step h0 (by rw[List.getElem?_set_ne oM];exact hv) QlC (ih hr)
theorem Ch.QoV{to:ar}{d v r u s:Int}{k m:Nat}(h:Ch to v r k)(hr:r=d)(hd:Ch to d d 0)(hu:Ch (to.set d.toNat u) u s m)(cU:u≠d):∃n,Ch (to.set d.toNat u) v s n:=by
 have Uy:=hd.lt;induction h with
 | @zero v h0 hv=>
  subst hr;exact⟨m+1,.step h0 (by rw[List.getElem?_set_self oM]) cU hu⟩
 | @step v u' r k h0 hv QlC hc ih=>
  have hvd:v≠d:=by
   rintro rfl;obtain⟨_,w,hw,h2⟩:=hd.get;rw[hv]at hw;injection hw with hw;subst hw;rcases h2 with⟨e,_,_⟩|⟨_,j,e,_⟩
   ·exact QlC e
   ·cases e
  obtain⟨n,hn⟩:=ih hr;exact⟨n+1,.step h0 (by rw[List.getElem?_set_ne oM];exact hv) QlC hn⟩
theorem Le.put{va d u:Int}{D:Int→Prop}{to:ar}{σ:Int→Int}(h:Le va D to σ)(hd:D d)(hu:D u)(e:σ d=d)(cU:σ u≠d):Le va D (to.set d.toNat u) (link σ d (σ u)):=by
 have h1:=h.root hd e;have TL:u≠d:=by rintro rfl;exact cU e
 obtain⟨m,hm⟩:=h.ch u hu;have dY:=hm.Qng (u:=u) h1 cU;refine⟨by rw[u6];exact h.len,fun v hv=> ?_,fun v hv=> ?_⟩
 ·obtain⟨k,hk⟩:=h.ch v hv;unfold link;by_cases e2:σ v=d
  ·rw[dd e2];exact hk.QoV e2 h1 dY TL
  ·rw[QcA e2];exact⟨k,hk.Qng h1 e2⟩
 ·unfold link;split
  ·exact h.cl u hu
  ·exact h.cl v hv
theorem QjV(hx:ks[a]?=some x)(hk:k≠a)(h0:a≠0)(hs:∀s,(a:Int)∈tK ks s→s=(k:Int))(hka:(a:Int)∈tK ks (k:Int))(hzr:∀y,y∈ks→xL y.e y.v→Te va y.v):∀(ps:List vb) (σ:Int→Int),vU nm pa va (um σ (ks.set a {x with ah:=ps}))→EJ (um σ (ks.set a {x with ah:=ps}))→(∀v,Te va v→Te va (σ v))→(∀q,q∈ps→∀u,u∈q.args→Te va u)→(∀q,q∈ps→σ q.dst=q.dst)→(∀(i:Nat) (y:gO),i≠a→ks[i]?=some y→∀q,q∈y.ah→σ q.dst=q.dst)→vU nm pa va (um (ps.foldl stJ σ) (ks.set a {x with ah:=[]}))∧EJ (um (ps.foldl stJ σ) (ks.set a {x with ah:=[]}))∧(∀v,Te va v→Te va (ps.foldl stJ σ v))∧(∀(i:Nat) (y:gO),i≠a→ks[i]?=some y→∀q,q∈y.ah→ps.foldl stJ σ q.dst=q.dst)∧∀(j:Nat) (p:vb),ps[j]?=some p→∃u,LkQ va ((ps.take j).foldl stJ σ) p u
 |[],_,hg,ht,hz,_,_,hoy=>⟨hg,ht,hz,hoy,fun j p hj=>by simp at hj⟩
 |p::ps,σ,hg,ht,hz,Qoe,qf,hoy=>by
  rw[List.foldl_cons];have hT:tK (um σ (ks.set a {x with ah:=p::ps}))=tK ks:=by rw[QfF,Qly hx]
  have LM:=Qbn (σ:=σ) (QgC hx (p::ps));have hlv:mB (um σ (ks.set a {x with ah:=p::ps})) (a:Int):=hg.UT.vj (k:Int) _ (by rw[hT];exact hka);have IH:=ht.reach _ hlv;have YQ:Reach (tK (um σ (ks.set a {x with ah:=p::ps}))) (k:Int):=ht.reach _ (hg.UT.src (by rw[hT];exact hka));have nG:QcG σ p∈(BC σ {x with ah:=p::ps}).ah:=jd.2 ⟨p,en ..,rfl⟩;have hP:=hg.pK a _ LM _ nG;obtain⟨hf,v,hv⟩:=Qmr hP (fun s h=>hs s (by rw[←hT];exact ht.bS a _ LM _ nG s h)) (by rw[hT];exact hka);have Hn:p.args.map σ=[v]:=hv;obtain⟨u,hu,rfl⟩:∃u,p.args=[u]∧σ u=v:=by
   match hl:p.args with
   |[]=>rw[hl]at Hn;cases Hn
   |[u]=>rw[hl]at Hn;injection Hn with h1 _;exact⟨u,rfl,h1⟩
   |_::_::_=>rw[hl]at Hn;injection Hn with _ h1;cases h1
  have XT:=hP.av 0 (k:Int) (σ u) (by rw[hf];rfl) (by rw[hv];rfl) YQ (by rw[hT];exact hka);have ho:=Qmp hg (fun s h=>hs s (by rw[←hT];exact h)) h0 hk IH XT;have hd:(p.dst,(a:Int),(-1:Int))∈bF (fK (um σ (ks.set a {x with ah:=p::ps}))):=sq.2 ⟨a,_,K3 LM,rfl,.inl ⟨rfl,⟨p.dst,none,0,p.args.map σ⟩,jd.2 ⟨QcG σ p,nG,rfl⟩,rfl⟩⟩;have yy:σ u≠p.dst:=Qmq hg hd ho;have QU:=Qk1 hg ht hd ho;have X9:=hg.once.1 _ hd;have Ua:∀y,y∈ks→xL y.e y.v→0≤σ y.v:=fun y hy hr=>(hz _ (hzr y hy hr)).1
  have UN:∀q,q∈ps→q.dst≠p.dst:=fun q hq e=>by
   obtain⟨j,hj⟩:=jF.1 hq;have h1:(BC σ {x with ah:=p::ps}).ah[0]?=some (QcG σ p):=rfl;have h2:(BC σ {x with ah:=p::ps}).ah[j+1]?=some (QcG σ q):=by show((p::ps).map (QcG σ))[j+1]?=_;rw[List.getElem?_map,List.getElem?_cons_succ,hj];rfl
   have:=(QjU hg.once LM LM h1 h2 e.symm).2;omega
  have hot:∀(i:Nat) (y:gO),i≠a→ks[i]?=some y→∀q,q∈y.ah→q.dst≠p.dst:=fun i y hi hy q hq e=>by
   obtain⟨j,hj⟩:=jF.1 hq;have h1:(BC σ {x with ah:=p::ps}).ah[0]?=some (QcG σ p):=rfl;have hyi:(um σ (ks.set a {x with ah:=p::ps}))[i]?=some (BC σ y):=Qbn (by rw[List.getElem?_set_ne (fun e=>hi e.symm)];exact hy);have h2:(BC σ y).ah[j]?=some (QcG σ q):=by show(y.ah.map (QcG σ))[j]?=_;rw[List.getElem?_map,hj];rfl
   exact hi (QjU hg.once LM hyi h1 h2 e.symm).1.symm
  rw[Qlz hx rfl Ua UN hot]at QU;have e0:stJ σ p=link σ p.dst (σ u):=by unfold stJ;rw[hu];rfl
  have yE:∀q:vb,q.dst≠p.dst→σ q.dst=q.dst→link σ p.dst (σ u) q.dst=q.dst:=fun q h1 h2=>by unfold link;rw[h2,QcA h1]
  have hu1:Te va u:=Qoe p (en ..) u (by rw[hu];simp);rw[e0];obtain⟨g1,g2,g3,g4,g5⟩:=QjV hx hk h0 hs hka hzr ps (link σ p.dst (σ u)) QU.1 QU.2 (fun v hv=>by unfold link;split;exact hz u hu1;exact hz v hv) (fun q hq=>Qoe q (QiV _ hq)) (fun q hq=>yE q (UN q hq) (qf q (QiV _ hq))) (fun i y hi hy q hq=>yE q (hot i y hi hy q hq) (hoy i y hi hy q hq));refine⟨g1,g2,g3,g4,fun j r hj=> ?_⟩;cases j with
  |zero=>
   injection hj with hj;subst hj;refine⟨u,hu,hu1,⟨?_,X9.2⟩,yy,qf _ (en ..)⟩;have:=hg.par.1;have:=X9.1;show 0≤p.dst;have h9:pa≤p.dst:=this;omega
  |succ j=>
   rw[List.take_succ_cons,List.foldl_cons,e0];exact g5 j r hj
structure Qmt(ks:List gO)(k a:Nat)(b x:gO):Prop where
 hb:ks[k]?=some b
 hx:ks[a]?=some x
 bg:b.gone=false
 be:b.e=0
 ba:b.a=(a:Int)
 ne:k≠a
 src:∀s,(a:Int)∈tK ks s→s=(k:Int)
theorem QgD(σ:Int→Int)(ks:List gO):hY (fK (um σ ks))=hY (fK ks):=by
 rw[vR,vR];unfold um;rw[QjN,Qcn];congr 2;refine Qch fun x _=> ?_
 show(x.ah.map _).length+(x.insts.map _).length=_;rw[QjN,QjN]
theorem QlD(hx:ks[a]?=some x):hY (fK (ks.set a {x with ah:=[]}))≤hY (fK ks):=by
 rw[vR,vR,u6];have:=XV (f:=fun x:gO=>x.ah.length+x.insts.length) (g:=fun x:gO=>x.ah.length+x.insts.length) (l:=ks) (m:=ks.set a {x with ah:=[]}) ⟨by rw[u6],fun i y z hy hz=>by
  rw[List.getElem?_set]at hz;split at hz
  ·rename_i e;subst e;split at hz
   ·injection hz with hz;subst hz;rw[hx]at hy;injection hy with hy;subst hy;show 0+x.insts.length≤x.ah.length+x.insts.length;omega
   ·cases hz
  ·rw[hy]at hz;injection hz with hz;subst hz;exact Qjn _⟩
 omega
end
end Go.Mor
namespace Go.Mor
open Go.RowKit
structure JQ(nm:cV)(pa va:Int)(ks:List gO)(σ:Int→Int):Prop where
 UH:vU nm pa va (um σ ks)
 tight:EJ (um σ ks)
 sg:∀v,Te va v→Te va (σ v)
 own:∀y,y∈ks→∀q,q∈y.ah→σ q.dst=q.dst
 pr:∀y,y∈ks→∀q,q∈y.ah→∀u,u∈q.args→Te va u
 ir:∀y,y∈ks→∀i,i∈y.insts→∀u,u∈i.args→Te va u
 er:∀y,y∈ks→xL y.e y.v→Te va y.v
 size:(hY (fK ks):Int)≤20000
theorem Qe0{α:Type}{l:List α}{i:Nat}{x:α}(h:l[i]?=some x):l.set i x=l:=by
 refine QdX fun j=> ?_
 rw[List.getElem?_set];split
 ·rename_i e;subst e;rw[dd (List.getElem?_eq_some_iff.1 h).1,h]
 ·rfl
theorem QjW:∀(l:List Nat) (a:Nat),a∈l→a≤l.sum
 |[],a,h=>by cases h
 |b::l,a,h=>by
  rw[B5];rcases Qcx.1 h with h|h
  ·omega
  ·have:=QjW l a h;omega
theorem Qkm{l:List Nat}{k a u v:Nat}(cU:k≠a)(hk:l[k]?=some u)(ha:l[a]?=some v):u+v≤l.sum:=by
 have h1:=Qdb l k 0 hk;have h2:=QjW (l.set k 0) v (Qcs (i:=a) (by rw[List.getElem?_set_ne cU];exact ha));omega
section
variable {ks : List gO} {σ : Int → Int} {k a : Nat} {b x y : gO} {nm : ByteArray} {pa va : Int}
theorem JQ.live(h:JQ nm pa va ks σ){s t:Int}(ht:t∈tK ks s):mB ks t:=by
 obtain⟨i,z,rfl,hz,hg⟩:=h.UH.UT.vj s t (by rw[QfF];exact ht);obtain⟨x,hx,rfl⟩:=QlA hz;exact .mk' hx hg
theorem JQ.vj(h:JQ nm pa va ks σ)(hx:ks[k]?=some x):tK ks (k:Int)=wL x:=by
 have:=h.UH.UT.at_ (Qbn (σ:=σ) hx);rw[QfF]at this;rw[this];rfl
theorem Qmu(h:ks[a]?=some x){i:Nat}{y:gO}(hy:(ks.set a {x with ah:=[]})[i]?=some y):(i=a∧y={x with ah:=[]})∨(i≠a∧ks[i]?=some y):=by
 rw[List.getElem?_set]at hy;split at hy
 ·rename_i e;split at hy
  ·injection hy with hy;exact .inl ⟨e.symm,hy.symm⟩
  ·cases hy
 ·rename_i e;exact .inr ⟨fun h=>e h.symm,hy⟩
theorem QcH(hb:ks[k]?=some b)(hx:ks[a]?=some x)(cU:k≠a){i:Nat}{z:gO}(hz:(Qc9 ks k a x)[i]?=some z):(i=k∧z=QeU (Qd6 a k b) {x with ah:=[]})∨(i=a∧z=QgN x)∨(i≠k∧i≠a∧∃y,ks[i]?=some y∧z=Qd6 a k y):=by
 obtain⟨y,hy,rfl⟩:=Qeb hz;unfold vn;rcases Qmu hx hy with⟨rfl,rfl⟩|⟨hia,hy⟩
 ·rw[QcA (fun e=>cU e.symm),dd rfl];exact .inr (.inl ⟨rfl,rfl⟩)
 ·by_cases e:i=k
  ·subst e;rw[dd rfl];rw[hb]at hy;injection hy with hy;subst hy;exact .inl ⟨rfl,rfl⟩
  ·rw[QcA e,QcA hia];exact .inr (.inr ⟨e,hia,y,hy,rfl⟩)
theorem Qde(hb:ks[k]?=some b)(hx:ks[a]?=some x)(cU:k≠a):(Qc9 ks k a x)[k]?=some (QeU (Qd6 a k b) {x with ah:=[]}):=by
 have h:(ks.set a {x with ah:=[]})[k]?=some b:=by rw[List.getElem?_set_ne (fun e=>cU e.symm)];exact hb
 unfold Qc9;rw[rL h];unfold vn;rw[dd rfl]
theorem Qe1(hx:ks[a]?=some x)(cU:k≠a):(Qc9 ks k a x)[a]?=some (QgN x):=by
 unfold Qc9;rw[rL (QgC hx [])];unfold vn;rw[QcA (fun e=>cU e.symm),dd rfl];rfl
theorem Qe2{i:Nat}(hy:ks[i]?=some y)(ft:i≠k)(hia:i≠a):(Qc9 ks k a x)[i]?=some (Qd6 a k y):=by
 have h:(ks.set a {x with ah:=[]})[i]?=some y:=by rw[List.getElem?_set_ne (fun e=>hia e.symm)];exact hy
 unfold Qc9;rw[rL h];unfold vn;rw[QcA ft,QcA hia]
theorem QcI(ks:List gO)(k a:Nat)(x:gO):(Qc9 ks k a x).length=ks.length:=by
 unfold Qc9;rw[sh,u6]
theorem QhF(h:JQ nm pa va ks σ)(hc:Qmt ks k a b x):JQ nm pa va (Qc9 ks k a x) (Qkl σ x)∧∀(j:Nat) (p:vb),x.ah[j]?=some p→∃u,LkQ va ((x.ah.take j).foldl stJ σ) p u:=by
 have hka:(a:Int)∈tK ks (k:Int):=by rw[h.vj hc.hb];unfold wL;rw[dd hc.be,hc.ba];simp
 have Ij:a≠0:=by rintro rfl;exact h.UH.QgM (k:Int) (by rw[QfF];exact hka)
 have e0:ks.set a {x with ah:=x.ah}=ks:=Qe0 hc.hx;have pj:=Qcs hc.hx;have hbm:=Qcs hc.hb;obtain⟨g1,g2,g3,g4,g5⟩:=QjV hc.hx hc.ne Ij hc.src hka h.er x.ah σ (by rw[e0];exact h.UH) (by rw[e0];exact h.tight) h.sg (h.pr x pj) (h.own x pj) (fun i y _ hy=>h.own y (Qcs hy));have jv:=h.size;have Zw:=QlD hc.hx;have TH:(ks.set a {x with ah:=[]})[k]?=some b:=by rw[List.getElem?_set_ne (fun e=>hc.ne e.symm)];exact hc.hb
 have hjn:Jn nm pa va (um (Qkl σ x) (ks.set a {x with ah:=[]})) k a (BC (Qkl σ x) b) (BC (Qkl σ x) {x with ah:=[]}):=by
  refine⟨g1,g2,Qbn TH,Qbn (QgC hc.hx []),hc.bg,hc.be,hc.ba,hc.ne,rfl,fun s hs=>hc.src s ?_,?_⟩
  ·rw[QfF,Qly hc.hx]at hs;exact hs
  ·show(b.insts.map _).length+(x.insts.map _).length≤_;rw[QjN,QjN];have h1:=vR ks;have h2:(b.ah.length+b.insts.length)+(x.ah.length+x.insts.length)≤_:=Qkm (l:=ks.map (fun x=>x.ah.length+x.insts.length)) hc.ne (by rw[List.getElem?_map,hc.hb];rfl) (by rw[List.getElem?_map,hc.hx];rfl);omega
 have hm:=Qki hjn;rw[QhE (QgC hc.hx []) hc.ne]at hm;refine⟨⟨hm.1,hm.2,g3,fun y hy q hq=> ?_,fun y hy q hq=> ?_,fun y hy i hi=> ?_,fun y hy hr=> ?_,?_⟩,g5⟩
 ·obtain⟨i,hi⟩:=jF.1 hy;rcases QcH hc.hb hc.hx hc.ne hi with⟨rfl,rfl⟩|⟨rfl,rfl⟩|⟨_,h2,z,hz,rfl⟩
  ·obtain⟨r,hr,rfl⟩:=jd.1 (show q∈b.ah.map _ from hq);exact g4 i b hc.ne hc.hb r hr
  ·cases hq
  ·obtain⟨r,hr,rfl⟩:=jd.1 (show q∈z.ah.map _ from hq);exact g4 i z h2 hz r hr
 ·obtain⟨i,hi⟩:=jF.1 hy;rcases QcH hc.hb hc.hx hc.ne hi with⟨rfl,rfl⟩|⟨rfl,rfl⟩|⟨_,h2,z,hz,rfl⟩
  ·obtain⟨r,hr,rfl⟩:=jd.1 (show q∈b.ah.map _ from hq);exact h.pr b hbm r hr
  ·cases hq
  ·obtain⟨r,hr,rfl⟩:=jd.1 (show q∈z.ah.map _ from hq);exact h.pr z (Qcs hz) r hr
 ·obtain⟨n,hn⟩:=jF.1 hy;rcases QcH hc.hb hc.hx hc.ne hn with⟨rfl,rfl⟩|⟨rfl,rfl⟩|⟨_,h2,z,hz,rfl⟩
  ·rcases QiU.1 (show i∈b.insts++x.insts from hi)with hi|hi
   ·exact h.ir b hbm i hi
   ·exact h.ir x pj i hi
  ·cases hi
  ·exact h.ir z (Qcs hz) i hi
 ·obtain⟨n,hn⟩:=jF.1 hy;rcases QcH hc.hb hc.hx hc.ne hn with⟨rfl,rfl⟩|⟨rfl,rfl⟩|⟨_,h2,z,hz,rfl⟩
  ·exact h.er x pj hr
  ·exfalso;unfold xL at hr;have h1:(2:Int)=1∨((2:Int)=2∧(0:Int)≤-1):=hr;omega
  ·exact h.er z (Qcs hz) hr
 ·have h1:=Qkk hjn;rw[QhE (QgC hc.hx []) hc.ne,QgD,QgD]at h1;show(hY (fK (rN _ k a _)):Int)≤_;rw[h1];omega
end
end Go.Mor
namespace Go.Mor
open Go.RowKit
theorem Qht{x:gO}(h:x.e=0):wL x=[x.a]:=by unfold wL;rw[dd h]
theorem Qhu{x:gO}(h0:¬x.e=0)(h:x.e=1):wL x=[x.a,x.b]:=by unfold wL;rw[QcA h0,dd h]
theorem Qhv{x:gO}(h0:¬x.e=0)(h:¬x.e=1):wL x=[]:=by unfold wL;rw[QcA h0,QcA h]
theorem Qd9(x:gO):(wL x).length≤2:=by unfold wL;split;simp;split<;>simp
def QgT(N:Int)(x:gO):Prop:=x.gone=false→O9 N x
theorem Qea{N:Int}{x:gO}(h:O9 N x):(wL x).Nodup∧∀t,t∈wL x→0≤t∧t<N:=by
 unfold wL;rcases h with⟨e,h1,_⟩|⟨e,h1,h2,h3⟩|⟨e,_⟩|⟨e,_⟩
 ·rw[dd e];exact⟨sI,by intro t ht;rw[QcC.1 ht];exact h1⟩
 ·rw[QcA oM,dd e];refine⟨by simp[h3],?_⟩;intro t ht;rcases Qcx.1 ht with rfl|ht
  ·exact h1
  ·rw[QcC.1 ht];exact h2
 ·rw[QcA oM,QcA oM];exact⟨sI,sI⟩
 ·rw[QcA oM,QcA oM];exact⟨sI,sI⟩
def BL(ks:List gO)(n:Nat)(t:Int):ar:=((List.range n).filter (fun s=>match ks[s]? with
 |some x=> !x.gone&&(wL x).contains t
 |none=>false)).map (fun s:Nat=>(s:Int))
def QbC(ks:List gO)(n:Nat):List ar:=(List.range ks.length).map (fun t:Nat=>BL ks n (t:Int))
def QbD(ks:List gO)(n:Nat)(l:ar):List ar:=(List.range ks.length).map (fun t:Nat=>BL ks n (t:Int)++(if(t:Int)∈l then[(n:Int)]else[]))
def Qge(ks:List gO):List ar:=(List.range ks.length).map (fun t:Nat=>EU ks (t:Int))
section
variable {ks : List gO} {n : Nat} {x : gO}
theorem Qen(ks:List gO):QbC ks 0=List.replicate ks.length []:=by
 unfold QbC BL;simp only[List.range_zero,ep,Qi3];exact List.map_const' ..|>.trans (by rw[Qdc])
theorem Qe7(ks:List gO)(n:Nat):QbD ks n []=QbC ks n:=by
 unfold QbD QbC;refine Qch fun t _=> ?_
 simp
theorem Qca(hx:ks[n]?=some x)(t:Int):BL ks (n+1) t=BL ks n t++(if(!x.gone&&(wL x).contains t)=true then[(n:Int)]else[]):=by
 unfold BL;rw[lh,xH,Qjy];congr 1;rw[Qjz,hx];simp only[ep];split<;>rfl
theorem Qeo(hx:ks[n]?=some x)(hg:x.gone=true):QbC ks (n+1)=QbC ks n:=by
 unfold QbC;refine Qch fun t _=> ?_
 rw[Qca hx,hg];simp
theorem Qe8(hx:ks[n]?=some x)(hg:x.gone=false):QbD ks n (wL x)=QbC ks (n+1):=by
 unfold QbD QbC;refine Qch fun t _=> ?_
 rw[Qca hx,hg];congr 1;simp
theorem Qe9{l:ar}{t:Nat}(ht:t<ks.length)(hn:(t:Int)∉l):(QbD ks n l)[t]?=some (BL ks n (t:Int)):=by
 unfold QbD;rw[List.getElem?_map,List.getElem?_range ht];simp[hn]
theorem Qfa{l:ar}{t:Nat}(ht:t<ks.length)(_hn:(t:Int)∉l):(QbD ks n l).set t (BL ks n (t:Int)++[(n:Int)])=QbD ks n (l++[(t:Int)]):=by
 unfold QbD;refine QdX fun i=> ?_
 by_cases hi:i<ks.length
 ·by_cases e:t=i
  ·subst e;rw[List.getElem?_set_self (by simpa using ht),List.getElem?_map,List.getElem?_range ht];simp
  ·rw[List.getElem?_set_ne e,List.getElem?_map,List.getElem?_map,List.getElem?_range hi];have:¬(i:Int)=(t:Int):=oM;simp[this]
 ·rw[List.getElem?_eq_none (by simp;omega),List.getElem?_eq_none (by simp;omega)]
theorem Qdj(ks:List gO)(n:Nat)(t:Int):(BL ks n t).length≤n:=by
 unfold BL;rw[QjN];exact pX (Qjt _ _) sI
theorem Qfb(ks:List gO)(t:Int):(EU ks t).length≤ks.length:=Qdj ks ks.length t
theorem Qfc{t:Nat}(ht:t<ks.length):(Qge ks)[t]?=some (EU ks (t:Int)):=by
 unfold Qge;rw[List.getElem?_map,List.getElem?_range ht];rfl
theorem QgE(ks:List gO):(Qge ks).length=ks.length:=by simp[Qge]
theorem Qfd{l:ar}(hn:l.Nodup){j:Nat}{t:Int}(h:l[j]?=some t):t∉l.take j:=by
 intro hm;obtain⟨i,hi⟩:=jF.1 hm;have h1:i<j:=by have:=(List.getElem?_eq_some_iff.1 hi).1;rw[QjL]at this;omega
 rw[List.getElem?_take,dd h1]at hi;have:=(List.getElem?_inj (List.getElem?_eq_some_iff.1 hi).1 hn).1 (hi.trans h.symm);omega
end
def kpL(S:ar)(p:vb)(j:Nat):List (Int×Int):=((p.from_.zip p.args).take j).filter (fun q=>S.contains q.1)
section
variable {S : List Int} {p : vb} {j : Nat} {s a : Int}
theorem Qfe{l m:ar}(hs:l[j]?=some s)(ha:m[j]?=some a):(l.zip m)[j]?=some (s,a):=by
 rw[List.getElem?_zip_eq_some];exact⟨hs,ha⟩
theorem Qgf(hs:p.from_[j]?=some s)(ha:p.args[j]?=some a)(h:S.contains s=true):kpL S p (j+1)=kpL S p j++[(s,a)]:=by
 obtain⟨hk,he⟩:=List.getElem?_eq_some_iff.1 (Qfe hs ha);unfold kpL;rw[QjK hk,xH,he,Qjz,dd h];rfl
theorem QgU(hs:p.from_[j]?=some s)(ha:p.args[j]?=some a)(h:S.contains s=false):kpL S p (j+1)=kpL S p j:=by
 obtain⟨hk,he⟩:=List.getElem?_eq_some_iff.1 (Qfe hs ha);unfold kpL;rw[QjK hk,xH,he,Qjz,QcA (by rw[h];decide)];simp
theorem Qgg:(kpL S p j).length≤j:=by
 unfold kpL;exact pX (Qjt _ _) (by rw[QjL];omega)
theorem Qgh(hl:p.args.length=p.from_.length)(hj:p.from_.length≤j):ke S p=⟨p.dst,(kpL S p j).map (·.1),(kpL S p j).map (·.2)⟩:=by
 unfold ke kpL;rw[uK (by rw[List.length_zip];omega)]
end
def sm(S:ar)(p:vb)(j:Nat):ar:=(kpL S p j).map (·.1)
def zn(S:ar)(p:vb)(j:Nat):ar:=(kpL S p j).map (·.2)
section
variable {S : List Int} {p : vb} {j : Nat} {s a : Int}
theorem Qgi(hs:p.from_[j]?=some s)(ha:p.args[j]?=some a)(h:S.contains s=true):sm S p (j+1)=sm S p j++[s]∧zn S p (j+1)=zn S p j++[a]:=by
 unfold sm zn;rw[Qgf hs ha h];simp
theorem QgV(hs:p.from_[j]?=some s)(ha:p.args[j]?=some a)(h:S.contains s=false):sm S p (j+1)=sm S p j∧zn S p (j+1)=zn S p j:=by
 unfold sm zn;rw[QgU hs ha h];exact⟨rfl,rfl⟩
theorem Qgj:(sm S p j).length≤j∧(zn S p j).length=(sm S p j).length:=by
 unfold sm zn;rw[QjN,QjN];exact⟨Qgg,rfl⟩
end
theorem Qff:∀{l:List cI} {m:Nat} {p:cI},l[m]?=some p→∀(A1 A2:aX) (c1 c2:Nat) (f a:ar),((zc l).set (m*3+1) (vS A1 f.length c1)).set (m*3+2) (vS A2 a.length c2)=zc (l.set m ⟨p.dst,A1,c1,f,A2,c2,a⟩)
 |[],m,p,h,_,_,_,_,_,_=>by simp at h
 |q::l,0,p,h,A1,A2,c1,c2,f,a=>by injection h with h;subst h;rfl
 |q::l,m+1,p,h,A1,A2,c1,c2,f,a=>by
  have ih:=Qff (l:=l) (m:=m) h A1 A2 c1 c2 f a;have e:∀(q:cI) (l:List cI),zc (q::l)=q.cells++zc l:=fun _ _=>rfl
  rw[QdT,e,e,←ih,show(m+1)*3+1=q.cells.length+(m*3+1)by rw[xM];omega,show(m+1)*3+2=q.cells.length+(m*3+2)by rw[xM];omega];rw[Qjc _ _ oM,Qjc _ _ oM];simp
def Xr(ml:List Bool):Nat:=(ml.filter (fun b=> !b)).length
structure QbE(ks:List gO)(ml:List Bool)(o9:ar):Prop where
 len:ml.length=ks.length
 zero:ml.getD 0 false=true
 sub:∀t:Nat,ml.getD t false=true→Reach (tK ks) (t:Int)
 wy:∀t,t∈o9→0≤t∧t<(ks.length:Int)∧ml.getD t.toNat false=true
 cl:∀s:Nat,ml.getD s false=true→(s:Int)∈o9∨∀t:Int,t∈tK ks (s:Int)→ml.getD t.toNat false=true
structure QbF(ks:List gO)(b:Nat)(l:ar)(ml:List Bool)(o9:ar):Prop where
 len:ml.length=ks.length
 zero:ml.getD 0 false=true
 sub:∀t:Nat,ml.getD t false=true→Reach (tK ks) (t:Int)
 wy:∀t,t∈o9→0≤t∧t<(ks.length:Int)∧ml.getD t.toNat false=true
 at_:Reach (tK ks) (b:Int)
 done:∀t,t∈l→ml.getD t.toNat false=true
 cl:∀s:Nat,ml.getD s false=true→(s:Int)∈o9∨s=b∨∀t:Int,t∈tK ks (s:Int)→ml.getD t.toNat false=true
theorem Qdk:∀{ml:List Bool} {t:Nat},ml[t]?=some false→Xr (ml.set t true)+1=Xr ml
 |[],t,h=>by simp at h
 |b::ml,0,h=>by injection h with h;subst h;simp[Xr]
 |b::ml,t+1,h=>by
  have h1:=Qdk (ml:=ml) (t:=t) h;have key:∀l:List Bool,Xr (b::l)=Xr l+(if b then 0 else 1):=fun l=>by unfold Xr;cases b<;>simp
  rw[QdT,key,key];omega
section
variable {ks : List gO} {ml : List Bool} {o9 l : List Int} {b : Nat} {t : Int}
theorem QdK(ml:List Bool)(t s:Nat)(ht:t<ml.length):(ml.set t true).getD s false=true↔s=t∨ml.getD s false=true:=by
 rw[List.getD_eq_getElem?_getD,List.getElem?_set];by_cases e:t=s
 ·subst e;rw[dd rfl,dd ht];simp
 ·rw[QcA e,←List.getD_eq_getElem?_getD];exact⟨.inr,fun h=>h.resolve_left (fun e2=>e e2.symm)⟩
theorem QbE.start(hc:Pf ks):QbE ks ((List.replicate ks.length false).set 0 true) [0]:=by
 have h0:0<ks.length:=by obtain⟨i,x,_,hx,_⟩:=hc.zero;have:=(List.getElem?_eq_some_iff.1 hx).1;omega
 have key:∀s:Nat,((List.replicate ks.length false).set 0 true).getD s false=true→s=0:=by
  intro s h;rcases(QdK _ 0 s (by simpa using h0)).1 h with h|h
  ·exact h
  ·exfalso;rw[List.getD_eq_getElem?_getD,List.getElem?_replicate]at h;split at h<;>cases h
 have hz:((List.replicate ks.length false).set 0 true).getD 0 false=true:=(QdK _ 0 0 (by simpa using h0)).2 (.inl rfl);refine⟨sI,hz,fun t ht=> ?_,fun t ht=> ?_,fun s hs=> ?_⟩
 ·rw[key t ht];exact .zero
 ·rw[QcC.1 ht];exact⟨oM,oM,hz⟩
 ·rw[key s hs];exact .inl sI
theorem QbE.pop(h:QbE ks ml (o9++[(b:Int)])):QbF ks b [] ml o9:=by
 have hb:=h.wy (b:Int) sI;refine⟨h.len,h.zero,h.sub,fun t ht=>h.wy t (by simp[ht]),h.sub b (by simpa using hb.2.2),fun t ht=>(by cases ht),fun s hs=> ?_⟩;rcases h.cl s hs with h1|h1
 ·rcases QiU.1 h1 with h1|h1
  ·exact .inl h1
  ·exact .inr (.inl (by have:=QcC.1 h1;omega))
 ·exact .inr (.inr h1)
theorem QbF.old(h:QbF ks b l ml o9)(hm:ml.getD t.toNat false=true):QbF ks b (l++[t]) ml o9:=⟨h.len,h.zero,h.sub,h.wy,h.at_,fun s hs=>by
  rcases QiU.1 hs with hs|hs
  ·exact h.done s hs
  ·rw[QcC.1 hs];exact hm,h.cl⟩
theorem QbF.new(h:QbF ks b l ml o9)(ht:t∈tK ks (b:Int))(h0:0≤t)(h1:t<(ks.length:Int)):QbF ks b (l++[t]) (ml.set t.toNat true) (o9++[t]):=by
 have hl:=h.len;have hs:=fun s=>QdK ml t.toNat s oM
 have hr:Reach (tK ks) t:= .step h.at_ ht;refine⟨by simp[h.len],(hs 0).2 (.inr h.zero),fun s hm=> ?_,fun s hm=> ?_,h.at_,fun s hm=> ?_,fun s hm=> ?_⟩
 ·rcases(hs s).1 hm with e|e
  ·rw[e,QiT h0];exact hr
  ·exact h.sub s e
 ·rcases QiU.1 hm with hm|hm
  ·obtain⟨q1,q2,q3⟩:=h.wy s hm;exact⟨q1,q2,(hs _).2 (.inr q3)⟩
  ·rw[QcC.1 hm];exact⟨h0,h1,(hs _).2 (.inl rfl)⟩
 ·rcases QiU.1 hm with hm|hm
  ·exact(hs _).2 (.inr (h.done s hm))
  ·rw[QcC.1 hm];exact(hs _).2 (.inl rfl)
 ·rcases(hs s).1 hm with e|e
  ·exact .inl (by rw[e,QiT h0];simp)
  ·rcases h.cl s e with q|q|q
   ·exact .inl (by simp[q])
   ·exact .inr (.inl q)
   ·exact .inr (.inr fun u hu=>(hs _).2 (.inr (q u hu)))
theorem QbF.fin(h:QbF ks b l ml o9)(hl:tK ks (b:Int)=l):QbE ks ml o9:=⟨h.len,h.zero,h.sub,h.wy,fun s hs=>by
  rcases h.cl s hs with q|q|q
  ·exact .inl q
  ·exact .inr (by rw[q,hl];exact h.done)
  ·exact .inr q⟩
theorem QbE.done(h:QbE ks ml [])(hc:Pf ks)(t:Nat):ml.getD t false=true↔Reach (tK ks) (t:Int):=by
 refine⟨h.sub t,fun hr=> ?_⟩;have key:∀x:Int,Reach (tK ks) x→ml.getD x.toNat false=true:=by
  intro x hx;induction hx with
  |zero=>exact h.zero
  | @step x t hx ht ih=>
   obtain⟨i,z,rfl,_,_⟩:=Jw hc hx;rcases h.cl i (by simpa using ih)with q|q
   ·cases q
   ·exact q t ht
 simpa using key _ hr
end
theorem Qbu{w:World}{A:aX}{ad:Addr}{k:Nat}{gs:List bz}{x:bz}(h:(bo.rd A (jA gs)).holds w)(hA:A=some ad)(hx:gs[k]?=some x):w.cell? (ad.add (k*1))=some (vP (aZ x.g)):=bB h hA (by unfold jA;rw[List.getElem?_map,hx];rfl)
theorem Qgk(ml:List Bool):Xr ml≤ml.length:=Qjt _ _
def Qgl(x:bz):Prop:=x.ah.length≤20000∧∀p,p∈x.ah→p.args.length=p.from_.length∧p.from_.length≤20000
abbrev Oa(x:bz):bz:=⟨x.g,none,0,[],none,0,[],2,-1,x.a,x.b,true⟩
theorem QgW(x:bz):Qgl (Oa x):=⟨Qdv _,fun p hp=>(by cases hp)⟩
theorem Qhw{ks:List gO}{k:Nat}{x:bz}(hr:¬Reach (tK ks) (k:Int))(hg:x.gone=false):(Oa x).k=sj ks k x.k:=by
 unfold sj;rw[dd ⟨hr,hg⟩];rfl
theorem QgX{ks:List gO}{k:Nat}{x:bz}(h:¬(¬Reach (tK ks) (k:Int)∧x.gone=false)):x.k=sj ks k x.k:=by
 unfold sj;rw[QcA (show¬(¬Reach (tK ks) (k:Int)∧x.k.gone=false)from h)]
theorem Qcb{ks:List gO}{k:Nat}{x:gO}{tb tb':Bool}(hx:ks[k]?=some x)(h:tb=true↔∃(i:Nat) (x:gO),i<k∧ks[i]?=some x∧x.gone=false∧¬Reach (tK ks) (i:Int))(h':tb'=true↔tb=true∨(x.gone=false∧¬Reach (tK ks) (k:Int))):tb'=true↔∃(i:Nat) (x:gO),i<k+1∧ks[i]?=some x∧x.gone=false∧¬Reach (tK ks) (i:Int):=by
 rw[h',h];constructor
 ·rintro(⟨i,y,h1,h2⟩|h1)
  ·exact⟨i,y,oM,h2⟩
  ·exact⟨k,x,oM,hx,h1⟩
 ·rintro⟨i,y,h1,h2,h3⟩;by_cases e:i=k
  ·subst e;rw[hx]at h2;injection h2 with h2;subst h2;exact .inr h3
  ·exact .inl ⟨i,y,oM,h2,h3⟩
theorem Qfg{ks:List gO}{k:Nat}{tb:Bool}(hk:ks.length≤k)(h:tb=true↔∃(i:Nat) (x:gO),i<k∧ks[i]?=some x∧x.gone=false∧¬Reach (tK ks) (i:Int)):tb=sW ks:=by
 have h2:sW ks=true↔∃(i:Nat) (x:gO),ks[i]?=some x∧x.gone=false∧¬Reach (tK ks) (i:Int):=by unfold sW;exact @decide_eq_true_iff _ (Classical.propDecidable _)
 rw[xJ,h,h2];exact⟨fun⟨i,x,_,h⟩=>⟨i,x,h⟩,fun⟨i,x,h⟩=>⟨i,x,by have:=(List.getElem?_eq_some_iff.1 h.1).1;omega,h⟩⟩
theorem QdL{ks:List gO}(hc:Pf ks):∀x,x∈o1 ks→QgT (ks.length:Int) x:=by
 intro y hy hg;obtain⟨k,hk⟩:=jF.1 hy;obtain⟨x,hx⟩:=bu (l:=ks) (i:=k) (by rw[←BV ks];exact(List.getElem?_eq_some_iff.1 hk).1);rw[BM hx]at hk;injection hk with hk;subst hk;unfold sj at hg⊢;split at hg
 ·cases hg
 ·rename_i h;rw[QcA h];exact hc.ends x (Qcs hx) hg
theorem Qdl{ks hd:List gO}{k:Nat}{x y:gO}(hh:hd=(kg ks).take k)(hx:(o1 ks)[k]?=some x)(hy:y=K8 (EU (o1 ks) (k:Int)) x):hd++[y]=(kg ks).take (k+1):=by
 have h1:(kg ks)[k]?=some (K8 (EU (o1 ks) (k:Int)) x):=by unfold kg;rw[List.getElem?_map,List.getElem?_zipIdx,hx];simp
 obtain⟨hk,he⟩:=List.getElem?_eq_some_iff.1 h1;rw[QjK hk,he,hh,hy]
theorem Qfh{S:ar}{x:bz}{pd:List cI}{j:Nat}{p q:cI}(hp:x.ah[j]?=some p)(h:pd.map cI.k=(x.ah.take j).map (fun p=>ke S p.k))(hq:q.k=ke S p.k):(pd++[q]).map cI.k=(x.ah.take (j+1)).map (fun p=>ke S p.k):=by
 obtain⟨hk,he⟩:=List.getElem?_eq_some_iff.1 hp;rw[QjK hk,he,Qjy,Qjy,h];simp[hq]
theorem QcN{α:Type}{l pd:List α}{j:Nat}{p y:α}(hp:l[j]?=some p)(hl:pd.length=j):(pd++l.drop j).set j y=(pd++[y])++l.drop (j+1):=by
 rw[BW hp,Qjc _ _ oM,hl,QiN,xD];rfl
theorem Mem.Qhx{S:Nat→Prop}{w0 w:World}{a b c:bo}(h:Mem S w0 w [a,b,c]):Mem S w0 w [.pk [a,b,c]]:=Mem.pack (l:=[a,b,c]) (L:=[]) h
theorem Qbw{ks hd:List gO}{k:Nat}{x:gO}(hh:hd=(o1 ks).take k)(hx:ks[k]?=some x){y:gO}(hy:y=sj ks k x):hd++[y]=(o1 ks).take (k+1):=by
 obtain⟨hk,he⟩:=List.getElem?_eq_some_iff.1 (BM hx);rw[QjK hk,he,hh,hy]
end Go.Mor
namespace Go.Mor
open Go.RowKit
def Qof:gO:=⟨[],[],2,-1,0,0,true⟩
def bAt(ks:List gO)(k:Nat):gO:=ks.getD k Qof
structure JS where
 ks:List gO
 S:List ar
 sg:Int→Int
 t:Bool
def QfG(a k:Int)(l:ar)(S:List ar):List ar:=S.zipIdx.map (fun q=>if(q.2:Int)∈l then q.1.map (oH a k)else q.1)
theorem TI(a k:Int)(l:ar)(S:List ar):(QfG a k l S).length=S.length:=by simp[QfG]
theorem QcJ{a k:Int}{l:ar}{S:List ar}{t:Nat}{r:ar}(h:S[t]?=some r):(QfG a k l S)[t]?=some (if(t:Int)∈l then r.map (oH a k)else r):=by
 unfold QfG;rw[List.getElem?_map,List.getElem?_zipIdx,h];simp
def UO(s:JS)(k:Nat):Nat:=(bAt s.ks k).a.toNat
def I5(s:JS)(k:Nat):Prop:=(bAt s.ks k).gone=false∧(bAt s.ks k).e=0∧(s.S.getD (UO s k) []).length=1∧UO s k≠k∧(bAt s.ks (UO s k)).gone=false
instance (s : JS) (k : Nat) : Decidable (I5 s k) := by unfold I5; infer_instance
def doJ(s:JS)(k:Nat):JS:=⟨Qc9 s.ks k (UO s k) (bAt s.ks (UO s k)),QfG (UO s k) k (wL (bAt s.ks (UO s k))) s.S,Qkl s.sg (bAt s.ks (UO s k)),true⟩
def Ph:Nat→JS→Nat→JS
 |0,s,_=>s
 |f+1,s,k=>if I5 s k then Ph f (doJ s k) k else s
def lvN(ks:List gO):Nat:=(pP ks).length
def QfX(s:JS)(k:Nat):JS:=Ph (lvN s.ks+1) s k
def q6(ks:List gO):JS:=⟨ks,Qge ks,id,false⟩
def Qc6(ks:List gO)(n:Nat):JS:=(List.range n).foldl QfX (q6 ks)
def Qe4(ks:List gO):JS:=Qc6 ks ks.length
theorem UP(ks:List gO)(n:Nat):Qc6 ks (n+1)=QfX (Qc6 ks n) n:=by
 unfold Qc6;rw[lh,Qf3];rfl
section
variable {ks : List gO} {s : JS} {k a : Nat} {b x y : gO} {nm : ByteArray} {pa va : Int}
theorem Qf6(h:ks[k]?=some x):bAt ks k=x:=by unfold bAt;rw[List.getD_eq_getElem?_getD,h];rfl
theorem UQ(h:(bAt ks k).gone=false):ks[k]?=some (bAt ks k):=by
 unfold bAt at h⊢;rw[List.getD_eq_getElem?_getD]at h⊢;cases hx:ks[k]? with
 |none=>rw[hx]at h;cases h
 |some x=>rfl
theorem QkB(h:I5 s k):lvN (doJ s k).ks+1=lvN s.ks:=by
 obtain⟨h1,h2,_,cU,h5⟩:=h;have hb:=UQ h1;have hx:=UQ h5;unfold lvN;rw[Rk,Rk];have hk:(s.ks.map KW)[UO s k]?=some 1:=by rw[List.getElem?_map,hx];show some (KW _)=_;unfold KW;rw[h5];rfl
 have e:(doJ s k).ks.map KW=(s.ks.map KW).set (UO s k) 0:=by
  refine QdX fun i=> ?_
  rw[List.getElem?_map,List.getElem?_set];have hl:(doJ s k).ks.length=s.ks.length:=QcI ..;by_cases e:UO s k=i
  ·subst e;rw[dd rfl,dd (List.getElem?_eq_some_iff.1 hk).1];show((Qc9 _ _ _ _)[_]?).map _=_;rw[Qe1 hx (fun e=>cU e.symm)];rfl
  ·rw[QcA e,List.getElem?_map];show((Qc9 _ _ _ _)[_]?).map _=_;by_cases e2:k=i
   ·subst e2;rw[Qde hb hx (fun e=>cU e.symm),hb];rfl
   ·cases hy:s.ks[i]? with
    |none=>
     have:=List.getElem?_eq_none_iff.1 hy;rw[List.getElem?_eq_none (by rw[QcI];exact this)]
    |some y=>
     rw[Qe2 hy (fun h=>e2 h.symm) (fun h=>e h.symm)];rfl
 rw[e];have:=Qdb (s.ks.map KW) (UO s k) 0 hk;omega
theorem QjX:∀(n:Nat) (s:JS) (m k:Nat),lvN s.ks<n→lvN s.ks<m→Ph n s k=Ph m s k
 |0,_,_,_,h,_=>oM
 |_,_,0,_,_,h=>oM
 |n+1,s,m+1,k,hn,hm=>by
  unfold Ph;by_cases h:I5 s k
  ·rw[dd h,dd h];have:=QkB h;exact QjX n _ m k oM oM
  ·rw[QcA h,QcA h]
theorem Qmv(h:I5 s k):QfX (doJ s k) k=QfX s k:=by
 unfold QfX;have e:Ph (lvN s.ks+1) s k=Ph (lvN s.ks) (doJ s k) k:=by show(if _ then _ else _)=_;rw[dd h]
 have:=QkB h;rw[e];exact QjX _ _ _ _ oM oM
theorem Qf7(h:¬I5 s k):QfX s k=s:=by
 unfold QfX Ph;rw[QcA h]
structure JI(nm:cV)(pa va:Int)(n:Nat)(s:JS):Prop where
 q:JQ nm pa va s.ks s.sg
 len:s.ks.length=n
 sl:s.S.length=n
 rows:∀(t:Nat) (r:ar),s.S[t]?=some r→mB s.ks (t:Int)→∀c:Int,c∈r↔(t:Int)∈tK s.ks c
theorem JI.can{n:Nat}(h:JI nm pa va n s)(hc:I5 s k):Qmt s.ks k (UO s k) (bAt s.ks k) (bAt s.ks (UO s k)):=by
 obtain⟨h1,h2,h3,cU,h5⟩:=hc;have hb:=UQ h1;have hx:=UQ h5;have XR:tK s.ks (k:Int)=[(bAt s.ks k).a]:=by rw[h.q.vj hb];unfold wL;rw[dd h2]
 obtain⟨i,z,hi,_,_⟩:=h.q.live (s:=(k:Int)) (t:=(bAt s.ks k).a) (by rw[XR];simp);have ha:(bAt s.ks k).a=(UO s k:Int):=by unfold UO;omega
 refine⟨hb,hx,h1,h2,ha,fun e=>cU e.symm,fun c hc=> ?_⟩;obtain⟨r,hr⟩:=bu (l:=s.S) (i:=UO s k) (by rw[h.sl,←h.len];exact(List.getElem?_eq_some_iff.1 hx).1);have e:s.S.getD (UO s k) []=r:=by rw[List.getD_eq_getElem?_getD,hr];rfl
 rw[e]at h3;obtain⟨u,hu⟩:=List.length_eq_one_iff.1 h3;have h6:=(h.rows _ _ hr (.mk' hx h5) c).2 hc;have h7:=(h.rows _ _ hr (.mk' hx h5) (k:Int)).2 (by rw[XR,ha];simp);rw[hu]at h6 h7;rw[QcC.1 h6,QcC.1 h7]
theorem JI.step{n:Nat}(h:JI nm pa va n s)(hc:I5 s k):JI nm pa va n (doJ s k):=by
 have hq:=h.can hc;obtain⟨g1,_⟩:=QhF h.q hq;refine⟨g1,by rw[←h.len];exact QcI ..,(TI ..).trans h.sl,fun t r hr hlv c=> ?_⟩;obtain⟨r0,Fc⟩:=bu (l:=s.S) (i:=t) (by have:=(List.getElem?_eq_some_iff.1 hr).1;rwa [show(doJ s k).S.length=s.S.length from TI ..]at this);obtain⟨hta,Va⟩:(t:Int)≠(UO s k:Int)∧mB s.ks (t:Int):=by
  obtain⟨i,z,hi,hz,BB⟩:=hlv;have:t=i:=oM;subst this;rcases QcH hq.hb hq.hx hq.ne hz with⟨rfl,rfl⟩|⟨_,rfl⟩|⟨_,h2,y,hy,rfl⟩
  ·exact⟨by have:=hq.ne;omega,.mk' hq.hb hq.bg⟩
  ·cases BB
  ·exact⟨oM,.mk' hy BB⟩
 have h0:=h.rows t r0 Fc Va;have hr:r=r0.map (oH (UO s k) k):=by
  have h1:(doJ s k).S[t]?=_:=QcJ Fc;rw[h1]at hr;injection hr with hr;rw[←hr];split
  ·rfl
  ·rename_i hnt;refine((Qch fun c hc=> ?_).trans (Qbi r0)).symm;refine QcF fun e=>hnt ?_
   rw[e]at hc;have:=(h0 _).1 hc;rwa [h.q.vj hq.hx]at this
 subst hr;have hka:(UO s k:Int)∈tK s.ks (k:Int):=by rw[h.q.vj hq.hb];unfold wL;rw[dd hq.be,hq.ba];simp
 have htk:tK s.ks (k:Int)=[(UO s k:Int)]:=by rw[h.q.vj hq.hb];unfold wL;rw[dd hq.be,hq.ba]
 have t1:tK (doJ s k).ks (k:Int)=tK s.ks (UO s k:Int):=by exact(g1.vj (Qde hq.hb hq.hx hq.ne)).trans (h.q.vj hq.hx).symm
 have t2:tK (doJ s k).ks (UO s k:Int)=[]:=by refine(g1.vj (Qe1 hq.hx hq.ne)).trans ?_;unfold wL QgN;rw[QcA (show¬(2:Int)=0 by omega),QcA (show¬(2:Int)=1 by omega)]
 have t3:∀c:Int,c≠(k:Int)→c≠(UO s k:Int)→tK (doJ s k).ks c=tK s.ks c:=by
  intro c h1 h2;by_cases hr:0≤c∧c<(s.ks.length:Int)
  ·obtain⟨y,hy⟩:=bu (l:=s.ks) (i:=c.toNat) oM;have e:c=(c.toNat:Int):=oM;rw[e,h.q.vj hy];have h9:=g1.vj (Qe2 (k:=k) (a:=UO s k) (x:=bAt s.ks (UO s k)) hy oM oM);exact h9
  ·have h3:tK s.ks c=[]:=uI (by rw[QeC];omega);have h4:tK (doJ s k).ks c=[]:=uI (by rw[QeC,show(doJ s k).ks.length=s.ks.length from QcI ..];omega);rw[h3,h4]
 have cU:(k:Int)≠(UO s k:Int):=by have:=hq.ne;omega
 constructor
 ·intro hm;obtain⟨d,hd,rfl⟩:=jd.1 hm;have Vm:=(h0 d).1 hd;by_cases e:d=(UO s k:Int)
  ·subst e;unfold oH;rw[dd rfl,t1];exact Vm
  ·rw[QcF e];by_cases e2:d=(k:Int)
   ·subst e2;rw[htk]at Vm;exact absurd (QcC.1 Vm) hta
   ·rw[t3 d e2 e];exact Vm
 ·intro hm;by_cases e2:c=(k:Int)
  ·subst e2;rw[t1]at hm;exact jd.2 ⟨_,(h0 _).2 hm,by unfold oH;rw[dd rfl]⟩
  ·by_cases e:c=(UO s k:Int)
   ·subst e;rw[t2]at hm;cases hm
   ·rw[t3 c e2 e]at hm;exact jd.2 ⟨c,(h0 c).2 hm,QcF e⟩
structure JE(n:Nat)(ks:List gO)(m:Nat)(s:JS):Prop where
 lv:lvN s.ks+(if s.t then 1 else 0)≤lvN ks
 no:s.t=false→s=q6 ks∧∀k,k<m→¬I5 (q6 ks) k
theorem QhG{n:Nat}{ks:List gO}{k:Nat}:∀(f:Nat) (s:JS),JI nm pa va n s→lvN s.ks+(if s.t then 1 else 0)≤lvN ks→JI nm pa va n (Ph f s k)∧lvN (Ph f s k).ks+(if(Ph f s k).t then 1 else 0)≤lvN ks∧((Ph f s k).t=false→Ph f s k=s∧(0<f→¬I5 s k))
 |0,s,h,h2=>⟨h,h2,fun _=>⟨rfl,fun h=>absurd h (Nat.lt_irrefl 0)⟩⟩
 |f+1,s,h,h2=>by
  unfold Ph;by_cases hc:I5 s k
  ·rw[dd hc];have h3:=QkB hc;obtain⟨q1,q2,q3⟩:=QhG (ks:=ks) (k:=k) f (doJ s k) (h.step hc) (by show _+(if true=true then 1 else 0)≤_;rw[dd rfl];omega);refine⟨q1,q2,fun h4=> ?_⟩;have:=(q3 h4).1;rw[this]at h4;cases h4
  ·rw[QcA hc];exact⟨h,h2,fun _=>⟨rfl,fun _=>hc⟩⟩
theorem QhQ{n:Nat}{ks:List gO}(h:JI nm pa va n (q6 ks)):∀m,JI nm pa va n (Qc6 ks m)∧JE n ks m (Qc6 ks m)
 |0=>⟨h,⟨Qjn _,fun _=>⟨rfl,fun k hk=>absurd hk (zF _)⟩⟩⟩
 |m+1=>by
  obtain⟨h1,h2⟩:=QhQ h m;rw[UP];obtain⟨q1,q2,q3⟩:=QhG (ks:=ks) (k:=m) (lvN (Qc6 ks m).ks+1) _ h1 h2.lv;refine⟨q1,q2,fun ht=> ?_⟩;obtain⟨e,hn⟩:=q3 ht;have oQ:(Qc6 ks m).t=false:=by rw[←e];exact ht
  obtain⟨e2,h4⟩:=h2.no oQ;refine⟨e.trans e2,fun k hk=> ?_⟩;by_cases hkm:k<m
  ·exact h4 k hkm
  ·have:k=m:=oM;subst this;rw[←e2];exact hn (Nat.succ_pos _)
theorem Qkn(ks:List gO):um id ks=ks:=by
 unfold um;refine(Qch fun x _=> ?_).trans (Qbi ks);show BC id x=x;unfold BC;have e1:x.ah.map (QcG id)=x.ah:=(Qch fun p _=>by show QcG id p=p;unfold QcG;rw[Qbi]).trans (List.map_id' _);have e2:x.insts.map (QeZ id)=x.insts:=(Qch fun p _=>by show QeZ id p=p;unfold QeZ;rw[Qbi]).trans (List.map_id' _);rw[e1,e2];split<;>rfl
theorem QgI(hc:Pf ks){t c:Int}:c∈EU ks t↔t∈tK ks c:=by
 rw[QeW];constructor
 ·rintro⟨i,x,rfl,hx,_,ht⟩;rw[hc.at_ hx];exact ht
 ·intro ht;obtain⟨i,x,rfl,hx,hg⟩:=hc.src ht;rw[hc.at_ hx]at ht;exact⟨i,x,rfl,hx,hg,ht⟩
theorem QgJ(hg:vU nm pa va ks)(ht:EJ ks)(jv:(hY (fK ks):Int)≤20000):JI nm pa va ks.length (q6 ks):=by
 refine⟨⟨by rw[show(q6 ks).ks=ks from rfl,show(q6 ks).sg=id from rfl,Qkn];exact hg,by rw[show(q6 ks).ks=ks from rfl,show(q6 ks).sg=id from rfl,Qkn];exact ht,fun v h=>h,fun _ _ _ _=>rfl,fun y hy q hq u hu=> ?_,fun y hy i hi u hu=>hg.iv y hy i hi u hu,fun y hy hr=> ?_,jv⟩,rfl,QgE ks,fun t r hr _ c=> ?_⟩
 ·obtain⟨k,hk⟩:=jF.1 hy;exact(hg.pK k y hk q hq).QbQ u hu
 ·exact hg.fv y hy (by unfold xL at hr;omega)
 ·have hl:=(List.getElem?_eq_some_iff.1 hr).1;have hr:(Qge ks)[t]?=some r:=hr;rw[Qfc (by rw[show(q6 ks).S=Qge ks from rfl,QgE]at hl;exact hl)]at hr;injection hr with hr;subst hr;exact QgI hg.UT
end
end Go.Mor
namespace Go.Mor
open Go.RowKit
def W1(n:Nat)(key:Nat→Int):List Nat:=(List.range n).mergeSort (fun i j=>decide (key i≤key j))
theorem Qd7(n:Nat)(key:Nat→Int):jY n key (W1 n key):=by
 refine⟨List.mergeSort_perm _ _,?_⟩;have h:=List.pairwise_mergeSort (le:=fun i j=>decide (key i≤key j)) (fun a b c h1 h2=>by simp only[QcD]at*;omega) (fun a b=>by simp only[QiZ,QcD];omega) (List.range n);exact h.imp fun h=>nF h
def toP(nl:ar)(p:vb):bI:=⟨p.dst,none,0,(W1 p.from_.length (rJ nl p.from_)).map (fun i=>p.args.getD i 0)⟩
def toBl(nl:ar)(x:gO):ay:=⟨none,0,x.ah.map (toP nl),none,0,x.insts,x.e,x.v,toA nl x.e x.a,toBb nl x.e x.b⟩
def toF(ks:List gO):List ay:=(pP ks).map (toBl (ve (nh ks)))
theorem qF.map{α β:Type}{R:α→β→Prop}{f:α→β}{l:List α}(h:∀a,a∈l→R a (f a)):qF R l (l.map f):=by
 refine⟨by rw[QjN],fun i a b ha hb=> ?_⟩;rw[List.getElem?_map,ha]at hb;injection hb with hb;rw[←hb];exact h a (Qcs ha)
theorem Qf8{ks:List gO}(he:sP ks):Yi ks (toF ks):=qF.map fun x hx=>by
 have yk:x∈ks:=(Qjr.1 hx).1;exact⟨qF.map fun p _=>⟨rfl,_,Qd7 _ _,rfl⟩,he x yk,rfl,rfl,rfl,rfl⟩
theorem Qdf{n:Nat}{key:Nat→Int}{l m:List Nat}(h1:jY n key l)(h2:jY n key m)(hi:∀i j,i<n→j<n→key i=key j→i=j):l=m:=by
 have up:∀{l:List Nat},jY n key l→(l.map key).Pairwise (·<·):=by
  intro l h;rw[gS];have hn:l.Nodup:=h.1.nodup_iff.2 Qhq;have h3:l.Pairwise (fun i j=>key i≤key j∧i≠j):=h.2.and hn;refine h3.imp_of_mem fun {a b} ha hb hq=> ?_
  have nQ:=Qi4.1 (h.1.mem_iff.1 ha);have Co:=Qi4.1 (h.1.mem_iff.1 hb);have cU:key a≠key b:=fun e=>hq.2 (hi a b nQ Co e)
  have:=hq.1;omega
 have e:l.map key=m.map key:=Qdy (up h1) (up h2) fun a=>by simp only[jd];exact⟨fun⟨i,h3,h4⟩=>⟨i,h2.1.mem_iff.2 (h1.1.mem_iff.1 h3),h4⟩,fun⟨i,h3,h4⟩=>⟨i,h1.1.mem_iff.2 (h2.1.mem_iff.1 h3),h4⟩⟩
 refine QdX fun i=> ?_
 have e1:=Qi9 (fun l:ar=>l[i]?) e;simp only[List.getElem?_map]at e1;cases hl:l[i]? with
 |none=>rw[hl]at e1;cases hm:m[i]? with
  |none=>rfl
  |some b=>rw[hm]at e1;cases e1
 |some a=>rw[hl]at e1;cases hm:m[i]? with
  |none=>rw[hm]at e1;cases e1
  |some b=>
   rw[hm]at e1;injection e1 with e1;rw[hi a b (Qi4.1 (h1.1.mem_iff.1 (Qcs hl))) (Qi4.1 (h2.1.mem_iff.1 (Qcs hm))) e1]
section
variable {ks : List gO} {fs fd fe : List ay} {kn : KN} {nm : ByteArray} {pa va : Int}
theorem Qf9(hg:vU nm pa va ks)(Dz:EJ ks)(h1:Yi ks fd)(h2:Yi ks fe):ec fd fe:=by
 have hc:=hg.UT;unfold ec;refine QdX fun j=> ?_
 rw[List.getElem?_map,List.getElem?_map];by_cases hj:j<fd.length
 ·obtain⟨y,hy⟩:=bu (l:=fd) hj;obtain⟨i,x,hx,uC,YO,hb⟩:=BJ h1 hy;obtain⟨z,hz,tP⟩:=Qc1 h2 hx uC;rw[YO]at hz;rw[hy,hz,s9,s9];congr 1;unfold ay.e0;rw[hb.insts,tP.insts,hb.e,tP.e,hb.v,tP.v,hb.a,tP.a,hb.b,tP.b];have hp:y.ah.map bI.e0=z.ah.map bI.e0:=by
   refine QdX fun m=> ?_
   rw[List.getElem?_map,List.getElem?_map];by_cases hm:m<x.ah.length
   ·obtain⟨p,hp⟩:=bu (l:=x.ah) hm;obtain⟨q,hq,hd,il,hs,ha⟩:=hb.ah.fwd hp;obtain⟨q2,Xe,Vm,il2,N9,yX⟩:=tP.ah.fwd hp;have hP:=hg.pK i x hx p (Qcs hp);have LM:∀i,i<p.from_.length→p.from_[i]?=some (p.from_.getD i 0):=fun i hi=>by rw[List.getD_eq_getElem?_getD,List.getElem?_eq_getElem hi];rfl
    have e:=Qdf hs N9 fun a b ha hb he=>by have la:=hc.src (Dz.bS i x hx p (Qcs hp) _ (Qcs (LM a ha)));have lb:=hc.src (Dz.bS i x hx p (Qcs hp) _ (Qcs (LM b hb)));have e1:p.from_.getD a 0=p.from_.getD b 0:=D9 la lb he;have h6:=LM a ha;rw[e1,←LM b hb]at h6;exact(List.getElem?_inj ha hP.nd).1 h6
    rw[hq,Xe];unfold bI.e0;simp only[s9];rw[hd,Vm,ha,yX,e]
   ·rw[List.getElem?_eq_none (by rw[←hb.ah.1];omega),List.getElem?_eq_none (by rw[←tP.ah.1];omega)]
  rw[hp]
 ·rw[List.getElem?_eq_none oM,List.getElem?_eq_none (by rw[←h2.1,h1.1];omega)]
theorem Qd8(fs:List ay):sP (lN fs):=by
 intro x hx;obtain⟨k,hk⟩:=jF.1 hx;obtain⟨y,_,rfl⟩:=F4 rfl hk;show(y.insts.map aO.e0).map aO.e0=y.insts.map aO.e0;rw[Qcn];rfl
theorem Qga(gx:pL fs):Xq (lN fs):=by
 intro x hx;obtain⟨k,hk⟩:=jF.1 hx;obtain⟨y,hy,rfl⟩:=F4 rfl hk;have h:=gx y (Qcs hy);refine⟨fun i hi=> ?_,h.e,h.v,h.a,h.b,fun p hp=> ?_⟩
 ·obtain⟨j,hj,rfl⟩:=jd.1 (show i∈y.insts.map aO.e0 from hi);have:=h.insts j hj;exact⟨this.op,this.dst,this.n,this.name,this.len,this.args⟩
 ·obtain⟨q,hq,rfl⟩:=jd.1 (show p∈y.ah.map _ from hp);exact(h.ah q hq).dst
theorem Qb9:∀{l m:List Nat},l.Nodup→(∀a,a∈l→a∈m)→l.length≤m.length
 |[],_,_,_=>Qdv _
 |a::l,m,hn,h=>by
  obtain⟨h1,h2⟩:=QiR.1 hn;have ha:=h a (en ..);have:=Qb9 (l:=l) (m:=m.erase a) h2 fun b hb=>(List.mem_erase_of_ne (fun e=>h1 (by rw[←e];exact hb))).2 (h b (QiV _ hb))
  rw[List.length_erase_of_mem ha]at this;have:=QdG ha;rw[je];omega
theorem Qem:∀{l:ar} {n:Nat},l.Nodup→(∀a,a∈l→0≤a∧a<(n:Int))→l.length≤n:=by
 intro l n hn hr;have h1:(l.map Int.toNat).Nodup:=by
  rw[QjE,gS];refine hn.imp_of_mem fun {a b} ha hb Hl e=>Hl ?_
  have:=(hr a ha).1;have:=(hr b hb).1;omega
 have h2:∀a,a∈l.map Int.toNat→a∈List.range n:=fun a ha=>by obtain⟨b,hb,rfl⟩:=jd.1 ha;have:=hr b hb;exact Qi4.2 oM
 have:=Qb9 h1 h2;rwa [QjN,Qdc]at this
theorem VB(hg:vU nm pa va ks){k:Nat}{x:gO}(hx:ks[k]?=some x){p:vb}(hp:p∈x.ah):p.from_.length≤ks.length:=by
 have hP:=hg.pK k x hx p hp;exact Qem hP.nd hP.yW
theorem QgS(hg:vU nm pa va ks)(hi:Xq ks)(kx:va≤20000)(jv:(hY (fK ks):Int)≤20000):pL (toF ks):=by
 have hs:=vR ks;have ZJ:=hg.par;have RM:∀(l:List Nat) (a:Nat),a∈l→a≤l.sum:=by
  intro l;induction l with
  |nil=>intro a h;cases h
  |cons b l ih=>
   intro a h;rw[B5];rcases Qcx.1 h with h|h
   ·omega
   ·have:=ih a h;omega
 have hN:ks.length≤20000:=oM;have Qhr:∀v:Int,0≤v→v≤1000000→In64 v:=fun v h0 h1=>⟨oM,oM⟩
 intro y hy;obtain⟨x,hx,rfl⟩:=jd.1 hy;have yk:x∈ks:=(Qjr.1 hx).1;obtain⟨k,hk⟩:=jF.1 yk;have hl:=RM _ _ (jd.2 ⟨x,yk,rfl⟩:(fun x:gO=>x.ah.length+x.insts.length) x∈ks.map (fun x=>x.ah.length+x.insts.length));have LG:x.ah.length+x.insts.length≤20000:=by have:x.ah.length+x.insts.length≤(ks.map (fun x=>x.ah.length+x.insts.length)).sum:=hl;omega
 obtain⟨h0,h1,h2,h3,h4,h5⟩:=hi x yk;have NJ:∀a:Int,In64 ((ve (nh ks)).getD a.toNat 0):=fun a=>by have:=Jj (nh ks) a.toNat (by rw[xP];omega);exact Qhr _ this.1 this.2
 refine⟨?_,fun p hp=> ?_,?_,fun i hi=> ?_,h1,h2,?_,?_⟩
 ·show gY (x.ah.map _).length;rw[QjN];unfold gY;omega
 ·obtain⟨q,hq,rfl⟩:=jd.1 (show p∈x.ah.map _ from hp);have hP:=hg.pK k x hk q hq;have hqs:=VB hg hk hq;refine⟨h5 q hq,?_,fun a ha=> ?_⟩
  ·show gY ((W1 _ _).map _).length;rw[QjN,(Qd7 _ _).1.length_eq,Qdc];unfold gY;omega
  ·obtain⟨i,_,rfl⟩:=jd.1 (show a∈(W1 _ _).map _ from ha);rw[List.getD_eq_getElem?_getD];cases Xe:q.args[i]? with
   |none=>exact Fa
   |some b=>
    have:=hP.QbQ b (Qcs Xe);exact Qhr _ this.1 (by show b≤_;omega)
 ·show gY x.insts.length;unfold gY;omega
 ·exact h0 i hi
 ·show In64 (toA _ x.e x.a);unfold toA;split
  ·exact NJ _
  ·split
   ·exact h3
   ·exact Fa
 ·show In64 (toBb _ x.e x.b);unfold toBb;split
  ·exact NJ _
  ·exact Fa
end
end Go.Mor
namespace Go.Mor
open Go.RowKit
def QfH(i:aO):Int:=i.args.getD 0 0
def ckQ(kn:KN)(i:aO):Bool:=i.op==11&&XU kn (QfH i)
def flQ(kn:KN)(i:aO):Bool:=ckQ kn i&&qv kn (QfH i)==0
def pq(kn:KN)(l:List aO):List aO:=l.filter (fun i=> !ckQ kn i)
def nAt(l:List aO)(j:Nat):Int:=match l[j]? with
 |some i=>i.n
 |none=>0
def Qe5(kn:KN)(x:gO):gO:=match x.insts.findIdx? (flQ kn)with
 |some j=>{x with insts:=pq kn (x.insts.take j),e:=3,v:=0,a:=nAt x.insts j,b:=0}
 |none=>{x with insts:=pq kn x.insts}
def Qbp(kn:KN)(ks:List gO):List gO:=ks.map (Qe5 kn)
def Ds(kn:KN)(ks:List gO):Bool:=(sX ks).any (ckQ kn)
def Qc7(l:List aO)(v:Int):Prop:=∃i,i∈l∧i.op=11∧QfH i=v
def nU(ks:List gO)(k:Nat)(v:Int):Prop:=∃(a:Nat) (y:gO),ks[a]?=some y∧a≠k∧Qc7 y.insts v∧Dm (tK ks) (a:Int) (k:Int)
def QdS(Q:Int→Prop)(l:List aO)(j:Nat):Prop:=∃i,l[j]?=some i∧i.op=11∧(Q (QfH i)∨Qc7 (l.take j) (QfH i))
noncomputable def gH(Q:Int→Prop)(l:List aO)(j:Nat):Bool:=@decide (QdS Q l j) (Classical.propDecidable _)
def lj{α:Type}(P:Nat→Bool)(l:List α)(j:Nat):List α:=(((l.take j).zipIdx).filter (fun q=> !P q.2)).map (·.1)
noncomputable def agB(ks:List gO)(k:Nat)(x:gO):gO:={x with insts:=lj (gH (nU ks k) x.insts) x.insts x.insts.length}
noncomputable def agK(ks:List gO):List gO:=ks.zipIdx.map (fun q=>agB ks q.2 q.1)
noncomputable def agT(ks:List gO):Bool:=@decide (∃(k:Nat) (x:gO) (j:Nat),ks[k]?=some x∧QdS (nU ks k) x.insts j) (Classical.propDecidable _)
section
variable {α : Type} {P : Nat → Bool} {l : List α} {j : Nat} {x : α}
theorem QgO:lj P l 0=[]:=rfl
theorem Xg(hx:l[j]?=some x):lj P l (j+1)=lj P l j++(if P j then[]else[x]):=by
 obtain⟨hj,he⟩:=List.getElem?_eq_some_iff.1 hx;unfold lj;rw[QjK hj,List.zipIdx_append,xH,Qjy,he];congr 1;rw[QjL,Qds oM];show List.map (·.1) (List.filter _ [(x,0+j)])=_;rw[Qgu];cases h:P j<;>simp[h]
theorem QhR(hx:l[j]?=some x)(h:P j=false):lj P l (j+1)=lj P l j++[x]:=by rw[Xg hx,h];rfl
theorem QgP(hx:l[j]?=some x)(h:P j=true):lj P l (j+1)=lj P l j:=by rw[Xg hx,h];simp
theorem QcK(h:∀i,i<j→P i=false)(hj:j≤l.length):lj P l j=l.take j:=by
 induction j with
 |zero=>simp[QgO]
 |succ j ih=>
  obtain⟨x,hx⟩:=bu (l:=l) (i:=j) oM;obtain⟨hk,he⟩:=List.getElem?_eq_some_iff.1 hx;rw[QhR hx (h j oM),ih (fun i hi=>h i oM) oM,QjK hk,he]
theorem Qk2{β:Type}(f:α→β):lj P (l.map f) j=(lj P l j).map f:=by
 by_cases hj:j≤l.length
 ·induction j with
  |zero=>rfl
  |succ j ih=>
   obtain⟨x,hx⟩:=bu (l:=l) (i:=j) oM;rw[Xg hx,Xg (x:=f x) (by rw[List.getElem?_map,hx];rfl),ih oM,Qjy];split<;>rfl
 ·unfold lj;rw[uK (by rw[QjN];omega),uK oM,List.zipIdx_map,NI,Qcn,Qcn];rfl
end
theorem Dr.filter(kn:KN)(l:List aO):Dr l (pq kn l):=by
 induction l with
 |nil=>exact .nil
 |cons i l ih=>
  unfold pq;rw[Qjz];by_cases h:ckQ kn i=true
  ·rw[h];refine .drop ?_ ih;unfold ckQ at h;simp only[Qjo,Js]at h;exact h.1
  ·rw[dd (by simpa using h)];exact .keep ih
theorem Dr.said(Q:Int→Prop)(l:List aO):∀j,j≤l.length→Dr (l.take j) (lj (gH Q l) l j)
 |0,_=>by rw[QgO];simpa using Dr.nil
 |j+1,hj=>by
  obtain⟨x,hx⟩:=bu (l:=l) (i:=j) oM;obtain⟨hk,he⟩:=List.getElem?_eq_some_iff.1 hx;rw[Xg hx,QjK hk,he];refine(Dr.said Q l j oM).app ?_;by_cases h:gH Q l j=true
  ·rw[dd h];obtain⟨i,hi,ho,_⟩:=(@decide_eq_true_iff _ (Classical.propDecidable _)).1 h;rw[hx]at hi;injection hi with hi;subst hi;exact .drop ho .nil
  ·rw[QcA h];exact .keep .nil
section
variable {ks ms : List gO} {kn : KN} {nm : ByteArray} {pa va : Int}
theorem Qmw{x:gO}(hs:∀i,i∈x.insts→bJ i)(hg:x.gone=true→x.insts=[]):Tb x (Qe5 kn x):=by
 unfold Qe5;split
 ·rename_i j hj;obtain⟨h1,h2,_⟩:=List.findIdx?_eq_some_iff_getElem.1 hj;have hi:x.insts[j]?=some x.insts[j]:=List.getElem?_eq_getElem h1;refine⟨rfl,rfl,.inr ⟨?_,⟨x.insts.take j,x.insts.drop j,(xK ..).symm,Dr.filter kn _⟩,rfl,?_,rfl,rfl⟩⟩
  ·cases h:x.gone with
   |false=>rfl
   |true=>rw[hg h]at h1;cases h1
  ·show cN (nAt x.insts j);unfold nAt;rw[hi];have h3:=(hs _ (Qi7 h1)).2;have h4:x.insts[j].op=11:=by unfold flQ ckQ at h2;simp only[Qjo,Js]at h2;exact h2.1.1
   show cN x.insts[j].n;rw[h4]at h3;rcases h3 with h|h|h|h|h|h|h|h|h|h|h<;>first|exact h.2.1|omega
 ·exact⟨rfl,rfl,.inl ⟨Dr.filter kn _,rfl,rfl,rfl,rfl⟩⟩
theorem Qbs(h:vU nm pa va ks):qF Tb ks (Qbp kn ks):=by
 refine⟨by unfold Qbp;rw[QjN],fun k x y hx hy=> ?_⟩;unfold Qbp at hy;rw[List.getElem?_map,hx]at hy;injection hy with hy;subst hy;have hm:=Qcs hx;exact Qmw (h.Xv x hm) fun hg=>(h.UT.gone x hm hg).2.1
theorem QgQ{k:Nat}{x:gO}(hx:ks[k]?=some x):(agK ks)[k]?=some (agB ks k x):=by
 unfold agK;rw[List.getElem?_map,List.getElem?_zipIdx,hx];simp
theorem Qe6(ks:List gO):(agK ks).length=ks.length:=by simp[agK]
theorem QdA(ks:List gO):qF Tb ks (agK ks):=by
 refine⟨(Qe6 ks).symm,fun k x y hx hy=> ?_⟩;rw[QgQ hx]at hy;injection hy with hy;subst hy;have:=Dr.said (nU ks k) x.insts x.insts.length (Qjn _);rw[Qcg]at this;exact⟨rfl,rfl,.inl ⟨this,rfl,rfl,rfl,rfl⟩⟩
theorem Cl{Q:Int→Prop}{l:List aO}{j:Nat}:gH Q l j=true↔QdS Q l j:=@decide_eq_true_iff _ (Classical.propDecidable _)
theorem QcL:agT ks=true↔∃(k:Nat) (x:gO) (j:Nat),ks[k]?=some x∧QdS (nU ks k) x.insts j:=@decide_eq_true_iff _ (Classical.propDecidable _)
theorem Qmx(h:agT ks=false):agK ks=ks:=by
 refine QdX fun k=> ?_
 cases hx:ks[k]? with
 |none=>rw[List.getElem?_eq_none (by rw[Qe6];exact List.getElem?_eq_none_iff.1 hx)]
 |some x=>
  rw[QgQ hx];have:lj (gH (nU ks k) x.insts) x.insts x.insts.length=x.insts:=by
   rw[QcK (fun i _=> ?_) (Qjn _),Qcg];cases h2:gH (nU ks k) x.insts i with
   |false=>rfl
   |true=>rw[QcL.2 ⟨k,x,i,hx,Cl.1 h2⟩]at h;cases h
  unfold agB;rw[this]
theorem QlE(h:Ds kn ks=false):Qbp kn ks=ks:=by
 unfold Qbp;refine(Qch fun x hx=> ?_).trans (Qbi ks);have h1:∀i,i∈x.insts→ckQ kn i=false:=fun i hi=>by unfold Ds at h;have:=vA.1 h i (pZ.2 ⟨x,hx,hi⟩);simpa using this
 have h2:x.insts.findIdx? (flQ kn)=none:=by rw[List.findIdx?_eq_none_iff];intro i hi;unfold flQ;rw[h1 i hi];rfl
 have h3:pq kn x.insts=x.insts:=QjO.2 fun i hi=>by rw[h1 i hi];rfl
 show Qe5 kn x=x;unfold Qe5;rw[h2,h3]
def iN(ks:List gO):Nat:=(ks.map (fun x=>x.insts.length)).sum
theorem QlF(h:qF Tb ks ms):lvN ms=lvN ks:=by
 unfold lvN;rw[Rk,Rk];congr 1;exact(h.map_eq fun x y _ _ hb=>by unfold KW;rw[hb.gone]).symm
theorem QjZ(h:qF Tb ks ms):hY (fK ms)≤hY (fK ks):=by
 rw[vR,vR,h.1];have:=XV (f:=fun x:gO=>x.ah.length+x.insts.length) (g:=fun x:gO=>x.ah.length+x.insts.length) (h.imp fun _ _ h=>by have:=h.sub.length_le;rw[h.ah];omega);omega
theorem Qnx(h:vU nm pa va ks)(ht:Ds kn ks=true):iN (Qbp kn ks)<iN ks:=by
 unfold Ds at ht;obtain⟨i,hi,hc⟩:=Qju.1 ht;obtain⟨x,hx,hi⟩:=pZ.1 hi;obtain⟨k,hk⟩:=jF.1 hx;have hcu:=Qbs (kn:=kn) h;have u9:(Qbp kn ks)[k]?=some (Qe5 kn x):=by unfold Qbp;rw[List.getElem?_map,hk];rfl
 refine Qd5 (hcu.imp fun _ _ h=>h.sub.length_le) hk u9 ?_;show(Qe5 kn x).insts.length<x.insts.length;have hf:∀l:List aO,i∈l→(pq kn l).length<l.length:=fun l hl=>by
  unfold pq;refine Nat.lt_of_le_of_ne (Qjt _ _) fun e=> ?_
  have:=Qcm.1 e i hl;rw[hc]at this;cases this
 unfold Qe5;split
 ·rename_i j hj;obtain⟨h1,_⟩:=List.findIdx?_eq_some_iff_getElem.1 hj;show(pq kn (x.insts.take j)).length<_;have h2:(pq kn (x.insts.take j)).length≤j:=pX (Qjt _ _) (by rw[QjL];omega);omega
 ·exact hf _ hi
theorem Qog(ht:agT ks=true):iN (agK ks)<iN ks:=by
 obtain⟨k,x,j,hx,hs⟩:=QcL.1 ht;refine Qd5 ((QdA ks).imp fun _ _ h=>h.sub.length_le) hx (QgQ hx) ?_;show(lj _ x.insts x.insts.length).length<x.insts.length;unfold lj;rw[QjN,Qcg];have hl:x.insts.zipIdx.length=x.insts.length:=List.length_zipIdx;have Mj:=hs;obtain⟨i,hi,_⟩:=hs;refine Nat.lt_of_le_of_ne (by have:=Qjt (fun q:aO×Nat=> !gH (nU ks k) x.insts q.2) x.insts.zipIdx;omega) fun e=> ?_
 have:=Qcm.1 (e.trans hl.symm) (i,j) (mem_zipIdx.2 hi);have h9:(!gH (nU ks k) x.insts j)=true:=this;rw[Cl.2 Mj]at h9;cases h9
theorem Qj0(ks:List gO):iN (kg ks)≤iN ks:=XV ((T1 ks).imp fun _ _ h=>h.1)
theorem QlG(h:sW ks=true):lvN (kg ks)<lvN ks:=by
 unfold lvN;rw[Rk,Rk];unfold sW at h;obtain⟨k,x,hx,hg,hr⟩:=(@decide_eq_true_iff _ (Classical.propDecidable _)).1 h;refine Qd5 ((T1 ks).imp fun _ _ h=>h.2.2.2) hx (tn hx) ?_;unfold sj;rw[dd ⟨hr,hg⟩];show(0:Nat)<KW x;unfold KW;rw[hg];decide
end
end Go.Mor
namespace Go.Mor
open Go.RowKit
def jnK(ks:List gO):List gO:=um (Qe4 ks).sg (Qe4 ks).ks
def jnT(ks:List gO):Bool:=(Qe4 ks).t
def wT(ks:List gO):Nat:=iN ks+lvN ks
noncomputable def Qbj(n:Nat):Nat→List gO→List gO
 |0,ks=>ks
 |f+1,ks=>if Ds (qN ks n) ks=true then Qbj n f (Qbp (qN ks n) ks)else if sW ks=true then Qbj n f (kg ks)else if jnT (kg ks)=true then Qbj n f (jnK (kg ks))else if agT (kg ks)=true then Qbj n f (agK (kg ks))else kg ks
noncomputable def Rm(n:Nat)(ks:List gO):List gO:=Qbj n (wT ks+1) ks
theorem QfJ{P:JS→Prop}(hs:∀s k,I5 s k→P s→P (doJ s k)){ks:List gO}(h0:P (q6 ks)):P (Qe4 ks):=by
 have hI:∀(f:Nat) (s:JS) (k:Nat),P s→P (Ph f s k):=by
  intro f;induction f with
  |zero=>intro s k h;exact h
  |succ f ih=>
   intro s k h;unfold Ph;split
   ·rename_i hc;exact ih _ k (hs s k hc h)
   ·exact h
 have hT:∀m,P (Qc6 ks m):=by
  intro m;induction m with
  |zero=>exact h0
  |succ m ih=>rw[UP];exact hI _ _ _ ih
 exact hT _
section
variable {ks : List gO} {nm : ByteArray} {pa va : Int}
theorem Qib{s:JS}{k:Nat}(h:I5 s k):s.ks[k]?=some (bAt s.ks k)∧s.ks[UO s k]?=some (bAt s.ks (UO s k))∧k≠UO s k:=⟨UQ h.1,UQ h.2.2.2.2,fun e=>h.2.2.2.1 e.symm⟩
theorem Qoh{s:JS}{k:Nat}(h:I5 s k):iN (doJ s k).ks=iN s.ks:=by
 obtain⟨hb,hx,cU⟩:=Qib h;refine Qh9 cU (by rw[QjN,QjN];exact QcI ..) (by rw[List.getElem?_map,hb];rfl) (by rw[List.getElem?_map,hx];rfl) ?_ ?_ fun i h1 h2=> ?_
 ·rw[List.getElem?_map];show((Qc9 _ _ _ _)[k]?).map _=_;rw[Qde hb hx cU];show some ((bAt s.ks k).insts++(bAt s.ks (UO s k)).insts).length=_;rw[rV]
 ·rw[List.getElem?_map];show((Qc9 _ _ _ _)[UO s k]?).map _=_;rw[Qe1 hx cU];rfl
 ·rw[List.getElem?_map,List.getElem?_map];show((Qc9 _ _ _ _)[i]?).map _=_;cases hy:s.ks[i]? with
  |none=>rw[List.getElem?_eq_none (by rw[QcI];exact List.getElem?_eq_none_iff.1 hy)]
  |some y=>rw[Qe2 hy h1 h2];rfl
theorem Qoi{s:JS}{k:Nat}(h:I5 s k)(he:sP s.ks):sP (doJ s k).ks:=by
 obtain⟨hb,hx,cU⟩:=Qib h;intro z hz;obtain⟨i,hi⟩:=jF.1 hz;rcases QcH hb hx cU hi with⟨_,rfl⟩|⟨_,rfl⟩|⟨_,_,y,hy,rfl⟩
 ·show((bAt s.ks k).insts++(bAt s.ks (UO s k)).insts).map _=_;rw[Qjy,he _ (Qcs hb),he _ (Qcs hx)];rfl
 ·rfl
 ·exact he y (Qcs hy)
theorem Qoj{s:JS}{k:Nat}(h:I5 s k)(he:Xq s.ks):Xq (doJ s k).ks:=by
 obtain⟨hb,hx,cU⟩:=Qib h;obtain⟨b0,b1,b2,b3,b4,b5⟩:=he _ (Qcs hb);obtain⟨x0,x1,x2,x3,x4,x5⟩:=he _ (Qcs hx);intro z hz;obtain⟨i,hi⟩:=jF.1 hz;rcases QcH hb hx cU hi with⟨_,rfl⟩|⟨_,rfl⟩|⟨_,_,y,hy,rfl⟩
 ·refine⟨fun i hi=> ?_,x1,x2,x3,x4,fun p hp=> ?_⟩
  ·rcases QiU.1 (show i∈(bAt s.ks k).insts++(bAt s.ks (UO s k)).insts from hi)with h|h
   ·exact b0 i h
   ·exact x0 i h
  ·obtain⟨q,hq,rfl⟩:=jd.1 (show p∈(bAt s.ks k).ah.map _ from hp);exact b5 q hq
 ·exact⟨(by intro i hi;cases hi),⟨by show(-9223372036854775808:Int)≤2;omega,by show(2:Int)≤9223372036854775807;omega⟩,⟨by show(-9223372036854775808:Int)≤-1;omega,by show(-1:Int)≤9223372036854775807;omega⟩,x3,x4,(by intro p hp;cases hp)⟩
 ·obtain⟨y0,y1,y2,y3,y4,y5⟩:=he _ (Qcs hy);refine⟨y0,y1,y2,y3,y4,fun p hp=> ?_⟩;obtain⟨q,hq,rfl⟩:=jd.1 (show p∈y.ah.map _ from hp);exact y5 q hq
theorem Qny(σ:Int→Int)(h:sP ks):sP (um σ ks):=by
 intro z hz;obtain⟨x,hx,rfl⟩:=jd.1 (show z∈ks.map (BC σ)from hz);show(x.insts.map (QeZ σ)).map aO.e0=x.insts.map (QeZ σ);have h2:=Qi9 (List.map (QeZ σ)) (h x hx);rw[Qcn]at h2⊢;exact h2
theorem Qnz(σ:Int→Int)(ks:List gO):iN (um σ ks)=iN ks:=by
 unfold iN um;rw[Qcn];congr 1;exact Qch fun x _=>by show(x.insts.map _).length=_;rw[QjN]
theorem QnA(σ:Int→Int)(ks:List gO):lvN (um σ ks)=lvN ks:=by
 unfold lvN;rw[Rk,Rk];unfold um;rw[Qcn];rfl
theorem QkC{u:Int}(kx:va≤20000)(h:Te va u):In64 u:=by
 unfold Te at h;unfold In64;omega
theorem QnB{σ:Int→Int}(kx:va≤20000)(hq:JQ nm pa va ks σ)(h:Xq ks):Xq (um σ ks):=by
 intro z hz;obtain⟨x,hx,rfl⟩:=jd.1 (show z∈ks.map (BC σ)from hz);obtain⟨x0,x1,x2,x3,x4,x5⟩:=h x hx;refine⟨fun i hi=> ?_,x1,?_,x3,x4,fun p hp=> ?_⟩
 ·obtain⟨j,hj,rfl⟩:=jd.1 (show i∈x.insts.map _ from hi);have h0:=x0 j hj;refine⟨h0.op,h0.dst,h0.n,h0.name,by show gY (j.args.map σ).length;rw[QjN];exact h0.len,fun u hu=> ?_⟩;obtain⟨w,hw,rfl⟩:=jd.1 (show u∈j.args.map σ from hu);exact QkC kx (hq.sg w (hq.ir x hx j hj w hw))
 ·show In64 (if xL x.e x.v then σ x.v else x.v);split
  ·rename_i hr;exact QkC kx (hq.sg _ (hq.er x hx hr))
  ·exact x2
 ·obtain⟨q,hq,rfl⟩:=jd.1 (show p∈x.ah.map _ from hp);exact x5 q hq
structure TrQ(nm:cV)(pa va:Int)(ks:List gO):Prop where
 UH:vU nm pa va ks
 size:(hY (fK ks):Int)≤20000
theorem TrQ.knw(h:TrQ nm pa va ks)(kn:KN):TrQ nm pa va (Qbp kn ks):=by
 have h1:=QjZ (Qbs (kn:=kn) h.UH);exact⟨QjR h.UH (Qbs h.UH),by have:=h.size;omega⟩
theorem TrQ.prune(h:TrQ nm pa va ks):TrQ nm pa va (kg ks):=by
 have h1:=Po ks;exact⟨(yn h.UH).1,by have:=h.size;omega⟩
theorem TrQ.ag(h:TrQ nm pa va ks):TrQ nm pa va (agK ks):=by
 have h1:=QjZ (QdA ks);exact⟨QjR h.UH (QdA ks),by have:=h.size;omega⟩
theorem Qgb(h:TrQ nm pa va ks)(ht:EJ ks):JI nm pa va ks.length (Qe4 ks)∧JE ks.length ks ks.length (Qe4 ks):=QhQ (QgJ h.UH ht h.size) ks.length
theorem TrQ.join(h:TrQ nm pa va ks)(ht:EJ ks):TrQ nm pa va (jnK ks)∧EJ (jnK ks)∧(jnK ks).length=ks.length:=by
 obtain⟨h1,_⟩:=Qgb h ht;refine⟨⟨h1.q.UH,?_⟩,h1.q.tight,?_⟩
 ·unfold jnK;rw[QgD];exact h1.q.size
 ·unfold jnK um;rw[QjN,h1.len]
theorem Qmy(h:TrQ nm pa va ks)(ht:EJ ks)(hj:jnT ks=true):lvN (jnK ks)<lvN ks:=by
 obtain⟨_,h2⟩:=Qgb h ht;have h3:=h2.lv;unfold jnT at hj;unfold jnK;rw[QnA];rw[hj,dd rfl]at h3;omega
theorem Qmz(ks:List gO):iN (jnK ks)=iN ks:=by
 unfold jnK;rw[Qnz];exact QfJ (P:=fun s=>iN s.ks=iN ks) (fun s k hc h=>(Qoh hc).trans h) rfl
theorem QkD(h:TrQ nm pa va ks)(ht:EJ ks)(hj:jnT ks=false):jnK ks=ks∧∀k,¬I5 (q6 ks) k:=by
 obtain⟨_,h2⟩:=Qgb h ht;obtain⟨h3,h4⟩:=h2.no hj;refine⟨by unfold jnK;rw[h3];exact Qkn ks,fun k hc=> ?_⟩;by_cases hk:k<ks.length
 ·exact h4 k hk hc
 ·have h5:=UQ hc.1;have:(q6 ks).ks.length=ks.length:=rfl;rw[List.getElem?_eq_none oM]at h5;cases h5
theorem QkE(h:TrQ nm pa va ks){kn:KN}(ht:Ds kn ks=true):wT (Qbp kn ks)<wT ks:=by
 have h1:=Qnx h.UH ht;have h2:=QlF (Qbs (kn:=kn) h.UH);unfold wT;omega
theorem Qgc(ht:sW ks=true):wT (kg ks)<wT ks:=by
 have h1:=QlG ht;have h2:=Qj0 ks;unfold wT;omega
theorem Qbt(ks:List gO):wT (kg ks)≤wT ks:=by
 have h1:lvN (kg ks)≤lvN ks:=by unfold lvN;rw[Rk,Rk];exact XV ((T1 ks).imp fun _ _ h=>h.2.2.2)
 have h2:=Qj0 ks;unfold wT;omega
theorem Qic(h:TrQ nm pa va ks)(ht:EJ ks)(hj:jnT ks=true):wT (jnK ks)<wT ks:=by
 have h1:=Qmy h ht hj;have h2:=Qmz ks;unfold wT;omega
theorem QmA(ht:agT ks=true):wT (agK ks)<wT ks:=by
 have h1:=Qog ht;have h2:=QlF (QdA ks);unfold wT;omega
theorem Qdh{v:Nat}:∀(n:Nat) (ks:List gO) (m:Nat),TrQ nm pa va ks→wT ks<n→wT ks<m→Qbj v n ks=Qbj v m ks
 |0,_,_,_,h,_=>oM
 |_,_,0,_,_,h=>oM
 |n+1,ks,m+1,hq,hn,hm=>by
  unfold Qbj;have hp:=(yn hq.UH).2;have hw0:=Qbt ks;by_cases h1:Ds (qN ks v) ks=true
  ·rw[dd h1,dd h1];have:=QkE hq h1;exact Qdh n _ m (hq.knw _) oM oM
  ·rw[QcA h1,QcA h1];by_cases h2:sW ks=true
   ·rw[dd h2,dd h2];have:=Qgc h2;exact Qdh n _ m hq.prune oM oM
   ·rw[QcA h2,QcA h2];by_cases h3:jnT (kg ks)=true
    ·rw[dd h3,dd h3];have:=Qic hq.prune hp h3;exact Qdh n _ m (hq.prune.join hp).1 oM oM
    ·rw[QcA h3,QcA h3];by_cases h4:agT (kg ks)=true
     ·rw[dd h4,dd h4];have:=QmA h4;exact Qdh n _ m hq.prune.ag oM oM
     ·rw[QcA h4,QcA h4]
theorem Qgd{v:Nat}{ms:List gO}(hm:TrQ nm pa va ms)(hw:wT ms<wT ks)(e:Qbj v (wT ks+1) ks=Qbj v (wT ks) ms):Rm v ms=Rm v ks:=by
 unfold Rm;rw[e];exact Qdh _ _ _ hm oM oM
theorem QnC{v:Nat}(h:TrQ nm pa va ks)(h1:Ds (qN ks v) ks=true):Rm v (Qbp (qN ks v) ks)=Rm v ks:=Qgd (h.knw _) (QkE h h1) (by show(if _ then _ else _)=_;rw[dd h1])
theorem QnD{v:Nat}(h:TrQ nm pa va ks)(h1:Ds (qN ks v) ks=false)(h2:sW ks=true):Rm v (kg ks)=Rm v ks:=Qgd h.prune (Qgc h2) (by show(if _ then _ else _)=_;rw[QcA (by rw[h1];decide),dd h2])
theorem QnE{v:Nat}(h:TrQ nm pa va ks)(h1:Ds (qN ks v) ks=false)(h2:sW ks=false)(h3:jnT (kg ks)=true):Rm v (jnK (kg ks))=Rm v ks:=by
 have hp:=(yn h.UH).2;have:=Qic h.prune hp h3;have:=Qbt ks;exact Qgd (h.prune.join hp).1 oM (by show(if _ then _ else _)=_;rw[QcA (by rw[h1];decide),QcA (by rw[h2];decide),dd h3])
theorem QlH{v:Nat}(h:TrQ nm pa va ks)(h1:Ds (qN ks v) ks=false)(h2:sW ks=false)(h3:jnT (kg ks)=false)(h4:agT (kg ks)=true):Rm v (agK (kg ks))=Rm v ks:=by
 have:=QmA h4;have:=Qbt ks;exact Qgd h.prune.ag oM (by show(if _ then _ else _)=_;rw[QcA (by rw[h1];decide),QcA (by rw[h2];decide),QcA (by rw[h3];decide),dd h4])
theorem QlI{v:Nat}(h1:Ds (qN ks v) ks=false)(h2:sW ks=false)(h3:jnT (kg ks)=false)(h4:agT (kg ks)=false):Rm v ks=kg ks:=by
 unfold Rm;show(if _ then _ else _)=_;rw[QcA (by rw[h1];decide),QcA (by rw[h2];decide),QcA (by rw[h3];decide),QcA (by rw[h4];decide)]
structure QgR(n:Nat)(ks:List gO):Prop where
 k:Ds (qN ks n) ks=false
 j:∀k,¬I5 (q6 ks) k
 a:agT ks=false
theorem Qj1(hc:Pf ks)(h:sW ks=false):sX (kg ks)=sX ks:=by
 unfold sX;rw[Qdz,Qdz];congr 1;refine QdX fun k=> ?_
 rw[List.getElem?_map,List.getElem?_map];cases hx:ks[k]? with
 |none=>rw[List.getElem?_eq_none (by rw[o2];exact List.getElem?_eq_none_iff.1 hx)]
 |some x=>
  rw[tn hx];unfold sj;split
  ·rename_i hh;unfold sW at h;exact absurd ⟨k,x,hx,hh.2,hh.1⟩ ((@nS _ (Classical.propDecidable _)).1 h)
  ·rfl
theorem QlJ{ms:List gO}(hl:qF Tb ks ms)(h:sP ks):sP ms:=by
 intro y hy;obtain⟨k,hk⟩:=jF.1 hy;obtain⟨x,hx,hb⟩:=hl.bwd hk;have h1:∀i,i∈x.insts→i.e0=i:=fun i hi=>by obtain⟨j,hj⟩:=jF.1 hi;have h2:=Qi9 (fun l:List aO=>l[j]?) (h x (Qcs hx));simp only[List.getElem?_map,hj,s9,p5]at h2;exact h2
 exact(Qch fun i hi=>h1 i (hb.sub.mem hi)).trans (List.map_id' _)
theorem QlK{ms:List gO}(hg:vU nm pa va ks)(hl:qF Tb ks ms)(h:Xq ks):Xq ms:=by
 intro y hy;obtain⟨k,hk⟩:=jF.1 hy;obtain⟨x,hx,hb⟩:=hl.bwd hk;obtain⟨x0,x1,x2,x3,x4,x5⟩:=h x (Qcs hx);refine⟨fun i hi=>x0 i (hb.sub.mem hi),?_⟩;rw[hb.ah];rcases hb.insts with⟨_,e1,e2,e3,e4⟩|⟨_,_,e1,e2,e3,e4⟩
 ·rw[e1,e2,e3,e4];exact⟨x1,x2,x3,x4,x5⟩
 ·rw[e1,e3,e4];unfold cN at e2;exact⟨⟨oM,oM⟩,Fa,⟨oM,oM⟩,Fa,x5⟩
structure Qnh(nm:cV)(pa va:Int)(n:Nat)(ks rs:List gO):Prop where
 q:TrQ nm pa va rs
 tight:EJ rs
 len:rs.length=ks.length
 e0:sP rs
 still:QgR n rs
theorem Qbx{n:Nat}:∀(f:Nat) (ks:List gO),wT ks<f→TrQ nm pa va ks→sP ks→Qnh nm pa va n ks (Qbj n f ks)
 |0,_,h,_,_=>oM
 |f+1,ks,hf,hq,he=>by
  have hp:=(yn hq.UH).2;have hw0:=Qbt ks;unfold Qbj;by_cases h1:Ds (qN ks n) ks=true
  ·rw[dd h1];have:=QkE hq h1;have h:=Qbx (n:=n) f _ oM (hq.knw (qN ks n)) (QlJ (Qbs hq.UH) he);exact⟨h.q,h.tight,by rw[h.len];unfold Qbp;rw[QjN],h.e0,h.still⟩
  ·rw[QcA h1];by_cases h2:sW ks=true
   ·rw[dd h2];have:=Qgc h2;have h:=Qbx (n:=n) f _ oM hq.prune (Qbo he);exact⟨h.q,h.tight,by rw[h.len,o2],h.e0,h.still⟩
   ·rw[QcA h2];by_cases h3:jnT (kg ks)=true
    ·rw[dd h3];have:=Qic hq.prune hp h3;obtain⟨q1,q2,q3⟩:=hq.prune.join hp;have h:=Qbx (n:=n) f _ oM q1 (Qny _ (QfJ (P:=fun s=>sP s.ks) (fun s k hc h=>Qoi hc h) (Qbo he)));exact⟨h.q,h.tight,by rw[h.len];exact q3.trans (o2 ks),h.e0,h.still⟩
    ·rw[QcA h3];by_cases h4:agT (kg ks)=true
     ·rw[dd h4];have:=QmA h4;have h:=Qbx (n:=n) f _ oM hq.prune.ag (QlJ (QdA _) (Qbo he));exact⟨h.q,h.tight,by rw[h.len,Qe6,o2],h.e0,h.still⟩
     ·rw[QcA h4];have h1:Ds (qN ks n) ks=false:=by simpa using h1
      have h2:sW ks=false:=by simpa using h2
      have h3:jnT (kg ks)=false:=by simpa using h3
      have h4:agT (kg ks)=false:=by simpa using h4
      have Mh:=Qj1 hq.UH.UT h2;refine⟨hq.prune,hp,o2 ks,Qbo he,⟨?_,(QkD hq.prune hp h3).2,h4⟩⟩;unfold Ds qN at h1⊢;rw[Mh];exact h1
theorem Qdi{n:Nat}(kx:va≤20000):∀(f:Nat) (ks:List gO),TrQ nm pa va ks→Xq ks→Xq (Qbj n f ks)
 |0,_,_,h=>h
 |f+1,ks,hq,h=>by
  have hp:=(yn hq.UH).2;unfold Qbj;split
  ·exact Qdi kx f _ (hq.knw _) (QlK hq.UH (Qbs hq.UH) h)
  ·split
   ·exact Qdi kx f _ hq.prune (Qdd h)
   ·split
    ·refine Qdi kx f _ (hq.prune.join hp).1 (QnB kx (Qgb hq.prune hp).1.q ?_);exact QfJ (P:=fun s=>Xq s.ks) (fun s k hc h=>Qoj hc h) (Qdd h)
    ·split
     ·exact Qdi kx f _ hq.prune.ag (QlK hq.prune.UH (QdA _) (Qdd h))
     ·exact Qdd h
end
end Go.Mor
namespace Go.Mor
open Go.RowKit
section
variable {ks : List gO} {fs fd : List ay} {nm : ByteArray} {pa va : Int}
theorem QkF:∀{l m:ar},m.length=l.length→(l.zip m).map (·.1)=l∧(l.zip m).map (·.2)=m
 |[],[],_=>⟨rfl,rfl⟩
 |a::l,b::m,h=>by obtain⟨h1,h2⟩:=QkF (l:=l) (m:=m) (by simpa using h);rw[List.zip_cons_cons,lR,lR,h1,h2];exact⟨rfl,rfl⟩
 |[],_::_,h=>by simp at h
 |_::_,[],h=>by simp at h
theorem QgY(hg:vU nm pa va ks)(ht:EJ ks):kg ks=ks∧sW ks=false:=by
 have hr:∀{k:Nat} {x:gO},ks[k]?=some x→¬(¬Reach (tK ks) (k:Int)∧x.gone=false):=fun {k x} hx h=>h.1 (ht.reach _ (.mk' hx h.2))
 refine⟨QdX fun k=> ?_,?_⟩
 ·cases hx:ks[k]? with
  |none=>rw[List.getElem?_eq_none (by rw[o2];exact List.getElem?_eq_none_iff.1 hx)]
  |some x=>
   rw[tn hx];unfold sj;rw[QcA (hr hx)];unfold K8;congr 1;have:x.ah.map (ke (EU (o1 ks) (k:Int)))=x.ah:=by
    refine(Qch fun p hp=> ?_).trans (Qbi x.ah);have hP:=hg.pK k x hx p hp;have hz:=QkF hP.len;have hf:(p.from_.zip p.args).filter (fun q=>(EU (o1 ks) (k:Int)).contains q.1)=p.from_.zip p.args:=QjO.2 fun q hq=>by
     have h1:q.1∈p.from_:=by have h0:q.1∈(p.from_.zip p.args).map (·.1):=jd.2 ⟨q,hq,rfl⟩;rwa [hz.1]at h0
     have h2:=ht.bS k x hx p hp q.1 h1;have h3:=(Pl hg.UT (k:=k) (s:=q.1)).2 ⟨ht.reach _ (hg.UT.src h2),h2⟩;exact List.contains_iff_mem.2 h3
    show ke _ p=p;unfold ke;rw[hf,hz.1,hz.2]
   rw[this]
 ·unfold sW;refine(@nS _ (Classical.propDecidable _)).2 ?_;rintro⟨k,x,hx,hg,h⟩;exact hr hx ⟨h,hg⟩
noncomputable def Qfj(va:Int)(fs:List ay):List gO:=Rm va.toNat (lN fs)
noncomputable def Qbk(va:Int)(fs:List ay):List ay:=toF (Qfj va fs)
theorem Xh(hv:bV nm pa va fs=0):TrQ nm pa va (lN fs)∧EJ (lN fs):=by
 obtain⟨hg,kx,jv⟩:=qI hv;have hk:=NP hg;refine⟨⟨hk.1,?_⟩,hk.2⟩;rw[XS,←jS (Q8 fs)];exact jv
theorem Qid(hv:bV nm pa va fs=0):Qnh nm pa va va.toNat (lN fs) (Qfj va fs):=Qbx _ _ (Nat.lt_succ_self _) (Xh hv).1 (Qd8 fs)
theorem Xk(hv:bV nm pa va fs=0):bV nm pa va (Qbk va fs)=0:=by
 have h:=Qid hv;exact QeT h.q.UH h.tight (Qf8 h.e0) (qI hv).2.1 h.q.size
theorem Qg0(hv:bV nm pa va fs=0):(Qbk va fs).length≤fs.length:=by
 have h1:=(Qid hv).len;rw[jR]at h1;unfold Qbk toF;rw[QjN,←h1];exact Qjt _ _
theorem Qhd(hv:bV nm pa va fs=0)(gx:pL fs):pL (Qbk va fs):=by
 have kx:=(qI hv).2.1;have h:=Qid hv;exact QgS h.q.UH (Qdi kx _ _ (Xh hv).1 (Qga gx)) kx h.q.size
theorem Qhf{n:Nat}(h:TrQ nm pa va ks)(ht:EJ ks)(hs:QgR n ks):Rm n ks=ks:=by
 obtain⟨h1,h2⟩:=QgY h.UH ht;have h3:jnT ks=false:=by
  have hn:∀m,Qc6 ks m=q6 ks:=by
   intro m;induction m with
   |zero=>rfl
   |succ m ih=>rw[UP,ih,Qf7 (hs.j m)]
  unfold jnT Qe4;rw[hn];rfl
 rw[QlI hs.k h2 (by rw[h1];exact h3) (by rw[h1];exact hs.a),h1]
end
end Go.Mor
namespace Go.Mor
open Go.RowKit
def txB(A5 A6 A7:aX):ay:=⟨none,0,[],A7,3,[⟨9,0,0,⟨#[]⟩,none,0,[]⟩,⟨11,-1,1,⟨#[]⟩,A5,1,[0]⟩,⟨11,-1,2,⟨#[]⟩,A6,1,[0]⟩],2,-1,0,0⟩
def txC:ay:=⟨none,0,[],none,2,[⟨9,0,0,⟨#[]⟩,none,0,[]⟩,⟨11,-1,1,⟨#[]⟩,none,1,[0]⟩],2,-1,0,0⟩
def txK:gO:=⟨[],[⟨9,0,0,⟨#[]⟩,none,0,[]⟩,⟨11,-1,1,⟨#[]⟩,none,0,[0]⟩,⟨11,-1,2,⟨#[]⟩,none,0,[0]⟩],2,-1,0,0,false⟩
def txL:gO:=⟨[],[⟨9,0,0,⟨#[]⟩,none,0,[]⟩,⟨11,-1,1,⟨#[]⟩,none,0,[0]⟩],2,-1,0,0,false⟩
theorem Qni{A5 A6 A7:aX}:pL [txB A5 A6 A7]:=by
 intro x hx;rw[QcC]at hx;subst hx;refine⟨by simp[txB,gY],fun p hp=>by simp[txB]at hp,by simp[txB,gY],fun p hp=> ?_,by simp[txB,In64],by simp[txB,In64],by simp[txB,In64],by simp[txB,In64]⟩;simp only[txB,Qcx,QjD,Qck]at hp;rcases hp with rfl|rfl|rfl
 ·exact⟨by simp[In64],by simp[In64],by simp[In64],by show(0:Nat)≤_;omega,by simp[gY],fun x hx=>by simp at hx⟩
 ·exact⟨by simp[In64],by simp[In64],by simp[In64],by show(0:Nat)≤_;omega,by simp[gY],fun x hx=>by simp at hx;subst hx;simp[In64]⟩
 ·exact⟨by simp[In64],by simp[In64],by simp[In64],by show(0:Nat)≤_;omega,by simp[gY],fun x hx=>by simp at hx;subst hx;simp[In64]⟩
theorem Qdn{A5 A6 A7:aX}:bV PH 0 1 [txB A5 A6 A7]=0:=Jv ⟨by simp[hY,jl,txB],by rfl⟩
theorem QlL:bV PH 0 1 [txC]=0:=Jv ⟨by simp[hY,jl,txC],by rfl⟩
theorem QmD{x:gO}(hx:x.e=2)(k:Nat):¬I5 (q6 [x]) k:=by
 rintro⟨h1,h2,_⟩;cases k with
 |zero=>rw[show bAt (q6 [x]).ks 0=x from rfl,hx]at h2;cases h2
 |succ k=>rw[show bAt (q6 [x]).ks (k+1)=Qof from rfl]at h1;cases h1
theorem QhT{x:gO}(v:Int):¬nU [x] 0 v:=by
 rintro⟨a,y,hy,cU,_⟩;have:=(List.getElem?_eq_some_iff.1 hy).1;simp at this;omega
theorem Qnj:agK [txK]=[txL]∧agT [txK]=true:=by
 have hn:∀j,j<2→gH (nU [txK] 0) txK.insts j=false:=fun j hj=>by
  cases h:gH (nU [txK] 0) txK.insts j with
  |false=>rfl
  |true=>
   exfalso;obtain⟨i,hi,ho,hq⟩:=Cl.1 h;rcases hq with hq|⟨i2,h2,h3,_⟩
   ·exact QhT _ hq
   ·have:j=0∨j=1:=oM;rcases this with rfl|rfl
    ·cases h2
    ·have h2:i2∈[(⟨9,0,0,⟨#[]⟩,none,0,[]⟩:aO)]:=h2;rw[QcC]at h2;rw[h2]at h3;simp at h3
 have hy:QdS (nU [txK] 0) txK.insts 2:=⟨_,rfl,rfl,.inr ⟨⟨11,-1,1,⟨#[]⟩,none,0,[0]⟩,by simp[txK],rfl,rfl⟩⟩;refine⟨?_,QcL.2 ⟨0,txK,2,rfl,hy⟩⟩;have h1:=QgQ (ks:=[txK]) (k:=0) rfl;have hl:=Qe6 [txK];have e:agB [txK] 0 txK=txL:=by unfold agB;rw[show txK.insts.length=2+1 from rfl,QgP (x:=⟨11,-1,2,⟨#[]⟩,none,0,[0]⟩) rfl (Cl.2 hy),QcK hn (by show 2≤3;omega)];rfl
 rw[e]at h1;refine QdX fun i=> ?_
 cases i with
 |zero=>rw[h1];rfl
 |succ i=>rw[List.getElem?_eq_none (by rw[hl];simp),List.getElem?_eq_none sI]
theorem QoY:agT [txL]=false:=by
 cases h:agT [txL]with
 |false=>rfl
 |true=>
  exfalso;obtain⟨k,x,j,hk,i,hi,ho,hq⟩:=QcL.1 h;have:k=0:=by have:=(List.getElem?_eq_some_iff.1 hk).1;simp at this;omega
  subst this;have:txL=x:=by injection hk
  subst this;rcases hq with hq|⟨i2,h2,h3,_⟩
  ·exact QhT _ hq
  ·have hj:j<2:=(List.getElem?_eq_some_iff.1 hi).1;have:j=0∨j=1:=oM;rcases this with rfl|rfl
   ·cases h2
   ·have h2:i2∈[(⟨9,0,0,⟨#[]⟩,none,0,[]⟩:aO)]:=h2;rw[QcC]at h2;rw[h2]at h3;simp at h3
theorem QmE{A5 A6 A7:aX}:Qfj 1 [txB A5 A6 A7]=[txL]:=by
 obtain⟨hq,ht⟩:=Xh (Qdn (A5:=A5) (A6:=A6) (A7:=A7));obtain⟨Xe,oQ⟩:=Xh QlL;have e1:lN [txB A5 A6 A7]=[txK]:=rfl;have e2:lN [txC]=[txL]:=rfl;rw[e1]at hq ht;rw[e2]at Xe oQ;unfold Qfj;rw[e1,show(1:Int).toNat=1 from rfl];obtain⟨p1,p2⟩:=QgY hq.UH ht;have hj:jnT [txK]=false:=kR;have h:=QlH (v:=1) hq kR p2 (by rw[p1];exact hj) (by rw[p1];exact Qnj.2);rw[p1,Qnj.1]at h;rw[←h];exact Qhf Xe oQ ⟨kR,QmD rfl,QoY⟩
theorem QmF{A5 A6 A7:aX}:hY (Qbk 1 [txB A5 A6 A7])=3:=by
 unfold Qbk;rw[QmE];kernel_rfl
end Go.Mor
