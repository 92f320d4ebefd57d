/-
  Texts of the proof, part 17.
-/
import Derived.Test.YtejbeeaomokjpaaGreatZo16
set_option maxRecDepth 10000
open List Go.RowKit Go.Mor
open List renaming length -> ae
namespace Go.Mor
section
variable{fs:List aG}{rs:List bp}{nm nm':ByteArray}{pa va pa' Yq:Int}{k j:Nat}{x:aG}
theorem L5(h:eU nm pa va fs)(hx:fs[k]?=some x){i i0:aQ}(hi:x.insts[j]?=some i)(hm:aJ i.op)(Ti:AO fs i0)(hm0:aJ i0.op)(e:i0.dst=i.dst):i0=i:=by
 obtain⟨k0,x0,j0,AL,hj0⟩:=Ti;have h1:(i.dst,(k:Int),(j:Int))∈bQ fs:=fL.2 ⟨k,x,hx,rfl,.inr ⟨j,i,hi,hm,rfl,rfl⟩⟩;have h2:(i0.dst,(k0:Int),(j0:Int))∈bQ fs:=fL.2 ⟨k0,x0,AL,rfl,.inr ⟨j0,i0,hj0,hm0,rfl,rfl⟩⟩;rw[e]at h2;have e1:=IV h h1 h2;injection e1 with e1 e2;have e1:k=k0:=oM;have e2:j=j0:=oM;subst e1 e2;rw[hx]at AL;injection AL with AL;subst AL;rw[hi]at hj0;injection hj0 with hj0;exact hj0.symm
theorem YD{l:ah}{n:Nat}(h:n<ae l):l.getD n 0∈l/\∀f:Int->Int,(l.map f).getD n 0=f (l.getD n 0):=by
 obtain⟨a,ha⟩:=aP h;have e:l.getD n 0=a:=by rw[et,ha];rfl
 refine⟨by rw[e];exact aI ha,λf=> ?_⟩;rw[e,et,aL,ha];rfl
theorem Qhy{E:Env0}(h:eU nm pa va fs)(hx:fs[k]?=some x){i:aQ}(hi:x.insts[j]?=some i)(hm:aJ i.op){v:ah}(hK:∀u,Av pa va fs u (k:Int) (j:Int)->∀n,Kn fs u n->v.getD u.toNat 0=n){n:Int}(hn:Kn fs i.dst n):PV E i (gb v i.args) n:=by
 obtain⟨d,hd⟩:∃d,d=i.dst:=⟨_,rfl⟩;rw[<-hd]at hn;cases hn with
 | @const i0 h1 h2=>
  have e:=L5 h hx hi hm h1 (by rw[h2];exact mW) hd;subst e;exact λcall s=>sr h2
 | @Qdc i0 g h1 h2 h3 h4=>
  have e:=L5 h hx hi hm h1 (by unfold aJ;omega) hd;subst e;have Rt:=(h.bN.1 x (aI hx) i0 (aI hi)).2;have hv:∀n:Nat,n<ae i0.args->(gb v i0.args).getD n 0=g (i0.args.getD n 0):=λn hn=>by obtain⟨q1,q2⟩:=YD hn;show(i0.args.map (λu=>v.getD u.toNat 0)).getD n 0=_;rw[q2];exact hK _ (zw h hx hi q1) _ (h3 _ q1)
  intro call s;unfold Ro at h4⊢;by_cases GS:40<=i0.op
  ·rw[ax GS,qy GS];unfold a0;rw[hv 0 oM]
  ·rw[ao GS]at h4⊢;rw[oa oM oM];unfold a0 a1;rw[hv 0 oM,hv 1 oM,ax h4]
def JV(pa va:Int)(fs:List aG)(k q:Int)(v v':ah):Prop:=∀u,Av pa va fs u k q->v'.getD u.toNat 0=v.getD u.toNat 0/\∀n,Kn fs u n->v.getD u.toNat 0=n
theorem Ru(h:eU nm pa va fs)(hx:fs[k]?=some x){i:aQ}(hi:x.insts[j]?=some i){v v':ah}(hl:ae v=va.toNat)(JY:ae v'=va.toNat)(hJ:JV pa va fs (k:Int) (j:Int) v v'){z:Int}(hz:aJ i.op->∀n,Kn fs i.dst n->z=n):JV pa va fs (k:Int) ((j+1:Nat):Int) (if 0<=i.dst/\aJ i.op then v.set i.dst.toNat z else v) (if 0<=i.dst/\aJ i.op then v'.set i.dst.toNat z else v'):=by
 intro u hu;by_cases hm:aJ i.op
 ·have hd:=yx h ⟨k,x,j,hx,hi⟩ hm;have Ft:=h.par;rw[ax ⟨hd.2.2,hm⟩,ax ⟨hd.2.2,hm⟩];rcases Ra h hx hi hu with hu|⟨_,e⟩
  ·have eC:=Qhc h hx hi hm hu;rw[G3 hd.2.2 hu.1 eC,G3 hd.2.2 hu.1 eC];exact hJ u hu
  ·rw[<-e,LF oM,LF oM];exact⟨rfl,hz hm⟩
 ·rw[ao (λe=>hm e.2),ao (λe=>hm e.2)];rcases Ra h hx hi hu with hu|⟨e,_⟩
  ·exact hJ u hu
  ·exact absurd e hm
theorem CR(i:aQ)(v:ah)(z:Int):ae (if 0<=i.dst/\aJ i.op then v.set i.dst.toNat z else v)=ae v:=by
 split
 ·exact lj
 ·rfl
theorem zO{E E':Env0}(hE:uj E E')(h:eU nm pa va fs)(hx:fs[k]?=some x){yl:List aQ}(hb:gH (FoI fs) x.insts yl){call mr:Int->ah->dT->eH Int}(hL:∀n l s,dE s (u7 (call n l s)))(hL':∀n l s,dE s (u7 (mr n l s))){b:Int}(hc:∀n l t t',b<t'.steps->Fy t t'->t.steps<=E'.fuel->sB E'.fuel Eq (call n l t) (mr n l t')):∀(n j:Nat) (v v':ah) (s s':dT),j+n=ae x.insts->Fy s s'->ae v=va.toNat->ae v'=va.toNat->JV pa va fs (k:Int) (j:Int) v v'->b<=s'.steps->sB E'.fuel (λw w'=>ae w=va.toNat/\ae w'=va.toNat/\JV pa va fs (k:Int) (ae x.insts:Int) w w') (dZ E call (x.insts.drop j) v s) (dZ E' mr (yl.drop j) v' s')
 |0,j,v,v',s,s',hj,ha,hl,JY,h1,_=>by have e:j=ae x.insts:=oM;subst e;rw[drop_length,hb.1,drop_length,<-hb.1];exact .ok ha ⟨hl,JY,h1⟩
 |n+1,j,v,v',s,s',hj,ha,hl,JY,h1,hbb=>by
  obtain⟨i,hi⟩:=aP (l:=x.insts) (i:=j) oM;obtain⟨i',tc,hr⟩:=hb.fwd hi;rw[fB hi,fB tc];have hlr:∀(u:Int) (s:dT),dE s (u7 (dZ E call (x.insts.drop (j+1)) (if 0<=i.dst/\aJ i.op then v.set i.dst.toNat u else v) s)):=λu s=>qC hL _ _ s
  show sB E'.fuel _ ((ey E s).bind λ_ s=>(cP E call i (gb v i.args) s).bind λu s=>dZ E call (x.insts.drop (j+1)) (if 0<=i.dst/\aJ i.op then v.set i.dst.toNat u else v) s) ((ey E' s').bind λ_ s=>(cP E' mr i' (gb v' i'.args) s).bind λu s=>dZ E' mr (yl.drop (j+1)) (if 0<=i'.dst/\aJ i'.op then v'.set i'.dst.toNat u else v') s);refine sB.bind (Q7 ha) (λ_ s=>(wS hL i _ s).trans (kW hlr)) λ_ t _ t' _ e2 h3 _ ht=> ?_
  have e3:=G0 e2;have FC:aJ i.op->∀n,Kn fs i.dst n->PV E i (gb v i.args) n:=λhm n hn=>Qhy h hx hi hm (λu hu=>(h1 u hu).2) hn
  rcases hr with e|⟨q1,q2,q3,q4,q5⟩
  ·subst e;have Da:gb v' i.args=gb v i.args:=nL λu hu=>(h1 u (zw h hx hi hu)).1
   show sB E'.fuel _ _ ((cP E' mr i (gb v' i.args) t').bind λu s=>dZ E' mr (yl.drop (j+1)) (if 0<=i.dst/\aJ i.op then v'.set i.dst.toNat u else v') s);rw[Da];refine sB.bind (QcJ hE h3 λn l=>hc n l t t' oM h3 ht) hlr λu t2 u' t2' e4 e5 h6 h7 _=> ?_
   subst h7;have e6:=Lx (wS hL' i _ t') e5;refine zO hE h hx hb hL hL' hc n (j+1) _ _ t2 t2' oM h6 (by rw[CR];exact hl) (by rw[CR];exact JY) (Ru h hx hi hl JY h1 λhm n hn=> ?_) oM;rw[FC hm n hn call t]at e4;injection e4 with e4;exact e4.symm
  ·rw[FC q4 _ q5 call t,sr q1];show sB E'.fuel _ (dZ E call (x.insts.drop (j+1)) (if 0<=i.dst/\aJ i.op then v.set i.dst.toNat i'.n else v) t) (dZ E' mr (yl.drop (j+1)) (if 0<=i'.dst/\aJ i'.op then v'.set i'.dst.toNat i'.n else v') t');have F8:aJ i'.op:=by rw[q1];exact mW
   have hif:(if 0<=i'.dst/\aJ i'.op then v'.set i'.dst.toNat i'.n else v')=(if 0<=i.dst/\aJ i.op then v'.set i.dst.toNat i'.n else v'):=by rw[q3];have:(0<=i.dst/\aJ i'.op)↔(0<=i.dst/\aJ i.op):=⟨λe=>⟨e.1,q4⟩,λe=>⟨e.1,F8⟩⟩;simp only[this]
   rw[hif];refine zO hE h hx hb hL hL' hc n (j+1) _ _ t t' oM h3 (by rw[CR];exact hl) (by rw[CR];exact JY) (Ru h hx hi hl JY h1 λhm n hn=> ?_) oM;have e1:=FC hm n hn call t;rw[FC q4 _ q5 call t]at e1;injection e1
theorem Qfo(h:eU nm pa va fs)(hc:vL rs)(hr:TE fs rs){s t:Int}(ht:t∈tK rs s):0<=s/\s<(ae fs:Int)/\0<=t/\t∈tg (au fs) s:=by
 obtain⟨i,y,rfl,hy,hg⟩:=hc.src ht;obtain⟨x,hx⟩:=aP (l:=fs) (i:=i) (by rw[<-hr.len];exact(aW.1 hy).1);have qY:=(aW.1 hx).1;rw[hc.at_ hy]at ht;have wY:=h.ends x (aI hx);have key:=Qha hx wY (t:=t) ?_
 ·exact⟨oM,oM,key.1,key.2⟩
 unfold me at ht;rcases(hr.at_ i x y hx hy hg).ends with⟨e1,_,e3,e4⟩|⟨e1,e2,n,_,e4⟩
 ·rw[e1,e3,e4]at ht;by_cases c0:x.e=0
  ·rw[ax c0,cF]at ht;exact .inl ⟨c0,ht⟩
  ·rw[ao c0]at ht;by_cases c1:x.e=1
   ·rw[ax c1]at ht;refine .inr ⟨c1,?_⟩;rcases cG.1 ht with ht|ht
    ·exact .inl ht
    ·exact .inr (cF.1 ht)
   ·rw[ao c1]at ht;cases ht
 ·rw[ax e2,cF,e4]at ht;refine .inr ⟨e1,?_⟩;split at ht
  ·exact .inr ht
  ·exact .inl ht
def YE(pa va:Int)(fs:List aG)(rs:List bp)(k k' fr No:Int)(v v':ah):Prop:=k'=na rs k/\eK rs k/\((k=0/\fr= -1/\No= -1)\/(k∈tK rs fr/\No=na rs fr))/\ae v=va.toNat/\ae v'=va.toNat/\∀u,AvE pa va fs fr u->v'.getD u.toNat 0=v.getD u.toNat 0/\∀n,Kn fs u n->v.getD u.toNat 0=n
theorem Qhz{l:ah}(hl:l.Nodup){m:Nat}{s:Int}(h:l[m]?=some s):gI l s=m:=by
 have h1:=X2 (aI h);exact(CK (aW.1 h1).1 hl).1 (h1.trans h.symm)
theorem YF{l:ah}(h:l.Pairwise (·<·)):l.Nodup:=h.imp (λh=>oM)
theorem YG(h:eU nm pa va fs)(iX:(de fs:Int)<=20000)(hg:j4 nm' pa' Yq rs)(ud:oo rs)(hr:TE fs rs){gs:List aG}(ht:BF rs gs)(hx:fs[k]?=some x){y:bp}(hy:rs[k]?=some y)(Tw:y.gone=false){z:aG}(hb:ToB (mC (ew rs)) y z){fr No:Int}(Vi:((k:Int)=0/\fr= -1/\No= -1)\/((k:Int)∈tK rs fr/\No=na rs fr)){v v':ah}(hl:ae v=va.toNat)(JY:ae v'=va.toNat)(hI:∀u,AvE pa va fs fr u->v'.getD u.toNat 0=v.getD u.toNat 0/\∀n,Kn fs u n->v.getD u.toNat 0=n):JV pa va fs (k:Int) 0 (kv x.ak (gI (bO (au fs) (k:Int)) fr) v) (kv z.ak (gI (bO (au gs) (na rs (k:Int))) No) v'):=by
 have BG:=(aW.1 hx).1;have Ft:=h.par;have Vz:=hr.at_ k x y hx hy Tw;have yU:Qfj fs (k:Int) fr:=by
  rcases Vi with⟨e1,e2,_⟩|⟨e1,_⟩
  ·exact .inl ⟨e1,e2⟩
  ·obtain⟨q1,q2,q3,q4⟩:=Qfo h hg.zx hr e1;exact .inr ⟨q3,q1,q2,q4⟩
 have vk:∀p,p∈x.ak->(p.dst,(k:Int),(-1:Int))∈bQ fs:=λp hp=>fL.2 ⟨k,x,hx,rfl,.inl ⟨rfl,p,hp,rfl⟩⟩
 have TS:∀p,p∈x.ak->0<=p.dst/\p.dst<va:=λp hp=>by have:=IW h (vk p hp);omega
 have Hi:x.ak.map (λp=>p.dst)=z.ak.map (λp=>p.dst):=(Vz.ak.map_eq (g:=λp:da=>p.dst) λa b _ _ hq=>hq.1.symm).trans (hb.ak.map_eq λa b _ _ hq=>hq.1.symm);have hzd:∀q,q∈z.ak->∃p,p∈x.ak/\p.dst=q.dst:=λq hq=>by have h1:q.dst∈z.ak.map (λp=>p.dst):=aO.2 ⟨q,hq,rfl⟩;rw[<-Hi]at h1;exact aO.1 h1
 have yO:(x.ak.map (λp=>p.dst)).Nodup:=(jL.1 (Th h hx)).1;intro u hu;rcases QcN h hx hu with hu|⟨p,hp,rfl⟩
 ·rw[Rq hu.1 λp hp=>⟨(TS p hp).1,X3 h hx hp hu⟩,Rq hu.1 λq hq=>by obtain⟨p,hp,e⟩:=hzd q hq;rw[<-e];exact⟨(TS p hp).1,X3 h hx hp hu⟩]
  exact hI u (Qdh h iX yU hu)
 ·have Xo:¬((k:Int)=0/\fr= -1):=fun⟨e,_⟩=>by have e9:k=0:=oM;subst e9;have:=h.ak x hx;exact absurd (tB hp) oM
  obtain⟨f2,rfl⟩:=Vi.resolve_left λe=>Xo ⟨e.1,e.2.1⟩
  obtain⟨f0,f1,f3,f4⟩:=Qfo h hg.zx hr f2;obtain⟨m,hm⟩:=bq.1 hp;obtain⟨q,hq,hqd,hqa⟩:=Vz.ak.fwd hm;obtain⟨r,hr1,DY,il,hs,KF⟩:=hb.ak.fwd hq;have hP:=hg.JZ k y hy q (aI hq);have Qfp:=ud.bO k y hy q (aI hq);have QB:=Rf hg.zx ht hy Tw hP.nd (λs=>⟨hP.all s,Qfp s⟩) hs;have nt:na rs fr∈bO (au gs) (na rs (k:Int)):=by rw[QB,aO];obtain⟨t,ht⟩:=bq.1 (hP.all fr f2);have htl:=(aW.1 ht).1;refine⟨t,(hs.1.mem_iff).2 (dp.2 htl),?_⟩;show na rs (q.from_.getD t 0)=_;rw[et,ht];rfl
  have hi1:=X2 nt;obtain⟨n',hn'⟩:∃n',n'=gI (bO (au gs) (na rs (k:Int))) (na rs fr):=⟨_,rfl⟩;rw[<-hn']at hi1⊢;rw[QB,aL,jJ]at hi1;obtain⟨t,Yg,Ff⟩:=hi1;have htl:t<ae q.from_:=dp.1 ((hs.1.mem_iff).1 (aI Yg));have h3:q.from_[t]?=some (q.from_.getD t 0):=by rw[et,dF htl];rfl
  have h4:q.args[t]?=some (q.args.getD t 0):=by rw[et,dF (by rw[hP.len];exact htl)];rfl
  have ef:q.from_.getD t 0=fr:=pJ (hg.zx.src (Qfp _ (aI h3))) (hg.zx.src f2) Ff;rw[ef]at h3;obtain⟨m2,fI,ham⟩:=hqa t fr _ h3 h4;have ux:=Qhz (YF (CE (au fs) (k:Int))) fI;rw[ux];have ea:p.args.getD m2 0=q.args.getD t 0:=by rw[et,ham];rfl
  have er:r.args.getD n' 0=q.args.getD t 0:=by rw[KF,et,aL,Yg];rfl
  have e1:=LW (n:=m2) (v:=v) hp yO (λp hp=>(TS p hp).1) (by have:=TS p hp;omega);have erd:r.dst=p.dst:=DY.trans hqd;have e2:=LW (n:=n') (v:=v') (aI hr1) (by rw[<-Hi];exact yO) (λq hq=>by obtain⟨p,hp,e⟩:=hzd q hq;rw[<-e];exact(TS p hp).1) (by rw[erd];have:=TS p hp;omega)
  rw[erd]at e2;rw[e1,e2,ea,er];obtain⟨w,hw,hrw⟩:=h.reads k BG;rw[hx]at hw;injection hw with hw;subst hw;have FA:Av pa va fs (q.args.getD t 0) fr 20000:=(hrw.ak m p hm).2 m2 _ fr ham fI;refine⟨(hI _ (.inr ⟨f0,FA⟩)).1,λn hn=> ?_⟩;exfalso;obtain⟨d,hd⟩:∃d,d=p.dst:=⟨_,rfl⟩;rw[<-hd]at hn;have hD:=vk p hp;have no:∀i0:aQ,AO fs i0->aJ i0.op->i0.dst=p.dst->False:=λi0 ⟨k0,x0,j0,AL,hj0⟩ hm0 e=>by have h2:(i0.dst,(k0:Int),(j0:Int))∈bQ fs:=fL.2 ⟨k0,x0,AL,rfl,.inr ⟨j0,i0,hj0,hm0,rfl,rfl⟩⟩;rw[e]at h2;have e1:=IV h hD h2;injection e1 with _ e1;omega
  cases hn with
  |const h1 h2=>exact no _ h1 (by rw[h2];exact mW) hd
  |Qdc h1 h2 _ _=>exact no _ h1 (by unfold aJ;omega) hd
theorem YH{E E':Env0}(hE:uj E E')(h:eU nm pa va fs)(iX:(de fs:Int)<=20000)(hg:j4 nm' pa' Yq rs)(ud:oo rs)(hr:TE fs rs){f f':gg}(hb:f.bF=fs)(ht:BF rs f'.bF)(hs:∀k:Nat,k<ae fs->f.src k=bO (au fs) (k:Int))(Wg:∀k:Nat,k<ae f'.bF->f'.src k=bO (au f'.bF) (k:Int)):Qfg E E' f f' (YE pa va fs rs):=by
 rintro call mr k _ fr No v v' s s' ⟨rfl,⟨k,y,rfl,hy,Tw⟩,Vi,hl,JY,hI⟩ ha hL hL' hc;obtain⟨x,hx⟩:=aP (l:=fs) (i:=k) (by rw[<-hr.len];exact(aW.1 hy).1);have BG:=(aW.1 hx).1;obtain⟨z,hz,hbz⟩:=G5 ht hy Tw;have hzl:=(aW.1 hz).1;have Vz:=hr.at_ k x y hx hy Tw;have en:=s8 hy Tw;have VA:=YG h iX hg ud hr ht hx hy Tw hbz Vi hl JY hI;have sm:=aI hx;rw[X1 (f:=f) (x:=x) (by rw[hb,cN];exact hx),X1 (f:=f') (x:=z) (by rw[en,cN];exact hz),cN,en,cN,hs _ BG,Wg _ hzl];rw[en]at VA;have eI:dZ E' mr z.insts=dZ E' mr y.insts:=by funext v s;rw[<-LD z.insts,hbz.insts]
 rw[eI];have h2:=zO hE h hx Vz.insts hL hL' (b:=s'.steps) hc (ae x.insts) 0 _ _ s s' oM ha (by rw[LV];exact hl) (by rw[LV];exact JY) VA (dv _);rw[y8,y8]at h2;refine sB.bind h2 (λv s=>wR.trans (kW λ_ s=>G2)) λw t w' t' _ _ h3 h4 _=> ?_
 obtain⟨hwl,Qnx,hw⟩:=h4;refine sB.bind (Q7 h3) (λ_ s=>G2) λ_ t2 _ t2' _ _ h5 _ _=> ?_
 have Rv:∀t:Int,t∈tK rs (k:Int)->YE pa va fs rs t (na rs t) (k:Int) (ly (ew rs) k:Int) w w':=λt Nr=>by
  refine⟨rfl,hg.zx.X5 _ _ Nr,.inr ⟨Nr,en.symm⟩,hwl,Qnx,λu hu=> ?_⟩;rcases hu with⟨e,_⟩|⟨_,hu⟩
  ·omega
  ·exact hw u (I9 h hx hu)
 obtain⟨x2,Qy,DY⟩:=h.reads k BG;rw[hx]at Qy;injection Qy with Qy;subst Qy;have wY:=h.ends x sm;unfold QcL;rw[hbz.e,hbz.v,hbz.a,hbz.b];have Nr:=hg.zx.at_ hy;unfold me at Nr;have eA:∀e a:Int,(e=0\/e=1)->toA (mC (ew rs)) e a=na rs a:=λe a he=>by unfold toA;rw[ax he];rfl
 have eB:∀e a:Int,e=1->toBb (mC (ew rs)) e a=na rs a:=λe a he=>by unfold toBb;rw[ax he];rfl
 rcases Vz.ends with⟨g1,g2,g3,g4⟩|⟨g1,g2,n,g3,g4⟩
 ·rw[g1,g2,g3,g4];rw[g1,g3,g4]at Nr;by_cases e0:x.e=0
  ·rw[ax e0,ax e0,eA _ _ (.inl e0)];rw[ax e0]at Nr;have q:=Rv x.a (by rw[Nr];exact cF.2 rfl);have q0:=(pK ht q.2.1).1;refine .ok h5 ⟨⟨λe=> ?_,λe=> ?_⟩,λ_=>rfl,λ_=>q⟩
   ·obtain⟨_,_,e2,_⟩:=q.2.1;have e:x.a<0:=e;omega
   ·have e:na rs x.a<0:=e;omega
  rw[ao e0,ao e0];rw[ao e0]at Nr;by_cases e1:x.e=1
  ·rw[ax e1,ax e1,eA _ _ (.inr e1),eB _ _ e1];rw[ax e1]at Nr;have FA:=DY.fin (.inl e1);rw[(hw x.v (I9 h hx FA)).1];by_cases c:w.getD x.v.toNat 0≠0
   ·rw[ax c,ax c];have q:=Rv x.a (by rw[Nr];exact cK ..);have q0:=(pK ht q.2.1).1;refine .ok h5 ⟨⟨λe=> ?_,λe=> ?_⟩,λ_=>rfl,λ_=>q⟩
    ·obtain⟨_,_,e2,_⟩:=q.2.1;have e:x.a<0:=e;omega
    ·have e:na rs x.a<0:=e;omega
   ·rw[ao c,ao c];have q:=Rv x.b (by rw[Nr];exact cr _ (cK ..));have q0:=(pK ht q.2.1).1;refine .ok h5 ⟨⟨λe=> ?_,λe=> ?_⟩,λ_=>rfl,λ_=>q⟩
    ·obtain⟨_,_,e2,_⟩:=q.2.1;have e:x.b<0:=e;omega
    ·have e:na rs x.b<0:=e;omega
  rw[ao e1,ao e1];by_cases e3:x.e=3
  ·have e9:toA (mC (ew rs)) x.e x.a=x.a:=by unfold toA;rw[ao oM,ax e3]
   rw[ax e3,ax e3,e9];exact .stop h5
  rw[ao e3,ao e3];refine .ok h5 ⟨ju,λ_=> ?_,λh=>absurd (show(-1:Int)<0 by omega) h⟩;show(if x.v>=0 then w.getD x.v.toNat 0 else 0)=if x.v>=0 then w'.getD x.v.toNat 0 else 0;split
  ·rename_i h0;have e2:x.e=2:=by unfold jm at wY;omega
   rw[(hw x.v (I9 h hx (DY.fin (.inr ⟨e2,oM⟩)))).1]
  ·rfl
 ·rw[ao oM,ax g1,ax g2,eA _ _ (.inl g2)];rw[ax g2]at Nr;have FA:=DY.fin (.inl g1);have hv:=(hw x.v (I9 h hx FA)).2 n g3;have q:=Rv y.a (by rw[Nr];exact cF.2 rfl);have q0:=(pK ht q.2.1).1;have ea:(if w.getD x.v.toNat 0≠0 then x.a else x.b)=y.a:=by
   rw[hv,g4];by_cases c:n=0
   ·rw[ao oM,ax c]
   ·rw[ax c,ao c]
  rw[ea];refine .ok h5 ⟨⟨λe=> ?_,λe=> ?_⟩,λ_=>rfl,λ_=>q⟩
  ·obtain⟨_,_,e2,_⟩:=q.2.1;have e:y.a<0:=e;omega
  ·have e:na rs y.a<0:=e;omega
theorem QhA(h:eU nm pa va fs){u n:Int}(hn:Kn fs u n):pa<=u:=by
 cases hn with
 |const h1 h2=>exact(yx h h1 (by rw[h2];exact mW)).1
 |Qdc h1 h2 _ _=>exact(yx h h1 (by unfold aJ;omega)).1
theorem Qdr{E E':Env0}(hE:uj E E')(h:eU nm pa va fs)(iX:(de fs:Int)<=20000)(hg:j4 nm' pa' Yq rs)(ud:oo rs)(hr:TE fs rs){f f':gg}(hb:f.bF=fs)(ht:BF rs f'.bF)(hs:∀k:Nat,k<ae fs->f.src k=bO (au fs) (k:Int))(Wg:∀k:Nat,k<ae f'.bF->f'.src k=bO (au f'.bF) (k:Int))(hfp:f.pa=pa)(hfv:f.va=va)(hp:f'.pa=f.pa)(kr:f'.va=f.va):G1 E E' f f' (YE pa va fs rs):=by
 refine⟨hp,kr,λl hl=> ?_,YH hE h iX hg ud hr hb ht hs Wg⟩;have Ft:=h.par;have Ss:ae (l++List.replicate (f.va.toNat-ae l) 0)=va.toNat:=by rw[dG,qI,hfv];omega
 refine⟨(yk hg.zx.zero).symm,hg.zx.zero,.inl ⟨rfl,rfl,rfl⟩,Ss,Ss,λu hu=>⟨rfl,λn hn=> ?_⟩⟩;rcases hu with⟨_,hu⟩|⟨e,_⟩
 ·have:=Yr h hu;have:=QhA h hn;omega
 ·omega
end
theorem TT{ks:List bp}{fs gs:List aG}(h:BF ks fs)(ha:fY gs fs):BF ks gs:=by
 refine⟨by rw[h.1,fY.len ha],λi x y hx hy=> ?_⟩;obtain⟨z,hz,e⟩:=tR ha hy;have hb:=h.2 i x z hx hz;refine⟨?_,by rw[tS e];exact hb.insts,(W8 e).trans hb.e,(W9 e).trans hb.v,(QgP e).trans hb.a,(QgQ e).trans hb.b⟩;have ep:=uT e;have hl:ae y.ak=ae z.ak:=by have:=aK List.length ep;simpa using this
 refine⟨hb.ak.1.trans hl.symm,λj p q hp hq=> ?_⟩;obtain⟨r,hr,hd,Da⟩:=Og e hq;obtain⟨q1,il,q2,q3⟩:=hb.ak.2 j p r hp hr;exact⟨hd.trans q1,il,q2,Da.trans q3⟩
def Qfq(fs fd:List aG):Prop:=∃nm pa va,cS nm pa va fs=0/\fY fd (rB va fs)
theorem L6{fs gs:List eY}(h:L4 Qfq fs gs)(hv:∀f,f∈fs->cS f.nm f.pa f.va f.bF=0)(bg:List bo)(inp:ah)(fuel:Int):YC fs gs bg inp fuel:=by
 refine TR h.beh (λg hg=>(h.ok g hg).2.2) λE E' f g hE hf h1 h3 h4 h5=> ?_
 obtain⟨nm',pa',Yq,hv',XI⟩:=h5;obtain⟨hg,_,iX⟩:=kh (hv f hf);obtain⟨kn,hq⟩:=Jh hv';have hto:=TT (Qhm hq.e0) XI;exact⟨_,Qdr hE hg iX hq.zL hq.tight (Qdg hg hv') rfl hto (λk hk=>L3 hk) (λk hk=>L3 (x:=g) hk) rfl rfl h3 h4⟩
theorem vd{a b:bo}:a.toList=b.toList↔a=b:=by
 constructor
 ·intro h;rw[Cn,Cn]at h;exact Qhq h
 ·intro h;rw[h]
structure mv where
 ov:Bool
 k:Int
 c:Int
 s:dT
 N:Int
 V:Int
def er(s:dT):dT:=⟨[],0,0,s.out,s.steps,0⟩
section
variable{α β:Type}
def eH.no(g:eH α):eH α:=match g with
 | .ok a s=> .ok a s
 | .stop k c s=> .stop k c (er s)
def gn(a b:eH α):Prop:=a.no=b.no
def mv.go(z:mv)(K:dT->eH α):eH α:=if z.ov then .stop z.k z.c z.s else K z.s
def mv.fin(z:mv)(k c:Int):mv:=if z.ov then z else {z with ov:=true,k:=k,c:=c}
variable{a b:eH α}{G:eH β}{z z':mv}{A:dT -> eH α}{K K':dT -> eH β}{F:α -> dT -> eH β}{x:α}{k c:Int}
theorem gn.bind(h:gn a b)(F:α->dT->eH β):gn (a.bind F) (b.bind F):=by
 unfold gn eH.no at h;cases a<;>cases b<;>simp only[eH.ok.injEq,eH.stop.injEq,reduceCtorEq]at h
 ·obtain⟨rfl,rfl⟩:=h;exact rfl
 ·obtain⟨rfl,rfl,h⟩:=h;show eH.stop _ _ (er _)=eH.stop _ _ (er _);rw[h]
theorem Rw:(z.go A).bind F=z.go λs=>(A s).bind F:=by
 unfold mv.go;split<;>rfl
theorem wZ(h:z.ov=false):z.go K=K z.s:=by unfold mv.go;rw[h];rfl
theorem yy(h:z.ov=true):z.go K= .stop z.k z.c z.s:=by unfold mv.go;rw[h];rfl
theorem gn.step(hr:gn G (z.go λs=>(A s).bind F))(h:gn (z.go A) (z'.go (eH.ok x))):gn G (z'.go (F x)):=by
 have h2:=h.bind F;rw[Rw,Rw]at h2;exact Eq.trans hr h2
theorem gn.tail{A:dT->eH β}{x:β}(hr:gn G (z.go A))(h:gn (z.go A) (z'.go (eH.ok x))):gn G (z'.go (eH.ok x)):=Eq.trans hr h
theorem gn.TU(h:z.ov=true)(hr:gn G (z.go K)):gn G (z.go K'):=by
 rw[yy h]at hr⊢;exact hr
theorem gn.Ns(h:∀s,K s=K' s)(hr:gn G (z.go K)):gn G (z.go K'):=by
 have:K=K':=funext h;rw[<-this];exact hr
theorem gn.to(hr:gn G (z.go K))(hz:z.ov=false)(hz':z'.ov=false)(h:K z.s=K' z'.s):gn G (z'.go K'):=by
 rw[wZ hz]at hr;rw[wZ hz',<-h];exact hr
theorem Pg:(z.fin k c).ov=true:=by
 unfold mv.fin;cases h:z.ov
 ·rfl
 ·exact h
theorem YI(h:z.ov=true):z.fin k c=z:=by unfold mv.fin;rw[h];rfl
theorem Rx(h:z.ov=false):z.fin k c={z with ov:=true,k:=k,c:=c}:=by unfold mv.fin;rw[h];rfl
theorem Ez:(z.fin k c).s=z.s:=by
 unfold mv.fin;cases z.ov<;>rfl
theorem gn.fin(hr:gn G (z.go K))(h:z.ov=false->gn (K z.s) (.stop k c z.s)):gn G ((z.fin k c).go K'):=by
 cases hz:z.ov with
 |true=>
  have e:z.fin k c=z:=by unfold mv.fin;rw[hz];rfl
  rw[e];exact hr.TU hz
 |false=>
  have e:z.fin k c={z with ov:=true,k:=k,c:=c}:=by unfold mv.fin;rw[hz];rfl
  rw[e,yy rfl];rw[wZ hz]at hr;exact Eq.trans hr (h hz)
theorem gn.got(h:gn (z.go A) (z'.go (eH.ok x)))(hz:z'.ov=false):z.ov=false/\A z.s= .ok x z'.s:=by
 rw[wZ hz]at h;cases hv:z.ov with
 |true=>rw[yy hv]at h;unfold gn eH.no at h;cases h
 |false=>
  rw[wZ hv]at h;refine⟨rfl,?_⟩;unfold gn eH.no at h;cases hA:A z.s with
  |ok y s=>rw[hA]at h;exact h
  |stop k c s=>rw[hA]at h;cases h
end
def LI(l:ah):Prop:=∀x,x∈l->In64 x
def MI(s:dT):Prop:=LI s.mem/\0<=s.next/\s.next<=262144
theorem gdI{l:ah}(h:LI l)(i:Nat):In64 (l.getD i 0):=by
 by_cases hi:i<ae l
 ·have:l.getD i 0=l[i]:=by simp[List.getD,hi]
  rw[this];exact h _ (p7 hi)
 ·have:l.getD i 0=0:=by simp[List.getD,hi]
  rw[this];exact jf
theorem EA{l:ah}{i:Nat}{v:Int}(h:LI l)(hv:In64 v):LI (l.set i v):=λx hx=>by
 rcases H5 hx with h1|h1
 ·exact h x h1
 ·rw[h1];exact hv
def KI{α:Type}(p:α->Prop)(s:dT)(g:eH α):Prop:=MI s->∀x s',g= .ok x s'->MI s'/\p x
section
variable{α β:Type}{p:α -> Prop}{q:β -> Prop}{s s2:dT}
theorem KI.bind{g:eH α}{f:α->dT->eH β}(h:KI p s g)(hf:∀x s2,p x->KI q s2 (f x s2)):KI q s (g.bind f):=by
 intro hs x s' he;cases hg:g with
 |ok y s2=>
  rw[Ys hg]at he;obtain⟨h1,h2⟩:=h hs y s2 hg;exact hf y s2 h2 h1 x s' he
 |stop k c s2=>rw[Pb hg]at he;cases he
theorem KI.ok{x:α}(hm:MI s->MI s2)(h:p x):KI p s (.ok x s2):=λhs y s' he=>by injection he with h1 h2;rw[<-h1,<-h2];exact⟨hm hs,h⟩
theorem KI.stop{k c:Int}:KI p s (.stop k c s2:eH α):=λ_ y s' he=>by cases he
theorem KI.ite{P:Prop}[Decidable P]{a b:eH α}(ha:P->KI p s a)(hb:¬P->KI p s b):KI p s (if P then a else b):=by
 split
 ·exact ha ‹_›
 ·exact hb ‹_›
theorem KI.same{g:eH α}(hm:MI s->MI s2)(h:KI p s2 g):KI p s g:=λhs=>h (hm hs)
end
section
variable{E:Qdj}{s:dT}{loc:List Int}
theorem Ry{E:Env0}{s:dT}:KI (λ_=>True) s (ey E s):=by
 unfold ey;exact .ite (λ_=> .stop) (λ_=> .ok id trivial)
end
section
variable{E:Qdj}{loc:List Int}
theorem Qfr{l:ah}(h:LI l):In64 (a0 l):=gdI h 0
theorem Qds{l:ah}(h:LI l):LI l.tail:=λx hx=>h x (mem_of_mem_tail hx)
end
def xv(E:Env0)(z:mv)(b:Int)(L:ah):Prop:=z.ov=true\/(E.fuel-z.s.steps<b/\MI z.s/\(0<=z.s.opened/\z.s.opened<=1200)/\LI L)
section
variable{α:Type}{E:Env0}{z z':mv}{b:Int}{L L':List Int}{A:dT -> eH α}{x:α}{p:α -> Prop}
theorem xv.Qdt(h:xv E z b L){b':Int}(hb:b<=b')(hL:∀x,x∈L'->x∈L\/In64 x):xv E z b' L':=h.imp id fun⟨h1,h2,h3,h4⟩=>⟨oM,h2,h3,λx hx=>(hL x hx).elim (h4 x) id⟩
theorem xv.call(h:xv E z b L)(hk:Yt z.s (A z.s))(hi:LI L->KI p z.s (A z.s))(he:gn (z.go A) (z'.go (eH.ok x)))(hL:LI L->p x->LI L'):xv E z' b L':=by
 cases hz:z'.ov with
 |true=>exact .inl hz
 |false=>
  obtain⟨h1,h2⟩:=he.got hz;rcases h with h|⟨h3,h4,h5,h6⟩
  ·rw[h]at h1;cases h1
  ·obtain⟨h7,h8⟩:=hk _ _ h2;obtain⟨h9,Cp⟩:=hi h6 h4 _ _ h2;exact .inr ⟨oM,h9,by rw[h8];exact h5,hL h6 Cp⟩
theorem xv.in_(h:xv E z b L)(hz:z.ov=false){x:Int}(hx:x∈L):In64 x:=by
 rcases h with h|h
 ·rw[h]at hz;cases hz
 ·exact h.2.2.2 x hx
theorem xv.run(h:xv E z b L)(hz:z.ov=false):E.fuel-z.s.steps<b/\MI z.s/\(0<=z.s.opened/\z.s.opened<=1200)/\LI L:=by
 rcases h with h|h
 ·rw[h]at hz;cases hz
 ·exact h
end
section
variable{E:Qdj}{z z':mv}{b:Int}{loc L:List Int}{g:Nat}
theorem xv.step(h:xv E.toEnv0 z (b+1) L)(hz:z'.ov=false)(he:gn (z.go (ey E.toEnv0)) (z'.go (eH.ok ()))):xv E.toEnv0 z' b L:=by
 obtain⟨h1,h2⟩:=he.got hz;obtain⟨h3,h4,h5,h6⟩:=h.run h1;have h7:=LZ h2;unfold ey at h2;split at h2
 ·cases h2
 ·injection h2 with _ h2;refine .inr ⟨by omega,?_,by rw[h7.2];exact h5,h6⟩;rw[<-h2];exact h4
end
def Jo{α:Type}(key:α->bo)(l:List α)(nm:bo)(j:Nat):Prop:=∀i x,i<j->l[i]?=some x->key x≠nm
section
variable{α:Type}{key:α -> ByteArray}{l:List α}{nm:ByteArray}{j:Nat}{x:α}
theorem Jo.zero:Jo key l nm 0:=λi _ hi=>absurd hi (eL i)
theorem Jo.next(h:Jo key l nm j)(hx:l[j]?=some x)(hc:¬(key x).toList=nm.toList):Jo key l nm (j+1):=λi y hi hy=>by
 by_cases e:i=j
 ·subst e;rw[hx]at hy;injection hy with hy;subst hy;exact λh=>hc (by rw[h])
 ·exact h i y oM hy
end
theorem zP{nm:bo}{v:Int}:∀(l:List (bo×Int)) (j:Nat),l[j]?=some (nm,v)->Jo (·.1) l nm j->jd l nm=some v
 |[],j,h,_=>by simp at h
 |(k,u)::r,0,h,_=>by simp only[getElem?_cons_zero,eO,dg]at h;obtain⟨rfl,rfl⟩:=h;unfold jd;rw[BEq.rfl]
 |(k,u)::r,j+1,h,hn=>by have h0:=hn 0 (k,u) oM rfl;unfold jd;rw[xR.2 (λe=>h0 e.symm)];exact zP r j (by simpa using h) (λi x hi hx=>hn (i+1) x oM (by simpa using hx))
theorem YJ{nm:bo}{l:List (bo×Int)}(h:Jo (·.1) l nm (ae l)):jd l nm=none:=Ls λhm=>by
 obtain⟨p,hp,he⟩:=aO.1 hm;obtain⟨i,hi⟩:=bq.1 hp;exact h i p (aW.1 hi).1 hi he
section
variable{cs:List Eu}{ds:List cR}{j:Nat}{f:Eu}{d:cR}{nm:ByteArray}
theorem xd:(gJ ds (ae ds))[j]?=(ds[j]?).map λd=>(d.nm,(cc ds j:Int)):=by
 unfold gJ;rw[gC,aL,l6];cases ds[j]?<;>simp
theorem YK(h:Jo cR.nm ds nm j):Jo (·.1) (gJ ds (ae ds)) nm j:=λi p hi hp=>by
 rw[xd]at hp;cases hc:ds[i]? with
 |none=>rw[hc]at hp;cases hp
 |some f=>
  rw[hc]at hp;simp only[ft,eO]at hp;rw[<-hp];exact h i f hi hc
theorem QhB(hf:ds[j]?=some d)(he:d.nm.toList=nm.toList)(h:Jo cR.nm ds nm j):jd (gJ ds (ae ds)) nm=some (cc ds j:Int):=zP _ j (by rw[xd,hf];simp only[ft,vd.1 he]) (YK h)
theorem YL(h:Jo cR.nm ds nm (ae ds)):jd (gJ ds (ae ds)) nm=none:=by
 refine YJ ?_;have:ae (gJ ds (ae ds))=ae ds:=by unfold gJ;simp
 rw[this];exact YK h
end
theorem CS{x:Int}(h:In64 x):IntKind.i64.wrap x=x:=HQ x h
theorem YM{x:Int}(h:9223372036854775807<x)(h2:x<=9223372041149743103):IntKind.i64.wrap x=x-18446744073709551616:=by
 have e:x % 18446744073709551616=x:=Int.emod_eq_of_lt oM oM;unfold IntKind.wrap;simp only[IntKind.signed,IntKind.bits,Bool.true_and];show(if decide (x % 18446744073709551616>=9223372036854775808)=true then x % 18446744073709551616-18446744073709551616 else x % 18446744073709551616)=_;rw[e,ax (by rw[aU];omega)]
theorem YN{a n:Int}{s:dT}(h1:¬a< -2147483647)(h2:¬a>s.next)(h3:¬a+n<1)(h4:¬a+n>=s.next)(hn:s.next<=262144):yR (IntKind.i64.wrap (a+n)) s= .ok (a+n).toNat s:=by
 rw[CS ⟨oM,oM⟩];unfold yR;rw[ao oM]
theorem Qdu{a n:Int}{s:dT}(ha:In64 a)(h0:0<=n)(h1:n<=2147483647)(h:a< -2147483647\/a>s.next\/a+n<1\/a+n>=s.next)(hs:1<=s.next)(hn:s.next<=262144):yR (IntKind.i64.wrap (a+n)) s= .stop 5 0 s:=by
 have ON:=ha.1;have Iv:=ha.2;unfold yR;by_cases hb:a+n<=9223372036854775807
 ·rw[CS ⟨oM,hb⟩,ax oM]
 ·rw[YM oM oM,ax oM]
def th(ds:List cR)(j:Nat):ah:=(List.range j).map λi=>(cc ds i:Int)
theorem YO{ds:List cR}{j:Nat}:ae (th ds j)=j:=by unfold th;simp
theorem YP{ds:List cR}{j i:Nat}(h:i<j):(th ds j)[i]?=some (cc ds i:Int):=by
 unfold th;rw[aL,nN h];rfl
def TV(op a b:Int)(s:dT):eH Int:=if(cW op a b).2=0 then .ok (cW op a b).1 s else .stop 2 (cW op a b).2 s
section
variable{op a b:Int}
theorem YQ(h:op=4\/op=5)(hb:b=0):cW op a b=(0,3):=by rw[tW h,GH hb]
theorem YR(h:op=4)(hb:b= -1):cW op a b=(IntKind.i64.wrap (0-a),0):=by rw[tW (.inl h),GI hb h]
theorem YS(h:op=5)(hb:b= -1):cW op a b=(0,0):=by rw[tW (.inr h),GJ hb oM]
theorem YT(h:op=4)(h1:b≠0)(h2:b≠-1):cW op a b=(IntKind.i64.wrap (a.tdiv b),0):=by rw[tW (.inl h),GK h1 h2 h]
theorem YU(h:op=5)(h1:b≠0)(h2:b≠-1):cW op a b=(a.tmod b,0):=by rw[tW (.inr h),GL h1 h2 oM]
end
theorem Rz(b:Int):IntKind.u64.wrap (yc b 63)=yd b:=by
 have h63:(BitVec.ofInt 64 63).toNat=63:=dQ;have hw:BitVec.ofInt 64 (IntKind.u64.wrap b)=BitVec.ofInt 64 b:=by
  apply Dj;have e:IntKind.u64.wrap b=b % 18446744073709551616:=by unfold IntKind.wrap;simp[IntKind.signed,IntKind.bits]
  rw[e];simp only[BitVec.toNat_ofInt];congr 1;exact Int.emod_emod_of_dvd b dQ
 unfold yd yc;rw[hw];generalize hx:(BitVec.ofInt 64 b&&&BitVec.ofInt 64 63).toNat=x;have hle:x<=63:=by rw[<-hx,BitVec.toNat_and,h63];exact Nat.and_le_right
 rw[CS ⟨oM,oM⟩]
theorem YV{l:List (bo×Int)}{nm:bo}(h:(jd l nm).getD 0=0)(hn:∀n,jd l nm=some n->1<=n):jd l nm=none:=by
 cases hq:jd l nm with
 |none=>rfl
 |some n=>
  have:=hn n hq;rw[hq]at h;have h2:n=0:=h;omega
theorem YW{l:ah}(h:0<ae l):a0 l∈l:=by
 cases l with
 |nil=>cases h
 |cons x r=>exact cK ..
structure L7(E:Env0):Prop where
 names:∀nm n,jd E.names nm=some n->In64 n
 data:∀nm n,jd E.data nm=some n->In64 n
 inp:LI E.inp
 next:E.cJ<=262144
 fns:∀f,f∈E.fns->f.WF
section
variable{E:Env0}{call:Int -> List Int -> dT -> eH Int}
theorem YX{n:Int}{s:dT}:KI (λ_=>True) s (yR n s):=by unfold yR;exact .ite (λ_=> .stop) (λ_=> .ok id trivial)
theorem Qky{l:ah}(h:LI l):In64 (a1 l):=gdI h 1
theorem Jp{bN args:ah}(h:LI bN):LI (gb bN args):=λx hx=>by
 obtain⟨v,_,rfl⟩:=aO.1 hx;exact gdI h _
theorem RB(hE:L7 E){i:aQ}{l:ah}(hn:In64 i.n)(hl:LI l)(hc:∀n l s,LI l->KI In64 s (call n l s))(s:dT):KI In64 s (cP E call i l s):=by
 unfold cP;have hE1:=hE.next;refine .ite (λ_=> .ok id hn) λ_=> .ite (λ_=> ?_) λ_=> .ite (λ_=> ?_) λ_=> .ite (λ_=> ?_) λ_=> .ite (λ_=>hc _ _ s (Qds hl)) λ_=> .ite (λ_=> ?_) λ_=> .ite (λ_=> ?_) λ_=> .ite (λ_=> ?_) λ_=>
  .ite (λ_=> .ite (λ_=> .ok id (gdI hE.inp _)) (λ_=> .ok id ⟨dQ,dQ⟩)) λ_=> .ite (λ_=> ?_) λ_=> .ite (λ_=> .ite (λ_=> .stop) (λ_=> .ok id jf)) λ_=> .ite (λ_=> .ok id (Qfr hl)) λ_=>
  .ite (λ_=> .ok id Qfk) λ_=> .ite (λ_=> .ok id (Yl (Qfr hl))) (λ_=> .stop)
 ·exact YX.bind λk s2 _=>λhs=>(KI.ok id (gdI hs.1 _):KI In64 s2 _) hs
 ·exact YX.bind λk s2 _=> .ok (λhm=>⟨EA hm.1 (Qky hl),hm.2⟩) jf
 ·split
  ·exact hc _ _ s hl
  ·exact .stop
 ·split
  ·exact .ok id (hE.data _ _ ‹_›)
  ·exact .stop
 ·split
  ·exact .ok id (hE.names _ _ ‹_›)
  ·exact .stop
 ·intro hs x s' he;have h1:=hs.2.1;have h2:=hs.2.2;split at he
  ·cases he
  split at he
  ·cases he
  injection he with he1 he2;rw[<-he1,<-he2];exact⟨⟨hs.1,by show 0<=s.next+a0 l;omega,by show s.next+a0 l<=262144;omega⟩,yp h1 oM⟩
 ·exact .ok (λh=>by split<;>exact h) jf
theorem L8(hE:L7 E)(hc:∀n l s,LI l->KI In64 s (call n l s)):∀(is:List aQ),(∀i,i∈is->In64 i.n)->∀(v:ah) (s:dT),LI v->KI LI s (dZ E call is v s)
 |[],_,_,_,hv=> .ok id hv
 |i::r,h,v,s,hv=>by
  refine Ry.bind λ_ s _=>(RB hE (h i (cK ..)) (Jp hv) hc s).bind λu s hu=> ?_
  refine L8 hE hc r (λj hj=>h j (cr _ hj)) _ s ?_;split
  ·exact EA hv hu
  ·exact hv
theorem Hj:∀(ps:List (Int×Int)) (v:ah),LI v->(∀p,p∈ps->In64 p.2)->LI (lL v ps)
 |[],_,h,_=>h
 |(d,u)::r,v,h,hp=>Hj r _ (EA h (hp (d,u) (cK ..))) (λp hx=>hp p (cr _ hx))
theorem RD{ps:List cV}{a:Nat}{v:ah}(h:LI v):LI (kv ps a v):=Hj _ _ h (λp hp=>by
 obtain⟨q,_,rfl⟩:=aO.1 hp;exact gdI h _)
def xe(E:Env0)(call:Int->ah->dT->eH Int)(x:aG)(bN:ah)(s:dT):eH (Int×Int×ah):=(dZ E call x.insts bN s).bind λbN s=>(ey E s).bind λ_ s=>
  if x.e=0 then .ok (x.a,0,bN) s
  else if x.e=1 then .ok (if bN.getD x.v.toNat 0≠0 then x.a else x.b,0,bN) s
  else if x.e=3 then .stop 2 x.a s
  else .ok (-1,if x.v>=0 then bN.getD x.v.toNat 0 else 0,bN) s
theorem RE{f:gg}{k fr:Int}{v:ah}{s:dT}{x:aG}(hx:f.bF[k.toNat]?=some x):iH E call f k fr v s=xe E call x (kv x.ak (gI (f.src k.toNat) fr) v) s:=by
 unfold iH xe;rw[hx]
theorem Qdv(hE:L7 E)(hc:∀n l s,LI l->KI In64 s (call n l s)){x:aG}(hx:x.Ok){v:ah}(hv:LI v)(s:dT):KI (λr=>In64 r.2.1/\LI r.2.2) s (xe E call x v s):=by
 unfold xe;refine(L8 hE hc _ (λi hi=>(hx.insts i hi).n) v s hv).bind λu s hu=>Ry.bind λ_ s _=> ?_
 refine .ite (λ_=> .ok id ⟨jf,hu⟩) λ_=> .ite (λ_=> .ok id ⟨jf,hu⟩) λ_=> .ite (λ_=> .stop) λ_=> .ok id ⟨?_,hu⟩
 show In64 (if x.v>=0 then u.getD x.v.toNat 0 else 0);split
 ·exact gdI hu _
 ·exact jf
def Hk(E:Env0)(g:Nat)(f:gg)(k:Int)(x:aG)(v:ah)(s:dT):eH Int:=(xe E (cX E g) x v s).bind λr s=>if r.1<0 then .ok r.2.1 {s with opened:=s.opened-1}else lT E g f r.1 k r.2.2 s
theorem L9{g:Nat}{f:gg}{k fr:Int}{v:ah}{s:dT}{x:aG}(hx:f.bF[k.toNat]?=some x):lT E (g+1) f k fr v s=Hk E g f k x (kv x.ak (gI (f.src k.toNat) fr) v) s:=by
 rw[oL];unfold Hk;rw[RE hx]
theorem Jq(hE:L7 E):∀(g:Nat) (f:gg) (k fr:Int) (v:ah) (s:dT),f.WF->LI v->KI In64 s (lT E g f k fr v s)
 |0,_,_,_,_,_,_,_=> .stop
 |g+1,f,k,fr,v,s,hW,hv=>by
  have hc:∀n l s,LI l->KI In64 s (cX E g n l s):=λn l s hl=>by
   unfold cX je;refine .ite (λ_=> .stop) λ_=> ?_
   split
   ·exact .stop
   rename_i q hq;refine .ite (λ_=> .stop) λ_=> .ite (λ_=> .stop) λ_=> ?_
   exact KI.same (s2:={s with opened:=s.opened+1}) id (Jq hE g q 0 (-1) _ _ (hE.fns q (aI hq)) (λx hx=>by
    rcases bV.1 hx with hx|hx
    ·exact hl x hx
    ·rw[(yu.1 hx).2];exact jf))
  rw[oL];cases hx:f.bF[k.toNat]? with
  |none=>
   have:iH E (cX E g) f k fr v s= .stop 5 0 s:=by unfold iH;rw[hx]
   rw[this];exact KI.stop
  |some x=>
   rw[RE hx];refine(Qdv hE hc (hW.ok x (aI hx)) (RD hv) s).bind λr s hr=> .ite (λ_=> .ok id hr.1) (λ_=>Jq hE g f _ _ _ s hW hr.2)
theorem Ma(hE:L7 E)(g:Nat)(n:Int)(l:ah)(s:dT)(hl:LI l):KI In64 s (cX E g n l s):=by
 unfold cX je;refine .ite (λ_=> .stop) λ_=> ?_
 split
 ·exact .stop
 rename_i q hq;refine .ite (λ_=> .stop) λ_=> .ite (λ_=> .stop) λ_=> ?_
 exact KI.same (s2:={s with opened:=s.opened+1}) id (Jq hE g q 0 (-1) _ _ (hE.fns q (aI hq)) (λx hx=>by
  rcases bV.1 hx with hx|hx
  ·exact hl x hx
  ·rw[(yu.1 hx).2];exact jf))
theorem Ph(g:Nat)(n:Int)(l:ah)(s:dT):Yt s (cX E g n l s):=λx s' h=>⟨GV g n l s x s' h,D9 g n l s x s' h⟩
theorem YY{g:Nat}{l:ah}{nm:bo}{s:dT}:(match jd E.names nm with|some n=>cX E g n l s|none=> .stop 5 0 s)=cX E g ((jd E.names nm).getD 0) l s:=by
 cases jd E.names nm with
 |some n=>rfl
 |none=>
  show eH.stop 5 0 s=je E (lT E g) 0 l s;rw[o0 (.inl dQ)]
end
structure Qdw extends Env0
abbrev Qdw.qF(E:Qdw):List gg:=E.fns
structure RX where
 E:Qdw
 ds:List cR
 r:Nat
 fA:ar
 fc:Nat
 qA:ar
 qc:Nat
 dA:ar
 dc:Nat
 pA:ar
 pc:Nat
 mG:Nat
 iA:ar
 ic:Nat
abbrev Jr(X:RX)(z:mv)(oA:ar)(oc:Nat):bh:=[.slice X.dA (ae X.ds) X.dc,.slice X.pA (ae X.ds) X.pc,.slice (some (aZ X.mG)) X.E.cJ X.E.cJ,vI z.s.next,.slice X.iA (ae X.E.inp) X.ic,vI (z.s.pos:Int),.int .i64 z.k,vI z.c,.slice oA (ae z.s.out) oc,vI z.s.steps,.bool z.ov,vI X.E.fuel,vI z.s.opened,.slice X.fA (ae X.E.qF) X.fc,.slice X.qA (ae X.E.qF) X.qc]
abbrev TW(X:RX)(z:mv)(oA:ar)(oc:Nat):bD:= .aM X.r 138 (Jr X z oA oc)
abbrev Mb(X:RX)(z:mv):bD:= .row 2 1 (some (aZ X.mG)) X.E.cJ X.E.cJ (ints z.s.mem)
abbrev J6(z:mv)(oA:ar)(oc:Nat):bD:= .row 5 1 oA (ae z.s.out) oc (vK z.s.out)
abbrev fJ(X:RX)(z:mv)(oA:ar)(oc:Nat):List bD:=[.aM X.r 138 (Jr X z oA oc),.row 2 1 (some (aZ X.mG)) X.E.cJ X.E.cJ (ints z.s.mem),.row 5 1 oA (ae z.s.out) oc (vK z.s.out)]
def RX.T(X:RX):List bD:=X.E.fns.map (λf=>bD.fn f.A f.bF)++(X.E.fns.map (λf=>bD.rd f.qA (QcF f))++X.E.fns.flatMap (λf=>f.bO.map (λq=>bD.rd q.1 (ints q.2.2))))
def RX.ro(X:RX):bD:= .all (.qU X.fA 5 (X.E.qF.map gg.cells):: .qU X.dA 4 (X.ds.map cR.cells):: .rd X.pA (ints (th X.ds (ae X.ds))):: .rd X.iA (vK X.E.inp):: .rd X.qA (X.E.fns.map (λf=> .slice f.qA (ae f.bO) f.qc))::X.T)
section
variable{S:Nat -> Prop}{w:World}{X:RX}
theorem RO.TX(h:RO S w X.ro):RO S w (.qU X.fA 5 (X.E.qF.map gg.cells)):=h.sub (cK ..)
theorem RO.Qkz(h:RO S w X.ro):RO S w (.qU X.dA 4 (X.ds.map cR.cells)):=h.sub (.tail _ (cK ..))
theorem RO.xpl(h:RO S w X.ro):RO S w (.rd X.pA (ints (th X.ds (ae X.ds)))):=h.sub (.tail _ (.tail _ (cK ..)))
theorem RO.xin(h:RO S w X.ro):RO S w (.rd X.iA (vK X.E.inp)):=h.sub (.tail _ (.tail _ (.tail _ (cK ..))))
theorem RO.xq(h:RO S w X.ro):RO S w (.rd X.qA (X.E.fns.map (λf=> .slice f.qA (ae f.bO) f.qc))):=h.sub (.tail _ (.tail _ (.tail _ (.tail _ (cK ..)))))
theorem RO.xfn(h:RO S w X.ro){f:gg}(hf:f∈X.E.fns):RO S w (.fn f.A f.bF):=h.sub (.tail _ (.tail _ (.tail _ (.tail _ (.tail _ (ej _ (aO.2 ⟨f,hf,rfl⟩)))))))
theorem RO.xsv(h:RO S w X.ro){f:gg}(hf:f∈X.E.fns):RO S w (.rd f.qA (QcF f)):=h.sub (.tail _ (.tail _ (.tail _ (.tail _ (.tail _ (kF _ (ej _ (aO.2 ⟨f,hf,rfl⟩))))))))
theorem RO.xs(h:RO S w X.ro){f:gg}(hf:f∈X.E.fns){q:ar×Nat×ah}(hq:q∈f.bO):RO S w (.rd q.1 (ints q.2.2)):=h.sub (.tail _ (.tail _ (.tail _ (.tail _ (.tail _ (kF _ (kF _ (fG.2 ⟨f,hf,aO.2 ⟨q,hq,rfl⟩⟩))))))))
end
def nmR(qs:List gg):List (bo×Int):=qs.zipIdx.map λp=>(p.1.nm,((p.2+1:Nat):Int))
section
variable{qs:List gg}{j:Nat}{f:gg}{nm:ByteArray}
theorem CT:(nmR qs)[j]?=(qs[j]?).map λf=>(f.nm,((j+1:Nat):Int)):=by
 unfold nmR;rw[aL,l6];cases qs[j]?<;>simp
theorem YZ(h:Jo gg.nm qs nm j):Jo (·.1) (nmR qs) nm j:=λi p hi hp=>by
 rw[CT]at hp;cases hc:qs[i]? with
 |none=>rw[hc]at hp;cases hp
 |some f=>
  rw[hc]at hp;simp only[ft,eO]at hp;rw[<-hp];exact h i f hi hc
theorem QhC(hf:qs[j]?=some f)(he:f.nm.toList=nm.toList)(h:Jo gg.nm qs nm j):jd (nmR qs) nm=some ((j+1:Nat):Int):=zP _ j (by rw[CT,hf];simp only[ft,vd.1 he]) (YZ h)
theorem Y0(h:Jo gg.nm qs nm (ae qs)):jd (nmR qs) nm=none:=by
 refine YJ ?_;have:ae (nmR qs)=ae qs:=by unfold nmR;simp
 rw[this];exact YZ h
theorem Y1{n:Int}(h:jd (nmR qs) nm=some n):1<=n/\n<=ae qs:=by
 obtain⟨i,hi⟩:=bq.1 (Q5 h);rw[CT]at hi;cases hd:qs[i]? with
 |none=>rw[hd]at hi;cases hi
 |some d=>
  rw[hd]at hi;simp only[ft,eO,dg]at hi;have:=(aW.1 hd).1;omega
end
structure RX.WF(X:RX):Prop where
 fns:∀f,f∈X.E.fns->f.WF
 Qdx:ae X.E.qF<=1000
 nds:ae X.ds<=1000000
 next:cc X.ds (ae X.ds)<=262144
 names:X.E.names=nmR X.E.fns
 data:X.E.data=gJ X.ds (ae X.ds)
 mem:X.E.cJ<=262144
 fuel:0<=X.E.fuel/\X.E.fuel<=4194304
 inp:ae X.E.inp<=4096
 ic:ae X.E.inp<=X.ic
 bytes:∀b,b∈X.E.inp->0<=b/\b<=255
 nd:∀f,f∈X.E.fns->∀k,(f.src k).Nodup
structure fC(X:RX)(z:mv):Prop where
 mem:ae z.s.mem=X.E.cJ
 n1:1<=z.s.next
 n2:z.s.next<=X.E.cJ
 pos:z.s.pos<=ae X.E.inp
 out:ae z.s.out<=4096
 s1:0<=z.s.steps
 s2:z.s.steps<=X.E.fuel
theorem Hl{ds:List cR}{nm:bo}{n:Int}(h:jd (gJ ds (ae ds)) nm=some n):∃j,j<ae ds/\n=(cc ds j:Int):=by
 obtain⟨i,hi⟩:=bq.1 (Q5 h);rw[xd]at hi;cases hd:ds[i]? with
 |none=>rw[hd]at hi;cases hi
 |some d=>
  rw[hd]at hi;simp only[ft,eO,dg]at hi;exact⟨i,(aW.1 hd).1,hi.2.symm⟩
section
variable{X:RX}{z:mv}
theorem RX.WF.ein(h:X.WF):L7 X.E.toEnv0 where
 names nm n hn:=by rw[h.names]at hn;have:=Y1 hn;have:ae X.E.fns<=1000:=h.Qdx;exact yp oM oM
 data nm n hn:=by rw[h.data]at hn;obtain⟨j,hj,rfl⟩:=Hl hn;have:=uh (ds:=X.ds) (Nat.le_of_lt hj);have:=h.next;exact yp oM oM
 inp b hb:=by have:=h.bytes b hb;exact yp this.1 oM
 next:=h.mem;fns f hf:=h.fns f hf
theorem Y2(hX:X.WF){p:Nat}:0<=X.E.inp.getD p 0/\X.E.inp.getD p 0<=255:=by
 by_cases h:p<ae X.E.inp
 ·have:X.E.inp.getD p 0=X.E.inp[p]:=by simp[List.getD,h]
  rw[this];exact hX.bytes _ (p7 h)
 ·have:X.E.inp.getD p 0=0:=by simp[List.getD,h]
  rw[this];omega
theorem fC.fin(h:fC X z){k c:Int}:fC X (z.fin k c):=⟨by rw[Ez];exact h.mem,by rw[Ez];exact h.n1,by rw[Ez];exact h.n2,by rw[Ez];exact h.pos,by rw[Ez];exact h.out,by rw[Ez];exact h.s1,by rw[Ez];exact h.s2⟩
theorem fC.step(h:fC X z)(hn:¬z.s.steps=X.E.fuel):fC X {z with s:={z.s with steps:=z.s.steps+1}}:=⟨h.mem,h.n1,h.n2,h.pos,h.out,by have:=h.s1;show 0<=z.s.steps+1;omega,by have:=h.s2;show z.s.steps+1<=_;omega⟩
theorem fC.take(h:fC X z){n:Int}(h0:0<=n)(h1:n<=(X.E.cJ:Int)-z.s.next):fC X {z with s:={z.s with next:=z.s.next+n}}:=⟨h.mem,by have:=h.n1;show 1<=z.s.next+n;omega,by show z.s.next+n<=_;omega,h.pos,h.out,h.s1,h.s2⟩
theorem fC.read(h:fC X z)(hp:z.s.pos<ae X.E.inp):fC X {z with s:={z.s with pos:=z.s.pos+1}}:=⟨h.mem,h.n1,h.n2,hp,h.out,h.s1,h.s2⟩
theorem fC.write(h:fC X z)(hp:ae z.s.out<4096)(b:Int):fC X {z with s:={z.s with out:=z.s.out++[b]}}:=⟨h.mem,h.n1,h.n2,h.pos,by show ae (z.s.out++[b])<=_;rw[dG];exact hp,h.s1,h.s2⟩
theorem fC.set(h:fC X z)(k:Nat)(v:Int):fC X {z with s:={z.s with mem:=z.s.mem.set k v}}:=⟨by show ae (z.s.mem.set k v)=_;rw[lj];exact h.mem,h.n1,h.n2,h.pos,h.out,h.s1,h.s2⟩
theorem Y3{w:World}{A:ar}{ad:Addr}{l:ah}{p:Nat}(h:(bD.rd A (vK l)).holds w)(hA:A=some ad)(hp:p<ae l):w.cell? (ad.add (((p:Int)+1-1).toNat*1))=some (.int .u8 (l.getD p 0)):=by
 have e:((p:Int)+1-1).toNat=p:=oM;rw[e];have h1:(vK l)[p]?=some (.int .u8 (l.getD p 0)):=by unfold vK;rw[aL,dF hp];simp[List.getD,hp]
 exact bW h hA h1
theorem EB{oA:ar}{oc:Nat}{b:Bool}(h:z.ov=b):fJ X z oA oc=[.aM X.r 138 (.slice X.dA (ae X.ds) X.dc:: .slice X.pA (ae X.ds) X.pc:: .slice (some (aZ X.mG)) X.E.cJ X.E.cJ:: .int .i64 z.s.next:: .slice X.iA (ae X.E.inp) X.ic:: .int .i64 (z.s.pos:Int):: .int .i64 z.k:: .int .i64 z.c:: .slice oA (ae z.s.out) oc:: .int .i64 z.s.steps:: .bool b:: .int .i64 X.E.fuel:: .int .i64 z.s.opened::[.slice X.fA (ae X.E.qF) X.fc,.slice X.qA (ae X.E.qF) X.qc]),.row 2 1 (some (aZ X.mG)) X.E.cJ X.E.cJ (ints z.s.mem),.row 5 1 oA (ae z.s.out) oc (vK z.s.out)]:=by
 subst h;rfl
end
abbrev xS(X:RX)(z:mv)(oA:ar)(oc:Nat):Nat->Prop:=(bD.pk (fJ X z oA oc)).fp
def XV(X:RX)(S:Nat->Prop)(w:World)(z:mv)(A:dT->eH Int)(v:Value)(w':World):Prop:=∃x z' oA oc,v=vI x/\fC X z'/\gn (z.go A) (z'.go (eH.ok x))/\Mem S w w' (fJ X z' oA oc)
def QhD(P:Program)(X:RX)(z:mv)(oA:ar)(oc:Nat)(w:World)(fn:FuncId)(args:bh)(A:dT->eH Int):Prop:=Calls P fn args.toArray w (gp (XV X (xS X z oA oc) w z A))
def RF(P:Program)(X:RX)(fn:FuncId)(call:Int->ah->dT->eH Int)(b:Int):Prop:=∀(n:Int) (l:ah) (bA:ar) (bc:Nat) (z:mv) (oA:ar) (oc:Nat) (w:World),fC X z->xv X.E.toEnv0 z b l->(bD.pk (fJ X z oA oc)).holds w->RO (xS X z oA oc) w X.ro->RO (xS X z oA oc) w (.rd bA (ints l))->ae l<=17->QhD P X z oA oc w fn [pT X.r 0,vI n,.slice bA (ae l) bc] (call n l)
def YIV(X:RX)(S:Nat->Prop)(w:World)(z:mv)(op:Int)(A:dT->eH Int)(v:Value)(w':World):Prop:=∃x z' oA oc,v=vI x/\fC X z'/\(∃x',(aJ op->x=x')/\gn (z.go A) (z'.go (eH.ok x')))/\Mem S w w' (fJ X z' oA oc)
def YBV(X:RX)(S:Nat->Prop)(w:World)(z:mv)(b0:Int)(lq m:Nat)(A:dT->eH (Int×Int×ah))(v:Value)(w':World):Prop:=∃b a bN z' oA oc,v= .tuple #[vI b,vI a]/\fC X z'/\ae bN=m/\(z'.ov=true->b= -1)/\xv X.E.toEnv0 z' b0 bN/\gn (z.go A) (z'.go (eH.ok (b,a,bN)))/\Mem S w w' (fJ X z' oA oc++[.row 2 1 (some (aZ lq)) m m (ints bN)])
abbrev yZ(X:RX)(z:mv)(oA:ar)(oc lq m:Nat)(v:ah):Nat->Prop:=(bD.pk (fJ X z oA oc++[.row 2 1 (some (aZ lq)) m m (ints v)])).fp
theorem fC.toO{X:RX}{z:mv}(h:fC X z){n:Int}:fC X {z with s:={z.s with opened:=n}}:=⟨h.mem,h.n1,h.n2,h.pos,h.out,h.s1,h.s2⟩
theorem Y4{G:eH Int}{z:mv}{x:Int}(hr:gn G (z.go λs=> .ok x {s with opened:=s.opened-1}))(h:z.ov=false->In64 (z.s.opened-1)):gn G (mv.go {z with s:={z.s with opened:=IntKind.i64.wrap (z.s.opened-1)}} (eH.ok x)):=by
 cases hv:z.ov with
 |true=>
  rw[yy hv]at hr;unfold mv.go;rw[ax rfl];exact hr
 |false=>
  rw[wZ hv]at hr;unfold mv.go;rw[ao CB,CS (h hv)];exact hr
theorem QhE{l:ah}(h:LI l){n:Nat}:LI (l++List.replicate n 0):=λx hx=>by
 rcases bV.1 hx with hx|hx
 ·exact h x hx
 ·rw[(yu.1 hx).2];exact jf
theorem QkA{l:ah}{n:Nat}:List.replicate n (vI 0)=ints (l.take 0++List.replicate (n-0) 0):=by simp[ints]
theorem QhF{l:ah}{n j:Nat}(hj:j<ae l)(hn:ae l<=n):(l.take j++List.replicate (n-j) 0).set j (l.getD j 0)=l.take (j+1)++List.replicate (n-(j+1)) 0:=by
 have e:n-j=(n-(j+1))+1:=oM;have h1:ae (l.take j)=j:=by rw[ja];omega
 have h2:l.getD j 0=l[j]:=by simp[List.getD,hj]
 rw[qi _ _ oM,h1,l5,e,p9,set_cons_zero,dh hj,dV,h2];rfl
section
variable{names data:List (ByteArray × Int)}{ds:List cR}{base m:List Int}{j k p cJ:Nat}{d:cR}{v:Int}
def TY(ds:List cR)(cJ:Nat):Nat->ah
 |0=>List.replicate cJ 0
 |j+1=>match ds[j]? with
  |none=>TY ds cJ j
  |some d=>ie (TY ds cJ j) (cc ds j) d.words
def TZ(names data:List (bo×Int))(ds:List cR)(base:ah):Nat->ah
 |0=>base
 |j+1=>match ds[j]? with
  |none=>TZ names data ds base j
  |some d=>lE names data (cc ds j) (TZ names data ds base j) d.refs
theorem Mc(h:ds[j]?=some d):TY ds cJ (j+1)=ie (TY ds cJ j) (cc ds j) d.words:=by
 show(match ds[j]? with
  |none=>TY ds cJ j
  |some d=>ie (TY ds cJ j) (cc ds j) d.words)=_
 rw[h]
theorem EC(h:ds[j]?=some d):TZ names data ds base (j+1)=lE names data (cc ds j) (TZ names data ds base j) d.refs:=by
 show(match ds[j]? with
  |none=>TZ names data ds base j
  |some d=>lE names data (cc ds j) (TZ names data ds base j) d.refs)=_
 rw[h]
theorem AQ(h:ds[j]?=some d)(hm:cc ds (ae ds)<=cJ):cc ds j+ae d.words<=cJ:=by
 have hj:=(aW.1 h).1;have:=uh (ds:=ds) (j:=j+1) (i:=ae ds) oM;rw[oe h]at this;omega
theorem RG:∀(j:Nat),j<=ae ds->cc ds (ae ds)<=cJ->ae (TY ds cJ j)=cJ
 |0,_,_=>by simp[TY]
 |j+1,hj,hm=>by obtain⟨d,hd⟩:=aP (l:=ds) (i:=j) oM;have ih:=RG j oM hm;rw[Mc hd,AI,ih];rw[ih];exact AQ hd hm
theorem Js:∀(j:Nat),ae (TZ names data ds base j)=ae base
 |0=>rfl
 |j+1=>by
  unfold TZ;split
  ·exact Js j
  ·rw[ui,Js j]
theorem Md{ws:ah}{i:Nat}(hi:i<p)(hp:p<=ae m):ie (m.set i v) p ws=(ie m p ws).set i v:=by
 unfold ie;have h1:i<ae (m.take p):=by rw[ja];omega
 rw[dV,dV,set_append_left _ _ h1,take_set,drop_set_of_lt oM]
theorem yz{ws:ah}{q:Nat}:∀(rs:List (Int×bo)) (m:ah),(∀r,r∈rs->q+r.1.toNat<p)->p<=ae m->ie (lE names data q m rs) p ws=lE names data q (ie m p ws) rs
 |[],_,_,_=>rfl
 |r::rs,m,h,hp=>by show ie (lE names data q (m.set (q+r.1.toNat) (XU names data r.2)) rs) p ws=lE names data q ((ie m p ws).set (q+r.1.toNat) (XU names data r.2)) rs;rw[yz rs _ (λx hx=>h x (cr _ hx)) (by rw[lj];exact hp),Md (h r (cK ..)) hp]
theorem AR{ws:ah}(hw:∀d,d∈ds->d.WF)(hp:p<=ae base):∀(j:Nat),j<=ae ds->cc ds j<=p->ie (TZ names data ds base j) p ws=TZ names data ds (ie base p ws) j
 |0,_,_=>rfl
 |j+1,hj,hle=>by obtain⟨d,hd⟩:=aP (l:=ds) (i:=j) oM;have hwd:=hw d (aI hd);rw[oe hd]at hle;rw[EC hd,EC hd,yz d.refs _ (λr hr=>by have:=hwd.refs r hr;omega) (by rw[Js];exact hp),AR hw hp j oM oM]
theorem RH(hw:∀d,d∈ds->d.WF)(hm:cc ds (ae ds)<=cJ):∀(j:Nat),j<=ae ds->oy names data ds cJ j=TZ names data ds (TY ds cJ j) j
 |0,_=>rfl
 |j+1,hj=>by obtain⟨d,hd⟩:=aP (l:=ds) (i:=j) oM;have h1:=AQ hd hm;rw[Ed hd,EC hd,Mc hd,RH hw hm j oM,AR hw (by rw[RG j oM hm];omega) j oM (cH _)]
theorem CU(h:cc ds (ae ds)<=cJ):lyT names data cJ ds=oy names data ds cJ (ae ds):=by unfold lyT;rw[ax h]
variable{cs:List Eu}{s:ByteArray}{f:Eu}
end
section
variable{β:Type}{E:Env0}{call:Int -> List Int -> dT -> eH Int}{G:eH β}{z z':mv}{l:List aQ}{v:List Int}{j:Nat}{i:aQ}{F:List Int -> dT -> eH β}
theorem Qdy(hr:gn G (z.go λs=>(dZ E call (l.drop j) v s).bind F))(hi:l[j]?=some i):gn G (z.go λs=>(ey E s).bind λ_ s=>(cP E call i (gb v i.args) s).bind λu s=>(dZ E call (l.drop (j+1)) (if 0<=i.dst/\aJ i.op then v.set i.dst.toNat u else v) s).bind F):=gn.Ns (λs=>by
 obtain⟨ir,he⟩:=aW.1 hi;rw[Ae ir,he];show((ey E s).bind λ_ s=>(cP E call i (gb v i.args) s).bind λu s=>dZ E call (l.drop (j+1)) (if 0<=i.dst/\aJ i.op then v.set i.dst.toNat u else v) s).bind F=_;cases ey E s with
 |stop _ _ _=>rfl
 |ok a s1=>
  show((cP E call i (gb v i.args) s1).bind λu s=>dZ E call (l.drop (j+1)) (if 0<=i.dst/\aJ i.op then v.set i.dst.toNat u else v) s).bind F=(cP E call i (gb v i.args) s1).bind _;cases cP E call i (gb v i.args) s1<;>rfl) hr
theorem QhG(hr:gn G (z.go λs=>(dZ E call (l.drop j) v s).bind F))(h:ae l<=j):gn G (z.go (F v)):=gn.Ns (λs=>by
 rw[F7 h];rfl) hr
end
def Qdz(E:Env0)(x:aG)(bN:ah)(s:dT):eH (Int×Int×ah):=(ey E s).bind λ_ s=>
  if x.e=0 then .ok (x.a,0,bN) s
  else if x.e=1 then .ok (if bN.getD x.v.toNat 0≠0 then x.a else x.b,0,bN) s
  else if x.e=3 then .stop 2 x.a s
  else .ok (-1,if x.v>=0 then bN.getD x.v.toNat 0 else 0,bN) s
theorem QdA{E:Env0}{call:Int->ah->dT->eH Int}{x:aG}{v:ah}{s:dT}:xe E call x v s=(dZ E call (x.insts.drop 0) v s).bind (Qdz E x):=by rw[y8];rfl
theorem T0{v args:ah}{k:Nat}{a:Int}(h:args[k]?=some a):gb v (args.take k)++[v.getD a.toNat 0]=gb v (args.take (k+1)):=by
 unfold gb;rw[qB,h,bZ];rfl
theorem Y5{v:ah}{i:aQ}{x x':Int}(hs:cA i)(hx:aJ i.op->x=x')(h:0<=i.dst):(if 0<=i.dst/\aJ i.op then v.set i.dst.toNat x' else v)=v.set i.dst.toNat x:=by
 have hm:aJ i.op:=hs.1.resolve_right oM;rw[ax ⟨h,hm⟩,hx hm]
theorem QdB{v:ah}{i:aQ}{x':Int}(h:¬0<=i.dst):(if 0<=i.dst/\aJ i.op then v.set i.dst.toNat x' else v)=v:=ao (λh1=>h h1.1)
theorem Hm{E:Env0}{call:Int->ah->dT->eH Int}{x:aG}{v:ah}{s s':dT}{b a:Int}{u:ah}(h:xe E call x v s= .ok (b,a,u) s'):b= -1\/(x.e=0/\b=x.a)\/(x.e=1/\(b=x.a\/b=x.b)):=by
 unfold xe at h;cases h1:dZ E call x.insts v s with
 |stop _ _ _=>rw[h1]at h;cases h
 |ok u1 s1=>
  rw[h1]at h;change((ey E s1).bind _)=_ at h;cases h2:ey E s1 with
  |stop _ _ _=>rw[h2]at h;cases h
  |ok u2 s2=>
   rw[h2]at h;change(if x.e=0 then _ else _)=_ at h;split at h
   ·rename_i he;injection h with h _;injection h with h _;exact .inr (.inl ⟨he,h.symm⟩)
   ·split at h
    ·rename_i he;injection h with h _;injection h with h _;refine .inr (.inr ⟨he,?_⟩);split at h
     ·exact .inl h.symm
     ·exact .inr h.symm
    ·split at h
     ·cases h
     ·injection h with h _;injection h with h _;exact .inl h.symm
def VB(l:ah)(zQ:Int)(j:Nat)(a:Int):Prop:=(a=0/\∀i x,i<j->l[i]?=some x->x≠zQ)\/∃i:Nat,i<j/\a=(i:Int)/\l[i]?=some zQ
section
variable{l:List Int}{zQ a x:Int}{j:Nat}
theorem VB.start:VB l zQ 0 0:= .inl ⟨rfl,λi _ hi=>absurd hi (eL i)⟩
theorem VB.hit(hx:l[j]?=some x)(h:x=zQ):VB l zQ (j+1) (j:Int):= .inr ⟨j,oM,rfl,by rw[hx,h]⟩
theorem VB.Qny(hq:VB l zQ j a)(hx:l[j]?=some x)(h:¬x=zQ):VB l zQ (j+1) a:=by
 rcases hq with⟨h1,h2⟩|⟨i,h1,h2,h3⟩
 ·refine .inl ⟨h1,λi y hi hy=> ?_⟩;by_cases e:i=j
  ·subst e;rw[hx]at hy;injection hy with hy;rw[<-hy];exact h
  ·exact h2 i y oM hy
 ·exact .inr ⟨i,oM,h2,h3⟩
theorem Hn:∀(l:ah) (i:Nat),l.Nodup->l[i]?=some zQ->gI l zQ=i
 |[],i,_,h=>by simp at h
 |y::r,0,_,h=>by simp only[getElem?_cons_zero,eO]at h;unfold gI;rw[ax h]
 |y::r,i+1,hn,h=>by
  have h1:r[i]?=some zQ:=by simpa using h
  have h2:=qk.1 hn;unfold gI;rw[ao (λe=>h2.1 (by rw[e];exact aI h1)),Hn r i h2.2 h1]
theorem VB.done(hq:VB l zQ (ae l) a)(hn:l.Nodup)(hm:zQ∈l):a=(gI l zQ:Int)/\gI l zQ<ae l:=by
 rcases hq with⟨_,h2⟩|⟨i,h1,h2,h3⟩
 ·obtain⟨i,hi⟩:=bq.1 hm;exact absurd rfl (h2 i zQ (aW.1 hi).1 hi)
 ·rw[Hn l i hn h3];exact⟨h2,h1⟩
end
theorem Pj(bs:List SB)(b:Int):(bO bs b).Nodup:=by
 unfold bO gR;exact List.Pairwise.map _ (λa b h=>oM) (xU.filter _)
section
variable{E:Env0}{call:Int -> List Int -> dT -> eH Int}{i:aQ}{l:List Int}{s:dT}
theorem Qfs(h:i.op=2\/i.op=3)(hs:cA i):0<=i.n/\i.n<=2147483647/\1<=ae i.args:=by
 rcases h with h|h
 ·have:=(Co h).1 hs;omega
 ·have:=(xI h).1 hs;omega
theorem RI{l:List (bo×Int)}{nm:bo}(h:¬(jd l nm).getD 0=0):jd l nm=some ((jd l nm).getD 0):=by
 cases hq:jd l nm with
 |none=>rw[hq]at h;exact absurd rfl h
 |some n=>rfl
theorem QdC(h:i.op=8):cP E call i l s=ur E (a0 l) s:=wI h
theorem QdD(h:i.op=9):cP E call i l s=He E s:=wJ h
theorem QdE(h:i.op=10):cP E call i l s= .ok 0 (Jj (a0 l) s):=su h
theorem QdF(h:i.op<1\/13<=i.op)(h2:i.op<40):cP E call i l s=TV (i.op-16) (a0 l) (a1 l) s:=oa h h2
end
theorem Me{E:Env0}{z z':mv}{b:Int}{L:ah}(h:xv E z (b+1) L)(hz:z'.ov=false)(he:gn (z.go (ey E)) (z'.go (eH.ok ()))):xv E z' b L:=xv.step (E:=⟨E,[]⟩) h hz he
theorem T1{E:Env0}{call:Int->ah->dT->eH Int}(hm:Ts call)(hk:GU call){i:aQ}{l:ah}{s:dT}:Yt s (cP E call i l s):=λx s' h=>⟨D4 hm h,D7 hk h⟩
theorem Mf{E:Env0}{g:Nat}{z z':mv}{b x:Int}{v l:ah}{i:aQ}(hE:L7 E)(h:xv E z b v)(hn:In64 i.n)(hl:l=gb v i.args)(he:gn (z.go (cP E (cX E g) i l)) (z'.go (eH.ok x))):xv E z' b (if 0<=i.dst/\aJ i.op then v.set i.dst.toNat x else v):=by
 subst hl;refine h.call (A:=cP E (cX E g) i (gb v i.args)) (T1 (GV g) (D9 g)) (λhv=>RB hE hn (Jp hv) (Ma hE g) z.s) he (λhv hx=> ?_);split
 ·exact EA hv hx
 ·exact hv
theorem QhH{f:gg}{k:Nat}{x:aG}(h:Qfe f k x){p:cV}(hp:p∈x.ak){q:ah}(hq:f.src k=q){a:Int}{at_:Nat}(ha:a=(at_:Int)/\at_<ae q):0<=a/\a<ae p.args/\0<=p.args.getD a.toNat 0/\p.args.getD a.toNat 0<f.va:=by
 obtain⟨rfl,hl⟩:=ha;have h1:=h.Qnk p hp;rw[hq]at h1;have h2:=h.Qkj p hp _ (Mor.QcG (l:=p.args) (i:=at_) oM);rw[cN];omega
theorem Y6{E:Env0}{call:Int->ah->dT->eH Int}{f:gg}(hW:f.WF){k:Int}(hk:0<=k){bN:ah}{s s':dT}{nx bk:Int}{v':ah}{x:aG}(hx:f.bF[k.toNat]?=some x)(h:xe E call x bN s= .ok (nx,bk,v') s')(hn:0<=nx):nx<ae f.bF/\k∈f.src nx.toNat:=by
 have hr:(x.e=0/\nx=x.a)\/(x.e=1/\(nx=x.a\/nx=x.b)):=(Hm h).resolve_left oM;have he:=hW.Qnl k.toNat x nx hx hr;rw[jM hk]at he;have hq:=(hW.aM _ _ hx).ends;refine⟨?_,he⟩;rcases hq with⟨h0,ha,_⟩|⟨h0,ha,hb,_⟩|⟨h0,_⟩|⟨h0,_⟩<;>rcases hr with⟨h1,h2⟩|⟨h1,h2⟩<;>first|omega|(rcases h2 with h2|h2<;>omega)
theorem QhI{n:Nat}{x:aG}(hq:jm n x){b:Int}(hr:(x.e=0/\b=x.a)\/(x.e=1/\(b=x.a\/b=x.b))):0<=b:=by
 rcases hq with⟨h0,ha,_⟩|⟨h0,ha,hb,_⟩|⟨h0,_⟩|⟨h0,_⟩<;>rcases hr with⟨h1,h2⟩|⟨h1,h2⟩<;>first|omega|(rcases h2 with h2|h2<;>omega)
def AU(E:Env0)(f:gg)(G:eH Int)(g:Nat)(j:Nat)(b a:Int)(v:ah)(z:mv):Prop:=(b= -1/\j=0/\(z.ov=false->In64 (z.s.opened-1))/\gn G (z.go λs=> .ok a {s with opened:=s.opened-1}))\/(0<=b/\∃j1 x,j=j1+1/\j1<g/\f.bF[b.toNat]?=some x/\xv E z ((j1:Int)+1) v/\gn G (z.go (Hk E j1 f b x v)))
section
variable{E:Env0}{f:gg}{G:eH Int}{g j1:Nat}{b a b' a':Int}{v v':List Int}{z z':mv}{x:aG}
theorem AU.done(hr:gn G (z.go (Hk E j1 f b x v)))(he:gn (z.go (xe E (cX E j1) x v)) (z'.go (eH.ok (b',a',v'))))(hZ:xv E z' (j1:Int) v')(hb:b'= -1):AU E f G g 0 b' a' v' z':=by
 refine .inl ⟨hb,rfl,λh=> ?_,?_⟩
 ·have:=(hZ.run h).2.2.1;exact⟨oM,oM⟩
 ·have h2:=gn.step (F:=λr s=>if r.1<0 then .ok r.2.1 {s with opened:=s.opened-1}else lT E j1 f r.1 b r.2.2 s) hr he;exact gn.Ns (λs=>ax (by show b'<0;omega)) h2
theorem AU.next(hW:f.WF)(hE:L7 E)(hs:0<=b)(hx:f.bF[b.toNat]?=some x)(hr:gn G (z.go (Hk E j1 f b x v)))(he:gn (z.go (xe E (cX E j1) x v)) (z'.go (eH.ok (b',a',v'))))(hZ:xv E z' (j1:Int) v')(rS:z'.s.steps<=E.fuel)(hj:j1<g)(hv:z'.ov=false)(hb:0<=b'){x':aG}(rR:f.bF[b'.toNat]?=some x'){q:ah}(hq:f.src b'.toNat=q):AU E f G g j1 b' a' (kv x'.ak (gI q b) v') z':=by
 subst hq;have h1:=(hZ.run hv).1;obtain⟨j2,rfl⟩:∃j2,j1=j2+1:=⟨j1-1,oM⟩;refine .inr ⟨hb,j2,x',rfl,oM,rR,?_,?_⟩
 ·have:((j2+1:Nat):Int)=(j2:Int)+1:=oM;rw[this]at hZ;rcases hZ with h|⟨h1,h2,h3,h4⟩
  ·exact .inl h
  ·exact .inr ⟨h1,h2,h3,RD h4⟩
 ·have h2:=gn.step (F:=λr s=>if r.1<0 then .ok r.2.1 {s with opened:=s.opened-1}else lT E (j2+1) f r.1 b r.2.2 s) hr he;exact gn.Ns (λs=>(ao (show¬b'<0 by omega)).trans (L9 rR)) h2
end
section
variable{nw:NW}{a b c i k:Nat}
theorem nE(h:jU nw a b=true):∃x y,nw[a]?=some x/\nw[b]?=some y/\x.1=y.1/\((x.2=false/\y.2=true)\/(x.2=y.2/\a<b)):=by
 unfold jU at h;split at h
 ·rename_i x y hx hy;simp only[bu,dt,az,aU,oi]at h;exact⟨x,y,hx,hy,h.1,h.2⟩
 ·cases h
theorem Mg{x y:bo×Bool}(hx:nw[a]?=some x)(hy:nw[b]?=some y)(h:x.1=y.1)(h2:(x.2=false/\y.2=true)\/(x.2=y.2/\a<b)):jU nw a b=true:=by
 rw[XT hx hy];simp only[bu,dt,az,aU,oi];exact⟨h,h2⟩
theorem AV(h1:jU nw a b=true)(h2:jU nw b c=true):jU nw a c=true:=by
 obtain⟨x,y,hx,hy,h3,h4⟩:=nE h1;obtain⟨y',z,hy',hz,h5,h6⟩:=nE h2;rw[hy]at hy';injection hy' with hy';subst hy';refine Mg hx hz (h3.trans h5) ?_;rcases h4 with⟨h7,h8⟩|⟨h7,h8⟩<;>rcases h6 with⟨h9,Cp⟩|⟨h9,Cp⟩
 ·exact .inl ⟨h7,Cp⟩
 ·exact .inl ⟨h7,h9▸h8⟩
 ·exact .inl ⟨h7.trans h9,Cp⟩
 ·exact .inr ⟨h7.trans h9,oM⟩
theorem Pk:jU nw a a=false:=by
 cases h:jU nw a a with
 |false=>rfl
 |true=>
  obtain⟨x,y,hx,hy,_,h4⟩:=nE h;rw[hx]at hy;injection hy with hy;subst hy;rcases h4 with⟨h5,h6⟩|⟨_,h6⟩
  ·rw[h5]at h6;cases h6
  ·omega
def CQ(nw:NW)(i k b:Nat):Prop:=(∀k',k'<k->jU nw k' b=false)/\(b=i\/jU nw b i=true)
theorem CQ.start:CQ nw i 0 i:=⟨λk' h=>absurd h (eL _),.inl rfl⟩
theorem CQ.keep(h:CQ nw i k b)(hn:jU nw k b=false):CQ nw i (k+1) b:=⟨λk' hk=>by
 by_cases e:k'=k
 ·subst e;exact hn
 ·exact h.1 k' oM,h.2⟩
theorem CQ.take(h:CQ nw i k b)(hb:jU nw k b=true):CQ nw i (k+1) k:=by
 refine⟨λk' hk=> ?_,?_⟩
 ·by_cases e:k'=k
  ·subst e;exact Pk
  ·cases hq:jU nw k' k with
   |false=>rfl
   |true=>
    have:=h.1 k' oM;rw[AV hq hb]at this;cases this
 ·rcases h.2 with h2|h2
  ·exact .inr (h2▸hb)
  ·exact .inr (AV hb h2)
theorem CQ.done(h:CQ nw i (ae nw) b):b=i↔GW nw i=true:=by
 constructor
 ·rintro rfl;exact GY.2 λk hk=>h.1 k hk
 ·intro hb;rcases h.2 with h2|h2
  ·exact h2
  ·obtain⟨x,_,hx,_⟩:=nE h2;rw[GY.1 hb b (aW.1 hx).1]at h2;cases h2
theorem CQ.name(h:CQ nw i k b){x y:bo×Bool}(hx:nw[b]?=some x)(hy:nw[i]?=some y):x.1=y.1:=by
 rcases h.2 with rfl|h2
 ·rw[hx]at hy;injection hy with hy;rw[hy]
 ·obtain⟨x',y',rR,hy',h3,_⟩:=nE h2;rw[hx]at rR;rw[hy]at hy';injection rR with rR;injection hy' with hy';rw[rR,hy',h3]
theorem CQ.cond(h:CQ nw i k b){xi xk xb:bo×Bool}(hi:nw[i]?=some xi)(hk:nw[k]?=some xk)(hb:nw[b]?=some xb)(hc:xk.1=xi.1/\((k<b/\xk.2=xb.2)\/(xb.2=true/\xk.2=false))):jU nw k b=true:=Mg hk hb (hc.1.trans (h.name hb hi).symm) (hc.2.elim (λh=> .inr ⟨h.2,h.1⟩) (λh=> .inl ⟨h.2,h.1⟩))
theorem CQ.AW(h:CQ nw i k b){xi xk xb:bo×Bool}(hi:nw[i]?=some xi)(hk:nw[k]?=some xk)(hb:nw[b]?=some xb)(hc:¬(xk.1=xi.1/\((k<b/\xk.2=xb.2)\/(xb.2=true/\xk.2=false)))):jU nw k b=false:=by
 cases hq:jU nw k b with
 |false=>rfl
 |true=>
  obtain⟨x,y,hx,hy,h3,h4⟩:=nE hq;rw[hk]at hx;rw[hb]at hy;injection hx with hx;injection hy with hy;subst hx hy;exact absurd ⟨h3.trans (h.name hb hi),h4.elim (λh=> .inr ⟨h.2,h.1⟩) (λh=> .inl ⟨h.2,h.1⟩)⟩ hc
end
theorem Pl{ds:List cR}{n:Nat}(hn:ae ds<=n)(h:∀(i:Nat) (d:cR),i<n->ds[i]?=some d->uu d):∀d,d∈ds->uu d:=λd hd=>by
 obtain⟨i,hi⟩:=bq.1 hd;exact h i d (by have:=(aW.1 hi).1;omega) hi
theorem RJ{p q:Bool}{a b:Bool}{k n:Nat}(hp:p=a)(hq:q=b)(h:¬((k<n/\a=b)\/(b=true/\a=false)))(h2:(k<n/\p=q)\/(q=true/\p=false)):False:=by
 subst hp hq;exact h h2
theorem gn.oz{a b:eH Unit}(h:gn a b):oz a=oz b:=by
 unfold gn eH.no at h;cases a<;>cases b<;>simp only[eH.ok.injEq,eH.stop.injEq,reduceCtorEq]at h
 ·obtain⟨_,rfl⟩:=h;rfl
 ·obtain⟨rfl,rfl,h⟩:=h;have h1:=aK dT.out h;have h2:=aK dT.steps h;unfold Go.Mor.oz Tu;simp only[dg,jR];exact⟨h1,h2⟩
section
variable{E:Env0}{g j:Nat}{bg:List ByteArray}{b:ByteArray}{z z':mv}{G:eH Unit}{x:Int}
theorem Pm(hr:gn G (z.go (kK E g (bg.drop j))))(hb:bg[j]?=some b)(h:gn (z.go (cX E g ((jd E.names b).getD 0) [])) (z'.go (eH.ok x))):gn G (z'.go (kK E g (bg.drop (j+1)))):=gn.step (A:=cX E g ((jd E.names b).getD 0) []) (F:=λ_ s=>kK E g (bg.drop (j+1)) s) (gn.Ns (λs=>by
  rw[QcH hb];cases jd E.names b with
  |some n=>rfl
  |none=>
   show eH.stop 5 0 s=(je E (lT E g) 0 [] s).bind _;rw[o0 (.inl dQ)];rfl) hr) h
theorem T2(hr:gn G (z.go (kK E g (bg.drop j))))(h:¬(j<ae bg/\z.ov=false)):oz G=((z.fin 1 0).k,(z.fin 1 0).c,(z.fin 1 0).s.out,(z.fin 1 0).s.steps):=by
 cases hz:z.ov with
 |true=>
  rw[YI hz];rw[yy hz]at hr;exact hr.oz
 |false=>
  rw[Rx hz];rw[wZ hz,XX (Nat.le_of_not_lt λh2=>h ⟨h2,hz⟩)]at hr;exact hr.oz
end
abbrev z0(mem:ah)(n:Nat):mv:=⟨false,0,0,lyS mem n,0,0⟩
theorem ED{ds:List cR}(hw:∀d,d∈ds->d.WF):∀j,j<=ae ds->cc ds j<=1+16384*j
 |0,_=>by rw[Lu];omega
 |j+1,hj=>by obtain⟨d,hd⟩:=aP (l:=ds) (i:=j) oM;have:=(hw d (aI hd)).len;have:=ED hw j oM;rw[oe hd];omega
theorem QdG(fuel:Int):max 0 (min fuel 4194304)=min (max fuel 0) 4194304:=oM
section
variable{X:RX}{n:Nat}
theorem QdH{names data:List (bo×Int)}{cJ:Nat}{ds:List cR}(h:cc ds (ae ds)<=cJ):ae (lyT names data cJ ds)=cJ:=by
 rw[CU h];exact GZ _ (cH _) h
theorem QdI{m:ah}(hm:ae m=X.E.cJ)(h1:1<=n)(h2:n<=X.E.cJ)(hf:0<=X.E.fuel):fC X (z0 m n)where
 mem:=hm;n1:=by show(1:Int)<=(n:Int);omega
 n2:=by show(n:Int)<=X.E.cJ;omega
 pos:=cI _;out:=cI _;s1:=dv _;s2:=hf
theorem AX{names data:List (bo×Int)}(hn:∀nm v,jd names nm=some v->In64 v)(hd:∀nm v,jd data nm=some v->In64 v){p:Nat}:∀(rs:List (Int×bo)) (m:ah),LI m->LI (lE names data p m rs)
 |[],_,h=>h
 |r::rs,m,h=>AX hn hd rs _ (EA h (by
   unfold XU;split
   ·exact hd _ _ ‹_›
   ·cases hq:jd names r.2 with
    |none=>exact jf
    |some v=>exact hn _ _ hq))
theorem Pn{m ws:ah}{p:Nat}(h:LI m)(hw:LI ws):LI (ie m p ws):=λx hx=>by
 unfold ie at hx;rcases bV.1 hx with hx|hx
 ·rcases bV.1 hx with hx|hx
  ·exact h x (Cu hx)
  ·exact hw x hx
 ·exact h x (mem_of_mem_drop hx)
theorem EE{names data:List (bo×Int)}{ds:List cR}{cJ:Nat}(hn:∀nm v,jd names nm=some v->In64 v)(hd:∀nm v,jd data nm=some v->In64 v)(hw:∀d,d∈ds->LI d.words):∀j,LI (oy names data ds cJ j)
 |0=>λx hx=>by have Qy:x∈List.replicate cJ (0:Int):=hx;rw[(yu.1 Qy).2];exact jf
 |j+1=>by
  show LI (match ds[j]? with
   |none=>oy names data ds cJ j
   |some d=>lE names data (cc ds j) (ie (oy names data ds cJ j) (cc ds j) d.words) d.refs)
  split
  ·exact EE hn hd hw j
  ·exact AX hn hd _ _ (Pn (EE hn hd hw j) (hw _ (aI ‹_›)))
end
abbrev T3:=List (ar×Nat×ah)
def Y7(l:T3):bh:=l.map (λq=> .slice q.1 (ae q.2.2) q.2.1)
def mkY(x:eY)(A:ar)(c:Nat)(ss:T3):gg:=⟨x.nm,x.wk,x.pa,x.va,x.A,x.c,x.bF,A,c,ss⟩
def T4(q:ar×Nat×ah):bD:= .row 3 1 q.1 (ae q.2.2) q.2.1 (ints q.2.2)
def InY(X:List bD)(f:gg):Prop:=bD.row 43 1 f.qA (ae f.bO) f.qc (Y7 f.bO)∈X/\∀q,q∈f.bO->T4 q∈X
def RK(qs:List gg):bh:=qs.map (λf=> .slice f.qA (ae f.bO) f.qc)
def Jt(bs:List SB)(ss:T3)(j:Nat):Prop:=ae ss=j/\ss.map (·.2.2)=(List.range j).map (λt:Nat=>bO bs (t:Int))
section
variable{X Y:List bD}{f:gg}{qs:List gg}{x:eY}{A A':Option Addr}{c c':Nat}{ss:T3}{bs:List SB}{j:Nat}{cs:List eY}
theorem QdJ(h:Jt (au x.bF) ss (ae (au x.bF))):(mkY x A c ss).can=mh x:=by
 unfold gg.can mkY mh;simp only[gg.mk.injEq,jR];show ss.map (λq=>((none:ar),0,q.2.2))=(xO (au x.bF)).map _;unfold xO;rw[<-h.2,dz];rfl
theorem InY.mono(h:InY X f):InY (X++Y) f:=⟨ej _ h.1,λq hq=>ej _ (h.2 q hq)⟩
theorem QdK(h:∀f,f∈qs->InY X f):∀f,f∈qs->InY (X++Y) f:=λf hf=>(h f hf).mono
theorem Y8{ss:T3}(h:∀q,q∈ss->T4 q∈X){q:ar×Nat×ah}(hq:T4 q∈Y):∀p,p∈ss++[q]->T4 p∈X++Y:=λp hp=>by
 rcases bV.1 hp with hp|hp
 ·exact ej _ (h p hp)
 ·rw[cF.1 hp];exact kF _ hq
theorem Y9(h:∀f,f∈qs->InY X f)(hs:∀q,q∈ss->T4 q∈X)(hr:bD.row 43 1 A (ae ss) c (Y7 ss)∈Y):∀f,f∈qs++[mkY x A c ss]->InY (X++Y) f:=λf hf=>by
 rcases bV.1 hf with hf|hf
 ·exact(h f hf).mono
 ·rw[cF.1 hf];exact⟨kF _ hr,λq hq=>ej _ (hs q hq)⟩
theorem Jt.zero:Jt bs [] 0:=⟨rfl,rfl⟩
theorem Jt.next(h:Jt bs ss j):Jt bs (ss++[(A,c,bO bs (j:Int))]) (j+1):=⟨by rw[dG,h.1];rfl,by rw[bZ,h.2,oH,bZ];rfl⟩
theorem Za{l:ah}:Y7 (ss++[(A,c,l)])=Y7 ss++[.slice A (ae l) c]:=by unfold Y7;rw[bZ];rfl
theorem Zb:RK (qs++[mkY x A c ss])=RK qs++[.slice A (ae ss) c]:=by unfold RK;rw[bZ];rfl
theorem QdL(h:qs.map gg.can=(cs.take j).map mh)(hx:cs[j]?=some x)(hs:Jt (au x.bF) ss (ae (au x.bF))):(qs++[mkY x A c ss]).map gg.can=(cs.take (j+1)).map mh:=by
 rw[bZ,h,qB,hx,bZ];simp[QdJ hs]
theorem QdM(h:qs.map gg.can=cs.map mh):qs.map gg.nm=cs.map eY.nm:=by
 have h2:=aK (List.map gg.nm) h;rw[dz,dz]at h2;exact h2
theorem QhJ(h:qs.map gg.can=cs.map mh)(j:Nat):(qs[j]?).map gg.nm=(cs[j]?).map eY.nm:=by
 have h2:=aK (λl=>l[j]?) (QdM h);simpa only[aL]using h2
theorem AY:(mX cs (ae cs))[j]?=(cs[j]?).map λf=>(f.nm,((j+1:Nat):Int)):=by
 unfold mX;rw[gC,aL,l6];cases cs[j]?<;>simp
theorem QhK(h:qs.map gg.can=cs.map mh):nmR qs=mX cs (ae cs):=by
 apply fM;intro i;rw[CT,AY];have h2:=QhJ h i;cases hq:qs[i]?<;>cases hc:cs[i]?<;>rw[hq,hc]at h2<;>simp_all
def Po(cs:List eY):List Eu:=cs.map λf=>⟨f.nm,false,0,0,none,0,[]⟩
theorem Mh:ae (Po cs)=ae cs:=bl ..
theorem Zc:(Po cs).map (λf=>Value.string f.nm)=cs.map (λf=>Value.string f.nm):=by unfold Po;rw[dz];rfl
theorem Pp:Hf (Po cs) (ae (Po cs))=mX cs (ae cs):=by
 apply fM;intro i;rw[AY];unfold Hf;rw[gC,aL,l6];unfold Po;rw[aL];cases cs[i]?<;>simp
end
abbrev EF(ds:List cR)(dA:ar)(dc:Nat):gP:=⟨⟨#[]⟩,none,0,[],dA,dc,ds⟩
theorem QdN{ds:List cR}{dA:ar}{dc:Nat}:csD [EF ds dA dc]=bz ds:=by
 have e:flD [EF ds dA dc]=ds:=by unfold flD;simp
 unfold csD nwD;rw[e];rfl
theorem QkB{S:Nat->Prop}{w:World}{e n c:Nat}{A dA:ar}{dc:Nat}{ds:List cR}(h:RO S w (.row e 3 A n c (EF ds dA dc).cells))(hd:RO S w (.gE dA ds)):RO S w (.Qdl A [EF ds dA dc]):=by
 refine RO.all λr hr=> ?_
 rcases cG.1 hr with rfl|hr
 ·refine h.mono (λhr=> ?_) (λg hg=>hg.2);have h1:=mV (f:=gP.cells) (l:=[EF ds dA dc]) (size:=3) (e:=e) (n:=n) (c:=c) (A:=A) (w:=w) (λ_=>rfl) dQ (by rw[show[EF ds dA dc].flatMap gP.cells=(EF ds dA dc).cells by simp];exact hr)
  exact h1
 ·rw[show[EF ds dA dc].flatMap gP.parts=(EF ds dA dc).parts by simp]at hr;unfold gP.parts at hr;simp only[qG,CM,qa,cG]at hr;rcases hr with rfl|rfl|hr
  ·exact⟨λi cs hi=>by simp at hi,λg hg=>by obtain⟨⟨i,cs,hi,_⟩,_⟩:=hg;simp at hi⟩
  ·exact hd.Qg8
  ·exact hd.sub (cr _ hr)
theorem QkC{ds:List cR}{mem:Int}{inp:ah}(h:((¬(∀d,d∈ds->uu d)\/mem<1)\/mem>262144)\/(ae inp:Int)>4096):Qkx ds mem inp (ae ds):=by
 rcases h with((h|h)|h)|h
 ·by_cases hm:Yx mem inp
  ·exact .inl hm
  refine ym λhn=>h λd hd=>fy.1 ((Ey hn).2 d hd)
 ·exact .inl (.inl h)
 ·exact .inl (.inr (.inl h))
 ·exact .inl (.inr (.inr h))
theorem Qnz{fs:List eY}{ds:List cR}{mem:Int}{inp:ah}(h:¬(((¬(∀d,d∈ds->uu d)\/mem<1)\/mem>262144)\/(ae inp:Int)>4096))(hv:∀(i:Nat) (f:eY),i<ae fs->fs[i]?=some f->cS f.nm f.pa f.va f.bF=0):¬FB fs ds mem inp (ae fs):=by
 rintro(hb|⟨i,f,hi,hf,hx⟩)
 ·rcases hb with hb|⟨i,d,hi,hd,hx⟩
  ·unfold Yx at hb;omega
  ·exact h (.inl (.inl (.inl λhq=>hx (hq d (aI hd)))))
 ·exact hx (hv i f hi hf)
theorem QhL{fs:List eY}{j:Nat}{f:eY}(h:∀(i:Nat) (f:eY),i<j->fs[i]?=some f->cS f.nm f.pa f.va f.bF=0)(hf:fs[j]?=some f)(hv:cS f.nm f.pa f.va f.bF=0):∀(i:Nat) (f:eY),i<j+1->fs[i]?=some f->cS f.nm f.pa f.va f.bF=0:=λi g hi hg=>by
 by_cases e:i=j
 ·subst e;rw[hf]at hg;injection hg with hg;rw[<-hg];exact hv
 ·exact h i g oM hg
def yE(qs:List gg)(cs:List eY)(ds:List cR)(mem:Int)(inp:ah)(fuel:Int):Qdw:=⟨⟨qs,mX cs (ae cs),gJ (bz ds) (ae (bz ds)),inp,mem.toNat,min (max fuel 0) 4194304⟩⟩
section
variable{w:World}{S:Nat -> Prop}{qs:List gg}{fs cs:List eY}{ds:List cR}{fA dA gA iA qA:Option Addr}{bg:List ByteArray}{mem fuel:Int}{inp:List Int}{ic qc:Nat}
theorem QhM(rP:cs=iW fs)(hq:qs.map gg.can=cs.map mh):(yE qs cs ds mem inp fuel).toEnv0.can=kX fs ds mem inp fuel:=by
 unfold Env0.can kX yE;show(⟨qs.map gg.can,_,_,_,_,_⟩:Env0)=_;rw[hq,rP]
theorem QdO(hI:rC w fs fA ds dA bg gA inp iA ic)(rP:cs=iW fs)(hq:qs.map gg.can=cs.map mh)(hb:¬FB fs ds mem inp (ae fs))(BH:cc (bz ds) (ae (bz ds))<=mem.toNat)(r:Nat)(rA:ar)(rc:Nat)(qA:ar)(qc:Nat)(eA:ar)(dc:Nat)(pA:ar)(pc mG:Nat):(⟨yE qs cs ds mem inp fuel,bz ds,r,rA,rc,qA,qc,eA,dc,pA,pc,mG,iA,ic⟩:RX).WF where
 fns f hf:=by obtain⟨x,hx,he⟩:=Jn hq hf;have VC:x∈fs:=jx (rP▸hx);exact Qhv he (hI.ok x VC).1 (hI.ok x VC).2 ((pO hb).2.2 x VC)
 Qdx:=by have h1:=aK List.length hq;simp only[bl]at h1;have h2:ae cs<=ae fs:=rP▸lD;have h3:=hI.len;show ae qs<=1000;omega
 nds:=by have h1:ae (bz ds)<=ae ds:=lD;have h2:=hI.L2;show ae (bz ds)<=1000000;omega
 next:=by have:=(pO hb).1;show cc (bz ds) (ae (bz ds))<=262144;omega
 names:=(QhK hq).symm;data:=rfl;mem:=by have:=(pO hb).1;show mem.toNat<=262144;omega
 fuel:=⟨by show 0<=min (max fuel 0) 4194304;omega,by show min (max fuel 0) 4194304<=4194304;omega⟩;inp:=(pO hb).1.2.2;ic:=hI.Yz;bytes:=hI.bytes;nd f hf k:=by
  obtain⟨x,_,he⟩:=Jn hq hf;rw[<-Jm f,he];unfold gg.src mh;simp only[et,aL];by_cases h:k<ae (au x.bF)
  ·rw[pq h];exact Pj _ _
  ·rw[db (by rw[DB];omega)];exact nodup_nil
theorem RL{X:RX}{Y:List bD}{r rc dc pc mG e1 e2 e3 e4 n1 n2 n3 n4 c1 c2 c3 c4:Nat}{rA eA pA:ar}(hX:X=⟨yE qs cs ds mem inp fuel,bz ds,r,rA,rc,qA,qc,eA,dc,pA,pc,mG,iA,ic⟩)(rP:cs=iW fs)(hq:qs.map gg.can=cs.map mh)(hY:∀f,f∈qs->InY Y f)(h0:RO S w (.pk Y))(h1:RO S w (.row e1 5 rA n1 c1 (cs.flatMap eY.cells)))(h2:RO S w (.row e2 4 eA n2 c2 ((bz ds).flatMap cR.cells)))(h3:RO S w (.row e3 1 pA n3 c3 (ints (th (bz ds) (ae (bz ds))))))(h4:RO S w (.row e4 1 qA n4 c4 (RK qs)))(h5:RO S w (.rd iA (vK inp)))(h6:∀x,x∈fs->RO S w (.fn x.A x.bF)):RO S w X.ro:=by
 subst hX;refine RO.all λq hr=> ?_
 have Af:(qs.map gg.cells)=cs.map eY.cells:=by apply fM;intro i;rw[aL,aL];have hh:=aK (λl=>l[i]?) hq;simp only[aL]at hh;cases hqi:qs[i]?<;>cases J7:cs[i]?<;>rw[hqi,J7]at hh<;>simp only[ft,Option.map_none,eO,reduceCtorEq]at hh⊢;exact TM hh
 simp only[RX.T,cG,bV,aO,fG]at hr;rcases hr with rfl|rfl|rfl|rfl|rfl|⟨f,hf,rfl⟩|⟨f,hf,rfl⟩|⟨f,hf,q,hq2,rfl⟩
 ·show RO S w (.qU rA 5 (qs.map gg.cells));rw[Af];exact h1.mono (mV (λ_=>rfl) dQ) (λg hg=>hg.2)
 ·exact h2.mono (mV (λ_=>rfl) dQ) (λg hg=>hg.2)
 ·exact RO.aF h3
 ·exact h5
 ·exact RO.aF h4
 ·obtain⟨x,hx,he⟩:=Jn hq hf;rw[show f.A=x.A from aK gg.A he,show f.bF=x.bF from aK gg.bF he];exact h6 x (jx (rP▸hx))
 ·exact RO.aF (h0.tV (hY f hf).1)
 ·exact RO.aF (h0.tV ((hY f hf).2 q hq2))
end
def Ze(l:List cR):Int:=(l.map λd=>((min (ae d.words) 5000:Nat):Int)+((min (ae d.refs) 5000:Nat):Int)).sum
theorem QhO(l:List cR):0<=Ze l:=by
 unfold Ze;induction l with
 |nil=>simp
 |cons d r ih=>rw[gu,jN];omega
theorem QhP(l:List cR):(Ew l:Int)<=Ze l\/5000<=Ze l:=by
 induction l with
 |nil=>left;simp[Ew,Ze]
 |cons d r ih=>
  have e1:Ze (d::r)=((min (ae d.words) 5000:Nat):Int)+((min (ae d.refs) 5000:Nat):Int)+Ze r:=by unfold Ze;rw[gu,jN]
  have e2:Ew (d::r)=ae d.words+Ew r:=by unfold Ew;rw[gu,jN]
  have:=QhO r;rw[e1,e2];omega
def sE(fs:List eY)(ds:List cR)(g mem i fuel:Int):Prop:=(∃(j:Nat) (f:eY),j<30/\fs[j]?=some f/\jA f.va f.bF)\/20<ae fs\/30<ae ds\/4000<Ze (ds.take 50)\/50<g\/20000<mem\/5000<i\/5000<fuel
noncomputable instance (fs : List eY) (ds : List cR) (g mem i fuel : Int) : Decidable (sE fs ds g mem i fuel) := Classical.propDecidable _
theorem T5{w:World}{fs:List eY}{ds:List cR}{bg:List bo}{inp:ah}{fuel mem:Int}{fA dA gA iA:ar}{ic:Nat}(h:¬sE fs ds (ae bg) mem (ae inp) fuel)(h1:RO bI w (.qU fA 5 (fs.map eY.cells)))(h2:∀x,x∈fs->rH x.bF)(h3:∀x,x∈fs->RO bI w (.fn x.A x.bF))(h4:RO bI w (.rd gA (bg.map Value.string)))(h5:ae inp<=ic)(h6:RO bI w (.rd iA (vK inp)))(h7:∀b,b∈inp->0<=b/\b<=255)(h8:RO bI w (.gE dA ds))(h9:∀d,d∈ds->DIn d)(Cp:∀d,d∈ds->∀x,x∈d.words->In64 x):rC w fs fA ds dA bg gA inp iA ic:=by
 unfold sE at h;simp only[not_or]at h;obtain⟨hg,hl,hd,hv,hb,_⟩:=h;have e:ds.take 50=ds:=cL oM;rw[e]at hv;have hs:=QhP ds;refine⟨oM,h1,λx hx=>⟨h2 x hx,?_⟩,h3,oM,h4,h5,h6,h7,oM,h8,h9,oM,Cp⟩;obtain⟨i,hi⟩:=bq.1 hx;have ir:=(aW.1 hi).1;exact iz (wj (λe=>hg ⟨i,x,oM,hi,e⟩)) dQ
theorem rC.QhQ{w w':World}{L:List bD}{fs:List eY}{ds:List cR}{bg:List bo}{inp:ah}{fA dA gA iA:ar}{ic:Nat}(h:rC w fs fA ds dA bg gA inp iA ic)(hM:Mem bI w w' L):rC w' fs fA ds dA bg gA inp iA ic where
 len:=h.len;cells:=h.cells.at_ hM;ok:=h.ok;fn x hx:=(h.fn x hx).at_ hM;Yy:=h.Yy;bg:=h.bg.at_ hM;Yz:=h.Yz;inr:=h.inr.at_ hM;bytes:=h.bytes;L2:=h.L2;gE:=h.gE.at_ hM;din:=h.din;TN:=h.TN;dwi:=h.dwi
section
variable{β:Type}{g:gP -> List β}{key:β -> ByteArray × Bool}{ms:List gP}{nm:ByteArray}{i p q p2 q2 k:Nat}{a b:Int}{m m2:gP}{x x2:β}
abbrev nwG(g:gP->List β)(key:β->bo×Bool)(ms:List gP):NW:=(ms.flatMap g).map key
end
end Go.Mor
namespace Go.Proofs.YtejbeeaomokjpaaGreat
set_option maxHeartbeats 1000000 in
theorem T6(fs:List eY)(fA:ar)(fc:Nat)(ds:List cR)(J8:ae ds=0)(dA:ar)(dc:Nat)(g:Nat)(gA:ar)(gc:Nat)(mem:Int)(i:Nat)(iA:ar)(ic:Nat)(fuel:Int)(w:World)(hfl:fg (ae fs))(hdl:fg (ae ds))(o8:RO bI w (.qU fA 5 (fs.map eY.cells)))(kC:∀x,x∈fs->rH x.bF)(hfn:∀x,x∈fs->RO bI w (.fn x.A x.bF))(Hi:RO bI w (.gE dA ds))(Vk:∀d,d∈ds->DIn d/\∀x,x∈d.words->In64 x):Calls Tryz.prog 7 #[vS fA (ae fs) fc,vS dA (ae ds) dc,vS gA g gc,vI mem,vS iA i ic,vI fuel] w (gp λv w'=>v=vB (decide (sE fs ds g mem i fuel))/\Mem bI w w' []):=by
 unfold fg at hfl hdl;refine iI 88 [vS fA (ae fs) fc,vS dA (ae ds) dc,vS gA g gc,vI mem,vS iA i ic,vI fuel] Tryz.func7 ?_;have hM:=Mem.init w;refine br<|bt<|br<|df 0 ?_;intro aC fr;refine iJ (λn_ a_ w_=>∃(j:Nat),n_=ae fs-j/\Fr a_ 88 [(0,vS fA (ae fs) fc),(1,vS dA (ae ds) dc),(2,vS gA g gc),(3,vI mem),(4,vS iA i ic),(5,vI fuel),(13,nV j)]/\Mem bI w w_ []/\(j<=ae fs)/\(∀(i:Nat) (x:eY),i<j->fs[i]?=some x->¬jA x.va x.bF)) (n:=_) ⟨0,rfl,fr.kp [0,1,2,3,4,5,13],hM,cI _,λ_ _ h=>absurd h (eL _)⟩ ?_;clear fr aC hM;rintro n aC w3 ⟨j,rfl,fr,M4,hj,hng⟩;revert aC;refine bt<|aV<|an 5 ?_;obtain⟨B7,GM⟩:∃B:Bool,B=decide ((j:Int)<(ae fs:Int)):=⟨_,rfl⟩;refine cT [(0,vS fA (ae fs) fc),(1,vS dA (ae ds) dc),(2,vS gA g gc),(3,vI mem),(4,vS iA i ic),(5,vI fuel),(13,nV j),(20,(vB (decide ((j:Int)<(ae fs:Int)))))] ?_;rw[<-GM];have iB7:B7=true↔((j:Int)<(ae fs:Int)):=by rw[GM];simp only[aU]
 clear GM;intro aC fr;refine dx 3 8 [23] fr (news:=[(23,(vB (B7&&decide ((j:Int)<30))))]) (by cases B7<;>kernel_rfl)<|aE<|fZ (B7&&decide ((j:Int)<30)) (((j:Int)<(ae fs:Int))/\((j:Int)<30)) (by simp only[bu,aU,iB7]) (λI1=> ?_) (λI1=> ?_);refine cE<|bt<|df 1<|aV ?_;obtain⟨f,hf⟩:=aP (l:=fs) (i:=j) oM;have FE:=aI hf;refine an 2 ?_;obtain⟨fo,rfl⟩:=cU (M4.ro o8) (i:=j) (gm hf);refine ga fo (ae fs) 5 (j:Int)<|k8 (aN fo (j:Int) 5) [vT f.nm,vB f.wk,vI f.pa,vI f.va,vS f.A (ae (au f.bF)) f.c] (mj (i:=j) (M4.ro o8) rfl (gm hf))<|eV (Ho f.nm f.wk f.pa f.va f.A f.c f.bF w3 (kC f FE) ((hfn f FE).at_ M4)) ?_;rintro _ w14 ⟨rfl,QnA⟩;have oY:=M4.cl QnA;refine aE<|iY (jA f.va f.bF) (λZf=> ?_) (λZf=> ?_);refine br<|cv<|dX<|dX<|dq (vB true) ?_;have hR:true=true↔True:=sI;exact⟨bx hR (⟨λ_=> .inl ⟨j,f,oM,hf,Zf⟩,λ_=>trivial⟩),oY⟩;exact cE<|dR<|an 1<|eX ((j:Int)+1)<|an 1<|aE λaC fr=>⟨ae fs-(j+1),oM,j+1,rfl,fr.kp [0,1,2,3,4,5,13],oY,oM,λi x hi hx=>by rcases ns i j with h_|h_;exact hng i x h_ hx;obtain rfl:i=j:=oM;rw[hf]at hx;injection hx with hx;subst hx;exact Zf⟩
 refine gZ 0<|ia<|br<|bt<|br<|df 2 ?_;have E9:¬∃(j:Nat) (f:eY),j<30/\fs[j]?=some f/\jA f.va f.bF:=by rintro⟨i,x,h1_,h2_,h3_⟩;have h4_:=(aW.1 h2_).1;exact hng i x oM h2_ h3_
 intro aC fr;refine iJ (λn_ a_ w_=>∃(k:Nat) (nk:Int),n_=ae ds-k/\Fr a_ 88 [(0,vS fA (ae fs) fc),(1,vS dA (ae ds) dc),(2,vS gA g gc),(3,vI mem),(4,vS iA i ic),(5,vI fuel),(14,vI nk),(15,nV k)]/\Mem bI w w_ []/\(k<=ae ds/\k<=50)/\(nk=Ze (ds.take k))) (n:=_) ⟨0,0,rfl,fr.kp [0,1,2,3,4,5,14,15],M4,oM,rfl⟩ ?_;clear fr aC M4;rintro n aC w21 ⟨k,nk,rfl,fr,s7,hk,hn⟩;revert aC;refine bt<|aV<|an 5 ?_;obtain⟨Zg,Pq⟩:∃B:Bool,B=decide ((k:Int)<(ae ds:Int)):=⟨_,rfl⟩;refine cT [(0,vS fA (ae fs) fc),(1,vS dA (ae ds) dc),(2,vS gA g gc),(3,vI mem),(4,vS iA i ic),(5,vI fuel),(14,vI nk),(15,nV k),(35,(vB (decide ((k:Int)<(ae ds:Int)))))] ?_;rw[<-Pq];have QhR:Zg=true↔((k:Int)<(ae ds:Int)):=by rw[Pq];simp only[aU]
 clear Pq;intro aC fr;refine dx 3 8 [38] fr (news:=[(38,(vB (Zg&&decide ((k:Int)<50))))]) (by cases Zg<;>kernel_rfl)<|aE<|fZ (Zg&&decide ((k:Int)<50)) (((k:Int)<(ae ds:Int))/\((k:Int)<50)) (by simp only[bu,aU,QhR]) (λc30=> ?_) (λc30=> ?_);refine cE<|bt<|df 3 ?_;omega;refine gZ 2<|ia<|aV ?_;have hn5:nk=Ze (ds.take 50):=by
          rw[hn];by_cases h_:k=ae ds
          · by_cases h2_:k<=50
            · rw[cL oM,cL oM]
            · omega
          · rw[show k=50 by omega]
 refine an 4 ?_;obtain⟨uy,xf⟩:∃B:Bool,B=decide ((ae fs:Int)>20):=⟨_,rfl⟩;refine cT [(1,vS dA (ae ds) dc),(2,vS gA g gc),(3,vI mem),(4,vS iA i ic),(5,vI fuel),(14,vI nk),(61,(vB (decide ((ae fs:Int)>20))))] ?_;rw[<-xf];have FF:uy=true↔((ae fs:Int)>20):=by rw[xf];simp only[aU]
 clear xf;intro aC fr;refine dx 5 9 [65,66] fr (news:=[(65,(vB (uy||decide ((ae ds:Int)>30)))),(66,(vB (uy||decide ((ae ds:Int)>30))))]) (by cases uy<;>kernel_rfl) ?_;intro aC fr;obtain⟨yV,EG⟩:∃B:Bool,B=(uy||decide ((ae ds:Int)>30)):=⟨_,rfl⟩;revert aC;refine cT [(2,vS gA g gc),(3,vI mem),(4,vS iA i ic),(5,vI fuel),(14,vI nk),(66,(vB (uy||decide ((ae ds:Int)>30))))] ?_;rw[<-EG];have Pr:yV=true↔(((ae fs:Int)>20)\/((ae ds:Int)>30)):=by rw[EG];simp only[dt,aU,FF]
 clear EG;intro aC fr;refine dx 4 13 [69,70] fr (news:=[(69,(vB (yV||decide ((nk:Int)>4000)))),(70,(vB (yV||decide ((nk:Int)>4000))))]) (by cases yV<;>kernel_rfl) ?_;intro aC fr;obtain⟨Zh,Ps⟩:∃B:Bool,B=(yV||decide ((nk:Int)>4000)):=⟨_,rfl⟩;revert aC;refine cT [(2,vS gA g gc),(3,vI mem),(4,vS iA i ic),(5,vI fuel),(70,(vB (yV||decide ((nk:Int)>4000))))] ?_;rw[<-Ps];have QhS:Zh=true↔((((ae fs:Int)>20)\/((ae ds:Int)>30))\/((nk:Int)>4000)):=by rw[Ps];simp only[dt,aU,Pr]
 clear Ps;intro aC fr;refine dx 5 18 [74,75] fr (news:=[(74,(vB (Zh||decide ((g:Int)>50)))),(75,(vB (Zh||decide ((g:Int)>50))))]) (by cases Zh<;>kernel_rfl) ?_;intro aC fr;obtain⟨Hq,xg⟩:∃B:Bool,B=(Zh||decide ((g:Int)>50)):=⟨_,rfl⟩;revert aC;refine cT [(3,vI mem),(4,vS iA i ic),(5,vI fuel),(75,(vB (Zh||decide ((g:Int)>50))))] ?_;rw[<-xg];have QdP:Hq=true↔(((((ae fs:Int)>20)\/((ae ds:Int)>30))\/((nk:Int)>4000))\/((g:Int)>50)):=by rw[xg];simp only[dt,aU,QhS]
 clear xg;intro aC fr;refine dx 4 22 [78,79] fr (news:=[(78,(vB (Hq||decide ((mem:Int)>20000)))),(79,(vB (Hq||decide ((mem:Int)>20000))))]) (by cases Hq<;>kernel_rfl) ?_;intro aC fr;obtain⟨B51,QhT⟩:∃B:Bool,B=(Hq||decide ((mem:Int)>20000)):=⟨_,rfl⟩;revert aC;refine cT [(4,vS iA i ic),(5,vI fuel),(79,(vB (Hq||decide ((mem:Int)>20000))))] ?_;rw[<-QhT];have QnB:B51=true↔((((((ae fs:Int)>20)\/((ae ds:Int)>30))\/((nk:Int)>4000))\/((g:Int)>50))\/((mem:Int)>20000)):=by rw[QhT];simp only[dt,aU,QdP]
 clear QhT;intro aC fr;refine dx 5 27 [83,84] fr (news:=[(83,(vB (B51||decide ((i:Int)>5000)))),(84,(vB (B51||decide ((i:Int)>5000))))]) (by cases B51<;>kernel_rfl) ?_;intro aC fr;obtain⟨B56,QhU⟩:∃B:Bool,B=(B51||decide ((i:Int)>5000)):=⟨_,rfl⟩;revert aC;refine cT [(5,vI fuel),(84,(vB (B51||decide ((i:Int)>5000))))] ?_;rw[<-QhU];have QnC:B56=true↔(((((((ae fs:Int)>20)\/((ae ds:Int)>30))\/((nk:Int)>4000))\/((g:Int)>50))\/((mem:Int)>20000))\/((i:Int)>5000)):=by rw[QhU];simp only[dt,aU,QnB]
 clear QhU;intro aC fr;refine dx 4 31 [12,87] fr (news:=[(12,(vB (B56||decide ((fuel:Int)>5000)))),(87,(vB (B56||decide ((fuel:Int)>5000))))]) (by cases B56<;>kernel_rfl)<|aE<|cv<|dq (vB (B56||decide ((fuel:Int)>5000))) ?_;have hR:(B56||decide ((fuel:Int)>5000))=true↔((((((((ae fs:Int)>20)\/((ae ds:Int)>30))\/((nk:Int)>4000))\/((g:Int)>50))\/((mem:Int)>20000))\/((i:Int)>5000))\/((fuel:Int)>5000)):=by simp only[dt,aU,QnC]
 exact⟨bx hR (⟨λh_=> .inr oM,λh_=>by rcases h_ with h_|h_;exact absurd h_ E9;omega⟩),s7⟩
theorem nF(X:RX)(z:mv)(oA:ar)(oc:Nat)(w:World)(hX:X.WF)(hG:fC X z)(hR:(bD.pk (fJ X z oA oc)).holds w)(k c:Int):Calls Tryz.prog 91 #[pT X.r 0,vI k,vI c] w (gp λv w'=>v= .tuple #[]/\Mem (xS X z oA oc) w w' (fJ X (z.fin k c) oA oc)):=by
 refine iI 24 [pT X.r 0,vI k,vI c] Tryz.func91 ?_;have hM:=Mem.te hR;refine aV<|an 3<|bH (aq X.r 10) _ (af (hM.get 0 rfl) rfl)<|an 1<|aE<|fZ (!z.ov) (¬(z.ov=true)) (by simp only[mw]) (λc1=> ?_) (λc1=> ?_);replace c1:z.ov=false:=dj.2 c1;refine aV<|an 3<|sf (ho:=sI) hM 0 10 (vB true) rfl λw2 M3=> ?_
 replace M3:=M3.nf;clear hM;refine aE<|aV<|an 5<|sf (ho:=sI) M3 0 6 (vI k) rfl λw4 M5=> ?_
 replace M5:=M5.nf;refine aE<|dR<|an 5<|sf (ho:=sI) M5 0 7 (vI c) rfl λw6 M7=> ?_
 replace M7:=M7.nf;refine aE<|zo0 ?_;exact⟨rfl,by rw[Rx c1];exact M7⟩;replace c1:z.ov=true:=fy.1 c1;refine cE<|zo0 ?_;exact⟨rfl,by rw[YI c1];exact hM⟩
theorem RM(X:RX)(z:mv)(oA:ar)(oc:Nat)(w:World)(hX:X.WF)(hG:fC X z)(hR:(bD.pk (fJ X z oA oc)).holds w):Calls Tryz.prog 131 #[pT X.r 0] w (gp λv w'=>∃b z' oA' oc',v=vB b/\z'.ov=(!b)/\fC X z'/\gn (z.go (ey X.E.toEnv0)) (z'.go (eH.ok ()))/\Mem (xS X z oA oc) w w' (fJ X z' oA' oc')):=by
 have g1:=hG.s1;have g2:=hG.s2;have g3:=hX.fuel;refine iI 35 [pT X.r 0] Tryz.func131 ?_;have hM:=Mem.te hR;refine br<|bt<|bt ?_;cases hz:z.ov;have M1:=cC [.aM X.r 138 [vS X.dA (ae X.ds) X.dc,vS X.pA (ae X.ds) X.pc,vS (sM X.mG) X.E.cJ X.E.cJ,vI z.s.next,vS X.iA (ae X.E.inp) X.ic,(vI (z.s.pos:Int)),vI z.k,vI z.c,vS oA (ae z.s.out) oc,vI z.s.steps,vB false,vI X.E.fuel,vI z.s.opened,vS X.fA (ae X.E.qF) X.fc,vS X.qA (ae X.E.qF) X.qc],Mb X z,J6 z oA oc] (hM.cast (EB hz));clear hM;refine eW [0] ?_;intro aC fr;refine BD 15 (bE [eR X.r 0,eR X.r 0,eP (aq X.r 10),eB false,eB true,eB true,eR X.r 0,eR X.r 0,eP (aq X.r 6),eP (aq X.r 9),eI z.s.steps,eR X.r 0,eR X.r 0,eP (aq X.r 11),eI X.E.fuel]) fr (ox (fQ lz dP dP dP (dL (aq X.r 10) _ λw_ hK=>(af ((M1.aw hK).get 0 rfl) rfl)) dP dP dP dP dP dP (dL (aq X.r 9) _ λw_ hK=>(af ((M1.aw hK).get 0 rfl) rfl)) dP) dP dP (dL (aq X.r 11) _ λw_ hK=>(af ((M1.aw hK).get 0 rfl) rfl))) ?_;intro aC w6 vs hK hv fr;revert aC;refine cT [(0,pT X.r 0),(8,vB true),(13,vI z.s.steps),(17,vI X.E.fuel)] ?_;have M7:=M1.aw hK;clear hK hv fr aC M1;clear vs;refine an 2<|aE<|iY ((z.s.steps:Int)>=X.E.fuel) (λc8=> ?_) (λc8=> ?_);refine dR<|an 1 ?_;have M9:=cC [TW X z oA oc,Mb X z,J6 z oA oc] (M7.cast (EB hz).symm);refine eV (nF X z oA oc w6 hX hG (Mem.dd (l:=fJ X z oA oc) M9) 0 0) ?_;rintro _ w10 ⟨rfl,Zl⟩;have sx:=cC [TW X (z.fin 0 0) oA oc,Mb X (z.fin 0 0),J6 (z.fin 0 0) oA oc] (M9.uX Zl);refine aE<|bt<|aV<|an 3<|bH (aq X.r 10) _ (af (sx.get 0 rfl) rfl)<|aE<|fZ ((z.fin 0 0).ov) (((z.fin 0 0).ov)=true) ju (λI1=> ?_) (λI1=> ?_);refine br<|cv<|dq (vB false) ?_;exact⟨false,(z.fin 0 0),oA,oc,rfl,Pg,hG.fin,gn.fin (K:=ey X.E.toEnv0) rfl (λh_=>by unfold ey;rw[ax (by have:=hG.s2;omega)];rfl),sx⟩;replace I1:((z.fin 0 0).ov)=false:=dj.2 I1;rw[Pg]at I1;cases I1;refine cE<|bt<|aV<|an 3<|bH (aq X.r 10) _ (af (M7.get 0 rfl) rfl)<|aE<|jG<|cE<|aV<|an 4<|bH (aq X.r 9) _ (af (M7.get 0 rfl) rfl)<|eX (z.s.steps+1)<|an 3<|sf (ho:=sI) M7 0 9 (vI (z.s.steps+1)) rfl λXD sw=> ?_
 replace sw:=sw.nf;refine aE<|br<|cv<|dq (vB true) ?_;exact⟨true,{z with s:={z.s with steps:=z.s.steps+1}},oA,oc,rfl,hz,hG.step oM,gn.to (K:=ey X.E.toEnv0) rfl hz hz (by unfold ey;rw[ao oM]),(sw.cast (EB (z:={z with s:={z.s with steps:=z.s.steps+1}}) hz).symm)⟩;have oY:=cC [.aM X.r 138 [vS X.dA (ae X.ds) X.dc,vS X.pA (ae X.ds) X.pc,vS (sM X.mG) X.E.cJ X.E.cJ,vI z.s.next,vS X.iA (ae X.E.inp) X.ic,(vI (z.s.pos:Int)),vI z.k,vI z.c,vS oA (ae z.s.out) oc,vI z.s.steps,vB true,vI X.E.fuel,vI z.s.opened,vS X.fA (ae X.E.qF) X.fc,vS X.qA (ae X.E.qF) X.qc],Mb X z,J6 z oA oc] (hM.cast (EB hz));clear hM;refine eW [0] ?_;intro aC fr;refine BD 15 (bE [eR X.r 0,eR X.r 0,eP (aq X.r 10),eB true,eB false,eB false]) fr (la (EH (la (xu lz dP dP dP (dL (aq X.r 10) _ λw_ hK=>(af ((oY.aw hK).get 0 rfl) rfl)) dP) dP)) dK) ?_;intro aC w20 vs hK hv fr;revert aC;refine cT [(0,pT X.r 0),(8,vB false)] ?_;have sY:=oY.aw hK;clear hK hv fr aC oY;clear vs;refine an 2<|aE<|jG<|cE<|bt<|aV<|an 3<|bH (aq X.r 10) _ (af (sY.get 0 rfl) rfl)<|aE<|jc<|br<|cv<|dq (vB false) ?_;exact⟨false,z,oA,oc,rfl,hz,hG,gn.TU hz (K:=ey X.E.toEnv0) rfl,(sY.cast (EB hz).symm)⟩
theorem vf(X:RX)(z:mv)(oA:ar)(oc:Nat)(w:World)(hX:X.WF)(hRb:RO bI w (.aM X.r 138 (Jr X z oA oc)))(hA:RO bI w X.ro)(nm:bo):Calls Tryz.prog 90 #[pT X.r 0,vT nm] w (gp λv w'=>v=vI ((jd X.E.names nm).getD 0)/\Mem bI w w' []):=by
 have hnf:=hX.Qdx;refine iI 27 [pT X.r 0,vT nm] Tryz.func90 ?_;have hM:=Mem.init w;refine br<|bt<|br<|df 0 ?_;intro aC fr;refine iJ (λn_ a_ w_=>∃(j:Nat),n_=ae X.E.qF-j/\Fr a_ 27 [(0,pT X.r 0),(1,vT nm),(5,nV j)]/\Mem bI w w_ []/\(j<=ae X.E.qF)/\(Jo gg.nm X.E.qF nm j)) (n:=_) ⟨0,rfl,fr.kp [0,1,5],hM,cI _,Jo.zero⟩ ?_;clear fr aC hM;rintro n aC w3 ⟨j,rfl,fr,M4,hj,E9⟩;revert aC;refine bt<|aV<|an 4<|bH (aq X.r 13) _ (af (M4.ro hRb) rfl)<|an 2<|aE<|iY ((j:Int)<(ae X.E.qF:Int)) (λc7=> ?_) (λc7=> ?_);refine cE<|bt<|df 1<|aV ?_;obtain⟨f,hf⟩:=aP (l:=X.E.qF) (i:=j) oM;refine an 3<|bH (aq X.r 13) _ (af (M4.ro hRb) rfl)<|an 1 ?_;obtain⟨sX,Zm⟩:=cU (M4.ro hA.TX) (cs:=f.cells) (i:=j) (gm hf);intro aC fr;refine cZ (some 20) X.fA sX (ae X.E.qF) 5 (j:Int) fr kR Zm oM oM<|an 1<|bH (aN sX (j:Int) 5) _ (bS (M4.ro hA.TX) Zm (i:=j) (cs:=f.cells) (gm hf) 0 _ rfl)<|an 2<|aE<|fZ ((f.nm:bo).toList==(nm:bo).toList) ((f.nm).toList=(nm).toList) (by simp only[az]) (λJ5=> ?_) (λJ5=> ?_);refine aV<|an 1<|eX ((j:Int)+1)<|eW [26]<|an 1<|aE<|cv<|dX<|dX<|dq (vI ((j:Int)+1)) ?_;exact⟨by rw[hX.names,QhC hf J5 E9];rfl,M4⟩;exact cE<|dR<|an 1<|eX ((j:Int)+1)<|eW [0,1,14]<|an 1<|aE λaC fr=>⟨ae X.E.qF-(j+1),oM,j+1,rfl,fr.kp [0,1,5],M4,oM,E9.next hf J5⟩
 refine gZ 0<|ia<|aV ?_;obtain rfl:j=ae X.E.qF:=oM;refine an 1<|aE<|cv<|dq (vI 0) ?_;exact⟨by rw[hX.names,Y0 E9];rfl,M4⟩
theorem Zn(X:RX)(z:mv)(oA:ar)(oc:Nat)(w:World)(hX:X.WF)(hRb:RO bI w (.aM X.r 138 (Jr X z oA oc)))(hA:RO bI w X.ro)(nm:bo):Calls Tryz.prog 117 #[pT X.r 0,vT nm] w (gp λv w'=>v=vI ((jd X.E.data nm).getD 0)/\Mem bI w w' []):=by
 have hnf:=hX.nds;refine iI 32 [pT X.r 0,vT nm] Tryz.func117 ?_;have hM:=Mem.init w;refine br<|bt<|br<|df 0 ?_;intro aC fr;refine iJ (λn_ a_ w_=>∃(j:Nat),n_=ae X.ds-j/\Fr a_ 32 [(0,pT X.r 0),(1,vT nm),(5,nV j)]/\Mem bI w w_ []/\(j<=ae X.ds)/\(Jo cR.nm X.ds nm j)) (n:=_) ⟨0,rfl,fr.kp [0,1,5],hM,cI _,Jo.zero⟩ ?_;clear fr aC hM;rintro n aC w3 ⟨j,rfl,fr,M4,hj,E9⟩;revert aC;refine bt<|aV<|an 4<|bH (aZ X.r) _ (af (M4.ro hRb) rfl)<|an 2<|aE<|iY ((j:Int)<(ae X.ds:Int)) (λc7=> ?_) (λc7=> ?_);refine cE<|bt<|df 1<|aV ?_;obtain⟨d,hd⟩:=aP (l:=X.ds) (i:=j) oM;refine an 3<|bH (aZ X.r) _ (af (M4.ro hRb) rfl)<|an 1 ?_;obtain⟨sX,Zm⟩:=cU (M4.ro hA.Qkz) (cs:=d.cells) (i:=j) (gm hd);intro aC fr;refine cZ (some 20) X.dA sX (ae X.ds) 4 (j:Int) fr kR Zm oM oM<|an 1<|bH (aN sX (j:Int) 4) _ (bS (M4.ro hA.Qkz) Zm (i:=j) (cs:=d.cells) (gm hd) 0 _ rfl)<|an 2<|aE<|fZ ((d.nm:bo).toList==(nm:bo).toList) ((d.nm).toList=(nm).toList) (by simp only[az]) (λJ5=> ?_) (λJ5=> ?_);refine aV<|an 3<|bH (aq X.r 1) _ (af (M4.ro hRb) rfl)<|eW [5,28]<|an 1 ?_;obtain⟨FH,Qfu⟩:=rd_some (M4.ro hA.xpl) (by rw[fj,YO];omega);intro aC fr;refine cZ (some 30) X.pA FH (ae X.ds) 1 (j:Int) fr kR Qfu oM oM<|bH (aN FH (j:Int) 1) _ (iP (M4.ro hA.xpl) Qfu (YP oM))<|an 1<|aE<|cv<|dX<|dX<|dq (vI (cc X.ds j:Int)) ?_;exact⟨by rw[hX.data,QhB hd J5 E9];rfl,M4⟩;exact cE<|dR<|an 1<|eX ((j:Int)+1)<|eW [0,1,14]<|an 1<|aE λaC fr=>⟨ae X.ds-(j+1),oM,j+1,rfl,fr.kp [0,1,5],M4,oM,E9.next hd J5⟩
 refine gZ 0<|ia<|aV ?_;obtain rfl:j=ae X.ds:=oM;refine an 1<|aE<|cv<|dq (vI 0) ?_;exact⟨by rw[hX.data,YL E9];rfl,M4⟩
theorem RN(X:RX)(z:mv)(oA:ar)(oc:Nat)(w:World)(hX:X.WF)(hG:fC X z)(hR:(bD.pk (fJ X z oA oc)).holds w)(a n:Int)(ha:In64 a)(hn0:0<=n)(Iu:n<=2147483647):Calls Tryz.prog 146 #[pT X.r 0,vI a,vI n] w (gp λv w'=>∃x z' oA' oc',v=vI x/\fC X z'/\((1<=x/\x<z.s.next/\z'=z/\yR (IntKind.i64.wrap (a+n)) z.s= .ok x.toNat z.s)\/(x<0/\z'=z.fin 5 0/\yR (IntKind.i64.wrap (a+n)) z.s= .stop 5 0 z.s))/\Mem (xS X z oA oc) w w' (fJ X z' oA' oc')):=by
 have g1:=hG.n1;have g2:=hG.n2;have g3:=hX.mem;have ON:=ha.1;have Iv:=ha.2;refine iI 38 [pT X.r 0,vI a,vI n] Tryz.func146 ?_;have hM:=Mem.te hR;refine br<|bt<|aV<|an 3 ?_;obtain⟨B1,nQ⟩:∃B:Bool,B=decide ((a:Int)<(-2147483647)):=⟨_,rfl⟩;refine cT [(0,pT X.r 0),(1,vI a),(2,vI n),(9,(vB (decide ((a:Int)<(-2147483647)))))] ?_;rw[<-nQ];have zD:B1=true↔((a:Int)<(-2147483647)):=by rw[nQ];simp only[aU]
 clear nQ;intro aC fr;refine dx 4 7 [10,13] fr (news:=[(10,cond (!B1) (vI a) undef),(13,(cond (!B1) (vP (aq X.r 3)) undef))]) (by cases B1<;>kernel_rfl) ?_;intro aC fr;refine aH (B:=(!B1)) (d:=(some 14)) (vI z.s.next) fr (by cases B1<;>kernel_rfl) (λhB hh=> ?_) ?_;cases B1<;>try exact absurd hB dQ
 have c1:¬((a:Int)<(-2147483647)):=mD zD.2;exact bJ (some 14) (aq X.r 3) fr kR (vI z.s.next) (af (hM.get 0 rfl) rfl) hh;intro aC fr;refine dx 3 11 [16,17] fr (news:=[(16,(vB (B1||decide ((a:Int)>z.s.next)))),(17,(vB (B1||decide ((a:Int)>z.s.next))))]) (by cases B1<;>kernel_rfl) ?_;intro aC fr;obtain⟨qz,yg⟩:∃B:Bool,B=(B1||decide ((a:Int)>z.s.next)):=⟨_,rfl⟩;revert aC;refine cT [(0,pT X.r 0),(1,vI a),(2,vI n),(17,(vB (B1||decide ((a:Int)>z.s.next))))] ?_;rw[<-yg];have FI:qz=true↔(((a:Int)<(-2147483647))\/((a:Int)>z.s.next)):=by rw[yg];simp only[dt,aU,zD]
 clear yg;intro aC fr;refine dx 2 13 [18,19] fr (news:=[(18,cond (!qz) (vI a) undef),(19,cond (!qz) (vI n) undef)]) (by cases qz<;>kernel_rfl) ?_;intro aC fr;refine aH (B:=(!qz)) (d:=(some 20)) (vI (a+n)) fr (by cases qz<;>kernel_rfl) (λhB hh=> ?_) ?_;cases qz<;>try exact absurd hB dQ
 have uc:¬(((a:Int)<(-2147483647))\/((a:Int)>z.s.next)):=mD FI.2;exact r8 (some 20) (a+n) fr (z0:=a+n) kR rfl oM oM hh;intro aC fr;refine dx 3 17 [22,23] fr (news:=[(22,(vB (qz||decide (((a+n):Int)<1)))),(23,(vB (qz||decide (((a+n):Int)<1))))]) (by cases qz<;>kernel_rfl) ?_;intro aC fr;obtain⟨zR,Pv⟩:∃B:Bool,B=(qz||decide (((a+n):Int)<1)):=⟨_,rfl⟩;revert aC;refine cT [(0,pT X.r 0),(1,vI a),(2,vI n),(23,(vB (qz||decide (((a+n):Int)<1))))] ?_;rw[<-Pv];have Uf:zR=true↔((((a:Int)<(-2147483647))\/((a:Int)>z.s.next))\/(((a+n):Int)<1)):=by rw[Pv];simp only[dt,aU,FI]
 clear Pv;intro aC fr;refine dx 2 19 [24,25] fr (news:=[(24,cond (!zR) (vI a) undef),(25,cond (!zR) (vI n) undef)]) (by cases zR<;>kernel_rfl) ?_;intro aC fr;refine aH (B:=(!zR)) (d:=(some 26)) (vI (a+n)) fr (by cases zR<;>kernel_rfl) (λhB hh=> ?_) ?_;cases zR<;>try exact absurd hB dQ
 have RP:¬((((a:Int)<(-2147483647))\/((a:Int)>z.s.next))\/(((a+n):Int)<1)):=mD Uf.2;exact r8 (some 26) (a+n) fr (z0:=a+n) kR rfl oM oM hh;intro aC fr;refine dx 3 23 [29] fr (news:=[(29,(cond (!zR) (vP (aq X.r 3)) undef))]) (by cases zR<;>kernel_rfl) ?_;intro aC fr;refine aH (B:=(!zR)) (d:=(some 30)) (vI z.s.next) fr (by cases zR<;>kernel_rfl) (λhB hh=> ?_) ?_;cases zR<;>try exact absurd hB dQ
 have RP:¬((((a:Int)<(-2147483647))\/((a:Int)>z.s.next))\/(((a+n):Int)<1)):=mD Uf.2;exact bJ (some 30) (aq X.r 3) fr kR (vI z.s.next) (af (hM.get 0 rfl) rfl) hh;intro aC fr;refine dx 2 26 [32] fr (news:=[(32,(vB (zR||decide (((a+n):Int)>=z.s.next))))]) (by cases zR<;>kernel_rfl)<|aE<|fZ (zR||decide (((a+n):Int)>=z.s.next)) (((((a:Int)<(-2147483647))\/((a:Int)>z.s.next))\/(((a+n):Int)<1))\/(((a+n):Int)>=z.s.next)) (by simp only[dt,aU,Uf]) (λc32=> ?_) (λc32=> ?_);refine aV<|an 1<|eV (nF X z oA oc w hX hG (Mem.dd (l:=fJ X z oA oc) hM) 5 0) ?_;rintro _ w33 ⟨rfl,DV⟩;have tn:=cC [TW X (z.fin 5 0) oA oc,Mb X (z.fin 5 0),J6 (z.fin 5 0) oA oc] (hM.uX DV);clear DV hM;refine aE<|br<|cv<|dq (vI (-1)) ?_;exact⟨-1,(z.fin 5 0),oA,oc,rfl,hG.fin,.inr ⟨oM,rfl,Qdu ha hn0 Iu oM g1 oM⟩,tn⟩;refine cE<|aV<|an 2<|eX (a+n)<|an 1<|aE<|cv<|dq (vI (a+n)) ?_;exact⟨a+n,z,oA,oc,rfl,hG,.inl ⟨oM,oM,rfl,YN oM oM oM oM oM⟩,hM⟩
theorem Zo(X:RX)(z:mv)(oA:ar)(oc:Nat)(w:World)(hX:X.WF)(hG:fC X z)(hR:(bD.pk (fJ X z oA oc)).holds w)(n:Int)(hz:z.ov=false):Calls Tryz.prog 147 #[pT X.r 0,vI n] w (gp λv w'=>XV X (xS X z oA oc) w z (ur X.E.toEnv0 n) v w'):=by
 have g1:=hG.n1;have g2:=hG.n2;have g3:=hX.mem;refine iI 38 [pT X.r 0,vI n] Tryz.func147 ?_;have hM:=Mem.te hR;refine br<|bt<|br<|iY ((n:Int)<0) (λc1=> ?_) (λc1=> ?_);refine aV<|an 1<|eV (nF X z oA oc w hX hG (Mem.dd (l:=fJ X z oA oc) hM) 5 0) ?_;rintro _ w2 ⟨rfl,M3x⟩;have M3:=cC [TW X (z.fin 5 0) oA oc,Mb X (z.fin 5 0),J6 (z.fin 5 0) oA oc] (hM.uX M3x);clear M3x hM;refine aE<|br<|cv<|dq (vI 0) ?_;exact⟨0,(z.fin 5 0),oA,oc,rfl,hG.fin,gn.fin (K:=ur X.E.toEnv0 n) rfl (λ_=>by unfold ur;first|rw[ax oM];rfl|rw[ao oM,ax oM];rfl),M3⟩;refine cE<|bt<|bt ?_;obtain⟨B4,D1⟩:∃B:Bool,B=decide (n>((X.E.cJ:Int)-z.s.next)):=⟨_,rfl⟩;refine eW [0,1] ?_;intro aC fr;refine qo (bE [eI n,eR X.r 0,eR X.r 0,eP (aq X.r 2),eS (sM X.mG) X.E.cJ X.E.cJ,eI (X.E.cJ:Int),eR X.r 0,eR X.r 0,eP (aq X.r 3),eI z.s.next,eI ((X.E.cJ:Int)-z.s.next),eB B4]) fr (fQ lz dP dP dP dP (dL (aq X.r 2) _ λw_ hK=>(af ((hM.aw hK).get 0 rfl) rfl)) dP dP dP dP (dL (aq X.r 3) _ λw_ hK=>(af ((hM.aw hK).get 0 rfl) rfl)) (dA ((X.E.cJ:Int)-z.s.next)) (dC (decide (n>((X.E.cJ:Int)-z.s.next))) D1)) ?_;intro aC w9 vs hK hv fr;revert aC;refine cT [(0,pT X.r 0),(1,vI n),(21,vB B4)] ?_;have lM:=hM.aw hK;clear hK hv fr aC hM;clear vs;have yh:B4=true↔((n:Int)>((X.E.cJ:Int)-z.s.next)):=by rw[D1];simp only[aU]
 clear D1;refine fZ B4 ((n:Int)>((X.E.cJ:Int)-z.s.next)) yh (λyT=> ?_) (λyT=> ?_);refine aV<|an 1<|eV (nF X z oA oc w9 hX hG (Mem.dd (l:=fJ X z oA oc) lM) 3 0) ?_;rintro _ w12 ⟨rfl,Lp⟩;have rr:=cC [TW X (z.fin 3 0) oA oc,Mb X (z.fin 3 0),J6 (z.fin 3 0) oA oc] (lM.uX Lp);refine aE<|br<|cv<|dq (vI 0) ?_;exact⟨0,(z.fin 3 0),oA,oc,rfl,hG.fin,gn.fin (K:=ur X.E.toEnv0 n) rfl (λ_=>by unfold ur;first|rw[ax oM];rfl|rw[ao oM,ax oM];rfl),rr⟩;refine cE<|aV<|an 3<|bH (aq X.r 3) _ (af (lM.get 0 rfl) rfl)<|an 1<|aE<|aV<|an 4<|bH (aq X.r 3) _ (af (lM.get 0 rfl) rfl)<|an 1<|eX (z.s.next+n)<|an 2<|sf (ho:=sI) lM 0 3 (vI (z.s.next+n)) rfl λw14 oY=> ?_
 replace oY:=oY.nf;refine aE<|br<|cv<|dq (vI z.s.next) ?_;exact⟨z.s.next,{z with s:={z.s with next:=z.s.next+n}},oA,oc,rfl,hG.take oM oM,gn.to (K:=ur X.E.toEnv0 n) rfl hz hz (by unfold ur;rw[ao oM,ao oM]),oY⟩
theorem QdT(X:RX)(z:mv)(oA:ar)(oc:Nat)(w:World)(hX:X.WF)(hG:fC X z)(hR:(bD.pk (fJ X z oA oc)).holds w)(hA:RO (xS X z oA oc) w X.ro)(hz:z.ov=false):Calls Tryz.prog 148 #[pT X.r 0] w (gp λv w'=>XV X (xS X z oA oc) w z (He X.E.toEnv0) v w'):=by
 have g1:=hG.pos;have g2:=hX.inp;refine iI 32 [pT X.r 0] Tryz.func148 ?_;have hM:=Mem.te hR;refine br<|bt<|bt ?_;obtain⟨B1,nQ⟩:∃B:Bool,B=decide ((z.s.pos:Int)>=(ae X.E.inp:Int)):=⟨_,rfl⟩;refine eW [0] ?_;intro aC fr;refine qo (bE [eR X.r 0,eR X.r 0,eP (aq X.r 5),eI (z.s.pos:Int),eR X.r 0,eR X.r 0,eP (aq X.r 4),eS X.iA (ae X.E.inp) X.ic,eI (ae X.E.inp:Int),eB B1]) fr (vG (s3 lz dP dP dP (dL (aq X.r 5) _ λw_ hK=>(af ((hM.aw hK).get 0 rfl) rfl)) dP dP dP (dL (aq X.r 4) _ λw_ hK=>(af ((hM.aw hK).get 0 rfl) rfl))) dP (dC (decide ((z.s.pos:Int)>=(ae X.E.inp:Int))) nQ)) ?_;intro aC w6 vs hK hv fr;revert aC;refine cT [(0,pT X.r 0),(12,vB B1)] ?_;have M7:=hM.aw hK;clear hK hv fr aC hM;clear vs;have zD:B1=true↔((z.s.pos:Int)>=(ae X.E.inp:Int)):=by rw[nQ];simp only[aU]
 clear nQ;refine fZ B1 ((z.s.pos:Int)>=(ae X.E.inp:Int)) zD (λc8=> ?_) (λc8=> ?_);refine br<|cv<|dq (vI (-1)) ?_;exact⟨-1,z,oA,oc,rfl,hG,gn.to (K:=He X.E.toEnv0) rfl hz hz (by unfold He;rw[ao oM]),M7⟩;refine cE<|aV<|an 3<|bH (aq X.r 5) _ (af (M7.get 0 rfl) rfl)<|eX ((z.s.pos:Int)+1)<|an 2<|sf (ho:=sI) M7 0 5 (vI ((z.s.pos:Int)+1)) rfl λw9 lM=> ?_
 replace lM:=lM.nf;refine aE<|bt<|eW [0] ?_;intro aC fr;refine BD 9 (bE [eR X.r 0,eR X.r 0,eP (aq X.r 4),eS X.iA (ae X.E.inp) X.ic,eR X.r 0,eR X.r 0,eP (aq X.r 5),eI ((z.s.pos:Int)+1),eI (((z.s.pos:Int)+1)-1)]) fr (la (s3 lz dP dP dP (dL (aq X.r 4) _ λw_ hK=>(af ((lM.aw hK).get 0 rfl) rfl)) dP dP dP (dL (aq X.r 5) _ λw_ hK=>(af ((lM.aw hK).get 0 rfl) rfl))) (dA (((z.s.pos:Int)+1)-1))) ?_;intro aC w15 vs hK hv fr;revert aC;refine cT [(23,vS X.iA (ae X.E.inp) X.ic),(28,(vI (((z.s.pos:Int)+1)-1)))] ?_;have zz:=lM.aw hK;clear hK hv fr aC lM;clear vs;obtain⟨QkE,Qfv⟩:=rd_some (zz.ro hA.xin) (by rw[QcE];omega);intro aC fr;refine cZ (some 29) X.iA QkE (ae X.E.inp) 1 (((z.s.pos:Int)+1)-1) fr kR Qfv oM oM<|bH (aN QkE (((z.s.pos:Int)+1)-1) 1) _ (Y3 (zz.ro hA.xin) Qfv oM)<|zcv (hz:=(HQ _ (by have:=Y2 hX (p:=z.s.pos);omega))) (X.E.inp.getD z.s.pos 0) .i64 (X.E.inp.getD z.s.pos 0)<|an 1<|aE<|cv<|dq (vI (X.E.inp.getD z.s.pos 0)) ?_;exact⟨_,{z with s:={z.s with pos:=z.s.pos+1}},oA,oc,rfl,hG.read oM,gn.to (K:=He X.E.toEnv0) rfl hz hz (by unfold He;rw[ax oM]),zz⟩
theorem Zp(X:RX)(z:mv)(oA:ar)(oc:Nat)(w:World)(hX:X.WF)(hG:fC X z)(hR:(bD.pk (fJ X z oA oc)).holds w)(u:Int):Calls Tryz.prog 149 #[pT X.r 0,vI u] w (gp λv w'=>∃z' oA' oc',v= .tuple #[]/\fC X z'/\z'.ov=z.ov/\z'.s=Jj u z.s/\Mem (xS X z oA oc) w w' (fJ X z' oA' oc')):=by
 have g1:=hG.out;refine iI 24 [pT X.r 0,vI u] Tryz.func149 ?_;have hM:=Mem.te hR;refine aV<|an 4<|bH (aq X.r 8) _ (af (hM.get 0 rfl) rfl)<|an 2<|aE<|iY ((ae z.s.out:Int)<4096) (λc1=> ?_) (λc1=> ?_);refine dR<|an 5<|bH (aq X.r 8) _ (af (hM.get 0 rfl) rfl)<|an 1<|zcv (hz:=rfl) u .u8 (IntKind.u8.wrap u) ?_;intro aC fr;refine qp 19 24 1 #[(0,.tmp 18)] 24 fr (e:=5) (size:=1) (zs:=[.int .u8 0]) (vs:=[(0,.int .u8 (IntKind.u8.wrap u))]) (cs:=[.int .u8 (IntKind.u8.wrap u)]) hM ?_;intro b2 w3 tm _ M4 _ aC ea fr;clear ea;replace M4:=M4.nf;clear hM;refine zAN 20 (.tmp 16) (.tmp 19) 24 24 fr (e:=5) (size:=1) (bytes:=1) (z:=(.int .u8 0)) (A:=oA) (B:=(sM b2)) (n:=ae z.s.out) (cap:=oc) (m:=1) (cap':=1) (xs:=(vK z.s.out)) (news:=[.int .u8 (IntKind.u8.wrap u)]) M4 2 rfl (aF (M4.get 3 rfl)) rfl (by simp[Value.oneCell']) oM (by simp only[maxLen];omega) (ae (z.s.out++[IntKind.u8.wrap u])) (vK (z.s.out++[IntKind.u8.wrap u])) (by rw[dG];rfl) (by rw[OT];rfl) ?_;intro A9 uc Fw eM _ aC ea fr;clear ea;replace eM:=eM.nf;have oY:=eM.od [2,2,2] 3;revert aC;refine an 3<|sf (ho:=sI) oY 0 8 (vS A9 (ae (z.s.out++[IntKind.u8.wrap u])) uc) rfl λTj kV=> ?_
 replace kV:=kV.nf;refine aE<|zo0 ?_;exact⟨{z with s:={z.s with out:=(z.s.out++[IntKind.u8.wrap u])}},A9,uc,rfl,hG.write oM _,rfl,by unfold Jj;rw[ax oM],kV⟩;refine cE<|zo0 ?_;exact⟨z,oA,oc,rfl,hG,rfl,by unfold Jj;rw[ao oM],hM⟩
theorem QdU(w:World):Calls Tryz.prog 157 #[vB true] w (gp λv w'=>v=vI 1/\Mem bI w w' []):=by
 refine iI 4 [vB true] Tryz.func157 ?_;have hM:=Mem.init w;refine br<|bt<|br<|jc<|br<|cv<|dq (vI 1) ?_;exact⟨rfl,hM⟩
theorem QdV(w:World):Calls Tryz.prog 157 #[vB false] w (gp λv w'=>v=vI 0/\Mem bI w w' []):=by
 refine iI 4 [vB false] Tryz.func157 ?_;have hM:=Mem.init w;refine br<|bt<|br<|jG<|cE<|br<|cv<|dq (vI 0) ?_;exact⟨rfl,hM⟩
theorem sF(b:Bool)(w:World):Calls Tryz.prog 157 #[.bool b] w (gp λv w'=>v=vI (dN b)/\Mem bI w w' []):=by
 cases b
 ·exact QdV w
 ·exact QdU w
set_option maxHeartbeats 2000000 in
theorem QdW(op a b:Int)(w:World):Calls Tryz.prog 158 #[vI op,vI a,vI b] w (gp λv w'=>v= .tuple #[vI (cW op a b).1,vI (cW op a b).2]/\Mem bI w w' []):=by
 refine iI 108 [vI op,vI a,vI b] Tryz.func158 ?_;have hM:=Mem.init w;refine br<|bt<|br<|df 0<|br<|o3 op 1 (λc1=> ?_) (λc1=> ?_);refine aV<|an 2<|Nf .i64 (IntKind.i64.wrap (a+b)) b<|an 2<|aE<|cv<|dX<|lH (vI (IntKind.i64.wrap (a+b))) (vI 0) ?_;refine⟨?_,hM⟩;have e_:cW op a b=(IntKind.i64.wrap (a+b),0):=by exact bo1
 rw[e_];refine br<|o3 op 2 (λc2=> ?_) (λc2=> ?_);refine aV<|an 2<|Nf .i64 (IntKind.i64.wrap (a-b)) b<|an 2<|aE<|cv<|dX<|lH (vI (IntKind.i64.wrap (a-b))) (vI 0) ?_;refine⟨?_,hM⟩;have e_:cW op a b=(IntKind.i64.wrap (a-b),0):=by exact bo2
 rw[e_];refine br<|o3 op 3 (λc3=> ?_) (λc3=> ?_);refine aV<|an 2<|Nf .i64 (IntKind.i64.wrap (a*b)) b<|an 2<|aE<|cv<|dX<|lH (vI (IntKind.i64.wrap (a*b))) (vI 0) ?_;refine⟨?_,hM⟩;have e_:cW op a b=(IntKind.i64.wrap (a*b),0):=by exact bo3
 rw[e_];refine bt<|br ?_;obtain⟨B4,D1⟩:∃B:Bool,B=((op:Int)==4):=⟨_,rfl⟩;refine cT [(0,vI op),(1,vI a),(2,vI b),(8,vI op),(24,(vB ((op:Int)==4)))] ?_;rw[<-D1];have yh:B4=true↔((op:Int)=4):=by rw[D1];simp only[az]
 clear D1;cases B4;have c4:¬((op:Int)=4):=mD yh.2;refine jG<|zt<|o3 op 5 (λc5=> ?_) (λc5=> ?_);refine bt<|br<|o3 b 0 (λc6=> ?_) (λc6=> ?_);refine br<|cv<|dX<|lH (vI 0) (vI 3) ?_;refine⟨?_,hM⟩;have e_:cW op a b=(0,3):=by first|exact YQ oM oM|exact YR oM oM|exact YS oM oM|exact YT oM oM oM|exact YU oM oM oM|exact ki oM
 rw[e_];refine cE<|bt<|br<|o3 b (-1) (λc7=> ?_) (λc7=> ?_);refine bt<|br<|o3 op 4 (λc8=> ?_) (λc8=> ?_);refine aV<|an 1<|zui .neg a .i64 (IntKind.i64.wrap (0-a))<|an 2<|aE<|cv<|dX<|lH (vI (IntKind.i64.wrap (0-a))) (vI 0) ?_;refine⟨?_,hM⟩;have e_:cW op a b=(IntKind.i64.wrap (0-a),0):=by first|exact YQ oM oM|exact YR oM oM|exact YS oM oM|exact YT oM oM oM|exact YU oM oM oM|exact ki oM
 rw[e_];refine cE<|br<|cv<|dX<|lH (vI 0) (vI 0) ?_;refine⟨?_,hM⟩;have e_:cW op a b=(0,0):=by first|exact YQ oM oM|exact YR oM oM|exact YS oM oM|exact YT oM oM oM|exact YU oM oM oM|exact ki oM
 rw[e_];refine cE<|bt<|br<|o3 op 4 (λc9=> ?_) (λc9=> ?_);refine aV<|an 2<|zbd .i64 (IntKind.i64.wrap (a.tdiv b)) b (by assumption)<|an 2<|aE<|cv<|dX<|lH (vI (IntKind.i64.wrap (a.tdiv b))) (vI 0) ?_;refine⟨?_,hM⟩;have e_:cW op a b=(IntKind.i64.wrap (a.tdiv b),0):=by first|exact YQ oM oM|exact YR oM oM|exact YS oM oM|exact YT oM oM oM|exact YU oM oM oM|exact ki oM
 rw[e_];refine cE<|aV<|an 2<|zbd .i64 (a.tmod b) b (by assumption)<|an 2<|aE<|cv<|dX<|lH (vI (a.tmod b)) (vI 0) ?_;refine⟨?_,hM⟩;have e_:cW op a b=(a.tmod b,0):=by first|exact YQ oM oM|exact YR oM oM|exact YS oM oM|exact YT oM oM oM|exact YU oM oM oM|exact ki oM
 rw[e_];refine br<|o3 op 6 (λuc=> ?_) (λuc=> ?_);refine aV<|an 2<|Nf .i64 (yc a b) b<|an 2<|aE<|cv<|dX<|lH (vI (yc a b)) (vI 0) ?_;refine⟨?_,hM⟩;have e_:cW op a b=(yc a b,0):=by exact bo6
 rw[e_];refine br<|o3 op 7 (λyT=> ?_) (λyT=> ?_);refine aV<|an 2<|Nf .i64 (bOr a b) b<|an 2<|aE<|cv<|dX<|lH (vI (bOr a b)) (vI 0) ?_;refine⟨?_,hM⟩;have e_:cW op a b=(bOr a b,0):=by exact bo7
 rw[e_];refine br<|o3 op 8 (λI1=> ?_) (λI1=> ?_);refine aV<|an 2<|Nf .i64 (vm a b) b<|an 2<|aE<|cv<|dX<|lH (vI (vm a b)) (vI 0) ?_;refine⟨?_,hM⟩;have e_:cW op a b=(vm a b,0):=by exact bo8
 rw[e_];refine br<|o3 op 9 (λc13=> ?_) (λc13=> ?_);refine aV<|an 2<|Nf .i64 (yc b 63) 63<|zcv (hz:=(Rz b)) (yc b 63) .u64 (yd b)<|zbs .i64 .u64 (Lg a (yd b)) (yd b) (I5 b)<|an 2<|aE<|cv<|dX<|lH (vI (Lg a (yd b))) (vI 0) ?_;refine⟨?_,hM⟩;have e_:cW op a b=(Lg a (yd b),0):=by exact bo9
 rw[e_];refine br<|o3 op 10 (λJ5=> ?_) (λJ5=> ?_);refine aV<|an 2<|Nf .i64 (yc b 63) 63<|zcv (hz:=(Rz b)) (yc b 63) .u64 (yd b)<|zbs .i64 .u64 (IX a (yd b)) (yd b) (I5 b)<|an 2<|aE<|cv<|dX<|lH (vI (IX a (yd b))) (vI 0) ?_;refine⟨?_,hM⟩;have e_:cW op a b=(IX a (yd b),0):=by exact QjP
 rw[e_];refine br<|o3 op 11 (λT8=> ?_) (λT8=> ?_);refine aV<|an 3<|eV (sF ((a:Int)==b) w) ?_;rintro _ Tj ⟨rfl,QkF⟩;have kV:=hM.cl QkF;clear QkF hM;refine an 2<|aE<|cv<|dX<|lH (vI (dN ((a:Int)==b))) (vI 0) ?_;refine⟨?_,kV⟩;have e_:cW op a b=(dN ((a:Int)==b),0):=by exact QjQ
 rw[e_];refine br<|o3 op 12 (λoQ=> ?_) (λoQ=> ?_);refine aV<|an 3<|eV (sF ((a:Int) !=b) w) ?_;rintro _ w19 ⟨rfl,FJ⟩;have vp:=hM.cl FJ;clear FJ hM;refine an 2<|aE<|cv<|dX<|lH (vI (dN ((a:Int) !=b))) (vI 0) ?_;refine⟨?_,vp⟩;have e_:cW op a b=(dN ((a:Int) !=b),0):=by exact QjR
 rw[e_];refine br<|o3 op 13 (λFh=> ?_) (λFh=> ?_);refine aV<|an 3<|eV (sF (decide ((a:Int)<b)) w) ?_;rintro _ w22 ⟨rfl,Lj⟩;have oZ:=hM.cl Lj;clear Lj hM;refine an 2<|aE<|cv<|dX<|lH (vI (dN (decide ((a:Int)<b)))) (vI 0) ?_;refine⟨?_,oZ⟩;have e_:cW op a b=(dN (decide ((a:Int)<b)),0):=by exact QjS
 rw[e_];refine br<|o3 op 14 (λVG=> ?_) (λVG=> ?_);refine aV<|an 3<|eV (sF (decide ((a:Int)<=b)) w) ?_;rintro _ w25 ⟨rfl,QkG⟩;have iQ:=hM.cl QkG;clear QkG hM;refine eW [95]<|an 2<|aE<|cv<|dX<|lH (vI (dN (decide ((a:Int)<=b)))) (vI 0) ?_;refine⟨?_,iQ⟩;have e_:cW op a b=(dN (decide ((a:Int)<=b)),0):=by exact QjT
 rw[e_];refine br<|o3 op 15 (λI2=> ?_) (λI2=> ?_);refine aV<|an 3<|eV (sF (decide ((a:Int)>b)) w) ?_;rintro _ w28 ⟨rfl,QdX⟩;have ob:=hM.cl QdX;clear QdX hM;refine eW [101]<|an 2<|aE<|cv<|dX<|lH (vI (dN (decide ((a:Int)>b)))) (vI 0) ?_;refine⟨?_,ob⟩;have e_:cW op a b=(dN (decide ((a:Int)>b)),0):=by exact QjU
 rw[e_];refine br<|o3 op 16 (λc30=> ?_) (λc30=> ?_);refine aV<|an 3<|eV (sF (decide ((a:Int)>=b)) w) ?_;rintro _ w31 ⟨rfl,Ug⟩;have sZ:=hM.cl Ug;clear Ug hM;refine eW [107]<|an 2<|aE<|cv<|dX<|lH (vI (dN (decide ((a:Int)>=b)))) (vI 0) ?_;refine⟨?_,sZ⟩;have e_:cW op a b=(dN (decide ((a:Int)>=b)),0):=by exact QjV
 rw[e_];refine cE<|br<|cv<|lH (vI 0) (vI (-1)) ?_;refine⟨?_,hM⟩;have e_:cW op a b=(0,-1):=by first|exact YQ oM oM|exact YR oM oM|exact YS oM oM|exact YT oM oM oM|exact YU oM oM oM|exact ki oM
 rw[e_];have c4:((op:Int)=4):=yh.1 rfl;refine jc<|cE<|jc<|bt<|br<|o3 b 0 (λJ3=> ?_) (λJ3=> ?_);refine br<|cv<|dX<|lH (vI 0) (vI 3) ?_;refine⟨?_,hM⟩;have e_:cW op a b=(0,3):=by first|exact YQ oM oM|exact YR oM oM|exact YS oM oM|exact YT oM oM oM|exact YU oM oM oM|exact ki oM
 rw[e_];refine cE<|bt<|br<|o3 b (-1) (λc34=> ?_) (λc34=> ?_);refine bt<|br<|o3 op 4 (λc35=> ?_) (λc35=> ?_);refine aV<|an 1<|zui .neg a .i64 (IntKind.i64.wrap (0-a))<|an 2<|aE<|cv<|dX<|lH (vI (IntKind.i64.wrap (0-a))) (vI 0) ?_;refine⟨?_,hM⟩;have e_:cW op a b=(IntKind.i64.wrap (0-a),0):=by first|exact YQ oM oM|exact YR oM oM|exact YS oM oM|exact YT oM oM oM|exact YU oM oM oM|exact ki oM
 rw[e_];refine cE<|br<|cv<|dX<|lH (vI 0) (vI 0) ?_;refine⟨?_,hM⟩;have e_:cW op a b=(0,0):=by first|exact YQ oM oM|exact YR oM oM|exact YS oM oM|exact YT oM oM oM|exact YU oM oM oM|exact ki oM
 rw[e_];refine cE<|bt<|br<|o3 op 4 (λc36=> ?_) (λc36=> ?_);refine aV<|an 2<|zbd .i64 (IntKind.i64.wrap (a.tdiv b)) b (by assumption)<|an 2<|aE<|cv<|dX<|lH (vI (IntKind.i64.wrap (a.tdiv b))) (vI 0) ?_;refine⟨?_,hM⟩;have e_:cW op a b=(IntKind.i64.wrap (a.tdiv b),0):=by first|exact YQ oM oM|exact YR oM oM|exact YS oM oM|exact YT oM oM oM|exact YU oM oM oM|exact ki oM
 rw[e_];refine cE<|aV<|an 2<|zbd .i64 (a.tmod b) b (by assumption)<|an 2<|aE<|cv<|dX<|lH (vI (a.tmod b)) (vI 0) ?_;refine⟨?_,hM⟩;have e_:cW op a b=(a.tmod b,0):=by first|exact YQ oM oM|exact YR oM oM|exact YS oM oM|exact YT oM oM oM|exact YU oM oM oM|exact ki oM
 rw[e_]
theorem QhW(op a:Int)(w:World):Calls Tryz.prog 150 #[vI op,vI a] w (gp λv w'=>v= .tuple #[vI (nD op a).1,vI (nD op a).2]/\Mem bI w w' []):=by
 refine iI 20 [vI op,vI a] Tryz.func150 ?_;have hM:=Mem.init w;refine br<|bt<|br<|df 0<|br<|o3 op 1 (λc1=> ?_) (λc1=> ?_);refine aV<|an 1<|zui .neg a .i64 (IntKind.i64.wrap (0-a))<|an 2<|aE<|cv<|dX<|lH (vI (IntKind.i64.wrap (0-a))) (vI 0) ?_;refine⟨?_,hM⟩;have e_:nD op a=(IntKind.i64.wrap (0-a),0):=by first|exact uo1|exact uo2|exact uo3|exact yf (by assumption) (by assumption) (by assumption)
 rw[e_];refine br<|o3 op 2 (λc2=> ?_) (λc2=> ?_);refine aV<|an 1<|zui .xor a .i64 (vm (-1) a)<|an 2<|aE<|cv<|dX<|lH (vI (vm (-1) a)) (vI 0) ?_;refine⟨?_,hM⟩;have e_:nD op a=(vm (-1) a,0):=by first|exact uo1|exact uo2|exact uo3|exact yf (by assumption) (by assumption) (by assumption)
 rw[e_];refine br<|o3 op 3 (λc3=> ?_) (λc3=> ?_);refine aV<|an 2<|eV (sF ((a:Int)==0) w) ?_;rintro _ w4 ⟨rfl,OS⟩;have M5:=hM.cl OS;clear OS hM;refine an 2<|aE<|cv<|dX<|lH (vI (dN ((a:Int)==0))) (vI 0) ?_;refine⟨?_,M5⟩;have e_:nD op a=(dN ((a:Int)==0),0):=by first|exact uo1|exact uo2|exact uo3|exact yf (by assumption) (by assumption) (by assumption)
 rw[e_];refine cE<|br<|cv<|lH (vI 0) (vI (-1)) ?_;refine⟨?_,hM⟩;have e_:nD op a=(0,-1):=by first|exact uo1|exact uo2|exact uo3|exact yf (by assumption) (by assumption) (by assumption)
 rw[e_]
theorem QhX(X:RX)(z:mv)(oA:ar)(oc:Nat)(w:World)(hX:X.WF)(hG:fC X z)(hR:(bD.pk (fJ X z oA oc)).holds w)(op a b:Int)(hz:z.ov=false):Calls Tryz.prog 151 #[pT X.r 0,vI op,vI a,vI b] w (gp λv w'=>XV X (xS X z oA oc) w z (TV op a b) v w'):=by
 refine iI 24 [pT X.r 0,vI op,vI a,vI b] Tryz.func151 ?_;have hM:=Mem.te hR;refine br<|aV<|an 3<|eV (QdW op a b w) ?_;rintro _ w1 ⟨rfl,Xy⟩;have M2:=hM.cl Xy;clear Xy hM;refine an 5<|aE<|bt<|br<|fZ (((cW op a b).2:Int) !=0) (((cW op a b).2:Int)≠0) (by simp only[cQ]) (λc3=> ?_) (λc3=> ?_);refine dR<|an 2<|eV (nF X z oA oc w1 hX hG (Mem.dd (l:=fJ X z oA oc) M2) 2 ((cW op a b).2)) ?_;rintro _ w4 ⟨rfl,OS⟩;have M5:=cC [.aM X.r 138 [vS X.dA (ae X.ds) X.dc,vS X.pA (ae X.ds) X.pc,vS (sM X.mG) X.E.cJ X.E.cJ,vI ((z.fin 2 ((cW op a b).2)).s.next),vS X.iA (ae X.E.inp) X.ic,(vI ((z.fin 2 ((cW op a b).2)).s.pos:Int)),vI ((z.fin 2 ((cW op a b).2)).k),vI ((z.fin 2 ((cW op a b).2)).c),vS oA ((z.fin 2 ((cW op a b).2)).s.out.length) oc,vI ((z.fin 2 ((cW op a b).2)).s.steps),vB ((z.fin 2 ((cW op a b).2)).ov),vI X.E.fuel,vI ((z.fin 2 ((cW op a b).2)).s.opened),vS X.fA (ae X.E.qF) X.fc,vS X.qA (ae X.E.qF) X.qc],.row 2 1 (sM X.mG) X.E.cJ X.E.cJ (ints (z.fin 2 ((cW op a b).2)).s.mem),.row 5 1 oA ((z.fin 2 ((cW op a b).2)).s.out.length) oc (vK (z.fin 2 ((cW op a b).2)).s.out)] (M2.uX OS);refine aE<|br<|cv<|dq (vI (cW op a b).1) ?_;exact⟨_,(z.fin 2 ((cW op a b).2)),oA,oc,rfl,hG.fin,gn.fin (K:=TV op a b) rfl (λ_=>by unfold TV;rw[ao c3];rfl),M5⟩;refine cE<|br<|cv<|dq (vI (cW op a b).1) ?_;exact⟨_,z,oA,oc,rfl,hG,gn.to (K:=TV op a b) rfl hz hz (by unfold TV;rw[ax oM]),M2⟩
set_option maxHeartbeats 4000000 in
theorem QdY(X:RX)(z:mv)(oA:ar)(oc:Nat)(w:World)(hX:X.WF)(hG:fC X z)(hR:(bD.pk (fJ X z oA oc)).holds w)(hA:RO (xS X z oA oc) w X.ro)(g:Nat)(hK:RF Tryz.prog X 89 (cX X.E.toEnv0 g) (g:Int))(i:aQ)(l:ah)(bA:ar)(bc:Nat)(hz:z.ov=false)(hZ:xv X.E.toEnv0 z (g:Int) l)(hs:cA i)(hlen:ae l=ae i.args)(Uh:ae l<=bc)(hl:RO (xS X z oA oc) w (.rd bA (ints l))):Calls Tryz.prog 132 #[pT X.r 0,iG i,vS bA (ae l) bc] w (gp λv w'=>YIV X (xS X z oA oc) w z i.op (cP X.E.toEnv0 (cX X.E.toEnv0 g) i l) v w'):=by
 have g1:=hG.n1;have g2:=hG.n2;have g3:=hX.mem;have Vw:LI l:=λx hx=>hZ.in_ hz hx
 have h8:(jd X.E.data i.name).getD 0=0->jd X.E.data i.name=none:=λh_=>YV h_ (λn hn=>by rw[hX.data]at hn;obtain⟨j,_,rfl⟩:=Hl hn;have:=Eb (ds:=X.ds) (j:=j);omega)
 have h9:(jd X.E.names i.name).getD 0=0->jd X.E.names i.name=none:=λh_=>YV h_ (λn hn=>by rw[hX.names]at hn;have:=Y1 hn;omega)
 have h8y:¬(jd X.E.data i.name).getD 0=0->jd X.E.data i.name=some ((jd X.E.data i.name).getD 0):=RI;have h9y:¬(jd X.E.names i.name).getD 0=0->jd X.E.names i.name=some ((jd X.E.names i.name).getD 0):=RI;refine iI 161 [pT X.r 0,iG i,vS bA (ae l) bc] Tryz.func132 ?_;have hM:=Mem.te hR;refine aV<|sU hM 45 (iG i) (iV i) λb1 w2 mS M3=> ?_
 replace M3:=M3.nf;clear hM;refine an 1<|aE<|bt<|aV<|an 1<|bH (aZ b1) _ (af (M3.get 3 rfl) rfl)<|aE<|df 0<|br<|o3 i.op 1 (λc4=> ?_) (λc4=> ?_);refine aV<|an 1<|bH (aq b1 2) _ (af (M3.get 3 rfl) rfl)<|an 1<|aE<|cv<|dX<|dq (vI i.n) ?_;exact⟨_,z,oA,oc,rfl,hG,⟨_,λ_=>rfl,gn.to (K:=cP X.E.toEnv0 (cX X.E.toEnv0 g) i l) rfl hz hz (sr oM)⟩,M3.tk 3⟩;refine bt<|br ?_;obtain⟨B5,hB5⟩:∃B:Bool,B=((i.op:Int)==2):=⟨_,rfl⟩;refine cT [(0,pT X.r 0),(2,vS bA (ae l) bc),(4,pT b1 0),(12,vI i.op),(17,(vB ((i.op:Int)==2)))] ?_;rw[<-hB5];have iB5:B5=true↔((i.op:Int)=2):=by rw[hB5];simp only[az]
 clear hB5;cases B5;have c5:¬((i.op:Int)=2):=mD iB5.2;refine jG<|zt<|o3 i.op 3 (λc6=> ?_) (λc6=> ?_);refine bt ?_;obtain⟨QnI,QnJ,QnK⟩:=Qfs oM hs;obtain⟨ad7,rfl⟩:=rd_some (M3.ro hl) (by rw[fj];omega);refine eW [0,2,4,12] ?_;intro aC fr;refine BD 8 (bE [eR X.r 0,eR X.r 0,eR X.r 0,eS (some ad7) (ae l) bc,eA ad7 (0:Int) 1,eI (a0 l),eR b1 2,eI i.n]) fr (s3 lz dP dP dP dP (dI ad7 (ae l) 1 0) (dL (aN ad7 (0:Int) 1) _ λw_ hK=>(fR (i:=0) ((M3.aw hK).ro hl) rfl oM oM)) dP (dL (aq b1 2) _ λw_ hK=>(af ((M3.aw hK).get 3 rfl) rfl))) ?_;intro aC w12 vs hK hv fr;revert aC;refine cT [(0,pT X.r 0),(2,vS (some ad7) (ae l) bc),(4,pT b1 0),(22,pT X.r 0),(25,vI (a0 l)),(27,vI i.n)] ?_;have rr:=M3.aw hK;clear hK hv fr aC M3;clear vs;refine eV (vs:=#[pT X.r 0,vI (a0 l),vI i.n]) (RN X z oA oc w12 hX hG (Mem.dd (l:=fJ X z oA oc) rr) (a0 l) i.n (Vw _ (YW oM)) oM oM) ?_;rintro _ w19 ⟨Ui,z15,QdZ,Qd0,rfl,Zq,QkH,FJ⟩;have vp:=cC [TW X z15 QdZ Qd0,Mb X z15,J6 z15 QdZ Qd0,.aM b1 45 (iV i)] (rr.uX FJ);refine an 1<|aE<|bt<|br<|iY ((Ui:Int)<0) (λFh=> ?_) (λFh=> ?_);refine br<|cv<|dX<|dq (vI 0) ?_;rcases QkH with⟨h1_,_⟩|⟨_,h2_,h3_⟩
 · omega
 exact⟨0,z15,QdZ,Qd0,rfl,Zq,⟨0,λ_=>rfl,by rw[h2_];exact gn.fin (K:=cP X.E.toEnv0 (cX X.E.toEnv0 g) i l) rfl (λ_=>by rw[tY oM,h3_];rfl)⟩,vp.tk 3⟩;refine cE<|bt<|aV ?_;obtain⟨h1_,h2_,h3_,h4_⟩:=Or.resolve_right QkH (λh_=>absurd h_.1 oM);have h5_:=hG.n2;have h6_:=Zq.mem;refine an 1<|bH (aZ b1) _ (af (vp.get 3 rfl) rfl)<|an 1<|aE<|o3 i.op 3 (λc22=> ?_) (λc22=> ?_);have hq3:=(xI oM).1 hs;refine eW [0,2,7] ?_;intro aC fr;refine BD 9 (bE [eR X.r 0,eR X.r 0,eR X.r 0,eP (aq X.r 2),eS (sM X.mG) X.E.cJ X.E.cJ,eI Ui,eS (some ad7) (ae l) bc,eA ad7 (1:Int) 1,eI (a1 l)]) fr (la (s3 lz dP dP dP dP (dL (aq X.r 2) _ λw_ hK=>(af ((vp.aw hK).get 0 rfl) rfl)) dP dP (dI ad7 (ae l) 1 1)) (dL (aN ad7 (1:Int) 1) _ λw_ hK=>(fR (i:=1) ((vp.aw hK).ro hl) rfl oM oM))) ?_;intro aC w27 vs hK hv fr;revert aC;refine cT [(0,pT X.r 0),(7,vI Ui),(38,vS (sM X.mG) X.E.cJ X.E.cJ),(39,vI Ui),(42,vI (a1 l))] ?_;have ue:=vp.aw hK;clear hK hv fr aC vp;clear vs;refine ga (h0:=oM) (h1:=oM) (aZ X.mG) X.E.cJ 1 Ui<|DI ue 1 (aN (aZ X.mG) (Ui) 1) ((Ui).toNat*1) (vI (a1 l)) rfl rfl oM λw29 yS=> ?_
 replace yS:=yS.nf;refine aE<|aV ?_;have u5:=cC [TW X z15 QdZ Qd0,.row 2 1 (sM X.mG) X.E.cJ X.E.cJ (ints (z15.s.mem.set Ui.toNat (a1 l))),J6 z15 QdZ Qd0,.aM b1 45 (iV i)] (yS.cast (by rw[uv]));refine an 4<|bH (aq X.r 2) _ (af (u5.get 0 rfl) rfl)<|an 1<|ga (h0:=oM) (h1:=oM) (aZ X.mG) X.E.cJ 1 Ui<|bH (aN (aZ X.mG) (Ui) 1) _ (fR (aF (u5.get 1 rfl)) rfl oM (by rw[lj];omega))<|an 1<|aE<|cv<|dX<|dq (vI ((z15.s.mem.set Ui.toNat (a1 l)).getD Ui.toNat 0)) ?_;exact⟨_,{z15 with s:={z15.s with mem:=(z15.s.mem.set Ui.toNat (a1 l))}},QdZ,Qd0,rfl,(Zq.set _ _),⟨0,λhm_=>absurd hm_ (by unfold aJ;omega),gn.to (K:=cP X.E.toEnv0 (cX X.E.toEnv0 g) i l) rfl hz (by show z15.ov=false;rw[h3_];exact hz) (by rw[tY oM,h4_,h3_];rfl)⟩,u5.tk 3⟩;omega;refine br<|o3 i.op 4 (λc32=> ?_) (λc32=> ?_);refine aV ?_;have hq4:=(Ih oM).1 hs;refine an 3<|bH (aq b1 3) _ (af (M3.get 3 rfl) rfl)<|eV (vf X z oA oc w2 hX (M3.ei 0 rfl) (hA.at_ M3) i.name) ?_;rintro _ w33 ⟨rfl,DV⟩;have tn:=M3.cl DV;refine an 1<|eV (hK ((jd X.E.names i.name).getD 0) l bA bc z oA oc w33 hG hZ (Mem.dd (l:=fJ X z oA oc) tn) (hA.vD (l:=fJ X z oA oc) tn) (hl.vD (l:=fJ X z oA oc) tn) oM) ?_;rintro _ w40 ⟨x35,z36,QnL,QnM,rfl,QkI,QnN,QnO⟩;have wO:=cC [TW X z36 QnL QnM,Mb X z36,J6 z36 QnL QnM,.aM b1 45 (iV i)] (tn.uX QnO);refine an 1<|aE<|cv<|dX<|dq (vI x35) ?_;exact⟨_,z36,QnL,QnM,rfl,QkI,⟨_,λ_=>rfl,gn.tail (gn.Ns (K:=cP X.E.toEnv0 (cX X.E.toEnv0 g) i l) (λs_=>(wG oM).trans YY) rfl) QnN⟩,wO.tk 3⟩;refine br<|o3 i.op 5 (λc42=> ?_) (λc42=> ?_);refine bt ?_;have hq5:=(Ii oM).1 hs;obtain⟨x0,l1,rfl⟩:∃x l2,l=x::l2:=by cases l with|nil=>exact absurd hlen (by simp;omega)|cons x l2=>exact⟨x,l2,rfl⟩
 simp only[fh]at hlen Uh;obtain⟨fq,rfl⟩:=rd_some (M3.ro hl) (by rw[fj];simp);refine eW [0,2,4,12] ?_;intro aC fr;refine BD 6 (bE [eR X.r 0,eS (some fq) (ae l1+1) bc,eA fq (0:Int) 1,eI x0,eS (some fq) (ae l1+1) bc,.bd (QjJ (some fq) (ae l1+1) bc 1 1)]) fr (la (xu lz dP dP (dI fq (ae l1+1) 1 0) (dL (aN fq (0:Int) 1) _ λw_ hK=>(fR (i:=0) (l:=x0::l1) ((M3.aw hK).ro hl) rfl oM sI)) dP) (dSl (some fq) (ae l1+1) bc 1 1 oM)) ?_;intro aC w48 vs hK hv fr;revert aC;refine cT [(63,pT X.r 0),(66,vI x0),(68,(vS (if bc=1 then(some fq)else Option.map (·.add (1*1)) (some fq)) (ae l1) (bc-1)))] ?_;have tf:=M3.aw hK;clear hK hv fr aC M3;clear vs;refine eV (vs:=#[pT X.r 0,vI x0,(vS (if bc=1 then(some fq)else Option.map (·.add (1*1)) (some fq)) (ae l1) (bc-1))]) (hK x0 l1 (if bc=1 then(some fq)else Option.map (·.add (1*1)) (some fq)) (bc-1) z oA oc w48 hG (hZ.Qdt (dv _) (λx hx=> .inl (cr _ hx))) (Mem.dd (l:=fJ X z oA oc) tf) (hA.vD (l:=fJ X z oA oc) tf) (RO.Om (vs:=ints l1) (hl.vD (l:=fJ X z oA oc) tf) (by rw[fj];exact Uh)) oM) ?_;rintro _ w55 ⟨x50,z51,QnP,QnQ,rfl,QkJ,QnR,QnS⟩;have GP:=cC [TW X z51 QnP QnQ,Mb X z51,J6 z51 QnP QnQ,.aM b1 45 (iV i)] (tf.uX QnS);refine an 1<|aE<|cv<|dX<|dq (vI x50) ?_;exact⟨_,z51,QnP,QnQ,rfl,QkJ,⟨_,λ_=>rfl,gn.tail (gn.Ns (K:=cP X.E.toEnv0 (cX X.E.toEnv0 g) i (x0::l1)) (λs_=>wH oM) rfl) QnR⟩,GP.tk 3⟩;refine bt<|br ?_;obtain⟨B57,QhY⟩:∃B:Bool,B=((i.op:Int)==6):=⟨_,rfl⟩;refine cT [(0,pT X.r 0),(2,vS bA (ae l) bc),(4,pT b1 0),(12,vI i.op),(70,(vB ((i.op:Int)==6)))] ?_;rw[<-QhY];have QkK:B57=true↔((i.op:Int)=6):=by rw[QhY];simp only[az]
 clear QhY;cases B57;have c57:¬((i.op:Int)=6):=mD QkK.2;refine jG<|zt<|o3 i.op 7 (λc58=> ?_) (λc58=> ?_);refine aV<|an 2<|bH (aq b1 3) _ (af (M3.get 3 rfl) rfl)<|eV (vf X z oA oc w2 hX (M3.ei 0 rfl) (hA.at_ M3) i.name) ?_;rintro _ w59 ⟨rfl,Zr⟩;have zB:=M3.cl Zr;refine an 1<|aE<|bt<|aV<|an 1<|bH (aZ b1) _ (af (zB.get 3 rfl) rfl)<|an 1<|aE<|o3 i.op 6 (λc61=> ?_) (λc61=> ?_);omega;refine cE<|bt<|br<|o3 ((jd X.E.names i.name).getD 0) 0 (λc62=> ?_) (λc62=> ?_);refine dR<|an 3<|eV (nF X z oA oc w59 hX hG (Mem.dd (l:=fJ X z oA oc) zB) 5 0) ?_;rintro _ w63 ⟨rfl,QnT⟩;have GQ:=cC [TW X (z.fin 5 0) oA oc,Mb X (z.fin 5 0),J6 (z.fin 5 0) oA oc,.aM b1 45 (iV i)] (zB.uX QnT);refine aE<|br<|cv<|dX<|dq (vI ((jd X.E.names i.name).getD 0)) ?_;exact⟨_,(z.fin 5 0),oA,oc,rfl,hG.fin,⟨_,λ_=>rfl,gn.fin (K:=cP X.E.toEnv0 (cX X.E.toEnv0 g) i l) rfl (λ_=>by rw[ua oM,h9 (by assumption)];rfl)⟩,GQ.tk 3⟩;refine cE<|br<|cv<|dX<|dq (vI ((jd X.E.names i.name).getD 0)) ?_;exact⟨_,z,oA,oc,rfl,hG,⟨_,λ_=>rfl,gn.to (K:=cP X.E.toEnv0 (cX X.E.toEnv0 g) i l) rfl hz hz (by rw[ua oM,h9y (by assumption)];rfl)⟩,zB.tk 3⟩;refine br<|o3 i.op 8 (λc65=> ?_) (λc65=> ?_);refine bt ?_;have hq8:=(Ij oM).1 hs;obtain⟨jX,rfl⟩:=rd_some (M3.ro hl) (by rw[fj];omega);refine eW [0,2,4,12] ?_;intro aC fr;refine BD 6 (bE [eR X.r 0,eR X.r 0,eR X.r 0,eS (some jX) (ae l) bc,eA jX (0:Int) 1,eI (a0 l)]) fr (la (xu lz dP dP dP dP (dI jX (ae l) 1 0)) (dL (aN jX (0:Int) 1) _ λw_ hK=>(fR (i:=0) ((M3.aw hK).ro hl) rfl oM oM))) ?_;intro aC w71 vs hK hv fr;revert aC;refine cT [(97,pT X.r 0),(100,vI (a0 l))] ?_;have CV:=M3.aw hK;clear hK hv fr aC M3;clear vs;refine eV (Zo X z oA oc w71 hX hG (Mem.dd (l:=fJ X z oA oc) CV) (a0 l) hz) ?_;rintro _ w78 ⟨x73,z74,QnU,QnV,rfl,QkL,QnW,QhZ⟩;have Pw:=cC [TW X z74 QnU QnV,Mb X z74,J6 z74 QnU QnV,.aM b1 45 (iV i)] (CV.uX QhZ);refine an 1<|aE<|cv<|dX<|dq (vI x73) ?_;exact⟨_,z74,QnU,QnV,rfl,QkL,⟨_,λ_=>rfl,gn.tail (gn.Ns (K:=cP X.E.toEnv0 (cX X.E.toEnv0 g) i l) (λs_=>QdC oM) rfl) QnW⟩,Pw.tk 3⟩;refine br<|o3 i.op 9 (λc80=> ?_) (λc80=> ?_);refine aV<|an 3<|eV (QdT X z oA oc w2 hX hG (Mem.dd (l:=fJ X z oA oc) M3) (hA.vD (l:=fJ X z oA oc) M3) hz) ?_;rintro _ w86 ⟨x81,z82,QnX,QnY,rfl,QkM,QnZ,Qn0⟩;have M87:=cC [TW X z82 QnX QnY,Mb X z82,J6 z82 QnX QnY,.aM b1 45 (iV i)] (M3.uX Qn0);refine an 1<|aE<|cv<|dX<|dq (vI x81) ?_;exact⟨_,z82,QnX,QnY,rfl,QkM,⟨_,λ_=>rfl,gn.tail (gn.Ns (K:=cP X.E.toEnv0 (cX X.E.toEnv0 g) i l) (λs_=>QdD oM) rfl) QnZ⟩,M87.tk 3⟩;refine br<|o3 i.op 10 (λc88=> ?_) (λc88=> ?_);refine bt ?_;have hq10:=(Ds oM).1 hs;obtain⟨Qd1,rfl⟩:=rd_some (M3.ro hl) (by rw[fj];omega);refine eW [0,2,4,12] ?_;intro aC fr;refine BD 6 (bE [eR X.r 0,eR X.r 0,eR X.r 0,eS (some Qd1) (ae l) bc,eA Qd1 (0:Int) 1,eI (a0 l)]) fr (la (xu lz dP dP dP dP (dI Qd1 (ae l) 1 0)) (dL (aN Qd1 (0:Int) 1) _ λw_ hK=>(fR (i:=0) ((M3.aw hK).ro hl) rfl oM oM))) ?_;intro aC w94 vs hK hv fr;revert aC;refine cT [(112,pT X.r 0),(115,vI (a0 l))] ?_;have Px:=M3.aw hK;clear hK hv fr aC M3;clear vs;refine eV (Zp X z oA oc w94 hX hG (Mem.dd (l:=fJ X z oA oc) Px) (a0 l)) ?_;rintro _ Qn1 ⟨z96,Qn2,Qn3,rfl,QkN,Qn4,QkO,QkP⟩;have Py:=cC [TW X z96 Qn2 Qn3,Mb X z96,J6 z96 Qn2 Qn3,.aM b1 45 (iV i)] (Px.uX QkP);refine aE<|br<|cv<|dX<|dq (vI 0) ?_;exact⟨_,z96,Qn2,Qn3,rfl,QkN,⟨_,λ_=>rfl,gn.to (K:=cP X.E.toEnv0 (cX X.E.toEnv0 g) i l) rfl hz (Qn4.trans hz) (by rw[QdE oM,QkO])⟩,Py.tk 3⟩;refine br<|o3 i.op 11 (λQn5=> ?_) (λQn5=> ?_);refine bt<|aV ?_;have hq11:=(xJ oM).1 hs;refine an 1 ?_;obtain⟨Qfw,rfl⟩:=rd_some (M3.ro hl) (by rw[fj];omega);refine ga Qfw (ae l) 1 0<|bH (aN Qfw (0:Int) 1) _ (fR (i:=0) (M3.ro hl) rfl oM oM)<|an 1<|aE<|o3 (a0 l) 0 (λQn6=> ?_) (λQn6=> ?_);refine eW [0,4] ?_;intro aC fr;refine BD 5 (bE [eR X.r 0,eR X.r 0,eR X.r 0,eR b1 2,eI i.n]) fr (xu lz dP dP dP dP (dL (aq b1 2) _ λw_ hK=>(af ((M3.aw hK).get 3 rfl) rfl))) ?_;intro aC Qn7 vs hK hv fr;revert aC;refine cT [(125,pT X.r 0),(127,vI i.n)] ?_;have Uj:=M3.aw hK;clear hK hv fr aC M3;clear vs;refine eV (nF X z oA oc Qn7 hX hG (Mem.dd (l:=fJ X z oA oc) Uj) 2 i.n) ?_;rintro _ Ue ⟨rfl,Zs⟩;have oO:=cC [TW X (z.fin 2 i.n) oA oc,Mb X (z.fin 2 i.n),J6 (z.fin 2 i.n) oA oc,.aM b1 45 (iV i)] (Uj.uX Zs);refine aE<|br<|cv<|dX<|dq (vI 0) ?_;exact⟨_,(z.fin 2 i.n),oA,oc,rfl,hG.fin,⟨_,λ_=>rfl,gn.fin (K:=cP X.E.toEnv0 (cX X.E.toEnv0 g) i l) rfl (λ_=>by rw[qx oM,ax oM];rfl)⟩,oO.tk 3⟩;refine cE<|br<|cv<|dX<|dq (vI 0) ?_;exact⟨_,z,oA,oc,rfl,hG,⟨_,λ_=>rfl,gn.to (K:=cP X.E.toEnv0 (cX X.E.toEnv0 g) i l) rfl hz hz (by rw[qx oM,ao oM])⟩,M3.tk 3⟩;refine br<|o3 i.op 12 (λMk=> ?_) (λMk=> ?_);refine aV ?_;have hq12:=(Dt oM).1 hs;refine an 1 ?_;obtain⟨Qfx,rfl⟩:=rd_some (M3.ro hl) (by rw[fj];omega);refine ga Qfx (ae l) 1 0<|bH (aN Qfx (0:Int) 1) _ (fR (i:=0) (M3.ro hl) rfl oM oM)<|an 1<|aE<|cv<|dX<|dq (vI (a0 l)) ?_;exact⟨_,z,oA,oc,rfl,hG,⟨_,λ_=>rfl,gn.to (K:=cP X.E.toEnv0 (cX X.E.toEnv0 g) i l) rfl hz hz (sv oM)⟩,M3.tk 3⟩;refine cE<|bt<|aV ?_;have hqb:=(re oM).1 hs;refine an 1<|bH (aZ b1) _ (af (M3.get 3 rfl) rfl)<|an 1<|aE<|iY ((i.op:Int)>40) (λQh0=> ?_) (λQh0=> ?_);refine bt ?_;obtain⟨RQ,rfl⟩:=rd_some (M3.ro hl) (by rw[fj];omega);refine eW [0,2,4] ?_;intro aC fr;refine BD 11 (bE [eR b1 0,eI i.op,eI (i.op-40),eS (some RQ) (ae l) bc,eA RQ (0:Int) 1,eI (a0 l),.bd (.tuple #[vI ((nD (i.op-40) (a0 l)).1),vI ((nD (i.op-40) (a0 l)).2)]),.bd (.tuple #[vI ((nD (i.op-40) (a0 l)).1),vI ((nD (i.op-40) (a0 l)).2)]),eI ((nD (i.op-40) (a0 l)).1),eI ((nD (i.op-40) (a0 l)).2),eI ((nD (i.op-40) (a0 l)).1)]) fr (ox (s3 lz dP (dL (aZ b1) _ λw_ hK=>(af ((M3.aw hK).get 3 rfl) rfl)) (dA (i.op-40)) dP (dI RQ (ae l) 1 0) (dL (aN RQ (0:Int) 1) _ λw_ hK=>(fR (i:=0) ((M3.aw hK).ro hl) rfl oM oM)) (dD (λw_ hK=>QhW (i.op-40) (a0 l) w_) rfl) dP) dP dP dP) ?_;intro aC Qh1 vs hK hv fr;revert aC;refine cT [(9,vI ((nD (i.op-40) (a0 l)).1)),(146,vI ((nD (i.op-40) (a0 l)).2))] ?_;have xh:=M3.aw hK;clear hK hv fr aC M3;clear vs;refine an 1<|aE<|br<|cv<|dq (vI ((nD (i.op-40) (a0 l)).1)) ?_;exact⟨_,z,oA,oc,rfl,hG,⟨_,λ_=>rfl,gn.to (K:=cP X.E.toEnv0 (cX X.E.toEnv0 g) i l) rfl hz hz (qy oM)⟩,xh.tk 3⟩;refine cE<|bt ?_;obtain⟨A8,rfl⟩:=rd_some (M3.ro hl) (by rw[fj];omega);refine eW [0,2,4] ?_;intro aC fr;refine BD 12 (bE [eR X.r 0,eR X.r 0,eR X.r 0,eR b1 0,eI i.op,eI (i.op-16),eS (some A8) (ae l) bc,eA A8 (0:Int) 1,eI (a0 l),eS (some A8) (ae l) bc,eA A8 (1:Int) 1,eI (a1 l)]) fr (fQ lz dP dP dP dP (dL (aZ b1) _ λw_ hK=>(af ((M3.aw hK).get 3 rfl) rfl)) (dA (i.op-16)) dP (dI A8 (ae l) 1 0) (dL (aN A8 (0:Int) 1) _ λw_ hK=>(fR (i:=0) ((M3.aw hK).ro hl) rfl oM oM)) dP (dI A8 (ae l) 1 1) (dL (aN A8 (1:Int) 1) _ λw_ hK=>(fR (i:=1) ((M3.aw hK).ro hl) rfl oM oM))) ?_;intro aC QkQ vs hK hv fr;revert aC;refine cT [(150,pT X.r 0),(153,vI (i.op-16)),(156,vI (a0 l)),(159,vI (a1 l))] ?_;have BL:=M3.aw hK;clear hK hv fr aC M3;clear vs;refine eV (QhX X z oA oc QkQ hX hG (Mem.dd (l:=fJ X z oA oc) BL) (i.op-16) (a0 l) (a1 l) hz) ?_;rintro _ QkR ⟨Qn8,Qn9,QkS,QkT,rfl,Qh2,QkU,Zt⟩;have Pz:=cC [TW X Qn9 QkS QkT,Mb X Qn9,J6 Qn9 QkS QkT,.aM b1 45 (iV i)] (BL.uX Zt);refine an 1<|aE<|cv<|dq (vI Qn8) ?_;exact⟨_,Qn9,QkS,QkT,rfl,Qh2,⟨_,λ_=>rfl,gn.tail (gn.Ns (K:=cP X.E.toEnv0 (cX X.E.toEnv0 g) i l) (λs_=>QdF oM oM) rfl) QkU⟩,Pz.tk 3⟩;have c57:((i.op:Int)=6):=QkK.1 rfl;refine jc<|cE<|jc<|aV<|an 2<|bH (aq b1 3) _ (af (M3.get 3 rfl) rfl)<|eV (vf X z oA oc w2 hX (M3.ei 0 rfl) (hA.at_ M3) i.name) ?_;rintro _ Qoa ⟨rfl,QkV⟩;have EJ:=M3.cl QkV;refine an 1<|aE<|bt<|aV<|an 1<|bH (aZ b1) _ (af (EJ.get 3 rfl) rfl)<|an 1<|aE<|o3 i.op 6 (λQob=> ?_) (λQob=> ?_);refine eW [0,4,8] ?_;intro aC fr;refine BD 5 (bE [eR X.r 0,eR X.r 0,eR X.r 0,eR b1 3,eT i.name]) fr (xu lz dP dP dP dP (dL (aq b1 3) _ λw_ hK=>(af ((EJ.aw hK).get 3 rfl) rfl))) ?_;intro aC Qoc vs hK hv fr;revert aC;refine cT [(0,pT X.r 0),(82,pT X.r 0),(84,vT i.name)] ?_;have Jy:=EJ.aw hK;clear hK hv fr aC EJ;clear vs;refine eV (Zn X z oA oc Qoc hX (Jy.ei 0 rfl) (hA.at_ Jy) i.name) ?_;rintro _ Qod ⟨rfl,QkW⟩;have Jz:=Jy.cl QkW;refine an 1<|aE<|bt<|br<|o3 ((jd X.E.data i.name).getD 0) 0 (λQoe=> ?_) (λQoe=> ?_);refine dR<|an 3<|eV (nF X z oA oc Qod hX hG (Mem.dd (l:=fJ X z oA oc) Jz) 5 0) ?_;rintro _ Qh3 ⟨rfl,QkX⟩;have pZ:=cC [TW X (z.fin 5 0) oA oc,Mb X (z.fin 5 0),J6 (z.fin 5 0) oA oc,.aM b1 45 (iV i)] (Jz.uX QkX);refine aE<|br<|cv<|dX<|dq (vI ((jd X.E.data i.name).getD 0)) ?_;exact⟨_,(z.fin 5 0),oA,oc,rfl,hG.fin,⟨_,λ_=>rfl,gn.fin (K:=cP X.E.toEnv0 (cX X.E.toEnv0 g) i l) rfl (λ_=>by rw[tZ oM,h8 (by assumption)];rfl)⟩,pZ.tk 3⟩;refine cE<|br<|cv<|dX<|dq (vI ((jd X.E.data i.name).getD 0)) ?_;exact⟨_,z,oA,oc,rfl,hG,⟨_,λ_=>rfl,gn.to (K:=cP X.E.toEnv0 (cX X.E.toEnv0 g) i l) rfl hz hz (by rw[tZ oM,h8y (by assumption)];rfl)⟩,Jz.tk 3⟩;omega;have c5:((i.op:Int)=2):=iB5.1 rfl;refine jc<|cE<|jc<|bt ?_;obtain⟨QnI,QnJ,QnK⟩:=Qfs oM hs;obtain⟨Ml,rfl⟩:=rd_some (M3.ro hl) (by rw[fj];omega);refine eW [0,2,4,12,17] ?_;intro aC fr;refine BD 8 (bE [eR X.r 0,eR X.r 0,eR X.r 0,eS (some Ml) (ae l) bc,eA Ml (0:Int) 1,eI (a0 l),eR b1 2,eI i.n]) fr (s3 lz dP dP dP dP (dI Ml (ae l) 1 0) (dL (aN Ml (0:Int) 1) _ λw_ hK=>(fR (i:=0) ((M3.aw hK).ro hl) rfl oM oM)) dP (dL (aq b1 2) _ λw_ hK=>(af ((M3.aw hK).get 3 rfl) rfl))) ?_;intro aC QkY vs hK hv fr;revert aC;refine cT [(0,pT X.r 0),(2,vS (some Ml) (ae l) bc),(4,pT b1 0),(22,pT X.r 0),(25,vI (a0 l)),(27,vI i.n)] ?_;have FK:=M3.aw hK;clear hK hv fr aC M3;clear vs;refine eV (vs:=#[pT X.r 0,vI (a0 l),vI i.n]) (RN X z oA oc QkY hX hG (Mem.dd (l:=fJ X z oA oc) FK) (a0 l) i.n (Vw _ (YW oM)) oM oM) ?_;rintro _ w164 ⟨Qd2,z160,Qfy,Qfz,rfl,PA,QfA,QkZ⟩;have Zu:=cC [TW X z160 Qfy Qfz,Mb X z160,J6 z160 Qfy Qfz,.aM b1 45 (iV i)] (FK.uX QkZ);refine an 1<|aE<|bt<|br<|iY ((Qd2:Int)<0) (λQof=> ?_) (λQof=> ?_);refine br<|cv<|dX<|dq (vI 0) ?_;rcases QfA with⟨h1_,_⟩|⟨_,h2_,h3_⟩
 · omega
 exact⟨0,z160,Qfy,Qfz,rfl,PA,⟨0,λ_=>rfl,by rw[h2_];exact gn.fin (K:=cP X.E.toEnv0 (cX X.E.toEnv0 g) i l) rfl (λ_=>by rw[tX oM,h3_];rfl)⟩,Zu.tk 3⟩;refine cE<|bt<|aV ?_;obtain⟨h1_,h2_,h3_,h4_⟩:=Or.resolve_right QfA (λh_=>absurd h_.1 oM);have h5_:=hG.n2;have h6_:=PA.mem;refine an 1<|bH (aZ b1) _ (af (Zu.get 3 rfl) rfl)<|an 1<|aE<|o3 i.op 3 (λQog=> ?_) (λQog=> ?_);omega;refine cE<|aV<|an 4<|bH (aq X.r 2) _ (af (Zu.get 0 rfl) rfl)<|an 1<|ga (h0:=oM) (h1:=oM) (aZ X.mG) X.E.cJ 1 Qd2<|bH (aN (aZ X.mG) (Qd2) 1) _ (fR (aF (Zu.get 1 rfl)) rfl oM oM)<|an 1<|aE<|cv<|dX<|dq (vI (z160.s.mem.getD Qd2.toNat 0)) ?_;exact⟨_,z160,Qfy,Qfz,rfl,PA,⟨_,λ_=>rfl,by rw[h3_];exact gn.to (K:=cP X.E.toEnv0 (cX X.E.toEnv0 g) i l) rfl hz hz (by rw[tX oM,h4_];rfl)⟩,Zu.tk 3⟩
set_option maxHeartbeats 4000000 in
theorem Qd3(X:RX)(z:mv)(oA:ar)(oc:Nat)(w:World)(hX:X.WF)(hG:fC X z)(f:gg)(hf:f∈X.E.fns)(k:Nat)(x:aG)(hx:f.bF[k]?=some x)(bN:ah)(vg m:Nat)(hvl:ae bN=m)(hm:(m:Int)=f.va)(hR:(bD.pk (fJ X z oA oc++[.row 2 1 (sM vg) m m (ints bN)])).holds w)(hA:RO (yZ X z oA oc vg m bN) w X.ro)(q:ar×Nat×ah)(hq:f.bO[k]?=some q)(zQ:Int)(hw:x.ak=[]\/zQ∈f.src k):Calls Tryz.prog 120 #[xA x,vS q.1 (ae q.2.2) q.2.1,vI zQ,vS (sM vg) m m] w (gp λv w'=>v= .tuple #[]/\Mem (yZ X z oA oc vg m bN) w w' (fJ X z oA oc++[.row 2 1 (sM vg) m m (ints (kv x.ak (gI q.2.2 zQ) bN))])):=by
 have hW:=hX.fns f hf;have Nt:=hW.aM _ _ hx;have CW:=hA.xfn hf;have Vw:=Nt.li;have hlp:=Nt.lp;have kr:=hW.va;have v7:=gg.XN hq;have hql:=hW.Qnm k;rw[v7]at hql;have hqr:=hA.xs hf (aI hq);refine iI 67 [xA x,vS q.1 (ae q.2.2) q.2.1,vI zQ,vS (sM vg) m m] Tryz.func120 ?_;have hM:=Mem.te hR;refine aV<|sU hM 49 (xA x) (xV x) λb1 w2 mS M3=> ?_
 replace M3:=M3.nf;clear hM;refine aE<|br<|bt<|br<|df 0 ?_;intro aC fr;refine iJ (λn_ a_ w_=>∃(j:Nat) (a:Int),n_=ae q.2.2-j/\Fr a_ 67 [(1,vS q.1 (ae q.2.2) q.2.1),(2,vI zQ),(3,vS (sM vg) m m),(4,pT b1 0),(8,vI a),(9,nV j)]/\Mem (yZ X z oA oc vg m bN) w w_ [TW X z oA oc,Mb X z,J6 z oA oc,.row 2 1 (sM vg) m m (ints bN),.aM b1 49 (xV x)]/\(j<=ae q.2.2)/\(VB q.2.2 zQ j a)) (n:=_) ⟨0,0,rfl,fr.kp [1,2,3,4,8,9],M3,cI _,VB.start⟩ ?_;clear fr aC M3;rintro n aC w6 ⟨j,a,rfl,fr,M7,hj,Cw⟩;revert aC;refine bt<|br<|iY ((j:Int)<(ae q.2.2:Int)) (λuc=> ?_) (λuc=> ?_);refine cE<|bt<|df 1<|aV ?_;obtain⟨u,hu⟩:=aP (l:=q.2.2) (i:=j) oM;refine an 2 ?_;obtain⟨sy,QfB⟩:=rd_some (M7.ro hqr) (by rw[fj];omega);intro aC fr;refine cZ (some 21) q.1 sy (ae q.2.2) 1 (j:Int) fr kR QfB oM oM<|bH (aN sy (j:Int) 1) _ (iP (M7.ro hqr) QfB hu)<|an 2<|aE<|o3 u zQ (λFc=> ?_) (λFc=> ?_);exact zt<|dR<|an 1<|eX ((j:Int)+1)<|an 1<|aE λaC fr=>⟨ae q.2.2-(j+1),oM,j+1,(j:Int),rfl,fr.kp [1,2,3,4,8,9],M7,oM,VB.hit hu Fc⟩
 exact cE<|dR<|an 1<|eX ((j:Int)+1)<|an 1<|aE λaC fr=>⟨ae q.2.2-(j+1),oM,j+1,a,rfl,fr.kp [1,2,3,4,8,9],M7,oM,Cw.Qny hu Fc⟩
 refine gZ 0<|ia<|aV ?_;obtain rfl:j=ae q.2.2:=oM;obtain⟨n,hn_⟩:∃n,n=gI q.2.2 zQ:=⟨_,rfl⟩;have hd:x.ak=[]\/(a=(n:Int)/\n<ae q.2.2):=hw.imp id (λh=>by rw[hn_];exact Cw.done (v7▸hX.nd f hf k) (v7▸h));refine an 1<|aE<|bt<|br<|df 2 ?_;have s7:=M7.cl (Mem.fi _ 2 1);intro aC fr;refine iJ (λn_ a_ w_=>∃(i:Nat) (us:ah) (Aj:ar) (cj:Nat),n_=ae x.ak-i/\Fr a_ 67 [(3,vS (sM vg) m m),(4,pT b1 0),(8,vI a),(10,vS Aj (ae us) cj),(11,nV i)]/\Mem (yZ X z oA oc vg m bN) w w_ [TW X z oA oc,Mb X z,J6 z oA oc,.row 2 1 (sM vg) m m (ints bN),.aM b1 49 (xV x),.row 2 1 Aj (ae us) cj (ints us)]/\(i<=ae x.ak)/\(us=(x.ak.take i).map (yi a.toNat bN))) (n:=_) ⟨0,[],none,0,rfl,fr.kp [3,4,8,10,11],s7,cI _,rfl⟩ ?_;clear fr aC s7;rintro n aC w25 ⟨i,us,Aj,cj,rfl,fr,iQ,bT,Ah⟩;revert aC;refine bt<|aV<|an 2<|bH (aZ b1) _ (af (iQ.get 4 rfl) rfl)<|an 2<|aE<|iY ((i:Int)<(ae x.ak:Int)) (λLl=> ?_) (λLl=> ?_);refine cE<|bt<|df 3<|dR ?_;obtain⟨p,hp⟩:=aP (l:=x.ak) (i:=i) oM;have j8:=aI hp;obtain⟨hp1,hp2,pU,hp4⟩:=QhH Nt j8 v7 (hd.resolve_left (λe=>by rw[e]at hp;cases hp));refine an 3<|bH (aZ b1) _ (af (iQ.get 4 rfl) rfl)<|an 1 ?_;obtain⟨Qk0,QfC⟩:=cU (iQ.ro (CW.ak hx)) (cs:=p.cells) (i:=i) (by simp[hp]);intro aC fr;refine cZ (some 38) x.pA Qk0 (ae x.ak) 2 (i:Int) fr kR QfC oM oM<|an 1<|bH ((aN Qk0 (i:Int) 2).add 1) _ (bS (iQ.ro (CW.ak hx)) QfC (i:=i) (cs:=p.cells) (by simp[hp]) 1 _ rfl)<|an 1 ?_;obtain⟨PB,Mm⟩:=rd_some (iQ.ro (CW.JZ hx hp)) (by rw[fj];omega);intro aC fr;refine cZ (some 42) p.A PB (ae p.args) 1 a fr kR Mm oM oM<|bH (aN PB (a) 1) _ (fR (iQ.ro (CW.JZ hx hp)) Mm oM oM)<|eW [3,4,8,11,33,34,43]<|ga (h0:=oM) (h1:=oM) (aZ vg) m 1 (p.args.getD a.toNat 0)<|bH (aN (aZ vg) (p.args.getD a.toNat 0) 1) _ (fR (aF (iQ.get 3 rfl)) rfl oM oM) ?_;intro aC fr;refine qp 46 39 1 #[(0,.tmp 45)] 39 fr (e:=2) (size:=1) (zs:=[vI 0]) (vs:=[(0,vI (yi a.toNat bN p))]) (cs:=[vI (yi a.toNat bN p)]) iQ ?_;intro b42 w43 hb42 _ u4 _ aC ea fr;clear ea;replace u4:=u4.nf;refine zAN 47 (.tmp 33) (.tmp 46) 39 39 fr (e:=2) (size:=1) (bytes:=8) (z:=(vI 0)) (A:=Aj) (B:=(sM b42)) (n:=ae us) (cap:=cj) (m:=1) (cap':=1) (xs:=(ints us)) (news:=[vI (yi a.toNat bN p)]) u4 5 rfl (aF (u4.get 6 rfl)) rfl (by simp[Value.oneCell']) (by rw[Ah,bl,ja];omega) (by rw[Ah,bl,ja];simp only[maxLen];omega) (ae (us++[yi a.toNat bN p])) (ints (us++[yi a.toNat bN p])) (by rw[dG];rfl) (by rw[jk];rfl) ?_;intro A49 c50 w51 zA _ aC ea fr;clear ea;replace zA:=zA.nf;have s5:=zA.od [5,5,5,5,5,5] 6;revert aC;exact an 1<|aE<|dR<|an 1<|eX ((i:Int)+1)<|an 1<|aE λaC fr=>⟨ae x.ak-(i+1),oM,i+1,us++[yi a.toNat bN p],A49,c50,rfl,fr.kp [3,4,8,10,11],(s5.tk 6),oM,by rw[Ah,qB,hp,bZ];rfl⟩
 refine gZ 2<|ia<|aV ?_;obtain rfl:i=ae x.ak:=oM;rw[gC]at Ah;have hul:ae us=ae x.ak:=by rw[Ah,bl]
 refine an 1<|aE<|df 4 ?_;have u0:=cC [TW X z oA oc,Mb X z,J6 z oA oc,.row 2 1 (sM vg) m m (ints (uf x.ak a.toNat bN 0)),.aM b1 49 (xV x),.row 2 1 Aj (ae us) cj (ints us)] (iQ.cast (by rw[OV]));intro aC fr;refine iJ (λn_ a_ w_=>∃(j:Nat),n_=ae x.ak-j/\Fr a_ 67 [(3,vS (sM vg) m m),(4,pT b1 0),(10,vS Aj (ae us) cj),(12,nV j)]/\Mem (yZ X z oA oc vg m bN) w w_ [TW X z oA oc,Mb X z,J6 z oA oc,.row 2 1 (sM vg) m m (ints (uf x.ak a.toNat bN j)),.aM b1 49 (xV x),.row 2 1 Aj (ae us) cj (ints us)]/\(j<=ae x.ak)) (n:=_) ⟨0,rfl,fr.kp [3,4,10,12],u0,cI _⟩ ?_;clear fr aC u0;rintro n aC w61 ⟨j,rfl,fr,sG,hj⟩;revert aC;refine bt<|aV<|an 2<|bH (aZ b1) _ (af (sG.get 4 rfl) rfl)<|an 2<|aE<|iY ((j:Int)<(ae x.ak:Int)) (λc65=> ?_) (λc65=> ?_);refine cE<|bt<|df 5 ?_;obtain⟨p,hp⟩:=aP (l:=x.ak) (i:=j) oM;have j8:=aI hp;obtain⟨J8,hd1⟩:=Nt.Qnj p j8;obtain⟨jX,QfD⟩:=cU (sG.ro (CW.ak hx)) (cs:=p.cells) (i:=j) (by simp[hp]);obtain⟨g68,rfl⟩:=eZ (sG.get 5 rfl) oM;refine eW [3,4,10,12] ?_;intro aC fr;refine BD 11 (bE [eS (sM vg) m m,eR b1 0,eS x.pA (ae x.ak) x.pc,.bd (nV j),eA jX (j:Int) 2,eA jX (j:Int) 2,eI p.dst,eS (sM g68) (ae us) cj,.bd (nV j),eA (aZ g68) (j:Int) 1,eI (yi a.toNat bN p)]) fr (ox (s3 lz dP dP (dL (aZ b1) _ λw_ hK=>(af ((sG.aw hK).get 4 rfl) rfl)) dP (dIA x.pA jX (ae x.ak) 2 (j:Int) QfD) dP (dL (aN jX (j:Int) 2) _ λw_ hK=>(bS ((sG.aw hK).ro (CW.ak hx)) QfD (i:=j) (cs:=p.cells) (by simp[hp]) 0 _ rfl)) dP) dP (dI (h0:=oM) (h1:=oM) (aZ g68) (ae us) 1 (j:Int)) (dL (aN (aZ g68) (j:Int) 1) _ λw_ hK=>(iP (aF ((sG.aw hK).get 5 rfl)) rfl (by rw[Ah,aL,hp];rfl)))) ?_;intro aC w73 vs hK hv fr;revert aC;refine cT [(3,vS (sM vg) m m),(4,pT b1 0),(10,vS (sM g68) (ae us) cj),(12,nV j),(55,vS (sM vg) m m),(61,vI p.dst),(65,vI (yi a.toNat bN p))] ?_;have QX:=sG.aw hK;clear hK hv fr aC sG;clear vs;refine ga (aZ vg) m 1 p.dst<|DI QX 3 (aN (aZ vg) (p.dst) 1) ((p.dst).toNat*1) (vI (yi a.toNat bN p)) rfl rfl oM λw75 tq=> ?_
 replace tq:=tq.nf;refine aE<|dR<|an 1<|eX ((j:Int)+1)<|an 1<|aE ?_;have e_:(ints (uf x.ak a.toNat bN j)).set ((p.dst).toNat*1) (vI (yi a.toNat bN p))=ints (uf x.ak a.toNat bN (j+1)):=by rw[fx,<-ints_set,OU hp]
 intro aC fr;exact⟨ae x.ak-(j+1),oM,j+1,rfl,fr.kp [3,4,10,12],((tq.tk 6).cast (by rw[<-e_];rfl)),oM⟩;refine gZ 4<|ia<|zo0 ?_;obtain rfl:j=ae x.ak:=oM;have VA:kv x.ak a.toNat bN=kv x.ak (gI q.2.2 zQ) bN:=by
            rcases hd with h_|⟨h_,_⟩
            · rw[h_];rfl
            · rw[h_,hn_,cN]
 exact⟨rfl,(sG.tk 4).cast (by rw[Tr,VA];rfl)⟩
set_option maxHeartbeats 4000000 in
theorem Zv(X:RX)(z:mv)(oA:ar)(oc:Nat)(w:World)(hX:X.WF)(hG:fC X z)(f:gg)(hf:f∈X.E.fns)(k:Nat)(x:aG)(hx:f.bF[k]?=some x)(bN:ah)(vg m:Nat)(hvl:ae bN=m)(hm:(m:Int)=f.va)(hR:(bD.pk (fJ X z oA oc++[.row 2 1 (sM vg) m m (ints bN)])).holds w)(hA:RO (yZ X z oA oc vg m bN) w X.ro)(g:Nat)(hK:RF Tryz.prog X 89 (cX X.E.toEnv0 g) (g:Int))(hZ:xv X.E.toEnv0 z ((g:Int)+1) bN):Calls Tryz.prog 119 #[pT X.r 0,xA x,vS (sM vg) m m] w (gp λv w'=>YBV X (yZ X z oA oc vg m bN) w z (g:Int) vg m (xe X.E.toEnv0 (cX X.E.toEnv0 g) x bN) v w'):=by
 have hW:=hX.fns f hf;have Nt:=hW.aM _ _ hx;have CW:=hA.xfn hf;have Vw:=Nt.li;have hlp:=Nt.lp;have kr:=hW.va;have Mn:=hX.ein;refine iI 118 [pT X.r 0,xA x,vS (sM vg) m m] Tryz.func119 ?_;have hM:=Mem.te hR;refine aV<|sU hM 49 (xA x) (xV x) λb1 w2 mS M3=> ?_
 replace M3:=M3.nf;clear hM;refine an 2<|aE<|bt<|br<|df 0 ?_;intro aC fr;refine iJ (λn_ a_ w_=>∃(j:Nat) (vj:ah) (zj:mv) (uA:ar) (uB:Nat),n_=ae x.insts-j/\Fr a_ 118 [(0,pT X.r 0),(2,vS (sM vg) m m),(4,pT b1 0),(8,nV j)]/\Mem (yZ X z oA oc vg m bN) w w_ [TW X zj uA uB,Mb X zj,J6 zj uA uB,.row 2 1 (sM vg) m m (ints vj),.aM b1 49 (xV x)]/\(j<=ae x.insts)/\(ae vj=m)/\(fC X zj)/\(xv X.E.toEnv0 zj ((g:Int)+1) vj)/\(gn (z.go (xe X.E.toEnv0 (cX X.E.toEnv0 g) x bN)) (zj.go λs=>(dZ X.E.toEnv0 (cX X.E.toEnv0 g) (x.insts.drop j) vj s).bind (Qdz X.E.toEnv0 x)))) (n:=_) ⟨0,bN,z,oA,oc,rfl,fr.kp [0,2,4,8],M3,cI _,hvl,hG,hZ,(gn.Ns (λs_=>QdA) rfl)⟩ ?_;clear fr aC M3;rintro n aC w6 ⟨j,vj,zj,uA,uB,rfl,fr,M7,hj,Nu,hGj,hZj,hr⟩;revert aC;refine bt<|aV<|an 2<|bH (aq b1 1) _ (af (M7.get 4 rfl) rfl)<|an 2<|aE<|iY ((j:Int)<(ae x.insts:Int)) (λuc=> ?_) (λuc=> ?_);refine cE<|bt<|df 1<|bt<|aV ?_;obtain⟨i,hi⟩:=aP (l:=x.insts) (i:=j) oM;have Ng:=aI hi;have rI:=(hW.ok x (aI hx)).insts i Ng|>.n;have hia:ae i.args<=17:=OW (Nt.shape i Ng);refine an 3<|eV (RM X zj uA uB w6 hX hGj (Mem.dd (l:=fJ X zj uA uB) M7)) ?_;rintro _ w17 ⟨nr,z12,PC,PD,rfl,Qk1,QfE,Qk2,Zw⟩;have mZ:=cC [TW X z12 PC PD,Mb X z12,J6 z12 PC PD,.row 2 1 (sM vg) m m (ints vj),.aM b1 49 (xV x)] (M7.uX Zw);have hr:=gn.step (G:=z.go (xe X.E.toEnv0 (cX X.E.toEnv0 g) x bN)) (A:=ey X.E.toEnv0) (F:=λ_ s=>(cP X.E.toEnv0 (cX X.E.toEnv0 g) i (gb vj i.args) s).bind λu s=>(dZ X.E.toEnv0 (cX X.E.toEnv0 g) (x.insts.drop (j+1)) (if 0<=i.dst/\aJ i.op then vj.set i.dst.toNat u else vj) s).bind (Qdz X.E.toEnv0 x)) (Qdy hr hi) Qk2;refine an 1<|aE<|fZ (!nr) (¬(nr=true)) (by simp only[mw]) (λRP=> ?_) (λRP=> ?_);replace RP:nr=false:=dj.2 RP;have zG:z12.ov=true:=by rw[Qk1,RP];rfl
 refine br<|cv<|dX<|dX<|lH (vI (-1)) (vI 0) ?_;exact⟨-1,0,vj,z12,PC,PD,rfl,QfE,Nu,λ_=>rfl,.inl zG,gn.TU zG hr,mZ.tk 4⟩;replace RP:nr=true:=fy.1 RP;have zG:z12.ov=false:=by rw[Qk1,RP];rfl
 have VH:=Me hZj zG Qk2;have hlv:LI vj:=(VH.run zG).2.2.2;refine cE<|br<|bt<|br<|df 2 ?_;have vp:=mZ.cl (Mem.fi _ 2 1);intro aC fr;refine iJ (λn_ a_ w_=>∃(q:Nat) (us:ah) (Aj:ar) (cj:Nat),n_=ae i.args-q/\Fr a_ 118 [(0,pT X.r 0),(2,vS (sM vg) m m),(4,pT b1 0),(8,nV j),(9,vS Aj (ae us) cj),(10,nV q)]/\Mem (yZ X z oA oc vg m bN) w w_ [TW X z12 PC PD,Mb X z12,J6 z12 PC PD,.row 2 1 (sM vg) m m (ints vj),.aM b1 49 (xV x),.row 2 1 Aj (ae us) cj (ints us)]/\(q<=ae i.args)/\(us=gb vj (i.args.take q))) (n:=_) ⟨0,[],none,0,rfl,fr.kp [0,2,4,8,9,10],vp,cI _,rfl⟩ ?_;clear fr aC vp;rintro n aC w23 ⟨q,us,Aj,cj,rfl,fr,oC,hql,hus⟩;revert aC;refine bt<|aV<|an 2<|bH (aq b1 1) _ (af (oC.get 4 rfl) rfl)<|an 1 ?_;obtain⟨Qk3,QfF⟩:=cU (oC.ro (CW.insts hx)) (cs:=i.cells) (i:=j) (by simp[hi]);intro aC fr;refine cZ (some 28) x.iA Qk3 (ae x.insts) 5 (j:Int) fr kR QfF oM oM<|an 1<|bH ((aN Qk3 (j:Int) 5).add 4) _ (bS (oC.ro (CW.insts hx)) QfF (i:=j) (cs:=i.cells) (by simp[hi]) 4 _ rfl)<|an 2<|aE<|iY ((q:Int)<(ae i.args:Int)) (λJ3=> ?_) (λJ3=> ?_);refine cE<|bt<|df 3<|dR ?_;obtain⟨av,FA⟩:=aP (l:=i.args) (i:=q) oM;obtain⟨Vn,ON⟩:=Nt.args i Ng av (aI FA);refine an 3<|bH (aq b1 1) _ (af (oC.get 4 rfl) rfl)<|an 1 ?_;obtain⟨Mo,Ba⟩:=cU (oC.ro (CW.insts hx)) (cs:=i.cells) (i:=j) (by simp[hi]);intro aC fr;refine cZ (some 40) x.iA Mo (ae x.insts) 5 (j:Int) fr kR Ba oM oM<|an 1<|bH ((aN Mo (j:Int) 5).add 4) _ (bS (oC.ro (CW.insts hx)) Ba (i:=j) (cs:=i.cells) (by simp[hi]) 4 _ rfl)<|eW [0,2,4,8,10,35,36,42]<|an 1 ?_;obtain⟨Zx,Mp⟩:=rd_some (oC.ro (CW.inst hx hi)) (by rw[fj];omega);intro aC fr;refine cZ (some 44) i.A Zx (ae i.args) 1 (q:Int) fr kR Mp oM oM<|bH (aN Zx (q:Int) 1) _ (iP (oC.ro (CW.inst hx hi)) Mp FA)<|ga (h0:=oM) (h1:=oM) (aZ vg) m 1 av<|bH (aN (aZ vg) (av) 1) _ (fR (aF (oC.get 3 rfl)) rfl oM oM) ?_;intro aC fr;refine qp 48 39 1 #[(0,.tmp 47)] 39 fr (e:=2) (size:=1) (zs:=[vI 0]) (vs:=[(0,vI (vj.getD av.toNat 0))]) (cs:=[vI (vj.getD av.toNat 0)]) oC ?_;intro Uk w47 Qoh _ vo _ aC ea fr;clear ea;replace vo:=vo.nf;refine zAN 49 (.tmp 35) (.tmp 48) 39 39 fr (e:=2) (size:=1) (bytes:=8) (z:=(vI 0)) (A:=Aj) (B:=(sM Uk)) (n:=ae us) (cap:=cj) (m:=1) (cap':=1) (xs:=(ints us)) (news:=[vI (vj.getD av.toNat 0)]) vo 5 rfl (aF (vo.get 6 rfl)) rfl (by simp[Value.oneCell']) (by rw[hus,wP,ja];omega) (by rw[hus,wP,ja];simp only[maxLen];omega) (ae (us++[vj.getD av.toNat 0])) (ints (us++[vj.getD av.toNat 0])) (by rw[dG];rfl) (by rw[jk];rfl) ?_;intro A53 c54 w55 GP _ aC ea fr;clear ea;replace GP:=GP.nf;have Zj:=GP.od [5,5,5,5,5,5] 6;revert aC;exact an 1<|aE<|dR<|an 1<|eX ((q:Int)+1)<|an 1<|aE λaC fr=>⟨ae i.args-(q+1),oM,q+1,us++[vj.getD av.toNat 0],A53,c54,rfl,fr.kp [0,2,4,8,9,10],(Zj.tk 6),oM,by rw[hus];exact T0 FA⟩
 refine gZ 2<|ia<|aV ?_;obtain rfl:q=ae i.args:=oM;rw[gC]at hus;have hul:ae us=ae i.args:=by rw[hus,wP]
 refine an 2<|bH (aq b1 1) _ (af (oC.get 4 rfl) rfl)<|an 1 ?_;obtain⟨Qk4,QfG⟩:=cU (oC.ro (CW.insts hx)) (cs:=i.cells) (i:=j) (by simp[hi]);intro aC fr;refine cZ (some 54) x.iA Qk4 (ae x.insts) 5 (j:Int) fr kR QfG oM oM<|k8 (aN Qk4 (j:Int) 5) (iV i) (p8 (oC.ro (CW.insts hx)) QfG hi)<|eW [0,2,4,8,9,50,55]<|an 1<|eV (vs:=#[pT X.r 0,iG i,vS Aj (ae us) cj]) (QdY X z12 PC PD w23 hX QfE (Mem.dd (l:=fJ X z12 PC PD) oC) (hA.vD (l:=fJ X z12 PC PD) oC) g hK i us Aj cj zG (VH.Qdt (dv _) (λy hy=> .inr (Jp hlv y (hus▸hy)))) (Nt.shape i Ng) hul (y3 (oC.get 5 rfl)) (RO.aF (RO.tT (l:=fJ X z12 PC PD) oC 2 rfl))) ?_;rintro _ w75 ⟨x68,z69,Zy,Zz,rfl,ZA,⟨x72,Qoi,Qh4⟩,ZB⟩;have tq:=cC [TW X z69 Zy Zz,Mb X z69,J6 z69 Zy Zz,.row 2 1 (sM vg) m m (ints vj),.aM b1 49 (xV x),.row 2 1 Aj (ae us) cj (ints us)] (oC.uX ZB);have QfH:=Qh4;rw[hus]at QfH;have QT:=gn.step (F:=λu s=>(dZ X.E.toEnv0 (cX X.E.toEnv0 g) (x.insts.drop (j+1)) (if 0<=i.dst/\aJ i.op then vj.set i.dst.toNat u else vj) s).bind (Qdz X.E.toEnv0 x)) hr QfH;refine an 1<|aE<|bt<|aV<|an 4<|bH (aq X.r 10) _ (af (tq.get 0 rfl) rfl)<|aE<|fZ z69.ov (z69.ov=true) ju (λNv=> ?_) (λNv=> ?_);refine br<|cv<|dX<|dX<|lH (vI (-1)) (vI 0) ?_;exact⟨-1,0,vj,z69,Zy,Zz,rfl,ZA,Nu,λ_=>rfl,.inl Nv,gn.TU Nv QT,tq.tk 4⟩;replace Nv:z69.ov=false:=dj.2 Nv;refine cE<|aV<|an 1<|bH (aq b1 1) _ (af (tq.get 4 rfl) rfl)<|an 1 ?_;obtain⟨Mq,Be⟩:=cU (tq.ro (CW.insts hx)) (cs:=i.cells) (i:=j) (by simp[hi]);intro aC fr;refine cZ (some 66) x.iA Mq (ae x.insts) 5 (j:Int) fr kR Be oM oM<|an 1<|bH ((aN Mq (j:Int) 5).add 1) _ (bS (tq.ro (CW.insts hx)) Be (i:=j) (cs:=i.cells) (by simp[hi]) 1 _ rfl)<|an 1<|aE<|iY ((i.dst:Int)>=0) (λc84=> ?_) (λc84=> ?_);refine dR ?_;obtain⟨J8,hd1⟩:=Nt.dst i Ng ((Nt.shape i Ng).1.resolve_right oM);refine an 2<|bH (aq b1 1) _ (af (tq.get 4 rfl) rfl)<|eW [0,2,4,8,11,70,72]<|an 1 ?_;obtain⟨Qk5,QfI⟩:=cU (tq.ro (CW.insts hx)) (cs:=i.cells) (i:=j) (by simp[hi]);intro aC fr;refine cZ (some 74) x.iA Qk5 (ae x.insts) 5 (j:Int) fr kR QfI oM oM<|an 1<|bH ((aN Qk5 (j:Int) 5).add 1) _ (bS (tq.ro (CW.insts hx)) QfI (i:=j) (cs:=i.cells) (by simp[hi]) 1 _ rfl)<|an 1<|ga (h0:=oM) (h1:=oM) (aZ vg) m 1 i.dst<|DI tq 3 (aN (aZ vg) (i.dst) 1) ((i.dst).toNat*1) (vI x68) rfl rfl oM λw91 PE=> ?_
 replace PE:=PE.nf;refine aE<|dR ?_;have M93:=cC [TW X z69 Zy Zz,Mb X z69,J6 z69 Zy Zz,.row 2 1 (sM vg) m m (ints (vj.set i.dst.toNat x68)),.aM b1 49 (xV x),.row 2 1 Aj (ae us) cj (ints us)] (PE.cast (by rw[uv]));refine an 1<|eX ((j:Int)+1)<|an 1<|aE ?_;have hZ3:=Mf Mn VH rI hus Qh4;have hse:=Y5 (v:=vj) (Nt.shape i Ng) Qoi oM;rw[hse]at QT hZ3;intro aC fr;exact⟨ae x.insts-(j+1),oM,j+1,vj.set i.dst.toNat x68,z69,Zy,Zz,rfl,fr.kp [0,2,4,8],(M93.tk 5),oM,by rw[lj];exact Nu,ZA,hZ3.Qdt oM (λ_ h=> .inl h),QT⟩;refine cE<|dR<|an 1<|eX ((j:Int)+1)<|eW [0,2,4,18]<|an 1<|aE ?_;have hZ3:=Mf Mn VH rI hus Qh4;rw[QdB oM]at QT hZ3;intro aC fr;exact⟨ae x.insts-(j+1),oM,j+1,vj,z69,Zy,Zz,rfl,fr.kp [0,2,4,8],(tq.tk 5),oM,Nu,ZA,hZ3.Qdt oM (λ_ h=> .inl h),QT⟩;refine gZ 0<|ia<|bt<|aV ?_;have Dd:=QhG hr oM;refine an 3<|eV (RM X zj uA uB w6 hX hGj (Mem.dd (l:=fJ X zj uA uB) M7)) ?_;rintro _ ZC ⟨b98,ZD,yA,yB,rfl,QfJ,Bf,QfK,Mr⟩;have km:=cC [TW X ZD yA yB,Mb X ZD,J6 ZD yA yB,.row 2 1 (sM vg) m m (ints vj),.aM b1 49 (xV x)] (M7.uX Mr);have hr:=gn.step (G:=z.go (xe X.E.toEnv0 (cX X.E.toEnv0 g) x bN)) (A:=ey X.E.toEnv0) (F:=λ_ s=>if x.e=0 then .ok (x.a,0,vj) s else if x.e=1 then .ok (if vj.getD x.v.toNat 0≠0 then x.a else x.b,0,vj) s else if x.e=3 then .stop 2 x.a s else .ok (-1,if x.v>=0 then vj.getD x.v.toNat 0 else 0,vj) s) Dd QfK;refine an 1<|aE<|fZ (!b98) (¬(b98=true)) (by simp only[mw]) (λEK=> ?_) (λEK=> ?_);replace EK:b98=false:=dj.2 EK;have zG:ZD.ov=true:=by rw[QfJ,EK];rfl
 refine br<|cv<|lH (vI (-1)) (vI 0) ?_;exact⟨-1,0,vj,ZD,yA,yB,rfl,Bf,Nu,λ_=>rfl,.inl zG,gn.TU zG hr,km.tk 4⟩;replace EK:b98=true:=fy.1 EK;have zG:ZD.ov=false:=by rw[QfJ,EK];rfl
 have VH:=Me hZj zG QfK;have hlv:LI vj:=(VH.run zG).2.2.2;refine cE<|bt<|aV<|an 1<|bH (aq b1 2) _ (af (km.get 4 rfl) rfl)<|aE<|df 4<|br<|o3 x.e 0 (λBK=> ?_) (λBK=> ?_);refine aV<|an 1<|bH (aq b1 4) _ (af (km.get 4 rfl) rfl)<|an 2<|aE<|cv<|dX<|lH (vI x.a) (vI 0) ?_;exact⟨x.a,0,vj,ZD,yA,yB,rfl,Bf,Nu,(λh=>by rw[zG]at h;cases h),VH,gn.Ns (λs_=>by rw[ax oM]) hr,km.tk 4⟩;refine br<|o3 x.e 1 (λQd4=> ?_) (λQd4=> ?_);refine bt<|aV ?_;have hvi:=Nt.vIf oM;refine an 2<|bH (aq b1 3) _ (af (km.get 4 rfl) rfl)<|eW [4,92,94]<|ga (h0:=oM) (h1:=oM) (aZ vg) m 1 x.v<|bH (aN (aZ vg) (x.v) 1) _ (fR (aF (km.get 3 rfl)) rfl hvi.1 oM)<|an 1<|aE<|fZ (((vj.getD x.v.toNat 0):Int) !=0) (((vj.getD x.v.toNat 0):Int)≠0) (by simp only[cQ]) (λQh5=> ?_) (λQh5=> ?_);refine aV<|an 1<|bH (aq b1 4) _ (af (km.get 4 rfl) rfl)<|an 2<|aE<|cv<|dX<|lH (vI x.a) (vI 0) ?_;exact⟨x.a,0,vj,ZD,yA,yB,rfl,Bf,Nu,(λh=>by rw[zG]at h;cases h),VH,gn.Ns (λs_=>by rw[ao oM,ax oM,ax oM]) hr,km.tk 4⟩;refine cE<|aV<|an 1<|bH (aq b1 5) _ (af (km.get 4 rfl) rfl)<|an 2<|aE<|cv<|dX<|lH (vI x.b) (vI 0) ?_;exact⟨x.b,0,vj,ZD,yA,yB,rfl,Bf,Nu,(λh=>by rw[zG]at h;cases h),VH,gn.Ns (λs_=>by rw[ao oM,ax oM,ao oM]) hr,km.tk 4⟩;refine br<|o3 x.e 2 (λQh6=> ?_) (λQh6=> ?_);refine bt<|aV ?_;have hvi:=Nt.Qni oM;refine an 1<|bH (aq b1 3) _ (af (km.get 4 rfl) rfl)<|eW [2,4,105]<|an 1<|aE<|iY ((x.v:Int)>=0) (λMs=> ?_) (λMs=> ?_);refine bt<|eW [2,4] ?_;intro aC fr;refine BD 6 (bE [eS (sM vg) m m,eR b1 3,eI x.v,eA (aZ vg) (x.v) 1,eI (vj.getD x.v.toNat 0),eI (-1)]) fr (la (xu lz dP dP (dL (aq b1 3) _ λw_ hK=>(af ((km.aw hK).get 4 rfl) rfl)) (dI (h0:=oM) (h1:=oM) (aZ vg) m 1 x.v) (dL (aN (aZ vg) (x.v) 1) _ λw_ hK=>(fR (aF ((km.aw hK).get 3 rfl)) rfl oM oM))) dP) ?_;intro aC Qoj vs hK hv fr;revert aC;refine cT [(6,vI (-1)),(111,vI (vj.getD x.v.toNat 0))] ?_;have Ul:=km.aw hK;clear hK hv fr aC km;clear vs;refine an 1<|aE<|cv<|dX<|lH (vI (-1)) (vI (vj.getD x.v.toNat 0)) ?_;exact⟨-1,(vj.getD x.v.toNat 0),vj,ZD,yA,yB,rfl,Bf,Nu,λ_=>rfl,VH,gn.Ns (λs_=>by rw[ao oM,ao oM,ao oM,ax oM]) hr,Ul.tk 4⟩;refine cE<|br<|cv<|dX<|lH (vI (-1)) (vI 0) ?_;exact⟨-1,0,vj,ZD,yA,yB,rfl,Bf,Nu,λ_=>rfl,VH,gn.Ns (λs_=>by rw[ao oM,ao oM,ao oM,ao oM]) hr,km.tk 4⟩;refine cE<|bt ?_;have he3:x.e=3:=by have:=Tt Nt.ends;omega
 refine eW [0,2,4] ?_;intro aC fr;refine BD 5 (bE [eR X.r 0,eR X.r 0,eR X.r 0,eR b1 4,eI x.a]) fr (xu lz dP dP dP dP (dL (aq b1 4) _ λw_ hK=>(af ((km.aw hK).get 4 rfl) rfl))) ?_;intro aC Qh1 vs hK hv fr;revert aC;refine cT [(114,pT X.r 0),(116,vI x.a)] ?_;have xh:=km.aw hK;clear hK hv fr aC km;clear vs;refine eV (nF X ZD yA yB Qh1 hX Bf (Mem.dd (l:=fJ X ZD yA yB) xh) 2 x.a) ?_;rintro _ w124 ⟨rfl,Qk6⟩;have ZE:=cC [TW X (ZD.fin 2 x.a) yA yB,Mb X (ZD.fin 2 x.a),J6 (ZD.fin 2 x.a) yA yB,.row 2 1 (sM vg) m m (ints vj),.aM b1 49 (xV x)] (xh.uX Qk6);refine aE<|br<|cv<|lH (vI (-1)) (vI 0) ?_;exact⟨-1,0,vj,(ZD.fin 2 x.a),yA,yB,rfl,Bf.fin,Nu,λ_=>rfl,.inl Pg,gn.fin hr (λ_=>by rw[ao oM,ao oM,ax oM];rfl),ZE.tk 4⟩
set_option maxHeartbeats 4000000 in
theorem Qd5(X:RX)(z:mv)(oA:ar)(oc:Nat)(w:World)(hX:X.WF)(hG:fC X z)(hR:(bD.pk (fJ X z oA oc)).holds w)(hA:RO (xS X z oA oc) w X.ro)(g:Nat)(ih:∀j,j<g->RF Tryz.prog X 89 (cX X.E.toEnv0 j) (j:Int))(n:Int)(l:ah)(bA:ar)(bc:Nat)(hZ:xv X.E.toEnv0 z (g:Int) l)(hl:RO (xS X z oA oc) w (.rd bA (ints l)))(hlen:ae l<=17):Calls Tryz.prog 89 #[pT X.r 0,vI n,vS bA (ae l) bc] w (gp λv w'=>XV X (xS X z oA oc) w z (cX X.E.toEnv0 g n l) v w'):=by
 have Mn:=hX.ein;have hnf:ae X.E.fns<=1000:=hX.Qdx;have htf:ae X.E.qF=ae X.E.fns:=rfl;have hopn:z.ov=false->0<=z.s.opened/\z.s.opened<=1200:=λh=>(hZ.run h).2.2.1
 refine iI 135 [pT X.r 0,vI n,vS bA (ae l) bc] Tryz.func89 ?_;have hM:=Mem.te hR;refine br<|bt<|aV<|an 4<|bH (aq X.r 10) _ (af (hM.get 0 rfl) rfl)<|aE<|fZ z.ov (z.ov=true) ju (λc1=> ?_) (λc1=> ?_);refine br<|cv<|dq (vI 0) ?_;exact⟨0,z,oA,oc,rfl,hG,gn.TU c1 (K:=cX X.E.toEnv0 g n l) rfl,hM⟩;replace c1:z.ov=false:=dj.2 c1;have hz:=c1;obtain⟨VH,hZ2,hZ3,hZ4⟩:=hZ.run hz;refine cE<|bt<|aV<|an 3 ?_;obtain⟨B2,hB2⟩:∃B:Bool,B=decide ((n:Int)<1):=⟨_,rfl⟩;refine cT [(0,pT X.r 0),(1,vI n),(2,vS bA (ae l) bc),(20,(vB (decide ((n:Int)<1))))] ?_;rw[<-hB2];have iB2:B2=true↔((n:Int)<1):=by rw[hB2];simp only[aU]
 clear hB2;intro aC fr;refine dx 4 7 [21,24] fr (news:=[(21,cond (!B2) (vI n) undef),(24,(cond (!B2) (vP (aq X.r 13)) undef))]) (by cases B2<;>kernel_rfl) ?_;intro aC fr;refine aH (B:=(!B2)) (d:=(some 25)) (vS X.fA (ae X.E.qF) X.fc) fr (by cases B2<;>kernel_rfl) (λhB hh=> ?_) ?_;cases B2<;>try exact absurd hB dQ
 have c2:¬((n:Int)<1):=mD iB2.2;exact bJ (some 25) (aq X.r 13) fr kR (vS X.fA (ae X.E.qF) X.fc) (af (hM.get 0 rfl) rfl) hh;intro aC fr;refine dx 4 12 [28,29] fr (news:=[(28,(vB (B2||decide ((n:Int)>(ae X.E.qF:Int))))),(29,(vB (B2||decide ((n:Int)>(ae X.E.qF:Int)))))]) (by cases B2<;>kernel_rfl) ?_;intro aC fr;obtain⟨VI,Qh7⟩:∃B:Bool,B=(B2||decide ((n:Int)>(ae X.E.qF:Int))):=⟨_,rfl⟩;revert aC;refine cT [(0,pT X.r 0),(1,vI n),(2,vS bA (ae l) bc),(29,(vB (B2||decide ((n:Int)>(ae X.E.qF:Int)))))] ?_;rw[<-Qh7];have Qd6:VI=true↔(((n:Int)<1)\/((n:Int)>(ae X.E.qF:Int))):=by rw[Qh7];simp only[dt,aU,iB2]
 clear Qh7;intro aC fr;refine dx 3 15 [32] fr (news:=[(32,(cond (!VI) (vP (aq X.r 13)) undef))]) (by cases VI<;>kernel_rfl) ?_;intro aC fr;refine aH (B:=(!VI)) (d:=(some 33)) (vS X.fA (ae X.E.qF) X.fc) fr (by cases VI<;>kernel_rfl) (λhB hh=> ?_) ?_;cases VI<;>try exact absurd hB dQ
 have yT:¬(((n:Int)<1)\/((n:Int)>(ae X.E.qF:Int))):=mD Qd6.2;exact bJ (some 33) (aq X.r 13) fr kR (vS X.fA (ae X.E.qF) X.fc) (af (hM.get 0 rfl) rfl) hh;intro aC fr;refine dx 1 17 [34] fr (news:=[(34,cond (!VI) (vI n) undef)]) (by cases VI<;>kernel_rfl) ?_;intro aC fr;refine aH (B:=(!VI)) (d:=(some 35)) (vI (n-1)) fr (by cases VI<;>kernel_rfl) (λhB hh=> ?_) ?_;cases VI<;>try exact absurd hB dQ
 have yT:¬(((n:Int)<1)\/((n:Int)>(ae X.E.qF:Int))):=mD Qd6.2;exact r8 (some 35) (n-1) fr (z0:=n-1) kR rfl oM oM hh;intro aC fr;cases VI;have yT:¬(((n:Int)<1)\/((n:Int)>(ae X.E.qF:Int))):=mD Qd6.2;obtain⟨f,hf⟩:=aP (l:=X.E.fns) (i:=(n-1).toNat) oM;have FE:=aI hf;have hW:=hX.fns f FE;have kr:=hW.va;have hva0:0<=f.va:=Int.le_trans hW.pa0 hW.pav;have hpav:=hW.pav;have hpa0:=hW.pa0;have Qd7:=ug (body:=lT X.E.toEnv0 g) (l:=l) (s:=z.s) oM hf;change cX X.E.toEnv0 g n l z.s=_ at Qd7;obtain⟨gy,Mt⟩:=cU (hM.ro hA.TX) (cs:=f.cells) (i:=(n-1).toNat) (gm hf);refine cZ (some 36) X.fA gy (ae X.E.qF) 5 (n-1) fr kR Mt oM oM<|an 1<|bH ((aN gy (n-1) 5).add 2) _ (bS (hM.ro hA.TX) Mt (i:=(n-1).toNat) (cs:=f.cells) (gm hf) 2 _ rfl)<|an 4<|aE<|fZ ((f.pa:Int) !=(ae l:Int)) ((f.pa:Int)≠(ae l:Int)) (by simp only[cQ]) (λc26=> ?_) (λc26=> ?_);refine aV<|an 3<|eV (nF X z oA oc w hX hG (Mem.dd (l:=fJ X z oA oc) hM) 5 0) ?_;rintro _ w27 ⟨rfl,XM⟩;have ue:=cC [TW X (z.fin 5 0) oA oc,Mb X (z.fin 5 0),J6 (z.fin 5 0) oA oc] (hM.uX XM);clear XM hM;refine aE<|br<|cv<|dq (vI 0) ?_;exact⟨0,(z.fin 5 0),oA,oc,rfl,hG.fin,gn.fin (K:=cX X.E.toEnv0 g n l) rfl (λ_=>aK eH.no (Qd7.trans (ax oM))),ue⟩;refine cE<|bt<|aV<|an 4<|bH (aq X.r 12) _ (af (hM.get 0 rfl) rfl)<|an 1<|aE<|iY ((z.s.opened:Int)>=1200) (λLl=> ?_) (λLl=> ?_);refine aV<|an 3<|eV (nF X z oA oc w hX hG (Mem.dd (l:=fJ X z oA oc) hM) 4 0) ?_;rintro _ w30 ⟨rfl,OQ⟩;have u5:=cC [TW X (z.fin 4 0) oA oc,Mb X (z.fin 4 0),J6 (z.fin 4 0) oA oc] (hM.uX OQ);clear OQ hM;refine eW []<|aE<|br<|cv<|dq (vI 0) ?_;exact⟨0,(z.fin 4 0),oA,oc,rfl,hG.fin,gn.fin (K:=cX X.E.toEnv0 g n l) rfl (λ_=>aK eH.no (Qd7.trans (by rw[ao oM,ax oM]))),u5⟩;refine cE<|aV<|an 4<|bH (aq X.r 12) _ (af (hM.get 0 rfl) rfl)<|eW [0,1,2,57,61]<|eX (z.s.opened+1)<|an 3<|sf (ho:=sI) hM 0 12 (vI (z.s.opened+1)) rfl λw32 rL=> ?_
 replace rL:=rL.nf;clear hM;refine aE<|aV<|an 3<|bH (aq X.r 13) _ (af (rL.get 0 rfl) rfl)<|an 1<|eX (n-1) ?_;obtain⟨Mo,Ba⟩:=cU (rL.ro hA.TX) (cs:=f.cells) (i:=(n-1).toNat) (gm hf);intro aC fr;refine cZ (some 72) X.fA Mo (ae X.E.qF) 5 (n-1) fr kR Ba oM oM<|k8 (aN Mo (n-1) 5) [vT f.nm,vB f.wk,vI f.pa,vI f.va,vS f.A (ae (au f.bF)) f.c] (mj (i:=(n-1).toNat) (rL.ro hA.TX) Ba (gm hf))<|sV rL 30 [vT ⟨#[]⟩,vB false,vI 0,vI 0,ay] λVJ w41 hb40 I4=> ?_
 replace I4:=I4.nf;refine sW I4 3 [vT f.nm,vB f.wk,vI f.pa,vI f.va,vS f.A (ae (au f.bF)) f.c] rfl λw43 u4=> ?_
 replace u4:=u4.nf;refine aE<|aV<|an 1<|bH (aq VJ 3) _ (af (u4.get 3 rfl) rfl)<|eW [0,1,2,7,75] ?_;intro aC fr;refine vY (kR:aB _ 2=some (some 76,.makeSlice 39 (.tmp 75) (.tmp 75),39,none)) fr kR kR (k':=3) rfl (e:=2) (bytes:=8) (z:=(vI 0)) (n:=f.va.toNat) (i:=f.va) kR kR oM kR kR rfl oM (by simp only[maxLen];omega) u4 ?_;intro GO w46 Qm5 _ CF _ aC ea fr;clear ea;replace CF:=CF.nf;revert aC;refine an 1<|aE<|bt<|br<|df 0 ?_;have zA:=CF.od [3,4,4,4,4] 5;have FL:=cC [.aM X.r 138 [vS X.dA (ae X.ds) X.dc,vS X.pA (ae X.ds) X.pc,vS (sM X.mG) X.E.cJ X.E.cJ,vI z.s.next,vS X.iA (ae X.E.inp) X.ic,(vI (z.s.pos:Int)),vI z.k,vI z.c,vS oA (ae z.s.out) oc,vI z.s.steps,vB z.ov,vI X.E.fuel,vI (z.s.opened+1),vS X.fA (ae X.E.qF) X.fc,vS X.qA (ae X.E.qF) X.qc],Mb X z,J6 z oA oc,.row 2 1 (sM GO) f.va.toNat f.va.toNat (ints (l.take 0++List.replicate (f.va.toNat-0) 0)),.aM VJ 30 [vT f.nm,vB f.wk,vI f.pa,vI f.va,vS f.A (ae (au f.bF)) f.c]] (zA.cast (by rw[QkA (l:=l)]));intro aC fr;refine iJ (λn_ a_ w_=>∃(j:Nat),n_=ae l-j/\Fr a_ 135 [(0,pT X.r 0),(1,vI n),(2,vS bA (ae l) bc),(7,pT VJ 0),(8,vS (sM GO) f.va.toNat f.va.toNat),(9,nV j)]/\Mem (xS X z oA oc) w w_ [.aM X.r 138 [vS X.dA (ae X.ds) X.dc,vS X.pA (ae X.ds) X.pc,vS (sM X.mG) X.E.cJ X.E.cJ,vI z.s.next,vS X.iA (ae X.E.inp) X.ic,(vI (z.s.pos:Int)),vI z.k,vI z.c,vS oA (ae z.s.out) oc,vI z.s.steps,vB z.ov,vI X.E.fuel,vI (z.s.opened+1),vS X.fA (ae X.E.qF) X.fc,vS X.qA (ae X.E.qF) X.qc],Mb X z,J6 z oA oc,.row 2 1 (sM GO) f.va.toNat f.va.toNat (ints (l.take j++List.replicate (f.va.toNat-j) 0)),.aM VJ 30 [vT f.nm,vB f.wk,vI f.pa,vI f.va,vS f.A (ae (au f.bF)) f.c]]/\(j<=ae l)) (n:=_) ⟨0,rfl,fr.kp [0,1,2,7,8,9],FL,cI _⟩ ?_;clear fr aC FL;rintro n aC w56 ⟨j,rfl,fr,xw,hj⟩;revert aC;refine bt<|br<|iY ((j:Int)<(ae l:Int)) (λc60=> ?_) (λc60=> ?_);refine cE<|bt<|df 1<|dR<|an 4 ?_;obtain⟨ZF,rfl⟩:=rd_some (xw.ro hl) (by rw[fj];omega);refine ga ZF (ae l) 1 (j:Int)<|bH (aN ZF (j:Int) 1) _ (fR (xw.ro hl) rfl oM oM)<|ga (h1:=oM) (aZ GO) f.va.toNat 1 (j:Int)<|DI xw 3 (aN (aZ GO) (j:Int) 1) (((j:Int)).toNat*1) (vI (l.getD (j:Int).toNat 0)) rfl rfl oM λw62 vn=> ?_
 replace vn:=vn.nf;refine aE<|dR<|an 1<|eX ((j:Int)+1)<|an 1<|aE ?_;have GQ:=cC [.aM X.r 138 [vS X.dA (ae X.ds) X.dc,vS X.pA (ae X.ds) X.pc,vS (sM X.mG) X.E.cJ X.E.cJ,vI z.s.next,vS X.iA (ae X.E.inp) X.ic,(vI (z.s.pos:Int)),vI z.k,vI z.c,vS oA (ae z.s.out) oc,vI z.s.steps,vB z.ov,vI X.E.fuel,vI (z.s.opened+1),vS X.fA (ae X.E.qF) X.fc,vS X.qA (ae X.E.qF) X.qc],Mb X z,J6 z oA oc,.row 2 1 (sM GO) f.va.toNat f.va.toNat (ints (l.take (j+1)++List.replicate (f.va.toNat-(j+1)) 0)),.aM VJ 30 [vT f.nm,vB f.wk,vI f.pa,vI f.va,vS f.A (ae (au f.bF)) f.c]] (vn.cast (by rw[uv,cN,QhF oM oM]));intro aC fr;exact⟨ae l-(j+1),oM,j+1,rfl,fr.kp [0,1,2,7,8,9],GQ,oM⟩;refine gZ 0<|ia<|aV ?_;obtain rfl:j=ae l:=oM;obtain⟨z1,zG⟩:∃y:mv,y={z with s:={z.s with opened:=z.s.opened+1}}:=⟨_,rfl⟩;obtain⟨v0,IL⟩:∃y,y=l++List.replicate (f.va.toNat-ae l) 0:=⟨_,rfl⟩;have Qok:z1.ov=false:=by rw[zG];exact hz
 have hG1:fC X z1:=by rw[zG];exact⟨hG.mem,hG.n1,hG.n2,hG.pos,hG.out,hG.s1,hG.s2⟩
 have Jb:=hG.s2;obtain⟨g1,hg1⟩:∃g1,g=g1+1:=⟨g-1,oM⟩;have hZc:xv X.E.toEnv0 z1 ((g1:Int)+1) v0:=by rw[zG,IL];exact .inr ⟨by show X.E.fuel-z.s.steps<_;omega,hZ2,by show 0<=z.s.opened+1/\z.s.opened+1<=1200;omega,QhE hZ4⟩
 obtain⟨xb,hxb⟩:=aP (l:=f.bF) (i:=(0:Int).toNat) (by have:=hW.pos;show 0<_;omega);have vr:gn (z.go (cX X.E.toEnv0 g n l)) (z1.go (Hk X.E.toEnv0 g1 f 0 xb v0)):=gn.to (K:=cX X.E.toEnv0 g n l) rfl hz Qok (Qd7.trans (by rw[ao oM,ao oM,zG,hg1,L9 hxb,hW.first xb hxb,IL];rfl));have Qol:ae v0=f.va.toNat:=by rw[IL,dG,qI];omega
 have hm:(f.va.toNat:Int)=f.va:=jM oM;have hbq:AU X.E.toEnv0 f (z.go (cX X.E.toEnv0 g n l)) g (g1+1) 0 0 v0 z1:= .inr ⟨dv _,g1,xb,rfl,oM,hxb,hZc,vr⟩;have zy:=cC [TW X z1 oA oc,Mb X z1,J6 z1 oA oc,.row 2 1 (sM GO) f.va.toNat f.va.toNat (ints v0),.aM VJ 30 [vT f.nm,vB f.wk,vI f.pa,vI f.va,vS f.A (ae (au f.bF)) f.c]] (xw.cast (by rw[zG,IL,gC]));refine an 1<|aE<|br<|bt<|df 2 ?_;intro aC fr;refine iJ (λn_ a_ w_=>∃(j:Nat) (bj:Int) (aj:Int) (vj:ah) (zj:mv) (uA:ar) (uB:Nat),n_=j/\Fr a_ 135 [(0,pT X.r 0),(1,vI n),(7,pT VJ 0),(8,vS (sM GO) f.va.toNat f.va.toNat),(10,vI bj),(11,vI aj)]/\Mem (xS X z oA oc) w w_ [TW X zj uA uB,Mb X zj,J6 zj uA uB,.row 2 1 (sM GO) f.va.toNat f.va.toNat (ints vj),.aM VJ 30 [vT f.nm,vB f.wk,vI f.pa,vI f.va,vS f.A (ae (au f.bF)) f.c]]/\(ae vj=f.va.toNat)/\(fC X zj)/\(AU X.E.toEnv0 f (z.go (cX X.E.toEnv0 g n l)) g j bj aj vj zj)) (n:=_) ⟨g1+1,0,0,v0,z1,oA,oc,rfl,fr.kp [0,1,7,8,10,11],zy,Qol,hG1,hbq⟩ ?_;clear fr aC zy;rintro n aC w70 ⟨j,bj,aj,vj,zj,uA,uB,rfl,fr,zS,Nu,hGj,hbq⟩;revert aC;refine bt<|br<|iY ((bj:Int)>=0) (λc74=> ?_) (λc74=> ?_);refine cE<|df 3<|aV ?_;obtain⟨xP,j1,x,rfl,hjg,hx,hZj,hr⟩:=hbq.resolve_left (λh=>by have:=h.1;omega);have Fe:bj<ae f.bF:=by have:=(aW.1 hx).1;omega
 have CW:=hA.xfn FE;have hbl2:=bM f.bF;refine an 2<|aE<|aV<|an 2<|bH (aq VJ 4) _ (af (zS.get 4 rfl) rfl)<|an 1 ?_;obtain⟨Qk7,QfL⟩:=fF (zS.ro CW.bs) (gS hx);intro aC fr;refine cZ (some 98) f.A Qk7 (ae (au f.bF)) 6 bj fr kR QfL oM oM<|k8 (aN Qk7 (bj) 6) (xV x) (eD (zS.ro CW.bs) QfL hx)<|an 1<|eV (Zv X zj uA uB w70 hX hGj f FE bj.toNat x hx vj GO f.va.toNat Nu hm (Mem.dd (l:=fJ X zj uA uB++[.row 2 1 (sM GO) f.va.toNat f.va.toNat (ints vj)]) zS) (hA.vD (l:=fJ X zj uA uB++[.row 2 1 (sM GO) f.va.toNat f.va.toNat (ints vj)]) zS) j1 (ih j1 hjg) hZj) ?_;rintro _ w90 ⟨vt,Qh8,ZG,z84,ZH,ZI,rfl,RR,JA,Qk8,Qk9,Qd8,Qom⟩;have JB:=cC [TW X z84 ZH ZI,Mb X z84,J6 z84 ZH ZI,.row 2 1 (sM GO) f.va.toNat f.va.toNat (ints ZG),.aM VJ 30 [vT f.nm,vB f.wk,vI f.pa,vI f.va,vS f.A (ae (au f.bF)) f.c]] (zS.uX Qom);refine an 5<|aE<|br<|iY ((vt:Int)>=0) (λc92=> ?_) (λc92=> ?_);have hv1:z84.ov=false:=by
                    cases hv_:z84.ov with
                    |false=>rfl
                    |true=>have:=Qk8 hv_;omega
 obtain⟨Iu,OG⟩:=Y6 hW xP hx (Qd8.got hv1).2 oM;obtain⟨x2,Qy⟩:=aP (l:=f.bF) (i:=vt.toNat) oM;obtain⟨q,hq⟩:=aP (l:=f.bO) (i:=vt.toNat) (by have:=hW.Qkk;omega);have Xn:=hW.Qkk;obtain⟨Qh9,QfM⟩:=fF (JB.ro CW.bs) (gS Qy);obtain⟨Qia,QfN⟩:=rd_some (JB.ro hA.xq) (by rw[bl];omega);obtain⟨gx,QfO⟩:=rd_some (JB.ro (hA.xsv FE)) (by unfold QcF;rw[bl];omega);refine eW [0,1,7,8,10,11,12] ?_;intro aC fr;refine BD 18 (bE [eR VJ 4,eS f.A (ae (au f.bF)) f.c,eI vt,eA Qh9 (vt) 6,.bd (xA x2),eR X.r 0,eR X.r 0,eP (aq X.r 14),eS X.qA (ae X.E.qF) X.qc,eI n,eI (n-1),eA Qia (n-1) 1,eS f.qA (ae f.bO) f.qc,eI vt,eA gx (vt) 1,eS q.1 (ae q.2.2) q.2.1,eI bj,eS (sM GO) f.va.toNat f.va.toNat]) fr (la (xu (fQ lz dP (dL (aq VJ 4) _ λw_ hK=>(af ((JB.aw hK).get 4 rfl) rfl)) dP (dIA f.A Qh9 (ae (au f.bF)) 6 vt QfM) (dS (aN Qh9 (vt) 6) (xV x2) λw_ hK=>(eD ((JB.aw hK).ro CW.bs) QfM Qy)) dP dP dP (dL (aq X.r 14) _ λw_ hK=>(af ((JB.aw hK).get 0 rfl) rfl)) dP (dA (n-1)) (dIA (h0:=oM) (h1:=oM) X.qA Qia (ae X.E.qF) 1 (n-1) QfN)) (dL (aN Qia (n-1) 1) _ λw_ hK=>(bW ((JB.aw hK).ro hA.xq) QfN (gm hf))) dP (dIA (h0:=oM) (h1:=oM) f.qA gx (ae f.bO) 1 vt QfO) (dL (aN gx (vt) 1) _ λw_ hK=>(bW ((JB.aw hK).ro (hA.xsv FE)) QfO (by unfold QcF;rw[aL,hq];rfl))) dP) dP) ?_;intro aC QhV vs hK hv fr;revert aC;refine cT [(0,pT X.r 0),(1,vI n),(7,pT VJ 0),(8,vS (sM GO) f.va.toNat f.va.toNat),(10,vI vt),(11,vI Qh8),(110,xA x2),(121,vS q.1 (ae q.2.2) q.2.1),(122,vI bj),(123,vS (sM GO) f.va.toNat f.va.toNat)] ?_;have EI:=JB.aw hK;clear hK hv fr aC JB;clear vs;refine eV (Qd3 X z84 ZH ZI QhV hX RR f FE vt.toNat x2 Qy ZG GO f.va.toNat JA hm (Mem.dd (l:=fJ X z84 ZH ZI++[.row 2 1 (sM GO) f.va.toNat f.va.toNat (ints ZG)]) EI) (hA.vD (l:=fJ X z84 ZH ZI++[.row 2 1 (sM GO) f.va.toNat f.va.toNat (ints ZG)]) EI) q hq bj (.inr OG)) ?_;rintro _ ZJ ⟨rfl,Qla⟩;have sH:=cC [TW X z84 ZH ZI,Mb X z84,J6 z84 ZH ZI,.row 2 1 (sM GO) f.va.toNat f.va.toNat (ints (kv x2.ak (gI q.2.2 bj) ZG)),.aM VJ 30 [vT f.nm,vB f.wk,vI f.pa,vI f.va,vS f.A (ae (au f.bF)) f.c]] (EI.uX Qla);exact aE λaC fr=>⟨j1,oM,j1,vt,Qh8,(kv x2.ak (gI q.2.2 bj) ZG),z84,ZH,ZI,rfl,fr.kp [0,1,7,8,10,11],sH,(D2 _ _).trans JA,RR,AU.next hW Mn xP hx hr Qd8 Qk9 RR.s2 hjg hv1 oM Qy (gg.XN hq)⟩
 have mS:vt= -1:=by
                    cases hv_:z84.ov with
                    |true=>exact Qk8 hv_
                    |false=>exact(Hm (Qd8.got hv_).2).resolve_right (λh_=>by have:=QhI (hW.aM _ _ hx).ends h_;omega)
 exact cE λaC fr=>⟨0,oM,0,vt,Qh8,ZG,z84,ZH,ZI,rfl,fr.kp [0,1,7,8,10,11],JB,JA,RR,AU.done hr Qd8 Qk9 mS⟩
 refine gZ 2<|ia<|aV ?_;obtain⟨_,_,ZK,hr⟩:=hbq.resolve_right (λh=>by have:=h.1;omega);refine an 4<|bH (aq X.r 12) _ (af (zS.get 0 rfl) rfl)<|Nf .i64 (IntKind.i64.wrap (zj.s.opened-1)) 1<|an 3<|sf (ho:=sI) zS 0 12 (vI (IntKind.i64.wrap (zj.s.opened-1))) rfl λQkf DZ=> ?_
 replace DZ:=DZ.nf;refine aE<|br<|cv<|dq (vI aj) ?_;exact⟨aj,{zj with s:={zj.s with opened:=IntKind.i64.wrap (zj.s.opened-1)}},uA,uB,rfl,hGj.toO,Y4 hr ZK,DZ.tk 3⟩;have yT:(((n:Int)<1)\/((n:Int)>(ae X.E.qF:Int))):=Qd6.1 rfl;revert aC;refine an 7<|aE<|jc<|aV<|an 3<|eV (nF X z oA oc w hX hG (Mem.dd (l:=fJ X z oA oc) hM) 5 0) ?_;rintro _ w113 ⟨rfl,QfP⟩;have JC:=cC [TW X (z.fin 5 0) oA oc,Mb X (z.fin 5 0),J6 (z.fin 5 0) oA oc] (hM.uX QfP);clear QfP hM;refine aE<|br<|cv<|dq (vI 0) ?_;exact⟨0,(z.fin 5 0),oA,oc,rfl,hG.fin,gn.fin (K:=cX X.E.toEnv0 g n l) rfl (λ_=>aK eH.no (o0 oM)),JC⟩
theorem Um(X:RX)(hX:X.WF)(g:Nat):RF Tryz.prog X 89 (cX X.E.toEnv0 g) (g:Int):=by
 induction g using Nat.strongRecOn with
 |_ g ih=>exact λn l bA bc z oA oc w hG hZ hR hA hl hlen=>Qd5 X z oA oc w hX hG hR hA g ih n l bA bc hZ hl hlen
end Go.Proofs.YtejbeeaomokjpaaGreat






namespace Go.Proofs.YtejbeeaomokjpaaGreat
set_option maxHeartbeats 1000000 in
theorem T7(fs:List eY)(fA:ar)(fc:Nat)(w:World)(hl:RO bI w (.qU fA 5 (fs.map eY.cells)))(hm:ae fs<=1000):Calls Tryz.prog 86 #[vS fA (ae fs) fc] w (gp λv w'=>∃A c,v=vS A (ae (iW fs)) c/\Mem bI w w' [.row 30 5 A (ae (iW fs)) c ((iW fs).flatMap eY.cells)]):=by
 refine iI 76 [vS fA (ae fs) fc] Tryz.func86 ?_;have hM:=Mem.init w;refine br<|br<|bt<|br<|df 0 ?_;have M1:=hM.cl (Mem.fi _ 30 5);clear hM;intro aC fr;refine iJ (λn_ a_ w_=>∃(i:Nat) (Aj:ar) (cj:Nat),n_=ae fs-i/\Fr a_ 76 [(0,vS fA (ae fs) fc),(3,(vS Aj (ae (cy (fs.map λf:eY=>(f.nm,f.wk)) fs i)) cj)),(4,nV i)]/\Mem bI w w_ [.row 30 5 Aj (ae (cy (fs.map λf:eY=>(f.nm,f.wk)) fs i)) cj ((cy (fs.map λf:eY=>(f.nm,f.wk)) fs i).flatMap eY.cells)]/\(i<=ae fs)) (n:=_) ⟨0,none,0,rfl,fr.kp [0,3,4],M1,cI _⟩ ?_;clear fr aC M1;rintro n aC w4 ⟨i,Aj,cj,rfl,fr,M5,hi⟩;revert aC;refine bt<|br<|iY ((i:Int)<(ae fs:Int)) (λc8=> ?_) (λc8=> ?_);refine cE<|bt<|df 1<|aV ?_;obtain⟨f,hf⟩:=aP (l:=fs) (i:=i) oM;have VD:(fs.map λf:eY=>(f.nm,f.wk))[i]?=some (f.nm,f.wk):=by rw[aL,hf];rfl
 refine an 2<|aE<|bt<|br<|df 2 ?_;intro aC fr;refine iJ (λn_ a_ w_=>∃(k:Nat) (b:Nat),n_=ae fs-k/\Fr a_ 76 [(0,vS fA (ae fs) fc),(3,(vS Aj (ae (cy (fs.map λf:eY=>(f.nm,f.wk)) fs i)) cj)),(4,nV i),(5,nV b),(6,nV k)]/\Mem bI w w_ [.row 30 5 Aj (ae (cy (fs.map λf:eY=>(f.nm,f.wk)) fs i)) cj ((cy (fs.map λf:eY=>(f.nm,f.wk)) fs i).flatMap eY.cells)]/\(k<=ae fs)/\(b<ae fs)/\(CQ (fs.map λf:eY=>(f.nm,f.wk)) i k b)) (n:=_) ⟨0,i,rfl,fr.kp [0,3,4,5,6],M5,cI _,oM,CQ.start⟩ ?_;clear fr aC M5;rintro n aC Fw ⟨k,b,rfl,fr,eM,hk,hb,yU⟩;revert aC;refine bt<|br<|iY ((k:Int)<(ae fs:Int)) (λT8=> ?_) (λT8=> ?_);refine cE<|bt<|df 3<|bt ?_;obtain⟨q,hq⟩:=aP (l:=fs) (i:=k) oM;have VE:(fs.map λf:eY=>(f.nm,f.wk))[k]?=some (q.nm,q.wk):=by rw[aL,hq];rfl
 obtain⟨x,hx⟩:=aP (l:=fs) (i:=b) oM;have T9:(fs.map λf:eY=>(f.nm,f.wk))[b]?=some (x.nm,x.wk):=by rw[aL,hx];rfl
 cases Fg:x.wk;cases Hr:q.wk;obtain⟨fE,rfl⟩:=cU (eM.ro hl) (cs:=q.cells) (i:=k) (gm hq);obtain⟨Ua,Ju⟩:∃B:Bool,B=((q.nm:bo).toList==(f.nm:bo).toList):=⟨_,rfl⟩;cases Ua;have Fc:¬(q.nm).toList=(f.nm).toList:=λe_=>Bool.noConfusion ((az.2 e_).symm.trans (Ju.symm))
 refine eW [0,3,4,5,6] ?_;intro aC fr;refine qo (bE [eS (some fE) (ae fs) fc,.bd (nV k),eA fE (k:Int) 5,eA fE (k:Int) 5,eT q.nm,eS (some fE) (ae fs) fc,.bd (nV i),eA fE (i:Int) 5,eA fE (i:Int) 5,eT f.nm,eB false,eB false,dU,dU,dU,dU,dU,dU,dU,dU,dU,dU,dU,dU,dU,dU,dU,dU,dU,dU,dU,dU,dU,dU,dU,dU,dU,dU,dU,dU,dU,dU,dU,eB false]) fr (vG (uz (ve (EH (QdQ (fQ lz dP dP (dI fE (ae fs) 5 (k:Int)) dP (dL (aN fE (k:Int) 5) _ λw_ hK=>(bS ((eM.aw hK).ro hl) rfl (i:=k) (cs:=q.cells) (gm hq) 0 _ rfl)) dP dP (dI fE (ae fs) 5 (i:Int)) dP (dL (aN fE (i:Int) 5) _ λw_ hK=>(bS ((eM.aw hK).ro hl) rfl (i:=i) (cs:=f.cells) (gm hf) 0 _ rfl)) (Np Ju) dP))))) dK dP) ?_;intro aC w22 vs hK hv fr;revert aC;refine cT [(0,vS (some fE) (ae fs) fc),(3,(vS Aj (ae (cy (fs.map λf:eY=>(f.nm,f.wk)) fs i)) cj)),(4,nV i),(5,nV b),(6,nV k),(63,vB false)] ?_;have oZ:=eM.aw hK;clear hK hv fr aC eM;clear vs;exact jG<|cE<|dR<|an 1<|eX ((k:Int)+1)<|an 1<|aE λaC fr=>⟨ae fs-(k+1),oM,k+1,b,rfl,fr.kp [0,3,4,5,6],oZ,oM,oM,yU.keep (yU.AW VD VE T9 (λh_=>Fc (aK ByteArray.toList h_.1)))⟩
 have Fc:(q.nm).toList=(f.nm).toList:=az.1 (Ju.symm);obtain⟨Ub,Mi⟩:∃B:Bool,B=decide ((k:Int)<(b:Int)):=⟨_,rfl⟩;cases Ub;have c26:¬((k:Int)<(b:Int)):=cD Mi.symm;refine eW [0,3,4,5,6] ?_;intro aC fr;refine qo (bE [eS (some fE) (ae fs) fc,.bd (nV k),eA fE (k:Int) 5,eA fE (k:Int) 5,eT q.nm,eS (some fE) (ae fs) fc,.bd (nV i),eA fE (i:Int) 5,eA fE (i:Int) 5,eT f.nm,eB true,eB true,.bd (nV k),.bd (nV b),eB false,eB false,dU,dU,dU,dU,dU,dU,dU,dU,dU,dU,dU,eB false,eB false,eS (some fE) (ae fs) fc,.bd (nV b),eA fE (b:Int) 5,eP ((aN fE (b:Int) 5).add 1),eB false,eB false,dU,dU,dU,dU,dU,dU,eB false,eB false,eB false]) fr (ox (uz (ve (la (s3 (uz (EH (la (ox (fQ lz dP dP (dI fE (ae fs) 5 (k:Int)) dP (dL (aN fE (k:Int) 5) _ λw_ hK=>(bS ((eM.aw hK).ro hl) rfl (i:=k) (cs:=q.cells) (gm hq) 0 _ rfl)) dP dP (dI fE (ae fs) 5 (i:Int)) dP (dL (aN fE (i:Int) 5) _ λw_ hK=>(bS ((eM.aw hK).ro hl) rfl (i:=i) (cs:=f.cells) (gm hf) 0 _ rfl)) (Np Ju) dP) dP dP (dC (decide ((k:Int)<(b:Int))) Mi)) dP))) dK dP dP dP dP (dI fE (ae fs) 5 (b:Int)) dP (dL ((aN fE (b:Int) 5).add 1) _ λw_ hK=>(Fg▸bS ((eM.aw hK).ro hl) rfl (i:=b) (cs:=x.cells) (gm hx) 1 _ rfl))) dP))) dP dP dP) ?_;intro aC w31 vs hK hv fr;revert aC;refine cT [(0,vS (some fE) (ae fs) fc),(3,(vS Aj (ae (cy (fs.map λf:eY=>(f.nm,f.wk)) fs i)) cj)),(4,nV i),(5,nV b),(6,nV k),(63,vB false)] ?_;have sZ:=eM.aw hK;clear hK hv fr aC eM;clear vs;exact jG<|cE<|dR<|an 1<|eX ((k:Int)+1)<|an 1<|aE λaC fr=>⟨ae fs-(k+1),oM,k+1,b,rfl,fr.kp [0,3,4,5,6],sZ,oM,oM,yU.keep (yU.AW VD VE T9 (λh_=>RJ Hr Fg (by simp;try omega) h_.2))⟩
 have c26:(k:Int)<(b:Int):=cf Mi.symm;refine eW [0,3,4,5,6] ?_;intro aC fr;refine qo (bE [eS (some fE) (ae fs) fc,.bd (nV k),eA fE (k:Int) 5,eA fE (k:Int) 5,eT q.nm,eS (some fE) (ae fs) fc,.bd (nV i),eA fE (i:Int) 5,eA fE (i:Int) 5,eT f.nm,eB true,eB true,.bd (nV k),.bd (nV b),eB true,eB true,eS (some fE) (ae fs) fc,.bd (nV k),eA fE (k:Int) 5,eP ((aN fE (k:Int) 5).add 1),eB false,eS (some fE) (ae fs) fc,.bd (nV b),eA fE (b:Int) 5,eP ((aN fE (b:Int) 5).add 1),eB false,eB true,eB true,eB true,dU,dU,dU,dU,dU,dU,dU,dU,dU,dU,dU,dU,dU,eB true,eB true]) fr (ox (ve (EH (xu (fQ (fQ lz dP dP (dI fE (ae fs) 5 (k:Int)) dP (dL (aN fE (k:Int) 5) _ λw_ hK=>(bS ((eM.aw hK).ro hl) rfl (i:=k) (cs:=q.cells) (gm hq) 0 _ rfl)) dP dP (dI fE (ae fs) 5 (i:Int)) dP (dL (aN fE (i:Int) 5) _ λw_ hK=>(bS ((eM.aw hK).ro hl) rfl (i:=i) (cs:=f.cells) (gm hf) 0 _ rfl)) (Np Ju) dP) dP dP (dC (decide ((k:Int)<(b:Int))) Mi) dP dP dP (dI fE (ae fs) 5 (k:Int)) dP (dL ((aN fE (k:Int) 5).add 1) _ λw_ hK=>(Hr▸bS ((eM.aw hK).ro hl) rfl (i:=k) (cs:=q.cells) (gm hq) 1 _ rfl)) dP dP (dI fE (ae fs) 5 (b:Int))) dP (dL ((aN fE (b:Int) 5).add 1) _ λw_ hK=>(Fg▸bS ((eM.aw hK).ro hl) rfl (i:=b) (cs:=x.cells) (gm hx) 1 _ rfl)) (Np (rfl:true=(false==false))) dP dP))) dK dP dP) ?_;intro aC w39 vs hK hv fr;revert aC;refine cT [(0,vS (some fE) (ae fs) fc),(3,(vS Aj (ae (cy (fs.map λf:eY=>(f.nm,f.wk)) fs i)) cj)),(4,nV i),(5,nV b),(6,nV k),(63,vB true)] ?_;have vH:=eM.aw hK;clear hK hv fr aC eM;clear vs;exact jc<|zt<|dR<|an 1<|eX ((k:Int)+1)<|an 1<|aE λaC fr=>⟨ae fs-(k+1),oM,k+1,k,rfl,fr.kp [0,3,4,5,6],vH,oM,oM,yU.take (yU.cond VD VE T9 ⟨vd.1 Fc,by first|exact .inl ⟨oM,Hr.trans Fg.symm⟩|exact .inr ⟨Fg,Hr⟩⟩)⟩
 obtain⟨fq,rfl⟩:=cU (eM.ro hl) (cs:=q.cells) (i:=k) (gm hq);obtain⟨B44,Zi⟩:∃B:Bool,B=((q.nm:bo).toList==(f.nm:bo).toList):=⟨_,rfl⟩;cases B44;have Xu:¬(q.nm).toList=(f.nm).toList:=λe_=>Bool.noConfusion ((az.2 e_).symm.trans (Zi.symm))
 refine eW [0,3,4,5,6] ?_;intro aC fr;refine qo (bE [eS (some fq) (ae fs) fc,.bd (nV k),eA fq (k:Int) 5,eA fq (k:Int) 5,eT q.nm,eS (some fq) (ae fs) fc,.bd (nV i),eA fq (i:Int) 5,eA fq (i:Int) 5,eT f.nm,eB false,eB false,dU,dU,dU,dU,dU,dU,dU,dU,dU,dU,dU,dU,dU,dU,dU,dU,dU,dU,dU,dU,dU,dU,dU,dU,dU,dU,dU,dU,dU,dU,dU,eB false]) fr (vG (uz (ve (EH (QdQ (fQ lz dP dP (dI fq (ae fs) 5 (k:Int)) dP (dL (aN fq (k:Int) 5) _ λw_ hK=>(bS ((eM.aw hK).ro hl) rfl (i:=k) (cs:=q.cells) (gm hq) 0 _ rfl)) dP dP (dI fq (ae fs) 5 (i:Int)) dP (dL (aN fq (i:Int) 5) _ λw_ hK=>(bS ((eM.aw hK).ro hl) rfl (i:=i) (cs:=f.cells) (gm hf) 0 _ rfl)) (Np Zi) dP))))) dK dP) ?_;intro aC w49 vs hK hv fr;revert aC;refine cT [(0,vS (some fq) (ae fs) fc),(3,(vS Aj (ae (cy (fs.map λf:eY=>(f.nm,f.wk)) fs i)) cj)),(4,nV i),(5,nV b),(6,nV k),(63,vB false)] ?_;have CG:=eM.aw hK;clear hK hv fr aC eM;clear vs;exact jG<|cE<|dR<|an 1<|eX ((k:Int)+1)<|an 1<|aE λaC fr=>⟨ae fs-(k+1),oM,k+1,b,rfl,fr.kp [0,3,4,5,6],CG,oM,oM,yU.keep (yU.AW VD VE T9 (λh_=>Xu (aK ByteArray.toList h_.1)))⟩
 have Xu:(q.nm).toList=(f.nm).toList:=az.1 (Zi.symm);obtain⟨B53,QdR⟩:∃B:Bool,B=decide ((k:Int)<(b:Int)):=⟨_,rfl⟩;cases B53;have mF:¬((k:Int)<(b:Int)):=cD QdR.symm;refine eW [0,3,4,5,6] ?_;intro aC fr;refine qo (bE [eS (some fq) (ae fs) fc,.bd (nV k),eA fq (k:Int) 5,eA fq (k:Int) 5,eT q.nm,eS (some fq) (ae fs) fc,.bd (nV i),eA fq (i:Int) 5,eA fq (i:Int) 5,eT f.nm,eB true,eB true,.bd (nV k),.bd (nV b),eB false,eB false,dU,dU,dU,dU,dU,dU,dU,dU,dU,dU,dU,eB false,eB false,eS (some fq) (ae fs) fc,.bd (nV b),eA fq (b:Int) 5,eP ((aN fq (b:Int) 5).add 1),eB false,eB false,dU,dU,dU,dU,dU,dU,eB false,eB false,eB false]) fr (ox (uz (ve (la (s3 (uz (EH (la (ox (fQ lz dP dP (dI fq (ae fs) 5 (k:Int)) dP (dL (aN fq (k:Int) 5) _ λw_ hK=>(bS ((eM.aw hK).ro hl) rfl (i:=k) (cs:=q.cells) (gm hq) 0 _ rfl)) dP dP (dI fq (ae fs) 5 (i:Int)) dP (dL (aN fq (i:Int) 5) _ λw_ hK=>(bS ((eM.aw hK).ro hl) rfl (i:=i) (cs:=f.cells) (gm hf) 0 _ rfl)) (Np Zi) dP) dP dP (dC (decide ((k:Int)<(b:Int))) QdR)) dP))) dK dP dP dP dP (dI fq (ae fs) 5 (b:Int)) dP (dL ((aN fq (b:Int) 5).add 1) _ λw_ hK=>(Fg▸bS ((eM.aw hK).ro hl) rfl (i:=b) (cs:=x.cells) (gm hx) 1 _ rfl))) dP))) dP dP dP) ?_;intro aC w58 vs hK hv fr;revert aC;refine cT [(0,vS (some fq) (ae fs) fc),(3,(vS Aj (ae (cy (fs.map λf:eY=>(f.nm,f.wk)) fs i)) cj)),(4,nV i),(5,nV b),(6,nV k),(63,vB false)] ?_;have Zj:=eM.aw hK;clear hK hv fr aC eM;clear vs;exact jG<|cE<|dR<|an 1<|eX ((k:Int)+1)<|an 1<|aE λaC fr=>⟨ae fs-(k+1),oM,k+1,b,rfl,fr.kp [0,3,4,5,6],Zj,oM,oM,yU.keep (yU.AW VD VE T9 (λh_=>RJ Hr Fg (by simp;try omega) h_.2))⟩
 have mF:(k:Int)<(b:Int):=cf QdR.symm;refine eW [0,3,4,5,6] ?_;intro aC fr;refine qo (bE [eS (some fq) (ae fs) fc,.bd (nV k),eA fq (k:Int) 5,eA fq (k:Int) 5,eT q.nm,eS (some fq) (ae fs) fc,.bd (nV i),eA fq (i:Int) 5,eA fq (i:Int) 5,eT f.nm,eB true,eB true,.bd (nV k),.bd (nV b),eB true,eB true,eS (some fq) (ae fs) fc,.bd (nV k),eA fq (k:Int) 5,eP ((aN fq (k:Int) 5).add 1),eB true,eS (some fq) (ae fs) fc,.bd (nV b),eA fq (b:Int) 5,eP ((aN fq (b:Int) 5).add 1),eB false,eB false,eB false,eB false,eS (some fq) (ae fs) fc,.bd (nV b),eA fq (b:Int) 5,eP ((aN fq (b:Int) 5).add 1),eB false,eB false,dU,dU,dU,dU,dU,dU,eB false,eB false,eB false]) fr (ox (uz (ve (ox (s3 (fQ (fQ lz dP dP (dI fq (ae fs) 5 (k:Int)) dP (dL (aN fq (k:Int) 5) _ λw_ hK=>(bS ((eM.aw hK).ro hl) rfl (i:=k) (cs:=q.cells) (gm hq) 0 _ rfl)) dP dP (dI fq (ae fs) 5 (i:Int)) dP (dL (aN fq (i:Int) 5) _ λw_ hK=>(bS ((eM.aw hK).ro hl) rfl (i:=i) (cs:=f.cells) (gm hf) 0 _ rfl)) (Np Zi) dP) dP dP (dC (decide ((k:Int)<(b:Int))) QdR) dP dP dP (dI fq (ae fs) 5 (k:Int)) dP (dL ((aN fq (k:Int) 5).add 1) _ λw_ hK=>(Hr▸bS ((eM.aw hK).ro hl) rfl (i:=k) (cs:=q.cells) (gm hq) 1 _ rfl)) dP dP (dI fq (ae fs) 5 (b:Int))) dP (dL ((aN fq (b:Int) 5).add 1) _ λw_ hK=>(Fg▸bS ((eM.aw hK).ro hl) rfl (i:=b) (cs:=x.cells) (gm hx) 1 _ rfl)) (Np (rfl:false=(true==false))) dP dP dP dP (dI fq (ae fs) 5 (b:Int))) dP (dL ((aN fq (b:Int) 5).add 1) _ λw_ hK=>(Fg▸bS ((eM.aw hK).ro hl) rfl (i:=b) (cs:=x.cells) (gm hx) 1 _ rfl)) dP))) dP dP dP) ?_;intro aC w66 vs hK hv fr;revert aC;refine cT [(0,vS (some fq) (ae fs) fc),(3,(vS Aj (ae (cy (fs.map λf:eY=>(f.nm,f.wk)) fs i)) cj)),(4,nV i),(5,nV b),(6,nV k),(63,vB false)] ?_;have zy:=eM.aw hK;clear hK hv fr aC eM;clear vs;exact jG<|cE<|dR<|an 1<|eX ((k:Int)+1)<|an 1<|aE λaC fr=>⟨ae fs-(k+1),oM,k+1,b,rfl,fr.kp [0,3,4,5,6],zy,oM,oM,yU.keep (yU.AW VD VE T9 (λh_=>RJ Hr Fg (by simp;try omega) h_.2))⟩
 cases Hr:q.wk;obtain⟨fT,rfl⟩:=cU (eM.ro hl) (cs:=q.cells) (i:=k) (gm hq);obtain⟨Uc,Jv⟩:∃B:Bool,B=((q.nm:bo).toList==(f.nm:bo).toList):=⟨_,rfl⟩;cases Uc;have Vt:¬(q.nm).toList=(f.nm).toList:=λe_=>Bool.noConfusion ((az.2 e_).symm.trans (Jv.symm))
 refine eW [0,3,4,5,6] ?_;intro aC fr;refine qo (bE [eS (some fT) (ae fs) fc,.bd (nV k),eA fT (k:Int) 5,eA fT (k:Int) 5,eT q.nm,eS (some fT) (ae fs) fc,.bd (nV i),eA fT (i:Int) 5,eA fT (i:Int) 5,eT f.nm,eB false,eB false,dU,dU,dU,dU,dU,dU,dU,dU,dU,dU,dU,dU,dU,dU,dU,dU,dU,dU,dU,dU,dU,dU,dU,dU,dU,dU,dU,dU,dU,dU,dU,eB false]) fr (vG (uz (ve (EH (QdQ (fQ lz dP dP (dI fT (ae fs) 5 (k:Int)) dP (dL (aN fT (k:Int) 5) _ λw_ hK=>(bS ((eM.aw hK).ro hl) rfl (i:=k) (cs:=q.cells) (gm hq) 0 _ rfl)) dP dP (dI fT (ae fs) 5 (i:Int)) dP (dL (aN fT (i:Int) 5) _ λw_ hK=>(bS ((eM.aw hK).ro hl) rfl (i:=i) (cs:=f.cells) (gm hf) 0 _ rfl)) (Np Jv) dP))))) dK dP) ?_;intro aC w76 vs hK hv fr;revert aC;refine cT [(0,vS (some fT) (ae fs) fc),(3,(vS Aj (ae (cy (fs.map λf:eY=>(f.nm,f.wk)) fs i)) cj)),(4,nV i),(5,nV b),(6,nV k),(63,vB false)] ?_;have Ud:=eM.aw hK;clear hK hv fr aC eM;clear vs;exact jG<|cE<|dR<|an 1<|eX ((k:Int)+1)<|an 1<|aE λaC fr=>⟨ae fs-(k+1),oM,k+1,b,rfl,fr.kp [0,3,4,5,6],Ud,oM,oM,yU.keep (yU.AW VD VE T9 (λh_=>Vt (aK ByteArray.toList h_.1)))⟩
 have Vt:(q.nm).toList=(f.nm).toList:=az.1 (Jv.symm);obtain⟨VF,Mj⟩:∃B:Bool,B=decide ((k:Int)<(b:Int)):=⟨_,rfl⟩;cases VF;have c80:¬((k:Int)<(b:Int)):=cD Mj.symm;refine eW [0,3,4,5,6] ?_;intro aC fr;refine qo (bE [eS (some fT) (ae fs) fc,.bd (nV k),eA fT (k:Int) 5,eA fT (k:Int) 5,eT q.nm,eS (some fT) (ae fs) fc,.bd (nV i),eA fT (i:Int) 5,eA fT (i:Int) 5,eT f.nm,eB true,eB true,.bd (nV k),.bd (nV b),eB false,eB false,dU,dU,dU,dU,dU,dU,dU,dU,dU,dU,dU,eB false,eB false,eS (some fT) (ae fs) fc,.bd (nV b),eA fT (b:Int) 5,eP ((aN fT (b:Int) 5).add 1),eB true,eB true,eS (some fT) (ae fs) fc,.bd (nV k),eA fT (k:Int) 5,eP ((aN fT (k:Int) 5).add 1),eB false,eB true,eB true,eB true,eB true]) fr (la (xu (fQ (uz (EH (la (ox (fQ lz dP dP (dI fT (ae fs) 5 (k:Int)) dP (dL (aN fT (k:Int) 5) _ λw_ hK=>(bS ((eM.aw hK).ro hl) rfl (i:=k) (cs:=q.cells) (gm hq) 0 _ rfl)) dP dP (dI fT (ae fs) 5 (i:Int)) dP (dL (aN fT (i:Int) 5) _ λw_ hK=>(bS ((eM.aw hK).ro hl) rfl (i:=i) (cs:=f.cells) (gm hf) 0 _ rfl)) (Np Jv) dP) dP dP (dC (decide ((k:Int)<(b:Int))) Mj)) dP))) dK dP dP dP dP (dI fT (ae fs) 5 (b:Int)) dP (dL ((aN fT (b:Int) 5).add 1) _ λw_ hK=>(Fg▸bS ((eM.aw hK).ro hl) rfl (i:=b) (cs:=x.cells) (gm hx) 1 _ rfl)) dP dP dP (dI fT (ae fs) 5 (k:Int))) dP (dL ((aN fT (k:Int) 5).add 1) _ λw_ hK=>(Hr▸bS ((eM.aw hK).ro hl) rfl (i:=k) (cs:=q.cells) (gm hq) 1 _ rfl)) dP dP dP) dP) ?_;intro aC w85 vs hK hv fr;revert aC;refine cT [(0,vS (some fT) (ae fs) fc),(3,(vS Aj (ae (cy (fs.map λf:eY=>(f.nm,f.wk)) fs i)) cj)),(4,nV i),(5,nV b),(6,nV k),(63,vB true)] ?_;have rM:=eM.aw hK;clear hK hv fr aC eM;clear vs;exact jc<|zt<|dR<|an 1<|eX ((k:Int)+1)<|an 1<|aE λaC fr=>⟨ae fs-(k+1),oM,k+1,k,rfl,fr.kp [0,3,4,5,6],rM,oM,oM,yU.take (yU.cond VD VE T9 ⟨vd.1 Vt,by first|exact .inl ⟨oM,Hr.trans Fg.symm⟩|exact .inr ⟨Fg,Hr⟩⟩)⟩
 have c80:(k:Int)<(b:Int):=cf Mj.symm;refine eW [0,3,4,5,6] ?_;intro aC fr;refine qo (bE [eS (some fT) (ae fs) fc,.bd (nV k),eA fT (k:Int) 5,eA fT (k:Int) 5,eT q.nm,eS (some fT) (ae fs) fc,.bd (nV i),eA fT (i:Int) 5,eA fT (i:Int) 5,eT f.nm,eB true,eB true,.bd (nV k),.bd (nV b),eB true,eB true,eS (some fT) (ae fs) fc,.bd (nV k),eA fT (k:Int) 5,eP ((aN fT (k:Int) 5).add 1),eB false,eS (some fT) (ae fs) fc,.bd (nV b),eA fT (b:Int) 5,eP ((aN fT (b:Int) 5).add 1),eB true,eB false,eB false,eB false,eS (some fT) (ae fs) fc,.bd (nV b),eA fT (b:Int) 5,eP ((aN fT (b:Int) 5).add 1),eB true,eB true,eS (some fT) (ae fs) fc,.bd (nV k),eA fT (k:Int) 5,eP ((aN fT (k:Int) 5).add 1),eB false,eB true,eB true,eB true,eB true]) fr (s3 (fQ (fQ (fQ lz dP dP (dI fT (ae fs) 5 (k:Int)) dP (dL (aN fT (k:Int) 5) _ λw_ hK=>(bS ((eM.aw hK).ro hl) rfl (i:=k) (cs:=q.cells) (gm hq) 0 _ rfl)) dP dP (dI fT (ae fs) 5 (i:Int)) dP (dL (aN fT (i:Int) 5) _ λw_ hK=>(bS ((eM.aw hK).ro hl) rfl (i:=i) (cs:=f.cells) (gm hf) 0 _ rfl)) (Np Jv) dP) dP dP (dC (decide ((k:Int)<(b:Int))) Mj) dP dP dP (dI fT (ae fs) 5 (k:Int)) dP (dL ((aN fT (k:Int) 5).add 1) _ λw_ hK=>(Hr▸bS ((eM.aw hK).ro hl) rfl (i:=k) (cs:=q.cells) (gm hq) 1 _ rfl)) dP dP (dI fT (ae fs) 5 (b:Int))) dP (dL ((aN fT (b:Int) 5).add 1) _ λw_ hK=>(Fg▸bS ((eM.aw hK).ro hl) rfl (i:=b) (cs:=x.cells) (gm hx) 1 _ rfl)) (Np (rfl:false=(false==true))) dP dP dP dP (dI fT (ae fs) 5 (b:Int)) dP (dL ((aN fT (b:Int) 5).add 1) _ λw_ hK=>(Fg▸bS ((eM.aw hK).ro hl) rfl (i:=b) (cs:=x.cells) (gm hx) 1 _ rfl)) dP dP) dP (dI fT (ae fs) 5 (k:Int)) dP (dL ((aN fT (k:Int) 5).add 1) _ λw_ hK=>(Hr▸bS ((eM.aw hK).ro hl) rfl (i:=k) (cs:=q.cells) (gm hq) 1 _ rfl)) dP dP dP dP) ?_;intro aC w93 vs hK hv fr;revert aC;refine cT [(0,vS (some fT) (ae fs) fc),(3,(vS Aj (ae (cy (fs.map λf:eY=>(f.nm,f.wk)) fs i)) cj)),(4,nV i),(5,nV b),(6,nV k),(63,vB true)] ?_;have OO:=eM.aw hK;clear hK hv fr aC eM;clear vs;exact jc<|zt<|dR<|an 1<|eX ((k:Int)+1)<|an 1<|aE λaC fr=>⟨ae fs-(k+1),oM,k+1,k,rfl,fr.kp [0,3,4,5,6],OO,oM,oM,yU.take (yU.cond VD VE T9 ⟨vd.1 Vt,by first|exact .inl ⟨oM,Hr.trans Fg.symm⟩|exact .inr ⟨Fg,Hr⟩⟩)⟩
 obtain⟨gx,rfl⟩:=cU (eM.ro hl) (cs:=q.cells) (i:=k) (gm hq);obtain⟨B98,Zk⟩:∃B:Bool,B=((q.nm:bo).toList==(f.nm:bo).toList):=⟨_,rfl⟩;cases B98;have c98:¬(q.nm).toList=(f.nm).toList:=λe_=>Bool.noConfusion ((az.2 e_).symm.trans (Zk.symm))
 refine eW [0,3,4,5,6] ?_;intro aC fr;refine qo (bE [eS (some gx) (ae fs) fc,.bd (nV k),eA gx (k:Int) 5,eA gx (k:Int) 5,eT q.nm,eS (some gx) (ae fs) fc,.bd (nV i),eA gx (i:Int) 5,eA gx (i:Int) 5,eT f.nm,eB false,eB false,dU,dU,dU,dU,dU,dU,dU,dU,dU,dU,dU,dU,dU,dU,dU,dU,dU,dU,dU,dU,dU,dU,dU,dU,dU,dU,dU,dU,dU,dU,dU,eB false]) fr (vG (uz (ve (EH (QdQ (fQ lz dP dP (dI gx (ae fs) 5 (k:Int)) dP (dL (aN gx (k:Int) 5) _ λw_ hK=>(bS ((eM.aw hK).ro hl) rfl (i:=k) (cs:=q.cells) (gm hq) 0 _ rfl)) dP dP (dI gx (ae fs) 5 (i:Int)) dP (dL (aN gx (i:Int) 5) _ λw_ hK=>(bS ((eM.aw hK).ro hl) rfl (i:=i) (cs:=f.cells) (gm hf) 0 _ rfl)) (Np Zk) dP))))) dK dP) ?_;intro aC QhV vs hK hv fr;revert aC;refine cT [(0,vS (some gx) (ae fs) fc),(3,(vS Aj (ae (cy (fs.map λf:eY=>(f.nm,f.wk)) fs i)) cj)),(4,nV i),(5,nV b),(6,nV k),(63,vB false)] ?_;have EI:=eM.aw hK;clear hK hv fr aC eM;clear vs;exact jG<|cE<|dR<|an 1<|eX ((k:Int)+1)<|an 1<|aE λaC fr=>⟨ae fs-(k+1),oM,k+1,b,rfl,fr.kp [0,3,4,5,6],EI,oM,oM,yU.keep (yU.AW VD VE T9 (λh_=>c98 (aK ByteArray.toList h_.1)))⟩
 have c98:(q.nm).toList=(f.nm).toList:=az.1 (Zk.symm);obtain⟨QdS,AZ⟩:∃B:Bool,B=decide ((k:Int)<(b:Int)):=⟨_,rfl⟩;cases QdS;have BK:¬((k:Int)<(b:Int)):=cD AZ.symm;refine eW [0,3,4,5,6] ?_;intro aC fr;refine qo (bE [eS (some gx) (ae fs) fc,.bd (nV k),eA gx (k:Int) 5,eA gx (k:Int) 5,eT q.nm,eS (some gx) (ae fs) fc,.bd (nV i),eA gx (i:Int) 5,eA gx (i:Int) 5,eT f.nm,eB true,eB true,.bd (nV k),.bd (nV b),eB false,eB false,dU,dU,dU,dU,dU,dU,dU,dU,dU,dU,dU,eB false,eB false,eS (some gx) (ae fs) fc,.bd (nV b),eA gx (b:Int) 5,eP ((aN gx (b:Int) 5).add 1),eB true,eB true,eS (some gx) (ae fs) fc,.bd (nV k),eA gx (k:Int) 5,eP ((aN gx (k:Int) 5).add 1),eB true,eB false,eB false,eB false,eB false]) fr (la (xu (fQ (uz (EH (la (ox (fQ lz dP dP (dI gx (ae fs) 5 (k:Int)) dP (dL (aN gx (k:Int) 5) _ λw_ hK=>(bS ((eM.aw hK).ro hl) rfl (i:=k) (cs:=q.cells) (gm hq) 0 _ rfl)) dP dP (dI gx (ae fs) 5 (i:Int)) dP (dL (aN gx (i:Int) 5) _ λw_ hK=>(bS ((eM.aw hK).ro hl) rfl (i:=i) (cs:=f.cells) (gm hf) 0 _ rfl)) (Np Zk) dP) dP dP (dC (decide ((k:Int)<(b:Int))) AZ)) dP))) dK dP dP dP dP (dI gx (ae fs) 5 (b:Int)) dP (dL ((aN gx (b:Int) 5).add 1) _ λw_ hK=>(Fg▸bS ((eM.aw hK).ro hl) rfl (i:=b) (cs:=x.cells) (gm hx) 1 _ rfl)) dP dP dP (dI gx (ae fs) 5 (k:Int))) dP (dL ((aN gx (k:Int) 5).add 1) _ λw_ hK=>(Hr▸bS ((eM.aw hK).ro hl) rfl (i:=k) (cs:=q.cells) (gm hq) 1 _ rfl)) dP dP dP) dP) ?_;intro aC Ue vs hK hv fr;revert aC;refine cT [(0,vS (some gx) (ae fs) fc),(3,(vS Aj (ae (cy (fs.map λf:eY=>(f.nm,f.wk)) fs i)) cj)),(4,nV i),(5,nV b),(6,nV k),(63,vB false)] ?_;have oO:=eM.aw hK;clear hK hv fr aC eM;clear vs;exact jG<|cE<|dR<|an 1<|eX ((k:Int)+1)<|an 1<|aE λaC fr=>⟨ae fs-(k+1),oM,k+1,b,rfl,fr.kp [0,3,4,5,6],oO,oM,oM,yU.keep (yU.AW VD VE T9 (λh_=>RJ Hr Fg (by simp;try omega) h_.2))⟩
 have BK:(k:Int)<(b:Int):=cf AZ.symm;refine eW [0,3,4,5,6] ?_;intro aC fr;refine qo (bE [eS (some gx) (ae fs) fc,.bd (nV k),eA gx (k:Int) 5,eA gx (k:Int) 5,eT q.nm,eS (some gx) (ae fs) fc,.bd (nV i),eA gx (i:Int) 5,eA gx (i:Int) 5,eT f.nm,eB true,eB true,.bd (nV k),.bd (nV b),eB true,eB true,eS (some gx) (ae fs) fc,.bd (nV k),eA gx (k:Int) 5,eP ((aN gx (k:Int) 5).add 1),eB true,eS (some gx) (ae fs) fc,.bd (nV b),eA gx (b:Int) 5,eP ((aN gx (b:Int) 5).add 1),eB true,eB true,eB true,eB true,dU,dU,dU,dU,dU,dU,dU,dU,dU,dU,dU,dU,dU,eB true,eB true]) fr (ox (ve (EH (xu (fQ (fQ lz dP dP (dI gx (ae fs) 5 (k:Int)) dP (dL (aN gx (k:Int) 5) _ λw_ hK=>(bS ((eM.aw hK).ro hl) rfl (i:=k) (cs:=q.cells) (gm hq) 0 _ rfl)) dP dP (dI gx (ae fs) 5 (i:Int)) dP (dL (aN gx (i:Int) 5) _ λw_ hK=>(bS ((eM.aw hK).ro hl) rfl (i:=i) (cs:=f.cells) (gm hf) 0 _ rfl)) (Np Zk) dP) dP dP (dC (decide ((k:Int)<(b:Int))) AZ) dP dP dP (dI gx (ae fs) 5 (k:Int)) dP (dL ((aN gx (k:Int) 5).add 1) _ λw_ hK=>(Hr▸bS ((eM.aw hK).ro hl) rfl (i:=k) (cs:=q.cells) (gm hq) 1 _ rfl)) dP dP (dI gx (ae fs) 5 (b:Int))) dP (dL ((aN gx (b:Int) 5).add 1) _ λw_ hK=>(Fg▸bS ((eM.aw hK).ro hl) rfl (i:=b) (cs:=x.cells) (gm hx) 1 _ rfl)) (Np (rfl:true=(true==true))) dP dP))) dK dP dP) ?_;intro aC QnD vs hK hv fr;revert aC;refine cT [(0,vS (some gx) (ae fs) fc),(3,(vS Aj (ae (cy (fs.map λf:eY=>(f.nm,f.wk)) fs i)) cj)),(4,nV i),(5,nV b),(6,nV k),(63,vB true)] ?_;have Jw:=eM.aw hK;clear hK hv fr aC eM;clear vs;exact jc<|zt<|dR<|an 1<|eX ((k:Int)+1)<|an 1<|aE λaC fr=>⟨ae fs-(k+1),oM,k+1,k,rfl,fr.kp [0,3,4,5,6],Jw,oM,oM,yU.take (yU.cond VD VE T9 ⟨vd.1 c98,by first|exact .inl ⟨oM,Hr.trans Fg.symm⟩|exact .inr ⟨Fg,Hr⟩⟩)⟩
 refine gZ 2<|ia<|br<|o3 (b:Int) (i:Int) (λJx=> ?_) (λJx=> ?_);have Af:=lD (nw:=(fs.map λf:eY=>(f.nm,f.wk))) (l:=fs) (i:=i);have hbe:=(show k=ae ((fs.map λf:eY=>(f.nm,f.wk)))by rw[bl];omega)▸yU;have hch:=I6 hf (hbe.done.1 oM);refine dR<|an 3 ?_;obtain⟨Qft,rfl⟩:=cU (eM.ro hl) (cs:=f.cells) (i:=i) (gm hf);refine ga Qft (ae fs) 5 (i:Int)<|k8 (aN Qft (i:Int) 5) [vT f.nm,vB f.wk,vI f.pa,vI f.va,vS f.A (ae (au f.bF)) f.c] (mj (i:=i) (eM.ro hl) rfl (gm hf)) ?_;intro aC fr;refine qp 73 22 1 #[(0,.tmp 72)] 22 fr (e:=30) (size:=5) (zs:=[vT ⟨#[]⟩,vB false,vI 0,vI 0,ay]) (vs:=[(0,(.agg #[vT f.nm,vB f.wk,vI f.pa,vI f.va,vS f.A (ae (au f.bF)) f.c]))]) (cs:=[vT f.nm,vB f.wk,vI f.pa,vI f.va,vS f.A (ae (au f.bF)) f.c]) eM ?_;intro QnE QnF Qp5 _ FG _ aC ea fr;clear ea;replace FG:=FG.nf;refine zAN 74 (.tmp 68) (.tmp 73) 22 22 fr (e:=30) (size:=5) (bytes:=64) (z:=(.agg #[vT ⟨#[]⟩,vB false,vI 0,vI 0,ay])) (A:=Aj) (B:=(sM QnE)) (n:=(ae (cy (fs.map λf:eY=>(f.nm,f.wk)) fs i))) (cap:=cj) (m:=1) (cap':=1) (xs:=((cy (fs.map λf:eY=>(f.nm,f.wk)) fs i).flatMap eY.cells)) (news:=[vT f.nm,vB f.wk,vI f.pa,vI f.va,vS f.A (ae (au f.bF)) f.c]) FG 0 rfl (aF (FG.get 1 rfl)) rfl (by simp[Value.oneCell']) oM (by simp only[maxLen];omega) (ae (cy (fs.map λf:eY=>(f.nm,f.wk)) fs (i+1))) ((cy (fs.map λf:eY=>(f.nm,f.wk)) fs (i+1)).flatMap eY.cells) (by rw[hch,dG];rfl) (by rw[hch,qf];rfl) ?_;intro QnG QnH w135 Pt _ aC ea fr;clear ea;replace Pt:=Pt.nf;have EJ:=Pt.od [] 1;revert aC;exact an 1<|aE<|dR<|an 1<|eX ((i:Int)+1)<|an 1<|aE λaC fr=>⟨ae fs-(i+1),oM,i+1,QnG,QnH,rfl,fr.kp [0,3,4],EJ,oM⟩
 have Af:=lD (nw:=(fs.map λf:eY=>(f.nm,f.wk))) (l:=fs) (i:=i);have hbe:=(show k=ae ((fs.map λf:eY=>(f.nm,f.wk)))by rw[bl];omega)▸yU;have hch:=Lt (l:=fs) (dj.2 (λh=>Jx (by have:=hbe.done.2 h;omega)));refine cE<|dR<|an 1<|eX ((i:Int)+1)<|an 1<|aE ?_;have Pu:=cC [.row 30 5 Aj (ae (cy (fs.map λf:eY=>(f.nm,f.wk)) fs (i+1))) cj ((cy (fs.map λf:eY=>(f.nm,f.wk)) fs (i+1)).flatMap eY.cells)] (eM.cast (by rw[hch]));intro aC fr;exact⟨ae fs-(i+1),oM,i+1,Aj,cj,rfl,(by rw[hch];exact fr.kp [0,3,4]),Pu,oM⟩;refine gZ 0<|ia<|br<|cv<|dq (vS Aj (ae (cy (fs.map λf:eY=>(f.nm,f.wk)) fs i)) cj) ?_;obtain rfl:i=ae fs:=oM;exact⟨Aj,cj,rfl,M5⟩
theorem UQ(ms:List gP)(mA:ar)(mc:Nat)(w:World)(hms:RO bI w (.Qdl mA ms))(C7:ae ms<=1000)(hnf:ae (ms.flatMap (λm:gP=>m.gE))<=1000)(J8:∀m,m∈ms->ae m.gE=0):Calls Tryz.prog 88 #[vS mA (ae ms) mc] w (gp λv w'=>∃A c,v=vS A (ae (csD ms)) c/\Mem bI w w' [.row 42 4 A (ae (csD ms)) c ((csD ms).flatMap cR.cells)]):=by
 refine iI 58 [vS mA (ae ms) mc] Tryz.func88 ?_;have hM:=Mem.init w;refine br<|br<|bt<|br<|df 0 ?_;have M1:=hM.cl (Mem.fi _ 42 4);clear hM;intro aC fr;refine iJ (λn_ a_ w_=>∃(j:Nat) (Aj:ar) (cj:Nat),n_=ae ms-j/\Fr a_ 58 [(0,vS mA (ae ms) mc),(3,(vS Aj (ae (cy (nwG (λm:gP=>m.gE) (λf:cR=>(f.nm,f.wk)) ms) (ms.flatMap (λm:gP=>m.gE)) (vq (λm:gP=>m.gE) ms j))) cj)),(4,nV j)]/\Mem bI w w_ [.row 42 4 Aj (ae (cy (nwG (λm:gP=>m.gE) (λf:cR=>(f.nm,f.wk)) ms) (ms.flatMap (λm:gP=>m.gE)) (vq (λm:gP=>m.gE) ms j))) cj ((cy (nwG (λm:gP=>m.gE) (λf:cR=>(f.nm,f.wk)) ms) (ms.flatMap (λm:gP=>m.gE)) (vq (λm:gP=>m.gE) ms j)).flatMap cR.cells)]/\(j<=ae ms)) (n:=_) ⟨0,none,0,rfl,fr.kp [0,3,4],M1,cI _⟩ ?_;clear fr aC M1;rintro n aC w4 ⟨j,Aj,cj,rfl,fr,M5,hj⟩;revert aC;refine bt<|br<|iY ((j:Int)<(ae ms:Int)) (λc8=> ?_) (λc8=> ?_);refine cE<|bt<|df 1<|aV ?_;obtain⟨m,hm⟩:=aP (l:=ms) (i:=j) oM;have Wb:=aI hm;have hle:=Qhp (g:=(λm:gP=>m.gE)) hm;refine an 1<|aE<|df 2 ?_;intro aC fr;refine iJ (λn_ a_ w_=>∃(k:Nat) (Ak:ar) (ck:Nat),n_=ae m.gE-k/\Fr a_ 58 [(0,vS mA (ae ms) mc),(3,(vS Ak (ae (cy (nwG (λm:gP=>m.gE) (λf:cR=>(f.nm,f.wk)) ms) (ms.flatMap (λm:gP=>m.gE)) (vq (λm:gP=>m.gE) ms j+k))) ck)),(4,nV j),(5,nV k)]/\Mem bI w w_ [.row 42 4 Ak (ae (cy (nwG (λm:gP=>m.gE) (λf:cR=>(f.nm,f.wk)) ms) (ms.flatMap (λm:gP=>m.gE)) (vq (λm:gP=>m.gE) ms j+k))) ck ((cy (nwG (λm:gP=>m.gE) (λf:cR=>(f.nm,f.wk)) ms) (ms.flatMap (λm:gP=>m.gE)) (vq (λm:gP=>m.gE) ms j+k)).flatMap cR.cells)]/\(k<=ae m.gE)) (n:=_) ⟨0,Aj,cj,rfl,fr.kp [0,3,4,5],M5,cI _⟩ ?_;clear fr aC M5;rintro n aC Fw ⟨k,Ak,ck,rfl,fr,eM,hk⟩;revert aC;refine bt<|aV<|an 3 ?_;obtain⟨FH,rfl⟩:=cU (eM.ro hms.Yu) (cs:=m.cells) (i:=j) (gm hm);refine ga FH (ae ms) 3 (j:Int)<|an 1<|bH ((aN FH (j:Int) 3).add 2) _ (bS (eM.ro hms.Yu) rfl (i:=j) (cs:=m.cells) (gm hm) 2 _ rfl)<|an 2<|aE<|iY ((k:Int)<(ae m.gE:Int)) (λZf=> ?_) (λZf=> ?_);refine cE<|bt<|df 3<|aV ?_;have h0_:=J8 m Wb;omega;exact gZ 2<|ia<|dR<|an 1<|eX ((j:Int)+1)<|an 1<|aE λaC fr=>⟨ae ms-(j+1),oM,j+1,Ak,ck,rfl,(by rw[LY hm,<-show k=ae m.gE by omega];exact fr.kp [0,3,4]),(eM.cast (by rw[LY hm,show k=ae m.gE by omega])),oM⟩
 refine gZ 0<|ia<|br<|cv<|dq (vS Aj (ae (cy (nwG (λm:gP=>m.gE) (λf:cR=>(f.nm,f.wk)) ms) (ms.flatMap (λm:gP=>m.gE)) (vq (λm:gP=>m.gE) ms j))) cj) ?_;have he_:=Qdk (g:=(λm:gP=>m.gE)) (show ae ms<=j by omega);rw[he_]at M5⊢;exact⟨Aj,cj,rfl,M5⟩
set_option maxHeartbeats 4000000 in
theorem Qeo(ds:List cR)(dA:ar)(dc:Nat)(cs:List Eu)(nA:ar)(nc:Nat)(mem:Int)(inp:ah)(iA:ar)(ic:Nat)(fuel:Int)(w:World)(Hi:RO bI w (.qU dA 4 (ds.map cR.cells)))(hpw:∀d,d∈ds->RO bI w (.rd d.wA (ints d.words)))(Lo:∀d,d∈ds->RO bI w (.qU d.rA 2 (d.refs.map Ea)))(hn:RO bI w (.rd nA (cs.map λf=>Value.string f.nm)))(J8:ae ds=0)(hw:∀d,d∈ds->d.WF)(yO:ae ds<=1000)(hnc:ae cs<=1000)(hnx:cc ds (ae ds)<=1000000000)(Nq:1<=mem)(fI:mem<=262144):Calls Tryz.prog 87 #[vS dA (ae ds) dc,vS nA (ae cs) nc,vI mem,vS iA (ae inp) ic,vI fuel] w (gp λv w'=>∃pA pc,(mem.toNat<cc ds (ae ds)/\v= .agg #[vS dA (ae ds) dc,vS pA (ae ds) pc,ay,(vI (cc ds (ae ds):Int)),vS iA (ae inp) ic,vI 0,vI 3,vI 0,ay,vI 0,vB true,vI (max 0 (min fuel 4194304)),vI 0]/\Mem bI w w' [.row 3 1 pA (ae ds) pc (ints (th ds (ae ds)))])\/(cc ds (ae ds)<=mem.toNat/\∃mG,v= .agg #[vS dA (ae ds) dc,vS pA (ae ds) pc,vS (sM mG) mem.toNat mem.toNat,(vI (cc ds (ae ds):Int)),vS iA (ae inp) ic,vI 0,vI 0,vI 0,ay,vI 0,vB false,vI (max 0 (min fuel 4194304)),vI 0]/\Mem bI w w' [.row 3 1 pA (ae ds) pc (ints (th ds (ae ds))),.row 2 1 (sM mG) mem.toNat mem.toNat (ints (lyT (Hf cs (ae cs)) (gJ ds (ae ds)) mem.toNat ds))])):=by
 refine iI 163 [vS dA (ae ds) dc,vS nA (ae cs) nc,vI mem,vS iA (ae inp) ic,vI fuel] Tryz.func87 ?_;have hM:=Mem.init w;refine aV<|sV hM 135 [ay,ay,ay,vI 0,ay,vI 0,vI 0,vI 0,ay,vI 0,vB false,vI 0,vI 0] λb1 w2 mS M3=> ?_
 replace M3:=M3.nf;clear hM;refine aE<|aV<|an 3<|zmn (some 22) (.tmp 21) (.const (vI 4194304)) #[3,3] 3 .i64 fuel 4194304<|zmx (some 23) (.const (vI 0)) (.tmp 22) #[3,3] 3 .i64 0 (min fuel 4194304)<|an 1<|sV M3 135 [ay,ay,ay,vI 0,ay,vI 0,vI 0,vI 0,ay,vI 0,vB false,vI 0,vI 0] λb4 w5 XE M6=> ?_
 replace M6:=M6.nf;refine sW M6 1 [vS dA (ae ds) dc,ay,ay,vI 1,vS iA (ae inp) ic,vI 0,vI 0,vI 0,ay,vI 0,vB false,vI (max 0 (min fuel 4194304)),vI 0] rfl λw7 M8=> ?_
 replace M8:=M8.nf;refine aE<|bt<|br<|df 0 ?_;have M9:=M8.cl (Mem.fi _ 3 1);have lM:=cC [.aM b1 135 [ay,ay,ay,vI 0,ay,vI 0,vI 0,vI 0,ay,vI 0,vB false,vI 0,vI 0],.aM b4 135 [vS dA (ae ds) dc,ay,ay,(vI (cc ds 0:Int)),vS iA (ae inp) ic,vI 0,vI 0,vI 0,ay,vI 0,vB false,vI (max 0 (min fuel 4194304)),vI 0],.row 3 1 none 0 0 (ints (th ds 0))] (M9.cast rfl);intro aC fr;refine iJ (λn_ a_ w_=>∃(j:Nat) (Aj:ar) (cj:Nat),n_=ae ds-j/\Fr a_ 163 [(0,vS dA (ae ds) dc),(1,vS nA (ae cs) nc),(2,vI mem),(10,pT b1 0),(11,pT b4 0),(12,nV j)]/\Mem bI w w_ [.aM b1 135 [ay,ay,ay,vI 0,ay,vI 0,vI 0,vI 0,ay,vI 0,vB false,vI 0,vI 0],.aM b4 135 [vS dA (ae ds) dc,vS Aj j cj,ay,(vI (cc ds j:Int)),vS iA (ae inp) ic,vI 0,vI 0,vI 0,ay,vI 0,vB false,vI (max 0 (min fuel 4194304)),vI 0],.row 3 1 Aj j cj (ints (th ds j))]/\(j<=ae ds)) (n:=_) ⟨0,none,0,rfl,fr.kp [0,1,2,10,11,12],lM,cI _⟩ ?_;clear fr aC lM;rintro n aC XD ⟨j,Aj,cj,rfl,fr,sw,hj⟩;revert aC;refine bt<|br<|iY ((j:Int)<(ae ds:Int)) (λFc=> ?_) (λFc=> ?_);refine cE<|bt<|df 1<|aV ?_;omega;refine gZ 0<|ia<|bt<|aV<|an 1<|bH (aq b4 3) _ (af (sw.get 1 rfl) rfl)<|an 2<|aE<|iY (((cc ds j:Int):Int)>mem) (λoQ=> ?_) (λoQ=> ?_);obtain rfl:j=ae ds:=oM;have hnx:cc ds (ae ds)=1:=by rw[sC.1 J8];rfl
 omega;obtain rfl:j=ae ds:=oM;refine cE<|aV<|an 1 ?_;intro aC fr;refine vY (kR:aB _ 1=some (some 55,.makeSlice 39 (.tmp 54) (.tmp 54),39,none)) fr kR kR (k':=2) rfl (e:=2) (bytes:=8) (z:=(vI 0)) (n:=mem.toNat) (i:=mem) kR kR oM kR kR rfl oM (by simp only[maxLen];omega) sw ?_;intro Fb w20 Qj4 _ sY _ aC ea fr;clear ea;replace sY:=sY.nf;revert aC;refine an 1<|sf (ho:=sI) sY 1 2 (vS (sM Fb) mem.toNat mem.toNat) rfl λw26 AE=> ?_
 replace AE:=AE.nf;refine aE<|bt<|br<|df 2 ?_;have ue:=cC [.aM b1 135 [ay,ay,ay,vI 0,ay,vI 0,vI 0,vI 0,ay,vI 0,vB false,vI 0,vI 0],.aM b4 135 [vS dA (ae ds) dc,vS Aj (ae ds) cj,vS (sM Fb) mem.toNat mem.toNat,(vI (cc ds (ae ds):Int)),vS iA (ae inp) ic,vI 0,vI 0,vI 0,ay,vI 0,vB false,vI (max 0 (min fuel 4194304)),vI 0],.row 3 1 Aj (ae ds) cj (ints (th ds (ae ds))),.row 2 1 (sM Fb) mem.toNat mem.toNat (ints (TY ds mem.toNat 0))] (AE.cast (by rw[XW];rfl));intro aC fr;refine iJ (λn_ a_ w_=>∃(j:Nat),n_=ae ds-j/\Fr a_ 163 [(0,vS dA (ae ds) dc),(1,vS nA (ae cs) nc),(10,pT b1 0),(11,pT b4 0),(13,nV j)]/\Mem bI w w_ [.aM b1 135 [ay,ay,ay,vI 0,ay,vI 0,vI 0,vI 0,ay,vI 0,vB false,vI 0,vI 0],.aM b4 135 [vS dA (ae ds) dc,vS Aj (ae ds) cj,vS (sM Fb) mem.toNat mem.toNat,(vI (cc ds (ae ds):Int)),vS iA (ae inp) ic,vI 0,vI 0,vI 0,ay,vI 0,vB false,vI (max 0 (min fuel 4194304)),vI 0],.row 3 1 Aj (ae ds) cj (ints (th ds (ae ds))),.row 2 1 (sM Fb) mem.toNat mem.toNat (ints (TY ds mem.toNat j))]/\(j<=ae ds)) (n:=_) ⟨0,rfl,fr.kp [0,1,10,11,13],ue,cI _⟩ ?_;clear fr aC ue;rintro n aC w31 ⟨j,rfl,fr,sZ,hj2⟩;revert aC;refine bt<|br<|iY ((j:Int)<(ae ds:Int)) (λc35=> ?_) (λc35=> ?_);refine cE<|bt<|df 3<|aV ?_;omega;refine gZ 2<|ia<|bt<|br<|df 6 ?_;have vJ:=cC [.aM b1 135 [ay,ay,ay,vI 0,ay,vI 0,vI 0,vI 0,ay,vI 0,vB false,vI 0,vI 0],.aM b4 135 [vS dA (ae ds) dc,vS Aj (ae ds) cj,vS (sM Fb) mem.toNat mem.toNat,(vI (cc ds (ae ds):Int)),vS iA (ae inp) ic,vI 0,vI 0,vI 0,ay,vI 0,vB false,vI (max 0 (min fuel 4194304)),vI 0],.row 3 1 Aj (ae ds) cj (ints (th ds (ae ds))),.row 2 1 (sM Fb) mem.toNat mem.toNat (ints (TZ (Hf cs (ae cs)) (gJ ds (ae ds)) ds (TY ds mem.toNat (ae ds)) 0))] (sZ.cast (by rw[show j=ae ds by omega];rfl));intro aC fr;refine iJ (λn_ a_ w_=>∃(jr:Nat),n_=ae ds-jr/\Fr a_ 163 [(0,vS dA (ae ds) dc),(1,vS nA (ae cs) nc),(10,pT b1 0),(11,pT b4 0),(15,nV jr)]/\Mem bI w w_ [.aM b1 135 [ay,ay,ay,vI 0,ay,vI 0,vI 0,vI 0,ay,vI 0,vB false,vI 0,vI 0],.aM b4 135 [vS dA (ae ds) dc,vS Aj (ae ds) cj,vS (sM Fb) mem.toNat mem.toNat,(vI (cc ds (ae ds):Int)),vS iA (ae inp) ic,vI 0,vI 0,vI 0,ay,vI 0,vB false,vI (max 0 (min fuel 4194304)),vI 0],.row 3 1 Aj (ae ds) cj (ints (th ds (ae ds))),.row 2 1 (sM Fb) mem.toNat mem.toNat (ints (TZ (Hf cs (ae cs)) (gJ ds (ae ds)) ds (TY ds mem.toNat (ae ds)) jr))]/\(jr<=ae ds)) (n:=_) ⟨0,rfl,fr.kp [0,1,10,11,15],vJ,cI _⟩ ?_;clear fr aC vJ;rintro n aC w39 ⟨jr,rfl,fr,vH,hjr⟩;revert aC;refine bt<|br<|iY ((jr:Int)<(ae ds:Int)) (λQW=> ?_) (λQW=> ?_);refine cE<|bt<|df 7<|aV ?_;omega;refine gZ 6<|ia<|aV<|k8 (aZ b4) [vS dA (ae ds) dc,vS Aj (ae ds) cj,vS (sM Fb) mem.toNat mem.toNat,(vI (cc ds (ae ds):Int)),vS iA (ae inp) ic,vI 0,vI 0,vI 0,ay,vI 0,vB false,vI (max 0 (min fuel 4194304)),vI 0] (bw (vH.get 1 rfl))<|sW vH 0 [vS dA (ae ds) dc,vS Aj (ae ds) cj,vS (sM Fb) mem.toNat mem.toNat,(vI (cc ds (ae ds):Int)),vS iA (ae inp) ic,vI 0,vI 0,vI 0,ay,vI 0,vB false,vI (max 0 (min fuel 4194304)),vI 0] rfl λw44 xt=> ?_
 replace xt:=xt.nf;refine aE<|cv ?_;intro aC fr;refine NO (ad:=aZ b1) (vs:=[vS dA (ae ds) dc,vS Aj (ae ds) cj,vS (sM Fb) mem.toNat mem.toNat,(vI (cc ds (ae ds):Int)),vS iA (ae inp) ic,vI 0,vI 0,vI 0,ay,vI 0,vB false,vI (max 0 (min fuel 4194304)),vI 0]) fr rfl kR kR (bw (xt.get 0 rfl)) ?_;refine⟨_,rfl,?_⟩;have vo:=xt.od [3,3] 2;have tf:=cC [.row 3 1 Aj (ae ds) cj (ints (th ds (ae ds))),.row 2 1 (sM Fb) mem.toNat mem.toNat (ints (lyT (Hf cs (ae cs)) (gJ ds (ae ds)) mem.toNat ds))] (vo.cast (by rw[show jr=ae ds by omega,<-RH hw oM (ae ds) (cH _),<-CU oM]));exact⟨Aj,cj,.inr ⟨oM,Fb,rfl,tf⟩⟩
theorem UR(ds:List cR)(J8:ae ds=0)(dA:ar)(dc:Nat)(w:World)(Hi:RO bI w (.gE dA ds))(hdI:∀d,d∈ds->DIn d)(hdl:ae ds<=1000)(Qo7:Ew ds<=16384):Calls Tryz.prog 85 #[vS dA (ae ds) dc] w (gp λv w'=>v=vB (decide (∀d,d∈ds->uu d))/\Mem bI w w' []):=by
 refine iI 30 [vS dA (ae ds) dc] Tryz.func85 ?_;have hM:=Mem.init w;refine br<|br<|bt<|br<|df 0 ?_;intro aC fr;refine iJ (λn_ a_ w_=>∃(j:Nat) (nj:Int),n_=ae ds-j/\Fr a_ 30 [(0,vS dA (ae ds) dc),(3,vI nj),(4,nV j)]/\Mem bI w w_ []/\(j<=ae ds)/\(nj=(Ew (ds.take j):Int))/\(∀(i:Nat) (d:cR),i<j->ds[i]?=some d->uu d)) (n:=_) ⟨0,0,rfl,fr.kp [0,3,4],hM,cI _,rfl,λi _ h=>absurd h (eL _)⟩ ?_;clear fr aC hM;rintro n aC w3 ⟨j,nj,rfl,fr,M4,hj,hn,hq⟩;revert aC;refine bt<|br<|iY ((j:Int)<(ae ds:Int)) (λc7=> ?_) (λc7=> ?_);refine cE<|bt<|df 1<|aV ?_;omega;refine gZ 0<|ia<|br<|cv<|dq (vB true) ?_;exact⟨aK Value.bool (jO (Pl (n:=j) oM hq)).symm,M4⟩
theorem P2(cs fs:List eY)(fA:ar)(fc:Nat)(w:World)(hl:RO bI w (.qU fA 5 (fs.map eY.cells)))(hm:ae fs<=1000)(rP:cs=iW fs):Calls Tryz.prog 86 #[.slice fA (ae fs) fc] w (gp λv w'=>∃A c,v=vS A (ae cs) c/\Mem bI w w' [.row 30 5 A (ae cs) c (cs.flatMap eY.cells)]):=by
 subst rP;exact T7 fs fA fc w hl hm
theorem US(ds:List cR)(J8:ae ds=0)(dA:ar)(dc:Nat)(A:ar)(c:Nat)(w:World)(hm:RO bI w (.Qdl A [EF ds dA dc]))(hd:ae ds<=1000):Calls Tryz.prog 88 #[.slice A 1 c] w (gp λv w'=>∃A' c',v=vS A' (ae (bz ds)) c'/\Mem bI w w' [.row 42 4 A' (ae (bz ds)) c' ((bz ds).flatMap cR.cells)]):=by
 have h:=UQ [EF ds dA dc] A c w hm sI (by simpa using hd) (λm hm_=>by rw[cF]at hm_;subst hm_;exact J8);rw[QdN]at h;exact h
set_option maxHeartbeats 4000000 in
theorem R0(fs:List eY)(fA:ar)(fc:Nat)(ds:List cR)(J8:ae ds=0)(dA:ar)(dc:Nat)(bg:List bo)(gA:ar)(gc:Nat)(mem:Int)(inp:ah)(iA:ar)(ic:Nat)(fuel:Int)(w:World)(hI:rC w fs fA ds dA bg gA inp iA ic)(qY:fg (ae inp)):Calls Tryz.prog 46 #[vS fA (ae fs) fc,vS dA (ae ds) dc,vS gA (ae bg) gc,vI mem,vS iA (ae inp) ic,vI fuel] w (gp λv w'=>∃oA oc,v=Qno (iL fs ds bg mem inp fuel) oA oc/\Mem bI w w' [.row 5 1 oA (iL fs ds bg mem inp fuel).2.2.1.length oc (vK (iL fs ds bg mem inp fuel).2.2.1)]):=by
 have hI1:=hI.len;have hI2:=hI.Yy;have hI3:=hI.L2;unfold fg at qY;refine iI 154 [vS fA (ae fs) fc,vS dA (ae ds) dc,vS gA (ae bg) gc,vI mem,vS iA (ae inp) ic,vI fuel] Tryz.func46 ?_;have hM:=Mem.init w;refine aV<|sV hM 68 [vI 0,vI 0,ay,vI 0] λb1 w2 mS M3=> ?_
 replace M3:=M3.nf;clear hM;refine aE<|bt<|br<|df 0 ?_;intro aC fr;refine iJ (λn_ a_ w_=>∃(j:Nat),n_=ae fs-j/\Fr a_ 154 [(0,vS fA (ae fs) fc),(1,vS dA (ae ds) dc),(2,vS gA (ae bg) gc),(3,vI mem),(4,vS iA (ae inp) ic),(5,vI fuel),(12,pT b1 0),(13,nV j)]/\Mem bI w w_ [.aM b1 68 [vI 0,vI 0,ay,vI 0]]/\(j<=ae fs)/\(∀(i:Nat) (f:eY),i<j->fs[i]?=some f->cS f.nm f.pa f.va f.bF=0)) (n:=_) ⟨0,rfl,fr.kp [0,1,2,3,4,5,12,13],M3,cI _,λi _ hi=>absurd hi (eL i)⟩ ?_;clear fr aC M3;rintro n aC w6 ⟨j,rfl,fr,M7,hj,Nu⟩;revert aC;refine bt<|br<|iY ((j:Int)<(ae fs:Int)) (λuc=> ?_) (λuc=> ?_);refine cE<|bt<|df 1<|aV ?_;obtain⟨f,hf⟩:=aP (l:=fs) (i:=j) oM;have FE:=aI hf;refine an 2 ?_;obtain⟨sy,rfl⟩:=cU (M7.ro hI.cells) (cs:=f.cells) (i:=j) (gm hf);refine ga sy (ae fs) 5 (j:Int)<|k8 (aN sy (j:Int) 5) [vT f.nm,vB f.wk,vI f.pa,vI f.va,vS f.A (ae (au f.bF)) f.c] (mj (i:=j) (M7.ro hI.cells) rfl (gm hf))<|eV (MB f.nm f.wk f.pa f.va f.A f.c f.bF w6 (hI.ok f FE).2 (hI.ok f FE).1 ((hI.fn f FE).at_ M7)) ?_;rintro _ w12 ⟨rfl,Lp⟩;have rr:=M7.cl Lp;refine an 1<|aE<|fZ (((cS f.nm f.pa f.va f.bF):Int) !=0) (((cS f.nm f.pa f.va f.bF):Int)≠0) (by simp only[cQ]) (λJ5=> ?_) (λJ5=> ?_);refine aV<|an 1<|sW rr 0 [vI 5,vI 0,ay,vI 0] rfl λw15 zz=> ?_
 replace zz:=zz.nf;refine aE<|cv<|dX<|dX ?_;intro aC fr;refine NO (ad:=aZ b1) (vs:=[vI 5,vI 0,ay,vI 0]) fr rfl kR kR (bw (zz.get 0 rfl)) ?_;refine⟨_,rfl,?_⟩;have hMz:=zz.cl (Mem.fi _ 5 1);have pW:=hMz.od [1] 1;clear hMz;rw[CP (.inr ⟨j,f,(aW.1 hf).1,hf,J5⟩)];exact⟨none,0,rfl,pW⟩;exact cE<|dR<|an 1<|eX ((j:Int)+1)<|an 1<|aE λaC fr=>⟨ae fs-(j+1),oM,j+1,rfl,fr.kp [0,1,2,3,4,5,12,13],rr,oM,QhL Nu hf (ym J5)⟩
 refine gZ 0<|ia<|aV<|an 2 ?_;intro aC fr;refine qp 36 130 1 #[(0,.tmp 35)] 130 fr (e:=129) (size:=3) (zs:=[vT ⟨#[]⟩,ay,ay]) (vs:=[(0,(.agg #[vT ⟨#[]⟩,ay,vS dA (ae ds) dc]))]) (cs:=[vT ⟨#[]⟩,ay,vS dA (ae ds) dc]) M7 ?_;intro Ny w23 Qo8 _ oC _ aC ea fr;clear ea;replace oC:=oC.nf;revert aC;refine an 1<|aE<|bt<|aV<|an 1<|eV (UR ds J8 dA dc w23 (hI.gE.at_ oC) hI.din hI.L2 hI.TN) ?_;rintro _ w29 ⟨rfl,Qo9⟩;have yS:=oC.cl Qo9;refine an 2 ?_;obtain⟨uy,xf⟩:∃B:Bool,B=(!(decide (∀d,d∈ds->uu d))):=⟨_,rfl⟩;refine cT [(0,vS fA (ae fs) fc),(2,vS gA (ae bg) gc),(3,vI mem),(4,vS iA (ae inp) ic),(5,vI fuel),(12,pT b1 0),(14,vS (sM Ny) 1 1),(40,(vB (!(decide (∀d,d∈ds->uu d)))))] ?_;rw[<-xf];have FF:uy=true↔(¬(∀d,d∈ds->uu d)):=by rw[xf];simp only[mw,aU]
 clear xf;intro aC fr;refine dx 4 8 [43,44] fr (news:=[(43,(vB (uy||decide ((mem:Int)<1)))),(44,(vB (uy||decide ((mem:Int)<1))))]) (by cases uy<;>kernel_rfl) ?_;intro aC fr;obtain⟨yV,EG⟩:∃B:Bool,B=(uy||decide ((mem:Int)<1)):=⟨_,rfl⟩;revert aC;refine cT [(0,vS fA (ae fs) fc),(2,vS gA (ae bg) gc),(3,vI mem),(4,vS iA (ae inp) ic),(5,vI fuel),(12,pT b1 0),(14,vS (sM Ny) 1 1),(44,(vB (uy||decide ((mem:Int)<1))))] ?_;rw[<-EG];have Pr:yV=true↔((¬(∀d,d∈ds->uu d))\/((mem:Int)<1)):=by rw[EG];simp only[dt,aU,FF]
 clear EG;intro aC fr;refine dx 4 12 [47,48] fr (news:=[(47,(vB (yV||decide ((mem:Int)>262144)))),(48,(vB (yV||decide ((mem:Int)>262144))))]) (by cases yV<;>kernel_rfl) ?_;intro aC fr;obtain⟨Zh,Ps⟩:∃B:Bool,B=(yV||decide ((mem:Int)>262144)):=⟨_,rfl⟩;revert aC;refine cT [(0,vS fA (ae fs) fc),(2,vS gA (ae bg) gc),(3,vI mem),(4,vS iA (ae inp) ic),(5,vI fuel),(12,pT b1 0),(14,vS (sM Ny) 1 1),(48,(vB (yV||decide ((mem:Int)>262144))))] ?_;rw[<-Ps];have QhS:Zh=true↔(((¬(∀d,d∈ds->uu d))\/((mem:Int)<1))\/((mem:Int)>262144)):=by rw[Ps];simp only[dt,aU,Pr]
 clear Ps;intro aC fr;refine dx 4 16 [52] fr (news:=[(52,(vB (Zh||decide ((ae inp:Int)>4096))))]) (by cases Zh<;>kernel_rfl)<|aE<|fZ (Zh||decide ((ae inp:Int)>4096)) ((((¬(∀d,d∈ds->uu d))\/((mem:Int)<1))\/((mem:Int)>262144))\/((ae inp:Int)>4096)) (by simp only[dt,aU,QhS]) (λc46=> ?_) (λc46=> ?_);refine aV<|an 1<|sW yS 0 [vI 5,vI 0,ay,vI 0] rfl λw47 vo=> ?_
 replace vo:=vo.nf;refine aE<|cv ?_;intro aC fr;refine NO (ad:=aZ b1) (vs:=[vI 5,vI 0,ay,vI 0]) fr rfl kR kR (bw (vo.get 0 rfl)) ?_;refine⟨_,rfl,?_⟩;have hMz:=vo.cl (Mem.fi _ 5 1);have tr:=hMz.od [2] 1;clear hMz;rw[CP (.inl (QkC c46))];exact⟨none,0,rfl,tr⟩;refine cE<|aV ?_;obtain rfl:j=ae fs:=oM;have Qep:=Qnz (mem:=mem) (inp:=inp) c46 Nu;obtain⟨Nq,fI,rI⟩:=(pO Qep).1;have Ql3:∀d,d∈bz ds->d.WF:=λd hd=>YA hI Qep d (jx hd)
 obtain⟨cs,rP⟩:∃y,y=iW fs:=⟨_,rfl⟩;have Af:ae cs<=ae fs:=rP▸lD;have hdl:ae (bz ds)<=ae ds:=lD;have Qo7:=ED Ql3 (ae (bz ds)) (cH _);refine an 1<|eV (P2 cs fs fA fc w29 (hI.cells.at_ yS) hI.len rP) ?_;rintro _ w54 ⟨og,mF,rfl,QiJ⟩;have s5:=yS.cl QiJ;refine an 1<|sU s5 138 (.agg #[ay,ay,ay,vI 0,ay,vI 0,vI 0,vI 0,ay,vI 0,vB false,vI 0,vI 0,vS og (ae cs) mF,ay]) [ay,ay,ay,vI 0,ay,vI 0,vI 0,vI 0,ay,vI 0,vB false,vI 0,vI 0,vS og (ae cs) mF,ay] λNi w57 Qm2 u0=> ?_
 replace u0:=u0.nf;refine an 1<|aE<|br<|bt<|br<|df 2 ?_;have Zj:=(u0.cl (Mem.fi _ 9 1)).cl (Mem.fi _ 71 1);have zB:=cC [.pk [],.aM b1 68 [vI 0,vI 0,ay,vI 0],.row 129 3 (sM Ny) 1 1 [vT ⟨#[]⟩,ay,vS dA (ae ds) dc],.row 30 5 og (ae cs) mF (cs.flatMap eY.cells),.aM Ni 138 [ay,ay,ay,vI 0,ay,vI 0,vI 0,vI 0,ay,vI 0,vB false,vI 0,vI 0,vS og (ae cs) mF,ay],.row 9 1 none 0 0 ((cs.take 0).map (λf:eY=>Value.string f.nm)),.row 71 1 none 0 0 (RK ([]:List gg))] (Mem.pk0 (Zj.cast rfl));intro aC fr;refine iJ (λn_ a_ w_=>∃(j:Nat) (qs:List gg) (Xs:List bD) (An:ar) (cn:Nat) (qA:ar) (qc:Nat),n_=ae cs-j/\Fr a_ 154 [(2,vS gA (ae bg) gc),(3,vI mem),(4,vS iA (ae inp) ic),(5,vI fuel),(12,pT b1 0),(14,vS (sM Ny) 1 1),(15,pT Ni 0),(16,vS An j cn),(17,nV j)]/\Mem bI w w_ [.pk Xs,.aM b1 68 [vI 0,vI 0,ay,vI 0],.row 129 3 (sM Ny) 1 1 [vT ⟨#[]⟩,ay,vS dA (ae ds) dc],.row 30 5 og (ae cs) mF (cs.flatMap eY.cells),.aM Ni 138 [ay,ay,ay,vI 0,ay,vI 0,vI 0,vI 0,ay,vI 0,vB false,vI 0,vI 0,vS og (ae cs) mF,vS qA j qc],.row 9 1 An j cn ((cs.take j).map (λf:eY=>Value.string f.nm)),.row 71 1 qA j qc (RK qs)]/\(j<=ae cs)/\(qs.map gg.can=(cs.take j).map mh)/\(∀f,f∈qs->InY Xs f)) (n:=_) ⟨0,[],[],none,0,none,0,rfl,fr.kp [2,3,4,5,12,14,15,16,17],zB,cI _,sI,sI⟩ ?_;clear fr aC zB;rintro n aC w63 ⟨j,qs,Xs,An,cn,qA,qc,rfl,fr,GQ,hj,hqc,hqX⟩;revert aC;refine bt<|aV<|an 4<|bH (aq Ni 13) _ (af (GQ.get 4 rfl) rfl)<|an 2<|aE<|iY ((j:Int)<(ae cs:Int)) (λc67=> ?_) (λc67=> ?_);refine cE<|bt<|df 3<|aV ?_;obtain⟨x,hx⟩:=aP (l:=cs) (i:=j) oM;have sm:=aI hx;have VC:x∈fs:=jx (rP▸sm);refine an 4<|bH (aq Ni 13) _ (af (GQ.get 4 rfl) rfl)<|an 1 ?_;obtain⟨FZ,rfl⟩:=cU (mV (f:=eY.cells) (l:=cs) (λ_=>rfl) dQ (GQ.get 3 rfl)) (cs:=x.cells) (i:=j) (gm hx);refine ga FZ (ae cs) 5 (j:Int)<|an 1<|bH (aN FZ (j:Int) 5) _ (bS (mV (f:=eY.cells) (l:=cs) (λ_=>rfl) dQ (GQ.get 3 rfl)) rfl (i:=j) (cs:=x.cells) (gm hx) 0 _ rfl) ?_;intro aC fr;refine qp 76 23 1 #[(0,.tmp 75)] 23 fr (e:=9) (size:=1) (zs:=[vT ⟨#[]⟩]) (vs:=[(0,vT x.nm)]) (cs:=[vT x.nm]) GQ ?_;intro b69 w70 hb69 _ zS _ aC ea fr;clear ea;replace zS:=zS.nf;refine zAN 77 (.tmp 67) (.tmp 76) 23 23 fr (e:=9) (size:=1) (bytes:=16) (z:=(vT ⟨#[]⟩)) (A:=An) (B:=(sM b69)) (n:=j) (cap:=cn) (m:=1) (cap':=1) (xs:=((cs.take j).map (λf:eY=>Value.string f.nm))) (news:=[vT x.nm]) zS 5 rfl (aF (zS.get 7 rfl)) rfl (by simp[Value.oneCell']) oM (by simp only[maxLen];omega) (j+1) ((cs.take (j+1)).map (λf:eY=>Value.string f.nm)) rfl (by rw[qB,hx,bZ];rfl) ?_;intro A76 Nv w78 Pw _ aC ea fr;clear ea;replace Pw:=Pw.nf;have M82:=Pw.od [6,6,6,6,6,6,6] 7;revert aC;refine an 1<|aE<|br<|bt<|br<|df 4 ?_;have pY:=M82.cl (Mem.fi _ 43 1);have Fe:=bM x.bF;have hxl:=(hI.ok x VC).2;have hA:=(hI.fn x VC).bs;have hm:ae (au x.bF)<=1000000:=oM;have M84:=cC [.pk Xs,.aM b1 68 [vI 0,vI 0,ay,vI 0],.row 129 3 (sM Ny) 1 1 [vT ⟨#[]⟩,ay,vS dA (ae ds) dc],.row 30 5 (some FZ) (ae cs) mF (cs.flatMap eY.cells),.aM Ni 138 [ay,ay,ay,vI 0,ay,vI 0,vI 0,vI 0,ay,vI 0,vB false,vI 0,vI 0,vS (some FZ) (ae cs) mF,vS qA j qc],.row 9 1 A76 (j+1) Nv ((cs.take (j+1)).map (λf:eY=>Value.string f.nm)),.row 71 1 qA j qc (RK qs),.row 43 1 none 0 0 (Y7 [])] (pY.cast rfl);intro aC fr;refine iJ (λn_ a_ w_=>∃(b:Nat) (ss:T3) (Y:List bD) (Al:ar) (cl:Nat),n_=ae (au x.bF)-b/\Fr a_ 154 [(2,vS gA (ae bg) gc),(3,vI mem),(4,vS iA (ae inp) ic),(5,vI fuel),(12,pT b1 0),(14,vS (sM Ny) 1 1),(15,pT Ni 0),(16,vS A76 (j+1) Nv),(17,nV j),(18,vS Al b cl),(19,nV b)]/\Mem bI w w_ [.pk Y,.aM b1 68 [vI 0,vI 0,ay,vI 0],.row 129 3 (sM Ny) 1 1 [vT ⟨#[]⟩,ay,vS dA (ae ds) dc],.row 30 5 (some FZ) (ae cs) mF (cs.flatMap eY.cells),.aM Ni 138 [ay,ay,ay,vI 0,ay,vI 0,vI 0,vI 0,ay,vI 0,vB false,vI 0,vI 0,vS (some FZ) (ae cs) mF,vS qA j qc],.row 9 1 A76 (j+1) Nv ((cs.take (j+1)).map (λf:eY=>Value.string f.nm)),.row 71 1 qA j qc (RK qs),.row 43 1 Al b cl (Y7 ss)]/\(b<=ae (au x.bF))/\(Jt (au x.bF) ss b)/\(∀q,q∈ss->T4 q∈Y)/\(∀f,f∈qs->InY Y f)) (n:=_) ⟨0,[],Xs,none,0,rfl,fr.kp [2,3,4,5,12,14,15,16,17,18,19],M84,cI _,Jt.zero,(λq hq=>by cases hq),hqX⟩ ?_;clear fr aC M84;rintro n aC w87 ⟨b,ss,Y,Al,cl,rfl,fr,JG,hb,hss,hsY,hqY⟩;revert aC;refine bt<|aV<|an 4<|bH (aq Ni 13) _ (af (JG.get 4 rfl) rfl)<|an 1<|ga FZ (ae cs) 5 (j:Int)<|an 1<|bH ((aN FZ (j:Int) 5).add 4) _ (bS (mV (f:=eY.cells) (l:=cs) (λ_=>rfl) dQ (JG.get 3 rfl)) rfl (i:=j) (cs:=x.cells) (gm hx) 4 _ rfl)<|an 2<|aE<|iY ((b:Int)<(ae (au x.bF):Int)) (λUt=> ?_) (λUt=> ?_);refine cE<|bt<|df 5<|dR<|an 4<|bH (aq Ni 13) _ (af (JG.get 4 rfl) rfl)<|an 1<|ga FZ (ae cs) 5 (j:Int)<|k8 (aN FZ (j:Int) 5) [vT x.nm,vB x.wk,vI x.pa,vI x.va,vS x.A (ae (au x.bF)) x.c] (mj (i:=j) (mV (f:=eY.cells) (l:=cs) (λ_=>rfl) dQ (JG.get 3 rfl)) rfl (gm hx))<|eW [2,3,4,5,12,14,15,16,17,19,91,98]<|an 1<|eV (vs:=#[(.agg #[vT x.nm,vB x.wk,vI x.pa,vI x.va,vS x.A (ae (au x.bF)) x.c]),nV b]) (wN _ _ _ _ x.A x.c (au x.bF) (b:Int) w87 hm (hA.at_ JG)) ?_;rintro _ w94 ⟨A92,RW,rfl,Qpa⟩;have Px:=JG.cl Qpa;intro aC fr;refine qp 101 71 1 #[(0,.tmp 100)] 71 fr (e:=43) (size:=1) (zs:=[ay]) (vs:=[(0,(vS A92 (ae (bO (au x.bF) (b:Int))) RW))]) (cs:=[(vS A92 (ae (bO (au x.bF) (b:Int))) RW)]) Px ?_;intro b96 w97 Qor _ Uq _ aC ea fr;clear ea;replace Uq:=Uq.nf;refine zAN 102 (.tmp 91) (.tmp 101) 71 71 fr (e:=43) (size:=1) (bytes:=24) (z:=ay) (A:=Al) (B:=(sM b96)) (n:=b) (cap:=cl) (m:=1) (cap':=1) (xs:=(Y7 ss)) (news:=[(vS A92 (ae (bO (au x.bF) (b:Int))) RW)]) Uq 7 rfl (aF (Uq.get 9 rfl)) rfl (by simp[Value.oneCell']) oM (by simp only[maxLen];omega) (b+1) (Y7 (ss++[(A92,RW,bO (au x.bF) (b:Int))])) rfl (by rw[Za]) ?_;intro Qid Qie ZJ sH _ aC ea fr;clear ea;replace sH:=sH.nf;have JE:=sH.od [8,8,8,8,8,8,8,8,8] 9;revert aC;refine an 1<|aE<|dR<|an 1<|eX ((b:Int)+1)<|an 1<|aE ?_;have PT:=JE.od [7,7,7,7,7,7,7,8,8] 9;have Uj:=cC [.pk (Y++[.row 3 1 A92 (ae (bO (au x.bF) (b:Int))) RW (ints (bO (au x.bF) (b:Int)))]),.aM b1 68 [vI 0,vI 0,ay,vI 0],.row 129 3 (sM Ny) 1 1 [vT ⟨#[]⟩,ay,vS dA (ae ds) dc],.row 30 5 (some FZ) (ae cs) mF (cs.flatMap eY.cells),.aM Ni 138 [ay,ay,ay,vI 0,ay,vI 0,vI 0,vI 0,ay,vI 0,vB false,vI 0,vI 0,vS (some FZ) (ae cs) mF,vS qA j qc],.row 9 1 A76 (j+1) Nv ((cs.take (j+1)).map (λf:eY=>Value.string f.nm)),.row 71 1 qA j qc (RK qs),.row 43 1 Qid (b+1) Qie (Y7 (ss++[(A92,RW,bO (au x.bF) (b:Int))]))] (Mem.pk2 (l:=[.row 3 1 A92 (ae (bO (au x.bF) (b:Int))) RW (ints (bO (au x.bF) (b:Int)))]) PT);intro aC fr;exact⟨ae (au x.bF)-(b+1),oM,b+1,ss++[(A92,RW,bO (au x.bF) (b:Int))],Y++[.row 3 1 A92 (ae (bO (au x.bF) (b:Int))) RW (ints (bO (au x.bF) (b:Int)))],Qid,Qie,rfl,fr.kp [2,3,4,5,12,14,15,16,17,18,19],Uj,oM,hss.next,Y8 hsY (cF.2 rfl),QdK hqY⟩;refine gZ 4<|ia<|dR ?_;obtain rfl:b=ae (au x.bF):=oM;have Xn:=hss.1;refine an 4<|bH (aq Ni 14) _ (af (JG.get 4 rfl) rfl)<|an 1 ?_;intro aC fr;refine qp 109 136 1 #[(0,.tmp 108)] 136 fr (e:=71) (size:=1) (zs:=[ay]) (vs:=[(0,vS Al (ae (au x.bF)) cl)]) (cs:=[vS Al (ae (au x.bF)) cl]) JG ?_;intro Qpb Qlm Qp6 _ yD _ aC ea fr;clear ea;replace yD:=yD.nf;refine zAN 110 (.tmp 107) (.tmp 109) 136 136 fr (e:=71) (size:=1) (bytes:=24) (z:=ay) (A:=qA) (B:=(sM Qpb)) (n:=j) (cap:=qc) (m:=1) (cap':=1) (xs:=(RK qs)) (news:=[vS Al (ae (au x.bF)) cl]) yD 6 rfl (aF (yD.get 8 rfl)) rfl (by simp[Value.oneCell']) oM (by simp only[maxLen];omega) (j+1) (RK (qs++[mkY x Al cl ss])) rfl (by rw[Zb,Xn]) ?_;intro Qeq Qer w123 EL _ aC ea fr;clear ea;replace EL:=EL.nf;have PY:=EL.od [7,7,7,7,7,7,7,7] 8;revert aC;refine eW [2,3,4,5,12,14,15,16,17,103,110]<|an 2<|sf (ho:=sI) PY 4 14 (vS Qeq (j+1) Qer) rfl λQpc P3=> ?_
 replace P3:=P3.nf;refine aE<|dR ?_;have BL:=P3.od [6,6,6,6,6,6,7,7] 8;have UT:=cC [.pk (Y++[.row 43 1 Al (ae ss) cl (Y7 ss)]),.aM b1 68 [vI 0,vI 0,ay,vI 0],.row 129 3 (sM Ny) 1 1 [vT ⟨#[]⟩,ay,vS dA (ae ds) dc],.row 30 5 (some FZ) (ae cs) mF (cs.flatMap eY.cells),.aM Ni 138 [ay,ay,ay,vI 0,ay,vI 0,vI 0,vI 0,ay,vI 0,vB false,vI 0,vI 0,vS (some FZ) (ae cs) mF,vS Qeq (j+1) Qer],.row 9 1 A76 (j+1) Nv ((cs.take (j+1)).map (λf:eY=>Value.string f.nm)),.row 71 1 Qeq (j+1) Qer (RK (qs++[mkY x Al cl ss]))] (Mem.pk2 (l:=[.row 43 1 Al (ae ss) cl (Y7 ss)]) (BL.cast (by rw[Xn];rfl)));exact an 1<|eX ((j:Int)+1)<|an 1<|aE λaC fr=>⟨ae cs-(j+1),oM,j+1,qs++[mkY x Al cl ss],Y++[.row 43 1 Al (ae ss) cl (Y7 ss)],A76,Nv,Qeq,Qer,rfl,fr.kp [2,3,4,5,12,14,15,16,17],UT,oM,QdL hqc hx hss,Y9 hqY hsY (cF.2 rfl)⟩
 refine gZ 2<|ia<|aV<|an 2<|eV (US ds J8 dA dc (sM Ny) 1 w63 (QkB (GQ.ei 2 rfl) (hI.gE.at_ GQ)) hI.L2) ?_;rintro _ QkR ⟨ME,FY,rfl,Zt⟩;have Pz:=GQ.cl Zt;refine an 4 ?_;obtain rfl:j=ae cs:=oM;rw[gC]at hqc;have EY:=cC [.pk Xs,.aM b1 68 [vI 0,vI 0,ay,vI 0],.row 129 3 (sM Ny) 1 1 [vT ⟨#[]⟩,ay,vS dA (ae ds) dc],.row 30 5 og (ae cs) mF (cs.flatMap eY.cells),.aM Ni 138 [ay,ay,ay,vI 0,ay,vI 0,vI 0,vI 0,ay,vI 0,vB false,vI 0,vI 0,vS og (ae cs) mF,vS qA (ae cs) qc],.row 9 1 An (ae cs) cn (cs.map (λf:eY=>Value.string f.nm)),.row 71 1 qA (ae cs) qc (RK qs),.row 42 4 ME (ae (bz ds)) FY ((bz ds).flatMap cR.cells)] (Pz.cast (by rw[gC]));have Qes:=Qeo (bz ds) ME FY (Po cs) An cn mem inp iA ic fuel QkR ((EY.ei 7 rfl).mono (mV (λ_=>rfl) dQ) (λg hg=>hg.2)) (λd hd=>(hI.gE.Qg9 (jx hd)).at_ EY) (λd hd=>(hI.gE.Qkl (jx hd)).at_ EY) (by rw[Zc];exact RO.aF (EY.ei 5 rfl)) oM Ql3 oM (by rw[Mh];omega) oM Nq fI;rw[Pp,Mh]at Qes;refine eV Qes ?_;rintro _ Qlq ⟨pA,pc,Qes⟩;rcases Qes with⟨mg,rfl,hMx⟩|⟨BH,mG,rfl,hMx⟩
 · rw[sC.1 (show ae (bz ds)=0 by omega)]at mg;exact absurd (show mem.toNat<1 from mg) oM
 have JJ:=cC [.pk Xs,.aM b1 68 [vI 0,vI 0,ay,vI 0],.row 129 3 (sM Ny) 1 1 [vT ⟨#[]⟩,ay,vS dA (ae ds) dc],.row 30 5 og (ae cs) mF (cs.flatMap eY.cells),.aM Ni 138 [ay,ay,ay,vI 0,ay,vI 0,vI 0,vI 0,ay,vI 0,vB false,vI 0,vI 0,vS og (ae cs) mF,vS qA (ae cs) qc],.row 9 1 An (ae cs) cn (cs.map (λf:eY=>Value.string f.nm)),.row 71 1 qA (ae cs) qc (RK qs),.row 42 4 ME (ae (bz ds)) FY ((bz ds).flatMap cR.cells),.row 3 1 pA (ae (bz ds)) pc (ints (th (bz ds) (ae (bz ds)))),.row 2 1 (sM mG) mem.toNat mem.toNat (ints (lyT (mX cs (ae cs)) (gJ (bz ds) (ae (bz ds))) mem.toNat (bz ds)))] (EY.cl hMx);clear hMx EY;refine an 2<|Qo6 JJ 4 [vS ME (ae (bz ds)) FY,vS pA (ae (bz ds)) pc,vS (sM mG) mem.toNat mem.toNat,(vI (cc (bz ds) (ae (bz ds)):Int)),vS iA (ae inp) ic,vI 0,vI 0,vI 0,ay,vI 0,vB false,vI (max 0 (min fuel 4194304)),vI 0] rfl λw141 Pu=> ?_
 replace Pu:=Pu.nf;have BP:=cC [.pk Xs,.aM b1 68 [vI 0,vI 0,ay,vI 0],.row 129 3 (sM Ny) 1 1 [vT ⟨#[]⟩,ay,vS dA (ae ds) dc],.row 30 5 og (ae cs) mF (cs.flatMap eY.cells),.aM Ni 138 [vS ME (ae (bz ds)) FY,vS pA (ae (bz ds)) pc,vS (sM mG) mem.toNat mem.toNat,(vI (cc (bz ds) (ae (bz ds)):Int)),vS iA (ae inp) ic,vI 0,vI 0,vI 0,ay,vI 0,vB false,vI (max 0 (min fuel 4194304)),vI 0,vS og (ae cs) mF,vS qA (ae cs) qc],.row 9 1 An (ae cs) cn (cs.map (λf:eY=>Value.string f.nm)),.row 71 1 qA (ae cs) qc (RK qs),.row 42 4 ME (ae (bz ds)) FY ((bz ds).flatMap cR.cells),.row 3 1 pA (ae (bz ds)) pc (ints (th (bz ds) (ae (bz ds)))),.row 2 1 (sM mG) mem.toNat mem.toNat (ints (lyT (mX cs (ae cs)) (gJ (bz ds) (ae (bz ds))) mem.toNat (bz ds)))] (Pu.cast rfl);refine aE<|bt<|aV ?_;have QiS:=BP.cl (Mem.fi _ 5 1);have nH:=QiS.od [8,8,8,8,7,7,7,7,10,10,10] 11;have hqn:ae qs=ae cs:=by have h_:=aK List.length hqc;simpa using h_
 obtain⟨X,hXe⟩:∃y:RX,y=⟨yE qs cs ds mem inp fuel,(bz ds),Ni,og,mF,qA,qc,ME,FY,pA,pc,mG,iA,ic⟩:=⟨_,rfl⟩;obtain rfl:Ni=X.r:=by rw[hXe]
 have hX:X.WF:=by rw[hXe];exact QdO hI rP hqc Qep BH _ _ _ _ _ _ _ _ _ _
 obtain⟨zs,NF⟩:∃z:mv,z=z0 (lyT (mX cs (ae cs)) (gJ (bz ds) (ae (bz ds))) mem.toNat (bz ds)) (cc (bz ds) (ae (bz ds))):=⟨_,rfl⟩;have hG:fC X zs:=by rw[hXe,NF];exact QdI (QdH BH) Eb BH (by show 0<=min (max fuel 0) 4194304;omega)
 have Mn:=hX.ein;have hEX:X.E=yE qs cs ds mem inp fuel:=by rw[hXe]
 obtain⟨g,hgd⟩:∃g:Nat,g=(min (max fuel 0) 4194304).toNat+1:=⟨_,rfl⟩;have hZ:xv X.E.toEnv0 zs (g:Int) []:=by rw[hEX,hgd,NF];exact .inr ⟨by show min (max fuel 0) 4194304-0<(((min (max fuel 0) 4194304).toNat+1:Nat):Int);omega,⟨by rw[CU BH];exact EE (λnm v h=>Mn.names nm v (by rw[hEX];exact h)) (λnm v h=>Mn.data nm v (by rw[hEX];exact h)) (λd hd=>hI.dwi d (jx hd)) _,by show(0:Int)<=(cc (bz ds) (ae (bz ds)):Nat);omega,by show((cc (bz ds) (ae (bz ds)):Nat):Int)<=262144;omega⟩,⟨dv _,by show(0:Int)<=1200;omega⟩,λx hx=>by cases hx⟩
 have Jy:=cC [.aM X.r 138 [vS ME (ae (bz ds)) FY,vS pA (ae (bz ds)) pc,vS (sM mG) mem.toNat mem.toNat,(vI (cc (bz ds) (ae (bz ds)):Int)),vS iA (ae inp) ic,vI 0,vI 0,vI 0,ay,vI 0,vB false,vI (min (max fuel 0) 4194304),vI 0,vS og (ae qs) mF,vS qA (ae qs) qc],.row 2 1 (sM mG) mem.toNat mem.toNat (ints (lyT (mX cs (ae cs)) (gJ (bz ds) (ae (bz ds))) mem.toNat (bz ds))),.row 5 1 none 0 0 [],.pk Xs,.aM b1 68 [vI 0,vI 0,ay,vI 0],.row 129 3 (sM Ny) 1 1 [vT ⟨#[]⟩,ay,vS dA (ae ds) dc],.row 30 5 og (ae cs) mF (cs.flatMap eY.cells),.row 9 1 An (ae cs) cn (cs.map (λf:eY=>Value.string f.nm)),.row 71 1 qA (ae cs) qc (RK qs),.row 42 4 ME (ae (bz ds)) FY ((bz ds).flatMap cR.cells),.row 3 1 pA (ae (bz ds)) pc (ints (th (bz ds) (ae (bz ds))))] (nH.cast (by rw[QdG,hqn]));have EZ:=cC [TW X zs none 0,Mb X zs,J6 zs none 0,.pk Xs,.aM b1 68 [vI 0,vI 0,ay,vI 0],.row 129 3 (sM Ny) 1 1 [vT ⟨#[]⟩,ay,vS dA (ae ds) dc],.row 30 5 og (ae cs) mF (cs.flatMap eY.cells),.row 9 1 An (ae cs) cn (cs.map (λf:eY=>Value.string f.nm)),.row 71 1 qA (ae cs) qc (RK qs),.row 42 4 ME (ae (bz ds)) FY ((bz ds).flatMap cR.cells),.row 3 1 pA (ae (bz ds)) pc (ints (th (bz ds) (ae (bz ds))))] (Jy.cast (by rw[hXe,NF];rfl));refine an 1<|aE<|df 6 ?_;intro aC fr;refine iJ (λn_ a_ w_=>∃(jb:Nat) (zj:mv) (uA:ar) (uB:Nat),n_=ae bg-jb/\Fr a_ 154 [(2,vS gA (ae bg) gc),(12,pT b1 0),(15,pT X.r 0),(20,nV jb)]/\Mem bI w w_ [TW X zj uA uB,Mb X zj,J6 zj uA uB,.pk Xs,.aM b1 68 [vI 0,vI 0,ay,vI 0],.row 129 3 (sM Ny) 1 1 [vT ⟨#[]⟩,ay,vS dA (ae ds) dc],.row 30 5 og (ae cs) mF (cs.flatMap eY.cells),.row 9 1 An (ae cs) cn (cs.map (λf:eY=>Value.string f.nm)),.row 71 1 qA (ae cs) qc (RK qs),.row 42 4 ME (ae (bz ds)) FY ((bz ds).flatMap cR.cells),.row 3 1 pA (ae (bz ds)) pc (ints (th (bz ds) (ae (bz ds))))]/\(jb<=ae bg)/\(fC X zj)/\(xv X.E.toEnv0 zj (g:Int) [])/\(gn (kK X.E.toEnv0 g bg zs.s) (zj.go (kK X.E.toEnv0 g (bg.drop jb))))) (n:=_) ⟨0,zs,none,0,rfl,fr.kp [2,12,15,20],EZ,cI _,hG,hZ,(by rw[y8,NF];exact rfl)⟩ ?_;clear fr aC EZ;rintro n aC Qh3 ⟨jb,zj,uA,uB,rfl,fr,pZ,hjb,hGj,hZj,hrj⟩;revert aC;refine bt<|aV<|an 5 ?_;obtain⟨JO,Qav⟩:∃B:Bool,B=decide ((jb:Int)<(ae bg:Int)):=⟨_,rfl⟩;refine cT [(2,vS gA (ae bg) gc),(12,pT b1 0),(15,pT X.r 0),(20,nV jb),(127,(vB (decide ((jb:Int)<(ae bg:Int)))))] ?_;rw[<-Qav];have Qf9:JO=true↔((jb:Int)<(ae bg:Int)):=by rw[Qav];simp only[aU]
 clear Qav;intro aC fr;refine dx 4 9 [131] fr (news:=[(131,(cond JO (vP (aq X.r 10)) undef))]) (by cases JO<;>kernel_rfl) ?_;intro aC fr;refine aH (B:=JO) (d:=(some 132)) (vB zj.ov) fr (by cases JO<;>kernel_rfl) (λhB hh=> ?_) ?_;cases JO<;>try exact absurd hB dQ
 have c154:((jb:Int)<(ae bg:Int)):=Qf9.1 rfl;exact bJ (some 132) (aq X.r 10) fr kR (vB zj.ov) (af (pZ.get 0 rfl) rfl) hh;intro aC fr;refine dx 2 12 [134] fr (news:=[(134,vB (JO&&(!zj.ov)))]) (by cases JO<;>kernel_rfl)<|aE<|fZ (JO&&(!zj.ov)) (((jb:Int)<(ae bg:Int))/\(¬(zj.ov=true))) (by simp only[bu,mw,Qf9]) (λQl4=> ?_) (λQl4=> ?_);refine cE<|bt<|df 7<|dR ?_;obtain⟨b,hb⟩:=aP (l:=bg) (i:=jb) oM;refine an 4 ?_;obtain⟨Qga,rfl⟩:=rd_some (pZ.ro hI.bg) (by rw[bl];omega);refine ga Qga (ae bg) 1 (jb:Int)<|bH (aN Qga (jb:Int) 1) _ (bW (j:=jb) (pZ.ro hI.bg) rfl (gm hb))<|eV (vf X zj uA uB Qh3 hX (pZ.ei 0 rfl) (RL hXe rP hqc hqX (pZ.ei 3 rfl) (pZ.ei 6 rfl) (pZ.ei 9 rfl) (pZ.ei 10 rfl) (pZ.ei 8 rfl) (hI.inr.at_ pZ) (λx hx=>((hI.fn x hx).at_ pZ))) b) ?_;rintro _ Qpd ⟨rfl,Ql5⟩;have JP:=pZ.cl Ql5;refine eV (Um X hX g ((jd X.E.names b).getD 0) [] none 0 zj uA uB Qpd hGj hZj (Mem.dd (l:=fJ X zj uA uB) JP) (RL hXe rP hqc hqX (RO.tT (l:=fJ X zj uA uB) JP 0 rfl) (RO.tT (l:=fJ X zj uA uB) JP 3 rfl) (RO.tT (l:=fJ X zj uA uB) JP 6 rfl) (RO.tT (l:=fJ X zj uA uB) JP 7 rfl) (RO.tT (l:=fJ X zj uA uB) JP 5 rfl) (hI.inr.vD (l:=fJ X zj uA uB) JP) (λx hx=>((hI.fn x hx).vD (l:=fJ X zj uA uB) JP))) RO.QmZ dQ) ?_;rintro _ w172 ⟨x167,z168,Ql6,Ql7,rfl,QiT,Qgb,Ql8⟩;have Qaw:=cC [TW X z168 Ql6 Ql7,Mb X z168,J6 z168 Ql6 Ql7,.pk Xs,.aM b1 68 [vI 0,vI 0,ay,vI 0],.row 129 3 (sM Ny) 1 1 [vT ⟨#[]⟩,ay,vS dA (ae ds) dc],.row 30 5 og (ae cs) mF (cs.flatMap eY.cells),.row 9 1 An (ae cs) cn (cs.map (λf:eY=>Value.string f.nm)),.row 71 1 qA (ae cs) qc (RK qs),.row 42 4 ME (ae (bz ds)) FY ((bz ds).flatMap cR.cells),.row 3 1 pA (ae (bz ds)) pc (ints (th (bz ds) (ae (bz ds))))] (JP.uX Ql8);exact aE<|dR<|an 1<|eX ((jb:Int)+1)<|an 1<|aE λaC fr=>⟨ae bg-(jb+1),oM,jb+1,z168,Ql6,Ql7,rfl,fr.kp [2,12,15,20],Qaw,oM,QiT,hZj.call (Ph g _ _ _) (λhL=>Ma Mn g _ _ _ hL) Qgb (λhL _=>hL),Pm hrj hb Qgb⟩
 refine gZ 6<|ia<|aV<|an 3<|eV (nF X zj uA uB Qh3 hX hGj (Mem.dd (l:=fJ X zj uA uB) pZ) 1 0) ?_;rintro _ w176 ⟨rfl,Ql9⟩;have UU:=cC [TW X (zj.fin 1 0) uA uB,Mb X (zj.fin 1 0),J6 (zj.fin 1 0) uA uB,.pk Xs,.aM b1 68 [vI 0,vI 0,ay,vI 0],.row 129 3 (sM Ny) 1 1 [vT ⟨#[]⟩,ay,vS dA (ae ds) dc],.row 30 5 og (ae cs) mF (cs.flatMap eY.cells),.row 9 1 An (ae cs) cn (cs.map (λf:eY=>Value.string f.nm)),.row 71 1 qA (ae cs) qc (RK qs),.row 42 4 ME (ae (bz ds)) FY ((bz ds).flatMap cR.cells),.row 3 1 pA (ae (bz ds)) pc (ints (th (bz ds) (ae (bz ds))))] (pZ.uX Ql9);refine aE<|aV<|an 4<|k8 (aq X.r 6) [vI (zj.fin 1 0).k,vI (zj.fin 1 0).c,vS uA (zj.fin 1 0).s.out.length uB,vI (zj.fin 1 0).s.steps] (yH (UU.get 0 rfl) 6 rfl)<|sW UU 4 [vI (zj.fin 1 0).k,vI (zj.fin 1 0).c,vS uA (zj.fin 1 0).s.out.length uB,vI (zj.fin 1 0).s.steps] rfl λw178 UW=> ?_
 replace UW:=UW.nf;refine aE<|cv ?_;intro aC fr;refine NO (ad:=aZ b1) (vs:=[vI (zj.fin 1 0).k,vI (zj.fin 1 0).c,vS uA (zj.fin 1 0).s.out.length uB,vI (zj.fin 1 0).s.steps]) fr rfl kR kR (bw (UW.get 4 rfl)) ?_;refine⟨_,rfl,?_⟩;have Qax:=UW.od [2] 1;have ho_:=T2 hrj (λh_=>Ql4 ⟨by have:=h_.1;omega,dj.1 h_.2⟩);have he_:iL fs ds bg mem inp fuel=((zj.fin 1 0).k,(zj.fin 1 0).c,(zj.fin 1 0).s.out,(zj.fin 1 0).s.steps):=by rw[<-ho_,hEX,hgd,NF];unfold iL;rw[ao Qep,<-QhM (mem:=mem) (inp:=inp) (fuel:=fuel) rP hqc,Qdp,QcI rfl BH];unfold lyM;rw[ax (by exact BH),CU BH];rfl
 rw[he_];exact⟨uA,uB,rfl,Qax⟩
theorem Qeu(k c st k2 c2 st2:Int)(o o2:ah)(A A2:ar)(ac ac2:Nat)(w:World)(hA:RO bI w (.rd A (vK o)))(hA2:RO bI w (.rd A2 (vK o2))):Calls Tryz.prog 47 #[(.agg #[vI k,vI c,vS A (ae o) ac,vI st]),(.agg #[vI k2,vI c2,vS A2 (ae o2) ac2,vI st2])] w (gp λv w'=>v=vB (decide (k=k2/\c=c2/\(strOfNums o).toList=(strOfNums o2).toList))/\Mem bI w w' []):=by
 refine iI 26 [(.agg #[vI k,vI c,vS A (ae o) ac,vI st]),(.agg #[vI k2,vI c2,vS A2 (ae o2) ac2,vI st2])] Tryz.func47 ?_;have hM:=Mem.init w;refine aV<|sU hM 68 (.agg #[vI k,vI c,vS A (ae o) ac,vI st]) [vI k,vI c,vS A (ae o) ac,vI st] λb1 w2 mS M3=> ?_
 replace M3:=M3.nf;clear hM;refine sU M3 68 (.agg #[vI k2,vI c2,vS A2 (ae o2) ac2,vI st2]) [vI k2,vI c2,vS A2 (ae o2) ac2,vI st2] λb4 w5 XE M6=> ?_
 replace M6:=M6.nf;refine an 1<|aE<|aV<|an 1<|bH (aZ b1) _ (af (M6.get 0 rfl) rfl)<|an 1<|bH (aZ b4) _ (af (M6.get 1 rfl) rfl)<|an 2 ?_;obtain⟨B7,GM⟩:∃B:Bool,B=((k:Int)==k2):=⟨_,rfl⟩;refine cT [(2,pT b1 0),(3,pT b4 0),(10,(vB ((k:Int)==k2)))] ?_;rw[<-GM];have iB7:B7=true↔((k:Int)=k2):=by rw[GM];simp only[az]
 clear GM;intro aC fr;refine dx 1 7 [11] fr (news:=[(11,cond B7 (pT b1 1) undef)]) (by cases B7<;>kernel_rfl) ?_;intro aC fr;refine aH (B:=B7) (d:=(some 12)) (vI c) fr (by cases B7<;>kernel_rfl) (λhB hh=> ?_) ?_;cases B7<;>first|(exact absurd hB dQ)|skip
 have c7:((k:Int)=k2):=iB7.1 rfl;exact bJ (some 12) (aq b1 1) fr kR (vI c) (af (M6.get 0 rfl) rfl) hh;intro aC fr;refine dx 1 9 [13] fr (news:=[(13,cond B7 (pT b4 1) undef)]) (by cases B7<;>kernel_rfl) ?_;intro aC fr;refine aH (B:=B7) (d:=(some 14)) (vI c2) fr (by cases B7<;>kernel_rfl) (λhB hh=> ?_) ?_;cases B7<;>first|(exact absurd hB dQ)|skip
 have c7:((k:Int)=k2):=iB7.1 rfl;exact bJ (some 14) (aq b4 1) fr kR (vI c2) (af (M6.get 1 rfl) rfl) hh;intro aC fr;refine dx 3 13 [16,17] fr (news:=[(16,(vB (B7&&((c:Int)==c2)))),(17,(vB (B7&&((c:Int)==c2))))]) (by cases B7<;>kernel_rfl) ?_;intro aC fr;obtain⟨B20,QiU⟩:∃B:Bool,B=(B7&&((c:Int)==c2)):=⟨_,rfl⟩;revert aC;refine cT [(2,pT b1 0),(3,pT b4 0),(17,(vB (B7&&((c:Int)==c2))))] ?_;rw[<-QiU];have QiV:B20=true↔(((k:Int)=k2)/\((c:Int)=c2)):=by rw[QiU];simp only[bu,az,iB7]
 clear QiU;intro aC fr;refine dx 1 14 [18] fr (news:=[(18,cond B20 (pT b1 2) undef)]) (by cases B20<;>kernel_rfl) ?_;intro aC fr;refine aH (B:=B20) (d:=(some 19)) (vS A (ae o) ac) fr (by cases B20<;>kernel_rfl) (λhB hh=> ?_) ?_;cases B20<;>first|(exact absurd hB dQ)|skip
 have Nk:(((k:Int)=k2)/\((c:Int)=c2)):=QiV.1 rfl;exact bJ (some 19) (aq b1 2) fr kR (vS A (ae o) ac) (af (M6.get 0 rfl) rfl) hh;intro aC fr;cases B20;have Nk:¬(((k:Int)=k2)/\((c:Int)=c2)):=mD QiV.2;revert aC;refine an 7<|aE<|cv<|dq (vB false) ?_;have hR:false=true↔False:=sI;have AE:=M6.od [] 0;exact⟨bx hR (⟨λh_=>h_.elim,λh_=>by have h1:=h_.1;have h2:=h_.2.1;omega⟩),AE⟩;have Nk:(((k:Int)=k2)/\((c:Int)=c2)):=QiV.1 rfl;revert aC;refine zcs o A (ae o) ac rfl (M6.ro hA)<|an 1<|bH (aq b4 2) _ (af (M6.get 1 rfl) rfl)<|zcs o2 A2 (ae o2) ac2 rfl (M6.ro hA2)<|an 3<|aE<|cv<|dq (vB (((strOfNums o):bo).toList==((strOfNums o2):bo).toList)) ?_;have hR:(((strOfNums o):bo).toList==((strOfNums o2):bo).toList)=true↔(((strOfNums o)).toList=((strOfNums o2)).toList):=by simp only[az]
 have ue:=M6.od [] 0;exact⟨bx hR (⟨λh_=>⟨oM,oM,h_⟩,λh_=>h_.2.2⟩),ue⟩
set_option maxHeartbeats 1000000 in
theorem Vg(fs:List eY)(fA:ar)(fc:Nat)(bg:List bo)(gA:ar)(gc:Nat)(inp:ah)(iA:ar)(ic:Nat)(fuel:Int)(gs:List eY)(hA:ar)(hc:Nat)(w:World)(hI:rC w fs fA [] none bg gA inp iA ic)(hI2:rC w gs hA [] none bg gA inp iA ic)(qY:fg (ae inp))(hK:YC fs gs bg inp fuel):Calls Tryz.prog 28 #[vS fA (ae fs) fc,vS hA (ae gs) hc,ay,vS gA (ae bg) gc,vI 500,vS iA (ae inp) ic,vI fuel] w (gp λv w'=>v=vB true/\Mem bI w w' []):=by
 obtain⟨ra,KF⟩:∃r:Out,r=iL fs [] bg 500 inp fuel:=⟨_,rfl⟩;obtain⟨rb,KO⟩:∃r:Out,r=iL gs [] bg 500 inp ra.2.2.2:=⟨_,rfl⟩;refine iI 41 [vS fA (ae fs) fc,vS hA (ae gs) hc,ay,vS gA (ae bg) gc,vI 500,vS iA (ae inp) ic,vI fuel] Tryz.func28 ?_;have hM:=Mem.init w;refine br<|aV<|an 6<|eV ((by have h9:=R0 fs fA fc [] rfl none 0 bg gA gc 500 inp iA ic fuel w (hI.QhQ hM) qY;rw[<-KF]at h9;exact h9)) ?_;rintro _ w3 ⟨Qh,Qi,rfl,M4x⟩;have M4:=hM.cl M4x;clear M4x hM;refine sV M4 68 [vI 0,vI 0,ay,vI 0] λb5 w6 hb5 M7=> ?_
 replace M7:=M7.nf;refine sW M7 1 [vI ra.1,vI ra.2.1,vS Qh (ae ra.2.2.1) Qi,vI ra.2.2.2] rfl λw8 M9=> ?_
 replace M9:=M9.nf;refine aE<|bt<|aV<|an 1<|bH (aZ b5) _ (af (M9.get 1 rfl) rfl)<|an 2 ?_;obtain⟨qz,yg⟩:∃B:Bool,B=((ra.1:Int) !=1):=⟨_,rfl⟩;refine cT [(1,vS hA (ae gs) hc),(2,ay),(3,vS gA (ae bg) gc),(4,vI 500),(5,vS iA (ae inp) ic),(15,pT b5 0),(26,(vB ((ra.1:Int) !=1)))] ?_;rw[<-yg];have FI:qz=true↔((ra.1:Int)≠1):=by rw[yg];simp only[cQ]
 clear yg;intro aC fr;refine dx 1 5 [27] fr (news:=[(27,cond qz (pT b5 0) undef)]) (by cases qz<;>kernel_rfl) ?_;intro aC fr;refine aH (B:=qz) (d:=(some 28)) (vI ra.1) fr (by cases qz<;>kernel_rfl) (λhB hh=> ?_) ?_;cases qz<;>first|(exact absurd hB dQ)|skip
 have uc:((ra.1:Int)≠1):=FI.1 rfl;exact bJ (some 28) (aZ b5) fr kR (vI ra.1) (af (M9.get 1 rfl) rfl) hh;intro aC fr;refine dx 2 8 [30] fr (news:=[(30,(vB (qz&&((ra.1:Int) !=2))))]) (by cases qz<;>kernel_rfl)<|aE<|fZ (qz&&((ra.1:Int) !=2)) (((ra.1:Int)≠1)/\((ra.1:Int)≠2)) (by simp only[bu,cQ,FI]) (λRP=> ?_) (λRP=> ?_);refine br<|cv<|dq (vB true) ?_;have vp:=M9.od [] 0;exact⟨rfl,vp⟩;refine cE<|bt ?_;have hkk:=hK (by rw[<-KF];omega);rw[<-KF]at hkk;rw[<-KO]at hkk;obtain⟨hk1,hk2,hk3⟩:=hkk;refine eW [1,2,3,4,5,15] ?_;intro aC fr;refine IH (bE [.bd (.agg #[vI ra.1,vI ra.2.1,vS Qh (ae ra.2.2.1) Qi,vI ra.2.2.2]),eS hA (ae gs) hc,eS none 0 0,eS gA (ae bg) gc,eI 500,eS iA (ae inp) ic,eR b5 3,eI ra.2.2.2,Spec.free,Spec.free,Spec.free]) (λls vs w_=>match ls 10 with|true=>(∃(Cd:ar) (Ce:Nat),vs 8=(.agg #[vI rb.1,vI rb.2.1,vS Cd (ae rb.2.2.1) Ce,vI rb.2.2.2])/\vs 9=(vB true)/\vs 10=(vB true)/\Mem bI w w_ [.row 5 1 Qh (ae ra.2.2.1) Qi (vK ra.2.2.1),.aM b5 68 [vI ra.1,vI ra.2.1,vS Qh (ae ra.2.2.1) Qi,vI ra.2.2.2],.row 5 1 Cd (ae rb.2.2.1) Ce (vK rb.2.2.1)])|false=>(match ls 9 with|true=>(∃(Cd:ar) (Ce:Nat),vs 8=(.agg #[vI rb.1,vI rb.2.1,vS Cd (ae rb.2.2.1) Ce,vI rb.2.2.2])/\vs 9=(vB true)/\Mem bI w w_ [.row 5 1 Qh (ae ra.2.2.1) Qi (vK ra.2.2.1),.aM b5 68 [vI ra.1,vI ra.2.1,vS Qh (ae ra.2.2.1) Qi,vI ra.2.2.2],.row 5 1 Cd (ae rb.2.2.1) Ce (vK rb.2.2.1)])|false=>(match ls 8 with|true=>(∃(Cd:ar) (Ce:Nat),vs 8=(.agg #[vI rb.1,vI rb.2.1,vS Cd (ae rb.2.2.1) Ce,vI rb.2.2.2])/\Mem bI w w_ [.row 5 1 Qh (ae ra.2.2.1) Qi (vK ra.2.2.1),.aM b5 68 [vI ra.1,vI ra.2.1,vS Qh (ae ra.2.2.1) Qi,vI ra.2.2.2],.row 5 1 Cd (ae rb.2.2.1) Ce (vK rb.2.2.1)])|false=>(Mem bI w w_ [.row 5 1 Qh (ae ra.2.2.1) Qi (vK ra.2.2.1),.aM b5 68 [vI ra.1,vI ra.2.1,vS Qh (ae ra.2.2.1) Qi,vI ra.2.2.2]])))) fr (fU (.bd (.bd (.bd (.bd (.bd (.bd (.bd (.bd (.free (.free (.free .nil)))))))))))) (M9.aw (Mem.drew _)) (ox (s3 lz ?_ bR bR bR bR bR bR (pz (aq b5 3) (vI ra.2.2.2) (λ_ _ _ _ h=>h) ?_)) ?_ ?_ ?_) ?_;intro fO w_ ls vs dy hJ bT bP hp hF;refine lX (g0:=none) ?_;replace hF:Fr fO 41 [(15,pT b5 0)]:=hF.kp [15];have f9:=bf 9 11 bP bT;have f10:=bf 10 11 bP bT;have ba:=hJ;simp only[f9,f10]at ba;cases fu:ls 8;simp only[fu]at ba;refine jy (kR:aB _ 0=some (some 31,.load 68 (.tmp 15),68,none)) hF kR kR (k':=1) rfl (ad:=aZ b5) (vs:=[vI ra.1,vI ra.2.1,vS Qh (ae ra.2.2.1) Qi,vI ra.2.2.2]) kR kR (bw (ba.get 1 rfl)) ?_;intro a2 ea _;refine aX kR ?_;exact bB (d:=some 31) kR ea rfl hJ;simp only[fu]at ba;obtain⟨_,_,_,ba⟩:=ba;refine jy (kR:aB _ 0=some (some 31,.load 68 (.tmp 15),68,none)) hF kR kR (k':=1) rfl (ad:=aZ b5) (vs:=[vI ra.1,vI ra.2.1,vS Qh (ae ra.2.2.1) Qi,vI ra.2.2.2]) kR kR (bw (ba.get 1 rfl)) ?_;intro a2 ea _;refine aX kR ?_;exact bB (d:=some 31) kR ea rfl hJ;intro w_ ls vs hJ bT bP hp;have f8:=bf 8 11 bP bT;have f9:=bf 9 11 bP bT;have f10:=bf 10 11 bP bT;have ba:=hJ;simp only[f8,f9,f10]at ba;exact(af (ba.get 1 rfl) rfl);intro fO w_ ls vs dy hJ bT bP hp hF;refine lX (g0:=none) ?_;replace hF:Fr fO 41 [(32,vS hA (ae gs) hc),(33,ay),(34,vS gA (ae bg) gc),(35,vI 500),(36,vS iA (ae inp) ic),(38,vI ra.2.2.2)]:=hF.kp [32,33,34,35,36,38];have f8:ls 8=false:=bT;have f9:=bf 9 11 bP bT;have f10:=bf 10 11 bP bT;have ba:=hJ;simp only[f8,f9,f10]at ba;refine jQ (kR:aB _ 0=some (some 39,(.call {callee:=(.value (.func 46)),args:=#[.tmp 32,.tmp 33,.tmp 34,.tmp 35,.tmp 36,.tmp 38],argTypes:=#[22,38,23,3,24,3]}),68,none)) hF kR kR (k':=1) rfl (f:=46) (vs:=[vS hA (ae gs) hc,ay,vS gA (ae bg) gc,vI 500,vS iA (ae inp) ic,vI ra.2.2.2]) (cap:=[]) kR kR kR ((by have h9:=R0 gs hA hc [] rfl none 0 bg gA gc 500 inp iA ic ra.2.2.2 w_ (hI2.QhQ ba) qY;rw[<-KO]at h9;exact h9)) ?_;rintro _ w2 ⟨E7,E8,rfl,fI⟩ a2 ea _;have Fv:=ba.call fI;refine aX kR ?_;refine bB (d:=some 39) kR ea trivial ?_;show match ls 10 with|true=>_|false=>(match ls 9 with|true=>_|false=>(∃(Cd:ar) (Ce:Nat),_))
 rw[f10,f9];exact⟨E7,E8,rfl,Fv⟩;intro fO w_ ls vs dy hJ bT bP hp hF;refine lX (g0:=none) ?_;replace hF:Fr fO 41 [(31,(.agg #[vI ra.1,vI ra.2.1,vS Qh (ae ra.2.2.1) Qi,vI ra.2.2.2])),(39,vs 8)]:=hF.kp [31,39];have f8:=dH 8 11 bP hp;have f9:ls 9=false:=bT;have f10:=bf 10 11 bP bT;have ba:=hJ;simp only[f8,f9,f10]at ba;obtain⟨E7,E8,rN,ba⟩:=ba;try rw[rN]at hF
 refine jQ (kR:aB _ 0=some (some 40,(.call {callee:=(.value (.func 47)),args:=#[.tmp 31,.tmp 39],argTypes:=#[68,68]}),4,none)) hF kR kR (k':=1) rfl (f:=47) (vs:=[(.agg #[vI ra.1,vI ra.2.1,vS Qh (ae ra.2.2.1) Qi,vI ra.2.2.2]),(.agg #[vI rb.1,vI rb.2.1,vS E7 (ae rb.2.2.1) E8,vI rb.2.2.2])]) (cap:=[]) kR kR kR ((by have h9:=Qeu ra.1 ra.2.1 ra.2.2.2 rb.1 rb.2.1 rb.2.2.2 ra.2.2.1 rb.2.2.1 Qh E7 Qi E8 w_ (RO.of (aF (ba.get 0 rfl))) (RO.of (aF (ba.get 2 rfl)));rw[jO (show ra.1=rb.1/\ra.2.1=rb.2.1/\(strOfNums ra.2.2.1).toList=(strOfNums rb.2.2.1).toList from⟨hk1.symm,hk2.symm,by rw[hk3]⟩)]at h9;exact h9)) ?_;rintro _ w2 ⟨rfl,fI⟩ a2 ea _;have Fv:=ba.call fI;refine aX kR ?_;refine bB (d:=some 40) kR ea trivial ?_;show match ls 10 with|true=>_|false=>(∃(Cd:ar) (Ce:Nat),_)
 rw[f10];exact⟨E7,E8,rN,rfl,Fv⟩;intro fO w_ ls vs dy hJ bT bP hp hF;refine lX (g0:=none) ?_;replace hF:Fr fO 41 [(40,vs 9)]:=hF.kp [40];have f8:=dH 8 11 bP hp;have f9:=dH 9 11 bP hp;have f10:ls 10=false:=bT;have ba:=hJ;simp only[f8,f9,f10]at ba;obtain⟨E7,E8,rN,Hu,ba⟩:=ba;try rw[rN]at hF
 try rw[Hu]at hF
 have fI:=ba;refine ij (kR:aB _ 0=some (some 14,.assign (.tmp 40),4,none)) hF kR kR (k':=1) rfl (v:=(vB true)) kR ?_;intro a2 ea _;refine aX kR ?_;refine bB (d:=some 14) kR ea trivial ?_;show∃(Cd:ar) (Ce:Nat),_;exact⟨E7,E8,rN,Hu,rfl,fI⟩;intro aC w27 ls vs cY ue hv fr;simp only[show ls 10=true from cY 10 dQ]at ue;revert aC;refine cT [(14,vs 10)] ?_;obtain⟨Cd,Ce,rN,Hu,yC,ue⟩:=ue;try rw[rN]
 try rw[Hu]
 try rw[yC]
 clear rN Hu yC;clear cY hv fr aC M9;clear vs ls;refine cv<|dq (vB true) ?_;have ob:=ue.od [] 0;exact⟨rfl,ob⟩
end Go.Proofs.YtejbeeaomokjpaaGreat
