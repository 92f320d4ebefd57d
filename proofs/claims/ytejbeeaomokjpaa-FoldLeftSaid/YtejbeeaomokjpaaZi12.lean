/-
  Texts of the proof, part 12.
-/
import Derived.Test.YtejbeeaomokjpaaZi11
import Derived.Scope
set_option maxRecDepth 10000
namespace Go.Mor
open Go.RowKit
end Go.Mor
namespace Go.Mor
open Go.RowKit
theorem zB{w:World}{g t:Nat}{cs vs:aW}(h:(bo.au g t cs).holds w)(off:Nat)(he:(cs.drop off).take vs.length=vs)(j:Nat)(v:Value)(hj:vs[j]?=some v):w.cell? (((ak g off):Addr).add j)=some v:=by
 have h1:cs[off+j]?=some v:=by have h2:=hj;rw[←he,List.getElem?_take_of_lt (List.getElem?_eq_some_iff.1 hj).1,List.getElem?_drop]at h2;exact h2
 have e:((ak g off):Addr).add j=⟨g,off+j,none⟩:=by unfold Addr.add;split<;>simp_all
 rw[e];exact ae h h1
end Go.Mor
namespace Go.Mor
open Go.RowKit
def cnC(c:Bool×Int):aW:=[.bool c.1,vI c.2]
def nv(kn:KN):aW:=kn.flatMap cnC
theorem QcO(c:Bool×Int):(cnC c).length=2:=rfl
theorem SL(kn:KN):(nv kn).length=kn.length*2:=hX QcO kn
theorem Xf{w:World}{A:aX}{ad:Addr}{kn:KN}{i:Nat}{c:Bool×Int}(h:(bo.rd A (nv kn)).holds w)(hA:A=some ad)(hi:kn[i]?=some c):∀j v,[.bool c.1,vI c.2][j]?=some v→w.cell? ((ad.add (i*2)).add j)=some v:=e8 (cs:=cnC c) (jt (f:=cnC) QcO oM h) hA (by rw[List.getElem?_map,hi];rfl)
theorem Qdm{kn:KN}{v:Int}(h0:0≤v)(h1:v<(kn.length:Int)):∃c,kn[v.toNat]?=some c∧XU kn v=c.1∧qv kn v=c.2:=by
 obtain⟨c,hc⟩:=bu (l:=kn) (i:=v.toNat) oM;refine⟨c,hc,?_,?_⟩
 ·unfold XU;rw[List.getD_eq_getElem?_getD,hc];rfl
 ·unfold qv;rw[List.getD_eq_getElem?_getD,hc];rfl
theorem Qfi{kn:KN}{v:Int}(h1:v.toNat<kn.length)(c:Bool×Int):setAt (nv kn) (v.toNat*2) [.bool c.1,vI c.2]=nv (kn.set v.toNat c):=Pe QcO c kn v.toNat h1
theorem Qgm{l:List aO}{m:Nat}(h1:m<l.length)(y:aO):setAt (zL l) ((m:Int).toNat*5) [vI y.op,vI y.dst,vI y.n,.string y.name,.slice y.A y.args.length y.c]=zL (l.set m y):=Pe gI y l m h1
theorem Qgn(n:Nat):(List.replicate n [Value.bool false,vI 0]).flatten=nv (List.replicate n (false,0)):=by
 unfold nv;rw[List.flatMap_replicate];rfl
section
variable {kn : KN} {l : List Int} {j : Nat} {a : Int}
theorem QdM(ha:l[j]?=some a)(h:wu kn (l.take j)=true)(hk:XU kn a=true):wu kn (l.take (j+1))=true:=by
 obtain⟨q1,q2⟩:=List.getElem?_eq_some_iff.1 ha;unfold wu at*;rw[kj q1,q2,List.all_append,h];simp[hk]
theorem Qfj(ha:l[j]?=some a)(hk:XU kn a=false):wu kn l=false:=by
 unfold wu;rw[List.all_eq_false];exact⟨a,cc ha,by simp[hk]⟩
end
def yA(kn:KN)(l:List aO)(m:Nat)(dst r1 r2:Int):List aO×KN:=if r2=0 then(l.set m ⟨1,dst,r1,⟨#[]⟩,none,0,[]⟩,kn.set dst.toNat (true,r1))else(l,kn)
theorem Qfk{kn:KN}{op dst n:Int}{nm:cV}{A:aX}{c:Nat}{a0 a1:Int}(h:op<40):mi kn ⟨op,dst,n,nm,A,c,[a0,a1]⟩=nI (op-16) (qv kn a0) (qv kn a1):=by
 unfold mi;rw[dd (by show¬40≤op;omega)];rfl
theorem Qfl{kn:KN}{op dst n:Int}{nm:cV}{A:aX}{c:Nat}{a0:Int}(h:40≤op):mi kn ⟨op,dst,n,nm,A,c,[a0]⟩=Gh (op-40) (qv kn a0):=by
 unfold mi;rw[eh (show 40≤op from h)];rfl
structure Qhy(n:Nat)(x:bz):Prop where
 li:x.insts.length≤20000
 al:∀i,i∈x.insts→i.args.length≤20000∧(∀a,a∈i.args→0≤a∧a<(n:Int))∧i.op≤43
 sh:∀i,i∈x.insts→16<i.op→((i.op<40∧i.args.length=2)∨(40≤i.op∧i.args.length=1))∧0≤i.dst∧i.dst<(n:Int)
 fv:x.e=1→0≤x.v∧x.v<(n:Int)
theorem QgY{α:Type}{l:List α}(h:l.length=2):∃a b,l=[a,b]:=by
 match l,h with
 |[a,b],_=>exact⟨a,b,rfl⟩
theorem QgZ{α:Type}{l:List α}(h:l.length=1):∃a,l=[a]:=by
 match l,h with
 |[a],_=>exact⟨a,rfl⟩
section
variable {n : Nat} {nm : ByteArray} {pa va : Int} {gs : List bz} {x : bz}
theorem Qep(kx:va=(n:Int))(h:vU nm pa va (gs.map bz.k))(jv:(hY (fK (gs.map bz.k)):Int)≤20000):∀x,x∈gs→Qhy n x:=by
 intro x hx;have nB:x.k∈gs.map bz.k:=dB.2 ⟨x,hx,rfl⟩;obtain⟨k,hk⟩:=en.1 nB;have RM:∀(l:List Nat) (a:Nat),a∈l→a≤l.sum:=by
  intro l;induction l with
  |nil=>intro a h;cases h
  |cons b l ih=>
   intro a h;rw[Qcm];rcases iR.1 h with h|h
   ·omega
   ·have:=ih a h;omega
 have hs:=vR (gs.map bz.k);have hl:(fun x:gO=>x.ah.length+x.insts.length) x.k≤((gs.map bz.k).map (fun x=>x.ah.length+x.insts.length)).sum:=RM _ _ (dB.2 ⟨x.k,nB,rfl⟩);have xo:x.k.ah.length+x.k.insts.length≤((gs.map bz.k).map (fun x=>x.ah.length+x.insts.length)).sum:=hl;have q8:x.k.insts.length=x.insts.length:=ep ..;have ZJ:=h.par;have e0:∀i,i∈x.insts→i.e0∈x.k.insts:=fun i hi=>dB.2 ⟨i,hi,rfl⟩
 refine⟨oM,fun i hi=> ?_,fun i hi LB=> ?_,fun he=> ?_⟩
 ·have Ss:bJ i.e0:=h.Xv x.k nB _ (e0 i hi);have h2:=Ss.2;have hiv:=h.iv x.k nB _ (e0 i hi);have VX:i.e0.op=i.op:=rfl;have Vh:i.e0.args.length=i.args.length:=rfl;exact⟨oM,fun a ha=>by have:=hiv a ha;omega,oM⟩
 ·have Ss:bJ i.e0:=h.Xv x.k nB _ (e0 i hi);have h2:=Ss.2;have VX:i.e0.op=i.op:=rfl;have Vh:i.e0.args.length=i.args.length:=rfl;obtain⟨j,hj⟩:=en.1 (e0 i hi);have hd:=h.once.1 _ (sq.2 ⟨k,x.k.f,K3 hk,rfl,.inr ⟨j,i.e0,hj,by show aU i.op;unfold aU;omega,rfl,rfl⟩⟩);have LC:pa≤i.dst:=hd.1;have Vm:i.dst<va:=hd.2;exact⟨oM,oM,oM⟩
 ·have:=h.fv x.k nB (.inl he);have h1:0≤x.v:=this.1;have h2:x.v<va:=this.2;exact⟨h1,oM⟩
end
theorem Qeq(l:List aO)(z:KN):kt (l.map aO.e0) z=kt l z:=by
 unfold kt;rw[List.foldl_map];rfl
theorem QdN(l m:List aO)(z:KN):kt (l++m) z=kt m (kt l z):=by unfold kt;rw[QiT]
def Lg(gs:List bz):List aO:=gs.flatMap (fun x=>x.insts)
theorem Qer(gs:List bz)(n:Nat):qN (gs.map bz.k) n=kt (Lg gs) (List.replicate n (false,0)):=by
 unfold qN;rw[←Qeq (Lg gs)];congr 1;unfold sX Lg;rw[Qje,List.map_flatMap];rfl
theorem QdO{gs:List bz}{k:Nat}{x:bz}(hx:gs[k]?=some x):Lg (gs.take (k+1))=Lg (gs.take k)++x.insts:=by
 obtain⟨q1,q2⟩:=List.getElem?_eq_some_iff.1 hx;unfold Lg;rw[kj q1,q2,Qjb,D3,List.flatMap_nil,Od]
theorem Xp{l:List aO}{m:Nat}{i:aO}(hi:l[m]?=some i)(z:KN):kt (l.take (m+1)) z=if i.op=1 then(kt (l.take m) z).set i.dst.toNat (true,i.n)else kt (l.take m) z:=by
 obtain⟨q1,q2⟩:=List.getElem?_eq_some_iff.1 hi;rw[kj q1,q2,Xl]
theorem Qdn{l:List aO}{m:Nat}{i:aO}{ul:List aO}{kn jU:KN}{t2:Bool}(hi:l[m]?=some i)(h:(ul,jU,t2)=(l.take m).foldl mb ([],kn,false))(hd:q0 jU i):(ul++[rU jU i],jU.set i.dst.toNat (true,(mi jU i).1),true)=(l.take (m+1)).foldl mb ([],kn,false):=by
 rw[uh _ _ hi,←h,Gi hd]
theorem NR{l:List aO}{m:Nat}{i:aO}{ul:List aO}{kn jU:KN}{t2:Bool}(hi:l[m]?=some i)(h:(ul,jU,t2)=(l.take m).foldl mb ([],kn,false))(hd:¬q0 jU i):(ul++[i],jU,t2)=(l.take (m+1)).foldl mb ([],kn,false):=by
 rw[uh _ _ hi,←h,Hv hd]
theorem Qcc{l:List aO}{m:Nat}{ul:List aO}{kn jU:KN}{t2:Bool}(hm:m≤l.length)(h:(ul,jU,t2)=(l.take m).foldl mb ([],kn,false)):ul.length=m∧jU.length=kn.length:=by
 have:=QbP kn l m hm;unfold oH at this;rw[←h]at this;exact⟨by have:=this.less.1;rw[Qct]at this;simp only at this;omega,this.len⟩
theorem Jy{gs hd:List bz}{k:Nat}{x y:bz}{kn SN jU:KN}{tb t2 vf:Bool}{ul:List aO}(hx:gs[k]?=some x)(h:(hd,SN,tb)=(gs.take k).foldl Au ([],kn,false))(hu:(ul,jU,t2)=x.insts.foldl mb ([],SN,false))(hy:y=bG SN x)(ht:vf=(tb||t2||decide (Ar jU x.e x.v))):(hd++[y],jU,vf)=(gs.take (k+1)).foldl Au ([],kn,false):=by
 rw[uh _ _ hx,←h];unfold Au;have e:oH SN false x.insts=(ul,jU,t2):=hu.symm;simp only[e,hy,ht]
theorem Qfm{x:bz}{SN jU:KN}{ul:List aO}{t2:Bool}(hu:(ul,jU,t2)=x.insts.foldl mb ([],SN,false))(he:Ar jU x.e x.v){a:Int}(ha:a=if qv jU x.v=0 then x.b else x.a):(⟨x.g,x.pA,x.pc,x.ah,x.iA,x.ic,ul,0,0,a,0,x.gone⟩:bz)=bG SN x:=by
 have e:oH SN false x.insts=(ul,jU,t2):=hu.symm;unfold bG;simp only[e];rw[eh he,ha]
theorem QgE{x:bz}{SN jU:KN}{ul:List aO}{t2:Bool}(hu:(ul,jU,t2)=x.insts.foldl mb ([],SN,false))(he:¬Ar jU x.e x.v):(⟨x.g,x.pA,x.pc,x.ah,x.iA,x.ic,ul,x.e,x.v,x.a,x.b,x.gone⟩:bz)=bG SN x:=by
 have e:oH SN false x.insts=(ul,jU,t2):=hu.symm;unfold bG;simp only[e];rw[dd he]
theorem Qgo(gs:List bz)(kn:KN):∀k,k≤gs.length→((gs.take k).foldl Au ([],kn,false)).1.map (fun x=>x.g)=(gs.take k).map (fun x=>x.g):=by
 intro k;induction k with
 |zero=>intro _;rfl
 |succ k ih=>
  intro hk;obtain⟨x,hx⟩:=bu (l:=gs) (i:=k) oM;obtain⟨q1,q2⟩:=List.getElem?_eq_some_iff.1 hx;rw[uh _ _ hx,kj q1,q2];have e:∀s:List bz×KN×Bool,(Au s x).1.map (fun x=>x.g)=s.1.map (fun x=>x.g)++[x.g]:=fun s=>by
   show(s.1++[bG s.2.1 x]).map _=_;have:(bG s.2.1 x).g=x.g:=by unfold bG;split<;>rfl
   simp[this]
  rw[e,ih oM,lh];rfl
end Go.Mor
namespace Go.Mor
open Go.RowKit
structure Xg(nm:cV)(pa va:Int)(n:Nat)(fs:List ay)(gs:List bz)(kn:KN):Prop where
 UH:vU nm pa va (gs.map bz.k)
 size:(hY (fK (gs.map bz.k)):Int)≤20000
 fold:Le (gs.map bz.k) kn=Lf va fs
 len:kn.length=n
section
variable {nm : ByteArray} {pa va : Int} {n : Nat} {fs fd : List ay} {gs oT nE : List bz} {kn jU : KN} {tb : Bool}
theorem Xg.start(hv:bV nm pa va fs=0)(Ma:gs.map bz.k=lN fs)(kx:va=(n:Int)):Xg nm pa va n fs gs (qN (gs.map bz.k) n):=by
 obtain⟨hg,_,jv⟩:=qI hv;refine⟨by rw[Ma];exact(NP hg).1,?_,?_,by unfold qN;rw[BX,QdX]⟩
 ·rw[Ma,XS,←jS (Q8 fs)];exact jv
 ·rw[Ma];unfold Lf;rw[show va.toNat=n by omega]
theorem Xg.Qfn(hp:(oT,jU,tb)=Qbi gs kn):nU (gs.map bz.k) kn=(oT.map bz.k,jU,tb):=by rw[QfY,←hp]
theorem Xg.pass(h:Xg nm pa va n fs gs kn)(hp:(oT,jU,tb)=Qbi gs kn):vU nm pa va (oT.map bz.k)∧(hY (fK (oT.map bz.k)):Int)≤20000∧(tb=true→Xg nm pa va n fs oT jU∧wM (oT.map bz.k)<wM (gs.map bz.k))∧(tb=false→oT.map bz.k=gs.map bz.k∧jU=kn):=by
 have hk:=Xg.Qfn hp;have hr:=QeZ (gs.map bz.k) kn;have e1:(nU (gs.map bz.k) kn).1=oT.map bz.k:=by rw[hk]
 have e2:(nU (gs.map bz.k) kn).2.1=jU:=by rw[hk]
 have e3:(nU (gs.map bz.k) kn).2.2=tb:=by rw[hk]
 have hl:=hr.less;rw[e1]at hl;have hg2:=QbO h.UH hl;have N9:=Qb8 hl;have jv:=h.size;refine⟨hg2,oM,fun ht=>⟨⟨hg2,oM,?_,?_⟩,?_⟩,fun ht=> ?_⟩
 ·have:=Qe2 (ks:=gs.map bz.k) (kn:=kn) (by rw[e3,ht]);rw[e1,e2]at this;rw[this,h.fold]
 ·have:=hr.len;rw[e2]at this;rw[this,h.len]
 ·have:=Yj (ks:=gs.map bz.k) kn (by rw[e3,ht]);rwa [e1]at this
 ·have:=hr.stop (by rw[e3,ht]);rw[e1,e2]at this;exact⟨this.1,this.2.1⟩
theorem Xg.prune(h:Xg nm pa va n fs gs kn)(hp:(oT,jU,tb)=Qbi gs kn)(ht:tb=false)(LD:nE.map bz.k=kg (oT.map bz.k)):(sW (oT.map bz.k)=true→Xg nm pa va n fs nE jU∧wM (nE.map bz.k)<wM (gs.map bz.k))∧(sW (oT.map bz.k)=false→nE.map bz.k=Lf va fs∧vU nm pa va (nE.map bz.k)∧EJ (nE.map bz.k)∧(hY (fK (nE.map bz.k)):Int)≤20000):=by
 obtain⟨_,_,_,h4⟩:=h.pass hp;obtain⟨e1,e2⟩:=h4 ht;have hk:=Xg.Qfn hp;have e3:(nU (gs.map bz.k) kn).2.2=false:=by rw[hk];exact ht
 have jv:=h.size;have UN:=Po (gs.map bz.k);rw[e1]at LD⊢;rw[LD,e2];refine⟨fun hT=>⟨⟨by rw[LD];exact(yn h.UH).1,by rw[LD];omega,?_,h.len⟩,Rm hT⟩,fun hT=>⟨?_,(yn h.UH).1,(yn h.UH).2,oM⟩⟩
 ·rw[LD,QgQ e3 hT,h.fold]
 ·rw[←h.fold,QdF e3 hT]
theorem Qh7(gs:List bz):sP (gs.map bz.k):=by
 intro x hx;obtain⟨y,_,rfl⟩:=dB.1 hx;show(y.insts.map aO.e0).map aO.e0=y.insts.map aO.e0;rw[lK];rfl
theorem Qfo(hk:gs.map bz.k=Lf va fs)(hg:vU nm pa va (gs.map bz.k))(ht:EJ (gs.map bz.k))(Ut:Yi (gs.map bz.k) fd):ec fd (Be va fs):=by
 have h:=Qf9 hg ht Ut (Qf8 (Qh7 gs));unfold Be;rw[←hk];exact h
theorem Qce(jv:(hY (fK (gs.map bz.k)):Int)≤20000){x:bz}(hx:x∈gs):x.ah.length≤20000∧x.insts.length≤20000:=by
 have nB:x.k∈gs.map bz.k:=dB.2 ⟨x,hx,rfl⟩;have RM:∀(l:List Nat) (a:Nat),a∈l→a≤l.sum:=by
  intro l;induction l with
  |nil=>intro a h;cases h
  |cons b l ih=>
   intro a h;rw[Qcm];rcases iR.1 h with h|h
   ·omega
   ·have:=ih a h;omega
 have hs:=vR (gs.map bz.k);have hl:(fun x:gO=>x.ah.length+x.insts.length) x.k≤((gs.map bz.k).map (fun x=>x.ah.length+x.insts.length)).sum:=RM _ _ (dB.2 ⟨x.k,nB,rfl⟩);have xo:x.k.ah.length+x.k.insts.length≤((gs.map bz.k).map (fun x=>x.ah.length+x.insts.length)).sum:=hl;have h1:x.k.insts.length=x.insts.length:=ep ..;have h2:x.k.ah.length=x.ah.length:=ep ..;omega
theorem Qfp(hg:vU nm pa va (gs.map bz.k)):∀x,x∈gs→x.gone=true→x.insts=[]:=by
 intro x hx Hx;have h1:=(hg.UT.gone x.k (dB.2 ⟨x,hx,rfl⟩) Hx).2.1;have h2:(x.insts.map aO.e0).length=0:=by rw[show x.insts.map aO.e0=[]from h1];rfl
 rw[ep]at h2;exact Qi2.1 h2
theorem Qfq(kx:va=(n:Int))(hg:vU nm pa va (gs.map bz.k)):∀x,x∈gs→∀i,i∈x.insts→i.op=1→0≤i.dst∧i.dst<(n:Int):=by
 intro x hx i hi h1;have nB:x.k∈gs.map bz.k:=dB.2 ⟨x,hx,rfl⟩;obtain⟨k,hk⟩:=en.1 nB;obtain⟨j,hj⟩:=en.1 (dB.2 ⟨i,hi,rfl⟩:i.e0∈x.k.insts);have hd:=hg.once.1 _ (sq.2 ⟨k,x.k.f,K3 hk,rfl,.inr ⟨j,i.e0,hj,by show aU i.op;rw[h1];exact NQ,rfl,rfl⟩⟩);have LC:pa≤i.dst:=hd.1;have Vm:i.dst<va:=hd.2;have ZJ:=hg.par;omega
theorem Qcf(hg:vU nm pa va (gs.map bz.k))(jv:(hY (fK (gs.map bz.k)):Int)≤20000)(hN:gs.length≤1000):∀x,x∈gs→Qgl x:=by
 intro x hx;refine⟨(Qce jv hx).1,fun p hp=> ?_⟩;obtain⟨k,hk⟩:=en.1 hx;have nB:(gs.map bz.k)[k]?=some x.k:=by rw[List.getElem?_map,hk];rfl
 have hpk:p.k∈x.k.ah:=dB.2 ⟨p,hp,rfl⟩;have hP:=hg.pK k x.k nB p.k hpk;have h1:p.args.length=p.from_.length:=hP.len;have h2:p.from_.length≤(gs.map bz.k).length:=VB hg nB hpk;rw[ep]at h2;exact⟨h1,oM⟩
theorem Qfr(hg:vU nm pa va (gs.map bz.k))(ht:EJ (gs.map bz.k))(jv:(hY (fK (gs.map bz.k)):Int)≤20000)(hN:gs.length≤1000):∀x,x∈gs.map bz.k→Rh (gs.length:Int) x:=by
 intro y hy;obtain⟨x,hx,rfl⟩:=dB.1 hy;have JY:=Qcf hg jv hN x hx;obtain⟨k,hk⟩:=en.1 hx;have nB:(gs.map bz.k)[k]?=some x.k:=by rw[List.getElem?_map,hk];rfl
 have QeS:x.k.e=0∨x.k.e=1→Jn (gs.length:Int) x.k:=by
  intro he;cases Hx:x.k.gone with
  |true=>
   have:=(hg.UT.gone x.k hy Hx).2.2.1;omega
  |false=>
   have:=hg.UT.ends x.k hy Hx;rwa [ep]at this
 refine⟨?_,fun p hp=> ?_,fun e=> ?_,fun e=> ?_⟩
 ·show(x.ah.map cI.k).length≤20000;rw[ep];exact JY.1
 ·have hP:=hg.pK k x.k nB p hp;have Gg:=VB hg nB hp;rw[ep]at Gg;refine⟨?_,oM,hP.len,fun s hs=>by have:=hP.yW s hs;rwa [ep]at this⟩;have Hx:x.k.gone=false:=by
   cases Hx:x.k.gone with
   |false=>rfl
   |true=>
    have h1:=(hg.UT.gone x.k hy Hx).1;rw[h1]at hp;cases hp
  have hr:=ht.reach _ (.mk' nB Hx);have EI:k≠0:=by rintro rfl;have h1:=hg.uJ x.k nB;rw[h1]at hp;cases hp
  have key:∀t:Int,Go.Mor.Reach (tK (gs.map bz.k)) t→t≠0→∃s,t∈tK (gs.map bz.k) s:=by
   intro t h cU;cases h with
   |zero=>exact absurd rfl cU
   |step _ h2=>exact⟨_,h2⟩
  obtain⟨s,hs⟩:=key _ hr oM;exact QiY (hP.all s hs)
 ·rcases QeS (.inl e)with h|h|h|h
  ·exact h.2.1
  ·have:=h.1;omega
  ·have:=h.1;omega
  ·have:=h.1;omega
 ·rcases QeS (.inr e)with h|h|h|h
  ·have:=h.1;omega
  ·exact⟨h.2.1,h.2.2.1⟩
  ·have:=h.1;omega
  ·have:=h.1;omega
end
end Go.Mor
