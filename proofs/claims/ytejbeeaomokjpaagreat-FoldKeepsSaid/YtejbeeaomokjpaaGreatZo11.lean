/-
  Texts of the proof, part 11.
-/
import Derived.Test.YtejbeeaomokjpaaGreatZo10
import Derived.Scope
set_option maxRecDepth 10000
open List Go.RowKit
open List renaming length -> ae
namespace Go.Mor
section
variable{P:Program}{c:Code}{Q:Exit -> Act -> World -> Prop}{N:FN}{i:Nat}{env0:Env}{wr:World}{sp:Nat -> Spec}
theorem Np{B b:Bool}(hb:B=b)(hv:sp i= .bd (vB B):=by rfl)(h:∀vs,p1E P c N i (cO c i sp vs env0)=some (vB b):=by intro _;kernel_rfl):l8 P c Q N env0 wr sp i:=by
 subst hb;exact dP (λvs=>(h vs).trans (by rw[hv];rfl)) (by rw[hv];rfl)
end
theorem TJ{P:Program}{t e:TypeId}(ht:P.underlying t=some (.slice e))(A:ar)(n c:Nat)(w:World):(binOp .eql t (vS A n c) ay).run P w= .ok (vB A.isNone) w:=by
 show((do pure (vB (<-Op.equal t (vS A n c) ay)):Sem Value)).run P w=_;unfold Op.equal Op.maxDepth Op.equalIn;cases A<;>simp[iM ht]
section
variable{P:Program}{c:Code}{K:Act -> World -> Prop}{Q:Exit -> Act -> World -> Prop}{w:World}{k:Nat}{N:FN}{env:Env}
theorem Qnu(t:TypeId){e:TypeId}(A:ar)(n cp:Nat)(ht:P.underlying t=some (.slice e))(h:∀a,Fr a N (eJ env (bC c k) (vB A.isNone))->bL P c K Q (k+1) a w)(hk:bnE c N env k=some (bC c k,.eql,t,.slice A n cp,ay):=by kernel_rfl):∀a,Fr a N env->bL P c K Q k a w:=λa hF=>by
 generalize bC c k=d at h hk;unfold bnE at hk;split at hk
 ·rename_i g0;split at hk
  ·rename_i g1 g2 g3 g4;simp only[eO,dg]at hk;obtain⟨e1,e2,e3,e4,e5⟩:=hk;refine gq g0 hF g1 (by rw[e1]at g2;exact e1▸g2) rfl (λo ho=> ?_) (by rw[e1];exact λa' _=>h a');unfold execOp;rw[ho,e2,e3];have hq:∀x y,(eqGuard .eql t x y (vS A n cp) ay).run P w= .ok () w:=by intro x y;simp[eqGuard]
   simp only[hF.ev g3,hF.ev g4,e4,e5,gG,hq,TJ ht,ig];rfl
  ·cases hk
 ·cases hk
end
section
variable{P:Program}{c:Code}{K:Act -> World -> Prop}{Q:Exit -> Act -> World -> Prop}{w w0:World}{N:FN}{env:Env}{a:Act}{S:Nat -> Prop}{L:List bD}
theorem BW{k k':Nat}{d:Option Nat}{ty:Nat}{g:Option (Nat×Bool)}{t:TypeId}{x y:Operand}(hk:aB c k=some (d,.store t x y,ty,g))(hF:Fr a N env)(hg:bU c g env=some true)(hd:jW d N=true)(lI:k+1=k'){b t0:Nat}{vs cs:bh}(hx:ev env x=some (vP (aZ b)))(hy:ev env y=some (.agg vs.toArray))(ht:y5 P t=some (ae vs))(hv:∀v∈vs,v.oneCell'=true)(hM:Mem S w0 w L)(i:Nat)(hi:L[i]?=some (.aM b t0 cs))(ho:ae vs<=ae cs)(h:∀w',Mem S w0 w' (L.set i (.aM b t0 (vs++cs.drop (ae vs))))->∀a',a'=a.put d undef->Fr a' N (eJ env d undef)->bL P c K Q k' a' w'):bL P c K Q k a w:=by
 subst lI;have hb:=hM.get i hi;obtain⟨w',hr,hm⟩:=o5 (P:=P) vs 0 hv hb oM;have hl:cs.take 0++vs++cs.drop (0+ae vs)=vs++cs.drop (ae vs):=sI;rw[hl]at hm;refine qW hk hF hg (w':=w') (λo ho'=> ?_) (h _ (by simpa using hM.mod i hi hm) _ rfl (hF.put hd _));unfold execOp;rw[ho'];simp[Instr.storeAt,Instr.sureAddr,hF.ev hx,hF.ev hy,storeVar,(oT ht w).2,Value.cells,hr]
theorem Qo6{k:Nat}(hM:Mem S w0 w L)(i:Nat)(vs:bh){b t0:Nat}{cs:bh}(hi:L[i]?=some (.aM b t0 cs))(h:∀w',Mem S w0 w' (L.set i (.aM b t0 (vs++cs.drop (ae vs))))->∀a,Fr a N (eJ env (bC c k) undef)->bL P c K Q (k+1) a w')(hv:vs.all Value.oneCell'=true:=by rfl)(ho:ae vs<=ae cs:=by simp)(hk:ssE P c N env k=some (bC c k,b,0,vs.toArray,some (ae vs)):=by kernel_rfl):∀a,Fr a N env->bL P c K Q k a w:=by
 intro a hF;unfold ssE at hk;split at hk
 ·rename_i g0;split at hk
  ·rename_i g1 g2 g3 g4;simp only[eO,dg]at hk;obtain⟨e1,rfl,rfl,rfl,e5⟩:=hk;rw[e1]at g0 g2;exact BW g0 hF g1 g2 rfl g3 g4 e5 (gQ.1 hv) hM i hi ho (λw' Xa a' _ Na=>h w' Xa a' Na)
  ·cases hk
 ·cases hk
end
theorem yH{w:World}{g t:Nat}{cs vs:bh}(h:(bD.aM g t cs).holds w)(off:Nat)(he:(cs.drop off).take (ae vs)=vs)(j:Nat)(v:Value)(hj:vs[j]?=some v):w.cell? (((aq g off):Addr).add j)=some v:=by
 have h1:cs[off+j]?=some v:=by have h2:=hj;rw[<-he,uQ (aW.1 hj).1,zb]at h2;exact h2
 have e:((aq g off):Addr).add j=⟨g,off+j,none⟩:=by unfold Addr.add;split<;>simp_all
 rw[e];exact af h h1
def cnC(c:Bool×Int):bh:=[.bool c.1,vI c.2]
def lO(kn:KN):bh:=kn.flatMap cnC
theorem JR(c:Bool×Int):ae (cnC c)=2:=rfl
theorem yI(kn:KN):ae (lO kn)=ae kn*2:=pC JR kn
theorem zW{w:World}{A:ar}{ad:Addr}{kn:KN}{i:Nat}{c:Bool×Int}(h:(bD.rd A (lO kn)).holds w)(hA:A=some ad)(hi:kn[i]?=some c):∀j v,[.bool c.1,vI c.2][j]?=some v->w.cell? ((ad.add (i*2)).add j)=some v:=bS (cs:=cnC c) (pD (f:=cnC) JR oM h) hA (by rw[aL,hi];rfl)
theorem ML{kn:KN}{v:Int}(h0:0<=v)(h1:v<(ae kn:Int)):∃c,kn[v.toNat]?=some c/\CL kn v=c.1/\ji kn v=c.2:=by
 obtain⟨c,hc⟩:=aP (l:=kn) (i:=v.toNat) oM;refine⟨c,hc,?_,?_⟩
 ·unfold CL;rw[et,hc];rfl
 ·unfold ji;rw[et,hc];rfl
theorem QaN{kn:KN}{v:Int}(h1:v.toNat<ae kn)(c:Bool×Int):setAt (lO kn) (v.toNat*2) [.bool c.1,vI c.2]=lO (kn.set v.toNat c):=wE JR c kn v.toNat h1
theorem QeG{l:List aQ}{m:Nat}(h1:m<ae l)(y:aQ):setAt (ow l) ((m:Int).toNat*5) (Qmg y)=ow (l.set m y):=wE kB y l m h1
theorem QeH(n:Nat):(List.replicate n [Value.bool false,vI 0]).flatten=lO (List.replicate n (false,0)):=by
 unfold lO;rw[flatMap_replicate];rfl
section
variable{kn:KN}{l:List Int}{j:Nat}{a:Int}
theorem P7(ha:l[j]?=some a)(h:lU kn (l.take j)=true)(hk:CL kn a=true):lU kn (l.take (j+1))=true:=by
 obtain⟨q1,q2⟩:=aW.1 ha;unfold lU at*;rw[dh q1,q2,all_append,h];simp[hk]
theorem QaO(ha:l[j]?=some a)(hk:CL kn a=false):lU kn l=false:=by
 unfold lU;rw[all_eq_false];exact⟨a,aI ha,by simp[hk]⟩
end
def xm(kn:KN)(l:List aQ)(m:Nat)(dst r1 r2:Int):List aQ×KN:=if r2=0 then(l.set m ⟨1,dst,r1,⟨#[]⟩,none,0,[]⟩,kn.set dst.toNat (true,r1))else(l,kn)
theorem QaP{kn:KN}{op dst n:Int}{nm:bo}{A:ar}{c:Nat}{a0 a1:Int}(h:op<40):iR kn ⟨op,dst,n,nm,A,c,[a0,a1]⟩=cW (op-16) (ji kn a0) (ji kn a1):=by
 unfold iR;rw[ao (by show¬40<=op;omega)];rfl
theorem QaQ{kn:KN}{op dst n:Int}{nm:bo}{A:ar}{c:Nat}{a0:Int}(h:40<=op):iR kn ⟨op,dst,n,nm,A,c,[a0]⟩=nD (op-40) (ji kn a0):=by
 unfold iR;rw[ax (show 40<=op from h)];rfl
structure Qmh(n:Nat)(x:aY):Prop where
 li:ae x.insts<=20000
 al:∀i,i∈x.insts->ae i.args<=20000/\(∀a,a∈i.args->0<=a/\a<(n:Int))/\i.op<=43
 sh:∀i,i∈x.insts->16<i.op->((i.op<40/\ae i.args=2)\/(40<=i.op/\ae i.args=1))/\0<=i.dst/\i.dst<(n:Int)
 fv:x.e=1->0<=x.v/\x.v<(n:Int)
theorem Qi1{α:Type}{l:List α}(h:ae l=2):∃a b,l=[a,b]:=by
 match l,h with
 |[a,b],_=>exact⟨a,b,rfl⟩
theorem Qi2{α:Type}{l:List α}(h:ae l=1):∃a,l=[a]:=by
 match l,h with
 |[a],_=>exact⟨a,rfl⟩
section
variable{n:Nat}{nm:ByteArray}{pa va:Int}{gs:List aY}{x:aY}
theorem U0(kr:va=(n:Int))(h:j4 nm pa va (gs.map aY.k))(iX:(de (fK (gs.map aY.k)):Int)<=20000):∀x,x∈gs->Qmh n x:=by
 intro x hx;have Ke:x.k∈gs.map aY.k:=aO.2 ⟨x,hx,rfl⟩;obtain⟨k,hk⟩:=bq.1 Ke;have yw:∀(l:List Nat) (a:Nat),a∈l->a<=l.sum:=by
  intro l;induction l with
  |nil=>intro a h;cases h
  |cons b l ih=>
   intro a h;rw[jN];rcases cG.1 h with h|h
   ·omega
   ·have:=ih a h;omega
 have hs:=mu (gs.map aY.k);have hl:(λx:bp=>ae x.ak+ae x.insts) x.k<=((gs.map aY.k).map (λx=>ae x.ak+ae x.insts)).sum:=yw _ _ (aO.2 ⟨x.k,Ke,rfl⟩);have Aq:ae x.k.ak+ae x.k.insts<=((gs.map aY.k).map (λx=>ae x.ak+ae x.insts)).sum:=hl;have qY:ae x.k.insts=ae x.insts:=bl ..;have Ft:=h.par;have e0:∀i,i∈x.insts->i.e0∈x.k.insts:=λi hi=>aO.2 ⟨i,hi,rfl⟩
 refine⟨oM,λi hi=> ?_,λi hi h16=> ?_,λhe=> ?_⟩
 ·have Rt:cA i.e0:=h.shp x.k Ke _ (e0 i hi);have h2:=Rt.2;have hiv:=h.iv x.k Ke _ (e0 i hi);have ZK:i.e0.op=i.op:=rfl;have XI:ae i.e0.args=ae i.args:=rfl;exact⟨oM,λa ha=>by have:=hiv a ha;omega,oM⟩
 ·have Rt:cA i.e0:=h.shp x.k Ke _ (e0 i hi);have h2:=Rt.2;have ZK:i.e0.op=i.op:=rfl;have XI:ae i.e0.args=ae i.args:=rfl;obtain⟨j,hj⟩:=bq.1 (e0 i hi);have hd:=h.once.1 _ (fL.2 ⟨k,x.k.f,uk hk,rfl,.inr ⟨j,i.e0,hj,by show aJ i.op;unfold aJ;omega,rfl,rfl⟩⟩);have hd1:pa<=i.dst:=hd.1;have hd2:i.dst<va:=hd.2;exact⟨oM,oM,oM⟩
 ·have:=h.fv x.k Ke (.inl he);have h1:0<=x.v:=this.1;have h2:x.v<va:=this.2;exact⟨h1,oM⟩
end
theorem U1(l:List aQ)(z:KN):dM (l.map aQ.e0) z=dM l z:=by
 unfold dM;rw[foldl_map];rfl
theorem P8(l m:List aQ)(z:KN):dM (l++m) z=dM m (dM l z):=by unfold dM;rw[sq]
def uH(gs:List aY):List aQ:=gs.flatMap (λx=>x.insts)
theorem U2(gs:List aY)(n:Nat):kk (gs.map aY.k) n=dM (uH gs) (List.replicate n (false,0)):=by
 unfold kk;rw[<-U1 (uH gs)];congr 1;unfold jV uH;rw[CA,map_flatMap];rfl
theorem P9{gs:List aY}{k:Nat}{x:aY}(hx:gs[k]?=some x):uH (gs.take (k+1))=uH (gs.take k)++x.insts:=by
 obtain⟨q1,q2⟩:=aW.1 hx;unfold uH;rw[dh q1,q2,qf,iE,CM,iq]
theorem Bs{l:List aQ}{m:Nat}{i:aQ}(hi:l[m]?=some i)(z:KN):dM (l.take (m+1)) z=if i.op=1 then(dM (l.take m) z).set i.dst.toNat (true,i.n)else dM (l.take m) z:=by
 obtain⟨q1,q2⟩:=aW.1 hi;rw[dh q1,q2,AN]
theorem MM{l:List aQ}{m:Nat}{i:aQ}{ul:List aQ}{kn eN:KN}{t2:Bool}(hi:l[m]?=some i)(h:(ul,eN,t2)=(l.take m).foldl eF ([],kn,false))(hd:iZ eN i):(ul++[oq eN i],eN.set i.dst.toNat (true,(iR eN i).1),true)=(l.take (m+1)).foldl eF ([],kn,false):=by
 rw[sn _ _ hi,<-h,o1 hd]
theorem vh{l:List aQ}{m:Nat}{i:aQ}{ul:List aQ}{kn eN:KN}{t2:Bool}(hi:l[m]?=some i)(h:(ul,eN,t2)=(l.take m).foldl eF ([],kn,false))(hd:¬iZ eN i):(ul++[i],eN,t2)=(l.take (m+1)).foldl eF ([],kn,false):=by
 rw[sn _ _ hi,<-h,rz hd]
theorem HD{l:List aQ}{m:Nat}{ul:List aQ}{kn eN:KN}{t2:Bool}(hm:m<=ae l)(h:(ul,eN,t2)=(l.take m).foldl eF ([],kn,false)):ae ul=m/\ae eN=ae kn:=by
 have:=G9 kn l m hm;unfold gr at this;rw[<-h]at this;exact⟨by have:=this.less.1;rw[ja]at this;simp only at this;omega,this.len⟩
theorem sP{gs hd:List aY}{k:Nat}{x y:aY}{kn zX eN:KN}{tb t2 tb2:Bool}{ul:List aQ}(hx:gs[k]?=some x)(h:(hd,zX,tb)=(gs.take k).foldl ou ([],kn,false))(hu:(ul,eN,t2)=x.insts.foldl eF ([],zX,false))(hy:y=bG zX x)(ht:tb2=(tb||t2||decide (oN eN x.e x.v))):(hd++[y],eN,tb2)=(gs.take (k+1)).foldl ou ([],kn,false):=by
 rw[sn _ _ hx,<-h];unfold ou;have e:gr zX false x.insts=(ul,eN,t2):=hu.symm;simp only[e,hy,ht]
theorem QaR{x:aY}{zX eN:KN}{ul:List aQ}{t2:Bool}(hu:(ul,eN,t2)=x.insts.foldl eF ([],zX,false))(he:oN eN x.e x.v){a:Int}(ha:a=if ji eN x.v=0 then x.b else x.a):(⟨x.g,x.pA,x.pc,x.ak,x.iA,x.ic,ul,0,0,a,0,x.gone⟩:aY)=bG zX x:=by
 have e:gr zX false x.insts=(ul,eN,t2):=hu.symm;unfold bG;simp only[e];rw[ax he,ha]
theorem Qgd{x:aY}{zX eN:KN}{ul:List aQ}{t2:Bool}(hu:(ul,eN,t2)=x.insts.foldl eF ([],zX,false))(he:¬oN eN x.e x.v):(⟨x.g,x.pA,x.pc,x.ak,x.iA,x.ic,ul,x.e,x.v,x.a,x.b,x.gone⟩:aY)=bG zX x:=by
 have e:gr zX false x.insts=(ul,eN,t2):=hu.symm;unfold bG;simp only[e];rw[ao he]
theorem QeI(gs:List aY)(kn:KN):∀k,k<=ae gs->((gs.take k).foldl ou ([],kn,false)).1.map (λx=>x.g)=(gs.take k).map (λx=>x.g):=by
 intro k;induction k with
 |zero=>intro _;rfl
 |succ k ih=>
  intro hk;obtain⟨x,hx⟩:=aP (l:=gs) (i:=k) oM;obtain⟨q1,q2⟩:=aW.1 hx;rw[sn _ _ hx,dh q1,q2];have e:∀s:List aY×KN×Bool,(ou s x).1.map (λx=>x.g)=s.1.map (λx=>x.g)++[x.g]:=λs=>by
   show(s.1++[bG s.2.1 x]).map _=_;have:(bG s.2.1 x).g=x.g:=by unfold bG;split<;>rfl
   simp[this]
  rw[e,ih oM,bZ];rfl
structure zY(nm:bo)(pa va:Int)(n:Nat)(fs:List aG)(gs:List aY)(kn:KN):Prop where
 zL:j4 nm pa va (gs.map aY.k)
 size:(de (fK (gs.map aY.k)):Int)<=20000
 fold:s9 (gs.map aY.k) kn=uq va fs
 len:ae kn=n
section
variable{nm:ByteArray}{pa va:Int}{n:Nat}{fs fd:List aG}{gs BZ Qa:List aY}{kn eN:KN}{tb:Bool}
theorem zY.start(hv:cS nm pa va fs=0)(Jb:gs.map aY.k=gM fs)(kr:va=(n:Int)):zY nm pa va n fs gs (kk (gs.map aY.k) n):=by
 obtain⟨hg,_,iX⟩:=kh hv;refine⟨by rw[Jb];exact(zH hg).1,?_,?_,by unfold kk;rw[pN,qI]⟩
 ·rw[Jb,Ja,<-DS (Eh fs)];exact iX
 ·rw[Jb];unfold uq;rw[show va.toNat=n by omega]
theorem zY.QaS(hp:(BZ,eN,tb)=Em gs kn):fk (gs.map aY.k) kn=(BZ.map aY.k,eN,tb):=by rw[QcZ,<-hp]
theorem zY.pass(h:zY nm pa va n fs gs kn)(hp:(BZ,eN,tb)=Em gs kn):j4 nm pa va (BZ.map aY.k)/\(de (fK (BZ.map aY.k)):Int)<=20000/\(tb=true->zY nm pa va n fs BZ eN/\wM (BZ.map aY.k)<wM (gs.map aY.k))/\(tb=false->BZ.map aY.k=gs.map aY.k/\eN=kn):=by
 have hk:=zY.QaS hp;have hr:=Rj (gs.map aY.k) kn;have e1:(fk (gs.map aY.k) kn).1=BZ.map aY.k:=by rw[hk]
 have e2:(fk (gs.map aY.k) kn).2.1=eN:=by rw[hk]
 have e3:(fk (gs.map aY.k) kn).2.2=tb:=by rw[hk]
 have hl:=hr.less;rw[e1]at hl;have hg2:=zJ h.zL hl;have Vv:=Hb hl;have iX:=h.size;refine⟨hg2,oM,λht=>⟨⟨hg2,oM,?_,?_⟩,?_⟩,λht=> ?_⟩
 ·have:=Yo (ks:=gs.map aY.k) (kn:=kn) (by rw[e3,ht]);rw[e1,e2]at this;rw[this,h.fold]
 ·have:=hr.len;rw[e2]at this;rw[this,h.len]
 ·have:=CO (ks:=gs.map aY.k) kn (by rw[e3,ht]);rwa [e1]at this
 ·have:=hr.stop (by rw[e3,ht]);rw[e1,e2]at this;exact⟨this.1,this.2.1⟩
theorem zY.prune(h:zY nm pa va n fs gs kn)(hp:(BZ,eN,tb)=Em gs kn)(ht:tb=false)(hk3:Qa.map aY.k=dW (BZ.map aY.k)):(kH (BZ.map aY.k)=true->zY nm pa va n fs Qa eN/\wM (Qa.map aY.k)<wM (gs.map aY.k))/\(kH (BZ.map aY.k)=false->Qa.map aY.k=uq va fs/\j4 nm pa va (Qa.map aY.k)/\oo (Qa.map aY.k)/\(de (fK (Qa.map aY.k)):Int)<=20000):=by
 obtain⟨_,_,_,h4⟩:=h.pass hp;obtain⟨e1,e2⟩:=h4 ht;have hk:=zY.QaS hp;have e3:(fk (gs.map aY.k) kn).2.2=false:=by rw[hk];exact ht
 have iX:=h.size;have hps:=wX (gs.map aY.k);rw[e1]at hk3⊢;rw[hk3,e2];refine⟨λhT=>⟨⟨by rw[hk3];exact(mf h.zL).1,by rw[hk3];omega,?_,h.len⟩,yr hT⟩,λhT=>⟨?_,(mf h.zL).1,(mf h.zL).2,oM⟩⟩
 ·rw[hk3,Qhk e3 hT,h.fold]
 ·rw[<-h.fold,Yp e3 hT]
theorem Qpe(gs:List aY):Vx (gs.map aY.k):=by
 intro x hx;obtain⟨y,_,rfl⟩:=aO.1 hx;show(y.insts.map aQ.e0).map aQ.e0=y.insts.map aQ.e0;rw[dz];rfl
theorem QaT(hk:gs.map aY.k=uq va fs)(hg:j4 nm pa va (gs.map aY.k))(ht:oo (gs.map aY.k))(hto:BF (gs.map aY.k) fd):fY fd (rB va fs):=by
 have h:=Qc9 hg ht hto (Qhm (Qpe gs));unfold rB;rw[<-hk];exact h
theorem HE(iX:(de (fK (gs.map aY.k)):Int)<=20000){x:aY}(hx:x∈gs):ae x.ak<=20000/\ae x.insts<=20000:=by
 have Ke:x.k∈gs.map aY.k:=aO.2 ⟨x,hx,rfl⟩;have yw:∀(l:List Nat) (a:Nat),a∈l->a<=l.sum:=by
  intro l;induction l with
  |nil=>intro a h;cases h
  |cons b l ih=>
   intro a h;rw[jN];rcases cG.1 h with h|h
   ·omega
   ·have:=ih a h;omega
 have hs:=mu (gs.map aY.k);have hl:(λx:bp=>ae x.ak+ae x.insts) x.k<=((gs.map aY.k).map (λx=>ae x.ak+ae x.insts)).sum:=yw _ _ (aO.2 ⟨x.k,Ke,rfl⟩);have Aq:ae x.k.ak+ae x.k.insts<=((gs.map aY.k).map (λx=>ae x.ak+ae x.insts)).sum:=hl;have h1:ae x.k.insts=ae x.insts:=bl ..;have h2:ae x.k.ak=ae x.ak:=bl ..;omega
theorem QaU(hg:j4 nm pa va (gs.map aY.k)):∀x,x∈gs->x.gone=true->x.insts=[]:=by
 intro x hx vr;have h1:=(hg.zx.gone x.k (aO.2 ⟨x,hx,rfl⟩) vr).2.1;have h2:ae (x.insts.map aQ.e0)=0:=by rw[show x.insts.map aQ.e0=[]from h1];rfl
 rw[bl]at h2;exact sC.1 h2
theorem QaV(kr:va=(n:Int))(hg:j4 nm pa va (gs.map aY.k)):∀x,x∈gs->∀i,i∈x.insts->i.op=1->0<=i.dst/\i.dst<(n:Int):=by
 intro x hx i hi h1;have Ke:x.k∈gs.map aY.k:=aO.2 ⟨x,hx,rfl⟩;obtain⟨k,hk⟩:=bq.1 Ke;obtain⟨j,hj⟩:=bq.1 (aO.2 ⟨i,hi,rfl⟩:i.e0∈x.k.insts);have hd:=hg.once.1 _ (fL.2 ⟨k,x.k.f,uk hk,rfl,.inr ⟨j,i.e0,hj,by show aJ i.op;rw[h1];exact mW,rfl,rfl⟩⟩);have hd1:pa<=i.dst:=hd.1;have hd2:i.dst<va:=hd.2;have Ft:=hg.par;omega
theorem HF(hg:j4 nm pa va (gs.map aY.k))(iX:(de (fK (gs.map aY.k)):Int)<=20000)(hN:ae gs<=1000):∀x,x∈gs->QeF x:=by
 intro x hx;refine⟨(HE iX hx).1,λp hp=> ?_⟩;obtain⟨k,hk⟩:=bq.1 hx;have Ke:(gs.map aY.k)[k]?=some x.k:=by rw[aL,hk];rfl
 have hpk:p.k∈x.k.ak:=aO.2 ⟨p,hp,rfl⟩;have hP:=hg.JZ k x.k Ke p.k hpk;have h1:ae p.args=ae p.from_:=hP.len;have h2:ae p.from_<=ae (gs.map aY.k):=zN hg Ke hpk;rw[bl]at h2;exact⟨h1,oM⟩
theorem QaW(hg:j4 nm pa va (gs.map aY.k))(ht:oo (gs.map aY.k))(iX:(de (fK (gs.map aY.k)):Int)<=20000)(hN:ae gs<=1000):∀x,x∈gs.map aY.k->QjL (ae gs:Int) x:=by
 intro y hy;obtain⟨x,hx,rfl⟩:=aO.1 hy;have hpo:=HF hg iX hN x hx;obtain⟨k,hk⟩:=bq.1 hx;have Ke:(gs.map aY.k)[k]?=some x.k:=by rw[aL,hk];rfl
 have Qge:x.k.e=0\/x.k.e=1->rn (ae gs:Int) x.k:=by
  intro he;cases vr:x.k.gone with
  |true=>
   have:=(hg.zx.gone x.k hy vr).2.2.1;omega
  |false=>
   have:=hg.zx.ends x.k hy vr;rwa [bl]at this
 refine⟨?_,λp hp=> ?_,λe=> ?_,λe=> ?_⟩
 ·show ae (x.ak.map fN.k)<=20000;rw[bl];exact hpo.1
 ·have hP:=hg.JZ k x.k Ke p hp;have Oz:=zN hg Ke hp;rw[bl]at Oz;refine⟨?_,oM,hP.len,λs hs=>by have:=hP.xo s hs;rwa [bl]at this⟩;have vr:x.k.gone=false:=by
   cases vr:x.k.gone with
   |false=>rfl
   |true=>
    have h1:=(hg.zx.gone x.k hy vr).1;rw[h1]at hp;cases hp
  have hr:=ht.reach _ (.mk' Ke vr);have Xo:k≠0:=by rintro rfl;have h1:=hg.QcR x.k Ke;rw[h1]at hp;cases hp
  have key:∀t:Int,Go.Mor.Reach (tK (gs.map aY.k)) t->t≠0->∃s,t∈tK (gs.map aY.k) s:=by
   intro t h eC;cases h with
   |zero=>exact absurd rfl eC
   |step _ h2=>exact⟨_,h2⟩
  obtain⟨s,hs⟩:=key _ hr oM;exact tB (hP.all s hs)
 ·rcases Qge (.inl e)with h|h|h|h
  ·exact h.2.1
  ·have:=h.1;omega
  ·have:=h.1;omega
  ·have:=h.1;omega
 ·rcases Qge (.inr e)with h|h|h|h
  ·have:=h.1;omega
  ·exact⟨h.2.1,h.2.2.1⟩
  ·have:=h.1;omega
  ·have:=h.1;omega
end
end Go.Mor
