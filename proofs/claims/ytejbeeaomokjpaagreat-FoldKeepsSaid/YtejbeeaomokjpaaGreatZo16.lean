/-
  Texts of the proof, part 16.
-/
import Derived.Test.YtejbeeaomokjpaaGreatZo15
set_option maxRecDepth 10000
open List Go.Mor Go.RowKit Go.Sort Go.Proofs
open List renaming length -> ae
namespace Go.Proofs.YtejbeeaomokjpaaGreat
set_option maxHeartbeats 4000000 in
theorem Qe(ws:Nat)(KA:ar)(kc nk:Nat)(kn:KN)(q:Nat)(nm:bo)(wk:Bool)(pa va:Int)(bA:ar)(bn bc:Nat)(gA:ar)(gc:Nat)(gs:List aY)(w:World)(hN:ae gs<=1000)(hnk:ae kn=nk)(hF:∀x,x∈gs->Qmh nk x)(hm:(bD.pk [.aM ws 95 [pT q 0,vS KA nk kc],.row 115 2 KA nk kc (lO kn),.aM q 75 (cg nm wk pa va bA bn bc gA (ae gs) gc),jH gA gc gs,.pk (gs.map gB)]).holds w):Calls Tryz.prog 57 #[pT ws 0] w (gp λv w'=>∃gs' kn' tb,(gs',kn',tb)=Em gs kn/\gs'.map (λx=>x.g)=gs.map (λx=>x.g)/\v=vB tb/\Mem (bD.pk [.aM ws 95 [pT q 0,vS KA nk kc],.row 115 2 KA nk kc (lO kn),.aM q 75 (cg nm wk pa va bA bn bc gA (ae gs) gc),jH gA gc gs,.pk (gs.map gB)]).fp w w' (.aM ws 95 [pT q 0,vS KA nk kc]:: .row 115 2 KA nk kc (lO kn')::gF q nm wk pa va bA bn bc gA gc gs')):=by
 refine iI 108 [pT ws 0] Tryz.func57 ?_;have hM:=Mem.te hm;refine br<|br<|bt<|aV<|an 3<|bH (aZ ws) (pT q 0) (af (hM.get 0 rfl) rfl)<|an 2<|bH (aq q 5) (vS gA (ae gs) gc) (af (hM.get 2 rfl) rfl)<|an 2<|aE<|df 0 ?_;have M1:=hM.od [4,4,4,4,4] 5;clear hM;intro aC fr;refine iJ (λn_ a_ w_=>∃(k:Nat) (hd:List aY) (zX:KN) (tt:Bool) (tb:Bool),n_=ae gs-k/\Fr a_ 108 [(0,pT ws 0),(3,vB tt),(15,vS gA (ae gs) gc),(16,(vI (ae gs:Int))),(17,nV k)]/\Mem (bD.pk [.aM ws 95 [pT q 0,vS KA nk kc],.row 115 2 KA nk kc (lO kn),.aM q 75 (cg nm wk pa va bA bn bc gA (ae gs) gc),jH gA gc gs,.pk (gs.map gB)]).fp w w_ [.aM ws 95 [pT q 0,vS KA nk kc],.row 115 2 KA nk kc (lO zX),.aM q 75 (cg nm wk pa va bA bn bc gA (ae gs) gc),jH gA gc gs,.pk ((gs.drop k).map gB),.pk (hd.map gB)]/\(k<=ae gs)/\((hd,zX,tb)=(gs.take k).foldl ou ([],kn,false))/\(tt=tb)/\(ae zX=nk)) (n:=_) ⟨0,[],kn,false,false,rfl,fr.kp [0,3,15,16,17],(M1.call (Mem.n8 _)),cI _,rfl,rfl,hnk⟩ ?_;clear fr aC M1;rintro n aC w4 ⟨k,hd,zX,tt,tb,rfl,fr,M5,hk,rS,htt,U6⟩;revert aC;refine br<|bt<|iY ((k:Int)<(ae gs:Int)) (λc8=> ?_) (λc8=> ?_);refine cE<|bt<|df 1<|aV ?_;obtain⟨x,hx⟩:=aP (l:=gs) (i:=k) oM;have sm:=aI hx;have VC:=hF x sm;have qY:=VC.li;obtain⟨iA0,Qa8⟩:∃a,a=x.iA:=⟨_,rfl⟩;have M9:=M5.od [5,4,4,4,4,5] 6;have lM:=cC [gB x,.pk ((gs.drop (k+1)).map gB),.aM ws 95 [pT q 0,vS KA nk kc],.row 115 2 KA nk kc (lO zX),.aM q 75 (cg nm wk pa va bA bn bc gA (ae gs) gc),jH gA gc gs,.pk (hd.map gB)] ((M9.cast (by rw[jZ gB hx])).qu);have sx:=cC [.aM x.g 79 (gV x),rK x.pA x.pc x.ak,jC x.iA x.ic x.insts,.pk (x.ak.map fm),.pk (x.ak.map fz),.pk (x.insts.map fD),.pk ((gs.drop (k+1)).map gB),.aM ws 95 [pT q 0,vS KA nk kc],.row 115 2 KA nk kc (lO zX),.aM q 75 (cg nm wk pa va bA bn bc gA (ae gs) gc),jH gA gc gs,.pk (hd.map gB)] (Mem.unpack (l:=gL x) lM);have eM:=cC [.aM x.g 79 [vS x.pA (ae x.ak) x.pc,vS iA0 (ae x.insts) x.ic,vI x.e,vI x.v,vI x.a,vI x.b,vB x.gone],rK x.pA x.pc x.ak,.row 45 5 iA0 (ae x.insts) x.ic (ow x.insts),.pk (x.ak.map fm),.pk (x.ak.map fz),.pk (x.insts.map fD),.pk ((gs.drop (k+1)).map gB),.aM ws 95 [pT q 0,vS KA nk kc],.row 115 2 KA nk kc (lO zX),.aM q 75 (cg nm wk pa va bA bn bc gA (ae gs) gc),jH gA gc gs,.pk (hd.map gB)] (sx.cast (by rw[Qa8];rfl));obtain⟨fo,rfl⟩:=lK (eM.get 10 rfl) (by unfold nh;rw[bl];omega);refine ga fo (ae gs) 1 (k:Int)<|bH (aN fo (k:Int) 1) (vP (aZ x.g)) (uZ (eM.get 10 rfl) rfl hx)<|an 1<|aE<|bt<|aV<|an 3<|bH (aq x.g 1) (vS iA0 (ae x.insts) x.ic) (af (eM.get 0 rfl) rfl)<|an 2<|aE<|df 2 ?_;have sw:=eM.od [11,7,11,11,11,11,11,11,11,11,11,11] 12;intro aC fr;refine iJ (λn_ a_ w_=>∃(m:Nat) (ul:List aQ) (eN:KN) (MW:Bool) (t2:Bool),n_=ae x.insts-m/\Fr a_ 108 [(0,pT ws 0),(3,vB MW),(5,(vP (aZ x.g))),(15,vS (some fo) (ae gs) gc),(16,(vI (ae gs:Int))),(17,nV k),(25,(vI (ae x.insts:Int))),(26,nV m)]/\Mem (bD.pk [.aM ws 95 [pT q 0,vS KA nk kc],.row 115 2 KA nk kc (lO kn),.aM q 75 (cg nm wk pa va bA bn bc (some fo) (ae gs) gc),jH (some fo) gc gs,.pk (gs.map gB)]).fp w w_ [.aM x.g 79 [vS x.pA (ae x.ak) x.pc,vS iA0 (ae x.insts) x.ic,vI x.e,vI x.v,vI x.a,vI x.b,vB x.gone],rK x.pA x.pc x.ak,.row 45 5 iA0 (ae (ul++x.insts.drop m)) x.ic (ow (ul++x.insts.drop m)),.pk (x.ak.map fm),.pk (x.ak.map fz),.pk ((ul++x.insts.drop m).map fD),.aM ws 95 [pT q 0,vS KA nk kc],.row 115 2 KA nk kc (lO eN),.aM q 75 (cg nm wk pa va bA bn bc (some fo) (ae gs) gc),jH (some fo) gc gs,.pk ((gs.drop (k+1)).map gB),.pk (hd.map gB)]/\(m<=ae x.insts)/\((ul,eN,t2)=(x.insts.take m).foldl eF ([],zX,false))/\(MW=(tb||t2))) (n:=_) ⟨0,[],zX,tt,false,rfl,fr.kp [0,3,5,15,16,17,25,26],sw,cI _,rfl,by rw[htt];simp⟩ ?_;clear fr aC sw;rintro n aC w17 ⟨m,ul,eN,MW,t2,rfl,fr,mZ,hm9,uN,MX⟩;revert aC;refine br<|bt<|iY ((m:Int)<(ae x.insts:Int)) (λFh=> ?_) (λFh=> ?_);refine cE<|bt<|df 3<|aV ?_;obtain⟨i,ux⟩:=aP (l:=x.insts) (i:=m) oM;have Ng:=aI ux;obtain⟨QeN,Qf⟩:=HD oM uN;have Qa9:ae eN=nk:=Qf.trans U6;obtain⟨Qmx,Qba,Qmy⟩:=VC.al i Ng;have Af:ae (ul++x.insts.drop m)=ae x.insts:=by rw[dG,length_drop];omega
 have J7:(ul++x.insts.drop m)[m]?=some i:=by rw[lJ oM,QeN,l5,zb];exact ux
 refine an 2<|aE<|aV<|an 3<|bH (aq x.g 1) (vS iA0 (ae x.insts) x.ic) (af (mZ.get 0 rfl) rfl)<|an 1 ?_;obtain⟨gy,rfl⟩:=lK (mZ.get 2 rfl) (by have:=pC (f:=aQ.cells) (k:=5) kB (ul++x.insts.drop m);unfold ow;omega);refine ga (h0:=oM) (h1:=oM) gy (ae x.insts) 5 (m:Int)<|an 1<|aE<|br<|bt<|aV<|an 3<|bH (aN gy (m:Int) 5) (vI i.op) (lv (mZ.get 2 rfl) rfl J7 0 _ rfl)<|an 1<|aE<|iY ((i.op:Int)>=40) (λc23=> ?_) (λc23=> ?_);refine zt<|aV<|an 3<|bH (aN gy (m:Int) 5) (vI i.op) (lv (mZ.get 2 rfl) rfl J7 0 _ rfl)<|eW [0,3,5,7,8,15,16,17,25,26,43]<|an 2 ?_;obtain⟨B24,Qje⟩:∃B:Bool,B=decide ((i.op:Int)>16):=⟨_,rfl⟩;refine cT [(0,pT ws 0),(3,vB MW),(5,(vP (aZ x.g))),(7,(vP (aN gy (m:Int) 5))),(8,(.func (.func 98) #[] #[])),(15,vS (some fo) (ae gs) gc),(16,(vI (ae gs:Int))),(17,nV k),(25,(vI (ae x.insts:Int))),(26,nV m),(45,(vB (decide ((i.op:Int)>16))))] ?_;rw[<-Qje];have Qmz:B24=true↔((i.op:Int)>16):=by rw[Qje];simp only[aU]
 clear Qje;intro aC fr;refine dx 4 10 [46,49] fr (news:=[(46,cond B24 (pT ws 0) undef),(49,(cond B24 (vP ((aN gy (m:Int) 5).add 4)) undef))]) (by cases B24<;>kernel_rfl) ?_;intro aC fr;cases B24;have VG:¬((i.op:Int)>16):=mD Qmz.2;revert aC;refine an 7<|an 2<|aE<|jG<|cE<|dR ?_;have Qg:¬iZ eN i:=λh_=>by have HG:=h_.1;have VN:=VG;omega
 refine eX ((m:Int)+1)<|an 1<|aE ?_;have ob:=mZ.od [11,11,11,11,11,11,11,11,11,11,11,11] 12;have yS:=cC [.aM x.g 79 [vS x.pA (ae x.ak) x.pc,vS (some gy) (ae x.insts) x.ic,vI x.e,vI x.v,vI x.a,vI x.b,vB x.gone],rK x.pA x.pc x.ak,.row 45 5 (some gy) (ae ((ul++[i])++x.insts.drop (m+1))) x.ic (ow ((ul++[i])++x.insts.drop (m+1))),.pk (x.ak.map fm),.pk (x.ak.map fz),.pk (((ul++[i])++x.insts.drop (m+1)).map fD),.aM ws 95 [pT q 0,vS KA nk kc],.row 115 2 KA nk kc (lO eN),.aM q 75 (cg nm wk pa va bA bn bc (some fo) (ae gs) gc),jH (some fo) gc gs,.pk ((gs.drop (k+1)).map gB),.pk (hd.map gB)] (ob.cast (by rw[show(ul++[i])++x.insts.drop (m+1)=ul++x.insts.drop m by rw[fB ux];simp]));intro aC fr;exact⟨ae x.insts-(m+1),oM,m+1,ul++[i],eN,MW,t2,rfl,fr.kp [0,3,5,15,16,17,25,26],yS,oM,vh ux uN Qg,MX⟩;have VG:((i.op:Int)>16):=Qmz.1 rfl;revert aC;refine bH ((aN gy (m:Int) 5).add 4) (vS i.A (ae i.args) i.c) (lv (mZ.get 2 rfl) rfl J7 4 _ rfl)<|eV (R5 ws q KA kc nk eN i.args i.A i.c w17 Qa9 Qba Qmx (RO.of (mZ.get 6 rfl)) (RO.of (aF (mZ.get 7 rfl))) (RO.of (aF (qv (mZ.get 5 rfl) (aO.2 ⟨i,aI J7,rfl⟩))))) ?_;rintro _ w33 ⟨rfl,DV⟩;have tn:=mZ.cl DV;refine an 2 ?_;obtain⟨B35,Qjf⟩:∃B:Bool,B=(lU eN i.args):=⟨_,rfl⟩;refine cT [(0,pT ws 0),(3,vB MW),(5,(vP (aZ x.g))),(7,(vP (aN gy (m:Int) 5))),(8,(.func (.func 98) #[] #[])),(15,vS (some fo) (ae gs) gc),(16,(vI (ae gs:Int))),(17,nV k),(25,(vI (ae x.insts:Int))),(26,nV m),(53,vB (lU eN i.args))] ?_;rw[<-Qjf];have QmA:B35=true↔((lU eN i.args)=true):=by rw[Qjf]
 clear Qjf;intro aC fr;refine dx 3 17 [54,55,56] fr (news:=[(54,(cond B35 (.func (.func 98) #[] #[]) undef)),(55,cond B35 (pT ws 0) undef),(56,(cond B35 (vP (aN gy (m:Int) 5)) undef))]) (by cases B35<;>kernel_rfl) ?_;intro aC fr;cases B35;have c35:(lU eN i.args)=false:=dj.2 ((mD QmA.2));revert aC;refine an 2<|aE<|jG<|cE<|dR ?_;have Qg:¬iZ eN i:=λh_=>by have HG:=h_.2.1;have VN:=c35;rw[HG]at VN;exact absurd VN sI
 refine eX ((m:Int)+1)<|an 1<|aE ?_;have vH:=tn.od [11,11,11,11,11,11,11,11,11,11,11,11] 12;have wO:=cC [.aM x.g 79 [vS x.pA (ae x.ak) x.pc,vS (some gy) (ae x.insts) x.ic,vI x.e,vI x.v,vI x.a,vI x.b,vB x.gone],rK x.pA x.pc x.ak,.row 45 5 (some gy) (ae ((ul++[i])++x.insts.drop (m+1))) x.ic (ow ((ul++[i])++x.insts.drop (m+1))),.pk (x.ak.map fm),.pk (x.ak.map fz),.pk (((ul++[i])++x.insts.drop (m+1)).map fD),.aM ws 95 [pT q 0,vS KA nk kc],.row 115 2 KA nk kc (lO eN),.aM q 75 (cg nm wk pa va bA bn bc (some fo) (ae gs) gc),jH (some fo) gc gs,.pk ((gs.drop (k+1)).map gB),.pk (hd.map gB)] (vH.cast (by rw[show(ul++[i])++x.insts.drop (m+1)=ul++x.insts.drop m by rw[fB ux];simp]));intro aC fr;exact⟨ae x.insts-(m+1),oM,m+1,ul++[i],eN,MW,t2,rfl,fr.kp [0,3,5,15,16,17,25,26],wO,oM,vh ux uN Qg,MX⟩;have c35:((lU eN i.args)=true):=QmA.1 rfl;have h16:16<i.op:=by have HG:=VG;omega
 have Qjg:lU eN i.args=true:=by simpa using c35
 obtain⟨Rt,Qjh,Qji⟩:=VC.sh i Ng h16;have GS:40<=i.op:=by have HG:=c23;omega
 obtain⟨x0,MN⟩:=Qi2 (show ae i.args=1 by omega);have Qbb:=Qba x0 (by rw[MN];simp);have hrk:iR eN i=nD (i.op-40) (ji eN x0):=by have h9:=QaQ (kn:=eN) (dst:=i.dst) (n:=i.n) (nm:=i.name) (A:=i.A) (c:=i.c) (a0:=x0) GS;rw[<-MN]at h9;exact h9
 have u4:=tn.od [11,11,11,11,9,9,9,8,8,9,11,11] 12;revert aC;refine eV ((by have h9:=Qmn ws q KA kc nk eN gy x.ic m (ul++x.insts.drop m) i.op i.dst i.n i.name i.A i.c x0 w33 Qa9 (by rw[J7,<-MN]) Qjh Qji ⟨GS,Qmy⟩ Qbb.1 Qbb.2 (by rw[<-MN];exact RO.aF (RO.tV (RO.tT (l:=[.aM ws 95 [pT q 0,vS KA nk kc],.row 115 2 KA nk kc (lO eN),.row 45 5 (some gy) (ae (ul++x.insts.drop m)) x.ic (ow (ul++x.insts.drop m))]) (L:=[.aM x.g 79 [vS x.pA (ae x.ak) x.pc,vS (some gy) (ae x.insts) x.ic,vI x.e,vI x.v,vI x.a,vI x.b,vB x.gone],rK x.pA x.pc x.ak,.pk (x.ak.map fm),.pk (x.ak.map fz),.pk ((ul++x.insts.drop m).map fD),.aM q 75 (cg nm wk pa va bA bn bc (some fo) (ae gs) gc),jH (some fo) gc gs,.pk ((gs.drop (k+1)).map gB),.pk (hd.map gB)]) u4 4 rfl) (aO.2 ⟨i,aI J7,rfl⟩))) (Mem.dd (l:=[.aM ws 95 [pT q 0,vS KA nk kc],.row 115 2 KA nk kc (lO eN),.row 45 5 (some gy) (ae (ul++x.insts.drop m)) x.ic (ow (ul++x.insts.drop m))]) (L:=[.aM x.g 79 [vS x.pA (ae x.ak) x.pc,vS (some gy) (ae x.insts) x.ic,vI x.e,vI x.v,vI x.a,vI x.b,vB x.gone],rK x.pA x.pc x.ak,.pk (x.ak.map fm),.pk (x.ak.map fz),.pk ((ul++x.insts.drop m).map fD),.aM q 75 (cg nm wk pa va bA bn bc (some fo) (ae gs) gc),jH (some fo) gc gs,.pk ((gs.drop (k+1)).map gB),.pk (hd.map gB)]) u4);rw[<-hrk]at h9;exact h9)) ?_;rintro _ w45 ⟨rfl,Qir⟩;have Fa:=cC [.aM ws 95 [pT q 0,vS KA nk kc],.row 115 2 KA nk kc (lO ((xm eN (ul++x.insts.drop m) m i.dst (iR eN i).1 (iR eN i).2).2)),.row 45 5 (some gy) ((xm eN (ul++x.insts.drop m) m i.dst (iR eN i).1 (iR eN i).2).1.length) x.ic (ow (xm eN (ul++x.insts.drop m) m i.dst (iR eN i).1 (iR eN i).2).1),.aM x.g 79 [vS x.pA (ae x.ak) x.pc,vS (some gy) (ae x.insts) x.ic,vI x.e,vI x.v,vI x.a,vI x.b,vB x.gone],rK x.pA x.pc x.ak,.pk (x.ak.map fm),.pk (x.ak.map fz),.pk ((ul++x.insts.drop m).map fD),.aM q 75 (cg nm wk pa va bA bn bc (some fo) (ae gs) gc),jH (some fo) gc gs,.pk ((gs.drop (k+1)).map gB),.pk (hd.map gB)] (u4.uX Qir);refine an 1<|aE<|iY ((iR eN i).2=0) (λc47=> ?_) (λc47=> ?_);refine zt<|dR ?_;have BA:(iR eN i).2=0:=by simpa using c47
 have Qg:iZ eN i:=⟨h16,Qjg,BA⟩;have vo:=cC [.aM ws 95 [pT q 0,vS KA nk kc],.row 115 2 KA nk kc (lO (eN.set i.dst.toNat (true,(iR eN i).1))),.row 45 5 (some gy) (ae ((ul++x.insts.drop m).set m (oq eN i))) x.ic (ow ((ul++x.insts.drop m).set m (oq eN i))),.aM x.g 79 [vS x.pA (ae x.ak) x.pc,vS (some gy) (ae x.insts) x.ic,vI x.e,vI x.v,vI x.a,vI x.b,vB x.gone],rK x.pA x.pc x.ak,.pk (x.ak.map fm),.pk (x.ak.map fz),.pk ((ul++x.insts.drop m).map fD),.aM q 75 (cg nm wk pa va bA bn bc (some fo) (ae gs) gc),jH (some fo) gc gs,.pk ((gs.drop (k+1)).map gB),.pk (hd.map gB)] (Fa.cast (by unfold xm;rw[ax BA];rfl));have tf:=vo.od [11,11,11,11,10,10,10,10,10,10,10,11] 12;have CG:=cC [fD i,.pk (((ul++x.insts.drop m).map fD).eraseIdx m),.aM ws 95 [pT q 0,vS KA nk kc],.row 115 2 KA nk kc (lO (eN.set i.dst.toNat (true,(iR eN i).1))),.row 45 5 (some gy) (ae ((ul++x.insts.drop m).set m (oq eN i))) x.ic (ow ((ul++x.insts.drop m).set m (oq eN i))),.aM x.g 79 [vS x.pA (ae x.ak) x.pc,vS (some gy) (ae x.insts) x.ic,vI x.e,vI x.v,vI x.a,vI x.b,vB x.gone],rK x.pA x.pc x.ak,.pk (x.ak.map fm),.pk (x.ak.map fz),.aM q 75 (cg nm wk pa va bA bn bc (some fo) (ae gs) gc),jH (some fo) gc gs,.pk ((gs.drop (k+1)).map gB),.pk (hd.map gB)] (tf.Xd m (r:=fD i) (by rw[aL,J7];rfl));have tr:=CG.od [12,12,12,12,12,12,12,12,12,12,12,12] 12;have zA:=(tr.call (Mem.fi _ 3 1)).nf;have FL:=zA.od [11,11,11,11,11,11,11,11,11,11,11,11,12] 13;have M54:=cC [fD (oq eN i),.pk (((ul++x.insts.drop m).map fD).eraseIdx m),.aM ws 95 [pT q 0,vS KA nk kc],.row 115 2 KA nk kc (lO (eN.set i.dst.toNat (true,(iR eN i).1))),.row 45 5 (some gy) (ae ((ul++x.insts.drop m).set m (oq eN i))) x.ic (ow ((ul++x.insts.drop m).set m (oq eN i))),.aM x.g 79 [vS x.pA (ae x.ak) x.pc,vS (some gy) (ae x.insts) x.ic,vI x.e,vI x.v,vI x.a,vI x.b,vB x.gone],rK x.pA x.pc x.ak,.pk (x.ak.map fm),.pk (x.ak.map fz),.aM q 75 (cg nm wk pa va bA bn bc (some fo) (ae gs) gc),jH (some fo) gc gs,.pk ((gs.drop (k+1)).map gB),.pk (hd.map gB)] (FL);have s5:=cC [.pk (((ul++x.insts.drop m).map fD).set m (fD (oq eN i))),.aM ws 95 [pT q 0,vS KA nk kc],.row 115 2 KA nk kc (lO (eN.set i.dst.toNat (true,(iR eN i).1))),.row 45 5 (some gy) (ae ((ul++x.insts.drop m).set m (oq eN i))) x.ic (ow ((ul++x.insts.drop m).set m (oq eN i))),.aM x.g 79 [vS x.pA (ae x.ak) x.pc,vS (some gy) (ae x.insts) x.ic,vI x.e,vI x.v,vI x.a,vI x.b,vB x.gone],rK x.pA x.pc x.ak,.pk (x.ak.map fm),.pk (x.ak.map fz),.aM q 75 (cg nm wk pa va bA bn bc (some fo) (ae gs) gc),jH (some fo) gc gs,.pk ((gs.drop (k+1)).map gB),.pk (hd.map gB)] (M54.Qfa (by rw[bl];omega));have GP:=cC [.pk (((ul++x.insts.drop m).set m (oq eN i)).map fD),.aM ws 95 [pT q 0,vS KA nk kc],.row 115 2 KA nk kc (lO (eN.set i.dst.toNat (true,(iR eN i).1))),.row 45 5 (some gy) (ae ((ul++x.insts.drop m).set m (oq eN i))) x.ic (ow ((ul++x.insts.drop m).set m (oq eN i))),.aM x.g 79 [vS x.pA (ae x.ak) x.pc,vS (some gy) (ae x.insts) x.ic,vI x.e,vI x.v,vI x.a,vI x.b,vB x.gone],rK x.pA x.pc x.ak,.pk (x.ak.map fm),.pk (x.ak.map fz),.aM q 75 (cg nm wk pa va bA bn bc (some fo) (ae gs) gc),jH (some fo) gc gs,.pk ((gs.drop (k+1)).map gB),.pk (hd.map gB)] (s5.cast (by rw[<-qL]));refine eX ((m:Int)+1)<|an 1<|aE ?_;have xw:=GP.od [11,11,11,11,6,6,6,11,11,9,11,11] 12;have u0:=cC [.aM x.g 79 [vS x.pA (ae x.ak) x.pc,vS (some gy) (ae x.insts) x.ic,vI x.e,vI x.v,vI x.a,vI x.b,vB x.gone],rK x.pA x.pc x.ak,.row 45 5 (some gy) (ae ((ul++[oq eN i])++x.insts.drop (m+1))) x.ic (ow ((ul++[oq eN i])++x.insts.drop (m+1))),.pk (x.ak.map fm),.pk (x.ak.map fz),.pk (((ul++[oq eN i])++x.insts.drop (m+1)).map fD),.aM ws 95 [pT q 0,vS KA nk kc],.row 115 2 KA nk kc (lO (eN.set i.dst.toNat (true,(iR eN i).1))),.aM q 75 (cg nm wk pa va bA bn bc (some fo) (ae gs) gc),jH (some fo) gc gs,.pk ((gs.drop (k+1)).map gB),.pk (hd.map gB)] (xw.cast (by rw[<-JQ ux QeN]));intro aC fr;exact⟨ae x.insts-(m+1),oM,m+1,ul++[oq eN i],(eN.set i.dst.toNat (true,(iR eN i).1)),true,true,rfl,fr.kp [0,3,5,15,16,17,25,26],u0,oM,MM ux uN Qg,sI⟩;refine cE<|dR ?_;have BA:¬(iR eN i).2=0:=by simpa using c47
 have Qg:¬iZ eN i:=λh_=>BA h_.2.2
 have M61:=cC [.aM ws 95 [pT q 0,vS KA nk kc],.row 115 2 KA nk kc (lO eN),.row 45 5 (some gy) (ae (ul++x.insts.drop m)) x.ic (ow (ul++x.insts.drop m)),.aM x.g 79 [vS x.pA (ae x.ak) x.pc,vS (some gy) (ae x.insts) x.ic,vI x.e,vI x.v,vI x.a,vI x.b,vB x.gone],rK x.pA x.pc x.ak,.pk (x.ak.map fm),.pk (x.ak.map fz),.pk ((ul++x.insts.drop m).map fD),.aM q 75 (cg nm wk pa va bA bn bc (some fo) (ae gs) gc),jH (some fo) gc gs,.pk ((gs.drop (k+1)).map gB),.pk (hd.map gB)] (Fa.cast (by unfold xm;rw[ao BA]));refine eX ((m:Int)+1)<|an 1<|aE ?_;have sG:=M61.od [11,11,11,11,5,5,11,11,11,9,11,11] 12;have vn:=cC [.aM x.g 79 [vS x.pA (ae x.ak) x.pc,vS (some gy) (ae x.insts) x.ic,vI x.e,vI x.v,vI x.a,vI x.b,vB x.gone],rK x.pA x.pc x.ak,.row 45 5 (some gy) (ae ((ul++[i])++x.insts.drop (m+1))) x.ic (ow ((ul++[i])++x.insts.drop (m+1))),.pk (x.ak.map fm),.pk (x.ak.map fz),.pk (((ul++[i])++x.insts.drop (m+1)).map fD),.aM ws 95 [pT q 0,vS KA nk kc],.row 115 2 KA nk kc (lO eN),.aM q 75 (cg nm wk pa va bA bn bc (some fo) (ae gs) gc),jH (some fo) gc gs,.pk ((gs.drop (k+1)).map gB),.pk (hd.map gB)] (sG.cast (by rw[show(ul++[i])++x.insts.drop (m+1)=ul++x.insts.drop m by rw[fB ux];simp]));intro aC fr;exact⟨ae x.insts-(m+1),oM,m+1,ul++[i],eN,MW,t2,rfl,fr.kp [0,3,5,15,16,17,25,26],vn,oM,vh ux uN Qg,MX⟩;refine cE<|aV<|an 3<|bH (aN gy (m:Int) 5) (vI i.op) (lv (mZ.get 2 rfl) rfl J7 0 _ rfl)<|eW [0,3,5,7,8,15,16,17,25,26,43]<|an 2 ?_;obtain⟨VL,PK⟩:∃B:Bool,B=decide ((i.op:Int)>16):=⟨_,rfl⟩;refine cT [(0,pT ws 0),(3,vB MW),(5,(vP (aZ x.g))),(7,(vP (aN gy (m:Int) 5))),(8,(.func (.func 97) #[] #[])),(15,vS (some fo) (ae gs) gc),(16,(vI (ae gs:Int))),(17,nV k),(25,(vI (ae x.insts:Int))),(26,nV m),(45,(vB (decide ((i.op:Int)>16))))] ?_;rw[<-PK];have Qed:VL=true↔((i.op:Int)>16):=by rw[PK];simp only[aU]
 clear PK;intro aC fr;refine dx 4 10 [46,49] fr (news:=[(46,cond VL (pT ws 0) undef),(49,(cond VL (vP ((aN gy (m:Int) 5).add 4)) undef))]) (by cases VL<;>kernel_rfl) ?_;intro aC fr;cases VL;have c66:¬((i.op:Int)>16):=mD Qed.2;revert aC;refine an 7<|an 2<|aE<|jG<|cE<|dR ?_;have Qg:¬iZ eN i:=λh_=>by have HG:=h_.1;have VN:=c66;omega
 refine eX ((m:Int)+1)<|an 1<|aE ?_;have zS:=mZ.od [11,11,11,11,11,11,11,11,11,11,11,11] 12;have CV:=cC [.aM x.g 79 [vS x.pA (ae x.ak) x.pc,vS (some gy) (ae x.insts) x.ic,vI x.e,vI x.v,vI x.a,vI x.b,vB x.gone],rK x.pA x.pc x.ak,.row 45 5 (some gy) (ae ((ul++[i])++x.insts.drop (m+1))) x.ic (ow ((ul++[i])++x.insts.drop (m+1))),.pk (x.ak.map fm),.pk (x.ak.map fz),.pk (((ul++[i])++x.insts.drop (m+1)).map fD),.aM ws 95 [pT q 0,vS KA nk kc],.row 115 2 KA nk kc (lO eN),.aM q 75 (cg nm wk pa va bA bn bc (some fo) (ae gs) gc),jH (some fo) gc gs,.pk ((gs.drop (k+1)).map gB),.pk (hd.map gB)] (zS.cast (by rw[show(ul++[i])++x.insts.drop (m+1)=ul++x.insts.drop m by rw[fB ux];simp]));intro aC fr;exact⟨ae x.insts-(m+1),oM,m+1,ul++[i],eN,MW,t2,rfl,fr.kp [0,3,5,15,16,17,25,26],CV,oM,vh ux uN Qg,MX⟩;have c66:((i.op:Int)>16):=Qed.1 rfl;revert aC;refine bH ((aN gy (m:Int) 5).add 4) (vS i.A (ae i.args) i.c) (lv (mZ.get 2 rfl) rfl J7 4 _ rfl)<|eV (R5 ws q KA kc nk eN i.args i.A i.c w17 Qa9 Qba Qmx (RO.of (mZ.get 6 rfl)) (RO.of (aF (mZ.get 7 rfl))) (RO.of (aF (qv (mZ.get 5 rfl) (aO.2 ⟨i,aI J7,rfl⟩))))) ?_;rintro _ w75 ⟨rfl,ZB⟩;have tq:=mZ.cl ZB;refine an 2 ?_;obtain⟨B77,Qjj⟩:∃B:Bool,B=(lU eN i.args):=⟨_,rfl⟩;refine cT [(0,pT ws 0),(3,vB MW),(5,(vP (aZ x.g))),(7,(vP (aN gy (m:Int) 5))),(8,(.func (.func 97) #[] #[])),(15,vS (some fo) (ae gs) gc),(16,(vI (ae gs:Int))),(17,nV k),(25,(vI (ae x.insts:Int))),(26,nV m),(53,vB (lU eN i.args))] ?_;rw[<-Qjj];have QmB:B77=true↔((lU eN i.args)=true):=by rw[Qjj]
 clear Qjj;intro aC fr;refine dx 3 17 [54,55,56] fr (news:=[(54,(cond B77 (.func (.func 97) #[] #[]) undef)),(55,cond B77 (pT ws 0) undef),(56,(cond B77 (vP (aN gy (m:Int) 5)) undef))]) (by cases B77<;>kernel_rfl) ?_;intro aC fr;cases B77;have Nv:(lU eN i.args)=false:=dj.2 ((mD QmB.2));revert aC;refine an 2<|aE<|jG<|cE<|dR ?_;have Qg:¬iZ eN i:=λh_=>by have HG:=h_.2.1;have VN:=Nv;rw[HG]at VN;exact absurd VN sI
 refine eX ((m:Int)+1)<|an 1<|aE ?_;have M82:=tq.od [11,11,11,11,11,11,11,11,11,11,11,11] 12;have pY:=cC [.aM x.g 79 [vS x.pA (ae x.ak) x.pc,vS (some gy) (ae x.insts) x.ic,vI x.e,vI x.v,vI x.a,vI x.b,vB x.gone],rK x.pA x.pc x.ak,.row 45 5 (some gy) (ae ((ul++[i])++x.insts.drop (m+1))) x.ic (ow ((ul++[i])++x.insts.drop (m+1))),.pk (x.ak.map fm),.pk (x.ak.map fz),.pk (((ul++[i])++x.insts.drop (m+1)).map fD),.aM ws 95 [pT q 0,vS KA nk kc],.row 115 2 KA nk kc (lO eN),.aM q 75 (cg nm wk pa va bA bn bc (some fo) (ae gs) gc),jH (some fo) gc gs,.pk ((gs.drop (k+1)).map gB),.pk (hd.map gB)] (M82.cast (by rw[show(ul++[i])++x.insts.drop (m+1)=ul++x.insts.drop m by rw[fB ux];simp]));intro aC fr;exact⟨ae x.insts-(m+1),oM,m+1,ul++[i],eN,MW,t2,rfl,fr.kp [0,3,5,15,16,17,25,26],pY,oM,vh ux uN Qg,MX⟩;have Nv:((lU eN i.args)=true):=QmB.1 rfl;have h16:16<i.op:=by have HG:=c66;omega
 have Qjg:lU eN i.args=true:=by simpa using Nv
 obtain⟨Rt,Qjh,Qji⟩:=VC.sh i Ng h16;have GS:i.op<40:=by have HG:=c23;omega
 obtain⟨x0,x1,MN⟩:=Qi1 (show ae i.args=2 by omega);have Qbb:=Qba x0 (by rw[MN];simp);have QmC:=Qba x1 (by rw[MN];simp);have hrk:iR eN i=cW (i.op-16) (ji eN x0) (ji eN x1):=by have h9:=QaP (kn:=eN) (dst:=i.dst) (n:=i.n) (nm:=i.name) (A:=i.A) (c:=i.c) (a0:=x0) (a1:=x1) GS;rw[<-MN]at h9;exact h9
 have rM:=tq.od [11,11,11,11,9,9,9,8,8,9,11,11] 12;revert aC;refine eV ((by have h9:=Qmi ws q KA kc nk eN gy x.ic m (ul++x.insts.drop m) i.op i.dst i.n i.name i.A i.c x0 x1 w75 Qa9 (by rw[J7,<-MN]) Qjh Qji ⟨h16,GS⟩ Qbb.1 Qbb.2 QmC.1 QmC.2 (by rw[<-MN];exact RO.aF (RO.tV (RO.tT (l:=[.aM ws 95 [pT q 0,vS KA nk kc],.row 115 2 KA nk kc (lO eN),.row 45 5 (some gy) (ae (ul++x.insts.drop m)) x.ic (ow (ul++x.insts.drop m))]) (L:=[.aM x.g 79 [vS x.pA (ae x.ak) x.pc,vS (some gy) (ae x.insts) x.ic,vI x.e,vI x.v,vI x.a,vI x.b,vB x.gone],rK x.pA x.pc x.ak,.pk (x.ak.map fm),.pk (x.ak.map fz),.pk ((ul++x.insts.drop m).map fD),.aM q 75 (cg nm wk pa va bA bn bc (some fo) (ae gs) gc),jH (some fo) gc gs,.pk ((gs.drop (k+1)).map gB),.pk (hd.map gB)]) rM 4 rfl) (aO.2 ⟨i,aI J7,rfl⟩))) (Mem.dd (l:=[.aM ws 95 [pT q 0,vS KA nk kc],.row 115 2 KA nk kc (lO eN),.row 45 5 (some gy) (ae (ul++x.insts.drop m)) x.ic (ow (ul++x.insts.drop m))]) (L:=[.aM x.g 79 [vS x.pA (ae x.ak) x.pc,vS (some gy) (ae x.insts) x.ic,vI x.e,vI x.v,vI x.a,vI x.b,vB x.gone],rK x.pA x.pc x.ak,.pk (x.ak.map fm),.pk (x.ak.map fz),.pk ((ul++x.insts.drop m).map fD),.aM q 75 (cg nm wk pa va bA bn bc (some fo) (ae gs) gc),jH (some fo) gc gs,.pk ((gs.drop (k+1)).map gB),.pk (hd.map gB)]) rM);rw[<-hrk]at h9;exact h9)) ?_;rintro _ w87 ⟨rfl,QpH⟩;have JG:=cC [.aM ws 95 [pT q 0,vS KA nk kc],.row 115 2 KA nk kc (lO ((xm eN (ul++x.insts.drop m) m i.dst (iR eN i).1 (iR eN i).2).2)),.row 45 5 (some gy) ((xm eN (ul++x.insts.drop m) m i.dst (iR eN i).1 (iR eN i).2).1.length) x.ic (ow (xm eN (ul++x.insts.drop m) m i.dst (iR eN i).1 (iR eN i).2).1),.aM x.g 79 [vS x.pA (ae x.ak) x.pc,vS (some gy) (ae x.insts) x.ic,vI x.e,vI x.v,vI x.a,vI x.b,vB x.gone],rK x.pA x.pc x.ak,.pk (x.ak.map fm),.pk (x.ak.map fz),.pk ((ul++x.insts.drop m).map fD),.aM q 75 (cg nm wk pa va bA bn bc (some fo) (ae gs) gc),jH (some fo) gc gs,.pk ((gs.drop (k+1)).map gB),.pk (hd.map gB)] (rM.uX QpH);refine an 1<|aE<|iY ((iR eN i).2=0) (λHA=> ?_) (λHA=> ?_);refine zt<|dR ?_;have BA:(iR eN i).2=0:=by simpa using HA
 have Qg:iZ eN i:=⟨h16,Qjg,BA⟩;have M90:=cC [.aM ws 95 [pT q 0,vS KA nk kc],.row 115 2 KA nk kc (lO (eN.set i.dst.toNat (true,(iR eN i).1))),.row 45 5 (some gy) (ae ((ul++x.insts.drop m).set m (oq eN i))) x.ic (ow ((ul++x.insts.drop m).set m (oq eN i))),.aM x.g 79 [vS x.pA (ae x.ak) x.pc,vS (some gy) (ae x.insts) x.ic,vI x.e,vI x.v,vI x.a,vI x.b,vB x.gone],rK x.pA x.pc x.ak,.pk (x.ak.map fm),.pk (x.ak.map fz),.pk ((ul++x.insts.drop m).map fD),.aM q 75 (cg nm wk pa va bA bn bc (some fo) (ae gs) gc),jH (some fo) gc gs,.pk ((gs.drop (k+1)).map gB),.pk (hd.map gB)] (JG.cast (by unfold xm;rw[ax BA];rfl));have JB:=M90.od [11,11,11,11,10,10,10,10,10,10,10,11] 12;have PE:=cC [fD i,.pk (((ul++x.insts.drop m).map fD).eraseIdx m),.aM ws 95 [pT q 0,vS KA nk kc],.row 115 2 KA nk kc (lO (eN.set i.dst.toNat (true,(iR eN i).1))),.row 45 5 (some gy) (ae ((ul++x.insts.drop m).set m (oq eN i))) x.ic (ow ((ul++x.insts.drop m).set m (oq eN i))),.aM x.g 79 [vS x.pA (ae x.ak) x.pc,vS (some gy) (ae x.insts) x.ic,vI x.e,vI x.v,vI x.a,vI x.b,vB x.gone],rK x.pA x.pc x.ak,.pk (x.ak.map fm),.pk (x.ak.map fz),.aM q 75 (cg nm wk pa va bA bn bc (some fo) (ae gs) gc),jH (some fo) gc gs,.pk ((gs.drop (k+1)).map gB),.pk (hd.map gB)] (JB.Xd m (r:=fD i) (by rw[aL,J7];rfl));have M93:=PE.od [12,12,12,12,12,12,12,12,12,12,12,12] 12;have OO:=(M93.call (Mem.fi _ 3 1)).nf;have Px:=OO.od [11,11,11,11,11,11,11,11,11,11,11,11,12] 13;have M96:=cC [fD (oq eN i),.pk (((ul++x.insts.drop m).map fD).eraseIdx m),.aM ws 95 [pT q 0,vS KA nk kc],.row 115 2 KA nk kc (lO (eN.set i.dst.toNat (true,(iR eN i).1))),.row 45 5 (some gy) (ae ((ul++x.insts.drop m).set m (oq eN i))) x.ic (ow ((ul++x.insts.drop m).set m (oq eN i))),.aM x.g 79 [vS x.pA (ae x.ak) x.pc,vS (some gy) (ae x.insts) x.ic,vI x.e,vI x.v,vI x.a,vI x.b,vB x.gone],rK x.pA x.pc x.ak,.pk (x.ak.map fm),.pk (x.ak.map fz),.aM q 75 (cg nm wk pa va bA bn bc (some fo) (ae gs) gc),jH (some fo) gc gs,.pk ((gs.drop (k+1)).map gB),.pk (hd.map gB)] (Px);have M97:=cC [.pk (((ul++x.insts.drop m).map fD).set m (fD (oq eN i))),.aM ws 95 [pT q 0,vS KA nk kc],.row 115 2 KA nk kc (lO (eN.set i.dst.toNat (true,(iR eN i).1))),.row 45 5 (some gy) (ae ((ul++x.insts.drop m).set m (oq eN i))) x.ic (ow ((ul++x.insts.drop m).set m (oq eN i))),.aM x.g 79 [vS x.pA (ae x.ak) x.pc,vS (some gy) (ae x.insts) x.ic,vI x.e,vI x.v,vI x.a,vI x.b,vB x.gone],rK x.pA x.pc x.ak,.pk (x.ak.map fm),.pk (x.ak.map fz),.aM q 75 (cg nm wk pa va bA bn bc (some fo) (ae gs) gc),jH (some fo) gc gs,.pk ((gs.drop (k+1)).map gB),.pk (hd.map gB)] (M96.Qfa (by rw[bl];omega));have Uq:=cC [.pk (((ul++x.insts.drop m).set m (oq eN i)).map fD),.aM ws 95 [pT q 0,vS KA nk kc],.row 115 2 KA nk kc (lO (eN.set i.dst.toNat (true,(iR eN i).1))),.row 45 5 (some gy) (ae ((ul++x.insts.drop m).set m (oq eN i))) x.ic (ow ((ul++x.insts.drop m).set m (oq eN i))),.aM x.g 79 [vS x.pA (ae x.ak) x.pc,vS (some gy) (ae x.insts) x.ic,vI x.e,vI x.v,vI x.a,vI x.b,vB x.gone],rK x.pA x.pc x.ak,.pk (x.ak.map fm),.pk (x.ak.map fz),.aM q 75 (cg nm wk pa va bA bn bc (some fo) (ae gs) gc),jH (some fo) gc gs,.pk ((gs.drop (k+1)).map gB),.pk (hd.map gB)] (M97.cast (by rw[<-qL]));refine eX ((m:Int)+1)<|an 1<|aE ?_;have PU:=Uq.od [11,11,11,11,6,6,6,11,11,9,11,11] 12;have OP:=cC [.aM x.g 79 [vS x.pA (ae x.ak) x.pc,vS (some gy) (ae x.insts) x.ic,vI x.e,vI x.v,vI x.a,vI x.b,vB x.gone],rK x.pA x.pc x.ak,.row 45 5 (some gy) (ae ((ul++[oq eN i])++x.insts.drop (m+1))) x.ic (ow ((ul++[oq eN i])++x.insts.drop (m+1))),.pk (x.ak.map fm),.pk (x.ak.map fz),.pk (((ul++[oq eN i])++x.insts.drop (m+1)).map fD),.aM ws 95 [pT q 0,vS KA nk kc],.row 115 2 KA nk kc (lO (eN.set i.dst.toNat (true,(iR eN i).1))),.aM q 75 (cg nm wk pa va bA bn bc (some fo) (ae gs) gc),jH (some fo) gc gs,.pk ((gs.drop (k+1)).map gB),.pk (hd.map gB)] (PU.cast (by rw[<-JQ ux QeN]));intro aC fr;exact⟨ae x.insts-(m+1),oM,m+1,ul++[oq eN i],(eN.set i.dst.toNat (true,(iR eN i).1)),true,true,rfl,fr.kp [0,3,5,15,16,17,25,26],OP,oM,MM ux uN Qg,sI⟩;refine cE<|dR ?_;have BA:¬(iR eN i).2=0:=by simpa using HA
 have Qg:¬iZ eN i:=λh_=>BA h_.2.2
 have QiB:=cC [.aM ws 95 [pT q 0,vS KA nk kc],.row 115 2 KA nk kc (lO eN),.row 45 5 (some gy) (ae (ul++x.insts.drop m)) x.ic (ow (ul++x.insts.drop m)),.aM x.g 79 [vS x.pA (ae x.ak) x.pc,vS (some gy) (ae x.insts) x.ic,vI x.e,vI x.v,vI x.a,vI x.b,vB x.gone],rK x.pA x.pc x.ak,.pk (x.ak.map fm),.pk (x.ak.map fz),.pk ((ul++x.insts.drop m).map fD),.aM q 75 (cg nm wk pa va bA bn bc (some fo) (ae gs) gc),jH (some fo) gc gs,.pk ((gs.drop (k+1)).map gB),.pk (hd.map gB)] (JG.cast (by unfold xm;rw[ao BA]));refine eX ((m:Int)+1)<|an 1<|aE ?_;have EI:=QiB.od [11,11,11,11,5,5,11,11,11,9,11,11] 12;have km:=cC [.aM x.g 79 [vS x.pA (ae x.ak) x.pc,vS (some gy) (ae x.insts) x.ic,vI x.e,vI x.v,vI x.a,vI x.b,vB x.gone],rK x.pA x.pc x.ak,.row 45 5 (some gy) (ae ((ul++[i])++x.insts.drop (m+1))) x.ic (ow ((ul++[i])++x.insts.drop (m+1))),.pk (x.ak.map fm),.pk (x.ak.map fz),.pk (((ul++[i])++x.insts.drop (m+1)).map fD),.aM ws 95 [pT q 0,vS KA nk kc],.row 115 2 KA nk kc (lO eN),.aM q 75 (cg nm wk pa va bA bn bc (some fo) (ae gs) gc),jH (some fo) gc gs,.pk ((gs.drop (k+1)).map gB),.pk (hd.map gB)] (EI.cast (by rw[show(ul++[i])++x.insts.drop (m+1)=ul++x.insts.drop m by rw[fB ux];simp]));intro aC fr;exact⟨ae x.insts-(m+1),oM,m+1,ul++[i],eN,MW,t2,rfl,fr.kp [0,3,5,15,16,17,25,26],km,oM,vh ux uN Qg,MX⟩;refine gZ 2<|ia<|bt ?_;have QmD:ae x.insts<=m:=oM;have hsf:(ul,eN,t2)=x.insts.foldl eF ([],zX,false):=by rw[uN,cL QmD]
 obtain⟨QeN,Qf⟩:=HD oM uN;have Qa9:ae eN=nk:=Qf.trans U6;have QpI:x.insts.drop m=[]:=F7 QmD;have QpJ:ae ul=ae x.insts:=oM;have sL:=cC [.aM x.g 79 [vS x.pA (ae x.ak) x.pc,vS iA0 (ae ul) x.ic,vI x.e,vI x.v,vI x.a,vI x.b,vB x.gone],rK x.pA x.pc x.ak,.row 45 5 iA0 (ae ul) x.ic (ow ul),.pk (x.ak.map fm),.pk (x.ak.map fz),.pk (ul.map fD),.aM ws 95 [pT q 0,vS KA nk kc],.row 115 2 KA nk kc (lO eN),.aM q 75 (cg nm wk pa va bA bn bc (some fo) (ae gs) gc),jH (some fo) gc gs,.pk ((gs.drop (k+1)).map gB),.pk (hd.map gB)] (mZ.cast (by rw[QpI,iq,QpJ]));by_cases he1:x.e=1;have hxv:=VC.fv he1;obtain⟨cve,hce,QpK,QbU⟩:=ML (kn:=eN) hxv.1 oM;obtain⟨QpL,E5⟩:∃B:Bool,B=(x.e==1):=⟨_,rfl⟩;obtain rfl:QpL=true:=by have nG:((x.e:Int)=1):=oM;first|exact E5.trans (jO nG)|exact E5.trans (kM nG)|exact E5.trans (az.2 nG)|exact E5.trans (cQ.2 nG)|exact E5.trans (dj.2 (λe=>nG (az.1 e)))|exact E5.trans (dj.2 (λe=>nG (cQ.1 e)))
 refine eW [0,3,5,15,16,17,25,26] ?_;intro aC fr;refine BD 14 (bE [eP (aZ x.g),eP (aZ x.g),eP (aq x.g 2),eI x.e,eB true,eB true,eR ws 0,eR ws 0,eR ws 1,eS KA nk kc,eP (aZ x.g),eP (aZ x.g),eP (aq x.g 3),eI x.v]) fr (vG (fQ lz dP dP dP (dL (aq x.g 2) (vI x.e) λw_ hK=>(af ((sL.aw hK).get 0 rfl) rfl)) (dC (x.e==1) E5) dP dP dP dP (dL (aq ws 1) (vS KA nk kc) λw_ hK=>(af ((sL.aw hK).get 6 rfl) rfl)) dP dP) dP (dL (aq x.g 3) (vI x.v) λw_ hK=>(af ((sL.aw hK).get 0 rfl) rfl))) ?_;intro aC w114 vs hK hv fr;revert aC;refine cT [(0,pT ws 0),(3,vB MW),(5,(vP (aZ x.g))),(15,vS (some fo) (ae gs) gc),(16,(vI (ae gs:Int))),(17,nV k),(65,vB true),(69,vS KA nk kc),(73,vI x.v)] ?_;have EO:=sL.aw hK;clear hK hv fr aC sL;clear vs;obtain⟨mY,rfl⟩:=lK (EO.get 7 rfl) (by rw[yI];omega);refine ga (h0:=hxv.1) (h1:=oM) mY nk 2 x.v<|an 1<|bH (aN mY (x.v) 2) (vB (CL eN x.v)) (by rw[QpK];exact zW (aF (EO.get 7 rfl)) rfl hce 0 _ rfl)<|an 1<|aE<|fZ (CL eN x.v) ((CL eN x.v)=true) ju (λMC=> ?_) (λMC=> ?_);refine bt<|bt<|eW [0,3,5,15,16,17] ?_;intro aC fr;refine BD 8 (bE [eR ws 0,eR ws 0,eR ws 1,eS (some mY) nk kc,eP (aZ x.g),eP (aZ x.g),eP (aq x.g 3),eI x.v]) fr (s3 lz dP dP dP (dL (aq ws 1) (vS (some mY) nk kc) λw_ hK=>(af ((EO.aw hK).get 6 rfl) rfl)) dP dP dP (dL (aq x.g 3) (vI x.v) λw_ hK=>(af ((EO.aw hK).get 0 rfl) rfl))) ?_;intro aC Qh1 vs hK hv fr;revert aC;refine cT [(0,pT ws 0),(5,(vP (aZ x.g))),(15,vS (some fo) (ae gs) gc),(16,(vI (ae gs:Int))),(17,nV k),(81,vS (some mY) nk kc),(85,vI x.v)] ?_;have xh:=EO.aw hK;clear hK hv fr aC EO;clear vs;refine ga (h0:=hxv.1) (h1:=oM) mY nk 2 x.v<|an 1<|bH ((aN mY (x.v) 2).add 1) (vI (ji eN x.v)) (by rw[QbU];exact zW (aF (xh.get 7 rfl)) rfl hce 1 _ rfl)<|an 1<|aE<|fZ (((ji eN x.v):Int)==0) (((ji eN x.v):Int)=0) (by simp only[az]) (λJx=> ?_) (λJx=> ?_);refine dR<|an 4<|bH (aq x.g 5) (vI x.b) (af (xh.get 0 rfl) rfl)<|an 2<|sf (ho:=sI) xh 0 4 (vI x.b) rfl λw125 JI=> ?_
 replace JI:=JI.nf;refine aE<|aV<|an 5<|sf (ho:=sI) JI 0 2 (vI 0) rfl λQnF FG=> ?_
 replace FG:=FG.nf;refine an 2<|sf (ho:=sI) FG 0 3 (vI 0) rfl λQkQ BL=> ?_
 replace BL:=BL.nf;refine eW [0,15,16,17,99]<|an 2<|sf (ho:=sI) BL 0 5 (vI 0) rfl λQpM MY=> ?_
 replace MY:=MY.nf;refine aE<|zt<|dR ?_;have wY:oN eN x.e x.v:=⟨he1,by simpa using MC⟩;have ND:(⟨x.g,x.pA,x.pc,x.ak,x.iA,x.ic,ul,0,0,x.b,0,x.gone⟩:aY)=bG zX x:=QaR hsf wY (by rw[ax Jx]);have QeL:=MY.od [11,11,11,11,11,11,11,11,11,11,11,11] 12;have BO:=cC [.aM x.g 79 [vS x.pA (ae x.ak) x.pc,vS x.iA (ae ul) x.ic,vI 0,vI 0,vI x.b,vI 0,vB x.gone],rK x.pA x.pc x.ak,jC x.iA x.ic ul,.pk (x.ak.map fm),.pk (x.ak.map fz),.pk (ul.map fD),.aM ws 95 [pT q 0,vS (some mY) nk kc],.row 115 2 (some mY) nk kc (lO eN),.aM q 75 (cg nm wk pa va bA bn bc (some fo) (ae gs) gc),jH (some fo) gc gs,.pk ((gs.drop (k+1)).map gB),.pk (hd.map gB)] (QeL.cast (by rw[Qa8];rfl));have QpN:=cC [gB (⟨x.g,x.pA,x.pc,x.ak,x.iA,x.ic,ul,0,0,x.b,0,x.gone⟩:aY),.aM ws 95 [pT q 0,vS (some mY) nk kc],.row 115 2 (some mY) nk kc (lO eN),.aM q 75 (cg nm wk pa va bA bn bc (some fo) (ae gs) gc),jH (some fo) gc gs,.pk ((gs.drop (k+1)).map gB),.pk (hd.map gB)] (Mem.pack (l:=gL (⟨x.g,x.pA,x.pc,x.ak,x.iA,x.ic,ul,0,0,x.b,0,x.gone⟩:aY)) BO);have Pt:=QpN.od [5,5,5,5,5,5,6] 7;have Pz:=cC [.pk (hd.map gB++[gB (⟨x.g,x.pA,x.pc,x.ak,x.iA,x.ic,ul,0,0,x.b,0,x.gone⟩:aY)]),.aM ws 95 [pT q 0,vS (some mY) nk kc],.row 115 2 (some mY) nk kc (lO eN),.aM q 75 (cg nm wk pa va bA bn bc (some fo) (ae gs) gc),jH (some fo) gc gs,.pk ((gs.drop (k+1)).map gB)] (Pt.ib);refine eX ((k:Int)+1)<|an 1<|aE ?_;have EY:=Pz.od [0,5,5,5,5,5] 6;have EJ:=cC [.aM ws 95 [pT q 0,vS (some mY) nk kc],.row 115 2 (some mY) nk kc (lO eN),.aM q 75 (cg nm wk pa va bA bn bc (some fo) (ae gs) gc),jH (some fo) gc gs,.pk ((gs.drop (k+1)).map gB),.pk ((hd++[(⟨x.g,x.pA,x.pc,x.ak,x.iA,x.ic,ul,0,0,x.b,0,x.gone⟩:aY)]).map gB)] (EY.cast (by rw[ix]));intro aC fr;exact⟨ae gs-(k+1),oM,k+1,hd++[(⟨x.g,x.pA,x.pc,x.ak,x.iA,x.ic,ul,0,0,x.b,0,x.gone⟩:aY)],eN,true,(tb||t2||true),rfl,fr.kp [0,3,15,16,17],EJ,oM,sP hx rS hsf ND (by rw[jO wY]),sI,Qf.trans U6⟩;refine cE<|aV<|an 5<|sf (ho:=sI) xh 0 2 (vI 0) rfl λw142 BP=> ?_
 replace BP:=BP.nf;refine an 2<|sf (ho:=sI) BP 0 3 (vI 0) rfl λQen nH=> ?_
 replace nH:=nH.nf;refine an 2<|sf (ho:=sI) nH 0 5 (vI 0) rfl λw146 EZ=> ?_
 replace EZ:=EZ.nf;refine aE<|zt<|dR ?_;have wY:oN eN x.e x.v:=⟨he1,by simpa using MC⟩;have ND:(⟨x.g,x.pA,x.pc,x.ak,x.iA,x.ic,ul,0,0,x.a,0,x.gone⟩:aY)=bG zX x:=QaR hsf wY (by rw[ao Jx]);have Jz:=EZ.od [11,11,11,11,11,11,11,11,11,11,11,11] 12;have Qbc:=cC [.aM x.g 79 [vS x.pA (ae x.ak) x.pc,vS x.iA (ae ul) x.ic,vI 0,vI 0,vI x.a,vI 0,vB x.gone],rK x.pA x.pc x.ak,jC x.iA x.ic ul,.pk (x.ak.map fm),.pk (x.ak.map fz),.pk (ul.map fD),.aM ws 95 [pT q 0,vS (some mY) nk kc],.row 115 2 (some mY) nk kc (lO eN),.aM q 75 (cg nm wk pa va bA bn bc (some fo) (ae gs) gc),jH (some fo) gc gs,.pk ((gs.drop (k+1)).map gB),.pk (hd.map gB)] (Jz.cast (by rw[Qa8];rfl));have UP:=cC [gB (⟨x.g,x.pA,x.pc,x.ak,x.iA,x.ic,ul,0,0,x.a,0,x.gone⟩:aY),.aM ws 95 [pT q 0,vS (some mY) nk kc],.row 115 2 (some mY) nk kc (lO eN),.aM q 75 (cg nm wk pa va bA bn bc (some fo) (ae gs) gc),jH (some fo) gc gs,.pk ((gs.drop (k+1)).map gB),.pk (hd.map gB)] (Mem.pack (l:=gL (⟨x.g,x.pA,x.pc,x.ak,x.iA,x.ic,ul,0,0,x.a,0,x.gone⟩:aY)) Qbc);have pZ:=UP.od [5,5,5,5,5,5,6] 7;have EM:=cC [.pk (hd.map gB++[gB (⟨x.g,x.pA,x.pc,x.ak,x.iA,x.ic,ul,0,0,x.a,0,x.gone⟩:aY)]),.aM ws 95 [pT q 0,vS (some mY) nk kc],.row 115 2 (some mY) nk kc (lO eN),.aM q 75 (cg nm wk pa va bA bn bc (some fo) (ae gs) gc),jH (some fo) gc gs,.pk ((gs.drop (k+1)).map gB)] (pZ.ib);refine eX ((k:Int)+1)<|eW [0,3,15,16,106]<|an 1<|aE ?_;have Mu:=EM.od [0,5,5,5,5,5] 6;have Qif:=cC [.aM ws 95 [pT q 0,vS (some mY) nk kc],.row 115 2 (some mY) nk kc (lO eN),.aM q 75 (cg nm wk pa va bA bn bc (some fo) (ae gs) gc),jH (some fo) gc gs,.pk ((gs.drop (k+1)).map gB),.pk ((hd++[(⟨x.g,x.pA,x.pc,x.ak,x.iA,x.ic,ul,0,0,x.a,0,x.gone⟩:aY)]).map gB)] (Mu.cast (by rw[ix]));intro aC fr;exact⟨ae gs-(k+1),oM,k+1,hd++[(⟨x.g,x.pA,x.pc,x.ak,x.iA,x.ic,ul,0,0,x.a,0,x.gone⟩:aY)],eN,true,(tb||t2||true),rfl,fr.kp [0,3,15,16,17],Qif,oM,sP hx rS hsf ND (by rw[jO wY]),sI,Qf.trans U6⟩;replace MC:(CL eN x.v)=false:=dj.2 MC;refine cE<|dR ?_;have wY:¬oN eN x.e x.v:=λh_=>by have HG:=h_.2;have VN:=MC;rw[HG]at VN;exact absurd VN sI
 have ND:(⟨x.g,x.pA,x.pc,x.ak,x.iA,x.ic,ul,x.e,x.v,x.a,x.b,x.gone⟩:aY)=bG zX x:=Qgd hsf wY;have Qau:=EO.od [11,11,11,11,11,11,11,11,11,11,11,11] 12;have FK:=cC [.aM x.g 79 [vS x.pA (ae x.ak) x.pc,vS x.iA (ae ul) x.ic,vI x.e,vI x.v,vI x.a,vI x.b,vB x.gone],rK x.pA x.pc x.ak,jC x.iA x.ic ul,.pk (x.ak.map fm),.pk (x.ak.map fz),.pk (ul.map fD),.aM ws 95 [pT q 0,vS (some mY) nk kc],.row 115 2 (some mY) nk kc (lO eN),.aM q 75 (cg nm wk pa va bA bn bc (some fo) (ae gs) gc),jH (some fo) gc gs,.pk ((gs.drop (k+1)).map gB),.pk (hd.map gB)] (Qau.cast (by rw[Qa8];rfl));have Qi9:=cC [gB (⟨x.g,x.pA,x.pc,x.ak,x.iA,x.ic,ul,x.e,x.v,x.a,x.b,x.gone⟩:aY),.aM ws 95 [pT q 0,vS (some mY) nk kc],.row 115 2 (some mY) nk kc (lO eN),.aM q 75 (cg nm wk pa va bA bn bc (some fo) (ae gs) gc),jH (some fo) gc gs,.pk ((gs.drop (k+1)).map gB),.pk (hd.map gB)] (Mem.pack (l:=gL (⟨x.g,x.pA,x.pc,x.ak,x.iA,x.ic,ul,x.e,x.v,x.a,x.b,x.gone⟩:aY)) FK);have Uy:=Qi9.od [5,5,5,5,5,5,6] 7;have Qja:=cC [.pk (hd.map gB++[gB (⟨x.g,x.pA,x.pc,x.ak,x.iA,x.ic,ul,x.e,x.v,x.a,x.b,x.gone⟩:aY)]),.aM ws 95 [pT q 0,vS (some mY) nk kc],.row 115 2 (some mY) nk kc (lO eN),.aM q 75 (cg nm wk pa va bA bn bc (some fo) (ae gs) gc),jH (some fo) gc gs,.pk ((gs.drop (k+1)).map gB)] (Uy.ib);refine eX ((k:Int)+1)<|an 1<|aE ?_;have Qa7:=Qja.od [0,5,5,5,5,5] 6;have QpO:=cC [.aM ws 95 [pT q 0,vS (some mY) nk kc],.row 115 2 (some mY) nk kc (lO eN),.aM q 75 (cg nm wk pa va bA bn bc (some fo) (ae gs) gc),jH (some fo) gc gs,.pk ((gs.drop (k+1)).map gB),.pk ((hd++[(⟨x.g,x.pA,x.pc,x.ak,x.iA,x.ic,ul,x.e,x.v,x.a,x.b,x.gone⟩:aY)]).map gB)] (Qa7.cast (by rw[ix]));intro aC fr;exact⟨ae gs-(k+1),oM,k+1,hd++[(⟨x.g,x.pA,x.pc,x.ak,x.iA,x.ic,ul,x.e,x.v,x.a,x.b,x.gone⟩:aY)],eN,MW,(tb||t2||false),rfl,fr.kp [0,3,15,16,17],QpO,oM,sP hx rS hsf ND (by rw[kM wY]),by rw[MX];simp,Qf.trans U6⟩;obtain⟨Mz,uE⟩:∃B:Bool,B=(x.e==1):=⟨_,rfl⟩;obtain rfl:Mz=false:=by have nG:¬((x.e:Int)=1):=oM;first|exact uE.trans (jO nG)|exact uE.trans (kM nG)|exact uE.trans (az.2 nG)|exact uE.trans (cQ.2 nG)|exact uE.trans (dj.2 (λe=>nG (az.1 e)))|exact uE.trans (dj.2 (λe=>nG (cQ.1 e)))
 refine eW [0,3,5,15,16,17,25,26] ?_;intro aC fr;refine BD 14 (bE [eP (aZ x.g),eP (aZ x.g),eP (aq x.g 2),eI x.e,eB false,eB false]) fr (EH (la (xu lz dP dP dP (dL (aq x.g 2) (vI x.e) λw_ hK=>(af ((sL.aw hK).get 0 rfl) rfl)) (dC (x.e==1) uE)) dP)) ?_;intro aC w171 vs hK hv fr;revert aC;refine cT [(0,pT ws 0),(3,vB MW),(5,(vP (aZ x.g))),(15,vS (some fo) (ae gs) gc),(16,(vI (ae gs:Int))),(17,nV k),(65,vB false)] ?_;have Qjb:=sL.aw hK;clear hK hv fr aC sL;clear vs;refine an 4<|aE<|jG<|cE<|dR ?_;have wY:¬oN eN x.e x.v:=λh_=>he1 h_.1
 have ND:(⟨x.g,x.pA,x.pc,x.ak,x.iA,x.ic,ul,x.e,x.v,x.a,x.b,x.gone⟩:aY)=bG zX x:=Qgd hsf wY;have Qaw:=Qjb.od [11,11,11,11,11,11,11,11,11,11,11,11] 12;have Qjc:=cC [.aM x.g 79 [vS x.pA (ae x.ak) x.pc,vS x.iA (ae ul) x.ic,vI x.e,vI x.v,vI x.a,vI x.b,vB x.gone],rK x.pA x.pc x.ak,jC x.iA x.ic ul,.pk (x.ak.map fm),.pk (x.ak.map fz),.pk (ul.map fD),.aM ws 95 [pT q 0,vS KA nk kc],.row 115 2 KA nk kc (lO eN),.aM q 75 (cg nm wk pa va bA bn bc (some fo) (ae gs) gc),jH (some fo) gc gs,.pk ((gs.drop (k+1)).map gB),.pk (hd.map gB)] (Qaw.cast (by rw[Qa8];rfl));have Qjd:=cC [gB (⟨x.g,x.pA,x.pc,x.ak,x.iA,x.ic,ul,x.e,x.v,x.a,x.b,x.gone⟩:aY),.aM ws 95 [pT q 0,vS KA nk kc],.row 115 2 KA nk kc (lO eN),.aM q 75 (cg nm wk pa va bA bn bc (some fo) (ae gs) gc),jH (some fo) gc gs,.pk ((gs.drop (k+1)).map gB),.pk (hd.map gB)] (Mem.pack (l:=gL (⟨x.g,x.pA,x.pc,x.ak,x.iA,x.ic,ul,x.e,x.v,x.a,x.b,x.gone⟩:aY)) Qjc);have Z4:=Qjd.od [5,5,5,5,5,5,6] 7;have UU:=cC [.pk (hd.map gB++[gB (⟨x.g,x.pA,x.pc,x.ak,x.iA,x.ic,ul,x.e,x.v,x.a,x.b,x.gone⟩:aY)]),.aM ws 95 [pT q 0,vS KA nk kc],.row 115 2 KA nk kc (lO eN),.aM q 75 (cg nm wk pa va bA bn bc (some fo) (ae gs) gc),jH (some fo) gc gs,.pk ((gs.drop (k+1)).map gB)] (Z4.ib);refine eX ((k:Int)+1)<|an 1<|aE ?_;have QpP:=UU.od [0,5,5,5,5,5] 6;have UW:=cC [.aM ws 95 [pT q 0,vS KA nk kc],.row 115 2 KA nk kc (lO eN),.aM q 75 (cg nm wk pa va bA bn bc (some fo) (ae gs) gc),jH (some fo) gc gs,.pk ((gs.drop (k+1)).map gB),.pk ((hd++[(⟨x.g,x.pA,x.pc,x.ak,x.iA,x.ic,ul,x.e,x.v,x.a,x.b,x.gone⟩:aY)]).map gB)] (QpP.cast (by rw[ix]));intro aC fr;exact⟨ae gs-(k+1),oM,k+1,hd++[(⟨x.g,x.pA,x.pc,x.ak,x.iA,x.ic,ul,x.e,x.v,x.a,x.b,x.gone⟩:aY)],eN,MW,(tb||t2||false),rfl,fr.kp [0,3,15,16,17],UW,oM,sP hx rS hsf ND (by rw[kM wY]),by rw[MX];simp,Qf.trans U6⟩;refine gZ 0<|ia<|br<|cv<|dq (vB tt) ?_;obtain rfl:k=ae gs:=oM;have hgg:=QeI gs kn (ae gs) (cH _);rw[<-rS]at hgg;rw[cL (cH _)]at rS hgg;have Qi8:=DN hgg gA gc;have hhl:ae hd=ae gs:=by have h9:=aK List.length hgg;simpa using h9
 have Qax:=M5.od [5,4,4,4,4] 5;exact⟨hd,zX,tb,rS,hgg,by rw[htt],Qax.cast (by rw[<-Qi8,<-hhl])⟩
set_option maxHeartbeats 2000000 in
theorem Qjk(nm:bo)(wk:Bool)(pa va:Int)(A:ar)(c:Nat)(fs:List aG)(w:World)(hN:ae fs<=1000)(Oz:FSm fs)(hA:RO bI w (.fn A fs)):Calls Tryz.prog 71 #[fA nm wk pa va A c fs] w (gp λv w'=>∃B cB gd,v=fA nm wk pa va B cB gd/\gd.map aG.e0=fs.map aG.e0/\Mem bI w w' (Oo B cB gd)):=by
 have Fe:=bM fs;have hm:ae (au fs)<=1000000:=oM;have hB:=hA.bs;refine iI 72 [fA nm wk pa va A c fs] Tryz.func71 ?_;have hM:=Mem.init w;refine aV<|sU hM 30 (fA nm wk pa va A c fs) (fV nm wk pa va A c fs) λb1 w2 mS M3=> ?_
 replace M3:=M3.nf;clear hM;refine sV M3 30 fa λb4 w5 XE M6=> ?_
 replace M6:=M6.nf;refine aE<|aV<|an 1<|bH (aq b1 4) _ (af (M6.get 0 rfl) rfl)<|an 1<|aE<|aV<|an 1<|sf (ho:=sI) M6 0 4 ay rfl λw7 M8=> ?_
 replace M8:=M8.nf;refine aE<|bt<|br<|df 0 ?_;intro aC fr;refine iJ (λn_ a_ w_=>∃(k:Nat) (gd:List aG) (B:ar) (cB:Nat),n_=ae fs-k/\Fr a_ 72 [(1,pT b1 0),(2,pT b4 0),(15,vS A (ae (au fs)) c),(16,(vI (ae (au fs):Int))),(17,nV k)]/\Mem bI w w_ [.aM b1 30 (fw nm wk pa va B (ae gd) cB),.aM b4 30 fa,.row 49 6 B (ae gd) cB (rJ gd),.pk (gd.map iy)]/\(k<=ae fs)/\(gd.map aG.e0=(fs.take k).map aG.e0)) (n:=_) ⟨0,[],none,0,rfl,fr.kp [1,2,15,16,17],((M8.call (Mem.fi _ 49 6)).call (Mem.n8 _)),cI _,rfl⟩ ?_;clear fr aC M8;rintro n aC Fw ⟨k,gd,B,cB,rfl,fr,eM,hk,hg⟩;revert aC;refine br<|bt<|iY ((k:Int)<(ae (au fs):Int)) (λT8=> ?_) (λT8=> ?_);refine cE<|bt<|df 1<|aV ?_;obtain⟨x,hx⟩:=aP (l:=fs) (i:=k) oM;have hgl:ae gd=k:=by have:=oJ hg;rw[ja]at this;omega
 have sm:=aI hx;have ub:=Oz.lp x sm;have Aq:=Oz.li x sm;obtain⟨fE,rfl⟩:=fF (eM.ro hB) (gS hx);refine ga fE (ae (au fs)) 6 (k:Int)<|k8 (aN fE (k:Int) 6) (xV x) (eD (eM.ro hB) rfl hx)<|sV eM 49 [ay,ay,vI 0,vI 0,vI 0,vI 0] λyX w18 hb17 pW=> ?_
 replace pW:=pW.nf;refine sW pW 4 (xV x) rfl λw20 sY=> ?_
 replace sY:=sY.nf;refine aE<|bt<|eW [1,2,5,15,16,17] ?_;intro aC fr;refine BD 5 (bE [eR yX 0,eS x.pA (ae x.ak) x.pc,eR yX 1,eS x.iA (ae x.insts) x.ic,eS x.pA (ae x.ak) x.pc]) fr (xu lz dP (dL (aZ yX) _ λw_ hK=>(af ((sY.aw hK).get 4 rfl) rfl)) dP (dL (aq yX 1) _ λw_ hK=>(af ((sY.aw hK).get 4 rfl) rfl)) dP) ?_;intro aC w26 vs hK hv fr;revert aC;refine cT [(1,pT b1 0),(2,pT b4 0),(5,pT yX 0),(6,vS x.pA (ae x.ak) x.pc),(15,vS (some fE) (ae (au fs)) c),(16,(vI (ae (au fs):Int))),(17,nV k),(24,vS x.iA (ae x.insts) x.ic)] ?_;have AE:=sY.aw hK;clear hK hv fr aC sY;clear vs;refine an 1<|aE<|aV<|an 1<|sf (ho:=sI) AE 4 0 ay rfl λw28 ob=> ?_
 replace ob:=ob.nf;refine an 1<|sf (ho:=sI) ob 4 1 ay rfl λw30 u5=> ?_
 replace u5:=u5.nf;refine aE<|bt<|br<|df 2 ?_;have sZ:=u5.od [4,4,4,4,4] 5;intro aC fr;refine iJ (λn_ a_ w_=>∃(j:Nat) (pd:List cV) (pB:ar) (jF:Nat),n_=ae x.ak-j/\Fr a_ 72 [(1,pT b1 0),(2,pT b4 0),(5,pT yX 0),(7,vS x.iA (ae x.insts) x.ic),(15,vS (some fE) (ae (au fs)) c),(16,(vI (ae (au fs):Int))),(17,nV k),(27,vS x.pA (ae x.ak) x.pc),(28,(vI (ae x.ak:Int))),(29,nV j)]/\Mem bI w w_ [.aM b1 30 (fw nm wk pa va B (ae gd) cB),.aM b4 30 fa,.row 49 6 B (ae gd) cB (rJ gd),.pk (gd.map iy),.aM yX 49 [vS pB (ae pd) jF,ay,vI x.e,vI x.v,vI x.a,vI x.b],.row 100 2 pB (ae pd) jF (yQ pd),.pk (pd.map jB)]/\(j<=ae x.ak)/\(pd.map cV.e0=(x.ak.take j).map cV.e0)) (n:=_) ⟨0,[],none,0,rfl,fr.kp [1,2,5,7,15,16,17,27,28,29],((sZ.call (Mem.fi _ 100 2)).call (Mem.n8 _)),cI _,rfl⟩ ?_;clear fr aC sZ;rintro n aC w35 ⟨j,pd,pB,jF,rfl,fr,vJ,hj,zU⟩;revert aC;refine br<|bt<|iY ((j:Int)<(ae x.ak:Int)) (λc39=> ?_) (λc39=> ?_);refine cE<|bt<|df 3<|aV ?_;obtain⟨p,Bx⟩:=aP (l:=x.ak) (i:=j) oM;have nI:ae pd=j:=by have:=oJ zU;rw[ja]at this;omega
 have hpa:=Oz.ap x sm p (aI Bx);obtain⟨Zx,Mp⟩:=cU (vJ.ro (hA.ak hx)) (i:=j) (by rw[aL,Bx];rfl);intro aC fr;refine cZ (some 31) x.pA Zx (ae x.ak) 2 (j:Int) fr kR Mp oM oM<|k8 (aN Zx (j:Int) 2) (pV p) (uO (vJ.ro (hA.ak hx)) Mp Bx)<|sV vJ 100 [vI 0,ay] λUk w47 Qoh vo=> ?_
 replace vo:=vo.nf;refine sW vo 7 (pV p) rfl λw49 CG=> ?_
 replace CG:=CG.nf;refine aE<|eW [1,2,5,7,9,15,16,17,27,28,29] ?_;intro aC fr;refine IH (bE [eR yX 0,eS pB (ae pd) jF,eR Uk 0,eI p.dst,Spec.free,eR Uk 1,eS p.A (ae p.args) p.c,Spec.free,Spec.free,Spec.free,Spec.free,eR yX 0,.bd undef]) (λls vs w_=>match ls 12 with|true=>(∃(JU:Nat) (og:ar) (mF:Nat) (VP:Nat) (R7:ar) (Kb:Nat),vs 4=(vS (sM JU) 0 0)/\vs 7=(vS og (0+ae p.args) mF)/\vs 8=(.agg #[vI p.dst,vS og (0+ae p.args) mF])/\vs 9=(vS (sM VP) 1 1)/\vs 10=(vS R7 (ae pd+1) Kb)/\Mem bI w w_ [.aM b1 30 (fw nm wk pa va B (ae gd) cB),.aM b4 30 fa,.row 49 6 B (ae gd) cB (rJ gd),.pk (gd.map iy),.aM yX 49 [vS R7 (ae pd+1) Kb,ay,vI x.e,vI x.v,vI x.a,vI x.b],.row 100 2 R7 (ae pd+1) Kb ((yQ pd)++[vI p.dst,vS og (0+ae p.args) mF]),.pk (pd.map jB),.aM Uk 100 (pV p),.row 3 1 og (0+ae p.args) mF ([]++(ints p.args)),.row 100 2 (sM VP) 1 1 [vI p.dst,vS og (0+ae p.args) mF]])|false=>(match ls 10 with|true=>(∃(JU:Nat) (og:ar) (mF:Nat) (VP:Nat) (R7:ar) (Kb:Nat),vs 4=(vS (sM JU) 0 0)/\vs 7=(vS og (0+ae p.args) mF)/\vs 8=(.agg #[vI p.dst,vS og (0+ae p.args) mF])/\vs 9=(vS (sM VP) 1 1)/\vs 10=(vS R7 (ae pd+1) Kb)/\Mem bI w w_ [.aM b1 30 (fw nm wk pa va B (ae gd) cB),.aM b4 30 fa,.row 49 6 B (ae gd) cB (rJ gd),.pk (gd.map iy),.aM yX 49 [vS pB (ae pd) jF,ay,vI x.e,vI x.v,vI x.a,vI x.b],.row 100 2 R7 (ae pd+1) Kb ((yQ pd)++[vI p.dst,vS og (0+ae p.args) mF]),.pk (pd.map jB),.aM Uk 100 (pV p),.row 3 1 og (0+ae p.args) mF ([]++(ints p.args)),.row 100 2 (sM VP) 1 1 [vI p.dst,vS og (0+ae p.args) mF]])|false=>(match ls 9 with|true=>(∃(JU:Nat) (og:ar) (mF:Nat) (VP:Nat),vs 4=(vS (sM JU) 0 0)/\vs 7=(vS og (0+ae p.args) mF)/\vs 8=(.agg #[vI p.dst,vS og (0+ae p.args) mF])/\vs 9=(vS (sM VP) 1 1)/\Mem bI w w_ [.aM b1 30 (fw nm wk pa va B (ae gd) cB),.aM b4 30 fa,.row 49 6 B (ae gd) cB (rJ gd),.pk (gd.map iy),.aM yX 49 [vS pB (ae pd) jF,ay,vI x.e,vI x.v,vI x.a,vI x.b],.row 100 2 pB (ae pd) jF (yQ pd),.pk (pd.map jB),.aM Uk 100 (pV p),.row 3 1 og (0+ae p.args) mF ([]++(ints p.args)),.row 100 2 (sM VP) 1 1 [vI p.dst,vS og (0+ae p.args) mF]])|false=>(match ls 8 with|true=>(∃(JU:Nat) (og:ar) (mF:Nat),vs 4=(vS (sM JU) 0 0)/\vs 7=(vS og (0+ae p.args) mF)/\vs 8=(.agg #[vI p.dst,vS og (0+ae p.args) mF])/\Mem bI w w_ [.aM b1 30 (fw nm wk pa va B (ae gd) cB),.aM b4 30 fa,.row 49 6 B (ae gd) cB (rJ gd),.pk (gd.map iy),.aM yX 49 [vS pB (ae pd) jF,ay,vI x.e,vI x.v,vI x.a,vI x.b],.row 100 2 pB (ae pd) jF (yQ pd),.pk (pd.map jB),.aM Uk 100 (pV p),.row 3 1 og (0+ae p.args) mF ([]++(ints p.args))])|false=>(match ls 7 with|true=>(∃(JU:Nat) (og:ar) (mF:Nat),vs 4=(vS (sM JU) 0 0)/\vs 7=(vS og (0+ae p.args) mF)/\Mem bI w w_ [.aM b1 30 (fw nm wk pa va B (ae gd) cB),.aM b4 30 fa,.row 49 6 B (ae gd) cB (rJ gd),.pk (gd.map iy),.aM yX 49 [vS pB (ae pd) jF,ay,vI x.e,vI x.v,vI x.a,vI x.b],.row 100 2 pB (ae pd) jF (yQ pd),.pk (pd.map jB),.aM Uk 100 (pV p),.row 3 1 og (0+ae p.args) mF ([]++(ints p.args))])|false=>(match ls 4 with|true=>(∃(JU:Nat),vs 4=(vS (sM JU) 0 0)/\Mem bI w w_ [.aM b1 30 (fw nm wk pa va B (ae gd) cB),.aM b4 30 fa,.row 49 6 B (ae gd) cB (rJ gd),.pk (gd.map iy),.aM yX 49 [vS pB (ae pd) jF,ay,vI x.e,vI x.v,vI x.a,vI x.b],.row 100 2 pB (ae pd) jF (yQ pd),.pk (pd.map jB),.aM Uk 100 (pV p),.row 3 1 (sM JU) 0 0 []])|false=>(Mem bI w w_ [.aM b1 30 (fw nm wk pa va B (ae gd) cB),.aM b4 30 fa,.row 49 6 B (ae gd) cB (rJ gd),.pk (gd.map iy),.aM yX 49 [vS pB (ae pd) jF,ay,vI x.e,vI x.v,vI x.a,vI x.b],.row 100 2 pB (ae pd) jF (yQ pd),.pk (pd.map jB),.aM Uk 100 (pV p)]))))))) fr (fU (.bd (.bd (.bd (.bd (.free (.bd (.bd (.free (.free (.free (.free (.bd (.bd .nil)))))))))))))) (CG.aw (Mem.drew _)) (la (fQ lz bR (pz (aZ yX) (vS pB (ae pd) jF) (λ_ _ _ _ h=>h) ?_) bR (pz (aZ Uk) (vI p.dst) (λ_ _ _ _ h=>h) ?_) ?_ bR (pz (aq Uk 1) (vS p.A (ae p.args) p.c) (λ_ _ _ _ h=>h) ?_) ?_ ?_ ?_ ?_ bR) ?_) ?_;intro w_ ls vs hJ bT bP hp;have f10:=bf 10 13 bP bT;have f12:=bf 12 13 bP bT;have ba:=hJ;simp only[f10,f12]at ba;cases fu9:ls 9;simp only[fu9]at ba;cases fu8:ls 8;simp only[fu8]at ba;cases fu7:ls 7;simp only[fu7]at ba;cases fu4:ls 4;simp only[fu4]at ba;exact(af (ba.get 4 rfl) rfl);simp only[fu4]at ba;obtain⟨_,_,ba⟩:=ba;exact(af (ba.get 4 rfl) rfl);simp only[fu7]at ba;obtain⟨_,_,_,_,_,ba⟩:=ba;exact(af (ba.get 4 rfl) rfl);simp only[fu8]at ba;obtain⟨_,_,_,_,_,_,ba⟩:=ba;exact(af (ba.get 4 rfl) rfl);simp only[fu9]at ba;obtain⟨_,_,_,_,_,_,_,_,ba⟩:=ba;exact(af (ba.get 4 rfl) rfl);intro w_ ls vs hJ bT bP hp;have f8:=bf 8 13 bP bT;have f9:=bf 9 13 bP bT;have f10:=bf 10 13 bP bT;have f12:=bf 12 13 bP bT;have ba:=hJ;simp only[f8,f9,f10,f12]at ba;cases fu7:ls 7;simp only[fu7]at ba;cases fu4:ls 4;simp only[fu4]at ba;exact(af (ba.get 7 rfl) rfl);simp only[fu4]at ba;obtain⟨_,_,ba⟩:=ba;exact(af (ba.get 7 rfl) rfl);simp only[fu7]at ba;obtain⟨_,_,_,_,_,ba⟩:=ba;exact(af (ba.get 7 rfl) rfl);intro fO w_ ls vs dy hJ bT bP hp hF;refine lX (g0:=none) ?_;replace hF:Fr fO 72 []:=hF.kp [];have f4:ls 4=false:=bT;have f7:=bf 7 13 bP bT;have f8:=bf 8 13 bP bT;have f9:=bf 9 13 bP bT;have f10:=bf 10 13 bP bT;have f12:=bf 12 13 bP bT;have ba:=hJ;simp only[f4,f7,f8,f9,f10,f12]at ba;refine zB0 37 43 43 hF (e:=3) (size:=1) ba ?_;intro Cb w2 _ _ fI _ a2 ea _;refine aX kR ?_;refine bB (d:=some 37) kR ea trivial ?_;show match ls 12 with|true=>_|false=>(match ls 10 with|true=>_|false=>(match ls 9 with|true=>_|false=>(match ls 8 with|true=>_|false=>(match ls 7 with|true=>_|false=>(∃(JU:Nat),_)))))
 rw[f12,f10,f9,f8,f7];exact⟨Cb,rfl,fI⟩;intro w_ ls vs hJ bT bP hp;have f7:=bf 7 13 bP bT;have f8:=bf 8 13 bP bT;have f9:=bf 9 13 bP bT;have f10:=bf 10 13 bP bT;have f12:=bf 12 13 bP bT;have ba:=hJ;simp only[f7,f8,f9,f10,f12]at ba;cases fu:ls 4;simp only[fu]at ba;exact(af (ba.get 7 rfl) rfl);simp only[fu]at ba;obtain⟨_,_,ba⟩:=ba;exact(af (ba.get 7 rfl) rfl);intro fO w_ ls vs dy hJ bT bP hp hF;refine lX (g0:=none) ?_;replace hF:Fr fO 72 [(37,vs 4),(39,vS p.A (ae p.args) p.c)]:=hF.kp [37,39];have f4:=dH 4 13 bP hp;have f7:ls 7=false:=bT;have f8:=bf 8 13 bP bT;have f9:=bf 9 13 bP bT;have f10:=bf 10 13 bP bT;have f12:=bf 12 13 bP bT;have ba:=hJ;simp only[f4,f7,f8,f9,f10,f12]at ba;obtain⟨Cb,uF,ba⟩:=ba;try rw[uF]at hF
 refine yP 40 (.tmp 37) (.tmp 39) 43 43 hF (e:=3) (size:=1) (bytes:=8) (z:=(vI 0)) (A:=(sM Cb)) (B:=p.A) (n:=0) (cap:=0) (m:=ae p.args) (cap':=p.c) (xs:=[]) (news:=(ints p.args)) ba 8 rfl (ba.ro (hA.JZ hx Bx)) (by rw[fj,fx]) (Db _) oM (by simp only[maxLen];omega) ?_;intro zZ z6 w2 fI _ a2 ea _;refine aX kR ?_;refine bB (d:=some 40) kR ea trivial ?_;show match ls 12 with|true=>_|false=>(match ls 10 with|true=>_|false=>(match ls 9 with|true=>_|false=>(match ls 8 with|true=>_|false=>(∃(JU:Nat) (og:ar) (mF:Nat),_))))
 rw[f12,f10,f9,f8];exact⟨Cb,zZ,z6,uF,rfl,fI⟩;intro fO w_ ls vs dy hJ bT bP hp hF;refine lX (g0:=none) ?_;replace hF:Fr fO 72 [(36,vI p.dst),(40,vs 7)]:=hF.kp [36,40];have f4:=dH 4 13 bP hp;have f7:=dH 7 13 bP hp;have f8:ls 8=false:=bT;have f9:=bf 9 13 bP bT;have f10:=bf 10 13 bP bT;have f12:=bf 12 13 bP bT;have ba:=hJ;simp only[f4,f7,f8,f9,f10,f12]at ba;obtain⟨Cb,zZ,z6,uF,qV,ba⟩:=ba;try rw[uF]at hF
 try rw[qV]at hF
 have fI:=ba;refine ij (kR:aB _ 0=some (some 41,(.build 100 #[(0,.tmp 36),(1,.tmp 40)]),100,none)) hF kR kR (k':=1) rfl (v:=(.agg #[vI p.dst,vS zZ (0+ae p.args) z6])) kR ?_;intro a2 ea _;refine aX kR ?_;refine bB (d:=some 41) kR ea trivial ?_;show match ls 12 with|true=>_|false=>(match ls 10 with|true=>_|false=>(match ls 9 with|true=>_|false=>(∃(JU:Nat) (og:ar) (mF:Nat),_)))
 rw[f12,f10,f9];exact⟨Cb,zZ,z6,uF,qV,rfl,fI⟩;intro fO w_ ls vs dy hJ bT bP hp hF;refine lX (g0:=none) ?_;replace hF:Fr fO 72 [(41,vs 8)]:=hF.kp [41];have f4:=dH 4 13 bP hp;have f7:=dH 7 13 bP hp;have f8:=dH 8 13 bP hp;have f9:ls 9=false:=bT;have f10:=bf 10 13 bP bT;have f12:=bf 12 13 bP bT;have ba:=hJ;simp only[f4,f7,f8,f9,f10,f12]at ba;obtain⟨Cb,zZ,z6,uF,qV,rN,ba⟩:=ba;try rw[uF]at hF
 try rw[qV]at hF
 try rw[rN]at hF
 refine qp 42 47 1 #[(0,.tmp 41)] 47 hF (e:=100) (size:=2) (zs:=[vI 0,ay]) (vs:=[(0,(.agg #[vI p.dst,vS zZ (0+ae p.args) z6]))]) (cs:=[vI p.dst,vS zZ (0+ae p.args) z6]) ba ?_;intro U7 w2 _ _ fI _ a2 ea _;refine aX kR ?_;refine bB (d:=some 42) kR ea trivial ?_;show match ls 12 with|true=>_|false=>(match ls 10 with|true=>_|false=>(∃(JU:Nat) (og:ar) (mF:Nat) (VP:Nat),_))
 rw[f12,f10];exact⟨Cb,zZ,z6,U7,uF,qV,rN,rfl,fI⟩;intro fO w_ ls vs dy hJ bT bP hp hF;refine lX (g0:=none) ?_;replace hF:Fr fO 72 [(34,vS pB (ae pd) jF),(42,vs 9)]:=hF.kp [34,42];have f4:=dH 4 13 bP hp;have f7:=dH 7 13 bP hp;have f8:=dH 8 13 bP hp;have f9:=dH 9 13 bP hp;have f10:ls 10=false:=bT;have f12:=bf 12 13 bP bT;have ba:=hJ;simp only[f4,f7,f8,f9,f10,f12]at ba;obtain⟨Cb,zZ,z6,U7,uF,qV,rN,Hu,ba⟩:=ba;try rw[uF]at hF
 try rw[qV]at hF
 try rw[rN]at hF
 try rw[Hu]at hF
 refine yP 43 (.tmp 34) (.tmp 42) 47 47 hF (e:=100) (size:=2) (bytes:=32) (z:=(.agg #[vI 0,ay])) (A:=pB) (B:=(sM U7)) (n:=ae pd) (cap:=jF) (m:=1) (cap':=1) (xs:=(yQ pd)) (news:=[vI p.dst,vS zZ (0+ae p.args) z6]) ba 5 rfl (aF (ba.get 9 rfl)) rfl (by simp[Value.oneCell']) oM (by simp only[maxLen];omega) ?_;intro QeO QeP w2 fI _ a2 ea _;refine aX kR ?_;refine bB (d:=some 43) kR ea trivial ?_;show match ls 12 with|true=>_|false=>(∃(JU:Nat) (og:ar) (mF:Nat) (VP:Nat) (R7:ar) (Kb:Nat),_)
 rw[f12];exact⟨Cb,zZ,z6,U7,QeO,QeP,uF,qV,rN,Hu,rfl,fI⟩;intro fO w_ ls vs dy hJ bT bP hp hF;refine lX (g0:=none) ?_;replace hF:Fr fO 72 [(43,vs 10),(44,pT yX 0)]:=hF.kp [43,44];have f4:=dH 4 13 bP hp;have f7:=dH 7 13 bP hp;have f8:=dH 8 13 bP hp;have f9:=dH 9 13 bP hp;have f10:=dH 10 13 bP hp;have f12:ls 12=false:=bT;have ba:=hJ;simp only[f4,f7,f8,f9,f10,f12]at ba;obtain⟨Cb,zZ,z6,U7,QeO,QeP,uF,qV,rN,Hu,yC,ba⟩:=ba;try rw[uF]at hF
 try rw[qV]at hF
 try rw[rN]at hF
 try rw[Hu]at hF
 try rw[yC]at hF
 refine iO (kR:aB _ 0=some (none,.store 47 (.tmp 44) (.tmp 43),0,none)) hF kR kR (k':=1) rfl (b:=yX) (off:=0) (t0:=49) (v:=(vS QeO (ae pd+1) QeP)) (cs:=[vS pB (ae pd) jF,ay,vI x.e,vI x.v,vI x.a,vI x.b]) kR kR kR rfl ba 4 rfl sI ?_;intro w2 fI _ a2 ea _;refine aX kR ?_;refine bB (d:=none) kR ea rfl ?_;show∃(JU:Nat) (og:ar) (mF:Nat) (VP:Nat) (R7:ar) (Kb:Nat),_;exact⟨Cb,zZ,z6,U7,QeO,QeP,uF,qV,rN,Hu,yC,fI⟩;intro aC w61 ls vs cY sG hv fr;simp only[show ls 12=true from cY 12 dQ]at sG;revert aC;refine cT [(1,pT b1 0),(2,pT b4 0),(5,pT yX 0),(7,vS x.iA (ae x.insts) x.ic),(15,vS (some fE) (ae (au fs)) c),(16,(vI (ae (au fs):Int))),(17,nV k),(27,vS x.pA (ae x.ak) x.pc),(28,(vI (ae x.ak:Int))),(29,nV j)] ?_;obtain⟨JU,og,mF,VP,R7,Kb,uF,qV,rN,Hu,yC,sG⟩:=sG;try rw[uF]
 try rw[qV]
 try rw[rN]
 try rw[Hu]
 try rw[yC]
 clear uF qV rN Hu yC;clear cY hv fr aC CG;clear vs ls;refine dR<|eX ((j:Int)+1)<|an 1<|aE ?_;have vn:=sG.od [8,7,7,7,7,7,7,7] 8;have GQ:=cC [.aM b1 30 (fw nm wk pa va B (ae gd) cB),.aM b4 30 fa,.row 49 6 B (ae gd) cB (rJ gd),.pk (gd.map iy),.aM yX 49 [vS R7 (ae pd+1) Kb,ay,vI x.e,vI x.v,vI x.a,vI x.b],.row 100 2 R7 (ae pd+1) Kb (yQ pd++cV.cells (⟨p.dst,og,mF,p.args⟩:cV)),.pk (pd.map jB),jB (⟨p.dst,og,mF,p.args⟩:cV)] (vn.cast (by simp only[nK,qa];rfl));have Nj:=GQ.od [5,5,5,5,5,5,7,7] 8;have M66:=cC [.pk (pd.map jB++[jB (⟨p.dst,og,mF,p.args⟩:cV)]),.aM b1 30 (fw nm wk pa va B (ae gd) cB),.aM b4 30 fa,.row 49 6 B (ae gd) cB (rJ gd),.pk (gd.map iy),.aM yX 49 [vS R7 (ae pd+1) Kb,ay,vI x.e,vI x.v,vI x.a,vI x.b],.row 100 2 R7 (ae pd+1) Kb (yQ pd++cV.cells (⟨p.dst,og,mF,p.args⟩:cV))] (Nj.ib);have zy:=M66.od [0,6,6,6,6,6,6] 7;have OK:=cC [.aM b1 30 (fw nm wk pa va B (ae gd) cB),.aM b4 30 fa,.row 49 6 B (ae gd) cB (rJ gd),.pk (gd.map iy),.aM yX 49 [(vS R7 (ae (pd++[(⟨p.dst,og,mF,p.args⟩:cV)])) Kb),ay,vI x.e,vI x.v,vI x.a,vI x.b],.row 100 2 R7 (ae (pd++[(⟨p.dst,og,mF,p.args⟩:cV)])) Kb (yQ (pd++[(⟨p.dst,og,mF,p.args⟩:cV)])),.pk ((pd++[(⟨p.dst,og,mF,p.args⟩:cV)]).map jB)] (zy.cast (by simp only[iw,K7,ix]));intro aC fr;exact⟨ae x.ak-(j+1),oM,j+1,pd++[(⟨p.dst,og,mF,p.args⟩:cV)],R7,Kb,rfl,fr.kp [1,2,5,7,15,16,17,27,28,29],OK,oM,Qcf zU Bx rfl⟩;refine gZ 2<|ia<|bt<|aV ?_;rw[cL (show ae x.ak<=j by omega)]at zU;refine an 3<|aE<|df 4 ?_;intro aC fr;refine iJ (λn_ a_ w_=>∃(m:Nat) (dn:List aQ) (iB:ar) (R8:Nat),n_=ae x.insts-m/\Fr a_ 72 [(1,pT b1 0),(2,pT b4 0),(5,pT yX 0),(15,vS (some fE) (ae (au fs)) c),(16,(vI (ae (au fs):Int))),(17,nV k),(46,vS x.iA (ae x.insts) x.ic),(47,(vI (ae x.insts:Int))),(48,nV m)]/\Mem bI w w_ [.aM b1 30 (fw nm wk pa va B (ae gd) cB),.aM b4 30 fa,.row 49 6 B (ae gd) cB (rJ gd),.pk (gd.map iy),.aM yX 49 [vS pB (ae pd) jF,vS iB (ae dn) R8,vI x.e,vI x.v,vI x.a,vI x.b],.row 100 2 pB (ae pd) jF (yQ pd),.pk (pd.map jB),.row 45 5 iB (ae dn) R8 (ow dn),.pk (dn.map fD)]/\(m<=ae x.insts)/\(dn.map aQ.e0=(x.insts.take m).map aQ.e0)) (n:=_) ⟨0,[],none,0,rfl,fr.kp [1,2,5,15,16,17,46,47,48],((vJ.call (Mem.fi _ 45 5)).call (Mem.n8 _)),cI _,rfl⟩ ?_;clear fr aC vJ;rintro n aC w73 ⟨m,dn,iB,R8,rfl,fr,QX,hm9,hid⟩;revert aC;refine br<|bt<|iY ((m:Int)<(ae x.insts:Int)) (λNv=> ?_) (λNv=> ?_);refine cE<|bt<|df 5<|aV ?_;obtain⟨i,hi⟩:=aP (l:=x.insts) (i:=m) oM;have qY:ae dn=m:=by have:=oJ hid;rw[ja]at this;omega
 have hia:=Oz.ai x sm i (aI hi);obtain⟨Mq,Be⟩:=cU (QX.ro (hA.insts hx)) (i:=m) (by rw[aL,hi];rfl);intro aC fr;refine cZ (some 50) x.iA Mq (ae x.insts) 5 (m:Int) fr kR Be oM oM<|k8 (aN Mq (m:Int) 5) (iV i) (p8 (QX.ro (hA.insts hx)) Be hi)<|sV QX 45 [vI 0,vI 0,vI 0,vT ⟨#[]⟩,ay] λb84 w85 hb84 rM=> ?_
 replace rM:=rM.nf;refine sW rM 9 (iV i) rfl λw87 JG=> ?_
 replace JG:=JG.nf;refine aE<|aV ?_;intro aC fr;refine qb (kR:aB _ 0=some (some 52,.buildSlice 43 0 #[],43,none)) fr kR kR (k':=1) rfl (e:=3) (size:=1) kR kR JG ?_;intro b89 w90 hb89 _ JB _ aC ea fr;clear ea;replace JB:=JB.nf;revert aC;refine an 1<|bH (aq b84 4) _ (af (JB.get 9 rfl) rfl) ?_;intro aC fr;refine yP 55 (.tmp 52) (.tmp 54) 43 43 fr (e:=3) (size:=1) (bytes:=8) (z:=(vI 0)) (A:=(sM b89)) (B:=i.A) (n:=0) (cap:=0) (m:=ae i.args) (cap':=i.c) (xs:=[]) (news:=(ints i.args)) JB 10 rfl (JB.ro (hA.inst hx hi)) (by rw[fj,fx]) (Db _) oM (by simp only[maxLen];omega) ?_;intro VS VT w98 PU _ aC ea fr;clear ea;replace PU:=PU.nf;revert aC;refine an 1<|sf (ho:=sI) PU 9 4 (vS VS (0+ae i.args) VT) rfl λZC km=> ?_
 replace km:=km.nf;refine aE<|dR<|an 1<|bH (aq yX 1) _ (af (km.get 4 rfl) rfl)<|eW [1,2,5,11,15,16,17,46,47,48,58]<|k8 (aZ b84) [vI i.op,vI i.dst,vI i.n,vT i.name,vS VS (0+ae i.args) VT] (bw (km.get 9 rfl)) ?_;intro aC fr;refine qp 60 46 1 #[(0,.tmp 59)] 46 fr (e:=45) (size:=5) (zs:=[vI 0,vI 0,vI 0,vT ⟨#[]⟩,ay]) (vs:=[(0,(.agg #[vI i.op,vI i.dst,vI i.n,vT i.name,vS VS (0+ae i.args) VT]))]) (cs:=[vI i.op,vI i.dst,vI i.n,vT i.name,vS VS (0+ae i.args) VT]) km ?_;intro QpQ Qpl Qqa _ sL _ aC ea fr;clear ea;replace sL:=sL.nf;refine yP 61 (.tmp 58) (.tmp 60) 46 46 fr (e:=45) (size:=5) (bytes:=64) (z:=(.agg #[vI 0,vI 0,vI 0,vT ⟨#[]⟩,ay])) (A:=iB) (B:=(sM QpQ)) (n:=ae dn) (cap:=R8) (m:=1) (cap':=1) (xs:=(ow dn)) (news:=[vI i.op,vI i.dst,vI i.n,vT i.name,vS VS (0+ae i.args) VT]) sL 7 rfl (aF (sL.get 11 rfl)) rfl (by simp[Value.oneCell']) oM (by simp only[maxLen];omega) ?_;intro U8 Mk Qlm yD _ aC ea fr;clear ea;replace yD:=yD.nf;have Qa4:=yD.od [10,10,10,10,10,10,10,10,10,10,10] 11;revert aC;refine an 1<|sf (ho:=sI) Qa4 4 1 (vS U8 (ae dn+1) Mk) rfl λQnD Jw=> ?_
 replace Jw:=Jw.nf;refine aE<|dR<|eX ((m:Int)+1)<|an 1<|aE ?_;have Qa5:=Jw.od [10,9,9,9,9,9,9,9,9,9] 10;have xh:=cC [.aM b1 30 (fw nm wk pa va B (ae gd) cB),.aM b4 30 fa,.row 49 6 B (ae gd) cB (rJ gd),.pk (gd.map iy),.aM yX 49 [vS pB (ae pd) jF,vS U8 (ae dn+1) Mk,vI x.e,vI x.v,vI x.a,vI x.b],.row 100 2 pB (ae pd) jF (yQ pd),.pk (pd.map jB),.row 45 5 U8 (ae dn+1) Mk (ow dn++aQ.cells (⟨i.op,i.dst,i.n,i.name,VS,VT,i.args⟩:aQ)),.pk (dn.map fD),fD (⟨i.op,i.dst,i.n,i.name,VS,VT,i.args⟩:aQ)] (Qa5.cast (by simp only[nK,qa];rfl));have EL:=xh.od [7,7,7,7,7,7,7,7,9,9] 10;have ZE:=cC [.pk (dn.map fD++[fD (⟨i.op,i.dst,i.n,i.name,VS,VT,i.args⟩:aQ)]),.aM b1 30 (fw nm wk pa va B (ae gd) cB),.aM b4 30 fa,.row 49 6 B (ae gd) cB (rJ gd),.pk (gd.map iy),.aM yX 49 [vS pB (ae pd) jF,vS U8 (ae dn+1) Mk,vI x.e,vI x.v,vI x.a,vI x.b],.row 100 2 pB (ae pd) jF (yQ pd),.pk (pd.map jB),.row 45 5 U8 (ae dn+1) Mk (ow dn++aQ.cells (⟨i.op,i.dst,i.n,i.name,VS,VT,i.args⟩:aQ))] (EL.ib);have JI:=ZE.od [0,8,8,8,8,8,8,8,8] 9;have PY:=cC [.aM b1 30 (fw nm wk pa va B (ae gd) cB),.aM b4 30 fa,.row 49 6 B (ae gd) cB (rJ gd),.pk (gd.map iy),.aM yX 49 [vS pB (ae pd) jF,(vS U8 (ae (dn++[(⟨i.op,i.dst,i.n,i.name,VS,VT,i.args⟩:aQ)])) Mk),vI x.e,vI x.v,vI x.a,vI x.b],.row 100 2 pB (ae pd) jF (yQ pd),.pk (pd.map jB),.row 45 5 U8 (ae (dn++[(⟨i.op,i.dst,i.n,i.name,VS,VT,i.args⟩:aQ)])) Mk (ow (dn++[(⟨i.op,i.dst,i.n,i.name,VS,VT,i.args⟩:aQ)])),.pk ((dn++[(⟨i.op,i.dst,i.n,i.name,VS,VT,i.args⟩:aQ)]).map fD)] (JI.cast (by simp only[iw,Xe,ix]));intro aC fr;exact⟨ae x.insts-(m+1),oM,m+1,dn++[(⟨i.op,i.dst,i.n,i.name,VS,VT,i.args⟩:aQ)],U8,Mk,rfl,fr.kp [1,2,5,15,16,17,46,47,48],PY,oM,Qcg hid hi rfl⟩;refine gZ 4<|ia<|dR ?_;rw[cL (show ae x.insts<=m by omega)]at hid;refine an 1<|bH (aq b1 4) _ (af (QX.get 0 rfl) rfl)<|k8 (aZ yX) [vS pB (ae pd) jF,vS iB (ae dn) R8,vI x.e,vI x.v,vI x.a,vI x.b] (bw (QX.get 4 rfl)) ?_;intro aC fr;refine qp 67 28 1 #[(0,.tmp 66)] 28 fr (e:=49) (size:=6) (zs:=[ay,ay,vI 0,vI 0,vI 0,vI 0]) (vs:=[(0,(.agg #[vS pB (ae pd) jF,vS iB (ae dn) R8,vI x.e,vI x.v,vI x.a,vI x.b]))]) (cs:=[vS pB (ae pd) jF,vS iB (ae dn) R8,vI x.e,vI x.v,vI x.a,vI x.b]) QX ?_;intro QpR QpM Qqb _ MY _ aC ea fr;clear ea;replace MY:=MY.nf;refine yP 68 (.tmp 65) (.tmp 67) 28 28 fr (e:=49) (size:=6) (bytes:=80) (z:=(.agg #[ay,ay,vI 0,vI 0,vI 0,vI 0])) (A:=B) (B:=(sM QpR)) (n:=ae gd) (cap:=cB) (m:=1) (cap':=1) (xs:=(rJ gd)) (news:=[vS pB (ae pd) jF,vS iB (ae dn) R8,vI x.e,vI x.v,vI x.a,vI x.b]) MY 2 rfl (aF (MY.get 9 rfl)) rfl (by simp[Value.oneCell']) oM (by simp only[maxLen];omega) ?_;intro MD ES Qlq JJ _ aC ea fr;clear ea;replace JJ:=JJ.nf;have BP:=JJ.od [8,8,8,8,8,8,8,8,8] 9;revert aC;refine an 1<|sf (ho:=sI) BP 0 4 (vS MD (ae gd+1) ES) rfl λQen nH=> ?_
 replace nH:=nH.nf;refine aE<|dR ?_;have Jy:=nH.od [4,4,4,4,4,8,7,8,8] 9;have EZ:=cC [iy (⟨pB,jF,pd,iB,R8,dn,x.e,x.v,x.a,x.b⟩:aG),.aM b1 30 (fw nm wk pa va MD (ae gd+1) ES),.aM b4 30 fa,.row 49 6 MD (ae gd+1) ES ((rJ gd)++[vS pB (ae pd) jF,vS iB (ae dn) R8,vI x.e,vI x.v,vI x.a,vI x.b]),.pk (gd.map iy),.aM yX 49 [vS pB (ae pd) jF,vS iB (ae dn) R8,vI x.e,vI x.v,vI x.a,vI x.b]] (Mem.pack (l:=Qcd (⟨pB,jF,pd,iB,R8,dn,x.e,x.v,x.a,x.b⟩:aG)) Jy);have Jz:=EZ.od [5,4,4,4,4,5] 6;have Qbc:=cC [.pk (gd.map iy++[iy (⟨pB,jF,pd,iB,R8,dn,x.e,x.v,x.a,x.b⟩:aG)]),.aM b1 30 (fw nm wk pa va MD (ae gd+1) ES),.aM b4 30 fa,.row 49 6 MD (ae gd+1) ES ((rJ gd)++[vS pB (ae pd) jF,vS iB (ae dn) R8,vI x.e,vI x.v,vI x.a,vI x.b]),.aM yX 49 [vS pB (ae pd) jF,vS iB (ae dn) R8,vI x.e,vI x.v,vI x.a,vI x.b]] (Jz.ib);refine eX ((k:Int)+1)<|an 1<|aE ?_;have UP:=Qbc.od [0,3,3,3] 4;have pZ:=cC [.aM b1 30 [vT nm,vB wk,vI pa,vI va,(vS MD (ae (gd++[(⟨pB,jF,pd,iB,R8,dn,x.e,x.v,x.a,x.b⟩:aG)])) ES)],.aM b4 30 fa,.row 49 6 MD (ae (gd++[(⟨pB,jF,pd,iB,R8,dn,x.e,x.v,x.a,x.b⟩:aG)])) ES (rJ (gd++[(⟨pB,jF,pd,iB,R8,dn,x.e,x.v,x.a,x.b⟩:aG)])),.pk ((gd++[(⟨pB,jF,pd,iB,R8,dn,x.e,x.v,x.a,x.b⟩:aG)]).map iy)] (UP.cast (by simp only[iw,K8,ix]));intro aC fr;exact⟨ae fs-(k+1),oM,k+1,gd++[(⟨pB,jF,pd,iB,R8,dn,x.e,x.v,x.a,x.b⟩:aG)],MD,ES,rfl,fr.kp [1,2,15,16,17],pZ,oM,Qce hg hx (by simp only[aG.e0];rw[zU,hid])⟩;refine gZ 0<|ia<|aV<|k8 (aZ b1) (fw nm wk pa va B (ae gd) cB) (bw (eM.get 0 rfl))<|sW eM 1 (fw nm wk pa va B (ae gd) cB) rfl λw154 Mv=> ?_
 replace Mv:=Mv.nf;refine aE<|cv ?_;intro aC fr;refine NO (ad:=aZ b4) (vs:=(fw nm wk pa va B (ae gd) cB)) fr rfl kR kR (bw (Mv.get 1 rfl)) ?_;refine⟨_,rfl,?_⟩;have FK:=Mv.od [3,3] 2;rw[cL (show ae fs<=k by omega)]at hg;refine⟨B,cB,gd,?_,hg,FK⟩;show _=Value.agg #[.string nm,.bool wk,vI pa,vI va,.slice B (ae (au gd)) cB];rw[bM]
theorem QeQ(l:ah)(n:Nat)(A:ar)(c:Nat)(w:World)(hn:ae l=n)(hl:ae l<=1000000)(hA:RO bI w (.rd A (ints l))):Calls Tryz.prog 72 #[vS A n c] w (gp λv w'=>∃A' c',v=vS A' n c'/\Mem bI w w' [.row 3 1 A' n c' (ints l)]):=by
 refine iI 8 [vS A n c] Tryz.func72 ?_;have hM:=Mem.init w;refine br<|bt<|aV<|an 1<|Qnu 43 A n c Tryz.underlying43<|aE<|fZ A.isNone (A.isNone=true) ju (λc1=> ?_) (λc1=> ?_);refine br<|cv<|dq ay ?_;obtain rfl:A=none:=by cases A;rfl;exact absurd c1 sI
 obtain rfl:l=[]:=K4 hA.1;subst hn;exact⟨none,0,rfl,hM.call (Mem.fi _ 3 1)⟩;replace c1:A.isNone=false:=dj.2 c1;refine cE<|aV ?_;intro aC fr;refine qb (kR:aB _ 0=some (some 5,.buildSlice 43 0 #[],43,none)) fr kR kR (k':=1) rfl (e:=3) (size:=1) kR kR hM ?_;intro b2 w3 tm _ M4 _ aC ea fr;clear ea;replace M4:=M4.nf;clear hM;revert aC;refine an 1 ?_;intro aC fr;refine yP 7 (.tmp 5) (.tmp 6) 43 43 fr (e:=3) (size:=1) (bytes:=8) (z:=(vI 0)) (A:=(sM b2)) (B:=A) (n:=0) (cap:=0) (m:=n) (cap':=c) (xs:=[]) (news:=(ints l)) M4 0 rfl (M4.ro hA) (by rw[fj,fx];exact hn) (Db _) oM (by simp only[maxLen];omega) ?_;intro A9 uc Fw eM _ aC ea fr;clear ea;replace eM:=eM.nf;revert aC;refine an 1<|aE<|cv<|dq (vS A9 (0+n) uc) ?_;have kV:=eM.od [] 1;subst hn;exact⟨_,_,by rw[nK],kV.cast (by rw[nK])⟩
theorem QeR(a b:Nat)(dst:Int)(ag:Value)(NA fA:ar)(nc fc:Nat)(nl fl:ah)(i j:Nat)(x y:Int)(w:World)(hb:RO bI w (.aM b 43 [.slice NA (ae nl) nc]))(ha:RO bI w (.aM a 81 [vI dst,.slice fA (ae fl) fc,ag]))(hn:RO bI w (.rd NA (ints nl)))(hf:RO bI w (.rd fA (ints fl)))(hi:fl[i]?=some x)(hj:fl[j]?=some y)(hx:0<=x/\x<(ae nl:Int))(hy:0<=y/\y<(ae nl:Int))(hr:∀k,0<=nl.getD k 0/\nl.getD k 0<=1000000):Calls Tryz.prog 115 #[nV i,nV j,pT b 0,pT a 0] w (gp λv w'=>v=vI (nl.getD x.toNat 0-nl.getD y.toNat 0)/\Gw w w'):=by
 have qY:=(aW.1 hi).1;have Vl:=(aW.1 hj).1;refine iI 24 [nV i,nV j,pT b 0,pT a 0] Tryz.func115 ?_;have hM:=Gw.refl w;refine br<|bt ?_;obtain⟨yJ,rfl⟩:=rd_some (hf.1) (by rw[fj];omega);obtain⟨tv,rfl⟩:=rd_some (hn.1) (by rw[fj];omega);refine eW [0,1,2,3] ?_;intro aC fr;refine IH (bE [eS (some tv) (ae nl) nc,eR a 1,eS (some yJ) (ae fl) fc,.bd (nV i),eA yJ (i:Int) 1,eI x,eA tv (x) 1,eI (nl.getD x.toNat 0),eS (some tv) (ae nl) nc,eR a 1,eS (some yJ) (ae fl) fc,.bd (nV j),eA yJ (j:Int) 1,eI y,eA tv (y) 1,eI (nl.getD y.toNat 0),eI ((nl.getD x.toNat 0)-(nl.getD y.toNat 0)),eI ((nl.getD x.toNat 0)-(nl.getD y.toNat 0))]) (λls vs w_=>Gw w w_) fr (fU (.bd (.bd (.bd (.bd (.bd (.bd (.bd (.bd (.bd (.bd (.bd (.bd (.bd (.bd (.bd (.bd (.bd (.bd .nil))))))))))))))))))) hM.drew (la (xu (fQ lz (pz (aZ b) (vS (some tv) (ae nl) nc) (λ_ _ _ _ h=>h) ?_) bR (pz (aq a 1) (vS (some yJ) (ae fl) fc) (λ_ _ _ _ h=>h) ?_) bR (Az yJ (ae fl) 1 (i:Int) λ_ _ _ _ h=>h) (pz (aN yJ (i:Int) 1) (vI x) (λ_ _ _ _ h=>h) ?_) (Az (h0:=hx.1) (h1:=hx.2) tv (ae nl) 1 x λ_ _ _ _ h=>h) (pz (aN tv (x) 1) (vI (nl.getD x.toNat 0)) (λ_ _ _ _ h=>h) ?_) (pz (aZ b) (vS (some tv) (ae nl) nc) (λ_ _ _ _ h=>h) ?_) bR (pz (aq a 1) (vS (some yJ) (ae fl) fc) (λ_ _ _ _ h=>h) ?_) bR) (Az yJ (ae fl) 1 (j:Int) λ_ _ _ _ h=>h) (pz (aN yJ (j:Int) 1) (vI y) (λ_ _ _ _ h=>h) ?_) (Az (h0:=hy.1) (h1:=hy.2) tv (ae nl) 1 y λ_ _ _ _ h=>h) (pz (aN tv (y) 1) (vI (nl.getD y.toNat 0)) (λ_ _ _ _ h=>h) ?_) (dAJ (h1:=(by have:=hr x.toNat;have:=hr y.toNat;omega)) (h2:=(by have:=hr x.toNat;have:=hr y.toNat;omega)) ((nl.getD x.toNat 0)-(nl.getD y.toNat 0)) λ_ _ _ _ h=>h)) bR) ?_;intro w_ ls vs hJ bT bP hp;have ba:=hJ;exact(af (ba.kp.ro hb) rfl);intro w_ ls vs hJ bT bP hp;have ba:=hJ;exact(af (ba.kp.ro ha) rfl);intro w_ ls vs hJ bT bP hp;have ba:=hJ;exact(iP (ba.kp.ro hf) rfl hi);intro w_ ls vs hJ bT bP hp;have ba:=hJ;exact(fR (ba.kp.ro hn) rfl hx.1 hx.2);intro w_ ls vs hJ bT bP hp;have ba:=hJ;exact(af (ba.kp.ro hb) rfl);intro w_ ls vs hJ bT bP hp;have ba:=hJ;exact(af (ba.kp.ro ha) rfl);intro w_ ls vs hJ bT bP hp;have ba:=hJ;exact(iP (ba.kp.ro hf) rfl hj);intro w_ ls vs hJ bT bP hp;have ba:=hJ;exact(fR (ba.kp.ro hn) rfl hy.1 hy.2);intro aC w7 ls vs cY M8 hv fr;revert aC;refine cT [(6,vI ((nl.getD x.toNat 0)-(nl.getD y.toNat 0)))] ?_;clear cY hv fr aC hM;clear vs ls;refine cv<|dq (vI ((nl.getD x.toNat 0)-(nl.getD y.toNat 0))) ?_;exact⟨rfl,M8⟩
theorem QeS(g c b a nc fc:Nat)(dst:Int)(ag:Value)(NA fA:ar)(nl fl:ah)(w:World)(h0:0<ae fl)(hN:ae fl<=1000000)(o6:(bD.row 3 1 (some (aZ g)) (ae fl) c (ints (ku (List.range (ae fl))))).holds w)(hb:RO (bD.row 3 1 (some (aZ g)) (ae fl) c (ints (ku (List.range (ae fl))))).fp w (.aM b 43 [.slice NA (ae nl) nc]))(ha:RO (bD.row 3 1 (some (aZ g)) (ae fl) c (ints (ku (List.range (ae fl))))).fp w (.aM a 81 [vI dst,.slice fA (ae fl) fc,ag]))(hn:RO (bD.row 3 1 (some (aZ g)) (ae fl) c (ints (ku (List.range (ae fl))))).fp w (.rd NA (ints nl)))(hf:RO (bD.row 3 1 (some (aZ g)) (ae fl) c (ints (ku (List.range (ae fl))))).fp w (.rd fA (ints fl)))(hx:∀x,x∈fl->0<=x/\x<(ae nl:Int))(hr:∀k,0<=nl.getD k 0/\nl.getD k 0<=1000000):Calls Tryz.prog 114 #[.slice (some (aZ g)) (ae fl) c,.func (.func 115) #[] #[pT b 0,pT a 0]] w (gp λv w'=>∃il,lx (ae fl) (sj nl fl) il/\v= .tuple #[]/\Mem (bD.row 3 1 (some (aZ g)) (ae fl) c (ints (ku (List.range (ae fl))))).fp w w' [.row 3 1 (some (aZ g)) (ae fl) c (ints (ku il))]):=by
 haveI:Inhabited (Fin (ae fl)):=⟨⟨0,h0⟩⟩;have e:(Array.ofFn (n:=ae fl) id).size=ae fl:=sI;have ir:g<w.heap.size:=bD.lt _ o6 ⟨(aZ g),rfl,rfl⟩;have eg:∀args w,(callFunc 115 args).run Tryz.prog w= .ok (.enter 115 args) w:=enters_of Tryz.func115 kR rfl;have QmE:(bD.row 3 1 (some (aZ g)) (ae fl) c (((Array.ofFn (n:=ae fl) id).toList).map (IQ (ae fl)))).holds w:=by rw[Ox];exact o6
 have NH:∀i:Fin (ae fl),fl[i.val]?=some (fl.getD i.val 0):=λi=>by simp[List.getD]
 have QpS:CmpLays1 Tryz.prog 115 #[pT b 0,pT a 0] (IQ (ae fl)) (cfF nl fl (ae fl)) g 0 (Array.ofFn (n:=ae fl) id).size w:=by intro m os dk hs x y;have hm:=La (IQ (ae fl)) o6 m (hs.trans e) os;have hc:=QeR a b dst ag NA fA nc fc nl fl x.val y.val _ _ _ (hb.at_ hm) (ha.at_ hm) (hn.at_ hm) (hf.at_ hm) (NH x) (NH y) (hx _ (aI (NH x))) (hx _ (aI (NH y))) hr;refine hc.mono ?_;rintro e w' ⟨v,he,hv,hg⟩;subst hv;exact⟨he,hg⟩
 have QmF:=Any.slices_SortFunc Tryz.Hc (IQ (ae fl)) (λ_=>rfl) (cfF nl fl (ae fl)) (Qcj nl fl (ae fl)) 115 #[pT b 0,pT a 0] g 0 c (Array.ofFn (n:=ae fl) id) w eg QpS (S9 _ QmE) ir (by rw[e];omega);rw[e]at QmF;refine Calls.mono QmF ?_;rintro e' w' ⟨he,d',m,os,hp,hs,rfl⟩;obtain⟨h1,h2⟩:=Oy (by rw[e];exact hp) (by rw[e];exact hs);have hd:d'.size=ae fl:=hp.1.trans e;refine⟨_,he,d'.toList.map (·.val),h1,rfl,?_⟩;have hm:=La (IQ (ae fl)) o6 m hd os;rw[h2]at hm;exact hm
theorem QpT(dst:Int)(NA fA aA:ar)(nc fc ac:Nat)(nl fl al:ah)(w:World)(h0:0<ae fl)(hN:ae fl<=20000)(XI:ae al=ae fl)(hn:RO bI w (.rd NA (ints nl)))(hf:RO bI w (.rd fA (ints fl)))(ha:RO bI w (.rd aA (ints al)))(hx:∀x,x∈fl->0<=x/\x<(ae nl:Int))(hr:∀k,0<=nl.getD k 0/\nl.getD k 0<=1000000):Calls Tryz.prog 84 #[(.agg #[vI dst,vS fA (ae fl) fc,vS aA (ae al) ac]),vS NA (ae nl) nc] w (gp λv w'=>∃A' c' il,lx (ae fl) (sj nl fl) il/\v= .agg #[vI dst,.slice A' (ae fl) c']/\Mem bI w w' [.row 3 1 A' (ae fl) c' (ints (il.map (λi=>al.getD i 0)))]):=by
 refine iI 48 [(.agg #[vI dst,vS fA (ae fl) fc,vS aA (ae al) ac]),vS NA (ae nl) nc] Tryz.func84 ?_;have hM:=Mem.init w;refine aV<|sU hM 81 (.agg #[vI dst,vS fA (ae fl) fc,vS aA (ae al) ac]) [vI dst,vS fA (ae fl) fc,vS aA (ae al) ac] λb1 w2 mS M3=> ?_
 replace M3:=M3.nf;clear hM;refine sU M3 43 (vS NA (ae nl) nc) [vS NA (ae nl) nc] λb4 w5 XE M6=> ?_
 replace M6:=M6.nf;refine sV M6 100 [vI 0,ay] λb7 w8 hb7 M9=> ?_
 replace M9:=M9.nf;refine aE<|aV<|an 1<|bH (aq b1 1) _ (af (M9.get 0 rfl) rfl)<|an 1 ?_;intro aC fr;refine S6 13 43 (.tmp 12) (.tmp 12) 43 fr (e:=3) (bytes:=8) (z:=(vI 0)) (n:=ae fl) (i:=(ae fl:Int)) oM (by simp only[maxLen];omega) M9 ?_;intro iK Fw Qic _ eM _ aC ea fr;clear ea;replace eM:=eM.nf;revert aC;refine an 1<|aE<|bt<|br<|df 0 ?_;have kV:=eM.od [2,2,2,3] 4;intro aC fr;refine iJ (λn_ a_ w_=>∃(j:Nat),n_=ae fl-j/\Fr a_ 48 [(2,pT b1 0),(3,pT b4 0),(4,pT b7 0),(5,vS (sM iK) (ae fl) (ae fl)),(15,(vI (ae fl:Int))),(16,nV j)]/\Mem bI w w_ [.row 3 1 (sM iK) (ae fl) (ae fl) (ints (AD (ae fl) j)),.aM b1 81 [vI dst,vS fA (ae fl) fc,vS aA (ae al) ac],.aM b4 43 [vS NA (ae nl) nc],.aM b7 100 [vI 0,ay]]/\(j<=ae fl)) (n:=_) ⟨0,rfl,fr.kp [2,3,4,5,15,16],(kV.cast (by rw[Ov])),cI _⟩ ?_;clear fr aC kV;rintro n aC w20 ⟨j,rfl,fr,sY,hj⟩;revert aC;refine br<|bt<|iY ((j:Int)<(ae fl:Int)) (λVG=> ?_) (λVG=> ?_);refine cE<|bt<|df 1<|br<|dR<|an 3<|ga (aZ iK) (ae fl) 1 (j:Int)<|DI sY 0 (aN (aZ iK) (j:Int) 1) (((j:Int)).toNat*1) (nV j) rfl rfl oM λw25 iQ=> ?_
 replace iQ:=iQ.nf;exact aE<|dR<|eX ((j:Int)+1)<|an 1<|aE λaC fr=>⟨ae fl-(j+1),oM,j+1,rfl,fr.kp [2,3,4,5,15,16],(iQ.cast (by rw[cN,fx,Ow oM])),oM⟩
 refine gZ 0<|ia<|aV ?_;have ob:=cC [.row 3 1 (sM iK) (ae fl) (ae fl) (ints (ku (List.range (ae fl)))),.aM b1 81 [vI dst,vS fA (ae fl) fc,vS aA (ae al) ac],.aM b4 43 [vS NA (ae nl) nc],.aM b7 100 [vI 0,ay]] (sY.cast (by rw[show j=ae fl by omega,Tc]));refine an 2<|eV (vs:=#[vS (sM iK) (ae fl) (ae fl),(.func (.func 115) #[] #[pT b4 0,pT b1 0])]) ((by have h9:=QeS iK (ae fl) b4 b1 nc fc dst _ NA fA nl fl w20 h0 oM (ob.get 0 rfl) (ob.oD 2 0 rfl rfl dQ) (ob.oD 1 0 rfl rfl dQ) (hn.but ob 0 rfl) (hf.but ob 0 rfl) hx hr;exact h9)) ?_;rintro _ w30 ⟨il,qY,rfl,OQ⟩;have u5:=ob.md 0 rfl OQ;refine aE<|aV<|an 1<|bH (aZ b1) _ (af (u5.get 1 rfl) rfl)<|an 1<|sV u5 100 [vI 0,ay] λR9 w33 hb32 tn=> ?_
 replace tn:=tn.nf;refine sW tn 4 [vI dst,ay] rfl λw35 vJ=> ?_
 replace vJ:=vJ.nf;refine aE<|bt<|br<|df 2 ?_;have hill:ae il=ae fl:=by have:=qY.1.length_eq;rw[qj]at this;exact this
 have xr:=vJ.od [4,4,4,4,4] 5;intro aC fr;refine iJ (λn_ a_ w_=>∃(j2:Nat) (xA:ar) (xc:Nat),n_=ae fl-j2/\Fr a_ 48 [(2,pT b1 0),(4,pT b7 0),(7,pT R9 0),(30,vS (sM iK) (ae fl) (ae fl)),(31,(vI (ae fl:Int))),(32,nV j2)]/\Mem bI w w_ [.row 3 1 (sM iK) (ae fl) (ae fl) (ints (ku il)),.aM b1 81 [vI dst,vS fA (ae fl) fc,vS aA (ae al) ac],.aM b4 43 [vS NA (ae nl) nc],.aM b7 100 [vI 0,ay],.aM R9 100 [vI dst,vS xA j2 xc],.row 3 1 xA j2 xc (ints ((il.take j2).map (λi=>al.getD i 0)))]/\(j2<=ae fl)) (n:=_) ⟨0,none,0,rfl,fr.kp [2,4,7,30,31,32],(xr.call (Mem.fi _ 3 1)),cI _⟩ ?_;clear fr aC xr;rintro n aC w40 ⟨j2,xA,xc,rfl,fr,wO,hj2⟩;revert aC;refine br<|bt<|iY ((j2:Int)<(ae fl:Int)) (λXu=> ?_) (λXu=> ?_);refine cE<|bt<|df 3<|aV ?_;obtain⟨i,hi⟩:=aP (l:=il) (i:=j2) oM;have hir:=dp.1 (qY.1.mem_iff.1 (aI hi));obtain⟨y,hy⟩:=aP (l:=al) (i:=i) oM;have hyd:al.getD i 0=y:=QbP hy;refine ga (aZ iK) (ae fl) 1 (j2:Int)<|bH (aN (aZ iK) (j2:Int) 1) _ (iP (aF (wO.get 0 rfl)) rfl (Ta hi))<|an 1<|aE ?_;obtain⟨zV,rfl⟩:=rd_some (wO.ro ha) (by rw[fj];omega);refine eW [2,4,7,9,30,31,32] ?_;intro aC fr;refine IH (bE [eR R9 1,eS xA j2 xc,eR b1 2,eS (some zV) (ae al) ac,.bd (nV i),eA zV (i:Int) 1,eI (al.getD i 0),Spec.free,Spec.free,eR R9 1,.bd undef]) (λls vs w_=>match ls 10 with|true=>(∃(VU:Nat) (VV:ar) (Fi:Nat),vs 7=(vS (sM VU) 1 1)/\vs 8=(vS VV (j2+1) Fi)/\Mem bI w w_ [.row 3 1 (sM iK) (ae fl) (ae fl) (ints (ku il)),.aM b1 81 [vI dst,vS fA (ae fl) fc,vS (some zV) (ae al) ac],.aM b4 43 [vS NA (ae nl) nc],.aM b7 100 [vI 0,ay],.aM R9 100 [vI dst,vS VV (j2+1) Fi],.row 3 1 VV (j2+1) Fi ((ints ((il.take j2).map (λi=>al.getD i 0)))++[vI (al.getD i 0)]),.row 3 1 (sM VU) 1 1 [vI (al.getD i 0)]])|false=>(match ls 8 with|true=>(∃(VU:Nat) (VV:ar) (Fi:Nat),vs 7=(vS (sM VU) 1 1)/\vs 8=(vS VV (j2+1) Fi)/\Mem bI w w_ [.row 3 1 (sM iK) (ae fl) (ae fl) (ints (ku il)),.aM b1 81 [vI dst,vS fA (ae fl) fc,vS (some zV) (ae al) ac],.aM b4 43 [vS NA (ae nl) nc],.aM b7 100 [vI 0,ay],.aM R9 100 [vI dst,vS xA j2 xc],.row 3 1 VV (j2+1) Fi ((ints ((il.take j2).map (λi=>al.getD i 0)))++[vI (al.getD i 0)]),.row 3 1 (sM VU) 1 1 [vI (al.getD i 0)]])|false=>(match ls 7 with|true=>(∃(VU:Nat),vs 7=(vS (sM VU) 1 1)/\Mem bI w w_ [.row 3 1 (sM iK) (ae fl) (ae fl) (ints (ku il)),.aM b1 81 [vI dst,vS fA (ae fl) fc,vS (some zV) (ae al) ac],.aM b4 43 [vS NA (ae nl) nc],.aM b7 100 [vI 0,ay],.aM R9 100 [vI dst,vS xA j2 xc],.row 3 1 xA j2 xc (ints ((il.take j2).map (λi=>al.getD i 0))),.row 3 1 (sM VU) 1 1 [vI (al.getD i 0)]])|false=>(Mem bI w w_ [.row 3 1 (sM iK) (ae fl) (ae fl) (ints (ku il)),.aM b1 81 [vI dst,vS fA (ae fl) fc,vS (some zV) (ae al) ac],.aM b4 43 [vS NA (ae nl) nc],.aM b7 100 [vI 0,ay],.aM R9 100 [vI dst,vS xA j2 xc],.row 3 1 xA j2 xc (ints ((il.take j2).map (λi=>al.getD i 0)))])))) fr (fU (.bd (.bd (.bd (.bd (.bd (.bd (.bd (.free (.free (.bd (.bd .nil)))))))))))) (wO.aw (Mem.drew _)) (ox (s3 lz bR (pz (aq R9 1) (vS xA j2 xc) (λ_ _ _ _ h=>h) ?_) bR (pz (aq b1 2) (vS (some zV) (ae al) ac) (λ_ _ _ _ h=>h) ?_) bR (Az zV (ae al) 1 (i:Int) λ_ _ _ _ h=>h) (pz (aN zV (i:Int) 1) (vI (al.getD i 0)) (λ_ _ _ _ h=>h) ?_) ?_) ?_ bR ?_) ?_;intro w_ ls vs hJ bT bP hp;have f8:=bf 8 11 bP bT;have f10:=bf 10 11 bP bT;have ba:=hJ;simp only[f8,f10]at ba;cases fu:ls 7;simp only[fu]at ba;exact(af (ba.get 4 rfl) rfl);simp only[fu]at ba;obtain⟨_,_,ba⟩:=ba;exact(af (ba.get 4 rfl) rfl);intro w_ ls vs hJ bT bP hp;have f7:=bf 7 11 bP bT;have f8:=bf 8 11 bP bT;have f10:=bf 10 11 bP bT;have ba:=hJ;simp only[f7,f8,f10]at ba;exact(af (ba.get 1 rfl) rfl);intro w_ ls vs hJ bT bP hp;have f7:=bf 7 11 bP bT;have f8:=bf 8 11 bP bT;have f10:=bf 10 11 bP bT;have ba:=hJ;simp only[f7,f8,f10]at ba;exact(by rw[hyd];exact iP (ba.ro ha) rfl hy);intro fO w_ ls vs dy hJ bT bP hp hF;refine lX (g0:=none) ?_;replace hF:Fr fO 48 [(42,vI (al.getD i 0))]:=hF.kp [42];have f7:ls 7=false:=bT;have f8:=bf 8 11 bP bT;have f10:=bf 10 11 bP bT;have ba:=hJ;simp only[f7,f8,f10]at ba;refine qp 43 43 1 #[(0,.tmp 42)] 43 hF (e:=3) (size:=1) (zs:=[vI 0]) (vs:=[(0,vI (al.getD i 0))]) (cs:=[vI (al.getD i 0)]) ba ?_;intro Va w2 _ _ fI _ a2 ea _;refine aX kR ?_;refine bB (d:=some 43) kR ea trivial ?_;show match ls 10 with|true=>_|false=>(match ls 8 with|true=>_|false=>(∃(VU:Nat),_))
 rw[f10,f8];exact⟨Va,rfl,fI⟩;intro fO w_ ls vs dy hJ bT bP hp hF;refine lX (g0:=none) ?_;replace hF:Fr fO 48 [(37,vS xA j2 xc),(43,vs 7)]:=hF.kp [37,43];have f7:=dH 7 11 bP hp;have f8:ls 8=false:=bT;have f10:=bf 10 11 bP bT;have ba:=hJ;simp only[f7,f8,f10]at ba;obtain⟨Va,qV,ba⟩:=ba;try rw[qV]at hF
 refine yP 44 (.tmp 37) (.tmp 43) 43 43 hF (e:=3) (size:=1) (bytes:=8) (z:=(vI 0)) (A:=xA) (B:=(sM Va)) (n:=j2) (cap:=xc) (m:=1) (cap':=1) (xs:=(ints ((il.take j2).map (λi=>al.getD i 0)))) (news:=[vI (al.getD i 0)]) ba 5 rfl (aF (ba.get 6 rfl)) rfl (by simp[Value.oneCell']) oM (by simp only[maxLen];omega) ?_;intro QeT QeU w2 fI _ a2 ea _;refine aX kR ?_;refine bB (d:=some 44) kR ea trivial ?_;show match ls 10 with|true=>_|false=>(∃(VU:Nat) (VV:ar) (Fi:Nat),_)
 rw[f10];exact⟨Va,QeT,QeU,qV,rfl,fI⟩;intro fO w_ ls vs dy hJ bT bP hp hF;refine lX (g0:=none) ?_;replace hF:Fr fO 48 [(44,vs 8),(45,pT R9 1)]:=hF.kp [44,45];have f7:=dH 7 11 bP hp;have f8:=dH 8 11 bP hp;have f10:ls 10=false:=bT;have ba:=hJ;simp only[f7,f8,f10]at ba;obtain⟨Va,QeT,QeU,qV,rN,ba⟩:=ba;try rw[qV]at hF
 try rw[rN]at hF
 refine iO (kR:aB _ 0=some (none,.store 43 (.tmp 45) (.tmp 44),0,none)) hF kR kR (k':=1) rfl (b:=R9) (off:=1) (t0:=100) (v:=(vS QeT (j2+1) QeU)) (cs:=[vI dst,vS xA j2 xc]) kR kR kR rfl ba 4 rfl sI ?_;intro w2 fI _ a2 ea _;refine aX kR ?_;refine bB (d:=none) kR ea rfl ?_;show∃(VU:Nat) (VV:ar) (Fi:Nat),_;exact⟨Va,QeT,QeU,qV,rN,fI⟩;intro aC w53 ls vs cY M54 hv fr;simp only[show ls 10=true from cY 10 dQ]at M54;revert aC;refine cT [(2,pT b1 0),(4,pT b7 0),(7,pT R9 0),(30,vS (sM iK) (ae fl) (ae fl)),(31,(vI (ae fl:Int))),(32,nV j2)] ?_;obtain⟨VU,VV,Fi,qV,rN,M54⟩:=M54;try rw[qV]
 try rw[rN]
 clear qV rN;clear cY hv fr aC wO;clear vs ls;refine dR<|eX ((j2:Int)+1)<|an 1<|aE ?_;have s5:=M54.od [5,5,5,5,5,5] 6;have GP:=cC [.row 3 1 (sM iK) (ae fl) (ae fl) (ints (ku il)),.aM b1 81 [vI dst,vS fA (ae fl) fc,vS (some zV) (ae al) ac],.aM b4 43 [vS NA (ae nl) nc],.aM b7 100 [vI 0,ay],.aM R9 100 [vI dst,vS VV (j2+1) Fi],.row 3 1 VV (j2+1) Fi (ints ((il.take (j2+1)).map (λi=>al.getD i 0)))] (s5.cast (by rw[Tb hi,jk];rfl));intro aC fr;exact⟨ae fl-(j2+1),oM,j2+1,VV,Fi,rfl,fr.kp [2,4,7,30,31,32],GP,oM⟩;refine gZ 2<|ia<|aV<|k8 (aZ R9) [vI dst,vS xA j2 xc] (bw (wO.get 4 rfl))<|sW wO 3 [vI dst,vS xA j2 xc] rfl λw59 zB=> ?_
 replace zB:=zB.nf;refine aE<|cv ?_;intro aC fr;refine NO (ad:=aZ b7) (vs:=[vI dst,vS xA j2 xc]) fr rfl kR kR (bw (zB.get 3 rfl)) ?_;refine⟨_,rfl,?_⟩;have vn:=zB.od [5] 1;obtain rfl:j2=ae fl:=oM;rw[cL (show ae il<=ae fl by omega)]at vn;exact⟨xA,xc,il,qY,rfl,vn⟩
set_option maxHeartbeats 2000000 in
theorem QpU(q:Nat)(nm:bo)(wk:Bool)(pa va:Int)(bA:ar)(bn bc:Nat)(gA:ar)(gc:Nat)(gs:List aY)(w:World)(hN:ae gs<=1000)(kC:∀x,x∈(gs.map aY.k)->QjL (ae gs:Int) x)(hm:(bD.pk (gF q nm wk pa va bA bn bc gA gc gs)).holds w):Calls Tryz.prog 45 #[pT q 0] w (gp λv w'=>∃B cB fd,v=fA nm wk pa va B cB fd/\BF (gs.map aY.k) fd/\Mem (bD.pk (gF q nm wk pa va bA bn bc gA gc gs)).fp w w' (Oo B cB fd)):=by
 refine iI 137 [pT q 0] Tryz.func45 ?_;have hM:=Mem.te hm;refine aV<|sV hM 30 fa λb1 w2 mS M3=> ?_
 replace M3:=M3.nf;clear hM;refine aE<|aV<|an 3<|k8 (aZ q) (fw nm wk pa va bA bn bc) (yH (M3.get 0 rfl) 0 rfl)<|sV M3 30 fa λb4 w5 XE M6=> ?_
 replace M6:=M6.nf;refine sW M6 4 (fw nm wk pa va bA bn bc) rfl λw7 M8=> ?_
 replace M8:=M8.nf;refine aE<|aV<|an 1<|sf (ho:=sI) M8 4 4 ay rfl λw9 lM=> ?_
 replace lM:=lM.nf;refine aE<|aV<|an 3<|bH (aq q 5) _ (af (lM.get 0 rfl) rfl)<|an 1 ?_;intro aC fr;refine S6 23 43 (.tmp 22) (.tmp 22) 43 fr (e:=3) (bytes:=8) (z:=(vI 0)) (n:=ae gs) (i:=(ae gs:Int)) oM (by simp only[maxLen];omega) lM ?_;intro nr w12 Qot _ rr _ aC ea fr;clear ea;replace rr:=rr.nf;revert aC;refine an 1<|aE<|br<|bt<|aV<|an 3<|bH (aq q 5) _ (af (rr.get 0 rfl) rfl)<|eW [0,2,3,4,5,27]<|an 2<|aE<|df 0 ?_;have mZ:=rr.od [4,4,5,5,5,5] 6;have hgl:=zv (gs.map aY.k);rw[bl]at hgl;intro aC fr;refine iJ (λn_ a_ w_=>∃(k:Nat) (cn:Nat),n_=ae gs-k/\Fr a_ 137 [(0,pT q 0),(2,pT b1 0),(3,pT b4 0),(4,vS (sM nr) (ae gs) (ae gs)),(5,nV cn),(27,vS gA (ae gs) gc),(28,(vI (ae gs:Int))),(29,nV k)]/\Mem (bD.pk (gF q nm wk pa va bA bn bc gA gc gs)).fp w w_ [.aM q 75 (cg nm wk pa va bA bn bc gA (ae gs) gc),jH gA gc gs,.pk (gs.map gB),.row 3 1 (sM nr) (ae gs) (ae gs) (ints (wF (ew (gs.map aY.k)) k)),.aM b1 30 fa,.aM b4 30 (fw nm wk pa va none 0 0)]/\(k<=ae gs)/\(cn=ly (ew (gs.map aY.k)) k)) (n:=_) ⟨0,0,rfl,fr.kp [0,2,3,4,5,27,28,29],(mZ.cast (by rw[Td,hgl])),cI _,rfl⟩ ?_;clear fr aC mZ;rintro n aC w21 ⟨k,cn,rfl,fr,s7,hk,Fz⟩;revert aC;refine br<|bt<|iY ((k:Int)<(ae gs:Int)) (λc25=> ?_) (λc25=> ?_);refine cE<|bt<|df 1<|aV ?_;obtain⟨x,hx⟩:=aP (l:=gs) (i:=k) oM;have hgx:=Qcn hx;have Af:=QQ (ew (gs.map aY.k)) k;refine an 1 ?_;obtain⟨QmG,rfl⟩:=lK (s7.get 1 rfl) (by unfold nh;rw[bl];omega);refine ga QmG (ae gs) 1 (k:Int)<|bH (aN QmG (k:Int) 1) _ (uZ (s7.get 1 rfl) rfl hx)<|an 2<|aE<|aV<|an 3<|bH (aq x.g 6) _ (CD (s7.get 2 rfl) hx (j:=6) rfl)<|an 1<|aE<|fZ (!x.gone) (¬(x.gone=true)) (by simp only[mw]) (λI2=> ?_) (λI2=> ?_);replace I2:x.gone=false:=dj.2 I2;have hgk:(ew (gs.map aY.k))[k]?=some false:=by rw[hgx,I2]
 refine aV<|an 3<|ga (h0:=oM) (h1:=oM) (aZ nr) (ae gs) 1 (k:Int)<|DI s7 3 (aN (aZ nr) (k:Int) 1) (((k:Int)).toNat*1) (nV cn) rfl rfl oM λw28 ob=> ?_
 replace ob:=ob.nf;refine aE<|dR<|an 1<|eX ((cn:Int)+1)<|eW [0,2,3,4,27,28,29,44]<|an 1<|aE<|dR<|eX ((k:Int)+1)<|an 1<|aE ?_;have yS:=ob.od [5,5,5,5,5,5] 6;intro aC fr;exact⟨ae gs-(k+1),oM,k+1,(cn+1),rfl,fr.kp [0,2,3,4,5,27,28,29],(yS.cast (by rw[cN,fx,Fz,Xh hgk])),oM,by rw[Fz,Lb hgk]⟩;replace I2:x.gone=true:=fy.1 I2;have hgk:(ew (gs.map aY.k))[k]?=some true:=by rw[hgx,I2]
 refine cE<|dR<|eX ((k:Int)+1)<|an 1<|aE ?_;have rL:=s7.od [5,5,5,5,5,5] 6;intro aC fr;exact⟨ae gs-(k+1),oM,k+1,cn,rfl,fr.kp [0,2,3,4,5,27,28,29],(rL.cast (by rw[Qcl hgk])),oM,by rw[Fz,Qck hgk]⟩;refine gZ 0<|ia<|bt<|aV ?_;obtain⟨nl,Qo⟩:∃nl,nl=mC (ew (gs.map aY.k)):=⟨_,rfl⟩;have QmH:ae nl=ae gs:=by rw[Qo];unfold mC;rw[Lc];exact hgl
 have hnr:∀j,0<=nl.getD j 0/\nl.getD j 0<=1000000:=by intro j;rw[Qo];exact Le _ j oM
 have vJ:=cC [.aM q 75 (cg nm wk pa va bA bn bc gA (ae gs) gc),jH gA gc gs,.pk (gs.map gB),.row 3 1 (sM nr) (ae gs) (ae gs) (ints nl),.aM b1 30 fa,.aM b4 30 (fw nm wk pa va none 0 0)] (s7.cast (by rw[show wF (ew (gs.map aY.k)) k=nl by rw[Qo];unfold mC;rw[hgl,show k=ae gs by omega]]));refine an 3<|bH (aq q 5) _ (af (vJ.get 0 rfl) rfl)<|an 2<|aE<|df 2 ?_;intro aC fr;refine iJ (λn_ a_ w_=>∃(k:Nat) (fd:List aG) (B:ar) (cB:Nat),n_=ae gs-k/\Fr a_ 137 [(2,pT b1 0),(3,pT b4 0),(4,vS (sM nr) (ae gs) (ae gs)),(49,vS gA (ae gs) gc),(50,(vI (ae gs:Int))),(51,nV k)]/\Mem (bD.pk (gF q nm wk pa va bA bn bc gA gc gs)).fp w w_ [.aM q 75 (cg nm wk pa va bA bn bc gA (ae gs) gc),jH gA gc gs,.pk ((gs.drop k).map gB),.row 3 1 (sM nr) (ae gs) (ae gs) (ints nl),.aM b1 30 fa,.aM b4 30 (fw nm wk pa va B (ae fd) cB),.row 49 6 B (ae fd) cB (rJ fd),.pk (fd.map iy)]/\(k<=ae gs)/\(gH (ToB nl) (eE ((gs.map aY.k).take k)) fd)) (n:=_) ⟨0,[],none,0,rfl,fr.kp [2,3,4,49,50,51],((vJ.call (Mem.fi _ 49 6)).call (Mem.n8 _)),cI _,gH.nil⟩ ?_;clear fr aC vJ;rintro n aC w39 ⟨k,fd,B,cB,rfl,fr,vH,hk,Nl⟩;revert aC;refine br<|bt<|iY ((k:Int)<(ae gs:Int)) (λQW=> ?_) (λQW=> ?_);refine cE<|bt<|df 3<|aV ?_;obtain⟨x,hx⟩:=aP (l:=gs) (i:=k) oM;have R6:(gs.map aY.k)[k]?=some x.k:=by rw[aL,hx];rfl
 have hox:=kC x.k (aO.2 ⟨x,aI hx,rfl⟩);have hfl:ae fd<=k:=by have h9:=Nl.1;have h8:ae (eE ((gs.map aY.k).take k))<=k:=iz (j6 _ _) (by rw[ja];omega);omega
 have u4:=vH.od [7,7,7,7,7,6,6,7] 8;have xt:=cC [gB x,.pk ((gs.drop (k+1)).map gB),.aM q 75 (cg nm wk pa va bA bn bc gA (ae gs) gc),jH gA gc gs,.row 3 1 (sM nr) (ae gs) (ae gs) (ints nl),.aM b1 30 fa,.aM b4 30 (fw nm wk pa va B (ae fd) cB),.row 49 6 B (ae fd) cB (rJ fd),.pk (fd.map iy)] ((u4.cast (by rw[jZ gB hx])).qu);have Fa:=cC [.aM x.g 79 (gV x),rK x.pA x.pc x.ak,jC x.iA x.ic x.insts,.pk (x.ak.map fm),.pk (x.ak.map fz),.pk (x.insts.map fD),.pk ((gs.drop (k+1)).map gB),.aM q 75 (cg nm wk pa va bA bn bc gA (ae gs) gc),jH gA gc gs,.row 3 1 (sM nr) (ae gs) (ae gs) (ints nl),.aM b1 30 fa,.aM b4 30 (fw nm wk pa va B (ae fd) cB),.row 49 6 B (ae fd) cB (rJ fd),.pk (fd.map iy)] (Mem.unpack (l:=gL x) xt);obtain⟨gU,rfl⟩:=lK (Fa.get 8 rfl) (by unfold nh;rw[bl];omega);refine ga gU (ae gs) 1 (k:Int)<|bH (aN gU (k:Int) 1) _ (uZ (Fa.get 8 rfl) rfl hx)<|an 1<|aE<|bt<|aV<|an 3<|bH (aq x.g 6) _ (af (Fa.get 0 rfl) rfl)<|aE<|fZ x.gone (x.gone=true) ju (λFi=> ?_) (λFi=> ?_);have vr:x.k.gone=true:=Fi;refine gZ 3<|ia<|dR<|eX ((k:Int)+1)<|an 1<|aE ?_;have tf:=Fa.od [13,13,13,13,13,11,13,13] 8;intro aC fr;exact⟨ae gs-(k+1),oM,k+1,fd,B,cB,rfl,fr.kp [2,3,4,49,50,51],tf,oM,by rw[Qcm R6 vr];exact Nl⟩;replace Fi:x.gone=false:=dj.2 Fi;have vr:x.k.gone=false:=Fi;refine cE<|bt<|eW [2,3,4,9,49,50,51] ?_;intro aC fr;refine IH (bE [eP (aZ x.g),eP (aZ x.g),eP (aq x.g 1),eS x.iA (ae x.insts) x.ic,eP (aZ x.g),eP (aZ x.g),eP (aq x.g 2),eI x.e,eP (aZ x.g),eP (aZ x.g),eP (aq x.g 3),eI x.v,.bd (.agg #[ay,vS x.iA (ae x.insts) x.ic,vI x.e,vI x.v,vI 0,vI 0]),Spec.free,.bd undef]) (λls vs w_=>match ls 14 with|true=>(∃(uI:Nat),vs 13=(pT uI 0)/\Mem (bD.pk (gF q nm wk pa va bA bn bc (some gU) gc gs)).fp w w_ [.aM x.g 79 (gV x),rK x.pA x.pc x.ak,jC x.iA x.ic x.insts,.pk (x.ak.map fm),.pk (x.ak.map fz),.pk (x.insts.map fD),.pk ((gs.drop (k+1)).map gB),.aM q 75 (cg nm wk pa va bA bn bc (some gU) (ae gs) gc),jH (some gU) gc gs,.row 3 1 (sM nr) (ae gs) (ae gs) (ints nl),.aM b1 30 fa,.aM b4 30 (fw nm wk pa va B (ae fd) cB),.row 49 6 B (ae fd) cB (rJ fd),.pk (fd.map iy),.aM uI 49 [ay,vS x.iA (ae x.insts) x.ic,vI x.e,vI x.v,vI 0,vI 0]])|false=>(∃(uI:Nat),(ls 13=true->vs 13=(pT uI 0))/\Mem (bD.pk (gF q nm wk pa va bA bn bc (some gU) gc gs)).fp w w_ ([.aM x.g 79 (gV x),rK x.pA x.pc x.ak,jC x.iA x.ic x.insts,.pk (x.ak.map fm),.pk (x.ak.map fz),.pk (x.insts.map fD),.pk ((gs.drop (k+1)).map gB),.aM q 75 (cg nm wk pa va bA bn bc (some gU) (ae gs) gc),jH (some gU) gc gs,.row 3 1 (sM nr) (ae gs) (ae gs) (ints nl),.aM b1 30 fa,.aM b4 30 (fw nm wk pa va B (ae fd) cB),.row 49 6 B (ae fd) cB (rJ fd),.pk (fd.map iy)]++pg [(ls 13,.aM uI 49 [ay,ay,vI 0,vI 0,vI 0,vI 0])]))) fr (fU (.bd (.bd (.bd (.bd (.bd (.bd (.bd (.bd (.bd (.bd (.bd (.bd (.bd (.free (.bd .nil)))))))))))))))) ⟨0,λh=>Bool.noConfusion h,Fa.aw (Mem.drew _)⟩ (ox (fQ lz bR bR bR (pz (aq x.g 1) (vS x.iA (ae x.insts) x.ic) (λ_ _ _ _ h=>h) ?_) bR bR bR (pz (aq x.g 2) (vI x.e) (λ_ _ _ _ h=>h) ?_) bR bR bR (pz (aq x.g 3) (vI x.v) (λ_ _ _ _ h=>h) ?_)) bR ?_ ?_) ?_;intro w_ ls vs hJ bT bP hp;have f14:=bf 14 15 bP bT;have ba:=hJ;simp only[f14]at ba;obtain⟨_,_,ba⟩:=ba;exact(af (ba.get 0 rfl) rfl);intro w_ ls vs hJ bT bP hp;have f14:=bf 14 15 bP bT;have ba:=hJ;simp only[f14]at ba;obtain⟨_,_,ba⟩:=ba;exact(af (ba.get 0 rfl) rfl);intro w_ ls vs hJ bT bP hp;have f14:=bf 14 15 bP bT;have ba:=hJ;simp only[f14]at ba;obtain⟨_,_,ba⟩:=ba;exact(af (ba.get 0 rfl) rfl);intro fO w_ ls vs dy hJ bT bP hp hF;refine lX (g0:=none) ?_;replace hF:Fr fO 137 []:=hF.kp [];have f14:=bf 14 15 bP bT;have f13:ls 13=false:=bT;have ba:=hJ;simp only[f14]at ba;obtain⟨QeV,uC,ba⟩:=ba;rw[f13]at ba;refine C3 (kR:aB _ 0=some (some 10,.alloc 49,0,none)) hF kR kR (k':=1) rfl (cs:=[ay,ay,vI 0,vI 0,vI 0,vI 0]) kR ba ?_;intro QpV w2 _ _ fI _ a2 ea _;refine aX kR ?_;refine bB (d:=some 10) kR ea trivial ?_;show match ls 14 with|true=>_|false=>(_)
 rw[f14];exact⟨QpV,λ_=>rfl,fI.group 0 rfl⟩;intro fO w_ ls vs dy hJ bT bP hp hF;refine lX (g0:=none) ?_;replace hF:Fr fO 137 [(10,vs 13),(71,(.agg #[ay,vS x.iA (ae x.insts) x.ic,vI x.e,vI x.v,vI 0,vI 0]))]:=hF.kp [10,71];have f14:ls 14=false:=bT;have f13:=dH 13 15 bP hp;have ba:=hJ;simp only[f14]at ba;obtain⟨QeV,uC,ba⟩:=ba;replace uC:=uC f13;try rw[uC]at hF
 rw[f13]at ba;change Mem (bD.pk (gF q nm wk pa va bA bn bc (some gU) gc gs)).fp w w_ [.aM x.g 79 (gV x),rK x.pA x.pc x.ak,jC x.iA x.ic x.insts,.pk (x.ak.map fm),.pk (x.ak.map fz),.pk (x.insts.map fD),.pk ((gs.drop (k+1)).map gB),.aM q 75 (cg nm wk pa va bA bn bc (some gU) (ae gs) gc),jH (some gU) gc gs,.row 3 1 (sM nr) (ae gs) (ae gs) (ints nl),.aM b1 30 fa,.aM b4 30 (fw nm wk pa va B (ae fd) cB),.row 49 6 B (ae fd) cB (rJ fd),.pk (fd.map iy),.aM QeV 49 [ay,ay,vI 0,vI 0,vI 0,vI 0]]at ba;refine lW (kR:aB _ 0=some (none,.store 49 (.tmp 10) (.tmp 71),0,none)) hF kR kR (k':=1) rfl (b:=QeV) (t0:=49) (vs:=[ay,vS x.iA (ae x.insts) x.ic,vI x.e,vI x.v,vI 0,vI 0]) (cs:=[ay,ay,vI 0,vI 0,vI 0,vI 0]) kR kR kR (by simp only[cG,jt,fH];intro v hv;rcases hv with rfl|rfl|rfl|rfl|rfl|rfl<;>first|rfl|assumption) ba 14 rfl rfl ?_;intro w2 fI _ a2 ea _;refine aX kR ?_;refine bB (d:=none) kR ea rfl ?_;show∃(uI:Nat),_;exact⟨QeV,uC,fI⟩;intro aC w57 ls vs cY u0 hv fr;simp only[show ls 14=true from cY 14 dQ]at u0;revert aC;refine cT [(2,pT b1 0),(3,pT b4 0),(4,vS (sM nr) (ae gs) (ae gs)),(9,(vP (aZ x.g))),(10,vs 13),(49,vS (some gU) (ae gs) gc),(50,(vI (ae gs:Int))),(51,nV k)] ?_;obtain⟨uI,uC,u0⟩:=u0;try rw[uC]
 clear uC;clear cY hv fr aC Fa;clear vs ls;refine bt<|aV<|an 3<|bH (aq x.g 2) _ (af (u0.get 0 rfl) rfl)<|aE ?_;intro aC fr;refine Ga (λa_ w_=>∃(aa:Int) (bb:Int),Fr a_ 137 [(2,pT b1 0),(3,pT b4 0),(4,vS (sM nr) (ae gs) (ae gs)),(9,(vP (aZ x.g))),(10,pT uI 0),(49,vS (some gU) (ae gs) gc),(50,(vI (ae gs:Int))),(51,nV k)]/\Mem (bD.pk (gF q nm wk pa va bA bn bc (some gU) gc gs)).fp w w_ [.aM x.g 79 (gV x),rK x.pA x.pc x.ak,jC x.iA x.ic x.insts,.pk (x.ak.map fm),.pk (x.ak.map fz),.pk (x.insts.map fD),.pk ((gs.drop (k+1)).map gB),.aM q 75 (cg nm wk pa va bA bn bc (some gU) (ae gs) gc),jH (some gU) gc gs,.row 3 1 (sM nr) (ae gs) (ae gs) (ints nl),.aM b1 30 fa,.aM b4 30 (fw nm wk pa va B (ae fd) cB),.row 49 6 B (ae fd) cB (rJ fd),.pk (fd.map iy),.aM uI 49 [ay,vS x.iA (ae x.insts) x.ic,vI x.e,vI x.v,vI aa,vI bb]]/\(aa=toA nl x.k.e x.k.a)/\(bb=toBb nl x.k.e x.k.b)) ?_ ?_;clear fr aC u0;rintro aC w61 ⟨aa,bb,fr,sG,hA9,hB9⟩;revert aC;refine bt<|aV<|an 3<|bH (aZ x.g) _ (af (sG.get 0 rfl) rfl)<|an 2<|aE<|df 5 ?_;have Nj:=sG.od [14,14,14,14,14,14,14,14,14,14,14,14,14,14,14] 15;intro aC fr;refine iJ (λn_ a_ w_=>∃(j:Nat) (pd:List cV) (pB:ar) (jF:Nat),n_=ae x.ak-j/\Fr a_ 137 [(2,pT b1 0),(3,pT b4 0),(4,vS (sM nr) (ae gs) (ae gs)),(10,pT uI 0),(49,vS (some gU) (ae gs) gc),(50,(vI (ae gs:Int))),(51,nV k),(114,vS x.pA (ae x.ak) x.pc),(115,(vI (ae x.ak:Int))),(116,nV j)]/\Mem (bD.pk (gF q nm wk pa va bA bn bc (some gU) gc gs)).fp w w_ [.aM x.g 79 (gV x),rK x.pA x.pc x.ak,jC x.iA x.ic x.insts,.pk (x.ak.map fm),.pk (x.ak.map fz),.pk (x.insts.map fD),.pk ((gs.drop (k+1)).map gB),.aM q 75 (cg nm wk pa va bA bn bc (some gU) (ae gs) gc),jH (some gU) gc gs,.row 3 1 (sM nr) (ae gs) (ae gs) (ints nl),.aM b1 30 fa,.aM b4 30 (fw nm wk pa va B (ae fd) cB),.row 49 6 B (ae fd) cB (rJ fd),.pk (fd.map iy),.aM uI 49 [vS pB (ae pd) jF,vS x.iA (ae x.insts) x.ic,vI x.e,vI x.v,vI aa,vI bb],.row 100 2 pB (ae pd) jF (yQ pd),.pk (pd.map jB)]/\(j<=ae x.ak)/\(gH (ToP nl) (x.k.ak.take j) pd)) (n:=_) ⟨0,[],none,0,rfl,fr.kp [2,3,4,10,49,50,51,114,115,116],((Nj.call (Mem.fi _ 100 2)).call (Mem.n8 _)),cI _,gH.nil⟩ ?_;clear fr aC Nj;rintro n aC w68 ⟨j,pd,pB,jF,rfl,fr,J2,hj,zU⟩;revert aC;refine br<|bt<|iY ((j:Int)<(ae x.ak:Int)) (λc72=> ?_) (λc72=> ?_);refine cE<|bt<|df 6<|aV ?_;obtain⟨p,Bx⟩:=aP (l:=x.ak) (i:=j) oM;have j8:=aI Bx;have hpo:=hox.ak p.k (aO.2 ⟨p,j8,rfl⟩);simp only[fN.k]at hpo;have nI:ae pd=j:=by have h9:=zU.1;rw[ja,aY.k,bl]at h9;omega
 have hxl:=hox.lp;rw[aY.k,bl]at hxl;obtain⟨QmI,Qgi⟩:=lK (J2.get 1 rfl) (by have:=pC (f:=fN.cells) (k:=3) mQ x.ak;unfold om;omega);intro aC fr;refine cZ (some 118) x.pA QmI (ae x.ak) 3 (j:Int) fr kR Qgi oM oM<|k8 (aN QmI (j:Int) 3) [vI p.dst,vS p.fA (ae p.from_) p.fc,vS p.aA (ae p.args) p.ac] (Ou (J2.get 1 rfl) Qgi Bx)<|sV J2 81 [vI 0,ay,ay] λb79 w80 QpW PX=> ?_
 replace PX:=PX.nf;refine sW PX 17 [vI p.dst,vS p.fA (ae p.from_) p.fc,vS p.aA (ae p.args) p.ac] rfl λw82 pY=> ?_
 replace pY:=pY.nf;refine aE<|eW [2,3,4,10,12,49,50,51,114,115,116] ?_;intro aC fr;refine IH (bE [eR uI 0,eS pB (ae pd) jF,.bd (.agg #[vI p.dst,vS p.fA (ae p.from_) p.fc,vS p.aA (ae p.args) p.ac]),eS (sM nr) (ae gs) (ae gs),Spec.free,Spec.free,Spec.free,eR uI 0,.bd undef]) (λls vs w_=>match ls 8 with|true=>(∃(np:ar) (nq:Nat) (pQ:List Nat) (VW:Nat) (Sa:ar) (HA:Nat),vs 4=(.agg #[vI p.dst,vS np (ae p.from_) nq])/\vs 5=(vS (sM VW) 1 1)/\vs 6=(vS Sa (ae pd+1) HA)/\(lx (ae p.from_) (sj nl p.from_) pQ)/\Mem (bD.pk (gF q nm wk pa va bA bn bc (some gU) gc gs)).fp w w_ [.aM x.g 79 (gV x),rK x.pA x.pc x.ak,jC x.iA x.ic x.insts,.pk (x.ak.map fm),.pk (x.ak.map fz),.pk (x.insts.map fD),.pk ((gs.drop (k+1)).map gB),.aM q 75 (cg nm wk pa va bA bn bc (some gU) (ae gs) gc),jH (some gU) gc gs,.row 3 1 (sM nr) (ae gs) (ae gs) (ints nl),.aM b1 30 fa,.aM b4 30 (fw nm wk pa va B (ae fd) cB),.row 49 6 B (ae fd) cB (rJ fd),.pk (fd.map iy),.aM uI 49 [vS Sa (ae pd+1) HA,vS x.iA (ae x.insts) x.ic,vI x.e,vI x.v,vI aa,vI bb],.row 100 2 Sa (ae pd+1) HA ((yQ pd)++[vI p.dst,vS np (ae p.from_) nq]),.pk (pd.map jB),.aM b79 81 [vI p.dst,vS p.fA (ae p.from_) p.fc,vS p.aA (ae p.args) p.ac],.row 3 1 np (ae p.from_) nq (ints (pQ.map (λi=>p.args.getD i 0))),.row 100 2 (sM VW) 1 1 [vI p.dst,vS np (ae p.from_) nq]])|false=>(match ls 6 with|true=>(∃(np:ar) (nq:Nat) (pQ:List Nat) (VW:Nat) (Sa:ar) (HA:Nat),vs 4=(.agg #[vI p.dst,vS np (ae p.from_) nq])/\vs 5=(vS (sM VW) 1 1)/\vs 6=(vS Sa (ae pd+1) HA)/\(lx (ae p.from_) (sj nl p.from_) pQ)/\Mem (bD.pk (gF q nm wk pa va bA bn bc (some gU) gc gs)).fp w w_ [.aM x.g 79 (gV x),rK x.pA x.pc x.ak,jC x.iA x.ic x.insts,.pk (x.ak.map fm),.pk (x.ak.map fz),.pk (x.insts.map fD),.pk ((gs.drop (k+1)).map gB),.aM q 75 (cg nm wk pa va bA bn bc (some gU) (ae gs) gc),jH (some gU) gc gs,.row 3 1 (sM nr) (ae gs) (ae gs) (ints nl),.aM b1 30 fa,.aM b4 30 (fw nm wk pa va B (ae fd) cB),.row 49 6 B (ae fd) cB (rJ fd),.pk (fd.map iy),.aM uI 49 [vS pB (ae pd) jF,vS x.iA (ae x.insts) x.ic,vI x.e,vI x.v,vI aa,vI bb],.row 100 2 Sa (ae pd+1) HA ((yQ pd)++[vI p.dst,vS np (ae p.from_) nq]),.pk (pd.map jB),.aM b79 81 [vI p.dst,vS p.fA (ae p.from_) p.fc,vS p.aA (ae p.args) p.ac],.row 3 1 np (ae p.from_) nq (ints (pQ.map (λi=>p.args.getD i 0))),.row 100 2 (sM VW) 1 1 [vI p.dst,vS np (ae p.from_) nq]])|false=>(match ls 5 with|true=>(∃(np:ar) (nq:Nat) (pQ:List Nat) (VW:Nat),vs 4=(.agg #[vI p.dst,vS np (ae p.from_) nq])/\vs 5=(vS (sM VW) 1 1)/\(lx (ae p.from_) (sj nl p.from_) pQ)/\Mem (bD.pk (gF q nm wk pa va bA bn bc (some gU) gc gs)).fp w w_ [.aM x.g 79 (gV x),rK x.pA x.pc x.ak,jC x.iA x.ic x.insts,.pk (x.ak.map fm),.pk (x.ak.map fz),.pk (x.insts.map fD),.pk ((gs.drop (k+1)).map gB),.aM q 75 (cg nm wk pa va bA bn bc (some gU) (ae gs) gc),jH (some gU) gc gs,.row 3 1 (sM nr) (ae gs) (ae gs) (ints nl),.aM b1 30 fa,.aM b4 30 (fw nm wk pa va B (ae fd) cB),.row 49 6 B (ae fd) cB (rJ fd),.pk (fd.map iy),.aM uI 49 [vS pB (ae pd) jF,vS x.iA (ae x.insts) x.ic,vI x.e,vI x.v,vI aa,vI bb],.row 100 2 pB (ae pd) jF (yQ pd),.pk (pd.map jB),.aM b79 81 [vI p.dst,vS p.fA (ae p.from_) p.fc,vS p.aA (ae p.args) p.ac],.row 3 1 np (ae p.from_) nq (ints (pQ.map (λi=>p.args.getD i 0))),.row 100 2 (sM VW) 1 1 [vI p.dst,vS np (ae p.from_) nq]])|false=>(match ls 4 with|true=>(∃(np:ar) (nq:Nat) (pQ:List Nat),vs 4=(.agg #[vI p.dst,vS np (ae p.from_) nq])/\(lx (ae p.from_) (sj nl p.from_) pQ)/\Mem (bD.pk (gF q nm wk pa va bA bn bc (some gU) gc gs)).fp w w_ [.aM x.g 79 (gV x),rK x.pA x.pc x.ak,jC x.iA x.ic x.insts,.pk (x.ak.map fm),.pk (x.ak.map fz),.pk (x.insts.map fD),.pk ((gs.drop (k+1)).map gB),.aM q 75 (cg nm wk pa va bA bn bc (some gU) (ae gs) gc),jH (some gU) gc gs,.row 3 1 (sM nr) (ae gs) (ae gs) (ints nl),.aM b1 30 fa,.aM b4 30 (fw nm wk pa va B (ae fd) cB),.row 49 6 B (ae fd) cB (rJ fd),.pk (fd.map iy),.aM uI 49 [vS pB (ae pd) jF,vS x.iA (ae x.insts) x.ic,vI x.e,vI x.v,vI aa,vI bb],.row 100 2 pB (ae pd) jF (yQ pd),.pk (pd.map jB),.aM b79 81 [vI p.dst,vS p.fA (ae p.from_) p.fc,vS p.aA (ae p.args) p.ac],.row 3 1 np (ae p.from_) nq (ints (pQ.map (λi=>p.args.getD i 0)))])|false=>(Mem (bD.pk (gF q nm wk pa va bA bn bc (some gU) gc gs)).fp w w_ [.aM x.g 79 (gV x),rK x.pA x.pc x.ak,jC x.iA x.ic x.insts,.pk (x.ak.map fm),.pk (x.ak.map fz),.pk (x.insts.map fD),.pk ((gs.drop (k+1)).map gB),.aM q 75 (cg nm wk pa va bA bn bc (some gU) (ae gs) gc),jH (some gU) gc gs,.row 3 1 (sM nr) (ae gs) (ae gs) (ints nl),.aM b1 30 fa,.aM b4 30 (fw nm wk pa va B (ae fd) cB),.row 49 6 B (ae fd) cB (rJ fd),.pk (fd.map iy),.aM uI 49 [vS pB (ae pd) jF,vS x.iA (ae x.insts) x.ic,vI x.e,vI x.v,vI aa,vI bb],.row 100 2 pB (ae pd) jF (yQ pd),.pk (pd.map jB),.aM b79 81 [vI p.dst,vS p.fA (ae p.from_) p.fc,vS p.aA (ae p.args) p.ac]]))))) fr (fU (.bd (.bd (.bd (.bd (.free (.free (.free (.bd (.bd .nil)))))))))) (pY.aw (Mem.drew _)) (la (s3 lz bR (pz (aZ uI) (vS pB (ae pd) jF) (λ_ _ _ _ h=>h) ?_) ?_ bR ?_ ?_ ?_ bR) ?_) ?_;intro w_ ls vs hJ bT bP hp;have f6:=bf 6 9 bP bT;have f8:=bf 8 9 bP bT;have ba:=hJ;simp only[f6,f8]at ba;cases fu5:ls 5;simp only[fu5]at ba;cases fu4:ls 4;simp only[fu4]at ba;exact(af (ba.get 14 rfl) rfl);simp only[fu4]at ba;obtain⟨_,_,_,_,_,ba⟩:=ba;exact(af (ba.get 14 rfl) rfl);simp only[fu5]at ba;obtain⟨_,_,_,_,_,_,_,ba⟩:=ba;exact(af (ba.get 14 rfl) rfl);intro fO w_ ls vs dy hJ bT bP hp hF;refine lX (g0:=none) ?_;replace hF:Fr fO 137 [(12,pT b79 0)]:=hF.kp [12];have f4:=bf 4 9 bP bT;have f5:=bf 5 9 bP bT;have f6:=bf 6 9 bP bT;have f8:=bf 8 9 bP bT;have ba:=hJ;simp only[f4,f5,f6,f8]at ba;refine jy (kR:aB _ 0=some (some 122,.load 81 (.tmp 12),81,none)) hF kR kR (k':=1) rfl (ad:=aZ b79) (vs:=[vI p.dst,vS p.fA (ae p.from_) p.fc,vS p.aA (ae p.args) p.ac]) kR kR (bw (ba.get 17 rfl)) ?_;intro a2 ea _;refine aX kR ?_;exact bB (d:=some 122) kR ea rfl hJ;intro fO w_ ls vs dy hJ bT bP hp hF;refine lX (g0:=none) ?_;replace hF:Fr fO 137 [(122,(.agg #[vI p.dst,vS p.fA (ae p.from_) p.fc,vS p.aA (ae p.args) p.ac])),(123,vS (sM nr) (ae gs) (ae gs))]:=hF.kp [122,123];have f4:ls 4=false:=bT;have f5:=bf 5 9 bP bT;have f6:=bf 6 9 bP bT;have f8:=bf 8 9 bP bT;have ba:=hJ;simp only[f4,f5,f6,f8]at ba;refine jQ (kR:aB _ 0=some (some 124,(.call {callee:=(.value (.func 84)),args:=#[.tmp 122,.tmp 123],argTypes:=#[81,43]}),100,none)) hF kR kR (k':=1) rfl (f:=84) (vs:=[(.agg #[vI p.dst,vS p.fA (ae p.from_) p.fc,vS p.aA (ae p.args) p.ac]),vS (sM nr) (ae gs) (ae gs)]) (cap:=[]) kR kR kR ((by have h9:=QpT p.dst (sM nr) p.fA p.aA (ae gs) p.fc p.ac nl p.from_ p.args w_ hpo.1 hpo.2.1 hpo.2.2.1 (RO.aF (ba.ei 9 rfl)) (RO.aF (RO.tV (ba.ei 3 rfl) (aO.2 ⟨p,j8,rfl⟩):RO bI _ (fm p))) (RO.aF (RO.tV (ba.ei 4 rfl) (aO.2 ⟨p,j8,rfl⟩):RO bI _ (fz p))) (by intro z_ hz_;rw[QmH];exact hpo.2.2.2 z_ hz_) hnr;rw[QmH]at h9;exact h9)) ?_;rintro _ w2 ⟨vO,vQ,E6,vR,rfl,fI⟩ a2 ea _;have Fv:=ba.call fI;refine aX kR ?_;refine bB (d:=some 124) kR ea trivial ?_;show match ls 8 with|true=>_|false=>(match ls 6 with|true=>_|false=>(match ls 5 with|true=>_|false=>(∃(np:ar) (nq:Nat) (pQ:List Nat),_)))
 rw[f8,f6,f5];exact⟨vO,vQ,E6,rfl,vR,Fv⟩;intro fO w_ ls vs dy hJ bT bP hp hF;refine lX (g0:=none) ?_;replace hF:Fr fO 137 [(124,vs 4)]:=hF.kp [124];have f4:=dH 4 9 bP hp;have f5:ls 5=false:=bT;have f6:=bf 6 9 bP bT;have f8:=bf 8 9 bP bT;have ba:=hJ;simp only[f4,f5,f6,f8]at ba;obtain⟨vO,vQ,E6,uF,vR,ba⟩:=ba;try rw[uF]at hF
 refine qp 125 47 1 #[(0,.tmp 124)] 47 hF (e:=100) (size:=2) (zs:=[vI 0,ay]) (vs:=[(0,(.agg #[vI p.dst,vS vO (ae p.from_) vQ]))]) (cs:=[vI p.dst,vS vO (ae p.from_) vQ]) ba ?_;intro Vb w2 _ _ fI _ a2 ea _;refine aX kR ?_;refine bB (d:=some 125) kR ea trivial ?_;show match ls 8 with|true=>_|false=>(match ls 6 with|true=>_|false=>(∃(np:ar) (nq:Nat) (pQ:List Nat) (VW:Nat),_))
 rw[f8,f6];exact⟨vO,vQ,E6,Vb,uF,rfl,vR,fI⟩;intro fO w_ ls vs dy hJ bT bP hp hF;refine lX (g0:=none) ?_;replace hF:Fr fO 137 [(121,vS pB (ae pd) jF),(125,vs 5)]:=hF.kp [121,125];have f4:=dH 4 9 bP hp;have f5:=dH 5 9 bP hp;have f6:ls 6=false:=bT;have f8:=bf 8 9 bP bT;have ba:=hJ;simp only[f4,f5,f6,f8]at ba;obtain⟨vO,vQ,E6,Vb,uF,e5_,vR,ba⟩:=ba;try rw[uF]at hF
 try rw[e5_]at hF
 refine yP 126 (.tmp 121) (.tmp 125) 47 47 hF (e:=100) (size:=2) (bytes:=32) (z:=(.agg #[vI 0,ay])) (A:=pB) (B:=(sM Vb)) (n:=ae pd) (cap:=jF) (m:=1) (cap':=1) (xs:=(yQ pd)) (news:=[vI p.dst,vS vO (ae p.from_) vQ]) ba 15 rfl (aF (ba.get 19 rfl)) rfl (by simp[Value.oneCell']) oM (by simp only[maxLen];omega) ?_;intro QeW QeX w2 fI _ a2 ea _;refine aX kR ?_;refine bB (d:=some 126) kR ea trivial ?_;show match ls 8 with|true=>_|false=>(∃(np:ar) (nq:Nat) (pQ:List Nat) (VW:Nat) (Sa:ar) (HA:Nat),_)
 rw[f8];exact⟨vO,vQ,E6,Vb,QeW,QeX,uF,e5_,rfl,vR,fI⟩;intro fO w_ ls vs dy hJ bT bP hp hF;refine lX (g0:=none) ?_;replace hF:Fr fO 137 [(126,vs 6),(127,pT uI 0)]:=hF.kp [126,127];have f4:=dH 4 9 bP hp;have f5:=dH 5 9 bP hp;have f6:=dH 6 9 bP hp;have f8:ls 8=false:=bT;have ba:=hJ;simp only[f4,f5,f6,f8]at ba;obtain⟨vO,vQ,E6,Vb,QeW,QeX,uF,e5_,e6_,vR,ba⟩:=ba;try rw[uF]at hF
 try rw[e5_]at hF
 try rw[e6_]at hF
 refine iO (kR:aB _ 0=some (none,.store 47 (.tmp 127) (.tmp 126),0,none)) hF kR kR (k':=1) rfl (b:=uI) (off:=0) (t0:=49) (v:=(vS QeW (ae pd+1) QeX)) (cs:=[vS pB (ae pd) jF,vS x.iA (ae x.insts) x.ic,vI x.e,vI x.v,vI aa,vI bb]) kR kR kR rfl ba 14 rfl sI ?_;intro w2 fI _ a2 ea _;refine aX kR ?_;refine bB (d:=none) kR ea rfl ?_;show∃(np:ar) (nq:Nat) (pQ:List Nat) (VW:Nat) (Sa:ar) (HA:Nat),_;exact⟨vO,vQ,E6,Vb,QeW,QeX,uF,e5_,e6_,vR,fI⟩;intro aC w94 ls vs cY Px hv fr;simp only[show ls 8=true from cY 8 dQ]at Px;revert aC;refine cT [(2,pT b1 0),(3,pT b4 0),(4,vS (sM nr) (ae gs) (ae gs)),(10,pT uI 0),(49,vS (some gU) (ae gs) gc),(50,(vI (ae gs:Int))),(51,nV k),(114,vS x.pA (ae x.ak) x.pc),(115,(vI (ae x.ak:Int))),(116,nV j)] ?_;obtain⟨np,nq,pQ,VW,Sa,HA,uF,e5_,e6_,vR,Px⟩:=Px;try rw[uF]
 try rw[e5_]
 try rw[e6_]
 clear uF e5_ e6_;clear cY hv fr aC pY;clear vs ls;refine dR ?_;have Qbd:ae (pQ.map (λi=>p.args.getD i 0))=ae p.from_:=by have h9:=vR.1.length_eq;rw[qj]at h9;rw[bl];exact h9
 refine eX ((j:Int)+1)<|an 1<|aE ?_;have M96:=Px.od [15,15,15,15,15,15,15,15,15,15,15,15,15,15,15,15,18,17] 18;have M97:=cC [.pk (pd.map jB),jB (⟨p.dst,np,nq,pQ.map (λi=>p.args.getD i 0)⟩:cV),.aM x.g 79 (gV x),rK x.pA x.pc x.ak,jC x.iA x.ic x.insts,.pk (x.ak.map fm),.pk (x.ak.map fz),.pk (x.insts.map fD),.pk ((gs.drop (k+1)).map gB),.aM q 75 (cg nm wk pa va bA bn bc (some gU) (ae gs) gc),jH (some gU) gc gs,.row 3 1 (sM nr) (ae gs) (ae gs) (ints nl),.aM b1 30 fa,.aM b4 30 (fw nm wk pa va B (ae fd) cB),.row 49 6 B (ae fd) cB (rJ fd),.pk (fd.map iy),.aM uI 49 [vS Sa (ae pd+1) HA,vS x.iA (ae x.insts) x.ic,vI x.e,vI x.v,vI aa,vI bb],.row 100 2 Sa (ae pd+1) HA ((yQ pd)++[vI p.dst,vS np (ae p.from_) nq])] (M96.cast (by unfold jB;rw[Qbd]));have Uq:=cC [.pk (pd.map jB++[jB (⟨p.dst,np,nq,pQ.map (λi=>p.args.getD i 0)⟩:cV)]),.aM x.g 79 (gV x),rK x.pA x.pc x.ak,jC x.iA x.ic x.insts,.pk (x.ak.map fm),.pk (x.ak.map fz),.pk (x.insts.map fD),.pk ((gs.drop (k+1)).map gB),.aM q 75 (cg nm wk pa va bA bn bc (some gU) (ae gs) gc),jH (some gU) gc gs,.row 3 1 (sM nr) (ae gs) (ae gs) (ints nl),.aM b1 30 fa,.aM b4 30 (fw nm wk pa va B (ae fd) cB),.row 49 6 B (ae fd) cB (rJ fd),.pk (fd.map iy),.aM uI 49 [vS Sa (ae pd+1) HA,vS x.iA (ae x.insts) x.ic,vI x.e,vI x.v,vI aa,vI bb],.row 100 2 Sa (ae pd+1) HA ((yQ pd)++[vI p.dst,vS np (ae p.from_) nq])] (M97.ib);have PU:=Uq.od [0,16,16,16,16,16,16,16,16,16,16,16,16,16,16,16,16] 17;have OP:=cC [.aM x.g 79 (gV x),rK x.pA x.pc x.ak,jC x.iA x.ic x.insts,.pk (x.ak.map fm),.pk (x.ak.map fz),.pk (x.insts.map fD),.pk ((gs.drop (k+1)).map gB),.aM q 75 (cg nm wk pa va bA bn bc (some gU) (ae gs) gc),jH (some gU) gc gs,.row 3 1 (sM nr) (ae gs) (ae gs) (ints nl),.aM b1 30 fa,.aM b4 30 (fw nm wk pa va B (ae fd) cB),.row 49 6 B (ae fd) cB (rJ fd),.pk (fd.map iy),.aM uI 49 [(vS Sa (ae (pd++[(⟨p.dst,np,nq,pQ.map (λi=>p.args.getD i 0)⟩:cV)])) HA),vS x.iA (ae x.insts) x.ic,vI x.e,vI x.v,vI aa,vI bb],.row 100 2 Sa (ae (pd++[(⟨p.dst,np,nq,pQ.map (λi=>p.args.getD i 0)⟩:cV)])) HA (yQ (pd++[(⟨p.dst,np,nq,pQ.map (λi=>p.args.getD i 0)⟩:cV)])),.pk ((pd++[(⟨p.dst,np,nq,pQ.map (λi=>p.args.getD i 0)⟩:cV)]).map jB)] (PU.cast (by simp only[iw,K7,ix,cV.cells,Qbd]));intro aC fr;exact⟨ae x.ak-(j+1),oM,j+1,pd++[(⟨p.dst,np,nq,pQ.map (λi=>p.args.getD i 0)⟩:cV)],Sa,HA,rfl,fr.kp [2,3,4,10,49,50,51,114,115,116],OP,oM,zU.next (x:=p.k) (by show(x.ak.map fN.k)[j]?=_;rw[aL,Bx];rfl) ⟨rfl,_,vR,rfl⟩⟩;refine gZ 5<|ia<|dR ?_;have Lo:gH (ToP nl) x.k.ak pd:=by have h9:=zU;rw[cL (by rw[aY.k,bl];omega)]at h9;exact h9
 refine an 1<|bH (aq b4 4) _ (af (J2.get 11 rfl) rfl)<|k8 (aZ uI) [vS pB (ae pd) jF,vS x.iA (ae x.insts) x.ic,vI x.e,vI x.v,vI aa,vI bb] (bw (J2.get 14 rfl)) ?_;intro aC fr;refine qp 132 28 1 #[(0,.tmp 131)] 28 fr (e:=49) (size:=6) (zs:=[ay,ay,vI 0,vI 0,vI 0,vI 0]) (vs:=[(0,(.agg #[vS pB (ae pd) jF,vS x.iA (ae x.insts) x.ic,vI x.e,vI x.v,vI aa,vI bb]))]) (cs:=[vS pB (ae pd) jF,vS x.iA (ae x.insts) x.ic,vI x.e,vI x.v,vI aa,vI bb]) J2 ?_;intro QpX ZC Qqc _ km _ aC ea fr;clear ea;replace km:=km.nf;refine yP 133 (.tmp 130) (.tmp 132) 28 28 fr (e:=49) (size:=6) (bytes:=80) (z:=(.agg #[ay,ay,vI 0,vI 0,vI 0,vI 0])) (A:=B) (B:=(sM QpX)) (n:=ae fd) (cap:=cB) (m:=1) (cap':=1) (xs:=(rJ fd)) (news:=[vS pB (ae pd) jF,vS x.iA (ae x.insts) x.ic,vI x.e,vI x.v,vI aa,vI bb]) km 12 rfl (aF (km.get 17 rfl)) rfl (by simp[Value.oneCell']) oM (by simp only[maxLen];omega) ?_;intro QeY Ms Ue oO _ aC ea fr;clear ea;replace oO:=oO.nf;have yD:=oO.od [16,16,16,16,16,16,16,16,16,16,16,16,16,16,16,16,16] 17;revert aC;refine an 1<|sf (ho:=sI) yD 11 4 (vS QeY (ae fd+1) Ms) rfl λw117 Qa3=> ?_
 replace Qa3:=Qa3.nf;refine aE<|dR ?_;have Qa4:=Qa3.od [14,14,14,14,14,14,14,14,14,13,13,12,12,14,16,15,16] 17;have Tq:=cC [iy (⟨pB,jF,pd,x.iA,x.ic,x.insts,x.e,x.v,aa,bb⟩:aG),.aM x.g 79 (gV x),rK x.pA x.pc x.ak,.pk (x.ak.map fm),.pk (x.ak.map fz),.pk ((gs.drop (k+1)).map gB),.aM q 75 (cg nm wk pa va bA bn bc (some gU) (ae gs) gc),jH (some gU) gc gs,.row 3 1 (sM nr) (ae gs) (ae gs) (ints nl),.aM b1 30 fa,.aM b4 30 (fw nm wk pa va QeY (ae fd+1) Ms),.row 49 6 QeY (ae fd+1) Ms ((rJ fd)++[vS pB (ae pd) jF,vS x.iA (ae x.insts) x.ic,vI x.e,vI x.v,vI aa,vI bb]),.pk (fd.map iy),.aM uI 49 [vS pB (ae pd) jF,vS x.iA (ae x.insts) x.ic,vI x.e,vI x.v,vI aa,vI bb]] (Mem.pack (l:=Qcd (⟨pB,jF,pd,x.iA,x.ic,x.insts,x.e,x.v,aa,bb⟩:aG)) Qa4);have Jw:=Tq.od [13,12,12,12,12,12,12,12,12,12,12,12,12,13] 14;have Qa5:=cC [.pk (fd.map iy++[iy (⟨pB,jF,pd,x.iA,x.ic,x.insts,x.e,x.v,aa,bb⟩:aG)]),.aM x.g 79 (gV x),rK x.pA x.pc x.ak,.pk (x.ak.map fm),.pk (x.ak.map fz),.pk ((gs.drop (k+1)).map gB),.aM q 75 (cg nm wk pa va bA bn bc (some gU) (ae gs) gc),jH (some gU) gc gs,.row 3 1 (sM nr) (ae gs) (ae gs) (ints nl),.aM b1 30 fa,.aM b4 30 (fw nm wk pa va QeY (ae fd+1) Ms),.row 49 6 QeY (ae fd+1) Ms ((rJ fd)++[vS pB (ae pd) jF,vS x.iA (ae x.insts) x.ic,vI x.e,vI x.v,vI aa,vI bb]),.aM uI 49 [vS pB (ae pd) jF,vS x.iA (ae x.insts) x.ic,vI x.e,vI x.v,vI aa,vI bb]] (Jw.ib);refine eX ((k:Int)+1)<|an 1<|aE ?_;have xh:=Qa5.od [0,11,11,11,11,9,11,11] 8;have EL:=cC [.aM q 75 (cg nm wk pa va bA bn bc (some gU) (ae gs) gc),jH (some gU) gc gs,.pk ((gs.drop (k+1)).map gB),.row 3 1 (sM nr) (ae gs) (ae gs) (ints nl),.aM b1 30 fa,.aM b4 30 [vT nm,vB wk,vI pa,vI va,(vS QeY (ae (fd++[(⟨pB,jF,pd,x.iA,x.ic,x.insts,x.e,x.v,aa,bb⟩:aG)])) Ms)],.row 49 6 QeY (ae (fd++[(⟨pB,jF,pd,x.iA,x.ic,x.insts,x.e,x.v,aa,bb⟩:aG)])) Ms (rJ (fd++[(⟨pB,jF,pd,x.iA,x.ic,x.insts,x.e,x.v,aa,bb⟩:aG)])),.pk ((fd++[(⟨pB,jF,pd,x.iA,x.ic,x.insts,x.e,x.v,aa,bb⟩:aG)]).map iy)] (xh.cast (by simp only[iw,K8,ix]));intro aC fr;exact⟨ae gs-(k+1),oM,k+1,fd++[(⟨pB,jF,pd,x.iA,x.ic,x.insts,x.e,x.v,aa,bb⟩:aG)],QeY,Ms,rfl,fr.kp [2,3,4,49,50,51],EL,oM,by rw[Xi R6 vr];exact Nl.snoc ⟨Lo,rfl,rfl,rfl,hA9,hB9⟩⟩;revert aC;refine df 4<|br<|fZ ((x.e:Int)==0) ((x.e:Int)=0) (by simp only[az]) (λMy=> ?_) (λMy=> ?_);have h0a:=hox.e0 My;simp only[aY.k]at h0a;refine dR<|an 4<|bH (aq x.g 4) _ (af (u0.get 0 rfl) rfl)<|ga (h0:=h0a.1) (h1:=h0a.2) (aZ nr) (ae gs) 1 x.a<|bH (aN (aZ nr) (x.a) 1) _ (fR (aF (u0.get 9 rfl)) rfl h0a.1 oM)<|an 1<|sf (ho:=sI) u0 14 4 (vI (nl.getD x.a.toNat 0)) rfl λQpc P3=> ?_
 replace P3:=P3.nf;refine aE ?_;have BL:=P3.od [14,14,14,14,14,14,14,14,14,14,14,14,14,14,14] 15;intro aC fr;exact⟨(nl.getD x.a.toNat 0),0,fr.kp [2,3,4,9,10,49,50,51],BL,by unfold toA;rw[ax (.inl (show x.k.e=0 from My))];rfl,by unfold toBb;rw[ao (by have:x.k.e=0:=My;omega)]⟩;refine br<|fZ ((x.e:Int)==1) ((x.e:Int)=1) (by simp only[az]) (λQeZ=> ?_) (λQeZ=> ?_);obtain⟨h0a,h0b⟩:=hox.e1 QeZ;simp only[aY.k]at h0a h0b;refine eW [2,3,4,9,10,49,50,51,75] ?_;intro aC fr;refine IH (bE [eS (sM nr) (ae gs) (ae gs),eP (aZ x.g),eP (aZ x.g),eP (aq x.g 4),eI x.a,eA (aZ nr) (x.a) 1,eI (nl.getD x.a.toNat 0),eS (sM nr) (ae gs) (ae gs),eP (aZ x.g),eP (aZ x.g),eP (aq x.g 5),eI x.b,eA (aZ nr) (x.b) 1,eI (nl.getD x.b.toNat 0),eR uI 4,.bd undef,eR uI 5,.bd undef]) (λls vs w_=>match ls 17 with|true=>(Mem (bD.pk (gF q nm wk pa va bA bn bc (some gU) gc gs)).fp w w_ [.aM x.g 79 (gV x),rK x.pA x.pc x.ak,jC x.iA x.ic x.insts,.pk (x.ak.map fm),.pk (x.ak.map fz),.pk (x.insts.map fD),.pk ((gs.drop (k+1)).map gB),.aM q 75 (cg nm wk pa va bA bn bc (some gU) (ae gs) gc),jH (some gU) gc gs,.row 3 1 (sM nr) (ae gs) (ae gs) (ints nl),.aM b1 30 fa,.aM b4 30 (fw nm wk pa va B (ae fd) cB),.row 49 6 B (ae fd) cB (rJ fd),.pk (fd.map iy),.aM uI 49 [ay,vS x.iA (ae x.insts) x.ic,vI x.e,vI x.v,vI (nl.getD x.a.toNat 0),vI (nl.getD x.b.toNat 0)]])|false=>(match ls 15 with|true=>(Mem (bD.pk (gF q nm wk pa va bA bn bc (some gU) gc gs)).fp w w_ [.aM x.g 79 (gV x),rK x.pA x.pc x.ak,jC x.iA x.ic x.insts,.pk (x.ak.map fm),.pk (x.ak.map fz),.pk (x.insts.map fD),.pk ((gs.drop (k+1)).map gB),.aM q 75 (cg nm wk pa va bA bn bc (some gU) (ae gs) gc),jH (some gU) gc gs,.row 3 1 (sM nr) (ae gs) (ae gs) (ints nl),.aM b1 30 fa,.aM b4 30 (fw nm wk pa va B (ae fd) cB),.row 49 6 B (ae fd) cB (rJ fd),.pk (fd.map iy),.aM uI 49 [ay,vS x.iA (ae x.insts) x.ic,vI x.e,vI x.v,vI (nl.getD x.a.toNat 0),vI 0]])|false=>(Mem (bD.pk (gF q nm wk pa va bA bn bc (some gU) gc gs)).fp w w_ [.aM x.g 79 (gV x),rK x.pA x.pc x.ak,jC x.iA x.ic x.insts,.pk (x.ak.map fm),.pk (x.ak.map fz),.pk (x.insts.map fD),.pk ((gs.drop (k+1)).map gB),.aM q 75 (cg nm wk pa va bA bn bc (some gU) (ae gs) gc),jH (some gU) gc gs,.row 3 1 (sM nr) (ae gs) (ae gs) (ints nl),.aM b1 30 fa,.aM b4 30 (fw nm wk pa va B (ae fd) cB),.row 49 6 B (ae fd) cB (rJ fd),.pk (fd.map iy),.aM uI 49 [ay,vS x.iA (ae x.insts) x.ic,vI x.e,vI x.v,vI 0,vI 0]]))) fr (fU (.bd (.bd (.bd (.bd (.bd (.bd (.bd (.bd (.bd (.bd (.bd (.bd (.bd (.bd (.bd (.bd (.bd (.bd .nil))))))))))))))))))) (u0.aw (Mem.drew _)) (la (xu (fQ lz bR bR bR bR (pz (aq x.g 4) (vI x.a) (λ_ _ _ _ h=>h) ?_) (Az (h0:=h0a.1) (h1:=h0a.2) (aZ nr) (ae gs) 1 x.a λ_ _ _ _ h=>h) (pz (aN (aZ nr) (x.a) 1) (vI (nl.getD x.a.toNat 0)) (λ_ _ _ _ h=>h) ?_) bR bR bR bR (pz (aq x.g 5) (vI x.b) (λ_ _ _ _ h=>h) ?_)) (Az (h0:=h0b.1) (h1:=h0b.2) (aZ nr) (ae gs) 1 x.b λ_ _ _ _ h=>h) (pz (aN (aZ nr) (x.b) 1) (vI (nl.getD x.b.toNat 0)) (λ_ _ _ _ h=>h) ?_) bR ?_ bR) ?_) ?_;intro w_ ls vs hJ bT bP hp;have f15:=bf 15 18 bP bT;have f17:=bf 17 18 bP bT;have ba:=hJ;simp only[f15,f17]at ba;exact(af (ba.get 0 rfl) rfl);intro w_ ls vs hJ bT bP hp;have f15:=bf 15 18 bP bT;have f17:=bf 17 18 bP bT;have ba:=hJ;simp only[f15,f17]at ba;exact(fR (aF (ba.get 9 rfl)) rfl h0a.1 oM);intro w_ ls vs hJ bT bP hp;have f17:=bf 17 18 bP bT;have ba:=hJ;simp only[f17]at ba;cases fu:ls 15;simp only[fu]at ba;exact(af (ba.get 0 rfl) rfl);simp only[fu]at ba;exact(af (ba.get 0 rfl) rfl);intro w_ ls vs hJ bT bP hp;have f17:=bf 17 18 bP bT;have ba:=hJ;simp only[f17]at ba;cases fu:ls 15;simp only[fu]at ba;exact(fR (aF (ba.get 9 rfl)) rfl h0b.1 oM);simp only[fu]at ba;exact(fR (aF (ba.get 9 rfl)) rfl h0b.1 oM);intro fO w_ ls vs dy hJ bT bP hp hF;refine lX (g0:=none) ?_;replace hF:Fr fO 137 [(94,vI (nl.getD x.a.toNat 0)),(102,pT uI 4)]:=hF.kp [94,102];have f15:ls 15=false:=bT;have f17:=bf 17 18 bP bT;have ba:=hJ;simp only[f15,f17]at ba;refine iO (kR:aB _ 0=some (none,.store 3 (.tmp 102) (.tmp 94),0,none)) hF kR kR (k':=1) rfl (b:=uI) (off:=4) (t0:=49) (v:=(vI (nl.getD x.a.toNat 0))) (cs:=[ay,vS x.iA (ae x.insts) x.ic,vI x.e,vI x.v,vI 0,vI 0]) kR kR kR rfl ba 14 rfl sI ?_;intro w2 fI _ a2 ea _;refine aX kR ?_;refine bB (d:=none) kR ea rfl ?_;show match ls 17 with|true=>_|false=>(_)
 rw[f17];exact fI;intro fO w_ ls vs dy hJ bT bP hp hF;refine lX (g0:=none) ?_;replace hF:Fr fO 137 [(101,vI (nl.getD x.b.toNat 0)),(103,pT uI 5)]:=hF.kp [101,103];have f15:=dH 15 18 bP hp;have f17:ls 17=false:=bT;have ba:=hJ;simp only[f15,f17]at ba;refine iO (kR:aB _ 0=some (none,.store 3 (.tmp 103) (.tmp 101),0,none)) hF kR kR (k':=1) rfl (b:=uI) (off:=5) (t0:=49) (v:=(vI (nl.getD x.b.toNat 0))) (cs:=[ay,vS x.iA (ae x.insts) x.ic,vI x.e,vI x.v,vI (nl.getD x.a.toNat 0),vI 0]) kR kR kR rfl ba 14 rfl sI ?_;intro w2 fI _ a2 ea _;refine aX kR ?_;refine bB (d:=none) kR ea rfl ?_;show _;exact fI;intro aC Qoa ls vs cY EJ hv fr;simp only[show ls 17=true from cY 17 dQ]at EJ;revert aC;refine cT [(2,pT b1 0),(3,pT b4 0),(4,vS (sM nr) (ae gs) (ae gs)),(9,(vP (aZ x.g))),(10,pT uI 0),(49,vS (some gU) (ae gs) gc),(50,(vI (ae gs:Int))),(51,nV k)] ?_;clear cY hv fr aC u0;clear vs ls;have JJ:=EJ.od [14,14,14,14,14,14,14,14,14,14,14,14,14,14,14] 15;intro aC fr;exact⟨(nl.getD x.a.toNat 0),(nl.getD x.b.toNat 0),fr.kp [2,3,4,9,10,49,50,51],JJ,by unfold toA;rw[ax (.inr (show x.k.e=1 from QeZ))];rfl,by unfold toBb;rw[ax (show x.k.e=1 from QeZ)];rfl⟩;refine br<|fZ ((x.e:Int)==3) ((x.e:Int)=3) (by simp only[az]) (λQmJ=> ?_) (λQmJ=> ?_);refine dR<|an 3<|bH (aq x.g 4) _ (af (u0.get 0 rfl) rfl)<|an 1<|sf (ho:=sI) u0 14 4 (vI x.a) rfl λQen nH=> ?_
 replace nH:=nH.nf;refine aE ?_;have Jy:=nH.od [14,14,14,14,14,14,14,14,14,14,14,14,14,14,14] 15;intro aC fr;exact⟨x.a,0,fr.kp [2,3,4,9,10,49,50,51],Jy,by unfold toA;rw[ao (by simp only[aY.k];omega),ax (show x.k.e=3 from QmJ)];rfl,by unfold toBb;rw[ao (by simp only[aY.k];omega)]⟩;refine cE ?_;have Qbc:=u0.od [14,14,14,14,14,14,14,14,14,14,14,14,14,14,14] 15;intro aC fr;exact⟨0,0,fr.kp [2,3,4,9,10,49,50,51],Qbc,by unfold toA;rw[ao (by simp only[aY.k];omega),ao (by simp only[aY.k];omega)],by unfold toBb;rw[ao (by simp only[aY.k];omega)]⟩;refine gZ 2<|ia<|aV<|k8 (aZ b4) (fw nm wk pa va B (ae fd) cB) (bw (vH.get 5 rfl))<|sW vH 4 (fw nm wk pa va B (ae fd) cB) rfl λw152 Mu=> ?_
 replace Mu:=Mu.nf;refine aE<|cv ?_;intro aC fr;refine NO (ad:=aZ b1) (vs:=(fw nm wk pa va B (ae fd) cB)) fr rfl kR kR (bw (Mu.get 4 rfl)) ?_;refine⟨_,rfl,?_⟩;have Qat:=Mu.od [7,7] 2;rw[cL (by rw[bl];omega),Qo]at Nl;refine⟨B,cB,fd,?_,Nl,Qat⟩;show _=Value.agg #[.string nm,.bool wk,vI pa,vI va,.slice B (ae (au fd)) cB];rw[bM]
set_option maxHeartbeats 2000000 in
theorem Qjl(nm:bo)(wk:Bool)(pa va:Int)(A:ar)(c:Nat)(fs:List aG)(w:World)(hN:ae fs<=1000)(Oz:FSm fs)(hA:RO bI w (.fn A fs)):Calls Tryz.prog 40 #[fA nm wk pa va A c fs] w (gp λv w'=>∃q bA bn bc gA gc gs,v= .pointer (sM q)/\gs.map aY.k=gM fs/\Mem bI w w' (gF q nm wk pa va bA bn bc gA gc gs)):=by
 refine iI 76 [fA nm wk pa va A c fs] Tryz.func40 ?_;have hM:=Mem.init w;refine aV<|sU hM 30 (fA nm wk pa va A c fs) (fV nm wk pa va A c fs) λb1 w2 mS M3=> ?_
 replace M3:=M3.nf;clear hM;refine an 1<|aE<|aV<|k8 (aZ b1) (fV nm wk pa va A c fs) (bw (M3.get 0 rfl))<|eV (Qjk nm wk pa va A c fs w2 hN Oz (hA.at_ M3)) ?_;rintro _ w4 ⟨B,cB,gd,rfl,hgd,OS⟩;have M5:=M3.cl OS;refine sW M5 0 (fw nm wk pa va B (ae (au gd)) cB) rfl λw6 M7=> ?_
 replace M7:=M7.nf;refine aE<|aV ?_;have hgl:ae gd=ae fs:=oJ hgd;have hsg:FSm gd:=Oz.alike hgd;have hbg:=bM gd;refine k8 (aZ b1) (fw nm wk pa va B (ae (au gd)) cB) (bw (M7.get 0 rfl))<|eV (vs:=#[(.agg #[vT nm,vB wk,vI pa,vI va,vS B (ae (au gd)) cB])]) (XH _ _ _ _ B cB (au gd) w6 oM (RO.of (QgS (M7.get 1 rfl)))) ?_;rintro _ w8 ⟨sA,sc,rows,rfl,hrw,M9x⟩;have M9:=M7.cl M9x;refine an 1<|aE<|aV<|k8 (aZ b1) (fw nm wk pa va B (ae (au gd)) cB) (bw (M9.get 0 rfl))<|an 1<|sU M9 75 (.agg #[vT nm,vB wk,vI pa,vI va,vS B (ae (au gd)) cB,ay]) (cg nm wk pa va B (ae (au gd)) cB none 0 0) λiK Fw Qic eM=> ?_
 replace eM:=eM.nf;refine an 1<|aE<|bt<|aV<|an 1<|bH (aq b1 4) _ (af (eM.get 0 rfl) rfl)<|eW [3,4,18]<|an 2<|aE<|df 0 ?_;have rr:=eM.od [5,5,5,5,5] 5;intro aC fr;refine iJ (λn_ a_ w_=>∃(k:Nat) (gs:List aY) (gA:ar) (gc:Nat),n_=ae gd-k/\Fr a_ 76 [(3,vS sA (ae (au gd)) sc),(4,pT iK 0),(18,vS B (ae (au gd)) cB),(19,(vI (ae (au gd):Int))),(20,nV k)]/\Mem bI w w_ [Nh B cB gd,.pk ((gd.drop k).map iy),.kq 3 rows,.row 43 1 sA (ae (au gd)) sc (jI rows),.aM iK 75 (cg nm wk pa va B (ae (au gd)) cB gA (ae gs) gc),.row 76 1 gA (ae gs) gc (nh gs),.pk (gs.map gB)]/\(k<=ae gd)/\(gs.map aY.k=(gM gd).take k)) (n:=_) ⟨0,[],none,0,rfl,fr.kp [3,4,18,19,20],((rr.call (Mem.fi _ 76 1)).call (Mem.n8 _)),cI _,rfl⟩ ?_;clear fr aC rr;rintro n aC Tj ⟨k,gs,gA,gc,rfl,fr,kV,hk,Jb⟩;revert aC;refine br<|bt<|iY ((k:Int)<(ae (au gd):Int)) (λNk=> ?_) (λNk=> ?_);refine cE<|bt<|df 1<|aV ?_;obtain⟨x,hx⟩:=aP (l:=gd) (i:=k) oM;have hgsl:ae gs=k:=by have h9:=aK List.length Jb;rw[bl,ja,jh]at h9;omega
 have sm:=aI hx;have ub:=hsg.lp x sm;have Aq:=hsg.li x sm;have sY:=kV.od [6,6,6,6,6,5,6] 7;have s7:=cC [iy x,.pk ((gd.drop (k+1)).map iy),Nh B cB gd,.kq 3 rows,.row 43 1 sA (ae (au gd)) sc (jI rows),.aM iK 75 (cg nm wk pa va B (ae (au gd)) cB gA (ae gs) gc),.row 76 1 gA (ae gs) gc (nh gs),.pk (gs.map gB)] ((sY.cast (by rw[jZ iy hx])).qu);have oZ:=cC [Vr x.pA x.pc x.ak,jC x.iA x.ic x.insts,.pk (x.ak.map jB),.pk (x.insts.map fD),.pk ((gd.drop (k+1)).map iy),Nh B cB gd,.kq 3 rows,.row 43 1 sA (ae (au gd)) sc (jI rows),.aM iK 75 (cg nm wk pa va B (ae (au gd)) cB gA (ae gs) gc),.row 76 1 gA (ae gs) gc (nh gs),.pk (gs.map gB)] (Mem.unpack (l:=Qcd x) s7);refine an 1 ?_;obtain⟨oS,rfl⟩:=lK (oZ.get 5 rfl) (by have:=pC (f:=xV) (k:=6) DM gd;unfold rJ;omega);refine ga oS (ae (au gd)) 6 (k:Int)<|k8 (aN oS (k:Int) 6) (xV x) (Qch (oZ.get 5 rfl) rfl hx)<|sV oZ 49 [ay,ay,vI 0,vI 0,vI 0,vI 0] λLm w26 Qm9 AE=> ?_
 replace AE:=AE.nf;refine an 1<|sW AE 11 (xV x) rfl λw28 ob=> ?_
 replace ob:=ob.nf;refine aE<|aV<|an 1<|bH (aq Lm 1) _ (af (ob.get 11 rfl) rfl)<|an 1<|bH (aq Lm 2) _ (af (ob.get 11 rfl) rfl)<|an 1<|bH (aq Lm 3) _ (af (ob.get 11 rfl) rfl)<|eW [3,4,5,6,18,19,20,26,28,30]<|an 1<|bH (aq Lm 4) _ (af (ob.get 11 rfl) rfl)<|an 1<|bH (aq Lm 5) _ (af (ob.get 11 rfl) rfl)<|an 1<|sU ob 79 (.agg #[ay,vS x.iA (ae x.insts) x.ic,vI x.e,vI x.v,vI x.a,vI x.b,vB false]) [ay,vS x.iA (ae x.insts) x.ic,vI x.e,vI x.v,vI x.a,vI x.b,vB false] λyM w31 hb30 sZ=> ?_
 replace sZ:=sZ.nf;refine an 1<|aE<|bt<|aV<|an 1<|bH (aZ Lm) _ (af (sZ.get 11 rfl) rfl)<|an 2<|aE<|df 2 ?_;have rL:=sZ.od [12,12,12,12,12,12,12,12,12,12,12,12,12] 13;intro aC fr;refine iJ (λn_ a_ w_=>∃(j:Nat) (pd:List fN) (pB:ar) (jF:Nat),n_=ae x.ak-j/\Fr a_ 76 [(3,vS sA (ae (au gd)) sc),(4,pT iK 0),(5,nV k),(7,pT yM 0),(18,vS (some oS) (ae (au gd)) cB),(19,(vI (ae (au gd):Int))),(20,nV k),(38,vS x.pA (ae x.ak) x.pc),(39,(vI (ae x.ak:Int))),(40,nV j)]/\Mem bI w w_ [Vr x.pA x.pc x.ak,jC x.iA x.ic x.insts,.pk ((x.ak.drop j).map jB),.pk (x.insts.map fD),.pk ((gd.drop (k+1)).map iy),Nh (some oS) cB gd,.kq 3 rows,.row 43 1 sA (ae (au gd)) sc (jI rows),.aM iK 75 (cg nm wk pa va (some oS) (ae (au gd)) cB gA (ae gs) gc),.row 76 1 gA (ae gs) gc (nh gs),.pk (gs.map gB),.aM Lm 49 (xV x),.aM yM 79 [vS pB (ae pd) jF,vS x.iA (ae x.insts) x.ic,vI x.e,vI x.v,vI x.a,vI x.b,vB false],.row 81 3 pB (ae pd) jF (om pd),.pk (pd.map fm),.pk (pd.map fz)]/\(j<=ae x.ak)/\(pd.map fN.k=(x.ak.take j).map (qw (bO (au gd) (k:Int))))) (n:=_) ⟨0,[],none,0,rfl,fr.kp [3,4,5,7,18,19,20,38,39,40],(((rL.call (Mem.fi _ 81 3)).call (Mem.n8 _)).call (Mem.n8 _)),cI _,rfl⟩ ?_;clear fr aC rL;rintro n aC w36 ⟨j,pd,pB,jF,rfl,fr,xr,hj,zU⟩;revert aC;refine br<|bt<|iY ((j:Int)<(ae x.ak:Int)) (λc40=> ?_) (λc40=> ?_);refine cE<|bt<|df 3<|aV ?_;obtain⟨p,Bx⟩:=aP (l:=x.ak) (i:=j) oM;have nI:ae pd=j:=by have h9:=aK List.length zU;rw[bl,bl,ja]at h9;omega
 obtain⟨sk,hsk⟩:∃l,l=bO (au gd) (k:Int):=⟨_,rfl⟩;obtain⟨kA,kc,SN⟩:=hrw.get (pq (bs:=au gd) (t:=k) oM);rw[<-hsk]at zU SN;have hskl:ae sk<=1000:=by have h9:ae (bO (au gd) (k:Int))<=ae (au gd):=jz _ _ _;rw[<-hsk]at h9;omega
 have wO:=xr.od [15,15,15,15,15,15,15,15,15,15,15,15,15,14,14,15] 16;have I4:=cC [jB p,.pk ((x.ak.drop (j+1)).map jB),Vr x.pA x.pc x.ak,jC x.iA x.ic x.insts,.pk (x.insts.map fD),.pk ((gd.drop (k+1)).map iy),Nh (some oS) cB gd,.kq 3 rows,.row 43 1 sA (ae (au gd)) sc (jI rows),.aM iK 75 (cg nm wk pa va (some oS) (ae (au gd)) cB gA (ae gs) gc),.row 76 1 gA (ae gs) gc (nh gs),.pk (gs.map gB),.aM Lm 49 (xV x),.aM yM 79 [vS pB (ae pd) jF,vS x.iA (ae x.insts) x.ic,vI x.e,vI x.v,vI x.a,vI x.b,vB false],.row 81 3 pB (ae pd) jF (om pd),.pk (pd.map fm),.pk (pd.map fz)] ((wO.cast (by rw[jZ jB Bx])).qu);obtain⟨fq,Qgj⟩:=lK (I4.get 2 rfl) (by have:=pC (f:=cV.cells) (k:=2) qS x.ak;unfold yQ;omega);intro aC fr;refine cZ (some 42) x.pA fq (ae x.ak) 2 (j:Int) fr kR Qgj oM oM<|k8 (aN fq (j:Int) 2) (pV p) (Qci (I4.get 2 rfl) Qgj Bx)<|sV I4 100 [vI 0,ay] λVK w50 Qoq tr=> ?_
 replace tr:=tr.nf;refine sW tr 17 (pV p) rfl λw52 FL=> ?_
 replace FL:=FL.nf;refine aE ?_;obtain⟨Cc,rfl⟩:=qZ (FL.get 8 rfl) oM;refine eW [3,4,5,7,9,18,19,20,38,39,40] ?_;intro aC fr;refine IH (bE [eR yM 0,eR yM 0,eR yM 0,eR yM 0,eS pB (ae pd) jF,eR VK 0,eI p.dst,eS (some Cc) (ae (au gd)) sc,.bd (nV k),eA Cc (k:Int) 1,eS kA (ae sk) kc,Spec.free,eR VK 1,eS p.A (ae p.args) p.c,Spec.free,Spec.free,Spec.free,eR yM 0,eR yM 0,.bd undef]) (λls vs w_=>match ls 19 with|true=>(∃(kY:ar) (kZ:Nat) (VX:Nat) (VY:ar) (P1:Nat),vs 11=(vS kY (ae sk) kZ)/\vs 14=(.agg #[vI p.dst,vS kY (ae sk) kZ,vS p.A (ae p.args) p.c])/\vs 15=(vS (sM VX) 1 1)/\vs 16=(vS VY (ae pd+1) P1)/\Mem bI w w_ [jB p,.pk ((x.ak.drop (j+1)).map jB),Vr x.pA x.pc x.ak,jC x.iA x.ic x.insts,.pk (x.insts.map fD),.pk ((gd.drop (k+1)).map iy),Nh (some oS) cB gd,.kq 3 rows,.row 43 1 (some Cc) (ae (au gd)) sc (jI rows),.aM iK 75 (cg nm wk pa va (some oS) (ae (au gd)) cB gA (ae gs) gc),.row 76 1 gA (ae gs) gc (nh gs),.pk (gs.map gB),.aM Lm 49 (xV x),.aM yM 79 [vS VY (ae pd+1) P1,vS x.iA (ae x.insts) x.ic,vI x.e,vI x.v,vI x.a,vI x.b,vB false],.row 81 3 VY (ae pd+1) P1 ((om pd)++[vI p.dst,vS kY (ae sk) kZ,vS p.A (ae p.args) p.c]),.pk (pd.map fm),.pk (pd.map fz),.aM VK 100 (pV p),.row 3 1 kY (ae sk) kZ (ints sk),.row 81 3 (sM VX) 1 1 [vI p.dst,vS kY (ae sk) kZ,vS p.A (ae p.args) p.c]])|false=>(match ls 16 with|true=>(∃(kY:ar) (kZ:Nat) (VX:Nat) (VY:ar) (P1:Nat),vs 11=(vS kY (ae sk) kZ)/\vs 14=(.agg #[vI p.dst,vS kY (ae sk) kZ,vS p.A (ae p.args) p.c])/\vs 15=(vS (sM VX) 1 1)/\vs 16=(vS VY (ae pd+1) P1)/\Mem bI w w_ [jB p,.pk ((x.ak.drop (j+1)).map jB),Vr x.pA x.pc x.ak,jC x.iA x.ic x.insts,.pk (x.insts.map fD),.pk ((gd.drop (k+1)).map iy),Nh (some oS) cB gd,.kq 3 rows,.row 43 1 (some Cc) (ae (au gd)) sc (jI rows),.aM iK 75 (cg nm wk pa va (some oS) (ae (au gd)) cB gA (ae gs) gc),.row 76 1 gA (ae gs) gc (nh gs),.pk (gs.map gB),.aM Lm 49 (xV x),.aM yM 79 [vS pB (ae pd) jF,vS x.iA (ae x.insts) x.ic,vI x.e,vI x.v,vI x.a,vI x.b,vB false],.row 81 3 VY (ae pd+1) P1 ((om pd)++[vI p.dst,vS kY (ae sk) kZ,vS p.A (ae p.args) p.c]),.pk (pd.map fm),.pk (pd.map fz),.aM VK 100 (pV p),.row 3 1 kY (ae sk) kZ (ints sk),.row 81 3 (sM VX) 1 1 [vI p.dst,vS kY (ae sk) kZ,vS p.A (ae p.args) p.c]])|false=>(match ls 15 with|true=>(∃(kY:ar) (kZ:Nat) (VX:Nat),vs 11=(vS kY (ae sk) kZ)/\vs 14=(.agg #[vI p.dst,vS kY (ae sk) kZ,vS p.A (ae p.args) p.c])/\vs 15=(vS (sM VX) 1 1)/\Mem bI w w_ [jB p,.pk ((x.ak.drop (j+1)).map jB),Vr x.pA x.pc x.ak,jC x.iA x.ic x.insts,.pk (x.insts.map fD),.pk ((gd.drop (k+1)).map iy),Nh (some oS) cB gd,.kq 3 rows,.row 43 1 (some Cc) (ae (au gd)) sc (jI rows),.aM iK 75 (cg nm wk pa va (some oS) (ae (au gd)) cB gA (ae gs) gc),.row 76 1 gA (ae gs) gc (nh gs),.pk (gs.map gB),.aM Lm 49 (xV x),.aM yM 79 [vS pB (ae pd) jF,vS x.iA (ae x.insts) x.ic,vI x.e,vI x.v,vI x.a,vI x.b,vB false],.row 81 3 pB (ae pd) jF (om pd),.pk (pd.map fm),.pk (pd.map fz),.aM VK 100 (pV p),.row 3 1 kY (ae sk) kZ (ints sk),.row 81 3 (sM VX) 1 1 [vI p.dst,vS kY (ae sk) kZ,vS p.A (ae p.args) p.c]])|false=>(match ls 14 with|true=>(∃(kY:ar) (kZ:Nat),vs 11=(vS kY (ae sk) kZ)/\vs 14=(.agg #[vI p.dst,vS kY (ae sk) kZ,vS p.A (ae p.args) p.c])/\Mem bI w w_ [jB p,.pk ((x.ak.drop (j+1)).map jB),Vr x.pA x.pc x.ak,jC x.iA x.ic x.insts,.pk (x.insts.map fD),.pk ((gd.drop (k+1)).map iy),Nh (some oS) cB gd,.kq 3 rows,.row 43 1 (some Cc) (ae (au gd)) sc (jI rows),.aM iK 75 (cg nm wk pa va (some oS) (ae (au gd)) cB gA (ae gs) gc),.row 76 1 gA (ae gs) gc (nh gs),.pk (gs.map gB),.aM Lm 49 (xV x),.aM yM 79 [vS pB (ae pd) jF,vS x.iA (ae x.insts) x.ic,vI x.e,vI x.v,vI x.a,vI x.b,vB false],.row 81 3 pB (ae pd) jF (om pd),.pk (pd.map fm),.pk (pd.map fz),.aM VK 100 (pV p),.row 3 1 kY (ae sk) kZ (ints sk)])|false=>(match ls 11 with|true=>(∃(kY:ar) (kZ:Nat),vs 11=(vS kY (ae sk) kZ)/\Mem bI w w_ [jB p,.pk ((x.ak.drop (j+1)).map jB),Vr x.pA x.pc x.ak,jC x.iA x.ic x.insts,.pk (x.insts.map fD),.pk ((gd.drop (k+1)).map iy),Nh (some oS) cB gd,.kq 3 rows,.row 43 1 (some Cc) (ae (au gd)) sc (jI rows),.aM iK 75 (cg nm wk pa va (some oS) (ae (au gd)) cB gA (ae gs) gc),.row 76 1 gA (ae gs) gc (nh gs),.pk (gs.map gB),.aM Lm 49 (xV x),.aM yM 79 [vS pB (ae pd) jF,vS x.iA (ae x.insts) x.ic,vI x.e,vI x.v,vI x.a,vI x.b,vB false],.row 81 3 pB (ae pd) jF (om pd),.pk (pd.map fm),.pk (pd.map fz),.aM VK 100 (pV p),.row 3 1 kY (ae sk) kZ (ints sk)])|false=>(Mem bI w w_ [jB p,.pk ((x.ak.drop (j+1)).map jB),Vr x.pA x.pc x.ak,jC x.iA x.ic x.insts,.pk (x.insts.map fD),.pk ((gd.drop (k+1)).map iy),Nh (some oS) cB gd,.kq 3 rows,.row 43 1 (some Cc) (ae (au gd)) sc (jI rows),.aM iK 75 (cg nm wk pa va (some oS) (ae (au gd)) cB gA (ae gs) gc),.row 76 1 gA (ae gs) gc (nh gs),.pk (gs.map gB),.aM Lm 49 (xV x),.aM yM 79 [vS pB (ae pd) jF,vS x.iA (ae x.insts) x.ic,vI x.e,vI x.v,vI x.a,vI x.b,vB false],.row 81 3 pB (ae pd) jF (om pd),.pk (pd.map fm),.pk (pd.map fz),.aM VK 100 (pV p)])))))) fr (fU (.bd (.bd (.bd (.bd (.bd (.bd (.bd (.bd (.bd (.bd (.bd (.free (.bd (.bd (.free (.free (.free (.bd (.bd (.bd .nil))))))))))))))))))))) (FL.aw (Mem.drew _)) (s3 (fQ lz bR bR bR bR (pz (aZ yM) (vS pB (ae pd) jF) (λ_ _ _ _ h=>h) ?_) bR (pz (aZ VK) (vI p.dst) (λ_ _ _ _ h=>h) ?_) bR bR (Az Cc (ae (au gd)) 1 (k:Int) λ_ _ _ _ h=>h) (pz (aN Cc (k:Int) 1) (vS kA (ae sk) kc) (λ_ _ _ _ h=>h) ?_) ?_) bR (pz (aq VK 1) (vS p.A (ae p.args) p.c) (λ_ _ _ _ h=>h) ?_) ?_ ?_ ?_ bR bR ?_) ?_;intro w_ ls vs hJ bT bP hp;have f16:=bf 16 20 bP bT;have f19:=bf 19 20 bP bT;have ba:=hJ;simp only[f16,f19]at ba;cases QmK:ls 15;simp only[QmK]at ba;cases ZL:ls 14;simp only[ZL]at ba;cases QmL:ls 11;simp only[QmL]at ba;exact(af (ba.get 13 rfl) rfl);simp only[QmL]at ba;obtain⟨_,_,_,ba⟩:=ba;exact(af (ba.get 13 rfl) rfl);simp only[ZL]at ba;obtain⟨_,_,_,_,ba⟩:=ba;exact(af (ba.get 13 rfl) rfl);simp only[QmK]at ba;obtain⟨_,_,_,_,_,_,ba⟩:=ba;exact(af (ba.get 13 rfl) rfl);intro w_ ls vs hJ bT bP hp;have f14:=bf 14 20 bP bT;have f15:=bf 15 20 bP bT;have f16:=bf 16 20 bP bT;have f19:=bf 19 20 bP bT;have ba:=hJ;simp only[f14,f15,f16,f19]at ba;cases fu:ls 11;simp only[fu]at ba;exact(af (ba.get 17 rfl) rfl);simp only[fu]at ba;obtain⟨_,_,_,ba⟩:=ba;exact(af (ba.get 17 rfl) rfl);intro w_ ls vs hJ bT bP hp;have f11:=bf 11 20 bP bT;have f14:=bf 14 20 bP bT;have f15:=bf 15 20 bP bT;have f16:=bf 16 20 bP bT;have f19:=bf 19 20 bP bT;have ba:=hJ;simp only[f11,f14,f15,f16,f19]at ba;exact(bW (aF (ba.get 8 rfl)) rfl (j7 SN));intro fO w_ ls vs dy hJ bT bP hp hF;refine lX (g0:=none) ?_;replace hF:Fr fO 76 [(54,vS kA (ae sk) kc)]:=hF.kp [54];have f11:ls 11=false:=bT;have f14:=bf 14 20 bP bT;have f15:=bf 15 20 bP bT;have f16:=bf 16 20 bP bT;have f19:=bf 19 20 bP bT;have ba:=hJ;simp only[f11,f14,f15,f16,f19]at ba;refine jQ (kR:aB _ 0=some (some 55,(.call {callee:=(.value (.func 72)),args:=#[.tmp 54],argTypes:=#[43]}),43,none)) hF kR kR (k':=1) rfl (f:=72) (vs:=[vS kA (ae sk) kc]) (cap:=[]) kR kR kR (QeQ sk (ae sk) kA kc w_ rfl oM (RO.of (po (ba.get 7 rfl) SN))) ?_;rintro _ w2 ⟨rE,rF,rfl,fI⟩ a2 ea _;have Fv:=ba.call fI;refine aX kR ?_;refine bB (d:=some 55) kR ea trivial ?_;show match ls 19 with|true=>_|false=>(match ls 16 with|true=>_|false=>(match ls 15 with|true=>_|false=>(match ls 14 with|true=>_|false=>(∃(kY:ar) (kZ:Nat),_))))
 rw[f19,f16,f15,f14];exact⟨rE,rF,rfl,Fv⟩;intro w_ ls vs hJ bT bP hp;have f14:=bf 14 20 bP bT;have f15:=bf 15 20 bP bT;have f16:=bf 16 20 bP bT;have f19:=bf 19 20 bP bT;have ba:=hJ;simp only[f14,f15,f16,f19]at ba;cases fu:ls 11;simp only[fu]at ba;exact(af (ba.get 17 rfl) rfl);simp only[fu]at ba;obtain⟨_,_,_,ba⟩:=ba;exact(af (ba.get 17 rfl) rfl);intro fO w_ ls vs dy hJ bT bP hp hF;refine lX (g0:=none) ?_;replace hF:Fr fO 76 [(50,vI p.dst),(55,vs 11),(57,vS p.A (ae p.args) p.c)]:=hF.kp [50,55,57];have f11:=dH 11 20 bP hp;have f14:ls 14=false:=bT;have f15:=bf 15 20 bP bT;have f16:=bf 16 20 bP bT;have f19:=bf 19 20 bP bT;have ba:=hJ;simp only[f11,f14,f15,f16,f19]at ba;obtain⟨rE,rF,yN,ba⟩:=ba;try rw[yN]at hF
 have fI:=ba;refine ij (kR:aB _ 0=some (some 58,(.build 81 #[(0,.tmp 50),(1,.tmp 55),(2,.tmp 57)]),81,none)) hF kR kR (k':=1) rfl (v:=(.agg #[vI p.dst,vS rE (ae sk) rF,vS p.A (ae p.args) p.c])) kR ?_;intro a2 ea _;refine aX kR ?_;refine bB (d:=some 58) kR ea trivial ?_;show match ls 19 with|true=>_|false=>(match ls 16 with|true=>_|false=>(match ls 15 with|true=>_|false=>(∃(kY:ar) (kZ:Nat),_)))
 rw[f19,f16,f15];exact⟨rE,rF,yN,rfl,fI⟩;intro fO w_ ls vs dy hJ bT bP hp hF;refine lX (g0:=none) ?_;replace hF:Fr fO 76 [(58,vs 14)]:=hF.kp [58];have f11:=dH 11 20 bP hp;have f14:=dH 14 20 bP hp;have f15:ls 15=false:=bT;have f16:=bf 16 20 bP bT;have f19:=bf 19 20 bP bT;have ba:=hJ;simp only[f11,f14,f15,f16,f19]at ba;obtain⟨rE,rF,yN,uD,ba⟩:=ba;try rw[yN]at hF
 try rw[uD]at hF
 refine qp 59 77 1 #[(0,.tmp 58)] 77 hF (e:=81) (size:=3) (zs:=[vI 0,ay,ay]) (vs:=[(0,(.agg #[vI p.dst,vS rE (ae sk) rF,vS p.A (ae p.args) p.c]))]) (cs:=[vI p.dst,vS rE (ae sk) rF,vS p.A (ae p.args) p.c]) ba ?_;intro Vc w2 _ _ fI _ a2 ea _;refine aX kR ?_;refine bB (d:=some 59) kR ea trivial ?_;show match ls 19 with|true=>_|false=>(match ls 16 with|true=>_|false=>(∃(kY:ar) (kZ:Nat) (VX:Nat),_))
 rw[f19,f16];exact⟨rE,rF,Vc,yN,uD,rfl,fI⟩;intro fO w_ ls vs dy hJ bT bP hp hF;refine lX (g0:=none) ?_;replace hF:Fr fO 76 [(48,vS pB (ae pd) jF),(59,vs 15)]:=hF.kp [48,59];have f11:=dH 11 20 bP hp;have f14:=dH 14 20 bP hp;have f15:=dH 15 20 bP hp;have f16:ls 16=false:=bT;have f19:=bf 19 20 bP bT;have ba:=hJ;simp only[f11,f14,f15,f16,f19]at ba;obtain⟨rE,rF,Vc,yN,uD,MZ,ba⟩:=ba;try rw[yN]at hF
 try rw[uD]at hF
 try rw[MZ]at hF
 refine yP 60 (.tmp 48) (.tmp 59) 77 77 hF (e:=81) (size:=3) (bytes:=56) (z:=(.agg #[vI 0,ay,ay])) (A:=pB) (B:=(sM Vc)) (n:=ae pd) (cap:=jF) (m:=1) (cap':=1) (xs:=(om pd)) (news:=[vI p.dst,vS rE (ae sk) rF,vS p.A (ae p.args) p.c]) ba 14 rfl (aF (ba.get 19 rfl)) rfl (by simp[Value.oneCell']) oM (by simp only[maxLen];omega) ?_;intro Qe0 Qe1 w2 fI _ a2 ea _;refine aX kR ?_;refine bB (d:=some 60) kR ea trivial ?_;show match ls 19 with|true=>_|false=>(∃(kY:ar) (kZ:Nat) (VX:Nat) (VY:ar) (P1:Nat),_)
 rw[f19];exact⟨rE,rF,Vc,Qe0,Qe1,yN,uD,MZ,rfl,fI⟩;intro fO w_ ls vs dy hJ bT bP hp hF;refine lX (g0:=none) ?_;replace hF:Fr fO 76 [(60,vs 16),(62,pT yM 0)]:=hF.kp [60,62];have f11:=dH 11 20 bP hp;have f14:=dH 14 20 bP hp;have f15:=dH 15 20 bP hp;have f16:=dH 16 20 bP hp;have f19:ls 19=false:=bT;have ba:=hJ;simp only[f11,f14,f15,f16,f19]at ba;obtain⟨rE,rF,Vc,Qe0,Qe1,yN,uD,MZ,Qbe,ba⟩:=ba;try rw[yN]at hF
 try rw[uD]at hF
 try rw[MZ]at hF
 try rw[Qbe]at hF
 refine iO (kR:aB _ 0=some (none,.store 77 (.tmp 62) (.tmp 60),0,none)) hF kR kR (k':=1) rfl (b:=yM) (off:=0) (t0:=79) (v:=(vS Qe0 (ae pd+1) Qe1)) (cs:=[vS pB (ae pd) jF,vS x.iA (ae x.insts) x.ic,vI x.e,vI x.v,vI x.a,vI x.b,vB false]) kR kR kR rfl ba 13 rfl sI ?_;intro w2 fI _ a2 ea _;refine aX kR ?_;refine bB (d:=none) kR ea rfl ?_;show∃(kY:ar) (kZ:Nat) (VX:Nat) (VY:ar) (P1:Nat),_;exact⟨rE,rF,Vc,Qe0,Qe1,yN,uD,MZ,Qbe,fI⟩;intro aC w64 ls vs cY Nj hv fr;simp only[show ls 19=true from cY 19 dQ]at Nj;revert aC;refine cT [(3,vS (some Cc) (ae (au gd)) sc),(4,pT iK 0),(5,nV k),(7,pT yM 0),(18,vS (some oS) (ae (au gd)) cB),(19,(vI (ae (au gd):Int))),(20,nV k),(38,vS x.pA (ae x.ak) x.pc),(39,(vI (ae x.ak:Int))),(40,nV j)] ?_;obtain⟨kY,kZ,VX,VY,P1,yN,uD,MZ,Qbe,Nj⟩:=Nj;try rw[yN]
 try rw[uD]
 try rw[MZ]
 try rw[Qbe]
 clear yN uD MZ Qbe;clear cY hv fr aC FL;clear vs ls;refine dR<|eX ((j:Int)+1)<|an 1<|aE ?_;have M66:=Nj.od [14,14,14,14,14,14,14,14,14,14,14,12,14,14,14,16,18,17] 18;have zy:=cC [.pk (pd.map fm),fm (⟨p.dst,kY,kZ,sk,p.A,p.c,p.args⟩:fN),.pk (pd.map fz),fz (⟨p.dst,kY,kZ,sk,p.A,p.c,p.args⟩:fN),Vr x.pA x.pc x.ak,jC x.iA x.ic x.insts,.pk ((x.ak.drop (j+1)).map jB),.pk (x.insts.map fD),.pk ((gd.drop (k+1)).map iy),Nh (some oS) cB gd,.kq 3 rows,.row 43 1 (some Cc) (ae (au gd)) sc (jI rows),.aM iK 75 (cg nm wk pa va (some oS) (ae (au gd)) cB gA (ae gs) gc),.row 76 1 gA (ae gs) gc (nh gs),.pk (gs.map gB),.aM Lm 49 (xV x),.aM yM 79 [vS VY (ae pd+1) P1,vS x.iA (ae x.insts) x.ic,vI x.e,vI x.v,vI x.a,vI x.b,vB false],.row 81 3 VY (ae pd+1) P1 ((om pd)++[vI p.dst,vS kY (ae sk) kZ,vS p.A (ae p.args) p.c])] (M66);have OK:=cC [.pk (pd.map fm++[fm (⟨p.dst,kY,kZ,sk,p.A,p.c,p.args⟩:fN)]),.pk (pd.map fz),fz (⟨p.dst,kY,kZ,sk,p.A,p.c,p.args⟩:fN),Vr x.pA x.pc x.ak,jC x.iA x.ic x.insts,.pk ((x.ak.drop (j+1)).map jB),.pk (x.insts.map fD),.pk ((gd.drop (k+1)).map iy),Nh (some oS) cB gd,.kq 3 rows,.row 43 1 (some Cc) (ae (au gd)) sc (jI rows),.aM iK 75 (cg nm wk pa va (some oS) (ae (au gd)) cB gA (ae gs) gc),.row 76 1 gA (ae gs) gc (nh gs),.pk (gs.map gB),.aM Lm 49 (xV x),.aM yM 79 [vS VY (ae pd+1) P1,vS x.iA (ae x.insts) x.ic,vI x.e,vI x.v,vI x.a,vI x.b,vB false],.row 81 3 VY (ae pd+1) P1 ((om pd)++[vI p.dst,vS kY (ae sk) kZ,vS p.A (ae p.args) p.c])] (zy.ib);have J2:=OK.od [16,16,16,16,16,16,16,16,16,16,16,16,16,16,14,16,16] 17;have Xv:=cC [.pk (pd.map fz++[fz (⟨p.dst,kY,kZ,sk,p.A,p.c,p.args⟩:fN)]),.pk (pd.map fm++[fm (⟨p.dst,kY,kZ,sk,p.A,p.c,p.args⟩:fN)]),Vr x.pA x.pc x.ak,jC x.iA x.ic x.insts,.pk ((x.ak.drop (j+1)).map jB),.pk (x.insts.map fD),.pk ((gd.drop (k+1)).map iy),Nh (some oS) cB gd,.kq 3 rows,.row 43 1 (some Cc) (ae (au gd)) sc (jI rows),.aM iK 75 (cg nm wk pa va (some oS) (ae (au gd)) cB gA (ae gs) gc),.row 76 1 gA (ae gs) gc (nh gs),.pk (gs.map gB),.aM Lm 49 (xV x),.aM yM 79 [vS VY (ae pd+1) P1,vS x.iA (ae x.insts) x.ic,vI x.e,vI x.v,vI x.a,vI x.b,vB false],.row 81 3 VY (ae pd+1) P1 ((om pd)++[vI p.dst,vS kY (ae sk) kZ,vS p.A (ae p.args) p.c])] (J2.ib);have zS:=Xv.od [0,1,15,15,15,15,15,15,15,15,15,15,15,15,15,15] 16;have CV:=cC [Vr x.pA x.pc x.ak,jC x.iA x.ic x.insts,.pk ((x.ak.drop (j+1)).map jB),.pk (x.insts.map fD),.pk ((gd.drop (k+1)).map iy),Nh (some oS) cB gd,.kq 3 rows,.row 43 1 (some Cc) (ae (au gd)) sc (jI rows),.aM iK 75 (cg nm wk pa va (some oS) (ae (au gd)) cB gA (ae gs) gc),.row 76 1 gA (ae gs) gc (nh gs),.pk (gs.map gB),.aM Lm 49 (xV x),.aM yM 79 [(vS VY (ae (pd++[(⟨p.dst,kY,kZ,sk,p.A,p.c,p.args⟩:fN)])) P1),vS x.iA (ae x.insts) x.ic,vI x.e,vI x.v,vI x.a,vI x.b,vB false],.row 81 3 VY (ae (pd++[(⟨p.dst,kY,kZ,sk,p.A,p.c,p.args⟩:fN)])) P1 (om (pd++[(⟨p.dst,kY,kZ,sk,p.A,p.c,p.args⟩:fN)])),.pk ((pd++[(⟨p.dst,kY,kZ,sk,p.A,p.c,p.args⟩:fN)]).map fm),.pk ((pd++[(⟨p.dst,kY,kZ,sk,p.A,p.c,p.args⟩:fN)]).map fz)] (zS.cast (by simp only[iw,Xf,ix];rfl));intro aC fr;exact⟨ae x.ak-(j+1),oM,j+1,pd++[(⟨p.dst,kY,kZ,sk,p.A,p.c,p.args⟩:fN)],VY,P1,rfl,fr.kp [3,4,5,7,18,19,20,38,39,40],CV,oM,by rw[<-hsk];exact Ot zU Bx rfl⟩;refine gZ 2<|ia<|dR ?_;rw[cL (show ae x.ak<=j by omega)]at zU;have Hw:=xr.od [11,11,11,11,11,11,11,11,10,9,11,15,15,13,15,15] 16;have tq:=cC [gB (⟨yM,pB,jF,pd,x.iA,x.ic,x.insts,x.e,x.v,x.a,x.b,false⟩:aY),Vr x.pA x.pc x.ak,.pk ((x.ak.drop j).map jB),.pk ((gd.drop (k+1)).map iy),Nh (some oS) cB gd,.kq 3 rows,.row 43 1 sA (ae (au gd)) sc (jI rows),.aM iK 75 (cg nm wk pa va (some oS) (ae (au gd)) cB gA (ae gs) gc),.row 76 1 gA (ae gs) gc (nh gs),.pk (gs.map gB),.aM Lm 49 (xV x)] (Mem.pack (l:=gL (⟨yM,pB,jF,pd,x.iA,x.ic,x.insts,x.e,x.v,x.a,x.b,false⟩:aY)) Hw);have Ud:=tq.od [10,9,9,9,9,9,9,9,9,9,10] 11;have M78:=cC [.pk (gs.map gB++[gB (⟨yM,pB,jF,pd,x.iA,x.ic,x.insts,x.e,x.v,x.a,x.b,false⟩:aY)]),Vr x.pA x.pc x.ak,.pk ((x.ak.drop j).map jB),.pk ((gd.drop (k+1)).map iy),Nh (some oS) cB gd,.kq 3 rows,.row 43 1 sA (ae (au gd)) sc (jI rows),.aM iK 75 (cg nm wk pa va (some oS) (ae (au gd)) cB gA (ae gs) gc),.row 76 1 gA (ae gs) gc (nh gs),.aM Lm 49 (xV x)] (Ud.ib);refine an 4<|bH (aq iK 5) _ (af (M78.get 7 rfl) rfl)<|an 1 ?_;intro aC fr;refine qp 70 73 1 #[(0,.tmp 69)] 73 fr (e:=76) (size:=1) (zs:=[ta]) (vs:=[(0,pT yM 0)]) (cs:=[pT yM 0]) M78 ?_;intro b79 w80 QpW _ PX _ aC ea fr;clear ea;replace PX:=PX.nf;refine yP 71 (.tmp 68) (.tmp 70) 73 73 fr (e:=76) (size:=1) (bytes:=8) (z:=ta) (A:=gA) (B:=(sM b79)) (n:=ae gs) (cap:=gc) (m:=1) (cap':=1) (xs:=(nh gs)) (news:=[pT yM 0]) PX 8 rfl (aF (PX.get 10 rfl)) rfl (by simp[Value.oneCell']) oM (by simp only[maxLen];omega) ?_;intro A86 c87 w88 QY _ aC ea fr;clear ea;replace QY:=QY.nf;have PE:=QY.od [9,9,9,9,9,9,9,9,9,9] 10;revert aC;refine an 2<|sf (ho:=sI) PE 7 5 (vS A86 (ae gs+1) c87) rfl λw93 OO=> ?_
 replace OO:=OO.nf;refine aE<|dR<|eX ((k:Int)+1)<|an 1<|aE ?_;have Px:=OO.od [0,8,8,8,8,7,8] 7;have M96:=cC [Nh (some oS) cB gd,.pk ((gd.drop (k+1)).map iy),.kq 3 rows,.row 43 1 sA (ae (au gd)) sc (jI rows),.aM iK 75 [vT nm,vB wk,vI pa,vI va,vS (some oS) (ae (au gd)) cB,(vS A86 (ae (gs++[(⟨yM,pB,jF,pd,x.iA,x.ic,x.insts,x.e,x.v,x.a,x.b,false⟩:aY)])) c87)],.row 76 1 A86 (ae (gs++[(⟨yM,pB,jF,pd,x.iA,x.ic,x.insts,x.e,x.v,x.a,x.b,false⟩:aY)])) c87 (nh (gs++[(⟨yM,pB,jF,pd,x.iA,x.ic,x.insts,x.e,x.v,x.a,x.b,false⟩:aY)])),.pk ((gs++[(⟨yM,pB,jF,pd,x.iA,x.ic,x.insts,x.e,x.v,x.a,x.b,false⟩:aY)]).map gB)] (Px.cast (by simp only[iw,nh,ix]));intro aC fr;exact⟨ae gd-(k+1),oM,k+1,gs++[(⟨yM,pB,jF,pd,x.iA,x.ic,x.insts,x.e,x.v,x.a,x.b,false⟩:aY)],A86,c87,rfl,fr.kp [3,4,18,19,20],M96,oM,Oq Jb hx (by simp only[aY.k,x8];rw[zU])⟩;refine gZ 0<|ia<|br<|cv<|dq (pT iK 0) ?_;have PU:=kV.od [6,6,6] 3;rw[cL (by rw[jh];omega),AB hgd]at Jb;exact⟨iK,B,_,cB,gA,gc,gs,rfl,Jb,PU⟩
set_option maxHeartbeats 4000000 in
theorem Qjm(nm:bo)(wk:Bool)(pa va:Int)(A:ar)(c:Nat)(fs:List aG)(w:World)(hN:fs.length<=1000)(kC:rH fs)(hA:RO bI w (.fn A fs)):Calls Tryz.prog 26 #[fA nm wk pa va A c fs] w (gp λv w'=>(cS nm pa va fs≠0/\v= .tuple #[(.agg #[vT ⟨#[]⟩,vB false,vI 0,vI 0,ay]),vI (cS nm pa va fs)]/\Mem bI w w' [])\/(cS nm pa va fs=0/\∃B cB fd,v= .tuple #[fA nm wk pa va B cB fd,vI 0]/\fY fd (rB va fs)/\Mem bI w w' (Oo B cB fd))):=by
 have Fe:=bM fs;have hm:(au fs).length<=1000000:=oM;have hB:=hA.bs;refine iI 28 [fA nm wk pa va A c fs] Tryz.func26 ?_;have hM:=Mem.init w;refine aV<|sU hM 30 (fA nm wk pa va A c fs) (fV nm wk pa va A c fs) λb1 w2 mS M3=> ?_
 replace M3:=M3.nf;clear hM;refine sV M3 30 fa λb4 w5 XE M6=> ?_
 replace M6:=M6.nf;refine an 1<|aE<|bt<|aV<|k8 (aZ b1) (fV nm wk pa va A c fs) (bw (M6.get 0 rfl))<|eV (vs:=#[fA nm wk pa va A c fs]) (Qei _ _ _ _ A c fs w5 hN kC (hA.at_ M6)) ?_;rintro _ w7 ⟨rfl,M8x⟩;have M8:=M6.cl M8x;refine an 1<|aE<|br<|fZ (((cS nm pa va fs):Int) !=0) (((cS nm pa va fs):Int)≠0) (by simp only[cQ]) (λc9=> ?_) (λc9=> ?_);refine aV<|an 2 ?_;intro aC fr;refine lW (kR:aB _ 2=some (none,.store 30 (.tmp 2) (.tmp 11),0,none)) fr kR kR (k':=3) rfl (b:=b4) (t0:=30) (vs:=fa) (cs:=fa) kR kR kR (by simp only[cG,jt,fH];intro v hv;rcases hv with rfl|rfl|rfl|rfl|rfl<;>first|rfl|assumption) M8 1 rfl rfl ?_;intro w10 sx _ aC ea fr;clear ea;replace sx:=sx.nf;revert aC;refine an 1<|aE<|cv<|Qcc (aZ b4) 30 fa (vI (cS nm pa va fs)) (bw (sx.get 1 rfl)) ?_;have zz:=sx.od [] 0;exact .inl ⟨c9,rfl,zz⟩;have IL:cS nm pa va fs=0:=fy.1 c9;obtain⟨Qgk,hvl,hszl⟩:=kh IL;have Oz:=QS IL hN;have Ft:=Qgk.par;obtain⟨n,kr⟩:=lk (show 0<=va by omega);refine cE<|aV<|k8 (aZ b1) (fV nm wk pa va A c fs) (bw (M8.get 0 rfl))<|eV (Qjl nm wk pa va A c fs w7 oM Oz (hA.at_ M8)) ?_;rintro _ w17 ⟨q,bA,bn,bc,gA,gc,gs,rfl,Jb,Zw⟩;have mZ:=M8.cl Zw;have hgl:gs.length=fs.length:=by have h9:=aK List.length Jb;rwa [bl,jh]at h9
 have J9:=Xm IL hN kr Jb;have QpY:eU nm pa va (gs.map aY.f):=se (Xj Jb) Qgk;refine an 1<|aE<|aV ?_;have Qe2:=zY.start (n:=n) IL Jb kr;refine an 2<|eV (Qa1 q nm wk pa va bA bn bc gA gc gs n w17 oM kr oM (λx hx=>(HE Qe2.size hx).2) (QaU Qe2.zL) (QaV kr Qe2.zL) (RO.of (mZ.get 2 rfl)) (RO.of (mZ.get 3 rfl)) (RO.of (mZ.get 4 rfl))) ?_;rintro _ w19 ⟨KA,kc,rfl,FJ⟩;have vp:=mZ.cl FJ;refine eW [2,5,15,17]<|an 1<|sU vp 95 (.agg #[pT q 0,vS KA n kc]) [pT q 0,vS KA n kc] λb21 w22 hb21 oZ=> ?_
 replace oZ:=oZ.nf;refine an 1<|aE<|bt<|df 0 ?_;have oC:=oZ.od [1,1,4,4,4,5,6] 7;intro aC fr;refine iJ (λn_ a_ w_=>∃(z7:List aY) (knn:KN),n_=wM (z7.map aY.k)/\Fr a_ 28 [(2,pT b4 0),(5,pT q 0),(6,pT b21 0)]/\Mem bI w w_ [.aM b21 95 [pT q 0,vS KA n kc],.row 115 2 KA n kc (lO knn),.aM q 75 (cg nm wk pa va bA bn bc gA z7.length gc),jH gA gc z7,.pk (z7.map gB),.aM b1 30 (fV nm wk pa va A c fs),.aM b4 30 fa]/\(zY nm pa va n fs z7 knn)/\(z7.length=gs.length)) (n:=_) ⟨gs,(kk (gs.map aY.k) n),rfl,fr.kp [2,5,6],oC,Qe2,rfl⟩ ?_;clear fr aC oC;rintro n aC w27 ⟨z7,knn,rfl,fr,ue,hlp,Ss⟩;revert aC;refine bt<|aV<|an 1<|eV (Qe b21 KA kc n knn q nm wk pa va bA bn bc gA gc z7 w27 oM hlp.len (U0 kr hlp.zL hlp.size) (Mem.dd (l:=[.aM b21 95 [pT q 0,vS KA n kc],.row 115 2 KA n kc (lO knn),.aM q 75 (cg nm wk pa va bA bn bc gA z7.length gc),jH gA gc z7,.pk (z7.map gB)]) (L:=[.aM b1 30 (fV nm wk pa va A c fs),.aM b4 30 fa]) ue)) ?_;rintro _ w31 ⟨BZ,eN,tb2,hp2,hg2,rfl,Ug⟩;have sZ:=cC [.aM b21 95 [pT q 0,vS KA n kc],.row 115 2 KA n kc (lO eN),.aM q 75 (cg nm wk pa va bA bn bc gA BZ.length gc),jH gA gc BZ,.pk (BZ.map gB),.aM b1 30 (fV nm wk pa va A c fs),.aM b4 30 fa] (ue.uX Ug);have Bx:=hlp.pass hp2;have Aq:BZ.length=z7.length:=by have h9:=aK List.length hg2;simpa using h9
 refine an 1 ?_;obtain⟨B33,Qjn⟩:∃B:Bool,B=tb2:=⟨_,rfl⟩;refine cT [(2,pT b4 0),(5,pT q 0),(6,pT b21 0),(22,vB tb2)] ?_;rw[<-Qjn];have QmM:B33=true↔(tb2=true):=by rw[Qjn]
 clear Qjn;intro aC fr;refine dx 1 4 [23] fr (news:=[(23,cond (!B33) (pT q 0) undef)]) (by cases B33<;>kernel_rfl) ?_;intro aC fr;cases B33;have J3:tb2=false:=dj.2 ((mD QmM.2));have vF:=sZ.od [6,6,3,3,6,6,6] 7;revert aC;refine eV (QeJ q nm wk pa va bA bn bc gA gc BZ w31 oM Bx.1.zx (HF Bx.1 Bx.2.1 oM) (Mem.dd (l:=[.aM q 75 (cg nm wk pa va bA bn bc gA BZ.length gc),jH gA gc BZ,.pk (BZ.map gB)]) (L:=[.aM b21 95 [pT q 0,vS KA n kc],.row 115 2 KA n kc (lO eN),.aM b1 30 (fV nm wk pa va A c fs),.aM b4 30 fa]) vF)) ?_;rintro _ w39 ⟨Qa,hk3,hg3,rfl,Qjo⟩;have vH:=cC [.aM q 75 (cg nm wk pa va bA bn bc gA Qa.length gc),jH gA gc Qa,.pk (Qa.map gB),.aM b21 95 [pT q 0,vS KA n kc],.row 115 2 KA n kc (lO eN),.aM b1 30 (fV nm wk pa va A c fs),.aM b4 30 fa] (vF.uX Qjo);have Lo:=hlp.prune hp2 J3 hk3;have hl3:Qa.length=BZ.length:=by have h9:=aK List.length hg3;simpa using h9
 refine an 1<|aE<|fZ (kH (BZ.map aY.k)) ((kH (BZ.map aY.k))=true) ju (λc41=> ?_) (λc41=> ?_);refine cE<|df 1<|cE ?_;have I4:=vH.od [6,6,4,4,4,6,6] 7;intro aC fr;exact⟨wM (Qa.map aY.k),(Lo.1 c41).2,Qa,eN,rfl,fr.kp [2,5,6],I4,(Lo.1 c41).1,hl3.trans (Aq.trans Ss)⟩;replace c41:(kH (BZ.map aY.k))=false:=dj.2 c41;refine gZ 0<|ia<|aV ?_;obtain⟨hke,hgk,Nr,QpZ⟩:=Lo.2 (by simpa using c41);have xt:=vH.od [6,6,6,6,6,6,6] 7;refine an 1<|eV (QpU q nm wk pa va bA bn bc gA gc Qa w39 oM (QaW hgk Nr QpZ oM) (Mem.dd (l:=[.aM q 75 (cg nm wk pa va bA bn bc gA Qa.length gc),jH gA gc Qa,.pk (Qa.map gB)]) (L:=[.aM b21 95 [pT q 0,vS KA n kc],.row 115 2 KA n kc (lO eN),.aM b1 30 (fV nm wk pa va A c fs),.aM b4 30 fa]) xt)) ?_;rintro _ w46 ⟨B,cB,fd,rfl,hto,OL⟩;have CF:=cC [Nh B cB fd,.pk (fd.map iy),.aM b21 95 [pT q 0,vS KA n kc],.row 115 2 KA n kc (lO eN),.aM b1 30 (fV nm wk pa va A c fs),.aM b4 30 fa] (xt.uX OL);refine sW CF 5 (fw nm wk pa va B ((au fd).length) cB) rfl λw48 tf=> ?_
 replace tf:=tf.nf;refine an 1<|aE<|cv<|Qcc (aZ b4) 30 (fw nm wk pa va B ((au fd).length) cB) (vI 0) (bw (tf.get 5 rfl)) ?_;have CG:=tf.od [1,1] 2;exact .inr ⟨IL,B,cB,fd,rfl,QaT hke hgk Nr hto,CG⟩;have J3:(tb2=true):=QmM.1 rfl;revert aC;refine an 2<|aE<|jc<|cE<|df 1<|cE ?_;have tr:=sZ.od [6,6,6,6,6,6,6] 7;intro aC fr;exact⟨wM (BZ.map aY.k),(Bx.2.2.1 J3).2,BZ,eN,rfl,fr.kp [2,5,6],tr,(Bx.2.2.1 J3).1,Aq.trans Ss⟩
theorem Sb(e:Int)(w:World):Calls Tryz.prog 27 #[vI e] w (gp λv w'=>v=vI e/\Mem bI w w' []):=by
 refine iI 4 [vI e] Tryz.func27 ?_;have hM:=Mem.init w;refine br<|br<|cv<|dq (vI e) ?_;exact⟨rfl,hM⟩
theorem Vd(nm:bo)(wk:Bool)(pa va:Int)(A:ar)(c:Nat)(fs:List aG)(w:World)(kC:rH fs)(hA:RO bI w (.fn A fs)):Calls Tryz.prog 25 #[fA nm wk pa va A c fs] w (gp λv w'=>v=vB (decide (lB va fs))/\Mem bI w w' []):=by
 have Fe:=bM fs;have hB:=hA.bs;refine iI 10 [fA nm wk pa va A c fs] Tryz.func25 ?_;have hM:=Mem.init w;refine aV<|sU hM 30 (fA nm wk pa va A c fs) (fV nm wk pa va A c fs) λb1 w2 mS M3=> ?_
 replace M3:=M3.nf;clear hM;refine an 1<|aE<|aV<|k8 (aZ b1) (fV nm wk pa va A c fs) (bw (M3.get 0 rfl))<|eV (Ho nm wk pa va A c fs w2 kC (hA.at_ M3)) ?_;rintro _ w4 ⟨rfl,OS⟩;have M5:=M3.cl OS;refine an 1 ?_;obtain⟨B6,D5⟩:∃B:Bool,B=decide (jA va fs):=⟨_,rfl⟩;refine cT [(1,pT b1 0),(5,vB (decide (jA va fs)))] ?_;rw[<-D5];have Nn:B6=true↔(jA va fs):=by rw[D5];simp only[aU]
 clear D5;cases B6;have c6:¬(jA va fs):=mD Nn.2;refine k8 (aZ b1) (fV nm wk pa va A c fs) (bw (M5.get 0 rfl))<|eV (vs:=#[fA nm wk pa va A c fs]) (Q0 _ _ _ _ A c fs w4 (iz (wj (by assumption)) dQ) kC (hA.at_ M5)) ?_;rintro _ w7 ⟨rfl,M8x⟩;have M8:=M5.cl M8x;refine an 3<|aE<|cv<|dq (vB (decide ((((de fs:Nat):Int):Int)>1500))) ?_;have hR:decide ((((de fs:Nat):Int):Int)>1500)=true↔((((de fs:Nat):Int):Int)>1500):=by simp only[aU]
 have M9:=M8.od [] 0;exact⟨bx hR (by first|(have h1:jA va fs:=‹_›;exact⟨λ_=> .inl h1,λ_=>trivial⟩)|(have h1:¬jA va fs:=‹_›;unfold lB;simp only[h1,j9];omega)),M9⟩;have c6:(jA va fs):=Nn.1 rfl;refine an 5<|aE<|cv<|dq (vB true) ?_;have hR:true=true↔True:=sI;have lM:=M5.od [] 0;exact⟨bx hR (by first|(have h1:jA va fs:=‹_›;exact⟨λ_=> .inl h1,λ_=>trivial⟩)|(have h1:¬jA va fs:=‹_›;unfold lB;simp only[h1,j9];omega)),lM⟩
theorem Sc(nm:bo)(wk:Bool)(pa va:Int)(A:ar)(c:Nat)(fs:List aG)(w:World)(hN:ae fs<=1000)(kC:rH fs)(hA:RO bI w (.fn A fs))(hv:cS nm pa va fs=0):Calls Tryz.prog 26 #[fA nm wk pa va A c fs] w (gp λv w'=>∃B cB fd,v= .tuple #[fA nm wk pa va B cB fd,vI 0]/\fY fd (rB va fs)/\Mem bI w w' (Oo B cB fd)):=(Qjm nm wk pa va A c fs w hN kC hA).mono λ_ _ ⟨v,he,h⟩=>⟨v,he,h.elim (λh=>absurd hv h.1) (λh=>h.2)⟩
theorem Ve(nm:bo)(wk:Bool)(pa va:Int)(A:ar)(c:Nat)(fs:List aG)(v0:Int)(w:World)(hN:fs.length<=1000)(kC:rH fs)(hA:RO bI w (.fn A fs)):Calls Tryz.prog 55 #[fA nm wk pa va A c fs,vI v0] w (gp λv w'=>v= .tuple #[(.agg #[vI ((Kd fs v0).op),vI ((Kd fs v0).dst),vI ((Kd fs v0).n),vT ((Kd fs v0).name),vS ((Kd fs v0).A) ((Kd fs v0).args.length) ((Kd fs v0).c)]),.bool (mkB fs v0)]/\Mem bI w w' []):=by
 have Fe:=bM fs;have hm:(au fs).length<=1000000:=oM;have hB:=hA.bs;refine iI 52 [fA nm wk pa va A c fs,vI v0] Tryz.func55 ?_;have hM:=Mem.init w;refine aV<|sU hM 30 (fA nm wk pa va A c fs) (fV nm wk pa va A c fs) λb1 w2 mS M3=> ?_
 replace M3:=M3.nf;clear hM;refine sV M3 45 [vI 0,vI 0,vI 0,vT ⟨#[]⟩,ay] λb4 w5 XE M6=> ?_
 replace M6:=M6.nf;refine an 1<|aE<|bt<|br<|df 0 ?_;intro aC fr;refine iJ (λn_ a_ w_=>∃(k:Nat),n_=fs.length-k/\Fr a_ 52 [(1,vI v0),(2,pT b1 0),(4,pT b4 0),(6,nV k)]/\Mem bI w w_ [.aM b1 30 (fV nm wk pa va A c fs),.aM b4 45 [vI 0,vI 0,vI 0,vT ⟨#[]⟩,ay]]/\(k<=fs.length)/\(∀(a:Nat) (y:aG),a<k->fs[a]?=some y->∀i,i∈y.insts->¬(i.dst=v0/\0<=v0))) (n:=_) ⟨0,rfl,fr.kp [1,2,4,6],M6,cI _,λ_ _ h_=>absurd h_ (eL _)⟩ ?_;clear fr aC M6;rintro n aC w9 ⟨k,rfl,fr,lM,hk,E9⟩;revert aC;refine bt<|aV<|an 2<|bH (aq b1 4) _ (af (lM.get 0 rfl) rfl)<|an 2<|aE<|iY ((k:Int)<((au fs).length:Int)) (λc13=> ?_) (λc13=> ?_);refine cE<|bt<|df 1<|aV ?_;obtain⟨x,hx⟩:=aP (l:=fs) (i:=k) oM;have sm:=aI hx;have hxo:=kC x sm;have Aq:x.insts.length<=281474976710656:=hxo.li;refine an 1<|aE<|df 2 ?_;intro aC fr;refine iJ (λn_ a_ w_=>∃(m:Nat),n_=x.insts.length-m/\Fr a_ 52 [(1,vI v0),(2,pT b1 0),(4,pT b4 0),(6,nV k),(7,nV m)]/\Mem bI w w_ [.aM b1 30 (fV nm wk pa va A c fs),.aM b4 45 [vI 0,vI 0,vI 0,vT ⟨#[]⟩,ay]]/\(m<=x.insts.length)/\(∀(a:Nat) (i:aQ),a<m->x.insts[a]?=some i->¬(i.dst=v0/\0<=v0))) (n:=_) ⟨0,rfl,fr.kp [1,2,4,6,7],lM,cI _,λ_ _ h_=>absurd h_ (eL _)⟩ ?_;clear fr aC lM;rintro n aC Tj ⟨m,rfl,fr,kV,hm,Sk⟩;revert aC;refine bt<|aV<|an 2<|bH (aq b1 4) _ (af (kV.get 0 rfl) rfl)<|an 1 ?_;obtain⟨Vf,rfl⟩:=fF (kV.ro hB) (gS hx);refine ga Vf ((au fs).length) 6 (k:Int)<|an 1<|bH ((aN Vf (k:Int) 6).add 1) _ (eD (kV.ro hB) rfl hx 1 _ rfl)<|an 2<|aE<|iY ((m:Int)<(x.insts.length:Int)) (λFh=> ?_) (λFh=> ?_);refine cE<|bt<|df 3<|aV ?_;obtain⟨i,ux⟩:=aP (l:=x.insts) (i:=m) oM;have Ng:=aI ux;refine an 1<|bH (aq b1 4) _ (af (kV.get 0 rfl) rfl)<|an 1<|ga Vf ((au fs).length) 6 (k:Int)<|an 1<|bH ((aN Vf (k:Int) 6).add 1) _ (eD (kV.ro hB) rfl hx 1 _ rfl)<|eW [1,2,4,6,7,31]<|an 1 ?_;obtain⟨gy,Mt⟩:=cU (kV.ro (hA.insts hx)) (i:=m) (by show(x.insts.map aQ.cells)[m]?=_;rw[aL,ux];rfl);intro aC fr;refine cZ (some 33) x.iA gy x.insts.length 5 (m:Int) fr kR Mt oM oM<|an 1<|bH ((aN gy (m:Int) 5).add 1) _ (bS (cs:=i.cells) (kV.ro (hA.insts hx)) Mt (by show(x.insts.map aQ.cells)[m]?=_;rw[aL,ux];rfl) 1 _ rfl) ?_;refine an 3 ?_;obtain⟨Nx,P0⟩:∃B:Bool,B=((i.dst:Int)==v0):=⟨_,rfl⟩;refine cT [(1,vI v0),(2,pT b1 0),(4,pT b4 0),(6,nV k),(7,nV m),(38,(vB ((i.dst:Int)==v0)))] ?_;rw[<-P0];have Qem:Nx=true↔((i.dst:Int)=v0):=by rw[P0];simp only[az]
 clear P0;intro aC fr;refine dx 3 16 [41] fr (news:=[(41,(vB (Nx&&decide ((v0:Int)>=0))))]) (by cases Nx<;>kernel_rfl)<|aE<|fZ (Nx&&decide ((v0:Int)>=0)) (((i.dst:Int)=v0)/\((v0:Int)>=0)) (by simp only[bu,aU,Qem]) (λJ3=> ?_) (λJ3=> ?_);refine aV<|an 1<|bH (aq b1 4) _ (af (kV.get 0 rfl) rfl)<|an 1<|ga Vf ((au fs).length) 6 (k:Int)<|an 1<|bH ((aN Vf (k:Int) 6).add 1) _ (eD (kV.ro hB) rfl hx 1 _ rfl)<|an 1 ?_;obtain⟨Mo,Ba⟩:=cU (kV.ro (hA.insts hx)) (i:=m) (by show(x.insts.map aQ.cells)[m]?=_;rw[aL,ux];rfl);intro aC fr;refine cZ (some 49) x.iA Mo x.insts.length 5 (m:Int) fr kR Ba oM oM<|k8 (aN Mo (m:Int) 5) (iV i) (bS (cs:=i.cells) (kV.ro (hA.insts hx)) Ba (by show(x.insts.map aQ.cells)[m]?=_;rw[aL,ux];rfl)) ?_;refine sW kV 1 (iV i) rfl λw40 wO=> ?_
 replace wO:=wO.nf;refine an 1<|aE<|cv<|dX<|dX<|dX<|dX<|Qcc (aZ b4) 45 (iV i) (vB true) (bw (wO.get 1 rfl)) ?_;have I4:=wO.od [] 0;have nB:=Qay E9 hx Sk ux J3;exact⟨by unfold Kd mkB;rw[nB];rfl,I4⟩;exact cE<|dR<|an 1<|eX ((m:Int)+1)<|an 1<|aE λaC fr=>⟨x.insts.length-(m+1),oM,m+1,rfl,fr.kp [1,2,4,6,7],kV,oM,λa_ y_ ha_ JT=>by rcases JW.1 ha_ with h9|h9;exact Sk a_ y_ h9 JT;subst h9;rw[ux]at JT;injection JT with JT;subst JT;exact J3⟩
 exact gZ 2<|ia<|dR<|an 1<|eX ((k:Int)+1)<|an 1<|aE λaC fr=>⟨fs.length-(k+1),oM,k+1,rfl,fr.kp [1,2,4,6],kV,oM,λa_ y_ ha_ JT=>by rcases JW.1 ha_ with h9|h9;exact E9 a_ y_ h9 JT;subst h9;rw[hx]at JT;injection JT with JT;subst JT;exact λi hi=>by obtain⟨j_,hj_⟩:=bq.1 hi;exact Sk j_ i (by have:=(aW.1 hj_).1;omega) hj_⟩
 refine gZ 0<|ia<|aV<|an 1 ?_;intro aC fr;refine lW (kR:aB _ 1=some (none,.store 45 (.tmp 4) (.tmp 51),0,none)) fr kR kR (k':=2) rfl (b:=b4) (t0:=45) (vs:=[vI 0,vI 0,vI 0,vT ⟨#[]⟩,ay]) (cs:=[vI 0,vI 0,vI 0,vT ⟨#[]⟩,ay]) kR kR kR (by simp only[cG,jt,fH];intro v hv;rcases hv with rfl|rfl|rfl|rfl|rfl<;>first|rfl|assumption) lM 1 rfl rfl ?_;intro w47 vo _ aC ea fr;clear ea;replace vo:=vo.nf;revert aC;refine an 1<|aE<|cv<|Qcc (aZ b4) 45 [vI 0,vI 0,vI 0,vT ⟨#[]⟩,ay] (vB false) (bw (vo.get 1 rfl)) ?_;have FL:=vo.od [] 0;have nB:=Qaz oM E9;exact⟨by unfold Kd mkB;rw[nB];rfl,FL⟩
theorem vi(w:World):Calls Tryz.prog 24 #[] w (gp λv w'=>v=vB true/\Mem bI w w' []):=by
 refine iI 40 [] Tryz.func24 ?_;have hM:=Mem.init w;refine br<|aV<|an 2 ?_;intro aC fr;refine qp 8 43 2 #[(0,.const (vI 0)),(1,.const (vI 1))] 43 fr (e:=3) (size:=1) (zs:=[vI 0]) (vs:=[(0,vI 0),(1,vI 1)]) (cs:=[vI 0,vI 1]) hM ?_;intro b1 w2 mS _ M3 _ aC ea fr;clear ea;replace M3:=M3.nf;clear hM;revert aC;refine an 1 ?_;intro aC fr;refine qp 10 43 1 #[(0,.const (vI 2))] 43 fr (e:=3) (size:=1) (zs:=[vI 0]) (vs:=[(0,vI 2)]) (cs:=[vI 2]) M3 ?_;intro b8 w9 hb8 _ lM _ aC ea fr;clear ea;replace lM:=lM.nf;revert aC;refine an 1 ?_;intro aC fr;refine qp 12 46 4 #[(0,.tmp 6),(1,.tmp 7),(2,.tmp 9),(3,.tmp 11)] 46 fr (e:=45) (size:=5) (zs:=[vI 0,vI 0,vI 0,vT ⟨#[]⟩,ay]) (vs:=[(0,(.agg #[vI 1,vI 0,vI 2,vT ⟨#[]⟩,ay])),(1,(.agg #[vI 1,vI 1,vI 3,vT ⟨#[]⟩,ay])),(2,(.agg #[vI 17,vI 2,vI 0,vT ⟨#[]⟩,vS (sM b1) 2 2])),(3,(.agg #[vI 10,vI (-1),vI 0,vT ⟨#[]⟩,vS (sM b8) 1 1]))]) (cs:=[vI 1,vI 0,vI 2,vT ⟨#[]⟩,ay,vI 1,vI 1,vI 3,vT ⟨#[]⟩,ay,vI 17,vI 2,vI 0,vT ⟨#[]⟩,vS (sM b1) 2 2,vI 10,vI (-1),vI 0,vT ⟨#[]⟩,vS (sM b8) 1 1]) lM ?_;intro mT Tj QgW _ kV _ aC ea fr;clear ea;replace kV:=kV.nf;revert aC;refine an 1 ?_;intro aC fr;refine qp 14 28 1 #[(0,.tmp 13)] 28 fr (e:=49) (size:=6) (zs:=[ay,ay,vI 0,vI 0,vI 0,vI 0]) (vs:=[(0,(.agg #[ay,vS (sM mT) 4 4,vI 2,vI (-1),vI 0,vI 0]))]) (cs:=[ay,vS (sM mT) 4 4,vI 2,vI (-1),vI 0,vI 0]) kV ?_;intro Ny w23 Qo8 _ oC _ aC ea fr;clear ea;replace oC:=oC.nf;revert aC;refine an 1<|eV (Sc dxN false 0 3 (sM Ny) 1 [E0 (sM b1) (sM b8) (sM mT)] w23 sI Qgc (QgT (x:=E0 (sM b1) (sM b8) (sM mT)) rfl (oC.get 3 rfl) (oC.get 2 rfl) (by intro i hi;simp only[E0,cG,jt,fH]at hi;rcases hi with rfl|rfl|rfl|rfl;exact QU;exact QU;exact aF (oC.get 0 rfl);exact aF (oC.get 1 rfl))) E1) ?_;rintro _ w32 ⟨B29,Qjp,F5,rfl,Qbf,Qiy⟩;have rL:=oC.cl Qiy;refine an 3<|sV rL 30 fa λb34 w35 Qnb vJ=> ?_
 replace vJ:=vJ.nf;refine eW [1,17,18]<|sW vJ 6 [vT dxN,vB false,vI 0,vI 3,vS B29 ((pR F5)) Qjp] rfl λw37 vF=> ?_
 replace vF:=vF.nf;refine an 1<|aE<|aV ?_;obtain⟨hmb,hmo,hmn⟩:=Qma Qbf;have hod:rH F5:=rH.alike Qbf.symm (LU E1 Qgc);have hld:ae F5<=1000:=by have h9:=LS (fs:=[E0 (sM b1) (sM b8) (sM mT)]) (nm:=dxN) (pa:=0) (va:=3) E1;rw[Qbf.len];simp only[fh,gX]at h9;omega
 refine k8 (aZ b34) [vT dxN,vB false,vI 0,vI 3,vS B29 ((pR F5)) Qjp] (bw (vF.get 6 rfl))<|eV ((by have h9:=Ve dxN false 0 3 B29 Qjp F5 2 w37 hld hod (RO.of (GC (vF.get 4 rfl) (vF.get 5 rfl)));rw[hmb,hmo,hmn]at h9;exact h9)) ?_;rintro _ w39 ⟨rfl,Qjo⟩;have vH:=vF.cl Qjo;refine an 3<|sV vH 45 [vI 0,vI 0,vI 0,vT ⟨#[]⟩,ay] λb41 w42 hb41 Bn=> ?_
 replace Bn:=Bn.nf;refine sW Bn 7 [vI 1,vI ((Kd F5 2).dst),vI 5,vT ((Kd F5 2).name),vS ((Kd F5 2).A) ((Kd F5 2).args.length) ((Kd F5 2).c)] rfl λw44 xt=> ?_
 replace xt:=xt.nf;refine an 1<|aE<|aV<|an 1<|eV (Sb (0:Int) w44) ?_;rintro _ w46 ⟨rfl,OL⟩;have CF:=xt.cl OL;refine mz ((0:Int)==0) λB48 xj=> ?_
 obtain rfl:B48=true:=by
   have nG:((0:Int)=0):=by rfl
   first|exact xj.trans (jO nG)|exact xj.trans (kM nG)|exact xj.trans (az.2 nG)|exact xj.trans (cQ.2 nG)|exact xj.trans (dj.2 (λe=>nG (az.1 e)))|exact xj.trans (dj.2 (λe=>nG (cQ.1 e)))
 clear xj;refine an 5<|bH (aZ b41) _ (af (CF.get 7 rfl) rfl)<|eW [3,30,32]<|mz ((1:Int)==1) λUM EV=> ?_
 obtain rfl:UM=true:=by
   have nG:((1:Int)=1):=by rfl
   first|exact EV.trans (jO nG)|exact EV.trans (kM nG)|exact EV.trans (az.2 nG)|exact EV.trans (cQ.2 nG)|exact EV.trans (dj.2 (λe=>nG (az.1 e)))|exact EV.trans (dj.2 (λe=>nG (cQ.1 e)))
 clear EV;refine an 3<|bH (aq b41 2) _ (af (CF.get 7 rfl) rfl)<|mz ((5:Int)==5) λUN EX=> ?_
 obtain rfl:UN=true:=by
   have nG:((5:Int)=5):=by rfl
   first|exact EX.trans (jO nG)|exact EX.trans (kM nG)|exact EX.trans (az.2 nG)|exact EX.trans (cQ.2 nG)|exact EX.trans (dj.2 (λe=>nG (az.1 e)))|exact EX.trans (dj.2 (λe=>nG (cQ.1 e)))
 clear EX;refine an 2<|aE<|cv<|dq (vB true) ?_;have tr:=CF.od [] 0;exact⟨rfl,tr⟩
end Go.Proofs.YtejbeeaomokjpaaGreat









namespace Go.Mor
open List
open List renaming length -> ae
open Go.RowKit
theorem gg.XN{f:gg}{k:Nat}{q:ar×Nat×ah}(h:f.bO[k]?=some q):f.src k=q.2.2:=by simp[gg.src,List.getD,h]
def yi(at_:Nat)(bN:ah)(p:cV):Int:=bN.getD (p.args.getD at_ 0).toNat 0
theorem D2:∀(l:List (Int×Int)) (bN:ah),ae (lL bN l)=ae bN
 |[],_=>rfl
 |(d,v)::r,bN=>by unfold lL;rw[D2 r];simp
theorem AF:∀(l:List (Int×Int)) (bN:ah) (d v:Int),lL bN (l++[(d,v)])=(lL bN l).set d.toNat v
 |[],_,_,_=>rfl
 |(d0,v0)::r,bN,d,v=>by show lL (bN.set d0.toNat v0) (r++[(d,v)])=_;rw[AF r];rfl
def uf(ps:List cV)(at_:Nat)(bN:ah)(j:Nat):ah:=lL bN ((ps.take j).map (λp=>(p.dst,yi at_ bN p)))
theorem OU{ps:List cV}{at_:Nat}{bN:ah}{j:Nat}{p:cV}(h:ps[j]?=some p):(uf ps at_ bN j).set p.dst.toNat (yi at_ bN p)=uf ps at_ bN (j+1):=by
 obtain⟨hj,he⟩:=aW.1 h;unfold uf;rw[dh hj,he,bZ];exact(AF _ _ _ _).symm
theorem OV(ps:List cV)(at_:Nat)(bN:ah):uf ps at_ bN 0=bN:=by simp[uf,lL]
theorem Tr(ps:List cV)(at_:Nat)(bN:ah):uf ps at_ bN (ae ps)=kv ps at_ bN:=by simp[uf,kv,yi]
theorem QcG{l:ah}{i:Nat}(h:i<ae l):l.getD i 0∈l:=by simp[List.getD,h]
theorem wP(bN args:ah):ae (gb bN args)=ae args:=by simp[gb]
theorem oK{α β:Type}{g:eH α}{a:α}{s:dT}{f:α->dT->eH β}(h:g= .ok a s):g.bind f=f a s:=by rw[h];rfl
theorem lC{α β:Type}{g:eH α}{k c:Int}{s:dT}{f:α->dT->eH β}(h:g= .stop k c s):g.bind f= .stop k c s:=by rw[h];rfl
def Qnn(i:aQ)(bN:ah)(v:Int):ah:=if 0<=i.dst/\aJ i.op then bN.set i.dst.toNat v else bN
def XO(E:Env0)(x:aG)(bN:ah)(s:dT):eH (Int×Int×ah):=(ey E s).bind λ_ s=>
  if x.e=0 then .ok (x.a,0,bN) s
  else if x.e=1 then .ok (if bN.getD x.v.toNat 0≠0 then x.a else x.b,0,bN) s
  else if x.e=3 then .stop 2 x.a s
  else .ok (-1,if x.v>=0 then bN.getD x.v.toNat 0 else 0,bN) s
section
variable{E:Env0}{call:Int -> List Int -> dT -> eH Int}
theorem XP{f:gg}{k from_:Int}{bN:ah}{s:dT}{x:aG}(h:f.bF[k.toNat]?=some x):iH E call f k from_ bN s=(dZ E call x.insts (kv x.ak (gI (f.src k.toNat) from_) bN) s).bind (XO E x):=by
 unfold iH;rw[h];rfl
theorem D3{s s':dT}{x:Unit}(h:ey E s= .ok x s'):s'.steps=s.steps+1:=by
 unfold ey at h;split at h
 ·cases h
 ·injection h with h1 h2;subst h2;rfl
def Ts(call:Int->ah->dT->eH Int):Prop:=∀n l s x s',call n l s= .ok x s'->s.steps<=s'.steps
theorem yj{n:Int}{s s':dT}{k:Nat}(h:yR n s= .ok k s'):s'=s:=by
 unfold yR at h;split at h
 ·cases h
 ·injection h with h1 h2;exact h2.symm
theorem D4(hm:Ts call){i:aQ}{l:ah}{s s':dT}{x:Int}(h:cP E call i l s= .ok x s'):s.steps<=s'.steps:=by
 have fin:∀(y:Int) (s2:dT),s.steps<=s2.steps->eH.ok y s2=eH.ok x s'->s.steps<=s'.steps:=by intro y s2 h1 h2;injection h2 with _ h2;rw[<-h2];exact h1
 by_cases h1:i.op=1
 ·rw[sr h1]at h;exact fin _ _ (dv _) h
 by_cases h2:i.op=2
 ·rw[tX h2]at h;cases hq:yR (IntKind.i64.wrap (a0 l+i.n)) s with
  |ok k s2=>rw[oK hq]at h;exact fin _ _ (by rw[yj hq];exact dv _) h
  |stop k c s2=>rw[lC hq]at h;cases h
 by_cases h3:i.op=3
 ·rw[tY h3]at h;cases hq:yR (IntKind.i64.wrap (a0 l+i.n)) s with
  |ok k s2=>rw[oK hq]at h;exact fin _ _ (by rw[yj hq];exact dv _) h
  |stop k c s2=>rw[lC hq]at h;cases h
 by_cases h4:i.op=4
 ·rw[wG h4]at h;split at h
  ·exact hm _ _ _ _ _ h
  ·cases h
 by_cases h5:i.op=5
 ·rw[wH h5]at h;exact hm _ _ _ _ _ h
 by_cases h6:i.op=6
 ·rw[tZ h6]at h;split at h
  ·exact fin _ _ (dv _) h
  ·cases h
 by_cases h7:i.op=7
 ·rw[ua h7]at h;split at h
  ·exact fin _ _ (dv _) h
  ·cases h
 by_cases h8:i.op=8
 ·rw[wI h8]at h;split at h
  ·cases h
  ·split at h
   ·cases h
   ·exact fin _ {s with next:=s.next+a0 l} (dv _) h
 by_cases h9:i.op=9
 ·rw[wJ h9]at h;split at h
  ·exact fin _ {s with pos:=s.pos+1} (dv _) h
  ·exact fin _ _ (dv _) h
 by_cases Cp:i.op=10
 ·rw[su Cp]at h;exact fin _ _ (by split<;>exact dv _) h
 by_cases Nb:i.op=11
 ·rw[qx Nb]at h;split at h
  ·cases h
  ·exact fin _ _ (dv _) h
 by_cases Vm:i.op=12
 ·rw[sv Vm]at h;exact fin _ _ (dv _) h
 by_cases GS:i.op>=40
 ·rw[qy GS]at h;exact fin _ _ (dv _) h
 rw[oa oM oM]at h;split at h
 ·exact fin _ _ (dv _) h
 ·cases h
theorem XQ{x:aG}{bN:ah}{s s2:dT}{u:Unit}(h:ey E s= .ok u s2):XO E x bN s=if x.e=0 then .ok (x.a,0,bN) s2 else if x.e=1 then .ok (if bN.getD x.v.toNat 0≠0 then x.a else x.b,0,bN) s2 else if x.e=3 then .stop 2 x.a s2 else .ok (-1,if x.v>=0 then bN.getD x.v.toNat 0 else 0,bN) s2:=oK h
end
end Go.Mor
namespace Go.Mor
open List
open List renaming length -> ae
theorem OW{i:aQ}(h:cA i):ae i.args<=17:=by
 rcases h.2 with h|h|h|h|h|h|h|h|h|h|h<;>omega
theorem Tt{N:Int}{x:aG}(h:jm N x):x.e=0\/x.e=1\/x.e=2\/x.e=3:=by
 rcases h with h|h|h|h
 ·exact .inl h.1
 ·exact .inr (.inl h.1)
 ·exact .inr (.inr (.inl h.1))
 ·exact .inr (.inr (.inr h.1))
end Go.Mor


namespace Go.Mor
section
variable{E:Env0}{body:gg -> Int -> Int -> List Int -> dT -> eH Int}{n:Int}{l:List Int}{s s':dT}{f:gg}{x:Int}
theorem o0(h:n<1\/n>=(ae E.fns:Int)+1):je E body n l s= .stop 5 0 s:=by unfold je;rw[ax h]
theorem ug(h:¬(n<1\/n>=(ae E.fns:Int)+1))(hf:E.fns[(n-1).toNat]?=some f):je E body n l s=if(ae l:Int)≠f.pa then .stop 5 0 s else if s.opened=1200 then .stop 4 0 s else body f 0 (-1) (l++List.replicate (f.va.toNat-ae l) 0) {s with opened:=s.opened+1}:=by unfold je;rw[ao h,hf]
end
def GU(call:Int->ah->dT->eH Int):Prop:=∀n l s x s',call n l s= .ok x s'->s'.opened=s.opened
section
variable{E:Env0}{call:Int -> List Int -> dT -> eH Int}
theorem D6{s s':dT}{x:Unit}(h:ey E s= .ok x s'):s'.opened=s.opened:=by
 unfold ey at h;split at h
 ·cases h
 ·injection h with h1 h2;subst h2;rfl
theorem D7(hm:GU call){i:aQ}{l:ah}{s s':dT}{x:Int}(h:cP E call i l s= .ok x s'):s'.opened=s.opened:=by
 have fin:∀(y:Int) (s2:dT),s2.opened=s.opened->eH.ok y s2=eH.ok x s'->s'.opened=s.opened:=by intro y s2 h1 h2;injection h2 with _ h2;rw[<-h2];exact h1
 by_cases h1:i.op=1
 ·rw[sr h1]at h;exact fin _ _ rfl h
 by_cases h2:i.op=2
 ·rw[tX h2]at h;cases hq:yR (IntKind.i64.wrap (a0 l+i.n)) s with
  |ok k s2=>rw[oK hq]at h;exact fin _ _ (by rw[yj hq]) h
  |stop k c s2=>rw[lC hq]at h;cases h
 by_cases h3:i.op=3
 ·rw[tY h3]at h;cases hq:yR (IntKind.i64.wrap (a0 l+i.n)) s with
  |ok k s2=>rw[oK hq]at h;exact fin _ _ (by rw[yj hq]) h
  |stop k c s2=>rw[lC hq]at h;cases h
 by_cases h4:i.op=4
 ·rw[wG h4]at h;split at h
  ·exact hm _ _ _ _ _ h
  ·cases h
 by_cases h5:i.op=5
 ·rw[wH h5]at h;exact hm _ _ _ _ _ h
 by_cases h6:i.op=6
 ·rw[tZ h6]at h;split at h
  ·exact fin _ _ rfl h
  ·cases h
 by_cases h7:i.op=7
 ·rw[ua h7]at h;split at h
  ·exact fin _ _ rfl h
  ·cases h
 by_cases h8:i.op=8
 ·rw[wI h8]at h;split at h
  ·cases h
  ·split at h
   ·cases h
   ·exact fin _ {s with next:=s.next+a0 l} rfl h
 by_cases h9:i.op=9
 ·rw[wJ h9]at h;split at h
  ·exact fin _ {s with pos:=s.pos+1} rfl h
  ·exact fin _ _ rfl h
 by_cases Cp:i.op=10
 ·rw[su Cp]at h;exact fin _ _ (by split<;>rfl) h
 by_cases Nb:i.op=11
 ·rw[qx Nb]at h;split at h
  ·cases h
  ·exact fin _ _ rfl h
 by_cases Vm:i.op=12
 ·rw[sv Vm]at h;exact fin _ _ rfl h
 by_cases GS:i.op>=40
 ·rw[qy GS]at h;exact fin _ _ rfl h
 rw[oa oM oM]at h;split at h
 ·exact fin _ _ rfl h
 ·cases h
theorem D8(hm:Ts call)(hk:GU call):∀(is:List aQ) (v:ah) (s:dT) {v':ah} {s':dT},dZ E call is v s= .ok v' s'->s.steps<=s'.steps/\s'.opened=s.opened
 |[],v,s,v',s',h=>by injection h with h1 h2;subst h2;exact⟨dv _,rfl⟩
 |i::r,v,s,v',s',h=>by
  have e:dZ E call (i::r) v s=(ey E s).bind λ_ s=>(cP E call i (gb v i.args) s).bind λx s=>dZ E call r (Qnn i v x) s:=rfl
  rw[e]at h;cases h1:ey E s with
  |stop k c s1=>rw[lC h1]at h;cases h
  |ok u s1=>
   rw[oK h1]at h;cases h2:cP E call i (gb v i.args) s1 with
   |stop k c s2=>rw[lC h2]at h;cases h
   |ok x s2=>
    rw[oK h2]at h;obtain⟨h3,h4⟩:=D8 hm hk r _ _ h;have h5:=D3 h1;have h6:=D6 h1;have h7:=D4 hm h2;have h8:=D7 hk h2;exact⟨oM,oM⟩
theorem OX(hm:Ts call)(hk:GU call){f:gg}{k from_:Int}{bN:ah}{s s':dT}{nx bk:Int}{v':ah}(h:iH E call f k from_ bN s= .ok (nx,bk,v') s'):s.steps+1<=s'.steps/\s'.opened=s.opened:=by
 cases hx:f.bF[k.toNat]? with
 |none=>unfold iH at h;rw[hx]at h;cases h
 |some x=>
  rw[XP hx]at h;cases h1:dZ E call x.insts (kv x.ak (gI (f.src k.toNat) from_) bN) s with
  |stop a b s1=>rw[lC h1]at h;cases h
  |ok v s1=>
   rw[oK h1]at h;obtain⟨h3,h4⟩:=D8 hm hk _ _ _ h1;cases h2:ey E s1 with
   |stop a b s2=>unfold XO at h;rw[lC h2]at h;cases h
   |ok u s2=>
    rw[XQ h2]at h;have h5:=D3 h2;have h6:=D6 h2;have:s'=s2:=by
     split at h
     ·injection h with _ h;exact h.symm
     ·split at h
      ·injection h with _ h;exact h.symm
      ·split at h
       ·cases h
       ·injection h with _ h;exact h.symm
    subst this;exact⟨oM,oM⟩
theorem oL(g:Nat)(f:gg)(k from_:Int)(bN:ah)(s:dT):lT E (g+1) f k from_ bN s=(iH E (cX E g) f k from_ bN s).bind λr s=>
  if r.1<0 then .ok r.2.1 {s with opened:=s.opened-1}else lT E g f r.1 k r.2.2 s:=rfl
theorem wQ{body:gg->Int->Int->ah->dT->eH Int}(hb:∀f k from_ v s x s',body f k from_ v s= .ok x s'->s.steps<=s'.steps/\s'.opened=s.opened-1):Ts (je E body)/\GU (je E body):=by
 have key:∀n l s x s',je E body n l s= .ok x s'->s.steps<=s'.steps/\s'.opened=s.opened:=by
  intro n l s x s' h;unfold je at h;split at h
  ·cases h
  ·split at h
   ·cases h
   ·split at h
    ·cases h
    ·split at h
     ·cases h
     ·obtain⟨h1,h2⟩:=hb _ _ _ _ _ _ _ h;exact⟨h1,by rw[h2];show s.opened+1-1=_;omega⟩
 exact⟨λn l s x s' h=>(key n l s x s' h).1,λn l s x s' h=>(key n l s x s' h).2⟩
theorem u6:∀(g:Nat) f k from_ v s x s',lT E g f k from_ v s= .ok x s'->s.steps<=s'.steps/\s'.opened=s.opened-1
 |0,_,_,_,_,_,_,_,h=>by cases h
 |g+1,f,k,from_,v,s,x,s',h=>by
  obtain⟨hm,hk⟩:=wQ (E:=E) (u6 g);rw[oL]at h;cases h1:iH E (cX E g) f k from_ v s with
  |stop a b s1=>rw[lC h1]at h;cases h
  |ok r s1=>
   rw[oK h1]at h;obtain⟨nx,bk,v'⟩:=r;obtain⟨h3,h4⟩:=OX hm hk h1;split at h
   ·injection h with _ h;subst h;exact⟨by show s.steps<=s1.steps;omega,by show s1.opened-1=_;omega⟩
   ·obtain⟨h5,h6⟩:=u6 g _ _ _ _ _ _ _ h;exact⟨oM,oM⟩
theorem GV(g:Nat):Ts (cX E g):=(wQ (u6 g)).1
theorem D9(g:Nat):GU (cX E g):=(wQ (u6 g)).2
end
section
variable{P:Program}{C:TC}{s s2:dT}{oA:Option Addr}{oc:Nat}{w:World}{fn:FuncId}{args:List Value}{g:eH Int}{x k c:Int}
theorem LZ{E:Env0}{s s':dT}{u:Unit}(h:ey E s= .ok u s'):s'.steps=s.steps+1/\s'.opened=s.opened:=by
 unfold ey at h;split at h
 ·cases h
 ·injection h with _ h;rw[<-h];exact⟨rfl,rfl⟩
end
end Go.Mor




namespace Go.Mor
def lyM(E:Env0)(cs:List cR):ah:=if cc cs (ae cs)<=E.cJ then oy E.names (gJ cs (ae cs)) cs E.cJ (ae cs)else List.replicate E.cJ 0
def pG(E:Env0)(cs:List cR)(begin:List bo):eH Unit:=if cc cs (ae cs)<=E.cJ then kK E (E.fuel.toNat+1) begin (lyS (oy E.names E.data cs E.cJ (ae cs)) (cc cs (ae cs)))else .stop 3 0 (lyS (List.replicate E.cJ 0) (cc cs (ae cs)))
theorem QcH{E:Env0}{g:Nat}{l:List bo}{j:Nat}{b:bo}{s:dT}(h:l[j]?=some b):kK E g (l.drop j) s=match jd E.names b with
  |none=> .stop 5 0 s
  |some n=>(cX E g n [] s).bind λ_ s=>kK E g (l.drop (j+1)) s:=by
 have:l.drop j=b::l.drop (j+1):=by obtain⟨ir,he⟩:=aW.1 h;rw[Ae ir,he]
 rw[this];rfl
theorem XX{E:Env0}{g:Nat}{l:List bo}{j:Nat}{s:dT}(h:ae l<=j):kK E g (l.drop j) s= .ok () s:=by
 rw[F7 h];rfl
theorem QcI{E:Env0}{cs:List cR}{l:List bo}(hd:E.data=gJ cs (ae cs))(h:cc cs (ae cs)<=E.cJ):pG E cs l=kK E (E.fuel.toNat+1) l (lyS (lyM E cs) (cc cs (ae cs))):=by
 unfold pG lyM;rw[ax h,ax h,hd]
section
variable{E:Env0}{m:Int}{call mr:Int -> List Int -> dT -> eH Int}
theorem wS(hc:∀n l s,dE s (u7 (call n l s)))(i:aQ)(l:ah)(s:dT):dE s (u7 (cP E call i l s)):=by
 by_cases h1:i.op=1
 ·rw[sr h1];exact dE.refl s
 by_cases h2:i.op=2
 ·rw[tX h2];exact Lw (λ_=>dE.refl s)
 by_cases h3:i.op=3
 ·rw[tY h3];exact Lw (λ_=>⟨dv _,[],(iq _).symm⟩)
 by_cases h4:i.op=4
 ·rw[wG h4];cases jd E.names i.name with
  |none=>exact dE.refl s
  |some n=>exact hc _ _ _
 by_cases h5:i.op=5
 ·rw[wH h5];exact hc _ _ _
 by_cases h6:i.op=6
 ·rw[tZ h6];cases jd E.data i.name<;>exact dE.refl s
 by_cases h7:i.op=7
 ·rw[ua h7];cases jd E.names i.name<;>exact dE.refl s
 by_cases h8:i.op=8
 ·rw[wI h8];by_cases c1:a0 l<0
  ·rw[ax c1];exact dE.refl s
  rw[ao c1];by_cases c2:a0 l>(E.cJ:Int)-s.next
  ·rw[ax c2];exact dE.refl s
  ·rw[ao c2];exact⟨dv _,[],(iq _).symm⟩
 by_cases h9:i.op=9
 ·rw[wJ h9];by_cases c1:s.pos<ae E.inp
  ·rw[ax c1];exact⟨dv _,[],(iq _).symm⟩
  ·rw[ao c1];exact dE.refl s
 by_cases Cp:i.op=10
 ·rw[su Cp];by_cases c1:ae s.out<4096
  ·rw[ax c1];exact⟨dv _,_,rfl⟩
  ·rw[ao c1];exact dE.refl s
 by_cases Nb:i.op=11
 ·rw[qx Nb];by_cases c1:a0 l=0
  ·rw[ax c1];exact dE.refl s
  ·rw[ao c1];exact dE.refl s
 by_cases Vm:i.op=12
 ·rw[sv Vm];exact dE.refl s
 by_cases GS:i.op>=40
 ·rw[qy GS];exact dE.refl s
 rw[oa oM oM];by_cases c1:(cW (i.op-16) (a0 l) (a1 l)).2=0
 ·rw[ax c1];exact dE.refl s
 ·rw[ao c1];exact dE.refl s
theorem qC(hc:∀n l s,dE s (u7 (call n l s))):∀(is:List aQ) (bN:ah) (s:dT),dE s (u7 (dZ E call is bN s))
 |[],bN,s=>dE.refl s
 |i::r,bN,s=>by refine wR.trans (kW λ_ s=> ?_);refine(wS hc i _ s).trans (kW λv s=> ?_);exact qC hc r _ s
theorem Ly(hc:∀n l s,dE s (u7 (call n l s)))(f:gg)(k from_:Int)(bN:ah)(s:dT):dE s (u7 (iH E call f k from_ bN s)):=by
 unfold iH;split
 ·exact dE.refl s
 ·refine(qC hc _ _ s).trans (kW λv s=>wR.trans (kW λ_ s=> ?_));split
  ·exact dE.refl s
  split
  ·exact dE.refl s
  split
  ·exact dE.refl s
  ·exact dE.refl s
theorem AJ{body:gg->Int->Int->ah->dT->eH Int}(hb:∀f k from_ v s,dE s (u7 (body f k from_ v s)))(n:Int)(l:ah)(s:dT):dE s (u7 (je E body n l s)):=by
 unfold je;split
 ·exact dE.refl s
 split
 ·exact dE.refl s
 split
 ·exact dE.refl s
 split
 ·exact dE.refl s
 ·exact hb _ _ _ _ {s with opened:=s.opened+1}
theorem pH:∀(g:Nat) (f:gg) (k from_:Int) (v:ah) (s:dT),dE s (u7 (lT E g f k from_ v s))
 |0,f,k,from_,v,s=>dE.refl s
 |g+1,f,k,from_,v,s=>by
  rw[oL];refine(Ly (λn l s=>AJ (pH g) n l s) f k from_ v s).trans (kW λr s=> ?_);split
  ·exact⟨dv _,[],(iq _).symm⟩
  ·exact pH g _ _ _ _ _
theorem pI(g:Nat)(n:Int)(l:ah)(s:dT):dE s (u7 (cX E g n l s)):=AJ (pH g) n l s
theorem OZ{f:gg}{k from_:Int}{bN:ah}{s s':dT}{r:Int×Int×ah}(hc:∀n l s,dE s (u7 (call n l s)))(h:iH E call f k from_ bN s= .ok r s'):s.steps<s'.steps:=by
 unfold iH at h;split at h
 ·cases h
 rename_i x hx;have hi:=qC (E:=E) hc x.insts (kv x.ak (gI (f.src k.toNat) from_) bN) s;cases h1:dZ E call x.insts (kv x.ak (gI (f.src k.toNat) from_) bN) s with
 |stop _ _ _=>rw[h1]at h;cases h
 |ok v s1=>
  rw[h1]at h hi;have tc:s.steps<=s1.steps:=hi.1;have h':((ey E s1).bind λ_ s=>if x.e=0 then .ok (x.a,0,v) s else if x.e=1 then .ok (if v.getD x.v.toNat 0≠0 then x.a else x.b,0,v) s else if x.e=3 then .stop 2 x.a s else .ok (-1,if x.v>=0 then v.getD x.v.toNat 0 else 0,v) s:eH (Int×Int×ah))= .ok r s':=h;cases h2:ey E s1 with
  |stop _ _ _=>rw[h2]at h';cases h'
  |ok u s2=>
   rw[h2]at h';have:=G0 h2;have e:s2=s':=by
    simp only[eH.bind]at h';split at h'
    ·injection h'
    split at h'
    ·injection h'
    split at h'
    ·cases h'
    ·injection h'
   rw[<-e];omega
theorem wT(g:Nat):∀(l:List bo) (s:dT),dE s (u7 (kK E g l s))
 |[],s=>dE.refl s
 |b::r,s=>by
  unfold kK;split
  ·exact dE.refl s
  ·exact(pI g _ _ s).trans (kW λ_ s=>wT g r s)
end
structure Fy(s s':dT):Prop where
 mem:s'.mem=s.mem
 next:s'.next=s.next
 pos:s'.pos=s.pos
 out:s'.out=s.out
 opn:s'.opened=s.opened
 st:s'.steps<=s.steps
def sB{α β:Type}(F:Int)(R:α->β->Prop)(r:eH α)(r':eH β):Prop:=match r with
 | .ok a t=>t.steps<=F->∃a' t',r'= .ok a' t'/\Fy t t'/\R a a'
 | .stop k c t=>(k=1\/k=2)->t.steps<=F->∃t',r'= .stop k c t'/\Fy t t'
section
variable{α β γ δ:Type}{F:Int}{R:α -> β -> Prop}{Q:γ -> δ -> Prop}{s s':dT}
theorem Fy.refl(s:dT):Fy s s:=⟨rfl,rfl,rfl,rfl,rfl,dv _⟩
theorem sB.ok{a:α}{b:β}(h:Fy s s')(hr:R a b):sB F R (.ok a s) (.ok b s'):=λ_=>⟨b,s',rfl,h,hr⟩
theorem sB.stop{k c:Int}(h:Fy s s'):sB F R (.stop k c s) (.stop k c s'):=λ_ _=>⟨s',rfl,h⟩
theorem sB.off{k c:Int}{r':eH β}(h:¬(k=1\/k=2)):sB F R (.stop k c s) r':=λe _=>absurd e h
theorem sB.far{r:eH α}{r':eH β}(h:¬(u7 r).steps<=F):sB F R r r':=by
 cases r with
 |ok a t=>exact λe=>absurd e h
 |stop k c t=>exact λ_ e=>absurd e h
theorem sB.Qkm{r:eH α}{r':eH β}(h:(u7 r).steps<=F->sB F R r r'):sB F R r r':=by
 by_cases e:(u7 r).steps<=F
 ·exact h e
 ·exact .far e
theorem sB.bind{r:eH α}{r':eH β}{f:α->dT->eH γ}{f':β->dT->eH δ}(h:sB F R r r')(hl:∀a s,dE s (u7 (f a s)))(hf:∀a t a' t',r= .ok a t->r'= .ok a' t'->Fy t t'->R a a'->t.steps<=F->sB F Q (f a t) (f' a' t')):sB F Q (r.bind f) (r'.bind f'):=by
 cases r with
 |ok a t=>
  refine .Qkm λhn=> ?_
  have ht:t.steps<=F:=Int.le_trans (hl a t).1 hn;obtain⟨a',t',rfl,h2,h3⟩:=h ht;exact hf a t a' t' rfl rfl h2 h3 ht
 |stop k c t=>
  intro e hn;obtain⟨t',rfl,h2⟩:=h e hn;exact⟨t',rfl,h2⟩
end
section
variable{E E':Env0}{F:Int}{s s':dT}{call mr:Int -> List Int -> dT -> eH Int}
theorem Fy.up(h:Fy s s'):Fy {s with steps:=s.steps+1} {s' with steps:=s'.steps+1}:=⟨h.mem,h.next,h.pos,h.out,h.opn,by show s'.steps+1<=s.steps+1;have:=h.st;omega⟩
theorem Q7(h:Fy s s'):sB E'.fuel (λ_ _=>True) (ey E s) (ey E' s'):=by
 by_cases h1:s.steps=E.fuel
 ·rw[Qcr h1];exact .off dQ
 ·rw[Lh h1];intro hn;have hn:s.steps+1<=E'.fuel:=hn;have:=h.st;rw[Lh oM];exact⟨(),_,rfl,h.up,trivial⟩
structure uj(E E':Env0):Prop where
 names:E'.names=E.names
 data:E'.data=E.data
 inp:E'.inp=E.inp
 cJ:E'.cJ=E.cJ
 len:ae E'.fns=ae E.fns
theorem Qff{α β:Type}{Q:α->β->Prop}{n:Int}(h:Fy s s'){f:Nat->dT->eH α}{f':Nat->dT->eH β}(hf:∀k,sB F Q (f k s) (f' k s')):sB F Q ((yR n s).bind f) ((yR n s').bind f'):=by
 by_cases h1:n<1\/n>=s.next
 ·rw[QC h1];exact .off dQ
 ·rw[Xt h1,Xt (by rw[h.next];exact h1)];exact hf _
theorem QcJ(hE:uj E E')(h:Fy s s'){i:aQ}{l:ah}(hc:∀n l,sB F Eq (call n l s) (mr n l s')):sB F Eq (cP E call i l s) (cP E' mr i l s'):=by
 by_cases h1:i.op=1
 ·rw[sr h1,sr h1];exact .ok h rfl
 by_cases h2:i.op=2
 ·rw[tX h2,tX h2];exact Qff h λk=> .ok h (by rw[h.mem])
 by_cases h3:i.op=3
 ·rw[tY h3,tY h3];exact Qff h λk=> .ok ⟨by show s'.mem.set _ _=s.mem.set _ _;rw[h.mem],h.next,h.pos,h.out,h.opn,h.st⟩ rfl
 by_cases h4:i.op=4
 ·rw[wG h4,wG h4,hE.names];cases jd E.names i.name with
  |none=>exact .off dQ
  |some n=>exact hc _ _
 by_cases h5:i.op=5
 ·rw[wH h5,wH h5];exact hc _ _
 by_cases h6:i.op=6
 ·rw[tZ h6,tZ h6,hE.data];cases jd E.data i.name with
  |none=>exact .off dQ
  |some n=>exact .ok h rfl
 by_cases h7:i.op=7
 ·rw[ua h7,ua h7,hE.names];cases jd E.names i.name with
  |none=>exact .off dQ
  |some n=>exact .ok h rfl
 by_cases h8:i.op=8
 ·rw[wI h8,wI h8,hE.cJ,h.next];by_cases c1:a0 l<0
  ·rw[ax c1];exact .off dQ
  rw[ao c1,ao c1];by_cases c2:a0 l>(E.cJ:Int)-s.next
  ·rw[ax c2];exact .off dQ
  ·rw[ao c2,ao c2];exact .ok ⟨h.mem,rfl,h.pos,h.out,h.opn,h.st⟩ rfl
 by_cases h9:i.op=9
 ·rw[wJ h9,wJ h9,hE.inp,h.pos];by_cases c1:s.pos<ae E.inp
  ·rw[ax c1,ax c1];exact .ok ⟨h.mem,h.next,rfl,h.out,h.opn,h.st⟩ rfl
  ·rw[ao c1,ao c1];exact .ok h rfl
 by_cases Cp:i.op=10
 ·rw[su Cp,su Cp,h.out];by_cases c1:ae s.out<4096
  ·rw[ax c1,ax c1];exact .ok ⟨h.mem,h.next,h.pos,rfl,h.opn,h.st⟩ rfl
  ·rw[ao c1,ao c1];exact .ok h rfl
 by_cases Nb:i.op=11
 ·rw[qx Nb,qx Nb];by_cases c1:a0 l=0
  ·rw[ax c1,ax c1];exact .stop h
  ·rw[ao c1,ao c1];exact .ok h rfl
 by_cases Vm:i.op=12
 ·rw[sv Vm,sv Vm];exact .ok h rfl
 by_cases GS:i.op>=40
 ·rw[qy GS,qy GS];exact .ok h rfl
 rw[oa oM oM,oa oM oM];by_cases c1:(cW (i.op-16) (a0 l) (a1 l)).2=0
 ·rw[ax c1,ax c1];exact .ok h rfl
 ·rw[ao c1,ao c1];exact .stop h
def Qfg(E E':Env0)(f f':gg)(Inv:Int->Int->Int->Int->ah->ah->Prop):Prop:=∀(call mr:Int->ah->dT->eH Int) (k k' fr No:Int) (v v':ah) (s s':dT),Inv k k' fr No v v'->Fy s s'->(∀n l s,dE s (u7 (call n l s)))->(∀n l s,dE s (u7 (mr n l s)))->(∀n l t t',s'.steps<t'.steps->Fy t t'->t.steps<=E'.fuel->sB E'.fuel Eq (call n l t) (mr n l t'))->sB E'.fuel (λr r'=>(r.1<0↔r'.1<0)/\(r.1<0->r.2.1=r'.2.1)/\(¬r.1<0->Inv r.1 r'.1 k k' r.2.2 r'.2.2)) (iH E call f k fr v s) (iH E' mr f' k' No v' s')
structure G1(E E':Env0)(f f':gg)(Inv:Int->Int->Int->Int->ah->ah->Prop):Prop where
 pa:f'.pa=f.pa
 va:f'.va=f.va
 start:∀l:ah,(ae l:Int)=f.pa->Inv 0 0 (-1) (-1) (l++List.replicate (f.va.toNat-ae l) 0) (l++List.replicate (f.va.toNat-ae l) 0)
 step:Qfg E E' f f' Inv
def Ee(E E':Env0):Prop:=∀(i:Nat) (f f':gg),E.fns[i]?=some f->E'.fns[i]?=some f'->∃Inv,G1 E E' f f' Inv
theorem Lz(hE:uj E E')(hS:Ee E E'){body Qfh:gg->Int->Int->ah->dT->eH Int}{n:Int}{l:ah}(h:Fy s s')(hb:∀f f' Inv v v' t t',G1 E E' f f' Inv->Inv 0 0 (-1) (-1) v v'->Fy t t'->t'.steps=s'.steps->sB F Eq (body f 0 (-1) v t) (Qfh f' 0 (-1) v' t')):sB F Eq (je E body n l s) (je E' Qfh n l s'):=by
 by_cases h1:n<1\/n>=(ae E.fns:Int)+1
 ·rw[o0 h1];exact .off dQ
 obtain⟨f,hf⟩:=aP (l:=E.fns) (i:=(n-1).toNat) oM;obtain⟨f',hf'⟩:=aP (l:=E'.fns) (i:=(n-1).toNat) (by rw[hE.len];omega);rw[ug h1 hf,ug (by rw[hE.len];exact h1) hf'];obtain⟨Inv,hI⟩:=hS _ _ _ hf hf';by_cases h2:(ae l:Int)≠f.pa
 ·rw[ax h2];exact .off dQ
 rw[ao h2,hI.pa,ao h2];by_cases h3:s.opened=1200
 ·rw[ax h3];exact .off dQ
 rw[ao h3,h.opn,ao h3,hI.va];exact hb f f' Inv _ _ _ _ hI (hI.start l (fy.1 h2)) ⟨h.mem,h.next,h.pos,h.out,rfl,h.st⟩ rfl
theorem I7(hE:uj E E')(hS:Ee E E'):∀(g g':Nat) (f f':gg) (Inv:Int->Int->Int->Int->ah->ah->Prop) (k k' fr No:Int) (v v':ah) (s s':dT),G1 E E' f f' Inv->Inv k k' fr No v v'->Fy s s'->E'.fuel-s'.steps<(g':Int)->sB E'.fuel Eq (lT E g f k fr v s) (lT E' g' f' k' No v' s')
 |0,_,_,_,_,_,_,_,_,_,_,_,_,_,_,_,_=> .off dQ
 |g+1,0,f,f',Inv,k,k',fr,No,v,v',s,s',_,_,ha,hg=> .Qkm λhn=>by have h1:=(pH (E:=E) (g+1) f k fr v s).1;have h2:=ha.st;omega
 |g+1,g'+1,f,f',Inv,k,k',fr,No,v,v',s,s',hf,hi,ha,hg=>by
  rw[oL,oL];have Qkn:∀(r:Int×Int×ah) (s:dT),dE s (u7 (if r.1<0 then .ok r.2.1 {s with opened:=s.opened-1}else lT E g f r.1 k r.2.2 s)):=λr s=>by
   split
   ·exact⟨dv _,[],(iq _).symm⟩
   ·exact pH g _ _ _ _ _
  refine sB.bind (hf.step _ _ k k' fr No v v' s s' hi ha (pI g) (pI g') λn l t t' h1 h2 _=> ?_) Qkn λr t r' t' _ h2 h3 h4 _=> ?_
  ·exact Lz hE hS h2 λf f' Inv v v' u u' hf hi hu e=>I7 hE hS g g' f f' Inv 0 0 (-1) (-1) v v' u u' hf hi hu oM
  ·obtain⟨h5,h6,h7⟩:=h4;have h8:=OZ (pI g') h2;by_cases h9:r.1<0
   ·rw[ax h9,ax (h5.1 h9)];exact .ok ⟨h3.mem,h3.next,h3.pos,h3.out,by show t'.opened-1=t.opened-1;rw[h3.opn],h3.st⟩ (h6 h9)
   ·rw[ao h9,ao (λe=>h9 (h5.2 e))];exact I7 hE hS g g' f f' Inv _ _ _ _ _ _ t t' hf (h7 h9) h3 oM
theorem Q8(hE:uj E E')(hS:Ee E E')(g g':Nat):∀(l:List bo) (s s':dT),Fy s s'->0<=s'.steps->E'.fuel<(g':Int)->sB E'.fuel (λ_ _=>True) (kK E g l s) (kK E' g' l s')
 |[],s,s',h,_,_=> .ok h trivial
 |b::r,s,s',h,h0,hg=>by
  show sB E'.fuel _ (match jd E.names b with|none=> .stop 5 0 s|some n=>(cX E g n [] s).bind λ_ s=>kK E g r s) (match jd E'.names b with|none=> .stop 5 0 s'|some n=>(cX E' g' n [] s').bind λ_ s=>kK E' g' r s);rw[hE.names];cases jd E.names b with
  |none=>exact .off dQ
  |some n=>
   refine sB.bind (R:=Eq) (Lz hE hS h λf f' Inv v v' t t' hf hi ht e=>I7 hE hS g g' f f' Inv 0 0 (-1) (-1) v v' t t' hf hi ht oM) (λ_ s=>wT g r s) λa t a' t' _ h2 h3 _ _=> ?_
   have:=Lx (pI g' n [] s') h2;exact Q8 hE hS g g' r t t' h3 oM hg
theorem XY(hE:uj E E')(hS:Ee E E')(h0:0<=E'.fuel)(cs:List cR)(l:List bo):sB E'.fuel (λ_ _=>True) (pG E cs l) (pG E' cs l):=by
 unfold pG;rw[hE.cJ,hE.names,hE.data];split
 ·exact Q8 hE hS _ _ l _ _ (.refl _) (dv _) oM
 ·exact .off dQ
end
section
variable{E:Env0}{call:Int -> List Int -> dT -> eH Int}
def LA{α:Type}(F:Int)(r:eH α):Prop:=(u7 r).steps<=F
theorem LA.bind{α β:Type}{F:Int}{r:eH α}{f:α->dT->eH β}(h:LA F r)(hf:∀a s,s.steps<=F->LA F (f a s)):LA F (r.bind f):=by
 cases r with
 |ok a s=>exact hf a s h
 |stop k c s=>exact h
theorem le_step{s:dT}(h:s.steps<=E.fuel):LA E.fuel (ey E s):=by
 unfold ey;split
 ·exact h
 ·show s.steps+1<=E.fuel;omega
theorem Qfi{α:Type}{F n:Int}{s:dT}(h:s.steps<=F){f:Nat->dT->eH α}(hf:∀k,LA F (f k s)):LA F ((yR n s).bind f):=by
 unfold yR;split
 ·exact h
 ·exact hf _
theorem QcK{F:Int}(hc:∀n l s,s.steps<=F->LA F (call n l s))(i:aQ)(l:ah){s:dT}(h:s.steps<=F):LA F (cP E call i l s):=by
 by_cases h1:i.op=1
 ·rw[sr h1];exact h
 by_cases h2:i.op=2
 ·rw[tX h2];exact Qfi h λ_=>h
 by_cases h3:i.op=3
 ·rw[tY h3];exact Qfi h λ_=>h
 by_cases h4:i.op=4
 ·rw[wG h4];cases jd E.names i.name with
  |none=>exact h
  |some n=>exact hc _ _ _ h
 by_cases h5:i.op=5
 ·rw[wH h5];exact hc _ _ _ h
 by_cases h6:i.op=6
 ·rw[tZ h6];cases jd E.data i.name<;>exact h
 by_cases h7:i.op=7
 ·rw[ua h7];cases jd E.names i.name<;>exact h
 by_cases h8:i.op=8
 ·rw[wI h8];by_cases c1:a0 l<0
  ·rw[ax c1];exact h
  rw[ao c1];by_cases c2:a0 l>(E.cJ:Int)-s.next
  ·rw[ax c2];exact h
  ·rw[ao c2];exact h
 by_cases h9:i.op=9
 ·rw[wJ h9];by_cases c1:s.pos<ae E.inp
  ·rw[ax c1];exact h
  ·rw[ao c1];exact h
 by_cases Cp:i.op=10
 ·rw[su Cp];by_cases c1:ae s.out<4096
  ·rw[ax c1];exact h
  ·rw[ao c1];exact h
 by_cases Nb:i.op=11
 ·rw[qx Nb];by_cases c1:a0 l=0
  ·rw[ax c1];exact h
  ·rw[ao c1];exact h
 by_cases Vm:i.op=12
 ·rw[sv Vm];exact h
 by_cases GS:i.op>=40
 ·rw[qy GS];exact h
 rw[oa oM oM];by_cases c1:(cW (i.op-16) (a0 l) (a1 l)).2=0
 ·rw[ax c1];exact h
 ·rw[ao c1];exact h
theorem LB(hc:∀n l s,s.steps<=E.fuel->LA E.fuel (call n l s)):∀(is:List aQ) (v:ah) (s:dT),s.steps<=E.fuel->LA E.fuel (dZ E call is v s)
 |[],_,_,h=>h
 |i::r,v,s,h=>(le_step h).bind λ_ _ h1=>(QcK hc i _ h1).bind λ_ _ h2=>LB hc r _ _ h2
theorem XZ(hc:∀n l s,s.steps<=E.fuel->LA E.fuel (call n l s))(f:gg)(k fr:Int)(v:ah){s:dT}(h:s.steps<=E.fuel):LA E.fuel (iH E call f k fr v s):=by
 unfold iH;split
 ·exact h
 ·refine(LB hc _ _ s h).bind λv s h=>(le_step h).bind λ_ s h=> ?_
  repeat' split
  all_goals exact h
theorem LC{body:gg->Int->Int->ah->dT->eH Int}(hb:∀f k fr v s,s.steps<=E.fuel->LA E.fuel (body f k fr v s))(n:Int)(l:ah)(s:dT)(h:s.steps<=E.fuel):LA E.fuel (je E body n l s):=by
 unfold je;split
 ·exact h
 split
 ·exact h
 split
 ·exact h
 split
 ·exact h
 ·exact hb _ _ _ _ _ h
theorem I8:∀(g:Nat) (f:gg) (k fr:Int) (v:ah) (s:dT),s.steps<=E.fuel->LA E.fuel (lT E g f k fr v s)
 |0,_,_,_,_,_,h=>h
 |g+1,f,k,fr,v,s,h=>by
  rw[oL];refine(XZ (λn l s h=>LC (I8 g) n l s h) f k fr v h).bind λr s h=> ?_
  split
  ·exact h
  ·exact I8 g _ _ _ _ _ h
theorem Q9(g:Nat):∀(l:List bo) (s:dT),s.steps<=E.fuel->LA E.fuel (kK E g l s)
 |[],_,h=>h
 |b::r,s,h=>by
  unfold kK;split
  ·exact h
  ·exact(LC (I8 g) _ _ _ h).bind λ_ s h=>Q9 g r s h
theorem X0(h0:0<=E.fuel)(cs:List cR)(l:List bo):0<=(u7 (pG E cs l)).steps/\(u7 (pG E cs l)).steps<=E.fuel:=by
 unfold pG;split
 ·exact⟨(wT _ l _).1,Q9 _ l _ h0⟩
 ·exact⟨dv _,h0⟩
end
theorem CI{l:ah}{i j:Nat}{a:Int}:(l.set i a).getD j 0=if i=j/\i<ae l then a else l.getD j 0:=by
 rw[et,et,getElem?_set];by_cases e:i=j
 ·subst e;by_cases h:i<ae l
  ·rw[ax rfl,ax h,ax ⟨rfl,h⟩];rfl
  ·rw[ax rfl,ao h,ao (λc=>h c.2),db oM]
 ·rw[ao e,ao (λc=>e c.1)]
section
variable{E E':Env0}{call mr:Int -> List Int -> dT -> eH Int}
theorem LD:∀(l:List aQ) (v:ah) (s:dT),dZ E call (l.map aQ.e0) v s=dZ E call l v s
 |[],_,_=>rfl
 |i::r,v,s=>by show((ey E s).bind λ_ s=>(cP E call i (gb v i.args) s).bind λu s=>dZ E call (r.map aQ.e0) (if 0<=i.dst/\aJ i.op then v.set i.dst.toNat u else v) s)=((ey E s).bind λ_ s=>(cP E call i (gb v i.args) s).bind λu s=>dZ E call r (if 0<=i.dst/\aJ i.op then v.set i.dst.toNat u else v) s);congr 1;funext _ s;congr 1;funext u s;exact LD r _ s
def QcL(x:aG)(v:ah)(s:dT):eH (Int×Int×ah):=if x.e=0 then .ok (x.a,0,v) s else if x.e=1 then .ok (if v.getD x.v.toNat 0≠0 then x.a else x.b,0,v) s else if x.e=3 then .stop 2 x.a s else .ok (-1,if x.v>=0 then v.getD x.v.toNat 0 else 0,v) s
theorem X1{f:gg}{x:aG}{k fr:Int}{v:ah}{s:dT}(hx:f.bF[k.toNat]?=some x):iH E call f k fr v s=(dZ E call x.insts (kv x.ak (gI (f.src k.toNat) fr) v) s).bind λv s=>(ey E s).bind λ_ s=>QcL x v s:=by
 unfold iH;rw[hx];rfl
theorem G2{x:aG}{v:ah}{s:dT}:dE s (u7 (QcL x v s)):=by
 unfold QcL;repeat' split
 all_goals exact dE.refl s
end
theorem Qha{fs:List aG}{k:Nat}{x:aG}(hx:fs[k]?=some x)(he:jm (ae fs:Int) x){t:Int}(h:(x.e=0/\t=x.a)\/(x.e=1/\(t=x.a\/t=x.b))):0<=t/\t∈tg (au fs) (k:Int):=by
 unfold jm at he;have h0:0<=t/\t<(ae fs:Int):=oM;refine⟨h0.1,?_⟩;unfold tg;rw[ax oM,cN,gS hx];show t∈Ch (ae (au fs)) x.sb;unfold Ch;rw[bM,dY];refine⟨?_,?_⟩
 ·show t∈(if x.e=0 then[x.a]else if x.e=1 then(if x.a=x.b then[x.a]else[x.a,x.b])else[]);rcases h with⟨h1,h2⟩|⟨h1,h2⟩
  ·rw[ax h1,h2];exact cF.2 rfl
  ·rw[ao oM,ax h1];split
   ·rename_i e;rw[cF];rcases h2 with h2|h2
    ·exact h2
    ·rw[h2,e]
   ·rcases h2 with h2|h2
    ·rw[h2];exact cK ..
    ·rw[h2];exact cr _ (cK ..)
 ·unfold jS;simp only[bu,aU];exact h0
theorem X2{l:ah}{v:Int}(h:v∈l):l[gI l v]?=some v:=by
 induction l with
 |nil=>cases h
 |cons a l ih=>
  unfold gI;by_cases e:a=v
  ·rw[ax e,e];rfl
  ·rw[ao e];rcases cG.1 h with h|h
   ·exact absurd h.symm e
   ·rw[getElem?_cons_succ];exact ih h
def Qfj(fs:List aG)(k fr:Int):Prop:=(k=0/\fr= -1)\/(0<=k/\0<=fr/\fr<(ae fs:Int)/\k∈tg (au fs) fr)
def PV(E:Env0)(i:aQ)(l:ah)(u:Int):Prop:=∀(call:Int->ah->dT->eH Int) (s:dT),cP E call i l s= .ok u s
theorem zE{u:Int}(h0:0<=u):∀(l:List (Int×Int)) (v:ah),(∀e,e∈l->0<=e.1/\e.1≠u)->(lL v l).getD u.toNat 0=v.getD u.toNat 0
 |[],_,_=>rfl
 |(d,a)::l,v,h=>by show(lL (v.set d.toNat a) l).getD u.toNat 0=_;have h1:=h (d,a) (cK ..);rw[zE h0 l _ λe he=>h e (cr _ he),CI,ao];intro hc;have h2:0<=d:=h1.1;exact h1.2 (show d=u by omega)
theorem Ef{d a:Int}:∀(l:List (Int×Int)) (v:ah),(l.map (·.1)).Nodup->(∀e,e∈l->0<=e.1)->(d,a)∈l->d.toNat<ae v->(lL v l).getD d.toNat 0=a
 |[],_,_,_,h,_=>by cases h
 |(d',a')::l,v,hn,h0,hm,hd=>by
  show(lL (v.set d'.toNat a') l).getD d.toNat 0=_;rw[gu,qk]at hn;have h0d:=h0 _ hm;rcases cG.1 hm with e|hm
  ·injection e with e1 e2;subst e1 e2;rw[zE h0d l _ λe he=>⟨h0 e (cr _ he),λee=>hn.1 (aO.2 ⟨e,he,ee⟩)⟩,CI,ax ⟨rfl,hd⟩]
  ·exact Ef l _ hn.2 (λe he=>h0 e (cr _ he)) hm (by rw[lj];exact hd)
section
variable{fs:List aG}{nm:ByteArray}{pa va:Int}{k j:Nat}{x:aG}{u fr:Int}{σ:Int -> Int}
theorem Qhb(hx:fs[k]?=some x){m:Int}(h:(u,(k:Int),m)∈bQ fs):m<(ae x.insts:Int):=by
 obtain⟨y,hy,hm⟩:=wx h;rw[show((k:Int)).toNat=k from cN k,hx]at hy;injection hy with hy;subst hy;exact hm
theorem QcM(h:eU nm pa va fs)(iX:(de fs:Int)<=20000)(hf0:0<=fr)(hf1:fr<(ae fs:Int))(hk:(k:Int)∈tg (au fs) fr)(hu:Av pa va fs u (k:Int) (-1)):Av pa va fs u fr 20000:=by
 obtain⟨h1,h2,h3⟩:=(nC h).1 hu;refine(nC h).2 ⟨h1,h2,h3.imp id ?_⟩;rintro⟨c,m,hd,h4⟩;refine⟨c,m,hd,?_⟩;have hm:=rf hd;rcases h4 with⟨_,h4⟩|⟨h4,h5⟩
 ·have: -1<=m:=hm.2.2;omega
 ·by_cases e:c=fr
  ·refine .inl ⟨e,?_⟩;obtain⟨y,hy,hl⟩:=wx hd;have:=DF hy;have hl:m<(ae y.insts:Int):=hl;omega
  ·exact .inr ⟨e,fun⟨hc,hr⟩=>h5 ⟨hc,.step hr (jq.2 ⟨hk,λee=>h4 ee.symm⟩)⟩⟩
theorem I9(h:eU nm pa va fs)(hx:fs[k]?=some x)(hu:Av pa va fs u (k:Int) 20000):Av pa va fs u (k:Int) (ae x.insts:Int):=by
 obtain⟨h1,h2,h3⟩:=(nC h).1 hu;refine(nC h).2 ⟨h1,h2,h3.imp id ?_⟩;rintro⟨c,m,hd,h4⟩;refine⟨c,m,hd,h4.imp (fun⟨e,_⟩=>⟨e,?_⟩) id⟩;subst e;exact Qhb hx hd
theorem QcN(h:eU nm pa va fs)(hx:fs[k]?=some x)(hu:Av pa va fs u (k:Int) 0):Av pa va fs u (k:Int) (-1)\/∃p,p∈x.ak/\p.dst=u:=by
 obtain⟨h1,h2,h3⟩:=(nC h).1 hu;rcases h3 with h3|⟨c,m,hd,⟨e,h4⟩|h4⟩
 ·exact .inl ((nC h).2 ⟨h1,h2,.inl h3⟩)
 ·subst e;obtain⟨k',y,hy,e,h5⟩:=fL.1 hd;have:k'=k:=oM;subst this;rw[hx]at hy;injection hy with hy;subst hy;rcases h5 with⟨_,p,hp,e⟩|⟨j,i,_,_,_,e⟩
  ·exact .inr ⟨p,hp,e⟩
  ·omega
 ·exact .inl ((nC h).2 ⟨h1,h2,.inr ⟨c,m,hd,.inr h4⟩⟩)
theorem Ra(h:eU nm pa va fs)(hx:fs[k]?=some x){i:aQ}(hi:x.insts[j]?=some i)(hu:Av pa va fs u (k:Int) ((j+1:Nat):Int)):Av pa va fs u (k:Int) (j:Int)\/(aJ i.op/\i.dst=u):=by
 obtain⟨h1,h2,h3⟩:=(nC h).1 hu;rcases h3 with h3|⟨c,m,hd,⟨e,h4⟩|h4⟩
 ·exact .inl ((nC h).2 ⟨h1,h2,.inl h3⟩)
 ·subst e;by_cases hm:m<(j:Int)
  ·exact .inl ((nC h).2 ⟨h1,h2,.inr ⟨_,m,hd,.inl ⟨rfl,hm⟩⟩⟩)
  ·obtain⟨k',y,hy,e,h5⟩:=fL.1 hd;have:k'=k:=oM;subst this;rw[hx]at hy;injection hy with hy;subst hy;rcases h5 with⟨e,_⟩|⟨j',i',tc,F8,e,e'⟩
   ·omega
   ·have:j'=j:=oM;subst this;rw[hi]at tc;injection tc with tc;subst tc;exact .inr ⟨F8,e⟩
 ·exact .inl ((nC h).2 ⟨h1,h2,.inr ⟨c,m,hd,.inr h4⟩⟩)
theorem X3(h:eU nm pa va fs)(hx:fs[k]?=some x){p:cV}(hp:p∈x.ak)(hu:Av pa va fs u (k:Int) (-1)):p.dst≠u:=by
 rintro rfl;exact Xr h (fL.2 ⟨k,x,hx,rfl,.inl ⟨rfl,p,hp,rfl⟩⟩) hu
theorem Qhc(h:eU nm pa va fs)(hx:fs[k]?=some x){i:aQ}(hi:x.insts[j]?=some i)(hm:aJ i.op)(hu:Av pa va fs u (k:Int) (j:Int)):i.dst≠u:=by
 rintro rfl;exact Xr h (fL.2 ⟨k,x,hx,rfl,.inr ⟨j,i,hi,hm,rfl,rfl⟩⟩) hu
theorem G3{v:ah}{d u w:Int}(h0:0<=d)(h1:0<=u)(h:d≠u):(v.set d.toNat w).getD u.toNat 0=v.getD u.toNat 0:=by rw[CI,ao oM]
theorem LF{v:ah}{d w:Int}(h:d.toNat<ae v):(v.set d.toNat w).getD d.toNat 0=w:=by rw[CI,ax ⟨rfl,h⟩]
end
def Ro(g:Int->Int)(i:aQ):Int×Int:=if 40<=i.op then nD (i.op-40) (g (i.args.getD 0 0))else cW (i.op-16) (g (i.args.getD 0 0)) (g (i.args.getD 1 0))
def AO(fs:List aG)(i:aQ):Prop:=∃(k:Nat) (x:aG) (j:Nat),fs[k]?=some x/\x.insts[j]?=some i
inductive Kn(fs:List aG):Int->Int->Prop
 |const {i:aQ}:AO fs i->i.op=1->Kn fs i.dst i.n
 |Qdc {i:aQ} {g:Int->Int}:AO fs i->16<i.op->(∀a,a∈i.args->Kn fs a (g a))->(Ro g i).2=0->Kn fs i.dst (Ro g i).1
def KnT(fs:List aG)(kn:KN):Prop:=∀u:Int,0<=u->CL kn u=true->Kn fs u (ji kn u)
def FoI(fs:List aG)(i i':aQ):Prop:=i'=i.e0\/(i'.op=1/\i'.args=[]/\i'.dst=i.dst/\aJ i.op/\Kn fs i.dst i'.n)
def FoP(l:ah)(p:cV)(q:da):Prop:=q.dst=p.dst/\∀(i:Nat) (s a:Int),q.from_[i]?=some s->q.args[i]?=some a->∃m:Nat,l[m]?=some s/\p.args[m]?=some a
structure FoB(fs:List aG)(k:Nat)(x:aG)(y:bp):Prop where
 insts:gH (FoI fs) x.insts y.insts
 ak:gH (FoP (bO (au fs) (k:Int))) x.ak y.ak
 ends:(y.e=x.e/\y.v=x.v/\y.a=x.a/\y.b=x.b)\/(x.e=1/\y.e=0/\∃n,Kn fs x.v n/\y.a=if n=0 then x.b else x.a)
structure TE(fs:List aG)(ks:List bp):Prop where
 len:ae ks=ae fs
 at_:∀(k:Nat) (x:aG) (y:bp),fs[k]?=some x->ks[k]?=some y->y.gone=false->FoB fs k x y
section
variable{fs:List aG}{ks:List bp}{kn:KN}{nm:ByteArray}{pa va pa' Yq:Int}{k:Nat}{x:aG}{y:bp}
theorem TE.from_(fs:List aG):TE fs (gM fs):=by
 refine⟨jh fs,λk x y hx hy _=> ?_⟩;rw[mq hx]at hy;injection hy with hy;subst hy;refine⟨gH.map λi _=> .inl rfl,gH.map λp _=>⟨rfl,λi s a hs ha=>⟨i,hs,ha⟩⟩,.inl ⟨rfl,rfl,rfl,rfl⟩⟩
theorem TE.prune(h:TE fs ks)(hc:vL ks):TE fs (dW ks):=by
 refine⟨by rw[gK,h.len],λk x y hx hy hg=> ?_⟩;obtain⟨z,hz,Rg,_,rfl⟩:=wU hc hy hg;have hb:=h.at_ k x z hx hz Rg;refine⟨hb.insts,⟨by show _=ae (z.ak.map _);rw[bl,hb.ak.1],λj p q hp hq=> ?_⟩,hb.ends⟩;have hq:(z.ak.map _)[j]?=some q:=hq;rw[aL,jJ]at hq;obtain⟨r,hr,rfl⟩:=hq;obtain⟨h1,h2⟩:=hb.ak.2 j p r hp hr;refine⟨h1,λi s a hs ha=> ?_⟩;obtain⟨_,j',hj,hja⟩:=yo hs ha;exact h2 j' s a hj hja
theorem yx(h:eU nm pa va fs){i:aQ}(hi:AO fs i)(hm:aJ i.op):pa<=i.dst/\i.dst<va/\0<=i.dst:=by
 obtain⟨k,x,j,hx,hj⟩:=hi;have:=IW h (fL.2 ⟨k,x,hx,rfl,.inr ⟨j,i,hj,hm,rfl,rfl⟩⟩);have:=h.par;omega
theorem Qdd(h:eU nm pa va fs){i:aQ}(hi:AO fs i){a:Int}(ha:a∈i.args):0<=a:=by
 obtain⟨k,x,j,hx,hj⟩:=hi;exact(zw h hx hj ha).1
theorem O9(h:eU nm pa va fs):∀(xl yl a b:List aQ) (kn:KN) (t:Bool),gH (FoI fs) xl yl->gH (FoI fs) a b->(∀i,i∈xl->AO fs i)->KnT fs kn->KnT fs (yl.foldl eF (b,kn,t)).2.1/\gH (FoI fs) (a++xl) (yl.foldl eF (b,kn,t)).1
 |[],[],a,b,kn,t,_,KJ,_,hk=>⟨hk,by rw[iq];exact KJ⟩
 |[],_::_,_,_,_,_,hl,_,_,_=>by have:=hl.1;simp at this
 |_::_,[],_,_,_,_,hl,_,_,_=>by have:=hl.1;simp at this
 |i::xl,i'::yl,a,b,kn,t,hl,KJ,hm,hk=>by
  have h0:=hl.2 0 i i' rfl rfl;have JY:gH (FoI fs) xl yl:=⟨by have:=hl.1;simpa using this,λq u v hu hv=>hl.2 (q+1) u v hu hv⟩;have F8:=λj (hj:j∈xl)=>hm j (cr _ hj)
  have e:a++i::xl=(a++[i])++xl:=sI;rw[lG,e];by_cases hd:iZ kn i'
  ·rw[o1 hd];obtain⟨q1,q2,q3⟩:=hd;have hia:=hm i (cK ..);rcases h0 with e0|⟨e1,_⟩
   ·have q1:16<i.op:=by rw[e0]at q1;exact q1
    have nB:aJ i.op:=by unfold aJ;omega
    have hdr:=yx h hia nB;have ed:i'.dst=i.dst:=by rw[e0];rfl
    have er:iR kn i'=Ro (ji kn) i:=by rw[e0];rfl
    have hK:Kn fs i.dst (iR kn i').1:=by rw[er];refine .Qdc hia q1 (λa ha=>hk a (Qdd h hia ha) ?_) (by rw[<-er];exact q3);unfold lU at q2;exact gQ.1 q2 a (by rw[e0];exact ha)
    refine O9 h xl yl (a++[i]) (b++[oq kn i']) _ true JY (KJ.snoc (.inr ⟨rfl,rfl,ed,nB,hK⟩)) F8 λu hu hb=> ?_
    unfold CL at hb;unfold ji;rw[Eo]at hb⊢;split at hb
    ·rename_i hc;rw[ax hc];have eu:u=i.dst:=by have:=hc.1;rw[ed]at this;omega
     rw[eu];exact hK
    ·rename_i hc;rw[ao hc];exact hk u hu hb
   ·omega
  ·rw[rz hd];exact O9 h xl yl (a++[i]) (b++[i']) kn t JY (KJ.snoc h0) F8 hk
theorem Qho(h:eU nm pa va fs)(hx:fs[k]?=some x)(hb:FoB fs k x y)(hv:y.e=1->0<=y.v)(hk:KnT fs kn):KnT fs (gr kn false y.insts).2.1/\FoB fs k x (bK kn y):=by
 obtain⟨q1,q2⟩:=O9 h x.insts y.insts [] [] kn false hb.insts gH.nil (λi hi=>by obtain⟨j,hj⟩:=bq.1 hi;exact⟨k,x,j,hx,hj⟩) hk
 rw[qa]at q2;refine⟨q1,?_⟩;unfold bK;split
 ·rename_i he;refine⟨q2,hb.ak,.inr ?_⟩;obtain⟨e1,e2⟩:=he;rcases hb.ends with⟨g1,g2,g3,g4⟩|⟨_,g2,_⟩
  ·have:=q1 y.v (hv e1) e2;refine⟨by rw[<-g1];exact e1,rfl,_,by rw[<-g2];exact this,?_⟩;show(if _ then y.b else y.a)=_;rw[g3,g4];rfl
  ·omega
 ·exact⟨q2,hb.ak,hb.ends⟩
theorem Qde{kn:KN}(h2:y.insts=[])(h3:y.e=2):(gr kn false y.insts).2.1=kn:=by rw[h2];rfl
theorem Qdf(kn:KN)(y:bp):(bK kn y).gone=y.gone:=by unfold bK;split<;>rfl
theorem Rp{nm':bo}(h:eU nm pa va fs)(hg:j4 nm' pa' Yq ks)(hr:TE fs ks)(hk:KnT fs kn):∀m,m<=ae ks->KnT fs (fk (ks.take m) kn).2.1/\(fk (ks.take m) kn).1.length=m/\∀(k:Nat) (x:aG) (z:bp),fs[k]?=some x->(fk (ks.take m) kn).1[k]?=some z->z.gone=false->FoB fs k x z
 |0,_=>⟨hk,rfl,λk x z _ hz _=>by have:([]:List bp)[k]?=some z:=hz;simp at this⟩
 |m+1,hm=>by
  obtain⟨p1,p2,p3⟩:=Rp h hg hr hk m oM;obtain⟨y,hy⟩:=aP (l:=ks) (i:=m) oM;obtain⟨x,hx⟩:=aP (l:=fs) (i:=m) (by rw[<-hr.len];omega);obtain⟨hk1,he⟩:=aW.1 hy;have e:ks.take (m+1)=ks.take m++[y]:=by rw[dh hk1,he]
  have e2:fk (ks.take (m+1)) kn=ot (fk (ks.take m) kn) y:=by unfold fk;rw[e,sq];rfl
  obtain⟨s,hs⟩:∃s,s=fk (ks.take m) kn:=⟨_,rfl⟩;rw[e2,<-hs];rw[<-hs]at p1 p2 p3;have hym:=aI hy;have key:KnT fs (gr s.2.1 false y.insts).2.1/\(y.gone=false->FoB fs m x (bK s.2.1 y)):=by
   cases Tw:y.gone with
   |true=>
    obtain⟨_,g2,g3,_⟩:=hg.zx.gone y hym Tw;rw[Qde g2 g3];exact⟨p1,λe=>by cases e⟩
   |false=>
    obtain⟨q1,q2⟩:=Qho h hx (hr.at_ m x y hx hy Tw) (λe=>(hg.fv y hym (.inl e)).1) p1;exact⟨q1,λ_=>q2⟩
  refine⟨key.1,by show ae (s.1++[bK s.2.1 y])=_;rw[dG,p2];rfl,λk x' z rR hz Rg=> ?_⟩;have hz:(s.1++[bK s.2.1 y])[k]?=some z:=hz;rw[getElem?_append]at hz;split at hz
  ·exact p3 k x' z rR hz Rg
  ·rename_i hkm;have h9:=(aW.1 hz).1;have ek:k-ae s.1=0:=by simp at h9;omega
   rw[ek]at hz;injection hz with hz;have ek:k=m:=oM;subst ek;rw[hx]at rR;injection rR with rR;subst rR;rw[<-hz];refine key.2 ?_;rw[<-hz,Qdf]at Rg;exact Rg
theorem Ji{nm':bo}(h:eU nm pa va fs):∀(f:Nat) (ks:List bp) (kn:KN),j4 nm' pa' Yq ks->TE fs ks->KnT fs kn->TE fs (oB f ks kn)
 |0,_,_,_,hr,_=>hr
 |f+1,ks,kn,hg,hr,hk=>by
  obtain⟨p1,p2,p3⟩:=Rp h hg hr hk (ae ks) (cH _);rw[gC]at p1 p2 p3;unfold oB;split
  ·exact Ji h f _ _ (zJ hg (Rj ks kn).less) ⟨by rw[p2,hr.len],p3⟩ p1
  ·split
   ·exact Ji h f _ _ (mf hg).1 (hr.prune hg.zx) hk
   ·exact hr.prune hg.zx
theorem TF(h:eU nm pa va fs)(n:Nat)(hn:O6 n (jV (gM fs))):KnT fs (kk (gM fs) n):=by
 intro u hu hb;obtain⟨i,hi,h1,h2⟩:=LN _ _ _ hb;have h3:=Er hn i hi h1;obtain⟨y,hy,hiy⟩:=fG.1 hi;obtain⟨k,hk⟩:=bq.1 hy;obtain⟨x,hx,rfl⟩:=vc rfl hk;obtain⟨i0,Ti,rfl⟩:=aO.1 (show i∈x.insts.map aQ.e0 from hiy);obtain⟨j,hj⟩:=bq.1 Ti;have hia:AO fs i0:=⟨k,x,j,hx,hj⟩;have h1:i0.op=1:=h1;have hd:=yx h hia (by rw[h1];exact mW);have h2:i0.dst.toNat=u.toNat:=h2;have eu:u=i0.dst:=oM;have e:ji (kk (gM fs) n) u=i0.n:=by unfold ji;rw[<-h2];have h3:(kk (gM fs) n).getD i0.dst.toNat (false,0)=(true,i0.n):=h3;rw[h3]
 rw[e,eu];exact .const hia h1
theorem Qdg{nm':bo}(h:eU nm pa va fs)(hv:cS nm' pa' Yq fs=0):TE fs (uq Yq fs):=by
 obtain⟨hg,_,_⟩:=kh hv;have hk:=zH hg;obtain⟨n,hn⟩:=lk (show 0<=Yq by have:=hg.par;omega);have yO:=Je hg.par.1 hn hk.1.once;unfold uq s9;rw[show Yq.toNat=n by omega];exact Ji h _ _ _ hk.1 (.from_ fs) (TF h n yO)
end
def AvE(pa va:Int)(fs:List aG)(fr u:Int):Prop:=(fr= -1/\Av pa va fs u 0 (-1))\/(0<=fr/\Av pa va fs u fr 20000)
section
variable{fs:List aG}{nm:ByteArray}{pa va:Int}{k j:Nat}{x:aG}{σ:Int -> Int}
theorem AP:∀(l:List (Int×Int)) (v:ah),ae (lL v l)=ae v
 |[],_=>rfl
 |(d,a)::l,v=>by show ae (lL (v.set d.toNat a) l)=_;rw[AP l,lj]
theorem LV(ps:List cV)(n:Nat)(v:ah):ae (kv ps n v)=ae v:=AP _ _
theorem Rq{ps:List cV}{n:Nat}{v:ah}{u:Int}(h0:0<=u)(h:∀p,p∈ps->0<=p.dst/\p.dst≠u):(kv ps n v).getD u.toNat 0=v.getD u.toNat 0:=by
 unfold kv;refine zE h0 _ _ λe he=> ?_
 obtain⟨p,hp,rfl⟩:=aO.1 he;exact h p hp
theorem LW{ps:List cV}{n:Nat}{v:ah}{p:cV}(hp:p∈ps)(hn:(ps.map (λp=>p.dst)).Nodup)(h0:∀p,p∈ps->0<=p.dst)(hl:p.dst.toNat<ae v):(kv ps n v).getD p.dst.toNat 0=v.getD (p.args.getD n 0).toNat 0:=by
 unfold kv;refine Ef _ _ ?_ (λe he=> ?_) (aO.2 ⟨p,hp,rfl⟩) hl
 ·rw[dz];exact hn
 ·obtain⟨q,hq,rfl⟩:=aO.1 he;exact h0 q hq
theorem Qdh(h:eU nm pa va fs)(iX:(de fs:Int)<=20000){fr u:Int}(Vi:Qfj fs (k:Int) fr)(hu:Av pa va fs u (k:Int) (-1)):AvE pa va fs fr u:=by
 rcases Vi with⟨h1,h2⟩|⟨_,h2,h3,h4⟩
 ·exact .inl ⟨h2,by rw[h1]at hu;exact hu⟩
 ·exact .inr ⟨h2,QcM h iX h2 h3 h4 hu⟩
theorem Yr(h:eU nm pa va fs){u:Int}(hu:Av pa va fs u 0 (-1)):u<pa:=by
 obtain⟨_,_,h3⟩:=(nC h).1 hu;rcases h3 with h3|⟨c,m,hd,⟨_,h4⟩|⟨h4,h5⟩⟩
 ·exact h3
 ·have: -1<=m:=(rf hd).2.2;omega
 ·exact absurd (Dm.Cs h5) h4
end
theorem uv(l:ah)(k:Nat)(v:Int):(ints l).set (k*1) (vI v)=ints (l.set k v):=by rw[fx];simp[ints,qL]
end Go.Mor





namespace Go.Mor
def Qnv(l:List Eu):Nat:=(l.map (λf=>Qdm f.body)).sum
def Ew(l:List cR):Nat:=(l.map (λd=>ae d.words)).sum
def Pe(m:gP):Prop:=20000<Qnv m.fns\/16384<Ew m.gE
instance (m : gP) : Decidable (Pe m) := by unfold Pe; infer_instance
def Qfn(l:List Eu)(j:Nat):Prop:=∀(i:Nat) (f:Eu),i<j->l[i]?=some f->fnV f=true/\f.nm∉(l.take i).map (·.nm)
def Yv(l:List cR)(j:Nat):Prop:=∀(i:Nat) (d:cR),i<j->l[i]?=some d->uu d/\d.nm∉(l.take i).map (·.nm)
noncomputable instance (l : List Eu) (j : Nat) : Decidable (Qfn l j) := Classical.propDecidable _
noncomputable instance (l : List cR) (j : Nat) : Decidable (Yv l j) := Classical.propDecidable _
noncomputable def Qht(m:gP):Int:=if Pe m then 12 else if Qfn m.fns (ae m.fns)/\Yv m.gE (ae m.gE)then 0 else 4
theorem Jl{l:List cR}{d:cR}(h:d∈l):ae d.words<=Ew l:=by
 unfold Ew;induction l with
 |nil=>cases h
 |cons x r ih=>
  simp only[gu,jN];rcases cG.1 h with rfl|h
  ·omega
  ·have:=ih h;omega
def Qnw(ms:List gP)(mem:Int)(inp:ah)(j:Nat):Prop:=(mem<1\/mem>262144\/(ae inp:Int)>4096)\/∃(i:Nat) (m:gP),i<j/\ms[i]?=some m/\Qht m≠0
noncomputable instance (ms : List gP) (mem : Int) (inp : List Int) (j : Nat) : Decidable (Qnw ms mem inp j) := Classical.propDecidable _
theorem TK{l:ah}{N:Nat}(hn:l.Nodup)(hr:∀x,x∈l->0<=x/\x<(N:Int)):ae l<=N:=by
 have h:=List.Nodup.length_le_of_subset hn (l₂:=(List.range N).map (λi:Nat=>(i:Int))) (λx hx=>by obtain⟨h1,h2⟩:=hr x hx;exact aO.2 ⟨x.toNat,dp.2 oM,oM⟩)
 simpa using h
theorem Qdo{d:cR}(hq:uu d)(hl:ae d.words<=16384):d.WF:=by
 have hn:(d.refs.map (·.1)).Nodup:=by
  refine tx.2 λi j hi hj hij he=> ?_
  have NI:j<ae d.refs:=by simpa using hj
  obtain⟨r,hr⟩:=aP (l:=d.refs) (i:=j) NI;obtain⟨r',hr'⟩:=aP (l:=d.refs) (i:=i) oM;simp only[getElem_map]at he;have he2:r'.1=r.1:=by rw[(aW.1 hr).2.symm,(aW.1 hr').2.symm];exact he
  have:=(hq.1 j r hr).2.2;apply this;rw[<-he2];refine aO.2 ⟨r',?_,rfl⟩;exact bq.2 ⟨i,by rw[uQ hij];exact hr'⟩
 have hr:∀x,x∈d.refs.map (·.1)->0<=x/\x<(ae d.words:Int):=λx hx=>by obtain⟨r,hr,rfl⟩:=aO.1 hx;obtain⟨i,hi⟩:=bq.1 hr;exact(hq.1 i r hi).2.1
 refine⟨hq.2,hl,?_,λr hr=> ?_⟩
 ·have:=TK hn hr;rw[bl]at this;omega
 ·obtain⟨i,hi⟩:=bq.1 hr;exact(hq.1 i r hi).2.1
def gg.can(f:gg):gg:={f with qA:=none,qc:=0,bO:=f.bO.map (λq=>(none,0,q.2.2))}
def mh(x:eY):gg:=⟨x.nm,x.wk,x.pa,x.va,x.A,x.c,x.bF,none,0,(xO (au x.bF)).map (λl=>(none,0,l))⟩
theorem Jm(f:gg)(k:Nat):f.can.src k=f.src k:=by
 unfold gg.src gg.can;simp only[et,aL];cases f.bO[k]?<;>rfl
section
variable{E:Env0}{call:Int -> List Int -> dT -> eH Int}
def Env0.can(E:Env0):Env0:={E with fns:=E.fns.map gg.can}
theorem Hg:∀(is:List aQ) (v:ah) (s:dT),dZ E.can call is v s=dZ E call is v s
 |[],_,_=>rfl
 |i::r,v,s=>by show((ey E s).bind λ_ s=>(cP E call i (gb v i.args) s).bind λu s=>dZ E.can call r (if 0<=i.dst/\aJ i.op then v.set i.dst.toNat u else v) s)=((ey E s).bind λ_ s=>(cP E call i (gb v i.args) s).bind λu s=>dZ E call r (if 0<=i.dst/\aJ i.op then v.set i.dst.toNat u else v) s);congr 1;funext _ s;congr 1;funext u s;exact Hg r _ s
theorem TL(f:gg)(k from_:Int)(v:ah)(s:dT):iH E.can call f.can k from_ v s=iH E call f k from_ v s:=by
 unfold iH;rw[show f.can.bF=f.bF from rfl];cases f.bF[k.toNat]? with
 |none=>rfl
 |some x=>
  show(dZ E.can call x.insts (kv x.ak (gI (f.can.src k.toNat) from_) v) s).bind _=(dZ E call x.insts (kv x.ak (gI (f.src k.toNat) from_) v) s).bind _;rw[Hg,Jm];rfl
theorem Hh{b b':gg->Int->Int->ah->dT->eH Int}(h:∀f k fr v s,b' f.can k fr v s=b f k fr v s)(n:Int)(l:ah)(s:dT):je E.can b' n l s=je E b n l s:=by
 have hlen:ae E.can.fns=ae E.fns:=by show ae (E.fns.map gg.can)=_;simp
 by_cases hr:n<1\/n>=(ae E.fns:Int)+1
 ·rw[o0 hr,o0 (by rw[hlen];exact hr)]
 obtain⟨f,hf⟩:=aP (l:=E.fns) (i:=(n-1).toNat) oM;have hf':E.can.fns[(n-1).toNat]?=some f.can:=by show(E.fns.map gg.can)[(n-1).toNat]?=_;rw[aL,hf];rfl
 rw[ug hr hf,ug (by rw[hlen];exact hr) hf',h];rfl
theorem Ex:∀(g:Nat) (f:gg) (k fr:Int) (v:ah) (s:dT),lT E.can g f.can k fr v s=lT E g f k fr v s
 |0,_,_,_,_,_=>rfl
 |g+1,f,k,fr,v,s=>by
  have hc:cX E.can g=cX E g:=by funext n l s;exact Hh (Ex g) n l s
  rw[oL,oL,hc,TL];congr 1;funext r s;rw[Ex g]
theorem Yw(g:Nat)(n:Int)(l:ah)(s:dT):cX E.can g n l s=cX E g n l s:=Hh (Ex g) n l s
theorem L0(g:Nat):∀(l:List bo) (s:dT),kK E.can g l s=kK E g l s
 |[],_=>rfl
 |b::r,s=>by
  show(match jd E.names b with|none=>eH.stop 5 0 s|some n=>(cX E.can g n [] s).bind λ_ s=>kK E.can g r s)=(match jd E.names b with|none=> .stop 5 0 s|some n=>(cX E g n [] s).bind λ_ s=>kK E g r s);cases jd E.names b with
  |none=>rfl
  |some n=>
   show(cX E.can g n [] s).bind _=(cX E g n [] s).bind _;rw[Yw];congr 1;funext _ s;exact L0 g r s
theorem Qdp(cs:List cR)(l:List bo):pG E.can cs l=pG E cs l:=by
 unfold pG;rw[L0];rfl
end
def mX(cs:List eY)(j:Nat):List (bo×Int):=(cs.take j).zipIdx.map (λp=>(p.1.nm,((p.2+1:Nat):Int)))
def kX(fs:List eY)(ds:List cR)(mem:Int)(inp:ah)(fuel:Int):Env0:=⟨(iW fs).map mh,mX (iW fs) (ae (iW fs)),gJ (bz ds) (ae (bz ds)),inp,mem.toNat,min (max fuel 0) 4194304⟩
def Qhu{α:Type}(B:Prop)(Q:α->Prop)(l:List α)(j:Nat):Prop:=B\/∃(i:Nat) (x:α),i<j/\l[i]?=some x/\Q x
section
variable{α:Type}{B:Prop}{Q:α -> Prop}{l:List α}{j:Nat}{x:α}{b:Bool}
theorem Ey(h:¬Qhu B Q l (ae l)):¬B/\∀x,x∈l->¬Q x:=⟨λhb=>h (.inl hb),λx hx hq=>by
 obtain⟨i,hi⟩:=bq.1 hx;exact h (.inr ⟨i,x,(aW.1 hi).1,hi,hq⟩)⟩
end
def Yx(mem:Int)(inp:ah):Prop:=mem<1\/mem>262144\/(ae inp:Int)>4096
def Qkx(ds:List cR)(mem:Int)(inp:ah)(j:Nat):Prop:=Qhu (Yx mem inp) (λd=>¬uu d) ds j
def FB(fs:List eY)(ds:List cR)(mem:Int)(inp:ah)(j:Nat):Prop:=Qhu (Qkx ds mem inp (ae ds)) (λf:eY=>¬cS f.nm f.pa f.va f.bF=0) fs j
noncomputable instance (fs : List eY) (ds : List cR) (mem : Int) (inp : List Int) (j : Nat) : Decidable (FB fs ds mem inp j) := Classical.propDecidable _
theorem pO{fs:List eY}{ds:List cR}{mem:Int}{inp:ah}(h:¬FB fs ds mem inp (ae fs)):(1<=mem/\mem<=262144/\ae inp<=4096)/\(∀d,d∈ds->uu d)/\∀f,f∈fs->cS f.nm f.pa f.va f.bF=0:=by
 obtain⟨h1,h2⟩:=Ey h;obtain⟨h3,h4⟩:=Ey h1;unfold Yx at h3;exact⟨oM,λd hd=>fy.1 (h4 d hd),λf hf=>fy.1 (h2 f hf)⟩
noncomputable def iL(fs:List eY)(ds:List cR)(bg:List bo)(mem:Int)(inp:ah)(fuel:Int):Out:=if FB fs ds mem inp (ae fs)then(5,0,[],0)else oz (pG (kX fs ds mem inp fuel) (bz ds) bg)
theorem Qhv{f:gg}{x:eY}(h:f.can=mh x)(kC:rH x.bF)(hn:ae x.bF<=1000)(hv:cS x.nm x.pa x.va x.bF=0):f.WF:=by
 have e:∀k,f.src k=(mh x).src k:=λk=>by rw[<-Jm f,h]
 have hb:f.bF=x.bF:=aK gg.bF h;have h1:f.nm=x.nm:=aK gg.nm h;have h2:f.pa=x.pa:=aK gg.pa h;have h3:f.va=x.va:=aK gg.va h;have h4:ae f.bO=ae x.bF:=by have:=aK (λg:gg=>ae g.bO) h;simp only[gg.can,mh,bl,DB,bM]at this;exact this
 refine Qku (by rw[hb];exact kC) (by rw[hb];exact hn) (by rw[h1,h2,h3,hb];exact hv) ⟨by rw[h4,hb],λk hk=> ?_⟩;rw[hb]at hk⊢;rw[e];unfold gg.src mh;simp only[et,aL];rw[pq (by rw[bM];exact hk)];rfl
theorem TM{f:gg}{x:eY}(h:f.can=mh x):f.cells=x.cells:=by
 have:f.can.cells=(mh x).cells:=by rw[h]
 exact this
theorem Jn{qs:List gg}{cs:List eY}(h:qs.map gg.can=cs.map mh){f:gg}(hf:f∈qs):∃x,x∈cs/\f.can=mh x:=by
 have this:f.can∈qs.map gg.can:=aO.2 ⟨f,hf,rfl⟩;rw[h]at this;obtain⟨x,hx,he⟩:=aO.1 this;exact⟨x,hx,he.symm⟩
theorem L1{S:Nat->Prop}{w:World}:RO S w (.gE none []):=RO.all (λr hr=>by
 simp only[CM,qG,cG,jt,fH]at hr;subst hr;exact⟨λi cs hi=>by simp at hi,λg hg=>by obtain⟨⟨i,cs,hi,_⟩,_⟩:=hg;simp at hi⟩)
def DIn(d:cR):Prop:=fg d.nm.size/\fg (ae d.words)/\fg (ae d.refs)/\∀r,r∈d.refs->In64 r.1/\fg r.2.size
structure rC(w:World)(fs:List eY)(fA:ar)(ds:List cR)(dA:ar)(bg:List bo)(gA:ar)(inp:ah)(iA:ar)(ic:Nat):Prop where
 len:ae fs<=1000
 cells:RO bI w (.qU fA 5 (fs.map eY.cells))
 ok:∀x,x∈fs->rH x.bF/\ae x.bF<=1000
 fn:∀x,x∈fs->RO bI w (.fn x.A x.bF)
 Yy:ae bg<=1000000
 bg:RO bI w (.rd gA (bg.map Value.string))
 Yz:ae inp<=ic
 inr:RO bI w (.rd iA (vK inp))
 bytes:∀b,b∈inp->0<=b/\b<=255
 L2:ae ds<=1000
 gE:RO bI w (.gE dA ds)
 din:∀d,d∈ds->DIn d
 TN:Ew ds<=16384
 dwi:∀d,d∈ds->∀x,x∈d.words->In64 x
theorem YA{w:World}{fs:List eY}{ds:List cR}{fA dA gA iA:ar}{bg:List bo}{inp:ah}{ic:Nat}{mem:Int}(hI:rC w fs fA ds dA bg gA inp iA ic)(hb:¬FB fs ds mem inp (ae fs)):∀d,d∈ds->d.WF:=λd hd=>Qdo ((pO hb).2.1 d hd) (iz (Jl hd) hI.TN)
theorem CP{fs:List eY}{ds:List cR}{bg:List bo}{mem:Int}{inp:ah}{fuel:Int}(hb:FB fs ds mem inp (ae fs)):iL fs ds bg mem inp fuel=(5,0,[],0):=by
 unfold iL;rw[ax hb]
structure uw(D:List aG->List aG->Prop)(fs gs:List eY):Prop where
 len:ae gs=ae fs
 at_:∀(i:Nat) (f g:eY),fs[i]?=some f->gs[i]?=some g->g.nm=f.nm/\g.wk=f.wk/\g.pa=f.pa/\g.va=f.va/\D f.bF g.bF
section
variable{D:List aG -> List aG -> Prop}{fs gs:List eY}
theorem uw.nil:uw D [] []:=⟨rfl,λi f g h=>by cases h⟩
theorem uw.snoc(h:uw D fs gs){f g:eY}(h1:g.nm=f.nm)(h2:g.wk=f.wk)(h3:g.pa=f.pa)(h4:g.va=f.va)(h5:D f.bF g.bF):uw D (fs++[f]) (gs++[g]):=by
 refine⟨by rw[dG,dG,h.len];rfl,λi a b ha hb=> ?_⟩;rw[getElem?_append]at ha hb;rw[h.len]at hb;by_cases e:i<ae fs
 ·rw[ax e]at ha hb;exact h.at_ i a b ha hb
 ·rw[ao e]at ha hb;have h9:=(aW.1 ha).1;have e9:i-ae fs=0:=by simp at h9;omega
  rw[e9]at ha hb;injection ha with ha;injection hb with hb;subst ha hb;exact⟨h1,h2,h3,h4,h5⟩
theorem uw.map{α:Type}(h:uw D fs gs){u:eY->α}(hu:∀(i:Nat) (f g:eY),fs[i]?=some f->gs[i]?=some g->u g=u f):gs.map u=fs.map u:=by
 refine fM λi=> ?_
 rw[aL,aL];by_cases hi:i<ae fs
 ·obtain⟨f,hf⟩:=aP hi;obtain⟨g,hg⟩:=aP (l:=gs) (i:=i) (by rw[h.len];exact hi);rw[hf,hg,ft,ft,hu i f g hf hg]
 ·rw[db (by rw[h.len];omega),db oM]
theorem uw.pick(h:uw D fs gs):∀(L:List Nat),(∀k,k∈L->k<ae fs)->uw D (L.filterMap (λk=>fs[k]?)) (L.filterMap (λk=>gs[k]?))
 |[],_=> .nil
 |k::L,hL=>by
  have ih:=h.pick L λq hq=>hL q (cr _ hq)
  obtain⟨f,hf⟩:=aP (hL k (cK ..));obtain⟨g,hg⟩:=aP (l:=gs) (i:=k) (by rw[h.len];exact hL k (cK ..));rw[filterMap_cons,filterMap_cons,hf,hg];refine⟨by show ae (_::_)=ae (_::_);rw[fh,fh,ih.len],λi a b ha hb=> ?_⟩;cases i with
  |zero=>
   injection ha with ha;injection hb with hb;subst ha hb;exact h.at_ k f g hf hg
  |succ i=>exact ih.at_ i a b ha hb
theorem uw.Qhw(h:uw D fs gs):uw D (iW fs) (iW gs):=by
 unfold iW cy;rw[h.map (u:=λf=>(f.nm,f.wk)) (λi f g hf hg=>by obtain⟨h1,h2,_⟩:=h.at_ i f g hf hg;rw[h1,h2]),h.len];exact h.pick _ λk hk=>dp.1 (dY.1 hk).1
theorem TP(h:uw D fs gs):mX gs (ae gs)=mX fs (ae fs):=by
 unfold mX;rw[cL (cH _),cL (cH _)];refine fM λi=> ?_
 rw[aL,aL,l6,l6];by_cases hi:i<ae fs
 ·obtain⟨f,hf⟩:=aP hi;obtain⟨g,hg⟩:=aP (l:=gs) (i:=i) (by rw[h.len];exact hi);rw[hf,hg];show some (g.nm,_)=some (f.nm,_);rw[(h.at_ i f g hf hg).1]
 ·rw[db (by rw[h.len];omega),db oM]
theorem L3{x:eY}{k:Nat}(hk:k<ae x.bF):(mh x).src k=bO (au x.bF) (k:Int):=by
 unfold gg.src mh;simp only[et,aL];rw[pq (by rw[bM];exact hk)];rfl
theorem TQ{fs:List eY}{ds:List cR}{bg:List bo}{mem:Int}{inp:ah}{fuel:Int}:0<=(iL fs ds bg mem inp fuel).2.2.2/\(iL fs ds bg mem inp fuel).2.2.2<=min (max fuel 0) 4194304:=by
 by_cases hb:FB fs ds mem inp (ae fs)
 ·rw[CP hb];exact⟨dv _,by show(0:Int)<=_;omega⟩
 ·have h:=X0 (E:=kX fs ds mem inp fuel) (by show 0<=min (max fuel 0) 4194304;omega) (bz ds) bg;have e:(iL fs ds bg mem inp fuel).2.2.2=(u7 (pG (kX fs ds mem inp fuel) (bz ds) bg)).steps:=by unfold iL;rw[ao hb];show(Tu _).2.2.steps=_;cases pG (kX fs ds mem inp fuel) (bz ds) bg<;>rfl
  rw[e];exact h
theorem Pf{ds:List cR}{bg:List bo}{mem:Int}{inp:ah}{fuel:Int}(h:uw D fs gs)(hv:∀g,g∈gs->cS g.nm g.pa g.va g.bF=0)(hS:∀(E E':Env0) (f g:eY),uj E E'->f∈fs->g.nm=f.nm->g.pa=f.pa->g.va=f.va->D f.bF g.bF->∃Inv,G1 E E' (mh f) (mh g) Inv)(hk:(iL fs ds bg mem inp fuel).1=1\/(iL fs ds bg mem inp fuel).1=2){m:Int}(Nq:(iL fs ds bg mem inp fuel).2.2.2<=m)(fI:m<=4194304):(iL gs ds bg mem inp m).1=(iL fs ds bg mem inp fuel).1/\(iL gs ds bg mem inp m).2.1=(iL fs ds bg mem inp fuel).2.1/\(iL gs ds bg mem inp m).2.2.1=(iL fs ds bg mem inp fuel).2.2.1:=by
 have hbf:¬FB fs ds mem inp (ae fs):=λhb=>by rw[CP hb]at hk;rcases hk with hk|hk<;>exact absurd hk (by show¬(5:Int)=_;omega)
 obtain⟨b1,b2,b3⟩:=pO hbf;have hbg:¬FB gs ds mem inp (ae gs):=by
  rintro(hb|⟨i,x,_,hx,hb⟩)
  ·rcases hb with hb|⟨i,x,_,hx,hb⟩
   ·unfold Yx at hb;omega
   ·exact hb (b2 x (aI hx))
  ·exact hb (hv x (aI hx))
 have e1:iL fs ds bg mem inp fuel=oz (pG (kX fs ds mem inp fuel) (bz ds) bg):=by unfold iL;rw[ao hbf]
 have e2:∀m,iL gs ds bg mem inp m=oz (pG (kX gs ds mem inp m) (bz ds) bg):=λm=>by unfold iL;rw[ao hbg]
 have hle:=X0 (E:=kX fs ds mem inp fuel) (by show 0<=min (max fuel 0) 4194304;omega) (bz ds) bg;have hf4:(kX fs ds mem inp fuel).fuel<=4194304:=by show min (max fuel 0) 4194304<=_;omega
 have hch:=h.Qhw;have hE:∀m,uj (kX fs ds mem inp fuel) (kX gs ds mem inp m):=λm=>⟨TP hch,rfl,rfl,rfl,by show ae ((iW gs).map mh)=ae ((iW fs).map mh);rw[bl,bl,hch.len]⟩
 have hF:∀m,Ee (kX fs ds mem inp fuel) (kX gs ds mem inp m):=λm i f f' h1 h2=>by have h1:((iW fs).map mh)[i]?=some f:=h1;have h2:((iW gs).map mh)[i]?=some f':=h2;rw[aL,jJ]at h1 h2;obtain⟨x,hx,rfl⟩:=h1;obtain⟨y,hy,rfl⟩:=h2;obtain⟨q1,q2,q3,q4,q5⟩:=hch.at_ i x y hx hy;exact hS _ _ x y (hE m) (jx (aI hx)) q1 q3 q4 q5
 rw[e1]at hk Nq⊢;cases hr:pG (kX fs ds mem inp fuel) (bz ds) bg with
 |ok a t=>
  rw[hr]at Nq hle;have Nq:t.steps<=m:=Nq;have hle:0<=t.steps/\_:=hle;have hkt:(kX gs ds mem inp m).fuel=m:=by show min (max m 0) 4194304=m;omega
  have h1:=XY (hE m) (hF m) (by rw[hkt];omega) (bz ds) bg;rw[hr]at h1;obtain⟨a',t',h2,h3,_⟩:=h1 (by rw[hkt];exact Nq);rw[e2];show(oz (pG (kX gs ds mem inp m) (bz ds) bg)).1=_/\(oz (pG (kX gs ds mem inp m) (bz ds) bg)).2.1=_/\(oz (pG (kX gs ds mem inp m) (bz ds) bg)).2.2.1=_;rw[h2];exact⟨rfl,rfl,h3.out⟩
 |stop k c t=>
  rw[hr]at Nq hle;have Nq:t.steps<=m:=Nq;have hle:0<=t.steps/\_:=hle;have hkt:(kX gs ds mem inp m).fuel=m:=by show min (max m 0) 4194304=m;omega
  rw[hr]at hk;have h1:=XY (hE m) (hF m) (by rw[hkt];omega) (bz ds) bg;rw[hr]at h1;obtain⟨t',h2,h3⟩:=h1 hk (by rw[hkt];exact Nq);rw[e2];show(oz (pG (kX gs ds mem inp m) (bz ds) bg)).1=_/\(oz (pG (kX gs ds mem inp m) (bz ds) bg)).2.1=_/\(oz (pG (kX gs ds mem inp m) (bz ds) bg)).2.2.1=_;rw[h2];exact⟨rfl,rfl,h3.out⟩
theorem TR{ds:List cR}{bg:List bo}{mem:Int}{inp:ah}{fuel:Int}(h:uw D fs gs)(hv:∀g,g∈gs->cS g.nm g.pa g.va g.bF=0)(hS:∀(E E':Env0) (f g:eY),uj E E'->f∈fs->g.nm=f.nm->g.pa=f.pa->g.va=f.va->D f.bF g.bF->∃Inv,G1 E E' (mh f) (mh g) Inv)(hk:(iL fs ds bg mem inp fuel).1=1\/(iL fs ds bg mem inp fuel).1=2):(iL gs ds bg mem inp (iL fs ds bg mem inp fuel).2.2.2).1=(iL fs ds bg mem inp fuel).1/\(iL gs ds bg mem inp (iL fs ds bg mem inp fuel).2.2.2).2.1=(iL fs ds bg mem inp fuel).2.1/\(iL gs ds bg mem inp (iL fs ds bg mem inp fuel).2.2.2).2.2.1=(iL fs ds bg mem inp fuel).2.2.1:=Pf h hv hS hk (dv _) (Int.le_trans TQ.2 oM)
end
def Rs(g:eY):bD:= .pk (Oo g.A g.c g.bF)
def fnC(gs:List eY):bh:=gs.flatMap eY.cells
theorem YB(gs:List eY)(g:eY):fnC (gs++[g])=fnC gs++g.cells:=by simp[fnC,qf]
theorem Qhx{w:World}{gs:List eY}(h:(bD.pk (gs.map Rs)).holds w){g:eY}(hg:g∈gs):(bD.fn g.A g.bF).holds w:=by
 have h1:(bD.pk (Oo g.A g.c g.bF)).holds w:=qv h (aO.2 ⟨g,hg,rfl⟩);exact GC (qv h1 (cK ..)) (qv h1 (cr _ (cK ..)))
theorem Qdq{w:World}{e n c:Nat}{A:ar}{gs:List eY}(h:(bD.row e 5 A n c (fnC gs)).holds w):(bD.qU A 5 (gs.map eY.cells)).holds w:=mV (f:=eY.cells) (size:=5) (λ_=>rfl) dQ h
structure L4(D:List aG->List aG->Prop)(fs gs:List eY):Prop where
 beh:uw D fs gs
 ok:∀g,g∈gs->rH g.bF/\ae g.bF<=1000/\cS g.nm g.pa g.va g.bF=0
section
variable{D:List aG -> List aG -> Prop}{fs gs:List eY}
theorem L4.nil:L4 D [] []:=⟨.nil,λg h=>by cases h⟩
theorem L4.next{k:Nat}{f:eY}(h:L4 D (fs.take k) gs)(hf:fs[k]?=some f){B:ar}{cB:Nat}{fd:List aG}(hd:D f.bF fd)(h1:rH fd)(h2:ae fd<=1000)(h3:cS f.nm f.pa f.va fd=0):L4 D (fs.take (k+1)) (gs++[⟨f.nm,f.wk,f.pa,f.va,B,cB,fd⟩]):=by
 obtain⟨hk,he⟩:=aW.1 hf;rw[dh hk,he];refine⟨h.beh.snoc rfl rfl rfl rfl hd,λg hg=> ?_⟩;rcases bV.1 hg with hg|hg
 ·exact h.ok g hg
 ·rw[cF]at hg;subst hg;exact⟨h1,h2,h3⟩
theorem rC.beh{w w':World}{L:List bD}{bg:List bo}{inp:ah}{fA hA gA iA:ar}{ic e n c i j:Nat}(h:rC w fs fA [] none bg gA inp iA ic)(hM:Mem bI w w' L)(hb:L4 D fs gs)(hi:L[i]?=some (.row e 5 hA n c (fnC gs)))(hj:L[j]?=some (.pk (gs.map Rs))):rC w' gs hA [] none bg gA inp iA ic where
 len:=by rw[hb.beh.len];exact h.len
 cells:=RO.of (Qdq (hM.get i hi));ok x hx:=⟨(hb.ok x hx).1,(hb.ok x hx).2.1⟩;fn x hx:=RO.of (Qhx (hM.get j hj) hx);Yy:=h.Yy;bg:=h.bg.at_ hM;Yz:=h.Yz;inr:=h.inr.at_ hM;bytes:=h.bytes;L2:=h.L2;gE:=h.gE.at_ hM;din:=h.din;TN:=h.TN;dwi:=h.dwi
end
def YC(fs gs:List eY)(bg:List bo)(inp:ah)(fuel:Int):Prop:=(iL fs [] bg 500 inp fuel).1=1\/(iL fs [] bg 500 inp fuel).1=2->(iL gs [] bg 500 inp (iL fs [] bg 500 inp fuel).2.2.2).1=(iL fs [] bg 500 inp fuel).1/\(iL gs [] bg 500 inp (iL fs [] bg 500 inp fuel).2.2.2).2.1=(iL fs [] bg 500 inp fuel).2.1/\(iL gs [] bg 500 inp (iL fs [] bg 500 inp fuel).2.2.2).2.2.1=(iL fs [] bg 500 inp fuel).2.2.1
end Go.Mor
