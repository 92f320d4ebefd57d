/-
  Texts of the proof, part 12.
-/
import Derived.Test.YtejbeeaomokjpaaZh11
import Derived.Test.YtejbeeaomokjpaaRows
set_option maxRecDepth 10000
namespace Go.Proofs.Ytejbeeaomokjpaa
open Go.Mor
theorem UR(l:ar)(k:Int)(A:aX)(c:Nat)(w:World)(hm:l.length≤1000000)(hA:RO ba w (.rd A (ints l))):Calls Try.prog 75 #[vS A l.length c,vI k] w (fE fun v w'=>v=vB (l.contains k)∧Mem ba w w' []):=by
 refine hZ 18 [vS A l.length c,vI k] Try.func75 ?_;have hM:=Mem.init w;refine bC<|bx<|bC<|cK 0 ?_;intro aC fr;refine gT (fun n_ a_ w_=>∃(j:Nat),n_=l.length-j∧Fr a_ 18 [(0,vS A l.length c),(1,vI k),(5,nV j)]∧Mem ba w w_ []∧(j≤l.length)∧((l.take j).contains k=false)) (n:=_) ⟨0,rfl,fr.kp [0,1,5],hM,oM,sI⟩ ?_;clear fr aC hM;rintro n aC w3 ⟨j,rfl,fr,M4,hj,hn⟩;revert aC;refine bx<|aQ<|aj 3<|gC (decide ((j:Int)<(l.length:Int))) fun B7 wv=> ?_
 refine aE ?_;cases B7;have c7:¬((j:Int)<(l.length:Int)):=of_decide_eq_false wv.symm;refine fT<|gq 0<|gr<|bC<|an<|cQ (vB false) ?_;exact⟨by rw[QM hn oM],M4⟩;have c7:(j:Int)<(l.length:Int):=of_decide_eq_true wv.symm;refine fN<|cg<|bx<|cK 1<|aQ<|aj 2 ?_;obtain⟨zi,rfl⟩:=ra (M4.ro hA) oM;refine eZ zi l.length 1 (j:Int)<|bq (aN zi (j:Int) 1) _ (kS (M4.ro hA) rfl oM oM)<|aj 1<|gC ((l.getD (j:Int).toNat 0)==k) fun JA pR=> ?_
 refine aE ?_;cases JA;have vq:¬((l.getD (j:Int).toNat 0)=k):=F6 pR;refine fT<|cg<|dh<|aj 1<|cy ((j:Int)+1)<|aj 1<|aE ?_;intro aC fr;exact⟨l.length-(j+1),oM,j+1,rfl,fr.kp [0,1,5],M4,oM,H2 hn vq oM⟩;have vq:(l.getD (j:Int).toNat 0)=k:=beq_iff_eq.1 pR.symm;refine fN<|bC<|an<|eu<|eu<|cQ (vB true) ?_;exact⟨by rw[Mw vq oM],M4⟩
theorem vr(nm wk pa va:Value)(A:aX)(c:Nat)(bs:List SB)(b:Int)(w:World)(jH:bs.length≤1000000)(hA:RO ba w (.blocks A bs)):Calls Try.prog 74 #[(.agg #[nm,wk,pa,va,vS A bs.length c]),vI b] w (fE fun v w'=>∃A' c',v=vS A' (tg bs b).length c'∧Mem ba w w' [.row 3 1 A' (tg bs b).length c' (ints (tg bs b))]):=by
 refine hZ 74 [(.agg #[nm,wk,pa,va,vS A bs.length c]),vI b] Try.func74 ?_;have hM:=Mem.init w;refine aQ<|nJ hM 24 (.agg #[nm,wk,pa,va,vS A bs.length c]) [nm,wk,pa,va,vS A bs.length c] fun b1 w2 kH M3=> ?_
 replace M3:=M3.nf;clear hM;refine aj 1<|aE<|bx<|aQ<|aj 1<|gC (decide (b<0)) fun US BN=> ?_
 refine aj 1 ?_;cases US;have UT:¬(b<0):=of_decide_eq_false BN.symm;refine aj 2<|bq (ak b1 4) _ (ae (M3.get 0 rfl) rfl)<|aj 1<|gC (decide (b≥(bs.length:Int))) fun UU Dw=> ?_
 refine aj 1<|aE ?_;cases UU;have ZP:¬(b≥(bs.length:Int)):=of_decide_eq_false Dw.symm;refine fT<|cg<|aQ ?_;obtain⟨x,hx⟩:=H0 (l:=bs) (i:=b) oM oM;refine aj 1<|bq (ak b1 4) _ (ae (M3.get 0 rfl) rfl)<|aj 1 ?_;obtain⟨vt,rfl⟩:=dN (M3.ro hA) hx;refine eZ vt bs.length 6 b<|gu (aN vt (b) 6) [vS x.pA x.pn x.pc,vS x.iA x.ik x.ic,vI x.e,vI x.v,vI x.a,vI x.b] (qj (M3.ro hA) rfl hx)<|mZ M3 36 [aq,aq,vI 0,vI 0,vI 0,vI 0] fun b5 w6 ZQ M7=> ?_
 replace M7:=M7.nf;refine po M7 1 [vS x.pA x.pn x.pc,vS x.iA x.ik x.ic,vI x.e,vI x.v,vI x.a,vI x.b] rfl fun w8 M9=> ?_
 replace M9:=M9.nf;refine dX [2,5]<|aE<|bC<|bx ?_;intro aC fr;refine wS (fun a_ w_=>Fr a_ 74 [(2,pT b1 0),(5,pT b5 0),(6,aq)]∧Mem ba w w_ [.au b1 24 [nm,wk,pa,va,vS (some vt) bs.length c],.au b5 36 [vS x.pA x.pn x.pc,vS x.iA x.ik x.ic,vI x.e,vI x.v,vI x.a,vI x.b]]∧(x.e=0∨x.e=1)) ?_ ?_;clear fr aC M9;rintro aC UW ⟨fr,qJ,he⟩;revert aC;refine bx ?_;intro aC fr;refine wS (fun a_ w_=>∃(A1:aX) (n1:Nat) (c1:Nat) (l1:ar),Fr a_ 74 [(2,pT b1 0),(5,pT b5 0),(6,vS A1 n1 c1)]∧Mem ba w w_ [.au b1 24 [nm,wk,pa,va,vS (some vt) bs.length c],.au b5 36 [vS x.pA x.pn x.pc,vS x.iA x.ik x.ic,vI x.e,vI x.v,vI x.a,vI x.b],.row 3 1 A1 n1 c1 (ints l1)]∧(l1=LH bs.length x)∧(n1=l1.length)) ?_ ?_;clear fr aC qJ;rintro aC NS ⟨A1,n1,c1,l1,fr,lu,nR,Cs⟩;revert aC;refine bx ?_;intro aC fr;refine wS (fun a_ w_=>∃(A2:aX) (n2:Nat) (c2:Nat) (l2:ar),Fr a_ 74 [(6,vS A2 n2 c2)]∧Mem ba w w_ [.au b1 24 [nm,wk,pa,va,vS (some vt) bs.length c],.au b5 36 [vS x.pA x.pn x.pc,vS x.iA x.ik x.ic,vI x.e,vI x.v,vI x.a,vI x.b],.row 3 1 A2 n2 c2 (ints l2)]∧(l2=LH bs.length x++QP bs.length x)∧(n2=l2.length)) ?_ ?_;clear fr aC lu;rintro aC Yn ⟨A2,n2,c2,l2,fr,JB,xo,Ho⟩;revert aC;refine bC<|an<|cQ (vS A2 n2 c2) ?_;exact mO (JB.pick [false,false,true] rfl) (by rw[xo,rt_eq he,wW oM hx]) Ho;revert aC;refine aQ<|aj 1<|bq (ak b5 2) _ (ae (lu.get 1 rfl) rfl)<|gC (x.e==1) fun Bf1 UX=> ?_
 refine aj 1 ?_;cases Bf1;have cf1:¬(x.e=1):=F6 UX;refine aj 19<|aE<|fT<|cg ?_;intro aC fr;exact⟨A1,n1,c1,l1,fr.kp [6],lu,by rw[yD oM,List.append_nil];exact nR,Cs⟩;have cf1:x.e=1:=beq_iff_eq.1 UX.symm;refine aj 1<|bq (ak b5 5) _ (ae (lu.get 1 rfl) rfl)<|aj 1<|bq (ak b5 4) _ (ae (lu.get 1 rfl) rfl)<|gC (x.b !=x.a) fun UY zj=> ?_
 refine aj 2 ?_;cases UY;have Rp:¬(x.b≠x.a):=Q9 zj;refine aj 12<|aE<|fT<|cg ?_;intro aC fr;exact⟨A1,n1,c1,l1,fr.kp [6],lu,by rw[yD oM,List.append_nil];exact nR,Cs⟩;have Rp:x.b≠x.a:=bne_iff_ne.1 zj.symm;refine aj 1<|bq (ak b5 5) _ (ae (lu.get 1 rfl) rfl)<|gC (decide (x.b≥0)) fun Bb0 UZ=> ?_
 refine aj 2 ?_;cases Bb0;have cb0:¬(x.b≥0):=of_decide_eq_false UZ.symm;refine aj 7<|aE<|fT<|cg ?_;intro aC fr;exact⟨A1,n1,c1,l1,fr.kp [6],lu,by rw[yD oM,List.append_nil];exact nR,Cs⟩;have cb0:x.b≥0:=of_decide_eq_true UZ.symm;refine aj 1<|bq (ak b5 5) _ (ae (lu.get 1 rfl) rfl)<|aj 1<|bq (ak b1 4) _ (ae (lu.get 0 rfl) rfl)<|aj 1<|gC (decide (x.b<(bs.length:Int))) fun Bb1 U0=> ?_
 refine aj 1<|aE ?_;cases Bb1;have cb1:¬(x.b<(bs.length:Int)):=of_decide_eq_false U0.symm;refine fT<|cg ?_;intro aC fr;exact⟨A1,n1,c1,l1,fr.kp [6],lu,by rw[yD oM,List.append_nil];exact nR,Cs⟩;have cb1:x.b<(bs.length:Int):=of_decide_eq_true U0.symm;refine fN<|dh<|aj 2<|bq (ak b5 5) _ (ae (lu.get 1 rfl) rfl)<|dX [68,70] ?_;intro aC fr;refine rG 71 37 1 #[(0,.tmp 70)] 37 fr (e:=3) (size:=1) (zs:=[vI 0]) (vs:=[(0,vI x.b)]) (cs:=[vI x.b]) lu ?_;intro b36 ZR hb36 _ tX _ aC ea fr;clear ea;replace tX:=tX.nf;refine tT 72 (.tmp 68) (.tmp 71) 37 37 fr (e:=3) (size:=1) (bytes:=8) (z:=(vI 0)) (A:=A1) (B:=(sM b36)) (n:=n1) (cap:=c1) (m:=1) (cap':=1) (xs:=(ints l1)) (news:=[vI x.b]) tX 2 rfl (aB (tX.get 3 rfl)) rfl (by simp[Value.oneCell']) (by have:=Ei bs.length x;rw[nR]at Cs;omega) (by have:=Ei bs.length x;rw[nR]at Cs;simp only[maxLen];omega) ?_;intro A43 LR Yo sB _ aC ea fr;clear ea;replace sB:=sB.nf;have oI:=sB.od [2,2,2] 3;revert aC;refine aj 1<|aE ?_;intro aC fr;exact⟨A43,(n1+1),LR,l1++[x.b],fr.kp [6],oI.cast (by rw[iU];rfl),by rw[MB oM oM oM oM,nR],by simp[Cs]⟩;revert aC;refine aQ<|aj 1<|bq (ak b5 4) _ (ae (qJ.get 1 rfl) rfl)<|gC (decide (x.a≥0)) fun Ba0 U1=> ?_
 refine aj 1 ?_;cases Ba0;have ca0:¬(x.a≥0):=of_decide_eq_false U1.symm;refine aj 7<|aE<|fT<|cg ?_;intro aC fr;exact⟨none,0,0,[],fr.kp [2,5,6],qJ.call (Mem.gK _ 3 1),(H4 oM).symm,rfl⟩;have ca0:x.a≥0:=of_decide_eq_true U1.symm;refine aj 1<|bq (ak b5 4) _ (ae (qJ.get 1 rfl) rfl)<|aj 1<|bq (ak b1 4) _ (ae (qJ.get 0 rfl) rfl)<|aj 1<|gC (decide (x.a<(bs.length:Int))) fun Ba1 U2=> ?_
 refine aj 1<|aE ?_;cases Ba1;have ca1:¬(x.a<(bs.length:Int)):=of_decide_eq_false U2.symm;refine fT<|cg ?_;intro aC fr;exact⟨none,0,0,[],fr.kp [2,5,6],qJ.call (Mem.gK _ 3 1),(H4 oM).symm,rfl⟩;have ca1:x.a<(bs.length:Int):=of_decide_eq_true U2.symm;refine fN<|dh<|aj 2<|bq (ak b5 4) _ (ae (qJ.get 1 rfl) rfl) ?_;intro aC fr;refine rG 43 37 1 #[(0,.tmp 42)] 37 fr (e:=3) (size:=1) (zs:=[vI 0]) (vs:=[(0,vI x.a)]) (cs:=[vI x.a]) qJ ?_;intro b56 Yp hb56 _ sC _ aC ea fr;clear ea;replace sC:=sC.nf;have wx:=sC.cl (Mem.gK _ 3 1);refine tT 44 (.tmp 40) (.tmp 43) 37 37 fr (e:=3) (size:=1) (bytes:=8) (z:=(vI 0)) (A:=none) (B:=(sM b56)) (n:=0) (cap:=0) (m:=1) (cap':=1) (xs:=[]) (news:=[vI x.a]) wx 3 rfl (aB (wx.get 2 rfl)) rfl (by simp[Value.oneCell']) oM (by simp only[maxLen];omega) ?_;intro A64 c65 jI tY _ aC ea fr;clear ea;replace tY:=tY.nf;have Ct:=tY.od [3,2,2] 3;revert aC;refine aj 1<|aE ?_;intro aC fr;exact⟨A64,(0+1),c65,[x.a],fr.kp [2,5,6],Ct,(MA oM oM).symm,rfl⟩;revert aC;refine aQ<|aj 1<|bq (ak b5 2) _ (ae (M9.get 1 rfl) rfl)<|gC (x.e !=0) fun ZS JC=> ?_
 refine aj 1 ?_;cases ZS;have Yq:¬(x.e≠0):=Q9 JC;refine aj 4<|aE<|fT<|cg ?_;intro aC fr;exact⟨fr.kp [2,5,6],M9,oM⟩;have Yq:x.e≠0:=bne_iff_ne.1 JC.symm;refine aj 1<|bq (ak b5 2) _ (ae (M9.get 1 rfl) rfl)<|gC (x.e !=1) fun ZT JD=> ?_
 refine aj 1<|aE ?_;cases ZT;have Yr:¬(x.e≠1):=Q9 JD;refine fT<|cg ?_;intro aC fr;exact⟨fr.kp [2,5,6],M9,oM⟩;have Yr:x.e≠1:=bne_iff_ne.1 JD.symm;refine fN<|bC<|an<|cQ aq ?_;exact Ha (M9.pick [false,false] rfl) (by rw[wW oM hx];exact Mz oM oM);have ZP:b≥(bs.length:Int):=of_decide_eq_true Dw.symm;refine fN<|bC<|an<|cQ aq ?_;exact Ha (M3.pick [false] rfl) (uI oM);have UT:b<0:=of_decide_eq_true BN.symm;refine aj 6<|aE<|fN<|bC<|an<|cQ aq ?_;exact Ha (M3.pick [false] rfl) (uI oM)
theorem Qgp(l:ar)(k:Int)(A:aX)(c:Nat)(w:World)(hm:l.length≤1000000)(hA:RO ba w (.rd A (ints l))):Calls Try.prog 91 #[vS A l.length c,vI k] w (fE fun v w'=>v=vI (nH (fun x=>x==k) l)∧Mem ba w w' []):=by
 refine hZ 19 [vS A l.length c,vI k] Try.func91 ?_;have hM:=Mem.init w;refine bC<|bx<|bC<|cK 0 ?_;intro aC fr;refine gT (fun n_ a_ w_=>∃(j:Nat),n_=l.length-j∧Fr a_ 19 [(0,vS A l.length c),(1,vI k),(7,(vI (l.length:Int))),(8,nV j)]∧Mem ba w w_ []∧(j≤l.length)∧((l.take j).any (fun x=>x==k)=false)) (n:=_) ⟨0,rfl,fr.kp [0,1,7,8],hM,oM,sI⟩ ?_;clear fr aC hM;rintro n aC w3 ⟨j,rfl,fr,M4,hj,hn⟩;revert aC;refine aQ<|gC (decide ((j:Int)<(l.length:Int))) fun B7 wv=> ?_
 refine aE<|bx ?_;cases B7;have c7:¬((j:Int)<(l.length:Int)):=of_decide_eq_false wv.symm;refine fT<|gq 0<|gr<|bC<|an<|cQ (vI (-1)) ?_;exact⟨by rw[wX hn oM],M4⟩;have c7:(j:Int)<(l.length:Int):=of_decide_eq_true wv.symm;refine fN<|cg<|bx<|cK 1<|bC<|aQ<|aj 3 ?_;obtain⟨zi,rfl⟩:=ra (M4.ro hA) oM;refine eZ zi l.length 1 (j:Int)<|bq (aN zi (j:Int) 1) _ (kS (M4.ro hA) rfl oM oM)<|gC (k==(l.getD (j:Int).toNat 0)) fun JA pR=> ?_
 refine aE ?_;cases JA;have vq:¬(k=(l.getD (j:Int).toNat 0)):=F6 pR;refine fT<|cg<|dh<|cy ((j:Int)+1)<|aj 1<|aE ?_;intro aC fr;exact⟨l.length-(j+1),oM,j+1,rfl,fr.kp [0,1,7,8],M4,oM,H5 hn (by simpa using fun h:_=k=>vq h.symm) oM⟩;have vq:k=(l.getD (j:Int).toNat 0):=beq_iff_eq.1 pR.symm;refine fN<|bC<|an<|eu<|eu<|cQ (nV j) ?_;exact⟨by rw[Aj hn (by simpa using vq.symm) oM],M4⟩
theorem QdP(l:ar)(k:Int)(A:aX)(c:Nat)(w:World)(hm:l.length≤1000000)(hA:RO ba w (.rd A (ints l))):Calls Try.prog 120 #[vS A l.length c,vI k] w (fE fun v w'=>v=vB (l.contains k)∧Mem ba w w' []):=by
 refine hZ 9 [vS A l.length c,vI k] Try.func120 ?_;have hM:=Mem.init w;refine bC<|aQ<|aj 2<|eY (Qgp l k A c w hm (hA.at_ hM)) ?_;rintro _ w1 ⟨rfl,PK⟩;have M2:=hM.cl PK;clear PK hM;refine gC (decide ((nH (fun x=>x==k) l)≥0)) fun Bc hBc=> ?_
 refine aj 1<|aE<|an<|cQ (vB Bc) ?_;exact⟨by rw[hBc,QbA],M2⟩
theorem JE(q:Nat)(nm wk pa va:Value)(A:aX)(c:Nat)(bs:List SB)(t:Int)(w:World)(jH:bs.length≤1000000)(hq:RO ba w (.au q 24 [nm,wk,pa,va,.slice A bs.length c])):Calls Try.prog 129 #[vI t,pT q 0] w (fE fun v w'=>v=vB (!(gU bs.length t))∧Mem ba w w' []):=by
 refine hZ 13 [vI t,pT q 0] Try.func129 ?_;have hM:=Mem.init w;refine bC<|aQ<|aj 1<|gC (decide (t<0)) fun US BN=> ?_
 refine aj 1 ?_;cases US;have UT:¬(t<0):=of_decide_eq_false BN.symm;refine aj 2<|bq (ak q 4) _ (ae (hM.ro hq) rfl)<|aj 1<|gC (decide (t≥(bs.length:Int))) fun UU Dw=> ?_
 refine aj 2<|aE<|an<|cQ (vB UU) ?_;exact⟨by rw[Dw,QO oM],hM⟩;have UT:t<0:=of_decide_eq_true BN.symm;refine aj 7<|aE<|an<|cQ (vB true) ?_;exact⟨by rw[QN oM];rfl,hM⟩
theorem JF(l:ar)(B:aX)(d:Nat)(q:Nat)(nm wk pa va:Value)(A:aX)(c:Nat)(bs:List SB)(w:World)(LS:l.length≤1000000)(hl:RO ba w (.rd B (ints l)))(hm:bs.length≤1000000)(hq:RO ba w (.au q 24 [nm,wk,pa,va,.slice A bs.length c])):Calls Try.prog 121 #[vS B l.length d,(.func (.func 129) #[] #[pT q 0])] w (fE fun v w'=>v=vI (nH (fun x=> !(gU bs.length x)) l)∧Mem ba w w' []):=by
 refine hZ 19 [vS B l.length d,(.func (.func 129) #[] #[pT q 0])] Try.func121 ?_;have hM:=Mem.init w;refine bC<|bx<|bC<|cK 0 ?_;intro aC fr;refine gT (fun n_ a_ w_=>∃(j:Nat),n_=l.length-j∧Fr a_ 19 [(0,vS B l.length d),(1,(.func (.func 129) #[] #[pT q 0])),(7,(vI (l.length:Int))),(8,nV j)]∧Mem ba w w_ []∧(j≤l.length)∧((l.take j).any (fun x=> !(gU bs.length x))=false)) (n:=_) ⟨0,rfl,fr.kp [0,1,7,8],hM,oM,sI⟩ ?_;clear fr aC hM;rintro n aC w3 ⟨j,rfl,fr,M4,hj,hn⟩;revert aC;refine aQ<|gC (decide ((j:Int)<(l.length:Int))) fun B7 wv=> ?_
 refine aE<|bx ?_;cases B7;have c7:¬((j:Int)<(l.length:Int)):=of_decide_eq_false wv.symm;refine fT<|gq 0<|gr<|bC<|an<|cQ (vI (-1)) ?_;exact⟨by rw[wX hn oM],M4⟩;have c7:(j:Int)<(l.length:Int):=of_decide_eq_true wv.symm;refine fN<|cg<|bx<|cK 1<|bC<|aQ<|aj 3 ?_;obtain⟨zi,rfl⟩:=ra (M4.ro hl) oM;refine eZ zi l.length 1 (j:Int)<|bq (aN zi (j:Int) 1) _ (kS (M4.ro hl) rfl oM oM)<|eY (JE q nm wk pa va A c bs (l.getD (j:Int).toNat 0) w3 hm (hq.at_ M4)) ?_;rintro _ w9 ⟨rfl,JG⟩;have mc:=M4.cl JG;obtain⟨JA,pR⟩:∃B,B=!(gU bs.length (l.getD (j:Int).toNat 0)):=⟨_,rfl⟩;refine cH [(0,vS (some zi) l.length d),(1,(.func (.func 129) #[] #[pT q 0])),(5,nV j),(7,(vI (l.length:Int))),(8,nV j),(11,(.func (.func 129) #[] #[pT q 0])),(15,(vI (l.getD (j:Int).toNat 0))),(16,(vB (!(gU bs.length (l.getD (j:Int).toNat 0)))))] ?_;rw[←pR];refine aE ?_;cases JA;have vq:(!(gU bs.length (l.getD (j:Int).toNat 0)))=false:=pR.symm;refine fT<|cg<|dh<|cy ((j:Int)+1)<|aj 1<|aE ?_;intro aC fr;exact⟨l.length-(j+1),oM,j+1,rfl,fr.kp [0,1,7,8],mc,oM,H5 hn vq oM⟩;have vq:(!(gU bs.length (l.getD (j:Int).toNat 0)))=true:=pR.symm;refine fN<|bC<|an<|eu<|eu<|cQ (nV j) ?_;exact⟨by rw[Aj hn vq oM],mc⟩
theorem pv(l:ar)(B:aX)(d:Nat)(q:Nat)(nm wk pa va:Value)(A:aX)(c:Nat)(bs:List SB)(w:World)(LS:l.length≤1000000)(hl:(bo.row 3 1 B l.length d (ints l)).holds w)(hm:bs.length≤1000000)(hq:RO (bo.row 3 1 B l.length d (ints l)).fp w (.au q 24 [nm,wk,pa,va,.slice A bs.length c])):Calls Try.prog 128 #[vS B l.length d,(.func (.func 129) #[] #[pT q 0])] w (fE fun v w'=>∃B' d',v=vS B' (l.filter (fun x=> !((fun x=> !(gU bs.length x)) x))).length d'∧Mem (bo.row 3 1 B l.length d (ints l)).fp w w' [.row 3 1 B' (l.filter (fun x=> !((fun x=> !(gU bs.length x)) x))).length d' (ints (l.filter (fun x=> !((fun x=> !(gU bs.length x)) x))))]):=by
 refine hZ 42 [vS B l.length d,(.func (.func 129) #[] #[pT q 0])] Try.func128 ?_;have hM:=Mem.nr hl;refine bC<|aQ<|aj 2<|eY (JF l B d q nm wk pa va A c bs w LS (RO.aB (hM.dT 0 rfl)) hm (hq.at_ hM)) ?_;rintro _ w1 ⟨rfl,PK⟩;have M2:=hM.cl PK;clear PK hM;refine aj 1<|aE<|bx<|aQ<|aj 1<|gC ((nH (fun x=> !(gU bs.length x)) l)==(-1)) fun U3 JH=> ?_
 refine aE ?_;cases U3;have EM:¬((nH (fun x=> !(gU bs.length x)) l)=(-1)):=F6 JH;refine fT<|cg<|bx<|aQ<|aj 1<|cy (h1:=(by have:=yH (fun x=> !(gU bs.length x)) l;omega)) (h2:=(by have:=yH (fun x=> !(gU bs.length x)) l;omega)) ((nH (fun x=> !(gU bs.length x)) l)+1) ?_;refine aj 1<|aE<|cK 0 ?_;obtain⟨i0,Rq,q8,EI⟩:=CQ EM;refine dX [0,1,5,6] ?_;intro aC fr;rw[Rq]at fr;obtain⟨g0,NT⟩:=cW (M2.get 0 rfl) (show 0<l.length by omega);subst NT;have hle:=p7 (M2.get 0 rfl);have BO:(kept (fun x=> !(gU bs.length x)) l (i0+1)).length=i0:=by rw[EI];simp;omega
 have QT:((i0+1:Nat):Int)=(i0:Int)+1:=oM;replace fr:Fr aC 42 [(0,.slice (sM g0) l.length d),(1,((.func (.func 129) #[] #[pT q 0]))),(5,(vI ((kept (fun x=> !(gU bs.length x)) l (i0+1)).length:Int))),(6,(vI ((i0+1:Nat):Int)))]:=by rw[BO];exact fr.keep (keep:=[0,1,5,6]) kR
 refine gT (fun n_ a_ w_=>∃(j:Nat) (m:ar),n_=l.length-j∧Fr a_ 42 [(0,vS (sM g0) l.length d),(1,(.func (.func 129) #[] #[pT q 0])),(5,(vI ((kept (fun x=> !(gU bs.length x)) l j).length:Int))),(6,nV j)]∧Mem ((bo.row 3 1 (sM g0) l.length d (ints l)).fp) w w_ [.row 3 1 (sM g0) l.length d (ints m)]∧(j≤l.length)∧(CR l m (kept (fun x=> !(gU bs.length x)) l j) j)) (n:=_) ⟨i0+1,l,rfl,fr.kp [0,1,5,6],M2,oM,by rw[EI];exact halfL_start q8⟩ ?_;clear fr aC M2;rintro n aC w5 ⟨j,m,rfl,fr,M6,hj,hh⟩;revert aC;refine bx<|aQ<|aj 3<|gC (decide ((j:Int)<(l.length:Int))) fun B9 xT=> ?_
 refine aE ?_;cases B9;have c9:¬((j:Int)<(l.length:Int)):=of_decide_eq_false xT.symm;refine fT<|gq 0<|gr<|aQ<|aj 2 ?_;intro aC fr;have Fl:j=l.length:=oM;have Jm:=hh.2.2.2;refine ky (kR:ao _ 2=some (some 38,.slice 37 (.tmp 36) (some (.tmp 37)) none none,37,none)) fr kR kR (k':=3) rfl (A:=(sM g0)) (n:=l.length) (cap:=d) (e:=3) (size:=1) (kd:= .i64) (i:=((kept (fun x=> !(gU bs.length x)) l j).length:Int)) (kept (fun x=> !(gU bs.length x)) l j).length kR kR rfl kR kR oM ?_;intro aC ea fr;clear ea;rw[if_neg (show¬(d=(kept (fun x=> !(gU bs.length x)) l j).length)by omega)]at fr;refine CG (kR:ao _ 3=some (none,(.call {callee:=(.builtin .clear),args:=#[.tmp 38],argTypes:=#[37]}),0,none)) fr kR kR (k':=4) rfl (e:=3) (z:=vI 0) kR kR rfl (ad:=aZ g0) (off:=(kept (fun x=> !(gU bs.length x)) l j).length*1) (m:=l.length-(kept (fun x=> !(gU bs.length x)) l j).length) (cap':=d-(kept (fun x=> !(gU bs.length x)) l j).length) (n:=l.length) (cap:=d) (xs:=ints m) kR M6 0 rfl oM ?_;intro Ys Lh _ aC ea fr;clear ea;replace Lh:=Lh.nf;revert aC;refine aE<|aQ<|aj 2 ?_;intro aC fr;refine fW (kR:ao _ 2=some (some 41,.slice 37 (.tmp 39) none (some (.tmp 40)) none,37,none)) fr kR kR (k':=3) rfl (A:=(sM g0)) (n:=l.length) (cap:=d) (e:=3) (size:=1) (kd:= .i64) (i:=((kept (fun x=> !(gU bs.length x)) l j).length:Int)) (kept (fun x=> !(gU bs.length x)) l j).length kR kR rfl kR kR oM ?_;intro aC ea fr;clear ea;revert aC;refine aj 1<|aE<|an<|cQ (vS (sM g0) ((kept (fun x=> !(gU bs.length x)) l j).length) d) ?_;have dY:=Lh.kW 0 rfl (kept (fun x=> !(gU bs.length x)) l j).length oM;refine⟨some (aZ g0),d,by rw[←An (p:=(fun x=> !(gU bs.length x))) (show l.length≤j by omega)],dY.cast ?_⟩;rw[←An (p:=(fun x=> !(gU bs.length x))) (show l.length≤j by omega)];show[_]=_;rw[ME hh.2.1];have c9:(j:Int)<(l.length:Int):=of_decide_eq_true xT.symm;refine fN<|cg<|bx<|cK 1<|aQ<|aj 2<|eZ (aZ g0) l.length 1 (j:Int)<|bq (aN (aZ g0) (j:Int) 1) (vI (l.getD (j:Int).toNat 0)) (by rw[←H7 hh];exact kS (aB (M6.get 0 rfl)) rfl oM (by have:=hh.1;omega))<|aj 1<|aE ?_;refine aQ<|aj 2<|eY (JE q nm wk pa va A c bs (l.getD (j:Int).toNat 0) w5 hm (hq.at_ M6)) ?_;rintro _ U4 ⟨rfl,Rr⟩;have qK:=M6.cl Rr;obtain⟨ZU,JI⟩:∃B,B=!(gU bs.length (l.getD (j:Int).toNat 0)):=⟨_,rfl⟩;refine cH [(0,vS (sM g0) l.length d),(1,(.func (.func 129) #[] #[pT q 0])),(5,(vI ((kept (fun x=> !(gU bs.length x)) l j).length:Int))),(6,nV j),(7,(vI (l.getD (j:Int).toNat 0))),(26,(.func (.func 129) #[] #[pT q 0])),(27,(vI (l.getD (j:Int).toNat 0))),(28,(vB (!(gU bs.length (l.getD (j:Int).toNat 0)))))] ?_;rw[←JI];refine aj 1<|aE ?_;cases ZU;have Rs:(!(gU bs.length (l.getD (j:Int).toNat 0)))=false:=JI.symm;refine fN<|aQ<|aj 3<|eZ (h0:=oM) (h1:=(by have:=hh.2.2.2;omega)) (aZ g0) l.length 1 ((kept (fun x=> !(gU bs.length x)) l j).length:Int) ?_;refine zJ qK 0 (aN (aZ g0) ((kept (fun x=> !(gU bs.length x)) l j).length:Int) 1) ((((kept (fun x=> !(gU bs.length x)) l j).length:Int)).toNat*1) (vI (l.getD (j:Int).toNat 0)) rfl rfl (by have:=hh.2.2.2;omega) fun Yn JB=> ?_
 replace JB:=JB.nf;refine aE<|dh<|aj 1<|cy (h2:=(by have:=hh.2.2.2;omega)) (((kept (fun x=> !(gU bs.length x)) l j).length:Int)+1) ?_;refine aj 1<|aE<|dh<|aj 1<|cy ((j:Int)+1)<|aj 1<|aE ?_;intro aC fr;have xG:=H6 (p:=(fun x=> !(gU bs.length x))) (show j<l.length by omega) Rs;replace fr:Fr aC 42 [(0,.slice (sM g0) l.length d),(1,((.func (.func 129) #[] #[pT q 0]))),(5,(vI ((kept (fun x=> !(gU bs.length x)) l (j+1)).length:Int))),(6,(vI ((j:Int)+1)))]:=by rw[xG,List.length_append];exact fr.keep (keep:=[0,1,5,6]) kR
 exact⟨l.length-(j+1),oM,j+1,m.set (kept (fun x=> !(gU bs.length x)) l j).length (l.getD (j:Int).toNat 0),rfl,fr.kp [0,1,5,6],(JB.cast (by rw[ints_set,Int.toNat_natCast,Nat.mul_one])),oM,by rw[xG];exact H8 hh oM _⟩;have Rs:(!(gU bs.length (l.getD (j:Int).toNat 0)))=true:=JI.symm;refine fT<|cg<|dh<|aj 1<|cy ((j:Int)+1)<|aj 1<|aE ?_;intro aC fr;have xG:=MC (p:=(fun x=> !(gU bs.length x))) (show j<l.length by omega) Rs;replace fr:Fr aC 42 [(0,.slice (sM g0) l.length d),(1,((.func (.func 129) #[] #[pT q 0]))),(5,(vI ((kept (fun x=> !(gU bs.length x)) l (j+1)).length:Int))),(6,(vI ((j:Int)+1)))]:=by rw[xG];exact fr.keep (keep:=[0,1,5,6]) kR
 exact⟨l.length-(j+1),oM,j+1,m,rfl,fr.kp [0,1,5,6],qK,oM,by rw[xG];exact MD hh⟩;have EM:(nH (fun x=> !(gU bs.length x)) l)=(-1):=beq_iff_eq.1 JH.symm;refine fN<|bC<|an<|cQ (vS B l.length d) ?_;exact⟨B,d,by rw[any_filter EM],M2.cast (by rw[any_filter EM])⟩
theorem xU(nm wk pa va:Value)(A:aX)(c:Nat)(bs:List SB)(b:Int)(w:World)(hm:bs.length≤1000000)(hA:RO ba w (.blocks A bs)):Calls Try.prog 108 #[(.agg #[nm,wk,pa,va,vS A bs.length c]),vI b] w (fE fun v w'=>∃A' c',v=vS A' (tg bs b).length c'∧Mem ba w w' [.row 3 1 A' (tg bs b).length c' (ints (tg bs b))]):=by
 refine hZ 45 [(.agg #[nm,wk,pa,va,vS A bs.length c]),vI b] Try.func108 ?_;have hM:=Mem.init w;refine aQ<|nJ hM 24 (.agg #[nm,wk,pa,va,vS A bs.length c]) [nm,wk,pa,va,vS A bs.length c] fun b1 w2 kH M3=> ?_
 replace M3:=M3.nf;clear hM;refine aj 1<|aE<|bx<|aQ<|aj 1<|gC (decide (b<0)) fun US BN=> ?_
 refine aj 1 ?_;cases US;have UT:¬(b<0):=of_decide_eq_false BN.symm;refine aj 2<|bq (ak b1 4) _ (ae (M3.get 0 rfl) rfl)<|aj 1<|gC (decide (b≥(bs.length:Int))) fun UU Dw=> ?_
 refine aj 1<|aE ?_;cases UU;have ZP:¬(b≥(bs.length:Int)):=of_decide_eq_false Dw.symm;refine fT<|cg<|aQ ?_;obtain⟨x,hx⟩:=H0 (l:=bs) (i:=b) oM oM;refine aj 1<|bq (ak b1 4) _ (ae (M3.get 0 rfl) rfl)<|aj 1 ?_;obtain⟨vt,rfl⟩:=dN (M3.ro hA) hx;refine eZ vt bs.length 6 b<|gu (aN vt (b) 6) [vS x.pA x.pn x.pc,vS x.iA x.ik x.ic,vI x.e,vI x.v,vI x.a,vI x.b] (qj (M3.ro hA) rfl hx)<|mZ M3 36 [aq,aq,vI 0,vI 0,vI 0,vI 0] fun b5 w6 ZQ M7=> ?_
 replace M7:=M7.nf;refine po M7 1 [vS x.pA x.pn x.pc,vS x.iA x.ik x.ic,vI x.e,vI x.v,vI x.a,vI x.b] rfl fun w8 M9=> ?_
 replace M9:=M9.nf;refine dX [2,5]<|aE<|bC<|bx<|aQ<|aj 1<|bq (ak b5 2) _ (ae (M9.get 1 rfl) rfl)<|aE<|cK 0<|aQ<|gC (x.e==0) fun ZS JC=> ?_
 refine aj 1<|aE ?_;cases ZS;have Yq:¬(x.e=0):=F6 JC;refine fT<|aQ<|gC (x.e==1) fun ZT JD=> ?_
 refine aj 1<|aE ?_;cases ZT;have Yr:¬(x.e=1):=F6 JD;refine fT<|cg<|aQ<|aj 2 ?_;have mc:Mem ba w w8 [.au b1 24 [nm,wk,pa,va,vS (some vt) bs.length c],.au b5 36 [vS x.pA x.pn x.pc,vS x.iA x.ik x.ic,vI x.e,vI x.v,vI x.a,vI x.b],.row 3 1 none 0 0 []]:=M9.call (Mem.gK _ 3 1);refine eY (vs:=#[aq,(.func (.func 129) #[] #[pT b1 0])]) (pv [] none 0 b1 nm wk pa va _ c bs w8 sI (mc.get 2 rfl) hm (mc.iJ 0 2 rfl rfl dQ)) ?_;rintro _ NU ⟨U5,NV,rfl,JJ⟩;have rO:=mc.md 2 rfl JJ;refine aj 1<|aE<|an<|cQ (vS U5 (([].filter (fun x=> !((fun x=> !(gU bs.length x)) x))).length) NV) ?_;exact mO (rO.pick [false,false,true] rfl) (by rw[wW oM hx];exact H3 Yq Yr) rfl;have Yr:x.e=1:=beq_iff_eq.1 JD.symm;refine fN<|aQ<|aj 1<|bq (ak b5 4) _ (ae (M9.get 1 rfl) rfl)<|aj 1<|bq (ak b5 5) _ (ae (M9.get 1 rfl) rfl) ?_;intro aC fr;refine rG 34 37 2 #[(0,.tmp 31),(1,.tmp 33)] 37 fr (e:=3) (size:=1) (zs:=[vI 0]) (vs:=[(0,vI x.a),(1,vI x.b)]) (cs:=[vI x.a,vI x.b]) M9 ?_;intro fO Dx Rt _ kI _ aC ea fr;clear ea;replace kI:=kI.nf;revert aC;refine aj 1<|aE<|aQ<|aj 1<|bq (ak b5 4) _ (ae (kI.get 1 rfl) rfl)<|aj 1<|bq (ak b5 5) _ (ae (kI.get 1 rfl) rfl)<|dX [2,6,36,38]<|gC (x.a==x.b) fun UY zj=> ?_
 refine aE ?_;cases UY;have Rp:¬(x.a=x.b):=F6 zj;refine fT<|cg<|aQ<|aj 2<|eY (vs:=#[vS (sM fO) 2 2,(.func (.func 129) #[] #[pT b1 0])]) (pv [x.a,x.b] (sM fO) 2 b1 nm wk pa va _ c bs Dx sI (kI.get 2 rfl) hm (kI.iJ 0 2 rfl rfl dQ)) ?_;rintro _ Yn ⟨A22,Qg,rfl,ZV⟩;have JB:=kI.md 2 rfl ZV;refine aj 1<|aE<|an<|cQ (vS A22 (([x.a,x.b].filter (fun x=> !((fun x=> !(gU bs.length x)) x))).length) Qg) ?_;exact mO (JB.pick [false,false,true] rfl) (by rw[wW oM hx];exact My oM oM) rfl;have Rp:x.a=x.b:=beq_iff_eq.1 zj.symm;refine fN<|dh<|aj 1 ?_;intro aC fr;refine fW (kR:ao _ 1=some (some 41,.slice 37 (.tmp 40) none (some (.const (vI 1))) none,37,none)) fr kR kR (k':=2) rfl (A:=(sM fO)) (n:=2) (cap:=2) (e:=3) (size:=1) (kd:= .i64) (i:=1) 1 kR kR rfl kR kR dQ ?_;intro aC ea fr;clear ea;have zN:Mem ba w Dx [.au b1 24 [nm,wk,pa,va,vS (some vt) bs.length c],.au b5 36 [vS x.pA x.pn x.pc,vS x.iA x.ik x.ic,vI x.e,vI x.v,vI x.a,vI x.b],.row 3 1 (sM fO) 1 2 [vI x.a]]:=kI.kW 2 rfl 1 dQ;revert aC;refine aj 1<|aE<|aQ<|aj 2<|eY (vs:=#[vS (sM fO) 1 2,(.func (.func 129) #[] #[pT b1 0])]) (pv [x.a] (sM fO) 2 b1 nm wk pa va _ c bs Dx sI (zN.get 2 rfl) hm (zN.iJ 0 2 rfl rfl dQ)) ?_;rintro _ kh ⟨A31,Yt,rfl,ZW⟩;have Dy:=zN.md 2 rfl ZW;refine aj 1<|aE<|an<|cQ (vS A31 (([x.a].filter (fun x=> !((fun x=> !(gU bs.length x)) x))).length) Yt) ?_;exact mO (Dy.pick [false,false,true] rfl) (by rw[wW oM hx];exact Eh oM) rfl;have Yq:x.e=0:=beq_iff_eq.1 JC.symm;refine fN<|dh<|aj 1<|bq (ak b5 4) _ (ae (M9.get 1 rfl) rfl) ?_;intro aC fr;refine rG 27 37 1 #[(0,.tmp 26)] 37 fr (e:=3) (size:=1) (zs:=[vI 0]) (vs:=[(0,vI x.a)]) (cs:=[vI x.a]) M9 ?_;intro b35 LU Qh8 _ me _ aC ea fr;clear ea;replace me:=me.nf;revert aC;refine aj 1<|aE<|aQ<|aj 2<|eY (vs:=#[vS (sM b35) 1 1,(.func (.func 129) #[] #[pT b1 0])]) (pv [x.a] (sM b35) 1 b1 nm wk pa va _ c bs LU sI (me.get 2 rfl) hm (me.iJ 0 2 rfl rfl dQ)) ?_;rintro _ Xi ⟨zM,ZX,rfl,ZY⟩;have NW:=me.md 2 rfl ZY;refine aj 1<|aE<|an<|cQ (vS zM (([x.a].filter (fun x=> !((fun x=> !(gU bs.length x)) x))).length) ZX) ?_;exact mO (NW.pick [false,false,true] rfl) (by rw[wW oM hx];exact Eh oM) rfl;have ZP:b≥(bs.length:Int):=of_decide_eq_true Dw.symm;refine fN<|bC<|an<|cQ aq ?_;exact Ha (M3.pick [false] rfl) (uI oM);have UT:b<0:=of_decide_eq_true BN.symm;refine aj 6<|aE<|fN<|bC<|an<|cQ aq ?_;exact Ha (M3.pick [false] rfl) (uI oM)
theorem vu(nm wk pa va:Value)(A:aX)(c:Nat)(bs:List SB)(b:Int)(w:World)(hm:bs.length≤1000000)(hA:RO ba w (.blocks A bs)):Calls Try.prog 42 #[(.agg #[nm,wk,pa,va,vS A bs.length c]),vI b] w (fE fun v w'=>∃A' c',v=vS A' (bS bs b).length c'∧Mem ba w w' [.row 3 1 A' (bS bs b).length c' (ints (bS bs b))]):=by
 refine hZ 24 [(.agg #[nm,wk,pa,va,vS A bs.length c]),vI b] Try.func42 ?_;have hM:=Mem.init w;refine aQ<|nJ hM 24 (.agg #[nm,wk,pa,va,vS A bs.length c]) [nm,wk,pa,va,vS A bs.length c] fun b1 w2 kH M3=> ?_
 replace M3:=M3.nf;clear hM;refine aj 1<|aE<|bC<|bx<|bC<|cK 0 ?_;intro aC fr;refine gT (fun n_ a_ w_=>∃(k:Nat) (A1:aX) (n1:Nat) (c1:Nat) (l1:ar),n_=bs.length-k∧Fr a_ 24 [(1,vI b),(2,pT b1 0),(5,vS A1 n1 c1),(6,nV k)]∧Mem ba w w_ [.au b1 24 [nm,wk,pa,va,vS A bs.length c],.row 3 1 A1 n1 c1 (ints l1)]∧(k≤bs.length)∧(l1=dW bs b k)∧(n1=l1.length)) (n:=_) ⟨0,none,0,0,[],rfl,fr.kp [1,2,5,6],M3.call (Mem.gK _ 3 1),oM,rfl,rfl⟩ ?_;clear fr aC M3;rintro n aC w6 ⟨k,A1,n1,c1,l1,rfl,fr,M7,hk,nR,Cs⟩;revert aC;refine bx<|aQ<|aj 2<|bq (ak b1 4) _ (ae (M7.get 0 rfl) rfl)<|aj 1<|gC (decide ((k:Int)<(bs.length:Int))) fun kf nN=> ?_
 refine aE ?_;cases kf;have Hq:¬((k:Int)<(bs.length:Int)):=of_decide_eq_false nN.symm;refine fT<|gq 0<|gr<|bC<|an<|cQ (vS A1 n1 c1) ?_;obtain rfl:k=bs.length:=oM;exact mO (M7.pick [false,true] rfl) nR Cs;have Hq:(k:Int)<(bs.length:Int):=of_decide_eq_true nN.symm;refine fN<|cg<|bx<|cK 1<|aQ<|gu (aZ b1) [nm,wk,pa,va,vS A bs.length c] (aK (M7.get 0 rfl))<|aj 1<|eY (vs:=#[(.agg #[nm,wk,pa,va,vS A bs.length c]),nV k]) (vr _ _ _ _ A c bs (k:Int) w6 hm (hA.at_ M7)) ?_;rintro _ NU ⟨U5,NV,rfl,JJ⟩;have rO:=M7.cl JJ;refine aj 1<|eY (vs:=#[(vS U5 ((tg bs (k:Int)).length) NV),vI b]) (UR (tg bs (k:Int)) b U5 NV NU (Nat.le_trans (oe _ _) dQ) (RO.aB (rO.dT 2 rfl))) ?_;rintro _ Ty ⟨rfl,ZZ⟩;have lQ:=rO.cl ZZ;obtain⟨JA,pR⟩:∃B,B=(tg bs (k:Int)).contains b:=⟨_,rfl⟩;refine cH [(1,vI b),(2,pT b1 0),(5,vS A1 n1 c1),(6,nV k),(16,(vS U5 ((tg bs (k:Int)).length) NV)),(17,vI b),(18,(vB ((tg bs (k:Int)).contains b)))] ?_;rw[←pR];refine aE ?_;cases JA;have vq:((tg bs (k:Int)).contains b)=false:=pR.symm;refine fT<|cg<|dh<|aj 1<|cy ((k:Int)+1)<|aj 1<|aE ?_;intro aC fr;exact⟨bs.length-(k+1),oM,k+1,A1,n1,c1,l1,rfl,fr.kp [1,2,5,6],(lQ.pick [true,true,false] rfl),oM,by rw[oh,if_neg (by rw[vq];simp),List.append_nil];exact nR,Cs⟩;have vq:((tg bs (k:Int)).contains b)=true:=pR.symm;refine fN<|dh<|aj 2 ?_;intro aC fr;refine rG 21 37 1 #[(0,.tmp 20)] 37 fr (e:=3) (size:=1) (zs:=[vI 0]) (vs:=[(0,nV k)]) (cs:=[nV k]) lQ ?_;intro kJ Gm U6 _ ni _ aC ea fr;clear ea;replace ni:=ni.nf;refine tT 22 (.tmp 19) (.tmp 21) 37 37 fr (e:=3) (size:=1) (bytes:=8) (z:=(vI 0)) (A:=A1) (B:=(sM kJ)) (n:=n1) (cap:=c1) (m:=1) (cap':=1) (xs:=(ints l1)) (news:=[nV k]) ni 1 rfl (aB (ni.get 3 rfl)) rfl (by simp[Value.oneCell']) (by have:=fZ bs b k;rw[nR]at Cs;omega) (by have:=fZ bs b k;rw[nR]at Cs;simp only[maxLen];omega) ?_;intro A26 BP NX kr _ aC ea fr;clear ea;replace kr:=kr.nf;have qL:=kr.od [2,2,2] 3;revert aC;refine aj 1<|aE<|dh<|aj 1<|cy ((k:Int)+1)<|aj 1<|aE ?_;intro aC fr;exact⟨bs.length-(k+1),oM,k+1,A26,(n1+1),BP,l1++[(k:Int)],rfl,fr.kp [1,2,5,6],((qL.pick [true,true,false] rfl).cast (by rw[iU];rfl)),oM,by rw[oh,if_pos vq,nR],by rw[List.length_append,Cs];rfl⟩
end Go.Proofs.Ytejbeeaomokjpaa
namespace Go.Proofs.Ytejbeeaomokjpaa
open Go.Mor
theorem Gn(n:Nat)(w:World)(hn:n≤1000000):Calls Try.prog 109 #[nV n] w (fE fun v w'=>∃g,v=vS (sM g) ((n+63) / 64) ((n+63) / 64)∧Mem ba w w' [.row 160 1 (sM g) ((n+63) / 64) ((n+63) / 64) (kz (List.replicate ((n+63) / 64) 0))]):=by
 refine hZ 8 [nV n] Try.func109 ?_;have hM:=Mem.init w;refine bC<|aQ<|aj 1<|cy ((n:Int)+64)<|cy (((n:Int)+64)-1) ?_;intro aC fr;refine dq (kR:ao _ 3=some (some 6,.binOp .quo 3 (.tmp 5) (.const (vI 64)) 3,3,none)) fr kR kR (k':=4) rfl (kd:= .i64) (kd':= .i64) (i:=(n:Int)+64-1) (j:=64) (z:=vI ((((n+63) / 64):Nat):Int)) kR kR (fun w=>by have h:=uF (P:=Try.prog) (t:=3) (i:=n+63) 64 oM dQ w;rw[show((n+63:Nat):Int)=(n:Int)+64-1 by omega]at h;exact h) ?_;intro aC ea fr;clear ea;refine I9 7 132 (.tmp 6) (.tmp 6) 132 fr (e:=160) (bytes:=8) (z:=(.int .u64 0)) (n:=((n+63) / 64)) (i:=((((n+63) / 64):Nat):Int)) oM (by simp only[maxLen];omega) hM ?_;intro b5 w6 ZQ _ M7 _ aC ea fr;clear ea;replace M7:=M7.nf;clear hM;revert aC;refine aj 1<|aE<|an<|cQ (vS (sM b5) ((n+63) / 64) ((n+63) / 64)) ?_;exact⟨b5,rfl,M7.cast (by simp[kz])⟩
theorem PL(ws:List Nat)(n i:Nat)(A:aX)(c:Nat)(w:World)(Ru:Fit ws)(Rq:i≤1000000)(hn:n=ws.length)(hi:i / 64<ws.length)(j0:(bo.row 160 1 A n c (kz ws)).holds w):Calls Try.prog 110 #[vS A n c,nV i] w (fE fun v w'=>v= .tuple #[]∧Mem (bo.row 160 1 A n c (kz ws)).fp w w' [.row 160 1 A n c (kz (uG ws i))]):=by
 subst hn;refine hZ 14 [vS A ws.length c,nV i] Try.func110 ?_;have hM:=Mem.nr j0;obtain⟨g0,NT⟩:=cW (hM.get 0 rfl) (show 0<ws.length by omega);subst NT;refine dX [0,1] ?_;intro aC fr;refine zK (bL [eS (sM g0) ws.length c,.bg (nV i),eI ((i / 64:Nat):Int),eA (aZ g0) ((i / 64:Nat):Int) 1,.bg (.int .u64 ((ws.getD (i / 64) 0:Nat):Int)),.bg (nV i),eI ((i % 64:Nat):Int),.bg (.int .u64 ((2^(i % 64):Nat):Int)),.bg (.int .u64 ((ws.getD (i / 64) 0|||2^(i % 64):Nat):Int)),eA (aZ g0) ((i / 64:Nat):Int) 1,.bg undef]) (fun ls vs w_=>match ls 10 with|true=>(Mem (bo.row 160 1 (sM g0) ws.length c (kz ws)).fp w w_ [.row 160 1 (sM g0) ws.length c (kz (uG ws i))])|false=>(Mem (bo.row 160 1 (sM g0) ws.length c (kz ws)).fp w w_ [.row 160 1 (sM g0) ws.length c (kz ws)])) fr (oK (.bg (.bg (.bg (.bg (.bg (.bg (.bg (.bg (.bg (.bg (.bg .nil)))))))))))) (hM.aD (Mem.drew _)) (pw (tZ lz (fi fun _ _ _ _ h=>h) (fi fun _ _ _ _ h=>h) ?_ (K6 (aZ g0) ws.length 1 ((i / 64:Nat):Int) fun _ _ _ _ h=>h) (lL (aN (aZ g0) ((i / 64:Nat):Int) 1) (.int .u64 ((ws.getD (i / 64) 0:Nat):Int)) (fun _ _ _ _ h=>h) ?_) (fi fun _ _ _ _ h=>h) ?_ ?_) ?_ (K6 (aZ g0) ws.length 1 ((i / 64:Nat):Int) fun _ _ _ _ h=>h) ?_) ?_;intro dM w_ ls vs bZ hJ bp bj hp hF;refine iW (g0:=none) ?_;replace hF:Fr dM 14 [(5,nV i)]:=hF.kp [5];refine dq (kR:ao _ 0=some (some 6,.binOp .quo 3 (.tmp 5) (.const (vI 64)) 3,3,none)) hF kR kR (k':=1) rfl (kd:= .i64) (kd':= .i64) (i:=(i:Int)) (j:=64) (z:=vI ((i / 64:Nat):Int)) kR kR (fun w=>uF 64 oM dQ w) ?_;intro a2 ea _;refine aJ kR ?_;exact aY (d:=some 6) kR ea rfl hJ;intro w_ ls vs hJ bp bj hp;have f10:ls 10=false:=az bj bp (n:=11) kR;have aI:=hJ;simp only[f10]at aI;exact(bB (aB (aI.get 0 rfl)) rfl (Ah oM));intro dM w_ ls vs bZ hJ bp bj hp hF;refine iW (g0:=none) ?_;replace hF:Fr dM 14 [(9,nV i)]:=hF.kp [9];refine dq (kR:ao _ 0=some (some 10,.binOp .rem 3 (.tmp 9) (.const (vI 64)) 3,3,none)) hF kR kR (k':=1) rfl (kd:= .i64) (kd':= .i64) (i:=(i:Int)) (j:=64) (z:=vI ((i % 64:Nat):Int)) kR kR (fun w=>Ag 64 dQ w) ?_;intro a2 ea _;refine aJ kR ?_;exact aY (d:=some 10) kR ea rfl hJ;intro dM w_ ls vs bZ hJ bp bj hp hF;refine iW (g0:=none) ?_;replace hF:Fr dM 14 [(10,(vI ((i % 64:Nat):Int)))]:=hF.kp [10];refine dq (kR:ao _ 0=some (some 11,.binOp .shl 160 (.const (.int .u64 1)) (.tmp 10) 3,160,none)) hF kR kR (k':=1) rfl (kd:= .u64) (kd':= .i64) (i:=1) (j:=((i % 64:Nat):Int)) (z:= .int .u64 ((2^(i % 64):Nat):Int)) kR kR (fun w=>Mo (Nat.mod_lt _ dQ) w) ?_;intro a2 ea _;refine aJ kR ?_;exact aY (d:=some 11) kR ea rfl hJ;intro dM w_ ls vs bZ hJ bp bj hp hF;refine iW (g0:=none) ?_;replace hF:Fr dM 14 [(8,(.int .u64 ((ws.getD (i / 64) 0:Nat):Int))),(11,(.int .u64 ((2^(i % 64):Nat):Int)))]:=hF.kp [8,11];refine dq (kR:ao _ 0=some (some 12,.binOp .or 160 (.tmp 8) (.tmp 11) 160,160,none)) hF kR kR (k':=1) rfl (kd:= .u64) (kd':= .u64) (i:=((ws.getD (i / 64) 0:Nat):Int)) (j:=((2^(i % 64):Nat):Int)) (z:= .int .u64 ((ws.getD (i / 64) 0|||2^(i % 64):Nat):Int)) kR kR (fun w=>QG (Ru.get _) (qi (Nat.mod_lt _ dQ)) w) ?_;intro a2 ea _;refine aJ kR ?_;exact aY (d:=some 12) kR ea rfl hJ;intro dM w_ ls vs bZ hJ bp bj hp hF;refine iW (g0:=none) ?_;replace hF:Fr dM 14 [(12,(.int .u64 ((ws.getD (i / 64) 0|||2^(i % 64):Nat):Int))),(13,(vP (aN (aZ g0) ((i / 64:Nat):Int) 1)))]:=hF.kp [12,13];have f10:ls 10=false:=bp;have aI:=hJ;simp only[f10]at aI;refine dZ (kR:ao _ 0=some (none,.store 160 (.tmp 13) (.tmp 12),0,none)) hF kR kR (k':=1) rfl (ad:=(aZ g0)) (j:=((((i / 64:Nat):Int)).toNat*1)) (e:=160) (size:=1) (n:=ws.length) (cap:=c) (v:=(.int .u64 ((ws.getD (i / 64) 0|||2^(i % 64):Nat):Int))) (xs:=(kz ws)) (ad':=(aN (aZ g0) ((i / 64:Nat):Int) 1)) kR rfl kR kR rfl aI 0 rfl oM ?_;intro w2 dY _ a2 ea _;refine aJ kR ?_;refine aY (d:=none) kR ea rfl ?_;show _;exact dY.cast (by show[bo.row _ _ _ _ _ _]=_;rw[uG,HY,Int.toNat_natCast,Nat.mul_one]);intro aC w5 ls vs cA M6 hv fr;simp only[show ls 10=true from cA 10 dQ]at M6;revert aC;refine cH [] ?_;clear cA hv fr aC hM;clear vs ls;refine ZD ?_;exact⟨rfl,M6⟩
theorem Rv(ws:List Nat)(n i:Nat)(A:aX)(c:Nat)(w:World)(Ru:Fit ws)(Rq:i≤1000000)(hn:n=ws.length)(hi:i / 64<ws.length)(hA:RO ba w (.rd A (kz ws))):Calls Try.prog 111 #[vS A n c,nV i] w (fE fun v w'=>v=vB (tb ws i)∧Mem ba w w' []):=by
 subst hn;refine hZ 15 [vS A ws.length c,nV i] Try.func111 ?_;have hM:=Mem.init w;refine bC<|aQ<|aj 2 ?_;intro aC fr;refine dq (kR:ao _ 2=some (some 7,.binOp .quo 3 (.tmp 6) (.const (vI 64)) 3,3,none)) fr kR kR (k':=3) rfl (kd:= .i64) (kd':= .i64) (i:=(i:Int)) (j:=64) (z:=vI ((i / 64:Nat):Int)) kR kR (fun w=>uF 64 oM dQ w) ?_;intro aC ea fr;clear ea;obtain⟨kB,rfl⟩:=rd_some (hM.ro hA) (by rw[HZ];omega);revert aC;refine eZ kB ws.length 1 ((i / 64:Nat):Int)<|bq (aN kB ((i / 64:Nat):Int) 1) _ (bB (hM.ro hA) rfl (Ah oM))<|aj 1 ?_;intro aC fr;refine dq (kR:ao _ 6=some (some 11,.binOp .rem 3 (.tmp 10) (.const (vI 64)) 3,3,none)) fr kR kR (k':=7) rfl (kd:= .i64) (kd':= .i64) (i:=(i:Int)) (j:=64) (z:=vI ((i % 64:Nat):Int)) kR kR (fun w=>Ag 64 dQ w) ?_;intro aC ea fr;clear ea;refine dq (kR:ao _ 7=some (some 12,.binOp .shr 160 (.tmp 9) (.tmp 11) 3,160,none)) fr kR kR (k':=8) rfl (kd:= .u64) (kd':= .i64) (i:=((ws.getD (i / 64) 0:Nat):Int)) (j:=((i % 64:Nat):Int)) (z:= .int .u64 ((ws.getD (i / 64) 0 / 2^(i % 64):Nat):Int)) kR kR (fun w=>Mq (Nat.mod_lt _ dQ) w) ?_;intro aC ea fr;clear ea;refine dq (kR:ao _ 8=some (some 13,.binOp .and 160 (.tmp 12) (.const (.int .u64 1)) 160,160,none)) fr kR kR (k':=9) rfl (kd:= .u64) (kd':= .u64) (i:=((ws.getD (i / 64) 0 / 2^(i % 64):Nat):Int)) (j:=1) (z:= .int .u64 ((ws.getD (i / 64) 0 / 2^(i % 64)&&&1:Nat):Int)) kR kR (fun w=>HX (Nat.lt_of_le_of_lt (Nat.div_le_self _ _) (Ru.get _)) w) ?_;intro aC ea fr;clear ea;revert aC;refine gC (((ws.getD (i / 64) 0 / 2^(i % 64)&&&1:Nat):Int)==1) fun Bh hBh=> ?_
 refine aj 1<|aE<|an<|cQ (vB Bh) ?_;exact⟨by rw[hBh,QI];rfl,hM⟩
theorem Gp(l:ar)(A:aX)(c:Nat)(w:World)(hm:l.length≤1000000)(j0:(bo.row 3 1 A l.length c (ints l)).holds w):Calls Try.prog 112 #[vS A l.length c] w (fE fun v w'=>v= .tuple #[]∧Mem (bo.row 3 1 A l.length c (ints l)).fp w w' [.row 3 1 A l.length c (ints l.reverse)]):=by
 refine hZ 28 [vS A l.length c] Try.func112 ?_;have hM:=Mem.nr j0;refine aQ<|aj 2<|cy ((l.length:Int)-1)<|aj 2<|aE<|cK 0 ?_;intro aC fr;replace fr:Fr aC 28 [(0,.slice A l.length c),(2,vI (0:Int)),(3,vI ((l.length:Int)-1-(0:Int)))]:=by rw[show((l.length:Int)-1-(0:Int))=(l.length:Int)-1 by omega];exact fr.keep (keep:=[0,2,3]) kR
 refine gT (fun n_ a_ w_=>∃(k:Nat) (m:ar),n_=l.length-k∧Fr a_ 28 [(0,vS A l.length c),(2,nV k),(3,(vI ((l.length:Int)-1-(k:Int))))]∧Mem (bo.row 3 1 A l.length c (ints l)).fp w w_ [.row 3 1 A l.length c (ints m)]∧(2*k≤l.length)∧(rr l m k)) (n:=_) ⟨0,l,rfl,fr.kp [0,2,3],hM,oM,wi l⟩ ?_;clear fr aC hM;rintro n aC w3 ⟨k,m,rfl,fr,M4,hk,hs⟩;revert aC;refine bx<|aQ<|aj 2<|gC (decide ((k:Int)<((l.length:Int)-1-(k:Int)))) fun Blt U7=> ?_
 refine aE ?_;cases Blt;have kC:¬((k:Int)<((l.length:Int)-1-(k:Int))):=of_decide_eq_false U7.symm;refine fT<|gq 0<|gr<|ZD ?_;exact⟨rfl,M4.cast (by rw[AH hs oM])⟩;have kC:(k:Int)<((l.length:Int)-1-(k:Int)):=of_decide_eq_true U7.symm;refine fN<|cg<|bx<|cK 1 ?_;obtain⟨q,hq⟩:∃q:Nat,((l.length:Int)-1-(k:Int))=(q:Int):=⟨l.length-1-k,oM⟩;refine dX [0,2,3,9] ?_;intro aC fr;rw[hq]at fr kC;have Pt:m.length=l.length:=hs.1;obtain⟨g0,NT⟩:=cW (M4.get 0 rfl) (show 0<l.length by omega);subst NT;revert aC;refine dX [0,2,3,9] ?_;intro aC fr;refine zK (bL [eS (sM g0) l.length c,.bg (nV k),eS (sM g0) l.length c,.bg (nV q),eS (sM g0) l.length c,.bg (nV q),eA (aZ g0) (q:Int) 1,eI (m.getD (q:Int).toNat 0),eS (sM g0) l.length c,.bg (nV k),eA (aZ g0) (k:Int) 1,eI (m.getD (k:Int).toNat 0),eA (aZ g0) (k:Int) 1,.bg undef,eA (aZ g0) (q:Int) 1,.bg undef]) (fun ls vs w_=>match ls 15 with|true=>(Mem (bo.row 3 1 (sM g0) l.length c (ints l)).fp w w_ [.row 3 1 (sM g0) l.length c (((ints m).set (((k:Int)).toNat*1) (vI (m.getD (q:Int).toNat 0))).set (((q:Int)).toNat*1) (vI (m.getD (k:Int).toNat 0)))])|false=>(match ls 13 with|true=>(Mem (bo.row 3 1 (sM g0) l.length c (ints l)).fp w w_ [.row 3 1 (sM g0) l.length c ((ints m).set (((k:Int)).toNat*1) (vI (m.getD (q:Int).toNat 0)))])|false=>(Mem (bo.row 3 1 (sM g0) l.length c (ints l)).fp w w_ [.row 3 1 (sM g0) l.length c (ints m)]))) fr (oK (.bg (.bg (.bg (.bg (.bg (.bg (.bg (.bg (.bg (.bg (.bg (.bg (.bg (.bg (.bg (.bg .nil))))))))))))))))) (M4.aD (Mem.drew _)) (la (pw (gE lz (fi fun _ _ _ _ h=>h) (fi fun _ _ _ _ h=>h) (fi fun _ _ _ _ h=>h) (fi fun _ _ _ _ h=>h) (fi fun _ _ _ _ h=>h) (fi fun _ _ _ _ h=>h) (K6 (aZ g0) l.length 1 (q:Int) fun _ _ _ _ h=>h) (lL (aN (aZ g0) (q:Int) 1) (vI (m.getD (q:Int).toNat 0)) (fun _ _ _ _ h=>h) ?_) (fi fun _ _ _ _ h=>h) (fi fun _ _ _ _ h=>h) (K6 (aZ g0) l.length 1 (k:Int) fun _ _ _ _ h=>h) (lL (aN (aZ g0) (k:Int) 1) (vI (m.getD (k:Int).toNat 0)) (fun _ _ _ _ h=>h) ?_)) (K6 (aZ g0) l.length 1 (k:Int) fun _ _ _ _ h=>h) ?_ (K6 (aZ g0) l.length 1 (q:Int) fun _ _ _ _ h=>h)) ?_) ?_;intro w_ ls vs hJ bp bj hp;have f13:ls 13=false:=az bj bp (n:=16) kR;have f15:ls 15=false:=az bj bp (n:=16) kR;have aI:=hJ;simp only[f13,f15]at aI;exact(kS (aB (aI.get 0 rfl)) rfl oM oM);intro w_ ls vs hJ bp bj hp;have f13:ls 13=false:=az bj bp (n:=16) kR;have f15:ls 15=false:=az bj bp (n:=16) kR;have aI:=hJ;simp only[f13,f15]at aI;exact(kS (aB (aI.get 0 rfl)) rfl oM oM);intro dM w_ ls vs bZ hJ bp bj hp hF;refine iW (g0:=none) ?_;replace hF:Fr dM 28 [(21,(vI (m.getD (q:Int).toNat 0))),(26,(vP (aN (aZ g0) (k:Int) 1)))]:=hF.kp [21,26];have f13:ls 13=false:=bp;have f15:ls 15=false:=az bj bp (n:=16) kR;have aI:=hJ;simp only[f13,f15]at aI;refine dZ (kR:ao _ 0=some (none,.store 3 (.tmp 26) (.tmp 21),0,none)) hF kR kR (k':=1) rfl (ad:=(aZ g0)) (j:=(((k:Int)).toNat*1)) (e:=3) (size:=1) (n:=l.length) (cap:=c) (v:=(vI (m.getD (q:Int).toNat 0))) (xs:=(ints m)) (ad':=(aN (aZ g0) (k:Int) 1)) kR rfl kR kR rfl aI 0 rfl oM ?_;intro w2 dY _ a2 ea _;refine aJ kR ?_;refine aY (d:=none) kR ea rfl ?_;show match ls 15 with|true=>_|false=>(_)
 rw[f15];exact dY;intro dM w_ ls vs bZ hJ bp bj hp hF;refine iW (g0:=none) ?_;replace hF:Fr dM 28 [(25,(vI (m.getD (k:Int).toNat 0))),(27,(vP (aN (aZ g0) (q:Int) 1)))]:=hF.kp [25,27];have f13:ls 13=true:=aG bj (fun k hk=>(hp k hk).1) (n:=16) kR;have f15:ls 15=false:=bp;have aI:=hJ;simp only[f13,f15]at aI;refine dZ (kR:ao _ 0=some (none,.store 3 (.tmp 27) (.tmp 25),0,none)) hF kR kR (k':=1) rfl (ad:=(aZ g0)) (j:=(((q:Int)).toNat*1)) (e:=3) (size:=1) (n:=l.length) (cap:=c) (v:=(vI (m.getD (k:Int).toNat 0))) (xs:=((ints m).set (((k:Int)).toNat*1) (vI (m.getD (q:Int).toNat 0)))) (ad':=(aN (aZ g0) (q:Int) 1)) kR rfl kR kR rfl aI 0 rfl oM ?_;intro w2 dY _ a2 ea _;refine aJ kR ?_;refine aY (d:=none) kR ea rfl ?_;show _;exact dY;intro aC NU ls vs cA rO hv fr;simp only[show ls 15=true from cA 15 dQ]at rO;revert aC;refine cH [(0,vS (sM g0) l.length c),(2,nV k),(3,nV q)] ?_;clear cA hv fr aC M4;clear vs ls;refine dh<|aj 1<|cy ((k:Int)+1)<|aj 1<|cy ((q:Int)-1)<|aj 2<|aE ?_;intro aC fr;replace fr:Fr aC 28 [(0,.slice (sM g0) l.length c),(2,vI ((k+1:Nat):Int)),(3,vI ((l.length:Int)-1-((k+1:Nat):Int)))]:=by rw[show((l.length:Int)-1-((k+1:Nat):Int))=(q:Int)-1 by omega];exact fr.keep (keep:=[0,2,3]) kR
 exact⟨l.length-(k+1),oM,k+1,(m.set k (m.getD q 0)).set q (m.getD k 0),rfl,fr.kp [0,2,3],(rO.cast (by rw[ints_set,ints_set];simp only[Int.toNat_natCast,Nat.mul_one])),oM,yR hs oM⟩
end Go.Proofs.Ytejbeeaomokjpaa
namespace Go.Proofs.Ytejbeeaomokjpaa
open Go.Mor
theorem zk(nm wk pa va:Value)(A:aX)(c:Nat)(bs:List SB)(w:World)(hm:bs.length≤1000000)(hA:RO ba w (.blocks A bs)):Calls Try.prog 80 #[(.agg #[nm,wk,pa,va,(.slice A bs.length c)])] w (fE fun v w'=>∃A' c',v=vS A' (aF bs).length c'∧Mem ba w w' [.row 3 1 A' (aF bs).length c' (ints (aF bs))]):=by
 refine hZ 83 [(.agg #[nm,wk,pa,va,(.slice A bs.length c)])] Try.func80 ?_;have hM:=Mem.init w;refine aQ<|nJ hM 24 (.agg #[nm,wk,pa,va,(.slice A bs.length c)]) [nm,wk,pa,va,(.slice A bs.length c)] fun b1 w2 kH M3=> ?_
 replace M3:=M3.nf;clear hM;refine aj 1<|aE<|bx<|aQ<|aj 1<|bq (ak b1 4) (.slice A bs.length c) (ae (M3.get 0 rfl) rfl)<|aj 1<|gC (((bs.length:Nat):Int)==0) fun Bz U8=> ?_
 refine aE ?_;cases Bz;have cz:¬(((bs.length:Nat):Int)=0):=F6 U8;refine fT<|cg<|aQ<|aj 1<|bq (ak b1 4) (.slice A bs.length c) (ae (M3.get 0 rfl) rfl)<|aj 1<|eY (Gn bs.length w2 oM) ?_;rintro _ w5 ⟨g4,rfl,M6x⟩;have M6:=M3.cl M6x;refine aj 1<|aE<|aQ<|aj 1<|eY (vs:=#[(.slice (sM g4) ((bs.length+63) / 64) ((bs.length+63) / 64)),(.int .i64 0)]) (PL (List.replicate ((bs.length+63) / 64) 0) ((bs.length+63) / 64) 0 (sM g4) ((bs.length+63) / 64) w5 (Fit.zero _) oM sI (by simp;omega) (M6.get 1 rfl)) ?_;rintro _ w7 ⟨rfl,LV⟩;have M8:=M6.md 1 rfl LV;refine aE<|bC<|aQ<|aj 1 ?_;intro aC fr;refine rG 20 137 1 #[(0,(.tmp 19))] 137 fr (e:=136) (size:=2) (zs:=[(.int .i64 0),(.int .i64 0)]) (vs:=[(0,(.agg #[(.int .i64 0),(.int .i64 0)]))]) (cs:=[(.int .i64 0),(.int .i64 0)]) M8 ?_;intro b9 U9 hb9 _ rP _ aC ea fr;clear ea;replace rP:=rP.nf;revert aC;refine aj 1<|aE<|bx<|cK 0 ?_;obtain⟨s0,EI,Va⟩:=sd bs;intro aC fr;refine gT (fun n_ a_ w_=>∃(ws:List Nat) (S:Int→Bool) (o9:List (Int×Nat)) (A3:aX) (c3:Nat) (A2:aX) (n2:Nat) (c2:Nat) (o:ar),n_=4*jn bs.length S+AF (tg bs) o9∧Fr a_ 83 [(1,(pT b1 0)),(3,(.slice (sM g4) ((bs.length+63) / 64) ((bs.length+63) / 64))),(4,(.slice A2 n2 c2)),(5,(.slice A3 o9.length c3))]∧Mem ba w w_ [.au b1 24 [nm,wk,pa,va,(.slice A bs.length c)],.row 160 1 (sM g4) ((bs.length+63) / 64) ((bs.length+63) / 64) (kz ws),.row 136 2 A3 o9.length c3 (ou o9),.row 3 1 A2 n2 c2 (ints o)]∧(MetL bs.length ws S)∧(AE (tg bs) o9 (S,o) (AD bs))∧(xh (tg bs) o9)∧(o.length+o9.length+jn bs.length S≤bs.length)∧(n2=o.length)) (n:=_) ⟨uG (List.replicate ((bs.length+63) / 64) 0) 0,fw (fun _=>false) 0,[(0,0)],(sM b9),1,none,0,0,[],rfl,fr.kp [1,3,4,5],(rP.call (Mem.gK _ 3 1)),(MetL.start bs.length).put oM,⟨s0,EI,Va⟩,MS _ _,by have:=fL (n:=bs.length) (S:=fun _=>false) (t:=0) oM oM rfl;have:=j8 bs.length (fun _=>false);simp only[List.length_cons,List.length_nil];omega,rfl⟩ ?_;clear fr aC rP;rintro n aC NS ⟨ws,S,o9,A3,c3,A2,n2,c2,o,rfl,fr,lu,SS,QbG,NY,vh,Ho⟩;revert aC;refine bx<|aQ<|aj 2<|gC (decide (((o9.length:Nat):Int)>0)) fun Bw PM=> ?_
 refine aE ?_;cases Bw;have cw:¬(((o9.length:Nat):Int)>0):=of_decide_eq_false PM.symm;refine fT<|gq 0<|gr<|aQ ?_;obtain rfl:o9=[]:=by cases o9 with|nil=>rfl|cons p r=>simp at cw
 have Vb:o=AD bs:=QbG;simp only[List.length_nil]at vh;subst Ho;refine aj 1<|eY (Gp o A2 c2 NS oM (lu.get 3 rfl)) ?_;rintro _ U4 ⟨rfl,Rr⟩;have qK:=lu.md 3 rfl Rr;refine aE<|bC<|an<|cQ (.slice A2 o.length c2) ?_;exact mO (qK.pick [false,false,false,true] rfl) (by unfold aF;rw[if_neg oM,Vb]) sI;have cw:((o9.length:Nat):Int)>0:=of_decide_eq_true PM.symm;refine fN<|cg<|cK 1<|aQ ?_;obtain⟨b,k,rest,rfl⟩:∃b k rest,o9=(b,k)::rest:=by
   cases o9 with
   |nil=>simp at cw
   |cons p rest=>exact⟨p.1,p.2,rest,rfl⟩
 have Jm:=NY _ (List.mem_cons_self ..);simp only at Jm;have Hr:((b,k)::rest).length=rest.length+1:=rfl;have BQ:=vh;simp only[List.length_cons]at BQ;have jv:=p7 (lu.get 2 rfl);obtain⟨g3,rfl⟩:=cW (lu.get 2 rfl) (Nat.succ_pos _);refine aj 3 ?_;intro aC fr;refine fU (kR:ao _ 3=some (some 27,(.binOp .sub 3 (.tmp 26) (.const (.int .i64 1)) 3),3,none)) fr kR kR (k':=4) rfl (i:=((((b,k)::rest).length:Nat):Int)) (j:=1) (z:=((rest.length:Nat):Int)) kR kR (sZ some (by rw[Hr];omega)) oM oM ?_;intro aC ea fr;clear ea;revert aC;refine eZ (aZ g3) (((b,k)::rest).length) 2 ((rest.length:Nat):Int)<|aj 1<|aE<|bx<|cH [(1,(pT b1 0)),(3,(.slice (sM g4) ((bs.length+63) / 64) ((bs.length+63) / 64))),(4,(.slice A2 n2 c2)),(5,(.slice (sM g3) (((b,k)::rest).length) c3)),(6,(.pointer (some (((aZ g3):Addr).add ((((rest.length:Nat):Int)).toNat*2)))))] ?_;intro aC fr;refine zK (N:=83) (env0:=[(1,(pT b1 0)),(3,(.slice (sM g4) ((bs.length+63) / 64) ((bs.length+63) / 64))),(4,(.slice A2 n2 c2)),(5,(.slice (sM g3) (((b,k)::rest).length) c3)),(6,(.pointer (some (((aZ g3):Addr).add ((((rest.length:Nat):Int)).toNat*2)))))]) (bL [.bg (.agg #[nm,wk,pa,va,(.slice A bs.length c)]),.bg (.pointer (some (((aZ g3):Addr).add ((((rest.length:Nat):Int)).toNat*2)))),.bg (.pointer (some (((aZ g3):Addr).add ((((rest.length:Nat):Int)).toNat*2)))),.bg (.pointer (some (((aZ g3):Addr).add ((((rest.length:Nat):Int)).toNat*2)))),.bg (.int .i64 b),Spec.free,Spec.free]) (fun ls vs w_=>match ls 6 with|true=>(∃(NZ:aX) (Hs:Nat),vs 6=(.slice NZ ((tg bs b).length) Hs)∧Mem ba w w_ [.au b1 24 [nm,wk,pa,va,(.slice A bs.length c)],.row 160 1 (sM g4) ((bs.length+63) / 64) ((bs.length+63) / 64) (kz ws),.row 136 2 (sM g3) (((b,k)::rest).length) c3 (ou ((b,k)::rest)),.row 3 1 A2 n2 c2 (ints o),.row 3 1 NZ ((tg bs b).length) Hs (ints (tg bs b))])|false=>(match ls 5 with|true=>(∃(NZ:aX) (Hs:Nat),vs 5=(.slice NZ ((tg bs b).length) Hs)∧Mem ba w w_ [.au b1 24 [nm,wk,pa,va,(.slice A bs.length c)],.row 160 1 (sM g4) ((bs.length+63) / 64) ((bs.length+63) / 64) (kz ws),.row 136 2 (sM g3) (((b,k)::rest).length) c3 (ou ((b,k)::rest)),.row 3 1 A2 n2 c2 (ints o),.row 3 1 NZ ((tg bs b).length) Hs (ints (tg bs b))])|false=>(Mem ba w w_ [.au b1 24 [nm,wk,pa,va,(.slice A bs.length c)],.row 160 1 (sM g4) ((bs.length+63) / 64) ((bs.length+63) / 64) (kz ws),.row 136 2 (sM g3) (((b,k)::rest).length) c3 (ou ((b,k)::rest)),.row 3 1 A2 n2 c2 (ints o)]))) fr (oK (.bg (.bg (.bg (.bg (.bg (.free (.free .nil)))))))) (lu.aD (Mem.drew _)) (rY (Cu lz ?_ (fi fun _ _ _ _ h=>h) (fi fun _ _ _ _ h=>h) (fi fun _ _ _ _ h=>h) (lL (((aZ g3):Addr).add ((((rest.length:Nat):Int)).toNat*2)) (.int .i64 b) (fun _ _ _ _ h=>h) ?_)) ?_ ?_) ?_;intro dM w_ ls vs bZ hJ bp bj hp hF;refine iW (g0:=none) ?_;replace hF:Fr dM 83 [(1,(pT b1 0))]:=hF.kp [1];have f5:ls 5=false:=az bj bp (n:=7) kR;have f6:ls 6=false:=az bj bp (n:=7) kR;have aI:=hJ;simp only[f5,f6]at aI;refine eV (kR:ao _ 0=some (some 29,(.load 24 (.tmp 1)),24,none)) hF kR kR (k':=1) rfl (ad:=aZ b1) (vs:=[nm,wk,pa,va,(.slice A bs.length c)]) kR kR (aK (aI.get 0 rfl)) ?_;intro a2 ea _;refine aJ kR ?_;exact aY (d:=some 29) kR ea rfl hJ;intro w_ ls vs hJ bp bj hp;have f5:ls 5=false:=az bj bp (n:=7) kR;have f6:ls 6=false:=az bj bp (n:=7) kR;have aI:=hJ;simp only[f5,f6]at aI;exact(by rw[Int.toNat_natCast];exact ji (aB (aI.get 2 rfl)) rfl rq.1);intro dM w_ ls vs bZ hJ bp bj hp hF;refine iW (g0:=none) ?_;replace hF:Fr dM 83 [(29,(.agg #[nm,wk,pa,va,(.slice A bs.length c)])),(33,(.int .i64 b))]:=hF.kp [29,33];have f5:ls 5=false:=bp;have f6:ls 6=false:=az bj bp (n:=7) kR;have aI:=hJ;simp only[f5,f6]at aI;refine iT (kR:ao _ 0=some (some 34,(.call {callee:=(.value (.func 108)),args:=#[(.tmp 29),(.tmp 33)],argTypes:=#[24,3]}),37,none)) hF kR kR (k':=1) rfl (f:=108) (vs:=[(.agg #[nm,wk,pa,va,(.slice A bs.length c)]),(.int .i64 b)]) (cap:=[]) kR kR kR (xU _ _ _ _ A c bs b w_ hm (hA.at_ aI)) ?_;rintro _ w2 ⟨N0,N1,rfl,dY⟩ a2 ea _;have N2:=aI.call dY;refine aJ kR ?_;refine aY (d:=some 34) kR ea trivial ?_;show match ls 6 with|true=>_|false=>(∃(NZ:aX) (Hs:Nat),_)
 rw[f6];exact⟨N0,N1,rfl,N2⟩;intro dM w_ ls vs bZ hJ bp bj hp hF;refine iW (g0:=none) ?_;replace hF:Fr dM 83 [(34,vs 5)]:=hF.kp [34];have f5:ls 5=true:=aG bj (fun k hk=>(hp k hk).1) (n:=7) kR;have f6:ls 6=false:=bp;have aI:=hJ;simp only[f5,f6]at aI;obtain⟨N0,N1,e_,dY⟩:=aI;rw[e_]at hF;refine eU (kR:ao _ 0=some (some 7,(.assign (.tmp 34)),37,none)) hF kR kR (k':=1) rfl (v:=(.slice N0 ((tg bs b).length) N1)) kR ?_;intro a2 ea _;refine aJ kR ?_;refine aY (d:=some 7) kR ea trivial ?_;show∃(NZ:aX) (Hs:Nat),_;exact⟨N0,N1,rfl,dY⟩;intro aC N3 ls vs cA ll hv fr;simp only[show ls 6=true from cA 6 dQ]at ll;revert aC;refine cH [(1,(pT b1 0)),(3,(.slice (sM g4) ((bs.length+63) / 64) ((bs.length+63) / 64))),(4,(.slice A2 n2 c2)),(5,(.slice (sM g3) (((b,k)::rest).length) c3)),(6,(.pointer (some (((aZ g3):Addr).add ((((rest.length:Nat):Int)).toNat*2))))),(7,vs 6)] ?_;obtain⟨NZ,Hs,e_,ll⟩:=ll;rw[e_];clear e_;clear cA hv fr aC lu;clear vs ls;refine bx<|aQ<|aj 3<|bq ((((aZ g3):Addr).add ((((rest.length:Nat):Int)).toNat*2)).add 1) (nV k) (by rw[Int.toNat_natCast,add_add];exact ji (aB (ll.get 2 rfl)) rfl rq.2)<|aj 2<|gC ((k:Int)==(((tg bs b).length:Nat):Int)) fun Bl Tz=> ?_
 refine aE ?_;cases Bl;have cl:¬((k:Int)=(((tg bs b).length:Nat):Int)):=F6 Tz;refine fT<|cg<|aQ ?_;obtain⟨ti,Dz,Gq⟩:=Ir (bs:=bs) (b:=b) (k:=k) oM;refine aj 4<|bq ((((aZ g3):Addr).add ((((rest.length:Nat):Int)).toNat*2)).add 1) (nV k) (by rw[Int.toNat_natCast,add_add];exact ji (aB (ll.get 2 rfl)) rfl rq.2) ?_;obtain⟨Z0,rfl⟩:=cW (ll.get 4 rfl) oM;refine eZ (h1:=oM) (aZ Z0) ((tg bs b).length) 1 (k:Int)<|bq (((aZ Z0):Addr).add (((k:Int)).toNat*1)) (nV ti) (fR (aB (ll.get 4 rfl)) rfl Dz)<|aj 1<|aE<|aQ<|aj 3<|bq ((((aZ g3):Addr).add ((((rest.length:Nat):Int)).toNat*2)).add 1) (nV k) (by rw[Int.toNat_natCast,add_add];exact ji (aB (ll.get 2 rfl)) rfl rq.2)<|cy (h2:=(by have:=oe bs b;omega)) ((k:Int)+1)<|aj 2<|zJ ll 2 ((((aZ g3):Addr).add ((((rest.length:Nat):Int)).toNat*2)).add 1) (rest.length*2+1) (.int .i64 ((k:Int)+1)) rfl (by rw[Int.toNat_natCast,add_add]) (by rw[Hr];omega) fun kD Vc=> ?_
 replace Vc:=Vc.nf;refine aE<|aQ ?_;have s8:Mem ba w kD [.au b1 24 [nm,wk,pa,va,(.slice A bs.length c)],.row 160 1 (sM g4) ((bs.length+63) / 64) ((bs.length+63) / 64) (kz ws),.row 136 2 (sM g3) (((b,k+1)::rest).length) c3 (ou ((b,k+1)::rest)),.row 3 1 A2 n2 c2 (ints o),.row 3 1 (sM Z0) ((tg bs b).length) Hs (ints (tg bs b))]:=Vc.cast (by rw[MR];rfl);refine aj 2<|eY (Rv ws ((bs.length+63) / 64) ti (sM g4) ((bs.length+63) / 64) kD SS.fit oM SS.len.symm (SS.idx Gq) (RO.aB (s8.dT 1 rfl))) ?_;rintro _ kE ⟨rfl,Rw⟩;have EN:=s8.cl Rw;obtain⟨Bm,Z1⟩:∃B,B=tb ws ti:=⟨_,rfl⟩;refine cH [(1,(pT b1 0)),(3,(.slice (sM g4) ((bs.length+63) / 64) ((bs.length+63) / 64))),(4,(.slice A2 n2 c2)),(5,(.slice (sM g3) (((b,k+1)::rest).length) c3)),(8,(nV ti)),(68,(.slice (sM g4) ((bs.length+63) / 64) ((bs.length+63) / 64))),(69,(nV ti)),(70,(.bool (tb ws ti)))] ?_;rw[←Z1];refine aj 1<|aE ?_;cases Bm;have cm:(tb ws ti)=false:=Z1.symm;have N4:S (ti:Int)=false:=by rw[←SS.bits ti Gq];exact cm
 refine fN<|aQ<|aj 2<|eY (PL ws ((bs.length+63) / 64) ti (sM g4) ((bs.length+63) / 64) kE SS.fit oM SS.len.symm (SS.idx Gq) (EN.get 1 rfl)) ?_;rintro _ kF ⟨rfl,Rx⟩;have JK:=EN.md 1 rfl Rx;refine aE<|dh<|aj 3 ?_;intro aC fr;refine rG 78 137 1 #[(0,(.tmp 77))] 137 fr (e:=136) (size:=2) (zs:=[(.int .i64 0),(.int .i64 0)]) (vs:=[(0,(.agg #[(nV ti),(.int .i64 0)]))]) (cs:=[(nV ti),(.int .i64 0)]) JK ?_;intro b45 kP hb45 _ EO _ aC ea fr;clear ea;replace EO:=EO.nf;refine tT 79 (.tmp 75) (.tmp 78) 137 137 fr (e:=136) (size:=2) (bytes:=16) (z:=(.agg #[(.int .i64 0),(.int .i64 0)])) (A:=(sM g3)) (B:=(sM b45)) (n:=(((b,k+1)::rest).length)) (cap:=c3) (m:=1) (cap':=1) (xs:=(ou ((b,k+1)::rest))) (news:=[(nV ti),(.int .i64 0)]) EO 2 rfl (aB (EO.get 5 rfl)) rfl (by simp[Value.oneCell']) (by simp only[List.length_cons];omega) (by simp only[maxLen,List.length_cons];omega) ?_;intro mH kK Vd qM _ aC ea fr;clear ea;replace qM:=qM.nf;have sC:=qM.od [4,4,4,4,4] 5;revert aC;refine aj 1<|aE ?_;intro aC fr;exact⟨4*jn bs.length (fw S (ti:Int))+AF (tg bs) (((ti:Int),0)::(b,k+1)::rest),by have:=oe bs (ti:Int);have:=fL (n:=bs.length) (S:=S) (t:=(ti:Int)) oM oM N4;simp only[AF];omega,uG ws ti,fw S (ti:Int),((ti:Int),0)::(b,k+1)::rest,mH,kK,A2,n2,c2,o,rfl,fr.kp [1,3,4,5],((sC.pick [true,true,true,true,false] rfl).cast (by rw[kN ((ti:Int),0)];rfl)),SS.put Gq,Ip QbG Dz N4,Iq NY oM,by have:=fL (n:=bs.length) (S:=S) (t:=(ti:Int)) oM oM N4;simp only[List.length_cons]at vh⊢;omega,Ho⟩;have cm:(tb ws ti)=true:=Z1.symm;have N4:S (ti:Int)=true:=by rw[←SS.bits ti Gq];exact cm
 refine fT<|cg ?_;intro aC fr;exact⟨4*jn bs.length S+AF (tg bs) ((b,k+1)::rest),by simp only[AF];omega,ws,S,(b,k+1)::rest,(sM g3),c3,A2,n2,c2,o,rfl,fr.kp [1,3,4,5],(EN.pick [true,true,true,true,false] rfl),SS,Io QbG Dz N4,MT NY oM,by simp only[List.length_cons]at vh⊢;omega,Ho⟩;have cl:(k:Int)=(((tg bs b).length:Nat):Int):=beq_iff_eq.1 Tz.symm;refine fN<|aQ<|aj 4<|bq (((aZ g3):Addr).add ((((rest.length:Nat):Int)).toNat*2)) (.int .i64 b) (by rw[Int.toNat_natCast];exact ji (aB (ll.get 2 rfl)) rfl rq.1) ?_;intro aC fr;refine rG 47 37 1 #[(0,(.tmp 46))] 37 fr (e:=3) (size:=1) (zs:=[(.int .i64 0)]) (vs:=[(0,(.int .i64 b))]) (cs:=[(.int .i64 b)]) ll ?_;intro b63 I7 hb63 _ Cv _ aC ea fr;clear ea;replace Cv:=Cv.nf;refine tT 48 (.tmp 42) (.tmp 47) 37 37 fr (e:=3) (size:=1) (bytes:=8) (z:=(.int .i64 0)) (A:=A2) (B:=(sM b63)) (n:=n2) (cap:=c2) (m:=1) (cap':=1) (xs:=(ints o)) (news:=[(.int .i64 b)]) Cv 3 rfl (aB (Cv.get 5 rfl)) rfl (by simp[Value.oneCell']) oM (by simp only[maxLen];omega) ?_;intro kU Ry Z2 Cw _ aC ea fr;clear ea;replace Cw:=Cw.nf;have EP:=Cw.od [4,4,4,4,4] 5;revert aC;refine aj 1<|aE<|aQ<|aj 3 ?_;intro aC fr;refine fU (kR:ao _ 3=some (some 52,(.binOp .sub 3 (.tmp 51) (.const (.int .i64 1)) 3),3,none)) fr kR kR (k':=4) rfl (i:=((((b,k)::rest).length:Nat):Int)) (j:=1) (z:=((rest.length:Nat):Int)) kR kR (sZ some (by rw[Hr];omega)) oM oM ?_;intro aC ea fr;clear ea;refine fW (kR:ao _ 4=some (some 53,(.slice 137 (.tmp 49) none (some (.tmp 52)) none),137,none)) fr kR kR (k':=5) rfl (A:=(sM g3)) (n:=((b,k)::rest).length) (cap:=c3) (e:=136) (size:=2) (kd:= .i64) (i:=((rest.length:Nat):Int)) rest.length kR kR rfl kR kR oM ?_;intro aC ea fr;clear ea;have nx:Mem ba w Z2 [.au b1 24 [nm,wk,pa,va,(.slice A bs.length c)],.row 160 1 (sM g4) ((bs.length+63) / 64) ((bs.length+63) / 64) (kz ws),.row 136 2 (sM g3) rest.length c3 (ou rest),.row 3 1 kU (n2+1) Ry ((ints o)++[(.int .i64 b)]),.row 3 1 NZ ((tg bs b).length) Hs (ints (tg bs b))]:=(EP.kW 2 rfl rest.length oM).cast (by rw[MQ];rfl);revert aC;refine aj 1<|aE<|gq 1<|gr ?_;intro aC fr;exact⟨4*jn bs.length S+AF (tg bs) rest,by simp only[AF];omega,ws,S,rest,(sM g3),c3,kU,(n2+1),Ry,o++[b],rfl,fr.kp [1,3,4,5],((nx.pick [true,true,true,true,false] rfl).cast (by rw[iU];rfl)),SS,MP QbG oM,fun p hp=>NY p (List.mem_cons_of_mem _ hp),by simp only[List.length_append,List.length_cons,List.length_nil]at vh⊢;omega,by simp only[List.length_append,List.length_cons,List.length_nil];omega⟩;have cz:((bs.length:Nat):Int)=0:=beq_iff_eq.1 U8.symm;refine fN<|bC<|an<|cQ aq ?_;exact Ha (M3.pick [false] rfl) (by unfold aF;rw[if_pos oM])
end Go.Proofs.Ytejbeeaomokjpaa
namespace Go.Proofs.Ytejbeeaomokjpaa
open Go.Mor
theorem DA(nm wk pa va:Value)(A:aX)(c:Nat)(bs:List SB)(bar:Int)(w:World)(hm:bs.length≤1000000)(hA:RO ba w (.blocks A bs)):Calls Try.prog 41 #[(.agg #[nm,wk,pa,va,vS A bs.length c]),vI bar] w (fE fun v w'=>∃A' c',v=vS A' bs.length c'∧Mem ba w w' [.row 4 1 A' bs.length c' (bD (fM bs bar))]):=by
 refine hZ 74 [(.agg #[nm,wk,pa,va,vS A bs.length c]),vI bar] Try.func41 ?_;have hM:=Mem.init w;refine aQ<|nJ hM 24 (.agg #[nm,wk,pa,va,vS A bs.length c]) [nm,wk,pa,va,vS A bs.length c] fun b1 w2 kH M3=> ?_
 replace M3:=M3.nf;clear hM;refine aj 1<|aE<|aQ<|aj 1<|bq (ak b1 4) _ (ae (M3.get 0 rfl) rfl)<|aj 1 ?_;intro aC fr;refine I9 13 46 (.tmp 12) (.tmp 12) 46 fr (e:=4) (bytes:=1) (z:=(vB false)) (n:=bs.length) (i:=(bs.length:Int)) oM (by simp only[maxLen];omega) M3 ?_;intro b4 w5 LW _ M6 _ aC ea fr;clear ea;replace M6:=M6.nf;revert aC;refine aj 1<|aE<|bx<|aQ<|aj 1<|bq (ak b1 4) _ (ae (M6.get 0 rfl) rfl)<|aj 1<|gC ((bs.length:Int)==0) fun Bz U8=> ?_
 refine aj 1 ?_;cases Bz;have cz:¬((bs.length:Int)=0):=F6 U8;refine aj 1<|gC (bar==0) fun Bb Ve=> ?_
 refine aj 1<|aE ?_;cases Bb;have cb:¬(bar=0):=F6 Ve;refine fT<|cg<|aQ<|aj 1<|eZ (aZ b4) bs.length 1 0<|zJ M6 1 (aN (aZ b4) (0:Int) 1) ((0:Int).toNat*1) (vB true) rfl rfl oM fun DB jV=> ?_
 replace jV:=jV.nf;refine dX [1,2,5]<|aE<|aQ ?_;intro aC fr;refine rG 25 37 1 #[(0,.const (vI 0))] 37 fr (e:=3) (size:=1) (zs:=[vI 0]) (vs:=[(0,vI 0)]) (cs:=[vI 0]) jV ?_;intro Z3 Ys hb13 _ Lh _ aC ea fr;clear ea;replace Lh:=Lh.nf;revert aC;refine aj 1<|aE<|bx<|bC<|cK 0 ?_;intro aC fr;refine gT (fun n_ a_ w_=>∃(i:Nat) (S:Int→Bool) (inl:List Bool) (todo:ar) (A2:aX) (n2:Nat) (c2:Nat),n_=bs.length-i∧Fr a_ 74 [(1,vI bar),(2,pT b1 0),(5,vS (sM b4) bs.length bs.length),(6,vS A2 n2 c2),(7,nV i)]∧Mem ba w w_ [.au b1 24 [nm,wk,pa,va,vS A bs.length c],.row 4 1 (sM b4) bs.length bs.length (bD inl),.row 3 1 A2 n2 c2 (ints todo)]∧(dR bs.length inl S)∧(AJ (tg bs) bar S todo i 0)∧(todo.length+jn bs.length S≤bs.length)∧(n2=todo.length)∧(i≤todo.length)) (n:=_) ⟨0,fw (fun _=>false) 0,(List.replicate bs.length false).set 0 true,[0],(sM Z3),1,1,rfl,fr.kp [1,2,5,6,7],(Lh.cast (by simp[bD,ints,List.map_set])),(dR.start bs.length).put oM,AJ.start _ _,by have:=fL (n:=bs.length) (S:=fun _=>false) (t:=0) oM oM rfl;have:=j8 bs.length (fun _=>false);simp only[List.length_cons,List.length_nil];omega,rfl,oM⟩ ?_;clear fr aC Lh;rintro n aC U4 ⟨i,S,inl,todo,A2,n2,c2,rfl,fr,qK,o8,lD,vh,Ho,hi⟩;revert aC;refine bx<|aQ<|aj 3<|gC (decide ((i:Int)<(n2:Int))) fun Bw PM=> ?_
 refine aE ?_;cases Bw;have cw:¬((i:Int)<(n2:Int)):=of_decide_eq_false PM.symm;refine fT<|gq 0<|gr<|bC<|an<|cQ (vS (sM b4) bs.length bs.length) ?_;have fk:=qK.od [1] 1;exact⟨_,_,rfl,(fk).cast (by rw[Iw o8 lD oM oM])⟩;have cw:(i:Int)<(n2:Int):=of_decide_eq_true PM.symm;refine fN<|cg<|bx<|cK 1<|bx ?_;obtain⟨b,hb⟩:∃b,todo[i]?=some b:=⟨_,List.getElem?_eq_getElem oM⟩;obtain⟨g3,rfl⟩:=cW (qK.get 2 rfl) oM;have x9:=oe bs b;refine dX [1,2,5,6,7,29] ?_;intro aC fr;refine zK (bL [.bg (.agg #[nm,wk,pa,va,vS A bs.length c]),eS (sM g3) n2 c2,.bg (nV i),eA (aZ g3) (i:Int) 1,eI b,Spec.free,Spec.free]) (fun ls vs w_=>match ls 6 with|true=>(∃(LX:aX) (Gr:Nat),vs 6=(vS LX ((tg bs b).length) Gr)∧Mem ba w w_ [.au b1 24 [nm,wk,pa,va,vS A bs.length c],.row 4 1 (sM b4) bs.length bs.length (bD inl),.row 3 1 (sM g3) n2 c2 (ints todo),.row 3 1 LX ((tg bs b).length) Gr (ints (tg bs b))])|false=>(match ls 5 with|true=>(∃(LX:aX) (Gr:Nat),vs 5=(vS LX ((tg bs b).length) Gr)∧Mem ba w w_ [.au b1 24 [nm,wk,pa,va,vS A bs.length c],.row 4 1 (sM b4) bs.length bs.length (bD inl),.row 3 1 (sM g3) n2 c2 (ints todo),.row 3 1 LX ((tg bs b).length) Gr (ints (tg bs b))])|false=>(Mem ba w w_ [.au b1 24 [nm,wk,pa,va,vS A bs.length c],.row 4 1 (sM b4) bs.length bs.length (bD inl),.row 3 1 (sM g3) n2 c2 (ints todo)]))) fr (oK (.bg (.bg (.bg (.bg (.bg (.free (.free .nil)))))))) (qK.aD (Mem.drew _)) (rY (Cu lz ?_ (fi fun _ _ _ _ h=>h) (fi fun _ _ _ _ h=>h) (K6 (aZ g3) n2 1 (i:Int) fun _ _ _ _ h=>h) (lL (aN (aZ g3) (i:Int) 1) (vI b) (fun _ _ _ _ h=>h) ?_)) ?_ ?_) ?_;intro dM w_ ls vs bZ hJ bp bj hp hF;refine iW (g0:=none) ?_;replace hF:Fr dM 74 [(2,pT b1 0)]:=hF.kp [2];have f5:ls 5=false:=az bj bp (n:=7) kR;have f6:ls 6=false:=az bj bp (n:=7) kR;have aI:=hJ;simp only[f5,f6]at aI;refine eV (kR:ao _ 0=some (some 32,.load 24 (.tmp 2),24,none)) hF kR kR (k':=1) rfl (ad:=aZ b1) (vs:=[nm,wk,pa,va,vS A bs.length c]) kR kR (aK (aI.get 0 rfl)) ?_;intro a2 ea _;refine aJ kR ?_;exact aY (d:=some 32) kR ea rfl hJ;intro w_ ls vs hJ bp bj hp;have f5:ls 5=false:=az bj bp (n:=7) kR;have f6:ls 6=false:=az bj bp (n:=7) kR;have aI:=hJ;simp only[f5,f6]at aI;exact(fR (aB (aI.get 2 rfl)) rfl hb);intro dM w_ ls vs bZ hJ bp bj hp hF;refine iW (g0:=none) ?_;replace hF:Fr dM 74 [(32,(.agg #[nm,wk,pa,va,vS A bs.length c])),(36,vI b)]:=hF.kp [32,36];have f5:ls 5=false:=bp;have f6:ls 6=false:=az bj bp (n:=7) kR;have aI:=hJ;simp only[f5,f6]at aI;refine iT (kR:ao _ 0=some (some 37,(.call {callee:=(.value (.func 74)),args:=#[.tmp 32,.tmp 36],argTypes:=#[24,3]}),37,none)) hF kR kR (k':=1) rfl (f:=74) (vs:=[(.agg #[nm,wk,pa,va,vS A bs.length c]),vI b]) (cap:=[]) kR kR kR (vr _ _ _ _ A c bs b w_ hm (hA.at_ aI)) ?_;rintro _ w2 ⟨N5,N6,rfl,dY⟩ a2 ea _;have N2:=aI.call dY;refine aJ kR ?_;refine aY (d:=some 37) kR ea trivial ?_;show match ls 6 with|true=>_|false=>(∃(LX:aX) (Gr:Nat),_)
 rw[f6];exact⟨N5,N6,rfl,N2⟩;intro dM w_ ls vs bZ hJ bp bj hp hF;refine iW (g0:=none) ?_;replace hF:Fr dM 74 [(37,vs 5)]:=hF.kp [37];have f5:ls 5=true:=aG bj (fun k hk=>(hp k hk).1) (n:=7) kR;have f6:ls 6=false:=bp;have aI:=hJ;simp only[f5,f6]at aI;obtain⟨N5,N6,e_,dY⟩:=aI;rw[e_]at hF;refine eU (kR:ao _ 0=some (some 8,.assign (.tmp 37),37,none)) hF kR kR (k':=1) rfl (v:=(vS N5 ((tg bs b).length) N6)) kR ?_;intro a2 ea _;refine aJ kR ?_;refine aY (d:=some 8) kR ea trivial ?_;show∃(LX:aX) (Gr:Nat),_;exact⟨N5,N6,rfl,dY⟩;intro aC kh ls vs cA Dy hv fr;simp only[show ls 6=true from cA 6 dQ]at Dy;revert aC;refine cH [(1,vI bar),(2,pT b1 0),(5,vS (sM b4) bs.length bs.length),(6,vS (sM g3) n2 c2),(7,nV i),(8,vs 6)] ?_;obtain⟨LX,Gr,e_,Dy⟩:=Dy;rw[e_];clear e_;clear cA hv fr aC qK;clear vs ls;refine bC<|cK 2 ?_;intro aC fr;refine gT (fun n_ a_ w_=>∃(k:Nat) (S2:Int→Bool) (tq:List Bool) (ny:ar) (A4:aX) (n4:Nat) (c4:Nat),n_=(tg bs b).length-k∧Fr a_ 74 [(1,vI bar),(2,pT b1 0),(5,vS (sM b4) bs.length bs.length),(6,vS A4 n4 c4),(7,nV i),(8,vS LX ((tg bs b).length) Gr),(9,nV k)]∧Mem ba w w_ [.au b1 24 [nm,wk,pa,va,vS A bs.length c],.row 4 1 (sM b4) bs.length bs.length (bD tq),.row 3 1 A4 n4 c4 (ints ny),.row 3 1 LX ((tg bs b).length) Gr (ints (tg bs b))]∧(k≤(tg bs b).length)∧(dR bs.length tq S2)∧(AJ (tg bs) bar S2 ny i k)∧(ny[i]?=some b)∧(ny.length+jn bs.length S2≤bs.length)∧(n4=ny.length)) (n:=_) ⟨0,S,inl,todo,(sM g3),n2,c2,rfl,fr.kp [1,2,5,6,7,8,9],Dy,oM,o8,lD,hb,vh,Ho⟩ ?_;clear fr aC Dy;rintro n aC ZR ⟨k,S2,tq,ny,A4,n4,c4,rfl,fr,tX,hk,wz,N7,tP,BQ,Yu⟩;revert aC;refine bx<|aQ<|aj 3<|gC (decide ((k:Int)<((tg bs b).length:Int))) fun Bk JL=> ?_
 refine aE ?_;cases Bk;have ck:¬((k:Int)<((tg bs b).length:Int)):=of_decide_eq_false JL.symm;refine fT<|gq 2<|gr<|dh<|aj 1<|cy ((i:Int)+1)<|aj 1<|aE ?_;intro aC fr;exact⟨bs.length-(i+1),by have:=(List.getElem?_eq_some_iff.1 tP).1;omega,i+1,S2,tq,ny,A4,n4,c4,rfl,fr.kp [1,2,5,6,7],(tX.pick [true,true,true,false] rfl),wz,N7.next tP oM,BQ,Yu,by have:=(List.getElem?_eq_some_iff.1 tP).1;omega⟩;have ck:(k:Int)<((tg bs b).length:Int):=of_decide_eq_true JL.symm;refine fN<|cg<|bx<|cK 3<|aQ ?_;obtain⟨ti,Dz,Gq⟩:=Ir (bs:=bs) (b:=b) (k:=k) oM;refine aj 3 ?_;obtain⟨LY,rfl⟩:=cW (tX.get 3 rfl) oM;refine eZ (aZ LY) ((tg bs b).length) 1 (k:Int)<|bq (aN (aZ LY) (k:Int) 1) _ (fR (aB (tX.get 3 rfl)) rfl Dz)<|eZ (aZ b4) bs.length 1 (ti:Int)<|bq (aN (aZ b4) (ti:Int) 1) _ (bB (aB (tX.get 1 rfl)) rfl (jM (by rw[wz.1];exact Gq))) ?_;obtain⟨Bin,Rz⟩:∃B,B=tq.getD ti false:=⟨_,rfl⟩;refine cH [(1,vI bar),(2,pT b1 0),(5,vS (sM b4) bs.length bs.length),(6,vS A4 n4 c4),(7,nV i),(8,vS (sM LY) ((tg bs b).length) Gr),(9,nV k),(50,vB (tq.getD ti false))] ?_;rw[←Rz];refine aj 2 ?_;cases Bin;have cin:(tq.getD ti false)=false:=Rz.symm;have N4:S2 (ti:Int)=false:=by rw[←wz.2 ti Gq];exact cin
 refine aj 2<|eZ (aZ LY) ((tg bs b).length) 1 (k:Int)<|bq (aN (aZ LY) (k:Int) 1) _ (fR (aB (tX.get 3 rfl)) rfl Dz)<|aj 1<|gC ((ti:Int) !=bar) fun Z4 PN=> ?_
 refine aj 1<|aE ?_;cases Z4;have Z5:¬((ti:Int)≠bar):=Q9 PN;refine fT<|cg<|dh<|aj 1<|cy ((k:Int)+1)<|aj 1<|aE ?_;intro aC fr;exact⟨(tg bs b).length-(k+1),oM,k+1,S2,tq,ny,A4,n4,c4,rfl,fr.kp [1,2,5,6,7,8,9],tX,oM,wz,N7.skip tP Dz (.inr oM),tP,BQ,Yu⟩;have Z5:(ti:Int)≠bar:=bne_iff_ne.1 PN.symm;refine fN<|aQ<|aj 3<|eZ (aZ LY) ((tg bs b).length) 1 (k:Int)<|bq (aN (aZ LY) (k:Int) 1) _ (fR (aB (tX.get 3 rfl)) rfl Dz)<|eZ (aZ b4) bs.length 1 (ti:Int)<|zJ tX 1 (aN (aZ b4) (ti:Int) 1) (((ti:Int)).toNat*1) (vB true) rfl rfl oM fun Vf ER=> ?_
 replace ER:=ER.nf;refine aE<|dh ?_;have oI:Mem ba w Vf [.au b1 24 [nm,wk,pa,va,vS A bs.length c],.row 4 1 (sM b4) bs.length bs.length (bD (tq.set ti true)),.row 3 1 A4 n4 c4 (ints ny),.row 3 1 (sM LY) ((tg bs b).length) Gr (ints (tg bs b))]:=ER.cast (by rw[o7];simp only[Int.toNat_natCast,Nat.mul_one]);refine aj 3<|eZ (aZ LY) ((tg bs b).length) 1 (k:Int)<|dX [1,2,5,7,8,9,66,69]<|bq (aN (aZ LY) (k:Int) 1) _ (fR (aB (oI.get 3 rfl)) rfl Dz) ?_;intro aC fr;refine rG 71 37 1 #[(0,.tmp 70)] 37 fr (e:=3) (size:=1) (zs:=[vI 0]) (vs:=[(0,nV ti)]) (cs:=[nV ti]) oI ?_;intro b50 lF hb50 _ DC _ aC ea fr;clear ea;replace DC:=DC.nf;refine tT 72 (.tmp 66) (.tmp 71) 37 37 fr (e:=3) (size:=1) (bytes:=8) (z:=(vI 0)) (A:=A4) (B:=(sM b50)) (n:=n4) (cap:=c4) (m:=1) (cap':=1) (xs:=(ints ny)) (news:=[nV ti]) DC 2 rfl (aB (DC.get 4 rfl)) rfl (by simp[Value.oneCell']) oM (by simp only[maxLen];omega) ?_;intro A57 N8 Yv BR _ aC ea fr;clear ea;replace BR:=BR.nf;have wx:=BR.od [3,3,3,3] 4;revert aC;refine aj 1<|aE<|dh<|aj 1<|cy ((k:Int)+1)<|aj 1<|aE ?_;intro aC fr;exact⟨(tg bs b).length-(k+1),oM,k+1,fw S2 (ti:Int),tq.set ti true,ny++[(ti:Int)],A57,(n4+1),N8,rfl,fr.kp [1,2,5,6,7,8,9],(wx.cast (by rw[iU];rfl)),oM,wz.put Gq,N7.push tP Dz oM,by rw[List.getElem?_append_left (List.getElem?_eq_some_iff.1 tP).1];exact tP,by have:=fL (n:=bs.length) (S:=S2) (t:=(ti:Int)) oM oM N4;simp only[List.length_append,List.length_cons,List.length_nil];omega,by simp[Yu]⟩;have cin:(tq.getD ti false)=true:=Rz.symm;have N4:S2 (ti:Int)=true:=by rw[←wz.2 ti Gq];exact cin
 refine aj 7<|aE<|fT<|cg<|dh<|aj 1<|cy ((k:Int)+1)<|aj 1<|aE ?_;intro aC fr;exact⟨(tg bs b).length-(k+1),oM,k+1,S2,tq,ny,A4,n4,c4,rfl,fr.kp [1,2,5,6,7,8,9],tX,oM,wz,N7.skip tP Dz (.inl N4),tP,BQ,Yu⟩;have cb:bar=0:=beq_iff_eq.1 Ve.symm;refine fN<|bC<|an<|cQ (vS (sM b4) bs.length bs.length) ?_;have DD:=M6.od [1] 1;exact⟨_,_,rfl,(DD).cast (by rw[←xj (bar:=bar) oM];simp[bD])⟩;have cz:(bs.length:Int)=0:=beq_iff_eq.1 U8.symm;refine aj 3<|aE<|fN<|bC<|an<|cQ (vS (sM b4) bs.length bs.length) ?_;have vY:=M6.od [1] 1;exact⟨_,_,rfl,(vY).cast (by rw[←xj (bar:=bar) oM];simp[bD])⟩
end Go.Proofs.Ytejbeeaomokjpaa
namespace Go.Proofs.Ytejbeeaomokjpaa
open Go.Mor
theorem RB(nm wk pa va:Value)(A:aX)(c:Nat)(bs:List SB)(w:World)(hm:bs.length≤1000000)(hA:RO ba w (.blocks A bs)):Calls Try.prog 43 #[(.agg #[nm,wk,pa,va,vS A bs.length c])] w (fE fun v w'=>∃A' c' rows,v=vS A' bs.length c'∧et Value.bool rows (fS bs)∧Mem ba w w' [.pr 4 rows,.row 46 1 A' bs.length c' (fq rows)]):=by
 refine hZ 54 [(.agg #[nm,wk,pa,va,vS A bs.length c])] Try.func43 ?_;have hM:=Mem.init w;refine aQ<|nJ hM 24 (.agg #[nm,wk,pa,va,vS A bs.length c]) [nm,wk,pa,va,vS A bs.length c] fun b1 w2 kH M3=> ?_
 replace M3:=M3.nf;clear hM;refine aj 1<|aE<|aQ<|gu (aZ b1) [nm,wk,pa,va,vS A bs.length c] (aK (M3.get 0 rfl))<|eY (vs:=#[(.agg #[nm,wk,pa,va,vS A bs.length c]),vI (-1)]) (DA _ _ _ _ A c bs (-1) w2 hm (hA.at_ M3)) ?_;rintro _ w6 ⟨A4,c5,rfl,Z6⟩;have M7:=M3.cl Z6;refine aj 1<|aE<|bC<|bx<|bC<|cK 0 ?_;have Xn:=jN bs;intro aC fr;refine gT (fun n_ a_ w_=>∃(d:Nat) (rows:List fJ) (A2:aX) (c2:Nat),n_=bs.length-d∧Fr a_ 54 [(1,pT b1 0),(3,vS A4 bs.length c5),(4,vS A2 d c2),(5,nV d)]∧Mem ba w w_ [.pr 4 rows,.au b1 24 [nm,wk,pa,va,vS A bs.length c],.row 4 1 A4 bs.length c5 (bD (fM bs (-1))),.row 46 1 A2 d c2 (fq rows)]∧(d≤bs.length)∧(et Value.bool rows ((fS bs).take d))) (n:=_) ⟨0,[],none,0,rfl,fr.kp [1,3,4,5],(((((M7.pick [true,true] rfl).call (Mem.CM _ 4 0)).call (Mem.gK _ 46 1)).front 2 rfl).cast rfl),oM,rfl⟩ ?_;clear fr aC M7;rintro n aC U9 ⟨d,rows,A2,c2,rfl,fr,rP,hd,hf⟩;revert aC;refine bx<|aQ<|aj 2<|bq (ak b1 4) _ (ae (rP.get 1 rfl) rfl)<|aj 1<|gC (decide ((d:Int)<(bs.length:Int))) fun Bd lI=> ?_
 refine aE ?_;cases Bd;have cd:¬((d:Int)<(bs.length:Int)):=of_decide_eq_false lI.symm;refine fT<|gq 0<|gr<|bC<|an<|cQ (vS A2 d c2) ?_;obtain rfl:d=bs.length:=oM;have rO:=rP.od [3,1] 2;exact⟨_,_,rows,rfl,hf.all oM,rO⟩;have cd:(d:Int)<(bs.length:Int):=of_decide_eq_true lI.symm;refine fN<|cg<|bx<|cK 1<|aQ ?_;have pD:d<bs.length:=oM;refine aj 1<|bq (ak b1 4) _ (ae (rP.get 1 rfl) rfl)<|aj 1 ?_;intro aC fr;refine I9 21 46 (.tmp 20) (.tmp 20) 46 fr (e:=4) (bytes:=1) (z:=(vB false)) (n:=bs.length) (i:=(bs.length:Int)) oM (by simp only[maxLen];omega) rP ?_;intro fO Dx Rt _ kI _ aC ea fr;clear ea;replace kI:=kI.nf;revert aC;refine aj 1<|aE<|bx<|aQ ?_;have oJ:Mem ba w Dx [.pr 4 rows,.au b1 24 [nm,wk,pa,va,vS A bs.length c],.row 4 1 A4 bs.length c5 (bD (fM bs (-1))),.row 46 1 A2 d c2 (fq rows),.row 4 1 (sM fO) bs.length bs.length (bD (List.replicate bs.length false))]:=kI.cast (by simp[bD]);refine aj 2 ?_;obtain⟨g24,rfl⟩:=cW (oJ.get 2 rfl) oM;refine eZ (aZ g24) bs.length 1 (d:Int)<|bq (aN (aZ g24) (d:Int) 1) _ (bB (aB (oJ.get 2 rfl)) rfl (jM (by rw[kO];omega))) ?_;obtain⟨Z7,JM⟩:∃B,B=(fM bs (-1)).getD d false:=⟨_,rfl⟩;refine cH [(1,pT b1 0),(3,vS (sM g24) bs.length c5),(4,vS A2 d c2),(5,nV d),(6,vS (sM fO) bs.length bs.length),(25,vB ((fM bs (-1)).getD d false))] ?_;rw[←JM];refine aE ?_;cases Z7;have call:((fM bs (-1)).getD d false)=false:=JM.symm;refine fT<|cg<|dh<|aj 2 ?_;intro aC fr;refine rG 51 49 1 #[(0,.tmp 50)] 49 fr (e:=46) (size:=1) (zs:=[aq]) (vs:=[(0,vS (sM fO) bs.length bs.length)]) (cs:=[vS (sM fO) bs.length bs.length]) oJ ?_;intro vZ Vg Z8 _ pS _ aC ea fr;clear ea;replace pS:=pS.nf;refine tT 52 (.tmp 49) (.tmp 51) 49 49 fr (e:=46) (size:=1) (bytes:=24) (z:=aq) (A:=A2) (B:=(sM vZ)) (n:=d) (cap:=c2) (m:=1) (cap':=1) (xs:=(fq rows)) (news:=[vS (sM fO) bs.length bs.length]) pS 3 rfl (aB (pS.get 5 rfl)) rfl (by simp[Value.oneCell']) oM (by simp only[maxLen];omega) ?_;intro Z9 TB N3 ll _ aC ea fr;clear ea;replace ll:=ll.nf;have tX:=ll.od [4,4,4,4,4] 5;revert aC;refine aj 1<|aE<|dh<|aj 1<|cy ((d:Int)+1)<|aj 1<|aE ?_;have Vc:=tX.od [3,3,3,4,4] 5;have s8:Mem ba w N3 [.pr 4 (rows++[⟨(sM fO),bs.length,bs.length,bD (List.replicate bs.length false)⟩]),.au b1 24 [nm,wk,pa,va,vS A bs.length c],.row 4 1 (sM g24) bs.length c5 (bD (fM bs (-1))),.row 46 1 Z9 (d+1) TB ((fq rows)++[vS (sM fO) bs.length bs.length])]:=Vc.push;have v7:Mem ba w N3 [.pr 4 (rows++[⟨(sM fO),bs.length,bs.length,bD (List.replicate bs.length false)⟩]),.au b1 24 [nm,wk,pa,va,vS A bs.length c],.row 4 1 (sM g24) bs.length c5 (bD (fM bs (-1))),.row 46 1 Z9 (d+1) TB (fq (rows++[⟨(sM fO),bs.length,bs.length,bD (List.replicate bs.length false)⟩]))]:=s8.cast (by rw[uH]);intro aC fr;exact⟨bs.length-(d+1),oM,d+1,(rows++[⟨(sM fO),bs.length,bs.length,bD (List.replicate bs.length false)⟩]),Z9,TB,rfl,fr.kp [1,3,4,5],v7,oM,hf.next (xk pD (FF (by rw[←iY pD];exact call))) sI rfl⟩;have call:((fM bs (-1)).getD d false)=true:=JM.symm;refine fN<|aQ<|gu (aZ b1) [nm,wk,pa,va,vS A bs.length c] (aK (oJ.get 1 rfl))<|aj 1<|eY (vs:=#[(.agg #[nm,wk,pa,va,vS A bs.length c]),nV d]) (DA _ _ _ _ A c bs (d:Int) Dx hm (hA.at_ oJ)) ?_;rintro _ kP ⟨PO,LZ,rfl,RC⟩;have EO:=oJ.cl RC;refine aj 1<|aE<|bC<|cK 2 ?_;have hwd:fy bs (-1) (d:Int)=true:=by rw[←iY pD];exact call
 intro aC fr;refine gT (fun n_ a_ w_=>∃(b:Nat) (m:List Bool),n_=bs.length-b∧Fr a_ 54 [(1,pT b1 0),(3,vS (sM g24) bs.length c5),(4,vS A2 d c2),(5,nV d),(6,vS (sM fO) bs.length bs.length),(7,vS PO bs.length LZ),(8,nV b)]∧Mem ba w w_ [.pr 4 rows,.au b1 24 [nm,wk,pa,va,vS A bs.length c],.row 4 1 (sM g24) bs.length c5 (bD (fM bs (-1))),.row 46 1 A2 d c2 (fq rows),.row 4 1 (sM fO) bs.length bs.length (bD m),.row 4 1 PO bs.length LZ (bD (fM bs (d:Int)))]∧(b≤bs.length)∧(dR bs.length m (lY bs (d:Int) b))) (n:=_) ⟨0,List.replicate bs.length false,rfl,fr.kp [1,3,4,5,6,7,8],EO,oM,C3 bs _⟩ ?_;clear fr aC EO;rintro n aC Yw ⟨b,m,rfl,fr,sD,hb,dY⟩;revert aC;refine bx<|aQ<|aj 3<|gC (decide ((b:Int)<(bs.length:Int))) fun Bb Ve=> ?_
 refine aE ?_;cases Bb;have cb:¬((b:Int)<(bs.length:Int)):=of_decide_eq_false Ve.symm;refine fT<|gq 2<|gr<|dh<|aj 2 ?_;intro aC fr;refine rG 51 49 1 #[(0,.tmp 50)] 49 fr (e:=46) (size:=1) (zs:=[aq]) (vs:=[(0,vS (sM fO) bs.length bs.length)]) (cs:=[vS (sM fO) bs.length bs.length]) sD ?_;intro aH Xo Qaa _ L0 _ aC ea fr;clear ea;replace L0:=L0.nf;refine tT 52 (.tmp 49) (.tmp 51) 49 49 fr (e:=46) (size:=1) (bytes:=24) (z:=aq) (A:=A2) (B:=(sM aH)) (n:=d) (cap:=c2) (m:=1) (cap':=1) (xs:=(fq rows)) (news:=[vS (sM fO) bs.length bs.length]) L0 3 rfl (aB (L0.get 6 rfl)) rfl (by simp[Value.oneCell']) oM (by simp only[maxLen];omega) ?_;intro aL Yx Yy DE _ aC ea fr;clear ea;replace DE:=DE.nf;have tY:=DE.od [5,5,5,5,5,5] 6;revert aC;refine aj 1<|aE<|dh<|aj 1<|cy ((d:Int)+1)<|aj 1<|aE ?_;have DD:=tY.od [3,3,3,4,4] 5;have vY:Mem ba w Yy [.pr 4 (rows++[⟨(sM fO),bs.length,bs.length,bD m⟩]),.au b1 24 [nm,wk,pa,va,vS A bs.length c],.row 4 1 (sM g24) bs.length c5 (bD (fM bs (-1))),.row 46 1 aL (d+1) Yx ((fq rows)++[vS (sM fO) bs.length bs.length])]:=DD.push;have Ct:Mem ba w Yy [.pr 4 (rows++[⟨(sM fO),bs.length,bs.length,bD m⟩]),.au b1 24 [nm,wk,pa,va,vS A bs.length c],.row 4 1 (sM g24) bs.length c5 (bD (fM bs (-1))),.row 46 1 aL (d+1) Yx (fq (rows++[⟨(sM fO),bs.length,bs.length,bD m⟩]))]:=vY.cast (by rw[uH]);intro aC fr;exact⟨bs.length-(d+1),oM,d+1,(rows++[⟨(sM fO),bs.length,bs.length,bD m⟩]),aL,Yx,rfl,fr.kp [1,3,4,5],Ct,oM,hf.next (xk pD (FG dY oM)) (by simp[dY.1]) rfl⟩;have cb:(b:Int)<(bs.length:Int):=of_decide_eq_true Ve.symm;refine fN<|cg<|bx<|cK 3<|dh ?_;have Gs:b<bs.length:=oM;refine aj 4<|eZ (aZ g24) bs.length 1 (b:Int)<|bq (aN (aZ g24) (b:Int) 1) _ (bB (aB (sD.get 2 rfl)) rfl (jM (by rw[kO];omega))) ?_;obtain⟨UY,zj⟩:∃B,B=(fM bs (-1)).getD b false:=⟨_,rfl⟩;refine cH [(1,pT b1 0),(3,vS (sM g24) bs.length c5),(4,vS A2 d c2),(5,nV d),(6,vS (sM fO) bs.length bs.length),(7,vS PO bs.length LZ),(8,nV b),(35,vS (sM fO) bs.length bs.length),(36,nV b),(40,vB ((fM bs (-1)).getD b false))] ?_;rw[←zj];refine aj 1 ?_;cases UY;have Rp:((fM bs (-1)).getD b false)=false:=zj.symm;have Yz:fy bs (-1) (b:Int)=false:=by rw[←iY Gs];exact Rp
 refine aj 6<|eZ (aZ fO) bs.length 1 (b:Int)<|zJ sD 4 (aN (aZ fO) (b:Int) 1) (((b:Int)).toNat*1) (vB false) rfl rfl oM fun w73 L1=> ?_
 replace L1:=L1.nf;refine aE<|dh<|aj 1<|cy ((b:Int)+1)<|aj 1<|aE ?_;intro aC fr;exact⟨bs.length-(b+1),oM,b+1,m.set b false,rfl,fr.kp [1,3,4,5,6,7,8],(L1.cast (by rw[o7];simp only[Int.toNat_natCast,Nat.mul_one])),oM,xl dY Gs (Iy Yz)⟩;have Rp:((fM bs (-1)).getD b false)=true:=zj.symm;have Yz:fy bs (-1) (b:Int)=true:=by rw[←iY Gs];exact Rp
 refine aj 2 ?_;obtain⟨lT,rfl⟩:=cW (sD.get 5 rfl) oM;refine eZ (aZ lT) bs.length 1 (b:Int)<|bq (aN (aZ lT) (b:Int) 1) _ (bB (aB (sD.get 5 rfl)) rfl (jM (by rw[kO];omega)))<|aj 2<|eZ (aZ fO) bs.length 1 (b:Int)<|zJ sD 4 (aN (aZ fO) (b:Int) 1) (((b:Int)).toNat*1) (vB (!(fM bs (d:Int)).getD b false)) rfl rfl oM fun w79 RD=> ?_
 replace RD:=RD.nf;refine aE<|dh<|aj 1<|cy ((b:Int)+1)<|aj 1<|aE ?_;intro aC fr;exact⟨bs.length-(b+1),oM,b+1,m.set b (!((fM bs (d:Int)).getD b false)),rfl,fr.kp [1,3,4,5,6,7,8],(RD.cast (by rw[o7];simp only[Int.toNat_natCast,Nat.mul_one])),oM,xl dY Gs ((sZ _ (iY Gs)).trans (Ix hwd Yz))⟩
end Go.Proofs.Ytejbeeaomokjpaa
namespace Go.Proofs.Ytejbeeaomokjpaa
open Go.Mor
theorem JN(nm wk pa va:Value)(A:aX)(c:Nat)(bs:List SB)(w:World)(hm:bs.length≤1000000)(hA:RO ba w (.blocks A bs)):Calls Try.prog 78 #[(.agg #[nm,wk,pa,va,vS A bs.length c])] w (fE fun v w'=>∃A' c' rows,v=vS A' bs.length c'∧et vI rows (uY bs)∧Mem ba w w' [.pr 3 rows,.row 37 1 A' bs.length c' (fq rows)]):=by
 refine hZ 38 [(.agg #[nm,wk,pa,va,vS A bs.length c])] Try.func78 ?_;have hM:=Mem.init w;refine aQ<|nJ hM 24 (.agg #[nm,wk,pa,va,vS A bs.length c]) [nm,wk,pa,va,vS A bs.length c] fun b1 w2 kH M3=> ?_
 replace M3:=M3.nf;clear hM;refine aj 1<|aE<|aQ<|aj 1<|bq (ak b1 4) _ (ae (M3.get 0 rfl) rfl)<|aj 1 ?_;intro aC fr;refine I9 10 57 (.tmp 9) (.tmp 9) 57 fr (e:=37) (bytes:=24) (z:=aq) (n:=bs.length) (i:=(bs.length:Int)) oM (by simp only[maxLen];omega) M3 ?_;intro b4 w5 LW _ M6 _ aC ea fr;clear ea;replace M6:=M6.nf;revert aC;refine aj 1<|aE<|bx<|aQ<|aj 1<|bq (ak b1 4) _ (ae (M6.get 0 rfl) rfl)<|aj 2<|aE<|cK 0 ?_;have rP:=M6.od [1,1] 2;have Vh:=IB bs;intro aC fr;refine gT (fun n_ a_ w_=>∃(i:Nat) (rows:List fJ),n_=bs.length-i∧Fr a_ 38 [(1,pT b1 0),(3,vS (sM b4) bs.length bs.length),(13,(vI (bs.length:Int))),(14,nV i)]∧Mem ba w w_ [.pr 3 rows,.au b1 24 [nm,wk,pa,va,vS A bs.length c],.row 37 1 (sM b4) bs.length bs.length (fq rows)]∧(i≤bs.length)∧(et vI rows (sS bs i))) (n:=_) ⟨0,List.replicate bs.length jx,rfl,fr.kp [1,3,13,14],(((rP.call (Mem.CM _ 3 bs.length)).front 2 rfl).cast (by simp[fq,jx])),oM,by rw[FI];exact et.Us _⟩ ?_;clear fr aC rP;rintro n aC Ys ⟨i,rows,rfl,fr,Lh,hi,hf⟩;revert aC;refine aQ<|gC (decide ((i:Int)<(bs.length:Int))) fun Bi Vi=> ?_
 refine aE<|bx ?_;cases Bi;have ci:¬((i:Int)<(bs.length:Int)):=of_decide_eq_false Vi.symm;refine fT<|gq 0<|gr<|bC<|an<|cQ (vS (sM b4) bs.length bs.length) ?_;obtain rfl:i=bs.length:=oM;rw[MX]at hf;have nz:=Lh.od [2,1] 2;exact⟨_,_,rows,rfl,hf,nz⟩;have ci:(i:Int)<(bs.length:Int):=of_decide_eq_true Vi.symm;refine fN<|cg<|bx<|cK 1<|bC<|aQ<|gu (aZ b1) [nm,wk,pa,va,vS A bs.length c] (aK (Lh.get 1 rfl))<|aj 1<|eY (vs:=#[(.agg #[nm,wk,pa,va,vS A bs.length c]),nV i]) (xU _ _ _ _ A c bs (i:Int) Ys hm (hA.at_ Lh)) ?_;rintro _ Vj ⟨lU,zO,rfl,Qab⟩;have oJ:=Lh.cl Qab;refine aj 2<|aE<|cK 2 ?_;have x9:=oe bs (i:Int);intro aC fr;refine gT (fun n_ a_ w_=>∃(k:Nat) (mC:List fJ),n_=(tg bs (i:Int)).length-k∧Fr a_ 38 [(1,pT b1 0),(3,vS (sM b4) bs.length bs.length),(4,nV i),(13,(vI (bs.length:Int))),(14,nV i),(19,(vS lU ((tg bs (i:Int)).length) zO)),(20,(vI ((tg bs (i:Int)).length:Int))),(21,nV k)]∧Mem ba w w_ [.pr 3 mC,.au b1 24 [nm,wk,pa,va,vS A bs.length c],.row 37 1 (sM b4) bs.length bs.length (fq mC),.row 3 1 lU ((tg bs (i:Int)).length) zO (ints (tg bs (i:Int)))]∧(k≤(tg bs (i:Int)).length)∧(et vI mC (km bs i k))) (n:=_) ⟨0,rows,rfl,fr.kp [1,3,4,13,14,19,20,21],oJ,oM,by rw[MW];exact hf⟩ ?_;clear fr aC oJ;rintro n aC TC ⟨k,mC,rfl,fr,fk,hk,aM⟩;revert aC;refine aQ<|gC (decide ((k:Int)<((tg bs (i:Int)).length:Int))) fun Bk JL=> ?_
 refine aE<|bx ?_;cases Bk;have ck:¬((k:Int)<((tg bs (i:Int)).length:Int)):=of_decide_eq_false JL.symm;refine fT<|gq 2<|gr<|dh<|cy ((i:Int)+1)<|aj 1<|aE ?_;intro aC fr;exact⟨bs.length-(i+1),oM,i+1,mC,rfl,fr.kp [1,3,13,14],(fk.pick [true,true,true,false] rfl),oM,by rw[←IA (k:=k) oM];exact aM⟩;have ck:(k:Int)<((tg bs (i:Int)).length:Int):=of_decide_eq_true JL.symm;refine fN<|cg<|bx<|cK 3<|aQ ?_;obtain⟨ti,Dz,Gq⟩:=Ir (bs:=bs) (b:=(i:Int)) (k:=k) oM;obtain⟨At,ct,TD⟩:=aM.get (MY Dz Gq);have Tx:=fZ bs (ti:Int) i;obtain⟨Vk,rfl⟩:=cW (fk.get 3 rfl) oM;refine eZ (aZ Vk) ((tg bs (i:Int)).length) 1 (k:Int)<|bq (aN (aZ Vk) (k:Int) 1) _ (fR (aB (fk.get 3 rfl)) rfl Dz)<|aj 1<|aE<|dh<|aj 4<|eZ (aZ b4) bs.length 1 (ti:Int)<|bq (aN (aZ b4) (ti:Int) 1) _ (bB (aB (fk.get 2 rfl)) rfl (ia TD)) ?_;have v8:Mem ba w TC [.pr 3 (mC.set ti jx),.row 3 1 At ((dW bs (ti:Int) i).length) ct (ints (dW bs (ti:Int) i)),.au b1 24 [nm,wk,pa,va,vS A bs.length c],.row 37 1 (sM b4) bs.length bs.length (fq mC),.row 3 1 (sM Vk) ((tg bs (i:Int)).length) zO (ints (tg bs (i:Int)))]:=fk.focus ti TD;refine aj 1 ?_;intro aC fr;refine rG 32 37 1 #[(0,.tmp 31)] 37 fr (e:=3) (size:=1) (zs:=[vI 0]) (vs:=[(0,nV i)]) (cs:=[nV i]) v8 ?_;intro UL YA Qev _ pU _ aC ea fr;clear ea;replace pU:=pU.nf;refine tT 33 (.tmp 30) (.tmp 32) 37 37 fr (e:=3) (size:=1) (bytes:=8) (z:=(vI 0)) (A:=At) (B:=(sM UL)) (n:=((dW bs (ti:Int) i).length)) (cap:=ct) (m:=1) (cap':=1) (xs:=(ints (dW bs (ti:Int) i))) (news:=[nV i]) pU 1 rfl (aB (pU.get 5 rfl)) rfl (by simp[Value.oneCell']) oM (by simp only[maxLen];omega) ?_;intro TE JO kF JK _ aC ea fr;clear ea;replace JK:=JK.nf;have EO:=JK.od [4,4,4,4,4] 5;revert aC;refine eZ (aZ b4) bs.length 1 (ti:Int)<|zJ EO 3 (aN (aZ b4) (ti:Int) 1) (((ti:Int)).toNat*1) (vS TE (((dW bs (ti:Int) i).length)+1) JO) rfl rfl oM fun TF oI=> ?_
 replace oI:=oI.nf;refine aE<|dh ?_;have ES:=oI.od [4,4,4,4,4] 5;have BS:ti<mC.length:=(List.getElem?_eq_some_iff.1 TD).1;have sD:Mem ba w TF [.pr 3 ((mC.set ti jx).set ti ⟨TE,((dW bs (ti:Int) i).length)+1,JO,(ints (dW bs (ti:Int) i))++[nV i]⟩),.au b1 24 [nm,wk,pa,va,vS A bs.length c],.row 37 1 (sM b4) bs.length bs.length ((fq mC).set (((ti:Int)).toNat*1) (vS TE (((dW bs (ti:Int) i).length)+1) JO)),.row 3 1 (sM Vk) ((tg bs (i:Int)).length) zO (ints (tg bs (i:Int)))]:=ES.Eg ti (List.getElem?_set_self BS);have DC:Mem ba w TF [.pr 3 (mC.set ti ⟨TE,((dW bs (ti:Int) i).length)+1,JO,(ints (dW bs (ti:Int) i))++[nV i]⟩),.au b1 24 [nm,wk,pa,va,vS A bs.length c],.row 37 1 (sM b4) bs.length bs.length (fq (mC.set ti ⟨TE,((dW bs (ti:Int) i).length)+1,JO,(ints (dW bs (ti:Int) i))++[nV i]⟩)),.row 3 1 (sM Vk) ((tg bs (i:Int)).length) zO (ints (tg bs (i:Int)))]:=sD.cast (by rw[xm,Ef];simp only[Int.toNat_natCast,Nat.mul_one]);refine cy ((k:Int)+1)<|aj 1<|aE ?_;intro aC fr;exact⟨(tg bs (i:Int)).length-(k+1),oM,k+1,(mC.set ti ⟨TE,((dW bs (ti:Int) i).length)+1,JO,(ints (dW bs (ti:Int) i))++[nV i]⟩),rfl,fr.kp [1,3,4,13,14,19,20,21],DC,oM,by rw[←MZ Dz Gq];exact aM.set sI (by rw[List.map_append];rfl)⟩
end Go.Proofs.Ytejbeeaomokjpaa
namespace Go.Proofs.Ytejbeeaomokjpaa
open Go.Mor
theorem JP(g5 g6:Nat)(zP JQ:Addr)(n ca cb:Nat)(LN ab:ar)(T:Int→ar)(pl up:Int→Int)(xa xb:Int)(w:World)(jH:n≤1000000)(h5:RO ba w (.au g5 37 [.slice (some zP) n ca]))(h6:RO ba w (.au g6 37 [.slice (some JQ) n cb]))(hA:RO ba w (.rd (some zP) (ints LN)))(hB:RO ba w (.rd (some JQ) (ints ab)))(k9:Nb T pl up n LN ab)(hxa:jz pl up xa)(Ux:jz pl up xb):Calls Try.prog 131 #[vI xa,vI xb,pT g5 0,pT g6 0] w (fE fun v w'=>∃c:Int,v=vI c∧dw pl up xa xb c∧Mem ba w w' []):=by
 refine hZ 37 [vI xa,vI xb,pT g5 0,pT g6 0] Try.func131 ?_;have hM:=Mem.init w;refine bC<|bx<|cK 0 ?_;intro aC fr;refine gT (fun n_ a_ w_=>∃(a1:Int) (b1:Int),n_=(pl a1+pl b1).toNat∧Fr a_ 37 [(0,vI a1),(1,vI b1),(2,pT g5 0),(3,pT g6 0)]∧Mem ba w w_ []∧(jz pl up a1)∧(jz pl up b1)∧(∀c,dw pl up a1 b1 c→dw pl up xa xb c)) (n:=_) ⟨xa,xb,rfl,fr.kp [0,1,2,3],hM,hxa,Ux,fun _ h=>h⟩ ?_;clear fr aC hM;rintro n aC w3 ⟨a1,b1,rfl,fr,M4,L2,kH,QT⟩;revert aC;refine bx<|aQ<|aj 2<|gC (a1 !=b1) fun Bne Vl=> ?_
 refine aE ?_;cases Bne;have lV:¬(a1≠b1):=Q9 Vl;refine fT<|gq 0<|gr<|bC<|an<|cQ (vI a1) ?_;obtain rfl:a1=b1:=oM;exact⟨_,rfl,QT _ (.done _),M4⟩;have lV:a1≠b1:=bne_iff_ne.1 Vl.symm;refine fN<|cg<|cK 1<|bx<|cK 2 ?_;intro aC fr;refine gT (fun n_ a_ w_=>∃(a2:Int),n_=(pl a2).toNat∧Fr a_ 37 [(0,vI a2),(1,vI b1),(2,pT g5 0),(3,pT g6 0)]∧Mem ba w w_ []∧(jz pl up a2)∧(∀c,dw pl up a2 b1 c→dw pl up a1 b1 c)∧(a2=a1∨pl a2<pl a1)) (n:=_) ⟨a1,rfl,fr.kp [0,1,2,3],M4,L2,fun _ h=>h,.inl rfl⟩ ?_;clear fr aC M4;rintro n aC w9 ⟨a2,rfl,fr,mc,yX,lW,Vm⟩;revert aC;refine bx<|bx ?_;obtain⟨aP,RE⟩:∃B:Bool,B=decide ((pl a2)>(pl b1)):=⟨_,rfl⟩;refine dX [0,1,2,3] ?_;intro aC fr;refine qy (bL [eS (some zP) n ca,eI a2,eA zP (a2) 1,eI (pl a2),eS (some zP) n ca,eI b1,eA zP (b1) 1,eI (pl b1),eB aP]) fr (la (tZ lz (dL (aZ g5) _ fun w_ hK=>(ae ((mc.aD hK).ro h5) rfl)) dP (dI (h0:=(k9.yW a2 yX.1).1) (h1:=(k9.yW a2 yX.1).2) zP n 1 a2) (dL (aN zP (a2) 1) _ fun w_ hK=>(bB ((mc.aD hK).ro hA) rfl (k9.Ya yX))) (dL (aZ g5) _ fun w_ hK=>(ae ((mc.aD hK).ro h5) rfl)) dP (dI (h0:=(k9.yW b1 kH.1).1) (h1:=(k9.yW b1 kH.1).2) zP n 1 b1) (dL (aN zP (b1) 1) _ fun w_ hK=>(bB ((mc.aD hK).ro hA) rfl (k9.Ya kH)))) (dC (decide ((pl a2)>(pl b1))) RE)) ?_;intro aC Vn vs hK hv fr;revert aC;refine cH [(0,vI a2),(1,vI b1),(2,pT g5 0),(3,pT g6 0),(18,vB aP)] ?_;have nz:=mc.aD hK;clear hK hv fr aC mc;clear vs;cases aP;have YB:¬((pl a2)>(pl b1)):=of_decide_eq_false RE.symm;refine fT<|gq 2<|gr<|cK 4 ?_;intro aC fr;refine gT (fun n_ a_ w_=>∃(b2:Int),n_=(pl b2).toNat∧Fr a_ 37 [(0,vI a2),(1,vI b2),(2,pT g5 0),(3,pT g6 0)]∧Mem ba w w_ []∧(jz pl up b2)∧(∀c,dw pl up a2 b2 c→dw pl up a2 b1 c)∧(b2=b1∨pl b2<pl b1)) (n:=_) ⟨b1,rfl,fr.kp [0,1,2,3],nz,kH,fun _ h=>h,.inl rfl⟩ ?_;clear fr aC nz;rintro n aC Vj ⟨b2,rfl,fr,oJ,tP,mJ,Vo⟩;revert aC;refine bx<|bx ?_;obtain⟨aV,RF⟩:∃B:Bool,B=decide ((pl b2)>(pl a2)):=⟨_,rfl⟩;refine dX [0,1,2,3] ?_;intro aC fr;refine qy (bL [eS (some zP) n ca,eI b2,eA zP (b2) 1,eI (pl b2),eS (some zP) n ca,eI a2,eA zP (a2) 1,eI (pl a2),eB aV]) fr (la (tZ lz (dL (aZ g5) _ fun w_ hK=>(ae ((oJ.aD hK).ro h5) rfl)) dP (dI (h0:=(k9.yW b2 tP.1).1) (h1:=(k9.yW b2 tP.1).2) zP n 1 b2) (dL (aN zP (b2) 1) _ fun w_ hK=>(bB ((oJ.aD hK).ro hA) rfl (k9.Ya tP))) (dL (aZ g5) _ fun w_ hK=>(ae ((oJ.aD hK).ro h5) rfl)) dP (dI (h0:=(k9.yW a2 yX.1).1) (h1:=(k9.yW a2 yX.1).2) zP n 1 a2) (dL (aN zP (a2) 1) _ fun w_ hK=>(bB ((oJ.aD hK).ro hA) rfl (k9.Ya yX)))) (dC (decide ((pl b2)>(pl a2))) RF)) ?_;intro aC UM vs hK hv fr;revert aC;refine cH [(0,vI a2),(1,vI b2),(2,pT g5 0),(3,pT g6 0),(31,vB aV)] ?_;have zN:=oJ.aD hK;clear hK hv fr aC oJ;clear vs;cases aV;have YC:¬((pl b2)>(pl a2)):=of_decide_eq_false RF.symm;refine fT<|gq 4<|gr ?_;intro aC fr;exact⟨(pl a2+pl b2).toNat,IL k9 L2 yX tP lV Vm Vo YB YC,a2,b2,rfl,fr.kp [0,1,2,3],zN,yX,tP,fun c h=>QT c (lW c (mJ c h))⟩;have YC:(pl b2)>(pl a2):=of_decide_eq_true RF.symm;refine fN<|cg<|cK 5<|dh<|bq (aZ g6) _ (ae (zN.ro h6) rfl)<|aj 1<|eZ (h0:=(k9.yW b2 tP.1).1) (h1:=(k9.yW b2 tP.1).2) JQ n 1 b2<|bq (aN JQ (b2) 1) _ (bB (zN.ro hB) rfl (k9.fX tP))<|aj 1<|aE ?_;have cU:=k9.fY yX YC;obtain⟨nR,xo⟩:=k9.ok.low b2 tP cU;have Va:=nR.1;intro aC fr;exact⟨(pl (up b2)).toNat,oM,up b2,rfl,fr.kp [0,1,2,3],zN,nR,fun c h=>mJ c (.right YC h),.inr (by rcases Vo with Vo|Vo<;>(try subst Vo)<;>omega)⟩;have YB:(pl a2)>(pl b1):=of_decide_eq_true RE.symm;refine fN<|cg<|cK 3<|dh<|bq (aZ g6) _ (ae (nz.ro h6) rfl)<|aj 1<|eZ (h0:=(k9.yW a2 yX.1).1) (h1:=(k9.yW a2 yX.1).2) JQ n 1 a2<|bq (aN JQ (a2) 1) _ (bB (nz.ro hB) rfl (k9.fX yX))<|aj 1<|aE ?_;have cU:=k9.fY kH YB;obtain⟨nR,xo⟩:=k9.ok.low a2 yX cU;have Va:=nR.1;intro aC fr;exact⟨(pl (up a2)).toNat,oM,up a2,rfl,fr.kp [0,1,2,3],nz,nR,fun c h=>lW c (.left YB h),.inr (by rcases Vm with Vm|Vm<;>(try subst Vm)<;>omega)⟩
end Go.Proofs.Ytejbeeaomokjpaa
namespace Go.Proofs.Ytejbeeaomokjpaa
open Go.Mor
theorem RG(nm wk pa va:Value)(A:aX)(c:Nat)(bs:List SB)(w:World)(hm:bs.length≤1000000)(hA:RO ba w (.blocks A bs)):Calls Try.prog 118 #[(.agg #[nm,wk,pa,va,vS A bs.length c])] w (fE fun v w'=>∃A1 c1 A2 c2,v= .tuple #[.slice A1 bs.length c1,.slice A2 bs.length c2]∧PB bs∧Mem ba w w' [.row 3 1 A1 bs.length c1 (ints (eK bs)),.row 3 1 A2 bs.length c2 (ints (Tw bs))]):=by
 refine hZ 112 [(.agg #[nm,wk,pa,va,vS A bs.length c])] Try.func118 ?_;have hM:=Mem.init w;refine aQ<|nJ hM 24 (.agg #[nm,wk,pa,va,vS A bs.length c]) [nm,wk,pa,va,vS A bs.length c] fun b1 w2 kH M3=> ?_
 replace M3:=M3.nf;clear hM;refine aj 2<|aE<|aQ<|gu (aZ b1) [nm,wk,pa,va,vS A bs.length c] (aK (M3.get 0 rfl))<|eY (vs:=#[(.agg #[nm,wk,pa,va,vS A bs.length c])]) (zk _ _ _ _ A c bs w2 hm (hA.at_ M3)) ?_;rintro _ w6 ⟨A4,c5,rfl,Z6⟩;have M7:=M3.cl Z6;refine aj 1<|aE<|aQ<|aj 1<|bq (ak b1 4) _ (ae (M7.get 0 rfl) rfl)<|aj 1 ?_;intro aC fr;refine I9 23 37 (.tmp 22) (.tmp 22) 37 fr (e:=3) (bytes:=8) (z:=(vI 0)) (n:=bs.length) (i:=(bs.length:Int)) oM (by simp only[maxLen];omega) M7 ?_;intro b8 w9 hb8 _ mc _ aC ea fr;clear ea;replace mc:=mc.nf;revert aC;refine mZ mc 37 [aq] fun fO Dx Rt kI=> ?_
 replace kI:=kI.nf;refine wq kI 3 0 (vS (sM b8) bs.length bs.length) rfl fun NS lu=> ?_
 replace lu:=lu.nf;refine aE<|aQ<|aj 1<|bq (ak b1 4) _ (ae (lu.get 0 rfl) rfl)<|aj 1 ?_;intro aC fr;refine I9 27 37 (.tmp 26) (.tmp 26) 37 fr (e:=3) (bytes:=8) (z:=(vI 0)) (n:=bs.length) (i:=(bs.length:Int)) oM (by simp only[maxLen];omega) lu ?_;intro gG Vj Qac _ oJ _ aC ea fr;clear ea;replace oJ:=oJ.nf;revert aC;refine mZ oJ 37 [aq] fun ua NX Qew kr=> ?_
 replace kr:=kr.nf;refine dX [1,4,5,6,27]<|wq kr 5 0 (vS (sM gG) bs.length bs.length) rfl fun bd xW=> ?_
 replace xW:=xW.nf;refine aE<|bx<|aQ<|bq (aZ fO) _ (ae (xW.get 3 rfl) rfl)<|aj 2<|aE<|cK 0 ?_;intro aC fr;refine gT (fun n_ a_ w_=>∃(i:Nat) (m1:ar) (m2:ar),n_=bs.length-i∧Fr a_ 112 [(1,pT b1 0),(4,vS A4 ((aF bs).length) c5),(5,pT fO 0),(6,pT ua 0),(29,(vI (bs.length:Int))),(30,nV i)]∧Mem ba w w_ [.au b1 24 [nm,wk,pa,va,vS A bs.length c],.row 3 1 A4 ((aF bs).length) c5 (ints (aF bs)),.row 3 1 (sM b8) bs.length bs.length (ints m1),.au fO 37 [vS (sM b8) bs.length bs.length],.row 3 1 (sM gG) bs.length bs.length (ints m2),.au ua 37 [vS (sM gG) bs.length bs.length]]∧(i≤bs.length)∧(bQ bs.length m1 (pM i))∧(bQ bs.length m2 (pM i))) (n:=_) ⟨0,List.replicate bs.length 0,List.replicate bs.length 0,rfl,fr.kp [1,4,5,6,29,30],(xW.cast (by simp[ints])),oM,uZ _,uZ _⟩ ?_;clear fr aC xW;rintro n aC N3 ⟨i,m1,m2,rfl,fr,ll,hi,h1,h2⟩;revert aC;refine aQ<|gC (decide ((i:Int)<(bs.length:Int))) fun Bi Vi=> ?_
 refine aE<|bx ?_;cases Bi;have ci:¬((i:Int)<(bs.length:Int)):=of_decide_eq_false Vi.symm;refine fT<|gq 0<|gr<|bx<|bC<|cK 2 ?_;have Vb:=iP bs;intro aC fr;refine gT (fun n_ a_ w_=>∃(k:Nat) (m3:ar),n_=(aF bs).length-k∧Fr a_ 112 [(1,pT b1 0),(4,vS A4 ((aF bs).length) c5),(5,pT fO 0),(6,pT ua 0),(40,vS A4 ((aF bs).length) c5),(41,(vI ((aF bs).length:Int))),(42,nV k)]∧Mem ba w w_ [.au b1 24 [nm,wk,pa,va,vS A bs.length c],.row 3 1 A4 ((aF bs).length) c5 (ints (aF bs)),.row 3 1 (sM b8) bs.length bs.length (ints m3),.au fO 37 [vS (sM b8) bs.length bs.length],.row 3 1 (sM gG) bs.length bs.length (ints m2),.au ua 37 [vS (sM gG) bs.length bs.length]]∧(k≤(aF bs).length)∧(bQ bs.length m3 (NF ((aF bs).take k)))) (n:=_) ⟨0,m1,rfl,fr.kp [1,4,5,6,40,41,42],ll,oM,yZ bs (AL h1 oM)⟩ ?_;clear fr aC ll;rintro n aC mM ⟨k,m3,rfl,fr,v7,hk,h3⟩;revert aC;refine aQ<|gC (decide ((k:Int)<((aF bs).length:Int))) fun Bk JL=> ?_
 refine aE<|bx ?_;cases Bk;have ck:¬((k:Int)<((aF bs).length:Int)):=of_decide_eq_false JL.symm;refine fT<|gq 2<|gr<|aQ ?_;have LM:=C8 h3 oM;have Qad:=AL h2 oM;refine gu (aZ b1) [nm,wk,pa,va,vS A bs.length c] (aK (v7.get 0 rfl))<|eY (vs:=#[(.agg #[nm,wk,pa,va,vS A bs.length c])]) (JN _ _ _ _ A c bs mM hm (hA.at_ v7)) ?_;rintro _ Vf ⟨PO,LZ,sE,rfl,JR,Qae⟩;have ER:=v7.cl Qae;refine aj 1<|aE<|bC<|bx<|bC<|cK 4 ?_;intro aC fr;refine gT (fun n_ a_ w_=>∃(k:Nat) (ab:ar) (up:Int→Int) (Bt:Bool),n_=bs.length+3-k∧Fr a_ 112 [(4,vS A4 ((aF bs).length) c5),(5,pT fO 0),(6,pT ua 0),(10,vS PO bs.length LZ),(11,(.func (.func 131) #[] #[pT fO 0,pT ua 0])),(12,vB Bt)]∧Mem ba w w_ [.au b1 24 [nm,wk,pa,va,vS A bs.length c],.row 3 1 A4 ((aF bs).length) c5 (ints (aF bs)),.row 3 1 (sM b8) bs.length bs.length (ints m3),.au fO 37 [vS (sM b8) bs.length bs.length],.row 3 1 (sM gG) bs.length bs.length (ints ab),.au ua 37 [vS (sM gG) bs.length bs.length],.pr 3 sE,.row 37 1 PO bs.length LZ (fq sE)]∧(bQ bs.length ab up)∧(0<bs.length→yU (tg bs) (iq bs) up k 0)∧(Bt=false→1≤k∧∃j,FK (tg bs) (iq bs) up j∧∀x,iq bs x≤j)∧(Bt=true→k≤bs.length+2)) (n:=_) ⟨0,m2,fun _=> -1,true,rfl,fr.kp [4,5,6,10,11,12],ER,Qad,fun h=>yU.start (ir h),fun h=>Bool.noConfusion h,fun _=>oM⟩ ?_;clear fr aC ER;rintro n aC lF ⟨k,ab,up,Bt,rfl,fr,DC,RH,PQ,Qaf,Qag⟩;revert aC;refine bx<|bC ?_;cases Bt;refine fT<|gq 4<|gr<|bx ?_;obtain⟨mN,jj,mT,N9⟩:=Qaf rfl;have QbG:=Q3 PQ mN mT N9 RH;obtain rfl:=IQ PQ mN mT N9 RH;obtain rfl:=LM.ext (IJ bs);refine dX [4,5,6,10,11,55] ?_;intro aC fr;refine qy (bL [eS (sM gG) bs.length bs.length,eS (sM b8) bs.length bs.length,eS (sM gG) bs.length bs.length,eS (sM b8) bs.length bs.length]) fr (la (pw lz (dL (aZ ua) _ fun w_ hK=>(ae ((DC.aD hK).get 5 rfl) rfl)) (dL (aZ fO) _ fun w_ hK=>(ae ((DC.aD hK).get 3 rfl) rfl)) dP) dP) ?_;intro aC Yv vs hK hv fr;revert aC;refine cH [(2,vS (sM gG) bs.length bs.length),(3,vS (sM b8) bs.length bs.length)] ?_;have BR:=DC.aD hK;clear hK hv fr aC DC;clear vs;refine an<|su (vS (sM gG) bs.length bs.length) (vS (sM b8) bs.length bs.length) ?_;have TG:=BR.od [2,4] 2;exact⟨_,_,_,_,rfl,QbG,TG⟩;refine fN<|cg<|cK 5<|bC<|aQ<|aj 3 ?_;intro aC fr;obtain⟨m0,Zf⟩:∃m0:Nat,m0=min 1 (aF bs).length:=⟨_,rfl⟩;refine Ai (kR:ao _ 3=some (some 59,(.call {callee:=(.builtin .min),args:=#[.const (vI 1),.tmp 58],argTypes:=#[3,3]}),3,none)) fr kR kR (k':=4) rfl (kd:= .i64) (i:=1) (j:=((aF bs).length:Int)) kR kR (m0:Int) (by split<;>omega) ?_;intro aC ea fr;clear ea;refine ky (kR:ao _ 4=some (some 60,.slice 37 (.tmp 56) (some (.tmp 59)) none none,37,none)) fr kR kR (k':=5) rfl (A:=A4) (n:=(aF bs).length) (cap:=c5) (e:=3) (size:=1) (kd:= .i64) (i:=(m0:Int)) m0 kR kR rfl kR kR oM ?_;intro aC ea fr;clear ea;obtain⟨YD,Vp⟩:∃YD,YD=(if c5=m0 then A4 else A4.map (fun y=>y.add (m0*1))):=⟨_,rfl⟩;revert aC;refine dX [4,5,6,10,11,12,60] ?_;intro aC fr;rw[←Vp]at fr;revert aC;refine aj 2<|aE<|cK 6 ?_;intro aC fr;refine gT (fun n_ a_ w_=>∃(j:Nat) (L3:ar) (vw:Int→Int) (RI:Bool),n_=(aF bs).length-m0-j∧Fr a_ 112 [(4,vS A4 ((aF bs).length) c5),(5,pT fO 0),(6,pT ua 0),(10,vS PO bs.length LZ),(11,(.func (.func 131) #[] #[pT fO 0,pT ua 0])),(12,vB RI),(60,vS YD ((aF bs).length-m0) (c5-m0)),(61,(vI ((((aF bs).length-m0):Nat):Int))),(62,nV j)]∧Mem ba w w_ [.au b1 24 [nm,wk,pa,va,vS A bs.length c],.row 3 1 A4 ((aF bs).length) c5 (ints (aF bs)),.row 3 1 (sM b8) bs.length bs.length (ints m3),.au fO 37 [vS (sM b8) bs.length bs.length],.row 3 1 (sM gG) bs.length bs.length (ints L3),.au ua 37 [vS (sM gG) bs.length bs.length],.pr 3 sE,.row 37 1 PO bs.length LZ (fq sE)]∧(j≤(aF bs).length-m0)∧(bQ bs.length L3 vw)∧(0<bs.length→yU (tg bs) (iq bs) vw k (j:Int))∧(RI=false→FK (tg bs) (iq bs) vw (j:Int))∧(bs.length+2≤k→RI=false)) (n:=_) ⟨0,ab,up,false,rfl,fr.kp [4,5,6,10,11,12,60,61,62],DC,oM,RH,PQ,fun _=>FK.start,fun _=>rfl⟩ ?_;clear fr aC DC;rintro n aC Z2 ⟨j,L3,vw,RI,rfl,fr,Cw,hj,xX,vi,qZ,YE⟩;revert aC;refine aQ<|gC (decide ((j:Int)<((((aF bs).length-m0):Nat):Int))) fun Bj mU=> ?_
 refine aE<|bx ?_;cases Bj;have cj:¬((j:Int)<((((aF bs).length-m0):Nat):Int)):=of_decide_eq_false mU.symm;refine fT<|gq 6<|gr ?_;intro aC fr;exact⟨bs.length+3-(k+1),by have:=Qag rfl;omega,k+1,L3,vw,RI,rfl,fr.kp [4,5,6,10,11,12],Cw,xX,fun h=>(vi h).Zx (ir h) (fun x=>by have:=IP bs x;omega),fun h=>⟨oM,_,qZ h,fun x=>by have:=IP bs x;omega⟩,fun h=>IT YE h⟩;have cj:(j:Int)<((((aF bs).length-m0):Nat):Int):=of_decide_eq_true mU.symm;refine fN<|cg<|bx<|cK 7<|aQ ?_;obtain⟨go,rfl⟩:=cW (Cw.get 1 rfl) oM;have hco:=p7 (Cw.get 1 rfl);obtain rfl:YD=some ((aZ go).add (1*1)):=by rw[Vp,if_neg oM,show m0=1 by omega];rfl
 obtain⟨bi,hbj,Gs,Vq⟩:=IM (bs:=bs) (j:=j) oM;have Pz:0<bs.length:=oM;have hP:=ir Pz;have Gt:=vi Pz;have vX:(bi:Int)≠0:=by intro e;rw[e,hP.zero]at Vq;omega
 have bh:∀x,0≤iq bs x→0≤x:=fun x hx=>(jX Pz hx).1
 obtain⟨Ab,cb,Ex⟩:=JR.get (ru Gs);have Tx:(bS bs (bi:Int)).length≤bs.length:=fZ bs _ _;have k9:Nb (tg bs) (iq bs) vw bs.length m3 L3:=⟨hP,Gt.ok,fun x hx=>jX Pz hx,LM,xX⟩;refine eZ ((aZ go).add (1*1)) ((aF bs).length-m0) 1 (j:Int)<|bq ((((aZ go).add (1*1)):Addr).add (((j:Int)).toNat*1)) _ (fR (Nc (aB (Cw.get 1 rfl))) rfl hbj)<|aj 1<|aE<|bC<|bx<|aQ<|aj 2 ?_;obtain⟨YF,rfl⟩:=cW (Cw.get 7 rfl) oM;refine eZ (aZ YF) bs.length 1 (bi:Int)<|bq (aN (aZ YF) (bi:Int) 1) _ (bB (aB (Cw.get 7 rfl)) rfl (ia Ex))<|aj 2<|aE<|cK 8 ?_;intro aC fr;refine gT (fun n_ a_ w_=>∃(q:Nat) (to:Int),n_=(bS bs (bi:Int)).length-q∧Fr a_ 112 [(4,vS (sM go) ((aF bs).length) c5),(5,pT fO 0),(6,pT ua 0),(10,vS (sM YF) bs.length LZ),(11,(.func (.func 131) #[] #[pT fO 0,pT ua 0])),(12,vB RI),(14,nV bi),(15,vI to),(60,vS (some ((aZ go).add (1*1))) ((aF bs).length-m0) (c5-m0)),(61,(vI ((((aF bs).length-m0):Nat):Int))),(62,nV j),(69,(vS Ab ((bS bs (bi:Int)).length) cb)),(70,(vI ((bS bs (bi:Int)).length:Int))),(71,nV q)]∧Mem ba w w_ [.au b1 24 [nm,wk,pa,va,vS A bs.length c],.row 3 1 (sM go) ((aF bs).length) c5 (ints (aF bs)),.row 3 1 (sM b8) bs.length bs.length (ints m3),.au fO 37 [vS (sM b8) bs.length bs.length],.row 3 1 (sM gG) bs.length bs.length (ints L3),.au ua 37 [vS (sM gG) bs.length bs.length],.pr 3 sE,.row 37 1 (sM YF) bs.length LZ (fq sE)]∧(q≤(bS bs (bi:Int)).length)∧(Fold (tg bs) (iq bs) vw ((bS bs (bi:Int)).take q) to)) (n:=_) ⟨0,-1,rfl,fr.kp [4,5,6,10,11,12,14,15,60,61,62,69,70,71],Cw,oM,Fold.start⟩ ?_;clear fr aC Cw;rintro n aC YG ⟨q,to,rfl,fr,nx,hq,zl⟩;revert aC;refine aQ<|gC (decide ((q:Int)<((bS bs (bi:Int)).length:Int))) fun Bq mV=> ?_
 refine aE<|bx ?_;cases Bq;have cq:¬((q:Int)<((bS bs (bi:Int)).length:Int)):=of_decide_eq_false mV.symm;refine fT<|gq 8<|gr<|aQ ?_;rw[List.take_of_length_le oM]at zl;obtain⟨k1,k2,k3,k4,k5,k6⟩:=Gt.step hP bh oM Vq (Nd Pz) zl;refine bq (aZ ua) _ (ae (nx.get 5 rfl) rfl)<|aj 1<|eZ (aZ gG) bs.length 1 (bi:Int)<|bq (aN (aZ gG) (bi:Int) 1) _ (bB (aB (nx.get 4 rfl)) rfl (xX.at_ oM oM))<|aj 1<|gC ((vw (bi:Int)) !=to) fun Bch Vr=> ?_
 refine aE ?_;cases Bch;have mY:¬((vw (bi:Int))≠to):=Q9 Vr;have k7:yU (tg bs) (iq bs) vw k ((j+1:Nat):Int):=by have:=k6;rw[show to=vw (bi:Int)by omega,IE]at this;exact this
 refine fT<|cg<|dh<|cy ((j:Int)+1)<|aj 1<|aE ?_;intro aC fr;exact⟨(aF bs).length-m0-(j+1),oM,j+1,L3,vw,RI,rfl,fr.kp [4,5,6,10,11,12,60,61,62],nx,oM,xX,fun _=>k7,fun h=>(qZ h).next hP Vq (Gt.keep Vq k1 oM k4),YE⟩;have mY:(vw (bi:Int))≠to:=bne_iff_ne.1 Vr.symm;refine fN<|aQ<|bq (aZ ua) _ (ae (nx.get 5 rfl) rfl)<|aj 2<|eZ (aZ gG) bs.length 1 (bi:Int)<|zJ nx 4 (aN (aZ gG) (bi:Int) 1) (((bi:Int)).toNat*1) (vI to) rfl rfl oM fun I8 RJ=> ?_
 replace RJ:=RJ.nf;refine aE<|Ez<|dh<|cy ((j:Int)+1)<|aj 1<|aE ?_;intro aC fr;exact⟨(aF bs).length-m0-(j+1),oM,j+1,L3.set bi to,qn vw (bi:Int) to,true,rfl,fr.kp [4,5,6,10,11,12,60,61,62],(RJ.cast (by rw[ints_set];simp only[Int.toNat_natCast,Nat.mul_one])),oM,xX.set Gs sf (fun q _ cU=>lZ oM),fun _=>k6,fun h=>Bool.noConfusion h,fun h=>absurd (Gt.full hP (fun x hx=>mu Pz hx) h oM vX k2 k3 k4 k5) mY⟩;have cq:(q:Int)<((bS bs (bi:Int)).length:Int):=of_decide_eq_true mV.symm;refine fN<|cg<|bx<|cK 9<|aQ ?_;obtain⟨si,vW,na⟩:=tQ (bs:=bs) (b:=(bi:Int)) (q:=q) oM;obtain⟨Vs,rfl⟩:=rd_some (mX (nx.get 6 rfl) Ex) (by simp;omega);refine eZ Vs ((bS bs (bi:Int)).length) 1 (q:Int)<|bq (aN Vs (q:Int) 1) _ (fR (mX (nx.get 6 rfl) Ex) rfl vW)<|aj 1<|aE<|bx<|aQ<|bq (aZ fO) _ (ae (nx.get 3 rfl) rfl)<|aj 1<|eZ (aZ b8) bs.length 1 (si:Int)<|bq (aN (aZ b8) (si:Int) 1) _ (bB (aB (nx.get 2 rfl)) rfl (LM.at_ oM oM))<|gC (decide ((iq bs (si:Int))<0)) fun Bpl Vt=> ?_
 refine aj 1 ?_;cases Bpl;have cpl:¬((iq bs (si:Int))<0):=of_decide_eq_false Vt.symm;refine aj 1<|gC ((si:Int) !=0) fun Bs0 Vu=> ?_
 refine aj 1 ?_;cases Bs0;have nq:¬((si:Int)≠0):=Q9 Vu;have Hu:jz (iq bs) vw (si:Int):=⟨oM,.inl oM⟩;refine aj 7<|aE<|fT<|cg<|aQ<|aj 1<|gC (decide (to<0)) fun Bto JS=> ?_
 refine dX [4,5,6,10,11,12,14,15,17,60,61,62,69,70,71,92]<|aE ?_;cases Bto;have Vv:¬(to<0):=of_decide_eq_false JS.symm;refine fT<|dh<|aj 3<|eY (JP fO ua (aZ b8) (aZ gG) bs.length bs.length bs.length m3 L3 (tg bs) (iq bs) vw to (si:Int) YG hm (nx.dT 3 rfl) (nx.dT 5 rfl) (RO.aB (nx.dT 2 rfl)) (RO.aB (nx.dT 4 rfl)) k9 (zl.C4 oM) Hu) ?_;rintro _ YH ⟨cm,rfl,CD,Qah⟩;have JT:=nx.cl Qah;refine aj 1<|aE<|dh<|cy ((q:Int)+1)<|aj 1<|aE ?_;intro aC fr;exact⟨(bS bs (bi:Int)).length-(q+1),oM,q+1,cm,rfl,fr.kp [4,5,6,10,11,12,14,15,60,61,62,69,70,71],JT,oM,by rw[iu vW];exact zl.meet hP Gt.ok oM Hu CD⟩;have Vv:to<0:=of_decide_eq_true JS.symm;refine fN<|Ez<|dh<|cy ((q:Int)+1)<|aj 1<|aE ?_;intro aC fr;exact⟨(bS bs (bi:Int)).length-(q+1),oM,q+1,(si:Int),rfl,fr.kp [4,5,6,10,11,12,14,15,60,61,62,69,70,71],nx,oM,by rw[iu vW];exact zl.first Vv bh Hu⟩;have nq:(si:Int)≠0:=bne_iff_ne.1 Vu.symm;refine bq (aZ ua) _ (ae (nx.get 5 rfl) rfl)<|aj 1<|eZ (aZ gG) bs.length 1 (si:Int)<|bq (aN (aZ gG) (si:Int) 1) _ (bB (aB (nx.get 4 rfl)) rfl (xX.at_ oM oM))<|dX [4,5,6,10,11,12,14,15,17,60,61,62,69,70,71,80,83,87]<|gC (decide ((vw (si:Int))<0)) fun Bup Vw=> ?_
 refine aj 2<|aE ?_;cases Bup;have cup:¬((vw (si:Int))<0):=of_decide_eq_false Vw.symm;have Hu:jz (iq bs) vw (si:Int):=⟨oM,.inr oM⟩;refine fT<|cg<|aQ<|aj 1<|gC (decide (to<0)) fun Bto JS=> ?_
 refine aE ?_;cases Bto;have Vv:¬(to<0):=of_decide_eq_false JS.symm;refine fT<|dh<|aj 3<|eY (JP fO ua (aZ b8) (aZ gG) bs.length bs.length bs.length m3 L3 (tg bs) (iq bs) vw to (si:Int) YG hm (nx.dT 3 rfl) (nx.dT 5 rfl) (RO.aB (nx.dT 2 rfl)) (RO.aB (nx.dT 4 rfl)) k9 (zl.C4 oM) Hu) ?_;rintro _ w99 ⟨cm,rfl,CD,Vx⟩;have JU:=nx.cl Vx;refine aj 1<|aE<|dh<|cy ((q:Int)+1)<|aj 1<|aE ?_;intro aC fr;exact⟨(bS bs (bi:Int)).length-(q+1),oM,q+1,cm,rfl,fr.kp [4,5,6,10,11,12,14,15,60,61,62,69,70,71],JU,oM,by rw[iu vW];exact zl.meet hP Gt.ok oM Hu CD⟩;have Vv:to<0:=of_decide_eq_true JS.symm;refine fN<|Ez<|dh<|cy ((q:Int)+1)<|aj 1<|aE ?_;intro aC fr;exact⟨(bS bs (bi:Int)).length-(q+1),oM,q+1,(si:Int),rfl,fr.kp [4,5,6,10,11,12,14,15,60,61,62,69,70,71],nx,oM,by rw[iu vW];exact zl.first Vv bh Hu⟩;have cup:(vw (si:Int))<0:=of_decide_eq_true Vw.symm;have bH:¬jz (iq bs) vw (si:Int):=fun h=>h.2.elim nq (fun h=>oM)
 refine fN<|gq 9<|gr<|dh<|cy ((q:Int)+1)<|aj 1<|aE ?_;intro aC fr;exact⟨(bS bs (bi:Int)).length-(q+1),oM,q+1,to,rfl,fr.kp [4,5,6,10,11,12,14,15,60,61,62,69,70,71],nx,oM,by rw[iu vW];exact zl.skip bH⟩;have cpl:(iq bs (si:Int))<0:=of_decide_eq_true Vt.symm;have bH:¬jz (iq bs) vw (si:Int):=fun h=>by have:=h.1;omega
 refine aj 10<|aE<|fN<|gq 9<|gr<|dh<|cy ((q:Int)+1)<|aj 1<|aE ?_;intro aC fr;exact⟨(bS bs (bi:Int)).length-(q+1),oM,q+1,to,rfl,fr.kp [4,5,6,10,11,12,14,15,60,61,62,69,70,71],nx,oM,by rw[iu vW];exact zl.skip bH⟩;have ck:(k:Int)<((aF bs).length:Int):=of_decide_eq_true JL.symm;refine fN<|cg<|bx<|cK 3<|aQ ?_;obtain⟨bi,TH,Gs,Vq⟩:=yY (bs:=bs) (k:=k) oM;refine aj 1 ?_;obtain⟨Vy,rfl⟩:=cW (v7.get 1 rfl) oM;refine eZ (aZ Vy) ((aF bs).length) 1 (k:Int)<|bq (aN (aZ Vy) (k:Int) 1) _ (fR (aB (v7.get 1 rfl)) rfl TH)<|aj 2<|aE<|dh<|bq (aZ fO) _ (ae (v7.get 3 rfl) rfl)<|aj 2<|eZ (aZ b8) bs.length 1 (bi:Int)<|zJ v7 2 (aN (aZ b8) (bi:Int) 1) (((bi:Int)).toNat*1) (nV k) rfl rfl oM fun Qai JV=> ?_
 replace JV:=JV.nf;refine aE<|dh<|cy ((k:Int)+1)<|aj 1<|aE ?_;intro aC fr;exact⟨(aF bs).length-(k+1),oM,k+1,m3.set bi (k:Int),rfl,fr.kp [1,4,5,6,40,41,42],(JV.cast (by rw[ints_set];simp only[Int.toNat_natCast,Nat.mul_one])),oM,AO h3 TH Gs⟩;have ci:(i:Int)<(bs.length:Int):=of_decide_eq_true Vi.symm;refine fN<|cg<|bx<|cK 1<|bC<|dX [1,4,5,6,7,29,30] ?_;intro aC fr;refine zK (bL [eS (sM b8) bs.length bs.length,.bg (nV i),eS (sM gG) bs.length bs.length,.bg (nV i),eA (aZ b8) (i:Int) 1,.bg undef,eA (aZ gG) (i:Int) 1,.bg undef]) (fun ls vs w_=>match ls 7 with|true=>(Mem ba w w_ [.au b1 24 [nm,wk,pa,va,vS A bs.length c],.row 3 1 A4 ((aF bs).length) c5 (ints (aF bs)),.row 3 1 (sM b8) bs.length bs.length ((ints m1).set (((i:Int)).toNat*1) (vI (-1))),.au fO 37 [vS (sM b8) bs.length bs.length],.row 3 1 (sM gG) bs.length bs.length ((ints m2).set (((i:Int)).toNat*1) (vI (-1))),.au ua 37 [vS (sM gG) bs.length bs.length]])|false=>(match ls 5 with|true=>(Mem ba w w_ [.au b1 24 [nm,wk,pa,va,vS A bs.length c],.row 3 1 A4 ((aF bs).length) c5 (ints (aF bs)),.row 3 1 (sM b8) bs.length bs.length ((ints m1).set (((i:Int)).toNat*1) (vI (-1))),.au fO 37 [vS (sM b8) bs.length bs.length],.row 3 1 (sM gG) bs.length bs.length (ints m2),.au ua 37 [vS (sM gG) bs.length bs.length]])|false=>(Mem ba w w_ [.au b1 24 [nm,wk,pa,va,vS A bs.length c],.row 3 1 A4 ((aF bs).length) c5 (ints (aF bs)),.row 3 1 (sM b8) bs.length bs.length (ints m1),.au fO 37 [vS (sM b8) bs.length bs.length],.row 3 1 (sM gG) bs.length bs.length (ints m2),.au ua 37 [vS (sM gG) bs.length bs.length]]))) fr (oK (.bg (.bg (.bg (.bg (.bg (.bg (.bg (.bg .nil))))))))) (ll.aD (Mem.drew _)) (tZ lz (lL (aZ fO) (vS (sM b8) bs.length bs.length) (fun _ _ _ _ h=>h) ?_) (fi fun _ _ _ _ h=>h) (lL (aZ ua) (vS (sM gG) bs.length bs.length) (fun _ _ _ _ h=>h) ?_) (fi fun _ _ _ _ h=>h) (K6 (aZ b8) bs.length 1 (i:Int) fun _ _ _ _ h=>h) ?_ (K6 (aZ gG) bs.length 1 (i:Int) fun _ _ _ _ h=>h) ?_) ?_;intro w_ ls vs hJ bp bj hp;have f5:ls 5=false:=az bj bp (n:=8) kR;have f7:ls 7=false:=az bj bp (n:=8) kR;have aI:=hJ;simp only[f5,f7]at aI;exact(ae (aI.get 3 rfl) rfl);intro w_ ls vs hJ bp bj hp;have f7:ls 7=false:=az bj bp (n:=8) kR;have aI:=hJ;simp only[f7]at aI;cases fu:ls 5;simp only[fu]at aI;exact(ae (aI.get 5 rfl) rfl);simp only[fu]at aI;exact(ae (aI.get 5 rfl) rfl);intro dM w_ ls vs bZ hJ bp bj hp hF;refine iW (g0:=none) ?_;replace hF:Fr dM 112 [(37,(vP (aN (aZ b8) (i:Int) 1)))]:=hF.kp [37];have f5:ls 5=false:=bp;have f7:ls 7=false:=az bj bp (n:=8) kR;have aI:=hJ;simp only[f5,f7]at aI;refine dZ (kR:ao _ 0=some (none,.store 3 (.tmp 37) (.const (vI (-1))),0,none)) hF kR kR (k':=1) rfl (ad:=(aZ b8)) (j:=(((i:Int)).toNat*1)) (e:=3) (size:=1) (n:=bs.length) (cap:=bs.length) (v:=(vI (-1))) (xs:=(ints m1)) (ad':=(aN (aZ b8) (i:Int) 1)) kR rfl kR kR rfl aI 2 rfl oM ?_;intro w2 dY _ a2 ea _;refine aJ kR ?_;refine aY (d:=none) kR ea rfl ?_;show match ls 7 with|true=>_|false=>(_)
 rw[f7];exact dY;intro dM w_ ls vs bZ hJ bp bj hp hF;refine iW (g0:=none) ?_;replace hF:Fr dM 112 [(38,(vP (aN (aZ gG) (i:Int) 1)))]:=hF.kp [38];have f5:ls 5=true:=aG bj (fun k hk=>(hp k hk).1) (n:=8) kR;have f7:ls 7=false:=bp;have aI:=hJ;simp only[f5,f7]at aI;refine dZ (kR:ao _ 0=some (none,.store 3 (.tmp 38) (.const (vI (-1))),0,none)) hF kR kR (k':=1) rfl (ad:=(aZ gG)) (j:=(((i:Int)).toNat*1)) (e:=3) (size:=1) (n:=bs.length) (cap:=bs.length) (v:=(vI (-1))) (xs:=(ints m2)) (ad':=(aN (aZ gG) (i:Int) 1)) kR rfl kR kR rfl aI 4 rfl oM ?_;intro w2 dY _ a2 ea _;refine aJ kR ?_;refine aY (d:=none) kR ea rfl ?_;show _;exact dY;intro aC Vz ls vs cA BU hv fr;simp only[show ls 7=true from cA 7 dQ]at BU;revert aC;refine cH [(1,pT b1 0),(4,vS A4 ((aF bs).length) c5),(5,pT fO 0),(6,pT ua 0),(29,(vI (bs.length:Int))),(30,nV i)] ?_;clear cA hv fr aC ll;clear vs ls;refine dh<|cy ((i:Int)+1)<|aj 1<|aE ?_;intro aC fr;exact⟨bs.length-(i+1),oM,i+1,m1.set i (-1),m2.set i (-1),rfl,fr.kp [1,4,5,6,29,30],(BU.cast (by rw[ints_set,ints_set];simp only[Int.toNat_natCast,Nat.mul_one])),oM,xn h1 oM,xn h2 oM⟩
end Go.Proofs.Ytejbeeaomokjpaa
namespace Go.Proofs.Ytejbeeaomokjpaa
open Go.Mor
theorem RK(nm:cV)(wk:Bool)(pa va:Int)(A:aX)(c:Nat)(fs:List ay)(w:World)(hN:fs.length≤1000)(gx:pL fs)(hA:RO ba w (.fn A fs)):Calls Try.prog 77 #[fA nm wk pa va A c fs] w (fE fun v w'=>v=vI ((hY fs:Nat):Int)∧Mem ba w w' []):=by
 have wA:=bE fs;have hm:(af fs).length≤1000000:=oM;have hB:=hA.bs;refine hZ 27 [fA nm wk pa va A c fs] Try.func77 ?_;have hM:=Mem.init w;refine aQ<|nJ hM 24 (fA nm wk pa va A c fs) (fV nm wk pa va A c fs) fun b1 w2 kH M3=> ?_
 replace M3:=M3.nf;clear hM;refine aj 1<|aE<|aQ<|aj 1<|bq (ak b1 4) _ (ae (M3.get 0 rfl) rfl)<|aj 2<|aE<|bx<|aQ<|aj 1 ?_;refine bq (ak b1 4) _ (ae (M3.get 0 rfl) rfl)<|aj 2<|aE<|cK 0 ?_;intro aC fr;refine gT (fun n_ a_ w_=>∃(k:Nat) (q:Nat),n_=fs.length-k∧Fr a_ 27 [(3,nV q),(10,vS A ((af fs).length) c),(11,(vI ((af fs).length:Int))),(12,nV k)]∧Mem ba w w_ [.au b1 24 (fV nm wk pa va A c fs)]∧(k≤fs.length)∧(q=fs.length+jl fs k)) (n:=_) ⟨0,(af fs).length,rfl,fr.kp [3,10,11,12],M3,oM,by rw[wA,om];rfl⟩ ?_;clear fr aC M3;rintro n aC w6 ⟨k,q,rfl,fr,M7,hk,hq⟩;revert aC;refine bC<|bx<|jg ((k:Int)<((af fs).length:Int)) (fun Hq=> ?_) (fun Hq=> ?_);refine cg<|bx<|cK 1<|aQ ?_;obtain⟨x,hx⟩:=bu (l:=fs) (i:=k) oM;have nR:x.ah.length≤281474976710656:=(gx.get hx).lp;have xo:x.insts.length≤281474976710656:=(gx.get hx).li;have Tx:=sa gx k hk;obtain⟨sF,rfl⟩:=dN (M7.ro hB) (gv hx);refine eZ sF ((af fs).length) 6 (k:Int)<|gu (aN sF (k:Int) 6) (xV x) (cZ (M7.ro hB) rfl hx)<|mZ M7 36 [aq,aq,vI 0,vI 0,vI 0,vI 0] fun ET NU VA rO=> ?_
 replace rO:=rO.nf;refine po rO 1 (xV x) rfl fun Ty lQ=> ?_
 replace lQ:=lQ.nf;refine aE<|dh<|aj 2<|bq (aZ ET) _ (ae (lQ.get 1 rfl) rfl)<|aj 2<|bq (ak ET 1) _ (ae (lQ.get 1 rfl) rfl)<|aj 1<|cy ((x.ah.length:Int)+(x.insts.length:Int))<|cy ((q:Int)+((x.ah.length:Int)+(x.insts.length:Int)))<|dX [10,11,12,24] ?_;refine aj 1<|aE<|dh<|cy ((k:Int)+1)<|aj 1<|aE ?_;intro aC fr;exact⟨fs.length-(k+1),oM,k+1,q+(x.ah.length+x.insts.length),rfl,fr.kp [3,10,11,12],(lQ.tk 1),oM,by rw[hq,ly hx];omega⟩;refine gq 0<|gr<|bC<|an<|cQ (nV q) ?_;obtain rfl:k=fs.length:=oM;have lu:=M7.od [] 0;exact⟨by rw[hq];rfl,lu⟩
theorem zm(nm:cV)(wk:Bool)(pa va:Int)(A:aX)(c:Nat)(fs:List ay)(w:World)(hN:fs.length≤1000)(gx:pL fs)(hA:RO ba w (.fn A fs)):Calls Try.prog 19 #[fA nm wk pa va A c fs] w (fE fun v w'=>v=vI ((hY fs:Nat):Int)∧Mem ba w w' []):=by
 have wA:=bE fs;have hm:(af fs).length≤1000000:=oM;have hB:=hA.bs;refine hZ 33 [fA nm wk pa va A c fs] Try.func19 ?_;have hM:=Mem.init w;refine aQ<|nJ hM 24 (fA nm wk pa va A c fs) (fV nm wk pa va A c fs) fun b1 w2 kH M3=> ?_
 replace M3:=M3.nf;clear hM;refine aj 1<|aE<|aQ<|aj 1<|bq (ak b1 4) _ (ae (M3.get 0 rfl) rfl)<|aj 2<|aE<|bx<|bC<|cK 0 ?_;intro aC fr;refine gT (fun n_ a_ w_=>∃(k:Nat) (q:Nat),n_=fs.length-k∧Fr a_ 33 [(1,pT b1 0),(3,nV q),(4,nV k)]∧Mem ba w w_ [.au b1 24 (fV nm wk pa va A c fs)]∧(k≤fs.length)∧(q=fs.length+jl fs k)) (n:=_) ⟨0,(af fs).length,rfl,fr.kp [1,3,4],M3,oM,by rw[wA,om];rfl⟩ ?_;clear fr aC M3;rintro n aC w6 ⟨k,q,rfl,fr,M7,hk,hq⟩;revert aC;refine bx<|aQ<|aj 2<|bq (ak b1 4) _ (ae (M7.get 0 rfl) rfl)<|aj 2<|aE<|jg ((k:Int)<((af fs).length:Int)) (fun Hq=> ?_) (fun Hq=> ?_);refine cg<|bx<|cK 1 ?_;obtain⟨x,hx⟩:=bu (l:=fs) (i:=k) oM;have nR:x.ah.length≤281474976710656:=(gx.get hx).lp;have xo:x.insts.length≤281474976710656:=(gx.get hx).li;have Tx:=sa gx k hk;obtain⟨sF,rfl⟩:=dN (M7.ro hB) (gv hx);obtain⟨x,hx⟩:=bu (l:=fs) (i:=k) oM;have nR:x.ah.length≤281474976710656:=(gx.get hx).lp;have xo:x.insts.length≤281474976710656:=(gx.get hx).li;have Tx:=sa gx k hk;refine dX [1,3,4] ?_;intro aC fr;refine qy (bL [.bg (nV q),eR b1 4,eS (some sF) ((af fs).length) c,.bg (nV k),eA sF (k:Int) 6,eA sF (k:Int) 6,eS x.pA x.ah.length x.pc,eI (x.ah.length:Int),eI ((q:Int)+(x.ah.length:Int)),eR b1 4,eS (some sF) ((af fs).length) c,.bg (nV k),eA sF (k:Int) 6,eP ((aN sF (k:Int) 6).add 1),eS x.iA x.insts.length x.ic,eI (x.insts.length:Int),eI ((((q+(x.ah.length+x.insts.length):Nat)):Int)),eI ((((q+(x.ah.length+x.insts.length):Nat)):Int))]) fr (la (Cu (gE lz dP dP (dL (ak b1 4) _ fun w_ hK=>(ae ((M7.aD hK).get 0 rfl) rfl)) dP (dI sF ((af fs).length) 6 (k:Int)) dP (dL (aN sF (k:Int) 6) _ fun w_ hK=>(cZ ((M7.aD hK).ro hB) rfl hx 0 _ rfl)) dP (dA ((q:Int)+(x.ah.length:Int))) dP (dL (ak b1 4) _ fun w_ hK=>(ae ((M7.aD hK).get 0 rfl) rfl)) dP) (dI sF ((af fs).length) 6 (k:Int)) dP (dL ((aN sF (k:Int) 6).add 1) _ fun w_ hK=>(cZ ((M7.aD hK).ro hB) rfl hx 1 _ rfl)) dP ?_) dP) ?_;intro dM w_ vs bZ hK hp hF;refine iW (g0:=none) ?_;replace hF:Fr dM 33 [(23,(vI ((q:Int)+(x.ah.length:Int)))),(30,(vI (x.insts.length:Int)))]:=hF.kp [23,30];refine fU (kR:ao _ 0=some (some 31,.binOp .add 3 (.tmp 23) (.tmp 30) 3,3,none)) hF kR kR (k':=1) rfl (i:=((q:Int)+(x.ah.length:Int))) (j:=(x.insts.length:Int)) (z:=((((q+(x.ah.length+x.insts.length):Nat)):Int))) kR kR (sZ some oM) oM oM ?_;intro a2 ea _;refine aJ kR ?_;exact tC (d:=some 31) kR ea (Kp.refl _) rfl;intro aC Dx vs hK hv fr;revert aC;refine cH [(1,pT b1 0),(3,(vI ((((q+(x.ah.length+x.insts.length):Nat)):Int)))),(4,nV k)] ?_;have kI:=M7.aD hK;clear hK hv fr aC M7;clear vs;refine dh<|aj 1<|cy ((k:Int)+1)<|aj 1<|aE ?_;intro aC fr;exact⟨fs.length-(k+1),oM,k+1,q+(x.ah.length+x.insts.length),rfl,fr.kp [1,3,4],kI,oM,by rw[hq,ly hx];omega⟩;refine gq 0<|gr<|bC<|an<|cQ (nV q) ?_;obtain rfl:k=fs.length:=oM;have Gu:=M7.od [] 0;exact⟨by rw[hq];rfl,Gu⟩
end Go.Proofs.Ytejbeeaomokjpaa
namespace Go.Proofs.Ytejbeeaomokjpaa
open Go.Mor
theorem iC(l:ar)(A A2:aX)(c c2:Nat)(w:World)(Qf:gY l.length)(hl:RO ba w (.rd A (ints l)))(hm:RO ba w (.rd A2 (ints l))):Calls Try.prog 101 #[vS A l.length c,vS A2 l.length c2] w (fE fun v w'=>v=vB true∧Mem ba w w' []):=by
 unfold gY at Qf;refine hZ 26 [vS A l.length c,vS A2 l.length c2] Try.func101 ?_;have hM:=Mem.init w;refine bC<|bx<|aQ<|aj 4<|gC ((l.length:Int) !=(l.length:Int)) fun B1 ju=> ?_
 obtain rfl:B1=false:=by have bW:¬((l.length:Int)≠(l.length:Int)):=oM;first|exact ju.trans (decide_eq_true bW)|exact ju.trans (decide_eq_false bW)|exact ju.trans (beq_iff_eq.2 bW)|exact ju.trans (bne_iff_ne.2 bW)|exact ju.trans (Bool.eq_false_iff.2 (fun e=>bW (beq_iff_eq.1 e)))|exact ju.trans (Bool.eq_false_iff.2 (fun e=>bW (bne_iff_ne.1 e)))
 clear ju;refine aE<|fT<|cg<|bx<|bC<|cK 0 ?_;intro aC fr;refine gT (fun n_ a_ w_=>∃(i:Nat),n_=l.length-i∧Fr a_ 26 [(0,vS A l.length c),(1,vS A2 l.length c2),(5,nV i)]∧Mem ba w w_ []∧(i≤l.length)) (n:=_) ⟨0,rfl,fr.kp [0,1,5],hM,oM⟩ ?_;clear fr aC hM;rintro n aC w4 ⟨i,rfl,fr,M5,hi⟩;revert aC;refine bx<|bC<|jg ((i:Int)<(l.length:Int)) (fun c8=> ?_) (fun c8=> ?_);refine cg<|bx<|cK 1<|bx ?_;obtain⟨x,hx⟩:=bu (l:=l) (i:=i) oM;obtain⟨Ph,rfl⟩:=rd_some (M5.ro hl) (by simp[ints];omega);obtain⟨uv,rfl⟩:=rd_some (M5.ro hm) (by simp[ints];omega);obtain⟨B11,ep⟩:∃B:Bool,B=(x !=x):=⟨_,rfl⟩;obtain rfl:B11=false:=by have bW:¬((x:Int)≠x):=oM;first|exact ep.trans (decide_eq_true bW)|exact ep.trans (decide_eq_false bW)|exact ep.trans (beq_iff_eq.2 bW)|exact ep.trans (bne_iff_ne.2 bW)|exact ep.trans (Bool.eq_false_iff.2 (fun e=>bW (beq_iff_eq.1 e)))|exact ep.trans (Bool.eq_false_iff.2 (fun e=>bW (bne_iff_ne.1 e)))
 refine dX [0,1,5] ?_;intro aC fr;refine qy (bL [eS (some Ph) l.length c,.bg (nV i),eA Ph (i:Int) 1,eI x,eS (some uv) l.length c2,.bg (nV i),eA uv (i:Int) 1,eI x,eB false]) fr (la (tZ lz dP dP (dI Ph l.length 1 (i:Int)) (dL (aN Ph (i:Int) 1) _ fun w_ hK=>(fR ((M5.aD hK).ro hl) rfl hx)) dP dP (dI uv l.length 1 (i:Int)) (dL (aN uv (i:Int) 1) _ fun w_ hK=>(fR ((M5.aD hK).ro hm) rfl hx))) (dC (x !=x) ep)) ?_;intro aC Dx vs hK hv fr;revert aC;refine cH [(0,vS (some Ph) l.length c),(1,vS (some uv) l.length c2),(5,nV i),(25,vB false)] ?_;have kI:=M5.aD hK;clear hK hv fr aC M5;clear vs;refine fT<|cg<|dh<|aj 1<|cy ((i:Int)+1)<|aj 1<|aE ?_;intro aC fr;exact⟨l.length-(i+1),oM,i+1,rfl,fr.kp [0,1,5],kI,oM⟩;refine gq 0<|gr<|bC<|an<|cQ (vB true) ?_;exact⟨rfl,M5⟩
theorem ld(fs gs:List ay)(A A2:aX)(k:Nat)(pA:aX)(pc:Nat)(qs:List bI)(iA:aX)(ic:Nat)(us:List aO)(xe xw xa xb:Int)(A1:aX)(c1:Nat)(ps:List bI)(A3:aX)(c3:Nat)(is:List aO)(w:World)(gx:ay.Ok ⟨pA,pc,qs,iA,ic,us,xe,xw,xa,xb⟩)(hA:RO ba w (.fn A fs))(hx:fs[k]?=some ⟨pA,pc,qs,iA,ic,us,xe,xw,xa,xb⟩)(uK:RO ba w (.fn A2 gs))(hy:gs[k]?=some ⟨A1,c1,ps,A3,c3,is,xe,xw,xa,xb⟩)(UN:ps.map bI.e0=qs.map bI.e0)(UO:is.map aO.e0=us.map aO.e0):Calls Try.prog 58 #[(.agg #[vS pA qs.length pc,vS iA us.length ic,vI xe,vI xw,vI xa,vI xb]),(.agg #[vS A1 ps.length c1,vS A3 is.length c3,vI xe,vI xw,vI xa,vI xb])] w (fE fun v w'=>v=vB true∧Mem ba w w' []):=by
 have kT:=eM UN;have q8:=eM UO;have nR:qs.length≤281474976710656:=gx.lp;have xo:us.length≤281474976710656:=gx.li;refine hZ 140 [(.agg #[vS pA qs.length pc,vS iA us.length ic,vI xe,vI xw,vI xa,vI xb]),(.agg #[vS A1 ps.length c1,vS A3 is.length c3,vI xe,vI xw,vI xa,vI xb])] Try.func58 ?_;have hM:=Mem.init w;refine aQ<|nJ hM 36 (.agg #[vS pA qs.length pc,vS iA us.length ic,vI xe,vI xw,vI xa,vI xb]) [vS pA qs.length pc,vS iA us.length ic,vI xe,vI xw,vI xa,vI xb] fun b1 w2 kH M3=> ?_
 replace M3:=M3.nf;clear hM;refine nJ M3 36 (.agg #[vS A1 ps.length c1,vS A3 is.length c3,vI xe,vI xw,vI xa,vI xb]) [vS A1 ps.length c1,vS A3 is.length c3,vI xe,vI xw,vI xa,vI xb] fun b4 w5 LW M6=> ?_
 replace M6:=M6.nf;refine aj 1<|aE<|bx<|aQ<|aj 1<|bq (ak b1 2) _ (ae (M6.get 0 rfl) rfl)<|aj 1<|bq (ak b4 2) _ (ae (M6.get 1 rfl) rfl)<|gC (xe !=xe) fun B7 wv=> ?_
 obtain rfl:B7=false:=by have bW:¬((xe:Int)≠xe):=oM;first|exact wv.trans (decide_eq_true bW)|exact wv.trans (decide_eq_false bW)|exact wv.trans (beq_iff_eq.2 bW)|exact wv.trans (bne_iff_ne.2 bW)|exact wv.trans (Bool.eq_false_iff.2 (fun e=>bW (beq_iff_eq.1 e)))|exact wv.trans (Bool.eq_false_iff.2 (fun e=>bW (bne_iff_ne.1 e)))
 clear wv;refine aj 2<|bq (ak b1 3) _ (ae (M6.get 0 rfl) rfl)<|aj 1<|bq (ak b4 3) _ (ae (M6.get 1 rfl) rfl)<|dX [2,3,14,16,18]<|gC (xw !=xw) fun B8 Gv=> ?_
 obtain rfl:B8=false:=by have bW:¬((xw:Int)≠xw):=oM;first|exact Gv.trans (decide_eq_true bW)|exact Gv.trans (decide_eq_false bW)|exact Gv.trans (beq_iff_eq.2 bW)|exact Gv.trans (bne_iff_ne.2 bW)|exact Gv.trans (Bool.eq_false_iff.2 (fun e=>bW (beq_iff_eq.1 e)))|exact Gv.trans (Bool.eq_false_iff.2 (fun e=>bW (bne_iff_ne.1 e)))
 clear Gv;refine aj 3<|bq (ak b1 4) _ (ae (M6.get 0 rfl) rfl)<|aj 1<|bq (ak b4 4) _ (ae (M6.get 1 rfl) rfl)<|gC (xa !=xa) fun B9 xT=> ?_
 obtain rfl:B9=false:=by have bW:¬((xa:Int)≠xa):=oM;first|exact xT.trans (decide_eq_true bW)|exact xT.trans (decide_eq_false bW)|exact xT.trans (beq_iff_eq.2 bW)|exact xT.trans (bne_iff_ne.2 bW)|exact xT.trans (Bool.eq_false_iff.2 (fun e=>bW (beq_iff_eq.1 e)))|exact xT.trans (Bool.eq_false_iff.2 (fun e=>bW (bne_iff_ne.1 e)))
 clear xT;refine aj 3<|bq (ak b1 5) _ (ae (M6.get 0 rfl) rfl)<|aj 1<|bq (ak b4 5) _ (ae (M6.get 1 rfl) rfl)<|gC (xb !=xb) fun kf nN=> ?_
 obtain rfl:kf=false:=by have bW:¬((xb:Int)≠xb):=oM;first|exact nN.trans (decide_eq_true bW)|exact nN.trans (decide_eq_false bW)|exact nN.trans (beq_iff_eq.2 bW)|exact nN.trans (bne_iff_ne.2 bW)|exact nN.trans (Bool.eq_false_iff.2 (fun e=>bW (beq_iff_eq.1 e)))|exact nN.trans (Bool.eq_false_iff.2 (fun e=>bW (bne_iff_ne.1 e)))
 clear nN;refine aj 3<|bq (aZ b1) _ (ae (M6.get 0 rfl) rfl)<|dX [2,3,35,37]<|aj 2<|bq (aZ b4) _ (ae (M6.get 1 rfl) rfl)<|aj 1<|gC ((qs.length:Int) !=(ps.length:Int)) fun B11 ep=> ?_
 obtain rfl:B11=false:=by have bW:¬((qs.length:Int)≠(ps.length:Int)):=oM;first|exact ep.trans (decide_eq_true bW)|exact ep.trans (decide_eq_false bW)|exact ep.trans (beq_iff_eq.2 bW)|exact ep.trans (bne_iff_ne.2 bW)|exact ep.trans (Bool.eq_false_iff.2 (fun e=>bW (beq_iff_eq.1 e)))|exact ep.trans (Bool.eq_false_iff.2 (fun e=>bW (bne_iff_ne.1 e)))
 clear ep;refine aj 3<|bq (ak b1 1) _ (ae (M6.get 0 rfl) rfl)<|aj 2<|bq (ak b4 1) _ (ae (M6.get 1 rfl) rfl)<|aj 1<|gC ((us.length:Int) !=(is.length:Int)) fun vx qO=> ?_
 obtain rfl:vx=false:=by have bW:¬((us.length:Int)≠(is.length:Int)):=oM;first|exact qO.trans (decide_eq_true bW)|exact qO.trans (decide_eq_false bW)|exact qO.trans (beq_iff_eq.2 bW)|exact qO.trans (bne_iff_ne.2 bW)|exact qO.trans (Bool.eq_false_iff.2 (fun e=>bW (beq_iff_eq.1 e)))|exact qO.trans (Bool.eq_false_iff.2 (fun e=>bW (bne_iff_ne.1 e)))
 clear qO;refine aj 1<|aE<|fT<|cg<|bx<|bC<|cK 0 ?_;intro aC fr;refine gT (fun n_ a_ w_=>∃(j:Nat),n_=qs.length-j∧Fr a_ 140 [(2,pT b1 0),(3,pT b4 0),(5,nV j)]∧Mem ba w w_ [.au b1 36 [vS pA qs.length pc,vS iA us.length ic,vI xe,vI xw,vI xa,vI xb],.au b4 36 [vS A1 ps.length c1,vS A3 is.length c3,vI xe,vI xw,vI xa,vI xb]]∧(j≤qs.length)) (n:=_) ⟨0,rfl,fr.kp [2,3,5],M6,oM⟩ ?_;clear fr aC M6;rintro n aC Ty ⟨j,rfl,fr,lQ,hj⟩;revert aC;refine bx<|aQ<|aj 2<|bq (aZ b1) _ (ae (lQ.get 0 rfl) rfl)<|aj 2<|aE<|jg ((j:Int)<(qs.length:Int)) (fun wa=> ?_) (fun wa=> ?_);refine cg<|bx<|cK 1<|bx ?_;obtain⟨p,ub⟩:=bu (l:=qs) (i:=j) oM;obtain⟨qA,qc,hqx⟩:=Jf UN ub;have JY:=gx.ah p (List.mem_of_getElem? ub);obtain⟨QeB,rfl⟩:=qw (lQ.ro (hA.ah hx)) (i:=j) (by show(qs.map bI.cells)[j]?=_;rw[List.getElem?_map,ub];rfl);obtain⟨sG,rfl⟩:=qw (lQ.ro (uK.ah hy)) (i:=j) (by show(ps.map bI.cells)[j]?=_;rw[List.getElem?_map,hqx];rfl);obtain⟨zQ,lf⟩:∃B:Bool,B=(p.dst !=p.dst):=⟨_,rfl⟩;obtain rfl:zQ=false:=by have bW:¬((p.dst:Int)≠p.dst):=oM;first|exact lf.trans (decide_eq_true bW)|exact lf.trans (decide_eq_false bW)|exact lf.trans (beq_iff_eq.2 bW)|exact lf.trans (bne_iff_ne.2 bW)|exact lf.trans (Bool.eq_false_iff.2 (fun e=>bW (beq_iff_eq.1 e)))|exact lf.trans (Bool.eq_false_iff.2 (fun e=>bW (bne_iff_ne.1 e)))
 refine dX [2,3,5] ?_;intro aC fr;refine Yg 26 (bL [eR b1 0,eS (some QeB) qs.length pc,.bg (nV j),eA QeB (j:Int) 2,eA QeB (j:Int) 2,eI p.dst,eR b4 0,eS (some sG) ps.length c1,.bg (nV j),eA sG (j:Int) 2,eA sG (j:Int) 2,eI p.dst,eB false,eB false,eR b1 0,eS (some QeB) qs.length pc,.bg (nV j),eA QeB (j:Int) 2,eP ((aN QeB (j:Int) 2).add 1),eS p.A p.args.length p.c,eR b4 0,eS (some sG) ps.length c1,.bg (nV j),eA sG (j:Int) 2,eP ((aN sG (j:Int) 2).add 1),eS qA p.args.length qc]) fr (rY (gE (gE lz dP (dL (aZ b1) _ fun w_ hK=>(ae ((lQ.aD hK).get 0 rfl) rfl)) dP (dI QeB qs.length 2 (j:Int)) dP (dL (aN QeB (j:Int) 2) _ fun w_ hK=>(e8 (cs:=p.cells) ((lQ.aD hK).ro (hA.ah hx)) rfl (by show(qs.map bI.cells)[j]?=_;rw[List.getElem?_map,ub];rfl) 0 _ rfl)) dP (dL (aZ b4) _ fun w_ hK=>(ae ((lQ.aD hK).get 1 rfl) rfl)) dP (dI sG ps.length 2 (j:Int)) dP (dL (aN sG (j:Int) 2) _ fun w_ hK=>(e8 (cs:=bI.cells ⟨p.dst,qA,qc,p.args⟩) ((lQ.aD hK).ro (uK.ah hy)) rfl (by show(ps.map bI.cells)[j]?=_;rw[List.getElem?_map,hqx];rfl) 0 _ rfl))) (dC (p.dst !=p.dst) lf) dP dP (dL (aZ b1) _ fun w_ hK=>(ae ((lQ.aD hK).get 0 rfl) rfl)) dP (dI QeB qs.length 2 (j:Int)) dP (dL ((aN QeB (j:Int) 2).add 1) _ fun w_ hK=>(e8 (cs:=p.cells) ((lQ.aD hK).ro (hA.ah hx)) rfl (by show(qs.map bI.cells)[j]?=_;rw[List.getElem?_map,ub];rfl) 1 _ rfl)) dP (dL (aZ b4) _ fun w_ hK=>(ae ((lQ.aD hK).get 1 rfl) rfl)) dP (dI sG ps.length 2 (j:Int))) dP (dL ((aN sG (j:Int) 2).add 1) _ fun w_ hK=>(e8 (cs:=bI.cells ⟨p.dst,qA,qc,p.args⟩) ((lQ.aD hK).ro (uK.ah hy)) rfl (by show(ps.map bI.cells)[j]?=_;rw[List.getElem?_map,hqx];rfl) 1 _ rfl))) ?_;intro aC VC vs hK hv fr;revert aC;refine cH [(2,pT b1 0),(3,pT b4 0),(5,nV j),(73,vB false),(79,vS p.A p.args.length p.c),(85,vS qA p.args.length qc)] ?_;have wb:=lQ.aD hK;clear hK hv fr aC lQ;clear vs;refine eY (iC p.args p.A qA p.c qc VC JY.len ((hA.pK hx ub).at_ wb) ((uK.pK hy hqx).at_ wb)) ?_;rintro _ UM ⟨rfl,Qcx⟩;have zN:=wb.cl Qcx;refine aj 2<|aE<|fT<|cg<|dh<|aj 1<|cy ((j:Int)+1)<|aj 1<|aE ?_;intro aC fr;exact⟨qs.length-(j+1),oM,j+1,rfl,fr.kp [2,3,5],zN,oM⟩;refine gq 0<|gr<|bx<|bC<|cK 2 ?_;intro aC fr;refine gT (fun n_ a_ w_=>∃(m:Nat),n_=us.length-m∧Fr a_ 140 [(2,pT b1 0),(3,pT b4 0),(6,nV m)]∧Mem ba w w_ [.au b1 36 [vS pA qs.length pc,vS iA us.length ic,vI xe,vI xw,vI xa,vI xb],.au b4 36 [vS A1 ps.length c1,vS A3 is.length c3,vI xe,vI xw,vI xa,vI xb]]∧(m≤us.length)) (n:=_) ⟨0,rfl,fr.kp [2,3,6],lQ,oM⟩ ?_;clear fr aC lQ;rintro n aC YA ⟨m,rfl,fr,pU,hm⟩;revert aC;refine bx<|aQ<|aj 2<|bq (ak b1 1) _ (ae (pU.get 0 rfl) rfl)<|aj 2<|aE<|jg ((m:Int)<(us.length:Int)) (fun VD=> ?_) (fun VD=> ?_);refine cg<|bx<|cK 3<|bx ?_;obtain⟨i,VE⟩:=bu (l:=us) (i:=m) oM;obtain⟨rA,rc,PR⟩:=BC UO VE;have hio:=gx.insts i (List.mem_of_getElem? VE);obtain⟨nj,rfl⟩:=qw (pU.ro (hA.insts hx)) (i:=m) (by show(us.map aO.cells)[m]?=_;rw[List.getElem?_map,VE];rfl);obtain⟨yt,rfl⟩:=qw (pU.ro (uK.insts hy)) (i:=m) (by show(is.map aO.cells)[m]?=_;rw[List.getElem?_map,PR];rfl);refine dX [2,3,6] ?_;intro aC fr;refine zK (bL [eR b1 1,eS (some nj) us.length ic,.bg (nV m),eA nj (m:Int) 5,.bg (iG i),eR b4 1,eS (some yt) is.length c3,.bg (nV m),eA yt (m:Int) 5,.bg (.agg #[vI i.op,vI i.dst,vI i.n,vT i.name,vS rA i.args.length rc]),Spec.free,Spec.free,.bg undef,.bg undef]) (fun ls vs w_=>match ls 13 with|true=>(∃(dj:Nat) (dB:Nat),vs 10=(pT dj 0)∧vs 11=(pT dB 0)∧Mem ba w w_ [.au b1 36 [vS pA qs.length pc,vS (some nj) us.length ic,vI xe,vI xw,vI xa,vI xb],.au b4 36 [vS A1 ps.length c1,vS (some yt) is.length c3,vI xe,vI xw,vI xa,vI xb],.au dj 39 (iV i),.au dB 39 [vI i.op,vI i.dst,vI i.n,vT i.name,vS rA i.args.length rc]])|false=>(match ls 12 with|true=>(∃(dj:Nat) (dB:Nat),vs 10=(pT dj 0)∧vs 11=(pT dB 0)∧Mem ba w w_ [.au b1 36 [vS pA qs.length pc,vS (some nj) us.length ic,vI xe,vI xw,vI xa,vI xb],.au b4 36 [vS A1 ps.length c1,vS (some yt) is.length c3,vI xe,vI xw,vI xa,vI xb],.au dj 39 (iV i),.au dB 39 [vI 0,vI 0,vI 0,vT ⟨#[]⟩,aq]])|false=>(∃(dj:Nat) (dB:Nat),(ls 10=true→vs 10=(pT dj 0))∧(ls 11=true→vs 11=(pT dB 0))∧Mem ba w w_ ([.au b1 36 [vS pA qs.length pc,vS (some nj) us.length ic,vI xe,vI xw,vI xa,vI xb],.au b4 36 [vS A1 ps.length c1,vS (some yt) is.length c3,vI xe,vI xw,vI xa,vI xb]]++gN [(ls 10,.au dj 39 [vI 0,vI 0,vI 0,vT ⟨#[]⟩,aq]),(ls 11,.au dB 39 [vI 0,vI 0,vI 0,vT ⟨#[]⟩,aq])])))) fr (oK (.bg (.bg (.bg (.bg (.bg (.bg (.bg (.bg (.bg (.bg (.free (.free (.bg (.bg .nil))))))))))))))) ⟨0,0,fun h=>Bool.noConfusion h,fun h=>Bool.noConfusion h,pU.aD (Mem.drew _)⟩ (rY (gE lz (fi fun _ _ _ _ h=>h) (lL (ak b1 1) (vS (some nj) us.length ic) (fun _ _ _ _ h=>h) ?_) (fi fun _ _ _ _ h=>h) (K6 nj us.length 5 (m:Int) fun _ _ _ _ h=>h) ?_ (fi fun _ _ _ _ h=>h) (lL (ak b4 1) (vS (some yt) is.length c3) (fun _ _ _ _ h=>h) ?_) (fi fun _ _ _ _ h=>h) (K6 yt is.length 5 (m:Int) fun _ _ _ _ h=>h) ?_ ?_ ?_) ?_ ?_) ?_;intro w_ ls vs hJ bp bj hp;have f12:ls 12=false:=az bj bp (n:=14) kR;have f13:ls 13=false:=az bj bp (n:=14) kR;have aI:=hJ;simp only[f12,f13]at aI;obtain⟨_,_,_,_,aI⟩:=aI;exact(ae (aI.get 0 rfl) rfl);intro dM w_ ls vs bZ hJ bp bj hp hF;refine iW (g0:=none) ?_;replace hF:Fr dM 140 [(99,(vP (aN nj (m:Int) 5)))]:=hF.kp [99];have f12:ls 12=false:=az bj bp (n:=14) kR;have f13:ls 13=false:=az bj bp (n:=14) kR;have aI:=hJ;simp only[f12,f13]at aI;obtain⟨_,_,_,_,aI⟩:=aI;refine eV (kR:ao _ 0=some (some 100,.load 39 (.tmp 99),39,none)) hF kR kR (k':=1) rfl (ad:=(aN nj (m:Int) 5)) (vs:=(iV i)) kR kR (e8 (cs:=i.cells) (aI.ro (hA.insts hx)) rfl (by show(us.map aO.cells)[m]?=_;rw[List.getElem?_map,VE];rfl)) ?_;intro a2 ea _;refine aJ kR ?_;exact aY (d:=some 100) kR ea rfl hJ;intro w_ ls vs hJ bp bj hp;have f13:ls 13=false:=az bj bp (n:=14) kR;have aI:=hJ;simp only[f13]at aI;cases fu:ls 12;simp only[fu]at aI;obtain⟨_,_,_,_,aI⟩:=aI;exact(ae (aI.get 1 rfl) rfl);simp only[fu]at aI;obtain⟨_,_,_,_,aI⟩:=aI;exact(ae (aI.get 1 rfl) rfl);intro dM w_ ls vs bZ hJ bp bj hp hF;refine iW (g0:=none) ?_;replace hF:Fr dM 140 [(104,(vP (aN yt (m:Int) 5)))]:=hF.kp [104];have f13:ls 13=false:=az bj bp (n:=14) kR;have aI:=hJ;simp only[f13]at aI;cases fu:ls 12;simp only[fu]at aI;obtain⟨_,_,_,_,aI⟩:=aI;refine eV (kR:ao _ 0=some (some 105,.load 39 (.tmp 104),39,none)) hF kR kR (k':=1) rfl (ad:=(aN yt (m:Int) 5)) (vs:=[vI i.op,vI i.dst,vI i.n,vT i.name,vS rA i.args.length rc]) kR kR (e8 (cs:=aO.cells ⟨i.op,i.dst,i.n,i.name,rA,rc,i.args⟩) (aI.ro (uK.insts hy)) rfl (by show(is.map aO.cells)[m]?=_;rw[List.getElem?_map,PR];rfl)) ?_;intro a2 ea _;refine aJ kR ?_;exact aY (d:=some 105) kR ea rfl hJ;simp only[fu]at aI;obtain⟨_,_,_,_,aI⟩:=aI;refine eV (kR:ao _ 0=some (some 105,.load 39 (.tmp 104),39,none)) hF kR kR (k':=1) rfl (ad:=(aN yt (m:Int) 5)) (vs:=[vI i.op,vI i.dst,vI i.n,vT i.name,vS rA i.args.length rc]) kR kR (e8 (cs:=aO.cells ⟨i.op,i.dst,i.n,i.name,rA,rc,i.args⟩) (aI.ro (uK.insts hy)) rfl (by show(is.map aO.cells)[m]?=_;rw[List.getElem?_map,PR];rfl)) ?_;intro a2 ea _;refine aJ kR ?_;exact aY (d:=some 105) kR ea rfl hJ;intro dM w_ ls vs bZ hJ bp bj hp hF;refine iW (g0:=none) ?_;replace hF:Fr dM 140 []:=hF.kp [];have f12:ls 12=false:=az bj bp (n:=14) kR;have f13:ls 13=false:=az bj bp (n:=14) kR;have f10:ls 10=false:=bp;have aI:=hJ;simp only[f12,f13]at aI;obtain⟨nL,nS,lv,jB,aI⟩:=aI;rw[f10]at aI;refine mL (kR:ao _ 0=some (some 7,.alloc 39,0,none)) hF kR kR (k':=1) rfl (cs:=[vI 0,vI 0,vI 0,vT ⟨#[]⟩,aq]) kR aI ?_;intro xC w2 _ _ dY _ a2 ea _;refine aJ kR ?_;refine aY (d:=some 7) kR ea trivial ?_;show match ls 13 with|true=>(∃(dj:Nat) (dB:Nat),((pT xC 0):Value)=(pT dj 0)∧vs 11=(pT dB 0)∧Mem ba w w2 [.au b1 36 [vS pA qs.length pc,vS (some nj) us.length ic,vI xe,vI xw,vI xa,vI xb],.au b4 36 [vS A1 ps.length c1,vS (some yt) is.length c3,vI xe,vI xw,vI xa,vI xb],.au dj 39 (iV i),.au dB 39 [vI i.op,vI i.dst,vI i.n,vT i.name,vS rA i.args.length rc]])|false=>(match ls 12 with|true=>(∃(dj:Nat) (dB:Nat),((pT xC 0):Value)=(pT dj 0)∧vs 11=(pT dB 0)∧Mem ba w w2 [.au b1 36 [vS pA qs.length pc,vS (some nj) us.length ic,vI xe,vI xw,vI xa,vI xb],.au b4 36 [vS A1 ps.length c1,vS (some yt) is.length c3,vI xe,vI xw,vI xa,vI xb],.au dj 39 (iV i),.au dB 39 [vI 0,vI 0,vI 0,vT ⟨#[]⟩,aq]])|false=>(∃(dj:Nat) (dB:Nat),(true=true→((pT xC 0):Value)=(pT dj 0))∧(ls 11=true→vs 11=(pT dB 0))∧Mem ba w w2 ([.au b1 36 [vS pA qs.length pc,vS (some nj) us.length ic,vI xe,vI xw,vI xa,vI xb],.au b4 36 [vS A1 ps.length c1,vS (some yt) is.length c3,vI xe,vI xw,vI xa,vI xb]]++gN [(true,.au dj 39 [vI 0,vI 0,vI 0,vT ⟨#[]⟩,aq]),(ls 11,.au dB 39 [vI 0,vI 0,vI 0,vT ⟨#[]⟩,aq])])))
 rw[f13,f12];exact⟨xC,nS,fun _=>rfl,jB,dY.group 0 rfl⟩;intro dM w_ ls vs bZ hJ bp bj hp hF;refine iW (g0:=none) ?_;replace hF:Fr dM 140 []:=hF.kp [];have f12:ls 12=false:=az bj bp (n:=14) kR;have f13:ls 13=false:=az bj bp (n:=14) kR;have f11:ls 11=false:=bp;have aI:=hJ;simp only[f12,f13]at aI;obtain⟨nL,nS,lv,jB,aI⟩:=aI;rw[f11]at aI;refine mL (kR:ao _ 0=some (some 8,.alloc 39,0,none)) hF kR kR (k':=1) rfl (cs:=[vI 0,vI 0,vI 0,vT ⟨#[]⟩,aq]) kR aI ?_;intro xD w2 _ _ dY _ a2 ea _;refine aJ kR ?_;refine aY (d:=some 8) kR ea trivial ?_;show match ls 13 with|true=>(∃(dj:Nat) (dB:Nat),vs 10=(pT dj 0)∧((pT xD 0):Value)=(pT dB 0)∧Mem ba w w2 [.au b1 36 [vS pA qs.length pc,vS (some nj) us.length ic,vI xe,vI xw,vI xa,vI xb],.au b4 36 [vS A1 ps.length c1,vS (some yt) is.length c3,vI xe,vI xw,vI xa,vI xb],.au dj 39 (iV i),.au dB 39 [vI i.op,vI i.dst,vI i.n,vT i.name,vS rA i.args.length rc]])|false=>(match ls 12 with|true=>(∃(dj:Nat) (dB:Nat),vs 10=(pT dj 0)∧((pT xD 0):Value)=(pT dB 0)∧Mem ba w w2 [.au b1 36 [vS pA qs.length pc,vS (some nj) us.length ic,vI xe,vI xw,vI xa,vI xb],.au b4 36 [vS A1 ps.length c1,vS (some yt) is.length c3,vI xe,vI xw,vI xa,vI xb],.au dj 39 (iV i),.au dB 39 [vI 0,vI 0,vI 0,vT ⟨#[]⟩,aq]])|false=>(∃(dj:Nat) (dB:Nat),(ls 10=true→vs 10=(pT dj 0))∧(true=true→((pT xD 0):Value)=(pT dB 0))∧Mem ba w w2 ([.au b1 36 [vS pA qs.length pc,vS (some nj) us.length ic,vI xe,vI xw,vI xa,vI xb],.au b4 36 [vS A1 ps.length c1,vS (some yt) is.length c3,vI xe,vI xw,vI xa,vI xb]]++gN [(ls 10,.au dj 39 [vI 0,vI 0,vI 0,vT ⟨#[]⟩,aq]),(true,.au dB 39 [vI 0,vI 0,vI 0,vT ⟨#[]⟩,aq])])))
 rw[f13,f12];exact⟨nL,xD,lv,fun _=>rfl,dY.group 1 rfl⟩;intro dM w_ ls vs bZ hJ bp bj hp hF;refine iW (g0:=none) ?_;replace hF:Fr dM 140 [(7,vs 10),(100,iG i)]:=hF.kp [7,100];have f12:ls 12=false:=bp;have f13:ls 13=false:=az bj bp (n:=14) kR;have f10:ls 10=true:=aG bj (fun k hk=>(hp k hk).1) (n:=14) kR;have f11:ls 11=true:=aG bj (fun k hk=>(hp k hk).1) (n:=14) kR;have aI:=hJ;simp only[f12,f13]at aI;obtain⟨nL,nS,lv,jB,aI⟩:=aI;replace lv:=lv f10;try rw[lv]at hF
 replace jB:=jB f11;try rw[jB]at hF
 rw[f10,f11]at aI;change Mem ba w w_ [.au b1 36 [vS pA qs.length pc,vS (some nj) us.length ic,vI xe,vI xw,vI xa,vI xb],.au b4 36 [vS A1 ps.length c1,vS (some yt) is.length c3,vI xe,vI xw,vI xa,vI xb],.au nL 39 [vI 0,vI 0,vI 0,vT ⟨#[]⟩,aq],.au nS 39 [vI 0,vI 0,vI 0,vT ⟨#[]⟩,aq]]at aI;refine fo (kR:ao _ 0=some (none,.store 39 (.tmp 7) (.tmp 100),0,none)) hF kR kR (k':=1) rfl (b:=nL) (t0:=39) (vs:=(iV i)) (cs:=[vI 0,vI 0,vI 0,vT ⟨#[]⟩,aq]) kR kR kR (by simp only[List.mem_cons,List.not_mem_nil,or_false];intro v hv;rcases hv with rfl|rfl|rfl|rfl|rfl<;>first|rfl|assumption) aI 2 rfl rfl ?_;intro w2 dY _ a2 ea _;refine aJ kR ?_;refine aY (d:=none) kR ea rfl ?_;show match ls 13 with|true=>_|false=>(∃(dj:Nat) (dB:Nat),_)
 rw[f13];exact⟨nL,nS,lv,jB,dY⟩;intro dM w_ ls vs bZ hJ bp bj hp hF;refine iW (g0:=none) ?_;replace hF:Fr dM 140 [(8,vs 11),(105,(.agg #[vI i.op,vI i.dst,vI i.n,vT i.name,vS rA i.args.length rc]))]:=hF.kp [8,105];have f12:ls 12=true:=aG bj (fun k hk=>(hp k hk).1) (n:=14) kR;have f13:ls 13=false:=bp;have f10:ls 10=true:=aG bj (fun k hk=>(hp k hk).1) (n:=14) kR;have f11:ls 11=true:=aG bj (fun k hk=>(hp k hk).1) (n:=14) kR;have aI:=hJ;simp only[f12,f13]at aI;obtain⟨nL,nS,lv,jB,aI⟩:=aI;try rw[lv]at hF
 try rw[jB]at hF
 refine fo (kR:ao _ 0=some (none,.store 39 (.tmp 8) (.tmp 105),0,none)) hF kR kR (k':=1) rfl (b:=nS) (t0:=39) (vs:=[vI i.op,vI i.dst,vI i.n,vT i.name,vS rA i.args.length rc]) (cs:=[vI 0,vI 0,vI 0,vT ⟨#[]⟩,aq]) kR kR kR (by simp only[List.mem_cons,List.not_mem_nil,or_false];intro v hv;rcases hv with rfl|rfl|rfl|rfl|rfl<;>first|rfl|assumption) aI 3 rfl rfl ?_;intro w2 dY _ a2 ea _;refine aJ kR ?_;refine aY (d:=none) kR ea rfl ?_;show∃(dj:Nat) (dB:Nat),_;exact⟨nL,nS,lv,jB,dY⟩;intro aC TF ls vs cA oI hv fr;simp only[show ls 13=true from cA 13 dQ]at oI;revert aC;refine cH [(2,pT b1 0),(3,pT b4 0),(6,nV m),(7,vs 10),(8,vs 11)] ?_;obtain⟨dj,dB,lv,jB,oI⟩:=oI;try rw[lv]
 try rw[jB]
 clear lv jB;clear cA hv fr aC pU;clear vs ls;refine aQ<|aj 1<|bq (aZ dj) _ (ae (oI.get 2 rfl) rfl)<|aj 1<|bq (aZ dB) _ (ae (oI.get 3 rfl) rfl)<|gC (i.op !=i.op) fun Gx vy=> ?_
 obtain rfl:Gx=false:=by have bW:¬((i.op:Int)≠i.op):=oM;first|exact vy.trans (decide_eq_true bW)|exact vy.trans (decide_eq_false bW)|exact vy.trans (beq_iff_eq.2 bW)|exact vy.trans (bne_iff_ne.2 bW)|exact vy.trans (Bool.eq_false_iff.2 (fun e=>bW (beq_iff_eq.1 e)))|exact vy.trans (Bool.eq_false_iff.2 (fun e=>bW (bne_iff_ne.1 e)))
 clear vy;refine aj 2<|bq (ak dj 1) _ (ae (oI.get 2 rfl) rfl)<|aj 1<|bq (ak dB 1) _ (ae (oI.get 3 rfl) rfl)<|gC (i.dst !=i.dst) fun B51 ph=> ?_
 obtain rfl:B51=false:=by have bW:¬((i.dst:Int)≠i.dst):=oM;first|exact ph.trans (decide_eq_true bW)|exact ph.trans (decide_eq_false bW)|exact ph.trans (beq_iff_eq.2 bW)|exact ph.trans (bne_iff_ne.2 bW)|exact ph.trans (Bool.eq_false_iff.2 (fun e=>bW (beq_iff_eq.1 e)))|exact ph.trans (Bool.eq_false_iff.2 (fun e=>bW (bne_iff_ne.1 e)))
 clear ph;refine aj 3<|bq (ak dj 2) _ (ae (oI.get 2 rfl) rfl)<|dX [2,3,6,7,8,118,120]<|aj 1<|bq (ak dB 2) _ (ae (oI.get 3 rfl) rfl)<|gC (i.n !=i.n) fun PS vz=> ?_
 obtain rfl:PS=false:=by have bW:¬((i.n:Int)≠i.n):=oM;first|exact vz.trans (decide_eq_true bW)|exact vz.trans (decide_eq_false bW)|exact vz.trans (beq_iff_eq.2 bW)|exact vz.trans (bne_iff_ne.2 bW)|exact vz.trans (Bool.eq_false_iff.2 (fun e=>bW (beq_iff_eq.1 e)))|exact vz.trans (Bool.eq_false_iff.2 (fun e=>bW (bne_iff_ne.1 e)))
 clear vz;refine aj 3<|bq (ak dj 3) _ (ae (oI.get 2 rfl) rfl)<|aj 1<|bq (ak dB 3) _ (ae (oI.get 3 rfl) rfl)<|aj 3 ?_;obtain⟨qC,iR⟩:∃B:Bool,B=(!((i.name:cV).toList==(i.name:cV).toList)):=⟨_,rfl⟩;refine cH [(2,pT b1 0),(3,pT b4 0),(6,nV m),(7,pT dj 0),(8,pT dB 0),(132,(vB (!((i.name:cV).toList==(i.name:cV).toList))))] ?_;rw[←iR];have xH:qC=true↔(¬((i.name).toList=(i.name).toList)):=by rw[iR];simp only[jy,beq_iff_eq]
 clear iR;intro aC fr;refine cE 1 28 [133] fr (news:=[(133,cond (!qC) (pT dj 4) undef)]) (by cases qC<;>kernel_rfl) ?_;intro aC fr;refine aw (B:=(!qC)) (d:=(some 134)) (vS i.A i.args.length i.c) fr (by cases qC<;>kernel_rfl) (fun hB hh=> ?_) ?_;cases qC<;>first|(exact absurd hB dQ)|skip
 have kK:¬(¬((i.name).toList=(i.name).toList)):=jb xH.2;exact bf (some 134) (ak dj 4) fr kR (vS i.A i.args.length i.c) (ae (oI.get 2 rfl) rfl) hh;intro aC fr;refine cE 1 30 [135] fr (news:=[(135,cond (!qC) (pT dB 4) undef)]) (by cases qC<;>kernel_rfl) ?_;intro aC fr;refine aw (B:=(!qC)) (d:=(some 136)) (vS rA i.args.length rc) fr (by cases qC<;>kernel_rfl) (fun hB hh=> ?_) ?_;cases qC<;>first|(exact absurd hB dQ)|skip
 have kK:¬(¬((i.name).toList=(i.name).toList)):=jb xH.2;exact bf (some 136) (ak dB 4) fr kR (vS rA i.args.length rc) (ae (oI.get 3 rfl) rfl) hh;intro aC fr;cases qC;have kK:¬(¬((i.name).toList=(i.name).toList)):=jb xH.2;revert aC;refine eY (iC i.args i.A rA i.c rc TF hio.len ((hA.inst hx VE).at_ oI) ((uK.inst hy PR).at_ oI)) ?_;rintro _ I7 ⟨rfl,Qcy⟩;have Cv:=oI.cl Qcy;refine aj 2<|aE<|fT<|cg<|dh<|aj 1<|cy ((m:Int)+1)<|aj 1<|aE ?_;intro aC fr;exact⟨us.length-(m+1),oM,m+1,rfl,fr.kp [2,3,6],(Cv.tk 2),oM⟩;have kK:(¬((i.name).toList=(i.name).toList)):=xH.1 rfl;exact absurd kK sI;refine gq 2<|gr<|bC<|an<|cQ (vB true) ?_;have DD:=pU.od [] 0;exact⟨rfl,DD⟩
theorem dF(nm:cV)(wk:Bool)(pa va:Int)(A:aX)(c:Nat)(fs:List ay)(gs:List ay)(A2:aX)(c2:Nat)(w:World)(hN:fs.length≤1000)(gx:pL fs)(Vh:ec fs gs)(hA:RO ba w (.fn A fs))(uK:RO ba w (.fn A2 gs)):Calls Try.prog 24 #[fA nm wk pa va A c fs,(.agg #[vT nm,vB wk,vI pa,vI va,vS A2 ((af gs).length) c2])] w (fE fun v w'=>v=vB true∧Mem ba w w' []):=by
 have wA:=bE fs;have hB:=hA.bs;have hbl2:=bE gs;have TI:=uK.bs;have MK:=Vh.len;refine hZ 60 [fA nm wk pa va A c fs,(.agg #[vT nm,vB wk,vI pa,vI va,vS A2 ((af gs).length) c2])] Try.func24 ?_;have hM:=Mem.init w;refine aQ<|nJ hM 24 (fA nm wk pa va A c fs) (fV nm wk pa va A c fs) fun b1 w2 kH M3=> ?_
 replace M3:=M3.nf;clear hM;refine nJ M3 24 (.agg #[vT nm,vB wk,vI pa,vI va,vS A2 ((af gs).length) c2]) [vT nm,vB wk,vI pa,vI va,vS A2 ((af gs).length) c2] fun b4 w5 LW M6=> ?_
 replace M6:=M6.nf;refine aj 1<|aE<|bx<|aQ<|aj 1<|bq (aZ b1) _ (ae (M6.get 0 rfl) rfl)<|aj 1<|bq (aZ b4) _ (ae (M6.get 1 rfl) rfl)<|aj 2 ?_;obtain⟨B7,wv⟩:∃B:Bool,B=(!((nm:cV).toList==(nm:cV).toList)):=⟨_,rfl⟩;refine cH [(2,pT b1 0),(3,pT b4 0),(11,(vB (!((nm:cV).toList==(nm:cV).toList))))] ?_;rw[←wv];have RL:B7=true↔(¬((nm).toList=(nm).toList)):=by rw[wv];simp only[jy,beq_iff_eq]
 clear wv;intro aC fr;refine cE 1 7 [12] fr (news:=[(12,cond (!B7) (pT b1 1) undef)]) (by cases B7<;>kernel_rfl) ?_;intro aC fr;refine aw (B:=(!B7)) (d:=(some 13)) (vB wk) fr (by cases B7<;>kernel_rfl) (fun hB hh=> ?_) ?_;cases B7<;>first|(exact absurd hB dQ)|skip
 have c7:¬(¬((nm).toList=(nm).toList)):=jb RL.2;exact bf (some 13) (ak b1 1) fr kR (vB wk) (ae (M6.get 0 rfl) rfl) hh;intro aC fr;refine cE 1 9 [14] fr (news:=[(14,cond (!B7) (pT b4 1) undef)]) (by cases B7<;>kernel_rfl) ?_;intro aC fr;refine aw (B:=(!B7)) (d:=(some 15)) (vB wk) fr (by cases B7<;>kernel_rfl) (fun hB hh=> ?_) ?_;cases B7<;>first|(exact absurd hB dQ)|skip
 have c7:¬(¬((nm).toList=(nm).toList)):=jb RL.2;exact bf (some 15) (ak b4 1) fr kR (vB wk) (ae (M6.get 1 rfl) rfl) hh;intro aC fr;refine cE 3 13 [17,18] fr (news:=[(17,(vB (B7||(!(wk==wk))))),(18,(vB (B7||(!(wk==wk)))))]) (by cases B7<;>kernel_rfl) ?_;intro aC fr;obtain⟨sy,Js⟩:∃B:Bool,B=(B7||(!(wk==wk))):=⟨_,rfl⟩;revert aC;refine cH [(2,pT b1 0),(3,pT b4 0),(18,(vB (B7||(!(wk==wk)))))] ?_;rw[←Js];have xJ:sy=true↔((¬((nm).toList=(nm).toList))∨(¬(wk=wk))):=by rw[Js];simp only[Bool.or_eq_true,jy,beq_iff_eq,RL]
 clear Js;intro aC fr;refine cE 1 14 [19] fr (news:=[(19,cond (!sy) (pT b1 2) undef)]) (by cases sy<;>kernel_rfl) ?_;intro aC fr;refine aw (B:=(!sy)) (d:=(some 20)) (vI pa) fr (by cases sy<;>kernel_rfl) (fun hB hh=> ?_) ?_;cases sy<;>first|(exact absurd hB dQ)|skip
 have zO:¬((¬((nm).toList=(nm).toList))∨(¬(wk=wk))):=jb xJ.2;exact bf (some 20) (ak b1 2) fr kR (vI pa) (ae (M6.get 0 rfl) rfl) hh;intro aC fr;refine cE 1 16 [21] fr (news:=[(21,cond (!sy) (pT b4 2) undef)]) (by cases sy<;>kernel_rfl) ?_;intro aC fr;refine aw (B:=(!sy)) (d:=(some 22)) (vI pa) fr (by cases sy<;>kernel_rfl) (fun hB hh=> ?_) ?_;cases sy<;>first|(exact absurd hB dQ)|skip
 have zO:¬((¬((nm).toList=(nm).toList))∨(¬(wk=wk))):=jb xJ.2;exact bf (some 22) (ak b4 2) fr kR (vI pa) (ae (M6.get 1 rfl) rfl) hh;intro aC fr;cases sy;have zO:¬((¬((nm).toList=(nm).toList))∨(¬(wk=wk))):=jb xJ.2;revert aC;refine gC (pa !=pa) fun vC qP=> ?_
 obtain rfl:vC=false:=by have bW:¬((pa:Int)≠pa):=oM;first|exact qP.trans (decide_eq_true bW)|exact qP.trans (decide_eq_false bW)|exact qP.trans (beq_iff_eq.2 bW)|exact qP.trans (bne_iff_ne.2 bW)|exact qP.trans (Bool.eq_false_iff.2 (fun e=>bW (beq_iff_eq.1 e)))|exact qP.trans (Bool.eq_false_iff.2 (fun e=>bW (bne_iff_ne.1 e)))
 clear qP;refine aj 3<|bq (ak b1 3) _ (ae (M6.get 0 rfl) rfl)<|aj 1<|bq (ak b4 3) _ (ae (M6.get 1 rfl) rfl)<|gC (va !=va) fun YL vD=> ?_
 obtain rfl:YL=false:=by have bW:¬((va:Int)≠va):=oM;first|exact vD.trans (decide_eq_true bW)|exact vD.trans (decide_eq_false bW)|exact vD.trans (beq_iff_eq.2 bW)|exact vD.trans (bne_iff_ne.2 bW)|exact vD.trans (Bool.eq_false_iff.2 (fun e=>bW (beq_iff_eq.1 e)))|exact vD.trans (Bool.eq_false_iff.2 (fun e=>bW (bne_iff_ne.1 e)))
 clear vD;refine aj 3<|bq (ak b1 4) _ (ae (M6.get 0 rfl) rfl)<|dX [2,3,32,34]<|aj 2<|bq (ak b4 4) _ (ae (M6.get 1 rfl) rfl)<|aj 1<|gC (((af fs).length:Int) !=((af gs).length:Int)) fun bN qQ=> ?_
 obtain rfl:bN=false:=by have bW:¬((((af fs).length:Int):Int)≠((af gs).length:Int)):=oM;first|exact qQ.trans (decide_eq_true bW)|exact qQ.trans (decide_eq_false bW)|exact qQ.trans (beq_iff_eq.2 bW)|exact qQ.trans (bne_iff_ne.2 bW)|exact qQ.trans (Bool.eq_false_iff.2 (fun e=>bW (beq_iff_eq.1 e)))|exact qQ.trans (Bool.eq_false_iff.2 (fun e=>bW (bne_iff_ne.1 e)))
 clear qQ;refine aj 1<|aE<|fT<|cg<|bx<|bC<|cK 0 ?_;intro aC fr;refine gT (fun n_ a_ w_=>∃(k:Nat),n_=fs.length-k∧Fr a_ 60 [(2,pT b1 0),(3,pT b4 0),(5,nV k)]∧Mem ba w w_ [.au b1 24 (fV nm wk pa va A c fs),.au b4 24 [vT nm,vB wk,vI pa,vI va,vS A2 ((af gs).length) c2]]∧(k≤fs.length)) (n:=_) ⟨0,rfl,fr.kp [2,3,5],M6,oM⟩ ?_;clear fr aC M6;rintro n aC LU ⟨k,rfl,fr,me,hk⟩;revert aC;refine bx<|aQ<|aj 2<|bq (ak b1 4) _ (ae (me.get 0 rfl) rfl)<|aj 2<|aE<|jg ((k:Int)<((af fs).length:Int)) (fun VF=> ?_) (fun VF=> ?_);refine cg<|bx<|cK 1<|bx ?_;obtain⟨x,hx⟩:=bu (l:=fs) (i:=k) oM;obtain⟨A1,c1,ps,A3,c3,is,hy,UN,UO⟩:=rN Vh hx;have UQ:=gx x (List.mem_of_getElem? hx);obtain⟨yt,rfl⟩:=dN (me.ro hB) (gv hx);obtain⟨xK,rfl⟩:=dN (me.ro TI) (gv hy);refine dX [2,3,5] ?_;intro aC fr;refine Yg 10 (bL [eR b1 4,eS (some yt) ((af fs).length) c,.bg (nV k),eA yt (k:Int) 6,.bg (xA x),eR b4 4,eS (some xK) ((af gs).length) c2,.bg (nV k),eA xK (k:Int) 6,.bg (.agg #[vS A1 ps.length c1,vS A3 is.length c3,vI x.e,vI x.v,vI x.a,vI x.b])]) fr (rY (tZ lz dP (dL (ak b1 4) _ fun w_ hK=>(ae ((me.aD hK).get 0 rfl) rfl)) dP (dI yt ((af fs).length) 6 (k:Int)) (dS (aN yt (k:Int) 6) (xV x) fun w_ hK=>(cZ ((me.aD hK).ro hB) rfl hx)) dP (dL (ak b4 4) _ fun w_ hK=>(ae ((me.aD hK).get 1 rfl) rfl)) dP) (dI xK ((af gs).length) 6 (k:Int)) (dS (aN xK (k:Int) 6) [vS A1 ps.length c1,vS A3 is.length c3,vI x.e,vI x.v,vI x.a,vI x.b] fun w_ hK=>(cZ ((me.aD hK).ro TI) rfl hy))) ?_;intro aC Vf vs hK hv fr;revert aC;refine cH [(2,pT b1 0),(3,pT b4 0),(5,nV k),(52,xA x),(57,(.agg #[vS A1 ps.length c1,vS A3 is.length c3,vI x.e,vI x.v,vI x.a,vI x.b]))] ?_;have ER:=me.aD hK;clear hK hv fr aC me;clear vs;refine eY (vs:=#[xA x,(.agg #[vS A1 ps.length c1,vS A3 is.length c3,vI x.e,vI x.v,vI x.a,vI x.b])]) (ld fs gs _ _ k x.pA x.pc x.ah x.iA x.ic x.insts x.e x.v x.a x.b A1 c1 ps A3 c3 is Vf UQ (hA.at_ ER) hx (uK.at_ ER) hy UN UO) ?_;rintro _ bO ⟨rfl,Qcz⟩;have ES:=ER.cl Qcz;refine aj 1<|aE<|fT<|cg<|dh<|aj 1<|cy ((k:Int)+1)<|aj 1<|aE ?_;intro aC fr;exact⟨fs.length-(k+1),oM,k+1,rfl,fr.kp [2,3,5],ES,oM⟩;refine gq 0<|gr<|bC<|an<|cQ (vB true) ?_;have L4:=me.od [] 0;exact⟨rfl,L4⟩;have zO:((¬((nm).toList=(nm).toList))∨(¬(wk=wk))):=xJ.1 rfl;exact absurd zO sI
end Go.Proofs.Ytejbeeaomokjpaa
namespace Go.Mor
open Go.RowKit
section
variable {T : Int → List Int}
theorem EL{U:Int→ar}(h:∀x t,t∈U x→t∈T x){x:Int}(hr:Reach U x):Reach T x:=by
 induction hr with
 |zero=>exact .zero
 |step _ ht ih=>exact .step ih (h _ _ ht)
end
section
variable {fs : List ay} {nm : ByteArray} {pa va : Int}
abbrev Av(pa va:Int)(fs:List ay)(v b q:Int):Prop:=bX (Dm (tg (af fs))) pa va (bF fs) v b q
theorem Rn(h:j9 nm pa va fs){b:Int}(h0:0≤b)(h1:b<fs.length):Reach (tg (af fs)) b:=by
 have h2:=mv (bs:=af fs);rw[bE]at h2;have:=jO.1 (h2.1 h.all b.toNat oM);rwa [Int.toNat_of_nonneg h0]at this
end
end Go.Mor
namespace Go.Mor
open Go.RowKit
def Pb(x:ay):Prop:=x.e=1∨(x.e=2∧0≤x.v)
instance (x : ay) : Decidable (Pb x) := by unfold Pb; infer_instance
end Go.Mor
namespace Go.Mor
open Go.RowKit
section
variable {P : Program} {t : TypeId} {f0 f1 f2 f3 f4 : Field}
abbrev K5:=Int×Int×cV×Int×Int
end
end Go.Mor
namespace Go.Mor
open Go.RowKit
abbrev yu:=K5
section
variable {fs : List ay} {nm : ByteArray} {pa va : Int} {σ : Int → Int} {k j : Nat} {x : ay} {vg : List (yu × Int)}
theorem uh{α β:Type}(f:β→α→β)(a:β){l:List α}{j:Nat}{y:α}(hy:l[j]?=some y):(l.take (j+1)).foldl f a=f ((l.take j).foldl f a) y:=by
 obtain⟨hj,he⟩:=List.getElem?_eq_some_iff.1 hy;rw[List.take_succ_eq_append_getElem hj,List.foldl_append,he];rfl
end
end Go.Mor
namespace Go.Mor
open Go.RowKit
theorem BW{α:Type}{l:List α}{j:Nat}{x:α}(h:l[j]?=some x):l.drop j=x::l.drop (j+1):=by
 obtain⟨hk,he⟩:=List.getElem?_eq_some_iff.1 h;rw[List.drop_eq_getElem_cons hk,he]
end Go.Mor
namespace Go.Mor
open Go.RowKit
def Li(x:bz):Prop:=x.e=1∨(x.e=2∧0≤x.v)
instance (x : bz) : Decidable (Li x) := by unfold Li; infer_instance
end Go.Mor
namespace Go.Mor
open Go.RowKit
end Go.Mor
namespace Go.Mor
open Go.RowKit
end Go.Mor
namespace Go.Mor
open Go.RowKit
end Go.Mor
namespace Go.Mor
open Go.RowKit
end Go.Mor
namespace Go.Mor
open Go.RowKit
theorem Qeg(gl:List Bool){a b:Nat}(h:a≤b):rK gl a≤rK gl b:=by
 unfold rK;have e:gl.take a=(gl.take b).take a:=by rw[List.take_take,Nat.min_eq_left h]
 rw[e];exact((List.take_sublist a (gl.take b)).filter _).length_le
theorem QbK(b:Bool)(gl:List Bool)(i:Nat):rK (b::gl) (i+1)=(if b then 0 else 1)+rK gl i:=by
 unfold rK;cases b<;>simp<;>omega
abbrev fK(ks:List gO):List ay:=ks.map gO.f
abbrev tK(ks:List gO):Int→ar:=tg (af (fK ks))
def F2(ks:List gO)(t:Int):Int:=(ve (nh ks)).getD t.toNat 0
def mB(ks:List gO)(t:Int):Prop:=∃(i:Nat) (x:gO),t=(i:Int)∧ks[i]?=some x∧x.gone=false
section
variable {ks : List gO} {i j : Nat} {x y : gO}
theorem QcY(ks:List gO)(n:Nat):(pP (ks.take n)).length=rK (nh ks) n:=by
 unfold rK pP nh;rw[←List.map_take,List.filter_map,List.length_map];rfl
theorem QfN(hx:ks[i]?=some x)(hg:x.gone=false):(pP ks)[rK (nh ks) i]?=some x:=by
 have e:pP ks=pP (ks.take i)++(x::pP (ks.drop (i+1))):=by
  conv=>lhs;rw[←List.take_append_drop i ks,BW hx]
  unfold pP;rw[List.filter_append,List.filter_cons,hg];rfl
 rw[e,List.getElem?_append_right (by rw[QcY];exact Nat.le_refl _),QcY,Nat.sub_self];rfl
theorem TA:∀{ks:List gO} {j:Nat},(pP ks)[j]?=some x→∃i,ks[i]?=some x∧x.gone=false∧rK (nh ks) i=j
 |[],j,h=>by simp[pP]at h
 |y::ks,j,h=>by
  cases hg:y.gone with
  |true=>
   have e:pP (y::ks)=pP ks:=by unfold pP;rw[List.filter_cons,hg];rfl
   rw[e]at h;obtain⟨i,h1,h2,h3⟩:=TA h;refine⟨i+1,h1,h2,?_⟩;show rK (y.gone::nh ks) (i+1)=j;rw[QbK,hg,h3];simp
  |false=>
   have e:pP (y::ks)=y::pP ks:=by unfold pP;rw[List.filter_cons,hg];rfl
   rw[e]at h;cases j with
   |zero=>
    injection h with h;subst h;exact⟨0,rfl,hg,rfl⟩
   |succ j=>
    obtain⟨i,h1,h2,h3⟩:=TA (ks:=ks) (j:=j) h;refine⟨i+1,h1,h2,?_⟩;show rK (y.gone::nh ks) (i+1)=j+1;rw[QbK,hg,h3];simp;omega
theorem QcZ(hx:ks[i]?=some x):(nh ks)[i]?=some x.gone:=by
 unfold nh;rw[List.getElem?_map,hx];rfl
theorem QdY(hx:ks[i]?=some x)(hg:x.gone=false)(h:i<j):rK (nh ks) i<rK (nh ks) j:=by
 have h1:=Jh (by rw[QcZ hx,hg]:(nh ks)[i]?=some false);have h2:=Qeg (nh ks) (show i+1≤j by omega);omega
theorem K2(hx:ks[i]?=some x)(hg:x.gone=false):F2 ks (i:Int)=(rK (nh ks) i:Int):=by
 have hl:i<(nh ks).length:=by rw[xP];exact(List.getElem?_eq_some_iff.1 hx).1
 unfold F2 ve;rw[Int.toNat_natCast,BG hl,if_pos ⟨hl,by rw[List.getD_eq_getElem?_getD,QcZ hx,hg];rfl⟩]
theorem mB.mk'(hx:ks[i]?=some x)(hg:x.gone=false):mB ks (i:Int):=⟨i,x,rfl,hx,hg⟩
theorem D9{a b:Int}(ha:mB ks a)(hb:mB ks b)(h:F2 ks a=F2 ks b):a=b:=by
 obtain⟨i,x,rfl,hx,uC⟩:=ha;obtain⟨j,y,rfl,hy,hgy⟩:=hb;rw[K2 hx uC,K2 hy hgy]at h;rcases Nat.lt_trichotomy i j with h1|h1|h1
 ·have:=QdY hx uC h1;omega
 ·rw[h1]
 ·have:=QdY hy hgy h1;omega
theorem XP(h:mB ks 0):F2 ks 0=0:=by
 obtain⟨i,x,h0,hx,hg⟩:=h;have:i=0:=oM;subst this;have:=K2 hx hg;rw[show((0:Nat):Int)=0 from rfl]at this;rw[this];simp[rK]
end
structure Pf(ks:List gO):Prop where
 zero:mB ks 0
 ends:∀x,x∈ks→x.gone=false→Jn (ks.length:Int) x
 gone:∀x,x∈ks→x.gone=true→x.ah=[]∧x.insts=[]∧x.e=2∧x.v= -1
 vj:∀s t:Int,t∈tK ks s→mB ks t
theorem QeC(ks:List gO):(af (fK ks)).length=ks.length:=by rw[bE,List.length_map]
theorem K3{ks:List gO}{i:Nat}{x:gO}(hx:ks[i]?=some x):(fK ks)[i]?=some x.f:=by rw[List.getElem?_map,hx];rfl
theorem NL{ks:List gO}{i:Nat}{y:ay}(hx:(fK ks)[i]?=some y):∃x,ks[i]?=some x∧y=x.f:=by
 rw[List.getElem?_map,Option.map_eq_some_iff]at hx;obtain⟨x,hx,rfl⟩:=hx;exact⟨x,hx,rfl⟩
theorem Xj{ks:List gO}{i:Nat}{x:gO}(hx:ks[i]?=some x):tK ks (i:Int)=zH ks.length x.f.sb:=by
 show tg (af (fK ks)) (i:Int)=_;rw[wW oM (by rw[Int.toNat_natCast];exact gv (K3 hx)),QeC]
theorem ZC{ks:List gO}{s t:Int}(h:t∈tK ks s):∃(i:Nat) (x:gO),s=(i:Int)∧ks[i]?=some x:=by
 have hr:0≤s∧s<(ks.length:Int):=by apply Classical.byContradiction;intro hc;have:tK ks s=[]:=uI (by rw[QeC];omega);rw[this]at h;cases h
 obtain⟨x,hx⟩:=bu (l:=ks) (i:=s.toNat) oM;exact⟨s.toNat,x,oM,hx⟩
theorem NM{n:Nat}{t:Int}(h0:0≤t)(h1:t<(n:Int)):gU n t=true:=by unfold gU;simp[h0,h1]
def wL(x:gO):ar:=if x.e=0 then[x.a]else if x.e=1 then[x.a,x.b]else[]
theorem Qc0{n:Nat}{x:gO}(h:Jn (n:Int) x):zH n x.f.sb=wL x:=by
 show(if x.e=0 then[x.a]else if x.e=1 then(if x.a=x.b then[x.a]else[x.a,x.b])else[]).filter (gU n)=_;unfold wL;rcases h with⟨e,⟨h1,h2⟩,_⟩|⟨e,⟨h1,h2⟩,⟨h3,h4⟩,h5⟩|⟨e,_⟩|⟨e,_⟩
 ·rw[if_pos e,if_pos e];simp[NM h1 h2]
 ·rw[if_neg oM,if_pos e,if_neg h5,if_neg oM,if_pos e];simp[NM h1 h2,NM h3 h4]
 ·rw[if_neg oM,if_neg oM,if_neg oM,if_neg oM];rfl
 ·rw[if_neg oM,if_neg oM,if_neg oM,if_neg oM];rfl
theorem Qd{n:Nat}{x:gO}(h:x.e=2):zH n x.f.sb=[]:=by
 show(if x.e=0 then[x.a]else if x.e=1 then(if x.a=x.b then[x.a]else[x.a,x.b])else[]).filter (gU n)=_;rw[if_neg oM,if_neg oM];rfl
theorem Pf.at_{ks:List gO}(hc:Pf ks){i:Nat}{x:gO}(hx:ks[i]?=some x):tK ks (i:Int)=wL x:=by
 rw[Xj hx];cases hg:x.gone with
 |true=>
  have h:=(hc.gone x (List.mem_of_getElem? hx) hg).2.2.1;rw[Qd h];unfold wL;rw[if_neg oM,if_neg oM]
 |false=>exact Qc0 (hc.ends x (List.mem_of_getElem? hx) hg)
theorem Pf.src{ks:List gO}(hc:Pf ks){s t:Int}(h:t∈tK ks s):mB ks s:=by
 obtain⟨i,x,rfl,hx⟩:=ZC h;cases hg:x.gone with
 |false=>exact .mk' hx hg
 |true=>
  have h2:=(hc.gone x (List.mem_of_getElem? hx) hg).2.2.1;rw[Xj hx,Qd h2]at h;cases h
section
variable {ks : List gO} {fs : List ay} {x : gO} {y : ay}
theorem Qc1(ht:Yi ks fs){i:Nat}{x:gO}(hx:ks[i]?=some x)(hg:x.gone=false):∃y,fs[rK (nh ks) i]?=some y∧iM (ve (nh ks)) x y:=by
 have h1:=QfN hx hg;obtain⟨y,hy⟩:=bu (l:=fs) (i:=rK (nh ks) i) (by rw[←ht.1];exact(List.getElem?_eq_some_iff.1 h1).1);exact⟨y,hy,ht.2 _ _ _ h1 hy⟩
theorem BJ(ht:Yi ks fs){j:Nat}{y:ay}(hy:fs[j]?=some y):∃i x,ks[i]?=some x∧x.gone=false∧rK (nh ks) i=j∧iM (ve (nh ks)) x y:=by
 obtain⟨x,hx⟩:=bu (l:=pP ks) (i:=j) (by rw[ht.1];exact(List.getElem?_eq_some_iff.1 hy).1);obtain⟨i,h1,h2,h3⟩:=TA hx;exact⟨i,x,h1,h2,h3,ht.2 _ _ _ hx hy⟩
theorem Pg(ht:Yi ks fs){t:Int}(h:mB ks t):0≤F2 ks t∧F2 ks t<(fs.length:Int):=by
 obtain⟨i,x,rfl,hx,hg⟩:=h;obtain⟨y,hy,_⟩:=Qc1 ht hx hg;have:=(List.getElem?_eq_some_iff.1 hy).1;rw[K2 hx hg];omega
theorem Qc3(hc:Pf ks)(ht:Yi ks fs){i:Int}(hi:mB ks i):tg (af fs) (F2 ks i)=(tK ks i).map (F2 ks):=by
 obtain⟨i,x,rfl,hx,hg⟩:=hi;obtain⟨y,hy,hb⟩:=Qc1 ht hx hg;have hL:∀t,t∈tK ks (i:Int)→mB ks t:=fun t h=>hc.vj _ _ h
 rw[hc.at_ hx]at hL⊢;rw[K2 hx hg,wW oM (by rw[Int.toNat_natCast];exact gv hy),bE];show(if y.e=0 then[y.a]else if y.e=1 then(if y.a=y.b then[y.a]else[y.a,y.b])else[]).filter (gU fs.length)=_;rw[hb.e,hb.a,hb.b];unfold wL at hL⊢;rcases hc.ends x (List.mem_of_getElem? hx) hg with⟨e,⟨h1,h2⟩,_⟩|⟨e,⟨h1,h2⟩,⟨h3,h4⟩,h5⟩|⟨e,_⟩|⟨e,_⟩
 ·rw[if_pos e]at hL;have ha:=Pg ht (hL x.a sI);have ea:toA (ve (nh ks)) x.e x.a=F2 ks x.a:=by unfold toA;rw[if_pos (Or.inl e)];rfl
  rw[if_pos e,if_pos e,ea];have i1:gU fs.length (F2 ks x.a)=true:=NM ha.1 ha.2;rw[List.filter_cons,i1];rfl
 ·rw[if_neg oM,if_pos e]at hL;have ea:toA (ve (nh ks)) x.e x.a=F2 ks x.a:=by unfold toA;rw[if_pos (Or.inr e)];rfl
  have eb:toBb (ve (nh ks)) x.e x.b=F2 ks x.b:=by unfold toBb;rw[if_pos e];rfl
  have la:=hL x.a sI;have lb:=hL x.b sI;have ha:=Pg ht la;have X2:=Pg ht lb;have i1:gU fs.length (F2 ks x.a)=true:=NM ha.1 ha.2;have i2:gU fs.length (F2 ks x.b)=true:=NM X2.1 X2.2;have cU:F2 ks x.a≠F2 ks x.b:=fun e=>h5 (D9 la lb e)
  have e0:¬x.e=0:=oM;rw[ea,eb,if_neg e0,if_pos e,if_neg cU,if_neg e0,if_pos e,List.filter_cons,i1,if_pos rfl,List.filter_cons,i2];rfl
 ·have e0:¬x.e=0:=oM;have e1:¬x.e=1:=oM;rw[if_neg e0,if_neg e1,if_neg e0,if_neg e1];rfl
 ·have e0:¬x.e=0:=oM;have e1:¬x.e=1:=oM;rw[if_neg e0,if_neg e1,if_neg e0,if_neg e1];rfl
theorem Qc5{U U':Int→ar}(h0:mB ks 0)(hU:∀i,mB ks i→U' (F2 ks i)=(U i).map (F2 ks))(hL:∀i t,t∈U i→mB ks t){i:Int}(h:Reach U i):Reach U' (F2 ks i)∧mB ks i:=by
 induction h with
 |zero=>exact⟨by rw[XP h0];exact .zero,h0⟩
 |step _ ht ih=>exact⟨.step ih.1 (by rw[hU _ ih.2];exact List.mem_map.2 ⟨_,ht,rfl⟩),hL _ _ ht⟩
theorem QeD{U U':Int→ar}(h0:mB ks 0)(hU:∀i,mB ks i→U' (F2 ks i)=(U i).map (F2 ks))(hL:∀i t,t∈U i→mB ks t){j:Int}(h:Reach U' j):∃i,mB ks i∧Reach U i∧F2 ks i=j:=by
 induction h with
 |zero=>exact⟨0,h0,.zero,XP h0⟩
 |step _ ht ih=>
  obtain⟨i,h1,h2,rfl⟩:=ih;rw[hU _ h1]at ht;obtain⟨t,h3,rfl⟩:=List.mem_map.1 ht;exact⟨t,hL _ _ h3,.step h2 h3,rfl⟩
theorem QeE(hc:Pf ks)(ht:Yi ks fs){a:Int}(ha:mB ks a){i:Int}(hi:mB ks i):Cq (tg (af fs)) (F2 ks a) (F2 ks i)=(Cq (tK ks) a i).map (F2 ks):=by
 unfold Cq;rw[Qc3 hc ht hi,List.filter_map];congr 1;refine List.filter_congr fun t h=> ?_
 have hl:=hc.vj _ _ h;show(!(F2 ks t==F2 ks a))=!(t==a);by_cases e:t=a
 ·rw[e,beq_self_eq_true,beq_self_eq_true]
 ·have:F2 ks t≠F2 ks a:=fun h=>e (D9 hl ha h)
  rw[beq_false_of_ne this,beq_false_of_ne e]
theorem Qhn(hc:Pf ks)(ht:Yi ks fs){a b:Int}(ha:mB ks a)(hb:mB ks b):Dm (tg (af fs)) (F2 ks a) (F2 ks b)↔Dm (tK ks) a b:=by
 have hL:∀i t:Int,t∈Cq (tK ks) a i→mB ks t:=fun i t h=>hc.vj _ _ (im.1 h).1
 have hz:=XP hc.zero;have e0:F2 ks a≠0↔a≠0:=by refine not_congr ⟨fun h=>D9 ha hc.zero (h.trans hz.symm),fun h=>by rw[h];exact hz⟩
 unfold Dm;refine not_congr (and_congr e0 ⟨fun h=> ?_,fun h=>(Qc5 hc.zero (fun i hi=>QeE hc ht ha hi) hL h).1⟩);obtain⟨i,h1,h2,h3⟩:=QeD hc.zero (fun i hi=>QeE hc ht ha hi) hL h;rwa [D9 h1 hb h3]at h2
theorem QeF(hb:iM (ve (nh ks)) x y){v:Int}:(∃p,p∈y.ah∧p.dst=v)↔∃p,p∈x.ah∧p.dst=v:=by
 obtain⟨hl,hp⟩:=hb.ah;constructor
 ·rintro⟨q,hq,rfl⟩;obtain⟨j,hj⟩:=List.mem_iff_getElem?.1 hq;obtain⟨p,ZI⟩:=bu (l:=x.ah) (i:=j) (by rw[hl];exact(List.getElem?_eq_some_iff.1 hj).1);exact⟨p,List.mem_of_getElem? ZI,(hp j p q ZI hj).1.symm⟩
 ·rintro⟨p,jL,rfl⟩;obtain⟨j,hj⟩:=List.mem_iff_getElem?.1 jL;obtain⟨q,jo⟩:=bu (l:=y.ah) (i:=j) (by rw[←hl];exact(List.getElem?_eq_some_iff.1 hj).1);exact⟨q,List.mem_of_getElem? jo,(hp j p q hj jo).1⟩
theorem QeI(hb:iM (ve (nh ks)) x y){j:Nat}{i:aO}(hi:y.insts[j]?=some i):x.insts[j]?=some i.e0:=by
 rw[←hb.insts,List.getElem?_map,hi];rfl
theorem QfO(hb:iM (ve (nh ks)) x y){j:Nat}{i:aO}(hi:x.insts[j]?=some i):∃i',y.insts[j]?=some i'∧i'.e0=i:=by
 rw[←hb.insts,List.getElem?_map,Option.map_eq_some_iff]at hi;exact hi
theorem QdZ(ht:Yi ks fs){v c m:Int}:(v,c,m)∈bF fs↔∃b,mB ks b∧F2 ks b=c∧(v,b,m)∈bF (fK ks):=by
 rw[sq];constructor
 ·rintro⟨k,y,hy,rfl,h⟩;obtain⟨i,x,hx,hg,YO,hb⟩:=BJ ht hy;refine⟨i,.mk' hx hg,by rw[K2 hx hg,YO],sq.2 ⟨i,x.f,K3 hx,rfl,?_⟩⟩;rcases h with⟨h1,h2⟩|⟨j,a,h1,h2,h3,h4⟩
  ·obtain⟨p,hp,hd⟩:=(QeF hb).1 h2;exact .inl ⟨h1,_,List.mem_map.2 ⟨p,hp,rfl⟩,hd⟩
  ·exact .inr ⟨j,a.e0,QeI hb h1,h2,h3,h4⟩
 ·rintro⟨b,⟨i,x,rfl,hx,hg⟩,rfl,h⟩;obtain⟨k,z,hz,hk,h⟩:=sq.1 h;obtain⟨x',yk,rfl⟩:=NL hz;have:k=i:=oM;subst this;rw[hx]at yk;injection yk with yk;subst yk;obtain⟨y,hy,hb⟩:=Qc1 ht hx hg;refine⟨_,y,hy,K2 hx hg,?_⟩;rcases h with⟨h1,p,hp,h2⟩|⟨j,a,h1,h2,h3,h4⟩
  ·obtain⟨q,hq,rfl⟩:=List.mem_map.1 hp;exact .inl ⟨h1,(QeF hb).2 ⟨q,hq,h2⟩⟩
  ·obtain⟨a',nQ,e⟩:=QfO hb h1;subst e;exact .inr ⟨j,a',nQ,h2,h3,h4⟩
theorem QgK(hb:iM (ve (nh ks)) x y):nu y=nu x.f:=by
 obtain⟨hl,hp⟩:=hb.ah;unfold nu;congr 1
 ·show _=(x.ah.map _).map _;rw[List.map_map];refine List.ext_getElem? fun j=> ?_
  rw[List.getElem?_map,List.getElem?_map];by_cases hj:j<x.ah.length
  ·obtain⟨p,ZI⟩:=bu (l:=x.ah) hj;obtain⟨q,jo⟩:=bu (l:=y.ah) (i:=j) oM;rw[ZI,jo];exact sZ some (hp j p q ZI jo).1
  ·rw[List.getElem?_eq_none oM,List.getElem?_eq_none oM];rfl
 ·show _=(x.insts.filter _).map _;rw[←hb.insts,List.filter_map,List.map_map];rfl
theorem QeK(ks:List gO):((pP ks).flatMap (fun x=>nu x.f)).Sublist (ks.flatMap (fun x=>nu x.f)):=by
 induction ks with
 |nil=>exact .slnil
 |cons x ks ih=>
  cases hg:x.gone with
  |true=>
   have e:pP (x::ks)=pP ks:=by unfold pP;rw[List.filter_cons,hg];rfl
   rw[e,List.flatMap_cons];exact ih.trans (List.sublist_append_right _ _)
  |false=>
   have e:pP (x::ks)=x::pP ks:=by unfold pP;rw[List.filter_cons,hg];rfl
   rw[e,List.flatMap_cons,List.flatMap_cons];exact(List.Sublist.refl _).append ih
theorem QgL(ht:Yi ks fs):fs.flatMap nu=(pP ks).flatMap (fun x=>nu x.f):=by
 rw[List.flatMap_def,List.flatMap_def];congr 1;refine List.ext_getElem? fun j=> ?_
 rw[List.getElem?_map,List.getElem?_map];by_cases hj:j<fs.length
 ·obtain⟨y,hy⟩:=bu (l:=fs) hj;obtain⟨x,hx⟩:=bu (l:=pP ks) (i:=j) (by rw[ht.1];exact hj);rw[hx,hy];exact sZ some (QgK (ht.2 _ _ _ hx hy))
 ·rw[List.getElem?_eq_none oM,List.getElem?_eq_none (by rw[ht.1];omega)];rfl
theorem Qd0{pa va:Int}(ht:Yi ks fs)(h:ey pa va (bF (fK ks))):ey pa va (bF fs):=by
 refine⟨fun d hd=> ?_,?_⟩
 ·obtain⟨v,c,m⟩:=d;obtain⟨b,_,_,h1⟩:=(QdZ ht).1 hd;exact h.1 (v,b,m) h1
 ·have h2:=h.2;rw[pf]at h2⊢;rw[QgL ht];refine h2.sublist ?_;rw[show fK ks=ks.map gO.f from rfl,List.flatMap_map];exact QeK ks
theorem QeN(g:gO→Nat)(ks:List gO):((pP ks).map g).sum≤(ks.map g).sum:=by
 induction ks with
 |nil=>exact Nat.le_refl _
 |cons x ks ih=>
  cases hg:x.gone with
  |true=>
   have e:pP (x::ks)=pP ks:=by unfold pP;rw[List.filter_cons,hg];rfl
   rw[e,List.map_cons,List.sum_cons];omega
  |false=>
   have e:pP (x::ks)=x::pP ks:=by unfold pP;rw[List.filter_cons,hg];rfl
   rw[e,List.map_cons,List.sum_cons,List.map_cons,List.sum_cons];omega
theorem QbL(fs:List ay):hY fs=fs.length+(fs.map (fun x=>x.ah.length+x.insts.length)).sum:=by
 unfold hY jl;rw[List.take_of_length_le (Nat.le_refl _)]
theorem QeO(ht:Yi ks fs):hY fs=(pP ks).length+((pP ks).map (fun x=>x.ah.length+x.insts.length)).sum:=by
 rw[QbL,ht.1];congr 2;refine List.ext_getElem? fun j=> ?_
 rw[List.getElem?_map,List.getElem?_map];by_cases hj:j<fs.length
 ·obtain⟨y,hy⟩:=bu (l:=fs) hj;obtain⟨x,hx⟩:=bu (l:=pP ks) (i:=j) (by rw[ht.1];exact hj);have hb:=ht.2 _ _ _ hx hy;rw[hx,hy,Option.map_some,Option.map_some,←hb.ah.1,←hb.insts,List.length_map]
 ·rw[List.getElem?_eq_none oM,List.getElem?_eq_none (by rw[ht.1];omega)];rfl
theorem vR(ks:List gO):hY (fK ks)=ks.length+(ks.map (fun x=>x.ah.length+x.insts.length)).sum:=by
 rw[QbL,List.length_map,List.map_map];congr 2;refine List.map_congr_left fun x _=> ?_
 show(x.ah.map _).length+_=_;rw[List.length_map];rfl
theorem QfP(ht:Yi ks fs):hY fs≤hY (fK ks):=by
 rw[QeO ht,vR];have h1:(pP ks).length≤ks.length:=List.length_filter_le _ _;have h2:=QeN (fun x=>x.ah.length+x.insts.length) ks;omega
end
end Go.Mor
namespace Go.Mor
open Go.RowKit
theorem Qdy:∀{l m:ar},l.Pairwise (·<·)→m.Pairwise (·<·)→(∀a,a∈l↔a∈m)→l=m
 |[],[],_,_,_=>rfl
 |[],b::m,_,_,h=>absurd ((h b).2 (List.mem_cons_self ..)) List.not_mem_nil
 |a::l,[],_,_,h=>absurd ((h a).1 (List.mem_cons_self ..)) List.not_mem_nil
 |a::l,b::m,hl,hm,h=>by
  obtain⟨h1,h2⟩:=List.pairwise_cons.1 hl;obtain⟨h3,h4⟩:=List.pairwise_cons.1 hm;have e:a=b:=by
   rcases List.mem_cons.1 ((h a).1 (List.mem_cons_self ..))with e|ha
   ·exact e
   rcases List.mem_cons.1 ((h b).2 (List.mem_cons_self ..))with e|hb
   ·exact e.symm
   have:=h1 b hb;have:=h3 a ha;omega
  subst e;rw[Qdy h2 h4 fun c=> ?_];constructor
  ·intro hc;rcases List.mem_cons.1 ((h c).1 (List.mem_cons_of_mem _ hc))with e|h5
   ·subst e;have:=h1 c hc;omega
   ·exact h5
  ·intro hc;rcases List.mem_cons.1 ((h c).2 (List.mem_cons_of_mem _ hc))with e|h5
   ·subst e;have:=h3 c hc;omega
   ·exact h5
abbrev rX(pa va:Int)(ks:List gO)(v b q:Int):Prop:=bX (Dm (tK ks)) pa va (bF (fK ks)) v b q
structure QhX(pa va:Int)(ks:List gO)(k:Nat)(p:vb):Prop where
 len:p.args.length=p.from_.length
 nd:p.from_.Nodup
 yW:∀s,s∈p.from_→0≤s∧s<(ks.length:Int)
 all:∀s:Int,(k:Int)∈tK ks s→s∈p.from_
 yc:∀a,a∈p.args→0≤a∧a<va
 av:∀(i:Nat) (s a:Int),p.from_[i]?=some s→p.args[i]?=some a→Reach (tK ks) s→(k:Int)∈tK ks s→rX pa va ks a s 20000
structure vU(nm:cV)(pa va:Int)(ks:List gO):Prop where
 UT:Pf ks
 name:bt nm
 par:0≤pa∧pa≤16∧pa≤va
 uJ:∀x,ks[0]?=some x→x.ah=[]
 QgM:∀s:Int,¬(0:Int)∈tK ks s
 Xv:∀x,x∈ks→∀i,i∈x.insts→bJ i
 once:ey pa va (bF (fK ks))
 iv:∀x,x∈ks→∀i,i∈x.insts→∀a,a∈i.args→0≤a∧a<va
 fv:∀x,x∈ks→(x.e=1∨(x.e=2∧x.v≠-1))→0≤x.v∧x.v<va
 ins:∀(k:Nat) (x:gO),ks[k]?=some x→Reach (tK ks) (k:Int)→∀(j:Nat) (i:aO),x.insts[j]?=some i→∀a,a∈i.args→rX pa va ks a (k:Int) (j:Int)
 fin:∀(k:Nat) (x:gO),ks[k]?=some x→Reach (tK ks) (k:Int)→(x.e=1∨(x.e=2∧x.v≠-1))→rX pa va ks x.v (k:Int) 20000
 pK:∀(k:Nat) (x:gO),ks[k]?=some x→∀p,p∈x.ah→QhX pa va ks k p
structure EJ(ks:List gO):Prop where
 reach:∀t:Int,mB ks t→Reach (tK ks) t
 bS:∀(k:Nat) (x:gO),ks[k]?=some x→∀p,p∈x.ah→∀s,s∈p.from_→(k:Int)∈tK ks s
section
variable {ks : List gO} {fs : List ay} {nm : ByteArray} {pa va : Int}
theorem QeP(hc:Pf ks){v c m:Int}(h:(v,c,m)∈bF (fK ks)):mB ks c:=by
 obtain⟨k,z,hz,rfl,h⟩:=sq.1 h;obtain⟨x,hx,rfl⟩:=NL hz;cases hg:x.gone with
 |false=>exact .mk' hx hg
 |true=>
  obtain⟨h1,h2,_⟩:=hc.gone x (List.mem_of_getElem? hx) hg;rcases h with⟨_,p,hp,_⟩|⟨j,i,hi,_⟩
  ·have:p∈x.ah.map _:=hp;rw[h1]at this;cases this
  ·have:x.insts[j]?=some i:=hi;rw[h2]at this;cases this
theorem QeQ(hc:Pf ks)(ht:Yi ks fs)(ho:ey pa va (bF (fK ks))){v b q:Int}(hb:mB ks b)(h:rX pa va ks v b q):Av pa va fs v (F2 ks b) q:=by
 obtain⟨h1,h2,h3⟩:=(u3 ho.2).1 h;refine(u3 (Qd0 ht ho).2).2 ⟨h1,h2,?_⟩;rcases h3 with h3|⟨c,k,hd,h3⟩
 ·exact .inl h3
 have hl:=QeP hc hd;refine .inr ⟨F2 ks c,k,(QdZ ht).2 ⟨c,hl,rfl,hd⟩,?_⟩;rcases h3 with⟨e,h4⟩|⟨cU,h4⟩
 ·exact .inl ⟨by rw[e],h4⟩
 ·exact .inr ⟨fun e=>cU (D9 hl hb e),(Qhn hc ht hl hb).2 h4⟩
theorem QfQ(hc:Pf ks)(ht:Yi ks fs){k:Nat}{x:gO}(hx:ks[k]?=some x)(hg:x.gone=false){fl:ar}(C7:fl.Nodup)(cA:∀s:Int,(k:Int)∈tK ks s↔s∈fl){il:List Nat}(hs:jY fl.length (rJ (ve (nh ks)) fl) il):bS (af fs) (F2 ks (k:Int))=il.map (rJ (ve (nh ks)) fl):=by
 obtain⟨hp,hw⟩:=hs;have nG:∀i,i∈il↔i<fl.length:=fun i=>by rw[hp.mem_iff,List.mem_range]
 have LM:∀i,i<fl.length→fl[i]?=some (fl.getD i 0):=fun i hi=>by rw[List.getD_eq_getElem?_getD,List.getElem?_eq_getElem hi];rfl
 have QeR:∀i,i<fl.length→mB ks (fl.getD i 0):=fun i hi=>hc.src ((cA _).2 (List.mem_of_getElem? (LM i hi)))
 have QhY:il.Nodup:=hp.nodup_iff.2 List.nodup_range;refine Qdy (NK _ _) ?_ fun s=> ?_
 ·rw[List.pairwise_map];have h3:il.Pairwise (fun i j=>rJ (ve (nh ks)) fl i≤rJ (ve (nh ks)) fl j∧i≠j):=hw.and QhY;refine h3.imp_of_mem fun {a b} ha hb h=> ?_
  obtain⟨h4,h5⟩:=h;have nQ:=(nG a).1 ha;have Co:=(nG b).1 hb;have cU:rJ (ve (nh ks)) fl a≠rJ (ve (nh ks)) fl b:=by intro e;have e1:fl.getD a 0=fl.getD b 0:=D9 (QeR a nQ) (QeR b Co) e;have h6:=LM a nQ;rw[e1,←LM b Co]at h6;exact h5 ((List.getElem?_inj nQ C7).1 h6)
  omega
 ·rw[AN,List.mem_map,bE];constructor
  ·rintro⟨⟨h1,h2⟩,h3⟩;obtain⟨y,hy⟩:=bu (l:=fs) (i:=s.toNat) oM;obtain⟨i,z,hz,BB,YO,_⟩:=BJ ht hy;have yi:mB ks (i:Int):= .mk' hz BB;have e:s=F2 ks (i:Int):=by rw[K2 hz BB,YO];omega
   rw[e,Qc3 hc ht yi]at h3;obtain⟨t,BD,oQ⟩:=List.mem_map.1 h3;have:t=(k:Int):=D9 (hc.vj _ _ BD) (.mk' hx hg) oQ;subst this;obtain⟨m,hm⟩:=List.mem_iff_getElem?.1 ((cA _).1 BD);have Pt:=(List.getElem?_eq_some_iff.1 hm).1;refine⟨m,(nG m).2 Pt,?_⟩;rw[LM m Pt]at hm;injection hm with hm;rw[e,←hm];rfl
  ·rintro⟨m,hm,rfl⟩;have Pt:=(nG m).1 hm;have hl:=QeR m Pt;show(0≤F2 ks (fl.getD m 0)∧_)∧_∈tg _ (F2 ks (fl.getD m 0));refine⟨Pg ht hl,?_⟩;rw[Qc3 hc ht hl];exact List.mem_map.2 ⟨_,(cA _).2 (List.mem_of_getElem? (LM m Pt)),rfl⟩
theorem QfR(h:vU nm pa va ks)(Dz:EJ ks)(ht:Yi ks fs):j9 nm pa va fs:=by
 have hc:=h.UT;have hz:=XP hc.zero;have h0:∃x,ks[0]?=some x∧x.gone=false:=by obtain⟨i,x,e,hx,hg⟩:=hc.zero;have:i=0:=oM;subst this;exact⟨x,hx,hg⟩
 obtain⟨x0,Hz,NT⟩:=h0;have Py:rK (nh ks) 0=0:=by simp[rK]
 obtain⟨y0,hy0,vX⟩:=Qc1 ht Hz NT;rw[Py]at hy0;have F8:=(List.getElem?_eq_some_iff.1 hy0).1;refine⟨h.name,h.par,F8,fun y hy=> ?_,?_,?_,fun y hy=> ?_,⟨fun y hy i hi=> ?_,Qd0 ht h.once⟩,fun k hk=> ?_⟩
 ·rw[hy0]at hy;injection hy with hy;subst hy;rw[←vX.ah.1,h.uJ x0 Hz];rfl
 ·have:bS (af fs) 0=[]:=List.eq_nil_iff_forall_not_mem.2 fun s hs=>by
   obtain⟨⟨h1,h2⟩,h3⟩:=AN.1 hs;rw[bE]at h2;obtain⟨y,hy⟩:=bu (l:=fs) (i:=s.toNat) oM;obtain⟨i,z,Xw,BB,YO,_⟩:=BJ ht hy;have e:s=F2 ks (i:Int):=by rw[K2 Xw BB,YO];omega
   rw[e,Qc3 hc ht (.mk' Xw BB)]at h3;obtain⟨t,BD,oQ⟩:=List.mem_map.1 h3;have:t=0:=D9 (hc.vj _ _ BD) hc.zero (oQ.trans hz.symm);subst this;exact h.QgM _ BD
  rw[this];rfl
 ·have h2:=mv (bs:=af fs);rw[bE]at h2;refine h2.2 fun i hi=>jO.2 ?_
  obtain⟨y,hy⟩:=bu (l:=fs) hi;obtain⟨j,z,Xw,BB,YO,_⟩:=BJ ht hy;have h3:=(Qc5 hc.zero (fun i hi=>Qc3 hc ht hi) hc.vj (Dz.reach _ (.mk' Xw BB))).1;rwa [K2 Xw BB,YO]at h3
 ·obtain⟨j,hj⟩:=List.mem_iff_getElem?.1 hy;obtain⟨i,x,hx,hg,YO,hb⟩:=BJ ht hj;have hL:∀t,t∈wL x→mB ks t:=fun t h=>hc.vj (i:Int) t (by rw[hc.at_ hx];exact h)
  unfold ix;rw[hb.e,hb.a,hb.b,hb.v];unfold wL at hL;unfold toA toBb;rcases hc.ends x (List.mem_of_getElem? hx) hg with⟨e,_,h3,h4⟩|⟨e,_,_,h5⟩|⟨e,h1,h2⟩|⟨e,h1,h2,h3⟩
  ·rw[if_pos e]at hL;rw[if_pos (.inl e),if_neg oM];exact .inl ⟨e,Pg ht (hL x.a sI),h3,rfl⟩
  ·rw[if_neg oM,if_pos e]at hL;rw[if_pos (.inr e),if_pos e];exact .inr (.inl ⟨e,Pg ht (hL x.a sI),Pg ht (hL x.b sI),fun e2=>h5 (D9 (hL x.a sI) (hL x.b sI) e2)⟩)
  ·rw[if_neg oM,if_neg oM,if_neg oM];exact .inr (.inr (.inl ⟨e,rfl,rfl⟩))
  ·rw[if_neg oM,if_pos e,if_neg oM];exact .inr (.inr (.inr ⟨e,h1,h2,rfl⟩))
 ·obtain⟨j,hj⟩:=List.mem_iff_getElem?.1 hy;obtain⟨k,x,hx,hg,YO,hb⟩:=BJ ht hj;have:i.e0∈x.insts:=by rw[←hb.insts];exact List.mem_map.2 ⟨i,hi,rfl⟩
  have h9:bJ i.e0:=h.Xv x (List.mem_of_getElem? hx) _ this;exact h9
 ·obtain⟨y,hy⟩:=bu (l:=fs) hk;obtain⟨i,x,hx,hg,YO,hb⟩:=BJ ht hy;have yi:mB ks (i:Int):= .mk' hx hg;have hr:=Dz.reach _ yi;have e:(k:Int)=F2 ks (i:Int):=by rw[K2 hx hg,YO]
  refine⟨y,hy,⟨fun j q hq=> ?_,fun j a ha m v hv=> ?_,fun hf=> ?_⟩⟩
  ·obtain⟨p,hp⟩:=bu (l:=x.ah) (i:=j) (by rw[hb.ah.1];exact(List.getElem?_eq_some_iff.1 hq).1);have jL:=List.mem_of_getElem? hp;have hP:=h.pK i x hx p jL;obtain⟨_,il,hs,Uc⟩:=hb.ah.2 j p q hp hq;have Uw:=QfQ hc ht hx hg hP.nd (fun s=>⟨hP.all s,Dz.bS i x hx p jL s⟩) hs;rw[e,Uw,Uc,List.length_map,List.length_map];refine⟨rfl,fun m a s h1 h2=> ?_⟩;rw[List.getElem?_map,Option.map_eq_some_iff]at h1 h2;obtain⟨t,BD,rfl⟩:=h1;obtain⟨t',oQ,rfl⟩:=h2;rw[BD]at oQ;injection oQ with oQ;subst oQ;have x9:t<p.from_.length:=by have h3:=(hs.1.mem_iff).1 (List.mem_of_getElem? BD);exact List.mem_range.1 h3
   have h3:p.from_[t]?=some (p.from_.getD t 0):=by rw[List.getD_eq_getElem?_getD,List.getElem?_eq_getElem x9];rfl
   have h4:p.args[t]?=some (p.args.getD t 0):=by rw[List.getD_eq_getElem?_getD,List.getElem?_eq_getElem (by rw[hP.len];exact x9)];rfl
   have h5:=Dz.bS i x hx p jL _ (List.mem_of_getElem? h3);have h6:=hc.src h5;exact QeQ hc ht h.once h6 (hP.av t _ _ h3 h4 (Dz.reach _ h6) h5)
  ·have h1:=QeI hb ha;rw[e];exact QeQ hc ht h.once yi (h.ins i x hx hr j _ h1 v (List.mem_of_getElem? hv))
  ·rw[e,hb.v];refine QeQ hc ht h.once yi (h.fin i x hx hr ?_);unfold pE at hf;rwa [hb.e,hb.v]at hf
theorem QeT(h:vU nm pa va ks)(Dz:EJ ks)(ht:Yi ks fs)(kx:va≤20000)(jv:(hY (fK ks):Int)≤20000):bV nm pa va fs=0:=by
 have h1:=QfP ht;exact(y6 oM (QfR h Dz ht)).symm
end
end Go.Mor
namespace Go.Mor
open Go.RowKit
section
variable {fs gs : List ay} {nm : ByteArray} {pa va : Int} {k : Nat}
theorem XS(fs:List ay):fK (lN fs)=fs.map ay.e0:=by
 refine List.ext_getElem? fun i=> ?_
 rw[List.getElem?_map,List.getElem?_map];by_cases hi:i<fs.length
 ·obtain⟨x,hx⟩:=bu (l:=fs) hi;rw[mA hx,hx];show some (gO.f (Bx fs i x))=some x.e0;unfold Bx gO.f ay.e0 oG;simp only[List.map_map];rfl
 ·rw[List.getElem?_eq_none (by rw[jR];omega),List.getElem?_eq_none oM];rfl
theorem Q8(fs:List ay):ec fs (fs.map ay.e0):=by
 unfold ec;rw[List.map_map];refine List.map_congr_left fun x _=> ?_
 show x.e0=x.e0.e0;unfold ay.e0;simp only[List.map_map];rfl
theorem F4{ks:List gO}(he:ks=lN fs){x:gO}(hx:ks[k]?=some x):∃y,fs[k]?=some y∧x=Bx fs k y:=by
 subst he;obtain⟨y,hy⟩:=bu (l:=fs) (i:=k) (by have:=(List.getElem?_eq_some_iff.1 hx).1;rwa [jR]at this);rw[mA hy]at hx;injection hx with hx;exact⟨y,hy,hx.symm⟩
theorem NP(h:j9 nm pa va fs):vU nm pa va (lN fs)∧EJ (lN fs):=by
 obtain⟨gs,Ma⟩:∃gs,gs=fs.map ay.e0:=⟨_,rfl⟩;have Vh:ec fs gs:=Ma▸Q8 fs;have hG:j9 nm pa va gs:=qu Vh h;have hF:fK (lN fs)=gs:=(XS fs).trans Ma.symm;have hK:lN gs=lN fs:=BA Vh.symm;have hlen:gs.length=fs.length:=by rw[Ma,List.length_map]
 obtain⟨ks,xG⟩:∃ks,ks=lN fs:=⟨_,rfl⟩;rw[←xG]at hF hK⊢;have Jm:ks.length=gs.length:=by rw[xG,jR,hlen]
 have at_:∀{k:Nat} {x:gO},ks[k]?=some x→∃y,gs[k]?=some y∧x=Bx gs k y∧y=x.f:=by intro k x hx;obtain⟨y,hy,e⟩:=F4 hK.symm hx;have h1:=K3 hx;rw[hF,hy]at h1;injection h1 with h1;exact⟨y,hy,e,h1⟩
 have hT:tK ks=tg (af gs):=by show tg (af (fK ks))=_;rw[hF]
 have hng:∀x,x∈ks→x.gone=false:=fun x hx=>by obtain⟨k,hk⟩:=List.mem_iff_getElem?.1 hx;obtain⟨y,_,e,_⟩:=at_ hk;rw[e];rfl
 have hz:∃x0,ks[0]?=some x0:=bu (by have:=hG.pos;omega);obtain⟨x0,Hz⟩:=hz;have XT:∀{v b q:Int},rX pa va ks v b q=Av pa va gs v b q:=fun {v b q}=>by unfold rX Av;rw[hT,hF]
 have vi:∀{k:Nat} {x:gO} {y:ay},ks[k]?=some x→gs[k]?=some y→y5 (Dm (tg (af gs))) (fun _=>20000) pE pa va gs k y:=by intro k x y hx hy;obtain⟨z,hz,hr⟩:=hG.reads k (List.getElem?_eq_some_iff.1 hy).1;rw[hy]at hz;injection hz with hz;subst hz;exact hr
 have hiv:∀{k:Nat} {x:gO},ks[k]?=some x→∀(j:Nat) (i:aO),x.insts[j]?=some i→∀a,a∈i.args→rX pa va ks a (k:Int) (j:Int):=by intro k x hx j i hi a ha;obtain⟨y,hy,_,e⟩:=at_ hx;rw[XT];obtain⟨m,hm⟩:=List.mem_iff_getElem?.1 ha;exact(vi hx hy).insts j i (by rw[e];exact hi) m a hm
 have hfv:∀{k:Nat} {x:gO},ks[k]?=some x→(x.e=1∨(x.e=2∧x.v≠-1))→rX pa va ks x.v (k:Int) 20000:=by intro k x hx hf;obtain⟨y,hy,_,e⟩:=at_ hx;rw[XT];have:=(vi hx hy).fin (by rw[e];exact hf);rwa [e]at this
 have Uw:∀(k:Nat) (s:Int),(k:Int)∈tK ks s↔s∈bS (af gs) (k:Int):=by
  intro k s;rw[AN,hT];constructor
  ·intro h1;rw[←hT]at h1;obtain⟨i,x,rfl,hx⟩:=ZC h1;have:=(List.getElem?_eq_some_iff.1 hx).1;rw[hT]at h1;exact⟨⟨oM,by rw[bE];omega⟩,h1⟩
  ·exact fun h1=>h1.2
 refine⟨⟨⟨?_,?_,?_,?_⟩,hG.name,hG.par,?_,?_,?_,?_,?_,?_,?_,?_,?_⟩,⟨?_,?_⟩⟩
 ·exact⟨0,x0,rfl,Hz,hng x0 (List.mem_of_getElem? Hz)⟩
 ·intro x hx _;obtain⟨k,hk⟩:=List.mem_iff_getElem?.1 hx;obtain⟨y,hy,_,e⟩:=at_ hk;have:=hG.ends y (List.mem_of_getElem? hy);rw[e,←Jm]at this;exact this
 ·intro x hx hg;rw[hng x hx]at hg;cases hg
 ·intro s t ht;rw[hT]at ht;have h1:=og ht;rw[bE]at h1;obtain⟨x,hx⟩:=bu (l:=ks) (i:=t.toNat) oM;exact⟨t.toNat,x,oM,hx,hng x (List.mem_of_getElem? hx)⟩
 ·intro x hx;obtain⟨y,hy,_,e⟩:=at_ hx;have:=hG.ah y hy;rw[e]at this;have h2:(x.ah.map (fun p=>(⟨p.dst,none,0,p.args⟩:bI))).length=0:=this;rw[List.length_map]at h2;exact List.length_eq_zero_iff.1 h2
 ·intro s hs;have h1:s∈bS (af gs) 0:=(Uw 0 s).1 hs;have h2:=hG.src;rw[List.length_eq_zero_iff.1 h2]at h1;cases h1
 ·intro x hx i hi;obtain⟨k,hk⟩:=List.mem_iff_getElem?.1 hx;obtain⟨y,hy,_,e⟩:=at_ hk;exact hG.yc.1 y (List.mem_of_getElem? hy) i (by rw[e];exact hi)
 ·rw[hF];exact hG.yc.2
 ·intro x hx i hi a ha;obtain⟨k,hk⟩:=List.mem_iff_getElem?.1 hx;obtain⟨j,hj⟩:=List.mem_iff_getElem?.1 hi;have:=hiv hk j i hj a ha;exact⟨this.1,this.2.1⟩
 ·intro x hx hf;obtain⟨k,hk⟩:=List.mem_iff_getElem?.1 hx;have:=hfv hk hf;exact⟨this.1,this.2.1⟩
 ·intro k x hx _ j i hi a ha;exact hiv hx j i hi a ha
 ·intro k x hx _ hf;exact hfv hx hf
 ·intro k x hx p hp;obtain⟨y,hy,e1,e⟩:=at_ hx;have hr:=vi hx hy;rw[e1]at hp;obtain⟨q,hq,rfl⟩:=List.mem_map.1 (show p∈y.ah.map (oG (bS (af gs) (k:Int)))from hp);obtain⟨j,hj⟩:=List.mem_iff_getElem?.1 hq;obtain⟨h1,h2⟩:=hr.ah j q hj;have Tu:=NK (af gs) (k:Int);refine⟨h1,Tu.imp (fun h=>oM),fun s hs=> ?_,fun s hs=>(Uw k s).1 hs,fun a ha=> ?_,fun i s a hs ha _ _=> ?_⟩
  ·have:=(AN.1 (show s∈bS (af gs) (k:Int)from hs)).1;rw[bE]at this;omega
  ·obtain⟨i,hi⟩:=List.mem_iff_getElem?.1 (show a∈q.args from ha);obtain⟨s,hs⟩:=bu (l:=bS (af gs) (k:Int)) (i:=i) (by rw[←h1];exact(List.getElem?_eq_some_iff.1 hi).1);have:=h2 i a s hi hs;exact⟨this.1,this.2.1⟩
  ·rw[XT];exact h2 i a s ha hs
 ·rintro t ⟨i,x,rfl,hx,_⟩;rw[hT];have:=(List.getElem?_eq_some_iff.1 hx).1;exact Rn hG oM oM
 ·intro k x hx p hp s hs;obtain⟨y,hy,e1,e⟩:=at_ hx;rw[e1]at hp;obtain⟨q,hq,rfl⟩:=List.mem_map.1 (show p∈y.ah.map (oG (bS (af gs) (k:Int)))from hp);exact(Uw k s).2 hs
end
def xO(i:aO):Bool×Int:=(decide (aU i.op),i.dst)
def shB(x:ay):ar×List (Bool×Int):=(x.ah.map (fun p=>p.dst),x.insts.map xO)
theorem Qdz{b:Int}{l m:List bI}(h:l.map (fun p=>p.dst)=m.map (fun p=>p.dst)):cC b l=cC b m:=by
 unfold cC;have e:(fun p:bI=>(p.dst,b,(-1:Int)))=(fun d:Int=>(d,b,(-1:Int)))∘(fun p:bI=>p.dst):=rfl;rw[e,←List.map_map,←List.map_map,h]
theorem Xk(b:Int)(l:List aO):cT b l=((l.map xO).zipIdx.filter (fun x=>x.1.1)).map (fun x=>(x.1.2,b,(x.2:Int))):=by
 unfold cT;rw[List.zipIdx_map,List.filter_map,List.map_map];rfl
theorem QdA{b:Int}{l m:List aO}(h:l.map xO=m.map xO):cT b l=cT b m:=by rw[Xk,Xk,h]
theorem QfS{fs gs:List ay}(h:fs.map shB=gs.map shB):bF fs=bF gs:=by
 have hl:fs.length=gs.length:=by simpa using sZ List.length h
 unfold bF db;rw[List.take_of_length_le (Nat.le_refl _),List.take_of_length_le (Nat.le_refl _),List.flatMap_def,List.flatMap_def];congr 1;refine List.ext_getElem? fun i=> ?_
 rw[List.getElem?_map,List.getElem?_map,List.getElem?_zipIdx,List.getElem?_zipIdx];have h1:=sZ (fun l:List (ar×List (Bool×Int))=>l[i]?) h;simp only[List.getElem?_map]at h1;cases hx:fs[i]? with
 |none=>rw[hx]at h1;cases hy:gs[i]? with
  |none=>rfl
  |some y=>rw[hy]at h1;cases h1
 |some x=>rw[hx]at h1;cases hy:gs[i]? with
  |none=>rw[hy]at h1;cases h1
  |some y=>
   rw[hy]at h1;injection h1 with h1;have e1:x.ah.map (fun p=>p.dst)=y.ah.map (fun p=>p.dst):=sZ Prod.fst h1;have e2:x.insts.map xO=y.insts.map xO:=sZ Prod.snd h1;simp only[Option.map_some];unfold eJ;rw[Qdz e1,QdA e2]
theorem qF.map_eq{α β γ:Type}{R:α→β→Prop}{f:α→γ}{g:β→γ}{l:List α}{m:List β}(h:qF R l m)(hf:∀a b,a∈l→b∈m→R a b→f a=g b):l.map f=m.map g:=by
 refine List.ext_getElem? fun i=> ?_
 rw[List.getElem?_map,List.getElem?_map];by_cases hi:i<l.length
 ·obtain⟨a,ha⟩:=bu (l:=l) hi;obtain⟨b,hb⟩:=bu (l:=m) (i:=i) (by rw[←h.1];exact hi);rw[ha,hb];exact sZ some (hf a b (List.mem_of_getElem? ha) (List.mem_of_getElem? hb) (h.2 i a b ha hb))
 ·rw[List.getElem?_eq_none oM,List.getElem?_eq_none (by rw[←h.1];omega)];rfl
theorem qF.fwd{α β:Type}{R:α→β→Prop}{l:List α}{m:List β}(h:qF R l m){i:Nat}{a:α}(ha:l[i]?=some a):∃b,m[i]?=some b∧R a b:=by
 obtain⟨b,hb⟩:=bu (l:=m) (i:=i) (by rw[←h.1];exact(List.getElem?_eq_some_iff.1 ha).1);exact⟨b,hb,h.2 i a b ha hb⟩
theorem qF.bwd{α β:Type}{R:α→β→Prop}{l:List α}{m:List β}(h:qF R l m){i:Nat}{b:β}(hb:m[i]?=some b):∃a,l[i]?=some a∧R a b:=by
 obtain⟨a,ha⟩:=bu (l:=l) (i:=i) (by rw[h.1];exact(List.getElem?_eq_some_iff.1 hb).1);exact⟨a,ha,h.2 i a b ha hb⟩
def QeU(i i':aO):Prop:=i'=i∨(i'.op=1∧i'.name.size=0∧i'.args=[]∧i'.dst=i.dst∧aU i.op)
structure Cm(x y:gO):Prop where
 gone:y.gone=x.gone
 ah:y.ah=x.ah
 insts:qF QeU x.insts y.insts
 ends:(y.e=x.e∧y.v=x.v∧y.a=x.a∧y.b=x.b)∨(x.e=1∧y.e=0∧y.v=0∧y.b=0∧(y.a=x.a∨y.a=x.b))
section
variable {ks ms : List gO} {nm : ByteArray} {pa va : Int}
theorem QdB{D E:Int→Int→Prop}{ds:rn}{v b q:Int}(h:bX D pa va ds v b q)(hm:∀a,D a b→E a b):bX E pa va ds v b q:=⟨h.1,h.2.1,h.2.2.imp id fun⟨p,hp,h3⟩=>⟨p,hp,h3.imp id fun⟨h4,h5⟩=>⟨h4,hm _ h5⟩⟩⟩
theorem Qd1{T U:Int→ar}(h:∀x t,t∈U x→t∈T x){a b:Int}(hd:Dm T a b):Dm U a b:=fun⟨h1,h2⟩=>hd ⟨h1,EL (fun x t ht=>by
  obtain⟨q1,q2⟩:=im.1 ht;exact im.2 ⟨h x t q1,q2⟩) h2⟩
theorem Cm.tg{x y:gO}(h:Cm x y){t:Int}(ht:t∈wL y):t∈wL x:=by
 unfold wL at ht⊢;rcases h.ends with⟨e1,_,e3,e4⟩|⟨e1,e2,_,_,e4⟩
 ·rwa [e1,e3,e4]at ht
 ·rw[if_pos e2]at ht;rw[if_neg oM,if_pos e1];rw[List.mem_singleton]at ht;rcases e4 with e4|e4<;>simp[ht,e4]
theorem Cm.Jn{N:Int}{x y:gO}(h:Cm x y)(he:Jn N x):Jn N y:=by
 unfold Go.Mor.Jn at he⊢;rcases h.ends with⟨e1,e2,e3,e4⟩|⟨e1,e2,e3,e4,e5⟩
 ·rwa [e1,e2,e3,e4]
 ·left;rcases he with he|⟨_,h2,h3,_⟩|he|he
  ·omega
  ·refine⟨e2,?_,e3,e4⟩;rcases e5 with e5|e5<;>rw[e5]<;>assumption
  ·omega
  ·omega
theorem QbN(hl:qF Cm ks ms){t:Int}:mB ks t→mB ms t:=by
 rintro⟨i,x,rfl,hx,hg⟩;obtain⟨y,hy,hb⟩:=hl.fwd hx;exact .mk' hy (by rw[hb.gone,hg])
theorem Qd2(hc:Pf ks)(hl:qF Cm ks ms){s t:Int}(h:t∈tK ms s):t∈tK ks s:=by
 obtain⟨i,y,rfl,hy⟩:=ZC h;obtain⟨x,hx,hb⟩:=hl.bwd hy;rw[hc.at_ hx];refine hb.tg ?_;rw[Xj hy]at h;cases hg:x.gone with
 |true=>
  obtain⟨_,_,h3,_⟩:=hc.gone x (List.mem_of_getElem? hx) hg;rcases hb.ends with⟨e,_⟩|⟨e,_⟩
  ·rw[Qd (by rw[e,h3])]at h;cases h
  ·omega
 |false=>
  have:=hb.Jn (hc.ends x (List.mem_of_getElem? hx) hg);rw[hl.1]at this;rwa [Qc0 this]at h
theorem QeV(hc:Pf ks)(hl:qF Cm ks ms):Pf ms:=by
 refine⟨QbN hl hc.zero,fun y hy hg=> ?_,fun y hy hg=> ?_,fun s t ht=>QbN hl (hc.vj s t (Qd2 hc hl ht))⟩
 ·obtain⟨i,hi⟩:=List.mem_iff_getElem?.1 hy;obtain⟨x,hx,hb⟩:=hl.bwd hi;rw[←hl.1];exact hb.Jn (hc.ends x (List.mem_of_getElem? hx) (by rw[←hb.gone,hg]))
 ·obtain⟨i,hi⟩:=List.mem_iff_getElem?.1 hy;obtain⟨x,hx,hb⟩:=hl.bwd hi;obtain⟨h1,h2,h3,h4⟩:=hc.gone x (List.mem_of_getElem? hx) (by rw[←hb.gone,hg]);have q8:=hb.insts.1;rw[h2]at q8;refine⟨by rw[hb.ah,h1],List.length_eq_zero_iff.1 q8.symm,?_⟩;rcases hb.ends with⟨e1,e2,_⟩|⟨e,_⟩
  ·exact⟨by rw[e1,h3],by rw[e2,h4]⟩
  ·omega
theorem QfT(hl:qF Cm ks ms):(fK ks).map shB=(fK ms).map shB:=by
 rw[List.map_map,List.map_map];refine hl.map_eq fun x y _ _ hb=> ?_
 show(((x.ah.map _).map _:ar),x.insts.map xO)=(((y.ah.map _).map _:ar),y.insts.map xO);rw[hb.ah];congr 1;refine hb.insts.map_eq fun a b _ _ h=> ?_
 rcases h with e|⟨e1,_,_,e4,e5⟩
 ·rw[e]
 ·unfold xO;rw[e4,e1];congr 1;have:aU 1:=by unfold aU;omega
  simp[e5,this]
theorem QbO(h:vU nm pa va ks)(hl:qF Cm ks ms):vU nm pa va ms:=by
 have hc:=h.UT;have hd:bF (fK ms)=bF (fK ks):=(QfS (QfT hl)).symm;have j5:∀x t:Int,t∈tK ms x→t∈tK ks x:=fun x t ht=>Qd2 hc hl ht
 have hr:∀{t:Int},Reach (tK ms) t→Reach (tK ks) t:=fun ht=>EL j5 ht
 have XT:∀{v b q:Int},rX pa va ks v b q→rX pa va ms v b q:=fun {v b q} ha=>by unfold rX;rw[hd];exact QdB ha fun a ha=>Qd1 j5 ha
 have bk:∀{y:gO},y∈ms→∃(i:Nat) (x:gO),ks[i]?=some x∧x∈ks∧Cm x y:=fun {y} hy=>by obtain⟨i,hi⟩:=List.mem_iff_getElem?.1 hy;obtain⟨x,hx,hb⟩:=hl.bwd hi;exact⟨i,x,hx,List.mem_of_getElem? hx,hb⟩
 refine⟨QeV hc hl,h.name,h.par,fun y hy=> ?_,fun s hs=>h.QgM s (j5 _ _ hs),fun y hy i hi=> ?_,by rw[hd];exact h.once,fun y hy i hi a ha=> ?_,fun y hy hf=> ?_,fun k y hy hk j i hi a ha=> ?_,fun k y hy hk hf=> ?_,fun k y hy p hp=> ?_⟩
 ·obtain⟨x,hx,hb⟩:=hl.bwd hy;rw[hb.ah];exact h.uJ x hx
 ·obtain⟨_,x,_,pj,hb⟩:=bk hy;obtain⟨j,hj⟩:=List.mem_iff_getElem?.1 hi;obtain⟨i0,Rq,e⟩:=hb.insts.bwd hj;rcases e with e|⟨e1,e2,e3,_,_⟩
  ·rw[e];exact h.Xv x pj i0 (List.mem_of_getElem? Rq)
  ·unfold bJ;refine⟨.inl (by rw[e1];unfold aU;omega),.inl ⟨e1,e2,by rw[e3];rfl⟩⟩
 ·obtain⟨_,x,_,pj,hb⟩:=bk hy;obtain⟨j,hj⟩:=List.mem_iff_getElem?.1 hi;obtain⟨i0,Rq,e⟩:=hb.insts.bwd hj;rcases e with e|⟨_,_,e3,_⟩
  ·rw[e]at ha;exact h.iv x pj i0 (List.mem_of_getElem? Rq) a ha
  ·rw[e3]at ha;cases ha
 ·obtain⟨_,x,_,pj,hb⟩:=bk hy;rcases hb.ends with⟨e1,e2,_⟩|⟨_,e2,_⟩
  ·rw[e1,e2]at hf;rw[e2];exact h.fv x pj hf
  ·omega
 ·obtain⟨x,hx,hb⟩:=hl.bwd hy;obtain⟨i0,Rq,e⟩:=hb.insts.bwd hi;rcases e with e|⟨_,_,e3,_⟩
  ·rw[e]at ha;exact XT (h.ins k x hx (hr hk) j i0 Rq a ha)
  ·rw[e3]at ha;cases ha
 ·obtain⟨x,hx,hb⟩:=hl.bwd hy;rcases hb.ends with⟨e1,e2,_⟩|⟨_,e2,_⟩
  ·rw[e1,e2]at hf;rw[e2];exact XT (h.fin k x hx (hr hk) hf)
  ·omega
 ·obtain⟨x,hx,hb⟩:=hl.bwd hy;rw[hb.ah]at hp;have hP:=h.pK k x hx p hp;exact⟨hP.len,hP.nd,by rw[←hl.1];exact hP.yW,fun s hs=>hP.all s (j5 _ _ hs),hP.yc,fun i s a hs ha hrs xG=>XT (hP.av i s a hs ha (hr hrs) (j5 _ _ xG))⟩
end
end Go.Mor
namespace Go.Mor
open Go.RowKit
def EU(ks:List gO)(k:Int):ar:=((List.range ks.length).filter (fun s=>match ks[s]? with
 |some x=> !x.gone&&(wL x).contains k
 |none=>false)).map (fun s:Nat=>(s:Int))
def ke(S:ar)(p:vb):vb:=⟨p.dst,((p.from_.zip p.args).filter (fun q=>S.contains q.1)).map (·.1),((p.from_.zip p.args).filter (fun q=>S.contains q.1)).map (·.2)⟩
def QgN(x:gO):gO:={x with gone:=true,ah:=[],insts:=[],e:=2,v:= -1}
noncomputable def sj(ks:List gO)(k:Nat)(x:gO):gO:=open Classical in if¬Reach (tK ks) (k:Int)∧x.gone=false then QgN x else x
noncomputable def o1(ks:List gO):List gO:=ks.zipIdx.map (fun p=>sj ks p.2 p.1)
def K8(S:ar)(x:gO):gO:={x with ah:=x.ah.map (ke S)}
noncomputable def kg(ks:List gO):List gO:=(o1 ks).zipIdx.map (fun p=>K8 (EU (o1 ks) (p.2:Int)) p.1)
noncomputable def sW(ks:List gO):Bool:=open Classical in decide (∃(k:Nat) (x:gO),ks[k]?=some x∧x.gone=false∧¬Reach (tK ks) (k:Int))
section
variable {ks ms : List gO} {k : Nat} {x y : gO} {nm : ByteArray} {pa va : Int}
theorem BM(hx:ks[k]?=some x):(o1 ks)[k]?=some (sj ks k x):=by
 unfold o1;rw[List.getElem?_map,List.getElem?_zipIdx,hx];simp
theorem BV(ks:List gO):(o1 ks).length=ks.length:=by simp[o1]
theorem tn(hx:ks[k]?=some x):(kg ks)[k]?=some (K8 (EU (o1 ks) (k:Int)) (sj ks k x)):=by
 unfold kg;rw[List.getElem?_map,List.getElem?_zipIdx,BM hx];simp
theorem o2(ks:List gO):(kg ks).length=ks.length:=by simp[kg,o1]
theorem QeW{s t:Int}:s∈EU ks t↔∃(i:Nat) (x:gO),s=(i:Int)∧ks[i]?=some x∧x.gone=false∧t∈wL x:=by
 unfold EU;rw[List.mem_map];constructor
 ·rintro⟨i,hi,rfl⟩;obtain⟨h1,h2⟩:=List.mem_filter.1 hi;obtain⟨x,hx⟩:=bu (l:=ks) (i:=i) (List.mem_range.1 h1);rw[hx]at h2;simp only[Bool.and_eq_true,Bool.not_eq_true',List.contains_eq_mem,decide_eq_true_eq]at h2;exact⟨i,x,rfl,hx,h2.1,h2.2⟩
 ·rintro⟨i,x,rfl,hx,hg,ht⟩;refine⟨i,List.mem_filter.2 ⟨List.mem_range.2 (List.getElem?_eq_some_iff.1 hx).1,?_⟩,rfl⟩;rw[hx];simp[hg,ht]
theorem Jw(hc:Pf ks){t:Int}(h:Reach (tK ks) t):mB ks t:=by
 cases h with
 |zero=>exact hc.zero
 |step _ ht=>exact hc.vj _ _ ht
theorem QfU{ks:List gO}{k:Nat}{x:gO}(hx:ks[k]?=some x)(h:mB ks (k:Int)):x.gone=false:=by
 obtain⟨i,y,e,hy,hg⟩:=h;have:i=k:=oM;subst this;rw[hx]at hy;injection hy with hy;rwa [hy]
theorem uc(hc:Pf ks)(hx:ks[k]?=some x)(hr:Reach (tK ks) (k:Int)):(kg ks)[k]?=some (K8 (EU (o1 ks) (k:Int)) x)∧x.gone=false:=by
 refine⟨?_,QfU hx (Jw hc hr)⟩;rw[tn hx];unfold sj;rw[if_neg (fun h=>h.1 hr)]
theorem F5(hc:Pf ks)(hx:ks[k]?=some x)(hr:¬Reach (tK ks) (k:Int)):∃y,(kg ks)[k]?=some y∧y.gone=true∧y.ah=[]∧y.insts=[]∧y.e=2∧y.v= -1:=by
 refine⟨_,tn hx,?_⟩;unfold sj;cases hg:x.gone with
 |false=>
  rw[if_pos ⟨hr,rfl⟩];exact⟨rfl,rfl,rfl,rfl,rfl⟩
 |true=>
  obtain⟨h1,h2,h3,h4⟩:=hc.gone x (List.mem_of_getElem? hx) hg;rw[if_neg (fun h=>by have:=h.2;cases this)];exact⟨hg,by show x.ah.map _=[];rw[h1];rfl,h2,h3,h4⟩
theorem qH(hy:(kg ks)[k]?=some y):∃x,ks[k]?=some x:=bu (by rw[←o2 ks];exact(List.getElem?_eq_some_iff.1 hy).1)
theorem ZF(hc:Pf ks)(hy:(kg ks)[k]?=some y)(hg:y.gone=false):∃x,ks[k]?=some x∧x.gone=false∧Reach (tK ks) (k:Int)∧y=K8 (EU (o1 ks) (k:Int)) x:=by
 obtain⟨x,hx⟩:=qH hy;by_cases hr:Reach (tK ks) (k:Int)
 ·obtain⟨h1,h2⟩:=uc hc hx hr;rw[hy]at h1;injection h1 with h1;exact⟨x,hx,h2,hr,h1⟩
 ·obtain⟨z,hz,h1,_⟩:=F5 hc hx hr;rw[hy]at hz;injection hz with hz;rw[←hz,hg]at h1;cases h1
theorem Gf(hc:Pf ks){s t:Int}:t∈tK (kg ks) s↔Reach (tK ks) s∧t∈tK ks s:=by
 constructor
 ·intro h;obtain⟨i,y,rfl,hy⟩:=ZC h;obtain⟨x,hx⟩:=qH hy;by_cases hr:Reach (tK ks) (i:Int)
  ·refine⟨hr,?_⟩;obtain⟨h1,h2⟩:=uc hc hx hr;rw[hy]at h1;injection h1 with h1;rw[Xj hy,h1,o2]at h;rw[Xj hx];exact h
  ·obtain⟨z,hz,_,_,_,h1,_⟩:=F5 hc hx hr;rw[hy]at hz;injection hz with hz;subst hz;rw[Xj hy,Qd h1]at h;cases h
 ·rintro⟨hr,h⟩;obtain⟨i,x,rfl,hx⟩:=ZC h;obtain⟨h1,h2⟩:=uc hc hx hr;rw[Xj h1,o2];rw[Xj hx]at h;exact h
theorem Lb(hc:Pf ks){t:Int}:Reach (tK (kg ks)) t↔Reach (tK ks) t:=by
 constructor
 ·exact fun h=>EL (fun x t ht=>((Gf hc).1 ht).2) h
 ·intro h;induction h with
  |zero=>exact .zero
  |step h1 ht ih=>exact .step ih ((Gf hc).2 ⟨h1,ht⟩)
theorem Pk(hc:Pf ks){t:Int}:mB (kg ks) t↔Reach (tK ks) t:=by
 constructor
 ·rintro⟨i,y,rfl,hy,hg⟩;obtain⟨_,_,_,hr,_⟩:=ZF hc hy hg;exact hr
 ·intro h;obtain⟨i,x,rfl,hx,hg⟩:=Jw hc h;exact .mk' (uc hc hx h).1 hg
theorem Qeh(hc:Pf ks):Pf (kg ks):=by
 refine⟨(Pk hc).2 .zero,fun y hy hg=> ?_,fun y hy hg=> ?_,fun s t ht=> ?_⟩
 ·obtain⟨i,hi⟩:=List.mem_iff_getElem?.1 hy;obtain⟨x,hx,uC,_,rfl⟩:=ZF hc hi hg;rw[o2];exact hc.ends x (List.mem_of_getElem? hx) uC
 ·obtain⟨i,hi⟩:=List.mem_iff_getElem?.1 hy;obtain⟨x,hx⟩:=qH hi;by_cases hr:Reach (tK ks) (i:Int)
  ·obtain⟨h1,h2⟩:=uc hc hx hr;rw[hi]at h1;injection h1 with h1;rw[h1]at hg;rw[show(K8 (EU (o1 ks) (i:Int)) x).gone=x.gone from rfl,h2]at hg;cases hg
  ·obtain⟨z,hz,_,h1,h2,h3,h4⟩:=F5 hc hx hr;rw[hi]at hz;injection hz with hz;subst hz;exact⟨h1,h2,h3,h4⟩
 ·obtain⟨h1,h2⟩:=(Gf hc).1 ht;exact(Pk hc).2 (.step h1 h2)
theorem Pl(hc:Pf ks){s:Int}:s∈EU (o1 ks) (k:Int)↔Reach (tK ks) s∧(k:Int)∈tK ks s:=by
 rw[QeW];constructor
 ·rintro⟨i,y,rfl,hy,hg,ht⟩;obtain⟨x,hx⟩:=bu (l:=ks) (i:=i) (by rw[←BV ks];exact(List.getElem?_eq_some_iff.1 hy).1);rw[BM hx]at hy;injection hy with hy;unfold sj at hy;split at hy
  ·rw[←hy]at hg;cases hg
  ·rename_i hn;rw[hy]at hn;have hr:Reach (tK ks) (i:Int):=Classical.byContradiction fun h=>hn ⟨h,hg⟩
   refine⟨hr,?_⟩;rw[hc.at_ hx,hy];exact ht
 ·rintro⟨hr,ht⟩;obtain⟨i,x,rfl,hx,hg⟩:=Jw hc hr;refine⟨i,x,rfl,?_,hg,by rwa [hc.at_ hx]at ht⟩;rw[BM hx];unfold sj;rw[if_neg (fun h=>h.1 hr)]
theorem ZH(hc:Pf ks){v c m:Int}:(v,c,m)∈bF (fK (kg ks))↔Reach (tK ks) c∧(v,c,m)∈bF (fK ks):=by
 rw[sq,sq];constructor
 ·rintro⟨i,z,hz,rfl,h⟩;obtain⟨y,hy,rfl⟩:=NL hz;obtain⟨x,hx⟩:=qH hy;by_cases hr:Reach (tK ks) (i:Int)
  ·obtain⟨h1,h2⟩:=uc hc hx hr;rw[hy]at h1;injection h1 with h1;subst h1;refine⟨hr,i,x.f,K3 hx,rfl,h.imp (fun⟨h3,p,hp,hd⟩=>⟨h3,?_⟩) id⟩;obtain⟨q,hq,rfl⟩:=List.mem_map.1 hp;obtain⟨r,hr,rfl⟩:=List.mem_map.1 hq;exact⟨_,List.mem_map.2 ⟨r,hr,rfl⟩,hd⟩
  ·obtain⟨w,hw,_,h1,h2,_⟩:=F5 hc hx hr;rw[hy]at hw;injection hw with hw;subst hw;rcases h with⟨_,p,hp,_⟩|⟨j,a,ha,_⟩
   ·have:p∈y.ah.map _:=hp;rw[h1]at this;cases this
   ·have:y.insts[j]?=some a:=ha;rw[h2]at this;cases this
 ·rintro⟨hr,i,z,hz,rfl,h⟩;obtain⟨x,hx,rfl⟩:=NL hz;obtain⟨h1,h2⟩:=uc hc hx hr;refine⟨i,_,K3 h1,rfl,h.imp (fun⟨h3,p,hp,hd⟩=>⟨h3,?_⟩) id⟩;obtain⟨q,hq,rfl⟩:=List.mem_map.1 hp;exact⟨_,List.mem_map.2 ⟨ke (EU (o1 ks) (i:Int)) q,List.mem_map.2 ⟨q,hq,rfl⟩,rfl⟩,hd⟩
theorem ZL{α β γ:Type}{f:α→List γ}{g:β→List γ}:∀{l:List α} {m:List β},qF (fun a b=>(g b).Sublist (f a)) l m→(m.flatMap g).Sublist (l.flatMap f)
 |[],[],_=> .slnil
 |[],b::m,h=>by have:=h.1;simp at this
 |a::l,[],h=>by have:=h.1;simp at this
 |a::l,b::m,h=>by rw[List.flatMap_cons,List.flatMap_cons];exact(h.2 0 a b rfl rfl).append (ZL ⟨by have:=h.1;simpa using this,fun i x y hx hy=>h.2 (i+1) x y hx hy⟩)
theorem ZM(hc:Pf ks)(h:ey pa va (bF (fK ks))):ey pa va (bF (fK (kg ks))):=by
 refine⟨fun d hd=> ?_,?_⟩
 ·obtain⟨v,c,m⟩:=d;exact h.1 _ ((ZH hc).1 hd).2
 ·have h2:=h.2;rw[pf]at h2⊢;refine h2.sublist (ZL ⟨by rw[List.length_map,List.length_map,o2],fun i a b ha hb=> ?_⟩);obtain⟨x,hx,rfl⟩:=NL ha;obtain⟨y,hy,rfl⟩:=NL hb;by_cases hr:Reach (tK ks) (i:Int)
  ·obtain⟨h1,_⟩:=uc hc hx hr;rw[hy]at h1;injection h1 with h1;subst h1;have:nu (K8 (EU (o1 ks) (i:Int)) x).f=nu x.f:=by unfold nu;congr 1;show((x.ah.map _).map _).map _=(x.ah.map _).map _;rw[List.map_map,List.map_map,List.map_map];rfl
   rw[this];exact List.Sublist.refl _
  ·obtain⟨w,hw,_,h1,h2,_⟩:=F5 hc hx hr;rw[hy]at hw;injection hw with hw;subst hw;have:nu y.f=[]:=by unfold nu;show(y.ah.map _).map _++(y.insts.filter _).map _=[];rw[h1,h2];rfl
   rw[this];exact List.nil_sublist _
theorem Qal{S:ar}{p:vb}{i:Nat}{s a:Int}(hs:(ke S p).from_[i]?=some s)(ha:(ke S p).args[i]?=some a):s∈S∧∃j:Nat,p.from_[j]?=some s∧p.args[j]?=some a:=by
 unfold ke at hs ha;simp only[List.getElem?_map,Option.map_eq_some_iff]at hs ha;obtain⟨q,hq,rfl⟩:=hs;obtain⟨r,hr,rfl⟩:=ha;rw[hq]at hr;injection hr with hr;subst hr;obtain⟨h1,h2⟩:=List.mem_filter.1 (List.mem_of_getElem? hq);obtain⟨j,hj⟩:=List.mem_iff_getElem?.1 h1;rw[List.getElem?_zip_eq_some]at hj;exact⟨by simpa using h2,j,hj.1,hj.2⟩
theorem Qei{S:ar}{p:vb}(hl:p.args.length=p.from_.length):(ke S p).from_=p.from_.filter (fun s=>S.contains s):=by
 unfold ke;show((p.from_.zip p.args).filter ((fun s=>S.contains s)∘Prod.fst)).map Prod.fst=_;rw[←List.filter_map,List.map_fst_zip oM]
theorem Qbg(S:ar)(p:vb):(ke S p).args.length=(ke S p).from_.length:=by
 unfold ke;rw[List.length_map,List.length_map]
theorem yn(h:vU nm pa va ks):vU nm pa va (kg ks)∧EJ (kg ks):=by
 have hc:=h.UT;have j5:∀x t:Int,t∈tK (kg ks) x→t∈tK ks x:=fun x t ht=>((Gf hc).1 ht).2
 have XT:∀{v b q:Int},Reach (tK ks) b→rX pa va ks v b q→rX pa va (kg ks) v b q:=by
  intro v b q hr ha;obtain⟨h1,h2,h3⟩:=(u3 h.once.2).1 ha;refine(u3 (ZM hc h.once).2).2 ⟨h1,h2,h3.imp id fun⟨c,m,hd,h4⟩=>⟨c,m,?_,?_⟩⟩
  ·refine(ZH hc).2 ⟨?_,hd⟩;rcases h4 with⟨rfl,_⟩|⟨_,h5⟩
   ·exact hr
   ·exact Dm.reach hr h5
  ·exact h4.imp id fun⟨h5,h6⟩=>⟨h5,Qd1 j5 h6⟩
 have yes:∀{k:Nat} {y:gO},(kg ks)[k]?=some y→Reach (tK ks) (k:Int)→∃x,ks[k]?=some x∧y=K8 (EU (o1 ks) (k:Int)) x:=by intro k y hy hr;obtain⟨x,hx⟩:=qH hy;obtain⟨h1,_⟩:=uc hc hx hr;rw[hy]at h1;injection h1 with h1;exact⟨x,hx,h1⟩
 have no:∀{k:Nat} {y:gO},(kg ks)[k]?=some y→¬Reach (tK ks) (k:Int)→y.ah=[]∧y.insts=[]∧y.e=2∧y.v= -1:=by intro k y hy hr;obtain⟨x,hx⟩:=qH hy;obtain⟨w,hw,_,h1,h2,h3,h4⟩:=F5 hc hx hr;rw[hy]at hw;injection hw with hw;subst hw;exact⟨h1,h2,h3,h4⟩
 refine⟨⟨Qeh hc,h.name,h.par,fun y hy=> ?_,fun s hs=>h.QgM s (j5 _ _ hs),fun y hy i hi=> ?_,ZM hc h.once,fun y hy i hi a ha=> ?_,fun y hy hf=> ?_,fun k y hy hk j i hi a ha=> ?_,fun k y hy hk hf=> ?_,fun k y hy p hp=> ?_⟩,⟨fun t ht=>(Lb hc).2 ((Pk hc).1 ht),fun k y hy p hp s hs=> ?_⟩⟩
 ·obtain⟨x,hx,rfl⟩:=yes hy .zero;show x.ah.map _=[];rw[h.uJ x hx];rfl
 ·obtain⟨k,hk⟩:=List.mem_iff_getElem?.1 hy;by_cases hr:Reach (tK ks) (k:Int)
  ·obtain⟨x,hx,rfl⟩:=yes hk hr;exact h.Xv x (List.mem_of_getElem? hx) i hi
  ·rw[(no hk hr).2.1]at hi;cases hi
 ·obtain⟨k,hk⟩:=List.mem_iff_getElem?.1 hy;by_cases hr:Reach (tK ks) (k:Int)
  ·obtain⟨x,hx,rfl⟩:=yes hk hr;exact h.iv x (List.mem_of_getElem? hx) i hi a ha
  ·rw[(no hk hr).2.1]at hi;cases hi
 ·obtain⟨k,hk⟩:=List.mem_iff_getElem?.1 hy;by_cases hr:Reach (tK ks) (k:Int)
  ·obtain⟨x,hx,rfl⟩:=yes hk hr;exact h.fv x (List.mem_of_getElem? hx) hf
  ·have h1:=(no hk hr).2.2;rcases hf with hf|⟨_,hf⟩
   ·omega
   ·exact absurd h1.2 hf
 ·have hr:=(Lb hc).1 hk;obtain⟨x,hx,rfl⟩:=yes hy hr;exact XT hr (h.ins k x hx hr j i hi a ha)
 ·have hr:=(Lb hc).1 hk;obtain⟨x,hx,rfl⟩:=yes hy hr;exact XT hr (h.fin k x hx hr hf)
 ·by_cases hr:Reach (tK ks) (k:Int)
  ·obtain⟨x,hx,rfl⟩:=yes hy hr;obtain⟨q,hq,rfl⟩:=List.mem_map.1 (show p∈x.ah.map _ from hp);have hP:=h.pK k x hx q hq;have Oe:=Qei (S:=EU (o1 ks) (k:Int)) hP.len;refine⟨Qbg _ _,by rw[Oe];exact hP.nd.sublist List.filter_sublist,fun s hs=> ?_,fun s hs=> ?_,fun a ha=> ?_,fun i s a hs ha hrs xG=> ?_⟩
   ·rw[Oe]at hs;rw[o2];exact hP.yW s (List.mem_filter.1 hs).1
   ·rw[Oe];have h1:=(Gf hc).1 hs;exact List.mem_filter.2 ⟨hP.all s h1.2,by simpa using(Pl hc).2 h1⟩
   ·obtain⟨i,hi⟩:=List.mem_iff_getElem?.1 ha;obtain⟨s,hs⟩:=bu (l:=(ke (EU (o1 ks) (k:Int)) q).from_) (i:=i) (by rw[←Qbg];exact(List.getElem?_eq_some_iff.1 hi).1);obtain⟨_,j,_,hj⟩:=Qal hs hi;exact hP.yc a (List.mem_of_getElem? hj)
   ·obtain⟨h1,j,hj,hja⟩:=Qal hs ha;have h2:=(Pl hc).1 h1;exact XT h2.1 (hP.av j s a hj hja h2.1 h2.2)
  ·rw[(no hy hr).1]at hp;cases hp
 ·by_cases hr:Reach (tK ks) (k:Int)
  ·obtain⟨x,hx,rfl⟩:=yes hy hr;obtain⟨q,hq,rfl⟩:=List.mem_map.1 (show p∈x.ah.map _ from hp);obtain⟨i,hi⟩:=List.mem_iff_getElem?.1 hs;obtain⟨a,ha⟩:=bu (l:=(ke (EU (o1 ks) (k:Int)) q).args) (i:=i) (by rw[Qbg];exact(List.getElem?_eq_some_iff.1 hi).1);obtain⟨h1,_⟩:=Qal hi ha;exact(Gf hc).2 ((Pl hc).1 h1)
  ·rw[(no hy hr).1]at hp;cases hp
end
end Go.Mor
namespace Go.Mor
def QeX(a b:Int):Int:=IntKind.i64.wrap ((BitVec.ofInt 64 a&&&BitVec.ofInt 64 b).toNat:Int)
def XM(a b:Int):Int:=IntKind.i64.wrap ((BitVec.ofInt 64 a|||BitVec.ofInt 64 b).toNat:Int)
def QbB(a b:Int):Int:=IntKind.i64.wrap ((BitVec.ofInt 64 a^^^BitVec.ofInt 64 b).toNat:Int)
def nW(b:Int):Int:=IntKind.u64.wrap ((BitVec.ofInt 64 (IntKind.u64.wrap b)&&&BitVec.ofInt 64 63).toNat:Int)
def QeY(a n:Int):Int:=IntKind.i64.wrap (a*2^min n.toNat 64)
def Qej(a n:Int):Int:=a.fdiv (2^min n.toNat 64)
def xN(op a b:Int):Int×Int:=if b=0 then(0,3)else if b= -1∧op=4 then(IntKind.i64.wrap (0-a),0)else if b= -1 then(0,0)else if op=4 then(IntKind.i64.wrap (a.tdiv b),0)else(a.tmod b,0)
def nI(op a b:Int):Int×Int:=if op=1 then(IntKind.i64.wrap (a+b),0)else if op=2 then(IntKind.i64.wrap (a-b),0)else if op=3 then(IntKind.i64.wrap (a*b),0)else if op=4∨op=5 then xN op a b else if op=6 then(QeX a b,0)else if op=7 then(XM a b,0)else if op=8 then(QbB a b,0)else if op=9 then(QeY a (nW b),0)else if op=10 then(Qej a (nW b),0)else if op=11 then(EK (decide (a=b)),0)else if op=12 then(EK (a !=b),0)else if op=13 then(EK (decide (a<b)),0)else if op=14 then(EK (decide (a≤b)),0)else if op=15 then(EK (decide (a>b)),0)else if op=16 then(EK (decide (a≥b)),0)else(0,-1)
def Gh(op a:Int):Int×Int:=if op=1 then(IntKind.i64.wrap (0-a),0)else if op=2 then(QbB (-1) a,0)else if op=3 then(EK (decide (a=0)),0)else(0,-1)
theorem Qc6{op a b:Int}(h:b=0):xN op a b=(0,3):=by unfold xN;rw[if_pos h]
theorem Qc7{op a b:Int}(h:b= -1)(h1:op=4):xN op a b=(IntKind.i64.wrap (0-a),0):=by unfold xN;rw[if_neg oM,if_pos ⟨h,h1⟩]
theorem Qc8{op a b:Int}(h:b= -1)(h1:op≠4):xN op a b=(0,0):=by unfold xN;rw[if_neg oM,if_neg (fun e=>h1 e.2),if_pos h]
theorem Qc9{op a b:Int}(h:b≠0)(h2:b≠-1)(h1:op=4):xN op a b=(IntKind.i64.wrap (a.tdiv b),0):=by unfold xN;rw[if_neg h,if_neg (fun e=>h2 e.1),if_neg h2,if_pos h1]
theorem Qda{op a b:Int}(h:b≠0)(h2:b≠-1)(h1:op≠4):xN op a b=(a.tmod b,0):=by unfold xN;rw[if_neg h,if_neg (fun e=>h2 e.1),if_neg h2,if_neg h1]
theorem QcG{op a b:Int}(h:¬(1≤op∧op≤16)):nI op a b=(0,-1):=by
 unfold nI;rw[if_neg oM,if_neg oM,if_neg oM,if_neg oM,if_neg oM,if_neg oM,if_neg oM,if_neg oM,if_neg oM,if_neg oM,if_neg oM,if_neg oM,if_neg oM,if_neg oM,if_neg oM]
theorem QdC{op a b:Int}(h:op=4∨op=5):nI op a b=((xN op a b).1,(xN op a b).2):=by
 unfold nI;rw[if_neg oM,if_neg oM,if_neg oM,if_pos h]
theorem Qd3{op a:Int}(h1:¬op=1)(h2:¬op=2)(h3:¬op=3):Gh op a=(0,-1):=by unfold Gh;rw[if_neg h1,if_neg h2,if_neg h3]
section
variable {op a b : Int}
theorem bo1(h:op=1:=by assumption):nI op a b=(IntKind.i64.wrap (a+b),0):=by subst h;rfl
theorem bo2(h:op=2:=by assumption):nI op a b=(IntKind.i64.wrap (a-b),0):=by subst h;rfl
theorem bo3(h:op=3:=by assumption):nI op a b=(IntKind.i64.wrap (a*b),0):=by subst h;rfl
theorem bo6(h:op=6:=by assumption):nI op a b=(QeX a b,0):=by subst h;rfl
theorem bo7(h:op=7:=by assumption):nI op a b=(XM a b,0):=by subst h;rfl
theorem bo8(h:op=8:=by assumption):nI op a b=(QbB a b,0):=by subst h;rfl
theorem bo9(h:op=9:=by assumption):nI op a b=(QeY a (nW b),0):=by subst h;rfl
theorem QhZ(h:op=10:=by assumption):nI op a b=(Qej a (nW b),0):=by subst h;rfl
theorem Qh0(h:op=11:=by assumption):nI op a b=(EK (decide (a=b)),0):=by subst h;rfl
theorem Qh1(h:op=12:=by assumption):nI op a b=(EK (a !=b),0):=by subst h;rfl
theorem Qh2(h:op=13:=by assumption):nI op a b=(EK (decide (a<b)),0):=by subst h;rfl
theorem Qh3(h:op=14:=by assumption):nI op a b=(EK (decide (a≤b)),0):=by subst h;rfl
theorem Qh4(h:op=15:=by assumption):nI op a b=(EK (decide (a>b)),0):=by subst h;rfl
theorem Qh5(h:op=16:=by assumption):nI op a b=(EK (decide (a≥b)),0):=by subst h;rfl
theorem uo1(h:op=1:=by assumption):Gh op a=(IntKind.i64.wrap (0-a),0):=by subst h;rfl
theorem uo2(h:op=2:=by assumption):Gh op a=(QbB (-1) a,0):=by subst h;rfl
theorem uo3(h:op=3:=by assumption):Gh op a=(EK (decide (a=0)),0):=by subst h;rfl
end
structure PSt where
 mem:ar
 next:Int
 pos:Nat
 out:ar
 steps:Int
 opened:Int
inductive Got(α:Type)where
 |ok(a:α)(s:PSt)
 |stop(k c:Int)(s:PSt)
structure RFn where
 nm:cV
 wk:Bool
 pa:Int
 va:Int
 A:aX
 c:Nat
 blks:List ay
 qA:aX
 qc:Nat
 bS:List (aX×Nat×ar)
structure Env0 where
 fns:List RFn
 names:List (cV×Int)
 data:List (cV×Int)
 inp:ar
 qd:Nat
 fuel:Int
def atS(n:Int)(s:PSt):Got Nat:=if n<1∨n≥s.next then .stop 5 0 s else .ok n.toNat s
def a0(l:ar):Int:=l.getD 0 0
def a1(l:ar):Int:=l.getD 1 0
theorem PA{n:Int}{s:PSt}(h:n<1∨n≥s.next):atS n s= .stop 5 0 s:=by unfold atS;rw[if_pos h]
end Go.Mor
namespace Go.Mor
open Go.RowKit
abbrev KN:=List (Bool×Int)
def XU(kn:KN)(v:Int):Bool:=(kn.getD v.toNat (false,0)).1
def qv(kn:KN)(v:Int):Int:=(kn.getD v.toNat (false,0)).2
def wu(kn:KN)(l:ar):Bool:=l.all (XU kn)
def mi(kn:KN)(i:aO):Int×Int:=if 40≤i.op then Gh (i.op-40) (qv kn (i.args.getD 0 0))else nI (i.op-16) (qv kn (i.args.getD 0 0)) (qv kn (i.args.getD 1 0))
def q0(kn:KN)(i:aO):Prop:=16<i.op∧wu kn i.args=true∧(mi kn i).2=0
instance (kn : KN) (i : aO) : Decidable (q0 kn i) := by unfold q0; infer_instance
def rU(kn:KN)(i:aO):aO:=⟨1,i.dst,(mi kn i).1,⟨#[]⟩,none,0,[]⟩
abbrev O9:=List aO×KN×Bool
def mb(s:O9)(i:aO):O9:=if q0 s.2.1 i then(s.1++[rU s.2.1 i],s.2.1.set i.dst.toNat (true,(mi s.2.1 i).1),true)else(s.1++[i],s.2.1,s.2.2)
def oH(kn:KN)(t:Bool)(l:List aO):O9:=l.foldl mb ([],kn,t)
def Ar(kn:KN)(e v:Int):Prop:=e=1∧XU kn v=true
instance (kn : KN) (e v : Int) : Decidable (Ar kn e v) := by unfold Ar; infer_instance
def bK(kn:KN)(x:gO):gO:=if Ar (oH kn false x.insts).2.1 x.e x.v then {x with insts:=(oH kn false x.insts).1,e:=0,v:=0,a:=(if qv (oH kn false x.insts).2.1 x.v=0 then x.b else x.a),b:=0}else {x with insts:=(oH kn false x.insts).1}
def bG(kn:KN)(x:bz):bz:=if Ar (oH kn false x.insts).2.1 x.e x.v then {x with insts:=(oH kn false x.insts).1,e:=0,v:=0,a:=(if qv (oH kn false x.insts).2.1 x.v=0 then x.b else x.a),b:=0}else {x with insts:=(oH kn false x.insts).1}
abbrev StK:=List gO×KN×Bool
def yr(s:StK)(x:gO):StK:=(s.1++[bK s.2.1 x],(oH s.2.1 false x.insts).2.1,s.2.2||(oH s.2.1 false x.insts).2.2||decide (Ar (oH s.2.1 false x.insts).2.1 x.e x.v))
def nU(ks:List gO)(kn:KN):StK:=ks.foldl yr ([],kn,false)
def Au(s:List bz×KN×Bool)(x:bz):List bz×KN×Bool:=(s.1++[bG s.2.1 x],(oH s.2.1 false x.insts).2.1,s.2.2||(oH s.2.1 false x.insts).2.2||decide (Ar (oH s.2.1 false x.insts).2.1 x.e x.v))
def Qbi(gs:List bz)(kn:KN):List bz×KN×Bool:=gs.foldl Au ([],kn,false)
theorem Gi{a:List aO}{kn:KN}{t:Bool}{i:aO}(h:q0 kn i):mb (a,kn,t) i=(a++[rU kn i],kn.set i.dst.toNat (true,(mi kn i).1),true):=by
 unfold mb;rw[if_pos (show q0 (a,kn,t).2.1 i from h)]
theorem Hv{a:List aO}{kn:KN}{t:Bool}{i:aO}(h:¬q0 kn i):mb (a,kn,t) i=(a++[i],kn,t):=by
 unfold mb;rw[if_neg (show¬q0 (a,kn,t).2.1 i from h)]
theorem QfV(s:O9)(i:aO):mb (s.1.map aO.e0,s.2) i.e0=((mb s i).1.map aO.e0,(mb s i).2):=by
 unfold mb;by_cases h:q0 s.2.1 i
 ·rw[if_pos (show q0 (s.1.map aO.e0,s.2).2.1 i.e0 from h),if_pos h,List.map_append];rfl
 ·rw[if_neg (show¬q0 (s.1.map aO.e0,s.2).2.1 i.e0 from h),if_neg h,List.map_append];rfl
theorem QfW(l:List aO)(s:O9):(l.map aO.e0).foldl mb (s.1.map aO.e0,s.2)=((l.foldl mb s).1.map aO.e0,(l.foldl mb s).2):=by
 induction l generalizing s with
 |nil=>rfl
 |cons i l ih=>rw[List.map_cons,List.foldl_cons,QfV,ih,List.foldl_cons]
theorem QdD(kn:KN)(t:Bool)(l:List aO):oH kn t (l.map aO.e0)=((oH kn t l).1.map aO.e0,(oH kn t l).2):=QfW l ([],kn,t)
theorem Qh6(kn:KN)(x:bz):(bG kn x).k=bK kn x.k:=by
 unfold bG bK bz.k;show bz.k (if Ar (oH kn false x.insts).2.1 x.e x.v then _ else _)=_;simp only[QdD];split<;>rfl
theorem QfX(s:List bz×KN×Bool)(x:bz):yr (s.1.map bz.k,s.2) x.k=((Au s x).1.map bz.k,(Au s x).2):=by
 unfold yr Au;rw[List.map_append];show(s.1.map bz.k++[bK s.2.1 x.k],(oH s.2.1 false (x.insts.map aO.e0)).2.1,s.2.2||(oH s.2.1 false (x.insts.map aO.e0)).2.2||decide (Ar (oH s.2.1 false (x.insts.map aO.e0)).2.1 x.e x.v))=_;rw[QdD,←Qh6];rfl
theorem QfY(gs:List bz)(kn:KN):nU (gs.map bz.k) kn=((Qbi gs kn).1.map bz.k,(Qbi gs kn).2):=by
 unfold nU Qbi;have key:∀(l:List bz) (s:List bz×KN×Bool),(l.map bz.k).foldl yr (s.1.map bz.k,s.2)=((l.foldl Au s).1.map bz.k,(l.foldl Au s).2):=by
  intro l;induction l with
  |nil=>intro s;rfl
  |cons x l ih=>intro s;rw[List.map_cons,List.foldl_cons,QfX,ih,List.foldl_cons]
 exact key gs ([],kn,false)
theorem Qbk(l:List aO)(a:List aO)(kn:KN)(t:Bool):l.foldl mb (a,kn,t)=(a++(oH kn false l).1,(oH kn false l).2.1,t||(oH kn false l).2.2):=by
 induction l generalizing a kn t with
 |nil=>simp[oH]
 |cons i l ih=>
  unfold oH;rw[List.foldl_cons,List.foldl_cons];by_cases h:q0 kn i
  ·rw[Gi h,Gi h,ih,ih];simp
  ·rw[Hv h,Hv h,ih,ih];simp
structure Qho(kn:KN)(l:List aO)(s:O9):Prop where
 less:qF QeU l s.1
 len:s.2.1.length=kn.length
 stop:s.2.2=false→s.1=l∧s.2.1=kn∧∀i,i∈l→¬q0 kn i
 PF:(s.1.filter (fun i=>decide (16<i.op))).length+(if s.2.2 then 1 else 0)≤(l.filter (fun i=>decide (16<i.op))).length
theorem Qek{kn:KN}{i:aO}(h:q0 kn i):QeU i (rU kn i):= .inr ⟨rfl,rfl,rfl,rfl,by have:=h.1;unfold aU;omega⟩
theorem QbP(kn:KN)(l:List aO):∀m,m≤l.length→Qho kn (l.take m) (oH kn false (l.take m)):=by
 intro m;induction m with
 |zero=>intro _;exact⟨qF.nil,rfl,fun _=>⟨rfl,rfl,sI⟩,by simp[oH]⟩
 |succ m ih=>
  intro hm;have h:=ih oM;obtain⟨i,hi⟩:=bu (l:=l) (i:=m) oM;obtain⟨hk,he⟩:=List.getElem?_eq_some_iff.1 hi;have e:l.take (m+1)=l.take m++[i]:=by rw[List.take_succ_eq_append_getElem hk,he]
  have e2:oH kn false (l.take (m+1))=mb (oH kn false (l.take m)) i:=by unfold oH;rw[e,List.foldl_append];rfl
  obtain⟨s,hs⟩:∃s,s=oH kn false (l.take m):=⟨_,rfl⟩;rw[e2,←hs];rw[←hs]at h;unfold mb;by_cases hd:q0 s.2.1 i
  ·rw[if_pos hd];refine⟨by rw[e];exact h.less.snoc (Qek hd),by simp[h.len],fun h9=>(by cases h9),?_⟩;rw[e,List.filter_append,List.filter_append,List.length_append,List.length_append];have h1:=h.PF;have h2:([rU s.2.1 i].filter (fun i=>decide (16<i.op))).length=0:=rfl;have h3:([i].filter (fun i=>decide (16<i.op))).length=1:=by simp[hd.1]
   rw[h2,h3];simp only[if_true];split at h1<;>omega
  ·rw[if_neg hd];refine⟨by rw[e];exact h.less.snoc (.inl rfl),h.len,fun h9=> ?_,?_⟩
   ·obtain⟨h1,h2,h3⟩:=h.stop h9;refine⟨by rw[e];show s.1++[i]=_;rw[h1],h2,fun j hj=> ?_⟩;rw[e]at hj;rcases List.mem_append.1 hj with hj|hj
    ·exact h3 j hj
    ·rw[List.mem_singleton.1 hj,←h2];exact hd
   ·rw[e,List.filter_append,List.filter_append,List.length_append,List.length_append];have h1:=h.PF;show _+_+(if s.2.2=true then 1 else 0)≤_;omega
theorem Lc(kn:KN)(l:List aO):Qho kn l (oH kn false l):=by
 have:=QbP kn l l.length (Nat.le_refl _);rwa [List.take_length]at this
def wB(x:gO):Nat:=(x.insts.filter (fun i=>decide (16<i.op))).length+(if x.e=1 then 1 else 0)
def wK(ks:List gO):Nat:=(ks.map wB).sum
structure Qhp(kn:KN)(ks:List gO)(s:StK):Prop where
 less:qF Cm ks s.1
 len:s.2.1.length=kn.length
 stop:s.2.2=false→s.1=ks∧s.2.1=kn∧∀x,x∈ks→(∀i,i∈x.insts→¬q0 kn i)∧¬Ar kn x.e x.v
 PF:wK s.1+(if s.2.2 then 1 else 0)≤wK ks
theorem QfZ(kn:KN)(x:gO):Cm x (bK kn x):=by
 unfold bK;have h:=(Lc kn x.insts).less;by_cases he:Ar (oH kn false x.insts).2.1 x.e x.v
 ·rw[if_pos he];refine⟨rfl,rfl,h,.inr ⟨he.1,rfl,rfl,rfl,?_⟩⟩;show(if _ then x.b else x.a)=x.a∨(if _ then x.b else x.a)=x.b;split
  ·exact .inr rfl
  ·exact .inl rfl
 ·rw[if_neg he];exact⟨rfl,rfl,h,.inl ⟨rfl,rfl,rfl,rfl⟩⟩
theorem QgO(kn:KN)(x:gO):wB (bK kn x)+(if(oH kn false x.insts).2.2||decide (Ar (oH kn false x.insts).2.1 x.e x.v)then 1 else 0)≤wB x:=by
 have h:=(Lc kn x.insts).PF;unfold bK wB;by_cases he:Ar (oH kn false x.insts).2.1 x.e x.v
 ·rw[if_pos he,decide_eq_true he,Bool.or_true];have h1:=he.1;simp only[h1,if_true];show((oH kn false x.insts).1.filter (fun i=>decide (16<i.op))).length+(if(0:Int)=1 then 1 else 0)+1≤_;rw[if_neg oM];split at h<;>omega
 ·rw[if_neg he,decide_eq_false he,Bool.or_false];show((oH kn false x.insts).1.filter (fun i=>decide (16<i.op))).length+(if x.e=1 then 1 else 0)+_≤_;omega
theorem Qf0{kn:KN}{x:gO}(h1:(oH kn false x.insts).2.2=false)(h2:¬Ar (oH kn false x.insts).2.1 x.e x.v):bK kn x=x∧(oH kn false x.insts).2.1=kn:=by
 obtain⟨q1,q2,_⟩:=(Lc kn x.insts).stop h1;unfold bK;rw[if_neg h2,q1];exact⟨rfl,q2⟩
theorem QdE(kn:KN)(ks:List gO):∀m,m≤ks.length→Qhp kn (ks.take m) (nU (ks.take m) kn):=by
 intro m;induction m with
 |zero=>intro _;exact⟨qF.nil,rfl,fun _=>⟨rfl,rfl,sI⟩,by simp[nU,wK]⟩
 |succ m ih=>
  intro hm;have h:=ih oM;obtain⟨x,hx⟩:=bu (l:=ks) (i:=m) oM;obtain⟨hk,he⟩:=List.getElem?_eq_some_iff.1 hx;have e:ks.take (m+1)=ks.take m++[x]:=by rw[List.take_succ_eq_append_getElem hk,he]
  have e2:nU (ks.take (m+1)) kn=yr (nU (ks.take m) kn) x:=by unfold nU;rw[e,List.foldl_append];rfl
  obtain⟨s,hs⟩:∃s,s=nU (ks.take m) kn:=⟨_,rfl⟩;rw[e2,←hs];rw[←hs]at h;unfold yr;refine⟨by rw[e];exact h.less.snoc (QfZ _ _),by rw[←h.len];exact(Lc s.2.1 x.insts).len,fun h9=> ?_,?_⟩
  ·have h9':(s.2.2||(oH s.2.1 false x.insts).2.2||decide (Ar (oH s.2.1 false x.insts).2.1 x.e x.v))=false:=h9;rw[Bool.or_eq_false_iff,Bool.or_eq_false_iff]at h9';obtain⟨⟨h1,h2⟩,h3⟩:=h9';obtain⟨q1,q2,q3⟩:=h.stop h1;have h3:=of_decide_eq_false h3;obtain⟨q4,q5⟩:=Qf0 h2 h3;obtain⟨_,_,q6⟩:=(Lc s.2.1 x.insts).stop h2;refine⟨by rw[e];show s.1++[bK s.2.1 x]=_;rw[q1,q4],q5.trans q2,fun y hy=> ?_⟩;rw[e]at hy;rcases List.mem_append.1 hy with hy|hy
   ·exact q3 y hy
   ·rw[List.mem_singleton.1 hy,←q2];rw[q5]at h3;exact⟨q6,h3⟩
  ·have h1:=h.PF;have h2:=QgO s.2.1 x;unfold wK at h1⊢;rw[e,List.map_append,List.map_append,List.sum_append,List.sum_append];show _+[wB (bK s.2.1 x)].sum+(if(s.2.2||(oH s.2.1 false x.insts).2.2||decide (Ar (oH s.2.1 false x.insts).2.1 x.e x.v))=true then 1 else 0)≤_+[wB x].sum;simp only[List.sum_cons,List.sum_nil,Nat.add_zero];cases mT:s.2.2 with
   |true=>
    rw[mT]at h1;simp only[if_true,Bool.true_or]at h1⊢;split at h2<;>omega
   |false=>
    rw[mT]at h1;simp only[Bool.false_or]at h1⊢;have h1':(List.map wB s.1).sum≤(List.map wB (List.take m ks)).sum:=by simpa using h1
    split at h2
    ·rename_i hq;rw[if_pos hq];omega
    ·rename_i hq;rw[if_neg hq];omega
theorem QeZ(ks:List gO)(kn:KN):Qhp kn ks (nU ks kn):=by
 have:=QdE kn ks ks.length (Nat.le_refl _);rwa [List.take_length]at this
end Go.Mor
namespace Go.Mor
open Go.RowKit
theorem Qd4(x:Int):In64 (IntKind.i64.wrap x):=by
 have h:∀m:Int,0≤m→m<18446744073709551616→In64 (if 9223372036854775808≤m then m-18446744073709551616 else m):=fun m h0 h1=>by
  unfold In64;by_cases hm:9223372036854775808≤m
  ·rw[if_pos hm];omega
  ·rw[if_neg hm];omega
 have h2:=h (x % 18446744073709551616) oM oM;unfold IntKind.wrap;simpa[IntKind.signed,IntKind.bits]using h2
theorem Fa:In64 0:=⟨dQ,dQ⟩
theorem Qdb(b:Bool):In64 (EK b):=by cases b<;>exact⟨dQ,dQ⟩
theorem Qf1{a b:Int}(h:In64 a):In64 (a.tmod b):=by
 unfold In64 at*;have h2:(a.tmod b).natAbs≤a.natAbs:=by rw[Int.natAbs_tmod];exact Nat.mod_le _ _
 by_cases h0:0≤a
 ·have:=Int.tmod_nonneg b h0;omega
 ·have h3:=Int.tmod_nonneg b (show 0≤-a by omega);rw[Int.neg_tmod]at h3;omega
theorem Qf2{a:Int}{n:Nat}(h:In64 a):In64 (a.fdiv (2^n)):=by
 unfold In64 at*;have hp:(1:Int)≤2^n:=by have:(1:Nat)≤2^n:=Nat.one_le_two_pow;exact_mod_cast this
 rw[Int.fdiv_eq_ediv_of_nonneg _ oM];by_cases h0:0≤a
 ·have h1:=Int.ediv_le_self (2^n:Int) h0;have h2:0≤a / 2^n:=Int.ediv_nonneg h0 oM;omega
 ·have h1:a / 2^n<0:=Int.ediv_lt_of_lt_mul oM oM;have h2:a≤a / 2^n:=by rw[Int.le_ediv_iff_mul_le oM];have h4:=Int.mul_le_mul_of_nonneg_left hp (show 0≤-a by omega);rw[Int.neg_mul,Int.neg_mul]at h4;omega
  omega
theorem QcH{P:Prop}[Decidable P]{p q:Int×Int}(hp:In64 p.1)(hq:In64 q.1):In64 (if P then p else q).1:=by
 split
 ·exact hp
 ·exact hq
theorem QgP{op a b:Int}(ha:In64 a):In64 (nI op a b).1:=by
 unfold nI xN Qej;repeat' apply QcH
 all_goals first|exact Qd4 _|exact Fa|exact Qdb _|exact Qf1 ha|exact Qf2 ha
theorem Qhq{op a:Int}:In64 (Gh op a).1:=by
 unfold Gh;repeat' apply QcH
 all_goals first|exact Qd4 _|exact Fa|exact Qdb _
def sX(ks:List gO):List aO:=ks.flatMap (fun x=>x.insts)
def vk(kn:KN)(l:List aO):Prop:=∀i,i∈l→i.op=1→kn.getD i.dst.toNat (false,0)=(true,i.n)
structure rI(n:Nat)(l:List aO):Prop where
 nd:((l.filter (fun i=>decide (aU i.op))).map (fun i=>i.dst)).Nodup
 yW:∀i,i∈l→aU i.op→0≤i.dst∧i.dst.toNat<n
theorem NQ:aU 1:=by unfold aU;omega
theorem QcI{α:Type}{l:List α}{i j:Nat}{a d:α}:(l.set i a).getD j d=if i=j∧i<l.length then a else l.getD j d:=by
 rw[List.getD_eq_getElem?_getD,List.getD_eq_getElem?_getD,List.getElem?_set];by_cases e:i=j
 ·subst e;by_cases hl:i<l.length
  ·rw[if_pos rfl,if_pos hl,if_pos ⟨rfl,hl⟩];rfl
  ·rw[if_pos rfl,if_neg hl,if_neg (fun h=>hl h.2),List.getElem?_eq_none oM]
 ·rw[if_neg e,if_neg (fun h=>e h.1)]
theorem rI.mid{n:Nat}{a r:List aO}{i j:aO}(h:rI n (a++i::r))(hi:aU i.op)(hj:aU j.op)(hm:j∈a++r):j.dst≠i.dst:=by
 have h1:=h.nd;rw[List.filter_append,List.filter_cons,if_pos (by simp[hi]),List.map_append,List.map_cons,List.nodup_append]at h1;obtain⟨_,h3,h4⟩:=h1;rcases List.mem_append.1 hm with h5|h5
 ·exact h4 j.dst (List.mem_map.2 ⟨j,List.mem_filter.2 ⟨h5,by simp[hj]⟩,rfl⟩) i.dst (List.mem_cons_self ..)
 ·intro e;exact(List.nodup_cons.1 h3).1 (e▸List.mem_map.2 ⟨j,List.mem_filter.2 ⟨h5,by simp[hj]⟩,rfl⟩)
theorem rI.put{n:Nat}{a r:List aO}{i i':aO}(h:rI n (a++i::r))(hi:aU i.op)(ln:aU i'.op)(hd:i'.dst=i.dst):rI n (a++i'::r):=by
 refine⟨?_,fun j hj hm=> ?_⟩
 ·have h1:=h.nd;rw[List.filter_append,List.filter_cons,if_pos (by simp[hi]),List.map_append,List.map_cons]at h1;rw[List.filter_append,List.filter_cons,if_pos (by simp[ln]),List.map_append,List.map_cons,hd];exact h1
 ·rcases List.mem_append.1 hj with h1|h1
  ·exact h.yW j (List.mem_append_left _ h1) hm
  ·rcases List.mem_cons.1 h1 with h1|h1
   ·subst h1;rw[hd];exact h.yW i sI hi
   ·exact h.yW j (by simp[h1]) hm
theorem rI.ne{n:Nat}{a r:List aO}{i j:aO}(h:rI n (a++i::r))(hi:aU i.op)(hj:aU j.op)(hm:j∈a++r):j.dst.toNat≠i.dst.toNat:=by
 have h1:=h.mid hi hj hm;have h2:=(h.yW i sI hi).1;have h3:=(h.yW j (by rcases List.mem_append.1 hm with h|h<;>simp[h]) hj).1;omega
theorem Qf3{kn:KN}{a r:List aO}{i:aO}(hn:rI kn.length (a++i::r))(hk:vk kn (a++i::r))(hd:q0 kn i):vk (kn.set i.dst.toNat (true,(mi kn i).1)) (a++rU kn i::r):=by
 have hi:aU i.op:=by have:=hd.1;unfold aU;omega
 intro j hj h1;rw[QcI];have key:j∈a++r→(if i.dst.toNat=j.dst.toNat∧i.dst.toNat<kn.length then(true,(mi kn i).1)else kn.getD j.dst.toNat (false,0))=(true,j.n):=by intro hm;have:=hn.ne hi (by rw[h1];exact NQ) hm;rw[if_neg (fun h=>this h.1.symm)];exact hk j (by rcases List.mem_append.1 hm with h|h<;>simp[h]) h1
 rcases List.mem_append.1 hj with h2|h2
 ·exact key (List.mem_append_left _ h2)
 ·rcases List.mem_cons.1 h2 with h2|h2
  ·subst h2;rw[if_pos ⟨rfl,(hn.yW i sI hi).2⟩];rfl
  ·exact key (List.mem_append_right _ h2)
theorem QcJ:∀(l a:List aO) (kn:KN) (t:Bool),rI kn.length (a++l)→vk kn (a++l)→rI kn.length (l.foldl mb (a,kn,t)).1∧vk (l.foldl mb (a,kn,t)).2.1 (l.foldl mb (a,kn,t)).1∧(l.foldl mb (a,kn,t)).2.1.length=kn.length
 |[],a,kn,t,hn,hk=>by rw[List.append_nil]at hn hk;exact⟨hn,hk,rfl⟩
 |i::l,a,kn,t,hn,hk=>by
  rw[List.foldl_cons];by_cases hd:q0 kn i
  ·rw[Gi hd];have hi:aU i.op:=by have:=hd.1;unfold aU;omega
   have e:a++rU kn i::l=(a++[rU kn i])++l:=sI;have h1:=hn.put hi (i':=rU kn i) NQ rfl;have h2:=Qf3 hn hk hd;rw[e]at h1 h2;have hl:(kn.set i.dst.toNat (true,(mi kn i).1)).length=kn.length:=List.length_set;have:=QcJ l (a++[rU kn i]) (kn.set i.dst.toNat (true,(mi kn i).1)) true (by rw[hl];exact h1) h2;rwa [hl]at this
  ·rw[Hv hd];have e:a++i::l=(a++[i])++l:=sI;rw[e]at hn hk;exact QcJ l (a++[i]) kn t hn hk
theorem Qbm(kn:KN)(x:gO):(bK kn x).insts=(oH kn false x.insts).1:=by unfold bK;split<;>rfl
theorem QbQ:∀(ks done:List gO) (kn:KN) (t:Bool),sX (ks.foldl yr (done,kn,t)).1=((sX ks).foldl mb (sX done,kn,t)).1∧(ks.foldl yr (done,kn,t)).2.1=((sX ks).foldl mb (sX done,kn,t)).2.1
 |[],done,kn,t=>⟨rfl,rfl⟩
 |x::ks,done,kn,t=>by
  have e:sX (x::ks)=x.insts++sX ks:=rfl;rw[List.foldl_cons,e,List.foldl_append,Qbk x.insts];have e2:sX (done++[bK kn x])=sX done++(oH kn false x.insts).1:=by unfold sX;rw[List.flatMap_append,List.flatMap_cons,List.flatMap_nil,List.append_nil,Qbm]
  obtain⟨h1,h2⟩:=QbQ ks (done++[bK kn x]) (oH kn false x.insts).2.1 (t||(oH kn false x.insts).2.2||decide (Ar (oH kn false x.insts).2.1 x.e x.v));rw[e2]at h1 h2;have ht:∀(l a:List aO) (kn:KN) (t t':Bool),(l.foldl mb (a,kn,t)).1=(l.foldl mb (a,kn,t')).1∧(l.foldl mb (a,kn,t)).2.1=(l.foldl mb (a,kn,t')).2.1:=by intro l a kn t t';rw[Qbk,Qbk l a kn t'];exact⟨rfl,rfl⟩
  refine⟨h1.trans (ht _ _ _ _ _).1,h2.trans (ht _ _ _ _ _).2⟩
theorem Qf4{ks:List gO}{kn:KN}(hn:rI kn.length (sX ks))(hk:vk kn (sX ks)):vk (nU ks kn).2.1 (sX (nU ks kn).1)∧(nU ks kn).2.1.length=kn.length:=by
 obtain⟨h1,h2⟩:=QbQ ks [] kn false;obtain⟨_,h3,h4⟩:=QcJ (sX ks) [] kn false hn hk;have e:sX ([]:List gO)=[]:=rfl;rw[e]at h1 h2;unfold nU;rw[h1,h2];exact⟨h3,h4⟩
def kt(l:List aO)(z:KN):KN:=l.foldl (fun kn i=>if i.op=1 then kn.set i.dst.toNat (true,i.n)else kn) z
def qN(ks:List gO)(n:Nat):KN:=kt (sX ks) (List.replicate n (false,0))
theorem BX(l:List aO)(z:KN):(kt l z).length=z.length:=by
 unfold kt;induction l generalizing z with
 |nil=>rfl
 |cons i l ih=>rw[List.foldl_cons,ih];split<;>simp
theorem Xl(l:List aO)(i:aO)(z:KN):kt (l++[i]) z=if i.op=1 then(kt l z).set i.dst.toNat (true,i.n)else kt l z:=by unfold kt;rw[List.foldl_append];rfl
theorem Qe0{l:List aO}{n:Nat}(hn:rI n l):∀m,m≤l.length→vk (kt (l.take m) (List.replicate n (false,0))) (l.take m):=by
 intro m;induction m with
 |zero=>intro _ i hi;simp at hi
 |succ m ih=>
  intro hm i hi h1;have h:=ih oM;obtain⟨a,ha⟩:=bu (l:=l) (i:=m) oM;have e:l=l.take m++a::l.drop (m+1):=by conv=>lhs;rw[←List.take_append_drop m l,BW ha]
  have e1:l.take (m+1)=l.take m++[a]:=by obtain⟨q1,q2⟩:=List.getElem?_eq_some_iff.1 ha;rw[List.take_succ_eq_append_getElem q1,q2]
  rw[e1,Xl];rw[e1]at hi;have hl:=BX (l.take m) (List.replicate n (false,0));rw[List.length_replicate]at hl;rw[e]at hn;have hlen:(kt (l.take m) (List.replicate n (false,(0:Int)))).length=n:=hl;rcases List.mem_append.1 hi with hi|hi
  ·split
   ·rename_i L2;have:=hn.ne (by rw[L2];exact NQ) (j:=i) (by rw[h1];exact NQ) (List.mem_append_left _ hi);rw[QcI,if_neg (fun h=>this h.1.symm)];exact h i hi h1
   ·exact h i hi h1
  ·rw[List.mem_singleton]at hi;subst hi;rw[if_pos h1,QcI,if_pos ⟨rfl,by rw[hlen];exact(hn.yW i sI (by rw[h1];exact NQ)).2⟩]
theorem Qbn{ks:List gO}{n:Nat}(hn:rI n (sX ks)):vk (qN ks n) (sX ks):=by
 have:=Qe0 hn (sX ks).length (Nat.le_refl _);rwa [List.take_length]at this
theorem QcK{pa va:Int}{ks:List gO}{n:Nat}(hp:0≤pa)(kx:va=(n:Int))(h:ey pa va (bF (fK ks))):rI n (sX ks):=by
 refine⟨?_,fun i hi hm=> ?_⟩
 ·have h2:=h.2;rw[pf]at h2;refine h2.sublist ?_;unfold sX;rw[List.filter_flatMap,List.map_flatMap,show fK ks=ks.map gO.f from rfl,List.flatMap_map];refine ZL ⟨rfl,fun i a b ha hb=> ?_⟩;rw[ha]at hb;injection hb with hb;subst hb;exact List.sublist_append_right _ _
 ·obtain⟨x,hx,hi⟩:=List.mem_flatMap.1 hi;obtain⟨k,hk⟩:=List.mem_iff_getElem?.1 hx;obtain⟨j,hj⟩:=List.mem_iff_getElem?.1 hi;have:=h.1 _ (sq.2 ⟨k,x.f,K3 hk,rfl,.inr ⟨j,i,hj,hm,rfl,rfl⟩⟩);have h1:pa≤i.dst:=this.1;have h2:i.dst<va:=this.2;omega
end Go.Mor
