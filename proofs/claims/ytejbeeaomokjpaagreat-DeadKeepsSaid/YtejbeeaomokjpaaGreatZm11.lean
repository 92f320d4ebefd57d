/-
  Texts of the proof, part 11.
-/
import Derived.Test.YtejbeeaomokjpaaGreatZm10
import Derived.Test.YtejbeeaomokjpaaGreatRows
set_option maxRecDepth 10000
namespace Go.Proofs.YtejbeeaomokjpaaGreat
open Go.Mor
theorem QeL(l:af)(k:Int)(A:ar)(c:Nat)(w:World)(hm:l.length≤1000000)(hA:RO bq w (.rd A (ints l))):Calls Tryz.prog 61 #[vS A l.length c,vI k] w (ez fun v w'=>v=vB (l.contains k)∧Mem bq w w' []):=by
 refine fv 18 [vS A l.length c,vI k] Tryz.func61 ?_;have hM:=Mem.init w;refine aX<|ba<|aX<|cr 0 ?_;intro aC fr;refine fk (fun n_ a_ w_=>∃(j:Nat),n_=l.length-j∧Fr a_ 18 [(0,vS A l.length c),(1,vI k),(5,nV j)]∧Mem bq w w_ []∧(j≤l.length)∧((l.take j).contains k=false)) (n:=_) ⟨0,rfl,fr.kp [0,1,5],hM,oM,sI⟩ ?_;clear fr aC hM;rintro n aC w3 ⟨j,rfl,fr,M4,hj,hn⟩;revert aC;refine ba<|aI<|ah 3<|jP (decide ((j:Int)<(l.length:Int))) fun B7 Fj=> ?_
 refine ay ?_;cases B7;have c7:¬((j:Int)<(l.length:Int)):=of_decide_eq_false Fj.symm;refine fT<|eW 0<|eX<|aX<|bL<|cv (vB false) ?_;exact⟨by rw[Qbx hn oM],M4⟩;have c7:(j:Int)<(l.length:Int):=of_decide_eq_true Fj.symm;refine fm<|bP<|ba<|cr 1<|aI<|ah 2 ?_;obtain⟨pN,rfl⟩:=tl (M4.ro hA) oM;refine ej pN l.length 1 (j:Int)<|bt (aN pN (j:Int) 1) _ (dZ (M4.ro hA) rfl oM oM)<|ah 1<|jP ((l.getD (j:Int).toNat 0)==k) fun Qd rK=> ?_
 refine ay ?_;cases Qd;have yk:¬((l.getD (j:Int).toNat 0)=k):=L3 rK;refine fT<|bP<|cG<|ah 1<|cZ ((j:Int)+1)<|ah 1<|ay ?_;intro aC fr;exact⟨l.length-(j+1),oM,j+1,rfl,fr.kp [0,1,5],M4,oM,PS hn yk oM⟩;have yk:(l.getD (j:Int).toNat 0)=k:=beq_iff_eq.1 rK.symm;refine fm<|aX<|bL<|cJ<|cJ<|cv (vB true) ?_;exact⟨by rw[VJ yk oM],M4⟩
theorem yl(nm wk pa va:Value)(A:ar)(c:Nat)(bs:List SB)(b:Int)(w:World)(_hm:bs.length≤1000000)(hA:RO bq w (.blocks A bs)):Calls Tryz.prog 60 #[(.agg #[nm,wk,pa,va,vS A bs.length c]),vI b] w (ez fun v w'=>∃A' c',v=vS A' (tg bs b).length c'∧Mem bq w w' [.row 3 1 A' (tg bs b).length c' (ints (tg bs b))]):=by
 refine fv 74 [(.agg #[nm,wk,pa,va,vS A bs.length c]),vI b] Tryz.func60 ?_;have hM:=Mem.init w;refine aI<|ou hM 30 (.agg #[nm,wk,pa,va,vS A bs.length c]) [nm,wk,pa,va,vS A bs.length c] fun b1 w2 jU M3=> ?_
 replace M3:=M3.nf;clear hM;refine ah 1<|ay<|ba<|aI<|ah 1<|jP (decide (b<0)) fun Blo Fk=> ?_
 refine ah 1 ?_;cases Blo;have clo:¬(b<0):=of_decide_eq_false Fk.symm;refine ah 2<|bt (ao b1 4) _ (ae (M3.get 0 rfl) rfl)<|ah 1<|jP (decide (b≥(bs.length:Int))) fun Bhi Il=> ?_
 refine ah 1<|ay ?_;cases Bhi;have chi:¬(b≥(bs.length:Int)):=of_decide_eq_false Il.symm;refine fT<|bP<|aI ?_;obtain⟨x,hx⟩:=PR (l:=bs) (i:=b) oM oM;refine ah 1<|bt (ao b1 4) _ (ae (M3.get 0 rfl) rfl)<|ah 1 ?_;obtain⟨ym,rfl⟩:=ek (M3.ro hA) hx;refine ej ym bs.length 6 b<|ga (aN ym (b) 6) [vS x.pA x.pn x.pc,vS x.iA x.ik x.ic,vI x.e,vI x.v,vI x.a,vI x.b] (sd (M3.ro hA) rfl hx)<|na M3 49 [an,an,vI 0,vI 0,vI 0,vI 0] fun b5 w6 hb5 M7=> ?_
 replace M7:=M7.nf;refine ng M7 1 [vS x.pA x.pn x.pc,vS x.iA x.ik x.ic,vI x.e,vI x.v,vI x.a,vI x.b] rfl fun w8 M9=> ?_
 replace M9:=M9.nf;refine da [2,5]<|ay<|aX<|ba ?_;intro aC fr;refine AZ (fun a_ w_=>Fr a_ 74 [(2,pT b1 0),(5,pT b5 0),(6,an)]∧Mem bq w w_ [.aB b1 30 [nm,wk,pa,va,vS (some ym) bs.length c],.aB b5 49 [vS x.pA x.pn x.pc,vS x.iA x.ik x.ic,vI x.e,vI x.v,vI x.a,vI x.b]]∧(x.e=0∨x.e=1)) ?_ ?_;clear fr aC M9;rintro aC V6 ⟨fr,oB,he⟩;revert aC;refine ba ?_;intro aC fr;refine AZ (fun a_ w_=>∃(A1:ar) (n1:Nat) (c1:Nat) (l1:af),Fr a_ 74 [(2,pT b1 0),(5,pT b5 0),(6,vS A1 n1 c1)]∧Mem bq w w_ [.aB b1 30 [nm,wk,pa,va,vS (some ym) bs.length c],.aB b5 49 [vS x.pA x.pn x.pc,vS x.iA x.ik x.ic,vI x.e,vI x.v,vI x.a,vI x.b],.row 3 1 A1 n1 c1 (ints l1)]∧(l1=UW bs.length x)∧(n1=l1.length)) ?_ ?_;clear fr aC oB;rintro aC w18 ⟨A1,n1,c1,l1,fr,mR,qe,Di⟩;revert aC;refine ba ?_;intro aC fr;refine AZ (fun a_ w_=>∃(A2:ar) (n2:Nat) (c2:Nat) (l2:af),Fr a_ 74 [(6,vS A2 n2 c2)]∧Mem bq w w_ [.aB b1 30 [nm,wk,pa,va,vS (some ym) bs.length c],.aB b5 49 [vS x.pA x.pn x.pc,vS x.iA x.ik x.ic,vI x.e,vI x.v,vI x.a,vI x.b],.row 3 1 A2 n2 c2 (ints l2)]∧(l2=UW bs.length x++rt2 bs.length x)∧(n2=l2.length)) ?_ ?_;clear fr aC mR;rintro aC w24 ⟨A2,n2,c2,l2,fr,L8,BA,KD⟩;revert aC;refine aX<|bL<|cv (vS A2 n2 c2) ?_;exact oi (L8.pick [false,false,true] rfl) (by rw[BA,rt_eq he,x8 oM hx]) KD;revert aC;refine aI<|ah 1<|bt (ao b5 2) _ (ae (mR.get 1 rfl) rfl)<|jP (x.e==1) fun Bf1 QeM=> ?_
 refine ah 1 ?_;cases Bf1;have cf1:¬(x.e=1):=L3 QeM;refine ah 19<|ay<|fT<|bP ?_;intro aC fr;exact⟨A1,n1,c1,l1,fr.kp [6],mR,by rw[C4 oM,List.append_nil];exact qe,Di⟩;have cf1:x.e=1:=beq_iff_eq.1 QeM.symm;refine ah 1<|bt (ao b5 5) _ (ae (mR.get 1 rfl) rfl)<|ah 1<|bt (ao b5 4) _ (ae (mR.get 1 rfl) rfl)<|jP (x.b !=x.a) fun Bab Dj=> ?_
 refine ah 2 ?_;cases Bab;have cab:¬(x.b≠x.a):=znn Dj;refine ah 12<|ay<|fT<|bP ?_;intro aC fr;exact⟨A1,n1,c1,l1,fr.kp [6],mR,by rw[C4 oM,List.append_nil];exact qe,Di⟩;have cab:x.b≠x.a:=bne_iff_ne.1 Dj.symm;refine ah 1<|bt (ao b5 5) _ (ae (mR.get 1 rfl) rfl)<|jP (decide (x.b≥0)) fun Bb0 QeN=> ?_
 refine ah 2 ?_;cases Bb0;have cb0:¬(x.b≥0):=of_decide_eq_false QeN.symm;refine ah 7<|ay<|fT<|bP ?_;intro aC fr;exact⟨A1,n1,c1,l1,fr.kp [6],mR,by rw[C4 oM,List.append_nil];exact qe,Di⟩;have cb0:x.b≥0:=of_decide_eq_true QeN.symm;refine ah 1<|bt (ao b5 5) _ (ae (mR.get 1 rfl) rfl)<|ah 1<|bt (ao b1 4) _ (ae (mR.get 0 rfl) rfl)<|ah 1<|jP (decide (x.b<(bs.length:Int))) fun Bb1 QeO=> ?_
 refine ah 1<|ay ?_;cases Bb1;have cb1:¬(x.b<(bs.length:Int)):=of_decide_eq_false QeO.symm;refine fT<|bP ?_;intro aC fr;exact⟨A1,n1,c1,l1,fr.kp [6],mR,by rw[C4 oM,List.append_nil];exact qe,Di⟩;have cb1:x.b<(bs.length:Int):=of_decide_eq_true QeO.symm;refine fm<|cG<|ah 2<|bt (ao b5 5) _ (ae (mR.get 1 rfl) rfl)<|da [68,70] ?_;intro aC fr;refine nX 71 43 1 #[(0,.tmp 70)] 43 fr (e:=3) (size:=1) (zs:=[vI 0]) (vs:=[(0,vI x.b)]) (cs:=[vI x.b]) mR ?_;intro b36 w37 hb36 _ vw _ aC ea fr;clear ea;replace vw:=vw.nf;refine wz 72 (.tmp 68) (.tmp 71) 43 43 fr (e:=3) (size:=1) (bytes:=8) (z:=(vI 0)) (A:=A1) (B:=(sM b36)) (n:=n1) (cap:=c1) (m:=1) (cap':=1) (xs:=(ints l1)) (news:=[vI x.b]) vw 2 rfl (aD (vw.get 3 rfl)) rfl (by simp[Value.oneCell']) (by have:=Kj bs.length x;rw[qe]at Di;omega) (by have:=Kj bs.length x;rw[qe]at Di;simp only[maxLen];omega) ?_;intro A43 Qe w45 wC _ aC ea fr;clear ea;replace wC:=wC.nf;have s6:=wC.od [2,2,2] 3;revert aC;refine ah 1<|ay ?_;intro aC fr;exact⟨A43,(n1+1),Qe,l1++[x.b],fr.kp [6],s6.cast (by rw[fG];rfl),by rw[VO oM oM oM oM,qe],by simp[Di]⟩;revert aC;refine aI<|ah 1<|bt (ao b5 4) _ (ae (oB.get 1 rfl) rfl)<|jP (decide (x.a≥0)) fun Ba0 QeP=> ?_
 refine ah 1 ?_;cases Ba0;have ca0:¬(x.a≥0):=of_decide_eq_false QeP.symm;refine ah 7<|ay<|fT<|bP ?_;intro aC fr;exact⟨none,0,0,[],fr.kp [2,5,6],oB.call (Mem.dY _ 3 1),(PU oM).symm,rfl⟩;have ca0:x.a≥0:=of_decide_eq_true QeP.symm;refine ah 1<|bt (ao b5 4) _ (ae (oB.get 1 rfl) rfl)<|ah 1<|bt (ao b1 4) _ (ae (oB.get 0 rfl) rfl)<|ah 1<|jP (decide (x.a<(bs.length:Int))) fun Ba1 QeQ=> ?_
 refine ah 1<|ay ?_;cases Ba1;have ca1:¬(x.a<(bs.length:Int)):=of_decide_eq_false QeQ.symm;refine fT<|bP ?_;intro aC fr;exact⟨none,0,0,[],fr.kp [2,5,6],oB.call (Mem.dY _ 3 1),(PU oM).symm,rfl⟩;have ca1:x.a<(bs.length:Int):=of_decide_eq_true QeQ.symm;refine fm<|cG<|ah 2<|bt (ao b5 4) _ (ae (oB.get 1 rfl) rfl) ?_;intro aC fr;refine nX 43 43 1 #[(0,.tmp 42)] 43 fr (e:=3) (size:=1) (zs:=[vI 0]) (vs:=[(0,vI x.a)]) (cs:=[vI x.a]) oB ?_;intro tE w57 QhV _ rL _ aC ea fr;clear ea;replace rL:=rL.nf;have s7:=rL.cl (Mem.dY _ 3 1);refine wz 44 (.tmp 40) (.tmp 43) 43 43 fr (e:=3) (size:=1) (bytes:=8) (z:=(vI 0)) (A:=none) (B:=(sM tE)) (n:=0) (cap:=0) (m:=1) (cap':=1) (xs:=[]) (news:=[vI x.a]) s7 3 rfl (aD (s7.get 2 rfl)) rfl (by simp[Value.oneCell']) oM (by simp only[maxLen];omega) ?_;intro A64 c65 w66 qR _ aC ea fr;clear ea;replace qR:=qR.nf;have V7:=qR.od [3,2,2] 3;revert aC;refine ah 1<|ay ?_;intro aC fr;exact⟨A64,(0+1),c65,[x.a],fr.kp [2,5,6],V7,(VN oM oM).symm,rfl⟩;revert aC;refine aI<|ah 1<|bt (ao b5 2) _ (ae (M9.get 1 rfl) rfl)<|jP (x.e !=0) fun Be0 Qf=> ?_
 refine ah 1 ?_;cases Be0;have ce0:¬(x.e≠0):=znn Qf;refine ah 4<|ay<|fT<|bP ?_;intro aC fr;exact⟨fr.kp [2,5,6],M9,oM⟩;have ce0:x.e≠0:=bne_iff_ne.1 Qf.symm;refine ah 1<|bt (ao b5 2) _ (ae (M9.get 1 rfl) rfl)<|jP (x.e !=1) fun Be1 Qg=> ?_
 refine ah 1<|ay ?_;cases Be1;have ce1:¬(x.e≠1):=znn Qg;refine fT<|bP ?_;intro aC fr;exact⟨fr.kp [2,5,6],M9,oM⟩;have ce1:x.e≠1:=bne_iff_ne.1 Qg.symm;refine fm<|aX<|bL<|cv an ?_;exact qP (M9.pick [false,false] rfl) (by rw[x8 oM hx];exact VM oM oM);have chi:b≥(bs.length:Int):=of_decide_eq_true Il.symm;refine fm<|aX<|bL<|cv an ?_;exact qP (M3.pick [false] rfl) (x7 oM);have clo:b<0:=of_decide_eq_true Fk.symm;refine ah 6<|ay<|fm<|aX<|bL<|cv an ?_;exact qP (M3.pick [false] rfl) (x7 oM)
theorem Qh(q:Nat)(nm wk pa va:Value)(A:ar)(c:Nat)(bs:List SB)(t:Int)(w:World)(_hm:bs.length≤1000000)(hq:RO bq w (.aB q 30 [nm,wk,pa,va,.slice A bs.length c])):Calls Tryz.prog 126 #[vI t,pT q 0] w (ez fun v w'=>v=vB (!(gP bs.length t))∧Mem bq w w' []):=by
 refine fv 13 [vI t,pT q 0] Tryz.func126 ?_;have hM:=Mem.init w;refine aX<|aI<|ah 1<|jP (decide (t<0)) fun Blo Fk=> ?_
 refine ah 1 ?_;cases Blo;have clo:¬(t<0):=of_decide_eq_false Fk.symm;refine ah 2<|bt (ao q 4) _ (ae (hM.ro hq) rfl)<|ah 1<|jP (decide (t≥(bs.length:Int))) fun Bhi Il=> ?_
 refine ah 2<|ay<|bL<|cv (vB Bhi) ?_;exact⟨by rw[Il,Qbz oM],hM⟩;have clo:t<0:=of_decide_eq_true Fk.symm;refine ah 7<|ay<|bL<|cv (vB true) ?_;exact⟨by rw[Qby oM];rfl,hM⟩
theorem Qi(l:af)(B:ar)(d:Nat)(q:Nat)(nm wk pa va:Value)(A:ar)(c:Nat)(bs:List SB)(w:World)(UZ:l.length≤1000000)(hl:RO bq w (.rd B (ints l)))(hm:bs.length≤1000000)(hq:RO bq w (.aB q 30 [nm,wk,pa,va,.slice A bs.length c])):Calls Tryz.prog 113 #[vS B l.length d,(.func (.func 126) #[] #[pT q 0])] w (ez fun v w'=>v=vI (pw (fun x=> !(gP bs.length x)) l)∧Mem bq w w' []):=by
 refine fv 19 [vS B l.length d,(.func (.func 126) #[] #[pT q 0])] Tryz.func113 ?_;have hM:=Mem.init w;refine aX<|ba<|aX<|cr 0 ?_;intro aC fr;refine fk (fun n_ a_ w_=>∃(j:Nat),n_=l.length-j∧Fr a_ 19 [(0,vS B l.length d),(1,(.func (.func 126) #[] #[pT q 0])),(7,(vI (l.length:Int))),(8,nV j)]∧Mem bq w w_ []∧(j≤l.length)∧((l.take j).any (fun x=> !(gP bs.length x))=false)) (n:=_) ⟨0,rfl,fr.kp [0,1,7,8],hM,oM,sI⟩ ?_;clear fr aC hM;rintro n aC w3 ⟨j,rfl,fr,M4,hj,hn⟩;revert aC;refine aI<|jP (decide ((j:Int)<(l.length:Int))) fun B7 Fj=> ?_
 refine ay<|ba ?_;cases B7;have c7:¬((j:Int)<(l.length:Int)):=of_decide_eq_false Fj.symm;refine fT<|eW 0<|eX<|aX<|bL<|cv (vI (-1)) ?_;exact⟨by rw[Bc hn oM],M4⟩;have c7:(j:Int)<(l.length:Int):=of_decide_eq_true Fj.symm;refine fm<|bP<|ba<|cr 1<|aX<|aI<|ah 3 ?_;obtain⟨pN,rfl⟩:=tl (M4.ro hl) oM;refine ej pN l.length 1 (j:Int)<|bt (aN pN (j:Int) 1) _ (dZ (M4.ro hl) rfl oM oM)<|di (Qh q nm wk pa va A c bs (l.getD (j:Int).toNat 0) w3 hm (hq.at_ M4)) ?_;rintro _ w9 ⟨rfl,Im⟩;have jw:=M4.cl Im;obtain⟨Qd,rK⟩:∃B,B=!(gP bs.length (l.getD (j:Int).toNat 0)):=⟨_,rfl⟩;refine bX [(0,vS (some pN) l.length d),(1,(.func (.func 126) #[] #[pT q 0])),(5,nV j),(7,(vI (l.length:Int))),(8,nV j),(11,(.func (.func 126) #[] #[pT q 0])),(15,(vI (l.getD (j:Int).toNat 0))),(16,(vB (!(gP bs.length (l.getD (j:Int).toNat 0)))))] ?_;rw[←rK];refine ay ?_;cases Qd;have yk:(!(gP bs.length (l.getD (j:Int).toNat 0)))=false:=rK.symm;refine fT<|bP<|cG<|cZ ((j:Int)+1)<|ah 1<|ay ?_;intro aC fr;exact⟨l.length-(j+1),oM,j+1,rfl,fr.kp [0,1,7,8],jw,oM,PV hn yk oM⟩;have yk:(!(gP bs.length (l.getD (j:Int).toNat 0)))=true:=rK.symm;refine fm<|aX<|bL<|cJ<|cJ<|cv (nV j) ?_;exact⟨by rw[E7 hn yk oM],jw⟩
theorem qS(l:af)(B:ar)(d:Nat)(q:Nat)(nm wk pa va:Value)(A:ar)(c:Nat)(bs:List SB)(w:World)(UZ:l.length≤1000000)(hl:(bx.row 3 1 B l.length d (ints l)).holds w)(hm:bs.length≤1000000)(hq:RO (bx.row 3 1 B l.length d (ints l)).fp w (.aB q 30 [nm,wk,pa,va,.slice A bs.length c])):Calls Tryz.prog 125 #[vS B l.length d,(.func (.func 126) #[] #[pT q 0])] w (ez fun v w'=>∃B' d',v=vS B' (l.filter (fun x=> !((fun x=> !(gP bs.length x)) x))).length d'∧Mem (bx.row 3 1 B l.length d (ints l)).fp w w' [.row 3 1 B' (l.filter (fun x=> !((fun x=> !(gP bs.length x)) x))).length d' (ints (l.filter (fun x=> !((fun x=> !(gP bs.length x)) x))))]):=by
 refine fv 42 [vS B l.length d,(.func (.func 126) #[] #[pT q 0])] Tryz.func125 ?_;have hM:=Mem.oY hl;refine aX<|aI<|ah 2<|di (Qi l B d q nm wk pa va A c bs w UZ (RO.aD (hM.cK 0 rfl)) hm (hq.at_ hM)) ?_;rintro _ w1 ⟨rfl,KE⟩;have M2:=hM.cl KE;clear KE hM;refine ah 1<|ay<|ba<|aI<|ah 1<|jP ((pw (fun x=> !(gP bs.length x)) l)==(-1)) fun QeR Qj=> ?_
 refine ay ?_;cases QeR;have KF:¬((pw (fun x=> !(gP bs.length x)) l)=(-1)):=L3 Qj;refine fT<|bP<|ba<|aI<|ah 1<|cZ (h1:=(by have:=C5 (fun x=> !(gP bs.length x)) l;omega)) (h2:=(by have:=C5 (fun x=> !(gP bs.length x)) l;omega)) ((pw (fun x=> !(gP bs.length x)) l)+1) ?_;refine ah 1<|ay<|cr 0 ?_;obtain⟨i0,hi0,pQ,Fl⟩:=H8 KF;refine da [0,1,5,6] ?_;intro aC fr;rw[hi0]at fr;obtain⟨g0,V8⟩:=df (M2.get 0 rfl) (show 0<l.length by omega);subst V8;have hle:=pR (M2.get 0 rfl);have Fm:(kept (fun x=> !(gP bs.length x)) l (i0+1)).length=i0:=by rw[Fl];simp;omega
 have hc1:((i0+1:Nat):Int)=(i0:Int)+1:=oM;replace fr:Fr aC 42 [(0,.slice (sM g0) l.length d),(1,((.func (.func 126) #[] #[pT q 0]))),(5,(vI ((kept (fun x=> !(gP bs.length x)) l (i0+1)).length:Int))),(6,(vI ((i0+1:Nat):Int)))]:=by rw[Fm];exact fr.keep (keep:=[0,1,5,6]) kR
 refine fk (fun n_ a_ w_=>∃(j:Nat) (m:af),n_=l.length-j∧Fr a_ 42 [(0,vS (sM g0) l.length d),(1,(.func (.func 126) #[] #[pT q 0])),(5,(vI ((kept (fun x=> !(gP bs.length x)) l j).length:Int))),(6,nV j)]∧Mem ((bx.row 3 1 (sM g0) l.length d (ints l)).fp) w w_ [.row 3 1 (sM g0) l.length d (ints m)]∧(j≤l.length)∧(H9 l m (kept (fun x=> !(gP bs.length x)) l j) j)) (n:=_) ⟨i0+1,l,rfl,fr.kp [0,1,5,6],M2,oM,by rw[Fl];exact halfL_start pQ⟩ ?_;clear fr aC M2;rintro n aC w5 ⟨j,m,rfl,fr,M6,hj,hh⟩;revert aC;refine ba<|aI<|ah 3<|jP (decide ((j:Int)<(l.length:Int))) fun B9 Hz=> ?_
 refine ay ?_;cases B9;have c9:¬((j:Int)<(l.length:Int)):=of_decide_eq_false Hz.symm;refine fT<|eW 0<|eX<|aI<|ah 2 ?_;intro aC fr;have Kf:j=l.length:=oM;have Qk:=hh.2.2.2;refine jA (kR:ax _ 2=some (some 38,.slice 43 (.tmp 36) (some (.tmp 37)) none none,43,none)) fr kR kR (k':=3) rfl (A:=(sM g0)) (n:=l.length) (cap:=d) (e:=3) (size:=1) (kd:= .i64) (i:=((kept (fun x=> !(gP bs.length x)) l j).length:Int)) (kept (fun x=> !(gP bs.length x)) l j).length kR kR rfl kR kR oM ?_;intro aC ea fr;clear ea;rw[if_neg (show¬(d=(kept (fun x=> !(gP bs.length x)) l j).length)by omega)]at fr;refine H0 (kR:ax _ 3=some (none,(.call {callee:=(.builtin .clear),args:=#[.tmp 38],argTypes:=#[43]}),0,none)) fr kR kR (k':=4) rfl (e:=3) (z:=vI 0) kR kR rfl (ad:=aZ g0) (off:=(kept (fun x=> !(gP bs.length x)) l j).length*1) (m:=l.length-(kept (fun x=> !(gP bs.length x)) l j).length) (cap':=d-(kept (fun x=> !(gP bs.length x)) l j).length) (n:=l.length) (cap:=d) (xs:=ints m) kR M6 0 rfl oM ?_;intro w14 mS _ aC ea fr;clear ea;replace mS:=mS.nf;revert aC;refine ay<|aI<|ah 2 ?_;intro aC fr;refine gx (kR:ax _ 2=some (some 41,.slice 43 (.tmp 39) none (some (.tmp 40)) none,43,none)) fr kR kR (k':=3) rfl (A:=(sM g0)) (n:=l.length) (cap:=d) (e:=3) (size:=1) (kd:= .i64) (i:=((kept (fun x=> !(gP bs.length x)) l j).length:Int)) (kept (fun x=> !(gP bs.length x)) l j).length kR kR rfl kR kR oM ?_;intro aC ea fr;clear ea;revert aC;refine ah 1<|ay<|bL<|cv (vS (sM g0) ((kept (fun x=> !(gP bs.length x)) l j).length) d) ?_;have dH:=mS.lD 0 rfl (kept (fun x=> !(gP bs.length x)) l j).length oM;refine⟨some (aZ g0),d,by rw[←E8 (p:=(fun x=> !(gP bs.length x))) (show l.length≤j by omega)],dH.cast ?_⟩;rw[←E8 (p:=(fun x=> !(gP bs.length x))) (show l.length≤j by omega)];show[_]=_;rw[VT hh.2.1];have c9:(j:Int)<(l.length:Int):=of_decide_eq_true Hz.symm;refine fm<|bP<|ba<|cr 1<|aI<|ah 2<|ej (aZ g0) l.length 1 (j:Int)<|bt (aN (aZ g0) (j:Int) 1) (vI (l.getD (j:Int).toNat 0)) (by rw[←PX hh];exact dZ (aD (M6.get 0 rfl)) rfl oM (by have:=hh.1;omega))<|ah 1<|ay ?_;refine aI<|ah 2<|di (Qh q nm wk pa va A c bs (l.getD (j:Int).toNat 0) w5 hm (hq.at_ M6)) ?_;rintro _ w22 ⟨rfl,L9⟩;have qf:=M6.cl L9;obtain⟨QhW,Ql⟩:∃B,B=!(gP bs.length (l.getD (j:Int).toNat 0)):=⟨_,rfl⟩;refine bX [(0,vS (sM g0) l.length d),(1,(.func (.func 126) #[] #[pT q 0])),(5,(vI ((kept (fun x=> !(gP bs.length x)) l j).length:Int))),(6,nV j),(7,(vI (l.getD (j:Int).toNat 0))),(26,(.func (.func 126) #[] #[pT q 0])),(27,(vI (l.getD (j:Int).toNat 0))),(28,(vB (!(gP bs.length (l.getD (j:Int).toNat 0)))))] ?_;rw[←Ql];refine ah 1<|ay ?_;cases QhW;have QbD:(!(gP bs.length (l.getD (j:Int).toNat 0)))=false:=Ql.symm;refine fm<|aI<|ah 3<|ej (h0:=oM) (h1:=(by have:=hh.2.2.2;omega)) (aZ g0) l.length 1 ((kept (fun x=> !(gP bs.length x)) l j).length:Int) ?_;refine yc qf 0 (aN (aZ g0) ((kept (fun x=> !(gP bs.length x)) l j).length:Int) 1) ((((kept (fun x=> !(gP bs.length x)) l j).length:Int)).toNat*1) (vI (l.getD (j:Int).toNat 0)) rfl rfl (by have:=hh.2.2.2;omega) fun w24 L8=> ?_
 replace L8:=L8.nf;refine ay<|cG<|ah 1<|cZ (h2:=(by have:=hh.2.2.2;omega)) (((kept (fun x=> !(gP bs.length x)) l j).length:Int)+1) ?_;refine ah 1<|ay<|cG<|ah 1<|cZ ((j:Int)+1)<|ah 1<|ay ?_;intro aC fr;have Bg:=PW (p:=(fun x=> !(gP bs.length x))) (show j<l.length by omega) QbD;replace fr:Fr aC 42 [(0,.slice (sM g0) l.length d),(1,((.func (.func 126) #[] #[pT q 0]))),(5,(vI ((kept (fun x=> !(gP bs.length x)) l (j+1)).length:Int))),(6,(vI ((j:Int)+1)))]:=by rw[Bg,List.length_append];exact fr.keep (keep:=[0,1,5,6]) kR
 exact⟨l.length-(j+1),oM,j+1,m.set (kept (fun x=> !(gP bs.length x)) l j).length (l.getD (j:Int).toNat 0),rfl,fr.kp [0,1,5,6],(L8.cast (by rw[ints_set,Int.toNat_natCast,Nat.mul_one])),oM,by rw[Bg];exact PY hh oM _⟩;have QbD:(!(gP bs.length (l.getD (j:Int).toNat 0)))=true:=Ql.symm;refine fT<|bP<|cG<|ah 1<|cZ ((j:Int)+1)<|ah 1<|ay ?_;intro aC fr;have Bg:=VP (p:=(fun x=> !(gP bs.length x))) (show j<l.length by omega) QbD;replace fr:Fr aC 42 [(0,.slice (sM g0) l.length d),(1,((.func (.func 126) #[] #[pT q 0]))),(5,(vI ((kept (fun x=> !(gP bs.length x)) l (j+1)).length:Int))),(6,(vI ((j:Int)+1)))]:=by rw[Bg];exact fr.keep (keep:=[0,1,5,6]) kR
 exact⟨l.length-(j+1),oM,j+1,m,rfl,fr.kp [0,1,5,6],qf,oM,by rw[Bg];exact VS hh⟩;have KF:(pw (fun x=> !(gP bs.length x)) l)=(-1):=beq_iff_eq.1 Qj.symm;refine fm<|aX<|bL<|cv (vS B l.length d) ?_;exact⟨B,d,by rw[any_filter KF],M2.cast (by rw[any_filter KF])⟩
theorem BB(nm wk pa va:Value)(A:ar)(c:Nat)(bs:List SB)(b:Int)(w:World)(hm:bs.length≤1000000)(hA:RO bq w (.blocks A bs)):Calls Tryz.prog 100 #[(.agg #[nm,wk,pa,va,vS A bs.length c]),vI b] w (ez fun v w'=>∃A' c',v=vS A' (tg bs b).length c'∧Mem bq w w' [.row 3 1 A' (tg bs b).length c' (ints (tg bs b))]):=by
 refine fv 45 [(.agg #[nm,wk,pa,va,vS A bs.length c]),vI b] Tryz.func100 ?_;have hM:=Mem.init w;refine aI<|ou hM 30 (.agg #[nm,wk,pa,va,vS A bs.length c]) [nm,wk,pa,va,vS A bs.length c] fun b1 w2 jU M3=> ?_
 replace M3:=M3.nf;clear hM;refine ah 1<|ay<|ba<|aI<|ah 1<|jP (decide (b<0)) fun Blo Fk=> ?_
 refine ah 1 ?_;cases Blo;have clo:¬(b<0):=of_decide_eq_false Fk.symm;refine ah 2<|bt (ao b1 4) _ (ae (M3.get 0 rfl) rfl)<|ah 1<|jP (decide (b≥(bs.length:Int))) fun Bhi Il=> ?_
 refine ah 1<|ay ?_;cases Bhi;have chi:¬(b≥(bs.length:Int)):=of_decide_eq_false Il.symm;refine fT<|bP<|aI ?_;obtain⟨x,hx⟩:=PR (l:=bs) (i:=b) oM oM;refine ah 1<|bt (ao b1 4) _ (ae (M3.get 0 rfl) rfl)<|ah 1 ?_;obtain⟨ym,rfl⟩:=ek (M3.ro hA) hx;refine ej ym bs.length 6 b<|ga (aN ym (b) 6) [vS x.pA x.pn x.pc,vS x.iA x.ik x.ic,vI x.e,vI x.v,vI x.a,vI x.b] (sd (M3.ro hA) rfl hx)<|na M3 49 [an,an,vI 0,vI 0,vI 0,vI 0] fun b5 w6 hb5 M7=> ?_
 replace M7:=M7.nf;refine ng M7 1 [vS x.pA x.pn x.pc,vS x.iA x.ik x.ic,vI x.e,vI x.v,vI x.a,vI x.b] rfl fun w8 M9=> ?_
 replace M9:=M9.nf;refine da [2,5]<|ay<|aX<|ba<|aI<|ah 1<|bt (ao b5 2) _ (ae (M9.get 1 rfl) rfl)<|ay<|cr 0<|aI<|jP (x.e==0) fun Be0 Qf=> ?_
 refine ah 1<|ay ?_;cases Be0;have ce0:¬(x.e=0):=L3 Qf;refine fT<|aI<|jP (x.e==1) fun Be1 Qg=> ?_
 refine ah 1<|ay ?_;cases Be1;have ce1:¬(x.e=1):=L3 Qg;refine fT<|bP<|aI<|ah 2 ?_;have jw:=bd [.aB b1 30 [nm,wk,pa,va,vS (some ym) bs.length c],.aB b5 49 [vS x.pA x.pn x.pc,vS x.iA x.ik x.ic,vI x.e,vI x.v,vI x.a,vI x.b],.row 3 1 none 0 0 []] (M9.call (Mem.dY _ 3 1));refine di (vs:=#[an,(.func (.func 126) #[] #[pT b1 0])]) (qS [] none 0 b1 nm wk pa va _ c bs w8 sI (jw.get 2 rfl) hm (jw.ja 0 2 rfl rfl dQ)) ?_;rintro _ KG ⟨A11,Dk,rfl,QbE⟩;have lH:=jw.md 2 rfl QbE;refine ah 1<|ay<|bL<|cv (vS A11 (([].filter (fun x=> !((fun x=> !(gP bs.length x)) x))).length) Dk) ?_;exact oi (lH.pick [false,false,true] rfl) (by rw[x8 oM hx];exact PT ce0 ce1) rfl;have ce1:x.e=1:=beq_iff_eq.1 Qg.symm;refine fm<|aI<|ah 1<|bt (ao b5 4) _ (ae (M9.get 1 rfl) rfl)<|ah 1<|bt (ao b5 5) _ (ae (M9.get 1 rfl) rfl) ?_;intro aC fr;refine nX 34 43 2 #[(0,.tmp 31),(1,.tmp 33)] 43 fr (e:=3) (size:=1) (zs:=[vI 0]) (vs:=[(0,vI x.a),(1,vI x.b)]) (cs:=[vI x.a,vI x.b]) M9 ?_;intro jx OT QeS _ kK _ aC ea fr;clear ea;replace kK:=kK.nf;revert aC;refine ah 1<|ay<|aI<|ah 1<|bt (ao b5 4) _ (ae (kK.get 1 rfl) rfl)<|ah 1<|bt (ao b5 5) _ (ae (kK.get 1 rfl) rfl)<|da [2,6,36,38]<|jP (x.a==x.b) fun Bab Dj=> ?_
 refine ay ?_;cases Bab;have cab:¬(x.a=x.b):=L3 Dj;refine fT<|bP<|aI<|ah 2<|di (vs:=#[vS (sM jx) 2 2,(.func (.func 126) #[] #[pT b1 0])]) (qS [x.a,x.b] (sM jx) 2 b1 nm wk pa va _ c bs OT sI (kK.get 2 rfl) hm (kK.ja 0 2 rfl rfl dQ)) ?_;rintro _ w24 ⟨A22,c23,rfl,V9⟩;have L8:=kK.md 2 rfl V9;refine ah 1<|ay<|bL<|cv (vS A22 (([x.a,x.b].filter (fun x=> !((fun x=> !(gP bs.length x)) x))).length) c23) ?_;exact oi (L8.pick [false,false,true] rfl) (by rw[x8 oM hx];exact VL oM oM) rfl;have cab:x.a=x.b:=beq_iff_eq.1 Dj.symm;refine fm<|cG<|ah 1 ?_;intro aC fr;refine gx (kR:ax _ 1=some (some 41,.slice 43 (.tmp 40) none (some (.const (vI 1))) none,43,none)) fr kR kR (k':=2) rfl (A:=(sM jx)) (n:=2) (cap:=2) (e:=3) (size:=1) (kd:= .i64) (i:=1) 1 kR kR rfl kR kR dQ ?_;intro aC ea fr;clear ea;have xn:=bd [.aB b1 30 [nm,wk,pa,va,vS (some ym) bs.length c],.aB b5 49 [vS x.pA x.pn x.pc,vS x.iA x.ik x.ic,vI x.e,vI x.v,vI x.a,vI x.b],.row 3 1 (sM jx) 1 2 [vI x.a]] (kK.lD 2 rfl 1 dQ);revert aC;refine ah 1<|ay<|aI<|ah 2<|di (vs:=#[vS (sM jx) 1 2,(.func (.func 126) #[] #[pT b1 0])]) (qS [x.a] (sM jx) 2 b1 nm wk pa va _ c bs OT sI (xn.get 2 rfl) hm (xn.ja 0 2 rfl rfl dQ)) ?_;rintro _ w33 ⟨A31,Fo,rfl,Dl⟩;have xo:=xn.md 2 rfl Dl;refine ah 1<|ay<|bL<|cv (vS A31 (([x.a].filter (fun x=> !((fun x=> !(gP bs.length x)) x))).length) Fo) ?_;exact oi (xo.pick [false,false,true] rfl) (by rw[x8 oM hx];exact Ki oM) rfl;have ce0:x.e=0:=beq_iff_eq.1 Qf.symm;refine fm<|cG<|ah 1<|bt (ao b5 4) _ (ae (M9.get 1 rfl) rfl) ?_;intro aC fr;refine nX 27 43 1 #[(0,.tmp 26)] 43 fr (e:=3) (size:=1) (zs:=[vI 0]) (vs:=[(0,vI x.a)]) (cs:=[vI x.a]) M9 ?_;intro b35 w36 hb35 _ rq _ aC ea fr;clear ea;replace rq:=rq.nf;revert aC;refine ah 1<|ay<|aI<|ah 2<|di (vs:=#[vS (sM b35) 1 1,(.func (.func 126) #[] #[pT b1 0])]) (qS [x.a] (sM b35) 1 b1 nm wk pa va _ c bs w36 sI (rq.get 2 rfl) hm (rq.ja 0 2 rfl rfl dQ)) ?_;rintro _ w44 ⟨A42,c43,rfl,QbF⟩;have HA:=rq.md 2 rfl QbF;refine ah 1<|ay<|bL<|cv (vS A42 (([x.a].filter (fun x=> !((fun x=> !(gP bs.length x)) x))).length) c43) ?_;exact oi (HA.pick [false,false,true] rfl) (by rw[x8 oM hx];exact Ki oM) rfl;have chi:b≥(bs.length:Int):=of_decide_eq_true Il.symm;refine fm<|aX<|bL<|cv an ?_;exact qP (M3.pick [false] rfl) (x7 oM);have clo:b<0:=of_decide_eq_true Fk.symm;refine ah 6<|ay<|fm<|aX<|bL<|cv an ?_;exact qP (M3.pick [false] rfl) (x7 oM)
theorem su(nm wk pa va:Value)(A:ar)(c:Nat)(bs:List SB)(b:Int)(w:World)(hm:bs.length≤1000000)(hA:RO bq w (.blocks A bs)):Calls Tryz.prog 36 #[(.agg #[nm,wk,pa,va,vS A bs.length c]),vI b] w (ez fun v w'=>∃A' c',v=vS A' (bG bs b).length c'∧Mem bq w w' [.row 3 1 A' (bG bs b).length c' (ints (bG bs b))]):=by
 refine fv 24 [(.agg #[nm,wk,pa,va,vS A bs.length c]),vI b] Tryz.func36 ?_;have hM:=Mem.init w;refine aI<|ou hM 30 (.agg #[nm,wk,pa,va,vS A bs.length c]) [nm,wk,pa,va,vS A bs.length c] fun b1 w2 jU M3=> ?_
 replace M3:=M3.nf;clear hM;refine ah 1<|ay<|aX<|ba<|aX<|cr 0 ?_;intro aC fr;refine fk (fun n_ a_ w_=>∃(k:Nat) (A1:ar) (n1:Nat) (c1:Nat) (l1:af),n_=bs.length-k∧Fr a_ 24 [(1,vI b),(2,pT b1 0),(5,vS A1 n1 c1),(6,nV k)]∧Mem bq w w_ [.aB b1 30 [nm,wk,pa,va,vS A bs.length c],.row 3 1 A1 n1 c1 (ints l1)]∧(k≤bs.length)∧(l1=ef bs b k)∧(n1=l1.length)) (n:=_) ⟨0,none,0,0,[],rfl,fr.kp [1,2,5,6],M3.call (Mem.dY _ 3 1),oM,rfl,rfl⟩ ?_;clear fr aC M3;rintro n aC w6 ⟨k,A1,n1,c1,l1,rfl,fr,M7,hk,qe,Di⟩;revert aC;refine ba<|aI<|ah 2<|bt (ao b1 4) _ (ae (M7.get 0 rfl) rfl)<|ah 1<|jP (decide ((k:Int)<(bs.length:Int))) fun kO pD=> ?_
 refine ay ?_;cases kO;have uR:¬((k:Int)<(bs.length:Int)):=of_decide_eq_false pD.symm;refine fT<|eW 0<|eX<|aX<|bL<|cv (vS A1 n1 c1) ?_;obtain rfl:k=bs.length:=oM;exact oi (M7.pick [false,true] rfl) qe Di;have uR:(k:Int)<(bs.length:Int):=of_decide_eq_true pD.symm;refine fm<|bP<|ba<|cr 1<|aI<|ga (aZ b1) [nm,wk,pa,va,vS A bs.length c] (aW (M7.get 0 rfl))<|ah 1<|di (vs:=#[(.agg #[nm,wk,pa,va,vS A bs.length c]),nV k]) (yl _ _ _ _ A c bs (k:Int) w6 hm (hA.at_ M7)) ?_;rintro _ KG ⟨A11,Dk,rfl,QbE⟩;have lH:=M7.cl QbE;refine ah 1<|di (vs:=#[(vS A11 ((tg bs (k:Int)).length) Dk),vI b]) (QeL (tg bs (k:Int)) b A11 Dk KG (Nat.le_trans (pY _ _) dQ) (RO.aD (lH.cK 2 rfl))) ?_;rintro _ Z7 ⟨rfl,Wa⟩;have oC:=lH.cl Wa;obtain⟨Qd,rK⟩:∃B,B=(tg bs (k:Int)).contains b:=⟨_,rfl⟩;refine bX [(1,vI b),(2,pT b1 0),(5,vS A1 n1 c1),(6,nV k),(16,(vS A11 ((tg bs (k:Int)).length) Dk)),(17,vI b),(18,(vB ((tg bs (k:Int)).contains b)))] ?_;rw[←rK];refine ay ?_;cases Qd;have yk:((tg bs (k:Int)).contains b)=false:=rK.symm;refine fT<|bP<|cG<|ah 1<|cZ ((k:Int)+1)<|ah 1<|ay ?_;intro aC fr;exact⟨bs.length-(k+1),oM,k+1,A1,n1,c1,l1,rfl,fr.kp [1,2,5,6],(oC.pick [true,true,false] rfl),oM,by rw[p5,if_neg (by rw[yk];simp),List.append_nil];exact qe,Di⟩;have yk:((tg bs (k:Int)).contains b)=true:=rK.symm;refine fm<|cG<|ah 2 ?_;intro aC fr;refine nX 21 43 1 #[(0,.tmp 20)] 43 fr (e:=3) (size:=1) (zs:=[vI 0]) (vs:=[(0,nV k)]) (cs:=[nV k]) oC ?_;intro k8 Wb QeT _ nZ _ aC ea fr;clear ea;replace nZ:=nZ.nf;refine wz 22 (.tmp 19) (.tmp 21) 43 43 fr (e:=3) (size:=1) (bytes:=8) (z:=(vI 0)) (A:=A1) (B:=(sM k8)) (n:=n1) (cap:=c1) (m:=1) (cap':=1) (xs:=(ints l1)) (news:=[nV k]) nZ 1 rfl (aD (nZ.get 3 rfl)) rfl (by simp[Value.oneCell']) (by have:=fR bs b k;rw[qe]at Di;omega) (by have:=fR bs b k;rw[qe]at Di;simp only[maxLen];omega) ?_;intro A26 uS OU jy _ aC ea fr;clear ea;replace jy:=jy.nf;have pE:=jy.od [2,2,2] 3;revert aC;refine ah 1<|ay<|cG<|ah 1<|cZ ((k:Int)+1)<|ah 1<|ay ?_;intro aC fr;exact⟨bs.length-(k+1),oM,k+1,A26,(n1+1),uS,l1++[(k:Int)],rfl,fr.kp [1,2,5,6],((pE.pick [true,true,false] rfl).cast (by rw[fG];rfl)),oM,by rw[p5,if_pos yk,qe],by rw[List.length_append,Di];rfl⟩
end Go.Proofs.YtejbeeaomokjpaaGreat
namespace Go.Mor
open Go.RowKit
abbrev Ma:=(Int→Bool)×af
def fI(S:Int→Bool)(t:Int):Int→Bool:=fun x=>(x==t)||S x
inductive Kids(T:Int→af):af→Ma→Ma→Prop where
 |nil {s}:Kids T [] s s
 |skip {t ts S o s'}:S t=true→Kids T ts (S,o) s'→Kids T (t::ts) (S,o) s'
 |go {t ts S o s1 s'}:S t=false→Kids T (T t) (fI S t,o) s1→Kids T ts (s1.1,s1.2++[t]) s'→Kids T (t::ts) (S,o) s'
theorem Kids.mono{T:Int→af}{ts:af}{s s':Ma}(h:Kids T ts s s'):∀x,s.1 x=true→s'.1 x=true:=by
 induction h with
 |nil=>exact fun _ h=>h
 |skip _ _ ih=>exact ih
 |go _ _ _ U0 U1=>exact fun x hx=>U1 x (U0 x (by have uI:=hx;simp only at uI;simp[fI,uI]))
def lI(T:Int→af):Nat→af→Ma→Ma
 |0,_,s=>s
 |_+1,[],s=>s
 |f+1,t::ts,s=>match s.1 t with
  |true=>lI T f ts s
  |false=>lI T f ts ((lI T f (T t) (fI s.1 t,s.2)).1,(lI T f (T t) (fI s.1 t,s.2)).2++[t])
def jG(n:Nat)(S:Int→Bool):Nat:=((List.range n).filter (fun i:Nat=> !S (i:Int))).length
theorem yn{n:Nat}{S S':Int→Bool}(h:∀x,S x=true→S' x=true):jG n S'≤jG n S:=by
 unfold jG;refine List.Sublist.length_le ?_;have:(List.range n).filter (fun i:Nat=> !S' (i:Int))=((List.range n).filter (fun i:Nat=> !S (i:Int))).filter (fun i:Nat=> !S' (i:Int)):=by rw[List.filter_filter];apply List.filter_congr;intro i _;cases h1:S (i:Int)<;>cases h2:S' (i:Int)<;>simp;rw[h _ h1]at h2;cases h2
 rw[this];exact List.filter_sublist
theorem gg{n:Nat}{S:Int→Bool}{t:Int}(h0:0≤t)(h1:t<n)(hS:S t=false):jG n (fI S t)+1≤jG n S:=by
 unfold jG
 have kv:(List.range n).filter (fun i:Nat=> !fI S t (i:Int))=((List.range n).filter (fun i:Nat=> !S (i:Int))).filter (fun i:Nat=> !((i:Int)==t)):=by
  rw[List.filter_filter]
  apply List.filter_congr
  intro i _
  simp[fI]
 rw[kv]
 obtain⟨k,rfl⟩:=Int.eq_ofNat_of_zero_le h0
 have pv:k∈(List.range n).filter (fun i:Nat=> !S (i:Int)):=List.mem_filter.2 ⟨List.mem_range.2 oM,by rw[hS];rfl⟩
 have:=List.length_filter_lt_length_iff_exists (p:=fun i:Nat=> !((i:Int)==(k:Int)))|>.2 ⟨k,pv,sI⟩
 omega
theorem kC(n:Nat)(S:Int→Bool):jG n S≤n:=by
 unfold jG;exact Nat.le_trans (List.length_filter_le _ _) sI
theorem yo{T:Int→af}{n:Nat}(hT:∀t,(T t).length≤2)(hR:∀t x,x∈T t→0≤x∧x<n):∀(f:Nat) (ts:af) (s:Ma),(∀x,x∈ts→0≤x∧x<n)→3*jG n s.1+ts.length+1≤f→Kids T ts s (lI T f ts s):=by
 intro f;induction f with
 |zero=>intro ts s _ h;omega
 |succ f ih=>
  intro ts s U2 hf;obtain⟨S,o⟩:=s;cases ts with
  |nil=>exact .nil
  |cons t ts=>
   have ht:=U2 t (List.mem_cons_self ..);have QeU:∀x,x∈ts→0≤x∧x<(n:Int):=fun x hx=>U2 x (List.mem_cons_of_mem _ hx)
   simp only[List.length_cons]at hf;cases hS:S t with
   |true=>
    have:lI T (f+1) (t::ts) (S,o)=lI T f ts (S,o):=by simp only[lI,hS]
    rw[this];exact .skip hS (ih ts (S,o) QeU (by simp only at hf⊢;omega))
   |false=>
    have e:lI T (f+1) (t::ts) (S,o)=lI T f ts ((lI T f (T t) (fI S t,o)).1,(lI T f (T t) (fI S t,o)).2++[t]):=by simp only[lI,hS]
    rw[e];have hu:=gg (S:=S) ht.1 ht.2 hS;have h1:=ih (T t) (fI S t,o) (hR t) (by have:=hT t;simp only at hf⊢;omega);refine .go hS h1 (ih ts _ QeU ?_);have hm:=yn (n:=n) (Kids.mono h1);simp only at hf hm⊢;omega
theorem Kids.count{T:Int→af}{n:Nat}(hR:∀t x,x∈T t→0≤x∧x<n){ts:af}{s s':Ma}(h:Kids T ts s s')(U2:∀x,x∈ts→0≤x∧x<(n:Int)):s'.2.length+jG n s'.1≤s.2.length+jG n s.1:=by
 induction h with
 |nil=>exact Nat.le_refl _
 |skip _ _ ih=>exact ih (fun x hx=>U2 x (List.mem_cons_of_mem _ hx))
 | @go t ts S o s1 s' hS _ _ U0 U1=>
  have ht:=U2 t (List.mem_cons_self ..);have h1:=U0 (hR t);have h2:=U1 (fun x hx=>U2 x (List.mem_cons_of_mem _ hx));have h3:=gg (S:=S) ht.1 ht.2 hS;simp only[List.length_append,List.length_cons,List.length_nil]at h1 h2⊢;omega
def Fp(bs:List SB):af:=(lI (tg bs) (3*bs.length+3) (tg bs 0) (fI (fun _=>false) 0,[])).2++[0]
def aH(bs:List SB):af:=if bs.length=0 then[]else(Fp bs).reverse
theorem uT(bs:List SB):∃s,Kids (tg bs) (tg bs 0) (fI (fun _=>false) 0,[]) s∧s.2++[0]=Fp bs:=by
 refine⟨_,yo (n:=bs.length) (fun t=>pY bs t) (fun t x h=>pZ h) (3*bs.length+3) _ _ (fun x h=>pZ h) ?_,rfl⟩;have h1:=pY bs 0;have h2:=kC bs.length (fI (fun _=>false) 0);simp only;by_cases h:bs.length=0
 ·have:tg bs 0=[]:=x7 oM;rw[this];simp;omega
 ·have:=gg (n:=bs.length) (S:=fun _=>false) (t:=0) oM oM rfl;have h3:=kC bs.length (fun _=>false);omega
theorem Mb{bs:List SB}(h:0<bs.length):(Fp bs).length≤bs.length:=by
 obtain⟨s,h1,h2⟩:=uT bs;have h3:=Kids.count (n:=bs.length) (fun t x h=>pZ h) h1 (fun x h=>pZ h);have h4:=gg (n:=bs.length) (S:=fun _=>false) (t:=0) oM oM rfl;have h5:=kC bs.length (fun _=>false);rw[←h2,List.length_append];simp only[List.length_nil,List.length_cons]at h3⊢;omega
def Fq(T:Int→af):List (Int×Nat)→Ma→af→Prop
 |[],s,R=>s.2=R
 |(b,k)::rest,s,R=>∃s',Kids T ((T b).drop k) s s'∧Fq T rest (s'.1,s'.2++[b]) R
theorem Wc{T:Int→af}{b:Int}{k:Nat}{rest:List (Int×Nat)}{s:Ma}{R:af}(h:Fq T ((b,k)::rest) s R)(hk:(T b).length≤k):Fq T rest (s.1,s.2++[b]) R:=by
 obtain⟨s',h1,h2⟩:=h;rw[List.drop_of_length_le hk]at h1;cases h1;exact h2
theorem Qm{T:Int→af}{b t:Int}{k:Nat}{rest:List (Int×Nat)}{S:Int→Bool}{o:af}{R:af}(h:Fq T ((b,k)::rest) (S,o) R)(hk:(T b)[k]?=some t)(ht:S t=true):Fq T ((b,k+1)::rest) (S,o) R:=by
 obtain⟨s',h1,h2⟩:=h;obtain⟨eV,he⟩:=List.getElem?_eq_some_iff.1 hk;rw[List.drop_eq_getElem_cons eV,he]at h1;cases h1 with
 |skip _ h1=>exact⟨s',h1,h2⟩
 |go h' _ _=>rw[ht]at h';cases h'
theorem Qn{T:Int→af}{b t:Int}{k:Nat}{rest:List (Int×Nat)}{S:Int→Bool}{o:af}{R:af}(h:Fq T ((b,k)::rest) (S,o) R)(hk:(T b)[k]?=some t)(ht:S t=false):Fq T ((t,0)::(b,k+1)::rest) (fI S t,o) R:=by
 obtain⟨s',h1,h2⟩:=h;obtain⟨eV,he⟩:=List.getElem?_eq_some_iff.1 hk;rw[List.drop_eq_getElem_cons eV,he]at h1;cases h1 with
 |skip h' _=>rw[ht]at h';cases h'
 |go _ ha hb=>exact⟨_,by simpa using ha,⟨s',hb,h2⟩⟩
def bS(l:List Bool):aP:=l.map Value.bool
theorem j0{l:List Bool}{i:Nat}(h:i<l.length):(bS l)[i]?=some (vB (l.getD i false)):=by simp[bS,List.getD,h]
theorem BC(l:List Bool):(bS l).length=l.length:=by simp[bS]
theorem qT(l:List Bool)(i:Nat)(v:Bool):bS (l.set i v)=(bS l).set i (vB v):=by simp[bS,List.map_set]
def en(n:Nat)(l:List Bool)(S:Int→Bool):Prop:=l.length=n∧∀i:Nat,i<n→l.getD i false=S (i:Int)
theorem en.start(n:Nat):en n (List.replicate n false) (fun _=>false):=⟨sI,fun i hi=>by simp[List.getD,hi]⟩
theorem en.put{n:Nat}{l:List Bool}{S:Int→Bool}(h:en n l S){i:Nat}(_hi:i<n):en n (l.set i true) (fI S (i:Int)):=by
 refine⟨by simp[h.1],fun j hj=> ?_⟩;unfold fI;by_cases e:i=j
 ·subst e;have:i<l.length:=by rw[h.1];exact hj
  simp[List.getD,this]
 ·have e2:¬((j:Int)=(i:Int)):=oM;rw[←h.2 j hj];simp[List.getD,List.getElem?_set_ne e,e2]
def BD(p:Int×Nat):aP:=[vI p.1,vI (p.2:Int)]
def qg(st:List (Int×Nat)):aP:=st.reverse.flatMap BD
theorem lh(p:Int×Nat)(st:List (Int×Nat)):qg (p::st)=qg st++BD p:=by simp[qg]
theorem yp(st:List (Int×Nat)):(qg st).length=st.length*2:=by
 induction st with
 |nil=>rfl
 |cons p st ih=>rw[lh,List.length_append,ih];simp[BD];omega
theorem tF{b:Int}{k:Nat}{st:List (Int×Nat)}:(qg ((b,k)::st))[st.length*2]?=some (vI b)∧(qg ((b,k)::st))[st.length*2+1]?=some (vI (k:Int)):=by
 rw[lh,←yp];constructor
 ·rw[List.getElem?_append_right (Nat.le_refl _)];simp[BD]
 ·rw[List.getElem?_append_right oM];simp[BD]
theorem Wd{b:Int}{k:Nat}{st:List (Int×Nat)}:(qg ((b,k)::st)).take (st.length*2)=qg st:=by
 rw[lh,←yp,List.take_left]
theorem We{b:Int}{k:Nat}{st:List (Int×Nat)}:(qg ((b,k)::st)).set (st.length*2+1) (vI ((k:Int)+1))=qg ((b,k+1)::st):=by
 rw[lh,lh,←yp,List.set_append_right _ _ oM];simp[BD]
structure MetL(n:Nat)(ws:List Nat)(S:Int→Bool):Prop where
 len:ws.length=(n+63) / 64
 fit:Fit ws
 bits:∀i:Nat,i<n→tb ws i=S (i:Int)
theorem MetL.start(n:Nat):MetL n (List.replicate ((n+63) / 64) 0) (fun _=>false):=⟨sI,Fit.zero _,fun i _=>VE _ i⟩
theorem MetL.put{n:Nat}{ws:List Nat}{S:Int→Bool}(h:MetL n ws S){i:Nat}(hi:i<n):MetL n (xY ws i) (fI S (i:Int)):=by
 refine⟨by simp[xY,h.len],h.fit.put i,fun j hj=> ?_⟩;rw[Qbv (by rw[h.len];omega),h.bits j hj];unfold fI;congr 1;by_cases e:i=j
 ·subst e;simp
 ·have:¬((j:Int)=(i:Int)):=oM;simp[e,this]
theorem MetL.idx{n:Nat}{ws:List Nat}{S:Int→Bool}(h:MetL n ws S){i:Nat}(hi:i<n):i / 64<ws.length:=by rw[h.len];omega
def Fs(T:Int→af):List (Int×Nat)→Nat
 |[]=>0
 |(b,k)::r=>((T b).length-k+1)+Fs T r
def BE(T:Int→af)(st:List (Int×Nat)):Prop:=∀p,p∈st→p.2≤(T p.1).length
theorem Wf(T:Int→af)(b:Int):BE T [(b,0)]:=by
 intro p hp;simp only[List.mem_singleton]at hp;subst hp;exact Nat.zero_le _
theorem Qo{T:Int→af}{b t:Int}{k:Nat}{r:List (Int×Nat)}(h:BE T ((b,k)::r))(hk:k+1≤(T b).length):BE T ((t,0)::(b,k+1)::r):=by
 intro p hp;rcases List.mem_cons.1 hp with rfl|hp
 ·exact Nat.zero_le _
 ·rcases List.mem_cons.1 hp with rfl|hp
  ·exact hk
  ·exact h p (List.mem_cons_of_mem _ hp)
theorem Wg{T:Int→af}{b:Int}{k:Nat}{r:List (Int×Nat)}(h:BE T ((b,k)::r))(hk:k+1≤(T b).length):BE T ((b,k+1)::r):=by
 intro p hp;rcases List.mem_cons.1 hp with rfl|hp
 ·exact hk
 ·exact h p (List.mem_cons_of_mem _ hp)
theorem Qp{bs:List SB}{b:Int}{k:Nat}(h:k<(tg bs b).length):∃ti:Nat,(tg bs b)[k]?=some (ti:Int)∧ti<bs.length:=by
 have h1:=pZ (List.getElem_mem h);obtain⟨ti,he⟩:=Int.eq_ofNat_of_zero_le h1.1;exact⟨ti,by rw[List.getElem?_eq_getElem h,he],oM⟩
def tG(l m:af)(k:Nat):Prop:=m.length=l.length∧∀p,p<l.length→m.getD p 0=if p<k∨l.length≤p+k then l.getD (l.length-1-p) 0 else l.getD p 0
theorem Ah(l:af):tG l l 0:=⟨rfl,fun p hp=>by rw[if_neg oM]⟩
theorem Ft{m:af}{i p:Nat}{v:Int}(hi:i<m.length):(m.set i v).getD p 0=if i=p then v else m.getD p 0:=by
 by_cases h:i=p
 ·subst h;simp[List.getD,hi]
 ·simp[List.getD,List.getElem?_set_ne h,h]
theorem Dn{l m:af}{k q:Nat}(h:tG l m k)(hq:k<q∧q+k+1=l.length):tG l ((m.set k (m.getD q 0)).set q (m.getD k 0)) (k+1):=by
 obtain⟨h1,h2⟩:=h;refine⟨by simp[h1],fun p hp=> ?_⟩;rw[Ft (by simp;omega),Ft oM];by_cases e1:q=p
 ·subst e1;rw[if_pos rfl,if_pos oM,h2 k oM,if_neg oM,show l.length-1-q=k by omega]
 ·rw[if_neg e1];by_cases e2:k=p
  ·subst e2;rw[if_pos rfl,if_pos oM,h2 q oM,if_neg oM,show l.length-1-k=q by omega]
  ·rw[if_neg e2,h2 p hp];by_cases e3:p<k∨l.length≤p+k
   ·rw[if_pos e3,if_pos oM]
   ·rw[if_neg e3,if_neg oM]
theorem Fu{l m:af}{k:Nat}(h:tG l m k)(hk:2*k≤l.length∧l.length≤2*k+1):m=l.reverse:=by
 obtain⟨h1,h2⟩:=h;apply List.ext_getElem?;intro p;by_cases hp:p<l.length
 ·have h3:=h2 p hp;have e:∀x:af,p<x.length→x[p]?=some (x.getD p 0):=by intro x hx;simp[List.getD,hx]
  rw[e m oM,e l.reverse (by simpa using hp),h3];have e4:l.reverse.getD p 0=l.getD (l.length-1-p) 0:=by simp[List.getD,List.getElem?_reverse hp]
  rw[e4];split
  ·rfl
  ·rw[show l.length-1-p=p by omega]
 ·rw[List.getElem?_eq_none oM,List.getElem?_eq_none (by simp;omega)]
end Go.Mor
namespace Go.Proofs.YtejbeeaomokjpaaGreat
open Go.Mor
theorem Mc(n:Nat)(w:World)(hn:n≤1000000):Calls Tryz.prog 101 #[nV n] w (ez fun v w'=>∃g,v=vS (sM g) ((n+63) / 64) ((n+63) / 64)∧Mem bq w w' [.row 191 1 (sM g) ((n+63) / 64) ((n+63) / 64) (kZ (List.replicate ((n+63) / 64) 0))]):=by
 refine fv 8 [nV n] Tryz.func101 ?_;have hM:=Mem.init w;refine aX<|aI<|ah 1<|cZ ((n:Int)+64)<|cZ (((n:Int)+64)-1) ?_;intro aC fr;refine gM (kR:ax _ 3=some (some 6,.binOp .quo 3 (.tmp 5) (.const (vI 64)) 3,3,none)) fr kR kR (k':=4) rfl (kd:= .i64) (kd':= .i64) (i:=(n:Int)+64-1) (j:=64) (z:=vI ((((n+63) / 64):Nat):Int)) kR kR (fun w=>by have h:=xX (P:=Tryz.prog) (t:=3) (i:=n+63) 64 oM dQ w;rw[show((n+63:Nat):Int)=(n:Int)+64-1 by omega]at h;exact h) ?_;intro aC ea fr;clear ea;refine P6 7 153 (.tmp 6) (.tmp 6) 153 fr (e:=191) (bytes:=8) (z:=(.int .u64 0)) (n:=((n+63) / 64)) (i:=((((n+63) / 64):Nat):Int)) oM (by simp only[maxLen];omega) hM ?_;intro b5 w6 hb5 _ M7 _ aC ea fr;clear ea;replace M7:=M7.nf;clear hM;revert aC;refine ah 1<|ay<|bL<|cv (vS (sM b5) ((n+63) / 64) ((n+63) / 64)) ?_;exact⟨b5,rfl,M7.cast (by simp[kZ])⟩
theorem Z8(ws:List Nat)(n i:Nat)(A:ar)(c:Nat)(w:World)(wD:Fit ws)(hi0:i≤1000000)(hn:n=ws.length)(hi:i / 64<ws.length)(kt:(bx.row 191 1 A n c (kZ ws)).holds w):Calls Tryz.prog 102 #[vS A n c,nV i] w (ez fun v w'=>v= .tuple #[]∧Mem (bx.row 191 1 A n c (kZ ws)).fp w w' [.row 191 1 A n c (kZ (xY ws i))]):=by
 subst hn;refine fv 14 [vS A ws.length c,nV i] Tryz.func102 ?_;have hM:=Mem.oY kt;obtain⟨g0,V8⟩:=df (hM.get 0 rfl) (show 0<ws.length by omega);subst V8;refine da [0,1] ?_;intro aC fr;refine ED (bo [eS (sM g0) ws.length c,.aU (nV i),eI ((i / 64:Nat):Int),eA (aZ g0) ((i / 64:Nat):Int) 1,.aU (.int .u64 ((ws.getD (i / 64) 0:Nat):Int)),.aU (nV i),eI ((i % 64:Nat):Int),.aU (.int .u64 ((2^(i % 64):Nat):Int)),.aU (.int .u64 ((ws.getD (i / 64) 0|||2^(i % 64):Nat):Int)),eA (aZ g0) ((i / 64:Nat):Int) 1,.aU undef]) (fun ls vs w_=>match ls 10 with|true=>(Mem (bx.row 191 1 (sM g0) ws.length c (kZ ws)).fp w w_ [.row 191 1 (sM g0) ws.length c (kZ (xY ws i))])|false=>(Mem (bx.row 191 1 (sM g0) ws.length c (kZ ws)).fp w w_ [.row 191 1 (sM g0) ws.length c (kZ ws)])) fr (eL (.aU (.aU (.aU (.aU (.aU (.aU (.aU (.aU (.aU (.aU (.aU .nil)))))))))))) (hM.aw (Mem.drew _)) (kV (pF lz bM bM ?_ (yd (aZ g0) ws.length 1 ((i / 64:Nat):Int) fun _ _ _ _ h=>h) (mP (aN (aZ g0) ((i / 64:Nat):Int) 1) (.int .u64 ((ws.getD (i / 64) 0:Nat):Int)) (fun _ _ _ _ h=>h) ?_) bM ?_ ?_) ?_ (yd (aZ g0) ws.length 1 ((i / 64:Nat):Int) fun _ _ _ _ h=>h) ?_) ?_;intro ep w_ ls vs cL hJ bI bH hp hF;refine jv (g0:=none) ?_;replace hF:Fr ep 14 [(5,nV i)]:=hF.kp [5];refine gM (kR:ax _ 0=some (some 6,.binOp .quo 3 (.tmp 5) (.const (vI 64)) 3,3,none)) hF kR kR (k':=1) rfl (kd:= .i64) (kd':= .i64) (i:=(i:Int)) (j:=64) (z:=vI ((i / 64:Nat):Int)) kR kR (fun w=>xX 64 oM dQ w) ?_;intro a2 ea _;refine aL kR ?_;exact bu (d:=some 6) kR ea rfl hJ;intro w_ ls vs hJ bI bH hp;have f10:=aR 10 11 bH bI;have aO:=hJ;simp only[f10]at aO;exact(bJ (aD (aO.get 0 rfl)) rfl (E5 oM));intro ep w_ ls vs cL hJ bI bH hp hF;refine jv (g0:=none) ?_;replace hF:Fr ep 14 [(9,nV i)]:=hF.kp [9];refine gM (kR:ax _ 0=some (some 10,.binOp .rem 3 (.tmp 9) (.const (vI 64)) 3,3,none)) hF kR kR (k':=1) rfl (kd:= .i64) (kd':= .i64) (i:=(i:Int)) (j:=64) (z:=vI ((i % 64:Nat):Int)) kR kR (fun w=>E4 64 dQ w) ?_;intro a2 ea _;refine aL kR ?_;exact bu (d:=some 10) kR ea rfl hJ;intro ep w_ ls vs cL hJ bI bH hp hF;refine jv (g0:=none) ?_;replace hF:Fr ep 14 [(10,(vI ((i % 64:Nat):Int)))]:=hF.kp [10];refine gM (kR:ax _ 0=some (some 11,.binOp .shl 191 (.const (.int .u64 1)) (.tmp 10) 3,191,none)) hF kR kR (k':=1) rfl (kd:= .u64) (kd':= .i64) (i:=1) (j:=((i % 64:Nat):Int)) (z:= .int .u64 ((2^(i % 64):Nat):Int)) kR kR (fun w=>VB (Nat.mod_lt _ dQ) w) ?_;intro a2 ea _;refine aL kR ?_;exact bu (d:=some 11) kR ea rfl hJ;intro ep w_ ls vs cL hJ bI bH hp hF;refine jv (g0:=none) ?_;replace hF:Fr ep 14 [(8,(.int .u64 ((ws.getD (i / 64) 0:Nat):Int))),(11,(.int .u64 ((2^(i % 64):Nat):Int)))]:=hF.kp [8,11];refine gM (kR:ax _ 0=some (some 12,.binOp .or 191 (.tmp 8) (.tmp 11) 191,191,none)) hF kR kR (k':=1) rfl (kd:= .u64) (kd':= .u64) (i:=((ws.getD (i / 64) 0:Nat):Int)) (j:=((2^(i % 64):Nat):Int)) (z:= .int .u64 ((ws.getD (i / 64) 0|||2^(i % 64):Nat):Int)) kR kR (fun w=>Qbu (wD.get _) (sa (Nat.mod_lt _ dQ)) w) ?_;intro a2 ea _;refine aL kR ?_;exact bu (d:=some 12) kR ea rfl hJ;intro ep w_ ls vs cL hJ bI bH hp hF;refine jv (g0:=none) ?_;replace hF:Fr ep 14 [(12,(.int .u64 ((ws.getD (i / 64) 0|||2^(i % 64):Nat):Int))),(13,(vP (aN (aZ g0) ((i / 64:Nat):Int) 1)))]:=hF.kp [12,13];have f10:ls 10=false:=bI;have aO:=hJ;simp only[f10]at aO;refine ew (kR:ax _ 0=some (none,.store 191 (.tmp 13) (.tmp 12),0,none)) hF kR kR (k':=1) rfl (ad:=(aZ g0)) (j:=((((i / 64:Nat):Int)).toNat*1)) (e:=191) (size:=1) (n:=ws.length) (cap:=c) (v:=(.int .u64 ((ws.getD (i / 64) 0|||2^(i % 64):Nat):Int))) (xs:=(kZ ws)) (ad':=(aN (aZ g0) ((i / 64:Nat):Int) 1)) kR rfl kR kR rfl aO 0 rfl oM ?_;intro w2 dH _ a2 ea _;refine aL kR ?_;refine bu (d:=none) kR ea rfl ?_;show _;exact dH.cast (by show[bx.row _ _ _ _ _ _]=_;rw[xY,PK,Int.toNat_natCast,Nat.mul_one]);intro aC w5 ls vs cV M6 hv fr;simp only[show ls 10=true from cV 10 dQ]at M6;revert aC;refine bX [] ?_;clear cV hv fr aC hM;clear vs ls;refine UY ?_;exact⟨rfl,M6⟩
theorem QbG(ws:List Nat)(n i:Nat)(A:ar)(c:Nat)(w:World)(wD:Fit ws)(hi0:i≤1000000)(hn:n=ws.length)(hi:i / 64<ws.length)(hA:RO bq w (.rd A (kZ ws))):Calls Tryz.prog 103 #[vS A n c,nV i] w (ez fun v w'=>v=vB (tb ws i)∧Mem bq w w' []):=by
 subst hn;refine fv 15 [vS A ws.length c,nV i] Tryz.func103 ?_;have hM:=Mem.init w;refine aX<|aI<|ah 2 ?_;intro aC fr;refine gM (kR:ax _ 2=some (some 7,.binOp .quo 3 (.tmp 6) (.const (vI 64)) 3,3,none)) fr kR kR (k':=3) rfl (kd:= .i64) (kd':= .i64) (i:=(i:Int)) (j:=64) (z:=vI ((i / 64:Nat):Int)) kR kR (fun w=>xX 64 oM dQ w) ?_;intro aC ea fr;clear ea;obtain⟨ad5,rfl⟩:=rd_some (hM.ro hA) (by rw[PL];omega);revert aC;refine ej ad5 ws.length 1 ((i / 64:Nat):Int)<|bt (aN ad5 ((i / 64:Nat):Int) 1) _ (bJ (hM.ro hA) rfl (E5 oM))<|ah 1 ?_;intro aC fr;refine gM (kR:ax _ 6=some (some 11,.binOp .rem 3 (.tmp 10) (.const (vI 64)) 3,3,none)) fr kR kR (k':=7) rfl (kd:= .i64) (kd':= .i64) (i:=(i:Int)) (j:=64) (z:=vI ((i % 64:Nat):Int)) kR kR (fun w=>E4 64 dQ w) ?_;intro aC ea fr;clear ea;refine gM (kR:ax _ 7=some (some 12,.binOp .shr 191 (.tmp 9) (.tmp 11) 3,191,none)) fr kR kR (k':=8) rfl (kd:= .u64) (kd':= .i64) (i:=((ws.getD (i / 64) 0:Nat):Int)) (j:=((i % 64:Nat):Int)) (z:= .int .u64 ((ws.getD (i / 64) 0 / 2^(i % 64):Nat):Int)) kR kR (fun w=>VD (Nat.mod_lt _ dQ) w) ?_;intro aC ea fr;clear ea;refine gM (kR:ax _ 8=some (some 13,.binOp .and 191 (.tmp 12) (.const (.int .u64 1)) 191,191,none)) fr kR kR (k':=9) rfl (kd:= .u64) (kd':= .u64) (i:=((ws.getD (i / 64) 0 / 2^(i % 64):Nat):Int)) (j:=1) (z:= .int .u64 ((ws.getD (i / 64) 0 / 2^(i % 64)&&&1:Nat):Int)) kR kR (fun w=>PJ (Nat.lt_of_le_of_lt (Nat.div_le_self _ _) (wD.get _)) w) ?_;intro aC ea fr;clear ea;revert aC;refine jP (((ws.getD (i / 64) 0 / 2^(i % 64)&&&1:Nat):Int)==1) fun Bh hBh=> ?_
 refine ah 1<|ay<|bL<|cv (vB Bh) ?_;exact⟨by rw[hBh,Qbw];rfl,hM⟩
theorem Md(l:af)(A:ar)(c:Nat)(w:World)(hm:l.length≤1000000)(kt:(bx.row 3 1 A l.length c (ints l)).holds w):Calls Tryz.prog 104 #[vS A l.length c] w (ez fun v w'=>v= .tuple #[]∧Mem (bx.row 3 1 A l.length c (ints l)).fp w w' [.row 3 1 A l.length c (ints l.reverse)]):=by
 refine fv 28 [vS A l.length c] Tryz.func104 ?_;have hM:=Mem.oY kt;refine aI<|ah 2<|cZ ((l.length:Int)-1)<|ah 2<|ay<|cr 0 ?_;intro aC fr;replace fr:Fr aC 28 [(0,.slice A l.length c),(2,vI (0:Int)),(3,vI ((l.length:Int)-1-(0:Int)))]:=by rw[show((l.length:Int)-1-(0:Int))=(l.length:Int)-1 by omega];exact fr.keep (keep:=[0,2,3]) kR
 refine fk (fun n_ a_ w_=>∃(k:Nat) (m:af),n_=l.length-k∧Fr a_ 28 [(0,vS A l.length c),(2,nV k),(3,(vI ((l.length:Int)-1-(k:Int))))]∧Mem (bx.row 3 1 A l.length c (ints l)).fp w w_ [.row 3 1 A l.length c (ints m)]∧(2*k≤l.length)∧(tG l m k)) (n:=_) ⟨0,l,rfl,fr.kp [0,2,3],hM,oM,Ah l⟩ ?_;clear fr aC hM;rintro n aC w3 ⟨k,m,rfl,fr,M4,hk,hs⟩;revert aC;refine ba<|aI<|ah 2<|jP (decide ((k:Int)<((l.length:Int)-1-(k:Int)))) fun Blt QeV=> ?_
 refine ay ?_;cases Blt;have clt:¬((k:Int)<((l.length:Int)-1-(k:Int))):=of_decide_eq_false QeV.symm;refine fT<|eW 0<|eX<|UY ?_;exact⟨rfl,M4.cast (by rw[Fu hs oM])⟩;have clt:(k:Int)<((l.length:Int)-1-(k:Int)):=of_decide_eq_true QeV.symm;refine fm<|bP<|ba<|cr 1 ?_;obtain⟨q,hq⟩:∃q:Nat,((l.length:Int)-1-(k:Int))=(q:Int):=⟨l.length-1-k,oM⟩;refine da [0,2,3,9] ?_;intro aC fr;rw[hq]at fr clt;have HY:m.length=l.length:=hs.1;obtain⟨g0,V8⟩:=df (M4.get 0 rfl) (show 0<l.length by omega);subst V8;revert aC;refine da [0,2,3,9] ?_;intro aC fr;refine ED (bo [eS (sM g0) l.length c,.aU (nV k),eS (sM g0) l.length c,.aU (nV q),eS (sM g0) l.length c,.aU (nV q),eA (aZ g0) (q:Int) 1,eI (m.getD (q:Int).toNat 0),eS (sM g0) l.length c,.aU (nV k),eA (aZ g0) (k:Int) 1,eI (m.getD (k:Int).toNat 0),eA (aZ g0) (k:Int) 1,.aU undef,eA (aZ g0) (q:Int) 1,.aU undef]) (fun ls vs w_=>match ls 15 with|true=>(Mem (bx.row 3 1 (sM g0) l.length c (ints l)).fp w w_ [.row 3 1 (sM g0) l.length c (((ints m).set (((k:Int)).toNat*1) (vI (m.getD (q:Int).toNat 0))).set (((q:Int)).toNat*1) (vI (m.getD (k:Int).toNat 0)))])|false=>(match ls 13 with|true=>(Mem (bx.row 3 1 (sM g0) l.length c (ints l)).fp w w_ [.row 3 1 (sM g0) l.length c ((ints m).set (((k:Int)).toNat*1) (vI (m.getD (q:Int).toNat 0)))])|false=>(Mem (bx.row 3 1 (sM g0) l.length c (ints l)).fp w w_ [.row 3 1 (sM g0) l.length c (ints m)]))) fr (eL (.aU (.aU (.aU (.aU (.aU (.aU (.aU (.aU (.aU (.aU (.aU (.aU (.aU (.aU (.aU (.aU .nil))))))))))))))))) (M4.aw (Mem.drew _)) (la (kV (dT lz bM bM bM bM bM bM (yd (aZ g0) l.length 1 (q:Int) fun _ _ _ _ h=>h) (mP (aN (aZ g0) (q:Int) 1) (vI (m.getD (q:Int).toNat 0)) (fun _ _ _ _ h=>h) ?_) bM bM (yd (aZ g0) l.length 1 (k:Int) fun _ _ _ _ h=>h) (mP (aN (aZ g0) (k:Int) 1) (vI (m.getD (k:Int).toNat 0)) (fun _ _ _ _ h=>h) ?_)) (yd (aZ g0) l.length 1 (k:Int) fun _ _ _ _ h=>h) ?_ (yd (aZ g0) l.length 1 (q:Int) fun _ _ _ _ h=>h)) ?_) ?_;intro w_ ls vs hJ bI bH hp;have f13:=aR 13 16 bH bI;have f15:=aR 15 16 bH bI;have aO:=hJ;simp only[f13,f15]at aO;exact(dZ (aD (aO.get 0 rfl)) rfl oM oM);intro w_ ls vs hJ bI bH hp;have f13:=aR 13 16 bH bI;have f15:=aR 15 16 bH bI;have aO:=hJ;simp only[f13,f15]at aO;exact(dZ (aD (aO.get 0 rfl)) rfl oM oM);intro ep w_ ls vs cL hJ bI bH hp hF;refine jv (g0:=none) ?_;replace hF:Fr ep 28 [(21,(vI (m.getD (q:Int).toNat 0))),(26,(vP (aN (aZ g0) (k:Int) 1)))]:=hF.kp [21,26];have f13:ls 13=false:=bI;have f15:=aR 15 16 bH bI;have aO:=hJ;simp only[f13,f15]at aO;refine ew (kR:ax _ 0=some (none,.store 3 (.tmp 26) (.tmp 21),0,none)) hF kR kR (k':=1) rfl (ad:=(aZ g0)) (j:=(((k:Int)).toNat*1)) (e:=3) (size:=1) (n:=l.length) (cap:=c) (v:=(vI (m.getD (q:Int).toNat 0))) (xs:=(ints m)) (ad':=(aN (aZ g0) (k:Int) 1)) kR rfl kR kR rfl aO 0 rfl oM ?_;intro w2 dH _ a2 ea _;refine aL kR ?_;refine bu (d:=none) kR ea rfl ?_;show match ls 15 with|true=>_|false=>(_)
 rw[f15];exact dH;intro ep w_ ls vs cL hJ bI bH hp hF;refine jv (g0:=none) ?_;replace hF:Fr ep 28 [(25,(vI (m.getD (k:Int).toNat 0))),(27,(vP (aN (aZ g0) (q:Int) 1)))]:=hF.kp [25,27];have f13:=cN 13 16 bH hp;have f15:ls 15=false:=bI;have aO:=hJ;simp only[f13,f15]at aO;refine ew (kR:ax _ 0=some (none,.store 3 (.tmp 27) (.tmp 25),0,none)) hF kR kR (k':=1) rfl (ad:=(aZ g0)) (j:=(((q:Int)).toNat*1)) (e:=3) (size:=1) (n:=l.length) (cap:=c) (v:=(vI (m.getD (k:Int).toNat 0))) (xs:=((ints m).set (((k:Int)).toNat*1) (vI (m.getD (q:Int).toNat 0)))) (ad':=(aN (aZ g0) (q:Int) 1)) kR rfl kR kR rfl aO 0 rfl oM ?_;intro w2 dH _ a2 ea _;refine aL kR ?_;refine bu (d:=none) kR ea rfl ?_;show _;exact dH;intro aC KG ls vs cV lH hv fr;simp only[show ls 15=true from cV 15 dQ]at lH;revert aC;refine bX [(0,vS (sM g0) l.length c),(2,nV k),(3,nV q)] ?_;clear cV hv fr aC M4;clear vs ls;refine cG<|ah 1<|cZ ((k:Int)+1)<|ah 1<|cZ ((q:Int)-1)<|ah 2<|ay ?_;intro aC fr;replace fr:Fr aC 28 [(0,.slice (sM g0) l.length c),(2,vI ((k+1:Nat):Int)),(3,vI ((l.length:Int)-1-((k+1:Nat):Int)))]:=by rw[show((l.length:Int)-1-((k+1:Nat):Int))=(q:Int)-1 by omega];exact fr.keep (keep:=[0,2,3]) kR
 exact⟨l.length-(k+1),oM,k+1,(m.set k (m.getD q 0)).set q (m.getD k 0),rfl,fr.kp [0,2,3],(lH.cast (by rw[ints_set,ints_set];simp only[Int.toNat_natCast,Nat.mul_one])),oM,Dn hs oM⟩
end Go.Proofs.YtejbeeaomokjpaaGreat
namespace Go.Proofs.YtejbeeaomokjpaaGreat
open Go.Mor
theorem Dp(nm wk pa va:Value)(A:ar)(c:Nat)(bs:List SB)(w:World)(hm:bs.length≤1000000)(hA:RO bq w (.blocks A bs)):Calls Tryz.prog 66 #[(.agg #[nm,wk,pa,va,(.slice A bs.length c)])] w (ez fun v w'=>∃A' c',v=vS A' (aH bs).length c'∧Mem bq w w' [.row 3 1 A' (aH bs).length c' (ints (aH bs))]):=by
 refine fv 83 [(.agg #[nm,wk,pa,va,(.slice A bs.length c)])] Tryz.func66 ?_;have hM:=Mem.init w;refine aI<|ou hM 30 (.agg #[nm,wk,pa,va,(.slice A bs.length c)]) [nm,wk,pa,va,(.slice A bs.length c)] fun b1 w2 jU M3=> ?_
 replace M3:=M3.nf;clear hM;refine ah 1<|ay<|ba<|aI<|ah 1<|bt (ao b1 4) (.slice A bs.length c) (ae (M3.get 0 rfl) rfl)<|ah 1<|jP (((bs.length:Nat):Int)==0) fun Bz hBz=> ?_
 refine ay ?_;cases Bz;have cz:¬(((bs.length:Nat):Int)=0):=L3 hBz;refine fT<|bP<|aI<|ah 1<|bt (ao b1 4) (.slice A bs.length c) (ae (M3.get 0 rfl) rfl)<|ah 1<|di (Mc bs.length w2 oM) ?_;rintro _ w5 ⟨g4,rfl,M6x⟩;have M6:=M3.cl M6x;refine ah 1<|ay<|aI<|ah 1<|di (vs:=#[(.slice (sM g4) ((bs.length+63) / 64) ((bs.length+63) / 64)),(.int .i64 0)]) (Z8 (List.replicate ((bs.length+63) / 64) 0) ((bs.length+63) / 64) 0 (sM g4) ((bs.length+63) / 64) w5 (Fit.zero _) oM sI (by simp;omega) (M6.get 1 rfl)) ?_;rintro _ w7 ⟨rfl,M8x⟩;have M8:=M6.md 1 rfl M8x;refine ay<|aX<|aI<|ah 1 ?_;intro aC fr;refine nX 20 158 1 #[(0,(.tmp 19))] 158 fr (e:=157) (size:=2) (zs:=[(.int .i64 0),(.int .i64 0)]) (vs:=[(0,(.agg #[(.int .i64 0),(.int .i64 0)]))]) (cs:=[(.int .i64 0),(.int .i64 0)]) M8 ?_;intro b9 w10 hb9 _ n5 _ aC ea fr;clear ea;replace n5:=n5.nf;revert aC;refine ah 1<|ay<|ba<|cr 0 ?_;obtain⟨s0,Fl,hl0⟩:=uT bs;intro aC fr;refine fk (fun n_ a_ w_=>∃(ws:List Nat) (S:Int→Bool) (qU:List (Int×Nat)) (A3:ar) (c3:Nat) (A2:ar) (n2:Nat) (c2:Nat) (o:af),n_=4*jG bs.length S+Fs (tg bs) qU∧Fr a_ 83 [(1,(pT b1 0)),(3,(.slice (sM g4) ((bs.length+63) / 64) ((bs.length+63) / 64))),(4,(.slice A2 n2 c2)),(5,(.slice A3 qU.length c3))]∧Mem bq w w_ [.aB b1 30 [nm,wk,pa,va,(.slice A bs.length c)],.row 191 1 (sM g4) ((bs.length+63) / 64) ((bs.length+63) / 64) (kZ ws),.row 157 2 A3 qU.length c3 (qg qU),.row 3 1 A2 n2 c2 (ints o)]∧(MetL bs.length ws S)∧(Fq (tg bs) qU (S,o) (Fp bs))∧(BE (tg bs) qU)∧(o.length+qU.length+jG bs.length S≤bs.length)∧(n2=o.length)) (n:=_) ⟨xY (List.replicate ((bs.length+63) / 64) 0) 0,fI (fun _=>false) 0,[(0,0)],(sM b9),1,none,0,0,[],rfl,fr.kp [1,3,4,5],(n5.call (Mem.dY _ 3 1)),(MetL.start bs.length).put oM,⟨s0,Fl,hl0⟩,Wf _ _,by have:=gg (n:=bs.length) (S:=fun _=>false) (t:=0) oM oM rfl;have:=kC bs.length (fun _=>false);simp only[List.length_cons,List.length_nil];omega,rfl⟩ ?_;clear fr aC n5;rintro n aC w18 ⟨ws,S,qU,A3,c3,A2,n2,c2,o,rfl,fr,mR,yq,Ai,Wh,yr,KD⟩;revert aC;refine ba<|aI<|ah 2<|jP (decide (((qU.length:Nat):Int)>0)) fun Bw Z9=> ?_
 refine ay ?_;cases Bw;have cw:¬(((qU.length:Nat):Int)>0):=of_decide_eq_false Z9.symm;refine fT<|eW 0<|eX<|aI ?_;obtain rfl:qU=[]:=by cases qU with|nil=>rfl|cons p r=>simp at cw
 have hol:o=Fp bs:=Ai;simp only[List.length_nil]at yr;subst KD;refine ah 1<|di (Md o A2 c2 w18 oM (mR.get 3 rfl)) ?_;rintro _ w22 ⟨rfl,L9⟩;have qf:=mR.md 3 rfl L9;refine ay<|aX<|bL<|cv (.slice A2 o.length c2) ?_;exact oi (qf.pick [false,false,false,true] rfl) (by unfold aH;rw[if_neg oM,hol]) sI;have cw:((qU.length:Nat):Int)>0:=of_decide_eq_true Z9.symm;refine fm<|bP<|cr 1<|aI ?_;obtain⟨b,k,rest,rfl⟩:∃b k rest,qU=(b,k)::rest:=by
   cases qU with
   |nil=>simp at cw
   |cons p rest=>exact⟨p.1,p.2,rest,rfl⟩
 have Qk:=Wh _ (List.mem_cons_self ..);simp only at Qk;have OV:((b,k)::rest).length=rest.length+1:=rfl;have Fv:=yr;simp only[List.length_cons]at Fv;have jB:=pR (mR.get 2 rfl);obtain⟨g3,rfl⟩:=df (mR.get 2 rfl) (Nat.succ_pos _);refine ah 3 ?_;intro aC fr;refine gv (kR:ax _ 3=some (some 27,(.binOp .sub 3 (.tmp 26) (.const (.int .i64 1)) 3),3,none)) fr kR kR (k':=4) rfl (i:=((((b,k)::rest).length:Nat):Int)) (j:=1) (z:=((rest.length:Nat):Int)) kR kR (congrArg some (by rw[OV];omega)) oM oM ?_;intro aC ea fr;clear ea;revert aC;refine ej (aZ g3) (((b,k)::rest).length) 2 ((rest.length:Nat):Int)<|ah 1<|ay<|ba<|bX [(1,(pT b1 0)),(3,(.slice (sM g4) ((bs.length+63) / 64) ((bs.length+63) / 64))),(4,(.slice A2 n2 c2)),(5,(.slice (sM g3) (((b,k)::rest).length) c3)),(6,(.pointer (some (((aZ g3):Addr).add ((((rest.length:Nat):Int)).toNat*2)))))] ?_;intro aC fr;refine ED (N:=83) (env0:=[(1,(pT b1 0)),(3,(.slice (sM g4) ((bs.length+63) / 64) ((bs.length+63) / 64))),(4,(.slice A2 n2 c2)),(5,(.slice (sM g3) (((b,k)::rest).length) c3)),(6,(.pointer (some (((aZ g3):Addr).add ((((rest.length:Nat):Int)).toNat*2)))))]) (bo [.aU (.agg #[nm,wk,pa,va,(.slice A bs.length c)]),.aU (.pointer (some (((aZ g3):Addr).add ((((rest.length:Nat):Int)).toNat*2)))),.aU (.pointer (some (((aZ g3):Addr).add ((((rest.length:Nat):Int)).toNat*2)))),.aU (.pointer (some (((aZ g3):Addr).add ((((rest.length:Nat):Int)).toNat*2)))),.aU (.int .i64 b),Spec.free,Spec.free]) (fun ls vs w_=>match ls 6 with|true=>(∃(Wi:ar) (HB:Nat),vs 6=(.slice Wi ((tg bs b).length) HB)∧Mem bq w w_ [.aB b1 30 [nm,wk,pa,va,(.slice A bs.length c)],.row 191 1 (sM g4) ((bs.length+63) / 64) ((bs.length+63) / 64) (kZ ws),.row 157 2 (sM g3) (((b,k)::rest).length) c3 (qg ((b,k)::rest)),.row 3 1 A2 n2 c2 (ints o),.row 3 1 Wi ((tg bs b).length) HB (ints (tg bs b))])|false=>(match ls 5 with|true=>(∃(Wi:ar) (HB:Nat),vs 5=(.slice Wi ((tg bs b).length) HB)∧Mem bq w w_ [.aB b1 30 [nm,wk,pa,va,(.slice A bs.length c)],.row 191 1 (sM g4) ((bs.length+63) / 64) ((bs.length+63) / 64) (kZ ws),.row 157 2 (sM g3) (((b,k)::rest).length) c3 (qg ((b,k)::rest)),.row 3 1 A2 n2 c2 (ints o),.row 3 1 Wi ((tg bs b).length) HB (ints (tg bs b))])|false=>(Mem bq w w_ [.aB b1 30 [nm,wk,pa,va,(.slice A bs.length c)],.row 191 1 (sM g4) ((bs.length+63) / 64) ((bs.length+63) / 64) (kZ ws),.row 157 2 (sM g3) (((b,k)::rest).length) c3 (qg ((b,k)::rest)),.row 3 1 A2 n2 c2 (ints o)]))) fr (eL (.aU (.aU (.aU (.aU (.aU (.free (.free .nil)))))))) (mR.aw (Mem.drew _)) (rM (sv lz ?_ bM bM bM (mP (((aZ g3):Addr).add ((((rest.length:Nat):Int)).toNat*2)) (.int .i64 b) (fun _ _ _ _ h=>h) ?_)) ?_ ?_) ?_;intro ep w_ ls vs cL hJ bI bH hp hF;refine jv (g0:=none) ?_;replace hF:Fr ep 83 [(1,(pT b1 0))]:=hF.kp [1];have f5:=aR 5 7 bH bI;have f6:=aR 6 7 bH bI;have aO:=hJ;simp only[f5,f6]at aO;refine fQ (kR:ax _ 0=some (some 29,(.load 30 (.tmp 1)),30,none)) hF kR kR (k':=1) rfl (ad:=aZ b1) (vs:=[nm,wk,pa,va,(.slice A bs.length c)]) kR kR (aW (aO.get 0 rfl)) ?_;intro a2 ea _;refine aL kR ?_;exact bu (d:=some 29) kR ea rfl hJ;intro w_ ls vs hJ bI bH hp;have f5:=aR 5 7 bH bI;have f6:=aR 6 7 bH bI;have aO:=hJ;simp only[f5,f6]at aO;exact(by rw[Int.toNat_natCast];exact jC (aD (aO.get 2 rfl)) rfl tF.1);intro ep w_ ls vs cL hJ bI bH hp hF;refine jv (g0:=none) ?_;replace hF:Fr ep 83 [(29,(.agg #[nm,wk,pa,va,(.slice A bs.length c)])),(33,(.int .i64 b))]:=hF.kp [29,33];have f5:ls 5=false:=bI;have f6:=aR 6 7 bH bI;have aO:=hJ;simp only[f5,f6]at aO;refine gK (kR:ax _ 0=some (some 34,(.call {callee:=(.value (.func 100)),args:=#[(.tmp 29),(.tmp 33)],argTypes:=#[30,3]}),43,none)) hF kR kR (k':=1) rfl (f:=100) (vs:=[(.agg #[nm,wk,pa,va,(.slice A bs.length c)]),(.int .i64 b)]) (cap:=[]) kR kR kR (BB _ _ _ _ A c bs b w_ hm (hA.at_ aO)) ?_;rintro _ w2 ⟨Wj,Wl,rfl,dH⟩ a2 ea _;have Me:=aO.call dH;refine aL kR ?_;refine bu (d:=some 34) kR ea trivial ?_;show match ls 6 with|true=>_|false=>(∃(Wi:ar) (HB:Nat),_)
 rw[f6];exact⟨Wj,Wl,rfl,Me⟩;intro ep w_ ls vs cL hJ bI bH hp hF;refine jv (g0:=none) ?_;replace hF:Fr ep 83 [(34,vs 5)]:=hF.kp [34];have f5:=cN 5 7 bH hp;have f6:ls 6=false:=bI;have aO:=hJ;simp only[f5,f6]at aO;obtain⟨Wj,Wl,e_,dH⟩:=aO;rw[e_]at hF;refine fg (kR:ax _ 0=some (some 7,(.assign (.tmp 34)),43,none)) hF kR kR (k':=1) rfl (v:=(.slice Wj ((tg bs b).length) Wl)) kR ?_;intro a2 ea _;refine aL kR ?_;refine bu (d:=some 7) kR ea trivial ?_;show∃(Wi:ar) (HB:Nat),_;exact⟨Wj,Wl,rfl,dH⟩;intro aC w34 ls vs cV ma hv fr;simp only[show ls 6=true from cV 6 dQ]at ma;revert aC;refine bX [(1,(pT b1 0)),(3,(.slice (sM g4) ((bs.length+63) / 64) ((bs.length+63) / 64))),(4,(.slice A2 n2 c2)),(5,(.slice (sM g3) (((b,k)::rest).length) c3)),(6,(.pointer (some (((aZ g3):Addr).add ((((rest.length:Nat):Int)).toNat*2))))),(7,vs 6)] ?_;obtain⟨Wi,HB,e_,ma⟩:=ma;rw[e_];clear e_;clear cV hv fr aC mR;clear vs ls;refine ba<|aI<|ah 3<|bt ((((aZ g3):Addr).add ((((rest.length:Nat):Int)).toNat*2)).add 1) (nV k) (by rw[Int.toNat_natCast,add_add];exact jC (aD (ma.get 2 rfl)) rfl tF.2)<|ah 2<|jP ((k:Int)==(((tg bs b).length:Nat):Int)) fun Bl hBl=> ?_
 refine ay ?_;cases Bl;have cl:¬((k:Int)=(((tg bs b).length:Nat):Int)):=L3 hBl;refine fT<|bP<|aI ?_;obtain⟨ti,Io,Mf⟩:=Qp (bs:=bs) (b:=b) (k:=k) oM;refine ah 4<|bt ((((aZ g3):Addr).add ((((rest.length:Nat):Int)).toNat*2)).add 1) (nV k) (by rw[Int.toNat_natCast,add_add];exact jC (aD (ma.get 2 rfl)) rfl tF.2) ?_;obtain⟨g37,rfl⟩:=df (ma.get 4 rfl) oM;refine ej (h1:=oM) (aZ g37) ((tg bs b).length) 1 (k:Int)<|bt (((aZ g37):Addr).add (((k:Int)).toNat*1)) (nV ti) (fx (aD (ma.get 4 rfl)) rfl Io)<|ah 1<|ay<|aI<|ah 3<|bt ((((aZ g3):Addr).add ((((rest.length:Nat):Int)).toNat*2)).add 1) (nV k) (by rw[Int.toNat_natCast,add_add];exact jC (aD (ma.get 2 rfl)) rfl tF.2)<|cZ (h2:=(by have:=pY bs b;omega)) ((k:Int)+1)<|ah 2<|yc ma 2 ((((aZ g3):Addr).add ((((rest.length:Nat):Int)).toNat*2)).add 1) (rest.length*2+1) (.int .i64 ((k:Int)+1)) rfl (by rw[Int.toNat_natCast,add_add]) (by rw[OV];omega) fun w38 M39=> ?_
 replace M39:=M39.nf;refine ay<|aI ?_;have uz:=bd [.aB b1 30 [nm,wk,pa,va,(.slice A bs.length c)],.row 191 1 (sM g4) ((bs.length+63) / 64) ((bs.length+63) / 64) (kZ ws),.row 157 2 (sM g3) (((b,k+1)::rest).length) c3 (qg ((b,k+1)::rest)),.row 3 1 A2 n2 c2 (ints o),.row 3 1 (sM g37) ((tg bs b).length) HB (ints (tg bs b))] (M39.cast (by rw[We];rfl));refine ah 2<|di (QbG ws ((bs.length+63) / 64) ti (sM g4) ((bs.length+63) / 64) w38 yq.fit oM yq.len.symm (yq.idx Mf) (RO.aD (uz.cK 1 rfl))) ?_;rintro _ w41 ⟨rfl,QbH⟩;have zT:=uz.cl QbH;obtain⟨Bm,hBm⟩:∃B,B=tb ws ti:=⟨_,rfl⟩;refine bX [(1,(pT b1 0)),(3,(.slice (sM g4) ((bs.length+63) / 64) ((bs.length+63) / 64))),(4,(.slice A2 n2 c2)),(5,(.slice (sM g3) (((b,k+1)::rest).length) c3)),(8,(nV ti)),(68,(.slice (sM g4) ((bs.length+63) / 64) ((bs.length+63) / 64))),(69,(nV ti)),(70,(.bool (tb ws ti)))] ?_;rw[←hBm];refine ah 1<|ay ?_;cases Bm;have cm:(tb ws ti)=false:=hBm.symm;have Wm:S (ti:Int)=false:=by rw[←yq.bits ti Mf];exact cm
 refine fm<|aI<|ah 2<|di (Z8 ws ((bs.length+63) / 64) ti (sM g4) ((bs.length+63) / 64) w41 yq.fit oM yq.len.symm (yq.idx Mf) (zT.get 1 rfl)) ?_;rintro _ w43 ⟨rfl,QbI⟩;have Ap:=zT.md 1 rfl QbI;refine ay<|cG<|ah 3 ?_;intro aC fr;refine nX 78 158 1 #[(0,(.tmp 77))] 158 fr (e:=157) (size:=2) (zs:=[(.int .i64 0),(.int .i64 0)]) (vs:=[(0,(.agg #[(nV ti),(.int .i64 0)]))]) (cs:=[(nV ti),(.int .i64 0)]) Ap ?_;intro zU w46 QhX _ EG _ aC ea fr;clear ea;replace EG:=EG.nf;refine wz 79 (.tmp 75) (.tmp 78) 158 158 fr (e:=157) (size:=2) (bytes:=16) (z:=(.agg #[(.int .i64 0),(.int .i64 0)])) (A:=(sM g3)) (B:=(sM zU)) (n:=(((b,k+1)::rest).length)) (cap:=c3) (m:=1) (cap':=1) (xs:=(qg ((b,k+1)::rest))) (news:=[(nV ti),(.int .i64 0)]) EG 2 rfl (aD (EG.get 5 rfl)) rfl (by simp[Value.oneCell']) (by simp only[List.length_cons];omega) (by simp only[maxLen,List.length_cons];omega) ?_;intro iP gC w54 pG _ aC ea fr;clear ea;replace pG:=pG.nf;have rL:=pG.od [4,4,4,4,4] 5;revert aC;refine ah 1<|ay ?_;intro aC fr;exact⟨4*jG bs.length (fI S (ti:Int))+Fs (tg bs) (((ti:Int),0)::(b,k+1)::rest),by have:=pY bs (ti:Int);have:=gg (n:=bs.length) (S:=S) (t:=(ti:Int)) oM oM Wm;simp only[Fs];omega,xY ws ti,fI S (ti:Int),((ti:Int),0)::(b,k+1)::rest,iP,gC,A2,n2,c2,o,rfl,fr.kp [1,3,4,5],((rL.pick [true,true,true,true,false] rfl).cast (by rw[lh ((ti:Int),0)];rfl)),yq.put Mf,Qn Ai Io Wm,Qo Wh oM,by have:=gg (n:=bs.length) (S:=S) (t:=(ti:Int)) oM oM Wm;simp only[List.length_cons]at yr⊢;omega,KD⟩;have cm:(tb ws ti)=true:=hBm.symm;have Wm:S (ti:Int)=true:=by rw[←yq.bits ti Mf];exact cm
 refine fT<|bP ?_;intro aC fr;exact⟨4*jG bs.length S+Fs (tg bs) ((b,k+1)::rest),by simp only[Fs];omega,ws,S,(b,k+1)::rest,(sM g3),c3,A2,n2,c2,o,rfl,fr.kp [1,3,4,5],(zT.pick [true,true,true,true,false] rfl),yq,Qm Ai Io Wm,Wg Wh oM,by simp only[List.length_cons]at yr⊢;omega,KD⟩;have cl:(k:Int)=(((tg bs b).length:Nat):Int):=beq_iff_eq.1 hBl.symm;refine fm<|aI<|ah 4<|bt (((aZ g3):Addr).add ((((rest.length:Nat):Int)).toNat*2)) (.int .i64 b) (by rw[Int.toNat_natCast];exact jC (aD (ma.get 2 rfl)) rfl tF.1) ?_;intro aC fr;refine nX 47 43 1 #[(0,(.tmp 46))] 43 fr (e:=3) (size:=1) (zs:=[(.int .i64 0)]) (vs:=[(0,(.int .i64 b))]) (cs:=[(.int .i64 b)]) ma ?_;intro b63 w64 hb63 _ HC _ aC ea fr;clear ea;replace HC:=HC.nf;refine wz 48 (.tmp 42) (.tmp 47) 43 43 fr (e:=3) (size:=1) (bytes:=8) (z:=(.int .i64 0)) (A:=A2) (B:=(sM b63)) (n:=n2) (cap:=c2) (m:=1) (cap':=1) (xs:=(ints o)) (news:=[(.int .i64 b)]) HC 3 rfl (aD (HC.get 5 rfl)) rfl (by simp[Value.oneCell']) oM (by simp only[maxLen];omega) ?_;intro A70 OW w72 Dq _ aC ea fr;clear ea;replace Dq:=Dq.nf;have sw:=Dq.od [4,4,4,4,4] 5;revert aC;refine ah 1<|ay<|aI<|ah 3 ?_;intro aC fr;refine gv (kR:ax _ 3=some (some 52,(.binOp .sub 3 (.tmp 51) (.const (.int .i64 1)) 3),3,none)) fr kR kR (k':=4) rfl (i:=((((b,k)::rest).length:Nat):Int)) (j:=1) (z:=((rest.length:Nat):Int)) kR kR (congrArg some (by rw[OV];omega)) oM oM ?_;intro aC ea fr;clear ea;refine gx (kR:ax _ 4=some (some 53,(.slice 158 (.tmp 49) none (some (.tmp 52)) none),158,none)) fr kR kR (k':=5) rfl (A:=(sM g3)) (n:=((b,k)::rest).length) (cap:=c3) (e:=157) (size:=2) (kd:= .i64) (i:=((rest.length:Nat):Int)) rest.length kR kR rfl kR kR oM ?_;intro aC ea fr;clear ea;have n8:=bd [.aB b1 30 [nm,wk,pa,va,(.slice A bs.length c)],.row 191 1 (sM g4) ((bs.length+63) / 64) ((bs.length+63) / 64) (kZ ws),.row 157 2 (sM g3) rest.length c3 (qg rest),.row 3 1 A70 (n2+1) OW ((ints o)++[(.int .i64 b)]),.row 3 1 Wi ((tg bs b).length) HB (ints (tg bs b))] ((sw.lD 2 rfl rest.length oM).cast (by rw[Wd];rfl));revert aC;refine ah 1<|ay<|eW 1<|eX ?_;intro aC fr;exact⟨4*jG bs.length S+Fs (tg bs) rest,by simp only[Fs];omega,ws,S,rest,(sM g3),c3,A70,(n2+1),OW,o++[b],rfl,fr.kp [1,3,4,5],((n8.pick [true,true,true,true,false] rfl).cast (by rw[fG];rfl)),yq,Wc Ai oM,fun p hp=>Wh p (List.mem_cons_of_mem _ hp),by simp only[List.length_append,List.length_cons,List.length_nil]at yr⊢;omega,by simp only[List.length_append,List.length_cons,List.length_nil];omega⟩;have cz:((bs.length:Nat):Int)=0:=beq_iff_eq.1 hBz.symm;refine fm<|aX<|bL<|cv an ?_;exact qP (M3.pick [false] rfl) (by unfold aH;rw[if_pos oM])
end Go.Proofs.YtejbeeaomokjpaaGreat
namespace Go.Mor
open Go.RowKit
inductive Reach(T:Int→af):Int→Prop
 |zero:Reach T 0
 |step {x t:Int}:Reach T x→t∈T x→Reach T t
def HD(T:Int→af)(bar:Int)(x:Int):af:=(T x).filter (fun t=> !(t==bar))
theorem iy{T:Int→af}{bar x t:Int}:t∈HD T bar x↔t∈T x∧t≠bar:=by simp[HD]
theorem Wn{T:Int→af}(hT:∀t,(T t).length≤2)(bar:Int)(t:Int):(HD T bar t).length≤2:=Nat.le_trans (List.length_filter_le _ _) (hT t)
theorem Fw{T:Int→af}{ts:af}{s s':Ma}(h:Go.Mor.Kids T ts s s'):(∀x,x∈ts→s'.1 x=true)∧(∀x,s'.1 x=true→s.1 x=true∨∀t,t∈T x→s'.1 t=true):=by
 induction h with
 |nil=>exact⟨fun x hx=>(List.not_mem_nil hx).elim,fun x hx=> .inl hx⟩
 | @skip t ts S o s' hS h ih=>
  refine⟨fun x hx=> ?_,ih.2⟩;rcases List.mem_cons.1 hx with rfl|hx
  ·exact Kids.mono h _ hS
  ·exact ih.1 x hx
 | @go t ts S o s1 s' hS h1 h2 U0 U1=>
  have m1:=Kids.mono h1;have m2:=Kids.mono h2;have ht:s1.1 t=true:=m1 t (by simp[fI]);refine⟨fun x hx=> ?_,fun x hx=> ?_⟩
  ·rcases List.mem_cons.1 hx with rfl|hx
   ·exact m2 _ ht
   ·exact U1.1 x hx
  ·rcases U1.2 x hx with hx|hx
   ·rcases U0.2 x hx with hx|hx
    ·by_cases e:x=t
     ·subst e;exact .inr fun y hy=>m2 y (U0.1 y hy)
     ·left;have:(x==t||S x)=true:=hx;simpa[e]using this
    ·exact .inr fun y hy=>m2 y (hx y hy)
   ·exact .inr hx
theorem Ip{T:Int→af}{ts:af}{s s':Ma}(h:Go.Mor.Kids T ts s s')(U2:∀x,x∈ts→Reach T x)(hs:∀x,s.1 x=true→Reach T x):∀x,s'.1 x=true→Reach T x:=by
 induction h with
 |nil=>exact hs
 |skip _ _ ih=>exact ih (fun x hx=>U2 x (List.mem_cons_of_mem _ hx)) hs
 | @go t ts S o s1 s' hS h1 h2 U0 U1=>
  have ht:=U2 t (List.mem_cons_self ..);refine U1 (fun x hx=>U2 x (List.mem_cons_of_mem _ hx)) (U0 (fun x hx=> .step ht hx) (fun x hx=> ?_));have hx:(x==t||S x)=true:=hx;by_cases e:x=t
  ·exact e▸ht
  ·exact hs x (by simpa[e]using hx)
theorem Qq{T:Int→af}{ts:af}{s s':Ma}(h:Go.Mor.Kids T ts s s'):∃nw,s'.2=s.2++nw∧(∀x,s'.1 x=true↔s.1 x=true∨x∈nw)∧nw.Nodup∧(∀x,x∈nw→s.1 x=false)∧
  (∀l1 x l2,nw=l1++x::l2→x∈ts∨∃y,y∈l2∧x∈T y):=by
 induction h with
 |nil=>exact⟨[],sI,sI,sI,sI,sI⟩
 | @skip t ts S o s' hS h ih=>
  obtain⟨nw,h1,h2,h3,h4,h5⟩:=ih
  exact⟨nw,h1,h2,h3,h4,fun l1 x l2 e=>(h5 l1 x l2 e).imp (fun h=>List.mem_cons_of_mem _ h) id⟩
 | @go t ts S o s1 s' hS h1 h2 U0 U1=>
  obtain⟨n1,a1,a2,a3,a4,a5⟩:=U0
  obtain⟨n2,b1,b2,b3,b4,b5⟩:=U1
  have a2':∀x,s1.1 x=true↔(S x=true∨x=t)∨x∈n1:=by
   intro x
   rw[a2 x]
   have:(fI S t x=true)↔(S x=true∨x=t):=by simp[fI,or_comm]
   exact or_congr this Iff.rfl
  have b4':∀x,x∈n2→S x=false∧x≠t∧x∉n1:=by
   intro x hx
   have h0:s1.1 x=false:=b4 x hx
   have:¬s1.1 x=true:=by rw[h0];simp
   rw[a2' x]at this
   refine⟨by simpa using fun h=>this (.inl (.inl h)),fun h=>this (.inl (.inr h)),fun h=>this (.inr h)⟩
  have a4':∀x,x∈n1→S x=false∧x≠t:=by
   intro x hx
   have h0:=a4 x hx
   have:¬(fI S t x=true):=by
    have h0:fI S t x=false:=h0
    rw[h0];simp
   have h3:¬(x=t∨S x=true):=by simpa[fI]using this
   exact⟨by simpa using fun h=>h3 (.inr h),fun h=>h3 (.inl h)⟩
  refine⟨n1++t::n2,?_,?_,?_,?_,?_⟩
  ·rw[b1]
   simp only[a1]
   simp
  ·intro x
   rw[b2 x]
   have:=a2' x
   simp only[this,List.mem_append,List.mem_cons]
   constructor
   ·rintro(((h|h)|h)|h)
    ·exact .inl h
    ·exact .inr (.inr (.inl h))
    ·exact .inr (.inl h)
    ·exact .inr (.inr (.inr h))
   ·rintro(h|h|h|h)
    ·exact .inl (.inl (.inl h))
    ·exact .inl (.inr h)
    ·exact .inl (.inl (.inr h))
    ·exact .inr h
  ·rw[List.nodup_append]
   refine⟨a3,List.nodup_cons.2 ⟨fun h=>(b4' t h).2.1 rfl,b3⟩,fun x hx y hy=> ?_⟩
   rcases List.mem_cons.1 hy with rfl|hy
   ·exact(a4' x hx).2
   ·rintro rfl
    exact(b4' x hy).2.2 hx
  ·intro x hx
   rcases List.mem_append.1 hx with hx|hx
   ·exact(a4' x hx).1
   ·rcases List.mem_cons.1 hx with rfl|hx
    ·exact hS
    ·exact(b4' x hx).1
  ·intro l1 x l2 e
   rcases List.append_eq_append_iff.1 e with⟨p,e1,e2⟩|⟨p,e1,e2⟩
   ·
    cases p with
    |nil=>
     simp only[List.nil_append,List.cons.injEq]at e2
     exact .inl (by rw[←e2.1];exact List.mem_cons_self ..)
    |cons q p=>
     simp only[List.cons_append,List.cons.injEq]at e2
     rcases b5 p x l2 e2.2 with h|⟨y,hy,h⟩
     ·exact .inl (List.mem_cons_of_mem _ h)
     ·exact .inr ⟨y,hy,h⟩
   ·cases p with
    |nil=>
     simp only[List.nil_append,List.cons.injEq]at e2
     exact .inl (by rw[e2.1];exact List.mem_cons_self ..)
    |cons q p=>
     simp only[List.cons_append,List.cons.injEq]at e2
     obtain⟨rfl,e2⟩:=e2
     right
     rcases a5 l1 x p e1 with h|⟨y,hy,h⟩
     ·exact⟨t,by rw[e2];simp,h⟩
     ·exact⟨y,by rw[e2];simp[hy],h⟩
def QbJ(T:Int→af)(n:Nat):Int→Bool:=(lI T (3*n+3) (T 0) (fI (fun _=>false) 0,[])).1
theorem Qr{T:Int→af}{n:Nat}(hT:∀t,(T t).length≤2)(hR:∀t x,x∈T t→0≤x∧x<n):∃s,Go.Mor.Kids T (T 0) (fI (fun _=>false) 0,[]) s∧s.1=QbJ T n:=by
 refine⟨_,yo (n:=n) hT hR (3*n+3) _ _ (fun x h=>hR 0 x h) ?_,rfl⟩;have h1:=hT 0;have h2:=kC n (fI (fun _=>false) 0);simp only;by_cases h:n=0
 ·have:T 0=[]:=by
   cases h3:T 0 with
   |nil=>rfl
   |cons x l=>have:=hR 0 x (by rw[h3];exact List.mem_cons_self ..);omega
  rw[this];simp;omega
 ·have:=gg (n:=n) (S:=fun _=>false) (t:=0) oM oM rfl;have h3:=kC n (fun _=>false);omega
theorem BF{T:Int→af}{s:Ma}(h:Go.Mor.Kids T (T 0) (fI (fun _=>false) 0,[]) s)(x:Int):s.1 x=true↔Reach T x:=by
 constructor
 ·refine Ip h (fun x hx=> .step .zero hx) (fun x hx=> ?_) x;have:x=0:=by simpa[fI]using hx
  exact this▸ .zero
 ·obtain⟨c1,c2⟩:=Fw h;have h0:s.1 0=true:=Kids.mono h 0 (by simp[fI]);intro hr;induction hr with
  |zero=>exact h0
  | @step x t _ ht ih=>
   rcases c2 x ih with hx|hx
   ·have:x=0:=by simpa[fI]using hx
    exact c1 t (this▸ht)
   ·exact hx t ht
theorem Mg{T:Int→af}{n:Nat}(hT:∀t,(T t).length≤2)(hR:∀t x,x∈T t→0≤x∧x<n)(x:Int):QbJ T n x=true↔Reach T x:=by
 obtain⟨s,h,e⟩:=Qr hT hR;rw[←e];exact BF h x
theorem Qs{T:Int→af}{n:Nat}(hn:0<n)(hR:∀t x,x∈T t→0≤x∧x<(n:Int)){x:Int}(h:Reach T x):0≤x∧x<n:=by
 cases h with
 |zero=>omega
 |step _ ht=>exact hR _ _ ht
def fJ(bs:List SB)(bar:Int)(x:Int):Bool:=!(bar==0)&&QbJ (HD (tg bs) bar) bs.length x
def gh(bs:List SB)(bar:Int):List Bool:=(List.range bs.length).map (fun i:Nat=>fJ bs bar (i:Int))
theorem lj(bs:List SB)(bar:Int):(gh bs bar).length=bs.length:=by simp[gh]
theorem jh{bs:List SB}{bar:Int}{i:Nat}(h:i<bs.length):(gh bs bar).getD i false=fJ bs bar (i:Int):=by
 simp[gh,List.getD,h]
theorem qh(bs:List SB)(bar:Int)(x:Int):fJ bs bar x=true↔bar≠0∧Reach (HD (tg bs) bar) x:=by
 unfold fJ;rw[Bool.and_eq_true,Mg (fun t=>Wn (fun t=>pY bs t) bar t) (fun t x h=>pZ (iy.1 h).1) x];simp
theorem uU{n:Nat}{l:List Bool}{S:Int→Bool}(h:en n l S){m:List Bool}(hm:m.length=n)(hg:∀i:Nat,i<n→m.getD i false=S (i:Int)):l=m:=by
 apply List.ext_getElem?;intro i;by_cases hi:i<n
 ·have h1:=h.2 i hi;have h2:=hg i hi;have e1:i<l.length:=by rw[h.1];exact hi
  have e2:i<m.length:=by rw[hm];exact hi
  simp only[List.getD,List.getElem?_eq_getElem e1,List.getElem?_eq_getElem e2,Option.getD_some]at h1 h2⊢;rw[h1,h2]
 ·rw[List.getElem?_eq_none (by rw[h.1];omega),List.getElem?_eq_none (by rw[hm];omega)]
structure Fx(T:Int→af)(bar:Int)(S:Int→Bool)(todo:af)(i k:Nat):Prop where
 mem:∀x,S x=true↔x∈todo
 reach:∀x,x∈todo→Reach (HD T bar) x
 zero:(0:Int)∈todo
 done:∀j x,j<i→todo[j]?=some x→∀t,t∈T x→t≠bar→t∈todo
 part:∀x,todo[i]?=some x→∀t,t∈(T x).take k→t≠bar→t∈todo
theorem Fx.start(T:Int→af)(bar:Int):Fx T bar (fI (fun _=>false) 0) [0] 0 0:=by
 refine⟨fun x=>by simp[fI],fun x hx=> ?_,sI,fun j x h=>oM,fun x _ t h=>by simp at h⟩;have:x=0:=by simpa using hx
 exact this▸ .zero
theorem Fx.skip{T:Int→af}{bar:Int}{S:Int→Bool}{todo:af}{i k:Nat}{b t:Int}(h:Fx T bar S todo i k)(hi:todo[i]?=some b)(hk:(T b)[k]?=some t)(ht:S t=true∨t=bar):Fx T bar S todo i (k+1):=by
 refine⟨h.mem,h.reach,h.zero,h.done,fun x hx y hy dt=> ?_⟩;rw[hi]at hx;injection hx with hx;subst hx;obtain⟨eV,he⟩:=List.getElem?_eq_some_iff.1 hk;rw[List.take_succ_eq_append_getElem eV,he]at hy;rcases List.mem_append.1 hy with hy|hy
 ·exact h.part b hi y hy dt
 ·have:y=t:=by simpa using hy
  subst this;rcases ht with ht|ht
  ·exact(h.mem y).1 ht
  ·exact(dt ht).elim
theorem Fx.push{T:Int→af}{bar:Int}{S:Int→Bool}{todo:af}{i k:Nat}{b t:Int}(h:Fx T bar S todo i k)(hi:todo[i]?=some b)(hk:(T b)[k]?=some t)(ht:t≠bar):Fx T bar (fI S t) (todo++[t]) i (k+1):=by
 have eV:i<todo.length:=(List.getElem?_eq_some_iff.1 hi).1;obtain⟨hlk,he⟩:=List.getElem?_eq_some_iff.1 hk;refine⟨fun x=> ?_,fun x hx=> ?_,List.mem_append_left _ h.zero,fun j x hj hx y hy dt=> ?_,fun x hx y hy dt=> ?_⟩
 ·have:=h.mem x;simp[fI,this,or_comm]
 ·rcases List.mem_append.1 hx with hx|hx
  ·exact h.reach x hx
  ·have:x=t:=by simpa using hx
   subst this;exact .step (h.reach b (List.mem_of_getElem? hi)) (iy.2 ⟨List.mem_of_getElem? hk,ht⟩)
 ·rw[List.getElem?_append_left oM]at hx;exact List.mem_append_left _ (h.done j x hj hx y hy dt)
 ·rw[List.getElem?_append_left eV,hi]at hx;injection hx with hx;subst hx;rw[List.take_succ_eq_append_getElem hlk,he]at hy;rcases List.mem_append.1 hy with hy|hy
  ·exact List.mem_append_left _ (h.part b hi y hy dt)
  ·exact List.mem_append_right _ hy
theorem Fx.next{T:Int→af}{bar:Int}{S:Int→Bool}{todo:af}{i k:Nat}{b:Int}(h:Fx T bar S todo i k)(hi:todo[i]?=some b)(hk:(T b).length≤k):Fx T bar S todo (i+1) 0:=by
 refine⟨h.mem,h.reach,h.zero,fun j x hj hx y hy dt=> ?_,fun x _ y hy=>by simp at hy⟩;by_cases e:j=i
 ·subst e;rw[hi]at hx;injection hx with hx;subst hx;exact h.part b hi y (by rw[List.take_of_length_le hk];exact hy) dt
 ·exact h.done j x oM hx y hy dt
theorem Fx.fin{T:Int→af}{bar:Int}{S:Int→Bool}{todo:af}{i k:Nat}(h:Fx T bar S todo i k)(hi:todo.length≤i)(x:Int):S x=true↔Reach (HD T bar) x:=by
 rw[h.mem x];refine⟨h.reach x,fun hr=> ?_⟩;induction hr with
 |zero=>exact h.zero
 | @step x t _ ht ih=>
  obtain⟨ht,dt⟩:=iy.1 ht;obtain⟨j,hj,e⟩:=List.mem_iff_getElem.1 ih;exact h.done j x oM (by rw[List.getElem?_eq_getElem hj,e]) t ht dt
theorem Qt{bs:List SB}{bar:Int}{S:Int→Bool}{inl:List Bool}{todo:af}{i k:Nat}(nY:en bs.length inl S)(h:Fx (tg bs) bar S todo i k)(hi:todo.length≤i)(hb:bar≠0):inl=gh bs bar:=by
 refine uU nY (lj _ _) (fun j hj=> ?_);rw[jh hj,Bool.eq_iff_iff,qh,h.fin hi];exact⟨fun h=>h.2,fun h=>⟨hb,h⟩⟩
theorem BG{bs:List SB}{bar:Int}(h:bs.length=0∨bar=0):List.replicate bs.length false=gh bs bar:=by
 refine uU (en.start bs.length) (lj _ _) (fun j hj=> ?_);rw[jh hj];have:bar=0:=oM;simp[fJ,this]
end Go.Mor
namespace Go.Proofs.YtejbeeaomokjpaaGreat
open Go.Mor
theorem Iq(nm wk pa va:Value)(A:ar)(c:Nat)(bs:List SB)(bar:Int)(w:World)(hm:bs.length≤1000000)(hA:RO bq w (.blocks A bs)):Calls Tryz.prog 35 #[(.agg #[nm,wk,pa,va,vS A bs.length c]),vI bar] w (ez fun v w'=>∃A' c',v=vS A' bs.length c'∧Mem bq w w' [.row 4 1 A' bs.length c' (bS (gh bs bar))]):=by
 refine fv 74 [(.agg #[nm,wk,pa,va,vS A bs.length c]),vI bar] Tryz.func35 ?_;have hM:=Mem.init w;refine aI<|ou hM 30 (.agg #[nm,wk,pa,va,vS A bs.length c]) [nm,wk,pa,va,vS A bs.length c] fun b1 w2 jU M3=> ?_
 replace M3:=M3.nf;clear hM;refine ah 1<|ay<|aI<|ah 1<|bt (ao b1 4) _ (ae (M3.get 0 rfl) rfl)<|ah 1 ?_;intro aC fr;refine P6 13 56 (.tmp 12) (.tmp 12) 56 fr (e:=4) (bytes:=1) (z:=(vB false)) (n:=bs.length) (i:=(bs.length:Int)) oM (by simp only[maxLen];omega) M3 ?_;intro b4 w5 U3 _ M6 _ aC ea fr;clear ea;replace M6:=M6.nf;revert aC;refine ah 1<|ay<|ba<|aI<|ah 1<|bt (ao b1 4) _ (ae (M6.get 0 rfl) rfl)<|ah 1<|jP ((bs.length:Int)==0) fun Bz hBz=> ?_
 refine ah 1 ?_;cases Bz;have cz:¬((bs.length:Int)=0):=L3 hBz;refine ah 1<|jP (bar==0) fun Bb hBb=> ?_
 refine ah 1<|ay ?_;cases Bb;have cb:¬(bar=0):=L3 hBb;refine fT<|bP<|aI<|ah 1<|ej (aZ b4) bs.length 1 0<|yc M6 1 (aN (aZ b4) (0:Int) 1) ((0:Int).toNat*1) (vB true) rfl rfl oM fun Dr dE=> ?_
 replace dE:=dE.nf;refine da [1,2,5]<|ay<|aI ?_;intro aC fr;refine nX 25 43 1 #[(0,.const (vI 0))] 43 fr (e:=3) (size:=1) (zs:=[vI 0]) (vs:=[(0,vI 0)]) (cs:=[vI 0]) dE ?_;intro b13 w14 hb13 _ mS _ aC ea fr;clear ea;replace mS:=mS.nf;revert aC;refine ah 1<|ay<|ba<|aX<|cr 0 ?_;intro aC fr;refine fk (fun n_ a_ w_=>∃(i:Nat) (S:Int→Bool) (inl:List Bool) (todo:af) (A2:ar) (n2:Nat) (c2:Nat),n_=bs.length-i∧Fr a_ 74 [(1,vI bar),(2,pT b1 0),(5,vS (sM b4) bs.length bs.length),(6,vS A2 n2 c2),(7,nV i)]∧Mem bq w w_ [.aB b1 30 [nm,wk,pa,va,vS A bs.length c],.row 4 1 (sM b4) bs.length bs.length (bS inl),.row 3 1 A2 n2 c2 (ints todo)]∧(en bs.length inl S)∧(Fx (tg bs) bar S todo i 0)∧(todo.length+jG bs.length S≤bs.length)∧(n2=todo.length)∧(i≤todo.length)) (n:=_) ⟨0,fI (fun _=>false) 0,(List.replicate bs.length false).set 0 true,[0],(sM b13),1,1,rfl,fr.kp [1,2,5,6,7],(mS.cast (by simp[bS,ints,List.map_set])),(en.start bs.length).put oM,Fx.start _ _,by have:=gg (n:=bs.length) (S:=fun _=>false) (t:=0) oM oM rfl;have:=kC bs.length (fun _=>false);simp only[List.length_cons,List.length_nil];omega,rfl,oM⟩ ?_;clear fr aC mS;rintro n aC w22 ⟨i,S,inl,todo,A2,n2,c2,rfl,fr,qf,nY,hbf,yr,KD,hi⟩;revert aC;refine ba<|aI<|ah 3<|jP (decide ((i:Int)<(n2:Int))) fun Bw Z9=> ?_
 refine ay ?_;cases Bw;have cw:¬((i:Int)<(n2:Int)):=of_decide_eq_false Z9.symm;refine fT<|eW 0<|eX<|aX<|bL<|cv (vS (sM b4) bs.length bs.length) ?_;have eu:=qf.od [1] 1;exact⟨_,_,rfl,(eu).cast (by rw[Qt nY hbf oM oM])⟩;have cw:(i:Int)<(n2:Int):=of_decide_eq_true Z9.symm;refine fm<|bP<|ba<|cr 1<|ba ?_;obtain⟨b,hb⟩:∃b,todo[i]?=some b:=⟨_,List.getElem?_eq_getElem oM⟩;obtain⟨g3,rfl⟩:=df (qf.get 2 rfl) oM;have htl:=pY bs b;refine da [1,2,5,6,7,29] ?_;intro aC fr;refine ED (bo [.aU (.agg #[nm,wk,pa,va,vS A bs.length c]),eS (sM g3) n2 c2,.aU (nV i),eA (aZ g3) (i:Int) 1,eI b,Spec.free,Spec.free]) (fun ls vs w_=>match ls 6 with|true=>(∃(U4:ar) (Mh:Nat),vs 6=(vS U4 ((tg bs b).length) Mh)∧Mem bq w w_ [.aB b1 30 [nm,wk,pa,va,vS A bs.length c],.row 4 1 (sM b4) bs.length bs.length (bS inl),.row 3 1 (sM g3) n2 c2 (ints todo),.row 3 1 U4 ((tg bs b).length) Mh (ints (tg bs b))])|false=>(match ls 5 with|true=>(∃(U4:ar) (Mh:Nat),vs 5=(vS U4 ((tg bs b).length) Mh)∧Mem bq w w_ [.aB b1 30 [nm,wk,pa,va,vS A bs.length c],.row 4 1 (sM b4) bs.length bs.length (bS inl),.row 3 1 (sM g3) n2 c2 (ints todo),.row 3 1 U4 ((tg bs b).length) Mh (ints (tg bs b))])|false=>(Mem bq w w_ [.aB b1 30 [nm,wk,pa,va,vS A bs.length c],.row 4 1 (sM b4) bs.length bs.length (bS inl),.row 3 1 (sM g3) n2 c2 (ints todo)]))) fr (eL (.aU (.aU (.aU (.aU (.aU (.free (.free .nil)))))))) (qf.aw (Mem.drew _)) (rM (sv lz ?_ bM bM (yd (aZ g3) n2 1 (i:Int) fun _ _ _ _ h=>h) (mP (aN (aZ g3) (i:Int) 1) (vI b) (fun _ _ _ _ h=>h) ?_)) ?_ ?_) ?_;intro ep w_ ls vs cL hJ bI bH hp hF;refine jv (g0:=none) ?_;replace hF:Fr ep 74 [(2,pT b1 0)]:=hF.kp [2];have f5:=aR 5 7 bH bI;have f6:=aR 6 7 bH bI;have aO:=hJ;simp only[f5,f6]at aO;refine fQ (kR:ax _ 0=some (some 32,.load 30 (.tmp 2),30,none)) hF kR kR (k':=1) rfl (ad:=aZ b1) (vs:=[nm,wk,pa,va,vS A bs.length c]) kR kR (aW (aO.get 0 rfl)) ?_;intro a2 ea _;refine aL kR ?_;exact bu (d:=some 32) kR ea rfl hJ;intro w_ ls vs hJ bI bH hp;have f5:=aR 5 7 bH bI;have f6:=aR 6 7 bH bI;have aO:=hJ;simp only[f5,f6]at aO;exact(fx (aD (aO.get 2 rfl)) rfl hb);intro ep w_ ls vs cL hJ bI bH hp hF;refine jv (g0:=none) ?_;replace hF:Fr ep 74 [(32,(.agg #[nm,wk,pa,va,vS A bs.length c])),(36,vI b)]:=hF.kp [32,36];have f5:ls 5=false:=bI;have f6:=aR 6 7 bH bI;have aO:=hJ;simp only[f5,f6]at aO;refine gK (kR:ax _ 0=some (some 37,(.call {callee:=(.value (.func 60)),args:=#[.tmp 32,.tmp 36],argTypes:=#[30,3]}),43,none)) hF kR kR (k':=1) rfl (f:=60) (vs:=[(.agg #[nm,wk,pa,va,vS A bs.length c]),vI b]) (cap:=[]) kR kR kR (yl _ _ _ _ A c bs b w_ hm (hA.at_ aO)) ?_;rintro _ w2 ⟨Wo,Wp,rfl,dH⟩ a2 ea _;have Me:=aO.call dH;refine aL kR ?_;refine bu (d:=some 37) kR ea trivial ?_;show match ls 6 with|true=>_|false=>(∃(U4:ar) (Mh:Nat),_)
 rw[f6];exact⟨Wo,Wp,rfl,Me⟩;intro ep w_ ls vs cL hJ bI bH hp hF;refine jv (g0:=none) ?_;replace hF:Fr ep 74 [(37,vs 5)]:=hF.kp [37];have f5:=cN 5 7 bH hp;have f6:ls 6=false:=bI;have aO:=hJ;simp only[f5,f6]at aO;obtain⟨Wo,Wp,e_,dH⟩:=aO;rw[e_]at hF;refine fg (kR:ax _ 0=some (some 8,.assign (.tmp 37),43,none)) hF kR kR (k':=1) rfl (v:=(vS Wo ((tg bs b).length) Wp)) kR ?_;intro a2 ea _;refine aL kR ?_;refine bu (d:=some 8) kR ea trivial ?_;show∃(U4:ar) (Mh:Nat),_;exact⟨Wo,Wp,rfl,dH⟩;intro aC w33 ls vs cV xo hv fr;simp only[show ls 6=true from cV 6 dQ]at xo;revert aC;refine bX [(1,vI bar),(2,pT b1 0),(5,vS (sM b4) bs.length bs.length),(6,vS (sM g3) n2 c2),(7,nV i),(8,vs 6)] ?_;obtain⟨U4,Mh,e_,xo⟩:=xo;rw[e_];clear e_;clear cV hv fr aC qf;clear vs ls;refine aX<|cr 2 ?_;intro aC fr;refine fk (fun n_ a_ w_=>∃(k:Nat) (S2:Int→Bool) (wE:List Bool) (o3:af) (A4:ar) (n4:Nat) (c4:Nat),n_=(tg bs b).length-k∧Fr a_ 74 [(1,vI bar),(2,pT b1 0),(5,vS (sM b4) bs.length bs.length),(6,vS A4 n4 c4),(7,nV i),(8,vS U4 ((tg bs b).length) Mh),(9,nV k)]∧Mem bq w w_ [.aB b1 30 [nm,wk,pa,va,vS A bs.length c],.row 4 1 (sM b4) bs.length bs.length (bS wE),.row 3 1 A4 n4 c4 (ints o3),.row 3 1 U4 ((tg bs b).length) Mh (ints (tg bs b))]∧(k≤(tg bs b).length)∧(en bs.length wE S2)∧(Fx (tg bs) bar S2 o3 i k)∧(o3[i]?=some b)∧(o3.length+jG bs.length S2≤bs.length)∧(n4=o3.length)) (n:=_) ⟨0,S,inl,todo,(sM g3),n2,c2,rfl,fr.kp [1,2,5,6,7,8,9],xo,oM,nY,hbf,hb,yr,KD⟩ ?_;clear fr aC xo;rintro n aC w37 ⟨k,S2,wE,o3,A4,n4,c4,rfl,fr,vw,hk,Aq,Wq,uV,Fv,hn4⟩;revert aC;refine ba<|aI<|ah 3<|jP (decide ((k:Int)<((tg bs b).length:Int))) fun Bk Qu=> ?_
 refine ay ?_;cases Bk;have ck:¬((k:Int)<((tg bs b).length:Int)):=of_decide_eq_false Qu.symm;refine fT<|eW 2<|eX<|cG<|ah 1<|cZ ((i:Int)+1)<|ah 1<|ay ?_;intro aC fr;exact⟨bs.length-(i+1),by have:=(List.getElem?_eq_some_iff.1 uV).1;omega,i+1,S2,wE,o3,A4,n4,c4,rfl,fr.kp [1,2,5,6,7],(vw.pick [true,true,true,false] rfl),Aq,Wq.next uV oM,Fv,hn4,by have:=(List.getElem?_eq_some_iff.1 uV).1;omega⟩;have ck:(k:Int)<((tg bs b).length:Int):=of_decide_eq_true Qu.symm;refine fm<|bP<|ba<|cr 3<|aI ?_;obtain⟨ti,Io,Mf⟩:=Qp (bs:=bs) (b:=b) (k:=k) oM;refine ah 3 ?_;obtain⟨U5,rfl⟩:=df (vw.get 3 rfl) oM;refine ej (aZ U5) ((tg bs b).length) 1 (k:Int)<|bt (aN (aZ U5) (k:Int) 1) _ (fx (aD (vw.get 3 rfl)) rfl Io)<|ej (aZ b4) bs.length 1 (ti:Int)<|bt (aN (aZ b4) (ti:Int) 1) _ (bJ (aD (vw.get 1 rfl)) rfl (j0 (by rw[Aq.1];exact Mf))) ?_;obtain⟨Bin,QbK⟩:∃B,B=wE.getD ti false:=⟨_,rfl⟩;refine bX [(1,vI bar),(2,pT b1 0),(5,vS (sM b4) bs.length bs.length),(6,vS A4 n4 c4),(7,nV i),(8,vS (sM U5) ((tg bs b).length) Mh),(9,nV k),(50,vB (wE.getD ti false))] ?_;rw[←QbK];refine ah 2 ?_;cases Bin;have cin:(wE.getD ti false)=false:=QbK.symm;have Wm:S2 (ti:Int)=false:=by rw[←Aq.2 ti Mf];exact cin
 refine ah 2<|ej (aZ U5) ((tg bs b).length) 1 (k:Int)<|bt (aN (aZ U5) (k:Int) 1) _ (fx (aD (vw.get 3 rfl)) rfl Io)<|ah 1<|jP ((ti:Int) !=bar) fun QhY Qaa=> ?_
 refine ah 1<|ay ?_;cases QhY;have QhZ:¬((ti:Int)≠bar):=znn Qaa;refine fT<|bP<|cG<|ah 1<|cZ ((k:Int)+1)<|ah 1<|ay ?_;intro aC fr;exact⟨(tg bs b).length-(k+1),oM,k+1,S2,wE,o3,A4,n4,c4,rfl,fr.kp [1,2,5,6,7,8,9],vw,oM,Aq,Wq.skip uV Io (.inr oM),uV,Fv,hn4⟩;have QhZ:(ti:Int)≠bar:=bne_iff_ne.1 Qaa.symm;refine fm<|aI<|ah 3<|ej (aZ U5) ((tg bs b).length) 1 (k:Int)<|bt (aN (aZ U5) (k:Int) 1) _ (fx (aD (vw.get 3 rfl)) rfl Io)<|ej (aZ b4) bs.length 1 (ti:Int)<|yc vw 1 (aN (aZ b4) (ti:Int) 1) (((ti:Int)).toNat*1) (vB true) rfl rfl oM fun w47 yt=> ?_
 replace yt:=yt.nf;refine ay<|cG ?_;have s6:=bd [.aB b1 30 [nm,wk,pa,va,vS A bs.length c],.row 4 1 (sM b4) bs.length bs.length (bS (wE.set ti true)),.row 3 1 A4 n4 c4 (ints o3),.row 3 1 (sM U5) ((tg bs b).length) Mh (ints (tg bs b))] (yt.cast (by rw[qT];simp only[Int.toNat_natCast,Nat.mul_one]));refine ah 3<|ej (aZ U5) ((tg bs b).length) 1 (k:Int)<|da [1,2,5,7,8,9,66,69]<|bt (aN (aZ U5) (k:Int) 1) _ (fx (aD (s6.get 3 rfl)) rfl Io) ?_;intro aC fr;refine nX 71 43 1 #[(0,.tmp 70)] 43 fr (e:=3) (size:=1) (zs:=[vI 0]) (vs:=[(0,nV ti)]) (cs:=[nV ti]) s6 ?_;intro b50 w51 hb50 _ Av _ aC ea fr;clear ea;replace Av:=Av.nf;refine wz 72 (.tmp 66) (.tmp 71) 43 43 fr (e:=3) (size:=1) (bytes:=8) (z:=(vI 0)) (A:=A4) (B:=(sM b50)) (n:=n4) (cap:=c4) (m:=1) (cap':=1) (xs:=(ints o3)) (news:=[nV ti]) Av 2 rfl (aD (Av.get 4 rfl)) rfl (by simp[Value.oneCell']) oM (by simp only[maxLen];omega) ?_;intro A57 Qv w59 uW _ aC ea fr;clear ea;replace uW:=uW.nf;have s7:=uW.od [3,3,3,3] 4;revert aC;refine ah 1<|ay<|cG<|ah 1<|cZ ((k:Int)+1)<|ah 1<|ay ?_;intro aC fr;exact⟨(tg bs b).length-(k+1),oM,k+1,fI S2 (ti:Int),wE.set ti true,o3++[(ti:Int)],A57,(n4+1),Qv,rfl,fr.kp [1,2,5,6,7,8,9],(s7.cast (by rw[fG];rfl)),oM,Aq.put Mf,Wq.push uV Io oM,by rw[List.getElem?_append_left (List.getElem?_eq_some_iff.1 uV).1];exact uV,by have:=gg (n:=bs.length) (S:=S2) (t:=(ti:Int)) oM oM Wm;simp only[List.length_append,List.length_cons,List.length_nil];omega,by simp[hn4]⟩;have cin:(wE.getD ti false)=true:=QbK.symm;have Wm:S2 (ti:Int)=true:=by rw[←Aq.2 ti Mf];exact cin
 refine ah 7<|ay<|fT<|bP<|cG<|ah 1<|cZ ((k:Int)+1)<|ah 1<|ay ?_;intro aC fr;exact⟨(tg bs b).length-(k+1),oM,k+1,S2,wE,o3,A4,n4,c4,rfl,fr.kp [1,2,5,6,7,8,9],vw,oM,Aq,Wq.skip uV Io (.inl Wm),uV,Fv,hn4⟩;have cb:bar=0:=beq_iff_eq.1 hBb.symm;refine fm<|aX<|bL<|cv (vS (sM b4) bs.length bs.length) ?_;have Mi:=M6.od [1] 1;exact⟨_,_,rfl,(Mi).cast (by rw[←BG (bar:=bar) oM];simp[bS])⟩;have cz:(bs.length:Int)=0:=beq_iff_eq.1 hBz.symm;refine ah 3<|ay<|fm<|aX<|bL<|cv (vS (sM b4) bs.length bs.length) ?_;have zV:=M6.od [1] 1;exact⟨_,_,rfl,(zV).cast (by rw[←BG (bar:=bar) oM];simp[bS])⟩
end Go.Proofs.YtejbeeaomokjpaaGreat
namespace Go.Mor
open Go.RowKit
def eM{α:Type}(enc:α→Value)(rows:List gb)(l:List (List α)):Prop:=rows.map (fun r=>(r.n,r.xs))=l.map (fun x=>(x.length,x.map enc))
section
variable {α : Type} {enc : α → Value} {rows : List gb} {l : List (List α)}
theorem eM.len(h:eM enc rows l):rows.length=l.length:=by
 have:=congrArg List.length h;simpa using this
theorem eM.get(h:eM enc rows l){i:Nat}{x:List α}(hi:l[i]?=some x):∃A c,rows[i]?=some ⟨A,x.length,c,x.map enc⟩:=by
 have h1:(rows.map (fun r=>(r.n,r.xs)))[i]?=(l.map (fun x=>(x.length,x.map enc)))[i]?:=by rw[h]
 simp only[List.getElem?_map,hi,Option.map_some]at h1;cases h2:rows[i]? with
 |none=>rw[h2]at h1;simp at h1
 |some r=>
  rw[h2]at h1;simp only[Option.map_some,Option.some.injEq,Prod.mk.injEq]at h1;obtain⟨A,n,c,xs⟩:=r;simp only at h1;obtain⟨rfl,rfl⟩:=h1;exact⟨A,c,rfl⟩
theorem eM.push(h:eM enc rows l){A:ar}{n c:Nat}{xs:aP}{x:List α}(hn:n=x.length)(hx:xs=x.map enc):eM enc (rows++[⟨A,n,c,xs⟩]) (l++[x]):=by
 subst hn;subst hx;unfold eM at h⊢;rw[List.map_append,List.map_append,h];rfl
theorem eM.next{d:Nat}(h:eM enc rows (l.take d)){A:ar}{n c:Nat}{xs:aP}{x:List α}(hd:l[d]?=some x)(hn:n=x.length)(hx:xs=x.map enc):eM enc (rows++[⟨A,n,c,xs⟩]) (l.take (d+1)):=by
 obtain⟨eV,he⟩:=List.getElem?_eq_some_iff.1 hd;rw[List.take_succ_eq_append_getElem eV,he];exact h.push hn hx
theorem eM.set(h:eM enc rows l){A:ar}{n c i:Nat}{xs:aP}{x:List α}(hn:n=x.length)(hx:xs=x.map enc):eM enc (rows.set i ⟨A,n,c,xs⟩) (l.set i x):=by
 subst hn;subst hx;unfold eM at h⊢;rw[List.map_set,List.map_set,h]
theorem eM.all{d:Nat}(h:eM enc rows (l.take d))(hd:l.length≤d):eM enc rows l:=by rwa [List.take_of_length_le hd]at h
theorem eM.QeW(n:Nat):eM enc (List.replicate n jT) (List.replicate n ([]:List α)):=by
 unfold eM;simp[jT]
end
theorem oD{w:World}{e:Nat}{rows:List gb}{A:ar}{n c i:Nat}{xs:aP}(h:(bx.gU e rows).holds w)(hi:rows[i]?=some ⟨A,n,c,xs⟩):(bx.rd A xs).holds w:=aD (VF h hi)
theorem Wr{α:Type}{l:List α}{i:Nat}{x d:α}(h:l[i]?=some x):l.getD i d=x:=by simp[List.getD,h]
def mw(bs:List SB)(d b:Int):Bool:=fJ bs (-1) d&&(fJ bs (-1) b&& !(fJ bs d b))
def gu(bs:List SB):List (List Bool):=(List.range bs.length).map (fun d:Nat=>(List.range bs.length).map (fun b:Nat=>mw bs (d:Int) (b:Int)))
theorem j4(bs:List SB):(gu bs).length=bs.length:=by simp[gu]
theorem BH{bs:List SB}{d:Nat}{m:List Bool}(hd:d<bs.length)(h:en bs.length m (mw bs (d:Int))):(gu bs)[d]?=some m:=by
 have:m=(List.range bs.length).map (fun b:Nat=>mw bs (d:Int) (b:Int)):=uU h sI (fun j hj=>by simp[List.getD,hj]);rw[this];simp[gu,hd]
theorem en.congr{n:Nat}{l:List Bool}{S S':Int→Bool}(h:en n l S)(e:∀i:Nat,i<n→S (i:Int)=S' (i:Int)):en n l S':=⟨h.1,fun i hi=>(h.2 i hi).trans (e i hi)⟩
theorem Mj{bs:List SB}{d:Nat}(h:fJ bs (-1) (d:Int)=false):en bs.length (List.replicate bs.length false) (mw bs (d:Int)):=(en.start bs.length).congr (fun i _=>by simp[mw,h])
def mT(bs:List SB)(d:Int)(k:Nat)(b:Int):Bool:=decide (b<(k:Int))&&mw bs d b
theorem Ir(bs:List SB)(d:Int):en bs.length (List.replicate bs.length false) (mT bs d 0):=(en.start bs.length).congr (fun i _=>by
  have:decide ((i:Int)<((0:Nat):Int))=false:=sI;rw[mT,this];rfl)
theorem BI{bs:List SB}{d:Int}{k:Nat}{m:List Bool}{v:Bool}(h:en bs.length m (mT bs d k))(hk:k<bs.length)(hv:v=mw bs d (k:Int)):en bs.length (m.set k v) (mT bs d (k+1)):=by
 refine⟨by simp[h.1],fun j hj=> ?_⟩;by_cases e:k=j
 ·subst e;have:k<m.length:=by rw[h.1];exact hk
  have h2:decide ((k:Int)<((k+1:Nat):Int))=true:=by simp;omega
  simp only[mT,h2,E6];simp[List.getD,this,hv]
 ·have h1:=h.2 j hj;have h2:decide ((j:Int)<((k+1:Nat):Int))=decide ((j:Int)<(k:Int)):=by rw[Ds];omega
  rw[mT,h2];rw[mT]at h1;rw[←h1];simp[List.getD,List.getElem?_set_ne e]
theorem Mk{bs:List SB}{d:Int}{k:Nat}{m:List Bool}(h:en bs.length m (mT bs d k))(hk:bs.length≤k):en bs.length m (mw bs d):=h.congr (fun i hi=>by
  have:decide ((i:Int)<(k:Int))=true:=by simp;omega
  rw[mT,this];rfl)
theorem Qw{bs:List SB}{d:Nat}{b:Nat}(hd:fJ bs (-1) (d:Int)=true)(hb:fJ bs (-1) (b:Int)=true):(!(fJ bs (d:Int) (b:Int)))=mw bs (d:Int) (b:Int):=by simp[mw,hd,hb]
theorem Qx{bs:List SB}{d b:Int}(hb:fJ bs (-1) b=false):false=mw bs d b:=by simp[mw,hb]
def HE(l:List (List Bool))(i j:Nat):Bool:=(l.getD i []).getD j false
def jH(l:List (List Bool))(b:Nat):Nat→Int
 |0=> -1
 |k+1=>if k≠b∧HE l k b=true∧(jH l b k<0∨HE l (jH l b k).toNat k=true)then(k:Int)else jH l b k
def qi(l:List (List Bool)):af:=(List.range l.length).map (fun b=>jH l b l.length)
def QbL(l:List (List Bool)):Prop:=∀(i:Nat) (x:List Bool),l[i]?=some x→x.length=l.length
theorem Dt(bs:List SB):QbL (gu bs):=by
 intro i x h;rw[j4];have:=List.mem_of_getElem? h;simp only[gu,List.mem_map]at this;obtain⟨d,_,rfl⟩:=this;simp
theorem QbM{l:List (List Bool)}(i:Nat)(hi:i<l.length):∃x,l[i]?=some x:=⟨_,List.getElem?_eq_getElem hi⟩
theorem QbN{l:List (List Bool)}{i j:Nat}{x:List Bool}(h:l[i]?=some x):HE l i j=x.getD j false:=by simp[HE,List.getD,h]
def fo(bs:List SB):af:=qi (gu bs)
theorem Fy{bs:List SB}{y x:Int}(h:x∈bG bs y):0≤x∧x<bs.length:=by
 simp only[bG,ef,List.mem_map,List.mem_filter,List.mem_range]at h;obtain⟨i,⟨h1,_⟩,rfl⟩:=h;omega
end Go.Mor
namespace Go.Proofs.YtejbeeaomokjpaaGreat
open Go.Mor
theorem QbO(nm wk pa va:Value)(A:ar)(c:Nat)(bs:List SB)(w:World)(hm:bs.length≤1000000)(hA:RO bq w (.blocks A bs)):Calls Tryz.prog 37 #[(.agg #[nm,wk,pa,va,vS A bs.length c])] w (ez fun v w'=>∃A' c' rows,v=vS A' bs.length c'∧eM Value.bool rows (gu bs)∧Mem bq w w' [.gU 4 rows,.row 56 1 A' bs.length c' (gq rows)]):=by
 refine fv 54 [(.agg #[nm,wk,pa,va,vS A bs.length c])] Tryz.func37 ?_;have hM:=Mem.init w;refine aI<|ou hM 30 (.agg #[nm,wk,pa,va,vS A bs.length c]) [nm,wk,pa,va,vS A bs.length c] fun b1 w2 jU M3=> ?_
 replace M3:=M3.nf;clear hM;refine ah 1<|ay<|aI<|ga (aZ b1) [nm,wk,pa,va,vS A bs.length c] (aW (M3.get 0 rfl))<|di (vs:=#[(.agg #[nm,wk,pa,va,vS A bs.length c]),vI (-1)]) (Iq _ _ _ _ A c bs (-1) w2 hm (hA.at_ M3)) ?_;rintro _ w6 ⟨A4,c5,rfl,M7x⟩;have M7:=M3.cl M7x;refine ah 1<|ay<|aX<|ba<|aX<|cr 0 ?_;have hlo:=j4 bs;intro aC fr;refine fk (fun n_ a_ w_=>∃(d:Nat) (rows:List gb) (A2:ar) (c2:Nat),n_=bs.length-d∧Fr a_ 54 [(1,pT b1 0),(3,vS A4 bs.length c5),(4,vS A2 d c2),(5,nV d)]∧Mem bq w w_ [.gU 4 rows,.aB b1 30 [nm,wk,pa,va,vS A bs.length c],.row 4 1 A4 bs.length c5 (bS (gh bs (-1))),.row 56 1 A2 d c2 (gq rows)]∧(d≤bs.length)∧(eM Value.bool rows ((gu bs).take d))) (n:=_) ⟨0,[],none,0,rfl,fr.kp [1,3,4,5],(((((M7.pick [true,true] rfl).call (Mem.H6 _ 4 0)).call (Mem.dY _ 56 1)).front 2 rfl).cast rfl),oM,rfl⟩ ?_;clear fr aC M7;rintro n aC w10 ⟨d,rows,A2,c2,rfl,fr,n5,hd,hf⟩;revert aC;refine ba<|aI<|ah 2<|bt (ao b1 4) _ (ae (n5.get 1 rfl) rfl)<|ah 1<|jP (decide ((d:Int)<(bs.length:Int))) fun Bd hBd=> ?_
 refine ay ?_;cases Bd;have cd:¬((d:Int)<(bs.length:Int)):=of_decide_eq_false hBd.symm;refine fT<|eW 0<|eX<|aX<|bL<|cv (vS A2 d c2) ?_;obtain rfl:d=bs.length:=oM;have lH:=n5.od [3,1] 2;exact⟨_,_,rows,rfl,hf.all oM,lH⟩;have cd:(d:Int)<(bs.length:Int):=of_decide_eq_true hBd.symm;refine fm<|bP<|ba<|cr 1<|aI ?_;have rn:d<bs.length:=oM;refine ah 1<|bt (ao b1 4) _ (ae (n5.get 1 rfl) rfl)<|ah 1 ?_;intro aC fr;refine P6 21 56 (.tmp 20) (.tmp 20) 56 fr (e:=4) (bytes:=1) (z:=(vB false)) (n:=bs.length) (i:=(bs.length:Int)) oM (by simp only[maxLen];omega) n5 ?_;intro jx OT QeS _ kK _ aC ea fr;clear ea;replace kK:=kK.nf;revert aC;refine ah 1<|ay<|ba<|aI ?_;have lJ:=bd [.gU 4 rows,.aB b1 30 [nm,wk,pa,va,vS A bs.length c],.row 4 1 A4 bs.length c5 (bS (gh bs (-1))),.row 56 1 A2 d c2 (gq rows),.row 4 1 (sM jx) bs.length bs.length (bS (List.replicate bs.length false))] (kK.cast (by simp[bS]));refine ah 2 ?_;obtain⟨g24,rfl⟩:=df (lJ.get 2 rfl) oM;refine ej (aZ g24) bs.length 1 (d:Int)<|bt (aN (aZ g24) (d:Int) 1) _ (bJ (aD (lJ.get 2 rfl)) rfl (j0 (by rw[lj];omega))) ?_;obtain⟨Qh0,Qy⟩:∃B,B=(gh bs (-1)).getD d false:=⟨_,rfl⟩;refine bX [(1,pT b1 0),(3,vS (sM g24) bs.length c5),(4,vS A2 d c2),(5,nV d),(6,vS (sM jx) bs.length bs.length),(25,vB ((gh bs (-1)).getD d false))] ?_;rw[←Qy];refine ay ?_;cases Qh0;have call:((gh bs (-1)).getD d false)=false:=Qy.symm;refine fT<|bP<|cG<|ah 2 ?_;intro aC fr;refine nX 51 59 1 #[(0,.tmp 50)] 59 fr (e:=56) (size:=1) (zs:=[an]) (vs:=[(0,vS (sM jx) bs.length bs.length)]) (cs:=[vS (sM jx) bs.length bs.length]) lJ ?_;intro zW w26 Qh1 _ zX _ aC ea fr;clear ea;replace zX:=zX.nf;refine wz 52 (.tmp 49) (.tmp 51) 59 59 fr (e:=56) (size:=1) (bytes:=24) (z:=an) (A:=A2) (B:=(sM zW)) (n:=d) (cap:=c2) (m:=1) (cap':=1) (xs:=(gq rows)) (news:=[vS (sM jx) bs.length bs.length]) zX 3 rfl (aD (zX.get 5 rfl)) rfl (by simp[Value.oneCell']) oM (by simp only[maxLen];omega) ?_;intro A32 U6 w34 ma _ aC ea fr;clear ea;replace ma:=ma.nf;have vw:=ma.od [4,4,4,4,4] 5;revert aC;refine ah 1<|ay<|cG<|ah 1<|cZ ((d:Int)+1)<|ah 1<|ay ?_;have M39:=vw.od [3,3,3,4,4] 5;have uz:=bd [.gU 4 (rows++[⟨(sM jx),bs.length,bs.length,bS (List.replicate bs.length false)⟩]),.aB b1 30 [nm,wk,pa,va,vS A bs.length c],.row 4 1 (sM g24) bs.length c5 (bS (gh bs (-1))),.row 56 1 A32 (d+1) U6 ((gq rows)++[vS (sM jx) bs.length bs.length])] (M39.push);have rr:=bd [.gU 4 (rows++[⟨(sM jx),bs.length,bs.length,bS (List.replicate bs.length false)⟩]),.aB b1 30 [nm,wk,pa,va,vS A bs.length c],.row 4 1 (sM g24) bs.length c5 (bS (gh bs (-1))),.row 56 1 A32 (d+1) U6 (gq (rows++[⟨(sM jx),bs.length,bs.length,bS (List.replicate bs.length false)⟩]))] (uz.cast (by rw[xZ]));intro aC fr;exact⟨bs.length-(d+1),oM,d+1,(rows++[⟨(sM jx),bs.length,bs.length,bS (List.replicate bs.length false)⟩]),A32,U6,rfl,fr.kp [1,3,4,5],rr,oM,hf.next (BH rn (Mj (by rw[←jh rn];exact call))) sI rfl⟩;have call:((gh bs (-1)).getD d false)=true:=Qy.symm;refine fm<|aI<|ga (aZ b1) [nm,wk,pa,va,vS A bs.length c] (aW (lJ.get 1 rfl))<|ah 1<|di (vs:=#[(.agg #[nm,wk,pa,va,vS A bs.length c]),nV d]) (Iq _ _ _ _ A c bs (d:Int) OT hm (hA.at_ lJ)) ?_;rintro _ w46 ⟨vK,Qz,rfl,QbP⟩;have EG:=lJ.cl QbP;refine ah 1<|ay<|aX<|cr 2 ?_;have hwd:fJ bs (-1) (d:Int)=true:=by rw[←jh rn];exact call
 intro aC fr;refine fk (fun n_ a_ w_=>∃(b:Nat) (m:List Bool),n_=bs.length-b∧Fr a_ 54 [(1,pT b1 0),(3,vS (sM g24) bs.length c5),(4,vS A2 d c2),(5,nV d),(6,vS (sM jx) bs.length bs.length),(7,vS vK bs.length Qz),(8,nV b)]∧Mem bq w w_ [.gU 4 rows,.aB b1 30 [nm,wk,pa,va,vS A bs.length c],.row 4 1 (sM g24) bs.length c5 (bS (gh bs (-1))),.row 56 1 A2 d c2 (gq rows),.row 4 1 (sM jx) bs.length bs.length (bS m),.row 4 1 vK bs.length Qz (bS (gh bs (d:Int)))]∧(b≤bs.length)∧(en bs.length m (mT bs (d:Int) b))) (n:=_) ⟨0,List.replicate bs.length false,rfl,fr.kp [1,3,4,5,6,7,8],EG,oM,Ir bs _⟩ ?_;clear fr aC EG;rintro n aC w50 ⟨b,m,rfl,fr,tH,hb,dH⟩;revert aC;refine ba<|aI<|ah 3<|jP (decide ((b:Int)<(bs.length:Int))) fun Bb hBb=> ?_
 refine ay ?_;cases Bb;have cb:¬((b:Int)<(bs.length:Int)):=of_decide_eq_false hBb.symm;refine fT<|eW 2<|eX<|cG<|ah 2 ?_;intro aC fr;refine nX 51 59 1 #[(0,.tmp 50)] 59 fr (e:=56) (size:=1) (zs:=[an]) (vs:=[(0,vS (sM jx) bs.length bs.length)]) (cs:=[vS (sM jx) bs.length bs.length]) tH ?_;intro me w55 QeX _ BJ _ aC ea fr;clear ea;replace BJ:=BJ.nf;refine wz 52 (.tmp 49) (.tmp 51) 59 59 fr (e:=56) (size:=1) (bytes:=24) (z:=an) (A:=A2) (B:=(sM me)) (n:=d) (cap:=c2) (m:=1) (cap':=1) (xs:=(gq rows)) (news:=[vS (sM jx) bs.length bs.length]) BJ 3 rfl (aD (BJ.get 6 rfl)) rfl (by simp[Value.oneCell']) oM (by simp only[maxLen];omega) ?_;intro A61 c62 w63 BK _ aC ea fr;clear ea;replace BK:=BK.nf;have qR:=BK.od [5,5,5,5,5,5] 6;revert aC;refine ah 1<|ay<|cG<|ah 1<|cZ ((d:Int)+1)<|ah 1<|ay ?_;have Mi:=qR.od [3,3,3,4,4] 5;have zV:=bd [.gU 4 (rows++[⟨(sM jx),bs.length,bs.length,bS m⟩]),.aB b1 30 [nm,wk,pa,va,vS A bs.length c],.row 4 1 (sM g24) bs.length c5 (bS (gh bs (-1))),.row 56 1 A61 (d+1) c62 ((gq rows)++[vS (sM jx) bs.length bs.length])] (Mi.push);have V7:=bd [.gU 4 (rows++[⟨(sM jx),bs.length,bs.length,bS m⟩]),.aB b1 30 [nm,wk,pa,va,vS A bs.length c],.row 4 1 (sM g24) bs.length c5 (bS (gh bs (-1))),.row 56 1 A61 (d+1) c62 (gq (rows++[⟨(sM jx),bs.length,bs.length,bS m⟩]))] (zV.cast (by rw[xZ]));intro aC fr;exact⟨bs.length-(d+1),oM,d+1,(rows++[⟨(sM jx),bs.length,bs.length,bS m⟩]),A61,c62,rfl,fr.kp [1,3,4,5],V7,oM,hf.next (BH rn (Mk dH oM)) (by simp[dH.1]) rfl⟩;have cb:(b:Int)<(bs.length:Int):=of_decide_eq_true hBb.symm;refine fm<|bP<|ba<|cr 3<|cG ?_;have Ml:b<bs.length:=oM;refine ah 4<|ej (aZ g24) bs.length 1 (b:Int)<|bt (aN (aZ g24) (b:Int) 1) _ (bJ (aD (tH.get 2 rfl)) rfl (j0 (by rw[lj];omega))) ?_;obtain⟨Bab,Dj⟩:∃B,B=(gh bs (-1)).getD b false:=⟨_,rfl⟩;refine bX [(1,pT b1 0),(3,vS (sM g24) bs.length c5),(4,vS A2 d c2),(5,nV d),(6,vS (sM jx) bs.length bs.length),(7,vS vK bs.length Qz),(8,nV b),(35,vS (sM jx) bs.length bs.length),(36,nV b),(40,vB ((gh bs (-1)).getD b false))] ?_;rw[←Dj];refine ah 1 ?_;cases Bab;have cab:((gh bs (-1)).getD b false)=false:=Dj.symm;have hwb:fJ bs (-1) (b:Int)=false:=by rw[←jh Ml];exact cab
 refine ah 6<|ej (aZ jx) bs.length 1 (b:Int)<|yc tH 4 (aN (aZ jx) (b:Int) 1) (((b:Int)).toNat*1) (vB false) rfl rfl oM fun w73 KH=> ?_
 replace KH:=KH.nf;refine ay<|cG<|ah 1<|cZ ((b:Int)+1)<|ah 1<|ay ?_;intro aC fr;exact⟨bs.length-(b+1),oM,b+1,m.set b false,rfl,fr.kp [1,3,4,5,6,7,8],(KH.cast (by rw[qT];simp only[Int.toNat_natCast,Nat.mul_one])),oM,BI dH Ml (Qx hwb)⟩;have cab:((gh bs (-1)).getD b false)=true:=Dj.symm;have hwb:fJ bs (-1) (b:Int)=true:=by rw[←jh Ml];exact cab
 refine ah 2 ?_;obtain⟨g78,rfl⟩:=df (tH.get 5 rfl) oM;refine ej (aZ g78) bs.length 1 (b:Int)<|bt (aN (aZ g78) (b:Int) 1) _ (bJ (aD (tH.get 5 rfl)) rfl (j0 (by rw[lj];omega)))<|ah 2<|ej (aZ jx) bs.length 1 (b:Int)<|yc tH 4 (aN (aZ jx) (b:Int) 1) (((b:Int)).toNat*1) (vB (!(gh bs (d:Int)).getD b false)) rfl rfl oM fun w79 M80=> ?_
 replace M80:=M80.nf;refine ay<|cG<|ah 1<|cZ ((b:Int)+1)<|ah 1<|ay ?_;intro aC fr;exact⟨bs.length-(b+1),oM,b+1,m.set b (!((gh bs (d:Int)).getD b false)),rfl,fr.kp [1,3,4,5,6,7,8],(M80.cast (by rw[qT];simp only[Int.toNat_natCast,Nat.mul_one])),oM,BI dH Ml ((congrArg _ (jh Ml)).trans (Qw hwd hwb))⟩
end Go.Proofs.YtejbeeaomokjpaaGreat
namespace Go.Mor
open Go.RowKit
theorem Mm(n:Nat)(x:SB):(Ag n x).Nodup:=by
 unfold Ag;refine List.Pairwise.filter _ ?_;split
 ·simp
 ·split
  ·split
   ·simp
   ·rename_i h;simp[h]
  ·simp
theorem QA(bs:List SB)(b:Int):(tg bs b).Nodup:=by
 unfold tg;split
 ·split
  ·exact Mm _ _
  ·simp
 ·simp
def vx(bs:List SB)(i:Nat):List af:=(List.range bs.length).map (fun t:Nat=>ef bs (t:Int) i)
def tI(bs:List SB):List af:=(List.range bs.length).map (fun t:Nat=>bG bs (t:Int))
def kP(bs:List SB)(i k:Nat):List af:=(List.range bs.length).map (fun t:Nat=>ef bs (t:Int) i++(if((tg bs (i:Int)).take k).contains (t:Int)=true then[(i:Int)]else[]))
theorem Mn(bs:List SB):vx bs 0=List.replicate bs.length []:=by
 unfold vx;apply List.ext_getElem?;intro t;by_cases h:t<bs.length
 ·simp[h,ef]
 ·rw[List.getElem?_eq_none (by simpa using h),List.getElem?_eq_none (by simpa using h)]
theorem Ws(bs:List SB)(i:Nat):kP bs i 0=vx bs i:=by
 unfold kP vx;simp
theorem QB{bs:List SB}{i k:Nat}(hk:(tg bs (i:Int)).length≤k):kP bs i k=vx bs (i+1):=by
 unfold kP vx;apply List.map_congr_left;intro t _;rw[p5,List.take_of_length_le hk]
theorem Wt(bs:List SB):vx bs bs.length=tI bs:=rfl
theorem Wu{bs:List SB}{i k ti:Nat}(hk:(tg bs (i:Int))[k]?=some (ti:Int))(ht:ti<bs.length):(kP bs i k)[ti]?=some (ef bs (ti:Int) i):=by
 have hn:=QA bs (i:Int);have EE:¬(ti:Int)∈(tg bs (i:Int)).take k:=by intro h;obtain⟨eV,he⟩:=List.getElem?_eq_some_iff.1 hk;obtain⟨j,hj,Wv⟩:=List.mem_take_iff_getElem.1 h;exact List.pairwise_iff_getElem.1 hn j k oM eV oM (Wv.trans he.symm)
 unfold kP;rw[List.getElem?_map,List.getElem?_range ht];simp[EE]
theorem Ww{bs:List SB}{i k ti:Nat}(hk:(tg bs (i:Int))[k]?=some (ti:Int))(ht:ti<bs.length):(kP bs i k).set ti (ef bs (ti:Int) i++[(i:Int)])=kP bs i (k+1):=by
 obtain⟨eV,he⟩:=List.getElem?_eq_some_iff.1 hk;apply List.ext_getElem?;intro t;by_cases h:ti=t
 ·subst h;rw[List.getElem?_set_self (by simpa[kP]using ht)];unfold kP;rw[List.getElem?_map,List.getElem?_range ht,List.take_succ_eq_append_getElem eV,he];simp
 ·rw[List.getElem?_set_ne h];unfold kP;rw[List.getElem?_map,List.getElem?_map];by_cases h2:t<bs.length
  ·rw[List.getElem?_range h2,List.take_succ_eq_append_getElem eV,he];have h3:¬((t:Int)=(ti:Int)):=oM;simp[h3]
  ·rw[List.getElem?_eq_none (by simpa using h2)];rfl
theorem lK{bs:List SB}{t:Nat}(h:t<bs.length):(tI bs)[t]?=some (bG bs (t:Int)):=by simp[tI,h]
theorem yu(bs:List SB):(tI bs).length=bs.length:=by simp[tI]
theorem BL{rows:List gb}{i:Nat}{r:gb}:(rows.set i jT).set i r=rows.set i r:=List.set_set ..
end Go.Mor
namespace Go.Proofs.YtejbeeaomokjpaaGreat
open Go.Mor
theorem QC(nm wk pa va:Value)(A:ar)(c:Nat)(bs:List SB)(w:World)(hm:bs.length≤1000000)(hA:RO bq w (.blocks A bs)):Calls Tryz.prog 64 #[(.agg #[nm,wk,pa,va,vS A bs.length c])] w (ez fun v w'=>∃A' c' rows,v=vS A' bs.length c'∧eM vI rows (tI bs)∧Mem bq w w' [.gU 3 rows,.row 43 1 A' bs.length c' (gq rows)]):=by
 refine fv 38 [(.agg #[nm,wk,pa,va,vS A bs.length c])] Tryz.func64 ?_;have hM:=Mem.init w;refine aI<|ou hM 30 (.agg #[nm,wk,pa,va,vS A bs.length c]) [nm,wk,pa,va,vS A bs.length c] fun b1 w2 jU M3=> ?_
 replace M3:=M3.nf;clear hM;refine ah 1<|ay<|aI<|ah 1<|bt (ao b1 4) _ (ae (M3.get 0 rfl) rfl)<|ah 1 ?_;intro aC fr;refine P6 10 71 (.tmp 9) (.tmp 9) 71 fr (e:=43) (bytes:=24) (z:=an) (n:=bs.length) (i:=(bs.length:Int)) oM (by simp only[maxLen];omega) M3 ?_;intro b4 w5 U3 _ M6 _ aC ea fr;clear ea;replace M6:=M6.nf;revert aC;refine ah 1<|ay<|ba<|aI<|ah 1<|bt (ao b1 4) _ (ae (M6.get 0 rfl) rfl)<|ah 2<|ay<|cr 0 ?_;have n5:=M6.od [1,1] 2;have hal:=yu bs;intro aC fr;refine fk (fun n_ a_ w_=>∃(i:Nat) (rows:List gb),n_=bs.length-i∧Fr a_ 38 [(1,pT b1 0),(3,vS (sM b4) bs.length bs.length),(13,(vI (bs.length:Int))),(14,nV i)]∧Mem bq w w_ [.gU 3 rows,.aB b1 30 [nm,wk,pa,va,vS A bs.length c],.row 43 1 (sM b4) bs.length bs.length (gq rows)]∧(i≤bs.length)∧(eM vI rows (vx bs i))) (n:=_) ⟨0,List.replicate bs.length jT,rfl,fr.kp [1,3,13,14],(((n5.call (Mem.H6 _ 3 bs.length)).front 2 rfl).cast (by simp[gq,jT])),oM,by rw[Mn];exact eM.QeW _⟩ ?_;clear fr aC n5;rintro n aC w14 ⟨i,rows,rfl,fr,mS,hi,hf⟩;revert aC;refine aI<|jP (decide ((i:Int)<(bs.length:Int))) fun Bi hBi=> ?_
 refine ay<|ba ?_;cases Bi;have ci:¬((i:Int)<(bs.length:Int)):=of_decide_eq_false hBi.symm;refine fT<|eW 0<|eX<|aX<|bL<|cv (vS (sM b4) bs.length bs.length) ?_;obtain rfl:i=bs.length:=oM;rw[Wt]at hf;have nt:=mS.od [2,1] 2;exact⟨_,_,rows,rfl,hf,nt⟩;have ci:(i:Int)<(bs.length:Int):=of_decide_eq_true hBi.symm;refine fm<|bP<|ba<|cr 1<|aX<|aI<|ga (aZ b1) [nm,wk,pa,va,vS A bs.length c] (aW (mS.get 1 rfl))<|ah 1<|di (vs:=#[(.agg #[nm,wk,pa,va,vS A bs.length c]),nV i]) (BB _ _ _ _ A c bs (i:Int) w14 hm (hA.at_ mS)) ?_;rintro _ w21 ⟨A19,EH,rfl,Wx⟩;have lJ:=mS.cl Wx;refine ah 2<|ay<|cr 2 ?_;have htl:=pY bs (i:Int);intro aC fr;refine fk (fun n_ a_ w_=>∃(k:Nat) (nu:List gb),n_=(tg bs (i:Int)).length-k∧Fr a_ 38 [(1,pT b1 0),(3,vS (sM b4) bs.length bs.length),(4,nV i),(13,(vI (bs.length:Int))),(14,nV i),(19,(vS A19 ((tg bs (i:Int)).length) EH)),(20,(vI ((tg bs (i:Int)).length:Int))),(21,nV k)]∧Mem bq w w_ [.gU 3 nu,.aB b1 30 [nm,wk,pa,va,vS A bs.length c],.row 43 1 (sM b4) bs.length bs.length (gq nu),.row 3 1 A19 ((tg bs (i:Int)).length) EH (ints (tg bs (i:Int)))]∧(k≤(tg bs (i:Int)).length)∧(eM vI nu (kP bs i k))) (n:=_) ⟨0,rows,rfl,fr.kp [1,3,4,13,14,19,20,21],lJ,oM,by rw[Ws];exact hf⟩ ?_;clear fr aC lJ;rintro n aC w25 ⟨k,nu,rfl,fr,eu,hk,hf3⟩;revert aC;refine aI<|jP (decide ((k:Int)<((tg bs (i:Int)).length:Int))) fun Bk Qu=> ?_
 refine ay<|ba ?_;cases Bk;have ck:¬((k:Int)<((tg bs (i:Int)).length:Int)):=of_decide_eq_false Qu.symm;refine fT<|eW 2<|eX<|cG<|cZ ((i:Int)+1)<|ah 1<|ay ?_;intro aC fr;exact⟨bs.length-(i+1),oM,i+1,nu,rfl,fr.kp [1,3,13,14],(eu.pick [true,true,true,false] rfl),oM,by rw[←QB (k:=k) oM];exact hf3⟩;have ck:(k:Int)<((tg bs (i:Int)).length:Int):=of_decide_eq_true Qu.symm;refine fm<|bP<|ba<|cr 3<|aI ?_;obtain⟨ti,Io,Mf⟩:=Qp (bs:=bs) (b:=(i:Int)) (k:=k) oM;obtain⟨At,ct,hrt⟩:=hf3.get (Wu Io Mf);have U7:=fR bs (ti:Int) i;obtain⟨g32,rfl⟩:=df (eu.get 3 rfl) oM;refine ej (aZ g32) ((tg bs (i:Int)).length) 1 (k:Int)<|bt (aN (aZ g32) (k:Int) 1) _ (fx (aD (eu.get 3 rfl)) rfl Io)<|ah 1<|ay<|cG<|ah 4<|ej (aZ b4) bs.length 1 (ti:Int)<|bt (aN (aZ b4) (ti:Int) 1) _ (bJ (aD (eu.get 2 rfl)) rfl (ir hrt)) ?_;have pH:=bd [.gU 3 (nu.set ti jT),.row 3 1 At ((ef bs (ti:Int) i).length) ct (ints (ef bs (ti:Int) i)),.aB b1 30 [nm,wk,pa,va,vS A bs.length c],.row 43 1 (sM b4) bs.length bs.length (gq nu),.row 3 1 (sM g32) ((tg bs (i:Int)).length) EH (ints (tg bs (i:Int)))] (eu.focus ti hrt);refine ah 1 ?_;intro aC fr;refine nX 32 43 1 #[(0,.tmp 31)] 43 fr (e:=3) (size:=1) (zs:=[vI 0]) (vs:=[(0,nV i)]) (cs:=[nV i]) pH ?_;intro b34 w35 hb34 _ uX _ aC ea fr;clear ea;replace uX:=uX.nf;refine wz 33 (.tmp 30) (.tmp 32) 43 43 fr (e:=3) (size:=1) (bytes:=8) (z:=(vI 0)) (A:=At) (B:=(sM b34)) (n:=((ef bs (ti:Int) i).length)) (cap:=ct) (m:=1) (cap':=1) (xs:=(ints (ef bs (ti:Int) i))) (news:=[nV i]) uX 1 rfl (aD (uX.get 5 rfl)) rfl (by simp[Value.oneCell']) oM (by simp only[maxLen];omega) ?_;intro A41 c42 w43 Ap _ aC ea fr;clear ea;replace Ap:=Ap.nf;have EG:=Ap.od [4,4,4,4,4] 5;revert aC;refine ej (aZ b4) bs.length 1 (ti:Int)<|yc EG 3 (aN (aZ b4) (ti:Int) 1) (((ti:Int)).toNat*1) (vS A41 (((ef bs (ti:Int) i).length)+1) c42) rfl rfl oM fun w48 s6=> ?_
 replace s6:=s6.nf;refine ay<|cG ?_;have Du:=s6.od [4,4,4,4,4] 5;have Fz:ti<nu.length:=(List.getElem?_eq_some_iff.1 hrt).1;have tH:=bd [.gU 3 ((nu.set ti jT).set ti ⟨A41,((ef bs (ti:Int) i).length)+1,c42,(ints (ef bs (ti:Int) i))++[nV i]⟩),.aB b1 30 [nm,wk,pa,va,vS A bs.length c],.row 43 1 (sM b4) bs.length bs.length ((gq nu).set (((ti:Int)).toNat*1) (vS A41 (((ef bs (ti:Int) i).length)+1) c42)),.row 3 1 (sM g32) ((tg bs (i:Int)).length) EH (ints (tg bs (i:Int)))] (Du.Kh ti (List.getElem?_set_self Fz));have Av:=bd [.gU 3 (nu.set ti ⟨A41,((ef bs (ti:Int) i).length)+1,c42,(ints (ef bs (ti:Int) i))++[nV i]⟩),.aB b1 30 [nm,wk,pa,va,vS A bs.length c],.row 43 1 (sM b4) bs.length bs.length (gq (nu.set ti ⟨A41,((ef bs (ti:Int) i).length)+1,c42,(ints (ef bs (ti:Int) i))++[nV i]⟩)),.row 3 1 (sM g32) ((tg bs (i:Int)).length) EH (ints (tg bs (i:Int)))] (tH.cast (by rw[BL,Kg];simp only[Int.toNat_natCast,Nat.mul_one]));refine cZ ((k:Int)+1)<|ah 1<|ay ?_;intro aC fr;exact⟨(tg bs (i:Int)).length-(k+1),oM,k+1,(nu.set ti ⟨A41,((ef bs (ti:Int) i).length)+1,c42,(ints (ef bs (ti:Int) i))++[nV i]⟩),rfl,fr.kp [1,3,4,13,14,19,20,21],Av,oM,by rw[←Ww Io Mf];exact hf3.set sI (by rw[List.map_append];rfl)⟩
end Go.Proofs.YtejbeeaomokjpaaGreat
namespace Go.Mor
open Go.RowKit
section
variable (T : Int → List Int)
def Dm(d x:Int):Prop:=¬(d≠0∧Reach (HD T d) x)
inductive RA(pl:Int→Int)(d:Int):Nat→Int→Prop
 |zero (k:Nat):d≠0→RA pl d k 0
 |U8 {k:Nat} {x t:Int}:RA pl d k x→t∈T x→t≠d→pl x<pl t→RA pl d k t
 |ret {k:Nat} {x t:Int}:RA pl d k x→t∈T x→t≠d→RA pl d (k+1) t
structure OX(pl:Int→Int):Prop where
 reach:∀x,0≤pl x↔Reach T x
 zero:pl 0=0
 inj:∀x y,0≤pl x→pl x=pl y→x=y
 src:∀x,0≤pl x→x≠0→∃s,0≤pl s∧pl s<pl x∧x∈T s
end
section
variable {T : Int → List Int} {pl : Int → Int}
theorem RA.self{d:Int}{k:Nat}:¬RA T pl d k d:=by
 intro h;cases h with
 |zero _ h=>exact h rfl
 |U8 _ _ h _=>exact h rfl
 |ret _ _ h=>exact h rfl
theorem RA.mono{d x:Int}{k:Nat}(h:RA T pl d k x):RA T pl d (k+1) x:=by
 induction h with
 |zero k h=>exact .zero _ h
 |U8 _ ht dt hl ih=>exact .U8 ih ht dt hl
 |ret _ ht dt ih=>exact .ret ih ht dt
theorem RA.le{d x:Int}{k m:Nat}(h:RA T pl d k x)(hk:k≤m):RA T pl d m x:=by
 induction hk with
 |refl=>exact h
 |step _ ih=>exact ih.mono
theorem RA.reach{d x:Int}{k:Nat}(h:RA T pl d k x):Reach T x:=by
 induction h with
 |zero=>exact .zero
 |U8 _ ht _ _ ih=>exact .step ih ht
 |ret _ ht _ ih=>exact .step ih ht
theorem RA.ex{d x:Int}(hd:d≠0)(h:Reach (HD T d) x):∃k,RA T pl d k x:=by
 induction h with
 |zero=>exact⟨0,.zero 0 hd⟩
 |step _ ht ih=>
  obtain⟨k,hk⟩:=ih;exact⟨k+1,.ret hk (iy.1 ht).1 (iy.1 ht).2⟩
theorem RA.cut{d b x:Int}{k:Nat}(h:RA T pl d k x):RA T pl b k x∨RA T pl d k b:=by
 induction h with
 |zero k h=>
  by_cases e:b=0
  ·subst e;exact .inr (.zero k h)
  ·exact .inl (.zero k e)
 | @U8 k x t hx ht dt hl ih=>
  rcases ih with ih|ih
  ·by_cases e:t=b
   ·subst e;exact .inr (.U8 hx ht dt hl)
   ·exact .inl (.U8 ih ht e hl)
  ·exact .inr ih
 | @ret k x t hx ht dt ih=>
  rcases ih with ih|ih
  ·by_cases e:t=b
   ·subst e;exact .inr (.ret hx ht dt)
   ·exact .inl (.ret ih ht e)
  ·exact .inr ih.mono
theorem RA.gO{d:Int}{k:Nat}(hs:∀x,RA T pl d (k+1) x→RA T pl d k x):∀m x,RA T pl d m x→RA T pl d k x:=by
 intro m x h;induction h with
 |zero _ h=>exact .zero k h
 |U8 _ ht dt hl ih=>exact .U8 ih ht dt hl
 |ret _ ht dt ih=>exact hs _ (.ret ih ht dt)
open Classical in
theorem RA.grow{n:Nat}(hR:∀x,Reach T x→0≤x∧x<(n:Int))(d:Int)(k:Nat):(∃j,j≤k∧∀x,RA T pl d (j+1) x→RA T pl d j x)∨jG n (fun x=>decide (RA T pl d k x))+k≤n:=by
 induction k with
 |zero=>exact .inr (by have:=kC n (fun x=>decide (RA T pl d 0 x));omega)
 |succ k ih=>
  rcases ih with⟨j,hj,h⟩|ih
  ·exact .inl ⟨j,oM,h⟩
  ·by_cases hs:∀x,RA T pl d (k+1) x→RA T pl d k x
   ·exact .inl ⟨k,oM,hs⟩
   ·right;have⟨x,hx⟩:=Classical.not_forall.1 hs;have⟨h1,h2⟩:=Classical.not_imp.1 hx;obtain⟨r0,r1⟩:=hR x h1.reach;have hu:=gg (n:=n) (S:=fun x=>decide (RA T pl d k x)) (t:=x) r0 r1 (by simpa using h2);have hm:=yn (n:=n) (S:=fI (fun x=>decide (RA T pl d k x)) x) (S':=fun x=>decide (RA T pl d (k+1) x)) (fun y hy=>by
     simp only[fI,Bool.or_eq_true,beq_iff_eq,decide_eq_true_eq]at hy⊢;rcases hy with rfl|hy
     ·exact h1
     ·exact hy.mono)
    omega
theorem RA.all{n:Nat}(hR:∀x,Reach T x→0≤x∧x<(n:Int)){d x:Int}(h:¬RA T pl d (n+1) x):Dm T d x:=by
 rintro⟨hd,hr⟩;obtain⟨m,hm⟩:=RA.ex (pl:=pl) hd hr;rcases RA.grow (pl:=pl) hR d (n+1)with⟨j,hj,hs⟩|hu
 ·exact h ((RA.gO hs m x hm).le hj)
 ·omega
theorem Dm.self(x:Int):Dm T x x:=by
 rintro⟨h0,h⟩;cases h with
 |zero=>exact h0 rfl
 |step _ ht=>exact(iy.1 ht).2 rfl
theorem Dm.Dv{d:Int}(h:Dm T d 0):d=0:=by
 by_cases e:d=0
 ·exact e
 ·exact absurd ⟨e,Reach.zero⟩ h
theorem Dm.src{d x s:Int}(h:Dm T d x)(dt:d≠x)(hx:x∈T s):Dm T d s:=by
 rintro⟨hd,hr⟩;exact h ⟨hd,.step hr (iy.2 ⟨hx,fun e=>dt e.symm⟩)⟩
theorem Dm.le(hp:OX T pl){d x:Int}(hx:0≤pl x)(h:Dm T d x):pl d≤pl x:=by
 by_cases eV:pl d≤pl x
 ·exact eV
 ·exfalso;have hd:d≠0:=by rintro rfl;rw[hp.zero]at eV;omega
  refine h ⟨hd,?_⟩;clear h;have key:∀(m:Nat) (x:Int),0≤pl x→pl x<pl d→(pl x).toNat≤m→Reach (HD T d) x:=by
   intro m;induction m with
   |zero=>
    intro x h0 _ hm;have:x=0:=hp.inj x 0 h0 (by rw[hp.zero];omega);exact this▸ .zero
   |succ m ih=>
    intro x h0 h1 hm;by_cases e:x=0
    ·exact e▸ .zero
    ·obtain⟨s,s0,s1,hs⟩:=hp.src x h0 e;exact .step (ih s s0 oM oM) (iy.2 ⟨hs,fun e=>by subst e;omega⟩)
  exact key _ x hx oM (Nat.le_refl _)
theorem Dm.reach{d x:Int}(hx:Reach T x)(h:Dm T d x):Reach T d:=by
 by_cases hd:Reach T d
 ·exact hd
 ·exfalso;refine h ⟨fun e=>hd (e▸ .zero),?_⟩;induction hx with
  |zero=>exact .zero
  | @step y t hy ht ih=>
   have hih:Reach (HD T d) y:=by
    by_cases h2:Dm T d y
    ·exact ih h2
    ·exact(Classical.not_not.1 h2).2
   exact .step hih (iy.2 ⟨ht,fun e=>hd (e▸ .step hy ht)⟩)
inductive hU(up:Int→Int):Int→Int→Prop
 |refl (x:Int):hU up x x
 |step {x d:Int}:x≠0→hU up (up x) d→hU up x d
theorem hU.trans{up:Int→Int}{x y z:Int}(h:hU up x y)(h':hU up y z):hU up x z:=by
 induction h with
 |refl=>exact h'
 |step dt _ ih=>exact .step dt (ih h')
def jV(pl up:Int→Int)(x:Int):Prop:=0≤pl x∧(x=0∨0≤up x)
structure Up(T:Int→af)(pl up:Int→Int):Prop where
 low:∀x,jV pl up x→x≠0→jV pl up (up x)∧pl (up x)<pl x
 QD:∀x d,jV pl up x→x≠0→Dm T d x→d≠x→Dm T d (up x)
theorem hU.zero{up:Int→Int}{d:Int}(h:hU up 0 d):d=0:=by
 cases h with
 |refl=>rfl
 |step h _=>exact absurd rfl h
theorem hU.It{up:Int→Int}(hu:Up T pl up){x d:Int}(h:hU up x d)(hx:jV pl up x):jV pl up d∧pl d≤pl x∧(d≠x→pl d<pl x):=by
 induction h with
 |refl=>exact⟨hx,Int.le_refl _,fun h=>absurd rfl h⟩
 | @step x d dt _ ih=>
  obtain⟨h1,h2⟩:=hu.low x hx dt;obtain⟨a,b,c⟩:=ih h1;exact⟨a,oM,fun _=>oM⟩
theorem Up.Iu{up:Int→Int}(hu:Up T pl up){x d:Int}(hx:jV pl up x)(h:Dm T d x):hU up x d:=by
 have key:∀(m:Nat) (x:Int),jV pl up x→(pl x).toNat≤m→Dm T d x→hU up x d:=by
  intro m;induction m with
  |zero=>
   intro x hx hm h;by_cases e:d=x
   ·exact e▸ .refl _
   ·by_cases e0:x=0
    ·subst e0;exact absurd h.Dv e
    ·have h2:=hu.low x hx e0;have:=h2.1.1;omega
  |succ m ih=>
   intro x hx hm h;by_cases e:d=x
   ·exact e▸ .refl _
   ·by_cases e0:x=0
    ·subst e0;exact absurd h.Dv e
    ·have h2:=hu.low x hx e0;have:=h2.1.1;exact .step e0 (ih _ h2.1 oM (hu.QD x d hx e0 h e))
 exact key _ x hx (Nat.le_refl _) h
inductive lL(pl up:Int→Int):Int→Int→Int→Prop
 |done (x:Int):lL pl up x x x
 |left {a b c:Int}:pl b<pl a→lL pl up (up a) b c→lL pl up a b c
 |right {a b c:Int}:pl a<pl b→lL pl up a (up b) c→lL pl up a b c
theorem lL.Qh2{up:Int→Int}(hp:OX T pl)(hu:Up T pl up){a b c:Int}(h:lL pl up a b c)(ha:jV pl up a)(hb:jV pl up b):jV pl up c∧hU up a c∧hU up b c∧∀d,Dm T d a→Dm T d b→Dm T d c:=by
 induction h with
 |done x=>exact⟨ha,.refl _,.refl _,fun d h _=>h⟩
 | @left a b c eV _ ih=>
  have dt:a≠0:=by rintro rfl;rw[hp.zero]at eV;have:=hb.1;omega
  obtain⟨h1,_⟩:=hu.low a ha dt;obtain⟨q1,q2,q3,q4⟩:=ih h1 hb;refine⟨q1,.step dt q2,q3,fun d hd EI=>q4 d (hu.QD a d ha dt hd ?_) EI⟩;rintro rfl;have:=Dm.le hp hb.1 EI;omega
 | @right a b c eV _ ih=>
  have dt:b≠0:=by rintro rfl;rw[hp.zero]at eV;have:=ha.1;omega
  obtain⟨h1,_⟩:=hu.low b hb dt;obtain⟨q1,q2,q3,q4⟩:=ih ha h1;refine⟨q1,q2,.step dt q3,fun d hd EI=>q4 d hd (hu.QD b d hb dt EI ?_)⟩;rintro rfl;have:=Dm.le hp ha.1 hd;omega
end
end Go.Mor
namespace Go.Mor
open Go.RowKit
section
variable {T : Int → List Int} {pl : Int → Int}
structure Dw(T:Int→af)(pl up:Int→Int)(k:Nat)(j:Int):Prop where
 ok:Up T pl up
 some:∀x,0≤pl x→x≠0→(pl x≤j∨1≤k)→0≤up x
 off:∀x,(pl x<0∨x=0)→up x= -1
 non:k=0→∀x,j<pl x→up x= -1
 lo:∀x d,jV pl up x→pl x≤j→hU up x d→¬RA T pl d k x
 hi:1≤k→∀x d,jV pl up x→hU up x d→¬RA T pl d (k-1) x
def Fold(T:Int→af)(pl up:Int→Int)(ss:af)(to:Int):Prop:=(to= -1∧∀s,s∈ss→¬jV pl up s)∨(jV pl up to∧(∃s,s∈ss∧jV pl up s)∧(∀s,s∈ss→jV pl up s→hU up s to)∧∀d,(∀s,s∈ss→jV pl up s→Dm T d s)→Dm T d to)
variable {up : Int → Int}
theorem Fold.start:Fold T pl up [] (-1):= .inl ⟨rfl,fun _ h=>(List.not_mem_nil h).elim⟩
theorem Fold.skip{ss:af}{to s:Int}(h:Fold T pl up ss to)(hs:¬jV pl up s):Fold T pl up (ss++[s]) to:=by
 have hm:∀x,x∈ss++[s]→jV pl up x→x∈ss:=by
  intro x hx hp;rcases List.mem_append.1 hx with hx|hx
  ·exact hx
  ·simp only[List.mem_singleton]at hx;exact absurd (hx▸hp) hs
 rcases h with⟨h1,h2⟩|⟨h1,⟨q,hq,hqp⟩,h2,h3⟩
 ·exact .inl ⟨h1,fun x hx hp=>h2 x (hm x hx hp) hp⟩
 ·exact .inr ⟨h1,⟨q,List.mem_append_left _ hq,hqp⟩,fun x hx hp=>h2 x (hm x hx hp) hp,fun d hd=>h3 d (fun x hx hp=>hd x (List.mem_append_left _ hx) hp)⟩
theorem Fold.first{ss:af}{to s:Int}(h:Fold T pl up ss to)(hto:to<0)(hr:∀x,0≤pl x→0≤x)(hs:jV pl up s):Fold T pl up (ss++[s]) s:=by
 rcases h with⟨h1,h2⟩|⟨h1,_⟩
 ·refine .inr ⟨hs,⟨s,sI,hs⟩,fun x hx hp=> ?_,fun d hd=>hd s sI hs⟩;rcases List.mem_append.1 hx with hx|hx
  ·exact absurd hp (h2 x hx)
  ·simp only[List.mem_singleton]at hx;exact hx▸ .refl _
 ·have:=hr to h1.1;omega
theorem Fold.meet{ss:af}{to s c:Int}(hp:OX T pl)(hu:Up T pl up)(h:Fold T pl up ss to)(hto:0≤to)(hs:jV pl up s)(hc:lL pl up to s c):Fold T pl up (ss++[s]) c:=by
 rcases h with⟨h1,h2⟩|⟨h1,h0,h2,h3⟩
 ·omega
 ·obtain⟨q1,q2,q3,q4⟩:=hc.Qh2 hp hu h1 hs;refine .inr ⟨q1,⟨s,sI,hs⟩,fun x hx hp=> ?_,fun d hd=>q4 d (h3 d (fun x hx hp=>hd x (List.mem_append_left _ hx) hp)) (hd s sI hs)⟩;rcases List.mem_append.1 hx with hx|hx
  ·exact(h2 x hx hp).trans q2
  ·simp only[List.mem_singleton]at hx;exact hx▸q3
theorem Fold.It{ss:af}{to:Int}(h:Fold T pl up ss to)(hto:0≤to):jV pl up to:=by
 rcases h with⟨h1,_⟩|⟨h1,_⟩
 ·omega
 ·exact h1
def sx(up:Int→Int)(b c:Int):Int→Int:=fun x=>if x=b then c else up x
theorem QE{b:Int}:sx up b (up b)=up:=by
 funext x;unfold sx;split
 ·subst_vars;rfl
 ·rfl
theorem uY{b c:Int}:sx up b c b=c:=by simp[sx]
theorem mU{b c x:Int}(h:x≠b):sx up b c x=up x:=by simp[sx,h]
section
variable {b c : Int}
theorem KJ(hc:0≤c){x:Int}(h:jV pl up x):jV pl (sx up b c) x:=by
 refine⟨h.1,h.2.imp id fun h=> ?_⟩;by_cases e:x=b
 ·subst e;rw[uY];exact hc
 ·rw[mU e];exact h
theorem xp{x:Int}(h:jV pl (sx up b c) x)(e:x≠b):jV pl up x:=by
 refine⟨h.1,h.2.imp id fun h=> ?_⟩;rwa [mU e]at h
theorem KK{x d:Int}(h:hU (sx up b c) x d):hU up x d∨(hU up x b∧hU (sx up b c) b d):=by
 induction h with
 |refl x=>exact .inl (.refl x)
 | @step x d dt h ih=>
  by_cases e:x=b
  ·subst e;exact .inr ⟨.refl _,.step dt h⟩
  ·rw[mU e]at ih;rcases ih with ih|⟨ih,h2⟩
   ·exact .inl (.step dt ih)
   ·exact .inr ⟨.step dt ih,h2⟩
theorem Mo(hu:Up T pl up){x d:Int}(h:hU (sx up b c) x d)(hx:jV pl up x)(eV:pl x<pl b):hU up x d:=by
 induction h with
 |refl x=>exact .refl x
 | @step x d dt h ih=>
  have e:x≠b:=by rintro rfl;omega
  rw[mU e]at h ih;obtain⟨h1,h2⟩:=hu.low x hx dt;exact .step dt (ih h1 oM)
theorem Dw.step{k:Nat}{j:Int}{ss:af}(hp:OX T pl)(hr:∀x,0≤pl x→0≤x)(h:Dw T pl up k j)(hj:0≤j)(hb:pl b=j+1)(hss:∀s,0≤pl s→(s∈ss↔b∈T s))(hc:Fold T pl up ss c):0≤c∧jV pl up c∧pl c<pl b∧(∀s,jV pl up s→b∈T s→hU up s c)∧(∀d,d≠b→Dm T d b→Dm T d c)∧Dw T pl (sx up b c) k (j+1):=by
 have wF:b≠0:=by rintro rfl;rw[hp.zero]at hb;omega
 have OY:0≤pl b:=oM;obtain⟨s0,p0,p1,ps⟩:=hp.src b OY wF;have Iv:∀x,0≤pl x→pl x≤j∨1≤k→jV pl up x:=by
  intro x h0 h1;refine⟨h0,?_⟩;by_cases e:x=0
  ·exact .inl e
  ·exact .inr (h.some x h0 e h1)
 have Vw:jV pl up s0:=Iv s0 p0 (.inl oM);rcases hc with⟨_,h2⟩|⟨QF,_,h2,h3⟩
 ·exact absurd Vw (h2 s0 ((hss s0 p0).2 ps))
 ·have a2:∀s,jV pl up s→b∈T s→hU up s c:=fun s hs P4=>h2 s ((hss s hs.1).2 P4) hs
  have a0:=(a2 s0 Vw ps).It h.ok Vw;have hcb:pl c<pl b:=oM;have hc0:0≤c:=hr c QF.1;have a3:∀d,d≠b→Dm T d b→Dm T d c:=fun d dt hd=>h3 d (fun s hs OQ=>hd.src dt ((hss s OQ.1).1 hs))
  have QeY:c≠b:=by rintro rfl;omega
  have ab:∀d,hU (sx up b c) b d→d=b∨hU up c d:=by
   intro d hd;cases hd with
   |refl=>exact .inl rfl
   |step _ hd=>
    rw[uY]at hd;exact .inr (Mo h.ok hd QF hcb)
  have nb:∀d,hU (sx up b c) b d→¬RA T pl d k b:=by
   intro d hd;rcases ab d hd with rfl|hd
   ·exact RA.self
   ·intro Iw;cases Iw with
    |zero=>exact wF rfl
    | @U8 _ s _ hs P4 dt hl=>
     have hsr:=(hp.reach s).2 hs.reach;have OQ:=Iv s hsr (.inl oM);exact h.lo s d OQ oM ((a2 s OQ P4).trans hd) hs
    | @ret k' s _ hs P4 dt=>
     have hsr:=(hp.reach s).2 hs.reach;have OQ:=Iv s hsr (.inr oM);exact h.hi oM s d OQ ((a2 s OQ P4).trans hd) (by simpa using hs)
  refine⟨hc0,QF,hcb,a2,a3,⟨⟨fun x hx dt=> ?_,fun x d hx dt hd hdx=> ?_⟩,fun x hx dt E1=> ?_,fun x hx=> ?_,fun hk x hx=> ?_,fun x d hx E1 hd Iw=> ?_,fun hk x d hx hd Iw=> ?_⟩⟩
  ·by_cases e:x=b
   ·subst e;rw[uY];exact⟨KJ hc0 QF,hcb⟩
   ·rw[mU e];obtain⟨h1,h2⟩:=h.ok.low x (xp hx e) dt;exact⟨KJ hc0 h1,h2⟩
  ·by_cases e:x=b
   ·subst e;rw[uY];exact a3 d hdx hd
   ·rw[mU e];exact h.ok.QD x d (xp hx e) dt hd hdx
  ·by_cases e:x=b
   ·subst e;rw[uY];exact hc0
   ·rw[mU e];refine h.some x hx dt (E1.imp (fun h1=> ?_) id);by_cases e2:pl x=j+1
    ·exact absurd (hp.inj x b hx oM) e
    ·omega
  ·have e:x≠b:=by rintro rfl;omega
   rw[mU e];exact h.off x hx
  ·have e:x≠b:=by rintro rfl;omega
   rw[mU e];exact h.non hk x oM
  ·by_cases e:x=b
   ·subst e;exact nb d hd Iw
   ·have uI:=xp hx e;have hxj:pl x≤j:=by
     by_cases e2:pl x=j+1
     ·exact absurd (hp.inj x b hx.1 oM) e
     ·omega
    rcases KK hd with hd|⟨Wy,hd⟩
    ·exact h.lo x d uI hxj hd Iw
    ·rcases RA.cut (b:=b) Iw with h1|h1
     ·exact h.lo x b uI hxj Wy h1
     ·exact nb d hd h1
  ·by_cases e:x=b
   ·subst e;exact nb d hd (Iw.le oM)
   ·have uI:=xp hx e;rcases KK hd with hd|⟨Wy,hd⟩
    ·exact h.hi hk x d uI hd Iw
    ·rcases RA.cut (b:=b) Iw with h1|h1
     ·exact h.hi hk x b uI Wy h1
     ·exact nb d hd (h1.le oM)
end
theorem Dw.start(hp:OX T pl):Dw T pl (fun _=> -1) 0 0:=by
 have hz:∀x,jV pl (fun _=> -1) x→x=0:=by
  rintro x ⟨_,h|h⟩
  ·exact h
  ·have h:(0:Int)≤-1:=h;omega
 refine⟨⟨fun x hx dt=>absurd (hz x hx) dt,fun x d hx dt=>absurd (hz x hx) dt⟩,fun x hx dt h=> ?_,fun _ _=>rfl,fun _ _ _=>rfl,fun x d hx _ hd=> ?_,fun h=>absurd h dQ⟩
 ·exfalso;rcases h with h|h
  ·exact dt (hp.inj x 0 hx (by rw[hp.zero];omega))
  ·omega
 ·have:=hz x hx;subst this;rw[hd.zero];exact RA.self
theorem Dw.Qh3{k:Nat}{j:Int}(hp:OX T pl)(h:Dw T pl up k j)(hj:∀x,pl x≤j):Dw T pl up (k+1) 0:=by
 refine⟨h.ok,fun x hx dt _=>h.some x hx dt (.inl (hj x)),h.off,fun h=>absurd h oM,fun x d hx h0 hd=> ?_,fun _ x d hx hd=>by simpa using h.lo x d hx (hj x) hd⟩;have:x=0:=hp.inj x 0 hx.1 (by have:=hx.1;rw[hp.zero];omega);subst this;rw[hd.zero];exact RA.self
theorem Dw.full{k n:Nat}{j:Int}{b c:Int}(hp:OX T pl)(hR:∀x,Reach T x→0≤x∧x<(n:Int))(h:Dw T pl up k j)(hk:n+2≤k)(hb:0≤pl b)(wF:b≠0)(QF:jV pl up c)(hcb:pl c<pl b)(a2:∀s,jV pl up s→b∈T s→hU up s c)(a3:∀d,d≠b→Dm T d b→Dm T d c):up b=c:=by
 have It:∀x,0≤pl x→jV pl up x:=fun x h0=>⟨h0,by
  by_cases e:x=0
  ·exact .inl e
  ·exact .inr (h.some x h0 e (.inr oM))⟩
 have dm:∀x d,jV pl up x→hU up x d→Dm T d x:=fun x d hx hd=>RA.all (pl:=pl) hR (n:=n) (fun Iw=>h.hi oM x d hx hd (Iw.le oM))
 have hbp:=It b hb;obtain⟨h1,h2⟩:=h.ok.low b hbp wF;have hub:up b≠b:=by intro e;rw[e]at h2;omega
 have e1:hU up c (up b):=h.ok.Iu QF (a3 _ hub (dm b _ hbp (.step wF (.refl _))));have QeY:c≠b:=by rintro rfl;omega
 have dcb:Dm T c b:=by
  rintro⟨hc0,hr⟩;cases hr with
  |zero=>exact wF rfl
  | @step s _ hs P4=>
   have Qh4:=(iy.1 P4).1;have hsr:Reach T s:=by
    have key:∀x,Reach (HD T c) x→Reach T x:=by
     intro x hx;induction hx with
     |zero=>exact .zero
     |step _ ht ih=>exact .step ih (iy.1 ht).1
    exact key s hs
   have OQ:=It s ((hp.reach s).2 hsr);exact dm s c OQ (a2 s OQ Qh4) ⟨hc0,hs⟩
 have e2:hU up (up b) c:=h.ok.Iu h1 (h.ok.QD b c hbp wF dcb QeY);have q1:=(e1.It h.ok QF).2.1;have q2:=(e2.It h.ok h1).2.1;exact hp.inj _ _ h1.1 oM
def Mp(T:Int→af)(pl up:Int→Int)(j:Int):Prop:=∀b s,1≤pl b→pl b≤j→0≤pl s→b∈T s→hU up s (up b)
theorem Mp.start:Mp T pl up 0:=fun b s h h'=>oM
theorem Mp.next{j b:Int}(hp:OX T pl)(h:Mp T pl up j)(hb:pl b=j+1)(ha:∀s,0≤pl s→b∈T s→hU up s (up b)):Mp T pl up (j+1):=by
 intro x s h1 h2 hs hx;by_cases e:pl x=j+1
 ·have:x=b:=hp.inj x b oM oM;exact this▸ha s hs (this▸hx)
 ·exact h x s h1 oM hs hx
theorem Mp.dm{j:Int}(hp:OX T pl)(h:Mp T pl up j)(hj:∀x,pl x≤j){x d:Int}(ha:hU up x d):Dm T d x:=by
 rintro⟨hd,hr⟩;have toR:∀x,Reach (HD T d) x→Reach T x:=by
  intro x hx;induction hx with
  |zero=>exact .zero
  |step _ ht ih=>exact .step ih (iy.1 ht).1
 induction hr with
 |zero=>exact hd ha.zero
 | @step y t hy ht ih=>
  obtain⟨ht',dt⟩:=iy.1 ht;cases ha with
  |refl=>exact dt rfl
  |step h0 ha=>
   have hyr:=(hp.reach y).2 (toR y hy);have VZ:=(hp.reach t).2 (.step (toR y hy) ht');have:1≤pl t:=by
    by_cases e:pl t=0
    ·exact absurd (hp.inj t 0 VZ (by rw[hp.zero];exact e)) h0
    ·omega
   exact ih ((h t y this (hj t) hyr ht').trans ha)
theorem hU.total{x y z:Int}(h:hU up x y)(h':hU up x z):hU up y z∨hU up z y:=by
 induction h with
 |refl=>exact .inl h'
 | @step x d dt h ih=>
  cases h' with
  |refl=>exact .inr (.step dt h)
  |step _ h'=>exact ih h'
end
end Go.Mor
namespace Go.Mor
open Go.RowKit
def cy(n:Nat)(l:af)(f:Int→Int):Prop:=l.length=n∧∀i:Nat,i<n→l.getD i 0=f (i:Int)
theorem cy.ext{n:Nat}{l m:af}{f:Int→Int}(h:cy n l f)(h':cy n m f):l=m:=by
 apply List.ext_getElem?;intro i;by_cases hi:i<n
 ·have h1:=h.2 i hi;have h2:=h'.2 i hi;have e1:i<l.length:=by rw[h.1];exact hi
  have e2:i<m.length:=by rw[h'.1];exact hi
  simp only[List.getD,List.getElem?_eq_getElem e1,List.getElem?_eq_getElem e2,Option.getD_some]at h1 h2⊢;rw[h1,h2]
 ·rw[List.getElem?_eq_none (by rw[h.1];omega),List.getElem?_eq_none (by rw[h'.1];omega)]
theorem cy.set{n:Nat}{l:af}{f g:Int→Int}(h:cy n l f){i:Nat}{v:Int}(_hi:i<n)(hg:g (i:Int)=v)(dt:∀j:Nat,j<n→j≠i→g (j:Int)=f (j:Int)):cy n (l.set i v) g:=by
 refine⟨by simp[h.1],fun j hj=> ?_⟩;by_cases e:i=j
 ·subst e;have:i<l.length:=by rw[h.1];exact hj
  simp[List.getD,this,hg]
 ·rw[dt j hj (fun h=>e h.symm),←h.2 j hj];simp[List.getD,List.getElem?_set_ne e]
theorem cy.get{n:Nat}{l:af}{f:Int→Int}(h:cy n l f){i:Nat}(hi:i<n):l[i]?=some (f (i:Int)):=by
 have h1:=h.2 i hi;have e1:i<l.length:=by rw[h.1];exact hi
 simp only[List.getD,List.getElem?_eq_getElem e1,Option.getD_some]at h1;rw[List.getElem?_eq_getElem e1,h1]
theorem cy.congr{n:Nat}{l:af}{f g:Int→Int}(h:cy n l f)(e:∀i:Nat,i<n→f (i:Int)=g (i:Int)):cy n l g:=⟨h.1,fun i hi=>(h.2 i hi).trans (e i hi)⟩
def rN(k:Nat)(x:Int):Int:=if x<(k:Int)then-1 else 0
theorem yv(n:Nat):cy n (List.replicate n 0) (rN 0):=⟨sI,fun i hi=>by
 have:¬((i:Int)<((0:Nat):Int)):=oM;rw[rN,if_neg this];simp[List.getD,hi]⟩
theorem BM{n k:Nat}{l:af}(h:cy n l (rN k))(hk:k<n):cy n (l.set k (-1)) (rN (k+1)):=by
 refine h.set hk ?_ fun j _ dt=> ?_
 ·rw[rN,if_pos oM]
 ·unfold rN;by_cases e:(j:Int)<(k:Int)
  ·rw[if_pos e,if_pos oM]
  ·rw[if_neg e,if_neg oM]
theorem FA{n k:Nat}{l:af}(h:cy n l (rN k))(hk:n≤k):cy n l (fun _=> -1):=h.congr (fun i hi=>by rw[rN,if_pos oM])
def uZ(l:af)(x:Int):Int:=pw (fun y=>y==x) l
theorem mV{l:af}(hn:l.Nodup){i:Nat}{x:Int}(h:l[i]?=some x):uZ l x=(i:Int):=by
 obtain⟨eV,he⟩:=List.getElem?_eq_some_iff.1 h;refine E7 (j:=i) ?_ (by simp[List.getD,eV,he]) eV;rw[List.any_eq_false];intro y hy;obtain⟨j,hj,Wv⟩:=List.mem_take_iff_getElem.1 hy;simp only[beq_iff_eq];intro e;exact List.pairwise_iff_getElem.1 hn j i oM eV oM (by rw[Wv,he,e])
theorem Dx{l:af}{x:Int}(h:x∉l):uZ l x= -1:=by
 refine Bc (j:=l.length) ?_ (Nat.le_refl _);rw[List.any_eq_false];intro y hy;simp only[beq_iff_eq];rintro rfl;exact h (List.mem_of_mem_take hy)
theorem xr{l:af}(hn:l.Nodup){x:Int}:0≤uZ l x↔x∈l:=by
 constructor
 ·intro h;by_cases e:x∈l
  ·exact e
  ·rw[Dx e]at h;omega
 ·intro h;obtain⟨i,hi⟩:=List.mem_iff_getElem?.1 h;rw[mV hn hi];omega
theorem Wz{l:af}(hn:l.Nodup){x:Int}{i:Nat}(h:uZ l x=(i:Int)):l[i]?=some x:=by
 have hm:=(xr hn (x:=x)).1 oM;obtain⟨j,hj⟩:=List.mem_iff_getElem?.1 hm;have:=mV hn hj;rw[this]at h;have:j=i:=oM;exact this▸hj
theorem QbQ{l:af}{x:Int}:uZ l x<l.length:=(C5 _ l).2
theorem FB{l:af}(hn:l.Nodup){k:Nat}{b:Int}(hk:l[k]?=some b)(x:Int):uZ (l.take (k+1)) x=if x=b then(k:Int)else uZ (l.take k) x:=by
 obtain⟨eV,he⟩:=List.getElem?_eq_some_iff.1 hk;have Di:(l.take (k+1)).Nodup:=hn.sublist (List.take_sublist _ _);have U9:(l.take k).Nodup:=hn.sublist (List.take_sublist _ _);by_cases e:x=b
 ·subst e;rw[if_pos rfl];exact mV Di (by rw[List.getElem?_take_of_lt oM];exact hk)
 ·rw[if_neg e];by_cases hm:x∈l.take k
  ·obtain⟨j,hj⟩:=List.mem_iff_getElem?.1 hm;rw[mV U9 hj];have hjk:j<k:=by have:=(List.getElem?_eq_some_iff.1 hj).1;simp at this;omega
   rw[List.getElem?_take_of_lt hjk]at hj;exact mV Di (by rw[List.getElem?_take_of_lt oM];exact hj)
  ·rw[Dx hm,Dx];rw[List.take_succ_eq_append_getElem eV,he];simp only[List.mem_append,List.mem_singleton,not_or];exact⟨hm,e⟩
structure QG(T:Int→af)(l:af):Prop where
 head:l[0]?=some 0
 nodup:l.Nodup
 mem:∀x,x∈l↔Reach T x
 src:∀x,x∈l→x≠0→∃s,uZ l s<uZ l x∧0≤uZ l s∧x∈T s
theorem nv{bs:List SB}(h:0<bs.length):QG (tg bs) (aH bs):=by
 obtain⟨s,hk,he⟩:=uT bs;have hz:=BF hk;obtain⟨nw,h1,h2,h3,h4,h5⟩:=Qq hk;simp only[List.nil_append]at h1;have hl:aH bs=0::nw.reverse:=by unfold aH;rw[if_neg oM,←he,h1];simp
 have h0:(0:Int)∉nw:=by intro hm;have:=h4 0 hm;simp[fI]at this
 have HF:(aH bs).Nodup:=by rw[hl,List.nodup_cons];exact⟨by simpa using h0,List.pairwise_reverse.2 (h3.imp (fun h=>fun e=>h e.symm))⟩
 refine⟨by rw[hl];rfl,HF,fun x=> ?_,fun x hx dt=> ?_⟩
 ·rw[←hz x,h2 x,hl];simp[fI]
 ·have uI:x∈nw:=by rw[hl]at hx;simpa[dt]using hx
  obtain⟨l1,l2,e⟩:=List.append_of_mem uI;have BA:aH bs=(0::l2.reverse)++x::l1.reverse:=by rw[hl,e];simp
  have px:uZ (aH bs) x=((0::l2.reverse).length:Int):=by refine mV HF ?_;rw[BA,List.getElem?_append_right (Nat.le_refl _)];simp
  have py:∀y,y∈(0:Int)::l2.reverse→uZ (aH bs) y<uZ (aH bs) x∧0≤uZ (aH bs) y:=by
   intro y hy;obtain⟨j,hj,hje⟩:=List.mem_iff_getElem.1 hy;have:uZ (aH bs) y=(j:Int):=by refine mV HF ?_;rw[BA,List.getElem?_append_left hj,List.getElem?_eq_getElem hj,hje]
   omega
  rcases h5 l1 x l2 e with h|⟨y,hy,h⟩
  ·exact⟨0,(py 0 sI).1,(py 0 sI).2,h⟩
  ·have:=py y (by simp[hy]);exact⟨y,this.1,this.2,h⟩
theorem QG.uZ{T:Int→af}{l:af}(h:QG T l):OX T (uZ l)where
 reach:=fun x=>(xr h.nodup).trans (h.mem x)
 zero:=mV h.nodup h.head;inj:=fun x y hx e=>by obtain⟨i,hi⟩:=List.mem_iff_getElem?.1 ((xr h.nodup).1 hx);have e1:=mV h.nodup hi;have e2:=Wz h.nodup (x:=y) (i:=i) oM;rw[hi]at e2;injection e2
 src:=fun x hx dt=>by obtain⟨s,h1,h2,h3⟩:=h.src x ((xr h.nodup).1 hx) dt;exact⟨s,h2,h1,h3⟩
def iz(bs:List SB)(x:Int):Int:=uZ (aH bs) x
theorem iC{bs:List SB}(h:0<bs.length):OX (tg bs) (iz bs):=(nv h).uZ
theorem ny{bs:List SB}(h:0<bs.length){x:Int}(hx:Reach (tg bs) x):0≤x∧x<(bs.length:Int):=Qs h (fun _ _ h=>pZ h) hx
theorem kk{bs:List SB}(h:0<bs.length){x:Int}(hx:0≤iz bs x):0≤x∧x<(bs.length:Int):=ny h (((iC h).reach x).1 hx)
def EJ(bs:List SB):af:=(List.range bs.length).map (fun i:Nat=>iz bs (i:Int))
theorem QH(bs:List SB):cy bs.length (EJ bs) (iz bs):=⟨by simp[EJ],fun i hi=>by simp[EJ,List.getD,hi]⟩
theorem tJ{bs:List SB}{b s:Int}:s∈bG bs b↔(0≤s∧s<bs.length)∧b∈tg bs s:=by
 simp only[bG,ef,List.mem_map,List.mem_filter,List.mem_range,List.contains_eq_mem,decide_eq_true_eq];constructor
 ·rintro⟨i,⟨h1,h2⟩,rfl⟩;exact⟨oM,h2⟩
 ·rintro⟨h1,h2⟩;obtain⟨k,rfl⟩:=Int.eq_ofNat_of_zero_le h1.1;exact⟨k,⟨oM,h2⟩,rfl⟩
theorem j5{bs:List SB}{x:Int}:fJ bs (-1) x=true↔Reach (tg bs) x:=by
 rw[qh];have e:∀y,HD (tg bs) (-1) y=tg bs y:=by intro y;unfold HD;rw[List.filter_eq_self];intro t ht;have:=pZ ht;simp only[Bool.not_eq_true',u0,ne_eq];omega
 have e2:HD (tg bs) (-1)=tg bs:=funext e;rw[e2];exact⟨fun h=>h.2,fun h=>⟨dQ,h⟩⟩
theorem WA{bs:List SB}{d x:Int}:fJ bs d x=false↔Dm (tg bs) d x:=by
 unfold Dm;rw[←qh];simp
theorem tK{bs:List SB}{d b:Nat}(hd:d<bs.length)(hb:b<bs.length):HE (gu bs) d b=true↔Reach (tg bs) (b:Int)∧Dm (tg bs) (d:Int) (b:Int):=by
 have:HE (gu bs) d b=mw bs (d:Int) (b:Int):=by simp[HE,gu,List.getD,hd,hb]
 rw[this];simp only[mw,Bool.and_eq_true,Bool.not_eq_true'];rw[j5,j5,WA];exact⟨fun h=>h.2,fun h=>⟨Dm.reach h.1 h.2,h⟩⟩
theorem BN{l:List (List Bool)}{b k:Nat}(h:∀d:Nat,d<k→d≠b→HE l d b=false):jH l b k= -1:=by
 induction k with
 |zero=>rfl
 |succ k ih=>
  unfold jH;rw[ih (fun d hd=>h d oM)];refine if_neg fun hh=> ?_
  rw[h k oM hh.1]at hh;exact Bool.noConfusion hh.2.1
theorem QI{bs:List SB}{up:Int→Int}(h0:0<bs.length)(hu:Up (tg bs) (iz bs) up)(hp:∀x,0≤iz bs x→jV (iz bs) up x)(hd:∀x d,0≤iz bs x→hU up x d→Dm (tg bs) d x){b:Nat}(hb:b<bs.length)(hr:0≤iz bs (b:Int)):∀k,k≤bs.length→(jH (gu bs) b k= -1∧∀d:Nat,d<k→d≠b→¬Dm (tg bs) (d:Int) (b:Int))∨(∃d:Nat,jH (gu bs) b k=(d:Int)∧d<k∧d≠b∧Dm (tg bs) (d:Int) (b:Int)∧∀e:Nat,e<k→e≠b→Dm (tg bs) (e:Int) (b:Int)→Dm (tg bs) (e:Int) (d:Int)):=by
 have hP:=iC h0;have OY:=(hP.reach _).1 hr;have rd:∀d x,0≤iz bs x→Dm (tg bs) d x→0≤iz bs d:=fun d x hx h=>(hP.reach d).2 (Dm.reach ((hP.reach x).1 hx) h)
 intro k;induction k with
 |zero=>exact fun _=> .inl ⟨rfl,fun d h=>oM⟩
 |succ k ih=>
  intro hk;have HG:HE (gu bs) k b=true↔Dm (tg bs) (k:Int) (b:Int):=by rw[tK oM hb];exact⟨fun h=>h.2,fun h=>⟨OY,h⟩⟩
  rcases ih oM with⟨h1,h2⟩|⟨d,h1,h2,h3,h4,h5⟩
  ·by_cases c:k≠b∧HE (gu bs) k b=true
   ·right;refine⟨k,?_,oM,c.1,HG.1 c.2,fun e he dt EI=> ?_⟩
    ·unfold jH;exact if_pos ⟨c.1,c.2,.inl oM⟩
    ·by_cases e2:e=k
     ·subst e2;exact Dm.self _
     ·exact absurd EI (h2 e oM dt)
   ·left;refine⟨?_,fun e he dt EI=> ?_⟩
    ·unfold jH;rw[if_neg (fun hh=>c ⟨hh.1,hh.2.1⟩)];exact h1
    ·by_cases e2:e=k
     ·subst e2;exact c ⟨dt,HG.2 EI⟩
     ·exact h2 e oM dt EI
  ·have Vv:HE (gu bs) d k=true↔Reach (tg bs) (k:Int)∧Dm (tg bs) (d:Int) (k:Int):=tK oM oM;by_cases c:k≠b∧HE (gu bs) k b=true
   ·have hkb:=HG.1 c.2;have Va:=rd _ _ hr hkb;by_cases c2:HE (gu bs) d k=true
    ·right;refine⟨k,?_,oM,c.1,hkb,fun e he dt EI=> ?_⟩
     ·unfold jH;exact if_pos ⟨c.1,c.2,.inr (by rw[h1];exact c2)⟩
     ·by_cases e2:e=k
      ·subst e2;exact Dm.self _
      ·have a1:=hu.Iu (hp _ Va) (Vv.1 c2).2;have a2:=hu.Iu (hp _ (rd _ _ Va (Vv.1 c2).2)) (h5 e oM dt EI);exact hd _ _ Va (a1.trans a2)
    ·right;refine⟨d,?_,oM,h3,h4,fun e he dt EI=> ?_⟩
     ·unfold jH;rw[if_neg]
      ·exact h1
      ·rintro⟨_,_,hh⟩;rw[h1]at hh;rcases hh with hh|hh
       ·omega
       ·exact c2 hh
     ·by_cases e2:e=k
      ·subst e2;have hdr:=rd _ _ hr h4;rcases hU.total (hu.Iu (hp _ hr) hkb) (hu.Iu (hp _ hr) h4)with t|t
       ·exact absurd (Vv.2 ⟨(hP.reach _).1 Va,hd _ _ Va t⟩) c2
       ·exact hd _ _ hdr t
      ·exact h5 e oM dt EI
   ·right;refine⟨d,?_,oM,h3,h4,fun e he dt EI=> ?_⟩
    ·unfold jH;rw[if_neg (fun hh=>c ⟨hh.1,hh.2.1⟩)];exact h1
    ·by_cases e2:e=k
     ·subst e2;exact absurd ⟨dt,HG.2 EI⟩ c
     ·exact h5 e oM dt EI
theorem Mq{bs:List SB}{up:Int→Int}{ab:af}{k:Nat}{i j:Int}(h0:0<bs.length)(hr:Dw (tg bs) (iz bs) up k i)(hk:1≤k)(hs:Mp (tg bs) (iz bs) up j)(hj:∀x,iz bs x≤j)(OZ:cy bs.length ab up):ab=fo bs:=by
 have hP:=iC h0;have hp:∀x,0≤iz bs x→jV (iz bs) up x:=fun x h=>⟨h,by
  by_cases e:x=0
  ·exact .inl e
  ·exact .inr (hr.some x h e (.inr hk))⟩
 have hd:∀x d,0≤iz bs x→hU up x d→Dm (tg bs) d x:=fun x d _ h=>hs.dm hP hj h
 refine OZ.ext ⟨by simp[fo,qi,j4],fun b hb=> ?_⟩;have e1:(fo bs).getD b 0=jH (gu bs) b bs.length:=by simp[fo,qi,j4,List.getD,hb]
 rw[e1];have KB:∀d:Nat,d<bs.length→¬Dm (tg bs) (d:Int) (b:Int)∨¬Reach (tg bs) (b:Int)→HE (gu bs) d b=false:=by
  intro d O0 hh;rw[←Bool.not_eq_true];intro ht;have:=(tK O0 hb).1 ht;rcases hh with hh|hh
  ·exact hh this.2
  ·exact hh this.1
 by_cases OY:0≤iz bs (b:Int)
 ·by_cases wF:b=0
  ·subst wF;rw[show up ((0:Nat):Int)= -1 from hr.off _ (.inr rfl)];refine BN fun d O0 dt=>KB d O0 (.inl fun h=> ?_)
   have:=h.Dv;omega
  ·have QbR:(b:Int)≠0:=oM;obtain⟨l1,l2⟩:=hr.ok.low _ (hp _ OY) QbR;have lne:up (b:Int)≠(b:Int):=by intro e;rw[e]at l2;omega
   have lr:=kk h0 l1.1;obtain⟨u,hu⟩:=Int.eq_ofNat_of_zero_le lr.1;have du:Dm (tg bs) (up (b:Int)) (b:Int):=hd _ _ OY (.step QbR (.refl _));rcases QI h0 hr.ok hp hd hb OY bs.length (Nat.le_refl _)with⟨_,h2⟩|⟨d,h1,h2,h3,h4,h5⟩
   ·exact absurd (hu▸du) (h2 u oM (fun e=>lne (by rw[hu,e])))
   ·rw[h1];have dt:(d:Int)≠(b:Int):=oM;have d1:Dm (tg bs) (up (b:Int)) (d:Int):=by rw[hu];exact h5 u oM (fun e=>lne (by rw[hu,e])) (hu▸du)
    have hdr:0≤iz bs (d:Int):=(hP.reach _).2 (Dm.reach ((hP.reach _).1 OY) h4);have d2:Dm (tg bs) (d:Int) (up (b:Int)):=hr.ok.QD _ _ (hp _ OY) QbR h4 dt;have q1:=Dm.le hP hdr d1;have q2:=Dm.le hP l1.1 d2;exact hP.inj _ _ hdr oM
 ·rw[hr.off _ (.inl oM)];exact BN fun d O0 _=>KB d O0 (.inr fun h=>OY ((hP.reach _).2 h))
end Go.Mor
namespace Go.Mor
open Go.RowKit
theorem cy.at_{n:Nat}{l:af}{f:Int→Int}(h:cy n l f){x:Int}(h0:0≤x)(h1:x<n):(ints l)[x.toNat]?=some (vI (f x)):=by
 obtain⟨i,rfl⟩:=Int.eq_ofNat_of_zero_le h0;have:=h.get (i:=i) oM;simp[ints,this]
structure WB(T:Int→af)(pl up:Int→Int)(n:Nat)(Vb ab:af):Prop where
 uZ:OX T pl
 ok:Up T pl up
 Dy:∀x,0≤pl x→0≤x∧x<(n:Int)
 HG:cy n Vb pl
 OZ:cy n ab up
section
variable {T : Int → List Int} {pl up : Int → Int} {n : Nat} {Vb ab : List Int}
theorem WB.at0(h:WB T pl up n Vb ab){x:Int}(hx:jV pl up x):(ints Vb)[x.toNat]?=some (vI (pl x)):=h.HG.at_ (h.Dy x hx.1).1 (h.Dy x hx.1).2
theorem WB.up0(h:WB T pl up n Vb ab){x:Int}(hx:jV pl up x):(ints ab)[x.toNat]?=some (vI (up x)):=h.OZ.at_ (h.Dy x hx.1).1 (h.Dy x hx.1).2
theorem WB.ne0(h:WB T pl up n Vb ab){a b:Int}(hb:jV pl up b)(eV:pl a>pl b):a≠0:=by
 rintro rfl;rw[h.uZ.zero]at eV;have:=hb.1;omega
theorem QJ(h:WB T pl up n Vb ab){a b a2 b2:Int}(ha:jV pl up a)(Aw:jV pl up a2)(uV:jV pl up b2)(dt:a≠b)(h1:a2=a∨pl a2<pl a)(h2:b2=b∨pl b2<pl b)(g1:¬pl a2>pl b)(g2:¬pl b2>pl a2):(pl a2+pl b2).toNat<(pl a+pl b).toNat:=by
 have p1:=Aw.1;have p2:=uV.1;rcases h1 with rfl|h1
 ·rcases h2 with rfl|h2
  ·exact absurd (h.uZ.inj _ _ ha.1 oM) dt
  ·omega
 ·rcases h2 with rfl|h2<;>omega
end
end Go.Mor
namespace Go.Proofs.YtejbeeaomokjpaaGreat
open Go.Mor
theorem QK(g5 g6:Nat)(EK O1:Addr)(n ca cb:Nat)(Vb ab:af)(T:Int→af)(pl up:Int→Int)(xa xb:Int)(w:World)(_hm:n≤1000000)(h5:RO bq w (.aB g5 43 [.slice (some EK) n ca]))(h6:RO bq w (.aB g6 43 [.slice (some O1) n cb]))(hA:RO bq w (.rd (some EK) (ints Vb)))(hB:RO bq w (.rd (some O1) (ints ab)))(k0:WB T pl up n Vb ab)(hxa:jV pl up xa)(Wy:jV pl up xb):Calls Tryz.prog 128 #[vI xa,vI xb,pT g5 0,pT g6 0] w (ez fun v w'=>∃c:Int,v=vI c∧lL pl up xa xb c∧Mem bq w w' []):=by
 refine fv 37 [vI xa,vI xb,pT g5 0,pT g6 0] Tryz.func128 ?_;have hM:=Mem.init w;refine aX<|ba<|cr 0 ?_;intro aC fr;refine fk (fun n_ a_ w_=>∃(a1:Int) (b1:Int),n_=(pl a1+pl b1).toNat∧Fr a_ 37 [(0,vI a1),(1,vI b1),(2,pT g5 0),(3,pT g6 0)]∧Mem bq w w_ []∧(jV pl up a1)∧(jV pl up b1)∧(∀c,lL pl up a1 b1 c→lL pl up xa xb c)) (n:=_) ⟨xa,xb,rfl,fr.kp [0,1,2,3],hM,hxa,Wy,fun _ h=>h⟩ ?_;clear fr aC hM;rintro n aC w3 ⟨a1,b1,rfl,fr,M4,Mr,jU,hc1⟩;revert aC;refine ba<|aI<|ah 2<|jP (a1 !=b1) fun Bne QeZ=> ?_
 refine ay ?_;cases Bne;have cne:¬(a1≠b1):=znn QeZ;refine fT<|eW 0<|eX<|aX<|bL<|cv (vI a1) ?_;obtain rfl:a1=b1:=oM;exact⟨_,rfl,hc1 _ (.done _),M4⟩;have cne:a1≠b1:=bne_iff_ne.1 QeZ.symm;refine fm<|bP<|cr 1<|ba<|cr 2 ?_;intro aC fr;refine fk (fun n_ a_ w_=>∃(a2:Int),n_=(pl a2).toNat∧Fr a_ 37 [(0,vI a2),(1,vI b1),(2,pT g5 0),(3,pT g6 0)]∧Mem bq w w_ []∧(jV pl up a2)∧(∀c,lL pl up a2 b1 c→lL pl up a1 b1 c)∧(a2=a1∨pl a2<pl a1)) (n:=_) ⟨a1,rfl,fr.kp [0,1,2,3],M4,Mr,fun _ h=>h,.inl rfl⟩ ?_;clear fr aC M4;rintro n aC w9 ⟨a2,rfl,fr,jw,Aw,hc2,hd2⟩;revert aC;refine ba<|ba ?_;obtain⟨Bgt,QbS⟩:∃B:Bool,B=decide ((pl a2)>(pl b1)):=⟨_,rfl⟩;refine da [0,1,2,3] ?_;intro aC fr;refine l9 (bo [eS (some EK) n ca,eI a2,eA EK (a2) 1,eI (pl a2),eS (some EK) n ca,eI b1,eA EK (b1) 1,eI (pl b1),eB Bgt]) fr (la (pF lz (dL (aZ g5) _ fun w_ hK=>(ae ((jw.aw hK).ro h5) rfl)) dP (dI (h0:=(k0.Dy a2 Aw.1).1) (h1:=(k0.Dy a2 Aw.1).2) EK n 1 a2) (dL (aN EK (a2) 1) _ fun w_ hK=>(bJ ((jw.aw hK).ro hA) rfl (k0.at0 Aw))) (dL (aZ g5) _ fun w_ hK=>(ae ((jw.aw hK).ro h5) rfl)) dP (dI (h0:=(k0.Dy b1 jU.1).1) (h1:=(k0.Dy b1 jU.1).2) EK n 1 b1) (dL (aN EK (b1) 1) _ fun w_ hK=>(bJ ((jw.aw hK).ro hA) rfl (k0.at0 jU)))) (dC (decide ((pl a2)>(pl b1))) QbS)) ?_;intro aC w17 vs hK hv fr;revert aC;refine bX [(0,vI a2),(1,vI b1),(2,pT g5 0),(3,pT g6 0),(18,vB Bgt)] ?_;have nt:=jw.aw hK;clear hK hv fr aC jw;clear vs;cases Bgt;have cgt:¬((pl a2)>(pl b1)):=of_decide_eq_false QbS.symm;refine fT<|eW 2<|eX<|cr 4 ?_;intro aC fr;refine fk (fun n_ a_ w_=>∃(b2:Int),n_=(pl b2).toNat∧Fr a_ 37 [(0,vI a2),(1,vI b2),(2,pT g5 0),(3,pT g6 0)]∧Mem bq w w_ []∧(jV pl up b2)∧(∀c,lL pl up a2 b2 c→lL pl up a2 b1 c)∧(b2=b1∨pl b2<pl b1)) (n:=_) ⟨b1,rfl,fr.kp [0,1,2,3],nt,jU,fun _ h=>h,.inl rfl⟩ ?_;clear fr aC nt;rintro n aC w21 ⟨b2,rfl,fr,lJ,uV,hc3,hd3⟩;revert aC;refine ba<|ba ?_;obtain⟨Bgu,QbT⟩:∃B:Bool,B=decide ((pl b2)>(pl a2)):=⟨_,rfl⟩;refine da [0,1,2,3] ?_;intro aC fr;refine l9 (bo [eS (some EK) n ca,eI b2,eA EK (b2) 1,eI (pl b2),eS (some EK) n ca,eI a2,eA EK (a2) 1,eI (pl a2),eB Bgu]) fr (la (pF lz (dL (aZ g5) _ fun w_ hK=>(ae ((lJ.aw hK).ro h5) rfl)) dP (dI (h0:=(k0.Dy b2 uV.1).1) (h1:=(k0.Dy b2 uV.1).2) EK n 1 b2) (dL (aN EK (b2) 1) _ fun w_ hK=>(bJ ((lJ.aw hK).ro hA) rfl (k0.at0 uV))) (dL (aZ g5) _ fun w_ hK=>(ae ((lJ.aw hK).ro h5) rfl)) dP (dI (h0:=(k0.Dy a2 Aw.1).1) (h1:=(k0.Dy a2 Aw.1).2) EK n 1 a2) (dL (aN EK (a2) 1) _ fun w_ hK=>(bJ ((lJ.aw hK).ro hA) rfl (k0.at0 Aw)))) (dC (decide ((pl b2)>(pl a2))) QbT)) ?_;intro aC w29 vs hK hv fr;revert aC;refine bX [(0,vI a2),(1,vI b2),(2,pT g5 0),(3,pT g6 0),(31,vB Bgu)] ?_;have xn:=lJ.aw hK;clear hK hv fr aC lJ;clear vs;cases Bgu;have cgu:¬((pl b2)>(pl a2)):=of_decide_eq_false QbT.symm;refine fT<|eW 4<|eX ?_;intro aC fr;exact⟨(pl a2+pl b2).toNat,QJ k0 Mr Aw uV cne hd2 hd3 cgt cgu,a2,b2,rfl,fr.kp [0,1,2,3],xn,Aw,uV,fun c h=>hc1 c (hc2 c (hc3 c h))⟩;have cgu:(pl b2)>(pl a2):=of_decide_eq_true QbT.symm;refine fm<|bP<|cr 5<|cG<|bt (aZ g6) _ (ae (xn.ro h6) rfl)<|ah 1<|ej (h0:=(k0.Dy b2 uV.1).1) (h1:=(k0.Dy b2 uV.1).2) O1 n 1 b2<|bt (aN O1 (b2) 1) _ (bJ (xn.ro hB) rfl (k0.up0 uV))<|ah 1<|ay ?_;have dt:=k0.ne0 Aw cgu;obtain⟨qe,BA⟩:=k0.ok.low b2 uV dt;have hl0:=qe.1;intro aC fr;exact⟨(pl (up b2)).toNat,oM,up b2,rfl,fr.kp [0,1,2,3],xn,qe,fun c h=>hc3 c (.right cgu h),.inr (by rcases hd3 with hd3|hd3<;>(try subst hd3)<;>omega)⟩;have cgt:(pl a2)>(pl b1):=of_decide_eq_true QbS.symm;refine fm<|bP<|cr 3<|cG<|bt (aZ g6) _ (ae (nt.ro h6) rfl)<|ah 1<|ej (h0:=(k0.Dy a2 Aw.1).1) (h1:=(k0.Dy a2 Aw.1).2) O1 n 1 a2<|bt (aN O1 (a2) 1) _ (bJ (nt.ro hB) rfl (k0.up0 Aw))<|ah 1<|ay ?_;have dt:=k0.ne0 jU cgt;obtain⟨qe,BA⟩:=k0.ok.low a2 Aw dt;have hl0:=qe.1;intro aC fr;exact⟨(pl (up a2)).toNat,oM,up a2,rfl,fr.kp [0,1,2,3],nt,qe,fun c h=>hc2 c (.left cgt h),.inr (by rcases hd2 with hd2|hd2<;>(try subst hd2)<;>omega)⟩
end Go.Proofs.YtejbeeaomokjpaaGreat
namespace Go.Mor
open Go.RowKit
theorem je(bs:List SB):(aH bs).length≤bs.length:=by
 unfold aH;split
 ·simp
 ·rw[List.length_reverse];exact Mb oM
theorem Dz{bs:List SB}{k:Nat}(hk:k<(aH bs).length):∃bi:Nat,(aH bs)[k]?=some (bi:Int)∧bi<bs.length∧iz bs (bi:Int)=(k:Int):=by
 have hl:=je bs;have ho:=nv (bs:=bs) oM;have hg:(aH bs)[k]?=some (aH bs)[k]:=List.getElem?_eq_getElem hk;have hr:=ny oM ((ho.mem _).1 (List.mem_of_getElem? hg));obtain⟨q,hq⟩:=Int.eq_ofNat_of_zero_le hr.1;rw[hq]at hg;exact⟨q,hg,oM,mV ho.nodup hg⟩
theorem QL{bs:List SB}{j:Nat}(hk:j+1<(aH bs).length):∃bi:Nat,((aH bs).drop 1)[j]?=some (bi:Int)∧bi<bs.length∧iz bs (bi:Int)=(j:Int)+1:=by
 obtain⟨bi,h1,h2,h3⟩:=Dz hk;exact⟨bi,by rw[List.getElem?_drop,Nat.add_comm];exact h1,h2,oM⟩
theorem WC{w:World}{ad:Addr}{l:af}(h:(bx.rd (some ad) (ints l)).holds w):(bx.rd (some (ad.add (1*1))) (ints (l.drop 1))).holds w:=by
 have:=VI h 1;simpa[ints]using this
theorem DA(bs:List SB){l:af}(h:cy bs.length l (fun _=> -1)):cy bs.length l (uZ ((aH bs).take 0)):=h.congr (fun i _=>(Dx sI).symm)
theorem FC{bs:List SB}{l:af}{k bi:Nat}(h:cy bs.length l (uZ ((aH bs).take k)))(hk:(aH bs)[k]?=some (bi:Int))(hb:bi<bs.length):cy bs.length (l.set bi (k:Int)) (uZ ((aH bs).take (k+1))):=by
 have eV:=(List.getElem?_eq_some_iff.1 hk).1;have hl:=je bs;have ho:=nv (bs:=bs) oM;refine h.set hb ?_ fun j _ dt=> ?_
 ·rw[FB ho.nodup hk,if_pos rfl]
 ·rw[FB ho.nodup hk,if_neg oM]
theorem Ix{bs:List SB}{l:af}{k:Nat}(h:cy bs.length l (uZ ((aH bs).take k)))(hk:(aH bs).length≤k):cy bs.length l (iz bs):=by
 rw[List.take_of_length_le hk]at h;exact h
theorem iE{l:af}{q:Nat}{x:Int}(h:l[q]?=some x):l.take (q+1)=l.take q++[x]:=by
 obtain⟨eV,he⟩:=List.getElem?_eq_some_iff.1 h;rw[List.take_succ_eq_append_getElem eV,he]
theorem xt{bs:List SB}{b:Int}{q:Nat}(h:q<(bG bs b).length):∃si:Nat,(bG bs b)[q]?=some (si:Int)∧si<bs.length:=by
 have h1:=Fy (List.getElem_mem h);obtain⟨k,he⟩:=Int.eq_ofNat_of_zero_le h1.1;exact⟨k,by rw[List.getElem?_eq_getElem h,he],oM⟩
theorem WD{bs:List SB}(h:0<bs.length){b:Int}:∀s,0≤iz bs s→(s∈bG bs b↔b∈tg bs s):=fun s hs=>by
 rw[tJ];exact⟨fun h=>h.2,fun hb=>⟨kk h hs,hb⟩⟩
theorem QM(bs:List SB)(x:Int):iz bs x<(aH bs).length:=QbQ
theorem QN{bs:List SB}{up:Int→Int}{ab:af}{k:Nat}{j:Int}(hr:0<bs.length→Dw (tg bs) (iz bs) up k 0)(hk:1≤k)(hs:Mp (tg bs) (iz bs) up j)(hj:∀x,iz bs x≤j)(OZ:cy bs.length ab up):ab=fo bs:=by
 rcases Nat.eq_zero_or_pos bs.length with h0|h0
 ·have e1:ab=[]:=List.eq_nil_of_length_eq_zero (by rw[OZ.1,h0]);have e2:fo bs=[]:=List.eq_nil_of_length_eq_zero (by simp[fo,qi,j4,h0]);rw[e1,e2]
 ·exact Mq h0 (hr h0) hk hs hj OZ
theorem QO{n k:Nat}{b:Bool}(hf:n+2≤k→b=false)(h:b=true):k+1≤n+2:=by
 by_cases h8:n+2≤k
 ·rw[hf h8]at h;cases h
 ·omega
theorem FD(bs:List SB):(fo bs).length=bs.length:=by simp[fo,qi,j4]
theorem WE(bs:List SB):(EJ bs).length=bs.length:=by simp[EJ]
theorem Dw.keep{bs:List SB}{up:Int→Int}{k:Nat}{j b to:Int}(h:Dw (tg bs) (iz bs) up k j)(hb:iz bs b=j+1)(hto:0≤to)(he:up b=to)(ha:∀s,jV (iz bs) up s→b∈tg bs s→hU up s to):∀s,0≤iz bs s→b∈tg bs s→hU up s (up b):=by
 intro s hs hx;rw[he];refine ha s ⟨hs,?_⟩ hx;by_cases e:s=0
 ·exact .inl e
 ·refine .inr (h.some s hs e (.inr ?_));by_cases hk:k=0
  ·have:=h.non hk b oM;omega
  ·omega
end Go.Mor
namespace Go.Mor
open Go.RowKit
structure DB(bs:List SB)(up:Int→Int):Prop where
 of:cy bs.length (fo bs) up
 ok:Up (tg bs) (iz bs) up
 It:∀x,0≤iz bs x→jV (iz bs) up x
 off:∀x,(iz bs x<0∨x=0)→up x= -1
 dm:∀x d,hU up x d→Dm (tg bs) d x
def Qab(bs:List SB):Prop:=0<bs.length→∃up,DB bs up
theorem QbU{bs:List SB}{up:Int→Int}{ab:af}{k:Nat}{j:Int}(hr:0<bs.length→Dw (tg bs) (iz bs) up k 0)(hk:1≤k)(hs:Mp (tg bs) (iz bs) up j)(hj:∀x,iz bs x≤j)(OZ:cy bs.length ab up):Qab bs:=by
 intro h0;have LO:=hr h0;refine⟨up,QN hr hk hs hj OZ▸OZ,LO.ok,fun x h=>⟨h,?_⟩,LO.off,fun x d h=>hs.dm (iC h0) hj h⟩;by_cases e:x=0
 ·exact .inl e
 ·exact .inr (LO.some x h e (.inr hk))
end Go.Mor
namespace Go.Proofs.YtejbeeaomokjpaaGreat
open Go.Mor
theorem QbV(nm wk pa va:Value)(A:ar)(c:Nat)(bs:List SB)(w:World)(hm:bs.length≤1000000)(hA:RO bq w (.blocks A bs)):Calls Tryz.prog 110 #[(.agg #[nm,wk,pa,va,vS A bs.length c])] w (ez fun v w'=>∃A1 c1 A2 c2,v= .tuple #[.slice A1 bs.length c1,.slice A2 bs.length c2]∧Qab bs∧Mem bq w w' [.row 3 1 A1 bs.length c1 (ints (fo bs)),.row 3 1 A2 bs.length c2 (ints (EJ bs))]):=by
 refine fv 112 [(.agg #[nm,wk,pa,va,vS A bs.length c])] Tryz.func110 ?_;have hM:=Mem.init w;refine aI<|ou hM 30 (.agg #[nm,wk,pa,va,vS A bs.length c]) [nm,wk,pa,va,vS A bs.length c] fun b1 w2 jU M3=> ?_
 replace M3:=M3.nf;clear hM;refine ah 2<|ay<|aI<|ga (aZ b1) [nm,wk,pa,va,vS A bs.length c] (aW (M3.get 0 rfl))<|di (vs:=#[(.agg #[nm,wk,pa,va,vS A bs.length c])]) (Dp _ _ _ _ A c bs w2 hm (hA.at_ M3)) ?_;rintro _ w6 ⟨A4,c5,rfl,M7x⟩;have M7:=M3.cl M7x;refine ah 1<|ay<|aI<|ah 1<|bt (ao b1 4) _ (ae (M7.get 0 rfl) rfl)<|ah 1 ?_;intro aC fr;refine P6 23 43 (.tmp 22) (.tmp 22) 43 fr (e:=3) (bytes:=8) (z:=(vI 0)) (n:=bs.length) (i:=(bs.length:Int)) oM (by simp only[maxLen];omega) M7 ?_;intro b8 w9 hb8 _ jw _ aC ea fr;clear ea;replace jw:=jw.nf;revert aC;refine na jw 43 [an] fun jx OT QeS kK=> ?_
 replace kK:=kK.nf;refine pC kK 3 0 (vS (sM b8) bs.length bs.length) rfl fun w18 mR=> ?_
 replace mR:=mR.nf;refine ay<|aI<|ah 1<|bt (ao b1 4) _ (ae (mR.get 0 rfl) rfl)<|ah 1 ?_;intro aC fr;refine P6 27 43 (.tmp 26) (.tmp 26) 43 fr (e:=3) (bytes:=8) (z:=(vI 0)) (n:=bs.length) (i:=(bs.length:Int)) oM (by simp only[maxLen];omega) mR ?_;intro gG w21 Qh5 _ lJ _ aC ea fr;clear ea;replace lJ:=lJ.nf;revert aC;refine na lJ 43 [an] fun xu OU hb27 jy=> ?_
 replace jy:=jy.nf;refine da [1,4,5,6,27]<|pC jy 5 0 (vS (sM gG) bs.length bs.length) rfl fun w30 s8=> ?_
 replace s8:=s8.nf;refine ay<|ba<|aI<|bt (aZ jx) _ (ae (s8.get 3 rfl) rfl)<|ah 2<|ay<|cr 0 ?_;intro aC fr;refine fk (fun n_ a_ w_=>∃(i:Nat) (m1:af) (m2:af),n_=bs.length-i∧Fr a_ 112 [(1,pT b1 0),(4,vS A4 ((aH bs).length) c5),(5,pT jx 0),(6,pT xu 0),(29,(vI (bs.length:Int))),(30,nV i)]∧Mem bq w w_ [.aB b1 30 [nm,wk,pa,va,vS A bs.length c],.row 3 1 A4 ((aH bs).length) c5 (ints (aH bs)),.row 3 1 (sM b8) bs.length bs.length (ints m1),.aB jx 43 [vS (sM b8) bs.length bs.length],.row 3 1 (sM gG) bs.length bs.length (ints m2),.aB xu 43 [vS (sM gG) bs.length bs.length]]∧(i≤bs.length)∧(cy bs.length m1 (rN i))∧(cy bs.length m2 (rN i))) (n:=_) ⟨0,List.replicate bs.length 0,List.replicate bs.length 0,rfl,fr.kp [1,4,5,6,29,30],(s8.cast (by simp[ints])),oM,yv _,yv _⟩ ?_;clear fr aC s8;rintro n aC w34 ⟨i,m1,m2,rfl,fr,ma,hi,h1,h2⟩;revert aC;refine aI<|jP (decide ((i:Int)<(bs.length:Int))) fun Bi hBi=> ?_
 refine ay<|ba ?_;cases Bi;have ci:¬((i:Int)<(bs.length:Int)):=of_decide_eq_false hBi.symm;refine fT<|eW 0<|eX<|ba<|aX<|cr 2 ?_;have hol:=je bs;intro aC fr;refine fk (fun n_ a_ w_=>∃(k:Nat) (m3:af),n_=(aH bs).length-k∧Fr a_ 112 [(1,pT b1 0),(4,vS A4 ((aH bs).length) c5),(5,pT jx 0),(6,pT xu 0),(40,vS A4 ((aH bs).length) c5),(41,(vI ((aH bs).length:Int))),(42,nV k)]∧Mem bq w w_ [.aB b1 30 [nm,wk,pa,va,vS A bs.length c],.row 3 1 A4 ((aH bs).length) c5 (ints (aH bs)),.row 3 1 (sM b8) bs.length bs.length (ints m3),.aB jx 43 [vS (sM b8) bs.length bs.length],.row 3 1 (sM gG) bs.length bs.length (ints m2),.aB xu 43 [vS (sM gG) bs.length bs.length]]∧(k≤(aH bs).length)∧(cy bs.length m3 (uZ ((aH bs).take k)))) (n:=_) ⟨0,m1,rfl,fr.kp [1,4,5,6,40,41,42],ma,oM,DA bs (FA h1 oM)⟩ ?_;clear fr aC ma;rintro n aC w40 ⟨k,m3,rfl,fr,rr,hk,h3⟩;revert aC;refine aI<|jP (decide ((k:Int)<((aH bs).length:Int))) fun Bk Qu=> ?_
 refine ay<|ba ?_;cases Bk;have ck:¬((k:Int)<((aH bs).length:Int)):=of_decide_eq_false Qu.symm;refine fT<|eW 2<|eX<|aI ?_;have HG:=Ix h3 oM;have Qh6:=FA h2 oM;refine ga (aZ b1) [nm,wk,pa,va,vS A bs.length c] (aW (rr.get 0 rfl))<|di (vs:=#[(.agg #[nm,wk,pa,va,vS A bs.length c])]) (QC _ _ _ _ A c bs w40 hm (hA.at_ rr)) ?_;rintro _ w47 ⟨vK,Qz,u3,rfl,QP,QbW⟩;have yt:=rr.cl QbW;refine ah 1<|ay<|aX<|ba<|aX<|cr 4 ?_;intro aC fr;refine fk (fun n_ a_ w_=>∃(k:Nat) (ab:af) (up:Int→Int) (Bt:Bool),n_=bs.length+3-k∧Fr a_ 112 [(4,vS A4 ((aH bs).length) c5),(5,pT jx 0),(6,pT xu 0),(10,vS vK bs.length Qz),(11,(.func (.func 128) #[] #[pT jx 0,pT xu 0])),(12,vB Bt)]∧Mem bq w w_ [.aB b1 30 [nm,wk,pa,va,vS A bs.length c],.row 3 1 A4 ((aH bs).length) c5 (ints (aH bs)),.row 3 1 (sM b8) bs.length bs.length (ints m3),.aB jx 43 [vS (sM b8) bs.length bs.length],.row 3 1 (sM gG) bs.length bs.length (ints ab),.aB xu 43 [vS (sM gG) bs.length bs.length],.gU 3 u3,.row 43 1 vK bs.length Qz (gq u3)]∧(cy bs.length ab up)∧(0<bs.length→Dw (tg bs) (iz bs) up k 0)∧(Bt=false→1≤k∧∃j,Mp (tg bs) (iz bs) up j∧∀x,iz bs x≤j)∧(Bt=true→k≤bs.length+2)) (n:=_) ⟨0,m2,fun _=> -1,true,rfl,fr.kp [4,5,6,10,11,12],yt,Qh6,fun h=>Dw.start (iC h),fun h=>Bool.noConfusion h,fun _=>oM⟩ ?_;clear fr aC yt;rintro n aC w51 ⟨k,ab,up,Bt,rfl,fr,Av,QbX,hhd,Qh7,Qh8⟩;revert aC;refine ba<|aX ?_;cases Bt;refine fT<|eW 4<|eX<|ba ?_;obtain⟨hk1,jj,hs1,WG⟩:=Qh7 rfl;have Ai:=QbU hhd hk1 hs1 WG QbX;obtain rfl:=QN hhd hk1 hs1 WG QbX;obtain rfl:=HG.ext (QH bs);refine da [4,5,6,10,11,55] ?_;intro aC fr;refine l9 (bo [eS (sM gG) bs.length bs.length,eS (sM b8) bs.length bs.length,eS (sM gG) bs.length bs.length,eS (sM b8) bs.length bs.length]) fr (la (kV lz (dL (aZ xu) _ fun w_ hK=>(ae ((Av.aw hK).get 5 rfl) rfl)) (dL (aZ jx) _ fun w_ hK=>(ae ((Av.aw hK).get 3 rfl) rfl)) dP) dP) ?_;intro aC w59 vs hK hv fr;revert aC;refine bX [(2,vS (sM gG) bs.length bs.length),(3,vS (sM b8) bs.length bs.length)] ?_;have uW:=Av.aw hK;clear hK hv fr aC Av;clear vs;refine bL<|iv (vS (sM gG) bs.length bs.length) (vS (sM b8) bs.length bs.length) ?_;have M61:=uW.od [2,4] 2;exact⟨_,_,_,_,rfl,Ai,M61⟩;refine fm<|bP<|cr 5<|aX<|aI<|ah 3 ?_;intro aC fr;obtain⟨m0,hm0⟩:∃m0:Nat,m0=min 1 (aH bs).length:=⟨_,rfl⟩;refine x6 (kR:ax _ 3=some (some 59,(.call {callee:=(.builtin .min),args:=#[.const (vI 1),.tmp 58],argTypes:=#[3,3]}),3,none)) fr kR kR (k':=4) rfl (kd:= .i64) (i:=1) (j:=((aH bs).length:Int)) kR kR (m0:Int) (by split<;>omega) ?_;intro aC ea fr;clear ea;refine jA (kR:ax _ 4=some (some 60,.slice 43 (.tmp 56) (some (.tmp 59)) none none,43,none)) fr kR kR (k':=5) rfl (A:=A4) (n:=(aH bs).length) (cap:=c5) (e:=3) (size:=1) (kd:= .i64) (i:=(m0:Int)) m0 kR kR rfl kR kR oM ?_;intro aC ea fr;clear ea;obtain⟨A60,Qe0⟩:∃A60,A60=(if c5=m0 then A4 else A4.map (fun y=>y.add (m0*1))):=⟨_,rfl⟩;revert aC;refine da [4,5,6,10,11,12,60] ?_;intro aC fr;rw[←Qe0]at fr;revert aC;refine ah 2<|ay<|cr 6 ?_;intro aC fr;refine fk (fun n_ a_ w_=>∃(j:Nat) (Vc:af) (yw:Int→Int) (Bt2:Bool),n_=(aH bs).length-m0-j∧Fr a_ 112 [(4,vS A4 ((aH bs).length) c5),(5,pT jx 0),(6,pT xu 0),(10,vS vK bs.length Qz),(11,(.func (.func 128) #[] #[pT jx 0,pT xu 0])),(12,vB Bt2),(60,vS A60 ((aH bs).length-m0) (c5-m0)),(61,(vI ((((aH bs).length-m0):Nat):Int))),(62,nV j)]∧Mem bq w w_ [.aB b1 30 [nm,wk,pa,va,vS A bs.length c],.row 3 1 A4 ((aH bs).length) c5 (ints (aH bs)),.row 3 1 (sM b8) bs.length bs.length (ints m3),.aB jx 43 [vS (sM b8) bs.length bs.length],.row 3 1 (sM gG) bs.length bs.length (ints Vc),.aB xu 43 [vS (sM gG) bs.length bs.length],.gU 3 u3,.row 43 1 vK bs.length Qz (gq u3)]∧(j≤(aH bs).length-m0)∧(cy bs.length Vc yw)∧(0<bs.length→Dw (tg bs) (iz bs) yw k (j:Int))∧(Bt2=false→Mp (tg bs) (iz bs) yw (j:Int))∧(bs.length+2≤k→Bt2=false)) (n:=_) ⟨0,ab,up,false,rfl,fr.kp [4,5,6,10,11,12,60,61,62],Av,oM,QbX,hhd,fun _=>Mp.start,fun _=>rfl⟩ ?_;clear fr aC Av;rintro n aC w72 ⟨j,Vc,yw,Bt2,rfl,fr,Dq,hj,BO,yx,rZ,hfu⟩;revert aC;refine aI<|jP (decide ((j:Int)<((((aH bs).length-m0):Nat):Int))) fun Bj hBj=> ?_
 refine ay<|ba ?_;cases Bj;have cj:¬((j:Int)<((((aH bs).length-m0):Nat):Int)):=of_decide_eq_false hBj.symm;refine fT<|eW 6<|eX ?_;intro aC fr;exact⟨bs.length+3-(k+1),by have:=Qh8 rfl;omega,k+1,Vc,yw,Bt2,rfl,fr.kp [4,5,6,10,11,12],Dq,BO,fun h=>(yx h).Qh3 (iC h) (fun x=>by have:=QM bs x;omega),fun h=>⟨oM,_,rZ h,fun x=>by have:=QM bs x;omega⟩,fun h=>QO hfu h⟩;have cj:(j:Int)<((((aH bs).length-m0):Nat):Int):=of_decide_eq_true hBj.symm;refine fm<|bP<|ba<|cr 7<|aI ?_;obtain⟨go,rfl⟩:=df (Dq.get 1 rfl) oM;have hco:=pR (Dq.get 1 rfl);obtain rfl:A60=some ((aZ go).add (1*1)):=by rw[Qe0,if_neg oM,show m0=1 by omega];rfl
 obtain⟨bi,hbj,Ml,hpb⟩:=QL (bs:=bs) (j:=j) oM;have U9:0<bs.length:=oM;have hP:=iC U9;have Ms:=yx U9;have wF:(bi:Int)≠0:=by intro e;rw[e,hP.zero]at hpb;omega
 have hrg:∀x,0≤iz bs x→0≤x:=fun x hx=>(kk U9 hx).1
 obtain⟨Ab,cb,FE⟩:=QP.get (lK Ml);have U7:(bG bs (bi:Int)).length≤bs.length:=fR bs _ _;have k0:WB (tg bs) (iz bs) yw bs.length m3 Vc:=⟨hP,Ms.ok,fun x hx=>kk U9 hx,HG,BO⟩;refine ej ((aZ go).add (1*1)) ((aH bs).length-m0) 1 (j:Int)<|bt ((((aZ go).add (1*1)):Addr).add (((j:Int)).toNat*1)) _ (fx (WC (aD (Dq.get 1 rfl))) rfl hbj)<|ah 1<|ay<|aX<|ba<|aI<|ah 2 ?_;obtain⟨g79,rfl⟩:=df (Dq.get 7 rfl) oM;refine ej (aZ g79) bs.length 1 (bi:Int)<|bt (aN (aZ g79) (bi:Int) 1) _ (bJ (aD (Dq.get 7 rfl)) rfl (ir FE))<|ah 2<|ay<|cr 8 ?_;intro aC fr;refine fk (fun n_ a_ w_=>∃(q:Nat) (to:Int),n_=(bG bs (bi:Int)).length-q∧Fr a_ 112 [(4,vS (sM go) ((aH bs).length) c5),(5,pT jx 0),(6,pT xu 0),(10,vS (sM g79) bs.length Qz),(11,(.func (.func 128) #[] #[pT jx 0,pT xu 0])),(12,vB Bt2),(14,nV bi),(15,vI to),(60,vS (some ((aZ go).add (1*1))) ((aH bs).length-m0) (c5-m0)),(61,(vI ((((aH bs).length-m0):Nat):Int))),(62,nV j),(69,(vS Ab ((bG bs (bi:Int)).length) cb)),(70,(vI ((bG bs (bi:Int)).length:Int))),(71,nV q)]∧Mem bq w w_ [.aB b1 30 [nm,wk,pa,va,vS A bs.length c],.row 3 1 (sM go) ((aH bs).length) c5 (ints (aH bs)),.row 3 1 (sM b8) bs.length bs.length (ints m3),.aB jx 43 [vS (sM b8) bs.length bs.length],.row 3 1 (sM gG) bs.length bs.length (ints Vc),.aB xu 43 [vS (sM gG) bs.length bs.length],.gU 3 u3,.row 43 1 (sM g79) bs.length Qz (gq u3)]∧(q≤(bG bs (bi:Int)).length)∧(Fold (tg bs) (iz bs) yw ((bG bs (bi:Int)).take q) to)) (n:=_) ⟨0,-1,rfl,fr.kp [4,5,6,10,11,12,14,15,60,61,62,69,70,71],Dq,oM,Fold.start⟩ ?_;clear fr aC Dq;rintro n aC w82 ⟨q,to,rfl,fr,n8,hq,DD⟩;revert aC;refine aI<|jP (decide ((q:Int)<((bG bs (bi:Int)).length:Int))) fun Bq hBq=> ?_
 refine ay<|ba ?_;cases Bq;have cq:¬((q:Int)<((bG bs (bi:Int)).length:Int)):=of_decide_eq_false hBq.symm;refine fT<|eW 8<|eX<|aI ?_;rw[List.take_of_length_le oM]at DD;obtain⟨k1,k2,k3,k4,k5,k6⟩:=Ms.step hP hrg oM hpb (WD U9) DD;refine bt (aZ xu) _ (ae (n8.get 5 rfl) rfl)<|ah 1<|ej (aZ gG) bs.length 1 (bi:Int)<|bt (aN (aZ gG) (bi:Int) 1) _ (bJ (aD (n8.get 4 rfl)) rfl (BO.at_ oM oM))<|ah 1<|jP ((yw (bi:Int)) !=to) fun Bch Qe1=> ?_
 refine ay ?_;cases Bch;have cch:¬((yw (bi:Int))≠to):=znn Qe1;have k7:Dw (tg bs) (iz bs) yw k ((j+1:Nat):Int):=by have:=k6;rw[show to=yw (bi:Int)by omega,QE]at this;exact this
 refine fT<|bP<|cG<|cZ ((j:Int)+1)<|ah 1<|ay ?_;intro aC fr;exact⟨(aH bs).length-m0-(j+1),oM,j+1,Vc,yw,Bt2,rfl,fr.kp [4,5,6,10,11,12,60,61,62],n8,oM,BO,fun _=>k7,fun h=>(rZ h).next hP hpb (Ms.keep hpb k1 oM k4),hfu⟩;have cch:(yw (bi:Int))≠to:=bne_iff_ne.1 Qe1.symm;refine fm<|aI<|bt (aZ xu) _ (ae (n8.get 5 rfl) rfl)<|ah 2<|ej (aZ gG) bs.length 1 (bi:Int)<|yc n8 4 (aN (aZ gG) (bi:Int) 1) (((bi:Int)).toNat*1) (vI to) rfl rfl oM fun w88 WH=> ?_
 replace WH:=WH.nf;refine ay<|xh<|cG<|cZ ((j:Int)+1)<|ah 1<|ay ?_;intro aC fr;exact⟨(aH bs).length-m0-(j+1),oM,j+1,Vc.set bi to,sx yw (bi:Int) to,true,rfl,fr.kp [4,5,6,10,11,12,60,61,62],(WH.cast (by rw[ints_set];simp only[Int.toNat_natCast,Nat.mul_one])),oM,BO.set Ml uY (fun q _ dt=>mU oM),fun _=>k6,fun h=>Bool.noConfusion h,fun h=>absurd (Ms.full hP (fun x hx=>ny U9 hx) h oM wF k2 k3 k4 k5) cch⟩;have cq:(q:Int)<((bG bs (bi:Int)).length:Int):=of_decide_eq_true hBq.symm;refine fm<|bP<|ba<|cr 9<|aI ?_;obtain⟨si,zS,hsn⟩:=xt (bs:=bs) (b:=(bi:Int)) (q:=q) oM;obtain⟨Qe2,rfl⟩:=rd_some (oD (n8.get 6 rfl) FE) (by simp;omega);refine ej Qe2 ((bG bs (bi:Int)).length) 1 (q:Int)<|bt (aN Qe2 (q:Int) 1) _ (fx (oD (n8.get 6 rfl) FE) rfl zS)<|ah 1<|ay<|ba<|aI<|bt (aZ jx) _ (ae (n8.get 3 rfl) rfl)<|ah 1<|ej (aZ b8) bs.length 1 (si:Int)<|bt (aN (aZ b8) (si:Int) 1) _ (bJ (aD (n8.get 2 rfl)) rfl (HG.at_ oM oM))<|jP (decide ((iz bs (si:Int))<0)) fun Bpl Qe3=> ?_
 refine ah 1 ?_;cases Bpl;have cpl:¬((iz bs (si:Int))<0):=of_decide_eq_false Qe3.symm;refine ah 1<|jP ((si:Int) !=0) fun Bs0 Qe4=> ?_
 refine ah 1 ?_;cases Bs0;have cs0:¬((si:Int)≠0):=znn Qe4;have DE:jV (iz bs) yw (si:Int):=⟨oM,.inl oM⟩;refine ah 7<|ay<|fT<|bP<|aI<|ah 1<|jP (decide (to<0)) fun Bto QQ=> ?_
 refine da [4,5,6,10,11,12,14,15,17,60,61,62,69,70,71,92]<|ay ?_;cases Bto;have cto:¬(to<0):=of_decide_eq_false QQ.symm;refine fT<|cG<|ah 3<|di (QK jx xu (aZ b8) (aZ gG) bs.length bs.length bs.length m3 Vc (tg bs) (iz bs) yw to (si:Int) w82 hm (n8.cK 3 rfl) (n8.cK 5 rfl) (RO.aD (n8.cK 2 rfl)) (RO.aD (n8.cK 4 rfl)) k0 (DD.It oM) DE) ?_;rintro _ w93 ⟨cm,rfl,zR,Qh9⟩;have Iy:=n8.cl Qh9;refine ah 1<|ay<|cG<|cZ ((q:Int)+1)<|ah 1<|ay ?_;intro aC fr;exact⟨(bG bs (bi:Int)).length-(q+1),oM,q+1,cm,rfl,fr.kp [4,5,6,10,11,12,14,15,60,61,62,69,70,71],Iy,oM,by rw[iE zS];exact DD.meet hP Ms.ok oM DE zR⟩;have cto:to<0:=of_decide_eq_true QQ.symm;refine fm<|xh<|cG<|cZ ((q:Int)+1)<|ah 1<|ay ?_;intro aC fr;exact⟨(bG bs (bi:Int)).length-(q+1),oM,q+1,(si:Int),rfl,fr.kp [4,5,6,10,11,12,14,15,60,61,62,69,70,71],n8,oM,by rw[iE zS];exact DD.first cto hrg DE⟩;have cs0:(si:Int)≠0:=bne_iff_ne.1 Qe4.symm;refine bt (aZ xu) _ (ae (n8.get 5 rfl) rfl)<|ah 1<|ej (aZ gG) bs.length 1 (si:Int)<|bt (aN (aZ gG) (si:Int) 1) _ (bJ (aD (n8.get 4 rfl)) rfl (BO.at_ oM oM))<|da [4,5,6,10,11,12,14,15,17,60,61,62,69,70,71,80,83,87]<|jP (decide ((yw (si:Int))<0)) fun Bup Qe5=> ?_
 refine ah 2<|ay ?_;cases Bup;have cup:¬((yw (si:Int))<0):=of_decide_eq_false Qe5.symm;have DE:jV (iz bs) yw (si:Int):=⟨oM,.inr oM⟩;refine fT<|bP<|aI<|ah 1<|jP (decide (to<0)) fun Bto QQ=> ?_
 refine ay ?_;cases Bto;have cto:¬(to<0):=of_decide_eq_false QQ.symm;refine fT<|cG<|ah 3<|di (QK jx xu (aZ b8) (aZ gG) bs.length bs.length bs.length m3 Vc (tg bs) (iz bs) yw to (si:Int) w82 hm (n8.cK 3 rfl) (n8.cK 5 rfl) (RO.aD (n8.cK 2 rfl)) (RO.aD (n8.cK 4 rfl)) k0 (DD.It oM) DE) ?_;rintro _ w99 ⟨cm,rfl,zR,Qe6⟩;have Iz:=n8.cl Qe6;refine ah 1<|ay<|cG<|cZ ((q:Int)+1)<|ah 1<|ay ?_;intro aC fr;exact⟨(bG bs (bi:Int)).length-(q+1),oM,q+1,cm,rfl,fr.kp [4,5,6,10,11,12,14,15,60,61,62,69,70,71],Iz,oM,by rw[iE zS];exact DD.meet hP Ms.ok oM DE zR⟩;have cto:to<0:=of_decide_eq_true QQ.symm;refine fm<|xh<|cG<|cZ ((q:Int)+1)<|ah 1<|ay ?_;intro aC fr;exact⟨(bG bs (bi:Int)).length-(q+1),oM,q+1,(si:Int),rfl,fr.kp [4,5,6,10,11,12,14,15,60,61,62,69,70,71],n8,oM,by rw[iE zS];exact DD.first cto hrg DE⟩;have cup:(yw (si:Int))<0:=of_decide_eq_true Qe5.symm;have hnp:¬jV (iz bs) yw (si:Int):=fun h=>h.2.elim cs0 (fun h=>oM)
 refine fm<|eW 9<|eX<|cG<|cZ ((q:Int)+1)<|ah 1<|ay ?_;intro aC fr;exact⟨(bG bs (bi:Int)).length-(q+1),oM,q+1,to,rfl,fr.kp [4,5,6,10,11,12,14,15,60,61,62,69,70,71],n8,oM,by rw[iE zS];exact DD.skip hnp⟩;have cpl:(iz bs (si:Int))<0:=of_decide_eq_true Qe3.symm;have hnp:¬jV (iz bs) yw (si:Int):=fun h=>by have:=h.1;omega
 refine ah 10<|ay<|fm<|eW 9<|eX<|cG<|cZ ((q:Int)+1)<|ah 1<|ay ?_;intro aC fr;exact⟨(bG bs (bi:Int)).length-(q+1),oM,q+1,to,rfl,fr.kp [4,5,6,10,11,12,14,15,60,61,62,69,70,71],n8,oM,by rw[iE zS];exact DD.skip hnp⟩;have ck:(k:Int)<((aH bs).length:Int):=of_decide_eq_true Qu.symm;refine fm<|bP<|ba<|cr 3<|aI ?_;obtain⟨bi,hbk,Ml,hpb⟩:=Dz (bs:=bs) (k:=k) oM;refine ah 1 ?_;obtain⟨Qe7,rfl⟩:=df (rr.get 1 rfl) oM;refine ej (aZ Qe7) ((aH bs).length) 1 (k:Int)<|bt (aN (aZ Qe7) (k:Int) 1) _ (fx (aD (rr.get 1 rfl)) rfl hbk)<|ah 2<|ay<|cG<|bt (aZ jx) _ (ae (rr.get 3 rfl) rfl)<|ah 2<|ej (aZ b8) bs.length 1 (bi:Int)<|yc rr 2 (aN (aZ b8) (bi:Int) 1) (((bi:Int)).toNat*1) (nV k) rfl rfl oM fun Qe8 DF=> ?_
 replace DF:=DF.nf;refine ay<|cG<|cZ ((k:Int)+1)<|ah 1<|ay ?_;intro aC fr;exact⟨(aH bs).length-(k+1),oM,k+1,m3.set bi (k:Int),rfl,fr.kp [1,4,5,6,40,41,42],(DF.cast (by rw[ints_set];simp only[Int.toNat_natCast,Nat.mul_one])),oM,FC h3 hbk Ml⟩;have ci:(i:Int)<(bs.length:Int):=of_decide_eq_true hBi.symm;refine fm<|bP<|ba<|cr 1<|aX<|da [1,4,5,6,7,29,30] ?_;intro aC fr;refine ED (bo [eS (sM b8) bs.length bs.length,.aU (nV i),eS (sM gG) bs.length bs.length,.aU (nV i),eA (aZ b8) (i:Int) 1,.aU undef,eA (aZ gG) (i:Int) 1,.aU undef]) (fun ls vs w_=>match ls 7 with|true=>(Mem bq w w_ [.aB b1 30 [nm,wk,pa,va,vS A bs.length c],.row 3 1 A4 ((aH bs).length) c5 (ints (aH bs)),.row 3 1 (sM b8) bs.length bs.length ((ints m1).set (((i:Int)).toNat*1) (vI (-1))),.aB jx 43 [vS (sM b8) bs.length bs.length],.row 3 1 (sM gG) bs.length bs.length ((ints m2).set (((i:Int)).toNat*1) (vI (-1))),.aB xu 43 [vS (sM gG) bs.length bs.length]])|false=>(match ls 5 with|true=>(Mem bq w w_ [.aB b1 30 [nm,wk,pa,va,vS A bs.length c],.row 3 1 A4 ((aH bs).length) c5 (ints (aH bs)),.row 3 1 (sM b8) bs.length bs.length ((ints m1).set (((i:Int)).toNat*1) (vI (-1))),.aB jx 43 [vS (sM b8) bs.length bs.length],.row 3 1 (sM gG) bs.length bs.length (ints m2),.aB xu 43 [vS (sM gG) bs.length bs.length]])|false=>(Mem bq w w_ [.aB b1 30 [nm,wk,pa,va,vS A bs.length c],.row 3 1 A4 ((aH bs).length) c5 (ints (aH bs)),.row 3 1 (sM b8) bs.length bs.length (ints m1),.aB jx 43 [vS (sM b8) bs.length bs.length],.row 3 1 (sM gG) bs.length bs.length (ints m2),.aB xu 43 [vS (sM gG) bs.length bs.length]]))) fr (eL (.aU (.aU (.aU (.aU (.aU (.aU (.aU (.aU .nil))))))))) (ma.aw (Mem.drew _)) (pF lz (mP (aZ jx) (vS (sM b8) bs.length bs.length) (fun _ _ _ _ h=>h) ?_) bM (mP (aZ xu) (vS (sM gG) bs.length bs.length) (fun _ _ _ _ h=>h) ?_) bM (yd (aZ b8) bs.length 1 (i:Int) fun _ _ _ _ h=>h) ?_ (yd (aZ gG) bs.length 1 (i:Int) fun _ _ _ _ h=>h) ?_) ?_;intro w_ ls vs hJ bI bH hp;have f5:=aR 5 8 bH bI;have f7:=aR 7 8 bH bI;have aO:=hJ;simp only[f5,f7]at aO;exact(ae (aO.get 3 rfl) rfl);intro w_ ls vs hJ bI bH hp;have f7:=aR 7 8 bH bI;have aO:=hJ;simp only[f7]at aO;cases fu:ls 5;simp only[fu]at aO;exact(ae (aO.get 5 rfl) rfl);simp only[fu]at aO;exact(ae (aO.get 5 rfl) rfl);intro ep w_ ls vs cL hJ bI bH hp hF;refine jv (g0:=none) ?_;replace hF:Fr ep 112 [(37,(vP (aN (aZ b8) (i:Int) 1)))]:=hF.kp [37];have f5:ls 5=false:=bI;have f7:=aR 7 8 bH bI;have aO:=hJ;simp only[f5,f7]at aO;refine ew (kR:ax _ 0=some (none,.store 3 (.tmp 37) (.const (vI (-1))),0,none)) hF kR kR (k':=1) rfl (ad:=(aZ b8)) (j:=(((i:Int)).toNat*1)) (e:=3) (size:=1) (n:=bs.length) (cap:=bs.length) (v:=(vI (-1))) (xs:=(ints m1)) (ad':=(aN (aZ b8) (i:Int) 1)) kR rfl kR kR rfl aO 2 rfl oM ?_;intro w2 dH _ a2 ea _;refine aL kR ?_;refine bu (d:=none) kR ea rfl ?_;show match ls 7 with|true=>_|false=>(_)
 rw[f7];exact dH;intro ep w_ ls vs cL hJ bI bH hp hF;refine jv (g0:=none) ?_;replace hF:Fr ep 112 [(38,(vP (aN (aZ gG) (i:Int) 1)))]:=hF.kp [38];have f5:=cN 5 8 bH hp;have f7:ls 7=false:=bI;have aO:=hJ;simp only[f5,f7]at aO;refine ew (kR:ax _ 0=some (none,.store 3 (.tmp 38) (.const (vI (-1))),0,none)) hF kR kR (k':=1) rfl (ad:=(aZ gG)) (j:=(((i:Int)).toNat*1)) (e:=3) (size:=1) (n:=bs.length) (cap:=bs.length) (v:=(vI (-1))) (xs:=(ints m2)) (ad':=(aN (aZ gG) (i:Int) 1)) kR rfl kR kR rfl aO 4 rfl oM ?_;intro w2 dH _ a2 ea _;refine aL kR ?_;refine bu (d:=none) kR ea rfl ?_;show _;exact dH;intro aC Qia ls vs cV Mt hv fr;simp only[show ls 7=true from cV 7 dQ]at Mt;revert aC;refine bX [(1,pT b1 0),(4,vS A4 ((aH bs).length) c5),(5,pT jx 0),(6,pT xu 0),(29,(vI (bs.length:Int))),(30,nV i)] ?_;clear cV hv fr aC ma;clear vs ls;refine cG<|cZ ((i:Int)+1)<|ah 1<|ay ?_;intro aC fr;exact⟨bs.length-(i+1),oM,i+1,m1.set i (-1),m2.set i (-1),rfl,fr.kp [1,4,5,6,29,30],(Mt.cast (by rw[ints_set,ints_set];simp only[Int.toNat_natCast,Nat.mul_one])),oM,BM h1 oM,BM h2 oM⟩
end Go.Proofs.YtejbeeaomokjpaaGreat
namespace Go.Proofs.YtejbeeaomokjpaaGreat
open Go.Mor
theorem WI(w:World):Calls Tryz.prog 135 #[vB true] w (ez fun v w'=>v=vI 1∧Mem bq w w' []):=by
 refine fv 4 [vB true] Tryz.func135 ?_;have hM:=Mem.init w;refine aX<|ba<|aX<|fm<|aX<|bL<|cv (vI 1) ?_;exact⟨rfl,hM⟩
theorem WJ(w:World):Calls Tryz.prog 135 #[vB false] w (ez fun v w'=>v=vI 0∧Mem bq w w' []):=by
 refine fv 4 [vB false] Tryz.func135 ?_;have hM:=Mem.init w;refine aX<|ba<|aX<|fT<|bP<|aX<|bL<|cv (vI 0) ?_;exact⟨rfl,hM⟩
theorem lM(b:Bool)(w:World):Calls Tryz.prog 135 #[.bool b] w (ez fun v w'=>v=vI (cO b)∧Mem bq w w' []):=by
 cases b
 ·exact WJ w
 ·exact WI w
theorem KL(b:Int)(w:World):Calls Tryz.prog 134 #[vI b] w (ez fun v w'=>v= .int .u64 (tC b)∧Mem bq w w' []):=by
 refine fv 6 [vI b] Tryz.func134 ?_;have hM:=Mem.init w;refine aX<|aI<|ah 1<|zcv (hz:=rfl) b .u64 (IntKind.u64.wrap b)<|Hx .u64 (tC b) 63<|ah 1<|ay<|bL<|cv (.int .u64 (tC b)) ?_;exact⟨rfl,hM⟩
theorem DG(b:Int):0≤tC b:=by
 unfold tC;have h:∀i:Int,0≤IntKind.u64.wrap i:=fun i=>by unfold IntKind.wrap;simp[IntKind.signed,IntKind.bits];omega
 exact h _
theorem yy(op a b:Int)(w:World):Calls Tryz.prog 133 #[vI op,vI a,vI b] w (ez fun v w'=>v= .tuple #[vI (jE op a b).1,vI (jE op a b).2]∧Mem bq w w' []):=by
 refine fv 32 [vI op,vI a,vI b] Tryz.func133 ?_;have hM:=Mem.init w;refine aX<|ba<|cr 0<|aX<|dX ((b:Int)==0) ((b:Int)=0) (by simp only[beq_iff_eq]) (fun c1=> ?_) (fun c1=> ?_);refine aX<|bL<|cJ<|iv (vI 0) (vI 3) ?_;refine⟨?_,hM⟩;have e_:jE op a b=(0,3):=by first|exact Bo oM|exact Bp oM oM|exact Br oM oM|exact Bs oM oM oM|exact Bx oM oM oM
 rw[e_];refine aI<|ah 3 ?_;obtain⟨B2,QR⟩:∃B:Bool,B=((b:Int)==(-1)):=⟨_,rfl⟩;refine bX [(0,vI op),(1,vI a),(2,vI b),(14,(vB ((b:Int)==(-1))))] ?_;rw[←QR];have iB2:B2=true↔((b:Int)=(-1)):=by rw[QR];simp only[beq_iff_eq]
 clear QR;intro aC fr;refine cE 4 7 [11,17] fr (news:=[(11,(vB (B2&&((op:Int)==4)))),(17,(vB (B2&&((op:Int)==4))))]) (by cases B2<;>kernel_rfl) ?_;intro aC fr;revert aC;refine ay<|dX (B2&&((op:Int)==4)) (((b:Int)=(-1))∧((op:Int)=4)) (by simp only[Bool.and_eq_true,beq_iff_eq,iB2]) (fun c7=> ?_) (fun c7=> ?_);refine aI<|ah 1<|zui .neg a .i64 (IntKind.i64.wrap (0-a))<|ah 2<|ay<|bL<|cJ<|iv (vI (IntKind.i64.wrap (0-a))) (vI 0) ?_;refine⟨?_,hM⟩;have e_:jE op a b=(IntKind.i64.wrap (0-a),0):=by first|exact Bo oM|exact Bp oM oM|exact Br oM oM|exact Bs oM oM oM|exact Bx oM oM oM
 rw[e_];refine aX<|dX ((b:Int)==(-1)) ((b:Int)=(-1)) (by simp only[beq_iff_eq]) (fun c8=> ?_) (fun c8=> ?_);refine aX<|bL<|cJ<|iv (vI 0) (vI 0) ?_;refine⟨?_,hM⟩;have e_:jE op a b=(0,0):=by first|exact Bo oM|exact Bp oM oM|exact Br oM oM|exact Bs oM oM oM|exact Bx oM oM oM
 rw[e_];refine aX<|dX ((op:Int)==4) ((op:Int)=4) (by simp only[beq_iff_eq]) (fun c9=> ?_) (fun c9=> ?_);refine aI<|ah 2<|zbd .i64 (IntKind.i64.wrap (a.tdiv b)) b (by assumption)<|ah 2<|ay<|bL<|cJ<|iv (vI (IntKind.i64.wrap (a.tdiv b))) (vI 0) ?_;refine⟨?_,hM⟩;have e_:jE op a b=(IntKind.i64.wrap (a.tdiv b),0):=by first|exact Bo oM|exact Bp oM oM|exact Br oM oM|exact Bs oM oM oM|exact Bx oM oM oM
 rw[e_];refine bP<|aI<|ah 2<|zbd .i64 (a.tmod b) b (by assumption)<|ah 2<|ay<|bL<|iv (vI (a.tmod b)) (vI 0) ?_;refine⟨?_,hM⟩;have e_:jE op a b=(a.tmod b,0):=by first|exact Bo oM|exact Bp oM oM|exact Br oM oM|exact Bs oM oM oM|exact Bx oM oM oM
 rw[e_]
set_option maxHeartbeats 2000000 in
theorem Qe9(op a b:Int)(w:World):Calls Tryz.prog 122 #[vI op,vI a,vI b] w (ez fun v w'=>v= .tuple #[vI (cA op a b).1,vI (cA op a b).2]∧Mem bq w w' []):=by
 refine fv 96 [vI op,vI a,vI b] Tryz.func122 ?_;have hM:=Mem.init w;refine aX<|ba<|aX<|cr 0<|aX<|dX ((op:Int)==1) ((op:Int)=1) (by simp only[beq_iff_eq]) (fun c1=> ?_) (fun c1=> ?_);refine aI<|ah 2<|Hx .i64 (IntKind.i64.wrap (a+b)) b<|ah 2<|ay<|bL<|cJ<|iv (vI (IntKind.i64.wrap (a+b))) (vI 0) ?_;refine⟨?_,hM⟩;have e_:cA op a b=(IntKind.i64.wrap (a+b),0):=by exact bo1
 rw[e_];refine aX<|dX ((op:Int)==2) ((op:Int)=2) (by simp only[beq_iff_eq]) (fun c2=> ?_) (fun c2=> ?_);refine aI<|ah 2<|Hx .i64 (IntKind.i64.wrap (a-b)) b<|ah 2<|ay<|bL<|cJ<|iv (vI (IntKind.i64.wrap (a-b))) (vI 0) ?_;refine⟨?_,hM⟩;have e_:cA op a b=(IntKind.i64.wrap (a-b),0):=by exact bo2
 rw[e_];refine aX<|dX ((op:Int)==3) ((op:Int)=3) (by simp only[beq_iff_eq]) (fun c3=> ?_) (fun c3=> ?_);refine aI<|ah 2<|Hx .i64 (IntKind.i64.wrap (a*b)) b<|ah 2<|ay<|bL<|cJ<|iv (vI (IntKind.i64.wrap (a*b))) (vI 0) ?_;refine⟨?_,hM⟩;have e_:cA op a b=(IntKind.i64.wrap (a*b),0):=by exact bo3
 rw[e_];refine ba<|aX ?_;obtain⟨B4,yz⟩:∃B:Bool,B=((op:Int)==4):=⟨_,rfl⟩;refine bX [(0,vI op),(1,vI a),(2,vI b),(8,vI op),(24,(vB ((op:Int)==4)))] ?_;rw[←yz];have tL:B4=true↔((op:Int)=4):=by rw[yz];simp only[beq_iff_eq]
 clear yz;cases B4;have c4:¬((op:Int)=4):=iL tL.2;refine fT<|xh<|dX ((op:Int)==5) ((op:Int)=5) (by simp only[beq_iff_eq]) (fun c5=> ?_) (fun c5=> ?_);refine aI<|ah 3<|di (yy op a b w) ?_;rintro _ w6 ⟨rfl,M7x⟩;have M7:=hM.cl M7x;clear M7x hM;refine ah 4<|ay<|bL<|cJ<|iv (vI ((jE op a b).1)) (vI ((jE op a b).2)) ?_;refine⟨?_,M7⟩;have e_:cA op a b=((jE op a b).1,(jE op a b).2):=by first|exact p9 oM|exact gz oM
 rw[e_];refine aX<|dX ((op:Int)==6) ((op:Int)=6) (by simp only[beq_iff_eq]) (fun c8=> ?_) (fun c8=> ?_);refine aI<|ah 2<|Hx .i64 (tB a b) b<|ah 2<|ay<|bL<|cJ<|iv (vI (tB a b)) (vI 0) ?_;refine⟨?_,hM⟩;have e_:cA op a b=(tB a b,0):=by exact bo6
 rw[e_];refine aX<|dX ((op:Int)==7) ((op:Int)=7) (by simp only[beq_iff_eq]) (fun c9=> ?_) (fun c9=> ?_);refine aI<|ah 2<|Hx .i64 (Z3 a b) b<|ah 2<|ay<|bL<|cJ<|iv (vI (Z3 a b)) (vI 0) ?_;refine⟨?_,hM⟩;have e_:cA op a b=(Z3 a b,0):=by exact bo7
 rw[e_];refine aX<|dX ((op:Int)==8) ((op:Int)=8) (by simp only[beq_iff_eq]) (fun uR=> ?_) (fun uR=> ?_);refine aI<|ah 2<|Hx .i64 (rp a b) b<|ah 2<|ay<|bL<|cJ<|iv (vI (rp a b)) (vI 0) ?_;refine⟨?_,hM⟩;have e_:cA op a b=(rp a b,0):=by exact bo8
 rw[e_];refine aX<|dX ((op:Int)==9) ((op:Int)=9) (by simp only[beq_iff_eq]) (fun qV=> ?_) (fun qV=> ?_);refine aI<|ah 2<|di (KL b w) ?_;rintro _ V6 ⟨rfl,FF⟩;have oB:=hM.cl FF;clear FF hM;refine zbs .i64 .u64 (Fi a (tC b)) (tC b) (DG b)<|ah 2<|ay<|bL<|cJ<|iv (vI (Fi a (tC b))) (vI 0) ?_;refine⟨?_,oB⟩;have e_:cA op a b=(Fi a (tC b),0):=by exact bo9
 rw[e_];refine aX<|dX ((op:Int)==10) ((op:Int)=10) (by simp only[beq_iff_eq]) (fun HH=> ?_) (fun HH=> ?_);refine aI<|ah 2<|di (KL b w) ?_;rintro _ Z7 ⟨rfl,Wa⟩;have oC:=hM.cl Wa;clear Wa hM;refine zbs .i64 .u64 (Dh a (tC b)) (tC b) (DG b)<|ah 2<|ay<|bL<|cJ<|iv (vI (Dh a (tC b))) (vI 0) ?_;refine⟨?_,oC⟩;have e_:cA op a b=(Dh a (tC b),0):=by exact QeE
 rw[e_];refine aX<|dX ((op:Int)==11) ((op:Int)=11) (by simp only[beq_iff_eq]) (fun HI=> ?_) (fun HI=> ?_);refine aI<|ah 3<|di (lM ((a:Int)==b) w) ?_;rintro _ w18 ⟨rfl,WK⟩;have mR:=hM.cl WK;clear WK hM;refine ah 2<|ay<|bL<|cJ<|iv (vI (cO ((a:Int)==b))) (vI 0) ?_;refine⟨?_,mR⟩;have e_:cA op a b=(cO ((a:Int)==b),0):=by exact QeF
 rw[e_];refine aX<|dX ((op:Int)==12) ((op:Int)=12) (by simp only[beq_iff_eq]) (fun EH=> ?_) (fun EH=> ?_);refine aI<|ah 3<|di (lM ((a:Int) !=b) w) ?_;rintro _ w21 ⟨rfl,Wx⟩;have lJ:=hM.cl Wx;clear Wx hM;refine ah 2<|ay<|bL<|cJ<|iv (vI (cO ((a:Int) !=b))) (vI 0) ?_;refine⟨?_,lJ⟩;have e_:cA op a b=(cO ((a:Int) !=b),0):=by exact QeG
 rw[e_];refine aX<|dX ((op:Int)==13) ((op:Int)=13) (by simp only[beq_iff_eq]) (fun c23=> ?_) (fun c23=> ?_);refine aI<|ah 3<|di (lM (decide ((a:Int)<b)) w) ?_;rintro _ w24 ⟨rfl,V9⟩;have L8:=hM.cl V9;clear V9 hM;refine ah 2<|ay<|bL<|cJ<|iv (vI (cO (decide ((a:Int)<b)))) (vI 0) ?_;refine⟨?_,L8⟩;have e_:cA op a b=(cO (decide ((a:Int)<b)),0):=by exact QeH
 rw[e_];refine aX<|dX ((op:Int)==14) ((op:Int)=14) (by simp only[beq_iff_eq]) (fun HJ=> ?_) (fun HJ=> ?_);refine aI<|ah 3<|di (lM (decide ((a:Int)≤b)) w) ?_;rintro _ w27 ⟨rfl,QS⟩;have qj:=hM.cl QS;clear QS hM;refine da [83]<|ah 2<|ay<|bL<|cJ<|iv (vI (cO (decide ((a:Int)≤b)))) (vI 0) ?_;refine⟨?_,qj⟩;have e_:cA op a b=(cO (decide ((a:Int)≤b)),0):=by exact QeI
 rw[e_];refine aX<|dX ((op:Int)==15) ((op:Int)=15) (by simp only[beq_iff_eq]) (fun HB=> ?_) (fun HB=> ?_);refine aI<|ah 3<|di (lM (decide ((a:Int)>b)) w) ?_;rintro _ w30 ⟨rfl,IA⟩;have s8:=hM.cl IA;clear IA hM;refine da [89]<|ah 2<|ay<|bL<|cJ<|iv (vI (cO (decide ((a:Int)>b)))) (vI 0) ?_;refine⟨?_,s8⟩;have e_:cA op a b=(cO (decide ((a:Int)>b)),0):=by exact QeJ
 rw[e_];refine aX<|dX ((op:Int)==16) ((op:Int)=16) (by simp only[beq_iff_eq]) (fun Fo=> ?_) (fun Fo=> ?_);refine aI<|ah 3<|di (lM (decide ((a:Int)≥b)) w) ?_;rintro _ w33 ⟨rfl,Dl⟩;have xo:=hM.cl Dl;clear Dl hM;refine da [95]<|ah 2<|ay<|bL<|cJ<|iv (vI (cO (decide ((a:Int)≥b)))) (vI 0) ?_;refine⟨?_,xo⟩;have e_:cA op a b=(cO (decide ((a:Int)≥b)),0):=by exact QeK
 rw[e_];refine bP<|aX<|bL<|iv (vI 0) (vI (-1)) ?_;refine⟨?_,hM⟩;have e_:cA op a b=(0,-1):=by first|exact p9 oM|exact gz oM
 rw[e_];have c4:((op:Int)=4):=tL.1 rfl;refine fm<|bP<|fm<|aI<|ah 3<|di (yy op a b w) ?_;rintro _ w35 ⟨rfl,Qfa⟩;have uX:=hM.cl Qfa;clear Qfa hM;refine ah 4<|ay<|bL<|cJ<|iv (vI ((jE op a b).1)) (vI ((jE op a b).2)) ?_;refine⟨?_,uX⟩;have e_:cA op a b=((jE op a b).1,(jE op a b).2):=by first|exact p9 oM|exact gz oM
 rw[e_]
theorem Qib(op a:Int)(w:World):Calls Tryz.prog 124 #[vI op,vI a] w (ez fun v w'=>v= .tuple #[vI (rJ op a).1,vI (rJ op a).2]∧Mem bq w w' []):=by
 refine fv 20 [vI op,vI a] Tryz.func124 ?_;have hM:=Mem.init w;refine aX<|ba<|aX<|cr 0<|aX<|dX ((op:Int)==1) ((op:Int)=1) (by simp only[beq_iff_eq]) (fun c1=> ?_) (fun c1=> ?_);refine aI<|ah 1<|zui .neg a .i64 (IntKind.i64.wrap (0-a))<|ah 2<|ay<|bL<|cJ<|iv (vI (IntKind.i64.wrap (0-a))) (vI 0) ?_;refine⟨?_,hM⟩;have e_:rJ op a=(IntKind.i64.wrap (0-a),0):=by first|exact Z4|exact Z5|exact Z6|exact tD (by assumption) (by assumption) (by assumption)
 rw[e_];refine aX<|dX ((op:Int)==2) ((op:Int)=2) (by simp only[beq_iff_eq]) (fun c2=> ?_) (fun c2=> ?_);refine aI<|ah 1<|zui .xor a .i64 (rp (-1) a)<|ah 2<|ay<|bL<|cJ<|iv (vI (rp (-1) a)) (vI 0) ?_;refine⟨?_,hM⟩;have e_:rJ op a=(rp (-1) a,0):=by first|exact Z4|exact Z5|exact Z6|exact tD (by assumption) (by assumption) (by assumption)
 rw[e_];refine aX<|dX ((op:Int)==3) ((op:Int)=3) (by simp only[beq_iff_eq]) (fun c3=> ?_) (fun c3=> ?_);refine aI<|ah 2<|di (lM ((a:Int)==0) w) ?_;rintro _ w4 ⟨rfl,DH⟩;have M5:=hM.cl DH;clear DH hM;refine ah 2<|ay<|bL<|cJ<|iv (vI (cO ((a:Int)==0))) (vI 0) ?_;refine⟨?_,M5⟩;have e_:rJ op a=(cO ((a:Int)==0),0):=by first|exact Z4|exact Z5|exact Z6|exact tD (by assumption) (by assumption) (by assumption)
 rw[e_];refine bP<|aX<|bL<|iv (vI 0) (vI (-1)) ?_;refine⟨?_,hM⟩;have e_:rJ op a=(0,-1):=by first|exact Z4|exact Z5|exact Z6|exact tD (by assumption) (by assumption) (by assumption)
 rw[e_]
end Go.Proofs.YtejbeeaomokjpaaGreat
namespace Go.Mor
open Go.RowKit
def qW(l:af):aP:=l.map (Value.int .u8)
theorem WL(l:af):(qW l).length=l.length:=by simp[qW]
theorem IB(l m:af):qW (l++m)=qW l++qW m:=by simp[qW]
structure RC where
 E:Env0
 r:Nat
 fA:ar
 fc:Nat
 sA:ar
 sc:Nat
 mB:Nat
 dB:Nat
 mG:Nat
 iA:ar
 ic:Nat
 oP:Addr
def QT(f:et):aP:=f.bG.map (fun q=> .slice q.1 q.2.2.length q.2.1)
structure Qac(f:et)(k:Nat)(x:aE):Prop where
 lp:x.au.length≤20000
 li:x.insts.length≤20000
 ends:fU f.bh.length x
 vIf:x.e=1→0≤x.v∧x.v<f.va
 Qic:x.e=2→-1≤x.v∧x.v<f.va
 shape:∀i,i∈x.insts→bQ i
 args:∀i,i∈x.insts→∀v,v∈i.args→0≤v∧v<f.va
 dst:∀i,i∈x.insts→aK i.op→0≤i.dst∧i.dst<f.va
 Qid:∀p,p∈x.au→0≤p.dst∧p.dst<f.va
 Qie:∀p,p∈x.au→p.args.length=(f.src k).length
 Qfb:∀p,p∈x.au→∀v,v∈p.args→0≤v∧v<f.va
structure et.WF(f:et):Prop where
 ok:pz f.bh
 pos:0<f.bh.length
 len:f.bh.length≤1000
 pa0:0≤f.pa
 pav:f.pa≤f.va
 va:f.va≤20000
 first:∀x,f.bh[0]?=some x→x.au=[]
 aB:∀k x,f.bh[k]?=some x→Qac f k x
 Qfc:f.bG.length=f.bh.length
 Qif:∀(k:Nat) (x:aE) (t:Int),f.bh[k]?=some x→(x.e=0∧t=x.a∨x.e=1∧(t=x.a∨t=x.b))→(k:Int)∈f.src t.toNat
 Qig:∀k,(f.src k).length≤1000
end Go.Mor
namespace Go.Mor
open Go.RowKit
def slE(P:Program)(c:Code)(N:FN)(env:Env)(k:Nat):Option (Option Nat×ar×Nat×Nat×Int×Nat):=match ax c k with
 |some (d,.slice t x (some y) none none,_,g)=>match bD c g env,gp d N,ev env x,ev env y,P.underlying t with
  |some true,true,some (.slice A n cap),some (.int _ i),some (.slice e)=>match(P.info? e).map (·.size)with
   |some size=>some (d,A,n,cap,i,size)
   |none=>none
  |_,_,_,_,_=>none
 |_=>none
theorem WM{P:Program}{c:Code}{N:FN}{env:Env}{k:Nat}{d:Option Nat}{A:ar}{n cap size:Nat}{i:Int}(h:slE P c N env k=some (d,A,n,cap,i,size)):∃t x y ty g e kd,ax c k=some (d,.slice t x (some y) none none,ty,g)∧bD c g env=some true∧gp d N=true∧ev env x=some (vS A n cap)∧ev env y=some (.int kd i)∧P.underlying t=some (.slice e)∧(P.info? e).map (·.size)=some size:=by
 unfold slE at h;split at h
 ·rename_i h0;split at h
  ·rename_i h1 h2 h3 h4 h5;split at h
   ·rename_i h6;simp only[Option.some.injEq,Prod.mk.injEq]at h;obtain⟨rfl,rfl,rfl,rfl,rfl,rfl⟩:=h;exact⟨_,_,_,_,_,_,_,h0,h1,h2,h3,h4,h5,h6⟩
   ·cases h
  ·cases h
 ·cases h
abbrev Qfd(A:ar)(n cap m size:Nat):Value:=vS (if cap=m then A else A.map (·.add (m*size))) (n-m) (cap-m)
section
variable {P : Program} {c : Code} {Q : Exit → Act → World → Prop} {N : FN} {i : Nat} {env0 : Env} {wr : World} {sp : Nat → Spec}
theorem dSl(A:ar)(n cap size m:Nat)(hm:m≤n)(hv:sp i= .aU (Qfd A n cap m size):=by rfl)(hg:∀vs,kx c i (bW c i sp vs env0)=some true:=by intro _;kernel_rfl)(hk:∀us,slE P (one c i) N (bW c i sp us env0) 0=some (bp c i,A,n,cap,(m:Int),size):=by intro _;kernel_rfl)(he:ax (one c i) 1=none:=by kernel_rfl):jc P c Q N env0 wr sp i:=by
 refine rG hg (fun w vs hK hp a hF=> ?_);obtain⟨t,x,y,ty,g,e,kd,h0,h1,h2,h3,h4,h5,h6⟩:=WM (hk vs);exact jA h0 hF h1 h2 rfl m h3 h4 rfl h5 h6 hm (fun a' ea _=>aL he ⟨_,ea,Kp.refl w,by rw[hv];rfl⟩)
end
theorem IC{w:World}{A:ar}{v:Value}{vs:aP}{cap:Nat}(h:(bx.rd A (v::vs)).holds w)(hc:vs.length+1≤cap):(bx.rd (if cap=1 then A else A.map (·.add (1*1))) vs).holds w:=by
 intro j u hj;have Kf:=(List.getElem?_eq_some_iff.1 hj).1;obtain⟨a,hA,o0⟩:=h (j+1) u (by simpa using hj);rw[if_neg oM,hA];refine⟨_,rfl,?_⟩;rw[lF];rwa [show 1*1+j=j+1 by omega]
theorem RO.IC{S:Nat→Prop}{w:World}{A:ar}{v:Value}{vs:aP}{cap:Nat}(h:RO S w (.rd A (v::vs)))(hc:vs.length+1≤cap):RO S w (.rd (if cap=1 then A else A.map (·.add (1*1))) vs):=by
 refine⟨Mor.IC h.1 hc,fun g hg=>h.2 g ?_⟩;obtain⟨dt,a,ha,hb⟩:=hg;refine⟨sI,?_⟩;split at ha
 ·exact⟨a,ha,hb⟩
 ·cases A with
  |none=>cases ha
  |some a0=>
   injection ha with ha;subst ha;exact⟨a0,rfl,by rw[←hb,block_add]⟩
end Go.Mor
namespace Go.Mor
open Go.RowKit
end Go.Mor
namespace Go.Mor
end Go.Mor
namespace Go.Mor
open Go.RowKit
theorem et.QU{f:et}{k:Nat}{q:ar×Nat×af}(h:f.bG[k]?=some q):f.src k=q.2.2:=by simp[et.src,List.getD,h]
def tM(at_:Nat)(bC:af)(p:bZ):Int:=bC.getD (p.args.getD at_ 0).toNat 0
theorem yA:∀(l:List (Int×Int)) (bC:af),(jF bC l).length=bC.length
 |[],_=>rfl
 |(d,v)::r,bC=>by unfold jF;rw[yA r];simp
theorem vy:∀(l:List (Int×Int)) (bC:af) (d v:Int),jF bC (l++[(d,v)])=(jF bC l).set d.toNat v
 |[],_,_,_=>rfl
 |(d0,v0)::r,bC,d,v=>by show jF (bC.set d0.toNat v0) (r++[(d,v)])=_;rw[vy r];rfl
def qk(ps:List bZ)(at_:Nat)(bC:af)(j:Nat):af:=jF bC ((ps.take j).map (fun p=>(p.dst,tM at_ bC p)))
theorem IE{ps:List bZ}{at_:Nat}{bC:af}{j:Nat}{p:bZ}(h:ps[j]?=some p):(qk ps at_ bC j).set p.dst.toNat (tM at_ bC p)=qk ps at_ bC (j+1):=by
 obtain⟨hj,he⟩:=List.getElem?_eq_some_iff.1 h;unfold qk;rw[List.take_succ_eq_append_getElem hj,he,List.map_append];exact(vy _ _ _ _).symm
theorem IG(ps:List bZ)(at_:Nat)(bC:af):qk ps at_ bC 0=bC:=by simp[qk,jF]
theorem Mu(ps:List bZ)(at_:Nat)(bC:af):qk ps at_ bC ps.length=gr ps at_ bC:=by simp[qk,gr,tM]
theorem WN{l:af}{i:Nat}(h:i<l.length):l.getD i 0∈l:=by simp[List.getD,h]
theorem sy(bC args:af):(eo bC args).length=args.length:=by simp[eo]
theorem k9{α β:Type}{g:dp α}{a:α}{s:cQ}{f:α→cQ→dp β}(h:g= .ok a s):g.bind f=f a s:=by rw[h];rfl
theorem iH{α β:Type}{g:dp α}{k c:Int}{s:cQ}{f:α→cQ→dp β}(h:g= .stop k c s):g.bind f= .stop k c s:=by rw[h];rfl
def Qih(i:bl)(bC:af)(v:Int):af:=if 0≤i.dst∧aK i.op then bC.set i.dst.toNat v else bC
def QV(E:Env0)(x:aE)(bC:af)(s:cQ):dp (Int×Int×af):=(cT E s).bind fun _ s=>
  if x.e=0 then .ok (x.a,0,bC) s
  else if x.e=1 then .ok (if bC.getD x.v.toNat 0≠0 then x.a else x.b,0,bC) s
  else if x.e=3 then .stop 2 x.a s
  else .ok (-1,if x.v≥0 then bC.getD x.v.toNat 0 else 0,bC) s
section
variable {E : Env0} {call : Int → List Int → cQ → dp Int}
theorem QW{f:et}{k from_:Int}{bC:af}{s:cQ}{x:aE}(h:f.bh[k.toNat]?=some x):fi E call f k from_ bC s=(cS E call x.insts (gr x.au (eG (f.src k.toNat) from_) bC) s).bind (QV E x):=by
 unfold fi;rw[h];rfl
theorem yB{s s':cQ}{x:Unit}(h:cT E s= .ok x s'):s'.steps=s.steps+1:=by
 unfold cT at h;split at h
 ·cases h
 ·injection h with h1 h2;subst h2;rfl
def Mv(call:Int→af→cQ→dp Int):Prop:=∀n l s x s',call n l s= .ok x s'→s.steps≤s'.steps
theorem tN{n:Int}{s s':cQ}{k:Nat}(h:uy n s= .ok k s'):s'=s:=by
 unfold uy at h;split at h
 ·cases h
 ·injection h with h1 h2;exact h2.symm
theorem yC(hm:Mv call){i:bl}{l:af}{s s':cQ}{x:Int}(h:bV E call i l s= .ok x s'):s.steps≤s'.steps:=by
 have fin:∀(y:Int) (s2:cQ),s.steps≤s2.steps→dp.ok y s2=dp.ok x s'→s.steps≤s'.steps:=by intro y s2 h1 h2;injection h2 with _ h2;rw[←h2];exact h1
 by_cases h1:i.op=1
 ·rw[qa h1]at h;exact fin _ _ (Int.le_refl _) h
 by_cases h2:i.op=2
 ·rw[qb h2]at h;cases hq:uy (IntKind.i64.wrap (a0 l+i.n)) s with
  |ok k s2=>rw[k9 hq]at h;exact fin _ _ (by rw[tN hq];exact Int.le_refl _) h
  |stop k c s2=>rw[iH hq]at h;cases h
 by_cases h3:i.op=3
 ·rw[qd h3]at h;cases hq:uy (IntKind.i64.wrap (a0 l+i.n)) s with
  |ok k s2=>rw[k9 hq]at h;exact fin _ _ (by rw[tN hq];exact Int.le_refl _) h
  |stop k c s2=>rw[iH hq]at h;cases h
 by_cases h4:i.op=4
 ·rw[sm h4]at h;split at h
  ·exact hm _ _ _ _ _ h
  ·cases h
 by_cases h5:i.op=5
 ·rw[sn h5]at h;exact hm _ _ _ _ _ h
 by_cases h6:i.op=6
 ·rw[ox h6]at h;split at h
  ·exact fin _ _ (Int.le_refl _) h
  ·cases h
 by_cases h7:i.op=7
 ·rw[oy h7]at h;split at h
  ·exact fin _ _ (Int.le_refl _) h
  ·cases h
 by_cases h8:i.op=8
 ·rw[sq h8]at h;split at h
  ·cases h
  ·split at h
   ·cases h
   ·exact fin _ {s with next:=s.next+a0 l} (Int.le_refl _) h
 by_cases h9:i.op=9
 ·rw[sr h9]at h;split at h
  ·exact fin _ {s with pos:=s.pos+1} (Int.le_refl _) h
  ·exact fin _ _ (Int.le_refl _) h
 by_cases xm:i.op=10
 ·rw[oz xm]at h;exact fin _ _ (by split<;>exact Int.le_refl _) h
 by_cases Hy:i.op=11
 ·rw[mr Hy]at h;split at h
  ·cases h
  ·exact fin _ _ (Int.le_refl _) h
 by_cases Ky:i.op=12
 ·rw[mu Ky]at h;exact fin _ _ (Int.le_refl _) h
 by_cases O2:i.op≥40
 ·rw[mv O2]at h;exact fin _ _ (Int.le_refl _) h
 rw[kB oM oM]at h;split at h
 ·exact fin _ _ (Int.le_refl _) h
 ·cases h
theorem QX{x:aE}{bC:af}{s s2:cQ}{u:Unit}(h:cT E s= .ok u s2):QV E x bC s=if x.e=0 then .ok (x.a,0,bC) s2 else if x.e=1 then .ok (if bC.getD x.v.toNat 0≠0 then x.a else x.b,0,bC) s2 else if x.e=3 then .stop 2 x.a s2 else .ok (-1,if x.v≥0 then bC.getD x.v.toNat 0 else 0,bC) s2:=k9 h
end
end Go.Mor
namespace Go.Mor
theorem IH{i:bl}(h:bQ i):i.args.length≤17:=by
 rcases h.2 with h|h|h|h|h|h|h|h|h|h|h<;>omega
theorem Mw{N:Int}{x:aE}(h:fU N x):x.e=0∨x.e=1∨x.e=2∨x.e=3:=by
 rcases h with h|h|h|h
 ·exact .inl h.1
 ·exact .inr (.inl h.1)
 ·exact .inr (.inr (.inl h.1))
 ·exact .inr (.inr (.inr h.1))
end Go.Mor
namespace Go.Proofs.YtejbeeaomokjpaaGreat
open Go.Mor
theorem QbZ(nm:aV)(wk:Bool)(pa va:Int)(A:ar)(c:Nat)(fs:List aE)(w:World)(hN:fs.length≤1000)(iq:pz fs)(hA:RO bq w (.fn A fs)):Calls Tryz.prog 63 #[fA nm wk pa va A c fs] w (ez fun v w'=>v=vI ((dw fs:Nat):Int)∧Mem bq w w' []):=by
 have Ay:=bK fs;have hm:(aq fs).length≤1000000:=oM;have hB:=hA.bs;refine fv 27 [fA nm wk pa va A c fs] Tryz.func63 ?_;have hM:=Mem.init w;refine aI<|ou hM 30 (fA nm wk pa va A c fs) (fV nm wk pa va A c fs) fun b1 w2 jU M3=> ?_
 replace M3:=M3.nf;clear hM;refine ah 1<|ay<|aI<|ah 1<|bt (ao b1 4) _ (ae (M3.get 0 rfl) rfl)<|ah 2<|ay<|ba<|aI<|ah 1 ?_;refine bt (ao b1 4) _ (ae (M3.get 0 rfl) rfl)<|ah 2<|ay<|cr 0 ?_;intro aC fr;refine fk (fun n_ a_ w_=>∃(k:Nat) (q:Nat),n_=fs.length-k∧Fr a_ 27 [(3,nV q),(10,vS A ((aq fs).length) c),(11,(vI ((aq fs).length:Int))),(12,nV k)]∧Mem bq w w_ [.aB b1 30 (fV nm wk pa va A c fs)]∧(k≤fs.length)∧(q=fs.length+jd fs k)) (n:=_) ⟨0,(aq fs).length,rfl,fr.kp [3,10,11,12],M3,oM,by rw[Ay,p7];rfl⟩ ?_;clear fr aC M3;rintro n aC w6 ⟨k,q,rfl,fr,M7,hk,hq⟩;revert aC;refine aX<|ba<|fE ((k:Int)<((aq fs).length:Int)) (fun uR=> ?_) (fun uR=> ?_);refine bP<|ba<|cr 1<|aI ?_;obtain⟨x,hx⟩:=aM (l:=fs) (i:=k) oM;have qe:x.au.length≤281474976710656:=(iq.get hx).lp;have BA:x.insts.length≤281474976710656:=(iq.get hx).li;have U7:=uQ iq k hk;obtain⟨oE,rfl⟩:=ek (M7.ro hB) (fH hx);refine ej oE ((aq fs).length) 6 (k:Int)<|ga (aN oE (k:Int) 6) (xV x) (dy (M7.ro hB) rfl hx)<|na M7 49 [an,an,vI 0,vI 0,vI 0,vI 0] fun KM KG Qfe lH=> ?_
 replace lH:=lH.nf;refine ng lH 1 (xV x) rfl fun Z7 oC=> ?_
 replace oC:=oC.nf;refine ay<|cG<|ah 2<|bt (aZ KM) _ (ae (oC.get 1 rfl) rfl)<|ah 2<|bt (ao KM 1) _ (ae (oC.get 1 rfl) rfl)<|ah 1<|cZ ((x.au.length:Int)+(x.insts.length:Int))<|cZ ((q:Int)+((x.au.length:Int)+(x.insts.length:Int)))<|da [10,11,12,24] ?_;refine ah 1<|ay<|cG<|cZ ((k:Int)+1)<|ah 1<|ay ?_;intro aC fr;exact⟨fs.length-(k+1),oM,k+1,q+(x.au.length+x.insts.length),rfl,fr.kp [3,10,11,12],(oC.tk 1),oM,by rw[hq,ky hx];omega⟩;refine eW 0<|eX<|aX<|bL<|cv (nV q) ?_;obtain rfl:k=fs.length:=oM;have mR:=M7.od [] 0;exact⟨by rw[hq];rfl,mR⟩
theorem DI(nm:aV)(wk:Bool)(pa va:Int)(A:ar)(c:Nat)(fs:List aE)(w:World)(hN:fs.length≤1000)(iq:pz fs)(hA:RO bq w (.fn A fs)):Calls Tryz.prog 30 #[fA nm wk pa va A c fs] w (ez fun v w'=>v=vI ((dw fs:Nat):Int)∧Mem bq w w' []):=by
 have Ay:=bK fs;have hm:(aq fs).length≤1000000:=oM;have hB:=hA.bs;refine fv 33 [fA nm wk pa va A c fs] Tryz.func30 ?_;have hM:=Mem.init w;refine aI<|ou hM 30 (fA nm wk pa va A c fs) (fV nm wk pa va A c fs) fun b1 w2 jU M3=> ?_
 replace M3:=M3.nf;clear hM;refine ah 1<|ay<|aI<|ah 1<|bt (ao b1 4) _ (ae (M3.get 0 rfl) rfl)<|ah 2<|ay<|ba<|aX<|cr 0 ?_;intro aC fr;refine fk (fun n_ a_ w_=>∃(k:Nat) (q:Nat),n_=fs.length-k∧Fr a_ 33 [(1,pT b1 0),(3,nV q),(4,nV k)]∧Mem bq w w_ [.aB b1 30 (fV nm wk pa va A c fs)]∧(k≤fs.length)∧(q=fs.length+jd fs k)) (n:=_) ⟨0,(aq fs).length,rfl,fr.kp [1,3,4],M3,oM,by rw[Ay,p7];rfl⟩ ?_;clear fr aC M3;rintro n aC w6 ⟨k,q,rfl,fr,M7,hk,hq⟩;revert aC;refine ba<|aI<|ah 2<|bt (ao b1 4) _ (ae (M7.get 0 rfl) rfl)<|ah 2<|ay<|fE ((k:Int)<((aq fs).length:Int)) (fun uR=> ?_) (fun uR=> ?_);refine bP<|ba<|cr 1 ?_;obtain⟨x,hx⟩:=aM (l:=fs) (i:=k) oM;have qe:x.au.length≤281474976710656:=(iq.get hx).lp;have BA:x.insts.length≤281474976710656:=(iq.get hx).li;have U7:=uQ iq k hk;obtain⟨oE,rfl⟩:=ek (M7.ro hB) (fH hx);obtain⟨x,hx⟩:=aM (l:=fs) (i:=k) oM;have qe:x.au.length≤281474976710656:=(iq.get hx).lp;have BA:x.insts.length≤281474976710656:=(iq.get hx).li;have U7:=uQ iq k hk;refine da [1,3,4] ?_;intro aC fr;refine l9 (bo [.aU (nV q),eR b1 4,eS (some oE) ((aq fs).length) c,.aU (nV k),eA oE (k:Int) 6,eA oE (k:Int) 6,eS x.pA x.au.length x.pc,eI (x.au.length:Int),eI ((q:Int)+(x.au.length:Int)),eR b1 4,eS (some oE) ((aq fs).length) c,.aU (nV k),eA oE (k:Int) 6,eP ((aN oE (k:Int) 6).add 1),eS x.iA x.insts.length x.ic,eI (x.insts.length:Int),eI ((((q+(x.au.length+x.insts.length):Nat)):Int)),eI ((((q+(x.au.length+x.insts.length):Nat)):Int))]) fr (la (sv (dT lz dP dP (dL (ao b1 4) _ fun w_ hK=>(ae ((M7.aw hK).get 0 rfl) rfl)) dP (dI oE ((aq fs).length) 6 (k:Int)) dP (dL (aN oE (k:Int) 6) _ fun w_ hK=>(dy ((M7.aw hK).ro hB) rfl hx 0 _ rfl)) dP (dA ((q:Int)+(x.au.length:Int))) dP (dL (ao b1 4) _ fun w_ hK=>(ae ((M7.aw hK).get 0 rfl) rfl)) dP) (dI oE ((aq fs).length) 6 (k:Int)) dP (dL ((aN oE (k:Int) 6).add 1) _ fun w_ hK=>(dy ((M7.aw hK).ro hB) rfl hx 1 _ rfl)) dP ?_) dP) ?_;intro ep w_ vs cL hK hp hF;refine jv (g0:=none) ?_;replace hF:Fr ep 33 [(23,(vI ((q:Int)+(x.au.length:Int)))),(30,(vI (x.insts.length:Int)))]:=hF.kp [23,30];refine gv (kR:ax _ 0=some (some 31,.binOp .add 3 (.tmp 23) (.tmp 30) 3,3,none)) hF kR kR (k':=1) rfl (i:=((q:Int)+(x.au.length:Int))) (j:=(x.insts.length:Int)) (z:=((((q+(x.au.length+x.insts.length):Nat)):Int))) kR kR (congrArg some oM) oM oM ?_;intro a2 ea _;refine aL kR ?_;exact xg (d:=some 31) kR ea (Kp.refl _) rfl;intro aC OT vs hK hv fr;revert aC;refine bX [(1,pT b1 0),(3,(vI ((((q+(x.au.length+x.insts.length):Nat)):Int)))),(4,nV k)] ?_;have kK:=M7.aw hK;clear hK hv fr aC M7;clear vs;refine cG<|ah 1<|cZ ((k:Int)+1)<|ah 1<|ay ?_;intro aC fr;exact⟨fs.length-(k+1),oM,k+1,q+(x.au.length+x.insts.length),rfl,fr.kp [1,3,4],kK,oM,by rw[hq,ky hx];omega⟩;refine eW 0<|eX<|aX<|bL<|cv (nV q) ?_;obtain rfl:k=fs.length:=oM;have oG:=M7.od [] 0;exact⟨by rw[hq];rfl,oG⟩
end Go.Proofs.YtejbeeaomokjpaaGreat
namespace Go.Proofs.YtejbeeaomokjpaaGreat
open Go.Mor
theorem lN(nm:aV)(w:World):Calls Tryz.prog 65 #[vT nm] w (ez fun v w'=>v=vB (decide (bB nm))∧Mem bq w w' []):=by
 refine fv 11 [vT nm] Tryz.func65 ?_;have hM:=Mem.init w;refine aX<|aI<|ah 4 ?_;obtain⟨B1,jQ⟩:∃B:Bool,B=decide ((((nm).size:Int):Int)≥1):=⟨_,rfl⟩;refine bX [(0,vT nm),(6,(vB (decide ((((nm).size:Int):Int)≥1))))] ?_;rw[←jQ];have s9:B1=true↔((((nm).size:Int):Int)≥1):=by rw[jQ];simp only[decide_eq_true_eq]
 clear jQ;intro aC fr;refine cE 5 9 [2,10] fr (news:=[(2,(vB (B1&&decide ((((nm).size:Int):Int)≤60)))),(10,(vB (B1&&decide ((((nm).size:Int):Int)≤60))))]) (by cases B1<;>kernel_rfl) ?_;intro aC fr;revert aC;refine ay<|bL<|cv (vB (B1&&decide ((((nm).size:Int):Int)≤60))) ?_;have hR:(B1&&decide ((((nm).size:Int):Int)≤60))=true↔(((((nm).size:Int):Int)≥1)∧((((nm).size:Int):Int)≤60)):=by simp only[Bool.and_eq_true,decide_eq_true_eq,s9]
 exact⟨aY hR (by unfold bB;omega),hM⟩
theorem xv(nm:aV)(w:World):Calls Tryz.prog 31 #[vT nm] w (ez fun v w'=>v=vB (decide (bB nm))∧Mem bq w w' []):=by
 refine fv 11 [vT nm] Tryz.func31 ?_;have hM:=Mem.init w;refine aX<|aI<|ah 4 ?_;obtain⟨B1,jQ⟩:∃B:Bool,B=decide ((((nm).size:Int):Int)≥1):=⟨_,rfl⟩;refine bX [(0,vT nm),(6,(vB (decide ((((nm).size:Int):Int)≥1))))] ?_;rw[←jQ];have s9:B1=true↔((((nm).size:Int):Int)≥1):=by rw[jQ];simp only[decide_eq_true_eq]
 clear jQ;intro aC fr;refine cE 5 9 [2,10] fr (news:=[(2,(vB (B1&&decide ((((nm).size:Int):Int)≤60)))),(10,(vB (B1&&decide ((((nm).size:Int):Int)≤60))))]) (by cases B1<;>kernel_rfl) ?_;intro aC fr;revert aC;refine ay<|bL<|cv (vB (B1&&decide ((((nm).size:Int):Int)≤60))) ?_;have hR:(B1&&decide ((((nm).size:Int):Int)≤60))=true↔(((((nm).size:Int):Int)≥1)∧((((nm).size:Int):Int)≤60)):=by simp only[Bool.and_eq_true,decide_eq_true_eq,s9]
 exact⟨aY hR (by unfold bB;omega),hM⟩
theorem KN(op:Int)(w:World):Calls Tryz.prog 109 #[vI op] w (ez fun v w'=>v=vB (decide (aK op))∧Mem bq w w' []):=by
 refine fv 13 [vI op] Tryz.func109 ?_;have hM:=Mem.init w;refine aX<|aI<|ah 3 ?_;obtain⟨B1,jQ⟩:∃B:Bool,B=((op:Int) !=3):=⟨_,rfl⟩;refine bX [(0,vI op),(5,(vB ((op:Int) !=3)))] ?_;rw[←jQ];have s9:B1=true↔((op:Int)≠3):=by rw[jQ];simp only[bne_iff_ne]
 clear jQ;intro aC fr;refine cE 4 7 [8,9] fr (news:=[(8,(vB (B1&&((op:Int) !=10)))),(9,(vB (B1&&((op:Int) !=10))))]) (by cases B1<;>kernel_rfl) ?_;intro aC fr;obtain⟨B6,sB⟩:∃B:Bool,B=(B1&&((op:Int) !=10)):=⟨_,rfl⟩;revert aC;refine bX [(0,vI op),(9,(vB (B1&&((op:Int) !=10))))] ?_;rw[←sB];have yD:B6=true↔(((op:Int)≠3)∧((op:Int)≠10)):=by rw[sB];simp only[Bool.and_eq_true,bne_iff_ne,s9]
 clear sB;intro aC fr;refine cE 4 11 [2,12] fr (news:=[(2,(vB (B6&&((op:Int) !=11)))),(12,(vB (B6&&((op:Int) !=11))))]) (by cases B6<;>kernel_rfl) ?_;intro aC fr;revert aC;refine ay<|bL<|cv (vB (B6&&((op:Int) !=11))) ?_;have hR:(B6&&((op:Int) !=11))=true↔((((op:Int)≠3)∧((op:Int)≠10))∧((op:Int)≠11)):=by simp only[Bool.and_eq_true,bne_iff_ne,yD]
 exact⟨aY hR (by unfold aK;omega),hM⟩
theorem FG(op:Int)(w:World):Calls Tryz.prog 58 #[vI op] w (ez fun v w'=>v=vB (decide (aK op))∧Mem bq w w' []):=by
 refine fv 13 [vI op] Tryz.func58 ?_;have hM:=Mem.init w;refine aX<|aI<|ah 3 ?_;obtain⟨B1,jQ⟩:∃B:Bool,B=((op:Int) !=3):=⟨_,rfl⟩;refine bX [(0,vI op),(5,(vB ((op:Int) !=3)))] ?_;rw[←jQ];have s9:B1=true↔((op:Int)≠3):=by rw[jQ];simp only[bne_iff_ne]
 clear jQ;intro aC fr;refine cE 4 7 [8,9] fr (news:=[(8,(vB (B1&&((op:Int) !=10)))),(9,(vB (B1&&((op:Int) !=10))))]) (by cases B1<;>kernel_rfl) ?_;intro aC fr;obtain⟨B6,sB⟩:∃B:Bool,B=(B1&&((op:Int) !=10)):=⟨_,rfl⟩;revert aC;refine bX [(0,vI op),(9,(vB (B1&&((op:Int) !=10))))] ?_;rw[←sB];have yD:B6=true↔(((op:Int)≠3)∧((op:Int)≠10)):=by rw[sB];simp only[Bool.and_eq_true,bne_iff_ne,s9]
 clear sB;intro aC fr;refine cE 4 11 [2,12] fr (news:=[(2,(vB (B6&&((op:Int) !=11)))),(12,(vB (B6&&((op:Int) !=11))))]) (by cases B6<;>kernel_rfl) ?_;intro aC fr;revert aC;refine ay<|bL<|cv (vB (B6&&((op:Int) !=11))) ?_;have hR:(B6&&((op:Int) !=11))=true↔((((op:Int)≠3)∧((op:Int)≠10))∧((op:Int)≠11)):=by simp only[Bool.and_eq_true,bne_iff_ne,yD]
 exact⟨aY hR (by unfold aK;omega),hM⟩
theorem QY(n:Int)(w:World):Calls Tryz.prog 106 #[vI n] w (ez fun v w'=>v=vB (decide (dj n))∧Mem bq w w' []):=by
 refine fv 9 [vI n] Tryz.func106 ?_;have hM:=Mem.init w;refine aX<|aI<|ah 3 ?_;obtain⟨B1,jQ⟩:∃B:Bool,B=decide ((n:Int)≥1):=⟨_,rfl⟩;refine bX [(0,vI n),(5,(vB (decide ((n:Int)≥1))))] ?_;rw[←jQ];have s9:B1=true↔((n:Int)≥1):=by rw[jQ];simp only[decide_eq_true_eq]
 clear jQ;intro aC fr;refine cE 4 7 [2,8] fr (news:=[(2,(vB (B1&&decide ((n:Int)≤999)))),(8,(vB (B1&&decide ((n:Int)≤999))))]) (by cases B1<;>kernel_rfl) ?_;intro aC fr;revert aC;refine ay<|bL<|cv (vB (B1&&decide ((n:Int)≤999))) ?_;have hR:(B1&&decide ((n:Int)≤999))=true↔(((n:Int)≥1)∧((n:Int)≤999)):=by simp only[Bool.and_eq_true,decide_eq_true_eq,s9]
 exact⟨aY hR (by unfold dj;omega),hM⟩
theorem KO(n:Int)(w:World):Calls Tryz.prog 127 #[vI n] w (ez fun v w'=>v=vB (decide (de n))∧Mem bq w w' []):=by
 refine fv 9 [vI n] Tryz.func127 ?_;have hM:=Mem.init w;refine aX<|aI<|ah 3 ?_;obtain⟨B1,jQ⟩:∃B:Bool,B=decide ((n:Int)≥0):=⟨_,rfl⟩;refine bX [(0,vI n),(5,(vB (decide ((n:Int)≥0))))] ?_;rw[←jQ];have s9:B1=true↔((n:Int)≥0):=by rw[jQ];simp only[decide_eq_true_eq]
 clear jQ;intro aC fr;refine cE 4 7 [2,8] fr (news:=[(2,(vB (B1&&decide ((n:Int)≤2147483647)))),(8,(vB (B1&&decide ((n:Int)≤2147483647))))]) (by cases B1<;>kernel_rfl) ?_;intro aC fr;revert aC;refine ay<|bL<|cv (vB (B1&&decide ((n:Int)≤2147483647))) ?_;have hR:(B1&&decide ((n:Int)≤2147483647))=true↔(((n:Int)≥0)∧((n:Int)≤2147483647)):=by simp only[Bool.and_eq_true,decide_eq_true_eq,s9]
 exact⟨aY hR (by unfold de;omega),hM⟩
end Go.Proofs.YtejbeeaomokjpaaGreat
namespace Go.Mor
open Go.RowKit
def Qff(P:Program)(c:Code)(N:FN)(env:Env)(k:Nat):Option (Option Nat×ar×Nat×Int):=match ax c k with
 |some (d,.slice t x none (some y) none,_,g)=>match bD c g env,gp d N,ev env x,ev env y,P.underlying t with
  |some true,true,some (.slice A _ cap),some (.int _ i),some (.slice e)=>match(P.info? e).map (·.size)with
   |some _=>some (d,A,cap,i)
   |none=>none
  |_,_,_,_,_=>none
 |_=>none
section
variable {P : Program} {c : Code} {K : Act → World → Prop} {Q : Exit → Act → World → Prop} {w w0 : World} {S : Nat → Prop} {L : List bx} {k : Nat} {N : FN} {env : Env}
theorem zhi{A:ar}{cap:Nat}{i:Int}(m:Nat)(hi:i=(m:Int))(hm:m≤cap)(h:∀a,Fr a N (dq env (bp c k) (vS A m cap))→bz P c K Q (k+1) a w)(hk:Qff P c N env k=some (bp c k,A,cap,i)):∀a,Fr a N env→bz P c K Q k a w:=fun a hF=>by
 unfold Qff at hk;split at hk
 ·rename_i h0;split at hk
  ·rename_i h1 h2 h3 h4 h5;split at hk
   ·rename_i sz h6;simp only[Option.some.injEq,Prod.mk.injEq]at hk;obtain⟨rfl,rfl,rfl,rfl⟩:=hk;exact gx h0 hF h1 h2 rfl m h3 h4 hi h5 h6 hm (fun a' _=>h a')
   ·cases hk
  ·cases hk
 ·cases hk
end
end Go.Mor
namespace Go.Mor
open Go.RowKit
section
variable {E : Env0} {body : et → Int → Int → List Int → cQ → dp Int} {n : Int} {l : List Int} {s s' : cQ} {f : et} {x : Int}
theorem lk(h:n<1∨n≥(E.fns.length:Int)+1):fF E body n l s= .stop 5 0 s:=by unfold fF;rw[if_pos h]
theorem ql(h:¬(n<1∨n≥(E.fns.length:Int)+1))(hf:E.fns[(n-1).toNat]?=some f):fF E body n l s=if(l.length:Int)≠f.pa then .stop 5 0 s else if s.opened=1200 then .stop 4 0 s else body f 0 (-1) (l++List.replicate (f.va.toNat-l.length) 0) {s with opened:=s.opened+1}:=by unfold fF;rw[if_neg h,hf]
end
def BP(call:Int→af→cQ→dp Int):Prop:=∀n l s x s',call n l s= .ok x s'→s'.opened=s.opened
section
variable {E : Env0} {call : Int → List Int → cQ → dp Int}
theorem yF{s s':cQ}{x:Unit}(h:cT E s= .ok x s'):s'.opened=s.opened:=by
 unfold cT at h;split at h
 ·cases h
 ·injection h with h1 h2;subst h2;rfl
theorem yG(hm:BP call){i:bl}{l:af}{s s':cQ}{x:Int}(h:bV E call i l s= .ok x s'):s'.opened=s.opened:=by
 have fin:∀(y:Int) (s2:cQ),s2.opened=s.opened→dp.ok y s2=dp.ok x s'→s'.opened=s.opened:=by intro y s2 h1 h2;injection h2 with _ h2;rw[←h2];exact h1
 by_cases h1:i.op=1
 ·rw[qa h1]at h;exact fin _ _ rfl h
 by_cases h2:i.op=2
 ·rw[qb h2]at h;cases hq:uy (IntKind.i64.wrap (a0 l+i.n)) s with
  |ok k s2=>rw[k9 hq]at h;exact fin _ _ (by rw[tN hq]) h
  |stop k c s2=>rw[iH hq]at h;cases h
 by_cases h3:i.op=3
 ·rw[qd h3]at h;cases hq:uy (IntKind.i64.wrap (a0 l+i.n)) s with
  |ok k s2=>rw[k9 hq]at h;exact fin _ _ (by rw[tN hq]) h
  |stop k c s2=>rw[iH hq]at h;cases h
 by_cases h4:i.op=4
 ·rw[sm h4]at h;split at h
  ·exact hm _ _ _ _ _ h
  ·cases h
 by_cases h5:i.op=5
 ·rw[sn h5]at h;exact hm _ _ _ _ _ h
 by_cases h6:i.op=6
 ·rw[ox h6]at h;split at h
  ·exact fin _ _ rfl h
  ·cases h
 by_cases h7:i.op=7
 ·rw[oy h7]at h;split at h
  ·exact fin _ _ rfl h
  ·cases h
 by_cases h8:i.op=8
 ·rw[sq h8]at h;split at h
  ·cases h
  ·split at h
   ·cases h
   ·exact fin _ {s with next:=s.next+a0 l} rfl h
 by_cases h9:i.op=9
 ·rw[sr h9]at h;split at h
  ·exact fin _ {s with pos:=s.pos+1} rfl h
  ·exact fin _ _ rfl h
 by_cases xm:i.op=10
 ·rw[oz xm]at h;exact fin _ _ (by split<;>rfl) h
 by_cases Hy:i.op=11
 ·rw[mr Hy]at h;split at h
  ·cases h
  ·exact fin _ _ rfl h
 by_cases Ky:i.op=12
 ·rw[mu Ky]at h;exact fin _ _ rfl h
 by_cases O2:i.op≥40
 ·rw[mv O2]at h;exact fin _ _ rfl h
 rw[kB oM oM]at h;split at h
 ·exact fin _ _ rfl h
 ·cases h
theorem yH(hm:Mv call)(hk:BP call):∀(is:List bl) (v:af) (s:cQ) {v':af} {s':cQ},cS E call is v s= .ok v' s'→s.steps≤s'.steps∧s'.opened=s.opened
 |[],v,s,v',s',h=>by injection h with h1 h2;subst h2;exact⟨Int.le_refl _,rfl⟩
 |i::r,v,s,v',s',h=>by
  have e:cS E call (i::r) v s=(cT E s).bind fun _ s=>(bV E call i (eo v i.args) s).bind fun x s=>cS E call r (Qih i v x) s:=rfl
  rw[e]at h;cases h1:cT E s with
  |stop k c s1=>rw[iH h1]at h;cases h
  |ok u s1=>
   rw[k9 h1]at h;cases h2:bV E call i (eo v i.args) s1 with
   |stop k c s2=>rw[iH h2]at h;cases h
   |ok x s2=>
    rw[k9 h2]at h;obtain⟨h3,h4⟩:=yH hm hk r _ _ h;have h5:=yB h1;have h6:=yF h1;have h7:=yC hm h2;have h8:=yG hk h2;exact⟨oM,oM⟩
theorem II(hm:Mv call)(hk:BP call){f:et}{k from_:Int}{bC:af}{s s':cQ}{nx bk:Int}{v':af}(h:fi E call f k from_ bC s= .ok (nx,bk,v') s'):s.steps+1≤s'.steps∧s'.opened=s.opened:=by
 cases hx:f.bh[k.toNat]? with
 |none=>unfold fi at h;rw[hx]at h;cases h
 |some x=>
  rw[QW hx]at h;cases h1:cS E call x.insts (gr x.au (eG (f.src k.toNat) from_) bC) s with
  |stop a b s1=>rw[iH h1]at h;cases h
  |ok v s1=>
   rw[k9 h1]at h;obtain⟨h3,h4⟩:=yH hm hk _ _ _ h1;cases h2:cT E s1 with
   |stop a b s2=>unfold QV at h;rw[iH h2]at h;cases h
   |ok u s2=>
    rw[QX h2]at h;have h5:=yB h2;have h6:=yF h2;have:s'=s2:=by
     split at h
     ·injection h with _ h;exact h.symm
     ·split at h
      ·injection h with _ h;exact h.symm
      ·split at h
       ·cases h
       ·injection h with _ h;exact h.symm
    subst this;exact⟨oM,oM⟩
theorem lb(g:Nat)(f:et)(k from_:Int)(bC:af)(s:cQ):iW E (g+1) f k from_ bC s=(fi E (cc E g) f k from_ bC s).bind fun r s=>
  if r.1<0 then .ok r.2.1 {s with opened:=s.opened-1}else iW E g f r.1 k r.2.2 s:=rfl
theorem sC{body:et→Int→Int→af→cQ→dp Int}(hb:∀f k from_ v s x s',body f k from_ v s= .ok x s'→s.steps≤s'.steps∧s'.opened=s.opened-1):Mv (fF E body)∧BP (fF E body):=by
 have key:∀n l s x s',fF E body n l s= .ok x s'→s.steps≤s'.steps∧s'.opened=s.opened:=by
  intro n l s x s' h;unfold fF at h;split at h
  ·cases h
  ·split at h
   ·cases h
   ·split at h
    ·cases h
    ·split at h
     ·cases h
     ·obtain⟨h1,h2⟩:=hb _ _ _ _ _ _ _ h;exact⟨h1,by rw[h2];show s.opened+1-1=_;omega⟩
 exact⟨fun n l s x s' h=>(key n l s x s' h).1,fun n l s x s' h=>(key n l s x s' h).2⟩
theorem qX:∀(g:Nat) f k from_ v s x s',iW E g f k from_ v s= .ok x s'→s.steps≤s'.steps∧s'.opened=s.opened-1
 |0,_,_,_,_,_,_,_,h=>by cases h
 |g+1,f,k,from_,v,s,x,s',h=>by
  obtain⟨hm,hk⟩:=sC (E:=E) (qX g);rw[lb]at h;cases h1:fi E (cc E g) f k from_ v s with
  |stop a b s1=>rw[iH h1]at h;cases h
  |ok r s1=>
   rw[k9 h1]at h;obtain⟨nx,bk,v'⟩:=r;obtain⟨h3,h4⟩:=II hm hk h1;split at h
   ·injection h with _ h;subst h;exact⟨by show s.steps≤s1.steps;omega,by show s1.opened-1=_;omega⟩
   ·obtain⟨h5,h6⟩:=qX g _ _ _ _ _ _ _ h;exact⟨oM,oM⟩
theorem BQ(g:Nat):Mv (cc E g):=(sC (qX g)).1
theorem yI(g:Nat):BP (cc E g):=(sC (qX g)).2
end
end Go.Mor
namespace Go.Mor
open Go.RowKit
end Go.Mor
namespace Go.Mor
open Go.RowKit
structure cX where
 nm:aV
 wk:Bool
 pa:Int
 va:Int
 A:ar
 c:Nat
 bh:List aE
def cX.cells(f:cX):aP:=fV f.nm f.wk f.pa f.va f.A f.c f.bh
structure bE where
 nm:aV
 wk:Bool
 wA:ar
 wc:Nat
 words:af
 rA:ar
 rc:Nat
 refs:List (Int×aV)
def bE.cells(d:bE):aP:=[.string d.nm,.bool d.wk,.slice d.wA d.words.length d.wc,.slice d.rA d.refs.length d.rc]
def cR(r:Int×aV):aP:=[vI r.1,.string r.2]
instance : LawfulBEq ByteArray where
  eq_of_beq {a b} h := by simpa [MapKept.bytes_beq] using h
  rfl {a} := by simp [MapKept.bytes_beq]
section
variable {α β : Type} [BEq α] [LawfulBEq α]
theorem KP(s:α)(v:β)(t:α):∀l:List (α×β),fh (V3 l s v) t=if t==s then some v else fh l t
 |[]=>by show(match t==s with|true=>some v|false=>none)=_;cases t==s<;>rfl
 |(k,u)::r=>by
  have ih:=KP s v t r;unfold V3;cases h:s==k with
  |true=>
   have e:=eq_of_beq h;subst e;show(match t==s with|true=>some v|false=>fh r t)=if t==s then some v else(match t==s with|true=>some u|false=>fh r t);cases t==s<;>rfl
  |false=>
   show(match t==k with|true=>some u|false=>fh (V3 r s v) t)=if t==s then some v else(match t==k with|true=>some u|false=>fh r t);cases hk:t==k with
   |true=>
    have e:=eq_of_beq hk;subst e;have:(t==s)=false:=by
     cases hq:t==s
     ·rfl
     ·have e2:=eq_of_beq hq;subst e2;rw[BEq.rfl]at h;cases h
    rw[this];rfl
   |false=>rw[ih]
theorem KQ{l:List (α×β)}{s:α}{v:β}(h:fh l s=some v):(s,v)∈l:=by
 induction l with
 |nil=>cases h
 |cons p r ih=>
  obtain⟨k,u⟩:=p;unfold fh at h;split at h
  ·rename_i hq;have e:=eq_of_beq hq;subst e;injection h with h;subst h;exact List.mem_cons_self ..
  ·exact List.mem_cons_of_mem _ (ih h)
theorem FH{l:List (α×β)}{s:α}(h:s∉l.map (·.1)):fh l s=none:=by
 induction l with
 |nil=>rfl
 |cons p r ih=>
  obtain⟨k,u⟩:=p;simp only[List.map_cons,List.mem_cons,not_or]at h;unfold fh;rw[u0.2 h.1];exact ih h.2
theorem KR{s:α}(v:β):∀{l:List (α×β)},s∉l.map (·.1)→V3 l s v=l++[(s,v)]
 |[],_=>rfl
 |(k,u)::r,h=>by simp only[List.map_cons,List.mem_cons,not_or]at h;unfold V3;rw[u0.2 h.1];show(k,u)::V3 r s v=_;rw[KR v h.2];rfl
theorem QZ{l:List (α×β)}{s:α}{v:β}(h:s∉l.map (·.1))(t:α):fh (l++[(s,v)]) t=if t==s then some v else fh l t:=by
 rw[←KR v h,KP]
end
abbrev NW:=List (aV×Bool)
def fq(nw:NW)(k i:Nat):Bool:=match nw[k]?,nw[i]? with
 |some x,some y=>x.1==y.1&&((!x.2&&y.2)||(x.2==y.2&&decide (k<i)))
 |_,_=>false
def yJ(nw:NW)(i:Nat):Bool:=(List.range nw.length).all fun k=> !fq nw k i
def BR(nw:NW):Nat→List (aV×Int)
 |0=>[]
 |k+1=>match nw[k]? with
  |none=>BR nw k
  |some x=>match fh (BR nw k) x.1 with
   |none=>V3 (BR nw k) x.1 (k:Int)
   |some a=>match nw[a.toNat]? with
    |none=>BR nw k
    |some y=>if(!y.2||x.2)=true then BR nw k else V3 (BR nw k) x.1 (k:Int)
section
variable {nw : NW} {k i j : Nat} {x y : ByteArray × Bool}
theorem lO(hk:nw[k]?=some x)(hi:nw[i]?=some y):fq nw k i=(x.1==y.1&&((!x.2&&y.2)||(x.2==y.2&&decide (k<i)))):=by unfold fq;rw[hk,hi]
theorem Mx(h:fq nw k i=true):fq nw i k=false:=by
 unfold fq at h;split at h
 ·rename_i x y hx hy;rw[lO hy hx];simp only[Bool.and_eq_true,Bool.or_eq_true,beq_iff_eq,Bool.not_eq_true',decide_eq_true_eq]at h;obtain⟨h1,h2⟩:=h;rcases h2 with⟨h2,h3⟩|⟨h2,h3⟩
  ·simp[h2,h3]
  ·simp[h2];omega
 ·cases h
theorem qY:yJ nw i=true↔∀k,k<nw.length→fq nw k i=false:=by
 unfold yJ;simp[List.all_eq_true]
end
def bF{α:Type}(nw:NW)(l:List α)(i:Nat):List α:=((List.range i).filter (yJ nw)).filterMap (fun k=>l[k]?)
section
variable {α : Type} {nw : NW} {l : List α} {i : Nat} {x : α}
theorem tP(hx:l[i]?=some x)(h:yJ nw i=true):bF nw l (i+1)=bF nw l i++[x]:=by
 unfold bF;rw[List.range_succ,List.filter_append,List.filterMap_append];simp[h,hx]
theorem vz(h:yJ nw i=false):bF nw l (i+1)=bF nw l i:=by
 unfold bF;rw[List.range_succ,List.filter_append,List.filterMap_append];simp[h]
theorem fK:(bF nw l i).length≤i:=by
 unfold bF;refine Nat.le_trans (List.length_filterMap_le _ _) (Nat.le_trans (List.length_filter_le _ _) ?_);simp
theorem fL(h:x∈bF nw l i):x∈l:=by
 unfold bF at h;obtain⟨k,_,hk⟩:=List.mem_filterMap.1 h;exact List.mem_of_getElem? hk
end
def fB(fs:List cX):List cX:=bF (fs.map fun f=>(f.nm,f.wk)) fs fs.length
def aF(ds:List bE):List bE:=bF (ds.map fun d=>(d.nm,d.wk)) ds ds.length
def aJ(ds:List bE)(j:Nat):Nat:=1+((ds.take j).map (fun d=>d.words.length)).sum
def cP(ds:List bE)(j:Nat):List (aV×Int):=(ds.take j).zipIdx.map (fun p=>(p.1.nm,(aJ ds p.2:Int)))
theorem FI(ds:List bE):aJ ds 0=1:=rfl
section
variable {ds : List bE} {j : Nat} {d : bE}
theorem fM(h:ds[j]?=some d):aJ ds (j+1)=aJ ds j+d.words.length:=by
 have h1:=(List.getElem?_eq_some_iff.1 h);unfold aJ;rw[kQ,h];simp;omega
theorem ji:∀{i:Nat},j≤i→aJ ds j≤aJ ds i:=by
 intro i h;induction h with
 |refl=>exact Nat.le_refl _
 |step h ih=>
  rename_i m;refine Nat.le_trans ih ?_;cases hm:ds[m]? with
  |none=>
   unfold aJ;rw[kQ,hm];simp
  |some d=>rw[fM hm];omega
theorem sD:1≤aJ ds j:=by unfold aJ;omega
theorem FJ:cP ds 0=[]:=by simp[cP]
theorem vA(h:ds[j]?=some d):cP ds (j+1)=cP ds j++[(d.nm,(aJ ds j:Int))]:=by
 unfold cP;rw[mn h,List.map_append];rfl
theorem vC:∀(j:Nat),j≤ds.length→(cP ds j).map (·.1)=(ds.take j).map (·.nm)
 |0,_=>by simp[FJ]
 |j+1,hj=>by obtain⟨d,hd⟩:=aM (l:=ds) (i:=j) oM;rw[vA hd,List.map_append,vC j oM,kQ,hd];simp
theorem yK(hn:(ds.map (·.nm)).Nodup)(h:ds[j]?=some d):d.nm∉(cP ds j).map (·.1):=by
 have hj:=(List.getElem?_eq_some_iff.1 h).1;rw[vC j oM];intro hm;have e:ds.map (·.nm)=(ds.take j).map (·.nm)++(ds.drop j).map (·.nm):=by rw[←List.map_append,List.take_append_drop]
 rw[e,List.nodup_append]at hn;refine hn.2.2 d.nm hm d.nm ?_ rfl;rw[List.mem_map];exact⟨d,by
  have:(ds.drop j)[0]?=some d:=by rw[List.getElem?_drop];simpa using h
  exact List.mem_of_getElem? this,rfl⟩
theorem IJ(hn:(ds.map (·.nm)).Nodup)(h:ds[j]?=some d):∀(i:Nat),j<i→i≤ds.length→fh (cP ds i) d.nm=some (aJ ds j:Int)
 |0,hi,_=>oM
 |i+1,hi,hl=>by
  obtain⟨e,he⟩:=aM (l:=ds) (i:=i) oM;rw[vA he,QZ (yK hn he)];by_cases hji:j=i
  ·subst hji;rw[h]at he;injection he with he;subst he;rw[BEq.rfl];rfl
  ·have ih:=IJ hn h i oM oM;have dt:d.nm≠e.nm:=by intro heq;have:=yK hn he;rw[←heq]at this;rw[FH this]at ih;cases ih
   rw[u0.2 dt];exact ih
end
def dx(m:af)(p:Nat)(ws:af):af:=m.take p++ws++m.drop (p+ws.length)
def wG(names data:List (aV×Int))(s:aV):Int:=match fh data s with
 |some n=>n
 |none=>(fh names s).getD 0
def e8(names data:List (aV×Int))(p:Nat)(m:af)(rs:List (Int×aV)):af:=rs.foldl (fun m r=>m.set (p+r.1.toNat) (wG names data r.2)) m
def kW(names data:List (aV×Int))(ds:List bE)(bR:Nat):Nat→af
 |0=>List.replicate bR 0
 |j+1=>match ds[j]? with
  |none=>kW names data ds bR j
  |some d=>e8 names data (aJ ds j) (dx (kW names data ds bR j) (aJ ds j) d.words) d.refs
section
variable {names data : List (ByteArray × Int)} {ds : List bE} {bR j : Nat} {d : bE} {m : List Int} {p : Nat}
theorem vD{ws:af}(h:p+ws.length≤m.length):(dx m p ws).length=m.length:=by
 unfold dx;simp;omega
theorem qm:∀(rs:List (Int×aV)) (m:af),(e8 names data p m rs).length=m.length
 |[],_=>rfl
 |r::rs,m=>(qm rs (m.set (p+r.1.toNat) (wG names data r.2))).trans sI
theorem DJ{rs:List (Int×aV)}{r:Int×aV}{q:Nat}(h:rs[q]?=some r):e8 names data p m (rs.take (q+1))=(e8 names data p m (rs.take q)).set (p+r.1.toNat) (wG names data r.2):=by
 rw[kQ,h];unfold e8;simp
theorem yL(h:ds[j]?=some d):kW names data ds bR (j+1)=e8 names data (aJ ds j) (dx (kW names data ds bR j) (aJ ds j) d.words) d.refs:=by
 show(match ds[j]? with
  |none=>kW names data ds bR j
  |some d=>e8 names data (aJ ds j) (dx (kW names data ds bR j) (aJ ds j) d.words) d.refs)=_
 rw[h]
theorem BS:∀(j:Nat),j≤ds.length→aJ ds ds.length≤bR→(kW names data ds bR j).length=bR
 |0,_,_=>by simp[kW]
 |j+1,hj,hm=>by obtain⟨d,hd⟩:=aM (l:=ds) (i:=j) oM;have ih:=BS j oM hm;rw[yL hd,qm,vD,ih];have:=ji (ds:=ds) (j:=j+1) (i:=ds.length) oM;rw[fM hd]at this;omega
theorem Q0{n:Int}{s:aV}(h:fh data s=some n):wG names data s=n:=by unfold wG;rw[h]
theorem FK{s:aV}(h:fh data s=none):wG names data s=(fh names s).getD 0:=by unfold wG;rw[h]
end
end Go.Mor
namespace Go.Mor
open Go.RowKit
theorem sE{α:Type}{f:α→aP}{size:Nat}(hf:∀x,(f x).length=size):∀(l:List α) (i:Nat) (x:α),l[i]?=some x→∀(j:Nat) (v:Value),(f x)[j]?=some v→(l.flatMap f)[i*size+j]?=some v
 |[],i,x,h,_,_,_=>by simp at h
 |y::l,0,x,h,j,v,hv=>by simp at h;subst h;rw[List.flatMap_cons,Fc,Nat.zero_add,List.getElem?_append_left (List.getElem?_eq_some_iff.1 hv).1];exact hv
 |y::l,i+1,x,h,j,v,hv=>by
  have h':l[i]?=some x:=by simpa using h
  have ih:=sE hf l i x h' j v hv;have e:(i+1)*size+j-(f y).length=i*size+j:=by rw[hf,Nat.add_mul];omega
  rw[List.flatMap_cons,List.getElem?_append_right (by rw[hf,Nat.add_mul];omega),e];exact ih
end Go.Mor
namespace Go.Mor
open Go.RowKit
def bE.parts(d:bE):List bx:=[.rd d.wA (ints d.words),.l7 d.rA 2 (d.refs.map cR)]
def bx.cf(A:ar)(ds:List bE):bx:= .all (.l7 A 4 (ds.map bE.cells)::ds.flatMap bE.parts)
section
variable {S : Nat → Prop} {w : World} {A : Option Addr} {ds : List bE} {d : bE}
theorem RO.sF(h:RO S w (.cf A ds)):RO S w (.l7 A 4 (ds.map bE.cells)):=h.sub (List.mem_cons_self ..)
theorem RO.Qb0(h:RO S w (.cf A ds))(hd:d∈ds):RO S w (.rd d.wA (ints d.words)):=h.sub (List.mem_cons_of_mem _ (List.mem_flatMap.2 ⟨d,hd,by simp[bE.parts]⟩))
theorem RO.Qad(h:RO S w (.cf A ds))(hd:d∈ds):RO S w (.l7 d.rA 2 (d.refs.map cR)):=h.sub (List.mem_cons_of_mem _ (List.mem_flatMap.2 ⟨d,hd,by simp[bE.parts]⟩))
end
structure bE.WF(d:bE):Prop where
 name:bB d.nm
 len:d.words.length≤16384
 Qb1:d.refs.length≤16384
 refs:∀r,r∈d.refs→0≤r.1∧r.1<d.words.length
abbrev lyS(mem:af)(n:Int):cQ:=⟨mem,n,0,[],0,0⟩
theorem jI{α:Type}{f:α→aP}{w:World}{e size n c:Nat}{A:ar}{l:List α}(hf:∀x,(f x).length=size)(h0:0<size)(h:(bx.row e size A n c (l.flatMap f)).holds w):(bx.l7 A size (l.map f)).holds w:=by
 have hr:=aD h;intro i cs hi;rw[List.getElem?_map]at hi;cases hx:l[i]? with
 |none=>rw[hx]at hi;cases hi
 |some x=>
  rw[hx]at hi;injection hi with hi;subst hi;have dt:0<(f x).length:=by rw[hf];exact h0
  obtain⟨a,hA,_⟩:=hr (i*size+0) (f x)[0] (sE hf l i x hx 0 _ (by rw[List.getElem?_eq_getElem dt]));refine⟨a,hA,fun j v hv=> ?_⟩;obtain⟨a',WO,hc⟩:=hr (i*size+j) v (sE hf l i x hx j v hv);rw[hA]at WO;injection WO with WO;subst WO;rw[add_add];exact hc
end Go.Mor
namespace Go.Proofs.YtejbeeaomokjpaaGreat
open Go.Mor
end Go.Proofs.YtejbeeaomokjpaaGreat
namespace Go.Mor
open Go.RowKit
section
variable {P : Program} {c : Code} {K : Act → World → Prop} {Q : Exit → Act → World → Prop} {w : World} {k : Nat} {N : FN} {env : Env}
theorem vE{m:Bool}{a:Act}{d:Option Nat}{ty:Nat}{g:Option (Nat×Bool)}{ts:Array TypeId}{x y:Operand}(hk:ax c k=some (d,.call {callee:= .builtin (if m then .max else .min),args:=#[x,y],argTypes:=ts},ty,g))(hF:Fr a N env)(hg:bD c g env=some true)(hd:gp d N=true){kd:IntKind}{i j:Int}(hx:ev env x=some (.int kd i))(hy:ev env y=some (.int kd j))(z:Int)(hz:z=if m then max i j else min i j)(h:∀a,Fr a N (dq env d (.int kd z))→bz P c K Q (k+1) a w):bz P c K Q k a w:=by
 cases m
 ·refine x6 hk hF hg hd rfl hx hy z ?_ (fun a _ hF=>h a hF);rw[hz];simp only[Bool.false_eq_true,if_false];split<;>omega
 ·refine P7 hk hF hg hd rfl hx hy z ?_ (fun a _ hF=>h a hF);rw[hz];simp only[if_true];split<;>omega
theorem zmx(d:Option Nat)(x y:Operand)(ts:Array TypeId)(ty:Nat)(kd:IntKind)(i j:Int)(h:∀a,Fr a N (dq env d (.int kd (max i j)))→bz P c K Q (k+1) a w)(hk:ax c k=some (d,.call {callee:= .builtin .max,args:=#[x,y],argTypes:=ts},ty,none):=by kernel_rfl)(hd:gp d N=true:=by kernel_rfl)(hx:ev env x=some (.int kd i):=by kernel_rfl)(hy:ev env y=some (.int kd j):=by kernel_rfl):∀a,Fr a N env→bz P c K Q k a w:=fun _ hF=>vE (m:=true) hk hF rfl hd hx hy _ rfl h
theorem zmn(d:Option Nat)(x y:Operand)(ts:Array TypeId)(ty:Nat)(kd:IntKind)(i j:Int)(h:∀a,Fr a N (dq env d (.int kd (min i j)))→bz P c K Q (k+1) a w)(hk:ax c k=some (d,.call {callee:= .builtin .min,args:=#[x,y],argTypes:=ts},ty,none):=by kernel_rfl)(hd:gp d N=true:=by kernel_rfl)(hx:ev env x=some (.int kd i):=by kernel_rfl)(hy:ev env y=some (.int kd j):=by kernel_rfl):∀a,Fr a N env→bz P c K Q k a w:=fun _ hF=>vE (m:=false) hk hF rfl hd hx hy _ rfl h
end
theorem RO.Qfg{S:Nat→Prop}{w:World}:RO S w (.rd none []):=⟨fun j v h=>by simp at h,fun g hg=>absurd rfl hg.1⟩
end Go.Mor
namespace Go.Mor
open Go.RowKit
end Go.Mor
namespace Go.Mor
open Go.RowKit
section
variable {S : Nat → Prop} {w0 w : World} {l l' L : List bx} {r r' : bx} {k : Nat}
theorem Mem.Qb2(h:Mem S w0 w L):Mem S w0 w (.pk []::L):=Mem.pack (l:=[]) h
theorem Mem.xw(h:Mem S w0 w (.pk (r::l)::L)):Mem S w0 w (r:: .pk l::L):=((Mem.pack (l:=l) (h.unpack.perm ((List.perm_middle (a:=r) (l₁:=l) (l₂:=L)).symm))).perm (List.Perm.swap ..):_)
theorem Mem.km(h:Mem S w0 w (.pk l::r::L)):Mem S w0 w (.pk (l++[r])::L):=Mem.pack (l:=l++[r]) (by simpa using h.unpack)
theorem Mem.kS(h:Mem S w0 w (.pk l::L))(hs:l'.Sublist l):Mem S w0 w (.pk l'::L):=by
 have h1:=h.unpack;have h2:=List.pairwise_append.1 h1.apart;exact Mem.pack (l:=l') ⟨h1.os,h1.tape,h1.output,h1.size,h1.kept,fun r hr=>h1.own r (by
  rcases List.mem_append.1 hr with hr|hr
  ·exact List.mem_append_left _ (hs.subset hr)
  ·exact List.mem_append_right _ hr),h1.apart.sublist (hs.append_right L)⟩
theorem Mem.rO(w:World):Mem bq w w [.pk []]:=Mem.Qb2 (Mem.init w)
theorem ij{α:Type}(l:List α)(x:α):(l++[x]).length=l.length+1:=sI
theorem jJ{α β:Type}(f:α→β)(l:List α)(x:α):(l++[x]).map f=l.map f++[f x]:=sI
theorem FL{w:World}{l:af}(h:(bx.rd none (ints l)).holds w):l=[]:=by
 cases l with
 |nil=>rfl
 |cons x l=>obtain⟨ad,h1,_⟩:=h 0 _ rfl;cases h1
theorem mz{α β:Type}(f:α→β){l:List α}{k:Nat}{x:α}(h:l[k]?=some x):(l.drop k).map f=f x::(l.drop (k+1)).map f:=by
 obtain⟨hk,he⟩:=List.getElem?_eq_some_iff.1 h;rw[List.drop_eq_getElem_cons hk,he,List.map_cons]
theorem yM{w:World}{A:ar}{ad:Addr}{l:List Bool}(h:(bx.rd A (bS l)).holds w)(hA:A=some ad){i:Int}(h0:0≤i)(h1:i<l.length):w.cell? (ad.add (i.toNat*1))=some (vB (l.getD i.toNat false)):=bJ h hA (j0 oM)
theorem o4{w:World}{l:List bx}{r:bx}(h:(bx.pk l).holds w)(hr:r∈l):r.holds w:=h.1 r hr
theorem RO.kS(h:RO S w (.pk l))(hr:r∈l):RO S w r:=⟨h.1.1 r hr,fun g hg=>h.2 g ⟨r,hr,hg⟩⟩
end
section
variable {P : Program} {c : Code} {K : Act → World → Prop} {Q : Exit → Act → World → Prop} {w w0 : World} {S : Nat → Prop} {L : List bx} {k : Nat} {N : FN} {env : Env} {a : Act}
theorem zB0(d:Nat)(t:TypeId)(ty:TypeId)(hF:Fr a N env){e size:Nat}(hM:Mem S w0 w L)(h:∀b w',w0.heap.size≤b→w.heap.size≤b→Mem S w0 w' (L++[.row e size (some (aZ b)) 0 0 []])→Mem bq w w' [.row e size (some (aZ b)) 0 0 []]→∀a',a'=a.put (some d) (vS (some (aZ b)) 0 0)→Fr a' N (dq env (some d) (vS (some (aZ b)) 0 0))→bz P c K Q (k+1) a' w')(hk:ax c k=some (some d,.buildSlice t 0 #[],ty,none):=by kernel_rfl)(hd:gp (some d) N=true:=by kernel_rfl)(ht:P.underlying t=some (.slice e):=by kernel_rfl)(hi:(P.info? e).map (fun i=>i.size)=some size:=by kernel_rfl):bz P c K Q k a w:=mm hk hF rfl hd rfl ht hi hM h
end
theorem yN(zs:aP)(n:Nat)(hz:0<zs.length):(Builtin.zeroCells zs.toArray n).toList=(List.replicate n zs).flatten:=by
 have:=nq zs n hz;exact this
section
variable {P : Program} {c : Code} {K : Act → World → Prop} {Q : Exit → Act → World → Prop} {a : Act} {w w0 : World} {S : Nat → Prop} {L : List bx} {k k' : Nat} {N : FN} {env : Env}
variable {d : Option Nat} {ty : Nat} {g : Option (Nat × Bool)}
theorem vF{t:TypeId}{x:Operand}(hk:ax c k=some (d,.call {callee:= .builtin .clear,args:=#[x],argTypes:=#[t]},ty,g))(hF:Fr a N env)(hg:bD c g env=some true)(hd:gp d N=true)(iO:k+1=k'){e size:Nat}{z:Value}{zs:aP}(ht:P.underlying t=some (.slice e))(hi:(P.info? e).map (fun i=>(i.size,i.zero))=some (size,some z))(hz:z.cells=zs.toArray)(hzl:zs.length=size)(h0:0<size)(h1:∀v∈zs,v.oneCell'=true){ad:Addr}{off m cap' n cap:Nat}{xs:aP}(hx:ev env x=some (vS (some (ad.add (off*size))) m cap'))(hM:Mem S w0 w L)(i:Nat)(hL:L[i]?=some (.row e size (some ad) n cap xs))(hm:off+m≤n)(h:∀w',Mem S w0 w' (L.set i (.row e size (some ad) n cap (xs.take (off*size)++(List.replicate m zs).flatten++xs.drop ((off+m)*size))))→True→∀a',a'=a.put d undef→Fr a' N (dq env d undef)→bz P c K Q k' a' w'):bz P c K Q k a w:=by
 subst iO;have kt:=hM.get i hL;have hlen:=xe kt;have J9:((List.replicate m zs).flatten).length=m*size:=by simp[hzl]
 have hle:(off+m)*size≤n*size:=Nat.mul_le_mul_right size hm;rw[Nat.add_mul]at hle;obtain⟨w',hr,H2⟩:=lC (P:=P) ((List.replicate m zs).flatten) (off*size) 0 (by intro v hv;obtain⟨l,hl,hv⟩:=List.mem_flatten.1 hv;rw[List.eq_of_mem_replicate hl]at hv;exact h1 v hv) kt (by rw[J9];omega)
 simp only[Nat.add_zero,J9,←Nat.add_mul]at H2;refine ib hk hF hg (v:=undef) (w':=w') (fun o ho hty=> ?_) (h w' (by simpa using hM.mod i hL H2) trivial _ rfl (hF.put hd _));unfold execOp;rw[ho];cases l6:P.info? e with
 |none=>simp[l6]at hi
 |some inf=>
  simp only[l6,Option.map_some,Option.some.injEq,Prod.mk.injEq]at hi;obtain⟨hs,E0⟩:=hi;have hz0:(zeroValue e).run P w= .ok z w:=by simp[zeroValue,typeInfo,l6,E0]
  simp only[resolve,invoke,builtin,Sem.run_bind,Sem.run_pure,Result.andThen_ok,List.map_toArray,List.map_cons,List.map_nil,hF.ev hx,Builtin.clear_];simp only[show(#[t]:Array TypeId)[0]?=some t from rfl,show(#[Value.slice (some (ad.add (off*size))) m cap']:Array Value)[0]?=some (vS (some (ad.add (off*size))) m cap')from rfl,Sem.run_bind,run_underlying ht,Result.andThen_ok];cases m with
  |zero=>
   simp only[List.replicate_zero,List.flatten_nil,storeCells,Sem.run_pure,Result.ok.injEq,true_and]at hr;subst hr;simp[undef]
  |succ m=>
   simp only[Sem.run_bind,hz0,Result.andThen_ok,hz,yN zs _ oM,hr];rfl
end
theorem IK{fn:Func}{t u:Tmp}{ty:TypeId}(h:fn.results=#[.cell t ty,.tmp u])(tmps:Array Value)(P:Program)(w:World){ad:Addr}{vs:aP}{v':Value}(hp:tmps[t]?=some (vP ad))(hq:tmps[u]?=some v')(ht:uJ P ty=some vs.length)(hc:∀(j:Nat) (v:Value),vs[j]?=some v→w.cell? (ad.add j)=some v):(results fn tmps).run P w= .ok (.tuple #[.agg vs.toArray,v']) w:=by
 obtain⟨h1,h2⟩:=lg ht w;have ha:(asAddr (vP ad)).run P w= .ok ad w:=rfl;have hl:(loadVar ty ad).run P w= .ok (.agg vs.toArray) w:=by simp[loadVar,h1,h2,Ka (P:=P) w ad vs hc]
 simp only[results,h];simp[Sem.run_bind,Result.andThen,Array.getD_eq_getD_getElem?,hp,hq,ha,hl]
def ctE(fn:Func)(env:Env):Option (Addr×TypeId×Value):=match fn.results.toList with
 |[.cell t ty,.tmp u]=>match look env t,look env u with
  |some (.pointer (some ad)),some v=>some (ad,ty,v)
  |_,_=>none
 |_=>none
theorem Qfh{P:Program}{fn:Func}{Φ:Value→World→Prop}{N:FN}{env:Env}{w:World}(ad:Addr)(ty:TypeId)(vs:aP)(v':Value)(hc:∀(j:Nat) (v:Value),vs[j]?=some v→w.cell? (ad.add j)=some v)(h:Φ (.tuple #[.agg vs.toArray,v']) w)(ht:uJ P ty=some vs.length:=by kernel_rfl)(hk:ctE fn env=some (ad,ty,v'):=by kernel_rfl)(hD:N.D=[]:=by rfl):∀a,Fr a N env→bodyPost P fn (ez Φ) .ret a w:=fun a hF=>by
 unfold ctE at hk;split at hk
 ·rename_i t ty0 u hr;split at hk
  ·rename_i Vd v0 h1 h2;simp only[Option.some.injEq,Prod.mk.injEq]at hk;obtain⟨rfl,rfl,rfl⟩:=hk;refine bodyPost_ret (v:= .tuple #[.agg vs.toArray,v0]) ?_ (hF.defers.trans hD) ⟨_,rfl,h⟩;refine IK (by apply Array.ext';simpa using hr) _ _ _ ?_ ?_ ht hc
   ·exact hF.slot _ _ h1
   ·exact hF.slot _ _ h2
  ·cases hk
 ·cases hk
end Go.Mor
namespace Go.Mor
open Go.RowKit
theorem RO.all{S:Nat→Prop}{w:World}{l:List bx}(h:∀r,r∈l→RO S w r):RO S w (.all l):=⟨fun r hr=>(h r hr).1,fun g ⟨r,hr,hg⟩=>(h r hr).2 g hg⟩
def Q1:dp Unit→Int×Int×cQ
 | .ok _ s=>(1,0,s)
 | .stop k c s=>(k,c,s)
theorem RO.mono{S:Nat→Prop}{w:World}{r r':bx}(h:RO S w r)(hh:r.holds w→r'.holds w)(hf:∀g,r'.fp g→r.fp g):RO S w r':=⟨hh h.1,fun g hg=>h.2 g (hf g hg)⟩
theorem Q2(n:Nat):List.replicate n (vI 0)=ints (List.replicate n 0):=by simp[ints]
theorem Mem.pk2{S:Nat→Prop}{w0 w:World}{X l L:List bx}(h:Mem S w0 w (.pk X::(l++L))):Mem S w0 w (.pk (X++l)::L):=by
 have h1:=h.unpack;rw[←List.append_assoc]at h1;exact h1.pack
theorem Mem.pk0{S:Nat→Prop}{w0 w:World}{L:List bx}(h:Mem S w0 w L):Mem S w0 w (.pk []::L):=Mem.pack (l:=[]) h
abbrev Out:=Int×Int×af×Int
def kD(g:dp Unit):Out:=((Q1 g).1,(Q1 g).2.1,(Q1 g).2.2.out,(Q1 g).2.2.steps)
abbrev Qii(o:Out)(oA:ar)(oc:Nat):Value:= .agg #[vI o.1,vI o.2.1,.slice oA o.2.2.1.length oc,vI o.2.2.2]
end Go.Mor
namespace Go.Mor
open Go.RowKit
def lyM(E:Env0)(cs:List bE):af:=if aJ cs cs.length≤E.bR then kW E.names (cP cs cs.length) cs E.bR cs.length else List.replicate E.bR 0
def ld(E:Env0)(cs:List bE)(begin:List aV):dp Unit:=if aJ cs cs.length≤E.bR then gW E (E.fuel.toNat+1) begin (lyS (kW E.names E.data cs E.bR cs.length) (aJ cs cs.length))else .stop 3 0 (lyS (List.replicate E.bR 0) (aJ cs cs.length))
theorem WQ{E:Env0}{g:Nat}{l:List aV}{j:Nat}{b:aV}{s:cQ}(h:l[j]?=some b):gW E g (l.drop j) s=match fh E.names b with
  |none=> .stop 5 0 s
  |some n=>(cc E g n [] s).bind fun _ s=>gW E g (l.drop (j+1)) s:=by
 have:l.drop j=b::l.drop (j+1):=by obtain⟨eV,he⟩:=List.getElem?_eq_some_iff.1 h;rw[List.drop_eq_getElem_cons eV,he]
 rw[this];rfl
theorem Q3{E:Env0}{g:Nat}{l:List aV}{j:Nat}{s:cQ}(h:l.length≤j):gW E g (l.drop j) s= .ok () s:=by
 rw[List.drop_eq_nil_of_le h];rfl
theorem WR{E:Env0}{cs:List bE}{l:List aV}(hd:E.data=cP cs cs.length)(h:aJ cs cs.length≤E.bR):ld E cs l=gW E (E.fuel.toNat+1) l (lyS (lyM E cs) (aJ cs cs.length)):=by
 unfold ld lyM;rw[if_pos h,if_pos h,hd]
theorem Qb3{E:Env0}{cs:List bE}{l:List aV}(h:¬aJ cs cs.length≤E.bR):ld E cs l= .stop 3 0 (lyS (lyM E cs) (aJ cs cs.length)):=by
 unfold ld lyM;rw[if_neg h,if_neg h]
end Go.Mor
