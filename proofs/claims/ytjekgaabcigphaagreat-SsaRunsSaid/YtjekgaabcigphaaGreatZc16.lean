/-
  Texts of the proof, part 16.
-/
import Derived.Test.YtjekgaabcigphaaGreatZc15
import Derived.Laws.BytesArg
set_option maxRecDepth 10000
namespace Go.Mor
open Go.RowKit
theorem Kz{P:Program}{w:World}{A:ao}{n c:Nat}{l:af}{src dst e:TypeId}(hn:l.length=n)(h:(bx.rd A (l.map (Value.int .u8))).holds w)(hs:P.underlying src=some (.slice e))(he:P.underlying e=some (.int .u8))(hd:P.underlying dst=some .string):(convert src dst (vS A n c)).run P w= .ok (vT (strOfNums l)) w:=by
 subst hn;rw[run_convert_bytes_string w src dst e A l.length c hs he hd];cases A with
 |none=>
  have:l=[]:=by
   cases l with
   |nil=>rfl
   |cons x r=>
    obtain⟨a,ha,_⟩:=h 0 (.int .u8 x) rfl;cases ha
  subst this;simp[Conv.bytesToString,strOfNums];rfl
 |some a=>
  have hl:(loadCells a l.length).run P w= .ok (l.map (Value.int .u8)).toArray w:=by
   have:=run_loadCells_list (P:=P) w a (l.map (Value.int .u8)) (fun j v hj=>by obtain⟨a',lM,hc⟩:=h j v hj;injection lM with lM;rw[lM];exact hc)
   simpa using this
  rw[run_bytesToString w a l.length c l hl,foldl_push_bytes];simp[strOfNums,ByteArray.empty,ByteArray.emptyWithCapacity];rfl
def csE(P:Program)(c:Code)(N:FN)(env:Env)(k:Nat):Option (Option Nat×ao×Nat×Nat):=match ay c k with
 |some (d,.convert t t' x,_,g)=>match bt c g env,gq d N,ev env x,P.underlying t,P.underlying t' with
  |some true,true,some (.slice A n cap),some (.slice e),some .string=>match P.underlying e with
   |some (.int .u8)=>some (d,A,n,cap)
   |_=>none
  |_,_,_,_,_=>none
 |_=>none
theorem ZT{P:Program}{c:Code}{N:FN}{env:Env}{k:Nat}{d:Option Nat}{A:ao}{n cap:Nat}(h:csE P c N env k=some (d,A,n,cap)):∃t t' x ty g e,ay c k=some (d,.convert t t' x,ty,g)∧bt c g env=some true∧gq d N=true∧ev env x=some (vS A n cap)∧P.underlying t=some (.slice e)∧P.underlying e=some (.int .u8)∧P.underlying t'=some .string:=by
 unfold csE at h;split at h
 ·rename_i h0;split at h
  ·rename_i h1 h2 h3 h4 h5;split at h
   ·rename_i h6;simp only[cP,cF]at h;obtain⟨rfl,rfl,rfl,rfl⟩:=h;exact⟨_,_,_,_,_,_,h0,h1,h2,h3,h4,h6,h5⟩
   ·cases h
  ·cases h
 ·cases h
section
variable {P : Program} {c : Code} {K : Act → World → Prop} {Q : Exit → Act → World → Prop} {w : World} {k : Nat} {N : FN} {env : Env}
theorem zcs(l:af)(A:ao)(n cap:Nat)(hn:l.length=n)(hr:(bx.rd A (l.map (Value.int .u8))).holds w)(h:∀a,Fr a N (cO env (aQ c k) (vT (strOfNums l)))→aV P c K Q (k+1) a w)(hk:csE P c N env k=some (aQ c k,A,n,cap):=by kernel_rfl):∀a,Fr a N env→aV P c K Q k a w:=fun a hF=>by
 obtain⟨t,t',x,ty,g,e,h0,h1,h2,h3,h4,h5,h6⟩:=ZT hk;refine eD h0 hF h1 h2 rfl (fun o ho=> ?_) (fun a' _=>h a');unfold execOp;rw[ho];simp[hF.ev h3,cT,Kz hn hr h4 h5 h6,dz]
end
end Go.Mor
namespace Go.Proofs.YtjekgaabcigphaaGreat
open Go.Mor
theorem ZU(k c st k2 c2 HR:Int)(o o2:af)(A A2:ao)(ac PZ:Nat)(w:World)(hA:RO aX w (.rd A (ji o)))(hA2:RO aX w (.rd A2 (ji o2))):Calls Tryz.prog 12 #[(.agg #[vI k,vI c,vS A o.length ac,vI st]),(.agg #[vI k2,vI c2,vS A2 o2.length PZ,vI HR])] w (ff fun v w'=>v=vB (decide (k=k2∧c=c2∧(strOfNums o).toList=(strOfNums o2).toList))∧Mem aX w w' []):=by
 refine gF 26 [(.agg #[vI k,vI c,vS A o.length ac,vI st]),(.agg #[vI k2,vI c2,vS A2 o2.length PZ,vI HR])] Tryz.func12 ?_;have hM:=Mem.init w;refine aG<|lO hM 30 (.agg #[vI k,vI c,vS A o.length ac,vI st]) [vI k,vI c,vS A o.length ac,vI st] fun b1 w2 iW M3=> ?_
 replace M3:=M3.nf;clear hM;refine lO M3 30 (.agg #[vI k2,vI c2,vS A2 o2.length PZ,vI HR]) [vI k2,vI c2,vS A2 o2.length PZ,vI HR] fun b4 w5 Pu M6=> ?_
 replace M6:=M6.nf;refine ae 1<|au<|aG<|ae 1<|bB (aZ b1) _ (aa (M6.get 0 rfl) rfl)<|ae 1<|bB (aZ b4) _ (aa (M6.get 1 rfl) rfl)<|ae 2 ?_;obtain⟨B7,yg⟩:∃B:Bool,B=((k:Int)==k2):=⟨_,rfl⟩;refine bQ [(2,pT b1 0),(3,pT b4 0),(10,(vB ((k:Int)==k2)))] ?_;rw[←yg];have PX:B7=true↔((k:Int)=k2):=by rw[yg];simp only[ax]
 clear yg;intro aC fr;refine cE 1 7 [11] fr (news:=[(11,cond B7 (pT b1 1) undef)]) (by cases B7<;>kernel_rfl) ?_;intro aC fr;refine az (B:=B7) (d:=(some 12)) (vI c) fr (by cases B7<;>kernel_rfl) (fun hB hh=> ?_) ?_;cases B7<;>first|(exact absurd hB dQ)|skip
 have c7:((k:Int)=k2):=PX.1 rfl;exact bq (some 12) (ah b1 1) fr kR (vI c) (aa (M6.get 0 rfl) rfl) hh;intro aC fr;refine cE 1 9 [13] fr (news:=[(13,cond B7 (pT b4 1) undef)]) (by cases B7<;>kernel_rfl) ?_;intro aC fr;refine az (B:=B7) (d:=(some 14)) (vI c2) fr (by cases B7<;>kernel_rfl) (fun hB hh=> ?_) ?_;cases B7<;>first|(exact absurd hB dQ)|skip
 have c7:((k:Int)=k2):=PX.1 rfl;exact bq (some 14) (ah b4 1) fr kR (vI c2) (aa (M6.get 1 rfl) rfl) hh;intro aC fr;refine cE 3 13 [16,17] fr (news:=[(16,(vB (B7&&((c:Int)==c2)))),(17,(vB (B7&&((c:Int)==c2))))]) (by cases B7<;>kernel_rfl) ?_;intro aC fr;obtain⟨B20,Qel⟩:∃B:Bool,B=(B7&&((c:Int)==c2)):=⟨_,rfl⟩;revert aC;refine bQ [(2,pT b1 0),(3,pT b4 0),(17,(vB (B7&&((c:Int)==c2))))] ?_;rw[←Qel];have Qem:B20=true↔(((k:Int)=k2)∧((c:Int)=c2)):=by rw[Qel];simp only[bo,ax,PX]
 clear Qel;intro aC fr;refine cE 1 14 [18] fr (news:=[(18,cond B20 (pT b1 2) undef)]) (by cases B20<;>kernel_rfl) ?_;intro aC fr;refine az (B:=B20) (d:=(some 19)) (vS A o.length ac) fr (by cases B20<;>kernel_rfl) (fun hB hh=> ?_) ?_;cases B20<;>first|(exact absurd hB dQ)|skip
 have Fq:(((k:Int)=k2)∧((c:Int)=c2)):=Qem.1 rfl;exact bq (some 19) (ah b1 2) fr kR (vS A o.length ac) (aa (M6.get 0 rfl) rfl) hh;intro aC fr;cases B20;have Fq:¬(((k:Int)=k2)∧((c:Int)=c2)):=jv Qem.2;revert aC;refine ae 7<|au<|bG<|cK (vB false) ?_;have hR:false=true↔False:=sI;have AY:=M6.od [] 0;exact⟨bf hR (⟨fun h_=>h_.elim,fun h_=>by have h1:=h_.1;have h2:=h_.2.1;omega⟩),AY⟩;have Fq:(((k:Int)=k2)∧((c:Int)=c2)):=Qem.1 rfl;revert aC;refine zcs o A o.length ac rfl (M6.ro hA)<|ae 1<|bB (ah b4 2) _ (aa (M6.get 1 rfl) rfl)<|zcs o2 A2 o2.length PZ rfl (M6.ro hA2)<|ae 3<|au<|bG<|cK (vB (((strOfNums o):aM).toList==((strOfNums o2):aM).toList)) ?_;have hR:(((strOfNums o):aM).toList==((strOfNums o2):aM).toList)=true↔(((strOfNums o)).toList=((strOfNums o2)).toList):=by simp only[ax]
 have pd:=M6.od [] 0;exact⟨bf hR (⟨fun h_=>⟨oM,oM,h_⟩,fun h_=>h_.2.2⟩),pd⟩
theorem ZV(k c st k2 c2 HR:Int)(o o2:af)(A A2:ao)(ac PZ:Nat)(w:World)(hA:RO aX w (.rd A (ji o)))(hA2:RO aX w (.rd A2 (ji o2))):Calls Tryz.prog 6 #[(.agg #[vI k,vI c,vS A o.length ac,vI st]),(.agg #[vI k2,vI c2,vS A2 o2.length PZ,vI HR])] w (ff fun v w'=>v=vB (decide (st=HR∧(k=k2∧c=c2∧(strOfNums o).toList=(strOfNums o2).toList)))∧Mem aX w w' []):=by
 refine gF 15 [(.agg #[vI k,vI c,vS A o.length ac,vI st]),(.agg #[vI k2,vI c2,vS A2 o2.length PZ,vI HR])] Tryz.func6 ?_;have hM:=Mem.init w;refine aG<|lO hM 30 (.agg #[vI k,vI c,vS A o.length ac,vI st]) [vI k,vI c,vS A o.length ac,vI st] fun b1 w2 iW M3=> ?_
 replace M3:=M3.nf;clear hM;refine lO M3 30 (.agg #[vI k2,vI c2,vS A2 o2.length PZ,vI HR]) [vI k2,vI c2,vS A2 o2.length PZ,vI HR] fun b4 w5 Pu M6=> ?_
 replace M6:=M6.nf;refine ae 1<|au<|aG<|ae 1<|bB (ah b1 3) _ (aa (M6.get 0 rfl) rfl)<|ae 1<|bB (ah b4 3) _ (aa (M6.get 1 rfl) rfl)<|ae 2 ?_;obtain⟨B7,yg⟩:∃B:Bool,B=((st:Int)==HR):=⟨_,rfl⟩;refine bQ [(2,pT b1 0),(3,pT b4 0),(10,(vB ((st:Int)==HR)))] ?_;rw[←yg];have PX:B7=true↔((st:Int)=HR):=by rw[yg];simp only[ax]
 clear yg;cases B7;have c7:¬((st:Int)=HR):=jv PX.2;refine ae 5<|au<|bG<|cK (vB false) ?_;have hR:false=true↔False:=sI;have M8:=M6.od [] 0;exact⟨bf hR (⟨fun h_=>h_.elim,fun h_=>by have h1:=h_.1;omega⟩),M8⟩;have c7:((st:Int)=HR):=PX.1 rfl;refine gS (aZ b1) [vI k,vI c,vS A o.length ac,vI st] (bp (M6.get 0 rfl))<|gS (aZ b4) [vI k2,vI c2,vS A2 o2.length PZ,vI HR] (bp (M6.get 1 rfl))<|eb (ZU k c st k2 c2 HR o o2 A A2 ac PZ w5 (hA.at_ M6) (hA2.at_ M6)) ?_;rintro _ w9 ⟨rfl,QbH⟩;have ia:=M6.cl QbH;refine ae 2<|au<|bG<|cK (vB (decide (k=k2∧c=c2∧(strOfNums o).toList=(strOfNums o2).toList))) ?_;have hR:decide (k=k2∧c=c2∧(strOfNums o).toList=(strOfNums o2).toList)=true↔(k=k2∧c=c2∧(strOfNums o).toList=(strOfNums o2).toList):=by simp only[aE]
 have p8:=ia.od [] 0;exact⟨bf hR (⟨fun h_=>⟨oM,h_⟩,fun h_=>h_.2⟩),p8⟩
theorem Pe(w:World):Calls Tryz.prog 5 #[] w (ff fun v w'=>v=vB (decide (True))∧Mem aX w w' []):=by
 refine gF 38 [] Tryz.func5 ?_;have hM:=Mem.init w;refine aW<|aG<|ae 1 ?_;intro aC fr;refine p6 4 40 1 #[(0,.const (vI 0))] 40 fr (e:=3) (size:=1) (zs:=[vI 0]) (vs:=[(0,vI 0)]) (cs:=[vI 0]) hM ?_;intro b1 w2 iW _ M3 _ aC ea fr;clear ea;replace M3:=M3.nf;clear hM;revert aC;refine ae 1 ?_;intro aC fr;refine p6 6 43 2 #[(0,.tmp 3),(1,.tmp 5)] 43 fr (e:=42) (size:=5) (zs:=[vI 0,vI 0,vI 0,vT ⟨#[]⟩,ag]) (vs:=[(0,(.agg #[vI 1,vI 0,vI 7,vT ⟨#[]⟩,ag])),(1,(.agg #[vI 10,vI (-1),vI 0,vT ⟨#[]⟩,vS (sM b1) 1 1]))]) (cs:=[vI 1,vI 0,vI 7,vT ⟨#[]⟩,ag,vI 10,vI (-1),vI 0,vT ⟨#[]⟩,vS (sM b1) 1 1]) M3 ?_;intro b8 w9 hb8 _ ia _ aC ea fr;clear ea;replace ia:=ia.nf;revert aC;refine ae 1 ?_;intro aC fr;refine p6 8 33 1 #[(0,.tmp 7)] 33 fr (e:=46) (size:=6) (zs:=[ag,ag,vI 0,vI 0,vI 0,vI 0]) (vs:=[(0,(.agg #[ag,vS (sM b8) 2 2,vI 2,vI (-1),vI 0,vI 0]))]) (cs:=[ag,vS (sM b8) 2 2,vI 2,vI (-1),vI 0,vI 0]) ia ?_;intro jg vF QbK _ kn _ aC ea fr;clear ea;replace kn:=kn.nf;revert aC;refine ae 1<|m8 kn 35 [vT ⟨#[]⟩,vB false,vI 0,vI 0,ag] fun nB Fu Qdf gn=> ?_
 replace gn:=gn.nf;refine nG gn 3 [vT ⟨#[102]⟩,vB false,vI 0,vI 1,vS (sM jg) 1 1] rfl fun Je eJ=> ?_
 replace eJ:=eJ.nf;refine au<|aG<|gS (aZ nB) [vT ⟨#[102]⟩,vB false,vI 0,vI 1,vS (sM jg) 1 1] (bp (eJ.get 3 rfl)) ?_;intro aC fr;refine p6 11 22 1 #[(0,.tmp 10)] 22 fr (e:=35) (size:=5) (zs:=[vT ⟨#[]⟩,vB false,vI 0,vI 0,ag]) (vs:=[(0,(.agg #[vT ⟨#[102]⟩,vB false,vI 0,vI 1,vS (sM jg) 1 1]))]) (cs:=[vT ⟨#[102]⟩,vB false,vI 0,vI 1,vS (sM jg) 1 1]) eJ ?_;intro wL w28 Qig _ ue _ aC ea fr;clear ea;replace ue:=ue.nf;revert aC;refine cU [1,11] ?_;intro aC fr;refine p6 12 24 1 #[(0,(.const (vT {data:=#[102]})))] 24 fr (e:=9) (size:=1) (zs:=[vT ⟨#[]⟩]) (vs:=[(0,vT ⟨#[102]⟩)]) (cs:=[vT ⟨#[102]⟩]) ue ?_;intro Le w35 Qfg _ rO _ aC ea fr;clear ea;replace rO:=rO.nf;revert aC;refine eb ((by have h9:=Qbm [ZP (sM jg) (sM b8) (sM b1)] (sM wL) 1 [] none 0 [ZO] (sM Le) 1 10 [] none 0 10 w35 (QhO (Ve (A5:=(sM b1)) (A7:=(sM b8)) (A9:=(sM jg)) (rO.get 0 rfl) (rO.get 1 rfl) (rO.get 2 rfl)) (rO.get 4 rfl) (rO.get 5 rfl));rw[Qek]at h9;exact h9)) ?_;rintro _ w43 ⟨QhP,QhQ,rfl,Q7⟩;have rN:=rO.cl Q7;refine m8 rN 30 [vI 0,vI 0,ag,vI 0] fun uW w46 Qfd AX=> ?_
 replace AX:=AX.nf;refine nG AX 7 [vI 1,vI 0,vS QhP 1 QhQ,vI 3] rfl fun Ni p7=> ?_
 replace p7:=p7.nf;refine au<|aG<|gS (aZ nB) [vT ⟨#[102]⟩,vB false,vI 0,vI 1,vS (sM jg) 1 1] (bp (p7.get 3 rfl))<|eb ((by have h9:=Mk ZO false 0 1 (sM jg) 1 [BZ (sM b8) (sM b1)] Ni sI Vc (Ve (A5:=(sM b1)) (A7:=(sM b8)) (A9:=(sM jg)) (p7.get 0 rfl) (p7.get 1 rfl) (p7.get 2 rfl));rw[HQ]at h9;exact h9)) ?_;rintro _ w50 ⟨rfl,QkI⟩;have pK:=p7.cl QkI;refine ae 2<|gS (aZ nB) [vT ⟨#[102]⟩,vB false,vI 0,vI 1,vS (sM jg) 1 1] (bp (pK.get 3 rfl))<|eb ((by have h9:=Sg ZO false 0 1 (sM jg) 1 [BZ (sM b8) (sM b1)] w50 sI Vc (Ve (A5:=(sM b1)) (A7:=(sM b8)) (A9:=(sM jg)) (pK.get 0 rfl) (pK.get 1 rfl) (pK.get 2 rfl));rw[ZS]at h9;exact h9)) ?_;rintro _ w52 ⟨rfl,Ti⟩;have wo:=pK.cl Ti;refine ae 4<|bB (aZ uW) _ (aa (wo.get 7 rfl) rfl)<|ae 4<|bB (ah uW 2) _ (aa (wo.get 7 rfl) rfl)<|cU [2,27,29]<|zcs [7] QhP 1 QhQ rfl (aF (wo.get 6 rfl))<|ae 3 ?_;obtain⟨Dg,Ku⟩:∃B:Bool,B=(((strOfNums [7]):aM).toList==(⟨#[7]⟩:aM).toList):=⟨_,rfl⟩;refine bQ [(2,pT uW 0),(33,(vB (((strOfNums [7]):aM).toList==(⟨#[7]⟩:aM).toList)))] ?_;rw[←Ku];have O9:Dg=true↔(((strOfNums [7])).toList=(⟨#[7]⟩:aM).toList):=by rw[Ku];simp only[ax]
 clear Ku;intro aC fr;refine cE 1 21 [34] fr (news:=[(34,cond Dg (pT uW 3) undef)]) (by cases Dg<;>kernel_rfl) ?_;intro aC fr;refine az (B:=Dg) (d:=(some 35)) (vI 3) fr (by cases Dg<;>kernel_rfl) (fun hB hh=> ?_) ?_;cases Dg<;>first|(exact absurd hB dQ)|skip
 have C8:(((strOfNums [7])).toList=(⟨#[7]⟩:aM).toList):=O9.1 rfl;exact bq (some 35) (ah uW 3) fr kR (vI 3) (aa (wo.get 7 rfl) rfl) hh;intro aC fr;refine cE 3 25 [0,37] fr (news:=[(0,vB Dg),(37,vB Dg)]) (by cases Dg<;>kernel_rfl) ?_;intro aC fr;revert aC;refine au<|bG<|cK (vB Dg) ?_;have hR:Dg=true↔(((strOfNums [7])).toList=(⟨#[7]⟩:aM).toList):=by simp only[O9]
 have r9:=wo.od [] 0;exact⟨bf hR (⟨fun _=>trivial,fun _=>bE ByteArray.toList (rfl:strOfNums [7]=⟨#[7]⟩)⟩),r9⟩
theorem Dk(w:World):Calls Tryz.prog 5 #[] w (ff fun v w'=>v=vB true∧Mem aX w w' []):=by
 have h:=Pe w;simpa using h
end Go.Proofs.YtjekgaabcigphaaGreat
namespace Go.Proofs.YtjekgaabcigphaaGreat
open Go.Mor
set_option maxHeartbeats 1000000 in
theorem Vf(fs:List cX)(fA:ao)(fc:Nat)(ds:List bh)(dA:ao)(dc:Nat)(g:Nat)(gA:ao)(gc:Nat)(mem:Int)(i:Nat)(iA:ao)(ic:Nat)(fuel:Int)(w:World)(Vh:dh fs.length)(AZ:dh ds.length)(pg:RO aX w (.jY fA 5 (fs.map cX.cells)))(jV:∀x,x∈fs→xX x.aJ)(Yj:∀x,x∈fs→RO aX w (.fn x.A x.aJ))(oJ:RO aX w (.cp dA ds))(Dv:∀d,d∈ds→S6 d∧∀x,x∈d.words→In64 x):Calls Tryz.prog 4 #[vS fA fs.length fc,vS dA ds.length dc,vS gA g gc,vI mem,vS iA i ic,vI fuel] w (ff fun v w'=>v=vB (decide (Ag fs ds g mem i fuel))∧Mem aX w w' []):=by
 unfold dh at Vh AZ;refine gF 88 [vS fA fs.length fc,vS dA ds.length dc,vS gA g gc,vI mem,vS iA i ic,vI fuel] Tryz.func4 ?_;have hM:=Mem.init w;refine aW<|aU<|aW<|cC 0 ?_;intro aC fr;refine fX (fun n_ a_ w_=>∃(j:Nat),n_=fs.length-j∧Fr a_ 88 [(0,vS fA fs.length fc),(1,vS dA ds.length dc),(2,vS gA g gc),(3,vI mem),(4,vS iA i ic),(5,vI fuel),(13,nV j)]∧Mem aX w w_ []∧(j≤fs.length)∧(∀(i:Nat) (x:cX),i<j→fs[i]?=some x→¬m7 x.va x.aJ)) (n:=_) ⟨0,rfl,fr.kp [0,1,2,3,4,5,13],hM,cf _,fun _ _ h=>absurd h (ee _)⟩ ?_;clear fr aC hM;rintro n aC w3 ⟨j,rfl,fr,M4,hj,hng⟩;revert aC;refine aU<|aG<|ae 5 ?_;obtain⟨B7,yg⟩:∃B:Bool,B=decide ((j:Int)<(fs.length:Int)):=⟨_,rfl⟩;refine bQ [(0,vS fA fs.length fc),(1,vS dA ds.length dc),(2,vS gA g gc),(3,vI mem),(4,vS iA i ic),(5,vI fuel),(13,nV j),(20,(vB (decide ((j:Int)<(fs.length:Int)))))] ?_;rw[←yg];have PX:B7=true↔((j:Int)<(fs.length:Int)):=by rw[yg];simp only[aE]
 clear yg;intro aC fr;refine cE 3 8 [23] fr (news:=[(23,(vB (B7&&decide ((j:Int)<30))))]) (by cases B7<;>kernel_rfl) ?_;intro aC fr;revert aC;refine au<|eF (B7&&decide ((j:Int)<30)) (((j:Int)<(fs.length:Int))∧((j:Int)<30)) (by simp only[bo,aE,PX]) (fun uc=> ?_) (fun uc=> ?_);refine bN<|aU<|cC 1<|aG ?_;obtain⟨f,hf⟩:=aY (l:=fs) (i:=j) oM;have Be:=bu hf;refine ae 2 ?_;obtain⟨jT,rfl⟩:=bd (M4.ro pg) (i:=j) (gm hf);refine eM jT fs.length 5 (j:Int) ?_;refine gS (aN jT (j:Int) 5) [vT f.nm,vB f.wk,vI f.pa,vI f.va,vS f.A ((aq f.aJ).length) f.c] (dk (i:=j) (M4.ro pg) rfl (gm hf)) ?_;refine eb (On f.nm f.wk f.pa f.va f.A f.c f.aJ w3 (jV f Be) ((Yj f Be).at_ M4)) ?_;rintro _ Vo ⟨rfl,Qen⟩;have lQ:=M4.cl Qen;refine au<|gp (m7 f.va f.aJ) (fun Ny=> ?_) (fun Ny=> ?_);refine aW<|bG<|da<|da<|cK (vB true) ?_;have hR:true=true↔True:=sI;exact⟨bf hR (⟨fun _=> .inl ⟨j,f,oM,hf,Ny⟩,fun _=>trivial⟩),lQ⟩;refine bN<|cN<|ae 1<|dw ((j:Int)+1)<|ae 1<|au ?_;intro aC fr;exact⟨fs.length-(j+1),oM,j+1,rfl,fr.kp [0,1,2,3,4,5,13],lQ,oM,fun i x hi hx=>by rcases pe i j with h_|h_;exact hng i x h_ hx;obtain rfl:i=j:=oM;rw[hf]at hx;injection hx with hx;subst hx;exact Ny⟩;refine fP 0<|fQ<|aW<|aU<|aW<|cC 2 ?_;have Cq:¬∃(j:Nat) (f:cX),j<30∧fs[j]?=some f∧m7 f.va f.aJ:=by rintro⟨i,x,h1_,C6,EW⟩;have h4_:=(List.getElem?_eq_some_iff.1 C6).1;exact hng i x oM C6 EW
 intro aC fr;refine fX (fun n_ a_ w_=>∃(k:Nat) (nk:Int),n_=ds.length-k∧Fr a_ 88 [(0,vS fA fs.length fc),(1,vS dA ds.length dc),(2,vS gA g gc),(3,vI mem),(4,vS iA i ic),(5,vI fuel),(14,vI nk),(15,nV k)]∧Mem aX w w_ []∧(k≤ds.length∧k≤50)∧(nk=Ia (ds.take k))) (n:=_) ⟨0,0,rfl,fr.kp [0,1,2,3,4,5,14,15],M4,oM,rfl⟩ ?_;clear fr aC M4;rintro n aC Vx ⟨k,nk,rfl,fr,lR,hk,hn⟩;revert aC;refine aU<|aG<|ae 5 ?_;obtain⟨LR,z5⟩:∃B:Bool,B=decide ((k:Int)<(ds.length:Int)):=⟨_,rfl⟩;refine bQ [(0,vS fA fs.length fc),(1,vS dA ds.length dc),(2,vS gA g gc),(3,vI mem),(4,vS iA i ic),(5,vI fuel),(14,vI nk),(15,nV k),(35,(vB (decide ((k:Int)<(ds.length:Int)))))] ?_;rw[←z5];have N6:LR=true↔((k:Int)<(ds.length:Int)):=by rw[z5];simp only[aE]
 clear z5;intro aC fr;refine cE 3 8 [38] fr (news:=[(38,(vB (LR&&decide ((k:Int)<50))))]) (by cases LR<;>kernel_rfl) ?_;intro aC fr;revert aC;refine au<|eF (LR&&decide ((k:Int)<50)) (((k:Int)<(ds.length:Int))∧((k:Int)<50)) (by simp only[bo,aE,N6]) (fun YF=> ?_) (fun YF=> ?_);refine bN<|aU<|cC 3 ?_;obtain⟨d,hd⟩:=aY (l:=ds) (i:=k) oM;have hdI:=(Dv d (bu hd)).1;have hw1:=hdI.2.1;have hw2:=hdI.2.2.1;unfold dh at hw1 hw2;have hk50:nk≤500000:=by rw[hn];have:=Qf1 (ds.take k);rw[mq]at this;omega
 have MS:=Tf (ds.take k);obtain⟨ny,rfl⟩:=bd (lR.ro oJ.oy) (cs:=d.cells) (i:=k) (gm hd);refine cU [0,1,2,3,4,5,14,15] ?_;intro aC fr;refine mE 16 (aP [eI nk,eS (some ny) ds.length dc,.bb (nV k),eA ny (k:Int) 4,eP ((aN ny (k:Int) 4).add 2),eS d.wA d.words.length d.wc,eI (d.words.length:Int),eI ((min d.words.length 5000:Nat):Int),eI (nk+((min d.words.length 5000:Nat):Int)),eS (some ny) ds.length dc,.bb (nV k),eA ny (k:Int) 4,eP ((aN ny (k:Int) 4).add 3),eS d.rA d.refs.length d.rc,eI (d.refs.length:Int),eI ((min d.refs.length 5000:Nat):Int)]) fr (la (kB (eL lz dP dP dP (dI ny ds.length 4 (k:Int)) dP (dL ((aN ny (k:Int) 4).add 2) _ fun w_ hK=>(ba ((lR.an hK).ro oJ.oy) rfl (i:=k) (cs:=d.cells) (gm hd) 2 _ rfl)) dP (dMN .i64 (d.words.length:Int) 5000 ((min d.words.length 5000:Nat):Int) (.tmp 47) (.const (vI 5000)) #[3,3] 3 none (by split<;>omega)) (dA (nk+((min d.words.length 5000:Nat):Int))) dP dP (dI ny ds.length 4 (k:Int))) dP (dL ((aN ny (k:Int) 4).add 3) _ fun w_ hK=>(ba ((lR.an hK).ro oJ.oy) rfl (i:=k) (cs:=d.cells) (gm hd) 3 _ rfl)) dP) (dMN .i64 (d.refs.length:Int) 5000 ((min d.refs.length 5000:Nat):Int) (.tmp 55) (.const (vI 5000)) #[3,3] 3 none (by split<;>omega))) ?_;intro aC w36 vs hK hv fr;revert aC;refine bQ [(0,vS fA fs.length fc),(1,vS (some ny) ds.length dc),(2,vS gA g gc),(3,vI mem),(4,vS iA i ic),(5,vI fuel),(15,nV k),(49,(vI (nk+((min d.words.length 5000:Nat):Int)))),(56,(vI ((min d.refs.length 5000:Nat):Int)))] ?_;have ud:=lR.an hK;clear hK hv fr aC lR;clear vs;refine dw ((nk+((min d.words.length 5000:Nat):Int))+((min d.refs.length 5000:Nat):Int))<|ae 1<|au<|cN<|ae 1<|dw ((k:Int)+1)<|ae 1<|au ?_;intro aC fr;exact⟨ds.length-(k+1),oM,k+1,((nk+((min d.words.length 5000:Nat):Int))+((min d.refs.length 5000:Nat):Int)),rfl,fr.kp [0,1,2,3,4,5,14,15],ud,oM,by rw[Te hd];omega⟩;refine fP 2<|fQ<|aG ?_;have hn5:nk=Ia (ds.take 50):=by
          rw[hn];by_cases h_:k=ds.length
          · by_cases C6:k≤50
            · rw[kh oM,kh oM]
            · omega
          · rw[show k=50 by omega]
 refine ae 4 ?_;obtain⟨B40,Qeo⟩:∃B:Bool,B=decide ((fs.length:Int)>20):=⟨_,rfl⟩;refine bQ [(1,vS dA ds.length dc),(2,vS gA g gc),(3,vI mem),(4,vS iA i ic),(5,vI fuel),(14,vI nk),(61,(vB (decide ((fs.length:Int)>20))))] ?_;rw[←Qeo];have QkJ:B40=true↔((fs.length:Int)>20):=by rw[Qeo];simp only[aE]
 clear Qeo;intro aC fr;refine cE 5 9 [65,66] fr (news:=[(65,(vB (B40||decide ((ds.length:Int)>30)))),(66,(vB (B40||decide ((ds.length:Int)>30))))]) (by cases B40<;>kernel_rfl) ?_;intro aC fr;obtain⟨Db,tr⟩:∃B:Bool,B=(B40||decide ((ds.length:Int)>30)):=⟨_,rfl⟩;revert aC;refine bQ [(2,vS gA g gc),(3,vI mem),(4,vS iA i ic),(5,vI fuel),(14,vI nk),(66,(vB (B40||decide ((ds.length:Int)>30))))] ?_;rw[←tr];have Zd:Db=true↔(((fs.length:Int)>20)∨((ds.length:Int)>30)):=by rw[tr];simp only[cg,aE,QkJ]
 clear tr;intro aC fr;refine cE 4 13 [69,70] fr (news:=[(69,(vB (Db||decide ((nk:Int)>4000)))),(70,(vB (Db||decide ((nk:Int)>4000))))]) (by cases Db<;>kernel_rfl) ?_;intro aC fr;obtain⟨Fz,Kr⟩:∃B:Bool,B=(Db||decide ((nk:Int)>4000)):=⟨_,rfl⟩;revert aC;refine bQ [(2,vS gA g gc),(3,vI mem),(4,vS iA i ic),(5,vI fuel),(70,(vB (Db||decide ((nk:Int)>4000))))] ?_;rw[←Kr];have Zz:Fz=true↔((((fs.length:Int)>20)∨((ds.length:Int)>30))∨((nk:Int)>4000)):=by rw[Kr];simp only[cg,aE,Zd]
 clear Kr;intro aC fr;refine cE 5 18 [74,75] fr (news:=[(74,(vB (Fz||decide ((g:Int)>50)))),(75,(vB (Fz||decide ((g:Int)>50))))]) (by cases Fz<;>kernel_rfl) ?_;intro aC fr;obtain⟨xo,AF⟩:∃B:Bool,B=(Fz||decide ((g:Int)>50)):=⟨_,rfl⟩;revert aC;refine bQ [(3,vI mem),(4,vS iA i ic),(5,vI fuel),(75,(vB (Fz||decide ((g:Int)>50))))] ?_;rw[←AF];have HJ:xo=true↔(((((fs.length:Int)>20)∨((ds.length:Int)>30))∨((nk:Int)>4000))∨((g:Int)>50)):=by rw[AF];simp only[cg,aE,Zz]
 clear AF;intro aC fr;refine cE 4 22 [78,79] fr (news:=[(78,(vB (xo||decide ((mem:Int)>20000)))),(79,(vB (xo||decide ((mem:Int)>20000))))]) (by cases xo<;>kernel_rfl) ?_;intro aC fr;obtain⟨B60,Qep⟩:∃B:Bool,B=(xo||decide ((mem:Int)>20000)):=⟨_,rfl⟩;revert aC;refine bQ [(4,vS iA i ic),(5,vI fuel),(79,(vB (xo||decide ((mem:Int)>20000))))] ?_;rw[←Qep];have QkK:B60=true↔((((((fs.length:Int)>20)∨((ds.length:Int)>30))∨((nk:Int)>4000))∨((g:Int)>50))∨((mem:Int)>20000)):=by rw[Qep];simp only[cg,aE,HJ]
 clear Qep;intro aC fr;refine cE 5 27 [83,84] fr (news:=[(83,(vB (B60||decide ((i:Int)>5000)))),(84,(vB (B60||decide ((i:Int)>5000))))]) (by cases B60<;>kernel_rfl) ?_;intro aC fr;obtain⟨B65,Qeq⟩:∃B:Bool,B=(B60||decide ((i:Int)>5000)):=⟨_,rfl⟩;revert aC;refine bQ [(5,vI fuel),(84,(vB (B60||decide ((i:Int)>5000))))] ?_;rw[←Qeq];have QkL:B65=true↔(((((((fs.length:Int)>20)∨((ds.length:Int)>30))∨((nk:Int)>4000))∨((g:Int)>50))∨((mem:Int)>20000))∨((i:Int)>5000)):=by rw[Qeq];simp only[cg,aE,QkK]
 clear Qeq;intro aC fr;refine cE 4 31 [12,87] fr (news:=[(12,(vB (B65||decide ((fuel:Int)>5000)))),(87,(vB (B65||decide ((fuel:Int)>5000))))]) (by cases B65<;>kernel_rfl) ?_;intro aC fr;revert aC;refine au<|bG<|cK (vB (B65||decide ((fuel:Int)>5000))) ?_;have hR:(B65||decide ((fuel:Int)>5000))=true↔((((((((fs.length:Int)>20)∨((ds.length:Int)>30))∨((nk:Int)>4000))∨((g:Int)>50))∨((mem:Int)>20000))∨((i:Int)>5000))∨((fuel:Int)>5000)):=by simp only[cg,aE,QkL]
 exact⟨bf hR (⟨fun h_=> .inr oM,fun h_=>by rcases h_ with h_|h_;exact absurd h_ Cq;omega⟩),lR⟩
theorem Pf(fs:List cX)(fA:ao)(fc:Nat)(ds:List bh)(dA:ao)(dc:Nat)(bg:List aM)(gA:ao)(gc:Nat)(mem:Int)(inp:af)(iA:ao)(ic:Nat)(fuel:Int)(w:World)(Vh:dh fs.length)(AZ:dh ds.length)(pg:RO aX w (.jY fA 5 (fs.map cX.cells)))(jV:∀x,x∈fs→xX x.aJ)(Yj:∀x,x∈fs→RO aX w (.fn x.A x.aJ))(oJ:RO aX w (.cp dA ds))(Dv:∀d,d∈ds→S6 d∧∀x,x∈d.words→In64 x)(hgl:dh bg.length)(wx:dh inp.length)(hbg:RO aX w (.rd gA (bg.map Value.string)))(hic:inp.length≤ic)(mj:RO aX w (.rd iA (ji inp)))(VR:∀b,b∈inp→0≤b∧b≤255):Calls Tryz.prog 3 #[vS fA fs.length fc,vS dA ds.length dc,vS gA bg.length gc,vI mem,vS iA inp.length ic,vI fuel] w (ff fun v w'=>v=vB (decide (True))∧Mem aX w w' []):=by
 refine gF 39 [vS fA fs.length fc,vS dA ds.length dc,vS gA bg.length gc,vI mem,vS iA inp.length ic,vI fuel] Tryz.func3 ?_;have hM:=Mem.init w;refine aW<|aU<|aG<|ae 6<|eb (Vf fs fA fc ds dA dc bg.length gA gc mem inp.length iA ic fuel w Vh AZ (pg.at_ hM) jV (fun x_ h_=>(Yj x_ h_).at_ hM) (oJ.at_ hM) Dv) ?_;rintro _ w1 ⟨rfl,M2x⟩;have M2:=hM.cl M2x;clear M2x hM;refine au<|gp (Ag fs ds bg.length mem inp.length fuel) (fun c3=> ?_) (fun c3=> ?_);refine aG<|eb (Dk w1) ?_;rintro _ w4 ⟨rfl,Gv⟩;have M5:=M2.cl Gv;refine ae 1<|au<|bG<|cK (vB true) ?_;have hR:true=true↔True:=sI;exact⟨bf hR (⟨fun _=>trivial,fun _=>by first|trivial|omega⟩),M5⟩;have hI:qb w fs fA ds dA bg gA inp iA ic:=Oo c3 pg jV Yj hbg hic mj VR oJ (fun d h_=>(Dv d h_).1) (fun d h_=>(Dv d h_).2);obtain⟨ra,Lh⟩:∃r:Out,r=rm fs ds bg mem inp fuel:=⟨_,rfl⟩;refine bN<|aG<|ae 6<|eb ((by have h9:=Qbm fs fA fc ds dA dc bg gA gc mem inp iA ic fuel w1 (hI.Qf2 M2);rw[←Lh]at h9;exact h9)) ?_;rintro _ w8 ⟨oA6,oc7,rfl,M9x⟩;have M9:=M2.cl M9x;refine ae 6<|eb ((by have h9:=Qd2 fs fA fc ds dA dc bg gA gc mem inp iA ic fuel w8 (hI.Qf2 M9) wx;rw[←Lh]at h9;exact h9)) ?_;rintro _ I4 ⟨QhR,QhS,rfl,qj⟩;have mQ:=M9.cl qj;refine eb (ZV ra.1 ra.2.1 ra.2.2.2 ra.1 ra.2.1 ra.2.2.2 ra.2.2.1 ra.2.2.1 oA6 QhR oc7 QhS I4 (RO.of (aF (mQ.get 0 rfl))) (RO.of (aF (mQ.get 1 rfl)))) ?_;rintro _ Vo ⟨rfl,Qen⟩;have lQ:=mQ.cl Qen;obtain⟨B16,Qer⟩:∃B:Bool,B=decide ((ra.2.2.2:Int)=ra.2.2.2∧(ra.1:Int)=ra.1∧(ra.2.1:Int)=ra.2.1∧(strOfNums ra.2.2.1).toList=(strOfNums ra.2.2.1).toList):=⟨_,rfl⟩;refine bQ [(27,(.agg #[vI ra.1,vI ra.2.1,vS oA6 ra.2.2.1.length oc7,vI ra.2.2.2])),(34,(.agg #[vI ra.1,vI ra.2.1,vS QhR ra.2.2.1.length QhS,vI ra.2.2.2])),(35,(vB (decide ((ra.2.2.2:Int)=ra.2.2.2∧(ra.1:Int)=ra.1∧(ra.2.1:Int)=ra.2.1∧(strOfNums ra.2.2.1).toList=(strOfNums ra.2.2.1).toList))))] ?_;rw[←Qer];obtain rfl:B16=true:=by rw[Qer];exact lV ⟨rfl,rfl,rfl,rfl⟩
 clear Qer;refine ae 1<|eb (Dk Vo) ?_;rintro _ PA ⟨rfl,TH⟩;have mF:=lQ.cl TH;refine ae 2<|au<|bG<|cK (vB true) ?_;have hR:true=true↔True:=sI;have kA:=mF.od [] 0;exact⟨bf hR (⟨fun _=>trivial,fun _=>by first|trivial|omega⟩),kA⟩
theorem Pg(fs:List cX)(fA:ao)(fc:Nat)(ds:List bh)(dA:ao)(dc:Nat)(bg:List aM)(gA:ao)(gc:Nat)(mem:Int)(inp:af)(iA:ao)(ic:Nat)(fuel:Int)(w:World)(Vh:dh fs.length)(AZ:dh ds.length)(pg:RO aX w (.jY fA 5 (fs.map cX.cells)))(jV:∀x,x∈fs→xX x.aJ)(Yj:∀x,x∈fs→RO aX w (.fn x.A x.aJ))(oJ:RO aX w (.cp dA ds))(Dv:∀d,d∈ds→S6 d∧∀x,x∈d.words→In64 x)(hgl:dh bg.length)(wx:dh inp.length)(hbg:RO aX w (.rd gA (bg.map Value.string)))(hic:inp.length≤ic)(mj:RO aX w (.rd iA (ji inp)))(VR:∀b,b∈inp→0≤b∧b≤255):Calls Tryz.prog 3 #[.slice fA fs.length fc,.slice dA ds.length dc,.slice gA bg.length gc,vI mem,.slice iA inp.length ic,vI fuel] w (ff fun v w'=>v=vB true∧Mem aX w w' []):=by
 have h:=Pf fs fA fc ds dA dc bg gA gc mem inp iA ic fuel w Vh AZ pg jV Yj oJ Dv hgl wx hbg hic mj VR;simpa using h
end Go.Proofs.YtjekgaabcigphaaGreat
namespace Go.Proofs.YtjekgaabcigphaaGreat
open Go.Mor Go.ChangeShapes Go.WideShapes Go.ChangeAt Go.RowKit Go.Deep
section
variable {H : Type} {enc : TypeId × Value → H} {w : World} {base : Nat} {spare : Nat → Bool} {held : Bool}
theorem Ph{t e:TypeId}(ht:Tryz.prog.underlying t=some (.slice e)){fuel:Nat}{A:ao}{len cap:Nat}{x:DataW H×List MemPlace}(h:DataW.trod enc Tryz.prog w base spare held fuel t [.slice A len cap]=some x):len≤cap:=by
 rcases DataW.trod_slice ht h with⟨jW,_⟩|⟨a,ZW,cap',elems,rest,n,_,jW,_,_,hl,_,_,_,_,_⟩
 ·simp at jW;omega
 ·simp at jW;obtain⟨_,rfl,rfl⟩:=jW;exact hl
theorem Z4{t:TypeId}(ht:Tryz.prog.underlying t=some (.int .u8)){fuel:Nat}{v:Value}{x:DataW H×List MemPlace}(h:DataW.trod enc Tryz.prog w base spare held fuel t [v]=some x):∃n,v= .int .u8 n∧0≤n∧n≤255:=by
 obtain⟨n,rfl,h1,h2⟩:=Qj ht h;exact⟨n,rfl,h1,h2⟩
theorem KA{r:Reach}{b0:Nat}{v:Value}{d:DataW H}{p:List MemPlace}(jV:Value.okWide Tryz.prog w r b0 25 v)(h:DataW.Trod enc Tryz.prog w base spare held 25 v d p)(hz:gx 25 d):
  ∃A l c,v=vS A (List.length l) c∧dh l.length∧l.length≤c∧(∀b,b∈l→0≤b∧b≤255)∧(bx.rd A (ji l)).holds w:=by
 obtain⟨A,len,cap,rfl⟩:=okWide_slice Tryz.underlying25 jV
 obtain⟨fuel,h⟩:=h
 have Oz:=Ph Tryz.underlying25 h
 obtain⟨A',ZW,cap',e,hl,hx⟩:=m6 (k:=1) Tryz.underlying25 kR oM (v:=vS A len cap) h hz
 injection e with e1 e2 e3
 subst e1 e2 e3
 have c3:Tryz.prog.cellsOf 5=1:=kR
 have:∀i,i<len→∃k:Int,(0≤k∧k≤255)∧∃ad,A=some ad∧w.cell? (ad.add i)=some (.int .u8 k):=by
  intro i hi
  obtain⟨ad,cs,n,y,hA,hlen,hc,Qx,_⟩:=hx i hi
  rw[c3]at hlen hc
  match cs,hlen with
  |[c0],_=>
   obtain⟨k,rfl,hk⟩:=Z4 Tryz.underlying5 Qx
   refine⟨k,hk,ad,hA,?_⟩
   have h0:=hc 0 _ rfl
   rw[eE]at h0
   simpa[Addr.add]using h0
 obtain⟨l,rfl,hp⟩:=lN this
 refine⟨A,l,cap,rfl,hl,Oz,fun k hk=> ?_,fun i v hi=> ?_⟩
 ·obtain⟨i,hi⟩:=dv.1 hk
  exact(hp i k hi).1
 ·simp only[ji,List.getElem?_map,jy]at hi
  obtain⟨k,hk,rfl⟩:=hi
  exact(hp i k hk).2
theorem open_strs{r:Reach}{b0:Nat}{v:Value}{d:DataW H}{p:List MemPlace}(jV:Value.okWide Tryz.prog w r b0 24 v)(h:DataW.Trod enc Tryz.prog w base spare held 24 v d p)(hz:gx 24 d):
  ∃A l c,v=vS A (List.length l) c∧dh l.length∧(bx.rd A (l.map Value.string)).holds w:=by
 obtain⟨A,len,cap,rfl⟩:=okWide_slice Tryz.underlying24 jV
 obtain⟨fuel,h⟩:=h
 obtain⟨A',ZW,cap',e,hl,hx⟩:=m6 (k:=16) Tryz.underlying24 kR oM (v:=vS A len cap) h hz
 injection e with e1 e2 e3
 subst e1 e2 e3
 have c3:Tryz.prog.cellsOf 9=1:=kR
 have:∀i,i<len→∃k:aM,True∧∃ad,A=some ad∧w.cell? (ad.add i)=some (vT k):=by
  intro i hi
  obtain⟨ad,cs,n,y,hA,hlen,hc,Qx,hy⟩:=hx i hi
  rw[c3]at hlen hc
  match cs,hlen with
  |[c0],_=>
   obtain⟨k,rfl,_⟩:=y6 Tryz.underlying9 Qx hy
   refine⟨k,trivial,ad,hA,?_⟩
   have h0:=hc 0 _ rfl
   rw[eE]at h0
   simpa[Addr.add]using h0
 obtain⟨l,rfl,hp⟩:=lN this
 refine⟨A,l,cap,rfl,hl,fun i v hi=> ?_⟩
 simp only[List.getElem?_map,jy]at hi
 obtain⟨k,hk,rfl⟩:=hi
 exact(hp i k hk).2
theorem Vg{r:Reach}{b0:Nat}{v:Value}{d:DataW H}{p:List MemPlace}(jV:Value.okWide Tryz.prog w r b0 22 v)(h:DataW.Trod enc Tryz.prog w base spare held 22 v d p)(hz:gx 22 d):
  ∃A l c,v=vS A (List.length l) c∧dh l.length∧(bx.jY A 5 (l.map cX.cells)).holds w∧∀x:cX,x∈l→xX x.aJ∧(bx.fn x.A x.aJ).holds w:=by
 obtain⟨A,len,cap,rfl⟩:=okWide_slice Tryz.underlying22 jV
 obtain⟨fuel,h⟩:=h
 obtain⟨A',ZW,cap',e,hl,hx⟩:=iL (k:=64) Tryz.underlying22 Tryz.underlying35 kR kR kR oM (v:=vS A len cap) h hz
 injection e with e1 e2 e3
 subst e1 e2 e3
 have:∀i,i<len→∃b:cX,(xX b.aJ∧(bx.fn b.A b.aJ).holds w)∧∃ad:Addr,A=some ad∧∀(j:Nat) (v:Value),b.cells[j]?=some v→w.cell? ((ad.add (i*5)).add j)=some v:=by
  intro i hi
  obtain⟨ad,cs,hA,Qy,hc,n,hf⟩:=hx i hi
  obtain⟨c0,c1,c2,c3,c4,rfl⟩:=Z7 Qy
  obtain⟨_,_,e,g0,zg0⟩:=hf 0 _ rfl
  cases e
  obtain⟨nm,rfl,_⟩:=y6 Tryz.underlying9 g0 zg0
  obtain⟨_,_,e,g1,Z8⟩:=hf 1 _ rfl
  cases e
  obtain⟨wk,hw,_⟩:=DataW.trod_bool Tryz.underlying4 g1
  simp at hw
  subst hw
  obtain⟨_,_,e,g2,zg2⟩:=hf 2 _ rfl
  cases e
  obtain⟨pa,rfl,_⟩:=lB Tryz.underlying3 g2
  obtain⟨_,_,e,g3,zg3⟩:=hf 3 _ rfl
  cases e
  obtain⟨va,rfl,_⟩:=lB Tryz.underlying3 g3
  obtain⟨_,_,e,g,zg⟩:=hf 4 _ rfl
  cases e
  obtain⟨A,fs,c,rfl,h1,h2⟩:=IJ g zg
  exact⟨⟨nm,wk,pa,va,A,c,fs⟩,⟨h1,h2⟩,ad,hA,hc⟩
 obtain⟨l,rfl,hp⟩:=lN this
 refine⟨A,l,cap,rfl,hl,fun i cs hi=> ?_,fun x hx=> ?_⟩
 ·rw[List.getElem?_map]at hi
  obtain⟨b,hb,rfl⟩:=jy.1 hi
  exact(hp i b hb).2
 ·obtain⟨i,hi⟩:=dv.1 hx
  exact(hp i x hi).1
end
end Go.Proofs.YtjekgaabcigphaaGreat
namespace Go.Proofs.YtjekgaabcigphaaGreat
open Go.Mor Go.ChangeShapes Go.WideShapes Go.ChangeAt Go.RowKit Go.Deep
section
variable {H : Type} {enc : TypeId × Value → H} {w : World} {base : Nat} {spare : Nat → Bool} {held : Bool}
theorem Pj{fuel:Nat}{v:Value}{x:DataW H×List MemPlace}(h:DataW.trod enc Tryz.prog w base spare held fuel 36 [v]=some x)(hz:gx 36 x.1):∃A l c,v=vS A (List.length l) c∧dh l.length∧(∀x,x∈l→In64 x)∧(bx.rd A (ints l)).holds w:=by
 obtain⟨A,len,cap,rfl,hl,hx⟩:=m6 (k:=8) Tryz.underlying36 kR oM h hz;have c3:Tryz.prog.cellsOf 2=1:=kR;have:∀i,i<len→∃k:Int,In64 k∧∃ad,A=some ad∧w.cell? (ad.add i)=some (vI k):=by
  intro i hi;obtain⟨ad,cs,n,y,hA,hlen,hc,Qx,_⟩:=hx i hi;rw[c3]at hlen hc;match cs,hlen with
  |[c0],_=>
   obtain⟨k,rfl,hk⟩:=lB Tryz.underlying2 Qx;refine⟨k,hk,ad,hA,?_⟩;have h0:=hc 0 _ rfl;rw[eE]at h0;simpa[Addr.add]using h0
 obtain⟨l,rfl,hp⟩:=lN this;refine⟨A,l,cap,rfl,hl,fun k hk=> ?_,fun i v hi=> ?_⟩
 ·obtain⟨i,hi⟩:=dv.1 hk;exact(hp i k hi).1
 ·simp only[ints,List.getElem?_map,jy]at hi;obtain⟨k,hk,rfl⟩:=hi;exact(hp i k hk).2
theorem Pl{fuel:Nat}{v:Value}{x:DataW H×List MemPlace}(h:DataW.trod enc Tryz.prog w base spare held fuel 37 [v]=some x)(hz:gx 37 x.1):∃A l c,v=vS A (List.length l) c∧dh l.length∧(∀r:Int×aM,r∈l→In64 r.1∧dh r.2.size)∧(bx.jY A 2 (l.map cD)).holds w:=by
 obtain⟨A,len,cap,rfl,hl,hx⟩:=iL (k:=24) Tryz.underlying37 Tryz.underlying121 kR kR kR oM h hz;have:∀i,i<len→∃b:Int×aM,(In64 b.1∧dh b.2.size)∧∃ad:Addr,A=some ad∧∀(j:Nat) (v:Value),(cD b)[j]?=some v→w.cell? ((ad.add (i*2)).add j)=some v:=by intro i hi;obtain⟨ad,cs,hA,Qy,hc,n,hf⟩:=hx i hi;obtain⟨c0,c1,rfl⟩:=Z6 Qy;obtain⟨_,_,e,g0,_⟩:=hf 0 _ rfl;cases e;obtain⟨o,rfl,ho⟩:=lB Tryz.underlying3 g0;obtain⟨_,_,e,g1,Z8⟩:=hf 1 _ rfl;cases e;obtain⟨nm,rfl,hnm⟩:=y6 Tryz.underlying9 g1 Z8;exact⟨(o,nm),⟨ho,hnm⟩,ad,hA,hc⟩
 obtain⟨l,rfl,hp⟩:=lN this;refine⟨A,l,cap,rfl,hl,fun p lX=> ?_,fun i cs hi=> ?_⟩
 ·obtain⟨i,hi⟩:=dv.1 lX;exact(hp i p hi).1
 ·rw[List.getElem?_map]at hi;obtain⟨b,hb,rfl⟩:=jy.1 hi;exact(hp i b hb).2
theorem Pm{r:Reach}{b0:Nat}{v:Value}{d:DataW H}{p:List MemPlace}(jV:Value.okWide Tryz.prog w r b0 23 v)(h:DataW.Trod enc Tryz.prog w base spare held 23 v d p)(hz:gx 23 d):∃A l c,v=vS A (List.length l) c∧dh l.length∧RO aX w (.cp A l)∧∀x:bh,x∈l→S6 x∧∀y,y∈x.words→In64 y:=by
 obtain⟨A,len,cap,rfl⟩:=okWide_slice Tryz.underlying23 jV;obtain⟨fuel,h⟩:=h;obtain⟨A',ZW,cap',e,hl,hx⟩:=iL (k:=72) Tryz.underlying23 Tryz.underlying39 kR kR kR oM (v:=vS A len cap) h hz;injection e with e1 e2 e3;subst e1 e2 e3;have:∀i,i<len→∃b:bh,((S6 b∧∀y,y∈b.words→In64 y)∧∀q,q∈b.parts→q.holds w)∧∃ad:Addr,A=some ad∧∀(j:Nat) (v:Value),b.cells[j]?=some v→w.cell? ((ad.add (i*4)).add j)=some v:=by
  intro i hi;obtain⟨ad,cs,hA,Qy,hc,n,hf⟩:=hx i hi;obtain⟨c0,c1,c2,c3,rfl⟩:∃a b c d,cs=[a,b,c,d]:=by
   match cs,Qy with
   |[a,b,c,d],_=>exact⟨a,b,c,d,rfl⟩
  obtain⟨_,_,e,g0,zg0⟩:=hf 0 _ rfl;cases e;obtain⟨nm,rfl,hnm⟩:=y6 Tryz.underlying9 g0 zg0;obtain⟨_,_,e,g1,Z8⟩:=hf 1 _ rfl;cases e;obtain⟨wk,hw,_⟩:=DataW.trod_bool Tryz.underlying4 g1;simp at hw;subst hw;obtain⟨_,_,e,g2,zg2⟩:=hf 2 _ rfl;cases e;obtain⟨wA,ws,wc,rfl,w1,w2,w3⟩:=Pj g2 zg2;obtain⟨_,_,e,g3,zg3⟩:=hf 3 _ rfl;cases e;obtain⟨rA,rs,rc,rfl,r1,r2,r3⟩:=Pl g3 zg3;refine⟨⟨nm,wk,wA,wc,ws,rA,rc,rs⟩,⟨⟨⟨hnm,w1,r1,r2⟩,w2⟩,fun q hq=> ?_⟩,ad,hA,hc⟩;simp only[bh.parts,db,ka,fF]at hq;rcases hq with rfl|rfl
  ·exact w3
  ·exact r3
 obtain⟨l,rfl,hp⟩:=lN this;have dT:∀x:bh,x∈l→((S6 x∧∀y,y∈x.words→In64 y)∧∀q,q∈x.parts→q.holds w):=fun x hx=>by obtain⟨i,hi⟩:=dv.1 hx;exact(hp i x hi).1
 refine⟨A,l,cap,rfl,hl,RO.of fun q hq=> ?_,fun x hx=>(dT x hx).1⟩;rcases db.1 hq with rfl|hq
 ·intro i cs hi;rw[List.getElem?_map]at hi;obtain⟨b,hb,rfl⟩:=jy.1 hi;exact(hp i b hb).2
 ·obtain⟨x,hx,hq⟩:=jl.1 hq;exact(dT x hx).2 q hq
theorem HS{P:Program}{t0 t1 t2 t3 t4 t5:TypeId}{args:Array Value}{ds:List (DataW H)}{ps:List MemPlace}(h:DataW.TrodAll enc P w base spare held [t0,t1,t2,t3,t4,t5] args.toList ds ps):∃v0 v1 v2 v3 v4 v5 d0 d1 d2 d3 d4 d5 p0 p1 p2 p3 p4 p5,args=#[v0,v1,v2,v3,v4,v5]∧ds=[d0,d1,d2,d3,d4,d5]∧DataW.Trod enc P w base spare held t0 v0 d0 p0∧DataW.Trod enc P w base spare held t1 v1 d1 p1∧DataW.Trod enc P w base spare held t2 v2 d2 p2∧DataW.Trod enc P w base spare held t3 v3 d3 p3∧DataW.Trod enc P w base spare held t4 v4 d4 p4∧DataW.Trod enc P w base spare held t5 v5 d5 p5:=by
 obtain⟨v0,r0,d0,e0,p0,q0,yL,rfl,_,h0,g0⟩:=trodAll_cons h;obtain⟨v1,r1,d1,e1,p1,q1,rfl,rfl,_,h1,g1⟩:=trodAll_cons g0;obtain⟨v2,r2,d2,e2,p2,q2,rfl,rfl,_,h2,g2⟩:=trodAll_cons g1;obtain⟨v3,r3,d3,e3,p3,q3,rfl,rfl,_,h3,g3⟩:=trodAll_cons g2;obtain⟨v4,r4,d4,e4,p4,q4,rfl,rfl,_,h4,g4⟩:=trodAll_cons g3;obtain⟨v5,r5,d5,e5,p5,q5,rfl,rfl,_,h5,g5⟩:=trodAll_cons g4;obtain⟨rfl,rfl,_⟩:=trodAll_nil g5;exact⟨v0,v1,v2,v3,v4,v5,d0,d1,d2,d3,d4,d5,p0,p1,p2,p3,p4,p5,by cases args;simp_all,rfl,h0,h1,h2,h3,h4,h5⟩
end
end Go.Proofs.YtjekgaabcigphaaGreat
