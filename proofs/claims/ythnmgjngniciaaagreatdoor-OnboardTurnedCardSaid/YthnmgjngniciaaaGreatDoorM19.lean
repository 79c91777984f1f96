/- Parts. -/
import Derived.Test.YthnmgjngniciaaaGreatDoorM12
import Derived.Test.YthnmgjngniciaaaGreatDoorM16
import Derived.Test.YthnmgjngniciaaaGreatDoorM18
import Derived.Test.YthnmgjngniciaaaGreatDoorM09
import Derived.Deep.DeepCutAuto
import Derived.Test.YthnmgjngniciaaaGreatDoorM11
import Derived.Test.YthnmgjngniciaaaGreatDoorM06
import Derived.Test.YthnmgjngniciaaaGreatDoorM13
import Derived.Test.YthnmgjngniciaaaGreatDoorM03
set_option linter.all false
set_option maxHeartbeats 16000000
set_option maxRecDepth 8000
open List renaming getElem?_eq_some_iff→aX,length_append→bC,length_cons→bK,length_nil→dU,map→bV,mem_append→dK,mem_of_getElem?→bP,setIfInBounds_toArray→ay,set_cons_succ→aB,set_cons_zero→aA,take_of_length_le→aY
open Nat renaming add_zero→bI,le_of_eq→bZ,le_refl→aW,le_trans→aG,lt_of_lt_of_le→aU,reduceAdd→aT,zero_add→aJ,zero_le→aV
namespace Go.Proofs.YthnmgjngniciaaaGreatDoor
open Go.RowKit Go.Shelf Tryz
open Act renaming put→aP
open Below renaming heap_setCell→aN,refl→aH
open Lib renaming hid→ah
open Region renaming binds→aC
open Tryz renaming prog→aj
open World renaming setCell→dD
variable{er u:Int}{l:List Int}{B g i:Nat}{D:Nat->Prop}{v:Value}{W W' w w':World}
structure lH (W:World) (B g:Nat) (l:List Int) (u er:Int):Prop where
  blk: ∃A c,fK W g 367 #[.slice A l.length c,.int .i64 u,.int .i64 er]/\fE aq7 W A l/\(l≠ []-> ∀a,A=some a->a.block<B)/\l.length<=c/\c<=maxLen
  lo:B<=g
theorem lH.below(h:lH W B g l u er)(j:W W'):lH W' B g l u er:=by obtain⟨⟨A,c,d,H,J⟩,K⟩:=h;exact⟨⟨A,c,d.below j d.lt,H.below j,J⟩,K⟩
theorem lH.ji(h:lH W B g l u er)(d:jV D W W')(hn: ¬D g)(N: ∀k,D k->B<=k):lH W' B g l u er:=by obtain⟨⟨A,c,H,J,j,M⟩,K⟩:=h;exact⟨⟨A,c,H.ji d hn,J.keep' d.size (λU a e O=>d.block _ O (λQ=>by have:=j U a e;have:=N _ Q;omega)),j,M⟩,K⟩
theorem lH.at1(h:lH W B g l u er):uG g 3 1 367 (.int .i64 u) undef W:=by obtain⟨⟨A,c,d,_⟩,_⟩:=h;exact⟨_,d,rfl,rfl⟩
theorem YM{n:Nat}{t:TypeId}{x:Value}(h:uG g n i t v x w):w.cell? ⟨g,i,none⟩=some v:=by obtain⟨cs,d,_,j⟩:=h;exact(d.cell i).trans j
theorem D5{A:Option Addr}(h:fE aq7 W A l)(hn:l≠ []-> ∀a,A=some a->a.block≠g):fE aq7 (W.setCell ⟨g,i,none⟩ v) A l:=h.keep' (by simp[dD]) (λd a e _=>aN W ⟨g,i,none⟩ v _ (hn d a e))
theorem Qh(h:lH W B g l u er):Calls aj 272 #[.pointer g] W λe w'=>e=.returned (l.headD 0:Int)/\Stp [(g,some 0)] W w'/\lH w' B g l.tail u er:=by
 obtain⟨⟨A,c,hB,K,U,hc,hm⟩,Q⟩:=h;have O:=hB.cell;cases l with
 |nil=>simp only[dU]at O hB;go_enter func272,ntmps272;go_wp2_with fail;go_ret;exact⟨rfl,Stp.refl _ _,⟨⟨A,c,hB,K,U,hc,hm⟩,Q⟩⟩
 |cons n r=>
  obtain⟨b,off,rfl,hb,N⟩:=K.get (i:=0) (x:=n) rfl;have a0:=N 0 n rfl;simp only[aq7,Nat.zero_mul,bI]at a0;obtain⟨k,J⟩:=fD r.length;have aa:=hB.frozen 0;simp only[bK,<-J]at hB O hc;have Y: ∀W,(Instr.slice 22 (.slice (some ⟨b,off,none⟩) (k+1) c) (some (1:Int)) none none).run aj W=.ok (.slice (qQ (some ⟨b,off,none⟩) 1 c) k (c-1)) W:=λW=>by rw[ER W _ _ _ .i64 1 (by omega) (by omega)];simp
  have ac:(((k:Int)+1)==0)=false:=by simp;omega
  have j:=ah J;have Z: ∃d,d=qQ (some ⟨b,off,none⟩) 1 c:=⟨_,rfl⟩;obtain⟨d,H⟩:=Z;rw[<-H]at Y;have M:=ah H;clear J H N;go_enter func272,ntmps272;go_wp2_with fail;go_ret;have V: ∀a,d=some a->a.block<B:=λa e=>by obtain⟨a',e1,e2⟩:=DR (M.out.symm.trans e);have:=U (by simp) a' e1;omega
  refine⟨rfl,Stp.cell g 0 _,⟨⟨d,c-1,?_,?_,λ_=>V,by show r.length<=c-1;rw[<-j.out];omega,by omega⟩,Q⟩⟩;·rw[List.tail_cons,<-j.out];exact hB.iV 0 _
  ·refine D5 ?_ (λ_ a e=>by have:=V a e;omega);rw[M.out];exact JM K (by show r.length+1<=c;rw[<-j.out];omega)
def Kz (er x:Int):Int:=if er=0 then x else er
theorem Qi(h:lH W B g l u er)(x:Int):Calls aj 281 #[.pointer g,x] W λe w'=>e=.returned (.tuple #[])/\Stp [(g,some 2)] W w'/\lH w' B g l u (Kz er x):=by
 obtain⟨⟨A,c,hB,J,j,hc,hm⟩,H⟩:=h;have N:=hB.cell;unfold Kz;by_cases d:er=0
 ·rw[if_pos d];have K:(er==0)=true:=by simpa using d
  have O:=hB.frozen 2;go_enter func281,ntmps281;go_wp2_with fail;go_end0;exact⟨rfl,Stp.cell g 2 _,⟨⟨A,c,hB.iV 2 _,D5 J (λM a e=>by have:=j M a e;omega),j,hc,hm⟩,H⟩⟩
 ·rw[if_neg d];have K:(er==0)=false:=by simpa using d
  go_enter func281,ntmps281;go_wp2_with fail;go_end0;exact⟨rfl,Stp.refl _ _,⟨⟨A,c,hB,J,j,hc,hm⟩,H⟩⟩
def ado (B g:Nat) (l:List Int) (u er x:Int):Value->World->Prop:=fun v w=>v=.int .i64 x/\lH w B g l u er
theorem ado.grow{x:Int}(h:ado B g l u er x v w)(d:w w'):ado B g l u er x v w':=⟨h.1,h.2.below d⟩
theorem ajH(h:lH W B g l u er):Calls aj 275 #[.pointer g] W λe w'=>e=.returned (II (l.headD 0) u:Int)/\Stp [(g,some 0),(g,some 2)] W w'/\lH w' B g l.tail u (if Ud (l.headD 0) u=0 then er else Kz er 7):=by
 have ai:=λW (h:lH W B g l u er)=>Qh h;have ak:=h.at1;obtain⟨x,hx⟩:=fD (l.headD 0);obtain⟨l',ag⟩:=fD l.tail;rw[<-hx,<-ag]at ai ⊢;have ad:=λW=>ajG x u W;obtain⟨am,ac⟩:=fD (II x u);obtain⟨N,ae⟩:=fD (Ud x u);rw[<-ac,<-ae]at ad ⊢;obtain⟨an,V⟩:=fD (if N=0 then er else Kz er 7);rw[<-V];have HE:=ah V;clear hx ag ac ae V;go_enter func275,ntmps275;go_wp2_with fail;apply gu (Stp ([(g,some 0)])) (λW=>Stp.drew _ _) (λ_ _ _ O h2=>O.trans h2) (zG 1 ([(g,some 0)])) (λ_ _ _ h=>h.I7) yO (Wv 1 (λW=>lH W B g l u er)) (λ_ _=>(λ(W W':World) (h:lH W B g l u er) (K:W W')=>h.below K) _ _ (show lH W B g l u er from h) (aq3 gY 1)) (λi aq W W' al hp ht e=>(λ(W W':World) (h:lH W B g l u er) (K:W W')=>h.below K) _ _ (hp e) (ht.1 (λej=>al (e.trans ej.symm))));case lX=>intro u;simp only[bV,aq9,aP,ay,aA,aB,aT,aJ];with_reducible rfl
 case hm=>kernel_rfl
 case hB=>kernel_rfl
 case hA=>kernel_rfl
 case hap=>kernel_rfl
 repeat(first
    |(refine fM.one (ado B g l' u er x) ?_ ?_
      ·
        (intro u w' Q H d
         replace H:=H rfl
         simp[fO,aC,gI,Is]at d
         refine fC ?_ ?_
         ·
           first
           |rfl
         intro M j
         go_wp2_with ((with_reducible refine(ai _ H).mono ?_);rintro e w3⟨rfl,Z,Y⟩);(try simp only[d]at j);exact j _ _ (yN Z) ⟨rfl,Y⟩))
    |(apply fM.is
      ·
        (intro u w' Q H d
         clear H
         simp[fO,aC,gI,Is]at d
         refine fC ?_ ?_
         ·
           first
           |rfl
         intro M j
         have ap:=YM (ak.keep Q (by simp) (by simp))
         go_wp2_with (fail)
         try simp only[d]at j
         refine j _ _ ?_ rfl
         first |exact oM (by decide))))
 apply fM.is;·(intro u w' Q H d;clear H;simp[fO,aC,gI,Is]at d;obtain⟨q1,q5⟩:=d;obtain⟨q1,_⟩:=q1;refine fC ?_ ?_;(·first|rfl);intro M j;skip;go_wp2_with(((with_reducible refine(ad _).mono ?_);rintro e w3⟨rfl,rfl⟩));(try simp only[q1,q5]at j);refine j _ _ ?_ rfl;first|exact oM (by decide))
 iterate 4(apply fM.is;·(intro u w' Q H d;clear H;simp[fO,aC,gI,Is]at d;skip;refine fC ?_ ?_;(·first|rfl);intro M j;skip;go_wp2_with(fail);(try simp only[d]at j);refine j _ _ ?_ rfl;first|exact oM (by decide)))
 refine fM.last (EO ?_) ?_
 ·simp only[gQ];repeat(refine⟨?_,?_⟩;·first|exact yP _|exact uZ (λ_ _ _ h K=>h.grow K))
  exact trivial
 intro u w2 af _ d;simp only[gQ]at d;refine⟨rfl,?_⟩;intro M j;have h9:=d 9 _ rfl;have aa:=d 10 _ rfl;have O:=(d 1 _ rfl).2;simp only[gI,Is]at h9 aa;clear d;simp only[h9,aa];by_cases J:N=0
 ·have e0:(N != 0)=false:=by simpa using J
  have U:=ah J;clear J;go_wp2_with fail;go_ret;rw[HE.out,if_pos U.out];exact⟨rfl,af.mono (by simp),O⟩
 ·have e0:(N != 0)=true:=by simpa using J
  have U:=ah J;clear J;go_wp2_with((with_reducible refine(Qi O 7).mono ?_);rintro e w3⟨rfl,Z,Y⟩);go_ret;rw[HE.out,if_neg U.out];exact⟨rfl,(af.mono (by simp)).trans (Z.mono (by simp)),Y⟩
def AV (l:List Int):Int:=if l.tail.headD 0=1 then l.tail.tail.headD 0 else 0
def Oh (l:List Int):List Int:=if l.tail.headD 0=1 then l.tail.tail.tail.tail else l.tail.tail
def Z9 (l:List Int):Prop:=l.tail.headD 0≠1\/AV l<1\/1000<AV l\/l.headD 0=0
instance (l:List Int):Decidable (Z9 l):=by unfold Z9;exact inferInstance
def Ue (l:List Int) (er:Int):Int:=if Z9 l then Kz er 20 else er
def ar2 (l:List Int) (u er:Int):Int:=if Ud (l.headD 0) u=0 then Ue l er else Kz (Ue l er) 7
def sTo (f:Int) (l:List Int) (u:Int):Int:=f+II (l.headD 0) u
theorem adp(n s:Int):0<=II n s/\II n s<=3276600:=by
 unfold II Ud;have d:=YL s;by_cases j:Fp s=0;·rw[if_pos j];simp
 ·rw[if_neg j];by_cases H:n<0\/32766<n;·rw[if_pos H];simp
  ·rw[if_neg H,if_pos rfl];(have J:0<=n/\n<=32766:=by omega);exact⟨Int.mul_nonneg J.1 d.1,by have:=Int.mul_le_mul J.2 d.2 d.1 (by decide:(0:Int)<=32766);omega⟩
theorem GH(W:World)(b i:Nat)(v:Value):jV (λk=>k=b) W (W.setCell ⟨b,i,none⟩ v):=jV.DW (Stp.cell b i v) (λk o hm=>by simp at hm;exact hm.1)
theorem jV.old{D':Nat->Prop}(h:jV D w w')(j: ∀k,k<w.heap.size->D k->D' k):jV D' w w':=⟨h.os,h.tape,h.output,h.size,λk d hn=>h.block k d (λH=>hn (j k d H))⟩
theorem mD{o:Nat}(h:Stp [(g,some o)] w w'):jV (λk=>k=g) w w':=jV.DW h (λk o hm=>by simp at hm;exact hm.1)
theorem agn(h:lH W B g l u er)(f:Int)(cc:0<=f)(cd:f<=4294967296):Calls aj 274 #[.pointer g,f] W λe w'=>e=.returned (.agg #[(sTo f l u:Int),(AV l:Int)])/\jV (λk=>k=g) W w'/\lH w' B g (Oh l) u (ar2 l u er):=by
 have ad:=λW l u er (h:lH W B g l u er)=>Qh h;obtain⟨af,a9⟩:=fD (l.headD 0);obtain⟨tm,bc⟩:=fD (l.tail.headD 0);obtain⟨l2,a7⟩:=fD l.tail.tail;have j:=ad _ _ _ _ (h.below (gY.alloc ig (.cells gF 60)));rw[<-a9]at j;have H:=λW (h:lH W B g l.tail u er)=>ad W _ _ _ h;rw[<-bc,<-a7]at H;obtain⟨b4,aR⟩:=fD W.heap.size;have bR:g<b4:=by obtain⟨⟨A,c,hB,_⟩,_⟩:=h;rw[aR];exact hB.lt
 have ai:=ah a9;have av:=ah bc;have au:=ah a7;have Y:=ah aR;clear a9 bc a7 aR;obtain⟨J,bd⟩:=fD (AV l);obtain⟨l4,a8⟩:=fD (Oh l);obtain⟨cf,ax⟩:=fD (sTo f l u);obtain⟨bX,az⟩:=fD (ar2 l u er);rw[<-bd,<-a8,<-ax,<-az];have bk:=ah ax;have bh:=ah az;have aw:=ah bd;have bj:=ah a8;clear bd a8 ax az;obtain⟨tb,bb⟩:=fD (tm==1);have Q:Hid (tb=true<->tm=1):=ah (by rw[bb,beq_iff_eq]);have e0:(tm==1)=tb:=bb.symm;clear bb;go_enter func274,ntmps274
 go_upto_if 16 with (first
   |((with_reducible refine j.mono ?_);rintro e w1⟨rfl,ak,bu⟩)
   |((with_reducible refine(H _ bu).mono ?_);rintro e V⟨rfl,al,bw⟩))
 clear e0;have ac:b4≠g:=Nat.ne_of_gt bR;have M:=(((fK.new W 60 gF).ji (mD ak) (by rw[<-Y.out];exact ac)).ji (mD al) (by rw[<-Y.out];exact ac)).below (gY.alloc ig (.cells gF 60)) (by have j:=ak.size;have H:=al.size;simp at j;omega);have Z:=((((jV.of_below ((aH W W).alloc ig (.cells gF 60)) (λk=>k=g)).trans (mD ak)).trans (mD al)).trans (jV.of_below ((aH V V).alloc ig (.cells gF 60)) (λk=>k=g))).mono (D':=λk=>k=g\/b4<=k) (λk h=> .inl h);have N:=fK.new V 60 gF;have ae:=bw.below ((aH V V).alloc ig (.cells gF 60));have bB:b4<V.heap.size:=by have j:=ak.size;have H:=al.size;have K:=Y.out;simp at j;omega
 rw[<-Y.out]at M;obtain⟨b7,bo⟩:=fD V.heap.size;obtain⟨W3,bn⟩:=fD (V.alloc (.cells gF 60));rw[<-bn]at M Z N ae ⊢;rw[<-bo]at N bB ⊢;rw[<-Y.out];clear bo bn al bw ak bu j H;go_cut [] from 10 (λW'=>fK W' b4 60 gF/\fK W' b7 60 #[zI,J]/\lH W' B g l4 u er/\jV (λk=>k=g\/b4<=k) W W');case first=>cases tb with|false=>have ag:Hid (¬l.tail.headD 0=1):=ah (by rw[<-av.out];exact λh=>by cases Q.out.2 h);clear Q;go_wp2_with fail;go_meet;refine⟨M,?_,?_,Z⟩;(·rw[aw.out,AV,if_neg ag.out];exact N);·rw[bj.out,Oh,if_neg ag.out,<-au.out];exact ae|true=>have ag:Hid (l.tail.headD 0=1):=ah (by rw[<-av.out];exact Q.out.1 rfl);clear Q;have K:=ad _ _ _ _ ae;obtain⟨x2,bf⟩:=fD (l2.headD 0);rw[<-bf]at K;have bx:=ah bf;clear bf;go_wp2_with(first|((with_reducible refine K.mono ?_);rintro e w4⟨rfl,fU,aq⟩;have k4:=mD fU;have aD:=N.ji k4 (by omega);have fJ:=aD.cell;have iG:=aD.frozen 1;have k5:=jV.DW (D:=λk=>k=b7) (Stp.cell (w:=w4) b7 1 x2) (λk jQ uK=>by simp at uK;exact uK.1);have sK:=aq.ji k5 (by omega) (λk d=>by have:=aq.lo;omega);have h5:=ad _ _ _ _ sK)|((with_reducible refine h5.mono ?_);rintro e fU⟨rfl,bS,Uf⟩));go_meet;have k6:=mD bS;refine⟨((M.ji k4 ac).ji k5 (by omega)).ji k6 ac,?_,?_,Z.trans (((k4.mono ?_).trans (k5.mono ?_)).trans (k6.mono ?_))⟩;(·rw[aw.out,AV,if_pos ag.out,<-au.out,<-bx.out];exact(aD.iV 1 _).ji k6 (by omega));(·rw[bj.out,Oh,if_pos ag.out,<-au.out];exact Uf);(·intro k d;exact .inl d);(·intro k d;right;omega);·intro k d;exact .inl d
 case rest=>
  obtain⟨aE,am,O,aM⟩:=hcut;clear M N Z ae;obtain⟨bad,a1⟩:=fD (decide (Z9 l));have aa:=ah a1;have Oe:=am.cell;go_upto_region 7 with fail;go_cut [37] from 10 (λx W'=>x=.bool bad/\W'=wc);case first=>have HS:Hid (Z9 l<->(tm≠1\/J<1\/1000<J\/af=0)):=ah (by unfold Z9;rw[<-av.out,<-aw.out,<-ai.out]);clear a1 ad;cases tb with|false=>(have e3:bad=true:=by rw[aa.out,decide_eq_true_iff,HS.out];exact .inl (λh=>by cases Q.out.2 h));clear Q;go_wp2_with fail;go_meet;rw[e3];exact⟨rfl,rfl⟩|true=>have j:=Q.out.1 rfl;clear Q;by_cases H:J<1;(·(have e2:decide (J<1)=true:=by simpa using H);(have e3:bad=true:=by rw[aa.out,decide_eq_true_iff,HS.out];exact .inr (.inl H));clear j H;go_wp2_with fail;go_meet;rw[e3];exact⟨rfl,rfl⟩);·(have e2:decide (J<1)=false:=by simpa using H);replace H:=Int.not_lt.1 H;by_cases K:1000<J;(·(have e3:decide (1000<J)=true:=by simpa using K);(have e4:bad=true:=by rw[aa.out,decide_eq_true_iff,HS.out];exact .inr (.inr (.inl K)));clear j H K;go_wp2_with fail;go_meet;rw[e4];exact⟨rfl,rfl⟩);·(have e3:decide (1000<J)=false:=by simpa using K);replace K:=Int.not_lt.1 K;(have e4:(af==0)=bad:=by rw[aa.out,Bool.eq_iff_iff,decide_eq_true_iff,HS.out,beq_iff_eq];constructor;(·intro h;exact .inr (.inr (.inr h)));·intro h;rcases h with h |h |h |h;(·exact absurd j h);(·omega);(·omega);·exact h);clear j H K;go_wp2_with fail;go_meet;exact⟨by first |rfl |rw[e4],rfl⟩
  case rest=>obtain⟨rfl,rfl⟩:=hcut;clear a1;obtain⟨bA,bm⟩:=fD (Ue l er);have an:=ah bm;clear bm;go_upto_if 37 with fail;go_cut [] from 10 (λW'=>fK W' b4 60 gF/\fK W' b7 60 #[zI,J]/\lH W' B g l4 u bA/\jV (λk=>k=g\/b4<=k) W W');(case first=>cases bq:bad with|false=>have j:=aa.out;rw[bq]at j;go_wp2_with fail;go_meet;refine⟨aE,am,?_,aM⟩;rw[an.out,Ue,if_neg (of_decide_eq_false j.symm)];exact O|true=>have j:=ah aa.out;rw[bq]at j;have H:=ah (of_decide_eq_true j.out.symm);clear j;go_wp2_with((with_reducible refine(Qi O 20).mono ?_);rintro e w3⟨rfl,ba,ae⟩);go_meet;refine⟨aE.ji (mD ba) ac,am.ji (mD ba) (by omega),?_,aM.trans ((mD ba).mono (λk d=> .inl d))⟩;rw[an.out,Ue,if_pos H.out];exact ae);case rest=>clear aE am O aM Oe;obtain⟨M,N,O,Z⟩:=hcut;have ca:=YM O.at1;have a5:=λW=>ajG af u W;obtain⟨U,ap⟩:=fD (II af u);obtain⟨ed,a6⟩:=fD (Ud af u);rw[<-ap,<-a6]at a5;have bL:=adp af u;rw[<-ap]at bL;have HD:=ah ap;have bi:=ah a6;clear ap a6 ad;by_cases he:ed=0;(·(have e0:(ed != 0)=false:=by simpa using he);have ar:=ah he;clear he;have Oe:=N.cell;have bO:=N.frozen 0;have bN:=M.frozen;have bE:=M.cell;go_wp2_with((with_reducible refine(a5 _).mono ?_);rintro e w3⟨rfl,rfl⟩);have a4:=((M.far (p:=⟨b7,0,none⟩) (by show b4≠b7;omega) (f+U:Int)).iV 0 (f+U:Int)).iV 1 J;refine bodyPost_ret (nC results274 _ _ _ _ _ rfl a4 underlying60 rfl (by kernel_rfl)) rfl ?_;have k7:=(((GH w3 b7 0 (f+U:Int)).mono (D':=λk=>b4<=k) (λk d=>by omega)).trans ((GH _ b4 0 (f+U:Int)).mono (λk d=>bZ d.symm))).trans ((GH _ b4 1 J).mono (λk d=>bZ d.symm));refine⟨by rw[bk.out,sTo,<-ai.out,<-HD.out];rfl,(Z.trans (k7.mono (λk d=> .inr d))).old (λk d hd=>hd.elim id (λh=>by have:=Y.out;omega)),?_⟩;rw[bh.out,ar2,<-ai.out,<-bi.out,if_pos ar.out,<-an.out];exact O.ji k7 (by omega) (λk d=>by have:=O.lo;omega));·(have e0:(ed != 0)=true:=by simpa using he);have ar:=ah he;clear he;go_wp2_with(first|((with_reducible refine(a5 _).mono ?_);rintro e w3⟨rfl,rfl⟩)|((with_reducible refine(Qi O 7).mono ?_);rintro e w4⟨rfl,fU,aq⟩;have k4:=mD fU;have fJ:=N.ji k4 (by omega);have aL:=M.ji k4 ac;have Oe:=fJ.cell;have bO:=fJ.frozen 0;have bN:=aL.frozen;have bE:=aL.cell));have a4:=((aL.far (p:=⟨b7,0,none⟩) (by show b4≠b7;omega) (f+U:Int)).iV 0 (f+U:Int)).iV 1 J;refine bodyPost_ret (nC results274 _ _ _ _ _ rfl a4 underlying60 rfl (by kernel_rfl)) rfl ?_;have k7:=(((GH w4 b7 0 (f+U:Int)).mono (D':=λk=>b4<=k) (λk d=>by omega)).trans ((GH _ b4 0 (f+U:Int)).mono (λk d=>bZ d.symm))).trans ((GH _ b4 1 J).mono (λk d=>bZ d.symm));refine⟨by rw[bk.out,sTo,<-ai.out,<-HD.out];rfl,((Z.trans (k4.mono (λk d=> .inl d))).trans (k7.mono (λk d=> .inr d))).old (λk d hd=>hd.elim id (λh=>by have:=Y.out;omega)),?_⟩;rw[bh.out,ar2,<-ai.out,<-bi.out,if_neg ar.out,<-an.out];exact aq.ji k7 (by omega) (λk d=>by have:=O.lo;omega)
theorem aac{a b:Int}(h:fK w g 60 #[.int .i64 a,.int .i64 b]):fE kW w (some ⟨g,0,none⟩) [⟨a,b⟩]:=qw h rfl
def ajN (r:Bool):Int:=if r=true then 0 else 1
theorem aad(r:Bool)(w:World):Calls aj 273 #[r] w λe w'=>e=.returned (ajN r:Int)/\w'=w:=by cases r with|false=>go_enter func273,ntmps273;go_wp2_with fail;go_ret;exact⟨rfl,rfl⟩|true=>go_enter func273,ntmps273;go_wp2_with fail;go_ret;exact⟨rfl,rfl⟩
def wP (u:Int):Nat->List Int->Int->List Sc->Except Int (List Int × List Sc)
 |0,l,_,acc=> .ok (l,acc)
 |k+1,l,f,acc=>if ar2 l u 0≠0 then .error (ar2 l u 0) else wP u k (Oh l) (sTo f l u) (acc++ [⟨sTo f l u,AV l⟩])
def aae (u:Int) (l:List Int) (ss:List Sc):Except Int (List Sc × Int):=let l2:=if l.headD 0=1 then l.tail.tail.tail else l.tail;if l2.headD 0=1 then(if Ud (l2.tail.headD 0) u≠0 then .error 7 else .ok (ss,II (l2.tail.headD 0) u)) else .ok (ss,0)
def qK (rev:Bool) (v:List Int):Except Int (List Sc × Int):=if v.headD 0≠ajN rev then .error 20 else if 8<=v.tail.tail.tail.tail.headD 0 then .error 2 else match wP (v.tail.headD 0) (v.tail.tail.tail.tail.headD 0+1).toNat v.tail.tail.tail.tail.tail 0 [] with
 | .error er=> .error er
 | .ok (l,ss)=>aae (v.tail.headD 0) l ss
def GI (W:World) (gm:Nat) (ref:Int) (rev:Bool) (vp:Value) (R:Except Int (List Sc × Int)) (e:Ending) (w':World):Prop:=jV (fun k=>k=gm) W w'/\match R with
 | .error er=>e=.returned (.int .i64 er)/\er≠0
 | .ok (ss,gap)=>e=.returned (.int .i64 0)/\ ∃As cs,fK w' gm 42 #[.int .i64 ref,.bool rev,vp,.slice As ss.length cs,.int .i64 gap]/\aq1 kW 60 w' W As cs ss
theorem lH.amr(h:lH W B g l u er)(x:Int):lH (W.setCell ⟨g,1,none⟩ x) B g l x er:=by obtain⟨⟨A,c,j,H,d,K⟩,J⟩:=h;exact⟨⟨A,c,j.iV 1 _,D5 H (λM a e=>by have:=d M a e;omega),d,K⟩,J⟩
theorem Jd(h: ∀x∈l,0<=x/\x<=4294967295):0<=l.headD 0/\l.headD 0<=4294967295:=by cases l with|nil=>simp|cons x r=>simp_all
theorem oq(h: ∀x∈l,0<=x/\x<=4294967295): ∀x∈l.tail,0<=x/\x<=4294967295:=λx d=>h x (List.mem_of_mem_tail d)
theorem Xk{gm:Nat}(ref:Int)(rev:Bool)(vp:Value)(v:List Int)(Av:Option Addr)(cv:Nat)(Y:fK W gm 42 #[ref,rev,vp,nS,zI])(hr:fE aq7 W Av v)(cV:v≠ []-> ∀a,Av=some a->a.block<B)(hB:B<=gm)(hc:v.length<=cv/\cv<=maxLen)(hv: ∀x∈v,0<=x/\x<=4294967295):Calls aj 254 #[.pointer gm,.slice Av v.length cv] W (GI W gm ref rev vp (qK rev v)):=by
 obtain⟨R,hR⟩:=fD (qK rev v);rw[<-hR];unfold qK at hR;have bu:gm<W.heap.size:=Y.lt;have ac:=λW l u er g (h:lH W B g l u er)=>Qh h;have av:lH (W.alloc (.cells #[.slice Av v.length cv,zI,zI] 367)) B W v 0 0:=⟨⟨Av,cv,fK.new _ _ _,hr.below jm,cV,hc.1,hc.2⟩,by omega⟩;have ar:=Y.below ((aH W W).alloc ig (.cells #[.slice Av v.length cv,zI,zI] 367)) bu;obtain⟨n,hn⟩:=fD v.length;rw[<-hn]at av ar ⊢;obtain⟨x0,bR⟩:=fD (v.headD 0);obtain⟨l1,a5⟩:=fD v.tail;obtain⟨H,bO⟩:=fD (l1.headD 0);obtain⟨l2,a6⟩:=fD l1.tail;obtain⟨x2,cI⟩:=fD (l2.headD 0);obtain⟨l3,a7⟩:=fD l2.tail;obtain⟨x3,cJ⟩:=fD (l3.headD 0);obtain⟨l4,a8⟩:=fD l3.tail;obtain⟨M,YO⟩:=fD (l4.headD 0);obtain⟨l5,bB⟩:=fD l4.tail;rw[<-a5,<-a6,<-a7,<-a8,<-bB,<-YO,<-bO,<-bR]at hR;have da:0<=M/\M<=4294967295:=by rw[YO,a8,a7,a6,a5];exact Jd (oq (oq (oq (oq hv))))
 have h0:=λW g (h:lH W B g v 0 0)=>ac W _ _ _ _ h;rw[<-bR,<-a5]at h0;have h1:=λW g (h:lH W B g l1 0 0)=>ac W _ _ _ _ h;rw[<-bO,<-a6]at h1;have h2:=λW g (h:lH W B g l2 H 0)=>ac W _ _ _ _ h;rw[<-cI,<-a7]at h2;have h3:=λW g (h:lH W B g l3 H 0)=>ac W _ _ _ _ h;rw[<-cJ,<-a8]at h3;have h4:=λW g (h:lH W B g l4 H 0)=>ac W _ _ _ _ h;rw[<-YO,<-bB]at h4;have HR:=ah hR;obtain⟨bX,bi⟩:=fD (ajN rev);have cD:=λW=>aad rev W;rw[<-bi]at cD;have bj:=ah bi;clear hR hn bR a5 bO a6 cI a7 cJ a8 YO bB bi Y hr;obtain⟨g,hg⟩:=fD W.heap.size;obtain⟨W1,ax⟩:=fD (W.alloc (.cells #[.slice Av n cv,zI,zI] 367));have cu:jV (λk=>k=gm\/g<=k) W W1:=by rw[ax];exact jV.of_below jm _
 have cG:g<W1.heap.size:=by rw[ax,hg];simp
 rw[<-ax]at av ar;rw[<-hg]at av;have bw:gm≠g:=by rw[hg];omega
 have HG:=ah hg;go_enter func254,ntmps254;go_wp2_with fail;simp only[<-ax,<-hg];clear hg ax;apply gu (Stp ([(g,some 0)])) (λW=>Stp.drew _ _) (λ_ _ _ h1 h2=>h1.trans h2) (zG 1 ([(g,some 0)])) (λ_ _ _ h=>h.I7) yO (Wv 1 (λW=>lH W B g v 0 0)) (λ_ _=>(λ(W W':World) (h:lH W B g v 0 0) (hb:W W')=>h.below hb) _ _ (show lH W1 B g v 0 0 from av) (aq3 gY 1)) (λi aD W W' bx hp ht e=>(λ(W W':World) (h:lH W B g v 0 0) (hb:W W')=>h.below hb) _ _ (hp e) (ht.1 (λej=>bx (e.trans ej.symm))));case lX=>intro u;simp only[bV,aq9,aP,ay,aA,aB,aT,aJ];with_reducible rfl
 case hm=>kernel_rfl
 case hB=>kernel_rfl
 case hA=>kernel_rfl
 case hap=>kernel_rfl
 repeat(first
    |(refine fM.one (ado B g l1 0 0 x0) ?_ ?_
      ·
        (intro u w' d aa j
         replace aa:=aa rfl
         simp[fO,aC,gI,Is]at j
         refine fC ?_ ?_
         ·
           first
           |rfl
         intro ag hK
         go_wp2_with ((with_reducible refine(h0 _ _ aa).mono ?_);rintro e J⟨rfl,N,K⟩);(try simp only[j]at hK);exact hK _ _ (yN N) ⟨rfl,K⟩))
    |(apply fM.is
      ·
        (intro u w' d aa j
         clear aa
         simp[fO,aC,gI,Is]at j
         refine fC ?_ ?_
         ·
           first
           |rfl
         intro ag hK
         have c8:=(d.blk ar (by simp[bw])).cell
         go_wp2_with (((with_reducible refine(cD _).mono ?_);rintro e J⟨rfl,rfl⟩))
         try simp only[j]at hK
         refine hK _ _ ?_ rfl
         first |exact oM (by decide))))
 refine fM.last (EO ?_) ?_
 ·simp only[gQ];repeat(refine⟨?_,?_⟩;·first|exact yP _|exact uZ (λ_ _ _ h hb=>h.grow hb))
  exact trivial
 intro u w2 af _ j;simp only[gQ]at j;refine⟨rfl,?_⟩;intro ag hK;have h6:=j 6 _ rfl;obtain⟨cF,bo⟩:=j 1 _ rfl;simp only[gI,Is]at h6;clear j;simp only[cF,h6];have cy:=af.blk ar (by simp[bw]);have aL:=cu.trans ((mD af).mono (λk d=> .inr (bZ d.symm)));have cH:=aU cG af.size;clear ar cu cG av h6 cF af h0;by_cases an:x0=bX
 ·have e0:(x0 != bX)=false:=by simpa using an
  have ch:=ah an;clear an;by_cases h8:8<=M;·(have d8:decide (8<=M)=true:=by simpa using h8);have aw:Hid (R=.error 2):=ah (by rw[HR.out,if_neg (by rw[<-bj.out];exact λh=>h ch.out),if_pos h8]);clear h8;go_wp2_with(first|((with_reducible refine(h1 _ _ bo).mono ?_);rintro e J⟨rfl,N,K⟩;obtain⟨A3,c3,O,_⟩:=K.blk;have ai:=O.cell;have ci:=O.frozen 1;have U:=K.amr H)|((with_reducible refine(h2 _ _ U).mono ?_);rintro e fU⟨rfl,am,IJ⟩)|((with_reducible refine(h3 _ _ IJ).mono ?_);rintro e fU⟨rfl,bb,Uf⟩)|((with_reducible refine(h4 _ _ Uf).mono ?_);rintro e fU⟨rfl,bc,Gv⟩));go_ret;have aM:=((((aL.trans ((mD N).mono (λk d=> .inr (bZ d.symm)))).trans ((GH J g 1 H).mono (λk d=> .inr (bZ d.symm)))).trans ((mD am).mono (λk d=> .inr (bZ d.symm)))).trans ((mD bb).mono (λk d=> .inr (bZ d.symm)))).trans ((mD bc).mono (λk d=> .inr (bZ d.symm)));refine⟨aM.old (λk d j=>j.elim id (λh=>by have:=HG.out;omega)),?_⟩;rw[aw.out];exact⟨rfl,by decide⟩
  ·(have d8:decide (8<=M)=false:=by simpa using h8);have c9:M<=7:=by omega
   have cf : Hid (R = match wP H (M + 1).toNat l5 0 [] with
     | .error er=> .error er
     | .ok (l,ss)=>aae H l ss):=ah (by rw[HR.out,if_neg (by rw[<-bj.out];exact λh=>h ch.out),if_neg h8])
   clear h8;go_wp2_with(first|((with_reducible refine(h1 _ _ bo).mono ?_);rintro e J⟨rfl,N,K⟩;obtain⟨A3,c3,O,_⟩:=K.blk;have ai:=O.cell;have ci:=O.frozen 1;have U:=K.amr H)|((with_reducible refine(h2 _ _ U).mono ?_);rintro e fU⟨rfl,am,IJ⟩)|((with_reducible refine(h3 _ _ IJ).mono ?_);rintro e fU⟨rfl,bb,Uf⟩)|((with_reducible refine(h4 _ _ Uf).mono ?_);rintro e fU⟨rfl,bc,Gv⟩));have k3:=(mD N).trans (GH J g 1 H);have k7:=((k3.trans (mD am)).trans (mD bb)).trans (mD bc);have aM:=aL.trans (k7.mono (λk d=> .inr (bZ d.symm)));have cz:=cy.ji k7 bw;have cm:=aU cH k7.size;clear k3 k7 aL cy cH N am bb bc K U IJ Uf bo h1 h2 h3 h4 ai ci O e0 d8;go_loopw [38,8] (λi a wr=> ∃(k:Nat) (at_:Int) (l:List Int) (Z:List Sc) (AL:Option Addr) (cL:Nat),i=.int .i64 k/\(k:Int)<=M+1/\a=.int .i64 at_/\0<=at_/\at_<=3276600*(k:Int)/\lH wr B g l H 0/\fK wr gm 42 #[ref,rev,vp,.slice AL k cL,zI]/\aq1 kW 60 wr (g+1) AL cL Z/\Hid (Z.length=k)/\jV (λk=>k=gm\/g<=k) W wr/\g<wr.heap.size/\Hid (wP H (M+1).toNat l5 0 []=wP H ((M+1).toNat-k) l at_ Z)) (λi _ _=>(M+1).toNat-(intOf i).toNat);(case atStart=>exact⟨0,0,l5,[],none,0,rfl,by omega,rfl,by decide,by simp,Gv,cz,aq1.nil _ _,ah rfl,aM,cm,ah rfl⟩);case round=>
    clear Gv cz aM cm;obtain⟨k,at_,l,Z,AL,cL,rfl,d,rfl,cQ,c7,hP,Y,Q,hz,hG,cU,hL⟩:=hrel;by_cases az:(k:Int)<M+1
    ·(have cA:decide ((k:Int)<M+1)=true:=by simpa using az);have yL:=agn hP at_ cQ (by omega);have cX:=adp (l.headD 0) H;obtain⟨kL,bd⟩:=fD (sTo at_ l H);(have cn:0<=kL/\kL<=3276600*((k:Int)+1):=by rw[bd,sTo];omega);obtain⟨V,bN⟩:=fD (AV l);obtain⟨ak,MI⟩:=fD (ar2 l H 0);obtain⟨l',bA⟩:=fD (Oh l);rw[<-bd,<-bN,<-MI,<-bA]at yL;obtain⟨aD,hj⟩: ∃aD,(M+1).toNat-k=aD+1:=⟨(M+1).toNat-k-1,by omega⟩;(have cx:wP H (M+1).toNat l5 0 []=if ak≠0 then .error ak else wP H aD l' kL (Z++ [⟨kL,V⟩]):=by rw[hL.out,hj,wP,<-MI,<-bA,<-bd,<-bN]);have cd:=ah cx;have HJ:=ah hj;clear cx hL bd bN MI bA hj cX hP;(have cT:gm<g:=by rw[HG.out];exact bu);have al:=Q.gJ;by_cases he:ak=0
     ·(have e0:(ak != 0)=false:=by simpa using he);have HE:=ah he;clear he;go_wp2_with((with_reducible refine yL.mono ?_);rintro e J⟨rfl,ae,K⟩;have U:=K.below ((aH J J).alloc ig (.cells #[kL,V] 60));obtain⟨A3,c3,O,_⟩:=U.blk;have ai:=O.cell);have aR:=fK.new J 60 #[kL,V];have WX:=(Y.ji ae (by omega)).below ((aH J J).alloc ig (.cells #[kL,V] 60)) (aU Y.lt ae.size);replace Q:=(Q.ji ae (λx e j=>by have:=al x e;omega)).alloc (.cells #[kL,V] 60);have aq:=(hG.trans (ae.mono (λk d=> .inr (bZ d.symm)))).trans (jV.of_below ((aH J J).alloc ig (.cells #[kL,V] 60)) _);have cN:=ae.size;obtain⟨b9,xW⟩:=fD J.heap.size;obtain⟨W4,Ug⟩:=fD (J.alloc (.cells #[kL,V] 60));(have ba:b9<W4.heap.size:=by rw[Ug,xW];simp);rw[<-Ug]at aR WX Q aq U ⊢;rw[<-xW]at aR cN ⊢;(have cE: ¬AL.map (·.block)=some gm:=λe=>by have:=al gm e;omega);(have cC: ¬AL.map (·.block)=some b9:=λe=>by have:=al b9 e;omega);(have cW: ¬AL.map (·.block)=some g:=λe=>by have:=al g e;omega);(have cR:g+1<=W4.heap.size:=by omega);(have cS:gm≠b9:=by omega);have cM:=ah aq;clear Ug xW ae K O ai Y hG yL aq e0;apply qp (λw w'=>w.grownBy w' (AL.map (·.block))) (λw=>arj (aq3 gY 1) _) (λ_ _ _=>lN) (CW (AL.map (·.block)) 7) (λ_ _ _ h=>h.2) (λi W=>i=7->aq1 kW 60 W (g+1) AL cL Z) (λ_ _=>Q.below (aq3 gY 1)) (λi aD W W' bx hp ht hi=>(hp hi).below (ht.1 (λh=>bx (hi.trans h.symm))));(case lX=>intro u;simp only[bV,List.dropLast,aq9,aP,ay,aA,aB,aT,aJ];with_reducible rfl);(case hm=>kernel_rfl);(case hB=>kernel_rfl);(case hA=>kernel_rfl);case hap=>kernel_rfl
      repeat(first
         |(apply kE.is
           ·
             (intro u w' d aa j
              clear aa
              simp[fH,aC,Is]at j
              refine fC ?_ ?_
              ·
                first
                |rfl
              intro ag ad
              have m1:=(WX.ji (jV.kJ (D:=λk=>AL.map (·.block)=some k) d (λk d=>d)) cE).cell;have m2:=(aR.ji (jV.kJ (D:=λk=>AL.map (·.block)=some k) d (λk d=>d)) cC).cell
              go_wp2_with (fail)
              try simp only[j]at ad
              refine ad _ _ ?_ rfl
              exact vT _ _ _ _))
         |(refine kE.word (Gm 60 (AL.map (·.block)) #[kL, V]) ?_ ?_
           ·
             (intro u w' d aa j
              clear aa
              simp[fH,aC,Is]at j
              refine fC ?_ ?_
              ·
                first
                |rfl
              intro ag ad
              go_wp2_with fail
              try simp only[j]at ad
              exact ad _ _ (uw jm) ⟨w',rfl,fK.new _ _ _,λe=>by have:=(Q.gJ _ e).2;have:=d.size;omega⟩))
         |(refine kE.word (PN kW 60 (g + 1) (k + 1) (Z ++ [⟨kL, V⟩])) ?_ ?_
           ·
             (intro u w' d aa j
              simp[fH,aC,Is]at j
              obtain⟨q1,bv,q2,hB,hn⟩:=j
              refine fC ?_ ?_
              ·
                first
                |rfl
              intro ag ad
              exact oH abI (.tmp 56) (.tmp 58) rfl (g+1) AL cL Z k (by rw[<-q1];rfl) hz.out (aa rfl) bv 1 [⟨kL,V⟩] 1 (by rw[<-q2];rfl) rfl (aac hB) (by omega) (by decide) (aG cR d.size) λA2 c2 W h1 h2 _=>ad _ _ ⟨λh=>absurd rfl h,h2⟩ ⟨A2,c2,rfl,h1⟩)))
      refine kE.last ?_ ?_;(·refine Ai ?_;simp only[gQ];(repeat(refine⟨?_,?_⟩;·first|exact λ_ _ _ _ _ h _=>h|exact λ_ _ _ _ _ h ht=>Gm.grow h ht.2|exact λ_ hi _ _ _ h ht=>PN.grow h (ht.1 hi)));exact trivial);intro u w2 af _ j;simp only[gQ]at j;obtain⟨A2,c2,hu,uq⟩:=j 7 _ rfl;have Xl:=j 9 _ rfl;simp only[Is]at Xl;clear j;refine⟨rfl,?_⟩;intro ag ad;have a4:=jV.kJ (D:=λk=>AL.map (·.block)=some k) af (λk d=>d);have Qa:=WX.ji a4 cE;have cY:=Qa.cell;have c5:=Qa.frozen 3;have c6:=((aR.ji a4 cC).far (p:=⟨gm,3,none⟩) (λe=>cS e.symm) (.slice A2 (k+1) c2)).cell;simp only[hu,Xl];clear hu Xl;go_wp2_with fail;go_roundw;(case rel=>have kc:=GH w2 gm 3 (.slice A2 (k+1) c2);have kx:=(a4.mono (D':=λk=>k=gm\/g<=k) (λx hx=> .inr (by have:=al x hx;omega))).trans (kc.mono (λk d=> .inl d));exact⟨k+1,kL,l',Z++ [⟨kL,V⟩],A2,c2,by go_num,by omega,rfl,cn.1,by have:=cn.2;simpa using this,(lH.ji (by rw[<-HE.out];exact U) a4 cW (λx hx=>by have:=al x hx;omega)).ji kc (λe=>by omega) (λx hx=>by omega),Qa.iV 3 _,uq.far (g:=gm) (by omega) (λk d=>aN w2 ⟨gm,3,none⟩ _ k d),ah (by rw[bC,hz.out];rfl),cM.trans kx,aU (by omega) (aG af.size (by simp[dD])),ah (by rw[cd.out,if_neg (λh=>h HE.out)];congr 1;have:=HJ.out;omega)⟩);case measure=>simp[intOf];omega
     ·(have e0:(ak != 0)=true:=by simpa using he);have HE:=ah he;clear he;have aw:Hid (R=.error ak):=ah (by rw[cf.out,cd.out,if_pos HE.out]);go_wp2_with((with_reducible refine yL.mono ?_);rintro e J⟨rfl,ae,K⟩;have U:=K.below ((aH J J).alloc ig (.cells #[kL,V] 60));obtain⟨A3,c3,O,_⟩:=U.blk;have ai:=O.cell);go_ret;have aq:=(hG.trans (ae.mono (λk d=> .inr (bZ d.symm)))).trans (jV.of_below ((aH J J).alloc ig (.cells #[kL,V] 60)) _);refine⟨aq.old (λk d j=>j.elim id (λh=>by have:=HG.out;omega)),?_⟩;rw[aw.out];exact⟨rfl,HE.out⟩
    ·(have cA:decide ((k:Int)<M+1)=false:=by simpa using az);replace az:=Int.not_lt.1 az;(have cw:wP H (M+1).toNat l5 0 []=.ok (l,Z):=by rw[hL.out,show(M+1).toNat-k=0 by omega,wP]);have cg:Hid (R=aae H l Z):=ah (by rw[cf.out,cw]);obtain⟨x9,bS⟩:=fD (l.headD 0);obtain⟨tb,bL⟩:=fD (x9==1);have Rj:Hid (tb=true<->l.headD 0=1):=ah (by rw[bL,beq_iff_eq,bS]);have e1:(x9==1)=tb:=bL.symm;obtain⟨la,bE⟩:=fD l.tail;have h9:=ac _ _ _ _ _ hP;rw[<-bS,<-bE]at h9;obtain⟨lb,cB⟩:=fD (if l.headD 0=1 then l.tail.tail.tail else l.tail);have cc:=ah bE;have aE:=ah cB;(have cT:gm<g:=by rw[HG.out];exact bu);clear bL bS bE cB cw hL az;go_upto_if 67 with ((with_reducible refine h9.mono ?_);rintro e J⟨rfl,N,K⟩);have au:=Y.ji (mD N) (by omega);have a9:=Q.ji (mD N) (λx e j=>by have:=Q.gJ x e;omega);have bn:=hG.trans ((mD N).mono (λk d=> .inr (bZ d.symm)));clear cA e1 hP Y Q hG N h9 cU;go_cut [] from 10 (λW'=>lH W' B g lb H 0/\fK W' gm 42 #[ref,rev,vp,.slice AL k cL,zI]/\aq1 kW 60 W' (g+1) AL cL Z/\jV (λk=>k=gm\/g<=k) W W');(case first=>cases tb with|false=>have bf:Hid (¬l.headD 0=1):=ah (λh=>by cases Rj.out.2 h);clear Rj;go_wp2_with fail;go_meet;refine⟨?_,au,a9,bn⟩;rw[aE.out,if_neg bf.out,<-cc.out];exact K|true=>have bf:Hid (l.headD 0=1):=ah (Rj.out.1 rfl);clear Rj;have h4:=ac _ _ _ _ _ K;go_wp2_with(first|((with_reducible refine h4.mono ?_);rintro e w4⟨rfl,ba,U⟩;have h5:=ac _ _ _ _ _ U)|((with_reducible refine h5.mono ?_);rintro e fU⟨rfl,am,IJ⟩));go_meet;have k5:=(mD ba).trans (mD am);refine⟨?_,au.ji k5 (by omega),a9.ji k5 (λx e j=>by have:=a9.gJ x e;omega),bn.trans (k5.mono (λk d=> .inr (bZ d.symm)))⟩;rw[aE.out,if_pos bf.out,<-cc.out];exact IJ);case rest=>clear K au a9 bn;obtain⟨hP,Y,Q,hG⟩:=hcut;obtain⟨y,hy⟩:=fD (lb.headD 0);have h9:=ac _ _ _ _ _ hP;rw[<-hy]at h9;have HY:=ah hy;clear hy;by_cases ap:y=1;(·(have e1:(y==1)=true:=by simpa using ap);have bh:=ah ap;clear ap;have jL:=λW (h:lH W B g lb.tail H 0)=>ajH h;obtain⟨bm,bq⟩:=fD (II (lb.tail.headD 0) H);obtain⟨ct,bk⟩:=fD (if Ud (lb.tail.headD 0) H=0 then 0 else Kz 0 7);rw[<-bq,<-bk]at jL;have HD:=ah bq;have ca:=ah bk;clear bq bk;go_wp2_with(first|((with_reducible refine h9.mono ?_);rintro e J⟨rfl,N,K⟩;have au:=Y.ji (mD N) (by omega);have hq:=jL _ K)|((with_reducible refine hq.mono ?_);rintro e w4⟨rfl,ba,U⟩;have k4:=jV.DW (D:=λk=>k=g) ba (λk fU hm=>by simp at hm;exact hm.elim And.left And.left);have WX:=au.ji k4 (by omega);have fJ:=WX.cell;have iG:=WX.frozen 4;obtain⟨A3,c3,O,_⟩:=U.blk;have jQ:=(O.far (p:=⟨gm,4,none⟩) (by show g≠gm;omega) bm).cell));go_ret;have cK:=(mD N).trans k4;have kc:=GH w4 gm 4 bm;have cP:=(hG.trans (cK.mono (λk d=> .inr (bZ d.symm)))).trans (kc.mono (λk d=> .inl d));refine⟨cP.old (λk d j=>j.elim id (λh=>by have:=HG.out;omega)),?_⟩;rw[cg.out,aae];simp only;rw[<-aE.out,<-HY.out,if_pos bh.out];have Gq:=(Q.ji cK (λx e j=>by have:=Q.gJ x e;omega)).far (g:=gm) (w':=w4.setCell ⟨gm,4,none⟩ bm) (by omega) (λk d=>aN w4 ⟨gm,4,none⟩ _ k d);by_cases a1:Ud (lb.tail.headD 0) H=0;(·rw[if_neg (λh=>h a1)];refine⟨by show Ending.returned ct=_;rw[ca.out,if_pos a1],AL,cL,?_,Gq.mono (by have:=HG.out;omega)⟩;rw[hz.out,<-HD.out];exact WX.iV 4 _);·rw[if_pos a1];exact⟨by show Ending.returned ct=_;rw[ca.out,if_neg a1];rfl,by decide⟩);·(have e1:(y==1)=false:=by simpa using ap);have bh:=ah ap;clear ap;go_wp2_with((with_reducible refine h9.mono ?_);rintro e J⟨rfl,N,K⟩;obtain⟨A3,c3,O,_⟩:=K.blk;have ai:=O.cell);go_ret;refine⟨(hG.trans ((mD N).mono (λk d=> .inr (bZ d.symm)))).old (λk d j=>j.elim id (λh=>by have:=HG.out;omega)),?_⟩;rw[cg.out,aae];simp only;rw[<-aE.out,<-HY.out,if_neg bh.out];exact⟨rfl,AL,cL,by rw[hz.out];exact Y.ji (mD N) (by omega),(Q.ji (mD N) (λx e j=>by have:=Q.gJ x e;omega)).mono (by have:=HG.out;omega)⟩
 ·have e0:(x0 != bX)=true:=by simpa using an
  have aw:Hid (R=.error 20):=ah (by rw[HR.out,if_pos (by rw[<-bj.out];exact an)]);clear an;go_wp2_with fail;go_ret;refine⟨aL.old (λk d j=>j.elim id (λh=>by have:=HG.out;omega)),?_⟩;rw[aw.out];exact⟨rfl,by decide⟩
def Uh (l:List St) (x:St):Int:=if x∈l then(l.idxOf x:Int) else -1
theorem amw(A:Option Addr)(n c:Nat)(l:List St)(x:St)(w:World)(hR:fE gV w A l)(hn:l.length=n)(H:n<=1000000):Calls aj 92 #[.slice A n c,qB x] w λe w'=>e=.returned (Uh l x:Int)/\w w':=by
 have V:=ah hn;have j:Own w _ [_]:=Own.jD w 58 #[x.edge,x.rev];unfold qB;go_enter func92,ntmps92;go_wp2;go_loopw [8] (λi wr=> ∃k:Nat,i=.int .i64 k/\k<=n/\Own w wr [(w,58,#[x.edge,x.rev])]/\Hid (x∉l.take k)) (λi _=>n-(intOf i).toNat);case atStart=>exact⟨0,rfl,aV _,j,ah (by simp)⟩
 case round=>
  obtain⟨k,rfl,J,j,O⟩:=hrel;by_cases ae:k<n;·obtain⟨y,hy⟩:=aq5 V.out ae;(have N: ∀w',wr w'-> ∃g off,A=some ⟨g,off,none⟩/\w'.cell? ⟨g,off+k*2,none⟩=some y.edge/\w'.cell? ⟨g,off+k*2+1,none⟩=some y.rev:=λw' H=>by obtain⟨g,off,e,hg,hc⟩:=((hR.below j.below).below H).get hy;exact⟨g,off,e,hc 0 _ rfl,hc 1 _ rfl⟩);obtain⟨g,off,hA,_,_⟩:=N wr gY;subst hA;(have ka: ∀w',wr w'->w'.cell? ⟨g,off+k*2,none⟩=some y.edge:=λw' H=>by obtain⟨g',af,e,d,_⟩:=N w' H;injection e with e;injection e with e1 e2;subst e1;subst e2;exact d);(have kb: ∀w',wr w'->w'.cell? ⟨g,off+k*2+1,none⟩=some y.rev:=λw' H=>by obtain⟨g',af,e,_,d⟩:=N w' H;injection e with e;injection e with e1 e2;subst e1;subst e2;exact d);have aa:=λW=>vP x y W;unfold qB at aa;obtain⟨b,Z⟩:=fD (decide (x=y));rw[<-Z]at aa;have U:=ah Z;have M:=ah hy;go_wp2_with fail;refine ara (by kernel_rfl) ?_;(repeat(first|(apply gX.want rfl;(·intro w' J ag Q' hK;have ac:=j.grow J;have ai:=ac.b0.cell;go_wp2_with(fail);first|exact aH _ _);(·simp only[aP,ay,aA,aB];rfl))));refine gX.nil ?_;intro w' J;have Y:=j.grow J;cases b with|false=>have K: ¬x=y:=of_decide_eq_false U.out.symm;have WU:Hid (x∉l.take (k+1)):=ah (by rw[take_snoc' M.out,dK];rintro (h |h);(·exact O.out h);·exact K (by simpa using h));go_wp2_with fail;go_roundw;(case rel=>exact⟨k+1,by go_num,by omega,Y,WU⟩);case measure=>simp[intOf];omega|true=>have K:x=y:=of_decide_eq_true U.out.symm;have Q:Hid (Uh l x=(k:Int)):=ah (by(have hm:x∈l:=by rw[K];exact bP M.out);unfold Uh;rw[if_pos hm];obtain⟨ak,ad⟩:=aX.1 M.out;(have h2:l.idxOf x=k:=by(have h3:l=l.take k++x::l.drop (k+1):=by rw[K,<-ad];simp);rw[h3,List.idxOf_append,if_neg O.out,List.idxOf_cons_self];simp;omega);rw[h2]);go_wp2_with fail;go_ret;exact⟨by rw[Q.out];rfl,Y.below⟩
  ·(obtain rfl:k=n:=by omega);have Q:Hid (Uh l x= -1):=ah (by have d:=O.out;rw[aY (by rw[V.out];exact aW _)]at d;unfold Uh;rw[if_neg d]);go_wp2_with fail;go_ret;exact⟨by rw[Q.out];rfl,j.below⟩
theorem ajR(A:Option Addr)(n c:Nat)(l:List St)(x:St)(w:World)(K:fE gV w A l)(hn:l.length=n)(M:n<=1000000):Calls aj 142 #[.slice A n c,qB x] w λe w'=>e=.returned (.bool (decide (x∈l)))/\w w':=by
 have j:Own w _ [_]:=Own.jD w 58 #[x.edge,x.rev];have O:=j.b0.cell;have d:=amw A n c l x _ (K.below j.below) hn M;have J:decide (0<=Uh l x)=decide (x∈l):=by
  unfold Uh;by_cases h:x∈l;·rw[if_pos h];simp[h]
  ·rw[if_neg h];simp[h]
 obtain⟨i,hi⟩:=fD (Uh l x);rw[<-hi]at d J;obtain⟨b,H⟩:=fD (decide (x∈l));rw[<-H]at J ⊢;clear hi H;unfold qB at d ⊢;go_enter func142,ntmps142;go_wp2_with((with_reducible refine d.mono ?_);rintro e Q⟨rfl,N⟩);go_ret;exact⟨rfl,(j.grow N).below⟩
theorem amx(A:Option Addr)(n c:Nat)(l:List St)(B:Option Addr)(m ag:Nat)(r:List St)(w:World)(hR:fE gV w A l)(hn:l.length=n)(hS:fE gV w B r)(hm:r.length=m)(Q:n<=1000000)(ak:m<=1000000):Calls aj 258 #[.slice A n c,.slice B m ag] w λe w'=>e=.returned (.bool (decide (l=r)))/\w w':=by
 have HN:=ah hn;have HM:=ah hm;by_cases ad:n=m
 ·subst ad;have e0:((n:Int) != (n:Int))=false:=by simp
  obtain⟨res,K⟩:=fD (decide (l=r));rw[<-K];have HR:=ah K;go_enter func258,ntmps258;go_wp2_with fail;go_loopw [13] (λi wr=> ∃k:Nat,i=.int .i64 k/\k<=n/\w wr/\Hid (l.take k=r.take k)) (λi _=>n-(intOf i).toNat);case atStart=>exact⟨0,rfl,aV _,aH _ _,ah (by simp)⟩
  case round=>obtain⟨k,rfl,J,j,Z⟩:=hrel;by_cases Y:k<n;(·obtain⟨x,N⟩:=aq5 HN.out Y;obtain⟨y,O⟩:=aq5 HM.out Y;obtain⟨g,off,hA,_,_⟩:=(hR.below j).get N;obtain⟨g2,af,hB,_,_⟩:=(hS.below j).get O;subst hA;subst hB;(have kk: ∀w',wr w'->(w'.cell? ⟨g,off+k*2,none⟩=some x.edge/\w'.cell? ⟨g,off+k*2+1,none⟩=some x.rev)/\(w'.cell? ⟨g2,af+k*2,none⟩=some y.edge/\w'.cell? ⟨g2,af+k*2+1,none⟩=some y.rev):=λw' Q=>by obtain⟨b1,o1,e1,_,aa⟩:=((hR.below j).below Q).get N;obtain⟨b2,o2,e2,_,ac⟩:=((hS.below j).below Q).get O;injection e1 with e1;injection e1 with e1 e3;injection e2 with e2;injection e2 with e2 e4;subst e1;subst e2;subst e3;subst e4;exact⟨⟨aa 0 _ rfl,aa 1 _ rfl⟩,ac 0 _ rfl,ac 1 _ rfl⟩);have V:=λW=>JF x y W;unfold qB at V;obtain⟨b,U⟩:=fD (!decide (x=y));rw[<-U]at V;have HB:=ah U;have HX:=ah N;have HY:=ah O;clear U N O;go_wp2_with fail;refine ara (by kernel_rfl) ?_;(repeat(first|(apply gX.want rfl;(·intro w' J ai Q' hK;obtain⟨⟨m1,m2⟩,m3,m4⟩:=kk _ J;go_wp2_with(fail);first|exact aH _ _);(·simp only[aP,ay,aA,aB];rfl))));refine gX.nil ?_;intro w' J;have ae:=j.trans (J.mono j.size);clear J V kk;cases b with|false=>(have M:x=y:=by have d:=HB.out;refine Classical.byContradiction λe=>?_;rw[decide_eq_false e]at d;cases d);have WU:Hid (l.take (k+1)=r.take (k+1)):=ah (by rw[take_snoc' HX.out,take_snoc' HY.out,Z.out,M]);clear M;go_wp2_with fail;go_roundw;(case rel=>exact⟨k+1,by go_num,by omega,ae,WU⟩);case measure=>simp[intOf];omega|true=>(have M: ¬x=y:=by have d:=HB.out;intro e;rw[decide_eq_true e]at d;cases d);have H:Hid (res=false):=ah (by rw[HR.out,decide_eq_false_iff_not];intro e;have d:=HX.out;rw[e,HY.out]at d;injection d with d;exact M d.symm);clear M;go_wp2_with fail;go_ret;exact⟨by rw[H.out];rfl,ae⟩);·(obtain rfl:k=n:=by omega);have H:Hid (res=true):=ah (by have d:=Z.out;rw[aY (by rw[HN.out];exact aW _),aY (by rw[HM.out];exact aW _)]at d;rw[HR.out,decide_eq_true_iff];exact d);clear Z Y;go_wp2_with fail;go_ret;exact⟨by rw[H.out];rfl,j⟩
 ·have e0:((n:Int) != (m:Int))=true:=by rw[bne_iff_ne];omega
  have H:Hid (decide (l=r)=false):=ah (by rw[decide_eq_false_iff_not];intro e;rw[e]at hn;omega);obtain⟨res,K⟩:=fD (decide (l=r));rw[<-K]at H ⊢;clear hn hm ad K;go_enter func258,ntmps258;go_wp2_with fail;go_ret;exact⟨by rw[H.out];rfl,aH _ _⟩
end Go.Proofs.YthnmgjngniciaaaGreatDoor
