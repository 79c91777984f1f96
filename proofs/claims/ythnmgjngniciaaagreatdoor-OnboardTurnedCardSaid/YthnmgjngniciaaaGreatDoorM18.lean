/- Parts. -/
import Derived.Test.YthnmgjngniciaaaGreatDoorM17
import Derived.Test.YthnmgjngniciaaaGreatDoorM11
import Derived.Deep.DeepCutAuto
import Derived.Test.YthnmgjngniciaaaGreatDoorM08
import Derived.Test.YthnmgjngniciaaaGreatDoorM02
import Derived.Lib.Hide
set_option linter.all false
set_option maxHeartbeats 16000000
set_option maxRecDepth 8000
open Bool renaming false_eq_true→bU
open List renaming getElem?_map→bW,length_append→bC,length_map→eU,map→bV,mem_cons→bJ,mem_of_getElem?→bP,nil_append→aZ,not_mem_nil→dH,setIfInBounds_toArray→ay,set_cons_succ→aB,set_cons_zero→aA,take_of_length_le→aY
open Nat renaming add_zero→bI,le_refl→aW,le_trans→aG,reduceAdd→aT,zero_add→aJ,zero_le→aV
namespace Go.Proofs.YthnmgjngniciaaaGreatDoor
open Go.RowKit Go.Shelf Tryz
open Act renaming put→aP
open Below renaming refl→aH
open Lib renaming hid→ah
open Region renaming binds→aC
open Tryz renaming prog→aj
open Value renaming oneCell'→aK
variable{last now:Int}{bs:List UInt8}
theorem amj(m:Ms)(a:Vx)(w:World)(hT:Tab w)(hm:P8 w m a)(dE:m.v.length<=100)(eC:m.p.length<=7):Calls aj 113 #[oC m a] w (ajA w (DY m)):=by
 obtain⟨R,hR⟩:=fD (DY m);rw[<-hR];have HR:=ah hR;clear hR;obtain⟨Av,cv,Ap,cp⟩:=a;have Ua:=λW=>ac5 m.id m.t m.ack m.sS Av m.v.length cv Ap m.p.length cp W;unfold ac2 at Ua;obtain⟨va,ca⟩:=fD (rJ m);rw[show Fa m.id m.t m.ack m.sS=rJ m from rfl,<-ca]at Ua;have eh:=ah ca;have eE:va.length<=3:=by rw[ca];unfold rJ Fa;split <;> simp
 have J:Own w _ [_]:=Own.jD w 196 (oC m ⟨Av,cv,Ap,cp⟩);have aw:=λW=>afT m.id W;unfold Gh Af at aw;obtain⟨f,hf⟩:=fD (nG m.id);rw[<-hf]at aw;have dv:=AQ m.id;rw[<-hf]at dv;obtain⟨f1,fx,f3⟩:=f;have HF:=ah hf;simp only at aw dv;obtain⟨kn,cN⟩:=fD ((PE m.id).isSome);rw[<-cN]at aw;have ch:=ah cN;have bk:=λW=>acT m.id W;unfold JQ at bk;have dx:=TL m.id;obtain⟨hp,cK⟩:=fD (H9 m.id);rw[<-cK]at bk dx;have eb:=ah cK;have bo:=λW=>Tn m.id W;obtain⟨up,MG⟩:=fD (PW m.id);rw[<-MG]at bo;have eg:=ah MG;have ez:=hm.p;have dr:=hm.v;have ef:=ah hm.pv;have ea:=ah hm.cp;clear ca hf cN cK MG hm;unfold oC at J ⊢;simp only at J ⊢;obtain⟨mv,bS⟩:=fD m.v;obtain⟨np,bX⟩:=fD m.p.length;obtain⟨id,bO⟩:=fD m.id;obtain⟨t,ht⟩:=fD m.t;obtain⟨ack,cB⟩:=fD m.ack;obtain⟨sS,dg⟩:=fD m.sS;rw[<-bS,<-bX,<-bO,<-ht,<-cB,<-dg]at J Ua ⊢;rw[<-bO]at aw bk bo;rw[<-bS]at dr dE;rw[<-bX]at eC;have RS:=ah bX;have ee:=ah bS;have zN:=ah bO;have d9:=ah cB;clear bX bS bO ht cB dg;have eA:=J.b0.cell;cases kn with
 |false=>have ad:Hid (R=.error 4):=ah (by have M:=ch.out;rw[HR.out];unfold DY;rw[if_pos (by cases h:PE m.id with |none=>rfl |some x=>rw[h]at M;cases M)]);go_enter func113,ntmps113;go_wp2_with((with_reducible refine(aw _).mono ?_);rintro e w1⟨A1,c1,A3,c3,rfl,cI,bN⟩;have jc:=(J.grow bN).new1 240 #[.slice A1 f1.length c1,fx,.slice A3 f3.length c3]);go_ret2;refine⟨jc.below,?_⟩;rw[ad.out];rfl
 |true=>
  have bd:Hid (PE m.id≠none):=ah (by have M:=ch.out;intro h;rw[h]at M;cases M);have cR:=λW (h:Tab W)=>pF 0 W h;rw[show fQ 0=8 by decide]at cR;have cS:=λW (h:Tab W)=>pF 1 W h;rw[show fQ 1=10 by decide]at cS;clear ch;go_enter func113,ntmps113;go_wp2_with((with_reducible refine(aw _).mono ?_);rintro e w1⟨A1,c1,A3,c3,rfl,cI,bN⟩;have jc:=(J.grow bN).new1 240 #[.slice A1 f1.length c1,fx,.slice A3 f3.length c3]);have TM:=ah cI;obtain⟨W1,bL⟩:=fD (w1.alloc (.cells #[.slice A1 f1.length c1,fx,.slice A3 f3.length c3] 240));have dp:kU W1 w (f1,fx,f3) A1 c1 A3 c3:=by rw[bL];exact kU.below ⟨TM.out.own,TM.out.may,TM.out.q1,TM.out.q3,λa e=>by have:=TM.out.f1 a e;simp at this;omega,λa e=>by have:=TM.out.f3 a e;simp at this;omega⟩ jm
  obtain⟨cx,cF⟩:=fD w.heap.size;obtain⟨cw,cE⟩:=fD w1.heap.size;rw[<-bL,<-cF,<-cE]at jc;rw[<-bL,<-cF,<-cE];clear bL cF cE cI TM bN J eA aw w1;have bE:=hT.below jc.below;obtain⟨B,a5⟩:=fD W1.heap.size;have ZY:=ah dp;have bq:Hid (w.heap.size<=B):=ah (by rw[a5];exact jc.below.size);have Xj:Hid (0<B/\cx<B/\cw<B):=ah (by rw[a5];have M:=jc.b0.lt;have h2:=jc.b1.lt;exact⟨by omega,M,h2⟩);have HB:=ah a5;apply iM;case lX=>intro u;simp only[bV,aq9,aP,ay,aA,aB,aT,aJ];rfl
  case hm=>kernel_rfl
  case hB=>kernel_rfl
  case hap=>kernel_rfl
  apply Lex.is;·(intro u w' j d;simp[fH,aC]at d;refine fF (by first |rfl) ?_;intro K H;have ak:=jc.grow j;have au:=ak.b0.cell;go_wp2_with(fail);refine H _ _ ?_ rfl;first|exact aH _ _)
  apply Lex.is;·(intro u w' j d;simp[fH,aC,Is]at d;refine fF (by first |rfl) ?_;intro K H;have ak:=jc.grow j;have au:=ak.b0.cell;go_wp2_with(fail);(try simp only[d]at H);refine H _ _ ?_ rfl;first|exact aH _ _)
  iterate 4(first|(apply Lex.is;·(intro u w' j d;simp[fH,aC,Is]at d;refine fF (by first |rfl) ?_;intro K H;have al:=bE.below j;go_wp2_with(((with_reducible refine(cS _ al).mono ?_);rintro e w3⟨rfl,cT⟩;obtain rfl:=cT.symm));(try simp only[d]at H);refine H _ _ ?_ rfl;first|exact aH _ _))|(apply Lex.is;·(intro u w' j d;simp[fH,aC]at d;refine fF (by first |rfl) ?_;intro K H;have al:=bE.below j;go_wp2_with(((with_reducible refine(cR _ al).mono ?_);rintro e w3⟨rfl,cT⟩;obtain rfl:=cT.symm));refine H _ _ ?_ rfl;first|exact aH _ _))|(apply Lex.is;·(intro u w' j d;simp[fH,aC,Is]at d;refine fF (by first |rfl) ?_;intro K H;skip;go_wp2_with(fail);(try simp only[d]at H);refine H _ _ ?_ rfl;first|exact aH _ _)))
  refine Lex.word (ZX B 2 [(id,8),(0,10)]) (λ_ _ _ h O=>h.grow O) ?_ ?_;·(intro u w' j d;refine jh rfl ?_;simp only[gQ]at d;have q3:=d ⟨3,.data⟩ (by simp) rfl _ rfl;have q5:=d ⟨5,.data⟩ (by simp) rfl _ rfl;simp only[Is]at q3 q5;clear d;intro K H;go_wp2_with fail;(try simp only[q3,q5]at H);exact H _ _ jm ⟨_,_,rfl,aq1.adh (xs:= [(id,8),(0,10)]) (fK.new _ _ _) (by rw[a5];exact j.size) (by show 2<=maxLen;decide) rfl⟩)
  refine Lex.word (ZX B 2 [(id,8),(0,10)]) (λ_ _ _ h O=>h.grow O) ?_ ?_;·(intro u w' j d;refine jh rfl ?_;simp only[gQ]at d;have q6:ZX B 2 [(id,8),(0,10)] (u 6) w':=d ⟨6,.data⟩ (by simp) rfl _ rfl;obtain⟨A7,c7,q6,Q⟩:=q6;clear d;intro K H;go_wp2_with fail;(try simp only[q6]at H);exact H _ _ gY ⟨A7,c7,rfl,Q⟩)
  apply Lex.nil;intro u w2 ap d;simp only[gQ]at d;obtain⟨eL,eS,h6,_⟩:=d 6 _ rfl;obtain⟨A6,ex,h7,Vy⟩:=d 7 _ rfl;clear d;simp only[h6,h7];have cY:=ah ap;have ak:=jc.grow ap;have al:=bE.below ap;have bB:B<=w2.heap.size:=by rw[a5];exact ap.size
  clear h6 h7 jc bE dp ap a5 cR cS;obtain⟨ax,cC⟩:=fD (va++mv);obtain⟨Y,cA⟩:=fD ax.length;have cf:=ah cC;have bu:=ah cA;have eO:Y<=103:=by rw[cA,cC,bC];omega
  clear cC cA;go_wp2_with fail;apply iM;case lX=>intro u;simp only[bV,aq9,aP,ay,aA,aB,aT,aJ];rfl
  case hm=>kernel_rfl
  case hB=>kernel_rfl
  case hap=>kernel_rfl
  apply Lex.is;·(intro u w' j d;simp[fH,aC]at d;refine fF (by first |rfl) ?_;intro K H;have ae:=ak.grow j;have au:=ae.b0.cell;go_wp2_with(fail);refine H _ _ ?_ rfl;first|exact aH _ _)
  refine Lex.word (Ky B va.length va) (λ_ _ _ h O=>h.grow O) ?_ ?_;·(intro u w' j d;refine jh rfl ?_;simp only[aZ]at d;have q0:=d ⟨0,.data⟩ (by simp) rfl _ rfl;simp only[Is]at q0;clear d;intro K H;go_wp2_with((with_reducible refine(Ua _).mono ?_);rintro e w3⟨A7,c7,rfl,Q,aD⟩);(try simp only[q0]at H);exact H _ _ aD ⟨A7,c7,rfl,Q.mono (aG bB j.size)⟩)
  apply Lex.is;·(intro u w' j d;simp[fH,aC]at d;refine fF (by first |rfl) ?_;intro K H;have ae:=ak.grow j;have au:=ae.b0.cell;go_wp2_with(fail);refine H _ _ ?_ rfl;first|exact aH _ _)
  apply Lex.is;·(intro u w' j d;simp[fH,aC,Is]at d;refine fF (by first |rfl) ?_;intro K H;have ae:=ak.grow j;have au:=ae.b0.cell;go_wp2_with(fail);(try simp only[d]at H);refine H _ _ ?_ rfl;first|exact aH _ _)
  refine Lex.word (Fe va mv) (λ_ _ _ h O=>h.grow O) ?_ ?_;·(intro u w' j d;refine jh rfl ?_;simp only[gQ]at d;have q1:Ky B va.length va (u 1) w':=d ⟨1,.data⟩ (by simp) rfl _ rfl;have q3:=d ⟨3,.data⟩ (by simp) rfl _ rfl;simp only[Is]at q3;obtain⟨A7,c7,q1,Q⟩:=q1;clear d;intro K H;go_wp2_with fail;(try simp only[q1,q3]at H);exact H _ _ jm ⟨_,A7,c7,Av,cv,rfl,fK.new _ _ _,Q.rows.below jm,(dr.below (ak.grow j).below).below jm⟩)
  refine Lex.word (Ky B Y ax) (λ_ _ _ h O=>h.grow O) ?_ ?_;·(intro u w' j d;refine jh rfl ?_;simp only[gQ]at d;have q4:Fe va mv (u 4) w':=d ⟨4,.data⟩ (by simp) rfl _ rfl;obtain⟨bv,A7,c7,A8,c8,q4,cG,Gv,P9⟩:=q4;clear d;intro K H;go_wp2_with((with_reducible refine(ac3 bv A7 c7 A8 c8 va mv _ cG Gv P9 (by omega) (by omega)).mono ?_);rintro e w3⟨A9,c9,rfl,ZI,aD⟩);(try simp only[q4]at H);exact H _ _ aD ⟨A9,c9,by rw[bu.out,cf.out,bC],by rw[cf.out];exact ZI.mono (aG bB j.size)⟩)
  refine Lex.word (Ky B Y ax) (λ_ _ _ h O=>h.grow O) ?_ ?_;·(intro u w' j d;refine jh rfl ?_;simp only[gQ]at d;have q5:Ky B Y ax (u 5) w':=d ⟨5,.data⟩ (by simp) rfl _ rfl;obtain⟨A9,c9,q5,ZI⟩:=q5;clear d;intro K H;go_wp2_with fail;(try simp only[q5]at H);exact H _ _ gY ⟨A9,c9,rfl,ZI⟩)
  apply Lex.nil;intro u w3 bm d;simp only[gQ]at d;obtain⟨d6,ep,h0,_⟩:=d 1 _ rfl;obtain⟨b11,d7,eq,ZP,et,h4,_⟩:=d 4 _ rfl;obtain⟨d8,ev,h5,_⟩:=d 5 _ rfl;obtain⟨A7,c7,h6,Q⟩:=d 6 _ rfl;clear d;simp only[h0,h4,h5,h6];have ed:Hid (W1 w3):=ah (cY.out.trans (bm.mono cY.out.size));have ae:=ak.grow bm;have cy:=aG bB bm.size;replace Vy:=Vy.below bm;clear h0 h4 h5 h6 bm ak al bB Ua dE eE;obtain⟨nm,cQ⟩:=fD (hp++f1);obtain⟨ai,hN⟩:=fD nm.length;have cm:=ah cQ;have HN:=ah hN;have eT:ai<=10:=by rw[hN,cQ,bC];omega
  clear cQ hN;have cz:kU w3 w (f1,fx,f3) A1 c1 A3 c3:=ZY.out.below ed.out;go_wp2_with fail;apply iM;case lX=>intro u;simp only[bV,aq9,aP,ay,aA,aB,aT,aJ];rfl
  case hm=>kernel_rfl
  case hB=>kernel_rfl
  case hap=>kernel_rfl
  apply Lex.is;·(intro u w' j d;simp[fH,aC]at d;refine fF (by first |rfl) ?_;intro K H;have U:=ae.grow j;have au:=U.b0.cell;have cH:=U.b1.cell;go_wp2_with(fail);refine H _ _ ?_ rfl;first|exact aH _ _)
  apply Lex.is;·(intro u w' j d;simp[fH,aC,Is]at d;refine fF (by first |rfl) ?_;intro K H;have U:=ae.grow j;have au:=U.b0.cell;have cH:=U.b1.cell;go_wp2_with(fail);(try simp only[d]at H);refine H _ _ ?_ rfl;first|exact aH _ _)
  refine Lex.word (WE hp) (λ_ _ _ h O=>h.grow O) ?_ ?_;·(intro u w' j d;refine jh rfl ?_;simp only[gQ]at d;have q0:=d ⟨1,.data⟩ (by simp) rfl _ rfl;simp only[Is]at q0;clear d;intro K H;go_wp2_with((with_reducible refine(bk _).mono ?_);rintro e w3⟨A8,c8,rfl,Gv,eZ,eN,aD⟩);(try simp only[q0]at H);exact H _ _ aD ⟨A8,c8,rfl,Gv⟩)
  apply Lex.is;·(intro u w' j d;simp[fH,aC]at d;refine fF (by first |rfl) ?_;intro K H;have U:=ae.grow j;have au:=U.b0.cell;have cH:=U.b1.cell;go_wp2_with(fail);refine H _ _ ?_ rfl;first|exact aH _ _)
  apply Lex.is;·(intro u w' j d;simp[fH,aC,Is]at d;refine fF (by first |rfl) ?_;intro K H;have U:=ae.grow j;have au:=U.b0.cell;have cH:=U.b1.cell;go_wp2_with(fail);(try simp only[d]at H);refine H _ _ ?_ rfl;first|exact aH _ _)
  refine Lex.word (Fe hp f1) (λ_ _ _ h O=>h.grow O) ?_ ?_;·(intro u w' j d;refine jh rfl ?_;simp only[gQ]at d;have q0:WE hp (u 2) w':=d ⟨2,.data⟩ (by simp) rfl _ rfl;have q4:=d ⟨4,.data⟩ (by simp) rfl _ rfl;simp only[Is]at q4;obtain⟨A8,c8,q0,Gv⟩:=q0;clear d;intro K H;go_wp2_with fail;(try simp only[q0,q4]at H);exact H _ _ jm ⟨_,A8,c8,A1,c1,rfl,fK.new _ _ _,Gv.below jm,(cz.below j).own.below jm⟩)
  refine Lex.word (Ky B ai nm) (λ_ _ _ h O=>h.grow O) ?_ ?_;·(intro u w' j d;refine jh rfl ?_;simp only[gQ]at d;have q4:Fe hp f1 (u 5) w':=d ⟨5,.data⟩ (by simp) rfl _ rfl;obtain⟨bv,A8,c8,A9,c9,q4,cG,Gv,P9⟩:=q4;clear d;intro K H;go_wp2_with((with_reducible refine(ac3 bv A8 c8 A9 c9 hp f1 _ cG Gv P9 (by omega) (by omega)).mono ?_);rintro e w3⟨A9,c9,rfl,ZI,aD⟩);(try simp only[q4]at H);exact H _ _ aD ⟨A9,c9,by rw[HN.out,cm.out,bC],by rw[cm.out];exact ZI.mono (aG cy j.size)⟩)
  refine Lex.word (Ky B ai nm) (λ_ _ _ h O=>h.grow O) ?_ ?_;·(intro u w' j d;refine jh rfl ?_;simp only[gQ]at d;have q5:Ky B ai nm (u 6) w':=d ⟨6,.data⟩ (by simp) rfl _ rfl;obtain⟨A9,c9,q5,ZI⟩:=q5;clear d;intro K H;go_wp2_with fail;(try simp only[q5]at H);exact H _ _ gY ⟨A9,c9,rfl,ZI⟩)
  apply Lex.nil;intro u w4 a8 d;simp only[gQ]at d;obtain⟨d6,ep,h0,_⟩:=d 2 _ rfl;obtain⟨b11,d7,eq,ZP,et,h4,_⟩:=d 5 _ rfl;obtain⟨d8,ev,h5,_⟩:=d 6 _ rfl;obtain⟨A8,c8,h6,H7⟩:=d 7 _ rfl;clear d;simp only[h0,h4,h5,h6];have U:=ae.grow a8;have dq:=cz.below a8;have dm:=aG cy a8.size;replace Vy:=Vy.below a8;replace Q:=Q.below a8;clear h0 h4 h5 h6 a8 ae cy bk dx cz;obtain⟨bb,aq⟩:=fD (decide (Y≠ai) || (up&&(ack != 0)));have ek:=U.b0.cell;go_upto_region 7 with fail;go_cut [57] from 15 (λx W=>x=.bool bb/\w4 W);case first=>by_cases az:Y=ai;(·(have e1:((Y:Int) != (ai:Int))=false:=by rw[az];simp);cases up with|false=>(have e2:bb=false:=by rw[aq];simp[az]);clear aq az;go_wp2_with((with_reducible refine(bo _).mono ?_);rintro e w5⟨rfl,N⟩);go_meet;rw[e2];exact⟨rfl,N⟩|true=>(have e2:(ack != 0)=bb:=by rw[aq];simp[az]);clear aq az;go_wp2_with((with_reducible refine(bo _).mono ?_);rintro e w5⟨rfl,N⟩;have eM:=(U.grow N).b0.cell);go_meet;exact⟨rfl,N⟩);·(have e1:((Y:Int) != (ai:Int))=true:=by rw[bne_iff_ne];omega);(have e2:bb=true:=by rw[aq];simp[az]);clear aq az;go_wp2_with fail;go_meet;rw[e2];exact⟨rfl,aH _ _⟩
  case rest=>
   obtain⟨rfl,N⟩:=hcut;have Z:=U.grow N;have bx:Hid (rJ m++m.v=ax):=ah (by rw[cf.out,eh.out,ee.out]);have bA:Hid (rG m.id=nm):=ah (by rw[cm.out,eb.out];unfold rG;rw[<-HF.out]);have cg:Hid (bb=true<->(rJ m++m.v).length≠(rG m.id).length\/(PW m.id=true/\m.ack≠0)):=ah (by rw[aq,bx.out,bA.out,<-bu.out,<-HN.out,<-eg.out,<-d9.out];simp);have c6:Hid (bb=false->Y=ai):=ah (λh=>by rw[aq]at h;simp at h;exact h.1);clear aq bo;cases bb with
   |false=>
    obtain rfl:Y=ai:=c6.out rfl;have ci:Hid (¬((rJ m++m.v).length≠(rG m.id).length\/(PW m.id=true/\m.ack≠0))):=ah (λh=>by have:=cg.out.2 h;cases this);obtain⟨zp,cW⟩:=fD (nm.zip ax);obtain⟨vb,dC⟩:=fD (zp.map (λp=>((p.2,fQ p.1):Int × Int)));have ct:Hid (zp.length=Y):=ah (by rw[cW,List.length_zip,<-bu.out,<-HN.out,Nat.min_self]);have bc:=ah cW;have bw:=ah dC;have bf:=dq.below N;replace Vy:=Vy.below N;replace Q:=Q.below N;replace H7:=H7.below N;have xQ:=aG dm N.size;clear cW dC N ek U dq dm cg c6;go_wp2_with fail;go_loopw [60,6] (λi l wr=> ∃(k z:Nat) (AL:Option Addr) (cL:Nat) (zs:List (Int × Int)),i=.int .i64 k/\k<=Y/\l=.slice AL z cL/\Hid (zs.length=z)/\Hid (z=2+k)/\Hid (zs=(id,8)::(0,10)::vb.take k)/\Hid ((zp.take k).all (λp=>uX p.1 p.2)=true)/\aq1 iU 245 wr B AL cL zs/\Own w wr [(cx,196,#[id,t,ack,sS,.slice Av mv.length cv,.slice Ap np cp]),(cw,240,#[.slice A1 f1.length c1,fx,.slice A3 f3.length c3])]/\kU wr w (f1,fx,f3) A1 c1 A3 c3/\aq1 aq7 3 wr B A7 c7 ax/\aq1 aq7 3 wr B A8 c8 nm/\B<=wr.heap.size) (λi _ _=>Y-(intOf i).toNat);(case atStart=>exact⟨0,2,A6,ex,[(id,8),(0,10)],rfl,aV _,rfl,ah rfl,ah rfl,ah (by simp),ah (by simp),Vy,Z,bf,Q,H7,xQ⟩);case round=>
     clear Vy Z bf Q H7 xQ;obtain⟨k,z,AL,cL,zs,rfl,j,rfl,hz,d4,cX,cD,V,J,hF,Q,H7,aE⟩:=hrel;(have e0:z<=12:=by rw[d4.out];omega);have bh:=hT.below J.below;by_cases a1:k<Y
     ·obtain⟨x,hx⟩:=aq5 HN.out.symm a1;obtain⟨y,hy⟩:=aq5 bu.out.symm a1;obtain⟨g8,eQ,em,eW,du⟩:=H7.rows.get hx;obtain⟨g7,en,eo,Qg,Oe⟩:=Q.rows.get hy;have de:=du 0 x rfl;have dd:=Oe 0 y rfl;simp only[aq7,Nat.mul_one,bI]at dd de;(have d5:zp[k]? =some (x,y):=by rw[bc.out,List.getElem?_zip_eq_some];exact⟨hx,hy⟩);have HY:=ah hy;have cu:=ah d5;subst em;subst eo;obtain⟨b,O⟩:=fD (uX x y);have bR:=λW (h:Tab W)=>JG x y W h;rw[<-O]at bR;have c5:=ah O;clear du Oe hx hy d5 O;cases b with
      |false=>have ad:Hid (R=.error 20):=ah (by rw[HR.out];unfold DY;rw[if_neg bd.out,if_neg ci.out,if_pos];rw[bA.out,bx.out];unfold Gx;rw[<-bc.out,List.all_eq_false];exact⟨_,bP cu.out,by rw[<-c5.out];simp⟩);go_wp2_with((with_reducible refine(bR _ bh).mono ?_);rintro e w5⟨rfl,cU⟩;obtain rfl:=cU.symm);go_ret2;refine⟨J.below,?_⟩;rw[ad.out];rfl
      |true=>
       have cV:=λW (h:Tab W)=>pF x W h;obtain⟨wx,Xd⟩:=fD (fQ x);rw[<-Xd]at cV;have ei:=ah Xd;have ds: ∀w',wr.grownBy w' (AL.map (·.block))->Tab w':=λw' j=>bh.ji (jV.kJ (D:=λk=>AL.map (·.block)=some k) j (λk j=>j)) (λh0=>by have M:=(V.gJ _ h0).1;have h2:=Xj.out.1;omega);(have dn: ∀w',wr.grownBy w' (AL.map (·.block))->w'.cell? ⟨g7,en+k,none⟩=some y:=λw' j=>by obtain⟨b,off,e,_,hc⟩:=(Q.off j (arJ Q V (by decide))).rows.get HY.out;injection e with e;injection e with e1 e2;subst e1;subst e2;have:=hc 0 _ rfl;simpa[aq7] using this);clear Xd;go_wp2_with((with_reducible refine(bR _ bh).mono ?_);rintro e w5⟨rfl,cU⟩;obtain rfl:=cU.symm);apply qp (λw w'=>w.grownBy w' (AL.map (·.block))) (λw=>arj (aq3 gY 1) _) (λ_ _ _=>lN) (CW (AL.map (·.block)) 9) (λ_ _ _ h=>h.2) (λi W=>i=9->aq1 iU 245 W (B) AL cL zs) (λ_ _=>V.below (aq3 gY 1)) (λi aa W W' eB hp ht hi=>(hp hi).below (ht.1 (λh=>eB (hi.trans h.symm))));(case lX=>intro u;simp only[bV,List.dropLast,aq9,aP,ay,aA,aB,aT,aJ];with_reducible rfl);(case hm=>kernel_rfl);(case hB=>kernel_rfl);(case hA=>kernel_rfl);case hap=>kernel_rfl
       repeat(first
          |(apply kE.is
            ·
              (intro u w' j bn d
               clear bn
               simp[fH,aC,Is]at d
               refine fC ?_ ?_
               ·
                 first
                 |rfl
               intro K ar
               have al:=ds _ j;have m0:=dn _ j
               go_wp2_with (((with_reducible refine(cV _ al).mono ?_);rintro e w6⟨rfl,eJ⟩;obtain rfl:=eJ.symm))
               try simp only[d]at ar
               refine ar _ _ ?_ rfl
               exact vT _ _ _ _))
          |(refine kE.word (Gm 245 (AL.map (·.block)) #[y, wx]) ?_ ?_
            ·
              (intro u w' j bn d
               clear bn
               simp[fH,aC,Is]at d
               refine fC ?_ ?_
               ·
                 first
                 |rfl
               intro K ar
               go_wp2_with fail
               try simp only[d]at ar
               exact ar _ _ (uw jm) ⟨w',rfl,fK.new _ _ _,λe=>by have:=(V.gJ _ e).2;have:=j.size;omega⟩))
          |(refine kE.word (PN iU 245 (B) (z + 1) (zs ++ [(y, wx)])) ?_ ?_
            ·
              (intro u w' j bn d
               simp[fH,aC,Is]at d
               obtain⟨q1,⟨bv,q2,hB,hn⟩,_⟩:=d
               refine fC ?_ ?_
               ·
                 first
                 |rfl
               intro K ar
               exact oH Jb (.tmp 72) (.tmp 80) rfl (B) AL cL zs z (by rw[<-q1];rfl) hz.out (bn rfl) bv 1 [(y,wx)] 1 (by rw[<-q2];rfl) rfl (Am hB) (by omega) (by decide) (aG aE j.size) λA2 c2 W M h2 _=>ar _ _ ⟨λh=>absurd rfl h,h2⟩ ⟨A2,c2,rfl,M⟩)))
       refine kE.last ?_ ?_;(·refine Ai ?_;simp only[gQ];(repeat(refine⟨?_,?_⟩;·first|exact λ_ _ _ _ _ h _=>h|exact λ_ _ _ _ _ h ht=>Gm.grow h ht.2|exact λ_ hi _ _ _ h ht=>PN.grow h (ht.1 hi)));exact trivial);intro u w2 ap _ d;simp only[gQ]at d;obtain⟨A2,c2,hu,uq⟩:=d 9 _ rfl;clear d;refine⟨rfl,?_⟩;intro K ar;simp only[hu];clear hu;have aM:=jV.kJ (D:=λk=>AL.map (·.block)=some k) ap (λk j=>j);have am: ∀g,AL.map (·.block)=some g->B<=g:=λg e=>(V.gJ g e).1;have Z:=J.ji aM (λx hx d=>by have M:=am _ d;have h2:=Xj.out;simp only[bJ,dH,or_false]at hx;rcases hx with rfl |rfl <;> simp only at M <;> omega) (λk d=>by have M:=am _ d;have h2:=bq.out;omega);have bf:=ZY.out.ji hF aM (λk d=> .inr (by rw[<-HB.out];exact am _ d));have di:=Q.off ap (arJ Q V (by decide));have dj:=H7.off ap (arJ H7 V (by decide));(have d3:zs++ [(y,wx)]=(id,8)::(0,10)::vb.take (k+1):=by(have eI:vb[k]? =some (y,wx):=by rw[bw.out,bW,cu.out,ei.out];rfl);rw[cX.out,take_snoc' eI];rfl);(have df:(zp.take (k+1)).all (λp=>uX p.1 p.2)=true:=by rw[take_snoc' cu.out,List.all_append,cD.out];simp[<-c5.out]);have el:=ah (And.intro (ah d3) (And.intro (ah df) (And.intro uq (And.intro Z (And.intro bf (And.intro di (And.intro dj (aG aE ap.size))))))));clear d3 df uq Z bf di dj aM am ds dn cV bR dd de bh;go_wp2_with fail;go_roundw;(case rel=>exact⟨k+1,z+1,A2,c2,zs++ [(y,wx)],by go_num,by omega,rfl,ah (by rw[bC,hz.out];rfl),ah (by rw[d4.out];omega),el.out⟩);case measure=>simp[intOf];omega
     ·(obtain rfl:k=Y:=by omega);have Z4:Hid (Gx (rG m.id) (rJ m++m.v)=true):=ah (by rw[bA.out,bx.out];unfold Gx;rw[<-bc.out];have M:=cD.out;rwa [aY (by rw[ct.out];exact aW _)]at M);have cn:Hid (zs=AU m++Fg m):=ah (by rw[cX.out,aY (by rw[bw.out,eU,ct.out];exact aW _)];unfold AU Fg;rw[bA.out,bx.out,<-bc.out,<-bw.out,show fQ 0=8 by decide,show fQ 1=10 by decide,<-zN.out];rfl);obtain⟨xs,cc,d0,d1,d2⟩:=ez;have da:=ah d0;have db:=ah d1;have ej:=ah d2;have dk:=J.b0.cell;clear a1 j d0 d1 d2 Q H7 cD cX bh ct bw bc;go_wp2_with fail;clear dk;go_loopw [86,6] (λi l wl=> ∃(aa z2:Nat) (ag:Option Addr) (a4:Nat) (ac:List (Int × Int)),i=.int .i64 aa/\aa<=np/\l=.slice ag z2 a4/\Hid (ac.length=z2)/\Hid (z2<=12+8184*aa)/\Hid (∃af,jd (m.p.take aa)=.ok af/\ac=zs++af)/\aq1 iU 245 wl B ag a4 ac/\Own w wl [(cx,196,#[id,t,ack,sS,.slice Av mv.length cv,.slice Ap np cp]),(cw,240,#[.slice A1 f1.length c1,fx,.slice A3 f3.length c3])]/\kU wl w (f1,fx,f3) A1 c1 A3 c3/\B<=wl.heap.size) (λi _ _=>np-(intOf i).toNat);(case atStart=>exact⟨0,z,AL,cL,zs,rfl,aV _,rfl,hz,ah (by omega),ah ⟨[],by rw[List.take_zero,jd],by simp⟩,V,J,hF,aE⟩);case round=>clear V J hF aE;obtain⟨aa,z2,ag,a4,ac,rfl,hj,rfl,cd,dl,cM,V,J,hF,aE⟩:=hrel;by_cases a1:aa<np;(·obtain⟨x,hx⟩:=aq5 (db.out.trans RS.out.symm) a1;obtain⟨p,hp⟩:=aq5 RS.out.symm a1;obtain⟨M,h2,h3,h4⟩:=ej.out aa x p hx hp;(have h5:x.id=p.id:=by(have e1:(xs.map (·.id))[aa]? =some x.id:=by rw[bW,hx];rfl);rw[da.out,bW,hp]at e1;injection e1 with e1;exact e1.symm);obtain⟨g,off,am,hg,hc⟩:=(cc.below J.below).get hx;have a0:=hc 0 x.id rfl;have dc:=hc 1 (.slice x.A x.n x.c) rfl;simp only[qJ,bI]at a0 dc;have h6:=ef.out p (bP hp);have an:=λW (hT:Tab W) (hr:fE aq7 W x.A p.v)=>PZ p x.A x.n x.c W hT hr M.symm (by omega) ⟨h2,h3⟩;rw[<-h5]at an;obtain⟨xi,xA,xn,xc⟩:=x;simp only at a0 dc an M h2 h3 h4 h5;subst am;have HP:=ah hp;have dt:=hT.below J.below;have ba:=h4.below J.below;unfold vG at an;have bj:wr (wr.alloc (.cells #[xi,.slice xA xn xc] 198)):=gY.alloc ig _;have al:=dt.below bj;have dz:=ba.below bj;have eV:=(fK.new wr 198 #[xi,.slice xA xn xc]).cell;have eK:=dl.out;clear hc hx hp M h2 h3 h4 h5 h6 dt ba cc;cases hi:mO p with|error er=>rw[hi]at an;simp only at an;have dy:=Gw hi;(have e1:(er != 0)=true:=by simpa using dy);have ad:Hid (R=.error er):=ah (by obtain⟨af,aR,_⟩:=cM.out;(have h9:jd m.p=.error er:=by rw[<-List.take_append_drop aa m.p,Fh,aR,ark HP.out,jd,hi]);rw[HR.out];unfold DY;rw[if_neg bd.out,if_neg ci.out,if_neg (by rw[Z4.out];simp),h9]);clear hi dy;go_wp2_with((with_reducible refine(an _ al dz).mono ?_);rintro e w5⟨N,rfl⟩;have Z:=(J.grow bj).grow N);go_ret2;refine⟨Z.below,?_⟩;rw[ad.out];rfl|ok l=>rw[hi]at an;simp only at an;have Tm:=(Kw hi).2;obtain⟨nl,cP⟩:=fD l.length;rw[<-cP]at an Tm;have P6:=ah cP;have ec:Hid (∃af,jd (m.p.take (aa+1))=.ok af/\ac++l=zs++af):=ah (by obtain⟨af,aR,a7⟩:=cM.out;exact⟨af++l,by rw[take_snoc' HP.out,Fh,aR,Qe,hi],by rw[a7,List.append_assoc]⟩);have e1:((0:Int) != 0)=false:=rfl;clear hi cP;go_wp2_with(first|((with_reducible refine(an _ al dz).mono ?_);rintro e w5⟨N,A5,ew,rfl,uq⟩;have bi:=bj.trans (N.mono bj.size))|(at_builtin;refine gW Jb rfl _ _ rfl B ag a4 ac z2 rfl cd.out (V.below bi) A5 ew l nl rfl P6.out.symm uq.rows (by omega) (by decide) (aG aE bi.size) ?_;intro A9 c9 w6 Vy Gz _));have aM:=jV.kJ (D:=λk=>ag.map (·.block)=some k) Gz (λk j=>j);have am: ∀g,ag.map (·.block)=some g->B<=g:=λg e=>(V.gJ g e).1;have vW:=(J.grow bi).ji aM (λx hx d=>by have M:=am _ d;have h2:=Xj.out;simp only[bJ,dH,or_false]at hx;rcases hx with rfl |rfl <;> simp only at M <;> omega) (λk d=>by have M:=am _ d;have h2:=bq.out;omega);have ey:=ZY.out.ji (hF.below bi) aM (λk d=> .inr (by rw[<-HB.out];exact am _ d));go_roundw;(case rel=>exact⟨aa+1,z2+nl,A9,c9,ac++l,by go_num,by omega,rfl,ah (by rw[bC,cd.out,<-P6.out]),ah (by omega),ec,Vy,vW,ey,aG aE (aG bi.size aM.size)⟩);case measure=>simp[intOf];omega);·(obtain rfl:aa=np:=by omega);(obtain⟨af,aR,a7⟩: ∃af,jd m.p=.ok af/\ac=zs++af:=by have:=cM.out;rwa [aY (by rw[<-RS.out];exact aW _)]at this);(have hv:sV ac:=by rw[a7,cn.out];exact((Dc m bd.out).cat (Fj m Z4.out)).cat (xk aR).1);(have dT:ac[1]? =some (0,fQ 1):=by rw[a7,cn.out];rfl);have eK:=dl.out;have av:=λW (h:aq1 iU 245 W B ag a4 ac)=>ajy ac ag a4 B W h (by rw[cd.out];omega) hv (0,fQ 1) dT (by decide);unfold TT at av;rw[cd.out]at av;have aL:=λW M h2=>acV (f1,fx,f3) A1 c1 A3 c3 Ap aa cp xs W M (by simp only;omega) h2 (by rw[db.out];exact RS.out.symm) (by omega) (by rw[RS.out];exact ea.out);unfold Af at aL;rw[da.out]at aL;simp only at aL;obtain⟨ft,cJ⟩:=fD (Ia (f1,fx,f3) (m.p.map (·.id)));rw[<-cJ]at aL;have a6:Hid (R=if ft=false then .error 50 else C9 ac):=ah (by rw[HR.out,cJ,a7,cn.out];unfold DY;rw[if_neg bd.out,if_neg ci.out,if_neg (by rw[Z4.out];simp),aR,<-HF.out]);have ba:=cc.below J.below;have dk:=J.b0.cell;have eR:=J.b1.cell;clear cJ aR a7 hv dT a1 hj cc;cases ft with|false=>have ad:Hid (R=.error 50):=ah (by rw[a6.out,if_pos rfl]);clear a6;go_wp2_with((with_reducible refine(aL _ hF.may ba).mono ?_);rintro e w5⟨rfl,N⟩);go_ret2;refine⟨(J.grow N).below,?_⟩;rw[ad.out];rfl|true=>cases a9:C9 ac with|error er=>rw[a9]at av;simp only at av;have ad:Hid (R=.error er):=ah (by rw[a6.out,if_neg (by simp),a9]);clear a9 a6;go_wp2_with(first|((with_reducible refine(aL _ hF.may ba).mono ?_);rintro e w5⟨rfl,N⟩)|((with_reducible refine(av _ (V.below N)).mono ?_);rintro e w6⟨Gz,rfl⟩));go_ret2;have Z:=J.grow N;refine⟨Z.below.trans ((jV.kJ (D:=λk=>ag.map (·.block)=some k) Gz (λk j=>j)).below Z.below.size (λk j=>aG bq.out (V.gJ _ j).1)),?_⟩;rw[ad.out];rfl|ok bs=>rw[a9]at av;simp only at av;have ad:Hid (R=.ok bs):=ah (by rw[a6.out,if_neg (by simp),a9]);clear a9 a6;go_wp2_with(first|((with_reducible refine(aL _ hF.may ba).mono ?_);rintro e w5⟨rfl,N⟩)|((with_reducible refine(av _ (V.below N)).mono ?_);rintro e w6⟨Gz,v,rfl,eD⟩));go_ret2;have Z:=J.grow N;refine⟨Z.below.trans ((jV.kJ (D:=λk=>ag.map (·.block)=some k) Gz (λk j=>j)).below Z.below.size (λk j=>aG bq.out (V.gJ _ j).1)),?_⟩;rw[ad.out];exact⟨v,rfl,eD.mono Z.below.size⟩
   |true=>have ad:Hid (R=.error 20):=ah (by rw[HR.out];unfold DY;rw[if_neg bd.out,if_pos (cg.out.1 rfl)]);go_wp2_with fail;go_ret2;refine⟨Z.below,?_⟩;rw[ad.out];rfl
def Ub (last now:Int):Int:=if jK now=false then 1 else if now*8+7<=last then 3 else 0
def Z5 (last now:Int):Int:=if Ub last now=0 then max (now*8) (last+1) else 0
theorem Og(h:jK now=false):Ub last now=1:=by unfold Ub;rw[if_pos h]
theorem Uc(h:jK now=true)(d:now*8+7<=last):Ub last now=3:=by unfold Ub;rw[if_neg (by grind),if_pos d]
theorem ajE(h:jK now=true)(d: ¬now*8+7<=last):Ub last now=0/\Z5 last now=max (now*8) (last+1):=by
 have e:Ub last now=0:=by unfold Ub;rw[if_neg (by grind),if_neg d]
 exact⟨e,by unfold Z5;rw[if_pos e]⟩
theorem adk(h:Ub last now≠0):Z5 last now=0:=by unfold Z5;rw[if_neg h]
theorem agm(last now:Int)(J: -9223372036854775808<=last)(w:World):Calls aj 111 #[last,now] w λe w'=>e=.returned (.tuple #[(Z5 last now:Int),(Ub last now:Int)])/\w'=w:=by
 by_cases j:now<0;rotate_left;focus(by_cases H:268435456<now;rotate_left;focus((have hc:jK now=true:=by unfold jK;simp;omega);by_cases d:now*8+7<=last;(·rw[adk (by rw[Uc hc d];decide),Uc hc d];(have f3:decide (now*8+8-1<=last)=true:=by grind);go_enter func111,ntmps111;go_wp2;go_ret2;simp);·obtain⟨e1,e2⟩:=ajE hc d;rw[e2,e1];(have f3:decide (now*8+8-1<=last)=false:=by grind);(have K:wrap64 (last+1)=last+1:=by simp only[wrap64];omega);go_enter func111,ntmps111;go_wp2;go_ret2;simp))
 all_goals((have hc:jK now=false:=by unfold jK;simp;omega);rw[adk (by rw[Og hc];decide),Og hc];go_enter func111,ntmps111;go_wp2;go_ret2;simp)
def MH (x:Tr):List Int:=if 32766<x.past then [] else [0,x.ref,x.past,(if x.rev then 0 else 1),(if x.rev then 0 else 1),0,0,1,x.len,0,1,0,3]
def rpE (x:Tr):Int:=if 32766<x.past then 7 else 0
theorem adl(l:List Int):aq7.flat l=l.map λn=>Value.int .i64 n:=by induction l with|nil=>rfl|cons x l d=>rw[aq7.nX,d];rfl
theorem DZ{w:World}{g:Nat}(l:List Int)(h:fK w g 3 (l.map λn=>Value.int .i64 n).toArray):fE aq7 w g l:=λ_=>⟨g,0,rfl,h.lt,λj u d=>by rw[aJ,h.cell];rw[adl]at d;simpa using d⟩
theorem Z7(x:Tr)(j:kZ)(w:World):Calls aj 112 #[jf x j] w λe w'=>(∃A,e=.returned (.tuple #[.agg #[zI,.slice A (MH x).length (MH x).length],(rpE x:Int)])/\fE aq7 w' A (MH x)/\ ∀a,A=some a->w.heap.size<=a.block)/\w w':=by
 have Q:Own w _ [_,_]:=Own.iY w 44 198 (jf x j) gH;have aa:=Q.b0.cell;have t1:=tr1 x j;have ac:=afN x j;have ad:=afO x j;have Z:=alQ x j;by_cases J:32766<x.past
 ·have f1:decide (32766<x.past)=true:=by grind
  have M:MH x= []:=by unfold MH;rw[if_pos J]
  have K:rpE x=7:=by unfold rpE;rw[if_pos J]
  rw[M,K];have d:=Q;go_enter func112,ntmps112;go_wp2_with(first|fail|((with_reducible refine kY gH d rfl _ _ rfl rfl rfl (by kernel_rfl) rfl ?_ ?_);(·first|(simp[aK];done));intro U H V Y;replace d:=H;clear H));exact bodyPost_ret (gU results112 _ _ _ _ _ _ rfl rfl d.b1 underlying198 rfl (by rfl)) rfl ⟨⟨none,rfl,fE.nil _ _,λa e=>by cases e⟩,d.below⟩
 focus((have f1:decide (32766<x.past)=false:=by grind);(have K:rpE x=0:=by unfold rpE;rw[if_neg J]);rw[K];obtain⟨O,N⟩:=fD x.rev;(have M:MH x= [0,x.ref,x.past,(if O then 0 else 1),(if O then 0 else 1),0,0,1,x.len,0,1,0,3]:=by unfold MH;rw[if_neg J,N]);rw[M];rw[<-N]at Z;clear M K J N;rcases O with _ |_;(focus(simp only[bU,if_false];have d:Own w _ [_,_,_]:=Own.start3 w 44 198 3 (jf x j) gH (([0,x.ref,x.past,1,1,0,0,1,x.len,0,1,0,3]:List Int).map λn=>Value.int .i64 n).toArray));rotate_left;focus(simp only[if_true];have d:Own w _ [_,_,_]:=Own.start3 w 44 198 3 (jf x j) gH (([0,x.ref,x.past,0,0,0,0,1,x.len,0,1,0,3]:List Int).map λn=>Value.int .i64 n).toArray))
 all_goals(simp only[bV]at d;go_enter func112,ntmps112;go_wp2_with(first|fail|((with_reducible refine kY (#[zI,.slice (some ⟨w.heap.size+1+1,0,none⟩) 13 13]) d rfl _ _ rfl rfl rfl (by kernel_rfl) rfl ?_ ?_);(·first|(simp[aK];done));intro U H V Y;replace d:=H;clear H));exact bodyPost_ret (gU results112 _ _ _ _ _ _ rfl rfl d.b1 underlying198 rfl (by rfl)) rfl ⟨⟨some ⟨w.heap.size+1+1,0,none⟩,rfl,DZ _ d.b2,λa e=>by injection e with e;subst e;grind⟩,d.below⟩)
theorem Z8{l:List (Int × Int)}(h:C9 l=.ok bs)(d:sV l){x:Int × Int}(M:l[1]? =some x)(H:x.2=10):bs.length<=1023:=by
 unfold C9 at h;split at h;·cases h
 ·rename_i hn;have O:=Qc d;obtain⟨k,K⟩: ∃k:Nat,(arf l+7) / 8=(k:Int):=⟨((arf l+7) / 8).toNat,by omega⟩;rw[K]at h hn;have j:=sV.set d M H (n:=k) (by omega);have J:=Xh j ([],0);have N:=ade (vS l 1 k) ([],0) rfl;rw[JW]at J;grind
theorem adn{m:Ms}(h:DY m=.ok bs):bs.length<=1023:=by
 unfold DY at h;split at h;·cases h
 rename_i d;split at h;·cases h
 split at h;·cases h
 rename_i j;cases hi:jd m.p with
 |error e=>grind
 |ok H=>
  rw[hi]at h;simp only at h;split at h;·cases h
  ·refine Z8 h (((Dc m d).cat (Fj m (by grind))).cat (xk hi).1) (x:=(0,fQ 1)) ?_ (by decide);rfl
def Fp (s:Int):Int:=if s=0 then 1 else if s=1 then 10 else if s=2 then 100 else 0
def Ud (n s:Int):Int:=if Fp s=0 then 1 else if n<0\/32766<n then 7 else 0
def II (n s:Int):Int:=if Ud n s=0 then n*Fp s else 0
theorem YL(s:Int):0<=Fp s/\Fp s<=100:=by
 unfold Fp;repeat' split
 all_goals omega
theorem ajF(s:Int)(w:World):Calls aj 276 #[s] w λe w'=>e=.returned (Fp s:Int)/\w'=w:=by
 unfold Fp;by_cases d:s=0;·subst d;go_enter func276,ntmps276;go_wp2;go_ret;exact⟨rfl,rfl⟩
 by_cases j:s=1;·subst j;go_enter func276,ntmps276;go_wp2;go_ret;exact⟨rfl,rfl⟩
 by_cases H:s=2;·subst H;go_enter func276,ntmps276;go_wp2;go_ret;exact⟨rfl,rfl⟩
 rw[if_neg d,if_neg j,if_neg H];have J:(s==0)=false:=by simpa using d
 have e1:(s==1)=false:=by simpa using j
 have e2:(s==2)=false:=by simpa using H
 go_enter func276,ntmps276;go_wp2;go_ret;exact⟨rfl,rfl⟩
theorem ajG(n s:Int)(w:World):Calls aj 261 #[n,s] w λe w'=>e=.returned (.tuple #[(II n s:Int),(Ud n s:Int)])/\w'=w:=by
 unfold II Ud;have N:=ajF s w;obtain⟨J,O⟩:=YL s;generalize Fp s=u at*;by_cases d:u=0;focus(subst d;rw[if_pos rfl,if_neg (by decide)])
 rotate_left;focus(rw[if_neg d];(have Q:(u==0)=false:=by simpa using d);by_cases j:n<0;(focus(rw[if_pos (show n<0\/32766<n from .inl j),if_neg (by decide)];have K:decide (n<0)=true:=by simpa using j));rotate_left;focus((have K:decide (n<0)=false:=by simpa using j);by_cases H:32766<n;(focus(rw[if_pos (show n<0\/32766<n from .inr H),if_neg (by decide)];have M:decide (32766<n)=true:=by simpa using H));rotate_left;focus((have M:decide (32766<n)=false:=by simpa using H);rw[if_neg (show ¬(n<0\/32766<n) by omega),if_pos rfl];have hm:0<=n*u:=Int.mul_nonneg (by omega) J;have V:n*u<=32766*100:=Int.mul_le_mul (by omega) O J (by omega))))
 all_goals(go_enter func261,ntmps261;go_wp2_with(first|((with_reducible refine N.mono ?_);rintro e U⟨rfl,rfl⟩));go_ret2;exact⟨rfl,rfl⟩)
end Go.Proofs.YthnmgjngniciaaaGreatDoor
