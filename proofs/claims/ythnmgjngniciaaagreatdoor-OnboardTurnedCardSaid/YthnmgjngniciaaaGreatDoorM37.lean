/- Parts. -/
import Derived.Test.YthnmgjngniciaaaGreatDoorM36
import Derived.Test.YthnmgjngniciaaaGreatDoorM31
import Derived.Test.YthnmgjngniciaaaGreatDoorM25
set_option linter.all false
set_option maxHeartbeats 16000000
set_option maxRecDepth 8000
open List renaming length_append→bC,map→bV,setIfInBounds_toArray→ay,set_cons_succ→aB,set_cons_zero→aA
open Nat renaming le_trans→aG,lt_of_lt_of_eq→fA,lt_of_lt_of_le→aU,reduceAdd→aT,zero_add→aJ,zero_le→aV
namespace Go.Proofs.YthnmgjngniciaaaGreatDoor
open Go.RowKit Go.Shelf Tryz
open Act renaming put→aP
open Below renaming refl→aH
open Go.Lib renaming hid→ah
open Region renaming binds→aC,wanted→aF
open Tryz renaming prog→aj,underlying136→bF,underlying34→bD
open Value renaming oneCell'→aK
variable{ops:Array Oper}{c:Cp}{s s5:Cs}{er now:Int}{bs:List UInt8}{m:Ms}{B Bq g j:Nat}{q:P7}{t:Tp}{tm:jl}{W w w0:World}
theorem aeZ{Bm:Nat}{a:Vx}(h:IX w0 W Bq g t tm now s m a Bm)(d:m.v.length=(nG m.id).1.length)(O:kD (-1) s.x.stops=true)(N:s.x.stops.length<=60):Calls aj 121 #[.pointer g,oC m a] W (nT w0 Bq g tm now s W (kT t now s.plain m)):=by
 obtain⟨f1,K,f3,M⟩:=ahr;by_cases q1:m.id=32;·exact aeT h q1 (by rw[d,q1,f1];decide)
 by_cases q2:m.id=3;·exact ahg h q2
 by_cases q3:m.id=9;·exact ahi h q3
 by_cases q4:m.id=15;·exact aeW h q4 (by rw[d,q4];exact M)
 by_cases q5:m.id=16;·exact aeX h q5 (by rw[d,q5,K];decide) O N
 by_cases H:m.id=18;·exact aeU h H (by rw[d,H,f3];decide)
 by_cases J:m.id=39;·exact aeR h J
 exact ahh h ⟨q1,q2,q3,q4,q5,H,J⟩
def Vd (B i:Nat) (w w':World):Prop:=Below B w w'/\w w'
theorem oZ(B i:Nat)(w:World):Vd B i w w:=⟨aH _ _,aH _ _⟩
theorem Ve{i:Nat}{w':World}(hB:B<=w.heap.size)(h:w w'):Vd B i w w':=⟨h.mono hB,h⟩
def akX (bs:List UInt8) (er:Int):Value->World->Prop:=fun v w=> ∃A c,v=.tuple #[.slice A bs.length c,.int .i64 er]/\aq2 w A c bs
def akY (bs:List UInt8):Value->World->Prop:=fun v w=> ∃A c,v=.slice A bs.length c/\aq2 w A c bs
theorem Vf:mF ops (Vd B) j (gI j (akX bs er)):=λ_ d _ _ _ _ _ h H=>jy d h λ_ ⟨A,c,e,h⟩=>⟨A,c,e,h.below H.2⟩
theorem Vg:mF ops (Vd B) j (gI j (akY bs)):=λ_ d _ _ _ _ _ h H=>jy d h λ_ ⟨A,c,e,h⟩=>⟨A,c,e,h.below H.2⟩
theorem aa1(h:jw c.peer q 5≠0):Bv t now c q=(c,jw c.peer q 5):=if_pos h
theorem ae0(h:jw c.peer q 5=0)(d:arN q.body=.error er):Bv t now c q=(c,er):=by unfold Bv;rw[if_neg (λq=>q h),d]
theorem ahs(h:jw c.peer q 5=0)(d:arN q.body=.ok m):Bv t now c q=if PW m.id=true then(c,1) else if Dl c.x.sl c.x.sa c.x.sb c.x.free m.t (now*8)=110/\m.ack=1/\m.t=c.x.sl then(UM now c m,0) else if Dl c.x.sl c.x.sa c.x.sb c.x.free m.t (now*8)≠0 then(c,Dl c.x.sl c.x.sa c.x.sb c.x.free m.t (now*8)) else(if m.ack=1 then UM now (kT t now (c.nV m.t c.x.sa c.x.sb false) m) m else kT t now (c.nV m.t c.x.sa c.x.sb false) m,0):=by unfold Bv;rw[if_neg (λq=>q h),d]
theorem Io:(FQ t now c m).x.last=c.x.last/\(FQ t now c m).out=c.out:=by
 unfold FQ;split;·exact⟨rfl,rfl⟩
 split;·exact⟨rfl,rfl⟩
 split;·exact⟨rfl,rfl⟩
 split;·exact⟨rfl,rfl⟩
 split;·exact⟨rfl,rfl⟩
 ·exact⟨rfl,rfl⟩
theorem OL(h: -1<=c.x.last): -1<=(kT t now c m).x.last/\(kT t now c m).out.length<=c.out.length+2:=by
 unfold kT;split
 ·split;·exact⟨vI (vI h),aG yA (Nat.succ_le_succ yA)⟩
  ·exact⟨h,by omega⟩
 split;·rw[Io.1,Io.2];exact⟨h,by omega⟩
 split;·refine⟨vI (by rw[zy.1];exact h),aG yA ?_⟩;rw[zy.2];omega
 split;·refine⟨vI (by rw[Ed.1];exact h),aG yA ?_⟩;rw[Ed.2];omega
 split;·exact⟨vI (by exact h),aG yA (by exact Nat.le_succ _)⟩
 split;·exact⟨h,by exact Nat.le_add_right _ _⟩
 split
 ·unfold QJ;split;·exact⟨h,by exact Nat.le_add_right _ _⟩
  ·refine⟨?_,aG (Ho _ _) (by exact Nat.le_succ _)⟩;show -1<=(nM _ _).x.last;rw[Ec];exact h
 ·exact⟨h,by omega⟩
theorem aht(H:s5.plain=kT t now c m)(d: -1<=c.x.last)(J:c.out.length<=60):s5.out.length<=90:=by
 have e:s5.plain.out.length<=c.out.length+2:=by rw[H];exact(OL d).2
 have e2:s5.plain.out=s5.out:=rfl;rw[e2]at e;omega
theorem ahu(H:s5.plain=kT t now c m)(d: -1<=c.x.last): -1<=s5.x.last:=by
 have e: -1<=s5.plain.x.last:=by rw[H];exact(OL d).1
 exact e
theorem ae1(m:Ms)(a:Vx):(oC m a).all (·.oneCell')=true:=by simp[oC,aK]
theorem akZ(U0:jE w0 t tm)(hT:Tab w0)(h:iJ w0 Bq g tm now s W)(q:P7)(A:Option Addr)(n c:Nat)(hn:q.body.length=n)(hB:aq2 W A c q.body)(cC:q.body.length<=2000)(hz:0<W.heap.size)(cd:s.out.length<=50)(cc: -1<=s.x.last)(zZ:kD (-1) s.x.stops=true)(cH:s.x.stops.length<=60)(cU:0<=now)(cV:now<=268435456):Calls aj 63 #[.pointer (some ⟨g,0,none⟩),.agg (jT q A n c)] W (iK w0 Bq g tm now s W (Bv t now s.plain q)):=by
 obtain⟨R,hR⟩:=fD (Bv t now s.plain q);rw[<-hR];have HR:=ah hR;have Z:=ah h;have hO:Own W _ [_]:=Own.jD W 136 (jT q A n c);obtain⟨W1,bu⟩:=fD (W.alloc (.cells (jT q A n c) 136));have bw:W W1:=by rw[bu];exact hO.below
 rw[<-bu]at hO;have H1:=ah (h.grow bw);have cy:=hB.below bw;obtain⟨te,ci⟩:=fD (jw s.plain.peer q 5);obtain⟨bs,bX⟩:=fD (ar5 s.plain.peer q);have cI: ∀X,W1 X->Calls aj 117 #[.agg (gB s.plain.peer),.agg (jT q A n c)] X λe w'=> ∃v,e=.returned (.tuple #[v,.int .i64 te])/\jG bs v w'/\X w':=λX hX=>by rw[ci,bX];exact ad6 s.plain.peer q A n c X hn (cy.below hX) cC
 have bi:=ah ci;have cN:=ah bX;clear hR ci bX hn hB cy;go_enter func63,ntmps63;go_upto_region 1 with fail;rw[<-bu];clear bu;apply gu (Below W1) (λW=>aq3 gY 1) (λ_ _ _ K O=>K.trans O) (Vd W1) (λ_ _ _ h=>h.1) (λ_ _=>oZ _ _ _) (λ_ _=>True) (λ_=>trivial) (λ_ _ _ _ _ _ _=>trivial);case lX=>intro u;simp only[bV,aq9,aP,ay,aA,aB,aT,aJ];with_reducible rfl
 case hm=>kernel_rfl
 case hB=>kernel_rfl
 case hA=>kernel_rfl
 case hap=>kernel_rfl
 iterate 4(apply fM.is;·(intro u w' H Y d;simp[fO,aC,gI,Is]at d;refine fC ?_ ?_;(·first|rfl);intro M J;skip;go_wp2_with(fail);(try simp only[d]at J);exact J _ _ (oZ _ _ _) rfl))
 refine fM.is (c:=.agg (gB s.plain.peer)) ?_ ?_;·(intro u w' H Y d;simp[fO,aC,gI,Is]at d;refine fC (by first |rfl) ?_;intro M J;exact wC ((H1.out.grow H).own) 15 _ (pG _ _ _) _ _ rfl (by rw[<-d];rfl) _ bD rfl (iD _) (J _ _ (oZ _ _ _) rfl))
 refine fM.is (c:=.agg (jT q A n c)) ?_ ?_;·(intro u w' H Y d;refine fC (by first |rfl) ?_;intro M J;exact wp_load_row 136 _ rfl W rfl 136 _ (0,0) _ (hO.b0.below H hO.b0.lt) bF rfl (kS _ _ _ _) (J _ _ (oZ _ _ _) rfl))
 refine fM.one (akX bs te) ?_ ?_;·(intro u w' H Y d;simp only[gQ]at d;have q4:=d ⟨4,.data⟩ (by simp) rfl _ rfl;have q5:=d ⟨5,.data⟩ (by simp) rfl _ rfl;simp only[gI,Is]at q4 q5;clear d;refine fC (by first |rfl) ?_;intro M J;go_wp2_with((with_reducible refine(cI _ H).mono ?_);rintro e w3⟨v3,rfl,⟨A3,c3,rfl,ac⟩,Q⟩);(try simp only[q4,q5]at J);exact J _ _ (Ve H.size Q) ⟨A3,c3,rfl,ac⟩)
 refine fM.one (akX bs te) ?_ ?_;·(intro u w' H Y d;simp only[gQ]at d;obtain⟨A3,c3,q6,ac⟩:=d ⟨6,.data⟩ (by simp) rfl _ rfl;clear d;refine fC (by first |rfl) ?_;intro M J;go_wp2_with fail;(try simp only[q6]at J);exact J _ _ (oZ _ _ _) ⟨A3,c3,rfl,ac⟩)
 refine fM.one (akY bs) ?_ ?_;·(intro u w' H Y d;simp only[gQ]at d;obtain⟨A3,c3,q7,ac⟩:=d ⟨7,.data⟩ (by simp) rfl _ rfl;clear d;refine fC (by first |rfl |simp[aF,yielded]) ?_;intro M J;go_wp2_with fail;(try simp only[q7]at J);exact J _ _ (oZ _ _ _) ⟨A3,c3,rfl,ac⟩)
 refine fM.is (c:=.int .i64 te) ?_ ?_;·(intro u w' H Y d;simp only[gQ]at d;obtain⟨A3,c3,q7,ac⟩:=d ⟨7,.data⟩ (by simp) rfl _ rfl;clear d;refine fC (by first |rfl |simp[aF,yielded]) ?_;intro M J;go_wp2_with fail;(try simp only[q7]at J);exact J _ _ (oZ _ _ _) rfl)
 refine fM.one (akY bs) ?_ ?_;·(intro u w' H Y d;simp only[gQ]at d;obtain⟨A3,c3,q8,ac⟩:=d ⟨8,.data⟩ (by simp) rfl _ rfl;clear d;refine fC (by first |rfl |simp[aF,yielded]) ?_;intro M J;go_wp2_with fail;(try simp only[q8]at J);exact J _ _ (oZ _ _ _) ⟨A3,c3,rfl,ac⟩)
 refine fM.last (qm ?_) ?_
 ·simp only[gQ];repeat(refine⟨?_,?_⟩;·first|exact mQ _|exact Vf|exact Vg)
  exact trivial
 intro u w1 H _ d;simp only[gQ]at d;obtain⟨A3,c3,cM,ac⟩:=d 10 _ rfl;have q9:=d 9 _ rfl;simp only[gI,Is]at q9;clear d;refine⟨by first |rfl |simp[aF,yielded],?_⟩;intro M J;simp only[q9,cM];clear q9 cM cI;have ae:W w1:=bw.trans (H.mono bw.size);by_cases h0:te=0;focus(
  have e0:(te != 0)=false:=by simpa using h0
  have cR:bs=q.body:=by rw[cN.out];unfold ar5;exact if_pos (by rw[<-bi.out];exact h0)
  have cu:Hid (jw s.plain.peer q 5=0):=ah (by rw[<-bi.out];exact h0);subst cR;have af:=amO q.body A3 c3 w1 ((hT.below h.below).below ae) (aU hz ae.size) ac cC;obtain⟨nb,cF⟩:=fD q.body.length;rw[<-cF]at af ⊢;clear h0 cF hz;go_upto_region 4 with fail;rcases d:arN q.body with er |m;·rw[d]at af;have ai:Hid (R=(s.plain,er)):=ah (by rw[HR.out];exact ae0 cu.out d);(have cS:(er != 0)=true:=by simpa using ahp d);unfold ajx at af;simp only at af;clear d;go_wp2_with((with_reducible refine af.mono ?_);rintro e w2⟨au,rfl⟩);go_ret;rw[ai.out];exact iK.same Z.out (ae.trans ((au.alloc au.size _).mono ae.size)) rfl
  focus(
   rw[d]at af;have ai:Hid (R=_):=ah (HR.out.trans (ahs cu.out d));have cD:=ahq d;unfold ajx at af;simp only at af;clear d;have bL:=λW=>Tn m.id W;obtain⟨up,MG⟩:=fD (PW m.id);rw[<-MG]at bL ai;have bf:=ah cD;clear MG cD;(go_upto_region 5 with(first|((with_reducible refine af.mono ?_);rintro e w2⟨au,a,rfl,cE⟩;have QL:=Own.jD w2 196 gk;have cm:=ah cE)|(with_reducible refine oG (oC m a) QL rfl _ _ rfl rfl rfl (by kernel_rfl) (by kernel_rfl) (ae1 m a) ?_;intro wR kN rW av;replace QL:=kN;clear kN rW av)));have a7:W wR:=ae.trans ((au.trans (QL.below.mono au.size)).mono ae.size);have bO:=cm.out.below QL.below;have bN:arz wR g s w2 196 (oC m a):=Z.out.beside QL.b0 (aG ae.size au.size);have a1:Hid (∀k,zO g s k->k<w1.heap.size):=ah (λk H=>(Z.out.grow ae).akt k H);obtain⟨cx,cA⟩:=fD w2.heap.size;obtain⟨bl,cz⟩:=fD w1.heap.size;rw[<-cA]at bN ⊢;rw[<-cz]at bO a1;have cP:(oC m a)[0]? =some (.int .i64 m.id):=rfl;have ag:(oC m a)[1]? =some (.int .i64 m.t):=rfl;have ap:(oC m a)[2]? =some (.int .i64 m.ack):=rfl;have cT:=(bN.blk.cell 0).trans cP;clear af QL cA cz H au cm cE;rcases up with _ |_;focus(
    have Dp:=ah (ai.out.trans (if_neg (by decide)));clear ai;(go_upto_region 9 with((with_reducible refine(bL _).mono ?_);rintro e w3⟨rfl,Q⟩));have Vw:W w3:=a7.trans (Q.mono a7.size);have aE:=bN.below Q;have bR:=bO.below Q;have bh:=ah (Z.out.grow Vw);have aM:(s.cells tm now)[32]? =some (.int .i64 s.x.sl):=rfl;have bm:(s.cells tm now)[33]? =some (.int .i64 s.x.sa):=rfl;have bn:(s.cells tm now)[34]? =some (.int .i64 s.x.sb):=rfl;have bo:(s.cells tm now)[35]? =some (.bool s.x.free):=rfl;have bq:(s.cells tm now)[52]? =some (.int .i64 now):=rfl;have ax:=λX=>agE s.x.sl s.x.sa s.x.sb s.x.free m.t (now*8) X;obtain⟨U,bB⟩:=fD (Dl s.x.sl s.x.sa s.x.sb s.x.free m.t (now*8));(have cJ:ase s.x.sl s.x.sa s.x.sb s.x.free m.t (now*8)=if U=0 then #[.int .i64 m.t,.int .i64 s.x.sa,.int .i64 s.x.sb,.bool false] else gv:=by rw[bB];rfl);rw[<-bB,cJ]at ax;have ad:Hid (R=if U=110/\m.ack=1/\m.t=s.x.sl then(UM now s.plain m,0) else if U≠0 then(s.plain,U) else(if m.ack=1 then UM now (kT t now (s.plain.nV m.t s.x.sa s.x.sb false) m) m else kT t now (s.plain.nV m.t s.x.sa s.x.sb false) m,0)):=ah (by rw[Dp.out,bB];rfl);clear Dp bB cJ bL bN bO;by_cases bd:U=0
    ·subst bd;simp only[if_true]at ax;replace ad:=ah (ad.out.trans ((if_neg (by rintro⟨h,_⟩;exact absurd h (by decide))).trans (if_neg (λh=>h rfl))));apply gu (Below w3) (λW=>aq3 gY 1) (λ_ _ _ K O=>K.trans O) (vN w3 17) (λ_ _ _ h=>h.1) (λ_ _=>iR _ _ _ _) (λ_ _=>True) (λ_=>trivial) (λ_ _ _ _ _ _ _=>trivial);(case lX=>intro u;simp only[bV,aq9,aP,ay,aA,aB,aT,aJ];rfl);(case hm=>kernel_rfl);(case hB=>kernel_rfl);(case hA=>kernel_rfl);case hap=>kernel_rfl
     repeat(first
        |(apply fM.is
          ·
            (intro u w' H Y d
             simp[fO,aC,gI,Is]at d
             refine fC ?_ ?_
             ·
               first
               |rfl
               |(simp[aF,yielded,d];done)
             intro M J
             have V:=(bh.out.grow H).blk.cell;have y2:=(V 32).trans aM;have y3:=(V 33).trans bm;have y4:=(V 34).trans bn;have y5:=(V 35).trans bo;have y6:=(V 52).trans bq;clear V;have y7:=((aE.below H).blk.cell 1).trans ag
             go_wp2_with (((with_reducible refine(ax _).mono ?_);rintro e w4⟨rfl,Q⟩))
             try simp only[d]at J
             refine J _ _ ?_ rfl
             first |exact iR _ _ _ _ |exact kM H.size Q (by decide)))
        |(refine fM.one (pV w3 36 (#[.int .i64 0, .int .i64 0, .int .i64 0, .bool false] : Array Value).size) ?_ ?_
          ·
            (intro u w' H Y d
             clear d
             refine fC ?_ ?_
             ·
               first
               |rfl
               |(simp[aF,yielded];done)
             intro M J
             go_wp2_with fail
             exact J _ _ (kM H.size jm (by decide)) ⟨w',_,rfl,H.size,fK.new w' 36 (gv:Array Value),rfl⟩))
        |(refine fM.word (CU w3 16 36 (#[.int .i64 m.t, .int .i64 s.x.sa, .int .i64 s.x.sb, .bool false])) ?_ ?_
          ·
            (intro u w' H Y d
             simp[fO,aC,gI,Is]at d
             obtain⟨⟨g,cs,aw,hg,am,a9⟩,hx⟩:=d
             refine jF ?_ ?_
             ·
               first
               |rfl
               |(simp[aF,yielded];done)
             intro M J
             have jL: ∀k,k≠g->(w'.setRow g (#[.int .i64 m.t,.int .i64 s.x.sa,.int .i64 s.x.sb,.bool false])).heap[k]? =w'.heap[k]? :=λk H=>setRow_other w' g k _ H
             exact wp_store_row 36 _ _ rfl g (#[.int .i64 m.t, .int .i64 s.x.sa, .int .i64 s.x.sb, .bool false]) (by first | exact aw | (rw [← aw]; rfl)) (by first | exact hx | exact hx.1 | (rw [← hx.1]; rfl) | (rw [← hx]; rfl)) 36 cs am (by kernel_rfl) a9 (by simp [aK]) (J undef _
               ⟨jk gY hg _,λh=>absurd rfl h,λ_=> .inr ⟨g,_,cs,(#[.int .i64 m.t,.int .i64 s.x.sa,.int .i64 s.x.sb,.bool false]),am,am.row _,a9.symm,by simp,jL⟩⟩
               ⟨g,by rw[jH u undef (by decide)];exact aw,hg,am.row _⟩))))
     refine fM.last (qh ?_) ?_;(·simp only[gQ];(repeat(refine⟨?_,?_⟩;·first|exact mM _|exact qH|exact pz (λi hf e=>hf _ rfl ⟨16,.data⟩ (by simp) rfl e.symm)));exact trivial);intro u w2 an _ d;simp only[gQ]at d;refine⟨rfl,?_⟩;intro M J;obtain⟨g8,e8,bx,Xp⟩:=d 17 _ rfl;have az:=d 15 _ rfl;simp only[gI,Is]at az;clear d;simp only[az,e8];clear az e8 ax bm bn bo bq;have Ug:W w2:=Vw.trans (an.mono Vw.size);have Lu:=aE.below an;have cw:=bR.below an;have aD:=ah (Z.out.grow Ug);have cK:=Z.out.beside Xp (aG Vw.size bx);clear Xp bx aE bR bh an Vw;go_upto_region 10 with fail;refine ara (by kernel_rfl) ?_;(repeat(first|(fail)|(apply gX.want rfl;(·intro w' H M Q' J;have aa:=(Lu.blk.below H Lu.blk.lt).cell;have MX:=(aa 1).trans ag;have UL:=(aa 2).trans ap;clear aa;have cB:=((aD.out.grow H).blk.cell 32).trans aM;go_wp2_with(fail);first|exact aH _ _|exact Q);(·simp only[aP,ay,aA,aB];rfl))|(apply gX.skip rfl;·simp only[aP,ay,aA,aB];rfl)));refine gX.nil ?_;intro w7 H;have Eo:W w7:=Ug.trans (H.mono Ug.size);have hs:=Z.out.grow Eo;have hC:=hs.own;have bc:=Lu.below H;have aL:=bc.blk;have a4:=(cK.below H).blk;obtain⟨ST,aR⟩:=fD (#[.int .i64 m.t,.int .i64 s.x.sa,.int .i64 s.x.sb,.bool false]:Array Value);(have hi:(aj.info? 36).map (·.size)=some ST.size:=by rw[aR];kernel_rfl);have HC:Hid (32+ST.size<=(s.cells tm now).size):=ah (by rw[aR];exact XD _ _ _ _ _ _ _);have cn:Hid (ST.all (·.oneCell')=true):=ah (by rw[aR];simp[aK]);have ct:Hid (arh (s.cells tm now) 32 ST.toList=(s.nV m.t s.x.sa s.x.sb false).cells tm now):=ah (by rw[aR];exact ad7 _ _ _ _ _ _ _);rw[<-aR]at a4;clear aR;have bj:=cw.below H;have N:Hid (jE w0 t tm/\Tab w0/\s.out.length<=60/\ -1<=s.x.last/\kD (-1) s.x.stops=true/\s.x.stops.length<=60):=ah ⟨U0,hT,aG cd (by decide),cc,zZ,cH⟩;have bk:iw g s s W w7:=iw.of_below Eo;clear Lu cw aD cK Eo Ug a7 ae H U0 hT cd cc zZ cH;obtain⟨ak,ar⟩:=fD m.ack;rw[<-ar]at ap ad;clear ar;by_cases K:ak=1;(·(have e1:(ak==1)=true:=by simpa using K);have al:=ah (ad.out.trans (by rw[if_pos K]));clear K ad;go_wp2_with(first|(with_reducible refine gy rfl 36 _ rfl g8 rfl 36 _ _ a4 underlying36 rfl (hi) ?_)|(with_reducible refine gy rfl 196 _ rfl cx rfl 196 _ _ aL underlying196 rfl (by kernel_rfl) ?_)|(refine ni 32 ST hC rfl _ _ _ rfl rfl rfl hi HC.out cn.out ?_;intro wR kN rW av;rw[ct.out]at kN;obtain⟨cg,QU⟩:=hs.Ea kN rW av ⟨rfl,rfl,rfl,rfl,rfl,rfl,rfl,rfl,rfl⟩;have bb:=bc.turn QU;have a5:=bj.ji QU.gr (λk H=> .inl (a1.out k H));have vH:=bk.trans QU;have ca:=aeZ (now:=now) (s:=s.nV m.t s.x.sa s.x.sb false) ⟨N.out.1,N.out.2.1,cg,a5,bf.out.2,a1.out,N.out.2.2.1,N.out.2.2.2.1⟩ bf.out.1 N.out.2.2.2.2.1 N.out.2.2.2.2.2;clear kN rW av hC hs bc aL bk bj a5 a4 QU;have bS:=bb.blk;replace aL:=bS)|((with_reducible refine ca.mono ?_);rintro e fU⟨rfl,s5,cf,ba,a8⟩;have fJ:=(bb.turn ba).blk.cell;have MX:=(fJ 1).trans ag;have UL:=(fJ 2).trans ap;clear fJ;have ch:=Ls N.out.2.1 cf 146 m.t (aht a8 N.out.2.2.2.1 N.out.2.2.1) (ahu a8 N.out.2.2.2.1))|((with_reducible refine ch.mono ?_);rintro e w6⟨rfl,hP⟩));go_ret;rw[al.out];(have cQ:(nY now s5.plain 146 [m.t]).1=(UM now (kT t now (s.plain.nV m.t s.x.sa s.x.sb false) m) m,(0:Int)).1:=by rw[a8];rfl);exact⟨rfl,cQ▸pY.trans (vH.trans ba) hP⟩);·(have e1:(ak==1)=false:=by simpa using K);have al:=ah (ad.out.trans (by rw[if_neg K]));clear K ad;go_wp2_with(first|(with_reducible refine gy rfl 36 _ rfl g8 rfl 36 _ _ a4 underlying36 rfl (hi) ?_)|(with_reducible refine gy rfl 196 _ rfl cx rfl 196 _ _ aL underlying196 rfl (by kernel_rfl) ?_)|(refine ni 32 ST hC rfl _ _ _ rfl rfl rfl hi HC.out cn.out ?_;intro wR kN rW av;rw[ct.out]at kN;obtain⟨cg,QU⟩:=hs.Ea kN rW av ⟨rfl,rfl,rfl,rfl,rfl,rfl,rfl,rfl,rfl⟩;have bb:=bc.turn QU;have a5:=bj.ji QU.gr (λk H=> .inl (a1.out k H));have vH:=bk.trans QU;have ca:=aeZ (now:=now) (s:=s.nV m.t s.x.sa s.x.sb false) ⟨N.out.1,N.out.2.1,cg,a5,bf.out.2,a1.out,N.out.2.2.1,N.out.2.2.2.1⟩ bf.out.1 N.out.2.2.2.2.1 N.out.2.2.2.2.2;clear kN rW av hC hs bc aL bk bj a5 a4 QU;have bS:=bb.blk;replace aL:=bS)|((with_reducible refine ca.mono ?_);rintro e fU⟨rfl,s5,cf,ba,a8⟩;have fJ:=(bb.turn ba).blk.cell;have MX:=(fJ 1).trans ag;have UL:=(fJ 2).trans ap;clear fJ));go_ret;rw[al.out];exact⟨rfl,s5,cf,vH.trans ba,a8⟩
    focus(
     rw[if_neg bd]at ax;apply gu (Below w3) (λW=>aq3 gY 1) (λ_ _ _ K O=>K.trans O) (vN w3 17) (λ_ _ _ h=>h.1) (λ_ _=>iR _ _ _ _) (λ_ _=>True) (λ_=>trivial) (λ_ _ _ _ _ _ _=>trivial);(case lX=>intro u;simp only[bV,aq9,aP,ay,aA,aB,aT,aJ];rfl);(case hm=>kernel_rfl);(case hB=>kernel_rfl);(case hA=>kernel_rfl);case hap=>kernel_rfl
     repeat(first
        |(apply fM.is
          ·
            (intro u w' H Y d
             simp[fO,aC,gI,Is]at d
             refine fC ?_ ?_
             ·
               first
               |rfl
               |(simp[aF,yielded,d];done)
             intro M J
             have V:=(bh.out.grow H).blk.cell;have y2:=(V 32).trans aM;have y3:=(V 33).trans bm;have y4:=(V 34).trans bn;have y5:=(V 35).trans bo;have y6:=(V 52).trans bq;clear V;have y7:=((aE.below H).blk.cell 1).trans ag
             go_wp2_with (((with_reducible refine(ax _).mono ?_);rintro e w4⟨rfl,Q⟩))
             try simp only[d]at J
             refine J _ _ ?_ rfl
             first |exact iR _ _ _ _ |exact kM H.size Q (by decide)))
        |(refine fM.one (pV w3 36 (#[.int .i64 0, .int .i64 0, .int .i64 0, .bool false] : Array Value).size) ?_ ?_
          ·
            (intro u w' H Y d
             clear d
             refine fC ?_ ?_
             ·
               first
               |rfl
               |(simp[aF,yielded];done)
             intro M J
             go_wp2_with fail
             exact J _ _ (kM H.size jm (by decide)) ⟨w',_,rfl,H.size,fK.new w' 36 (gv:Array Value),rfl⟩))
        |(refine fM.word (CU w3 16 36 (#[.int .i64 0, .int .i64 0, .int .i64 0, .bool false])) ?_ ?_
          ·
            (intro u w' H Y d
             simp[fO,aC,gI,Is]at d
             obtain⟨⟨g,cs,aw,hg,am,a9⟩,hx⟩:=d
             refine jF ?_ ?_
             ·
               first
               |rfl
               |(simp[aF,yielded];done)
             intro M J
             have jL: ∀k,k≠g->(w'.setRow g gv).heap[k]? =w'.heap[k]? :=λk H=>setRow_other w' g k _ H
             exact wp_store_row 36 _ _ rfl g (#[.int .i64 0, .int .i64 0, .int .i64 0, .bool false]) (by first | exact aw | (rw [← aw]; rfl)) (by first | exact hx | exact hx.1 | (rw [← hx.1]; rfl) | (rw [← hx]; rfl)) 36 cs am (by kernel_rfl) a9 (by simp [aK]) (J undef _
               ⟨jk gY hg _,λh=>absurd rfl h,λ_=> .inr ⟨g,_,cs,gv,am,am.row _,a9.symm,by simp,jL⟩⟩
               ⟨g,by rw[jH u undef (by decide)];exact aw,hg,am.row _⟩))))
     refine fM.last (qh ?_) ?_;(·simp only[gQ];(repeat(refine⟨?_,?_⟩;·first|exact mM _|exact qH|exact pz (λi hf e=>hf _ rfl ⟨16,.data⟩ (by simp) rfl e.symm)));exact trivial);intro u w2 an _ d;simp only[gQ]at d;refine⟨rfl,?_⟩;intro M J;obtain⟨g8,e8,bx,Xp⟩:=d 17 _ rfl;have az:=d 15 _ rfl;simp only[gI,Is]at az;clear d;simp only[az,e8];clear az e8 ax bm bn bo bq;have Ug:W w2:=Vw.trans (an.mono Vw.size);have Lu:=aE.below an;have aD:=ah (Z.out.grow Ug);clear Xp bx aE bR bh an Vw;go_upto_region 10 with fail;(have z0:(U != 0)=true:=by simpa using bd);obtain⟨ak,ar⟩:=fD m.ack;obtain⟨mt,bA⟩:=fD m.t;obtain⟨sl,bE⟩:=fD s.x.sl;have aq:Hid (∀P:Prop,¬(U=110/\ak=1/\mt=sl)->R=(s.plain,U)):=ah (λ_ hn=>by rw[ad.out,<-ar,<-bA,<-bE,if_neg hn,if_pos bd]);have a6:Hid (U=110->ak=1->mt=sl->R=((nY now s.plain 146 [mt]).1,0)):=ah (λq1 q2 q3=>by rw[ad.out,<-ar,<-bE,UM,<-bA,if_pos ⟨q1,q2,q3⟩]);rw[<-bA]at ag;rw[<-ar]at ap;rw[<-bE]at aM;clear ad ar bA bE bd;by_cases K:U=110;(focus(by_cases O:ak=1;(focus(by_cases h3:mt=sl;(·have al:=ah (a6.out K O h3);(have f1:(U==110)=true:=by simpa using K);(have f2:(ak==1)=true:=by simpa using O);(have f3:(mt==sl)=true:=by simpa using h3);clear K O h3 aq a6;refine ara (by kernel_rfl) ?_;(repeat(first|(fail)|(apply gX.want rfl;(·intro w' H M Q' J;have aa:=(Lu.blk.below H Lu.blk.lt).cell;have MX:=(aa 1).trans ag;have UL:=(aa 2).trans ap;clear aa;have cB:=((aD.out.grow H).blk.cell 32).trans aM;go_wp2_with(fail);first|exact aH _ _|exact Q);(·simp only[aP,ay,aA,aB];rfl))|(apply gX.skip rfl;·simp only[aP,ay,aA,aB];rfl)));refine gX.nil ?_;intro w7 H;have Eo:W w7:=Ug.trans (H.mono Ug.size);have cG:=Z.out.grow Eo;have MX:=((Lu.below H).blk.cell 1).trans ag;have ch:=Ls hT cG 146 mt (aG cd (by decide)) cc;clear Lu aD cG H;go_wp2_with((with_reducible refine ch.mono ?_);rintro e w6⟨rfl,hP⟩);go_ret;rw[al.out];exact⟨rfl,pY.trans (iw.of_below Eo) hP⟩);focus(have al:=ah (aq.out True λq=>h3 q.2.2);(have f3:(mt==sl)=false:=by simpa using h3);(have f1:(U==110)=true:=by simpa using K);(have f2:(ak==1)=true:=by simpa using O);clear K O h3 aq a6)));rotate_left;focus(have al:=ah (aq.out True λq=>O q.2.1);(have f2:(ak==1)=false:=by simpa using O);(have f1:(U==110)=true:=by simpa using K);clear K O aq a6)));rotate_left 2;focus(have al:=ah (aq.out True λq=>K q.1);(have f1:(U==110)=false:=by simpa using K);clear K aq a6)))
   rotate_left 3;·have Dp:Hid (R=(s.plain,1)):=ah (by rw[ai.out];exact if_pos rfl);clear ai;go_wp2_with((with_reducible refine(bL _).mono ?_);rintro e w3⟨rfl,Q⟩);go_ret;rw[Dp.out];exact iK.same Z.out (a7.trans (Q.mono a7.size)) rfl))
 rotate_left 3
 ·have e0:(te != 0)=true:=by simpa using h0
  have ai:Hid (R=(s.plain,te)):=ah (by rw[HR.out,bi.out];exact aa1 (by rw[<-bi.out];exact h0));clear h0;go_wp2_with fail;go_ret;rw[ai.out];exact iK.same Z.out ae rfl
 all_goals(refine ara (by kernel_rfl) ?_;(repeat(first|(fail)|(apply gX.want rfl;(·intro w' H M Q' J;have aa:=(Lu.blk.below H Lu.blk.lt).cell;have MX:=(aa 1).trans ag;have UL:=(aa 2).trans ap;clear aa;have cB:=((aD.out.grow H).blk.cell 32).trans aM;go_wp2_with(fail);first|exact aH _ _|exact Q);(·simp only[aP,ay,aA,aB];rfl))|(apply gX.skip rfl;·simp only[aP,ay,aA,aB];rfl)));refine gX.nil ?_;intro w7 H;have Eo:W w7:=Ug.trans (H.mono Ug.size);go_wp2_with fail;go_ret;rw[al.out];exact iK.same Z.out Eo rfl)
theorem ae4(q:P7)(h:may q=true):q.body.length<=(enc q).length:=by unfold enc;rw[if_pos h];unfold nP;simp only[bC];omega
theorem aa4(p:gG)(q:P7):(rP p q).body= []:=by
 unfold rP;split
 ·unfold jA;split;·rfl
  ·rfl
 ·rfl
theorem ahx(d:s5.plain=nM c q)(H:c.out.length<=50):s5.out.length<=90:=by
 have e:s5.plain.out.length<=c.out.length+1:=by rw[d];exact Ho _ _
 have e2:s5.plain.out=s5.out:=rfl;rw[e2]at e;omega
theorem ahy(H:s5.plain=nM c q)(d: -1<=c.x.last): -1<=s5.x.last:=by
 have e:s5.plain.x=c.x:=by rw[H];exact Ec _ _
 have e2:s5.plain.x.last=s5.x.last:=rfl;rw[<-e2,e];exact d
theorem anv{base:Nat}{p:P7}{v:Value}(h:Ou base p v w)(n:Nat)(hn:n=p.body.length): ∃A c,v=.agg (jT p A n c)/\aq2 w A c p.body:=by obtain⟨A,c,e,hB⟩:=h.toB;subst hn;exact⟨A,c,e,hB⟩
theorem ak3(U0:jE w0 t tm)(hT:Tab w0)(h:iJ w0 Bq g tm now s W)(bs:List UInt8)(A:Option Addr)(n c:Nat)(hn:n=bs.length)(hB:aq2 W A c bs)(a8:bs.length<=2000)(hz:0<W.heap.size)(bk:s.out.length<=50)(bf: -1<=s.x.last)(zZ:kD (-1) s.x.stops=true)(bn:s.x.stops.length<=60)(bh:0<=now)(bi:now<=268435456):Calls aj 26 #[.pointer (some ⟨g,0,none⟩),.slice A n c] W (iK w0 Bq g tm now s W (wW t now s.plain bs)):=by
 obtain⟨R,hR⟩:=fD (wW t now s.plain bs);rw[<-hR];have a5:=akC A n c bs W hn hB a8;obtain⟨K,aD⟩:=fD ((vY bs).getD P7.none_);obtain⟨ar,XV⟩: ∃e:Int,e=if(vY bs).isSome then 0 else 8:=⟨_,rfl⟩
 rw[<-aD,<-XV]at a5;have aL:Hid (K.body.length<=2000):=ah (by rw[aD];cases d:vY bs with|none=>exact aV _|some q=>obtain⟨hm,he⟩:=(GU bs q).1 d;exact aG (ae4 q hm) (by rw[he];exact a8));have aR:Hid (¬ar=0->R=(s.plain,ar)):=ah (by intro M;rw[hR,XV];unfold wW;cases d:vY bs with|none=>rfl|some q=>rw[d]at XV;exact absurd XV M);have az:Hid (ar=0->R=if K.kind=2 then(if iT s.plain.peer K≠0 then(s.plain,iT s.plain.peer K) else((nY now (nM ((s.plain.ou (wu s.plain.peer K)).su false) (rP s.plain.peer K)) 155 []).1,0)) else if K.kind=6 then(if jw s.plain.peer K 6≠0 then(s.plain,jw s.plain.peer K 6) else((s.plain.ou (GY s.plain.peer K)).su false,0)) else if K.kind=5 then Bv t now s.plain K else(s.plain,1)):=ah (by intro M;rw[hR,aD];unfold wW;cases d:vY bs with|none=>rw[d]at XV;rw[XV]at M;exact absurd M (by decide)|some q=>rfl);have HH:=ah h;obtain⟨nb,bj⟩:=fD K.body.length;have ax:=ah bj;have HX:Hid (jE w0 t tm/\Tab w0/\s.out.length<=50/\ -1<=s.x.last/\kD (-1) s.x.stops=true/\s.x.stops.length<=60/\0<W.heap.size/\0<=now/\now<=268435456):=ah ⟨U0,hT,bk,bf,zZ,bn,hz,bh,bi⟩;clear hR aD XV hn hB a8 bj U0 hT bk bf zZ bn hz h bh bi;go_enter func26,ntmps26;go_upto_region 2 with(first|((with_reducible refine a5.mono ?_);rintro e w2⟨fU,rfl,bm,au⟩;obtain⟨A2,c2,rfl,bc⟩:=anv bm nb ax.out;have QL:=Own.jD w2 136 gi)|(with_reducible refine oG (jT K A2 nb c2) QL rfl _ _ rfl rfl rfl (kS _ _ _ _) (by kernel_rfl) (qM _ _ _ _) ?_;intro N kN rW ak;replace QL:=kN;clear kN rW ak))
 have ad:W N:=au.trans (QL.below.mono au.size);have xQ:=bc.below QL.below;have al:arz N g s w2 136 (jT K A2 nb c2):=HH.out.beside QL.b0 au.size;obtain⟨b5,bd⟩:=fD w2.heap.size;rw[<-bd]at al ⊢;have HS:=ah (HH.out.grow ad);have bB:=al.blk.cell 0;obtain⟨kd,a7⟩:=fD K.kind;rw[show(jT K A2 nb c2)[0]? =some (.int .i64 kd) by rw[a7];rfl]at bB;rw[<-a7]at az;clear a7 QL bd au bm bc a5;by_cases M:ar=0
 ·have e0:(ar != 0)=false:=by simpa using M
  have aq:=ah (az.out M);clear M az aR;by_cases k2:kd=2;·(have d2:(kd==2)=true:=by simpa using k2);have ag:=ah (aq.out.trans (if_pos k2));clear k2 aq;obtain⟨er,ap⟩:=fD (iT s.plain.peer K);obtain⟨P,hP⟩:=fD (wu s.plain.peer K);obtain⟨Q,hQ⟩:=fD (rP s.plain.peer K);have ac: ∀X,N X->Calls aj 60 #[.agg (gB s.plain.peer),.agg (jT K A2 nb c2)] X (yj X (wu s.plain.peer K) (rP s.plain.peer K) (iT s.plain.peer K)):=λX hX=>Uw s.plain.peer K A2 nb c2 X ax.out.symm (xQ.below hX) aL.out;unfold yj at ac;have aE:Hid (Q.body= []):=ah (by rw[hQ];exact aa4 _ _);rw[<-ap,<-hP,<-hQ]at ac;rw[aE.out]at ac;rw[<-ap,<-hP,<-hQ]at ag;obtain⟨nq,a9⟩:=fD (([]:List UInt8).length);rw[<-a9]at ac;have bu:=ah a9;clear ap hP hQ a9;go_upto_region 6 with fail;apply gu (Below N) (λW=>aq3 gY 1) (λ_ _ _ h1 h2=>h1.trans h2) (sD N 13 34 14 136) (λ_ _ _ h=>h.1) (λ_ _=>fZ _ _ _ _ _ _ _) (λ_ _=>True) (λ_=>trivial) (λ_ _ _ _ _ _ _=>trivial);(case lX=>intro u;simp only[bV,aq9,aP,ay,aA,aB,aT,aJ];with_reducible rfl);(case hm=>kernel_rfl);(case hB=>kernel_rfl);(case hA=>kernel_rfl);(case hap=>kernel_rfl);(iterate 4(apply fM.is;·(intro u w' J U d;simp[fO,aC,gI,Is]at d;refine fC ?_ ?_;(·first|rfl);intro O H;skip;go_wp2_with(fail);(try simp only[d]at H);refine H _ _ ?_ rfl;first|exact fZ _ _ _ _ _ _ _)));refine fM.is (c:=.agg (gB s.plain.peer)) ?_ ?_;(·(intro u w' J U d;simp[fO,aC,gI,Is]at d;refine fC (by first |rfl) ?_;intro O H;have Y:=(HS.out.grow J).own;exact wC Y 15 _ (pG _ _ _) _ _ rfl (by rw[<-d];rfl) _ bD rfl (iD _) (H _ _ (fZ _ _ _ _ _ _ _) rfl)));refine fM.is (c:=.agg (jT K A2 nb c2)) ?_ ?_;(·(intro u w' J U d;refine fC (by first |rfl) ?_;intro O H;exact wp_load_row 136 _ rfl b5 rfl 136 _ (0,0) _ (al.blk.below J al.blk.lt) bF rfl (kS _ _ _ _) (H _ _ (fZ _ _ _ _ _ _ _) rfl)));refine fM.one (ahb P Q nq er) ?_ ?_;(·(intro u w' J U d;simp only[gQ]at d;have q1:=d ⟨4,.data⟩ (by simp) rfl _ rfl;have q2:=d ⟨5,.data⟩ (by simp) rfl _ rfl;simp only[gI,Is]at q1 q2;clear d;refine fC (by first |rfl) ?_;intro O H;skip;go_wp2_with(((with_reducible refine(ac _ J).mono ?_);rintro e w3⟨A1,c1,rfl,bx,av⟩));(try simp only[q1,q2]at H);exact H _ _ (iL J.size av (by decide) (by decide)) ⟨A1,c1,rfl,OD bx⟩));refine fM.one (ahb P Q nq er) ?_ ?_;(·(intro u w' J U d;simp only[gQ]at d;have q1:=d ⟨6,.data⟩ (by simp) rfl _ rfl;obtain⟨A1,c1,q1,hz⟩: ∃A1 c1,u 6=.tuple #[.agg (gB P),.agg (jT Q A1 nq c1),.int .i64 er]/\ ∀w,aq2 w A1 c1 []:=q1;clear d;refine fC (by first |rfl) ?_;intro O H;go_wp2_with fail;(try simp only[q1]at H);exact H _ _ (fZ _ _ _ _ _ _ _) ⟨A1,c1,rfl,hz⟩));refine fM.is (c:=.agg (gB P)) ?_ ?_;(·(intro u w' J U d;simp only[gQ]at d;have q1:=d ⟨7,.data⟩ (by simp) rfl _ rfl;obtain⟨A1,c1,q1,hz⟩: ∃A1 c1,u 7=.tuple #[.agg (gB P),.agg (jT Q A1 nq c1),.int .i64 er]/\ ∀w,aq2 w A1 c1 []:=q1;clear d;refine fC (by first |rfl) ?_;intro O H;go_wp2_with fail;(try simp only[q1]at H);exact H _ _ (fZ _ _ _ _ _ _ _) rfl));refine fM.one (anj P Q nq er) ?_ ?_;(·(intro u w' J U d;simp only[gQ]at d;have q1:=d ⟨7,.data⟩ (by simp) rfl _ rfl;obtain⟨A1,c1,q1,hz⟩: ∃A1 c1,u 7=.tuple #[.agg (gB P),.agg (jT Q A1 nq c1),.int .i64 er]/\ ∀w,aq2 w A1 c1 []:=q1;clear d;refine fC (by first |rfl) ?_;intro O H;go_wp2_with fail;(try simp only[q1]at H);exact H _ _ (fZ _ _ _ _ _ _ _) ⟨A1,c1,rfl,hz⟩));refine fM.is (c:=.int .i64 er) ?_ ?_;(·(intro u w' J U d;simp only[gQ]at d;have q1:=d ⟨7,.data⟩ (by simp) rfl _ rfl;obtain⟨A1,c1,q1,hz⟩: ∃A1 c1,u 7=.tuple #[.agg (gB P),.agg (jT Q A1 nq c1),.int .i64 er]/\ ∀w,aq2 w A1 c1 []:=q1;clear d;refine fC (by first |rfl) ?_;intro O H;go_wp2_with fail;(try simp only[q1]at H);exact H _ _ (fZ _ _ _ _ _ _ _) rfl));refine fM.one (pV N 34 16) ?_ ?_;(·(intro u w' J U d;clear d;refine fC (by first |rfl) ?_;intro O H;go_wp2_with fail;exact H _ _ (iL J.size jm (by decide) (by decide)) ⟨w',_,rfl,J.size,fK.new _ _ _,rfl⟩));refine fM.one (pV N 136 7) ?_ ?_;(·(intro u w' J U d;clear d;refine fC (by first |rfl) ?_;intro O H;go_wp2_with fail;exact H _ _ (iL J.size jm (by decide) (by decide)) ⟨w',_,rfl,J.size,fK.new _ _ _,rfl⟩));refine fM.word (CU N 11 34 (gB P)) ?_ ?_;(·(intro u w' J U d;simp only[gQ]at d;have q1:=d ⟨11,.data⟩ (by simp) rfl _ rfl;have q2:=d ⟨8,.data⟩ (by simp) rfl _ rfl;simp only[gI,Is]at q2;obtain⟨V,cs,am,hg,aa,an⟩:pV N 34 16 (u 11) w':=q1;clear d;refine jF (by first |rfl) ?_;intro O H;have jL: ∀k,k≠V->(w'.setRow V (gB P)).heap[k]? =w'.heap[k]? :=λk J=>setRow_other w' V k _ J;exact wp_store_row 34 _ _ rfl V (gB P) (by rw[<-am];rfl) (by rw[<-q2];rfl) 34 cs aa (iD P) (an.trans (yw P).symm) (kK P) (H undef _ ⟨jk gY hg _,λh _=>absurd rfl h,λ_=> .inr ⟨V,cs,gB P,aa,aa.row _,(yw P).trans an.symm,arq _ _ _,jL⟩,λe=>absurd e (by decide)⟩ ⟨V,by rw[jH u undef (by decide)];exact am,hg,aa.row _⟩)));refine fM.word (aeG N 12 Q nq) ?_ ?_;(·(intro u w' J U d;simp only[gQ]at d;have q1:=d ⟨12,.data⟩ (by simp) rfl _ rfl;have q2:=d ⟨9,.data⟩ (by simp) rfl _ rfl;obtain⟨A1,c1,q2,hz⟩: ∃A1 c1,u 9=.agg (jT Q A1 nq c1)/\ ∀w,aq2 w A1 c1 []:=q2;obtain⟨g6,cs,am,hg,aa,an⟩:pV N 136 7 (u 12) w':=q1;clear d;refine jF (by first |rfl) ?_;intro O H;have jL: ∀k,k≠g6->(w'.setRow g6 (jT Q A1 nq c1)).heap[k]? =w'.heap[k]? :=λk J=>setRow_other w' g6 k _ J;exact wp_store_row 136 _ _ rfl g6 (jT Q A1 nq c1) (by rw[<-am];rfl) (by rw[<-q2];rfl) 136 cs aa (kS _ _ _ _) (an.trans (QM _ _ _ _).symm) (qM _ _ _ _) (H undef _ ⟨jk gY hg _,λ_ h=>absurd rfl h,λe=>absurd e (by decide),λ_=> .inr ⟨g6,cs,jT Q A1 nq c1,aa,aa.row _,(QM _ _ _ _).trans an.symm,arq _ _ _,jL⟩⟩ ⟨g6,A1,c1,by rw[jH u undef (by decide)];exact am,hg,aa.row _,hz⟩)));refine fM.last (qm ?_) ?_;(·simp only[gQ];(repeat(refine⟨?_,?_⟩;·first|exact mQ _|exact zo _|exact qP|exact xu (by kernel_rfl) (by decide)|exact xw (by kernel_rfl)));exact trivial);intro u w1 J _ d;simp only[gQ]at d;obtain⟨V,e5,a6,Xp⟩:=d 13 _ rfl;obtain⟨g6,A1,c1,e6,Gz,Xz,bo⟩:=d 14 _ rfl;have a4:=d 10 _ rfl;simp only[gI,Is]at a4;clear d;refine⟨by first |rfl |simp[aF,yielded],?_⟩;intro O H;simp only[e5,e6,a4];clear e5 e6 a4;have hW:W w1:=ad.trans (J.mono ad.size);have Z:=HH.out.grow hW;have bb:=HH.out.beside Xp (aG ad.size a6);have aw:=HH.out.beside Xz (aG ad.size Gz);by_cases M:er=0;(·(have e1:(er != 0)=false:=by simpa using M);have Dp:=ah (ag.out.trans (if_neg (λq=>q M)));have af:iw g s s W w1:=iw.of_below hW;have Y:=Z.own;have a1:=bb.blk;have bq:Hid (nq=Q.body.length):=ah (by rw[aE.out];exact bu.out);have au:Hid (Q.body.length<=2000):=ah (by rw[aE.out];exact aV _);have bR:Hid (∀w,aq2 w A1 c1 Q.body):=ah (by rw[aE.out];exact bo);clear M ag ac Xp Xz bo al xQ;go_wp2_with(first|(with_reducible refine gy rfl 34 _ rfl V rfl 34 _ _ a1 bD rfl (iD _) ?_)|(with_reducible refine gy rfl 136 _ rfl g6 rfl 136 _ _ bw bF rfl (kS _ _ _ _) ?_)|(with_reducible refine ni 15 (gB (P)) Y rfl _ _ _ rfl rfl rfl (iD _) (Cb _ _ _ _) (kK _) ?_;intro N kN rW ak;rw[Jg]at kN;obtain⟨ae,vH⟩:=Z.Ea kN rW ak ⟨rfl,rfl,rfl,rfl,rfl,rfl,rfl,rfl,rfl⟩;replace aw:=aw.turn vH;replace af:=iw.trans af vH;clear Y;replace Z:=ae;clear ae;have Y:=Z.own)|(with_reducible refine jq 37 (.bool false) Y rfl _ _ _ rfl rfl rfl (by kernel_rfl) (fA (by decide:37<54) (tK _ _ _).symm) rfl ?_;intro N kN rW ak;rw[UC]at kN;obtain⟨ae,vH⟩:=Z.Ea kN rW ak ⟨rfl,rfl,rfl,rfl,rfl,rfl,rfl,rfl,rfl⟩;replace aw:=aw.turn vH;have bw:=aw.blk;clear kN rW ak;replace af:=iw.trans af vH;clear Y;replace Z:=ae;clear ae;have Y:=Z.own)|((with_reducible refine(QE Z Q A1 nq c1 bq.out (bR.out _) au.out (aG HX.out.2.2.1 (by decide))).mono ?_);rintro e fU⟨rfl,s5,fJ,bN,ba⟩;have bL:=aeQ HX.out.2.1 fJ 155 (ahx ba HX.out.2.2.1) (ahy ba HX.out.2.2.2.1))|((with_reducible refine bL.mono ?_);rintro e fU⟨rfl,hP⟩));go_ret;rw[Dp.out];(have bA:(nY now s5.plain 155 []).1=((nY now (nM ((s.plain.ou P).su false) Q) 155 []).1,(0:Int)).1:=by rw[ba];rfl);exact⟨rfl,bA▸pY.trans (af.trans bN) hP⟩);·(have e1:(er != 0)=true:=by simpa using M);have Dp:=ah (ag.out.trans (if_pos M));clear M ag ac;go_wp2_with fail;go_ret;rw[Dp.out];exact iK.same HH.out hW rfl
  ·(have d2:(kd==2)=false:=by simpa using k2);have ag:=ah (aq.out.trans (if_neg k2));clear k2 aq;by_cases k6:kd=6;(·(have d6:(kd==6)=true:=by simpa using k6);have ai:=ah (ag.out.trans (if_pos k6));clear k6 ag;obtain⟨er,ap⟩:=fD (jw s.plain.peer K 6);obtain⟨P,hP⟩:=fD (GY s.plain.peer K);have ac: ∀X,N X->Calls aj 62 #[.agg (gB s.plain.peer),.agg (jT K A2 nb c2)] X (XB X (GY s.plain.peer K) (jw s.plain.peer K 6)):=λX hX=>aay s.plain.peer K A2 nb c2 X ax.out.symm (xQ.below hX) aL.out;unfold XB at ac;rw[<-ap,<-hP]at ac;rw[<-ap,<-hP]at ai;clear ap hP;go_upto_region 14 with fail;apply gu (Below N) (λW=>aq3 gY 1) (λ_ _ _ h1 h2=>h1.trans h2) (sD N 11 34 99 136) (λ_ _ _ h=>h.1) (λ_ _=>fZ _ _ _ _ _ _ _) (λ_ _=>True) (λ_=>trivial) (λ_ _ _ _ _ _ _=>trivial);(case lX=>intro u;simp only[bV,aq9,aP,ay,aA,aB,aT,aJ];with_reducible rfl);(case hm=>kernel_rfl);(case hB=>kernel_rfl);(case hA=>kernel_rfl);(case hap=>kernel_rfl);(iterate 4(apply fM.is;·(intro u w' J U d;simp[fO,aC,gI,Is]at d;refine fC ?_ ?_;(·first|rfl|(simp[aF,yielded,d];done));intro O H;skip;go_wp2_with(fail);(try simp only[d]at H);refine H _ _ ?_ rfl;first|exact fZ _ _ _ _ _ _ _|exact iL J.size av (by decide) (by decide))));refine fM.is (c:=.agg (gB s.plain.peer)) ?_ ?_;(·(intro u w' J U d;simp[fO,aC,gI,Is]at d;refine fC (by first |rfl |simp[aF,yielded]) ?_;intro O H;have Y:=(HS.out.grow J).own;exact wC Y 15 _ (pG _ _ _) _ _ rfl (by rw[<-d];rfl) _ bD rfl (iD _) (H _ _ (fZ _ _ _ _ _ _ _) rfl)));refine fM.is (c:=.agg (jT K A2 nb c2)) ?_ ?_;(·(intro u w' J U d;refine fC (by first |rfl |simp[aF,yielded]) ?_;intro O H;exact wp_load_row 136 _ rfl b5 rfl 136 _ (0,0) _ (al.blk.below J al.blk.lt) bF rfl (kS _ _ _ _) (H _ _ (fZ _ _ _ _ _ _ _) rfl)));refine fM.is (c:=.tuple #[.agg (gB P),.int .i64 er]) ?_ ?_;(·(intro u w' J U d;simp only[gQ]at d;have q1:=d ⟨4,.data⟩ (by simp) rfl _ rfl;have q2:=d ⟨5,.data⟩ (by simp) rfl _ rfl;simp only[gI,Is]at q1 q2;clear d;refine fC (by first |rfl |simp[aF,yielded]) ?_;intro O H;go_wp2_with((with_reducible refine(ac _ J).mono ?_);rintro e w3⟨rfl,av⟩);(try simp only[q1,q2]at H);exact H _ _ (iL J.size av (by decide) (by decide)) rfl));(iterate 3(apply fM.is;·(intro u w' J U d;simp[fO,aC,gI,Is]at d;refine fC ?_ ?_;(·first|rfl|(simp[aF,yielded,d];done));intro O H;skip;go_wp2_with(fail);(try simp only[d]at H);refine H _ _ ?_ rfl;first|exact fZ _ _ _ _ _ _ _|exact iL J.size av (by decide) (by decide))));refine fM.one (pV N 34 16) ?_ ?_;(·(intro u w' J U d;clear d;refine fC (by first |rfl |simp[aF,yielded]) ?_;intro O H;go_wp2_with fail;exact H _ _ (iL J.size jm (by decide) (by decide)) ⟨w',_,rfl,J.size,fK.new _ _ _,rfl⟩));refine fM.word (CU N 10 34 (gB P)) ?_ ?_;(·(intro u w' J U d;simp only[gQ]at d;have q1:=d ⟨10,.data⟩ (by simp) rfl _ rfl;have q2:=d ⟨8,.data⟩ (by simp) rfl _ rfl;simp only[gI,Is]at q2;obtain⟨V,cs,am,hg,aa,an⟩:pV N 34 16 (u 10) w':=q1;clear d;refine jF (by first |rfl |simp[aF,yielded]) ?_;intro O H;have jL: ∀k,k≠V->(w'.setRow V (gB P)).heap[k]? =w'.heap[k]? :=λk J=>setRow_other w' V k _ J;exact wp_store_row 34 _ _ rfl V (gB P) (by rw[<-am];rfl) (by rw[<-q2];rfl) 34 cs aa (iD P) (an.trans (yw P).symm) (kK P) (H undef _ ⟨jk gY hg _,λh _=>absurd rfl h,λ_=> .inr ⟨V,cs,gB P,aa,aa.row _,(yw P).trans an.symm,arq _ _ _,jL⟩,λe=>absurd e (by decide)⟩ ⟨V,by rw[jH u undef (by decide)];exact am,hg,aa.row _⟩)));refine fM.last (qm ?_) ?_;(·simp only[gQ];(repeat(refine⟨?_,?_⟩;·first|exact mQ _|exact zo _|exact qP|exact xu (by kernel_rfl) (by decide)|exact xw (by kernel_rfl)));exact trivial);intro u w1 J _ d;simp only[gQ]at d;obtain⟨V,e5,a6,Xp⟩:=d 11 _ rfl;have h9:=d 9 _ rfl;simp only[gI,Is]at h9;clear d;refine⟨by first |rfl |simp[aF,yielded],?_⟩;intro O H;simp only[e5,h9];clear e5 h9;have hW:W w1:=ad.trans (J.mono ad.size);have Z:=HH.out.grow hW;have bb:=HH.out.beside Xp (aG ad.size a6);by_cases M:er=0;(·(have e1:(er != 0)=false:=by simpa using M);have Dp:=ah (ai.out.trans (if_neg (λq=>q M)));have af:iw g s s W w1:=iw.of_below hW;have Y:=Z.own;have a1:=bb.blk;clear M ai ac Xp al xQ;go_wp2_with(first|(with_reducible refine gy rfl 34 _ rfl V rfl 34 _ _ a1 bD rfl (iD _) ?_)|(with_reducible refine ni 15 (gB (P)) Y rfl _ _ _ rfl rfl rfl (iD _) (Cb _ _ _ _) (kK _) ?_;intro N kN rW ak;rw[Jg]at kN;obtain⟨ae,vH⟩:=Z.Ea kN rW ak ⟨rfl,rfl,rfl,rfl,rfl,rfl,rfl,rfl,rfl⟩;skip;replace af:=iw.trans af vH;clear Y;replace Z:=ae;clear ae;have Y:=Z.own)|(with_reducible refine jq 37 (.bool false) Y rfl _ _ _ rfl rfl rfl (by kernel_rfl) (fA (by decide:37<54) (tK _ _ _).symm) rfl ?_;intro N kN rW ak;rw[UC]at kN;obtain⟨ae,vH⟩:=Z.Ea kN rW ak ⟨rfl,rfl,rfl,rfl,rfl,rfl,rfl,rfl,rfl⟩;skip);replace af:=iw.trans af vH;clear Y;replace Z:=ae;clear ae;have Y:=Z.own);go_ret;rw[Dp.out];exact⟨rfl,_,Z,af,rfl⟩);·(have e1:(er != 0)=true:=by simpa using M);have Dp:=ah (ai.out.trans (if_pos M));clear M ai ac;go_wp2_with fail;go_ret;rw[Dp.out];exact iK.same HH.out hW rfl);·(have d6:(kd==6)=false:=by simpa using k6);have ai:=ah (ag.out.trans (if_neg k6));clear k6 ag;by_cases k5:kd=5;(·(have d5:(kd==5)=true:=by simpa using k5);have aM:=ah (ai.out.trans (if_pos k5));clear k5 ai;have bO:=al.blk;have bE:=akZ HX.out.1 HX.out.2.1 HS.out K A2 nb c2 ax.out.symm xQ aL.out (aU HX.out.2.2.2.2.2.2.1 ad.size) HX.out.2.2.1 HX.out.2.2.2.1 HX.out.2.2.2.2.1 HX.out.2.2.2.2.2.1 HX.out.2.2.2.2.2.2.2.1 HX.out.2.2.2.2.2.2.2.2;clear al xQ;go_wp2_with(first|(with_reducible refine gy rfl 136 _ rfl b5 rfl 136 _ _ bO bF rfl (kS _ _ _ _) ?_)|((with_reducible refine bE.mono ?_);rintro e fU⟨rfl,hP⟩));go_ret;rw[aM.out];exact⟨rfl,pY.trans (iw.of_below ad) hP⟩);·(have d5:(kd==5)=false:=by simpa using k5);have aM:=ah (ai.out.trans (if_neg k5));clear k5 ai;go_wp2_with fail;go_ret;rw[aM.out];exact iK.same HH.out ad rfl
 ·have e0:(ar != 0)=true:=by simpa using M
  have aq:=ah (aR.out M);clear M az aR;go_wp2_with fail;go_ret;rw[aq.out];exact iK.same HH.out ad rfl
end Go.Proofs.YthnmgjngniciaaaGreatDoor
