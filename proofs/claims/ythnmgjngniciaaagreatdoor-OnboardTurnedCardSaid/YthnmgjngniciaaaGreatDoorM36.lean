/- Parts. -/
import Derived.Test.YthnmgjngniciaaaGreatDoorM35
import Derived.Test.YthnmgjngniciaaaGreatDoorM31
import Derived.Test.YthnmgjngniciaaaGreatDoorM16
set_option linter.all false
set_option maxHeartbeats 16000000
set_option maxRecDepth 8000
open List renaming map→bV,mem_append→dK,mem_singleton→dN,setIfInBounds_toArray→ay,set_cons_succ→aB,set_cons_zero→aA
open Nat renaming add_zero→bI,le_trans→aG,lt_of_lt_of_eq→fA,lt_of_lt_of_le→aU,reduceAdd→aT,zero_add→aJ
namespace Go.Proofs.YthnmgjngniciaaaGreatDoor
open Go.RowKit Go.Shelf Tryz
open Act renaming put→aP
open Below renaming refl→aH
open Go.Lib renaming hid→ah
open Region renaming binds→aC,wanted→aF
open Tryz renaming prog→aj,underlying44→bg
variable{ops:Array Oper}{F:Cp}{s:Cs}{n now x:Int}{l:List Int}{bs:List UInt8}{m:Ms}{a:Vx}{Bm Bq g i j k:Nat}{D:Nat->Prop}{A:Option Addr}{t:Tp}{tm:jl}{W W1 w w' w0:World}
def FW (D:Nat->Prop) (k i:Nat) (w w':World):Prop:=jV D w w'/\(i≠k->w w')
theorem kV(D:Nat->Prop)(k i:Nat)(w:World):FW D k i w w:=⟨jV.refl _ _,λ_=>aH _ _⟩
theorem Il(h:w w'):FW D k i w w':=⟨jV.of_below h _,λ_=>h⟩
def ahl (W1:World) (k i:Nat) (w:World):Prop:=i=k->W1 w
theorem OI(J:i≠j)(d:ahl W1 k i w)(K:FW D k j w w'):ahl W1 k i w':=λe=>(d e).trans ((K.2 (λH=>J (e.trans H.symm))).mono (d e).size)
def aeV (w0:World) (Bq g:Nat) (tm:jl) (now:Int) (s:Cs) (W1:World) (n:Int) (F:Cp):Value->World->Prop:=fun v w=>v=.int .i64 n/\ ∃s',iJ w0 Bq g tm now s' w/\iw g s s' W1 w/\s'.plain=F
def aiA (x y:Int):Value->World->Prop:=fun v w=> ∃b,v=.slice (some ⟨b,0,none⟩) 2 2/\fK w b 3 #[.int .i64 x,.int .i64 y]
theorem aeV.below{v:Value}(h:aeV w0 Bq g tm now s W1 n F v w)(d:w w'):aeV w0 Bq g tm now s W1 n F v w':=by obtain⟨H,s',J,K,M⟩:=h;exact⟨H,s',J.grow d,K.trans (iw.of_below d),M⟩
theorem U7:mF ops (FW D k) k (gI k (aeV w0 Bq g tm now s W1 n F)):=λ_ d _ _ _ _ _ h H=>jy d h λ_ h=>h.below (H.2 d)
theorem U8{y:Int}(d:Dx ops k j=true):mF ops (FW D k) j (gI j (aiA x y)):=by intro i J H u v w w' h K;refine jy J h λ_ ⟨b,e,h⟩=>⟨b,e,h.below (K.2 (λe=>ug d (e▸H))) h.lt⟩
theorem Hq{b:Nat}(h:w'.heap[b]? =w.heap[b]?)(i:Nat):w'.cell? ⟨b,i,none⟩=w.cell? ⟨b,i,none⟩:=by unfold World.cell?;simp only[h]
theorem aeW(h:IX w0 W Bq g t tm now s m a Bm)(hm:m.id=15)(h5:5<=m.v.length):Calls aj 121 #[.pointer (some ⟨g,0,none⟩),.agg (oC m a)] W (nT w0 Bq g tm now s W (kT t now s.plain m)):=by
 have ac:0<m.v.length:=by omega
 obtain⟨R,hR⟩:=fD (kT t now s.plain m);rw[<-hR];have HR:=ah hR;have V:Own W _ [_]:=Own.jD W 196 (oC m a);obtain⟨W1,Z⟩:=fD (W.alloc (.cells (oC m a) 196));have al:W W1:=by rw[Z];exact V.below
 rw[<-Z]at V;have O:=h.below al;have HD:=ah O;have hx:=h.st.beside V.b0 ig;have ae:=V.b0.cell;obtain⟨id,ag⟩:=fD m.id;have aw:=ae 0;have ad:=ae 4;rw[show(oC m a)[0]? =some (.int .i64 id) by rw[ag];rfl]at aw;rw[show(oC m a)[4]? =some (.slice a.Av m.v.length a.cv) from rfl]at ad;have zN:=ah ag;clear ae;obtain⟨M,vr,hv⟩: ∃M vr,m.v=M::vr:=by cases hv:m.v with|nil=>rw[hv]at ac;exact absurd ac (by decide)|cons x l=>exact⟨x,l,rfl⟩
 obtain⟨Y,vo,eV,a4,am⟩:=(O.ms.v.rows).get (i:=0) (x:=M) (by rw[hv];rfl);have an:=am 0 (.int .i64 M) rfl;simp only[Nat.zero_mul,bI]at an;obtain⟨nv,LP⟩:=fD m.v.length;rw[eV,<-LP]at ad;have a5:0<nv:=by rw[LP];exact ac
 have OH: ¬zO g s Y:=λd=>by have q1:=h.lo Y d;have q2:=(O.ms.v.gJ Y (by rw[eV];rfl)).1;omega
 have ap:m.v.headD 0=M:=by rw[hv];rfl
 clear am LP ac;have a7:(id==32)=false:=by rw[zN.out,hm];rfl
 have t3:(id==3)=false:=by rw[zN.out,hm];rfl
 have t9:(id==9)=false:=by rw[zN.out,hm];rfl
 have a6:(id==15)=true:=by rw[zN.out,hm];rfl
 obtain⟨Q,af⟩:=fD ((Bo t s.plain m).2);obtain⟨U,aa⟩:=fD ((Bo t s.plain m).1);have au:Hid (R=(nY now U 147 [M,Q]).1):=ah (by rw[HR.out,af,aa];unfold kT;simp only[hm,ap];rfl);have ax: ∀W',W1 W'->Calls aj 175 #[.pointer (some ⟨g,0,none⟩),.agg (oC m a)] W' λe w'=>e=.returned (.int .i64 Q)/\ ∃s',iJ w0 Bq g tm now s' w'/\iw g s s' W' w'/\s'.plain=U:=λW' hb=>by have:=aeP O.tp (O.st.grow hb) m a ((O.ms.v.rows).below hb) h5;refine this.mono λe w' ⟨q1,s',q2,q3,q4⟩=>?_;exact⟨by rw[af];exact q1,s',q2,q3,by rw[aa];exact q4⟩
 have ak:Hid (U.x.last=s.plain.x.last/\U.out=s.plain.out):=ah (by rw[aa];exact Ed);clear hR ag hm h ap h5 af aa;go_enter func121,ntmps121;go_upto_region 1 with fail;rw[<-Z];clear Z;go_upto_region 14 with fail;apply gu (jV (zO g s)) (λW=>jV.drew _ W) (λ_ _ _ O h2=>O.trans h2) (FW (zO g s) 7) (λ_ _ _ h=>h.1) (λ_ _=>kV _ _ _ _) (ahl W1 7) (λ_ _=>aq3 gY 1) (λ_ _ _ _ aD hp ht=>OI aD hp ht);case lX=>intro u;simp only[bV,aq9,aP,ay,aA,aB,aT,aJ];with_reducible rfl
 case hm=>kernel_rfl
 case hB=>kernel_rfl
 case hA=>kernel_rfl
 case hap=>kernel_rfl
 iterate 2(apply fM.is;·(intro u w' K J d;clear J;simp[fO,aC,gI,Is]at d;refine fC ?_ ?_;(·first|rfl);intro N H;skip;go_wp2_with(fail);exact H _ _ (kV _ _ _ _) rfl))
 apply fM.is;·(intro u w' K J d;clear J;simp[fO,aC,gI,Is]at d;refine fC ?_ ?_;(·first|rfl);intro N H;have az:=((hx.blk.ji K hx.off).cell 4).trans (show(oC m a)[4]? =some (.slice (some ⟨Y,vo,none⟩) nv a.cv) from(V.b0.cell 4).symm.trans ad);go_wp2_with(fail);(try simp only[d]at H);exact H _ _ (kV _ _ _ _) rfl)
 apply fM.is;·(intro u w' K J d;clear J;simp[fO,aC,gI,Is]at d;refine fC ?_ ?_;(·first|rfl);intro N H;skip;go_wp2_with(fail);(try simp only[d]at H);exact H _ _ (kV _ _ _ _) rfl)
 apply fM.is;·(intro u w' K J d;clear J;simp[fO,aC,gI,Is]at d;refine fC ?_ ?_;(·first|rfl);intro N H;have az:=(Hq (K.block Y a4 OH) vo).trans an;go_wp2_with(fail);(try simp only[d]at H);exact H _ _ (kV _ _ _ _) rfl)
 apply fM.is;·(intro u w' K J d;clear J;simp[fO,aC,gI,Is]at d;refine fC ?_ ?_;(·first|rfl);intro N H;skip;go_wp2_with(fail);exact H _ _ (kV _ _ _ _) rfl)
 refine fM.is (c:=.agg (oC m a)) ?_ ?_;·(intro u w' K J d;refine fC (by first |rfl) ?_;intro N H;exact wp_load_row 196 _ rfl W rfl 196 _ (0,0) _ (hx.blk.ji K hx.off) underlying196 rfl (by kernel_rfl) (H _ _ (kV _ _ _ _) rfl))
 refine fM.one (aeV w0 Bq g tm now s W1 Q U) ?_ ?_;·(intro u w' K J d;simp only[gQ]at d;have q5:=d ⟨5,.data⟩ (by simp) rfl _ rfl;have q6:=d ⟨6,.data⟩ (by simp) rfl _ rfl;simp only[gI,Is]at q5 q6;have aq:=J rfl;clear d J;refine fC (by first |rfl) ?_;intro N H;go_wp2_with((with_reducible refine(ax _ aq).mono ?_);rintro e w3⟨rfl,s3,aM,ar,aE⟩);(try simp only[q5,q6]at H);exact H _ _ ⟨ar.gr,λq=>absurd rfl q⟩ ⟨rfl,s3,aM,(iw.of_below aq).trans ar,aE⟩)
 refine fM.one (aiA M Q) ?_ ?_;·(intro u w' K J d;simp only[gQ]at d;have q4:=d ⟨4,.data⟩ (by simp) rfl _ rfl;have q7:=d ⟨7,.data⟩ (by simp) rfl _ rfl;simp only[gI,Is]at q4;replace q7:=q7.1;clear d J;refine fC (by first |rfl) ?_;intro N H;go_wp2_with fail;(try simp only[q4,q7]at H);exact H _ _ (Il jm) ⟨w',rfl,fK.new _ _ _⟩)
 refine fM.last (qm ?_) ?_
 ·simp only[gQ];repeat(refine⟨?_,?_⟩;·first|exact mQ _|exact U7|exact U8 (by kernel_rfl))
  exact trivial
 intro u w1 K _ d;simp only[gQ]at d;have q0:=d 0 _ rfl;obtain⟨_,s2,aL,a1,ai⟩:=d 7 _ rfl;obtain⟨b8,q8,av⟩:=d 8 _ rfl;simp only[gI,Is]at q0;clear d;refine⟨by first |rfl |simp[aF,yielded],?_⟩;intro N H;have aR:=UN HD.out.tab aL 147 [M,Q] (some ⟨b8,0,none⟩) 2 2 (DZ [M,Q] av) rfl ig (by simp) (QO ai ak.out.2 HD.out.ol) (QS ai ak.out.1 HD.out.la);simp only[q0,q8];go_wp2_with((with_reducible refine aR.mono ?_);rintro e w3⟨rfl,hP⟩);go_end0;rw[au.out,<-ai];exact⟨rfl,pY.trans ((iw.of_below al).trans a1) hP⟩
def aiB (A:Option Addr) (x:Int):Value->World->Prop:=fun v w=> ∃b,v=.slice (some ⟨b,0,none⟩) 1 1/\fK w b 3 #[.int .i64 x]/\A.map (·.block)≠some b
def anq (Bq n:Nat) (A:Option Addr) (nl:Nat) (l:List Int):Value->World->Prop:=fun v w=> ∃A' c',v=.slice A' nl c'/\aq1 aq7 3 w Bq A' c' l/\rU n A A'
def ahm (A:Option Addr) (k:Nat):Prop:=A.map (·.block)=some k
theorem QT:mF ops (FW (ahm A) k) j (gI j (aiB A x)):=λ_ d _ _ _ _ _ h H=>jy d h λ_ ⟨b,e,h,hn⟩=>⟨b,e,h.ji H.1 hn,hn⟩
theorem U9{n M:Nat}:mF ops (FW (ahm A) k) k (gI k (anq Bq n A M l)):=λ_ d _ _ _ _ _ h K=>jy d h λ_ ⟨H,J,e,h,hn⟩=>⟨H,J,e,h.below (K.2 d),hn⟩
theorem akU(h:l.contains x=true):XJ l x=l:=by unfold XJ;exact if_pos (by simpa using h)
theorem ahn(h:l.contains x=false):XJ l x=l.take (Hg l x)++x::l.drop (Hg l x):=by unfold XJ;exact if_neg (by simpa using h)
theorem aeX(h:IX w0 W Bq g t tm now s m a Bm)(hm:m.id=16)(af:0<m.v.length)(zZ:kD (-1) s.x.stops=true)(cc:s.x.stops.length<=60):Calls aj 121 #[.pointer (some ⟨g,0,none⟩),.agg (oC m a)] W (nT w0 Bq g tm now s W (kT t now s.plain m)):=by
 obtain⟨R,hR⟩:=fD (kT t now s.plain m);rw[<-hR];have HR:=ah hR;have Y:Own W _ [_]:=Own.jD W 196 (oC m a);obtain⟨W1,aa⟩:=fD (W.alloc (.cells (oC m a) 196));have al:W W1:=by rw[aa];exact Y.below
 rw[<-aa]at Y;have O:=h.below al;have HD:=ah O;have hx:=h.st.beside Y.b0 ig;have aq:=Y.b0.cell;obtain⟨id,av⟩:=fD m.id;have bO:=aq 0;have ap:=aq 4;rw[show(oC m a)[0]? =some (.int .i64 id) by rw[av];rfl]at bO;rw[show(oC m a)[4]? =some (.slice a.Av m.v.length a.cv) from rfl]at ap;have zN:=ah av;clear aq;obtain⟨K,vr,hv⟩: ∃K vr,m.v=K::vr:=by cases hv:m.v with|nil=>rw[hv]at af;exact absurd af (by decide)|cons x l=>exact⟨x,l,rfl⟩
 obtain⟨Q,vo,eV,ag,ba⟩:=(O.ms.v.rows).get (i:=0) (x:=K) (by rw[hv];rfl);have ac:=ba 0 (.int .i64 K) rfl;simp only[Nat.zero_mul,bI]at ac;obtain⟨nv,LP⟩:=fD m.v.length;rw[eV,<-LP]at ap;have cg:0<nv:=by rw[LP];exact af
 have OH: ¬zO g s Q:=λd=>by have q1:=h.lo Q d;have q2:=(O.ms.v.gJ Q (by rw[eV];rfl)).1;omega
 have bc:m.v.headD 0=K:=by rw[hv];rfl
 clear ba LP af;have ct:(id==32)=false:=by rw[zN.out,hm];rfl
 have t3:(id==3)=false:=by rw[zN.out,hm];rfl
 have t9:(id==9)=false:=by rw[zN.out,hm];rfl
 have cm:(id==15)=false:=by rw[zN.out,hm];rfl
 have cn:(id==16)=true:=by rw[zN.out,hm];rfl
 obtain⟨n3,aD⟩:=fD s.m.n3;have a9:(s.cells tm now)[51]? =some (.slice s.m.A3 n3 s.m.c3):=by rw[aD];rfl
 have e3:s.x.stops.length=n3:=by rw[aD];exact O.st.tr.e3
 have an:=λX (hX:W1 X)=>anm s.m.A3 n3 s.m.c3 s.x.stops K X ((O.st.grow hX).tr.stops.rows) e3 (by omega) (U4 zZ).1;obtain⟨pl,ae⟩:=fD (Hg s.x.stops K);obtain⟨th,aM⟩:=fD (s.x.stops.contains K);rw[<-ae,<-aM]at an;have a7:pl<=n3:=by rw[ae,<-e3];exact List.countP_le_length
 obtain⟨l2,ax⟩:=fD (XJ s.x.stops K);have HT:=ah aM;have bq:=ah ae;have aR:=ah ax;have ai:=ah e3;have a1:=ah a7;have a4:Hid (n3<=60):=ah (by omega);have bE:Hid (R=(nY now ((s.plain.lT l2).rQ (pJ (s.plain.lT l2).x)) 147 [K,2]).1):=ah (by rw[HR.out,ax];unfold kT;simp only[hm,bc];rfl);have ak:(oC m a)[4]? =some (.slice (some ⟨Q,vo,none⟩) nv a.cv):=(Y.b0.cell 4).symm.trans ap;have Xj:=ah Y.b0.lt;clear hR av hm h bc zZ cc aD e3 ae aM a7 ax eV;go_enter func121,ntmps121;go_upto_region 1 with fail;rw[<-aa];clear aa;go_upto_region 16 with fail;refine ara (by kernel_rfl) ?_;repeat(first|(apply gX.want rfl;(·intro w' H V Q' J;have ar:=(HD.out.st.grow H).blk.cell 51;rw[a9]at ar;have bb:=((Y.b0.below H Xj.out).cell 4).trans ak;have ci:=(H.cell (p:=⟨Q,vo,none⟩) ag).trans ac;go_wp2_with(((with_reducible refine(an _ H).mono ?_);rintro e w3⟨rfl,bL⟩));first|exact aH _ _|exact bL);(·simp only[aP,ay,aA,aB];rfl)))
 refine gX.nil ?_;intro w7 H;clear an;have Qw:=H;have bh:=HD.out.st.grow Qw;have U:=ah bh;have bi:=hx.below Qw;have a6:=(Qw.cell (p:=⟨Q,vo,none⟩) ag).trans ac;have a8:Q<w7.heap.size:=aU ag Qw.size;clear bh;go_upto_if 72 with fail;go_cut [] from 73 (λW'=> ∃N,iJ w0 Bq g tm now N W'/\iw g s N w7 W'/\N.plain=s.plain.lT l2);case first=>
  cases th with
  |false=>(have hl:l2=s.x.stops.take pl++K::s.x.stops.drop pl:=by rw[aR.out,bq.out];exact ahn HT.out.symm);(have bf:l2.length=n3+1:=by rw[hl,Y6 _ _ _ (by rw[ai.out];exact a1.out),ai.out]);have bm:=ah bf;obtain⟨nl,aE⟩:=fD l2.length;have a5:s.m.A3.map (·.block)≠some g:=ard U.out.tr.stops U.out.blk (by decide);have bw:s.m.A3.map (·.block)≠some W.heap.size:=λe=>hx.off (.inr (.inl e));have bx:s.m.A3.map (·.block)≠some Q:=λe=>OH (.inr (.inl e));(have bA: ∀b,w7.heap.size<=b->s.m.A3.map (·.block)≠some b:=λb hb e=>by have:=(U.out.tr.stops.gJ _ e).2;omega);(have aw: ∀W',w7 W'-> ∀b,fK W' b 3 #[.int .i64 K]->s.m.A3.map (·.block)≠some b->Calls aj 177 #[.slice s.m.A3 n3 s.m.c3,.int .i64 pl,.slice (some ⟨b,0,none⟩) 1 1] W' (QN Bq s.m.A3 W' l2):=λW' hb b am bS=>by have:=ano Bq s.m.A3 n3 s.m.c3 s.x.stops pl K b W' ((U.out.grow hb).tr.stops) ai.out (aG a4.out (by decide)) a1.out am bS (U.out.grow hb).hi;rwa [<-hl]at this);unfold QN at aw;rw[<-aE]at aw;have P6:=ah aE;clear hl bf aE H ac ag;go_upto_region 18 with fail;apply gu (jV (ahm s.m.A3)) (λW=>jV.drew _ W) (λ_ _ _ O h2=>O.trans h2) (FW (ahm s.m.A3) 12) (λ_ _ _ h=>h.1) (λ_ _=>kV _ _ _ _) (ahl w7 12) (λ_ _=>aq3 gY 1) (λ_ _ _ _ bR hp ht=>OI bR hp ht);(case lX=>intro u;simp only[bV,aq9,aP,ay,aA,aB,aT,aJ];with_reducible rfl);(case hm=>kernel_rfl);(case hB=>kernel_rfl);(case hA=>kernel_rfl);(case hap=>kernel_rfl);(iterate 10(first|(apply fM.is;·(intro u w' H M d;clear M;simp[fO,aC,gI,Is]at d;refine fC ?_ ?_;(·first|rfl);intro V J;have ar:=(U.out.blk.ji H a5).cell 51;rw[a9]at ar;go_wp2_with(fail);(try simp only[d]at J);exact J _ _ (kV _ _ _ _) rfl))|(apply fM.is;·(intro u w' H M d;clear M;simp[fO,aC,gI,Is]at d;refine fC ?_ ?_;(·first|rfl);intro V J;have bb:=((bi.blk.ji H bw).cell 4).trans ak;go_wp2_with(fail);(try simp only[d]at J);exact J _ _ (kV _ _ _ _) rfl))|(apply fM.is;·(intro u w' H M d;clear M;simp[fO,aC,gI,Is]at d;refine fC ?_ ?_;(·first|rfl);intro V J;skip;go_wp2_with(fail);(try simp only[d]at J);exact J _ _ (kV _ _ _ _) rfl))));apply fM.is;(·(intro u w' H M d;clear M;simp[fO,aC,gI,Is]at d;refine fC ?_ ?_;(·first|rfl);intro V J;have bb:=(Hq (H.block Q a8 bx) vo).trans a6;go_wp2_with(fail);(try simp only[d]at J);exact J _ _ (kV _ _ _ _) rfl));refine fM.one (aiB s.m.A3 K) ?_ ?_;(·(intro u w' H M d;simp only[gQ]at d;have q4:=d ⟨10,.data⟩ (by simp) rfl _ rfl;simp only[gI,Is]at q4;clear d M;refine fC (by first |rfl) ?_;intro V J;go_wp2_with fail;(try simp only[q4]at J);exact J _ _ (Il jm) ⟨w',rfl,fK.new _ _ _,bA _ H.size⟩));refine fM.one (anq Bq w7 s.m.A3 nl l2) ?_ ?_;(·(intro u w' H M d;simp only[gQ]at d;have q5:=d ⟨5,.data⟩ (by simp) rfl _ rfl;have q6:=d ⟨6,.data⟩ (by simp) rfl _ rfl;obtain⟨b,cf,am,bN⟩:=d ⟨11,.data⟩ (by simp) rfl _ rfl;simp only[gI,Is]at q5 q6;have bX:=M rfl;clear d M;refine fC (by first |rfl) ?_;intro V J;go_wp2_with((with_reducible refine(aw _ bX b am bN).mono ?_);rintro e w3⟨A2,c2,rfl,aL,au,az⟩);(try simp only[q5,q6,cf]at J);refine J _ _ ⟨jV.kJ au (λk e=>e),λq=>absurd rfl q⟩ ⟨A2,c2,rfl,aL,λk e=>?_⟩;rcases az with q |q;(·exact .inl (by rw[<-q];exact e));·rw[q]at e;injection e with e;have:=H.size;exact .inr (by omega)));(iterate 3(apply fM.is;·(intro u w' H M d;clear M;simp[fO,aC,gI,Is]at d;refine fC ?_ ?_;(·first|rfl);intro V J;skip;go_wp2_with(fail);(try simp only[d]at J);exact J _ _ (kV _ _ _ _) rfl)));refine fM.last (qm ?_) ?_;(·simp only[gQ];(repeat(refine⟨?_,?_⟩;·first|exact mQ _|exact QT|exact U9));exact trivial);intro u w1 H _ d;simp only[gQ]at d;obtain⟨A2,c2,bB,aL,az⟩:=d 12 _ rfl;have bj:=d 15 _ rfl;simp only[gI,Is]at bj;clear d;refine⟨by first |rfl |simp[aF,yielded],?_⟩;intro V J;have au:w7.grownBy w1 (s.m.A3.map (·.block)):=⟨H.os,H.tape,H.output,H.size,λk O h2=>H.block k O (λe=>h2 e.symm)⟩;have bu:=U.out.blk.ji H a5;refine Ij 22 _ _ rfl g 51 (by rw[<-bj];rfl) (.slice A2 nl c2) (by rw[<-bB];rfl) 87 _ bu (fA (by decide:51<54) (tK _ _ _).symm) (by kernel_rfl) rfl (J _ _ ?_);obtain⟨r1,r2⟩:=U.out.U6 aL au az nl P6.out (by have O:=P6.out;have h2:=bm.out;have h3:=a4.out;omega);go_wp2_with fail;go_meet;exact⟨_,r1,r2,rfl⟩
  |true=>have hl:l2=s.x.stops:=aR.out.trans (akU HT.out.symm);go_wp2_with fail;go_meet;exact⟨s,U.out,iw.of_below gY,by rw[hl];rfl⟩
 case rest=>
  obtain⟨N,hs,Z,ad⟩:=hcut;have bo:=ah ad;have bn:=ah (QO ad rfl HD.out.ol);have bk:=ah (QS ad rfl HD.out.la);have hC:=hs.own;clear ad;go_wp2_with(first|(with_reducible refine qO hC 4 (jf N.x N.m) (oU _ _ _) rfl _ _ rfl rfl _ bg rfl (iF _ _) ?_)|((with_reducible refine(Hl N.x N.m _).mono ?_);rintro e fU⟨rfl,fJ⟩;replace hs:=hs.grow fJ;clear hC;have hC:=hs.own;replace Z:=Z.trans (iw.of_below fJ))|(refine ni 4 (jf (pJ N.x) (Bz N.m)) hC rfl _ _ _ rfl rfl rfl (iF _ _) (QD _ _ _ _ _) (lM _ _) ?_;intro wR kN rW bd;rw[ad9]at kN;obtain⟨ca,vH⟩:=hs.drop kN rW bd;clear kN rW bd;replace Z:=Z.trans vH;have ch:=((bi.turn Z).blk.cell 4).trans ak;have UL:=(Hq (Z.gr.block Q a8 OH) vo).trans a6;have cd:=akR HD.out.tab ca 147 K 2 bn.out bk.out)|((with_reducible refine cd.mono ?_);rintro e w3⟨rfl,hP⟩));go_end0;rw[bE.out];have ep:(N.rQ (pJ N.x) (Bz N.m)).plain=(s.plain.lT l2).rQ (pJ (s.plain.lT l2).x):=by rw[<-bo.out];rfl
  rw[ep]at hP;exact⟨rfl,pY.trans ((iw.of_below (al.trans (Qw.mono al.size))).trans Z) hP⟩
def Va (s:Up):Prop:= ∀x∈s.v,0<=x/\x<=4294967295
theorem aho{v:Int}{s s':Up}(h:zK bs v s=.ok (n,s'))(H:Va s):Va s':=by
 have M:=NW bs v s n s' h;unfold zK at h;split at h;·cases h
 split at h;·cases h
 simp only[Except.ok.injEq,Prod.mk.injEq]at h;obtain⟨K,J⟩:=h;rw[<-J];split;·exact H
 ·intro x d;simp only[dK,dN]at d;rcases d with d |d;·exact H x d
  omega
theorem OJ{f:Up->Except Int Up}(H: ∀s s',f s=.ok s'->Va s->Va s'): ∀(n:Nat) (s s':Up),jg f n s=.ok s'->Va s->Va s'
 |0,s,s',h,d=>by cases h;exact d
 |n+1,s,s',h,d=>by rw[jg]at h;cases J:f s with|error e=>grind|ok K=>rw[J]at h;exact OJ H n _ _ h (H _ _ J d)
theorem Jj{bs:List UInt8}: ∀(q:Pt) (last:Int) (s s':Up),mV (zK bs) q last s=.ok s'->Va s->Va s'
 | .nil,last,s,s',h,H=>by rw[mV]at h;grind
 | .pl v r,last,s,s',h,H=>by rw[mV]at h;cases d:zK bs v s with|error e=>grind|ok J=>rw[d]at h;exact Jj r _ _ _ h (aho (n:=J.1) d H)
 | .grp k l r,last,s,s',h,H=>by rw[mV]at h;cases d:jg (mV (zK bs) l 0) (qC k last) s with|error e=>grind|ok K=>rw[d]at h;exact Jj r _ _ _ h (OJ (λs s' h=>Jj l 0 s s' h) _ _ _ d H)
theorem aeY{at_ e:Nat}{p:Pk}(h:DU bs at_=.ok (p,e)): ∀x∈p.v,0<=x/\x<=4294967295:=by unfold DU at h;cases J:zK (bs.drop (at_ / 8)) 5 ⟨at_ % 8,[],0⟩ with|error e=>grind|ok x=>obtain⟨id,s⟩:=x;rw[J]at h;simp only at h;cases H:lu id with|none=>grind|some q=>rw[H]at h;simp only at h;cases d:mV (zK (bs.drop (at_ / 8))) q 0 {s with v:= []} with|error e=>grind|ok s'=>rw[d]at h;simp only at h;split at h;(·cases h);split at h;(·cases h);simp only[Except.ok.injEq,Prod.mk.injEq]at h;rw[<-h.1];exact Jj q 0 _ _ d (λx K=>by cases K)
theorem Vb: ∀(k at_:Nat) (acc ps:List Pk),xY bs k at_ acc=.ok ps->(∀p∈acc,∀x∈p.v,0<=x/\x<=4294967295)-> ∀p∈ps,∀x∈p.v,0<=x/\x<=4294967295
 |0,at_,acc,ps,h,J=>by rw[xY]at h;grind
 |k+1,at_,acc,ps,h,J=>by
  rw[xY]at h;split at h;·cases H:DU bs at_ with|error e=>grind|ok x=>obtain⟨p,e⟩:=x;rw[H]at h;exact Vb k e _ _ h (λq d=>by simp only[dK,dN]at d;rcases d with d |d;(·grind);·rw[d];exact aeY H)
  grind
theorem Y8: ∀(k at_:Nat) (acc:List Pk) (er:Int),xY bs k at_ acc=.error er->er≠0
 |0,at_,acc,er,h=>by rw[xY]at h;cases h
 |k+1,at_,acc,er,h=>by
  rw[xY]at h;split at h
  ·cases d:DU bs at_ with
   |error e=>rw[d]at h;cases h;exact YJ d
   |ok x=>rw[d]at h;exact Y8 k _ _ _ h
  grind
theorem ahp{er:Int}(h:arN bs=.error er):er≠0:=by
 unfold arN at h;split at h;·grind
 cases d:xY bs bs.length (wM bs).2.1 [] with
 |error e=>rw[d]at h;cases h;exact Y8 _ _ _ _ d
 |ok ps=>grind
theorem ahq(h:arN bs=.ok m):m.v.length=(nG m.id).1.length/\ ∀p∈m.p,∀x∈p.v,0<=x/\x<=4294967295:=by
 unfold arN at h;split at h;·cases h
 cases d:xY bs bs.length (wM bs).2.1 [] with
 |error e=>grind
 |ok ps=>
  rw[d]at h;simp only at h;split at h;·cases h
  split at h;·cases h
  simp only[Except.ok.injEq]at h;rw[<-h];exact⟨Ko _ _ _,Vb _ _ _ _ d (λp d=>by cases d)⟩
theorem ahr:(nG 32).1.length=1/\(nG 16).1.length=1/\(nG 18).1.length=1/\5<=(nG 15).1.length:=by decide
end Go.Proofs.YthnmgjngniciaaaGreatDoor
