/- THE LAW -/
import Derived.Test.YthnmgjngniciaaaGreatDoorM41
import Derived.Test.YthnmgjngniciaaaGreatDoorTie
import Derived.Test.YthnmgjngniciaaaGreatDoorCards
import Derived.Stop.Joined
import Derived.SevenTiedAt
set_option linter.all false
set_option maxHeartbeats 16000000
set_option maxRecDepth 8000
open Bool renaming and_eq_true→bM
open List renaming cons_append→bQ,nil_append→aZ
open Nat renaming le_trans→aG,zero_add→aJ
open Option.some renaming injEq→aO
namespace Go.Proofs.YthnmgjngniciaaaGreatDoor
open Go.RowKit Go.Shelf Go.Proofs.Tryz
open Addr.mk renaming injEq→cZ
open Go.Lib renaming hid→ah
open Region renaming wanted→aF
open Go.Proofs.Tryz renaming prog→aj,underlying27→dB,underlying3→bG,underlying4→dL,underlying44→bg
section
open Go.ChangeShapes Go.WideShapes Go.ChangeAt Go.RowKit Go.Shelf
open Go.ChangeMaps (open_string shut_string)
theorem abf{a b c d e:Bool}(h:(a&&b&&c&&d&&e)=true):a=true/\b=true/\c=true/\d=true/\e=true:=by simp only[bM]at h;exact⟨h.1.1.1.1,h.1.1.1.2,h.1.1.2,h.1.2,h.2⟩
theorem anK(a b c d:Bool):a=false\/(a=true/\b=true)\/(a=true/\b=false/\c=true)\/(a=true/\b=false/\c=false/\d=true)\/(a=true/\b=false/\c=false/\d=false):=by cases a <;> cases b <;> cases c <;> cases d <;> simp
theorem Own.far{w W:World}{L:List Bk}(h:Own w W L){p:Addr}(j:w.heap.size<=p.block)(hn: ∀x,x∈L->x.1≠p.block)(v:Value):Own w (W.setCell p v) L:=⟨h.below.setCell j v,λx d=>⟨(h.blk x d).1,(h.blk x d).2.far (hn x d) v⟩,h.nodup⟩
theorem Np(K:Tp × jl)(s1:Tr × kZ)(v2:Value)(bs:List UInt8)(now:Int)(a1: -9223372036854775808<=now)(a4:now<=9223372036854775807)(at_:Int)(aD: -9223372036854775808<=at_)(aE:at_<=9223372036854775807)(y:UInt8)(w:World)(b0:TpL w K.1 K.2/\K.2.c1<=maxLen/\K.2.c2<=maxLen/\K.2.c3<=maxLen/\K.2.c4<=maxLen)(b1:TrL w s1.1 s1.2)(b2:jG bs v2 w)(hL:laidMetH prog [("lineside/vars.widths",Rows.laid_lineside_vars_widths)] w):Calls prog 3 #[.agg K.2.cells,.agg (jf s1.1 s1.2),v2,.int .i64 now,.int .i64 at_,q8 y] w λe w'=>e= .returned (.bool true)/\Below w.heap.size w w':=by
 obtain⟨t,m⟩:=K;obtain⟨x,j⟩:=s1;obtain⟨A,c,rfl,hB⟩:=b2;have IE:=Vk hL;clear hL;simp only at b0 b1 ⊢;obtain⟨N,_,_,_,au⟩:=b0;have aR:=N.q4;have hc:m.n4<=9223372036854775807:=by unfold maxLen at au;omega
 clear au aR;obtain⟨n,hn⟩:=fD bs.length;rw[<-hn];have d:Own w _ [_,_]:=Own.iY w 27 44 m.cells (jf x j);have ae:=λW (H:Below w.heap.size w W)=>anJ (N.below H) hc x j 1 0 A n c;clear hc;obtain⟨fw,ag⟩:=fD (xB t m&&decide (j.v.n1<=100)&&decide (j.v.n2<=100)&&decide (j.n3<=40)&&decide (n<=2000));rw[<-ag]at ae;obtain⟨g1,Q⟩:=fD (decide (at_<0));obtain⟨g2,aa⟩:=fD (decide (at_>=(n:Int)));obtain⟨g3,ai⟩:=fD (y==0);have a6: ∀t,binOp .eql t (q8 y) (.int .u8 0)=pure (.bool g3):=λt=>by rw[ai];exact aiI t y 0
 have f1:decide (at_<0)=g1:=Q.symm;have f2:decide ((n:Int)<=at_)=g2:=aa.symm;have J:=ah hn;have HH:=ah (And.intro ag (And.intro Q (And.intro aa ai)));have HX:=ah (And.intro N (And.intro b1 hB));clear hn ag Q aa ai N b1 hB aD aE a1 a4;unfold jl.cells at d ae ⊢;rcases anK fw g1 g2 g3 with rfl |⟨rfl,rfl⟩ |⟨rfl,rfl,rfl⟩ |⟨rfl,rfl,rfl,rfl⟩ |⟨rfl,rfl,rfl,rfl⟩;iterate 4(clear HH HX J;go_enter func3,ntmps3;go_wp2_with(first|((with_reducible first|refine gK d ?_ _ rfl rfl _ dB rfl (by kernel_rfl) ?_|refine iQ d ?_ _ rfl rfl _ bg rfl (iF _ j) ?_|refine mJ d ?_ _ rfl rfl _ underlying48 rfl (by kernel_rfl) ?_);(·first|rfl))|((with_reducible refine(Zb _ (IE.below d.below)).mono ?_);rintro e w1⟨rfl,M⟩;replace d:=d.grow M;replace d:=d.alloc 48 #[.int .i64 1,.int .i64 0,.slice A n c] w1.heap.size rfl;simp only[bQ,aZ]at d)|((with_reducible refine(ae _ d.below).mono ?_);rintro e M⟨rfl,Y⟩;replace d:=d.grow Y));go_ret;exact⟨rfl,d.below⟩)
 obtain⟨l,e1,e2,e3⟩:=HH.out;obtain⟨l1,l2,l3,l4,l5⟩:=abf l.symm;simp only[decide_eq_true_eq]at l2 l3 l4 l5;obtain⟨N,ap,hB⟩:=HX.out;have hI:=N.is l1;have hX:=ap.is l2 l3 (aG l4 (by decide));obtain⟨i,rfl⟩: ∃i:Nat,at_=i:=⟨at_.toNat,by have:=of_decide_eq_false e1.symm;omega⟩;have hi:i<n:=by have:=of_decide_eq_false e2.symm;omega
 have hy:y≠0:=by simpa using e3.symm
 have ak:x.stops.length<=60:=by rw[hX.e3];omega
 have af:bs.length<=2000:=by rw[<-J.out];exact l5
 obtain⟨ds,ad⟩:=fD (bs.set i (nth bs i ^^^ y));have ac:n=ds.length:=by rw[ad,List.length_set];exact J.out
 have al:=λW (H:Below w.heap.size w W)=>Zc (hI.below H) (IE.below H) x j (hX.below H) now bs A n c J.out (hB.below H) af ak;have am:=λW (H:Below w.heap.size w W) A2 c2 (h2:aq2 W A2 c2 ds)=>Zc (hI.below H) (IE.below H) x j (hX.below H) now ds A2 n c2 ac h2 (by rw[<-ac];exact l5) ak;have an:=λZ=>Vj (t:=t) (now:=now) (c:=⟨x,j.q,j.nx,[]⟩) i y (by rw[<-J.out];exact hi) hy Z;rw[<-ad]at an;have HT:=ah an;unfold jl.cells at am;have HS:=ah am;have HB:=ah (And.intro hB (And.intro af (And.intro ac ad)));have hs:=λ(W:World) (V:Tr) (U:kZ)=>tX (P:=aj) W 44 fY (jf V U) rfl (lM V U);unfold Ht at al;clear HH HX l l1 l2 l3 l4 l5 e1 e2 e3 N ap hB hI hX hy ak af ad ac am an;clear f1 f2;unfold jl.cells at al;go_enter func3,ntmps3;go_upto_region 7 with(first|((with_reducible first|refine gK d ?_ _ rfl rfl _ dB rfl (by kernel_rfl) ?_|refine iQ d ?_ _ rfl rfl _ bg rfl (iF _ j) ?_|refine mJ d ?_ _ rfl rfl _ underlying48 rfl (by kernel_rfl) ?_);(·first|rfl))|((first|((with_reducible refine(Zb _ (IE.below d.below)).mono ?_);rintro e w1⟨rfl,M⟩;replace d:=d.grow M;replace d:=d.alloc 48 #[.int .i64 1,.int .i64 0,.slice A n c] w1.heap.size rfl)|((with_reducible refine(al _ d.below).mono ?_);rintro e w3⟨V,U,er,M,Y,iG,rfl,p1,p2,aq⟩;replace d:=d.grow aq;replace d:=d.alloc 44 (jf V U) w3.heap.size rfl));simp only[bQ,aZ]at d)|((with_reducible refine(ae _ d.below).mono ?_);rintro e M⟨rfl,Y⟩;replace d:=d.grow Y))
 by_cases Z:er=0
 ·obtain rfl:=Z;have aM:=ah (HT.out (p1 rfl));clear p1 p2 aq HT;have aw:([]:List UInt8).length+bs.length<=140737488355328:=by have:=HB.out.2.1;simp;omega
  have ax:=λz hz=>(d.blk z hz).2.lt;have Xj:=ah (And.intro ax d.below.size);clear ax;go_upto_region 10 with(first|(at_builtin;refine xJ rfl (.const (.slice none 0 0)) (.tmp 62) rfl _ none 0 [] 0 rfl rfl (arn.nil _ _) A c bs n rfl J.out (HB.out.1.below d.below) aw ig ?_;intro A4 c4 W4 O az ar;replace d:=d.grow ar))
  rw[aZ]at O;obtain⟨g,rfl,Q,aa⟩:=O.addr (by rw[<-J.out];omega);obtain⟨b',a7,e,_,av⟩:=O.bytes.at_ (k:=i) (by rw[<-J.out];omega);simp only[aO,cZ,and_true]at e;obtain⟨rfl,rfl⟩:=e;rw[aJ]at av;have aL:=World.ownsRow.frozenAt O i;have jL:=Own.far d (p:=⟨g,i,none⟩) (aG Xj.out.2 Q) (λb hb=>by have:=Xj.out.1 b hb;show b.1≠g;omega) (q8 (nth bs i ^^^ y));have xQ:=(O.stored i (nth bs i ^^^ y)).bytes;rw[<-HB.out.2.2.2]at xQ;generalize nth bs i=b0 at*;clear O Xj ar az aw Q aa;go_upto_region 11 with fail;replace d:=jL;clear jL av aL hi;go_wp2_with(first|((with_reducible refine gK d ?_ _ rfl rfl _ dB rfl (by kernel_rfl) ?_);(·first|rfl))|((with_reducible first|refine iQ d ?_ _ rfl rfl _ bg rfl (iF _ j) ?_|refine mJ d ?_ _ rfl rfl _ underlying48 rfl (by kernel_rfl) ?_);(·first|rfl|(simp[aF,yielded];done)))|((with_reducible refine(HS.out _ d.below _ _ xQ).mono ?_);rintro e M⟨Y,iG,jQ,uK,sK,O4,rfl,NH,Xa,J6⟩;have J7:jQ≠0:=(λVo=>aM.out (NH Vo));obtain rfl:=Xa J7;have a5:(jQ != 0)=true:=(by simpa using J7);clear NH Xa J7;replace d:=d.grow J6));go_ret;exact⟨rfl,(d.grow jm).below⟩
 ·have e0:(er != 0)=true:=by simpa using Z
  clear Z p1 p2 HT HS HB J;go_wp2_with fail;go_ret;exact⟨rfl,d.below⟩
def nU:List (String × DataW Unit):= [("lineside/vars.widths",Rows.laid_lineside_vars_widths)]
theorem Ej(os:Os)(args:Array Value):laidMetH aj nU ((World.doorLaid aj 4000 os).forCall (λ_ _=>0) ⟨#[],args,[]⟩).memory:=laidMetH_of_parts3 (fuel:=8) (laidMet_of_run' 8 (by kernel_rfl) (by kernel_rfl)) (by kernel_rfl) (by kernel_rfl)
set_option maxRecDepth 100000 in
theorem onboardTurned_lifted(os:Os)(an:os.Started)(aa:Type)(enc:TypeId × Value->aa):ReturnsInHanded {} checked os 3 .any (λw args=>(Rows.onboardTurnedSpec.pre enc aj f3 [] false w args/\laidMetH aj nU w)/\sizedMet enc aj f3 (OpenSpec.ofChange Rows.onboardTurnedSpec) false w args) (Rows.onboardTurnedSpec.post enc aj f3 false true false false):=by
 refine returnsInHanded_of_change_and (C:=checked) (X:=λw _=>laidMetH aj nU w) (λ_ _ _ hh h=>h.of_heap hh) own an (by kernel_rfl) func3 (ChangeSpec.witness_shaped (enc:=enc) (C:=checked) (os:=os) (X:=λw _=>laidMetH aj nU w) false (World.doorLaid aj 4000 os) #[.agg #[.slice none 0 0,.slice none 0 0,.slice none 0 0,.slice none 0 0],.agg fY,.slice none 0 0,.int .i64 0,.int .i64 0,.int .u8 0] 8 rfl (World.shaped_of_RefB (by kernel_rfl) (by kernel_rfl)) (by kernel_rfl) (by kernel_rfl) (by kernel_rfl) (Ej os _)) ?_;intro W base args ds gs ap ae U _ _ hL _;have j: ∀(V:Nat) t v,Tryz.f3.params[V]? =some t->args[V]? =some v->Value.okWide aj W .any base t v:=ae;have ad:=U;obtain⟨p,q,ac,hV,rfl,aD,aE⟩:=U;have hA:DataW.TrodAll enc aj W 0 (λ_=>true) true Tryz.f3.params.toList args.toList ds p:=ac;rw[params3]at hA j;obtain⟨v0,aL,d0,aq,p0,q0,az,rfl,rfl,J,r0⟩:=trodAll_cons hA;obtain⟨v1,aM,d1,ar,p1,q1,rfl,rfl,rfl,K,r1⟩:=trodAll_cons r0;obtain⟨H,aR,d2,au,p2,q2,rfl,rfl,rfl,M,r2⟩:=trodAll_cons r1;obtain⟨v3,a1,d3,av,p3,q3,rfl,rfl,rfl,N,r3⟩:=trodAll_cons r2;obtain⟨v4,a6,d4,aw,p4,q4,rfl,rfl,rfl,O,r4⟩:=trodAll_cons r3;obtain⟨v5,a7,d5,ax,p5,q5,rfl,rfl,rfl,Q,r5⟩:=trodAll_cons r4;obtain⟨rfl,rfl,rfl⟩:=trodAll_nil r5;obtain rfl:args= #[v0,v1,H,v3,v4,v5]:=by cases args;simp_all
 obtain⟨rfl,rfl⟩:=trodVars_none hV;have k:=λ{t v d p}(hr:aj.readableRec t=true)(ht:t<aj.types.size)(h:DataW.Trod enc aj W 0 (λ_=>true) true t v d p){V}(b:Below W.heap.size W V)=>Below.trod arG hr ht h b (by obtain⟨m,hm⟩:=h;exact DataW.trod_lt m _ _ _ hm)
 obtain⟨s0,rfl,b0⟩:=abe (j 0 27 v0 rfl rfl) J;obtain⟨s1,rfl,b1⟩:=X5 (j 1 44 v1 rfl rfl) K;obtain⟨s2,b2⟩:=ar1 (j 2 45 H rfl rfl) M;obtain⟨a3,rfl,_,_,w3⟩:=open_int bG (j 3 3 v3 rfl rfl) N;obtain⟨a4,rfl,_,_,w4⟩:=open_int bG (j 4 3 v4 rfl rfl) O;obtain⟨a5,rfl⟩:=ahQ (j 5 5 v5 rfl rfl) Q;refine(Np s0 s1 H s2 a3 (bounds_i64 w3).1 (bounds_i64 w3).2 a4 (bounds_i64 w4).1 (bounds_i64 w4).2 a5 W b0 b1 b2 hL).mono λe W' ⟨he,d⟩=>?_;subst he;exact⟨_,rfl,_,_,_,[],_,[],ad,trodAll_mk1 (shut_bool dL _),(trodAll_cons_mk (k (by kernel_rfl) (of_decide_eq_true (by kernel_rfl)) J d) (trodAll_cons_mk (k (by kernel_rfl) (of_decide_eq_true (by kernel_rfl)) K d) (trodAll_cons_mk (k (by kernel_rfl) (of_decide_eq_true (by kernel_rfl)) M d) (trodAll_cons_mk (k (by kernel_rfl) (of_decide_eq_true (by kernel_rfl)) N d) (trodAll_cons_mk (k (by kernel_rfl) (of_decide_eq_true (by kernel_rfl)) O d) (trodAll_cons_mk (k (by kernel_rfl) (of_decide_eq_true (by kernel_rfl)) Q d) trodAll_mk0)))))),rfl,d.frame _,λh=>by cases h⟩
theorem alh{a b:Bool}(d:a=true)(j:b=true):(a&&b)=true:=by rw[d,j];rfl
set_option maxRecDepth 100000 in
theorem onboardTurned_closed:joinedFacts aj 3 f3 Rows.onboardTurnedSpec Rows.onboardTurnedRow=true:=by
 unfold joinedFacts;repeat'(with_reducible refine alh ?_ ?_)
 all_goals(as_aux_lemma=>kernel_rfl)
theorem Em:Rows.OnboardTurnedSaid:=OpenClaim.holds_of_wide 3 f3 rfl rfl rfl rfl rfl rfl rfl ⟨rfl,rfl,rfl,rfl,rfl⟩ rfl rfl rfl rfl rfl (by kernel_rfl) func3 onboardTurned_closed (of_decide_eq_true (by kernel_rfl)) (by unfold Func.isWrapper;rw[if_neg (of_decide_eq_false (by kernel_rfl))];exact⟨rfl,rfl⟩) (λos j d enc _=>onboardTurned_lifted os j d enc)
theorem onboardTurned_holds:Rows.OnboardTurnedCardSaid:=
  Claim7.holds_tied_plain_at .later [] [.data] true (true, "68c2e46eb419703c32987462948d86b2fde350a0bc80ecb030acb8bc56f72811") true
    Em (λ_ h=>by cases h) (by kernel_rfl) (λ_ h=>by cases h) onboardTurned_row_tie rfl ⟨rfl,rfl⟩ (by kernel_rfl) rfl
    (λf j J K=> by
      obtain rfl:f=3:=Option.some.inj ((show aj.funcNamed Rows.onboardTurnedRow.func=some 3 by kernel_rfl).symm.trans J) |>.symm
      obtain rfl:j=f3:=(Option.some.inj (Tryz.func3.symm.trans K)).symm
      exact ⟨by kernel_rfl, λM t d=> by
        rw[params3]at d
        have hm:t∈ [27,44,45,3,3,5]:=by simpa using Array.mem_of_getElem? d
        have H:([27,44,45,3,3,5].all λu=> !aj.wantsStandIn u)=true:=by kernel_rfl
        exact(show aj.wantsStandIn t=false by simpa using List.all_eq_true.1 H t hm)⟩)
    (by kernel_rfl)
end
end Go.Proofs.YthnmgjngniciaaaGreatDoor
