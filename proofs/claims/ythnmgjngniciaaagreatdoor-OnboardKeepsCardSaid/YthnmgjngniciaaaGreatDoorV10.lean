/- Parts. -/
import Derived.Test.YthnmgjngniciaaaGreatDoorV09
set_option linter.all false
set_option maxHeartbeats 16000000
set_option maxRecDepth 8000
open Array renaming getElem?_eq_some_iff->dM
open Bool renaming false_eq_true->bU
open List renaming cons_append->bQ,getElem?_eq_getElem->aI,getElem?_eq_some_iff->aX,map->bV,mem_cons->bJ,nil_append->aZ,not_mem_nil->dH,setIfInBounds_toArray->ay,set_cons_succ->aB,set_cons_zero->aA
open Nat renaming le_refl->aW,le_trans->aG,lt_of_lt_of_le->aU,reduceAdd->aT,zero_add->aJ,zero_le->aV
namespace Go.Proofs.YthnmgjngniciaaaGreatDoor
open Go renaming Addr->δ,Calls->Γ,Ending->ε,Oper->ο,Operand->κ,Program->χ,TypeId->τ,Value->Θ,World->ω,binOp->γ,bodyPost_ret->β,run_eql_struct->ϑ,run_equalIn_agg->ϐ,setRow_other->ζ,undef->υ,wpList->Δ,wpList_plain->π,wp_store_row->η,yielded->ψ
open Go.RowKit Go.Shelf Tryz
open Act renaming put->aP
open Below renaming heap_setCell->aN,refl->aH
open Go.Lib renaming hid->ah
open Region renaming binds->aC,wanted->aF
open Result renaming andThen_ok->dO
open Tryz renaming prog->aj,underlying27->dB,underlying3->bG,underlying34->bD,underlying4->dL,underlying42->dA,underlying44->bg
variable{P:χ}{m:jl}{W w:ω}
def Ei:Array Θ:= #[.int .i64 100,.int .i64 100,.int .i64 10,.int .i64 2,.int .i64 50,.int .i64 70,.int .i64 20,.int .i64 0,.int .i64 0]
theorem abb(w:ω):Γ aj 51 #[] w λe w'=>e=.returned Ei/\w w':=by have j:Own w _ [_]:=(Own.nil w).alloc 29 Ei _ rfl;unfold Ei at*;go_enter func51,ntmps51;go_wp2_with fail;exact β (results_cell_row results51 _ _ _ _ _ _ _ rfl j.b0 underlying29 rfl (by kernel_rfl)) rfl ⟨rfl,j.below⟩
def Dq:Tr:=⟨5,400,O1,0,5,-1,100,100,false,-1,false,⟨0,50,false⟩,7,40,false,⟨0,false,[],[],0⟩,0,false,[]⟩
def q19:Zx:=⟨1,2,3,4,0,0,0,0,0,0,0,false,0,0⟩
def QX:kZ:=⟨q19,1,⟨none,0,0,none,0,0⟩,none,0,0⟩
def arT (a b c:Int) (d:Bool):Array Θ:= #[.int .i64 5,.int .i64 400,.int .i64 100,.int .i64 100,.int .i64 10,.int .i64 2,.int .i64 50,.int .i64 70,.int .i64 20,.int .i64 0,.int .i64 0,.int .i64 0,.int .i64 5,.int .u32 1,.int .u32 2,.int .u32 3,.int .u32 4,.int .i64 0,.int .u32 0,.int .u32 0,.int .u32 0,.int .u32 0,.int .u32 0,.int .u32 0,.bool false,.int .u32 0,.int .u32 0,.int .u32 1,.int .i64 a,.int .i64 b,.int .i64 c,.bool d,.int .i64 (-1),.bool false,.int .i64 0,.int .i64 50,.bool false,.int .i64 7,.int .i64 40,.bool false,.int .i64 0,.bool false,.slice none 0 0,.slice none 0 0,.int .i64 0,.int .i64 0,.bool false,.slice none 0 0]
def ahM:arT (-1) 100 100 false=jf Dq QX:=rfl
def afe(w:ω):zJ w Dq QX:=⟨⟨fE.nil _ _,fE.nil _ _,rfl,rfl,by decide,by decide,by decide,by decide⟩,fE.nil _ _,rfl,by decide,by decide⟩
theorem zH{ops:Array ο}{rest:List ο}{o:ο}{a:Act}{Q:Exit->Act->ω->Prop}(j:o.guard=none)(t:τ)(parts:Array (Nat × κ))(H:o.op=.build t parts)(cs:Array Θ)(hc:P.built t (parts.map λ(i,x)=>(i,a.eval x)).toList=some cs)(h:Δ P ops Q rest (a.put o.dst cs) W):Δ P ops Q (o::rest) a W:=π j λJ K=>wp_build t parts H (by grind) (by grind)
def anH:Array Θ:= #[.int .i64 0,.int .i64 5,.int .u32 1,.int .u32 2,.int .u32 3,.int .u32 4,.int .i64 0,.int .u32 0,.int .u32 0,.int .u32 0,.int .u32 0,.int .u32 0,.int .u32 0,.bool false,.int .u32 0,.int .u32 0]
def r0:Ei[0]? =some (.int .i64 100):=rfl
def r1:Ei[1]? =some (.int .i64 100):=rfl
def aff:((((arT 0 0 0 false).setIfInBounds 28 (-1:Int)).setIfInBounds 29 (100:Int)).setIfInBounds 30 (100:Int)).setIfInBounds 31 false=arT (-1) 100 100 false:=rfl
def ald(w:ω)(g a b c d:Nat)(x y z v:Θ):w.grownBy ((((w.setCell ⟨g,a,none⟩ x).setCell ⟨g,b,none⟩ y).setCell ⟨g,c,none⟩ z).setCell ⟨g,d,none⟩ v) (some g):=by have one: ∀(w:ω) (i:Nat) (x:Θ),w.grownBy (w.setCell ⟨g,i,none⟩ x) (some g):=λw i x=>⟨rfl,rfl,rfl,by simp,λk _ j=>aN w ⟨g,i,none⟩ x k (λe=>j (by rw[e]))⟩;exact aru (aru (aru (one _ _ _) (one _ _ _)) (one _ _ _)) (one _ _ _)
theorem new_c(h:jE w iE m):Γ aj 13 #[.agg m.cells,.agg Ei,.int .i64 5,.int .i64 400,.agg #[.int .u32 1,.int .u32 2,.int .u32 3,.int .u32 4],.int .i64 7,.bool false,.int .i64 40] w λe w'=>e=.returned (.tuple #[.agg (jf Dq QX),.int .i64 0])/\w w':=by have j:Own w _ [_,_,_,_]:=Own.start4 w 27 29 32 44 m.cells Ei #[.int .u32 1,.int .u32 2,.int .u32 3,.int .u32 4] nR;unfold nR at j;have O:=λW (M:w W)=>yK (h.below M);have aa:=λW (M:w W)=>Vl (h.below M);have U:=λW=>ab6 100 100 W;have N:=λW (M:w W)=>QG (h.below M) Dq QX (afe W);rw[show jr iE=0 by decide +kernel]at O;rw[show wY iE Dq=true by decide +kernel]at N;rw[show Po 100 100= #[.int .i64 (-1),.int .i64 100,.int .i64 100,.bool false] from rfl,show Pq 100 100=0 from rfl]at U;rw[<-ahM]at N |-;unfold Vt at*;go_enter func13,ntmps13;have z0:=r0;have z1:=r1;have ac:(arT 0 0 0 false)[28]? =some (.int .i64 0):=rfl;have ad:(arT 0 0 0 false)[29]? =some (.int .i64 0):=rfl;have ae:(arT 0 0 0 false)[30]? =some (.int .i64 0):=rfl;have af:(arT 0 0 0 false)[31]? =some (.bool false):=rfl;go_wp2_with(first|((with_reducible refine(O _ j.below).mono ?_);rintro e K⟨rfl,H⟩;replace j:=j.grow H)|((with_reducible refine(aa _ j.below).mono ?_);rintro e K⟨rfl,H⟩;replace j:=j.grow H;replace j:=Own.alC j 38 #[.int .i64 0,.int .i64 50,.bool false];have Z:=j.alloc 44 gL (K.heap.size+1) (by simp);simp only[bQ,aZ]at Z)|((with_reducible first|refine gK j ?_ _ rfl rfl _ dB rfl (by kernel_rfl) ?_|refine VP J ?_ _ rfl rfl _ bg rfl (by kernel_rfl) ?_);(.first|rfl|(simp[aF,ψ];done)))|((with_reducible first|refine iQ j ?_ _ rfl rfl _ underlying29 rfl (by kernel_rfl) ?_|refine mJ j ?_ _ rfl rfl _ underlying32 rfl (by kernel_rfl) ?_|refine VO j ?_ _ rfl rfl _ underlying38 rfl (by kernel_rfl) ?_|refine gK J ?_ _ rfl rfl _ dB rfl (by kernel_rfl) ?_);rfl)|(with_reducible refine zH rfl 34 _ rfl anH (by kernel_rfl) ?_)|(with_reducible refine zH rfl 44 _ rfl (arT 0 0 0 false) (by kernel_rfl) ?_)|((with_reducible refine abv (arT 0 0 0 false) Z rfl _ _ rfl rfl rfl (by kernel_rfl) rfl (by kernel_rfl) ?_);intro K H V Y;replace j:=H;have uK:=j.b1.cell)|((with_reducible refine(U _).mono ?_);rintro e K⟨rfl,H⟩;replace j:=j.grow H;have V:=j.b5.cell;have Y:=j.b5.frozen 28;have uK:=j.b5.frozen 29;have sK:=j.b5.frozen 30;have O4:=j.b5.frozen 31;have J:=Own.change (L1:= [_,_,_,_,_]) j (ald K _ 28 29 30 31 (.int .i64 (-1)) (.int .i64 100) (.int .i64 100) (.bool false)) ((((j.b5.iV 28 _).iV 29 _).iV 30 _).iV 31 _);rw[aff]at J;simp only[bQ,aZ]at J)|(go_at_call 18;(with_reducible refine(N _ J.below).mono ?_);rintro e K⟨rfl,H⟩;replace J:=J.grow H)|((with_reducible refine EC (arT (-1) 100 100 false) J rfl _ _ rfl rfl rfl (by kernel_rfl) rfl (by kernel_rfl) ?_);intro K H V Y;replace J:=H;clear H));exact β (gU results13 _ _ _ _ _ _ rfl rfl J.b3 bg rfl (by rfl)) rfl ⟨rfl,J.below⟩
def uD (v:DF):kZ:=⟨q19,1,v,none,0,0⟩
def Y9(v:DF):(arh (jf Dq QX) 40 #[.int .i64 7,.bool false,.slice v.A1 v.n1 v.c1,.slice v.A2 v.n2 v.c2,.int .i64 0].toList).size=48:=rfl
theorem ahN(w:ω):Γ aj 19 #[] w λe w'=> ∃v,e=.returned (.tuple #[.agg (jf iH (uD v)),.int .i64 0])/\zJ w' iH (uD v)/\w w':=by
 have K:Own w _ [_]:=(Own.nil w).alloc 44 gL _ rfl;have aq:=λW=>ae9 W;unfold jl.cells at aq;go_enter func19,ntmps19;go_wp2_with(first|((with_reducible refine(aq _).mono ?_);rintro e w1⟨m,rfl,hT,O⟩;replace K:=K.grow O;replace K:=K.alloc 27 #[.slice m.A1 m.n1 m.c1,.slice m.A2 m.n2 m.c2,.slice m.A3 m.n3 m.c3,.slice m.A4 m.n4 m.c4] w1 rfl;simp only[bQ,aZ]at K;replace hT:=hT.below ((gY.alloc ig (.cells #[.slice m.A1 m.n1 m.c1,.slice m.A2 m.n2 m.c2,.slice m.A3 m.n3 m.c3,.slice m.A4 m.n4 m.c4] 27)))));generalize a4:(w1.alloc (.cells #[.slice m.A1 m.n1 m.c1,.slice m.A2 m.n2 m.c2,.slice m.A3 m.n3 m.c3,.slice m.A4 m.n4 m.c4] 27))=Y at*;have aM:=λW (hW:Y W)=>new_c (hT.below hW);unfold jl.cells at*;apply gu (Below Y) (λW=>aq3 gY 1) (λ_ _ _ h1 h2=>h1.trans h2) (vN Y 8) (λ_ _ _ h=>h.1) (λ_ _=>iR _ _ _ _) (λ_ _=>True) (λ_=>trivial) (λ_ _ _ _ _ _ _=>trivial);case lX=>intro u;simp only[bV,aq9,aP,ay,aA,aB,aT,aJ];with_reducible rfl
 case hm=>kernel_rfl
 case hB=>kernel_rfl
 case hA=>kernel_rfl
 case hap=>kernel_rfl
 repeat(first
    |(apply fM.is
      ·
        (intro u w' M au J
         simp[fO,aC,gI,Is]at J
         refine fC ?_ ?_
         ·
           first
           |rfl
         intro af U
         have ax:=K.grow M;have a1:=ax.b1.cell
         go_wp2_with ((first |((with_reducible refine(abb _).mono ?_);rintro e w3⟨rfl,an⟩) |((with_reducible refine(aM _ M).mono ?_);rintro e w3⟨rfl,an⟩)))
         try simp only[J]at U
         refine U _ _ ?_ rfl
         first |exact iR _ _ _ _ |exact kM M.size an (by decide)))
    |(refine fM.one (pV Y 44 (#[.int .i64 0, .int .i64 0, .int .i64 0, .int .i64 0, .int .i64 0, .int .i64 0, .int .i64 0, .int .i64 0, .int .i64 0, .int .i64 0, .int .i64 0, .int .i64 0, .int .i64 0, .int .u32 0, .int .u32 0, .int .u32 0, .int .u32 0, .int .i64 0, .int .u32 0, .int .u32 0, .int .u32 0, .int .u32 0, .int .u32 0, .int .u32 0, .bool false, .int .u32 0, .int .u32 0, .int .u32 0, .int .i64 0, .int .i64 0, .int .i64 0, .bool false, .int .i64 0, .bool false, .int .i64 0, .int .i64 0, .bool false, .int .i64 0, .int .i64 0, .bool false, .int .i64 0, .bool false, .slice none 0 0, .slice none 0 0, .int .i64 0, .int .i64 0, .bool false, .slice none 0 0] : Array Θ).size) ?_ ?_
      ·
        (intro u w' M au J
         refine fC ?_ ?_
         ·
           first
           |rfl
         intro af U
         go_wp2_with fail
         exact U _ _ (kM M.size jm (by decide)) ⟨w',_,rfl,M.size,fK.new w' 44 (gL:Array Θ),rfl⟩))
    |(refine fM.word (CU Y 7 44 (jf Dq QX)) ?_ ?_
      ·
        (intro u w' M au J
         simp[fO,aC,gI,Is]at J
         obtain⟨⟨g,cs,ar,hg,Z,av⟩,hx⟩:=J
         refine jF ?_ ?_
         ·
           first
           |rfl
         intro af U
         have jL: ∀k,k≠g->(w'.setRow g (jf Dq QX)).heap[k]? =w'.heap[k]? :=λk M=>ζ w' g k _ M
         exact η 44 _ _ rfl g (jf Dq QX) (by first | exact ar ) (by first | exact hx.1 ) 44 cs Z (by kernel_rfl) av (by first | exact lM _ _) (U υ _
           ⟨jk gY hg _,λh=>absurd rfl h,λ_=> .inr ⟨g,_,cs,(jf Dq QX),Z,Z.row _,av.symm,by simp,jL⟩⟩
           ⟨g,by rw[jH u υ (by decide)];exact ar,hg,Z.row _⟩))))
 refine fM.last (qh ?_) ?_
 .simp only[gQ];repeat(refine⟨?_,?_⟩;.first|exact mM _|exact qH|exact pz (λi hf e=>hf _ rfl ⟨7,.data⟩ (by simp) rfl e.symm))
  exact trivial
 intro u w2 ak _ J;simp only[gQ]at J;refine⟨rfl,?_⟩;intro af U;obtain⟨gx,aw,aL,Z⟩:=J 8 _ rfl;have al:=J 6 _ rfl;simp only[gI,Is]at al;have ag:=(K.grow ak).add Z (aG K.below.size aL) (λx hx=>by have:=(K.blk x hx).2.lt;omega);simp only[bQ,aZ]at ag;have az:=hT.below ak;simp only[al,aw];clear al aw ak;have aa:=ag.alloc 122 gw w2 rfl;simp only[bQ,aZ]at aa;have aD:=az.below (gY.alloc ig (.cells gw 122));have ap:=ahK aD aa.b3;simp only[jl.cells,nO,abG]at ap;have aR:=ag.b1.cell;go_wp2_with(first|((with_reducible refine ap.mono ?_);rintro e O⟨v,rfl,j,H,ac,ad,N⟩;have HN:=ah (And.intro ac ad);clear ac ad;replace aa:=aa.grow N;have lW:=aa.alloc 42 #[.int .i64 7,.bool false,.slice v.A1 v.n1 v.c1,.slice v.A2 v.n2 v.c2,.int .i64 0] O rfl;simp only[bQ,aZ]at lW;replace j:=j.alloc (.cells #[.int .i64 7,.bool false,.slice v.A1 v.n1 v.c1,.slice v.A2 v.n2 v.c2,.int .i64 0] 42);replace H:=H.alloc (.cells #[.int .i64 7,.bool false,.slice v.A1 v.n1 v.c1,.slice v.A2 v.n2 v.c2,.int .i64 0] 42);have V:=lW.b4.cell)|((with_reducible refine abt 40 #[.int .i64 7,.bool false,.slice v.A1 v.n1 v.c1,.slice v.A2 v.n2 v.c2,.int .i64 0] lW rfl _ _ _ rfl rfl rfl (by kernel_rfl) (by simp[lg]) (by kernel_rfl) ?_);intro O kN N V;replace j:=j.keep V (lV lW.b2 (by decide));replace H:=H.keep V (lV lW.b2 (by decide)))|((with_reducible refine Nu 45 (.int .i64 3) kN rfl _ _ _ rfl rfl rfl (by kernel_rfl) (by rw[Y9];decide) rfl ?_);intro O ai N V;replace j:=j.keep V (lV kN.b2 (by decide));replace H:=H.keep V (lV kN.b2 (by decide)))|((with_reducible refine Nu 46 (.bool true) ai rfl _ _ _ rfl rfl rfl (by kernel_rfl) (by rw[Array.size_setIfInBounds,Y9];decide) rfl ?_);intro O N V jQ;replace j:=j.keep jQ (lV ai.b2 (by decide));replace H:=H.keep jQ (lV ai.b2 (by decide));have ae:Own w O [_,_,(gx,44,jf iH (uD v)),_,_]:=N)|((with_reducible refine mJ ae ?_ _ rfl rfl _ bg rfl (iF _ _) ?_);(.first|rfl))|((with_reducible refine oG (jf iH (uD v)) ae rfl _ _ rfl rfl rfl (iF _ _) rfl (lM _ _) ?_);intro wV am O N;replace j:=j.keep N (lV ae.b0 (by decide));replace H:=H.keep N (lV ae.b0 (by decide))));obtain⟨ac,ad⟩:=HN.out;have aE:zJ wV iH (uD v):=⟨⟨j.rows,H.rows,ac.symm,ad.symm,by show v.n1<=100;omega,by show v.n2<=100;omega,by show v.n1<=v.c1;rw[ac];exact j.cap.1,by show v.n2<=v.c2;rw[ad];exact H.cap.1⟩,fE.nil _ _,rfl,by simp[uD],by simp[uD]⟩;exact β (gU results19 _ _ _ _ _ _ rfl rfl am.b0 bg rfl (iF _ _)) rfl ⟨v,rfl,aE,am.below⟩
def xC (t:Tp) (x:Tr) (n now:Int):Int:=if wY t x=false\/jK now=false then 1 else rC t x n now
def FY (w:ω) (t:Tp) (x:Tr) (n now:Int) (e:ε) (w':ω):Prop:= ∃cs A c,e=.returned (.tuple #[.agg cs,.slice A 0 c,.int .i64 (xC t x n now)])/\w w'/\(xC t x n now≠0->cs=nR)/\(xC t x n now=0-> ∃xn,cs=jf (qF t x n now) xn/\zJ w' (qF t x n now) xn)
def LG(w:ω):aq2 w none 0 []:=⟨λh=>absurd h (by decide),aW _,aV _⟩
def LH{t:Tp}(h:jE w t m)(hT:Tab w)(x:Tr)(J:kZ)(hx:zJ w x J)(n now:Int)(aa:x.stops.length<=60):Γ aj 9 #[m.cells,jf x J,.agg #[(4:Int),n,nS],now] w (FY w t x n now):=by
 refine(QV h hT x J hx 4 n now [] none 0 0 rfl (LG w) (by decide) aa).mono λe w' ⟨h1,O,U⟩=>?_;have hF:yB t now ⟨x,J.q,J.nx,[]⟩ 4 n []=asi t now ⟨x,J.q,J.nx,[]⟩ n:=by simp[yB]
 rw[hF]at O U;by_cases j:Ee t x 4 now
 .have H:xC t x n now=1:=by unfold xC;rcases j with j |j |j;omega;omega;.exact Υ j
  obtain⟨M,N⟩:=h1 j;refine⟨nR,none,0,by rw[H];exact M,N,λ_=>rfl,λh=>?_⟩;rw[H]at h;exact absurd h (by decide)
 .have H:xC t x n now=rC t x n now:=by unfold xC;exact Ξ λq=>j (.inr (.inr q))
  by_cases K:rC t x n now=0;.obtain⟨s,Bq,g,Y,V,M⟩:=U j K;have Z:s.x=qF t x n now:=ξ Cp.x V;have ho:s.out= []:=ξ Cp.out V;refine⟨jf s.x s.m,s.Ao,s.co,?_,Y.below,λh=>absurd (H.trans K) h,λ_=>⟨s.m,by rw[Z],Z▸Y.tr.is⟩⟩;rw[M,ho,H,K];rfl
  .obtain⟨M,N⟩:=O j K;exact⟨nR,none,0,by rw[H];exact M,N,λ_=>rfl,λh=>absurd (H.symm.trans h) K⟩
def Vp:(yB iE 32 ⟨iH,q19,1,[]⟩ 0 0 []).2=0/\(yB iE 32 ⟨iH,q19,1,[]⟩ 0 0 []).1.out.length=1:=by decide
def abd:(yB iE 32 ⟨iH,q19,1,[]⟩ 0 0 []).1.x=iH:=by rfl
def ale: ¬Ee iE iH 0 32:=by
 unfold Ee;have j:wY iE iH=true:=by decide +kernel
 rw[j];decide
def ahO{v:DF}(h:jE w iE m)(K:Tab w)(U:zJ w iH (uD v)):Γ aj 9 #[m.cells,jf iH (uD v),.agg #[zI,zI,nS],(32:Int)] w λe w'=> ∃H A c,e=.returned (.tuple #[jf iH H,.slice A 1 c,zI])/\w w':=by refine(QV h K iH (uD v) U 0 0 32 [] none 0 0 rfl (LG w) (by decide) (by decide)).mono λe w' ⟨_,_,J⟩=>?_;obtain⟨s,Bq,g,O,j,M⟩:=J ale Vp.1;have V:s.x=iH:=(ξ Cp.x j).trans abd;have N:s.out.length=1:=(ξ (λc=>c.out.length) j).trans Vp.2;refine⟨s.m,s.Ao,s.co,?_,O.below⟩;rw[M,N,V]
theorem X3(W:ω)(old cs:Array Θ)(t:τ):(W.alloc (.cells old t)).setRow W cs=W.alloc (.cells cs t):=by
 unfold World.alloc World.setRow;simp only;congr 1;apply Array.ext;.simp
 .grind
theorem tX(W:ω)(t:τ)(old cells:Array Θ)(H:old.size=cells.size)(j:cells.all (·.oneCell')=true):(storeCells ⟨W,0,none⟩ cells.toList).run P (W.alloc (.cells old t))=.ok () (W.alloc (.cells cells t)):=by have:=run_storeCells_from (P:=P) W t cells.toList 0 old (W.alloc (.cells old t)) (heap_alloc_new W _) (by grind) (λv J=>(Array.all_eq_true_iff_forall_mem.1 j) v (by grind));rw[this];simp[X3]
theorem anI(W:ω):(γ .eql 38 (.agg #[(1:Int),(200:Int),false]) (.agg #[(1:Int),(200:Int),false])).run aj W=.ok true W:=by
 have M:=bG;have a3:=isAgg3;have O:=sizeOf3;have N:=dL;have K:=isAgg4;have U:=sizeOf4;have H:aj.underlying 38=some (.struct (aj.fieldsOf 38)):=by kernel_rfl
 have J:aj.stoodInHeld 38=false:=by kernel_rfl
 rw[ϑ,show(10000:Nat)=9999+1 from rfl];have j:=ϐ (P:=aj) W 9999 38 #[(1:Int),(200:Int),false] #[(1:Int),(200:Int),false] H J;simp only[Program.fieldsOf,underlying38]at j;rw[j];go_simp
def y19:Tr:=qF iE iH 250 32
def alf:y19.pos.edge=1/\y19.pos.at_=200/\y19.pos.rev=false/\y19.ref=8/\y19.past=180/\wY iE y19=true:=by decide +kernel
def afg:xC iE iH 250 32=0:=by decide +kernel
def afh:xC iE iH 251 32=141:=by decide +kernel
def alg:xC iE iH 1 33=141:=by decide +kernel
def afi:jR iE iH=some 40:=by decide +kernel
def Za:Ju (Jv iE iH 32)=250/\(Jv iE iH 32).length<=1000:=by decide +kernel
theorem Zb(w:ω)(IE:Tab w):Γ aj 7 #[] w λe w'=>e=.returned (.bool true)/\w w':=by have Rj:=ah IE;clear IE;obtain⟨y,hy,ac,ad,ae,af,ag,ak⟩: ∃y:Tr,qF iE iH 250 32=y/\y.pos.edge=1/\y.pos.at_=200/\y.pos.rev=false/\y.ref=8/\y.past=180/\wY iE y=true:=⟨y19,rfl,alf⟩;have aq:=λ(W:ω) (aa:kZ)=>tX (P:=aj) W 44 gL (jf iH aa) rfl (lM _ _);have ar:=λ(W:ω) (aa:kZ)=>tX (P:=aj) W 44 gL (jf y aa) rfl (lM _ _);have au:=λ(W:ω)=>tX (P:=aj) W 44 gL nR rfl (by kernel_rfl);have ai:=λW=>ae9 W;have ap:=λW=>anI W;unfold jl.cells at ai;go_enter func7,ntmps7;go_wp2_with(first|(go_at_call 19;(with_reducible refine(ahN _).mono ?_);rintro e J⟨v,rfl,K,j⟩;have H:=(Own.nil w).grow j;replace H:=H.alloc 44 (jf iH (uD v)) J rfl;simp only[aZ]at H;replace K:=K.below (gY.alloc ig (.cells (jf iH (uD v)) 44)))|(go_at_call 20;(with_reducible refine(ai _).mono ?_);rintro e J⟨j,rfl,M,N⟩;replace H:=H.grow N;replace K:=K.below N;replace H:=H.alloc 27 #[.slice j.A1 j.n1 j.c1,.slice j.A2 j.n2 j.c2,.slice j.A3 j.n3 j.c3,.slice j.A4 j.n4 j.c4] J rfl;simp only[bQ,aZ]at H;replace K:=K.below ((aH J J).alloc ig (.cells #[.slice j.A1 j.n1 j.c1,.slice j.A2 j.n2 j.c2,.slice j.A3 j.n3 j.c3,.slice j.A4 j.n4 j.c4] 27));replace M:=M.below ((aH J J).alloc ig (.cells #[.slice j.A1 j.n1 j.c1,.slice j.A2 j.n2 j.c2,.slice j.A3 j.n3 j.c3,.slice j.A4 j.n4 j.c4] 27));have jQ:=H.b1.cell)|((with_reducible refine gK H ?_ _ rfl rfl _ bg rfl (iF _ _) ?_);(.first|rfl|(simp[aF,ψ];done)))|((with_reducible refine mJ H ?_ _ rfl rfl _ bg rfl (iF _ _) ?_);rfl)|(go_at_call 9;(have J:=LH M (Rj.out.below H.below) iH (uD v) K 250 32 (by decide));(unfold FY jl.cells at J);(rw[afg,hy]at J);(with_reducible refine J.mono ?_);clear J;rintro e j⟨N,jQ,uK,rfl,O,Y,Z⟩;obtain⟨U,rfl,V⟩:=Z rfl;clear Y Z;replace H:=H.grow O;replace K:=K.below O;replace M:=M.below O;replace H:=H.alloc 44 (jf y U) j rfl;simp only[bQ,aZ]at H;replace K:=K.below ((aH j j).alloc ig (.cells (jf y U) 44));replace M:=M.below ((aH j j).alloc ig (.cells (jf y U) 44));have Xa:=H.b1.cell;replace V:=V.below ((aH j j).alloc ig (.cells (jf y U) 44)))|((first|(go_at_call 9;(have J:=LH M (Rj.out.below H.below) iH (uD v) K 251 32 (by decide));(unfold FY jl.cells at J);(rw[afh]at J);(with_reducible refine J.mono ?_))|(go_at_call 9;(have J:=LH M (Rj.out.below H.below) iH (uD v) K 1 33 (by decide));(unfold FY jl.cells at J);(rw[alg]at J);(with_reducible refine J.mono ?_)));clear J;rintro e j⟨N,jQ,uK,rfl,O,Y,Z⟩;obtain rfl:=Y (by decide);clear Y Z;replace H:=H.grow O;replace K:=K.below O;replace M:=M.below O;replace H:=H.alloc 44 (nR) j rfl;simp only[bQ,aZ]at H;replace K:=K.below ((aH j j).alloc ig (.cells (nR) 44));replace M:=M.below ((aH j j).alloc ig (.cells (nR) 44));have Xa:=H.b1.cell;replace V:=(V.below O).below ((aH j j).alloc ig (.cells nR 44)))|(go_at_call 9;(have J:=ahO M (Rj.out.below H.below) K);(unfold jl.cells at J);(with_reducible refine J.mono ?_);clear J;rintro e j⟨N,jQ,uK,rfl,O⟩;replace H:=H.grow O;replace K:=K.below O;replace M:=M.below O;replace H:=H.alloc 44 (jf iH N) j rfl;simp only[bQ,aZ]at H;replace K:=K.below ((aH j j).alloc ig (.cells (jf iH N) 44));replace M:=M.below ((aH j j).alloc ig (.cells (jf iH N) 44));have Y:=H.b1.cell;replace V:=(V.below O).below ((aH j j).alloc ig (.cells (jf iH N) 44)))|(go_at_call 14;(have J:=Bj M iH (uD v) K);(unfold jl.cells rE at J);(rw[afi]at J);(with_reducible refine J.mono ?_);clear J;rintro e j⟨rfl,N⟩;replace H:=H.grow N;replace K:=K.below N;replace M:=M.below N;replace V:=V.below N;have jQ:=H.b1.cell;have uK:=H.b2.cell;have O:=aiZ y U;have Y:=afL y U;have Z:=afM y U;have Xa:=afN y U;have J6:=afO y U;rw[ac]at O;rw[ad]at Y;rw[ae]at Z;rw[af]at Xa;rw[ag]at J6;clear ac ad ae af ag;obtain⟨_,J7⟩:=dM.1 O;obtain⟨_,Vo⟩:=dM.1 Y;obtain⟨_,al⟩:=dM.1 Z;obtain⟨_,an⟩:=dM.1 Xa;obtain⟨_,am⟩:=dM.1 J6)|(go_at_call 18;(have J:=QG M y U V);(unfold jl.cells at J);(rw[ak]at J);(with_reducible refine J.mono ?_);clear J;rintro e j⟨rfl,N⟩;replace H:=H.grow N;replace K:=K.below N;replace M:=M.below N;have jQ:=H.b1.cell)|(go_at_call 15;(have J:=akN M iH (uD v) K 32);(unfold jl.cells at J);(with_reducible refine J.mono ?_);clear J;rintro e j⟨N,c9,rfl,TN,jQ⟩;replace H:=H.grow jQ)|(go_at_call 21;(have J:=ag8 _ _ c9 _ _ TN rfl Za.2);(rw[Za.1]at J);(with_reducible refine J.mono ?_);clear J;rintro e j⟨rfl,N⟩;replace H:=H.grow N));go_ret;exact⟨rfl,H.below⟩
def atq (w:ω) (A:Option δ) (bss:List (List UInt8)):Prop:= ∀j p,bss[j]? =some p-> ∃b off Ax cx,A=some ⟨b,off,none⟩/\b<w.heap.size/\w.cell? ⟨b,off+j,none⟩=some (.slice Ax p.length cx)/\aq2 w Ax cx p
def atq.grow{w':ω}{A:Option δ}{H:List (List UInt8)}(h:atq w A H)(j:w w'):atq w' A H:=λO p N=>by obtain⟨b,off,K,M,e,J,hc,hB⟩:=h O p N;exact⟨b,off,K,M,e,aU J j.size,(j.cell J).trans hc,hB.below j⟩
def UA.parts{Bq g:Nat}{s:Cs}(h:UA W Bq g s):atq W s.Ao s.out:=λj p H=>by obtain⟨xs,O,Z,hi⟩:=h.row;have Y:j<s.out.length:=(aX.1 H).1;have J:xs[j]? =some (xs[j]'(by omega)):=aI _;obtain⟨b,off,e,N,hc⟩:=O.rows.get J;have M:=(hi j _ p J H).1;obtain⟨U,V,e2,hB,_⟩:=M;have K:=hc 0 _ rfl;refine⟨b,off,_,_,e,N,?_,hB⟩;rw[<-e2];simpa[Ox] using K
theorem atm(j:List (List UInt8))(A1 A2:Option δ)(q c1 c2:Nat)(w:ω)(hn:j.length=q)(O:atq w A1 j)(U:atq w A2 j)(hq:q<=9223372036854775807):Γ aj 11 #[.slice A1 q c1,.slice A2 q c2] w λe w'=>e=.returned (.bool true)/\w w':=by
 have Z:=ah hn;clear hn;go_enter func11,ntmps11;go_wp2_with fail;go_loopw [5] (λi wr=> ∃k:Nat,k<=q/\i=.int .i64 k/\w wr) (λi _=>q-(intOf i).toNat);case atStart=>exact⟨0,aV _,rfl,aH _ _⟩
 case round=>
  obtain⟨k,hk,rfl,H⟩:=hrel;by_cases ai:k<q;.obtain⟨p,J⟩: ∃p,j[k]? =some p:=⟨_,aI (by have:=Z.out;omega)⟩;obtain⟨bp,op,Ap,cp,rfl,af,ag,N⟩:=(O.grow H) k p J;obtain⟨ae,am,Y,aa,rfl,ac,ad,M⟩:=(U.grow H) k p J;obtain⟨V,K⟩:=fD (arZ p);(have ak: ∀n,(convert 45 9 (.slice Ap p.length cp)).run aj (wr.drewN n)=.ok (.string V) (wr.drewN n):=λn=>by rw[K];exact xZ (N.below (aq3 gY n)));(have al: ∀n,(convert 45 9 (.slice Y p.length aa)).run aj (wr.drewN n)=.ok (.string V) (wr.drewN n):=λn=>by rw[K];exact xZ (M.below (aq3 gY n)));clear K J N M O U;generalize p.length=pb at*;go_wp2_with fail;go_quiet(fail);go_wp2_with fail;go_roundw;(case rel=>exact⟨k+1,by omega,by go_num,aq3 H _⟩);case measure=>simp[intOf];omega
  ·(obtain rfl:k=q:=by omega);go_wp2_with fail;go_ret;exact⟨rfl,H⟩
theorem ate(A:Option δ)(n c:Nat)(a:List St)(B:Option δ)(c2:Nat)(w:ω)(ha:fE gV w A a)(hn:a.length=n)(hb:fE gV w B a)(hl:n<=1000):Γ aj 71 #[.slice A n c,.slice B n c2] w λe w'=>e=.returned (.bool true)/\w w':=by
 have Z:=ah hn;clear hn;have f0:((n:Int) != (n:Int))=false:=by simp
 go_enter func71,ntmps71;go_wp2;clear f0;go_loopw [5] (λi wr=> ∃k:Nat,i=.int .i64 k/\k<=n/\w wr) (λi _=>n-(intOf i).toNat);case atStart=>exact⟨0,rfl,aV _,aH _ _⟩
 case round=>
  obtain⟨k,rfl,J,K⟩:=hrel;by_cases V:k<n;·(have ac:decide ((k:Int)<(n:Int))=true:=by simpa using V);obtain⟨x,M⟩:=aq5 Z.out V;obtain⟨g,off,rfl,O,a0⟩:=ha.get M;obtain⟨N,Y,rfl,U,b0⟩:=hb.get M;have Rh:=λW (j:w W)=>(j.cell (p:=⟨g,off+k*2,none⟩) O).trans (a0 0 _ rfl);have ae:=λW (j:w W)=>(j.cell (p:=⟨g,off+k*2+1,none⟩) O).trans (a0 1 _ rfl);have af:=λW (j:w W)=>(j.cell (p:=⟨N,Y+k*2,none⟩) U).trans (b0 0 _ rfl);have ag:=λW (j:w W)=>(j.cell (p:=⟨N,Y+k*2+1,none⟩) U).trans (b0 1 _ rfl);(have ad: ∀W,(γ .neq 58 (qB x) (qB x)).run aj W=.ok (.bool false) W:=λW=>by have:=JF x x W;simpa using this);obtain⟨x1,x2⟩:=x;simp only[qB]at ad;clear M a0 b0;go_wp2_with fail;refine ara (by kernel_rfl) ?_;(repeat(first|(apply gX.want rfl;(.intro w' J ai Q' hK;have H:=gZ K J;have m0:=Rh _ H;have m1:=ae _ H;have m3:=af _ H;have m4:=ag _ H;go_wp2_with(fail);first|exact aH _ _|exact hb3);(.simp only[aP,ay,aA,aB];rfl))|(apply gX.skip rfl;.simp only[aP,ay,aA,aB];rfl)));refine gX.nil ?_;intro w' J;have aa:=gZ K J;go_wp2_with fail;go_roundw;(case rel=>exact⟨k+1,by go_num,by omega,aa⟩);case measure=>simp[intOf];omega
  ·(obtain rfl:k=n:=by omega);(have ac:decide ((k:Int)<(k:Int))=false:=by simp);go_wp2_with fail;go_ret;exact⟨rfl,K⟩
theorem as3(a:Sc)(W:ω):(γ .eql 60 (.agg #[.int .i64 a.kL,.int .i64 a.timer]) (.agg #[.int .i64 a.kL,.int .i64 a.timer])).run aj W=.ok (.bool true) W:=by
 have K:=bG;have a3:=isAgg3;have M:=sizeOf3;have H:aj.underlying 60=some (.struct (aj.fieldsOf 60)):=by kernel_rfl
 have J:aj.stoodInHeld 60=false:=by kernel_rfl
 rw[ϑ,show(10000:Nat)=9999+1 from rfl];have j:=ϐ (P:=aj) W 9999 60 #[.int .i64 a.kL,.int .i64 a.timer] #[.int .i64 a.kL,.int .i64 a.timer] H J;simp only[Program.fieldsOf,underlying60]at j;rw[j];go_simp
def as4(a:Sc)(W:ω):(γ .neq 60 (.agg #[.int .i64 a.kL,.int .i64 a.timer]) (.agg #[.int .i64 a.kL,.int .i64 a.timer])).run aj W=.ok (.bool false) W:=by
 have h:=as3 a W;simp only[γ,Op.equal]at h |-;simp at h |-;cases j:(Op.equalIn Op.maxDepth 60 (.agg #[.int .i64 a.kL,.int .i64 a.timer]) (.agg #[.int .i64 a.kL,.int .i64 a.timer])).run aj W with
 |ok v W'=>rw[j]at h;simp at h;obtain⟨H,J⟩:=h;subst J;simp[H]
 |halt e W'=>rw[j]at h;simp at h
theorem ata(a:Ma)(v1 v2:DF)(w:ω)(H:EK w a v1)(N:EK w a v2):Γ aj 35 #[.agg (nO a v1),.agg (nO a v2)] w λe w'=>e=.returned (.bool true)/\w w':=by
 obtain⟨A1,n1,c1,A2,n2,c2⟩:=v1;obtain⟨Z,m1,d1,B2,m2,d2⟩:=v2;have q1:=H.e1;have q2:=H.e2;have q3:=N.e1;have q4:=N.e2;simp only at q1 q2 q3 q4;obtain rfl:n1=m1:=q1.symm.trans q3;obtain rfl:n2=m2:=q2.symm.trans q4;have ag:=λX (hX:w X)=>ate A1 n1 c1 a.path Z d1 X (H.path.below hX) q1 (N.path.below hX) (aG H.l1 (by decide));have ae:=H.fP;have af:=N.fP;simp only at ae af;have HN:=ah q2;have HL:Hid (n2<=100):=ah H.l2;obtain⟨K,M,pa,se,gp⟩:=a;clear q1 q2 q3 q4 H N;have j:Own w _ [_,_]:=Own.iY w 42 42 #[.int .i64 K,.bool M,.slice A1 n1 c1,.slice A2 n2 c2,.int .i64 gp] #[.int .i64 K,.bool M,.slice Z n1 d1,.slice B2 n2 d2,.int .i64 gp];have U:=j.b0.cell;have V:=j.b1.cell;have f0:(K != K)=false:=by simp
 have f1:(M != M)=false:=by simp
 have f2:(gp != gp)=false:=by simp
 have f3:((n2:Int) != (n2:Int))=false:=by simp
 unfold nO;simp only;go_enter func35,ntmps35;go_upto_region 4 with(go_at_call 71;(with_reducible refine(ag _ j.below).mono ?_);rintro e w1⟨rfl,ap⟩;replace j:=j.grow ap;have U:=j.b0.cell;have V:=j.b1.cell)
 clear f0 f1 f2 f3 ag U V;go_wp2_with fail;go_loopw [6] (λi wr=> ∃k:Nat,i=.int .i64 k/\k<=n2/\Own w wr [(w,42,#[.int .i64 K,.bool M,.slice A1 n1 c1,.slice A2 n2 c2,.int .i64 gp]),(w.heap.size+1,42,#[.int .i64 K,.bool M,.slice Z n1 d1,.slice B2 n2 d2,.int .i64 gp])]) (λi _=>n2-(intOf i).toNat);case atStart=>exact⟨0,rfl,aV _,j⟩
 case round=>
  clear j;obtain⟨k,rfl,Y,j⟩:=hrel;have U:=j.b0.cell;have V:=j.b1.cell;by_cases ad:k<n2;·(have aq:decide ((k:Int)<(n2:Int))=true:=by simpa using ad);obtain⟨x,hx⟩:=aq5 HN.out ad;obtain⟨g,off,rfl,hg,a0,a1⟩:=ae.sc hx;obtain⟨g',am,rfl,ac,b0,b1⟩:=af.sc hx;have Rh:=λW (J:w W)=>(J.cell (p:=⟨g,off+k*2,none⟩) hg).trans a0;have ai:=λW (J:w W)=>(J.cell (p:=⟨g,off+k*2+1,none⟩) hg).trans a1;have ak:=λW (J:w W)=>(J.cell (p:=⟨g',am+k*2,none⟩) ac).trans b0;have al:=λW (J:w W)=>(J.cell (p:=⟨g',am+k*2+1,none⟩) ac).trans b1;have ar:=λW=>as4 x W;obtain⟨x1,x2⟩:=x;simp only at ar Rh ai ak al;clear hx a0 a1 b0 b1;go_wp2_with fail;refine ara (by kernel_rfl) ?_;(repeat(first|(apply gX.want rfl;(.intro w' Y au Q' hK;have aa:=j.grow Y;have O:=aa.below;have U:=aa.b0.cell;have V:=aa.b1.cell;have m0:=Rh _ O;have m1:=ai _ O;have m3:=ak _ O;have m4:=al _ O;go_wp2_with(fail);first|exact aH _ _|exact hb3);(.simp only[aP,ay,aA,aB];rfl))|(apply gX.skip rfl;.simp only[aP,ay,aA,aB];rfl)));refine gX.nil ?_;intro w' Y;have an:=j.grow Y;have av:n2<=100:=HL.out;go_wp2_with fail;go_roundw;(case rel=>exact⟨k+1,by go_num,by omega,an⟩);case measure=>simp[intOf];omega
  ·(obtain rfl:k=n2:=by omega);(have aq:decide ((k:Int)<(k:Int))=false:=by simp);go_wp2_with fail;go_ret;exact⟨rfl,j.below⟩
def atr (k:K4):Nat->BitVec 32
 |0=>k.k0
 |1=>k.k1
 |2=>k.k2
 |_=>k.k3
section
def asE{P:χ}(d:Nat)(xs:Array Θ)(w:ω): ∀j:List Field,(∀f,f∈j-> ∃v,(part f.type xs f.offset).run P w=.ok v w/\(Op.equalIn d f.type v v).run P w=.ok true w)->(Op.eqFields d xs xs j).run P w=.ok true w
 | [],_=>by simp[Op.eqFields]
 |f::j,h=>by obtain⟨v,H,J⟩:=h f (by simp);have M:=asE d xs w j (λg K=>h g (by simp[K]));simp only[Op.eqFields,Sem.run_ite,Sem.run_bind,H,J,dO,Bool.not_true,bU,if_false,M];split <;> rfl
def asV(d:Nat)(k:K4)(w:ω):(Op.equalIn (d+1+1) 32 (.agg #[q32 k.k0,q32 k.k1,q32 k.k2,q32 k.k3]) (.agg #[q32 k.k0,q32 k.k1,q32 k.k2,q32 k.k3])).run aj w=.ok true w:=by
 obtain⟨i,hi⟩:=info_of_underlying underlying30;rw[run_equalIn_array w (d+1) _ _ underlying32 hi,show aj.cellsOf 30=1 by kernel_rfl];rw[asn (d+1) _ _ Wq (λi=>q32 (atr k i)) (λi=>q32 (atr k i)) (λ_=>true) w _ (λi hi=>by
  refine⟨?_,?_,?_⟩;·match i,hi with|0,_ |1,_ |2,_ |3,_=>rfl
  ·match i,hi with|0,_ |1,_ |2,_ |3,_=>rfl
  .rw[ahV 30 _ _ w d .u32 underlying30];simp)]
 simp
def asX(p:gG)(w:ω):(γ .eql 34 (.agg (gB p)) (.agg (gB p))).run aj w=.ok (.bool true) w:=by
 have H:aj.underlying 34=some (.struct (aj.fieldsOf 34)):=by rw[Program.fieldsOf,bD]
 rw[ϑ,run_equalIn_struct w 9999 34 _ _ H (by kernel_rfl),asE 9999 (gB p) w];.rfl
 .intro f j;rw[Program.fieldsOf,bD]at j;simp only[bJ,dH,or_false]at j;rcases j with rfl |rfl |rfl |rfl |rfl |rfl |rfl |rfl |rfl |rfl;.exact⟨.int .i64 p.side,by kernel_rfl,by rw[run_equalIn_int w 9998 3 .i64 .i64 _ _ bG];simp⟩
  .exact⟨.int .i64 p.fG,by kernel_rfl,by rw[run_equalIn_int w 9998 3 .i64 .i64 _ _ bG];simp⟩
  .exact⟨.agg #[q32 p.base.k0,q32 p.base.k1,q32 p.base.k2,q32 p.base.k3],by kernel_rfl,asV 9997 p.base w⟩
  .exact⟨.int .i64 p.state,by kernel_rfl,by rw[run_equalIn_int w 9998 3 .i64 .i64 _ _ bG];simp⟩
  .exact⟨q32 p.a,by kernel_rfl,by rw[ahV 30 _ _ w 9998 .u32 underlying30];simp⟩
  .exact⟨q32 p.b,by kernel_rfl,by rw[ahV 30 _ _ w 9998 .u32 underlying30];simp⟩
  .exact⟨.agg #[q32 p.key.k0,q32 p.key.k1,q32 p.key.k2,q32 p.key.k3],by kernel_rfl,asV 9997 p.key w⟩
  .exact⟨.bool p.half,by kernel_rfl,by rw[run_equalIn_bool' w 9998 4 _ _ dL];simp⟩
  .exact⟨q32 p.a2,by kernel_rfl,by rw[ahV 30 _ _ w 9998 .u32 underlying30];simp⟩
  .exact⟨q32 p.b2,by kernel_rfl,by rw[ahV 30 _ _ w 9998 .u32 underlying30];simp⟩
def asD{t:τ}{a b:Array Θ}{W:ω}(h:(γ .eql t (.agg a) (.agg b)).run aj W=.ok (.bool true) W):(γ .neq t (.agg a) (.agg b)).run aj W=.ok (.bool false) W:=by
 simp only[γ,Op.equal]at h |-;simp at h |-;cases j:(Op.equalIn Op.maxDepth t (.agg a) (.agg b)).run aj W with
 |ok v W'=>rw[j]at h;simp at h;obtain⟨H,J⟩:=h;subst J;simp[H]
 |halt e W'=>rw[j]at h;simp at h
def asY(p:gG)(W:ω):(γ .neq 34 (.agg (gB p)) (.agg (gB p))).run aj W=.ok (.bool false) W:=asD (asX p W)
theorem asT(a b c:Int)(f:Bool)(W:ω):(γ .neq 36 (.agg #[.int .i64 a,.int .i64 b,.int .i64 c,.bool f]) (.agg #[.int .i64 a,.int .i64 b,.int .i64 c,.bool f])).run aj W=.ok (.bool false) W:=by
 apply asD;have M:=bG;have a3:=isAgg3;have O:=sizeOf3;have N:=dL;have K:=isAgg4;have U:=sizeOf4;have H:aj.underlying 36=some (.struct (aj.fieldsOf 36)):=by kernel_rfl
 have J:aj.stoodInHeld 36=false:=by kernel_rfl
 rw[ϑ,show(10000:Nat)=9999+1 from rfl];have j:=ϐ (P:=aj) W 9999 36 #[.int .i64 a,.int .i64 b,.int .i64 c,.bool f] #[.int .i64 a,.int .i64 b,.int .i64 c,.bool f] H J;simp only[Program.fieldsOf,underlying36]at j;rw[j];go_simp
theorem as1(a b:Int)(f:Bool)(W:ω):(γ .neq 38 (.agg #[.int .i64 a,.int .i64 b,.bool f]) (.agg #[.int .i64 a,.int .i64 b,.bool f])).run aj W=.ok (.bool false) W:=by
 apply asD;have M:=bG;have a3:=isAgg3;have O:=sizeOf3;have N:=dL;have K:=isAgg4;have U:=sizeOf4;have H:aj.underlying 38=some (.struct (aj.fieldsOf 38)):=by kernel_rfl
 have J:aj.stoodInHeld 38=false:=by kernel_rfl
 rw[ϑ,show(10000:Nat)=9999+1 from rfl];have j:=ϐ (P:=aj) W 9999 38 #[.int .i64 a,.int .i64 b,.bool f] #[.int .i64 a,.int .i64 b,.bool f] H J;simp only[Program.fieldsOf,underlying38]at j;rw[j];go_simp
theorem asU(a0 j a2 a3 H J K M N:Int)(W:ω):(γ .neq 29 (.agg #[.int .i64 a0,.int .i64 j,.int .i64 a2,.int .i64 a3,.int .i64 H,.int .i64 J,.int .i64 K,.int .i64 M,.int .i64 N]) (.agg #[.int .i64 a0,.int .i64 j,.int .i64 a2,.int .i64 a3,.int .i64 H,.int .i64 J,.int .i64 K,.int .i64 M,.int .i64 N])).run aj W=.ok (.bool false) W:=by
 apply asD;have Y:=bG;have Z:=isAgg3;have z3:=sizeOf3;have U:aj.underlying 29=some (.struct (aj.fieldsOf 29)):=by kernel_rfl
 have V:aj.stoodInHeld 29=false:=by kernel_rfl
 rw[ϑ,show(10000:Nat)=9999+1 from rfl];have O:=ϐ (P:=aj) W 9999 29 #[.int .i64 a0,.int .i64 j,.int .i64 a2,.int .i64 a3,.int .i64 H,.int .i64 J,.int .i64 K,.int .i64 M,.int .i64 N] #[.int .i64 a0,.int .i64 j,.int .i64 a2,.int .i64 a3,.int .i64 H,.int .i64 J,.int .i64 K,.int .i64 M,.int .i64 N] U V;simp only[Program.fieldsOf,underlying29]at O;rw[O];go_simp
def asQ(x:Tr)(m:kZ):((jf x m).toList.drop 2).take (rlC x.rl).size=(rlC x.rl).toList:=by kernel_rfl
def asG(x:Tr)(m:kZ):((jf x m).toList.drop 11).take (gB (aks x m.q)).size=(gB (aks x m.q)).toList:=by kernel_rfl
def asF(x:Tr)(m:kZ):((jf x m).toList.drop 28).take 4= [.int .i64 x.sl,.int .i64 x.sa,.int .i64 x.sb,.bool x.free]:=by kernel_rfl
def asM(x:Tr)(m:kZ):((jf x m).toList.drop 34).take 3= [.int .i64 x.pos.edge,.int .i64 x.pos.at_,.bool x.pos.rev]:=by kernel_rfl
def asR(x:Tr)(m:kZ):((jf x m).toList.drop 40).take (nO x.ma m.v).size=(nO x.ma m.v).toList:=by kernel_rfl
def Own.tail{w W:ω}{a:Bk}{L:List Bk}(h:Own w W (a::L)):Own w W L:=⟨h.below,λx j=>h.blk x (List.mem_cons_of_mem _ j),(List.nodup_cons.1 h.nodup).2⟩
section
variable {P:χ} {ops:Array ο} {rest:List ο} {o:ο} {a:Act} {W:ω} {Q:Exit->Act->ω->Prop}
def asN{t N:τ}{A B:Array Θ}(hm:P.eqGuardType P.depth t=false)(hn:(γ .neq t (.agg A) (.agg B)).run P W=.ok (.bool false) W)(J:aF o (ψ ops a.tmps)=true)(x y:κ)(H:o.op=.binOp .neq t x y N)(K:a.eval x=.agg A)(M:a.eval y=.agg B)(h:Δ P ops Q rest (a.put o.dst (.bool false)) W):Δ P ops Q (o::rest) a W:=arP J λO j=>by unfold Oper.wp execOp;simp only[H,K,M,Sem.run_bind,run_eqGuard_agg (hm:=hm),hn,dO,Sem.run_pure];exact j _ _ h
end
theorem atb(x:Tr)(j J:kZ)(w:ω)(M:zJ w x j)(N:zJ w x J)(hq:J.q=j.q)(hn:J.nx=j.nx):Γ aj 10 #[.agg (jf x j),.agg (jf x J)] w λe w'=>e=.returned (.bool true)/\w w':=by
 have H:Own w _ [_,_]:=Own.iY w 44 44 (jf x j) (jf x J);have V:=asG x J;rw[hq]at V;have ag:=λX (hX:w X)=>ata x.ma j.v J.v X (M.ma.below hX) (N.ma.below hX);have aa:=H.b0.cell;have ac:=H.b1.cell;have n1:=asU x.rl.ahead x.rl.behind x.rl.period x.rl.most x.rl.quiet x.rl.oJ x.rl.wI x.rl.skew x.rl.lend;have n2:=asY (aks x j.q);obtain⟨PC,ae⟩:=fD (gB (aks x j.q));have ad:=asG x j;have Y:=iD (aks x j.q);rw[<-ae]at n2 V ad Y;clear ae;have n3:=asT x.sl x.sa x.sb x.free;have n4:=as1 x.pos.edge x.pos.at_ x.pos.rev;have ai:J.n3=j.n3:=N.e3.symm.trans M.e3;have s0:=tr0 x j;have t0:=tr0 x J;have s1:=tr1 x j;have t1:=tr1 x J;have ar:=aso x j;have ak:=aso x J;have au:=aoj x j;have aM:=aoj x J;have av:=asq x j;have aR:=asq x J;have aw:=afN x j;have a1:=afN x J;have ax:=afO x j;have a4:=afO x J;have az:=alQ x j;have a5:=alQ x J;have aD:=ai0 x j;have a6:=ai0 x J;have aE:=ai1 x j;have a7:=ai1 x J;have aL:=Wn x j;have al:=Wn x J;rw[hn]at ak;rw[ai]at al;have K:=ah (And.intro M (And.intro N (And.intro hq hn)));clear M N hq hn ai;go_enter func10,ntmps10;go_upto_region 4 with(first|(refine asN (by kernel_rfl) (n1 _) ?_ _ _ rfl rfl rfl ?_;.first|(simp[aF,ψ];done)|rfl)|(refine asN (by kernel_rfl) (n2 _) ?_ _ _ rfl rfl rfl ?_;.first|(simp[aF,ψ];done)|rfl)|(refine asN (by kernel_rfl) (n3 _) ?_ _ _ rfl rfl rfl ?_;.first|(simp[aF,ψ];done)|rfl)|(refine asN (by kernel_rfl) (n4 _) ?_ _ _ rfl rfl rfl ?_;.first|(simp[aF,ψ];done)|rfl)|((refine qO H 2 (rlC x.rl) (asQ x j) ?_ _ _ rfl rfl _ underlying29 rfl (by kernel_rfl) ?_);(.first|(simp[aF,ψ];done)|rfl))|((refine qO H 11 PC ad ?_ _ _ rfl rfl _ bD rfl Y ?_);(.first|(simp[aF,ψ];done)|rfl))|((refine qO H 28 (#[.int .i64 x.sl,.int .i64 x.sa,.int .i64 x.sb,.bool x.free]) (asF x j) ?_ _ _ rfl rfl _ underlying36 rfl (by kernel_rfl) ?_);(.first|(simp[aF,ψ];done)|rfl))|((refine qO H 34 (#[.int .i64 x.pos.edge,.int .i64 x.pos.at_,.bool x.pos.rev]) (asM x j) ?_ _ _ rfl rfl _ underlying38 rfl (by kernel_rfl) ?_);(.first|(simp[aF,ψ];done)|rfl))|((with_reducible first|refine qO H 40 (nO x.ma j.v) (asR x j) ?_ _ _ rfl rfl _ dA rfl (lU _ _) ?_|refine qO H.tail 40 (nO x.ma J.v) (asR x J) ?_ _ _ rfl rfl _ dA rfl (lU _ _) ?_);(.first|(simp[aF,ψ];done)|rfl))|((refine qO H.tail 2 (rlC x.rl) (asQ x J) ?_ _ _ rfl rfl _ underlying29 rfl (by kernel_rfl) ?_);(.first|(simp[aF,ψ];done)|rfl))|((refine qO H.tail 11 PC V ?_ _ _ rfl rfl _ bD rfl Y ?_);(.first|(simp[aF,ψ];done)|rfl))|((refine qO H.tail 28 (#[.int .i64 x.sl,.int .i64 x.sa,.int .i64 x.sb,.bool x.free]) (asF x J) ?_ _ _ rfl rfl _ underlying36 rfl (by kernel_rfl) ?_);(.first|(simp[aF,ψ];done)|rfl))|((refine qO H.tail 34 (#[.int .i64 x.pos.edge,.int .i64 x.pos.at_,.bool x.pos.rev]) (asM x J) ?_ _ _ rfl rfl _ underlying38 rfl (by kernel_rfl) ?_);(.first|(simp[aF,ψ];done)|rfl))|(go_at_call 35;(with_reducible refine(ag _ H.below).mono ?_);rintro e fU⟨rfl,fJ⟩;replace H:=H.grow fJ;have aa:=H.b0.cell;have ac:=H.b1.cell))
 clear n1 n2 n3 n4 ag ad Y V s0 t0 s1 t1 ar ak au aM av aR aw a1 ax a4 az a5 aD a6 aE a7 aa ac;go_wp2_with fail;go_loopw [6] (λi wr=> ∃k:Nat,i=.int .i64 k/\k<=j.n3/\Own w wr [(w,44,jf x j),(w.heap.size+1,44,jf x J)]) (λi _=>j.n3-(intOf i).toNat);case atStart=>exact⟨0,rfl,aV _,H⟩
 case round=>
  clear H;obtain⟨k,rfl,U,H⟩:=hrel;have aa:=H.b0.cell;have ac:=H.b1.cell;have a9:=K.out.1.l3;by_cases af:k<j.n3;·(have an:decide ((k:Int)<(j.n3:Int))=true:=by simpa using af);obtain⟨z,hz⟩:=aq5 K.out.1.e3 af;obtain⟨g,off,hA,hg,a0⟩:=K.out.1.stops.get hz;obtain⟨g',aq,hB,ap,b0⟩:=K.out.2.1.stops.get hz;have ka:=λW (Z:w W)=>(Z.cell (p:=⟨g,off+k*1,none⟩) hg).trans (a0 0 _ rfl);have kb:=λW (Z:w W)=>(Z.cell (p:=⟨g',aq+k*1,none⟩) ap).trans (b0 0 _ rfl);simp only[Nat.mul_one]at ka kb;rw[hA]at aL;rw[hB]at al;clear hz a0 b0 hA hB;(have ba:((z:Int) != z)=false:=by simp);go_wp2_with fail;refine ara (by kernel_rfl) ?_;(repeat(first|(apply gX.want rfl;(.intro w' U a8 Q' hK;have O:=H.grow U;have m0:=ka _ O.below;have j:=kb _ O.below;have m3:=O.b0.cell;have m4:=O.b1.cell;go_wp2_with(fail);first|exact aH _ _|exact hb3);(.simp only[aP,ay,aA,aB];rfl))|(apply gX.skip rfl;.simp only[aP,ay,aA,aB];rfl)));refine gX.nil ?_;intro w' U;have am:=H.grow U;go_wp2_with fail;go_roundw;(case rel=>exact⟨k+1,by go_num,by omega,am⟩);case measure=>simp[intOf];omega
  ·(obtain rfl:k=j.n3:=by omega);(have an:decide ((j.n3:Int)<(j.n3:Int))=false:=by simp);go_wp2_with fail;go_ret;exact⟨rfl,H.below⟩
end
end Go.Proofs.YthnmgjngniciaaaGreatDoor
