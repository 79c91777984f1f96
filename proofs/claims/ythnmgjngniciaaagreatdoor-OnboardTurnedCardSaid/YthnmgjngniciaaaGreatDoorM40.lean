/- Parts. -/
import Derived.Test.YthnmgjngniciaaaGreatDoorM39
set_option linter.all false
set_option maxHeartbeats 16000000
set_option maxRecDepth 8000
open Array renaming getElem?_eq_some_iff→dM
open List renaming cons_append→bQ,map→bV,nil_append→aZ,setIfInBounds_toArray→ay,set_cons_succ→aB,set_cons_zero→aA
open Nat renaming le_refl→aW,le_trans→aG,reduceAdd→aT,zero_add→aJ,zero_le→aV
namespace Go.Proofs.YthnmgjngniciaaaGreatDoor
open Go.RowKit Go.Shelf Tryz
open Act renaming put→aP
open Below renaming heap_setCell→aN,refl→aH
open Go.Lib renaming hid→ah
open Region renaming binds→aC,wanted→aF
open Tryz renaming prog→aj,underlying27→dB,underlying3→bG,underlying4→dL,underlying44→bg
variable{P:Program}{m:jl}{w:World}
def Ei:Array Value:= #[.int .i64 100,.int .i64 100,.int .i64 10,.int .i64 2,.int .i64 50,.int .i64 70,.int .i64 20,.int .i64 0,.int .i64 0]
theorem abb(w:World):Calls aj 51 #[] w λe w'=>e=.returned Ei/\w w':=by have d:Own w _ [_]:=(Own.nil w).alloc 29 Ei _ rfl;unfold Ei at*;go_enter func51,ntmps51;go_wp2_with fail;exact bodyPost_ret (results_cell_row results51 _ _ _ _ _ _ _ rfl d.b0 underlying29 rfl (by kernel_rfl)) rfl ⟨rfl,d.below⟩
def Dq:Tr:=⟨5,400,O1,0,5,-1,100,100,false,-1,false,⟨0,50,false⟩,7,40,false,⟨0,false,[],[],0⟩,0,false,[]⟩
def q19:Zx:=⟨1,2,3,4,0,0,0,0,0,0,0,false,0,0⟩
def QX:kZ:=⟨q19,1,⟨none,0,0,none,0,0⟩,none,0,0⟩
def arT (a b c:Int) (d:Bool):Array Value:= #[.int .i64 5,.int .i64 400,.int .i64 100,.int .i64 100,.int .i64 10,.int .i64 2,.int .i64 50,.int .i64 70,.int .i64 20,.int .i64 0,.int .i64 0,.int .i64 0,.int .i64 5,.int .u32 1,.int .u32 2,.int .u32 3,.int .u32 4,.int .i64 0,.int .u32 0,.int .u32 0,.int .u32 0,.int .u32 0,.int .u32 0,.int .u32 0,.bool false,.int .u32 0,.int .u32 0,.int .u32 1,.int .i64 a,.int .i64 b,.int .i64 c,.bool d,.int .i64 (-1),.bool false,.int .i64 0,.int .i64 50,.bool false,.int .i64 7,.int .i64 40,.bool false,.int .i64 0,.bool false,.slice none 0 0,.slice none 0 0,.int .i64 0,.int .i64 0,.bool false,.slice none 0 0]
theorem ahM:arT (-1) 100 100 false=jf Dq QX:=rfl
theorem afe(w:World):zJ w Dq QX:=⟨⟨fE.nil _ _,fE.nil _ _,rfl,rfl,by decide,by decide,by decide,by decide⟩,fE.nil _ _,rfl,by decide,by decide⟩
theorem zH{W:World}{j:Array Oper}{rest:List Oper}{o:Oper}{a:Act}{d:Exit->Act->World->Prop}(H:o.guard=none)(t:TypeId)(parts:Array (Nat × Operand))(J:o.op=.build t parts)(cs:Array Value)(hc:P.built t (parts.map λ(i,x)=>(i,a.eval x)).toList=some cs)(h:wpList P j d rest (a.put o.dst cs) W):wpList P j d (o::rest) a W:=wpList_plain H λK M=>wp_build t parts J (by grind) (by grind)
def anH:Array Value:= #[.int .i64 0,.int .i64 5,.int .u32 1,.int .u32 2,.int .u32 3,.int .u32 4,.int .i64 0,.int .u32 0,.int .u32 0,.int .u32 0,.int .u32 0,.int .u32 0,.int .u32 0,.bool false,.int .u32 0,.int .u32 0]
theorem r0:Ei[0]? =some (.int .i64 100):=rfl
theorem r1:Ei[1]? =some (.int .i64 100):=rfl
theorem aff:((((arT 0 0 0 false).setIfInBounds 28 (-1:Int)).setIfInBounds 29 (100:Int)).setIfInBounds 30 (100:Int)).setIfInBounds 31 false=arT (-1) 100 100 false:=rfl
theorem ald(w:World)(g a b c d:Nat)(x y z v:Value):w.grownBy ((((w.setCell ⟨g,a,none⟩ x).setCell ⟨g,b,none⟩ y).setCell ⟨g,c,none⟩ z).setCell ⟨g,d,none⟩ v) (some g):=by have one: ∀(w:World) (i:Nat) (x:Value),w.grownBy (w.setCell ⟨g,i,none⟩ x) (some g):=λw i x=>⟨rfl,rfl,rfl,by simp,λk _ j=>aN w ⟨g,i,none⟩ x k (λe=>j (by rw[e]))⟩;exact aru (aru (aru (one _ _ _) (one _ _ _)) (one _ _ _)) (one _ _ _)
theorem new_c(h:jE w iE m):Calls aj 13 #[.agg m.cells,.agg Ei,.int .i64 5,.int .i64 400,.agg #[.int .u32 1,.int .u32 2,.int .u32 3,.int .u32 4],.int .i64 7,.bool false,.int .i64 40] w λe w'=>e=.returned (.tuple #[.agg (jf Dq QX),.int .i64 0])/\w w':=by have d:Own w _ [_,_,_,_]:=Own.start4 w 27 29 32 44 m.cells Ei #[.int .u32 1,.int .u32 2,.int .u32 3,.int .u32 4] nR;unfold nR at d;have N:=λW (K:w W)=>yK (h.below K);have Y:=λW (K:w W)=>Vl (h.below K);have O:=λW=>ab6 100 100 W;have M:=λW (K:w W)=>QG (h.below K) Dq QX (afe W);rw[show jr iE=0 by decide +kernel]at N;rw[show wY iE Dq=true by decide +kernel]at M;rw[show Po 100 100= #[.int .i64 (-1),.int .i64 100,.int .i64 100,.bool false] from rfl,show Pq 100 100=0 from rfl]at O;rw[<-ahM]at M ⊢;unfold Vt at*;go_enter func13,ntmps13;have z0:=r0;have z1:=r1;have aa:(arT 0 0 0 false)[28]? =some (.int .i64 0):=rfl;have ac:(arT 0 0 0 false)[29]? =some (.int .i64 0):=rfl;have ad:(arT 0 0 0 false)[30]? =some (.int .i64 0):=rfl;have ae:(arT 0 0 0 false)[31]? =some (.bool false):=rfl;go_wp2_with(first|((with_reducible refine(N _ d.below).mono ?_);rintro e J⟨rfl,j⟩;replace d:=d.grow j)|((with_reducible refine(Y _ d.below).mono ?_);rintro e J⟨rfl,j⟩;replace d:=d.grow j;replace d:=Own.alC d 38 #[.int .i64 0,.int .i64 50,.bool false];have V:=d.alloc 44 fY (J.heap.size+1) (by simp);simp only[bQ,aZ]at V)|((with_reducible first|refine gK d ?_ _ rfl rfl _ dB rfl (by kernel_rfl) ?_|refine VP H ?_ _ rfl rfl _ bg rfl (by kernel_rfl) ?_);(·first|rfl|(simp[aF,yielded];done)))|((with_reducible first|refine iQ d ?_ _ rfl rfl _ underlying29 rfl (by kernel_rfl) ?_|refine mJ d ?_ _ rfl rfl _ underlying32 rfl (by kernel_rfl) ?_|refine VO d ?_ _ rfl rfl _ underlying38 rfl (by kernel_rfl) ?_|refine gK H ?_ _ rfl rfl _ dB rfl (by kernel_rfl) ?_);(·rfl))|(with_reducible refine zH rfl 34 _ rfl anH (by kernel_rfl) ?_)|(with_reducible refine zH rfl 44 _ rfl (arT 0 0 0 false) (by kernel_rfl) ?_)|((with_reducible refine abv (arT 0 0 0 false) V rfl _ _ rfl rfl rfl (by kernel_rfl) rfl (by kernel_rfl) ?_);intro J j Q U;replace d:=j;have Z:=d.b1.cell)|((with_reducible refine(O _).mono ?_);rintro e J⟨rfl,j⟩;replace d:=d.grow j;have Q:=d.b5.cell;have U:=d.b5.frozen 28;have Z:=d.b5.frozen 29;have sK:=d.b5.frozen 30;have O4:=d.b5.frozen 31;have H:=Own.change (L1:= [_,_,_,_,_]) d (ald J _ 28 29 30 31 (.int .i64 (-1)) (.int .i64 100) (.int .i64 100) (.bool false)) ((((d.b5.iV 28 _).iV 29 _).iV 30 _).iV 31 _);rw[aff]at H;simp only[bQ,aZ]at H)|(go_at_call 18;(with_reducible refine(M _ H.below).mono ?_);rintro e J⟨rfl,j⟩;replace H:=H.grow j)|((with_reducible refine EC (arT (-1) 100 100 false) H rfl _ _ rfl rfl rfl (by kernel_rfl) rfl (by kernel_rfl) ?_);intro J j Q U;replace H:=j;clear j));exact bodyPost_ret (gU results13 _ _ _ _ _ _ rfl rfl H.b3 bg rfl (by rfl)) rfl ⟨rfl,H.below⟩
def uD (v:DF):kZ:=⟨q19,1,v,none,0,0⟩
theorem Y9(v:DF):(arh (jf Dq QX) 40 #[.int .i64 7,.bool false,.slice v.A1 v.n1 v.c1,.slice v.A2 v.n2 v.c2,.int .i64 0].toList).size=48:=rfl
theorem ahN(w:World):Calls aj 19 #[] w λe w'=> ∃v,e=.returned (.tuple #[.agg (jf iH (uD v)),.int .i64 0])/\zJ w' iH (uD v)/\w w':=by
 have J:Own w _ [_]:=(Own.nil w).alloc 44 fY _ rfl;have an:=λW=>ae9 W;unfold jl.cells at an;go_enter func19,ntmps19;go_wp2_with(first|((with_reducible refine(an _).mono ?_);rintro e w1⟨m,rfl,hT,N⟩;replace J:=J.grow N;replace J:=J.alloc 27 #[.slice m.A1 m.n1 m.c1,.slice m.A2 m.n2 m.c2,.slice m.A3 m.n3 m.c3,.slice m.A4 m.n4 m.c4] w1 rfl;simp only[bQ,aZ]at J;replace hT:=hT.below ((gY.alloc ig (.cells #[.slice m.A1 m.n1 m.c1,.slice m.A2 m.n2 m.c2,.slice m.A3 m.n3 m.c3,.slice m.A4 m.n4 m.c4] 27)))));generalize aR:(w1.alloc (.cells #[.slice m.A1 m.n1 m.c1,.slice m.A2 m.n2 m.c2,.slice m.A3 m.n3 m.c3,.slice m.A4 m.n4 m.c4] 27))=U at*;have aE:=λW (hW:U W)=>new_c (hT.below hW);unfold jl.cells at*;apply gu (Below U) (λW=>aq3 gY 1) (λ_ _ _ h1 h2=>h1.trans h2) (vN U 8) (λ_ _ _ h=>h.1) (λ_ _=>iR _ _ _ _) (λ_ _=>True) (λ_=>trivial) (λ_ _ _ _ _ _ _=>trivial);case lX=>intro u;simp only[bV,aq9,aP,ay,aA,aB,aT,aJ];with_reducible rfl
 case hm=>kernel_rfl
 case hB=>kernel_rfl
 case hA=>kernel_rfl
 case hap=>kernel_rfl
 repeat(first
    |(apply fM.is
      ·
        (intro u w' K aq H
         simp[fO,aC,gI,Is]at H
         refine fC ?_ ?_
         ·
           first
           |rfl
         intro ad O
         have av:=J.grow K;have aM:=av.b1.cell
         go_wp2_with ((first |((with_reducible refine(abb _).mono ?_);rintro e w3⟨rfl,al⟩) |((with_reducible refine(aE _ K).mono ?_);rintro e w3⟨rfl,al⟩)))
         try simp only[H]at O
         refine O _ _ ?_ rfl
         first |exact iR _ _ _ _ |exact kM K.size al (by decide)))
    |(refine fM.one (pV U 44 48) ?_ ?_
      ·
        (intro u w' K aq H
         refine fC ?_ ?_
         ·
           first
           |rfl
         intro ad O
         go_wp2_with fail
         exact O _ _ (kM K.size jm (by decide)) ⟨w',_,rfl,K.size,fK.new w' 44 (fY:Array Value),rfl⟩))
    |(refine fM.word (CU U 7 44 (jf Dq QX)) ?_ ?_
      ·
        (intro u w' K aq H
         simp[fO,aC,gI,Is]at H
         obtain⟨⟨g,cs,ap,hg,V,ar⟩,hx⟩:=H
         refine jF ?_ ?_
         ·
           first
           |rfl
         intro ad O
         have jL: ∀k,k≠g->(w'.setRow g (jf Dq QX)).heap[k]? =w'.heap[k]? :=λk K=>setRow_other w' g k _ K
         exact wp_store_row 44 _ _ rfl g (jf Dq QX) (by first | exact ap ) (by first | exact hx.1 ) 44 cs V (by kernel_rfl) ar (by first | exact lM _ _) (O undef _
           ⟨jk gY hg _,λh=>absurd rfl h,λ_=> .inr ⟨g,_,cs,(jf Dq QX),V,V.row _,ar.symm,by simp,jL⟩⟩
           ⟨g,by rw[jH u undef (by decide)];exact ap,hg,V.row _⟩))))
 refine fM.last (qh ?_) ?_
 ·simp only[gQ];repeat(refine⟨?_,?_⟩;·first|exact mM _|exact qH|exact pz (λi hf e=>hf _ rfl ⟨7,.data⟩ (by simp) rfl e.symm))
  exact trivial
 intro u w2 ag _ H;simp only[gQ]at H;refine⟨rfl,?_⟩;intro ad O;obtain⟨gx,au,aD,V⟩:=H 8 _ rfl;have ai:=H 6 _ rfl;simp only[gI,Is]at ai;have ae:=(J.grow ag).add V (aG J.below.size aD) (λx hx=>by have:=(J.blk x hx).2.lt;omega);simp only[bQ,aZ]at ae;have aw:=hT.below ag;simp only[ai,au];clear ai au ag;have Y:=ae.alloc 122 gw w2 rfl;simp only[bQ,aZ]at Y;have ax:=aw.below (gY.alloc ig (.cells gw 122));have am:=ahK ax Y.b3;simp only[jl.cells,nO,abG]at am;have aL:=ae.b1.cell;go_wp2_with(first|((with_reducible refine am.mono ?_);rintro e N⟨v,rfl,d,j,Z,aa,M⟩;have HN:=ah (And.intro Z aa);clear Z aa;replace Y:=Y.grow M;have lW:=Y.alloc 42 #[.int .i64 7,.bool false,.slice v.A1 v.n1 v.c1,.slice v.A2 v.n2 v.c2,.int .i64 0] N rfl;simp only[bQ,aZ]at lW;replace d:=d.alloc (.cells #[.int .i64 7,.bool false,.slice v.A1 v.n1 v.c1,.slice v.A2 v.n2 v.c2,.int .i64 0] 42);replace j:=j.alloc (.cells #[.int .i64 7,.bool false,.slice v.A1 v.n1 v.c1,.slice v.A2 v.n2 v.c2,.int .i64 0] 42);have Q:=lW.b4.cell)|((with_reducible refine abt 40 #[.int .i64 7,.bool false,.slice v.A1 v.n1 v.c1,.slice v.A2 v.n2 v.c2,.int .i64 0] lW rfl _ _ _ rfl rfl rfl (by kernel_rfl) (by simp[lg]) (by kernel_rfl) ?_);intro N kN M Q;replace d:=d.keep Q (lV lW.b2 (by decide));replace j:=j.keep Q (lV lW.b2 (by decide)))|((with_reducible refine Nu 45 (.int .i64 3) kN rfl _ _ _ rfl rfl rfl (by kernel_rfl) (by rw[Y9];decide) rfl ?_);intro N af M Q;replace d:=d.keep Q (lV kN.b2 (by decide));replace j:=j.keep Q (lV kN.b2 (by decide)))|((with_reducible refine Nu 46 (.bool true) af rfl _ _ _ rfl rfl rfl (by kernel_rfl) (by rw[Array.size_setIfInBounds,Y9];decide) rfl ?_);intro N M Q jQ;replace d:=d.keep jQ (lV af.b2 (by decide));replace j:=j.keep jQ (lV af.b2 (by decide));have ac:Own w N [_,_,(gx,44,jf iH (uD v)),_,_]:=M)|((with_reducible refine mJ ac ?_ _ rfl rfl _ bg rfl (iF _ _) ?_);(·first|rfl))|((with_reducible refine oG (jf iH (uD v)) ac rfl _ _ rfl rfl rfl (iF _ _) rfl (lM _ _) ?_);intro wV ak N M;replace d:=d.keep M (lV ac.b0 (by decide));replace j:=j.keep M (lV ac.b0 (by decide))));obtain⟨Z,aa⟩:=HN.out;have az:zJ wV iH (uD v):=⟨⟨d.rows,j.rows,Z.symm,aa.symm,by show v.n1<=100;omega,by show v.n2<=100;omega,by show v.n1<=v.c1;rw[Z];exact d.cap.1,by show v.n2<=v.c2;rw[aa];exact j.cap.1⟩,fE.nil _ _,rfl,by simp[uD],by simp[uD]⟩;exact bodyPost_ret (gU results19 _ _ _ _ _ _ rfl rfl ak.b0 bg rfl (iF _ _)) rfl ⟨v,rfl,az,ak.below⟩
def xC (t:Tp) (x:Tr) (n now:Int):Int:=if wY t x=false\/jK now=false then 1 else rC t x n now
def FY (w:World) (t:Tp) (x:Tr) (n now:Int) (e:Ending) (w':World):Prop:= ∃cs A c,e=.returned (.tuple #[.agg cs,.slice A 0 c,.int .i64 (xC t x n now)])/\w w'/\(xC t x n now≠0->cs=nR)/\(xC t x n now=0-> ∃xn,cs=jf (qF t x n now) xn/\zJ w' (qF t x n now) xn)
theorem LG(w:World):aq2 w none 0 []:=⟨λh=>absurd h (by decide),aW _,aV _⟩
theorem LH{t:Tp}(h:jE w t m)(Z:Tab w)(x:Tr)(H:kZ)(hx:zJ w x H)(n now:Int)(aa:x.stops.length<=60):Calls aj 9 #[m.cells,jf x H,.agg #[(4:Int),n,nS],now] w (FY w t x n now):=by
 refine(QV h Z x H hx 4 n now [] none 0 0 rfl (LG w) (by decide) aa).mono λe w' ⟨Y,N,O⟩=>?_;have hF:yB t now ⟨x,H.q,H.nx,[]⟩ 4 n []=asi t now ⟨x,H.q,H.nx,[]⟩ n:=by simp[yB]
 rw[hF]at N O;by_cases d:Ee t x 4 now
 ·have j:xC t x n now=1:=by unfold xC;rcases d with d |d |d;(·omega);(·omega);·exact if_pos d
  obtain⟨K,M⟩:=Y d;refine⟨nR,none,0,by rw[j];exact K,M,λ_=>rfl,λh=>?_⟩;rw[j]at h;exact absurd h (by decide)
 ·have j:xC t x n now=rC t x n now:=by unfold xC;exact if_neg λq=>d (.inr (.inr q))
  by_cases J:rC t x n now=0;·obtain⟨s,Bq,g,U,Q,K⟩:=O d J;have V:s.x=qF t x n now:=congrArg Cp.x Q;have ho:s.out= []:=congrArg Cp.out Q;refine⟨jf s.x s.m,s.Ao,s.co,?_,U.below,λh=>absurd (j.trans J) h,λ_=>⟨s.m,by rw[V],V▸U.tr.is⟩⟩;rw[K,ho,j,J];rfl
  ·obtain⟨K,M⟩:=N d J;exact⟨nR,none,0,by rw[j];exact K,M,λ_=>rfl,λh=>absurd (j.symm.trans h) J⟩
theorem Vp:(yB iE 32 ⟨iH,q19,1,[]⟩ 0 0 []).2=0/\(yB iE 32 ⟨iH,q19,1,[]⟩ 0 0 []).1.out.length=1:=by decide
theorem abd:(yB iE 32 ⟨iH,q19,1,[]⟩ 0 0 []).1.x=iH:=by rfl
theorem ale: ¬Ee iE iH 0 32:=by
 unfold Ee;have d:wY iE iH=true:=by decide +kernel
 rw[d];decide
theorem ahO{v:DF}(h:jE w iE m)(J:Tab w)(O:zJ w iH (uD v)):Calls aj 9 #[m.cells,jf iH (uD v),.agg #[zI,zI,nS],(32:Int)] w λe w'=> ∃j A c,e=.returned (.tuple #[jf iH j,.slice A 1 c,zI])/\w w':=by refine(QV h J iH (uD v) O 0 0 32 [] none 0 0 rfl (LG w) (by decide) (by decide)).mono λe w' ⟨_,_,H⟩=>?_;obtain⟨s,Bq,g,N,d,K⟩:=H ale Vp.1;have Q:s.x=iH:=(congrArg Cp.x d).trans abd;have M:s.out.length=1:=(congrArg (λc=>c.out.length) d).trans Vp.2;refine⟨s.m,s.Ao,s.co,?_,N.below⟩;rw[K,M,Q]
theorem X3(W:World)(old cs:Array Value)(t:TypeId):(W.alloc (.cells old t)).setRow W cs=W.alloc (.cells cs t):=by
 unfold World.alloc World.setRow;simp only;congr 1;apply Array.ext;·simp
 ·grind
theorem tX(W:World)(t:TypeId)(old cells:Array Value)(j:old.size=cells.size)(d:cells.all (·.oneCell')=true):(storeCells ⟨W,0,none⟩ cells.toList).run P (W.alloc (.cells old t))=.ok () (W.alloc (.cells cells t)):=by have:=run_storeCells_from (P:=P) W t cells.toList 0 old (W.alloc (.cells old t)) (heap_alloc_new W _) (by grind) (λv H=>(Array.all_eq_true_iff_forall_mem.1 d) v (by grind));rw[this];simp[X3]
theorem anI(W:World):(binOp .eql 38 (.agg #[(1:Int),(200:Int),false]) (.agg #[(1:Int),(200:Int),false])).run aj W=.ok true W:=by
 have K:=bG;have a3:=isAgg3;have N:=sizeOf3;have M:=dL;have J:=isAgg4;have O:=sizeOf4;have j:aj.underlying 38=some (.struct (aj.fieldsOf 38)):=by kernel_rfl
 have H:aj.stoodInHeld 38=false:=by kernel_rfl
 rw[run_eql_struct,show(10000:Nat)=9999+1 from rfl];have d:=run_equalIn_agg (P:=aj) W 9999 38 #[(1:Int),(200:Int),false] #[(1:Int),(200:Int),false] j H;simp only[Program.fieldsOf,underlying38]at d;rw[d];go_simp
def y19:Tr:=qF iE iH 250 32
theorem alf:y19.pos.edge=1/\y19.pos.at_=200/\y19.pos.rev=false/\y19.ref=8/\y19.past=180/\wY iE y19=true:=by decide +kernel
theorem afg:xC iE iH 250 32=0:=by decide +kernel
theorem afh:xC iE iH 251 32=141:=by decide +kernel
theorem alg:xC iE iH 1 33=141:=by decide +kernel
theorem afi:jR iE iH=some 40:=by decide +kernel
theorem Za:Ju (Jv iE iH 32)=250/\(Jv iE iH 32).length<=1000:=by decide +kernel
theorem Zb(w:World)(IE:Tab w):Calls aj 7 #[] w λe w'=>e=.returned (.bool true)/\w w':=by have Z:=ah IE;clear IE;obtain⟨y,hy,ac,ad,ae,af,ag,ak⟩: ∃y:Tr,qF iE iH 250 32=y/\y.pos.edge=1/\y.pos.at_=200/\y.pos.rev=false/\y.ref=8/\y.past=180/\wY iE y=true:=⟨y19,rfl,alf⟩;have aq:=λ(W:World) (aa:kZ)=>tX (P:=aj) W 44 fY (jf iH aa) rfl (lM _ _);have ar:=λ(W:World) (aa:kZ)=>tX (P:=aj) W 44 fY (jf y aa) rfl (lM _ _);have au:=λ(W:World)=>tX (P:=aj) W 44 fY nR rfl (by kernel_rfl);have ai:=λW=>ae9 W;have ap:=λW=>anI W;unfold jl.cells at ai;go_enter func7,ntmps7;go_wp2_with(first|(go_at_call 19;(with_reducible refine(ahN _).mono ?_);rintro e H⟨v,rfl,J,d⟩;have j:=(Own.nil w).grow d;replace j:=j.alloc 44 (jf iH (uD v)) H rfl;simp only[aZ]at j;replace J:=J.below (gY.alloc ig (.cells (jf iH (uD v)) 44)))|(go_at_call 20;(with_reducible refine(ai _).mono ?_);rintro e H⟨d,rfl,K,M⟩;replace j:=j.grow M;replace J:=J.below M;replace j:=j.alloc 27 #[.slice d.A1 d.n1 d.c1,.slice d.A2 d.n2 d.c2,.slice d.A3 d.n3 d.c3,.slice d.A4 d.n4 d.c4] H rfl;simp only[bQ,aZ]at j;have aa:=(aH H H).alloc ig (.cells #[.slice d.A1 d.n1 d.c1,.slice d.A2 d.n2 d.c2,.slice d.A3 d.n3 d.c3,.slice d.A4 d.n4 d.c4] 27);replace J:=J.below aa;replace K:=K.below aa;have Y:=j.b1.cell)|((with_reducible refine gK j ?_ _ rfl rfl _ bg rfl (iF _ _) ?_);(·first|rfl|(simp[aF,yielded];done)))|((with_reducible refine mJ j ?_ _ rfl rfl _ bg rfl (iF _ _) ?_);(·rfl))|(go_at_call 9;(have H:=LH K (Z.out.below j.below) iH (uD v) J 250 32 (by decide));(unfold FY jl.cells at H);(rw[afg,hy]at H);(with_reducible refine H.mono ?_);clear H;rintro e d⟨M,Y,uK,rfl,N,U,V⟩;obtain⟨O,rfl,Q⟩:=V rfl;clear U V;replace j:=j.grow N;replace J:=J.below N;replace K:=K.below N;replace j:=j.alloc 44 (jf y O) d rfl;simp only[bQ,aZ]at j;have aa:=(aH d d).alloc ig (.cells (jf y O) 44);replace J:=J.below aa;replace K:=K.below aa;have Xa:=j.b1.cell;replace Q:=Q.below aa)|((first|(go_at_call 9;(have H:=LH K (Z.out.below j.below) iH (uD v) J 251 32 (by decide));(unfold FY jl.cells at H);(rw[afh]at H);(with_reducible refine H.mono ?_))|(go_at_call 9;(have H:=LH K (Z.out.below j.below) iH (uD v) J 1 33 (by decide));(unfold FY jl.cells at H);(rw[alg]at H);(with_reducible refine H.mono ?_)));clear H;rintro e d⟨M,Y,uK,rfl,N,U,V⟩;obtain rfl:=U (by decide);clear U V;replace j:=j.grow N;replace J:=J.below N;replace K:=K.below N;replace j:=j.alloc 44 (nR) d rfl;simp only[bQ,aZ]at j;have aa:=(aH d d).alloc ig (.cells nR 44);replace J:=J.below aa;replace K:=K.below aa;have Xa:=j.b1.cell;replace Q:=(Q.below N).below aa)|(go_at_call 9;(have H:=ahO K (Z.out.below j.below) J);(unfold jl.cells at H);(with_reducible refine H.mono ?_);clear H;rintro e d⟨M,Y,uK,rfl,N⟩;replace j:=j.grow N;replace J:=J.below N;replace K:=K.below N;replace j:=j.alloc 44 (jf iH M) d rfl;simp only[bQ,aZ]at j;have aa:=(aH d d).alloc ig (.cells (jf iH M) 44);replace J:=J.below aa;replace K:=K.below aa;have U:=j.b1.cell;replace Q:=(Q.below N).below aa)|(go_at_call 14;(have H:=Bj K iH (uD v) J);(unfold jl.cells rE at H);(rw[afi]at H);(with_reducible refine H.mono ?_);clear H;rintro e d⟨rfl,M⟩;replace j:=j.grow M;replace J:=J.below M;replace K:=K.below M;replace Q:=Q.below M;have Y:=j.b1.cell;have uK:=j.b2.cell;have N:=aiZ y O;have U:=afL y O;have V:=afM y O;have Xa:=afN y O;have J6:=afO y O;rw[ac]at N;rw[ad]at U;rw[ae]at V;rw[af]at Xa;rw[ag]at J6;clear ac ad ae af ag;obtain⟨_,J7⟩:=dM.1 N;obtain⟨_,Vo⟩:=dM.1 U;obtain⟨_,al⟩:=dM.1 V;obtain⟨_,an⟩:=dM.1 Xa;obtain⟨_,am⟩:=dM.1 J6)|(go_at_call 18;(have H:=QG K y O Q);(unfold jl.cells at H);(rw[ak]at H);(with_reducible refine H.mono ?_);clear H;rintro e d⟨rfl,M⟩;replace j:=j.grow M;replace J:=J.below M;replace K:=K.below M;have Y:=j.b1.cell)|(go_at_call 15;(have H:=akN K iH (uD v) J 32);(unfold jl.cells at H);(with_reducible refine H.mono ?_);clear H;rintro e d⟨M,c9,rfl,TN,Y⟩;replace j:=j.grow Y)|(go_at_call 21;(have H:=ag8 _ _ c9 _ _ TN rfl Za.2);(rw[Za.1]at H);(with_reducible refine H.mono ?_);clear H;rintro e d⟨rfl,M⟩;replace j:=j.grow M));go_ret;exact⟨rfl,j.below⟩
end Go.Proofs.YthnmgjngniciaaaGreatDoor
