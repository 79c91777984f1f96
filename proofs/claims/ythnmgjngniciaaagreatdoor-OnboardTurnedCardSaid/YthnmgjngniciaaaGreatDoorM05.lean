/- Parts. -/
import Derived.Test.YthnmgjngniciaaaGreatDoorM04
import Derived.Test.YthnmgjngniciaaaGreatDoorM03
import Derived.Test.YthnmgjngniciaaaGreatDoorM02
set_option linter.all false
set_option maxHeartbeats 16000000
set_option maxRecDepth 8000
open Bool renaming and_eq_true→bM
open List renaming drop_of_length_le→dJ,getElem?_map→bW,length_cons→bK,length_map→eU,map→bV,mem_cons→bJ,mem_of_getElem?→bP,mem_singleton→dN,setIfInBounds_toArray→ay,set_cons_succ→aB,set_cons_zero→aA
open Nat renaming le_refl→aW,reduceAdd→aT,zero_add→aJ,zero_le→aV
namespace Go.Proofs.YthnmgjngniciaaaGreatDoor
open Go.RowKit Go.Shelf Tryz
open Act renaming put→aP
open Below renaming refl→aH
open Lib renaming hid→ah
open Region renaming binds→aC,wanted→aF
open Tryz renaming prog→aj
open Value renaming oneCell'→aK
variable{e:Int}{l:List Sp}{path:List St}{m:Ma}{y:Sp}{t:Tp}{w:World}
theorem abX{m:jl}(h:jE w t m):jr t=if 40<m.n1\/80<m.n2\/80<m.n3\/30<m.n4 then 2 else if t.edges.any (λn=>decide (n<1) || decide (1000000<n)) then 1 else if og t [] t.iI≠0 then og t [] t.iI else if wH t [] t.jW≠0 then wH t [] t.jW else tH t [] t.routes:=by rw[<-h.e1,<-h.e2,<-h.e3,<-h.e4];rfl
theorem yK{m:jl}(h:jE w t m):Calls aj 36 #[.agg m.cells] w λe w'=>e=.returned (.int .i64 (jr t))/\w w':=by
 have d:Own w _ [_]:=(Own.nil w).alloc 27 m.cells _ rfl;have ae:=d.b0.cell;have hr:=abX h;have bL:=h.l1;have bN:=h.l2;have bO:=h.l3;have bR:=h.l4;have bX:=h.q2;have ca:=h.q3;have cc:=h.q4;have J:=ah hr;clear hr;have aD:=λW (hW:w W)=>abK 73 Ph #[] (λn=>decide (n<1) || decide (1000000<n)) m.A1 m.n1 m.c1 t.edges W (λW' x bB=>(abT x W').mono λ_ _ ⟨h1,h2⟩=>⟨h1,0,h2⟩) (h.lies.edges.below hW) h.e1 (by omega);unfold jl.cells at*;by_cases a7:40<m.n1\/80<m.n2\/80<m.n3\/30<m.n4
 ·have j:=J.out;rw[if_pos a7]at j;replace J:=ah j;clear j;by_cases h1:40<m.n1;·(have e1:decide (40<(m.n1:Int))=true:=by simp;omega);go_enter func36,ntmps36;go_wp2;go_ret;exact⟨by simp[J.out],d.below⟩
  have e1:decide (40<(m.n1:Int))=false:=by simp;omega
  by_cases h2:80<m.n2;·(have e2:decide (80<(m.n2:Int))=true:=by simp;omega);go_enter func36,ntmps36;go_wp2;go_ret;exact⟨by simp[J.out],d.below⟩
  have e2:decide (80<(m.n2:Int))=false:=by simp;omega
  by_cases h3:80<m.n3;·(have e3:decide (80<(m.n3:Int))=true:=by simp;omega);go_enter func36,ntmps36;go_wp2;go_ret;exact⟨by simp[J.out],d.below⟩
  have e3:decide (80<(m.n3:Int))=false:=by simp;omega
  have e4:decide (30<(m.n4:Int))=true:=by simp;omega
  go_enter func36,ntmps36;go_wp2;go_ret;exact⟨by simp[J.out],d.below⟩
 have j:=J.out;rw[if_neg a7]at j;have e1:decide (40<(m.n1:Int))=false:=by simp;omega
 have e2:decide (80<(m.n2:Int))=false:=by simp;omega
 have e3:decide (80<(m.n3:Int))=false:=by simp;omega
 have e4:decide (30<(m.n4:Int))=false:=by simp;omega
 cases aw:(t.edges.any λn=>decide (n<1) || decide (1000000<n)) with
 |false=>
  rw[aw]at aD;rw[if_neg (by rw[aw];simp)]at j;replace J:=ah j;clear j aw a7;go_enter func36,ntmps36;go_wp2_with(first|((with_reducible refine(aD _ d.below).mono ?_);rintro e w2⟨rfl,Z⟩;replace d:=d.grow Z;have uU:=d.b0.cell));clear ae uU aD;go_loopw [42] (λi wr=> ∃k:Nat,i=.int .i64 k/\k<=m.n2/\Hid (og t [] t.iI=og t (t.iI.take k) (t.iI.drop k))/\Own w wr [(w,27,#[.slice m.A1 m.n1 m.c1,.slice m.A2 m.n2 m.c2,.slice m.A3 m.n3 m.c3,.slice m.A4 m.n4 m.c4])]) (λi _=>m.n2-(intOf i).toNat);case atStart=>exact⟨0,rfl,aV _,ah (by simp),d⟩
  case round=>
   clear d;obtain⟨k,rfl,H,hap,d⟩:=hrel;by_cases aM:k<m.n2
   ·obtain⟨a5,hj⟩:=aq5 h.e2 aM;obtain⟨g,off,bk,hg,a0,a1,a2,a3⟩:=h.lies.iI.jt hj;have Cm:=(d.below.cell (p:=⟨g,off+k*4,none⟩) hg).trans a0;have CB:=(d.below.cell (p:=⟨g,off+k*4+1,none⟩) hg).trans a1;have RZ:=(d.below.cell (p:=⟨g,off+k*4+2,none⟩) hg).trans a2;have bd:=(d.below.cell (p:=⟨g,off+k*4+3,none⟩) hg).trans a3;have K:=RU (t:=t) hj;rw[<-hap.out]at K;have ar:=λW=>ah7 h a5.a W;have au:=λW=>ah7 h a5.b W;have av:=λW (hW:w W)=>afz (VZ (h.below hW) k H) a5.a a5.b;simp only[jl.cells,bk]at d ar au av ⊢;obtain⟨⟨U,x2⟩,⟨Y,x4⟩⟩:=a5;simp only at ar au av Cm CB RZ bd K;have a6:=Jz ⟨U,x2⟩ ⟨Y,x4⟩;have Q:=Own.new1 d 127 #[.int .i64 U,.int .i64 x2,.int .i64 Y,.int .i64 x4];have ax:=Q.b0.cell;have aL:=Q.b1.cell;have ae:=d.b0.cell;clear hj a0 a1 a2 a3;generalize Cj t ⟨U,x2⟩=ea at*;generalize Cj t ⟨Y,x4⟩=eb at*;generalize zU (t.iI.take k) ⟨U,x2⟩ ⟨Y,x4⟩=jo at*;obtain⟨sm,bc⟩:=fD (decide ((⟨U,x2⟩:En)=⟨Y,x4⟩));rw[<-bc]at a6;(have pW:og t [] t.iI=if ea=false\/eb=false\/sm=true then 1 else if jo=true then 5 else og t (t.iI.take (k+1)) (t.iI.drop (k+1)):=by rw[K,bc];simp);clear K bc;cases ea with
    |false=>have j:=J.out;rw[if_pos (.inl rfl)]at pW;rw[pW,if_pos (by decide)]at j;replace J:=ah j;clear j pW au av a6;go_wp2_with(first|((with_reducible refine(ar _).mono ?_);rintro e w1⟨rfl,Z⟩;replace d:=Q.grow Z;have uU:=d.b0.cell;have az:=d.b1.cell));go_ret;exact⟨by simp[J.out],d.below⟩
    |true=>
     cases eb with
     |false=>have j:=J.out;rw[if_pos (.inr (.inl rfl))]at pW;rw[pW,if_pos (by decide)]at j;replace J:=ah j;clear j pW av a6;go_wp2_with(first|((with_reducible refine(ar _).mono ?_);rintro e w1⟨rfl,Z⟩;replace d:=Q.grow Z;have uU:=d.b0.cell;have az:=d.b1.cell)|((with_reducible refine(au _).mono ?_);rintro e w2⟨rfl,Z⟩;replace d:=d.grow Z;have a8:=d.b1.cell));go_ret;exact⟨by simp[J.out],d.below⟩
     |true=>
      cases sm with
      |false=>rw[if_neg (by simp)]at pW;go_wp2_with(first|((with_reducible refine(ar _).mono ?_);rintro e w1⟨rfl,Z⟩;replace d:=Q.grow Z;have uU:=d.b0.cell;have az:=d.b1.cell)|((with_reducible refine(au _).mono ?_);rintro e w2⟨rfl,Z⟩;replace d:=d.grow Z;have a8:=d.b1.cell));clear ae ax aL uU az a8 ar au a6;cases jo with|false=>rw[if_neg (by simp)]at pW;have Zv:=ah pW;clear pW hap;refine ara (by kernel_rfl) ?_;(repeat(first|(apply gX.want rfl;(·intro w' H aa Q' O;have M:=d.grow H;have ad:=M.below;have ak:=M.b0.cell;have al:=M.b1.cell;go_wp2_with((with_reducible refine(av _ ad).mono ?_);rintro e w3⟨rfl,ac⟩);first|exact aH _ _|exact ac);(·simp only[aP,ay,aA,aB];rfl))));refine gX.nil ?_;intro w' H;have ag:=d.grow H;go_wp2_with fail;go_roundw;(case rel=>exact⟨k+1,by go_num,by omega,Zv,⟨ag.below,λx V=>ag.blk x (by simp at V;rcases V with rfl |rfl <;> simp),by simp⟩⟩);case measure=>simp[intOf];omega|true=>have j:=J.out;rw[if_pos rfl]at pW;rw[pW,if_pos (by decide)]at j;replace J:=ah j;clear j pW;refine ara (by kernel_rfl) ?_;(repeat(first|(apply gX.want rfl;(·intro w' H aa Q' O;have M:=d.grow H;have ad:=M.below;have ak:=M.b0.cell;have al:=M.b1.cell;go_wp2_with((with_reducible refine(av _ ad).mono ?_);rintro e w3⟨rfl,ac⟩);first|exact aH _ _|exact ac);(·simp only[aP,ay,aA,aB];rfl))));refine gX.nil ?_;intro w' H;have af:=(d.grow H).below;go_wp2_with fail;go_ret;exact⟨by simp[J.out],af⟩
      |true=>have j:=J.out;rw[if_pos (.inr (.inr rfl))]at pW;rw[pW,if_pos (by decide)]at j;replace J:=ah j;clear j pW av;go_wp2_with(first|((with_reducible refine(ar _).mono ?_);rintro e w1⟨rfl,Z⟩;replace d:=Q.grow Z;have uU:=d.b0.cell;have az:=d.b1.cell)|((with_reducible refine(au _).mono ?_);rintro e w2⟨rfl,Z⟩;replace d:=d.grow Z;have a8:=d.b1.cell));go_ret;exact⟨by simp[J.out],d.below⟩
   ·(obtain rfl:k=m.n2:=by omega);(have ap:og t [] t.iI=0:=by rw[hap.out,dJ (by rw[h.e2];exact aW _),og.eq_def]);have j:=J.out;rw[if_neg (by rw[ap];simp)]at j;replace J:=ah j;clear j ap hap;have ae:=d.b0.cell;go_wp2_with fail;clear ae;go_loopw [80] (λi wr=> ∃k:Nat,i=.int .i64 k/\k<=m.n3/\Hid (wH t [] t.jW=wH t (t.jW.take k) (t.jW.drop k))/\Own w wr [(w,27,#[.slice m.A1 m.n1 m.c1,.slice m.A2 m.n2 m.c2,.slice m.A3 m.n3 m.c3,.slice m.A4 m.n4 m.c4])]) (λi _=>m.n3-(intOf i).toNat);(case atStart=>exact⟨0,rfl,aV _,ah (by simp),d⟩);case round=>
     clear d;obtain⟨k,rfl,H,hap,d⟩:=hrel;by_cases aM:k<m.n3
     ·obtain⟨b,hb⟩:=aq5 h.e3 aM;obtain⟨g,off,bm,hg,a0,a1,a2⟩:=h.lies.jW.bl hb;have Cm:=(d.below.cell (p:=⟨g,off+k*3,none⟩) hg).trans a0;have CB:=(d.below.cell (p:=⟨g,off+k*3+1,none⟩) hg).trans a1;have RZ:=(d.below.cell (p:=⟨g,off+k*3+2,none⟩) hg).trans a2;have K:=Zw (t:=t) hb;rw[<-hap.out]at K;have hm:=λW=>EG h b.edge W;have lF:=λW (hW:w W)=>Hw (abU (h.below hW) k H) b.id;simp only[jl.cells,bm]at d hm lF ⊢;obtain⟨U,x2,Y⟩:=b;simp only at hm lF Cm CB RZ K;have Q:=Own.new1 d 114 #[.int .i64 U,.int .i64 x2,.int .i64 Y];have ax:=Q.b0.cell;have aL:=Q.b1.cell;have ae:=d.b0.cell;clear hb a0 a1 a2;have JB:= @BL t x2;generalize iW t x2=th at*;by_cases h1:U<0;(·(have f1:decide (U<0)=true:=by simp;omega);clear JB lF;have j:=J.out;rw[if_pos (.inl h1)]at K;rw[K,if_pos (by decide)]at j;replace J:=ah j;clear j K;go_wp2;generalize (wr.alloc (.cells #[.int .i64 U,.int .i64 x2,.int .i64 Y] 114))=W0 at Q ⊢;replace d:=Q;refine ara (by kernel_rfl) ?_;(repeat(first|(apply gX.want rfl;(·intro w' H aa Q' O;have M:=d.grow H;have ad:=M.below;have ak:=M.b0.cell;have al:=M.b1.cell;go_wp2_with((with_reducible refine(hm _).mono ?_);rintro e w3⟨rfl,ac⟩);first|exact aH _ _);(·simp only[aP,ay,aA,aB];rfl))|(apply gX.skip rfl;·simp only[aP,ay,aA,aB];rfl)));refine gX.nil ?_;intro w' H;have af:=(d.grow H).below;go_wp2_with fail;go_ret;exact⟨by simp[J.out],af⟩);(have f1:decide (U<0)=false:=by simp;omega);by_cases h2:16777214<U;(·(have f2:decide (16777214<U)=true:=by simp;omega);clear JB lF;have j:=J.out;rw[if_pos (.inr (.inl h2))]at K;rw[K,if_pos (by decide)]at j;replace J:=ah j;clear j K;go_wp2;generalize (wr.alloc (.cells #[.int .i64 U,.int .i64 x2,.int .i64 Y] 114))=W0 at Q ⊢;replace d:=Q;refine ara (by kernel_rfl) ?_;(repeat(first|(apply gX.want rfl;(·intro w' H aa Q' O;have M:=d.grow H;have ad:=M.below;have ak:=M.b0.cell;have al:=M.b1.cell;go_wp2_with((with_reducible refine(hm _).mono ?_);rintro e w3⟨rfl,ac⟩);first|exact aH _ _);(·simp only[aP,ay,aA,aB];rfl))|(apply gX.skip rfl;·simp only[aP,ay,aA,aB];rfl)));refine gX.nil ?_;intro w' H;have af:=(d.grow H).below;go_wp2_with fail;go_ret;exact⟨by simp[J.out],af⟩);(have f2:decide (16777214<U)=false:=by simp;omega);cases th with
      |false=>clear JB lF;have j:=J.out;rw[if_pos (.inr (.inr (.inl rfl)))]at K;rw[K,if_pos (by decide)]at j;replace J:=ah j;clear j K;go_wp2;generalize (wr.alloc (.cells #[.int .i64 U,.int .i64 x2,.int .i64 Y] 114))=W0 at Q ⊢;replace d:=Q;refine ara (by kernel_rfl) ?_;(repeat(first|(apply gX.want rfl;(·intro w' H aa Q' O;have M:=d.grow H;have ad:=M.below;have ak:=M.b0.cell;have al:=M.b1.cell;go_wp2_with((with_reducible refine(hm _).mono ?_);rintro e w3⟨rfl,ac⟩);first|exact aH _ _|exact ac);(·simp only[aP,ay,aA,aB];rfl))|(apply gX.skip rfl;·simp only[aP,ay,aA,aB];rfl)));refine gX.nil ?_;intro w' H;have af:=(d.grow H).below;go_wp2_with fail;go_ret;exact⟨by simp[J.out],af⟩
      |true=>
       obtain⟨i,rfl,bh,bf⟩:=JB rfl;clear JB;by_cases h4:Y<0;(·(have f4:decide (Y<0)=true:=by simp;omega);clear lF;have j:=J.out;rw[if_pos (.inr (.inr (.inr (.inl h4))))]at K;rw[K,if_pos (by decide)]at j;replace J:=ah j;clear j K;go_wp2;generalize (wr.alloc (.cells #[.int .i64 U,.int .i64 i,.int .i64 Y] 114))=W0 at Q ⊢;replace d:=Q;refine ara (by kernel_rfl) ?_;(repeat(first|(apply gX.want rfl;(·intro w' H aa Q' O;have M:=d.grow H;have ad:=M.below;have ak:=M.b0.cell;have al:=M.b1.cell;go_wp2_with((with_reducible refine(hm _).mono ?_);rintro e w3⟨rfl,ac⟩);first|exact aH _ _|exact ac);(·simp only[aP,ay,aA,aB];rfl))|(apply gX.skip rfl;·simp only[aP,ay,aA,aB];rfl)));refine gX.nil ?_;intro w' H;have af:=(d.grow H).below;go_wp2_with fail;go_ret;exact⟨by simp[J.out],af⟩);(have f4:decide (Y<0)=false:=by simp;omega);obtain⟨ge,CG,bu,bq,c0⟩:=h.lies.edges.int bh;have cd:=λW (hW:w W)=>(hW.cell (p:=⟨ge,CG+i,none⟩) bq).trans c0;(have bE:i<m.n1:=by have:=h.e1;omega);rw[bf]at K;clear c0 bf bh;generalize t.edges[i]! =ev at*;simp only[bu]at Q ax ae d hm ⊢;by_cases h5:ev<Y;(·(have f5:decide (ev<Y)=true:=by simp;omega);clear lF;have j:=J.out;rw[if_pos (.inr (.inr (.inr (.inr h5))))]at K;rw[K,if_pos (by decide)]at j;replace J:=ah j;clear j K;go_wp2;generalize (wr.alloc (.cells #[.int .i64 U,.int .i64 i,.int .i64 Y] 114))=W0 at Q ⊢;replace d:=Q;refine ara (by kernel_rfl) ?_;(repeat(first|(apply gX.want rfl;(·intro w' H aa Q' O;have M:=d.grow H;have ad:=M.below;have ak:=M.b0.cell;have al:=M.b1.cell;go_wp2_with((with_reducible refine(hm _).mono ?_);rintro e w3⟨rfl,ac⟩);first|exact aH _ _|exact ac);(·simp only[aP,ay,aA,aB];rfl))));refine gX.nil ?_;intro w' H;have af:=(d.grow H).below;go_wp2_with fail;go_ret;exact⟨by simp[J.out],af⟩);(have f5:decide (ev<Y)=false:=by simp;omega);rw[if_neg (by simp;omega)]at K;have aE:(oz ⟨[],[],t.jW.take k,[]⟩ U).isSome=(t.jW.take k).any (λx=>decide (x.id=U)):=RX _ _;generalize bo:(oz ⟨[],[],t.jW.take k,[]⟩ U).getD ⟨0,0,0⟩=b0 at*;obtain⟨y1,y2,y3⟩:=b0;rw[<-aE]at K;clear bo aE;generalize (oz ⟨[],[],t.jW.take k,[]⟩ U).isSome=fd at*;go_wp2;generalize (wr.alloc (.cells #[.int .i64 U,.int .i64 i,.int .i64 Y] 114))=W0 at Q ⊢;replace d:=Q;clear ax aL ae Q;refine ara (by kernel_rfl) ?_;(repeat(first|(apply gX.want rfl;(·intro w' H aa Q' O;have M:=d.grow H;have ad:=M.below;have ak:=M.b0.cell;have al:=M.b1.cell;go_wp2_with((with_reducible refine(hm _).mono ?_);rintro e w3⟨rfl,ac⟩);first|exact aH _ _|exact ac);(·simp only[aP,ay,aA,aB];rfl))));refine gX.nil ?_;intro w' H;replace d:=d.grow H;clear H;go_wp2_with fail;apply gu (Below w') (λW=>aq3 gY 1) (λ_ _ _ h1 h2=>h1.trans h2) (vN w' 12) (λ_ _ _ h=>h.1) (λ_ _=>iR _ _ _ _) (λ_ _=>True) (λ_=>trivial) (λ_ _ _ _ _ _ _=>trivial);(case lX=>intro u;simp only[bV,aq9,aP,ay,aA,aB,aT,aJ];rfl);(case hm=>kernel_rfl);(case hB=>kernel_rfl);(case hA=>kernel_rfl);case hap=>kernel_rfl
       repeat(first
          |(apply fM.is
            ·
              (intro u w' H an N
               simp[fO,aC,gI,Is]at N
               refine fC ?_ ?_
               ·
                 first
                 |rfl
               intro aa O
               have M:=d.grow H;have ad:=M.below;have ak:=M.b0.cell;have al:=M.b1.cell
               go_wp2_with ((with_reducible refine(lF _ ad).mono ?_);rintro e w3⟨rfl,ac⟩)
               try simp only[N]at O
               refine O _ _ ?_ rfl
               first |exact iR _ _ _ _ |exact kM H.size ac (by decide)))
          |(refine fM.one (pV w' 114 (#[.int .i64 0, .int .i64 0, .int .i64 0] : Array Value).size) ?_ ?_
            ·
              (intro u w' H an N
               clear N
               refine fC ?_ ?_
               ·
                 first
                 |rfl
               intro aa O
               go_wp2_with fail
               exact O _ _ (kM H.size jm (by decide)) ⟨w',_,rfl,H.size,fK.new w' 114 (gC:Array Value),rfl⟩))
          |(refine fM.word (CU w' 11 114 (#[.int .i64 y1, .int .i64 y2, .int .i64 y3])) ?_ ?_
            ·
              (intro u w' H an N
               simp[fO,aC,gI,Is]at N
               obtain⟨⟨g,cs,aR,hg,ai,a4⟩,V⟩:=N
               refine jF ?_ ?_
               ·
                 first
                 |rfl
               intro aa O
               have jL: ∀k,k≠g->(w'.setRow g (#[.int .i64 y1,.int .i64 y2,.int .i64 y3])).heap[k]? =w'.heap[k]? :=λk H=>setRow_other w' g k _ H
               exact wp_store_row 114 _ _ rfl g (#[.int .i64 y1, .int .i64 y2, .int .i64 y3]) (by first | exact aR ) (by first | exact V.1 ) 114 cs ai (by kernel_rfl) a4 (by simp [aK]) (O undef _
                 ⟨jk gY hg _,λh=>absurd rfl h,λ_=> .inr ⟨g,_,cs,(#[.int .i64 y1,.int .i64 y2,.int .i64 y3]),ai,ai.row _,a4.symm,by simp,jL⟩⟩
                 ⟨g,by rw[jH u undef (by decide)];exact aR,hg,ai.row _⟩))))
       refine fM.last (qh ?_) ?_;(·simp only[gQ];(repeat(refine⟨?_,?_⟩;·first|exact mM _|exact qH|exact pz (λi hf e=>hf _ rfl ⟨11,.data⟩ (by simp) rfl e.symm)));exact trivial);intro u w2 a9 _ N;simp only[gQ]at N;refine⟨rfl,?_⟩;intro aa O;obtain⟨gb,bA,bj,ai⟩:=N 12 _ rfl;have V4:=N 10 _ rfl;simp only[gI,Is]at V4;clear N;have ag:=d.grow a9;clear ai bj;simp only[V4];clear V4;cases fd with|false=>rw[if_neg (by simp)]at K;have Zv:=ah K;clear K;go_wp2_with fail;go_roundw;(case rel=>exact⟨k+1,by go_num,by omega,Zv,⟨ag.below,λx V=>ag.blk x (by simp at V;rcases V with rfl |rfl <;> simp),by simp⟩⟩);case measure=>simp[intOf];omega|true=>have j:=J.out;rw[if_pos rfl]at K;rw[K,if_pos (by decide)]at j;replace J:=ah j;clear j K;go_wp2_with fail;go_ret;exact⟨by simp[J.out],ag.below⟩
     ·(obtain rfl:k=m.n3:=by omega);(have ap:wH t [] t.jW=0:=by rw[hap.out,dJ (by rw[h.e3];exact aW _),wH.eq_def]);have j:=J.out;rw[if_neg (by rw[ap];simp)]at j;replace J:=ah j;clear j ap hap;have ae:=d.b0.cell;go_wp2_with fail;clear ae;go_loopw [132] (λi wr=> ∃k:Nat,i=.int .i64 k/\k<=m.n4/\Hid (tH t [] t.routes=tH t (t.routes.take k) (t.routes.drop k))/\Own w wr [(w,27,#[.slice m.A1 m.n1 m.c1,.slice m.A2 m.n2 m.c2,.slice m.A3 m.n3 m.c3,.slice m.A4 m.n4 m.c4])]) (λi _=>m.n4-(intOf i).toNat);(case atStart=>exact⟨0,rfl,aV _,ah (by simp),d⟩);case round=>
       clear d;obtain⟨k,rfl,H,hap,d⟩:=hrel;by_cases aM:k<m.n4
       ·(have bi:m.rs.length=m.n4:=by rw[<-h.e4,<-h.lies.is,eU]);obtain⟨p,hp⟩:=aq5 bi aM;(have hr:t.routes[k]? =some p.1:=by rw[<-h.lies.is,bW,hp];rfl);obtain⟨g,off,bn,hg,a0,a1,a2,a3⟩:=h.lies.routes.rt hp;have zD:=h.lies.paths p (bP hp);have bx:p.1.path.length<=100:=h.l5 _ (bP hr);have bw:p.1.path.length<=p.2.2:=h.q5 _ (bP hp);have Cm:=(d.below.cell (p:=⟨g,off+k*4,none⟩) hg).trans a0;have CB:=(d.below.cell (p:=⟨g,off+k*4+1,none⟩) hg).trans a1;have RZ:=(d.below.cell (p:=⟨g,off+k*4+2,none⟩) hg).trans a2;have bd:=(d.below.cell (p:=⟨g,off+k*4+3,none⟩) hg).trans a3;have K:=RV (t:=t) hr;rw[<-hap.out]at K;have ba:=λW (hW:w W)=>abS (h.below hW) p.1 p.2.1 p.1.path.length p.2.2 (zD.below hW) rfl bx bw;have bb:=λW (hW:w W)=>abV (V3 (h.below hW) k H) p.1.id;have aE:(sJ ⟨[],[],[],t.routes.take k⟩ p.1.id).isSome=(t.routes.take k).any (λx=>decide (x.id=p.1.id)):=RX _ _;rw[<-aE]at K;obtain⟨⟨U,x2,Y,x4⟩,Ap,cp⟩:=p;simp only[jl.cells,bn]at d ba bb Cm CB RZ bd K ⊢;generalize x2.length=np at*;generalize (sJ ⟨[],[],[],t.routes.take k⟩ U).isSome=fd at*;generalize yG t ⟨U,x2,Y,x4⟩=re at*;have Q:=Own.new1 d 97 #[.int .i64 U,.slice Ap np cp,.int .i64 Y,.int .i64 x4];have ax:=Q.b0.cell;have aL:=Q.b1.cell;have ae:=d.b0.cell;clear hr hp a0 a1 a2 a3 aE zD bi;by_cases h1:re=0
        ·subst h1;rw[if_neg (by simp)]at K;go_wp2_with(first|((with_reducible refine(ba _ Q.below).mono ?_);rintro e w1⟨rfl,Z⟩;replace d:=Q.grow Z;have uU:=d.b0.cell;have az:=d.b1.cell));clear ax aL ae Q;apply gu (Below w1) (λW=>aq3 gY 1) (λ_ _ _ h1 h2=>h1.trans h2) (vN w1 12) (λ_ _ _ h=>h.1) (λ_ _=>iR _ _ _ _) (λ_ _=>True) (λ_=>trivial) (λ_ _ _ _ _ _ _=>trivial);(case lX=>intro u;simp only[bV,aq9,aP,ay,aA,aB,aT,aJ];rfl);(case hm=>kernel_rfl);(case hB=>kernel_rfl);(case hA=>kernel_rfl);case hap=>kernel_rfl
         repeat(first
            |(apply fM.is
              ·
                (intro u w' H an N
                 simp[fO,aC,gI,Is]at N
                 refine fC ?_ ?_
                 ·
                   first
                   |rfl
                 intro aa O
                 have M:=d.grow H;have ad:=M.below;have ak:=M.b0.cell;have al:=M.b1.cell
                 go_wp2_with ((with_reducible refine(bb _ ad).mono ?_);rintro e w3⟨⟨x,rfl,am,aq⟩,ac⟩)
                 try simp only[N]at O
                 refine O _ _ ?_ rfl
                 first |exact iR _ _ _ _))
            |(refine fM.one (pV w1 97 (#[.int .i64 0, .slice none 0 0, .int .i64 0, .int .i64 0] : Array Value).size) ?_ ?_
              ·
                (intro u w' H an N
                 clear N
                 refine fC ?_ ?_
                 ·
                   first
                   |rfl
                 intro aa O
                 go_wp2_with fail
                 exact O _ _ (kM H.size jm (by decide)) ⟨w',_,rfl,H.size,fK.new w' 97 (gD:Array Value),rfl⟩))
            |(refine fM.one (JA (alO (#[.int .i64 0, .slice none 0 0, .int .i64 0, .int .i64 0] : Array Value).size fd)) ?_ ?_
              ·
                (intro u w' H an N
                 simp[fO,aC,gI,Is]at N
                 refine fC ?_ ?_
                 ·
                   first
                   |rfl
                 intro aa O
                 have M:=d.grow H;have ad:=M.below;have ak:=M.b0.cell;have al:=M.b1.cell
                 go_wp2_with ((with_reducible refine(bb _ ad).mono ?_);rintro e w3⟨⟨x,rfl,am,aq⟩,ac⟩)
                 try simp only[N]at O
                 exact O _ _ (kM H.size ac (by decide)) ⟨_,rfl,by first |assumption,by first |assumption⟩))
            |(refine fM.one (JA (alO (#[.int .i64 0, .slice none 0 0, .int .i64 0, .int .i64 0] : Array Value).size fd)) ?_ ?_
              ·
                (intro u w' H an N
                 simp[fO,aC,gI,Is]at N
                 obtain⟨x,V,am,aq⟩:=N
                 refine fC ?_ ?_
                 ·
                   first
                   |rfl
                 intro aa O
                 go_wp2_with fail
                 try simp only[V]at O
                 exact O _ _ (iR _ _ _ _) ⟨x,by first |rfl |exact V,am,aq⟩))
            |(refine fM.one (JA (alP (#[.int .i64 0, .slice none 0 0, .int .i64 0, .int .i64 0] : Array Value).size)) ?_ ?_
              ·
                (intro u w' H an N
                 simp[fO,aC,gI,Is]at N
                 obtain⟨x,V,am,aq⟩:=N
                 refine fC ?_ ?_
                 ·
                   first
                   |rfl
                   |(simp[aF,yielded,V];done)
                 intro aa O
                 go_wp2_with fail
                 try simp only[V]at O
                 exact O _ _ (iR _ _ _ _) ⟨x,rfl,am,aq⟩))
            |(apply fM.is
              ·
                (intro u w' H an N
                 simp[fO,aC,gI,Is]at N
                 obtain⟨x,V,am,aq⟩:=N
                 refine fC ?_ ?_
                 ·
                   first
                   |rfl
                   |(simp[aF,yielded,V];done)
                 intro aa O
                 go_wp2_with fail
                 try simp only[V]at O
                 refine O _ _ (iR _ _ _ _) rfl))
            |(refine fM.word AnyW ?_ ?_
              ·
                (intro u w' H an N
                 simp[fO,aC,gI,Is]at N
                 obtain⟨⟨g,cs,aR,hg,ai,a4⟩,V⟩:=N
                 obtain⟨x,V,am,aq⟩:alP (gD:Array Value).size _:=by first |exact V |exact V.1
                 refine jF ?_ ?_
                 ·
                   first
                   |rfl
                   |(simp[aF,yielded];done)
                 intro aa O
                 have jL: ∀k,k≠g->(w'.setRow g x).heap[k]? =w'.heap[k]? :=λk H=>setRow_other w' g k _ H
                 exact wp_store_row 97 _ _ rfl g x (by first | exact aR | (rw [← aR]; rfl)) (by first | exact V | (rw [← V]; rfl)) 97 cs ai (by rw [am]; kernel_rfl) (a4.trans am.symm) aq (O undef _
                   ⟨jk gY hg _,λh=>absurd rfl h,λ_=> .inr ⟨g,_,cs,x,ai,ai.row _,am.trans a4.symm,by simp,jL⟩⟩
                   trivial))))
         refine fM.last (qh ?_) ?_;(·simp only[gQ];(repeat(refine⟨?_,?_⟩;·first|exact mM _|exact qH|exact Pj _|exact RY|exact pz (λi hf e=>hf _ rfl ⟨11,.data⟩ (by simp) rfl e.symm)));exact trivial);intro u w2 a9 _ N;simp only[gQ]at N;refine⟨rfl,?_⟩;intro aa O;have V4:=N 10 _ rfl;simp only[gI,Is]at V4;clear N;have ag:=d.grow a9;simp only[V4];clear V4;cases fd with|false=>rw[if_neg (by simp)]at K;have Zv:=ah K;clear K;go_wp2_with fail;go_roundw;(case rel=>exact⟨k+1,by go_num,by omega,Zv,⟨ag.below,λx V=>ag.blk x (by simp at V;rcases V with rfl |rfl <;> simp),by simp⟩⟩);case measure=>simp[intOf];omega|true=>have j:=J.out;rw[if_pos rfl]at K;rw[K]at j;replace J:=ah j;clear j K;go_wp2_with fail;go_ret;exact⟨by simp[J.out],ag.below⟩
        ·have j:=J.out;rw[if_pos h1]at K;rw[K]at j;replace J:=ah j;(have bS:(re != 0)=true:=by simpa using h1);clear j K h1;go_wp2_with(first|((with_reducible refine(ba _ Q.below).mono ?_);rintro e w1⟨rfl,Z⟩;replace d:=Q.grow Z));go_ret;exact⟨by simp[J.out],d.below⟩
       ·(obtain rfl:k=m.n4:=by omega);(have ap:tH t [] t.routes=0:=by rw[hap.out,dJ (by rw[h.e4];exact aW _),tH.eq_def]);have j:=J.out;rw[ap]at j;replace J:=ah j;clear j ap hap;go_wp2_with fail;go_ret;exact⟨by simp[J.out],d.below⟩
 |true=>rw[aw]at aD;rw[if_pos aw]at j;replace J:=ah j;clear j aw;go_enter func36,ntmps36;go_wp2_with(first|((with_reducible refine(aD _ d.below).mono ?_);rintro e w2⟨rfl,Z⟩;replace d:=d.grow Z;have uU:=d.b0.cell));go_ret;exact⟨by simp[J.out],d.below⟩
theorem Dy(s:Sp): ∀l,(zV s l).Perm (s::l)
 | []=> .refl _
 |x::l=>by
  rw[zV];split;·rfl
  ·exact((Dy s l).cons x).trans (.swap s x l)
theorem wJ: ∀l:List Sp,(l.foldr zV []).Perm l
 | []=> .refl _
 |s::l=>by rw[List.foldr_cons];exact(Dy s _).trans ((wJ l).cons s)
theorem EH(d: ∀n∈t.edges,1<=n/\n<=1000000)(h:iW t e=true):0<=e/\1<=jS t e/\jS t e<=1000000:=by unfold iW at h;simp only[bM,decide_eq_true_eq]at h;unfold jS;simp_all
def vO (t:Tp) (path:List St):Int:=(path.map fun s=>jS t s.edge).sum
theorem qI(d: ∀n∈t.edges,1<=n/\n<=1000000): ∀path:List St,(∀s∈path,iW t s.edge=true)->0<=vO t path/\vO t path<=1000000*path.length
 | [],_=>by simp[vO]
 |s::l,h=>by have H:=qI d l λx j=>h x (List.mem_cons_of_mem _ j);have:=EH d (h s (by simp));unfold vO at H ⊢;grind
theorem NJ(d: ∀n∈t.edges,1<=n/\n<=1000000): ∀(path:List St) (a:Int),(∀s∈path,iW t s.edge=true)->0<=a->a+1000000*path.length<=1000000000->path.foldl (λn s=>wrap64 (n+jS t s.edge)) a=a+vO t path
 | [],a,_,_,_=>by simp[vO]
 |s::l,a,h,h0,hb=>by have H:=EH d (h s (by simp));rw[bK]at hb;rw[List.foldl_cons,show wrap64 (a+jS t s.edge)=a+jS t s.edge by unfold wrap64;omega,NJ d l _ (λx j=>h x (List.mem_cons_of_mem _ j)) (by omega) (by omega)];simp only[vO,List.map_cons,List.sum_cons];omega
theorem zY(h:ny t path=0):path.length<=40/\path≠ []/\(∀s∈path,iW t s.edge=true)/\Iw t path=true:=by unfold ny at h;grind
theorem JC(j: ∀n∈t.edges,1<=n/\n<=1000000)(h:ny t path=0):qc t path=vO t path:=by obtain⟨H,_,d,_⟩:=zY h;unfold qc arS;rw[if_pos h,NJ j path 0 d (by omega) (by omega),Int.zero_add]
theorem jC(h:jr t=0): ∀n∈t.edges,1<=n/\n<=1000000:=by intro n hn;unfold jr at h;grind
theorem V5(h:rX t m=true):jr t=0/\qA [] m.path=false/\0<=m.gap/\ ∃x,zC t m=some x/\qg m+m.gap<=x.1:=by unfold rX at h;grind
theorem Ym(t:Tp): ∀(l j:List Bl),wH t j l=0-> ∀b∈l,iW t b.edge=true/\0<=b.at_/\b.at_<=jS t b.edge
 | [],_,_=>by simp
 |x::l,j,h=>by
  rw[wH]at h;split at h;·simp at h
  ·rename_i H;split at h;(·simp at h);·intro b d;rcases bJ.1 d with rfl |d;(·grind);·exact Ym t l _ h b d
theorem NK(h:jr t=0){id:Int}{b:Bl}(d:oz t id=some b):iW t b.edge=true/\0<=b.at_/\b.at_<=jS t b.edge:=by
 have hm:b∈t.jW:=List.mem_of_find?_eq_some d;refine Ym t t.jW [] ?_ b hm;unfold jr at h;split at h;·simp at h
 ·omega
theorem arW(hc:jr t=0){x:Int × Int}(h:zC t m=some x):ny t m.path=0/\x.1+x.2=qc t m.path/\0<=x.2:=by
 unfold zC at h;split at h;·cases h
 ·rename_i b d;obtain⟨j,H,J⟩:=NK hc d;grind
theorem Dz: ∀(l:List Sc) (last:Int),pU last l=true-> ∀s∈l,last<s.kL/\s.kL<=qg ⟨0,false,[],l,0⟩
 | [],_,_=>by simp
 | [x],last,h=>by rw[pU]at h;simp only[bM,decide_eq_true_eq]at h;intro s d;rw[dN.1 d];exact⟨h.1.1.1.1,by simp[qg]⟩
 |x::y::l,last,h=>by
  rw[pU]at h;simp only[bM,decide_eq_true_eq]at h;have j:=Dz (y::l) x.kL h.2;intro s d;have e:qg ⟨0,false,[],x::y::l,0⟩=qg ⟨0,false,[],y::l,0⟩:=by rfl
  rw[e];rcases bJ.1 d with rfl |d;·simp_all;omega
  grind
theorem Si: ∀(l:List Sc) (age n:Int),jB l age n=n\/ ∃s∈l,jB l age n=s.kL
 | [],_,_=> .inl rfl
 |s::l,age,n=>by
  rw[jB];split;·simp
  ·rcases Si l age s.kL with h |⟨x,d,h⟩;(·grind);grind
theorem BM(h:rX t m=true):pU 0 m.fP=true/\m.fP≠ []:=by unfold rX at h;grind
theorem JD(h:rX t m=true)(age:Int):0<=jB m.fP age 0/\jB m.fP age 0<=qg m:=by
 obtain⟨d,H⟩:=BM h;have J:=Dz m.fP 0 d;rw[show qg m=qg ⟨0,false,[],m.fP,0⟩ from rfl];cases j:m.fP with
 |nil=>grind
 |cons a l=>
  rw[<-j];rcases Si m.fP age 0 with e |⟨s,hm,e⟩;·simp_all;omega
  grind
theorem EI{x:Tr}{n:Int}(h:jR t x=some n):0<=n/\wY t x=true/\x.held=true/\rX t x.ma=true:=by
 unfold jR at h;split at h
 ·rename_i d;have hm:rX t x.ma=true:=by have:=d.1;unfold wY at this;rw[d.2]at this;simp only[bM,if_true]at this;exact this.2
  refine⟨?_,d.1,d.2,hm⟩;unfold qZ at h;grind
 grind
def uh (l:List Sp) (e x:Int):Prop:= ∃s∈l,s.edge=e/\s.lo<=x/\x<s.hi
def ahead (a b:Sp):Prop:=a.edge<b.edge\/a.edge=b.edge/\a.hi<b.lo
theorem kF(s:Sp)(l:List Sp)(e x:Int):uh (s::l) e x<->(s.edge=e/\s.lo<=x/\x<s.hi)\/uh l e x:=by simp[uh]
theorem Gf(e x:Int): ¬uh [] e x:=by simp[uh]
theorem Sj{m:List Sp}(d:(y::m).Pairwise ahead)(j: ∀s∈y::m,s.lo<s.hi){x:Int}(h:uh (y::m) e x):y.edge<e\/y.edge=e/\y.lo<=x:=by
 rw[List.pairwise_cons]at d;obtain⟨s,hm,H,J,K⟩:=h;rcases bJ.1 hm with rfl |hm;·omega
 ·have N:=j y (by simp);rcases d.1 s hm with h |⟨h,M⟩;·omega
  omega
theorem Sl{m:List Sp}(d:(y::m).Pairwise ahead): ¬uh (y::m) y.edge y.hi:=by
 rw[List.pairwise_cons]at d;rintro⟨s,hm,j,H,J⟩;rcases bJ.1 hm with rfl |hm;·omega
 ·rcases d.1 s hm with h |⟨h,K⟩ <;> omega
theorem Sm{m:List Sp}(d:(y::m).Pairwise ahead)(e x:Int):uh m e x<->uh (y::m) e x/\ ¬(y.edge=e/\y.lo<=x/\x<y.hi):=by
 rw[kF];rw[List.pairwise_cons]at d;constructor;·intro h;refine⟨.inr h,?_⟩;rintro⟨j,H,J⟩;obtain⟨s,hm,K,M,N⟩:=h;rcases d.1 s hm with h |⟨h,O⟩ <;> omega
 grind
theorem JE: ∀l m:List Sp,l.Pairwise ahead->m.Pairwise ahead->(∀s∈l,s.lo<s.hi)->(∀s∈m,s.lo<s.hi)->(∀e x,uh l e x<->uh m e x)->l=m
 | [],[],_,_,_,_,_=>rfl
 | [],y::m,_,_,_,hm,h=>by have d:=hm y (by simp);exact absurd ((h y.edge y.lo).2 ((kF _ _ _ _).2 (.inl ⟨rfl,Int.le_refl _,d⟩))) (Gf _ _)
 |y::l,[],_,_,hm,_,h=>by have d:=hm y (by simp);exact absurd ((h y.edge y.lo).1 ((kF _ _ _ _).2 (.inl ⟨rfl,Int.le_refl _,d⟩))) (Gf _ _)
 |x::l,y::m,pl,pm,hl,hm,h=>by
  have H:=hl x (by simp);have d:=hm y (by simp);have J:=Sj pm hm ((h x.edge x.lo).1 ((kF _ _ _ _).2 (.inl ⟨rfl,Int.le_refl _,H⟩)));have a2:=Sj pl hl ((h y.edge y.lo).2 ((kF _ _ _ _).2 (.inl ⟨rfl,Int.le_refl _,d⟩)));have e1:x.edge=y.edge:=by omega
  have e2:x.lo=y.lo:=by omega
  have e3:x.hi=y.hi:=by rcases Int.lt_trichotomy x.hi y.hi with g |g |g;(·exact absurd ((h x.edge x.hi).2 ((kF _ _ _ _).2 (.inl ⟨e1.symm,by omega,g⟩))) (Sl pl));(·exact g);·exact absurd ((h y.edge y.hi).1 ((kF _ _ _ _).2 (.inl ⟨e1,by omega,g⟩))) (Sl pm)
  have e:x=y:=by obtain⟨M,N,O⟩:=x;obtain⟨Q,U,V⟩:=y;simp only at e1 e2 e3;rw[e1,e2,e3]
  subst e;rw[JE l m (List.pairwise_cons.1 pl).2 (List.pairwise_cons.1 pm).2 (λs j=>hl s (List.mem_cons_of_mem _ j)) (λs j=>hm s (List.mem_cons_of_mem _ j))];intro e K;rw[Sm pl,Sm pm,h]
theorem uj: ∀(l out:List Sp),out.Pairwise (λa b=>ahead b a)->(∀s∈out,s.lo<s.hi)->(∀s∈l,s.lo<s.hi)->l.Pairwise tZ->(∀o,out.head?=some o-> ∀s∈l,tZ o s)->(oI out l).Pairwise (λa b=>ahead b a)/\(∀s∈oI out l,s.lo<s.hi)/\ ∀e x,uh (oI out l) e x<->uh out e x\/uh l e x
 | [],out,hp,ho,_,_,_=>by rw[oI.eq_def];simp only;exact⟨hp,ho,λe x=>⟨.inl,λh=>h.elim id (λh=>absurd h (Gf _ _))⟩⟩
 |s::l,[],_,_,hl,hs,_=>by rw[List.pairwise_cons]at hs;have:=uj l [s] (by simp) (by grind) (λy d=>hl y (List.mem_cons_of_mem _ d)) hs.2 (by grind);rw[oI];refine⟨this.1,this.2.1,λe x=>?_⟩;rw[this.2.2 e x,kF,kF];grind
 |s::l,o::out,hp,ho,hl,hs,hk=>by
  rw[List.pairwise_cons]at hp hs;have H:=hk o rfl s (by simp);have N:=ho o (by simp);have O:=hl s (by simp);rw[oI];by_cases hc:o.edge=s.edge/\s.lo<=o.hi;·rw[if_pos hc];(have Q:o.lo<=s.lo:=by rcases H with h |h <;> omega);have:=uj l (⟨o.edge,o.lo,max o.hi s.hi⟩::out) ?_ ?_ (λy d=>hl y (List.mem_cons_of_mem _ d)) hs.2 ?_;(·refine⟨this.1,this.2.1,λe x=>?_⟩;rw[this.2.2 e x,kF,kF,kF];grind);(·refine List.pairwise_cons.2 ⟨λb j=>?_,hp.2⟩;rcases hp.1 b j with h |h;(·exact .inl h);·exact .inr h);(·grind);·intro U J y d;simp at J;subst J;exact hk o rfl y (List.mem_cons_of_mem _ d)
  ·rw[if_neg hc];(have K:ahead o s:=by rcases H with h |h;(·exact .inl h);·exact .inr ⟨h.1,by omega⟩);have:=uj l (s::o::out) ?_ ?_ (λy d=>hl y (List.mem_cons_of_mem _ d)) hs.2 ?_;(·refine⟨this.1,this.2.1,λe x=>?_⟩;rw[this.2.2 e x,kF,kF s l];grind);(·refine List.pairwise_cons.2 ⟨λb j=>?_,List.pairwise_cons.2 hp⟩;rcases bJ.1 j with rfl |j;(·exact K);·rcases hp.1 b j with h |⟨h,M⟩;(·rcases H with g |g;(·exact .inl (by omega));constructor<;>grind);·rcases H with g |g;(·exact .inl (by omega));·exact .inr ⟨by omega,by omega⟩);(·grind);grind
theorem Sr{a b:Sp}:aiQ a b=true<->tZ a b:=by unfold aiQ tZ;simp
theorem EJ(s:Sp): ∀l:List Sp,l.Pairwise tZ->(zV s l).Pairwise tZ
 | [],_=>by simp[zV]
 |x::l,h=>by
  rw[zV];have J:=List.pairwise_cons.1 h;split;·rename_i H;have j:=Sr.1 H;refine List.pairwise_cons.2 ⟨λy d=>?_,h⟩;rcases bJ.1 d with rfl |d;(·exact j);·have:=J.1 y d;unfold tZ at*;omega
  ·rename_i H;(have j:tZ x s:=by have: ¬tZ s x:=λh=>H (Sr.2 h);unfold tZ at*;omega);refine List.pairwise_cons.2 ⟨λy d=>?_,EJ s l J.2⟩;rcases bJ.1 ((Dy s l).mem_iff.1 d) with rfl |d;(·exact j);grind
theorem CV: ∀l:List Sp,(l.foldr zV []).Pairwise tZ
 | []=> .nil
 |s::l=>by rw[List.foldr_cons];exact EJ s _ (CV l)
theorem afF{s:Sp}(h:lG s=true):s.lo<s.hi:=by unfold lG at h;grind
theorem DC{m:List Sp}(h:l.Perm m)(e x:Int):uh l e x<->uh m e x:=by unfold uh;grind
theorem abZ{d:List Sp}(H:d.Perm (l.filter lG))(N:d.Pairwise tZ):(oI [] d).reverse=qY l:=by unfold qY;have j: ∀s∈l.filter lG,s.lo<s.hi:=λs h=>afF (List.mem_filter.1 h).2;have J:=wJ (l.filter lG);have K: ∀s∈d,s.lo<s.hi:=λs h=>j s (H.mem_iff.1 h);have M: ∀s∈(l.filter lG).foldr zV [],s.lo<s.hi:=λs h=>j s (J.mem_iff.1 h);have a:=uj d [] .nil (by simp) K N (by simp);have b:=uj ((l.filter lG).foldr zV []) [] .nil (by simp) M (CV _) (by simp);refine JE _ _ (List.pairwise_reverse.2 a.1) (List.pairwise_reverse.2 b.1) (λs h=>a.2.1 s (List.mem_reverse.1 h)) (λs h=>b.2.1 s (List.mem_reverse.1 h)) λe x=>?_;rw[DC (List.reverse_perm _),DC (List.reverse_perm _),a.2.2,b.2.2,DC (H.trans J.symm)]
end Go.Proofs.YthnmgjngniciaaaGreatDoor
