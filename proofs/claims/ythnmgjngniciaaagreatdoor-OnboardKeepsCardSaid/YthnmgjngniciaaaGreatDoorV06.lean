/- Parts. -/
import Derived.Shelf.SlSortCmp.NoneTotal
import Derived.Ground.SlsfProg
import Derived.Maps.RangeWalk
import Derived.Test.YthnmgjngniciaaaGreatDoorV04
set_option linter.all false
set_option maxHeartbeats 16000000
set_option maxRecDepth 8000
open Array renaming getElem?_append_left->dS,getElem?_eq_getElem->cO,getElem?_eq_none->dI,getElem?_setIfInBounds_ne->dR
open BitVec renaming ofInt->aQ
open Bool renaming and_eq_true->bM,false_eq_true->bU
open List renaming getElem?_cons_succ->fB,getElem?_cons_zero->eP,getElem?_eq_getElem->aI,getElem?_eq_some_iff->aX,getElem?_map->bW,getElem?_take_of_lt->dG,length_append->bC,length_cons->bK,length_eq_zero_iff->dh,length_map->eU,length_nil->dU,length_take->dX,map->bV,map_append->eX,mem_append->dK,mem_cons->bJ,mem_of_getElem?->bP,mem_singleton->dN,not_mem_nil->dH,setIfInBounds_toArray->ay,set_cons_succ->aB,set_cons_zero->aA,take_of_length_le->aY
open Nat renaming add_zero->bI,le_refl->aW,le_trans->aG,lt_or_ge->eu,mod_eq_of_lt->dF,reduceAdd->aT,zero_add->aJ,zero_le->aV
open Option renaming getD_some->eG,map_some->eF
open Option.some renaming injEq->aO
namespace Go.Proofs.YthnmgjngniciaaaGreatDoor
open Go renaming Addr->δ,Calls->Γ,Ending->ε,Oper->ο,Operand->κ,TypeId->τ,Value->Θ,World->ω,binOp->γ,bodyPost_ret->β,callFunc->ϕ,maxLen->μ,run_underlying->ν,setRow_other->ζ,undef->υ,wpList->Δ,wpList_plain->π,wp_store_row->η,yielded->ψ
open Go.RowKit Go.Shelf Tryz
open Act renaming put->aP
open Addr.mk renaming injEq->cZ
open Below renaming heap_setCell->aN,refl->aH
open Instr renaming findNow->dY
open Lib renaming hid->ah
open Region renaming binds->aC,wanted->aF
open Result renaming andThen_ok->dO
open Tryz renaming prog->aj,underlying3->bG,underlying4->dL,underlying44->bg
open Value renaming cells->aS,oneCell'->aK
variable{rev:Bool}{gap ref:Int}{ss:List Sc}{l path:List St}{Bq base bt cL cs g gm:Nat}{AL As:Option δ}{a b:St}{t:Tp}{m:jl}{x:Tr}{W W' w w' w0:ω}
def Uh (l:List St) (x:St):Int:=if x∈l then(l.idxOf x:Int) else -1
theorem amw(A:Option δ)(n c:Nat)(l:List St)(x:St)(w:ω)(hR:fE gV w A l)(hn:l.length=n)(J:n<=1000000):Γ aj 92 #[.slice A n c,qB x] w λe w'=>e=.returned (Uh l x:Int)/\w w':=by
 have Z:=ah hn;have H:Own w _ [_]:=Own.jD w 58 #[x.edge,x.rev];unfold qB;go_enter func92,ntmps92;go_wp2;go_loopw [8] (λi wr=> ∃k:Nat,i=.int .i64 k/\k<=n/\Own w wr [(w,58,#[x.edge,x.rev])]/\Hid (x∉l.take k)) (λi _=>n-(intOf i).toNat);case atStart=>exact⟨0,rfl,aV _,H,ah (by simp)⟩
 case round=>
  obtain⟨k,rfl,K,H,U⟩:=hrel;by_cases ag:k<n;.obtain⟨y,hy⟩:=aq5 Z.out ag;(have O: ∀w',wr w'-> ∃g off,A=some ⟨g,off,none⟩/\w'.cell? ⟨g,off+k*2,none⟩=some y.edge/\w'.cell? ⟨g,off+k*2+1,none⟩=some y.rev:=λw' J=>by obtain⟨g,off,e,hg,hc⟩:=((hR.below H.below).below J).get hy;exact⟨g,off,e,hc 0 _ rfl,hc 1 _ rfl⟩);obtain⟨g,off,hA,_,_⟩:=O wr gY;subst hA;(have ka: ∀w',wr w'->w'.cell? ⟨g,off+k*2,none⟩=some y.edge:=λw' J=>by obtain⟨g',ai,e,j,_⟩:=O w' J;injection e with e;injection e with e1 e2;subst e1;subst e2;exact j);(have kb: ∀w',wr w'->w'.cell? ⟨g,off+k*2+1,none⟩=some y.rev:=λw' J=>by obtain⟨g',ai,e,_,j⟩:=O w' J;injection e with e;injection e with e1 e2;subst e1;subst e2;exact j);have ad:=λW=>vP x y W;unfold qB at ad;obtain⟨b,ac⟩:=fD (decide (x=y));rw[<-ac]at ad;have Y:=ah ac;have N:=ah hy;go_wp2_with fail;refine ara (by kernel_rfl) ?_;(repeat(first|(apply gX.want rfl;(.intro w' K ak Q' hK;have ae:=H.grow K;have al:=ae.b0.cell;go_wp2_with(fail);first|exact aH _ _);(.simp only[aP,ay,aA,aB];rfl))));refine gX.nil ?_;intro w' K;have aa:=H.grow K;cases b with|false=>have M: ¬x=y:=of_decide_eq_false Y.out.symm;have WU:Hid (x∉l.take (k+1)):=ah (by rw[take_snoc' N.out,dK];rintro (h |h);(.exact U.out h);.exact M (by simpa using h));go_wp2_with fail;go_roundw;(case rel=>exact⟨k+1,by go_num,by omega,aa,WU⟩);case measure=>simp[intOf];omega|true=>have M:x=y:=of_decide_eq_true Y.out.symm;have V:Hid (Uh l x=(k:Int)):=ah (by(have hm:x∈l:=by rw[M];exact bP N.out);unfold Uh;rw[Υ hm];obtain⟨am,af⟩:=aX.1 N.out;(have h2:l.idxOf x=k:=by(have h3:l=l.take k++x::l.drop (k+1):=by rw[M,<-af];simp);rw[h3,List.idxOf_append,Ξ U.out,List.idxOf_cons_self];simp;omega);rw[h2]);go_wp2_with fail;go_ret;exact⟨by rw[V.out];rfl,aa.below⟩
  ·(obtain rfl:k=n:=by omega);have V:Hid (Uh l x= -1):=ah (by have j:=U.out;rw[aY (by rw[Z.out];exact aW _)]at j;unfold Uh;rw[Ξ j]);go_wp2_with fail;go_ret;exact⟨by rw[V.out];rfl,H.below⟩
theorem ajR(A:Option δ)(n c:Nat)(l:List St)(x:St)(w:ω)(M:fE gV w A l)(hn:l.length=n)(N:n<=1000000):Γ aj 142 #[.slice A n c,qB x] w λe w'=>e=.returned (.bool (decide (x∈l)))/\w w':=by
 have H:Own w _ [_]:=Own.jD w 58 #[x.edge,x.rev];have U:=H.b0.cell;have j:=amw A n c l x _ (M.below H.below) hn N;have K:decide (0<=Uh l x)=decide (x∈l):=by
  unfold Uh;by_cases h:x∈l;.rw[Υ h];simp[h]
  .rw[Ξ h];simp[h]
 obtain⟨i,hi⟩:=fD (Uh l x);rw[<-hi]at j K;obtain⟨b,J⟩:=fD (decide (x∈l));rw[<-J]at K |-;clear hi J;unfold qB at j |-;go_enter func142,ntmps142;go_wp2_with((with_reducible refine j.mono ?_);rintro e V⟨rfl,O⟩);go_ret;exact⟨rfl,(H.grow O).below⟩
theorem amx(A:Option δ)(n c:Nat)(l:List St)(B:Option δ)(m d:Nat)(r:List St)(w:ω)(hR:fE gV w A l)(hn:l.length=n)(hS:fE gV w B r)(hm:r.length=m)(V:n<=1000000)(al:m<=1000000):Γ aj 258 #[.slice A n c,.slice B m d] w λe w'=>e=.returned (.bool (decide (l=r)))/\w w':=by
 have HN:=ah hn;have HM:=ah hm;by_cases af:n=m
 .subst af;have e0:((n:Int) != (n:Int))=false:=by simp
  obtain⟨res,M⟩:=fD (decide (l=r));rw[<-M];have HR:=ah M;go_enter func258,ntmps258;go_wp2_with fail;go_loopw [13] (λi wr=> ∃k:Nat,i=.int .i64 k/\k<=n/\w wr/\Hid (l.take k=r.take k)) (λi _=>n-(intOf i).toNat);case atStart=>exact⟨0,rfl,aV _,aH _ _,ah (by simp)⟩
  case round=>obtain⟨k,rfl,K,H,ac⟩:=hrel;by_cases aa:k<n;(.obtain⟨x,O⟩:=aq5 HN.out aa;obtain⟨y,U⟩:=aq5 HM.out aa;obtain⟨g,off,hA,_,_⟩:=(hR.below H).get O;obtain⟨g2,ai,hB,_,_⟩:=(hS.below H).get U;subst hA;subst hB;(have kk: ∀w',wr w'->(w'.cell? ⟨g,off+k*2,none⟩=some x.edge/\w'.cell? ⟨g,off+k*2+1,none⟩=some x.rev)/\(w'.cell? ⟨g2,ai+k*2,none⟩=some y.edge/\w'.cell? ⟨g2,ai+k*2+1,none⟩=some y.rev):=λw' V=>by obtain⟨b1,o1,e1,_,ad⟩:=((hR.below H).below V).get O;obtain⟨b2,o2,e2,_,ae⟩:=((hS.below H).below V).get U;injection e1 with e1;injection e1 with e1 e3;injection e2 with e2;injection e2 with e2 e4;subst e1;subst e2;subst e3;subst e4;exact⟨⟨ad 0 _ rfl,ad 1 _ rfl⟩,ae 0 _ rfl,ae 1 _ rfl⟩);have Z:=λW=>JF x y W;unfold qB at Z;obtain⟨b,Y⟩:=fD (!decide (x=y));rw[<-Y]at Z;have HB:=ah Y;have HX:=ah O;have HY:=ah U;clear Y O U;go_wp2_with fail;refine ara (by kernel_rfl) ?_;(repeat(first|(apply gX.want rfl;(.intro w' K ak Q' hK;obtain⟨⟨m1,m2⟩,m3,m4⟩:=kk _ K;go_wp2_with(fail);first|exact aH _ _);(.simp only[aP,ay,aA,aB];rfl))));refine gX.nil ?_;intro w' K;have ag:=H.trans (K.mono H.size);clear K Z kk;cases b with|false=>(have N:x=y:=by have j:=HB.out;refine Classical.byContradiction λe=>?_;rw[decide_eq_false e]at j;cases j);have WU:Hid (l.take (k+1)=r.take (k+1)):=ah (by rw[take_snoc' HX.out,take_snoc' HY.out,ac.out,N]);clear N;go_wp2_with fail;go_roundw;(case rel=>exact⟨k+1,by go_num,by omega,ag,WU⟩);case measure=>simp[intOf];omega|true=>(have N: ¬x=y:=by have j:=HB.out;intro e;rw[decide_eq_true e]at j;cases j);have J:Hid (res=false):=ah (by rw[HR.out,decide_eq_false_iff_not];intro e;have j:=HX.out;rw[e,HY.out]at j;injection j with j;exact N j.symm);clear N;go_wp2_with fail;go_ret;exact⟨by rw[J.out];rfl,ag⟩);·(obtain rfl:k=n:=by omega);have J:Hid (res=true):=ah (by have j:=ac.out;rw[aY (by rw[HN.out];exact aW _),aY (by rw[HM.out];exact aW _)]at j;rw[HR.out,decide_eq_true_iff];exact j);clear ac aa;go_wp2_with fail;go_ret;exact⟨by rw[J.out];rfl,H⟩
 .have e0:((n:Int) != (m:Int))=true:=by rw[bne_iff_ne];omega
  have J:Hid (decide (l=r)=false):=ah (by rw[decide_eq_false_iff_not];intro e;rw[e]at hn;omega);obtain⟨res,M⟩:=fD (decide (l=r));rw[<-M]at J |-;clear hn hm af M;go_enter func258,ntmps258;go_wp2_with fail;go_ret;exact⟨by rw[J.out];rfl,aH _ _⟩
section
open Go.RowKit Go.Shelf Go.Sort
def KA:Go.Shelf.Ren:=⟨fun |6=>97 |15=>147 |14=>146 |28=>199 |29=>200 |20=>191 |21=>192 |22=>193 |23=>194 |24=>195 |25=>196 |26=>197 |27=>198 |46=>232 |47=>233 |48=>234 |49=>235 |50=>236 |57=>271 |n=>n,fun |22=>73 |24=>130 |25=>182 |3=>3 |39=>232 |0=>0 |53=>30 |55=>134 |4=>4 |46=>285 |45=>284 |50=>71 |5=>5 |9=>9 |66=>328 |70=>332 |76=>360 |77=>361 |n=>n,fun |n=>n⟩
def KC:Go.Proofs.SlLaysF0.n6 aj KA where
  mixed:=by rfl
  f6:=⟨ "slices.SortFunc[[]lineside/api.Span,lineside/api.Span]",by decide,Tryz.func97.trans (ξ some (by rfl))⟩
  f14:=⟨ "slices.pdqsortCmpFunc[lineside/api.Span]",by decide,Tryz.func146.trans (ξ some (by rfl))⟩
  f15:=Tryz.func147.trans (ξ some (by rfl))
  f20:=⟨ "slices.insertionSortCmpFunc[lineside/api.Span]",by decide,Tryz.func191.trans (ξ some (by rfl))⟩
  f21:=⟨ "slices.heapSortCmpFunc[lineside/api.Span]",by decide,Tryz.func192.trans (ξ some (by rfl))⟩
  f22:=⟨ "slices.breakPatternsCmpFunc[lineside/api.Span]",by decide,Tryz.func193.trans (ξ some (by rfl))⟩
  f23:=⟨ "slices.choosePivotCmpFunc[lineside/api.Span]",by decide,Tryz.func194.trans (ξ some (by rfl))⟩
  f24:=⟨ "slices.reverseRangeCmpFunc[lineside/api.Span]",by decide,Tryz.func195.trans (ξ some (by rfl))⟩
  f25:=⟨ "slices.partialInsertionSortCmpFunc[lineside/api.Span]",by decide,Tryz.func196.trans (ξ some (by rfl))⟩
  f26:=⟨ "slices.partitionEqualCmpFunc[lineside/api.Span]",by decide,Tryz.func197.trans (ξ some (by rfl))⟩
  f27:=⟨ "slices.partitionCmpFunc[lineside/api.Span]",by decide,Tryz.func198.trans (ξ some (by rfl))⟩
  f28:=Tryz.func199.trans (ξ some (by rfl))
  f29:=Tryz.func200.trans (ξ some (by rfl))
  f46:=⟨ "slices.siftDownCmpFunc[lineside/api.Span]",by decide,Tryz.func232.trans (ξ some (by rfl))⟩
  f47:=Tryz.func233.trans (ξ some (by rfl))
  f48:=Tryz.func234.trans (ξ some (by rfl))
  f49:=⟨ "slices.medianAdjacentCmpFunc[lineside/api.Span]",by decide,Tryz.func235.trans (ξ some (by rfl))⟩
  f50:=⟨ "slices.medianCmpFunc[lineside/api.Span]",by decide,Tryz.func236.trans (ξ some (by rfl))⟩
  f57:=⟨ "slices.order2CmpFunc[lineside/api.Span]",by decide,Tryz.func271.trans (ξ some (by rfl))⟩
  t0:=underlying0
  a0:=isAgg0
  z0:=sizeOf0
  v0:=zeroValue0
  t3:=bG
  a3:=isAgg3
  z3:=sizeOf3
  v3:=zeroValue3
  t4:=dL
  a4:=isAgg4
  z4:=sizeOf4
  v4:=zeroValue4
  t5:=underlying5
  a5:=isAgg5
  z5:=sizeOf5
  v5:=zeroValue5
  t9:=underlying9
  a9:=isAgg9
  z9:=sizeOf9
  v9:=zeroValue9
  t22:=underlying73
  a22:=isAgg73
  z22:=sizeOf73
  v22:=zeroValue73
  t25:=underlying182
  a25:=isAgg182
  z25:=sizeOf182
  v25:=zeroValue182
  t39:=underlying232
  a39:=isAgg232
  z39:=sizeOf232
  v39:=zeroValue232
  t45:=underlying284
  a45:=isAgg284
  z45:=sizeOf284
  v45:=zeroValue284
  t46:=underlying285
  a46:=isAgg285
  z46:=sizeOf285
  v46:=zeroValue285
  t50:=underlying71
  a50:=isAgg71
  z50:=sizeOf71
  v50:=zeroValue71
  t53:=underlying30
  a53:=isAgg30
  z53:=sizeOf30
  v53:=zeroValue30
  t55:=underlying134
  a55:=isAgg134
  z55:=sizeOf134
  v55:=zeroValue134
  t66:=underlying328
  a66:=isAgg328
  z66:=sizeOf328
  v66:=zeroValue328
  t70:=underlying332
  a70:=isAgg332
  z70:=sizeOf332
  v70:=zeroValue332
  t76:=underlying360
  a76:=isAgg360
  z76:=sizeOf360
  v76:=zeroValue360
  t77:=underlying361
  a77:=isAgg361
  z77:=sizeOf361
  v77:=zeroValue361
theorem agr(a b:Sp)(w:ω):Γ aj 98 #[.agg (iO.enc a).toArray,.agg (iO.enc b).toArray] w λe w'=>e=.returned (WC a b:Int)/\iZ w w':=by
 obtain⟨M,a2,a3⟩:=a;obtain⟨b1,b2,b3⟩:=b;have hc:=λx y W=>NP x y W;have ho:=λg x y W O J=>alT g 2 x y W O J;have Y:Own w _ [_,_]:=Own.iY w 130 130 #[M,a2,a3] #[b1,b2,b3];have V:iZ w ((w.alloc (.cells #[M,a2,a3] 130)).alloc (.cells #[b1,b2,b3] 130)):=(iZ.alloc _ _).trans (iZ.alloc _ _);unfold WC;simp only[iO];go_enter func98,ntmps98;go_wp2_with fail;generalize ((w.alloc (.cells #[M,a2,a3] 130)).alloc (.cells #[b1,b2,b3] 130))=W0 at Y V |-;apply gu iZ (λW=>iZ.drew W) (λ_ _ _ J h2=>J.trans h2) (λ_=>iZ) (λ_ _ _ h=>h) (λ_ W=>iZ.refl W) (λ_ _=>True) (λ_=>trivial) (λ_ _ _ _ _ _ _=>trivial);case lX=>intro u;simp only[bV,aq9,aP,ay,aA,aB,aT,aJ];rfl
 case hm=>kernel_rfl
 case hB=>kernel_rfl
 case hA=>kernel_rfl
 case hap=>kernel_rfl
 repeat(first
    |(apply fM.is
      ·
        (intro u w' K aa j
         have U:=K.below
         simp[fO,aC,gI,Is]at j
         refine fC ?_ ?_
         ·
           first
           |rfl
         intro N H
         have Z:=Y.grow U;have ad:=Z.b0.cell;have ae:=Z.b1.cell
         go_wp2_with ((with_reducible refine(hc _ _ _).mono ?_);rintro e w3⟨rfl,rfl⟩)
         try simp only[j]at H
         refine H _ _ ?_ rfl
         first |exact iZ.refl _))
    |(refine fM.one (WB (IB M b1) (IB a2 b2)) ?_ ?_
      ·
        (intro u w' K aa j
         have U:=K.below
         simp[fO,aC,gI,Is]at j
         refine fC ?_ ?_
         ·
           first
           |rfl
         intro N H
         go_wp2_with fail
         try simp only[j]at H
         refine H _ _ (iZ.alloc _ _) ⟨w',rfl,?_,?_,?_⟩
         all_goals simp))
    |(apply fM.is
      ·
        (intro u w' K aa j
         have U:=K.below
         simp[fO,aC,gI,Is]at j
         first
         |obtain⟨⟨g,hx,af,O,J⟩,-⟩:=j
         refine fC ?_ ?_
         ·
           first
           |rfl
         intro N H
         go_wp2_with ((with_reducible refine(ho _ _ _ _ O J).mono ?_);rintro e w3⟨rfl,rfl⟩)
         try simp only[hx]at H
         refine H _ _ (iZ.refl _) rfl)))
 refine fM.last (SK ?_) ?_
 .simp only[gQ];repeat(refine⟨?_,?_⟩;.first|exact JH _|exact Hz)
  exact trivial
 intro u w2 ac _ j;simp only[gQ]at j;refine⟨rfl,?_⟩;intro N H;have hl:=j 11 _ rfl;simp only[gI,Is]at hl;go_wp2_with fail;go_ret;exact⟨ξ Ending.returned hl,V.trans ac⟩
end
section
open Go.RowKit Go.Shelf Go.Sort
def aag(w:ω):(zeroValue 130).run aj w=.ok (.agg gC) w:=by simp
def ags (cur:Array Θ) (o:Nat) (cs:List Θ):Array Θ:=(cur.toList.take o++cs++cur.toList.drop (o+cs.length)).toArray
def vX (m:Nat):List Θ:=(Builtin.zeroCells (aS (.agg gC)) m).toList
def KD(m:Nat):(vX m).length=m*3:=by simp[vX,Builtin.zeroCells,aS]
theorem Xm(m:Nat): ∀v∈vX m,v.oneCell'=true:=by
 intro v j;simp only[vX,Builtin.zeroCells,aS]at j;simp at j;obtain⟨a,_,rfl⟩:=j;have H:a % 3=0\/a % 3=1\/a % 3=2:=by omega
 rcases H with h |h |h <;> rw[h] <;> rfl
def Ui{w:ω}{ty:τ}(g o m c:Nat)(cur:Array Θ)(H:fK w g 130 cur)(hm:0<m)(K:o+m*3<=cur.size):(Builtin.clear_ #[73] ty #[.slice (some ⟨g,o,none⟩) m c]).run aj w=.ok (.tuple #[]) (w.setRow g (ags cur o (vX m))):=by
 have j:=run_storeCells_at aj g o 130 (vX m) 0 cur w H (by rw[KD];omega) (Xm m);simp only[bI]at j;have J:=aag w;have M:m≠0:=by omega
 cases m with|zero=>omega|succ m=>simp only[vX]at j;simp[Builtin.clear_,ν underlying73,J,j,ags,vX]
def KE{ops:Array ο}{rest:List ο}{o:ο}{a:Act}{w:ω}{Q:Exit->Act->ω->Prop}(K:o.guard=none)(s:κ)(N:o.op=.call {callee:=.builtin .clear,args:= #[s],argTypes:= #[73]})(g off m c:Nat)(U:a.eval s=.slice (some ⟨g,off,none⟩) m c)(cur:Array Θ)(j:fK w g 130 cur)(hm:0<m)(J:off+m*3<=cur.size)(h: ∀W,fK W g 130 (ags cur off (vX m))->W.heap.size=w.heap.size->(∀k,k≠g->W.heap[k]? =w.heap[k]?)->W.os=w.os/\W.tape=w.tape/\W.output=w.output->Δ aj ops Q rest (a.put o.dst (.tuple #[])) W):Δ aj ops Q (o::rest) a w:=by refine π K λV H=>?_;have O:=Ui (ty:=o.type) g off m c cur j hm J;unfold Oper.wp;simp[execOp,N,resolve,invoke,builtin,U,O,Result.andThen];exact H _ _ (h _ (fK.row j _) (by simp) (λk M=>ζ w g k _ M) ⟨rfl,rfl,rfl⟩)
def GK:aj.elem 73=130:=by kernel_rfl
def Uj:aj.underlying 73=some (.slice (aj.elem 73)):=by rw[GK];exact underlying73
def Oi(w:ω):(sizeOf 130).run aj w=.ok 3 w:=sizeOf130 w
def ain(g i:Nat):(⟨g,0,none⟩:δ).add i=⟨g,i,none⟩:=by rw[Addr.add_lit];simp
def aah(w:ω)(g len cap i:Nat)(j:i<=len)(H:i<cap)(J:len<=cap):(Instr.slice 73 (.slice g len cap) (some (i:Int)) none none).run aj w=.ok (.slice (some ⟨g,i*3,none⟩) (len-i) (cap-i)) w:=by rw[run_slice_l w 73 g len cap Uj .i64 i (by omega) (by omega),GK,Oi];simp[Result.andThen,sliced,ain];omega
def aai(w:ω)(g len cap i:Nat)(j:i<=cap):(Instr.slice 73 (.slice g len cap) none (some (i:Int)) none).run aj w=.ok (.slice g i cap) w:=by rw[run_slice_h w 73 g len cap Uj .i64 i (by omega) (by omega),GK,Oi];simp[Result.andThen,sliced,ain]
end
section
open Go.RowKit Go.Shelf Go.Sort
def MJ:Go.Shelf.Ren:=⟨fun |6=>145 |n=>n,fun |22=>73 |23=>130 |25=>178 |3=>3 |0=>0 |4=>4 |n=>n,fun |n=>n⟩
def aaj:Go.Proofs.SlLaysH0.n6 aj MJ where
  mixed:=by rfl
  f6:=⟨ "slices.IndexFunc[[]lineside/api.Span,lineside/api.Span]",by decide,Tryz.func145.trans (ξ some (by rfl))⟩
  t0:=underlying0
  a0:=isAgg0
  z0:=sizeOf0
  v0:=zeroValue0
  t3:=bG
  a3:=isAgg3
  z3:=sizeOf3
  v3:=zeroValue3
  t4:=dL
  a4:=isAgg4
  z4:=sizeOf4
  v4:=zeroValue4
  t22:=underlying73
  a22:=isAgg73
  z22:=sizeOf73
  v22:=zeroValue73
  t25:=underlying178
  a25:=isAgg178
  z25:=sizeOf178
  v25:=zeroValue178
theorem agt(g:Nat)(J: ∀args w,(ϕ g args).run aj w=.ok (.enter g args) w)(lb:Array Θ)(q:Sp->Bool)(A:Option δ)(n c:Nat)(xs:List Sp)(w:ω)(N:PredBelow aj g lb (λx=> .agg (iO.enc x).toArray) q w)(j:fE iO w A xs)(hn:xs.length=n)(K:n<=9223372036854775807):Γ aj 145 #[.slice A n c,.func (.func g) #[] lb] w λe w'=>e=.returned (Lib.idxBy (λ_ y=>q y) xs default:Int)/\w w':=by
 cases n with
 |zero=>
  have:xs= []:=dh.1 hn;subst this;go_enter func145,ntmps145;go_wp2;go_loopg [5,8] 0 (λ_ _ V wr=>V=.int .i64 0/\w wr);case atStart=>exact⟨rfl,aH _ _⟩
  case round=>obtain⟨rfl,O⟩:=hrel;go_wp2;go_ret;exact⟨rfl,O⟩
 |succ n=>
  obtain⟨b,off,rfl,M,_⟩:=j.get (aI (show 0<xs.length by omega));have:=AnyQ.slices_IndexFunc aaj 3 isAgg130 sizeOf130 iO.enc iO.len q g lb J b off (n+1) c xs w N (by omega) K M ?_;.rw[<-hn,List.take_length]at this;rw[<-hn];exact this
  .intro U H i u hi;obtain⟨Y,Z,e,_,hc⟩:=j.get (aI H);simp only[aO,cZ]at e;obtain⟨rfl,rfl,-⟩:=e;rw[getElem!_pos xs U H]at hi;exact hc i u hi
theorem Oj{α:Type}[Inhabited α](q:α->Bool): ∀(bs:List α) (i:Nat),(∃j x,Lib.idxByFrom (λ_ y=>q y) default bs i=((i+j:Nat):Int)/\bs[j]? =some x/\q x=true/\ ∀y∈bs.take j,q y=false)\/(Lib.idxByFrom (λ_ y=>q y) default bs i= -1/\ ∀y∈bs,q y=false)
 | [],i=> .inr ⟨rfl,by simp⟩
 |y::bs,i=>by
  rw[Lib.idxByFrom];cases M:q y with
  |false=>simp only[bU,if_false];rcases Oj q bs (i+1) with⟨j,x,H,J,K,N⟩ |⟨H,J⟩;(.refine .inl ⟨j+1,x,by omega,by grind,K,λz O=>?_⟩;grind);grind
  |true=>exact .inl ⟨0,y,by simp,rfl,M,by simp⟩
theorem agu(base:Nat)(A:Option δ)(n c:Nat)(xs:List Sp)(w:ω)(H:aq1 iO 130 w base A c xs)(hn:xs.length=n)(hl:n<=1000):Γ aj 93 #[.slice A n c,.func (.func 95) #[] #[]] w λe w'=>e=.returned (.slice A (xs.filter lG).length c)/\aq1 iO 130 w' base A c (xs.filter lG)/\w.grownBy w' (asa A):=by
 have Z:=agt 95 SL #[] (λs=> !lG s) A n c xs w (λW x hW=>(Yy x W).mono λ_ _ h=>⟨h.1,gZ hW h.2⟩) H.rows hn (by omega);unfold Lib.idxBy at Z;have HN:=ah hn;rcases Oj (λs:Sp=> !lG s) xs 0 with⟨j0,x0,h1,h2,h3,h4⟩ |⟨h1,h2⟩
 .rw[h1,aJ]at Z;have a5:j0<n:=by grind
  have hA:A≠none:=H.some_ (by omega);obtain⟨g,aE,rfl,aR,a1,_,ae,_,_⟩:=H.blk hA;have an:xs.take j0=(xs.take (j0+1)).filter lG:=by rw[take_snoc' h2,List.filter_append,List.filter_eq_self.2 (λy hy=>by grind)];(have:lG x0=false:=by grind);simp[this]
  have HS:=ah an;rw[hn]at ae;have e1:((j0:Int)== -1)=false:=by simp
  have hm:=λs W=>Yy s W;simp only[asa,eF];go_enter func93,ntmps93;go_wp2_with(first|((with_reducible refine Z.mono ?_);rintro e w1⟨rfl,V⟩;replace H:=H.below V));have Y:w.grownBy w1 (some g):=yR (World.grownBy.refl w _) V;go_loopw [5,6] (λs5 s6 wr=> ∃(i j:Nat) (J:List Sp),s5=.int .i64 i/\s6=.int .i64 j/\i<j/\j<=n/\Hid (J.length=n/\J.take i=(xs.take j).filter lG/\ ∀r,j<=r->J[r]? =xs[r]?)/\aq1 iO 130 wr base g c J/\w.grownBy wr (some g)) (λ_ s6 _=>n-(intOf s6).toNat);case atStart=>exact⟨j0,j0+1,xs,rfl,by go_num,by omega,by omega,ah ⟨HN.out,HS.out,λ_ _=>rfl⟩,H,Y⟩
  case round=>
   obtain⟨i,j,J,rfl,rfl,a4,a6,M,H,Y⟩:=hrel;by_cases az:j<n
   .obtain⟨y,hy⟩:=aq5 M.out.1 az;obtain⟨b',ba,e,ap,hc⟩:=H.rows.get hy;simp only[aO,cZ]at e;obtain⟨rfl,rfl,-⟩:=e;(have am:xs[j]? =some y:=by rw[<-M.out.2.2 j ig];exact hy);have Cm:=hc 0 y.edge rfl;have CB:=hc 1 y.lo rfl;have RZ:=hc 2 y.hi rfl;simp only[iO,aJ,bI]at Cm CB RZ;have U:=hm y;(have ar:(xs.take (j+1)).filter lG=(xs.take j).filter lG++(if lG y=true then [y] else []):=by rw[take_snoc' am,List.filter_append];cases hs:lG y <;> simp[hs]);have O:=ah ar;have HY:=ah hy;have HX:=ah am;have K:Own wr _ [_]:=(Own.nil wr).alloc 130 #[y.edge,y.lo,y.hi] _ rfl;have aM:=K.b0.cell;cases hs:lG y with
    |false=>rw[hs]at U O;simp only[bU,if_false,List.append_nil]at O;have HZ:=ah (show J.length=n/\J.take i=(xs.take (j+1)).filter lG/\ ∀r,j+1<=r->J[r]? =xs[r]? from⟨M.out.1,by rw[O.out];exact M.out.2.1,λr hr=>M.out.2.2 r (by omega)⟩);obtain⟨y1,y2,y3⟩:=y;simp only[iO]at U;go_wp2_with(first|((with_reducible refine(U _).mono ?_);rintro e w2⟨rfl,fU⟩;replace K:=K.grow fU));go_roundw;(case rel=>exact⟨i,j+1,J,rfl,by go_num,by omega,by omega,HZ,H.below K.below,yR Y K.below⟩);case measure=>simp[intOf];omega
    |true=>rw[hs]at U O;simp only[if_true]at O;have HZ:=ah (show(J.set i y).length=n/\(J.set i y).take (i+1)=(xs.take (j+1)).filter lG/\ ∀r,j+1<=r->(J.set i y)[r]? =xs[r]? from by obtain⟨z1,z2,z3⟩:=M.out;refine⟨by rw[List.length_set];exact z1,?_,λr hr=>?_⟩;(.rw[O.out,<-z2,take_snoc' (x:=y) (by rw[List.getElem?_set_self (by omega)])];rw[List.take_set_of_le ig]);.rw[List.getElem?_set_ne (by omega)];exact z3 r (by omega));have a7:=M.out.1;obtain⟨y1,y2,y3⟩:=y;simp only[iO]at U;obtain⟨g',cur,e,av,aa,ac,_,_,_⟩:=H.blk (by simp);simp only[aO,cZ]at e;obtain⟨e,-,-⟩:=e;subst e;(have ag:i*3+3<=cur.size:=by rw[ac];show i*3+3<=c*3;omega);have ai:cur[i*3]? =some (cur[i*3]'(by omega)):=cO _;have ak:cur[i*3+1]? =some (cur[i*3+1]'(by omega)):=cO _;have al:cur[i*3+2]? =some (cur[i*3+2]'(by omega)):=cO _;generalize cur[i*3]'(by omega)=v0 at ai;generalize cur[i*3+1]'(by omega)=v1 at ak;generalize cur[i*3+2]'(by omega)=v2 at al;have HV:=ah (And.intro ai (And.intro ak al));go_wp2_with(first|((with_reducible refine(U _).mono ?_);rintro e w2⟨rfl,fU⟩;replace K:=K.grow fU;have fJ:=K.b0.cell;have N:=aa.below K.below ap;have iG:=N.frozen (i*3);have jQ:=N.frozen (i*3+1);have uK:=N.frozen (i*3+2);have sK:=(N.cell (i*3)).trans HV.out.1;have O4:=(N.cell (i*3+1)).trans HV.out.2.1;have NH:=(N.cell (i*3+2)).trans HV.out.2.2));go_roundw;(case rel=>refine⟨i+1,j+1,J.set i ⟨y1,y2,y3⟩,by go_num,by go_num,by omega,by omega,HZ,?_,?_⟩;(.exact(H.below K.below).put (by omega) ⟨y1,y2,y3⟩ N (((N.iV (i*3) y1).iV (i*3+1) y2).iV (i*3+2) y3));.exact H6 (yR Y K.below) (by simp) (λk hk=>(aN _ _ _ _ hk).trans ((aN _ _ _ _ hk).trans (aN _ _ _ _ hk))) ⟨rfl,rfl,rfl⟩);case measure=>simp[intOf];omega
   ·(obtain rfl:j=n:=by omega);obtain⟨g',cur,e,av,aa,ac,_,_,_⟩:=H.blk (by simp);simp only[aO,cZ]at e;obtain⟨e,-,-⟩:=e;subst e;(have ag:i*3+(j-i)*3<=cur.size:=by rw[ac];show i*3+(j-i)*3<=c*3;omega);have a9:=λW=>aah W g j c i (by omega) (by omega) ae;have a8:=λW=>aai W g j c i (by omega);(have af:J.take i=xs.filter lG:=by rw[M.out.2.1,<-HN.out,List.take_length]);(have ax:(xs.filter lG).length=i:=by rw[<-af,dX,M.out.1];omega);have ad:=ah (And.intro af ax);have HL:=ah M.out.1;go_wp2_with(first|(with_reducible refine KE rfl (.tmp 38) rfl g (i*3) (j-i) (c-i) rfl cur aa (by omega) ag ?_;intro w2 au aD aw aq));go_ret;(have aL:i*3<=cur.toList.length:=by simp only[Array.length_toList];omega);refine⟨by rw[ad.out.2];rfl,?_,H6 Y aD aw aq⟩;rw[<-ad.out.1];refine H.ahead i (by rw[HL.out];omega) aa au ?_ ?_;(.simp only[ags,List.size_toArray,bC,dX,List.length_drop,KD,Array.length_toList];omega);.show((cur.toList.take (i*3)++vX (j-i)++cur.toList.drop (i*3+(vX (j-i)).length)).toArray).toList.take (i*3)=cur.toList.take (i*3);rw[List.append_assoc,List.take_append_of_le_length (by rw[dX];omega),List.take_take,Nat.min_self]
 .have hf:xs.filter lG=xs:=List.filter_eq_self.2 λy hy=>by grind
  rw[h1]at Z;rw[hf,hn];go_enter func93,ntmps93;go_wp2_with(first|((with_reducible refine Z.mono ?_);rintro e w1⟨rfl,V⟩));go_ret;exact⟨rfl,H.below V,yR (World.grownBy.refl w _) V⟩
end
section
open Go.RowKit Go.Shelf Go.Sort
theorem Je(a b:Sp):ltOf WC a b=true<->(a.edge<b.edge\/a.edge=b.edge/\a.lo<b.lo):=by unfold ltOf WC orI IB;grind
def AX(a b:Sp):ltOf WC a b=false<->tZ b a:=by rw[<-Bool.not_eq_true,Je];unfold tZ;omega
def adr:SWO (ltOf WC):=by
 refine⟨λx=>?_,λx y z=>?_,λx y z=>?_⟩;.rw[AX];unfold tZ;omega
 .rw[Je,Je,Je];omega
 .rw[AX,AX,AX];unfold tZ;omega
theorem Fq(d:Array Sp):(flatK iO.enc 3 d).toList=iO.flat d.toList:=by
 have N:(iO.flat d.toList).length=d.size*3:=by rw[iO.flat_length];rfl
 refine List.ext_getElem? λt=>?_;by_cases M:t<d.size*3
 .have K:t / 3<d.size:=by omega
  have H:(flatK iO.enc 3 d)[t]! =(iO.enc d[t / 3]!)[t % 3]! :=get_flatK _ _ _ _ M;have j:=iO.IZ (xs:=d.toList) (i:=t / 3) (x:=d[t / 3]) (by simp) (t % 3) (show t % 3<3 by omega);have e3:t / 3*iO.k+t % 3=t:=by show t / 3*3+t % 3=t;omega
  rw[e3]at j;rw[j,Array.getElem?_toList,cO (by simp_all)];rw[getElem!_pos _ t (by simp_all),getElem!_pos d _ K]at H;rw[H];have J:t % 3<(iO.enc d[t / 3]).length:=by grind
  rw[aI J,List.getElem!_eq_getElem?_getD,aI J];rfl
 .simp_all
theorem ads{w:ω}{base g c:Nat}{xs:List Sp}(O:aq1 iO 130 w base g c xs):HoldsK iO.enc 3 w g 0 xs.toArray:=by
 obtain⟨V,cur,e,Y,H,K,Z,h5,J⟩:=O.blk (by simp);simp only[aO,cZ]at e;obtain⟨rfl,-,-⟩:=e;intro j M;rw[size_flatK]at M;have N:iO.k=3:=rfl;rw[N]at J K;have U:(flatK iO.enc 3 xs.toArray).toList=iO.flat xs:=Fq _;have aa:j<xs.length*3:=by omega
 refine⟨?_,by rw[aJ];exact H.frozen _⟩;rw[aJ,H.cell,<-Array.getElem?_toList,show cur.toList[j]? =(cur.toList.take (xs.length*3))[j]? by grind,J,<-U,Array.getElem?_toList,cO (by simp_all),getElem!_pos _ j (by simp_all)];rfl
def KF{w:ω}{g:Nat}{t:τ}{cur:Array Θ}(h:fK w g t cur)(F:Array Θ):fK (putRow id w g 0 F) g t (putCells id 0 F cur):=by unfold fK at h |-;simp[putRow,mapBlock,Array.getElem?_modify,h,onCells]
def KG(w:ω)(g:Nat)(F:Array Θ)(k:Nat)(j:k≠g):(putRow id w g 0 F).heap[k]? =w.heap[k]? :=by simp[putRow,mapBlock,Array.getElem?_modify,Ne.symm j]
def Dh(F cur:Array Θ):(putCells id 0 F cur).size=cur.size:=by simp[putCells]
theorem Di(F cur:Array Θ)(h:F.size<=cur.size):(putCells id 0 F cur).toList.take F.size=F.toList:=by
 refine List.ext_getElem? λt=>?_;by_cases j:t<F.size;.rw[dG j,Array.getElem?_toList,Array.getElem?_toList];simp only[putCells,Array.getElem?_mapIdx,aV,true_and,aJ,j,if_true,Nat.sub_zero,id];rw[cO (show t<cur.size by omega),cO j,getElem!_pos F t j];rfl
 .grind
theorem adt(base:Nat)(A:Option δ)(n c:Nat)(xs:List Sp)(w:ω)(H:aq1 iO 130 w base A c xs)(hn:xs.length=n)(hl:n<=1000):Γ aj 97 #[.slice A n c,.func (.func 98) #[] #[]] w λe w'=>e=.returned (.tuple #[])/\ ∃N:List Sp,N.Perm xs/\N.Pairwise tZ/\aq1 iO 130 w' base A c N/\w.grownBy w' (asa A):=by
 cases n with
 |zero=>have:xs= []:=dh.1 hn;subst this;exact(AnyF.slices_SortFunc_none KC A c _ w).mono λe w' ⟨h1,O⟩=>⟨h1,[],.nil,.nil,O▸H,O▸World.grownBy.refl w _⟩
 |succ n=>
  obtain⟨g,cur,rfl,hg,U,Z,h4,h5,h6⟩:=H.blk (H.some_ (by omega));have Y:=AnyQ.slices_SortFunc KC 3 isAgg130 sizeOf130 iO.enc iO.len iO.one WC adr 98 #[] g 0 c xs.toArray w SN (λm os dk _ x y=>by have:=agr x y (sortWorldK iO.enc 3 w g 0 m dk os);exact this) (ads H) U.lt (by grind);have K:xs.toArray.size=n+1:=by omega
  rw[K]at Y;refine Y.mono ?_;rintro e w'⟨rfl,j,m,os,J,hs,rfl⟩;refine⟨rfl,j.toList,?_,?_,?_,?_⟩;.have:=J.2.2;(have e1:j.extract 0 (n+1)=j:=by rw[<-K,<-J.1];simp);grind
  .rw[List.pairwise_iff_getElem];intro i M hi hj aa;(have ac:M<j.size:=by omega);(have V:j.size=n+1:=by rw[J.1,K]);have:=hs i M (aV _) aa (by omega);rw[AX,getElem!_pos j i (by omega),getElem!_pos j M ac]at this;grind
  ·(have V:j.size=n+1:=by rw[J.1,K]);(have hF:(flatK iO.enc 3 j).size=(n+1)*3:=by simp_all);(have ae:(n+1)*3<=cur.size:=by rw[Z];show(n+1)*3<=c*3;omega);(have hB:fK (sortWorldK iO.enc 3 w g 0 m j os) g 130 (putCells id 0 (flatK iO.enc 3 j) cur):=by have:=KF (show fK (Sort.ahead w m) g 130 cur from U) (flatK iO.enc 3 j);have af:=this.lt;unfold fK at this |-;rw[<-this];show((putRow id (Sort.ahead w m) g 0 (flatK iO.enc 3 j)).heap++os)[g]? =_;grind);refine⟨by rw[iO.flat_length],.inr ⟨g,c,putCells id 0 (flatK iO.enc 3 j) cur,by simp,hg,hB,by grind,h5,by rw[Dh];exact Z,?_⟩⟩;rw[Array.length_toList,V,<-Fq];have:=Di (flatK iO.enc 3 j) cur (by omega);rw[hF]at this;exact this
  .refine⟨rfl,rfl,rfl,?_,λk hk ad=>?_⟩;(.show w.heap.size<=((putRow id (Sort.ahead w m) g 0 (flatK iO.enc 3 j)).heap++os).size;simp);.show((putRow id (Sort.ahead w m) g 0 (flatK iO.enc 3 j)).heap++os)[k]? =w.heap[k]?;rw[dS (by simp_all),KG _ _ _ _ (λe=>ad (by rw[e];rfl))];rfl
end
section
open Go.RowKit Go.Shelf Go.Sort
def KH:Go.Shelf.Ren:=⟨fun |6=>182 |15=>147 |14=>230 |28=>199 |29=>200 |20=>263 |21=>264 |22=>265 |23=>266 |24=>267 |25=>268 |26=>269 |27=>270 |46=>278 |47=>233 |48=>234 |49=>279 |50=>280 |57=>282 |n=>n,fun |22=>39 |24=>58 |25=>276 |3=>3 |39=>232 |0=>0 |53=>30 |55=>134 |4=>4 |46=>285 |45=>284 |50=>71 |5=>5 |9=>9 |66=>328 |70=>332 |76=>360 |77=>361 |n=>n,fun |n=>n⟩
def KI:Go.Proofs.SlLaysF0.n6 aj KH where
  mixed:=by rfl
  f6:=⟨ "slices.SortFunc[[]lineside/api.Step,lineside/api.Step]",by decide,Tryz.func182.trans (ξ some (by rfl))⟩
  f14:=⟨ "slices.pdqsortCmpFunc[lineside/api.Step]",by decide,Tryz.func230.trans (ξ some (by rfl))⟩
  f15:=Tryz.func147.trans (ξ some (by rfl))
  f20:=⟨ "slices.insertionSortCmpFunc[lineside/api.Step]",by decide,Tryz.func263.trans (ξ some (by rfl))⟩
  f21:=⟨ "slices.heapSortCmpFunc[lineside/api.Step]",by decide,Tryz.func264.trans (ξ some (by rfl))⟩
  f22:=⟨ "slices.breakPatternsCmpFunc[lineside/api.Step]",by decide,Tryz.func265.trans (ξ some (by rfl))⟩
  f23:=⟨ "slices.choosePivotCmpFunc[lineside/api.Step]",by decide,Tryz.func266.trans (ξ some (by rfl))⟩
  f24:=⟨ "slices.reverseRangeCmpFunc[lineside/api.Step]",by decide,Tryz.func267.trans (ξ some (by rfl))⟩
  f25:=⟨ "slices.partialInsertionSortCmpFunc[lineside/api.Step]",by decide,Tryz.func268.trans (ξ some (by rfl))⟩
  f26:=⟨ "slices.partitionEqualCmpFunc[lineside/api.Step]",by decide,Tryz.func269.trans (ξ some (by rfl))⟩
  f27:=⟨ "slices.partitionCmpFunc[lineside/api.Step]",by decide,Tryz.func270.trans (ξ some (by rfl))⟩
  f28:=Tryz.func199.trans (ξ some (by rfl))
  f29:=Tryz.func200.trans (ξ some (by rfl))
  f46:=⟨ "slices.siftDownCmpFunc[lineside/api.Step]",by decide,Tryz.func278.trans (ξ some (by rfl))⟩
  f47:=Tryz.func233.trans (ξ some (by rfl))
  f48:=Tryz.func234.trans (ξ some (by rfl))
  f49:=⟨ "slices.medianAdjacentCmpFunc[lineside/api.Step]",by decide,Tryz.func279.trans (ξ some (by rfl))⟩
  f50:=⟨ "slices.medianCmpFunc[lineside/api.Step]",by decide,Tryz.func280.trans (ξ some (by rfl))⟩
  f57:=⟨ "slices.order2CmpFunc[lineside/api.Step]",by decide,Tryz.func282.trans (ξ some (by rfl))⟩
  t0:=underlying0
  a0:=isAgg0
  z0:=sizeOf0
  v0:=zeroValue0
  t3:=bG
  a3:=isAgg3
  z3:=sizeOf3
  v3:=zeroValue3
  t4:=dL
  a4:=isAgg4
  z4:=sizeOf4
  v4:=zeroValue4
  t5:=underlying5
  a5:=isAgg5
  z5:=sizeOf5
  v5:=zeroValue5
  t9:=underlying9
  a9:=isAgg9
  z9:=sizeOf9
  v9:=zeroValue9
  t22:=underlying39
  a22:=isAgg39
  z22:=sizeOf39
  v22:=zeroValue39
  t25:=underlying276
  a25:=isAgg276
  z25:=sizeOf276
  v25:=zeroValue276
  t39:=underlying232
  a39:=isAgg232
  z39:=sizeOf232
  v39:=zeroValue232
  t45:=underlying284
  a45:=isAgg284
  z45:=sizeOf284
  v45:=zeroValue284
  t46:=underlying285
  a46:=isAgg285
  z46:=sizeOf285
  v46:=zeroValue285
  t50:=underlying71
  a50:=isAgg71
  z50:=sizeOf71
  v50:=zeroValue71
  t53:=underlying30
  a53:=isAgg30
  z53:=sizeOf30
  v53:=zeroValue30
  t55:=underlying134
  a55:=isAgg134
  z55:=sizeOf134
  v55:=zeroValue134
  t66:=underlying328
  a66:=isAgg328
  z66:=sizeOf328
  v66:=zeroValue328
  t70:=underlying332
  a70:=isAgg332
  z70:=sizeOf332
  v70:=zeroValue332
  t76:=underlying360
  a76:=isAgg360
  z76:=sizeOf360
  v76:=zeroValue360
  t77:=underlying361
  a77:=isAgg361
  z77:=sizeOf361
  v77:=zeroValue361
def KJ(s:St)(w:ω):Γ aj 184 #[qB s] w λr w'=>r=.returned (RH (kC s))/\iZ w w':=by
 obtain⟨e,r⟩:=s;have j:Own w _ [_,_]:=((Own.nil w).alloc 58 #[e,r] _ rfl).alloc 125 gF _ rfl;have H:=j.b0.cell;cases r;focus(go_enter func184,ntmps184;go_wp2_with fail;replace j:Own w _ [_,_]:=Own.iY w 58 125 #[e,false] #[e,zI])
 rotate_left;focus(go_enter func184,ntmps184;go_wp2_with fail;replace j:Own w _ [_,_]:=Own.iY w 58 125 #[e,true] #[e,(1:Int)])
 all_goals(exact β (nC results184 _ _ _ _ _ rfl j.b1 underlying125 rfl (by kernel_rfl)) rfl ⟨rfl,(iZ.alloc _ _).trans (iZ.alloc _ _)⟩)
def Xn (a b:St):Int:=orI (IB a.edge b.edge) (IB (kC a).at_ (kC b).at_)
def Qj: ∀args w,(ϕ 183 args).run aj w=.ok (.enter 183 args) w:=enters_of func183 (by rfl) (by rfl)
theorem adu(a b:St)(w:ω):Γ aj 183 #[.agg (gV.enc a).toArray,.agg (gV.enc b).toArray] w λe w'=>e=.returned (Xn a b:Int)/\iZ w w':=by
 have hc:=λx y W=>NP x y W;have Y:=λW=>KJ a W;have Z:=λW=>KJ b W;have ho:=λg x y W V K=>alT g 2 x y W V K;obtain⟨J,a2⟩:=a;obtain⟨b1,b2⟩:=b;unfold Xn;obtain⟨ea,O⟩:=fD ((kC ⟨J,a2⟩).at_);obtain⟨eb,U⟩:=fD ((kC ⟨b1,b2⟩).at_);have aa:kC ⟨J,a2⟩=⟨J,ea⟩:=by rw[O];rfl
 have ac:kC ⟨b1,b2⟩=⟨b1,eb⟩:=by rw[U];rfl
 rw[<-O,<-U];rw[aa]at Y;rw[ac]at Z;have hO:Own w _ [_,_]:=Own.iY w 58 58 #[J,a2] #[b1,b2];have hG:iZ w ((w.alloc (.cells #[J,a2] 58)).alloc (.cells #[b1,b2] 58)):=(iZ.alloc _ _).trans (iZ.alloc _ _);simp only[gV,qB,RH]at Y Z |-;clear O U aa ac;go_enter func183,ntmps183;go_wp2_with fail;generalize ((w.alloc (.cells #[J,a2] 58)).alloc (.cells #[b1,b2] 58))=W0 at hO hG |-;apply gu iZ (λW=>iZ.drew W) (λ_ _ _ K h2=>K.trans h2) (λ_=>iZ) (λ_ _ _ h=>h) (λ_ W=>iZ.refl W) (λ_ _=>True) (λ_=>trivial) (λ_ _ _ _ _ _ _=>trivial);case lX=>intro u;simp only[bV,aq9,aP,ay,aA,aB,aT,aJ];rfl
 case hm=>kernel_rfl
 case hB=>kernel_rfl
 case hA=>kernel_rfl
 case hap=>kernel_rfl
 repeat(first
    |(apply fM.is
      ·
        (intro u w' M af j
         have hk:=M.below
         simp[fO,aC,gI,Is]at j
         refine fC ?_ ?_
         ·
           first
           |rfl
         intro N H
         have ad:=hO.grow hk;have ai:=ad.b0.cell;have ak:=ad.b1.cell
         go_wp2_with (first |((with_reducible refine(hc _ _ _).mono ?_);rintro e w3⟨rfl,rfl⟩) |((with_reducible refine(Y _).mono ?_);rintro e w3⟨rfl,ae⟩) |((with_reducible refine(Z _).mono ?_);rintro e w3⟨rfl,ae⟩))
         try simp only[j]at H
         refine H _ _ ?_ rfl
         first |exact iZ.refl _ |exact ae))
    |(refine fM.one (WB (IB J b1) (IB ea eb)) ?_ ?_
      ·
        (intro u w' M af j
         have hk:=M.below
         simp[fO,aC,gI,Is]at j
         refine fC ?_ ?_
         ·
           first
           |rfl
         intro N H
         go_wp2_with fail
         try simp only[j]at H
         refine H _ _ (iZ.alloc _ _) ⟨w',rfl,?_,?_,?_⟩
         all_goals simp))
    |(apply fM.is
      ·
        (intro u w' M af j
         have hk:=M.below
         simp[fO,aC,gI,Is]at j
         first
         |obtain⟨⟨g,hx,al,V,K⟩,-⟩:=j
         refine fC ?_ ?_
         ·
           first
           |rfl
         intro N H
         go_wp2_with ((with_reducible refine(ho _ _ _ _ V K).mono ?_);rintro e w3⟨rfl,rfl⟩)
         try simp only[hx]at H
         refine H _ _ (iZ.refl _) rfl)))
 refine fM.last (SK ?_) ?_
 .simp only[gQ];repeat(refine⟨?_,?_⟩;.first|exact JH _|exact Hz)
  exact trivial
 intro u w2 ag _ j;simp only[gQ]at j;refine⟨rfl,?_⟩;intro N H;have hl:=j 13 _ rfl;simp only[gI,Is]at hl;go_wp2_with fail;go_ret;exact⟨ξ Ending.returned hl,hG.trans ag⟩
theorem Jf(a b:St):ltOf Xn a b=true<->(a.edge<b.edge\/a.edge=b.edge/\(kC a).at_<(kC b).at_):=by unfold ltOf Xn orI IB;grind
def D6 (a b:St):Prop:=a.edge<b.edge\/a.edge=b.edge/\(kC a).at_<=(kC b).at_
def AY(a b:St):ltOf Xn a b=false<->D6 b a:=by rw[<-Bool.not_eq_true,Jf];unfold D6;omega
def adv:SWO (ltOf Xn):=by
 refine⟨λx=>?_,λx y z=>?_,λx y z=>?_⟩;.rw[AY];unfold D6;omega
 .rw[Jf,Jf,Jf];omega
 .rw[AY,AY,AY];unfold D6;omega
theorem Fv(d:Array St):(flatK gV.enc 2 d).toList=gV.flat d.toList:=by
 have N:(gV.flat d.toList).length=d.size*2:=by rw[gV.flat_length];rfl
 refine List.ext_getElem? λt=>?_;by_cases M:t<d.size*2
 .have K:t / 2<d.size:=by omega
  have H:(flatK gV.enc 2 d)[t]! =(gV.enc d[t / 2]!)[t % 2]! :=get_flatK _ _ _ _ M;have j:=gV.IZ (xs:=d.toList) (i:=t / 2) (x:=d[t / 2]) (by simp) (t % 2) (show t % 2<2 by omega);have e3:t / 2*gV.k+t % 2=t:=by show t / 2*2+t % 2=t;omega
  rw[e3]at j;rw[j,Array.getElem?_toList,cO (by simp_all)];rw[getElem!_pos _ t (by simp_all),getElem!_pos d _ K]at H;rw[H];have J:t % 2<(gV.enc d[t / 2]).length:=by grind
  rw[aI J,List.getElem!_eq_getElem?_getD,aI J];rfl
 .simp_all
def adw{w:ω}{base g c:Nat}{xs:List St}(U:aq1 gV 58 w base g c xs):HoldsK gV.enc 2 w g 0 xs.toArray:=by
 obtain⟨Y,cur,e,Z,J,M,h4,h5,K⟩:=U.blk (by simp);simp only[aO,cZ]at e;obtain⟨rfl,-,-⟩:=e;intro H j;rw[size_flatK]at j;have O:gV.k=2:=rfl;rw[O]at K M;have V:(flatK gV.enc 2 xs.toArray).toList=gV.flat xs:=Fv _;have N:H<xs.length*2:=by simpa using j
 refine⟨?_,by rw[aJ];exact J.frozen _⟩;rw[aJ,J.cell,<-Array.getElem?_toList,show cur.toList[H]? =(cur.toList.take (xs.length*2))[H]? by rw[dG N],K,<-V,Array.getElem?_toList,cO (by rw[size_flatK];exact j),getElem!_pos _ H (by rw[size_flatK];exact j)];rfl
theorem adx(base:Nat)(A:Option δ)(n c:Nat)(xs:List St)(w:ω)(H:aq1 gV 58 w base A c xs)(hn:xs.length=n)(hl:n<=1000):Γ aj 182 #[.slice A n c,.func (.func 183) #[] #[]] w λe w'=>e=.returned (.tuple #[])/\ ∃N:List St,N.Perm xs/\N.Pairwise D6/\aq1 gV 58 w' base A c N/\w.grownBy w' (asa A):=by
 cases n with
 |zero=>have:xs= []:=dh.1 hn;subst this;exact(AnyF.slices_SortFunc_none KI A c _ w).mono λe w' ⟨h1,O⟩=>⟨h1,[],.nil,.nil,O▸H,O▸World.grownBy.refl w _⟩
 |succ n=>
  obtain⟨g,cur,rfl,hg,U,Z,h4,h5,h6⟩:=H.blk (H.some_ (by omega));have Y:=AnyQ.slices_SortFunc KI 2 isAgg58 sizeOf58 gV.enc gV.len gV.one Xn adv 183 #[] g 0 c xs.toArray w Qj (λm os dk _ x y=>by have:=adu x y (sortWorldK gV.enc 2 w g 0 m dk os);exact this) (adw H) U.lt (by grind);have K:xs.toArray.size=n+1:=by omega
  rw[K]at Y;refine Y.mono ?_;rintro e w'⟨rfl,j,m,os,J,hs,rfl⟩;refine⟨rfl,j.toList,?_,?_,?_,?_⟩;.have:=J.2.2;(have e1:j.extract 0 (n+1)=j:=by rw[<-K,<-J.1];simp);grind
  .rw[List.pairwise_iff_getElem];intro i M hi hj aa;(have ac:M<j.size:=by omega);(have V:j.size=n+1:=by rw[J.1,K]);have:=hs i M (aV _) aa (by omega);rw[AY,getElem!_pos j i (by omega),getElem!_pos j M ac]at this;grind
  ·(have V:j.size=n+1:=by rw[J.1,K]);(have hF:(flatK gV.enc 2 j).size=(n+1)*2:=by simp_all);(have ae:(n+1)*2<=cur.size:=by rw[Z];show(n+1)*2<=c*2;omega);(have hB:fK (sortWorldK gV.enc 2 w g 0 m j os) g 58 (putCells id 0 (flatK gV.enc 2 j) cur):=by have:=KF (show fK (Sort.ahead w m) g 58 cur from U) (flatK gV.enc 2 j);have af:=this.lt;unfold fK at this |-;rw[<-this];show((putRow id (Sort.ahead w m) g 0 (flatK gV.enc 2 j)).heap++os)[g]? =_;grind);refine⟨by rw[gV.flat_length],.inr ⟨g,c,putCells id 0 (flatK gV.enc 2 j) cur,by simp,hg,hB,by grind,h5,by rw[Dh];exact Z,?_⟩⟩;rw[Array.length_toList,V,<-Fv];have:=Di (flatK gV.enc 2 j) cur (by omega);rw[hF]at this;exact this
  .refine⟨rfl,rfl,rfl,?_,λk hk ad=>?_⟩;(.show w.heap.size<=((putRow id (Sort.ahead w m) g 0 (flatK gV.enc 2 j)).heap++os).size;simp);.show((putRow id (Sort.ahead w m) g 0 (flatK gV.enc 2 j)).heap++os)[k]? =w.heap[k]?;rw[dS (by simp_all),KG _ _ _ _ (λe=>ad (by rw[e];rfl))];rfl
end
section
def Fz(s:St)(j:Bool)(W:ω):(Instr.checkKey j 10000 58 (qB s)).run aj W=.ok () W:=by rfl
def Qk(s:St)(W:ω):(Instr.keyThatStays (qB s) (qB s)).run aj W=.ok (qB s) W:=by
 have h:Instr.sameBits 10000 (qB s) (qB s)=true:=by rw[show(10000:Nat)=9998+1+1 from rfl];simp[Instr.sameBits]
 simp[Instr.keyThatStays,h]
theorem AZ(a b:St)(W:ω):(Op.equal 58 (qB a) (qB b)).run aj W=.ok (decide (a=b)) W:=by have h:=vP a b W;simp only[γ,Op.equal]at h |-;simp at h |-;cases j:(Op.equalIn Op.maxDepth 58 (qB a) (qB b)).run aj W with|ok v W'=>simp_all|halt x y=>simp_all
def Ba (ms:List (St × Nat)):List MapEntry:=ms.map fun p=>⟨qB p.1,.bool true,p.2⟩
theorem Ic(s:St)(W:ω): ∀(ms:List (St × Nat)) (i:Nat),s∉ms.map (·.1)->(Instr.findAsking 58 (qB s) (Ba ms) i).run aj W=.ok none W
 | [],i,_=>by rfl
 |p::ms,i,h=>by
  rw[List.map_cons,bJ,not_or]at h;have j:=Ic s W ms (i+1) h.2;have H:decide (s=p.1)=false:=by grind
  simp only[Ba,List.map_cons]at j |-;simp[Instr.findAsking,AZ,H,j]
theorem KL(s:St)(W:ω): ∀(ms:List (St × Nat)) (i:Nat),s∈ms.map (·.1)-> ∃j b,(Instr.findAsking 58 (qB s) (Ba ms) i).run aj W=.ok (some (i+j,true)) W/\ms[j]? =some (s,b)
 | [],i,h=>by cases h
 |p::ms,i,h=>by
  by_cases e:s=p.1;·(have H:decide (s=p.1)=true:=by grind);exact⟨0,p.2,by simp[Ba,Instr.findAsking,AZ,H],by grind⟩
  ·(have H:decide (s=p.1)=false:=by grind);rw[List.map_cons,bJ]at h;obtain⟨j,b,J,K⟩:=KL s W ms (i+1) (h.resolve_left e);refine⟨j+1,b,?_,by grind⟩;simp only[Ba,List.map_cons]at J |-;simp[Instr.findAsking,AZ,H,J];omega
theorem Uk(s:St)(W:ω)(ms:List (St × Nat)):(s∉ms.map (·.1)/\(Instr.findKey 58 (qB s) (Ba ms)).run aj W=.ok none W)\/ ∃j b,(Instr.findKey 58 (qB s) (Ba ms)).run aj W=.ok (some (j,true)) W/\ms[j]? =some (s,b):=by
 have N: ∀es:List MapEntry,es≠ []->dY (.struct (aj.fieldsOf 58)) (qB s) es 0=none:=λes h=>by cases es with|nil=>grind|cons e es=>rfl
 have H:aj.underlying 58=some (.struct (aj.fieldsOf 58)):=by kernel_rfl
 cases ms with
 |nil=>exact .inl ⟨by simp,by simp[Instr.findKey,ν H,Ba,dY]⟩
 |cons p ms=>
  have J:=N (Ba (p::ms)) (by simp[Ba]);by_cases h:s∈(p::ms).map (·.1);.obtain⟨j,b,K,M⟩:=KL s W (p::ms) 0 h;rw[aJ]at K;exact .inr ⟨j,b,by simp[Instr.findKey,ν H,J,K],M⟩
  .exact .inl ⟨h,by simp[Instr.findKey,ν H,J,Ic s W (p::ms) 0 h]⟩
structure FB (W:ω) (b:Nat) (ms:List (St × Nat)):Prop where
  at_: ∃es cl,W.heap[b]? =some (.map es cl)/\es.toList=Ba ms/\ ∀p∈ms,p.2<cl
  keys:(ms.map (·.1)).Nodup
  born:(ms.map (·.2)).Nodup
def FB.keep{W W':ω}{b:Nat}{ms:List (St × Nat)}(h:FB W b ms)(J:W'.heap[b]? =W.heap[b]?):FB W' b ms:=by obtain⟨es,cl,j,H⟩:=h.at_;exact⟨⟨es,cl,J.trans j,H⟩,h.keys,h.born⟩
theorem FB.lt{W:ω}{b:Nat}{ms:List (St × Nat)}(h:FB W b ms):b<W.heap.size:=by obtain⟨es,cl,j,_⟩:=h.at_;grind
def KN:aj.underlying 271=some (.map 58 4):=by simp
theorem Ul{es:Array MapEntry}{j:Nat}{s:St}{b:Nat}(h:es[j]? =some ⟨qB s,true,b⟩):es.modify j (λe=>{e with key:=qB s,val:=true})=es:=by grind
theorem FB.put{W:ω}{b:Nat}{ms:List (St × Nat)}(h:FB W b ms)(s:St): ∃W' N,(Instr.mapUpdate 271 (.map (some b)) (qB s) true).run aj W=.ok () W'/\W.grownBy W' (some b)/\FB W' b N/\ ∀y,y∈N.map (·.1)<->y=s\/y∈ms.map (·.1):=by
 obtain⟨es,cl,J,j,U⟩:=h.at_;have Y:=h.lt;have M: ∀o,(pX W b o).heap[b]? =some o:=λo=>by simp[pX,Y]
 rcases Uk s W ms with⟨hn,H⟩ |⟨aa,O,H,V⟩
 .refine⟨pX W b (.map (es.push ⟨qB s,true,cl⟩) (cl+1)),ms++ [(s,cl)],?_,vk _ _ _,⟨⟨_,_,M _,by rw[Array.toList_push,j];simp[Ba],λp hp=>?_⟩,?_,?_⟩,λy=>by grind⟩;.rw[<-j]at H;simp[Instr.mapUpdate,ν KN,MapKept.run_getObj_map J,Fz,H,MapKept.run_setObj_map _ J,pX]
  .grind
  .rw[eX,List.nodup_append];refine⟨h.keys,by simp,λx Z y hy e=>?_⟩;grind
  .rw[eX,List.nodup_append];refine⟨h.born,by simp,λx Z y hy e=>?_⟩;grind
 .have K:es[aa]? =some ⟨qB s,true,O⟩:=by rw[<-Array.getElem?_toList,j,Ba,bW,V];rfl
  refine⟨pX W b (.map es cl),ms,?_,vk _ _ _,⟨⟨es,cl,M _,j,U⟩,h.keys,h.born⟩,λy=>?_⟩;.rw[<-j]at H;simp[Instr.mapUpdate,ν KN,MapKept.run_getObj_map J,Fz,H,K,Qk,MapKept.run_setObj_map _ J,pX,Ul K]
  grind
section
variable {W:ω} {ops:Array ο} {rest:List ο} {o:ο} {a:Act} {Q:Exit->Act->ω->Prop}
def MK{b:Nat}{ms:List (St × Nat)}(h:FB W b ms)(s:St)(O:o.guard=none)(m k y:κ)(V:o.op=.mapUpdate 271 m k y)(hm:a.eval m=.map (some b))(U:a.eval k=qB s)(Z:a.eval y=true)(Y: ∀W' j,W.grownBy W' (some b)->FB W' b j->(∀y,y∈j.map (·.1)<->y=s\/y∈ms.map (·.1))->Δ aj ops Q rest (a.put o.dst υ) W'):Δ aj ops Q (o::rest) a W:=by obtain⟨W',j,H,J,K,M⟩:=h.put s;refine π O λaa N=>?_;have:=N _ _ (Y W' j J K M);unfold Oper.wp execOp;simp only[V,hm,U,Z,Sem.run_bind,H,dO];exact this
structure Dj (W:ω) (b r:Nat) (ms:List (St × Nat)) (out:List St):Prop where
  at_: ∃es cl since seen c0,W.heap[b]? =some (.map es cl)/\es.toList=Ba ms/\W.heap[r]? =some (.mapIter (some b) since seen c0)/\since<=c0/\since<=cl/\(∀p∈ms,p.2<since)/\ ∀p∈ms,seen.contains p.2=true<->p.1∈out
  keys:(ms.map (·.1)).Nodup
  born:(ms.map (·.2)).Nodup
  sub: ∀y∈out,y∈ms.map (·.1)
  nodup:out.Nodup
def Dj.keep{W W':ω}{b r:Nat}{ms:List (St × Nat)}{out:List St}(h:Dj W b r ms out)(M:W'.heap[b]? =W.heap[b]?)(N:W'.heap[r]? =W.heap[r]?):Dj W' b r ms out:=by obtain⟨es,cl,since,seen,c0,j,H,J,K⟩:=h.at_;exact {h with at_:=⟨es,cl,since,seen,c0,M.trans j,H,N.trans J,K⟩}
theorem Dj.ne{b r:Nat}{ms:List (St × Nat)}{out:List St}(h:Dj W b r ms out):r≠b:=by obtain⟨es,cl,since,seen,c0,j,H,J,K⟩:=h.at_;grind
def KO(seen:Array Nat)(x y:Nat):(seen.push y).contains x=true<->seen.contains x=true\/x=y:=by simp
theorem YP: ∀ {ms:List (St × Nat)},(ms.map (·.1)).Nodup-> ∀ {p q:St × Nat},p∈ms->q∈ms->p.1=q.1->p=q
 |x::l,h,p,q,hp,hq,e=>by
  rw[List.map_cons,List.nodup_cons]at h;rcases bJ.1 hp with j |j;.grind
  .rcases bJ.1 hq with H |H;(.grind);.exact YP h.2 j H e
theorem YQ: ∀ {ms:List (St × Nat)},(ms.map (·.2)).Nodup-> ∀ {p q:St × Nat},p∈ms->q∈ms->p.2=q.2->p=q
 |x::l,h,p,q,hp,hq,e=>by
  rw[List.map_cons,List.nodup_cons]at h;rcases bJ.1 hp with j |j;.grind
  .rcases bJ.1 hq with H |H;(.grind);.exact YQ h.2 j H e
def IK{b:Nat}{ms:List (St × Nat)}(h:FB W b ms)(M:o.guard=none)(m:κ)(O:o.op=.range 271 m)(hm:a.eval m=.map (some b))(U: ∀W',W W'->Dj W' b W ms []->Δ aj ops Q rest (a.put o.dst (.pointer W)) W'):Δ aj ops Q (o::rest) a W:=by obtain⟨es,cl,j,K,J⟩:=h.at_;have N:=h.lt;have hB:W (W.alloc (.mapIter (some b) cl #[] cl)):=gY.alloc ig _;refine π M λY H=>?_;have:=H _ _ (U _ hB ⟨⟨es,cl,cl,#[],cl,(hB.block b N).trans j,K,heap_alloc_new W _,aW _,aW _,J,λp _=>by simp⟩,h.keys,h.born,(λy V=>by cases V),List.nodup_nil⟩);unfold Oper.wp execOp;simp only[O,hm,Sem.run_bind,run_range_map W 271 58 4 b es cl KN j,dO];exact this
theorem KP{b r:Nat}{ms:List (St × Nat)}{out:List St}(h:Dj W b r ms out)(am:o.guard=none)(m:κ)(ho:o.op=.next m false)(hm:a.eval m=.pointer r)(h0:Hid (∀y,y∈ms.map (·.1)->y∈out)->Δ aj ops Q rest (a.put o.dst (.tuple #[false])) W)(h1: ∀s W',Hid (s∈ms.map (·.1))->Hid (s∉out)->jV (λk=>k=r) W W'->Dj W' b r ms (out++ [s])->W'.rangeLeft b r<W.rangeLeft b r->(Instr.entry (.pointer r)).run aj W'=.ok (.tuple #[qB s,true]) W'->Δ aj ops Q rest (a.put o.dst (.tuple #[true,qB s,true])) W'):Δ aj ops Q (o::rest) a W:=by
 have ar:=h.ne;have ak:=h.keys;have al:=h.born;obtain⟨es,cl,since,seen,c0,V,N,O,av,ag,au,U⟩:=h.at_;have aq:(es.toList.map (·.born)).Nodup:=by rw[N,Ba,List.map_map];grind
 have ap: ∀x∈es.toList,∃p∈ms,x=⟨qB p.1,true,p.2⟩:=λx K=>by rw[N,Ba]at K;grind
 have ad: ∀p∈ms,(⟨qB p.1,true,p.2⟩:MapEntry)∈es.toList:=λp H=>by rw[N,Ba];grind
 refine π am λaz hK=>?_;rcases run_next_at (P:=aj) W o.type r b since c0 seen es cl O V (λx K=>by grind) av with⟨hz,ac⟩ |⟨x,K,J,aw,ac⟩;.have:=hK _ _ (h0 (ah λy j=>by obtain⟨p,H,rfl⟩:=List.mem_map.1 j;exact(U p H).1 (all_seen es seen hz _ (ad p H))));unfold Oper.wp execOp;simp only[ho,hm,Sem.run_bind,ac,dO];exact this
 .obtain⟨ax,ai⟩:=mem_left K;obtain⟨p,H,rfl⟩:=ap x ax;have an:r<W.heap.size:=by rcases eu r W with h |h;(.exact h);.rw[dI h]at O;cases O
  have M:J.heap=W.heap/\J.os=W.os/\J.tape=W.tape/\J.output=W.output:=by rcases aw with rfl |rfl <;> exact⟨rfl,rfl,rfl,rfl⟩
  have aa:(ChangeMaps.setBlock J r (.mapIter (some b) since (seen.push p.2) cl)).heap[r]? =some (.mapIter (some b) since (seen.push p.2) cl):=by simp[ChangeMaps.setBlock,M.1,an]
  have ae: ∀k,k≠r->(ChangeMaps.setBlock J r (.mapIter (some b) since (seen.push p.2) cl)).heap[k]? =W.heap[k]? :=λk hk=>by simp only[ChangeMaps.setBlock,M.1];exact dR (λe=>hk e.symm)
  have Y:=(ae b (λe=>ar e.symm)).trans V;have hg:jV (λk=>k=r) W (ChangeMaps.setBlock J r (.mapIter (some b) since (seen.push p.2) cl)):=⟨M.2.1,M.2.2.1,M.2.2.2,by simp[ChangeMaps.setBlock,M.1],λk _ hn=>ae k hn⟩;have af:p.1∉out:=λe=>by have:=(U p H).2 e;rw[this]at ai;cases ai
  have hI:Dj (ChangeMaps.setBlock J r (.mapIter (some b) since (seen.push p.2) cl)) b r ms (out++ [p.1]):=by refine⟨⟨es,cl,since,seen.push p.2,cl,Y,N,aa,ag,ag,au,λq Z=>?_⟩,h.keys,h.born,λy j=>?_,?_⟩;(.rw[KO,U q Z,dK,dN];constructor;(.rintro (h |h);(.exact .inl h);.right;exact ξ Prod.fst (YQ al Z H h));.rintro (h |h);(.exact .inl h);.exact .inr (ξ Prod.snd (YP ak Z H h)));(.rcases dK.1 j with j |j;(.exact h.sub y j);.rw[dN]at j;rw[j];exact List.mem_map.2 ⟨p,H,rfl⟩);.rw[List.nodup_append];refine⟨h.nodup,by simp,λx K y j e=>?_⟩;rw[dN]at j;rw[e,j]at K;exact af K
  have hl:(ChangeMaps.setBlock J r (.mapIter (some b) since (seen.push p.2) cl)).rangeLeft b r<W.rangeLeft b r:=by unfold World.rangeLeft;rw[Y,aa,V,O];exact left_shrinks es seen _ K
  have:=hK _ _ (h1 p.1 _ (ah (List.mem_map.2 ⟨p,H,rfl⟩)) (ah af) hg hI hl (run_entry_at _ r b since seen es cl ⟨qB p.1,true,p.2⟩ aa Y (ad p H) aq));unfold Oper.wp execOp;simp only[ho,hm,Sem.run_bind,ac,dO];exact this
def IL{r:Nat}{s:St}(h:(Instr.entry (.pointer r)).run aj W=.ok (.tuple #[qB s,true]) W)(H:o.guard=none)(m:κ)(J:o.op=.entry m)(hm:a.eval m=.pointer r)(K:Δ aj ops Q rest (a.put o.dst (.tuple #[qB s,true])) W):Δ aj ops Q (o::rest) a W:=by refine π H λM j=>?_;have:=j _ _ K;unfold Oper.wp execOp;simp only[J,hm,Sem.run_bind,h,dO];exact this
end
end
def Bc (a b:St):Prop:=a.edge<b.edge\/a.edge=b.edge/\a.rev=false/\b.rev=true
theorem KQ{c:St}(j:Bc a b)(H:Bc b c):Bc a c:=by unfold Bc at*;grind
theorem Um(h:Bc a a):False:=by unfold Bc at h;grind
theorem agv(H:a≠b)(h:aby a b=true):Bc a b:=by obtain⟨j,a2⟩:=a;obtain⟨b1,b2⟩:=b;unfold aby at h;unfold Bc;simp only[kC,Bool.or_eq_true,bM,decide_eq_true_eq]at h;grind
theorem adz(H:a≠b)(h:aby a b=false):Bc b a:=by obtain⟨j,a2⟩:=a;obtain⟨b1,b2⟩:=b;unfold aby at h;unfold Bc;simp only[kC,Bool.or_eq_false_iff,Bool.and_eq_false_iff,decide_eq_false_iff_not]at h;grind
theorem GL(s y:St): ∀l,y∈uf s l<->y=s\/y∈l
 | []=>by simp[uf]
 |x::l=>by
  rw[uf];split;.grind
  .split;(.simp);.rw[bJ,GL s y l,bJ];grind
theorem FC(s:St): ∀l:List St,l.Pairwise Bc->(uf s l).Pairwise Bc
 | [],_=>by simp[uf]
 |x::l,h=>by
  rw[List.pairwise_cons]at h;rw[uf];split;.simp_all
  .rename_i K;split;(.rename_i J;have H:=agv K J;refine List.pairwise_cons.2 ⟨?_,List.pairwise_cons.2 h⟩;intro y j;rcases bJ.1 j with rfl |j;(.exact H);.exact KQ H (h.1 y j));.rename_i J;have H:=adz K (by grind);refine List.pairwise_cons.2 ⟨?_,FC s l h.2⟩;intro y j;rcases(GL s y l).1 j with rfl |j;(.exact H);grind
def KR(y:St): ∀l:List St,y∈l.foldr uf []<->y∈l
 | []=>by simp
 |s::l=>by rw[List.foldr_cons,GL,KR y l,bJ]
def Dk: ∀l:List St,(l.foldr uf []).Pairwise Bc
 | []=> .nil
 |s::l=>by rw[List.foldr_cons];exact FC s _ (Dk l)
theorem KT{α:Type}(lt:α->α->Prop)(tr: ∀a b c,lt a b->lt b c->lt a c)(H: ∀a,¬lt a a): ∀l m:List α,l.Pairwise lt->m.Pairwise lt->(∀y,y∈l<->y∈m)->l=m
 | [],[],_,_,_=>rfl
 | [],y::m,_,_,h=>by have:=(h y).2 (by simp);cases this
 |x::l,[],_,_,h=>by have:=(h x).1 (by simp);cases this
 |x::l,y::m,hl,hm,h=>by
  rw[List.pairwise_cons]at hl hm;have j:x=y:=by rcases bJ.1 ((h x).1 (by simp)) with e |e;(.exact e);.rcases bJ.1 ((h y).2 (by simp)) with e2 |e2;(.grind);.grind
  subst j;rw[KT lt tr H l m hl.2 hm.2 ?_];intro z;constructor;.grind
  .grind
def Ql{s:St}(j:l.Pairwise Bc)(hm: ∀y,y∈l<->y∈RF t s):l=(RF t s).foldr uf []:=KT Bc (λ_ _ _=>KQ) (λ_=>Um) l _ j (Dk _) λy=>(hm y).trans (KR y _).symm
theorem BU: ∀(a b:List St),a.Nodup->(∀y,y∈a->y∈b)->a.length<=b.length
 | [],b,_,_=>aV _
 |x::a,b,h,hs=>by obtain⟨J,K⟩:=List.nodup_cons.1 h;have j:=hs x (by simp);have M:=BU a (b.erase x) K (λy H=>(List.mem_erase_of_ne (λe=>J (by rw[<-e];exact H))).2 (hs y (by simp[H])));rw[List.length_erase_of_mem j]at M;have:=List.length_pos_of_mem j;simp only[bK];omega
theorem Un(t:Tp)(s:St):(RF t s).length<=2*t.iI.length:=by
 have h: ∀l:List Jt,(l.flatMap λj=>(if j.a=nZ s/\Cj t j.b then [(⟨j.b.edge,decide (j.b.at_=1)⟩:St)] else [])++(if j.b=nZ s/\Cj t j.a then [(⟨j.a.edge,decide (j.a.at_=1)⟩:St)] else [])).length<=2*l.length:=λl=>by induction l with|nil=>simp|cons j l H=>rw[List.flatMap_cons,bC,bC,bK];split <;> split <;> simp only[bK,dU] <;> omega
 exact h t.iI
def adA{e:Int}{r:Bool}(h:fK w g 58 #[.int .i64 e,.bool r]):fE gV w (some ⟨g,0,none⟩) [⟨e,r⟩]:=qw h rfl
theorem Own.init{L:List Bk}{x:Bk}(h:Own w W (L++ [x])):Own w W L:=⟨h.below,λa j=>h.blk a (by simp[j]),by have:=h.nodup;rw[eX]at this;exact(List.nodup_append.1 this).1⟩
def D7 (t:Tp) (s:St) (x y:En):List St:=if x=nZ s/\Cj t y then [⟨y.edge,decide (y.at_=1)⟩] else []
def agw(t:Tp)(s:St):RF t s=t.iI.flatMap λj=>D7 t s j.a j.b++D7 t s j.b j.a:=rfl
theorem agx(h:jE w t m)(s:St):Γ aj 133 #[m.cells,qB s] w λe w'=> ∃A c,e=.returned (.slice A (pK t s).length c)/\aq1 gV 58 w' w A c (pK t s)/\w w':=by
 obtain⟨R,hR⟩:=fD (pK t s);rw[<-hR];unfold pK at hR;have HR:=ah hR;clear hR;have al:=λW=>EG h s.edge W;have K:Own w _ [_,_]:=Own.iY w 27 58 m.cells #[s.edge,s.rev];have bx:=K.b0.cell;have bm:=λe W=>EG h e W;unfold jl.cells at*;have bS:=h.lies.iI;have bc:=h.e2;have cE:=h.l2;have bR:=h.q2;obtain⟨A2,a7⟩:=fD m.A2;obtain⟨n2,bb⟩:=fD m.n2;obtain⟨c2,ai⟩:=fD m.c2;rw[<-a7,<-bb,<-ai]at K bx al bm |-;rw[<-a7]at bS;rw[<-bb]at bc cE bR;rw[<-ai]at bR;clear a7 bb ai;rcases hte:iW t s.edge with _ |_;.rw[hte]at al;have cu:Hid (R= []):=ah (by rw[HR.out,hte];rfl);unfold qB;clear hte h;go_enter func133,ntmps133;go_wp2_with((with_reducible refine(al _).mono ?_);rintro e w1⟨rfl,ax⟩);go_ret;rw[cu.out];exact⟨none,0,rfl,aq1.nil _ _,(K.grow ax).below⟩
 focus(rw[hte]at al;have cg:Hid (R=(RF t s).foldr uf []):=ah (by rw[HR.out,hte];rfl);unfold qB;clear hte h;go_enter func133,ntmps133;go_wp2_with(first|((with_reducible refine(al _).mono ?_);rintro e w1⟨rfl,ax⟩;have jc:=K.grow ax;have cz:=jc.b0.cell)|(refine qE jc rfl rfl ?_;intro w2 O ac aD;have cA:=O.b0.cell));obtain⟨gm,aR⟩:=fD w1.heap.size;have aa:FB w2 gm []:=⟨⟨#[],0,by rw[aR];exact ac,rfl,(λp hp=>by cases hp)⟩,by simp,by simp⟩;have ae:Hid (w.heap.size+2<=gm):=ah (by rw[aR];have:=jc.b1.lt;omega);rw[<-aR];clear aR ac bx cz cA al ax aD K jc;go_loopw [21] (λi wr=> ∃(k:Nat) (ms:List (St × Nat)),i=.int .i64 k/\k<=n2/\Own w wr [(w,27,#[.slice m.A1 m.n1 m.c1,.slice A2 n2 c2,.slice m.A3 m.n3 m.c3,.slice m.A4 m.n4 m.c4]),(w.heap.size+1,58,#[s.edge,s.rev])]/\FB wr gm ms/\Hid (∀y,y∈ms.map (·.1)<->y∈(t.iI.take k).flatMap λj=>D7 t s j.a j.b++D7 t s j.b j.a)) (λi _=>n2-(intOf i).toNat);(case atStart=>exact⟨0,[],rfl,aV _,O,aa,ah (by simp)⟩);case' round=>clear O aa;obtain⟨k,ms,rfl,V,K,aa,hY⟩:=hrel;by_cases a4:k<n2;(focus(obtain⟨j,hj⟩:=aq5 bc a4;obtain⟨g,off,hA,hg,hc⟩:=(bS.below K.below).get hj;have a0:=hc 0 j.a.edge rfl;have bh:=hc 1 j.a.at_ rfl;have a2:=hc 2 j.b.edge rfl;have a3:=hc 3 j.b.at_ rfl;simp only[qV,bI]at a0 bh a2 a3;have HJ:=ah hj;clear hc hj;subst hA;have an:=(K.new2 127 #[j.a.edge,j.a.at_,j.b.edge,j.b.at_]);have cB:=an.b2.cell;have au:=an.abu 272 #[j.a.edge,j.a.at_,j.b.edge,j.b.at_,j.b.edge,j.b.at_,j.a.edge,j.a.at_];have WX:=(aa.keep (W':=wr.alloc (.cells #[j.a.edge,j.a.at_,j.b.edge,j.b.at_] 127)) (heap_alloc_old wr _ aa.lt));replace WX:=WX.keep (W':=(wr.alloc (.cells #[j.a.edge,j.a.at_,j.b.edge,j.b.at_] 127)).alloc (.cells #[j.a.edge,j.a.at_,j.b.edge,j.b.at_,j.b.edge,j.b.at_,j.a.edge,j.a.at_] 272)) (heap_alloc_old _ _ WX.lt);obtain⟨bj,aE⟩:=fD wr.heap.size;rw[show(wr.alloc (.cells #[j.a.edge,j.a.at_,j.b.edge,j.b.at_] 127)).heap.size=wr.heap.size+1 by simp]at au;rw[<-aE]at au;have cf:Hid (gm<bj):=ah (by rw[aE];exact aa.lt);go_wp2_with fail;rw[<-aE];clear aE cB an K;go_loopw [37] (λi wq=> ∃(k2:Nat) (ad:List (St × Nat)),i=.int .i64 k2/\k2<=2/\Own w wq [(w,27,#[.slice m.A1 m.n1 m.c1,.slice (some ⟨g,off,none⟩) n2 c2,.slice m.A3 m.n3 m.c3,.slice m.A4 m.n4 m.c4]),(w.heap.size+1,58,#[s.edge,s.rev]),(bj,127,#[j.a.edge,j.a.at_,j.b.edge,j.b.at_]),(bj+1,272,#[j.a.edge,j.a.at_,j.b.edge,j.b.at_,j.b.edge,j.b.at_,j.a.edge,j.a.at_])]/\FB wq gm ad/\Hid (∀y,y∈ad.map (·.1)<->y∈ms.map (·.1)\/(1<=k2/\y∈D7 t s j.a j.b)\/(2<=k2/\y∈D7 t s j.b j.a))) (λi _=>2-(intOf i).toNat);(case atStart=>exact⟨0,ms,rfl,by omega,au,WX,ah (λy=>by simp)⟩);case' round=>clear au WX;obtain⟨k2,ad,rfl,cV,K,ac,av⟩:=hrel;by_cases cG:k2<2;(focus((have cS:decide ((k2:Int)<2)=true:=by simp;omega);have ap:=K.b3.cell;(obtain⟨p,q,ar,bn⟩: ∃p q:En,(∀i,i<4->(#[j.a.edge,j.a.at_,j.b.edge,j.b.at_,j.b.edge,j.b.at_,j.a.edge,j.a.at_]:Array Θ)[k2*4+i]? =(#[p.edge,p.at_,q.edge,q.at_]:Array Θ)[i]?)/\(∀y,(y∈ad.map (·.1)\/y∈D7 t s p q)<->(y∈ms.map (·.1)\/(1<=k2+1/\y∈D7 t s j.a j.b)\/(2<=k2+1/\y∈D7 t s j.b j.a))):=by rcases(show k2=0\/k2=1 by omega) with rfl |rfl;(.refine⟨j.a,j.b,λi hi=>?_,λy=>?_⟩;(.rcases(show i=0\/i=1\/i=2\/i=3 by omega) with rfl |rfl |rfl |rfl <;> rfl);.rw[av.out];simp);.refine⟨j.b,j.a,λi hi=>?_,λy=>?_⟩;(.rcases(show i=0\/i=1\/i=2\/i=3 by omega) with rfl |rfl |rfl |rfl <;> rfl);.rw[av.out];simp[or_assoc]);have b0:=(ap (k2*4+0)).trans (ar 0 (by omega));have b1:=(ap (k2*4+1)).trans (ar 1 (by omega));have b2:=(ap (k2*4+2)).trans (ar 2 (by omega));have b3:=(ap (k2*4+3)).trans (ar 3 (by omega));simp only[bI,List.getElem?_toArray,eP,fB]at b0 b1 b2 b3;have bi:=ah bn;clear ap ar bn;have Z:=K.alC 272 #[p.edge,p.at_,q.edge,q.at_];have Qa:=ac.keep (W':=wr.alloc (.cells #[p.edge,p.at_,q.edge,q.at_] 272)) (heap_alloc_old wr _ ac.lt);go_upto_region 10 with fail;obtain⟨b9,xW⟩:=fD wr.heap.size;obtain⟨W5,Xg⟩:=fD (wr.alloc (.cells #[p.edge,p.at_,q.edge,q.at_] 272));rw[<-Xg]at Qa Z |-;rw[<-xW]at Z |-;have cd:Hid (gm<b9):=ah (by rw[xW];exact ac.lt);clear Xg xW K ac b0 b1 b2 b3;obtain⟨cc,U⟩:=fD (decide (p=nZ s)&&Cj t q);have bf:=ah U;have aq:=λW=>Jy s W;have aM:=λW=>Jz p (nZ s) W;have a5:=λW=>bm q.edge W;unfold Cj at U;obtain⟨lv,bN⟩:=fD (nZ s);rw[<-bN]at aq aM U;obtain⟨c1,bw⟩:=fD (decide (p=lv));rw[<-bw]at aM U;obtain⟨ci,ai⟩:=fD (iW t q.edge);rw[<-ai]at a5 U;unfold qB RH at aq;unfold RH at aM;clear bN bw ai;go_cut [64] from 41 to 74 (λx W'=>x=.bool cc/\W5 W');(case' first=>rcases c1 with _ |_;(focus((have e:cc=false:=by rw[U];rfl);clear U));rotate_left;focus(rcases ci with _ |_;(focus((have e:cc=false:=by rw[U];rfl);clear U));rotate_left;focus(by_cases N:q.at_=0;(focus((have e3:(q.at_==0)=true:=by simpa using N);(have e:cc=true:=by rw[U];simp[N]);clear U N));rotate_left;focus((have e3:(q.at_==0)=false:=by simpa using N);by_cases h4:q.at_=1;(focus((have e4:(q.at_==1)=true:=by simpa using h4);(have e:cc=true:=by rw[U];simp[h4]);clear U N h4));rotate_left;focus((have e4:(q.at_==1)=false:=by simpa using h4);(have e:cc=false:=by rw[U];simp[N,h4]);clear U N h4)))));rotate_left 5;case rest=>obtain⟨rfl,bq⟩:=hcut;clear U aq aM a5;replace Z:=Z.grow bq;replace Qa:=Qa.keep (bq.block gm Qa.lt);go_upto_if 64 with fail;obtain⟨a6,az⟩:=fD (decide (q.at_=1));(have e1:(q.at_==1)=a6:=by rw[az];rfl);have ca:=ah az;have bA:=Z.b4.cell;cases aL:cc with|false=>have bO:Hid (D7 t s p q= []):=ah (by have J:=bf.out;rw[aL]at J;unfold D7;rw[Ξ];rintro⟨Y,N⟩;rw[decide_eq_true Y,N]at J;cases J);clear az;go_wp2_with fail;go_roundw;(case rel=>exact⟨k2+1,ad,by go_num,by omega,Own.init (L:= [_,_,_,_]) Z,Qa,ah (λy=>by rw[<-bi.out,bO.out];simp)⟩);case measure=>simp[intOf];omega|true=>have cQ:Hid (D7 t s p q= [⟨q.edge,a6⟩]):=ah (by have J:=bf.out;rw[aL]at J;have Y:=Bool.and_eq_true_iff.1 J.symm;unfold D7;rw[Υ ⟨of_decide_eq_true Y.1,Y.2⟩,ca.out]);clear az;go_wp2_with(refine MK Qa ⟨q.edge,a6⟩ rfl _ _ _ rfl rfl rfl rfl ?_;intro W6 cR Gz ct cP);go_roundw;(case rel=>have ak:=jV.kJ (D:=λk=>k=gm) Gz (λk V=>by injection V with V;exact V.symm);have vW:=Z.ji ak (λx M H=>by have J:=ae.out;have Y:=cf.out;have N:=cd.out;simp only[bJ,dH,or_false]at M;rcases M with rfl |rfl |rfl |rfl |rfl <;> simp only at H <;> omega) (λx M=>by have J:=ae.out;omega);exact⟨k2+1,cR,by go_num,by omega,Own.init (L:= [_,_,_,_]) vW,ct,ah (λy=>by rw[cP,<-bi.out,cQ.out];simp[or_comm])⟩);case measure=>simp[intOf];omega));rotate_left 5;·(obtain rfl:k2=2:=by omega);have aw:Hid (∀y,y∈ad.map (·.1)<->y∈(t.iI.take (k+1)).flatMap λj=>D7 t s j.a j.b++D7 t s j.b j.a):=ah (λy=>by rw[av.out,take_snoc' HJ.out,List.flatMap_append,dK,hY.out];simp[dK]);have O:Own w wr [(w,27,#[.slice m.A1 m.n1 m.c1,.slice (some ⟨g,off,none⟩) n2 c2,.slice m.A3 m.n3 m.c3,.slice m.A4 m.n4 m.c4]),(w.heap.size+1,58,#[s.edge,s.rev])]:=⟨K.below,λa ha=>K.blk a (by simp at ha;rcases ha with rfl |rfl <;> simp),by simp⟩;clear cG av;go_wp2_with fail;go_roundw;(case rel=>exact⟨k+1,ad,by go_num,by omega,O,ac,aw⟩);case measure=>simp[intOf];omega));rotate_left 5;·(obtain rfl:k=n2:=by omega);have aw:Hid (∀y,y∈ms.map (·.1)<->y∈RF t s):=ah (λy=>by rw[hY.out,aY (by rw[bc];exact aW _),agw]);clear a4 hY;go_wp2_with(refine IK aa rfl _ rfl rfl ?_;intro W2 aD am);have O:=K.grow aD;obtain⟨r,hr⟩:=fD wr.heap.size;have af:Hid (gm<r/\r<W2.heap.size):=ah (by obtain⟨es,cl,since,seen,c0,J,Y,N,_⟩:=am.at_;rw[hr];refine⟨aa.lt,?_⟩;rcases eu wr W2 with h |h;(.exact h);.rw[dI h]at N;cases N);rw[<-hr]at am |-;obtain⟨B,hB⟩:=fD W2.heap.size;rw[<-hB]at af;have HB:=ah hB;(have cW:ms.length<=200:=by have J:=BU _ _ am.keys (λy hy=>(aw.out y).1 hy);have Y:=Un t s;rw[eU]at J;omega);clear hr K aa aD hB;simp only[aP,ay,aA,aB];go_loopw [10] (λo wr=> ∃(out:List St) (z:Nat) (A:Option δ) (c:Nat),o=.slice A z c/\out.length=z/\aq1 gV 58 wr B A c out/\Dj wr gm r ms out/\Own w wr [(w,27,#[.slice m.A1 m.n1 m.c1,.slice A2 k c2,.slice m.A3 m.n3 m.c3,.slice m.A4 m.n4 m.c4]),(w.heap.size+1,58,#[s.edge,s.rev])]/\B<=wr.heap.size) (λ_ w=>w.rangeLeft gm r);(case atStart=>exact⟨[],0,none,0,rfl,rfl,aq1.nil _ _,am,O,by rw[HB.out];exact aW _⟩);case round=>clear am O;obtain⟨out,z,A,c,rfl,hz,ho,hI,K,cx⟩:=hrel;have HZ:=ah hz;clear hz;go_wp2_with(refine KP hI rfl _ rfl rfl ?_ ?_);(.intro a8;(have bo: ∀y,y∈ms.map (·.1)->y∈out:=λy hy=>by obtain⟨p,hp,rfl⟩:=List.mem_map.1 hy;exact a8.out p.1 p.2 hp);replace a8:=ah bo;clear bo;have cN:=adx B A z c out wr ho HZ.out (by have J:=BU _ _ hI.nodup hI.sub;rw[eU]at J;rw[<-HZ.out];omega);have bX:=ah (And.intro hI.sub hI.nodup);clear hI;go_wp2_with((with_reducible refine cN.mono ?_);rintro e w5⟨rfl,ys,bd,cM,cK,cD⟩);go_ret;(have cH: ∀y,y∈ys<->y∈RF t s:=λy=>by rw[bd.mem_iff,<-aw.out];exact⟨bX.out.1 y,a8.out y⟩);have cI:ys.Nodup:=bd.nodup_iff.2 bX.out.2;(have a4:ys.Pairwise Bc:=by have Y:ys.Pairwise λa b=>D6 a b/\a≠b:=List.pairwise_and_iff.2 ⟨cM,cI⟩;refine Y.imp λ{a b} h=>?_;obtain⟨bh,a2⟩:=a;obtain⟨b1,b2⟩:=b;obtain⟨N,h4⟩:=h;unfold D6 at N;unfold Bc;simp only[kC,ne_eq,St.mk.injEq,not_and]at N h4 |-;cases a2 <;> cases b2 <;> simp at N h4 |- <;> omega);(have cw:R=ys:=by rw[cg.out,<-Ql a4 cH]);(have hl:ys.length=z:=by rw[bd.length_eq,HZ.out]);(have cm:w.heap.size<=B:=by have J:=ae.out;have Y:=af.out;omega);rw[cw];refine⟨A,c,by rw[hl];rfl,cK.mono cm,K.below.trans ((jV.kJ (D:=λk=>A.map (·.block)=some k) cD (λk V=>V)).below K.below.size (λx M=>by have J:=(ho.gJ x M).1;omega))⟩);.intro y W3 cY bO ba cn bL bB;obtain⟨ye,yr⟩:=y;unfold qB at bB;have an:=K.ji ba (λx M H=>by have J:=ae.out;have Y:=af.out;simp only[bJ,dH,or_false]at M;rcases M with rfl |rfl <;> simp only at H <;> omega) (λx M=>by have J:=ae.out;have Y:=af.out;omega);have cJ:=ho.ji ba (λx M H=>by have J:=(ho.gJ x M).1;have Y:=af.out;omega);(have c6:z<=200:=by have J:=BU _ _ hI.nodup hI.sub;rw[eU]at J;rw[<-HZ.out];omega);have bk:=aG cx ba.size;have cF:=ah bL;have cT:=(fK.new W3 58 #[ye,yr]).cell;have bu:=adA (fK.new (W3.alloc (.cells #[ye,yr] 58)) 58 #[ye,yr]);rw[show(W3.alloc (.cells #[ye,yr] 58)).heap.size=W3.heap.size+1 by simp]at bu;clear hI bL;go_wp2_with(first|(refine IL (s:=⟨ye,yr⟩) bB rfl _ rfl rfl ?_)|(at_builtin;refine gW RN rfl _ _ rfl B A c out z rfl HZ.out ((cJ.alloc (.cells #[ye,yr] 58)).alloc (.cells #[ye,yr] 58)) (some ⟨_,0,none⟩) 1 [⟨ye,yr⟩] 1 rfl rfl bu (by omega) (by decide) (aG bk (by simp;omega)) ?_;intro A5 c5 w5 uq cC _));have ag:W3 ((W3.alloc (.cells #[ye,yr] 58)).alloc (.cells #[ye,yr] 58)):=jm.alloc (by simp) _;have ak:=jV.kJ (D:=λk=>A.map (·.block)=some k) cC (λk V=>V);have cX:=af.out;have cU:=ae.out;have a1: ∀x,A.map (·.block)=some x->B<=x:=λx M=>(ho.gJ x M).1;have e1:w5.heap[gm]? =W3.heap[gm]? :=(ak.block gm (by have:=ag.size;omega) (λH=>by have:=a1 _ H;omega)).trans (ag.block gm (by omega));have e2:w5.heap[r]? =W3.heap[r]? :=(ak.block r (by have:=ag.size;omega) (λH=>by have:=a1 _ H;omega)).trans (ag.block r (by omega));(have e3:w5.rangeLeft gm r=W3.rangeLeft gm r:=by unfold World.rangeLeft;rw[e1,e2]);have Z:=(an.grow ag).ji ak (λx M H=>by have J:=a1 _ H;simp only[bJ,dH,or_false]at M;rcases M with rfl |rfl <;> simp only at J <;> omega) (λx M=>by have J:=a1 _ M;omega);go_roundw;(case rel=>exact⟨out++ [⟨ye,yr⟩],z+1,A5,c5,rfl,by rw[bC,HZ.out];rfl,uq,cn.keep e1 e2,Z,aG bk (aG ag.size ak.size)⟩);case measure=>rw[e3];exact cF.out)
 all_goals(apply iM;(case lX=>intro u;simp only[bV,aq9,aP,ay,aA,aB,aT,aJ];rfl);(case hm=>kernel_rfl);(case hB=>kernel_rfl);(case hap=>kernel_rfl);(repeat(first|(apply Lex.is;·(intro u w' V H;refine jh rfl ?_;simp[fH,aC,Is]at H;intro ch hK;have O:=Z.grow V;have cy:=O.b0.cell;have aL:=O.b1.cell;have bA:=O.b4.cell;go_wp2_with(first|((with_reducible first|refine(aq _).mono ?_|refine(a5 _).mono ?_);rintro fU fJ⟨rfl,a9⟩));(try simp only[H]at hK);refine hK _ _ ?_ rfl;first|exact aH _ _|exact a9))|(refine Lex.is (c:=υ) ?_ ?_;·(intro u w' V H;simp[fH,aC,Is]at H;refine MC rfl rfl rfl ?_ rfl;simp only[H];first|rfl|decide))|(apply Lex.is;·(intro u w' V H;simp[fH,aC,Is]at H;refine MF rfl rfl rfl ?_ ?_;(·(simp only[H];first|rfl|decide));intro ch hK;have O:=Z.grow V;have cy:=O.b0.cell;have aL:=O.b1.cell;have bA:=O.b4.cell;go_wp2_with(first|((with_reducible first|refine(aq _).mono ?_|refine(a5 _).mono ?_);rintro fU fJ⟨rfl,a9⟩));(try simp only[H]at hK);refine hK _ _ ?_ rfl;first|exact aH _ _|exact a9))));apply Lex.nil;intro u w' V H;simp only[gQ]at H;have bE:=H 23 _ rfl;simp only[Is]at bE;clear H;simp only[bE];go_wp2_with fail;go_meet;exact⟨by rw[e],V⟩)
def ard{α:Type}{E:arb α}{t J:τ}{b c:Nat}{A:Option δ}{xs:List α}{cs:Array Θ}(K:aq1 E t w b A c xs)(j:fK w g J cs)(M:t≠J):A.map (·.block)≠some g:=by intro e;obtain⟨O,N,r1,_,H,_⟩:=K.blk (by rintro rfl;cases e);rw[r1]at e;simp only[eF,aO]at e;subst e;unfold fK at j H;rw[H]at j;injection j with j;injection j with _ j;exact M j
def oQ{α J:Type}{K:arb α}{M:arb J}{j H:τ}{b1 b2 c1 c2:Nat}{A1 A2:Option δ}{l1:List α}{l2:List J}(N:aq1 K j w b1 A1 c1 l1)(O:aq1 M H w b2 A2 c2 l2)(V:j≠H): ∀g,A1.map (·.block)=some g->A2.map (·.block)≠some g:=by intro g e1;obtain⟨Z,Y,r1,_,U,_⟩:=N.blk (by rintro rfl;cases e1);rw[r1]at e1;simp only[eF,aO]at e1;subst e1;exact ard O U V.symm
def idP (x y:Int):Int:=((x.toNat*16384) ||| y.toNat:Nat)
def qL (t:Tp):Nat->List Int->Int->Int->List St->Except Int (List St)
 |0,_,_,_,_=> .error 20
 |k+1,l,many,i,path=>if i<many then
     if l.tail.headD 0≠1 then .error 20 else
     match oz t (idP (l.tail.tail.headD 0) (l.tail.tail.tail.headD 0)),path.getLast? with
     |some b,some last=>if b.edge=last.edge then qL t k (if i=0 then l.tail.tail.tail.tail.tail.tail.tail.tail else l.tail.tail.tail.tail.tail.tail.tail) (if i=0 then many+l.tail.tail.tail.tail.tail.tail.tail.headD 0 else many) (i+1) path else
         if(⟨b.edge,decide (l.tail.tail.tail.tail.headD 0=0)⟩:St)∉pK t last then .error 141 else
         if xG path b.edge=true\/path.length=24 then .error 2 else qL t k (if i=0 then l.tail.tail.tail.tail.tail.tail.tail.tail else l.tail.tail.tail.tail.tail.tail.tail) (if i=0 then many+l.tail.tail.tail.tail.tail.tail.tail.headD 0 else many) (i+1) (path++ [⟨b.edge,decide (l.tail.tail.tail.tail.headD 0=0)⟩])
     |_,_=> .error 4
   else .ok path
def FD (t:Tp) (path:List St) (v:List Int):Except Int (List St):=qL t (v.length+1) v.tail.tail 1 0 path
structure Vz (w0:ω) (m:jl) (gm bt Bq:Nat) (ref:Int) (rev:Bool) (As:Option δ) (cs:Nat) (ss:List Sc) (gap:Int) (path:List St) (AL:Option δ) (cL:Nat) (W:ω):Prop where
  low:w0 W
  tb:fK W bt 27 m.cells
  mb:fK W gm 42 #[.int .i64 ref,.bool rev,.slice AL path.length cL,.slice As ss.length cs,.int .i64 gap]
  own:aq1 gV 58 W Bq AL cL path
  sec:aq1 kW 60 W Bq As cs ss
  lo:w0.heap.size<=Bq/\w0.heap.size<=bt/\w0.heap.size<=gm/\w0.heap.size<=W.heap.size
def Vz.ji{D:Nat->Prop}(h:Vz w0 m gm bt Bq ref rev As cs ss gap path AL cL W)(j:jV D W W')(N: ∀k,D k->w0.heap.size<=k)(H: ¬D bt)(J: ¬D gm)(K: ∀x,AL.map (·.block)=some x-> ¬D x)(M: ∀x,As.map (·.block)=some x-> ¬D x):Vz w0 m gm bt Bq ref rev As cs ss gap path AL cL W':=⟨h.low.trans (j.below h.lo.2.2.2 N),h.tb.ji j H,h.mb.ji j J,h.own.ji j K,h.sec.ji j M,⟨h.lo.1,h.lo.2.1,h.lo.2.2.1,aG h.lo.2.2.2 j.size⟩⟩
def Vz.below(h:Vz w0 m gm bt Bq ref rev As cs ss gap path AL cL W)(j:W W'):Vz w0 m gm bt Bq ref rev As cs ss gap path AL cL W':=h.ji (jV.of_below j (λ_=>False)) (λ_ h=>h.elim) id id (λ_ _=>id) (λ_ _=>id)
def Vz.at_(h:Vz w0 m gm bt Bq ref rev As cs ss gap path AL cL W)(O:jV (λk=>k=g) W W')(U:w0.heap.size<=g)(J:bt≠g)(K:gm≠g)(M:AL.map (·.block)≠some g)(N:As.map (·.block)≠some g):Vz w0 m gm bt Bq ref rev As cs ss gap path AL cL W':=h.ji O (λk V=>by omega) J K (λx H j=>M (by rw[H,j])) (λx H j=>N (by rw[H,j]))
def Vz.pr{l:List Int}{u er:Int}(h:Vz w0 m gm bt Bq ref rev As cs ss gap path AL cL W)(N:lH W w0 g l u er)(K:jV (λk=>k=g) W W')(H:bt≠g)(J:gm≠g):Vz w0 m gm bt Bq ref rev As cs ss gap path AL cL W':=by obtain⟨⟨A,c,j,_⟩,M⟩:=N;exact h.at_ K M H J (ard h.own j (by decide)) (ard h.sec j (by decide))
theorem Ol(s:St): ∀l,(uf s l).length<=l.length+1
 | []=>by simp[uf]
 |x::l=>by
  have j:=Ol s l;rw[uf];split;.simp
  .split;(.simp);.simp only[bK];omega
theorem Xo(t:Tp)(s:St):(pK t s).length<=2*t.iI.length:=by
 unfold pK;split
 .have h: ∀l:List St,(l.foldr uf []).length<=l.length:=λl=>by induction l with|nil=>simp|cons x l j=>have:=Ol x (l.foldr uf []);rw[List.foldr_cons,bK];omega
  exact aG (h _) (Un t s)
 .simp
def adB (l:List St) (v:Θ) (w:ω):Prop:= ∃A c,v=.slice A l.length c/\fE gV w A l
def adB.grow{v:Θ}(h:adB l v w)(j:w w'):adB l v w':=by obtain⟨A,c,e,H⟩:=h;exact⟨A,c,e,H.below j⟩
def Om{j J H:Int}(K:0<=j)(M:j<J)(hm:0<=H/\H<=4294967296/\(j≠0->H=J)):(if j+1=0 then 4294967299 else(H-(j+1)).toNat)<(if j=0 then 4294967299 else(J-j).toNat):=by
 rw[Ξ (by omega)];by_cases h:j=0;.rw[Υ h];omega
 .rw[Ξ h];have:=hm.2.2 h;omega
def Uo (w0:ω) (gm Bq:Nat) (ref:Int) (rev:Bool) (As:Option δ) (cs:Nat) (ss:List Sc) (gap:Int) (R:Except Int (List St)) (e:ε) (w':ω):Prop:=w0 w'/\match R with
 | .error er=>e=.returned (.int .i64 er)/\er≠0
 | .ok path=>e=.returned (.int .i64 0)/\ ∃A c,fK w' gm 42 #[.int .i64 ref,.bool rev,.slice A path.length c,.slice As ss.length cs,.int .i64 gap]/\aq1 gV 58 w' Bq A c path/\aq1 kW 60 w' Bq As cs ss
def ajU(t:τ)(x y:Int)(j:0<=x)(H:x<9223372036854775808)(J:0<=y)(K:y<9223372036854775808):γ .or t x y=pure (.int .i64 ((x.toNat ||| y.toNat:Nat):Int)):=by
 have M:x.toNat ||| y.toNat<2 ^ 63:=Nat.or_lt_two_pow (by omega) (by omega)
 have e:IntKind.i64.wrap ((aQ 64 x ||| aQ 64 y).toNat:Int)=((x.toNat ||| y.toNat:Nat):Int):=by rw[show x=((x.toNat:Nat):Int) by omega,show y=((y.toNat:Nat):Int) by omega,oK,oK,BitVec.toNat_or,BitVec.toNat_ofNat,BitVec.toNat_ofNat,dF (by omega),dF (by omega),IntKind.wrap_i64];simp only[Int.toNat_natCast];omega
 show Op.intBits .or .i64 _ _=_;exact ξ (λn=>(pure (Value.int .i64 n):Sem Θ)) e
theorem adC(hT:jE w0 t m)(ref:Int)(rev:Bool)(As:Option δ)(cs:Nat)(ss:List Sc)(gap:Int)(path:List St)(Ap:Option δ)(cp:Nat)(d8:w0 W)(aa:fK W gm 42 #[.int .i64 ref,.bool rev,.slice Ap path.length cp,.slice As ss.length cs,.int .i64 gap])(ef:aq1 gV 58 W Bq Ap cp path)(yL:aq1 kW 60 W Bq As cs ss)(ae:w0.heap.size<=Bq/\w0.heap.size<=gm/\w0.heap.size<=W.heap.size/\Bq<=W.heap.size)(v:List Int)(Av:Option δ)(cv:Nat)(hr:fE aq7 W Av v)(ec:v≠ []-> ∀a,Av=some a->a.block<w0.heap.size)(hc:v.length<=cv/\cv<=μ)(hv: ∀x∈v,0<=x/\x<=4294967295)(bh:path≠ []/\path.length<=24):Γ aj 257 #[.agg m.cells,.pointer (some ⟨gm,0,none⟩),.slice Av v.length cv] W (Uo w0 gm Bq ref rev As cs ss gap (FD t path v)):=by
 obtain⟨R,hR⟩:=fD (FD t path v);rw[<-hR];unfold FD at hR;have bf:=λW l u er g (h:lH W w0 g l u er)=>Qh h;have cR:W (W.alloc (.cells m.cells 27)):=gY.alloc ig _;have ap:W ((W.alloc (.cells m.cells 27)).alloc (.cells #[.slice Av v.length cv,.int .i64 0,.int .i64 0] 367)):=cR.alloc cR.size _;have hP:lH ((W.alloc (.cells m.cells 27)).alloc (.cells #[.slice Av v.length cv,.int .i64 0,.int .i64 0] 367)) w0 (W.heap.size+1) v 0 0:=by have Z:=fK.new (W.alloc (.cells m.cells 27)) 367 #[.slice Av v.length cv,.int .i64 0,.int .i64 0];rw[show(W.alloc (.cells m.cells 27)).heap.size=W.heap.size+1 by simp]at Z;exact⟨⟨Av,cv,Z,hr.below ap,ec,hc.1,hc.2⟩,by have:=ae.2.2.1;omega⟩
 have N:Vz w0 m gm W Bq ref rev As cs ss gap path Ap cp ((W.alloc (.cells m.cells 27)).alloc (.cells #[.slice Av v.length cv,.int .i64 0,.int .i64 0] 367)):=⟨d8.trans (ap.mono ae.2.2.1),(fK.new W 27 m.cells).below jm (by simp),aa.below ap aa.lt,ef.below ap,yL.below ap,⟨ae.1,ae.2.2.1,ae.2.1,aG ae.2.2.1 ap.size⟩⟩;have eB:gm<W.heap.size:=aa.lt;obtain⟨n,hn⟩:=fD v.length;rw[<-hn]at hP N ap |-;obtain⟨bt,a6⟩:=fD W.heap.size;obtain⟨W1,cP⟩:=fD ((W.alloc (.cells m.cells 27)).alloc (.cells #[.slice Av n cv,.int .i64 0,.int .i64 0] 367));rw[<-cP]at hP N;rw[<-a6]at hP N eB;have Z:=bf _ _ _ _ _ hP;obtain⟨u0,el⟩:=fD (v.headD 0);obtain⟨u1,em⟩:=fD (v.tail.headD 0);have h2:=λW (h:lH W w0 (bt+1) v.tail 0 0)=>bf _ _ _ _ _ h;rw[<-el]at Z;rw[<-em]at h2;have HR:=ah hR;have fj:=ah a6;have fw:Bq<=bt:=by rw[a6];exact ae.2.2.2
 have fk:=ah hn;clear hR el em hr ec hc aa ef yL d8 cR ap hn;unfold jl.cells at*;go_enter func257,ntmps257;go_upto_region 2 with fail;simp only[<-a6,<-cP];clear cP a6;go_wp2_with(first|(go_at_call 272;(with_reducible refine Z.mono ?_);rintro e fU⟨rfl,ei,eg⟩)|(go_at_call 272;(with_reducible refine(h2 _ eg).mono ?_);rintro e w2⟨rfl,ej,cf⟩));have af:bt≠bt+1:=by omega
 have IQ:gm≠bt+1:=by omega
 have eC:w0.heap.size<=bt+1:=by have:=N.lo.2.1;omega
 have ew:=(mD ei).trans (mD ej);have dz:=N.at_ ew eC af IQ (ard N.own (show fK W1 (bt+1) _ _ from(Classical.choose_spec (Classical.choose_spec hP.blk)).1) (by decide)) (ard N.sec (show fK W1 (bt+1) _ _ from(Classical.choose_spec (Classical.choose_spec hP.blk)).1) (by decide));clear N ew ei ej eg hP Z h2;have dl:=ah bh;have en: ∀x∈v.tail.tail,0<=x/\x<=4294967295:=oq (oq hv);go_loopw [8,9] (λa i wr=> ∃(U K:Int) (l:List Int) (k:Nat) (J:List St) (AL:Option δ) (cL:Nat),a=.int .i64 U/\i=.int .i64 K/\0<=K/\Hid (K=0->U=1)/\0<=U/\U<=4294967296/\Vz w0 m gm bt Bq ref rev As cs ss gap J AL cL wr/\lH wr w0 (bt+1) l 0 0/\Hid (J≠ []/\J.length<=24)/\Hid (l.length+1<=k)/\Hid (∀x∈l,0<=x/\x<=4294967295)/\Hid (R=qL t k l U K J)) (λa i _=>if intOf i=0 then 4294967299 else(intOf a-intOf i).toNat);case atStart=>exact⟨1,0,v.tail.tail,v.length+1,path,Ap,cp,rfl,rfl,by decide,ah (λ_=>rfl),by decide,by decide,dz,cf,dl,ah (by simp;omega),ah en,HR⟩
 case round=>
  clear dz cf en HR dl hv bh;obtain⟨U,K,l,k,J,AL,cL,rfl,rfl,d5,dv,fb,fd,N,hP,cd,d7,d9,cN⟩:=hrel;obtain⟨k',d6⟩: ∃k',k=k'+1:=⟨k-1,by have:=d7.out;omega⟩;have HK:=ah d6;clear d6;have bS:Hid (R=qL t (k'+1) l U K J):=ah (by rw[cN.out,HK.out]);by_cases av:K<U
  ·(have eW:decide (K<U)=true:=by simpa using av);obtain⟨x0,ep⟩:=fD (l.headD 0);obtain⟨l1,aD⟩:=fD l.tail;obtain⟨x1,ag⟩:=fD (l1.headD 0);obtain⟨l2,a8⟩:=fD l1.tail;obtain⟨x2,ct⟩:=fD (l2.headD 0);obtain⟨l3,a9⟩:=fD l2.tail;obtain⟨x3,cu⟩:=fD (l3.headD 0);obtain⟨l4,ba⟩:=fD l3.tail;obtain⟨x4,dc⟩:=fD (l4.headD 0);obtain⟨l5,bb⟩:=fD l4.tail;obtain⟨x5,eq⟩:=fD (l5.headD 0);obtain⟨l6,bc⟩:=fD l5.tail;obtain⟨x6,et⟩:=fD (l6.headD 0);obtain⟨l7,bd⟩:=fD l6.tail;obtain⟨x7,cw⟩:=fD (l7.headD 0);obtain⟨l8,Tm⟩:=fD l7.tail;have ak:=λW l (h:lH W w0 (bt+1) l 0 0)=>bf W l 0 0 _ h;have q0:=λW h=>ak W l h;rw[<-ep,<-aD]at q0;have q1:=λW h=>ak W l1 h;rw[<-ag,<-a8]at q1;have q2:=λW h=>ak W l2 h;rw[<-ct,<-a9]at q2;have q3:=λW h=>ak W l3 h;rw[<-cu,<-ba]at q3;have q4:=λW h=>ak W l4 h;rw[<-dc,<-bb]at q4;have q5:=λW h=>ak W l5 h;rw[<-eq,<-bc]at q5;have q6:=λW h=>ak W l6 h;rw[<-et,<-bd]at q6;have q7:=λW h=>ak W l7 h;rw[<-cw,<-Tm]at q7;(have dp: ∀x∈l1,0<=x/\x<=4294967295:=by rw[aD];exact oq d9.out);(have cD: ∀x∈l2,0<=x/\x<=4294967295:=by rw[a8];exact oq dp);(have cE: ∀x∈l3,0<=x/\x<=4294967295:=by rw[a9];exact oq cD);(have bB: ∀x∈l7,0<=x/\x<=4294967295:=by rw[bd,bc,bb,ba];exact oq (oq (oq (oq cE))));(have r2:0<=x2/\x2<=4294967295:=by rw[ct];exact Jd cD);(have r3:0<=x3/\x3<=4294967295:=by rw[cu];exact Jd cE);(have r7:0<=x7/\x7<=4294967295:=by rw[cw];exact Jd bB);have eD:=ah bB;have eE:Hid (∀x∈l8,0<=x/\x<=4294967295):=ah (by rw[Tm];exact oq bB);have fa:Hid (x1=1->l8.length+2<=l.length/\l7.length+2<=l.length):=ah (λh=>by(have h2:2<=l.length:=by rw[ag,aD]at h;match l,h with| [],h=>simp at h| [_],h=>simp at h|_::_::_,_=>simp);(have e7:l7.length<=l2.length:=by rw[bd,bc,bb,ba,a9];simp;omega);(have e2:l2.length+2=l.length:=by rw[a8,aD];simp;omega);(have e8:l8.length<=l7.length:=by rw[Tm];simp);omega)
   have HX : Hid (R = if x1 ≠ 1 then .error 20 else match oz t (idP x2 x3), J.getLast? with
     |some b,some last=>if b.edge=last.edge then qL t k' (if K=0 then l8 else l7) (if K=0 then U+x7 else U) (K+1) J else
       if(⟨b.edge,decide (x4=0)⟩:St)∉pK t last then .error 141 else
       if xG J b.edge=true\/J.length=24 then .error 2 else qL t k' (if K=0 then l8 else l7) (if K=0 then U+x7 else U) (K+1) (J++ [⟨b.edge,decide (x4=0)⟩])
     |_,_=> .error 4):=ah (by
     rw[bS.out,qL,Υ av]
     simp only[<-aD,<-a8,<-a9,<-ba,<-bb,<-bc,<-bd,<-Tm,<-ag,<-ct,<-cu,<-dc,<-cw])
   clear ep aD ag a8 ct a9 cu ba dc bb eq bc et bd cw Tm dp cD cE bB cN bS ak bf d9;by_cases ag:x1=1
   ·(have e1:(x1 != 1)=false:=by simpa using ag);have dm:=ah ag;have ea:=ah av;clear ag;obtain⟨cx,bE⟩:=fD (idP x2 x3);(have fg: ∀t,γ .or t (.int .i64 (x2*16384)) (.int .i64 x3)=pure (.int .i64 cx):=λt=>by rw[ajU t _ _ (by omega) (by omega) (by omega) (by omega),bE,idP,show(x2*16384).toNat=x2.toNat*16384 by omega]);have zN:=ah bE;obtain⟨rb,ch⟩:=fD (decide (x4=0));(have e4:(x4==0)=rb:=by rw[ch];rfl);have fl:=ah ch;obtain⟨ib,cW⟩:=fD (K==0);have ft:(K==0)=ib:=cW.symm;have de:Hid (ib=true<->K=0):=ah (by rw[cW,beq_iff_eq]);obtain⟨Y,bu⟩:=fD (if K=0 then U+x7 else U);obtain⟨l',a7⟩:=fD (if K=0 then l8 else l7)
    have bn : Hid (R = match oz t cx, J.getLast? with
      |some b,some last=>if b.edge=last.edge then qL t k' l' Y (K+1) J else
        if(⟨b.edge,rb⟩:St)∉pK t last then .error 141 else
        if xG J b.edge=true\/J.length=24 then .error 2 else qL t k' l' Y (K+1) (J++ [⟨b.edge,rb⟩])
      |_,_=> .error 4):=ah (by rw[HX.out,Ξ (λh=>h dm.out),bE,bu,a7,ch])
    have aE:Hid (0<=Y/\Y<=4294967296/\(K≠0->Y=U)):=ah (by rw[bu];by_cases h:K=0;(.rw[Υ h];have:=dv.out h;omega);.rw[Ξ h];exact⟨fb,fd,λ_=>rfl⟩);have dj:=ah bu;have df:=ah a7;have dg:Hid (l'.length+1<=k'):=ah (by have Z:=fa.out dm.out;have h2:=d7.out;have h3:=HK.out;rw[a7];split <;> omega);have di:Hid (∀x∈l',0<=x/\x<=4294967295):=ah (by rw[a7];split;exact eE.out;exact eD.out);clear bE ch cW bu a7 HX
    go_upto_if 48 with (first
      |(go_at_call 272;(with_reducible refine(q0 _ hP).mono ?_);rintro e w3⟨rfl,bj,aL⟩;have bO:=N.pr hP (mD bj) af IQ)
      |(go_at_call 272;(with_reducible refine(q1 _ aL).mono ?_);rintro e w4⟨rfl,bk,cg⟩;have bR:=bO.pr aL (mD bk) af IQ)
      |(go_at_call 272;(with_reducible refine(q2 _ cg).mono ?_);rintro e w5⟨rfl,c9,IJ⟩;have dC:=bR.pr cg (mD c9) af IQ)
      |(go_at_call 272;(with_reducible refine(q3 _ IJ).mono ?_);rintro e w6⟨rfl,da,Uf⟩;have dE:=dC.pr IJ (mD da) af IQ)
      |(go_at_call 272;(with_reducible refine(q4 _ Uf).mono ?_);rintro e w7⟨rfl,db,Gv⟩;have dT:=(dE.pr Uf (mD db) af IQ).below ((aH w7 w7).alloc ig (.cells #[.int .i64 0,.bool rb] 58));have cF:=Gv.below ((aH w7 w7).alloc ig (.cells #[.int .i64 0,.bool rb] 58));have YN:=fK.new w7 58 #[.int .i64 0,.bool rb];have Qg:bt+1<w7.heap.size:=(Classical.choose_spec (Classical.choose_spec Gv.blk)).1.lt)
      |(go_at_call 272;(with_reducible refine(q5 _ cF).mono ?_);rintro e w8⟨rfl,ci,P9⟩;have d0:=dT.pr cF (mD ci) af IQ;have Xp:=YN.ji (mD ci) (by omega))
      |(go_at_call 272;(with_reducible refine(q6 _ P9).mono ?_);rintro e w9⟨rfl,cm,TN⟩;have cM:=d0.pr P9 (mD cm) af IQ;have bN:=Xp.ji (mD cm) (by omega)))
    (have cK: ∀x,AL.map (·.block)=some x->x<w7.heap.size:=λx O=>by have Z:=(N.own.gJ x O).2;have h2:=bj.size;have h3:=bk.size;have h4:=c9.size;have h5:=da.size;have h6:=db.size;omega);obtain⟨b11,sQ⟩:=fD w7.heap.size;have dx:=aG ci.size cm.size;simp only[World.size_alloc]at dx;rw[<-sQ]at bN Qg dx cK |-;have ex:=ah cK;clear sQ cK YN Xp N bO bR dC dE dT d0 hP aL cg IJ Uf Gv cF P9 bj bk c9 da db ci cm q0 q1 q2 q3 q4 q5 q6 fg e1 e4;go_cut [8] from 22 to 111 (λa W'=>a=.int .i64 Y/\Vz w0 m gm bt Bq ref rev As cs ss gap J AL cL W'/\lH W' w0 (bt+1) l' 0 0/\fK W' b11 58 #[.int .i64 0,.bool rb]/\b11<W'.heap.size);(case first=>cases ib with|false=>(have h0: ¬K=0:=λh=>by cases de.out.2 h);(have e6:Y=U:=by rw[dj.out,Ξ h0]);(have e7:l'=l7:=by rw[df.out,Ξ h0]);clear h0;subst e6;subst e7;go_wp2_with fail;go_meet;exact⟨rfl,cM,TN,bN,by omega⟩|true=>have h0:K=0:=de.out.1 rfl;(have e6:Y=U+x7:=by rw[dj.out,Υ h0]);(have e7:l'=l8:=by rw[df.out,Υ h0]);have eI:=dv.out h0;clear h0;go_wp2_with(go_at_call 272;apply(q7 _ TN).mono;rintro e al⟨rfl,c8,eJ⟩);go_meet;have fv:=c8.size;exact⟨by rw[e6,eI],cM.pr TN (mD c8) af IQ,by rw[e7];exact eJ,bN.ji (mD c8) (by omega),by omega⟩);case rest=>
     obtain⟨rfl,N,hP,dy,eQ⟩:=hcut;have d1:=hT.below N.low;have lF:=Hw d1 cx;have cn:=N.tb.cell;unfold jl.cells at lF cn;cases hb:oz t cx with
     |none=>rw[hb]at lF;simp only[Option.getD_none,Option.isSome_none]at lF;have ac:Hid (R=.error 4):=ah (by rw[bn.out,hb]);clear hb bn;go_wp2_with(go_at_call 49;apply lF.mono;rintro e al⟨rfl,kQ⟩);go_ret;refine⟨(N.below kQ).low.trans ?_,?_⟩;(.exact((aH al al).alloc ig _).mono (N.below kQ).lo.2.2.2);.rw[ac.out];exact⟨rfl,by decide⟩
     |some b=>
      rw[hb]at lF;simp only[eG,Option.isSome_some]at lF;(obtain⟨last,cX⟩: ∃x,J.getLast?=some x:=by cases hg:J.getLast? with|none=>exact absurd (List.getLast?_eq_none_iff.1 hg) cd.out.1|some x=>exact⟨x,rfl⟩);obtain⟨V,bi⟩:=fD J.length;(have fx:0<V/\V<=24:=by rw[bi];exact⟨List.length_pos_iff.2 cd.out.1,cd.out.2⟩);(have bh:J[V-1]? =some last:=by rw[bi,<-List.getLast?_eq_getElem?];exact cX);have bo:Hid (R=if b.edge=last.edge then qL t k' l' Y (K+1) J else if(⟨b.edge,rb⟩:St)∉pK t last then .error 141 else if xG J b.edge=true\/J.length=24 then .error 2 else qL t k' l' Y (K+1) (J++ [⟨b.edge,rb⟩])):=ah (by rw[bn.out,hb,cX]);have am:=ah bi;have aa:=N.mb;rw[<-bi]at aa;clear hb bn cX bi;go_wp2_with(go_at_call 49;apply lF.mono;rintro e al⟨rfl,kQ⟩);have a5:=fK.new al 114 #[.int .i64 b.id,.int .i64 b.edge,.int .i64 b.at_];have d2:=(aH al al).alloc ig (.cells #[.int .i64 b.id,.int .i64 b.edge,.int .i64 b.at_] 114);have sQ:=kQ.trans (d2.mono kQ.size);have aM:=N.below sQ;have cG:=hP.below sQ;have YR:=dy.below sQ eQ;have YS:=aa.below sQ aa.lt;obtain⟨b12,IG⟩:=fD al.heap.size;obtain⟨ar,cH⟩:=fD (al.alloc (.cells #[.int .i64 b.id,.int .i64 b.edge,.int .i64 b.at_] 114));(have fn:b11<b12/\b12<ar.heap.size:=by rw[cH,IG];have:=kQ.size;simp;omega);rw[<-cH]at a5 aM cG YR YS |-;rw[<-IG]at a5 |-;clear cH IG d2 sQ kQ N hP dy aa lF cn d1;obtain⟨g,off,hA,cU,cS⟩:=aM.own.rows.get bh;have kl: ∀W',ar W'->W'.cell? ⟨g,off+(V-1)*2,none⟩=some (.int .i64 last.edge)/\W'.cell? ⟨g,off+(V-1)*2+1,none⟩=some (.bool last.rev):=λW' H=>⟨(H.cell (p:=⟨g,off+(V-1)*2,none⟩) cU).trans (cS 0 _ rfl),(H.cell (p:=⟨g,off+(V-1)*2+1,none⟩) cU).trans (cS 1 _ rfl)⟩;(have fy:V<=cL:=by have:=aM.own.cap.1;rw[<-am.out]at this;exact this);(have fu:(V:Int)-1=((V-1:Nat):Int):=by omega);clear cS bh;subst hA;apply gu (Below ar) (λW=>aq3 gY 1) (λ_ _ _ Z h2=>Z.trans h2) (vN ar 999) (λ_ _ _ h=>h.1) (λ_ _=>iR _ _ _ _) (λ_ _=>True) (λ_=>trivial) (λ_ _ _ _ _ _ _=>trivial);(case lX=>intro u;simp only[bV,aq9,aP,ay,aA,aB,aT,aJ];with_reducible rfl);(case hm=>kernel_rfl);(case hB=>kernel_rfl);(case hA=>kernel_rfl);case hap=>kernel_rfl
      repeat(first
         |(apply fM.is
           ·
             (intro u w' H aq j
              simp[fO,aC,gI,Is]at j
              refine fC ?_ ?_
              ·
                first
                |rfl
                |(simp[aF,ψ,j];done)
              intro ad M
              have eT:=(YS.below H YS.lt).cell;obtain⟨m1,m2⟩:=kl _ H
              go_wp2_with (fail)
              try simp only[j]at M
              refine M _ _ ?_ rfl
              first |exact iR _ _ _ _ |exact kM H.size ai (by decide)))
         |(refine fM.one (pV ar 58 (#[.int .i64 0, .bool false] : Array Θ).size) ?_ ?_
           ·
             (intro u w' H aq j
              clear j
              refine fC ?_ ?_
              ·
                first
                |rfl
                |(simp[aF,ψ];done)
              intro ad M
              go_wp2_with fail
              exact M _ _ (kM H.size jm (by decide)) ⟨w',_,rfl,H.size,fK.new w' 58 (gz:Array Θ),rfl⟩))
         |(refine fM.word (CU ar 12 58 (#[])) ?_ ?_
           ·
             (intro u w' H aq j
              simp[fO,aC,gI,Is]at j
              obtain⟨⟨g,cs,c6,hg,bX,ek⟩,O⟩:=j
              refine jF ?_ ?_
              ·
                first
                |rfl
                |(simp[aF,ψ];done)
              intro ad M
              have jL: ∀k,k≠g->(w'.setRow g (#[])).heap[k]? =w'.heap[k]? :=λk H=>ζ w' g k _ H
              exact η 58 _ _ rfl g (#[]) (by first | exact c6 | (rw [← c6]; rfl)) (by first | exact O | exact O.1 | (rw [← O.1]; rfl) | (rw [← O]; rfl)) 58 cs bX (by kernel_rfl) ek (by first | (simp [aK]; done) | exact lM _ _) (M υ _
                ⟨jk gY hg _,λh=>absurd rfl h,λ_=> .inr ⟨g,_,cs,(#[]),bX,bX.row _,ek.symm,by simp,jL⟩⟩
                ⟨g,by rw[jH u υ (by decide)];exact c6,hg,bX.row _⟩))))
      refine fM.last (qh ?_) ?_;(.simp only[gQ];(repeat(refine⟨?_,?_⟩;.first|exact mM _|exact qH|exact pz (λi hf e=>hf _ rfl ⟨12,.data⟩ (by simp) rfl e.symm)));exact trivial);intro u w2 cc _ j;simp only[gQ]at j;refine⟨rfl,?_⟩;intro ad M;have cI:=j 11 _ rfl;obtain⟨b14,cz,dq,dn,YT,ey⟩:=j 12 _ rfl;simp only[gI,Is]at cI;clear j;(obtain⟨z0,z1,rfl⟩: ∃z0 z1,cz= #[z0,z1]:=by(have h2:cz.toList.length=2:=by simpa using ey);match hq:cz.toList,h2 with| [z0,z1],_=>exact⟨z0,z1,Array.ext' hq⟩);have eK:=YT.frozen;have ez:=YT.cell;have Qm:=(YT.iV 0 (.int .i64 last.edge)).iV 1 (.bool last.rev);simp only[ay,aA,aB]at Qm;have az:=(cc.setCell (p:=⟨b14,0,none⟩) dn (.int .i64 last.edge)).setCell (p:=⟨b14,1,none⟩) dn (.bool last.rev);have bw:=a5.below az a5.lt;have dr:=Qm.cell;have eS:=bw.cell;obtain⟨eb,cT⟩:=fD (b.edge==last.edge);have e8:(b.edge==last.edge)=eb:=cT.symm;have bm:Hid (eb=true<->b.edge=last.edge):=ah (by rw[cT,beq_iff_eq]);simp only[cI,dq];clear cT cI dq kl YS;go_upto_if 77 with fail;have Xq:=aM.below az;have bx:=cG.below az;have Oo:=YR.below az YR.lt;have fi:=az.size;obtain⟨cy,ds⟩:=fD ((w2.setCell ⟨b14,0,none⟩ (.int .i64 last.edge)).setCell ⟨b14,1,none⟩ (.bool last.rev));rw[<-ds]at Xq bx Oo Qm bw fi |-;clear ds az YT eK ez dr eS cc e8 aM cG YR a5 cM TN bN cU;cases eb with
      |false=>
       (have ed: ¬b.edge=last.edge:=λh=>by cases bm.out.2 h);have bq:Hid (R=if(⟨b.edge,rb⟩:St)∉pK t last then .error 141 else if xG J b.edge=true\/J.length=24 then .error 2 else qL t k' l' Y (K+1) (J++ [⟨b.edge,rb⟩])):=ah (by rw[bo.out,Ξ ed]);have eR:=bw.cell;have eV:=Oo.cell;have eZ:=Oo.frozen 0;clear bm bo ed;go_wp2_with fail;have fq:g<b11:=ex.out g rfl;have aR:=Xq.at_ (GH cy b11 0 (.int .i64 b.edge)) (by have:=Xq.lo.2.1;omega) (by omega) (by omega) (by simp;omega) (ard Xq.sec Oo (by decide));have cA:=bx.ji (GH cy b11 0 (.int .i64 b.edge)) (by omega) (λx O=>by have:=Xq.lo.2.1;omega);have Xr:=Oo.iV 0 (.int .i64 b.edge);simp only[ay,aA,aB]at Xr;have YU:=Qm.far (p:=⟨b11,0,none⟩) (by show b14≠b11;omega) (.int .i64 b.edge);obtain⟨fm,dt⟩:=fD (cy.setCell ⟨b11,0,none⟩ (.int .i64 b.edge));rw[<-dt]at aR cA Xr YU |-;clear dt eR eV eZ bw Qm Oo Xq bx;have bL:=λW (h:jE W t m)=>agx h last;unfold jl.cells qB at bL;(have cY:(pK t last).length<=1000000:=by have Z:=Xo t last;have h2:=hT.e2;have h3:=hT.l2;omega);obtain⟨ax,cQ⟩:=fD (pK t last);rw[<-cQ]at bL cY;obtain⟨hb,cV⟩:=fD (decide ((⟨b.edge,rb⟩:St)∈ax));have dd:=ah cV;have Z4:=ah cQ;have ca:=λA c W (h:fE gV W A ax)=>ajR A ax.length c ax ⟨b.edge,rb⟩ W h rfl cY;rw[<-cV]at ca;unfold qB at ca;clear cV cQ;apply iM;(case lX=>intro u;simp only[bV,aq9,aP,ay,aA,aB,aT,aJ];rfl);(case hm=>kernel_rfl);(case hB=>kernel_rfl);(case hap=>kernel_rfl);apply Lex.is;(·(intro u w' H j;simp[fH,aC,Is]at j;refine fF (by first |rfl |simp[aF,ψ,j]) ?_;intro ad M;have cn:=(aR.below H).tb.cell;unfold jl.cells at cn;go_wp2_with(fail);(try simp only[j]at M);refine M _ _ ?_ rfl;first|exact aH _ _|exact ai));apply Lex.is;(·(intro u w' H j;simp[fH,aC,Is]at j;refine fF (by first |rfl |simp[aF,ψ,j]) ?_;intro ad M;have dr:=(YU.below H YU.lt).cell;go_wp2_with(fail);(try simp only[j]at M);refine M _ _ ?_ rfl;first|exact aH _ _|exact ai));refine Lex.word (adB ax) (λ_ _ _ h hb=>h.grow hb) ?_ ?_;(·(intro u w' H j;refine jh rfl ?_;simp only[gQ]at j;have q0:=j ⟨0,.data⟩ (by simp) rfl _ rfl;have q1:=j ⟨1,.data⟩ (by simp) rfl _ rfl;simp only[Is]at q0 q1;clear j;intro ad M;go_wp2_with(go_at_call 133;apply(bL _ (hT.below (aR.below H).low)).mono;rintro e w3⟨A7,c7,rfl,Gy,ai⟩);(try simp only[q0,q1]at M);exact M _ _ ai ⟨A7,c7,rfl,Gy.rows⟩));apply Lex.is;(·(intro u w' H j;simp[fH,aC,Is]at j;refine fF (by first |rfl |simp[aF,ψ,j]) ?_;intro ad M;have eL:=(Xr.below H Xr.lt).cell;go_wp2_with(fail);(try simp only[j]at M);refine M _ _ ?_ rfl;first|exact aH _ _|exact ai));refine Lex.is (c:=.bool hb) ?_ ?_;(·(intro u w' H j;refine jh rfl ?_;simp only[gQ]at j;have q2:adB ax (u 2) w':=j ⟨2,.data⟩ (by simp) rfl _ rfl;have q3:=j ⟨3,.data⟩ (by simp) rfl _ rfl;simp only[Is]at q3;obtain⟨A7,c7,q2,Gv⟩:=q2;clear j;intro ad M;go_wp2_with(go_at_call 142;apply(ca A7 c7 _ Gv).mono;rintro e w3⟨rfl,ai⟩);(try simp only[q2,q3]at M);exact M _ _ ai rfl));(iterate 2(apply Lex.is;·(intro u w' H j;simp[fH,aC,Is]at j;refine fF (by first |rfl |simp[aF,ψ,j]) ?_;intro ad M;skip;go_wp2_with(fail);(try simp only[j]at M);refine M _ _ ?_ rfl;first|exact aH _ _|exact ai)));apply Lex.nil;intro u fI bA j;simp only[gQ]at j;have h6:=j 6 _ rfl;simp only[Is]at h6;clear j;simp only[h6];have a1:=aR.below bA;have du:=cA.below bA;have Xt:=Xr.below bA Xr.lt;clear h6 ca bL aR cA Xr YU bA cY;cases hb with
       |false=>have ac:Hid (R=.error 141):=ah (by rw[bq.out,Υ (by rw[<-Z4.out];exact of_decide_eq_false dd.out.symm)]);clear bq;go_wp2_with fail;go_ret;refine⟨a1.low,?_⟩;rw[ac.out];exact⟨rfl,by decide⟩
       |true=>
        have aw:Hid (R=if xG J b.edge=true\/J.length=24 then .error 2 else qL t k' l' Y (K+1) (J++ [⟨b.edge,rb⟩])):=ah (by rw[bq.out,Ξ (λh=>h (by rw[<-Z4.out];exact of_decide_eq_true dd.out.symm))]);clear bq;have c5:=λW (h:fE gV W (some ⟨g,off,none⟩) J)=>SA (some ⟨g,off,none⟩) V cL J b.edge W h am.out.symm (by omega);obtain⟨ov,cB⟩:=fD (xG J b.edge);rw[<-cB]at c5;have dk:=ah cB;have aa:=a1.mb;rw[<-am.out]at aa;have eh:=a1.own.rows;clear cB;go_wp2_with fail;refine ara (by kernel_rfl) ?_;(repeat(first|(apply gX.want rfl;(.intro w' H ad Q' M;have eT:=(aa.below H aa.lt).cell;have eL:=(Xt.below H Xt.lt).cell;have cf:=eh.below H;go_wp2_with((go_at_call 134;apply(c5 _ cf).mono;rintro e w3⟨rfl,ai⟩));first|exact aH _ _|exact ai);(.simp only[aP,ay,aA,aB];rfl))|(apply gX.skip rfl;.simp only[aP,ay,aA,aB];rfl)));refine gX.nil ?_;intro w' H;have GN:=a1.below H;have cC:=du.below H;have Qm:=Xt.below H Xt.lt;have Oq:=aa.below H aa.lt;have eA:=Oq.cell;clear c5 eh aa a1 du Xt H;cases ov with
        |false=>
         by_cases a4:V=24;·(have e9:((V:Int)==24)=true:=by rw[a4];rfl);have ac:Hid (R=.error 2):=ah (by rw[aw.out,Υ (.inr (by rw[<-am.out];exact a4))]);clear aw a4;go_wp2_with fail;go_ret;refine⟨GN.low,?_⟩;rw[ac.out];exact⟨rfl,by decide⟩
         ·(have e9:((V:Int)==24)=false:=by rw[beq_eq_false_iff_ne];omega);have ac:Hid (R=qL t k' l' Y (K+1) (J++ [⟨b.edge,rb⟩])):=ah (by rw[aw.out,Ξ];rintro (h |h);rw[<-dk.out]at h;cases h;rw[<-am.out]at h;exact a4 h);(have fs:V<=23:=by omega);clear aw a4;go_wp2_with fail;obtain⟨AL,cJ⟩:=fD (some ⟨g,off,none⟩:Option δ);(have e0: ∀x,AL.map (·.block)=some x->x=g:=λx O=>by rw[cJ]at O;injection O with O;exact O.symm);rw[<-cJ]at GN Oq;clear cJ eA e9;have ho:=GN.own;have hz:=ah am.out.symm;have ee: ¬AL.map (·.block)=some gm:=ard ho Oq (by decide);(have fe: ¬AL.map (·.block)=some b11:=λe=>by have:=e0 b11 e;omega);have eM: ¬AL.map (·.block)=some bt:=ard ho GN.tb (by decide);have ff: ¬AL.map (·.block)=some (bt+1):=ard ho (Classical.choose_spec (Classical.choose_spec cC.blk)).1 (by decide);(have d3:Bq<=w'.heap.size:=by have:=Qm.lt;omega);obtain⟨zs,ev⟩:=fD J;obtain⟨wq,eo⟩:=fD w';rw[<-ev]at ho hz;rw[<-eo]at GN cC Qm Oq ho d3 |-;clear eo;apply qp (λw w'=>w.grownBy w' (AL.map (·.block))) (λw=>arj (aq3 gY 1) _) (λ_ _ _=>lN) (CW (AL.map (·.block)) 7) (λ_ _ _ h=>h.2) (λi W=>i=7->aq1 gV 58 W (Bq) AL cL zs) (λ_ _=>ho.below (aq3 gY 1)) (λi fz W W' e5 hp ht hi=>(hp hi).below (ht.1 (λh=>e5 (hi.trans h.symm))));(case lX=>intro u;simp only[bV,List.dropLast,aq9,aP,ay,aA,aB,aT,aJ];with_reducible rfl);(case hm=>kernel_rfl);(case hB=>kernel_rfl);(case hA=>kernel_rfl);case hap=>kernel_rfl
          repeat(first
             |(apply kE.is
               ·
                 (intro u w' H aq j
                  clear aq
                  simp[fH,aC,Is]at j
                  refine fC ?_ ?_
                  ·
                    first
                    |rfl
                    |(simp[aF,ψ,j];done)
                  intro ad an
                  have m1:=(Oq.ji (jV.kJ (D:=λk=>AL.map (·.block)=some k) H (λk H=>H)) ee).cell;have m2:=(Qm.ji (jV.kJ (D:=λk=>AL.map (·.block)=some k) H (λk H=>H)) fe).cell
                  go_wp2_with (fail)
                  try simp only[j]at an
                  refine an _ _ ?_ rfl
                  exact vT _ _ _ _))
             |(refine kE.word (Gm 58 (AL.map (·.block)) #[.int .i64 b.edge, .bool rb]) ?_ ?_
               ·
                 (intro u w' H aq j
                  clear aq
                  simp[fH,aC,Is]at j
                  refine fC ?_ ?_
                  ·
                    first
                    |rfl
                    |(simp[aF,ψ,j];done)
                  intro ad an
                  go_wp2_with fail
                  try simp only[j]at an
                  exact an _ _ (uw jm) ⟨w',rfl,fK.new _ _ _,λe=>by have:=(ho.gJ _ e).2;have:=H.size;omega⟩))
             |(refine kE.word (PN gV 58 (Bq) (V + 1) (zs ++ [⟨b.edge, rb⟩])) ?_ ?_
               ·
                 (intro u w' H aq j
                  simp[fH,aC,Is]at j
                  obtain⟨q1,bv,q2,hB,hn⟩:=j
                  refine fC ?_ ?_
                  ·
                    first
                    |rfl
                    |(simp[aF,ψ];done)
                  intro ad an
                  exact oH RN (.tmp 106) (.tmp 108) rfl (Bq) AL cL zs V (by rw[<-q1];rfl) hz.out (aq rfl) (some ⟨bv,0,none⟩) 1 [⟨b.edge,rb⟩] 1 (by rw[<-q2];rfl) rfl (adA hB) (by omega) (by decide) (aG d3 H.size) λA2 c2 W Z h2 _=>an _ _ ⟨λh=>absurd rfl h,h2⟩ ⟨A2,c2,rfl,Z⟩)))
          refine kE.last ?_ ?_;(.refine Ai ?_;simp only[gQ];(repeat(refine⟨?_,?_⟩;.first|exact λ_ _ _ _ _ h _=>h|exact λ_ _ _ _ _ h ht=>Gm.grow h ht.2|exact λ_ hi _ _ _ h ht=>PN.grow h (ht.1 hi)));exact trivial);intro u w2 cc _ j;simp only[gQ]at j;obtain⟨A2,c2,hu,uq⟩:=j 7 _ rfl;have Xl:=j 9 _ rfl;simp only[Is]at Xl;clear j;refine⟨rfl,?_⟩;intro ad an;have au:=jV.kJ (D:=λk=>AL.map (·.block)=some k) cc (λk H=>H);have Qa:=Oq.ji au ee;have fo:=Qa.cell;have fp:=Qa.frozen 2;simp only[hu,Xl];clear hu Xl;go_wp2_with fail;go_roundw;(case rel=>have kc:=GH w2 gm 2 (.slice A2 (V+1) c2);have ae:=GN.lo;have fh:=GN.own.gJ;(have d4: ∀x,AL.map (·.block)=some x->w0.heap.size<=x:=λx O=>by have:=fh x O;omega);(have eO:bt≠gm:=by omega);have L6:bt+1≠gm:=λe=>IQ e.symm;(have eN:Vz w0 m gm bt Bq ref rev As cs ss gap (J++ [⟨b.edge,rb⟩]) A2 c2 (w2.setCell ⟨gm,2,none⟩ (.slice A2 (V+1) c2)):=by refine⟨(GN.low.trans (au.below ae.2.2.2 d4)).trans (kc.below (aG ae.2.2.2 au.size) (λx O=>by omega)),(GN.tb.ji au eM).ji kc eO,?_,?_,?_,⟨ae.1,ae.2.1,ae.2.2.1,aG ae.2.2.2 (aG au.size kc.size)⟩⟩;(.rw[bC,<-am.out];exact Qa.iV 2 _);(.rw[<-ev];exact uq.ji kc (λx O j=>ard uq Qa (by decide) (by rw[O,j])));.have Z:=GN.sec.ji au (λx O=>oQ GN.sec GN.own (by decide) x O);exact Z.ji kc (λx O j=>ard Z Qa (by decide) (by rw[O,j])));exact⟨Y,K+1,l',k',J++ [⟨b.edge,rb⟩],A2,c2,rfl,rfl,by omega,ah (by omega),aE.out.1,aE.out.2.1,eN,(cC.ji au ff (λx O=>d4 x O)).ji kc L6 (λx O=>by omega),ah ⟨by simp,by rw[bC,<-am.out];simp;omega⟩,dg,di,ac⟩);case measure=>exact Om d5 ea.out aE.out
        |true=>have ac:Hid (R=.error 2):=ah (by rw[aw.out,Υ (.inl dk.out.symm)]);clear aw;go_wp2_with fail;go_ret;refine⟨GN.low,?_⟩;rw[ac.out];exact⟨rfl,by decide⟩
      |true=>have ac:Hid (R=qL t k' l' Y (K+1) J):=ah (by rw[bo.out,Υ (bm.out.1 rfl)]);clear bm bo;go_wp2_with fail;go_roundw;(case rel=>exact⟨Y,K+1,l',k',J,_,cL,rfl,rfl,by omega,ah (by omega),aE.out.1,aE.out.2.1,Xq,bx,cd,dg,di,ac⟩);case measure=>exact Om d5 ea.out aE.out
   ·(have e1:(x1 != 1)=true:=by simpa using ag);have ac:Hid (R=.error 20):=ah (by rw[HX.out,Υ ag]);clear ag HX;go_wp2_with(first|(go_at_call 272;(with_reducible refine(q0 _ hP).mono ?_);rintro e w3⟨rfl,bj,aL⟩;have bO:=N.pr hP (mD bj) af IQ)|(go_at_call 272;(with_reducible refine(q1 _ aL).mono ?_);rintro e w4⟨rfl,bk,cg⟩;have bR:=bO.pr aL (mD bk) af IQ));go_ret;refine⟨bR.low,?_⟩;rw[ac.out];exact⟨rfl,by decide⟩
  ·(have eW:decide (K<U)=false:=by simpa using av);have ac:Hid (R=.ok J):=ah (by rw[bS.out,qL,Ξ av]);replace av:=Int.not_lt.1 av;clear cN bS bf;go_wp2_with fail;go_ret;refine⟨N.low,?_⟩;rw[ac.out];exact⟨rfl,AL,cL,N.mb,N.own,N.sec⟩
structure nH (w:ω) (base:Nat) (x:Tr) (m:kZ):Prop where
  path:aq1 gV 58 w base m.v.A1 m.v.c1 x.ma.path
  fP:aq1 kW 60 w base m.v.A2 m.v.c2 x.ma.fP
  stops:aq1 aq7 3 w base m.A3 m.c3 x.stops
  e1:x.ma.path.length=m.v.n1
  e2:x.ma.fP.length=m.v.n2
  e3:x.stops.length=m.n3
  l1:m.v.n1<=100
  l2:m.v.n2<=100
  l3:m.n3<=100
theorem nH.is{m:kZ}(h:nH w base x m):zJ w x m:=⟨⟨h.path.rows,h.fP.rows,h.e1,h.e2,h.l1,h.l2,by rw[<-h.e1];exact h.path.cap.1,by rw[<-h.e2];exact h.fP.cap.1⟩,h.stops.rows,h.e3,h.l3,by rw[<-h.e3];exact h.stops.cap.1⟩
theorem nH.below{m:kZ}(h:nH w base x m)(j:w w'):nH w' base x m:={h with path:=h.path.below j,fP:=h.fP.below j,stops:=h.stops.below j}
theorem nH.mono{base':Nat}{m:kZ}(h:nH w base x m)(j:base'<=base):nH w base' x m:={h with path:=h.path.mono j,fP:=h.fP.mono j,stops:=h.stops.mono j}
theorem nH.far{m:kZ}(h:nH w base x m)(H:g<base)(j: ∀k,k≠g->w'.heap[k]? =w.heap[k]?):nH w' base x m:={h with path:=h.path.far H j,fP:=h.fP.far H j,stops:=h.stops.far H j}
def aal(x:Tr)(m:kZ)(A:Option δ)(c:Nat):(jf x m).setIfInBounds 42 (.slice A m.v.n1 c)=jf x {m with v:={m.v with A1:=A,c1:=c}}:=rfl
def aam(x:Tr)(m:kZ)(A:Option δ)(c:Nat):(jf x m).setIfInBounds 43 (.slice A m.v.n2 c)=jf x {m with v:={m.v with A2:=A,c2:=c}}:=rfl
def aan(x:Tr)(m:kZ)(A:Option δ)(c:Nat):(jf x m).setIfInBounds 47 (.slice A m.n3 c)=jf x {m with A3:=A,c3:=c}:=rfl
def YV(x:Tr)(m:kZ)(i:Nat)(hi:i<48):i<(jf x m).size:=hi
def GR (m:kZ) (A1:Option δ) (c1:Nat) (A2:Option δ) (c2:Nat) (A3:Option δ) (c3:Nat):kZ:={m with v:=⟨A1,m.v.n1,c1,A2,m.v.n2,c2⟩,A3:=A3,c3:=c3}
def aao (x:Tr) (m:kZ) (w:ω) (e:ε) (w':ω):Prop:=(∃A1 c1 A2 c2 A3 c3,e=.returned (.agg (jf x (GR m A1 c1 A2 c2 A3 c3)))/\nH w' w x (GR m A1 c1 A2 c2 A3 c3))/\w w'
theorem adG(x:Tr)(m:kZ)(w:ω)(H:zJ w x m):Γ aj 23 #[.agg (jf x m)] w (aao x m w):=by have j:Own w _ [_,_]:=Own.iY w 44 44 (jf x m) gL;have aa:=j.b0.cell;have am:=Zy x m;have al:=Wj x m;have ad:=Wn x m;have ag:=λW (V:w W)=>VW m.v.A1 m.v.n1 m.v.c1 x.ma.path W (H.ma.path.below V) H.ma.e1 (by have:=H.ma.l1;omega);have ai:=λW (V:w W)=>abL m.v.A2 m.v.n2 m.v.c2 x.ma.fP W (H.ma.fP.below V) H.ma.e2 (by have:=H.ma.l2;omega);have ak:=λW (V:w W)=>alH m.A3 m.n3 m.c3 x.stops W (H.stops.below V) H.e3 (by have:=H.l3;omega);go_enter func23,ntmps23;go_wp2_with(first|((with_reducible refine(ag _ j.below).mono ?_);rintro U N⟨A1,c1,rfl,J,K⟩;replace j:=j.grow K)|((with_reducible refine jq 42 (.slice A1 m.v.n1 c1) j rfl 39 _ _ rfl rfl rfl (by kernel_rfl) ?_ rfl ?_);(.grind);intro U N K M;replace j:=N;replace J:=J.far (by simp;omega) M;rw[aal]at j;have Z:=j.b0.lt;have ae:=j.b1.lt;have aa:=j.b0.cell;have al:=Wj x {m with v:={m.v with A1:=A1,c1:=c1}};have ad:=Wn x {m with v:={m.v with A1:=A1,c1:=c1}})|((with_reducible refine(ai _ j.below).mono ?_);rintro U N⟨A2,c2,rfl,O,K⟩;replace j:=j.grow K;replace J:=J.below K)|((with_reducible refine jq 43 (.slice A2 m.v.n2 c2) j rfl 40 _ _ rfl rfl rfl (by kernel_rfl) ?_ rfl ?_);(.exact YV x _ 43 (by decide));intro U N K M;replace j:=N;replace J:=J.far (by simp;omega) M;replace O:=O.far Z M;rw[aam x {m with v:={m.v with A1:=A1,c1:=c1}}]at j;have ac:=j.b0.lt;have af:=j.b1.lt;have aa:=j.b0.cell;have ad:=Wn x {m with v:=⟨A1,m.v.n1,c1,A2,m.v.n2,c2⟩})|((with_reducible refine(ak _ j.below).mono ?_);rintro U N⟨A3,c3,rfl,Y,K⟩;replace j:=j.grow K;replace J:=J.below K;replace O:=O.below K)|((with_reducible refine jq 47 (.slice A3 m.n3 c3) j rfl 22 _ _ rfl rfl rfl (by kernel_rfl) ?_ rfl ?_);(.exact YV x _ 47 (by decide));intro U N K M;replace j:=N;replace J:=J.far (by simp;omega) M;replace O:=O.far Z M;replace Y:=Y.far ac M;rw[aan x {m with v:=⟨A1,m.v.n1,c1,A2,m.v.n2,c2⟩}]at j)|((with_reducible refine gK j ?_ _ rfl rfl _ bg rfl (iF x _) ?_);rfl)|((with_reducible refine kY (jf x (GR m A1 c1 A2 c2 A3 c3)) j rfl _ _ rfl rfl rfl (iF x _) rfl (lM x _) ?_);intro U N K M;replace j:=N;replace J:=J.far (by simp) M;replace O:=O.far ae M;replace Y:=Y.far af M));exact β (nC results23 _ _ _ _ _ rfl j.b1 bg rfl (iF x _)) rfl ⟨⟨A1,c1,A2,c2,A3,c3,rfl,J.mono (by simp <;> omega),O.mono (Nat.le_of_lt Z),Y.mono (Nat.le_of_lt ac),H.ma.e1,H.ma.e2,H.e3,H.ma.l1,H.ma.l2,H.l3⟩,j.below⟩
end Go.Proofs.YthnmgjngniciaaaGreatDoor
