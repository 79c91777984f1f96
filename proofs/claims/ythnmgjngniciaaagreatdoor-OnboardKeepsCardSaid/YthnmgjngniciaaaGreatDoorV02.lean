/- Parts. -/
import Derived.Test.YthnmgjngniciaaaGreatDoorV01
import Derived.LaidMore
import Derived.Test.YthnmgjngniciaaaGreatDoorChecked
import Derived.RangeFuncNested
import Derived.RangeFuncBound
import Derived.RangeFuncCalls
import Derived.RangeFuncLeaves
import Derived.RangeFuncFrom
import Derived.Shelf.Abstract
import Derived.Shelf.RegionOpen
import Derived.OwnWalkIn
import Derived.TacticsInMore
import Derived.LoopNIn
import Derived.LoopIn
import Derived.Laws.CopyOwn
set_option linter.all false
set_option maxHeartbeats 16000000
set_option maxRecDepth 8000
open BitVec renaming ofInt->aQ,ofNat->bT
open Bool renaming and_eq_true->bM,eq_false_iff->bY,false_eq_true->bU
open List renaming cons_append->bQ,drop_of_length_le->dJ,eq_nil_of_length_eq_zero->dw,getElem?_append_left->dP,getElem?_eq_some_iff->aX,getElem?_map->bW,length_append->bC,length_cons->bK,length_eq_zero_iff->dh,length_map->eU,length_nil->dU,length_take->dX,map->bV,mem_cons->bJ,mem_of_getElem?->bP,mem_singleton->dN,nil_append->aZ,not_mem_nil->dH,range->eY,setIfInBounds_toArray->ay,set_cons_succ->aB,set_cons_zero->aA,take_of_length_le->aY
open Nat renaming add_zero->bI,le_refl->aW,le_trans->aG,lt_of_lt_of_le->aU,lt_or_ge->eu,mod_eq_of_lt->dF,reduceAdd->aT,zero_add->aJ,zero_le->aV
open Option renaming getD_some->eG,map_some->eF
open Option.some renaming injEq->aO
namespace Go.Proofs.YthnmgjngniciaaaGreatDoor
open Go renaming Addr->δ,Calls->Γ,Ending->ε,Oper->ο,Operand->κ,Program->χ,TypeId->τ,Value->Θ,World->ω,binOp->γ,bodyPost_ret->β,callFunc->ϕ,run_eql_struct->ϑ,run_equalIn_agg->ϐ,setRow_other->ζ,undef->υ,wpList->Δ,wp_store_row->η,yielded->ψ
open Go.RowKit Go.Shelf Tryz
open Act renaming put->aP
open Addr.mk renaming injEq->cZ
open Below renaming heap_setCell->aN,refl->aH
open Lib renaming hid->ah
open Region renaming binds->aC,wanted->aF
open Tryz renaming prog->aj,underlying3->bG,underlying4->dL,underlying45->dW
open Value renaming cells->aS,oneCell'->aK
open Value.slice renaming injEq->dV
open World renaming setCell->dD
variable{ops:Array ο}{b:Bl}{S:wE}{e n x:Int}{jU:List ((Nat->Θ)->ω->Prop)}{l:List Sc}{p path:List St}{bs:List UInt8}{B K at_ c i j k s:Nat}{A:Option δ}{y:Sp}{t:Tp}{m:jl}{w w':ω}
def alN(h:jE w t m)(A:Option δ)(n c:Nat)(p:List St)(hp:fE gV w A p)(hn:p.length=n)(hl:n<=100):Γ aj 135 #[m.cells,.slice A n c] w λr w'=>r=.returned (.bool (Iw t p))/\w w':=by
 have M:Own w _ [_]:=(Own.nil w).alloc 27 m.cells _ rfl;have Z:=ah hn;unfold jl.cells at*;go_enter func135,ntmps135;go_wp2;go_loopw [5] (λi wr=> ∃k:Nat,i=.int .i64 ((k:Int)+1)/\k<=n/\Hid (∀j a b,j<k->p[j]? =some a->p[j+1]? =some b->OY t a b=true)/\Own w wr [(w,27,#[.slice m.A1 m.n1 m.c1,.slice m.A2 m.n2 m.c2,.slice m.A3 m.n3 m.c3,.slice m.A4 m.n4 m.c4])]) (λi _=>n-(intOf i).toNat);case atStart=>exact⟨0,rfl,aV _,ah (λj a b hj=>by omega),M⟩
 case round=>
  obtain⟨k,rfl,J,ad,M⟩:=hrel;by_cases aq:k+1<n
  .obtain⟨a,ha⟩:=aq5 Z.out (show k<n by omega);obtain⟨b,hb⟩:=aq5 Z.out (show k+1<n by omega);obtain⟨g,off,rfl,V,a0,a1⟩:=hp.st ha;obtain⟨g',ar,e,_,b0,b1⟩:=hp.st hb;simp only[aO,cZ]at e;obtain⟨rfl,rfl,-⟩:=e;have Rh:=λW (H:w W)=>(H.cell (p:=⟨g,off+k*2,none⟩) V).trans a0;have af:=λW (H:w W)=>(H.cell (p:=⟨g,off+k*2+1,none⟩) V).trans a1;have ag:=λW (H:w W)=>(H.cell (p:=⟨g,off+(k+1)*2,none⟩) V).trans b0;have ai:=λW (H:w W)=>(H.cell (p:=⟨g,off+(k+1)*2+1,none⟩) V).trans b1;have hm:=λW (H:w W)=>alG (h.below H) a b;have HA:=ah ha;have HB:=ah hb;cases Y:OY t a b with
   |false=>rw[Y]at hm;have HR:=ah (aiT HA.out HB.out Y);obtain⟨x1,x2⟩:=a;obtain⟨y1,y2⟩:=b;simp only[qB,jl.cells]at hm Rh af ag ai;(have ae:decide ((k:Int)+1<(n:Int))=true:=by simp;omega);go_wp2;refine ara (by kernel_rfl) ?_;(repeat(first|(apply gX.want rfl;(.intro w' J K Q' hK;have U:=M.grow J;have aa:=U.below;have an:=U.b0.cell;go_wp2_with((with_reducible refine(hm _ aa).mono ?_);rintro e w3⟨rfl,ac⟩);first|exact aH _ _|exact ac);(.simp only[aP,ay,aA,aB];rfl))));refine gX.nil ?_;intro w' J;have ak:=(M.grow J).below;go_wp2_with fail;go_ret;exact⟨by simp[HR.out],ak⟩
   |true=>rw[Y]at hm;have am:=ah (λj a' b' (hj:j<k+1) (O:p[j]? =some a') (N:p[j+1]? =some b')=>show OY t a' b'=true by rcases eu j k with g |g;(.exact ad.out j a' b' g O N);·(obtain rfl:j=k:=by omega);rw[HA.out]at O;rw[HB.out]at N;cases O;cases N;exact Y);obtain⟨x1,x2⟩:=a;obtain⟨y1,y2⟩:=b;simp only[qB,jl.cells]at hm Rh af ag ai;(have ae:decide ((k:Int)+1<(n:Int))=true:=by simp;omega);go_wp2;refine ara (by kernel_rfl) ?_;(repeat(first|(apply gX.want rfl;(.intro w' J K Q' hK;have U:=M.grow J;have aa:=U.below;have an:=U.b0.cell;go_wp2_with((with_reducible refine(hm _ aa).mono ?_);rintro e w3⟨rfl,ac⟩);first|exact aH _ _|exact ac);(.simp only[aP,ay,aA,aB];rfl))));refine gX.nil ?_;intro w' J;have al:=M.grow J;go_wp2_with fail;go_roundw;(case rel=>exact⟨k+1,by go_num,by omega,am,al⟩);case measure=>simp[intOf];omega
  ·(have ae:decide ((k:Int)+1<(n:Int))=false:=by simp;omega);have ap:=ah ((O5 t p).2 λj a b O N=>ad.out j a b (by have:=(aX.1 N).1;have:=Z.out;omega) O N);go_wp2_with fail;go_ret;exact⟨by simp[ap.out],M.below⟩
def abP(t:Tp){s:St}(h:p[k]? =some s):arS t (p.take (k+1))=wrap64 (arS t (p.take k)+jS t s.edge):=by unfold arS;rw[take_snoc' h,List.foldl_append];rfl
def afD{s:St}(h:p[k]? =some s)(H:iW t s.edge=false):ny t p=1:=by
 unfold ny;have:(p.all λs=>iW t s.edge)=false:=by grind
 rw[this];simp
def abQ(M:p≠ [])(N:p.length<=40)(J: ∀(j:Nat) (s:St),p[j]? =some s->iW t s.edge=true):ny t p=if Iw t p then 0 else 141:=by
 unfold ny;have:(p.all λs=>iW t s.edge)=true:=by rw[List.all_eq_true];intro s hm;obtain⟨j,H⟩:=List.getElem?_of_mem hm;exact J j s H
 rw[this,Ξ (by grind)];simp
def BL{t:Tp}{e:Int}(h:iW t e=true): ∃i:Nat,e=(i:Int)/\i<t.edges.length/\jS t e=t.edges[i]! :=by unfold iW at h;simp only[bM,decide_eq_true_eq]at h;obtain⟨i,rfl⟩:=Int.eq_ofNat_of_zero_le h.1;exact⟨i,rfl,by omega,by rfl⟩
def RQ(h:jE w t m)(A:Option δ)(n c:Nat)(p:List St)(hp:fE gV w A p)(hn:p.length=n)(hl:n<=100):Γ aj 82 #[m.cells,.slice A n c] w λr w'=>r=.returned (.tuple #[(qc t p:Int),(ny t p:Int)])/\w w':=by
 have H:Own w _ [_]:=(Own.nil w).alloc 27 m.cells _ rfl;have N:=ah hn;have af:=H.b0.cell;by_cases hz:n=0;.subst hz;have ar:p= []:=dh.1 hn;subst ar;unfold jl.cells at*;go_enter func82,ntmps82;go_wp2;go_ret2;exact⟨by rfl,H.below⟩
 focus(
  by_cases aw:40<n;·(have hE:ny t p=1:=by unfold ny;rw[Υ (by omega)]);(have hT:qc t p=0:=by unfold qc;rw[hE];rfl);have Z:=ah hE;have HT:=ah hT;(have e1:((n:Int)==0)=false:=by grind);(have e2:decide (40<(n:Int))=true:=by grind);unfold jl.cells at*;go_enter func82,ntmps82;go_wp2;go_ret2;exact⟨by simp[Z.out,HT.out],H.below⟩
  focus(
   (have e1:((n:Int)==0)=false:=by grind);(have e2:decide (40<(n:Int))=false:=by grind);unfold jl.cells at*;go_enter func82,ntmps82;go_wp2;go_loopw [6,19] (λs i wr=> ∃k:Nat,i=.int .i64 k/\k<=n/\s=.int .i64 (arS t (p.take k))/\Hid (∀(j:Nat) (s:St),j<k->p[j]? =some s->iW t s.edge=true)/\Own w wr [(w,27,#[.slice m.A1 m.n1 m.c1,.slice m.A2 m.n2 m.c2,.slice m.A3 m.n3 m.c3,.slice m.A4 m.n4 m.c4])]) (λ_ i _=>n-(intOf i).toNat);(case atStart=>exact⟨0,rfl,aV _,rfl,ah (λj a V=>by omega),H⟩);case' round=>
    obtain⟨k,rfl,hk,rfl,ae,H⟩:=hrel;have af:=H.b0.cell;by_cases aD:k<n
    .obtain⟨s,Y⟩:=aq5 N.out (show k<n by omega);obtain⟨g,off,rfl,hg,a0,a1⟩:=hp.st Y;have Rh:=λW (J:w W)=>(J.cell (p:=⟨g,off+k*2,none⟩) hg).trans a0;have ac:=λW (J:w W)=>(J.cell (p:=⟨g,off+k*2+1,none⟩) hg).trans a1;have Cm:=Rh _ H.below;have CB:=ac _ H.below;have hm:=λW=>EG h s.edge W;have HS:=ah Y;have HX:=ah (abP t Y);cases O:iW t s.edge with
     |false=>have HR:=ah (afD Y O);rw[O]at hm;obtain⟨x1,x2⟩:=s;simp only[jl.cells]at hm Rh ac Cm CB;have M:=Own.new1 H 58 #[x1,x2];have ai:=M.b0.cell;have ak:=M.b1.cell;go_wp2_with(first|((with_reducible refine(hm _).mono ?_);rintro fU fJ⟨rfl,U⟩;replace H:=M.grow U));go_ret2;exact⟨by simp[HR.out,qc],H.below⟩
     |true=>rw[O]at hm;obtain⟨i,hi,ap,an⟩:=BL O;obtain⟨ge,CG,am,al,c0⟩:=h.lies.edges.int ap;have av:=λW (J:w W)=>(J.cell (p:=⟨ge,CG+i,none⟩) al).trans c0;have ax:=h.e1;(have az:i<m.n1:=by omega);have ag:=ah (λj s' (V:j<k+1) (h1:p[j]? =some s')=>show iW t s'.edge=true by rcases eu j k with g |g;(.exact ae.out j s' g h1);·(obtain rfl:j=k:=by omega);rw[HS.out]at h1;cases h1;exact O);rw[an]at HX;generalize t.edges[i]! =ev at*;obtain⟨x1,x2⟩:=s;simp only at hi;subst hi;generalize arS t (p.take k)=sm at*;simp only[jl.cells,am]at hm Rh ac Cm CB H af |-;have M:=Own.new1 H 58 #[i,x2];have ai:=M.b0.cell;have ak:=M.b1.cell;go_wp2_with(first|((with_reducible refine(hm _).mono ?_);rintro fU fJ⟨rfl,U⟩;replace H:=M.grow U;have jQ:=H.b0.cell;have uK:=H.b1.cell;have sK:=av _ H.below));go_roundw;(case rel=>exact⟨k+1,by go_num,by omega,by rw[HX.out],ag,⟨H.below,λx hx=>H.blk x (by simp at hx;simp[hx]),by simp⟩⟩);case measure=>simp[intOf];omega
    focus((obtain rfl:k=n:=by omega);(have aq:p≠ []:=by rintro rfl;have:=N.out;simp at this;omega);have aa:=abQ aq (by rw[N.out];omega) (λj s V=>ae.out j s (by have:=(aX.1 V).1;have:=N.out;omega) V);have hm:=λW (J:w W)=>alN (h.below J) A k c p (hp.below J) N.out hl;(have au:arS t (p.take k)=arS t p:=by rw[aY (by rw[N.out];omega)]);rw[au];(have ad:qc t p=if ny t p=0 then arS t p else 0:=rfl);generalize arS t p=sm at*;rcases hw:Iw t p with _ |_;skip;rotate_left;skip)))
 all_goals(rw[hw]at hm aa;rw[aa]at ad;have Z:=ah aa;have HT:=ah ad;simp only[jl.cells]at hm;go_wp2_with(first|((with_reducible refine(hm _ H.below).mono ?_);rintro fU fJ⟨rfl,U⟩;replace H:=H.grow U));go_ret2;exact⟨by simp[Z.out,HT.out],H.below⟩)
def Pg: ∀args w,(ϕ 132 args).run aj w=.ok (.enter 132 args) w:=enters_of func132 (by rfl) (by rfl)
def abR(r:Rt × Option δ × Nat)(id:Int)(A:δ)(w:ω)(hA:w.cell? A=some id)(J:A.block<w.heap.size):Γ aj 132 #[.agg (zT.enc r).toArray,.pointer (some A)] w λe w'=>e=.returned (.bool (decide (r.1.id=id)))/\w w':=by obtain⟨⟨b1,b2,b3,b4⟩,b5,b6⟩:=r;simp only[zT];have H:Own w _ [_]:=(Own.nil w).alloc 97 #[b1,.slice b5 b2.length b6,b3,b4] _ rfl;have N:=H.b0.cell;have M:=(H.below.cell (p:=A) J).trans hA;go_enter func132,ntmps132;go_wp2_with fail;go_ret;refine⟨?_,H.below⟩;rfl
def F9{α:Type}[Inhabited α](q:α->Bool): ∀(bs:List α) (i:Nat),(∃j,Lib.idxByFrom (λ_ y=>q y) default bs i=((i+j:Nat):Int)/\bs[j]? =bs.find? q/\(bs.find? q).isSome=true)\/(Lib.idxByFrom (λ_ y=>q y) default bs i= -1/\bs.find? q=none)
 | [],i=> .inr ⟨rfl,rfl⟩
 |y::bs,i=>by
  rw[Lib.idxByFrom,List.find?_cons];cases N:q y with
  |false=>simp only[bU,if_false];rcases F9 q bs (i+1) with⟨j,J,M,H⟩ |h;(.exact .inl ⟨j+1,by omega,by grind,H⟩);grind
  |true=>exact .inl ⟨0,by simp,by simp,rfl⟩
def afE{rs:List (Rt × Option δ × Nat)}(h:rs.map (·.1)=t.routes)(id:Int):(rs.find? λp=>decide (p.1.id=id)).map (·.1)=sJ t id:=by unfold sJ;rw[<-h,List.find?_map];rfl
abbrev rtV (r:Rt) (A:Option δ) (c:Nat):Θ:=.agg #[.int .i64 r.id,.slice A r.path.length c,.int .i64 r.gap,.int .i64 r.timer]
def NG (t:Tp) (id:Int) (w:ω) (e:ε) (w':ω):Prop:=(match sJ t id with
 |none=>e=.returned (.tuple #[.agg gD,.bool false])
 |some r=> ∃A c,e=.returned (.tuple #[rtV r A c,.bool true])/\aq1 gV 58 w' w A c r.path)/\w w'
def I4(h:jE w t m)(id:Int):Γ aj 78 #[m.cells,id] w (NG t id w):=by
 have H:Own w _ [_,_,_]:=Own.start3 w 27 3 97 m.cells #[id] gD;have ae:=H.b0.cell;have ag:=H.b1.cell 0;have ai:m.rs.length=m.n4:=by rw[<-h.e4,<-h.lies.is,eU]
 have an:=h.l4;have U:=afA 132 Pg #[.pointer (some ⟨w.heap.size+1,0,none⟩)] (λp=>decide (p.1.id=id)) m.A4 m.n4 m.c4 m.rs _ (λW x M=>(abR x id ⟨w.heap.size+1,0,none⟩ W ((M.cell (p:=⟨w.heap.size+1,0,none⟩) H.b1.lt).trans ag) (aU H.b1.lt M.size)).mono λ_ _ h=>⟨h.1,gZ M h.2⟩) (h.lies.routes.below H.below) ai (by omega);unfold Lib.idxBy at U;have aa:=afE h.lies.is id;rcases F9 (λp:Rt × Option δ × Nat=>decide (p.1.id=id)) m.rs 0 with⟨j,h1,Y,h3⟩ |⟨h1,Y⟩
 .obtain⟨p,hp⟩:=Option.isSome_iff_exists.1 h3;rw[hp]at aa Y;rw[h1,aJ]at U;have hj:j<m.n4:=by grind
  obtain⟨g,off,ad,hg,l0,l1,l2,l3⟩:=h.lies.routes.rt Y;have zD:=h.lies.paths p (bP Y);have al:p.1.path.length<=100:=h.l5 _ (by rw[<-h.lies.is];grind);obtain⟨⟨r1,r2,r3,r4⟩,Ap,cp⟩:=p;simp only[eF]at aa l0 l1 l2 l3 zD al;have HR:=ah aa;have k0:=λW (M:w W)=>(M.cell (p:=⟨g,off+j*4,none⟩) hg).trans l0;have k1:=λW (M:w W)=>(M.cell (p:=⟨g,off+j*4+1,none⟩) hg).trans l1;have k2:=λW (M:w W)=>(M.cell (p:=⟨g,off+j*4+2,none⟩) hg).trans l2;have k3:=λW (M:w W)=>(M.cell (p:=⟨g,off+j*4+3,none⟩) hg).trans l3;have af:=λW (M:w W)=>VW Ap r2.length cp r2 W (zD.below M) rfl (by omega);generalize ak:r2.length=np at*;have RS:=ah ak;unfold jl.cells at*;simp only[ad]at U ae H |-;go_enter func78,ntmps78;go_wp2_with(first|((with_reducible refine U.mono ?_);rintro V J⟨rfl,N⟩;replace H:=H.grow N;have ac:=N;have O:=H.b0.cell;have uK:=k0 J H.below;have sK:=k1 J H.below;have O4:=k2 J H.below;have NH:=k3 J H.below)|((with_reducible refine(af _ (Own.abu H 97 #[r1,.slice Ap np cp,r3,r4]).below).mono ?_);rintro V J⟨A',c',rfl,Z,N⟩;replace H:=(Own.abu H 97 #[r1,.slice Ap np cp,r3,r4]).grow N)|((with_reducible refine Zj 1 (.slice A' np c') H rfl 39 _ _ rfl rfl rfl (by kernel_rfl) ?_ rfl ?_);(.simp);intro V J N O;replace H:=J;replace Z:=Z.far (by simp) O;clear O N)|((with_reducible refine VN H ?_ _ rfl rfl _ underlying97 rfl (by kernel_rfl) ?_);rfl)|((with_reducible refine jv (#[r1,.slice A' np c',r3,r4]) H rfl _ _ rfl rfl rfl (by kernel_rfl) rfl ?_ ?_);(.first|(simp[aK];done));intro V J N O;replace H:=J;replace Z:=Z.far (by have:=ac.size;simp at this |-;omega) O;clear O N));refine β (gU results78 _ _ _ _ _ _ rfl rfl H.b2 underlying97 rfl (by kernel_rfl)) rfl ?_;unfold NG;rw[<-HR.out];have am:=ac.size;refine⟨⟨A',c',?_,Z.mono (by simp at am |-;omega)⟩,H.below⟩;simp only[rtV,RS.out];rfl
 .rw[Y]at aa;have HR:Hid (sJ t id=none):=aa.symm;rw[h1]at U;unfold jl.cells at*;go_enter func78,ntmps78;go_wp2_with(first|((with_reducible refine U.mono ?_);rintro V J⟨rfl,N⟩;replace H:=H.grow N)|((with_reducible refine jv gD H rfl _ _ rfl rfl rfl (by kernel_rfl) rfl ?_ ?_);(.first|(simp[aK];done));intro V J N O;replace H:=J;clear J));refine β (gU results78 _ _ _ _ _ _ rfl rfl H.b2 underlying97 rfl (by kernel_rfl)) rfl ?_;unfold NG;rw[HR.out];exact⟨rfl,H.below⟩
def L8: ∀args w,(ϕ 127 args).run aj w=.ok (.enter 127 args) w:=enters_of func127 (by kernel_rfl) (by rfl)
def L9: ∀args w,(ϕ 130 args).run aj w=.ok (.enter 130 args) w:=enters_of func130 (by kernel_rfl) (by rfl)
def Zt(x:St)(e:Int)(g:Nat)(w:ω)(hA:w.cell? ⟨g,0,none⟩=some e)(M:g<w.heap.size):Γ aj 127 #[.agg (gV.enc x).toArray,.pointer g] w λr w'=>r=.returned (.bool (decide (x.edge=e)))/\w w':=by obtain⟨J,N⟩:=x;simp only[gV];have H:Own w _ [_]:=(Own.nil w).alloc 58 #[J,N] _ rfl;have U:=H.b0.cell;have O:=(H.below.cell (p:=⟨g,0,none⟩) M).trans hA;go_enter func127,ntmps127;go_wp2_with fail;go_ret;refine⟨?_,H.below⟩;by_cases h:J=e <;> simp[h]
def Zu(x:Bl)(e:Int)(g:Nat)(w:ω)(hA:w.cell? ⟨g,0,none⟩=some e)(M:g<w.heap.size):Γ aj 130 #[.agg (qW.enc x).toArray,.pointer g] w λr w'=>r=.returned (.bool (decide (x.edge=e)))/\w w':=by obtain⟨N,J,O⟩:=x;simp only[qW];have H:Own w _ [_]:=(Own.nil w).alloc 114 #[N,J,O] _ rfl;have V:=H.b0.cell;have U:=(H.below.cell (p:=⟨g,0,none⟩) M).trans hA;go_enter func130,ntmps130;go_wp2_with fail;go_ret;refine⟨?_,H.below⟩;by_cases h:J=e <;> simp[h]
def VY{s:St}(h:p[k]? =some s):vM t (p.take k) (p.drop k)=(iW t s.edge&& !((p.take k).any λx=>decide (x.edge=s.edge))&&vM t (p.take (k+1)) (p.drop (k+1))):=by rw[ark h,take_snoc' h,vM]
def abS(h:jE w t m)(r:Rt)(A:Option δ)(n c:Nat)(hp:fE gV w A r.path)(hn:r.path.length=n)(hl:n<=100)(hc:n<=c):Γ aj 77 #[m.cells,.agg #[r.id,.slice A n c,r.gap,r.timer]] w λe w'=>e=.returned (yG t r:Int)/\w w':=by
 have H:Own w _ [_,_]:=Own.iY w 27 97 m.cells #[r.id,.slice A n c,r.gap,r.timer];have ai:=H.b0.cell;have al:=H.b1.cell;have Z:=ah hn;have hr:yG t r=if r.id<1\/n<1\/8<n then 1 else if vM t [] r.path=false then 1 else if ny t r.path≠0 then ny t r.path else if r.gap<0\/qc t r.path<=r.gap\/r.timer<1\/1000<r.timer then 1 else if r.path.all (λs=>t.jW.any λb=>decide (b.edge=s.edge)) then 0 else 4:=by rw[<-hn];rfl
 obtain⟨id,p,gap,timer⟩:=r;simp only at hr hp hn al H ai Z |-;have M:=ah hr;unfold jl.cells at*;by_cases ag:id<1\/n<1\/8<n;focus(have J:=M.out;rw[Υ ag]at J;replace M:=ah J;rcases ag with h1 |h1 |h1;rotate_left;(focus(by_cases h2:id<1;rotate_left;·(have e1:decide (id<1)=false:=by simp;omega);(have e2:decide ((n:Int)<1)=true:=by simp;omega);go_enter func77,ntmps77;go_wp2;go_ret;exact⟨by simp[M.out],H.below⟩));rotate_left;focus(by_cases h2:id<1;rotate_left;·(have e1:decide (id<1)=false:=by simp;omega);(have e2:decide ((n:Int)<1)=false:=by simp;omega);(have e3:decide (8<(n:Int))=true:=by simp;omega);go_enter func77,ntmps77;go_wp2;go_ret;exact⟨by simp[M.out],H.below⟩))
 rotate_left 3;focus(
  focus(
   have J:=M.out;rw[Ξ ag]at J;replace M:=ah J;(have e1:decide (id<1)=false:=by simp;omega);(have e2:decide ((n:Int)<1)=false:=by simp;omega);(have e3:decide (8<(n:Int))=false:=by simp;omega);go_enter func77,ntmps77;go_wp2;go_loopw [30] (λi wr=> ∃k:Nat,i=.int .i64 k/\k<=n/\Hid (vM t [] p=vM t (p.take k) (p.drop k))/\Own w wr [(w,27,#[.slice m.A1 m.n1 m.c1,.slice m.A2 m.n2 m.c2,.slice m.A3 m.n3 m.c3,.slice m.A4 m.n4 m.c4]),(w.heap.size+1,97,#[id,.slice A n c,gap,timer])]) (λi _=>n-(intOf i).toNat);(case atStart=>exact⟨0,rfl,aV _,ah (by simp),H⟩);case' round=>
    obtain⟨k,rfl,hk,hap,H⟩:=hrel;have ai:=H.b0.cell;have al:=H.b1.cell;by_cases av:k<n;(.obtain⟨s,hs⟩:=aq5 Z.out av;obtain⟨g,off,rfl,hg,a0,a1⟩:=hp.st hs;have Cm:=(H.below.cell (p:=⟨g,off+k*2,none⟩) hg).trans a0;have CB:=(H.below.cell (p:=⟨g,off+k*2+1,none⟩) hg).trans a1;have hm:=λW=>EG h s.edge W;have ae:=VY (t:=t) hs;rw[<-hap.out]at ae;have O:=Own.new2 H 58 #[s.edge,s.rev];have ar:=O.b0.cell;have au:=O.b1.cell;have ak:=O.b2.cell;have V:=λW (hW:Below (wr.heap.size+1) (wr.alloc (.cells #[s.edge,s.rev] 58)) W) (hB:w W)=>Yj 127 L8 #[.pointer wr] (λx=>decide (x.edge=s.edge)) (some ⟨g,off,none⟩) k c (p.take k) W (λW' x aa=>(Zt x s.edge wr W' ((aa.cell (p:=⟨wr,0,none⟩) (by have:=hW.size;simp at this;simp;omega)).trans ((hW.cell (p:=⟨wr,0,none⟩) (by simp)).trans (ak 0))) (by have:=hW.size;have:=aa.size;simp at *;omega)).mono λ_ _ h=>⟨h.1,gZ aa h.2⟩) ((hp.part k).below hB) (by rw[dX,Z.out];omega) (by omega);generalize iW t s.edge=th at*;generalize ((p.take k).any λx=>decide (x.edge=s.edge))=ap at*;simp only[jl.cells]at hm;obtain⟨x1,x2⟩:=s;cases th with|false=>(have Y:vM t [] p=false:=by rw[ae];rfl);have J:=M.out;rw[Υ Y]at J;replace M:=ah J;go_wp2_with(first|((with_reducible refine(hm _).mono ?_);rintro e U⟨rfl,N⟩;replace H:=O.grow N));go_ret;exact⟨by simp[M.out],H.below⟩|true=>cases ap with|false=>have Y:=hap.out.trans (hap.out.symm.trans ae);simp only[Bool.not_false,Bool.true_and,Bool.and_true]at Y;have Zv:=ah Y;go_wp2_with(first|((with_reducible refine(hm _).mono ?_);rintro e U⟨rfl,N⟩;replace H:=O.grow N;have iG:=H.b1.cell;have af:=N)|((with_reducible refine(V _ (by simpa using af) H.below).mono ?_);rintro e U⟨rfl,N⟩;replace H:=H.grow N));go_roundw;(case rel=>exact⟨k+1,by go_num,by omega,Zv,⟨H.below,λx hx=>H.blk x (by simp at hx;rcases hx with rfl |rfl <;> simp),by simp⟩⟩);case measure=>simp[intOf];omega|true=>(have Y:vM t [] p=false:=by rw[ae];rfl);have J:=M.out;rw[Υ Y]at J;replace M:=ah J;go_wp2_with(first|((with_reducible refine(hm _).mono ?_);rintro e U⟨rfl,N⟩;replace H:=O.grow N;have iG:=H.b1.cell;have af:=N)|((with_reducible refine(V _ (by simpa using af) H.below).mono ?_);rintro e U⟨rfl,N⟩;replace H:=H.grow N));go_ret;exact⟨by simp[M.out],H.below⟩);focus(
     (obtain rfl:k=n:=by omega);(have Y:vM t [] p=true:=by rw[hap.out,dJ (by rw[Z.out];exact aW _)];rfl);have J:=M.out;rw[Ξ (by rw[Y];simp)]at J;have ac:=λW (hW:w W)=>RQ (h.below hW) A k c p (hp.below hW) Z.out hl;simp only[jl.cells]at ac;generalize qc t p=lt at*;by_cases am:ny t p=0;focus(
      rw[am]at J ac;rw[Ξ (by simp)]at J;by_cases g1:gap<0;(focus(rw[Υ (.inl g1)]at J;replace M:=ah J;have f1:decide (gap<0)=true:=by simp;omega));rotate_left;focus(
       (have f1:decide (gap<0)=false:=by simp;omega);by_cases g2:lt<=gap;(focus(rw[Υ (.inr (.inl g2))]at J;replace M:=ah J;have f2:decide (lt<=gap)=true:=by simp;omega));rotate_left;focus(
        (have f2:decide (lt<=gap)=false:=by simp;omega);by_cases g3:timer<1;(focus(rw[Υ (.inr (.inr (.inl g3)))]at J;replace M:=ah J;have f3:decide (timer<1)=true:=by simp;omega));rotate_left;focus(
         (have f3:decide (timer<1)=false:=by simp;omega);by_cases g4:1000<timer;(focus(rw[Υ (.inr (.inr (.inr g4)))]at J;replace M:=ah J;have f4:decide (1000<timer)=true:=by simp;omega));rotate_left;focus(
          (have f4:decide (1000<timer)=false:=by simp;omega);rw[Ξ (by omega)]at J;replace M:=ah J;go_wp2_with(first|((with_reducible refine(ac _ H.below).mono ?_);rintro e U⟨rfl,N⟩;replace H:=H.grow N;have iG:=H.b1.cell));go_loopw [82] (λi wr=> ∃j:Nat,i=.int .i64 j/\j<=k/\Hid (∀(i:Nat) s,i<j->p[i]? =some s->(t.jW.any λb=>decide (b.edge=s.edge))=true)/\Own w wr [(w,27,#[.slice m.A1 m.n1 m.c1,.slice m.A2 m.n2 m.c2,.slice m.A3 m.n3 m.c3,.slice m.A4 m.n4 m.c4]),(w.heap.size+1,97,#[id,.slice A k c,gap,timer])]) (λi _=>k-(intOf i).toNat);(case atStart=>exact⟨0,rfl,aV _,ah (λi s hi=>by omega),H⟩);case round=>
           obtain⟨j,rfl,hj,an,H⟩:=hrel;have ai:=H.b0.cell;have al:=H.b1.cell;by_cases aw:j<k
           .obtain⟨s,hs⟩:=aq5 Z.out aw;obtain⟨g,off,rfl,hg,a0,a1⟩:=hp.st hs;have Cm:=(H.below.cell (p:=⟨g,off+j*2,none⟩) hg).trans a0;have CB:=(H.below.cell (p:=⟨g,off+j*2+1,none⟩) hg).trans a1;have O:=Own.new2 H 58 #[s.edge,s.rev];have ar:=O.b0.cell;have au:=O.b1.cell;have ak:=O.b2.cell;have ax:=h.l3;have V:=afC 130 L9 #[.pointer wr] (λx=>decide (x.edge=s.edge)) m.A3 m.n3 m.c3 t.jW _ (λW' x aa=>(Zu x s.edge wr W' ((aa.cell (p:=⟨wr,0,none⟩) O.b2.lt).trans (ak 0)) (aU O.b2.lt aa.size)).mono λ_ _ h=>⟨h.1,gZ aa h.2⟩) (h.lies.jW.below O.below) h.e3 (by omega);have HS:=ah hs;cases ad:(t.jW.any λx=>decide (x.edge=s.edge)) with
            |false=>(have hf:(p.all λs=>t.jW.any λb=>decide (b.edge=s.edge))=false:=by rw[List.all_eq_false];exact⟨s,bP HS.out,by rw[ad];simp⟩);have J:=M.out;rw[hf]at J;replace M:=ah J;rw[ad]at V;obtain⟨x1,x2⟩:=s;dsimp only at V;go_wp2_with(first|((with_reducible refine V.mono ?_);rintro e U⟨rfl,N⟩;replace H:=O.grow N));go_ret;exact⟨by simp[M.out],H.below⟩
            |true=>have aq:=ah (λ(i:Nat) s' (hi:i<j+1) (h1:p[i]? =some s')=>show(t.jW.any λb=>decide (b.edge=s'.edge))=true by rcases eu i j with g |g;(.exact an.out i s' g h1);·(obtain rfl:i=j:=by omega);rw[HS.out]at h1;cases h1;exact ad);rw[ad]at V;obtain⟨x1,x2⟩:=s;dsimp only at V;go_wp2_with(first|((with_reducible refine V.mono ?_);rintro e U⟨rfl,N⟩;replace H:=O.grow N));go_roundw;(case rel=>exact⟨j+1,by go_num,by omega,aq,⟨H.below,λx hx=>H.blk x (by simp at hx;rcases hx with rfl |rfl <;> simp),by simp⟩⟩);case measure=>simp[intOf];omega
           ·(obtain rfl:j=k:=by omega);(have hf:(p.all λs=>t.jW.any λb=>decide (b.edge=s.edge))=true:=by rw[List.all_eq_true];intro s hs;obtain⟨i,hi⟩:=List.getElem?_of_mem hs;exact an.out i s (by have:=(aX.1 hi).1;have:=Z.out;omega) hi);have J:=M.out;rw[hf]at J;replace M:=ah J;go_wp2_with fail;go_ret;exact⟨by simp[M.out],H.below⟩)))))
     rotate_left 4;.rw[Υ am]at J;replace M:=ah J;generalize ny t p=le at*;(have az:(le != 0)=true:=by simpa using am);go_wp2_with(first|((with_reducible refine(ac _ H.below).mono ?_);rintro e U⟨rfl,N⟩;replace H:=H.grow N));go_ret;exact⟨by simp[M.out],H.below⟩))
  all_goals(go_wp2_with(first|((with_reducible refine(ac _ H.below).mono ?_);rintro e U⟨rfl,N⟩;replace H:=H.grow N;have iG:=H.b1.cell));go_ret;exact⟨by simp[M.out],H.below⟩))
 all_goals((have e1:decide (id<1)=true:=by simp;omega);go_enter func77,ntmps77;go_wp2;go_ret;exact⟨by simp[M.out],H.below⟩)
def Ph: ∀args w,(ϕ 73 args).run aj w=.ok (.enter 73 args) w:=enters_of func73 (by rfl) (by rfl)
def abT(n:Int)(w:ω):Γ aj 73 #[n] w λr w'=>r=.returned (.bool (decide (n<1) || decide (1000000<n)))/\w'=w:=by
 by_cases H:n<1
 .have e1:decide (n<1)=true:=by grind
  go_enter func73,ntmps73;go_wp2;go_ret;simp_all
 .have e1:decide (n<1)=false:=by grind
  go_enter func73,ntmps73;go_wp2;go_ret;simp
def Jz(a b:En)(W:ω):(γ .eql 125 (RH a) (RH b)).run aj W=.ok (.bool (decide (a=b))) W:=by
 have u3:=bG;have a3:=isAgg3;have z3:=sizeOf3;have N:aj.underlying 125=some (.struct (aj.fieldsOf 125)):=by kernel_rfl
 have O:aj.stoodInHeld 125=false:=by simp
 rw[ϑ,show(10000:Nat)=9999+1 from rfl];have H:=ϐ (P:=aj) W 9999 125 #[a.edge,a.at_] #[b.edge,b.at_] N O;simp only[Program.fieldsOf,underlying125]at H;rw[H];go_simp;obtain⟨U,V⟩:=a;obtain⟨Y,Z⟩:=b;by_cases J:U=Y <;> by_cases M:V=Z <;> simp[J,M]
def RU{j:Jt}(h:t.iI[k]? =some j):og t (t.iI.take k) (t.iI.drop k)=if Cj t j.a=false\/Cj t j.b=false\/j.a=j.b then 1 else if zU (t.iI.take k) j.a j.b then 5 else og t (t.iI.take (k+1)) (t.iI.drop (k+1)):=by rw[ark h,take_snoc' h,og]
def Zw(h:t.jW[k]? =some b):wH t (t.jW.take k) (t.jW.drop k)=if b.id<0\/16777214<b.id\/iW t b.edge=false\/b.at_<0\/jS t b.edge<b.at_ then 1 else if(t.jW.take k).any (λx=>decide (x.id=b.id)) then 5 else wH t (t.jW.take (k+1)) (t.jW.drop (k+1)):=by rw[ark h,take_snoc' h,wH]
def RV{r:Rt}(h:t.routes[k]? =some r):tH t (t.routes.take k) (t.routes.drop k)=if yG t r≠0 then yG t r else if(t.routes.take k).any (λx=>decide (x.id=r.id)) then 5 else tH t (t.routes.take (k+1)) (t.routes.drop (k+1)):=by rw[ark h,take_snoc' h,tH]
def RX{α:Type}(l:List α)(q:α->Bool):(l.find? q).isSome=l.any q:=by grind
def VZ(h:jE w t m)(k:Nat)(H:k<=m.n2):jE w ⟨[],t.iI.take k,[],[]⟩ ⟨none,0,0,m.A2,k,m.c2,none,0,0,none,0,0,[]⟩:=⟨⟨fE.nil _ _,h.lies.iI.part k,fE.nil _ _,fE.nil _ _,rfl,by simp⟩,rfl,by simp only[dX];have:=h.e2;omega,rfl,rfl,by simp,by have:=h.l2;grind,by simp,by simp,by simp,by simp,by have:=h.q2;grind,by simp,by simp,by simp⟩
def abU(h:jE w t m)(k:Nat)(H:k<=m.n3):jE w ⟨[],[],t.jW.take k,[]⟩ ⟨none,0,0,none,0,0,m.A3,k,m.c3,none,0,0,[]⟩:=⟨⟨fE.nil _ _,fE.nil _ _,h.lies.jW.part k,fE.nil _ _,rfl,by simp⟩,rfl,rfl,by simp only[dX];have:=h.e3;omega,rfl,by simp,by simp,by have:=h.l3;grind,by simp,by simp,by simp,by simp,by have:=h.q3;grind,by simp,by simp⟩
def V3(h:jE w t m)(k:Nat)(M:k<=m.n4):jE w ⟨[],[],[],t.routes.take k⟩ ⟨none,0,0,none,0,0,none,0,0,m.A4,k,m.c4,m.rs.take k⟩:=⟨⟨fE.nil _ _,fE.nil _ _,fE.nil _ _,h.lies.routes.part k,by rw[List.map_take,h.lies.is],λp H=>h.lies.paths p (List.mem_of_mem_take H)⟩,rfl,rfl,rfl,by simp only[dX];have:=h.e4;omega,by simp,by simp,by simp,by have:=h.l4;grind,λr J=>h.l5 r (List.mem_of_mem_take J),by simp,by simp,by simp,by have:=h.q4;grind,λp H=>h.q5 p (List.mem_of_mem_take H)⟩
def abV(h:jE w t m)(id:Int):Γ aj 78 #[m.cells,id] w λe w'=>(∃x:Array Θ,e=.returned (.tuple #[x,.bool (sJ t id).isSome])/\x.size=4/\x.all (·.oneCell')=true)/\w w':=by refine(I4 h id).mono ?_;rintro e w'⟨H,M⟩;refine⟨?_,M⟩;cases J:sJ t id with|none=>rw[J]at H;exact⟨_,H,rfl,by simp[aK]⟩|some r=>rw[J]at H;obtain⟨A,c,H,_⟩:=H;exact⟨_,H,rfl,by simp[aK]⟩
section
section
variable {P:χ} {ops:Array ο} {F:(Nat->Θ)->Act} {w0:ω} {Q:Exit->Act->ω->Prop}
def kE (P:χ) (ops:Array ο) (F:(Nat->Θ)->Act) (G:ω->ω->Prop) (w0:ω) (T:Nat->ω->ω->Prop) (Pre:Nat->ω->Prop) (Q:Exit->Act->ω->Prop):List ο->Nat->List (Θ->ω->Prop)->Prop:=abo (fun i o jU Φ=> ∀u w,G w0 w->Pre i w->fH jU o.after.toList u w->jP P ops F (T i) o Φ Q u w) (fun o n jU=>(∀i j (Φ:Θ->ω->Prop),i≠j->i<jU.length->jU[j]? =some Φ-> ∀v w w',Φ v w->T i w w'->Φ v w')/\ ∀u w,G w0 w->Pre n w->(∀(i:Nat) (Φ:Θ->ω->Prop),jU[i]? =some Φ->Φ (u i) w)->aF o (ψ ops (F u).tmps)=true/\ ∀K:Act->ω->Prop,(∀a w',Q .normal a w'->K a w')->o.wp P (F u) w K Q)
def NI{id:Nat}{l:List ο}{a:Act}(G:ω->ω->Prop)(Z: ∀w:ω,G w w.drew)(V: ∀a b c,G a b->G b c->G a c)(T:Nat->ω->ω->Prop)(Y: ∀i w w',T i w w'->G w w')(H:Nat->ω->Prop)(aa: ∀i,H i w0.drew)(Ci: ∀i j w w',i≠j->H i w->T j w w'->H i w')(M:List (Option Tmp))(ac: ∀i o,i+1<l.length->l[i]? =some o->M[i]? =some o.dst)(lX: ∀u,aq9 u M 0 a=F u)(hm:P.follows .mixedOrders=true)(hB:uO l.toArray=true)(hA:uF l.toArray=true)(hap:arl M=true)(h:kE P l.toArray F G w0 T H Q l 0 []):(Code.region id l.toArray true).wp P Q a w0:=by
 obtain⟨r,p,e,h⟩:=yC l 0 [] h;obtain⟨vw,N,_,O,h5,U⟩:=sG r 0 [] rfl h;simp only[aJ]at N O U;have hl:r.length+1=l.length:=by rw[e];simp
 have hr: ∀i,i<r.length->l[i]? =r[i]? :=λi hi=>by rw[e,dP hi]
 refine yD G Z V T Y H aa Ci M lX hm hB hap _ (.inr ⟨hl,hA⟩) (λi o hi=>ac i o (by omega)) vw N (λi j Φ ad hi=>h5 i j Φ ad (by omega)) (λi o hi J=>O i o (by rw[<-hr i hi];exact J)) (λo J=>?_) (λe=>by omega);rw[e]at J;simp at J;subst J;exact U
def uM{id:Nat}{l:List ο}{a:Act}(G:ω->ω->Prop)(N: ∀w:ω,G w w.drew)(J: ∀a b c,G a b->G b c->G a c)(T:Nat->ω->ω->Prop)(M: ∀i w w',T i w w'->G w w')(H:Nat->ω->Prop)(O: ∀i,H i w0.drew)(Ci: ∀i j w w',i≠j->H i w->T j w w'->H i w')(F:(Nat->Θ)->Act)(lX: ∀u,aq9 u (l.map (·.dst)) 0 a=F u)(hm:P.follows .mixedOrders=true)(hB:uO l.toArray=true)(hA:uF l.toArray=true)(hap:arl (l.map (·.dst))=true)(h:kE P l.toArray F G w0 T H Q l 0 []):(Code.region id l.toArray true).wp P Q a w0:=NI G N J T M H O Ci _ (λi o _ U=>by simp[U]) lX hm hB hA hap h
def qp{id:Nat}{l:List ο}{a:Act}(G:ω->ω->Prop)(N: ∀w:ω,G w w.drew)(J: ∀a b c,G a b->G b c->G a c)(T:Nat->ω->ω->Prop)(M: ∀i w w',T i w w'->G w w')(H:Nat->ω->Prop)(O: ∀i,H i w0.drew)(Ci: ∀i j w w',i≠j->H i w->T j w w'->H i w')(F:(Nat->Θ)->Act)(lX: ∀u,aq9 u ((l.map (·.dst)).dropLast) 0 a=F u)(hm:P.follows .mixedOrders=true)(hB:uO l.toArray=true)(hA:uF l.toArray=true)(hap:arl ((l.map (·.dst)).dropLast)=true)(h:kE P l.toArray F G w0 T H Q l 0 []):(Code.region id l.toArray true).wp P Q a w0:=NI G N J T M H O Ci _ (λi o hi U=>by rw[List.getElem?_dropLast,Υ (by simp;omega)];simp[U]) lX hm hB hA hap h
def kE.is{o J:ο}{rest:List ο}{i:Nat}{jU:List (Θ->ω->Prop)}{G:ω->ω->Prop}{T:Nat->ω->ω->Prop}{H:Nat->ω->Prop}{c:Θ}(h: ∀u w,G w0 w->H i w->fH jU o.after.toList u w->jP P ops F (T i) o (Is c) Q u w)(r:kE P ops F G w0 T H Q (J::rest) (i+1) (jU++ [Is c])):kE P ops F G w0 T H Q (o::J::rest) i jU:=⟨Is c,h,r⟩
def kE.word{o J:ο}{rest:List ο}{i:Nat}{jU:List (Θ->ω->Prop)}{G:ω->ω->Prop}{T:Nat->ω->ω->Prop}{H:Nat->ω->Prop}(Φ:Θ->ω->Prop)(h: ∀u w,G w0 w->H i w->fH jU o.after.toList u w->jP P ops F (T i) o Φ Q u w)(r:kE P ops F G w0 T H Q (J::rest) (i+1) (jU++ [Φ])):kE P ops F G w0 T H Q (o::J::rest) i jU:=⟨Φ,h,r⟩
def kE.last{o:ο}{i:Nat}{jU:List (Θ->ω->Prop)}{G:ω->ω->Prop}{T:Nat->ω->ω->Prop}{H:Nat->ω->Prop}(J: ∀i j (Φ:Θ->ω->Prop),i≠j->i<jU.length->jU[j]? =some Φ-> ∀v w w',Φ v w->T i w w'->Φ v w')(h: ∀u w,G w0 w->H i w->(∀(j:Nat) (Φ:Θ->ω->Prop),jU[j]? =some Φ->Φ (u j) w)->aF o (ψ ops (F u).tmps)=true/\ ∀K:Act->ω->Prop,(∀a w',Q .normal a w'->K a w')->o.wp P (F u) w K Q):kE P ops F G w0 T H Q [o] i jU:=⟨J,h⟩
end
end
section
section
variable {P:χ} {ops:Array ο} {F:(Nat->Θ)->Act} {w0:ω} {Q:Exit->Act->ω->Prop}
def jF{o:ο}{i:Nat}{Φ:(Nat->Θ)->ω->Prop}{u:Nat->Θ}{w:ω}{T:ω->ω->Prop}(H:aF o (ψ ops (F u).tmps)=true)(h: ∀K:Act->ω->Prop,(∀v w',T w w'->Φ (upd u i v) w'->K ((F u).put o.dst v) w')->o.wp P (F u) w K Q):uS P ops F T i o Φ Q u w:=by unfold uS;rw[Υ H];exact h
def fM (P:χ) (ops:Array ο) (F:(Nat->Θ)->Act) (G:ω->ω->Prop) (w0:ω) (T:Nat->ω->ω->Prop) (Pre:Nat->ω->Prop) (Q:Exit->Act->ω->Prop):List ο->Nat->List ((Nat->Θ)->ω->Prop)->Prop:=abo (fun i o jU Φ=> ∀u w,G w0 w->Pre i w->fO jU o.after.toList u w->uS P ops F (T i) i o Φ Q u w) (fun o n jU=>(∀i j (Φ:(Nat->Θ)->ω->Prop),i≠j->i<jU.length->mY ops i j->jU[j]? =some Φ-> ∀u v w w',Φ u w->T i w w'->Φ (upd u i v) w')/\ ∀u w,G w0 w->Pre n w->(∀(i:Nat) (Φ:(Nat->Θ)->ω->Prop),jU[i]? =some Φ->Φ u w)->aF o (ψ ops (F u).tmps)=true/\ ∀K:Act->ω->Prop,(∀a w',Q .normal a w'->K a w')->o.wp P (F u) w K Q)
def zF{id:Nat}{l:List ο}{a:Act}(G:ω->ω->Prop)(Zi: ∀w:ω,G w w.drew)(VJ: ∀a b c,G a b->G b c->G a c)(T:Nat->ω->ω->Prop)(VK: ∀i w w',T i w w'->G w w')(ac: ∀i w,T i w w)(H:Nat->ω->Prop)(aa: ∀i,H i w0.drew)(Ci: ∀i j w w',i≠j->mY l.toArray i j->H i w->T j w w'->H i w')(F:(Nat->Θ)->Act)(lX: ∀u,aq9 u (l.map (·.dst)) 0 a=F u)(hm:P.follows .mixedOrders=true)(hB:uO l.toArray=true)(hA:uF l.toArray=true)(hap:arl (l.map (·.dst))=true)(h:fM P l.toArray F G w0 T H Q l 0 []):(Code.region id l.toArray true).wp P Q a w0:=by
 obtain⟨r,p,e,h⟩:=yC l 0 [] h;obtain⟨vw,N,_,O,V,U⟩:=sG r 0 [] rfl h;simp only[aJ]at N O U;have hl:r.length+1=l.length:=by rw[e];simp
 have hr: ∀i,i<r.length->l[i]? =r[i]? :=λi hi=>by rw[e,dP hi]
 refine Jr G Zi VJ T VK H aa Ci _ lX hm hB hap _ (.inr ⟨hl,hA⟩) arX vw N (λi j Φ Z hi Y hj u w M=>⟨V i j Φ Z (by omega) Y hj u _ w w M (ac i w),λv w'=>V i j Φ Z (by omega) Y hj u v w w' M⟩) (λi o hi J=>O i o (by rw[<-hr i hi];exact J)) (λo J=>?_) (λe=>by omega);rw[e]at J;simp at J;subst J;exact U
def gu{id:Nat}{l:List ο}{a:Act}(G:ω->ω->Prop)(N: ∀w:ω,G w w.drew)(J: ∀a b c,G a b->G b c->G a c)(T:Nat->ω->ω->Prop)(M: ∀i w w',T i w w'->G w w')(U: ∀i w,T i w w)(H:Nat->ω->Prop)(O: ∀i,H i w0.drew)(Ci: ∀i j w w',i≠j->H i w->T j w w'->H i w')(F:(Nat->Θ)->Act)(lX: ∀u,aq9 u (l.map (·.dst)) 0 a=F u)(hm:P.follows .mixedOrders=true)(hB:uO l.toArray=true)(hA:uF l.toArray=true)(hap:arl (l.map (·.dst))=true)(h:fM P l.toArray F G w0 T H Q l 0 []):(Code.region id l.toArray true).wp P Q a w0:=zF G N J T M U H O (λi j w w' V _=>Ci i j w w' V) F lX hm hB hA hap h
def fM.word{o J:ο}{rest:List ο}{i:Nat}{jU:List ((Nat->Θ)->ω->Prop)}{G:ω->ω->Prop}{T:Nat->ω->ω->Prop}{H:Nat->ω->Prop}(Φ:(Nat->Θ)->ω->Prop)(h: ∀u w,G w0 w->H i w->fO jU o.after.toList u w->uS P ops F (T i) i o Φ Q u w)(r:fM P ops F G w0 T H Q (J::rest) (i+1) (jU++ [Φ])):fM P ops F G w0 T H Q (o::J::rest) i jU:=⟨Φ,h,r⟩
def fM.one{o J:ο}{rest:List ο}{i:Nat}{jU:List ((Nat->Θ)->ω->Prop)}{G:ω->ω->Prop}{T:Nat->ω->ω->Prop}{H:Nat->ω->Prop}(Φ:Θ->ω->Prop)(h: ∀u w,G w0 w->H i w->fO jU o.after.toList u w->jP P ops F (T i) o Φ Q u w)(r:fM P ops F G w0 T H Q (J::rest) (i+1) (jU++ [gI i Φ])):fM P ops F G w0 T H Q (o::J::rest) i jU:=by exact⟨gI i Φ,λu w N O M=>Js (h u w N O M),r⟩
def fM.is{o J:ο}{rest:List ο}{i:Nat}{jU:List ((Nat->Θ)->ω->Prop)}{G:ω->ω->Prop}{T:Nat->ω->ω->Prop}{H:Nat->ω->Prop}{c:Θ}(h: ∀u w,G w0 w->H i w->fO jU o.after.toList u w->jP P ops F (T i) o (Is c) Q u w)(r:fM P ops F G w0 T H Q (J::rest) (i+1) (jU++ [gI i (Is c)])):fM P ops F G w0 T H Q (o::J::rest) i jU:=fM.one (Is c) h r
def fM.last{o:ο}{i:Nat}{jU:List ((Nat->Θ)->ω->Prop)}{G:ω->ω->Prop}{T:Nat->ω->ω->Prop}{H:Nat->ω->Prop}(J: ∀i j (Φ:(Nat->Θ)->ω->Prop),i≠j->i<jU.length->mY ops i j->jU[j]? =some Φ-> ∀u v w w',Φ u w->T i w w'->Φ (upd u i v) w')(h: ∀u w,G w0 w->H i w->(∀(j:Nat) (Φ:(Nat->Θ)->ω->Prop),jU[j]? =some Φ->Φ u w)->aF o (ψ ops (F u).tmps)=true/\ ∀K:Act->ω->Prop,(∀a w',Q .normal a w'->K a w')->o.wp P (F u) w K Q):fM P ops F G w0 T H Q [o] i jU:=⟨J,h⟩
def jy{i j:Nat}{Φ:Θ->ω->Prop}{u:Nat->Θ}{v:Θ}{w w':ω}(H:i≠j)(h:gI j Φ u w)(J: ∀x,Φ x w->Φ x w'):gI j Φ (upd u i v) w':=by unfold gI;rw[jH u v (λe=>H e.symm)];exact J _ h
def Dx (ops:Array ο) (i j:Nat):Bool:=match ops[j]? with
 |some o=>o.after.any fun e=>aC .any e&&e.on==i
 |none=>false
def ug{i j:Nat}(h:Dx ops i j=true): ¬mY ops i j:=by intro O;unfold Dx at h;cases H:ops[j]? with|none=>rw[H]at h;simp at h|some o=>rw[H]at h;simp only[Array.any_eq_true',bM,beq_iff_eq]at h;obtain⟨e,N,J,M⟩:=h;exact O o H e N J M
end
end
def vN (B s i:Nat) (w w':ω):Prop:=Below B w w'/\(i≠s->w w')/\(i=s->w'=w\/ ∃g t cs new,fK w g t cs/\fK w' g t new/\new.size=cs.size/\w'.heap.size=w.heap.size/\ ∀k,k≠g->w'.heap[k]? =w.heap[k]?)
def iR(B s i:Nat)(w:ω):vN B s i w w:=⟨aH _ _,λ_=>aH _ _,λ_=> .inl rfl⟩
def kM(hB:B<=w.heap.size)(h:w w')(hi:i≠s):vN B s i w w':=⟨h.mono hB,λ_=>h,λe=>absurd e hi⟩
def pV (B:Nat) (t:τ) (n:Nat):Θ->ω->Prop:=fun v w=> ∃g cs,v=.pointer (some ⟨g,0,none⟩)/\B<=g/\fK w g t cs/\cs.size=n
def pV.keep{n:Nat}{t:τ}{v:Θ}(h:pV B t n v w)(U:vN B s i w w'):pV B t n v w':=by
 obtain⟨g,cs,e,M,H,N⟩:=h;by_cases hi:i=s
 .rcases U.2.2 hi with rfl |⟨V,t',cs',new,J,Y,h5,h6,Z⟩;.exact⟨g,cs,e,M,H,N⟩
  .by_cases O:g=V;(.subst O;unfold fK at J H;rw[H]at J;simp at J;obtain⟨rfl,rfl⟩:=J;exact⟨g,new,e,M,Y,by omega⟩);.exact⟨g,cs,e,M,(Z g O).trans H,N⟩
 .exact⟨g,cs,e,M,H.below (U.2.1 hi) H.lt,N⟩
def CU (B j:Nat) (t:τ) (cs:Array Θ):(Nat->Θ)->ω->Prop:=fun u w=> ∃g,u j=.pointer (some ⟨g,0,none⟩)/\B<=g/\fK w g t cs
def yJ (ops:Array ο) (B s j:Nat) (Φ:(Nat->Θ)->ω->Prop):Prop:= ∀i,i≠j->mY ops i j-> ∀u v w w',Φ u w->vN B s i w w'->Φ (upd u i v) w'
def StB (ops:Array ο) (B s:Nat):Nat->List ((Nat->Θ)->ω->Prop)->Prop
 |_,[]=>True
 |j,Φ::l=>yJ ops B s j Φ/\StB ops B s (j+1) l
def abW: ∀(l:List ((Nat->Θ)->ω->Prop)) (k:Nat),StB ops B s k l-> ∀j Φ,l[j]? =some Φ->yJ ops B s (k+j) Φ
 | [],_,_,j,Φ,h=>by simp at h
 |Ψ::l,k,h,0,Φ,hj=>by simp at hj;subst hj;exact h.1
 |Ψ::l,k,h,j+1,Φ,hj=>by have:=abW l (k+1) h.2 j Φ (by grind);grind
def mM(c:Θ):yJ ops B s j (gI j (Is c)):=λ_ H _ _ _ _ _ h _=>jy H h λ_ h=>h
def qH{n:Nat}{t:τ}:yJ ops B s j (gI j (pV B t n)):=λ_ H _ _ _ _ _ h J=>jy H h λ_ h=>pV.keep h J
def pz{b:Nat}{t:τ}{cs:Array Θ}(J: ∀i,mY ops i s->i≠b):yJ ops B s s (CU B b t cs):=by intro i O M u v w w' h V;obtain⟨g,e,N,H⟩:=h;have U:=J i M;exact⟨g,by rw[jH u v (λe=>U e.symm)];exact e,N,H.below (V.2.1 O) H.lt⟩
def qh(h:StB ops B s 0 jU): ∀i j (Φ:(Nat->Θ)->ω->Prop),i≠j->i<jU.length->mY ops i j->jU[j]? =some Φ-> ∀u v w w',Φ u w->vN B s i w w'->Φ (upd u i v) w':=by intro i j Φ M _ J N u v W W' H O;have:=abW _ 0 h j Φ N;rw[aJ]at this;exact this i M J u v W W' H O
def JA (φ:Θ->Prop):Θ->ω->Prop:=fun v _=>φ v
def Pj(J:Θ->Prop):yJ ops B s j (gI j (JA J)):=λ_ H _ _ _ _ _ h _=>jy H h λ_ h=>h
def AnyW:(Nat->Θ)->ω->Prop:=fun _ _=>True
def RY:yJ ops B s j AnyW:=λ_ _ _ _ _ _ _ _ _=>trivial
def alO (n:Nat) (b:Bool) (v:Θ):Prop:= ∃x:Array Θ,v=.tuple #[.agg x,.bool b]/\x.size=n/\x.all (·.oneCell')=true
def alP (n:Nat) (v:Θ):Prop:= ∃x:Array Θ,v=.agg x/\x.size=n/\x.all (·.oneCell')=true
def abX(h:jE w t m):jr t=if 40<m.n1\/80<m.n2\/80<m.n3\/30<m.n4 then 2 else if t.edges.any (λn=>decide (n<1) || decide (1000000<n)) then 1 else if og t [] t.iI≠0 then og t [] t.iI else if wH t [] t.jW≠0 then wH t [] t.jW else tH t [] t.routes:=by rw[<-h.e1,<-h.e2,<-h.e3,<-h.e4];rfl
def yK(h:jE w t m):Γ aj 36 #[.agg m.cells] w λe w'=>e=.returned (.int .i64 (jr t))/\w w':=by
 have H:Own w _ [_]:=(Own.nil w).alloc 27 m.cells _ rfl;have ad:=H.b0.cell;have hr:=abX h;have bB:=h.l1;have bE:=h.l2;have bL:=h.l3;have bN:=h.l4;have bR:=h.q2;have bS:=h.q3;have bX:=h.q4;have N:=ah hr;clear hr;have az:=λW (hW:w W)=>abK 73 Ph #[] (λn=>decide (n<1) || decide (1000000<n)) m.A1 m.n1 m.c1 t.edges W (λW' x bx=>(abT x W').mono λ_ _ ⟨h1,h2⟩=>⟨h1,0,h2⟩) (h.lies.edges.below hW) h.e1 (by omega);unfold jl.cells at*;by_cases a5:40<m.n1\/80<m.n2\/80<m.n3\/30<m.n4
 .have J:=N.out;rw[Υ a5]at J;replace N:=ah J;clear J;by_cases h1:40<m.n1;·(have e1:decide (40<(m.n1:Int))=true:=by simp;omega);go_enter func36,ntmps36;go_wp2;go_ret;exact⟨by simp[N.out],H.below⟩
  have e1:decide (40<(m.n1:Int))=false:=by simp;omega
  by_cases h2:80<m.n2;·(have e2:decide (80<(m.n2:Int))=true:=by simp;omega);go_enter func36,ntmps36;go_wp2;go_ret;exact⟨by simp[N.out],H.below⟩
  have e2:decide (80<(m.n2:Int))=false:=by simp;omega
  by_cases h3:80<m.n3;·(have e3:decide (80<(m.n3:Int))=true:=by simp;omega);go_enter func36,ntmps36;go_wp2;go_ret;exact⟨by simp[N.out],H.below⟩
  have e3:decide (80<(m.n3:Int))=false:=by simp;omega
  have e4:decide (30<(m.n4:Int))=true:=by simp;omega
  go_enter func36,ntmps36;go_wp2;go_ret;exact⟨by simp[N.out],H.below⟩
 have J:=N.out;rw[Ξ a5]at J;have e1:decide (40<(m.n1:Int))=false:=by simp;omega
 have e2:decide (80<(m.n2:Int))=false:=by simp;omega
 have e3:decide (80<(m.n3:Int))=false:=by simp;omega
 have e4:decide (30<(m.n4:Int))=false:=by simp;omega
 cases av:(t.edges.any λn=>decide (n<1) || decide (1000000<n)) with
 |false=>
  rw[av]at az;rw[Ξ (by rw[av];simp)]at J;replace N:=ah J;clear J av a5;go_enter func36,ntmps36;go_wp2_with(first|((with_reducible refine(az _ H.below).mono ?_);rintro e w2⟨rfl,fU⟩;replace H:=H.grow fU;have uU:=H.b0.cell));clear ad uU az;go_loopw [42] (λi wr=> ∃k:Nat,i=.int .i64 k/\k<=m.n2/\Hid (og t [] t.iI=og t (t.iI.take k) (t.iI.drop k))/\Own w wr [(w,27,#[.slice m.A1 m.n1 m.c1,.slice m.A2 m.n2 m.c2,.slice m.A3 m.n3 m.c3,.slice m.A4 m.n4 m.c4])]) (λi _=>m.n2-(intOf i).toNat);case atStart=>exact⟨0,rfl,aV _,ah (by simp),H⟩
  case round=>
   clear H;obtain⟨k,rfl,M,hap,H⟩:=hrel;by_cases aL:k<m.n2
   .obtain⟨j,hj⟩:=aq5 h.e2 aL;obtain⟨g,off,bi,hg,a0,a1,a2,a3⟩:=h.lies.iI.jt hj;have Cm:=(H.below.cell (p:=⟨g,off+k*4,none⟩) hg).trans a0;have CB:=(H.below.cell (p:=⟨g,off+k*4+1,none⟩) hg).trans a1;have RZ:=(H.below.cell (p:=⟨g,off+k*4+2,none⟩) hg).trans a2;have bb:=(H.below.cell (p:=⟨g,off+k*4+3,none⟩) hg).trans a3;have O:=RU (t:=t) hj;rw[<-hap.out]at O;have aq:=λW=>ah7 h j.a W;have ar:=λW=>ah7 h j.b W;have au:=λW (hW:w W)=>afz (VZ (h.below hW) k M) j.a j.b;simp only[jl.cells,bi]at H aq ar au |-;obtain⟨⟨x1,x2⟩,⟨x3,x4⟩⟩:=j;simp only at aq ar au Cm CB RZ bb O;have a4:=Jz ⟨x1,x2⟩ ⟨x3,x4⟩;have Z:=Own.new1 H 127 #[.int .i64 x1,.int .i64 x2,.int .i64 x3,.int .i64 x4];have aw:=Z.b0.cell;have aE:=Z.b1.cell;have ad:=H.b0.cell;clear hj a0 a1 a2 a3;generalize Cj t ⟨x1,x2⟩=ea at*;generalize Cj t ⟨x3,x4⟩=eb at*;generalize zU (t.iI.take k) ⟨x1,x2⟩ ⟨x3,x4⟩=jo at*;obtain⟨sm,ba⟩:=fD (decide ((⟨x1,x2⟩:En)=⟨x3,x4⟩));rw[<-ba]at a4;(have pW:og t [] t.iI=if ea=false\/eb=false\/sm=true then 1 else if jo=true then 5 else og t (t.iI.take (k+1)) (t.iI.drop (k+1)):=by rw[O,ba];simp);clear O ba;cases ea with
    |false=>have J:=N.out;rw[Υ (.inl rfl)]at pW;rw[pW,Υ (by decide)]at J;replace N:=ah J;clear J pW ar au a4;go_wp2_with(first|((with_reducible refine(aq _).mono ?_);rintro e w1⟨rfl,fU⟩;replace H:=Z.grow fU;have uU:=H.b0.cell;have ax:=H.b1.cell));go_ret;exact⟨by simp[N.out],H.below⟩
    |true=>
     cases eb with
     |false=>have J:=N.out;rw[Υ (.inr (.inl rfl))]at pW;rw[pW,Υ (by decide)]at J;replace N:=ah J;clear J pW au a4;go_wp2_with(first|((with_reducible refine(aq _).mono ?_);rintro e w1⟨rfl,fU⟩;replace H:=Z.grow fU;have uU:=H.b0.cell;have ax:=H.b1.cell)|((with_reducible refine(ar _).mono ?_);rintro e w2⟨rfl,fU⟩;replace H:=H.grow fU;have a6:=H.b1.cell));go_ret;exact⟨by simp[N.out],H.below⟩
     |true=>
      cases sm with
      |false=>rw[Ξ (by simp)]at pW;go_wp2_with(first|((with_reducible refine(aq _).mono ?_);rintro e w1⟨rfl,fU⟩;replace H:=Z.grow fU;have uU:=H.b0.cell;have ax:=H.b1.cell)|((with_reducible refine(ar _).mono ?_);rintro e w2⟨rfl,fU⟩;replace H:=H.grow fU;have a6:=H.b1.cell));clear ad aw aE uU ax a6 aq ar a4;cases jo with|false=>rw[Ξ (by simp)]at pW;have Zv:=ah pW;clear pW hap;refine ara (by kernel_rfl) ?_;(repeat(first|(apply gX.want rfl;(.intro w' M K Q' Y;have U:=H.grow M;have ac:=U.below;have ai:=U.b0.cell;have ak:=U.b1.cell;go_wp2_with((with_reducible refine(au _ ac).mono ?_);rintro e w3⟨rfl,aa⟩);first|exact aH _ _|exact aa);(.simp only[aP,ay,aA,aB];rfl))));refine gX.nil ?_;intro w' M;have af:=H.grow M;go_wp2_with fail;go_roundw;(case rel=>exact⟨k+1,by go_num,by omega,Zv,⟨af.below,λx hx=>af.blk x (by simp at hx;rcases hx with rfl |rfl <;> simp),by simp⟩⟩);case measure=>simp[intOf];omega|true=>have J:=N.out;rw[Υ rfl]at pW;rw[pW,Υ (by decide)]at J;replace N:=ah J;clear J pW;refine ara (by kernel_rfl) ?_;(repeat(first|(apply gX.want rfl;(.intro w' M K Q' Y;have U:=H.grow M;have ac:=U.below;have ai:=U.b0.cell;have ak:=U.b1.cell;go_wp2_with((with_reducible refine(au _ ac).mono ?_);rintro e w3⟨rfl,aa⟩);first|exact aH _ _|exact aa);(.simp only[aP,ay,aA,aB];rfl))));refine gX.nil ?_;intro w' M;have ae:=(H.grow M).below;go_wp2_with fail;go_ret;exact⟨by simp[N.out],ae⟩
      |true=>have J:=N.out;rw[Υ (.inr (.inr rfl))]at pW;rw[pW,Υ (by decide)]at J;replace N:=ah J;clear J pW au;go_wp2_with(first|((with_reducible refine(aq _).mono ?_);rintro e w1⟨rfl,fU⟩;replace H:=Z.grow fU;have uU:=H.b0.cell;have ax:=H.b1.cell)|((with_reducible refine(ar _).mono ?_);rintro e w2⟨rfl,fU⟩;replace H:=H.grow fU;have a6:=H.b1.cell));go_ret;exact⟨by simp[N.out],H.below⟩
   ·(obtain rfl:k=m.n2:=by omega);(have an:og t [] t.iI=0:=by rw[hap.out,dJ (by rw[h.e2];exact aW _),og.eq_def]);have J:=N.out;rw[Ξ (by rw[an];simp)]at J;replace N:=ah J;clear J an hap;have ad:=H.b0.cell;go_wp2_with fail;clear ad;go_loopw [80] (λi wr=> ∃k:Nat,i=.int .i64 k/\k<=m.n3/\Hid (wH t [] t.jW=wH t (t.jW.take k) (t.jW.drop k))/\Own w wr [(w,27,#[.slice m.A1 m.n1 m.c1,.slice m.A2 m.n2 m.c2,.slice m.A3 m.n3 m.c3,.slice m.A4 m.n4 m.c4])]) (λi _=>m.n3-(intOf i).toNat);(case atStart=>exact⟨0,rfl,aV _,ah (by simp),H⟩);case round=>
     clear H;obtain⟨k,rfl,M,hap,H⟩:=hrel;by_cases aL:k<m.n3
     .obtain⟨b,hb⟩:=aq5 h.e3 aL;obtain⟨g,off,bj,hg,a0,a1,a2⟩:=h.lies.jW.bl hb;have Cm:=(H.below.cell (p:=⟨g,off+k*3,none⟩) hg).trans a0;have CB:=(H.below.cell (p:=⟨g,off+k*3+1,none⟩) hg).trans a1;have RZ:=(H.below.cell (p:=⟨g,off+k*3+2,none⟩) hg).trans a2;have O:=Zw (t:=t) hb;rw[<-hap.out]at O;have hm:=λW=>EG h b.edge W;have lF:=λW (hW:w W)=>Hw (abU (h.below hW) k M) b.id;simp only[jl.cells,bj]at H hm lF |-;obtain⟨x1,x2,x3⟩:=b;simp only at hm lF Cm CB RZ O;have Z:=Own.new1 H 114 #[.int .i64 x1,.int .i64 x2,.int .i64 x3];have aw:=Z.b0.cell;have aE:=Z.b1.cell;have ad:=H.b0.cell;clear hb a0 a1 a2;have JB:= @BL t x2;generalize iW t x2=th at*;by_cases h1:x1<0;(·(have f1:decide (x1<0)=true:=by simp;omega);clear JB lF;have J:=N.out;rw[Υ (.inl h1)]at O;rw[O,Υ (by decide)]at J;replace N:=ah J;clear J O;go_wp2;generalize (wr.alloc (.cells #[.int .i64 x1,.int .i64 x2,.int .i64 x3] 114))=W0 at Z |-;replace H:=Z;refine ara (by kernel_rfl) ?_;(repeat(first|(apply gX.want rfl;(.intro w' M K Q' Y;have U:=H.grow M;have ac:=U.below;have ai:=U.b0.cell;have ak:=U.b1.cell;go_wp2_with((with_reducible refine(hm _).mono ?_);rintro e w3⟨rfl,aa⟩);first|exact aH _ _);(.simp only[aP,ay,aA,aB];rfl))|(apply gX.skip rfl;.simp only[aP,ay,aA,aB];rfl)));refine gX.nil ?_;intro w' M;have ae:=(H.grow M).below;go_wp2_with fail;go_ret;exact⟨by simp[N.out],ae⟩);(have f1:decide (x1<0)=false:=by simp;omega);by_cases h2:16777214<x1;(·(have f2:decide (16777214<x1)=true:=by simp;omega);clear JB lF;have J:=N.out;rw[Υ (.inr (.inl h2))]at O;rw[O,Υ (by decide)]at J;replace N:=ah J;clear J O;go_wp2;generalize (wr.alloc (.cells #[.int .i64 x1,.int .i64 x2,.int .i64 x3] 114))=W0 at Z |-;replace H:=Z;refine ara (by kernel_rfl) ?_;(repeat(first|(apply gX.want rfl;(.intro w' M K Q' Y;have U:=H.grow M;have ac:=U.below;have ai:=U.b0.cell;have ak:=U.b1.cell;go_wp2_with((with_reducible refine(hm _).mono ?_);rintro e w3⟨rfl,aa⟩);first|exact aH _ _);(.simp only[aP,ay,aA,aB];rfl))|(apply gX.skip rfl;.simp only[aP,ay,aA,aB];rfl)));refine gX.nil ?_;intro w' M;have ae:=(H.grow M).below;go_wp2_with fail;go_ret;exact⟨by simp[N.out],ae⟩);(have f2:decide (16777214<x1)=false:=by simp;omega);cases th with
      |false=>clear JB lF;have J:=N.out;rw[Υ (.inr (.inr (.inl rfl)))]at O;rw[O,Υ (by decide)]at J;replace N:=ah J;clear J O;go_wp2;generalize (wr.alloc (.cells #[.int .i64 x1,.int .i64 x2,.int .i64 x3] 114))=W0 at Z |-;replace H:=Z;refine ara (by kernel_rfl) ?_;(repeat(first|(apply gX.want rfl;(.intro w' M K Q' Y;have U:=H.grow M;have ac:=U.below;have ai:=U.b0.cell;have ak:=U.b1.cell;go_wp2_with((with_reducible refine(hm _).mono ?_);rintro e w3⟨rfl,aa⟩);first|exact aH _ _|exact aa);(.simp only[aP,ay,aA,aB];rfl))|(apply gX.skip rfl;.simp only[aP,ay,aA,aB];rfl)));refine gX.nil ?_;intro w' M;have ae:=(H.grow M).below;go_wp2_with fail;go_ret;exact⟨by simp[N.out],ae⟩
      |true=>
       obtain⟨i,rfl,bd,bc⟩:=JB rfl;clear JB;by_cases h4:x3<0;(·(have f4:decide (x3<0)=true:=by simp;omega);clear lF;have J:=N.out;rw[Υ (.inr (.inr (.inr (.inl h4))))]at O;rw[O,Υ (by decide)]at J;replace N:=ah J;clear J O;go_wp2;generalize (wr.alloc (.cells #[.int .i64 x1,.int .i64 i,.int .i64 x3] 114))=W0 at Z |-;replace H:=Z;refine ara (by kernel_rfl) ?_;(repeat(first|(apply gX.want rfl;(.intro w' M K Q' Y;have U:=H.grow M;have ac:=U.below;have ai:=U.b0.cell;have ak:=U.b1.cell;go_wp2_with((with_reducible refine(hm _).mono ?_);rintro e w3⟨rfl,aa⟩);first|exact aH _ _|exact aa);(.simp only[aP,ay,aA,aB];rfl))|(apply gX.skip rfl;.simp only[aP,ay,aA,aB];rfl)));refine gX.nil ?_;intro w' M;have ae:=(H.grow M).below;go_wp2_with fail;go_ret;exact⟨by simp[N.out],ae⟩);(have f4:decide (x3<0)=false:=by simp;omega);obtain⟨ge,CG,bo,bn,c0⟩:=h.lies.edges.int bd;have ca:=λW (hW:w W)=>(hW.cell (p:=⟨ge,CG+i,none⟩) bn).trans c0;(have bA:i<m.n1:=by have:=h.e1;omega);rw[bc]at O;clear c0 bc bd;generalize t.edges[i]! =ev at*;simp only[bo]at Z aw ad H hm |-;by_cases h5:ev<x3;(·(have f5:decide (ev<x3)=true:=by simp;omega);clear lF;have J:=N.out;rw[Υ (.inr (.inr (.inr (.inr h5))))]at O;rw[O,Υ (by decide)]at J;replace N:=ah J;clear J O;go_wp2;generalize (wr.alloc (.cells #[.int .i64 x1,.int .i64 i,.int .i64 x3] 114))=W0 at Z |-;replace H:=Z;refine ara (by kernel_rfl) ?_;(repeat(first|(apply gX.want rfl;(.intro w' M K Q' Y;have U:=H.grow M;have ac:=U.below;have ai:=U.b0.cell;have ak:=U.b1.cell;go_wp2_with((with_reducible refine(hm _).mono ?_);rintro e w3⟨rfl,aa⟩);first|exact aH _ _|exact aa);(.simp only[aP,ay,aA,aB];rfl))));refine gX.nil ?_;intro w' M;have ae:=(H.grow M).below;go_wp2_with fail;go_ret;exact⟨by simp[N.out],ae⟩);(have f5:decide (ev<x3)=false:=by simp;omega);rw[Ξ (by simp;omega)]at O;have aD:(oz ⟨[],[],t.jW.take k,[]⟩ x1).isSome=(t.jW.take k).any (λx=>decide (x.id=x1)):=RX _ _;generalize bm:(oz ⟨[],[],t.jW.take k,[]⟩ x1).getD ⟨0,0,0⟩=b0 at*;obtain⟨y1,y2,y3⟩:=b0;rw[<-aD]at O;clear bm aD;generalize (oz ⟨[],[],t.jW.take k,[]⟩ x1).isSome=fd at*;go_wp2;generalize (wr.alloc (.cells #[.int .i64 x1,.int .i64 i,.int .i64 x3] 114))=W0 at Z |-;replace H:=Z;clear aw aE ad Z;refine ara (by kernel_rfl) ?_;(repeat(first|(apply gX.want rfl;(.intro w' M K Q' Y;have U:=H.grow M;have ac:=U.below;have ai:=U.b0.cell;have ak:=U.b1.cell;go_wp2_with((with_reducible refine(hm _).mono ?_);rintro e w3⟨rfl,aa⟩);first|exact aH _ _|exact aa);(.simp only[aP,ay,aA,aB];rfl))));refine gX.nil ?_;intro w' M;replace H:=H.grow M;clear M;go_wp2_with fail;apply gu (Below w') (λW=>aq3 gY 1) (λ_ _ _ h1 h2=>h1.trans h2) (vN w' 12) (λ_ _ _ h=>h.1) (λ_ _=>iR _ _ _ _) (λ_ _=>True) (λ_=>trivial) (λ_ _ _ _ _ _ _=>trivial);(case lX=>intro u;simp only[bV,aq9,aP,ay,aA,aB,aT,aJ];rfl);(case hm=>kernel_rfl);(case hB=>kernel_rfl);(case hA=>kernel_rfl);case hap=>kernel_rfl
       repeat(first
          |(apply fM.is
            ·
              (intro u w' M am V
               simp[fO,aC,gI,Is]at V
               refine fC ?_ ?_
               ·
                 first
                 |rfl
               intro K Y
               have U:=H.grow M;have ac:=U.below;have ai:=U.b0.cell;have ak:=U.b1.cell
               go_wp2_with ((with_reducible refine(lF _ ac).mono ?_);rintro e w3⟨rfl,aa⟩)
               try simp only[V]at Y
               refine Y _ _ ?_ rfl
               first |exact iR _ _ _ _ |exact kM M.size aa (by decide)))
          |(refine fM.one (pV w' 114 (#[.int .i64 0, .int .i64 0, .int .i64 0] : Array Θ).size) ?_ ?_
            ·
              (intro u w' M am V
               clear V
               refine fC ?_ ?_
               ·
                 first
                 |rfl
               intro K Y
               go_wp2_with fail
               exact Y _ _ (kM M.size jm (by decide)) ⟨w',_,rfl,M.size,fK.new w' 114 (gC:Array Θ),rfl⟩))
          |(refine fM.word (CU w' 11 114 (#[.int .i64 y1, .int .i64 y2, .int .i64 y3])) ?_ ?_
            ·
              (intro u w' M am V
               simp[fO,aC,gI,Is]at V
               obtain⟨⟨g,cs,aM,hg,ag,aR⟩,hx⟩:=V
               refine jF ?_ ?_
               ·
                 first
                 |rfl
               intro K Y
               have jL: ∀k,k≠g->(w'.setRow g (#[.int .i64 y1,.int .i64 y2,.int .i64 y3])).heap[k]? =w'.heap[k]? :=λk M=>ζ w' g k _ M
               exact η 114 _ _ rfl g (#[.int .i64 y1, .int .i64 y2, .int .i64 y3]) (by first | exact aM ) (by first | exact hx.1 ) 114 cs ag (by kernel_rfl) aR (by simp [aK]) (Y υ _
                 ⟨jk gY hg _,λh=>absurd rfl h,λ_=> .inr ⟨g,_,cs,(#[.int .i64 y1,.int .i64 y2,.int .i64 y3]),ag,ag.row _,aR.symm,by simp,jL⟩⟩
                 ⟨g,by rw[jH u υ (by decide)];exact aM,hg,ag.row _⟩))))
       refine fM.last (qh ?_) ?_;(.simp only[gQ];(repeat(refine⟨?_,?_⟩;.first|exact mM _|exact qH|exact pz (λi hf e=>hf _ rfl ⟨11,.data⟩ (by simp) rfl e.symm)));exact trivial);intro u w2 a7 _ V;simp only[gQ]at V;refine⟨rfl,?_⟩;intro K Y;obtain⟨gb,bw,bh,ag⟩:=V 12 _ rfl;have V4:=V 10 _ rfl;simp only[gI,Is]at V4;clear V;have af:=H.grow a7;clear ag bh;simp only[V4];clear V4;cases fd with|false=>rw[Ξ (by simp)]at O;have Zv:=ah O;clear O;go_wp2_with fail;go_roundw;(case rel=>exact⟨k+1,by go_num,by omega,Zv,⟨af.below,λx hx=>af.blk x (by simp at hx;rcases hx with rfl |rfl <;> simp),by simp⟩⟩);case measure=>simp[intOf];omega|true=>have J:=N.out;rw[Υ rfl]at O;rw[O,Υ (by decide)]at J;replace N:=ah J;clear J O;go_wp2_with fail;go_ret;exact⟨by simp[N.out],af.below⟩
     ·(obtain rfl:k=m.n3:=by omega);(have an:wH t [] t.jW=0:=by rw[hap.out,dJ (by rw[h.e3];exact aW _),wH.eq_def]);have J:=N.out;rw[Ξ (by rw[an];simp)]at J;replace N:=ah J;clear J an hap;have ad:=H.b0.cell;go_wp2_with fail;clear ad;go_loopw [132] (λi wr=> ∃k:Nat,i=.int .i64 k/\k<=m.n4/\Hid (tH t [] t.routes=tH t (t.routes.take k) (t.routes.drop k))/\Own w wr [(w,27,#[.slice m.A1 m.n1 m.c1,.slice m.A2 m.n2 m.c2,.slice m.A3 m.n3 m.c3,.slice m.A4 m.n4 m.c4])]) (λi _=>m.n4-(intOf i).toNat);(case atStart=>exact⟨0,rfl,aV _,ah (by simp),H⟩);case round=>
       clear H;obtain⟨k,rfl,M,hap,H⟩:=hrel;by_cases aL:k<m.n4
       ·(have bf:m.rs.length=m.n4:=by rw[<-h.e4,<-h.lies.is,eU]);obtain⟨p,hp⟩:=aq5 bf aL;(have hr:t.routes[k]? =some p.1:=by rw[<-h.lies.is,bW,hp];rfl);obtain⟨g,off,bk,hg,a0,a1,a2,a3⟩:=h.lies.routes.rt hp;have zD:=h.lies.paths p (bP hp);have bu:p.1.path.length<=100:=h.l5 _ (bP hr);have bq:p.1.path.length<=p.2.2:=h.q5 _ (bP hp);have Cm:=(H.below.cell (p:=⟨g,off+k*4,none⟩) hg).trans a0;have CB:=(H.below.cell (p:=⟨g,off+k*4+1,none⟩) hg).trans a1;have RZ:=(H.below.cell (p:=⟨g,off+k*4+2,none⟩) hg).trans a2;have bb:=(H.below.cell (p:=⟨g,off+k*4+3,none⟩) hg).trans a3;have O:=RV (t:=t) hr;rw[<-hap.out]at O;have a8:=λW (hW:w W)=>abS (h.below hW) p.1 p.2.1 p.1.path.length p.2.2 (zD.below hW) rfl bu bq;have a9:=λW (hW:w W)=>abV (V3 (h.below hW) k M) p.1.id;have aD:(sJ ⟨[],[],[],t.routes.take k⟩ p.1.id).isSome=(t.routes.take k).any (λx=>decide (x.id=p.1.id)):=RX _ _;rw[<-aD]at O;obtain⟨⟨x1,x2,x3,x4⟩,Ap,cp⟩:=p;simp only[jl.cells,bk]at H a8 a9 Cm CB RZ bb O |-;generalize x2.length=np at*;generalize (sJ ⟨[],[],[],t.routes.take k⟩ x1).isSome=fd at*;generalize yG t ⟨x1,x2,x3,x4⟩=re at*;have Z:=Own.new1 H 97 #[.int .i64 x1,.slice Ap np cp,.int .i64 x3,.int .i64 x4];have aw:=Z.b0.cell;have aE:=Z.b1.cell;have ad:=H.b0.cell;clear hr hp a0 a1 a2 a3 aD zD bf;by_cases h1:re=0
        .subst h1;rw[Ξ (by simp)]at O;go_wp2_with(first|((with_reducible refine(a8 _ Z.below).mono ?_);rintro e w1⟨rfl,fU⟩;replace H:=Z.grow fU;have uU:=H.b0.cell;have ax:=H.b1.cell));clear aw aE ad Z;apply gu (Below w1) (λW=>aq3 gY 1) (λ_ _ _ h1 h2=>h1.trans h2) (vN w1 12) (λ_ _ _ h=>h.1) (λ_ _=>iR _ _ _ _) (λ_ _=>True) (λ_=>trivial) (λ_ _ _ _ _ _ _=>trivial);(case lX=>intro u;simp only[bV,aq9,aP,ay,aA,aB,aT,aJ];rfl);(case hm=>kernel_rfl);(case hB=>kernel_rfl);(case hA=>kernel_rfl);case hap=>kernel_rfl
         repeat(first
            |(apply fM.is
              ·
                (intro u w' M am V
                 simp[fO,aC,gI,Is]at V
                 refine fC ?_ ?_
                 ·
                   first
                   |rfl
                 intro K Y
                 have U:=H.grow M;have ac:=U.below;have ai:=U.b0.cell;have ak:=U.b1.cell
                 go_wp2_with ((with_reducible refine(a9 _ ac).mono ?_);rintro e w3⟨⟨x,rfl,al,ap⟩,aa⟩)
                 try simp only[V]at Y
                 refine Y _ _ ?_ rfl
                 first |exact iR _ _ _ _))
            |(refine fM.one (pV w1 97 (#[.int .i64 0, .slice none 0 0, .int .i64 0, .int .i64 0] : Array Θ).size) ?_ ?_
              ·
                (intro u w' M am V
                 clear V
                 refine fC ?_ ?_
                 ·
                   first
                   |rfl
                 intro K Y
                 go_wp2_with fail
                 exact Y _ _ (kM M.size jm (by decide)) ⟨w',_,rfl,M.size,fK.new w' 97 (gD:Array Θ),rfl⟩))
            |(refine fM.one (JA (alO (#[.int .i64 0, .slice none 0 0, .int .i64 0, .int .i64 0] : Array Θ).size fd)) ?_ ?_
              ·
                (intro u w' M am V
                 simp[fO,aC,gI,Is]at V
                 refine fC ?_ ?_
                 ·
                   first
                   |rfl
                 intro K Y
                 have U:=H.grow M;have ac:=U.below;have ai:=U.b0.cell;have ak:=U.b1.cell
                 go_wp2_with ((with_reducible refine(a9 _ ac).mono ?_);rintro e w3⟨⟨x,rfl,al,ap⟩,aa⟩)
                 try simp only[V]at Y
                 exact Y _ _ (kM M.size aa (by decide)) ⟨_,rfl,by first |assumption,by first |assumption⟩))
            |(refine fM.one (JA (alO (#[.int .i64 0, .slice none 0 0, .int .i64 0, .int .i64 0] : Array Θ).size fd)) ?_ ?_
              ·
                (intro u w' M am V
                 simp[fO,aC,gI,Is]at V
                 obtain⟨x,hx,al,ap⟩:=V
                 refine fC ?_ ?_
                 ·
                   first
                   |rfl
                 intro K Y
                 go_wp2_with fail
                 try simp only[hx]at Y
                 exact Y _ _ (iR _ _ _ _) ⟨x,by first |rfl |exact hx,al,ap⟩))
            |(refine fM.one (JA (alP (#[.int .i64 0, .slice none 0 0, .int .i64 0, .int .i64 0] : Array Θ).size)) ?_ ?_
              ·
                (intro u w' M am V
                 simp[fO,aC,gI,Is]at V
                 obtain⟨x,hx,al,ap⟩:=V
                 refine fC ?_ ?_
                 ·
                   first
                   |rfl
                   |(simp[aF,ψ,hx];done)
                 intro K Y
                 go_wp2_with fail
                 try simp only[hx]at Y
                 exact Y _ _ (iR _ _ _ _) ⟨x,rfl,al,ap⟩))
            |(apply fM.is
              ·
                (intro u w' M am V
                 simp[fO,aC,gI,Is]at V
                 obtain⟨x,hx,al,ap⟩:=V
                 refine fC ?_ ?_
                 ·
                   first
                   |rfl
                   |(simp[aF,ψ,hx];done)
                 intro K Y
                 go_wp2_with fail
                 try simp only[hx]at Y
                 refine Y _ _ (iR _ _ _ _) rfl))
            |(refine fM.word AnyW ?_ ?_
              ·
                (intro u w' M am V
                 simp[fO,aC,gI,Is]at V
                 obtain⟨⟨g,cs,aM,hg,ag,aR⟩,hx⟩:=V
                 obtain⟨x,hx,al,ap⟩:alP (gD:Array Θ).size _:=by first |exact hx |exact hx.1
                 refine jF ?_ ?_
                 ·
                   first
                   |rfl
                   |(simp[aF,ψ];done)
                 intro K Y
                 have jL: ∀k,k≠g->(w'.setRow g x).heap[k]? =w'.heap[k]? :=λk M=>ζ w' g k _ M
                 exact η 97 _ _ rfl g x (by first | exact aM | (rw [← aM]; rfl)) (by first | exact hx | (rw [← hx]; rfl)) 97 cs ag (by rw [al]; kernel_rfl) (aR.trans al.symm) ap (Y υ _
                   ⟨jk gY hg _,λh=>absurd rfl h,λ_=> .inr ⟨g,_,cs,x,ag,ag.row _,al.trans aR.symm,by simp,jL⟩⟩
                   trivial))))
         refine fM.last (qh ?_) ?_;(.simp only[gQ];(repeat(refine⟨?_,?_⟩;.first|exact mM _|exact qH|exact Pj _|exact RY|exact pz (λi hf e=>hf _ rfl ⟨11,.data⟩ (by simp) rfl e.symm)));exact trivial);intro u w2 a7 _ V;simp only[gQ]at V;refine⟨rfl,?_⟩;intro K Y;have V4:=V 10 _ rfl;simp only[gI,Is]at V4;clear V;have af:=H.grow a7;simp only[V4];clear V4;cases fd with|false=>rw[Ξ (by simp)]at O;have Zv:=ah O;clear O;go_wp2_with fail;go_roundw;(case rel=>exact⟨k+1,by go_num,by omega,Zv,⟨af.below,λx hx=>af.blk x (by simp at hx;rcases hx with rfl |rfl <;> simp),by simp⟩⟩);case measure=>simp[intOf];omega|true=>have J:=N.out;rw[Υ rfl]at O;rw[O]at J;replace N:=ah J;clear J O;go_wp2_with fail;go_ret;exact⟨by simp[N.out],af.below⟩
        .have J:=N.out;rw[Υ h1]at O;rw[O]at J;replace N:=ah J;(have bO:(re != 0)=true:=by simpa using h1);clear J O h1;go_wp2_with(first|((with_reducible refine(a8 _ Z.below).mono ?_);rintro e w1⟨rfl,fU⟩;replace H:=Z.grow fU));go_ret;exact⟨by simp[N.out],H.below⟩
       ·(obtain rfl:k=m.n4:=by omega);(have an:tH t [] t.routes=0:=by rw[hap.out,dJ (by rw[h.e4];exact aW _),tH.eq_def]);have J:=N.out;rw[an]at J;replace N:=ah J;clear J an hap;go_wp2_with fail;go_ret;exact⟨by simp[N.out],H.below⟩
 |true=>rw[av]at az;rw[Υ av]at J;replace N:=ah J;clear J av;go_enter func36,ntmps36;go_wp2_with(first|((with_reducible refine(az _ H.below).mono ?_);rintro e w2⟨rfl,fU⟩;replace H:=H.grow fU;have uU:=H.b0.cell));go_ret;exact⟨by simp[N.out],H.below⟩
def Dy(s:Sp): ∀l,(zV s l).Perm (s::l)
 | []=> .refl _
 |x::l=>by
  rw[zV];split;.rfl
  .exact((Dy s l).cons x).trans (.swap s x l)
def wJ: ∀l:List Sp,(l.foldr zV []).Perm l
 | []=> .refl _
 |s::l=>by rw[List.foldr_cons];exact(Dy s _).trans ((wJ l).cons s)
def EH(H: ∀n∈t.edges,1<=n/\n<=1000000)(h:iW t e=true):0<=e/\1<=jS t e/\jS t e<=1000000:=by unfold iW at h;simp only[bM,decide_eq_true_eq]at h;unfold jS;simp_all
def vO (t:Tp) (path:List St):Int:=(path.map fun s=>jS t s.edge).sum
def qI(H: ∀n∈t.edges,1<=n/\n<=1000000): ∀path:List St,(∀s∈path,iW t s.edge=true)->0<=vO t path/\vO t path<=1000000*path.length
 | [],_=>by simp[vO]
 |s::l,h=>by have M:=qI H l λx J=>h x (List.mem_cons_of_mem _ J);have:=EH H (h s (by simp));unfold vO at M |-;grind
def NJ(H: ∀n∈t.edges,1<=n/\n<=1000000): ∀(path:List St) (a:Int),(∀s∈path,iW t s.edge=true)->0<=a->a+1000000*path.length<=1000000000->path.foldl (λn s=>wrap64 (n+jS t s.edge)) a=a+vO t path
 | [],a,_,_,_=>by simp[vO]
 |s::l,a,h,h0,hb=>by have M:=EH H (h s (by simp));rw[bK]at hb;rw[List.foldl_cons,show wrap64 (a+jS t s.edge)=a+jS t s.edge by unfold wrap64;omega,NJ H l _ (λx J=>h x (List.mem_cons_of_mem _ J)) (by omega) (by omega)];simp only[vO,List.map_cons,List.sum_cons];omega
def zY(h:ny t path=0):path.length<=40/\path≠ []/\(∀s∈path,iW t s.edge=true)/\Iw t path=true:=by unfold ny at h;grind
def JC(J: ∀n∈t.edges,1<=n/\n<=1000000)(h:ny t path=0):qc t path=vO t path:=by obtain⟨M,_,H,_⟩:=zY h;unfold qc arS;rw[Υ h,NJ J path 0 H (by omega) (by omega),Int.zero_add]
def jC(h:jr t=0): ∀n∈t.edges,1<=n/\n<=1000000:=by intro n hn;unfold jr at h;grind
def V5{m:Ma}(h:rX t m=true):jr t=0/\qA [] m.path=false/\0<=m.gap/\ ∃x,zC t m=some x/\qg m+m.gap<=x.1:=by unfold rX at h;grind
def Ym(t:Tp): ∀(l d:List Bl),wH t d l=0-> ∀b∈l,iW t b.edge=true/\0<=b.at_/\b.at_<=jS t b.edge
 | [],_,_=>by simp
 |x::l,d,h=>by
  rw[wH]at h;split at h;.simp at h
  .rename_i J;split at h;(.simp at h);.intro b H;rcases bJ.1 H with rfl |H;(.grind);.exact Ym t l _ h b H
def NK(h:jr t=0){id:Int}(H:oz t id=some b):iW t b.edge=true/\0<=b.at_/\b.at_<=jS t b.edge:=by
 have hm:b∈t.jW:=List.mem_of_find?_eq_some H;refine Ym t t.jW [] ?_ b hm;unfold jr at h;split at h;.simp at h
 .omega
def arW{m:Ma}(hc:jr t=0){x:Int × Int}(h:zC t m=some x):ny t m.path=0/\x.1+x.2=qc t m.path/\0<=x.2:=by
 unfold zC at h;split at h;.cases h
 .rename_i b H;obtain⟨J,M,N⟩:=NK hc H;grind
def Dz: ∀(l:List Sc) (last:Int),pU last l=true-> ∀s∈l,last<s.kL/\s.kL<=qg ⟨0,false,[],l,0⟩
 | [],_,_=>by simp
 | [x],last,h=>by rw[pU]at h;simp only[bM,decide_eq_true_eq]at h;intro s H;rw[dN.1 H];exact⟨h.1.1.1.1,by simp[qg]⟩
 |x::y::l,last,h=>by
  rw[pU]at h;simp only[bM,decide_eq_true_eq]at h;have J:=Dz (y::l) x.kL h.2;intro s H;have e:qg ⟨0,false,[],x::y::l,0⟩=qg ⟨0,false,[],y::l,0⟩:=by rfl
  rw[e];rcases bJ.1 H with rfl |H;.simp_all;omega
  grind
def Si: ∀(l:List Sc) (age n:Int),jB l age n=n\/ ∃s∈l,jB l age n=s.kL
 | [],_,_=> .inl rfl
 |s::l,age,n=>by
  rw[jB];split;.simp
  .rcases Si l age s.kL with h |⟨x,H,h⟩;(.grind);grind
def BM{m:Ma}(h:rX t m=true):pU 0 m.fP=true/\m.fP≠ []:=by unfold rX at h;grind
def JD{m:Ma}(h:rX t m=true)(age:Int):0<=jB m.fP age 0/\jB m.fP age 0<=qg m:=by
 obtain⟨H,M⟩:=BM h;have N:=Dz m.fP 0 H;rw[show qg m=qg ⟨0,false,[],m.fP,0⟩ from rfl];cases J:m.fP with
 |nil=>grind
 |cons a l=>
  rw[<-J];rcases Si m.fP age 0 with e |⟨s,hm,e⟩;.simp_all;omega
  grind
def EI{x:Tr}(h:jR t x=some n):0<=n/\wY t x=true/\x.held=true/\rX t x.ma=true:=by
 unfold jR at h;split at h
 .rename_i H;have hm:rX t x.ma=true:=by have:=H.1;unfold wY at this;rw[H.2]at this;simp only[bM,if_true]at this;exact this.2
  refine⟨?_,H.1,H.2,hm⟩;unfold qZ at h;grind
 grind
def uh (l:List Sp) (e x:Int):Prop:= ∃s∈l,s.edge=e/\s.lo<=x/\x<s.hi
def ahead (a b:Sp):Prop:=a.edge<b.edge\/a.edge=b.edge/\a.hi<b.lo
def kF(s:Sp)(l:List Sp)(e x:Int):uh (s::l) e x<->(s.edge=e/\s.lo<=x/\x<s.hi)\/uh l e x:=by simp[uh]
def Gf(e x:Int): ¬uh [] e x:=by simp[uh]
def Sj{m:List Sp}(H:(y::m).Pairwise ahead)(J: ∀s∈y::m,s.lo<s.hi)(h:uh (y::m) e x):y.edge<e\/y.edge=e/\y.lo<=x:=by
 rw[List.pairwise_cons]at H;obtain⟨s,hm,M,N,O⟩:=h;rcases bJ.1 hm with rfl |hm;.omega
 .have V:=J y (by simp);rcases H.1 s hm with h |⟨h,U⟩;.omega
  omega
def Sl{m:List Sp}(H:(y::m).Pairwise ahead): ¬uh (y::m) y.edge y.hi:=by
 rw[List.pairwise_cons]at H;rintro⟨s,hm,J,M,N⟩;rcases bJ.1 hm with rfl |hm;.omega
 .rcases H.1 s hm with h |⟨h,O⟩ <;> omega
def Sm{m:List Sp}(H:(y::m).Pairwise ahead)(e x:Int):uh m e x<->uh (y::m) e x/\ ¬(y.edge=e/\y.lo<=x/\x<y.hi):=by
 rw[kF];rw[List.pairwise_cons]at H;constructor;.intro h;refine⟨.inr h,?_⟩;rintro⟨J,M,N⟩;obtain⟨s,hm,O,U,V⟩:=h;rcases H.1 s hm with h |⟨h,Y⟩ <;> omega
 grind
def JE: ∀l m:List Sp,l.Pairwise ahead->m.Pairwise ahead->(∀s∈l,s.lo<s.hi)->(∀s∈m,s.lo<s.hi)->(∀e x,uh l e x<->uh m e x)->l=m
 | [],[],_,_,_,_,_=>rfl
 | [],y::m,_,_,_,hm,h=>by have H:=hm y (by simp);exact absurd ((h y.edge y.lo).2 ((kF _ _ _ _).2 (.inl ⟨rfl,Int.le_refl _,H⟩))) (Gf _ _)
 |y::l,[],_,_,hm,_,h=>by have H:=hm y (by simp);exact absurd ((h y.edge y.lo).1 ((kF _ _ _ _).2 (.inl ⟨rfl,Int.le_refl _,H⟩))) (Gf _ _)
 |x::l,y::m,pl,pm,hl,hm,h=>by
  have M:=hl x (by simp);have H:=hm y (by simp);have N:=Sj pm hm ((h x.edge x.lo).1 ((kF _ _ _ _).2 (.inl ⟨rfl,Int.le_refl _,M⟩)));have a2:=Sj pl hl ((h y.edge y.lo).2 ((kF _ _ _ _).2 (.inl ⟨rfl,Int.le_refl _,H⟩)));have e1:x.edge=y.edge:=by omega
  have e2:x.lo=y.lo:=by omega
  have e3:x.hi=y.hi:=by rcases Int.lt_trichotomy x.hi y.hi with g |g |g;(.exact absurd ((h x.edge x.hi).2 ((kF _ _ _ _).2 (.inl ⟨e1.symm,by omega,g⟩))) (Sl pl));(.exact g);.exact absurd ((h y.edge y.hi).1 ((kF _ _ _ _).2 (.inl ⟨e1,by omega,g⟩))) (Sl pm)
  have e:x=y:=by obtain⟨U,V,Y⟩:=x;obtain⟨Z,y2,y3⟩:=y;simp only at e1 e2 e3;rw[e1,e2,e3]
  subst e;rw[JE l m (List.pairwise_cons.1 pl).2 (List.pairwise_cons.1 pm).2 (λs J=>hl s (List.mem_cons_of_mem _ J)) (λs J=>hm s (List.mem_cons_of_mem _ J))];intro e O;rw[Sm pl,Sm pm,h]
def uj: ∀(l out:List Sp),out.Pairwise (λa b=>ahead b a)->(∀s∈out,s.lo<s.hi)->(∀s∈l,s.lo<s.hi)->l.Pairwise tZ->(∀o,out.head?=some o-> ∀s∈l,tZ o s)->(oI out l).Pairwise (λa b=>ahead b a)/\(∀s∈oI out l,s.lo<s.hi)/\ ∀e x,uh (oI out l) e x<->uh out e x\/uh l e x
 | [],out,hp,ho,_,_,_=>by rw[oI.eq_def];simp only;exact⟨hp,ho,λe x=>⟨.inl,λh=>h.elim id (λh=>absurd h (Gf _ _))⟩⟩
 |s::l,[],_,_,hl,hs,_=>by rw[List.pairwise_cons]at hs;have:=uj l [s] (by simp) (by grind) (λy H=>hl y (List.mem_cons_of_mem _ H)) hs.2 (by grind);rw[oI];refine⟨this.1,this.2.1,λe x=>?_⟩;rw[this.2.2 e x,kF,kF];grind
 |s::l,o::out,hp,ho,hl,hs,hk=>by
  rw[List.pairwise_cons]at hp hs;have M:=hk o rfl s (by simp);have V:=ho o (by simp);have Y:=hl s (by simp);rw[oI];by_cases hc:o.edge=s.edge/\s.lo<=o.hi;.rw[Υ hc];(have Z:o.lo<=s.lo:=by rcases M with h |h <;> omega);have:=uj l (⟨o.edge,o.lo,max o.hi s.hi⟩::out) ?_ ?_ (λy H=>hl y (List.mem_cons_of_mem _ H)) hs.2 ?_;(.refine⟨this.1,this.2.1,λe x=>?_⟩;rw[this.2.2 e x,kF,kF,kF];grind);(.refine List.pairwise_cons.2 ⟨λb J=>?_,hp.2⟩;rcases hp.1 b J with h |h;(.exact .inl h);.exact .inr h);(.grind);.intro o' N y H;simp at N;subst N;exact hk o rfl y (List.mem_cons_of_mem _ H)
  .rw[Ξ hc];(have O:ahead o s:=by rcases M with h |h;(.exact .inl h);.exact .inr ⟨h.1,by omega⟩);have:=uj l (s::o::out) ?_ ?_ (λy H=>hl y (List.mem_cons_of_mem _ H)) hs.2 ?_;(.refine⟨this.1,this.2.1,λe x=>?_⟩;rw[this.2.2 e x,kF,kF s l];grind);(.refine List.pairwise_cons.2 ⟨λb J=>?_,List.pairwise_cons.2 hp⟩;rcases bJ.1 J with rfl |J;(.exact O);.rcases hp.1 b J with h |⟨h,U⟩;(.rcases M with g |g;(.exact .inl (by omega));constructor<;>grind);.rcases M with g |g;(.exact .inl (by omega));.exact .inr ⟨by omega,by omega⟩);(.grind);grind
def Sr{a b:Sp}:aiQ a b=true<->tZ a b:=by unfold aiQ tZ;simp
def EJ(s:Sp): ∀l:List Sp,l.Pairwise tZ->(zV s l).Pairwise tZ
 | [],_=>by simp[zV]
 |x::l,h=>by
  rw[zV];have N:=List.pairwise_cons.1 h;split;.rename_i M;have J:=Sr.1 M;refine List.pairwise_cons.2 ⟨λy H=>?_,h⟩;rcases bJ.1 H with rfl |H;(.exact J);.have:=N.1 y H;unfold tZ at*;omega
  .rename_i M;(have J:tZ x s:=by have: ¬tZ s x:=λh=>M (Sr.2 h);unfold tZ at*;omega);refine List.pairwise_cons.2 ⟨λy H=>?_,EJ s l N.2⟩;rcases bJ.1 ((Dy s l).mem_iff.1 H) with rfl |H;(.exact J);grind
def CV: ∀l:List Sp,(l.foldr zV []).Pairwise tZ
 | []=> .nil
 |s::l=>by rw[List.foldr_cons];exact EJ s _ (CV l)
def afF{s:Sp}(h:lG s=true):s.lo<s.hi:=by unfold lG at h;grind
def DC{l m:List Sp}(h:l.Perm m)(e x:Int):uh l e x<->uh m e x:=by unfold uh;grind
def abZ{l d:List Sp}(J:d.Perm (l.filter lG))(U:d.Pairwise tZ):(oI [] d).reverse=qY l:=by unfold qY;have H: ∀s∈l.filter lG,s.lo<s.hi:=λs h=>afF (List.mem_filter.1 h).2;have M:=wJ (l.filter lG);have N: ∀s∈d,s.lo<s.hi:=λs h=>H s (J.mem_iff.1 h);have O: ∀s∈(l.filter lG).foldr zV [],s.lo<s.hi:=λs h=>H s (M.mem_iff.1 h);have a:=uj d [] .nil (by simp) N U (by simp);have b:=uj ((l.filter lG).foldr zV []) [] .nil (by simp) O (CV _) (by simp);refine JE _ _ (List.pairwise_reverse.2 a.1) (List.pairwise_reverse.2 b.1) (λs h=>a.2.1 s (List.mem_reverse.1 h)) (λs h=>b.2.1 s (List.mem_reverse.1 h)) λe x=>?_;rw[DC (List.reverse_perm _),DC (List.reverse_perm _),a.2.2,b.2.2,DC (J.trans M.symm)]
abbrev Vt (p:Ps):Θ:=.agg #[.int .i64 p.edge,.int .i64 p.at_,.bool p.rev]
def wK{p:Ps}(h:pO t p=true):jr t=0/\iW t p.edge=true/\0<=p.at_/\p.at_<=jS t p.edge:=by unfold pO at h;simp only[bM,decide_eq_true_eq]at h;exact⟨h.1.1.1,h.1.1.2,h.1.2,h.2⟩
def rD{w:ω}{t:Tp}{m:jl}(h:jE w t m){e:Int}(O:iW t e=true): ∃(i:Nat) (v:Int) (g off:Nat),e=(i:Int)/\i<m.n1/\jS t e=v/\m.A1=some ⟨g,off,none⟩/\(∀W,w W->W.cell? ⟨g,off+i,none⟩=some v)/\v∈t.edges:=by obtain⟨i,rfl,H,Y⟩:=BL O;obtain⟨M,J,V,U,c0⟩:=h.lies.edges.int H;refine⟨i,_,M,J,rfl,by rw[<-h.e1];exact H,Y,V,λW N=>(N.cell (p:=⟨M,J+i,none⟩) U).trans c0,?_⟩;rw[getElem!_pos t.edges i H];exact List.getElem_mem H
def Pm(h:jE w t m)(p:Ps):Γ aj 47 #[m.cells,Vt p] w λe w'=>e=.returned (.bool (pO t p))/\w w':=by
 have M:Own w _ [_,_]:=Own.iY w 27 38 m.cells #[p.edge,p.at_,p.rev];have af:=M.b0.cell;have al:=M.b1.cell;have aa:=λW (hW:w W)=>yK (h.below hW);have H:pO t p=(decide (jr t=0)&&iW t p.edge&&decide (0<=p.at_)&&decide (p.at_<=jS t p.edge)):=rfl;have J:iW t p.edge=(decide (0<=p.edge)&&decide (p.edge<t.edges.length)):=rfl;rw[h.e1]at J;have Sv:= @rD w t m h p.edge;obtain⟨N,Y,pr⟩:=p;simp only at H J Sv M af al;generalize pO t ⟨N,Y,pr⟩=Z at*;generalize iW t N=th at*;by_cases O:jr t=0;focus(rw[O]at aa;by_cases h2:0<=N;(focus((have f2:decide (0<=N)=true:=by simpa using h2);by_cases h3:N<m.n1;(focus((have f3:decide (N<(m.n1:Int))=true:=by simpa using h3);rw[f2,f3]at J;subst J;obtain⟨i,ev,g,off,rfl,an,am,ag,ap,_⟩:=Sv rfl;rw[am,O]at H;simp only[jl.cells,ag]at aa af M |-;by_cases h4:0<=Y;(·(have f4:decide (0<=Y)=true:=by simpa using h4);by_cases h5:Y<=ev;(focus((have f5:decide (Y<=ev)=true:=by simpa using h5);obtain rfl:Z=true:=by rw[H,f4,f5];rfl));rotate_left;(focus((have f5:decide (Y<=ev)=false:=by simpa using h5);obtain rfl:Z=false:=by rw[H,f4,f5];rfl));all_goals(clear H;go_enter func47,ntmps47;go_wp2_with fail;refine ara (by kernel_rfl) ?_;(repeat(first|(apply gX.want rfl;(.intro w' V K Q' hK;have U:=M.grow V;have ac:=U.below;have ai:=U.b0.cell;have ak:=U.b1.cell;go_wp2_with((with_reducible refine(aa _ ac).mono ?_);rintro e w3⟨rfl,ae⟩);first|exact aH _ _|exact ae);(.simp only[aP,ay,aA,aB];rfl))));refine gX.nil ?_;intro w' V;have ad:=(M.grow V).below;go_wp2_with fail;go_ret;exact⟨by simp,ad⟩));focus((have f4:decide (0<=Y)=false:=by simpa using h4);(obtain rfl:Z=false:=by rw[H,f4];rfl);clear H)));rotate_left;focus((have f3:decide (N<(m.n1:Int))=false:=by simpa using h3);(obtain rfl:Z=false:=by rw[H,J,f3];simp);clear H J Sv O;unfold jl.cells at*)));rotate_left 2;focus((have f2:decide (0<=N)=false:=by simpa using h2);(obtain rfl:Z=false:=by rw[H,J,f2];simp);clear H J Sv O;unfold jl.cells at*))
 rotate_left 3;focus((obtain rfl:Z=false:=by rw[H,decide_eq_false O];rfl);generalize jr t=ck at*;(have f1:(ck==0)=false:=by simpa using O);clear H J Sv O;unfold jl.cells at*)
 all_goals(go_enter func47,ntmps47;go_wp2_with fail;refine ara (by kernel_rfl) ?_;(repeat(first|(apply gX.want rfl;(.intro w' V K Q' hK;have U:=M.grow V;have ac:=U.below;have ai:=U.b0.cell;have ak:=U.b1.cell;go_wp2_with((with_reducible refine(aa _ ac).mono ?_);rintro e w3⟨rfl,ae⟩);first|exact aH _ _|exact ae);(.simp only[aP,ay,aA,aB];rfl))|(apply gX.skip rfl;.simp only[aP,ay,aA,aB];rfl)));refine gX.nil ?_;intro w' V;have ad:=(M.grow V).below;go_wp2_with fail;go_ret;exact⟨by simp,ad⟩)
def Yn(h:jE w t m)(p:Ps)(hp:pO t p=true):Γ aj 123 #[m.cells,Vt p] w λe w'=>e=.returned (pR t p:Int)/\w w':=by
 have H:Own w _ [_,_]:=Own.iY w 27 38 m.cells #[p.edge,p.at_,p.rev];have Y:=H.b0.cell;have ad:=H.b1.cell;obtain⟨hc,af,h0,V⟩:=wK hp;obtain⟨i,J,g,off,hi,al,Z,aa,am,ae⟩:=rD h af;have an:=jC hc J ae;have O:pR t p=if p.rev then J-p.at_ else p.at_:=by unfold pR;rw[Z]
 rw[Z]at V;obtain⟨pe,U,pr⟩:=p;simp only at hi h0 V O H Y ad;subst hi;generalize pR t ⟨i,U,pr⟩=rr at*;simp only[jl.cells,aa]at Y H |-;cases pr with
 |false=>obtain rfl:rr=U:=O;go_enter func123,ntmps123;go_wp2_with fail;go_ret;exact⟨rfl,H.below⟩
 |true=>
  obtain rfl:rr=J-U:=O;go_enter func123,ntmps123;go_wp2_with fail;refine ara (by kernel_rfl) ?_;repeat(first|(apply gX.want rfl;(.intro w' N K Q' hK;have M:=H.grow N;have ag:=M.below;have ai:=M.b0.cell;have ak:=M.b1.cell;go_wp2_with(fail);first|exact aH _ _);(.simp only[aP,ay,aA,aB];rfl)))
  refine gX.nil ?_;intro w' N;have ac:=(H.grow N).below;go_wp2_with fail;go_ret;exact⟨rfl,ac⟩
def vP(a b:St)(W:ω):(γ .eql 58 (qB a) (qB b)).run aj W=.ok (.bool (decide (a=b))) W:=by
 have u3:=bG;have a3:=isAgg3;have z3:=sizeOf3;have u4:=dL;have a4:=isAgg4;have z4:=sizeOf4;have N:aj.underlying 58=some (.struct (aj.fieldsOf 58)):=by kernel_rfl
 have O:aj.stoodInHeld 58=false:=by kernel_rfl
 rw[ϑ,show(10000:Nat)=9999+1 from rfl];have H:=ϐ (P:=aj) W 9999 58 #[a.edge,a.rev] #[b.edge,b.rev] N O;simp only[Program.fieldsOf,underlying58]at H;rw[H];go_simp;obtain⟨U,V⟩:=a;obtain⟨Y,Z⟩:=b;by_cases J:U=Y <;> by_cases M:V=Z <;> simp[J,M]
def JF(a b:St)(W:ω):(γ .neq 58 (qB a) (qB b)).run aj W=.ok (.bool (!decide (a=b))) W:=by
 have h:=vP a b W;simp only[γ,Op.equal]at h |-;simp at h |-;cases H:(Op.equalIn Op.maxDepth 58 (qB a) (qB b)).run aj W with
 |ok v W'=>rw[H]at h;simp at h;obtain⟨J,M⟩:=h;subst M;simp[J]
 |halt e W'=>rw[H]at h;simp at h
structure DF where
  A1:Option δ
  n1:Nat
  c1:Nat
  A2:Option δ
  n2:Nat
  c2:Nat
def nO (m:Ma) (v:DF):Array Θ:= #[.int .i64 m.ref,.bool m.rev,.slice v.A1 v.n1 v.c1,.slice v.A2 v.n2 v.c2,.int .i64 m.gap]
structure EK (w:ω) (m:Ma) (v:DF):Prop where
  path:fE gV w v.A1 m.path
  fP:fE kW w v.A2 m.fP
  e1:m.path.length=v.n1
  e2:m.fP.length=v.n2
  l1:v.n1<=100
  l2:v.n2<=100
  q1:v.n1<=v.c1
  q2:v.n2<=v.c2
def EK.below{m:Ma}{v:DF}(h:EK w m v)(H:w w'):EK w' m v:={h with path:=h.path.below H,fP:=h.fP.below H}
def Sz: ∀args w,(ϕ 185 args).run aj w=.ok (.enter 185 args) w:=enters_of func185 (by kernel_rfl) (by rfl)
def afG(x:St)(e:Int)(g:Nat)(w:ω)(hA:w.cell? ⟨g,0,none⟩=some e)(M:g<w.heap.size):Γ aj 185 #[.agg (gV.enc x).toArray,.pointer g] w λr w'=>r=.returned (.bool (decide (x.edge=e)))/\w w':=by obtain⟨J,N⟩:=x;simp only[gV];have H:Own w _ [_]:=(Own.nil w).alloc 58 #[J,N] _ rfl;have U:=H.b0.cell;have O:=(H.below.cell (p:=⟨g,0,none⟩) M).trans hA;go_enter func185,ntmps185;go_wp2_with fail;go_ret;refine⟨?_,H.below⟩;by_cases h:J=e <;> simp[h]
def SA(A:Option δ)(n c:Nat)(p:List St)(e:Int)(w:ω)(U:fE gV w A p)(hn:p.length=n)(V:n<=100):Γ aj 134 #[.slice A n c,e] w λr w'=>r=.returned (.bool (xG p e))/\w w':=by have H:Own w _ [_]:=(Own.nil w).alloc 3 #[e] _ rfl;have O:=H.b0.cell;have M:=Yj 185 Sz #[.pointer w] (λx=>decide (x.edge=e)) A n c p _ (λW' x J=>(afG x e w W' ((J.cell (p:=⟨w,0,none⟩) H.b0.lt).trans (O 0)) (aU H.b0.lt J.size)).mono λ_ _ h=>⟨h.1,gZ J h.2⟩) (U.below H.below) hn (by omega);unfold xG;go_enter func134,ntmps134;go_wp2_with(first|((with_reducible refine M.mono ?_);rintro e Y⟨rfl,N⟩;replace H:=H.grow N));go_ret;exact⟨rfl,H.below⟩
def V6{s:St}(h:p[k]? =some s):qA (p.take k) (p.drop k)=(xG (p.take k) s.edge || qA (p.take (k+1)) (p.drop (k+1))):=by rw[ark h,take_snoc' h,qA]
def Yo(A:Option δ)(n c:Nat)(p:List St)(w:ω)(hp:fE gV w A p)(hn:p.length=n)(hl:n<=100)(hc:n<=c):Γ aj 81 #[.slice A n c] w λr w'=>r=.returned (.bool (qA [] p))/\w w':=by
 have U:=ah hn;go_enter func81,ntmps81;go_wp2;go_loopw [7] (λi wr=> ∃k:Nat,i=.int .i64 k/\k<=n/\Hid (qA [] p=qA (p.take k) (p.drop k))/\w wr) (λi _=>n-(intOf i).toNat);case atStart=>exact⟨0,rfl,aV _,ah (by simp),aH _ _⟩
 case round=>
  obtain⟨k,rfl,H,hap,hB⟩:=hrel;by_cases ad:k<n;.obtain⟨s,hs⟩:=aq5 U.out ad;obtain⟨g,off,rfl,hg,a0,a1⟩:=hp.st hs;have Cm:=(hB.cell (p:=⟨g,off+k*2,none⟩) hg).trans a0;have CB:=(hB.cell (p:=⟨g,off+k*2+1,none⟩) hg).trans a1;have N:=V6 hs;rw[<-hap.out]at N;have aa:=λW (hW:w W)=>SA (some ⟨g,off,none⟩) k c (p.take k) s.edge W ((hp.part k).below hW) (by rw[dX,U.out];omega) (by omega);obtain⟨x1,x2⟩:=s;simp only at Cm CB aa N;have O:Own wr _ [_]:=(Own.nil wr).alloc 58 #[x1,x2] _ rfl;generalize xG (p.take k) x1=ov at*;go_wp2;cases ov with|false=>rw[Bool.false_or]at N;have M:=ah N;refine ara (by kernel_rfl) ?_;(repeat(first|(apply gX.want rfl;(.intro w' H K Q' hK;have J:=O.grow H;have V:=gZ hB J.below;have ac:=J.b0.cell;go_wp2_with((with_reducible refine(aa _ V).mono ?_);rintro e w3⟨rfl,Z⟩);first|exact aH _ _|exact Z);(.simp only[aP,ay,aA,aB];rfl))));refine gX.nil ?_;intro w' H;have Y:=gZ hB (O.grow H).below;go_wp2_with fail;go_roundw;(case rel=>exact⟨k+1,by go_num,by omega,M,Y⟩);case measure=>simp[intOf];omega|true=>have M:=ah N;refine ara (by kernel_rfl) ?_;(repeat(first|(apply gX.want rfl;(.intro w' H K Q' hK;have J:=O.grow H;have V:=gZ hB J.below;have ac:=J.b0.cell;go_wp2_with((with_reducible refine(aa _ V).mono ?_);rintro e w3⟨rfl,Z⟩);first|exact aH _ _|exact Z);(.simp only[aP,ay,aA,aB];rfl))));refine gX.nil ?_;intro w' H;have Y:=gZ hB (O.grow H).below;go_wp2_with fail;go_ret;exact⟨by simp[M.out],Y⟩
  ·(obtain rfl:k=n:=by omega);(have M:qA [] p=false:=by rw[hap.out,dJ (by rw[U.out];exact aW _)];rfl);have Zv:=ah M;go_wp2_with fail;go_ret;exact⟨by simp[Zv.out],hB⟩
def V7{s:Sc}{age:Int}(h:l[k]? =some s):jB (l.drop k) age n=if s.timer<=age then n else jB (l.drop (k+1)) age s.kL:=by rw[ark h,jB]
def I5(m:Ma)(v:DF)(age:Int)(w:ω)(h:EK w m v):Γ aj 40 #[nO m v,age] w λr w'=>r=.returned (jB m.fP age 0:Int)/\w w':=by
 have O:Own w _ [_]:=(Own.nil w).alloc 42 (nO m v) _ rfl;have ae:=O.b0.cell;have ag:=h.l2;unfold nO at*;go_enter func40,ntmps40;go_wp2;go_loopw [5,11] (λs i wr=> ∃(k:Nat) (x:Int),i=.int .i64 k/\k<=v.n2/\s=.int .i64 x/\Hid (jB m.fP age 0=jB (m.fP.drop k) age x)/\w wr) (λ_ i _=>v.n2-(intOf i).toNat);case atStart=>exact⟨0,0,rfl,aV _,rfl,ah (by simp),O.below⟩
 case round=>
  obtain⟨k,x,rfl,hk,rfl,hap,hB⟩:=hrel;by_cases ad:k<v.n2;.obtain⟨s,V⟩:=aq5 h.e2 ad;obtain⟨g,off,aa,U,a0,a1⟩:=h.fP.sc V;have Cm:=(hB.cell (p:=⟨g,off+k*2,none⟩) U).trans a0;have CB:=(hB.cell (p:=⟨g,off+k*2+1,none⟩) U).trans a1;have H:=V7 (age:=age) (n:=x) V;rw[<-hap.out]at H;obtain⟨Y,Z⟩:=s;simp only at Cm CB H;have M:Own wr _ [_]:=(Own.nil wr).alloc 60 #[Y,Z] _ rfl;have af:=M.b0.cell;simp only[aa];by_cases N:Z<=age;(.rw[Υ N]at H;have J:=ah H;go_wp2_with fail;go_ret;exact⟨by simp[J.out],gZ hB M.below⟩);.rw[Ξ N]at H;have J:=ah H;go_wp2_with fail;go_roundw;(case rel=>exact⟨k+1,Y,by go_num,by omega,rfl,J,gZ hB M.below⟩);case measure=>simp[intOf];omega
  ·(obtain rfl:k=v.n2:=by omega);(have ac:jB m.fP age 0=x:=by rw[hap.out,dJ (by rw[h.e2];exact aW _)];rfl);have Zv:=ah ac;go_wp2_with fail;go_ret;exact⟨by simp[Zv.out],hB⟩
def ab1(h:jE w t m)(s:St)(n:Int)(hc:jr t=0)(hs:iW t s.edge=true)(h0:0<=n)(h1:n<=4398046511104):Γ aj 122 #[m.cells,qB s,n] w λe w'=>e=.returned (Vt (Hu t s n))/\w w':=by
 have H:Own w _ [_,_,_]:=Own.start3 w 27 58 38 m.cells #[s.edge,s.rev] gA;have N:=H.b0.cell;have V:=H.b1.cell;obtain⟨i,M,g,off,hi,ac,Z,U,aa,Y⟩:=rD h hs;have ad:=jC hc M Y;have hr:Hu t s n=⟨s.edge,if s.rev then M-n else n,s.rev⟩:=by unfold Hu;rw[Z]
 rw[hr];obtain⟨pe,pr⟩:=s;simp only at hi H N V |-;subst hi;simp only[jl.cells,U]at N H |-;have ae:=aa _ H.below;rcases pr with _ |_;focus(go_enter func122,ntmps122;go_wp2_with(first|fail|((with_reducible refine jv (#[i,n,false]) H rfl _ _ rfl rfl rfl (by kernel_rfl) rfl ?_ ?_);(.first|(simp[aK];done));intro O J iG jQ;replace H:=J;clear J)))
 rotate_left;focus(go_enter func122,ntmps122;go_wp2_with(first|fail|((with_reducible refine jv (#[i,(M-n:Int),true]) H rfl _ _ rfl rfl rfl (by kernel_rfl) rfl ?_ ?_);(.first|(simp[aK];done));intro O J iG jQ;replace H:=J;clear J)))
 all_goals(exact β (nC results122 _ _ _ _ _ rfl H.b2 underlying38 rfl (by rfl)) rfl ⟨rfl,H.below⟩)
def V8{x:St}{s:St}(h:p[k]? =some s):uJ t x (p.drop k) n=if s=x then some n else uJ t x (p.drop (k+1)) (n+jS t s.edge):=by rw[ark h,uJ]
def aiX(h:jE w t m)(A:Option δ)(n c:Nat)(path:List St)(p:Ps)(hp:fE gV w A path)(hn:path.length=n)(hl:n<=100):Γ aj 68 #[m.cells,.slice A n c,Vt p] w λe w'=>e=.returned (.tuple #[.int .i64 (F5 t path p).1,.int .i64 (F5 t path p).2])/\w w':=by
 have H:Own w _ [_,_]:=Own.iY w 27 38 m.cells #[p.edge,p.at_,p.rev];have ae:=H.b0.cell;have af:=H.b1.cell;have U:=λW (V:w W)=>Pm (h.below V) p;have ac:=λW (V:w W)=>RQ (h.below V) A n c path (hp.below V) hn hl;have aa:=λW (V:w W)=>Yn (h.below V) p;have N:F5 t path p=if pO t p=false then(0,1) else if ny t path≠0 then(0,ny t path) else match uJ t ⟨p.edge,p.rev⟩ path 0 with|none=>(0,4)|some n=>(n+pR t p,0):=rfl
 have HN:=ah hn;generalize a7:F5 t path p=on at*;by_cases h1:pO t p=true
 .rw[Ξ (by grind)]at N;have aL:0<=pR t p/\pR t p<=1000000:=by obtain⟨r1,r2,r3,r4⟩:=wK h1;obtain⟨i,ev,_,_,_,_,ak,_,_,ai⟩:=rD h r2;have az:=jC r1 ev ai;rw[ak]at r4;unfold pR;omega
  have au:=(wK h1).1;rw[h1]at U;replace aa:=λW (V:w W)=>aa W V h1;generalize pR t p=aE at*;generalize qc t path=lt at*;by_cases h2:ny t path=0;.rw[Ξ (by omega)]at N;have aD:=zY h2;rw[h2]at ac;have M:=ah N;clear N;obtain⟨O,pa,pr⟩:=p;simp only[jl.cells]at H ae af U ac aa |-;go_enter func68,ntmps68;go_wp2_with(first|((with_reducible refine(U _ H.below).mono ?_);rintro e fU⟨rfl,J⟩;replace H:=H.grow J;have uU:=H.b0.cell;have an:=H.b1.cell)|((with_reducible refine(ac _ H.below).mono ?_);rintro e fU⟨rfl,J⟩;replace H:=H.grow J;have av:=H.b1.cell));clear ae af uU an av U ac;go_loopw [10,28] (λa i wr=> ∃(k:Nat) (x:Int),i=.int .i64 k/\k<=n/\a=.int .i64 x/\0<=x/\x<=1000000*k/\Hid (uJ t ⟨O,pr⟩ path 0=uJ t ⟨O,pr⟩ (path.drop k) x)/\Own w wr [(w,27,#[.slice m.A1 m.n1 m.c1,.slice m.A2 m.n2 m.c2,.slice m.A3 m.n3 m.c3,.slice m.A4 m.n4 m.c4]),(w.heap.size+1,38,#[O,pa,pr])]) (λ_ i _=>n-(intOf i).toNat);(case atStart=>exact⟨0,0,rfl,aV _,rfl,by omega,by omega,ah (by simp),H⟩);case round=>clear H;obtain⟨k,x,rfl,hk,rfl,a8,a9,hap,H⟩:=hrel;have ae:=H.b0.cell;have af:=H.b1.cell;by_cases ax:k<n;(.obtain⟨s,hs⟩:=aq5 HN.out ax;obtain⟨g,off,rfl,hg,a0,a1⟩:=hp.st hs;have Cm:=(H.below.cell (p:=⟨g,off+k*2,none⟩) hg).trans a0;have CB:=(H.below.cell (p:=⟨g,off+k*2+1,none⟩) hg).trans a1;have aq:=aD.2.2.1 s (bP hs);obtain⟨i,ev,ge,CG,hi,a5,ak,ar,aw,ai⟩:=rD h aq;have az:=jC au ev ai;have ad:=V8 (t:=t) (x:=⟨O,pr⟩) (n:=x) hs;rw[<-hap.out,ak]at ad;have ap:=vP s ⟨O,pr⟩;obtain⟨x1,x2⟩:=s;simp only at hi Cm CB ap;subst hi;simp only[ar]at H ae aa |-;have Y:=Own.new2 H 58 #[i,x2];have aM:=Y.b0.cell;have aR:=Y.b1.cell;have a4:=Y.b2.cell;have ba:=aw _ Y.below;clear hs a0 a1 aq ak ai;obtain⟨sm,ag⟩:=fD (decide ((⟨i,x2⟩:St)=⟨O,pr⟩));rw[<-ag]at ap;cases sm with|false=>rw[Ξ (by simpa using ag.symm)]at ad;have HS:=ah ad;clear ad hap ag;go_wp2_with fail;go_roundw;(case rel=>exact⟨k+1,x+ev,by go_num,by omega,rfl,by omega,by omega,HS,⟨Y.below,λx hx=>Y.blk x (by simp at hx;rcases hx with rfl |rfl <;> simp),by simp⟩⟩);case measure=>simp[intOf];omega|true=>rw[Υ (by simpa using ag.symm)]at ad;have Z:=M.out;rw[ad]at Z;replace M:=ah Z;clear Z ad hap ag;go_wp2_with(first|((with_reducible refine(aa _ Y.below).mono ?_);rintro e fU⟨rfl,J⟩;replace H:=Y.grow J));go_ret2;exact⟨by simp[M.out],H.below⟩);·(obtain rfl:k=n:=by omega);(have am:uJ t ⟨O,pr⟩ path 0=none:=by rw[hap.out,dJ (by rw[HN.out];omega)];rfl);have Z:=M.out;rw[am]at Z;replace M:=ah Z;clear Z am hap;go_wp2_with fail;go_ret2;exact⟨by simp[M.out],H.below⟩
  .rw[Υ h2]at N;have M:=ah N;generalize ny t path=le at*;(have a6:(le != 0)=true:=by grind);clear N h2 h1 aa;obtain⟨O,pa,pr⟩:=p;simp only[jl.cells]at H ae af U ac |-;go_enter func68,ntmps68;go_wp2_with(first|((with_reducible refine(U _ H.below).mono ?_);rintro e fU⟨rfl,J⟩;replace H:=H.grow J;have uU:=H.b0.cell;have an:=H.b1.cell)|((with_reducible refine(ac _ H.below).mono ?_);rintro e fU⟨rfl,J⟩;replace H:=H.grow J));go_ret2;exact⟨by simp[M.out],H.below⟩
 .rw[Υ (by grind)]at N;have al:pO t p=false:=by grind
  rw[al]at U;have M:=ah N;clear N h1 al aa ac;obtain⟨O,pa,pr⟩:=p;simp only[jl.cells]at H ae af U |-;go_enter func68,ntmps68;go_wp2_with(first|((with_reducible refine(U _ H.below).mono ?_);rintro e fU⟨rfl,J⟩;replace H:=H.grow J));go_ret2;exact⟨by simp[M.out],H.below⟩
def arH (o:Option (Int × Int)):Θ:=match o with
 |none=> .tuple gA
 |some x=> .tuple #[.int .i64 x.1,.int .i64 x.2,.bool true]
def ab2{α:Type}{l:List α}{x:α}(h:l[0]? =some x):l.head?=some x:=by cases l with|nil=>simp at h|cons y l=>simpa using h
def ab3(h:jE w t m)(ma:Ma)(v:DF)(hm:EK w ma v)(hc:jr t=0):Γ aj 42 #[m.cells,nO ma v] w λe w'=>e=.returned (arH (zC t ma))/\w w':=by
 have H:Own w _ [_,_]:=Own.iY w 27 42 m.cells (nO ma v);have aq:=H.b0.cell;have ar:=H.b1.cell;have O:=λW (Z:w W)=>Hw (h.below Z) ma.ref;have aa:=λW (Z:w W)=>RQ (h.below Z) v.A1 v.n1 v.c1 ma.path (hm.path.below Z) hm.e1 hm.l1;have U:zC t ma=match oz t ma.ref with|none=>none|some b=>if ma.path.head?≠some ⟨b.edge,ma.rev⟩\/ny t ma.path≠0 then none else(let behind:=if ma.rev then jS t b.edge-b.at_ else b.at_;some (qc t ma.path-behind,behind)):=rfl
 generalize zC t ma=lp at*;unfold nO at*;rcases hb:oz t ma.ref with _ |b;focus(rw[hb]at U O;simp only[Option.getD_none,Option.isSome_none]at O;obtain rfl:lp=none:=U;clear hb aa;unfold jl.cells arH at*;go_enter func42,ntmps42;go_wp2_with(first|((with_reducible refine(O _ H.below).mono ?_);rintro e Y⟨rfl,N⟩;replace H:=H.grow N));replace H:=Own.new2 H 114 gC)
 rotate_left;focus(rw[hb]at U O;simp only[eG,Option.isSome_some]at O U;obtain⟨ax,aD,ap⟩:=NK hc hb;obtain⟨i,ev,ge,CG,hi,aM,aw,az,aR,av⟩:=rD h ax;have a4:=jC hc ev av;rw[aw]at U ap;(have ac:ny t ma.path=0->0<=qc t ma.path/\qc t ma.path<=100000000:=by intro h0;have aE:=zY h0;have:=qI (jC hc) ma.path aE.2.2.1;rw[JC (jC hc) h0];omega);obtain⟨b1,b2,b3⟩:=b;simp only at hi U aD ap O;subst hi;clear hb ax aw av;simp only[jl.cells,az]at H aq O aa |-;rcases zD:ma.path with _ |⟨s0,rest⟩;(focus((obtain rfl:lp=none:=by rw[U,Υ (.inl (by rw[zD];simp))]);(have hz:v.n1=0:=by rw[<-hm.e1,zD];rfl);(have e1:((v.n1:Int)==0)=true:=by simp[hz]);clear U ac aa hz zD;unfold arH;go_enter func42,ntmps42;go_wp2_with(first|((with_reducible refine(O _ H.below).mono ?_);rintro e Y⟨rfl,N⟩;replace H:=H.grow N));replace H:=Own.new2 H 114 #[b1,i,b3]));rotate_left;·(have hs:ma.path[0]? =some s0:=by rw[zD];rfl);(have a6:0<v.n1:=by rw[<-hm.e1,zD];simp);obtain⟨g,off,hA,hg,a0,a1⟩:=hm.path.st hs;have Rh:=λW (Z:w W)=>(Z.cell (p:=⟨g,off+0*2,none⟩) hg).trans a0;have aL:=λW (Z:w W)=>(Z.cell (p:=⟨g,off+0*2+1,none⟩) hg).trans a1;(have e1:((v.n1:Int)==0)=false:=by simp;omega);have am:=λW=>JF s0 ⟨i,ma.rev⟩ W;obtain⟨sm,an⟩:=fD (decide (s0=(⟨i,ma.rev⟩:St)));(have V:lp=if sm=false\/ny t ma.path≠0 then none else some (qc t ma.path-(if ma.rev then ev-b3 else b3),if ma.rev then ev-b3 else b3):=by rw[U,ab2 hs,an];simp);rw[<-an]at am;clear U an hs zD a0 a1;generalize qc t ma.path=lt at*;generalize ny t ma.path=le at*;obtain⟨x1,x2⟩:=s0;simp only[Nat.zero_mul,bI,hA]at H aq ar am aa Rh aL |-;rcases sm with _ |_;(focus((obtain rfl:lp=none:=by rw[V,Υ (.inl rfl)]);clear V aa ac;unfold arH;go_enter func42,ntmps42;go_wp2_with(first|((with_reducible refine(O _ H.below).mono ?_);rintro e Y⟨rfl,N⟩;replace H:=H.grow N));replace H:=Own.new2 H 114 #[b1,i,b3]));rotate_left;(focus(by_cases ad:le=0;(focus(obtain⟨l0,l1⟩:=ac ad;subst ad;rw[Ξ (by simp)]at V;obtain⟨rv,ak⟩:=fD ma.rev;rw[<-ak]at V;simp only[<-ak]at H ar am |-;rcases rv with _ |_;(·(obtain rfl:lp=some (lt-b3,b3):=by rw[V];simp);clear V ac ak;unfold arH;go_enter func42,ntmps42;go_wp2_with(first|((with_reducible refine(O _ H.below).mono ?_);rintro e Y⟨rfl,N⟩;replace H:=H.grow N));replace H:=Own.new2 H 114 #[b1,i,b3];refine ara (by kernel_rfl) ?_;(repeat(first|(apply gX.want rfl;(.intro w' M K Q' hK;have J:=H.grow M;have ae:=J.below;have af:=J.b0.cell;have ag:=J.b1.cell;have ai:=J.b2.cell;go_wp2_with(fail);first|exact aH _ _);(.simp only[aP,ay,aA,aB];rfl))));refine gX.nil ?_;intro w' M;replace H:=H.grow M;have EF:=H.b0.cell;have au:=H.b1.cell;go_wp2_with(first|((with_reducible refine(aa _ H.below).mono ?_);rintro e Y⟨rfl,N⟩;replace H:=H.grow N;have iG:=H.b1.cell;have jQ:=H.b2.cell));go_ret3;exact⟨rfl,H.below⟩);focus((obtain rfl:lp=some (lt-(ev-b3),ev-b3):=by rw[V];simp);clear V ac ak;unfold arH;go_enter func42,ntmps42;go_wp2_with(first|((with_reducible refine(O _ H.below).mono ?_);rintro e Y⟨rfl,N⟩;replace H:=H.grow N));replace H:=Own.new2 H 114 #[b1,i,b3];refine ara (by kernel_rfl) ?_;(repeat(first|(apply gX.want rfl;(.intro w' M K Q' hK;have J:=H.grow M;have ae:=J.below;have af:=J.b0.cell;have ag:=J.b1.cell;have ai:=J.b2.cell;go_wp2_with(fail);first|exact aH _ _);(.simp only[aP,ay,aA,aB];rfl))));refine gX.nil ?_;intro w' M;replace H:=H.grow M;clear M;have EF:=H.b0.cell;have au:=H.b1.cell;go_wp2_with(first|((with_reducible refine(aa _ H.below).mono ?_);rintro e Y⟨rfl,N⟩;replace H:=H.grow N;have iG:=H.b1.cell;have jQ:=H.b2.cell)))));rotate_left;·(obtain rfl:lp=none:=by rw[V,Υ (.inr ad)]);(have a5:(le != 0)=true:=by simpa using ad);clear V ac ad;unfold arH;go_enter func42,ntmps42;go_wp2_with(first|((with_reducible refine(O _ H.below).mono ?_);rintro e Y⟨rfl,N⟩;replace H:=H.grow N));replace H:=Own.new2 H 114 #[b1,i,b3];refine ara (by kernel_rfl) ?_;(repeat(first|(apply gX.want rfl;(.intro w' M K Q' hK;have J:=H.grow M;have ae:=J.below;have af:=J.b0.cell;have ag:=J.b1.cell;have ai:=J.b2.cell;go_wp2_with(fail);first|exact aH _ _);(.simp only[aP,ay,aA,aB];rfl))));refine gX.nil ?_;intro w' M;replace H:=H.grow M;have EF:=H.b0.cell;have au:=H.b1.cell;go_wp2_with(first|((with_reducible refine(aa _ H.below).mono ?_);rintro e Y⟨rfl,N⟩;replace H:=H.grow N));go_ret3;exact⟨rfl,H.below⟩));all_goals(refine ara (by kernel_rfl) ?_;(repeat(first|(apply gX.want rfl;(.intro w' M K Q' hK;have J:=H.grow M;have ae:=J.below;have af:=J.b0.cell;have ag:=J.b1.cell;have ai:=J.b2.cell;go_wp2_with(fail);first|exact aH _ _);(.simp only[aP,ay,aA,aB];rfl))));refine gX.nil ?_;intro w' M;have al:=(H.grow M).below;go_wp2_with fail;go_ret3;exact⟨rfl,al⟩))
 all_goals(refine ara (by kernel_rfl) ?_;(repeat(first|(apply gX.want rfl;(.intro w' M K Q' hK;have J:=H.grow M;have ae:=J.below;have af:=J.b0.cell;have ag:=J.b1.cell;have ai:=J.b2.cell;go_wp2_with(fail);first|exact aH _ _);(.simp only[aP,ay,aA,aB];rfl))|(apply gX.skip rfl;.simp only[aP,ay,aA,aB];rfl)));refine gX.nil ?_;intro w' M;have al:=(H.grow M).below;go_wp2_with fail;go_ret3;exact⟨rfl,al⟩)
def NM{t:Tp}{m:Ma}(h:rX t m=true):jr t=0/\m.path.length<=24/\qA [] m.path=false/\1<=m.fP.length/\m.fP.length<=8/\0<=m.gap/\m.gap<=1099511627776/\pU 0 m.fP=true/\ ∃x,zC t m=some x/\qg m+m.gap<=x.1:=by unfold rX at h;grind
def aiY{t:Tp}{m:Ma}{x:Int × Int}(H:jr t=0)(J:m.path.length<=24)(M:qA [] m.path=false)(N:1<=m.fP.length)(O:m.fP.length<=8)(U:0<=m.gap)(V:m.gap<=1099511627776)(Y:pU 0 m.fP=true)(hx:zC t m=some x)(Z:qg m+m.gap<=x.1):rX t m=true:=by unfold rX;rw[hx];simp[H,J,M,N,O,U,V,Y,Z]
def V9{s:Sc}(h:l[k]? =some s):pU x (l.drop k)=(decide (x<s.kL)&&decide (s.kL<=1099511627776)&&decide (1<=s.timer)&&decide (s.timer<=1000)&&pU s.kL (l.drop (k+1))):=by rw[ark h,pU]
def Yp (l:List Sc):Int:=match l.getLast? with
 |none=>0
 |some s=>s.kL
def Wh{s:Sc}(h:l[k]? =some s):Yp (l.take (k+1))=s.kL:=by unfold Yp;rw[take_snoc' h];simp
def Wi(h:jE w t m)(ma:Ma)(v:DF)(hm:EK w ma v):Γ aj 41 #[m.cells,nO ma v] w λe w'=>e=.returned (.bool (rX t ma))/\w w':=by
 have H:Own w _ [_,_]:=Own.iY w 27 42 m.cells (nO ma v);have an:=H.b0.cell;have af:=H.b1.cell;have aa:=λW (O:w W)=>yK (h.below O);have ad:=λW (O:w W)=>Yo v.A1 v.n1 v.c1 ma.path W (hm.path.below O) hm.e1 hm.l1 hm.q1;have U:=λW (O:w W) (hc:jr t=0)=>ab3 (h.below O) ma v (hm.below O) hc;have N:=ah (@NM t ma);have HQ:=ah (λx=> @aiY t ma x);have ap:=hm.e1;have ag:=hm.e2;rw[ap,ag]at N HQ;have HE:=ah ag;generalize rX t ma=Y at*;unfold nO jl.cells at*;by_cases h1:jr t=0;focus(rw[h1]at aa;replace U:=λW (O:w W)=>U W O h1;by_cases h2:v.n1<=24;(focus((have f2:decide (24<(v.n1:Int))=false:=by grind);rcases h3:qA [] ma.path with _ |_;(focus(rw[h3]at ad;by_cases h4:1<=v.n2;(focus((have f4:decide ((v.n2:Int)<1)=false:=by grind);by_cases h5:v.n2<=8;(focus((have f5:decide (8<(v.n2:Int))=false:=by grind);by_cases h6:0<=ma.gap;(focus((have f6:decide (ma.gap<0)=false:=by grind);by_cases h7:ma.gap<=1099511627776;(·(have f7:decide (1099511627776<ma.gap)=false:=by grind);have H1:=ah h1;have H3:=ah h3;go_enter func41,ntmps41;go_wp2_with(first|((with_reducible first|refine(aa _ H.below).mono ?_|refine(ad _ H.below).mono ?_);rintro e Z⟨rfl,J⟩;replace H:=H.grow J;have iG:=H.b1.cell));go_loopw [5,50] (λa i wr=> ∃(k:Nat) (x:Int),i=.int .i64 k/\k<=v.n2/\a=.int .i64 x/\0<=x/\x<=1099511627776/\Hid (pU 0 ma.fP=pU x (ma.fP.drop k)/\Yp (ma.fP.take k)=x)/\Own w wr [(w,27,#[.slice m.A1 m.n1 m.c1,.slice m.A2 m.n2 m.c2,.slice m.A3 m.n3 m.c3,.slice m.A4 m.n4 m.c4]),(w.heap.size+1,42,#[ma.ref,ma.rev,.slice v.A1 v.n1 v.c1,.slice v.A2 v.n2 v.c2,ma.gap])]) (λ_ i _=>v.n2-(intOf i).toNat);(case atStart=>exact⟨0,0,rfl,aV _,rfl,by omega,by omega,ah ⟨by simp,by rfl⟩,H⟩);(case' round=>obtain⟨k,x,rfl,hk,rfl,ax,az,hap,H⟩:=hrel;have an:=H.b0.cell;have af:=H.b1.cell;by_cases aq:k<v.n2;(focus(obtain⟨s,hs⟩:=aq5 HE.out aq;obtain⟨g,off,am,hg,a0,a1⟩:=hm.fP.sc hs;have Cm:=(H.below.cell (p:=⟨g,off+k*2,none⟩) hg).trans a0;have CB:=(H.below.cell (p:=⟨g,off+k*2+1,none⟩) hg).trans a1;have ae:=V9 (x:=x) hs;rw[<-hap.out.1]at ae;have ai:=Wh hs;obtain⟨V,x2⟩:=s;simp only[am]at Cm CB ae ai H af |-;have jc:=Own.new2 H 60 #[V,x2];have av:=jc.b2.cell;have HS:=ah ae;have HL:=ah ai;by_cases g1:V<=x;rotate_left;focus(by_cases g2:1099511627776<V;(focus(have f2:decide (1099511627776<V)=true:=by simpa using g2));rotate_left;focus((have f2:decide (1099511627776<V)=false:=by simpa using g2);by_cases g3:x2<1;rotate_left;focus(by_cases g4:1000<x2;(focus(have f4:decide (1000<x2)=true:=by simpa using g4));rotate_left;focus((have f4:decide (1000<x2)=false:=by simpa using g4);have al:=ah (show pU 0 ma.fP=pU V (ma.fP.drop (k+1))/\Yp (ma.fP.take (k+1))=V from⟨by rw[HS.out];simp;omega,HL.out⟩);go_wp2_with fail;go_roundw;(case rel=>exact⟨k+1,V,by go_num,by omega,rfl,by omega,by omega,al,⟨jc.below,λx hx=>jc.blk x (by simp at hx;rcases hx with rfl |rfl <;> simp),by simp⟩⟩);case measure=>simp[intOf];omega))))));rotate_left 4;·(obtain rfl:k=v.n2:=by omega);(have yL:pU 0 ma.fP=true/\qg ma=x:=by obtain⟨p1,p2⟩:=hap.out;rw[p1,dJ (by rw[HE.out];omega)];rw[aY (by rw[HE.out];omega)]at p2;exact⟨rfl,p2⟩);have HX:=ah yL;cases ac:zC t ma with|none=>rw[ac]at U;(obtain rfl:Y=false:=bY.2 λM=>by obtain⟨_,_,_,_,_,_,_,_,z,hz,_⟩:=N.out M;rw[ac]at hz;cases hz);unfold arH at U;go_wp2_with(first|((with_reducible refine(U _ H.below).mono ?_);rintro e Z⟨rfl,J⟩;replace H:=H.grow J;have iG:=H.b1.cell));go_ret;exact⟨rfl,H.below⟩|some z=>rw[ac]at U;(have ar:Y=decide (x+ma.gap<=z.1):=by by_cases hz:x+ma.gap<=z.1;(.rw[decide_eq_true hz];exact HQ.out z H1.out (by omega) H3.out (by omega) (by omega) (by omega) (by omega) HX.out.1 ac (by rw[HX.out.2];exact hz));.rw[decide_eq_false hz];refine bY.2 λM=>?_;obtain⟨_,_,_,_,_,_,_,_,z',ak,au⟩:=N.out M;rw[ac]at ak;cases ak;rw[HX.out.2]at au;omega);have HM:=ah ar;obtain⟨z1,z2⟩:=z;unfold arH at U;go_wp2_with(first|((with_reducible refine(U _ H.below).mono ?_);rintro e Z⟨rfl,J⟩;replace H:=H.grow J;have iG:=H.b1.cell));go_ret;exact⟨by simp[HM.out],H.below⟩);all_goals((obtain rfl:Y=false:=bY.2 λM=>by have h8:=(N.out M).2.2.2.2.2.2.2.1;rw[HS.out]at h8;simp at h8;omega);go_wp2_with fail;go_ret;exact⟨rfl,jc.below⟩));focus(have f7:decide (1099511627776<ma.gap)=true:=by grind)));rotate_left;focus(have f6:decide (ma.gap<0)=true:=by grind)));rotate_left 2;focus(have f5:decide (8<(v.n2:Int))=true:=by grind)));rotate_left 3;focus(have f4:decide ((v.n2:Int)<1)=true:=by grind)));rotate_left 4;.rw[h3]at ad;(obtain rfl:Y=false:=bY.2 λM=>by have:=(N.out M).2.2.1;grind);go_enter func41,ntmps41;go_wp2_with(first|((with_reducible first|refine(aa _ H.below).mono ?_|refine(ad _ H.below).mono ?_);rintro e Z⟨rfl,J⟩;replace H:=H.grow J;have iG:=H.b1.cell));go_ret;exact⟨rfl,H.below⟩));rotate_left 4;·(have f2:decide (24<(v.n1:Int))=true:=by grind);(obtain rfl:Y=false:=bY.2 λM=>by have:=N.out M;omega);go_enter func41,ntmps41;go_wp2_with(first|((with_reducible refine(aa _ H.below).mono ?_);rintro e Z⟨rfl,J⟩;replace H:=H.grow J;have iG:=H.b1.cell));go_ret;exact⟨rfl,H.below⟩)
 rotate_left 4
 .obtain rfl:Y=false:=bY.2 λM=>h1 (N.out M).1;generalize jr t=ck at*;have aw:(ck != 0)=true:=by grind
  go_enter func41,ntmps41;go_wp2_with(first|((with_reducible refine(aa _ H.below).mono ?_);rintro e Z⟨rfl,J⟩;replace H:=H.grow J;have iG:=H.b1.cell));go_ret;exact⟨rfl,H.below⟩
 all_goals((obtain rfl:Y=false:=bY.2 λM=>by have:=N.out M;omega);go_enter func41,ntmps41;go_wp2_with(first|((with_reducible first|refine(aa _ H.below).mono ?_|refine(ad _ H.below).mono ?_);rintro e Z⟨rfl,J⟩;replace H:=H.grow J;have iG:=H.b1.cell));go_ret;exact⟨rfl,H.below⟩)
def rZ (t:Tp) (m:Ma):Int × Bool:=match oz t m.ref with
 |none=>(0,false)
 |some b=>((F5 t m.path (uI b m.rev)).1,decide ((F5 t m.path (uI b m.rev)).2=0))
def Yq(t:Tp)(m:Ma):Nw t m=if(rZ t m).2=true then some (rZ t m).1 else none:=by unfold Nw rZ;cases oz t m.ref with|none=>rfl|some b=>simp
def ab4(h:jE w t m)(ma:Ma)(v:DF)(hm:EK w ma v):Γ aj 64 #[m.cells,nO ma v] w λe w'=>e=.returned (.tuple #[.int .i64 (rZ t ma).1,.bool (rZ t ma).2])/\w w':=by
 have H:Own w _ [_,_]:=Own.iY w 27 42 m.cells (nO ma v);have aa:=H.b0.cell;have ac:=H.b1.cell;have M:=λW (N:w W)=>Hw (h.below N) ma.ref;have U:=λW (N:w W) p=>aiX (h.below N) v.A1 v.n1 v.c1 ma.path p (hm.path.below N) hm.e1 hm.l1;have J:rZ t ma=match oz t ma.ref with|none=>(0,false)|some b=>((F5 t ma.path (uI b ma.rev)).1,decide ((F5 t ma.path (uI b ma.rev)).2=0)):=rfl
 generalize rZ t ma=br at*;unfold nO at*;cases Y:oz t ma.ref with
 |none=>rw[Y]at J M;simp only[Option.getD_none,Option.isSome_none]at M;obtain rfl:br=(0,false):=J;unfold jl.cells at*;go_enter func64,ntmps64;go_wp2_with(first|((with_reducible refine(M _ H.below).mono ?_);rintro e V⟨rfl,O⟩;replace H:=H.grow O));go_ret2;exact⟨rfl,gZ H.below jm⟩
 |some b=>
  rw[Y]at J M;simp only[eG,Option.isSome_some]at M J;replace U:=λW N=>U W N (uI b ma.rev);obtain⟨b1,b2,b3⟩:=b;simp only[uI]at U J M;rcases hoo:F5 t ma.path ⟨b2,b3,ma.rev⟩ with⟨o1,o2⟩
  simp only[hoo]at U J;subst J;unfold jl.cells at*;go_enter func64,ntmps64;go_wp2_with(first|((with_reducible refine(M _ H.below).mono ?_);rintro e V⟨rfl,O⟩;replace H:=Own.new2 (H.grow O) 114 #[b1,b2,b3];have iG:=H.b0.cell;have jQ:=H.b1.cell;have uK:=H.b2.cell)|((with_reducible refine(U _ H.below).mono ?_);rintro e V⟨rfl,O⟩;replace H:=H.grow O));go_ret2;refine⟨?_,H.below⟩;by_cases Z:o2=0 <;> simp[Z]
def Hy(H: ∀n∈t.edges,1<=n/\n<=1000000){x:St}: ∀(l:List St) (n a:Int),(∀s∈l,iW t s.edge=true)->uJ t x l n=some a->n<=a/\a<=n+1000000*l.length
 | [],_,_,_,h=>by simp[uJ]at h
 |s::l,n,a,hs,h=>by
  rw[uJ]at h;have:=EH H (hs s (by simp));split at h;.simp at h;subst h;simp only[bK];omega
  .have M:=Hy H l _ a (λz J=>hs z (List.mem_cons_of_mem _ J)) h;simp only[bK];omega
def EL(t:Tp)(path:List St)(p:Ps):0<=(F5 t path p).1/\(F5 t path p).1<=100000000:=by
 unfold F5;split;.simp
 .rename_i H;split;.simp
  .rename_i J;have J:ny t path=0:=Decidable.not_not.1 J;(have H:pO t p=true:=by simpa using H);obtain⟨r1,O,Y,Z⟩:=wK H;have M:=jC r1;have U:=EH M O;obtain⟨k1,k2,k3,V⟩:=zY J;split;(.simp);.rename_i a N;have:=Hy M path 0 a k3 N;simp only[pR];split <;> omega
def DI(t:Tp)(m:Ma):0<=(rZ t m).1/\(rZ t m).1<=100000000:=by unfold rZ;cases oz t m.ref with|none=>simp|some b=>exact EL _ _ _
def rE (o:Option Int):Θ:=match o with
 |none=> .tuple gz
 |some n=> .tuple #[.int .i64 n,.bool true]
def Yr(h:jE w t m)(ma:Ma)(v:DF)(hm:EK w ma v)(p:Ps):Γ aj 39 #[m.cells,nO ma v,Vt p] w λe w'=>e=.returned (rE (qZ t ma p))/\w w':=by
 have H:Own w _ [_,_,_]:=Own.start3 w 27 42 38 m.cells (nO ma v) #[p.edge,p.at_,p.rev];have ae:=H.b0.cell;have af:=H.b1.cell;have ag:=H.b2.cell;have aa:=λW (M:w W)=>ab4 (h.below M) ma v (hm.below M);have ac:=λW (M:w W)=>aiX (h.below M) v.A1 v.n1 v.c1 ma.path p (hm.path.below M) hm.e1 hm.l1;have J:qZ t ma p=match Nw t ma with|none=>none|some b=>if(F5 t ma.path p).2=0/\b<=(F5 t ma.path p).1 then some ((F5 t ma.path p).1-b) else none:=rfl
 rw[Yq]at J;have ad:=DI t ma;have ai:=EL t ma.path p;generalize qZ t ma p=N at*;generalize F5 t ma.path p=on at*;generalize rZ t ma=br at*;obtain⟨pe,pa,pr⟩:=p;obtain⟨O,o2⟩:=on;obtain⟨b1,b2⟩:=br;simp only[jl.cells]at J ad ai aa ac H ae af ag |-;unfold nO at*;unfold rE;rcases b2 with _ |_;focus(obtain rfl:N=none:=J)
 rotate_left;focus(simp only[if_true]at J;by_cases V:o2=0;(focus(subst V;by_cases Z:b1<=O;(focus((obtain rfl:N=some (O-b1):=by rw[J,Υ ⟨rfl,Z⟩]);have f3:decide (O<b1)=false:=by simp;omega));rotate_left;focus((obtain rfl:N=none:=by rw[J,Ξ (λY=>Z Y.2)]);have f3:decide (O<b1)=true:=by simp;omega)));rotate_left 2;focus((obtain rfl:N=none:=by rw[J,Ξ (λY=>V Y.1)]);have ak:(o2 != 0)=true:=by simpa using V))
 all_goals(go_enter func39,ntmps39;go_wp2_with(first|((with_reducible refine(aa _ H.below).mono ?_);rintro e fU⟨rfl,U⟩;replace H:=H.grow U;have iG:=H.b0.cell;have jQ:=H.b1.cell;have uK:=H.b2.cell)|((with_reducible refine(ac _ H.below).mono ?_);rintro e fU⟨rfl,U⟩;replace H:=H.grow U));go_ret2;exact⟨rfl,H.below⟩)
def SB{l:List Int}(h:l[k]? =some n):kD x (l.drop k)=(decide (x<n)&&decide (n<=15)&&kD n (l.drop (k+1))):=by rw[ark h,kD]
def ab5(A:Option δ)(n c:Nat)(l:List Int)(w:ω)(hp:fE aq7 w A l)(hn:l.length=n)(hl:n<=100):Γ aj 48 #[.slice A n c] w λe w'=>e=.returned (.bool (kD (-1) l))/\w'=w:=by
 have H:=ah hn;go_enter func48,ntmps48;go_wp2;go_loop [3,8] (λa i=> ∃(k:Nat) (x:Int),i=.int .i64 k/\k<=n/\a=.int .i64 x/\Hid (kD (-1) l=kD x (l.drop k))) (λ_ i=>n-(intOf i).toNat);case atStart=>exact⟨0,-1,rfl,aV _,rfl,ah (by simp)⟩
 case round=>
  obtain⟨k,x,rfl,hk,rfl,hap⟩:=hrel;by_cases M:k<n;.obtain⟨y,O⟩:=aq5 H.out M;have N:=SB (x:=x) O;rw[<-hap.out]at N;have J:=ah N;obtain⟨g,off,rfl,hg,a0⟩:=hp.int (i:=k) (by rw[H.out];exact M);obtain⟨Z,rfl⟩:=aX.1 O;rw[getElem!_pos l k Z]at a0;generalize l[k]=y at*;by_cases g1:y<=x;(.go_wp2_with fail;go_ret;exact⟨by simp[J.out];omega,rfl⟩);.by_cases g2:15<y;(.go_wp2_with fail;go_ret;exact⟨by simp[J.out];omega,rfl⟩);.have U:=ah (show kD (-1) l=kD y (l.drop (k+1)) by rw[J.out];simp;omega);go_wp2_with fail;go_round;(case rel=>exact⟨k+1,y,by go_num,by omega,rfl,U⟩);case measure=>simp[intOf];omega
  ·(obtain rfl:k=n:=by omega);(have Y:kD (-1) l=true:=by rw[hap.out,dJ (by rw[H.out];exact aW _)];rfl);have V:=ah Y;go_wp2_with fail;go_ret;exact⟨by simp[V.out],rfl⟩
def afH(ma:Ma)(v:DF)(w:ω)(h:EK w ma v):Γ aj 50 #[nO ma v] w λe w'=>e=.returned (.bool (Dw ma))/\w w':=by
 have U:Own w _ [_]:=(Own.nil w).alloc 42 (nO ma v) _ rfl;have V:=U.b0.cell;have H:Dw ma=(decide (ma.ref=0)&& !ma.rev&&decide (v.n1=0)&&decide (v.n2=0)&&decide (ma.gap=0)):=by
  unfold Dw;rw[<-h.e1,<-h.e2];congr 1;congr 1;.congr 1;cases ma.path <;> simp
  .cases ma.fP <;> simp
 generalize Dw ma=bp at*;unfold nO at*;by_cases J:ma.ref=0;focus((have f1:(ma.ref==0)=true:=by simpa using J);rcases h2:ma.rev with _ |_;(focus(simp only[h2]at U V |-;by_cases M:v.n1=0;(focus((have f3:((v.n1:Int)==0)=true:=by simp[M]);by_cases N:v.n2=0;(focus((have Y:((v.n2:Int)==0)=true:=by simp[N]);by_cases O:ma.gap=0;(focus((have Z:(ma.gap==0)=true:=by simpa using O);(obtain rfl:bp=true:=by rw[H,J,h2,M,N,O];rfl);clear H J h2 M N O));rotate_left;focus((have Z:(ma.gap==0)=false:=by simpa using O);(obtain rfl:bp=false:=by rw[H,decide_eq_false O];simp);clear H J h2 M N O)));rotate_left 2;focus((have Y:((v.n2:Int)==0)=false:=by simp;omega);(obtain rfl:bp=false:=by rw[H,decide_eq_false N];simp);clear H J h2 M N)));rotate_left 3;focus((have f3:((v.n1:Int)==0)=false:=by simp;omega);(obtain rfl:bp=false:=by rw[H,decide_eq_false M];simp);clear H J h2 M)));rotate_left 4;focus((obtain rfl:bp=false:=by rw[H,h2];simp);simp only[h2]at U V |-;clear H J h2))
 rotate_left 5;focus((have f1:(ma.ref==0)=false:=by simpa using J);(obtain rfl:bp=false:=by rw[H,decide_eq_false J];simp);clear H J)
 all_goals(go_enter func50,ntmps50;go_wp2_with fail;go_ret;exact⟨rfl,U.below⟩)
def uV(n:Int)(w:ω):Γ aj 80 #[n] w λe w'=>e=.returned (.bool (lJ n))/\w'=w:=by
 unfold lJ;by_cases H:0<=n
 .have f1:decide (0<=n)=true:=by simpa using H
  go_enter func80,ntmps80;go_wp2;go_ret;exact⟨by simp[H],rfl⟩
 .have f1:decide (0<=n)=false:=by simpa using H
  go_enter func80,ntmps80;go_wp2;go_ret;exact⟨by simp,rfl⟩
def Pn(n:Int)(w:ω):Γ aj 86 #[n] w λe w'=>e=.returned (.bool (jK n))/\w'=w:=by
 unfold jK;by_cases H:0<=n
 .have f1:decide (0<=n)=true:=by simpa using H
  go_enter func86,ntmps86;go_wp2;go_ret;exact⟨by simp[H],rfl⟩
 .have f1:decide (0<=n)=false:=by simpa using H
  go_enter func86,ntmps86;go_wp2;go_ret;exact⟨by simp,rfl⟩
def Po (a b:Int):Array Θ:=if(lJ a&&lJ b)=true then #[.int .i64 (-1),.int .i64 a,.int .i64 b,.bool false] else gv
def Pq (a b:Int):Int:=if(lJ a&&lJ b)=true then 0 else 1
def ab6(a b:Int)(w:ω):Γ aj 38 #[a,b] w λe w'=>e=.returned (.tuple #[Po a b,(Pq a b:Int)])/\w w':=by
 have J:Own w _ [_]:=(Own.nil w).alloc 36 gv _ rfl;have N:=λW=>uV a W;have O:=λW=>uV b W;unfold Po Pq;rcases ha:lJ a with _ |_;focus(rw[ha]at N;simp only[Bool.false_and,bU,if_false];go_enter func38,ntmps38;go_wp2_with(first|((with_reducible refine(N _).mono ?_);rintro e M⟨rfl,rfl⟩)|((with_reducible refine oG gv J rfl _ _ rfl rfl rfl (by kernel_rfl) rfl ?_ ?_);(.first|(simp[aK];done));intro M H U V;replace J:=H;clear H)))
 rotate_left;focus(rw[ha]at N;rcases hb:lJ b with _ |_;(focus(rw[hb]at O;simp only[Bool.and_false,bU,if_false];go_enter func38,ntmps38;go_wp2_with(first|((with_reducible first|refine(N _).mono ?_|refine(O _).mono ?_);rintro e M⟨rfl,rfl⟩)|((with_reducible refine oG gv J rfl _ _ rfl rfl rfl (by kernel_rfl) rfl ?_ ?_);(.first|(simp[aK];done));intro M H U V;replace J:=H;clear H))));rotate_left;focus(rw[hb]at O;simp only[Bool.and_self,if_true];go_enter func38,ntmps38;go_wp2_with(first|((with_reducible first|refine(N _).mono ?_|refine(O _).mono ?_);rintro e M⟨rfl,rfl⟩)|((with_reducible refine oG (#[(-1:Int),a,b,false]) J rfl _ _ rfl rfl rfl (by kernel_rfl) rfl ?_ ?_);(.first|(simp[aK];done));intro M H U V;replace J:=H;clear H))))
 all_goals(exact β (gU results38 _ _ _ _ _ _ rfl rfl J.b0 underlying36 rfl (by kernel_rfl)) rfl ⟨rfl,J.below⟩)
def um (l a b:Int):Bool:=lJ a&&lJ b&&(decide (l= -1) || lJ l)
def ab7(l a b:Int)(f:Bool)(w:ω):Γ aj 46 #[.agg #[l,a,b,f]] w λe w'=>e=.returned (.bool (um l a b))/\w w':=by
 have M:Own w _ [_]:=(Own.nil w).alloc 36 #[l,a,b,f] _ rfl;have Y:=M.b0.cell;have H:=λW=>uV a W;have J:=λW=>uV b W;have V:=λW=>uV l W;unfold um;rcases ha:lJ a with _ |_;.rw[ha]at H;go_enter func46,ntmps46;go_wp2_with(first|((with_reducible refine(H _).mono ?_);rintro e O⟨rfl,rfl⟩));go_ret;exact⟨by simp,M.below⟩
 focus(rw[ha]at H;rcases hb:lJ b with _ |_;(focus(rw[hb]at J));rotate_left;focus(rw[hb]at J;by_cases N:l= -1;(focus(subst N));rotate_left;·(have e1:(l== -1)=false:=by simpa using N);have U:=ah N;go_enter func46,ntmps46;go_wp2_with(first|((with_reducible first|refine(H _).mono ?_|refine(J _).mono ?_|refine(V _).mono ?_);rintro e O⟨rfl,rfl⟩));go_ret;exact⟨by simp[U.out],M.below⟩))
 all_goals(go_enter func46,ntmps46;go_wp2_with(first|((with_reducible first|refine(H _).mono ?_|refine(J _).mono ?_);rintro e O⟨rfl,rfl⟩));go_ret;exact⟨by simp,M.below⟩)
def ab8(n:Int)(w:ω):Γ aj 231 #[n,zI] w λe w'=>(∃x:Int,e=.returned (.tuple #[x,(if lJ n=true then 0 else 7:Int)]))/\w'=w:=by
 have H:=λW=>uV n W;have N:=λW=>uV 0 W;have U:lJ 0=true:=by decide
 rw[U]at N;cases J:lJ n with|false=>rw[J]at H;simp only[bU,if_false];go_enter func231,ntmps231;go_wp2_with(first|((with_reducible refine(H _).mono ?_);rintro e O⟨rfl,rfl⟩));go_ret2;exact⟨⟨_,rfl⟩,rfl⟩|true=>have M:=J;unfold lJ at M;simp only[bM,decide_eq_true_eq]at M;obtain⟨b1,b2⟩:=M;rw[J]at H;simp only[if_true];go_enter func231,ntmps231;go_wp2_with(first|((with_reducible first|refine(H _).mono ?_|refine(N _).mono ?_);rintro e O⟨rfl,rfl⟩));go_ret2;exact⟨⟨_,rfl⟩,rfl⟩
def ab9(w:ω):Γ aj 188 #[zI] w λe w'=>e=.returned true/\w'=w:=by
 have H:=λW=>ab8 0 W;have J:lJ 0=true:=by decide
 simp only[J,if_true]at H;go_enter func188,ntmps188;go_wp2_with(first|((with_reducible refine(H _).mono ?_);rintro e M⟨⟨x,rfl⟩,rfl⟩));go_ret;exact⟨rfl,rfl⟩
def yM (x1 x2 x3:Int):Bool:=decide (1<=x1)&&decide (x1<=1048576)&&decide (1<=x3)&&decide (x3<=1048576)&&decide (0<=x2)&&decide (x2<=20)
def afI(H J M:Int)(w:ω):Γ aj 138 #[.agg #[H,J,M,zI,nS]] w λe w'=>e=.returned (.bool (yM H J M))/\w w':=by
 have N:Own w _ [_]:=(Own.nil w).alloc 168 #[H,J,M,zI,nS] _ rfl;have aa:=N.b0.cell;have U:=λW=>ab9 W;have O:yM H J M=(decide (1<=H)&&decide (H<=1048576)&&decide (1<=M)&&decide (M<=1048576)&&decide (0<=J)&&decide (J<=20)):=rfl;generalize yM H J M=ok at*;by_cases V:H<1;rotate_left;focus(by_cases Y:1048576<H;rotate_left;focus(by_cases Z:M<1;rotate_left;focus(by_cases g3:1048576<M;rotate_left;focus(by_cases g4:J<0;rotate_left;focus(by_cases g5:20<J;rotate_left;focus((obtain rfl:ok=true:=by rw[O];simp;omega);clear O;go_enter func138,ntmps138;go_wp2_with(first|((with_reducible refine(U _).mono ?_);rintro e w1⟨rfl,rfl⟩));refine wp_loop_rounds 1 ?_;rw[rounds_succ];go_wp2_with fail;go_ret;exact⟨rfl,N.below⟩))))))
 all_goals((obtain rfl:ok=false:=by rw[O];simp;omega);go_enter func138,ntmps138;go_wp2;go_ret;exact⟨rfl,N.below⟩)
def acd (x1 x2 x3:Int):Array Θ:=if yM x1 x2 x3=true then #[.int .i64 x1,.int .i64 x2,.int .i64 x3,.int .i64 0,.slice none 0 0] else #[.int .i64 0,.int .i64 0,.int .i64 0,.int .i64 0,.slice none 0 0]
def afJ(M N O:Int)(w:ω):Γ aj 85 #[M,N,O,zI] w λe w'=>e=.returned (.tuple #[acd M N O,(if yM M N O=true then 0 else 1:Int)])/\w w':=by
 have H:Own w _ [_,_]:=Own.iY w 168 168 #[zI,zI,zI,zI,nS] #[M,N,O,zI,nS];have hm:=λW=>afI M N O W;unfold acd;rcases hk:yM M N O with _ |_;focus(rw[hk]at hm;simp only[bU,if_false];go_enter func85,ntmps85;go_wp2_with(first|((with_reducible refine(hm _).mono ?_);rintro e U⟨rfl,J⟩;replace H:=H.grow J;have V:=H.b1.cell)|((with_reducible refine oG (#[zI,zI,zI,zI,nS]) H rfl _ _ rfl rfl rfl (by kernel_rfl) rfl ?_ ?_);(.first|(simp[aK];done));intro U J V Y;replace H:=J;clear J)))
 rotate_left;focus(rw[hk]at hm;simp only[if_true];go_enter func85,ntmps85;go_wp2_with(first|((with_reducible refine(hm _).mono ?_);rintro e U⟨rfl,J⟩;replace H:=H.grow J;have V:=H.b1.cell)|((with_reducible refine oG (#[M,N,O,zI,nS]) H rfl _ _ rfl rfl rfl (by kernel_rfl) rfl ?_ ?_);(.first|(simp[aK];done));intro U J V Y;replace H:=J;clear J)))
 all_goals(exact β (gU results85 _ _ _ _ _ _ rfl rfl H.b0 underlying168 rfl (by kernel_rfl)) rfl ⟨rfl,H.below⟩)
def ace(r:Rl):Dv r=((lJ r.ahead&&lJ r.behind)&&yM r.period r.most r.quiet&&jK r.oJ&&jK r.skew&&jK r.lend&&decide (0<=r.wI)&&decide (r.wI<=1099511627776)):=by unfold Dv yM;simp only[Bool.and_assoc]
abbrev rlC (r:Rl):Array Θ:= #[.int .i64 r.ahead,.int .i64 r.behind,.int .i64 r.period,.int .i64 r.most,.int .i64 r.quiet,.int .i64 r.oJ,.int .i64 r.wI,.int .i64 r.skew,.int .i64 r.lend]
def afK(r:Rl)(w:ω):Γ aj 45 #[rlC r] w λe w'=>e=.returned (.bool (Dv r))/\w w':=by
 have N:=ace r;have H:Own w _ [_]:=(Own.nil w).alloc 29 (rlC r) _ rfl;obtain⟨r1,Z,r3,r4,r5,r6,r7,r8,r9⟩:=r;simp only[rlC]at N H |-;have ae:=H.b0.cell;have V:=λW=>ab6 r1 Z W;have O:=λW=>afJ r3 r4 r5 W;have aa:=λW=>Pn r6 W;have ac:=λW=>Pn r8 W;have ad:=λW=>Pn r9 W;unfold Po Pq at V;unfold acd at O;generalize Dv ⟨r1,Z,r3,r4,r5,r6,r7,r8,r9⟩=Y at*;generalize (lJ r1&&lJ Z)=bA at*;generalize yM r3 r4 r5=bL at*;generalize jK r6=c1 at*;generalize jK r8=c2 at*;generalize jK r9=c3 at*;rcases bA with _ |_
 .obtain rfl:Y=false:=by rw[N];simp
  clear N;simp only[bU,if_false]at V;cases bL with|false=>simp only[bU,if_false]at O;go_enter func45,ntmps45;go_wp2_with(first|((with_reducible refine(V _).mono ?_);rintro e M⟨rfl,J⟩;replace H:=Own.new1 (H.grow J) 36 gv;have U:=H.b0.cell)|((with_reducible refine(O _).mono ?_);rintro e M⟨rfl,J⟩;replace H:=Own.new2 (H.grow J) 168 #[zI,zI,zI,zI,nS];have U:=H.b0.cell));go_ret;exact⟨rfl,H.below⟩|true=>simp only[if_true]at O;go_enter func45,ntmps45;go_wp2_with(first|((with_reducible refine(V _).mono ?_);rintro e M⟨rfl,J⟩;replace H:=Own.new1 (H.grow J) 36 gv;have U:=H.b0.cell)|((with_reducible refine(O _).mono ?_);rintro e M⟨rfl,J⟩;replace H:=Own.new2 (H.grow J) 168 #[r3,r4,r5,zI,nS];have U:=H.b0.cell));go_ret;exact⟨rfl,H.below⟩
 focus(simp only[if_true]at V;rcases bL with _ |_;(·(obtain rfl:Y=false:=by rw[N];simp);clear N;simp only[bU,if_false]at O;go_enter func45,ntmps45;go_wp2_with(first|((with_reducible refine(V _).mono ?_);rintro e M⟨rfl,J⟩;replace H:=Own.new1 (H.grow J) 36 #[(-1:Int),r1,Z,false];have U:=H.b0.cell)|((with_reducible refine(O _).mono ?_);rintro e M⟨rfl,J⟩;replace H:=Own.new2 (H.grow J) 168 #[zI,zI,zI,zI,nS];have U:=H.b0.cell));go_ret;exact⟨rfl,H.below⟩);focus(simp only[if_true]at O;rcases c1 with _ |_;(·(obtain rfl:Y=false:=by rw[N];simp);clear N;go_enter func45,ntmps45;go_wp2_with(first|((with_reducible refine(V _).mono ?_);rintro e M⟨rfl,J⟩;replace H:=Own.new1 (H.grow J) 36 #[(-1:Int),r1,Z,false];have U:=H.b0.cell)|((with_reducible refine(O _).mono ?_);rintro e M⟨rfl,J⟩;replace H:=Own.new2 (H.grow J) 168 #[r3,r4,r5,zI,nS];have U:=H.b0.cell)|((with_reducible refine(aa _).mono ?_);rintro e M⟨rfl,rfl⟩));go_ret;exact⟨rfl,H.below⟩);focus(rcases c2 with _ |_;(·(obtain rfl:Y=false:=by rw[N];simp);clear N;go_enter func45,ntmps45;go_wp2_with(first|((with_reducible refine(V _).mono ?_);rintro e M⟨rfl,J⟩;replace H:=Own.new1 (H.grow J) 36 #[(-1:Int),r1,Z,false];have U:=H.b0.cell)|((with_reducible refine(O _).mono ?_);rintro e M⟨rfl,J⟩;replace H:=Own.new2 (H.grow J) 168 #[r3,r4,r5,zI,nS];have U:=H.b0.cell)|((with_reducible first|refine(aa _).mono ?_|refine(ac _).mono ?_);rintro e M⟨rfl,rfl⟩));go_ret;exact⟨rfl,H.below⟩);focus(rcases c3 with _ |_;(focus(obtain rfl:Y=false:=by rw[N];simp));rotate_left;focus(by_cases h6:0<=r7;(focus((have f6:decide (0<=r7)=true:=by simpa using h6);by_cases h7:r7<=1099511627776;(focus((have f7:decide (r7<=1099511627776)=true:=by simpa using h7);obtain rfl:Y=true:=by rw[N,f6,f7];rfl));rotate_left;focus((have f7:decide (r7<=1099511627776)=false:=by simpa using h7);obtain rfl:Y=false:=by rw[N,f6,f7];rfl)));rotate_left 2;focus((have f6:decide (0<=r7)=false:=by simpa using h6);obtain rfl:Y=false:=by rw[N,f6];rfl))))))
 all_goals(clear N;go_enter func45,ntmps45;go_wp2_with(first|((with_reducible refine(V _).mono ?_);rintro e M⟨rfl,J⟩;replace H:=Own.new1 (H.grow J) 36 #[(-1:Int),r1,Z,false];have U:=H.b0.cell)|((with_reducible refine(O _).mono ?_);rintro e M⟨rfl,J⟩;replace H:=Own.new2 (H.grow J) 168 #[r3,r4,r5,zI,nS];have U:=H.b0.cell)|((with_reducible first|refine(aa _).mono ?_|refine(ac _).mono ?_|refine(ad _).mono ?_);rintro e M⟨rfl,rfl⟩));go_ret;exact⟨rfl,H.below⟩)
structure Zx where
  k0:BitVec 32
  k1:BitVec 32
  k2:BitVec 32
  k3:BitVec 32
  state:Int
  a:BitVec 32
  b:BitVec 32
  j0:BitVec 32
  j1:BitVec 32
  j2:BitVec 32
  j3:BitVec 32
  half:Bool
  a2:BitVec 32
  b2:BitVec 32
structure kZ where
  q:Zx
  nx:BitVec 32
  v:DF
  A3:Option δ
  n3:Nat
  c3:Nat
def jf (x:Tr) (m:kZ):Array Θ:= #[.int .i64 x.id,.int .i64 x.len,.int .i64 x.rl.ahead,.int .i64 x.rl.behind,.int .i64 x.rl.period,.int .i64 x.rl.most,.int .i64 x.rl.quiet,.int .i64 x.rl.oJ,.int .i64 x.rl.wI,.int .i64 x.rl.skew,.int .i64 x.rl.lend,.int .i64 x.side,.int .i64 x.fG,q32 m.q.k0,q32 m.q.k1,q32 m.q.k2,q32 m.q.k3,.int .i64 m.q.state,q32 m.q.a,q32 m.q.b,q32 m.q.j0,q32 m.q.j1,q32 m.q.j2,q32 m.q.j3,.bool m.q.half,q32 m.q.a2,q32 m.q.b2,q32 m.nx,.int .i64 x.sl,.int .i64 x.sa,.int .i64 x.sb,.bool x.free,.int .i64 x.last,.bool x.on,.int .i64 x.pos.edge,.int .i64 x.pos.at_,.bool x.pos.rev,.int .i64 x.ref,.int .i64 x.past,.bool x.rev,.int .i64 x.ma.ref,.bool x.ma.rev,.slice m.v.A1 m.v.n1 m.v.c1,.slice m.v.A2 m.v.n2 m.v.c2,.int .i64 x.ma.gap,.int .i64 x.at_,.bool x.held,.slice m.A3 m.n3 m.c3]
structure zJ (w:ω) (x:Tr) (m:kZ):Prop where
  ma:EK w x.ma m.v
  stops:fE aq7 w m.A3 x.stops
  e3:x.stops.length=m.n3
  l3:m.n3<=100
  q3:m.n3<=m.c3
def zJ.below{x:Tr}{m:kZ}(h:zJ w x m)(H:w w'):zJ w' x m:={h with ma:=h.ma.below H,stops:=h.stops.below H}
def lg(x:Tr)(m:kZ):(jf x m).size=48:=rfl
def iF(x:Tr)(m:kZ):(aj.info? 44).map (·.size)=some (jf x m).size:=by rw[lg];kernel_rfl
def lM(x:Tr)(m:kZ):(jf x m).all (·.oneCell')=true:=by simp[jf,aK,q32]
def tr0(x:Tr)(m:kZ):(jf x m)[0]? =some (.int .i64 x.id):=rfl
def tr1(x:Tr)(m:kZ):(jf x m)[1]? =some (.int .i64 x.len):=rfl
def tr2(x:Tr)(m:kZ):(jf x m)[2]? =some (.int .i64 x.rl.ahead):=rfl
def tr3(x:Tr)(m:kZ):(jf x m)[3]? =some (.int .i64 x.rl.behind):=rfl
def tr4(x:Tr)(m:kZ):(jf x m)[4]? =some (.int .i64 x.rl.period):=rfl
def tr5(x:Tr)(m:kZ):(jf x m)[5]? =some (.int .i64 x.rl.most):=rfl
def tr6(x:Tr)(m:kZ):(jf x m)[6]? =some (.int .i64 x.rl.quiet):=rfl
def tr7(x:Tr)(m:kZ):(jf x m)[7]? =some (.int .i64 x.rl.oJ):=rfl
def tr8(x:Tr)(m:kZ):(jf x m)[8]? =some (.int .i64 x.rl.wI):=rfl
def tr9(x:Tr)(m:kZ):(jf x m)[9]? =some (.int .i64 x.rl.skew):=rfl
def aoc(x:Tr)(m:kZ):(jf x m)[10]? =some (.int .i64 x.rl.lend):=rfl
def aod(x:Tr)(m:kZ):(jf x m)[11]? =some (.int .i64 x.side):=rfl
def aoe(x:Tr)(m:kZ):(jf x m)[12]? =some (.int .i64 x.fG):=rfl
def aso(x:Tr)(m:kZ):(jf x m)[27]? =some (q32 m.nx):=rfl
def aof(x:Tr)(m:kZ):(jf x m)[28]? =some (.int .i64 x.sl):=rfl
def aog(x:Tr)(m:kZ):(jf x m)[29]? =some (.int .i64 x.sa):=rfl
def aoh(x:Tr)(m:kZ):(jf x m)[30]? =some (.int .i64 x.sb):=rfl
def aoi(x:Tr)(m:kZ):(jf x m)[31]? =some (.bool x.free):=rfl
def aoj(x:Tr)(m:kZ):(jf x m)[32]? =some (.int .i64 x.last):=rfl
def asq(x:Tr)(m:kZ):(jf x m)[33]? =some (.bool x.on):=rfl
def aiZ(x:Tr)(m:kZ):(jf x m)[34]? =some (.int .i64 x.pos.edge):=rfl
def afL(x:Tr)(m:kZ):(jf x m)[35]? =some (.int .i64 x.pos.at_):=rfl
def afM(x:Tr)(m:kZ):(jf x m)[36]? =some (.bool x.pos.rev):=rfl
def afN(x:Tr)(m:kZ):(jf x m)[37]? =some (.int .i64 x.ref):=rfl
def afO(x:Tr)(m:kZ):(jf x m)[38]? =some (.int .i64 x.past):=rfl
def alQ(x:Tr)(m:kZ):(jf x m)[39]? =some (.bool x.rev):=rfl
def acf(x:Tr)(m:kZ):(jf x m)[40]? =some (.int .i64 x.ma.ref):=rfl
def acg(x:Tr)(m:kZ):(jf x m)[41]? =some (.bool x.ma.rev):=rfl
def Zy(x:Tr)(m:kZ):(jf x m)[42]? =some (.slice m.v.A1 m.v.n1 m.v.c1):=rfl
def Wj(x:Tr)(m:kZ):(jf x m)[43]? =some (.slice m.v.A2 m.v.n2 m.v.c2):=rfl
def ach(x:Tr)(m:kZ):(jf x m)[44]? =some (.int .i64 x.ma.gap):=rfl
def ai0(x:Tr)(m:kZ):(jf x m)[45]? =some (.int .i64 x.at_):=rfl
def ai1(x:Tr)(m:kZ):(jf x m)[46]? =some (.bool x.held):=rfl
def Wn(x:Tr)(m:kZ):(jf x m)[47]? =some (.slice m.A3 m.n3 m.c3):=rfl
def oh:List Int:= [8,10,32,1,24,8,2,13,2,24,10,14,1,15,2,2,15,15,2,15,7,2,4,3,8,7,10,5,15,1,10,15,15,1,10,15,1,15,7,1,15,10,15,7,15,1,2,6,15,1,8,15,7,1,4,7,15,2,7,15,15,1,1,14,32,1,8,10,8,8,15,3,15,1,24,32,15,12,7,8,7,2,8,8,15,7,8,2,4,16,15,2,7,2,5,15]
def Tab (w:ω):Prop:=fE aq7 w (some ⟨0,0,none⟩) oh
def Tab.below(h:Tab w)(H:w w'):Tab w':=fE.below h H
def fQ (v:Int):Int:=if 0<=v/\v<96 then oh[v.toNat]! else 0
def Pv: ∀x∈oh,1<=x/\x<=32:=by decide
def lq(v:Int):0<=fQ v/\fQ v<=32:=by
 unfold fQ;split;.have H:oh.length=96:=rfl;rw[getElem!_pos oh v.toNat (by omega)];have:=Pv _ (List.getElem_mem (l:=oh) (n:=v.toNat) (by omega));omega
 .omega
def pF(v:Int)(w:ω)(J:Tab w):Γ aj 156 #[v] w λe w'=>e=.returned (fQ v:Int)/\w'=w:=by
 unfold fQ;by_cases H:0<=v;focus(obtain⟨k,rfl⟩:=Int.eq_ofNat_of_zero_le H;by_cases M:k<96;(focus(have O:oh.length=96:=rfl;obtain⟨b,off,e,N,hc⟩:=J.int (i:=k) (by omega);simp only[aO,cZ,and_true]at e;obtain⟨rfl,rfl⟩:=e;rw[Υ (by omega),Int.toNat_natCast];generalize oh[k]! =x at*;simp only[aJ]at hc));rotate_left;focus(rw[Ξ (by omega)]))
 rotate_left 2;focus(rw[Ξ (by omega)])
 all_goals(go_enter func156,ntmps156;go_wp2;go_ret;exact⟨rfl,rfl⟩)
def SC (v:Int):Int:=if v=20\/v=52\/v=58 then 127 else if v=38\/v=43 then 126 else 0
def Yt (v:Int):Int:=if v=81 then 1 else if v=6\/v=8\/v=14\/v=15\/v=21\/v=46\/v=57\/v=71\/v=87 then 2 else if v=23 then 4 else if v=22 then 14 else if v=20\/v=25\/v=38\/v=43\/v=52\/v=55\/v=58\/v=78\/v=85 then 120 else 2 ^ (fQ v).toNat-1
def ai2(v:Int)(w:ω):Γ aj 205 #[v] w λe w'=>e=.returned (SC v:Int)/\w'=w:=by
 unfold SC;by_cases H:v=20;focus(subst H;simp only[reduceIte,Int.reduceEq,or_self,or_false])
 rotate_left;focus((have U:(v==20)=false:=by simpa using H);by_cases N:v=52;(focus(subst N;simp only[reduceIte,Int.reduceEq,or_true,or_self,or_false]));rotate_left;focus((have Z:(v==52)=false:=by simpa using N);by_cases O:v=58;(focus(subst O;simp only[reduceIte,Int.reduceEq,or_true,or_self,false_or]));rotate_left;focus((have aa:(v==58)=false:=by simpa using O);by_cases J:v=38;(focus(subst J;simp only[reduceIte,Int.reduceEq,or_self,or_false]));rotate_left;focus((have V:(v==38)=false:=by simpa using J);by_cases M:v=43;(focus(subst M;simp only[reduceIte,Int.reduceEq,or_true,or_self,false_or]));rotate_left;focus((have Y:(v==43)=false:=by simpa using M);simp only[H,N,O,J,M,or_self,if_false])))))
 all_goals(go_enter func205,ntmps205;go_wp2;go_ret;exact⟨rfl,rfl⟩)
def ai3(v:Int)(w:ω)(hT:Tab w):Γ aj 206 #[v] w λe w'=>e=.returned (Yt v:Int)/\w'=w:=by
 unfold Yt;have hw:=pF v w hT;have hr:=lq v;by_cases ak:v=81;.subst ak;simp only[reduceIte,Int.reduceEq,or_self,false_or];go_enter func206,ntmps206;go_wp2;go_ret;exact⟨rfl,rfl⟩
 have a5:(v==81)=false:=by simpa using ak
 by_cases h6:v=6;.subst h6;simp only[reduceIte,Int.reduceEq,or_self,or_false];go_enter func206,ntmps206;go_wp2;go_ret;exact⟨rfl,rfl⟩
 have e6:(v==6)=false:=by simpa using h6
 by_cases h8:v=8;focus(subst h8)
 rotate_left;focus((have e8:(v==8)=false:=by simpa using h8);by_cases H:v=14;(focus(subst H));rotate_left;focus((have an:(v==14)=false:=by simpa using H);by_cases J:v=15;(focus(subst J));rotate_left;focus((have ap:(v==15)=false:=by simpa using J);by_cases N:v=21;(focus(subst N));rotate_left;focus((have ar:(v==21)=false:=by simpa using N);by_cases aa:v=46;(focus(subst aa));rotate_left;focus((have aD:(v==46)=false:=by simpa using aa);by_cases ae:v=57;(focus(subst ae));rotate_left;focus((have aM:(v==57)=false:=by simpa using ae);by_cases ag:v=71;(focus(subst ag));rotate_left;focus((have a1:(v==71)=false:=by simpa using ag);by_cases am:v=87;(.subst am;simp only[reduceIte,Int.reduceEq,or_true,or_self,false_or];go_enter func206,ntmps206;go_wp2;go_ret;exact⟨rfl,rfl⟩);(have a7:(v==87)=false:=by simpa using am);by_cases U:v=23;(.subst U;simp only[reduceIte,Int.reduceEq,or_self,false_or];go_enter func206,ntmps206;go_wp2;go_ret;exact⟨rfl,rfl⟩);(have av:(v==23)=false:=by simpa using U);by_cases O:v=22;(.subst O;simp only[reduceIte,Int.reduceEq,or_self,false_or];go_enter func206,ntmps206;go_wp2;go_ret;exact⟨rfl,rfl⟩);(have au:(v==22)=false:=by simpa using O);by_cases M:v=20;(.subst M;simp only[reduceIte,Int.reduceEq,or_self,or_false];go_enter func206,ntmps206;go_wp2;go_ret;exact⟨rfl,rfl⟩);(have aq:(v==20)=false:=by simpa using M);by_cases V:v=25;(focus(subst V));rotate_left;focus((have aw:(v==25)=false:=by simpa using V);by_cases Y:v=38;(focus(subst Y));rotate_left;focus((have ax:(v==38)=false:=by simpa using Y);by_cases Z:v=43;(focus(subst Z));rotate_left;focus((have az:(v==43)=false:=by simpa using Z);by_cases ac:v=52;(focus(subst ac));rotate_left;focus((have aE:(v==52)=false:=by simpa using ac);by_cases ad:v=55;(focus(subst ad));rotate_left;focus((have aL:(v==55)=false:=by simpa using ad);by_cases af:v=58;(focus(subst af));rotate_left;focus((have aR:(v==58)=false:=by simpa using af);by_cases ai:v=78;(focus(subst ai));rotate_left;focus((have a4:(v==78)=false:=by simpa using ai);by_cases al:v=85;(.subst al;simp only[reduceIte,Int.reduceEq,or_true,or_self,false_or];go_enter func206,ntmps206;go_wp2;go_ret;exact⟨rfl,rfl⟩);(have a6:(v==85)=false:=by simpa using al);simp only[ak,h6,h8,H,J,N,aa,ae,ag,am,U,O,M,V,Y,Z,ac,ad,af,ai,al,or_self,if_false];generalize fQ v=x at*;obtain⟨k,rfl⟩:=Int.eq_ofNat_of_zero_le hr.1;(have hk:k<=32:=by omega);rw[Int.toNat_natCast];(have hp:(2:Int) ^ k<=4294967296:=by have:(2:Nat) ^ k<=2 ^ 32:=Nat.pow_le_pow_right (by decide) hk;(have h2:((2 ^ k:Nat):Int)=(2:Int) ^ k:=by simp);omega);(have a8:(1:Int)<=2 ^ k:=by have:0<(2:Nat) ^ k:=Nat.pos_of_ne_zero (by simp);(have h2:((2 ^ k:Nat):Int)=(2:Int) ^ k:=by simp);omega);go_enter func206,ntmps206;go_wp2_with(first|((with_reducible refine hw.mono ?_);rintro e w1⟨rfl,rfl⟩));go_ret;exact⟨rfl,rfl⟩))))))))))))))
 all_goals(simp only[reduceIte,Int.reduceEq,or_true,or_self,or_false];go_enter func206,ntmps206;go_wp2;go_ret;exact⟨rfl,rfl⟩)
def uX (v n:Int):Bool:=decide (fQ v≠0)&&decide (0<=n)&&decide (n<2 ^ (fQ v).toNat)&&(decide (n<=Yt v) || decide (0<SC v)&&decide (SC v<=n))
def JG(v n:Int)(w:ω)(hT:Tab w):Γ aj 160 #[v,n] w λe w'=>e=.returned (.bool (uX v n))/\w'=w:=by
 unfold uX;have O:=pF v w hT;have hm:=ai3 v w hT;have hs:=ai2 v w;have hr:=lq v;generalize fQ v=x at*;generalize Yt v=J at*;generalize SC v=H at*;obtain⟨k,rfl⟩:=Int.eq_ofNat_of_zero_le hr.1;have hk:k<=32:=by omega
 rw[Int.toNat_natCast];have r1:(decide ((k:Int)≠0)&&decide (0<=n)&&decide (n<2 ^ k)&&(decide (n<=J) || decide (0<H)&&decide (H<=n)))=(decide (k≠0)&&decide (0<=n)&&decide (n<2 ^ k)&&(decide (n<=J) || decide (0<H)&&decide (H<=n))):=by simp
 rw[r1];have af:(1:Int)<=2 ^ k:=by
  have:0<(2:Nat) ^ k:=Nat.pos_of_ne_zero (by simp);have h2:((2 ^ k:Nat):Int)=(2:Int) ^ k:=by simp
  omega
 by_cases Y:k=0;focus(subst Y;rw[show(decide ((0:Nat)≠0)&&decide (0<=n)&&decide (n<2 ^ 0)&&(decide (n<=J) || decide (0<H)&&decide (H<=n)))=false from rfl])
 rotate_left;focus((have k1:((k:Int)==0)=false:=by simp;omega);rw[decide_eq_true Y,Bool.true_and];by_cases h2:n<0;(focus(rw[decide_eq_false (show ¬0<=n by omega)];simp only[Bool.false_and]));rotate_left;focus((have Z:0<=n:=by omega);rw[decide_eq_true Z,Bool.true_and];by_cases V:n<2 ^ k;(focus((have d1:(n / 2 ^ k != 0)=false:=by rw[Int.ediv_eq_zero_of_lt Z V];rfl);rw[decide_eq_true V,Bool.true_and];by_cases h4:n<=J;(focus(rw[decide_eq_true h4,Bool.true_or];by_cases M:0<H;(focus(by_cases N:H<=n;go_enter func160,ntmps160;go_wp2_with(first|((with_reducible first|refine O.mono ?_|refine hm.mono ?_|refine hs.mono ?_);rintro e U⟨rfl,rfl⟩));go_ret;exact⟨rfl,rfl⟩;have ac:decide (H<=n)=false:=by simpa using N));rotate_left;focus(have aa:decide (0<H)=false:=by simpa using M)));rotate_left 2;focus((have ae:decide (n<=J)=false:=by simpa using h4);rw[ae,Bool.false_or];by_cases M:0<H;(focus(rw[decide_eq_true M,Bool.true_and];by_cases N:H<=n;(focus(rw[decide_eq_true N]));rotate_left;focus((have ac:decide (H<=n)=false:=by simpa using N);rw[ac])));rotate_left 2;focus((have aa:decide (0<H)=false:=by simpa using M);rw[aa,Bool.false_and]))));rotate_left 5;(focus((have ad: ¬n / 2 ^ k=0:=by intro e;have:=Int.lt_ediv_add_one_mul_self n (show(0:Int)<2 ^ k by omega);rw[e]at this;omega);(have d1:(n / 2 ^ k != 0)=true:=by simpa using ad);rw[decide_eq_false V,Bool.false_and];go_enter func160,ntmps160;go_wp2_with(first|((with_reducible refine O.mono ?_);rintro e U⟨rfl,rfl⟩));go_ret;exact⟨rfl,rfl⟩));all_goals(go_enter func160,ntmps160;go_wp2_with(first|((with_reducible first|refine O.mono ?_|refine hm.mono ?_|refine hs.mono ?_);rintro e U⟨rfl,rfl⟩));go_ret;exact⟨rfl,rfl⟩)))
 all_goals(go_enter func160,ntmps160;go_wp2_with(first|((with_reducible refine O.mono ?_);rintro e U⟨rfl,rfl⟩));go_ret;exact⟨rfl,rfl⟩)
section
section
variable (t:τ)
def Iz (a:UInt8) (n:Nat):UInt8:=UInt8.ofNat (a.toNat / 2 ^ n)
def Wp(a:UInt8)(n:Nat):(Iz a n).toNat=a.toNat / 2 ^ n:=by unfold Iz;rw[UInt8.toNat_ofNat'];have H:=a.toNat_lt;have J:a.toNat / 2 ^ n<=a.toNat:=Nat.div_le_self _ _;exact dF (by omega)
@[go_sem] theorem aci (a:UInt8) (yk:IntKind) (n:Int) (h0:0<=n) (hn:n<=8):γ .shr t (q8 a) (.int yk n)=pure (q8 (Iz a n.toNat)):=by
 have e:((a.toNat:Int) / 2 ^ n.toNat)=((Iz a n.toNat).toNat:Int):=by rw[Wp];simp
 show Op.shift .shr .u8 _ yk _=_;rw[shift_shr_u8 yk _ _ h0 hn];exact ξ (fun n=>(pure (Value.int .u8 n):Sem Θ)) e
@[go_sem] theorem ai4 (a:UInt8):γ .and t (q8 a) (.int .u8 1)=pure (q8 (a &&& 1)):=by
 have e:IntKind.u8.wrap ((aQ 8 (a.toNat:Int) &&& aQ 8 1).toNat:Int)=((a &&& 1).toNat:Int):=by rw[oD,IntKind.wrap_u8];have h:(a.toBitVec &&& aQ 8 1).toNat=(a &&& 1).toNat:=rfl;have:=(a &&& 1).toNat_lt;rw[h];omega
 show Op.intBits .and .u8 _ _=_;exact ξ (fun n=>(pure (Value.int .u8 n):Sem Θ)) e
def SE(a:UInt8):(a &&& 1).toNat=a.toNat % 2:=by simp
@[go_sem] theorem apV (a b:UInt8):γ .or t (q8 a) (q8 b)=pure (q8 (a ||| b)):=by
 have e:IntKind.u8.wrap ((aQ 8 (a.toNat:Int) ||| aQ 8 (b.toNat:Int)).toNat:Int)=((a ||| b).toNat:Int):=by rw[oD,oD,IntKind.wrap_u8];have h:(a.toBitVec ||| b.toBitVec).toNat=(a ||| b).toNat:=rfl;have:=(a ||| b).toNat_lt;rw[h];omega
 show Op.intBits .or .u8 _ _=_;exact ξ (fun n=>(pure (Value.int .u8 n):Sem Θ)) e
def oK(n:Nat):aQ 64 (n:Int)=bT 64 n:=by rfl
def afP(n b:Nat)(hm:n<4294967296)(H:b<2):bits .or .i64 ((n:Int)*2) (b:Int)=((2*n+b:Nat):Int):=by
 show IntKind.i64.wrap ((aQ 64 ((n:Int)*2) ||| aQ 64 (b:Int)).toNat:Int)=_;rw[show(n:Int)*2=((2*n:Nat):Int) by omega,oK,oK,BitVec.toNat_or,BitVec.toNat_ofNat,BitVec.toNat_ofNat,dF (by omega),dF (by omega)];have h:2*n ||| b=2*n+b:=by have:=Nat.shiftLeft_add_eq_or_of_lt (i:=1) (b:=b) (by omega) n;rw[Nat.shiftLeft_eq]at this;rw[show 2*n=n*2 ^ 1 by omega];exact this.symm
 rw[h,IntKind.wrap_i64];omega
def Zz(x:Int)(H:0<=x)(J:x<9223372036854775808):γ .and t x (1:Int)=pure (.int .i64 (x % 2:Int)):=by
 obtain⟨n,rfl⟩:=Int.eq_ofNat_of_zero_le H;have e:IntKind.i64.wrap ((aQ 64 (n:Int) &&& aQ 64 1).toNat:Int)=((n:Int) % 2):=by rw[oK,show aQ 64 1=bT 64 1 from rfl,BitVec.toNat_and,BitVec.toNat_ofNat,BitVec.toNat_ofNat,dF (by omega),dF (by decide),Nat.and_one_is_mod,IntKind.wrap_i64];omega
 show Op.intBits .and .i64 _ _=_;exact ξ (λn=>(pure (Value.int .i64 n):Sem Θ)) e
end
end
structure rY (w:ω) (p:Nat) (bs:List UInt8) (at_:Nat) (A:Option δ) (c:Nat):Prop where
  blk:fK w p 308 #[.slice A bs.length c,.int .i64 at_]
  bytes:aq2 w A c bs
  far: ∀a,A=some a->a.block≠p
def rY.below{p:Nat}(h:rY w p bs at_ A c)(H:w w'):rY w' p bs at_ A c:=⟨h.blk.below H h.blk.lt,h.bytes.below H,h.far⟩
def ai5{p:Nat}(h:rY w p bs at_ A c)(U:bs.length<=65536)(N:at_<=8*bs.length):Γ aj 242 #[.pointer p] w λe w'=>e=.returned (.int .i64 (8*(bs.length:Int)-at_))/\w w':=by
 have hB:=h.blk;generalize bs.length=n at*;go_enter func242,ntmps242;go_wp2_with fail;refine ara (by kernel_rfl) ?_;repeat(first|(apply gX.want rfl;(.intro w' H K J M;have O:=(hB.below H hB.lt).cell;go_wp2_with(fail);first|exact aH _ _);(.simp only[aP,ay,aA,aB];rfl)))
 refine gX.nil ?_;intro w' H;go_wp2_with fail;go_ret;exact⟨rfl,H⟩
def afQ (bs:List UInt8) (i:Nat):Nat:=((Iz (nth bs (i / 8)) (7-i % 8)) &&& 1).toNat
def Yu(bs:List UInt8)(i:Nat):afQ bs i<2:=by unfold afQ;rw[SE];omega
def Mc (bs:List UInt8) (at_:Nat):Nat->Nat
 |0=>0
 |k+1=>2*Mc bs at_ k+afQ bs (at_+k)
def Px(bs:List UInt8)(at_:Nat): ∀k,Mc bs at_ k<2 ^ k
 |0=>by simp[Mc]
 |k+1=>by have H:=Px bs at_ k;have J:=Yu bs (at_+k);rw[Mc,Nat.pow_succ];omega
def uY (n at_:Nat) (width:Int):Int:=if width<1\/32<width then 1 else if 8*(n:Int)-at_<width then 10 else 0
def EM (bs:List UInt8) (at_:Nat) (width:Int):Nat:=if uY bs.length at_ width=0 then Mc bs at_ width.toNat else 0
def xH (n at_:Nat) (width:Int):Nat:=if uY n at_ width=0 then at_+width.toNat else at_
def arR (w:ω) (p:Nat) (bs:List UInt8) (at_:Nat) (A:Option δ) (c:Nat) (width:Int) (e:ε) (w':ω):Prop:=e=.returned (.tuple #[.int .i64 (EM bs at_ width),.int .i64 (uY bs.length at_ width)])/\Stp [(p,some 1)] w w'/\rY w' p bs (xH bs.length at_ width) A c
def acj{p:Nat}(h:rY w p bs at_ A c)(hl:bs.length<=65536)(ha:at_<=8*bs.length)(H:Int):Γ aj 212 #[.pointer p,H] w (arR w p bs at_ A c H):=by
 unfold arR EM xH;have hB:=h.blk;have ac:=hB.cell;have J:uY bs.length at_ H=if H<1\/32<H then 1 else if 8*(bs.length:Int)-at_<H then 10 else 0:=rfl
 generalize uY bs.length at_ H=E at*;by_cases O:H<1
 .obtain rfl:E=1:=by rw[J,Υ (.inl O)]
  clear J;rw[Ξ (by decide),Ξ (by decide)];have Z:decide (H<1)=true:=by simpa using O
  go_enter func212,ntmps212;go_wp2_with fail;go_ret2;exact⟨rfl,Stp.refl _ _,h⟩
 by_cases U:32<H
 .obtain rfl:E=1:=by rw[J,Υ (.inr U)]
  clear J;rw[Ξ (by decide),Ξ (by decide)];have Z:decide (32<H)=true:=by simpa using U
  go_enter func212,ntmps212;go_wp2_with fail;go_ret2;exact⟨rfl,Stp.refl _ _,h⟩
 rw[Ξ (by omega)]at J;obtain⟨m,rfl⟩:=Int.eq_ofNat_of_zero_le (show 0<=H by omega);have ae:=ai5 h hl ha;by_cases V:8*(bs.length:Int)-at_<m
 .obtain rfl:E=10:=by rw[J,Υ V]
  clear J;rw[Ξ (by decide),Ξ (by decide)];have Z:decide (8*(bs.length:Int)-at_<m)=true:=by simpa using V
  go_enter func212,ntmps212;go_wp2_with(first|((with_reducible refine ae.mono ?_);rintro fU fJ⟨rfl,M⟩));go_ret2;exact⟨rfl,Stp.of_below M _,h.below M⟩
 obtain rfl:E=0:=by rw[J,Ξ V]
 clear J;rw[Υ rfl,Υ rfl,Int.toNat_natCast];have Z:decide (8*(bs.length:Int)-at_<m)=false:=by simpa using V
 have aL:1<=m:=by omega
 have aM:m<=32:=by omega
 have ax:at_+m<=8*bs.length:=by omega
 clear O U V;go_enter func212,ntmps212;go_wp2_with(first|((with_reducible refine ae.mono ?_);rintro fU fJ⟨rfl,M⟩));have h':=h.below M;have Y:=Stp.of_below M [(p,some 1)];clear M ac hB Z ae ha;go_loopw [6,18] (λn i wr=> ∃k:Nat,k<=m/\n=.int .i64 (Mc bs at_ k:Nat)/\i=.int .i64 k/\Stp [(p,some 1)] w wr/\rY wr p bs (at_+k) A c) (λ_ i _=>m-(intOf i).toNat);case atStart=>exact⟨0,aV _,rfl,rfl,Y,h'⟩
 case round=>
  clear h h' Y;obtain⟨k,hk,rfl,rfl,Y,h⟩:=hrel;have hB:=h.blk;have ac:=hB.cell;by_cases aE:k<m
  .have aq:Mc bs at_ k<4294967296:=aU (Px bs at_ k) (aG (Nat.pow_le_pow_right (by decide) (by omega:k<=32)) (by decide));obtain⟨b,off,rfl,hb,an⟩:=h.bytes.at_ (k:=(at_+k) / 8) (by omega);have ai:Mc bs at_ (k+1)=2*Mc bs at_ k+((Iz (nth bs ((at_+k) / 8)) (7-(at_+k) % 8)) &&& 1).toNat:=rfl;have af:=Yu bs (at_+k);unfold afQ at af;(have aD:at_+k<524288:=by omega);have HN:=ah ai;clear ai;generalize Mc bs at_ k=n0 at*;generalize nth bs ((at_+k) / 8)=ak at*;generalize hj:at_+k=j at*;(have hq:(j:Int) / 8=((j / 8:Nat):Int):=by omega);(have hr:(j:Int) % 8=((j % 8:Nat):Int):=by omega);(have a1:j / 8<bs.length:=by omega);generalize j / 8=q at*;generalize j % 8=r at*;have au:=aci 5 ak .i64 (7-(r:Int)) (by omega) (by omega);rw[show(7-(r:Int)).toNat=7-r by omega]at au;go_wp2_with fail;apply qp (Below wr) (λW=>aq3 gY 1) (λ_ _ _ O U=>O.trans U) (λ_=>Below wr) (λ_ _ _ h=>h) (λ_ _=>True) (λ_=>trivial) (λ_ _ _ _ _ _ _=>trivial);(case lX=>intro u;simp only[bV,List.dropLast,aq9,aP,ay,aA,aB,aT,aJ];rfl);(case hm=>kernel_rfl);(case hB=>kernel_rfl);(case hA=>kernel_rfl);case hap=>kernel_rfl
   repeat(first
      |(apply kE.is
        ·
          (intro u w' hk aR N
           simp[fH,aC,Is]at N
           refine fC ?_ ?_
           ·
             first
             |rfl
           intro K hK
           have ap:=(hB.below hk hB.lt).cell;have av:=(hk.cell (p:=⟨b,off+q,none⟩) hb).trans an
           go_wp2_with (fail)
           try simp only[N]at hK
           refine hK _ _ ?_ rfl
           first |exact aH _ _)))
   refine kE.last ?_ ?_;(.intro i' j Φ az _ hj v W W' Ez ht;have hm:=bP hj;simp only[aZ,bQ,bJ,dH,or_false]at hm;repeat(first|(rcases hm with rfl |hm;exact Ez)));intro u w2 ad _ N;simp only[gQ]at N;refine⟨rfl,?_⟩;intro K hK;have ag:=N 22 _ rfl;simp only[Is]at ag;clear N;simp only[ag];have aa:=hB.below ad hB.lt;have ap:=aa.cell;have aw:=aa.frozen 1;go_wp2_with fail;go_roundw;(case rel=>have am:aq2 (w2.setCell ⟨p,1,none⟩ (.int .i64 ((j:Int)+1))) (some ⟨b,off,none⟩) c bs:=(h.bytes.below ad).apart aa (by simp[is8]) (by simp[dD]) λg hg=>aN w2 ⟨p,1,none⟩ _ g hg;have ar:=(Y.trans (Stp.of_below ad _)).trans (Stp.cell (w:=w2) p 1 (.int .i64 ((j:Int)+1)));have al:=aa.iV 1 (.int .i64 ((j:Int)+1));refine⟨k+1,by omega,by rw[HN.out,<-afP n0 _ aq af,SE];simp,by go_num,ar,⟨?_,am,h.far⟩⟩;rw[show at_+(k+1)=j+1 by omega];simpa using al);case measure=>simp[intOf];omega
  ·(obtain rfl:k=m:=by omega);clear ac;go_wp2_with fail;go_ret2;exact⟨rfl,Y,h⟩
inductive Pt where
  |nil
  |pl (v:Int) (r:Pt)
  |grp (k:Int) (l r:Pt)
def Pt.row:List Int->Pt
 | []=> .nil
 |v::l=> .pl v (Pt.row l)
def Pt.app:Pt->Pt->Pt
 | .nil,q=>q
 | .pl v r,q=> .pl v (r.app q)
 | .grp k l r,q=> .grp k l (r.app q)
def Pt.ands:List Pt->Pt
 | []=> .nil
 |p::l=>p.app (Pt.ands l)
def Pt.len:Pt->Nat
 | .nil=>0
 | .pl _ r=>r.len+1
 | .grp _ _ r=>r.len+1
def Pt.size:Pt->Nat
 | .nil=>0
 | .pl _ r=>r.size+1
 | .grp _ l r=>l.size+r.size+1
def lu (id:Int):Option Pt:=if id=0 then some (Pt.ands [Pt.row [7,8,4],.nil,Pt.row [13,14,15,16,17,18],.grp 3 (Pt.row [19]) .nil,Pt.row [20,21,22,23],.grp 2 (Pt.row [24]) .nil]) else if id=1 then some (Pt.ands [Pt.row [7,8,4],Pt.row [74],Pt.row [13,14,15,16,17,18],.grp 3 (Pt.row [19]) .nil,Pt.row [20,21,22,23],.grp 2 (Pt.row [24]) .nil]) else if id=3 then some (Pt.ands [Pt.row [6,7,8],Pt.row [84,27],.grp 1 (Pt.row [10]) .nil,Pt.row [85,87,86]]) else if id=5 then some (Pt.ands [Pt.row [6,7,8],Pt.ands [Pt.ands [Pt.row [44,12],.grp 2 (Pt.row [10]) .nil,Pt.row [11,45,46,47]],Pt.row [27],.grp 1 (Pt.ands [Pt.row [44,12],.grp 2 (Pt.row [10]) .nil,Pt.row [11,45,46,47]]) .nil]]) else if id=11 then some (Pt.ands [Pt.row [7,75,76,77,78,79,80,81,27],.grp 1 (Pt.row [82]) .nil,Pt.row [27],.grp 1 (Pt.row [83]) .nil]) else if id=15 then some (Pt.ands [Pt.row [6,7,8,25,26,27],.grp 1 (Pt.ands [Pt.row [28],Pt.ands [Pt.row [29],.grp 2 (Pt.row [30,31]) .nil]]) .nil,Pt.row [32],Pt.ands [Pt.row [29],.grp 2 (Pt.row [30,31]) .nil],Pt.row [33],.grp 2 (Pt.row [34,35]) .nil,Pt.row [36],.grp 2 (Pt.row [37,38]) .nil,Pt.row [39],.grp 2 (Pt.row [40,41,42,43]) .nil]) else if id=21 then some (Pt.ands [Pt.row [6,7,8],Pt.ands [Pt.row [48,49,50],Pt.row [27],.grp 1 (Pt.row [48,49,50]) .nil]]) else if id=27 then some (Pt.ands [Pt.row [6,7,8],Pt.ands [Pt.row [51,52,53,27],.grp 1 (Pt.row [54,55]) .nil],Pt.row [27],.grp 1 (Pt.ands [Pt.row [51,52,53,27],.grp 1 (Pt.row [54,55]) .nil]) .nil]) else if id=42 then some (Pt.row [6,7,62,10,63,64,64,65]) else if id=57 then some (Pt.row [6,7,66,67,68]) else if id=58 then some (Pt.ands [Pt.row [6,7,8],Pt.row [69,70,71,27],.grp 1 (Pt.row [72,73]) .nil]) else if id=80 then some (Pt.ands [Pt.row [6,7,8],Pt.ands [Pt.row [56,57,58,59,60,61],Pt.row [27],.grp 1 (Pt.row [56,57,58,59,60,61]) .nil]]) else none
def jg {σ:Type} (f:σ->Except Int σ):Nat->σ->Except Int σ
 |0,s=> .ok s
 |n+1,s=>match f s with
   | .error e=> .error e
   | .ok s'=>jg f n s'
def qC (k last:Int):Nat:=if k=1 then last.toNat else if last=1\/k=3/\last=2 then 1 else 0
def mV {σ:Type} (val:Int->σ->Except Int (Int × σ)):Pt->Int->σ->Except Int σ
 | .nil,_,s=> .ok s
 | .pl v r,_,s=>match val v s with
   | .error e=> .error e
   | .ok (n,s')=>mV val r n s'
 | .grp k l r,last,s=>match jg (mV val l 0) (qC k last) s with
   | .error e=> .error e
   | .ok s'=>mV val r last s'
def lC (v:Int) (s:List Int × List (Int × Int)):Except Int (Int × (List Int × List (Int × Int))):=if v=7 then .ok (0,s.1,s.2++ [(0,fQ v)]) else match s.1 with
 | []=> .error 20
 |n::rest=>if uX v n=true then .ok (n,rest,s.2++ [(n,fQ v)]) else .error 20
structure Pk where
  id:Int
  v:List Int
  deriving DecidableEq
def kG (p:Pk):Except Int (List (Int × Int)):=match lu p.id with
 |none=> .error 50
 |some q=>match mV lC q 0 (p.v,[(p.id,fQ 5)]) with
   | .error e=> .error e
   | .ok (rest,l)=>if rest= [] then .ok l else .error 20
def arf (l:List (Int × Int)):Int:=(l.map (·.2)).sum
def Yv (id:Int):Bool:=decide (id=0) || decide (id=1) || decide (id=11)
def vS (l:List (Int × Int)) (i:Nat) (n:Int):List (Int × Int):=l.modify i fun x=>(n,x.2)
def mO (p:Pk):Except Int (List (Int × Int)):=match kG p with
 | .error e=> .error e
 | .ok l=>if 8184<arf l then .error 2 else .ok (vS l (if Yv p.id=true then 1 else 2) (arf l))
structure Up where
  at_:Nat
  v:List Int
  size:Int
  deriving DecidableEq
def zK (bs:List UInt8) (v:Int) (s:Up):Except Int (Int × Up):=if uY bs.length s.at_ (fQ v)≠0 then .error (uY bs.length s.at_ (fQ v)) else if uX v (EM bs s.at_ (fQ v))=false then .error 20 else .ok (EM bs s.at_ (fQ v),if v=7 then {s with at_:=xH bs.length s.at_ (fQ v),size:=EM bs s.at_ (fQ v)} else {s with at_:=xH bs.length s.at_ (fQ v),v:=s.v++ [(EM bs s.at_ (fQ v):Int)]})
def aok:bits .and .u64 (IntKind.u64.wrap (-8)) 31=24:=by decide
def k_3:bits .and .u64 3 31=3:=by decide
def acn(x:BitVec 32)(w:ω):Γ aj 239 #[q32 x,(-8:Int)] w λe w'=>e=.returned (q32 (x.rotateLeft 24))/\w=w':=by have h:=aok;go_enter func239,ntmps239;go_wp2;go_ret;repeat' constructor
def aia(x:BitVec 32)(w:ω):Γ aj 239 #[q32 x,(3:Int)] w λe w'=>e=.returned (q32 (x.rotateLeft 3))/\w=w':=by have h:=k_3;go_enter func239,ntmps239;go_wp2;go_ret;repeat' constructor
def arC (k:K4) (i:Nat):Array Θ:=((eY 27).map fun j=>if j<i then q32 (rk k j) else q32 0).toArray
def lA (k:K4) (i:Nat):Array Θ:=((eY 3).map fun j=>q32 (lk k (i+(j+3-i % 3) % 3))).toArray
def xI(k:K4)(i:Nat):(arC k i).size=27:=by rfl
def aco(k:K4)(i:Nat):(arC k i).setIfInBounds i (q32 (rk k i))=arC k (i+1):=by
 apply Array.ext;.simp[arC]
 .intro j J H;simp only[arC,List.size_toArray,eU,List.length_range]at H;simp only[arC,List.getElem_toArray,List.getElem_map,List.getElem_range];by_cases h:i=j;.grind
  .grind
def acp(k:K4)(i:Nat):(arC k i).all (·.oneCell')=true:=by rw[Array.all_eq_true_iff_forall_mem];intro v H;simp only[arC,List.mem_toArray,List.mem_map]at H;obtain⟨j,_,rfl⟩:=H;split <;> rfl
def Yw(k:K4)(i j:Nat)(H:j<27):(arC k i)[j]? =some (if j<i then q32 (rk k j) else q32 0):=by simp[arC,H]
def ZA(k:K4)(j:Nat)(H:j<27):(arC k 27)[j]? =some (q32 (rk k j)):=by rw[Yw k 27 j H,Υ H]
def alR(k:K4)(i:Nat):(lA k i)[i % 3]? =some (q32 (lk k i)):=by
 have h:i % 3<3:=Nat.mod_lt _ (by decide);have e:(i % 3+3-i % 3) % 3=0:=by omega
 simp[lA,h]
def ai6(k:K4)(i:Nat):(lA k i).setIfInBounds (i % 3) (q32 (lk k (i+3)))=lA k (i+1):=by
 apply Array.ext;.simp[lA]
 .intro j H J;have M:j<3:=by assumption
  by_cases h:i % 3=j;.subst h;(have e:i+3=i+1+(i % 3+3-(i+1) % 3) % 3:=by omega);simp only[lA,ay,List.getElem_toArray,List.getElem_set_self,List.getElem_map,List.getElem_range];grind
  ·(have e:i+(j+3-i % 3) % 3=i+1+(j+3-(i+1) % 3) % 3:=by omega);simp only[lA,ay,List.getElem_toArray,List.getElem_set_ne h,List.getElem_map,List.getElem_range];rw[e]
def acr(k:K4)(w:ω):Γ aj 238 #[.agg #[q32 k.k0,q32 k.k1,q32 k.k2,q32 k.k3]] w λe w'=>e=.returned (arC k 27)/\w w':=by
 go_enter func238,ntmps238;go_wp2;go_loopw [4,16] (λr c wr=> ∃i n:Nat,i<=27/\c=.int .i64 i/\r=q32 (rk k i)/\wr=((((w.alloc (.cells #[q32 k.k0,q32 k.k1,q32 k.k2,q32 k.k3] 32)).alloc (.cells (arC k 0) 335)).alloc (.cells (arC k i) 335)).alloc (.cells (lA k i) 363)).drewN n) (λ_ c _=>27-(intOf c).toNat);case atStart=>exact⟨0,0,by omega,rfl,rfl,rfl⟩
 case round=>
  obtain⟨i,n,hi,rfl,rfl,rfl⟩:=hrel;by_cases N:i<27;.have O:=Yw k i i N;have U:=alR k i;have M:=aco k i;have H:=ah M;have J:=ah (ai6 k i);go_wp2_with((with_reducible refine(acn _ _).mono ?_);rintro e w'⟨rfl,rfl⟩);go_quiet((go_at_call 239;exact Calls.quiet_of_same ((aia _ _).mono λ_ _ ⟨a,b⟩=>⟨a,b.symm⟩)));go_wp2;refine⟨⟨i+1,n+nq,by omega,by go_num,rfl,?_⟩,by simp[intOf];omega⟩;rw[<-H.out,<-J.out,Nq,afo _ _ _ _ _ (by simp),Ya _ _ _ _ _ _ (by simp),Nq,Ya _ _ _ _ _ _ (by simp),World.drewN_drewN];rfl
  ·(obtain rfl:i=27:=by omega);go_wp2_with(first|(with_reducible refine wpList_load_row rfl 335 (.tmp 3) rfl (w.heap.size+1+1) rfl 335 (arC k 27) (0,0) _ ?_ underlying335 rfl (by rw[xI];kernel_rfl) ?_)|(with_reducible refine wpList_store_row rfl 335 (.tmp 2) (.tmp 43) rfl (w.heap.size+1) (arC k 27) rfl rfl 335 (arC k 0) ?_ (by rw[xI];kernel_rfl) (by rw[xI,xI]) (acp k 27) ?_));(.exact(((fK.newAt _ _ _ _ (by simp)).alloc _).drewN n));(.exact((((fK.newAt _ _ _ _ (by simp)).alloc _).alloc _).drewN n));.refine β (v:=.agg (arC k 27)) (results_cell_row results238 _ _ (w.heap.size+1) 335 (arC k 27) (0,0) _ rfl ?_ underlying335 rfl (by rw[xI];kernel_rfl)) rfl ⟨rfl,?_⟩;(.exact fK.row (old:=arC k 0) ((((fK.newAt _ _ _ _ (by simp)).alloc _).alloc _).drewN n) _);.exact jk (aq3 ((((jm.alloc (by simp) _).alloc (by simp <;> omega) _).alloc (by simp <;> omega) _)) n) (by omega) _
def Wq(w:ω):(isAgg 30).run aj w=.ok false w:=by simp
def afR(k:K4)(i:Nat)(hi:i<27)(w:ω):(Instr.index 335 (arC k 27) i).run aj w=.ok (q32 (rk k i)) w:=LQ 335 30 27 _ _ _ _ underlying335 Wq (by kernel_rfl) (by omega) (by omega) (ZA k i hi) w
def acs(k:K4)(i:Nat)(p:BitVec 32 × BitVec 32):OV k (i+1) p=ash (rk k i) (OV k i p):=rfl
def acu(k:K4)(x:BitVec 64)(w:ω):Γ aj 203 #[.agg #[q32 k.k0,q32 k.k1,q32 k.k2,q32 k.k3],q64 x] w λe w'=>e=.returned (q64 (Enc k x))/\w w':=by
 go_enter func203,ntmps203;go_wp2_with((with_reducible refine(acr _ _).mono ?_);rintro e w'⟨rfl,M⟩);go_loop [5,6,16] (λu v c=> ∃i:Nat,i<=27/\c=.int .i64 i/\u=q32 (OV k i (arv x)).1/\v=q32 (OV k i (arv x)).2) (λ_ _ c=>27-(intOf c).toNat);case atStart=>exact⟨0,by omega,rfl,rfl,rfl⟩
 case round=>
  obtain⟨i,hi,rfl,rfl,rfl⟩:=hrel;have H:=ah (acs k i (arv x));generalize O:OV k i (arv x)=p at*;by_cases N:i<27;.have U:=afR k i N;go_wp2_with(first|((with_reducible first|refine(acn _ _).mono ?_|refine(aia _ _).mono ?_);rintro e w'⟨rfl,rfl⟩));go_round;(case rel=>exact⟨i+1,by omega,by go_num,by rw[H.out];rfl,by rw[H.out];rfl⟩);case measure=>simp[intOf];omega
  ·(obtain rfl:i=27:=by omega);have J:=ah O;go_wp2;go_ret;refine⟨?_,iP M⟩;unfold Enc;rw[J.out];rfl
section
attribute [local go_sem] Oper.semAt_some
def acv(a:BitVec 64):aQ 64 18446744073709551615 ^^^ a= ~~~ a:=by rfl
@[go_sem] theorem afj (a:BitVec 64):Op.unary .xor (q64 a)=pure (q64 (~~~ a)):=by have h:Op.unary .xor (q64 a)=γ .xor 0 (q64 (aQ 64 18446744073709551615)) (q64 a):=rfl;rw[h,afl,acv]
theorem afS(n:Nat)(h:n<18446744073709551616):Value.int .u64 (n:Int)=q64 (bT 64 n):=by unfold q64;rw[BitVec.toNat_ofNat,dF h]
def acw(k:K4)(x y:BitVec 32)(w:ω):Γ aj 154 #[.agg #[q32 k.k0,q32 k.k1,q32 k.k2,q32 k.k3],q32 x,q32 y] w λe w'=>
    e=.returned (.agg #[q32 (arp k x y).k0,q32 (arp k x y).k1,q32 (arp k x y).k2,q32 (arp k x y).k3])/\w w':=by
  go_enter func154,ntmps154
  go_wp2_with (first
    |((with_reducible refine(acu _ _ _).mono ?_);rintro e M⟨rfl,H⟩;obtain⟨U,Z⟩:=qG H;have Y:w.heap.size+1<M.heap.size:=by have:=H.size;simp at this;omega)
    |((with_reducible refine(acu _ _ _).mono ?_);rintro e N⟨rfl,J⟩;obtain⟨V,aa⟩:=qG J;have ac:M.heap.size<=N.heap.size:=J.size;have ad:w.heap.size+1<N.heap.size:=by omega))
  have O:=gZ (iP (Ir H)) J
  refine β (v:=.agg #[q32 (arp k x y).k0,q32 (arp k x y).k1,q32 (arp k x y).k2,q32 (arp k x y).k3]) ?_ rfl ⟨rfl,(((O.setCell (p:=⟨w.heap.size+1,0,none⟩) (by simp) _).setCell (p:=⟨w.heap.size+1,1,none⟩) (by simp) _).setCell (p:=⟨w.heap.size+1,2,none⟩) (by simp) _).setCell (p:=⟨w.heap.size+1,3,none⟩) (by simp) _⟩
  simp[results,results154,go_sem,U,V,Y]
  exact⟨rfl,rfl,rfl,rfl⟩
def mP (n₀ Bs:Nat) (W W':ω):Prop:= ∀b,b<n₀\/b=Bs->W'.heap[b]? =W.heap[b]?
def mP.refl(J H:Nat)(W:ω):mP J H W W:=λ_ _=>rfl
def mP.trans{J H:Nat}{X M N:ω}(h:mP J H X M)(k:mP J H M N):mP J H X N:=λb O=>(k b O).trans (h b O)
def mP.cell{M H:Nat}{X J:ω}(h:mP M H X J){b o:Nat}(N:b<M\/b=H):J.cell? ⟨b,o,none⟩=X.cell? ⟨b,o,none⟩:=World.cell?_of_block (a:=⟨b,o,none⟩) (h b N)
def mP.putObj{J H:Nat}{w:ω}(N:J<=w.heap.size)(O:H<w.heap.size)(W:ω)(l:Nat)(o M:Obj)(V:w.heap.size<=l)(_:W.heap[l]? =some o)(_:o.isCells=false)(_:o.isWalk=false):mP J H W (W.putObj l M):=λb U=>World.putObj_heap_other (by omega)
def mP.of_below{J H B:Nat}{W W':ω}(h:Below B W W')(M:J<=B)(N:H<B):mP J H W W':=λb O=>h.block b (by omega)
def mP.setCell{J H:Nat}{W:ω}{p:δ}(M:J<=p.block)(N:H≠p.block)(u:Θ):mP J H W (W.setCell p u):=λb O=>aN W p u b (by omega)
def Ws(A:Option δ)(n c:Nat)(w:ω):Γ aj 202 #[.slice A n c] w λe w'=>e=.returned (.func (.func 237) #[] #[.pointer w])/\w'=w.alloc (.cells #[.slice A n c] 45):=by go_enter func202,ntmps202;go_wp2;go_ret;simp
set_option maxRecDepth 100000 in
def Wu(n:Nat)(hn:1<=n)(l M V:Nat)(A:Option δ)(c:Nat)(bs:List UInt8)(J Y:List (BitVec 64)->ω->Prop)(hY : ∀ H x W, J H W → H.length < wX bs + 1 → YieldAt Fence.wide (n - 1) aj l #[q64 x] W λe W'=>
      (e =.returned true ∧ J (H ++ [x]) W' ∧ mP V M W W') ∨ (e =.returned false ∧ Y (H ++ [x]) W'))(W : ω)(ac : W.cell? ⟨M, 0, none⟩ = some (.slice A bs.length c))(av : bs.length ≤ 65536)(hc : ∀ k, k < bs.length → ∃ b off, A = some ⟨b, off, none⟩ ∧ b < V ∧ W.cell? ⟨b, off + k, none⟩ = some (q8 (nth bs k)))(h0 : J [] W):
    CallsIn Fence.wide n aj 237 #[.func (.yield l) #[] #[],.pointer M] W λe W'=>(∃v,e=.returned v)/\
      ((∃ ys, ys = pq bs ∧ J ys W') ∨ (∃ H, H <+: pq bs ∧ Y H W')) := by
  refine callsIn_of_wp func237 rfl trivial ?_ rfl
  simp only[ntmps237,List.size_toArray,bK,dU,aT,Nat.reduceSub,Array.replicate_succ,Array.replicate_zero,List.push_toArray,List.append_toArray,aZ,bQ]
  obtain⟨fn,tmps,assign,body,hy,hR⟩:=hY [] (bT 64 bs.length) W h0 (by simp)
  have e1:=afS bs.length (by omega)
  gi_wp2
  refine hR.mono ?_
  rintro e W3 (⟨rfl,ad,ak⟩ |⟨rfl,af⟩)
  ·
    gi_wp2_with fail
    gi_loopw [3] (λv wr=> ∃j:Nat,j<=wX bs/\v=.int .i64 ((8*j:Nat):Int)/\J (jY bs j) wr/\mP V M W wr) (λv _=>bs.length+8-(intOf v).toNat)
    case atStart=>exact⟨0,aV _,rfl,ad,ak⟩
    case round=>
      obtain⟨j,hj,rfl,Z,U⟩:=hrel
      have ar:=(U.cell (o:=0) (.inr rfl)).trans ac
      by_cases ax:8*j<bs.length
      ·
        gi_wp2_with fail
        gi_loop [4,18] (λx i=> ∃m:Nat,m<=8/\i=.int .i64 m/\x=q64 (w8 bs (8*j) m)) (λ_ i=>8-(intOf i).toNat)
        case atStart=>exact⟨0,by omega,rfl,rfl⟩
        case round=>
          obtain⟨m,hm,rfl,rfl⟩:=hrel
          by_cases az:m<8
          ·
            by_cases O:8*j+m<bs.length
            ·
              obtain⟨b,off,rfl,hb,ai⟩:=hc (8*j+m) O
              have au:=(U.cell (.inl hb)).trans ai
              have N:=ah (Nr bs (8*j) m O)
              gi_wp2_with fail
              refine⟨⟨m+1,by omega,by go_num,by rw[N.out]⟩,by simp[intOf];omega⟩
            ·
              have N:=ah (F8 bs (8*j) m O)
              gi_wp2_with fail
              refine⟨⟨m+1,by omega,by go_num,by rw[N.out]⟩,by simp[intOf];omega⟩
          ·
            obtain rfl:m=8:=by omega
            have aw:=Iu bs j
            obtain⟨aq,am,an,ap,aD,ag⟩:=hY (jY bs j) (w8 bs (8*j) 8) wr Z (by unfold wX;omega)
            gi_wp2_with fail
            refine ag.mono ?_
            rintro e W4 (⟨rfl,ae,al⟩ |⟨rfl,aa⟩)
            ·
              gi_wp2_with fail
              refine⟨⟨j+1,by unfold wX;omega,by go_num,by rw[CP];exact ae,U.trans al⟩,by simp[intOf];omega⟩
            ·
              gi_wp2_with fail
              refine β (results_none rfl _ _ _) rfl ?_
              refine⟨⟨_,rfl⟩,.inr ⟨jY bs (j+1),?_,by rw[CP];exact aa⟩⟩
              exact zA bs (by unfold wX;omega)
      ·
        obtain rfl:j=wX bs:=by unfold wX at hj |-;omega
        gi_wp2_with fail
        go_end0
        exact⟨⟨_,rfl⟩,.inl ⟨_,rfl,Z⟩⟩
  ·
    gi_wp2
    refine β (results_none rfl _ _ _) rfl ?_
    exact⟨⟨_,rfl⟩,.inr ⟨jY bs 0,zA bs (aV _),af⟩⟩
def Py(n:Nat)(hn:1<=n)(H J:Nat)(A:Option δ)(c:Nat)(bs:List UInt8)(w:ω)(V:w.cell? ⟨H,0,none⟩=some (.slice A bs.length c))(ae:H<w.heap.size)(af:J<=w.heap.size)(ac:bs.length<=65536)(hc : ∀ k, k < bs.length → ∃ b off, A = some ⟨b, off, none⟩ ∧ b < J ∧ w.cell? ⟨b, off + k, none⟩ = some (q8 (nth bs k))):
    SeqStopsK Fence.wide n aj 237 #[.pointer H] (λx:BitVec 64=> #[q64 x]) (mP J H) (λys=>ys=pq bs) (λad=>ad <+: pq bs) (wX bs+1) w:=λl N O W M _ _ Y U=>
  Wu n hn l H J A c bs N O Y W ((M.cell (p:=⟨H,0,none⟩) (by show H<_;omega)).trans V) ac
    (λk hk=> by
      obtain⟨b,off,e,Z,aa⟩:=hc k hk
      exact⟨b,off,e,Z,(M.cell (p:=⟨b,off+k,none⟩) (by show b<_;omega)).trans aa⟩) U
def SG{W W':ω}{row:Option Nat}{g:Nat}{t:τ}{cs:Array Θ}(h:fK W g t cs)(J:W.grownBy W' row)(M: ∀r,row=some r-> ∃o:Obj,W.heap[r]? =some o/\o.isCells=false):fK W' g t cs:=h.grown J (λe=>by obtain⟨o,H,hc⟩:=M g e.symm;unfold fK at h;rw[h]at H;injection H with H;subst H;cases hc)
def EN{W W':ω}(h:W W'):KeepsOthers W W':=KeepsOthers.of_grownBy (row:=none) ⟨h.os,h.tape,h.output,h.size,λk H _=>h.block k H⟩ (λ_ _ e=>by cases e)
set_option maxRecDepth 100000 in
def aib(k:K4)(A:Option δ)(c:Nat)(bs:List UInt8)(w:ω)(hb:aq2 w A c bs)(ai:bs.length<=65536):Γ aj 153 #[.agg #[q32 k.k0,q32 k.k1,q32 k.k2,q32 k.k3],.slice A bs.length c] w λe w'=>e=.returned (q64 (Mac k bs))/\w w':=by
 refine(callsIn_wide (n:=5)).1 ?_;refine callsIn_of_wp_marks func153 rfl trivial ?_ rfl;simp only[ntmps153,List.size_toArray,bK,dU,aT,Nat.reduceSub,Array.replicate_succ,Array.replicate_zero,List.push_toArray,List.append_toArray,aZ,bQ];gi_wp2_with (refine⟨trivial,?_⟩;gi_at_call 202;refine(callsIn_wide.2 (Ws _ _ _ _)).mono ?_;rintro e w'⟨rfl,rfl⟩);obtain⟨H,O⟩:=fD ((w.alloc (.cells #[q32 k.k0,q32 k.k1,q32 k.k2,q32 k.k3] 32)).alloc (.cells #[.int .u64 0] 134));have am:H.heap.size=w.heap.size+2:=by rw[O];simp
 have ad:w H:=by rw[O];exact((aH _ w).alloc ig _).alloc (by simp) _
 have ag:fK H w 32 #[q32 k.k0,q32 k.k1,q32 k.k2,q32 k.k3]:=by rw[O];exact(fK.new _ _ _).alloc _
 have ak:fK H (w.heap.size+1) 134 #[q64 (arw k 0 [])]:=by rw[O];exact fK.newAt _ _ _ _ (by simp)
 rw[<-O];have ae:(H.alloc (.cells #[.slice A bs.length c] 45)).cell? ⟨w.heap.size+1+1,0,none⟩=some (.slice A bs.length c):=(fK.newAt H 45 #[.slice A bs.length c] (w.heap.size+1+1) (by omega)).cell 0;have aa:w (H.alloc (.cells #[.slice A bs.length c] 45)):=ad.alloc (by omega) _;refine wpIn_rangeFunc_ownF rfl (by omega) (gf:=237) (lb:= #[.pointer (some ⟨w.heap.size+1+1,0,none⟩)]) rfl trivial (enters_of func237 (by kernel_rfl) rfl) (Py _ (by omega) (w.heap.size+1+1) w A c bs (H.alloc (.cells #[.slice A bs.length c] 45)) ae (by simp;omega) (by simp;omega) ai ?hc) mP.trans (mP.putObj (by simp;omega) (by simp;omega)) gY (λ_=>rfl) (λU W=>(fK W w 32 #[q32 k.k0,q32 k.k1,q32 k.k2,q32 k.k3]/\fK W (w.heap.size+1) 134 #[q64 (arw k 0 U)]/\w.heap.size+2<W.heap.size)/\w W) (λ_ _ _=>False) (OwnFrom.and (Own.from (λs X al row N Z hr=>⟨SG N.1 Z hr,SG N.2.1 Z hr,aU N.2.2 Z.size⟩) _) (ownFrom_below ig (by simp;omega))) (λ_ _ _ _ _ N _ _=>N) ⟨⟨ag.alloc _,ak.alloc _,by simp;omega⟩,aa⟩ (λx=>{tmps:= #[.agg #[q32 k.k0,q32 k.k1,q32 k.k2,q32 k.k3],.slice A bs.length c,.pointer w,υ,.int .u64 0,.pointer (some ⟨w.heap.size+1,0,none⟩),q64 x,.slice A bs.length c,.func (.func 237) #[] #[.pointer (some ⟨w.heap.size+1+1,0,none⟩)],q64 x,υ,υ,υ,υ,υ,υ],defers:= []}) ?assign ?body ?done ?stop;case hc=>intro i hi;obtain⟨b,off,e,ac,af⟩:=hb.at_ hi;exact⟨b,off,e,ac,(aa.cell (p:=⟨b,off+i,none⟩) ac).trans af⟩
 case assign=>intro l x W K Y;gi_wp2;exact Y
 case body=>
  rintro l U x W⟨⟨V,M,h3⟩,hB⟩ _;have c1:=V.cell;have c2:=M.cell;have f2:=M.frozen;gi_wp2_with (refine⟨trivial,?_⟩;gi_at_call 203;refine(CallsIn.inRound l (callsIn_wide.2 (acu _ _ _))).mono ?_;rintro e W2⟨rfl,J⟩;obtain⟨d1,d2⟩:=qG J;have z2:w.heap.size+1<W.heap.size:=by omega);have hn:fK (W2.setCell ⟨w.heap.size+1,0,none⟩ (q64 (Enc k (arw k 0 U ^^^ x)))) (w.heap.size+1) 134 #[q64 (arw k 0 (U++ [x]))]:=by rw[VF];exact(M.below J M.lt).iV 0 _
  refine⟨(EN J).trans (KeepsOthers.setCell _ _ _),(mP.of_below J (by omega) (by omega)).trans (mP.setCell (by simp) (by simp) _),⟨(V.below J V.lt).far (p:=⟨w.heap.size+1,0,none⟩) (by simp) _,hn,?_⟩,(hB.trans (J.mono hB.size)).setCell (p:=⟨w.heap.size+1,0,none⟩) (by simp) _⟩;have:=J.size;simp[dD];omega
 case done=>rintro D ys W hD rfl⟨⟨V,M,h3⟩,hB⟩ Y;have c2:=M.cell;gi_wp2;refine⟨by simp,.inl ⟨_,_,rfl,run_takeDeferred Y,?_⟩⟩;exact⟨_,results_tmp rfl _ _ _,rfl,hB.trans (belowK_b (w:=w) ig W D _ _ (by simp at hD;omega) Y rfl rfl)⟩
 case stop=>rintro D c U W _ _ h _;exact h.elim
end
section
def Pz:(aj.info? 5).map (λi=>(i.zero,i.size,i.bytes))=some (some (.int .u8 0),1,1):=by kernel_rfl
def arn (w:ω) (base:Nat) (A:Option δ) (c:Nat) (bs:List UInt8):Prop:=w.ownsRow base 5 1 (.slice A bs.length c) bs.length (aq6 bs)
def arI (A:Option δ):Option Nat:=A.map (·.block)
section
variable {w w':ω} {base:Nat} {A:Option δ} {c:Nat} {bs:List UInt8}
def arn.nil(w:ω)(base:Nat):arn w base none 0 []:=World.ownsRow_nil w base _ 1
def arn.bytes(h:arn w base A c bs):aq2 w A c bs:=by
 rcases h.2 with⟨H,_⟩ |⟨N,M,cur,H,_⟩;.simp only[dV]at H;obtain⟨rfl,J,rfl⟩:=H;rw[dw J];exact aq2.nil _
 .simp only[dV]at H;obtain⟨rfl,_,rfl⟩:=H;exact aq2.own h
def arn.below(h:arn w base A c bs)(H:w w'):arn w' base A c bs:=ar8 h H
def arn.alloc(h:arn w base A c bs)(o:Obj):arn (w.alloc o) base A c bs:=World.ownsRow.alloc h o
def arn.drew(h:arn w base A c bs):arn w.drew base A c bs:=h
def arn.drewN(h:arn w base A c bs)(n:Nat):arn (w.drewN n) base A c bs:=h
def oL(A:Option δ)(n c:Nat):(Value.slice A n c).ownBlock=arI A:=by cases A <;> rfl
def arn.gJ(h:arn w base A c bs): ∀g,arI A=some g->base<=g/\g<w.heap.size:=by have:=World.ownsRow.lt h;rw[oL]at this;omega
def arn.addr(h:arn w base A c bs)(hn:0<bs.length): ∃g,A=some ⟨g,0,none⟩/\base<=g/\g<w.heap.size:=by obtain⟨g,cap,e,H,J⟩:=World.ownsRow.form h hn;grind
def arn.stored{g:Nat}(h:arn w base g c bs)(k:Nat)(x:UInt8):arn (w.setCell ⟨g,k,none⟩ (q8 x)) base g c (bs.set k x):=by have:=(World.ownsRow.stored h k (q8 x)).1;unfold arn;rw[List.length_set,show aq6 (bs.set k x)=(aq6 bs).set k (q8 x) by simp[aq6,List.map_set]];omega
end
section
variable {P:χ} {w:ω}
def xJ{ops:Array ο}{rest:List ο}{o:ο}{a:Act}{Q:Exit->Act->ω->Prop}(V:o.guard=none)(s x:κ)(ho:o.op=.call {callee:=.builtin .append,args:= #[s,x],argTypes:= #[45,45]})(base:Nat)(A1:Option δ)(c1:Nat)(xs:List UInt8)(n1:Nat)(hs:a.eval s=.slice A1 n1 c1)(aa:n1=xs.length)(N:arn w base A1 c1 xs)(A:Option δ)(c:Nat)(bs:List UInt8)(n:Nat)(hx:a.eval x=.slice A n c)(hn:n=bs.length)(hr:aq2 w A c bs)(af:xs.length+bs.length<=140737488355328)(M:base<=w.heap.size)(h: ∀A2 c2 W,arn W base A2 c2 (xs++bs)->w.grownBy W (arI A1)->Below base w W->Δ aj ops Q rest (a.put o.dst (.slice A2 (n1+n) c2)) W):Δ aj ops Q (o::rest) a w:=by
 subst aa;subst hn;obtain⟨i0,Y,ac,ad,ae⟩:=info_parts Pz;refine wF w V s x 45 ho base 5 i0 _ 1 1 dW Y ac ad ae rfl (by omega) _ _ _ hs N w A bs.length c (aq6 bs) hx (hr.row.reads (aq8 bs)) (tY bs) (by constructor<;>grind) (by omega) M ?_;intro v' W J H h3;rw[oL]at H;have U:Below base w W:=(aH base w).grown H M (λk Z=>(N.gJ k Z).1);have O: ∃A2 c2,v'=.slice A2 (xs.length+bs.length) c2:=by
  rcases J.2 with⟨e,h0⟩ |⟨g,cap,_,e,_⟩;.grind
  .exact⟨_,_,e⟩
 obtain⟨A2,c2,rfl⟩:=O;refine h A2 c2 W ?_ H U;unfold arn;rw[bC,vJ];exact J
end
end
def ZB{p:Nat}(h:rY w p bs at_ A c):Γ aj 168 #[.pointer p] w λe w'=>e=.returned at_/\w'=w:=by have H:=h.blk.cell;go_enter func168,ntmps168;go_wp2_with fail;go_ret;simp
def xK (n:Nat):Array Θ:=madeCells (aS (.int .u8 0)) (n*1)
def vC(n:Nat):(xK n).size=n:=by unfold xK;rw[size_madeCells,Nat.mul_one]
def Gg(n:Nat)(hn:n<=65536)(w:ω):(Instr.makeSlice 45 (n:Int) (n:Int)).run aj w=.ok (.slice w n n) (w.alloc (.cells (xK n) 5)):=by have hi:=Pz;cases h:aj.info? 5 with|none=>grind|some i=>rw[h]at hi;simp only[eF,aO,Prod.mk.injEq]at hi;obtain⟨H,J,M⟩:=hi;have:=run_makeSlice (P:=aj) w 45 5 i (.int .u8 0) dW h H .i64 .i64 n n (by omega) (Int.le_refl _) (by grind) (by grind) (by omega);rw[J]at this;assumption
def SH (w:ω) (bs:List UInt8) (e:ε) (w':ω):Prop:= ∃p A c,e=.returned (.pointer (some ⟨p,0,none⟩))/\w.heap.size<=p/\rY w' p bs 0 A c/\(∀a,A=some a->w.heap.size<=a.block)/\w w'
def ai7(h:aq2 w A c bs)(hl:bs.length<=65536):Γ aj 165 #[.slice A bs.length c] w (SH w bs):=by
 have ak:=Gg bs.length hl;by_cases Y:bs.length=0
 .obtain rfl:=dw Y;simp only[dU,show((0:Nat):Int)=0 from rfl] at*;have H:Own w _ [_,_]:=Own.iY w 5 308 (xK 0) #[.slice w 0 0,zI];have Z:=H.b1.cell;go_enter func165,ntmps165;go_wp2_with(first|(refine wpList_copy_nothing rfl _ _ _ _ rfl 5 dW (by kernel_rfl) _ _ _ _ _ _ rfl rfl rfl ?_));go_ret;refine⟨w.heap.size+1,w.heap.size,0,rfl,by omega,⟨H.b1,⟨Row.nil _ _,aW _,aV _⟩,?_⟩,?_,H.below⟩;.simp
  simp
 .have H:Own w _ [_,_]:=Own.iY w 5 308 (xK bs.length) #[.slice w bs.length bs.length,zI];have Z:=H.b1.cell;have hA:=(h.below H.below);obtain⟨b,off,rfl,hb,_⟩:=h.at_ (k:=0) (by omega);have V:=H.b0;have O:=ah (aq8 bs);have ag: ∀j v,(aq6 bs)[j]? =some v->((w.alloc (.cells (xK bs.length) 5)).alloc (.cells #[.slice w bs.length bs.length,zI] 308)).cell? ((⟨b,off,none⟩:δ).add j)=some v:=by intro j v hj;(have ae:0<(aq6 bs).length:=by grind);obtain⟨b',al,e,_,hc⟩:=hA.row ae;cases e;rw[Addr.add_lit];exact hc j v hj
  have ad: ∀v∈aq6 bs,v.oneCell'=true:=tY bs;have aa:(aq6 bs).length=Nat.min bs.length bs.length:=by rw[O.out];exact(Nat.min_self _).symm
  have ac:0+(aq6 bs).length<=(xK bs.length).size:=by rw[O.out,vC];omega
  have U:(aq6 bs++(xK bs.length).toList.drop bs.length).toArray=(aq6 bs).toArray:=by rw[List.drop_eq_nil_of_le (by simp[vC]),List.append_nil]
  generalize N:aq6 bs=cl at*;have J:=ah N;have M:=ah U;clear N U;go_enter func165,ntmps165;go_wp2_with(first|(refine wpList_copy_own rfl _ _ _ _ rfl 5 dW (by kernel_rfl) _ _ _ _ _ _ _ rfl rfl (xK bs.length) 5 V cl aa ag ac ad ?_));go_ret;have ai:=V.row (aq6 bs).toArray;have af:=H.b1.OW (k:=w.heap.size) (by omega) (aq6 bs).toArray;rw[<-J.out]at M;refine⟨w.heap.size+1,w.heap.size,bs.length,rfl,by omega,?_,?_,?_⟩;.rw[<-J.out,M.out];refine⟨af,⟨?_,aW _,aG h.cap h.max⟩,?_⟩;(.have:=Row.block ai;omega);simp
  .simp
  .exact jk H.below ig _
def zG (K:Nat) (S:wE) (i:Nat) (w w':ω):Prop:=(i≠K->w w')/\(i=K->Stp S w w')
def zG.I7(h:zG K S i w w'):Stp S w w':=by
 by_cases e:i=K;.exact h.2 e
 .exact Stp.of_below (h.1 e) S
def Ac(hi:i≠K)(h:w w'):zG K S i w w':=⟨λ_=>h,λe=>absurd e hi⟩
def oM(hi:i≠K):zG K S i w w:=Ac hi gY
def yN(h:Stp S w w'):zG K S K w w':=⟨λe=>absurd rfl e,λ_=>h⟩
def Wv (K:Nat) (P:ω->Prop) (i:Nat) (w:ω):Prop:=i=K->P w
def yO(i:Nat)(w:ω):zG K S i w w:=⟨λ_=>aH _ _,λ_=>Stp.refl _ _⟩
def I8 (ops:Array ο) (K:Nat) (S:wE) (j:Nat) (Ω:(Nat->Θ)->ω->Prop):Prop:= ∀i,i≠j->mY ops i j-> ∀u v w w',Ω u w->zG K S i w w'->Ω (upd u i v) w'
def StT (ops:Array ο) (K:Nat) (S:wE):Nat->List ((Nat->Θ)->ω->Prop)->Prop
 |_,[]=>True
 |j,Ω::l=>I8 ops K S j Ω/\StT ops K S (j+1) l
def acy: ∀(l:List ((Nat->Θ)->ω->Prop)) (k:Nat),StT ops K S k l-> ∀j H,l[j]? =some H->I8 ops K S (k+j) H
 | [],_,_,j,H,h=>by simp at h
 |Ψ::l,k,h,0,H,hj=>by simp at hj;subst hj;exact h.1
 |Ψ::l,k,h,j+1,H,hj=>by have:=acy l (k+1) h.2 j H (by grind);grind
def yP(c:Θ):I8 ops K S j (gI j (Is c)):=λ_ H _ _ _ _ _ h _=>jy H h λ_ h=>h
def uZ{Φ:Θ->ω->Prop}(J: ∀v w w',Φ v w->w w'->Φ v w'):I8 ops K S K (gI K Φ):=λ_ H _ _ _ _ _ h M=>jy H h λ_ h=>J _ _ _ h (M.1 H)
def EO(h:StT ops K S 0 jU): ∀i j (H:(Nat->Θ)->ω->Prop),i≠j->i<jU.length->mY ops i j->jU[j]? =some H-> ∀u v w w',H u w->zG K S i w w'->H (upd u i v) w':=by intro i j H M _ J N u v W W' U O;have:=acy _ 0 h j H N;rw[aJ]at this;exact this i M J u v W W' U O
end Go.Proofs.YthnmgjngniciaaaGreatDoor
