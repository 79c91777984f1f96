/- Parts. -/
import Derived.Test.YthnmgjngniciaaaGreatDoorV02
import Derived.Sort.Grow
import Derived.Defers
import Derived.Recover
import Derived.Maps.OwnSet
import Derived.Carry
import Derived.MapKept
import Derived.Deep.Cut
set_option linter.all false
set_option maxHeartbeats 16000000
set_option maxRecDepth 8000
open Array renaming getElem?_eq_none->dI,getElem?_setIfInBounds_ne->dR
open Bool renaming and_eq_true->bM,false_eq_true->bU
open List renaming cons_append->bQ,drop_of_length_le->dJ,getElem?_cons_succ->fB,getElem?_cons_zero->eP,getElem?_eq_getElem->aI,getElem?_eq_none->dQ,getElem?_eq_some_iff->aX,getElem?_map->bW,getElem?_take_of_lt->dG,length_append->bC,length_cons->bK,length_map->eU,length_nil->dU,length_take->dX,map->bV,map_append->eX,mem_append->dK,mem_cons->bJ,mem_of_getElem?->bP,mem_singleton->dN,nil_append->aZ,not_mem_nil->dH,setIfInBounds_toArray->ay,set_cons_succ->aB,set_cons_zero->aA,take_of_length_le->aY
open Nat renaming add_zero->bI,le_of_eq->bZ,le_refl->aW,le_trans->aG,lt_of_lt_of_le->aU,lt_or_ge->eu,reduceAdd->aT,zero_add->aJ,zero_le->aV
open Option renaming getD_some->eG,map_some->eF
open Option.some renaming injEq->aO
namespace Go.Proofs.YthnmgjngniciaaaGreatDoor
open Go renaming Addr->δ,Calls->Γ,Ending->ε,Oper->ο,Operand->κ,Program->χ,TypeId->τ,Value->Θ,World->ω,bodyPost_ret->β,callFunc->ϕ,maxLen->μ,run_underlying->ν,undef->υ,wpList->Δ,wpList_plain->π,yielded->ψ
open Go.RowKit Go.Shelf Tryz
open Act renaming put->aP
open Addr.mk renaming injEq->cZ
open Below renaming heap_setCell->aN,refl->aH
open Instr renaming findNow->dY
open Lib renaming hid->ah
open Region renaming binds->aC,wanted->aF
open Result renaming andThen_ok->dO
open Tryz renaming prog->aj,underlying3->bG
open World renaming setCell->dD
variable{StE:(Nat->Prop)->ω->Prop}{ops:Array ο}{cap cs:Array Θ}{S:wE}{F:FuncId}{id n width:Int}{x:Int × Int}{l:List (Int × Int)}{bs:List UInt8}{B B' K c i p q:Nat}{s:Nat × Int}{T T':Nat->Prop}{A:Option δ}{R:Option Nat}{P:χ}{v:Θ}{Φ:Θ->ω->Prop}{W W' W'' a b w w' w0 wp:ω}{G:ω->ω->Prop}
theorem Row.I7{xs:List Θ}(h:Row w A xs)(H:Stp S w w')(hn: ∀a,A=some a-> ∀o,(a.block,o)∉S):Row w' A xs:=λM=>by obtain⟨b,off,e,j,hc⟩:=h M;refine⟨b,off,e,aU j H.size,λN u J=>?_⟩;have:=H.block b j (hn _ e);rw[<-hc N u J];simp only[World.cell?,this]
def fE.I7{α:Type}{E:arb α}{xs:List α}(h:fE E w A xs)(j:Stp S w w')(hn: ∀a,A=some a-> ∀o,(a.block,o)∉S):fE E w' A xs:=Row.I7 h j hn
theorem aq2.I7(h:aq2 w A c bs)(j:Stp S w w')(hn: ∀a,A=some a-> ∀o,(a.block,o)∉S):aq2 w' A c bs:=⟨h.row.I7 j hn,h.cap,h.max⟩
def Tab.I7(h:Tab w)(j:Stp S w w')(hn: ∀k o,(k,o)∈S->k≠0):Tab w':=fE.I7 h j (λa e o hm=>by cases e;exact hn _ _ hm rfl)
structure xM (w:ω) (q p:Nat) (bs:List UInt8) (s:Nat × Int) (A:Option δ) (c:Nat):Prop where
  blk:fK w q 260 #[.pointer (some ⟨p,0,none⟩),.int .i64 s.2]
  rd:rY w p bs s.1 A c
  ne:q≠p
  far: ∀a,A=some a->a.block≠q
  tab:Tab w
  q0:q≠0
  p0:p≠0
  len:bs.length<=65536
  inn:s.1<=8*bs.length
def xM.below(h:xM w q p bs s A c)(j:w w'):xM w' q p bs s A c:={h with blk:=h.blk.below j h.blk.lt,rd:=h.rd.below j,tab:=h.tab.below j}
def Yx{n at_:Nat}(h:at_<=8*n):xH n at_ width<=8*n:=by
 unfold xH;by_cases j:uY n at_ width=0
 .rw[Υ j];unfold uY at j;split at j;.omega
  .split at j <;> omega
 .rw[Ξ j];exact h
def uo (bs:List UInt8) (s:Nat × Int) (v:Int):Nat × Int:=if s.2=0 then(xH bs.length s.1 (fQ v),uY bs.length s.1 (fQ v)) else s
def nD (bs:List UInt8) (s:Nat × Int) (v:Int):Nat:=if s.2=0 then EM bs s.1 (fQ v) else 0
def Ad (w:ω) (q p:Nat) (bs:List UInt8) (s:Nat × Int) (A:Option δ) (c:Nat) (v:Int) (e:ε) (w':ω):Prop:=e=.returned (.int .i64 (nD bs s v))/\Stp [(p,some 1),(q,some 1)] w w'/\xM w' q p bs (uo bs s v) A c
def acz (p:Nat) (bs:List UInt8) (at_:Nat) (A:Option δ) (c:Nat) (width:Int) (v:Θ) (w:ω):Prop:=v=.tuple #[.int .i64 (EM bs at_ width),.int .i64 (uY bs.length at_ width)]/\rY w p bs (xH bs.length at_ width) A c
def acz.grow{at_:Nat}(h:acz p bs at_ A c width v w)(j:w w'):acz p bs at_ A c width v w':=⟨h.1,h.2.below j⟩
theorem Wx(h:xM w q p bs s A c)(v:Int):Γ aj 166 #[.pointer q,v] w (Ad w q p bs s A c v):=by
 obtain⟨at_,er⟩:=s;unfold Ad nD uo;have hB:=h.blk;have ag:=hB.cell;simp only at hB ag |-;by_cases V:er=0
 .subst V;rw[Υ rfl,Υ rfl];have af:=λW (Z:Tab W)=>pF v W Z;have ae:=λW (Z:rY W p bs at_ A c)=>acj Z h.len h.inn (fQ v);generalize fQ v=wd at*;unfold arR at ae;go_enter func166,ntmps166;go_wp2_with fail;apply gu (Stp ([(p,some 1)])) (λW=>Stp.drew _ _) (λ_ _ _ h1 h2=>h1.trans h2) (zG 6 ([(p,some 1)])) (λ_ _ _ h=>h.I7) yO (Wv 6 (λW=>rY W p bs at_ A c)) (λ_ _=>(λ(W W':ω) (h:rY W p bs at_ A c) (M:W W')=>h.below M) _ _ (show rY w p bs at_ A c from h.rd) (aq3 gY 1)) (λi av W W' al hp ht e=>(λ(W W':ω) (h:rY W p bs at_ A c) (M:W W')=>h.below M) _ _ (hp e) (ht.1 (λej=>al (e.trans ej.symm))));case lX=>intro u;simp only[bV,aq9,aP,ay,aA,aB,aT,aJ];with_reducible rfl
  case hm=>kernel_rfl
  case hB=>kernel_rfl
  case hA=>kernel_rfl
  case hap=>kernel_rfl
  repeat(first
     |(refine fM.one (acz p bs at_ A c wd) ?_ ?_
       ·
         (intro u w' J N j
          replace N:=N rfl
          simp[fO,aC,gI,Is]at j
          refine fC ?_ ?_
          ·
            first
            |rfl
          intro K H
          go_wp2_with ((with_reducible refine(ae _ N).mono ?_);rintro e w3⟨rfl,ap,am⟩);(try simp only[j]at H);exact H _ _ (yN ap) ⟨rfl,am⟩))
     |(apply fM.is
       ·
         (intro u w' J N j
          simp[fO,aC,gI,Is]at j
          refine fC ?_ ?_
          ·
            first
            |rfl
          intro K H
          have ai:=(J.blk hB (by simp[h.ne])).cell;have ac:=h.tab.I7 J (by simp[h.p0])
          go_wp2_with ((with_reducible refine(af _ ac).mono ?_);rintro e w3⟨rfl,rfl⟩)
          try simp only[j]at H
          refine H _ _ ?_ rfl
          first |exact oM (by decide)))
     |(apply fM.is
       ·
         (intro u w' J N j
          simp[fO,aC,gI]at j
          first |(replace j:=j.1)
          refine fC ?_ ?_
          ·
            first
            |rfl
          intro K H
          have ai:=(J.blk hB (by simp[h.ne])).cell;have ac:=h.tab.I7 J (by simp[h.p0])
          go_wp2_with ((with_reducible refine(af _ ac).mono ?_);rintro e w3⟨rfl,rfl⟩)
          try simp only[j]at H
          refine H _ _ ?_ rfl
          first |exact oM (by decide))))
  refine fM.last (EO ?_) ?_;.simp only[gQ];(repeat(refine⟨?_,?_⟩;.first|exact yP _|exact uZ (λ_ _ _ h M=>h.grow M)));exact trivial
  intro u O aa _ j;simp only[gQ]at j;refine⟨rfl,?_⟩;intro K H;have h9:=j 9 _ rfl;have ad:=j 10 _ rfl;have Y:=(j 6 _ rfl).2;simp only[gI,Is]at h9 ad;simp only[h9,ad];have U:=aa.blk hB (by simp[h.ne]);have au:=U.frozen 1;have ar:=U.cell;have aq:=h.tab.I7 aa (by simp[h.p0]);go_wp2_with fail;go_ret;have an:=(aa.mono (S':= [(p,some 1),(q,some 1)]) (by simp)).trans ((Stp.cell (w:=O) q 1 (uY bs.length at_ wd:Int)).mono (by simp));have ak: ∀k,k≠q->(O.setCell ⟨q,1,none⟩ (uY bs.length at_ wd:Int)).heap[k]? =O.heap[k]? :=λk J=>aN O ⟨q,1,none⟩ _ k J;refine⟨rfl,an,⟨?_,⟨Y.blk.far (λe=>h.ne e.symm) _,Y.bytes.apart U (by simp[is8]) (by simp[dD]) ak,Y.far⟩,h.ne,h.far,?_,h.q0,h.p0,h.len,Yx h.inn⟩⟩;.simpa using U.iV 1 (uY bs.length at_ wd:Int)
  .exact aq.I7 (Stp.cell (w:=O) q 1 _) (by simp[h.q0])
 .rw[Ξ V,Ξ V];have e1:(er != 0)=true:=by simpa using V
  go_enter func166,ntmps166;go_wp2_with fail;go_ret;exact⟨rfl,Stp.refl _ _,h⟩
def sN (bs:List UInt8) (s:Nat × Int) (v:Int):Nat × Int:=if(uo bs s v).2=0/\uX v (nD bs s v)=false then((uo bs s v).1,20) else uo bs s v
def yQ (w:ω) (q p:Nat) (bs:List UInt8) (s:Nat × Int) (A:Option δ) (c:Nat) (v:Int) (e:ε) (w':ω):Prop:=e=.returned (.int .i64 (nD bs s v))/\Stp [(p,some 1),(q,some 1)] w w'/\xM w' q p bs (sN bs s v) A c
theorem SI(h:xM w q p bs s A c)(v:Int):Γ aj 167 #[.pointer q,v] w (yQ w q p bs s A c v):=by
 have N:=Wx h v;unfold yQ sN;unfold Ad at N;generalize uo bs s v=s2 at*;generalize nD bs s v=n at*;obtain⟨aa,er⟩:=s2;simp only;by_cases O:er=0;.subst O;have M:=λW (Y:Tab W)=>JG v n W Y;cases hm:uX v n with|false=>rw[hm]at M;rw[Υ ⟨rfl,rfl⟩];go_enter func167,ntmps167;go_wp2_with(first|((with_reducible refine N.mono ?_);rintro e V⟨rfl,J,j⟩;have U:=j.blk.cell;have iG:=j.blk.frozen 1)|((with_reducible refine(M _ j.tab).mono ?_);rintro e H⟨rfl,rfl⟩));go_ret;have Z: ∀k,k≠q->(H.setCell ⟨q,1,none⟩ (20:Int)).heap[k]? =H.heap[k]? :=λk hk=>aN H ⟨q,1,none⟩ _ k hk;refine⟨rfl,J.trans ((Stp.cell (w:=H) q 1 (20:Int)).mono (by simp)),⟨?_,⟨j.rd.blk.far (λe=>j.ne e.symm) _,j.rd.bytes.apart j.blk (by simp[is8]) (by simp[dD]) Z,j.rd.far⟩,j.ne,j.far,?_,j.q0,j.p0,j.len,j.inn⟩⟩;(.simpa using j.blk.iV 1 (20:Int));.exact j.tab.I7 (Stp.cell (w:=H) q 1 _) (by simp[j.q0])|true=>rw[hm]at M;rw[Ξ (by simp)];go_enter func167,ntmps167;go_wp2_with(first|((with_reducible refine N.mono ?_);rintro e V⟨rfl,J,j⟩;have U:=j.blk.cell)|((with_reducible refine(M _ j.tab).mono ?_);rintro e H⟨rfl,rfl⟩));go_ret;exact⟨rfl,J,j⟩
 .rw[Ξ (by simp[O])];have e2:(er==0)=false:=by simpa using O
  go_enter func167,ntmps167;go_wp2_with(first|((with_reducible refine N.mono ?_);rintro e V⟨rfl,J,j⟩;have U:=j.blk.cell));go_ret;exact⟨rfl,J,j⟩
def qw{α:Type}{E:arb α}{g:Nat}{t:τ}{xs:List α}(h:fK w g t cs)(j:cs.toList=E.flat xs):fE E w g xs:=λ_=>⟨g,0,rfl,h.lt,λJ u H=>by rw[aJ,h.cell,<-Array.getElem?_toList,j];exact H⟩
def PE (id:Int):Option (List Int × Int × List Int):=if id=2 then some ([8,95],-1,[]) else if id=3 then some ([],15,[3,5,21,27,57,58,80]) else if id=8\/id=137\/id=138\/id=146 then some ([2],-1,[]) else if id=9 then some ([],15,[5,80]) else if id=15 then some ([88,8,6,89,90],-1,[]) else if id=16\/id=18 then some ([88],-1,[]) else if id=24 then some ([],-1,[3,5,21,27,42,57,58]) else if id=32 then some ([92],-1,[]) else if id=33 then some ([8,89],15,[5,21,27,80]) else if id=34 then some ([8,89,6,72,28],-1,[]) else if id=38\/id=39\/id=40\/id=41\/id=43\/id=155\/id=156\/id=159 then some ([],-1,[]) else if id=129 then some ([],0,[11]) else if id=130\/id=136\/id=149\/id=150 then some ([],0,[]) else if id=132 then some ([94],0,[]) else if id=147 then some ([88,91],0,[]) else if id=157 then some ([93],0,[]) else none
def nG (id:Int):List Int × Int × List Int:=(PE id).getD ([],0,[])
structure ai8 (w w':ω) (f:List Int × Int × List Int) (A1:Option δ) (c1:Nat) (A3:Option δ) (c3:Nat):Prop where
  own:fE aq7 w' A1 f.1
  may:fE aq7 w' A3 f.2.2
  q1:f.1.length<=c1
  q3:f.2.2.length<=c3
  f1: ∀a,A1=some a->w.heap.size<=a.block
  f3: ∀a,A3=some a->w.heap.size<=a.block
def Af (f:List Int × Int × List Int) (A1:Option δ) (c1:Nat) (A3:Option δ) (c3:Nat):Array Θ:= #[.slice A1 f.1.length c1,.int .i64 f.2.1,.slice A3 f.2.2.length c3]
def Gh (w:ω) (id:Int) (e:ε) (w':ω):Prop:= ∃A1 c1 A3 c3,e=.returned (.tuple #[.agg (Af (nG id) A1 c1 A3 c3),.bool (PE id).isSome])/\ai8 w w' (nG id) A1 c1 A3 c3/\w w'
def Wy{F:Func}{Q:ε->ω->Prop}{x:Exit}{a:Act}{L:List Bk}(j:Own w W L)(k:Own w W L->bodyPost P F Q x a W):bodyPost P F Q x a W:=k j
def asc:List Int:= [2,3,8,137,138,146,9,15,16,18,24,32,33,34,38,39,40,41,43,155,156,159,129,130,136,149,150,132,147,157]
theorem afT(id:Int)(w:ω):Γ aj 155 #[.int .i64 id] w (Gh w id):=by
 by_cases h:id∈asc;case' pos=>simp only[asc,bJ,dH,or_false]at h;rcases h with rfl |rfl |rfl |rfl |rfl |rfl |rfl |rfl |rfl |rfl |rfl |rfl |rfl |rfl |rfl |rfl |rfl |rfl |rfl |rfl |rfl |rfl |rfl |rfl |rfl |rfl |rfl |rfl |rfl |rfl
 case' neg=>
  simp only[asc,bJ,dH,or_false,not_or]at h;have H:PE id=none:=by simp only[PE,h,or_self,if_false]
  have J:nG id=([],0,[]):=by unfold nG;rw[H];rfl
  simp only[<-beq_eq_false_iff_ne,ne_eq]at h;obtain⟨M,e1,e2,e3,e4,e5,e6,e7,e8,e9,N,O,U,V,Y,Z,aa,ac,ad,ae,af,ag,ai,ak,al,am,an,ap,aq,ar⟩:=h
 all_goals(
  unfold Gh;first|(simp only[H,J,Af,Option.isSome_none];clear H J)|simp only[nG,PE,Af,Int.reduceEq,or_false,or_true,if_true,if_false,eG,Option.isSome_some]
  go_enter func155,ntmps155;go_wp2_with fail;first|refine Wy (Own.start3 w _ _ _ _ _ _) λj=>?_|refine Wy (Own.iY w _ _ _ _) λj=>?_|refine Wy ((Own.nil w).afy _ _) λj=>?_
  refine β (gU results155 _ _ _ _ _ _ rfl rfl j.b0 underlying240 rfl (by kernel_rfl)) rfl ⟨_,_,_,_,rfl,⟨?_,?_,?_,?_,?_,?_⟩,j.below⟩;all_goals first|exact qw j.b1 rfl|exact qw j.b2 rfl|exact fE.nil _ _|decide|(intro a e;cases e <;> first |exact Nat.le_add_right _ 1 |exact Nat.le_add_right _ 2))
section
open Go.RowKit Go.Sort
def iZ (w w':ω):Prop:= ∃(q:Nat) (os:Array Obj),w'=grow (w.drewN q) os
def iZ.refl(w:ω):iZ w w:=⟨0,#[],by rfl⟩
def iZ.drewN(w:ω)(n:Nat):iZ w (w.drewN n):=⟨n,#[],by simp⟩
def iZ.drew(w:ω):iZ w w.drew:=⟨1,#[],by simp;rfl⟩
theorem iZ.trans{a b c:ω}(h:iZ a b)(k:iZ b c):iZ a c:=by obtain⟨q,os,rfl⟩:=h;obtain⟨H,j,rfl⟩:=k;refine⟨q+H,os++j,?_⟩;show grow (grow ((a.drewN q).drewN H) os) j=_;rw[grow_grow,World.drewN_drewN]
def iZ.alloc(w:ω)(o:Obj):iZ w (w.alloc o):=⟨0,#[o],by rfl⟩
theorem iZ.below{w w':ω}(h:iZ w w'):w w':=by obtain⟨q,os,rfl⟩:=h;exact⟨rfl,rfl,rfl,by simp,λk j=>heap_grow_old (w.drewN q) os j⟩
def WB (x y:Int):Θ->ω->Prop:=fun v w=> ∃g,v=.slice (some ⟨g,0,none⟩) 2 2/\g<w.heap.size/\w.cell? ⟨g,0,none⟩=some (.int .i64 x)/\w.cell? ⟨g,1,none⟩=some (.int .i64 y)
theorem WB.keep{x y:Int}{v:Θ}{w w':ω}(h:WB x y v w)(N:iZ w w'):WB x y v w':=by obtain⟨g,e,H,J,M⟩:=h;have j:=N.below;exact⟨g,e,aU H j.size,(j.cell (p:=⟨g,0,none⟩) H).trans J,(j.cell (p:=⟨g,1,none⟩) H).trans M⟩
def I9 (ops:Array ο) (j:Nat) (Φ:(Nat->Θ)->ω->Prop):Prop:= ∀i,i≠j->mY ops i j-> ∀u v w w',Φ u w->iZ w w'->Φ (upd u i v) w'
def StG (ops:Array ο):Nat->List ((Nat->Θ)->ω->Prop)->Prop
 |_,[]=>True
 |j,Φ::l=>I9 ops j Φ/\StG ops (j+1) l
theorem acA{ops:Array ο}: ∀(l:List ((Nat->Θ)->ω->Prop)) (k:Nat),StG ops k l-> ∀j Φ,l[j]? =some Φ->I9 ops (k+j) Φ
 | [],_,_,j,Φ,h=>by simp at h
 |Ψ::l,k,h,0,Φ,hj=>by simp at hj;subst hj;exact h.1
 |Ψ::l,k,h,j+1,Φ,hj=>by have:=acA l (k+1) h.2 j Φ (by grind);grind
def JH{ops:Array ο}{j:Nat}(c:Θ):I9 ops j (gI j (Is c)):=λ_ H _ _ _ _ _ h _=>jy H h λ_ h=>h
def Hz{ops:Array ο}{j:Nat}{x y:Int}:I9 ops j (gI j (WB x y)):=λ_ H _ _ _ _ _ h J=>jy H h λ_ h=>WB.keep h J
theorem SK{ops:Array ο}{H:List ((Nat->Θ)->ω->Prop)}(h:StG ops 0 H): ∀i j (Φ:(Nat->Θ)->ω->Prop),i≠j->i<H.length->mY ops i j->H[j]? =some Φ-> ∀u v w w',Φ u w->iZ w w'->Φ (upd u i v) w':=by intro i j Φ N _ M O u v W W' J U;have:=acA _ 0 h j Φ O;rw[aJ]at this;exact this i N M u v W W' J U
end
section
open Go.RowKit Go.Shelf Go.Sort
theorem ai9(s:Sp)(w:ω):Γ aj 96 #[.agg #[s.edge,s.lo,s.hi]] w λe w'=>e=.returned (.bool (lG s))/\w w':=by
 have O:Own w _ [_]:=(Own.nil w).alloc 130 #[s.edge,s.lo,s.hi] _ rfl;have aa:=O.b0.cell;obtain⟨M,j,H⟩:=s;have J:lG ⟨M,j,H⟩=(decide (0<=M)&&decide (0<=j)&&decide (j<H)&&decide (H<=1000000)):=rfl;generalize lG ⟨M,j,H⟩=sb at*;simp only at O aa |-;by_cases U:0<=M;focus((have f1:decide (0<=M)=true:=by simpa using U);by_cases V:0<=j;(focus((have N:decide (0<=j)=true:=by simpa using V);by_cases Y:j<H;(·(have f3:decide (j<H)=true:=by simpa using Y);rw[f1,N,f3]at J;have Z:=ah J;go_enter func96,ntmps96;go_wp2_with fail;go_ret;exact⟨by simp[Z.out],O.below⟩);focus((have f3:decide (j<H)=false:=by simpa using Y);obtain rfl:sb=false:=by rw[J,f1,N,f3];rfl)));rotate_left;focus((have N:decide (0<=j)=false:=by simpa using V);obtain rfl:sb=false:=by rw[J,f1,N];rfl))
 rotate_left 2;focus((have f1:decide (0<=M)=false:=by simpa using U);obtain rfl:sb=false:=by rw[J,f1];rfl)
 all_goals(clear J;go_enter func96,ntmps96;go_wp2_with fail;go_ret;exact⟨rfl,O.below⟩)
def SL: ∀args w,(ϕ 95 args).run aj w=.ok (.enter 95 args) w:=enters_of func95 (by kernel_rfl) (by rfl)
def SN: ∀args w,(ϕ 98 args).run aj w=.ok (.enter 98 args) w:=enters_of func98 (by kernel_rfl) (by rfl)
theorem Yy(s:Sp)(w:ω):Γ aj 95 #[.agg (iO.enc s).toArray] w λe w'=>e=.returned (.bool (!lG s))/\w w':=by have H:=λW=>ai9 s W;generalize lG s=sb at*;obtain⟨M,N,O⟩:=s;simp only[iO]at H |-;have j:Own w _ [_]:=(Own.nil w).alloc 130 #[M,N,O] _ rfl;have U:=j.b0.cell;go_enter func95,ntmps95;go_wp2_with(first|((with_reducible refine(H _).mono ?_);rintro e V⟨rfl,J⟩;replace j:=j.grow J));go_ret;exact⟨rfl,j.below⟩
def IB (x y:Int):Int:=if x<y then -1 else if y<x then 1 else 0
def alS(x:Int)(w:ω):Γ aj 148 #[x] w λe w'=>e=.returned false/\w'=w:=by go_enter func148,ntmps148;go_wp2_with fail;go_ret;exact⟨by simp,rfl⟩
theorem NP(x y:Int)(w:ω):Γ aj 100 #[x,y] w λe w'=>e=.returned (IB x y:Int)/\w'=w:=by
 have hn:=λa W=>alS a W;unfold IB;by_cases j:x<y;focus((have f1:decide (x<y)=true:=by simpa using j);rw[Υ j])
 rotate_left;focus((have f1:decide (x<y)=false:=by simpa using j);rw[Ξ j];by_cases H:y<x;(focus((have J:decide (y<x)=true:=by simpa using H);rw[Υ H]));rotate_left;focus((have J:decide (y<x)=false:=by simpa using H);rw[Ξ H]))
 all_goals(go_enter func100,ntmps100;go_wp2_with(first|((with_reducible refine(hn _ _).mono ?_);rintro e M⟨rfl,rfl⟩));go_ret;exact⟨rfl,rfl⟩)
def orI (x y:Int):Int:=if x≠0 then x else y
def alT(g c:Nat)(x y:Int)(w:ω)(J:w.cell? ⟨g,0,none⟩=some x)(M:w.cell? ⟨g,1,none⟩=some y):Γ aj 99 #[.slice g 2 c] w λe w'=>e=.returned (orI x y:Int)/\w'=w:=by
 unfold orI;by_cases j:x=0
 .rw[Ξ (by simpa using j)];have e1:(x != 0)=false:=by simpa using j
  by_cases H:y=0;·(have e2:(y != 0)=false:=by simpa using H);subst j;subst H;go_enter func99,ntmps99;go_wp2_with fail;refine wp_loop_rounds 3 ?_;rw[rounds_succ];go_wp2_with fail;rw[rounds_succ];go_wp2_with fail;rw[rounds_succ];go_wp2_with fail;go_ret;exact⟨rfl,rfl⟩
  ·(have e2:(y != 0)=true:=by simpa using H);subst j;go_enter func99,ntmps99;go_wp2_with fail;refine wp_loop_rounds 2 ?_;rw[rounds_succ];go_wp2_with fail;rw[rounds_succ];go_wp2_with fail;go_ret;exact⟨rfl,rfl⟩
 .rw[Υ j];have e1:(x != 0)=true:=by simpa using j
  go_enter func99,ntmps99;go_wp2_with fail;refine wp_loop_rounds 1 ?_;rw[rounds_succ];go_wp2_with fail;go_ret;exact⟨rfl,rfl⟩
def WC (a b:Sp):Int:=orI (IB a.edge b.edge) (IB a.lo b.lo)
def asa (A:Option δ):Option Nat:=A.map (·.block)
theorem H6{w W W':ω}{g:Nat}(h:w.grownBy W (some g))(M:W'.heap.size=W.heap.size)(J: ∀k,k≠g->W'.heap[k]? =W.heap[k]?)(j:W'.os=W.os/\W'.tape=W.tape/\W'.output=W.output):w.grownBy W' (some g):=⟨j.1.trans h.os,j.2.1.trans h.tape,j.2.2.trans h.output,by rw[M];exact h.size,λi hi H=>(J i (λe=>H (by rw[e]))).trans (h.block i hi H)⟩
theorem yR{w W W':ω}{r:Option Nat}(h:w.grownBy W r)(j:W W'):w.grownBy W' r:=⟨j.os.trans h.os,j.tape.trans h.tape,j.output.trans h.output,aG h.size j.size,λi hi H=>(j.block i (aU hi h.size)).trans (h.block i hi H)⟩
theorem aq1.base{α:Type}{E:arb α}{t:τ}{w:ω}{B B':Nat}{A:Option δ}{c:Nat}{xs:List α}(h:aq1 E t w B A c xs)(hB:B'<=B):aq1 E t w B' A c xs:=⟨h.1,h.2.imp id λ⟨g,cap,cur,e,j,r⟩=>⟨g,cap,cur,e,aG hB j,r⟩⟩
theorem aro{α:Type}{E:arb α}{t:τ}{B:Nat}{w0 w w':ω}{A:Option δ}{c:Nat}{xs:List α}(h:Below B w0 w)(J:aq1 E t w B A c xs)(N:B<=w.heap.size)(j:w.grownBy w' (asa A)):Below B w0 w':=by
 refine h.trans ⟨j.os,j.tape,j.output,j.size,λk O=>j.block k (by omega) λe=>?_⟩;cases A with
 |none=>cases e
 |some a=>obtain⟨g,cur,H,M,_⟩:=J.blk (by simp);simp only[aO]at H;subst H;simp only[asa,eF,aO]at e;omega
def xO{w:ω}{g:Nat}{a b c:Int}(h:fK w g 130 #[a,b,c]):fE iO w g [⟨a,b,c⟩]:=λ_=>⟨g,0,rfl,h.lt,λH u j=>by rw[aJ,h.cell,<-Array.getElem?_toList];exact j⟩
def Own.grown{w W W':ω}{L:List Bk}{R:Option Nat}(h:Own w W L)(j:W.grownBy W' R)(J: ∀g,R=some g->w.heap.size<=g/\ ∀x∈L,x.1≠g):Own w W' L:=by
 refine⟨h.below.trans ⟨j.os,j.tape,j.output,j.size,λk N=>j.block k (aU N h.below.size) ?_⟩,λx H=>⟨(h.blk x H).1,?_⟩,h.nodup⟩;.intro e;have:=(J k (by first |exact e.symm)).1;omega
 .have M:=(h.blk x H).2;exact(j.block x.1 M.lt (λe=>(J x.1 (by first |exact e.symm)).2 x H rfl)).trans M
end
def acB{α:Type}{E:arb α}{t:τ}{xs:List α}(h:w0 w)(H:aq1 E t w w0 A c xs)(j:w.grownBy w' (A.map (·.block))):w0 w':=aro h H h.size j
structure Vu where
  v:Int
  aic:Int
  A:Option δ
  n:Nat
  c:Nat
def arQ:arb Vu:=⟨3,fun p=> [.int .i64 p.v,.int .i64 p.aic,.slice p.A p.n p.c],fun _=>rfl,fun _ u hu=>by simp at hu;rcases hu with rfl |rfl |rfl <;> rfl,by decide⟩
def aie:qo aj arQ 318 341 40:=arD (.agg #[.int .i64 0,.int .i64 0,.slice none 0 0]) underlying318 (by kernel_rfl) rfl
def plC (v:Int):Vu:=⟨v,0,none,0,0⟩
def lZ (B:Nat) (w:ω) (A:Option δ) (xs:List Vu):Prop:=fE arQ w A xs/\(xs≠ []-> ∀a,A=some a->B<=a.block)
def lZ.below{xs:List Vu}(h:lZ B w A xs)(j:w w'):lZ B w' A xs:=⟨h.1.below j,h.2⟩
theorem lZ.less{xs:List Vu}(h:lZ B w A xs)(hB:B'<=B):lZ B' w A xs:=⟨h.1,λj a e=>aG hB (h.2 j a e)⟩
theorem lZ.keep{xs:List Vu}(h:lZ B w A xs)(J: ∀k,B<=k->k<w.heap.size->w'.heap[k]? =w.heap[k]?)(M:w.heap.size<=w'.heap.size):lZ B w' A xs:=by
 refine⟨λj=>?_,h.2⟩;obtain⟨b,off,e,H,hc⟩:=h.1 j;have O:xs≠ []:=λe=>by rw[e]at j;exact absurd j (by decide)
 have hB:=h.2 O _ e;exact⟨b,off,e,aU H M,λU u N=>(World.cell?_of_block (w:=w) (J b hB H)).trans (hc U u N)⟩
def kX (B:Nat) (w:ω):Pt->List Vu->Prop
 | .nil,xs=>xs= []
 | .pl v r,xs=> ∃ys,xs=plC v::ys/\kX B w r ys
 | .grp k l r,xs=> ∃A n c ys,xs=⟨0,k,A,n,c⟩::ys/\(∃zs,lZ B w A zs/\zs.length=n/\kX B w l zs)/\kX B w r ys
theorem kX.below(j:w w'): ∀ {p:Pt} {xs:List Vu},kX B w p xs->kX B w' p xs
 | .nil,_,h=>h
 | .pl v r,xs,h=>by obtain⟨J,e,H⟩:=h;exact⟨J,e,kX.below j H⟩
 | .grp k l r,xs,h=>by obtain⟨A,n,c,J,e,⟨U,M,N,O⟩,H⟩:=h;exact⟨A,n,c,J,e,⟨U,M.below j,N,kX.below j O⟩,kX.below j H⟩
theorem kX.less(hB:B'<=B): ∀ {p:Pt} {xs:List Vu},kX B w p xs->kX B' w p xs
 | .nil,_,h=>h
 | .pl v r,xs,h=>by obtain⟨H,e,j⟩:=h;exact⟨H,e,kX.less hB j⟩
 | .grp k l r,xs,h=>by obtain⟨A,n,c,H,e,⟨O,J,M,N⟩,j⟩:=h;exact⟨A,n,c,H,e,⟨O,J.less hB,M,kX.less hB N⟩,kX.less hB j⟩
theorem kX.keep(j: ∀k,B<=k->k<w.heap.size->w'.heap[k]? =w.heap[k]?)(H:w.heap.size<=w'.heap.size): ∀ {p:Pt} {xs:List Vu},kX B w p xs->kX B w' p xs
 | .nil,_,h=>h
 | .pl v r,xs,h=>by obtain⟨M,e,J⟩:=h;exact⟨M,e,kX.keep j H J⟩
 | .grp k l r,xs,h=>by obtain⟨A,n,c,M,e,⟨V,N,O,U⟩,J⟩:=h;exact⟨A,n,c,M,e,⟨V,N.keep j H,O,kX.keep j H U⟩,kX.keep j H J⟩
theorem kX.app: ∀ {p q:Pt} {xs j:List Vu},kX B w p xs->kX B w q j->kX B w (p.app q) (xs++j)
 | .nil,q,xs,j,h,k=>by obtain rfl:xs= []:=h;exact k
 | .pl v r,q,xs,j,h,k=>by obtain⟨J,rfl,H⟩:=h;exact⟨J++j,rfl,kX.app H k⟩
 | .grp m l r,q,xs,j,h,k=>by obtain⟨A,n,c,J,rfl,M,H⟩:=h;exact⟨A,n,c,J++j,rfl,M,kX.app H k⟩
theorem NQ: ∀l:List Int,kX B w (Pt.row l) (l.map plC)
 | []=>rfl
 |v::l=>⟨l.map plC,rfl,NQ l⟩
theorem Pt.PG: ∀l:List Int,(Pt.row l).len=l.length
 | []=>rfl
 |v::l=>ξ (· +1) (Pt.PG l)
theorem kX.len: ∀ {p:Pt} {xs:List Vu},kX B w p xs->xs.length=p.len
 | .nil,_,h=>by obtain rfl:=h;rfl
 | .pl v r,xs,h=>by obtain⟨H,rfl,j⟩:=h;exact ξ (· +1) (kX.len j)
 | .grp k l r,xs,h=>by obtain⟨A,n,c,H,rfl,_,j⟩:=h;exact ξ (· +1) (kX.len j)
def sO (B:Nat) (w:ω) (A:Option δ) (p:Pt):Prop:= ∃xs,lZ B w A xs/\kX B w p xs
def sO.below{p:Pt}(h:sO B w A p)(j:w w'):sO B w' A p:=by obtain⟨xs,H,J⟩:=h;exact⟨xs,H.below j,J.below j⟩
def sO.less{p:Pt}(h:sO B w A p)(hB:B'<=B):sO B' w A p:=by obtain⟨xs,j,H⟩:=h;exact⟨xs,j.less hB,H.less hB⟩
def sO.keep{p:Pt}(h:sO B w A p)(j: ∀k,B<=k->k<w.heap.size->w'.heap[k]? =w.heap[k]?)(H:w.heap.size<=w'.heap.size):sO B w' A p:=by obtain⟨xs,J,M⟩:=h;exact⟨xs,J.keep j H,M.keep j H⟩
def sO.nil(B:Nat)(w:ω)(A:Option δ):sO B w A .nil:=⟨[],⟨fE.nil _ _,λh=>absurd rfl h⟩,rfl⟩
def rF (B:Nat) (w:ω) (p:Pt) (e:ε) (w':ω):Prop:= ∃A c,e=.returned (.slice A p.len c)/\sO B w' A p/\w w'
def PtW (B:Nat) (p:Pt) (v:Θ) (w:ω):Prop:= ∃A c,v=.slice A p.len c/\sO B w A p
theorem PtW.grow{p:Pt}(h:PtW B p v w)(j:w w'):PtW B p v w':=by obtain⟨A,c,e,H⟩:=h;exact⟨A,c,e,H.below j⟩
theorem SQ{xs:List Vu}(h:aq1 arQ 341 w B A c xs):lZ B w A xs:=⟨h.rows,λ_ a e=>(h.gJ a.block (by grind)).1⟩
def NR{g:Nat}{p:Vu}(h:fK w g 341 #[.int .i64 p.v,.int .i64 p.aic,.slice p.A p.n p.c]):fE arQ w (some ⟨g,0,none⟩) [p]:=qw h rfl
theorem afU(A:Option δ)(n c:Nat)(l:List Int)(w:ω)(hp:fE aq7 w A l)(hn:l.length=n)(hl:n<=1000)(hB:B<=w.heap.size):Γ aj 244 #[.slice A n c] w (rF B w (Pt.row l)):=by
 have H:=ah hn;go_enter func244,ntmps244;go_wp2;go_loopw [3,8] (λs i wr=> ∃(k:Nat) (A1:Option δ) (c1:Nat),i=.int .i64 k/\k<=n/\s=.slice A1 k c1/\aq1 arQ 341 wr w A1 c1 ((l.take k).map plC)/\w wr) (λ_ i _=>n-(intOf i).toNat);case atStart=>exact⟨0,none,0,rfl,aV _,rfl,aq1.nil _ _,aH _ _⟩
 case round=>
  obtain⟨k,A1,c1,rfl,hk,rfl,J,j⟩:=hrel;by_cases Z:k<n;.obtain⟨y,N⟩:=aq5 H.out Z;obtain⟨g,off,rfl,V,hc⟩:=hp.get N;have a0:=hc 0 y rfl;simp only[aq7,Nat.mul_one,bI]at a0;have k0:=(j.cell (p:=⟨g,off+k,none⟩) V).trans a0;(have aa:(l.take k).map plC++ [plC y]=(l.take (k+1)).map plC:=by rw[take_snoc' N,eX];rfl);have U:=ah aa;(have M:((l.take k).map plC).length=k:=by rw[eU,dX,H.out];omega);go_wp2_with(at_builtin;refine gW aie rfl _ _ rfl w A1 c1 ((l.take k).map plC) k rfl M (J.below jm) wr 1 [plC y] 1 rfl rfl (NR (fK.new _ _ _)) (by omega) (by decide) ((j.alloc j.size _).size) ?_;intro A2 c2 w5 uq Y _;have ac:=acB (j.alloc j.size _) (J.below jm) Y);go_roundw;(case rel=>exact⟨k+1,A2,c2,by go_num,by omega,by rfl,by rw[<-U.out];exact uq,ac⟩);case measure=>simp[intOf];omega
  ·(obtain rfl:k=n:=by omega);have ht:l.take k=l:=aY (by rw[H.out];simp);rw[ht]at J;(have M:(Pt.row l).len=k:=by rw[Pt.PG,H.out]);have O:=ah M;go_wp2_with fail;go_ret;exact⟨A1,c1,by rw[O.out];rfl,⟨_,(SQ J).less hB,NQ l⟩,j⟩
theorem Pt.PI: ∀p:Pt,p.app .nil=p
 | .nil=>rfl
 | .pl v r=>ξ (Pt.pl v) (Pt.PI r)
 | .grp k l r=>ξ (Pt.grp k l) (Pt.PI r)
theorem Pt.Gi: ∀p q r:Pt,(p.app q).app r=p.app (q.app r)
 | .nil,_,_=>rfl
 | .pl v p,q,r=>ξ (Pt.pl v) (Pt.Gi p q r)
 | .grp k l p,q,r=>ξ (Pt.grp k l) (Pt.Gi p q r)
theorem Pt.NS: ∀(l:List Pt) (p:Pt),Pt.ands (l++ [p])=(Pt.ands l).app p
 | [],p=>Pt.PI p
 |q::l,p=>by show q.app (Pt.ands (l++ [p]))=(q.app (Pt.ands l)).app p;rw[Pt.NS l p,Pt.Gi]
def Yz:arb (Option δ × Nat × Nat):=⟨1,fun p=> [.slice p.1 p.2.1 p.2.2],fun _=>rfl,fun _ u hu=>by simp at hu;subst hu;rfl,by decide⟩
def SS (B:Nat) (w:ω) (A:Option δ) (ps:List Pt):Prop:= ∃vs:List (Option δ × Nat × Nat),fE Yz w A vs/\vs.length=ps.length/\ ∀(i:Nat) v p,vs[i]? =some v->ps[i]? =some p->v.2.1=p.len/\sO B w v.1 p
theorem SS.below{ps:List Pt}(h:SS B w A ps)(H:w w'):SS B w' A ps:=by obtain⟨vs,N,O,j⟩:=h;exact⟨vs,N.below H,O,λi v p M J=>⟨(j i v p M J).1,(j i v p M J).2.below H⟩⟩
theorem afV(A:Option δ)(n c:Nat)(ps:List Pt)(w:ω)(H:SS B w A ps)(hn:ps.length=n)(hl:n<=100)(hs: ∀p∈ps,p.len<=100)(hB:B<=w.heap.size):Γ aj 245 #[.slice A n c] w (rF B w (Pt.ands ps)):=by
 obtain⟨vs,ai,aa,ak⟩:=H;rw[hn]at aa;have U:=ah hn;have HV:=ah aa;go_enter func245,ntmps245;go_wp2;go_loopw [3,8] (λs i wr=> ∃(k z:Nat) (A1:Option δ) (c1:Nat) (xs:List Vu),i=.int .i64 k/\k<=n/\s=.slice A1 z c1/\z<=100*k/\Hid (xs.length=z)/\Hid (kX B w (Pt.ands (ps.take k)) xs)/\aq1 arQ 341 wr w A1 c1 xs/\w wr) (λ_ i _=>n-(intOf i).toNat);case atStart=>exact⟨0,0,none,0,[],rfl,aV _,rfl,aV _,ah rfl,ah rfl,aq1.nil _ _,aH _ _⟩
 case round=>
  obtain⟨k,z,A1,c1,xs,rfl,hk,rfl,hz,N,hm,M,j⟩:=hrel;by_cases Y:k<n;.obtain⟨v,hv⟩:=aq5 HV.out Y;obtain⟨p,H⟩:=aq5 U.out Y;obtain⟨g,off,rfl,hg,hc⟩:=ai.get hv;obtain⟨e1,O,Z,hy⟩:=ak k v p hv H;have am:=hs p (bP H);obtain⟨vA,vn,vc⟩:=v;simp only at e1 Z;subst e1;have a0:=hc 0 (.slice vA p.len vc) rfl;simp only[Yz,Nat.mul_one,bI]at a0;have k0:=(j.cell (p:=⟨g,off+k,none⟩) hg).trans a0;(have ag:kX B w (Pt.ands (ps.take (k+1))) (xs++O):=by rw[take_snoc' H,Pt.NS];exact hm.out.app hy);have ad:=ah ag;have V:=ah hy.len;generalize p.len=pn at*;go_wp2_with(at_builtin;refine gW aie rfl _ _ rfl w A1 c1 xs z rfl N.out M vA vc O pn rfl V.out (Z.1.below j) (by omega) (by decide) j.size ?_;intro A2 c2 w5 uq ae _;have al:=acB j M ae);go_roundw;(case rel=>exact⟨k+1,z+pn,A2,c2,xs++O,by go_num,by omega,by rfl,by omega,ah (by rw[bC,N.out,V.out]),ad,uq,al⟩);case measure=>simp[intOf];omega
  ·(obtain rfl:k=n:=by omega);have J:=hm.out;rw[aY (by rw[U.out];simp)]at J;(have af:(Pt.ands ps).len=z:=by rw[<-J.len,N.out]);have ac:=ah af;have HM:=ah J;go_wp2_with fail;go_ret;exact⟨A1,c1,by rw[ac.out];rfl,⟨_,(SQ M).less hB,HM.out.below j⟩,j⟩
theorem acC(k:Int)(A:Option δ)(n c:Nat)(p:Pt)(w:ω)(M:sO B w A p)(hn:p.len=n)(hB:B<=w.heap.size):Γ aj 247 #[k,.slice A n c] w (rF B w (.grp k p .nil)):=by have j:Own w _ [_]:=(Own.nil w).alloc 341 #[zI,k,.slice A n c] _ rfl;go_enter func247,ntmps247;go_wp2;go_ret;obtain⟨N,J,H⟩:=M;exact⟨w,1,rfl,⟨[⟨0,k,A,n,c⟩],⟨NR j.b0,λ_ a e=>by grind⟩,⟨A,n,c,[],rfl,⟨N,J.below j.below,by rw[H.len,hn],H.below j.below⟩,rfl⟩⟩,j.below⟩
def WE (l:List Int) (v:Θ) (w:ω):Prop:= ∃A c,v=.slice A l.length c/\fE aq7 w A l
theorem WE.grow{l:List Int}(h:WE l v w)(j:w w'):WE l v w':=by obtain⟨A,c,e,H⟩:=h;exact⟨A,c,e,H.below j⟩
def aja (B:Nat) (ps:List Pt) (v:Θ) (w:ω):Prop:= ∃A c,v=.slice A ps.length c/\SS B w A ps
theorem aja.grow{ps:List Pt}(h:aja B ps v w)(j:w w'):aja B ps v w':=by obtain⟨A,c,e,H⟩:=h;exact⟨A,c,e,H.below j⟩
inductive Gj (B:Nat) (w:ω):List Pt->List Θ->Prop
  |nil:Gj B w [] []
  |cons {p:Pt} {ps:List Pt} {vs:List Θ} {A:Option δ} {c:Nat} (h:sO B w A p) (r:Gj B w ps vs):Gj B w (p::ps) (.slice A p.len c::vs)
def Gj.grow(j:w w'): ∀ {ps:List Pt} {vs:List Θ},Gj B w ps vs->Gj B w' ps vs
 |_,_,.nil=> .nil
 |_,_,.cons h r=> .cons (h.below j) (Gj.grow j r)
theorem Gj.at_: ∀ {ps:List Pt} {vs:List Θ},Gj B w ps vs-> ∃ts:List (Option δ × Nat × Nat),vs=Yz.flat ts/\ts.length=ps.length/\ ∀(i:Nat) v p,ts[i]? =some v->ps[i]? =some p->v.2.1=p.len/\sO B w v.1 p
 |_,_,.nil=>⟨[],rfl,rfl,λi v p h=>by cases h⟩
 |_,_,.cons (p:=q) (A:=A) (c:=c) h r=>by obtain⟨ts,e,j,hi⟩:=Gj.at_ r;refine⟨(A,q.len,c)::ts,by rw[e];rfl,ξ (· +1) j,λi v p J H=>?_⟩;grind
section
structure ars (B:Nat) (w0 W:ω) (L:List (Option δ × Pt)):Prop where
  b:w0 W
  l:B<=w0.heap.size
  t: ∀x∈L,sO B W x.1 x.2
inductive arA (L:List (Option δ × Pt)):List Θ->List Pt->Prop
  |nil:arA L [] []
  |cons {A:Option δ} {n c:Nat} {p:Pt} {vs:List Θ} {ps:List Pt} (hm:(A,p)∈L) (hn:n=p.len) (r:arA L vs ps):arA L (.slice A n c::vs) (p::ps)
theorem NT: ∀l:List Int,aq7.flat l=l.map (Value.int .i64)
 | []=>rfl
 |x::l=>ξ (Value.int .i64 x:: ·) (NT l)
def acD:List Pt->Prop
 | []=>True
 |p::ps=>p.len<=100/\acD ps
theorem NU: ∀ {ps:List Pt},acD ps-> ∀p∈ps,p.len<=100
 | [],_,_,h=>by cases h
 |q::ps,hs,p,h=>by
  rcases bJ.1 h with rfl |h;.exact hs.1
  .exact NU hs.2 p h
section
variable {B:Nat} {w0 W:ω} {L:List (Option δ × Pt)}
theorem ars.le(h:ars B w0 W L):B<=W.heap.size:=aG h.l h.b.size
def ars.start(w:ω)(hB:B<=w.heap.size):ars B w w []:=⟨aH _ _,hB,λ_ h=>by cases h⟩
theorem ars.push{W':ω}{A:Option δ}{p:Pt}(h:ars B w0 W L)(H:W W')(J:sO B W' A p):ars B w0 W' ((A,p)::L):=⟨h.b.trans (H.mono h.b.size),h.l,λx j=>by
 rcases bJ.1 j with rfl |j;.exact J
 .exact(h.t x j).below H⟩
def arA.rw(h:ars B w0 W L): ∀ {vs:List Θ} {ps:List Pt},arA L vs ps->Gj B W ps vs
 |_,_,.nil=> .nil
 |_,_,.cons hm hn r=>by subst hn;exact .cons (h.t _ hm) (arA.rw h r)
def Gj.len{ps:List Pt}{vs:List Θ}(h:Gj B W ps vs):vs.length=ps.length:=by obtain⟨ts,rfl,j,_⟩:=h.at_;rw[<-j,Yz.flat_length];exact Nat.mul_one _
def ars.call{f:FuncId}{xs:Array Θ}{p:Pt}{K:ε->ω->Prop}(h:ars B w0 W L)(hc:Γ aj f xs W (rF B W p))(k: ∀A c w',ars B w0 w' ((A,p)::L)->K (.returned (.slice A p.len c)) w'):Γ aj f xs W K:=hc.mono λe w' ⟨A,c,H,J,j⟩=>by rw[H];exact k A c w' (h.push j J)
def ars.row{cs:Array Θ}{n c:Nat}{K:ε->ω->Prop}(h:ars B w0 W L)(hc:cs.toList=(cs.toList.map intOf).map (Value.int .i64))(hn:n=cs.size)(O:cs.size<=1000)(k: ∀A c w',ars B w0 w' ((A,Pt.row (cs.toList.map intOf))::L)->K (.returned (.slice A n c)) w'):Γ aj 244 #[.slice W n c] (W.alloc (.cells cs 3)) K:=by have j:W (W.alloc (.cells cs 3)):=gY.alloc ig _;have N:fE aq7 (W.alloc (.cells cs 3)) W (cs.toList.map intOf):=qw (fK.new _ _ _) (by rw[NT];exact hc);refine(afU _ n c (cs.toList.map intOf) _ N (by simp[hn]) (by omega) (aG h.le j.size)).mono λe w' ⟨A,c,J,M,H⟩=>?_;rw[J,Pt.PG,eU,Array.length_toList,<-hn];exact k A c w' (h.push (j.trans (H.mono j.size)) M)
theorem ars.and{cs:Array Θ}{n c:Nat}{ps:List Pt}{K:ε->ω->Prop}(h:ars B w0 W L)(H:arA L cs.toList ps)(hn:n=ps.length)(U:n<=100)(Y:acD ps)(k: ∀A c w',ars B w0 w' ((A,Pt.ands ps)::L)->K (.returned (.slice A (Pt.ands ps).len c)) w'):Γ aj 245 #[.slice W n c] (W.alloc (.cells cs 318)) K:=by have j:W (W.alloc (.cells cs 318)):=gY.alloc ig _;obtain⟨ts,e,V,hi⟩:=(arA.rw h H).at_;refine(afV _ n c ps _ ⟨ts,qw (fK.new W 318 cs) e,V,λi v p M J=>⟨(hi i v p M J).1,(hi i v p M J).2.below j⟩⟩ hn.symm U (NU Y) (aG h.le j.size)).mono λe w' ⟨A,c,O,H,N⟩=>?_;rw[O];exact k A c w' (h.push (j.trans (N.mono j.size)) H)
def ars.some{A:Option δ}{n c:Nat}{p:Pt}{q:Int}{K:ε->ω->Prop}(h:ars B w0 W L)(hm:(A,p)∈L)(hn:n=p.len)(k: ∀A c w',ars B w0 w' ((A,.grp q p .nil)::L)->K (.returned (.slice A 1 c)) w'):Γ aj 247 #[q,.slice A n c] W K:=h.call (acC q A n c p W (h.t _ hm) hn.symm h.le) k
end
def acE:Pt:=(Pt.row [6,7,8])
theorem SV{B:Nat}(w:ω)(hB:B<=w.heap.size):Γ aj 246 #[] w (rF B w acE):=by have j:=ars.start w hB;go_enter func246,ntmps246;go_wp2_with(first|((first|(go_at_call 244;(with_reducible apply j.row);rfl;rfl;decide)|(go_at_call 245;(with_reducible apply j.and);(.repeat(first|exact arA.nil|(apply arA.cons;(.repeat(first|exact List.Mem.head _|apply List.Mem.tail));rfl)));rfl;decide;(.repeat(first|exact trivial|(refine⟨by first |assumption |exact Nat.le_of_ble_eq_true rfl,?_⟩))))|(go_at_call 247;(with_reducible apply j.some);(.repeat(first|exact List.Mem.head _|apply List.Mem.tail));rfl));intro J H M j));go_ret;exact⟨_,_,rfl,j.t _ (.head _),j.b⟩
def DJ (p:Pt):Pt:=(Pt.ands [(p),(Pt.row [27]),(.grp 1 (p) .nil)])
theorem PK(H:Option δ)(c0:Nat)(p:Pt){B:Nat}(w:ω)(J:sO B w H p)(O:p.len<=100)(hB:B<=w.heap.size):Γ aj 248 #[.slice H p.len c0] w (rF B w (DJ p)):=by have j:=(ars.start w hB).push gY J;go_enter func248,ntmps248;go_wp2_with(first|((first|(go_at_call 244;(with_reducible apply j.row);rfl;rfl;decide)|(go_at_call 245;(with_reducible apply j.and);(.repeat(first|exact arA.nil|(apply arA.cons;(.repeat(first|exact List.Mem.head _|apply List.Mem.tail));rfl)));rfl;decide;(.repeat(first|exact trivial|(refine⟨by first |assumption |exact Nat.le_of_ble_eq_true rfl,?_⟩))))|(go_at_call 247;(with_reducible apply j.some);(.repeat(first|exact List.Mem.head _|apply List.Mem.tail));rfl));intro N M U j));go_ret;exact⟨_,_,rfl,j.t _ (.head _),j.b⟩
def ajb:Pt:=(Pt.ands [(Pt.row [44,12]),(.grp 2 (Pt.row [10]) .nil),(Pt.row [11,45,46,47])])
theorem acF{B:Nat}(w:ω)(hB:B<=w.heap.size):Γ aj 249 #[] w (rF B w ajb):=by have j:=ars.start w hB;go_enter func249,ntmps249;go_wp2_with(first|((first|(go_at_call 244;(with_reducible apply j.row);rfl;rfl;decide)|(go_at_call 245;(with_reducible apply j.and);(.repeat(first|exact arA.nil|(apply arA.cons;(.repeat(first|exact List.Mem.head _|apply List.Mem.tail));rfl)));rfl;decide;(.repeat(first|exact trivial|(refine⟨by first |assumption |exact Nat.le_of_ble_eq_true rfl,?_⟩))))|(go_at_call 247;(with_reducible apply j.some);(.repeat(first|exact List.Mem.head _|apply List.Mem.tail));rfl));intro J H M j));go_ret;exact⟨_,_,rfl,j.t _ (.head _),j.b⟩
def JI (p:Pt):Pt:=(Pt.ands [(Pt.row [7,8,4]),(p),(Pt.row [13,14,15,16,17,18]),(.grp 3 (Pt.row [19]) .nil),(Pt.row [20,21,22,23]),(.grp 2 (Pt.row [24]) .nil)])
theorem WG(H:Option δ)(c0:Nat)(p:Pt){B:Nat}(w:ω)(J:sO B w H p)(O:p.len<=100)(hB:B<=w.heap.size):Γ aj 243 #[.slice H p.len c0] w (rF B w (JI p)):=by have j:=(ars.start w hB).push gY J;go_enter func243,ntmps243;go_wp2_with(first|((first|(go_at_call 244;(with_reducible apply j.row);rfl;rfl;decide)|(go_at_call 245;(with_reducible apply j.and);(.repeat(first|exact arA.nil|(apply arA.cons;(.repeat(first|exact List.Mem.head _|apply List.Mem.tail));rfl)));rfl;decide;(.repeat(first|exact trivial|(refine⟨by first |assumption |exact Nat.le_of_ble_eq_true rfl,?_⟩))))|(go_at_call 247;(with_reducible apply j.some);(.repeat(first|exact List.Mem.head _|apply List.Mem.tail));rfl));intro N M U j));go_ret;exact⟨_,_,rfl,j.t _ (.head _),j.b⟩
def acG:Pt:=(Pt.ands [acE,((Pt.ands [(Pt.row [51,52,53,27]),(.grp 1 (Pt.row [54,55]) .nil)])),(Pt.row [27]),(.grp 1 ((Pt.ands [(Pt.row [51,52,53,27]),(.grp 1 (Pt.row [54,55]) .nil)])) .nil)])
theorem WH{B:Nat}(w:ω)(hB:B<=w.heap.size):Γ aj 251 #[] w (rF B w acG):=by have j:=ars.start w hB;go_enter func251,ntmps251;go_wp2_with(first|((first|(go_at_call 244;(with_reducible apply j.row);rfl;rfl;decide)|(go_at_call 245;(with_reducible apply j.and);(.repeat(first|exact arA.nil|(apply arA.cons;(.repeat(first|exact List.Mem.head _|apply List.Mem.tail));rfl)));rfl;decide;(.repeat(first|exact trivial|(refine⟨by first |assumption |exact Nat.le_of_ble_eq_true rfl,?_⟩))))|(go_at_call 247;(with_reducible apply j.some);(.repeat(first|exact List.Mem.head _|apply List.Mem.tail));rfl)|(go_at_call 246;refine j.call (SV _ j.le) ?_));intro J H M j));go_ret;exact⟨_,_,rfl,j.t _ (.head _),j.b⟩
def SX:Pt:=(Pt.ands [(Pt.row [6,7,8,25,26,27]),(.grp 1 ((Pt.ands [(Pt.row [28]),((Pt.ands [(Pt.row [29]),(.grp 2 (Pt.row [30,31]) .nil)]))])) .nil),(Pt.row [32]),((Pt.ands [(Pt.row [29]),(.grp 2 (Pt.row [30,31]) .nil)])),(Pt.row [33]),(.grp 2 (Pt.row [34,35]) .nil),(Pt.row [36]),(.grp 2 (Pt.row [37,38]) .nil),(Pt.row [39]),(.grp 2 (Pt.row [40,41,42,43]) .nil)])
theorem Md{B:Nat}(w:ω)(hB:B<=w.heap.size):Γ aj 250 #[] w (rF B w SX):=by have j:=ars.start w hB;go_enter func250,ntmps250;go_wp2_with(first|((first|(go_at_call 244;(with_reducible apply j.row);rfl;rfl;decide)|(go_at_call 245;(with_reducible apply j.and);(.repeat(first|exact arA.nil|(apply arA.cons;(.repeat(first|exact List.Mem.head _|apply List.Mem.tail));rfl)));rfl;decide;(.repeat(first|exact trivial|(refine⟨by first |assumption |exact Nat.le_of_ble_eq_true rfl,?_⟩))))|(go_at_call 247;(with_reducible apply j.some);(.repeat(first|exact List.Mem.head _|apply List.Mem.tail));rfl));intro J H M j));go_ret;exact⟨_,_,rfl,j.t _ (.head _),j.b⟩
end
section
section
variable {B:Nat} {w0 W:ω} {L:List (Option δ × Pt)}
def ars.rep{A:Option δ}{n c:Nat}{p:Pt}{K:ε->ω->Prop}(h:ars B w0 W L)(hm:(A,p)∈L)(hn:n=p.len)(j:p.len<=100)(k: ∀A c w',ars B w0 w' ((A,DJ p)::L)->K (.returned (.slice A (DJ p).len c)) w'):Γ aj 248 #[.slice A n c] W K:=by subst hn;exact h.call (PK A c p W (h.t _ hm) j h.le) k
def ars.report{A:Option δ}{n c:Nat}{p:Pt}{K:ε->ω->Prop}(h:ars B w0 W L)(hm:(A,p)∈L)(hn:n=p.len)(j:p.len<=100)(k: ∀A c w',ars B w0 w' ((A,JI p)::L)->K (.returned (.slice A (JI p).len c)) w'):Γ aj 243 #[.slice A n c] W K:=by subst hn;exact h.call (WG A c p W (h.t _ hm) j h.le) k
end
def vF (B:Nat) (w:ω) (q:Option Pt) (e:ε) (w':ω):Prop:= ∃A n c,e=.returned (.slice A n c)/\w w'/\match q with |none=>A=none/\n=0/\c=0 |some p=>A≠none/\n=p.len/\sO B w' A p
theorem rF.parts{B:Nat}{w:ω}{p:Pt}{e:ε}{w':ω}(h:rF B w p e w')(U:0<p.len):vF B w (some p) e w':=by obtain⟨A,c,N,⟨xs,j,H⟩,M⟩:=h;refine⟨A,p.len,c,N,M,?_,rfl,xs,j,H⟩;have V:=H.len;obtain⟨x,O⟩: ∃x,xs[0]? =some x:=⟨xs[0],aI (by omega)⟩;obtain⟨b,off,J,_⟩:=j.1.get O;rw[J];exact λh=>by cases h
def WI{B:Nat}{w:ω}{q:Option Pt}{p:Pt}{e:ε}{w':ω}(H:q=some p)(h:rF B w p e w')(j:0<p.len):vF B w q e w':=by rw[H];exact h.parts j
theorem Gl(id:Int){B:Nat}(w:ω)(hB:B<=w.heap.size):Γ aj 218 #[.int .i64 id] w (vF B w (lu id)):=by
 have j:=(ars.start w hB).push gY (sO.nil B w none);have J:id=0\/id=1\/id=3\/id=5\/id=11\/id=15\/id=21\/id=27\/id=42\/id=57\/id=58\/id=80\/(id≠0/\id≠1/\id≠3/\id≠5/\id≠11/\id≠15/\id≠21/\id≠27/\id≠42/\id≠57/\id≠58/\id≠80):=by omega
 rcases J with rfl |rfl |rfl |rfl |rfl |rfl |rfl |rfl |rfl |rfl |rfl |rfl |J;iterate 12(refine Calls.mono (R:=rF B w _) ?_ λ_ _ h=>WI rfl h (by decide);go_enter func218,ntmps218;go_wp2_with(first|((first|(go_at_call 244;(with_reducible apply j.row);rfl;rfl;decide)|(go_at_call 245;(with_reducible apply j.and);(.repeat(first|exact arA.nil|(apply arA.cons;(.repeat(first|exact List.Mem.head _|apply List.Mem.tail));rfl)));rfl;decide;(.repeat(first|exact trivial|(refine⟨by first |assumption |exact Nat.le_of_ble_eq_true rfl,?_⟩))))|(go_at_call 247;(with_reducible apply j.some);(.repeat(first|exact List.Mem.head _|apply List.Mem.tail));rfl)|(go_at_call 246;refine j.call (SV _ j.le) ?_)|((first|(go_at_call 248;(with_reducible apply j.rep))|(go_at_call 243;(with_reducible apply j.report)));(.repeat(first|exact List.Mem.head _|apply List.Mem.tail));rfl;decide)|(go_at_call 249;refine j.call (acF _ j.le) ?_)|(go_at_call 251;refine j.call (WH _ j.le) ?_)|(go_at_call 250;refine j.call (Md _ j.le) ?_));clear j;intro fU fJ iG j));go_ret;exact⟨_,_,rfl,j.t _ (.head _),j.b⟩)
 obtain⟨M,N,Z,h5,O,U,V,Y,aa,ac,ad,ae⟩:=J;have hn:lu id=none:=by simp[lu, *]
 rw[hn];have H: ∀k:Int,id≠k->(id==k)=false:=λk h=>by simpa using h
 have f0:=H 0 M;have f1:=H 1 N;have f3:=H 3 Z;have f5:=H 5 h5;have af:=H 11 O;have ag:=H 15 U;have ai:=H 21 V;have ak:=H 27 Y;have al:=H 42 aa;have am:=H 57 ac;have an:=H 58 ad;have ap:=H 80 ae;clear hn j H;go_enter func218,ntmps218;go_wp2;go_ret;exact⟨none,0,0,rfl,aH _ _,rfl,rfl,rfl⟩
end
structure Grow (G:ω->ω->Prop):Prop where
  drew: ∀w:ω,G w w.drew
  trans: ∀a b c,G a b->G b c->G a c
  below: ∀w w',w w'->G w w'
def Ag (K:Nat) (G:ω->ω->Prop) (i:Nat) (w w':ω):Prop:=(i≠K->w w')/\(i=K->G w w')
def Ag.g(h:Ag K G i w w')(j:Grow G):G w w':=by
 by_cases e:i=K;.exact h.2 e
 .exact j.below _ _ (h.1 e)
def Ah(hi:i≠K)(h:w w'):Ag K G i w w':=⟨λ_=>h,λe=>absurd e hi⟩
def yS(hi:i≠K):Ag K G i w w:=Ah hi gY
def JJ(h:G w w'):Ag K G K w w':=⟨λe=>absurd rfl e,λ_=>h⟩
def DK(j:Grow G)(i:Nat)(w:ω):Ag K G i w w:=⟨λ_=>aH _ _,λ_=>j.below _ _ gY⟩
def Ja (ops:Array ο) (K:Nat) (S:ω->ω->Prop) (j:Nat) (Ω:(Nat->Θ)->ω->Prop):Prop:= ∀i,i≠j->mY ops i j-> ∀u v w w',Ω u w->Ag K S i w w'->Ω (upd u i v) w'
def StX (ops:Array ο) (K:Nat) (S:ω->ω->Prop):Nat->List ((Nat->Θ)->ω->Prop)->Prop
 |_,[]=>True
 |j,Ω::l=>Ja ops K S j Ω/\StX ops K S (j+1) l
theorem acH{S:ω->ω->Prop}: ∀(l:List ((Nat->Θ)->ω->Prop)) (k:Nat),StX ops K S k l-> ∀H j,l[H]? =some j->Ja ops K S (k+H) j
 | [],_,_,H,j,h=>by simp at h
 |Ψ::l,k,h,0,j,hj=>by simp at hj;subst hj;exact h.1
 |Ψ::l,k,h,H+1,j,hj=>by have:=acH l (k+1) h.2 H j (by grind);grind
def DL{S:ω->ω->Prop}{j:Nat}(c:Θ):Ja ops K S j (gI j (Is c)):=λ_ H _ _ _ _ _ h _=>jy H h λ_ h=>h
def yT{S:ω->ω->Prop}(H: ∀v w w',Φ v w->w w'->Φ v w'):Ja ops K S K (gI K Φ):=λ_ j _ _ _ _ _ h J=>jy j h λ_ h=>H _ _ _ h (J.1 j)
theorem JK{S:ω->ω->Prop}{J:List ((Nat->Θ)->ω->Prop)}(h:StX ops K S 0 J): ∀i j (H:(Nat->Θ)->ω->Prop),i≠j->i<J.length->mY ops i j->J[j]? =some H-> ∀u v w w',H u w->Ag K S i w w'->H (upd u i v) w':=by intro i j H N _ M O u v W W' V U;have:=acH _ 0 h j H O;rw[aJ]at this;exact this i N M u v W W' V U
structure Ext (T:Nat->Prop) (W:ω) (T':Nat->Prop) (W':ω):Prop where
  os:W'.os=W.os
  tape:W'.tape=W.tape
  output:W'.output=W.output
  size:W.heap.size<=W'.heap.size
  same: ∀k,k<W.heap.size-> ¬T k->W'.heap[k]? =W.heap[k]?
  sub: ∀k,T' k->T k\/W.heap.size<=k
def Ext.refl(T:Nat->Prop)(W:ω):Ext T W T W:=⟨rfl,rfl,rfl,aW _,λ_ _ _=>rfl,λ_ h=> .inl h⟩
theorem Ext.trans{j:Nat->Prop}(h:Ext T W T' W')(k:Ext T' W' j W''):Ext T W j W'':=⟨k.os.trans h.os,k.tape.trans h.tape,k.output.trans h.output,aG h.size k.size,λi hi hn=>(k.same i (aU hi h.size) λc=>(h.sub i c).elim hn λc=>absurd hi (Nat.not_lt.2 c)).trans (h.same i hi hn),λi c=>(k.sub i c).elim (h.sub i) λc=> .inr (aG h.size c)⟩
def Ext.of_below(h:W W'):Ext T W T W':=⟨h.os,h.tape,h.output,h.size,λk j _=>h.block k j,λ_ h=> .inl h⟩
theorem fK.ext{g:Nat}{t:τ}(h:fK w g t cs)(j:Ext T w T' W)(hn: ¬T g):fK W g t cs:=by have:=j.same g h.lt hn;unfold fK at*;grind
def lZ.ext{xs:List Vu}(h:lZ B wp A xs)(J:Ext T w T' W)(N:wp.heap.size<=w.heap.size)(M: ∀k,B<=k->k<wp.heap.size->w.heap[k]? =wp.heap[k]? /\ ¬T k):fE arQ W A xs:=(h.keep (λk H j=>(J.same k (aU j N) (M k H j).2).trans (M k H j).1) (aG N J.size)).1
structure CJ (T:Nat->Prop) (W W':ω):Prop where
  os:W'.os=W.os
  tape:W'.tape=W.tape
  output:W'.output=W.output
  size:W.heap.size<=W'.heap.size
  same: ∀k,k<W.heap.size-> ¬T k->W'.heap[k]? =W.heap[k]?
def Ext.r(h:Ext T W T' W'):CJ T W W':=⟨h.os,h.tape,h.output,h.size,h.same⟩
theorem Ext.after(h:CJ T W W')(k:Ext T W' T' W''):Ext T W T' W'':=⟨k.os.trans h.os,k.tape.trans h.tape,k.output.trans h.output,aG h.size k.size,λi hi hn=>(k.same i (aU hi h.size) hn).trans (h.same i hi hn),λi c=>(k.sub i c).elim .inl λc=> .inr (aG h.size c)⟩
theorem NV(T:Nat->Prop):Grow (CJ T):=⟨λw=>⟨rfl,rfl,rfl,aW _,λ_ _ _=>rfl⟩,λa b c h k=>⟨k.os.trans h.os,k.tape.trans h.tape,k.output.trans h.output,aG h.size k.size,λi hi hn=>(k.same i (aU hi h.size) hn).trans (h.same i hi hn)⟩,λw w' h=>⟨h.os,h.tape,h.output,h.size,λk j _=>h.block k j⟩⟩
def CJ.trans'{c:ω}(h:CJ T a b)(k:CJ T b c):CJ T a c:=(NV T).trans _ _ _ h k
theorem fK.ext'{g:Nat}{t:τ}(h:fK w g t cs)(j:CJ T w W)(hn: ¬T g):fK W g t cs:=by have:=j.same g h.lt hn;unfold fK at*;grind
theorem CJ.blk{g:Nat}{t:τ}(h:fK w g t cs)(j:CJ T w W)(hn: ¬T g):fK W g t cs:=by have:=j.same g h.lt hn;unfold fK at*;grind
def ajc {σ:Type} (St:σ->(Nat->Prop)->ω->Prop) (T:Nat->Prop) (w0:ω) (n:Int) (s':σ) (v:Θ) (w:ω):Prop:=v=.int .i64 n/\ ∃T',Ext T w0 T' w/\St s' T' w
structure Clo {σ:Type} (F:FuncId) (cap:Array Θ) (val:Int->σ->Except Int (Int × σ)) (St:σ->(Nat->Prop)->ω->Prop) (StE:(Nat->Prop)->ω->Prop) (BN:σ->Nat):Prop where
  keep: ∀v s n s',val v s=.ok (n,s')->BN s<=BN s'+(if v=7 then 1 else 0)
  below: ∀s T W W',St s T W->W W'->St s T W'
  inn: ∀s T W,St s T W-> ∀k,T k->k<W.heap.size
  bound: ∀v s n s',val v s=.ok (n,s')->n<=4294967295
  enter: ∀(args:Array Θ) (W:ω),(ϕ F args).run aj W=.ok (.enter F args) W
  call: ∀v s T W,St s T W->(v=7->0<BN s)->Γ aj F (#[.int .i64 v]++cap) W fun e W'=> ∃T',Ext T W T' W'/\match val v s with
    | .ok (n,s')=>e=.returned (.int .i64 n)/\St s' T' W'
    | .error er=>e=.panicked [{v:=.iface 314 (.agg #[.int .i64 er]),recovered:=false}]/\StE T' W'
def Pt.need:Pt->Nat
 | .nil=>0
 | .pl v r=>r.need+(if v=7 then 1 else 0)
 | .grp _ _ r=>r.need
def Pt.wf:Pt->Prop
 | .nil=>True
 | .pl _ r=>r.wf
 | .grp k l r=>(k=1\/k=2\/k=3)/\l.len<=1000/\l.need=0/\l.wf/\r.wf
def wL{σ:Type}{val:Int->σ->Except Int (Int × σ)}{k:Int}{l r:Pt}{last:Int}{s:σ}:mV val (.grp k l r) last s=match jg (mV val l 0) (qC k last) s with
    | .error e=> .error e
    | .ok s'=>mV val r last s':=by
  rfl
theorem DN{σ:Type}{BN:σ->Nat}{f:σ->Except Int σ}(h: ∀s s',f s=.ok s'->BN s<=BN s'): ∀(n:Nat) (s s':σ),jg f n s=.ok s'->BN s<=BN s'
 |0,s,s',e=>by rw[jg]at e;grind
 |n+1,s,s',e=>by rw[jg]at e;cases j:f s with|error x=>grind|ok H=>rw[j]at e;exact aG (h _ _ j) (DN h n H s' e)
theorem EP{σ:Type}{BN:σ->Nat}{val:Int->σ->Except Int (Int × σ)}(H: ∀v s n s',val v s=.ok (n,s')->BN s<=BN s'+(if v=7 then 1 else 0)): ∀(p:Pt) (last:Int) (s s':σ),p.wf->mV val p last s=.ok s'->BN s<=BN s'+p.need
 | .nil,_,s,s',_,e=>by rw[mV]at e;grind
 | .pl v r,last,s,s',J,e=>by rw[mV]at e;cases j:val v s with|error x=>grind|ok Y=>obtain⟨n,M⟩:=Y;rw[j]at e;have N:=H _ _ _ _ j;have O:=EP H r n M s' J e;simp only[Pt.need];omega
 | .grp k l r,last,s,s',J,e=>by rw[wL]at e;obtain⟨_,_,Z,U,V⟩:=J;cases j:jg (mV val l 0) (qC k last) s with|error x=>grind|ok M=>rw[j]at e;have N:=DN (BN:=BN) (λa b h=>by have:=EP H l 0 a b U h;omega) _ _ _ j;have O:=EP H r last M s' V e;simp only[Pt.need];omega
def yU {σ:Type} (St:σ->(Nat->Prop)->ω->Prop) (StE:(Nat->Prop)->ω->Prop) (T:Nat->Prop) (w:ω) (q:Except Int σ) (e:ε) (W':ω):Prop:= ∃T',Ext T w T' W'/\match q with
 | .ok s'=>e=.returned (.tuple #[])/\St s' T' W'
 | .error er=>e=.panicked [{v:=.iface 314 (.agg #[.int .i64 er]),recovered:=false}]/\StE T' W'
theorem ZC{σ:Type}{val:Int->σ->Except Int (Int × σ)}{St:σ->(Nat->Prop)->ω->Prop}{BN:σ->Nat}(C:Clo F cap val St StE BN){s':σ}(h:ajc St T w0 n s' v w)(j:w w'):ajc St T w0 n s' v w':=by obtain⟨e,T',H,J⟩:=h;exact⟨e,T',H.trans (Ext.of_below j),C.below _ _ _ _ J j⟩
theorem SY{σ:Type}{val:Int->σ->Except Int (Int × σ)}{St:σ->(Nat->Prop)->ω->Prop}{BN:σ->Nat}(C:Clo F cap val St StE BN)(g:Nat)(ak:Nat): ∀(p:Pt) (hN:p.size<ak) (bN:p.wf) (A:Option δ) (c n:Nat) (hn:p.len=n) (s:σ) (T:Nat->Prop) (w:ω) (hs:St s T w) (bn:p.need<=BN s) (hp:sO B wp A p) (aD:wp.heap.size<=w.heap.size) (bi: ∀k,B<=k->k<wp.heap.size->w.heap[k]? =wp.heap[k]? /\ ¬T k) (hl:n<=1000) (hg:fK w g 316 #[.func (.func F) #[] cap]) (a5: ¬T g),Γ aj 217 #[.pointer g,.slice A n c] w (yU St StE T w (mV val p 0 s)):=by
 induction ak with
 |zero=>intro p hN;exact absurd hN (Nat.not_lt_zero _)
 |succ ak ih=>
  intro p hN bN A c n hn s T w hs bn hp aD bi hl hg a5;obtain⟨xs,hx,hm⟩:=hp;have bS:xs.length=n:=by rw[hm.len,hn]
  have bm:=ah bS;have HM:=ah hm;have aR:=ah bi;clear bS hm bi hn;go_enter func217,ntmps217;go_wp2;go_loopw [4,9] (λla i wr=> ∃(k:Nat) (last:Int) (s':σ) (T':Nat->Prop) (r:Pt),Hid (r.size<ak+1/\r.wf/\r.need<=BN s')/\Hid (last<=4294967295)/\i=.int .i64 k/\k<=n/\la=.int .i64 last/\St s' T' wr/\Ext T w T' wr/\Hid (kX B wp r (xs.drop k))/\Hid (mV val p 0 s=mV val r last s')) (λ_ i _=>n-(intOf i).toNat);case atStart=>exact⟨0,0,s,T,p,ah ⟨hN,bN,bn⟩,ah (by decide),rfl,aV _,rfl,hs,Ext.refl _ _,ah (by rw[List.drop_zero];exact HM.out),ah rfl⟩
  case round=>
   obtain⟨k,last,s',T',r,ae,a7,rfl,hk,rfl,aL,N,hr,af⟩:=hrel;by_cases cn:k<n
   .obtain⟨x,bR⟩:=aq5 bm.out cn;have H:xs.drop k=x::xs.drop (k+1):=ark bR;have a6:fK wr g 316 #[.func (.func F) #[] cap]:=hg.ext N a5;have cu:=hx.ext N aD aR.out;obtain⟨gb,off,hA,bc,hc⟩:=cu.get bR;have a0:=hc 0 _ rfl;have a9:=hc 1 _ rfl;have a2:=hc 2 _ rfl;simp only[arQ,bI]at a0 a9 a2;subst hA;cases r with
    |nil=>have:=hr.out;rw[H]at this;cases this
    |pl v r=>
     have ad:=hr.out;rw[H]at ad;obtain⟨ys,e,a8⟩:=ad;obtain⟨rfl,rfl⟩:=List.cons.inj e;simp only[plC]at a0 a9 a2;have Z:=(Own.nil wr).alloc 341 #[v,zI,nS] _ rfl;have bq:=Z.b0.cell;go_wp2;have xP:=NV T';have ch:=C.inn _ _ _ aL;have a4: ¬T' wr.heap.size:=λc=>absurd (ch _ c) (Nat.lt_irrefl _);have aw: ¬T' g:=λc=>(N.sub g c).elim a5 λc=>absurd hg.lt (Nat.not_lt.2 c);have ap:=C.below _ _ _ _ aL Z.below;have a1:=Z.b0;have bx:=a6.below Z.below a6.lt;clear bq;cases J:val v s' with
     |error er=>
      have cg:=C.enter;(have ax:v=7->0<BN s':=λe=>by have:=ae.out.2.2;simp only[Pt.need,Υ e]at this;omega);have an:=λW (h:St s' T' W)=>C.call v s' T' W h ax;clear ax;rw[J]at an;simp only at an;(have az:mV val p 0 s=.error er:=by rw[af.out,mV,J]);have U:=ah az;clear az af hr J;apply gu (CJ T') xP.drew xP.trans (Ag 6 (CJ T')) (λ_ _ _ h=>h.g xP) (DK xP) (Wv 6 (λW=>St s' T' W)) (λ_ _=>(λ(W W':ω) (h:St s' T' W) (hb:W W')=>C.below _ _ _ _ h hb) _ _ (ap) (aq3 gY 1)) (λi aM W W' bd hp ht e=>(λ(W W':ω) (h:St s' T' W) (hb:W W')=>C.below _ _ _ _ h hb) _ _ (hp e) (ht.1 (λej=>bd (e.trans ej.symm))));(case lX=>intro u;simp only[bV,aq9,aP,ay,aA,aB,aT,aJ];with_reducible rfl);(case hm=>kernel_rfl);(case hB=>kernel_rfl);(case hA=>kernel_rfl);case hap=>kernel_rfl
      repeat(first
         |(refine fM.one ((λ(_ : Θ) (_ : ω)=> False)) ?_ ?_
           ·
             (intro u w' hk aa H
              replace aa:=aa rfl
              simp[fO,aC,gI,Is]at H
              refine fC ?_ ?_
              ·
                first
                |rfl
              intro K hK
              go_wp2_with ((refine(an _ aa).mono ?_);rintro e w3⟨M,ac,rfl,av⟩);exact⟨rfl,M,N.trans (Ext.after (CJ.trans' (Ext.r (Ext.of_below Z.below)) hk) ac),by rw[U.out];exact⟨rfl,av⟩⟩))
         |(apply fM.is
           ·
             (intro u w' hk aa H
              clear aa
              simp[fO,aC,gI,Is]at H
              refine fC ?_ ?_
              ·
                first
                |rfl
              intro K hK
              have bu:=(a1.ext' hk a4).cell;have Tc:=(bx.ext' hk aw).cell
              go_wp2_with (fail)
              try simp only[H]at hK
              refine hK _ _ ?_ rfl
              first |exact yS (by decide))))
      refine fM.last (JK ?_) ?_;(.simp only[gQ];(repeat(refine⟨?_,?_⟩;.first|exact DL _|exact yT (λ_ _ _ h _=>h)));exact trivial);intro u w2 ci _ H;simp only[gQ]at H;exact(H 6 _ rfl).elim
     |ok ns=>
      obtain⟨nv,j⟩:=ns;have cg:=C.enter;(have ax:v=7->0<BN s':=λe=>by have:=ae.out.2.2;simp only[Pt.need,Υ e]at this;omega);have an:=λW (h:St s' T' W)=>C.call v s' T' W h ax;clear ax;rw[J]at an;simp only at an;apply gu (CJ T') xP.drew xP.trans (Ag 6 (CJ T')) (λ_ _ _ h=>h.g xP) (DK xP) (Wv 6 (λW=>St s' T' W)) (λ_ _=>(λ(W W':ω) (h:St s' T' W) (hb:W W')=>C.below _ _ _ _ h hb) _ _ (ap) (aq3 gY 1)) (λi aM W W' bd hp ht e=>(λ(W W':ω) (h:St s' T' W) (hb:W W')=>C.below _ _ _ _ h hb) _ _ (hp e) (ht.1 (λej=>bd (e.trans ej.symm))));(case lX=>intro u;simp only[bV,aq9,aP,ay,aA,aB,aT,aJ];with_reducible rfl);(case hm=>kernel_rfl);(case hB=>kernel_rfl);(case hA=>kernel_rfl);case hap=>kernel_rfl
      repeat(first
         |(refine fM.one (ajc St T' wr nv j) ?_ ?_
           ·
             (intro u w' hk aa H
              replace aa:=aa rfl
              simp[fO,aC,gI,Is]at H
              refine fC ?_ ?_
              ·
                first
                |rfl
              intro K hK
              go_wp2_with ((refine(an _ aa).mono ?_);rintro e w3⟨M,ac,rfl,am⟩);(try simp only[H]at hK);exact hK _ _ (JJ ac.r) ⟨rfl,M,Ext.after (CJ.trans' (Ext.r (Ext.of_below Z.below)) hk) ac,am⟩))
         |(apply fM.is
           ·
             (intro u w' hk aa H
              clear aa
              simp[fO,aC,gI,Is]at H
              refine fC ?_ ?_
              ·
                first
                |rfl
              intro K hK
              have bu:=(a1.ext' hk a4).cell;have Tc:=(bx.ext' hk aw).cell
              go_wp2_with (fail)
              try simp only[H]at hK
              refine hK _ _ ?_ rfl
              first |exact yS (by decide))))
      refine fM.last (JK ?_) ?_;(.simp only[gQ];(repeat(refine⟨?_,?_⟩;.first|exact DL _|exact yT (λ_ _ _ h hb=>ZC C h hb)));exact trivial);intro u w2 ci _ H;simp only[gQ]at H;refine⟨rfl,?_⟩;intro K hK;have h6:=H 6 _ rfl;clear H;obtain⟨e6,M,ac,am⟩:=h6;replace e6:u 6=.int .i64 nv:=e6;(have az:mV val (.pl v r) last s'=mV val r nv j:=by rw[mV,J]);have U:=ah (af.out.trans az);have HR:=ah a8;have cc:Hid (nv<=4294967295):=ah (C.bound _ _ _ _ J);have ar:Hid (r.size<ak+1/\r.wf/\r.need<=BN j):=ah ⟨Nat.lt_of_succ_lt ae.out.1,ae.out.2.1,by have:=ae.out.2.2;have:=C.keep _ _ _ _ J;simp only[Pt.need]at *;omega⟩;clear az a8 af hr J H;go_wp2_with fail;go_roundw;(case rel=>exact⟨k+1,nv,j,M,r,ar,cc,by go_num,by omega,(by first |exact e6),am,N.trans ac,HR,U⟩);case measure=>simp[intOf] <;> omega
    |grp q l r=>
     have ad:=hr.out;rw[H]at ad;obtain⟨Al,nl,cl,ys,e,⟨zs,hz,bX,bk⟩,a8⟩:=ad;obtain⟨rfl,rfl⟩:=List.cons.inj e;simp only at a0 a9 a2;have Z:=(Own.nil wr).alloc 341 #[zI,q,.slice Al nl cl] _ rfl;have bq:=Z.b0.cell;(have bA:l.len=nl:=by rw[<-bk.len,bX]);have aw: ¬T' g:=λc=>(N.sub g c).elim a5 λc=>absurd hg.lt (Nat.not_lt.2 c);have a4: ¬T' wr.heap.size:=λc=>absurd (C.inn _ _ _ aL _ c) (Nat.lt_irrefl _);have a1:=Z.b0;(have bB:l.size<ak:=by have:=ae.out.1;simp only[Pt.size]at this;omega);have bO:=ae.out.2.1;simp only[Pt.wf]at bO;obtain⟨hq,cm,bf,bh,bE⟩:=bO;have ar: ∀j,BN s'<=BN j->Hid (r.size<ak+1/\r.wf/\r.need<=BN j):=λj h=>ah ⟨by have:=ae.out.1;simp only[Pt.size]at this;omega,bE,by have:=ae.out.2.2;simp only[Pt.need]at this;omega⟩;(have bc: ∀j s3,mV val l 0 j=.ok s3->BN j<=BN s3:=λj s3 h=>by have:=EP C.keep l 0 j s3 bh h;rwa [bf,bI]at this);have ag:=λ(W:ω) (M:Nat->Prop) (j:σ) (hS:St j M W) (hE:Ext T' wr M W)=>ih l bB bh Al cl nl bA j M W hS (by rw[bf];exact aV _) ⟨zs,hz,bk⟩ (aG aD (N.trans hE).size) (λk h1 h2=>⟨((N.trans hE).same k (aU h2 aD) (aR.out k h1 h2).2).trans (aR.out k h1 h2).1,λc=>((N.trans hE).sub k c).elim (aR.out k h1 h2).2 λc=>absurd (aU h2 aD) (Nat.not_lt.2 c)⟩) (by omega) (a6.ext hE aw) (λc=>(hE.sub g c).elim aw λc=>absurd a6.lt (Nat.not_lt.2 c));have HR:=ah a8;have V:=af.out;rw[wL]at V;have ap:=C.below _ _ _ _ aL Z.below;have al:Ext T' wr T' (wr.alloc (.cells #[zI,q,.slice Al nl cl] 341)):=Ext.of_below Z.below;(have f0:(q==0)=false:=by rcases hq with rfl |rfl |rfl <;> rfl);clear hr hz bX bk bA bB bh bf bE cm af;by_cases q1:q=1
     ·(have f1:(q==1)=true:=by simpa using q1);(have ho:qC q last=last.toNat:=by unfold qC;rw[Υ q1]);rw[ho]at V;have ZF:=ah V;obtain⟨Y,hM⟩:=fD last.toNat;rw[<-hM]at ZF;clear V ho q1 hq;go_wp2_with fail;go_loopw [29] (λaM ca=> ∃(i:Nat) (j:σ) (M:Nat->Prop),aM=.int .i64 i/\i<=Y/\St j M ca/\Ext T' (wr.alloc (.cells #[zI,q,.slice Al nl cl] 341)) M ca/\Hid (jg (mV val l 0) Y s'=jg (mV val l 0) (Y-i) j/\BN s'<=BN j)) (λaM _=>Y-(intOf aM).toNat);(case atStart=>exact⟨0,s',T',rfl,aV _,ap,Ext.refl _ _,ah ⟨rfl,aW _⟩⟩);case round=>
       obtain⟨i,j,M,rfl,hi,bL,au,ai⟩:=hrel;have bo:=a7.out;by_cases ct:i<Y
       ·(have cf:decide ((i:Int)<last)=true:=by simp;omega);have bu:=(a1.ext au a4).cell;have O:=ag _ M j bL (al.trans au);unfold yU at O
        have aq:jg (mV val l 0) (Y-i) j=match mV val l 0 j with
          | .error e=> .error e
          | .ok s3=>jg (mV val l 0) (Y-(i+1)) s3:=by
          rw[show Y-i=(Y-(i+1))+1 by omega,jg]
          rfl
        cases J:mV val l 0 j with|error er=>rw[J]at O aq;have U:Hid (mV val p 0 s=.error er):=ah (by rw[ZF.out,ai.out.1,aq]);simp only at O;clear aq J ai ag bo hM;go_wp2_with((with_reducible refine O.mono ?_);rintro e w3⟨T3,av,rfl,bb⟩);exact⟨rfl,T3,((N.trans al).trans au).trans av,by rw[U.out];exact⟨rfl,bb⟩⟩|ok s3=>rw[J]at O aq;have cd:Hid (jg (mV val l 0) Y s'=jg (mV val l 0) (Y-(i+1)) s3/\BN s'<=BN s3):=ah ⟨ai.out.1.trans aq,aG ai.out.2 (bc _ _ J)⟩;simp only at O;clear aq J ai ag;go_wp2_with((with_reducible refine O.mono ?_);rintro e w3⟨T3,av,rfl,bb⟩);go_roundw;(case rel=>exact⟨i+1,s3,T3,by go_num,by omega,bb,au.trans av,cd⟩);case measure=>simp[intOf] <;> omega
       ·(have cf:decide ((i:Int)<last)=false:=by simp;omega);have bj:=ai.out.1;have ba:=ar j ai.out.2;rw[show Y-i=0 by omega,jg]at bj;have U:Hid (mV val p 0 s=mV val r last j):=ah (by rw[ZF.out,bj]);clear bj ai ag bo hM ct;go_wp2_with fail;go_roundw;(case rel=>exact⟨k+1,last,j,M,r,ba,a7,by go_num,by omega,rfl,bL,(N.trans al).trans au,HR,U⟩);case measure=>simp[intOf] <;> omega
     (focus((have f1:(q==1)=false:=by simpa using q1);by_cases aE:last=1\/q=3/\last=2;(focus((have ho:qC q last=1:=by unfold qC;rw[Ξ q1,Υ aE]);rw[ho]at V;have O:=ag _ T' s' ap al;unfold yU at O;rcases J:mV val l 0 s' with er |j;(.rw[J]at O;have U:Hid (mV val p 0 s=.error er):=ah (by rw[V];simp[jg,J]);simp only at O;clear V ho ag J;by_cases l1:last=1;(focus(have f2:(last==1)=true:=by simpa using l1));rotate_left;(focus((have f2:(last==1)=false:=by simpa using l1);(have f3:(q==3)=true:=by simp;omega);have f4:(last==2)=true:=by simp;omega));all_goals(clear aE q1 hq l1;go_wp2_with((with_reducible refine O.mono ?_);rintro e w3⟨M,ac,rfl,am⟩);exact⟨rfl,M,(N.trans al).trans ac,by rw[U.out];exact⟨rfl,am⟩⟩));focus(rw[J]at O;have U:Hid (mV val p 0 s=mV val r last j):=ah (by rw[V];simp[jg,J]);have ba:=ar j (bc _ _ J);simp only at O;clear V ho ag J;by_cases l1:last=1;(focus(have f2:(last==1)=true:=by simpa using l1));rotate_left;focus((have f2:(last==1)=false:=by simpa using l1);(have f3:(q==3)=true:=by simp;omega);have f4:(last==2)=true:=by simp;omega))));rotate_left 2;·(have ho:qC q last=0:=by unfold qC;rw[Ξ q1,Ξ aE]);rw[ho]at V;have U:Hid (mV val p 0 s=mV val r last s'):=ah V;(have f2:(last==1)=false:=by simp;omega);clear V ho ag;by_cases q3:q=3;(focus((have f3:(q==3)=true:=by simpa using q3);have f4:(last==2)=false:=by simp;omega));rotate_left;(focus(have f3:(q==3)=false:=by simpa using q3));all_goals(clear aE q1 q3 hq;go_wp2_with fail;go_roundw;(case rel=>exact⟨k+1,last,s',T',r,ar s' ig,a7,by go_num,by omega,rfl,ap,N.trans al,HR,U⟩);case measure=>simp[intOf] <;> omega)));all_goals(clear aE q1 hq l1;go_wp2_with((with_reducible refine O.mono ?_);rintro e w3⟨M,ac,rfl,am⟩);go_roundw;(case rel=>exact⟨k+1,last,j,M,r,ba,a7,by go_num,by omega,rfl,am,(N.trans al).trans ac,HR,U⟩);case measure=>simp[intOf] <;> omega)
   ·(obtain rfl:k=n:=by omega);have ad:=hr.out;rw[dJ (by rw[bm.out];exact aW _)]at ad;obtain rfl:r=.nil:=by
     cases r with
     |nil=>rfl
     |pl v r=>obtain⟨ys,e,_⟩:=ad;cases e
     |grp q l r=>obtain⟨_,_,_,ys,e,_⟩:=ad;cases e
    have bw:mV val p 0 s=.ok s':=af.out.trans rfl;have HE:=ah bw;clear bw ad hr af;go_wp2_with fail;go_end0;exact⟨T',N,by rw[HE.out];exact⟨rfl,aL⟩⟩
theorem PL{F:(Nat->Θ)->Act}{Q:Exit->Act->ω->Prop}{o:ο}{u:Nat->Θ}{T:ω->ω->Prop}(j:aF o (ψ ops (F u).tmps)=false)(h:Φ υ w):jP P ops F T o Φ Q u w:=by unfold jP;grind
def CW (R:Option Nat) (s i:Nat) (w w':ω):Prop:=(i≠s->w w')/\w.grownBy w' R
def vT(R:Option Nat)(s i:Nat)(w:ω):CW R s i w w:=⟨λ_=>aH _ _,World.grownBy.refl w R⟩
def arj(h:w w')(R:Option Nat):w.grownBy w' R:=⟨h.os,h.tape,h.output,h.size,λk j _=>h.block k j⟩
def uw{s:Nat}(h:w w'):CW R s i w w':=⟨λ_=>h,arj h R⟩
theorem lN{c:ω}(h:a.grownBy b R)(k:b.grownBy c R):a.grownBy c R:=⟨k.os.trans h.os,k.tape.trans h.tape,k.output.trans h.output,aG h.size k.size,λi hi hn=>(k.block i (aU hi h.size) hn).trans (h.block i hi hn)⟩
def Gm (t:τ) (R:Option Nat) (cs:Array Θ):Θ->ω->Prop:=fun v w=> ∃bv,v=.slice (some ⟨bv,0,none⟩) 1 1/\fK w bv t cs/\R≠some bv
def Gm.grow{t:τ}(h:Gm t R cs v w)(j:w.grownBy w' R):Gm t R cs v w':=by obtain⟨bv,e,hB,hn⟩:=h;exact⟨bv,e,(j.block bv hB.lt (λe=>hn e.symm)).trans hB,hn⟩
def PN {α:Type} (E:arb α) (t:τ) (B n:Nat) (xs:List α):Θ->ω->Prop:=fun v w=> ∃A c,v=.slice A n c/\aq1 E t w B A c xs
theorem PN.grow{α:Type}{E:arb α}{t:τ}{n:Nat}{xs:List α}(h:PN E t B n xs v w)(H:w w'):PN E t B n xs v w':=by obtain⟨A,c,e,j⟩:=h;exact⟨A,c,e,j.below H⟩
def StQ (R:Option Nat) (s:Nat):Nat->List (Θ->ω->Prop)->Prop
 |_,[]=>True
 |n,Φ::l=>(∀i,i≠n-> ∀v w w',Φ v w->CW R s i w w'->Φ v w')/\StQ R s (n+1) l
theorem acJ{s:Nat}: ∀ {l:List (Θ->ω->Prop)} {n j:Nat} {Φ:Θ->ω->Prop},StQ R s n l->l[j]? =some Φ-> ∀i,i≠n+j-> ∀v w w',Φ v w->CW R s i w w'->Φ v w'
 | [],_,_,_,_,hj=>by grind
 |Ψ::l,n,0,Φ,h,hj=>by simp only[eP,aO]at hj;subst hj;intro i hi;exact h.1 i hi
 |Ψ::l,n,j+1,Φ,h,hj=>by rw[fB]at hj;intro i hi;exact acJ h.2 hj i (by omega)
def Ai{s:Nat}{l:List (Θ->ω->Prop)}(h:StQ R s 0 l): ∀i j (Φ:Θ->ω->Prop),i≠j->i<l.length->l[j]? =some Φ-> ∀v w w',Φ v w->CW R s i w w'->Φ v w':=λi j _ N _ H v w w' M J=>acJ h H i (by omega) v w w' M J
section
def qQ (A:Option δ) (i c:Nat):Option δ:=if c=i then A else A.map (·.add i)
theorem BO(A:Option δ)(c:Nat):qQ A 0 c=A:=by
 unfold qQ;split;.rfl
 .cases A with|none=>rfl|some a=>rfl
theorem aq2.qQ{w:ω}{A:Option δ}{c:Nat}{bs:List UInt8}(h:aq2 w A c bs)(i n:Nat)(hn:i+n<=bs.length):aq2 w (qQ A i c) (c-i) ((bs.drop i).take n):=by
 have J:((bs.drop i).take n).length=n:=by grind
 have V:=h.cap;refine⟨λM=>?_,by omega,aG (Nat.sub_le _ _) h.max⟩;rw[aq8,J]at M;have N:0<(aq6 bs).length:=by rw[aq8];omega
 obtain⟨b,off,rfl,U,hc⟩:=h.row N;have e:Proofs.YthnmgjngniciaaaGreatDoor.qQ (some ⟨b,off,none⟩) i c=some ⟨b,off+i,none⟩:=by unfold Proofs.YthnmgjngniciaaaGreatDoor.qQ;rw[Ξ (by omega)];simp[Addr.add]
 refine⟨b,off+i,e,U,λH u j=>?_⟩;have O:H<n:=by
  rcases eu H n with h |h;.exact h
  .rw[dQ (by rw[aq8,J];exact h)]at j;cases j
 have:=hc (i+H) u (by rw[<-j];simp only[aq6,bW];rw[dG O,List.getElem?_drop]);rwa [<-Nat.add_assoc]at this
theorem aq2.cut{w:ω}{b off c:Nat}{bs:List UInt8}(h:aq2 w (some ⟨b,off,none⟩) c bs)(i n:Nat)(hn:i+n<=bs.length)(j:0<n):aq2 w (some ⟨b,off+i,none⟩) (c-i) ((bs.drop i).take n):=by
 have:=h.qQ i n hn;have H:=h.cap;unfold Proofs.YthnmgjngniciaaaGreatDoor.qQ at this;rw[Ξ (by omega)]at this;by_cases hi:i=0;.subst hi;assumption
 .simpa[Addr.add,hi] using this
def aq2.aif{w:ω}{A:Option δ}{c:Nat}{bs:List UInt8}(h:aq2 w A c bs)(n:Nat)(hn:n<=bs.length):aq2 w A c (bs.take n):=by have:=h.qQ 0 n (by omega);rwa [BO,List.drop_zero,Nat.sub_zero]at this
def aq2.cutFrom{w:ω}{A:Option δ}{c:Nat}{bs:List UInt8}(h:aq2 w A c bs)(i:Nat)(hi:i<=bs.length):aq2 w (Proofs.YthnmgjngniciaaaGreatDoor.qQ A i c) (c-i) (bs.drop i):=by have:=h.qQ i (bs.length-i) (by omega);rwa [aY (by simp)]at this
section
variable (w:ω) (a:Option δ) (len cap:Nat)
def aii:aj.underlying 45=some (.slice (aj.elem 45)):=by kernel_rfl
theorem YA:(sizeOf (aj.elem 45)).run aj w=.ok 1 w:=by
 have h:(aj.info? (aj.elem 45)).map (·.size)=some 1:=by kernel_rfl
 cases H:aj.info? (aj.elem 45) with
 |none=>grind
 |some J=>
  have j:J.size=1:=by grind
  simp[sizeOf,typeInfo,H,j]
def tJ(j:IntKind)(l:Int)(H:0<=l)(J:l<=len):(Instr.slice 45 (.slice a len cap) (some (.int j l)) none none).run aj w=.ok (.slice (qQ a l.toNat cap) (len-l.toNat) (cap-l.toNat)) w:=by rw[run_slice_l w 45 a len cap aii j l H J,YA];simp[Result.andThen,sliced,qQ]
def CX(j:IntKind)(h:Int)(H:0<=h)(J:h<=cap):(Instr.slice 45 (.slice a len cap) none (some (.int j h)) none).run aj w=.ok (.slice a h.toNat cap) w:=by rw[run_slice_h w 45 a len cap aii j h H J,YA];have:=BO a cap;unfold qQ at this;simp[Result.andThen,sliced,this]
end
end
section
def iU:arb (Int × Int):=⟨2,fun p=> [.int .i64 p.1,.int .i64 p.2],fun _=>rfl,fun _ u hu=>by simp at hu;rcases hu with rfl |rfl <;> rfl,by decide⟩
def Jb:qo aj iU 246 245 16:=arD (.agg gF) underlying246 (by kernel_rfl) rfl
def Am{w:ω}{g:Nat}{x:Int × Int}(h:fK w g 245 #[.int .i64 x.1,.int .i64 x.2]):fE iU w (some ⟨g,0,none⟩) [x]:=qw h rfl
def JL {α:Type} (E:arb α) (t:τ) (B m:Nat) (R:Option Nat) (n:Nat) (xs:List α):Θ->ω->Prop:=fun v w=> ∃A c,v=.slice A n c/\aq1 E t w B A c xs/\(A.map (·.block)=R\/ ∃g,A.map (·.block)=some g/\m<=g)
theorem JL.grow{α:Type}{E:arb α}{t:τ}{B m n:Nat}{R:Option Nat}{xs:List α}{v:Θ}{w w':ω}(h:JL E t B m R n xs v w)(H:w w'):JL E t B m R n xs v w':=by obtain⟨A,c,e,j,hA⟩:=h;exact⟨A,c,e,j.below H,hA⟩
theorem fE.keep'{α:Type}{E:arb α}{w w':ω}{A:Option δ}{xs:List α}(h:fE E w A xs)(N:w.heap.size<=w'.heap.size)(M:xs≠ []-> ∀a,A=some a->a.block<w.heap.size->w'.heap[a.block]? =w.heap[a.block]?):fE E w' A xs:=by
 intro j;obtain⟨b,off,e,H,hc⟩:=h j;have U:xs≠ []:=λe=>by rw[e]at j;exact absurd j (by simp[arb.flat])
 have J:w'.heap[b]? =w.heap[b]? :=M U _ e H;exact⟨b,off,e,aU H N,λV u O=>(World.cell?_of_block (w:=w) J).trans (hc V u O)⟩
section
variable (w:ω) (a:Option δ) (len cap:Nat)
def PO:aj.underlying 22=some (.slice (aj.elem 22)):=by kernel_rfl
theorem Gn:(sizeOf (aj.elem 22)).run aj w=.ok 1 w:=by
 have h:(aj.info? (aj.elem 22)).map (·.size)=some 1:=by kernel_rfl
 cases H:aj.info? (aj.elem 22) with
 |none=>grind
 |some J=>
  have j:J.size=1:=by grind
  simp[sizeOf,typeInfo,H,j]
def ER(j:IntKind)(l:Int)(H:0<=l)(J:l<=len):(Instr.slice 22 (.slice a len cap) (some (.int j l)) none none).run aj w=.ok (.slice (qQ a l.toNat cap) (len-l.toNat) (cap-l.toNat)) w:=by rw[run_slice_l w 22 a len cap PO j l H J,Gn];simp[Result.andThen,sliced,qQ]
end
theorem DR{A:Option δ}{i c:Nat}{a:δ}(h:qQ A i c=some a): ∃a',A=some a'/\a'.block=a.block:=by
 unfold qQ at h;split at h;.grind
 .cases A with
  |none=>cases h
  |some a'=>simp at h;refine⟨a',rfl,?_⟩;rw[<-h];unfold Addr.add;split <;> rfl
theorem JM{w:ω}{A:Option δ}{c:Nat}{n:Int}{l:List Int}(h:fE aq7 w A (n::l))(hc:l.length+1<=c):fE aq7 w (qQ A 1 c) l:=by
 intro j;have O:0<l.length:=by rw[arb.flat_length]at j;grind
 obtain⟨b,off,e,H,J⟩:=h (by rw[arb.flat_length];simp[aq7]);subst e;refine⟨b,off+1,?_,H,λN u M=>?_⟩;.unfold qQ;rw[Ξ (by omega)];simp[Addr.add]
 .have:=J (1+N) u (by rw[arb.nX,List.getElem?_append_right (by simp[aq7])];simpa[aq7] using M);rwa [<-Nat.add_assoc]at this
structure ItS (B bl br:Nat) (A1:Option δ) (c1:Nat) (A2:Option δ) (c2:Nat) (s:List Int × List (Int × Int)) (T:Nat->Prop) (W:ω):Prop where
  foot: ∀k,T k<->(k=bl\/k=br\/A1.map (·.block)=some k)
  lb:fK W bl 246 #[.slice A1 s.2.length c1]
  rb:fK W br 22 #[.slice A2 s.1.length c2]
  own:aq1 iU 245 W B A1 c1 s.2
  bl0:0<bl/\bl<B
  br0:0<br/\A1.map (·.block)≠some br
  ne:bl≠br
  size:B<=W.heap.size
  rest:fE aq7 W A2 s.1
  away:s.1≠ []-> ∀a,A2=some a->a.block<B/\a.block≠bl/\a.block≠br
  tab:Tab W
  len:s.1.length+s.2.length<=65000
  cap:s.1.length<=c2/\c2<=μ
def Au (B bl br:Nat) (s:List Int × List (Int × Int)) (T:Nat->Prop) (W:ω):Prop:= ∃A1 c1 A2 c2,ItS B bl br A1 c1 A2 c2 s T W
def PS (s:List Int × List (Int × Int)):Nat:=65000-(s.1.length+s.2.length)
theorem Au.below{B bl br:Nat}{s:List Int × List (Int × Int)}{T:Nat->Prop}{W W':ω}(h:Au B bl br s T W)(j:W W'):Au B bl br s T W':=by obtain⟨A1,c1,A2,c2,h⟩:=h;exact⟨A1,c1,A2,c2,h.foot,h.lb.below j h.lb.lt,h.rb.below j h.rb.lt,h.own.below j,h.bl0,h.br0,h.ne,aG h.size j.size,h.rest.below j,h.away,h.tab.below j,h.len,h.cap⟩
def Au.inn{B bl br:Nat}{s:List Int × List (Int × Int)}{T:Nat->Prop}{W:ω}(h:Au B bl br s T W)(k:Nat)(j:T k):k<W.heap.size:=by
 obtain⟨A1,c1,A2,c2,h⟩:=h;rcases(h.foot k).1 j with rfl |rfl |e;.exact h.lb.lt
 .exact h.rb.lt
 .exact(h.own.gJ k e).2
theorem JO(v:Int)(s:List Int × List (Int × Int))(n:Int)(s':List Int × List (Int × Int))(h:lC v s=.ok (n,s')):PS s<=PS s'+(if v=7 then 1 else 0):=by
 unfold lC at h;by_cases j:v=7;.rw[Υ j]at h;injection h with h;injection h with _ h;subst h;rw[Υ j];simp only[PS,bC,bK,dU];omega
 .rw[Ξ j]at h;rw[Ξ j];obtain⟨l,m⟩:=s;cases l with
  |nil=>cases h
  |cons x r=>simp only at h;by_cases hm:uX v x=true;(.rw[Υ hm]at h;injection h with h;injection h with _ h;subst h;simp only[PS,bC,bK,dU];omega);grind
theorem WJ{v n:Int}(h:uX v n=true):n<=4294967295:=by
 have H:=lq v;unfold uX at h;simp only[bM,decide_eq_true_eq]at h;have j:(2:Int) ^ (fQ v).toNat<=2 ^ 32:=by have:=Nat.pow_le_pow_right (n:=2) (by decide) (show(fQ v).toNat<=32 by omega);grind
 omega
theorem Td(v:Int)(s:List Int × List (Int × Int))(n:Int)(s':List Int × List (Int × Int))(h:lC v s=.ok (n,s')):n<=4294967295:=by
 unfold lC at h;by_cases j:v=7;.grind
 .rw[Ξ j]at h;obtain⟨l,m⟩:=s;cases l with
  |nil=>cases h
  |cons x r=>simp only at h;by_cases hm:uX v x=true;(.rw[Υ hm]at h;injection h with h;injection h with h _;subst h;exact WJ hm);grind
theorem ItS.laid{B bl br:Nat}{A1 A2:Option δ}{c1 c2:Nat}{s:List Int × List (Int × Int)}{T:Nat->Prop}{W j:ω}(h:ItS B bl br A1 c1 A2 c2 s T W)(H:W.grownBy j (A1.map (·.block))){A3:Option δ}{c3:Nat}{x:Int × Int}(ho:aq1 iU 245 j B A3 c3 (s.2++ [x]))(hA:A3.map (·.block)=A1.map (·.block)\/ ∃g,A3.map (·.block)=some g/\W.heap.size<=g)(ai:s.1.length+(s.2.length+1)<=65000): ∃T',Ext T W T' (j.setCell ⟨bl,0,none⟩ (.slice A3 (s.2.length+1) c3))/\Au B bl br (s.1,s.2++ [x]) T' (j.setCell ⟨bl,0,none⟩ (.slice A3 (s.2.length+1) c3)):=by
 have ad:fK j bl 246 #[.slice A1 s.2.length c1]:=(H.block bl h.lb.lt (λe=>by have:=(h.own.gJ bl e.symm).1;have:=h.bl0.2;omega)).trans h.lb;have af:fK j br 22 #[.slice A2 s.1.length c2]:=(H.block br h.rb.lt (λe=>h.br0.2 e.symm)).trans h.rb;have jL: ∀k,k≠bl->(j.setCell ⟨bl,0,none⟩ (.slice A3 (s.2.length+1) c3)).heap[k]? =j.heap[k]? :=λk M=>aN j ⟨bl,0,none⟩ _ k M;have N:(j.setCell ⟨bl,0,none⟩ (.slice A3 (s.2.length+1) c3)).heap.size=j.heap.size:=by simp
 have V:=h.bl0;have U:=h.br0;have ag:=h.size;have aa: ∀k,k<W.heap.size->k≠bl->A1.map (·.block)≠some k->(j.setCell ⟨bl,0,none⟩ (.slice A3 (s.2.length+1) c3)).heap[k]? =W.heap[k]? :=λk O J h3=>(jL k J).trans (H.block k O (λe=>h3 e.symm));have ae: ∀k,k<B->A1.map (·.block)≠some k:=λk M e=>by have:=(h.own.gJ k e).1;omega
 refine⟨λk=>k=bl\/k=br\/A3.map (·.block)=some k,⟨H.os,H.tape,H.output,by rw[N];exact H.size,λk O J=>aa k O (λe=>J ((h.foot k).2 (.inl e))) (λe=>J ((h.foot k).2 (.inr (.inr e)))),λk M=>?_⟩,A3,c3,A2,c2,?_⟩
 .rcases M with e |e |e;.exact .inl ((h.foot k).2 (.inl e))
  .exact .inl ((h.foot k).2 (.inr (.inl e)))
  .rcases hA with hA |⟨g,hA,ac⟩;(.exact .inl ((h.foot k).2 (.inr (.inr (hA▸e)))));grind
 .exact {foot:=λk=>Iff.rfl,lb:=by simp only[bC,bK,dU];exact ad.iV 0 _,rb:=af.far (p:=⟨bl,0,none⟩) h.ne.symm _,own:=ho.far V.2 jL,bl0:=V,br0:=⟨U.1,λe=>by rcases hA with hA |⟨g,hA,ac⟩;exact U.2 (hA▸e);rw[hA]at e;injection e with e;have:=h.rb.lt;omega⟩,ne:=h.ne,size:=by rw[N];exact aG ag H.size,rest:=h.rest.keep' (by rw[N];exact H.size) (λY a e Z=>aa _ Z (h.away Y a e).2.1 (ae _ (h.away Y a e).1)),away:=h.away,tab:=fE.keep' h.tab (by rw[N];exact H.size) (λ_ a e Z=>by grind),len:=by grind,cap:=h.cap}
theorem WL{B bl br:Nat}{s:List Int × List (Int × Int)}{T:Nat->Prop}{W:ω}(h:Au B bl br s T W)(h7:0<PS s):Γ aj 240 #[(7:Int),.pointer bl,.pointer br] W λe W'=> ∃T',Ext T W T' W'/\e=.returned zI/\Au B bl br (s.1,s.2++ [(0,fQ 7)]) T' W':=by
 obtain⟨A1,c1,A2,c2,h⟩:=h;have aa: ∀W2,W.grownBy W2 (A1.map (·.block))->fK W2 bl 246 #[.slice A1 s.2.length c1]:=λW2 H=>(H.block bl h.lb.lt (λe=>by have:=(h.own.gJ bl e.symm).1;have:=h.bl0.2;omega)).trans h.lb;have ak: ∀W2,W.grownBy W2 (A1.map (·.block))->W2.cell? ⟨bl,0,none⟩=some (.slice A1 s.2.length c1):=λW2 H=>(aa W2 H).cell 0;have IE: ∀W2,W.grownBy W2 (A1.map (·.block))->Tab W2:=λW2 H=>fE.keep' h.tab H.size (λ_ a e hb=>by injection e with e;subst e;exact H.block 0 hb (λe=>by have:=(h.own.gJ 0 e.symm).1;have:=h.bl0;omega));have N:=λ(w2:ω) (H:W.grownBy w2 (A1.map (·.block))) (A3:Option δ) (c3:Nat) (ho:aq1 iU 245 w2 B A3 c3 (s.2++ [(0,fQ 7)])) (hA:A3.map (·.block)=A1.map (·.block)\/ ∃g,A3.map (·.block)=some g/\W.heap.size<=g)=>h.laid H ho hA (by unfold PS at h7;omega);have ac:=h.own;have ag:=h.size;obtain⟨n1,O⟩:=fD s.2.length;obtain⟨zs,Z⟩:=fD s.2;obtain⟨wd,Y⟩:=fD (fQ 7);have ar:n1+1<=65000:=by unfold PS at h7;omega
 rw[<-Z]at ac N O;rw[<-Y]at N;have ap:Hid (zs.length=n1):=ah O.symm;rw[<-Z,<-O]at aa ak;rw[<-O]at N;have ad:=λW2 (H:W.grownBy W2 (A1.map (·.block)))=>pF 7 W2 (IE W2 H);rw[<-Y]at ad;have HE:=ah N;rw[<-Z,<-Y];clear h h7 N IE Y Z O;go_enter func240,ntmps240;go_wp2_with fail;apply uM (λw w'=>w.grownBy w' (A1.map (·.block))) (λw=>arj (aq3 gY 1) _) (λ_ _ _=>lN) (CW (A1.map (·.block)) 5) (λ_ _ _ h=>h.2) (λi W2=>i=5->aq1 iU 245 W2 B A1 c1 zs) (λ_ _=>ac.below (aq3 gY 1)) (λi au W1 W2 al hp V hi=>(hp hi).below (V.1 (λh=>al (hi.trans h.symm))));case lX=>intro u;simp only[bV,aq9,aP,ay,aA,aB,aT,aJ];with_reducible rfl
 case hm=>kernel_rfl
 case hB=>kernel_rfl
 case hA=>kernel_rfl
 case hap=>kernel_rfl
 repeat(first
    |(apply kE.is
      ·
        (intro u w' M U j
         clear U
         simp[fH,aC,Is]at j
         refine fC ?_ ?_
         ·
           first
           |rfl
         intro K J
         go_wp2_with (((with_reducible refine(ad _ M).mono ?_);rintro e w3⟨rfl,an⟩;obtain rfl:=an.symm))
         try simp only[j]at J
         refine J _ _ ?_ rfl
         exact vT _ _ _ _))
    |(refine kE.word (Gm 245 (A1.map (·.block)) #[zI, wd]) ?_ ?_
      ·
        (intro u w' M U j
         clear U
         simp[fH,aC,Is]at j
         refine fC ?_ ?_
         ·
           first
           |rfl
         intro K J
         go_wp2_with fail
         try simp only[j]at J
         exact J _ _ (uw jm) ⟨w',rfl,fK.new _ _ _,λe=>by have:=(ac.gJ _ e).2;have:=M.size;omega⟩))
    |(refine kE.word (JL iU 245 B W (A1.map (·.block)) (n1 + 1) (zs ++ [(0, wd)])) ?_ ?_
      ·
        (intro u w' M U j
         simp[fH,aC,Is]at j
         obtain⟨q1,⟨bv,q2,hB,hn⟩,_⟩:=j
         refine fC ?_ ?_
         ·
           first
           |rfl
         intro K J
         exact oH Jb (.tmp 8) (.tmp 12) rfl B A1 c1 zs n1 (by rw[<-q1];rfl) ap.out (U rfl) bv 1 [(0,wd)] 1 (by rw[<-q2];rfl) rfl (Am hB) (by omega) (by decide) (aG ag M.size) λA3 c3 W3 h1 h2 h3=>J _ _ ⟨λh=>absurd rfl h,h2⟩ ⟨A3,c3,rfl,h1,h3.imp id λe=>⟨_,e,M.size⟩⟩)))
 refine kE.last ?_ ?_
 .refine Ai ?_;simp only[gQ];repeat(refine⟨?_,?_⟩;.first|exact λ_ _ _ _ _ h _=>h|exact λ_ _ _ _ _ h V=>Gm.grow h V.2|exact λ_ hi _ _ _ h V=>JL.grow h (V.1 hi))
  exact trivial
 intro u w2 ae _ j;simp only[gQ]at j;obtain⟨A3,c3,hu,am,af⟩:=j 5 _ rfl;clear j;refine⟨rfl,?_⟩;intro K J;have ai:=aa _ ae;have aq:=ai.frozen 0;simp only[hu];clear hu;go_wp2_with fail;obtain⟨T',h1,h2⟩:=HE.out w2 ae A3 c3 am af;go_ret;exact⟨T',h1,rfl,h2⟩
def Jc (er:Int):ε:=.panicked [{v:=.iface 314 (.agg #[.int .i64 er]),recovered:=false}]
def WM{B bl br:Nat}{v:Int}{s:List Int × List (Int × Int)}{T:Nat->Prop}{W:ω}(h:Au B bl br s T W)(H:v≠7)(J:s.1= []):Γ aj 240 #[v,.pointer bl,.pointer br] W λe W'=>e=Jc 20/\W W':=by
 obtain⟨A1,c1,A2,c2,h⟩:=h;have j:=h.rb;rw[J]at j;have N:=j.cell 0;have M:(v==7)=false:=by simpa using H
 go_enter func240,ntmps240;go_wp2_with fail;exact⟨rfl,rfl,aH _ _⟩
theorem WO{B bl br:Nat}{v x:Int}{r:List Int}{m:List (Int × Int)}{T:Nat->Prop}{W:ω}(h:Au B bl br (x::r,m) T W)(H:v≠7)(hm:uX v x=false):Γ aj 240 #[v,.pointer bl,.pointer br] W λe W'=>e=Jc 20/\W W':=by
 obtain⟨A1,c1,A2,c2,h⟩:=h;have J:=h.rb.cell 0;obtain⟨g,off,rfl,O,hc⟩:=h.rest.get (i:=0) (x:=x) rfl;have a0:=hc 0 x rfl;simp only[Nat.zero_mul,bI]at a0;have N:(v==7)=false:=by simpa using H
 have j:=JG v x W h.tab;rw[hm]at j;simp only[bK]at J;go_enter func240,ntmps240;go_wp2_with((with_reducible refine j.mono ?_);rintro e U⟨rfl,M⟩;obtain rfl:=M.symm);exact⟨rfl,rfl,aH _ _⟩
theorem WQ{B bl br:Nat}{v x:Int}{r:List Int}{m:List (Int × Int)}{T:Nat->Prop}{W:ω}(h:Au B bl br (x::r,m) T W)(h7:v≠7)(hm:uX v x=true):Γ aj 240 #[.int .i64 v,.pointer (some ⟨bl,0,none⟩),.pointer (some ⟨br,0,none⟩)] W λe W'=> ∃T',Ext T W T' W'/\e=.returned (.int .i64 x)/\Au B bl br (r,m++ [(x,fQ v)]) T' W':=by
 obtain⟨A1,c1,A2,c2,h⟩:=h;have am:=h.rb.cell 0;obtain⟨g,off,rfl,J,hc⟩:=h.rest.get (i:=0) (x:=x) rfl;have a0:=hc 0 (.int .i64 x) rfl;simp only[Nat.zero_mul,bI]at a0;have f0:(v==7)=false:=by simpa using h7
 have f1:((r.length+1:Nat)==(0:Nat))=false:=by simp
 have al:=JG v x W h.tab;rw[hm]at al;simp only[bK]at am;have ak:=h.cap;simp only[bK]at ak;obtain⟨R,hR⟩:=fD (qQ (some ⟨g,off,none⟩) 1 c2);obtain⟨M,N⟩:=fD (W.setCell ⟨br,0,none⟩ (.slice R r.length (c2-1)));have az: ∀W2,(Instr.slice 22 (.slice (some ⟨g,off,none⟩) (r.length+1) c2) (some (.int .i64 1)) none none).run aj W2=.ok (.slice R r.length (c2-1)) W2:=λW2=>by rw[ER W2 _ _ _ .i64 1 (by omega) (by omega),hR];simp
 have Z: ∀k,k≠br->M.heap[k]? =W.heap[k]? :=λk O=>by rw[N];exact aN W ⟨br,0,none⟩ _ k O
 have Y:M.heap.size=W.heap.size:=by rw[N];simp[dD]
 have aE:=h.bl0;have ap:=h.br0;have aw:g≠br:=(h.away (by simp) _ rfl).2.2;have aq:Ext T W T M:=⟨by rw[N];rfl,by rw[N];rfl,by rw[N];rfl,by rw[Y];exact aW _,λk j V=>Z k (λe=>V ((h.foot k).2 (.inr (.inl e)))),λk O=> .inl O⟩;have j:ItS B bl br A1 c1 R (c2-1) (r,m) T M:={foot:=h.foot,lb:=(Z bl h.ne).trans h.lb,rb:=by rw[N];exact h.rb.iV 0 _,own:=h.own.off (R:=some br) ⟨by rw[N];rfl,by rw[N];rfl,by rw[N];rfl,bZ Y.symm,λk _ V=>Z k (λe=>V (by rw[e]))⟩ (λg J e=>ap.2 (by rw[J,e])),bl0:=aE,br0:=ap,ne:=h.ne,size:=by rw[Y];exact h.size,rest:=by rw[hR];exact(JM h.rest ak.1).keep' (by rw[Y];exact aW _) (λh0 a e hb=>Z _ (by obtain⟨a',e1,e2⟩:=DR e;injection e1 with e1;subst e1;rw[<-e2];exact aw)),away:=λh0 a e=>by rw[hR]at e;obtain⟨a',e1,e2⟩:=DR e;rw[<-e2];exact h.away (by simp) _ e1,tab:=fE.keep' h.tab (by rw[Y];exact aW _) (λ_ a e hb=>by injection e with e;subst e;exact Z 0 (by omega)),len:=by have:=h.len;simp only[bK]at this |-;omega,cap:=⟨by simp only;omega,by omega⟩};have av:r.length+(m.length+1)<=65000:=by have:=h.len;simp only[bK]at this;omega
 have ai: ∀W2,M.grownBy W2 (A1.map (·.block))->fK W2 bl 246 #[.slice A1 m.length c1]:=λW2 J=>(J.block bl j.lb.lt (λe=>by have:=(j.own.gJ bl e.symm).1;omega)).trans j.lb;have a1: ∀W2,M.grownBy W2 (A1.map (·.block))->W2.cell? ⟨bl,0,none⟩=some (.slice A1 m.length c1):=λW2 J=>(ai W2 J).cell 0;have IE: ∀W2,M.grownBy W2 (A1.map (·.block))->Tab W2:=λW2 J=>fE.keep' j.tab J.size (λ_ a e hb=>by injection e with e;subst e;exact J.block 0 hb (λe=>by have:=(j.own.gJ 0 e.symm).1;omega));have ad:=λ(w2:ω) (J:M.grownBy w2 (A1.map (·.block))) (A3:Option δ) (c3:Nat) (ho:aq1 iU 245 w2 B A3 c3 (m++ [(x,fQ v)])) (hA:A3.map (·.block)=A1.map (·.block)\/ ∃g,A3.map (·.block)=some g/\M.heap.size<=g)=>j.laid J ho hA av;have af:=j.own;have aM:=j.size;have a6:=h.rb.frozen 0;obtain⟨n1,ae⟩:=fD m.length;obtain⟨zs,ac⟩:=fD m;obtain⟨wd,ag⟩:=fD (fQ v);have a9:n1+1<=65000:=by omega
 have a7:Hid (zs.length=n1):=ah (by rw[ac,ae]);rw[<-ae]at ai a1;simp only at af ad;rw[<-ae,<-ac,<-ag]at ad;rw[<-ac]at af;have ar:=λW2 (J:M.grownBy W2 (A1.map (·.block)))=>pF v W2 (IE W2 J);rw[<-ag]at ar;have HE:=ah ad;have aD:=ah aq;obtain⟨rl,ax⟩:=fD r.length;rw[<-ax]at f1 am az N;rw[<-ac,<-ag];clear h h7 hm hc ad aq Z Y j av IE ag ac ae ax ak hR aw;go_enter func240,ntmps240;go_wp2_with((with_reducible refine al.mono ?_);rintro e w3⟨rfl,an⟩;obtain rfl:=an.symm);rw[<-N];clear N am a6 a0 al az;apply uM (λw w'=>w.grownBy w' (A1.map (·.block))) (λw=>arj (aq3 gY 1) _) (λ_ _ _=>lN) (CW (A1.map (·.block)) 6) (λ_ _ _ h=>h.2) (λi W2=>i=6->aq1 iU 245 W2 B A1 c1 zs) (λ_ _=>af.below (aq3 gY 1)) (λi ba M W2 a4 hp ht hi=>(hp hi).below (ht.1 (λh=>a4 (hi.trans h.symm))));case lX=>intro u;simp only[bV,aq9,aP,ay,aA,aB,aT,aJ];with_reducible rfl
 case hm=>kernel_rfl
 case hB=>kernel_rfl
 case hA=>kernel_rfl
 case hap=>kernel_rfl
 repeat(first
    |(apply kE.is
      ·
        (intro u w' O aa H
         clear aa
         simp[fH,aC,Is]at H
         refine fC ?_ ?_
         ·
           first
           |rfl
           |(simp[aF,ψ,H];done)
         intro K U
         go_wp2_with (((with_reducible refine(ar _ O).mono ?_);rintro e w3⟨rfl,an⟩;obtain rfl:=an.symm))
         try simp only[H]at U
         refine U _ _ ?_ rfl
         exact vT _ _ _ _))
    |(refine kE.word (Gm 245 (A1.map (·.block)) #[.int .i64 x, .int .i64 wd]) ?_ ?_
      ·
        (intro u w' O aa H
         clear aa
         simp[fH,aC,Is]at H
         refine fC ?_ ?_
         ·
           first
           |rfl
           |(simp[aF,ψ,H];done)
         intro K U
         go_wp2_with fail
         try simp only[H]at U
         exact U _ _ (uw jm) ⟨w',rfl,fK.new _ _ _,λe=>by have:=(af.gJ _ e).2;have:=O.size;omega⟩))
    |(refine kE.word (JL iU 245 B M (A1.map (·.block)) (n1 + 1) (zs ++ [(x, wd)])) ?_ ?_
      ·
        (intro u w' O aa H
         simp[fH,aC,Is]at H
         obtain⟨q1,⟨bv,q2,hB,hn⟩,_⟩:=H
         refine fC ?_ ?_
         ·
           first
           |rfl
           |(simp[aF,ψ];done)
         intro K U
         exact oH Jb (.tmp 32) (.tmp 37) rfl B A1 c1 zs n1 (by rw[<-q1];rfl) a7.out (aa rfl) (some ⟨bv,0,none⟩) 1 [(x,wd)] 1 (by rw[<-q2];rfl) rfl (Am hB) (by omega) (by decide) (aG aM O.size) λA3 c3 W3 j V h3=>U _ _ ⟨λh=>absurd rfl h,V⟩ ⟨A3,c3,rfl,j,h3.imp id λe=>⟨_,e,O.size⟩⟩)))
 refine kE.last ?_ ?_
 .refine Ai ?_;simp only[gQ];repeat(refine⟨?_,?_⟩;.first|exact λ_ _ _ _ _ h _=>h|exact λ_ _ _ _ _ h ht=>Gm.grow h ht.2|exact λ_ hi _ _ _ h ht=>JL.grow h (ht.1 hi))
  exact trivial
 intro u w2 au _ H;simp only[gQ]at H;obtain⟨A3,c3,hu,a5,aL⟩:=H 6 _ rfl;clear H;refine⟨rfl,?_⟩;intro K U;have aR:=ai _ au;have a8:=aR.frozen 0;simp only[hu];clear hu;go_wp2_with fail;obtain⟨T',j,V⟩:=HE.out w2 au A3 c3 a5 aL;go_ret;exact⟨T',aD.out.trans j,rfl,V⟩
set_option maxRecDepth 20000 in
theorem acL(B bl br:Nat):Clo 240 #[.pointer bl,.pointer br] lC (Au B bl br) (λT W=> ∃s,Au B bl br s T W) PS where
  keep:=JO
  below:=λs T W W' h M=>h.below M
  inn:=λs T W h=>h.inn
  bound:=Td
  enter:=λ_ _=>rfl
  call:=by
    intro v s T W h M
    by_cases H:v=7
    ·
      subst H
      refine(WL h (M rfl)).mono ?_
      rintro e W'⟨T',j,rfl,J⟩
      refine⟨T',j,?_⟩
      unfold lC
      rw[Υ rfl]
      exact⟨rfl,J⟩
    ·
      obtain⟨l,m⟩:=s
      cases l with
      |nil=>
        refine(WM h H rfl).mono ?_
        rintro e W'⟨rfl,j⟩
        refine⟨T,Ext.of_below j,?_⟩
        unfold lC
        rw[Ξ H]
        exact⟨rfl,_,h.below j⟩
      |cons x r=>
        cases hm:uX v x with
        |false=>
          refine(WO h H hm).mono ?_
          rintro e W'⟨rfl,j⟩
          refine⟨T,Ext.of_below j,?_⟩
          unfold lC
          rw[Ξ H]
          simp only[hm,bU,if_false]
          first |exact⟨rfl,_,h.below j⟩
        |true=>
          refine(WQ h H hm).mono ?_
          rintro e W'⟨T',j,rfl,J⟩
          refine⟨T',j,?_⟩
          unfold lC
          rw[Ξ H]
          simp only[hm,if_true]
          first |exact⟨trivial,J⟩
end
section
theorem Row.keep'{w w':ω}{A:Option δ}{xs:List Θ}(h:Row w A xs)(N:w.heap.size<=w'.heap.size)(M:xs≠ []-> ∀a,A=some a->a.block<w.heap.size->w'.heap[a.block]? =w.heap[a.block]?):Row w' A xs:=by intro j;obtain⟨b,off,e,H,hc⟩:=h j;have J:w'.heap[b]? =w.heap[b]? :=M (λe=>by rw[e]at j;exact absurd j (by simp)) _ e H;exact⟨b,off,e,aU H N,λU u O=>(World.cell?_of_block (w:=w) J).trans (hc U u O)⟩
theorem aq2.keep'{w w':ω}{A:Option δ}{c:Nat}{bs:List UInt8}(h:aq2 w A c bs)(J:w.heap.size<=w'.heap.size)(H:bs≠ []-> ∀a,A=some a->a.block<w.heap.size->w'.heap[a.block]? =w.heap[a.block]?):aq2 w' A c bs:=⟨h.row.keep' J (λj=>H (λe=>j (by rw[e];rfl))),h.cap,h.max⟩
theorem Tab.keep'{w w':ω}(h:Tab w)(J:w.heap.size<=w'.heap.size)(H:0<w.heap.size->w'.heap[0]? =w.heap[0]?):Tab w':=fE.keep' h J (λ_ a e j=>by injection e with e;subst e;exact H j)
def BP{w:ω}{g:Nat}{a:Int}(h:fK w g 3 #[.int .i64 a]):fE aq7 w (some ⟨g,0,none⟩) [a]:=qw h rfl
structure Me (B br bz bp p:Nat) (bs:List UInt8) (Ab:Option δ) (cb:Nat) (id:Int) (A:Option δ) (c:Nat) (s:Up) (T:Nat->Prop) (W:ω):Prop where
  foot: ∀k,T k<->(k=p\/k=bz\/k=bp\/A.map (·.block)=some k)
  rp:fK W br 257 #[.pointer (some ⟨p,0,none⟩)]
  rd:rY W p bs s.at_ Ab cb
  zb:fK W bz 3 #[.int .i64 s.size]
  pb:fK W bp 198 #[.int .i64 id,.slice A s.v.length c]
  own:aq1 aq7 3 W B A c s.v
  lt:br<B/\bz<B/\bp<B/\p<B
  ne:br≠p/\br≠bz/\br≠bp/\p≠bz/\p≠bp/\bz≠bp
  pos:0<br/\0<bz/\0<bp/\0<p
  ab:bs≠ []-> ∀a,Ab=some a->a.block<B/\a.block≠bz/\a.block≠bp
  size:B<=W.heap.size
  tab:Tab W
  len:bs.length<=8000
  inn:s.at_<=8*bs.length
  vl:s.v.length<=s.at_
def Tf (B br bz bp p:Nat) (bs:List UInt8) (id:Int) (s:Up) (T:Nat->Prop) (W:ω):Prop:= ∃Ab cb A c,Me B br bz bp p bs Ab cb id A c s T W
section
variable {B br bz bp p:Nat} {bs:List UInt8} {Ab:Option δ} {cb:Nat} {id:Int} {A:Option δ} {c:Nat} {s:Up} {T:Nat->Prop} {W:ω}
def Me.below{W':ω}(h:Me B br bz bp p bs Ab cb id A c s T W)(j:W W'):Me B br bz bp p bs Ab cb id A c s T W':={h with rp:=h.rp.below j h.rp.lt,rd:=h.rd.below j,zb:=h.zb.below j h.zb.lt,pb:=h.pb.below j h.pb.lt,own:=h.own.below j,size:=aG h.size j.size,tab:=h.tab.below j}
def Me.aon(h:Me B br bz bp p bs Ab cb id A c s T W)(k:Nat)(j:T k):k<W.heap.size:=by
 rcases(h.foot k).1 j with rfl |rfl |rfl |e;.exact h.rd.blk.lt
 .exact h.zb.lt
 .exact h.pb.lt
 .exact(h.own.gJ k e).2
theorem Me.got{W2:ω}{a:Nat}(h:Me B br bz bp p bs Ab cb id A c s T W)(j:Stp [(p,some 1)] W W2)(Y:rY W2 p bs a Ab cb)(O:a<=8*bs.length)(V:s.at_<=a):Me B br bz bp p bs Ab cb id A c {s with at_:=a} T W2/\Ext T W T W2:=by have hn:=h.ne;have H: ∀k,k<W.heap.size->k≠p->W2.heap[k]? =W.heap[k]? :=λk J M=>j.block k J (λo hm=>by simp at hm;exact M hm.1);refine⟨{foot:=h.foot,rp:=(H br h.rp.lt hn.1).trans h.rp,rd:=Y,zb:=(H bz h.zb.lt (λe=>hn.2.2.2.1 e.symm)).trans h.zb,pb:=(H bp h.pb.lt (λe=>hn.2.2.2.2.1 e.symm)).trans h.pb,own:=h.own.off (R:=some p) ⟨j.os,j.tape,j.output,j.size,λk J M=>H k J (λe=>M (by rw[e]))⟩ (λg U e=>by have:=(h.own.gJ g U).1;have:=h.lt;injection e with e;omega),lt:=h.lt,ne:=h.ne,pos:=h.pos,ab:=h.ab,size:=aG h.size j.size,tab:=h.tab.keep' j.size (λN=>H 0 N (by have:=h.pos;omega)),len:=h.len,inn:=O,vl:=aG h.vl V},⟨j.os,j.tape,j.output,j.size,λk J M=>H k J (λe=>M ((h.foot k).2 (.inl e))),λk j=> .inl j⟩⟩
theorem Me.sized(h:Me B br bz bp p bs Ab cb id A c s T W)(n:Int):Me B br bz bp p bs Ab cb id A c {s with size:=n} T (W.setCell ⟨bz,0,none⟩ (.int .i64 n))/\Ext T W T (W.setCell ⟨bz,0,none⟩ (.int .i64 n)):=by
 have hn:=h.ne;have j: ∀k,k≠bz->(W.setCell ⟨bz,0,none⟩ (.int .i64 n)).heap[k]? =W.heap[k]? :=λk J=>aN W ⟨bz,0,none⟩ _ k J;have H:(W.setCell ⟨bz,0,none⟩ (.int .i64 n)).heap.size=W.heap.size:=by simp[dD]
 refine⟨{foot:=h.foot,rp:=(j br hn.2.1).trans h.rp,rd:=⟨(j p hn.2.2.2.1).trans h.rd.blk,h.rd.bytes.keep' (bZ H.symm) (λM a e _=>j _ (h.ab M a e).2.1),h.rd.far⟩,zb:=h.zb.iV 0 _,pb:=(j bp (λe=>hn.2.2.2.2.2 e.symm)).trans h.pb,own:=h.own.far h.lt.2.1 j,lt:=h.lt,ne:=h.ne,pos:=h.pos,ab:=h.ab,size:=by rw[H];exact h.size,tab:=h.tab.keep' (bZ H.symm) (λ_=>j 0 (by have:=h.pos;omega)),len:=h.len,inn:=h.inn,vl:=h.vl},⟨rfl,rfl,rfl,bZ H.symm,λk O N=>j k (λe=>N ((h.foot k).2 (.inr (.inl e)))),λk J=> .inl J⟩⟩
theorem Me.put{W2:ω}(h:Me B br bz bp p bs Ab cb id A c s T W)(j:W.grownBy W2 (A.map (·.block))){A3:Option δ}{c3:Nat}{x:Int}(ho:aq1 aq7 3 W2 B A3 c3 (s.v++ [x]))(hA:A3.map (·.block)=A.map (·.block)\/ ∃g,A3.map (·.block)=some g/\W.heap.size<=g)(ad:s.v.length+1<=s.at_): ∃T',Ext T W T' (W2.setCell ⟨bp,1,none⟩ (.slice A3 (s.v.length+1) c3))/\Me B br bz bp p bs Ab cb id A3 c3 {s with v:=s.v++ [x]} T' (W2.setCell ⟨bp,1,none⟩ (.slice A3 (s.v.length+1) c3)):=by
 have hn:=h.ne;have M:=h.lt;have Z: ∀k,k≠bp->(W2.setCell ⟨bp,1,none⟩ (.slice A3 (s.v.length+1) c3)).heap[k]? =W2.heap[k]? :=λk U=>aN W2 ⟨bp,1,none⟩ _ k U;have V:(W2.setCell ⟨bp,1,none⟩ (.slice A3 (s.v.length+1) c3)).heap.size=W2.heap.size:=by simp[dD]
 have J: ∀k,k<B->A.map (·.block)≠some k:=λk U e=>by have:=(h.own.gJ k e).1;omega
 have H: ∀k,k<W.heap.size->k≠bp->A.map (·.block)≠some k->(W2.setCell ⟨bp,1,none⟩ (.slice A3 (s.v.length+1) c3)).heap[k]? =W.heap[k]? :=λk Y O h3=>(Z k O).trans (j.block k Y (λe=>h3 e.symm));have ac:fK W2 bp 198 #[.int .i64 id,.slice A s.v.length c]:=(j.block bp h.pb.lt (λe=>J bp M.2.2.1 e.symm)).trans h.pb;refine⟨λk=>k=p\/k=bz\/k=bp\/A3.map (·.block)=some k,⟨j.os,j.tape,j.output,by rw[V];exact j.size,λk Y O=>H k Y (λe=>O ((h.foot k).2 (.inr (.inr (.inl e))))) (λe=>O ((h.foot k).2 (.inr (.inr (.inr e))))),λk U=>?_⟩,{foot:=λk=>Iff.rfl,rp:=(H br h.rp.lt hn.2.2.1 (J br M.1)).trans h.rp,rd:=⟨(H p h.rd.blk.lt hn.2.2.2.2.1 (J p M.2.2.2)).trans h.rd.blk,h.rd.bytes.keep' (by rw[V];exact j.size) (λN a e hb=>H _ hb (h.ab N a e).2.2 (J _ (h.ab N a e).1)),h.rd.far⟩,zb:=(H bz h.zb.lt hn.2.2.2.2.2 (J bz M.2.1)).trans h.zb,pb:=by simp only[bC,bK,dU];exact ac.iV 1 _,own:=ho.far M.2.2.1 Z,lt:=M,ne:=hn,pos:=h.pos,ab:=h.ab,size:=by rw[V];exact aG h.size j.size,tab:=h.tab.keep' (by rw[V];exact j.size) (λN=>H 0 N (by have:=h.pos;omega) (J 0 (by omega))),len:=h.len,inn:=h.inn,vl:=by simp only[bC,bK,dU];exact ad}⟩;rcases U with e |e |e |e;.exact .inl ((h.foot k).2 (.inl e))
 .exact .inl ((h.foot k).2 (.inr (.inl e)))
 .exact .inl ((h.foot k).2 (.inr (.inr (.inl e))))
 .rcases hA with hA |⟨g,hA,aa⟩;.exact .inl ((h.foot k).2 (.inr (.inr (.inr (hA▸e)))))
  .rw[hA]at e;injection e with e;exact .inr (e▸aa)
end
theorem afX(bs:List UInt8)(a:Nat)(v:Int):((EM bs a (fQ v):Nat):Int)<=4294967295:=by
 have J:=lq v;unfold EM;split;.have j:=Px bs a (fQ v).toNat;have H:=Nat.pow_le_pow_right (n:=2) (by decide) (show(fQ v).toNat<=32 by omega);omega
 .omega
def NW(bs:List UInt8)(v:Int)(s:Up)(n:Int)(s':Up)(h:zK bs v s=.ok (n,s')):n<=4294967295:=by
 unfold zK at h;split at h;.cases h
 .split at h;.cases h
  .injection h with h;injection h with h _;rw[<-h];exact afX _ _ _
def PU{n a:Nat}{v:Int}(h:uY n a (fQ v)=0):xH n a (fQ v)=a+(fQ v).toNat/\1<=(fQ v).toNat:=by
 unfold xH;rw[Υ h];refine⟨rfl,?_⟩;unfold uY at h;split at h;.cases h
 .omega
def acM{n a:Nat}{v:Int}(h:uY n a (fQ v)≠0):xH n a (fQ v)=a:=by unfold xH;rw[Ξ h]
def afY(n a:Nat)(v:Int):a<=xH n a (fQ v):=by
 by_cases h:uY n a (fQ v)=0;.rw[(PU h).1];exact Nat.le_add_right _ _
 .rw[acM h];exact aW _
theorem acN{B br bz bp p:Nat}{bs:List UInt8}{Ab:Option δ}{cb:Nat}{id:Int}{A:Option δ}{c:Nat}{s:Up}{T:Nat->Prop}{W:ω}(h:Me B br bz bp p bs Ab cb id A c s T W)(v:Int):
    Γ aj 215 #[.int .i64 v,.pointer (some ⟨br,0,none⟩),.pointer (some ⟨bz,0,none⟩),.pointer (some ⟨bp,0,none⟩)] W λe W'=> ∃T',Ext T W T' W'/\match zK bs v s with
    | .ok (n,s')=>e=.returned (.int .i64 n)/\Tf B br bz bp p bs id s' T' W'
    | .error er=>e=Jc er/\ ∃s',Tf B br bz bp p bs id s' T' W':=by
  obtain⟨R,hR⟩:=fD (zK bs v s)
  rw[<-hR]
  have HR:=ah hR
  clear hR
  obtain⟨Q,hQ⟩: ∃Q:ε->ω->Prop,Q=λe W'=> ∃T',Ext T W T' W'/\match R with
    | .ok (n,s')=>e=.returned (.int .i64 n)/\Tf B br bz bp p bs id s' T' W'
    | .error er=>e=Jc er/\ ∃s',Tf B br bz bp p bs id s' T' W':=⟨_,rfl⟩
  rw[<-hQ]
  have HQ:=ah hQ
  clear hQ
  have ai:=λW2 (hW:Tab W2)=>pF v W2 hW
  have aa:=λW2 (hW:rY W2 p bs s.at_ Ab cb)=>acj hW (by have:=h.len;omega) h.inn (fQ v)
  have av:=h.rp
  have hn:=h.ne
  have bf:=h.pos
  have ax:=h.rd
  have az:=h.tab
  obtain⟨at_,am⟩:=fD s.at_
  rw[<-am]at aa ax
  obtain⟨wd,aq⟩:=fD (fQ v)
  rw[<-aq]at ai aa
  unfold arR at aa
  have Z:=ah am
  have af:=ah aq
  have V:=ah h
  clear h am aq
  go_enter func215,ntmps215
  go_wp2_with fail
  apply gu (Stp ([(p,some 1)])) (λW=>Stp.drew _ _) (λ_ _ _ h1 h2=>h1.trans h2) (zG 3 ([(p,some 1)])) (λ_ _ _ h=>h.I7) yO (Wv 3 (λW=>rY W p bs at_ Ab cb)) (λ_ _=>(λ(W W':ω) (h:rY W p bs at_ Ab cb) (hb:W W')=>h.below hb) _ _ (ax) (aq3 gY 1)) (λi bk W W' a4 hp ht e=>(λ(W W':ω) (h:rY W p bs at_ Ab cb) (hb:W W')=>h.below hb) _ _ (hp e) (ht.1 (λej=>a4 (e.trans ej.symm))))
  case lX=>
    intro u
    simp only[bV,List.dropLast,aq9,aP,ay,aA,aB,aT,aJ]
    with_reducible rfl
  case hm=>kernel_rfl
  case hB=>kernel_rfl
  case hA=>kernel_rfl
  case hap=>kernel_rfl
  repeat (first
    | (refine fM.one (acz p bs at_ Ab cb wd) ?_ ?_
       ·
         (intro u w' Y U j
          replace U:=U rfl
          simp[fO,aC,gI,Is]at j
          refine fC ?_ ?_
          ·
            first
            |rfl
            |(simp[aF,ψ,j];done)
          intro K M
          go_wp2_with (go_at_call 212;apply(aa _ U).mono;rintro e w3⟨rfl,a7,a6⟩);(try simp only[j]at M);exact M _ _ (yN a7) ⟨rfl,a6⟩))
    | (apply fM.is
       ·
         (intro u w' Y U j
          clear U
          simp[fO,aC,gI,Is]at j
          refine fC ?_ ?_
          ·
            first
            |rfl
            |(simp[aF,ψ,j];done)
          intro K M
          have aR:=(Y.blk av (by simp[hn.1])).cell;have ap:=az.I7 Y (by simp;omega)
          go_wp2_with (go_at_call 156;apply(ai _ ap).mono;rintro e w3⟨rfl,rfl⟩)
          try simp only[j]at M
          refine M _ _ ?_ rfl
          first |exact oM (by decide) |exact Ac (by decide) hb3))
    | (apply fM.is
       ·
         (intro u w' Y U j
          clear U
          simp[fO,aC,gI,Is]at j
          first |(replace j:=j.1.1) |(replace j:=j.1)
          refine fC ?_ ?_
          ·
            first
            |rfl
            |(simp[aF,ψ,j];done)
          intro K M
          have aR:=(Y.blk av (by simp[hn.1])).cell;have ap:=az.I7 Y (by simp;omega)
          go_wp2_with (go_at_call 156;apply(ai _ ap).mono;rintro e w3⟨rfl,rfl⟩)
          try simp only[j]at M
          refine M _ _ ?_ rfl
          first |exact oM (by decide) |exact Ac (by decide) hb3)))
  refine fM.last (EO ?_) ?_
  ·
    simp only[gQ]
    repeat (refine⟨?_,?_⟩;.first |exact yP _ |exact uZ (λ_ _ _ h hb=>h.grow hb))
    exact trivial
  intro u w2 aw _ j
  simp only[gQ]at j
  refine⟨rfl,?_⟩
  intro K M
  have J:=j 7 _ rfl
  have h6:=j 6 _ rfl
  have h3:=(j 3 _ rfl).2
  simp only[gI,Is]at J h6
  clear j
  simp only[J,h6]
  have hg:=V.out.got aw h3 (Yx (by rw[Z.out];exact V.out.inn)) (by rw[Z.out,af.out];exact afY _ _ _)
  obtain⟨er,an⟩:=fD (uY bs.length at_ wd)
  obtain⟨x,hx⟩: ∃x:Int,x=EM bs at_ wd:=⟨_,rfl⟩
  have O:=JG v (EM bs at_ wd) w2 hg.1.tab
  rw[<-hx]at O
  rw[<-an,<-hx]
  have ae:Hid (er=uY bs.length s.at_ (fQ v)):=ah (by rw[an,Z.out,af.out])
  have HX:Hid (x=EM bs s.at_ (fQ v)):=ah (by rw[hx,Z.out,af.out])
  have H:Me B br bz bp p bs Ab cb id A c {s with at_:=xH bs.length s.at_ (fQ v)} T w2:=by rw[<-Z.out,<-af.out];exact hg.1
  have HG:=ah H
  have ak:=ah hg.2
  clear an hx h3 h6 J aw aa ai hg
  by_cases he:er=0
  ·
    subst he
    have N:uX v x=true->R=.ok (x,if v=7 then {s with at_:=xH bs.length s.at_ (fQ v),size:=x} else {s with at_:=xH bs.length s.at_ (fQ v),v:=s.v++ [x]}):=λhm=>by
      rw[HR.out];unfold zK;rw[<-ae.out,<-HX.out,Ξ (λh=>h rfl),Ξ (by rw[hm];simp)]
    cases hm:uX v x with
    |false=>
      have hu:R=.error 20:=by rw[HR.out];unfold zK;rw[<-ae.out,<-HX.out,Ξ (λh=>h rfl),Υ hm]
      have HU:=ah hu
      rw[hm]at O
      clear hm hu N H
      go_wp2_with (go_at_call 160;apply O.mono;rintro e w3⟨rfl,ad⟩;obtain rfl:=ad.symm)
      refine⟨rfl,?_⟩
      rw[HQ.out,HU.out]
      exact⟨T,ak.out,rfl,_,_,_,_,_,HG.out⟩
    |true=>
      replace N:=N hm
      rw[hm]at O
      clear hm
      by_cases J:v=7
      ·
        have f7:(v==7)=true:=by simpa using J
        rw[Υ J]at N
        have HL:=ah N
        have bi:=H.zb.cell
        have bj:=H.zb.frozen 0
        clear N J H
        go_wp2_with (go_at_call 160;apply O.mono;rintro e w3⟨rfl,ad⟩;obtain rfl:=ad.symm)
        have h2:=HG.out.sized x
        rw[HQ.out,HL.out]
        exact⟨T,ak.out.trans h2.2,rfl,_,_,_,_,h2.1⟩
      ·
        have f7:(v==7)=false:=by simpa using J
        rw[Ξ J]at N
        have HL:=ah N
        have ac:=H.pb
        have ag:=H.own
        have bh:=H.size
        have a5:A.map (·.block)≠some bp:=λe=>by have:=(ag.gJ bp e).1;have:=H.lt;omega
        have a9:=H.vl
        have a8:s.v.length+1<=65536:=by have:=V.out.inn;have:=V.out.len;have:=V.out.vl;omega
        have aD:s.v.length+1<=xH bs.length s.at_ (fQ v):=by
          have h1:=PU (n:=bs.length) ae.out.symm
          have:=V.out.vl
          omega
        have aE:=ah aD
        obtain⟨zs,al⟩:=fD s.v
        obtain⟨z,hz⟩:=fD s.v.length
        simp only at ac ag
        rw[<-hz]at ac a8
        rw[<-al]at ag
        have ba:Hid (zs.length=z):=ah (by rw[hz,al])
        have aL:=ah al
        have HZ:=ah hz
        have bd:=ac.cell
        clear N J hz al a9 aD H
        go_wp2_with (first
          |(go_at_call 160;apply O.mono;rintro e w3⟨rfl,ad⟩;obtain rfl:=ad.symm)
          |(at_builtin;refine gW abJ rfl _ _ rfl B A c zs z rfl ba.out (ag.below jm) (some ⟨w2,0,none⟩) 1 [x] 1 rfl rfl (BP (fK.new _ _ _)) (by omega) (by decide) (by simp;omega) ?_;intro A3 c3 w5 uq a1 aM;have ar:=lN (arj ((aH w2 w2).alloc ig (.cells #[.int .i64 x] 3)) (A.map (·.block))) a1;have au:fK w5 bp 198 #[.int .i64 id,.slice A z c]:=(ar.block bp ac.lt (λe=>a5 e.symm)).trans ac;have bb:=au.cell;have bc:=au.frozen 1))
        rw[aL.out]at uq
        obtain⟨T',e1,e2⟩:=HG.out.put ar uq (aM.imp (λh=>h) λe=>⟨_,e,by simp⟩) aE.out
        rw[HQ.out,HL.out,HZ.out]
        exact⟨T',ak.out.trans e1,rfl,_,_,_,_,e2⟩
  ·
    have f0:(er != 0)=true:=by simpa using he
    have hu:R=.error er:=by rw[HR.out];unfold zK;rw[<-ae.out,Υ he]
    have HU:=ah hu
    clear he O hu H
    go_wp2_with fail
    refine⟨rfl,?_⟩
    rw[HQ.out,HU.out]
    exact⟨T,ak.out,rfl,_,_,_,_,_,HG.out⟩
set_option maxRecDepth 20000 in
theorem YB(B br bz bp p:Nat)(bs:List UInt8)(id:Int):Clo 215 #[.pointer (some ⟨br,0,none⟩),.pointer (some ⟨bz,0,none⟩),.pointer (some ⟨bp,0,none⟩)] (zK bs) (Tf B br bz bp p bs id) (λT W=> ∃s,Tf B br bz bp p bs id s T W) (λ_=>10) where
  keep:=λ_ _ _ _ _=>Nat.le_add_right _ _
  below:=λs T W W' ⟨Ab,cb,A,c,h⟩ j=>⟨Ab,cb,A,c,h.below j⟩
  inn:=λs T W ⟨Ab,cb,A,c,h⟩=>h.aon
  bound:=NW bs
  enter:=λ_ _=>rfl
  call:=λv s T W ⟨_,_,_,_,h⟩ _=>(acN h v).mono λe W' h=>by cases H:zK bs v s <;> rw[H]at h <;> exact h
end
theorem Az(J:Nat)(w:ω):CallsD aj 214 #[.pointer J] .returning w λe M w'=>e=.returned (.tuple #[])/\M=.returning/\w'=w:=by refine callsD_of_wpS func214 rfl λj cs H=>?_;apply wpS_seq;apply wpS_region;simp[wpOpsS,go_sem,recoverD,H,ntmps214,Exit.thenS];apply wpS_seq;apply wpS_region;simp[wpOpsS,go_sem,Exit.thenS];refine wpS_cond (t:=false) (by simp[Act.eval,Array.replicate]) ?_;simp only[bU,if_false];refine wpS_of_wp (wp_skip ?_);cases j;simp_all[bodyPostS,results,results214]
def acO(er:Int)(j:τ)(w:ω):(Instr.typeAssert (.iface 314 (.agg #[er])) j 314 true).run aj w=.ok (.tuple #[.agg #[er],true]) w:=by simp[Instr.typeAssert,ν underlying314]
theorem vg(j:Nat)(er x:Int)(M:List PanicEntry)(w:ω)(H:fK w j 51 #[x]):
    CallsD aj 214 #[.pointer j] (.panicking ({v:=.iface 314 (.agg #[er]),recovered:=false}::M)) w λe V w'=>
      e=.returned (.tuple #[])/\V=.panicking ({v:=.iface 314 (.agg #[er]),recovered:=true}::M)/\w'=(w.alloc (.cells #[er] 314)).setCell ⟨j,0,none⟩ er:=by
  have J:=H.below (gY.alloc ig (.cells #[er] 314)) H.lt
  have hc:=J.cell
  have U:=J.frozen 0
  have hn:=fK.new w 314 #[er]
  have N:=hn.cell
  refine callsD_of_wpS func214 rfl λY cs O=>?_
  apply wpS_seq
  apply wpS_region
  simp[wpOpsS,go_sem,recoverD,O,ntmps214,Exit.thenS]
  apply wpS_seq
  apply wpS_region
  simp[wpOpsS,go_sem,Exit.thenS]
  refine wpS_cond (t:=true) (by simp[Act.eval,Array.replicate]) ?_
  simp only[if_true]
  apply wpS_seq
  apply wpS_region
  simp[wpOpsS,go_sem,Exit.thenS,acO]
  apply wpS_seq
  apply wpS_seq
  apply wpS_region
  simp[wpOpsS,go_sem,Exit.thenS]
  refine wpS_cond (t:=false) (by simp[Act.eval,Array.replicate]) ?_
  simp only[bU,if_false]
  refine wpS_of_wp (wp_skip ?_)
  simp only[Exit.thenS]
  apply wpS_region
  simp[wpOpsS,go_sem,hc,U,N,bodyPostS,results,results214]
def Pt.DT:Pt->Nat
 | .nil=>0
 | .pl _ r=>r.DT+1
 | .grp _ _ r=>r.DT
def Pt.wfB:Pt->Bool
 | .nil=>true
 | .pl _ r=>r.wfB
 | .grp k l r=>(decide (k=1) || decide (k=2) || decide (k=3))&&decide (l.len<=1000)&&decide (l.need=0)&&l.wfB&&r.wfB
theorem Pt.YC: ∀ {p:Pt},p.wfB=true->p.wf
 | .nil,_=>trivial
 | .pl _ r,h=>Pt.YC (p:=r) h
 | .grp k l r,h=>by simp only[Pt.wfB,bM,Bool.or_eq_true,decide_eq_true_eq]at h;exact⟨by omega,h.1.1.1.2,h.1.1.2,Pt.YC h.1.2,Pt.YC h.2⟩
def Pt.okB (id:Int) (q:Pt):Bool:=q.wfB&&decide (q.need<=10)&&decide (q.len<=1000)&&decide ((if Yv id=true then 1 else 2)<=q.DT)
def ZG: ∀id:Fin 81,(match lu (id.val:Int) with |none=>true |some q=>q.okB (id.val:Int))=true:=by decide
theorem yV{q:Pt}(h:lu id=some q):0<=id/\id<81:=by
 refine Classical.byContradiction λhn=>?_;have e:lu id=none:=by unfold lu;iterate 12 rw[Ξ (by omega)]
 grind
def ES{q:Pt}(h:lu id=some q):q.wf/\q.need<=10/\q.len<=1000/\(if Yv id=true then 1 else 2)<=q.DT:=by obtain⟨j,H⟩:=yV h;have:=ZG ⟨id.toNat,by omega⟩;simp only[show((id.toNat:Nat):Int)=id by omega,h]at this;simp only[Pt.okB,bM,decide_eq_true_eq]at this;exact⟨Pt.YC this.1.1.1,this.1.1.2,this.1.2,this.2⟩
theorem yX{σ:Type}{m:σ->Nat}{val:Int->σ->Except Int (Int × σ)}(H: ∀v s n s',val v s=.ok (n,s')->m s+1<=m s'): ∀(p:Pt) (last:Int) (s s':σ),mV val p last s=.ok s'->m s+p.DT<=m s'
 | .nil,_,s,s',e=>by rw[mV]at e;cases e;exact aW _
 | .pl v r,last,s,s',e=>by rw[mV]at e;cases j:val v s with|error x=>grind|ok O=>obtain⟨n,J⟩:=O;rw[j]at e;have M:=H _ _ _ _ j;have N:=yX H r n J s' e;simp only[Pt.DT];omega
 | .grp k l r,last,s,s',e=>by rw[wL]at e;cases j:jg (mV val l 0) (qC k last) s with|error x=>grind|ok J=>rw[j]at e;have M:=DN (BN:=m) (λa b h=>aG (Nat.le_add_right _ _) (yX H l 0 a b h)) _ _ _ j;have N:=yX H r last J s' e;simp only[Pt.DT];omega
theorem WR(v:Int)(s:List Int × List (Int × Int))(n:Int)(s':List Int × List (Int × Int))(h:lC v s=.ok (n,s')):s.2.length+1<=s'.2.length:=by unfold lC at h;grind
def oN (w:ω) (q:Except Int (List (Int × Int))) (e:ε) (w':ω):Prop:=w w'/\match q with
 | .ok l=> ∃A c,e=.returned (.tuple #[.slice A l.length c,.int .i64 0])/\aq1 iU 245 w' w A c l
 | .error er=> ∃v,e=.returned (.tuple #[v,.int .i64 er])
def afZ (m:Nat) (t:τ) (cs:Array Θ):Θ->ω->Prop:=fun v w=> ∃bv,v=.slice (some ⟨bv,0,none⟩) 1 1/\fK w bv t cs/\m<=bv
def afZ.grow{m:Nat}{t:τ}(h:afZ m t cs v w)(j:w w'):afZ m t cs v w':=by obtain⟨bv,e,hB,hn⟩:=h;exact⟨bv,e,hB.below j hB.lt,hn⟩
theorem Gp(id:Int)(w:ω):Γ aj 216 #[id] w λe w'=>e=.returned (.bool (lu id).isSome)/\w w':=by
 have h:=Gl id w ig;unfold vF at h;cases J:lu id with
 |none=>rw[J]at h;go_enter func216,ntmps216;go_wp2_with((with_reducible refine h.mono ?_);rintro e O⟨A,n,c,rfl,H,rfl,rfl,rfl⟩);go_ret;exact⟨rfl,H⟩
 |some p=>
  rw[J]at h;have j:Γ aj 218 #[id] w λe w'=> ∃a n c,e=.returned (.slice (some a) n c)/\w w':=h.mono λe w' ⟨A,n,c,M,j,N,_⟩=>by cases A with|none=>exact absurd rfl N|some a=>exact⟨a,n,c,M,j⟩
  go_enter func216,ntmps216;go_wp2_with((with_reducible refine j.mono ?_);rintro e O⟨a,n,c,rfl,H⟩);go_ret;exact⟨rfl,H⟩
theorem Ti(p:Pk)(A:Option δ)(n c:Nat)(w:ω)(M:lu p.id=none):Γ aj 207 #[.agg #[p.id,.slice A n c]] w (oN w (kG p)):=by
 have hi:kG p=.error 50:=by unfold kG;rw[M]
 rw[hi];unfold oN;have H:Own w _ [_,_,_]:=Own.start3 w 198 246 51 #[p.id,.slice A n c] #[nS] #[zI];have Y:=H.b0.cell;have J:=λW=>Gp p.id W;rw[M]at J;obtain⟨id,O⟩:=fD p.id;rw[<-O]at J Y H |-;clear O M hi;go_enter_defers func207,ntmps207;go_wp2_with((with_reducible refine(J _).mono ?_);rintro e N⟨rfl,U⟩);have j:=H.grow U;have ad:fK (N.alloc (.cells #[(50:Int)] 314)) _ 246 _:=(j.b1).below (gY.alloc ig (.cells #[(50:Int)] 314)) (j.b1).lt;have aa:fK (N.alloc (.cells #[(50:Int)] 314)) _ 51 _:=(j.b2).below (gY.alloc ig (.cells #[(50:Int)] 314)) (j.b2).lt;have ac:=(ad.far (p:=⟨w.heap.size+1+1,0,none⟩) (by simp) (50:Int)).cell 0;have Z:=(aa.iV 0 (50:Int)).cell 0;have V:=j.b2;refine leaves_cons (f:=214) (args:= #[.pointer (some ⟨w.heap.size+1+1,0,none⟩)]) (by simp) (by simp[go_sem]) ?_;refine(vg (w.heap.size+1+1) 50 0 [] N V).mono ?_;rintro e u' ae⟨rfl,rfl,rfl⟩;simp only[settle,List.dropWhile];simp[Leaves,results,results207,go_sem,ac,Z];exact(j.below.alloc j.below.size _).setCell (p:=⟨w.heap.size+1+1,0,none⟩) (by simp;omega) _
def af0{g B:Nat}(h:fK w g 245 #[x.1,x.2])(hB:B<=g):aq1 iU 245 w B g 1 [x]:=⟨rfl,.inr ⟨g,1,_,rfl,hB,h,by simp,by simp[μ],by simp[iU],by simp[iU,arb.flat]⟩⟩
theorem WS{w7:ω}{B bl br bv g Bq:Nat}{Aq:Option δ}{n cq:Nat}{wd:Int}{vs:List Int}{q:Pt}(j:q.wf/\q.need<=10/\q.len<=1000)(V:fK w7 bl 246 #[.slice bv 1 1])(hr:fK w7 br 22 #[.slice A n c])(H:fK w7 bv 245 #[id,wd])(U:fK w7 g 316 #[.func (.func 240) #[] #[.pointer bl,.pointer br]])(aa:sO Bq w7 Aq q)(J:0<bl)(M:bl<B)(N:B<=bv)(ad:bv<br)(ae:br<g)(xQ:g<Bq)(O:Tab w7)(Y:fE aq7 w7 A vs)(Z:vs≠ []-> ∀a,A=some a->a.block<bl)(hn:vs.length=n)(af:n<=60000)(hc:n<=c/\c<=μ):Γ aj 217 #[.pointer g,.slice Aq q.len cq] w7 (yU (Au B bl br) (λT W=> ∃s,Au B bl br s T W) (λk=>k=bl\/k=br\/k=bv) w7 (mV lC q 0 (vs,[(id,wd)]))):=by have ac:Au B bl br (vs,[(id,wd)]) (λk=>k=bl\/k=br\/k=bv) w7:=⟨bv,1,A,c,{foot:=λk=>by simp[eq_comm],lb:=V,rb:=by rw[show(vs,[(id,wd)]).1.length=n from hn];exact hr,own:=af0 H N,bl0:=⟨J,M⟩,br0:=⟨by omega,by simp;omega⟩,ne:=by omega,size:=by have:=H.lt;omega,rest:=Y,away:=λh a e=>by have:=Z h a e;omega,tab:=O,len:=by simp only[bK,dU];omega,cap:=by simp only[hn];exact hc}⟩;refine SY (acL B bl br) (B:=Bq) (wp:=w7) g (q.size+1) q (Nat.lt_succ_self _) j.1 Aq cq q.len rfl _ _ w7 ac ?_ aa ig (λk h1 h2=>⟨rfl,λe=>by omega⟩) j.2.2 U (λe=>by omega);show q.need<=65000-(vs.length+1);have:=j.2.1;omega
theorem Ext.vU(h:Ext T w T' w')(hB:B<=w.heap.size)(H: ∀k,T k->B<=k):Below B w w':=⟨h.os,h.tape,h.output,h.size,λk j=>h.same k (aU j hB) (λc=>Nat.not_le.2 j (H k c))⟩
def acP (bl br B:Nat) (g:Except Int (List Int × List (Int × Int))) (e:ε) (w8:ω):Prop:=match g with
 | .ok (rest,l)=>e=.returned (.tuple #[])/\ ∃A1 c1 A2 c2,fK w8 bl 246 #[.slice A1 l.length c1]/\fK w8 br 22 #[.slice A2 rest.length c2]/\aq1 iU 245 w8 B A1 c1 l
 | .error er=>e=.panicked [{v:=.iface 314 (.agg #[.int .i64 er]),recovered:=false}]/\ ∃v,fK w8 bl 246 #[v]
def alZ (g:Except Int (List Int × List (Int × Int))):Except Int (List (Int × Int)):=match g with | .error e=> .error e | .ok (rest,l)=>if rest= [] then .ok l else .error 20
theorem Tj(p:Pk)(A:Option δ)(n c:Nat)(w:ω)(q:Pt)(hq:lu p.id=some q)(hT:Tab w)(hp:fE aq7 w A p.v)(hn:p.v.length=n)(ba:n<=60000)(hc:n<=c/\c<=μ):Γ aj 207 #[.agg #[p.id,.slice A n c]] w (oN w (kG p)):=by
 obtain⟨gq,av⟩:=fD (mV lC q 0 (p.v,[(p.id,fQ 5)]));have hi:kG p=alZ gq:=by unfold kG alZ;rw[hq,av];rfl
 have hO:Own w _ [_,_,_]:=Own.start3 w 198 246 51 #[p.id,.slice A n c] #[nS] #[zI];have a8:=hO.b0.cell;have an:=λW=>Gp p.id W;rw[hq]at an;have ap:=ES hq;have ad:=λW=>Gl p.id (B:=W.heap.size) W ig;rw[hq]at ad;unfold vF at ad;have aq:=λ(w7:ω) (bv br g Bq:Nat) (Aq:Option δ) (cq:Nat) (hl:fK w7 (w.heap.size+1) 246 #[.slice bv 1 1]) (hr:fK w7 br 22 #[.slice A n c])=>WS (w7:=w7) (B:=w.heap.size+3) (bl:=w.heap.size+1) (br:=br) (bv:=bv) (g:=g) (Bq:=Bq) (A:=A) (Aq:=Aq) (n:=n) (c:=c) (cq:=cq) (id:=p.id) (wd:=fQ 5) (vs:=p.v) (q:=q) ⟨ap.1,ap.2.1,ap.2.2.1⟩ hl hr;rw[<-av]at aq;have az:=λW (h:Tab W)=>pF 5 W h;obtain⟨id,am⟩:=fD p.id;obtain⟨wd,aD⟩:=fD (fQ 5);rw[<-am]at an a8 hO ad;rw[<-am,<-aD]at aq;rw[<-aD]at az;rw[<-am];have HI:=ah hi;have HW:=ah aq;have HP:=ah hp;clear am aD hq hi av ap aq hp;go_enter_defers func207,ntmps207;go_wp2_with((with_reducible refine(an _).mono ?_);rintro e w4⟨rfl,a7⟩);have ae:=hO.grow a7;apply mZ;case lX=>intro u;simp only[bV,aq9,aP,ay,aA,aB,aT,aJ];rfl
 case hm=>kernel_rfl
 case hB=>kernel_rfl
 case hA=>kernel_rfl
 case hap=>kernel_rfl
 repeat(first
    |(apply lI.is
      ·
        (intro u w' Z Y
         simp[fH,aC,Is]at Y
         refine fF (by first |rfl) ?_
         intro K hK
         have H:=ae.grow Z;have bf:=H.b0.cell;have a6:=hT.below H.below
         go_wp2_with (((with_reducible refine(az _ a6).mono ?_);rintro e w3⟨rfl,bc⟩;obtain rfl:=bc.symm))
         try simp only[Y]at hK
         refine hK _ _ ?_ rfl
         first |exact aH _ _))
    |(refine lI.word (afZ w4 245 #[.int .i64 id, .int .i64 wd]) (λ_ _ _ h hb=> h.grow hb) ?_ ?_
      ·
        (intro u w' Z Y
         simp[fH,aC,Is]at Y
         refine fF (by first |rfl) ?_
         intro K hK
         go_wp2_with fail
         try simp only[Y]at hK
         exact hK _ _ jm ⟨w',rfl,fK.new _ _ _,Z.size⟩)))
 refine lI.last ?_;intro u j aR Y;simp only[gQ]at Y;refine⟨rfl,?_⟩;intro K hK;obtain⟨bv,hu,al,bd⟩:=Y 4 _ rfl;have H:=ae.grow aR;have bi:=H.b1.cell;have bk:=H.b0.cell;have bj:=H.b1.frozen 0;have bn:=H.b2.lt;have bm:=ae.b2.lt;obtain⟨fc,aM⟩:=fD (Value.func (.func 240) #[] #[.pointer (some ⟨w.heap.size+1,0,none⟩),.pointer j]);obtain⟨J,N⟩:=fD (((j.setCell ⟨w.heap.size+1,0,none⟩ (.slice bv 1 1)).alloc (.cells #[.slice A n c] 22)).alloc (.cells #[fc] 316));have aE:w (j.setCell ⟨w.heap.size+1,0,none⟩ (.slice bv 1 1)):=H.below.setCell (p:=⟨w.heap.size+1,0,none⟩) (by simp) _;have ax:(j.setCell ⟨w.heap.size+1,0,none⟩ (.slice bv 1 1)).heap.size=j.heap.size:=by simp[dD]
 have bb:J.heap.size=j.heap.size+2:=by rw[N];simp[dD]
 have ZH:Below j (j.setCell ⟨w.heap.size+1,0,none⟩ (.slice bv 1 1)) J:=by rw[N];exact(gY.alloc (bZ ax.symm) _).alloc (by simp[dD]) _
 have ar:w J:=aE.trans (ZH.mono (by have:=H.below.size;omega));have k1:fK J (w.heap.size+1) 246 #[.slice bv 1 1]:=(H.b1.iV 0 _).below ZH H.b1.lt;have k2:fK J (w.heap.size+1+1) 51 #[zI]:=(H.b2.far (p:=⟨w.heap.size+1,0,none⟩) (by simp) _).below ZH H.b2.lt;have k0:fK J w 198 #[id,.slice A n c]:=(H.b0.far (p:=⟨w.heap.size+1,0,none⟩) (by simp) _).below ZH H.b0.lt;have a5:=k0.cell;rw[N]at a5;have k3:fK J bv 245 #[id,wd]:=(al.far (p:=⟨w.heap.size+1,0,none⟩) (by simp;omega) _).below ZH al.lt;have k4:fK J j 22 #[.slice A n c]:=by have U:=fK.new (j.setCell ⟨w.heap.size+1,0,none⟩ (.slice bv 1 1)) 22 #[.slice A n c];rw[ax]at U;rw[N];exact U.below jm U.lt
 have k5:fK J (j.heap.size+1) 316 #[fc]:=by have U:=fK.new ((j.setCell ⟨w.heap.size+1,0,none⟩ (.slice bv 1 1)).alloc (.cells #[.slice A n c] 22)) 316 #[fc];rw[show((j.setCell ⟨w.heap.size+1,0,none⟩ (.slice bv 1 1)).alloc (.cells #[.slice A n c] 22)).heap.size=j.heap.size+1 by simp[dD]]at U;rw[N];exact U
 have a1:p.v≠ []-> ∀a,A=some a->a.block<w.heap.size:=λh a e=>by obtain⟨b,off,e1,e2,_⟩:=HP.out (by rw[arb.flat_length];have:=List.length_pos_iff.2 h;simpa[aq7] using this);rw[e]at e1;injection e1 with e1;rw[e1];exact e2
 have HQ:Hid (∀(w7:ω) (Aq:Option δ) (cq:Nat),J w7->sO J w7 Aq q->Γ aj 217 #[.pointer (some ⟨j.heap.size+1,0,none⟩),.slice Aq q.len cq] w7 λe w8=>w w8/\fK w8 (w.heap.size+1+1) 51 #[zI]/\acP (w.heap.size+1) j (w.heap.size+3) gq e w8):=ah (by
  intro w7 Aq cq M ac;have ak:=ar.trans (M.mono ar.size);refine(HW.out w7 bv j (j.heap.size+1) J Aq cq (k1.below M k1.lt) (k4.below M k4.lt) (k3.below M k3.lt) (by rw[<-aM];exact k5.below M k5.lt) ac (by omega) (by omega) (by have:=ae.b2.lt;omega) al.lt (by omega) (by omega) (hT.below ak) (HP.out.below ak) (λh a e=>by have:=a1 h a e;omega) hn ba hc).mono ?_;rintro e w8⟨T8,aL,h8⟩;have bh:=M.size;refine⟨ak.trans (aL.vU ak.size (λk Z=>by omega)),(aL.same _ (by omega) (λc=>by omega)).trans (k2.below M k2.lt),?_⟩;cases gq with
  |error er=>obtain⟨U,s,A1,c1,A2,c2,h2⟩:=h8;exact⟨U,_,h2.lb⟩
  |ok s=>obtain⟨U,A1,c1,A2,c2,h2⟩:=h8;exact⟨U,A1,c1,A2,c2,h2.lb,h2.rb,h2.own⟩)
 clear k0 k1 k2 k3 k4 k5 ZH ar ax bb aE al aR ae az an HW HP hn a1 hT hc;simp only[hu];clear hu;subst aM;cases gq with
 |error er=>unfold acP at HQ;simp only at HQ;go_wp2_with(first|((with_reducible refine(ad _).mono ?_);rintro e w7⟨Aq,nq,cq,rfl,M,fU,rfl,ac⟩)|((with_reducible refine(HQ.out _ _ _ (by rw[N];exact M) (by rw[N];exact ac)).mono ?_);rintro e w8⟨aa,O,rfl,v8,V⟩));have ai:fK (w8.alloc (.cells #[er] 314)) _ 246 _:=(V).below (gY.alloc ig (.cells #[er] 314)) (V).lt;have ag:fK (w8.alloc (.cells #[er] 314)) _ 51 _:=(O).below (gY.alloc ig (.cells #[er] 314)) (O).lt;have aw:=(ai.far (p:=⟨w.heap.size+1+1,0,none⟩) (by simp) er).cell 0;have au:=(ag.iV 0 er).cell 0;have af:=O;refine leaves_cons (f:=214) (args:= #[.pointer (some ⟨w.heap.size+1+1,0,none⟩)]) (by simp) (by simp[go_sem]) ?_;refine(vg (w.heap.size+1+1) er 0 [] w8 af).mono ?_;rintro e u' a4⟨rfl,rfl,rfl⟩;simp only[settle,List.dropWhile];clear ai ag af;simp[Leaves,results,results207,go_sem,aw,au];rw[HI.out];exact⟨(aa.alloc aa.size _).setCell (p:=⟨w.heap.size+1+1,0,none⟩) (by simp;omega) _,v8,rfl⟩
 |ok s=>
  obtain⟨rest,l⟩:=s;unfold acP at HQ;simp only at HQ;cases rest with
  |nil=>go_wp2_with(first|((with_reducible refine(ad _).mono ?_);rintro e w7⟨Aq,nq,cq,rfl,M,fU,rfl,ac⟩)|((with_reducible refine(HQ.out _ _ _ (by rw[N];exact M) (by rw[N];exact ac)).mono ?_);rintro e w8⟨aa,O,rfl,A1,c1,A2,c2,V,fU,H7⟩;have fJ:=V.cell;have iG:=V.frozen 0;have jQ:=O.cell;have uK:=O.frozen 0;have sK:=fU.cell));have a9:=((V.iV 0 (.slice A1 l.length c1)).far (p:=⟨w.heap.size+1+1,0,none⟩) (by simp) zI).cell 0;have NY:=((O.far (p:=⟨w.heap.size+1,0,none⟩) (by simp) (.slice A1 l.length c1)).iV 0 zI).cell 0;have ZI:=(H7.far (g:=w.heap.size+1) (by omega) (λk Z=>aN w8 ⟨w.heap.size+1,0,none⟩ (.slice A1 l.length c1) k Z)).far (g:=w.heap.size+1+1) (by omega) (λk Z=>aN (w8.setCell ⟨w.heap.size+1,0,none⟩ (.slice A1 l.length c1)) ⟨w.heap.size+1+1,0,none⟩ zI k Z);refine leaves_cons (f:=214) (args:= #[.pointer (some ⟨w.heap.size+1+1,0,none⟩)]) (by simp) (by simp[go_sem]) ?_;refine(Az (w.heap.size+1+1) _).mono ?_;rintro e u' a4⟨rfl,rfl,rfl⟩;simp[Leaves,settle,results,results207,go_sem,a9,NY];rw[HI.out];exact⟨(aa.setCell (p:=⟨w.heap.size+1,0,none⟩) (by simp) _).setCell (p:=⟨w.heap.size+1+1,0,none⟩) (by simp;omega) _,A1,c1,rfl,ZI.mono (by omega)⟩
  |cons y r=>go_wp2_with(first|((with_reducible refine(ad _).mono ?_);rintro e w7⟨Aq,nq,cq,rfl,M,fU,rfl,ac⟩)|((with_reducible refine(HQ.out _ _ _ (by rw[N];exact M) (by rw[N];exact ac)).mono ?_);rintro e w8⟨aa,O,rfl,A1,c1,A2,c2,V,fU,H7⟩;have fJ:=fU.cell));have ai:fK (w8.alloc (.cells #[(20:Int)] 314)) _ 246 _:=(V).below (gY.alloc ig (.cells #[(20:Int)] 314)) (V).lt;have ag:fK (w8.alloc (.cells #[(20:Int)] 314)) _ 51 _:=(O).below (gY.alloc ig (.cells #[(20:Int)] 314)) (O).lt;have aw:=(ai.far (p:=⟨w.heap.size+1+1,0,none⟩) (by simp) (20:Int)).cell 0;have au:=(ag.iV 0 (20:Int)).cell 0;have af:=O;refine leaves_cons (f:=214) (args:= #[.pointer (some ⟨w.heap.size+1+1,0,none⟩)]) (by simp) (by simp[go_sem]) ?_;refine(vg (w.heap.size+1+1) 20 0 [] w8 af).mono ?_;rintro e u' a4⟨rfl,rfl,rfl⟩;simp only[settle,List.dropWhile];clear ai ag af;simp[Leaves,results,results207,go_sem,aw,au];rw[HI.out];exact⟨(aa.alloc aa.size _).setCell (p:=⟨w.heap.size+1+1,0,none⟩) (by simp;omega) _,_,rfl⟩
theorem acQ(p:Pk)(A:Option δ)(n c:Nat)(w:ω)(H:Tab w)(M:fE aq7 w A p.v)(hn:p.v.length=n)(J:n<=60000)(hc:n<=c/\c<=μ):Γ aj 207 #[.agg #[p.id,.slice A n c]] w (oN w (kG p)):=by cases j:lu p.id with|none=>exact Ti p A n c w j|some q=>exact Tj p A n c w q j H M hn J hc
section
theorem ET: ∀(vs:List Θ) (a:Array Θ) (o:Nat),o+vs.length<=a.size->(arh a o vs).toList=a.toList.take o++vs++a.toList.drop (o+vs.length)
 | [],a,o,_=>by simp[arh]
 |v::vs,a,o,h=>by
  simp only[bK]at h;rw[arh,ET vs (a.setIfInBounds o v) (o+1) (by grind)];have e1:(a.setIfInBounds o v).toList.take (o+1)=a.toList.take o++ [v]:=by rw[Array.toList_setIfInBounds,List.take_set,List.take_succ_eq_append_getElem (show o<a.toList.length by grind)];rw[List.set_append_right _ _ (by grind)];simp[Nat.min_eq_left (show o<=a.size by omega)]
  have e2:(a.setIfInBounds o v).toList.drop (o+1+vs.length)=a.toList.drop (o+(v::vs).length):=by rw[Array.toList_setIfInBounds,List.drop_set_of_lt (by omega)];congr 1;simp only[bK];omega
  rw[e1,e2];simp
theorem acR(L j:List Θ)(o H:Nat)(J:o+j.length<=H)(M:H<=L.length):(L.take o++j++L.drop (o+j.length)).take H=(L.take H).take o++j++(L.take H).drop (o+j.length):=by
 have hA:(L.take o++j).length=o+j.length:=by grind
 rw[List.take_append,aY (by omega),hA,List.take_take,Nat.min_eq_left (by omega),List.drop_take]
theorem lQ: ∀(vs:List Θ) (a:Array Θ) (o:Nat),(arh a o vs).size=a.size
 | [],_,_=>rfl
 |v::vs,a,o=>by rw[arh,lQ vs];simp
section
variable {α:Type} {E:arb α} {t:τ} {w w':ω} {base g c:Nat} {xs:List α}
theorem arb.acS(xs:List α){i:Nat}(hi:i<xs.length)(v:α):E.flat (xs.set i v)=(E.flat xs).take (i*E.k)++E.enc v++(E.flat xs).drop (i*E.k+E.k):=by rw[List.set_eq_take_append_cons_drop,Υ hi,E.zS,E.nX,E.BK,show i*E.k+E.k=(i+1)*E.k by grind,E.Nv];simp
theorem aq1.put(ho:aq1 E t w base g c xs){i:Nat}(hi:i<xs.length)(v:α){cur:Array Θ}(M:fK w g t cur)(Z:fK w' g t (arh cur (i*E.k) (E.enc v))):aq1 E t w' base g c (xs.set i v):=by
 obtain⟨g',j,e,O,H,J,U,V,Y⟩:=ho.blk (by simp);simp only[aO,cZ]at e;obtain⟨rfl,-,-⟩:=e;have aa:j=cur:=by unfold fK at H M;rw[M]at H;simp at H;exact H.symm
 subst aa;have ac:i*E.k+E.k<=xs.length*E.k:=by rw[show i*E.k+E.k=(i+1)*E.k by grind];exact Nat.mul_le_mul_right _ hi
 have ae:xs.length*E.k<=c*E.k:=Nat.mul_le_mul_right _ U;have ad:(j.toList).length=c*E.k:=by omega
 refine⟨by rw[E.flat_length],.inr ⟨g,c,arh j (i*E.k) (E.enc v),by simp,O,Z,by grind,V,by rw[lQ,J],?_⟩⟩;rw[List.length_set,ET _ _ _ (by rw[E.len,J];omega),E.acS xs hi,<-Y,E.len];have N:=acR j.toList (E.enc v) (i*E.k) (xs.length*E.k) (by rw[E.len];exact ac) (by omega);rw[E.len]at N;exact N
theorem aq1.ahead(ho:aq1 E t w base g c xs)(i:Nat)(hi:i<=xs.length){cur j:Array Θ}(J:fK w g t cur)(V:fK w' g t j)(hs:j.size=cur.size)(ht:j.toList.take (i*E.k)=cur.toList.take (i*E.k)):aq1 E t w' base g c (xs.take i):=by
 obtain⟨g',M,e,N,H,h3,h4,O,U⟩:=ho.blk (by simp);simp only[aO,cZ]at e;obtain⟨rfl,-,-⟩:=e;have Y:M=cur:=by unfold fK at H J;rw[J]at H;simp at H;exact H.symm
 subst Y;have Z:(xs.take i).length=i:=by grind
 refine⟨by rw[E.flat_length],.inr ⟨g,c,j,by simp,N,V,by omega,O,by omega,?_⟩⟩;rw[Z,ht,<-E.BK,<-U,List.take_take,Nat.min_eq_left];exact Nat.mul_le_mul_right _ hi
end
end
def PV (id:Int):Bool:=(PE id).isSome
def PW (id:Int):Bool:=PV id&&decide (129<=id)
def H9 (id:Int):List Int:=if PW id=true then [2,9] else [2,3,4]
theorem af4(id:Int)(w:ω):Γ aj 171 #[id] w λe w'=>e=.returned (.bool (PV id))/\w w':=by have H:=λW=>afT id W;have j:=Own.nil w;unfold Gh at H;unfold PV;generalize nG id=f at*;generalize (PE id).isSome=b at*;obtain⟨f1,J,f3⟩:=f;unfold Af at H;simp only at H;go_enter func171,ntmps171;go_wp2_with((with_reducible refine(H _).mono ?_);rintro e O⟨A1,c1,A3,c3,rfl,hF,M⟩;replace j:=Own.afy (j.grow M) 240 #[.slice A1 f1.length c1,J,.slice A3 f3.length c3];have N:=j.b0.cell);go_ret;exact⟨rfl,j.below⟩
theorem Tn(id:Int)(w:ω):Γ aj 119 #[id] w λe w'=>e=.returned (.bool (PW id))/\w w':=by have j:=λW=>af4 id W;unfold PW;cases J:PV id with|false=>rw[J]at j;go_enter func119,ntmps119;go_wp2_with((with_reducible refine(j _).mono ?_);rintro e M⟨rfl,H⟩);go_ret;exact⟨rfl,H⟩|true=>rw[J]at j;go_enter func119,ntmps119;go_wp2_with((with_reducible refine(j _).mono ?_);rintro e M⟨rfl,H⟩);go_ret;exact⟨by simp,H⟩
def JQ (w:ω) (l:List Int) (e:ε) (w':ω):Prop:= ∃A c,e=.returned (.slice A l.length c)/\fE aq7 w' A l/\(∀a,A=some a->w.heap.size<=a.block)/\l.length<=c/\w w'
theorem acT(id:Int)(w:ω):Γ aj 159 #[id] w (JQ w (H9 id)):=by have J:=λW=>Tn id W;unfold H9;have j:=Own.nil w;cases O:PW id with|false=>rw[O]at J;simp only[bU,if_false];go_enter func159,ntmps159;go_wp2_with((with_reducible refine(J _).mono ?_);rintro e N⟨rfl,H⟩;replace j:=Own.afy (j.grow H) 3 #[(2:Int),(3:Int),(4:Int)];have M:=H.size);go_ret;exact⟨N,3,rfl,qw j.b0 rfl,(λa e=>by cases e;exact M),by decide,j.below⟩|true=>rw[O]at J;simp only[if_true];go_enter func159,ntmps159;go_wp2_with((with_reducible refine(J _).mono ?_);rintro e N⟨rfl,H⟩;replace j:=Own.afy (j.grow H) 3 #[(2:Int),(9:Int)];have M:=H.size);go_ret;exact⟨N,2,rfl,qw j.b0 rfl,(λa e=>by cases e;exact M),by decide,j.below⟩
section
theorem Own.add{w W:ω}{L:List Bk}(h:Own w W L){g:Nat}{t:τ}{cs:Array Θ}(H:fK W g t cs)(J:w.heap.size<=g)(hn: ∀x∈L,x.1≠g):Own w W (L++ [(g,t,cs)]):=by
 refine⟨h.below,λx j=>?_,?_⟩
 .rcases dK.1 j with j |j;.exact h.blk x j
  grind
 .rw[eX,List.nodup_append];refine⟨h.nodup,by simp,?_⟩;grind
theorem Own.turn{w W W':ω}{L:List Bk}{b:Nat}(h:Own w W L)(O:w.heap.size<=b)(hn: ∀x∈L,x.1≠b)(N:W.heap.size<=W'.heap.size)(M: ∀k,k<W.heap.size->k≠b->W'.heap[k]? =W.heap[k]?)(j:W'.os=W.os/\W'.tape=W.tape/\W'.output=W.output):Own w W' L:=h.grown (R:=some b) ⟨j.1,j.2.1,j.2.2,N,λk H J=>M k H (λe=>J (by rw[e]))⟩ (λg U=>by grind)
section
variable {P:χ} {w W:ω} {ops:Array ο} {rest:List ο} {o:ο} {a:Act} {Q:Exit->Act->ω->Prop} {L:List Bk} {b:Nat} {es:Array MapEntry} {cl:Nat} {t kt e:τ}
def pX (W:ω) (b:Nat) (o:Obj):ω:={W with heap:=W.heap.setIfInBounds b o}
theorem AA(M:P.underlying t=some (.map kt e))(H:P.underlying kt=some (.int .i64))(j:W.heap[b]? =some (.map es cl))(i:Int)(v:Θ)(J:dY (.int .i64) i es.toList 0=some none):(Instr.mapUpdate t (.map (some b)) i v).run P W=.ok () (pX W b (.map (es.push ⟨i,v,cl⟩) (cl+1))):=by have hc:=MapKept.run_checkKey (P:=P) (w:=W) H (k:=i) (by trivial) false 9999;simp[Instr.mapUpdate,ν M,MapKept.run_getObj_map j,hc,Instr.findKey,ν H,J,MapKept.run_setObj_map _ j,pX]
theorem JR(M:P.underlying t=some (.map kt e))(j:P.underlying kt=some (.int .i64))(H:W.heap[b]? =some (.map es cl))(i:Int)(N:Nat)(v:Θ)(J:dY (.int .i64) i es.toList 0=some (some (N,v))):(Instr.lookup t (.map (some b)) i true).run P W=.ok (.tuple #[v,true]) W:=by have hc:=MapKept.run_checkKey (P:=P) (w:=W) j (k:=i) (by trivial) es.isEmpty 9999;simp[Instr.lookup,ν M,MapKept.run_getObj_map H,hc,Instr.findKey,ν j,J]
theorem vk(W:ω)(b:Nat)(o:Obj):W.grownBy (pX W b o) (some b):=by refine⟨rfl,rfl,rfl,by simp[pX],λk _ j=>?_⟩;unfold pX;simp only;exact dR (λe=>j (by rw[e]))
theorem Own.mapped(h:Own w W L)(M:W.heap[b]? =some (.map es cl))(j:w.heap.size<=b)(hn: ∀x∈L,x.1≠b)(o:Obj):Own w (pX W b o) L/\(pX W b o).heap[b]? =some o:=by
 refine⟨h.turn j hn (by simp[pX]) (λk _ H=>by simp[pX,dR (λe=>H e.symm)]) ⟨rfl,rfl,rfl⟩,?_⟩;have J:b<W.heap.size:=by grind
 simp[pX,J]
theorem qE(J:Own w W L)(M:o.guard=none)(N:o.op=.makeMap t none)(h: ∀W':ω,Own w W' L->W'.heap[W.heap.size]? =some (.map #[] 0)->W W'->Δ P ops Q rest (a.put o.dst (.map (some W.heap.size))) W'):Δ P ops Q (o::rest) a W:=by refine π M λK H=>?_;have j:W (W.alloc (.map #[] 0)):=gY.alloc ig _;have:=H _ _ (h _ (J.grow j) (heap_alloc_new W _) j);unfold Oper.wp execOp;simp only[N,Option.map_none,Sem.run_bind,run_makeMap,dO];exact this
theorem EU(N:Own w W L)(j:W.heap[b]? =some (.map es cl))(U:w.heap.size<=b)(hn: ∀x∈L,x.1≠b)(V:o.guard=none)(m k y:κ)(ho:o.op=.insert t m k y)(hm:a.eval m=.map (some b))(i:Int)(Y:a.eval k=i)(v:Θ)(hy:a.eval y=v)(ht:P.underlying t=some (.map kt e))(Z:P.underlying kt=some (.int .i64))(O:dY (.int .i64) i es.toList 0=some none)(h: ∀W':ω,Own w W' L->W'.heap[b]? =some (.map (es.push ⟨i,v,cl⟩) (cl+1))->W.grownBy W' (some b)->Δ P ops Q rest (a.put o.dst υ) W'):Δ P ops Q (o::rest) a W:=by refine π V λK M=>?_;obtain⟨H,J⟩:=N.mapped j U hn (.map (es.push ⟨i,v,cl⟩) (cl+1));have:=M _ _ (h _ H J (vk _ _ _));unfold Oper.wp execOp;simp only[ho,hm,Y,hy,Sem.run_bind,AA ht Z j i v O,dO];exact this
theorem kH(J:W.heap[b]? =some (.map es cl))(N:o.guard=none)(m k:κ)(V:o.op=.lookup t m k true)(hm:a.eval m=.map (some b))(i:Int)(O:a.eval k=i)(j:Nat)(v:Θ)(Y:P.underlying t=some (.map kt e))(U:P.underlying kt=some (.int .i64))(M:dY (.int .i64) i es.toList 0=some (some (j,v)))(h:Δ P ops Q rest (a.put o.dst (.tuple #[v,true])) W):Δ P ops Q (o::rest) a W:=by refine π N λK H=>?_;have:=H _ _ h;unfold Oper.wp execOp;simp only[V,hm,O,Sem.run_bind,JR Y U J i j v M,dO];exact this
end
end
section
def Tq (l:List Int) (x:Int):Int:=if x∈l then(l.idxOf x:Int) else -1
theorem al2(A:Option δ)(n c:Nat)(l:List Int)(x:Int)(w:ω)(hR:fE aq7 w A l)(hn:l.length=n)(hb:n<=1000000):Γ aj 241 #[.slice A n c,x] w λe w'=>e=.returned (Tq l x:Int)/\w'=w:=by
 have O:=ah hn;go_enter func241,ntmps241;go_wp2;go_loopw [8] (λi wr=> ∃k:Nat,i=.int .i64 k/\k<=n/\wr=w/\Hid (x∉l.take k)) (λi _=>n-(intOf i).toNat);case atStart=>exact⟨0,rfl,aV _,rfl,ah (by simp)⟩
 case round=>
  obtain⟨k,rfl,hk,rfl,M⟩:=hrel;by_cases ac:k<n;.obtain⟨y,J⟩:=aq5 O.out ac;obtain⟨g,off,rfl,hg,hc⟩:=hR.get J;have a0:=hc 0 y rfl;simp only[aq7,Nat.mul_one,bI]at a0;by_cases j:x=y;(·(have V:(x==y)=true:=by simpa using j);have N:Hid (Tq l x=(k:Int)):=ah (by(have hm:x∈l:=by rw[j];exact bP J);unfold Tq;rw[Υ hm];have H:=(aX.1 J);obtain⟨ad,aa⟩:=H;(have Y:l.idxOf x=k:=by(have Z:l=l.take k++x::l.drop (k+1):=by rw[j,<-aa];simp);rw[Z,List.idxOf_append,Ξ M.out,List.idxOf_cons_self];simp;omega);rw[Y]);go_wp2_with fail;go_ret;exact⟨by rw[N.out];rfl,rfl⟩);·(have V:(x==y)=false:=by simpa using j);have U:Hid (x∉l.take (k+1)):=ah (by rw[take_snoc' J,dK];rintro (h |h);(.exact M.out h);.exact j (by simpa using h));go_wp2_with fail;go_roundw;(case rel=>exact⟨k+1,by go_num,by omega,(by first |trivial),U⟩);case measure=>simp[intOf];omega
  ·(obtain rfl:k=n:=by omega);have N:Hid (Tq l x= -1):=ah (by have H:=M.out;rw[aY (by rw[O.out];exact aW _)]at H;unfold Tq;rw[Ξ H]);go_wp2_with fail;go_ret;exact⟨by rw[N.out];rfl,rfl⟩
theorem ajf(A:Option δ)(n c:Nat)(l:List Int)(x:Int)(w:ω)(M:fE aq7 w A l)(hn:l.length=n)(N:n<=1000000):Γ aj 209 #[.slice A n c,x] w λe w'=>e=.returned (.bool (l.contains x))/\w'=w:=by
 have j:=al2 A n c l x w M hn N;have J:decide (0<=Tq l x)=l.contains x:=by
  unfold Tq;by_cases h:x∈l;.rw[Υ h];simp[h]
  .rw[Ξ h];simp[h]
 obtain⟨i,hi⟩:=fD (Tq l x);rw[<-hi]at j J;obtain⟨b,H⟩:=fD (l.contains x);rw[<-H]at J |-;clear hi H;go_enter func209,ntmps209;go_wp2_with((with_reducible refine j.mono ?_);rintro e U⟨rfl,O⟩;obtain rfl:=O.symm);go_ret;exact⟨rfl,rfl⟩
structure WV where
  id:Int
  A:Option δ
  n:Nat
  c:Nat
def qJ:arb WV:=⟨2,fun p=> [.int .i64 p.id,.slice p.A p.n p.c],fun _=>rfl,fun _ u hu=>by simp at hu;rcases hu with rfl |rfl <;> rfl,by decide⟩
def al3:qo aj qJ 194 198 32:=arD (.agg gH) underlying194 (by kernel_rfl) rfl
def mg (may:List Int):List Int->List Int->Bool
 | [],_=>true
 |x::r,met=> !(met.contains x)&&may.contains x&&mg may r (x::met)
def Ia (f:List Int × Int × List Int) (l:List Int):Bool:=if 0<=f.2.1 then(match l with | []=>false |x::r=>(decide (x=f.2.1) || (decide (f.2.1=0)&&decide (x=1)))&&mg f.2.2 r []) else mg f.2.2 l []
def MB (ms:List (Int × Nat)):List MapEntry:=ms.map fun p=>⟨.int .i64 p.1,.bool true,p.2⟩
theorem YD(x:Int): ∀(ms:List (Int × Nat)) (i:Nat),x∈ms.map (·.1)-> ∃j,dY (.int .i64) x (MB ms) i=some (some (j,.bool true))
 | [],i,h=>by cases h
 |p::ms,i,h=>by
  by_cases e:x=p.1;.exact⟨i,by simp[MB,dY,Instr.sameNow,e]⟩
  .obtain⟨j,J⟩:=YD x ms (i+1) (by rw[List.map_cons,bJ]at h;exact h.resolve_left e);refine⟨j,?_⟩;(have H:(x==p.1)=false:=by simpa using e);simp only[MB,List.map_cons,dY,Instr.sameNow,if_true,H];exact J
theorem Tt(x:Int): ∀(ms:List (Int × Nat)) (i:Nat),x∉ms.map (·.1)->dY (.int .i64) x (MB ms) i=some none
 | [],i,h=>rfl
 |p::ms,i,h=>by
  rw[List.map_cons,bJ,not_or]at h;have j:(x==p.1)=false:=by simpa using h.1
  simp only[MB,List.map_cons,dY,Instr.sameNow,if_true,j];exact Tt x ms (i+1) h.2
section
variable {P:χ} {w W:ω} {ops:Array ο} {rest:List ο} {o:ο} {a:Act} {Q:Exit->Act->ω->Prop} {L:List Bk} {b:Nat} {es:Array MapEntry} {cl:Nat} {t kt e:τ}
theorem Tv(M:P.underlying t=some (.map kt e))(j:P.underlying kt=some (.int .i64))(H:W.heap[b]? =some (.map es cl))(i:Int)(N:Nat)(v:Θ)(J:dY (.int .i64) i es.toList 0=some (some (N,v))):(Instr.lookup t (.map (some b)) i false).run P W=.ok v W:=by have hc:=MapKept.run_checkKey (P:=P) (w:=W) j (k:=i) (by trivial) es.isEmpty 9999;simp[Instr.lookup,ν M,MapKept.run_getObj_map H,hc,Instr.findKey,ν j,J]
theorem PX(M:P.underlying t=some (.map kt e))(j:P.underlying kt=some (.int .i64))(H:W.heap[b]? =some (.map es cl))(i:Int)(z:Θ)(N:(zeroValue e).run P W=.ok z W)(J:dY (.int .i64) i es.toList 0=some none):(Instr.lookup t (.map (some b)) i false).run P W=.ok z W:=by have hc:=MapKept.run_checkKey (P:=P) (w:=W) j (k:=i) (by trivial) es.isEmpty 9999;simp[Instr.lookup,ν M,MapKept.run_getObj_map H,hc,Instr.findKey,ν j,J,N]
theorem AB{v:Θ}(H:o.guard=none)(m k:κ)(M:o.op=.lookup t m k false)(hm:a.eval m=.map (some b))(i:Int)(J:a.eval k=i)(N:(Instr.lookup t (.map (some b)) i false).run P W=.ok v W)(h:Δ P ops Q rest (a.put o.dst v) W):Δ P ops Q (o::rest) a W:=by refine π H λK j=>?_;have:=j _ _ h;unfold Oper.wp execOp;simp only[M,hm,J,Sem.run_bind,N,dO];exact this
theorem EW(N:Own w W L)(j:W.heap[b]? =some (.map es cl))(U:w.heap.size<=b)(hn: ∀x∈L,x.1≠b)(V:o.guard=none)(m k y:κ)(ho:o.op=.mapUpdate t m k y)(hm:a.eval m=.map (some b))(i:Int)(Y:a.eval k=i)(v:Θ)(hy:a.eval y=v)(ht:P.underlying t=some (.map kt e))(Z:P.underlying kt=some (.int .i64))(O:dY (.int .i64) i es.toList 0=some none)(h: ∀W':ω,Own w W' L->W'.heap[b]? =some (.map (es.push ⟨i,v,cl⟩) (cl+1))->W.grownBy W' (some b)->Δ P ops Q rest (a.put o.dst υ) W'):Δ P ops Q (o::rest) a W:=by refine π V λK M=>?_;obtain⟨H,J⟩:=N.mapped j U hn (.map (es.push ⟨i,v,cl⟩) (cl+1));have:=M _ _ (h _ H J (vk _ _ _));unfold Oper.wp execOp;simp only[ho,hm,Y,hy,Sem.run_bind,AA ht Z j i v O,dO];exact this
end
def ZJ (A:Option δ) (i c:Nat):Option δ:=if c=i then A else A.map (·.add (i*2))
section
variable (w:ω) (a:Option δ) (len cap:Nat)
def ajg:aj.underlying 194=some (.slice (aj.elem 194)):=by kernel_rfl
def acU:(sizeOf (aj.elem 194)).run aj w=.ok 2 w:=by
 have h:(aj.info? (aj.elem 194)).map (·.size)=some 2:=by kernel_rfl
 cases j:aj.info? (aj.elem 194) with
 |none=>rw[j]at h;cases h
 |some J=>
  have H:J.size=2:=by simpa[j] using h
  simp[sizeOf,typeInfo,j,H]
def Tz(j:IntKind)(l:Int)(H:0<=l)(J:l<=len):(Instr.slice 194 (.slice a len cap) (some (.int j l)) none none).run aj w=.ok (.slice (ZJ a l.toNat cap) (len-l.toNat) (cap-l.toNat)) w:=by rw[run_slice_l w 194 a len cap ajg j l H J,acU];simp[Result.andThen,sliced,ZJ]
end
theorem TA{w:ω}{A:Option δ}{c:Nat}{x:WV}{l:List WV}(h:fE qJ w A (x::l))(hc:l.length+1<=c):fE qJ w (ZJ A 1 c) l:=by
 intro j;have O:0<l.length:=by rw[arb.flat_length]at j;exact Nat.pos_of_mul_pos_right j
 obtain⟨b,off,e,H,J⟩:=h (by rw[arb.flat_length];simp[qJ]);subst e;refine⟨b,off+2,?_,H,λN u M=>?_⟩;.unfold ZJ;rw[Ξ (by omega)];simp[Addr.add]
 .have:=J (2+N) u (by rw[arb.nX,List.getElem?_append_right (by simp[qJ])];simpa[qJ] using M);rwa [<-Nat.add_assoc]at this
def ZK(ms:List (Int × Nat))(es:Array MapEntry)(h:es.toList=MB ms)(i:Int)(cl:Nat):(es.push ⟨i,true,cl⟩).toList=MB (ms++ [(i,cl)]):=by simp[MB,h]
def ZL(W:ω):(zeroValue 4).run aj W=.ok (.bool false) W:=by
 have h:(aj.info? 4).map (·.zero)=some (some (.bool false)):=by kernel_rfl
 cases j:aj.info? 4 with
 |none=>rw[j]at h;cases h
 |some J=>
  have H:J.zero=some (.bool false):=by simpa[j] using h
  simp[zeroValue,typeInfo,j,H]
def Own.jD(w:ω)(j:τ)(c1:Array Θ):Own w (w.alloc (.cells c1 j)) [(w,j,c1)]:=(Own.nil w).alloc j c1 _ rfl
def Own.al4{w W:ω}{x y:Bk}(h:Own w W [x,y]):Own w W [x]:=⟨h.below,λz j=>h.blk z (by simp only[dN]at j;subst j;simp),by simp⟩
theorem acV(f:List Int × Int × List Int)(A1:Option δ)(c1:Nat)(A3:Option δ)(c3:Nat)(Ap:Option δ)(n cp:Nat)(N:List WV)(w:ω)(bf:fE aq7 w A3 f.2.2)(bh:f.2.2.length<=1000000)(M:fE qJ w Ap N)(V:N.length=n)(hn:n<=65536)(a8:n<=cp):Γ aj 162 #[.agg (Af f A1 c1 A3 c3),.slice Ap n cp] w λe w'=>e=.returned (.bool (Ia f (N.map (·.id))))/\w w':=by
 obtain⟨R,hR⟩:=fD (Ia f (N.map (·.id)));rw[<-hR];have HR:=ah hR;clear hR;have j:Own w _ [_]:=Own.jD w 240 (#[.slice A1 f.1.length c1,.int .i64 f.2.1,.slice A3 f.2.2.length c3]);have av:=j.b0.cell;unfold Af;go_enter func162,ntmps162;go_upto_if 10 with fail;go_cut [1] from 8 (λx W=> ∃Al n2 c2 H,x=.slice Al n2 c2/\n2<=65536/\Own w W [(w,240,#[.slice A1 f.1.length c1,.int .i64 f.2.1,.slice A3 f.2.2.length c3])]/\Hid (fE qJ w Al H)/\Hid (H.length=n2)/\Hid (R=mg f.2.2 (H.map (·.id)) []));case first=>
  by_cases hm:0<=f.2.1
  ·(have f0:decide (0<=f.2.1)=true:=by simpa using hm);have hF:=HR.out;unfold Ia at hF;rw[Υ hm]at hF;clear hm HR;cases N with
   |nil=>obtain rfl:n=0:=V.symm;replace hF:=ah hF;simp only[f0];go_wp2_with fail;refine ara (by kernel_rfl) ?_;(repeat(first|(apply gX.want rfl;(.intro w' U K Q' hK;have af:=j.grow U;have aM:=af.b0.cell;go_wp2_with(fail);first|exact aH _ _|exact hb3);(.simp only[aP,ay,aA,aB];rfl))|(apply gX.skip rfl;.simp only[aP,ay,aA,aB];rfl)));refine gX.nil ?_;intro w' U;have ap:=(j.grow U).below;go_wp2_with fail;go_ret;exact⟨by rw[hF.out];rfl,ap⟩
   |cons y0 N=>obtain⟨n,rfl⟩: ∃m,n=m+1:=⟨N.length,by simpa using V.symm⟩;obtain⟨g,off,bb,hg,ax⟩:=M.get (i:=0) (x:=y0) rfl;have aq:=ax 0 _ rfl;simp only[Nat.zero_mul,bI]at aq;subst bb;(have fn:((n:Int)+1==0)=false:=by rw[beq_eq_false_iff_ne];omega);simp only[List.map_cons]at hF;obtain⟨b1,e1⟩: ∃b,(y0.id != f.2.1)=b:=⟨_,rfl⟩;obtain⟨b2,e2⟩: ∃b,(f.2.1 != 0)=b:=⟨_,rfl⟩;obtain⟨b3,e3⟩: ∃b,(y0.id != 1)=b:=⟨_,rfl⟩;rw[show(decide (y0.id=f.2.1) || decide (f.2.1=0)&&decide (y0.id=1))=(!b1 || !b2&& !b3) by rw[<-e1,<-e2,<-e3,Bool.eq_iff_iff];simp]at hF;have an:=TA (c:=cp) M (by simp at V;omega);(have bi: ∀W,(Instr.slice 194 (.slice (some ⟨g,off,none⟩) (n+1) cp) (some (.int .i64 1)) none none).run aj W=.ok (.slice (ZJ (some ⟨g,off,none⟩) 1 cp) n (cp-1)) W:=λW=>by rw[Tz W _ _ _ .i64 1 (by omega) (by omega)];simp);obtain⟨Al,aw⟩:=fD (ZJ (some ⟨g,off,none⟩) 1 cp);rw[<-aw]at an bi;have HY:=ah an;have ae:Hid (N.length=n):=ah (by simpa using V);obtain⟨iy,aD⟩:=fD y0.id;rw[<-aD]at aq e1 e3;clear an aw ax M V aD;cases b1 <;> cases b2 <;> cases b3;all_goals have HF:=ah hF;clear hF;simp only[f0];go_wp2_with fail;refine ara (by kernel_rfl) ?_;(repeat(first|(apply gX.want rfl;(.intro w' U K Q' hK;have af:=j.grow U;have aM:=af.b0.cell;have bo:=(af.below.cell (p:=⟨g,off,none⟩) hg).trans aq;go_wp2_with(fail);first|exact aH _ _|exact hb3);(.simp only[aP,ay,aA,aB];rfl))|(apply gX.skip rfl;.simp only[aP,ay,aA,aB];rfl)));refine gX.nil ?_;intro w' U;replace j:=j.grow U;have ap:=j.below;clear U;go_wp2_with fail;first|(go_meet;exact⟨Al,n,cp-1,N,rfl,by omega,j,HY,ae,ah (by rw[HF.out];rfl)⟩)|(go_ret;exact⟨by rw[HF.out];rfl,ap⟩)
  ·(have f0:decide (0<=f.2.1)=false:=by simpa using hm);have HF:Hid (R=mg f.2.2 (N.map (·.id)) []):=ah (by rw[HR.out];unfold Ia;rw[Ξ hm]);replace V:=ah V;replace M:=ah M;clear HR hm;simp only[f0];go_wp2_with fail;go_meet;exact⟨_,_,_,N,rfl,hn,j,M,V,HF⟩
 case rest=>
  obtain⟨Al,n2,c2,H,rfl,bq,j,HY,ae,ak⟩:=hcut;clear HR M V hn a8 av;have av:=j.b0.cell;go_wp2_with((with_reducible refine qE j rfl rfl ?_);intro wR kN O a6;obtain⟨gm,ar⟩:=fD wc.heap.size;rw[<-ar]at O |-;have bc:w.heap.size<=gm:=(by rw[ar];exact j.below.size);have bd: ∀z∈([(w,240,#[.slice A1 f.1.length c1,.int .i64 f.2.1,.slice A3 f.2.2.length c3])]:List Bk),z.1≠gm:=(by intro z hz e;have:=(j.blk z hz).2.lt;omega);clear ar);have bk:=kN.below;clear j a6;go_loopw [40] (λi wr=> ∃(k:Nat) (ms:List (Int × Nat)) (es:Array MapEntry) (cl:Nat) (Y:List Int),i=.int .i64 k/\k<=n2/\Own w wr [(w,240,#[.slice A1 f.1.length c1,.int .i64 f.2.1,.slice A3 f.2.2.length c3])]/\wr.heap[gm]? =some (.map es cl)/\Hid (es.toList=MB ms/\(∀x,x∈ms.map (·.1)<->x∈Y)/\mg f.2.2 (H.map (·.id)) []=mg f.2.2 ((H.drop k).map (·.id)) Y)) (λi _=>n2-(intOf i).toNat);case atStart=>exact⟨0,[],#[],0,[],rfl,aV _,kN,O,ah ⟨rfl,by simp,rfl⟩⟩
  case round=>clear O kN;obtain⟨k,ms,es,cl,Y,rfl,U,am,O,J⟩:=hrel;by_cases au:k<n2;(·(have a9:decide ((k:Int)<(n2:Int))=true:=by simpa using au);obtain⟨y,M⟩:=aq5 ae.out au;obtain⟨g,off,ba,hg,hc⟩:=(HY.out.below am.below).get M;have a0:=hc 0 _ rfl;have a1:=hc 1 _ rfl;simp only[qJ,bI]at a0 a1;subst ba;have jc:=am.new1 198 #[.int .i64 y.id,.slice y.A y.n y.c];have bm:=jc.b1.cell;have bn:=jc.b0.cell;have al:(wr.alloc (.cells #[.int .i64 y.id,.slice y.A y.n y.c] 198)).heap[gm]? =some (.map es cl):=(jm.block gm (by rcases eu gm wr with h |h;exact h;rw[dI h]at O;cases O)).trans O;have az:H.drop k=y::H.drop (k+1):=ark M;(have aL:mg f.2.2 ((H.drop k).map (·.id)) Y=(!(Y.contains y.id)&&f.2.2.contains y.id&&mg f.2.2 ((H.drop (k+1)).map (·.id)) (y.id::Y)):=by rw[az];rfl);have aa:=ah (J.out.2.2.trans aL);clear aL az M hc;by_cases Z:y.id∈Y;(.obtain⟨bj,hj⟩:=YD y.id ms 0 ((J.out.2.1 _).2 Z);rw[<-J.out.1]at hj;have ai:=Tv (P:=aj) underlying300 bG al y.id bj _ hj;have ad:Hid (mg f.2.2 (H.map (·.id)) []=false):=ah (by rw[aa.out];simp[Z]);clear hj Z J aa;go_wp2_with((with_reducible refine AB rfl _ _ rfl rfl _ rfl ai ?_));go_ret;exact⟨by rw[ak.out,ad.out];rfl,jc.below⟩);·(have aE:dY (.int .i64) (.int .i64 y.id) es.toList 0=some none:=by rw[J.out.1];exact Tt y.id ms 0 (λh=>Z ((J.out.2.1 _).1 h)));have ai:=PX (P:=aj) underlying300 bG al y.id _ (ZL _) aE;have ag:=ajf A3 f.2.2.length c3 f.2.2 y.id _ (bf.below jc.below) rfl bh;cases ac:f.2.2.contains y.id with|false=>have ad:Hid (mg f.2.2 (H.map (·.id)) []=false):=ah (by rw[aa.out,ac];simp);rw[ac]at ag;clear ac Z J aa;go_wp2_with(first|(with_reducible refine AB rfl _ _ rfl rfl _ rfl ai ?_)|(go_at_call 209;apply ag.mono;rintro e fU⟨rfl,fJ⟩;obtain rfl:=fJ.symm));go_ret;exact⟨by rw[ak.out,ad.out];rfl,jc.below⟩|true=>have a4:Hid ((es.push ⟨.int .i64 y.id,.bool true,cl⟩).toList=MB (ms++ [(y.id,cl)])/\(∀x,x∈(ms++ [(y.id,cl)]).map (·.1)<->x∈y.id::Y)/\mg f.2.2 (H.map (·.id)) []=mg f.2.2 ((H.drop (k+1)).map (·.id)) (y.id::Y)):=ah ⟨ZK ms es J.out.1 _ _,λx=>by rw[eX,dK,J.out.2.1];simp[or_comm],by rw[aa.out,ac];simp[Z]⟩;rw[ac]at ag;clear ac Z J aa;(have aR: ∀z∈([(w,240,#[.slice A1 f.1.length c1,.int .i64 f.2.1,.slice A3 f.2.2.length c3]),(wr,198,#[.int .i64 y.id,.slice y.A y.n y.c])]:List Bk),z.1≠gm:=by intro z hz;simp only[bJ,dH,or_false]at hz;rcases hz with rfl |rfl;(.exact bd _ (by simp));.rcases eu gm wr with h |h;(.exact λe=>by simp at e;omega);.rw[dI h]at O;cases O);go_wp2_with(first|(with_reducible refine AB rfl _ _ rfl rfl _ rfl ai ?_)|(go_at_call 209;apply ag.mono;rintro e fU⟨rfl,fJ⟩;obtain rfl:=fJ.symm)|((with_reducible refine EW jc al bc aR rfl _ _ _ rfl rfl _ rfl _ rfl underlying300 bG aE ?_);intro fU a5 WX fJ));go_roundw;(case rel=>exact⟨k+1,_,_,_,_,by go_num,by omega,Own.al4 a5,WX,a4⟩);case measure=>simp[intOf];omega);·(obtain rfl:k=n2:=by omega);(have a9:decide ((k:Int)<(k:Int))=false:=by simp);have ad:Hid (mg f.2.2 (H.map (·.id)) []=true):=ah (by rw[J.out.2.2,dJ (by rw[ae.out];exact aW _)];rfl);have a7:=am.below;clear J au;go_wp2_with fail;go_ret;exact⟨by rw[ak.out,ad.out];rfl,a7⟩
end
theorem ajh(id:Int)(w:ω):Γ aj 208 #[id] w λe w'=>e=.returned (.bool (Yv id))/\w'=w:=by
 unfold Yv;by_cases j:id=0;.subst j;go_enter func208,ntmps208;go_wp2;go_ret;simp
 .by_cases H:id=1;.subst H;go_enter func208,ntmps208;go_wp2;go_ret;simp
  ·(have O:(id==0)=false:=by grind);(have f1:(id==1)=false:=by grind);(have M:(decide (id=0) || decide (id=1) || decide (id=11))=decide (id=11):=by grind);rw[M];by_cases J:id=11;(.subst J;go_enter func208,ntmps208;go_wp2;go_ret;simp);·(have U:(id==11)=false:=by grind);(have N:decide (id=11)=false:=by omega);rw[N];go_enter func208,ntmps208;go_wp2;go_ret;simp
theorem JU{σ:Type}{I:σ->Prop}{f:σ->Except Int σ}(h: ∀s s',f s=.ok s'->I s->I s'): ∀(n:Nat) (s s':σ),jg f n s=.ok s'->I s->I s'
 |0,s,s',e,hi=>by rw[jg]at e;grind
 |n+1,s,s',e,hi=>by rw[jg]at e;cases j:f s with|error x=>grind|ok H=>rw[j]at e;exact JU h n H s' e (h _ _ j hi)
theorem BQ{σ:Type}{I:σ->Prop}{val:Int->σ->Except Int (Int × σ)}(H: ∀v s n s',val v s=.ok (n,s')->I s->I s'): ∀(p:Pt) (last:Int) (s s':σ),mV val p last s=.ok s'->I s->I s'
 | .nil,_,s,s',e,hi=>by rw[mV]at e;grind
 | .pl v r,last,s,s',e,hi=>by rw[mV]at e;cases j:val v s with|error x=>grind|ok M=>obtain⟨n,J⟩:=M;rw[j]at e;exact BQ H r n J s' e (H _ _ _ _ j hi)
 | .grp k l r,last,s,s',e,hi=>by rw[wL]at e;cases j:jg (mV val l 0) (qC k last) s with|error x=>grind|ok J=>rw[j]at e;exact BQ H r last J s' e (JU (λa b h=>BQ H l 0 a b h) _ _ _ j hi)
def AO (l:List (Int × Int)):Prop:= ∀x∈l,0<=x.2/\x.2<=32
theorem WY(v:Int)(s:List Int × List (Int × Int))(n:Int)(s':List Int × List (Int × Int))(h:lC v s=.ok (n,s'))(J:AO s.2):AO s'.2:=by
 have M:=lq v;unfold lC at h;by_cases H:v=7
 .rw[Υ H]at h;injection h with h;injection h with _ h;subst h;intro x j;rcases dK.1 j with j |j;.exact J x j
  grind
 .rw[Ξ H]at h;obtain⟨l,m⟩:=s;cases l with
  |nil=>cases h
  |cons y r=>simp only at h;by_cases hm:uX v y=true;(.rw[Υ hm]at h;injection h with h;injection h with _ h;subst h;intro x j;rcases dK.1 j with j |j;(.exact J x j);grind);grind
theorem EX{p:Pk}(h:kG p=.ok l):AO l/\(if Yv p.id=true then 1 else 2)<l.length:=by unfold kG at h;cases H:lu p.id with|none=>grind|some q=>rw[H]at h;simp only at h;cases j:mV lC q 0 (p.v,[(p.id,fQ 5)]) with|error e=>grind|ok s=>obtain⟨rest,m⟩:=s;rw[j]at h;simp only at h;split at h;(.injection h with h;subst h;refine⟨BQ (I:=λs=>AO s.2) WY q 0 _ _ j (by intro x J;rw[dN]at J;subst J;exact lq 5),?_⟩;have:=yX (m:=λs=>s.2.length) WR q 0 _ _ j;have M:=(ES H).2.2.2;grind);grind
theorem JV{p:Pk}(h:kG p=.ok l)(hn:p.v.length<=60000):l.length<=65000:=by unfold kG at h;cases H:lu p.id with|none=>grind|some q=>rw[H]at h;simp only at h;cases j:mV lC q 0 (p.v,[(p.id,fQ 5)]) with|error e=>grind|ok s=>obtain⟨rest,m⟩:=s;rw[j]at h;simp only at h;split at h;(.injection h with h;subst h;obtain⟨J,N,_⟩:=ES H;have M:=EP JO q 0 _ _ J j;simp only[PS,bK,dU]at M;omega);grind
theorem xR(H:AO l): ∀k,0<=arf (l.take k)/\arf (l.take k)<=32*(l.length:Int):=by
 intro k;have h: ∀m:List (Int × Int),AO m->0<=arf m/\arf m<=32*(m.length:Int):=by intro m;induction m with|nil=>intro _;decide|cons x m N=>intro hm;have j:=hm x (by simp);have O:=N (λy M=>hm y (by simp[M]));(have e:arf (x::m)=x.2+arf m:=by rfl);grind
 have j:=h (l.take k) (λx J=>H x (List.mem_of_mem_take J));grind
def arO{k:Nat}(h:l[k]? =some x):arf (l.take (k+1))=arf (l.take k)+x.2:=by rw[take_snoc' h];simp[arf]
theorem PY(h:l[i]? =some x)(n:Int):vS l i n=l.set i (n,x.2):=by
 unfold vS;apply List.ext_getElem?;intro j;rw[List.getElem?_modify,List.getElem?_set];by_cases e:i=j;.grind
 .simp[e]
def vG (w:ω) (q:Except Int (List (Int × Int))) (e:ε) (w':ω):Prop:=w w'/\match q with
 | .ok l=> ∃A c,e=.returned (.tuple #[.slice A l.length c,.int .i64 0])/\aq1 iU 245 w' w A c l
 | .error er=>e=.returned (.tuple #[.slice none 0 0,.int .i64 er])
theorem NZ{p:Pk}{er:Int}(h:kG p=.error er):er=20\/er=50:=by
 have U: ∀v (s:List Int × List (Int × Int)) er,lC v s=.error er->er=20:=by
  intro v s er h;unfold lC at h;split at h;.cases h
  .grind
 have O: ∀(f:List Int × List (Int × Int)->Except Int (List Int × List (Int × Int))) (_: ∀s er,f s=.error er->er=20) (n:Nat) (s) (er:Int),jg f n s=.error er->er=20:=by
  intro f M n;induction n with
  |zero=>intro s er h;rw[jg]at h;cases h
  |succ n H=>intro s er h;rw[jg]at h;cases j:f s with|error e=>grind|ok J=>grind
 have N: ∀(q:Pt) (last:Int) (s) (er:Int),mV lC q last s=.error er->er=20:=by
  intro q;induction q with
  |nil=>intro last s er h;rw[mV]at h;cases h
  |pl v r H=>intro last s er h;rw[mV]at h;cases j:lC v s with|error e=>grind|ok Z=>grind
  |grp k l r V Y=>intro last s er h;rw[wL]at h;cases j:jg (mV lC l 0) (qC k last) s with|error e=>grind|ok J=>grind
 unfold kG at h;grind
theorem ZM(p:Pk)(A:Option δ)(n c:Nat)(w:ω)(er:Int)(J: ∀W,Tab W->fE aq7 W A p.v->Γ aj 207 #[.agg #[p.id,.slice A n c]] W (oN W (.error er)))(M:Tab w)(O:fE aq7 w A p.v)(Y:er≠0):Γ aj 161 #[.agg #[p.id,.slice A n c]] w (vG w (.error er)):=by
 have j:Own w _ [_]:=Own.jD w 198 #[p.id,.slice A n c];have V:=j.b0.cell;have H:=J _ (M.below j.below) (O.below j.below);unfold oN at H;unfold vG;have Z:(er != 0)=true:=by grind
 obtain⟨id,N⟩:=fD p.id;rw[<-N]at H V j |-;clear N J M O Y;go_enter func161,ntmps161;go_wp2_with((with_reducible refine H.mono ?_);rintro e w4⟨U,v,rfl⟩);go_ret2;exact⟨j.below.trans (U.mono j.below.size),rfl⟩
theorem YE{cur:Array Θ}(h:cur[i]? =some v):cur.setIfInBounds i v=cur:=by grind
theorem ZN{g:Nat}(h:fE iU w g l)(j:l[i]? =some x):w.cell? ⟨g,i*2+1,none⟩=some x.2:=by obtain⟨b,off,e,H,hc⟩:=h.get j;injection e with e;injection e with e1 e2;subst e1;subst e2;have:=hc 1 x.2 rfl;rwa [aJ]at this
def aq1.acW{base c:Nat}(H:aq1 iU 245 w base A c l)(J:l[i]? =some x): ∃g cur,A=some ⟨g,0,none⟩/\fK w g 245 cur/\base<=g/\ ∀n:Int,aq1 iU 245 (w.setCell ⟨g,i*2,none⟩ n) base g c (vS l i n):=by
 have hi:=(aX.1 J).1;obtain⟨g,cur,rfl,M,j,U,V,Y,Z⟩:=H.blk (H.some_ (by omega));refine⟨g,cur,rfl,j,M,λn=>?_⟩;rw[PY J];refine aq1.put H hi (n,x.2) j ?_;have O:=(ZN H.rows J);have e:arh cur (i*iU.k) (iU.enc (n,x.2))=cur.setIfInBounds (i*2) n:=by
  show(cur.setIfInBounds (i*2) n).setIfInBounds (i*2+1) x.2=_;have N:cur[i*2+1]? =some x.2:=by rw[<-j.cell];exact O
  refine YE ?_;rw[dR (by omega)];exact N
 rw[e];exact j.iV _ _
theorem acX(p:Pk)(A:Option δ)(n c:Nat)(w:ω)(l:List (Int × Int))(hl:kG p=.ok l)(h0: ∀W,Tab W->fE aq7 W A p.v->Γ aj 207 #[.agg #[p.id,.slice A n c]] W (oN W (.ok l)))(hT:Tab w)(hp:fE aq7 w A p.v)(a9:p.v.length<=60000):Γ aj 161 #[.agg #[p.id,.slice A n c]] w (vG w (if 8184<arf l then .error 2 else .ok (vS l (if Yv p.id=true then 1 else 2) (arf l)))):=by
 have M:Own w _ [_]:=Own.jD w 198 #[p.id,.slice A n c];have a7:=M.b0.cell;have O:=h0 _ (hT.below M.below) (hp.below M.below);obtain⟨aR,ag⟩:=EX hl;have a8:=JV hl a9;obtain⟨at_,Z⟩: ∃a,a=if Yv p.id=true then 1 else 2:=⟨_,rfl⟩
 rw[<-Z]at ag |-;have ac:=λW=>ajh p.id W;unfold oN at O;obtain⟨up,hu⟩:=fD (Yv p.id);rw[<-hu]at ac Z;obtain⟨id,aD⟩:=fD p.id;rw[<-aD]at O a7 M ac |-;obtain⟨m,hm⟩:=fD l.length;rw[<-hm]at ag a8;have V:=ah hm;have HW:Hid (∀k,0<=arf (l.take k)/\arf (l.take k)<=32*(m:Int)):=ah (by rw[hm];exact xR aR);simp only at O;rw[<-hm]at O;obtain⟨R,hR⟩: ∃R:Except Int (List (Int × Int)),R=if 8184<arf l then .error 2 else .ok (vS l at_ (arf l)):=⟨_,rfl⟩
 rw[<-hR];have HR:=ah hR;have al:=ah Z;clear aD h0 hT hp hu hl aR hm hR Z;go_enter func161,ntmps161;go_wp2_with((with_reducible refine O.mono ?_);rintro e w4⟨a6,A4,c4,rfl,Gq⟩);have aq:=M.grow a6;go_loopw [6,20] (λs i wr=> ∃k:Nat,i=.int .i64 k/\k<=m/\s=.int .i64 (arf (l.take k))/\Own w wr [(w,198,#[id,.slice A n c])]/\w4 wr) (λ_ i _=>m-(intOf i).toNat);case atStart=>exact⟨0,rfl,aV _,rfl,aq,aH _ _⟩
 case round=>
  obtain⟨k,rfl,hk,rfl,ad,N⟩:=hrel;have ae:=HW.out k;by_cases aE:k<m;.obtain⟨x,J⟩:=aq5 V.out.symm aE;have U:=Gq.below N;obtain⟨g,off,aa,hg,hc⟩:=U.rows.get J;have a0:=hc 0 _ rfl;have a5:=hc 1 _ rfl;simp only[iU,bI]at a0 a5;subst aa;have aM:=arO J;have au:=HW.out (k+1);rw[aM]at au;have a4:=ah aM;have bc:=(fK.new wr 245 #[x.1,x.2]).cell;obtain⟨sk,aL⟩:=fD (arf (l.take k));rw[<-aL]at ae au |-;have a1:=ah aL;go_wp2_with fail;go_roundw;(case rel=>exact⟨k+1,by go_num,by omega,by rw[a4.out,<-a1.out],ad.grow jm,N.trans (gY.alloc N.size _)⟩);case measure=>simp[intOf];omega
  ·(obtain rfl:k=m:=by omega);have ar:l.take k=l:=aY (by rw[V.out];omega);rw[ar]at ae |-;obtain⟨j,ai⟩:=fD (arf l);rw[<-ai]at ae |-;have an:=ah ai;have U:=Gq.below N;have bb:=ad.b0.cell;have af:w wr:=ad.below;clear ai ar aE Gq aq;by_cases H:8184<j;·(have d8:decide (8184<j)=true:=by simpa using H);clear H;have Y:Hid (R=.error 2):=ah (by rw[HR.out,<-an.out,Υ (by simpa using d8)]);go_wp2_with fail;go_ret2;rw[Y.out];exact⟨af,rfl⟩
   ·(have d8:decide (8184<j)=false:=by simpa using H);replace H:=Int.not_lt.1 H;have Y:Hid (R=.ok (vS l at_ j)):=ah (by rw[HR.out,<-an.out,Ξ (Int.not_lt.2 H)]);have am:Hid ((vS l at_ j).length=k):=ah (by rw[V.out];simp[vS]);obtain⟨x,J⟩:=aq5 V.out.symm ag;have ba:=U.rows.get J;obtain⟨g,cur,rfl,ax,aa,az⟩:=U.acW J;obtain⟨g',bf,e',bd,av⟩:=ba;injection e' with e';injection e' with e1 e2;subst e1;subst e2;have a0:=av 0 _ rfl;simp only[iU,bI,aJ]at a0;have aw:=ax.frozen (at_*2);(have ap:w.heap.size<=g:=by have:=aa;simp at this;omega);clear av J U aa ax N;cases up with
    |false=>obtain rfl:at_=2:=al.out;simp only[Nat.reduceMul]at a0 aw;go_wp2_with((with_reducible refine(ac _).mono ?_);rintro e w5⟨rfl,ak⟩;obtain rfl:=ak.symm);go_ret2;rw[Y.out];exact⟨af.setCell (p:=⟨g,4,none⟩) ap _,_,_,by rw[am.out];rfl,(az j).mono (by simp)⟩
    |true=>obtain rfl:at_=1:=al.out;simp only[Nat.one_mul]at a0 aw;go_wp2_with((with_reducible refine(ac _).mono ?_);rintro e w5⟨rfl,ak⟩;obtain rfl:=ak.symm);go_ret2;rw[Y.out];exact⟨af.setCell (p:=⟨g,2,none⟩) ap _,_,_,by rw[am.out];rfl,(az j).mono (by simp)⟩
theorem PZ(p:Pk)(A:Option δ)(n c:Nat)(w:ω)(H:Tab w)(J:fE aq7 w A p.v)(hn:p.v.length=n)(O:n<=60000)(hc:n<=c/\c<=μ):Γ aj 161 #[.agg #[p.id,.slice A n c]] w (vG w (mO p)):=by have j:=λW (M:Tab W) (N:fE aq7 W A p.v)=>acQ p A n c W M N hn O hc;unfold mO;cases hi:kG p with|error er=>rw[hi]at j;exact ZM p A n c w er j H J (by rcases NZ hi with rfl |rfl <;> decide)|ok l=>rw[hi]at j;exact acX p A n c w l hi j H J (by omega)
def vV (p:Pk):List (Int × Int):=match mO p with | .ok l=>l | .error _=> []
def CY (p:Pk):Int:=arf (vV p)
theorem JW(l:List (Int × Int))(i:Nat)(n:Int):arf (vS l i n)=arf l:=by unfold vS arf;congr 1;induction l generalizing i with|nil=>simp|cons x l j=>grind
theorem EY(p:Pk)(hn:p.v.length<=60000):AO (vV p)/\(vV p).length<=65000:=by
 unfold vV mO;cases hi:kG p with
 |error er=>exact⟨λx j=>(by cases j),aV _⟩
 |ok l=>
  obtain⟨J,M⟩:=EX hi;have hm:=JV hi hn;simp only;by_cases H:8184<arf l;.rw[Υ H];exact⟨λx j=>(by cases j),aV _⟩
  .rw[Ξ H];refine⟨?_,by simp[vS];exact hm⟩;obtain⟨x,j⟩:=aq5 rfl M;rw[PY j];intro y N;rcases List.mem_or_eq_of_mem_set N with h |h;(.exact J y h);.subst h;exact J x (bP j)
theorem aji(p:Pk)(A:Option δ)(n c:Nat)(w:ω)(hT:Tab w)(hp:fE aq7 w A p.v)(hn:p.v.length=n)(ai:n<=60000)(hc:n<=c/\c<=μ):Γ aj 220 #[.agg #[.int .i64 p.id,.slice A n c]] w λe w'=>e=.returned (CY p:Int)/\w w':=by
 have j:Own w _ [_]:=Own.jD w 198 #[.int .i64 p.id,.slice A n c];have aq:=j.b0.cell;obtain⟨V,ag⟩:=EY p (by omega);have M:Γ aj 161 #[.agg #[.int .i64 p.id,.slice A n c]] (w.alloc (.cells #[.int .i64 p.id,.slice A n c] 198)) λe w'=>Below (w.heap.size+1) (w.alloc (.cells #[.int .i64 p.id,.slice A n c] 198)) w'/\ ∃A c er,e=.returned (.tuple #[.slice A (vV p).length c,.int .i64 er])/\fE iU w' A (vV p):=by refine(PZ p A n c _ (hT.below j.below) (hp.below j.below) hn ai hc).mono ?_;rintro e w'⟨h1,H⟩;refine⟨by simp_all,?_⟩;unfold vV;cases hi:mO p with|error er=>rw[hi]at H;exact⟨none,0,er,H,fE.nil _ _⟩|ok l=>rw[hi]at H;obtain⟨A',c',h3,h4⟩:=H;exact⟨A',c',0,h3,h4.rows⟩
 unfold CY;obtain⟨id,ae⟩:=fD p.id;rw[<-ae]at M aq j |-;obtain⟨l,hl⟩:=fD (vV p);rw[<-hl]at M V ag |-;obtain⟨m,hm⟩:=fD l.length;rw[<-hm]at M ag;have HM:=ah hm;have HW:Hid (∀k,0<=arf (l.take k)/\arf (l.take k)<=32*(m:Int)):=ah (by rw[hm];exact xR V);clear ae hT hp hl V hm hn ai hc;go_enter func220,ntmps220;go_wp2_with((with_reducible refine M.mono ?_);rintro e Z⟨ap,A4,c4,er,rfl,N⟩);have aa:w Z:=j.below.trans (ap.mono (by omega));go_loopw [5,15] (λs i wr=> ∃k:Nat,i=.int .i64 k/\k<=m/\s=.int .i64 (arf (l.take k))/\Z wr) (λ_ i _=>m-(intOf i).toNat);case atStart=>exact⟨0,rfl,aV _,rfl,aH _ _⟩
 case round=>
  obtain⟨k,rfl,hk,rfl,J⟩:=hrel;have ac:=HW.out k;by_cases af:k<m;.obtain⟨x,Y⟩:=aq5 HM.out.symm af;have ak:=N.below J;obtain⟨g,off,ar,hg,hc⟩:=ak.get Y;have a0:=hc 0 _ rfl;have a1:=hc 1 _ rfl;simp only[iU,bI]at a0 a1;subst ar;have U:=arO Y;have ad:=HW.out (k+1);rw[U]at ad;have am:=ah U;have au:=(fK.new wr 245 #[.int .i64 x.1,.int .i64 x.2]).cell;obtain⟨sk,O⟩:=fD (arf (l.take k));rw[<-O]at ac ad |-;have al:=ah O;clear U O hc Y ak N;go_wp2_with fail;go_roundw;(case rel=>exact⟨k+1,by go_num,by omega,by rw[am.out,<-al.out],J.trans (gY.alloc J.size _)⟩);case measure=>simp[intOf];omega
  ·(obtain rfl:k=m:=by omega);have an:l.take k=l:=aY (by rw[HM.out];simp);rw[an]at ac |-;clear af N;go_wp2_with fail;go_ret;exact⟨rfl,aa.trans (J.mono aa.size)⟩
def DU (bs:List UInt8) (at_:Nat):Except Int (Pk × Nat):=match zK (bs.drop (at_ / 8)) 5 ⟨at_ % 8,[],0⟩ with
 | .error e=> .error e
 | .ok (id,s)=>match lu id with
   |none=> .error 50
   |some q=>match mV (zK (bs.drop (at_ / 8))) q 0 {s with v:= []} with
     | .error e=> .error e
     | .ok s'=>if s'.size≠((s'.at_-at_ % 8:Nat):Int) then .error 20 else if 8184<s'.at_-at_ % 8 then .error 2 else .ok (⟨id,s'.v⟩,at_+(s'.at_-at_ % 8))
def Pt.calm:Pt->Bool
 | .nil=>true
 | .pl v r=>r.calm&&(decide (v≠7) || match r with | .grp _ _ _=>false |_=>true)
 | .grp _ l r=>l.calm&&r.calm
def Pt.first:Pt->Bool
 | .grp _ _ _=>false
 |_=>true
def EZ(l m:List (Int × Int)):arf (l++m)=arf l+arf m:=by simp[arf]
theorem P5{v:Int}{s s':Up}(h:zK bs v s=.ok (n,s')): ∃K:List Int,s'.v=s.v++K/\s'.at_=s.at_+(fQ v).toNat/\1<=(fQ v).toNat/\K.length<=1/\s'.at_<=8*bs.length/\ ∀R L,lC v (K++R,L)=.ok (if v=7 then 0 else n,R,L++ [(if v=7 then 0 else n,fQ v)]):=by
 unfold zK at h;by_cases N:uY bs.length s.at_ (fQ v)=0
 .rw[Ξ (by omega)]at h;obtain⟨M,O⟩:=PU N;have U:s.at_+(fQ v).toNat<=8*bs.length:=by unfold uY at N;omega
  cases hm:uX v (EM bs s.at_ (fQ v)) with|false=>grind|true=>rw[hm]at h;simp only[Bool.true_eq_false,if_false]at h;injection h with h;injection h with J H;by_cases j:v=7;(.rw[Υ j]at H;subst H;refine⟨[],by simp,M,O,by simp,by grind,λR L=>?_⟩;unfold lC;rw[Υ j,Υ j];rfl);.rw[Ξ j]at H;subst H;refine⟨[n],by simp[J],M,O,by simp,by grind,λR L=>?_⟩;unfold lC;rw[Ξ j,Ξ j];simp only[bQ,aZ];rw[<-J,Υ hm]
 grind
def Sim (N:Nat) (s s':Up) (f:List Int × List (Int × Int)->Except Int (List Int × List (Int × Int))):Prop:= ∃(K:List Int) (M:List (Int × Int)),s'.v=s.v++K/\s.at_<=s'.at_/\arf M=((s'.at_-s.at_:Nat):Int)/\K.length<=s'.at_-s.at_/\(s.at_<=8*N->s'.at_<=8*N)/\ ∀R L,f (K++R,L)=.ok (R,L++M)
theorem N7{l:Pt}(h: ∀s s',mV (zK bs) l 0 s=.ok s'->Sim bs.length s s' (mV lC l 0)): ∀(n:Nat) (s s':Up),jg (mV (zK bs) l 0) n s=.ok s'->Sim bs.length s s' (jg (mV lC l 0) n)
 |0,s,s',e=>by rw[jg]at e;cases e;exact⟨[],[],by simp,aW _,by simp[arf],by simp,id,λR L=>by rw[jg];simp⟩
 |n+1,s,s',e=>by rw[jg]at e;cases j:mV (zK bs) l 0 s with|error x=>grind|ok V=>rw[j]at e;obtain⟨H,M,Y,a2,a3,Z,U,O⟩:=h _ _ j;obtain⟨J,N,b1,b2,b3,b5,b6,b4⟩:=N7 h n V s' e;refine⟨H++J,M++N,by grind,aG a2 b2,by rw[EZ,a3,b3];omega,by grind,λh=>b6 (U h),λR L=>?_⟩;rw[jg,List.append_assoc,O];simp only;rw[b4,List.append_assoc]
theorem JX: ∀(p:Pt) (last j:Int) (s s':Up),p.calm=true->(last=j\/p.first=true)->mV (zK bs) p last s=.ok s'->Sim bs.length s s' (mV lC p j)
 | .nil,last,j,s,s',_,_,e=>by rw[mV]at e;cases e;exact⟨[],[],by simp,aW _,by simp[arf],by simp,id,λR L=>by rw[mV];simp⟩
 | .pl v r,last,j,s,s',hc,Y,e=>by rw[mV]at e;cases H:zK bs v s with|error x=>grind|ok ns=>obtain⟨n,V⟩:=ns;rw[H]at e;simp only[Pt.calm,bM,Bool.or_eq_true,decide_eq_true_eq]at hc;obtain⟨M,a1,a2,a3,a5,U,O⟩:=P5 H;obtain⟨N,J,b1,b2,b3,b5,b6,b4⟩:=JX r n (if v=7 then 0 else n) V s' hc.1 (by by_cases h7:v=7;(.rcases hc.2 with h |h;omega;.right;assumption);omega) e;refine⟨M++N,(if v=7 then 0 else n,fQ v)::J,by grind,by omega,?_,by grind,λh=>b6 U,λR L=>?_⟩;(.have hw:=lq v;show arf ([_]++J)=_;rw[EZ,b3];simp only[arf,List.map_cons,List.map_nil,List.sum_cons,List.sum_nil];omega);.rw[mV,List.append_assoc,O];simp only;rw[b4];simp
 | .grp k l r,last,j,s,s',hc,Y,e=>by
  rw[wL]at e;simp only[Pt.calm,bM]at hc;obtain rfl:last=j:=by rcases Y with h |h;(.exact h);.cases h
  cases H:jg (mV (zK bs) l 0) (qC k last) s with|error x=>grind|ok V=>rw[H]at e;obtain⟨M,Z,a1,a2,a3,a5,U,O⟩:=N7 (λa b h=>JX l 0 0 a b hc.1 (.inl rfl) h) _ _ _ H;obtain⟨N,J,b1,b2,b3,b5,b6,b4⟩:=JX r last last V s' hc.2 (.inl rfl) e;refine⟨M++N,Z++J,by grind,aG a2 b2,by rw[EZ,a3,b3];omega,by grind,λh=>b6 (U h),λR L=>?_⟩;rw[wL,List.append_assoc,O];simp only;rw[b4,List.append_assoc]
def TB: ∀id:Fin 81,(match lu (id.val:Int) with |none=>true |some q=>q.calm&&q.first)=true:=by decide
theorem JY{q:Pt}(h:lu id=some q):q.calm=true/\q.first=true:=by obtain⟨j,H⟩:=yV h;have:=TB ⟨id.toNat,by omega⟩;grind
theorem N8{at_:Nat}{p:Pk}{e:Nat}(h:DU bs at_=.ok (p,e))(ha:at_<=8*bs.length):CY p=((e-at_:Nat):Int)/\at_+8<=e/\e<=8*bs.length/\(∃l,mO p=.ok l)/\p.v.length<=8184:=by
 unfold DU at h;have hd:(bs.drop (at_ / 8)).length=bs.length-at_ / 8:=by simp
 cases M:zK (bs.drop (at_ / 8)) 5 ⟨at_ % 8,[],0⟩ with
 |error x=>grind
 |ok Z=>
  obtain⟨id,s⟩:=Z;rw[M]at h;simp only at h;obtain⟨K1,a1,a2,a3,a5,O,a4⟩:=P5 M;have N:fQ 5=8:=by decide
  rw[N]at a2;cases H:lu id with|none=>grind|some q=>rw[H]at h;simp only at h;cases J:mV (zK (bs.drop (at_ / 8))) q 0 {s with v:= []} with|error x=>grind|ok s'=>rw[J]at h;simp only at h;obtain⟨hc,hf⟩:=JY H;obtain⟨K2,j,b1,b2,b3,b5,b6,b4⟩:=JX q 0 0 {s with v:= []} s' hc (.inl rfl) J;simp only at b1 b2 b3 b5 b6;split at h;(.cases h);.split at h;(.cases h);.rename_i h1 h2;injection h with h;injection h with V he;subst V;have h6:=b6 O;(have U:kG ⟨id,s'.v⟩=.ok ([(id,fQ 5)]++j):=by unfold kG;simp only[H];have:=b4 [] [(id,fQ 5)];rw[List.append_nil]at this;rw[b1,aZ,this];simp);(have Y:arf ([(id,fQ 5)]++j)=((s'.at_-at_ % 8:Nat):Int):=by rw[EZ,b3,N];simp only[arf,List.map_cons,List.map_nil,List.sum_cons,List.sum_nil];simp only at a2;omega);(have hi:mO ⟨id,s'.v⟩=.ok (vS ([(id,fQ 5)]++j) (if Yv id=true then 1 else 2) (arf ([(id,fQ 5)]++j))):=by unfold mO;rw[U];simp only;rw[Ξ (by omega)]);simp only at a2;refine⟨?_,by omega,by omega,⟨_,hi⟩,?_⟩;(.unfold CY vV;rw[hi];simp only;rw[JW,Y];omega);.show s'.v.length<=8184;rw[b1,aZ];omega
section
def ajj(A:Option δ)(n c:Nat)(w:ω)(hc:n<=c):Γ aj 219 #[.slice A n c] w λe w'=>e=.returned (.slice A n n)/\w'=w:=by
 have j:(Instr.slice 22 (.slice A n c) none (some (n:Int)) (some (n:Int))).run aj w=.ok (.slice A n n) w:=by rw[run_slice_hm w 22 A n c PO .i64 .i64 n n (by omega) (by omega) (by omega),Gn];have:=BO A n;unfold qQ at this;simp[Result.andThen,sliced,this]
 go_enter func219,ntmps219;go_wp2_with fail;go_ret;simp
theorem ajk(be bp H:Nat)(w:ω)(J:fK w be 51 #[zI]):CallsD aj 213 #[.pointer be,.pointer bp,.pointer H] .returning w λe j w'=>j=.returning/\e=.returned (.tuple #[])/\w'=w:=by have hc:=J.cell;refine CallsD.mono (R:=λe j w'=>j=.returning/\(λ(e:ε) (w':ω)=>e=.returned (.tuple #[])/\w'=w) e w') ?_ (λ_ _ _ h=>h);go_enter_d func213,ntmps213;go_wp2_with fail;go_end0;simp
theorem af5(be bp j:Nat)(er id x:Int)(v:Θ)(w:ω)(Z:er≠0)(U:fK w be 51 #[er])(J:fK w bp 198 #[id,v])(hn:fK w j 3 #[x])(H:bp≠j)(hv:v.oneCell'=true):CallsD aj 213 #[.pointer be,.pointer bp,.pointer j] .returning w λe M w'=>M=.returning/\e=.returned (.tuple #[])/\fK w' bp 198 gH/\fK w' j 3 #[zI]/\(∀k,k≠bp->k≠j->w'.heap[k]? =w.heap[k]?)/\w'.heap.size=w.heap.size/\w'.os=w.os/\w'.tape=w.tape/\w'.output=w.output:=by
 have hc:=U.cell;have V:(er != 0)=true:=by grind
 have ac:=J.cell;have ad:=J.frozen;have Y:=hn.cell;have aa:=hn.frozen;refine CallsD.mono (R:=λe M w'=>M=.returning/\(λ(e:ε) (w':ω)=>e=.returned (.tuple #[])/\fK w' bp 198 gH/\fK w' j 3 #[zI]/\(∀k,k≠bp->k≠j->w'.heap[k]? =w.heap[k]?)/\w'.heap.size=w.heap.size/\w'.os=w.os/\w'.tape=w.tape/\w'.output=w.output) e w') ?_ (λ_ _ _ h=>h);go_enter_d func213,ntmps213;go_wp2_with fail;go_end0;have k1:=((J.iV 0 zI).iV 1 nS).far (p:=⟨j,0,none⟩) H zI;have k2:=((hn.far (p:=⟨bp,0,none⟩) H.symm zI).far (p:=⟨bp,1,none⟩) H.symm nS).iV 0 zI;refine⟨rfl,k1,k2,λk N O=>?_,by simp,rfl,rfl,rfl⟩;exact(aN _ ⟨j,0,none⟩ _ k O).trans ((aN _ ⟨bp,1,none⟩ _ k N).trans (aN w ⟨bp,0,none⟩ _ k N))
theorem JZ{w j:ω}{pr br:Nat}{bs:List UInt8}{r:Nat}{Ab:Option δ}{cb:Nat}{fc:Θ}(U:Tab w)(O:Own w j [(w,198,gH),(w.heap.size+1,3,#[zI]),(w.heap.size+1+1,51,#[zI])])(J:fK j br 257 #[.pointer pr])(M:rY j pr bs r Ab cb)(af:w.heap.size+3<=pr)(ad:w.heap.size+3<=br)(aa:br≠pr)(ac: ∀a,Ab=some a->w.heap.size+3<=a.block)(hl:bs.length<=8000)(hr:r<=8*bs.length):Me (j.heap.size+2) br j w pr bs Ab cb 0 none 0 ⟨r,[],0⟩ (λk=>k=pr\/k=j.heap.size\/k=w.heap.size) ((j.alloc (.cells #[zI] 3)).alloc (.cells #[fc] 316)):=by
 have Y:0<w.heap.size:=by obtain⟨b,off,e,H,_⟩:=U (by decide);omega
 have H:j ((j.alloc (.cells #[zI] 3)).alloc (.cells #[fc] 316)):=jm.alloc (by simp) _;have N:=O.b0;have ae:=N.lt;have V:=fK.new j 3 #[zI];have Z:bs≠ []-> ∀a,Ab=some a->a.block<j.heap.size+2/\a.block≠j.heap.size/\a.block≠w.heap.size:=λhx a e=>by obtain⟨b,off,e2,h2,_⟩:=M.bytes.row (by rw[aq8];grind);grind
 exact {foot:=λk=>by simp,rp:=J.below H J.lt,rd:=M.below H,zb:=V.below jm V.lt,pb:=N.below H N.lt,own:=aq1.nil _ _,lt:=⟨by have:=J.lt;omega,by omega,by omega,by have:=M.blk.lt;omega⟩,ne:=⟨aa,by have:=J.lt;omega,by omega,by have:=M.blk.lt;omega,by omega,by omega⟩,pos:=⟨by omega,by omega,Y,by omega⟩,ab:=Z,size:=by simp,tab:=(U.below O.below).below H,len:=hl,inn:=hr,vl:=aV _}
def xU (w:ω) (q:Except Int (Pk × Nat)) (e:ε) (w':ω):Prop:=w w'/\match q with
 | .ok (p,en)=> ∃A,e=.returned (.tuple #[.agg #[.int .i64 p.id,.slice A p.v.length p.v.length],.int .i64 en,.int .i64 0])/\fE aq7 w' A p.v/\(∀a,A=some a->w.heap.size<=a.block)
 | .error er=>e=.returned (.tuple #[.agg gH,.int .i64 0,.int .i64 er])
theorem E5(tmps:Array Θ)(w:ω)(bp j be:Nat)(id H er:Int)(v:Θ)(ha:tmps.getD 4 υ=.pointer bp)(hb:tmps.getD 5 υ=.pointer j)(hc:tmps.getD 6 υ=.pointer be)(J:fK w bp 198 #[id,v])(hn:fK w j 3 #[H])(he:fK w be 51 #[er]):(results f169 tmps).run aj w=.ok (.tuple #[.agg #[id,v],H,er]) w:=by
 have V:tmps[4]?.getD υ=.pointer bp:=by simp_all
 have Y:tmps[5]?.getD υ=.pointer j:=by simp_all
 have Z:tmps[6]?.getD υ=.pointer be:=by simp_all
 have M:=J.cell 0;have N:=J.cell 1;have O:=hn.cell 0;have U:=he.cell 0;simp[results,results169,V,Y,Z,asAddr,go_sem,M,N,O,U]
section
variable {tmps:Array Θ} {w w8:ω} {R:Except Int (Pk × Nat)}
def TD(er id x:Int)(v:Θ)(V:er≠0)(M:R=.error er)(N:tmps.getD 4 υ=.pointer w)(O:tmps.getD 5 υ=.pointer (some ⟨w.heap.size+1,0,none⟩))(hc:tmps.getD 6 υ=.pointer (some ⟨w.heap.size+1+1,0,none⟩))(Y:fK w8 w 198 #[id,v])(Z:v.oneCell'=true)(hn:fK w8 (w.heap.size+1) 3 #[x])(j:fK w8 (w.heap.size+1+1) 51 #[er])(U:w w8):Leaves aj f169 tmps (xU w R) [{target:=.fn (.func 213) #[.pointer (some ⟨w.heap.size+1+1,0,none⟩),.pointer w,.pointer (some ⟨w.heap.size+1,0,none⟩)],args:= #[]}] .returning w8:=by refine leaves_cons (f:=213) (args:= #[.pointer (some ⟨w.heap.size+1+1,0,none⟩),.pointer w,.pointer (some ⟨w.heap.size+1,0,none⟩)]) (by simp) (by simp[go_sem]) ?_;refine(af5 _ _ _ er id x v w8 V j Y hn (by omega) Z).mono ?_;rintro e u' J⟨rfl,rfl,kp,kn,H,ks,ko,kt,ku⟩;have ke:fK J (w.heap.size+1+1) 51 #[er]:=(H _ (by omega) (by omega)).trans j;refine⟨_,E5 tmps J _ _ _ 0 0 er _ N O hc kp kn ke,?_⟩;rw[M];exact⟨U.trans ⟨ko,kt,ku,bZ ks.symm,λk hk=>H k (by omega) (by omega)⟩,rfl⟩
theorem J3(er id x y:Int)(v:Θ)(V:er≠0)(N:R=.error er)(O:tmps.getD 4 υ=.pointer w)(U:tmps.getD 5 υ=.pointer (some ⟨w.heap.size+1,0,none⟩))(hc:tmps.getD 6 υ=.pointer (some ⟨w.heap.size+1+1,0,none⟩))(M:fK w8 w 198 #[id,v])(Y:v.oneCell'=true)(hn:fK w8 (w.heap.size+1) 3 #[x])(H:fK w8 (w.heap.size+1+1) 51 #[y])(J:w w8):Leaves aj f169 tmps (xU w R) [{target:=.fn (.func 214) #[],args:= #[.pointer (some ⟨w.heap.size+1+1,0,none⟩)]},{target:=.fn (.func 213) #[.pointer (some ⟨w.heap.size+1+1,0,none⟩),.pointer w,.pointer (some ⟨w.heap.size+1,0,none⟩)],args:= #[]}] (.panicking [{v:=.iface 314 (.agg #[er]),recovered:=false}]) w8:=by refine leaves_cons (f:=214) (args:= #[.pointer (some ⟨w.heap.size+1+1,0,none⟩)]) (by simp) (by simp[go_sem]) ?_;refine(vg (w.heap.size+1+1) er y [] w8 H).mono ?_;rintro e Z aa⟨rfl,rfl,rfl⟩;have j:=(aH w8 w8).alloc ig (.cells #[er] 314);exact TD er id x v V N O U hc ((M.below j M.lt).far (p:=⟨w.heap.size+1+1,0,none⟩) (by grind) _) Y ((hn.below j hn.lt).far (p:=⟨w.heap.size+1+1,0,none⟩) (by simp) _) ((H.below j H.lt).iV 0 _) ((J.alloc J.size _).setCell (p:=⟨w.heap.size+1+1,0,none⟩) (by grind) _)
def J4(er id x:Int)(v:Θ)(O:er≠0)(j:R=.error er)(H:tmps.getD 4 υ=.pointer w)(J:tmps.getD 5 υ=.pointer (some ⟨w.heap.size+1,0,none⟩))(hc:tmps.getD 6 υ=.pointer (some ⟨w.heap.size+1+1,0,none⟩))(U:fK w8 w 198 #[id,v])(V:v.oneCell'=true)(hn:fK w8 (w.heap.size+1) 3 #[x])(N:fK w8 (w.heap.size+1+1) 51 #[er])(M:w w8):Leaves aj f169 tmps (xU w R) [{target:=.fn (.func 214) #[],args:= #[.pointer (some ⟨w.heap.size+1+1,0,none⟩)]},{target:=.fn (.func 213) #[.pointer (some ⟨w.heap.size+1+1,0,none⟩),.pointer w,.pointer (some ⟨w.heap.size+1,0,none⟩)],args:= #[]}] .returning w8:=by refine leaves_cons (f:=214) (args:= #[.pointer (some ⟨w.heap.size+1+1,0,none⟩)]) (by simp) (by simp[go_sem]) ?_;refine(Az (w.heap.size+1+1) w8).mono ?_;rintro e Y Z⟨rfl,rfl,rfl⟩;exact TD er id x v O j H J hc U V hn N M
theorem ZO(p:Pk)(j:Nat)(A:Option δ)(V:R=.ok (p,j))(M:tmps.getD 4 υ=.pointer w)(N:tmps.getD 5 υ=.pointer (some ⟨w.heap.size+1,0,none⟩))(hc:tmps.getD 6 υ=.pointer (some ⟨w.heap.size+1+1,0,none⟩))(O:fK w8 w 198 #[p.id,.slice A p.v.length p.v.length])(hn:fK w8 (w.heap.size+1) 3 #[j])(H:fK w8 (w.heap.size+1+1) 51 #[zI])(Y:w w8)(Z:fE aq7 w8 A p.v)(hA: ∀a,A=some a->w.heap.size<=a.block):Leaves aj f169 tmps (xU w R) [{target:=.fn (.func 214) #[],args:= #[.pointer (some ⟨w.heap.size+1+1,0,none⟩)]},{target:=.fn (.func 213) #[.pointer (some ⟨w.heap.size+1+1,0,none⟩),.pointer w,.pointer (some ⟨w.heap.size+1,0,none⟩)],args:= #[]}] .returning w8:=by refine leaves_cons (f:=214) (args:= #[.pointer (some ⟨w.heap.size+1+1,0,none⟩)]) (by simp) (by simp[go_sem]) ?_;refine(Az (w.heap.size+1+1) w8).mono ?_;rintro e U J⟨rfl,rfl,rfl⟩;simp only[settle];refine leaves_cons (f:=213) (args:= #[.pointer (some ⟨w.heap.size+1+1,0,none⟩),.pointer w,.pointer (some ⟨w.heap.size+1,0,none⟩)]) (by simp) (by simp[go_sem]) ?_;refine(ajk _ _ _ J H).mono ?_;rintro e U J⟨rfl,rfl,rfl⟩;refine⟨_,E5 tmps _ _ _ _ p.id j 0 _ M N hc O hn H,?_⟩;constructor<;>grind
end
end
end Go.Proofs.YthnmgjngniciaaaGreatDoor
