/- Parts. -/
import Derived.Test.YthnmgjngniciaaaGreatDoorM12
import Derived.Test.YthnmgjngniciaaaGreatDoorM11
import Derived.Test.YthnmgjngniciaaaGreatDoorM09
import Derived.Maps.OwnSet
import Derived.Carry
import Derived.MapKept
import Derived.Test.YthnmgjngniciaaaGreatDoorM03
import Derived.Deep.Cut
set_option linter.all false
set_option maxHeartbeats 16000000
set_option maxRecDepth 8000
open Array renaming getElem?_eq_none→dI,getElem?_setIfInBounds_ne→dR
open Bool renaming and_eq_true→bM,false_eq_true→bU
open List renaming drop_of_length_le→dJ,getElem?_eq_some_iff→aX,length_cons→bK,length_nil→dU,map→bV,map_append→eX,mem_append→dK,mem_cons→bJ,mem_of_getElem?→bP,mem_singleton→dN,not_mem_nil→dH,setIfInBounds_toArray→ay,set_cons_succ→aB,set_cons_zero→aA,take_of_length_le→aY
open Nat renaming add_zero→bI,le_of_eq→bZ,le_refl→aW,le_trans→aG,lt_of_lt_of_le→aU,lt_or_ge→eu,reduceAdd→aT,zero_add→aJ,zero_le→aV
open Option.some renaming injEq→aO
namespace Go.Proofs.YthnmgjngniciaaaGreatDoor
open Go.RowKit Go.Shelf Tryz
open Act renaming put→aP
open Addr.mk renaming injEq→cZ
open Below renaming heap_setCell→aN,refl→aH
open Instr renaming findNow→dY
open Lib renaming hid→ah
open Region renaming binds→aC
open Result renaming andThen_ok→dO
open Tryz renaming prog→aj,underlying3→bG
open World renaming setCell→dD
variable{id:Int}{B g:Nat}{w w':World}
def Pt.DT:Pt->Nat
 | .nil=>0
 | .pl _ r=>r.DT+1
 | .grp _ _ r=>r.DT
def Pt.wfB:Pt->Bool
 | .nil=>true
 | .pl _ r=>r.wfB
 | .grp k l r=>(decide (k=1) || decide (k=2) || decide (k=3))&&decide (l.len<=1000)&&decide (l.need=0)&&l.wfB&&r.wfB
theorem Pt.YC: ∀ {p:Pt},p.wfB=true->p.wf
 | .nil,_=>trivial
 | .pl _ r,h=>Pt.YC (p:=r) h
 | .grp k l r,h=>by simp only[Pt.wfB,bM,Bool.or_eq_true,decide_eq_true_eq]at h;exact⟨by omega,h.1.1.1.2,h.1.1.2,Pt.YC h.1.2,Pt.YC h.2⟩
def Pt.okB (id:Int) (q:Pt):Bool:=q.wfB&&decide (q.need<=10)&&decide (q.len<=1000)&&decide ((if Yv id=true then 1 else 2)<=q.DT)
theorem ZG: ∀id:Fin 81,(match lu (id.val:Int) with |none=>true |some q=>q.okB (id.val:Int))=true:=by decide
theorem yV{q:Pt}(h:lu id=some q):0<=id/\id<81:=by
 refine Classical.byContradiction λhn=>?_;have e:lu id=none:=by unfold lu;iterate 12 rw[if_neg (by omega)]
 grind
theorem ES{q:Pt}(h:lu id=some q):q.wf/\q.need<=10/\q.len<=1000/\(if Yv id=true then 1 else 2)<=q.DT:=by obtain⟨d,j⟩:=yV h;have:=ZG ⟨id.toNat,by omega⟩;simp only[show((id.toNat:Nat):Int)=id by omega,h]at this;simp only[Pt.okB,bM,decide_eq_true_eq]at this;exact⟨Pt.YC this.1.1.1,this.1.1.2,this.1.2,this.2⟩
theorem yX{σ:Type}{m:σ->Nat}{val:Int->σ->Except Int (Int × σ)}(j: ∀v s n s',val v s=.ok (n,s')->m s+1<=m s'): ∀(p:Pt) (last:Int) (s s':σ),mV val p last s=.ok s'->m s+p.DT<=m s'
 | .nil,_,s,s',e=>by rw[mV]at e;cases e;exact aW _
 | .pl v r,last,s,s',e=>by rw[mV]at e;cases d:val v s with|error x=>grind|ok M=>obtain⟨n,H⟩:=M;rw[d]at e;have J:=j _ _ _ _ d;have K:=yX j r n H s' e;simp only[Pt.DT];omega
 | .grp k l r,last,s,s',e=>by rw[wL]at e;cases d:jg (mV val l 0) (qC k last) s with|error x=>grind|ok H=>rw[d]at e;have J:=DN (BN:=m) (λa b h=>aG (Nat.le_add_right _ _) (yX j l 0 a b h)) _ _ _ d;have K:=yX j r last H s' e;simp only[Pt.DT];omega
theorem WR(v:Int)(s:List Int × List (Int × Int))(n:Int)(s':List Int × List (Int × Int))(h:lC v s=.ok (n,s')):s.2.length+1<=s'.2.length:=by unfold lC at h;grind
def oN (w:World) (q:Except Int (List (Int × Int))) (e:Ending) (w':World):Prop:=w w'/\match q with
 | .ok l=> ∃A c,e=.returned (.tuple #[.slice A l.length c,.int .i64 0])/\aq1 iU 245 w' w A c l
 | .error er=> ∃v,e=.returned (.tuple #[v,.int .i64 er])
def afZ (m:Nat) (t:TypeId) (cs:Array Value):Value->World->Prop:=fun v w=> ∃bv,v=.slice (some ⟨bv,0,none⟩) 1 1/\fK w bv t cs/\m<=bv
theorem afZ.grow{m:Nat}{t:TypeId}{cs:Array Value}{v:Value}(h:afZ m t cs v w)(d:w w'):afZ m t cs v w':=by obtain⟨bv,e,hB,hn⟩:=h;exact⟨bv,e,hB.below d hB.lt,hn⟩
theorem Gp(id:Int)(w:World):Calls aj 216 #[id] w λe w'=>e=.returned (.bool (lu id).isSome)/\w w':=by
 have h:=Gl id w ig;unfold vF at h;cases H:lu id with
 |none=>rw[H]at h;go_enter func216,ntmps216;go_wp2_with((with_reducible refine h.mono ?_);rintro e M⟨A,n,c,rfl,j,rfl,rfl,rfl⟩);go_ret;exact⟨rfl,j⟩
 |some p=>
  rw[H]at h;have d:Calls aj 218 #[id] w λe w'=> ∃a n c,e=.returned (.slice (some a) n c)/\w w':=h.mono λe w' ⟨A,n,c,J,d,K,_⟩=>by cases A with|none=>exact absurd rfl K|some a=>exact⟨a,n,c,J,d⟩
  go_enter func216,ntmps216;go_wp2_with((with_reducible refine d.mono ?_);rintro e M⟨a,n,c,rfl,j⟩);go_ret;exact⟨rfl,j⟩
theorem Ti(p:Pk)(A:Option Addr)(n c:Nat)(w:World)(J:lu p.id=none):Calls aj 207 #[.agg #[p.id,.slice A n c]] w (oN w (kG p)):=by
 have hi:kG p=.error 50:=by unfold kG;rw[J]
 rw[hi];unfold oN;have j:Own w _ [_,_,_]:=Own.start3 w 198 246 51 #[p.id,.slice A n c] #[nS] #[zI];have U:=j.b0.cell;have H:=λW=>Gp p.id W;rw[J]at H;obtain⟨id,M⟩:=fD p.id;rw[<-M]at H U j ⊢;clear M J hi;go_enter_defers func207,ntmps207;go_wp2_with((with_reducible refine(H _).mono ?_);rintro e K⟨rfl,N⟩);have d:=j.grow N;have aa:fK (K.alloc (.cells #[(50:Int)] 314)) _ 246 _:=(d.b1).below (gY.alloc ig (.cells #[(50:Int)] 314)) (d.b1).lt;have Y:fK (K.alloc (.cells #[(50:Int)] 314)) _ 51 _:=(d.b2).below (gY.alloc ig (.cells #[(50:Int)] 314)) (d.b2).lt;have Z:=(aa.far (p:=⟨w.heap.size+1+1,0,none⟩) (by simp) (50:Int)).cell 0;have V:=(Y.iV 0 (50:Int)).cell 0;have O:=d.b2;refine leaves_cons (f:=214) (args:= #[.pointer (some ⟨w.heap.size+1+1,0,none⟩)]) (by simp) (by simp[go_sem]) ?_;refine(vg (w.heap.size+1+1) 50 0 [] K O).mono ?_;rintro e u' ac⟨rfl,rfl,rfl⟩;simp only[settle,List.dropWhile];simp[Leaves,results,results207,go_sem,Z,V];exact(d.below.alloc d.below.size _).setCell (p:=⟨w.heap.size+1+1,0,none⟩) (by simp;omega) _
theorem af0{x:Int × Int}(h:fK w g 245 #[x.1,x.2])(hB:B<=g):aq1 iU 245 w B g 1 [x]:=⟨rfl,.inr ⟨g,1,_,rfl,hB,h,by simp,by simp[maxLen],by simp[iU],by simp[iU,arb.flat]⟩⟩
theorem WS{w7:World}{bl br bv Bq:Nat}{A Aq:Option Addr}{n c cq:Nat}{wd:Int}{vs:List Int}{q:Pt}(d:q.wf/\q.need<=10/\q.len<=1000)(O:fK w7 bl 246 #[.slice bv 1 1])(Z:fK w7 br 22 #[.slice A n c])(j:fK w7 bv 245 #[id,wd])(N:fK w7 g 316 #[.func (.func 240) #[] #[.pointer bl,.pointer br]])(Y:sO Bq w7 Aq q)(H:0<bl)(J:bl<B)(K:B<=bv)(ac:bv<br)(ad:br<g)(xQ:g<Bq)(M:Tab w7)(U:fE aq7 w7 A vs)(V:vs≠ []-> ∀a,A=some a->a.block<bl)(hn:vs.length=n)(ae:n<=60000)(hc:n<=c/\c<=maxLen):Calls aj 217 #[.pointer g,.slice Aq q.len cq] w7 (yU (Au B bl br) (λT W=> ∃s,Au B bl br s T W) (λk=>k=bl\/k=br\/k=bv) w7 (mV lC q 0 (vs,[(id,wd)]))):=by have aa:Au B bl br (vs,[(id,wd)]) (λk=>k=bl\/k=br\/k=bv) w7:=⟨bv,1,A,c,{foot:=λk=>by simp[eq_comm],lb:=O,rb:=by rw[show(vs,[(id,wd)]).1.length=n from hn];exact Z,own:=af0 j K,bl0:=⟨H,J⟩,br0:=⟨by omega,by simp;omega⟩,ne:=by omega,size:=by have:=j.lt;omega,rest:=U,away:=λh a e=>by have:=V h a e;omega,tab:=M,len:=by simp only[bK,dU];omega,cap:=by simp only[hn];exact hc}⟩;refine SY (acL B bl br) (B:=Bq) (wp:=w7) g (q.size+1) q (Nat.lt_succ_self _) d.1 Aq cq q.len rfl _ _ w7 aa ?_ Y ig (λk h1 h2=>⟨rfl,λe=>by omega⟩) d.2.2 N (λe=>by omega);show q.need<=65000-(vs.length+1);have:=d.2.1;omega
theorem Ext.vU{T T':Nat->Prop}(h:Ext T w T' w')(hB:B<=w.heap.size)(j: ∀k,T k->B<=k):Below B w w':=⟨h.os,h.tape,h.output,h.size,λk d=>h.same k (aU d hB) (λc=>Nat.not_le.2 d (j k c))⟩
def acP (bl br B:Nat) (g:Except Int (List Int × List (Int × Int))) (e:Ending) (w8:World):Prop:=match g with
 | .ok (rest,l)=>e=.returned (.tuple #[])/\ ∃A1 c1 A2 c2,fK w8 bl 246 #[.slice A1 l.length c1]/\fK w8 br 22 #[.slice A2 rest.length c2]/\aq1 iU 245 w8 B A1 c1 l
 | .error er=>e=.panicked [{v:=.iface 314 (.agg #[.int .i64 er]),recovered:=false}]/\ ∃v,fK w8 bl 246 #[v]
def alZ (g:Except Int (List Int × List (Int × Int))):Except Int (List (Int × Int)):=match g with | .error e=> .error e | .ok (rest,l)=>if rest= [] then .ok l else .error 20
theorem Tj(p:Pk)(A:Option Addr)(n c:Nat)(w:World)(q:Pt)(hq:lu p.id=some q)(hT:Tab w)(hp:fE aq7 w A p.v)(hn:p.v.length=n)(ba:n<=60000)(hc:n<=c/\c<=maxLen):Calls aj 207 #[.agg #[p.id,.slice A n c]] w (oN w (kG p)):=by
 obtain⟨gq,au⟩:=fD (mV lC q 0 (p.v,[(p.id,fQ 5)]));have hi:kG p=alZ gq:=by unfold kG alZ;rw[hq,au];rfl
 have hO:Own w _ [_,_,_]:=Own.start3 w 198 246 51 #[p.id,.slice A n c] #[nS] #[zI];have a8:=hO.b0.cell;have am:=λW=>Gp p.id W;rw[hq]at am;have an:=ES hq;have ac:=λW=>Gl p.id (B:=W.heap.size) W ig;rw[hq]at ac;unfold vF at ac;have ap:=λ(w7:World) (bv br g Bq:Nat) (Aq:Option Addr) (cq:Nat) (hl:fK w7 (w.heap.size+1) 246 #[.slice bv 1 1]) (hr:fK w7 br 22 #[.slice A n c])=>WS (w7:=w7) (B:=w.heap.size+3) (bl:=w.heap.size+1) (br:=br) (bv:=bv) (g:=g) (Bq:=Bq) (A:=A) (Aq:=Aq) (n:=n) (c:=c) (cq:=cq) (id:=p.id) (wd:=fQ 5) (vs:=p.v) (q:=q) ⟨an.1,an.2.1,an.2.2.1⟩ hl hr;rw[<-au]at ap;have ax:=λW (h:Tab W)=>pF 5 W h;obtain⟨id,al⟩:=fD p.id;obtain⟨wd,az⟩:=fD (fQ 5);rw[<-al]at am a8 hO ac;rw[<-al,<-az]at ap;rw[<-az]at ax;rw[<-al];have HI:=ah hi;have HW:=ah ap;have HP:=ah hp;clear al az hq hi au an ap hp;go_enter_defers func207,ntmps207;go_wp2_with((with_reducible refine(am _).mono ?_);rintro e w4⟨rfl,a7⟩);have ad:=hO.grow a7;apply mZ;case lX=>intro u;simp only[bV,aq9,aP,ay,aA,aB,aT,aJ];rfl
 case hm=>kernel_rfl
 case hB=>kernel_rfl
 case hA=>kernel_rfl
 case hap=>kernel_rfl
 repeat(first
    |(apply lI.is
      ·
        (intro u w' V U
         simp[fH,aC,Is]at U
         refine fF (by first |rfl) ?_
         intro aD hK
         have j:=ad.grow V;have bf:=j.b0.cell;have a6:=hT.below j.below
         go_wp2_with (((with_reducible refine(ax _ a6).mono ?_);rintro e w3⟨rfl,bc⟩;obtain rfl:=bc.symm))
         try simp only[U]at hK
         refine hK _ _ ?_ rfl
         first |exact aH _ _))
    |(refine lI.word (afZ w4 245 #[.int .i64 id, .int .i64 wd]) (λ_ _ _ h hb=> h.grow hb) ?_ ?_
      ·
        (intro u w' V U
         simp[fH,aC,Is]at U
         refine fF (by first |rfl) ?_
         intro aD hK
         go_wp2_with fail
         try simp only[U]at hK
         exact hK _ _ jm ⟨w',rfl,fK.new _ _ _,V.size⟩)))
 refine lI.last ?_;intro u d aR U;simp only[gQ]at U;refine⟨rfl,?_⟩;intro aD hK;obtain⟨bv,hu,ak,bd⟩:=U 4 _ rfl;have j:=ad.grow aR;have bi:=j.b1.cell;have bk:=j.b0.cell;have bj:=j.b1.frozen 0;have bn:=j.b2.lt;have bm:=ad.b2.lt;obtain⟨fc,aM⟩:=fD (Value.func (.func 240) #[] #[.pointer (some ⟨w.heap.size+1,0,none⟩),.pointer d]);obtain⟨H,K⟩:=fD (((d.setCell ⟨w.heap.size+1,0,none⟩ (.slice bv 1 1)).alloc (.cells #[.slice A n c] 22)).alloc (.cells #[fc] 316));have aE:w (d.setCell ⟨w.heap.size+1,0,none⟩ (.slice bv 1 1)):=j.below.setCell (p:=⟨w.heap.size+1,0,none⟩) (by simp) _;have aw:(d.setCell ⟨w.heap.size+1,0,none⟩ (.slice bv 1 1)).heap.size=d.heap.size:=by simp[dD]
 have bb:H.heap.size=d.heap.size+2:=by rw[K];simp[dD]
 have ZH:Below d (d.setCell ⟨w.heap.size+1,0,none⟩ (.slice bv 1 1)) H:=by rw[K];exact(gY.alloc (bZ aw.symm) _).alloc (by simp[dD]) _
 have aq:w H:=aE.trans (ZH.mono (by have:=j.below.size;omega));have k1:fK H (w.heap.size+1) 246 #[.slice bv 1 1]:=(j.b1.iV 0 _).below ZH j.b1.lt;have k2:fK H (w.heap.size+1+1) 51 #[zI]:=(j.b2.far (p:=⟨w.heap.size+1,0,none⟩) (by simp) _).below ZH j.b2.lt;have k0:fK H w 198 #[id,.slice A n c]:=(j.b0.far (p:=⟨w.heap.size+1,0,none⟩) (by simp) _).below ZH j.b0.lt;have a5:=k0.cell;rw[K]at a5;have k3:fK H bv 245 #[id,wd]:=(ak.far (p:=⟨w.heap.size+1,0,none⟩) (by simp;omega) _).below ZH ak.lt;have k4:fK H d 22 #[.slice A n c]:=by have N:=fK.new (d.setCell ⟨w.heap.size+1,0,none⟩ (.slice bv 1 1)) 22 #[.slice A n c];rw[aw]at N;rw[K];exact N.below jm N.lt
 have k5:fK H (d.heap.size+1) 316 #[fc]:=by have N:=fK.new ((d.setCell ⟨w.heap.size+1,0,none⟩ (.slice bv 1 1)).alloc (.cells #[.slice A n c] 22)) 316 #[fc];rw[show((d.setCell ⟨w.heap.size+1,0,none⟩ (.slice bv 1 1)).alloc (.cells #[.slice A n c] 22)).heap.size=d.heap.size+1 by simp[dD]]at N;rw[K];exact N
 have a1:p.v≠ []-> ∀a,A=some a->a.block<w.heap.size:=λh a e=>by obtain⟨b,off,e1,e2,_⟩:=HP.out (by rw[arb.flat_length];have:=List.length_pos_iff.2 h;simpa[aq7] using this);rw[e]at e1;injection e1 with e1;rw[e1];exact e2
 have Y:Hid (∀(w7:World) (Aq:Option Addr) (cq:Nat),H w7->sO H w7 Aq q->Calls aj 217 #[.pointer (some ⟨d.heap.size+1,0,none⟩),.slice Aq q.len cq] w7 λe w8=>w w8/\fK w8 (w.heap.size+1+1) 51 #[zI]/\acP (w.heap.size+1) d (w.heap.size+3) gq e w8):=ah (by
  intro w7 Aq cq J aa;have ai:=aq.trans (J.mono aq.size);refine(HW.out w7 bv d (d.heap.size+1) H Aq cq (k1.below J k1.lt) (k4.below J k4.lt) (k3.below J k3.lt) (by rw[<-aM];exact k5.below J k5.lt) aa (by omega) (by omega) (by have:=ad.b2.lt;omega) ak.lt (by omega) (by omega) (hT.below ai) (HP.out.below ai) (λh a e=>by have:=a1 h a e;omega) hn ba hc).mono ?_;rintro e w8⟨T8,aL,h8⟩;have bh:=J.size;refine⟨ai.trans (aL.vU ai.size (λk V=>by omega)),(aL.same _ (by omega) (λc=>by omega)).trans (k2.below J k2.lt),?_⟩;cases gq with
  |error er=>obtain⟨N,s,A1,c1,A2,c2,h2⟩:=h8;exact⟨N,_,h2.lb⟩
  |ok s=>obtain⟨N,A1,c1,A2,c2,h2⟩:=h8;exact⟨N,A1,c1,A2,c2,h2.lb,h2.rb,h2.own⟩)
 clear k0 k1 k2 k3 k4 k5 ZH aq aw bb aE ak aR ad ax am HW HP hn a1 hT hc;simp only[hu];clear hu;subst aM;cases gq with
 |error er=>unfold acP at Y;simp only at Y;go_wp2_with(first|((with_reducible refine(ac _).mono ?_);rintro e w7⟨Aq,nq,cq,rfl,J,fU,rfl,aa⟩)|((with_reducible refine(Y.out _ _ _ (by rw[K];exact J) (by rw[K];exact aa)).mono ?_);rintro e w8⟨Z,M,rfl,v8,O⟩));have ag:fK (w8.alloc (.cells #[er] 314)) _ 246 _:=(O).below (gY.alloc ig (.cells #[er] 314)) (O).lt;have af:fK (w8.alloc (.cells #[er] 314)) _ 51 _:=(M).below (gY.alloc ig (.cells #[er] 314)) (M).lt;have av:=(ag.far (p:=⟨w.heap.size+1+1,0,none⟩) (by simp) er).cell 0;have ar:=(af.iV 0 er).cell 0;have ae:=M;refine leaves_cons (f:=214) (args:= #[.pointer (some ⟨w.heap.size+1+1,0,none⟩)]) (by simp) (by simp[go_sem]) ?_;refine(vg (w.heap.size+1+1) er 0 [] w8 ae).mono ?_;rintro e u' a4⟨rfl,rfl,rfl⟩;simp only[settle,List.dropWhile];clear ag af ae;simp[Leaves,results,results207,go_sem,av,ar];rw[HI.out];exact⟨(Z.alloc Z.size _).setCell (p:=⟨w.heap.size+1+1,0,none⟩) (by simp;omega) _,v8,rfl⟩
 |ok s=>
  obtain⟨rest,l⟩:=s;unfold acP at Y;simp only at Y;cases rest with
  |nil=>go_wp2_with(first|((with_reducible refine(ac _).mono ?_);rintro e w7⟨Aq,nq,cq,rfl,J,fU,rfl,aa⟩)|((with_reducible refine(Y.out _ _ _ (by rw[K];exact J) (by rw[K];exact aa)).mono ?_);rintro e w8⟨Z,M,rfl,A1,c1,A2,c2,O,fU,H7⟩;have fJ:=O.cell;have iG:=O.frozen 0;have jQ:=M.cell;have uK:=M.frozen 0;have sK:=fU.cell));have a9:=((O.iV 0 (.slice A1 l.length c1)).far (p:=⟨w.heap.size+1+1,0,none⟩) (by simp) zI).cell 0;have NY:=((M.far (p:=⟨w.heap.size+1,0,none⟩) (by simp) (.slice A1 l.length c1)).iV 0 zI).cell 0;have ZI:=(H7.far (g:=w.heap.size+1) (by omega) (λk V=>aN w8 ⟨w.heap.size+1,0,none⟩ (.slice A1 l.length c1) k V)).far (g:=w.heap.size+1+1) (by omega) (λk V=>aN (w8.setCell ⟨w.heap.size+1,0,none⟩ (.slice A1 l.length c1)) ⟨w.heap.size+1+1,0,none⟩ zI k V);refine leaves_cons (f:=214) (args:= #[.pointer (some ⟨w.heap.size+1+1,0,none⟩)]) (by simp) (by simp[go_sem]) ?_;refine(Az (w.heap.size+1+1) _).mono ?_;rintro e u' a4⟨rfl,rfl,rfl⟩;simp[Leaves,settle,results,results207,go_sem,a9,NY];rw[HI.out];exact⟨(Z.setCell (p:=⟨w.heap.size+1,0,none⟩) (by simp) _).setCell (p:=⟨w.heap.size+1+1,0,none⟩) (by simp;omega) _,A1,c1,rfl,ZI.mono (by omega)⟩
  |cons y r=>go_wp2_with(first|((with_reducible refine(ac _).mono ?_);rintro e w7⟨Aq,nq,cq,rfl,J,fU,rfl,aa⟩)|((with_reducible refine(Y.out _ _ _ (by rw[K];exact J) (by rw[K];exact aa)).mono ?_);rintro e w8⟨Z,M,rfl,A1,c1,A2,c2,O,fU,H7⟩;have fJ:=fU.cell));have ag:fK (w8.alloc (.cells #[(20:Int)] 314)) _ 246 _:=(O).below (gY.alloc ig (.cells #[(20:Int)] 314)) (O).lt;have af:fK (w8.alloc (.cells #[(20:Int)] 314)) _ 51 _:=(M).below (gY.alloc ig (.cells #[(20:Int)] 314)) (M).lt;have av:=(ag.far (p:=⟨w.heap.size+1+1,0,none⟩) (by simp) (20:Int)).cell 0;have ar:=(af.iV 0 (20:Int)).cell 0;have ae:=M;refine leaves_cons (f:=214) (args:= #[.pointer (some ⟨w.heap.size+1+1,0,none⟩)]) (by simp) (by simp[go_sem]) ?_;refine(vg (w.heap.size+1+1) 20 0 [] w8 ae).mono ?_;rintro e u' a4⟨rfl,rfl,rfl⟩;simp only[settle,List.dropWhile];clear ag af ae;simp[Leaves,results,results207,go_sem,av,ar];rw[HI.out];exact⟨(Z.alloc Z.size _).setCell (p:=⟨w.heap.size+1+1,0,none⟩) (by simp;omega) _,_,rfl⟩
theorem acQ(p:Pk)(A:Option Addr)(n c:Nat)(w:World)(j:Tab w)(J:fE aq7 w A p.v)(hn:p.v.length=n)(H:n<=60000)(hc:n<=c/\c<=maxLen):Calls aj 207 #[.agg #[p.id,.slice A n c]] w (oN w (kG p)):=by cases d:lu p.id with|none=>exact Ti p A n c w d|some q=>exact Tj p A n c w q d j J hn H hc
section
theorem ET: ∀(vs:List Value) (a:Array Value) (o:Nat),o+vs.length<=a.size->(arh a o vs).toList=a.toList.take o++vs++a.toList.drop (o+vs.length)
 | [],a,o,_=>by simp[arh]
 |v::vs,a,o,h=>by
  simp only[bK]at h;rw[arh,ET vs (a.setIfInBounds o v) (o+1) (by grind)];have e1:(a.setIfInBounds o v).toList.take (o+1)=a.toList.take o++ [v]:=by rw[Array.toList_setIfInBounds,List.take_set,List.take_succ_eq_append_getElem (show o<a.toList.length by grind)];rw[List.set_append_right _ _ (by grind)];simp[Nat.min_eq_left (show o<=a.size by omega)]
  have e2:(a.setIfInBounds o v).toList.drop (o+1+vs.length)=a.toList.drop (o+(v::vs).length):=by rw[Array.toList_setIfInBounds,List.drop_set_of_lt (by omega)];congr 1;simp only[bK];omega
  rw[e1,e2];simp
theorem acR(L d:List Value)(o j:Nat)(H:o+d.length<=j)(J:j<=L.length):(L.take o++d++L.drop (o+d.length)).take j=(L.take j).take o++d++(L.take j).drop (o+d.length):=by
 have hA:(L.take o++d).length=o+d.length:=by grind
 rw[List.take_append,aY (by omega),hA,List.take_take,Nat.min_eq_left (by omega),List.drop_take]
theorem lQ: ∀(vs:List Value) (a:Array Value) (o:Nat),(arh a o vs).size=a.size
 | [],_,_=>rfl
 |v::vs,a,o=>by rw[arh,lQ vs];simp
section
variable {α:Type} {E:arb α} {t:TypeId} {w w':World} {base g c:Nat} {xs:List α}
theorem arb.acS(xs:List α){i:Nat}(hi:i<xs.length)(v:α):E.flat (xs.set i v)=(E.flat xs).take (i*E.k)++E.enc v++(E.flat xs).drop (i*E.k+E.k):=by rw[List.set_eq_take_append_cons_drop,if_pos hi,E.zS,E.nX,E.BK,show i*E.k+E.k=(i+1)*E.k by grind,E.Nv];simp
theorem aq1.put(ho:aq1 E t w base g c xs){i:Nat}(hi:i<xs.length)(v:α){cur:Array Value}(J:fK w g t cur)(V:fK w' g t (arh cur (i*E.k) (E.enc v))):aq1 E t w' base g c (xs.set i v):=by
 obtain⟨g',d,e,M,j,H,N,O,U⟩:=ho.blk (by simp);simp only[aO,cZ]at e;obtain⟨rfl,-,-⟩:=e;have Y:d=cur:=by unfold fK at j J;rw[J]at j;simp at j;exact j.symm
 subst Y;have Z:i*E.k+E.k<=xs.length*E.k:=by rw[show i*E.k+E.k=(i+1)*E.k by grind];exact Nat.mul_le_mul_right _ hi
 have ac:xs.length*E.k<=c*E.k:=Nat.mul_le_mul_right _ N;have aa:(d.toList).length=c*E.k:=by omega
 refine⟨by rw[E.flat_length],.inr ⟨g,c,arh d (i*E.k) (E.enc v),by simp,M,V,by grind,O,by rw[lQ,H],?_⟩⟩;rw[List.length_set,ET _ _ _ (by rw[E.len,H];omega),E.acS xs hi,<-U,E.len];have K:=acR d.toList (E.enc v) (i*E.k) (xs.length*E.k) (by rw[E.len];exact Z) (by omega);rw[E.len]at K;exact K
theorem aq1.ahead(Y:aq1 E t w base g c xs)(i:Nat)(hi:i<=xs.length){cur d:Array Value}(H:fK w g t cur)(O:fK w' g t d)(hs:d.size=cur.size)(Z:d.toList.take (i*E.k)=cur.toList.take (i*E.k)):aq1 E t w' base g c (xs.take i):=by
 obtain⟨g',J,e,K,j,h3,h4,M,N⟩:=Y.blk (by simp);simp only[aO,cZ]at e;obtain⟨rfl,-,-⟩:=e;have U:J=cur:=by unfold fK at j H;rw[H]at j;simp at j;exact j.symm
 subst U;have V:(xs.take i).length=i:=by grind
 refine⟨by rw[E.flat_length],.inr ⟨g,c,d,by simp,K,O,by omega,M,by omega,?_⟩⟩;rw[V,Z,<-E.BK,<-N,List.take_take,Nat.min_eq_left];exact Nat.mul_le_mul_right _ hi
end
end
def PV (id:Int):Bool:=(PE id).isSome
def PW (id:Int):Bool:=PV id&&decide (129<=id)
def H9 (id:Int):List Int:=if PW id=true then [2,9] else [2,3,4]
theorem af4(id:Int)(w:World):Calls aj 171 #[id] w λe w'=>e=.returned (.bool (PV id))/\w w':=by have j:=λW=>afT id W;have d:=Own.nil w;unfold Gh at j;unfold PV;generalize nG id=f at*;generalize (PE id).isSome=b at*;obtain⟨f1,H,f3⟩:=f;unfold Af at j;simp only at j;go_enter func171,ntmps171;go_wp2_with((with_reducible refine(j _).mono ?_);rintro e M⟨A1,c1,A3,c3,rfl,hF,J⟩;replace d:=Own.afy (d.grow J) 240 #[.slice A1 f1.length c1,H,.slice A3 f3.length c3];have K:=d.b0.cell);go_ret;exact⟨rfl,d.below⟩
theorem Tn(id:Int)(w:World):Calls aj 119 #[id] w λe w'=>e=.returned (.bool (PW id))/\w w':=by have d:=λW=>af4 id W;unfold PW;cases H:PV id with|false=>rw[H]at d;go_enter func119,ntmps119;go_wp2_with((with_reducible refine(d _).mono ?_);rintro e J⟨rfl,j⟩);go_ret;exact⟨rfl,j⟩|true=>rw[H]at d;go_enter func119,ntmps119;go_wp2_with((with_reducible refine(d _).mono ?_);rintro e J⟨rfl,j⟩);go_ret;exact⟨by simp,j⟩
def JQ (w:World) (l:List Int) (e:Ending) (w':World):Prop:= ∃A c,e=.returned (.slice A l.length c)/\fE aq7 w' A l/\(∀a,A=some a->w.heap.size<=a.block)/\l.length<=c/\w w'
theorem acT(id:Int)(w:World):Calls aj 159 #[id] w (JQ w (H9 id)):=by have H:=λW=>Tn id W;unfold H9;have d:=Own.nil w;cases M:PW id with|false=>rw[M]at H;simp only[bU,if_false];go_enter func159,ntmps159;go_wp2_with((with_reducible refine(H _).mono ?_);rintro e K⟨rfl,j⟩;replace d:=Own.afy (d.grow j) 3 #[(2:Int),(3:Int),(4:Int)];have J:=j.size);go_ret;exact⟨K,3,rfl,qw d.b0 rfl,(λa e=>by cases e;exact J),by decide,d.below⟩|true=>rw[M]at H;simp only[if_true];go_enter func159,ntmps159;go_wp2_with((with_reducible refine(H _).mono ?_);rintro e K⟨rfl,j⟩;replace d:=Own.afy (d.grow j) 3 #[(2:Int),(9:Int)];have J:=j.size);go_ret;exact⟨K,2,rfl,qw d.b0 rfl,(λa e=>by cases e;exact J),by decide,d.below⟩
section
theorem Own.add{w W:World}{L:List Bk}(h:Own w W L){g:Nat}{t:TypeId}{cs:Array Value}(j:fK W g t cs)(H:w.heap.size<=g)(hn: ∀x∈L,x.1≠g):Own w W (L++ [(g,t,cs)]):=by
 refine⟨h.below,λx d=>?_,?_⟩
 ·rcases dK.1 d with d |d;·exact h.blk x d
  grind
 ·rw[eX,List.nodup_append];refine⟨h.nodup,by simp,?_⟩;grind
theorem Own.turn{w W W':World}{L:List Bk}{b:Nat}(h:Own w W L)(M:w.heap.size<=b)(hn: ∀x∈L,x.1≠b)(K:W.heap.size<=W'.heap.size)(J: ∀k,k<W.heap.size->k≠b->W'.heap[k]? =W.heap[k]?)(d:W'.os=W.os/\W'.tape=W.tape/\W'.output=W.output):Own w W' L:=h.grown (R:=some b) ⟨d.1,d.2.1,d.2.2,K,λk j H=>J k j (λe=>H (by rw[e]))⟩ (λg N=>by grind)
section
variable {P:Program} {w W:World} {ops:Array Oper} {rest:List Oper} {o:Oper} {a:Act} {Q:Exit->Act->World->Prop} {L:List Bk} {b:Nat} {es:Array MapEntry} {cl:Nat} {t kt e:TypeId}
def pX (W:World) (b:Nat) (o:Obj):World:={W with heap:=W.heap.setIfInBounds b o}
theorem AA(J:P.underlying t=some (.map kt e))(j:P.underlying kt=some (.int .i64))(d:W.heap[b]? =some (.map es cl))(i:Int)(v:Value)(H:dY (.int .i64) i es.toList 0=some none):(Instr.mapUpdate t (.map (some b)) i v).run P W=.ok () (pX W b (.map (es.push ⟨i,v,cl⟩) (cl+1))):=by have hc:=MapKept.run_checkKey (P:=P) (w:=W) j (k:=i) (by trivial) false 9999;simp[Instr.mapUpdate,run_underlying J,MapKept.run_getObj_map d,hc,Instr.findKey,run_underlying j,H,MapKept.run_setObj_map _ d,pX]
theorem JR(J:P.underlying t=some (.map kt e))(d:P.underlying kt=some (.int .i64))(j:W.heap[b]? =some (.map es cl))(i:Int)(K:Nat)(v:Value)(H:dY (.int .i64) i es.toList 0=some (some (K,v))):(Instr.lookup t (.map (some b)) i true).run P W=.ok (.tuple #[v,true]) W:=by have hc:=MapKept.run_checkKey (P:=P) (w:=W) d (k:=i) (by trivial) es.isEmpty 9999;simp[Instr.lookup,run_underlying J,MapKept.run_getObj_map j,hc,Instr.findKey,run_underlying d,H]
theorem vk(W:World)(b:Nat)(o:Obj):W.grownBy (pX W b o) (some b):=by refine⟨rfl,rfl,rfl,by simp[pX],λk _ d=>?_⟩;unfold pX;simp only;exact dR (λe=>d (by rw[e]))
theorem Own.mapped(h:Own w W L)(J:W.heap[b]? =some (.map es cl))(d:w.heap.size<=b)(hn: ∀x∈L,x.1≠b)(o:Obj):Own w (pX W b o) L/\(pX W b o).heap[b]? =some o:=by
 refine⟨h.turn d hn (by simp[pX]) (λk _ j=>by simp[pX,dR (λe=>j e.symm)]) ⟨rfl,rfl,rfl⟩,?_⟩;have H:b<W.heap.size:=by grind
 simp[pX,H]
theorem qE(H:Own w W L)(J:o.guard=none)(K:o.op=.makeMap t none)(h: ∀W':World,Own w W' L->W'.heap[W.heap.size]? =some (.map #[] 0)->W W'->wpList P ops Q rest (a.put o.dst (.map (some W.heap.size))) W'):wpList P ops Q (o::rest) a W:=by refine wpList_plain J λM j=>?_;have d:W (W.alloc (.map #[] 0)):=gY.alloc ig _;have:=j _ _ (h _ (H.grow d) (heap_alloc_new W _) d);unfold Oper.wp execOp;simp only[K,Option.map_none,Sem.run_bind,run_makeMap,dO];exact this
theorem EU(K:Own w W L)(d:W.heap[b]? =some (.map es cl))(N:w.heap.size<=b)(hn: ∀x∈L,x.1≠b)(O:o.guard=none)(m k y:Operand)(Y:o.op=.insert t m k y)(hm:a.eval m=.map (some b))(i:Int)(U:a.eval k=i)(v:Value)(hy:a.eval y=v)(Z:P.underlying t=some (.map kt e))(V:P.underlying kt=some (.int .i64))(M:dY (.int .i64) i es.toList 0=some none)(h: ∀W':World,Own w W' L->W'.heap[b]? =some (.map (es.push ⟨i,v,cl⟩) (cl+1))->W.grownBy W' (some b)->wpList P ops Q rest (a.put o.dst undef) W'):wpList P ops Q (o::rest) a W:=by refine wpList_plain O λaa J=>?_;obtain⟨j,H⟩:=K.mapped d N hn (.map (es.push ⟨i,v,cl⟩) (cl+1));have:=J _ _ (h _ j H (vk _ _ _));unfold Oper.wp execOp;simp only[Y,hm,U,hy,Sem.run_bind,AA Z V d i v M,dO];exact this
theorem kH(H:W.heap[b]? =some (.map es cl))(K:o.guard=none)(m k:Operand)(O:o.op=.lookup t m k true)(hm:a.eval m=.map (some b))(i:Int)(M:a.eval k=i)(d:Nat)(v:Value)(U:P.underlying t=some (.map kt e))(N:P.underlying kt=some (.int .i64))(J:dY (.int .i64) i es.toList 0=some (some (d,v)))(h:wpList P ops Q rest (a.put o.dst (.tuple #[v,true])) W):wpList P ops Q (o::rest) a W:=by refine wpList_plain K λV j=>?_;have:=j _ _ h;unfold Oper.wp execOp;simp only[O,hm,M,Sem.run_bind,JR U N H i d v J,dO];exact this
end
end
section
def Tq (l:List Int) (x:Int):Int:=if x∈l then(l.idxOf x:Int) else -1
theorem al2(A:Option Addr)(n c:Nat)(l:List Int)(x:Int)(w:World)(Y:fE aq7 w A l)(hn:l.length=n)(hb:n<=1000000):Calls aj 241 #[.slice A n c,x] w λe w'=>e=.returned (Tq l x:Int)/\w'=w:=by
 have M:=ah hn;go_enter func241,ntmps241;go_wp2;go_loopw [8] (λi wr=> ∃k:Nat,i=.int .i64 k/\k<=n/\wr=w/\Hid (x∉l.take k)) (λi _=>n-(intOf i).toNat);case atStart=>exact⟨0,rfl,aV _,rfl,ah (by simp)⟩
 case round=>
  obtain⟨k,rfl,hk,rfl,J⟩:=hrel;by_cases aa:k<n;·obtain⟨y,H⟩:=aq5 M.out aa;obtain⟨g,off,rfl,hg,hc⟩:=Y.get H;have a0:=hc 0 y rfl;simp only[aq7,Nat.mul_one,bI]at a0;by_cases d:x=y;(·(have O:(x==y)=true:=by simpa using d);have K:Hid (Tq l x=(k:Int)):=ah (by(have hm:x∈l:=by rw[d];exact bP H);unfold Tq;rw[if_pos hm];have j:=(aX.1 H);obtain⟨ac,Z⟩:=j;(have U:l.idxOf x=k:=by(have V:l=l.take k++x::l.drop (k+1):=by rw[d,<-Z];simp);rw[V,List.idxOf_append,if_neg J.out,List.idxOf_cons_self];simp;omega);rw[U]);go_wp2_with fail;go_ret;exact⟨by rw[K.out];rfl,rfl⟩);·(have O:(x==y)=false:=by simpa using d);have N:Hid (x∉l.take (k+1)):=ah (by rw[take_snoc' H,dK];rintro (h |h);(·exact J.out h);·exact d (by simpa using h));go_wp2_with fail;go_roundw;(case rel=>exact⟨k+1,by go_num,by omega,(by first |trivial),N⟩);case measure=>simp[intOf];omega
  ·(obtain rfl:k=n:=by omega);have K:Hid (Tq l x= -1):=ah (by have j:=J.out;rw[aY (by rw[M.out];exact aW _)]at j;unfold Tq;rw[if_neg j]);go_wp2_with fail;go_ret;exact⟨by rw[K.out];rfl,rfl⟩
theorem ajf(A:Option Addr)(n c:Nat)(l:List Int)(x:Int)(w:World)(J:fE aq7 w A l)(hn:l.length=n)(K:n<=1000000):Calls aj 209 #[.slice A n c,x] w λe w'=>e=.returned (.bool (l.contains x))/\w'=w:=by
 have d:=al2 A n c l x w J hn K;have H:decide (0<=Tq l x)=l.contains x:=by
  unfold Tq;by_cases h:x∈l;·rw[if_pos h];simp[h]
  ·rw[if_neg h];simp[h]
 obtain⟨i,hi⟩:=fD (Tq l x);rw[<-hi]at d H;obtain⟨b,j⟩:=fD (l.contains x);rw[<-j]at H ⊢;clear hi j;go_enter func209,ntmps209;go_wp2_with((with_reducible refine d.mono ?_);rintro e N⟨rfl,M⟩;obtain rfl:=M.symm);go_ret;exact⟨rfl,rfl⟩
structure WV where
  id:Int
  A:Option Addr
  n:Nat
  c:Nat
def qJ:arb WV:=⟨2,fun p=> [.int .i64 p.id,.slice p.A p.n p.c],fun _=>rfl,fun _ u hu=>by simp at hu;rcases hu with rfl |rfl <;> rfl,by decide⟩
theorem al3:qo aj qJ 194 198 32:=arD (.agg gH) underlying194 (by kernel_rfl) rfl
def mg (may:List Int):List Int->List Int->Bool
 | [],_=>true
 |x::r,met=> !(met.contains x)&&may.contains x&&mg may r (x::met)
def Ia (f:List Int × Int × List Int) (l:List Int):Bool:=if 0<=f.2.1 then(match l with | []=>false |x::r=>(decide (x=f.2.1) || (decide (f.2.1=0)&&decide (x=1)))&&mg f.2.2 r []) else mg f.2.2 l []
def MB (ms:List (Int × Nat)):List MapEntry:=ms.map fun p=>⟨.int .i64 p.1,.bool true,p.2⟩
theorem YD(x:Int): ∀(ms:List (Int × Nat)) (i:Nat),x∈ms.map (·.1)-> ∃d,dY (.int .i64) x (MB ms) i=some (some (d,.bool true))
 | [],i,h=>by cases h
 |p::ms,i,h=>by
  by_cases e:x=p.1;·exact⟨i,by simp[MB,dY,Instr.sameNow,e]⟩
  ·obtain⟨d,H⟩:=YD x ms (i+1) (by rw[List.map_cons,bJ]at h;exact h.resolve_left e);refine⟨d,?_⟩;(have j:(x==p.1)=false:=by simpa using e);simp only[MB,List.map_cons,dY,Instr.sameNow,if_true,j];exact H
theorem Tt(x:Int): ∀(ms:List (Int × Nat)) (i:Nat),x∉ms.map (·.1)->dY (.int .i64) x (MB ms) i=some none
 | [],i,h=>rfl
 |p::ms,i,h=>by
  rw[List.map_cons,bJ,not_or]at h;have d:(x==p.1)=false:=by simpa using h.1
  simp only[MB,List.map_cons,dY,Instr.sameNow,if_true,d];exact Tt x ms (i+1) h.2
section
variable {P:Program} {w W:World} {ops:Array Oper} {rest:List Oper} {o:Oper} {a:Act} {Q:Exit->Act->World->Prop} {L:List Bk} {b:Nat} {es:Array MapEntry} {cl:Nat} {t kt e:TypeId}
theorem Tv(J:P.underlying t=some (.map kt e))(d:P.underlying kt=some (.int .i64))(j:W.heap[b]? =some (.map es cl))(i:Int)(K:Nat)(v:Value)(H:dY (.int .i64) i es.toList 0=some (some (K,v))):(Instr.lookup t (.map (some b)) i false).run P W=.ok v W:=by have hc:=MapKept.run_checkKey (P:=P) (w:=W) d (k:=i) (by trivial) es.isEmpty 9999;simp[Instr.lookup,run_underlying J,MapKept.run_getObj_map j,hc,Instr.findKey,run_underlying d,H]
theorem PX(J:P.underlying t=some (.map kt e))(d:P.underlying kt=some (.int .i64))(j:W.heap[b]? =some (.map es cl))(i:Int)(z:Value)(K:(zeroValue e).run P W=.ok z W)(H:dY (.int .i64) i es.toList 0=some none):(Instr.lookup t (.map (some b)) i false).run P W=.ok z W:=by have hc:=MapKept.run_checkKey (P:=P) (w:=W) d (k:=i) (by trivial) es.isEmpty 9999;simp[Instr.lookup,run_underlying J,MapKept.run_getObj_map j,hc,Instr.findKey,run_underlying d,H,K]
theorem AB{v:Value}(j:o.guard=none)(m k:Operand)(J:o.op=.lookup t m k false)(hm:a.eval m=.map (some b))(i:Int)(H:a.eval k=i)(K:(Instr.lookup t (.map (some b)) i false).run P W=.ok v W)(h:wpList P ops Q rest (a.put o.dst v) W):wpList P ops Q (o::rest) a W:=by refine wpList_plain j λM d=>?_;have:=d _ _ h;unfold Oper.wp execOp;simp only[J,hm,H,Sem.run_bind,K,dO];exact this
theorem EW(K:Own w W L)(d:W.heap[b]? =some (.map es cl))(N:w.heap.size<=b)(hn: ∀x∈L,x.1≠b)(O:o.guard=none)(m k y:Operand)(Y:o.op=.mapUpdate t m k y)(hm:a.eval m=.map (some b))(i:Int)(U:a.eval k=i)(v:Value)(hy:a.eval y=v)(Z:P.underlying t=some (.map kt e))(V:P.underlying kt=some (.int .i64))(M:dY (.int .i64) i es.toList 0=some none)(h: ∀W':World,Own w W' L->W'.heap[b]? =some (.map (es.push ⟨i,v,cl⟩) (cl+1))->W.grownBy W' (some b)->wpList P ops Q rest (a.put o.dst undef) W'):wpList P ops Q (o::rest) a W:=by refine wpList_plain O λaa J=>?_;obtain⟨j,H⟩:=K.mapped d N hn (.map (es.push ⟨i,v,cl⟩) (cl+1));have:=J _ _ (h _ j H (vk _ _ _));unfold Oper.wp execOp;simp only[Y,hm,U,hy,Sem.run_bind,AA Z V d i v M,dO];exact this
end
def ZJ (A:Option Addr) (i c:Nat):Option Addr:=if c=i then A else A.map (·.add (i*2))
section
variable (w:World) (a:Option Addr) (len cap:Nat)
theorem ajg:aj.underlying 194=some (.slice (aj.elem 194)):=by kernel_rfl
theorem acU:(sizeOf (aj.elem 194)).run aj w=.ok 2 w:=by
 have h:(aj.info? (aj.elem 194)).map (·.size)=some 2:=by kernel_rfl
 cases d:aj.info? (aj.elem 194) with
 |none=>rw[d]at h;cases h
 |some H=>
  have j:H.size=2:=by simpa[d] using h
  simp[sizeOf,typeInfo,d,j]
theorem Tz(d:IntKind)(l:Int)(j:0<=l)(H:l<=len):(Instr.slice 194 (.slice a len cap) (some (.int d l)) none none).run aj w=.ok (.slice (ZJ a l.toNat cap) (len-l.toNat) (cap-l.toNat)) w:=by rw[run_slice_l w 194 a len cap ajg d l j H,acU];simp[Result.andThen,sliced,ZJ]
end
theorem TA{w:World}{A:Option Addr}{c:Nat}{x:WV}{l:List WV}(h:fE qJ w A (x::l))(hc:l.length+1<=c):fE qJ w (ZJ A 1 c) l:=by
 intro d;have M:0<l.length:=by rw[arb.flat_length]at d;exact Nat.pos_of_mul_pos_right d
 obtain⟨b,off,e,j,H⟩:=h (by rw[arb.flat_length];simp[qJ]);subst e;refine⟨b,off+2,?_,j,λK u J=>?_⟩;·unfold ZJ;rw[if_neg (by omega)];simp[Addr.add]
 ·have:=H (2+K) u (by rw[arb.nX,List.getElem?_append_right (by simp[qJ])];simpa[qJ] using J);rwa [<-Nat.add_assoc]at this
theorem ZK(ms:List (Int × Nat))(es:Array MapEntry)(h:es.toList=MB ms)(i:Int)(cl:Nat):(es.push ⟨i,true,cl⟩).toList=MB (ms++ [(i,cl)]):=by simp[MB,h]
theorem ZL(W:World):(zeroValue 4).run aj W=.ok (.bool false) W:=by
 have h:(aj.info? 4).map (·.zero)=some (some (.bool false)):=by kernel_rfl
 cases d:aj.info? 4 with
 |none=>rw[d]at h;cases h
 |some H=>
  have j:H.zero=some (.bool false):=by simpa[d] using h
  simp[zeroValue,typeInfo,d,j]
theorem Own.jD(w:World)(d:TypeId)(c1:Array Value):Own w (w.alloc (.cells c1 d)) [(w,d,c1)]:=(Own.nil w).alloc d c1 _ rfl
theorem Own.al4{w W:World}{x y:Bk}(h:Own w W [x,y]):Own w W [x]:=⟨h.below,λz d=>h.blk z (by simp only[dN]at d;subst d;simp),by simp⟩
theorem acV(f:List Int × Int × List Int)(A1:Option Addr)(c1:Nat)(A3:Option Addr)(c3:Nat)(Ap:Option Addr)(n cp:Nat)(K:List WV)(w:World)(bd:fE aq7 w A3 f.2.2)(bf:f.2.2.length<=1000000)(J:fE qJ w Ap K)(O:K.length=n)(hn:n<=65536)(a7:n<=cp):Calls aj 162 #[.agg (Af f A1 c1 A3 c3),.slice Ap n cp] w λe w'=>e=.returned (.bool (Ia f (K.map (·.id))))/\w w':=by
 obtain⟨R,hR⟩:=fD (Ia f (K.map (·.id)));rw[<-hR];have HR:=ah hR;clear hR;have d:Own w _ [_]:=Own.jD w 240 (#[.slice A1 f.1.length c1,.int .i64 f.2.1,.slice A3 f.2.2.length c3]);have ar:=d.b0.cell;unfold Af;go_enter func162,ntmps162;go_upto_if 10 with fail;go_cut [1] from 8 (λx W=> ∃Al n2 c2 j,x=.slice Al n2 c2/\n2<=65536/\Own w W [(w,240,#[.slice A1 f.1.length c1,.int .i64 f.2.1,.slice A3 f.2.2.length c3])]/\Hid (fE qJ w Al j)/\Hid (j.length=n2)/\Hid (R=mg f.2.2 (j.map (·.id)) []));case first=>
  by_cases hm:0<=f.2.1
  ·(have f0:decide (0<=f.2.1)=true:=by simpa using hm);have hF:=HR.out;unfold Ia at hF;rw[if_pos hm]at hF;clear hm HR;cases K with
   |nil=>obtain rfl:n=0:=O.symm;replace hF:=ah hF;simp only[f0];go_wp2_with fail;refine ara (by kernel_rfl) ?_;(repeat(first|(apply gX.want rfl;(·intro w' N aE Q' hK;have ad:=d.grow N;have aL:=ad.b0.cell;go_wp2_with(fail);first|exact aH _ _|exact hb3);(·simp only[aP,ay,aA,aB];rfl))|(apply gX.skip rfl;·simp only[aP,ay,aA,aB];rfl)));refine gX.nil ?_;intro w' N;have am:=(d.grow N).below;go_wp2_with fail;go_ret;exact⟨by rw[hF.out];rfl,am⟩
   |cons y0 K=>obtain⟨n,rfl⟩: ∃m,n=m+1:=⟨K.length,by simpa using O.symm⟩;obtain⟨g,off,ba,hg,av⟩:=J.get (i:=0) (x:=y0) rfl;have an:=av 0 _ rfl;simp only[Nat.zero_mul,bI]at an;subst ba;(have fn:((n:Int)+1==0)=false:=by rw[beq_eq_false_iff_ne];omega);simp only[List.map_cons]at hF;obtain⟨b1,e1⟩: ∃b,(y0.id != f.2.1)=b:=⟨_,rfl⟩;obtain⟨b2,e2⟩: ∃b,(f.2.1 != 0)=b:=⟨_,rfl⟩;obtain⟨b3,e3⟩: ∃b,(y0.id != 1)=b:=⟨_,rfl⟩;rw[show(decide (y0.id=f.2.1) || decide (f.2.1=0)&&decide (y0.id=1))=(!b1 || !b2&& !b3) by rw[<-e1,<-e2,<-e3,Bool.eq_iff_iff];simp]at hF;have al:=TA (c:=cp) J (by simp at O;omega);(have bh: ∀W,(Instr.slice 194 (.slice (some ⟨g,off,none⟩) (n+1) cp) (some (.int .i64 1)) none none).run aj W=.ok (.slice (ZJ (some ⟨g,off,none⟩) 1 cp) n (cp-1)) W:=λW=>by rw[Tz W _ _ _ .i64 1 (by omega) (by omega)];simp);obtain⟨Al,au⟩:=fD (ZJ (some ⟨g,off,none⟩) 1 cp);rw[<-au]at al bh;have HY:=ah al;have ac:Hid (K.length=n):=ah (by simpa using O);obtain⟨iy,ax⟩:=fD y0.id;rw[<-ax]at an e1 e3;clear al au av J O ax;cases b1 <;> cases b2 <;> cases b3;all_goals have HF:=ah hF;clear hF;simp only[f0];go_wp2_with fail;refine ara (by kernel_rfl) ?_;(repeat(first|(apply gX.want rfl;(·intro w' N aE Q' hK;have ad:=d.grow N;have aL:=ad.b0.cell;have bn:=(ad.below.cell (p:=⟨g,off,none⟩) hg).trans an;go_wp2_with(fail);first|exact aH _ _|exact hb3);(·simp only[aP,ay,aA,aB];rfl))|(apply gX.skip rfl;·simp only[aP,ay,aA,aB];rfl)));refine gX.nil ?_;intro w' N;replace d:=d.grow N;have am:=d.below;clear N;go_wp2_with fail;first|(go_meet;exact⟨Al,n,cp-1,K,rfl,by omega,d,HY,ac,ah (by rw[HF.out];rfl)⟩)|(go_ret;exact⟨by rw[HF.out];rfl,am⟩)
  ·(have f0:decide (0<=f.2.1)=false:=by simpa using hm);have HF:Hid (R=mg f.2.2 (K.map (·.id)) []):=ah (by rw[HR.out];unfold Ia;rw[if_neg hm]);replace O:=ah O;replace J:=ah J;clear HR hm;simp only[f0];go_wp2_with fail;go_meet;exact⟨_,_,_,K,rfl,hn,d,J,O,HF⟩
 case rest=>
  obtain⟨Al,n2,c2,j,rfl,bo,d,HY,ac,ag⟩:=hcut;clear HR J O hn a7 ar;have ar:=d.b0.cell;go_wp2_with((with_reducible refine qE d rfl rfl ?_);intro wR kN M a5;obtain⟨gm,ap⟩:=fD wc.heap.size;rw[<-ap]at M ⊢;have bb:w.heap.size<=gm:=(by rw[ap];exact d.below.size);have bc: ∀z∈([(w,240,#[.slice A1 f.1.length c1,.int .i64 f.2.1,.slice A3 f.2.2.length c3])]:List Bk),z.1≠gm:=(by intro z hz e;have:=(d.blk z hz).2.lt;omega);clear ap);have bj:=kN.below;clear d a5;go_loopw [40] (λi wr=> ∃(k:Nat) (ms:List (Int × Nat)) (es:Array MapEntry) (cl:Nat) (U:List Int),i=.int .i64 k/\k<=n2/\Own w wr [(w,240,#[.slice A1 f.1.length c1,.int .i64 f.2.1,.slice A3 f.2.2.length c3])]/\wr.heap[gm]? =some (.map es cl)/\Hid (es.toList=MB ms/\(∀x,x∈ms.map (·.1)<->x∈U)/\mg f.2.2 (j.map (·.id)) []=mg f.2.2 ((j.drop k).map (·.id)) U)) (λi _=>n2-(intOf i).toNat);case atStart=>exact⟨0,[],#[],0,[],rfl,aV _,kN,M,ah ⟨rfl,by simp,rfl⟩⟩
  case round=>clear M kN;obtain⟨k,ms,es,cl,U,rfl,N,ak,M,H⟩:=hrel;by_cases aq:k<n2;(·(have a8:decide ((k:Int)<(n2:Int))=true:=by simpa using aq);obtain⟨y,J⟩:=aq5 ac.out aq;obtain⟨g,off,a9,hg,hc⟩:=(HY.out.below ak.below).get J;have a0:=hc 0 _ rfl;have a1:=hc 1 _ rfl;simp only[qJ,bI]at a0 a1;subst a9;have jc:=ak.new1 198 #[.int .i64 y.id,.slice y.A y.n y.c];have bk:=jc.b1.cell;have bm:=jc.b0.cell;have ai:(wr.alloc (.cells #[.int .i64 y.id,.slice y.A y.n y.c] 198)).heap[gm]? =some (.map es cl):=(jm.block gm (by rcases eu gm wr with h |h;exact h;rw[dI h]at M;cases M)).trans M;have aw:j.drop k=y::j.drop (k+1):=ark J;(have aD:mg f.2.2 ((j.drop k).map (·.id)) U=(!(U.contains y.id)&&f.2.2.contains y.id&&mg f.2.2 ((j.drop (k+1)).map (·.id)) (y.id::U)):=by rw[aw];rfl);have Y:=ah (H.out.2.2.trans aD);clear aD aw J hc;by_cases V:y.id∈U;(·obtain⟨bi,hj⟩:=YD y.id ms 0 ((H.out.2.1 _).2 V);rw[<-H.out.1]at hj;have af:=Tv (P:=aj) underlying300 bG ai y.id bi _ hj;have aa:Hid (mg f.2.2 (j.map (·.id)) []=false):=ah (by rw[Y.out];simp[V]);clear hj V H Y;go_wp2_with((with_reducible refine AB rfl _ _ rfl rfl _ rfl af ?_));go_ret;exact⟨by rw[ag.out,aa.out];rfl,jc.below⟩);·(have az:dY (.int .i64) (.int .i64 y.id) es.toList 0=some none:=by rw[H.out.1];exact Tt y.id ms 0 (λh=>V ((H.out.2.1 _).1 h)));have af:=PX (P:=aj) underlying300 bG ai y.id _ (ZL _) az;have ae:=ajf A3 f.2.2.length c3 f.2.2 y.id _ (bd.below jc.below) rfl bf;cases Z:f.2.2.contains y.id with|false=>have aa:Hid (mg f.2.2 (j.map (·.id)) []=false):=ah (by rw[Y.out,Z];simp);rw[Z]at ae;clear Z V H Y;go_wp2_with(first|(with_reducible refine AB rfl _ _ rfl rfl _ rfl af ?_)|(go_at_call 209;apply ae.mono;rintro e fU⟨rfl,fJ⟩;obtain rfl:=fJ.symm));go_ret;exact⟨by rw[ag.out,aa.out];rfl,jc.below⟩|true=>have aR:Hid ((es.push ⟨.int .i64 y.id,.bool true,cl⟩).toList=MB (ms++ [(y.id,cl)])/\(∀x,x∈(ms++ [(y.id,cl)]).map (·.1)<->x∈y.id::U)/\mg f.2.2 (j.map (·.id)) []=mg f.2.2 ((j.drop (k+1)).map (·.id)) (y.id::U)):=ah ⟨ZK ms es H.out.1 _ _,λx=>by rw[eX,dK,H.out.2.1];simp[or_comm],by rw[Y.out,Z];simp[V]⟩;rw[Z]at ae;clear Z V H Y;(have aM: ∀z∈([(w,240,#[.slice A1 f.1.length c1,.int .i64 f.2.1,.slice A3 f.2.2.length c3]),(wr,198,#[.int .i64 y.id,.slice y.A y.n y.c])]:List Bk),z.1≠gm:=by intro z hz;simp only[bJ,dH,or_false]at hz;rcases hz with rfl |rfl;(·exact bc _ (by simp));·rcases eu gm wr with h |h;(·exact λe=>by simp at e;omega);·rw[dI h]at M;cases M);go_wp2_with(first|(with_reducible refine AB rfl _ _ rfl rfl _ rfl af ?_)|(go_at_call 209;apply ae.mono;rintro e fU⟨rfl,fJ⟩;obtain rfl:=fJ.symm)|((with_reducible refine EW jc ai bb aM rfl _ _ _ rfl rfl _ rfl _ rfl underlying300 bG az ?_);intro fU a4 WX fJ));go_roundw;(case rel=>exact⟨k+1,_,_,_,_,by go_num,by omega,Own.al4 a4,WX,aR⟩);case measure=>simp[intOf];omega);·(obtain rfl:k=n2:=by omega);(have a8:decide ((k:Int)<(k:Int))=false:=by simp);have aa:Hid (mg f.2.2 (j.map (·.id)) []=true):=ah (by rw[H.out.2.2,dJ (by rw[ac.out];exact aW _)];rfl);have a6:=ak.below;clear H aq;go_wp2_with fail;go_ret;exact⟨by rw[ag.out,aa.out];rfl,a6⟩
end
end Go.Proofs.YthnmgjngniciaaaGreatDoor
