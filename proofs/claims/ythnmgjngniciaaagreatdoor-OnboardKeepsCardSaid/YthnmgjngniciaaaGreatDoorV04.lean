/- Parts. -/
import Derived.Test.YthnmgjngniciaaaGreatDoorV03
import Derived.Deep.DeepCutAuto
set_option linter.all false
set_option maxHeartbeats 16000000
set_option maxRecDepth 8000
open BitVec renaming ofInt->aQ
open Bool renaming and_eq_true->bM,false_eq_true->bU
open List renaming cons_append->bQ,eq_nil_of_length_eq_zero->dw,getElem?_append_left->dP,getElem?_cons_succ->fB,getElem?_cons_zero->eP,getElem?_map->bW,length_append->bC,length_cons->bK,length_map->eU,length_nil->dU,length_take->dX,map->bV,map_append->eX,mem_append->dK,mem_cons->bJ,mem_of_getElem?->bP,nil_append->aZ,not_mem_nil->dH,replicate->eH,setIfInBounds_toArray->ay,set_cons_succ->aB,set_cons_zero->aA,take_of_length_le->aY
open Nat renaming add_zero->bI,le_of_eq->bZ,le_refl->aW,le_trans->aG,lt_of_lt_of_le->aU,mod_eq_of_lt->dF,reduceAdd->aT,zero_add->aJ,zero_le->aV
open Option renaming map_some->eF
open Option.some renaming injEq->aO
namespace Go.Proofs.YthnmgjngniciaaaGreatDoor
open Go renaming Addr->δ,Calls->Γ,Ending->ε,Oper->ο,Operand->κ,Program->χ,TypeId->τ,Value->Θ,World->ω,binOp->γ,bodyPost_ret->β,maxLen->μ,run_underlying->ν,setRow_other->ζ,undef->υ,wpList->Δ,wpList_plain->π,yielded->ψ
open Go.RowKit Go.Shelf Tryz
open Act renaming put->aP
open Below renaming heap_setCell->aN,refl->aH
open Lib renaming hid->ah
open Region renaming binds->aC,wanted->aF
open Result renaming andThen_ok->dO
open Tryz renaming prog->aj,underlying3->bG,underlying45->dW
open Value renaming oneCell'->aK
open Value.slice renaming injEq->dV
open World renaming setCell->dD
variable{a:Act}{ops:Array ο}{cs:Array Θ}{Q:Exit->Act->ω->Prop}{S:wE}{er id last now u:Int}{L L1 L2:List Bk}{l:List Int}{f:List Int × Int × List Int}{rest:List ο}{acc ps:List Pk}{xs:List WV}{b bs:List UInt8}{B B' N c c1 c2 c3 g i m n p q:Nat}{s s':Nat × Int}{Df:Nat->Nat->Prop}{D D' T:Nat->Prop}{o:ο}{A A1 A2 A3:Option δ}{R:Option Nat}{v:Θ}{W W' w w':ω}
theorem WZ{v:Int}{s:Up}(h:zK bs v s=.error er):er≠0:=by unfold zK at h;grind
theorem N9{f:Up->Except Int Up}(j: ∀s er,f s=.error er->er≠0): ∀(n:Nat) (s:Up) (er:Int),jg f n s=.error er->er≠0
 |0,s,er,h=>by rw[jg]at h;cases h
 |n+1,s,er,h=>by rw[jg]at h;cases H:f s with|error e=>grind|ok J=>rw[H]at h;exact N9 j n _ _ h
theorem J5: ∀(q:Pt) (last:Int) (s:Up) (er:Int),mV (zK bs) q last s=.error er->er≠0
 | .nil,last,s,er,h=>by rw[mV]at h;cases h
 | .pl v r,last,s,er,h=>by
  rw[mV]at h;cases j:zK bs v s with
  |error e=>rw[j]at h;cases h;exact WZ j
  |ok H=>rw[j]at h;exact J5 r _ _ _ h
 | .grp k l r,last,s,er,h=>by
  rw[wL]at h;cases j:jg (mV (zK bs) l 0) (qC k last) s with
  |error e=>rw[j]at h;cases h;exact N9 (λs er h=>J5 l 0 s er h) _ _ _ j
  |ok J=>rw[j]at h;exact J5 r _ _ _ h
theorem Me.reset{br bz bp:Nat}{Ab:Option δ}{cb:Nat}{O:Int}{s:Up}(h:Me B br bz bp p bs Ab cb O A c s T W)(id:Int): ∃T',Ext T W T' ((W.setCell ⟨bp,0,none⟩ id).setCell ⟨bp,1,none⟩ nS)/\Me B br bz bp p bs Ab cb id none 0 {s with v:= []} T' ((W.setCell ⟨bp,0,none⟩ id).setCell ⟨bp,1,none⟩ nS):=by
 have hn:=h.ne;have j: ∀k,k≠bp->((W.setCell ⟨bp,0,none⟩ id).setCell ⟨bp,1,none⟩ nS).heap[k]? =W.heap[k]? :=λk H=>(aN _ ⟨bp,1,none⟩ _ k H).trans (aN W ⟨bp,0,none⟩ _ k H);have J:((W.setCell ⟨bp,0,none⟩ id).setCell ⟨bp,1,none⟩ nS).heap.size=W.heap.size:=by simp
 refine⟨λk=>k=p\/k=bz\/k=bp,⟨rfl,rfl,rfl,bZ J.symm,λk U M=>j k (λe=>M ((h.foot k).2 (.inr (.inr (.inl e))))),λk H=>?_⟩,{foot:=λk=>by simp,rp:=(j br hn.2.2.1).trans h.rp,rd:=⟨(j p hn.2.2.2.2.1).trans h.rd.blk,h.rd.bytes.keep' (bZ J.symm) (λK a e _=>j _ (h.ab K a e).2.2),h.rd.far⟩,zb:=(j bz hn.2.2.2.2.2).trans h.zb,pb:=(h.pb.iV 0 _).iV 1 _,own:=aq1.nil _ _,lt:=h.lt,ne:=hn,pos:=h.pos,ab:=h.ab,size:=by rw[J];exact h.size,tab:=h.tab.keep' (bZ J.symm) (λ_=>j 0 (by have:=h.pos;omega)),len:=h.len,inn:=h.inn,vl:=aV _}⟩;rcases H with e |e |e;.exact .inl ((h.foot k).2 (.inl e))
 .exact .inl ((h.foot k).2 (.inr (.inl e)))
 .exact .inl ((h.foot k).2 (.inr (.inr (.inl e))))
theorem yY{id x y:Int}(M:fK W w 198 #[id,v])(hn:fK W (w.heap.size+1) 3 #[x])(K:fK W (w.heap.size+1+1) 51 #[y])(J:w W)(j H:Int):fK ((((W.setCell ⟨w,0,none⟩ id).setCell ⟨w,1,none⟩ v).setCell ⟨w.heap.size+1,0,none⟩ j).setCell ⟨w.heap.size+1+1,0,none⟩ H) w 198 #[id,v]/\fK ((((W.setCell ⟨w,0,none⟩ id).setCell ⟨w,1,none⟩ v).setCell ⟨w.heap.size+1,0,none⟩ j).setCell ⟨w.heap.size+1+1,0,none⟩ H) (w.heap.size+1) 3 #[j]/\fK ((((W.setCell ⟨w,0,none⟩ id).setCell ⟨w,1,none⟩ v).setCell ⟨w.heap.size+1,0,none⟩ j).setCell ⟨w.heap.size+1+1,0,none⟩ H) (w.heap.size+1+1) 51 #[H]/\w ((((W.setCell ⟨w,0,none⟩ id).setCell ⟨w,1,none⟩ v).setCell ⟨w.heap.size+1,0,none⟩ j).setCell ⟨w.heap.size+1+1,0,none⟩ H):=by
 refine⟨?_,?_,?_,?_⟩;.exact((((M.iV 0 _).iV 1 _).far (p:=⟨w.heap.size+1,0,none⟩) (by simp) _).far (p:=⟨w.heap.size+1+1,0,none⟩) (by grind) _)
 .exact((((hn.far (p:=⟨w,0,none⟩) (by simp) _).far (p:=⟨w,1,none⟩) (by simp) _).iV 0 _).far (p:=⟨w.heap.size+1+1,0,none⟩) (by simp) _)
 .exact((((K.far (p:=⟨w,0,none⟩) (by grind) _).far (p:=⟨w,1,none⟩) (by grind) _).far (p:=⟨w.heap.size+1,0,none⟩) (by simp) _).iV 0 _)
 .exact(((J.setCell (p:=⟨w,0,none⟩) ig _).setCell (p:=⟨w,1,none⟩) ig _).setCell (p:=⟨w.heap.size+1,0,none⟩) (by simp) _).setCell (p:=⟨w.heap.size+1+1,0,none⟩) (by grind) _
def outT (id:Int) (r at_:Nat) (g:Except Int Up):Except Int (Pk × Nat):=match g with
 | .error e=> .error e
 | .ok s'=>if s'.size≠((s'.at_-r:Nat):Int) then .error 20 else if 8184<s'.at_-r then .error 2 else .ok (⟨id,s'.v⟩,at_+(s'.at_-r))
theorem af6(bs:List UInt8)(A:Option δ)(c:Nat)(at_:Nat)(w:ω)(hT:Tab w)(hB:aq2 w A c bs)(hl:bs.length<=2000)(ha:at_<=8*bs.length):Γ aj 169 #[.slice A bs.length c,at_] w (xU w (DU bs at_)):=by
 obtain⟨R,hR⟩:=fD (DU bs at_);rw[<-hR];unfold DU at hR;have hO:Own w _ [_,_,_]:=Own.start3 w 198 3 51 gH #[zI] #[zI];have d1:decide ((at_:Int)<0)=false:=by simp
 have d2:decide ((8:Int)*(bs.length:Nat)<(at_:Int))=false:=by grind
 obtain⟨n,hn⟩:=fD bs.length;obtain⟨q,hq⟩:=fD (at_ / 8);obtain⟨r,hr⟩:=fD (at_ % 8);obtain⟨Z,bn⟩:=fD (bs.drop q);obtain⟨n',bo⟩:=fD Z.length;have ca:n-q=n':=by grind
 obtain⟨cA,ai⟩:=fD (qQ A q c);have cI:(at_:Int) / 8=(q:Int):=by omega
 have zZ:(at_:Int) % 8=(r:Int):=by omega
 have cJ: ∀W,(Instr.slice 45 (.slice A n c) (some (q:Int)) none none).run aj W=.ok (.slice cA n' (c-q)) W:=λW=>by rw[tJ W A n c .i64 q (by omega) (by omega),ai];simp[ca]
 have bO:aq2 w cA (c-q) Z:=by rw[ai,bn];exact hB.cutFrom q (by omega)
 have ba:=λW (h:aq2 W cA (c-q) Z)=>ai7 h (by omega);rw[<-bo]at ba;rw[<-hq,<-hr,<-bn]at hR;rw[<-hn]at d2 |-;have HR:=ah hR;have HN:=ah bo;have HB:=ah bO;have P6:Hid (n'<=2000/\r<=8*n'/\r<8/\(r≠0->0<n')):=ah (by omega);unfold SH at ba;have cG:n<=2000:=by omega
 have cH:q<=n:=by omega
 have cF:at_<=8*n:=by omega
 clear hR hB bO hn bo bn ai hl ha ca hq hr;go_enter_defers func169,ntmps169;by_cases aM:r=0;focus((have d3:decide (0<r)=false:=by grind);have bB:=ah aM;clear aM;go_wp2_with(first|((with_reducible refine(ba _ (HB.out.below hO.below)).mono ?_);rintro e H⟨pr,Ab,cb,rfl,bu,ax,bj,bm⟩;have a1:rY (H.alloc (.cells #[.pointer pr] 257)) pr Z r Ab cb:=(by rw[bB.out];exact ax.below (gY.alloc ig (.cells #[.pointer pr] 257))))|((with_reducible refine(ZB a1).mono ?_);rintro e w2⟨rfl,fU⟩;obtain rfl:=fU.symm));have av:=(hO.grow bm).grow (gY.alloc ig (.cells #[.pointer pr] 257));have a4:=fK.new H 257 #[.pointer pr];have a5:=a1;have a8:w.heap.size+3<=pr/\pr<H.heap.size:=⟨by have:=bu;simp at this;omega,ax.blk.lt⟩;have hS:=JZ (fc:=.func (.func 215) #[] #[.pointer H,.pointer (some ⟨((H.alloc (.cells #[.pointer pr] 257))).heap.size,0,none⟩),.pointer w]) hT av a4 a5 (by omega) (by omega) (by omega) (λa e=>by have:=bj a e;simp at this;omega) (by have:=P6.out;have:=HN.out;omega) (by have:=P6.out;have:=HN.out;omega);obtain⟨bz,ae⟩:=fD (((H.alloc (.cells #[.pointer pr] 257))).heap.size);obtain⟨WA,ad⟩:=fD ((((H.alloc (.cells #[.pointer pr] 257))).alloc (.cells #[zI] 3)).alloc (.cells #[.func (.func 215) #[] #[.pointer H,.pointer (some ⟨((H.alloc (.cells #[.pointer pr] 257))).heap.size,0,none⟩),.pointer w]] 316));(have a7:Below ((H.alloc (.cells #[.pointer pr] 257))).heap.size ((H.alloc (.cells #[.pointer pr] 257))) WA:=by rw[ad];exact jm.alloc (by simp) _);have V:=av.grow a7;have af:=fK.new (((H.alloc (.cells #[.pointer pr] 257))).alloc (.cells #[zI] 3)) 316 #[.func (.func 215) #[] #[.pointer H,.pointer (some ⟨((H.alloc (.cells #[.pointer pr] 257))).heap.size,0,none⟩),.pointer w]];rw[<-ad]at hS af;(have cw:WA.heap.size=bz+2:=by rw[ad,ae];simp);rw[show(((H.alloc (.cells #[.pointer pr] 257))).alloc (.cells #[zI] 3)).heap.size=bz+1 by rw[ae];simp]at af;rw[<-ae]at hS af;rw[show(H.alloc (.cells #[.pointer pr] 257)).heap.size=H.heap.size+1 by simp]at ae ad)
 rotate_left;focus((have d3:decide (0<r)=true:=by grind);have bB:=ah aM;(have cm:xH Z.length 0 (r:Int)=r:=by have h1:=P6.out;have h2:=HN.out;have h3:=h1.2.2.2 aM;(have h4:uY Z.length 0 (r:Int)=0:=by unfold uY;omega);unfold xH;rw[Υ h4];omega);clear aM;go_wp2_with(first|((with_reducible refine(ba _ (HB.out.below hO.below)).mono ?_);rintro e H⟨pr,Ab,cb,rfl,bu,ax,bj,bm⟩;have a1:rY (H.alloc (.cells #[.pointer pr] 257)) pr Z 0 Ab cb:=ax.below (gY.alloc ig (.cells #[.pointer pr] 257)))|((with_reducible refine(acj a1 (by have:=P6.out;have:=HN.out;omega) (aV _) _).mono ?_);rintro e w2⟨rfl,az,fU⟩;have bd:rY w2 pr Z r Ab cb:=(by rw[<-cm];omega);have bL:fK w2 H 257 #[.pointer pr]:=az.blk (fK.new H 257 #[.pointer pr]) (λo hm=>by simp at hm;have:=ax.blk.lt;omega);have fJ:=bL.cell)|((with_reducible refine(ZB bd).mono ?_);rintro e fU⟨rfl,fJ⟩;obtain rfl:=fJ.symm));have jc:=(hO.grow bm).grow (gY.alloc ig (.cells #[.pointer pr] 257));have cd:w.heap.size+3<=pr/\pr<H.heap.size:=⟨by have:=bu;simp at this;omega,ax.blk.lt⟩;have av:Own w w2 [_,_,_]:=jc.turn (b:=pr) (by omega) (λx hx e=>by simp only[bJ,dH,or_false]at hx;rcases hx with rfl |rfl |rfl;omega;omega;omega) az.size (λk h1 h2=>az.block k h1 (λo hm=>by simp at hm;omega)) ⟨az.os,az.tape,az.output⟩;have a4:=bL;have a5:=bd;have a8:w.heap.size+3<=pr/\pr<w2.heap.size:=⟨cd.1,bd.blk.lt⟩;have hS:=JZ (fc:=.func (.func 215) #[] #[.pointer H,.pointer (some ⟨w2,0,none⟩),.pointer w]) hT av a4 a5 (by omega) (by omega) (by omega) (λa e=>by have:=bj a e;simp at this;omega) (by have:=P6.out;have:=HN.out;omega) (by have:=P6.out;have:=HN.out;omega);obtain⟨bz,ae⟩:=fD ((w2).heap.size);obtain⟨WA,ad⟩:=fD (((w2).alloc (.cells #[zI] 3)).alloc (.cells #[.func (.func 215) #[] #[.pointer H,.pointer (some ⟨w2,0,none⟩),.pointer w]] 316));(have a7:w2 WA:=by rw[ad];exact jm.alloc (by simp) _);have V:=av.grow a7;have af:=fK.new ((w2).alloc (.cells #[zI] 3)) 316 #[.func (.func 215) #[] #[.pointer H,.pointer (some ⟨w2,0,none⟩),.pointer w]];rw[<-ad]at hS af;(have cw:WA.heap.size=bz+2:=by rw[ad,ae];simp);rw[show((w2).alloc (.cells #[zI] 3)).heap.size=bz+1 by rw[ae];simp]at af;rw[<-ae]at hS af)
 all_goals(
  rw[<-ad];simp only[<-ae];replace a8:w.heap.size+3<=pr/\pr<bz:=by omega
  clear a7 av a4 a5 ae ad;have ci:=YB (bz+2) (H.heap.size) bz w pr Z 0;have ai:=ci.call 5 _ _ WA ⟨Ab,cb,none,0,hS⟩ (λ_=>by decide);cases hv:zK Z 5 ⟨r,[],0⟩ with
  |error er=>rw[hv]at ai;refine ai.mono ?_;rintro e w8⟨T8,an,rfl,s8,bw,cb8,A8,c8,h8⟩;have bq:=(an.same _ V.b1.lt (λc=>by omega)).trans V.b1;have WT:=(an.same _ V.b2.lt (λc=>by omega)).trans V.b2;exact J3 er _ _ _ _ (WZ hv) (by rw[HR.out,hv]) rfl rfl rfl h8.pb rfl bq WT (V.below.trans (an.vU V.below.size (λk c=>by omega)))
  |ok ns=>obtain⟨id,s1⟩:=ns;rw[hv]at ai;refine ai.mono ?_;rintro e w8⟨T8,an,rfl,bw,cb8,A8,c8,h8⟩;have bq:=(an.same _ V.b1.lt (λc=>by omega)).trans V.b1;have WT:=(an.same _ V.b2.lt (λc=>by omega)).trans V.b2;dsimp only;obtain⟨T9,bk,h9⟩:=h8.reset id;have aD:=an.trans bk;have cD:=h8.pb.cell;have cE:=h8.pb.frozen;obtain⟨W9,Vw⟩:=fD ((w8.setCell ⟨w,0,none⟩ id).setCell ⟨w,1,none⟩ nS);rw[<-Vw]at bk h9 aD;have U:=(aD.same _ V.b1.lt (λc=>by omega)).trans V.b1;have O:=(aD.same _ V.b2.lt (λc=>by omega)).trans V.b2;have ap:=h9.pb;have cf:=h9.pb.cell;rw[Vw]at cf;have ar:=λW=>Gp id W;have xW:w W9:=V.below.trans (aD.vU V.below.size (λk c=>by omega));clear an bk bq WT h8 ai;cases hq:lu id with|none=>rw[hq]at ar;have aq:Hid (R=.error 50):=ah (by rw[HR.out,hv];simp only[hq]);go_wp2_with((with_reducible refine(ar _).mono ?_);rintro e aa⟨rfl,j⟩;rw[<-Vw]at j;have bf:=h9.pb.below j h9.pb.lt;have bh:=fK.below U j (fK.lt U);have bi:=fK.below O j (fK.lt O);have YF:=bf.cell;have cB:=bf.frozen;have cC:=bh.cell;have cx:=bh.frozen;have cy:=bi.cell;have cz:=bi.frozen);have M:=yY (v:=nS) bf bh bi (xW.trans (j.mono xW.size)) 0 50;exact J4 50 _ _ _ (by decide) aq.out rfl rfl rfl M.1 rfl M.2.1 M.2.2.1 M.2.2.2|some q=>rw[hq]at ar;have aw:=λW=>Gl id (B:=W.heap.size) W ig;rw[hq]at aw;unfold vF at aw;have a9:=ES hq;obtain⟨gq,aL⟩:=fD (mV (zK Z) q 0 {s1 with v:= []});have am:Hid (∀(aa ac:ω) (Aq:Option δ) (cq:Nat),W9 aa->aa ac->sO aa ac Aq q->Γ aj 217 #[.pointer (some ⟨bz+1,0,none⟩),.slice Aq q.len cq] ac (yU (Tf (bz+2) (H.heap.size) bz w pr Z id) (λT W=> ∃s,Tf (bz+2) (H.heap.size) bz w pr Z id s T W) T9 ac gq)):=ah (by intro aa ac Aq cq j sQ ak;have ch:=(h9.below j).below sQ;(have bR: ∀k,T9 k->k<bz+1:=λk c=>by rcases(h9.foot k).1 c with e |e |e |e;omega;omega;omega;.cases e);have aE:fK W9 (bz+1) 316 _:=(aD.same _ af.lt (λc=>by omega)).trans af;rw[aL];exact SY (YB (bz+2) (H.heap.size) bz w pr Z id) (B:=aa.heap.size) (wp:=ac) (bz+1) (q.size+1) q (Nat.lt_succ_self _) a9.1 Aq cq q.len rfl _ _ ac ⟨bw,cb8,none,0,ch⟩ a9.2.1 ak ig (λk h1 h2=>⟨rfl,λc=>by have:=bR k c;have:=aE.lt;have:=j.size;omega⟩) a9.2.2.1 ((aE.below j aE.lt).below sQ (fK.lt (aE.below j aE.lt))) (λc=>by have:=bR _ c;omega));have bb:Hid (R=outT id r at_ gq):=ah (by rw[HR.out,hv];simp only[hq];rw[aL];rfl);have HG:=ah aL;(have bS: ∀k,T9 k->w.heap.size<=k:=λk c=>by rcases(h9.foot k).1 c with e |e |e |e;omega;omega;omega;.cases e);(have bX: ¬T9 (w.heap.size+1)/\ ¬T9 (w.heap.size+1+1):=by(refine⟨λc=>?_,λc=>?_⟩ <;> rcases(h9.foot _).1 c with e |e |e |e);omega;omega;omega;(.cases e);omega;omega;omega;.cases e);have bx:Hid (∀s',gq=.ok s'->r<=s'.at_/\s'.at_<=16000):=ah (by intro s' e;obtain⟨_,_,k2,_,_,k6,_⟩:=P5 hv;obtain⟨_,_,_,m2,_,_,m6,_⟩:=JX q 0 0 {s1 with v:= []} s' (JY hq).1 (.inl rfl) (by rw[<-aL];exact e);have h1:=m6 k6;have h2:=P6.out;have h3:=HN.out;simp only at k2 m2;omega);have aR:=ah bS;have al:=ah bX;have bA:=ah a8;clear hq a9 aL h9 af bS bX a8;cases gq with|error er=>unfold yU at am;simp only at am;go_wp2_with(first|((with_reducible refine(ar _).mono ?_);rintro e aa⟨rfl,j⟩;rw[<-Vw]at j;have YF:=(fK.below ap j (fK.lt ap)).cell)|((with_reducible refine(aw _).mono ?_);rintro e ac⟨Aq,nq,cq,rfl,sQ,fU,rfl,ak⟩)|((with_reducible refine(am.out _ _ _ _ j sQ ak).mono ?_);rintro e ag⟨fU,Y,rfl,fJ,iG,jQ,ZP,a6,J⟩));have K:=j.trans (sQ.mono j.size);have AP:=xW.trans (K.mono xW.size);have Gs:=(Y.same _ (fK.lt (fK.below U K (fK.lt U))) al.out.1).trans (fK.below U K (fK.lt U));have Gt:=(Y.same _ (fK.lt (fK.below O K (fK.lt O))) al.out.2).trans (fK.below O K (fK.lt O));exact J3 er _ _ _ _ (J5 _ _ _ _ HG.out.symm) bb.out rfl rfl rfl J.pb rfl Gs Gt (AP.trans (Y.vU AP.size aR.out))|ok s'=>obtain⟨ct,cn⟩:=bx.out s' rfl;unfold yU at am;simp only at am;obtain⟨a',v',z'⟩:=s';simp only at ct cn;obtain⟨u,cc⟩:=fD (a'-r);(have hu:(a':Int)-(r:Int)=(u:Int):=by omega);have bc:Hid (R=if z'≠(u:Int) then .error 20 else if 8184<u then .error 2 else .ok (⟨id,v'⟩,at_+u)):=ah (by rw[bb.out];unfold outT;simp only;rw[<-cc]);clear bx bb HG cc;by_cases au:z'=(u:Int);(.by_cases h8:8184<u;(.have aq:Hid (R=.error 2):=ah (by rw[bc.out,Ξ (by omega),Υ h8]);(have bN:(z' != (u:Int))=false:=by simpa using au);(have f8:decide ((8184:Int)<(u:Int))=true:=by simp;omega);clear au h8;go_wp2_with(first|((with_reducible refine(ar _).mono ?_);rintro e aa⟨rfl,j⟩;rw[<-Vw]at j;have YF:=(fK.below ap j (fK.lt ap)).cell)|((with_reducible refine(aw _).mono ?_);rintro e ac⟨Aq,nq,cq,rfl,sQ,fU,rfl,ak⟩)|((with_reducible refine(am.out _ _ _ _ j sQ ak).mono ?_);rintro e ag⟨fU,Y,rfl,fJ,iG,ZP,a6,J⟩;have K:=j.trans (sQ.mono j.size);have AP:=xW.trans (K.mono xW.size);have Gs:fK ag (w.heap.size+1) 3 #[zI]:=(Y.same _ (fK.lt (fK.below U K (fK.lt U))) al.out.1).trans (fK.below U K (fK.lt U));have Gt:fK ag (w.heap.size+1+1) 51 #[zI]:=(Y.same _ (fK.lt (fK.below O K (fK.lt O))) al.out.2).trans (fK.below O K (fK.lt O));have IG:=AP.trans (Y.vU AP.size aR.out);have jQ:=J.rp.cell;have uK:=J.zb.cell;have sK:=J.pb.cell;have O4:=J.pb.frozen;have NH:=Gs.cell;have Xa:=Gs.frozen;have J6:=Gt.cell;have J7:=Gt.frozen)|((with_reducible refine(ZB J.rd).mono ?_);rintro e fU⟨rfl,fJ⟩;obtain rfl:=fJ.symm));have M:=yY J.pb Gs Gt IG 0 2;exact J4 2 _ _ _ (by decide) aq.out rfl rfl rfl M.1 rfl M.2.1 M.2.2.1 M.2.2.2);.have aq:Hid (R=.ok (⟨id,v'⟩,at_+u)):=ah (by rw[bc.out,Ξ (by omega),Ξ h8]);(have bN:(z' != (u:Int))=false:=by simpa using au);(have f8:decide ((8184:Int)<(u:Int))=false:=by simp;omega);clear au h8;go_wp2_with(first|((with_reducible refine(ar _).mono ?_);rintro e aa⟨rfl,j⟩;rw[<-Vw]at j;have YF:=(fK.below ap j (fK.lt ap)).cell)|((with_reducible refine(aw _).mono ?_);rintro e ac⟨Aq,nq,cq,rfl,sQ,fU,rfl,ak⟩)|((with_reducible refine(am.out _ _ _ _ j sQ ak).mono ?_);rintro e ag⟨fU,Y,rfl,fJ,iG,ZP,a6,J⟩;have K:=j.trans (sQ.mono j.size);have AP:=xW.trans (K.mono xW.size);have Gs:fK ag (w.heap.size+1) 3 #[zI]:=(Y.same _ (fK.lt (fK.below U K (fK.lt U))) al.out.1).trans (fK.below U K (fK.lt U));have Gt:fK ag (w.heap.size+1+1) 51 #[zI]:=(Y.same _ (fK.lt (fK.below O K (fK.lt O))) al.out.2).trans (fK.below O K (fK.lt O));have IG:=AP.trans (Y.vU AP.size aR.out);have jQ:=J.rp.cell;have uK:=J.zb.cell;have sK:=J.pb.cell;have O4:=J.pb.frozen;have NH:=Gs.cell;have Xa:=Gs.frozen;have J6:=Gt.cell;have J7:=Gt.frozen)|((with_reducible first|refine(ZB J.rd).mono ?_|refine(ajj ZP v'.length a6 _ J.own.cap.1).mono ?_);rintro e fU⟨rfl,fJ⟩;obtain rfl:=fJ.symm));have cg:=J.pb.iV 1 (.slice ZP v'.length v'.length);have M:=yY (v:=.slice ZP v'.length v'.length) cg (Gs.far (p:=⟨w,1,none⟩) (by simp) _) (Gt.far (p:=⟨w,1,none⟩) (by show w.heap.size+1+1≠w.heap.size;omega) _) (IG.setCell (p:=⟨w,1,none⟩) ig _) ((at_:Int)+(u:Int)) 0;have bE:=J.own.gJ;have cu:=J.own.rows;refine ZO ⟨id,v'⟩ (at_+u) ZP aq.out rfl rfl rfl M.1 ?_ M.2.2.1 M.2.2.2 ?_ (λa e=>by have:=(bE a.block (by rw[e];rfl)).1;have:=bA.out;omega);(·(have e:(at_:Int)+(u:Int)=((at_+u:Nat):Int):=by omega);rw[<-e];exact M.2.1);.refine fE.keep' cu (by simp) (λ_ a e _=>?_);have h1:=(bE a.block (by rw[e];rfl)).1;have h2:=bA.out;exact(aN _ ⟨w.heap.size+1+1,0,none⟩ _ _ (by show a.block≠w.heap.size+1+1;omega)).trans ((aN _ ⟨w.heap.size+1,0,none⟩ _ _ (by show a.block≠w.heap.size+1;omega)).trans ((aN _ ⟨w,1,none⟩ _ _ (by show a.block≠w.heap.size;omega)).trans ((aN _ ⟨w,0,none⟩ _ _ (by show a.block≠w.heap.size;omega)).trans (aN ag ⟨w,1,none⟩ _ _ (by show a.block≠w.heap.size;omega))))));.have aq:Hid (R=.error 20):=ah (by rw[bc.out,Υ au]);(have bN:(z' != (u:Int))=true:=by simpa using au);clear au;go_wp2_with(first|((with_reducible refine(ar _).mono ?_);rintro e aa⟨rfl,j⟩;rw[<-Vw]at j;have YF:=(fK.below ap j (fK.lt ap)).cell)|((with_reducible refine(aw _).mono ?_);rintro e ac⟨Aq,nq,cq,rfl,sQ,fU,rfl,ak⟩)|((with_reducible refine(am.out _ _ _ _ j sQ ak).mono ?_);rintro e ag⟨fU,Y,rfl,fJ,iG,ZP,a6,J⟩;have K:=j.trans (sQ.mono j.size);have AP:=xW.trans (K.mono xW.size);have Gs:fK ag (w.heap.size+1) 3 #[zI]:=(Y.same _ (fK.lt (fK.below U K (fK.lt U))) al.out.1).trans (fK.below U K (fK.lt U));have Gt:fK ag (w.heap.size+1+1) 51 #[zI]:=(Y.same _ (fK.lt (fK.below O K (fK.lt O))) al.out.2).trans (fK.below O K (fK.lt O));have IG:=AP.trans (Y.vU AP.size aR.out);have jQ:=J.rp.cell;have uK:=J.zb.cell;have sK:=J.pb.cell;have O4:=J.pb.frozen;have NH:=Gs.cell;have Xa:=Gs.frozen;have J6:=Gt.cell;have J7:=Gt.frozen)|((with_reducible refine(ZB J.rd).mono ?_);rintro e fU⟨rfl,fJ⟩;obtain rfl:=fJ.symm));have M:=yY J.pb Gs Gt IG 0 20;exact J4 20 _ _ _ (by decide) aq.out rfl rfl rfl M.1 rfl M.2.1 M.2.2.1 M.2.2.2)
section
def wZ(z:Θ)(m:Nat):Builtin.zeroCells #[z] m=(eH m z).toArray:=by
 apply Array.ext';simp only[Builtin.zeroCells,List.size_toArray,bK,dU,aJ,Nat.mul_one,Nat.mod_one];apply List.ext_getElem;.simp
 .simp
section
variable {P:χ} (w:ω)
theorem Gu(base:Nat)(t u ty e:τ)(i:TypeInfo)(z:Θ)(bytes:Nat)(U:P.underlying t=some (.slice e))(V:P.underlying u=some (.int .i64))(hi:P.info? e=some i)(hz:i.zero=some z)(Z:i.size=1)(ap:i.bytes=bytes)(aa:z.cells= #[z])(aL:z.oneCell'=true)(v:Θ)(n:Nat)(xs:List Θ)(O:w.ownsRow base e 1 v n xs)(m:Nat)(al:n+m<=μ)(aq:(n+m)*bytes<=140737488355328)(am:base<=w.heap.size): ∃v' w',(Builtin.append_ #[t,u] ty #[v,m]).run P w=.ok v' w'/\w'.ownsRow base e 1 v' (n+m) (xs++eH m z)/\w.grownBy w' v.ownBlock:=by
 subst ap;have aE:n+m<=9223372036854775807:=by assumption
 have ag:(xs++eH m z).length=(n+m)*1:=by rw[bC,O.1,List.length_replicate];omega
 have grown: ∀(old:Nat),old<n+m-> ∀(row:Option Nat),(w.drew.alloc (.cells (xs.toArray++(eH m z).toArray++Builtin.zeroCells z.cells (grownCap w (n+m) old e-(n+m))) e)).ownsRow base e 1 (.slice w (n+m) (grownCap w (n+m) old e)) (n+m) (xs++eH m z)/\w.grownBy (w.drew.alloc (.cells (xs.toArray++(eH m z).toArray++Builtin.zeroCells z.cells (grownCap w (n+m) old e-(n+m))) e)) row:=by
  intro old ho row;have av:=grownCap_ge w (n+m) old e;have af:grownCap w (n+m) old e<=μ:=grownCap_le_maxLen w (n+m) old e al;refine⟨⟨ag,.inr ⟨w,_,_,rfl,am,heap_alloc_new w.drew _,av,af,?_,?_⟩⟩,⟨rfl,rfl,rfl,by simp,λk hk _=>heap_alloc_old w.drew _ hk⟩⟩;.have:=O.1;simp only[Array.size_append,List.size_toArray,size_zeroCells,aa,List.length_replicate,List.size_toArray,bK,dU];omega
  grind
 have Y:IntKind.i64.wrap (m:Int)=m:=by rw[IntKind.wrap_i64];omega
 have M: ¬(281474976710656<(m:Int)*i.bytes):=by grind
 have j: ∀w':ω,(asInt (m:Int)).run P w'=.ok (m:Int) w':=λ_=>rfl;have K: ¬((m:Int)<0):=by omega
 rcases O.2 with⟨rfl,rfl⟩ |⟨g,cap,cur,rfl,an,hg,aw,af,ar,az⟩
 .have hx:xs= []:=dw (by grind);subst hx;by_cases hm:m=0;.subst hm;refine⟨nS,w,?_,World.ownsRow_nil w base e 1,⟨rfl,rfl,rfl,aW _,λ_ _ _=>rfl⟩⟩;simp only[Int.natCast_zero]at Y j K M;(have ac:IntKind.i64.wrap 0=0:=by decide);simp[Builtin.append_,ν U,ν V,sizeOf,typeInfo,hi,j,ac]
  ·(have h0:0<m:=by omega);have J:=grown 0 (by omega) (Value.ownBlock nS);(have ae: ¬(9223372036854775807<(m:Int)):=by omega);(have ad: ¬(281474976710656<Builtin.nextslicecap m 0*i.bytes):=by rw[nextslicecap_zero h0];omega);refine⟨_,_,?_,J.1,J.2⟩;simp[Builtin.append_,ν U,ν V,sizeOf,typeInfo,zeroValue,hi,hz,j,Y,K,M,hm,Z,ae,ad,Question.forced,run_firstCells_none,newRow,grownCap,aa,wZ]
 .have holds: ∀ak u,xs[ak]? =some u->w.cell? ((⟨g,0,none⟩:δ).add ak)=some u:=O.cells (g:=g) rfl;by_cases ai:n+m<=cap;·(have aD:n*1+(eH m z).length<=cur.size:=by rw[List.length_replicate,ar];omega);have H:=run_storeCells_at P g (n*1) e (eH m z) 0 cur w hg (by omega) (by grind);simp only[bI]at H;refine⟨.slice g (n+m) cap,w.setRow g (cur.toList.take (n*1)++eH m z++cur.toList.drop (n*1+(eH m z).length)).toArray,?_,⟨ag,.inr ⟨g,cap,_,rfl,an,setRow_heap w g cur _ e _ hg,ai,af,?_,?_⟩⟩,⟨rfl,rfl,rfl,by simp,λk _ hk=>ζ w g k _ (λe=>hk (by simp[Value.ownBlock,e]))⟩⟩;(.by_cases hm:m=0;(.subst hm;simp only[List.replicate_zero,Nat.mul_one]at H |-;simp only[Int.natCast_zero]at Y j K M;(have ac:IntKind.i64.wrap 0=0:=by decide);simp[Builtin.append_,ν U,ν V,sizeOf,typeInfo,zeroValue,hi,hz,j,ac,Z,aw];simpa[storeCells] using H);.simp only[Nat.mul_one]at H |-;simp[Builtin.append_,ν U,ν V,sizeOf,typeInfo,zeroValue,hi,hz,j,Y,K,M,hm,Z,ai,aa,wZ,Addr.add_lit];simp only[List.length_replicate,List.append_assoc]at H |-;simp[H]);(.simp only[List.size_toArray,bC,dX,List.length_drop,Array.length_toList];omega);.rw[az,<-ag];exact List.take_left
  ·(have hm:m≠0:=by omega);have J:=grown cap (by omega) (Value.ownBlock (.slice g n cap));have ax: ¬(n+m<=cap):=ai;(have ae: ¬(9223372036854775807<(n:Int)+(m:Int)):=by omega);(have ad: ¬(281474976710656<Builtin.nextslicecap (n+m) cap*i.bytes):=by have:=growslice_fits (old:=cap) (by omega) aq;omega);have au:=run_firstCells_some (P:=P) w.drew 1 n ⟨g,0,none⟩ n cap xs O.1 (by assumption);refine⟨_,_,?_,J.1,J.2⟩;simp[Builtin.append_,ν U,ν V,sizeOf,typeInfo,zeroValue,hi,hz,j,Y,K,M,hm,Z,ax,ae,ad,Question.forced,au,newRow,grownCap,aa,wZ]
end
end
def ac0:(aj.info? 3).map (λi=>(i.zero,i.size,i.bytes))=some (some (.int .i64 0),1,8):=by kernel_rfl
def al8(l:List Int):aq7.flat l=l.map λn=>Value.int .i64 n:=by induction l with|nil=>rfl|cons x l j=>rw[arb.nX,j];rfl
theorem E8(O:o.guard=none)(s x:κ)(Y:o.op=.call {callee:=.builtin .append,args:= #[s,x],argTypes:= #[22,3]})(base:Nat)(A1:Option δ)(c1:Nat)(xs:List Int)(n1:Nat)(hs:a.eval s=.slice A1 n1 c1)(V:xs.length=n1)(Z:aq1 aq7 3 w base A1 c1 xs)(m:Nat)(hx:a.eval x=m)(af:n1+m<=65536)(M:base<=w.heap.size)(h: ∀A2 c2 W,aq1 aq7 3 W base A2 c2 (xs++eH m 0)->w.grownBy W (A1.map (·.block))->Δ aj ops Q rest (a.put o.dst (.slice A2 (n1+m) c2)) W):Δ aj ops Q (o::rest) a w:=by
 subst V;obtain⟨i0,U,aa,ac,ad⟩:=info_parts ac0;obtain⟨v',W,hr,j,H⟩:=Gu (P:=aj) w base 22 3 o.type 3 i0 zI 8 underlying22 bG U aa ac ad rfl rfl _ _ _ Z m (by constructor<;>grind) (by omega) M;rw[oL]at H;have J: ∃A2 c2,v'=.slice A2 (xs.length+m) c2:=by
  rcases j.2 with⟨e,h0⟩ |⟨g,cap,_,e,_⟩;.grind
  grind
 obtain⟨A2,c2,rfl⟩:=J;refine π O λae K=>?_;unfold Oper.wp execOp;simp only[Y,resolve,invoke,builtin,Sem.run_bind,Sem.run_pure,dO,List.map_toArray,List.map_cons,List.map_nil,hs,hx,hr];refine K _ _ (h A2 c2 W ?_ H);unfold aq1;rw[bC,List.length_replicate,arb.zS];have e:aq7.flat (eH m 0)=eH m (Value.int .i64 0):=by rw[al8,List.map_replicate]
 rw[e];exact j
def ajq(h:w.grownBy w' none):w w':=⟨h.os,h.tape,h.output,h.size,λk j=>h.block k j (λe=>by cases e)⟩
theorem aq1.ajr{base c:Nat}{xs:List Int}(h:aq1 aq7 3 w base A c xs)(j:0<xs.length):aq1 aq7 3 w base A c []:=by obtain⟨g,cur,rfl,H,J,K,O,M,U⟩:=h.blk (h.some_ j);exact⟨rfl,.inr ⟨g,c,cur,rfl,H,J,aV _,M,K,by rfl⟩⟩
theorem aga(n:Nat)(w:ω)(hn:n<=65536):Γ aj 204 #[nS,n] w λe w'=> ∃A c,e=.returned (.slice A 0 c)/\aq1 aq7 3 w' w A c []/\w w':=by
 by_cases j:n=0;.subst j;go_enter func204,ntmps204;go_wp2;go_ret;exact⟨none,0,rfl,aq1.nil _ _,aH _ _⟩
 .have K:decide (0<n)=true:=by grind
  have M:0<n:=by omega
  go_enter func204,ntmps204;go_wp2_with(at_builtin;refine E8 rfl _ _ rfl w none 0 [] 0 rfl rfl (aq1.nil _ _) n rfl (by omega) ig ?_;intro A2 c2 U J H;have O: ∀W,(Instr.slice 22 (.slice A2 (0+n) c2) none (some (.int .i64 0)) none).run aj W=.ok (.slice A2 0 c2) W:=(λW=>by rw[run_slice_h W 22 A2 (0+n) c2 PO .i64 0 (by omega) (by omega),Gn];have:=BO A2 c2;unfold qQ at this;simp[Result.andThen,sliced,this]));go_ret;exact⟨A2,c2,rfl,J.ajr (by grind),ajq H⟩
def TG(h:fK w g 3 cs)(j:cs.toList=aq7.flat l)(hB:B<=g)(hm:l.length<=μ:=by simp[μ]):aq1 aq7 3 w B g l.length l:=by
 have H:cs.size=l.length:=by rw[<-Array.length_toList,j,arb.flat_length];simp[aq7]
 refine⟨by rw[arb.flat_length],.inr ⟨g,l.length,cs,rfl,hB,h,aW _,hm,by rw[H];simp[aq7],?_⟩⟩;rw[j];exact aY (by rw[arb.flat_length];simp)
def Xb (n1 n2 k:Nat):Nat:=if k=0 then 0 else if k=1 then n1 else n1+n2
def TI (l1 l2:List Int) (k:Nat):List Int:=if k=0 then [] else if k=1 then l1 else l1++l2
theorem ac1(l1 l2:List Int)(k:Nat):(TI l1 l2 k).length=Xb l1.length l2.length k:=by
 unfold TI Xb;split;.rfl
 .grind
def ac2 (w:ω) (l:List Int) (e:ε) (w':ω):Prop:= ∃A c,e=.returned (.slice A l.length c)/\aq1 aq7 3 w' w A c l/\w w'
theorem ac3(b:Nat)(A1:Option δ)(c1:Nat)(A2:Option δ)(c2:Nat)(l1 l2:List Int)(w:ω)(hb:fK w b 22 #[.slice A1 l1.length c1,.slice A2 l2.length c2])(h1:fE aq7 w A1 l1)(h2:fE aq7 w A2 l2)(aD:l1.length<=20000)(aE:l2.length<=20000):Γ aj 157 #[.slice b 2 2] w (ac2 w (l1++l2)):=by
 unfold ac2;have ap:=hb.cell;have av: ∀k,TI l1 l2 (k+1)=TI l1 l2 k++(if k=0 then l1 else if k=1 then l2 else [])\/2<=k:=by intro k;match k with|0=>exact .inl rfl|1=>exact .inl rfl|k+2=>simp
 have al:=ac1 l1 l2;have aq:(l1++l2)=TI l1 l2 2:=rfl;have ar:(l1++l2).length=Xb l1.length l2.length 2:=by grind
 rw[ar,aq];obtain⟨n1,V⟩:=fD l1.length;obtain⟨n2,Y⟩:=fD l2.length;rw[<-V,<-Y]at al;rw[<-V]at aD;rw[<-Y]at aE;rw[<-V,<-Y]at ap;rw[<-V,<-Y];have HL:=ah al;have aw:=ah V;have ax:=ah Y;have HB:Hid (∀k,Xb n1 n2 k<=40000):=ah (λk=>by unfold Xb;grind);have U:Hid (Xb n1 n2 0=0/\Xb n1 n2 1=n1/\Xb n1 n2 2=n1+n2):=ah ⟨rfl,rfl,rfl⟩;have HR:=ah av;have ak:=λW=>aga (Xb n1 n2 2) W (by grind);have az:=hb.lt;clear al V Y hb aq ar av;go_enter func157,ntmps157;go_wp2_with fail;go_loopw [3,11] (λs i wr=> ∃k:Nat,i=.int .i64 k/\k<=2/\s=.int .i64 (Xb n1 n2 k:Nat)/\wr=w) (λ_ i _=>2-(intOf i).toNat);case atStart=>repeat' constructor
 case round=>
  obtain⟨k,rfl,hk,rfl,aL⟩:=hrel;obtain rfl:=aL.symm;have M:=U.out;have ae:=HB.out k;match k,hk with
  |0,_=>rw[M.1]at ae |-;go_wp2_with fail;go_roundw;(case rel=>exact⟨1,rfl,by omega,by rfl,(by simp)⟩);decide
  |1,_=>rw[M.2.1]at ae |-;(have aR:wrap64 ((n1:Int)+(n2:Int))=(n1:Int)+(n2:Int):=by unfold wrap64;omega);go_wp2_with fail;go_roundw;(case rel=>exact⟨2,rfl,by omega,by rfl,(by simp)⟩);decide
  |2,_=>
   obtain⟨N,hN⟩:=fD (Xb n1 n2 2);rw[<-hN]at ae ak |-;clear M hN;go_wp2_with((with_reducible refine(ak _).mono ?_);rintro e w3⟨A3,c3,rfl,au,an⟩);clear ak;go_loopw [6,27] (λs i wr=> ∃(k:Nat) (A:Option δ) (c:Nat),i=.int .i64 k/\k<=2/\s=.slice A (Xb n1 n2 k) c/\aq1 aq7 3 wr w A c (TI l1 l2 k)/\w wr) (λ_ i _=>2-(intOf i).toNat);(case atStart=>exact⟨0,A3,c3,rfl,by omega,rfl,au,an⟩);case round=>
    clear au an;obtain⟨k,A,c,rfl,hk,rfl,K,H⟩:=hrel;have M:=U.out;have af:=HB.out k;have ag:=HB.out (k+1);have O:=ah (HL.out k);have aM: ∀i,wr.cell? ⟨b,i,none⟩=(#[Value.slice A1 n1 c1,Value.slice A2 n2 c2]:Array Θ)[i]? :=λi=>(H.cell (p:=⟨b,i,none⟩) az).trans (ap i);match k,hk with
    |0,_=>have J:=(HR.out 0).resolve_right (by omega);obtain⟨ac,j⟩:=fD (Xb n1 n2 0);rw[<-j]at af O |-;have Z:=ah j;obtain⟨am,aa⟩:=fD (TI l1 l2 0);rw[<-aa]at K O J;have ad:=ah J;clear j aa M J ag;go_wp2_with(at_builtin;refine gW abJ rfl _ _ rfl w A c am ac rfl O.out K A1 c1 l1 n1 rfl aw.out.symm (h1.below H) (by omega) (by decide) H.size ?_;intro A5 c5 w5 uq ai _);go_roundw;(case rel=>exact⟨1,A5,c5,rfl,by omega,by rw[Z.out,U.out.1,U.out.2.1];simp,by rw[ad.out];exact uq,aro H K H.size ai⟩);assumption
    |1,_=>have J:=(HR.out 1).resolve_right (by omega);obtain⟨ac,j⟩:=fD (Xb n1 n2 1);rw[<-j]at af O |-;have Z:=ah j;obtain⟨am,aa⟩:=fD (TI l1 l2 1);rw[<-aa]at K O J;have ad:=ah J;clear j aa M J ag;go_wp2_with(at_builtin;refine gW abJ rfl _ _ rfl w A c am ac rfl O.out K A2 c2 l2 n2 rfl ax.out.symm (h2.below H) (by omega) (by decide) H.size ?_;intro A5 c5 w5 uq ai _);go_roundw;(case rel=>exact⟨2,A5,c5,rfl,by omega,by rw[Z.out,U.out.2.1,U.out.2.2],by rw[ad.out];exact uq,aro H K H.size ai⟩);decide
    |2,_=>obtain⟨ac,j⟩:=fD (Xb n1 n2 2);rw[<-j]at af O |-;have Z:=ah j;clear j M ag;go_wp2_with fail;go_ret;exact⟨A,c,by rw[<-Z.out];rfl,K,H⟩
def Fa (id t ack sS:Int):List Int:=if PW id=true then [t,sS] else [t,ack,sS]
theorem ac5(id t ack sS:Int)(Av:Option δ)(U cv:Nat)(Ap:Option δ)(O cp:Nat)(w:ω):Γ aj 158 #[.agg #[id,t,ack,sS,.slice Av U cv,.slice Ap O cp]] w (ac2 w (Fa id t ack sS)):=by have J:=λW=>Tn id W;have j:=Own.jD w 196 #[id,t,ack,sS,.slice Av U cv,.slice Ap O cp];have Y:=j.b0.cell;unfold Fa ac2;cases M:PW id with|false=>rw[M]at J;simp only[bU,if_false];go_enter func158,ntmps158;go_wp2_with((with_reducible refine(J _).mono ?_);rintro e K⟨rfl,H⟩;replace j:=j.grow H;have V:=j.b0.cell;replace j:=j.new1 3 #[t,ack,sS]);go_ret;exact⟨K,3,rfl,TG j.b1 rfl (by have:=H.size;simp_all;omega),j.below⟩|true=>rw[M]at J;simp only[if_true];go_enter func158,ntmps158;go_wp2_with((with_reducible refine(J _).mono ?_);rintro e K⟨rfl,H⟩;replace j:=j.grow H;have V:=j.b0.cell;replace j:=j.new1 3 #[t,sS]);go_ret;exact⟨K,2,rfl,TG j.b1 rfl (by have:=H.size;simp_all;omega),j.below⟩
section
def asB (v:Θ):Option Bool:=match v with
 | .bool c=>some c
 |_=>none
section
variable {P:χ} {ops:Array ο} {F:(Nat->Θ)->Act} {Q:Exit->Act->ω->Prop}
def jh{o:ο}{Φ:Θ->ω->Prop}{u:Nat->Θ}{w:ω}(H:o.guard=none)(h: ∀j:Act->ω->Prop,(∀v w',w w'->Φ v w'->j ((F u).put o.dst v) w')->o.wp P (F u) w j Q):qR P ops F o Φ Q u w:=fF (by simp[aF,H]) h
def Fb{o:ο}{u:Nat->Θ}{j:Nat}{b:Bool}{d:Tmp}(J:o.guard=some (j,b))(H:(ops[j]?).bind (·.dst)=some d)(hF:(F u).tmps[d]? =some (u j)):aF o (ψ ops (F u).tmps)=(asB (u j)==some b):=by unfold aF ψ asB;rw[J];simp only[H,Option.bind_some,hF];cases u j <;> rfl
def MC{o:ο}{Φ:Θ->ω->Prop}{u:Nat->Θ}{w:ω}{j:Nat}{b:Bool}{d:Tmp}(J:o.guard=some (j,b))(H:(ops[j]?).bind (·.dst)=some d)(hF:(F u).tmps[d]? =some (u j))(K:(asB (u j)==some b)=false)(h:Φ υ w):qR P ops F o Φ Q u w:=wG ((Fb J H hF).trans K) h
def MF{o:ο}{Φ:Θ->ω->Prop}{u:Nat->Θ}{w:ω}{j:Nat}{b:Bool}{d:Tmp}(K:o.guard=some (j,b))(J:(ops[j]?).bind (·.dst)=some d)(hF:(F u).tmps[d]? =some (u j))(M:(asB (u j)==some b)=true)(h: ∀H:Act->ω->Prop,(∀v w',w w'->Φ v w'->H ((F u).put o.dst v) w')->o.wp P (F u) w H Q):qR P ops F o Φ Q u w:=fF ((Fb K J hF).trans M) h
end
end
structure Ms where
  id:Int
  t:Int
  ack:Int
  sS:Int
  v:List Int
  p:List Pk
def TJ (w:ω) (A:Option δ) (ps:List Pk):Prop:= ∃xs:List WV,fE qJ w A xs/\xs.map (·.id)=ps.map (·.id)/\xs.length=ps.length/\ ∀(i:Nat) x p,xs[i]? =some x->ps[i]? =some p->x.n=p.v.length/\x.n<=x.c/\x.c<=μ/\fE aq7 w x.A p.v
theorem TJ.below(h:TJ w A ps)(j:w w'):TJ w' A ps:=by obtain⟨xs,H,J,K,M⟩:=h;exact⟨xs,H.below j,J,K,λi x p U O=>by obtain⟨k1,k2,k3,V⟩:=M i x p U O;exact⟨k1,k2,k3,V.below j⟩⟩
structure Vx where
  Av:Option δ
  cv:Nat
  Ap:Option δ
  cp:Nat
def oC (m:Ms) (a:Vx):Array Θ:= #[.int .i64 m.id,.int .i64 m.t,.int .i64 m.ack,.int .i64 m.sS,.slice a.Av m.v.length a.cv,.slice a.Ap m.p.length a.cp]
structure P8 (w:ω) (m:Ms) (a:Vx):Prop where
  v:fE aq7 w a.Av m.v
  p:TJ w a.Ap m.p
  cv:m.v.length<=a.cv
  cp:m.p.length<=a.cp
  vl:m.v.length<=20000
  pl:m.p.length<=60000
  pv: ∀p∈m.p,p.v.length<=60000
theorem P8.below{m:Ms}{a:Vx}(h:P8 w m a)(j:w w'):P8 w' m a:={h with v:=h.v.below j,p:=h.p.below j}
def Fe (l1 l2:List Int) (v:Θ) (w:ω):Prop:= ∃bv A1 c1 A2 c2,v=.slice (some ⟨bv,0,none⟩) 2 2/\fK w bv 22 #[.slice A1 l1.length c1,.slice A2 l2.length c2]/\fE aq7 w A1 l1/\fE aq7 w A2 l2
theorem Fe.grow{l1 l2:List Int}(h:Fe l1 l2 v w)(j:w w'):Fe l1 l2 v w':=by obtain⟨bv,A1,c1,A2,c2,e,H,J,K⟩:=h;exact⟨bv,A1,c1,A2,c2,e,H.below j H.lt,J.below j,K.below j⟩
def ac6 (N:Nat) (l:List Int) (v:Θ) (w:ω):Prop:= ∃A c,v=.slice A N c/\fE aq7 w A l
theorem ac6.grow(h:ac6 N l v w)(j:w w'):ac6 N l v w':=by obtain⟨A,c,e,H⟩:=h;exact⟨A,c,e,H.below j⟩
def rG (id:Int):List Int:=H9 id++(nG id).1
def arU (id:Int):Int:=fQ 0+fQ 1+((rG id).map fQ).sum
def yZ (l:List Int):Int:=(l.map fQ).sum
def J8(l:List Int):0<=yZ l/\yZ l<=32*(l.length:Int):=by
 induction l with
 |nil=>simp[yZ]
 |cons x l H=>
  have j:=lq x;have e:yZ (x::l)=fQ x+yZ l:=by simp[yZ]
  rw[e,bK];omega
def oP (l:List Pk):Int:=(l.map CY).sum
def Ib(l:List Pk)(h: ∀p∈l,p.v.length<=60000):0<=oP l/\oP l<=2080000*(l.length:Int):=by
 induction l with
 |nil=>simp[oP]
 |cons x l K=>
  obtain⟨j,M⟩:=EY x (h x (by simp));have H:=xR j (vV x).length;rw[aY ig]at H;have O:=K (λp J=>h p (by simp[J]));have e:oP (x::l)=CY x+oP l:=by simp[oP]
  have e2:CY x=arf (vV x):=rfl;rw[e,bK];omega
def J9 (m:Ms):Int:=arU m.id+oP m.p
def zf (bs:List UInt8) (m:Ms):Bool:=decide (8*(bs.length:Int)-J9 m=0) || decide ((nth bs (bs.length-1)).toNat % 2 ^ (8*(bs.length:Int)-J9 m).toNat=0)
def TK(h:PE id=some f):0<=id/\id<160:=by
 refine Classical.byContradiction λhn=>?_;have e:PE id=none:=by unfold PE;iterate 16 rw[Ξ (by omega)]
 rw[e]at h;cases h
set_option maxRecDepth 20000 in
def al9: ∀id:Fin 160,(nG (id.val:Int)).1.length<=7/\(nG (id.val:Int)).2.2.length<=20:=by decide
theorem AQ(id:Int):(nG id).1.length<=7/\(nG id).2.2.length<=20:=by cases h:PE id with|none=>unfold nG;rw[h];decide|some f=>obtain⟨j,H⟩:=TK h;have:=al9 ⟨id.toNat,by omega⟩;simpa only[show((id.toNat:Nat):Int)=id by omega] using this
def TL(id:Int):(H9 id).length<=3:=by unfold H9;split <;> decide
def agb(k:Nat)(j:k<=7):γ .shl 3 (1:Int) (k:Int)=pure (.int .i64 ((2 ^ k:Nat):Int)):=by match k,j with|0,_=>rfl|1,_=>rfl|2,_=>rfl|3,_=>rfl|4,_=>rfl|5,_=>rfl|6,_=>rfl|7,_=>rfl
def ac7(t:τ)(n k:Nat)(H:k<=7)(hn:n<4294967296):γ .and t (n:Int) (.int .i64 (((2 ^ k:Nat):Int)-1))=pure (.int .i64 ((n % 2 ^ k:Nat):Int)):=by
 have J:1<=2 ^ k:=Nat.one_le_two_pow;have K:2 ^ k<=128:=by have:=Nat.pow_le_pow_right (n:=2) (by decide) H;omega
 have j:((2 ^ k:Nat):Int)-1=((2 ^ k-1:Nat):Int):=by omega
 have e:IntKind.i64.wrap ((aQ 64 (n:Int) &&& aQ 64 ((2 ^ k-1:Nat):Int)).toNat:Int)=((n % 2 ^ k:Nat):Int):=by rw[oK,oK,BitVec.toNat_and,BitVec.toNat_ofNat,BitVec.toNat_ofNat,dF (by omega),dF (by omega),Nat.and_two_pow_sub_one_eq_mod,IntKind.wrap_i64];have:=Nat.mod_lt n (show 0<2 ^ k by omega);omega
 rw[j];show Op.intBits .and .i64 _ _=_;exact ξ (λn=>(pure (Value.int .i64 n):Sem Θ)) e
theorem agc(bs:List UInt8)(A:Option δ)(c:Nat)(m:Ms)(a:Vx)(w:ω)(hT:Tab w)(hB:aq2 w A c bs)(hm:P8 w m a)(hl:bs.length<=2000)(h0:0<bs.length)(bX:0<=8*(bs.length:Int)-J9 m)(ca:8*(bs.length:Int)-J9 m<=7):Γ aj 170 #[.slice A bs.length c,oC m a] w λe w'=>e=.returned (.bool (zf bs m))/\w w':=by
 obtain⟨Av,cv,Ap,cp⟩:=a;have hO:Own w _ [_]:=Own.jD w 196 (oC m ⟨Av,cv,Ap,cp⟩);have aD:=λW=>afT m.id W;unfold Gh Af at aD;obtain⟨f,hf⟩:=fD (nG m.id);rw[<-hf]at aD;have HF:=ah hf;clear hf;unfold oC at hO |-;simp only at hO |-;have cA:=hO.b0.cell;have bi:=λW (h:Tab W)=>pF 0 W h;rw[show fQ 0=8 by decide]at bi;have bj:=λW (h:Tab W)=>pF 1 W h;rw[show fQ 1=10 by decide]at bj;obtain⟨n,hn⟩:=fD bs.length;have bw:0<bs.length:=h0;rw[<-hn];go_enter func170,ntmps170;go_wp2_with(first|((with_reducible refine(aD _).mono ?_);rintro e w1⟨A1,c1,A3,c3,rfl,bB,ac⟩;have Xc:=(hO.grow ac).new1 240 #[.slice A1 f.1.length c1,f.2.1,.slice A3 f.2.2.length c3];have a7:=hT.below Xc.below)|((with_reducible first|refine(bi _ a7).mono ?_|refine(bj _ a7).mono ?_);rintro e w2⟨rfl,fU⟩;obtain rfl:=fU.symm));have TM:=ah bB;have bE:=AQ m.id;rw[<-HF.out]at bE;have bL:=TL m.id;obtain⟨K,bd⟩:=fD (H9 m.id);have av:=λW=>acT m.id W;rw[<-bd]at av bL;have cf:=ah bd;unfold JQ at av;have a1:w1 (w1.alloc (.cells #[.slice A1 f.1.length c1,f.2.1,.slice A3 f.2.2.length c3] 240)):=gY.alloc ig _;clear bd bB hO cA aD;obtain⟨N,hN⟩:=fD (K.length+f.1.length);have bn:=ah hN;have cG:N<=10:=by omega
 clear hN;apply iM;case lX=>intro u;simp only[bV,aq9,aP,ay,aA,aB,aT,aJ];rfl
 case hm=>kernel_rfl
 case hB=>kernel_rfl
 case hap=>kernel_rfl
 apply Lex.is;·(intro u w' J j;simp[fH,aC]at j;refine fF (by first |rfl) ?_;intro aa H;have Z:=Xc.grow J;have bb:=Z.b0.cell;have bc:=Z.b1.cell;go_wp2_with(fail);refine H _ _ ?_ rfl;first|exact aH _ _)
 apply Lex.is;·(intro u w' J j;simp[fH,aC,Is]at j;refine fF (by first |rfl) ?_;intro aa H;have Z:=Xc.grow J;have bb:=Z.b0.cell;have bc:=Z.b1.cell;go_wp2_with(fail);(try simp only[j]at H);refine H _ _ ?_ rfl;first|exact aH _ _)
 refine Lex.word (WE K) (λ_ _ _ h hb=>h.grow hb) ?_ ?_;·(intro u w' J j;refine jh rfl ?_;simp only[gQ]at j;have q0:=j ⟨1,.data⟩ (by simp) rfl _ rfl;simp only[Is]at q0;clear j;intro aa H;go_wp2_with((with_reducible refine(av _).mono ?_);rintro e w3⟨A7,c7,rfl,Gv,cK,cD,am⟩);(try simp only[q0]at H);exact H _ _ am ⟨A7,c7,rfl,Gv⟩)
 apply Lex.is;·(intro u w' J j;simp[fH,aC]at j;refine fF (by first |rfl) ?_;intro aa H;have Z:=Xc.grow J;have bb:=Z.b0.cell;have bc:=Z.b1.cell;go_wp2_with(fail);refine H _ _ ?_ rfl;first|exact aH _ _)
 apply Lex.is;·(intro u w' J j;simp[fH,aC,Is]at j;refine fF (by first |rfl) ?_;intro aa H;have Z:=Xc.grow J;have bb:=Z.b0.cell;have bc:=Z.b1.cell;go_wp2_with(fail);(try simp only[j]at H);refine H _ _ ?_ rfl;first|exact aH _ _)
 refine Lex.word (Fe K f.1) (λ_ _ _ h hb=>h.grow hb) ?_ ?_;·(intro u w' J j;refine jh rfl ?_;simp only[gQ]at j;have q0:WE K (u 2) w':=j ⟨2,.data⟩ (by simp) rfl _ rfl;have q4:=j ⟨4,.data⟩ (by simp) rfl _ rfl;simp only[Is]at q4;obtain⟨A7,c7,q0,Gv⟩:=q0;clear j;intro aa H;go_wp2_with fail;(try simp only[q0,q4]at H);exact H _ _ jm ⟨_,A7,c7,A1,c1,rfl,fK.new _ _ _,Gv.below jm,(TM.out.own.below (a1.trans (J.mono a1.size))).below jm⟩)
 refine Lex.word (ac6 N (K++f.1)) (λ_ _ _ h hb=>h.grow hb) ?_ ?_;·(intro u w' J j;refine jh rfl ?_;simp only[gQ]at j;have q0:Fe K f.1 (u 5) w':=j ⟨5,.data⟩ (by simp) rfl _ rfl;obtain⟨bv,A7,c7,A8,c8,q0,cy,Gv,P9⟩:=q0;clear j;intro aa H;go_wp2_with((with_reducible refine(ac3 bv A7 c7 A8 c8 K f.1 _ cy Gv P9 (by omega) (by omega)).mono ?_);rintro e w3⟨A9,c9,rfl,ZI,am⟩);(try simp only[q0]at H);exact H _ _ am ⟨A9,c9,by rw[bn.out],ZI.rows⟩)
 refine Lex.is (c:=.int .i64 (N:Nat)) ?_ ?_;·(intro u w' J j;refine jh rfl ?_;simp only[gQ]at j;have q0:ac6 N (K++f.1) (u 6) w':=j ⟨6,.data⟩ (by simp) rfl _ rfl;obtain⟨A9,c9,q0,TN⟩:=q0;clear j;intro aa H;go_wp2_with fail;(try simp only[q0]at H);exact H _ _ gY rfl)
 apply Lex.is;·(intro u w' J j;simp[fH,aC]at j;refine fF (by first |rfl) ?_;intro aa H;skip;go_wp2_with(fail);refine H _ _ ?_ rfl;first|exact aH _ _)
 apply Lex.nil;intro u w2 bR j;simp only[gQ]at j;obtain⟨A9,c9,h6,TN⟩:=j 6 _ rfl;have h7:=j 7 _ rfl;have h8:=j 8 _ rfl;simp only[Is]at h7 h8;clear j;simp only[h6,h7,h8];obtain⟨O,az⟩:=fD (K++f.1);rw[<-az]at TN;have ar:Hid (O=rG m.id/\O.length=N):=ah ⟨by rw[az,cf.out,HF.out];rfl,by rw[az,bC,bn.out]⟩;replace Xc:=Xc.grow bR;have a8:=hT.below Xc.below;clear bR a7 bE bL av bi bj h6 h7 h8 az a1 ac;have a4:=λv W (h:Tab W)=>pF v W h;have HT:=ah hT;have HB:=ah hB;have aq:=ah hm;have HS:=ah (And.intro bX ca);have bu:Hid (∀k,0<=yZ (O.take k)/\yZ (O.take k)<=320):=ah (λk=>by
  have h1:=J8 (O.take k);have h2:(O.take k).length<=10:=by rw[dX,ar.out.2];omega
  omega)
 clear hT hB hm bX ca;go_wp2_with fail;go_loopw [7,30] (λs i wr=> ∃k:Nat,i=.int .i64 k/\k<=N/\s=.int .i64 (18+yZ (O.take k))/\w2 wr) (λ_ i _=>N-(intOf i).toNat);case atStart=>exact⟨0,rfl,aV _,rfl,aH _ _⟩
 case round=>
  obtain⟨k,rfl,J,rfl,M⟩:=hrel;have ac:=bu.out k;by_cases ak:k<N;.obtain⟨x,U⟩:=aq5 ar.out.2 ak;obtain⟨g,off,ae,hg,hc⟩:=(TN.below M).get U;have a0:=hc 0 x rfl;simp only[aq7,Nat.mul_one,bI]at a0;subst ae;have bx:=a8.below M;(have ag:yZ (O.take (k+1))=yZ (O.take k)+fQ x:=by rw[take_snoc' U];simp[yZ]);have ad:=bu.out (k+1);rw[ag]at ad;have aR:=ah ag;obtain⟨sk,af⟩:=fD (yZ (O.take k));rw[<-af]at ac ad |-;have aM:=ah af;have cc:=a4 x wr bx;obtain⟨wx,Xd⟩:=fD (fQ x);rw[<-Xd]at ad cc;have cn:=ah Xd;clear ag af hc U Xd a4 bx a8;go_wp2_with((with_reducible refine cc.mono ?_);rintro e w3⟨rfl,cC⟩;obtain rfl:=cC.symm);go_roundw;(case rel=>exact⟨k+1,by go_num,by omega,by rw[aR.out,<-aM.out,<-cn.out];congr 1;omega,M⟩);case measure=>simp[intOf];omega
  ·(obtain rfl:k=N:=by omega);have al:O.take k=O:=aY (by rw[ar.out.2];exact aW _);rw[al]at ac |-;have a6:=Xc.grow M;obtain⟨hw,bf⟩:=fD (18+yZ O);have cg:Hid (hw=arU m.id):=ah (by rw[bf,ar.out.1];unfold arU yZ;rw[show fQ 0=8 by decide,show fQ 1=10 by decide];omega);(have cJ:0<=hw/\hw<=400:=by omega);rw[<-bf];have bA:=a6.b0.cell;clear bf ac al ak a8 TN a4;obtain⟨w5,rfl⟩:=fD wr;have an:w w5:=a6.below;have cx:=HT.out.below an;have Qa:=aq.out.below an;have xQ:=HB.out.below an;obtain⟨np,ap⟩:=fD m.p.length;(have cu:np<=60000:=by rw[ap];exact aq.out.pl);rw[<-ap]at bA;have RS:=ah ap;have bo:Hid (∀k,0<=oP (m.p.take k)/\oP (m.p.take k)<=2080000*(np:Int)):=ah (λk=>by have h1:=Ib (m.p.take k) (λp K=>aq.out.pv p (List.mem_of_mem_take K));(have h2:(m.p.take k).length<=np:=by rw[dX,ap];omega);omega);have bm:=ah an;have ci:=ah Qa;have cd:=ah xQ;clear a6 Xc M an Qa xQ ap;go_wp2_with fail;go_loopw [7,42] (λs i wr=> ∃k:Nat,i=.int .i64 k/\k<=np/\s=.int .i64 (hw+oP (m.p.take k))/\w5 wr) (λ_ i _=>np-(intOf i).toNat);(case atStart=>exact⟨0,rfl,aV _,by simp[oP],aH _ _⟩);case round=>obtain⟨V,rfl,hj,rfl,M⟩:=hrel;have ac:=bo.out V;by_cases ak:V<np;(.obtain⟨xs,h1,h2,h3,h4⟩:=ci.out.p;obtain⟨x,U⟩:=aq5 (h3.trans RS.out.symm) ak;obtain⟨p,K⟩:=aq5 RS.out.symm ak;obtain⟨e1,e2,e3,e4⟩:=h4 V x p U K;(have bN:x.id=p.id:=by(have k1:(xs.map (·.id))[V]? =some x.id:=by rw[bW,U];rfl);(have k2:(m.p.map (·.id))[V]? =some p.id:=by rw[bW,K];rfl);rw[h2,k2]at k1;injection k1 with k1;exact k1.symm);obtain⟨g,off,ae,hg,hc⟩:=(h1.below M).get U;have a0:=hc 0 _ rfl;have ct:=hc 1 _ rfl;simp only[qJ,bI]at a0 ct;rw[bN]at a0;have ba:=(aH wr wr).alloc ig (.cells #[p.id,.slice x.A x.n x.c] 198);have cz:=(fK.new wr 198 #[p.id,.slice x.A x.n x.c]).cell;have ai:=aji p x.A x.n x.c (wr.alloc (.cells #[p.id,.slice x.A x.n x.c] 198)) ((cx.below M).below ba) ((e4.below M).below ba) e1.symm (by rw[e1];exact aq.out.pv p (bP K)) ⟨e2,e3⟩;(have ag:oP (m.p.take (V+1))=oP (m.p.take V)+CY p:=by rw[take_snoc' K];simp[oP]);have ad:=bo.out (V+1);rw[ag]at ad;have aR:=ah ag;obtain⟨sk,af⟩:=fD (oP (m.p.take V));rw[<-af]at ac ad |-;have aM:=ah af;obtain⟨sp,bh⟩:=fD (CY p);rw[<-bh]at ad ai;have cm:=ah bh;obtain⟨ip,bO⟩:=fD p.id;rw[<-bO]at a0 cz ai;replace ae:Ap=some ⟨g,off,none⟩:=ae;subst ae;clear ag af bh bO hc U K h1 h2 h3 h4 e1 e2 e3 e4 bN ba;go_wp2_with((with_reducible refine ai.mono ?_);rintro e w3⟨rfl,am⟩);go_roundw;(case rel=>exact⟨V+1,by go_num,by omega,by rw[aR.out,<-aM.out,<-cm.out];congr 1;omega,M.trans (jm.trans (am.mono (by simp)) |>.mono M.size)⟩);case measure=>simp[intOf];omega);·(obtain rfl:V=np:=by omega);have al:m.p.take V=m.p:=aY (by rw[RS.out];exact aW _);rw[al]at ac |-;obtain⟨sz,ai⟩:=fD (hw+oP m.p);rw[<-ai];have bq:Hid (sz=J9 m):=ah (by rw[ai,cg.out];rfl);have hS:=HS.out;rw[<-bq.out]at hS;obtain⟨Y,ax⟩:=Int.eq_ofNat_of_zero_le hS.1;have ch:=ah ax;rw[<-hn]at ax hS bw;(have a5:Y<=7:=by omega);obtain⟨n1,rfl⟩: ∃n1,n=n1+1:=⟨n-1,by omega⟩;(have cw:8*((n1:Int)+1)-sz=(Y:Int):=by rw[<-ax];push_cast;rfl);(have cB:n1=bs.length-1:=by omega);(have cE:8*(bs.length:Int)-sz=(Y:Int):=by rw[<-cw,<-hn];push_cast;rfl);have HN:=ah hn;obtain⟨g,off,ae,hg,hc⟩:=(cd.out.below M).at_ (k:=n1) (by omega);subst ae;obtain⟨x,U⟩:=fD (nth bs n1);rw[<-U]at hc;have HX:=ah U;have aE:Hid (zf bs m=(decide (Y=0) || decide (x.toNat % 2 ^ Y=0))):=ah (by unfold zf;rw[<-bq.out,ch.out,<-HN.out,HX.out];simp);have au:=bm.out.trans (M.mono bm.out.size);clear ai ax hn U al ac ak cu hS bA bw;by_cases aw:Y=0;(.have aL:Hid (zf bs m=true):=ah (by rw[aE.out,aw];rfl);(have f0:((Y:Int)==0)=true:=by rw[beq_iff_eq];omega);clear aE aw hc;go_wp2_with fail;refine ara (by kernel_rfl) ?_;(repeat(first|(apply gX.want rfl;(.intro w' J aa Q' H;skip;go_wp2_with(fail);first|exact aH _ _);(.simp only[aP,ay,aA,aB];rfl))|(apply gX.skip rfl;.simp only[aP,ay,aA,aB];rfl)));refine gX.nil ?_;intro w' J;go_wp2_with fail;go_ret;rw[aL.out];exact⟨rfl,au.trans (J.mono au.size)⟩);·(have f0:((Y:Int)==0)=false:=by rw[beq_eq_false_iff_ne];omega);obtain⟨P,hP⟩:=fD (2 ^ Y);(have cH:1<=P/\P<=128:=by rw[hP];exact⟨Nat.one_le_two_pow,by have:=Nat.pow_le_pow_right (n:=2) (by decide) a5;omega⟩);(have cF:γ .shl 3 (1:Int) (Y:Int)=pure (P:Int):=by rw[hP];exact agb Y a5);have a9:=ac7 3 x.toNat Y a5 (by have:=x.toNat_lt;omega);rw[<-hP]at a9;obtain⟨y,hy⟩:=fD (x.toNat % P);rw[<-hy]at a9;have aL:Hid (zf bs m=decide (y=0)):=ah (by rw[aE.out,<-hP,<-hy];simp[aw]);obtain⟨xn,bk⟩:=fD x.toNat;rw[<-bk]at a9;(have bS:q8 x=.int .u8 (xn:Int):=by rw[bk];rfl);rw[bS,cB]at hc;(have cM:xn<=255:=by have:=x.toNat_lt;omega);obtain⟨b,hb⟩:=fD (decide (y=0));(have fy:((y:Int)==0)=b:=by rw[hb];by_cases h:y=0;(.simp[h]);.simp[h]);rw[<-hb]at aL;clear aE aw hP hy bk hb bS;go_wp2_with fail;refine ara (by kernel_rfl) ?_;(repeat(first|(apply gX.want rfl;(.intro w' J aa Q' H;have cI:=(J.cell (p:=⟨g,off+(bs.length-1),none⟩) hg).trans hc;go_wp2_with(fail);first|exact aH _ _);(.simp only[aP,ay,aA,aB];rfl))));refine gX.nil ?_;intro w' J;go_wp2_with fail;go_ret;rw[aL.out];exact⟨rfl,au.trans (J.mono au.size)⟩
structure jV (D:Nat->Prop) (w w':ω):Prop where
  os:w'.os=w.os
  tape:w'.tape=w.tape
  output:w'.output=w.output
  size:w.heap.size<=w'.heap.size
  block: ∀k,k<w.heap.size-> ¬D k->w'.heap[k]? =w.heap[k]?
def jV.refl(D:Nat->Prop)(w:ω):jV D w w:=⟨rfl,rfl,rfl,aW _,λ_ _ _=>rfl⟩
theorem jV.trans{a b c:ω}(h:jV D a b)(k:jV D b c):jV D a c:=⟨k.os.trans h.os,k.tape.trans h.tape,k.output.trans h.output,aG h.size k.size,λi hi hn=>(k.block i (aU hi h.size) hn).trans (h.block i hi hn)⟩
def jV.mono(h:jV D w w')(j: ∀k,D k->D' k):jV D' w w':=⟨h.os,h.tape,h.output,h.size,λk J hn=>h.block k J (λH=>hn (j k H))⟩
def jV.of_below(h:w w')(D:Nat->Prop):jV D w w':=⟨h.os,h.tape,h.output,h.size,λk j _=>h.block k j⟩
def jV.DW(h:Stp S w w')(j: ∀k o,(k,o)∈S->D k):jV D w w':=⟨h.os,h.tape,h.output,h.size,λk H hn=>h.block k H (λo hm=>hn (j k o hm))⟩
def jV.kJ(h:w.grownBy w' R)(j: ∀k,R=some k->D k):jV D w w':=⟨h.os,h.tape,h.output,h.size,λk H hn=>h.block k H (λe=>hn (j k e.symm))⟩
def jV.drew(D:Nat->Prop)(w:ω):jV D w w.drew:=jV.of_below (aq3 gY 1) D
theorem jV.below(h:jV D w w')(hB:B<=w.heap.size)(H: ∀k,D k->B<=k):Below B w w':=⟨h.os,h.tape,h.output,h.size,λk j=>h.block k (aU j hB) (λJ=>by grind)⟩
def fK.ji{t:τ}(h:fK w g t cs)(j:jV D w w')(hn: ¬D g):fK w' g t cs:=(j.block g h.lt hn).trans h
theorem aq1.ji{α:Type}{E:arb α}{t:τ}{base c:Nat}{xs:List α}(h:aq1 E t w base A c xs)(K:jV D w w')(hn: ∀g,A.map (·.block)=some g-> ¬D g):aq1 E t w' base A c xs:=by
 refine⟨h.1,?_⟩;rcases h.2 with M |⟨g,cap,cur,e,j,H,J⟩;.grind
 .have hA:A.map (·.block)=some g:=by grind
  exact .inr ⟨g,cap,cur,e,j,fK.ji H K (hn g hA),J⟩
def fE.ji{α:Type}{E:arb α}{xs:List α}(h:fE E w A xs)(j:jV D w w')(hn: ∀a,A=some a-> ¬D a.block):fE E w' A xs:=h.keep' j.size (λ_ a e H=>j.block _ H (hn a e))
def aq2.ji(h:aq2 w A c bs)(j:jV D w w')(hn: ∀a,A=some a-> ¬D a.block):aq2 w' A c bs:=h.keep' j.size (λ_ a e H=>j.block _ H (hn a e))
def Tab.ji(h:Tab w)(j:jV D w w')(H: ¬D 0):Tab w':=h.keep' j.size (λJ=>j.block 0 J H)
def xM.ji(h:xM w q p bs s A c)(j:jV D w w')(K: ¬D q)(J: ¬D p)(H: ¬D 0)(hA: ∀a,A=some a-> ¬D a.block):xM w' q p bs s A c:={h with blk:=h.blk.ji j K,rd:=⟨h.rd.blk.ji j J,h.rd.bytes.ji j hA,h.rd.far⟩,tab:=h.tab.ji j H}
def Own.ji(h:Own w W L)(H:jV D W W')(K: ∀x∈L,¬D x.1)(J: ∀k,D k->w.heap.size<=k):Own w W' L:=⟨h.below.trans (H.below h.below.size J),λx j=>⟨(h.blk x j).1,(h.blk x j).2.ji H (K x j)⟩,h.nodup⟩
def ajv (Df:Nat->Nat->Prop):Nat->List (Θ->ω->Prop)->Prop
 |_,[]=>True
 |n,Φ::l=>(∀i,i≠n-> ∀v w w',Φ v w->jV (Df i) w w'->Φ v w')/\ajv Df (n+1) l
theorem YG: ∀ {l:List (Θ->ω->Prop)} {n j:Nat} {Φ:Θ->ω->Prop},ajv Df n l->l[j]? =some Φ-> ∀i,i≠n+j-> ∀v w w',Φ v w->jV (Df i) w w'->Φ v w'
 | [],_,_,_,_,hj=>by grind
 |Ψ::l,n,0,Φ,h,hj=>by simp only[eP,aO]at hj;subst hj;intro i hi;exact h.1 i hi
 |Ψ::l,n,j+1,Φ,h,hj=>by rw[fB]at hj;intro i hi;exact YG h.2 hj i (by omega)
def ZQ{l:List (Θ->ω->Prop)}(h:ajv Df 0 l): ∀i j (Φ:Θ->ω->Prop),i≠j->i<l.length->l[j]? =some Φ-> ∀v w w',Φ v w->jV (Df i) w w'->Φ v w':=λi j _ M _ H v w w' K J=>YG h H i (by omega) v w w' K J
def YH (t:τ) (D:Nat->Prop) (cs:Array Θ):Θ->ω->Prop:=fun v w=> ∃bv,v=.slice (some ⟨bv,0,none⟩) 1 1/\fK w bv t cs/\ ¬D bv
def YH.ji{t:τ}(h:YH t D cs v w)(j:jV D w w'):YH t D cs v w':=by obtain⟨bv,e,hB,hn⟩:=h;exact⟨bv,e,hB.ji j hn,hn⟩
theorem JL.ji{α:Type}{E:arb α}{t:τ}{xs:List α}(h:JL E t B m R n xs v w)(J:jV D w w')(K: ∀k,D k->k<B):JL E t B m R n xs v w':=by obtain⟨A,c,e,j,hA⟩:=h;exact⟨A,c,e,j.ji J (λg H M=>by have:=(j.gJ g H).1;grind),hA⟩
def Oa (w:ω) (bs:List UInt8) (e:ε) (w':ω):Prop:= ∃p A c,e=.returned (.pointer (some ⟨p,0,none⟩))/\w.heap.size<=p/\rY w' p bs 0 A c/\(∀a,A=some a->w.heap.size<=a.block/\a.block<w'.heap.size)/\w w'
theorem agd(h:aq2 w A c bs)(hl:bs.length<=65536):Γ aj 165 #[.slice A bs.length c] w (Oa w bs):=by
 have ak:=Gg bs.length hl;by_cases Y:bs.length=0
 .obtain rfl:=dw Y;simp only[dU,show((0:Nat):Int)=0 from rfl] at*;have j:Own w _ [_,_]:=Own.iY w 5 308 (xK 0) #[.slice w 0 0,zI];have Z:=j.b1.cell;go_enter func165,ntmps165;go_wp2_with(first|(refine wpList_copy_nothing rfl _ _ _ _ rfl 5 dW (by kernel_rfl) _ _ _ _ _ _ rfl rfl rfl ?_));go_ret;refine⟨w.heap.size+1,w.heap.size,0,rfl,by omega,⟨j.b1,⟨Row.nil _ _,aW _,aV _⟩,?_⟩,?_,j.below⟩;.simp
  simp;omega
 .have j:Own w _ [_,_]:=Own.iY w 5 308 (xK bs.length) #[.slice w bs.length bs.length,zI];have Z:=j.b1.cell;have hA:=(h.below j.below);obtain⟨b,off,rfl,hb,_⟩:=h.at_ (k:=0) (by omega);have V:=j.b0;have O:=ah (aq8 bs);have ag: ∀H v,(aq6 bs)[H]? =some v->((w.alloc (.cells (xK bs.length) 5)).alloc (.cells #[.slice w bs.length bs.length,zI] 308)).cell? ((⟨b,off,none⟩:δ).add H)=some v:=by intro H v hj;(have ae:0<(aq6 bs).length:=by grind);obtain⟨b',al,e,_,hc⟩:=hA.row ae;cases e;rw[Addr.add_lit];exact hc H v hj
  have ad: ∀v∈aq6 bs,v.oneCell'=true:=tY bs;have aa:(aq6 bs).length=Nat.min bs.length bs.length:=by rw[O.out];exact(Nat.min_self _).symm
  have ac:0+(aq6 bs).length<=(xK bs.length).size:=by rw[O.out,vC];omega
  have U:(aq6 bs++(xK bs.length).toList.drop bs.length).toArray=(aq6 bs).toArray:=by rw[List.drop_eq_nil_of_le (by simp[vC]),List.append_nil]
  generalize M:aq6 bs=cl at*;have J:=ah M;have K:=ah U;clear M U;go_enter func165,ntmps165;go_wp2_with(first|(refine wpList_copy_own rfl _ _ _ _ rfl 5 dW (by kernel_rfl) _ _ _ _ _ _ _ rfl rfl (xK bs.length) 5 V cl aa ag ac ad ?_));go_ret;have ai:=V.row (aq6 bs).toArray;have af:=j.b1.OW (k:=w.heap.size) (by omega) (aq6 bs).toArray;rw[<-J.out]at K;refine⟨w.heap.size+1,w.heap.size,bs.length,rfl,by omega,?_,?_,?_⟩;.rw[<-J.out,K.out];refine⟨af,⟨?_,aW _,aG h.cap h.max⟩,?_⟩;(.have:=Row.block ai;omega);simp
  .simp;omega
  .exact jk j.below ig _
structure F6 (w W:ω) (q p:Nat) (bs:List UInt8) (s:Nat × Int) (A:Option δ) (c:Nat) (L:List Bk):Prop where
  own:Own w W L
  mr:xM W q p bs s A c
  lo:w.heap.size<=q/\w.heap.size<=p
  ne: ∀x∈L,x.1≠q/\x.1≠p/\ ∀a,A=some a->a.block≠x.1
theorem F6.turn(h:F6 w W q p bs s A c L)(H:Stp [(p,some 1),(q,some 1)] W W')(hm:xM W' q p bs s' A c):F6 w W' q p bs s' A c L:=⟨h.own.after H (λk o j=>by simp at j;rcases j with⟨rfl,_⟩ |⟨rfl,_⟩;exact h.lo.2;exact h.lo.1) rfl (λx J=>H.blk (h.own.blk x J).2 (λo hm=>by have:=h.ne x J;grind)),hm,h.lo,h.ne⟩
def F6.grow(h:F6 w W q p bs s A c L)(j:W W'):F6 w W' q p bs s A c L:=⟨h.own.grow j,h.mr.below j,h.lo,h.ne⟩
theorem F6.alloc(h:F6 w W q p bs s A c L)(hA: ∀a,A=some a->a.block<W.heap.size)(t:τ)(cs:Array Θ):F6 w (W.alloc (.cells cs t)) q p bs s A c (L++ [(W.heap.size,t,cs)]):=⟨h.own.alloc t cs _ rfl,h.mr.below jm,h.lo,λx j=>by
 rcases dK.1 j with a |a;.exact h.ne x a
 .simp at a;subst a;have H:=h.mr.blk.lt;have J:=h.mr.rd.blk.lt;grind⟩
theorem F6.err(h:F6 w W q p bs s A c L)(er:Int):F6 w (W.setCell ⟨q,1,none⟩ er) q p bs (s.1,er) A c L:=by
 have j:=h.mr;have K: ∀k,k≠q->(W.setCell ⟨q,1,none⟩ er).heap[k]? =W.heap[k]? :=λk H=>aN W ⟨q,1,none⟩ _ k H;refine⟨h.own.after (Stp.cell q 1 _) (λk o H=>by simp at H;rw[H.1];exact h.lo.1) rfl (λx J=>(h.own.blk x J).2.far (p:=⟨q,1,none⟩) (h.ne x J).1 _),⟨?_,⟨j.rd.blk.far (λe=>j.ne e.symm) _,j.rd.bytes.apart j.blk (by simp[is8]) (by simp) K,j.rd.far⟩,j.ne,j.far,?_,j.q0,j.p0,j.len,j.inn⟩,h.lo,h.ne⟩;.simpa using j.blk.iV 1 er
 .exact j.tab.I7 (Stp.cell (w:=W) q 1 _) (by simp[j.q0])
theorem F6.put{t:τ}(h:F6 w W q p bs s A c (L1++(g,t,cs)::L2))(K:g≠0)(i:Nat)(v:Θ):F6 w (W.setCell ⟨g,i,none⟩ v) q p bs s A c (L1++(g,t,cs.setIfInBounds i v)::L2):=by
 have O:=h.own.at_;have H:=h.ne (g,t,cs) (by simp);have J: ∀k,k≠g->(W.setCell ⟨g,i,none⟩ v).heap[k]? =W.heap[k]? :=λk U=>aN W ⟨g,i,none⟩ _ k U;have M:W.heap.size<=(W.setCell ⟨g,i,none⟩ v).heap.size:=by simp
 have j:=h.mr;refine⟨h.own.with (h.own.below.setCell h.own.lo _) (O.iV i v) J,⟨j.blk.far H.1.symm _,⟨j.rd.blk.far H.2.1.symm _,j.rd.bytes.keep' M (λK a e _=>J _ (H.2.2 a e)),j.rd.far⟩,j.ne,j.far,j.tab.keep' M (λ_=>J 0 (Ne.symm K)),j.q0,j.p0,j.len,j.inn⟩,h.lo,λx V=>?_⟩;rcases dK.1 V with a |a;.exact h.ne x (by simp[a])
 .rcases bJ.1 a with rfl |a;.exact H
  .exact h.ne x (by simp[a])
theorem F6.start{j:ω}{t:τ}(M:Tab w)(hz:0<w.heap.size)(V:bs.length<=2000)(U:Below (w.alloc (.cells cs t)).heap.size (w.alloc (.cells cs t)) j)(Y:(w.alloc (.cells cs t)).heap.size<=p)(J:rY j p bs 0 A c)(hA: ∀a,A=some a->(w.alloc (.cells cs t)).heap.size<=a.block/\a.block<j.heap.size):F6 w (j.alloc (.cells #[.pointer p,zI] 260)) j p bs (0,0) A c [(w,t,cs)]:=by
 have H:=((Own.jD w t cs).grow U).grow ((aH j j).alloc ig (.cells #[.pointer p,zI] 260));have Z:w.heap.size+1<=p:=by simp_all
 have aa:=J.blk.lt;exact⟨H,⟨fK.new _ _ _,J.below jm,by omega,λa O=>by grind,M.below H.below,by omega,by omega,by omega,aV _⟩,⟨by omega,by omega⟩,λx K=>by simp at K;subst K;exact⟨by omega,by omega,λa O=>by simp_all;omega⟩⟩
structure kU (W:ω) (m:Nat) (f:List Int × Int × List Int) (A1:Option δ) (c1:Nat) (A3:Option δ) (c3:Nat):Prop where
  own:fE aq7 W A1 f.1
  may:fE aq7 W A3 f.2.2
  q1:f.1.length<=c1
  q3:f.2.2.length<=c3
  f1: ∀a,A1=some a->m<=a.block
  f3: ∀a,A3=some a->m<=a.block
theorem kU.I7(h:kU W m f A1 c1 A3 c3)(H:Stp S W W')(j: ∀k o,(k,o)∈S->k<m):kU W' m f A1 c1 A3 c3:={h with own:=h.own.I7 H (λa e o hm=>by have:=j _ _ hm;have:=h.f1 a e;omega),may:=h.may.I7 H (λa e o hm=>by have:=j _ _ hm;have:=h.f3 a e;omega)}
def kU.below(h:kU W m f A1 c1 A3 c3)(j:W W'):kU W' m f A1 c1 A3 c3:={h with own:=h.own.below j,may:=h.may.below j}
theorem kU.put(h:kU W m f A1 c1 A3 c3)(j:g<m)(i:Nat)(v:Θ):kU (W.setCell ⟨g,i,none⟩ v) m f A1 c1 A3 c3:=h.I7 (Stp.cell g i v) (λk o H=>by grind)
def F6.ji(h:F6 w W q p bs s A c L)(J:jV D W W')(hm:xM W' q p bs s' A c)(H: ∀x∈L,¬D x.1)(j: ∀k,D k->w.heap.size<=k):F6 w W' q p bs s' A c L:=⟨h.own.ji J H j,hm,h.lo,h.ne⟩
theorem kU.ji{j:ω}(M:kU j m f A1 c1 A3 c3)(h:kU W m f A1 c1 A3 c3)(J:jV D W W')(Z: ∀k,D k->k<m\/j.heap.size<=k):kU W' m f A1 c1 A3 c3:=by
 have lt: ∀ {l:List Int} {A:Option δ},fE aq7 j A l->l≠ []-> ∀a,A=some a->a.block<j.heap.size:=by intro l A Y K a e;obtain⟨b,off,e2,H,_⟩:=Y (by cases l with |nil=>grind |cons x l=>simp[arb.flat,aq7]);grind
 exact {h with own:=h.own.keep' J.size (λK a e H=>J.block _ H (λV=>by have O:=lt M.own K a e;have U:=h.f1 a e;grind)),may:=h.may.keep' J.size (λK a e H=>J.block _ H (λV=>by have O:=lt M.may K a e;have U:=h.f3 a e;grind))}
def xX (bs:List UInt8) (l:List Int) (s:Nat × Int):List Int × (Nat × Int):=l.foldl (fun r v=>(r.1++ [(nD bs r.2 v:Int)],sN bs r.2 v)) ([],s)
def ac8(bs:List UInt8)(s:Nat × Int):xX bs [] s=([],s):=by rfl
def ZR(bs:List UInt8)(v:Int)(l:List Int)(s:Nat × Int):xX bs (l++ [v]) s=((xX bs l s).1++ [(nD bs (xX bs l s).2 v:Int)],sN bs (xX bs l s).2 v):=by simp only[xX,List.foldl_append,List.foldl_cons,List.foldl_nil]
theorem Ko(bs:List UInt8)(l:List Int)(s:Nat × Int):(xX bs l s).1.length=l.length:=by
 have h: ∀(l:List Int) (r:List Int × (Nat × Int)),(l.foldl (λr v=>(r.1++ [(nD bs r.2 v:Int)],sN bs r.2 v)) r).1.length=r.1.length+l.length:=by intro l;induction l with|nil=>simp|cons x l j=>grind
 have:=h l ([],s);simpa[xX] using this
def aow (q p:Nat) (bs:List UInt8) (s:Nat × Int) (A:Option δ) (c:Nat) (n:Int):Θ->ω->Prop:=fun v w=>v=.int .i64 n/\xM w q p bs s A c
def zL (bs:List UInt8):Int:=nD bs (0,0) 0
def sA (bs:List UInt8):Nat × Int:=if(uo bs (0,0) 0).2=0/\PE (zL bs)=none then((uo bs (0,0) 0).1,4) else uo bs (0,0) 0
def sB (bs:List UInt8):Nat × Int:=if(uo bs (sA bs) 1).2=0/\(nD bs (sA bs) 1:Int)≠(bs.length:Int) then((uo bs (sA bs) 1).1,8) else uo bs (sA bs) 1
def sT (bs:List UInt8):Nat × Int:=sN bs (sB bs) 2
def sH (bs:List UInt8):Nat × Int:=if PW (zL bs)=true then sN bs (sT bs) 9 else sN bs (sN bs (sT bs) 3) 4
def tOf (bs:List UInt8):Int:=nD bs (sB bs) 2
def Kq (bs:List UInt8):Int:=if PW (zL bs)=true then 0 else nD bs (sT bs) 3
def Xe (bs:List UInt8):Int:=if PW (zL bs)=true then nD bs (sT bs) 9 else nD bs (sN bs (sT bs) 3) 4
def aik (id t ack sS:Int) (v p:Θ):Array Θ:= #[.int .i64 id,.int .i64 t,.int .i64 ack,.int .i64 sS,v,p]
theorem ac9{b:Nat}{t:τ}{V Y Z o3 o4 o5:Θ}(h:fK W b t #[V,Y,Z,o3,o4,o5])(j:w.heap.size<=b)(hB:w W)(H J K M O U:Θ):fK ((((((W.setCell ⟨b,0,none⟩ H).setCell ⟨b,1,none⟩ J).setCell ⟨b,2,none⟩ K).setCell ⟨b,3,none⟩ M).setCell ⟨b,4,none⟩ O).setCell ⟨b,5,none⟩ U) b t #[H,J,K,M,O,U]/\w ((((((W.setCell ⟨b,0,none⟩ H).setCell ⟨b,1,none⟩ J).setCell ⟨b,2,none⟩ K).setCell ⟨b,3,none⟩ M).setCell ⟨b,4,none⟩ O).setCell ⟨b,5,none⟩ U):=⟨(((((h.iV 0 H).iV 1 J).iV 2 K).iV 3 M).iV 4 O).iV 5 U,(((((hB.setCell (p:=⟨b,0,none⟩) j _).setCell (p:=⟨b,1,none⟩) j _).setCell (p:=⟨b,2,none⟩) j _).setCell (p:=⟨b,3,none⟩) j _).setCell (p:=⟨b,4,none⟩) j _).setCell (p:=⟨b,5,none⟩) j _⟩
def xY (bs:List UInt8):Nat->Nat->List Pk->Except Int (List Pk)
 |0,_,acc=> .ok acc
 | k + 1, at_, acc=> if 8 ≤ 8 * bs.length - at_ then (match DU bs at_ with
   | .error er=> .error er
   | .ok (p,e)=>xY bs k e (acc++ [p])) else .ok acc
def wM (bs:List UInt8):List Int × (Nat × Int):=xX bs (nG (zL bs)).1 (sH bs)
def Kr (bs:List UInt8) (ps:List Pk):Ms:=⟨zL bs,tOf bs,Kq bs,Xe bs,(wM bs).1,ps⟩
def arN (bs:List UInt8):Except Int Ms:=if(wM bs).2.2≠0 then .error (wM bs).2.2 else match xY bs bs.length (wM bs).2.1 [] with
 | .error er=> .error er
 | .ok ps=>if zf bs (Kr bs ps)=false then .error 8 else if Ia (nG (zL bs)) (ps.map (·.id))=false then .error 50 else .ok (Kr bs ps)
def Ob(h:fK w g 198 #[.int .i64 id,.slice A n c]):fE qJ w (some ⟨g,0,none⟩) [⟨id,A,n,c⟩]:=qw h rfl
def Own.TP{t:τ}(h:Own w W (L1++(g,t,cs)::L2))(i:Nat)(v:Θ):Own w (W.setCell ⟨g,i,none⟩ v) (L1++(g,t,cs.setIfInBounds i v)::L2):=h.with (h.below.setCell h.lo _) (h.at_.iV i v) (λk j=>aN W ⟨g,i,none⟩ _ k j)
structure ajw (w:ω) (B:Nat) (A:Option δ) (x:WV) (p:Pk):Prop where
  id:x.id=p.id
  n:x.n=p.v.length
  c:x.n<=x.c/\x.c<=μ
  row:fE aq7 w x.A p.v
  lo: ∀a,x.A=some a->B<=a.block
  off:p.v≠ []-> ∀a,x.A=some a->A.map (·.block)≠some a.block
def rH (w:ω) (B:Nat) (A:Option δ) (xs:List WV) (ps:List Pk):Prop:=xs.length=ps.length/\ ∀(i:Nat) x p,xs[i]? =some x->ps[i]? =some p->ajw w B A x p
theorem rH.ids{w:ω}{B:Nat}{A:Option δ}: ∀ {xs:List WV} {ps:List Pk},rH w B A xs ps->xs.map (·.id)=ps.map (·.id)
 | [],[],_=>rfl
 | [],_::_,h=>by cases h.1
 |_::_,[],h=>by cases h.1
 |x::xs,p::ps,h=>by rw[List.map_cons,List.map_cons,(h.2 0 x p rfl rfl).id,rH.ids (w:=w) (B:=B) (A:=A) (xs:=xs) (ps:=ps) ⟨by simpa using h.1,λi y q H j=>h.2 (i+1) y q H j⟩]
def sU (w:ω) (B:Nat) (A:Option δ) (c:Nat) (ps:List Pk):Prop:= ∃xs:List WV,aq1 qJ 198 w B A c xs/\rH w B A xs ps
theorem sU.nil(w:ω)(B:Nat):sU w B none 0 []:=⟨[],aq1.nil _ _,rfl,(λi x p j=>by cases j)⟩
theorem Qb(h:fE aq7 w A l)(H:l≠ []): ∀a,A=some a->a.block<w.heap.size:=by intro a e;obtain⟨b,off,e2,j,_⟩:=h (by cases l with |nil=>grind |cons x l=>simp[arb.flat,aq7]);grind
theorem rH.ji(h:rH w B A xs ps)(H:jV D w w')(U: ∀k,D k->k<B\/w.heap.size<=k):rH w' B A xs ps:=⟨h.1,λi x p M K=>by have j:=h.2 i x p M K;exact {j with row:=j.row.keep' H.size (λY a e J=>H.block _ J (λV=>by have O:=j.lo a e;grind))}⟩
theorem sU.ji(h:sU w B A c ps)(j:jV D w w')(J: ∀k,D k->k<B\/w.heap.size<=k):sU w' B A c ps:=by obtain⟨xs,H,K⟩:=h;exact⟨xs,H.ji j (λg e M=>by have:=H.gJ g e;grind),K.ji j J⟩
theorem sU.base(h:sU w B A c ps)(j:B'<=B):sU w B' A c ps:=by obtain⟨xs,O,M,J⟩:=h;exact⟨xs,O.mono j,M,λi x p K H=>{J i x p K H with lo:=λa e=>aG j ((J i x p K H).lo a e)}⟩
theorem sU.at_(h:sU w B A c ps):TJ w A ps:=by obtain⟨xs,J,H⟩:=h;exact⟨xs,J.rows,H.ids,H.1,λi x p M K=>by have j:=H.2 i x p M K;exact⟨j.n,j.c.1,j.c.2,j.row⟩⟩
theorem rH.snoc{M:ω}{Ak:Option δ}{p:Pk}(h:rH w B A xs ps)(O:w.grownBy M (A.map (·.block)))(H:A3.map (·.block)=A.map (·.block)\/A3.map (·.block)=some w.heap.size)(hr:fE aq7 w Ak p.v)(U: ∀a,Ak=some a->B<=a.block/\A.map (·.block)≠some a.block)(Y:p.v.length<=μ):rH M B A3 (xs++ [⟨p.id,Ak,p.v.length,p.v.length⟩]) (ps++ [p]):=by
 have key: ∀x q,ajw w B A x q->ajw M B A3 x q:=λx q J=>{J with row:=J.row.keep' O.size (λhn a e V=>O.block _ V (λe2=>J.off hn a e e2.symm)),off:=λhn a e=>(by
  rcases H with H |H;.rw[H];exact J.off hn a e
  .rw[H];intro e2;injection e2 with e2;have:=Qb J.row hn a e;omega)}
 have Z:=h.1;refine⟨by grind,λi x q j K=>?_⟩;by_cases hi:i<xs.length;.rw[dP hi]at j;rw[dP (by omega)]at K;exact key x q (h.2 i x q j K)
 .rw[List.getElem?_append_right (by omega)]at j K;rw[Z]at j;have hz:i-ps.length=0:=by grind
  rw[hz]at j K;cases j;cases K;exact key _ _ ⟨rfl,rfl,⟨aW _,Y⟩,hr,λa e=>(U a e).1,λ_ a e=>(U a e).2⟩
structure uP (w:ω) (B:Nat) (m:Ms) (a:Vx):Prop where
  v:aq1 aq7 3 w B a.Av a.cv m.v
  p:sU w B a.Ap a.cp m.p
  vl:m.v.length<=20
  pl:m.p.length<=2000
  pv: ∀p∈m.p,p.v.length<=8184
theorem uP.is_{m:Ms}{a:Vx}(h:uP w B m a):P8 w m a:=⟨h.v.rows,h.p.at_,h.v.cap.1,by obtain⟨xs,j,J⟩:=h.p;rw[<-J.1];exact j.cap.1,aG h.vl (by decide),aG h.pl (by decide),λp H=>aG (h.pv p H) (by decide)⟩
theorem uP.ji{m:Ms}{a:Vx}(h:uP w B m a)(j:jV D w w')(H: ∀k,D k->k<B\/w.heap.size<=k):uP w' B m a:={h with v:=h.v.ji j (λg e J=>by have:=h.v.gJ g e;grind),p:=h.p.ji j H}
theorem uP.base{m:Ms}{a:Vx}(h:uP w B m a)(j:B'<=B):uP w B' m a:={h with v:=h.v.mono j,p:=h.p.base j}
theorem xg(W:ω)(b i:Nat)(v:Θ):jV (λk=>k=b) W (W.setCell ⟨b,i,none⟩ v):=jV.DW (Stp.cell b i v) (λk o hm=>by grind)
def aox(W:ω)(b:Nat)(j H J K M O:Θ):jV (λk=>k=b) W ((((((W.setCell ⟨b,0,none⟩ j).setCell ⟨b,1,none⟩ H).setCell ⟨b,2,none⟩ J).setCell ⟨b,3,none⟩ K).setCell ⟨b,4,none⟩ M).setCell ⟨b,5,none⟩ O):=(((((xg W b 0 j).trans (xg _ b 1 H)).trans (xg _ b 2 J)).trans (xg _ b 3 K)).trans (xg _ b 4 M)).trans (xg _ b 5 O)
def ajx (w:ω) (R:Except Int Ms) (e:ε) (w':ω):Prop:=w w'/\match R with
 | .error er=>e=.returned (.tuple #[.agg gk,.int .i64 er])
 | .ok m=> ∃a,e=.returned (.tuple #[.agg (oC m a),.int .i64 0])/\uP w' w m a
theorem arY{v:Int}(h:(uo bs s v).2=0):s.2=0/\((uo bs s v).1:Int)=s.1+fQ v:=by
 unfold uo at h |-;by_cases j:s.2=0;.rw[Υ j]at h |-;simp only at h |-;unfold xH;rw[Υ h];have:=lq v;omega
 grind
def Kt{v:Int}(h:(sN bs s v).2=0):s.2=0/\((sN bs s v).1:Int)=s.1+fQ v:=by
 unfold sN at h |-;split at h;.cases h
 .rename_i hc;rw[Ξ hc];exact arY h
def YI(bs:List UInt8): ∀(l:List Int) (r:List Int × (Nat × Int)),(l.foldl (λr v=>(r.1++ [(nD bs r.2 v:Int)],sN bs r.2 v)) r).2.2=0->r.2.2=0/\((l.foldl (λr v=>(r.1++ [(nD bs r.2 v:Int)],sN bs r.2 v)) r).2.1:Int)=r.2.1+yZ l
 | [],r,h=>⟨h,by rfl⟩
 |x::l,r,h=>by rw[List.foldl_cons]at h |-;obtain⟨H,J⟩:=YI bs l _ h;obtain⟨K,j⟩:=Kt H;refine⟨K,?_⟩;rw[J];simp only at j |-;rw[j];simp only[yZ,List.map_cons,List.sum_cons];omega
theorem agf(h:(wM bs).2.2=0):((wM bs).2.1:Int)=arU (zL bs):=by
 unfold wM xX at h |-;obtain⟨j,O⟩:=YI bs _ _ h;rw[O];simp only at j |-;have key:(sT bs).2=0/\((sH bs).1:Int)=(sT bs).1+(if PW (zL bs)=true then fQ 9 else fQ 3+fQ 4):=by
  unfold sH at j |-;split at j;.rename_i H;rw[Υ H,Υ H];exact Kt j
  .rename_i H;rw[Ξ H,Ξ H];obtain⟨a,b⟩:=Kt j;obtain⟨c,d⟩:=Kt a;omega
 obtain⟨U,V⟩:=key;obtain⟨J,Y⟩:=Kt (show(sN bs (sB bs) 2).2=0 from U);have M:(sA bs).2=0/\((sB bs).1:Int)=(sA bs).1+fQ 1:=by
  unfold sB at J |-;split at J;.cases J
  .rename_i hc;rw[Ξ hc];exact arY J
 have Z:((sA bs).1:Int)=fQ 0:=by
  have K:=M.1;unfold sA at K |-;split at K;.cases K
  .rename_i hc;rw[Ξ hc];have:=(arY K).2;omega
 rw[V,show sT bs=sN bs (sB bs) 2 from rfl,Y,M.2,Z];unfold arU rG H9;rw[eX,List.sum_append];show _=_+(_+yZ _);split <;> simp <;> omega
theorem YJ{at_:Nat}(h:DU bs at_=.error er):er≠0:=by
 unfold DU at h;cases j:zK (bs.drop (at_ / 8)) 5 ⟨at_ % 8,[],0⟩ with
 |error x=>rw[j]at h;cases h;exact WZ j
 |ok K=>
  obtain⟨id,s⟩:=K;rw[j]at h;simp only at h;cases J:lu id with
  |none=>grind
  |some q=>
   rw[J]at h;simp only at h;cases H:mV (zK (bs.drop (at_ / 8))) q 0 {s with v:= []} with
   |error x=>rw[H]at h;cases h;exact J5 _ _ _ _ H
   |ok s'=>grind
structure uN (bs:List UInt8) (at0 at_:Nat) (acc:List Pk):Prop where
  inn:at_<=8*bs.length
  fuel: ∃k,xY bs bs.length at0 []=xY bs k at_ acc/\8*bs.length<=at_+8*k+7
  wid:oP acc=(at_:Int)-at0
  vl: ∀p∈acc,p.v.length<=8184
  len:8*acc.length+at0<=at_
def uN.start{at0:Nat}(h:at0<=8*bs.length):uN bs at0 at0 []:=⟨h,⟨bs.length,rfl,by omega⟩,by simp[oP],(λp j=>by cases j),by simp⟩
theorem uN.step{at0 at_ e:Nat}{p:Pk}(h:uN bs at0 at_ acc)(O:8<=8*bs.length-at_)(H:DU bs at_=.ok (p,e)):uN bs at0 e (acc++ [p])/\at_+8<=e:=by
 obtain⟨J,K,M,V,Y⟩:=N8 H h.inn;obtain⟨k,U,Z⟩:=h.fuel;refine⟨⟨M,?_,?_,λq j=>?_,by rw[bC];have:=h.len;grind⟩,K⟩;.cases k with|zero=>omega|succ k=>rw[xY,Υ O,H]at U;grind
 .have e2:oP (acc++ [p])=oP acc+CY p:=by simp[oP]
  rw[e2,h.wid,J];omega
 .rcases dK.1 j with j |j;.exact h.vl q j
  grind
def uN.bad{at0 at_:Nat}(h:uN bs at0 at_ acc)(H:8<=8*bs.length-at_)(J:DU bs at_=.error er):xY bs bs.length at0 []=.error er:=by obtain⟨k,j,K⟩:=h.fuel;cases k with|zero=>omega|succ k=>rw[xY,Υ H,J]at j;exact j
def uN.done{at0 at_:Nat}(h:uN bs at0 at_ acc)(j: ¬8<=8*bs.length-at_):xY bs bs.length at0 []=.ok acc:=by obtain⟨k,H,J⟩:=h.fuel;rw[H];cases k with|zero=>rw[xY]|succ k=>rw[xY,Ξ j]
def arB (s:List UInt8 × Nat) (b:Bool):List UInt8 × Nat:=let l:=if s.2 % 8=0 then s.1++ [0] else s.1;(if b=true then l.set (s.2 / 8) (nth l (s.2 / 8) ||| Iz 128 (s.2 % 8)) else l,s.2+1)
def ZT (n k:Nat):Bool:=decide (n / 2 ^ k % 2=1)
def DX (s:List UInt8 × Nat) (n:Nat):Nat->List UInt8 × Nat
 |0=>s
 |k+1=>DX (arB s (ZT n k)) n k
def agh(s:List UInt8 × Nat)(b:Bool):(arB s b).2=s.2+1:=rfl
theorem ZU{s:List UInt8 × Nat}{b:Bool}(h:s.1.length=(s.2+7) / 8):(arB s b).1.length=((arB s b).2+7) / 8:=by
 unfold arB;simp only;have j:(if s.2 % 8=0 then s.1++ [0] else s.1).length=(s.2+1+7) / 8:=by grind
 cases b with|false=>grind|true=>grind
def Xf(n:Nat): ∀(k:Nat) (s:List UInt8 × Nat),(DX s n k).2=s.2+k
 |0,s=>rfl
 |k+1,s=>by rw[DX,Xf n k,agh];omega
def TQ(n:Nat): ∀(k:Nat) (s:List UInt8 × Nat),s.1.length=(s.2+7) / 8->(DX s n k).1.length=((DX s n k).2+7) / 8
 |0,s,h=>h
 |k+1,s,h=>TQ n k _ (ZU h)
structure Ku (p B:Nat) (s:List UInt8 × Nat) (A:Option δ) (c:Nat) (T:Nat->Prop) (w:ω):Prop where
  foot: ∀k,T k<->(k=p\/A.map (·.block)=some k)
  blk:fK w p 304 #[.slice A s.1.length c,.int .i64 s.2]
  own:arn w B A c s.1
  pB:p<B
  size:B<=w.heap.size
  len:s.1.length=(s.2+7) / 8
def ZV (p B:Nat) (s:List UInt8 × Nat) (T:Nat->Prop) (w:ω):Prop:= ∃A c,Ku p B s A c T w
def Ku.below{s:List UInt8 × Nat}(h:Ku p B s A c T w)(j:w w'):Ku p B s A c T w':={h with blk:=h.blk.below j h.blk.lt,own:=h.own.below j,size:=aG h.size j.size}
theorem arn.stay{base c g:Nat}(h:arn w base A c bs)(K: ∀k,k≠g->w'.heap[k]? =w.heap[k]?)(M:arI A≠some g):arn w' base A c bs:=by
 refine⟨h.1,?_⟩;rcases h.2 with O |⟨k,cap,cur,e,j,H,J⟩;.grind
 .have hA:arI A=some k:=by simp only[dV]at e;rw[e.1];rfl
  exact .inr ⟨k,cap,cur,e,j,(K k (λe=>M (by grind))).trans H,J⟩
theorem Kv(h:fK w g 5 #[.int .u8 0]):aq2 w g 1 [0]:=⟨λ_=>⟨g,0,rfl,h.lt,λH u j=>by rw[aJ,h.cell,<-Array.getElem?_toList];exact j⟩,by simp,by simp[μ]⟩
def Ku.grown{u:Nat}{W2:ω}(h:Ku p B (b,u) A c T w)(j:w.grownBy W2 (arI A))(K:arn W2 B A2 c2 (b++ [0]))(hA:A2.map (·.block)=A.map (·.block)\/ ∃g,A2.map (·.block)=some g/\w.heap.size<=g): ∃T',Ext T w T' (W2.setCell ⟨p,0,none⟩ (.slice A2 (b.length+1) c2))/\(∀k,T' k<->(k=p\/A2.map (·.block)=some k))/\fK (W2.setCell ⟨p,0,none⟩ (.slice A2 (b.length+1) c2)) p 304 #[.slice A2 (b++ [0]).length c2,u]/\arn (W2.setCell ⟨p,0,none⟩ (.slice A2 (b.length+1) c2)) B A2 c2 (b++ [0])/\B<=(W2.setCell ⟨p,0,none⟩ (.slice A2 (b.length+1) c2)).heap.size:=by
 have Z:arI A≠some p:=λe=>by have:=(h.own.gJ p e).1;have:=h.pB;omega
 have V:fK W2 p 304 #[.slice A b.length c,u]:=(j.block p h.blk.lt (λe=>Z e.symm)).trans h.blk;have O: ∀k,k≠p->(W2.setCell ⟨p,0,none⟩ (.slice A2 (b.length+1) c2)).heap[k]? =W2.heap[k]? :=λk H=>aN W2 ⟨p,0,none⟩ _ k H;have M:(W2.setCell ⟨p,0,none⟩ (.slice A2 (b.length+1) c2)).heap.size=W2.heap.size:=by simp[dD]
 refine⟨λk=>k=p\/A2.map (·.block)=some k,⟨j.os,j.tape,j.output,by rw[M];exact j.size,λk U J=>(O k (λe=>J ((h.foot k).2 (.inl e)))).trans (j.block k U (λe=>J ((h.foot k).2 (.inr e.symm)))),λk H=>?_⟩,λk=>Iff.rfl,?_,?_,by rw[M];exact aG h.size j.size⟩
 .rcases H with e |e;.exact .inl ((h.foot k).2 (.inl e))
  .rcases hA with hA |⟨g,hA,Y⟩;(.exact .inl ((h.foot k).2 (.inr (hA▸e))));.rw[hA]at e;injection e with e;exact .inr (e▸Y)
 .rw[bC];exact V.iV 0 _
 .exact arn.stay K O (λe=>by have:=(K.gJ p e).1;have:=h.pB;omega)
theorem wO(O:o.guard=none)(s x:κ)(Y:o.op=.call {callee:=.builtin .append,args:= #[s,x],argTypes:= #[45,45]})(base:Nat)(A1:Option δ)(c1:Nat)(xs:List UInt8)(n1:Nat)(hs:a.eval s=.slice A1 n1 c1)(V:xs.length=n1)(Z:arn w base A1 c1 xs)(A:Option δ)(c:Nat)(bs:List UInt8)(n:Nat)(hx:a.eval x=.slice A n c)(hn:bs.length=n)(hr:aq2 w A c bs)(ae:n1+n<=140737488355328)(M:base<=w.heap.size)(h: ∀A2 c2 W,arn W base A2 c2 (xs++bs)->w.grownBy W (arI A1)->(A2.map (·.block)=A1.map (·.block)\/A2.map (·.block)=some w.heap.size)->Δ aj ops Q rest (a.put o.dst (.slice A2 (n1+n) c2)) W):Δ aj ops Q (o::rest) a w:=by
 subst V;subst hn;obtain⟨i0,U,aa,ac,ad⟩:=info_parts Pz;refine wF w O s x 45 Y base 5 i0 _ 1 1 dW U aa ac ad rfl (by omega) _ _ _ hs Z w A bs.length c (aq6 bs) hx (hr.row.reads (aq8 bs)) (tY bs) (by constructor<;>grind) (by omega) M ?_;intro v' W H J j;rw[oL]at J j;have K: ∃A2 c2,v'=.slice A2 (xs.length+bs.length) c2:=by
  rcases H.2 with⟨e,h0⟩ |⟨g,cap,_,e,_⟩;.exact⟨none,0,by grind⟩
  .exact⟨_,_,e⟩
 obtain⟨A2,c2,rfl⟩:=K;rw[oL]at j;refine h A2 c2 W ?_ J j;unfold arn;rw[bC,vJ];exact H
theorem aoy(n k:Nat):n / 2 ^ k % 2=if ZT n k=true then 1 else 0:=by
 unfold ZT;by_cases h:n / 2 ^ k % 2=1;.simp[h]
 .grind
structure WrX (p B:Nat) (l:List UInt8) (u:Nat) (A:Option δ) (c:Nat) (T:Nat->Prop) (W:ω):Prop where
  foot: ∀k,T k<->(k=p\/A.map (·.block)=some k)
  blk:fK W p 304 #[.slice A l.length c,.int .i64 u]
  own:arn W B A c l
  pB:p<B
  size:B<=W.heap.size
def WrX.below{u:Nat}{l:List UInt8}(h:WrX p B l u A c T w)(j:w w'):WrX p B l u A c T w':={h with blk:=h.blk.below j h.blk.lt,own:=h.own.below j,size:=aG h.size j.size}
theorem WrX.counted{u:Nat}{l:List UInt8}(h:WrX p B l u A c T W)(K:l.length=(u+1+7) / 8):Ku p B (l,u+1) A c T (W.setCell ⟨p,1,none⟩ (.int .i64 ((u:Int)+1)))/\Ext T W T (W.setCell ⟨p,1,none⟩ (.int .i64 ((u:Int)+1))):=by
 have J: ∀k,k≠p->(W.setCell ⟨p,1,none⟩ (.int .i64 ((u:Int)+1))).heap[k]? =W.heap[k]? :=λk j=>aN W ⟨p,1,none⟩ _ k j;have H:(W.setCell ⟨p,1,none⟩ (.int .i64 ((u:Int)+1))).heap.size=W.heap.size:=by simp
 refine⟨{foot:=h.foot,blk:=?_,own:=arn.stay h.own J (λe=>by have:=(h.own.gJ p e).1;have:=h.pB;omega),pB:=h.pB,size:=by rw[H];exact h.size,len:=K},⟨rfl,rfl,rfl,bZ H.symm,λk _ j=>J k (λe=>j ((h.foot k).2 (.inl e))),λk j=> .inl j⟩⟩;have:=h.blk.iV 1 (.int .i64 ((u:Int)+1));grind
def arn.cells{base c:Nat}(h:arn w base A c bs)(J:0<bs.length): ∃g cur,A=some ⟨g,0,none⟩/\fK w g 5 cur/\base<=g:=by
 rcases h.2 with⟨_,e⟩ |⟨g,cap,cur,e,j,H,_⟩;.omega
 .simp only[dV]at e;exact⟨g,cur,e.1,H,j⟩
def WrX.stored{u:Nat}{l:List UInt8}(h:WrX p B l u g c T W)(q:Nat)(x:UInt8):WrX p B (l.set q x) u g c T (W.setCell ⟨g,q,none⟩ (q8 x))/\Ext T W T (W.setCell ⟨g,q,none⟩ (q8 x)):=by
 have J:g≠p:=λe=>by have:=(h.own.gJ g rfl).1;have:=h.pB;omega
 have H:(W.setCell ⟨g,q,none⟩ (q8 x)).heap.size=W.heap.size:=by simp[dD]
 exact⟨{foot:=h.foot,blk:=by rw[List.length_set];exact h.blk.far (p:=⟨g,q,none⟩) J.symm _,own:=h.own.stored q x,pB:=h.pB,size:=by rw[H];exact h.size},⟨rfl,rfl,rfl,bZ H.symm,λk _ j=>aN W ⟨g,q,none⟩ _ k (λe=>j ((h.foot k).2 (.inr (by rw[e];rfl)))),λk j=> .inl j⟩⟩
def Ku.x{u:Nat}(h:Ku p B (b,u) A c T w):WrX p B b u A c T w:=⟨h.foot,h.blk,h.own,h.pB,h.size⟩
def ada(r:Nat)(j:r<=7):γ .shr 5 (.int .u8 128) (r:Int)=pure (q8 (Iz 128 r)):=by have:=aci 5 128 .i64 (r:Int) (by omega) (by omega);rw[Int.toNat_natCast]at this;exact this
theorem amc{s:List UInt8 × Nat}(h:ZV p B s T w)(n J:Nat)(cc:1<=J)(bE:J<=32)(hn:n<2 ^ J)(hf:s.2+J<=8184):Γ aj 210 #[.pointer p,n,J] w λe w'=>e=.returned zI/\ ∃T',Ext T w T' w'/\ZV p B (DX s n J) T' w':=by
 obtain⟨A,c,h⟩:=h;have am:=h.blk.cell;have bo:(n:Int) / 2 ^ J=0:=Int.ediv_eq_zero_of_lt (by omega) (by exact_mod_cast hn);have bd:n<4294967296:=aU hn (by have:=Nat.pow_le_pow_right (n:=2) (by decide) bE;omega);have d3:decide ((8184:Int)<(s.2:Int)+(J:Int))=false:=by simp;omega
 have d1:decide ((J:Int)<1)=false:=by simp;omega
 have d2:decide ((32:Int)<(J:Int))=false:=by simp;omega
 have dn:decide ((n:Int)<0)=false:=by simp
 clear hn;go_enter func210,ntmps210;go_wp2_with fail;go_loopw [7] (λi wr=> ∃(ar:Nat) (b:List UInt8) (j:Nat) (Y:Option δ) (c':Nat) (T':Nat->Prop),i=.int .i64 ((ar:Int)-1)/\ar<=J/\Ku p B (b,j) Y c' T' wr/\Ext T w T' wr/\Hid (DX s n J=DX (b,j) n ar/\j+ar=s.2+J)) (λi _=>(intOf i+1).toNat);case atStart=>exact⟨J,s.1,s.2,A,c,T,rfl,aW _,h,Ext.refl _ _,ah ⟨rfl,rfl⟩⟩
 case round=>
  clear h am;obtain⟨ar,b,j,Y,c',T',rfl,hj,h,hE,hI⟩:=hrel;cases ar with
  |zero=>simp only[Int.natCast_zero,Int.zero_sub] at*;go_wp2_with fail;go_ret;exact⟨rfl,T',hE,by rw[hI.out.1];exact⟨Y,c',h⟩⟩
  |succ k=>
   (have ek:(((k+1:Nat):Int)-1)=(k:Int):=by omega);rw[ek];(have bS:k<=31:=by omega);(have hu:j+(k+1)<=8184:=by have:=hI.out.2;omega);obtain⟨m,hm⟩:=fD (n / 2 ^ k);(have bX:(n:Int) / 2 ^ k=(m:Int):=by rw[hm];push_cast;rfl);(have bN:m<4294967296:=by rw[hm];exact Nat.lt_of_le_of_lt (Nat.div_le_self _ _) bd);have aD:=Zz 3 (m:Int) (by omega) (by omega);have ad:Hid (m % 2=if ZT n k=true then 1 else 0):=ah (by rw[hm];exact aoy n k);have aw:Hid (DX s n J=DX (arB (b,j) (ZT n k)) n k):=ah hI.out.1;have bR:=hI.out.2;have aa:=h.blk;have am:=aa.cell;have bw:=aa.frozen;obtain⟨bb,hb⟩:=fD (ZT n k);rw[<-hb]at ad aw;clear ek hm hb hI bd d1 d2 dn d3 bo;obtain⟨r,P9⟩:=fD (j % 8);(have hr:(j:Int) % 8=(r:Int):=by omega);have ac:=ah P9;by_cases h8:r=0
   ·(have f8:((r:Int)==0)=true:=by rw[beq_iff_eq];omega);have M:=ah h8;(have Gv:r<=7:=by omega);have av:=h.len;simp only at av;obtain⟨z,hz⟩:=fD b.length;have Z:=ah hz;have a5:Hid (z=j / 8):=ah (by omega);(have cd:z<=1100:=by omega);have ca:=h.size;simp only at am aa;rw[<-hz]at am aa;have HH:=ah h;have aM:=h.own;simp only at aM;clear h8 P9 av;cases bb with
    |false=>have al:m % 2=0:=ad.out;(have O:(m:Int) % 2=0:=by omega);rw[O]at aD;clear ad al O h hz;go_wp2_with(at_builtin;refine wO rfl _ _ rfl B Y c' b z rfl Z.out.symm (aM.alloc _) wr 1 [0] 1 rfl rfl (Kv (fK.new _ _ _)) (by omega) (by simp;omega) ?_;intro A2 c2 W2 aL aE az;have ap:=lN (arj ((aH wr wr).alloc ig (.cells #[.int .u8 0] 5)) (arI Y)) aE;have aq:fK W2 p 304 #[.slice Y z c',.int .i64 j]:=(ap.block p aa.lt (λe=>by have:=(HH.out.own.gJ p e.symm).1;have:=HH.out.pB;omega)).trans aa;have a9:=aq.cell;have ba:=aq.frozen);go_roundw;(case rel=>obtain⟨T2,e1,f1,b1,o1,V⟩:=HH.out.grown ap aL (az.imp (λh=>h) λe=>⟨_,e,by simp⟩);rw[<-Z.out]at e1 b1 o1 V;have bj:WrX p B (b++ [0]) j A2 c2 T2 (W2.setCell ⟨p,0,none⟩ (.slice A2 (z+1) c2)):=⟨f1,b1,o1,HH.out.pB,V⟩;obtain⟨k1,e2⟩:=bj.counted (by rw[bC,<-Z.out,a5.out];have:=M.out;have:=ac.out;simp;omega);(have e:arB (b,j) false=(b++ [0],j+1):=by have g1:=M.out;have g2:=ac.out;unfold arB;simp only[bU,if_false];rw[Υ (by omega)]);exact⟨k,_,j+1,_,_,_,rfl,by omega,k1,hE.trans (e1.trans e2),ah ⟨by rw[aw.out,e],by omega⟩⟩);case measure=>simp[intOf]
    |true=>
     have al:m % 2=1:=ad.out;(have O:(m:Int) % 2=1:=by omega);rw[O]at aD;clear ad al O h hz;go_wp2_with(at_builtin;refine wO rfl _ _ rfl B Y c' b z rfl Z.out.symm (aM.alloc _) wr 1 [0] 1 rfl rfl (Kv (fK.new _ _ _)) (by omega) (by simp;omega) ?_;intro A2 c2 W2 aL aE az;have ap:=lN (arj ((aH wr wr).alloc ig (.cells #[.int .u8 0] 5)) (arI Y)) aE;have aq:fK W2 p 304 #[.slice Y z c',.int .i64 j]:=(ap.block p aa.lt (λe=>by have:=(HH.out.own.gJ p e.symm).1;have:=HH.out.pB;omega)).trans aa;have a9:=aq.cell;have ba:=aq.frozen);obtain⟨T2,e0,f1,b1,o1,V⟩:=HH.out.grown ap aL (az.imp (λh=>h) λe=>⟨_,e,by simp⟩);rw[<-Z.out]at e0 b1 o1 V;obtain⟨W5,Xg⟩:=fD (W2.setCell ⟨p,0,none⟩ (.slice A2 (z+1) c2));rw[<-Xg]at e0 b1 o1 V |-;have K:WrX p B (b++ [0]) j A2 c2 T2 W5:=⟨f1,b1,o1,HH.out.pB,V⟩;(have bf:(b++ [0]).length=z+1:=by rw[bC,<-Z.out];rfl);have a4:=ah bf;have bc:=hE.trans e0;clear hE e0 b1 o1 V f1 Xg a9 ba aq ap aL aE az aa am bw aM bf;replace hE:=bc;clear bc;obtain⟨q,ax⟩:=fD (j / 8);(have hq:(j:Int) / 8=(q:Int):=by omega);(have bA:q<(z+1):=by have:=ac.out;have:=M.out;have:=a5.out;omega);obtain⟨g,cur,a8,U,bq⟩:=K.own.cells (by simp);subst a8;(have ZW:g≠p:=by have:=K.pB;omega);obtain⟨x0,an⟩:=fD (nth ((b++ [0])) q);(have au:(W5).cell? ⟨g,q,none⟩=some (q8 x0):=by obtain⟨b',bL,e',_,a7⟩:=K.own.bytes.at_ (k:=q) (by have:=a4.out;omega);injection e' with e';injection e' with e1 e2;subst e1;subst e2;rw[an];simpa using a7);have bB:=ada r Gv;have af:=K.blk;rw[show((b++ [0]):List UInt8).length=(z+1) by(first |exact a4.out)]at af;have aR:=ah ax;have a1:=ah an;clear ax an;apply gu (Below W5) (λW=>aq3 gY 1) (λ_ _ _ h1 h2=>h1.trans h2) (vN W5 999) (λ_ _ _ h=>h.1) (λ_ _=>iR _ _ _ _) (λ_ _=>True) (λ_=>trivial) (λ_ _ _ _ _ _ _=>trivial);(case lX=>intro u;simp only[bV,aq9,aP,ay,aA,aB,aT,aJ];with_reducible rfl);(case hm=>kernel_rfl);(case hB=>kernel_rfl);(case hA=>kernel_rfl);case hap=>kernel_rfl
     repeat(first
        |(apply fM.is
          ·
            (intro u w' hk bx H
             simp[fO,aC,gI,Is]at H
             refine fC ?_ ?_
             ·
               first
               |rfl
             intro a6 hK
             have bm:=(af.below hk af.lt).cell;have bn:=(hk.cell (p:=⟨g,q,none⟩) U.lt).trans au
             go_wp2_with (fail)
             try simp only[H]at hK
             refine hK _ _ ?_ rfl
             first |exact iR _ _ _ _)))
     refine fM.last (qh ?_) ?_;(.simp only[gQ];(repeat(refine⟨?_,?_⟩;.first|exact mM _));exact trivial);intro u w2 ae _ H;simp only[gQ]at H;refine⟨rfl,?_⟩;intro a6 hK;have ai:=H 18 _ rfl;have ag:=H 17 _ rfl;simp only[gI,Is]at ai ag;clear H;simp only[ai,ag];clear ai ag;have ak:=K.below ae;have Tc:=(ae.cell (p:=⟨g,q,none⟩) U.lt).trans au;have bh:=(U.below ae U.lt).frozen q;have bk:=ak.blk.cell;have bi:=ak.blk.frozen 1;clear af K U;go_wp2_with fail;go_roundw;(case rel=>obtain⟨V,e1⟩:=ak.stored q (x0 ||| Iz 128 r);obtain⟨k1,e2⟩:=V.counted (by rw[List.length_set];have:=a4.out;have:=a5.out;have:=M.out;have:=ac.out;omega);(have e:arB (b,j) true=(((b++ [0])).set q (x0 ||| Iz 128 r),j+1):=by have g1:=M.out;have g2:=ac.out;unfold arB;simp only[if_true];rw[Υ (by omega),a1.out,aR.out,<-g2]);exact⟨k,_,j+1,_,_,_,rfl,by omega,k1,hE.trans ((Ext.of_below ae).trans (e1.trans e2)),ah ⟨by rw[aw.out,e],by omega⟩⟩);case measure=>simp[intOf]
   ·(have f8:((r:Int)==0)=false:=by rw[beq_eq_false_iff_ne];omega);cases bb with
    |false=>have al:m % 2=0:=ad.out;(have O:(m:Int) % 2=0:=by omega);rw[O]at aD;have M:=ah h8;clear ad h8 al O P9;go_wp2_with fail;go_roundw;(case rel=>have bu:=h.len;have bO:=M.out;obtain⟨h1,h2⟩:=h.x.counted (by simp only at bu;omega);(have e:arB (b,j) false=(b,j+1):=by unfold arB;simp only[bU,if_false];rw[Ξ (by omega)]);exact⟨k,b,j+1,Y,c',T',rfl,by omega,h1,hE.trans h2,ah ⟨by rw[aw.out,e],by omega⟩⟩);case measure=>simp[intOf]
    |true=>
     have al:m % 2=1:=ad.out;(have O:(m:Int) % 2=1:=by omega);rw[O]at aD;have M:=ah h8;(have Gv:r<=7:=by omega);have K:=h.x;have av:=h.len;simp only at av;obtain⟨z,hz⟩:=fD b.length;have Z:=ah hz;(have cf:z=(j+7) / 8:=by omega);simp only at am;rw[<-hz]at am;clear ad h8 al O P9 av aa;go_wp2_with fail;obtain⟨q,ax⟩:=fD (j / 8);(have hq:(j:Int) / 8=(q:Int):=by omega);(have bA:q<z:=by have:=ac.out;have:=M.out;omega);obtain⟨g,cur,a8,U,bq⟩:=K.own.cells (by have:=M.out;have:=ac.out;omega);subst a8;(have ZW:g≠p:=by have:=K.pB;omega);obtain⟨x0,an⟩:=fD (nth (b) q);(have au:(wr).cell? ⟨g,q,none⟩=some (q8 x0):=by obtain⟨b',bL,e',_,a7⟩:=K.own.bytes.at_ (k:=q) (by have:=Z.out;omega);injection e' with e';injection e' with e1 e2;subst e1;subst e2;rw[an];simpa using a7);have bB:=ada r Gv;have af:=K.blk;rw[show(b:List UInt8).length=z by(first |exact Z.out.symm)]at af;have aR:=ah ax;have a1:=ah an;clear ax an;(try simp only[hr]);apply gu (Below wr) (λW=>aq3 gY 1) (λ_ _ _ h1 h2=>h1.trans h2) (vN wr 999) (λ_ _ _ h=>h.1) (λ_ _=>iR _ _ _ _) (λ_ _=>True) (λ_=>trivial) (λ_ _ _ _ _ _ _=>trivial);(case lX=>intro u;simp only[bV,aq9,aP,ay,aA,aB,aT,aJ];with_reducible rfl);(case hm=>kernel_rfl);(case hB=>kernel_rfl);(case hA=>kernel_rfl);case hap=>kernel_rfl
     repeat(first
        |(apply fM.is
          ·
            (intro u w' hk bx H
             simp[fO,aC,gI,Is]at H
             refine fC ?_ ?_
             ·
               first
               |rfl
             intro a6 hK
             have bm:=(af.below hk af.lt).cell;have bn:=(hk.cell (p:=⟨g,q,none⟩) U.lt).trans au
             go_wp2_with (fail)
             try simp only[H]at hK
             refine hK _ _ ?_ rfl
             first |exact iR _ _ _ _)))
     refine fM.last (qh ?_) ?_;(.simp only[gQ];(repeat(refine⟨?_,?_⟩;.first|exact mM _));exact trivial);intro u w2 ae _ H;simp only[gQ]at H;refine⟨rfl,?_⟩;intro a6 hK;have ai:=H 18 _ rfl;have ag:=H 17 _ rfl;simp only[gI,Is]at ai ag;clear H;simp only[ai,ag];clear ai ag;have ak:=K.below ae;have Tc:=(ae.cell (p:=⟨g,q,none⟩) U.lt).trans au;have bh:=(U.below ae U.lt).frozen q;have bk:=ak.blk.cell;have bi:=ak.blk.frozen 1;clear af K U;go_wp2_with fail;go_roundw;(case rel=>obtain⟨V,e1⟩:=ak.stored q (x0 ||| Iz 128 r);obtain⟨k1,e2⟩:=V.counted (by rw[List.length_set];have:=Z.out;have:=M.out;have:=ac.out;omega);(have e:arB (b,j) true=((b).set q (x0 ||| Iz 128 r),j+1):=by have g1:=M.out;have g2:=ac.out;unfold arB;simp only[if_true];rw[Ξ (by omega),a1.out,aR.out,<-g2]);exact⟨k,_,j+1,_,_,_,rfl,by omega,k1,hE.trans ((Ext.of_below ae).trans (e1.trans e2)),ah ⟨by rw[aw.out,e],by omega⟩⟩);case measure=>simp[intOf]
def fV (base:Nat) (bs:List UInt8):Θ->ω->Prop:=fun v w=> ∃A c,v=.slice A bs.length c/\aq2 w A c bs/\(0<bs.length-> ∃g,A=some ⟨g,0,none⟩/\base<=g/\g<w.heap.size/\ ∀i,i<bs.length->w.frozen? ⟨g,i,none⟩=false)
theorem fV.is{base:Nat}(h:fV base bs v w):jG bs v w:=by obtain⟨A,c,e,hB,_⟩:=h;exact⟨A,c,e,hB⟩
theorem fV.grow{base:Nat}(h:fV base bs v w)(j:w w'):fV base bs v w':=by obtain⟨A,c,e,hB,U⟩:=h;refine⟨A,c,e,hB.below j,λJ=>?_⟩;obtain⟨g,K,M,H,O⟩:=U J;exact⟨g,K,M,aU H j.size,λi hi=>(j.frozen (p:=⟨g,i,none⟩) H).trans (O i hi)⟩
theorem fV.mono{base base':Nat}(h:fV base bs v w)(H:base'<=base):fV base' bs v w:=by obtain⟨A,c,e,hB,J⟩:=h;refine⟨A,c,e,hB,λj=>?_⟩;grind
theorem fV.own{base:Nat}(h:arn w base A c bs):fV base bs (.slice A bs.length c) w:=by refine⟨A,c,rfl,h.bytes,λj=>?_⟩;obtain⟨g,rfl,H,J⟩:=h.addr j;exact⟨g,rfl,H,J,λi _=>World.ownsRow.frozenAt h i⟩
theorem adb(A:Option δ)(n c:Nat)(bs:List UInt8)(w:ω)(hn:bs.length=n)(hB:aq2 w A c bs)(Z:bs.length<=65536):Γ aj 164 #[.slice A n c] w λe w'=> ∃J j,e=.returned (.slice J n j)/\arn w' w J j bs/\w w':=by
 have ad: ∀(W:ω) (a:Option δ) (n c H j:Nat),(γ .eql 45 (.slice a n c) (.slice none H j)).run aj W=.ok a.isNone W:=λW a n c H j=>Lib.run_eql_slice_nil W _ _ a n c H j dW;cases A with
 |none=>
  have O:bs= []:=by cases bs with|nil=>rfl|cons x xs=>obtain⟨b,off,e,_⟩:=hB.at_ (k:=0) (by simp);cases e
  subst O;go_enter func164,ntmps164;go_wp2;go_ret;exact⟨none,0,by simp;omega,arn.nil _ _,aH _ _⟩
 |some M=>have U:arn (w.alloc (.cells #[] 5)) w w 0 []:=⟨by rfl,.inr ⟨w,0,#[],rfl,aW _,fK.new _ _ _,aW _,aV _,rfl,rfl⟩⟩;have V:w (w.alloc (.cells #[] 5)):=gY.alloc ig _;have aa:=ah Z;have ac:=ah hn;go_enter func164,ntmps164;go_wp2_with(at_builtin;refine xJ rfl _ _ rfl w w 0 [] 0 rfl rfl U (some M) c bs n rfl ac.out.symm (hB.alloc _) (by have:=aa.out;grind) (by simp) ?_;intro A2 c2 W2 K L6 Y);go_ret;simp only[aZ]at K;exact⟨A2,c2,by simp,K,V.trans Y⟩
theorem TR(A:Option δ)(n c:Nat)(bs:List UInt8)(w:ω)(hn:bs.length=n)(hB:aq2 w A c bs)(H:bs.length<=65536):Γ aj 164 #[.slice A n c] w λe w'=> ∃v,e=.returned v/\fV w bs v w'/\w w':=by refine(adb A n c bs w hn hB H).mono ?_;rintro e w'⟨K,M,rfl,J,j⟩;refine⟨_,rfl,?_,j⟩;have:=fV.own J;grind
theorem agi{u:Nat}(h:Ku p B (b,u) A c T w)(h0:0<b.length)(hl:b.length<=65536):Γ aj 211 #[.pointer p] w λe w'=> ∃v,e=.returned v/\fV w b v w'/\w w':=by
 have an:=Gg b.length hl;have H:Own w _ [_]:=Own.jD w 5 (xK b.length);have O:=h.blk.below H.below h.blk.lt;simp only at O;have ad:=h.blk.cell;have am:=O.cell;have j:=h.own.bytes;have hA:=j.below H.below;simp only at ad j hA;obtain⟨g,off,rfl,hg,_⟩:=j.at_ (k:=0) h0;have Z:=H.b0;have V:=ah (aq8 b);have al: ∀J v,(aq6 b)[J]? =some v->(w.alloc (.cells (xK b.length) 5)).cell? ((⟨g,off,none⟩:δ).add J)=some v:=by
  intro J v hj;have ak:0<(aq6 b).length:=by grind
  obtain⟨b',ap,e,_,hc⟩:=hA.row ak;cases e;rw[Addr.add_lit];exact hc J v hj
 have ai: ∀v∈aq6 b,v.oneCell'=true:=tY b;have ae:(aq6 b).length=Nat.min b.length b.length:=by rw[V.out];exact(Nat.min_self _).symm
 have af:0+(aq6 b).length<=(xK b.length).size:=by rw[V.out,vC];omega
 have Y:(aq6 b++(xK b.length).toList.drop b.length).toArray=(aq6 b).toArray:=by rw[List.drop_eq_nil_of_le (by simp[vC]),List.append_nil]
 have ac:=j.cap;have ag:=j.max;generalize U:aq6 b=cl at*;have K:=ah U;have M:=ah Y;clear U Y h j hA;go_enter func211,ntmps211;go_wp2_with(first|(refine wpList_copy_own rfl _ _ _ _ rfl 5 dW (by kernel_rfl) _ _ _ _ _ _ _ rfl rfl (xK b.length) 5 Z cl ae al af ai ?_));go_ret;have aa:=Z.row (aq6 b).toArray;rw[<-K.out]at M;refine⟨_,rfl,⟨w,b.length,rfl,?_,λ_=>⟨w,rfl,aW _,?_,λi _=>?_⟩⟩,?_⟩;.rw[<-K.out,M.out];refine⟨?_,aW _,aG ac ag⟩;have:=Row.block aa;omega
 .simp
 .rw[<-K.out,M.out];exact aa.frozen i
 .exact jk H.below ig _
def zM (s:List UInt8 × Nat) (l:List (Int × Int)):List UInt8 × Nat:=l.foldl (fun s x=>DX s x.1.toNat x.2.toNat) s
def C9 (l:List (Int × Int)):Except Int (List UInt8):=if 1023<(arf l+7) / 8 then .error 2 else .ok (zM ([],0) (vS l 1 ((arf l+7) / 8))).1
def sV (l:List (Int × Int)):Prop:= ∀x∈l,1<=x.2/\x.2<=32/\0<=x.1/\x.1<2 ^ x.2.toNat
def Xh{l:List (Int × Int)}(j:sV l): ∀s:List UInt8 × Nat,((zM s l).2:Int)=s.2+arf l:=by
 induction l with
 |nil=>intros;rfl
 |cons x l K=>
  intro s;have M:=j x (by simp);have H:=K (λy J=>j y (by simp[J])) (DX s x.1.toNat x.2.toNat);have e:zM s (x::l)=zM (DX s x.1.toNat x.2.toNat) l:=rfl;rw[e,H,Xf];have e2:arf (x::l)=x.2+arf l:=by rfl
  rw[e2];omega
def ade(l:List (Int × Int)): ∀s:List UInt8 × Nat,s.1.length=(s.2+7) / 8->(zM s l).1.length=((zM s l).2+7) / 8:=by induction l with|nil=>intro s h;exact h|cons x l j=>intro s h;exact j _ (TQ _ _ _ h)
def Oc{l:List (Int × Int)}{k:Nat}{x:Int × Int}(h:l[k]? =some x)(s:List UInt8 × Nat):zM s (l.take (k+1))=DX (zM s (l.take k)) x.1.toNat x.2.toNat:=by rw[take_snoc' h];simp[zM]
def TT (w:ω) (R:Option Nat) (q:Except Int (List UInt8)) (e:ε) (w':ω):Prop:=w.grownBy w' R/\match q with
 | .ok bs=> ∃v,e=.returned (.tuple #[v,.int .i64 0])/\fV w bs v w'
 | .error er=>e=.returned (.tuple #[.slice none 0 0,.int .i64 er])
theorem sV.set{l:List (Int × Int)}(j:sV l){x:Int × Int}(H:l[1]? =some x)(K:x.2=10)(hn:n<=1023):sV (vS l 1 n):=by
 rw[PY H];intro y J;rcases List.mem_or_eq_of_mem_set J with h |h;.exact j y h
 grind
def adf(l m:List (Int × Int)):arf (l++m)=arf l+arf m:=by simp[arf]
theorem agj{l:List (Int × Int)}(j:AO l)(k:Nat):arf (l.take k)<=arf l:=by
 have h: ∀m:List (Int × Int),AO m->0<=arf m:=by intro m hm;have:=xR hm m.length;grind
 have e:arf l=arf (l.take k)+arf (l.drop k):=by rw[<-adf,List.take_append_drop]
 have:=h (l.drop k) (λx H=>j x (List.mem_of_mem_drop H));omega
theorem Qc{l:List (Int × Int)}(j:sV l):(l.length:Int)<=arf l:=by
 induction l with
 |nil=>decide
 |cons x l J=>
  have K:=j x (by simp);have M:=J (λy H=>j y (by simp[H]));have e2:arf (x::l)=x.2+arf l:=by rfl
  grind
theorem fV.less(h:fV B bs v w)(hB:B'<=B):fV B' bs v w:=by obtain⟨A,c,e,j,J⟩:=h;exact⟨A,c,e,j,λH=>by grind⟩
theorem ajy(l:List (Int × Int))(A:Option δ)(c B0:Nat)(w:ω)(ho:aq1 iU 245 w B0 A c l)(hl:l.length<=65536)(hv:sV l)(x1:Int × Int)(bi:l[1]? =some x1)(bq:x1.2=10):Γ aj 163 #[.slice A l.length c] w (TT w (A.map (·.block)) (C9 l)):=by
 obtain⟨R,hR⟩:=fD (C9 l);rw[<-hR];unfold C9 at hR;have bh:AO l:=λx J=>by have:=hv x J;omega
 obtain⟨m,hm⟩:=fD l.length;rw[<-hm];have cg:m<=65536:=by omega
 have h2:1<m:=by grind
 have HM:=ah hm;have HW:Hid (∀k,0<=arf (l.take k)/\arf (l.take k)<=32*(m:Int)):=ah (by rw[hm];exact xR bh);have HV:=ah hv;have HX:=ah bi;have HR:=ah hR;clear hm hv bi hR hl bh;go_enter func163,ntmps163;go_wp2_with fail;go_loopw [4,13] (λs i wr=> ∃k:Nat,i=.int .i64 k/\k<=m/\s=.int .i64 (arf (l.take k))/\w wr) (λ_ i _=>m-(intOf i).toNat);case atStart=>exact⟨0,rfl,aV _,rfl,aH _ _⟩
 case round=>
  obtain⟨k,rfl,U,rfl,M⟩:=hrel;have af:=HW.out k;by_cases V:k<m;·(have bL:decide ((k:Int)<(m:Int))=true:=by simpa using V);obtain⟨x,J⟩:=aq5 HM.out.symm V;have Y:=ho.below M;obtain⟨g,off,O,hg,hc⟩:=Y.rows.get J;have a0:=hc 0 _ rfl;have a1:=hc 1 _ rfl;simp only[iU,bI]at a0 a1;subst O;have aL:=arO J;have ag:=HW.out (k+1);rw[aL]at ag;have bo:=ah aL;have bE:=(fK.new wr 245 #[x.1,x.2]).cell;obtain⟨sk,aE⟩:=fD (arf (l.take k));rw[<-aE]at af ag |-;have bn:=ah aE;clear aL aE hc J Y ho;go_wp2_with fail;go_roundw;(case rel=>exact⟨k+1,by go_num,by omega,by rw[bo.out,<-bn.out],M.trans (gY.alloc M.size _)⟩);case measure=>simp[intOf];omega
  ·(obtain rfl:k=m:=by omega);(have bL:decide ((k:Int)<(k:Int))=false:=by simp);have ae:l.take k=l:=aY (by rw[HM.out];simp);rw[ae]at af |-;obtain⟨S,hS⟩:=Int.eq_ofNat_of_zero_le af.1;rw[hS]at af |-;have HS:=ah hS;obtain⟨H,bd⟩:=fD ((S+7) / 8);(have hq:((S:Int)+7) / 8=(H:Int):=by omega);have aR:=ah bd;have Y:=ho.below M;obtain⟨g,cur,rfl,ba,O,bc⟩:=Y.acW HX.out;have ca:=Y.rows.get HX.out;obtain⟨g',cm,e',bO,a8⟩:=ca;injection e' with e';injection e' with e1 e2;subst e1;subst e2;have a0:=a8 0 _ rfl;simp only[iU,bI,aJ,Nat.one_mul]at a0;have bN:=ba.frozen 2;have av:=bc H;have am:Hid (R=if 1023<(H:Int) then .error 2 else .ok (zM ([],0) (vS l 1 H)).1):=ah (by rw[HR.out,HS.out,hq]);clear bd hS ae V a8 Y bc ho O;by_cases h8:1023<H;(·(have d8:decide ((1023:Int)<(H:Int))=true:=by simp;omega);have aa:Hid (R=.error 2):=ah (by rw[am.out,Υ (by omega)]);clear h8 am;go_wp2_with fail;go_ret2;rw[aa.out];refine⟨?_,rfl⟩;exact lN (arj M _) ⟨rfl,rfl,rfl,by simp,λk _ U=>aN wr ⟨g,2,none⟩ _ k (λe=>U (by rw[e]))⟩);·(have d8:decide ((1023:Int)<(H:Int))=false:=by simp;omega);have aa:Hid (R=.ok (zM ([],0) (vS l 1 H)).1):=ah (by rw[am.out,Ξ (by omega)]);have P6:Hid (H<=1023):=ah (by omega);clear h8 am;go_wp2_with fail;obtain⟨p,hp⟩:=fD wr.heap.size;obtain⟨W2,ad⟩:=fD ((wr.setCell ⟨g,2,none⟩ H).alloc (.cells #[nS,zI] 304));(have ak:(wr.setCell ⟨g,2,none⟩ H).heap.size=p:=by rw[hp];simp);(have aw:Below p (wr.setCell ⟨g,2,none⟩ H) W2:=by rw[ad];exact gY.alloc (bZ ak.symm) _);(have cf:W2.heap.size=p+1:=by rw[ad];simp[dD,hp]);(have ci:w.heap.size<=p:=by rw[hp];exact M.size);have a5:wr.grownBy (wr.setCell ⟨g,2,none⟩ H) (some g):=⟨rfl,rfl,rfl,by omega,λk _ U=>aN wr ⟨g,2,none⟩ _ k (λe=>U (by rw[e]))⟩;have bb:w.grownBy W2 (some g):=lN (arj M _) (lN a5 (arj (by rw[ak];exact aw) _));(have bf:fK W2 p 304 #[nS,zI]:=by have:=fK.new (wr.setCell ⟨g,2,none⟩ H) 304 #[nS,zI];rw[ak]at this;rw[ad];omega);have a6:ZV p (p+1) ([],0) (λk=>k=p\/(none:Option Nat)=some k) W2:=⟨none,0,{foot:=λk=>Iff.rfl,blk:=bf,own:=arn.nil _ _,pB:=by omega,size:=by omega,len:=rfl}⟩;obtain⟨L,hL⟩:=fD (vS l 1 H);rw[<-hL]at av aa;have ac:Hid (sV L):=ah (by rw[hL];exact HV.out.set HX.out bq P6.out);have ar:Hid (L.length=k):=ah (by rw[hL,HM.out];simp[vS]);have a4:Hid (arf L=(S:Int)):=ah (by rw[hL,JW,HS.out]);have a7:fE iU W2 g L:=av.rows.below (by rw[ak];exact aw);have bk:=ah a7;have bj:Hid (g<p):=ah (by omega);have al:=ah bb;rw[<-ad];simp only[<-hp];(have ch:0<k:=by omega);clear av ba bN a0 hq aw ak a5 bf ad hL a7 bO bb hp M af d8 h2;go_loopw [37] (λi wr=> ∃(j:Nat) (T:Nat->Prop),i=.int .i64 j/\j<=k/\ZV p (p+1) (zM ([],0) (L.take j)) T wr/\Ext (λk=>k=p\/(none:Option Nat)=some k) W2 T wr) (λi _=>k-(intOf i).toNat);(case atStart=>exact⟨0,_,rfl,aV _,a6,Ext.refl _ _⟩);case round=>clear a6;obtain⟨j,T,rfl,hj,ap,K⟩:=hrel;by_cases V:j<k;(.obtain⟨x,J⟩:=aq5 ar.out V;obtain⟨g2,cn,O,bR,az⟩:=bk.out.get J;injection O with O;injection O with e1 e2;subst e1;subst e2;have aD:=K.same g bR (λc=>by have:=bj.out;rcases c with e |e;omega;cases e);have a0:=(World.cell?_of_block (w:=W2) aD).trans (az 0 _ rfl);have a1:=(World.cell?_of_block (w:=W2) aD).trans (az 1 _ rfl);simp only[iU,bI,aJ]at a0 a1;have aM:=ac.out x (bP J);obtain⟨n1,an⟩:=Int.eq_ofNat_of_zero_le aM.2.2.1;obtain⟨ww,aq⟩:=Int.eq_ofNat_of_zero_le (show 0<=x.2 by omega);(have a9:(zM ([],0) (L.take j)).2+ww<=8184:=by have cd:sV (L.take (j+1)):=λy hy=>ac.out y (List.mem_of_mem_take hy);have h1:=Xh cd ([],0);rw[Oc J,Xf]at h1;have h3:=agj (λy hy=>by have:=ac.out y hy;omega:AO L) (j+1);have h4:=a4.out;have h5:=P6.out;have h6:=aR.out;omega);have bX:=λW (h:ZV p (p+1) (zM ([],0) (L.take j)) T W)=>amc h n1 ww (by omega) (by omega) (by have:=aM.2.2.2;rw[an,aq,Int.toNat_natCast]at this;exact_mod_cast this) a9;have bm:Hid (zM ([],0) (L.take (j+1))=DX (zM ([],0) (L.take j)) n1 ww):=ah (by rw[Oc J,an,aq,Int.toNat_natCast,Int.toNat_natCast]);rw[an]at a0;rw[aq]at a1;have bE:=(fK.new wr 245 #[(n1:Int),(ww:Int)]).cell;(have cc:ZV p (p+1) (zM ([],0) (L.take j)) T (wr.alloc (.cells #[(n1:Int),(ww:Int)] 245)):=by obtain⟨Aw,cw,Z⟩:=ap;exact⟨Aw,cw,Z.below jm⟩);clear aM an aq a9 J az aD ap;go_wp2_with((with_reducible refine(bX _ cc).mono ?_);rintro e w5⟨rfl,T5,bw,bA⟩);go_roundw;(case rel=>exact⟨j+1,T5,by go_num,by omega,by rw[bm.out];exact bA,K.trans ((Ext.of_below jm).trans bw)⟩);case measure=>simp[intOf];omega);·(obtain rfl:j=k:=by omega);have ae:L.take j=L:=aY (by rw[ar.out];omega);rw[ae]at ap;obtain⟨Aw,cw,Z⟩:=ap;obtain⟨bu,ax⟩:=fD (zM ([],0) L);rw[<-ax]at Z aa;have hn:=Xh ac.out ([],0);rw[<-ax]at hn;obtain⟨b,cu⟩:=bu;have au:=Z.len;(have h0:0<b.length:=by have:=Qc ac.out;have h2:=ar.out;simp only at au hn;omega);(have ag:b.length<=65536:=by have h2:=a4.out;have h5:=P6.out;have h6:=aR.out;simp only at au hn;omega);have bB:=agi Z h0 ag;clear ae ax hn au Z h0 ag V;go_wp2_with((with_reducible refine bB.mono ?_);rintro e w5⟨v5,rfl,bx,ai⟩);go_ret2;rw[aa.out];refine⟨?_,v5,rfl,bx.less (by have:=K.size;omega)⟩;exact⟨ai.os.trans (K.os.trans al.out.os),ai.tape.trans (K.tape.trans al.out.tape),ai.output.trans (K.output.trans al.out.output),aG (by have:=K.size;omega) ai.size,λk U bS=>(ai.block k (by have:=K.size;omega)).trans ((K.same k (by omega) (λc=>by rcases c with e |e;omega;cases e)).trans (al.out.block k U bS))⟩
def rJ (m:Ms):List Int:=Fa m.id m.t m.ack m.sS
theorem TU{v n:Int}(h:uX v n=true):1<=fQ v/\fQ v<=32/\0<=n/\n<2 ^ (fQ v).toNat:=by have j:=lq v;unfold uX at h;grind
theorem BR(v:Int)(s:List Int × List (Int × Int))(n:Int)(s':List Int × List (Int × Int))(h:lC v s=.ok (n,s')): ∃y:Int × Int,s'.2=s.2++ [y]/\y.2=fQ v/\1<=y.2/\y.2<=32/\0<=y.1/\y.1<2 ^ y.2.toNat:=by
 unfold lC at h;by_cases j:v=7;.rw[Υ j]at h;injection h with h;injection h with _ h;subst h;subst j;repeat' constructor
 .rw[Ξ j]at h;obtain⟨l,m⟩:=s;cases l with
  |nil=>cases h
  |cons y r=>simp only at h;by_cases hm:uX v y=true;(.rw[Υ hm]at h;injection h with h;injection h with _ h;subst h;exact⟨_,rfl,rfl,TU hm⟩);grind
theorem sV.app{l:List (Int × Int)}(h:sV l){y:Int × Int}(H:1<=y.2/\y.2<=32/\0<=y.1/\y.1<2 ^ y.2.toNat):sV (l++ [y]):=λx j=>by
 rcases dK.1 j with j |j;.exact h x j
 grind
def sV.cat{l m:List (Int × Int)}(h:sV l)(k:sV m):sV (l++m):=λx j=>(dK.1 j).elim (h x) (k x)
def Pt.Qd (up:Bool):Pt->Bool
 | .pl v r=>if up then v==7 else(v==6&&match r with | .pl v2 _=>v2==7 |_=>false)
 |_=>false
def TV: ∀id:Fin 81,(match lu (id.val:Int) with |none=>true |some q=>q.Qd (Yv (id.val:Int)))=true:=by decide
def Xi{q:Pt}(h:lu id=some q):q.Qd (Yv id)=true:=by obtain⟨j,H⟩:=yV h;have:=TV ⟨id.toNat,by omega⟩;simpa only[show((id.toNat:Nat):Int)=id by omega,h] using this
theorem YK{base:List (Int × Int)}{q:Pt}{s s':List Int × List (Int × Int)}(h:mV lC q last s=.ok s')(j: ∃t,s.2=base++t): ∃t,s'.2=base++t:=BQ (I:=λs=> ∃t,s.2=base++t) (λv s n s' h hi=>by obtain⟨y,e,_⟩:=BR v s n s' h;grind) q last s s' h j
theorem TY{p:Pk}{l:List (Int × Int)}(h:kG p=.ok l):sV l/\ ∃x,l[if Yv p.id=true then 1 else 2]? =some x/\x.2=13:=by
 unfold kG at h;cases K:lu p.id with
 |none=>grind
 |some q=>
  rw[K]at h;simp only at h;cases H:mV lC q 0 (p.v,[(p.id,fQ 5)]) with
  |error x=>grind
  |ok r=>
   rw[H]at h;obtain⟨rest,l'⟩:=r;simp only at h;split at h
   .injection h with h;subst h;obtain⟨i0,i1⟩:=yV K;have ad:fQ 5=8:=by decide
    refine ⟨BQ (I := λs=> sV s.2) (λv s n s' h hi=> by
      obtain⟨y,e,_,Y⟩:=BR v s n s' h
      rw[e]
      exact hi.app Y) q 0 _ _ H (λx hx=>by
        grind),?_⟩
    have j:=Xi K;cases q with
    |nil=>cases j
    |grp k a b=>cases j
    |pl v r=>
     rw[mV]at H;cases O:lC v (p.v,[(p.id,fQ 5)]) with
     |error x=>grind
     |ok Z=>
      obtain⟨n,s1⟩:=Z;rw[O]at H;simp only at H;obtain⟨y,e,ey,_⟩:=BR _ _ _ _ O;cases M:Yv p.id with
      |false=>
       rw[M]at j;simp only[Pt.Qd,bU,if_false,bM,beq_iff_eq]at j;obtain⟨_,j⟩:=j;cases r with
       |nil=>cases j
       |grp k a b=>cases j
       |pl v2 r2=>simp only[beq_iff_eq]at j;subst j;rw[mV]at H;cases U:lC 7 s1 with|error x=>grind|ok aa=>obtain⟨n2,s2⟩:=aa;rw[U]at H;simp only at H;obtain⟨V,e2,ac,_⟩:=BR _ _ _ _ U;obtain⟨t,J⟩:=YK (base:= [(p.id,fQ 5),y,V]) H ⟨[],by grind⟩;simp only at J;rw[J];exact⟨V,rfl,by assumption⟩
      |true=>rw[M]at j;simp only[Pt.Qd,if_true,beq_iff_eq]at j;subst j;obtain⟨t,J⟩:=YK (base:= [(p.id,fQ 5),y]) H ⟨[],by grind⟩;simp only at J;rw[J];exact⟨y,rfl,by assumption⟩
   grind
theorem sV.setAt{l:List (Int × Int)}(J:sV l){x:Int × Int}(U:l[i]? =some x)(O:x.2=13){n:Int}(M:0<=n)(hn:n<=8184):sV (vS l i n):=by
 intro y H;unfold vS at H;obtain⟨K,j⟩:=List.mem_iff_getElem?.1 H;rw[List.getElem?_modify]at j;by_cases e:i=K;.grind
 .simp[e]at j;exact J y (bP j)
theorem Kw{p:Pk}{l:List (Int × Int)}(h:mO p=.ok l):sV l/\l.length<=8184:=by
 unfold mO at h;cases hi:kG p with
 |error x=>grind
 |ok M=>
  rw[hi]at h;simp only at h;split at h;.cases h
  .injection h with h;obtain⟨j,x,J,H⟩:=TY hi;have K:=Qc j;subst h;exact⟨j.setAt J H (by omega) (by omega),by simp[vS];omega⟩
theorem Gw{p:Pk}(h:mO p=.error er):er≠0:=by
 unfold mO at h;cases hi:kG p with
 |error x=>rw[hi]at h;cases h;have:=NZ hi;omega
 |ok j=>grind
def jd:List Pk->Except Int (List (Int × Int))
 | []=> .ok []
 |p::ps=>match mO p with
   | .error e=> .error e
   | .ok l=>match jd ps with
     | .error e=> .error e
     | .ok r=> .ok (l++r)
def Gx (ns:List Int) (vs:List Int):Bool:=(ns.zip vs).all fun p=>uX p.1 p.2
def AU (m:Ms):List (Int × Int):= [(m.id,fQ 0),(0,fQ 1)]
def Fg (m:Ms):List (Int × Int):=((rG m.id).zip (rJ m++m.v)).map fun p=>(p.2,fQ p.1)
def DY (m:Ms):Except Int (List UInt8):=if PE m.id=none then .error 4 else if(rJ m++m.v).length≠(rG m.id).length\/(PW m.id=true/\m.ack≠0) then .error 20 else if Gx (rG m.id) (rJ m++m.v)=false then .error 20 else match jd m.p with
 | .error e=> .error e
 | .ok its=>if Ia (nG m.id) (m.p.map (·.id))=false then .error 50 else C9 (AU m++Fg m++its)
theorem Fh(l r:List Pk):jd (l++r)=match jd l with
    | .error e=> .error e
    | .ok a=>match jd r with
      | .error e=> .error e
      | .ok b=> .ok (a++b):=by
  induction l with
  |nil=>
    rw[aZ,jd]
    cases jd r <;> rfl
  |cons p l j=>
    rw[bQ,jd,jd,j]
    cases mO p with
    |error e=>rfl
    |ok x=>
      grind
def Qe(p:Pk):jd [p]=mO p:=by rw[jd,jd];cases mO p with|error e=>rfl|ok x=>simp
theorem xk: ∀ {l:List Pk} {j:List (Int × Int)},jd l=.ok j->sV j/\j.length<=8184*l.length
 | [],j,h=>by rw[jd]at h;cases h;exact⟨(λx O=>by cases O),by simp⟩
 |p::l,j,h=>by rw[jd]at h;cases J:mO p with|error e=>grind|ok x=>rw[J]at h;simp only at h;cases H:jd l with|error e=>grind|ok a=>rw[H]at h;injection h with h;subst h;obtain⟨K,U⟩:=Kw J;obtain⟨M,V⟩:=xk H;exact⟨K.cat M,by grind⟩
theorem Fj(m:Ms)(h:Gx (rG m.id) (rJ m++m.v)=true):sV (Fg m):=by intro x j;unfold Fg at j;obtain⟨p,H,rfl⟩:=List.mem_map.1 j;unfold Gx at h;exact TU (List.all_eq_true.1 h p H)
theorem Dc(m:Ms)(h:PE m.id≠none):sV (AU m):=by
 obtain⟨f,H⟩:=Option.ne_none_iff_exists'.1 h;obtain⟨J,K⟩:=TK H;intro x j;unfold AU at j;simp only[bJ,dH,or_false]at j;rcases j with rfl |rfl;.rw[show fQ 0=8 by decide];grind
 decide
def Ky (B N:Nat) (l:List Int) (v:Θ) (w:ω):Prop:= ∃A c,v=.slice A N c/\aq1 aq7 3 w B A c l
theorem Ky.grow(h:Ky B N l v w)(j:w w'):Ky B N l v w':=by obtain⟨A,c,e,H⟩:=h;exact⟨A,c,e,H.below j⟩
def ZX (B N:Nat) (l:List (Int × Int)) (v:Θ) (w:ω):Prop:= ∃A c,v=.slice A N c/\aq1 iU 245 w B A c l
theorem ZX.grow{l:List (Int × Int)}(h:ZX B N l v w)(j:w w'):ZX B N l v w':=by obtain⟨A,c,e,H⟩:=h;exact⟨A,c,e,H.below j⟩
theorem aq1.adh{α:Type}{E:arb α}{t:τ}{base g:Nat}{xs:List α}{cur:Array Θ}(H:fK w g t cur)(J:base<=g)(hm:xs.length<=μ)(j:cur.toList=E.flat xs):aq1 E t w base g xs.length xs:=by
 have K:cur.size=xs.length*E.k:=by rw[<-Array.length_toList,j,E.flat_length]
 exact⟨by grind,.inr ⟨g,xs.length,cur,rfl,J,H,aW _,hm,K,by rw[j,aY (by grind)]⟩⟩
theorem arJ{α J:Type}{K:arb α}{M:arb J}{j H:τ}{b1 b2:Nat}{l1:List α}{l2:List J}(O:aq1 K j w b1 A1 c1 l1)(U:aq1 M H w b2 A2 c2 l2)(ht:j≠H): ∀g,A1.map (·.block)=some g->A2.map (·.block)≠some g:=by intro g e1 e2;obtain⟨g1,ac,r1,_,V,_⟩:=O.blk (by grind);obtain⟨g2,aa,Z,_,Y,_⟩:=U.blk (by grind);rw[r1]at e1;rw[Z]at e2;simp only[eF,aO]at e1 e2;subst e1;subst e2;unfold fK at V Y;grind
def ajA (w:ω) (R:Except Int (List UInt8)) (e:ε) (w':ω):Prop:=w w'/\match R with
 | .error er=>e=.returned (.tuple #[.slice none 0 0,.int .i64 er])
 | .ok bs=> ∃v,e=.returned (.tuple #[v,.int .i64 0])/\fV w bs v w'
theorem amj(m:Ms)(a:Vx)(w:ω)(hT:Tab w)(hm:P8 w m a)(dC:m.v.length<=100)(eB:m.p.length<=7):Γ aj 113 #[oC m a] w (ajA w (DY m)):=by
 obtain⟨R,hR⟩:=fD (DY m);rw[<-hR];have HR:=ah hR;clear hR;obtain⟨Av,cv,Ap,cp⟩:=a;have Ua:=λW=>ac5 m.id m.t m.ack m.sS Av m.v.length cv Ap m.p.length cp W;unfold ac2 at Ua;obtain⟨va,bX⟩:=fD (rJ m);rw[show Fa m.id m.t m.ack m.sS=rJ m from rfl,<-bX]at Ua;have eg:=ah bX;have eD:va.length<=3:=by rw[bX];unfold rJ Fa;split <;> simp
 have K:Own w _ [_]:=Own.jD w 196 (oC m ⟨Av,cv,Ap,cp⟩);have av:=λW=>afT m.id W;unfold Gh Af at av;obtain⟨f,hf⟩:=fD (nG m.id);rw[<-hf]at av;have du:=AQ m.id;rw[<-hf]at du;obtain⟨f1,fx,f3⟩:=f;have HF:=ah hf;simp only at av du;obtain⟨kn,cM⟩:=fD ((PE m.id).isSome);rw[<-cM]at av;have cg:=ah cM;have bj:=λW=>acT m.id W;unfold JQ at bj;have dv:=TL m.id;obtain⟨hp,cJ⟩:=fD (H9 m.id);rw[<-cJ]at bj dv;have ea:=ah cJ;have bn:=λW=>Tn m.id W;obtain⟨up,MG⟩:=fD (PW m.id);rw[<-MG]at bn;have ef:=ah MG;have ey:=hm.p;have dq:=hm.v;have ee:=ah hm.pv;have d9:=ah hm.cp;clear bX hf cM cJ MG hm;unfold oC at K |-;simp only at K |-;obtain⟨mv,bR⟩:=fD m.v;obtain⟨np,bS⟩:=fD m.p.length;obtain⟨id,bN⟩:=fD m.id;obtain⟨t,ht⟩:=fD m.t;obtain⟨ack,cA⟩:=fD m.ack;obtain⟨sS,df⟩:=fD m.sS;rw[<-bR,<-bS,<-bN,<-ht,<-cA,<-df]at K Ua |-;rw[<-bN]at av bj bn;rw[<-bR]at dq dC;rw[<-bS]at eB;have RS:=ah bS;have ed:=ah bR;have zN:=ah bN;have d8:=ah cA;clear bS bR bN ht cA df;have ez:=K.b0.cell;cases kn with
 |false=>have ad:Hid (R=.error 4):=ah (by have O:=cg.out;rw[HR.out];unfold DY;rw[Υ (by cases h:PE m.id with |none=>rfl |some x=>rw[h]at O;cases O)]);go_enter func113,ntmps113;go_wp2_with((with_reducible refine(av _).mono ?_);rintro e w1⟨A1,c1,A3,c3,rfl,cH,bL⟩;have jc:=(K.grow bL).new1 240 #[.slice A1 f1.length c1,fx,.slice A3 f3.length c3]);go_ret2;refine⟨jc.below,?_⟩;rw[ad.out];rfl
 |true=>
  have bc:Hid (PE m.id≠none):=ah (by have O:=cg.out;intro h;rw[h]at O;cases O);have cQ:=λW (h:Tab W)=>pF 0 W h;rw[show fQ 0=8 by decide]at cQ;have cR:=λW (h:Tab W)=>pF 1 W h;rw[show fQ 1=10 by decide]at cR;clear cg;go_enter func113,ntmps113;go_wp2_with((with_reducible refine(av _).mono ?_);rintro e w1⟨A1,c1,A3,c3,rfl,cH,bL⟩;have jc:=(K.grow bL).new1 240 #[.slice A1 f1.length c1,fx,.slice A3 f3.length c3]);have TM:=ah cH;obtain⟨W1,bE⟩:=fD (w1.alloc (.cells #[.slice A1 f1.length c1,fx,.slice A3 f3.length c3] 240));have dn:kU W1 w (f1,fx,f3) A1 c1 A3 c3:=by rw[bE];exact kU.below ⟨TM.out.own,TM.out.may,TM.out.q1,TM.out.q3,λa e=>by have:=TM.out.f1 a e;simp at this;omega,λa e=>by have:=TM.out.f3 a e;simp at this;omega⟩ jm
  obtain⟨cw,cE⟩:=fD w.heap.size;obtain⟨cu,cD⟩:=fD w1.heap.size;rw[<-bE,<-cE,<-cD]at jc;rw[<-bE,<-cE,<-cD];clear bE cE cD cH TM bL K ez av w1;have bB:=hT.below jc.below;obtain⟨B,a4⟩:=fD W1.heap.size;have ZY:=ah dn;have bo:Hid (w.heap.size<=B):=ah (by rw[a4];exact jc.below.size);have Xj:Hid (0<B/\cw<B/\cu<B):=ah (by rw[a4];have O:=jc.b0.lt;have h2:=jc.b1.lt;exact⟨by omega,O,h2⟩);have HB:=ah a4;apply iM;case lX=>intro u;simp only[bV,aq9,aP,ay,aA,aB,aT,aJ];rfl
  case hm=>kernel_rfl
  case hB=>kernel_rfl
  case hap=>kernel_rfl
  apply Lex.is;·(intro u w' H j;simp[fH,aC]at j;refine fF (by first |rfl) ?_;intro M J;have ai:=jc.grow H;have ar:=ai.b0.cell;go_wp2_with(fail);refine J _ _ ?_ rfl;first|exact aH _ _)
  apply Lex.is;·(intro u w' H j;simp[fH,aC,Is]at j;refine fF (by first |rfl) ?_;intro M J;have ai:=jc.grow H;have ar:=ai.b0.cell;go_wp2_with(fail);(try simp only[j]at J);refine J _ _ ?_ rfl;first|exact aH _ _)
  iterate 4(first|(apply Lex.is;·(intro u w' H j;simp[fH,aC,Is]at j;refine fF (by first |rfl) ?_;intro M J;have ak:=bB.below H;go_wp2_with(((with_reducible refine(cR _ ak).mono ?_);rintro e w3⟨rfl,cS⟩;obtain rfl:=cS.symm));(try simp only[j]at J);refine J _ _ ?_ rfl;first|exact aH _ _))|(apply Lex.is;·(intro u w' H j;simp[fH,aC]at j;refine fF (by first |rfl) ?_;intro M J;have ak:=bB.below H;go_wp2_with(((with_reducible refine(cQ _ ak).mono ?_);rintro e w3⟨rfl,cS⟩;obtain rfl:=cS.symm));refine J _ _ ?_ rfl;first|exact aH _ _))|(apply Lex.is;·(intro u w' H j;simp[fH,aC,Is]at j;refine fF (by first |rfl) ?_;intro M J;skip;go_wp2_with(fail);(try simp only[j]at J);refine J _ _ ?_ rfl;first|exact aH _ _)))
  refine Lex.word (ZX B 2 [(id,8),(0,10)]) (λ_ _ _ h V=>h.grow V) ?_ ?_;·(intro u w' H j;refine jh rfl ?_;simp only[gQ]at j;have q3:=j ⟨3,.data⟩ (by simp) rfl _ rfl;have q5:=j ⟨5,.data⟩ (by simp) rfl _ rfl;simp only[Is]at q3 q5;clear j;intro M J;go_wp2_with fail;(try simp only[q3,q5]at J);exact J _ _ jm ⟨_,_,rfl,aq1.adh (xs:= [(id,8),(0,10)]) (fK.new _ _ _) (by rw[a4];exact H.size) (by show 2<=μ;decide) rfl⟩)
  refine Lex.word (ZX B 2 [(id,8),(0,10)]) (λ_ _ _ h V=>h.grow V) ?_ ?_;·(intro u w' H j;refine jh rfl ?_;simp only[gQ]at j;have q6:ZX B 2 [(id,8),(0,10)] (u 6) w':=j ⟨6,.data⟩ (by simp) rfl _ rfl;obtain⟨A7,c7,q6,Y⟩:=q6;clear j;intro M J;go_wp2_with fail;(try simp only[q6]at J);exact J _ _ gY ⟨A7,c7,rfl,Y⟩)
  apply Lex.nil;intro u w2 an j;simp only[gQ]at j;obtain⟨eK,eR,h6,_⟩:=j 6 _ rfl;obtain⟨A6,ew,h7,Vy⟩:=j 7 _ rfl;clear j;simp only[h6,h7];have cX:=ah an;have ai:=jc.grow an;have ak:=bB.below an;have bA:B<=w2.heap.size:=by rw[a4];exact an.size
  clear h6 h7 jc bB dn an a4 cQ cR;obtain⟨aw,cB⟩:=fD (va++mv);obtain⟨NA,cz⟩:=fD aw.length;have cd:=ah cB;have bq:=ah cz;have eN:NA<=103:=by rw[cz,cB,bC];omega
  clear cB cz;go_wp2_with fail;apply iM;case lX=>intro u;simp only[bV,aq9,aP,ay,aA,aB,aT,aJ];rfl
  case hm=>kernel_rfl
  case hB=>kernel_rfl
  case hap=>kernel_rfl
  apply Lex.is;·(intro u w' H j;simp[fH,aC]at j;refine fF (by first |rfl) ?_;intro M J;have ae:=ai.grow H;have ar:=ae.b0.cell;go_wp2_with(fail);refine J _ _ ?_ rfl;first|exact aH _ _)
  refine Lex.word (Ky B va.length va) (λ_ _ _ h V=>h.grow V) ?_ ?_;·(intro u w' H j;refine jh rfl ?_;simp only[aZ]at j;have q0:=j ⟨0,.data⟩ (by simp) rfl _ rfl;simp only[Is]at q0;clear j;intro M J;go_wp2_with((with_reducible refine(Ua _).mono ?_);rintro e w3⟨A7,c7,rfl,Y,az⟩);(try simp only[q0]at J);exact J _ _ az ⟨A7,c7,rfl,Y.mono (aG bA H.size)⟩)
  apply Lex.is;·(intro u w' H j;simp[fH,aC]at j;refine fF (by first |rfl) ?_;intro M J;have ae:=ai.grow H;have ar:=ae.b0.cell;go_wp2_with(fail);refine J _ _ ?_ rfl;first|exact aH _ _)
  apply Lex.is;·(intro u w' H j;simp[fH,aC,Is]at j;refine fF (by first |rfl) ?_;intro M J;have ae:=ai.grow H;have ar:=ae.b0.cell;go_wp2_with(fail);(try simp only[j]at J);refine J _ _ ?_ rfl;first|exact aH _ _)
  refine Lex.word (Fe va mv) (λ_ _ _ h V=>h.grow V) ?_ ?_;·(intro u w' H j;refine jh rfl ?_;simp only[gQ]at j;have q1:Ky B va.length va (u 1) w':=j ⟨1,.data⟩ (by simp) rfl _ rfl;have q3:=j ⟨3,.data⟩ (by simp) rfl _ rfl;simp only[Is]at q3;obtain⟨A7,c7,q1,Y⟩:=q1;clear j;intro M J;go_wp2_with fail;(try simp only[q1,q3]at J);exact J _ _ jm ⟨_,A7,c7,Av,cv,rfl,fK.new _ _ _,Y.rows.below jm,(dq.below (ai.grow H).below).below jm⟩)
  refine Lex.word (Ky B NA aw) (λ_ _ _ h V=>h.grow V) ?_ ?_;·(intro u w' H j;refine jh rfl ?_;simp only[gQ]at j;have q4:Fe va mv (u 4) w':=j ⟨4,.data⟩ (by simp) rfl _ rfl;obtain⟨bv,A7,c7,A8,c8,q4,cF,Gv,P9⟩:=q4;clear j;intro M J;go_wp2_with((with_reducible refine(ac3 bv A7 c7 A8 c8 va mv _ cF Gv P9 (by omega) (by omega)).mono ?_);rintro e w3⟨A9,c9,rfl,ZI,az⟩);(try simp only[q4]at J);exact J _ _ az ⟨A9,c9,by rw[bq.out,cd.out,bC],by rw[cd.out];exact ZI.mono (aG bA H.size)⟩)
  refine Lex.word (Ky B NA aw) (λ_ _ _ h V=>h.grow V) ?_ ?_;·(intro u w' H j;refine jh rfl ?_;simp only[gQ]at j;have q5:Ky B NA aw (u 5) w':=j ⟨5,.data⟩ (by simp) rfl _ rfl;obtain⟨A9,c9,q5,ZI⟩:=q5;clear j;intro M J;go_wp2_with fail;(try simp only[q5]at J);exact J _ _ gY ⟨A9,c9,rfl,ZI⟩)
  apply Lex.nil;intro u w3 bk j;simp only[gQ]at j;obtain⟨d5,eo,h0,_⟩:=j 1 _ rfl;obtain⟨b11,d6,ep,ZP,eq,h4,_⟩:=j 4 _ rfl;obtain⟨d7,et,h5,_⟩:=j 5 _ rfl;obtain⟨A7,c7,h6,Y⟩:=j 6 _ rfl;clear j;simp only[h0,h4,h5,h6];have ec:Hid (W1 w3):=ah (cX.out.trans (bk.mono cX.out.size));have ae:=ai.grow bk;have cx:=aG bA bk.size;replace Vy:=Vy.below bk;clear h0 h4 h5 h6 bk ai ak bA Ua dC eD;obtain⟨nm,cP⟩:=fD (hp++f1);obtain⟨N,hN⟩:=fD nm.length;have ci:=ah cP;have HN:=ah hN;have eS:N<=10:=by rw[hN,cP,bC];omega
  clear cP hN;have cy:kU w3 w (f1,fx,f3) A1 c1 A3 c3:=ZY.out.below ec.out;go_wp2_with fail;apply iM;case lX=>intro u;simp only[bV,aq9,aP,ay,aA,aB,aT,aJ];rfl
  case hm=>kernel_rfl
  case hB=>kernel_rfl
  case hap=>kernel_rfl
  apply Lex.is;·(intro u w' H j;simp[fH,aC]at j;refine fF (by first |rfl) ?_;intro M J;have Z:=ae.grow H;have ar:=Z.b0.cell;have cG:=Z.b1.cell;go_wp2_with(fail);refine J _ _ ?_ rfl;first|exact aH _ _)
  apply Lex.is;·(intro u w' H j;simp[fH,aC,Is]at j;refine fF (by first |rfl) ?_;intro M J;have Z:=ae.grow H;have ar:=Z.b0.cell;have cG:=Z.b1.cell;go_wp2_with(fail);(try simp only[j]at J);refine J _ _ ?_ rfl;first|exact aH _ _)
  refine Lex.word (WE hp) (λ_ _ _ h V=>h.grow V) ?_ ?_;·(intro u w' H j;refine jh rfl ?_;simp only[gQ]at j;have q0:=j ⟨1,.data⟩ (by simp) rfl _ rfl;simp only[Is]at q0;clear j;intro M J;go_wp2_with((with_reducible refine(bj _).mono ?_);rintro e w3⟨A8,c8,rfl,Gv,eW,eM,az⟩);(try simp only[q0]at J);exact J _ _ az ⟨A8,c8,rfl,Gv⟩)
  apply Lex.is;·(intro u w' H j;simp[fH,aC]at j;refine fF (by first |rfl) ?_;intro M J;have Z:=ae.grow H;have ar:=Z.b0.cell;have cG:=Z.b1.cell;go_wp2_with(fail);refine J _ _ ?_ rfl;first|exact aH _ _)
  apply Lex.is;·(intro u w' H j;simp[fH,aC,Is]at j;refine fF (by first |rfl) ?_;intro M J;have Z:=ae.grow H;have ar:=Z.b0.cell;have cG:=Z.b1.cell;go_wp2_with(fail);(try simp only[j]at J);refine J _ _ ?_ rfl;first|exact aH _ _)
  refine Lex.word (Fe hp f1) (λ_ _ _ h V=>h.grow V) ?_ ?_;·(intro u w' H j;refine jh rfl ?_;simp only[gQ]at j;have q0:WE hp (u 2) w':=j ⟨2,.data⟩ (by simp) rfl _ rfl;have q4:=j ⟨4,.data⟩ (by simp) rfl _ rfl;simp only[Is]at q4;obtain⟨A8,c8,q0,Gv⟩:=q0;clear j;intro M J;go_wp2_with fail;(try simp only[q0,q4]at J);exact J _ _ jm ⟨_,A8,c8,A1,c1,rfl,fK.new _ _ _,Gv.below jm,(cy.below H).own.below jm⟩)
  refine Lex.word (Ky B N nm) (λ_ _ _ h V=>h.grow V) ?_ ?_;·(intro u w' H j;refine jh rfl ?_;simp only[gQ]at j;have q4:Fe hp f1 (u 5) w':=j ⟨5,.data⟩ (by simp) rfl _ rfl;obtain⟨bv,A8,c8,A9,c9,q4,cF,Gv,P9⟩:=q4;clear j;intro M J;go_wp2_with((with_reducible refine(ac3 bv A8 c8 A9 c9 hp f1 _ cF Gv P9 (by omega) (by omega)).mono ?_);rintro e w3⟨A9,c9,rfl,ZI,az⟩);(try simp only[q4]at J);exact J _ _ az ⟨A9,c9,by rw[HN.out,ci.out,bC],by rw[ci.out];exact ZI.mono (aG cx H.size)⟩)
  refine Lex.word (Ky B N nm) (λ_ _ _ h V=>h.grow V) ?_ ?_;·(intro u w' H j;refine jh rfl ?_;simp only[gQ]at j;have q5:Ky B N nm (u 6) w':=j ⟨6,.data⟩ (by simp) rfl _ rfl;obtain⟨A9,c9,q5,ZI⟩:=q5;clear j;intro M J;go_wp2_with fail;(try simp only[q5]at J);exact J _ _ gY ⟨A9,c9,rfl,ZI⟩)
  apply Lex.nil;intro u w4 a7 j;simp only[gQ]at j;obtain⟨d5,eo,h0,_⟩:=j 2 _ rfl;obtain⟨b11,d6,ep,ZP,eq,h4,_⟩:=j 5 _ rfl;obtain⟨d7,et,h5,_⟩:=j 6 _ rfl;obtain⟨A8,c8,h6,H7⟩:=j 7 _ rfl;clear j;simp only[h0,h4,h5,h6];have Z:=ae.grow a7;have dp:=cy.below a7;have dl:=aG cx a7.size;replace Vy:=Vy.below a7;replace Y:=Y.below a7;clear h0 h4 h5 h6 a7 ae cx bj dv cy;obtain⟨bb,ap⟩:=fD (decide (NA≠N) || (up&&(ack != 0)));have ej:=Z.b0.cell;go_upto_region 7 with fail;go_cut [57] from 15 (λx W=>x=.bool bb/\w4 W);case first=>by_cases ax:NA=N;(·(have e1:((NA:Int) != (N:Int))=false:=by rw[ax];simp);cases up with|false=>(have e2:bb=false:=by rw[ap];simp[ax]);clear ap ax;go_wp2_with((with_reducible refine(bn _).mono ?_);rintro e w5⟨rfl,U⟩);go_meet;rw[e2];exact⟨rfl,U⟩|true=>(have e2:(ack != 0)=bb:=by rw[ap];simp[ax]);clear ap ax;go_wp2_with((with_reducible refine(bn _).mono ?_);rintro e w5⟨rfl,U⟩;have eL:=(Z.grow U).b0.cell);go_meet;exact⟨rfl,U⟩);·(have e1:((NA:Int) != (N:Int))=true:=by rw[bne_iff_ne];omega);(have e2:bb=true:=by rw[ap];simp[ax]);clear ap ax;go_wp2_with fail;go_meet;rw[e2];exact⟨rfl,aH _ _⟩
  case rest=>
   obtain⟨rfl,U⟩:=hcut;have lW:=Z.grow U;have bw:Hid (rJ m++m.v=aw):=ah (by rw[cd.out,eg.out,ed.out]);have bx:Hid (rG m.id=nm):=ah (by rw[ci.out,ea.out];unfold rG;rw[<-HF.out]);have cf:Hid (bb=true<->(rJ m++m.v).length≠(rG m.id).length\/(PW m.id=true/\m.ack≠0)):=ah (by rw[ap,bw.out,bx.out,<-bq.out,<-HN.out,<-ef.out,<-d8.out];simp);have c5:Hid (bb=false->NA=N):=ah (λh=>by rw[ap]at h;simp at h;exact h.1);clear ap bn;cases bb with
   |false=>
    obtain rfl:NA=N:=c5.out rfl;have ch:Hid (¬((rJ m++m.v).length≠(rG m.id).length\/(PW m.id=true/\m.ack≠0))):=ah (λh=>by have:=cf.out.2 h;cases this);obtain⟨zp,cV⟩:=fD (nm.zip aw);obtain⟨vb,dz⟩:=fD (zp.map (λp=>((p.2,fQ p.1):Int × Int)));have cn:Hid (zp.length=NA):=ah (by rw[cV,List.length_zip,<-bq.out,<-HN.out,Nat.min_self]);have ba:=ah cV;have bu:=ah dz;have bd:=dp.below U;replace Vy:=Vy.below U;replace Y:=Y.below U;replace H7:=H7.below U;have xQ:=aG dl U.size;clear cV dz U ej Z dp dl cf c5;go_wp2_with fail;go_loopw [60,6] (λi l wr=> ∃(k z:Nat) (AL:Option δ) (cL:Nat) (zs:List (Int × Int)),i=.int .i64 k/\k<=NA/\l=.slice AL z cL/\Hid (zs.length=z)/\Hid (z=2+k)/\Hid (zs=(id,8)::(0,10)::vb.take k)/\Hid ((zp.take k).all (λp=>uX p.1 p.2)=true)/\aq1 iU 245 wr B AL cL zs/\Own w wr [(cw,196,#[id,t,ack,sS,.slice Av mv.length cv,.slice Ap np cp]),(cu,240,#[.slice A1 f1.length c1,fx,.slice A3 f3.length c3])]/\kU wr w (f1,fx,f3) A1 c1 A3 c3/\aq1 aq7 3 wr B A7 c7 aw/\aq1 aq7 3 wr B A8 c8 nm/\B<=wr.heap.size) (λi _ _=>NA-(intOf i).toNat);(case atStart=>exact⟨0,2,A6,ew,[(id,8),(0,10)],rfl,aV _,rfl,ah rfl,ah rfl,ah (by simp),ah (by simp),Vy,lW,bd,Y,H7,xQ⟩);case round=>
     clear Vy lW bd Y H7 xQ;obtain⟨k,z,AL,cL,zs,rfl,H,rfl,hz,d3,cW,cC,ho,K,hF,Y,H7,aD⟩:=hrel;(have eZ:z<=12:=by rw[d3.out];omega);have bf:=hT.below K.below;by_cases aR:k<NA
     .obtain⟨x,hx⟩:=aq5 HN.out.symm aR;obtain⟨y,hy⟩:=aq5 bq.out.symm aR;obtain⟨g8,eO,el,eV,dt⟩:=H7.rows.get hx;obtain⟨g7,em,en,Qg,Oe⟩:=Y.rows.get hy;have dd:=dt 0 x rfl;have dc:=Oe 0 y rfl;simp only[aq7,Nat.mul_one,bI]at dc dd;(have d4:zp[k]? =some (x,y):=by rw[ba.out,List.getElem?_zip_eq_some];exact⟨hx,hy⟩);have HY:=ah hy;have ct:=ah d4;subst el;subst en;obtain⟨b,V⟩:=fD (uX x y);have bO:=λW (h:Tab W)=>JG x y W h;rw[<-V]at bO;have cY:=ah V;clear dt Oe hx hy d4 V;cases b with
      |false=>have ad:Hid (R=.error 20):=ah (by rw[HR.out];unfold DY;rw[Ξ bc.out,Ξ ch.out,Υ];rw[bx.out,bw.out];unfold Gx;rw[<-ba.out,List.all_eq_false];exact⟨_,bP ct.out,by rw[<-cY.out];simp⟩);go_wp2_with((with_reducible refine(bO _ bf).mono ?_);rintro e w5⟨rfl,cT⟩;obtain rfl:=cT.symm);go_ret2;refine⟨K.below,?_⟩;rw[ad.out];rfl
      |true=>
       have cU:=λW (h:Tab W)=>pF x W h;obtain⟨wx,Xd⟩:=fD (fQ x);rw[<-Xd]at cU;have eh:=ah Xd;have dr: ∀w',wr.grownBy w' (AL.map (·.block))->Tab w':=λw' H=>bf.ji (jV.kJ (D:=λk=>AL.map (·.block)=some k) H (λk H=>H)) (λh0=>by have O:=(ho.gJ _ h0).1;have h2:=Xj.out.1;omega);(have dm: ∀w',wr.grownBy w' (AL.map (·.block))->w'.cell? ⟨g7,em+k,none⟩=some y:=λw' H=>by obtain⟨b,off,e,_,hc⟩:=(Y.off H (arJ Y ho (by decide))).rows.get HY.out;injection e with e;injection e with e1 e2;subst e1;subst e2;have:=hc 0 _ rfl;simpa[aq7] using this);clear Xd;go_wp2_with((with_reducible refine(bO _ bf).mono ?_);rintro e w5⟨rfl,cT⟩;obtain rfl:=cT.symm);apply qp (λw w'=>w.grownBy w' (AL.map (·.block))) (λw=>arj (aq3 gY 1) _) (λ_ _ _=>lN) (CW (AL.map (·.block)) 9) (λ_ _ _ h=>h.2) (λi W=>i=9->aq1 iU 245 W (B) AL cL zs) (λ_ _=>ho.below (aq3 gY 1)) (λi aa W W' eA hp ht hi=>(hp hi).below (ht.1 (λh=>eA (hi.trans h.symm))));(case lX=>intro u;simp only[bV,List.dropLast,aq9,aP,ay,aA,aB,aT,aJ];with_reducible rfl);(case hm=>kernel_rfl);(case hB=>kernel_rfl);(case hA=>kernel_rfl);case hap=>kernel_rfl
       repeat(first
          |(apply kE.is
            ·
              (intro u w' H bm j
               clear bm
               simp[fH,aC,Is]at j
               refine fC ?_ ?_
               ·
                 first
                 |rfl
               intro M aq
               have ak:=dr _ H;have m0:=dm _ H
               go_wp2_with (((with_reducible refine(cU _ ak).mono ?_);rintro e w6⟨rfl,eI⟩;obtain rfl:=eI.symm))
               try simp only[j]at aq
               refine aq _ _ ?_ rfl
               exact vT _ _ _ _))
          |(refine kE.word (Gm 245 (AL.map (·.block)) #[y, wx]) ?_ ?_
            ·
              (intro u w' H bm j
               clear bm
               simp[fH,aC,Is]at j
               refine fC ?_ ?_
               ·
                 first
                 |rfl
               intro M aq
               go_wp2_with fail
               try simp only[j]at aq
               exact aq _ _ (uw jm) ⟨w',rfl,fK.new _ _ _,λe=>by have:=(ho.gJ _ e).2;have:=H.size;omega⟩))
          |(refine kE.word (PN iU 245 (B) (z + 1) (zs ++ [(y, wx)])) ?_ ?_
            ·
              (intro u w' H bm j
               simp[fH,aC,Is]at j
               obtain⟨q1,⟨bv,q2,hB,hn⟩,_⟩:=j
               refine fC ?_ ?_
               ·
                 first
                 |rfl
               intro M aq
               exact oH Jb (.tmp 72) (.tmp 80) rfl (B) AL cL zs z (by rw[<-q1];rfl) hz.out (bm rfl) bv 1 [(y,wx)] 1 (by rw[<-q2];rfl) rfl (Am hB) (by omega) (by decide) (aG aD H.size) λA2 c2 W O h2 _=>aq _ _ ⟨λh=>absurd rfl h,h2⟩ ⟨A2,c2,rfl,O⟩)))
       refine kE.last ?_ ?_;(.refine Ai ?_;simp only[gQ];(repeat(refine⟨?_,?_⟩;.first|exact λ_ _ _ _ _ h _=>h|exact λ_ _ _ _ _ h ht=>Gm.grow h ht.2|exact λ_ hi _ _ _ h ht=>PN.grow h (ht.1 hi)));exact trivial);intro u w2 an _ j;simp only[gQ]at j;obtain⟨A2,c2,hu,uq⟩:=j 9 _ rfl;clear j;refine⟨rfl,?_⟩;intro M aq;simp only[hu];clear hu;have aL:=jV.kJ (D:=λk=>AL.map (·.block)=some k) an (λk H=>H);have al: ∀g,AL.map (·.block)=some g->B<=g:=λg e=>(ho.gJ g e).1;have lW:=K.ji aL (λx hx j=>by have O:=al _ j;have h2:=Xj.out;simp only[bJ,dH,or_false]at hx;rcases hx with rfl |rfl <;> simp only at O <;> omega) (λk j=>by have O:=al _ j;have h2:=bo.out;omega);have bd:=ZY.out.ji hF aL (λk j=> .inr (by rw[<-HB.out];exact al _ j));have dg:=Y.off an (arJ Y ho (by decide));have di:=H7.off an (arJ H7 ho (by decide));(have d2:zs++ [(y,wx)]=(id,8)::(0,10)::vb.take (k+1):=by(have eE:vb[k]? =some (y,wx):=by rw[bu.out,bW,ct.out,eh.out];rfl);rw[cW.out,take_snoc' eE];rfl);(have de:(zp.take (k+1)).all (λp=>uX p.1 p.2)=true:=by rw[take_snoc' ct.out,List.all_append,cC.out];simp[<-cY.out]);have ek:=ah (And.intro (ah d2) (And.intro (ah de) (And.intro uq (And.intro lW (And.intro bd (And.intro dg (And.intro di (aG aD an.size))))))));clear d2 de uq lW bd dg di aL al dr dm cU bO dc dd bf;go_wp2_with fail;go_roundw;(case rel=>exact⟨k+1,z+1,A2,c2,zs++ [(y,wx)],by go_num,by omega,rfl,ah (by rw[bC,hz.out];rfl),ah (by rw[d3.out];omega),ek.out⟩);case measure=>simp[intOf];omega
     ·(obtain rfl:k=NA:=by omega);have Z4:Hid (Gx (rG m.id) (rJ m++m.v)=true):=ah (by rw[bx.out,bw.out];unfold Gx;rw[<-ba.out];have O:=cC.out;rwa [aY (by rw[cn.out];exact aW _)]at O);have cm:Hid (zs=AU m++Fg m):=ah (by rw[cW.out,aY (by rw[bu.out,eU,cn.out];exact aW _)];unfold AU Fg;rw[bx.out,bw.out,<-ba.out,<-bu.out,show fQ 0=8 by decide,show fQ 1=10 by decide,<-zN.out];rfl);obtain⟨xs,ca,dT,d0,d1⟩:=ey;have c6:=ah dT;have da:=ah d0;have ei:=ah d1;have dj:=K.b0.cell;clear aR H dT d0 d1 Y H7 cC cW bf cn bu ba;go_wp2_with fail;clear dj;go_loopw [86,6] (λi l wl=> ∃(aa z2:Nat) (ag:Option δ) (a1:Nat) (ac:List (Int × Int)),i=.int .i64 aa/\aa<=np/\l=.slice ag z2 a1/\Hid (ac.length=z2)/\Hid (z2<=12+8184*aa)/\Hid (∃af,jd (m.p.take aa)=.ok af/\ac=zs++af)/\aq1 iU 245 wl B ag a1 ac/\Own w wl [(cw,196,#[id,t,ack,sS,.slice Av mv.length cv,.slice Ap np cp]),(cu,240,#[.slice A1 f1.length c1,fx,.slice A3 f3.length c3])]/\kU wl w (f1,fx,f3) A1 c1 A3 c3/\B<=wl.heap.size) (λi _ _=>np-(intOf i).toNat);(case atStart=>exact⟨0,z,AL,cL,zs,rfl,aV _,rfl,hz,ah (by omega),ah ⟨[],by rw[List.take_zero,jd],by simp⟩,ho,K,hF,aD⟩);case round=>clear ho K hF aD;obtain⟨aa,z2,ag,a1,ac,rfl,hj,rfl,cc,dk,cK,ho,K,hF,aD⟩:=hrel;by_cases aR:aa<np;(.obtain⟨x,hx⟩:=aq5 (da.out.trans RS.out.symm) aR;obtain⟨p,hp⟩:=aq5 RS.out.symm aR;obtain⟨O,h2,h3,h4⟩:=ei.out aa x p hx hp;(have h5:x.id=p.id:=by(have e1:(xs.map (·.id))[aa]? =some x.id:=by rw[bW,hx];rfl);rw[c6.out,bW,hp]at e1;injection e1 with e1;exact e1.symm);obtain⟨g,off,al,hg,hc⟩:=(ca.below K.below).get hx;have a0:=hc 0 x.id rfl;have db:=hc 1 (.slice x.A x.n x.c) rfl;simp only[qJ,bI]at a0 db;have h6:=ee.out p (bP hp);have am:=λW (hT:Tab W) (hr:fE aq7 W x.A p.v)=>PZ p x.A x.n x.c W hT hr O.symm (by omega) ⟨h2,h3⟩;rw[<-h5]at am;obtain⟨xi,xA,xn,xc⟩:=x;simp only at a0 db am O h2 h3 h4 h5;subst al;have HP:=ah hp;have ds:=hT.below K.below;have a9:=h4.below K.below;unfold vG at am;have bi:wr (wr.alloc (.cells #[xi,.slice xA xn xc] 198)):=gY.alloc ig _;have ak:=ds.below bi;have dy:=a9.below bi;have eT:=(fK.new wr 198 #[xi,.slice xA xn xc]).cell;have eJ:=dk.out;clear hc hx hp O h2 h3 h4 h5 h6 ds a9 ca;cases hi:mO p with|error er=>rw[hi]at am;simp only at am;have dx:=Gw hi;(have e1:(er != 0)=true:=by simpa using dx);have ad:Hid (R=.error er):=ah (by obtain⟨af,aM,_⟩:=cK.out;(have h9:jd m.p=.error er:=by rw[<-List.take_append_drop aa m.p,Fh,aM,ark HP.out,jd,hi]);rw[HR.out];unfold DY;rw[Ξ bc.out,Ξ ch.out,Ξ (by rw[Z4.out];simp),h9]);clear hi dx;go_wp2_with((with_reducible refine(am _ ak dy).mono ?_);rintro e w5⟨U,rfl⟩;have lW:=(K.grow bi).grow U);go_ret2;refine⟨lW.below,?_⟩;rw[ad.out];rfl|ok l=>rw[hi]at am;simp only at am;have Tm:=(Kw hi).2;obtain⟨nl,cN⟩:=fD l.length;rw[<-cN]at am Tm;have P6:=ah cN;have eb:Hid (∃af,jd (m.p.take (aa+1))=.ok af/\ac++l=zs++af):=ah (by obtain⟨af,aM,a6⟩:=cK.out;exact⟨af++l,by rw[take_snoc' HP.out,Fh,aM,Qe,hi],by rw[a6,List.append_assoc]⟩);have e1:((0:Int) != 0)=false:=rfl;clear hi cN;go_wp2_with(first|((with_reducible refine(am _ ak dy).mono ?_);rintro e w5⟨U,A5,ev,rfl,uq⟩;have bh:=bi.trans (U.mono bi.size))|(at_builtin;refine gW Jb rfl _ _ rfl B ag a1 ac z2 rfl cc.out (ho.below bh) A5 ev l nl rfl P6.out.symm uq.rows (by omega) (by decide) (aG aD bh.size) ?_;intro A9 c9 w6 Vy Gz _));have aL:=jV.kJ (D:=λk=>ag.map (·.block)=some k) Gz (λk H=>H);have al: ∀g,ag.map (·.block)=some g->B<=g:=λg e=>(ho.gJ g e).1;have vW:=(K.grow bh).ji aL (λx hx j=>by have O:=al _ j;have h2:=Xj.out;simp only[bJ,dH,or_false]at hx;rcases hx with rfl |rfl <;> simp only at O <;> omega) (λk j=>by have O:=al _ j;have h2:=bo.out;omega);have ex:=ZY.out.ji (hF.below bh) aL (λk j=> .inr (by rw[<-HB.out];exact al _ j));go_roundw;(case rel=>exact⟨aa+1,z2+nl,A9,c9,ac++l,by go_num,by omega,rfl,ah (by rw[bC,cc.out,<-P6.out]),ah (by omega),eb,Vy,vW,ex,aG aD (aG bh.size aL.size)⟩);case measure=>simp[intOf];omega);·(obtain rfl:aa=np:=by omega);(obtain⟨af,aM,a6⟩: ∃af,jd m.p=.ok af/\ac=zs++af:=by have:=cK.out;rwa [aY (by rw[<-RS.out];exact aW _)]at this);(have hv:sV ac:=by rw[a6,cm.out];exact((Dc m bc.out).cat (Fj m Z4.out)).cat (xk aM).1);(have dE:ac[1]? =some (0,fQ 1):=by rw[a6,cm.out];rfl);have eJ:=dk.out;have au:=λW (h:aq1 iU 245 W B ag a1 ac)=>ajy ac ag a1 B W h (by rw[cc.out];omega) hv (0,fQ 1) dE (by decide);unfold TT at au;rw[cc.out]at au;have aE:=λW O h2=>acV (f1,fx,f3) A1 c1 A3 c3 Ap aa cp xs W O (by simp only;omega) h2 (by rw[da.out];exact RS.out.symm) (by omega) (by rw[RS.out];exact d9.out);unfold Af at aE;rw[c6.out]at aE;simp only at aE;obtain⟨ft,cI⟩:=fD (Ia (f1,fx,f3) (m.p.map (·.id)));rw[<-cI]at aE;have a5:Hid (R=if ft=false then .error 50 else C9 ac):=ah (by rw[HR.out,cI,a6,cm.out];unfold DY;rw[Ξ bc.out,Ξ ch.out,Ξ (by rw[Z4.out];simp),aM,<-HF.out]);have a9:=ca.below K.below;have dj:=K.b0.cell;have eQ:=K.b1.cell;clear cI aM a6 hv dE aR hj ca;cases ft with|false=>have ad:Hid (R=.error 50):=ah (by rw[a5.out,Υ rfl]);clear a5;go_wp2_with((with_reducible refine(aE _ hF.may a9).mono ?_);rintro e w5⟨rfl,U⟩);go_ret2;refine⟨(K.grow U).below,?_⟩;rw[ad.out];rfl|true=>cases a8:C9 ac with|error er=>rw[a8]at au;simp only at au;have ad:Hid (R=.error er):=ah (by rw[a5.out,Ξ (by simp),a8]);clear a8 a5;go_wp2_with(first|((with_reducible refine(aE _ hF.may a9).mono ?_);rintro e w5⟨rfl,U⟩)|((with_reducible refine(au _ (ho.below U)).mono ?_);rintro e w6⟨Gz,rfl⟩));go_ret2;have lW:=K.grow U;refine⟨lW.below.trans ((jV.kJ (D:=λk=>ag.map (·.block)=some k) Gz (λk H=>H)).below lW.below.size (λk H=>aG bo.out (ho.gJ _ H).1)),?_⟩;rw[ad.out];rfl|ok bs=>rw[a8]at au;simp only at au;have ad:Hid (R=.ok bs):=ah (by rw[a5.out,Ξ (by simp),a8]);clear a8 a5;go_wp2_with(first|((with_reducible refine(aE _ hF.may a9).mono ?_);rintro e w5⟨rfl,U⟩)|((with_reducible refine(au _ (ho.below U)).mono ?_);rintro e w6⟨Gz,v,rfl,eC⟩));go_ret2;have lW:=K.grow U;refine⟨lW.below.trans ((jV.kJ (D:=λk=>ag.map (·.block)=some k) Gz (λk H=>H)).below lW.below.size (λk H=>aG bo.out (ho.gJ _ H).1)),?_⟩;rw[ad.out];exact⟨v,rfl,eC.mono lW.below.size⟩
   |true=>have ad:Hid (R=.error 20):=ah (by rw[HR.out];unfold DY;rw[Ξ bc.out,Υ (cf.out.1 rfl)]);go_wp2_with fail;go_ret2;refine⟨lW.below,?_⟩;rw[ad.out];rfl
def Ub (last now:Int):Int:=if jK now=false then 1 else if now*8+7<=last then 3 else 0
def Z5 (last now:Int):Int:=if Ub last now=0 then max (now*8) (last+1) else 0
def Og(h:jK now=false):Ub last now=1:=by unfold Ub;rw[Υ h]
theorem Uc(h:jK now=true)(j:now*8+7<=last):Ub last now=3:=by unfold Ub;rw[Ξ (by grind),Υ j]
theorem ajE(h:jK now=true)(j: ¬now*8+7<=last):Ub last now=0/\Z5 last now=max (now*8) (last+1):=by
 have e:Ub last now=0:=by unfold Ub;rw[Ξ (by grind),Ξ j]
 exact⟨e,by unfold Z5;rw[Υ e]⟩
def adk(h:Ub last now≠0):Z5 last now=0:=by unfold Z5;rw[Ξ h]
theorem agm(last now:Int)(K: -9223372036854775808<=last)(w:ω):Γ aj 111 #[last,now] w λe w'=>e=.returned (.tuple #[(Z5 last now:Int),(Ub last now:Int)])/\w'=w:=by
 by_cases H:now<0;rotate_left;focus(by_cases J:268435456<now;rotate_left;focus((have hc:jK now=true:=by unfold jK;simp;omega);by_cases j:now*8+7<=last;(.rw[adk (by rw[Uc hc j];decide),Uc hc j];(have f3:decide (now*8+8-1<=last)=true:=by grind);go_enter func111,ntmps111;go_wp2;go_ret2;simp);.obtain⟨e1,e2⟩:=ajE hc j;rw[e2,e1];(have f3:decide (now*8+8-1<=last)=false:=by grind);(have M:wrap64 (last+1)=last+1:=by simp only[wrap64];omega);go_enter func111,ntmps111;go_wp2;go_ret2;simp))
 all_goals((have hc:jK now=false:=by unfold jK;simp;omega);rw[adk (by rw[Og hc];decide),Og hc];go_enter func111,ntmps111;go_wp2;go_ret2;simp)
def MH (x:Tr):List Int:=if 32766<x.past then [] else [0,x.ref,x.past,(if x.rev then 0 else 1),(if x.rev then 0 else 1),0,0,1,x.len,0,1,0,3]
def rpE (x:Tr):Int:=if 32766<x.past then 7 else 0
def adl(l:List Int):aq7.flat l=l.map λn=>Value.int .i64 n:=by induction l with|nil=>rfl|cons x l j=>rw[aq7.nX,j];rfl
theorem DZ(l:List Int)(h:fK w g 3 (l.map λn=>Value.int .i64 n).toArray):fE aq7 w g l:=λ_=>⟨g,0,rfl,h.lt,λH u j=>by rw[aJ,h.cell];rw[adl]at j;simpa using j⟩
theorem Z7(x:Tr)(H:kZ)(w:ω):Γ aj 112 #[jf x H] w λe w'=>(∃A,e=.returned (.tuple #[.agg #[zI,.slice A (MH x).length (MH x).length],(rpE x:Int)])/\fE aq7 w' A (MH x)/\ ∀a,A=some a->w.heap.size<=a.block)/\w w':=by
 have Y:Own w _ [_,_]:=Own.iY w 44 198 (jf x H) gH;have ac:=Y.b0.cell;have t1:=tr1 x H;have ad:=afN x H;have ae:=afO x H;have aa:=alQ x H;by_cases K:32766<x.past
 .have f1:decide (32766<x.past)=true:=by grind
  have O:MH x= []:=by unfold MH;rw[Υ K]
  have M:rpE x=7:=by unfold rpE;rw[Υ K]
  rw[O,M];have j:=Y;go_enter func112,ntmps112;go_wp2_with(first|fail|((with_reducible refine kY gH j rfl _ _ rfl rfl rfl (by kernel_rfl) rfl ?_ ?_);(.first|(simp[aK];done));intro Z J iG jQ;replace j:=J;clear J));exact β (gU results112 _ _ _ _ _ _ rfl rfl j.b1 underlying198 rfl (by rfl)) rfl ⟨⟨none,rfl,fE.nil _ _,λa e=>by cases e⟩,j.below⟩
 focus((have f1:decide (32766<x.past)=false:=by grind);(have M:rpE x=0:=by unfold rpE;rw[Ξ K]);rw[M];obtain⟨V,U⟩:=fD x.rev;(have O:MH x= [0,x.ref,x.past,(if V then 0 else 1),(if V then 0 else 1),0,0,1,x.len,0,1,0,3]:=by unfold MH;rw[Ξ K,U]);rw[O];rw[<-U]at aa;clear O M K U;rcases V with _ |_;(focus(simp only[bU,if_false];have j:Own w _ [_,_,_]:=Own.start3 w 44 198 3 (jf x H) gH (([0,x.ref,x.past,1,1,0,0,1,x.len,0,1,0,3]:List Int).map λn=>Value.int .i64 n).toArray));rotate_left;focus(simp only[if_true];have j:Own w _ [_,_,_]:=Own.start3 w 44 198 3 (jf x H) gH (([0,x.ref,x.past,0,0,0,0,1,x.len,0,1,0,3]:List Int).map λn=>Value.int .i64 n).toArray))
 all_goals(simp only[bV]at j;go_enter func112,ntmps112;go_wp2_with(first|fail|((with_reducible refine kY (#[zI,.slice (some ⟨w.heap.size+1+1,0,none⟩) 13 13]) j rfl _ _ rfl rfl rfl (by kernel_rfl) rfl ?_ ?_);(.first|(simp[aK];done));intro Z J iG jQ;replace j:=J;clear J));exact β (gU results112 _ _ _ _ _ _ rfl rfl j.b1 underlying198 rfl (by rfl)) rfl ⟨⟨some ⟨w.heap.size+1+1,0,none⟩,rfl,DZ _ j.b2,λa e=>by injection e with e;subst e;grind⟩,j.below⟩)
theorem Z8{l:List (Int × Int)}(h:C9 l=.ok bs)(j:sV l){x:Int × Int}(O:l[1]? =some x)(J:x.2=10):bs.length<=1023:=by
 unfold C9 at h;split at h;.cases h
 .rename_i hn;have V:=Qc j;obtain⟨k,M⟩: ∃k:Nat,(arf l+7) / 8=(k:Int):=⟨((arf l+7) / 8).toNat,by omega⟩;rw[M]at h hn;have H:=sV.set j O J (n:=k) (by omega);have K:=Xh H ([],0);have U:=ade (vS l 1 k) ([],0) rfl;rw[JW]at K;grind
theorem adn{m:Ms}(h:DY m=.ok bs):bs.length<=1023:=by
 unfold DY at h;split at h;.cases h
 rename_i j;split at h;.cases h
 split at h;.cases h
 rename_i H;cases hi:jd m.p with
 |error e=>grind
 |ok J=>
  rw[hi]at h;simp only at h;split at h;.cases h
  .refine Z8 h (((Dc m j).cat (Fj m (by grind))).cat (xk hi).1) (x:=(0,fQ 1)) ?_ (by decide);rfl
def Fp (s:Int):Int:=if s=0 then 1 else if s=1 then 10 else if s=2 then 100 else 0
def Ud (n s:Int):Int:=if Fp s=0 then 1 else if n<0\/32766<n then 7 else 0
def II (n s:Int):Int:=if Ud n s=0 then n*Fp s else 0
def YL(s:Int):0<=Fp s/\Fp s<=100:=by
 unfold Fp;repeat' split
 all_goals omega
def ajF(s:Int)(w:ω):Γ aj 276 #[s] w λe w'=>e=.returned (Fp s:Int)/\w'=w:=by
 unfold Fp;by_cases j:s=0;.subst j;go_enter func276,ntmps276;go_wp2;go_ret;exact⟨rfl,rfl⟩
 by_cases H:s=1;.subst H;go_enter func276,ntmps276;go_wp2;go_ret;exact⟨rfl,rfl⟩
 by_cases J:s=2;.subst J;go_enter func276,ntmps276;go_wp2;go_ret;exact⟨rfl,rfl⟩
 rw[Ξ j,Ξ H,Ξ J];have K:(s==0)=false:=by simpa using j
 have e1:(s==1)=false:=by simpa using H
 have e2:(s==2)=false:=by simpa using J
 go_enter func276,ntmps276;go_wp2;go_ret;exact⟨rfl,rfl⟩
theorem ajG(n s:Int)(w:ω):Γ aj 261 #[n,s] w λe w'=>e=.returned (.tuple #[(II n s:Int),(Ud n s:Int)])/\w'=w:=by
 unfold II Ud;have U:=ajF s w;obtain⟨K,V⟩:=YL s;generalize Fp s=u at*;by_cases j:u=0;focus(subst j;rw[Υ rfl,Ξ (by decide)])
 rotate_left;focus(rw[Ξ j];(have Y:(u==0)=false:=by simpa using j);by_cases H:n<0;(focus(rw[Υ (show n<0\/32766<n from .inl H),Ξ (by decide)];have M:decide (n<0)=true:=by simpa using H));rotate_left;focus((have M:decide (n<0)=false:=by simpa using H);by_cases J:32766<n;(focus(rw[Υ (show n<0\/32766<n from .inr J),Ξ (by decide)];have O:decide (32766<n)=true:=by simpa using J));rotate_left;focus((have O:decide (32766<n)=false:=by simpa using J);rw[Ξ (show ¬(n<0\/32766<n) by omega),Υ rfl];have hm:0<=n*u:=Int.mul_nonneg (by omega) K;have aa:n*u<=32766*100:=Int.mul_le_mul (by omega) V K (by omega))))
 all_goals(go_enter func261,ntmps261;go_wp2_with(first|((with_reducible refine U.mono ?_);rintro e Z⟨rfl,rfl⟩));go_ret2;exact⟨rfl,rfl⟩)
structure lH (W:ω) (B g:Nat) (l:List Int) (u er:Int):Prop where
  blk: ∃A c,fK W g 367 #[.slice A l.length c,.int .i64 u,.int .i64 er]/\fE aq7 W A l/\(l≠ []-> ∀a,A=some a->a.block<B)/\l.length<=c/\c<=μ
  lo:B<=g
theorem lH.below(h:lH W B g l u er)(H:W W'):lH W' B g l u er:=by obtain⟨⟨A,c,j,J,K⟩,M⟩:=h;exact⟨⟨A,c,j.below H j.lt,J.below H,K⟩,M⟩
theorem lH.ji(h:lH W B g l u er)(j:jV D W W')(hn: ¬D g)(U: ∀k,D k->B<=k):lH W' B g l u er:=by obtain⟨⟨A,c,J,K,H,O⟩,M⟩:=h;exact⟨⟨A,c,J.ji j hn,K.keep' j.size (λZ a e V=>j.block _ V (λY=>by have:=H Z a e;have:=U _ Y;omega)),H,O⟩,M⟩
theorem lH.at1(h:lH W B g l u er):uG g 3 1 367 (.int .i64 u) υ W:=by obtain⟨⟨A,c,j,_⟩,_⟩:=h;exact⟨_,j,rfl,rfl⟩
theorem YM{t:τ}{v x:Θ}(h:uG g n i t v x w):w.cell? ⟨g,i,none⟩=some v:=by obtain⟨cs,j,_,H⟩:=h;exact(j.cell i).trans H
def D5(h:fE aq7 W A l)(hn:l≠ []-> ∀a,A=some a->a.block≠g):fE aq7 (W.setCell ⟨g,i,none⟩ v) A l:=h.keep' (by simp[dD]) (λj a e _=>aN W ⟨g,i,none⟩ v _ (hn j a e))
theorem Qh(h:lH W B g l u er):Γ aj 272 #[.pointer g] W λe w'=>e=.returned (l.headD 0:Int)/\Stp [(g,some 0)] W w'/\lH w' B g l.tail u er:=by
 obtain⟨⟨A,c,hB,M,Z,hc,hm⟩,Y⟩:=h;have V:=hB.cell;cases l with
 |nil=>simp only[dU]at V hB;go_enter func272,ntmps272;go_wp2_with fail;go_ret;exact⟨rfl,Stp.refl _ _,⟨⟨A,c,hB,M,Z,hc,hm⟩,Y⟩⟩
 |cons n r=>
  obtain⟨b,off,rfl,hb,U⟩:=M.get (i:=0) (x:=n) rfl;have a0:=U 0 n rfl;simp only[aq7,Nat.zero_mul,bI]at a0;obtain⟨k,K⟩:=fD r.length;have ae:=hB.frozen 0;simp only[bK,<-K]at hB V hc;have ac: ∀W,(Instr.slice 22 (.slice (some ⟨b,off,none⟩) (k+1) c) (some (1:Int)) none none).run aj W=.ok (.slice (qQ (some ⟨b,off,none⟩) 1 c) k (c-1)) W:=λW=>by rw[ER W _ _ _ .i64 1 (by omega) (by omega)];simp
  have af:(((k:Int)+1)==0)=false:=by simp;omega
  have H:=ah K;have ad: ∃j,j=qQ (some ⟨b,off,none⟩) 1 c:=⟨_,rfl⟩;obtain⟨j,J⟩:=ad;rw[<-J]at ac;have O:=ah J;clear K J U;go_enter func272,ntmps272;go_wp2_with fail;go_ret;have aa: ∀a,j=some a->a.block<B:=λa e=>by obtain⟨a',e1,e2⟩:=DR (O.out.symm.trans e);have:=Z (by simp) a' e1;omega
  refine⟨rfl,Stp.cell g 0 _,⟨⟨j,c-1,?_,?_,λ_=>aa,by show r.length<=c-1;rw[<-H.out];omega,by omega⟩,Y⟩⟩;.rw[List.tail_cons,<-H.out];exact hB.iV 0 _
  .refine D5 ?_ (λ_ a e=>by have:=aa a e;omega);rw[O.out];exact JM M (by show r.length+1<=c;rw[<-H.out];omega)
def Kz (er x:Int):Int:=if er=0 then x else er
theorem Qi(h:lH W B g l u er)(x:Int):Γ aj 281 #[.pointer g,x] W λe w'=>e=.returned (.tuple #[])/\Stp [(g,some 2)] W w'/\lH w' B g l u (Kz er x):=by
 obtain⟨⟨A,c,hB,K,H,hc,hm⟩,J⟩:=h;have U:=hB.cell;unfold Kz;by_cases j:er=0
 .rw[Υ j];have M:(er==0)=true:=by simpa using j
  have V:=hB.frozen 2;go_enter func281,ntmps281;go_wp2_with fail;go_end0;exact⟨rfl,Stp.cell g 2 _,⟨⟨A,c,hB.iV 2 _,D5 K (λO a e=>by have:=H O a e;omega),H,hc,hm⟩,J⟩⟩
 .rw[Ξ j];have M:(er==0)=false:=by simpa using j
  go_enter func281,ntmps281;go_wp2_with fail;go_end0;exact⟨rfl,Stp.refl _ _,⟨⟨A,c,hB,K,H,hc,hm⟩,J⟩⟩
def ado (B g:Nat) (l:List Int) (u er x:Int):Θ->ω->Prop:=fun v w=>v=.int .i64 x/\lH w B g l u er
def ado.grow{u er x:Int}(h:ado B g l u er x v w)(j:w w'):ado B g l u er x v w':=⟨h.1,h.2.below j⟩
theorem ajH(h:lH W B g l u er):Γ aj 275 #[.pointer g] W λe w'=>e=.returned (II (l.headD 0) u:Int)/\Stp [(g,some 0),(g,some 2)] W w'/\lH w' B g l.tail u (if Ud (l.headD 0) u=0 then er else Kz er 7):=by
 have al:=λW (h:lH W B g l u er)=>Qh h;have am:=h.at1;obtain⟨x,hx⟩:=fD (l.headD 0);obtain⟨l',ak⟩:=fD l.tail;rw[<-hx,<-ak]at al |-;have af:=λW=>ajG x u W;obtain⟨d,ae⟩:=fD (II x u);obtain⟨U,ag⟩:=fD (Ud x u);rw[<-ae,<-ag]at af |-;obtain⟨ap,MI⟩:=fD (if U=0 then er else Kz er 7);rw[<-MI];have HE:=ah MI;clear hx ak ae ag MI;go_enter func275,ntmps275;go_wp2_with fail;apply gu (Stp ([(g,some 0)])) (λW=>Stp.drew _ _) (λ_ _ _ V h2=>V.trans h2) (zG 1 ([(g,some 0)])) (λ_ _ _ h=>h.I7) yO (Wv 1 (λW=>lH W B g l u er)) (λ_ _=>(λ(W W':ω) (h:lH W B g l u er) (M:W W')=>h.below M) _ _ (show lH W B g l u er from h) (aq3 gY 1)) (λi ar W W' an hp ht e=>(λ(W W':ω) (h:lH W B g l u er) (M:W W')=>h.below M) _ _ (hp e) (ht.1 (λej=>an (e.trans ej.symm))));case lX=>intro u;simp only[bV,aq9,aP,ay,aA,aB,aT,aJ];with_reducible rfl
 case hm=>kernel_rfl
 case hB=>kernel_rfl
 case hA=>kernel_rfl
 case hap=>kernel_rfl
 repeat(first
    |(refine fM.one (ado B g l' u er x) ?_ ?_
      ·
        (intro u w' Y J j
         replace J:=J rfl
         simp[fO,aC,gI,Is]at j
         refine fC ?_ ?_
         ·
           first
           |rfl
         intro O H
         go_wp2_with ((with_reducible refine(al _ J).mono ?_);rintro e w3⟨rfl,ac,aa⟩);(try simp only[j]at H);exact H _ _ (yN ac) ⟨rfl,aa⟩))
    |(apply fM.is
      ·
        (intro u w' Y J j
         clear J
         simp[fO,aC,gI,Is]at j
         refine fC ?_ ?_
         ·
           first
           |rfl
         intro O H
         have aq:=YM (am.keep Y (by simp) (by simp))
         go_wp2_with (fail)
         try simp only[j]at H
         refine H _ _ ?_ rfl
         first |exact oM (by decide))))
 apply fM.is;·(intro u w' Y J j;clear J;simp[fO,aC,gI,Is]at j;obtain⟨q1,q5⟩:=j;obtain⟨q1,_⟩:=q1;refine fC ?_ ?_;(.first|rfl);intro O H;skip;go_wp2_with(((with_reducible refine(af _).mono ?_);rintro e w3⟨rfl,rfl⟩));(try simp only[q1,q5]at H);refine H _ _ ?_ rfl;first|exact oM (by decide))
 iterate 4(apply fM.is;·(intro u w' Y J j;clear J;simp[fO,aC,gI,Is]at j;skip;refine fC ?_ ?_;(.first|rfl);intro O H;skip;go_wp2_with(fail);(try simp only[j]at H);refine H _ _ ?_ rfl;first|exact oM (by decide)))
 refine fM.last (EO ?_) ?_
 .simp only[gQ];repeat(refine⟨?_,?_⟩;.first|exact yP _|exact uZ (λ_ _ _ h M=>h.grow M))
  exact trivial
 intro u w2 ai _ j;simp only[gQ]at j;refine⟨rfl,?_⟩;intro O H;have h9:=j 9 _ rfl;have ad:=j 10 _ rfl;have V:=(j 1 _ rfl).2;simp only[gI,Is]at h9 ad;clear j;simp only[h9,ad];by_cases K:U=0
 .have e0:(U != 0)=false:=by simpa using K
  have Z:=ah K;clear K;go_wp2_with fail;go_ret;rw[HE.out,Υ Z.out];exact⟨rfl,ai.mono (by simp),V⟩
 .have e0:(U != 0)=true:=by simpa using K
  have Z:=ah K;clear K;go_wp2_with((with_reducible refine(Qi V 7).mono ?_);rintro e w3⟨rfl,ac,aa⟩);go_ret;rw[HE.out,Ξ Z.out];exact⟨rfl,(ai.mono (by simp)).trans (ac.mono (by simp)),aa⟩
def AV (l:List Int):Int:=if l.tail.headD 0=1 then l.tail.tail.headD 0 else 0
def Oh (l:List Int):List Int:=if l.tail.headD 0=1 then l.tail.tail.tail.tail else l.tail.tail
def Z9 (l:List Int):Prop:=l.tail.headD 0≠1\/AV l<1\/1000<AV l\/l.headD 0=0
instance (l:List Int):Decidable (Z9 l):=by unfold Z9;exact inferInstance
def Ue (l:List Int) (er:Int):Int:=if Z9 l then Kz er 20 else er
def ar2 (l:List Int) (u er:Int):Int:=if Ud (l.headD 0) u=0 then Ue l er else Kz (Ue l er) 7
def sTo (f:Int) (l:List Int) (u:Int):Int:=f+II (l.headD 0) u
def adp(n s:Int):0<=II n s/\II n s<=3276600:=by
 unfold II Ud;have j:=YL s;by_cases H:Fp s=0;.rw[Υ H];simp
 .rw[Ξ H];by_cases J:n<0\/32766<n;.rw[Υ J];simp
  .rw[Ξ J,Υ rfl];(have K:0<=n/\n<=32766:=by omega);exact⟨Int.mul_nonneg K.1 j.1,by have:=Int.mul_le_mul K.2 j.2 j.1 (by decide:(0:Int)<=32766);omega⟩
theorem GH(W:ω)(b i:Nat)(v:Θ):jV (λk=>k=b) W (W.setCell ⟨b,i,none⟩ v):=jV.DW (Stp.cell b i v) (λk o hm=>by simp at hm;exact hm.1)
def jV.old(h:jV D w w')(H: ∀k,k<w.heap.size->D k->D' k):jV D' w w':=⟨h.os,h.tape,h.output,h.size,λk j hn=>h.block k j (λJ=>hn (H k j J))⟩
def mD{o:Nat}(h:Stp [(g,some o)] w w'):jV (λk=>k=g) w w':=jV.DW h (λk o hm=>by simp at hm;exact hm.1)
theorem agn(h:lH W B g l u er)(f:Int)(cd:0<=f)(cf:f<=4294967296):Γ aj 274 #[.pointer g,f] W λe w'=>e=.returned (.agg #[(sTo f l u:Int),(AV l:Int)])/\jV (λk=>k=g) W w'/\lH w' B g (Oh l) u (ar2 l u er):=by
 have ae:=λW l u er (h:lH W B g l u er)=>Qh h;obtain⟨ag,ba⟩:=fD (l.headD 0);obtain⟨tm,bd⟩:=fD (l.tail.headD 0);obtain⟨l2,a8⟩:=fD l.tail.tail;have H:=ae _ _ _ _ (h.below (gY.alloc ig (.cells gF 60)));rw[<-ba]at H;have J:=λW (h:lH W B g l.tail u er)=>ae W _ _ _ h;rw[<-bd,<-a8]at J;obtain⟨b4,a1⟩:=fD W.heap.size;have bS:g<b4:=by obtain⟨⟨A,c,hB,_⟩,_⟩:=h;rw[a1];exact hB.lt
 have ak:=ah ba;have aw:=ah bd;have av:=ah a8;have aa:=ah a1;clear ba bd a8 a1;obtain⟨K,bf⟩:=fD (AV l);obtain⟨l4,a9⟩:=fD (Oh l);obtain⟨cg,az⟩:=fD (sTo f l u);obtain⟨ca,aD⟩:=fD (ar2 l u er);rw[<-bf,<-a9,<-az,<-aD];have bm:=ah az;have bi:=ah aD;have ax:=ah bf;have bk:=ah a9;clear bf a9 az aD;obtain⟨tb,bc⟩:=fD (tm==1);have Y:Hid (tb=true<->tm=1):=ah (by rw[bc,beq_iff_eq]);have e0:(tm==1)=tb:=bc.symm;clear bc;go_enter func274,ntmps274
 go_upto_if 16 with (first
   |((with_reducible refine H.mono ?_);rintro e w1⟨rfl,al,bw⟩)
   |((with_reducible refine(J _ bw).mono ?_);rintro e Z⟨rfl,am,bx⟩))
 clear e0;have ad:b4≠g:=Nat.ne_of_gt bS;have O:=(((fK.new W 60 gF).ji (mD al) (by rw[<-aa.out];exact ad)).ji (mD am) (by rw[<-aa.out];exact ad)).below (gY.alloc ig (.cells gF 60)) (by have H:=al.size;have J:=am.size;simp at H;omega);have hG:=((((jV.of_below ((aH W W).alloc ig (.cells gF 60)) (λk=>k=g)).trans (mD al)).trans (mD am)).trans (jV.of_below ((aH Z Z).alloc ig (.cells gF 60)) (λk=>k=g))).mono (D':=λk=>k=g\/b4<=k) (λk h=> .inl h);have U:=fK.new Z 60 gF;have af:=bx.below ((aH Z Z).alloc ig (.cells gF 60));have bE:b4<Z.heap.size:=by have H:=al.size;have J:=am.size;have M:=aa.out;simp at H;omega
 rw[<-aa.out]at O;obtain⟨b7,bq⟩:=fD Z.heap.size;obtain⟨W3,bo⟩:=fD (Z.alloc (.cells gF 60));rw[<-bo]at O hG U af |-;rw[<-bq]at U bE |-;rw[<-aa.out];clear bq bo am bx al bw H J;go_cut [] from 10 (λW'=>fK W' b4 60 gF/\fK W' b7 60 #[zI,K]/\lH W' B g l4 u er/\jV (λk=>k=g\/b4<=k) W W');case first=>cases tb with|false=>have ai:Hid (¬l.tail.headD 0=1):=ah (by rw[<-aw.out];exact λh=>by cases Y.out.2 h);clear Y;go_wp2_with fail;go_meet;refine⟨O,?_,?_,hG⟩;(.rw[ax.out,AV,Ξ ai.out];exact U);.rw[bk.out,Oh,Ξ ai.out,<-av.out];exact af|true=>have ai:Hid (l.tail.headD 0=1):=ah (by rw[<-aw.out];exact Y.out.1 rfl);clear Y;have M:=ae _ _ _ _ af;obtain⟨x2,bh⟩:=fD (l2.headD 0);rw[<-bh]at M;have bA:=ah bh;clear bh;go_wp2_with(first|((with_reducible refine M.mono ?_);rintro e w4⟨rfl,fU,ar⟩;have k4:=mD fU;have aE:=U.ji k4 (by omega);have fJ:=aE.cell;have iG:=aE.frozen 1;have k5:=jV.DW (D:=λk=>k=b7) (Stp.cell (w:=w4) b7 1 x2) (λk jQ uK=>by simp at uK;exact uK.1);have sK:=ar.ji k5 (by omega) (λk j=>by have:=ar.lo;omega);have h5:=ae _ _ _ _ sK)|((with_reducible refine h5.mono ?_);rintro e fU⟨rfl,bX,Uf⟩));go_meet;have k6:=mD bX;refine⟨((O.ji k4 ad).ji k5 (by omega)).ji k6 ad,?_,?_,hG.trans (((k4.mono ?_).trans (k5.mono ?_)).trans (k6.mono ?_))⟩;(.rw[ax.out,AV,Υ ai.out,<-av.out,<-bA.out];exact(aE.iV 1 _).ji k6 (by omega));(.rw[bk.out,Oh,Υ ai.out,<-av.out];exact Uf);(.intro k j;exact .inl j);(.intro k j;right;omega);.intro k j;exact .inl j
 case rest=>
  obtain⟨aL,an,V,aR⟩:=hcut;clear O U hG af;obtain⟨bad,a4⟩:=fD (decide (Z9 l));have ac:=ah a4;have Oe:=an.cell;go_upto_region 7 with fail;go_cut [37] from 10 (λx W'=>x=.bool bad/\W'=wc);case first=>have HS:Hid (Z9 l<->(tm≠1\/K<1\/1000<K\/ag=0)):=ah (by unfold Z9;rw[<-aw.out,<-ax.out,<-ak.out]);clear a4 ae;cases tb with|false=>(have e3:bad=true:=by rw[ac.out,decide_eq_true_iff,HS.out];exact .inl (λh=>by cases Y.out.2 h));clear Y;go_wp2_with fail;go_meet;rw[e3];exact⟨rfl,rfl⟩|true=>have H:=Y.out.1 rfl;clear Y;by_cases J:K<1;(·(have e2:decide (K<1)=true:=by simpa using J);(have e3:bad=true:=by rw[ac.out,decide_eq_true_iff,HS.out];exact .inr (.inl J));clear H J;go_wp2_with fail;go_meet;rw[e3];exact⟨rfl,rfl⟩);·(have e2:decide (K<1)=false:=by simpa using J);replace J:=Int.not_lt.1 J;by_cases M:1000<K;(·(have e3:decide (1000<K)=true:=by simpa using M);(have e4:bad=true:=by rw[ac.out,decide_eq_true_iff,HS.out];exact .inr (.inr (.inl M)));clear H J M;go_wp2_with fail;go_meet;rw[e4];exact⟨rfl,rfl⟩);·(have e3:decide (1000<K)=false:=by simpa using M);replace M:=Int.not_lt.1 M;(have e4:(ag==0)=bad:=by rw[ac.out,Bool.eq_iff_iff,decide_eq_true_iff,HS.out,beq_iff_eq];constructor;(.intro h;exact .inr (.inr (.inr h)));.intro h;rcases h with h |h |h |h;(.exact absurd H h);omega;omega;.exact h);clear H J M;go_wp2_with fail;go_meet;exact⟨by first |rfl |rw[e4],rfl⟩
  case rest=>obtain⟨rfl,rfl⟩:=hcut;clear a4;obtain⟨bB,bn⟩:=fD (Ue l er);have ap:=ah bn;clear bn;go_upto_if 37 with fail;go_cut [] from 10 (λW'=>fK W' b4 60 gF/\fK W' b7 60 #[zI,K]/\lH W' B g l4 u bB/\jV (λk=>k=g\/b4<=k) W W');(case first=>cases bu:bad with|false=>have H:=ac.out;rw[bu]at H;go_wp2_with fail;go_meet;refine⟨aL,an,?_,aR⟩;rw[ap.out,Ue,Ξ (of_decide_eq_false H.symm)];exact V|true=>have H:=ah ac.out;rw[bu]at H;have J:=ah (of_decide_eq_true H.out.symm);clear H;go_wp2_with((with_reducible refine(Qi V 20).mono ?_);rintro e w3⟨rfl,bb,af⟩);go_meet;refine⟨aL.ji (mD bb) ad,an.ji (mD bb) (by omega),?_,aR.trans ((mD bb).mono (λk j=> .inl j))⟩;rw[ap.out,Ue,Υ J.out];exact af);case rest=>clear aL an V aR Oe;obtain⟨O,U,V,hG⟩:=hcut;have cc:=YM V.at1;have a6:=λW=>ajG ag u W;obtain⟨d,aq⟩:=fD (II ag u);obtain⟨ed,a7⟩:=fD (Ud ag u);rw[<-aq,<-a7]at a6;have bN:=adp ag u;rw[<-aq]at bN;have HD:=ah aq;have bj:=ah a7;clear aq a7 ae;by_cases he:ed=0;(·(have e0:(ed != 0)=false:=by simpa using he);have au:=ah he;clear he;have Oe:=U.cell;have bR:=U.frozen 0;have bO:=O.frozen;have bL:=O.cell;go_wp2_with((with_reducible refine(a6 _).mono ?_);rintro e w3⟨rfl,rfl⟩);have a5:=((O.far (p:=⟨b7,0,none⟩) (by show b4≠b7;omega) (f+d:Int)).iV 0 (f+d:Int)).iV 1 K;refine β (nC results274 _ _ _ _ _ rfl a5 underlying60 rfl (by kernel_rfl)) rfl ?_;have k7:=(((GH w3 b7 0 (f+d:Int)).mono (D':=λk=>b4<=k) (λk j=>by omega)).trans ((GH _ b4 0 (f+d:Int)).mono (λk j=>bZ j.symm))).trans ((GH _ b4 1 K).mono (λk j=>bZ j.symm));refine⟨by rw[bm.out,sTo,<-ak.out,<-HD.out];rfl,(hG.trans (k7.mono (λk j=> .inr j))).old (λk j hd=>hd.elim id (λh=>by have:=aa.out;omega)),?_⟩;rw[bi.out,ar2,<-ak.out,<-bj.out,Υ au.out,<-ap.out];exact V.ji k7 (by omega) (λk j=>by have:=V.lo;omega));·(have e0:(ed != 0)=true:=by simpa using he);have au:=ah he;clear he;go_wp2_with(first|((with_reducible refine(a6 _).mono ?_);rintro e w3⟨rfl,rfl⟩)|((with_reducible refine(Qi V 7).mono ?_);rintro e w4⟨rfl,fU,ar⟩;have k4:=mD fU;have fJ:=U.ji k4 (by omega);have aM:=O.ji k4 ad;have Oe:=fJ.cell;have bR:=fJ.frozen 0;have bO:=aM.frozen;have bL:=aM.cell));have a5:=((aM.far (p:=⟨b7,0,none⟩) (by show b4≠b7;omega) (f+d:Int)).iV 0 (f+d:Int)).iV 1 K;refine β (nC results274 _ _ _ _ _ rfl a5 underlying60 rfl (by kernel_rfl)) rfl ?_;have k7:=(((GH w4 b7 0 (f+d:Int)).mono (D':=λk=>b4<=k) (λk j=>by omega)).trans ((GH _ b4 0 (f+d:Int)).mono (λk j=>bZ j.symm))).trans ((GH _ b4 1 K).mono (λk j=>bZ j.symm));refine⟨by rw[bm.out,sTo,<-ak.out,<-HD.out];rfl,((hG.trans (k4.mono (λk j=> .inl j))).trans (k7.mono (λk j=> .inr j))).old (λk j hd=>hd.elim id (λh=>by have:=aa.out;omega)),?_⟩;rw[bi.out,ar2,<-ak.out,<-bj.out,Ξ au.out,<-ap.out];exact ar.ji k7 (by omega) (λk j=>by have:=V.lo;omega)
def aac{a b:Int}(h:fK w g 60 #[.int .i64 a,.int .i64 b]):fE kW w (some ⟨g,0,none⟩) [⟨a,b⟩]:=qw h rfl
def ajN (r:Bool):Int:=if r=true then 0 else 1
def aad(r:Bool)(w:ω):Γ aj 273 #[r] w λe w'=>e=.returned (ajN r:Int)/\w'=w:=by cases r with|false=>go_enter func273,ntmps273;go_wp2_with fail;go_ret;exact⟨rfl,rfl⟩|true=>go_enter func273,ntmps273;go_wp2_with fail;go_ret;exact⟨rfl,rfl⟩
def wP (u:Int):Nat->List Int->Int->List Sc->Except Int (List Int × List Sc)
 |0,l,_,acc=> .ok (l,acc)
 |k+1,l,f,acc=>if ar2 l u 0≠0 then .error (ar2 l u 0) else wP u k (Oh l) (sTo f l u) (acc++ [⟨sTo f l u,AV l⟩])
def aae (u:Int) (l:List Int) (ss:List Sc):Except Int (List Sc × Int):=let l2:=if l.headD 0=1 then l.tail.tail.tail else l.tail;if l2.headD 0=1 then(if Ud (l2.tail.headD 0) u≠0 then .error 7 else .ok (ss,II (l2.tail.headD 0) u)) else .ok (ss,0)
def qK (rev:Bool) (v:List Int):Except Int (List Sc × Int):=if v.headD 0≠ajN rev then .error 20 else if 8<=v.tail.tail.tail.tail.headD 0 then .error 2 else match wP (v.tail.headD 0) (v.tail.tail.tail.tail.headD 0+1).toNat v.tail.tail.tail.tail.tail 0 [] with
 | .error er=> .error er
 | .ok (l,ss)=>aae (v.tail.headD 0) l ss
def GI (W:ω) (gm:Nat) (ref:Int) (rev:Bool) (vp:Θ) (R:Except Int (List Sc × Int)) (e:ε) (w':ω):Prop:=jV (fun k=>k=gm) W w'/\match R with
 | .error er=>e=.returned (.int .i64 er)/\er≠0
 | .ok (ss,gap)=>e=.returned (.int .i64 0)/\ ∃As cs,fK w' gm 42 #[.int .i64 ref,.bool rev,vp,.slice As ss.length cs,.int .i64 gap]/\aq1 kW 60 w' W As cs ss
theorem lH.amr(h:lH W B g l u er)(x:Int):lH (W.setCell ⟨g,1,none⟩ x) B g l x er:=by obtain⟨⟨A,c,H,J,j,M⟩,K⟩:=h;exact⟨⟨A,c,H.iV 1 _,D5 J (λO a e=>by have:=j O a e;omega),j,M⟩,K⟩
theorem Jd(h: ∀x∈l,0<=x/\x<=4294967295):0<=l.headD 0/\l.headD 0<=4294967295:=by cases l with|nil=>simp|cons x r=>simp_all
def oq(h: ∀x∈l,0<=x/\x<=4294967295): ∀x∈l.tail,0<=x/\x<=4294967295:=λx j=>h x (List.mem_of_mem_tail j)
theorem Xk{gm:Nat}(ref:Int)(rev:Bool)(vp:Θ)(v:List Int)(Av:Option δ)(cv:Nat)(hM:fK W gm 42 #[ref,rev,vp,nS,zI])(hr:fE aq7 W Av v)(cU:v≠ []-> ∀a,Av=some a->a.block<B)(hB:B<=gm)(hc:v.length<=cv/\cv<=μ)(hv: ∀x∈v,0<=x/\x<=4294967295):Γ aj 254 #[.pointer gm,.slice Av v.length cv] W (GI W gm ref rev vp (qK rev v)):=by
 obtain⟨R,hR⟩:=fD (qK rev v);rw[<-hR];unfold qK at hR;have bq:gm<W.heap.size:=hM.lt;have ac:=λW l u er g (h:lH W B g l u er)=>Qh h;have av:lH (W.alloc (.cells #[.slice Av v.length cv,zI,zI] 367)) B W v 0 0:=⟨⟨Av,cv,fK.new _ _ _,hr.below jm,cU,hc.1,hc.2⟩,by omega⟩;have ar:=hM.below ((aH W W).alloc ig (.cells #[.slice Av v.length cv,zI,zI] 367)) bq;obtain⟨n,hn⟩:=fD v.length;rw[<-hn]at av ar |-;obtain⟨x0,bO⟩:=fD (v.headD 0);obtain⟨l1,a5⟩:=fD v.tail;obtain⟨J,bN⟩:=fD (l1.headD 0);obtain⟨l2,a6⟩:=fD l1.tail;obtain⟨x2,cH⟩:=fD (l2.headD 0);obtain⟨l3,a7⟩:=fD l2.tail;obtain⟨x3,cI⟩:=fD (l3.headD 0);obtain⟨l4,a8⟩:=fD l3.tail;obtain⟨O,YO⟩:=fD (l4.headD 0);obtain⟨l5,bA⟩:=fD l4.tail;rw[<-a5,<-a6,<-a7,<-a8,<-bA,<-YO,<-bN,<-bO]at hR;have c9:0<=O/\O<=4294967295:=by rw[YO,a8,a7,a6,a5];exact Jd (oq (oq (oq (oq hv))))
 have h0:=λW g (h:lH W B g v 0 0)=>ac W _ _ _ _ h;rw[<-bO,<-a5]at h0;have h1:=λW g (h:lH W B g l1 0 0)=>ac W _ _ _ _ h;rw[<-bN,<-a6]at h1;have h2:=λW g (h:lH W B g l2 J 0)=>ac W _ _ _ _ h;rw[<-cH,<-a7]at h2;have h3:=λW g (h:lH W B g l3 J 0)=>ac W _ _ _ _ h;rw[<-cI,<-a8]at h3;have h4:=λW g (h:lH W B g l4 J 0)=>ac W _ _ _ _ h;rw[<-YO,<-bA]at h4;have HR:=ah hR;obtain⟨bS,bi⟩:=fD (ajN rev);have cC:=λW=>aad rev W;rw[<-bi]at cC;have bj:=ah bi;clear hR hn bO a5 bN a6 cH a7 cI a8 YO bA bi hM hr;obtain⟨g,hg⟩:=fD W.heap.size;obtain⟨W1,ax⟩:=fD (W.alloc (.cells #[.slice Av n cv,zI,zI] 367));have ct:jV (λk=>k=gm\/g<=k) W W1:=by rw[ax];exact jV.of_below jm _
 have cF:g<W1.heap.size:=by rw[ax,hg];simp
 rw[<-ax]at av ar;rw[<-hg]at av;have bu:gm≠g:=by rw[hg];omega
 have HG:=ah hg;go_enter func254,ntmps254;go_wp2_with fail;simp only[<-ax,<-hg];clear hg ax;apply gu (Stp ([(g,some 0)])) (λW=>Stp.drew _ _) (λ_ _ _ h1 h2=>h1.trans h2) (zG 1 ([(g,some 0)])) (λ_ _ _ h=>h.I7) yO (Wv 1 (λW=>lH W B g v 0 0)) (λ_ _=>(λ(W W':ω) (h:lH W B g v 0 0) (hb:W W')=>h.below hb) _ _ (show lH W1 B g v 0 0 from av) (aq3 gY 1)) (λi aD W W' bw hp ht e=>(λ(W W':ω) (h:lH W B g v 0 0) (hb:W W')=>h.below hb) _ _ (hp e) (ht.1 (λej=>bw (e.trans ej.symm))));case lX=>intro u;simp only[bV,aq9,aP,ay,aA,aB,aT,aJ];with_reducible rfl
 case hm=>kernel_rfl
 case hB=>kernel_rfl
 case hA=>kernel_rfl
 case hap=>kernel_rfl
 repeat(first
    |(refine fM.one (ado B g l1 0 0 x0) ?_ ?_
      ·
        (intro u w' j aa H
         replace aa:=aa rfl
         simp[fO,aC,gI,Is]at H
         refine fC ?_ ?_
         ·
           first
           |rfl
         intro ag hK
         go_wp2_with ((with_reducible refine(h0 _ _ aa).mono ?_);rintro e K⟨rfl,U,M⟩);(try simp only[H]at hK);exact hK _ _ (yN U) ⟨rfl,M⟩))
    |(apply fM.is
      ·
        (intro u w' j aa H
         clear aa
         simp[fO,aC,gI,Is]at H
         refine fC ?_ ?_
         ·
           first
           |rfl
         intro ag hK
         have c7:=(j.blk ar (by simp[bu])).cell
         go_wp2_with (((with_reducible refine(cC _).mono ?_);rintro e K⟨rfl,rfl⟩))
         try simp only[H]at hK
         refine hK _ _ ?_ rfl
         first |exact oM (by decide))))
 refine fM.last (EO ?_) ?_
 .simp only[gQ];repeat(refine⟨?_,?_⟩;.first|exact yP _|exact uZ (λ_ _ _ h hb=>h.grow hb))
  exact trivial
 intro u w2 af _ H;simp only[gQ]at H;refine⟨rfl,?_⟩;intro ag hK;have h6:=H 6 _ rfl;obtain⟨cE,bn⟩:=H 1 _ rfl;simp only[gI,Is]at h6;clear H;simp only[cE,h6];have cx:=af.blk ar (by simp[bu]);have aL:=ct.trans ((mD af).mono (λk j=> .inr (bZ j.symm)));have cG:=aU cF af.size;clear ar ct cF av h6 cE af h0;by_cases an:x0=bS
 .have e0:(x0 != bS)=false:=by simpa using an
  have cg:=ah an;clear an;by_cases h8:8<=O;·(have d8:decide (8<=O)=true:=by simpa using h8);have aw:Hid (R=.error 2):=ah (by rw[HR.out,Ξ (by rw[<-bj.out];exact λh=>h cg.out),Υ h8]);clear h8;go_wp2_with(first|((with_reducible refine(h1 _ _ bn).mono ?_);rintro e K⟨rfl,U,M⟩;obtain⟨A3,c3,V,_⟩:=M.blk;have ai:=V.cell;have ch:=V.frozen 1;have Z:=M.amr J)|((with_reducible refine(h2 _ _ Z).mono ?_);rintro e fU⟨rfl,am,IJ⟩)|((with_reducible refine(h3 _ _ IJ).mono ?_);rintro e fU⟨rfl,bb,Uf⟩)|((with_reducible refine(h4 _ _ Uf).mono ?_);rintro e fU⟨rfl,bc,Gv⟩));go_ret;have aM:=((((aL.trans ((mD U).mono (λk j=> .inr (bZ j.symm)))).trans ((GH K g 1 J).mono (λk j=> .inr (bZ j.symm)))).trans ((mD am).mono (λk j=> .inr (bZ j.symm)))).trans ((mD bb).mono (λk j=> .inr (bZ j.symm)))).trans ((mD bc).mono (λk j=> .inr (bZ j.symm)));refine⟨aM.old (λk j H=>H.elim id (λh=>by have:=HG.out;omega)),?_⟩;rw[aw.out];exact⟨rfl,by decide⟩
  ·(have d8:decide (8<=O)=false:=by simpa using h8);have c8:O<=7:=by omega
   have cd : Hid (R = match wP J (O + 1).toNat l5 0 [] with
     | .error er=> .error er
     | .ok (l,ss)=>aae J l ss):=ah (by rw[HR.out,Ξ (by rw[<-bj.out];exact λh=>h cg.out),Ξ h8])
   clear h8;go_wp2_with(first|((with_reducible refine(h1 _ _ bn).mono ?_);rintro e K⟨rfl,U,M⟩;obtain⟨A3,c3,V,_⟩:=M.blk;have ai:=V.cell;have ch:=V.frozen 1;have Z:=M.amr J)|((with_reducible refine(h2 _ _ Z).mono ?_);rintro e fU⟨rfl,am,IJ⟩)|((with_reducible refine(h3 _ _ IJ).mono ?_);rintro e fU⟨rfl,bb,Uf⟩)|((with_reducible refine(h4 _ _ Uf).mono ?_);rintro e fU⟨rfl,bc,Gv⟩));have k3:=(mD U).trans (GH K g 1 J);have k7:=((k3.trans (mD am)).trans (mD bb)).trans (mD bc);have aM:=aL.trans (k7.mono (λk j=> .inr (bZ j.symm)));have cy:=cx.ji k7 bu;have ci:=aU cG k7.size;clear k3 k7 aL cx cG U am bb bc M Z IJ Uf bn h1 h2 h3 h4 ai ch V e0 d8;go_loopw [38,8] (λi a wr=> ∃(k:Nat) (at_:Int) (l:List Int) (zs:List Sc) (AL:Option δ) (cL:Nat),i=.int .i64 k/\(k:Int)<=O+1/\a=.int .i64 at_/\0<=at_/\at_<=3276600*(k:Int)/\lH wr B g l J 0/\fK wr gm 42 #[ref,rev,vp,.slice AL k cL,zI]/\aq1 kW 60 wr (g+1) AL cL zs/\Hid (zs.length=k)/\jV (λk=>k=gm\/g<=k) W wr/\g<wr.heap.size/\Hid (wP J (O+1).toNat l5 0 []=wP J ((O+1).toNat-k) l at_ zs)) (λi _ _=>(O+1).toNat-(intOf i).toNat);(case atStart=>exact⟨0,0,l5,[],none,0,rfl,by omega,rfl,by decide,by simp,Gv,cy,aq1.nil _ _,ah rfl,aM,ci,ah rfl⟩);case round=>
    clear Gv cy aM ci;obtain⟨k,at_,l,zs,AL,cL,rfl,j,rfl,cP,c6,hP,hM,Y,hz,hG,cT,hL⟩:=hrel;by_cases az:(k:Int)<O+1
    ·(have cz:decide ((k:Int)<O+1)=true:=by simpa using az);have yL:=agn hP at_ cP (by omega);have cW:=adp (l.headD 0) J;obtain⟨kL,bd⟩:=fD (sTo at_ l J);(have cm:0<=kL/\kL<=3276600*((k:Int)+1):=by rw[bd,sTo];omega);obtain⟨tv,bL⟩:=fD (AV l);obtain⟨ak,MI⟩:=fD (ar2 l J 0);obtain⟨l',bx⟩:=fD (Oh l);rw[<-bd,<-bL,<-MI,<-bx]at yL;obtain⟨aD,hj⟩: ∃aD,(O+1).toNat-k=aD+1:=⟨(O+1).toNat-k-1,by omega⟩;(have cw:wP J (O+1).toNat l5 0 []=if ak≠0 then .error ak else wP J aD l' kL (zs++ [⟨kL,tv⟩]):=by rw[hL.out,hj,wP,<-MI,<-bx,<-bd,<-bL]);have cc:=ah cw;have HJ:=ah hj;clear cw hL bd bL MI bx hj cW hP;(have cS:gm<g:=by rw[HG.out];exact bq);have al:=Y.gJ;by_cases he:ak=0
     ·(have e0:(ak != 0)=false:=by simpa using he);have HE:=ah he;clear he;go_wp2_with((with_reducible refine yL.mono ?_);rintro e K⟨rfl,ae,M⟩;have Z:=M.below ((aH K K).alloc ig (.cells #[kL,tv] 60));obtain⟨A3,c3,V,_⟩:=Z.blk;have ai:=V.cell);have aR:=fK.new K 60 #[kL,tv];have WX:=(hM.ji ae (by omega)).below ((aH K K).alloc ig (.cells #[kL,tv] 60)) (aU hM.lt ae.size);replace Y:=(Y.ji ae (λx e H=>by have:=al x e;omega)).alloc (.cells #[kL,tv] 60);have aq:=(hG.trans (ae.mono (λk j=> .inr (bZ j.symm)))).trans (jV.of_below ((aH K K).alloc ig (.cells #[kL,tv] 60)) _);have cM:=ae.size;obtain⟨b9,xW⟩:=fD K.heap.size;obtain⟨W4,Ug⟩:=fD (K.alloc (.cells #[kL,tv] 60));(have ba:b9<W4.heap.size:=by rw[Ug,xW];simp);rw[<-Ug]at aR WX Y aq Z |-;rw[<-xW]at aR cM |-;(have cD: ¬AL.map (·.block)=some gm:=λe=>by have:=al gm e;omega);(have cB: ¬AL.map (·.block)=some b9:=λe=>by have:=al b9 e;omega);(have cV: ¬AL.map (·.block)=some g:=λe=>by have:=al g e;omega);(have cQ:g+1<=W4.heap.size:=by omega);(have cR:gm≠b9:=by omega);have cK:=ah aq;clear Ug xW ae M V ai hM hG yL aq e0;apply qp (λw w'=>w.grownBy w' (AL.map (·.block))) (λw=>arj (aq3 gY 1) _) (λ_ _ _=>lN) (CW (AL.map (·.block)) 7) (λ_ _ _ h=>h.2) (λi W=>i=7->aq1 kW 60 W (g+1) AL cL zs) (λ_ _=>Y.below (aq3 gY 1)) (λi aD W W' bw hp ht hi=>(hp hi).below (ht.1 (λh=>bw (hi.trans h.symm))));(case lX=>intro u;simp only[bV,List.dropLast,aq9,aP,ay,aA,aB,aT,aJ];with_reducible rfl);(case hm=>kernel_rfl);(case hB=>kernel_rfl);(case hA=>kernel_rfl);case hap=>kernel_rfl
      repeat(first
         |(apply kE.is
           ·
             (intro u w' j aa H
              clear aa
              simp[fH,aC,Is]at H
              refine fC ?_ ?_
              ·
                first
                |rfl
              intro ag ad
              have m1:=(WX.ji (jV.kJ (D:=λk=>AL.map (·.block)=some k) j (λk j=>j)) cD).cell;have m2:=(aR.ji (jV.kJ (D:=λk=>AL.map (·.block)=some k) j (λk j=>j)) cB).cell
              go_wp2_with (fail)
              try simp only[H]at ad
              refine ad _ _ ?_ rfl
              exact vT _ _ _ _))
         |(refine kE.word (Gm 60 (AL.map (·.block)) #[kL, tv]) ?_ ?_
           ·
             (intro u w' j aa H
              clear aa
              simp[fH,aC,Is]at H
              refine fC ?_ ?_
              ·
                first
                |rfl
              intro ag ad
              go_wp2_with fail
              try simp only[H]at ad
              exact ad _ _ (uw jm) ⟨w',rfl,fK.new _ _ _,λe=>by have:=(Y.gJ _ e).2;have:=j.size;omega⟩))
         |(refine kE.word (PN kW 60 (g + 1) (k + 1) (zs ++ [⟨kL, tv⟩])) ?_ ?_
           ·
             (intro u w' j aa H
              simp[fH,aC,Is]at H
              obtain⟨q1,bv,q2,hB,hn⟩:=H
              refine fC ?_ ?_
              ·
                first
                |rfl
              intro ag ad
              exact oH abI (.tmp 56) (.tmp 58) rfl (g+1) AL cL zs k (by rw[<-q1];rfl) hz.out (aa rfl) bv 1 [⟨kL,tv⟩] 1 (by rw[<-q2];rfl) rfl (aac hB) (by omega) (by decide) (aG cQ j.size) λA2 c2 W h1 h2 _=>ad _ _ ⟨λh=>absurd rfl h,h2⟩ ⟨A2,c2,rfl,h1⟩)))
      refine kE.last ?_ ?_;(.refine Ai ?_;simp only[gQ];(repeat(refine⟨?_,?_⟩;.first|exact λ_ _ _ _ _ h _=>h|exact λ_ _ _ _ _ h ht=>Gm.grow h ht.2|exact λ_ hi _ _ _ h ht=>PN.grow h (ht.1 hi)));exact trivial);intro u w2 af _ H;simp only[gQ]at H;obtain⟨A2,c2,hu,uq⟩:=H 7 _ rfl;have Xl:=H 9 _ rfl;simp only[Is]at Xl;clear H;refine⟨rfl,?_⟩;intro ag ad;have a4:=jV.kJ (D:=λk=>AL.map (·.block)=some k) af (λk j=>j);have Qa:=WX.ji a4 cD;have cX:=Qa.cell;have cY:=Qa.frozen 3;have c5:=((aR.ji a4 cB).far (p:=⟨gm,3,none⟩) (λe=>cR e.symm) (.slice A2 (k+1) c2)).cell;simp only[hu,Xl];clear hu Xl;go_wp2_with fail;go_roundw;(case rel=>have kc:=GH w2 gm 3 (.slice A2 (k+1) c2);have kx:=(a4.mono (D':=λk=>k=gm\/g<=k) (λx hx=> .inr (by have:=al x hx;omega))).trans (kc.mono (λk j=> .inl j));exact⟨k+1,kL,l',zs++ [⟨kL,tv⟩],A2,c2,by go_num,by omega,rfl,cm.1,by have:=cm.2;simpa using this,(lH.ji (by rw[<-HE.out];exact Z) a4 cV (λx hx=>by have:=al x hx;omega)).ji kc (λe=>by omega) (λx hx=>by omega),Qa.iV 3 _,uq.far (g:=gm) (by omega) (λk j=>aN w2 ⟨gm,3,none⟩ _ k j),ah (by rw[bC,hz.out];rfl),cK.trans kx,aU (by omega) (aG af.size (by simp[dD])),ah (by rw[cc.out,Ξ (λh=>h HE.out)];congr 1;have:=HJ.out;omega)⟩);case measure=>simp[intOf];omega
     ·(have e0:(ak != 0)=true:=by simpa using he);have HE:=ah he;clear he;have aw:Hid (R=.error ak):=ah (by rw[cd.out,cc.out,Υ HE.out]);go_wp2_with((with_reducible refine yL.mono ?_);rintro e K⟨rfl,ae,M⟩;have Z:=M.below ((aH K K).alloc ig (.cells #[kL,tv] 60));obtain⟨A3,c3,V,_⟩:=Z.blk;have ai:=V.cell);go_ret;have aq:=(hG.trans (ae.mono (λk j=> .inr (bZ j.symm)))).trans (jV.of_below ((aH K K).alloc ig (.cells #[kL,tv] 60)) _);refine⟨aq.old (λk j H=>H.elim id (λh=>by have:=HG.out;omega)),?_⟩;rw[aw.out];exact⟨rfl,HE.out⟩
    ·(have cz:decide ((k:Int)<O+1)=false:=by simpa using az);replace az:=Int.not_lt.1 az;(have cu:wP J (O+1).toNat l5 0 []=.ok (l,zs):=by rw[hL.out,show(O+1).toNat-k=0 by omega,wP]);have cf:Hid (R=aae J l zs):=ah (by rw[cd.out,cu]);obtain⟨x9,bR⟩:=fD (l.headD 0);obtain⟨tb,bE⟩:=fD (x9==1);have Rj:Hid (tb=true<->l.headD 0=1):=ah (by rw[bE,beq_iff_eq,bR]);have e1:(x9==1)=tb:=bE.symm;obtain⟨la,bB⟩:=fD l.tail;have h9:=ac _ _ _ _ _ hP;rw[<-bR,<-bB]at h9;obtain⟨lb,cA⟩:=fD (if l.headD 0=1 then l.tail.tail.tail else l.tail);have ca:=ah bB;have aE:=ah cA;(have cS:gm<g:=by rw[HG.out];exact bq);clear bE bR bB cA cu hL az;go_upto_if 67 with ((with_reducible refine h9.mono ?_);rintro e K⟨rfl,U,M⟩);have au:=hM.ji (mD U) (by omega);have a9:=Y.ji (mD U) (λx e H=>by have:=Y.gJ x e;omega);have bm:=hG.trans ((mD U).mono (λk j=> .inr (bZ j.symm)));clear cz e1 hP hM Y hG U h9 cT;go_cut [] from 10 (λW'=>lH W' B g lb J 0/\fK W' gm 42 #[ref,rev,vp,.slice AL k cL,zI]/\aq1 kW 60 W' (g+1) AL cL zs/\jV (λk=>k=gm\/g<=k) W W');(case first=>cases tb with|false=>have bf:Hid (¬l.headD 0=1):=ah (λh=>by cases Rj.out.2 h);clear Rj;go_wp2_with fail;go_meet;refine⟨?_,au,a9,bm⟩;rw[aE.out,Ξ bf.out,<-ca.out];exact M|true=>have bf:Hid (l.headD 0=1):=ah (Rj.out.1 rfl);clear Rj;have h4:=ac _ _ _ _ _ M;go_wp2_with(first|((with_reducible refine h4.mono ?_);rintro e w4⟨rfl,ba,Z⟩;have h5:=ac _ _ _ _ _ Z)|((with_reducible refine h5.mono ?_);rintro e fU⟨rfl,am,IJ⟩));go_meet;have k5:=(mD ba).trans (mD am);refine⟨?_,au.ji k5 (by omega),a9.ji k5 (λx e H=>by have:=a9.gJ x e;omega),bm.trans (k5.mono (λk j=> .inr (bZ j.symm)))⟩;rw[aE.out,Υ bf.out,<-ca.out];exact IJ);case rest=>clear M au a9 bm;obtain⟨hP,hM,Y,hG⟩:=hcut;obtain⟨y,hy⟩:=fD (lb.headD 0);have h9:=ac _ _ _ _ _ hP;rw[<-hy]at h9;have HY:=ah hy;clear hy;by_cases ap:y=1;(·(have e1:(y==1)=true:=by simpa using ap);have bh:=ah ap;clear ap;have jL:=λW (h:lH W B g lb.tail J 0)=>ajH h;obtain⟨d,bo⟩:=fD (II (lb.tail.headD 0) J);obtain⟨cn,bk⟩:=fD (if Ud (lb.tail.headD 0) J=0 then 0 else Kz 0 7);rw[<-bo,<-bk]at jL;have HD:=ah bo;have bX:=ah bk;clear bo bk;go_wp2_with(first|((with_reducible refine h9.mono ?_);rintro e K⟨rfl,U,M⟩;have au:=hM.ji (mD U) (by omega);have hq:=jL _ M)|((with_reducible refine hq.mono ?_);rintro e w4⟨rfl,ba,Z⟩;have k4:=jV.DW (D:=λk=>k=g) ba (λk fU hm=>by simp at hm;exact hm.elim And.left And.left);have WX:=au.ji k4 (by omega);have fJ:=WX.cell;have iG:=WX.frozen 4;obtain⟨A3,c3,V,_⟩:=Z.blk;have jQ:=(V.far (p:=⟨gm,4,none⟩) (by show g≠gm;omega) d).cell));go_ret;have cJ:=(mD U).trans k4;have kc:=GH w4 gm 4 d;have cN:=(hG.trans (cJ.mono (λk j=> .inr (bZ j.symm)))).trans (kc.mono (λk j=> .inl j));refine⟨cN.old (λk j H=>H.elim id (λh=>by have:=HG.out;omega)),?_⟩;rw[cf.out,aae];simp only;rw[<-aE.out,<-HY.out,Υ bh.out];have Gq:=(Y.ji cJ (λx e H=>by have:=Y.gJ x e;omega)).far (g:=gm) (w':=w4.setCell ⟨gm,4,none⟩ d) (by omega) (λk j=>aN w4 ⟨gm,4,none⟩ _ k j);by_cases a1:Ud (lb.tail.headD 0) J=0;(.rw[Ξ (λh=>h a1)];refine⟨by show Ending.returned cn=_;rw[bX.out,Υ a1],AL,cL,?_,Gq.mono (by have:=HG.out;omega)⟩;rw[hz.out,<-HD.out];exact WX.iV 4 _);.rw[Υ a1];exact⟨by show Ending.returned cn=_;rw[bX.out,Ξ a1];rfl,by decide⟩);·(have e1:(y==1)=false:=by simpa using ap);have bh:=ah ap;clear ap;go_wp2_with((with_reducible refine h9.mono ?_);rintro e K⟨rfl,U,M⟩;obtain⟨A3,c3,V,_⟩:=M.blk;have ai:=V.cell);go_ret;refine⟨(hG.trans ((mD U).mono (λk j=> .inr (bZ j.symm)))).old (λk j H=>H.elim id (λh=>by have:=HG.out;omega)),?_⟩;rw[cf.out,aae];simp only;rw[<-aE.out,<-HY.out,Ξ bh.out];exact⟨rfl,AL,cL,by rw[hz.out];exact hM.ji (mD U) (by omega),(Y.ji (mD U) (λx e H=>by have:=Y.gJ x e;omega)).mono (by have:=HG.out;omega)⟩
 .have e0:(x0 != bS)=true:=by simpa using an
  have aw:Hid (R=.error 20):=ah (by rw[HR.out,Υ (by rw[<-bj.out];exact an)]);clear an;go_wp2_with fail;go_ret;refine⟨aL.old (λk j H=>H.elim id (λh=>by have:=HG.out;omega)),?_⟩;rw[aw.out];exact⟨rfl,by decide⟩
end Go.Proofs.YthnmgjngniciaaaGreatDoor
