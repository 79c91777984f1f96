/- Parts. -/
import Derived.Test.YthnmgjngniciaaaGreatDoorV08
import Derived.Shelf.Slices.SearchI
import Derived.Shelf.Slices.Empties
import Derived.Shelf.Spec.SlicesInsertGrow
import Derived.Shelf.SlicesE.DeleteFunc
set_option linter.all false
set_option maxHeartbeats 16000000
set_option maxRecDepth 8000
open Array renaming getElem?_append_left->dS,getElem?_eq_getElem->cO
open Bool renaming and_eq_true->bM
open List renaming getD_eq_getElem?_getD->bH,getElem?_append_left->dP,getElem?_eq_getElem->aI,getElem?_eq_none->dQ,getElem?_eq_some_iff->aX,getElem?_map->bW,getElem?_take_of_lt->dG,length_append->bC,length_eq_zero_iff->dh,length_take->dX,map->bV,mem_append->dK,mem_singleton->dN,not_mem_nil->dH,replicate->eH,setIfInBounds_toArray->ay,set_cons_succ->aB,set_cons_zero->aA
open Nat renaming add_zero->bI,le_refl->aW,le_succ->ϗ,le_trans->aG,lt_of_lt_of_eq->fA,lt_of_lt_of_le->aU,reduceAdd->aT,zero_add->aJ,zero_le->aV
open Option renaming map_some->eF
namespace Go.Proofs.YthnmgjngniciaaaGreatDoor
open Go renaming Addr->δ,Calls->Γ,Ending->ε,Oper->ο,Operand->κ,Program->χ,TypeId->τ,Value->Θ,World->ω,bodyPost_ret->β,callFunc->ϕ,maxLen->μ,run_underlying->ν,setRow_other->ζ,undef->υ,wpList->Δ,wpList_plain->π,wp_load_row->ι,wp_store_row->η,yielded->ψ
open Go.RowKit Go.Shelf Tryz
open Act renaming put->aP
open Below renaming heap_setCell->aN,refl->aH
open Instr renaming findNow->dY
open Go.Lib renaming hid->ah
open Region renaming binds->aC,wanted->aF
open Result renaming andThen_ok->dO
open Tryz renaming prog->aj,underlying136->bF,underlying27->dB,underlying3->bG,underlying34->bD,underlying4->dL,underlying44->bg
open Value renaming cells->aS,oneCell'->aK
open Value.slice renaming injEq->dV
open World renaming setCell->dD
variable{es:Array MapEntry}{ops:Array ο}{F c:Cp}{s s2 s5:Cs}{er n now x:Int}{l:List Int}{bs:List UInt8}{m:Ms}{a:Vx}{B Bm Bq b cl g gp i j k:Nat}{D:Nat->Prop}{A:Option δ}{q:P7}{P:χ}{t:Tp}{tm:jl}{v:Θ}{W W' W1 w w' w0:ω}
section
def Pd.BI:Go.Shelf.Ren:=⟨fun |21=>177 |27=>228 |28=>229 |35=>262 |39=>277 |n=>n,fun |22=>22 |3=>3 |4=>4 |0=>0 |n=>n,fun |n=>n⟩
def Pd.Jh:Go.Proofs.Lays2.n21 aj Pd.BI where
  mixed:=by rfl
  f21:=Tryz.func177.trans (ξ some (by rfl))
  f27:=Tryz.func228.trans (ξ some (by rfl))
  f28:=Tryz.func229.trans (ξ some (by rfl))
  f35:=Tryz.func262.trans (ξ some (by rfl))
  f39:=Tryz.func277.trans (ξ some (by rfl))
  t0:=underlying0
  a0:=isAgg0
  z0:=sizeOf0
  v0:=zeroValue0
  t3:=bG
  a3:=isAgg3
  z3:=sizeOf3
  v3:=zeroValue3
  t4:=dL
  a4:=isAgg4
  z4:=sizeOf4
  v4:=zeroValue4
  t22:=underlying22
  a22:=isAgg22
  z22:=sizeOf22
  v22:=zeroValue22
  i3:=by kernel_rfl
def Pd.U2:Go.Shelf.Ren:=⟨fun |25=>176 |31=>226 |32=>227 |37=>148 |n=>n,fun |22=>22 |3=>3 |4=>4 |40=>232 |0=>0 |n=>n,fun |n=>n⟩
def Pd.Y5:Go.Proofs.Lays2.n25 aj Pd.U2 where
  mixed:=by rfl
  f25:=Tryz.func176.trans (ξ some (by rfl))
  f31:=Tryz.func226.trans (ξ some (by rfl))
  f32:=Tryz.func227.trans (ξ some (by rfl))
  f37:=Tryz.func148.trans (ξ some (by rfl))
  t0:=underlying0
  a0:=isAgg0
  z0:=sizeOf0
  v0:=zeroValue0
  t3:=bG
  a3:=isAgg3
  z3:=sizeOf3
  v3:=zeroValue3
  t4:=dL
  a4:=isAgg4
  z4:=sizeOf4
  v4:=zeroValue4
  t22:=underlying22
  a22:=isAgg22
  z22:=sizeOf22
  v22:=zeroValue22
  t40:=underlying232
  a40:=isAgg232
  z40:=sizeOf232
  v40:=zeroValue232
def zu:Go.Shelf.Ren:=⟨fun |10=>178 |6=>125 |n=>n,fun |22=>22 |23=>3 |25=>155 |3=>3 |4=>4 |0=>0 |n=>n,fun |n=>n⟩
def U3:Go.Proofs.SlLaysH.n10 aj zu where
  mixed:=by rfl
  f6:=⟨ "slices.IndexFunc[[]int,int]",by decide,Tryz.func125.trans (ξ some (by rfl))⟩
  f10:=⟨ "slices.DeleteFunc[[]int,int]",by decide,Tryz.func178.trans (ξ some (by rfl))⟩
  t0:=underlying0
  a0:=isAgg0
  z0:=sizeOf0
  v0:=zeroValue0
  t3:=bG
  a3:=isAgg3
  z3:=sizeOf3
  v3:=zeroValue3
  t4:=dL
  a4:=isAgg4
  z4:=sizeOf4
  v4:=zeroValue4
  t22:=underlying22
  a22:=isAgg22
  z22:=sizeOf22
  v22:=zeroValue22
  a23:=isAgg3
  z23:=sizeOf3
  t25:=underlying155
  a25:=isAgg155
  z25:=sizeOf155
  v25:=zeroValue155
theorem Ce{w:ω}{b off:Nat}{l:List Int}(h:fE aq7 w (some ⟨b,off,none⟩) l)(j:Nat)(H:j<l.length):w.cell? ⟨b,off+j,none⟩=some (l.getD j 0:Int):=by
 obtain⟨J,K,e,_,hc⟩:=h.get (aI H);obtain⟨q1,q2⟩:b=J/\off=K:=by simpa using e
 subst q1;subst q2;have:=hc 0 (.int .i64 l[j]) rfl;rw[show aq7.k=1 from rfl,Nat.mul_one,bI]at this;rw[this,bH,aI H];rfl
theorem U4: ∀ {l:List Int} {a:Int},kD a l=true->l.Pairwise (· <= ·)/\ ∀x∈l,a<x/\x<=15:=by intro l;induction l with|nil=>simp|cons n l K=>intro a h;rw[kD]at h;simp only[bM,decide_eq_true_eq]at h;obtain⟨H,M⟩:=K h.2;refine⟨List.Pairwise.cons (λx J=>by grind) H,λx J=>?_⟩;grind
theorem anm(A:Option δ)(n c:Nat)(l:List Int)(x:Int)(w:ω)(K:fE aq7 w A l)(hn:l.length=n)(O:n<=1000)(N:l.Pairwise (· <= ·)):Γ aj 176 #[.slice A n c,x] w λe w'=>e=.returned (.tuple #[(Hg l x:Int),.bool (l.contains x)])/\w w':=by cases l with|nil=>subst hn;exact(Any.slices_BinarySearch_int_empty Pd.Y5 A c x w).mono λe w' ⟨H,J⟩=>⟨H,J▸aH _ _⟩|cons y l=>obtain⟨b,off,e,_,_⟩:=K.get (i:=0) (x:=y) rfl;subst e;have:=Any.slices_BinarySearch_int Pd.Y5 b off n c (y::l) x w (by omega) (by omega) (λj M=>Ce K j M) (by rw[<-hn,List.take_length];exact N);refine this.mono λe w' ⟨H,q,J⟩=>⟨?_,by rw[J];exact aq3 gY q⟩;rw[H,<-hn,List.take_length];rfl
theorem BJ{w:ω}{base g c:Nat}{l:List Int}{cur:Array Θ}(J:fK w g 3 cur)(N:base<=g)(hc:cur.size=c)(M:l.length<=c)(hm:c<=μ)(K: ∀j,j<l.length->cur[j]? =some (l.getD j 0:Int)):aq1 aq7 3 w base g c l:=by
 refine⟨by rw[aq7.flat_length],.inr ⟨g,c,cur,rfl,N,J,M,hm,by rw[hc];exact(Nat.mul_one c).symm,?_⟩⟩;apply List.ext_getElem?;intro j;rw[adl];by_cases H:j<l.length;.rw[dG (by rw[show aq7.k=1 from rfl,Nat.mul_one];exact H),Array.getElem?_toList,K j H,bW,aI H,bH,aI H];rfl
 .rw[dQ (by rw[dX,show aq7.k=1 from rfl];omega),dQ (by simp;omega)]
theorem Y6(l:List Int)(i:Nat)(x:Int)(hi:i<=l.length):(l.take i++x::l.drop i).length=l.length+1:=by grind
theorem FV(l:List Int)(i:Nat)(x:Int)(hi:i<=l.length)(j:Nat)(H:j<l.length+1):(l.take i++x::l.drop i).getD j 0=if j<i then l.getD j 0 else if j=i then x else l.getD (j-1) 0:=by grind
def QN (base:Nat) (A:Option δ) (w:ω) (l:List Int) (e:ε) (w':ω):Prop:= ∃A' c',e=.returned (.slice A' l.length c')/\aq1 aq7 3 w' base A' c' l/\w.grownBy w' (A.map (·.block))/\(A'.map (·.block)=A.map (·.block)\/A'.map (·.block)=some w.heap.size)
def OG{w:ω}{g:Nat}{t:τ}{cs:Array Θ}(h:fK w g t cs):w.shape? g=some (t,cs.size):=by unfold fK at h;simp[World.shape?,h]
theorem ano(base:Nat)(A:Option δ)(n c:Nat)(l:List Int)(i:Nat)(x:Int)(V:Nat)(w:ω)(U:aq1 aq7 3 w base A c l)(hn:l.length=n)(hl:n<=1000)(hi:i<=n)(hv:fK w V 3 #[x])(aM:A.map (·.block)≠some V)(au:base<=w.heap.size):Γ aj 177 #[.slice A n c,i,.slice V 1 1] w (QN base A w (l.take i++x::l.drop i)):=by
 have ag:=U.cap;have ak:(l.take i++x::l.drop i).length=n+1:=by rw[Y6 l i x (by omega),hn]
 have am: ∀b off,A=some ⟨b,off,none⟩-> ∀j v,(l.map λn=>Value.int .i64 n)[j]? =some v->w.cell? ⟨b,off+j,none⟩=some v:=by
  intro b off e j v H;subst e;have aq:j<l.length:=by have:=(aX.1 H).1;simpa using this
  rw[Ce U.rows j aq,bH,aI aq];rw[bW,aI aq]at H;exact H
 have al: ∀(j:Nat) v,([Value.int .i64 x]:List Θ)[j]? =some v->w.cell? ⟨V,0+j,none⟩=some v:=by intro j v H;rw[aJ,hv.cell,<-Array.getElem?_toList];exact H
 have ar: ∀v∈(l.map λn=>Value.int .i64 n),v.oneCell'=true:=by intro v hv;simp only[List.mem_map]at hv;obtain⟨n,_,rfl⟩:=hv;rfl
 have af: ∀v∈([Value.int .i64 x]:List Θ),v.oneCell'=true:=by simp[aK]
 by_cases az:n+1<=c
 .obtain⟨g,cur,rfl,ap,Q,aD,_,_,a1⟩:=U.blk (by rintro rfl;rcases U.2 with⟨e,_⟩ |⟨g,cap,cur,e,_⟩;(.simp only[dV]at e;omega);.simp only[dV]at e;cases e.1);have ae:cur.size=c:=by rw[aD];exact Nat.mul_one c
  have aw: ∀j,j<n->cur[j]? =some (l.getD j 0:Int):=λj H=>by have:=Ce U.rows j (by omega);rwa [aJ,Q.cell]at this
  have aL:V≠g:=λe=>aM (by rw[e];rfl);by_cases an:i<n;.have:=Any2.slices_Insert_int_shift Pd.Jh g 0 n c i V 0 1 1 (l.map λn=>Value.int .i64 n) [x] w an (by decide) az (by have:=ag.2;unfold μ at this;omega) aL (by simpa using hn) rfl (am g 0 rfl) (λj H=>by rw[aJ,Q.cell,cO (by omega)];rfl) (λj _=>Q.frozen _) al ar af 3 3 1 cur.size (OG hv) (OG Q) (by omega) (hv.frozen _) (hv.frozen _);refine this.mono λe w' ⟨O,J⟩=>?_;(have hB:fK w' g 3 (arh (arh cur (0+(i+1)) ((l.map λn=>Value.int .i64 n).drop i)) (0+i) [x]):=by rw[J];exact fK.yE _ _ _ _ (fK.yE _ _ _ _ Q));obtain⟨s1,s2,s3,s4,s5⟩:=jX g ((l.map λn=>Value.int .i64 n).drop i) (0+(i+1)) w.drew;obtain⟨r1,Y,Z,r4,r5⟩:=jX g [x] (0+i) (w.drew.setCells g (0+(i+1)) ((l.map λn=>Value.int .i64 n).drop i));rw[<-J]at r1 Y Z r4 r5;refine⟨g,c,by rw[ak];exact O,BJ hB ap (by rw[lQ,lQ];exact ae) (by omega) ag.2 ?_,⟨Z.trans s3,r4.trans s4,r5.trans s5,by rw[r1,s1];exact aW _,λk _ N=>(Y k (λe=>N (by rw[e];rfl))).trans (s2 k (λe=>N (by rw[e];rfl)))⟩,.inl rfl⟩;intro j H;rw[FV l i x (by omega) j (by omega)];simp only[aJ];rw[tu _ _ _ _ (by rw[lQ,ae];simp;omega)];simp only[List.length_singleton];by_cases K:j=i;(.rw[Υ ⟨by omega,by omega⟩,Ξ (by omega),Υ K,K,Nat.sub_self];rfl);.rw[Ξ (by omega),tu _ _ _ _ (by simp[ae,hn];omega)];by_cases h4:j<i;(.rw[Ξ (by omega),Υ h4];exact aw j (by omega));.rw[Υ ⟨by omega,by simp;omega⟩,Ξ h4,Ξ K,List.getElem?_drop,show i+(j-(i+1))=j-1 by omega,bW,aI (by omega),bH,aI (by omega)];rfl
  ·(obtain rfl:i=n:=by omega);have:=Any2.slices_Insert_int_end_room Pd.Jh g 0 i c V 0 1 1 [x] w (by decide) az (by have:=ag.2;unfold μ at this;omega) rfl (λj H=>by rw[aJ,Q.cell,cO (by omega)];rfl) (λj _=>Q.frozen _) al af;refine this.mono λe w' ⟨O,J⟩=>?_;(have hB:fK w' g 3 (arh cur (0+i) [x]):=by rw[J];exact fK.yE _ _ _ _ Q);obtain⟨r1,Y,Z,r4,r5⟩:=jX g [x] (0+i) w;rw[<-J]at r1 Y Z r4 r5;refine⟨g,c,by rw[ak];exact O,BJ hB ap (by rw[lQ];exact ae) (by omega) ag.2 ?_,⟨Z,r4,r5,by rw[r1];exact aW _,λk _ N=>Y k (λe=>N (by rw[e];rfl))⟩,.inl rfl⟩;intro j H;rw[FV l i x (by omega) j (by omega)];simp only[aJ];rw[tu _ _ _ _ (by rw[ae];simp;omega)];simp only[List.length_singleton];by_cases K:j=i;(.rw[Υ ⟨by omega,by omega⟩,Ξ (by omega),Υ K,K,Nat.sub_self];rfl);.rw[Ξ (by omega),Υ (by omega)];exact aw j (by omega)
 .have av:c<n+1:=by omega
  have ax:=grownCap_ge w (n+1) c 3;have ai:grownCap w (n+1) c 3<=μ:=grownCap_le_maxLen w (n+1) c 3 (by unfold μ;omega);by_cases an:i<n;.obtain⟨g,cur,rfl,ap,Q,aD,_,_,a1⟩:=U.blk (U.some_ (by omega));have:=Any2.slices_Insert_int_grow Pd.Jh g 0 n c i V 0 1 1 (l.map λn=>Value.int .i64 n) [x] w an (by decide) (by omega) av (by omega) (by simpa using hn) rfl (am g 0 rfl) al ar af;refine this.mono λe w' ⟨O,J⟩=>?_;obtain⟨cc,ac⟩:=fD (grownCap w (n+1) c 3);have e3:Pd.BI.t 3=3:=rfl;rw[e3,<-ac]at O J;rw[<-ac]at ax ai;obtain⟨o,aa⟩: ∃o:Array Θ,o=((l.map λn=>Value.int .i64 n).take i).toArray++Builtin.zeroCells (Value.int .i64 0).cells (n+1-i)++Builtin.zeroCells (Value.int .i64 0).cells (cc-(n+1)):=⟨_,rfl⟩;(have ad:o.size=cc:=by rw[aa];simp[Builtin.zeroCells,aS];omega);(have aR: ∀j,j<i->o[j]? =some (l.getD j 0:Int):=by intro j H;rw[aa,Array.append_assoc,dS (by simp;omega)];simp only[List.getElem?_toArray];rw[dG H,bW,aI (by omega),bH,aI (by omega)];rfl);rw[<-aa]at J;have aE:fK (w.alloc (.cells o 3)).drew w 3 o:=fK.new w 3 o;(have hB:fK w' w 3 (arh (arh o i [x]) (i+1) ((l.map λn=>Value.int .i64 n).drop i)):=by rw[J];exact fK.yE _ _ _ _ (fK.yE _ _ _ _ aE));(have M:w w':=by obtain⟨s1,s2,s3,s4,s5⟩:=jX w [x] i (w.alloc (.cells o 3)).drew;obtain⟨r1,Y,Z,r4,r5⟩:=jX w ((l.map λn=>Value.int .i64 n).drop i) (i+1) ((w.alloc (.cells o 3)).drew.setCells w i [x]).drew;rw[<-J]at r1 Y Z r4 r5;have h0:w (w.alloc (.cells o 3)):=gY.alloc ig _;exact⟨Z.trans (s3.trans h0.os),r4.trans (s4.trans h0.tape),r5.trans (s5.trans h0.output),by rw[r1];show w.heap.size<=((w.alloc (.cells o 3)).drew.setCells w i [x]).heap.size;rw[s1];exact h0.size,λk N=>(Y k (by omega)).trans ((s2 k (by omega)).trans (h0.block k N))⟩);refine⟨w,cc,by rw[ak];exact O,BJ hB au (by rw[lQ,lQ];exact ad) (by omega) ai ?_,⟨M.os,M.tape,M.output,M.size,λk N _=>M.block k N⟩,.inr rfl⟩;intro j H;rw[FV l i x (by omega) j (by omega)];rw[tu _ _ _ _ (by rw[lQ,ad];simp;omega)];by_cases h4:i<j;(.rw[Υ ⟨by omega,by simp;omega⟩,Ξ (by omega),Ξ (by omega),List.getElem?_drop,show i+(j-(i+1))=j-1 by omega,bW,aI (by omega),bH,aI (by omega)];rfl);.rw[Ξ (by omega),tu _ _ _ _ (by rw[ad];simp;omega)];simp only[List.length_singleton];by_cases K:j=i;(.rw[Υ ⟨by omega,by omega⟩,Ξ (by omega),Υ K,K,Nat.sub_self];rfl);.rw[Ξ (by omega),Υ (by omega)];exact aR j (by omega)
  .obtain rfl:i=n:=by omega
   have := Any2.slices_Insert_int_end_grow Pd.Jh A i c V 0 1 1 (l.map λn=> Value.int .i64 n) [x] w (by decide) (by omega) av (by omega) (by simpa using hn) rfl (by
       rintro rfl
       rcases U.2 with⟨e,h0⟩ |⟨g,cap,cur,e,_⟩
       ·
         omega
       ·
         simp only[dV]at e;cases e.1) (λa ea j v H=>by
       obtain⟨g,cur,eA,_⟩:=U.blk (by rw[ea];simp)
       rw[eA]at ea
       injection ea with ea
       rw[<-ea]
       rw[Addr.add_lit]
       exact am g 0 eA j v H) al af
   refine this.mono λe w' ⟨O,J⟩=>?_;obtain⟨cc,ac⟩:=fD (grownCap w (i+1) c 3);have e3:Pd.BI.t 3=3:=rfl;rw[e3,<-ac]at O J;rw[<-ac]at ax ai;obtain⟨o,aa⟩: ∃o:Array Θ,o=((l.map λn=>Value.int .i64 n)++ [Value.int .i64 x]).toArray++Builtin.zeroCells (Value.int .i64 0).cells (cc-(i+1)):=⟨_,rfl⟩;(have ad:o.size=cc:=by rw[aa];simp[Builtin.zeroCells,aS];omega);rw[<-aa]at J;(have hB:fK w' w 3 o:=by rw[J];exact fK.new w.drew 3 o);(have M:w w':=by rw[J];exact(aq3 gY 1).alloc ig _);refine⟨w,cc,by rw[ak];exact O,BJ hB au ad (by omega) ai ?_,⟨M.os,M.tape,M.output,M.size,λk N _=>M.block k N⟩,.inr rfl⟩;intro j H;rw[FV l i x (by omega) j (by omega),aa,dS (by simp;omega)];simp only[List.getElem?_toArray];by_cases K:j=i;(.rw[Ξ (by omega),Υ K,List.getElem?_append_right (by simp;omega)];simp[K,hn]);.rw[Υ (by omega),dP (by simp;omega),bW,aI (by omega),bH,aI (by omega)];rfl
def U5: ∀args w,(ϕ 179 args).run aj w=.ok (.enter 179 args) w:=enters_of func179 (by rfl) rfl
def Y7(x J:Int)(b3 K M H cv:Nat)(W:ω)(O:W.cell? ⟨b3,4,none⟩=some (.slice (some ⟨K,M,none⟩) H cv))(N:0<H)(Q:W.cell? ⟨K,M,none⟩=some J):FnGives aj 179 #[.pointer b3] #[x] (.bool (x==J)) W:=by show Γ aj 179 #[x,.pointer b3] W _;go_enter func179,ntmps179;go_wp2_with fail;go_ret;exact⟨rfl,0,rfl⟩
def Ji (base:Nat) (A:Option δ) (w:ω) (l:List Int) (e:ε) (w':ω):Prop:= ∃c',e=.returned (.slice A l.length c')/\aq1 aq7 3 w' base A c' l/\w.grownBy w' (A.map (·.block))
open Go.Lib Go.Sort in
theorem XU{w:ω}{g:Nat}{t:τ}{cur:Array Θ}(h:fK w g t cur)(d:Array Int):fK (putRow (Value.int .i64) w g 0 d) g t (putCells (Value.int .i64) 0 d cur)/\ ∀k,k≠g->(putRow (Value.int .i64) w g 0 d).heap[k]? =w.heap[k]? :=by
 unfold fK at*;constructor;.simp[putRow,mapBlock,Array.getElem?_modify,h,onCells]
 .intro k H;simp[putRow,mapBlock,Array.getElem?_modify,Ne.symm H]
open Go.Lib Go.Sort in
theorem anp(base:Nat)(A:Option δ)(n c:Nat)(l:List Int)(w:ω)(Q:aq1 aq7 3 w base A c l)(hn:l.length=n)(hl:n<=1000)(H:Int)(b3 J N U cv:Nat)(h3:w.cell? ⟨b3,4,none⟩=some (.slice (some ⟨J,N,none⟩) U cv))(Z:0<U)(ac:w.cell? ⟨J,N,none⟩=some H)(aa:b3<w.heap.size)(ag:J<w.heap.size)(av:A.map (·.block)≠some b3)(aw:A.map (·.block)≠some J):Γ aj 178 #[.slice A n c,.func (.func 179) #[] #[.pointer b3]] w (Ji base A w (l.filter λx=> !(x==H))):=by
 have hp:PredAt aj 179 #[.pointer b3] (Value.int .i64) (λx=>x==H) w:=λW x M=>Y7 x H b3 J N U cv W ((M.cell (p:=⟨b3,4,none⟩) aa).trans h3) Z ((M.cell (p:=⟨J,N,none⟩) ag).trans ac);cases A with
 |none=>
  have ap:l= []:=by rcases Q.2 with⟨_,h0⟩ |⟨g,cap,cur,e,_⟩;(.exact dh.1 h0);.simp only[dV]at e;cases e.1
  subst ap;subst hn;have ae:=AnyE.slices_IndexFunc_empty (P:=aj) (ρ:=zu) {U3 with} none c (.func (.func 179) #[] #[.pointer b3]) w;have ei:zu.f 6=125:=rfl;rw[ei]at ae;have hz:([]:List Int).length=0:=rfl;rw[hz];have ai:c=0:=by rcases Q.2 with⟨e,_⟩ |⟨g,cap,cur,e,_⟩;(.simp only[dV]at e;exact e.2.2);.simp only[dV]at e;cases e.1
  subst ai;have al:Ji base none w ([].filter λx=> !(x==H)) (.returned nS) w:=⟨0,rfl,aq1.nil _ _,⟨rfl,rfl,rfl,aW _,λ_ _ _=>rfl⟩⟩;generalize Ji base none w ([].filter λx=> !(x==H))=PP at*;go_enter func178,ntmps178;go_wp2_with((with_reducible refine ae.mono ?_);rintro e w1⟨rfl,hw⟩;obtain rfl:=hw.symm);exact al
 |some a=>
  obtain⟨g,cur,e,ar,M,az,aq,ak,_⟩:=Q.blk (by simp);injection e with e;subst e;have aD:cur.size=c:=by rw[az];exact Nat.mul_one c
  have am:b3≠g:=λe=>av (by rw[e];rfl);have an:J≠g:=λe=>aw (by rw[e];rfl);have ax:PredOver aj 179 #[.pointer b3] (Value.int .i64) (λx=>x==H) g 0 l.toArray.size w:=λk os dk x _=>by(have key: ∀(b i:Nat),b<w.heap.size->b≠g->(sortWorld (Value.int .i64) w g 0 k dk os).cell? ⟨b,i,none⟩=w.cell? ⟨b,i,none⟩:=by intro b i au Y;unfold sortWorld;rw[cell?_grow _ _ _ (by show b<(putRow _ _ _ _ _).heap.size;rw[size_putRow];exact au),cell?_putRow_other _ _ g 0 _ _ (Or.inl Y)];rfl);exact Y7 x H b3 J N U cv _ ((key _ _ aa am).trans h3) Z ((key _ _ ag an).trans ac)
  have hH:Holds (Value.int .i64) w g 0 l.toArray:=λj O=>by(have af:j<l.length:=by simpa using O);refine⟨?_,M.frozen _⟩;rw[Ce Q.rows j af];simp[bH,af,getElem!_pos]
  have:=AnyE.slices_DeleteFunc U3 (Value.int .i64) (λ_=>rfl) (λx=>x==H) 179 #[.pointer b3] U5 0 zeroValue3 g 0 c l.toArray w hp ax hH (by simp;omega) (by simpa using aq);have ez:l.toArray.size=n:=by simpa using hn
  rw[ez]at this;refine this.mono λe w' ⟨V,q,K⟩=>?_;obtain⟨r,hr⟩: ∃r,r=l.filter λx=> !(x==H):=⟨_,rfl⟩;have aL:r.length<=n:=by rw[hr,<-hn];exact List.length_filter_le _ _
  simp only at V K;rw[<-hr]at V K |-;obtain⟨hB,hk⟩:=XU (w:=Go.Sort.ahead w q) (t:=3) (cur:=cur) M (r++eH (n-r.length) 0).toArray;rw[<-K]at hB hk;have aE:(putCells (Value.int .i64) 0 (r++eH (n-r.length) 0).toArray cur).size=c:=by unfold putCells;rw[Array.size_mapIdx];exact aD
  have ad:(r++eH (n-r.length) (0:Int)).toArray.size=n:=by simp;omega
  refine⟨c,V,BJ hB ar aE (by omega) ak ?_,⟨by rw[K];rfl,by rw[K];rfl,by rw[K];rfl,by rw[K,size_putRow];exact aW _,λk _ Y=>hk k (λe=>Y (by rw[e];rfl))⟩⟩;intro j O;unfold putCells;rw[Array.getElem?_mapIdx,cO (by omega)];simp only[eF];rw[Υ ⟨aV _,by rw[aJ,ad];omega⟩,Nat.sub_zero];rw[getElem!_pos _ j (by rw[ad];omega)];simp only[List.getElem_toArray];rw[List.getElem_append_left O,bH,aI O];rfl
end
def Ec(c:Cp)(q:P7):(nM c q).x=c.x:=by unfold nM;split <;> rfl
def Ho(c:Cp)(q:P7):(nM c q).out.length<=c.out.length+1:=by unfold nM;split <;> simp[Cp.say]
def akQ{last:Int}(h: -1<=last): -1<=Z5 last now:=by unfold Z5;omega
def vI{now:Int}{c:Cp}{id:Int}{v:List Int}(h: -1<=c.x.last): -1<=(nY now c id v).1.x.last:=by
 unfold nY;split;.exact h
 split;.exact h
 split;.exact h
 split;.exact h
 .show -1<=(nM _ _).x.last;rw[Ec];exact akQ h
def yA{now:Int}{c:Cp}{id:Int}{v:List Int}:(nY now c id v).1.out.length<=c.out.length+1:=by
 unfold nY;split;.simp
 split;.simp
 split;.simp
 split;.simp
 .exact Ho _ _
structure IX (w0 W:ω) (Bq g:Nat) (t:Tp) (tm:jl) (now:Int) (s:Cs) (m:Ms) (a:Vx) (Bm:Nat):Prop where
  tp:jE w0 t tm
  tab:Tab w0
  st:iJ w0 Bq g tm now s W
  ms:uP W Bm m a
  vr: ∀p∈m.p,∀x∈p.v,0<=x/\x<=4294967295
  lo: ∀k,zO g s k->k<Bm
  ol:s.out.length<=60
  la: -1<=s.x.last
theorem uP.below(h:uP w B m a)(H:w w'):uP w' B m a:=by obtain⟨xs,J,K⟩:=h.p;exact {h with v:=h.v.below H,p:=⟨xs,J.below H,rH.ji K (jV.of_below H (λ_=>False)) (λ_ h=>h.elim)⟩}
def IX.below(h:IX w0 W Bq g t tm now s m a Bm)(H:W W'):IX w0 W' Bq g t tm now s m a Bm:={h with st:=h.st.grow H,ms:=h.ms.below H}
theorem Ls(M:Tab w0)(h:iJ w0 Bq g tm now s W)(id x:Int)(O:s.out.length<=90)(N: -1<=s.x.last):Γ aj 61 #[.pointer g,id,.slice W 1 1] (W.alloc (.cells #[x] 3)) (iK w0 Bq g tm now s W (nY now s.plain id [x])):=by have H:W (W.alloc (.cells #[x] 3)):=gY.alloc ig _;exact(UN M (h.grow H) id [x] W 1 1 (BP (fK.new _ _ _)) rfl ig (by simp) O N).mono λe w' ⟨J,K⟩=>⟨J,pY.trans (iw.of_below H) K⟩
theorem akR(M:Tab w0)(h:iJ w0 Bq g tm now s W)(id x y:Int)(O:s.out.length<=90)(N: -1<=s.x.last):Γ aj 61 #[.pointer g,id,.slice W 2 2] (W.alloc (.cells #[x,y] 3)) (iK w0 Bq g tm now s W (nY now s.plain id [x,y])):=by have H:W (W.alloc (.cells #[x,y] 3)):=gY.alloc ig _;exact(UN M (h.grow H) id [x,y] W 2 2 (DZ [x,y] (fK.new _ _ _)) rfl ig (by simp) O N).mono λe w' ⟨J,K⟩=>⟨J,pY.trans (iw.of_below H) K⟩
def aeQ(H:Tab w0)(h:iJ w0 Bq g tm now s W)(id:Int)(K:s.out.length<=90)(J: -1<=s.x.last):Γ aj 61 #[.pointer g,id,nS] W (iK w0 Bq g tm now s W (nY now s.plain id [])):=UN H h id [] none 0 0 (fE.nil _ _) rfl ig (aV _) K J
theorem ahg(h:IX w0 W Bq g t tm now s m a Bm)(hm:m.id=3):Γ aj 121 #[.pointer g,oC m a] W (nT w0 Bq g tm now s W (kT t now s.plain m)):=by
 obtain⟨R,M⟩:=fD (kT t now s.plain m);rw[<-M];have V:=ah M;have J:Own W _ [_]:=Own.jD W 196 (oC m a);obtain⟨W1,K⟩:=fD (W.alloc (.cells (oC m a) 196));have N:W W1:=by rw[K];exact J.below
 rw[<-K]at J;have H:=h.below N;have O:=J.b0.cell;obtain⟨id,Q⟩:=fD m.id;have aa:=O 0;rw[show(oC m a)[0]? =some (.int .i64 id) by rw[Q];rfl]at aa;have U:=ah Q;clear O;have ad:(id==32)=false:=by rw[U.out,hm];rfl
 have t3:(id==3)=true:=by rw[U.out,hm];rfl
 have Z:Hid (R=FQ t now s.plain m):=ah (by rw[V.out];unfold kT;rw[Ξ (by rw[hm];decide),Υ hm]);have ac:=akP H.tp H.tab H.st m a Bm H.ms H.vr;go_enter func121,ntmps121;go_upto_region 1 with fail;rw[<-K];clear K;go_wp2_with(first|((with_reducible refine gK J ?_ _ rfl rfl _ underlying196 rfl (by kernel_rfl) ?_);(.first|rfl))|((with_reducible refine ac.mono ?_);rintro fU fJ⟨rfl,Y⟩));go_end0;rw[Z.out];exact⟨rfl,pY.trans (iw.of_below N) Y⟩
theorem QO(J:s2.plain=F)(H:F.out=s.plain.out)(h:s.out.length<=60):s2.out.length<=90:=by
 have e:s2.plain.out=s.plain.out:=by grind
 have e2:s2.out=s.out:=e;grind
theorem QS(J:s2.plain=F)(H:F.x.last=s.plain.x.last)(h: -1<=s.x.last): -1<=s2.x.last:=by
 have e:s2.plain.x.last=s.plain.x.last:=by grind
 have e2:s2.x.last=s.x.last:=e;omega
def zy{t:Tp}{c:Cp}{m:Ms}:(oW t c m).1.x.last=c.x.last/\(oW t c m).1.out=c.out:=by
 unfold oW;split;.simp
 split;.simp
 split;.simp
 split;.simp
 .exact⟨rfl,rfl⟩
def Ed:(Bo t c m).1.x.last=c.x.last/\(Bo t c m).1.out=c.out:=by
 unfold Bo;split;.simp
 split;.simp
 split;.exact⟨rfl,rfl⟩
 .exact⟨rfl,rfl⟩
theorem aeR(h:IX w0 W Bq g t tm now s m a Bm)(hm:m.id=39):Γ aj 121 #[.pointer g,oC m a] W (nT w0 Bq g tm now s W (kT t now s.plain m)):=by
 obtain⟨R,N⟩:=fD (kT t now s.plain m);rw[<-N];have Y:=ah N;have K:Own W _ [_]:=Own.jD W 196 (oC m a);obtain⟨W1,J⟩:=fD (W.alloc (.cells (oC m a) 196));have O:W W1:=by rw[J];exact K.below
 rw[<-J]at K;have M:=h.below O;have Q:=K.b0.cell;obtain⟨id,U⟩:=fD m.id;have ac:=Q 0;rw[show(oC m a)[0]? =some (.int .i64 id) by rw[U];rfl]at ac;have H:=ah U;clear Q;have ag:(id==32)=false:=by rw[H.out,hm];rfl
 have t3:(id==3)=false:=by rw[H.out,hm];rfl
 have t9:(id==9)=false:=by rw[H.out,hm];rfl
 have ad:(id==15)=false:=by rw[H.out,hm];rfl
 have ae:(id==16)=false:=by rw[H.out,hm];rfl
 have af:(id==18)=false:=by rw[H.out,hm];rfl
 have ai:(id==39)=true:=by rw[H.out,hm];rfl
 have aa:Hid (R=(QJ s.plain 0).1):=ah (by rw[Y.out];unfold kT;simp only[hm];rfl);have V:=aiy M.st 0 (aG M.ol (by decide));rw[show q8 0=.int .u8 0 from rfl]at V;go_enter func121,ntmps121;go_upto_region 1 with fail;rw[<-J];clear J;go_wp2_with((with_reducible refine V.mono ?_);rintro e w2⟨rfl,Z⟩);go_end0;rw[aa.out];exact⟨rfl,pY.trans (iw.of_below O) Z⟩
theorem ahh(h:IX w0 W Bq g t tm now s m a Bm)(hm:m.id≠32/\m.id≠3/\m.id≠9/\m.id≠15/\m.id≠16/\m.id≠18/\m.id≠39):Γ aj 121 #[.pointer g,oC m a] W (nT w0 Bq g tm now s W (kT t now s.plain m)):=by
 obtain⟨R,N⟩:=fD (kT t now s.plain m);rw[<-N];have U:=ah N;have J:Own W _ [_]:=Own.jD W 196 (oC m a);obtain⟨W1,H⟩:=fD (W.alloc (.cells (oC m a) 196));have Y:W W1:=by rw[H];exact J.below
 rw[<-H]at J;have O:=J.b0.cell;obtain⟨id,Q⟩:=fD m.id;have Z:=O 0;rw[show(oC m a)[0]? =some (.int .i64 id) by rw[Q];rfl]at Z;clear O;obtain⟨q1,q2,q3,q4,q5,K,M⟩:=hm;have V:Hid (R=s.plain):=ah (by rw[U.out];unfold kT;rw[Ξ q1,Ξ q2,Ξ q3,Ξ q4,Ξ q5,Ξ K,Ξ M]);rw[<-Q]at q1 q2 q3 q4 q5 K M;have ae:(id==32)=false:=by simpa using q1
 have t3:(id==3)=false:=by simpa using q2
 have t9:(id==9)=false:=by simpa using q3
 have aa:(id==15)=false:=by simpa using q4
 have ac:(id==16)=false:=by simpa using q5
 have ad:(id==18)=false:=by simpa using K
 have af:(id==39)=false:=by simpa using M
 go_enter func121,ntmps121;go_upto_region 1 with fail;rw[<-H];clear H;go_wp2_with fail;go_end0;rw[V.out];exact nT.same h.st Y rfl
theorem ahi(h:IX w0 W Bq g t tm now s m a Bm)(hm:m.id=9):Γ aj 121 #[.pointer g,oC m a] W (nT w0 Bq g tm now s W (kT t now s.plain m)):=by
 obtain⟨R,Z⟩:=fD (kT t now s.plain m);rw[<-Z];have HR:=ah Z;have K:Own W _ [_]:=Own.jD W 196 (oC m a);obtain⟨W1,O⟩:=fD (W.alloc (.cells (oC m a) 196));have ad:W W1:=by rw[O];exact K.below
 rw[<-O]at K;have H:=h.below ad;have J:=ah H;have hx:=h.st.beside K.b0 ig;have ae:=K.b0.cell;obtain⟨id,aa⟩:=fD m.id;have ai:=ae 0;rw[show(oC m a)[0]? =some (.int .i64 id) by rw[aa];rfl]at ai;have zN:=ah aa;clear ae;have ak:(id==32)=false:=by rw[zN.out,hm];rfl
 have t3:(id==3)=false:=by rw[zN.out,hm];rfl
 have t9:(id==9)=true:=by rw[zN.out,hm];rfl
 obtain⟨b,hb⟩:=fD ((oW t s.plain m).2);have ag:Hid (R=(nY now (oW t s.plain m).1 (if b then 137 else 138) [m.t]).1):=ah (by rw[HR.out,hb];unfold kT;rw[Ξ (by rw[hm];decide),Ξ (by rw[hm];decide),Υ hm]);have U:=aa0 H.tp H.tab H.st m a Bm H.ms H.vr;unfold yx at U;rw[<-hb]at U;have e1:(oC m a)[1]? =some (.int .i64 m.t):=rfl;have af:= @zy t s.plain m;have N:=ah af;clear Z aa hm H h hb af;go_enter func121,ntmps121;go_upto_region 1 with fail;rw[<-O];clear O;rcases b with _ |_;focus(go_wp2_with(first|((with_reducible refine gK K ?_ _ rfl rfl _ underlying196 rfl (by kernel_rfl) ?_);(.first|rfl))|((with_reducible refine U.mono ?_);rintro Y V⟨rfl,iG,jQ,Q,M⟩;have uK:=((hx.turn Q).blk.cell 1).trans e1;have ac:=Ls J.out.tab jQ 138 m.t (QO M N.out.2 J.out.ol) (QS M N.out.1 J.out.la))|((with_reducible refine ac.mono ?_);rintro Y V⟨rfl,hP⟩)))
 rotate_left;focus(go_wp2_with(first|((with_reducible refine gK K ?_ _ rfl rfl _ underlying196 rfl (by kernel_rfl) ?_);(.first|rfl))|((with_reducible refine U.mono ?_);rintro Y V⟨rfl,iG,jQ,Q,M⟩;have uK:=((hx.turn Q).blk.cell 1).trans e1;have ac:=Ls J.out.tab jQ 137 m.t (QO M N.out.2 J.out.ol) (QS M N.out.1 J.out.la))|((with_reducible refine ac.mono ?_);rintro Y V⟨rfl,hP⟩)))
 all_goals(go_end0;rw[ag.out,<-M];exact⟨rfl,pY.trans ((iw.of_below ad).trans Q) hP⟩)
def aeS{id:Int}{v:List Int}(M:s2.plain=(nY now s.plain id v).1)(h:s.out.length<=60)(K: -1<=s.x.last):s2.out.length<=61/\ -1<=s2.x.last:=by have H:= @yA now s.plain id v;have J:= @vI now s.plain id v K;rw[<-M]at H J;have e1:s2.plain.out.length<=s.out.length+1:=H;have e2:s2.out.length<=s.out.length+1:=e1;exact⟨by omega,J⟩
theorem iJ.U6{J:ω}(h:iJ w0 Bq g tm now s W){A2:Option δ}{c2:Nat}(Y:aq1 aq7 3 J Bq A2 c2 l)(M:W.grownBy J (s.m.A3.map (·.block)))(hn:rU W s.m.A3 A2)(n:Nat)(ad:n=l.length)(hl:n<=100):iJ w0 Bq g tm now (s.lT l A2 n c2) (J.setCell ⟨g,51,none⟩ (.slice A2 n c2))/\iw g s (s.lT l A2 n c2) W (J.setCell ⟨g,51,none⟩ (.slice A2 n c2)):=by
 have K:=h.tr;have ae:s.m.A3.map (·.block)≠some g:=ard K.stops h.blk (by decide);have V:fK J g 87 (s.cells tm now):=h.blk.grown M (λe=>ae e.symm);have Z: ∀k,k≠g->(J.setCell ⟨g,51,none⟩ (.slice A2 n c2)).heap[k]? =J.heap[k]? :=λk H=>aN J ⟨g,51,none⟩ _ k H;have N:jV (λk=>k=g\/s.m.A3.map (·.block)=some k) W (J.setCell ⟨g,51,none⟩ (.slice A2 n c2)):=⟨M.os,M.tape,M.output,by simpa[dD] using M.size,λk H O=>(Z k (λe=>O (.inl e))).trans (M.block k H (λe=>O (.inr e.symm)))⟩;have U:jV (zO g s) W (J.setCell ⟨g,51,none⟩ (.slice A2 n c2)):=N.mono (λk H=>by
  rcases H with e |e;.exact .inl e
  .exact .inr (.inl e))
 have aa:iw g s (s.lT l A2 n c2) W (J.setCell ⟨g,51,none⟩ (.slice A2 n c2)):=⟨U,hn,rU.refl _ _⟩;have ac:w0 (J.setCell ⟨g,51,none⟩ (.slice A2 n c2)):=h.below.trans (U.below h.below.size h.amT);have hc:fK (J.setCell ⟨g,51,none⟩ (.slice A2 n c2)) g 87 ((s.lT l A2 n c2).cells tm now):=by have:=V.iV 51 (.slice A2 n c2);assumption
 obtain⟨xs,Q,af,hi⟩:=h.out.row;refine⟨⟨⟨ac,λy hy=>?_,by simp⟩,{K with path:=K.path.ji N ?_,fP:=K.fP.ji N ?_,stops:=?_,e3:=ad.symm,l3:=hl},⟨xs,Q.ji N ?_,af,λi x b hx hb=>(hi i x b hx hb).turn aa⟩,h.lo,aG h.hi N.size⟩,aa⟩;.simp only[dN]at hy;subst hy;exact⟨h.agM,hc⟩
 .rintro k H (e |e);.exact ard K.path h.blk (by decide) (by grind)
  .exact oQ K.path K.stops (by decide) k H e
 .rintro k H (e |e);.exact ard K.fP h.blk (by decide) (by grind)
  .exact oQ K.fP K.stops (by decide) k H e
 .exact aq1.ji (D:=λk=>k=g) Y ⟨rfl,rfl,rfl,by simp,λk _ O=>Z k O⟩ (λk H e=>ard Y V (by decide) (by subst e;exact H))
 .rintro k H (e |e);.exact ard Q h.blk (by decide) (by grind)
  .exact oQ K.stops Q (by decide) k e H
theorem aeT(h:IX w0 W Bq g t tm now s m a Bm)(hm:m.id=32)(Y:0<m.v.length):Γ aj 121 #[.pointer g,oC m a] W (nT w0 Bq g tm now s W (kT t now s.plain m)):=by
 obtain⟨R,O⟩:=fD (kT t now s.plain m);rw[<-O];have HR:=ah O;have hO:Own W _ [_]:=Own.jD W 196 (oC m a);obtain⟨W1,K⟩:=fD (W.alloc (.cells (oC m a) 196));have aa:W W1:=by rw[K];exact hO.below
 rw[<-K]at hO;have M:=h.below aa;have HD:=ah M;have ac:=hO.b0.cell;obtain⟨id,U⟩:=fD m.id;have ap:=ac 0;have ag:=ac 4;rw[show(oC m a)[0]? =some (.int .i64 id) by rw[U];rfl]at ap;rw[show(oC m a)[4]? =some (.slice a.Av m.v.length a.cv) from rfl]at ag;have zN:=ah U;clear ac;obtain⟨H,vr,V⟩: ∃H vr,m.v=H::vr:=by cases V:m.v with|nil=>rw[V]at Y;exact absurd Y (by decide)|cons x l=>exact⟨x,l,rfl⟩
 obtain⟨vb,vo,eV,ax,ai⟩:=(M.ms.v.rows).get (i:=0) (x:=H) (by rw[V];rfl);have aq:=ai 0 (.int .i64 H) rfl;simp only[Nat.zero_mul,bI]at aq;obtain⟨nv,LP⟩:=fD m.v.length;rw[eV,<-LP]at ag;have aw:0<nv:=by rw[LP];exact Y
 have ad:m.v.headD 0=H:=by rw[V];rfl
 clear ai LP Y;have az:(id==32)=true:=by rw[zN.out,hm];rfl
 have ae:iw g s s W W1:=iw.of_below aa;have N:=M.st;have hC:=N.own;have am:=ah (aG h.ol (by decide:60<=90));have Q:Hid (R=if H=16 then(nY now (nY now (s.plain.su true) 159 []).1 157 [1]).1 else s.plain):=ah (by rw[HR.out];unfold kT;rw[Υ hm,ad]);by_cases J:H=16
 .have e0:(H==16)=true:=by simpa using J
  have Z:Hid (R=(nY now (nY now (s.plain.su true) 159 []).1 157 [1]).1):=ah (by rw[Q.out];exact Υ J);have an:=ah h.ol;have af:=ah h.la;clear O U hm M h ad J eV Q;go_enter func121,ntmps121;go_upto_region 1 with fail;rw[<-K];clear K;go_wp2_with(first|(with_reducible refine jq 37 true hC rfl _ _ _ rfl rfl rfl (by kernel_rfl) (fA (by decide:37<54) (tK _ _ _).symm) rfl ?_;intro wR kN rW ar;rw[UC]at kN;obtain⟨al,vH⟩:=N.Ea kN rW ar ⟨rfl,rfl,rfl,rfl,rfl,rfl,rfl,rfl,rfl⟩;skip;replace ae:=iw.trans ae vH;clear hC;replace N:=al;clear al;have hC:=N.own)|(go_at_call 61;have fU:=aeQ HD.out.tab N 159 am.out af.out;(with_reducible refine fU.mono ?_);rintro fJ iG⟨rfl,jQ,uK,av,ak⟩;have sK:=aeS (s:=s.su true) ak an.out af.out;have au:=Ls HD.out.tab uK 157 1 (aG sK.1 (by decide)) sK.2)|((with_reducible refine au.mono ?_);rintro fU fJ⟨rfl,hP⟩));go_end0;rw[Z.out];rw[ak]at hP;exact⟨rfl,pY.trans (ae.trans av) hP⟩
 .have e0:(H==16)=false:=by simpa using J
  have Z:Hid (R=s.plain):=ah (by rw[Q.out];exact Ξ J);have HH:=ah h.st;clear O U hm M h ad J eV Q;go_enter func121,ntmps121;go_upto_region 1 with fail;rw[<-K];clear K;go_wp2_with fail;go_end0;rw[Z.out];exact nT.same HH.out aa rfl
theorem aeU(h:IX w0 W Bq g t tm now s m a Bm)(hm:m.id=18)(ai:0<m.v.length):Γ aj 121 #[.pointer (some ⟨g,0,none⟩),.agg (oC m a)] W (nT w0 Bq g tm now s W (kT t now s.plain m)):=by
 obtain⟨R,hR⟩:=fD (kT t now s.plain m);rw[<-hR];have HR:=ah hR;have M:Own W _ [_]:=Own.jD W 196 (oC m a);obtain⟨W1,N⟩:=fD (W.alloc (.cells (oC m a) 196));have ak:W W1:=by rw[N];exact M.below
 rw[<-N]at M;have h1:=h.below ak;have ad:=M.b0.cell;obtain⟨id,af⟩:=fD m.id;have az:=ad 0;have ac:=ad 4;rw[show(oC m a)[0]? =some (.int .i64 id) by rw[af];rfl]at az;rw[show(oC m a)[4]? =some (.slice a.Av m.v.length a.cv) from rfl]at ac;have J:=ah af;clear ad;obtain⟨H,vr,Z⟩: ∃H vr,m.v=H::vr:=by cases Z:m.v with|nil=>rw[Z]at ai;exact absurd ai (by decide)|cons x l=>exact⟨x,l,rfl⟩
 obtain⟨K,vo,eV,aR,aD⟩:=(h1.ms.v.rows).get (i:=0) (x:=H) (by rw[Z];rfl);have al:=aD 0 (.int .i64 H) rfl;simp only[Nat.zero_mul,bI]at al;obtain⟨nv,LP⟩:=fD m.v.length;rw[eV,<-LP]at ac;have ar:0<nv:=by rw[LP];exact ai
 have OH: ¬zO g s K:=λhd=>by have q1:=h.lo K hd;have q2:=(h1.ms.v.gJ K (by rw[eV];rfl)).1;omega
 have an:m.v.headD 0=H:=by rw[Z];rfl
 have a8:(id==32)=false:=by rw[J.out,hm];rfl
 have t3:(id==3)=false:=by rw[J.out,hm];rfl
 have t9:(id==9)=false:=by rw[J.out,hm];rfl
 have a5:(id==15)=false:=by rw[J.out,hm];rfl
 have a6:(id==16)=false:=by rw[J.out,hm];rfl
 have a7:(id==18)=true:=by rw[J.out,hm];rfl
 have V:=h1.st;have Y:=V.tr;have ae:=V.blk;obtain⟨n3,Q⟩:=fD s.m.n3;have aE:=(V.blk.cell 51).trans (show(s.cells tm now)[51]? =some (.slice s.m.A3 n3 s.m.c3) by rw[Q];rfl);have aL:n3<=100:=by rw[Q];exact Y.l3
 have e3:s.x.stops.length=n3:=by rw[Q];exact Y.e3
 have av:s.m.A3.map (·.block)≠some W.heap.size:=λe=>by have:=(h.st.tr.stops.gJ _ e).2;omega
 have aw:s.m.A3.map (·.block)≠some K:=λe=>OH (.inr (.inl e));have au:s.m.A3.map (·.block)≠some g:=ard Y.stops ae (by decide);have O:=anp Bq s.m.A3 n3 s.m.c3 s.x.stops W1 Y.stops e3 (by omega) H W K vo nv a.cv ac ar al M.b0.lt aR av aw;obtain⟨r,U⟩: ∃r,r=s.x.stops.filter λx=> !(x==H):=⟨_,rfl⟩;rw[<-U]at O;have ap:r.length<=n3:=by rw[U,<-e3];exact List.length_filter_le _ _
 obtain⟨nr,ag⟩:=fD r.length;unfold Ji at O;rw[<-ag]at O ap;have aq:=ah ag;have ax:Hid (R=s.plain.lT r):=ah (by rw[HR.out,U];unfold kT;simp only[hm,an];show s.plain.lT (s.x.stops.filter λn=>decide (n≠H))=_;congr 1;apply List.filter_congr;intro x _;by_cases hx:x=H <;> simp[hx]);have P6:Hid (nr<=100):=ah (by omega);clear hR af hm h an eV Q aL e3 U ap ag;go_enter func121,ntmps121;go_upto_region 1 with fail;rw[<-N];clear N;go_wp2_with((with_reducible refine O.mono ?_);rintro e w2⟨c2,rfl,aM,am⟩;have aa:=ae.grown am (λe=>au e.symm);have Tc:=aa.cell;have a1:=aa.frozen;have a4:=(aa.cell 51).trans (show(s.cells tm now)[51]? =some (.slice s.m.A3 n3 s.m.c3) from(ae.cell 51).symm.trans aE);clear Tc);go_end0;rw[ax.out];obtain⟨q1,q2⟩:=V.U6 aM am (rU.refl _ _) nr aq.out P6.out;exact⟨rfl,_,q1,(iw.of_below ak).trans q2,rfl⟩
def FW (D:Nat->Prop) (k i:Nat) (w w':ω):Prop:=jV D w w'/\(i≠k->w w')
def kV(D:Nat->Prop)(k i:Nat)(w:ω):FW D k i w w:=⟨jV.refl _ _,λ_=>aH _ _⟩
def Il(h:w w'):FW D k i w w':=⟨jV.of_below h _,λ_=>h⟩
def ahl (W1:ω) (k i:Nat) (w:ω):Prop:=i=k->W1 w
def OI(K:i≠j)(H:ahl W1 k i w)(M:FW D k j w w'):ahl W1 k i w':=λe=>(H e).trans ((M.2 (λJ=>K (e.trans J.symm))).mono (H e).size)
def aeV (w0:ω) (Bq g:Nat) (tm:jl) (now:Int) (s:Cs) (W1:ω) (n:Int) (F:Cp):Θ->ω->Prop:=fun v w=>v=.int .i64 n/\ ∃s',iJ w0 Bq g tm now s' w/\iw g s s' W1 w/\s'.plain=F
def aiA (x y:Int):Θ->ω->Prop:=fun v w=> ∃b,v=.slice (some ⟨b,0,none⟩) 2 2/\fK w b 3 #[.int .i64 x,.int .i64 y]
def aeV.below(h:aeV w0 Bq g tm now s W1 n F v w)(H:w w'):aeV w0 Bq g tm now s W1 n F v w':=by obtain⟨J,s',K,M,N⟩:=h;exact⟨J,s',K.grow H,M.trans (iw.of_below H),N⟩
def U7:mF ops (FW D k) k (gI k (aeV w0 Bq g tm now s W1 n F)):=λ_ H _ _ _ _ _ h J=>jy H h λ_ h=>h.below (J.2 H)
theorem U8{y:Int}(H:Dx ops k j=true):mF ops (FW D k) j (gI j (aiA x y)):=by intro i K J u v w w' h M;refine jy K h λ_ ⟨b,e,h⟩=>⟨b,e,h.below (M.2 (λe=>ug H (e▸J))) h.lt⟩
def Hq(h:w'.heap[b]? =w.heap[b]?)(i:Nat):w'.cell? ⟨b,i,none⟩=w.cell? ⟨b,i,none⟩:=by unfold World.cell?;simp only[h]
theorem aeW(h:IX w0 W Bq g t tm now s m a Bm)(hm:m.id=15)(h5:5<=m.v.length):Γ aj 121 #[.pointer (some ⟨g,0,none⟩),.agg (oC m a)] W (nT w0 Bq g tm now s W (kT t now s.plain m)):=by
 have ad:0<m.v.length:=by omega
 obtain⟨R,hR⟩:=fD (kT t now s.plain m);rw[<-hR];have HR:=ah hR;have Y:Own W _ [_]:=Own.jD W 196 (oC m a);obtain⟨W1,aa⟩:=fD (W.alloc (.cells (oC m a) 196));have am:W W1:=by rw[aa];exact Y.below
 rw[<-aa]at Y;have Q:=h.below am;have HD:=ah Q;have hx:=h.st.beside Y.b0 ig;have af:=Y.b0.cell;obtain⟨id,ai⟩:=fD m.id;have ax:=af 0;have ae:=af 4;rw[show(oC m a)[0]? =some (.int .i64 id) by rw[ai];rfl]at ax;rw[show(oC m a)[4]? =some (.slice a.Av m.v.length a.cv) from rfl]at ae;have zN:=ah ai;clear af;obtain⟨N,vr,hv⟩: ∃N vr,m.v=N::vr:=by cases hv:m.v with|nil=>rw[hv]at ad;exact absurd ad (by decide)|cons x l=>exact⟨x,l,rfl⟩
 obtain⟨Z,vo,eV,a5,an⟩:=(Q.ms.v.rows).get (i:=0) (x:=N) (by rw[hv];rfl);have ap:=an 0 (.int .i64 N) rfl;simp only[Nat.zero_mul,bI]at ap;obtain⟨nv,LP⟩:=fD m.v.length;rw[eV,<-LP]at ae;have a6:0<nv:=by rw[LP];exact ad
 have OH: ¬zO g s Z:=λH=>by have q1:=h.lo Z H;have q2:=(Q.ms.v.gJ Z (by rw[eV];rfl)).1;omega
 have aq:m.v.headD 0=N:=by rw[hv];rfl
 clear an LP ad;have a8:(id==32)=false:=by rw[zN.out,hm];rfl
 have t3:(id==3)=false:=by rw[zN.out,hm];rfl
 have t9:(id==9)=false:=by rw[zN.out,hm];rfl
 have a7:(id==15)=true:=by rw[zN.out,hm];rfl
 obtain⟨U,ag⟩:=fD ((Bo t s.plain m).2);obtain⟨V,ac⟩:=fD ((Bo t s.plain m).1);have av:Hid (R=(nY now V 147 [N,U]).1):=ah (by rw[HR.out,ag,ac];unfold kT;simp only[hm,aq];rfl);have az: ∀W',W1 W'->Γ aj 175 #[.pointer (some ⟨g,0,none⟩),.agg (oC m a)] W' λe w'=>e=.returned (.int .i64 U)/\ ∃s',iJ w0 Bq g tm now s' w'/\iw g s s' W' w'/\s'.plain=V:=λW' hb=>by have:=aeP Q.tp (Q.st.grow hb) m a ((Q.ms.v.rows).below hb) h5;refine this.mono λe w' ⟨q1,s',q2,q3,q4⟩=>?_;exact⟨by rw[ag];exact q1,s',q2,q3,by rw[ac];exact q4⟩
 have al:Hid (V.x.last=s.plain.x.last/\V.out=s.plain.out):=ah (by rw[ac];exact Ed);clear hR ai hm h aq h5 ag ac;go_enter func121,ntmps121;go_upto_region 1 with fail;rw[<-aa];clear aa;go_upto_region 14 with fail;apply gu (jV (zO g s)) (λW=>jV.drew _ W) (λ_ _ _ Q h2=>Q.trans h2) (FW (zO g s) 7) (λ_ _ _ h=>h.1) (λ_ _=>kV _ _ _ _) (ahl W1 7) (λ_ _=>aq3 gY 1) (λ_ _ _ _ aE hp ht=>OI aE hp ht);case lX=>intro u;simp only[bV,aq9,aP,ay,aA,aB,aT,aJ];with_reducible rfl
 case hm=>kernel_rfl
 case hB=>kernel_rfl
 case hA=>kernel_rfl
 case hap=>kernel_rfl
 iterate 2(apply fM.is;·(intro u w' M K H;clear K;simp[fO,aC,gI,Is]at H;refine fC ?_ ?_;(.first|rfl);intro O J;skip;go_wp2_with(fail);exact J _ _ (kV _ _ _ _) rfl))
 apply fM.is;·(intro u w' M K H;clear K;simp[fO,aC,gI,Is]at H;refine fC ?_ ?_;(.first|rfl);intro O J;have aD:=((hx.blk.ji M hx.off).cell 4).trans (show(oC m a)[4]? =some (.slice (some ⟨Z,vo,none⟩) nv a.cv) from(Y.b0.cell 4).symm.trans ae);go_wp2_with(fail);(try simp only[H]at J);exact J _ _ (kV _ _ _ _) rfl)
 apply fM.is;·(intro u w' M K H;clear K;simp[fO,aC,gI,Is]at H;refine fC ?_ ?_;(.first|rfl);intro O J;skip;go_wp2_with(fail);(try simp only[H]at J);exact J _ _ (kV _ _ _ _) rfl)
 apply fM.is;·(intro u w' M K H;clear K;simp[fO,aC,gI,Is]at H;refine fC ?_ ?_;(.first|rfl);intro O J;have aD:=(Hq (M.block Z a5 OH) vo).trans ap;go_wp2_with(fail);(try simp only[H]at J);exact J _ _ (kV _ _ _ _) rfl)
 apply fM.is;·(intro u w' M K H;clear K;simp[fO,aC,gI,Is]at H;refine fC ?_ ?_;(.first|rfl);intro O J;skip;go_wp2_with(fail);exact J _ _ (kV _ _ _ _) rfl)
 refine fM.is (c:=.agg (oC m a)) ?_ ?_;·(intro u w' M K H;refine fC (by first |rfl) ?_;intro O J;exact ι 196 _ rfl W rfl 196 _ (0,0) _ (hx.blk.ji M hx.off) underlying196 rfl (by kernel_rfl) (J _ _ (kV _ _ _ _) rfl))
 refine fM.one (aeV w0 Bq g tm now s W1 U V) ?_ ?_;·(intro u w' M K H;simp only[gQ]at H;have q5:=H ⟨5,.data⟩ (by simp) rfl _ rfl;have q6:=H ⟨6,.data⟩ (by simp) rfl _ rfl;simp only[gI,Is]at q5 q6;have ar:=K rfl;clear H K;refine fC (by first |rfl) ?_;intro O J;go_wp2_with((with_reducible refine(az _ ar).mono ?_);rintro e w3⟨rfl,s3,aR,au,aL⟩);(try simp only[q5,q6]at J);exact J _ _ ⟨au.gr,λq=>absurd rfl q⟩ ⟨rfl,s3,aR,(iw.of_below ar).trans au,aL⟩)
 refine fM.one (aiA N U) ?_ ?_;·(intro u w' M K H;simp only[gQ]at H;have q4:=H ⟨4,.data⟩ (by simp) rfl _ rfl;have q7:=H ⟨7,.data⟩ (by simp) rfl _ rfl;simp only[gI,Is]at q4;replace q7:=q7.1;clear H K;refine fC (by first |rfl) ?_;intro O J;go_wp2_with fail;(try simp only[q4,q7]at J);exact J _ _ (Il jm) ⟨w',rfl,fK.new _ _ _⟩)
 refine fM.last (qm ?_) ?_
 .simp only[gQ];repeat(refine⟨?_,?_⟩;.first|exact mQ _|exact U7|exact U8 (by kernel_rfl))
  exact trivial
 intro u w1 M _ H;simp only[gQ]at H;have q0:=H 0 _ rfl;obtain⟨_,s2,aM,a4,ak⟩:=H 7 _ rfl;obtain⟨b8,q8,aw⟩:=H 8 _ rfl;simp only[gI,Is]at q0;clear H;refine⟨by first |rfl |simp[aF,ψ],?_⟩;intro O J;have a1:=UN HD.out.tab aM 147 [N,U] (some ⟨b8,0,none⟩) 2 2 (DZ [N,U] aw) rfl ig (by simp) (QO ak al.out.2 HD.out.ol) (QS ak al.out.1 HD.out.la);simp only[q0,q8];go_wp2_with((with_reducible refine a1.mono ?_);rintro e w3⟨rfl,hP⟩);go_end0;rw[av.out,<-ak];exact⟨rfl,pY.trans ((iw.of_below am).trans a4) hP⟩
def aiB (A:Option δ) (x:Int):Θ->ω->Prop:=fun v w=> ∃b,v=.slice (some ⟨b,0,none⟩) 1 1/\fK w b 3 #[.int .i64 x]/\A.map (·.block)≠some b
def anq (Bq n:Nat) (A:Option δ) (nl:Nat) (l:List Int):Θ->ω->Prop:=fun v w=> ∃A' c',v=.slice A' nl c'/\aq1 aq7 3 w Bq A' c' l/\rU n A A'
def ahm (A:Option δ) (k:Nat):Prop:=A.map (·.block)=some k
theorem QT:mF ops (FW (ahm A) k) j (gI j (aiB A x)):=λ_ H _ _ _ _ _ h J=>jy H h λ_ ⟨b,e,h,hn⟩=>⟨b,e,h.ji J.1 hn,hn⟩
def U9{n N:Nat}:mF ops (FW (ahm A) k) k (gI k (anq Bq n A N l)):=λ_ H _ _ _ _ _ h M=>jy H h λ_ ⟨J,K,e,h,hn⟩=>⟨J,K,e,h.below (M.2 H),hn⟩
def akU(h:l.contains x=true):XJ l x=l:=by unfold XJ;exact Υ (by simpa using h)
def ahn(h:l.contains x=false):XJ l x=l.take (Hg l x)++x::l.drop (Hg l x):=by unfold XJ;exact Ξ (by simpa using h)
theorem aeX(h:IX w0 W Bq g t tm now s m a Bm)(hm:m.id=16)(ag:0<m.v.length)(zZ:kD (-1) s.x.stops=true)(cd:s.x.stops.length<=60):Γ aj 121 #[.pointer (some ⟨g,0,none⟩),.agg (oC m a)] W (nT w0 Bq g tm now s W (kT t now s.plain m)):=by
 obtain⟨R,hR⟩:=fD (kT t now s.plain m);rw[<-hR];have HR:=ah hR;have Z:Own W _ [_]:=Own.jD W 196 (oC m a);obtain⟨W1,ac⟩:=fD (W.alloc (.cells (oC m a) 196));have am:W W1:=by rw[ac];exact Z.below
 rw[<-ac]at Z;have Q:=h.below am;have HD:=ah Q;have hx:=h.st.beside Z.b0 ig;have ar:=Z.b0.cell;obtain⟨id,aw⟩:=fD m.id;have bR:=ar 0;have aq:=ar 4;rw[show(oC m a)[0]? =some (.int .i64 id) by rw[aw];rfl]at bR;rw[show(oC m a)[4]? =some (.slice a.Av m.v.length a.cv) from rfl]at aq;have zN:=ah aw;clear ar;obtain⟨M,vr,hv⟩: ∃M vr,m.v=M::vr:=by cases hv:m.v with|nil=>rw[hv]at ag;exact absurd ag (by decide)|cons x l=>exact⟨x,l,rfl⟩
 obtain⟨U,vo,eV,ai,bb⟩:=(Q.ms.v.rows).get (i:=0) (x:=M) (by rw[hv];rfl);have ad:=bb 0 (.int .i64 M) rfl;simp only[Nat.zero_mul,bI]at ad;obtain⟨nv,LP⟩:=fD m.v.length;rw[eV,<-LP]at aq;have ch:0<nv:=by rw[LP];exact ag
 have OH: ¬zO g s U:=λH=>by have q1:=h.lo U H;have q2:=(Q.ms.v.gJ U (by rw[eV];rfl)).1;omega
 have bd:m.v.headD 0=M:=by rw[hv];rfl
 clear bb LP ag;have cu:(id==32)=false:=by rw[zN.out,hm];rfl
 have t3:(id==3)=false:=by rw[zN.out,hm];rfl
 have t9:(id==9)=false:=by rw[zN.out,hm];rfl
 have cn:(id==15)=false:=by rw[zN.out,hm];rfl
 have ct:(id==16)=true:=by rw[zN.out,hm];rfl
 obtain⟨n3,aE⟩:=fD s.m.n3;have ba:(s.cells tm now)[51]? =some (.slice s.m.A3 n3 s.m.c3):=by rw[aE];rfl
 have e3:s.x.stops.length=n3:=by rw[aE];exact Q.st.tr.e3
 have ap:=λX (hX:W1 X)=>anm s.m.A3 n3 s.m.c3 s.x.stops M X ((Q.st.grow hX).tr.stops.rows) e3 (by omega) (U4 zZ).1;obtain⟨pl,af⟩:=fD (Hg s.x.stops M);obtain⟨th,aR⟩:=fD (s.x.stops.contains M);rw[<-af,<-aR]at ap;have a8:pl<=n3:=by rw[af,<-e3];exact List.countP_le_length
 obtain⟨l2,az⟩:=fD (XJ s.x.stops M);have HT:=ah aR;have bu:=ah af;have a1:=ah az;have ak:=ah e3;have a4:=ah a8;have a5:Hid (n3<=60):=ah (by omega);have bL:Hid (R=(nY now ((s.plain.lT l2).rQ (pJ (s.plain.lT l2).x)) 147 [M,2]).1):=ah (by rw[HR.out,az];unfold kT;simp only[hm,bd];rfl);have al:(oC m a)[4]? =some (.slice (some ⟨U,vo,none⟩) nv a.cv):=(Z.b0.cell 4).symm.trans aq;have Xj:=ah Z.b0.lt;clear hR aw hm h bd zZ cd aE e3 af aR a8 az eV;go_enter func121,ntmps121;go_upto_region 1 with fail;rw[<-ac];clear ac;go_upto_region 16 with fail;refine ara (by kernel_rfl) ?_;repeat(first|(apply gX.want rfl;(.intro w' J Y Q' K;have au:=(HD.out.st.grow J).blk.cell 51;rw[ba]at au;have bc:=((Z.b0.below J Xj.out).cell 4).trans al;have cm:=(J.cell (p:=⟨U,vo,none⟩) ai).trans ad;go_wp2_with(((with_reducible refine(ap _ J).mono ?_);rintro e w3⟨rfl,bN⟩));first|exact aH _ _|exact bN);(.simp only[aP,ay,aA,aB];rfl)))
 refine gX.nil ?_;intro w7 J;clear ap;have Qw:=J;have bi:=HD.out.st.grow Qw;have V:=ah bi;have bj:=hx.below Qw;have a7:=(Qw.cell (p:=⟨U,vo,none⟩) ai).trans ad;have a9:U<w7.heap.size:=aU ai Qw.size;clear bi;go_upto_if 72 with fail;go_cut [] from 73 (λW'=> ∃O,iJ w0 Bq g tm now O W'/\iw g s O w7 W'/\O.plain=s.plain.lT l2);case first=>
  cases th with
  |false=>(have hl:l2=s.x.stops.take pl++M::s.x.stops.drop pl:=by rw[a1.out,bu.out];exact ahn HT.out.symm);(have bh:l2.length=n3+1:=by rw[hl,Y6 _ _ _ (by rw[ak.out];exact a4.out),ak.out]);have bn:=ah bh;obtain⟨nl,aL⟩:=fD l2.length;have a6:s.m.A3.map (·.block)≠some g:=ard V.out.tr.stops V.out.blk (by decide);have bx:s.m.A3.map (·.block)≠some W.heap.size:=λe=>hx.off (.inr (.inl e));have bA:s.m.A3.map (·.block)≠some U:=λe=>OH (.inr (.inl e));(have bB: ∀b,w7.heap.size<=b->s.m.A3.map (·.block)≠some b:=λb hb e=>by have:=(V.out.tr.stops.gJ _ e).2;omega);(have ax: ∀W',w7 W'-> ∀b,fK W' b 3 #[.int .i64 M]->s.m.A3.map (·.block)≠some b->Γ aj 177 #[.slice s.m.A3 n3 s.m.c3,.int .i64 pl,.slice (some ⟨b,0,none⟩) 1 1] W' (QN Bq s.m.A3 W' l2):=λW' hb b an bX=>by have:=ano Bq s.m.A3 n3 s.m.c3 s.x.stops pl M b W' ((V.out.grow hb).tr.stops) ak.out (aG a5.out (by decide)) a4.out an bX (V.out.grow hb).hi;rwa [<-hl]at this);unfold QN at ax;rw[<-aL]at ax;have P6:=ah aL;clear hl bh aL J ad ai;go_upto_region 18 with fail;apply gu (jV (ahm s.m.A3)) (λW=>jV.drew _ W) (λ_ _ _ Q h2=>Q.trans h2) (FW (ahm s.m.A3) 12) (λ_ _ _ h=>h.1) (λ_ _=>kV _ _ _ _) (ahl w7 12) (λ_ _=>aq3 gY 1) (λ_ _ _ _ bS hp ht=>OI bS hp ht);(case lX=>intro u;simp only[bV,aq9,aP,ay,aA,aB,aT,aJ];with_reducible rfl);(case hm=>kernel_rfl);(case hB=>kernel_rfl);(case hA=>kernel_rfl);(case hap=>kernel_rfl);(iterate 10(first|(apply fM.is;·(intro u w' J N H;clear N;simp[fO,aC,gI,Is]at H;refine fC ?_ ?_;(.first|rfl);intro Y K;have au:=(V.out.blk.ji J a6).cell 51;rw[ba]at au;go_wp2_with(fail);(try simp only[H]at K);exact K _ _ (kV _ _ _ _) rfl))|(apply fM.is;·(intro u w' J N H;clear N;simp[fO,aC,gI,Is]at H;refine fC ?_ ?_;(.first|rfl);intro Y K;have bc:=((bj.blk.ji J bx).cell 4).trans al;go_wp2_with(fail);(try simp only[H]at K);exact K _ _ (kV _ _ _ _) rfl))|(apply fM.is;·(intro u w' J N H;clear N;simp[fO,aC,gI,Is]at H;refine fC ?_ ?_;(.first|rfl);intro Y K;skip;go_wp2_with(fail);(try simp only[H]at K);exact K _ _ (kV _ _ _ _) rfl))));apply fM.is;(·(intro u w' J N H;clear N;simp[fO,aC,gI,Is]at H;refine fC ?_ ?_;(.first|rfl);intro Y K;have bc:=(Hq (J.block U a9 bA) vo).trans a7;go_wp2_with(fail);(try simp only[H]at K);exact K _ _ (kV _ _ _ _) rfl));refine fM.one (aiB s.m.A3 M) ?_ ?_;(·(intro u w' J N H;simp only[gQ]at H;have q4:=H ⟨10,.data⟩ (by simp) rfl _ rfl;simp only[gI,Is]at q4;clear H N;refine fC (by first |rfl) ?_;intro Y K;go_wp2_with fail;(try simp only[q4]at K);exact K _ _ (Il jm) ⟨w',rfl,fK.new _ _ _,bB _ J.size⟩));refine fM.one (anq Bq w7 s.m.A3 nl l2) ?_ ?_;(·(intro u w' J N H;simp only[gQ]at H;have q5:=H ⟨5,.data⟩ (by simp) rfl _ rfl;have q6:=H ⟨6,.data⟩ (by simp) rfl _ rfl;obtain⟨b,cg,an,bO⟩:=H ⟨11,.data⟩ (by simp) rfl _ rfl;simp only[gI,Is]at q5 q6;have ca:=N rfl;clear H N;refine fC (by first |rfl) ?_;intro Y K;go_wp2_with((with_reducible refine(ax _ ca b an bO).mono ?_);rintro e w3⟨A2,c2,rfl,aM,av,aD⟩);(try simp only[q5,q6,cg]at K);refine K _ _ ⟨jV.kJ av (λk e=>e),λq=>absurd rfl q⟩ ⟨A2,c2,rfl,aM,λk e=>?_⟩;rcases aD with q |q;(.exact .inl (by rw[<-q];exact e));.rw[q]at e;injection e with e;have:=J.size;exact .inr (by omega)));(iterate 3(apply fM.is;·(intro u w' J N H;clear N;simp[fO,aC,gI,Is]at H;refine fC ?_ ?_;(.first|rfl);intro Y K;skip;go_wp2_with(fail);(try simp only[H]at K);exact K _ _ (kV _ _ _ _) rfl)));refine fM.last (qm ?_) ?_;(.simp only[gQ];(repeat(refine⟨?_,?_⟩;.first|exact mQ _|exact QT|exact U9));exact trivial);intro u w1 J _ H;simp only[gQ]at H;obtain⟨A2,c2,bE,aM,aD⟩:=H 12 _ rfl;have bk:=H 15 _ rfl;simp only[gI,Is]at bk;clear H;refine⟨by first |rfl |simp[aF,ψ],?_⟩;intro Y K;have av:w7.grownBy w1 (s.m.A3.map (·.block)):=⟨J.os,J.tape,J.output,J.size,λk Q h2=>J.block k Q (λe=>h2 e.symm)⟩;have bw:=V.out.blk.ji J a6;refine Ij 22 _ _ rfl g 51 (by rw[<-bk];rfl) (.slice A2 nl c2) (by rw[<-bE];rfl) 87 _ bw (fA (by decide:51<54) (tK _ _ _).symm) (by kernel_rfl) rfl (K _ _ ?_);obtain⟨r1,r2⟩:=V.out.U6 aM av aD nl P6.out (by have Q:=P6.out;have h2:=bn.out;have h3:=a5.out;omega);go_wp2_with fail;go_meet;exact⟨_,r1,r2,rfl⟩
  |true=>have hl:l2=s.x.stops:=a1.out.trans (akU HT.out.symm);go_wp2_with fail;go_meet;exact⟨s,V.out,iw.of_below gY,by rw[hl];rfl⟩
 case rest=>
  obtain⟨O,hs,aa,ae⟩:=hcut;have bq:=ah ae;have bo:=ah (QO ae rfl HD.out.ol);have bm:=ah (QS ae rfl HD.out.la);have hC:=hs.own;clear ae;go_wp2_with(first|(with_reducible refine qO hC 4 (jf O.x O.m) (oU _ _ _) rfl _ _ rfl rfl _ bg rfl (iF _ _) ?_)|((with_reducible refine(Hl O.x O.m _).mono ?_);rintro e fU⟨rfl,fJ⟩;replace hs:=hs.grow fJ;clear hC;have hC:=hs.own;replace aa:=aa.trans (iw.of_below fJ))|(refine ni 4 (jf (pJ O.x) (Bz O.m)) hC rfl _ _ _ rfl rfl rfl (iF _ _) (QD _ _ _ _ _) (lM _ _) ?_;intro wR kN rW bf;rw[ad9]at kN;obtain⟨cc,vH⟩:=hs.drop kN rW bf;clear kN rW bf;replace aa:=aa.trans vH;have ci:=((bj.turn aa).blk.cell 4).trans al;have UL:=(Hq (aa.gr.block U a9 OH) vo).trans a7;have cf:=akR HD.out.tab cc 147 M 2 bo.out bm.out)|((with_reducible refine cf.mono ?_);rintro e w3⟨rfl,hP⟩));go_end0;rw[bL.out];have ep:(O.rQ (pJ O.x) (Bz O.m)).plain=(s.plain.lT l2).rQ (pJ (s.plain.lT l2).x):=by rw[<-bq.out];rfl
  rw[ep]at hP;exact⟨rfl,pY.trans ((iw.of_below (am.trans (Qw.mono am.size))).trans aa) hP⟩
def aeZ(h:IX w0 W Bq g t tm now s m a Bm)(H:m.v.length=(nG m.id).1.length)(Q:kD (-1) s.x.stops=true)(O:s.x.stops.length<=60):Γ aj 121 #[.pointer g,oC m a] W (nT w0 Bq g tm now s W (kT t now s.plain m)):=by
 obtain⟨f1,M,f3,N⟩:=ahr;by_cases q1:m.id=32;.exact aeT h q1 (by rw[H,q1,f1];decide)
 by_cases q2:m.id=3;.exact ahg h q2
 by_cases q3:m.id=9;.exact ahi h q3
 by_cases q4:m.id=15;.exact aeW h q4 (by rw[H,q4];exact N)
 by_cases q5:m.id=16;.exact aeX h q5 (by rw[H,q5,M];decide) Q O
 by_cases J:m.id=18;.exact aeU h J (by rw[H,J,f3];decide)
 by_cases K:m.id=39;.exact aeR h K
 exact ahh h ⟨q1,q2,q3,q4,q5,J,K⟩
def Vd (B i:Nat) (w w':ω):Prop:=Below B w w'/\w w'
def oZ(B i:Nat)(w:ω):Vd B i w w:=⟨aH _ _,aH _ _⟩
def Ve(hB:B<=w.heap.size)(h:w w'):Vd B i w w':=⟨h.mono hB,h⟩
def akX (bs:List UInt8) (er:Int):Θ->ω->Prop:=fun v w=> ∃A c,v=.tuple #[.slice A bs.length c,.int .i64 er]/\aq2 w A c bs
def akY (bs:List UInt8):Θ->ω->Prop:=fun v w=> ∃A c,v=.slice A bs.length c/\aq2 w A c bs
theorem Vf:mF ops (Vd B) j (gI j (akX bs er)):=λ_ H _ _ _ _ _ h J=>jy H h λ_ ⟨A,c,e,h⟩=>⟨A,c,e,h.below J.2⟩
theorem Vg:mF ops (Vd B) j (gI j (akY bs)):=λ_ H _ _ _ _ _ h J=>jy H h λ_ ⟨A,c,e,h⟩=>⟨A,c,e,h.below J.2⟩
def aa1(h:jw c.peer q 5≠0):Bv t now c q=(c,jw c.peer q 5):=Υ h
def ae0(h:jw c.peer q 5=0)(H:arN q.body=.error er):Bv t now c q=(c,er):=by unfold Bv;rw[Ξ (λq=>q h),H]
def ahs(h:jw c.peer q 5=0)(H:arN q.body=.ok m):Bv t now c q=if PW m.id=true then(c,1) else if Dl c.x.sl c.x.sa c.x.sb c.x.free m.t (now*8)=110/\m.ack=1/\m.t=c.x.sl then(UM now c m,0) else if Dl c.x.sl c.x.sa c.x.sb c.x.free m.t (now*8)≠0 then(c,Dl c.x.sl c.x.sa c.x.sb c.x.free m.t (now*8)) else(if m.ack=1 then UM now (kT t now (c.nV m.t c.x.sa c.x.sb false) m) m else kT t now (c.nV m.t c.x.sa c.x.sb false) m,0):=by unfold Bv;rw[Ξ (λq=>q h),H]
def Io:(FQ t now c m).x.last=c.x.last/\(FQ t now c m).out=c.out:=by
 unfold FQ;split;.exact⟨rfl,rfl⟩
 split;.exact⟨rfl,rfl⟩
 split;.exact⟨rfl,rfl⟩
 split;.exact⟨rfl,rfl⟩
 split;.exact⟨rfl,rfl⟩
 .exact⟨rfl,rfl⟩
def OL(h: -1<=c.x.last): -1<=(kT t now c m).x.last/\(kT t now c m).out.length<=c.out.length+2:=by
 unfold kT;split
 .split;.exact⟨vI (vI h),aG yA (Nat.succ_le_succ yA)⟩
  .exact⟨h,by omega⟩
 split;.rw[Io.1,Io.2];exact⟨h,by omega⟩
 split;.refine⟨vI (by rw[zy.1];exact h),aG yA ?_⟩;rw[zy.2];omega
 split;.refine⟨vI (by rw[Ed.1];exact h),aG yA ?_⟩;rw[Ed.2];omega
 split;.exact⟨vI (by exact h),aG yA (by exact ϗ _)⟩
 split;.exact⟨h,by exact Nat.le_add_right _ _⟩
 split
 .unfold QJ;split;.exact⟨h,by exact Nat.le_add_right _ _⟩
  .refine⟨?_,aG (Ho _ _) (by exact ϗ _)⟩;show -1<=(nM _ _).x.last;rw[Ec];exact h
 .exact⟨h,by omega⟩
def aht(J:s5.plain=kT t now c m)(H: -1<=c.x.last)(K:c.out.length<=60):s5.out.length<=90:=by
 have e:s5.plain.out.length<=c.out.length+2:=by rw[J];exact(OL H).2
 have e2:s5.plain.out=s5.out:=rfl;rw[e2]at e;omega
def ahu(J:s5.plain=kT t now c m)(H: -1<=c.x.last): -1<=s5.x.last:=by
 have e: -1<=s5.plain.x.last:=by rw[J];exact(OL H).1
 exact e
def ae1(m:Ms)(a:Vx):(oC m a).all (·.oneCell')=true:=by simp[oC,aK]
theorem akZ(U0:jE w0 t tm)(hT:Tab w0)(h:iJ w0 Bq g tm now s W)(q:P7)(A:Option δ)(n c:Nat)(hn:q.body.length=n)(hB:aq2 W A c q.body)(cC:q.body.length<=2000)(hz:0<W.heap.size)(cd:s.out.length<=50)(cc: -1<=s.x.last)(zZ:kD (-1) s.x.stops=true)(cH:s.x.stops.length<=60)(cU:0<=now)(cV:now<=268435456):Γ aj 63 #[.pointer (some ⟨g,0,none⟩),.agg (jT q A n c)] W (iK w0 Bq g tm now s W (Bv t now s.plain q)):=by
 obtain⟨R,hR⟩:=fD (Bv t now s.plain q);rw[<-hR];have HR:=ah hR;have HH:=ah h;have hO:Own W _ [_]:=Own.jD W 136 (jT q A n c);obtain⟨W1,bu⟩:=fD (W.alloc (.cells (jT q A n c) 136));have bw:W W1:=by rw[bu];exact hO.below
 rw[<-bu]at hO;have H1:=ah (h.grow bw);have cy:=hB.below bw;obtain⟨te,ci⟩:=fD (jw s.plain.peer q 5);obtain⟨bs,bX⟩:=fD (ar5 s.plain.peer q);have cI: ∀X,W1 X->Γ aj 117 #[.agg (gB s.plain.peer),.agg (jT q A n c)] X λe w'=> ∃v,e=.returned (.tuple #[v,.int .i64 te])/\jG bs v w'/\X w':=λX hX=>by rw[ci,bX];exact ad6 s.plain.peer q A n c X hn (cy.below hX) cC
 have bi:=ah ci;have cN:=ah bX;clear hR ci bX hn hB cy;go_enter func63,ntmps63;go_upto_region 1 with fail;rw[<-bu];clear bu;apply gu (Below W1) (λW=>aq3 gY 1) (λ_ _ _ M Q=>M.trans Q) (Vd W1) (λ_ _ _ h=>h.1) (λ_ _=>oZ _ _ _) (λ_ _=>True) (λ_=>trivial) (λ_ _ _ _ _ _ _=>trivial);case lX=>intro u;simp only[bV,aq9,aP,ay,aA,aB,aT,aJ];with_reducible rfl
 case hm=>kernel_rfl
 case hB=>kernel_rfl
 case hA=>kernel_rfl
 case hap=>kernel_rfl
 iterate 4(apply fM.is;·(intro u w' J Z H;simp[fO,aC,gI,Is]at H;refine fC ?_ ?_;(.first|rfl);intro N K;skip;go_wp2_with(fail);(try simp only[H]at K);exact K _ _ (oZ _ _ _) rfl))
 refine fM.is (c:=.agg (gB s.plain.peer)) ?_ ?_;·(intro u w' J Z H;simp[fO,aC,gI,Is]at H;refine fC (by first |rfl) ?_;intro N K;exact wC ((H1.out.grow J).own) 15 _ (pG _ _ _) _ _ rfl (by rw[<-H];rfl) _ bD rfl (iD _) (K _ _ (oZ _ _ _) rfl))
 refine fM.is (c:=.agg (jT q A n c)) ?_ ?_;·(intro u w' J Z H;refine fC (by first |rfl) ?_;intro N K;exact ι 136 _ rfl W rfl 136 _ (0,0) _ (hO.b0.below J hO.b0.lt) bF rfl (kS _ _ _ _) (K _ _ (oZ _ _ _) rfl))
 refine fM.one (akX bs te) ?_ ?_;·(intro u w' J Z H;simp only[gQ]at H;have q4:=H ⟨4,.data⟩ (by simp) rfl _ rfl;have q5:=H ⟨5,.data⟩ (by simp) rfl _ rfl;simp only[gI,Is]at q4 q5;clear H;refine fC (by first |rfl) ?_;intro N K;go_wp2_with((with_reducible refine(cI _ J).mono ?_);rintro e w3⟨v3,rfl,⟨A3,c3,rfl,ac⟩,U⟩);(try simp only[q4,q5]at K);exact K _ _ (Ve J.size U) ⟨A3,c3,rfl,ac⟩)
 refine fM.one (akX bs te) ?_ ?_;·(intro u w' J Z H;simp only[gQ]at H;obtain⟨A3,c3,q6,ac⟩:=H ⟨6,.data⟩ (by simp) rfl _ rfl;clear H;refine fC (by first |rfl) ?_;intro N K;go_wp2_with fail;(try simp only[q6]at K);exact K _ _ (oZ _ _ _) ⟨A3,c3,rfl,ac⟩)
 refine fM.one (akY bs) ?_ ?_;·(intro u w' J Z H;simp only[gQ]at H;obtain⟨A3,c3,q7,ac⟩:=H ⟨7,.data⟩ (by simp) rfl _ rfl;clear H;refine fC (by first |rfl |simp[aF,ψ]) ?_;intro N K;go_wp2_with fail;(try simp only[q7]at K);exact K _ _ (oZ _ _ _) ⟨A3,c3,rfl,ac⟩)
 refine fM.is (c:=.int .i64 te) ?_ ?_;·(intro u w' J Z H;simp only[gQ]at H;obtain⟨A3,c3,q7,ac⟩:=H ⟨7,.data⟩ (by simp) rfl _ rfl;clear H;refine fC (by first |rfl |simp[aF,ψ]) ?_;intro N K;go_wp2_with fail;(try simp only[q7]at K);exact K _ _ (oZ _ _ _) rfl)
 refine fM.one (akY bs) ?_ ?_;·(intro u w' J Z H;simp only[gQ]at H;obtain⟨A3,c3,q8,ac⟩:=H ⟨8,.data⟩ (by simp) rfl _ rfl;clear H;refine fC (by first |rfl |simp[aF,ψ]) ?_;intro N K;go_wp2_with fail;(try simp only[q8]at K);exact K _ _ (oZ _ _ _) ⟨A3,c3,rfl,ac⟩)
 refine fM.last (qm ?_) ?_
 .simp only[gQ];repeat(refine⟨?_,?_⟩;.first|exact mQ _|exact Vf|exact Vg)
  exact trivial
 intro u w1 J _ H;simp only[gQ]at H;obtain⟨A3,c3,cM,ac⟩:=H 10 _ rfl;have q9:=H 9 _ rfl;simp only[gI,Is]at q9;clear H;refine⟨by first |rfl |simp[aF,ψ],?_⟩;intro N K;simp only[q9,cM];clear q9 cM cI;have ae:W w1:=bw.trans (J.mono bw.size);by_cases h0:te=0;focus(
  have e0:(te != 0)=false:=by simpa using h0
  have cR:bs=q.body:=by rw[cN.out];unfold ar5;exact Υ (by rw[<-bi.out];exact h0)
  have cu:Hid (jw s.plain.peer q 5=0):=ah (by rw[<-bi.out];exact h0);subst cR;have af:=amO q.body A3 c3 w1 ((hT.below h.below).below ae) (aU hz ae.size) ac cC;obtain⟨nb,cF⟩:=fD q.body.length;rw[<-cF]at af |-;clear h0 cF hz;go_upto_region 4 with fail;rcases H:arN q.body with er |m;.rw[H]at af;have ai:Hid (R=(s.plain,er)):=ah (by rw[HR.out];exact ae0 cu.out H);(have cS:(er != 0)=true:=by simpa using ahp H);unfold ajx at af;simp only at af;clear H;go_wp2_with((with_reducible refine af.mono ?_);rintro e w2⟨au,rfl⟩);go_ret;rw[ai.out];exact iK.same HH.out (ae.trans ((au.alloc au.size _).mono ae.size)) rfl
  focus(
   rw[H]at af;have ai:Hid (R=_):=ah (HR.out.trans (ahs cu.out H));have cD:=ahq H;unfold ajx at af;simp only at af;clear H;have bL:=λW=>Tn m.id W;obtain⟨up,MG⟩:=fD (PW m.id);rw[<-MG]at bL ai;have bf:=ah cD;clear MG cD;(go_upto_region 5 with(first|((with_reducible refine af.mono ?_);rintro e w2⟨au,a,rfl,cE⟩;have QL:=Own.jD w2 196 gk;have cm:=ah cE)|(with_reducible refine oG (oC m a) QL rfl _ _ rfl rfl rfl (by kernel_rfl) (by kernel_rfl) (ae1 m a) ?_;intro wR kN rW av;replace QL:=kN;clear kN rW av)));have a7:W wR:=ae.trans ((au.trans (QL.below.mono au.size)).mono ae.size);have bO:=cm.out.below QL.below;have bN:arz wR g s w2 196 (oC m a):=HH.out.beside QL.b0 (aG ae.size au.size);have a1:Hid (∀k,zO g s k->k<w1.heap.size):=ah (λk J=>(HH.out.grow ae).akt k J);obtain⟨cx,cA⟩:=fD w2.heap.size;obtain⟨bl,cz⟩:=fD w1.heap.size;rw[<-cA]at bN |-;rw[<-cz]at bO a1;have cP:(oC m a)[0]? =some (.int .i64 m.id):=rfl;have ag:(oC m a)[1]? =some (.int .i64 m.t):=rfl;have ap:(oC m a)[2]? =some (.int .i64 m.ack):=rfl;have cT:=(bN.blk.cell 0).trans cP;clear af QL cA cz J au cm cE;rcases up with _ |_;focus(
    have Dp:=ah (ai.out.trans (Ξ (by decide)));clear ai;(go_upto_region 9 with((with_reducible refine(bL _).mono ?_);rintro e w3⟨rfl,U⟩));have Vw:W w3:=a7.trans (U.mono a7.size);have aE:=bN.below U;have bR:=bO.below U;have bh:=ah (HH.out.grow Vw);have aM:(s.cells tm now)[32]? =some (.int .i64 s.x.sl):=rfl;have bm:(s.cells tm now)[33]? =some (.int .i64 s.x.sa):=rfl;have bn:(s.cells tm now)[34]? =some (.int .i64 s.x.sb):=rfl;have bo:(s.cells tm now)[35]? =some (.bool s.x.free):=rfl;have bq:(s.cells tm now)[52]? =some (.int .i64 now):=rfl;have ax:=λX=>agE s.x.sl s.x.sa s.x.sb s.x.free m.t (now*8) X;obtain⟨V,bB⟩:=fD (Dl s.x.sl s.x.sa s.x.sb s.x.free m.t (now*8));(have cJ:ase s.x.sl s.x.sa s.x.sb s.x.free m.t (now*8)=if V=0 then #[.int .i64 m.t,.int .i64 s.x.sa,.int .i64 s.x.sb,.bool false] else gv:=by rw[bB];rfl);rw[<-bB,cJ]at ax;have ad:Hid (R=if V=110/\m.ack=1/\m.t=s.x.sl then(UM now s.plain m,0) else if V≠0 then(s.plain,V) else(if m.ack=1 then UM now (kT t now (s.plain.nV m.t s.x.sa s.x.sb false) m) m else kT t now (s.plain.nV m.t s.x.sa s.x.sb false) m,0)):=ah (by rw[Dp.out,bB];rfl);clear Dp bB cJ bL bN bO;by_cases bd:V=0
    .subst bd;simp only[if_true]at ax;replace ad:=ah (ad.out.trans ((Ξ (by rintro⟨h,_⟩;exact absurd h (by decide))).trans (Ξ (λh=>h rfl))));apply gu (Below w3) (λW=>aq3 gY 1) (λ_ _ _ M Q=>M.trans Q) (vN w3 17) (λ_ _ _ h=>h.1) (λ_ _=>iR _ _ _ _) (λ_ _=>True) (λ_=>trivial) (λ_ _ _ _ _ _ _=>trivial);(case lX=>intro u;simp only[bV,aq9,aP,ay,aA,aB,aT,aJ];rfl);(case hm=>kernel_rfl);(case hB=>kernel_rfl);(case hA=>kernel_rfl);case hap=>kernel_rfl
     repeat(first
        |(apply fM.is
          ·
            (intro u w' J Z H
             simp[fO,aC,gI,Is]at H
             refine fC ?_ ?_
             ·
               first
               |rfl
               |(simp[aF,ψ,H];done)
             intro N K
             have Y:=(bh.out.grow J).blk.cell;have y2:=(Y 32).trans aM;have y3:=(Y 33).trans bm;have y4:=(Y 34).trans bn;have y5:=(Y 35).trans bo;have y6:=(Y 52).trans bq;clear Y;have y7:=((aE.below J).blk.cell 1).trans ag
             go_wp2_with (((with_reducible refine(ax _).mono ?_);rintro e w4⟨rfl,U⟩))
             try simp only[H]at K
             refine K _ _ ?_ rfl
             first |exact iR _ _ _ _ |exact kM J.size U (by decide)))
        |(refine fM.one (pV w3 36 (#[.int .i64 0, .int .i64 0, .int .i64 0, .bool false] : Array Θ).size) ?_ ?_
          ·
            (intro u w' J Z H
             clear H
             refine fC ?_ ?_
             ·
               first
               |rfl
               |(simp[aF,ψ];done)
             intro N K
             go_wp2_with fail
             exact K _ _ (kM J.size jm (by decide)) ⟨w',_,rfl,J.size,fK.new w' 36 (gv:Array Θ),rfl⟩))
        |(refine fM.word (CU w3 16 36 (#[.int .i64 m.t, .int .i64 s.x.sa, .int .i64 s.x.sb, .bool false])) ?_ ?_
          ·
            (intro u w' J Z H
             simp[fO,aC,gI,Is]at H
             obtain⟨⟨g,cs,aw,hg,am,a9⟩,hx⟩:=H
             refine jF ?_ ?_
             ·
               first
               |rfl
               |(simp[aF,ψ];done)
             intro N K
             have jL: ∀k,k≠g->(w'.setRow g (#[.int .i64 m.t,.int .i64 s.x.sa,.int .i64 s.x.sb,.bool false])).heap[k]? =w'.heap[k]? :=λk J=>ζ w' g k _ J
             exact η 36 _ _ rfl g (#[.int .i64 m.t, .int .i64 s.x.sa, .int .i64 s.x.sb, .bool false]) (by first | exact aw | (rw [← aw]; rfl)) (by first | exact hx | exact hx.1 | (rw [← hx.1]; rfl) | (rw [← hx]; rfl)) 36 cs am (by kernel_rfl) a9 (by simp [aK]) (K υ _
               ⟨jk gY hg _,λh=>absurd rfl h,λ_=> .inr ⟨g,_,cs,(#[.int .i64 m.t,.int .i64 s.x.sa,.int .i64 s.x.sb,.bool false]),am,am.row _,a9.symm,by simp,jL⟩⟩
               ⟨g,by rw[jH u υ (by decide)];exact aw,hg,am.row _⟩))))
     refine fM.last (qh ?_) ?_;(.simp only[gQ];(repeat(refine⟨?_,?_⟩;.first|exact mM _|exact qH|exact pz (λi hf e=>hf _ rfl ⟨16,.data⟩ (by simp) rfl e.symm)));exact trivial);intro u w2 an _ H;simp only[gQ]at H;refine⟨rfl,?_⟩;intro N K;obtain⟨g8,e8,bx,Xp⟩:=H 17 _ rfl;have az:=H 15 _ rfl;simp only[gI,Is]at az;clear H;simp only[az,e8];clear az e8 ax bm bn bo bq;have Ug:W w2:=Vw.trans (an.mono Vw.size);have Lu:=aE.below an;have cw:=bR.below an;have aD:=ah (HH.out.grow Ug);have cK:=HH.out.beside Xp (aG Vw.size bx);clear Xp bx aE bR bh an Vw;go_upto_region 10 with fail;refine ara (by kernel_rfl) ?_;(repeat(first|(fail)|(apply gX.want rfl;(.intro w' J N Q' K;have aa:=(Lu.blk.below J Lu.blk.lt).cell;have MX:=(aa 1).trans ag;have UL:=(aa 2).trans ap;clear aa;have cB:=((aD.out.grow J).blk.cell 32).trans aM;go_wp2_with(fail);first|exact aH _ _|exact U);(.simp only[aP,ay,aA,aB];rfl))|(apply gX.skip rfl;.simp only[aP,ay,aA,aB];rfl)));refine gX.nil ?_;intro w7 J;have Eo:W w7:=Ug.trans (J.mono Ug.size);have hs:=HH.out.grow Eo;have hC:=hs.own;have bc:=Lu.below J;have aL:=bc.blk;have a4:=(cK.below J).blk;obtain⟨ST,aR⟩:=fD (#[.int .i64 m.t,.int .i64 s.x.sa,.int .i64 s.x.sb,.bool false]:Array Θ);(have hi:(aj.info? 36).map (·.size)=some ST.size:=by rw[aR];kernel_rfl);have HC:Hid (32+ST.size<=(s.cells tm now).size):=ah (by rw[aR];exact XD _ _ _ _ _ _ _);have cn:Hid (ST.all (·.oneCell')=true):=ah (by rw[aR];simp[aK]);have ct:Hid (arh (s.cells tm now) 32 ST.toList=(s.nV m.t s.x.sa s.x.sb false).cells tm now):=ah (by rw[aR];exact ad7 _ _ _ _ _ _ _);rw[<-aR]at a4;clear aR;have bj:=cw.below J;have O:Hid (jE w0 t tm/\Tab w0/\s.out.length<=60/\ -1<=s.x.last/\kD (-1) s.x.stops=true/\s.x.stops.length<=60):=ah ⟨U0,hT,aG cd (by decide),cc,zZ,cH⟩;have bk:iw g s s W w7:=iw.of_below Eo;clear Lu cw aD cK Eo Ug a7 ae J U0 hT cd cc zZ cH;obtain⟨ak,ar⟩:=fD m.ack;rw[<-ar]at ap ad;clear ar;by_cases M:ak=1;(·(have e1:(ak==1)=true:=by simpa using M);have al:=ah (ad.out.trans (by rw[Υ M]));clear M ad;go_wp2_with(first|(with_reducible refine gy rfl 36 _ rfl g8 rfl 36 _ _ a4 underlying36 rfl (hi) ?_)|(with_reducible refine gy rfl 196 _ rfl cx rfl 196 _ _ aL underlying196 rfl (by kernel_rfl) ?_)|(refine ni 32 ST hC rfl _ _ _ rfl rfl rfl hi HC.out cn.out ?_;intro wR kN rW av;rw[ct.out]at kN;obtain⟨cg,QU⟩:=hs.Ea kN rW av ⟨rfl,rfl,rfl,rfl,rfl,rfl,rfl,rfl,rfl⟩;have bb:=bc.turn QU;have a5:=bj.ji QU.gr (λk J=> .inl (a1.out k J));have vH:=bk.trans QU;have ca:=aeZ (now:=now) (s:=s.nV m.t s.x.sa s.x.sb false) ⟨O.out.1,O.out.2.1,cg,a5,bf.out.2,a1.out,O.out.2.2.1,O.out.2.2.2.1⟩ bf.out.1 O.out.2.2.2.2.1 O.out.2.2.2.2.2;clear kN rW av hC hs bc aL bk bj a5 a4 QU;have bS:=bb.blk;replace aL:=bS)|((with_reducible refine ca.mono ?_);rintro e fU⟨rfl,s5,cf,ba,a8⟩;have fJ:=(bb.turn ba).blk.cell;have MX:=(fJ 1).trans ag;have UL:=(fJ 2).trans ap;clear fJ;have ch:=Ls O.out.2.1 cf 146 m.t (aht a8 O.out.2.2.2.1 O.out.2.2.1) (ahu a8 O.out.2.2.2.1))|((with_reducible refine ch.mono ?_);rintro e w6⟨rfl,hP⟩));go_ret;rw[al.out];(have cQ:(nY now s5.plain 146 [m.t]).1=(UM now (kT t now (s.plain.nV m.t s.x.sa s.x.sb false) m) m,(0:Int)).1:=by rw[a8];rfl);exact⟨rfl,cQ▸pY.trans (vH.trans ba) hP⟩);·(have e1:(ak==1)=false:=by simpa using M);have al:=ah (ad.out.trans (by rw[Ξ M]));clear M ad;go_wp2_with(first|(with_reducible refine gy rfl 36 _ rfl g8 rfl 36 _ _ a4 underlying36 rfl (hi) ?_)|(with_reducible refine gy rfl 196 _ rfl cx rfl 196 _ _ aL underlying196 rfl (by kernel_rfl) ?_)|(refine ni 32 ST hC rfl _ _ _ rfl rfl rfl hi HC.out cn.out ?_;intro wR kN rW av;rw[ct.out]at kN;obtain⟨cg,QU⟩:=hs.Ea kN rW av ⟨rfl,rfl,rfl,rfl,rfl,rfl,rfl,rfl,rfl⟩;have bb:=bc.turn QU;have a5:=bj.ji QU.gr (λk J=> .inl (a1.out k J));have vH:=bk.trans QU;have ca:=aeZ (now:=now) (s:=s.nV m.t s.x.sa s.x.sb false) ⟨O.out.1,O.out.2.1,cg,a5,bf.out.2,a1.out,O.out.2.2.1,O.out.2.2.2.1⟩ bf.out.1 O.out.2.2.2.2.1 O.out.2.2.2.2.2;clear kN rW av hC hs bc aL bk bj a5 a4 QU;have bS:=bb.blk;replace aL:=bS)|((with_reducible refine ca.mono ?_);rintro e fU⟨rfl,s5,cf,ba,a8⟩;have fJ:=(bb.turn ba).blk.cell;have MX:=(fJ 1).trans ag;have UL:=(fJ 2).trans ap;clear fJ));go_ret;rw[al.out];exact⟨rfl,s5,cf,vH.trans ba,a8⟩
    focus(
     rw[Ξ bd]at ax;apply gu (Below w3) (λW=>aq3 gY 1) (λ_ _ _ M Q=>M.trans Q) (vN w3 17) (λ_ _ _ h=>h.1) (λ_ _=>iR _ _ _ _) (λ_ _=>True) (λ_=>trivial) (λ_ _ _ _ _ _ _=>trivial);(case lX=>intro u;simp only[bV,aq9,aP,ay,aA,aB,aT,aJ];rfl);(case hm=>kernel_rfl);(case hB=>kernel_rfl);(case hA=>kernel_rfl);case hap=>kernel_rfl
     repeat(first
        |(apply fM.is
          ·
            (intro u w' J Z H
             simp[fO,aC,gI,Is]at H
             refine fC ?_ ?_
             ·
               first
               |rfl
               |(simp[aF,ψ,H];done)
             intro N K
             have Y:=(bh.out.grow J).blk.cell;have y2:=(Y 32).trans aM;have y3:=(Y 33).trans bm;have y4:=(Y 34).trans bn;have y5:=(Y 35).trans bo;have y6:=(Y 52).trans bq;clear Y;have y7:=((aE.below J).blk.cell 1).trans ag
             go_wp2_with (((with_reducible refine(ax _).mono ?_);rintro e w4⟨rfl,U⟩))
             try simp only[H]at K
             refine K _ _ ?_ rfl
             first |exact iR _ _ _ _ |exact kM J.size U (by decide)))
        |(refine fM.one (pV w3 36 (#[.int .i64 0, .int .i64 0, .int .i64 0, .bool false] : Array Θ).size) ?_ ?_
          ·
            (intro u w' J Z H
             clear H
             refine fC ?_ ?_
             ·
               first
               |rfl
               |(simp[aF,ψ];done)
             intro N K
             go_wp2_with fail
             exact K _ _ (kM J.size jm (by decide)) ⟨w',_,rfl,J.size,fK.new w' 36 (gv:Array Θ),rfl⟩))
        |(refine fM.word (CU w3 16 36 (#[.int .i64 0, .int .i64 0, .int .i64 0, .bool false])) ?_ ?_
          ·
            (intro u w' J Z H
             simp[fO,aC,gI,Is]at H
             obtain⟨⟨g,cs,aw,hg,am,a9⟩,hx⟩:=H
             refine jF ?_ ?_
             ·
               first
               |rfl
               |(simp[aF,ψ];done)
             intro N K
             have jL: ∀k,k≠g->(w'.setRow g gv).heap[k]? =w'.heap[k]? :=λk J=>ζ w' g k _ J
             exact η 36 _ _ rfl g (#[.int .i64 0, .int .i64 0, .int .i64 0, .bool false]) (by first | exact aw | (rw [← aw]; rfl)) (by first | exact hx | exact hx.1 | (rw [← hx.1]; rfl) | (rw [← hx]; rfl)) 36 cs am (by kernel_rfl) a9 (by simp [aK]) (K υ _
               ⟨jk gY hg _,λh=>absurd rfl h,λ_=> .inr ⟨g,_,cs,gv,am,am.row _,a9.symm,by simp,jL⟩⟩
               ⟨g,by rw[jH u υ (by decide)];exact aw,hg,am.row _⟩))))
     refine fM.last (qh ?_) ?_;(.simp only[gQ];(repeat(refine⟨?_,?_⟩;.first|exact mM _|exact qH|exact pz (λi hf e=>hf _ rfl ⟨16,.data⟩ (by simp) rfl e.symm)));exact trivial);intro u w2 an _ H;simp only[gQ]at H;refine⟨rfl,?_⟩;intro N K;obtain⟨g8,e8,bx,Xp⟩:=H 17 _ rfl;have az:=H 15 _ rfl;simp only[gI,Is]at az;clear H;simp only[az,e8];clear az e8 ax bm bn bo bq;have Ug:W w2:=Vw.trans (an.mono Vw.size);have Lu:=aE.below an;have aD:=ah (HH.out.grow Ug);clear Xp bx aE bR bh an Vw;go_upto_region 10 with fail;(have z0:(V != 0)=true:=by simpa using bd);obtain⟨ak,ar⟩:=fD m.ack;obtain⟨mt,bA⟩:=fD m.t;obtain⟨sl,bE⟩:=fD s.x.sl;have aq:Hid (∀P:Prop,¬(V=110/\ak=1/\mt=sl)->R=(s.plain,V)):=ah (λ_ hn=>by rw[ad.out,<-ar,<-bA,<-bE,Ξ hn,Υ bd]);have a6:Hid (V=110->ak=1->mt=sl->R=((nY now s.plain 146 [mt]).1,0)):=ah (λq1 q2 q3=>by rw[ad.out,<-ar,<-bE,UM,<-bA,Υ ⟨q1,q2,q3⟩]);rw[<-bA]at ag;rw[<-ar]at ap;rw[<-bE]at aM;clear ad ar bA bE bd;by_cases M:V=110;(focus(by_cases Q:ak=1;(focus(by_cases h3:mt=sl;(.have al:=ah (a6.out M Q h3);(have f1:(V==110)=true:=by simpa using M);(have f2:(ak==1)=true:=by simpa using Q);(have f3:(mt==sl)=true:=by simpa using h3);clear M Q h3 aq a6;refine ara (by kernel_rfl) ?_;(repeat(first|(fail)|(apply gX.want rfl;(.intro w' J N Q' K;have aa:=(Lu.blk.below J Lu.blk.lt).cell;have MX:=(aa 1).trans ag;have UL:=(aa 2).trans ap;clear aa;have cB:=((aD.out.grow J).blk.cell 32).trans aM;go_wp2_with(fail);first|exact aH _ _|exact U);(.simp only[aP,ay,aA,aB];rfl))|(apply gX.skip rfl;.simp only[aP,ay,aA,aB];rfl)));refine gX.nil ?_;intro w7 J;have Eo:W w7:=Ug.trans (J.mono Ug.size);have cG:=HH.out.grow Eo;have MX:=((Lu.below J).blk.cell 1).trans ag;have ch:=Ls hT cG 146 mt (aG cd (by decide)) cc;clear Lu aD cG J;go_wp2_with((with_reducible refine ch.mono ?_);rintro e w6⟨rfl,hP⟩);go_ret;rw[al.out];exact⟨rfl,pY.trans (iw.of_below Eo) hP⟩);focus(have al:=ah (aq.out True λq=>h3 q.2.2);(have f3:(mt==sl)=false:=by simpa using h3);(have f1:(V==110)=true:=by simpa using M);(have f2:(ak==1)=true:=by simpa using Q);clear M Q h3 aq a6)));rotate_left;focus(have al:=ah (aq.out True λq=>Q q.2.1);(have f2:(ak==1)=false:=by simpa using Q);(have f1:(V==110)=true:=by simpa using M);clear M Q aq a6)));rotate_left 2;focus(have al:=ah (aq.out True λq=>M q.1);(have f1:(V==110)=false:=by simpa using M);clear M aq a6)))
   rotate_left 3;.have Dp:Hid (R=(s.plain,1)):=ah (by rw[ai.out];exact Υ rfl);clear ai;go_wp2_with((with_reducible refine(bL _).mono ?_);rintro e w3⟨rfl,U⟩);go_ret;rw[Dp.out];exact iK.same HH.out (a7.trans (U.mono a7.size)) rfl))
 rotate_left 3
 .have e0:(te != 0)=true:=by simpa using h0
  have ai:Hid (R=(s.plain,te)):=ah (by rw[HR.out,bi.out];exact aa1 (by rw[<-bi.out];exact h0));clear h0;go_wp2_with fail;go_ret;rw[ai.out];exact iK.same HH.out ae rfl
 all_goals(refine ara (by kernel_rfl) ?_;(repeat(first|(fail)|(apply gX.want rfl;(.intro w' J N Q' K;have aa:=(Lu.blk.below J Lu.blk.lt).cell;have MX:=(aa 1).trans ag;have UL:=(aa 2).trans ap;clear aa;have cB:=((aD.out.grow J).blk.cell 32).trans aM;go_wp2_with(fail);first|exact aH _ _|exact U);(.simp only[aP,ay,aA,aB];rfl))|(apply gX.skip rfl;.simp only[aP,ay,aA,aB];rfl)));refine gX.nil ?_;intro w7 J;have Eo:W w7:=Ug.trans (J.mono Ug.size);go_wp2_with fail;go_ret;rw[al.out];exact iK.same HH.out Eo rfl)
def ae4(q:P7)(h:may q=true):q.body.length<=(enc q).length:=by unfold enc;rw[Υ h];unfold nP;simp only[bC];omega
def aa4(p:gG)(q:P7):(rP p q).body= []:=by
 unfold rP;split
 .unfold jA;split;.rfl
  .rfl
 .rfl
def ahx(H:s5.plain=nM c q)(J:c.out.length<=50):s5.out.length<=90:=by
 have e:s5.plain.out.length<=c.out.length+1:=by rw[H];exact Ho _ _
 have e2:s5.plain.out=s5.out:=rfl;rw[e2]at e;omega
def ahy(J:s5.plain=nM c q)(H: -1<=c.x.last): -1<=s5.x.last:=by
 have e:s5.plain.x=c.x:=by rw[J];exact Ec _ _
 have e2:s5.plain.x.last=s5.x.last:=rfl;rw[<-e2,e];exact H
def anv{base:Nat}{p:P7}(h:Ou base p v w)(n:Nat)(hn:n=p.body.length): ∃A c,v=.agg (jT p A n c)/\aq2 w A c p.body:=by obtain⟨A,c,e,hB⟩:=h.toB;subst hn;exact⟨A,c,e,hB⟩
theorem ak3(U0:jE w0 t tm)(hT:Tab w0)(h:iJ w0 Bq g tm now s W)(bs:List UInt8)(A:Option δ)(n c:Nat)(hn:n=bs.length)(hB:aq2 W A c bs)(a8:bs.length<=2000)(hz:0<W.heap.size)(bk:s.out.length<=50)(bf: -1<=s.x.last)(zZ:kD (-1) s.x.stops=true)(bn:s.x.stops.length<=60)(bh:0<=now)(bi:now<=268435456):Γ aj 26 #[.pointer (some ⟨g,0,none⟩),.slice A n c] W (iK w0 Bq g tm now s W (wW t now s.plain bs)):=by
 obtain⟨R,hR⟩:=fD (wW t now s.plain bs);rw[<-hR];have a5:=akC A n c bs W hn hB a8;obtain⟨M,aD⟩:=fD ((vY bs).getD P7.none_);obtain⟨ar,XV⟩: ∃e:Int,e=if(vY bs).isSome then 0 else 8:=⟨_,rfl⟩
 rw[<-aD,<-XV]at a5;have aL:Hid (M.body.length<=2000):=ah (by rw[aD];cases H:vY bs with|none=>exact aV _|some q=>obtain⟨hm,he⟩:=(GU bs q).1 H;exact aG (ae4 q hm) (by rw[he];exact a8));have aR:Hid (¬ar=0->R=(s.plain,ar)):=ah (by intro N;rw[hR,XV];unfold wW;cases H:vY bs with|none=>rfl|some q=>rw[H]at XV;exact absurd XV N);have az:Hid (ar=0->R=if M.kind=2 then(if iT s.plain.peer M≠0 then(s.plain,iT s.plain.peer M) else((nY now (nM ((s.plain.ou (wu s.plain.peer M)).su false) (rP s.plain.peer M)) 155 []).1,0)) else if M.kind=6 then(if jw s.plain.peer M 6≠0 then(s.plain,jw s.plain.peer M 6) else((s.plain.ou (GY s.plain.peer M)).su false,0)) else if M.kind=5 then Bv t now s.plain M else(s.plain,1)):=ah (by intro N;rw[hR,aD];unfold wW;cases H:vY bs with|none=>rw[H]at XV;rw[XV]at N;exact absurd N (by decide)|some q=>rfl);have HH:=ah h;obtain⟨nb,bj⟩:=fD M.body.length;have ax:=ah bj;have HX:Hid (jE w0 t tm/\Tab w0/\s.out.length<=50/\ -1<=s.x.last/\kD (-1) s.x.stops=true/\s.x.stops.length<=60/\0<W.heap.size/\0<=now/\now<=268435456):=ah ⟨U0,hT,bk,bf,zZ,bn,hz,bh,bi⟩;clear hR aD XV hn hB a8 bj U0 hT bk bf zZ bn hz h bh bi;go_enter func26,ntmps26;go_upto_region 2 with(first|((with_reducible refine a5.mono ?_);rintro e w2⟨fU,rfl,bm,au⟩;obtain⟨A2,c2,rfl,bc⟩:=anv bm nb ax.out;have QL:=Own.jD w2 136 gi)|(with_reducible refine oG (jT M A2 nb c2) QL rfl _ _ rfl rfl rfl (kS _ _ _ _) (by kernel_rfl) (qM _ _ _ _) ?_;intro O kN rW ak;replace QL:=kN;clear kN rW ak))
 have ad:W O:=au.trans (QL.below.mono au.size);have xQ:=bc.below QL.below;have al:arz O g s w2 136 (jT M A2 nb c2):=HH.out.beside QL.b0 au.size;obtain⟨b5,bd⟩:=fD w2.heap.size;rw[<-bd]at al |-;have HS:=ah (HH.out.grow ad);have bB:=al.blk.cell 0;obtain⟨kd,a7⟩:=fD M.kind;rw[show(jT M A2 nb c2)[0]? =some (.int .i64 kd) by rw[a7];rfl]at bB;rw[<-a7]at az;clear a7 QL bd au bm bc a5;by_cases N:ar=0
 .have e0:(ar != 0)=false:=by simpa using N
  have aq:=ah (az.out N);clear N az aR;by_cases k2:kd=2;·(have d2:(kd==2)=true:=by simpa using k2);have ag:=ah (aq.out.trans (Υ k2));clear k2 aq;obtain⟨er,ap⟩:=fD (iT s.plain.peer M);obtain⟨P,hP⟩:=fD (wu s.plain.peer M);obtain⟨U,hQ⟩:=fD (rP s.plain.peer M);have ac: ∀X,O X->Γ aj 60 #[.agg (gB s.plain.peer),.agg (jT M A2 nb c2)] X (yj X (wu s.plain.peer M) (rP s.plain.peer M) (iT s.plain.peer M)):=λX hX=>Uw s.plain.peer M A2 nb c2 X ax.out.symm (xQ.below hX) aL.out;unfold yj at ac;have aE:Hid (U.body= []):=ah (by rw[hQ];exact aa4 _ _);rw[<-ap,<-hP,<-hQ]at ac;rw[aE.out]at ac;rw[<-ap,<-hP,<-hQ]at ag;obtain⟨nq,a9⟩:=fD (([]:List UInt8).length);rw[<-a9]at ac;have bu:=ah a9;clear ap hP hQ a9;go_upto_region 6 with fail;apply gu (Below O) (λW=>aq3 gY 1) (λ_ _ _ h1 h2=>h1.trans h2) (sD O 13 34 14 136) (λ_ _ _ h=>h.1) (λ_ _=>fZ _ _ _ _ _ _ _) (λ_ _=>True) (λ_=>trivial) (λ_ _ _ _ _ _ _=>trivial);(case lX=>intro u;simp only[bV,aq9,aP,ay,aA,aB,aT,aJ];with_reducible rfl);(case hm=>kernel_rfl);(case hB=>kernel_rfl);(case hA=>kernel_rfl);(case hap=>kernel_rfl);(iterate 4(apply fM.is;·(intro u w' K V H;simp[fO,aC,gI,Is]at H;refine fC ?_ ?_;(.first|rfl);intro Q J;skip;go_wp2_with(fail);(try simp only[H]at J);refine J _ _ ?_ rfl;first|exact fZ _ _ _ _ _ _ _)));refine fM.is (c:=.agg (gB s.plain.peer)) ?_ ?_;(·(intro u w' K V H;simp[fO,aC,gI,Is]at H;refine fC (by first |rfl) ?_;intro Q J;have Z:=(HS.out.grow K).own;exact wC Z 15 _ (pG _ _ _) _ _ rfl (by rw[<-H];rfl) _ bD rfl (iD _) (J _ _ (fZ _ _ _ _ _ _ _) rfl)));refine fM.is (c:=.agg (jT M A2 nb c2)) ?_ ?_;(·(intro u w' K V H;refine fC (by first |rfl) ?_;intro Q J;exact ι 136 _ rfl b5 rfl 136 _ (0,0) _ (al.blk.below K al.blk.lt) bF rfl (kS _ _ _ _) (J _ _ (fZ _ _ _ _ _ _ _) rfl)));refine fM.one (ahb P U nq er) ?_ ?_;(·(intro u w' K V H;simp only[gQ]at H;have q1:=H ⟨4,.data⟩ (by simp) rfl _ rfl;have q2:=H ⟨5,.data⟩ (by simp) rfl _ rfl;simp only[gI,Is]at q1 q2;clear H;refine fC (by first |rfl) ?_;intro Q J;skip;go_wp2_with(((with_reducible refine(ac _ K).mono ?_);rintro e w3⟨A1,c1,rfl,bx,av⟩));(try simp only[q1,q2]at J);exact J _ _ (iL K.size av (by decide) (by decide)) ⟨A1,c1,rfl,OD bx⟩));refine fM.one (ahb P U nq er) ?_ ?_;(·(intro u w' K V H;simp only[gQ]at H;have q1:=H ⟨6,.data⟩ (by simp) rfl _ rfl;obtain⟨A1,c1,q1,hz⟩: ∃A1 c1,u 6=.tuple #[.agg (gB P),.agg (jT U A1 nq c1),.int .i64 er]/\ ∀w,aq2 w A1 c1 []:=q1;clear H;refine fC (by first |rfl) ?_;intro Q J;go_wp2_with fail;(try simp only[q1]at J);exact J _ _ (fZ _ _ _ _ _ _ _) ⟨A1,c1,rfl,hz⟩));refine fM.is (c:=.agg (gB P)) ?_ ?_;(·(intro u w' K V H;simp only[gQ]at H;have q1:=H ⟨7,.data⟩ (by simp) rfl _ rfl;obtain⟨A1,c1,q1,hz⟩: ∃A1 c1,u 7=.tuple #[.agg (gB P),.agg (jT U A1 nq c1),.int .i64 er]/\ ∀w,aq2 w A1 c1 []:=q1;clear H;refine fC (by first |rfl) ?_;intro Q J;go_wp2_with fail;(try simp only[q1]at J);exact J _ _ (fZ _ _ _ _ _ _ _) rfl));refine fM.one (anj P U nq er) ?_ ?_;(·(intro u w' K V H;simp only[gQ]at H;have q1:=H ⟨7,.data⟩ (by simp) rfl _ rfl;obtain⟨A1,c1,q1,hz⟩: ∃A1 c1,u 7=.tuple #[.agg (gB P),.agg (jT U A1 nq c1),.int .i64 er]/\ ∀w,aq2 w A1 c1 []:=q1;clear H;refine fC (by first |rfl) ?_;intro Q J;go_wp2_with fail;(try simp only[q1]at J);exact J _ _ (fZ _ _ _ _ _ _ _) ⟨A1,c1,rfl,hz⟩));refine fM.is (c:=.int .i64 er) ?_ ?_;(·(intro u w' K V H;simp only[gQ]at H;have q1:=H ⟨7,.data⟩ (by simp) rfl _ rfl;obtain⟨A1,c1,q1,hz⟩: ∃A1 c1,u 7=.tuple #[.agg (gB P),.agg (jT U A1 nq c1),.int .i64 er]/\ ∀w,aq2 w A1 c1 []:=q1;clear H;refine fC (by first |rfl) ?_;intro Q J;go_wp2_with fail;(try simp only[q1]at J);exact J _ _ (fZ _ _ _ _ _ _ _) rfl));refine fM.one (pV O 34 16) ?_ ?_;(·(intro u w' K V H;clear H;refine fC (by first |rfl) ?_;intro Q J;go_wp2_with fail;exact J _ _ (iL K.size jm (by decide) (by decide)) ⟨w',_,rfl,K.size,fK.new _ _ _,rfl⟩));refine fM.one (pV O 136 7) ?_ ?_;(·(intro u w' K V H;clear H;refine fC (by first |rfl) ?_;intro Q J;go_wp2_with fail;exact J _ _ (iL K.size jm (by decide) (by decide)) ⟨w',_,rfl,K.size,fK.new _ _ _,rfl⟩));refine fM.word (CU O 11 34 (gB P)) ?_ ?_;(·(intro u w' K V H;simp only[gQ]at H;have q1:=H ⟨11,.data⟩ (by simp) rfl _ rfl;have q2:=H ⟨8,.data⟩ (by simp) rfl _ rfl;simp only[gI,Is]at q2;obtain⟨Y,cs,am,hg,aa,an⟩:pV O 34 16 (u 11) w':=q1;clear H;refine jF (by first |rfl) ?_;intro Q J;have jL: ∀k,k≠Y->(w'.setRow Y (gB P)).heap[k]? =w'.heap[k]? :=λk K=>ζ w' Y k _ K;exact η 34 _ _ rfl Y (gB P) (by rw[<-am];rfl) (by rw[<-q2];rfl) 34 cs aa (iD P) (an.trans (yw P).symm) (kK P) (J υ _ ⟨jk gY hg _,λh _=>absurd rfl h,λ_=> .inr ⟨Y,cs,gB P,aa,aa.row _,(yw P).trans an.symm,arq _ _ _,jL⟩,λe=>absurd e (by decide)⟩ ⟨Y,by rw[jH u υ (by decide)];exact am,hg,aa.row _⟩)));refine fM.word (aeG O 12 U nq) ?_ ?_;(·(intro u w' K V H;simp only[gQ]at H;have q1:=H ⟨12,.data⟩ (by simp) rfl _ rfl;have q2:=H ⟨9,.data⟩ (by simp) rfl _ rfl;obtain⟨A1,c1,q2,hz⟩: ∃A1 c1,u 9=.agg (jT U A1 nq c1)/\ ∀w,aq2 w A1 c1 []:=q2;obtain⟨g6,cs,am,hg,aa,an⟩:pV O 136 7 (u 12) w':=q1;clear H;refine jF (by first |rfl) ?_;intro Q J;have jL: ∀k,k≠g6->(w'.setRow g6 (jT U A1 nq c1)).heap[k]? =w'.heap[k]? :=λk K=>ζ w' g6 k _ K;exact η 136 _ _ rfl g6 (jT U A1 nq c1) (by rw[<-am];rfl) (by rw[<-q2];rfl) 136 cs aa (kS _ _ _ _) (an.trans (QM _ _ _ _).symm) (qM _ _ _ _) (J υ _ ⟨jk gY hg _,λ_ h=>absurd rfl h,λe=>absurd e (by decide),λ_=> .inr ⟨g6,cs,jT U A1 nq c1,aa,aa.row _,(QM _ _ _ _).trans an.symm,arq _ _ _,jL⟩⟩ ⟨g6,A1,c1,by rw[jH u υ (by decide)];exact am,hg,aa.row _,hz⟩)));refine fM.last (qm ?_) ?_;(.simp only[gQ];(repeat(refine⟨?_,?_⟩;.first|exact mQ _|exact zo _|exact qP|exact xu (by kernel_rfl) (by decide)|exact xw (by kernel_rfl)));exact trivial);intro u w1 K _ H;simp only[gQ]at H;obtain⟨Y,e5,a6,Xp⟩:=H 13 _ rfl;obtain⟨g6,A1,c1,e6,Gz,Xz,bo⟩:=H 14 _ rfl;have a4:=H 10 _ rfl;simp only[gI,Is]at a4;clear H;refine⟨by first |rfl |simp[aF,ψ],?_⟩;intro Q J;simp only[e5,e6,a4];clear e5 e6 a4;have hW:W w1:=ad.trans (K.mono ad.size);have hs:=HH.out.grow hW;have bb:=HH.out.beside Xp (aG ad.size a6);have aw:=HH.out.beside Xz (aG ad.size Gz);by_cases N:er=0;(·(have e1:(er != 0)=false:=by simpa using N);have Dp:=ah (ag.out.trans (Ξ (λq=>q N)));have af:iw g s s W w1:=iw.of_below hW;have Z:=hs.own;have a1:=bb.blk;have bq:Hid (nq=U.body.length):=ah (by rw[aE.out];exact bu.out);have au:Hid (U.body.length<=2000):=ah (by rw[aE.out];exact aV _);have bR:Hid (∀w,aq2 w A1 c1 U.body):=ah (by rw[aE.out];exact bo);clear N ag ac Xp Xz bo al xQ;go_wp2_with(first|(with_reducible refine gy rfl 34 _ rfl Y rfl 34 _ _ a1 bD rfl (iD _) ?_)|(with_reducible refine gy rfl 136 _ rfl g6 rfl 136 _ _ bw bF rfl (kS _ _ _ _) ?_)|(with_reducible refine ni 15 (gB (P)) Z rfl _ _ _ rfl rfl rfl (iD _) (Cb _ _ _ _) (kK _) ?_;intro O kN rW ak;rw[Jg]at kN;obtain⟨ae,vH⟩:=hs.Ea kN rW ak ⟨rfl,rfl,rfl,rfl,rfl,rfl,rfl,rfl,rfl⟩;replace aw:=aw.turn vH;replace af:=iw.trans af vH;clear Z;replace hs:=ae;clear ae;have Z:=hs.own)|(with_reducible refine jq 37 (.bool false) Z rfl _ _ _ rfl rfl rfl (by kernel_rfl) (fA (by decide:37<54) (tK _ _ _).symm) rfl ?_;intro O kN rW ak;rw[UC]at kN;obtain⟨ae,vH⟩:=hs.Ea kN rW ak ⟨rfl,rfl,rfl,rfl,rfl,rfl,rfl,rfl,rfl⟩;replace aw:=aw.turn vH;have bw:=aw.blk;clear kN rW ak;replace af:=iw.trans af vH;clear Z;replace hs:=ae;clear ae;have Z:=hs.own)|((with_reducible refine(QE hs U A1 nq c1 bq.out (bR.out _) au.out (aG HX.out.2.2.1 (by decide))).mono ?_);rintro e fU⟨rfl,s5,fJ,bN,ba⟩;have bL:=aeQ HX.out.2.1 fJ 155 (ahx ba HX.out.2.2.1) (ahy ba HX.out.2.2.2.1))|((with_reducible refine bL.mono ?_);rintro e fU⟨rfl,hP⟩));go_ret;rw[Dp.out];(have bA:(nY now s5.plain 155 []).1=((nY now (nM ((s.plain.ou P).su false) U) 155 []).1,(0:Int)).1:=by rw[ba];rfl);exact⟨rfl,bA▸pY.trans (af.trans bN) hP⟩);·(have e1:(er != 0)=true:=by simpa using N);have Dp:=ah (ag.out.trans (Υ N));clear N ag ac;go_wp2_with fail;go_ret;rw[Dp.out];exact iK.same HH.out hW rfl
  ·(have d2:(kd==2)=false:=by simpa using k2);have ag:=ah (aq.out.trans (Ξ k2));clear k2 aq;by_cases k6:kd=6;(·(have d6:(kd==6)=true:=by simpa using k6);have ai:=ah (ag.out.trans (Υ k6));clear k6 ag;obtain⟨er,ap⟩:=fD (jw s.plain.peer M 6);obtain⟨P,hP⟩:=fD (GY s.plain.peer M);have ac: ∀X,O X->Γ aj 62 #[.agg (gB s.plain.peer),.agg (jT M A2 nb c2)] X (XB X (GY s.plain.peer M) (jw s.plain.peer M 6)):=λX hX=>aay s.plain.peer M A2 nb c2 X ax.out.symm (xQ.below hX) aL.out;unfold XB at ac;rw[<-ap,<-hP]at ac;rw[<-ap,<-hP]at ai;clear ap hP;go_upto_region 14 with fail;apply gu (Below O) (λW=>aq3 gY 1) (λ_ _ _ h1 h2=>h1.trans h2) (sD O 11 34 99 136) (λ_ _ _ h=>h.1) (λ_ _=>fZ _ _ _ _ _ _ _) (λ_ _=>True) (λ_=>trivial) (λ_ _ _ _ _ _ _=>trivial);(case lX=>intro u;simp only[bV,aq9,aP,ay,aA,aB,aT,aJ];with_reducible rfl);(case hm=>kernel_rfl);(case hB=>kernel_rfl);(case hA=>kernel_rfl);(case hap=>kernel_rfl);(iterate 4(apply fM.is;·(intro u w' K V H;simp[fO,aC,gI,Is]at H;refine fC ?_ ?_;(.first|rfl|(simp[aF,ψ,H];done));intro Q J;skip;go_wp2_with(fail);(try simp only[H]at J);refine J _ _ ?_ rfl;first|exact fZ _ _ _ _ _ _ _|exact iL K.size av (by decide) (by decide))));refine fM.is (c:=.agg (gB s.plain.peer)) ?_ ?_;(·(intro u w' K V H;simp[fO,aC,gI,Is]at H;refine fC (by first |rfl |simp[aF,ψ]) ?_;intro Q J;have Z:=(HS.out.grow K).own;exact wC Z 15 _ (pG _ _ _) _ _ rfl (by rw[<-H];rfl) _ bD rfl (iD _) (J _ _ (fZ _ _ _ _ _ _ _) rfl)));refine fM.is (c:=.agg (jT M A2 nb c2)) ?_ ?_;(·(intro u w' K V H;refine fC (by first |rfl |simp[aF,ψ]) ?_;intro Q J;exact ι 136 _ rfl b5 rfl 136 _ (0,0) _ (al.blk.below K al.blk.lt) bF rfl (kS _ _ _ _) (J _ _ (fZ _ _ _ _ _ _ _) rfl)));refine fM.is (c:=.tuple #[.agg (gB P),.int .i64 er]) ?_ ?_;(·(intro u w' K V H;simp only[gQ]at H;have q1:=H ⟨4,.data⟩ (by simp) rfl _ rfl;have q2:=H ⟨5,.data⟩ (by simp) rfl _ rfl;simp only[gI,Is]at q1 q2;clear H;refine fC (by first |rfl |simp[aF,ψ]) ?_;intro Q J;go_wp2_with((with_reducible refine(ac _ K).mono ?_);rintro e w3⟨rfl,av⟩);(try simp only[q1,q2]at J);exact J _ _ (iL K.size av (by decide) (by decide)) rfl));(iterate 3(apply fM.is;·(intro u w' K V H;simp[fO,aC,gI,Is]at H;refine fC ?_ ?_;(.first|rfl|(simp[aF,ψ,H];done));intro Q J;skip;go_wp2_with(fail);(try simp only[H]at J);refine J _ _ ?_ rfl;first|exact fZ _ _ _ _ _ _ _|exact iL K.size av (by decide) (by decide))));refine fM.one (pV O 34 16) ?_ ?_;(·(intro u w' K V H;clear H;refine fC (by first |rfl |simp[aF,ψ]) ?_;intro Q J;go_wp2_with fail;exact J _ _ (iL K.size jm (by decide) (by decide)) ⟨w',_,rfl,K.size,fK.new _ _ _,rfl⟩));refine fM.word (CU O 10 34 (gB P)) ?_ ?_;(·(intro u w' K V H;simp only[gQ]at H;have q1:=H ⟨10,.data⟩ (by simp) rfl _ rfl;have q2:=H ⟨8,.data⟩ (by simp) rfl _ rfl;simp only[gI,Is]at q2;obtain⟨Y,cs,am,hg,aa,an⟩:pV O 34 16 (u 10) w':=q1;clear H;refine jF (by first |rfl |simp[aF,ψ]) ?_;intro Q J;have jL: ∀k,k≠Y->(w'.setRow Y (gB P)).heap[k]? =w'.heap[k]? :=λk K=>ζ w' Y k _ K;exact η 34 _ _ rfl Y (gB P) (by rw[<-am];rfl) (by rw[<-q2];rfl) 34 cs aa (iD P) (an.trans (yw P).symm) (kK P) (J υ _ ⟨jk gY hg _,λh _=>absurd rfl h,λ_=> .inr ⟨Y,cs,gB P,aa,aa.row _,(yw P).trans an.symm,arq _ _ _,jL⟩,λe=>absurd e (by decide)⟩ ⟨Y,by rw[jH u υ (by decide)];exact am,hg,aa.row _⟩)));refine fM.last (qm ?_) ?_;(.simp only[gQ];(repeat(refine⟨?_,?_⟩;.first|exact mQ _|exact zo _|exact qP|exact xu (by kernel_rfl) (by decide)|exact xw (by kernel_rfl)));exact trivial);intro u w1 K _ H;simp only[gQ]at H;obtain⟨Y,e5,a6,Xp⟩:=H 11 _ rfl;have h9:=H 9 _ rfl;simp only[gI,Is]at h9;clear H;refine⟨by first |rfl |simp[aF,ψ],?_⟩;intro Q J;simp only[e5,h9];clear e5 h9;have hW:W w1:=ad.trans (K.mono ad.size);have hs:=HH.out.grow hW;have bb:=HH.out.beside Xp (aG ad.size a6);by_cases N:er=0;(·(have e1:(er != 0)=false:=by simpa using N);have Dp:=ah (ai.out.trans (Ξ (λq=>q N)));have af:iw g s s W w1:=iw.of_below hW;have Z:=hs.own;have a1:=bb.blk;clear N ai ac Xp al xQ;go_wp2_with(first|(with_reducible refine gy rfl 34 _ rfl Y rfl 34 _ _ a1 bD rfl (iD _) ?_)|(with_reducible refine ni 15 (gB (P)) Z rfl _ _ _ rfl rfl rfl (iD _) (Cb _ _ _ _) (kK _) ?_;intro O kN rW ak;rw[Jg]at kN;obtain⟨ae,vH⟩:=hs.Ea kN rW ak ⟨rfl,rfl,rfl,rfl,rfl,rfl,rfl,rfl,rfl⟩;skip;replace af:=iw.trans af vH;clear Z;replace hs:=ae;clear ae;have Z:=hs.own)|(with_reducible refine jq 37 (.bool false) Z rfl _ _ _ rfl rfl rfl (by kernel_rfl) (fA (by decide:37<54) (tK _ _ _).symm) rfl ?_;intro O kN rW ak;rw[UC]at kN;obtain⟨ae,vH⟩:=hs.Ea kN rW ak ⟨rfl,rfl,rfl,rfl,rfl,rfl,rfl,rfl,rfl⟩;skip);replace af:=iw.trans af vH;clear Z;replace hs:=ae;clear ae;have Z:=hs.own);go_ret;rw[Dp.out];exact⟨rfl,_,hs,af,rfl⟩);·(have e1:(er != 0)=true:=by simpa using N);have Dp:=ah (ai.out.trans (Υ N));clear N ai ac;go_wp2_with fail;go_ret;rw[Dp.out];exact iK.same HH.out hW rfl);·(have d6:(kd==6)=false:=by simpa using k6);have ai:=ah (ag.out.trans (Ξ k6));clear k6 ag;by_cases k5:kd=5;(·(have d5:(kd==5)=true:=by simpa using k5);have aM:=ah (ai.out.trans (Υ k5));clear k5 ai;have bO:=al.blk;have bE:=akZ HX.out.1 HX.out.2.1 HS.out M A2 nb c2 ax.out.symm xQ aL.out (aU HX.out.2.2.2.2.2.2.1 ad.size) HX.out.2.2.1 HX.out.2.2.2.1 HX.out.2.2.2.2.1 HX.out.2.2.2.2.2.1 HX.out.2.2.2.2.2.2.2.1 HX.out.2.2.2.2.2.2.2.2;clear al xQ;go_wp2_with(first|(with_reducible refine gy rfl 136 _ rfl b5 rfl 136 _ _ bO bF rfl (kS _ _ _ _) ?_)|((with_reducible refine bE.mono ?_);rintro e fU⟨rfl,hP⟩));go_ret;rw[aM.out];exact⟨rfl,pY.trans (iw.of_below ad) hP⟩);·(have d5:(kd==5)=false:=by simpa using k5);have aM:=ah (ai.out.trans (Ξ k5));clear k5 ai;go_wp2_with fail;go_ret;rw[aM.out];exact iK.same HH.out ad rfl
 .have e0:(ar != 0)=true:=by simpa using N
  have aq:=ah (aR.out N);clear N az aR;go_wp2_with fail;go_ret;rw[aq.out];exact iK.same HH.out ad rfl
def asi (t:Tp) (now:Int) (c:Cp) (n:Int):Cp × Int:=(c.rQ (qF t c.x n now),rC t c.x n now)
def OM (n:Int):UInt8:=UInt8.ofNat (n % 256).toNat
theorem ae5(n:Int):q8 (OM n)=.int .u8 (n % 256):=by have H:=Int.emod_nonneg n (b:=256) (by decide);unfold q8 OM;rw[UInt8.toNat_ofNat'];congr 1;omega
def yB (t:Tp) (now:Int) (c:Cp) (k n:Int) (bs:List UInt8):Cp × Int:=if k=0 then QI c else if k=1 then wW t now c bs else if k=2 then Lj now c 132 [1] else if k=3 then Lj now c 136 [] else if k=4 then asi t now c n else if k=5 then QJ c (OM n) else(OA now c,0)
theorem ahz(V:jE w0 t tm)(Z:Tab w0)(h:iJ w0 Bq g tm now s W)(U:fK W gp 84 #[.pointer g])(k y:Int)(bs:List UInt8)(A:Option δ)(n c:Nat)(hn:n=bs.length)(hB:aq2 W A c bs)(Q:bs.length<=2000)(ae:s.out.length<=50)(aa: -1<=s.x.last)(zZ:kD (-1) s.x.stops=true)(af:s.x.stops.length<=60)(ac:0<=now)(ad:now<=268435456):Γ aj 25 #[.agg #[k,y,.slice A n c],.pointer gp] W (iK w0 Bq g tm now s W (wW t now s.plain bs)):=by
 obtain⟨R,N⟩:=fD (wW t now s.plain bs);rw[<-N];have H:Own W _ [_]:=Own.jD W 48 #[k,y,.slice A n c];obtain⟨W1,J⟩:=fD (W.alloc (.cells #[k,y,.slice A n c] 48));have K:W W1:=by rw[J];exact H.below
 rw[<-J]at H;have ag:=(U.below K U.lt).cell 0;have ai:=H.b0.cell;have M:=h.grow K;have O:=ak3 V Z M bs A n c hn (hB.below K) Q (Nat.lt_of_le_of_lt (aV _) (M.blk).lt) ae aa zZ af ac ad;rw[<-N]at O;clear N hn hB Q M H;go_enter func25,ntmps25;go_upto_region 1 with fail;rw[<-J];clear J;go_wp2_with((with_reducible refine O.mono ?_);rintro e w6⟨rfl,Y⟩);go_ret;exact⟨rfl,pY.trans (iw.of_below K) Y⟩
theorem ahA(Y:Tab w0)(h:iJ w0 Bq g tm now s W)(U:fK W gp 84 #[.pointer g])(k y:Int)(A:Option δ)(n c:Nat)(aa:s.out.length<=90)(Z: -1<=s.x.last):Γ aj 27 #[.agg #[k,y,.slice A n c],.pointer gp] W (iK w0 Bq g tm now s W (Lj now s.plain 132 [1])):=by
 obtain⟨R,K⟩:=fD (Lj now s.plain 132 [1]);rw[<-K];have J:Own W _ [_]:=Own.jD W 48 #[k,y,.slice A n c];obtain⟨W1,H⟩:=fD (W.alloc (.cells #[k,y,.slice A n c] 48));have M:W W1:=by rw[H];exact J.below
 rw[<-H]at J;have ac:=(U.below M U.lt).cell 0;have N:=h.grow M;have O:W1 (W1.alloc (.cells #[(1:Int)] 3)):=gY.alloc ig _;have Q:=aix Y (N.grow O) 132 [1] W1 1 1 (BP (fK.new _ _ _)) rfl ig (by simp) aa Z;rw[<-K]at Q;clear K N J;go_enter func27,ntmps27;go_upto_region 1 with fail;rw[<-H];clear H;go_wp2_with((with_reducible refine Q.mono ?_);rintro e w6⟨rfl,V⟩);go_ret;exact⟨rfl,pY.trans ((iw.of_below M).trans (iw.of_below O)) V⟩
theorem ahB(V:Tab w0)(h:iJ w0 Bq g tm now s W)(Q:fK W gp 84 #[.pointer g])(k y:Int)(A:Option δ)(n c:Nat)(Z:s.out.length<=90)(Y: -1<=s.x.last):Γ aj 29 #[.agg #[k,y,.slice A n c],.pointer gp] W (iK w0 Bq g tm now s W (Lj now s.plain 136 [])):=by
 obtain⟨R,K⟩:=fD (Lj now s.plain 136 []);rw[<-K];have J:Own W _ [_]:=Own.jD W 48 #[k,y,.slice A n c];obtain⟨W1,H⟩:=fD (W.alloc (.cells #[k,y,.slice A n c] 48));have M:W W1:=by rw[H];exact J.below
 rw[<-H]at J;have aa:=(Q.below M Q.lt).cell 0;have N:=h.grow M;have O:=aix V N 136 [] none 0 0 (fE.nil _ _) rfl ig (aV _) Z Y;rw[<-K]at O;clear K N J;go_enter func29,ntmps29;go_upto_region 1 with fail;rw[<-H];clear H;go_wp2_with((with_reducible refine O.mono ?_);rintro e w6⟨rfl,U⟩);go_ret;exact⟨rfl,pY.trans (iw.of_below M) U⟩
theorem ahC(h:iJ w0 Bq g tm now s W)(Q:fK W gp 84 #[.pointer g])(k y:Int)(A:Option δ)(n c:Nat)(V:s.out.length<=90):Γ aj 32 #[.agg #[k,y,.slice A n c],.pointer gp] W (iK w0 Bq g tm now s W (QJ s.plain (OM y))):=by
 obtain⟨R,K⟩:=fD (QJ s.plain (OM y));rw[<-K];have H:Own W _ [_]:=Own.jD W 48 #[k,y,.slice A n c];obtain⟨W1,J⟩:=fD (W.alloc (.cells #[k,y,.slice A n c] 48));have M:W W1:=by rw[J];exact H.below
 rw[<-J]at H;have Y:=(Q.below M Q.lt).cell 0;have Z:=H.b0.cell;have N:=h.grow M;have O:=aiy N (OM y) V;rw[<-K,ae5]at O;clear K N H;go_enter func32,ntmps32;go_upto_region 1 with fail;rw[<-J];clear J;go_wp2_with((with_reducible refine O.mono ?_);rintro e w6⟨rfl,U⟩);go_ret;exact⟨rfl,pY.trans (iw.of_below M) U⟩
def XW(tm:jl)(x:Tr)(m:kZ)(now:Int):BA tm x m now=Cs.cells ⟨x,m,none,0,[]⟩ tm now:=by kernel_rfl
theorem UA.nil(W:ω)(Bq g:Nat)(x:Tr)(m:kZ):UA W Bq g ⟨x,m,none,0,[]⟩:=⟨⟨[],aq1.nil _ _,rfl,λi x b h=>by simp at h⟩⟩
theorem ahD{gt gn:Nat}{x:Tr}{m:kZ}(K:jE w0 t tm)(h:iJ w0 Bq g tm now ⟨x,m,none,0,[]⟩ W)(Q:fK W gp 84 #[.pointer g])(b0:fK W gt 27 tm.cells)(b3:fK W gn 3 #[now])(y:Int)(A:Option δ)(n c:Nat)(M:jK now=true):Γ aj 30 #[.agg #[(4:Int),y,.slice A n c],.pointer gt,.pointer gp,.pointer gn] W (iK w0 Bq g tm now ⟨x,m,none,0,[]⟩ W (asi t now (Cs.plain ⟨x,m,none,0,[]⟩) y)):=by refine(ag9 (K.below h.below) h.tr b0 (by rw[XW];exact h.blk) Q b3 M).mono λe w' ⟨O,J,H⟩=>?_;have N:=Own.change (L1:= []) (L2:= []) h.own H (by rw[XW]at J;exact J);refine⟨O,⟨qF t x y now,m,none,0,[]⟩,⟨N,(h.tr.away H (OC h.blk (by decide))).moved (UU t x y now),UA.nil _ _ _ _ _,h.lo,aG h.hi H.size⟩,⟨jV.kJ H λk e=> .inl (by simpa using e.symm),rU.refl _ _,rU.refl _ _⟩,rfl⟩
def Ee (t:Tp) (x:Tr) (k now:Int):Prop:=k<0\/6<k\/wY t x=false\/jK now=false
def ae6 (w:ω) (tm:jl) (now:Int) (F:Cp) (e:ε) (w':ω):Prop:= ∃s Bq g,iJ w Bq g tm now s w'/\s.plain=F/\e=.returned (.tuple #[.agg (jf s.x s.m),.slice s.Ao s.out.length s.co,.int .i64 0])
def LC (w:ω) (er:Int) (e:ε) (w':ω):Prop:=e=.returned (.tuple #[.agg nR,.slice none 0 0,.int .i64 er])/\w w'
def aiC (w:ω) (t:Tp) (tm:jl) (now:Int) (c:Cp) (k y:Int) (bs:List UInt8) (e:ε) (w':ω):Prop:=(Ee t c.x k now->LC w 1 e w')/\(¬Ee t c.x k now->(yB t now c k y bs).2≠0->LC w (yB t now c k y bs).2 e w')/\(¬Ee t c.x k now->(yB t now c k y bs).2=0->ae6 w tm now (yB t now c k y bs).1 e w')
theorem ae7{e:τ}{z:Θ}(H:(P.info? e).bind (·.zero)=some z):(zeroValue e).run P W=.ok z W:=by
 cases hi:P.info? e with
 |none=>rw[hi]at H;simp at H
 |some i=>
  rw[hi]at H;have K:i.zero=some z:=by simpa using H
  have J:(typeInfo e).run P W=.ok i W:=by simp[typeInfo,hi]
  simp[zeroValue,J,K]
theorem IY{t J e:τ}(N:P.underlying t=some (.map J e))(H:P.underlying J=some (.int .i64))(K:W.heap[b]? =some (.map es cl))(i:Int)(z:Θ)(O:(P.info? e).bind (·.zero)=some z)(M:dY (.int .i64) i es.toList 0=some none):(Instr.lookup t (.map (some b)) i true).run P W=.ok (.tuple #[z,false]) W:=by have hc:=MapKept.run_checkKey (P:=P) (w:=W) H (k:=i) (by trivial) es.isEmpty 9999;simp[Instr.lookup,ν N,MapKept.run_getObj_map K,hc,Instr.findKey,ν H,M,ae7 O]
def Ef{rest:List ο}{o:ο}{a:Act}{H:Exit->Act->ω->Prop}{t J e:τ}(M:W.heap[b]? =some (.map es cl))(O:o.guard=none)(m k:κ)(V:o.op=.lookup t m k true)(hm:a.eval m=.map (some b))(i:Int)(Q:a.eval k=i)(z:Θ)(Y:P.underlying t=some (.map J e))(U:P.underlying J=some (.int .i64))(Z:(P.info? e).bind (·.zero)=some z)(N:dY (.int .i64) i es.toList 0=some none)(h:Δ P ops H rest (a.put o.dst (.tuple #[z,false])) W):Δ P ops H (o::rest) a W:=by refine π O λaa K=>?_;have:=K _ _ h;unfold Oper.wp execOp;simp only[V,hm,Q,Sem.run_bind,IY Y U M i z Z N,dO];exact this
def OO: ∀(l:List MapEntry) (i:Int) (n:Nat),(∀x∈l,∃j,x.key=.int .i64 j/\i≠j)->dY (.int .i64) i l n=some none
 | [],i,n,_=>rfl
 |x::l,i,n,h=>by
  obtain⟨j,e,H⟩:=h x (by simp);have M:=OO l i (n+1) (λy K=>h y (by simp[K]));have J:Instr.sameNow (.int .i64) i j=some false:=by simp[Instr.sameNow,H]
  rw[dY,e,J];exact M
theorem XY{k:Int}(h:k<0\/6<k){Q U V Y Z v5 v6:Θ}{J K s2 M N s5 O:Nat}:dY (.int .i64) k ((((((((#[]:Array MapEntry).push ⟨zI,Q,J⟩).push ⟨(1:Int),U,K⟩).push ⟨(2:Int),V,s2⟩).push ⟨(3:Int),Y,M⟩).push ⟨(4:Int),Z,N⟩).push ⟨(5:Int),v5,s5⟩).push ⟨(6:Int),v6,O⟩).toList 0=some none:=by apply OO;intro x H;simp only[Array.toList_push,dK,dN,dH,false_or]at H;rcases H with (((((H |H) |H) |H) |H) |H) |H <;> subst H <;> exact⟨_,rfl,by omega⟩
theorem Vh(hB:fK W g 87 (s.cells tm now)):W.rangeAt g 4 (jf s.x s.m).toList:=by
 intro j v H;rw[hB.cell];rw[<-oU tm now s,List.getElem?_take]at H;split at H;.rw[List.getElem?_drop]at H;simpa using H
 .exact absurd H (by simp)
theorem FX{x:Tr}(h:wY t x=true): -1<=x.last/\kD (-1) x.stops=true:=by unfold wY at h;simp only[bM,decide_eq_true_eq]at h;refine⟨?_,?_⟩ <;> simp_all
def apK (w:ω) (Bq gc:Nat) (tm:jl) (now:Int) (s:Cs) (W:ω) (R:Cp × Int) (e:Θ) (W':ω):Prop:=e=.int .i64 R.2/\pY w Bq gc tm now s W R.1 W'
def ak5(h:iJ w0 Bq g tm now s W)(K:Bq<=g)(H:s.Ao=none)(J:b<Bq): ¬zO g s b:=by
 rintro (e |e |e);.omega
 .have:=(h.tr.stops.gJ b e).1;omega
 .rw[H]at e;cases e
def ak6(h:iJ w0 Bq g tm now s W)(M:s.Ao=none){ty:τ}{cs:Array Θ}(H:fK W b ty cs)(J:3≠ty)(K:ty≠87): ¬zO g s b:=by
 rintro (e |e |e);.subst e;exact zn H h.blk K rfl
 .exact ard h.tr.stops H J e
 .rw[M]at e;cases e
theorem iJ.low(h:iJ w0 Bq g tm now s W)(hg:Bq<=g)(hb:b<Bq)(aa:w0.heap.size<=b)(O:W.grownBy W' (some b)):iJ w0 Bq g tm now s W':=by
 have J:jV (λk=>k=b) W W':=jV.kJ O λk e=>by simpa using e.symm
 have H:=h.tr;obtain⟨xs,Q,Z,hi⟩:=h.out.row;refine⟨⟨h.below.trans (J.below h.below.size (λk e=>by rw[e];exact aa)),λz U=>?_,by simp⟩,⟨H.path.ji J (λk K e=>?_),H.fP.ji J (λk K e=>?_),H.stops.ji J (λk K e=>?_),H.e1,H.e2,H.e3,H.l1,H.l2,H.l3⟩,⟨xs,Q.ji J (λk K e=>?_),Z,λi x c M N=>⟨(hi i x c M N).1.ji J (λA n c' e Y a V=>?_),(hi i x c M N).2⟩⟩,h.lo,aG h.hi O.size⟩;.rw[dN]at U;subst U;exact⟨h.agM,h.blk.ji J (λe:g=b=>by omega)⟩
 .have:=(H.path.gJ k K).1;omega
 .have:=(H.fP.gJ k K).1;omega
 .have:=(H.stops.gJ k K).1;omega
 .have:=(Q.gJ k K).1;omega
 .have hn:=(hi i x c M N).1;rw[e]at hn;obtain⟨k,e1,h3,_⟩:=hn.addr Y;rw[V]at e1;injection e1 with e1;subst e1;show ¬k=b;omega
def anw (k:Int) (gt gc gp gn:Nat) (F ok:Θ):Prop:=(k=0/\F=.func (.func 24) #[.pointer (some ⟨gc,0,none⟩)] #[]/\ok=.bool true)\/(k=1/\F=.func (.func 25) #[] #[.pointer (some ⟨gp,0,none⟩)]/\ok=.bool true)\/(k=2/\F=.func (.func 27) #[] #[.pointer (some ⟨gp,0,none⟩)]/\ok=.bool true)\/(k=3/\F=.func (.func 29) #[] #[.pointer (some ⟨gp,0,none⟩)]/\ok=.bool true)\/(k=4/\F=.func (.func 30) #[] #[.pointer (some ⟨gt,0,none⟩),.pointer (some ⟨gp,0,none⟩),.pointer (some ⟨gn,0,none⟩)]/\ok=.bool true)\/(k=5/\F=.func (.func 32) #[] #[.pointer (some ⟨gp,0,none⟩)]/\ok=.bool true)\/(k=6/\F=.func (.func 34) #[.pointer (some ⟨gc,0,none⟩)] #[]/\ok=.bool true)\/((k<0\/6<k)/\ok=.bool false)
theorem QV{m:jl}(h:jE w t m)(hT:Tab w)(x:Tr)(N:kZ)(hx:zJ w x N)(k y now:Int)(bs:List UInt8)(Ak:Option δ)(nk ck:Nat)(bw:nk=bs.length)(hB:aq2 w Ak ck bs)(bn:bs.length<=2000)(bx:x.stops.length<=60):Γ aj 9 #[.agg m.cells,.agg (jf x N),.agg #[.int .i64 k,.int .i64 y,.slice Ak nk ck],.int .i64 now] w (aiC w t m now ⟨x,N.q,N.nx,[]⟩ k y bs):=by
 have H:Own w _ [_,_,_,_,_]:=Own.abw w 27 44 48 3 44 m.cells (jf x N) #[.int .i64 k,.int .i64 y,.slice Ak nk ck] #[.int .i64 now] nR;have ak:=λW (hW:w W)=>adG x N W (hx.below hW);have aw:=λW (hW:w W)=>QG (h.below hW) x N (hx.below hW);obtain⟨PP,am⟩:=fD (aiC w t m now ⟨x,N.q,N.nx,[]⟩ k y bs);rw[<-am];have bE:=ah am;obtain⟨R,hR⟩:=fD (yB t now ⟨x,N.q,N.nx,[]⟩ k y bs);have HR:=ah hR;have bN:Hid (Ee t x k now-> ∀e w',LC w 1 e w'->PP e w'):=ah λhb e w' hs=>by rw[am];exact⟨λ_=>hs,λhn=>absurd hb hn,λhn=>absurd hb hn⟩
 have aL:Hid (¬Ee t x k now->R.2≠0-> ∀e w',LC w R.2 e w'->PP e w'):=ah λhb h0 e w' hs=>by rw[am];rw[hR]at h0 hs;exact⟨λhn=>absurd hn hb,λ_ _=>hs,λ_ h=>absurd h h0⟩
 have aE:Hid (¬Ee t x k now->R.2=0-> ∀e w',ae6 w m now R.1 e w'->PP e w'):=ah λhb h0 e w' hs=>by rw[am];rw[hR]at h0 hs;exact⟨λhn=>absurd hn hb,λ_ h=>absurd h0 h,λ_ _=>hs⟩
 clear bE hR;have HB:Hid (nk=bs.length/\aq2 w Ak ck bs/\bs.length<=2000/\x.stops.length<=60):=ah ⟨bw,hB,bn,bx⟩;have aq:Hid (jE w t m/\Tab w):=ah ⟨h,hT⟩;clear am bw hB bn bx h hT hx;unfold nR at H;have Y:=H.b0.cell;have bS:=H.b1.cell;have a1:=H.b2.cell;have ai:=H.b3.cell;go_enter func9,ntmps9;go_wp2_with fail;generalize bX:(((((w.alloc (.cells m.cells 27)).alloc (.cells (jf x N) 44)).alloc (.cells #[.int .i64 k,.int .i64 y,.slice Ak nk ck] 48)).alloc (.cells #[.int .i64 now] 3)).alloc (.cells gL 44))=W0 at*;clear bX Y bS a1 ai;obtain⟨Bq,a6⟩:=fD W0.heap.size;have a7:w.heap.size+5<=Bq:=by rw[a6];exact H.b4.lt
 apply mZ;case lX=>intro u;simp only[bV,aq9,aP,ay,aA,aB,aT,aJ];rfl
 case hm=>kernel_rfl
 case hB=>kernel_rfl
 case hA=>kernel_rfl
 case hap=>kernel_rfl
 refine lI.is (c:=.agg (m.cells)) ?_ ?_;·(intro u w' M J;have au:=(H.b0).below M (H.b0).lt;refine fF (by first |rfl |simp[aF,ψ]) ?_;intro Z K;exact ι 27 _ rfl _ rfl 27 _ (0,0) _ au dB rfl (by kernel_rfl) (K _ _ gY rfl))
 refine lI.is (c:=.agg (jf x N)) ?_ ?_;·(intro u w' M J;have au:=(H.b1).below M (H.b1).lt;refine fF (by first |rfl |simp[aF,ψ]) ?_;intro Z K;exact ι 44 _ rfl _ rfl 44 _ (0,0) _ au bg rfl (by kernel_rfl) (K _ _ gY rfl))
 refine lI.word (anb W0 x N) (aaN _ x N) ?_ ?_;.intro u w' M J;simp[fH,aC,Is]at J;refine fF (by first |rfl |simp[aF,ψ]) ?_;intro Z K;go_wp2_with(first|(go_at_call 23;(with_reducible refine(ak _ (gZ H.below M)).mono ?_);rintro e O⟨⟨A1,c1,A2,c2,A3,c3,rfl,ca⟩,V⟩));simp only[J]at K;exact K _ _ V ⟨A1,c1,A2,c2,A3,c3,rfl,ca.mono M.size⟩
 apply lI.is;·(intro u w' M J;simp[fH,aC,Is]at J;refine fF (by first |rfl |simp[aF,ψ,J]) ?_;intro Z K;have ar:=H.grow M;have ai:=ar.b3.cell;go_wp2_with(fail);(try simp only[J]at K);refine K _ _ ?_ rfl;first|exact aH _ _|exact V)
 refine lI.word (anc W0 m x N now) (aaO _ m x N now) ?_ ?_;.intro u w' M J;simp[fH,aC,Is]at J;obtain⟨e0,e2,e3⟩:=J;obtain⟨A1,c1,A2,c2,A3,c3,e2,ht⟩:=e2;refine fF (by first |rfl |simp[aF,ψ]) ?_;intro Z K;exact UR 87 _ rfl [(0,.agg m.cells),(1,.agg (jf x (GR N A1 c1 A2 c2 A3 c3))),(2,.int .i64 now)] (by simp[Act.eval,e0,e2,e3]) _ (aaL m x _ now) (K _ _ gY ⟨A1,c1,A2,c2,A3,c3,rfl,ht⟩)
 refine lI.word (ane W0 m x N now) (aaP _ m x N now) ?_ ?_
 .intro u w' M J;simp[fH,aC,Is]at J;obtain⟨A1,c1,A2,c2,A3,c3,e4,ht⟩:=J;refine fF (by first |rfl |simp[aF,ψ]) ?_;intro Z K;go_wp2_with fail;try simp only[e4]at K
  exact K _ _ jm ⟨_,A1,c1,A2,c2,A3,c3,rfl,M.size,fK.new _ _ _,ht.below jm⟩
 refine lI.word (anf W0) (aaQ _) ?_ ?_;.intro u w' M J;clear J;refine fF (by first |rfl |simp[aF,ψ]) ?_;intro Z K;go_wp2_with fail;exact K _ _ jm ⟨_,_,rfl,M.size,fK.new _ _ _⟩
 apply lI.last;intro u w1 M J;obtain⟨gc,A1,c1,A2,c2,A3,c3,e5,ba,aR,ht⟩:=J 5 _ rfl;obtain⟨gp,yv,e6,ZW,aa⟩:=J 6 _ rfl;clear J;refine⟨by first |rfl |simp[aF,ψ],?_⟩;intro Z K;refine Ij 84 (.tmp 11) (.tmp 21) rfl gp 0 (by rw[<-e6];rfl) (.pointer (some ⟨gc,0,none⟩)) (by rw[<-e5];rfl) 84 _ aa (by simp) (by kernel_rfl) rfl (K _ _ ?_);have ax:gc≠gp:=by rintro rfl;unfold fK at aR aa;rw[aR]at aa;simp at aa
 have ar:Own w (w1.setCell ⟨gp,0,none⟩ (.pointer (some ⟨gc,0,none⟩))) [(w,27,m.cells),(w.heap.size+1,44,jf x N),(w.heap.size+1+1,48,#[.int .i64 k,.int .i64 y,.slice Ak nk ck]),(w.heap.size+1+1+1,3,#[.int .i64 now]),(w.heap.size+1+1+1+1,44,nR),(gc,87,BA m x (GR N A1 c1 A2 c2 A3 c3) now),(gp,84,#[.pointer (some ⟨gc,0,none⟩)])]:=by have cm:=H.b4.lt;have h1:=(H.grow M).turn (b:=gp) (W':=w1.setCell ⟨gp,0,none⟩ (.pointer (some ⟨gc,0,none⟩))) (aG H.below.size ZW) (λy hy=>by have:=(H.blk y hy).2.lt;omega) (by simp[dD]) (λk _ M=>aN w1 ⟨gp,0,none⟩ _ k M) ⟨rfl,rfl,rfl⟩;have h2:=h1.add (aR.far (p:=⟨gp,0,none⟩) ax (.pointer (some ⟨gc,0,none⟩))) (aG H.below.size ba) (λy hy=>by have:=(H.blk y hy).2.lt;omega);exact h2.add (aa.iV 0 _) (aG H.below.size ZW) (λy hy=>by rcases dK.1 hy with hy |hy;(.have:=(H.blk y hy).2.lt;omega);.rw[dN]at hy;subst hy;exact ax)
 rw[<-a6]at ht;have ad:nH (w1.setCell ⟨gp,0,none⟩ (.pointer (some ⟨gc,0,none⟩))) Bq x (GR N A1 c1 A2 c2 A3 c3):=(nH.away (w':=w1.setCell ⟨gp,0,none⟩ (.pointer (some ⟨gc,0,none⟩))) ht (b:=gp) ⟨rfl,rfl,rfl,by simp[dD],λk _ M=>aN w1 ⟨gp,0,none⟩ _ k (λe=>M (by rw[e]))⟩ (OC aa (by decide)));simp only[e6];generalize w1.setCell ⟨gp,0,none⟩ (.pointer (some ⟨gc,0,none⟩))=W2 at*;have aM:Bq<=gc:=by rw[a6];exact ba
 clear H M aR aa ht ba ZW ak K e5 e6;obtain⟨xn,bf⟩:=fD (GR N A1 c1 A2 c2 A3 c3);rw[<-bf]at ar ad;have bL:=ah bf;clear bf;have H:=ar;clear ar;go_upto_region 3 with(first|((with_reducible refine qE H rfl rfl ?_);intro wR kN hM fU;obtain⟨fJ,iG⟩:=fD W2.heap.size;rw[<-iG]at hM |-;have bq:w.heap.size<=fJ:=(by rw[iG];exact H.below.size);have bu: ∀z∈([(w,27,m.cells),(w.heap.size+1,44,jf x N),(w.heap.size+1+1,48,#[.int .i64 k,.int .i64 y,.slice Ak nk ck]),(w.heap.size+1+1+1,3,#[.int .i64 now]),(w.heap.size+1+1+1+1,44,nR),(gc,87,BA m x xn now),(gp,84,#[.pointer (some ⟨gc,0,none⟩)])]:List Bk),z.1≠fJ:=(λz hz=>by have:=(H.blk z hz).2.lt;omega);replace ad:=ad.below fU;replace H:=kN;clear kN fU iG;have ak:=H.b6.cell)|((with_reducible refine EU H hM bq bu rfl _ _ _ rfl rfl _ rfl _ rfl underlying93 bG rfl ?_);intro wR kN fU fJ;replace ad:=ad.away fJ (aaM hM);clear hM;replace hM:=fU;replace H:=kN;clear kN fU fJ;have a1:=H.b2.cell;have ai:=H.b3.cell;have ak:=H.b6.cell))
 go_cut [13,14] from 33 (λF ok W'=>W'=wR/\anw k w gc gp (w.heap.size+1+1+1) F ok);case first=>
  by_cases k0:k=0;.subst k0;have ac:=H.b2.cell 0;go_wp2_with(with_reducible refine kH hM rfl _ _ rfl rfl _ rfl 0 _ underlying93 bG rfl ?_);go_meet;exact⟨rfl,.inl ⟨rfl,rfl,rfl⟩⟩
  by_cases k1:k=1;.subst k1;have ac:=H.b2.cell 0;go_wp2_with(with_reducible refine kH hM rfl _ _ rfl rfl _ rfl 1 _ underlying93 bG rfl ?_);go_meet;exact⟨rfl,.inr (.inl ⟨rfl,rfl,rfl⟩)⟩
  by_cases k2:k=2;.subst k2;have ac:=H.b2.cell 0;go_wp2_with(with_reducible refine kH hM rfl _ _ rfl rfl _ rfl 2 _ underlying93 bG rfl ?_);go_meet;exact⟨rfl,.inr (.inr (.inl ⟨rfl,rfl,rfl⟩))⟩
  by_cases k3:k=3;.subst k3;have ac:=H.b2.cell 0;go_wp2_with(with_reducible refine kH hM rfl _ _ rfl rfl _ rfl 3 _ underlying93 bG rfl ?_);go_meet;exact⟨rfl,.inr (.inr (.inr (.inl ⟨rfl,rfl,rfl⟩)))⟩
  by_cases k4:k=4;.subst k4;have ac:=H.b2.cell 0;go_wp2_with(with_reducible refine kH hM rfl _ _ rfl rfl _ rfl 4 _ underlying93 bG rfl ?_);go_meet;exact⟨rfl,.inr (.inr (.inr (.inr (.inl ⟨rfl,rfl,rfl⟩))))⟩
  by_cases k5:k=5;.subst k5;have ac:=H.b2.cell 0;go_wp2_with(with_reducible refine kH hM rfl _ _ rfl rfl _ rfl 5 _ underlying93 bG rfl ?_);go_meet;exact⟨rfl,.inr (.inr (.inr (.inr (.inr (.inl ⟨rfl,rfl,rfl⟩)))))⟩
  by_cases k6:k=6;.subst k6;have ac:=H.b2.cell 0;go_wp2_with(with_reducible refine kH hM rfl _ _ rfl rfl _ rfl 6 _ underlying93 bG rfl ?_);go_meet;exact⟨rfl,.inr (.inr (.inr (.inr (.inr (.inr (.inl ⟨rfl,rfl,rfl⟩))))))⟩
  have ac:=H.b2.cell 0;have bo:k<0\/6<k:=by omega
  have bi:=ah bo;clear k0 k1 k2 k3 k4 k5 k6 bo;go_wp2_with(with_reducible refine Ef hM rfl _ _ rfl rfl _ rfl .nilFunc underlying93 bG (by kernel_rfl) (XY bi.out) ?_);go_meet;exact⟨rfl,.inr (.inr (.inr (.inr (.inr (.inr (.inr ⟨bi.out,rfl⟩))))))⟩
 case' rest=>
  obtain⟨cd,bk⟩:=hcut;subst cd;have LM:=ah bk;clear bk ak hM bu bq ax a1 ai;have ai:=H.b3.cell 0;by_cases kb:k<0\/6<k;focus(have aD:Hid (Ee t x k now):=ah (by rcases kb with h |h;exact .inl h;exact .inr (.inl h));(obtain rfl:u14=.bool false:=by rcases LM.out with h |h |h |h |h |h |h |h;all_goals first|exact h.2|(exfalso;have:=h.1;omega));clear kb LM)
  rotate_left;focus((obtain rfl:u14=.bool true:=by rcases LM.out with h |h |h |h |h |h |h |h;all_goals first|exact h.2.2|exact absurd h.1 kb);have ae:=ah kb;clear kb;rcases hmb:wY t x with _ |_;(focus(have aD:Hid (Ee t x k now):=ah (.inr (.inr (.inl hmb)));rw[hmb]at aw;clear hmb));rotate_left;focus(have ap:=ah hmb;rw[hmb]at aw;clear hmb;by_cases n0:now<0;(focus(have aD:Hid (Ee t x k now):=ah (.inr (.inr (.inr (by unfold jK;simp;omega))));(have f0:decide (now<0)=true:=by simpa using n0);clear n0));rotate_left;focus((have f0:decide (now<0)=false:=by simpa using n0);by_cases n1:268435456<now;(focus(have aD:Hid (Ee t x k now):=ah (.inr (.inr (.inr (by unfold jK;simp;omega))));(have f1:decide (now>268435456)=true:=by simpa using n1);clear n0 n1));rotate_left;·(have f1:decide (now>268435456)=false:=by simpa using n1);(have ac:jK now=true:=by unfold jK;simp;omega);have ZF:Hid (¬Ee t x k now):=ah (by rintro (h |h |h |h);(.exact ae.out (.inl h));(.exact ae.out (.inr h));(.rw[ap.out]at h;cases h);.rw[ac]at h;cases h);have bA:=ah ac;have HN:Hid (0<=now/\now<=268435456):=ah ⟨Int.not_lt.1 n0,Int.not_lt.1 n1⟩;clear n0 n1 ac;(go_upto_region 6 with(first|((with_reducible first|refine gK H ?_ _ rfl rfl _ dB rfl (by kernel_rfl) ?_|refine iQ H ?_ _ rfl rfl _ bg rfl (iF _ N) ?_);(.first|rfl|(simp[aF,ψ];done)))|(go_at_call 18;(with_reducible refine(aw _ H.below).mono ?_);rintro e O⟨rfl,V⟩;replace ad:=ad.below V;replace H:=H.grow V;have ai:=H.b3.cell 0)|((with_reducible refine RD _ H rfl _ _ rfl rfl rfl (by kernel_rfl) rfl (by kernel_rfl) ?_);intro wR kN UO av;replace H:=kN;clear kN UO av)));clear a1 ak ai V f0 f1;have Q:iJ w Bq gc m now ⟨x,xn,none,0,[]⟩ O:=⟨⟨H.below,λz hz=>by rw[dN]at hz;subst hz;exact⟨aG (aG (by omega) a7) aM,by rw[<-XW];exact H.b5⟩,by simp⟩,ad,UA.nil _ _ _ _ _,aG (by omega) a7,aG aM (Nat.le_of_lt H.b5.lt)⟩;have U:Hid (R=yB t now (Cs.plain ⟨x,xn,none,0,[]⟩) k y bs):=ah (by rw[HR.out,bL.out];rfl);have af:arz O gc ⟨x,xn,none,0,[]⟩ (w.heap.size+1+1+1+1) 44 nR:=⟨H.b4,ak5 Q aM rfl (by omega)⟩;have ag:arz O gc ⟨x,xn,none,0,[]⟩ gp 84 #[.pointer (some ⟨gc,0,none⟩)]:=⟨H.b6,ak6 Q rfl H.b6 (by decide) (by decide)⟩;have bO:w.heap.size<=gp:=(H.blk (gp,84,#[.pointer (some ⟨gc,0,none⟩)]) (by simp)).1;clear ad HR;go_cut [15] from 57 (λe W'=>apK w Bq gc m now ⟨x,xn,none,0,[]⟩ O R e W');(case first=>have al:=H.b2;rcases LM.out with h |h |h |h |h |h |h |h;(.obtain⟨rfl,rfl,-⟩:=h;(have Y:Γ aj 24 #[.pointer (some ⟨gc,0,none⟩),.agg #[.int .i64 0,.int .i64 y,.slice Ak nk ck]] O (iK w Bq gc m now ⟨x,xn,none,0,[]⟩ O R):=by rw[U.out];exact ahc Q 0 y Ak nk ck (aV _));clear LM U ae ZF Q H af ag;go_wp2_with(first|(with_reducible refine gy rfl 48 _ rfl (w.heap.size+1+1) rfl 48 _ _ al underlying48 rfl (by kernel_rfl) ?_)|(go_at_call 24;(with_reducible refine Y.mono ?_);rintro e fU⟨rfl,hP⟩));go_meet;exact⟨rfl,hP⟩);(.obtain⟨rfl,rfl,-⟩:=h;(have Y:Γ aj 25 #[.agg #[.int .i64 1,.int .i64 y,.slice Ak nk ck],.pointer (some ⟨gp,0,none⟩)] O (iK w Bq gc m now ⟨x,xn,none,0,[]⟩ O R):=by rw[U.out];exact ahz aq.out.1 aq.out.2 Q H.b6 1 y bs Ak nk ck HB.out.1 (HB.out.2.1.below H.below) HB.out.2.2.1 (aV _) (FX ap.out).1 (FX ap.out).2 HB.out.2.2.2 HN.out.1 HN.out.2);clear LM U ae ZF Q H af ag;go_wp2_with(first|(with_reducible refine gy rfl 48 _ rfl (w.heap.size+1+1) rfl 48 _ _ al underlying48 rfl (by kernel_rfl) ?_)|(go_at_call 25;(with_reducible refine Y.mono ?_);rintro e fU⟨rfl,hP⟩));go_meet;exact⟨rfl,hP⟩);(.obtain⟨rfl,rfl,-⟩:=h;(have Y:Γ aj 27 #[.agg #[.int .i64 2,.int .i64 y,.slice Ak nk ck],.pointer (some ⟨gp,0,none⟩)] O (iK w Bq gc m now ⟨x,xn,none,0,[]⟩ O R):=by rw[U.out];exact ahA aq.out.2 Q H.b6 2 y Ak nk ck (aV _) (FX ap.out).1);clear LM U ae ZF Q H af ag;go_wp2_with(first|(with_reducible refine gy rfl 48 _ rfl (w.heap.size+1+1) rfl 48 _ _ al underlying48 rfl (by kernel_rfl) ?_)|(go_at_call 27;(with_reducible refine Y.mono ?_);rintro e fU⟨rfl,hP⟩));go_meet;exact⟨rfl,hP⟩);(.obtain⟨rfl,rfl,-⟩:=h;(have Y:Γ aj 29 #[.agg #[.int .i64 3,.int .i64 y,.slice Ak nk ck],.pointer (some ⟨gp,0,none⟩)] O (iK w Bq gc m now ⟨x,xn,none,0,[]⟩ O R):=by rw[U.out];exact ahB aq.out.2 Q H.b6 3 y Ak nk ck (aV _) (FX ap.out).1);clear LM U ae ZF Q H af ag;go_wp2_with(first|(with_reducible refine gy rfl 48 _ rfl (w.heap.size+1+1) rfl 48 _ _ al underlying48 rfl (by kernel_rfl) ?_)|(go_at_call 29;(with_reducible refine Y.mono ?_);rintro e fU⟨rfl,hP⟩));go_meet;exact⟨rfl,hP⟩);(.obtain⟨rfl,rfl,-⟩:=h;(have Y:Γ aj 30 #[.agg #[.int .i64 4,.int .i64 y,.slice Ak nk ck],.pointer (some ⟨w,0,none⟩),.pointer (some ⟨gp,0,none⟩),.pointer (some ⟨w.heap.size+1+1+1,0,none⟩)] O (iK w Bq gc m now ⟨x,xn,none,0,[]⟩ O R):=by rw[U.out];exact ahD aq.out.1 Q H.b6 H.b0 H.b3 y Ak nk ck bA.out);clear LM U ae ZF Q H af ag;go_wp2_with(first|(with_reducible refine gy rfl 48 _ rfl (w.heap.size+1+1) rfl 48 _ _ al underlying48 rfl (by kernel_rfl) ?_)|(go_at_call 30;(with_reducible refine Y.mono ?_);rintro e fU⟨rfl,hP⟩));go_meet;exact⟨rfl,hP⟩);(.obtain⟨rfl,rfl,-⟩:=h;(have Y:Γ aj 32 #[.agg #[.int .i64 5,.int .i64 y,.slice Ak nk ck],.pointer (some ⟨gp,0,none⟩)] O (iK w Bq gc m now ⟨x,xn,none,0,[]⟩ O R):=by rw[U.out];exact ahC Q H.b6 5 y Ak nk ck (aV _));clear LM U ae ZF Q H af ag;go_wp2_with(first|(with_reducible refine gy rfl 48 _ rfl (w.heap.size+1+1) rfl 48 _ _ al underlying48 rfl (by kernel_rfl) ?_)|(go_at_call 32;(with_reducible refine Y.mono ?_);rintro e fU⟨rfl,hP⟩));go_meet;exact⟨rfl,hP⟩);(.obtain⟨rfl,rfl,-⟩:=h;(have Y:Γ aj 34 #[.pointer (some ⟨gc,0,none⟩),.agg #[.int .i64 6,.int .i64 y,.slice Ak nk ck]] O (iK w Bq gc m now ⟨x,xn,none,0,[]⟩ O R):=by rw[U.out];exact akL Q 6 y Ak nk ck);clear LM U ae ZF Q H af ag;go_wp2_with(first|(with_reducible refine gy rfl 48 _ rfl (w.heap.size+1+1) rfl 48 _ _ al underlying48 rfl (by kernel_rfl) ?_)|(go_at_call 34;(with_reducible refine Y.mono ?_);rintro e fU⟨rfl,hP⟩));go_meet;exact⟨rfl,hP⟩);.exact absurd h.1 ae.out);case rest=>obtain⟨rfl,s',az,bd,bc⟩:=hcut;have an:=(af.turn bd).blk;have aa:=(ag.turn bd).blk;clear af ag bd Q LM U H aw;obtain⟨er,a9⟩:=fD R.2;rw[<-a9]at aL aE |-;by_cases h0:er=0;(·(have e0:(er != 0)=false:=by simpa using h0);have a4:=ah (aE.out ZF.out h0);have bB:=ah bc;have HS:=ah az;have bh:Hid (w.heap.size+5<=Bq/\Bq<=gc):=ah ⟨a7,aM⟩;subst h0;clear aL aE a9 bc;have a8:=az.blk;have bj:(s'.cells m now)[53]? =some (.slice s'.Ao s'.out.length s'.co):=rfl;obtain⟨no,bb⟩:=fD s'.out.length;rw[<-bb]at bj;have bR:=ah bb;have cf:gp≠w.heap.size+1+1+1+1:=zn aa an (by decide);have cg:gc≠w.heap.size+1+1+1+1:=zn a8 an (by decide);have ch:=an.lt;clear bb az bO;go_upto_region 9 with fail;apply jJ [(w.heap.size+1+1+1+1,none)];(case lX=>intro u;simp only[bV,aq9,aP,ay,aA,aB,aT,aJ];rfl);(case hm=>kernel_rfl);(case hB=>kernel_rfl);(case hap=>kernel_rfl);(iterate 3(first|(apply jI.is;·(intro u w' M J;simp[fH,aC,Is]at J;refine fC (by first |rfl |simp[aF,ψ,J]) ?_;intro Z K;have ak:=(M.blk aa (by intro o h;simp at h;omega)).cell;go_wp2_with(fail);(try simp only[J]at K);refine K _ _ ?_ rfl;first|exact Stp.refl _ _|exact Stp.of_below V _))|(apply jI.is;·(intro u w' M J;simp[fH,aC,Is]at J;refine fC (by first |rfl |simp[aF,ψ,J]) ?_;intro Z K;skip;go_wp2_with(fail);(try simp only[J]at K);refine K _ _ ?_ rfl;first|exact Stp.refl _ _|exact Stp.of_below V _))));refine jI.is (c:=.agg (jf s'.x s'.m)) ?_ ?_;(.intro u w' M J;simp[fH,aC,Is]at J;have au:=M.blk a8 (by intro o h;simp at h;omega);refine fC (by first |rfl |simp[aF,ψ]) ?_;intro Z K;exact wp_load_mid 44 _ rfl gc 4 (by rw[<-J];rfl) (jf s'.x s'.m).toList _ (Vh au) bg rfl (iF _ _) (K _ _ (Stp.refl _ _) rfl));(iterate 3(first|(apply jI.is;·(intro u w' M J;simp[fH,aC,Is]at J;refine fC (by first |rfl |simp[aF,ψ,J]) ?_;intro Z K;have ak:=(M.blk aa (by intro o h;simp at h;omega)).cell;go_wp2_with(fail);(try simp only[J]at K);refine K _ _ ?_ rfl;first|exact Stp.refl _ _|exact Stp.of_below V _))|(apply jI.is;·(intro u w' M J;simp[fH,aC,Is]at J;refine fC (by first |rfl |simp[aF,ψ,J]) ?_;intro Z K;skip;go_wp2_with(fail);(try simp only[J]at K);refine K _ _ ?_ rfl;first|exact Stp.refl _ _|exact Stp.of_below V _))));apply jI.is;(·(intro u w' M J;simp[fH,aC,Is]at J;refine fC (by first |rfl |simp[aF,ψ,J]) ?_;intro Z K;have ci:=((M.blk a8 (by intro o h;simp at h;omega)).cell 53).trans bj;go_wp2_with(fail);(try simp only[J]at K);refine K _ _ ?_ rfl;first|exact Stp.refl _ _|exact Stp.of_below V _));refine jI.row (w.heap.size+1+1+1+1) 44 _ (jf s'.x s'.m) (by simp) an (by rfl) 44 _ _ rfl (by kernel_rfl) (lM _ _) ?_ ?_;(·(intro u w' M J;simp[fH,aC,Is]at J;exact⟨by first |rfl |simp[aF,ψ,J],rfl,by simp[Act.eval,J]⟩));(iterate 2(apply jI.is;·(intro u w' M J;simp[fH,aC,Is]at J;refine fC (by first |rfl |simp[aF,ψ,J]) ?_;intro Z K;skip;go_wp2_with(fail);(try simp only[J]at K);refine K _ _ ?_ rfl;first|exact Stp.refl _ _|exact Stp.of_below V _)));refine jI.nil ?_ ?_;(.simp[Go.Proofs.YthnmgjngniciaaaGreatDoor.W2.fit,qy]);intro u w7 M J;simp only[gQ]at J;have h8:fK w7 (w.heap.size+1+1+1+1) 44 (jf s'.x s'.m):=J 8 _ rfl;have h9:=J 9 _ rfl;have a5:=J 10 _ rfl;simp only[Is]at h9 a5;clear J;simp only[h9,a5];clear h9 a5;have bm:=(⟨M.os,M.tape,M.output,M.size,λk h1 ax=>M.block k h1 (λo h=>by simp at h;exact ax (by rw[h.1]))⟩:World.grownBy _ w7 (some (w.heap.size+1+1+1+1)));have cc:=ah (HS.out.low bh.out.2 (by have:=bh.out.1;omega) (by omega) bm);clear M bm;go_wp2_with fail;exact β (BD results9 _ _ _ _ _ _ _ rfl rfl rfl h8 bg rfl (iF _ _)) rfl (a4.out _ _ ⟨s',Bq,gc,cc.out,bB.out,by rw[<-bR.out];rfl⟩));·(have e0:(er != 0)=true:=by simpa using h0);have a4:=ah (aL.out ZF.out h0);have qx:Own w _ [(w.heap.size+1+1+1+1,44,nR)]:=⟨az.below,λz hz=>by rw[dN]at hz;subst hz;exact⟨by omega,an⟩,by simp⟩;unfold nR at qx;clear aL aE a9 bc h0 az an aa;go_wp2_with(((with_reducible refine oG _ qx rfl _ _ rfl rfl rfl (by kernel_rfl) rfl (by kernel_rfl) ?_);intro wR kN UO av;replace qx:=kN;clear kN UO av));exact β (BD results9 _ _ _ _ _ _ _ rfl rfl rfl qx.b0 bg rfl (by kernel_rfl)) rfl (a4.out _ _ ⟨rfl,qx.below⟩))))
 all_goals(go_wp2_with(first|((with_reducible first|refine gK H ?_ _ rfl rfl _ dB rfl (by kernel_rfl) ?_|refine iQ H ?_ _ rfl rfl _ bg rfl (iF _ N) ?_);(.first|rfl|(simp[aF,ψ];done)))|(go_at_call 18;(with_reducible refine(aw _ H.below).mono ?_);rintro e O⟨rfl,V⟩;replace ad:=ad.below V;replace H:=H.grow V;have ai:=H.b3.cell 0)|((with_reducible refine RD _ H rfl _ _ rfl rfl rfl (by kernel_rfl) rfl (by kernel_rfl) ?_);intro wR kN UO av;replace H:=kN;clear kN UO av));exact β (BD results9 _ _ _ _ _ _ _ rfl rfl rfl H.b4 bg rfl (by kernel_rfl)) rfl (bN.out aD.out _ _ ⟨rfl,H.below⟩))
end Go.Proofs.YthnmgjngniciaaaGreatDoor
