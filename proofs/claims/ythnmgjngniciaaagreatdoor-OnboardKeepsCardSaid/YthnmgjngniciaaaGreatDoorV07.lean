/- Parts. -/
import Derived.Test.YthnmgjngniciaaaGreatDoorV06
import Derived.WalkMore
import Derived.Scope
import Derived.Shelf.SlicesQ.Index
set_option linter.all false
set_option maxHeartbeats 16000000
set_option maxRecDepth 8000
open Array renaming getElem?_append_left->dS,getElem?_eq_getElem->cO,getElem?_eq_none->dI,getElem?_setIfInBounds_ne->dR
open Bool renaming and_eq_true->bM,eq_false_iff->bY,false_eq_true->bU
open List renaming cons_append->bQ,drop_of_length_le->dJ,getD_eq_getElem?_getD->bH,getElem?_cons_succ->fB,getElem?_eq_getElem->aI,getElem?_eq_some_iff->aX,getElem?_map->bW,getElem?_take_of_lt->dG,length_append->bC,length_cons->bK,length_eq_zero_iff->dh,length_map->eU,length_nil->dU,length_take->dX,map->bV,map_append->eX,mem_append->dK,mem_cons->bJ,mem_of_getElem?->bP,mem_singleton->dN,nil_append->aZ,not_mem_nil->dH,range->eY,setIfInBounds_toArray->ay,set_cons_succ->aB,set_cons_zero->aA,take_of_length_le->aY
open Nat renaming add_zero->bI,le_of_eq->bZ,le_refl->aW,le_succ->ϗ,le_trans->aG,lt_of_lt_of_le->aU,lt_or_ge->eu,reduceAdd->aT,zero_add->aJ,zero_le->aV
open Option renaming getD_some->eG,map_some->eF
open Option.some renaming injEq->aO
namespace Go.Proofs.YthnmgjngniciaaaGreatDoor
open Go renaming Addr->δ,Calls->Γ,Ending->ε,Oper->ο,Operand->κ,Program->χ,TypeId->τ,Value->Θ,World->ω,bodyPost_ret->β,callFunc->ϕ,maxLen->μ,run_eql_struct->ϑ,run_equalIn_agg->ϐ,undef->υ,wp_load_row->ι,yielded->ψ
open Go.RowKit Go.Shelf Tryz
open Act renaming put->aP
open Addr.mk renaming injEq->cZ
open Below renaming heap_setCell->aN,refl->aH
open Lib renaming hid->ah
open Region renaming binds->aC,wanted->aF
open Result renaming andThen_ok->dO
open Tryz renaming prog->aj,underlying27->dB,underlying3->bG,underlying4->dL,underlying42->dA,underlying44->bg
open Value renaming oneCell'->aK
open World renaming setCell->dD
variable{a:Act}{K:Act->ω->Prop}{ops:Array ο}{cs old:Array Θ}{rev:Bool}{Q:Exit->Act->ω->Prop}{fr gap n now ref kL:Int}{L1 L2:List Bk}{ss:List Sc}{p:List St}{bs:List UInt8}{B b bl ck g gc gg gl gm gn go gp gs gt i j k nk off s1 s2:Nat}{T:Nat->ω->ω->Prop}{o:ο}{A Ak As:Option δ}{P:χ}{s:St}{t:Tp}{m:jl}{x:Tr}{xn:kZ}{o2 v:Θ}{W W' w w' w4 ww:ω}
def sZ {α:Type} (q:α->Bool) (l:List α):Int:=match l.findIdx? q with |some i=>i |none=> -1
theorem agP{α:Type}{q:α->Bool}{l:List α}{x:α}(J:l[k]? =some x)(O:q x=true)(hn: ∀y∈l.take k,q y=false):sZ q l=k:=by
 unfold sZ;have h:l.findIdx? q=some k:=by rw[List.findIdx?_eq_some_iff_getElem];obtain⟨H,M⟩:=aX.1 J;refine⟨H,by grind,λj N=>?_⟩;have:=hn l[j] (by rw[List.mem_take_iff_getElem];grind);simpa using this
 rw[h]
def aaC{α:Type}{q:α->Bool}{l:List α}(hn: ∀y∈l,q y=false):sZ q l= -1:=by unfold sZ;rw[List.findIdx?_eq_none_iff.2 hn]
theorem aea{α:Type}(q:α->Bool)(l:List α):decide (0<=sZ q l)=l.any q:=by unfold sZ;cases h:l.findIdx? q with|none=>grind|some i=>obtain⟨H,J,_⟩:=List.findIdx?_eq_some_iff_getElem.1 h;have M:l.any q=true:=List.any_eq_true.2 ⟨_,List.getElem_mem H,J⟩;rw[M];simp
def aeb{α:Type}(q:α->Bool)(l:List α):sZ id (l.map q)=sZ q l:=by unfold sZ;rw[List.findIdx?_map];rfl
theorem aec(F:FuncId)(af: ∀(args:Array Θ) (W:ω),(ϕ F args).run aj W=.ok (.enter F args) W)(J:List Bool)(A:Option δ)(n c:Nat)(xs:List WV)(w:ω)(hF: ∀(i:Nat) x b,xs[i]? =some x->J[i]? =some b-> ∀W,w W->Γ aj F #[.agg #[x.id,.slice x.A x.n x.c]] W λe w'=>e=.returned b/\W w')(hR:fE qJ w A xs)(hn:xs.length=n)(ae:J.length=n)(hb:n<=1000000):Γ aj 255 #[.slice A n c,.func (.func F) #[] #[]] w λe w'=>e=.returned (sZ id J:Int)/\w w':=by
 have HN:=ah hn;have HF:=ah hF;have Y:=ah ae;go_enter func255,ntmps255;go_wp2_with fail;go_loopw [8] (λi wr=> ∃k:Nat,i=.int .i64 k/\k<=n/\w wr/\Hid (∀y∈J.take k,id y=false)) (λi _=>n-(intOf i).toNat);case atStart=>exact⟨0,rfl,aV _,aH _ _,ah (by simp)⟩
 case round=>
  obtain⟨k,rfl,hk,H,O⟩:=hrel;by_cases ad:k<n;.obtain⟨x,hx⟩:=aq5 HN.out ad;obtain⟨g,off,hA,ag,hc⟩:=(hR.below H).get hx;subst hA;have a0:=hc 0 _ rfl;have a1:=hc 1 _ rfl;simp only[qJ,bI]at a0 a1;obtain⟨b,aa⟩:=aq5 Y.out ad;have ac:=HF.out k x b hx aa wr H;have V:=ah aa;cases b with|false=>have WU:Hid (∀y∈J.take (k+1),id y=false):=ah (by rw[take_snoc' V.out];intro y M;rcases dK.1 M with M |M;(.exact O.out y M);.simp at M;assumption);go_wp2_with((refine ac.mono ?_);rintro e w3⟨rfl,N⟩);go_roundw;(case rel=>exact⟨k+1,by go_num,by omega,H.trans (N.mono H.size),WU⟩);case measure=>simp[intOf];omega|true=>have U:Hid (sZ id J=(k:Int)):=ah (agP V.out rfl O.out);go_wp2_with((refine ac.mono ?_);rintro e w3⟨rfl,N⟩);go_ret;exact⟨by rw[U.out];rfl,H.trans (N.mono H.size)⟩
  ·(obtain rfl:k=n:=by omega);have U:Hid (sZ id J= -1):=ah (aaC (by have Z:=O.out;rw[aY (by rw[Y.out];simp)]at Z;exact Z));go_wp2_with fail;go_ret;exact⟨by rw[U.out];rfl,H⟩
theorem agQ(F:FuncId)(V: ∀(args:Array Θ) (W:ω),(ϕ F args).run aj W=.ok (.enter F args) W)(H:List Bool)(A:Option δ)(n c:Nat)(xs:List WV)(w:ω)(hF: ∀(i:Nat) x b,xs[i]? =some x->H[i]? =some b-> ∀W,w W->Γ aj F #[.agg #[x.id,.slice x.A x.n x.c]] W λe w'=>e=.returned b/\W w')(N:fE qJ w A xs)(hn:xs.length=n)(Y:H.length=n)(O:n<=1000000):Γ aj 253 #[.slice A n c,.func (.func F) #[] #[]] w λe w'=>e=.returned (.bool (H.any id))/\w w':=by have J:=aec F V H A n c xs w hF N hn Y O;have M:=aea id H;obtain⟨i,hi⟩:=fD (sZ id H);rw[<-hi]at J M;obtain⟨b,U⟩:=fD (H.any id);rw[<-U]at M |-;go_enter func253,ntmps253;go_wp2_with((with_reducible refine J.mono ?_);rintro e w3⟨rfl,Z⟩);go_ret;simp_all
def UD: ∀args w,(ϕ 252 args).run aj w=.ok (.enter 252 args) w:=enters_of func252 (by rfl) (by rfl)
def UE: ∀args w,(ϕ 256 args).run aj w=.ok (.enter 256 args) w:=enters_of func256 (by rfl) (by rfl)
theorem agR(x:WV)(w:ω):Γ aj 256 #[.agg #[x.id,.slice x.A x.n x.c]] w λe w'=>e=.returned (.bool (decide (x.id=5)))/\w w':=by have H:Own w _ [_]:=Own.jD w 198 #[x.id,.slice x.A x.n x.c];have hc:=H.b0.cell;obtain⟨i,A,n,c⟩:=x;go_enter func256,ntmps256;go_wp2_with fail;go_ret;exact⟨rfl,H.below⟩
def G9 (p:Pk):Bool:=match mO p with | .ok _=>false | .error _=>true
theorem agS(p:Pk)(x:WV)(w:ω)(N:Tab w)(V:x.id=p.id)(U:fE aq7 w x.A p.v)(hn:p.v.length=x.n)(O:x.n<=60000)(hc:x.n<=x.c/\x.c<=μ):Γ aj 252 #[.agg #[x.id,.slice x.A x.n x.c]] w λe w'=>e=.returned (.bool (G9 p))/\w w':=by
 obtain⟨i,A,n,c⟩:=x;obtain rfl:i=p.id:=V;have J:Own w _ [_]:=Own.jD w 198 #[p.id,.slice A n c];have aa:=J.b0.cell;have H:=PZ p A n c _ (N.below J.below) (U.below J.below) hn O hc;unfold vG at H;unfold G9;cases hi:mO p with
 |error er=>
  rw[hi]at H;simp only at H |-;have Z:(er != 0)=true:=by rw[bne_iff_ne];exact Gw hi
  go_enter func252,ntmps252;go_wp2_with((with_reducible refine H.mono ?_);rintro e Y⟨M,rfl⟩);go_ret;exact⟨rfl,(J.grow M).below⟩
 |ok l=>rw[hi]at H;simp only at H |-;go_enter func252,ntmps252;go_wp2_with((with_reducible refine H.mono ?_);rintro e Y⟨M,A3,c3,rfl,_⟩);go_ret;exact⟨rfl,(J.grow M).below⟩
def UF (t:Tp) (ref:Int) (rev:Bool) (ss:List Sc) (gap:Int):Except Int (List St)->Except Int Ma
 | .error er=> .error er
 | .ok path=>if rX t ⟨ref,rev,path,ss,gap⟩=true then .ok ⟨ref,rev,path,ss,gap⟩ else .error 7
def Y1 (t:Tp) (ref:Int) (rev:Bool) (L:Except Int (List St)):Except Int (List Sc × Int)->Except Int Ma
 | .error er=> .error er
 | .ok (ss,gap)=>UF t ref rev ss gap L
def Oy (t:Tp) (e:Int) (rev:Bool) (ps:List Pk) (iq:Int):Except Int (List St):=if 0<=iq then FD t [⟨e,rev⟩] (ps.getD iq.toNat ⟨0,[]⟩).v else .ok [⟨e,rev⟩]
def ql (t:Tp) (ref:Int) (rev:Bool) (ps:List Pk):Except Int Ma:=if jr t≠0 then .error 1 else match oz t ref,ps with
 |none,_=> .error 4
 |some _,[]=> .error 50
 |some b,p::r=>if p.id≠15\/(p::r).any G9=true then .error 50 else Y1 t ref rev (Oy t b.edge rev (p::r) (sZ (fun q:Pk=>decide (q.id=5)) (p::r))) (qK rev p.v)
def Oz(u:Int): ∀(k:Nat) (l:List Int) (at_:Int) (ss:List Sc) (R:List Int × List Sc),wP u k l at_ ss=.ok R->R.2.length=ss.length+k
 |0,l,f,ss,R,h=>by rw[wP]at h;cases h;rfl
 |k+1,l,f,ss,R,h=>by
  rw[wP]at h;split at h;.cases h
  .have:=Oz u k _ _ _ R h;simp only[bC,List.length_singleton]at this;omega
theorem QF{v:List Int}(h:qK rev v=.ok (ss,gap)):ss.length<=8:=by
 unfold qK at h;split at h;.cases h
 split at h;.cases h
 cases H:wP (v.tail.headD 0) (v.tail.tail.tail.tail.headD 0+1).toNat v.tail.tail.tail.tail.tail 0 [] with|error er=>grind|ok q=>have J:=Oz _ _ _ _ _ _ H;rw[H]at h;obtain⟨l,s2⟩:=q;simp only[dU]at J h;unfold aae at h;grind
theorem He(t:Tp): ∀(k:Nat) (l:List Int) (J i:Int) (path H:List St),path.length<=24->qL t k l J i path=.ok H->H.length<=24
 |0,l,J,i,path,H,M,h=>by rw[qL]at h;cases h
 |k+1,l,J,i,path,H,M,h=>by
  rw[qL]at h;split at h;.split at h;(.cases h);.split at h;(.split at h;(.exact He t k _ _ _ _ _ M h);.split at h;(.cases h);.split at h;(.cases h);.rename_i N;refine He t k _ _ _ _ _ ?_ h;grind);grind
  grind
structure oV (w:ω) (B:Nat) (m:Ma) (v:DF):Prop where
  path:aq1 gV 58 w B v.A1 v.c1 m.path
  fP:aq1 kW 60 w B v.A2 v.c2 m.fP
  e1:m.path.length=v.n1
  e2:m.fP.length=v.n2
  l1:v.n1<=100
  l2:v.n2<=100
def oV.is_{m:Ma}{v:DF}(h:oV w B m v):EK w m v:=⟨h.path.rows,h.fP.rows,h.e1,h.e2,h.l1,h.l2,by have:=h.path.cap.1;rw[h.e1]at this;omega,by have:=h.fP.cap.1;rw[h.e2]at this;omega⟩
theorem oV.ji{D:Nat->Prop}{m:Ma}{v:DF}(h:oV w B m v)(H:jV D w w')(M: ∀k,D k->k<B\/w.heap.size<=k):oV w' B m v:={h with path:=h.path.ji H (λg e J=>by have:=h.path.gJ g e;grind),fP:=h.fP.ji H (λg e J=>by have:=h.fP.gJ g e;grind)}
def oV.base{H:Nat}{m:Ma}{v:DF}(h:oV w B m v)(J:H<=B):oV w H m v:={h with path:=h.path.mono J,fP:=h.fP.mono J}
def aed (w:ω) (R:Except Int Ma) (e:ε) (w':ω):Prop:=w w'/\match R with
 | .error er=>e=.returned (.tuple #[.agg gj,.int .i64 er])/\er≠0
 | .ok m=> ∃v,e=.returned (.tuple #[.agg (nO m v),.int .i64 0])/\oV w' w m v
theorem UG{α:Type}{q:α->Bool}{l:List α}(h:0<=sZ q l): ∃k x,sZ q l=((k:Nat):Int)/\l[k]? =some x:=by unfold sZ at*;cases J:l.findIdx? q with|none=>grind|some k=>obtain⟨H,_⟩:=List.findIdx?_eq_some_iff_getElem.1 J;exact⟨k,l[k],rfl,aI H⟩
def RdP (w4:ω) (gm B:Nat) (ref:Int) (rev:Bool) (path:List St) (As:Option δ) (cs:Nat) (ss:List Sc) (gap:Int) (W:ω):Prop:=w4 W/\ ∃A c,fK W gm 42 #[.int .i64 ref,.bool rev,.slice A path.length c,.slice As ss.length cs,.int .i64 gap]/\aq1 gV 58 W B A c path/\aq1 kW 60 W B As cs ss
theorem RdP.below{path:List St}{cs:Nat}(h:RdP w4 gm B ref rev path As cs ss gap W)(H:W W'):RdP w4 gm B ref rev path As cs ss gap W':=by obtain⟨J,A,c,M,N,O⟩:=h;exact⟨J.trans (H.mono J.size),A,c,M.below H M.lt,N.below H,O.below H⟩
def RdW (w4:ω) (gm B:Nat) (ref:Int) (rev:Bool) (L:Except Int (List St)) (As:Option δ) (cs:Nat) (ss:List Sc) (gap:Int) (v:Θ) (W:ω):Prop:=match L with
 | .error er=>v=.int .i64 er/\er≠0/\w4 W
 | .ok path=>v=.int .i64 0/\RdP w4 gm B ref rev path As cs ss gap W
def RdW.grow{L:Except Int (List St)}{cs:Nat}(h:RdW w4 gm B ref rev L As cs ss gap v W)(H:W W'):RdW w4 gm B ref rev L As cs ss gap v W':=by cases L with|error er=>exact⟨h.1,h.2.1,h.2.2.trans (H.mono h.2.2.size)⟩|ok path=>exact⟨h.1,h.2.below H⟩
theorem MV{t:τ}{V Y Z o4:Θ}(h:fK W b t #[V,Y,o2,Z,o4])(H:w.heap.size<=b)(hB:w W)(J M N O U:Θ):fK (((((W.setCell ⟨b,0,none⟩ J).setCell ⟨b,1,none⟩ M).setCell ⟨b,2,none⟩ N).setCell ⟨b,3,none⟩ O).setCell ⟨b,4,none⟩ U) b t #[J,M,N,O,U]/\w (((((W.setCell ⟨b,0,none⟩ J).setCell ⟨b,1,none⟩ M).setCell ⟨b,2,none⟩ N).setCell ⟨b,3,none⟩ O).setCell ⟨b,4,none⟩ U):=⟨((((h.iV 0 J).iV 1 M).iV 2 N).iV 3 O).iV 4 U,((((hB.setCell (p:=⟨b,0,none⟩) H _).setCell (p:=⟨b,1,none⟩) H _).setCell (p:=⟨b,2,none⟩) H _).setCell (p:=⟨b,3,none⟩) H _).setCell (p:=⟨b,4,none⟩) H _⟩
theorem aee(h:jE w t m)(hT:Tab w)(ref:Int)(rev:Bool)(A:Option δ)(c:Nat)(ps:List Pk)(xs:List WV)(hx:fE qJ w A xs)(B:Nat)(Y:rH w B A xs ps)(cB:ps.length<=2000)(bA: ∀p∈ps,p.v.length<=8184)(cC: ∀p∈ps,∀x∈p.v,0<=x/\x<=4294967295):Γ aj 221 #[.agg m.cells,.int .i64 ref,.bool rev,.slice A ps.length c] w (aed w (ql t ref rev ps)):=by
 obtain⟨R,hR⟩:=fD (ql t ref rev ps);rw[<-hR];unfold ql at hR;have hO:Own w _ [_,_]:=Own.iY w 27 42 m.cells gj;have av:=yK (h.below hO.below);have lF:=λW (hW:w W)=>Hw (h.below hW) ref;have c6:=hO.b0.cell;obtain⟨W1,cY⟩:=fD ((w.alloc (.cells m.cells 27)).alloc (.cells gj 42));obtain⟨n,hn⟩:=fD ps.length;rw[<-hn];have HN:=ah hn;have HR:=ah hR;clear hn hR;unfold jl.cells at*;by_cases ad:jr t=0;focus(
  have e0:(jr t != 0)=false:=by simpa using ad
  rcases V:oz t ref with _ |b;focus(rw[V]at lF;simp only[Option.getD_none,Option.isSome_none,blV]at lF;have aa:Hid (R=.error 4):=ah (by rw[HR.out,Ξ (by simpa using ad),V]);clear ad V;go_enter func221,ntmps221;go_wp2_with(first|(go_at_call 36;(with_reducible refine av.mono ?_);rintro e w2⟨rfl,ae⟩;have H:=hO.grow ae;have aL:=H.b0.cell;have a4:=H.b1.cell;have a6:=H.b1.frozen)|(go_at_call 49;(with_reducible refine(lF _ H.below).mono ?_);rintro e w3⟨rfl,af⟩;have M:=(H.grow af).alloc 114 gC _ rfl;have aM:=M.b0.cell;have a5:=M.b1.cell;have a7:=M.b1.frozen)))
  rotate_left;focus(
   rw[V]at lF;simp only[eG,Option.isSome_some,blV]at lF;rcases ps with _ |⟨p,r⟩;(focus(have aa:Hid (R=.error 50):=ah (by rw[HR.out,Ξ (by simpa using ad),V]);have ch:n=0:=HN.out;(have e1:((n:Int)==0)=true:=by rw[ch];rfl);clear ad V ch;go_enter func221,ntmps221;go_wp2_with(first|(go_at_call 36;(with_reducible refine av.mono ?_);rintro e w2⟨rfl,ae⟩;have H:=hO.grow ae;have aL:=H.b0.cell;have a4:=H.b1.cell;have a6:=H.b1.frozen)|(go_at_call 49;(with_reducible refine(lF _ H.below).mono ?_);rintro e w3⟨rfl,af⟩;have M:=(H.grow af).alloc 114 #[.int .i64 b.id,.int .i64 b.edge,.int .i64 b.at_] _ rfl;have aM:=M.b0.cell;have a5:=M.b1.cell;have a7:=M.b1.frozen))));rotate_left;focus(
    obtain⟨x,xr,rfl⟩: ∃x xr,xs=x::xr:=by
     cases xs with
     |nil=>cases Y.1
     |cons x xr=>exact⟨x,xr,rfl⟩
    have bo:=Y.2 0 x p rfl rfl;(have dt:0<n:=by have:=HN.out;simp at this;omega);(have e1:((n:Int)==0)=false:=by simp;omega);obtain⟨g,off,hA,cx,bk⟩:=hx.get (i:=0) (x:=x) rfl;(have k0: ∀W',w W'->W'.cell? ⟨g,off,none⟩=some (.int .i64 p.id):=λW' ax=>by have U:=bk 0 _ rfl;simp only[qJ,Nat.zero_mul,bI,bo.id]at U;exact(ax.cell (p:=⟨g,off,none⟩) cx).trans U);(have k1: ∀W',w W'->W'.cell? ⟨g,off+1,none⟩=some (.slice x.A x.n x.c):=λW' ax=>by have U:=bk 1 _ rfl;simp only[qJ,Nat.zero_mul,bI]at U;exact(ax.cell (p:=⟨g,off+1,none⟩) cx).trans U);subst hA;(have bE:(x::xr).length=n:=by rw[HN.out];exact Y.1);have hw:=λW (hW:w W)=>agQ 252 UD ((p::r).map G9) (some ⟨g,off,none⟩) n c (x::xr) W (λi y b' hy ar W' cn=>by rw[bW]at ar;obtain⟨q,hq,rfl⟩:=Option.map_eq_some_iff.1 ar;have hp:=Y.2 i y q hy hq;have ct:=hW.trans (cn.mono hW.size);exact(agS q y W' (hT.below ct) hp.id (hp.row.below ct) hp.n.symm (by have:=bA q (bP hq);have:=hp.n;omega) hp.c)) (hx.below hW) bE (by rw[eU];exact HN.out.symm) (by have:=HN.out;omega);obtain⟨wb,bB⟩:=fD (((p::r).map G9).any id);rw[<-bB]at hw;have cJ:Hid (wb=(p::r).any G9):=ah (by rw[bB,List.any_map];rfl);obtain⟨ib,bn⟩:=fD (p.id != 15);have e2:(p.id != 15)=ib:=bn.symm;have cF:Hid (ib=true<->p.id≠15):=ah (by rw[bn,bne_iff_ne]);have an:Hid (R=if ib=true\/wb=true then .error 50 else Y1 t ref rev (Oy t b.edge rev (p::r) (sZ (λq:Pk=>decide (q.id=5)) (p::r))) (qK rev p.v)):=ah (by rw[HR.out,Ξ (by simpa using ad),V];simp only[cF.out,cJ.out]);have HX:=ah hx;have HK:=ah Y;have cI:=ah bA;have bX:=ah cC;have aD:=ah bo;have ca:=ah bE;have cG:=ah cB;clear ad V bB bn hx Y bA cC bo bk bE cB HR;go_enter func221,ntmps221;(go_upto_region 7 with(first|(go_at_call 36;(with_reducible refine av.mono ?_);rintro e w2⟨rfl,ae⟩;have H:=hO.grow ae;have aL:=H.b0.cell;have a4:=H.b1.cell;have a6:=H.b1.frozen)|(go_at_call 49;(with_reducible refine(lF _ H.below).mono ?_);rintro e w3⟨rfl,af⟩;have M:=(H.grow af).alloc 114 #[.int .i64 b.id,.int .i64 b.edge,.int .i64 b.at_] _ rfl)));have aM:=M.b0.cell;have a5:=M.b1.cell;have a7:=M.b1.frozen;have m0:=k0 _ M.below;have az:=hw _ M.below;obtain⟨W3,cu⟩:=fD (w3.alloc (.cells #[.int .i64 b.id,.int .i64 b.edge,.int .i64 b.at_] 114));rw[<-cu]at M aM a5 a7 m0 az |-;obtain⟨b10,kQ⟩:=fD w3.heap.size;rw[<-kQ]at M |-;clear cu kQ ae af H aL a4 a6 av lF hw c6 cY hO;have dj: ∀W4,W3 W4->R=.error 50-> ∀(tmps:Array Θ),tmps.getD 8 υ=.pointer (some ⟨w.heap.size+1,0,none⟩)->tmps.getD 9 υ=.int .i64 50->True:=λ_ _ _ _ _ _=>trivial;clear dj;rcases ib with _ |_
    .rcases wb with _ |_;focus(
      (go_upto_region 10 with(go_at_call 253;(with_reducible refine az.mono ?_);rintro e w4⟨rfl,bi⟩;have J:=M.grow bi;have cN:=J.b2.cell));have cP:=J.b0.lt;have dy:=J.b2.lt;have cQ:=J.b1.lt;have cd: ∀x∈p.v,0<=x/\x<=4294967295:=bX.out p (by simp);have df:p.v.length<=8184:=cI.out p (by simp);obtain⟨gm,a8⟩:=fD (w4.heap.size+1);obtain⟨b4,cR⟩:=fD w4.heap.size;have au:w4 ((w4.alloc (.cells #[.int .i64 b.edge,.bool rev] 58)).alloc (.cells #[.int .i64 ref,.bool rev,.slice (some ⟨w4,0,none⟩) 1 1,.slice none 0 0,.int .i64 0] 42)):=jm.alloc (by simp) _;have cw:=(fK.new w4 58 #[.int .i64 b.edge,.bool rev]).below (gY.alloc ig (.cells #[.int .i64 ref,.bool rev,.slice (some ⟨w4,0,none⟩) 1 1,.slice none 0 0,.int .i64 0] 42)) (by simp);have ac:=fK.new (w4.alloc (.cells #[.int .i64 b.edge,.bool rev] 58)) 42 #[.int .i64 ref,.bool rev,.slice (some ⟨w4,0,none⟩) 1 1,.slice none 0 0,.int .i64 0];have bu:=aq1.adh (E:=gV) (base:=w4.heap.size) (xs:= [(⟨b.edge,rev⟩:St)]) cw ig (show 1<=μ by decide) rfl;rw[show(w4.alloc (.cells #[.int .i64 b.edge,.bool rev] 58)).heap.size=gm by rw[a8];simp]at ac;rw[<-a8];obtain⟨W5,Xg⟩:=fD ((w4.alloc (.cells #[.int .i64 b.edge,.bool rev] 58)).alloc (.cells #[.int .i64 ref,.bool rev,.slice (some ⟨w4,0,none⟩) 1 1,.slice none 0 0,.int .i64 0] 42));rw[<-Xg]at au ac bu |-;have cD:w W5:=J.below.trans (au.mono J.below.size);have bx:=au.size;have dc:=k1 W5 cD;have CZ:fE aq7 W5 x.A p.v:=aD.out.row.below cD;have bc:x.n=p.v.length:=aD.out.n;have yL:=Xk (B:=w4.heap.size) ref rev (.slice (some ⟨w4,0,none⟩) 1 1) p.v x.A x.c ac CZ (λhl a e=>aU (Qb aD.out.row hl a e) J.below.size) (by omega) (by have:=aD.out.c;rw[bc]at this;exact this) cd;rw[<-bc]at yL;obtain⟨S,hS⟩:=fD (qK rev p.v);rw[<-hS]at yL;have HS:=ah hS;have aw:=λW (hW:w W)=>aec 256 UE ((p::r).map (λq=>decide (q.id=5))) (some ⟨g,off,none⟩) n c (x::xr) W (λi y b' hy ar W' cn=>by rw[bW]at ar;obtain⟨q,hq,rfl⟩:=Option.map_eq_some_iff.1 ar;have hp:=HK.out.2 i y q hy hq;rw[<-hp.id];exact agR y W') (HX.out.below hW) ca.out (by rw[eU];exact HN.out.symm) (by have:=HN.out;have:=cG.out;omega);rw[aeb]at aw;obtain⟨iq,a9⟩:=fD (sZ (λq:Pk=>decide (q.id=5)) (p::r));rw[<-a9]at aw;have bN:=ah a9;obtain⟨L,hL⟩:=fD (Oy t b.edge rev (p::r) iq);have HL:=ah hL;have aE:Hid (R=Y1 t ref rev L S):=ah (by rw[an.out,Ξ (by simp),hS,hL,a9]);have dk:=ah a8;(have cS:w4.heap.size<gm:=by omega);clear a9 hS hL a8 cR Xg cw bc CZ cd df aM a5 a7 cN az m0;rcases S with er |sg;(.obtain⟨c9,dx⟩:Hid (R=.error er)/\True:=⟨ah aE.out,trivial⟩;clear aE an;unfold GI at yL;simp only at yL;go_wp2_with(first|(go_at_call 254;(with_reducible refine yL.mono ?_);rintro e w6⟨Gz,rfl,ai⟩;have a1:=Gz.below (B:=w4.heap.size) bx (λk Y=>by omega);have vW:=J.grow (au.trans (a1.mono ig));have e7:(er==0)=false:=by {rw[beq_eq_false_iff_ne];exact ai};have e8:(er != 0)=true:=by {rw[bne_iff_ne];exact ai})|(go_at_call 255;(with_reducible refine(aw _ vW.below).mono ?_);rintro e w7⟨rfl,ag⟩;have uy:=vW.grow ag;have fU:=uy.b1.frozen;have fJ:=uy.b1.cell));have O:=MV uy.b1 (ϗ _) uy.below (.int .i64 0) (.bool false) (.slice none 0 0) (.slice none 0 0) (.int .i64 0);refine β (gU results221 _ _ _ _ _ _ rfl rfl O.1 dA rfl (by kernel_rfl)) rfl ?_;rw[c9.out];exact⟨O.2,rfl,ai⟩);focus(
       obtain⟨ss,gap⟩:=sg;unfold GI at yL;simp only at yL;have cH:Hid (ss.length<=8):=ah (QF HS.out.symm);have bR:Hid (R=UF t ref rev ss gap L):=ah aE.out;clear aE an;obtain⟨pb,bw⟩:=fD (decide (0<=iq));have e9:decide (0<=iq)=pb:=bw.symm;have bO:Hid (pb=true<->0<=iq):=ah (by rw[bw,decide_eq_true_iff]);clear bw
       go_upto_if 65 with (first
         |(go_at_call 254;(with_reducible refine yL.mono ?_);rintro e w6⟨Gz,rfl,As,cs,bd,cf⟩;have a1:=Gz.below (B:=w4.heap.size) bx (λk Y=>by omega);have aR:=au.trans (a1.mono ig);have vW:=J.grow aR;have cg:=bu.ji Gz (λx e=>by simp at e;omega))
         |(go_at_call 255;(with_reducible refine(aw _ vW.below).mono ?_);rintro e w7⟨rfl,ag⟩;have uy:=vW.grow ag;have aq:RdP w4 gm w4 ref rev [⟨b.edge,rev⟩] As cs ss gap w7:=⟨aR.trans (ag.mono aR.size),_,1,bd.below ag bd.lt,cg.below ag,(cf.mono bx).below ag⟩))
       have dm:w.heap.size<w4.heap.size:=cP;have dz:w4.heap.size<=w7.heap.size:=aq.1.size;clear Gz bd cf a1 aR vW cg ag yL aw dc ac bu;go_cut [14] from 16 (λv W=>RdW w4 gm w4 ref rev L As cs ss gap v W);case first=>
        cases pb with
        |false=>(have cW:L=.ok [⟨b.edge,rev⟩]:=by rw[HL.out,Oy,Ξ (λh=>by cases bO.out.2 h)]);subst cW;go_wp2_with fail;go_meet;exact⟨rfl,aq⟩
        |true=>
         have bm:=bO.out.1 rfl;rw[bN.out]at bm;obtain⟨kq,q,cy,hq⟩:=UG bm;have dd:kq<(p::r).length:=(aX.1 hq).1;obtain⟨xq,bL⟩: ∃y,(x::xr)[kq]? =some y:=⟨_,aI (by have:=ca.out;have:=HN.out;omega)⟩;have am:=HK.out.2 kq xq q bL hq;(have dv:kq<n:=by have:=HN.out;omega);have cT:iq=(kq:Int):=bN.out.trans cy;subst cT;obtain⟨g2,dT,bf,cU,EF⟩:=HX.out.get bL;injection bf with bf;injection bf with c7 de;subst c7;subst de;have cE: ∀W',w W'->W'.cell? ⟨g,off+kq*2+1,none⟩=some (.slice xq.A xq.n xq.c):=λW' ax=>(ax.cell (p:=⟨g,off+kq*2+1,none⟩) cU).trans (EF 1 _ rfl);(have ci:L=FD t [⟨b.edge,rev⟩] q.v:=by rw[HL.out,Oy,Υ (by omega),Int.toNat_natCast,bH,hq,eG]);(have cm: ∀W,RdP w4 gm w4 ref rev [⟨b.edge,rev⟩] As cs ss gap W->Γ aj 257 #[.agg m.cells,.pointer (some ⟨gm,0,none⟩),.slice xq.A xq.n xq.c] W (λe w'=> ∃v,e=.returned v/\(w4 W->w4 w')/\RdW w4 gm w4 ref rev L As cs ss gap v w'):=λW hP=>by obtain⟨U,A1,c1,h2,h3,h4⟩:=hP;have da:=h.below J.below;have di:fE aq7 W xq.A q.v:=(am.row.below J.below).below U;have h5:=adC (w0:=w4) da (gm:=gm) (Bq:=w4.heap.size) ref rev As cs ss gap [⟨b.edge,rev⟩] A1 c1 U h2 h3 h4 ⟨aW _,Nat.le_of_lt cS,U.size,U.size⟩ q.v xq.A xq.c di (λhl a e=>aU (Qb am.row hl a e) J.below.size) (by have:=am.c;rw[am.n]at this;exact this) (bX.out q (bP hq)) ⟨by simp,by simp⟩;rw[<-am.n,<-ci]at h5;refine h5.mono ?_;intro e w' Z;unfold Uo at Z;cases L with|error er=>exact⟨_,Z.2.1,λ_=>Z.1,rfl,Z.2.2,Z.1⟩|ok path=>obtain⟨A3,c3,h7⟩:=Z.2.2;exact⟨_,Z.2.1,λ_=>Z.1,rfl,Z.1,A3,c3,h7⟩);unfold jl.cells at cm;have xP:Grow (λW W':ω=>w4 W->w4 W'):=⟨λW h=>h.trans ((aq3 (aH W W) 1).mono h.size),λ_ _ _ U h2 h=>h2 (U h),λ_ _ V h=>h.trans (V.mono h.size)⟩;have dE:=uy.below;clear ci cy hq dd bL am EF bm;go_wp2_with fail;apply gu ((λW W':ω=>w4 W->w4 W')) xP.drew xP.trans (Ag 6 ((λW W':ω=>w4 W->w4 W'))) (λ_ _ _ h=>h.g xP) (DK xP) (Wv 6 (RdP w4 gm w4 ref rev [⟨b.edge,rev⟩] As cs ss gap)) (λ_ _=>(λ(W W':ω) (h:RdP w4 gm w4 ref rev [⟨b.edge,rev⟩] As cs ss gap W) (V:W W')=>h.below V) _ _ (aq) (aq3 gY 1)) (λi j W W' db hp ht e=>(λ(W W':ω) (h:RdP w4 gm w4 ref rev [⟨b.edge,rev⟩] As cs ss gap W) (V:W W')=>h.below V) _ _ (hp e) (ht.1 (λej=>db (e.trans ej.symm))));(case lX=>intro u;simp only[bV,List.dropLast,aq9,aP,ay,aA,aB,aT,aJ];with_reducible rfl);(case hm=>kernel_rfl);(case hB=>kernel_rfl);(case hA=>kernel_rfl);case hap=>kernel_rfl
         repeat(first
            |(refine fM.one (RdW w4 gm w4 ref rev L As cs ss gap) ?_ ?_
              ·
                (intro u w' Y ak N
                 replace ak:=ak rfl
                 simp[fO,aC,gI,Is]at N
                 refine fC ?_ ?_
                 ·
                   first
                   |rfl
                   |(simp[aF,ψ,N];done)
                 intro K hK
                 go_wp2_with (go_at_call 257;(with_reducible refine(cm _ ak).mono ?_);rintro e w3⟨v3,rfl,c8,dg⟩);(try simp only[N]at hK);exact hK _ _ (JJ c8) dg))
            |(apply fM.is
              ·
                (intro u w' Y ak N
                 clear ak
                 simp[fO,aC,gI,Is]at N
                 refine fC ?_ ?_
                 ·
                   first
                   |rfl
                   |(simp[aF,ψ,N];done)
                 intro K hK
                 have ap:=J.grow (Y aq.1);have c5:=ap.b0.cell;have Tc:=cE _ ap.below
                 go_wp2_with (fail)
                 try simp only[N]at hK
                 refine hK _ _ ?_ rfl
                 first |exact yS (by decide) |exact Ah (by decide) af))
            |(apply fM.is
              ·
                (intro u w' Y ak N
                 clear ak
                 simp[fO,aC,gI,Is]at N
                 first |(replace N:=N.1.1) |(replace N:=N.1)
                 refine fC ?_ ?_
                 ·
                   first
                   |rfl
                   |(simp[aF,ψ,N];done)
                 intro K hK
                 have ap:=J.grow (Y aq.1);have c5:=ap.b0.cell;have Tc:=cE _ ap.below
                 go_wp2_with (fail)
                 try simp only[N]at hK
                 refine hK _ _ ?_ rfl
                 first |exact yS (by decide) |exact Ah (by decide) af)))
         refine fM.last (JK ?_) ?_;(.simp only[gQ];(repeat(refine⟨?_,?_⟩;.first|exact DL _|exact yT (λ_ _ _ h V=>h.grow V)));exact trivial);intro u w2 du _ N;simp only[gQ]at N;refine⟨rfl,?_⟩;intro K hK;have Z:=N 6 _ rfl;clear N;obtain⟨v6,dC⟩:=fD (u 6);replace Z:RdW w4 gm w4 ref rev L As cs ss gap (u 6) w2:=Z;go_wp2_with fail;go_meet;exact Z
       case' rest=>rcases L with er |path;(.obtain⟨rfl,ai,bj⟩:=hcut;have aa:Hid (R=.error er):=ah bR.out;(have e7:(er==0)=false:=by rw[beq_eq_false_iff_ne];exact ai);(have e8:(er != 0)=true:=by rw[bne_iff_ne];exact ai);have qx:=J.grow bj;have dn:=qx.b1.frozen;have dp:=qx.b1.cell;go_wp2_with fail;have O:=MV qx.b1 (ϗ _) qx.below (.int .i64 0) (.bool false) (.slice none 0 0) (.slice none 0 0) (.int .i64 0);refine β (gU results221 _ _ _ _ _ _ rfl rfl O.1 dA rfl (by kernel_rfl)) rfl ?_;rw[aa.out];exact⟨O.2,rfl,ai⟩);focus(obtain⟨rfl,bj,A1,c1,ac,cz,cA⟩:=hcut;have qx:=J.grow bj;have dq:=qx.b0.cell;have cM:=ac.cell;(have cc:path.length<=24:=by have U:=HL.out;rw[Oy]at U;split at U;(.exact He _ _ _ _ _ _ _ (by simp) U.symm);.cases U;simp);have bh:oV wc w4 ⟨ref,rev,path,ss,gap⟩ ⟨A1,path.length,c1,As,ss.length,cs⟩:=⟨cz,cA,rfl,rfl,by have:=cc;show path.length<=100;omega,by have:=cH.out;show ss.length<=100;omega⟩;have al:=Wi (h.below qx.below) _ _ bh.is_;obtain⟨mb,bq⟩:=fD (rX t ⟨ref,rev,path,ss,gap⟩);rw[<-bq]at al;unfold nO jl.cells at al;simp only at al;have bS:Hid (R=if mb=true then .ok ⟨ref,rev,path,ss,gap⟩ else .error 7):=ah (by rw[bR.out,UF,bq]);obtain⟨pn,ba⟩:=fD path.length;obtain⟨sn,bb⟩:=fD ss.length;rw[<-ba,<-bb]at al bh;rw[<-ba,<-bb]at cM;rw[<-ba,<-bb]at ac;clear bq cz cA cc ba bb;rcases mb with _ |_;(focus(have aa:Hid (R=.error 7):=ah (by rw[bS.out,Ξ (by simp)]);go_wp2_with(go_at_call 41;(with_reducible refine al.mono ?_);rintro e w9⟨rfl,xW⟩;have FP:=qx.grow xW;have cV:=FP.b1.frozen;have cK:=FP.b1.cell);have O:=MV FP.b1 (ϗ _) FP.below (.int .i64 0) (.bool false) (.slice none 0 0) (.slice none 0 0) (.int .i64 0)));rotate_left;.have aa:Hid (R=.ok ⟨ref,rev,path,ss,gap⟩):=ah (by rw[bS.out,Υ rfl]);go_wp2_with(go_at_call 41;(with_reducible refine al.mono ?_);rintro e w9⟨rfl,xW⟩;have FP:=qx.grow xW;have cV:=FP.b1.frozen;have cK:=FP.b1.cell;have dl:=(ac.below xW ac.lt).cell;have dr:=ac.below xW ac.lt);have O:=MV FP.b1 (ϗ _) FP.below (.int .i64 ref) (.bool rev) (.slice A1 pn c1) (.slice As sn cs) (.int .i64 gap);refine β (gU results221 _ _ _ _ _ _ rfl rfl O.1 dA rfl (by kernel_rfl)) rfl ?_;rw[aa.out];refine⟨O.2,⟨A1,pn,c1,As,sn,cs⟩,rfl,?_⟩;have cX:=bh.ji (jV.of_below xW (λ_=>False)) (λ_ h=>h.elim);refine(oV.ji cX (D:=λk=>k=w.heap.size+1) ((((((jV.refl _ _).trans (xg _ _ 0 _)).trans (xg _ _ 1 _)).trans (xg _ _ 2 _)).trans (xg _ _ 3 _)).trans (xg _ _ 4 _)) (λk Y=> .inl (by omega))).base J.below.size)))
     rotate_left;(focus(have aa:Hid (R=.error 50):=ah (by rw[an.out,Υ (.inr rfl)]);go_wp2_with(go_at_call 253;(with_reducible refine az.mono ?_);rintro e w4⟨rfl,bi⟩;have J:=M.grow bi;have ds:=J.b1.frozen;have cQ:=J.b1.cell);have O:=MV J.b1 (ϗ _) J.below (.int .i64 0) (.bool false) (.slice none 0 0) (.slice none 0 0) (.int .i64 0)));all_goals(refine β (gU results221 _ _ _ _ _ _ rfl rfl O.1 dA rfl (by kernel_rfl)) rfl ?_;rw[aa.out];exact⟨O.2,rfl,by decide⟩)
    focus(have aa:Hid (R=.error 50):=ah (by rw[an.out,Υ (.inl rfl)]);clear az;go_wp2_with fail))))
 rotate_left 3
 .have e0:(jr t != 0)=true:=by simpa using ad
  have aa:Hid (R=.error 1):=ah (by rw[HR.out,Υ ad]);clear ad lF;go_enter func221,ntmps221;go_wp2_with(go_at_call 36;(with_reducible refine av.mono ?_);rintro e w2⟨rfl,ae⟩;have H:=hO.grow ae;have aL:=H.b0.cell;have a4:=H.b1.cell;have a6:=H.b1.frozen);have O:=MV H.b1 (ϗ _) H.below (.int .i64 0) (.bool false) (.slice none 0 0) (.slice none 0 0) (.int .i64 0);refine β (gU results221 _ _ _ _ _ _ rfl rfl O.1 dA rfl (by kernel_rfl)) rfl ?_;rw[aa.out];exact⟨O.2,rfl,by decide⟩
 all_goals(have O:=MV M.b1 (ϗ _) M.below (.int .i64 0) (.bool false) (.slice none 0 0) (.slice none 0 0) (.int .i64 0);refine β (gU results221 _ _ _ _ _ _ rfl rfl O.1 dA rfl (by kernel_rfl)) rfl ?_;rw[aa.out];exact⟨O.2,rfl,by decide⟩)
def MW:Go.Shelf.Ren:=⟨fun |6=>259 |n=>n,fun |22=>40 |23=>60 |25=>354 |3=>3 |0=>0 |4=>4 |n=>n,fun |n=>n⟩
def aaD:Go.Proofs.SlLaysH0.n6 aj MW where
  mixed:=by rfl
  f6:=⟨ "slices.IndexFunc[[]lineside/api.Sect,lineside/api.Sect]",by decide,Tryz.func259.trans (ξ some (by rfl))⟩
  t0:=underlying0
  a0:=isAgg0
  z0:=sizeOf0
  v0:=zeroValue0
  t3:=bG
  a3:=isAgg3
  z3:=sizeOf3
  v3:=zeroValue3
  t4:=dL
  a4:=isAgg4
  z4:=sizeOf4
  v4:=zeroValue4
  t22:=underlying40
  a22:=isAgg40
  z22:=sizeOf40
  v22:=zeroValue40
  t25:=underlying354
  a25:=isAgg354
  z25:=sizeOf354
  v25:=zeroValue354
theorem agW(g:Nat)(M: ∀args w,(ϕ g args).run aj w=.ok (.enter g args) w)(lb:Array Θ)(q:Sc->Bool)(A:Option δ)(n c:Nat)(xs:List Sc)(w:ω)(U:PredBelow aj g lb (λx=> .agg (kW.enc x).toArray) q w)(H:fE kW w A xs)(hn:xs.length=n)(N:n<=9223372036854775807):Γ aj 259 #[.slice A n c,.func (.func g) #[] lb] w λe w'=>e=.returned (Lib.idxBy (λ_ y=>q y) xs default:Int)/\w w':=by
 cases n with
 |zero=>
  have:xs= []:=dh.1 hn;subst this;go_enter func259,ntmps259;go_wp2;go_loopg [5,8] 0 (λ_ _ Y wr=>Y=.int .i64 0/\w wr);case atStart=>exact⟨rfl,aH _ _⟩
  case round=>obtain⟨rfl,V⟩:=hrel;go_wp2;go_ret;exact⟨rfl,V⟩
 |succ n=>
  obtain⟨b,off,rfl,O,_⟩:=H.get (aI (show 0<xs.length by omega));have:=AnyQ.slices_IndexFunc aaD 2 isAgg60 sizeOf60 kW.enc kW.len q g lb M b off (n+1) c xs w U (by omega) N O ?_;.rw[<-hn,List.take_length]at this;rw[<-hn];exact this
  .intro j J i u hi;obtain⟨Z,aa,e,_,hc⟩:=H.get (aI J);simp only[aO,cZ]at e;obtain⟨rfl,rfl,-⟩:=e;rw[getElem!_pos xs j J]at hi;exact hc i u hi
theorem agX{α:Type}[Inhabited α](q:α->Bool)(l:List α):Lib.idxBy (λ_ y=>q y) l default=sZ q l:=by
 have h: ∀(l:List α) (i:Nat),Lib.idxByFrom (λ_ y=>q y) default l i=match l.findIdx? q with |some j=>((i+j:Nat):Int) |none=> -1:=by intro l;induction l with|nil=>intro i;rfl|cons x l J=>intro i;rw[Lib.idxByFrom,List.findIdx?_cons];cases H:q x with|false=>grind|true=>simp
 unfold Lib.idxBy sZ;rw[h l 0];cases l.findIdx? q with|none=>rfl|some j=>simp
def nN (m:Ma) (z:Int):Ma:=if z<1 then {m with fP:= [],gap:=0} else if sZ (fun s:Sc=>decide (z<=s.kL)) m.fP<0 then m else {m with fP:=(m.fP.take ((sZ (fun s:Sc=>decide (z<=s.kL)) m.fP).toNat+1)).set (sZ (fun s:Sc=>decide (z<=s.kL)) m.fP).toNat ⟨z,((m.fP.getD (sZ (fun s:Sc=>decide (z<=s.kL)) m.fP).toNat ⟨0,0⟩).timer)⟩,gap:=0}
def XF: ∀args w,(ϕ 260 args).run aj w=.ok (.enter 260 args) w:=enters_of func260 (by rfl) (by rfl)
theorem aky(x:Sc)(z:Int)(g:Nat)(w:ω)(hA:w.cell? ⟨g,0,none⟩=some z)(J:g<w.heap.size):Γ aj 260 #[.agg (kW.enc x).toArray,.pointer g] w λr w'=>r=.returned (.bool (decide (z<=x.kL)))/\w w':=by obtain⟨M,N⟩:=x;simp only[kW];have H:Own w _ [_]:=(Own.nil w).alloc 60 #[M,N] _ rfl;have U:=H.b0.cell;have O:=(H.below.cell (p:=⟨g,0,none⟩) J).trans hA;go_enter func260,ntmps260;go_wp2_with fail;go_ret;exact⟨rfl,H.below⟩
theorem akz{base g c:Nat}{l:List Sc}{cur:Array Θ}(J:aq1 kW 60 w base g c l){x:Sc}(M:l[i]? =some x)(H:fK w g 60 cur)(n:Int):aq1 kW 60 (w.setCell ⟨g,i*2,none⟩ n) base g c (l.set i ⟨n,x.timer⟩):=by
 have hi:=(aX.1 M).1;refine aq1.put J hi ⟨n,x.timer⟩ H ?_;have N:w.cell? ⟨g,i*2+1,none⟩=some x.timer:=by obtain⟨b,off,e,_,hc⟩:=J.rows.get M;injection e with e;injection e with e1 e2;subst e1;subst e2;have:=hc 1 x.timer rfl;rwa [aJ]at this
 have e:arh cur (i*kW.k) (kW.enc ⟨n,x.timer⟩)=cur.setIfInBounds (i*2) n:=by show(cur.setIfInBounds (i*2) n).setIfInBounds (i*2+1) x.timer=_;refine YE ?_;rw[dR (by omega),<-H.cell];exact N
 rw[e];exact H.iV _ _
def am2 (w:ω) (m:Ma) (e:ε) (w':ω):Prop:= ∃v,e=.returned (.agg (nO m v))/\oV w' w m v/\w w'
theorem aiu{m:Ma}{v:DF}(h:EK w m v)(z:Int):Γ aj 224 #[nO m v,z] w (am2 w (nN m z)):=by
 obtain⟨R,hR⟩:=fD (nN m z);rw[<-hR];have HR:=ah hR;unfold nO;have hO:Own w _ [_,_,_]:=Own.start3 w 42 3 42 #[m.ref,m.rev,.slice v.A1 v.n1 v.c1,.slice v.A2 v.n2 v.c2,m.gap] #[z] gj;have cg:=h.l1;have ch:=h.l2;have bc:=VW v.A1 v.n1 v.c1 m.path _ (h.path.below hO.below) h.e1 (by omega);have an:=λW (hW:w W)=>abL v.A2 v.n2 v.c2 m.fP W (h.fP.below hW) h.e2 (by omega);have bo:=hO.b0.cell;have N:=ah h;obtain⟨A1,n1,c1,A2,n2,c2⟩:=v;simp only at*;go_enter func224,ntmps224;go_upto_region 2 with((with_reducible refine bc.mono ?_);rintro e w1⟨J,q1,rfl,bh,a8⟩;have jc:=hO.grow a8;have bq:=jc.b0.cell;have bA:=jc.b0.frozen)
 have Z:=Own.TP (L1:= []) jc 2 (.slice J n1 q1);have aD:=bh.far (g:=w.heap.size) (by simp;omega) (λk hk=>aN w1 ⟨w,2,none⟩ (.slice J n1 q1) k hk);simp only[ay,aA,aB,aZ]at Z;obtain⟨W2,a6⟩:=fD (w1.setCell ⟨w,2,none⟩ (.slice J n1 q1));rw[<-a6]at Z aD |-;clear a6 a8 bq bA jc bo bc bh;have bu:=Z.b0.cell;have a1:=an _ Z.below;have bn:w.heap.size<W2.heap.size:=Z.b0.lt;go_upto_region 3 with((with_reducible refine a1.mono ?_);rintro e w3⟨V,q2,rfl,bi,aw⟩;have am:=Z.grow aw;have bw:=am.b0.cell;have bB:=am.b0.frozen)
 have O:=Own.TP (L1:= []) am 3 (.slice V n2 q2);have Gq:=(aD.below aw).far (g:=w.heap.size) (by simp;omega) (λk hk=>aN w3 ⟨w,3,none⟩ (.slice V n2 q2) k hk);have ac:=bi.far (g:=w.heap.size) bn (λk hk=>aN w3 ⟨w,3,none⟩ (.slice V n2 q2) k hk);have ci:w.heap.size+3<=W2.heap.size:=Z.b2.lt;simp only[ay,aA,aB,aZ]at O;obtain⟨W4,Ug⟩:=fD (w3.setCell ⟨w,3,none⟩ (.slice V n2 q2));rw[<-Ug]at O Gq ac |-;clear Ug aw bw bB am bu an a1 aD bi Z;have a9:=O.b0.cell;have bd:=O.b0.frozen;have aM:=O.b1.cell;have a5: ∀(W:ω) (ref:Int) (rev:Bool) (a:Option δ) (n c:Nat) (a2:Option δ) (bj a4:Nat) (gap:Int),jV (λk=>k=w.heap.size+1+1) W (((((W.setCell ⟨w.heap.size+1+1,0,none⟩ ref).setCell ⟨w.heap.size+1+1,1,none⟩ rev).setCell ⟨w.heap.size+1+1,2,none⟩ (.slice a n c)).setCell ⟨w.heap.size+1+1,3,none⟩ (.slice a2 bj a4)).setCell ⟨w.heap.size+1+1,4,none⟩ gap):=λW ref rev a n c a2 bj a4 gap=>((((((jV.refl _ _).trans (xg _ _ 0 _)).trans (xg _ _ 1 _)).trans (xg _ _ 2 _)).trans (xg _ _ 3 _)).trans (xg _ _ 4 _));have HF:=ah a5;clear a5;by_cases ae:z<1
 .have e1:decide (z<1)=true:=by simpa using ae
  have af:Hid (R={m with fP:= [],gap:=0}):=ah (by rw[HR.out,nN,Υ ae]);clear ae;go_upto_region 5 with fail;have M:=Own.TP (L1:= []) (Own.TP (L1:= []) O 3 nS) 4 zI;have Gz:=(xg W4 w 3 nS).trans (xg _ w 4 zI);simp only[ay,aA,aB,aZ]at M;obtain⟨W6,ag⟩:=fD ((W4.setCell ⟨w,3,none⟩ nS).setCell ⟨w,4,none⟩ zI);rw[<-ag]at M Gz |-;clear ag a9 bd aM O;have bb:=M.b0.cell;have ai:=M.b2.frozen;have bk:=M.b2.cell;go_wp2_with fail;have aa:=MV M.b2 (by omega) M.below m.ref m.rev (.slice J n1 q1) nS zI;refine β (nC results224 _ _ _ _ _ rfl aa.1 dA rfl (by rfl)) rfl ?_;rw[af.out];have al:=(Gq.ji Gz (λx H=>by have:=Gq.gJ x H;simp_all;omega)).ji (HF.out W6 m.ref m.rev J n1 q1 none 0 0 0) (λx H=>by have:=Gq.gJ x H;simp_all;omega);exact⟨⟨J,n1,q1,none,0,0⟩,rfl,⟨al.mono (by simp;omega),aq1.nil _ _,N.out.e1,rfl,N.out.l1,aV _⟩,aa.2⟩
 .have e1:decide (z<1)=false:=by simpa using ae
  have ak:=agW 260 XF #[.pointer (some ⟨w.heap.size+1,0,none⟩)] (λs=>decide (z<=s.kL)) V n2 q2 m.fP W4 (λW x hW=>(aky x z (w.heap.size+1) W ((hW.cell (p:=⟨w.heap.size+1,0,none⟩) O.b1.lt).trans (aM 0)) (aU O.b1.lt hW.size)).mono λ_ _ h=>⟨h.1,gZ hW h.2⟩) ac.rows N.out.e2 (by omega);rw[agX]at ak;obtain⟨iq,aq⟩:=fD (sZ (λs:Sc=>decide (z<=s.kL)) m.fP);rw[<-aq]at ak;have aR:=ah aq;have av:Hid (R=if iq<0 then m else {m with fP:=(m.fP.take (iq.toNat+1)).set iq.toNat ⟨z,(m.fP.getD iq.toNat ⟨0,0⟩).timer⟩,gap:=0}):=ah (by rw[HR.out,nN,Ξ ae,<-aq]);clear aq ae;by_cases ad:iq<0;·(have e2:decide (iq<0)=true:=by simpa using ad);have af:Hid (R=m):=ah (by rw[av.out,Υ ad]);clear ad;go_wp2_with((with_reducible refine ak.mono ?_);rintro e w5⟨rfl,Y⟩;have U:=O.grow Y;have ba:=U.b0.cell;have ai:=U.b2.frozen;have bk:=U.b2.cell;have uq:=Gq.below Y;have IJ:=ac.below Y);have aa:=MV U.b2 (by omega) U.below m.ref m.rev (.slice J n1 q1) (.slice V n2 q2) m.gap;refine β (nC results224 _ _ _ _ _ rfl aa.1 dA rfl (by rfl)) rfl ?_;rw[af.out];have al:=uq.ji (HF.out w5 m.ref m.rev J n1 q1 V n2 q2 m.gap) (λx H=>by have:=uq.gJ x H;simp at this;omega);have aE:=IJ.ji (HF.out w5 m.ref m.rev J n1 q1 V n2 q2 m.gap) (λx H=>by have:=IJ.gJ x H;omega);exact⟨⟨J,n1,q1,V,n2,q2⟩,rfl,⟨al.mono (by simp;omega),aE.mono (by omega),N.out.e1,N.out.e2,N.out.l1,N.out.l2⟩,aa.2⟩
  ·(have e2:decide (iq<0)=false:=by simpa using ad);obtain⟨k,x,hk,H⟩:=UG (show 0<=sZ (λs:Sc=>decide (z<=s.kL)) m.fP by rw[<-aR.out];omega);have bS:iq=(k:Int):=aR.out.trans hk;subst bS;(have cf:k<n2:=by have h1:=(aX.1 H).1;have h2:m.fP.length=n2:=N.out.e2;omega);have af:Hid (R={m with fP:=(m.fP.take (k+1)).set k ⟨z,x.timer⟩,gap:=0}):=ah (by rw[av.out,Ξ ad,Int.toNat_natCast,bH,H,eG]);have HX:=ah H;obtain⟨g,cur,rfl,cd,az,bO,ap,bN,_⟩:=ac.blk (ac.some_ (by have:=(aX.1 H).1;omega));(have cm:n2<=q2:=by have h2:m.fP.length=n2:=N.out.e2;omega);clear ad hk H bO ap bN av;(go_upto_region 9 with((with_reducible refine ak.mono ?_);rintro e w5⟨rfl,Y⟩;have U:=O.grow Y;have ba:=U.b0.cell;have ai:=U.b2.frozen;have bx:=U.b0.frozen;have uq:=Gq.below Y;have IJ:=ac.below Y;have bf:=az.below Y az.lt));clear a9 bd aM O Gq ac az Y ak;go_upto_region 10 with fail;have M:=Own.TP (L1:= []) U 3 (.slice g (k+1) q2);have Gz:=xg w5 w 3 (.slice g (k+1) q2);simp only[ay,aA,aB,aZ]at M;(have bm:g≠w.heap.size:=by omega);have Vy:=uq.ji Gz (λx H=>by have:=uq.gJ x H;simp at this;omega);have Uf:=IJ.ji Gz (λx H=>by have:=IJ.gJ x H;omega);have XG:=bf.ji Gz bm;have au:=Uf.ahead (k+1) (by have h2:m.fP.length=n2:=N.out.e2;omega) XG XG rfl rfl;obtain⟨W6,ag⟩:=fD (w5.setCell ⟨w,3,none⟩ (.slice g (k+1) q2));(try rw[<-ag]at M Vy au XG |-);clear ag Uf Gz bf IJ uq U ba ai bx;have bb:=M.b0.cell;have bX:=M.b1.cell;have ai:=M.b0.frozen;have ap:=au.rows.get (i:=k) (x:=x) (by rw[dG (Nat.lt_succ_self k)];exact HX.out);(have bR:W6.cell? ⟨g,k*2,none⟩=some x.kL:=by obtain⟨b',o',e,_,an⟩:=ap;injection e with e;injection e with e1 e2;subst e1;subst e2;have:=an 0 x.kL rfl;rwa [aJ]at this);have bL:=XG.frozen;have ar:=akz au (i:=k) (x:=x) (by rw[dG (Nat.lt_succ_self k)];exact HX.out) XG z;clear ap;go_upto_region 11 with fail;have Qg:=xg W6 g (k*2) z;have uy:=M.ji Qg (λy hy e=>by simp at hy;rcases hy with rfl |rfl |rfl <;> simp at e <;> omega) (λj hj=>by omega);have Gy:aq1 gV 58 (W6.setCell ⟨g,k*2,none⟩ z) _ J q1 m.path:=Vy.ji Qg (λx H hd=>ard Vy XG (by decide) (by rw[H,hd]));obtain⟨W7,Eo⟩:=fD (W6.setCell ⟨g,k*2,none⟩ z);rw[<-Eo]at uy Gy ar |-;clear Eo Qg au XG M Vy bb bX ai bR bL;have Oe:=uy.b0.cell;have bE:=uy.b0.frozen;go_upto_region 12 with fail;have qx:=Own.TP (L1:= []) uy 4 zI;have ax:=xg W7 w 4 zI;simp only[ay,aA,aB,aZ]at qx;have H7:=Gy.ji ax (λx H=>by have:=Gy.gJ x H;simp at this;omega);have aL:=ar.ji ax (λx H=>by have:=ar.gJ x H;omega);obtain⟨W8,a7⟩:=fD (W7.setCell ⟨w,4,none⟩ zI);rw[<-a7]at qx H7 aL |-;clear a7 ax ar uy Gy Oe bE;have ca:=qx.b0.cell;have cc:=qx.b2.frozen;have P9:=qx.b2.cell;go_wp2_with fail;have aa:=MV qx.b2 (by omega) qx.below m.ref m.rev (.slice J n1 q1) (.slice g (k+1) q2) zI;refine β (nC results224 _ _ _ _ _ rfl aa.1 dA rfl (by rfl)) rfl ?_;rw[af.out];have al:=H7.ji (HF.out W8 m.ref m.rev J n1 q1 g (k+1) q2 0) (λx H=>by have:=H7.gJ x H;simp at this;omega);have aE:=aL.ji (HF.out W8 m.ref m.rev J n1 q1 g (k+1) q2 0) (λx H=>by have:=aL.gJ x H;omega);have h2:m.fP.length=n2:=N.out.e2;exact⟨⟨J,n1,q1,g,k+1,q2⟩,rfl,⟨al.mono (by simp;omega),aE.mono (by omega),N.out.e1,by simp;omega,N.out.l1,by show k+1<=100;omega⟩,aa.2⟩
theorem Le(t:Tp)(x:Tr):wY t x=true<->(Dv x.rl=true/\um x.sl x.sa x.sb=true/\pO t x.pos=true/\kD (-1) x.stops=true/\(oz t x.ref).isSome=true/\(x.held=true->rX t x.ma=true)/\(x.held=false->Dw x.ma=true/\x.at_=0))/\0<=x.id/\x.id<16777216/\1<=x.len/\x.len<=32766/\x.side=0/\x.fG=x.id/\ -1<=x.last/\x.last<=4294967294/\0<=x.past/\x.past<=1099511627776/\0<=x.at_/\x.at_<=268435456:=by unfold wY um;grind
theorem QG(h:jE w t m)(x:Tr)(M:kZ)(hx:zJ w x M):Γ aj 18 #[m.cells,jf x M] w λe w'=>e=.returned (.bool (wY t x))/\w w':=by
 have H:Own w _ [_,_]:=Own.iY w 27 44 m.cells (jf x M);have av:=H.b1.cell;have Z:=λW=>afK x.rl W;have aa:=λW=>ab7 x.sl x.sa x.sb x.free W;have zZ:=λW (hW:w W)=>Pm (h.below hW) x.pos;have ad:=λW (hW:w W)=>ab5 M.A3 M.n3 M.c3 x.stops W (hx.stops.below hW) hx.e3 hx.l3;have lF:=λW (hW:w W)=>Hw (h.below hW) x.ref;have am:=λW (hW:w W)=>Wi (h.below hW) x.ma M.v (hx.ma.below hW);have al:=λW (hW:w W)=>afH x.ma M.v W (hx.ma.below hW);have hM:=Le t x;generalize wY t x=Y at*;generalize Dv x.rl=ru at*;generalize um x.sl x.sa x.sb=sm at*;generalize pO t x.pos=ri at*;generalize kD (-1) x.stops=rs at*;generalize rX t x.ma=pm at*;generalize Dw x.ma=bl at*;generalize (oz t x.ref).isSome=ib at*;generalize hy:(oz t x.ref).getD ⟨0,0,0⟩=y at*;obtain⟨y1,y2,y3⟩:=y;have V:=ah hM;clear hM hy;have t0:=tr0 x M;have t0:=tr0 x M;have t1:=tr1 x M;have t2:=tr2 x M;have t3:=tr3 x M;have t4:=tr4 x M;have t5:=tr5 x M;have t6:=tr6 x M;have t7:=tr7 x M;have t8:=tr8 x M;have t9:=tr9 x M;have aw:=aoc x M;have ax:=aod x M;have az:=aoe x M;have aD:=aof x M;have aE:=aog x M;have aL:=aoh x M;have aM:=aoi x M;have aR:=aoj x M;have a1:=aiZ x M;have a4:=afL x M;have a5:=afM x M;have a6:=afN x M;have a7:=afO x M;have a8:=acf x M;have a9:=acg x M;have ba:=Zy x M;have bb:=Wj x M;have bc:=ach x M;have bd:=ai0 x M;have au:=ai1 x M;have bf:=Wn x M;unfold nO at am al;unfold jl.cells at*;rcases ru with _ |_
 .obtain rfl:Y=false:=bY.2 λN=>by have:=V.out.1 N;simp at this
  go_enter func18,ntmps18;go_wp2_with(first|((with_reducible refine(Z _).mono ?_);rintro e O⟨rfl,J⟩;replace H:=H.grow J;have U:=H.b1.cell));go_ret;exact⟨rfl,H.below⟩
 focus(
  by_cases g1:x.id<0;·(have f1:decide (x.id<0)=true:=by simpa using g1);(obtain rfl:Y=false:=bY.2 λN=>by have:=V.out.1 N;omega);go_enter func18,ntmps18;go_wp2_with(first|((with_reducible refine(Z _).mono ?_);rintro e O⟨rfl,J⟩;replace H:=H.grow J;have U:=H.b1.cell));go_ret;exact⟨rfl,H.below⟩
  have f1:decide (x.id<0)=false:=by simpa using g1
  by_cases g2:16777216<=x.id;·(have f2:decide (16777216<=x.id)=true:=by simpa using g2);(obtain rfl:Y=false:=bY.2 λN=>by have:=V.out.1 N;omega);go_enter func18,ntmps18;go_wp2_with(first|((with_reducible refine(Z _).mono ?_);rintro e O⟨rfl,J⟩;replace H:=H.grow J;have U:=H.b1.cell));go_ret;exact⟨rfl,H.below⟩
  have f2:decide (16777216<=x.id)=false:=by simpa using g2
  by_cases g3:x.len<1;·(have f3:decide (x.len<1)=true:=by simpa using g3);(obtain rfl:Y=false:=bY.2 λN=>by have:=V.out.1 N;omega);go_enter func18,ntmps18;go_wp2_with(first|((with_reducible refine(Z _).mono ?_);rintro e O⟨rfl,J⟩;replace H:=H.grow J;have U:=H.b1.cell));go_ret;exact⟨rfl,H.below⟩
  have f3:decide (x.len<1)=false:=by simpa using g3
  by_cases g4:32766<x.len;·(have f4:decide (32766<x.len)=true:=by simpa using g4);(obtain rfl:Y=false:=bY.2 λN=>by have:=V.out.1 N;omega);go_enter func18,ntmps18;go_wp2_with(first|((with_reducible refine(Z _).mono ?_);rintro e O⟨rfl,J⟩;replace H:=H.grow J;have U:=H.b1.cell));go_ret;exact⟨rfl,H.below⟩
  have f4:decide (32766<x.len)=false:=by simpa using g4
  by_cases g5:x.side=0;case neg=>(have f5:(x.side != 0)=true:=by simpa using g5);(obtain rfl:Y=false:=bY.2 λN=>by have:=V.out.1 N;omega);clear g5;go_enter func18,ntmps18;go_wp2_with(first|((with_reducible refine(Z _).mono ?_);rintro e O⟨rfl,J⟩;replace H:=H.grow J;have U:=H.b1.cell));go_ret;exact⟨rfl,H.below⟩
  have f5:(x.side != 0)=false:=by simpa using g5
  have G5:=ah g5;clear g5;by_cases g6:x.fG=x.id;case neg=>(have f6:(x.fG != x.id)=true:=by simpa using g6);(obtain rfl:Y=false:=bY.2 λN=>by have:=V.out.1 N;omega);clear g6;go_enter func18,ntmps18;go_wp2_with(first|((with_reducible refine(Z _).mono ?_);rintro e O⟨rfl,J⟩;replace H:=H.grow J;have U:=H.b1.cell));go_ret;exact⟨rfl,H.below⟩
  have f6:(x.fG != x.id)=false:=by simpa using g6
  have G6:=ah g6;clear g6;rcases sm with _ |_;·(obtain rfl:Y=false:=bY.2 λN=>by have:=V.out.1 N;simp at this);go_enter func18,ntmps18;go_wp2_with(first|((with_reducible refine(Z _).mono ?_);rintro e O⟨rfl,J⟩;replace H:=H.grow J;have U:=H.b1.cell)|((with_reducible refine(aa _).mono ?_);rintro e O⟨rfl,J⟩;replace H:=H.grow J;have U:=H.b0.cell;have jQ:=H.b1.cell));go_ret;exact⟨rfl,H.below⟩
  focus(
   by_cases g8:x.last< -1;(·(have f8:decide (x.last< -1)=true:=by simpa using g8);(obtain rfl:Y=false:=bY.2 λN=>by have:=V.out.1 N;omega);go_enter func18,ntmps18;go_wp2_with(first|((with_reducible refine(Z _).mono ?_);rintro e O⟨rfl,J⟩;replace H:=H.grow J;have U:=H.b1.cell)|((with_reducible refine(aa _).mono ?_);rintro e O⟨rfl,J⟩;replace H:=H.grow J;have U:=H.b0.cell;have jQ:=H.b1.cell));go_ret;exact⟨rfl,H.below⟩);(have f8:decide (x.last< -1)=false:=by simpa using g8);by_cases g9:4294967294<x.last;(·(have f9:decide (4294967294<x.last)=true:=by simpa using g9);(obtain rfl:Y=false:=bY.2 λN=>by have:=V.out.1 N;omega);go_enter func18,ntmps18;go_wp2_with(first|((with_reducible refine(Z _).mono ?_);rintro e O⟨rfl,J⟩;replace H:=H.grow J;have U:=H.b1.cell)|((with_reducible refine(aa _).mono ?_);rintro e O⟨rfl,J⟩;replace H:=H.grow J;have U:=H.b0.cell;have jQ:=H.b1.cell));go_ret;exact⟨rfl,H.below⟩);(have f9:decide (4294967294<x.last)=false:=by simpa using g9);rcases ri with _ |_;(·(obtain rfl:Y=false:=bY.2 λN=>by have:=V.out.1 N;simp at this);go_enter func18,ntmps18;go_wp2_with(first|((with_reducible refine(Z _).mono ?_);rintro e O⟨rfl,J⟩;replace H:=H.grow J;have U:=H.b1.cell)|((with_reducible first|refine(aa _).mono ?_|refine(zZ _ H.below).mono ?_);rintro e O⟨rfl,J⟩;replace H:=H.grow J;have U:=H.b0.cell;have jQ:=H.b1.cell));go_ret;exact⟨rfl,H.below⟩);focus(
    by_cases af:x.past<0;(·(have an:decide (x.past<0)=true:=by simpa using af);(obtain rfl:Y=false:=bY.2 λN=>by have:=V.out.1 N;omega);go_enter func18,ntmps18;go_wp2_with(first|((with_reducible refine(Z _).mono ?_);rintro e O⟨rfl,J⟩;replace H:=H.grow J;have U:=H.b1.cell)|((with_reducible first|refine(aa _).mono ?_|refine(zZ _ H.below).mono ?_);rintro e O⟨rfl,J⟩;replace H:=H.grow J;have U:=H.b0.cell;have jQ:=H.b1.cell));go_ret;exact⟨rfl,H.below⟩);(have an:decide (x.past<0)=false:=by simpa using af);by_cases ag:1099511627776<x.past;(·(have ap:decide (1099511627776<x.past)=true:=by simpa using ag);(obtain rfl:Y=false:=bY.2 λN=>by have:=V.out.1 N;omega);go_enter func18,ntmps18;go_wp2_with(first|((with_reducible refine(Z _).mono ?_);rintro e O⟨rfl,J⟩;replace H:=H.grow J;have U:=H.b1.cell)|((with_reducible first|refine(aa _).mono ?_|refine(zZ _ H.below).mono ?_);rintro e O⟨rfl,J⟩;replace H:=H.grow J;have U:=H.b0.cell;have jQ:=H.b1.cell));go_ret;exact⟨rfl,H.below⟩);(have ap:decide (1099511627776<x.past)=false:=by simpa using ag);rcases rs with _ |_;(·(obtain rfl:Y=false:=bY.2 λN=>by have:=V.out.1 N;simp at this);go_enter func18,ntmps18;go_wp2_with(first|((with_reducible refine(Z _).mono ?_);rintro e O⟨rfl,J⟩;replace H:=H.grow J;have U:=H.b1.cell)|((with_reducible first|refine(aa _).mono ?_|refine(zZ _ H.below).mono ?_);rintro e O⟨rfl,J⟩;replace H:=H.grow J;have U:=H.b0.cell;have jQ:=H.b1.cell)|((with_reducible refine(ad _ H.below).mono ?_);rintro e O⟨rfl,rfl⟩));go_ret;exact⟨rfl,H.below⟩);focus(
     rcases ib with _ |_;(focus(obtain rfl:Y=false:=bY.2 λN=>by have:=V.out.1 N;simp at this));rotate_left;focus(
      by_cases ai:x.at_<0;(focus((have aq:decide (x.at_<0)=true:=by simpa using ai);obtain rfl:Y=false:=bY.2 λN=>by have:=V.out.1 N;omega));rotate_left;focus(
       (have aq:decide (x.at_<0)=false:=by simpa using ai);by_cases ak:268435456<x.at_;(focus((have ar:decide (268435456<x.at_)=true:=by simpa using ak);obtain rfl:Y=false:=bY.2 λN=>by have:=V.out.1 N;omega));rotate_left;focus(
        (have ar:decide (268435456<x.at_)=false:=by simpa using ak);obtain⟨hd,ae⟩:=fD x.held;rw[<-ae]at au;have HD:=ah ae;clear ae;cases hd with
        |false=>rcases bl with _ |_;(focus(obtain rfl:Y=false:=bY.2 λN=>by have:=(V.out.1 N).1.2.2.2.2.2.2 HD.out.symm;simp at this));rotate_left;(focus(by_cases ga:x.at_=0;(focus((have fa:(x.at_==0)=true:=by simpa using ga);(have ac:Y=true:=by rw[V.out,<-HD.out];simp;have:=G5.out;have:=G6.out;omega);subst ac;clear ga));rotate_left;focus((have fa:(x.at_==0)=false:=by simpa using ga);(obtain rfl:Y=false:=bY.2 λN=>by have:=(V.out.1 N).1.2.2.2.2.2.2 HD.out.symm;omega);clear ga)));all_goals(go_enter func18,ntmps18;go_wp2_with(first|((with_reducible first|refine(Z _).mono ?_|refine(al _ H.below).mono ?_);rintro e O⟨rfl,J⟩;replace H:=H.grow J;have U:=H.b1.cell)|((with_reducible first|refine(aa _).mono ?_|refine(zZ _ H.below).mono ?_);rintro e O⟨rfl,J⟩;replace H:=H.grow J;have U:=H.b0.cell;have jQ:=H.b1.cell)|((with_reducible refine(ad _ H.below).mono ?_);rintro e O⟨rfl,rfl⟩)|((with_reducible refine(lF _ H.below).mono ?_);rintro e O⟨rfl,J⟩;replace H:=Own.new2 (H.grow J) 114 #[y1,y2,y3];have U:=H.b0.cell;have jQ:=H.b1.cell));go_ret;exact⟨rfl,H.below⟩)
        |true=>(have ac:Y=pm:=by rw[Bool.eq_iff_iff,V.out,<-HD.out];simp;have:=G5.out;have:=G6.out;omega);have HX:=ah ac;clear ac;go_enter func18,ntmps18;go_wp2_with(first|((with_reducible refine(Z _).mono ?_);rintro e O⟨rfl,J⟩;replace H:=H.grow J;have U:=H.b1.cell)|((with_reducible first|refine(aa _).mono ?_|refine(zZ _ H.below).mono ?_);rintro e O⟨rfl,J⟩;replace H:=H.grow J;have U:=H.b0.cell;have jQ:=H.b1.cell)|((with_reducible refine(ad _ H.below).mono ?_);rintro e O⟨rfl,rfl⟩)|((with_reducible refine(lF _ H.below).mono ?_);rintro e O⟨rfl,J⟩;replace H:=Own.new2 (H.grow J) 114 #[y1,y2,y3];have U:=H.b0.cell;have jQ:=H.b1.cell)|((with_reducible refine(am _ H.below).mono ?_);rintro e O⟨rfl,J⟩;replace H:=H.grow J));go_ret;exact⟨by simp[HX.out],H.below⟩)))))))
 all_goals(go_enter func18,ntmps18;go_wp2_with(first|((with_reducible refine(Z _).mono ?_);rintro e O⟨rfl,J⟩;replace H:=H.grow J;have U:=H.b1.cell)|((with_reducible first|refine(aa _).mono ?_|refine(zZ _ H.below).mono ?_);rintro e O⟨rfl,J⟩;replace H:=H.grow J;have U:=H.b0.cell;have jQ:=H.b1.cell)|((with_reducible refine(ad _ H.below).mono ?_);rintro e O⟨rfl,rfl⟩)|((with_reducible refine(lF _ H.below).mono ?_);rintro e O⟨rfl,J⟩;replace H:=Own.new2 (H.grow J) 114 #[y1,y2,y3];have U:=H.b0.cell;have jQ:=H.b1.cell));go_ret;exact⟨rfl,H.below⟩)
theorem Bj(h:jE w t m)(x:Tr)(J:kZ)(hx:zJ w x J):Γ aj 14 #[m.cells,jf x J] w λe w'=>e=.returned (rE (jR t x))/\w w':=by
 have H:Own w _ [_,_]:=Own.iY w 27 44 m.cells (jf x J);have ad:=H.b0.cell;have Z:=λW (N:w W)=>QG (h.below N) x J (hx.below N);have aa:=λW (N:w W)=>Yr (h.below N) x.ma J.v (hx.ma.below N) x.pos;have U:jR t x=if wY t x=true/\x.held=true then qZ t x.ma x.pos else none:=rfl
 generalize jR t x=O at*;generalize wY t x=mx at*;generalize qZ t x.ma x.pos=fm at*;have ae:=aiZ x J;have af:=afL x J;have ag:=afM x J;have ai:=acf x J;have ak:=acg x J;have al:=Zy x J;have am:=Wj x J;have an:=ach x J;have ac:=ai1 x J;unfold nO at aa;unfold jl.cells at*;obtain⟨hd,Y⟩:=fD x.held;rw[<-Y]at ac U;have HD:=ah Y;clear Y;rcases mx with _ |_;.obtain rfl:O=none:=U;unfold rE;go_enter func14,ntmps14;go_wp2_with(first|((with_reducible refine iQ H ?_ _ rfl rfl _ bg rfl (iF x J) ?_);rfl)|((with_reducible refine(Z _ H.below).mono ?_);rintro e V⟨rfl,M⟩;replace H:=H.grow M;have iG:=H.b0.cell;have jQ:=H.b1.cell));go_ret2;exact⟨rfl,H.below⟩
 focus(rcases hd with _ |_;(·(obtain rfl:O=none:=by rw[U];simp);unfold rE;go_enter func14,ntmps14;go_wp2_with(first|((with_reducible refine iQ H ?_ _ rfl rfl _ bg rfl (iF x J) ?_);rfl)|((with_reducible refine(Z _ H.below).mono ?_);rintro e V⟨rfl,M⟩;replace H:=H.grow M;have iG:=H.b0.cell;have jQ:=H.b1.cell));go_ret2;exact⟨rfl,H.below⟩);focus((obtain rfl:O=fm:=by rw[U];simp);rcases O with _ |n;skip;rotate_left;skip))
 all_goals(unfold rE at*;go_enter func14,ntmps14;go_wp2_with(first|((with_reducible refine iQ H ?_ _ rfl rfl _ bg rfl (iF x J) ?_);rfl)|((with_reducible refine(Z _ H.below).mono ?_);rintro e V⟨rfl,M⟩;replace H:=H.grow M;have iG:=H.b0.cell;have jQ:=H.b1.cell)|((with_reducible refine(aa _ H.below).mono ?_);rintro e V⟨rfl,M⟩;replace H:=H.grow M));go_ret2;exact⟨rfl,H.below⟩)
def aei(h:p[k]? =some s):CS t (p.drop k) n=if n<=jS t s.edge then Hu t s n else CS t (p.drop (k+1)) (n-jS t s.edge):=by rw[ark h,CS]
def aaF(h:p[k]? =some s):vO t (p.drop k)=jS t s.edge+vO t (p.drop (k+1)):=by rw[ark h];simp[vO]
theorem am5(h:jE w t m)(A:Option δ)(n c:Nat)(path:List St)(x:Int)(hp:fE gV w A path)(hn:path.length=n)(hl:n<=100):Γ aj 65 #[.agg m.cells,.slice A n c,.int .i64 x] w λe w'=>e=.returned (.tuple #[Vt (Zm t path x),.int .i64 (Zl t path x)])/\w w':=by
 have H:Own w _ [_,_]:=Own.iY w 27 38 m.cells gA;have af:=H.b0.cell;have ac:=λW (V:w W)=>yK (h.below V);have ad:=λW (V:w W)=>RQ (h.below V) A n c path (hp.below V) hn hl;have M:Zl t path x=if jr t≠0 then 1 else if ny t path≠0 then ny t path else if x<0\/qc t path<x then 1 else 0:=rfl
 have Y:Zm t path x=if Zl t path x=0 then CS t path x else qX:=rfl
 have HN:=ah hn;generalize a7:Zl t path x=oe at*;generalize a8:Zm t path x=op at*;by_cases N:jr t=0;focus(
  rw[Ξ (by rw[N];simp)]at M;rw[N]at ac;by_cases U:ny t path=0;focus(
   rw[Ξ (by rw[U];simp)]at M;rw[U]at ad;have ai:=zY U;have an:=JC (jC N) U;by_cases h3:x<0;(focus((obtain rfl:oe=1:=by rw[M,Υ (.inl h3)]);(obtain rfl:op=qX:=by rw[Y,Ξ (by decide)]);(have f3:decide (x<0)=true:=by simpa using h3);generalize qc t path=lt at*));rotate_left;focus(
    (have f3:decide (x<0)=false:=by simpa using h3);by_cases h4:qc t path<x;(focus((obtain rfl:oe=1:=by rw[M,Υ (.inr h4)]);(obtain rfl:op=qX:=by rw[Y,Ξ (by decide)]);generalize qc t path=lt at*;have f4:decide (lt<x)=true:=by simpa using h4));rotate_left;focus(
     (obtain rfl:oe=0:=by rw[M,Ξ (by omega)]);rw[Υ rfl]at Y;have HR:=ah Y;(have aE:0<n:=by have:=ai.2.1;rcases Nat.eq_zero_or_pos n with e |e;(.have h5:=HN.out;rw[e]at h5;exact absurd (dh.1 h5) this);.exact e);(have hx:x<=vO t path:=by omega);have HX:=ah hx;generalize qc t path=lt at*;(have f4:decide (lt<x)=false:=by simp;omega);clear M Y U an hx;unfold jl.cells at*;go_enter func65,ntmps65;go_wp2_with(first|((with_reducible refine(ac _ H.below).mono ?_);rintro e Z⟨rfl,J⟩;replace H:=H.grow J;have uU:=H.b0.cell)|((with_reducible refine(ad _ H.below).mono ?_);rintro e Z⟨rfl,J⟩;replace H:=H.grow J;have EF:=H.b0.cell));clear af uU EF ac ad f3 f4;go_loopw [2,10] (λa i wr=> ∃(k:Nat) (y:Int),i=.int .i64 k/\k<n/\a=.int .i64 y/\0<=y/\y<=1000000000/\Hid (y<=vO t (path.drop k)/\CS t path x=CS t (path.drop k) y)/\Own w wr [(w,27,#[.slice m.A1 m.n1 m.c1,.slice m.A2 m.n2 m.c2,.slice m.A3 m.n3 m.c3,.slice m.A4 m.n4 m.c4]),(w.heap.size+1,38,gA)]) (λ_ i _=>n-(intOf i).toNat);(case atStart=>exact⟨0,x,rfl,aE,rfl,by omega,by have h5:=qI (jC N) path ai.2.2.1;have:=HX.out;have:=HN.out;omega,ah ⟨by simpa using HX.out,by simp⟩,H⟩);case round=>
      clear H;obtain⟨k,y,rfl,hk,rfl,aM,a9,hap,H⟩:=hrel;have af:=H.b0.cell;obtain⟨s,hs⟩:=aq5 HN.out hk;obtain⟨g,off,rfl,hg,a0,a1⟩:=hp.st hs;have Rh:=λW (V:w W)=>(V.cell (p:=⟨g,off+k*2,none⟩) hg).trans a0;have am:=λW (V:w W)=>(V.cell (p:=⟨g,off+k*2+1,none⟩) hg).trans a1;have Cm:=Rh _ H.below;have CB:=am _ H.below;have al:=ai.2.2.1 s (bP hs);obtain⟨i,ev,ge,CG,hi,a4,au,ax,aD,aq⟩:=rD h al;have a6:=jC N ev aq;have aa:=aei (t:=t) (n:=y) hs;have ag:=aaF (t:=t) hs;rw[au]at aa ag;have ak:=λW (V:w W)=>ab1 (h.below V) s y N al aM (by omega);have ba:=aD _ H.below;have HS:=ah hs;clear hs a0 a1 al au aq;obtain⟨x1,x2⟩:=s;simp only at hi Cm CB Rh am ak;subst hi;simp only[jl.cells,ax]at H af ak |-;by_cases ar:ev<y;·(have f5:decide (ev<y)=true:=by simpa using ar);(have a5:k+1<n:=by rcases eu (k+1) n with e |e;(.exact e);.have h5:path.drop (k+1)= []:=dJ (by rw[HN.out];exact e);have h6:=hap.out.1;rw[ag,h5]at h6;simp[vO]at h6;omega);rw[Ξ (by omega)]at aa;have ae:=ah (show y-ev<=vO t (path.drop (k+1))/\CS t path x=CS t (path.drop (k+1)) (y-ev) from⟨by have:=hap.out.1;omega,hap.out.2.trans aa⟩);clear aa ag hap ak;go_wp2_with fail;go_quiet(fail);go_wp2_with fail;go_quiet(fail);go_wp2_with fail;go_roundw;(case rel=>exact⟨k+1,y-ev,by go_num,by omega,rfl,by omega,by omega,ae,H.grow (aq3 gY _)⟩);case measure=>simp[intOf];omega
      ·(have f5:decide (ev<y)=false:=by simpa using ar);rw[Υ (by omega)]at aa;have ae:=ah (hap.out.2.trans aa);clear aa ag hap;have aw:=ah (HR.out.trans ae.out);clear ae HR;generalize Hu t ⟨i,x2⟩ y=res at*;obtain⟨r1,r2,r3⟩:=res;go_wp2_with fail;go_quiet(fail);go_wp2_with fail;generalize av:World.drewN wr _=wq;replace H:Own w wq _:=av▸H.grow (aq3 gY _);clear av af;apply jJ [(w.heap.size+1,none)];(case lX=>intro u;simp only[bV,aq9,aP,ay,aA,aB,aT,aJ];rfl);(case hm=>kernel_rfl);(case hB=>kernel_rfl);case hap=>kernel_rfl
       repeat(first
          |(apply jI.is
            ·
              (intro u w' hk O
               simp[fH,aC,Is]at O
               refine fC ?_ ?_
               ·
                 first
                 |rfl
               intro K hK
               have ap:=H.below.trans (hk.below H.below.size (by intro k o h;simp at h;omega));have aR:=(hk.blk H.b0 (by intro o h;simp at h;try omega)).cell;have m2:=am _ ap
               go_wp2_with ((with_reducible refine(ak _ ap).mono ?_);rintro e w3⟨rfl,az⟩)
               try simp only[O]at hK
               refine hK _ _ ?_ rfl
               first |exact Stp.refl _ _ |exact Stp.of_below az _))
          |(refine jI.row (w.heap.size + 1) 38 _ (#[.int .i64 r1, .int .i64 r2, .bool r3]) (by simp) H.b1 (by rfl) 38 _ _ rfl (by kernel_rfl) (by simp [aK]) ?_ ?_
            ·
              (intro u w' hk O
               simp[fH,aC,Is]at O
               exact⟨by first |rfl |simp[aF,ψ,O],rfl,by simp[Act.eval,O]⟩)))
       refine jI.nil ?_ ?_;(.simp[W2.fit,qy]);intro u w7 hk O;simp only[gQ]at O;have h5:fK w7 (w.heap.size+1) 38 #[.int .i64 r1,.int .i64 r2,.bool r3]:=O 7 _ rfl;have h7:=O 8 _ rfl;simp only[Is]at h7;clear O;go_wp2_with fail;refine β (gU results65 _ _ _ _ _ _ rfl rfl h5 underlying38 rfl (by kernel_rfl)) rfl ?_;exact⟨by simp[aw.out,h7],H.below.trans (hk.below H.below.size (by intro k o h;simp at h;omega))⟩)))
  rotate_left 2;.rw[Υ U]at M;generalize qc t path=lt at*;generalize ny t path=le at*;(obtain rfl:op=qX:=by rw[Y,M,Ξ U]);(have aL:(le != 0)=true:=by simpa using U);have HR:=ah M;clear M Y U N;unfold jl.cells at*;go_enter func65,ntmps65;go_wp2_with(first|((with_reducible refine(ac _ H.below).mono ?_);rintro e Z⟨rfl,J⟩;replace H:=H.grow J;have uU:=H.b0.cell)|((with_reducible refine(ad _ H.below).mono ?_);rintro e Z⟨rfl,J⟩;replace H:=H.grow J;have EF:=H.b0.cell)|((with_reducible refine kY gA H rfl _ _ rfl rfl rfl (by kernel_rfl) rfl ?_ ?_);(.first|(simp[aK];done));intro Z J iG jQ;replace H:=J;clear J));exact β (gU results65 _ _ _ _ _ _ rfl rfl H.b1 underlying38 rfl (by kernel_rfl)) rfl ⟨by simp[HR.out,qX],H.below⟩)
 rotate_left 2
 .rw[Υ N]at M;subst M;obtain rfl:op=qX:=by rw[Y,Ξ (by decide)]
  generalize jr t=ck at*;have aL:(ck != 0)=true:=by simpa using N
  clear Y N ad;unfold jl.cells at*;go_enter func65,ntmps65;go_wp2_with(first|((with_reducible refine(ac _ H.below).mono ?_);rintro e Z⟨rfl,J⟩;replace H:=H.grow J)|((with_reducible refine kY gA H rfl _ _ rfl rfl rfl (by kernel_rfl) rfl ?_ ?_);(.first|rfl|(simp[aK];done));intro Z J iG jQ;replace H:=J;clear J));exact β (gU results65 _ _ _ _ _ _ rfl rfl H.b1 underlying38 rfl (by kernel_rfl)) rfl ⟨rfl,H.below⟩
 all_goals(clear M Y U N an ai;unfold jl.cells at*;go_enter func65,ntmps65;go_wp2_with(first|((with_reducible refine(ac _ H.below).mono ?_);rintro e Z⟨rfl,J⟩;replace H:=H.grow J;have uU:=H.b0.cell)|((with_reducible refine(ad _ H.below).mono ?_);rintro e Z⟨rfl,J⟩;replace H:=H.grow J;have EF:=H.b0.cell)|((with_reducible refine kY gA H rfl _ _ rfl rfl rfl (by kernel_rfl) rfl ?_ ?_);(.first|(simp[aK];done));intro Z J iG jQ;replace H:=J;clear J));exact β (gU results65 _ _ _ _ _ _ rfl rfl H.b1 underlying38 rfl (by kernel_rfl)) rfl ⟨rfl,H.below⟩)
def QH: ∀args w,(ϕ 67 args).run aj w=.ok (.enter 67 args) w:=enters_of func67 (by rfl) (by rfl)
theorem aej(x:St)(e:Int)(g:Nat)(w:ω)(hA:w.cell? ⟨g,1,none⟩=some e)(M:g<w.heap.size):Γ aj 67 #[.agg (gV.enc x).toArray,.pointer g] w λr w'=>r=.returned (.bool (decide (x.edge=e)))/\w w':=by obtain⟨J,N⟩:=x;simp only[gV];have H:Own w _ [_]:=(Own.nil w).alloc 58 #[J,N] _ rfl;have U:=H.b0.cell;have O:=(H.below.cell (p:=⟨g,1,none⟩) M).trans hA;go_enter func67,ntmps67;go_wp2_with fail;go_ret;refine⟨?_,H.below⟩;by_cases h:J=e <;> simp[h]
def aek{S:wE}{t:τ}(U:Stp S w W)(M:fK w g t cs)(i:Nat)(H:(g,none)∉S)(J:(g,some i)∉S)(V:cs[i]? =some v):W.cell? ⟨g,i,none⟩=some v:=by obtain⟨cs',N,Y,O⟩:=U.shape g t cs M;rw[N.cell i,O H i J,V]
theorem Own.apj{J:Bk}{L:List Bk}{t:τ}(H:Own w W (J::(g,t,old)::L))(i:Nat)(v:Θ):Own w (W.setCell ⟨g,i,none⟩ v) (J::(g,t,old.setIfInBounds i v)::L):=Own.with (L1:= [J]) H (H.below.setCell (p:=⟨g,i,none⟩) (Own.lo (L1:= [J]) H) v) (H.b1.iV i v) (λk M=>aN W ⟨g,i,none⟩ v k M)
def trS (x:Tr) (p:Ps) (rf:Int) (rv:Bool) (ps:Int):Tr:={x with pos:=p,ref:=rf,rev:=rv,past:=ps}
def agZ(x:Tr)(m:kZ)(p:Ps):arh (jf x m) 34 [.int .i64 p.edge,.int .i64 p.at_,.bool p.rev]=jf (trS x p x.ref x.rev x.past) m:=rfl
def ael(x:Tr)(m:kZ)(p:Ps)(H:Int)(J:Bool)(ps n:Int):(jf (trS x p H J ps) m).setIfInBounds 38 (.int .i64 n)=jf (trS x p H J n) m:=rfl
def am6(x:Tr)(m:kZ)(p:Ps)(H:Int)(J:Bool)(ps:Int):(jf (trS x p H J ps) m)[38]? =some (.int .i64 ps):=rfl
def aiw(x:Tr)(m:kZ)(p:Ps)(H:Int)(J:Bool)(ps:Int):(jf (trS x p H J ps) m)[42]? =some (.slice m.v.A1 m.v.n1 m.v.c1):=rfl
theorem aaG{m:kZ}{q:Ps}{r0 p0 r p:Int}{J H:Bool}(V:Stp [(g,some 37),(g,some 39),(g,some 38)] w W)(U:fK w g 44 (jf (trS x q r0 J p0) m))(M:uG g 48 37 44 r υ W)(O:uG g 48 39 44 H υ W)(N:uG g 48 38 44 p υ W):fK W g 44 (jf (trS x q r H p) m):=by
 have e:jf (trS x q r H p) m=(((jf (trS x q r0 J p0) m).setIfInBounds 37 r).setIfInBounds 39 H).setIfInBounds 38 p:=rfl;refine abq (n:=48) V U _ rfl (by simp) ?_;intro i hi;by_cases a:i=37;.subst a;exact .inr ⟨_,rfl,M⟩
 .by_cases b:i=39;.subst b;exact .inr ⟨_,rfl,O⟩
  .by_cases c:i=38;(.subst c;exact .inr ⟨_,rfl,N⟩);.refine .inl ⟨?_,by simp[a,b,c]⟩;rw[e];simp[Array.getElem?_setIfInBounds,Ne.symm a,Ne.symm b,Ne.symm c]
def aem{g:Bl}{r:Int × Int × Bool × Int}(h:t.jW[k]? =some g):Iy t x fr kL (t.jW.drop k) r=match x.ma.path.find? (λs=>decide (s.edge=g.edge)) with
  |none=>Iy t x fr kL (t.jW.drop (k+1)) r
  |some s=>if r.1<(F5 t x.ma.path ⟨g.edge,g.at_,s.rev⟩).1/\(F5 t x.ma.path ⟨g.edge,g.at_,s.rev⟩).1<=kL then Iy t x fr kL (t.jW.drop (k+1)) ((F5 t x.ma.path ⟨g.edge,g.at_,s.rev⟩).1,g.id,s.rev,kL-(F5 t x.ma.path ⟨g.edge,g.at_,s.rev⟩).1) else Iy t x fr kL (t.jW.drop (k+1)) r:=by
  rw[ark h,Iy]
  cases x.ma.path.find? (λs=>decide (s.edge=g.edge)) <;> rfl
theorem XH{a:Int}(h:jR t x=some a):(rZ t x.ma).2=true/\Nw t x.ma=some (rZ t x.ma).1:=by
 unfold jR at h;split at h;.unfold qZ at h;have H:=Yq t x.ma;grind
 grind
def UJ{m:Ma}(h:rX t m=true)(age:Int):0<=jB m.fP age 0/\jB m.fP age 0<=100000000:=by obtain⟨r0,r1⟩:=JD h age;obtain⟨H,O,_,_,_,U,_,_,z,M,V⟩:=NM h;obtain⟨l1,l2,l3⟩:=arW H M;have J:=zY l1;have N:=qI (jC H) m.path J.2.2.1;rw[JC (jC H) l1]at l2;omega
def qF (t:Tp) (x:Tr) (n now:Int):Tr:=if rC t x n now=0 then zW t x n else x
theorem ag0(h:jE w t m)(x:Tr)(J:kZ)(U:zJ w x J)(n now:Int)(XI:jK now=true):Γ aj 31 #[.agg m.cells,.agg (jf x J),.int .i64 n,.int .i64 now] w λe w'=>e=.returned (.tuple #[.agg (jf (qF t x n now) J),.int .i64 (rC t x n now)])/\w w':=by
 have H:Own w _ [_,_,_]:=Own.start3 w 27 44 44 m.cells (jf x J) gL;have an:=H.b0.cell;have ad:=λW (Y:w W)=>Bj (h.below Y) x J (U.below Y);have af:=λW (Y:w W)=>I5 x.ma J.v (now-x.at_) W (U.ma.below Y);have V:rC t x n now=match jR t x with|none=>6|some a=>if x.stops≠ [] then 6 else if n<1 then 1 else if jB x.ma.fP (now-x.at_) 0-a<n then 141 else 0:=rfl
 have hR:qF t x n now=if rC t x n now=0 then zW t x n else x:=rfl
 have bb:=U.e3;have bf:x.stops≠ []<->0<J.n3:=by rw[<-bb];exact⟨List.length_pos_iff.2,List.length_pos_iff.1⟩
 simp only[bf]at V;clear bf bb;unfold jK at XI;simp only[bM,decide_eq_true_eq]at XI;obtain⟨cg,ch⟩:=XI;generalize rC t x n now=me at*;generalize qF t x n now=mr at*;have cm:=afL x J;have cn:=afM x J;have ct:=afN x J;have cu:=afO x J;have cw:=alQ x J;have cx:=acf x J;have cy:=acg x J;have cz:=Zy x J;have cA:=Wj x J;have cB:=ach x J;have cC:=ai0 x J;have cD:=ai1 x J;have cE:=Wn x J;rcases hfr:jR t x with _ |a;focus(rw[hfr]at V ad;obtain rfl:me=6:=V;obtain rfl:x=mr:=hR.symm;clear hR;clear hfr;unfold rE at ad)
 rotate_left;focus(
  obtain⟨a0,aL,a4,UK⟩:=EI hfr;obtain⟨a9,av⟩:=XH hfr;have ak:=(Le t x).1 aL;obtain⟨r0,r1⟩:=UJ UK (now-x.at_);have ca:a<=100000000:=by unfold jR at hfr;rw[Υ ⟨aL,a4⟩]at hfr;unfold qZ at hfr;rw[av]at hfr;simp only at hfr;split at hfr;(.simp at hfr;have:=EL t x.ma.path x.pos;have:=DI t x.ma;omega);.cases hfr
  have HF:=ah hfr;have HB:=ah av;have ae:=ah a9;obtain⟨_,_,_,_,_,_,_,_,_,p0,p1,q0,q1⟩:=ak;rw[hfr]at V ad;simp only at V;clear hfr aL a4 av a9;generalize bE:jB x.ma.fP (now-x.at_) 0=rr at*;clear bE;unfold rE at ad;by_cases h1:0<J.n3;focus(rw[Υ h1]at V;subst V;obtain rfl:x=mr:=hR.symm;clear hR;(have f1:decide (0<(J.n3:Int))=true:=by simpa using h1);clear HF HB ae)
  rotate_left;focus(
   rw[Ξ h1]at V;(have f1:decide (0<(J.n3:Int))=false:=by simpa using h1);by_cases h2:n<1;(focus(rw[Υ h2]at V;subst V;obtain rfl:x=mr:=hR.symm;clear hR;(have f2:decide (n<1)=true:=by simpa using h2);clear HF HB ae));rotate_left;focus(
    rw[Ξ h2]at V;(have f2:decide (n<1)=false:=by simpa using h2);by_cases h3:rr-a<n;(focus(rw[Υ h3]at V;subst V;obtain rfl:x=mr:=hR.symm;clear hR;(have f3:decide (rr-a<n)=true:=by simpa using h3);clear HF HB ae));rotate_left;focus(
     rw[Ξ h3]at V;subst V;rw[Υ rfl]at hR;(have f3:decide (rr-a<n)=false:=by simpa using h3);obtain⟨b0,b1⟩:=DI t x.ma;have am:=λW (Y:w W)=>ab4 (h.below Y) x.ma J.v (U.ma.below Y);rw[ae.out]at am;(have ak:mr=(let r:=Iy t x ((rZ t x.ma).1+a) ((rZ t x.ma).1+a+n) t.jW ((rZ t x.ma).1+a,x.ref,x.rev,x.past+n);{x with pos:=Zm t x.ma.path ((rZ t x.ma).1+a+n),ref:=r.2.1,rev:=r.2.2.1,past:=r.2.2.2}):=by rw[hR];unfold zW;rw[HF.out,HB.out]);clear hR HF HB ae;generalize (rZ t x.ma).1=b at*;have bd:=λW (Y:w W)=>am5 (h.below Y) J.v.A1 J.v.n1 J.v.c1 x.ma.path (b+a+n) (U.ma.path.below Y) U.ma.e1 U.ma.l1;generalize Zm t x.ma.path (b+a+n)=op at*;generalize Zl t x.ma.path (b+a+n)=oe at*;obtain⟨o1,o2,o3⟩:=op;have bh:=ah ak;clear ak;have cf:=h.l3;unfold nO at af am;unfold jl.cells at*;go_enter func31,ntmps31;go_wp2_with(first|((with_reducible refine iQ H ?_ _ rfl rfl _ bg rfl (iF _ J) ?_);(.first|rfl|(simp[aF,ψ];done)))|(go_at_call 14;(with_reducible refine(ad _ H.below).mono ?_);rintro e fU⟨rfl,N⟩;replace H:=H.grow N;have uU:=H.b0.cell;have MX:=H.b1.cell)|(go_at_call 40;(with_reducible refine(af _ H.below).mono ?_);rintro e fU⟨rfl,N⟩;replace H:=H.grow N;have EF:=H.b0.cell;have UL:=H.b1.cell)|(go_at_call 64;(with_reducible refine(am _ H.below).mono ?_);rintro e w3⟨rfl,al⟩;replace H:=H.grow al;have bi:=H.b0.cell;have bj:=H.b1.cell)|(go_at_call 65;(with_reducible refine(bd _ H.below).mono ?_);rintro e fU⟨rfl,N⟩;replace H:=H.grow N)|((with_reducible refine abr 34 (#[.int .i64 o1,.int .i64 o2,.bool o3]) H rfl 38 _ _ rfl rfl rfl (by kernel_rfl) ?_ ?_ ?_);(.show 37<=48;decide);(.simp[aK]);intro fU N iG jQ;replace H:=N;clear N iG jQ;rw[agZ x J ⟨o1,o2,o3⟩]at H;have bk:=H.b1.cell;have bR:=am6 x J ⟨o1,o2,o3⟩ x.ref x.rev x.past;have bm:=H.b1.frozen;have bn:=H.b0.cell));replace H:=Own.apj H 38 (.int .i64 (x.past+n));rw[ael x J ⟨o1,o2,o3⟩ x.ref x.rev x.past (x.past+n)]at H;clear an uU MX EF UL bi bj bk bR bm bn ad af am bd f1 f2 f3;go_loopw [16,87] (λbe i wr=> ∃(k:Nat) (aa rf:Int) (rv:Bool) (ps:Int),i=.int .i64 k/\k<=m.n3/\be=.int .i64 aa/\Hid (Iy t x (b+a) (b+a+n) t.jW (b+a,x.ref,x.rev,x.past+n)=Iy t x (b+a) (b+a+n) (t.jW.drop k) (aa,rf,rv,ps))/\Own w wr [(w,27,#[.slice m.A1 m.n1 m.c1,.slice m.A2 m.n2 m.c2,.slice m.A3 m.n3 m.c3,.slice m.A4 m.n4 m.c4]),(w.heap.size+1,44,jf (trS x ⟨o1,o2,o3⟩ rf rv ps) J),(w.heap.size+1+1,44,gL)]) (λ_ i _=>m.n3-(intOf i).toNat);(case atStart=>exact⟨0,b+a,x.ref,x.rev,x.past+n,rfl,aV _,rfl,ah (by simp),H⟩);case round=>
      clear H;obtain⟨k,aa,rf,rv,ps,rfl,O,rfl,hap,H⟩:=hrel;have an:=H.b0.cell;have bA:=H.b2.lt;have bS:=aiw x J ⟨o1,o2,o3⟩ rf rv ps;by_cases bx:k<m.n3;focus(
       obtain⟨g,hg⟩:=aq5 h.e3 bx;obtain⟨gg,ag,a7,aD,aM,aR,a1⟩:=h.lies.jW.bl hg;have Cm:=(H.below.cell (p:=⟨gg,ag+k*3,none⟩) aD).trans aM;have CB:=(H.below.cell (p:=⟨gg,ag+k*3+1,none⟩) aD).trans aR;have RZ:=(H.below.cell (p:=⟨gg,ag+k*3+2,none⟩) aD).trans a1;have Z:=aem (t:=t) (x:=x) (fr:=b+a) (kL:=b+a+n) (r:=(aa,rf,rv,ps)) hg;rw[<-hap.out]at Z;obtain⟨g1,g2,g3⟩:=g;simp only at Cm CB RZ Z;have jc:=Own.abu H 114 #[.int .i64 g1,.int .i64 g2,.int .i64 g3];have uU:=jc.b0.cell;have MX:=jc.b1.cell;have a5:=jc.b3.cell;have ac:=Yi 67 QH #[.pointer (some ⟨wr,0,none⟩)] (λs=>decide (s.edge=g2)) J.v.A1 J.v.n1 J.v.c1 x.ma.path _ (λW' y ar=>(aej y g2 wr W' ((ar.cell (p:=⟨wr,1,none⟩) jc.b3.lt).trans (a5 1)) (aU jc.b3.lt ar.size)).mono λ_ _ h=>⟨h.1,gZ ar h.2⟩) (U.ma.path.below jc.below) U.ma.e1 (by have:=U.ma.l1;omega);unfold Lib.idxBy at ac;clear aM aR a1 hg;simp only[a7]at H jc an uU ac |-;rcases F9 (λs:St=>decide (s.edge=g2)) x.ma.path 0 with⟨j,j1,j2,j3⟩ |⟨j1,j2⟩;focus(
        obtain⟨s,hs⟩:=Option.isSome_iff_exists.1 j3;rw[hs]at Z j2;rw[j1,aJ]at ac;obtain⟨gp,bo,hP,ZW,c0,c1⟩:=U.ma.path.st j2;(have cd:j<J.v.n1:=by rw[<-U.ma.e1];exact(aX.1 j2).1);have cc:J.v.n1<=100:=U.ma.l1;have kp:=λW (Y:w W)=>(Y.cell (p:=⟨gp,bo+j*2+1,none⟩) ZW).trans c1;have aE:=λW (Y:w W)=>aiX (h.below Y) J.v.A1 J.v.n1 J.v.c1 x.ma.path ⟨g2,g3,s.rev⟩ (U.ma.path.below Y) U.ma.e1 U.ma.l1;obtain⟨bN,bO⟩:=EL t x.ma.path ⟨g2,g3,s.rev⟩;obtain⟨s1,s2⟩:=s;simp only at Z aE kp bN bO;generalize (F5 t x.ma.path ⟨g2,g3,s2⟩).1=o at*;generalize (F5 t x.ma.path ⟨g2,g3,s2⟩).2=ci at*;simp only[jl.cells,a7,hP]at aE ac bS |-;clear j1 j2 j3 hs c0 c1;go_wp2_with(first|(go_at_call 66;(with_reducible refine ac.mono ?_);rintro e fU⟨rfl,N⟩;replace H:=jc.grow N));clear an uU MX a5 ac jc;apply jJ [];(case lX=>intro u;simp only[bV,aq9,aP,ay,aA,aB,aT,aJ];rfl);(case hm=>kernel_rfl);(case hB=>kernel_rfl);(case hap=>kernel_rfl);(repeat(first|(apply jI.is;·(intro u w' O M;simp[fH,aC,Is]at M;refine fC ?_ ?_;(·(first|rfl|(simp[aF,ψ,M];done)));intro K hK;have ai:=H.below.trans (O.below H.below.size (by intro k o h;simp at h));have bu:=(O.blk H.b0 (by intro o h;simp at h)).cell;have ba:=(O.blk H.b1 (by intro o h;simp at h)).cell;have az:=(O.blk H.b3 (by intro o h;simp at h)).cell;have bL:=kp _ ai;go_wp2_with(go_at_call 68;(with_reducible refine(aE _ ai).mono ?_);rintro e w3⟨rfl,al⟩);(try simp only[M]at hK);refine hK _ _ ?_ rfl;first|exact Stp.refl _ _|exact Stp.of_below al _))));refine jI.nil ?_ ?_;(.simp[W2.fit,qy]);intro u w7 O M;simp only[gQ]at M;have ap:=M 20 _ rfl;simp only[Is]at ap;clear M;simp only[ap];have a8:=O.below ig (by intro k o h;simp at h);replace H:=H.grow a8;clear O a8 ap;have bw:w.heap.size+1+1<wr.heap.size:=bA;have ba:=H.b1.cell;have az:=H.b3.cell;by_cases c1:aa<o;focus(
         (have f1:decide (aa<o)=true:=by simpa using c1);by_cases c2:o<=b+a+n
         ·(have f2:decide (o<=b+a+n)=true:=by simpa using c2);have HS:=ah (Z.trans (Υ ⟨c1,c2⟩));clear Z hap;go_wp2_with fail;clear ba az;apply jJ [(w.heap.size+1,some 37),(w.heap.size+1,some 39),(w.heap.size+1,some 38)];(case lX=>intro u;simp only[bV,aq9,aP,ay,aA,aB,aT,aJ];rfl);(case hm=>kernel_rfl);(case hB=>kernel_rfl);case hap=>kernel_rfl
          repeat(first
             |(apply jI.is
               ·
                 (intro u w' O M
                  simp[fH,aC,Is]at M
                  refine fC ?_ ?_
                  ·
                    first
                    |rfl
                    |(simp[aF,ψ,M];done)
                  intro K hK
                  have ai:=H.below.trans (O.below H.below.size (by intro k o h;simp at h;omega));have bu:=(O.blk H.b0 (by intro o h;simp at h;try omega)).cell;have az:=(O.blk H.b3 (by intro o h;simp at h;have:=H.b1.lt;have:=bw;omega)).cell;have bL:=kp _ ai;have bX:=aek O H.b1 42 (by simp) (by simp) (aiw x J ⟨o1,o2,o3⟩ rf rv ps)
                  go_wp2_with (fail)
                  try simp only[M]at hK
                  refine hK _ _ ?_ rfl
                  first |exact Stp.refl _ _ |exact Stp.of_below al _))
             |(refine jI.cell (w.heap.size + 1) 48 37 44 _ (.int .i64 g1) (by simp) H.b1 rfl (by decide) _ _ _ rfl (by kernel_rfl) (by simp [aK, q32, q64]) ?_ ?_
               ·
                 (intro u w' O M
                  simp[fH,aC,Is]at M
                  refine⟨?_,?_,?_⟩
                  ·
                    first
                    |rfl
                    |(simp[aF,ψ,M];done)
                  ·
                    first
                    |rfl
                    |(simp[Act.eval,M];done)
                  ·
                    first
                    |rfl
                    |(simp[Act.eval,M];done)))
             |(refine jI.cell (w.heap.size + 1) 48 39 44 _ (.bool s2) (by simp) H.b1 rfl (by decide) _ _ _ rfl (by kernel_rfl) (by simp [aK, q32, q64]) ?_ ?_
               ·
                 (intro u w' O M
                  simp[fH,aC,Is]at M
                  refine⟨?_,?_,?_⟩
                  ·
                    first
                    |rfl
                    |(simp[aF,ψ,M];done)
                  ·
                    first
                    |rfl
                    |(simp[Act.eval,M];done)
                  ·
                    first
                    |rfl
                    |(simp[Act.eval,M];done)))
             |(refine jI.cell (w.heap.size + 1) 48 38 44 _ (.int .i64 (b + a + n - o)) (by simp) H.b1 rfl (by decide) _ _ _ rfl (by kernel_rfl) (by simp [aK, q32, q64]) ?_ ?_
               ·
                 (intro u w' O M
                  simp[fH,aC,Is]at M
                  refine⟨?_,?_,?_⟩
                  ·
                    first
                    |rfl
                    |(simp[aF,ψ,M];done)
                  ·
                    first
                    |rfl
                    |(simp[Act.eval,M];done)
                  ·
                    first
                    |rfl
                    |(simp[Act.eval,M];done))))
          refine jI.nil ?_ ?_;(.simp[W2.fit,qy]);intro u w7 O M;simp only[gQ]at M;have a6:=M 13 _ rfl;have aq:=M 15 _ rfl;have ax:=M 17 _ rfl;have aw:=M 19 _ rfl;simp only[Is]at a6;simp only at aq ax aw;clear M;have bc:=aaG O H.b1 aq ax aw;(have bq:Own w w7 [(w,27,#[.slice m.A1 m.n1 m.c1,.slice m.A2 m.n2 m.c2,.slice (some ⟨gg,ag,none⟩) m.n3 m.c3,.slice m.A4 m.n4 m.c4]),(w.heap.size+1,44,jf (trS x ⟨o1,o2,o3⟩ g1 s2 (b+a+n-o)) J),(w.heap.size+1+1,44,gL)]:=by refine⟨H.below.trans (O.below H.below.size (by intro k o h;simp at h;omega)),λy hy=>?_,by simp;omega⟩;simp at hy;rcases hy with rfl |rfl |rfl;(.exact⟨aW _,O.blk H.b0 (by intro o h;simp at h;try omega)⟩);(.exact⟨by simp,bc⟩);.exact⟨by simp;omega,O.blk H.b2 (by intro o h;simp at h;try omega)⟩);clear bc aq ax aw O;simp only[a6];go_wp2_with fail;go_roundw;(case rel=>exact⟨k+1,o,g1,s2,b+a+n-o,by go_num,by omega,rfl,HS,bq⟩);case measure=>simp[intOf];omega
         focus((have f2:decide (o<=b+a+n)=false:=by simpa using c2);have HS:=ah (Z.trans (Ξ (λhh=>c2 hh.2)))))
        rotate_left;focus((have f1:decide (aa<o)=false:=by simpa using c1);have HS:=ah (Z.trans (Ξ (λhh=>c1 hh.1)))))
       rotate_left 2;.rw[j2]at Z;rw[j1]at ac;have HS:=ah Z;clear Z hap j1 j2;go_wp2_with(first|(go_at_call 66;(with_reducible refine ac.mono ?_);rintro e fU⟨rfl,N⟩;replace H:=jc.grow N));go_roundw;(case rel=>exact⟨k+1,aa,rf,rv,ps,by go_num,by omega,rfl,HS,⟨H.below,λx U=>H.blk x (by simp at U;rcases U with rfl |rfl |rfl <;> simp),by simp;omega⟩⟩);case measure=>simp[intOf];omega)
      rotate_left 2;(·(obtain rfl:k=m.n3:=by omega);have au:=hap.out;rw[dJ (by rw[h.e3];exact aW _)]at au;(have bB:mr=trS x ⟨o1,o2,o3⟩ rf rv ps:=by have h5:=bh.out;rw[au]at h5;exact h5);subst bB;clear hap au;go_wp2_with(first|((with_reducible refine iQ H ?_ _ rfl rfl _ bg rfl (iF _ J) ?_);(.first|rfl|(simp[aF,ψ];done)))|((with_reducible refine jv (jf (trS x ⟨o1,o2,o3⟩ rf rv ps) J) H rfl _ _ rfl rfl rfl (iF _ J) rfl (lM _ J) ?_);intro fU N iG jQ;replace H:=N;clear N));exact β (gU results31 _ _ _ _ _ _ rfl rfl H.b2 bg rfl (iF _ J)) rfl ⟨rfl,H.below⟩);all_goals(clear Z hap;go_wp2_with fail;go_roundw;(case rel=>exact⟨k+1,aa,rf,rv,ps,by go_num,by omega,rfl,HS,⟨H.below,λx U=>H.blk x (by simp at U;rcases U with rfl |rfl |rfl <;> simp),by simp;omega⟩⟩);case measure=>simp[intOf];omega)))))
 all_goals(unfold nO at af;unfold jl.cells at*;go_enter func31,ntmps31;go_wp2_with(first|((with_reducible refine iQ H ?_ _ rfl rfl _ bg rfl (iF _ J) ?_);(.first|rfl|(simp[aF,ψ];done)))|(go_at_call 14;(with_reducible refine(ad _ H.below).mono ?_);rintro e fU⟨rfl,N⟩;replace H:=H.grow N;have uU:=H.b0.cell;have MX:=H.b1.cell)|((with_reducible refine jv (jf x J) H rfl _ _ rfl rfl rfl (iF _ J) rfl (lM _ J) ?_);intro fU N iG jQ;replace H:=N;clear N)|(go_at_call 40;(with_reducible refine(af _ H.below).mono ?_);rintro e fU⟨rfl,N⟩;replace H:=H.grow N;have EF:=H.b0.cell;have UL:=H.b1.cell));exact β (gU results31 _ _ _ _ _ _ rfl rfl H.b2 bg rfl (iF _ J)) rfl ⟨by first |rfl |simp,H.below⟩)
section
open Go.RowKit Go.Shelf Go.Sort
theorem aey{α:Type}{H:List α}{p:Nat}{o v:α}(h:H.reverse=o::(H.take p).reverse)(M:p<H.length):(H.set p v).reverse=v::(H.take p).reverse:=by
 have e:H=H.take p++ [o]:=by have:=ξ List.reverse h;simpa using this
 have J:(H.take p).length=p:=by rw[dX];omega
 generalize H.take p=N at*;subst e;subst J;simp
theorem Ll{cur:Array Θ}{i:Nat}{v:Θ}(h:cur[i]? =some v):cur.setIfInBounds i v=cur:=by
 apply Array.ext_getElem?;intro j;rw[Array.getElem?_setIfInBounds];split
 .rename_i e;subst e;split;.rw[h]
  .rename_i H;rw[dI (by omega)]
 .rfl
def akM (o y:Sp) (zs ys:List Sp) (p j:Nat) (xs:List Sp):Prop:=(if o.edge=y.edge/\y.lo<=o.hi then oI (⟨o.edge,o.lo,max o.hi y.hi⟩::(zs.take p).reverse) (ys.drop (j+1)) else oI (y::o::(zs.take p).reverse) (ys.drop (j+1))).reverse=qY xs/\zs.reverse=o::(zs.take p).reverse/\zs[p]? =some o
theorem aez(A:Option δ)(n c:Nat)(xs:List Sp)(w:ω)(hr:fE iO w A xs)(hn:xs.length=n)(hl:n<=1000):Γ aj 53 #[.slice A n c] w λe w'=> ∃A' c',e=.returned (.slice A' (qY xs).length c')/\aq1 iO 130 w' w A' c' (qY xs)/\w w':=by
 have a4:=aiV A n c xs w hr hn (by omega);have bk:(xs.filter lG).length<=1000:=aG (List.length_filter_le _ _) (by omega);have HN:=ah hn;clear hr hn;go_enter func53,ntmps53;go_wp2_with(first|((with_reducible refine a4.mono ?_);rintro e fU⟨fJ,iG,rfl,ax,au⟩)|((with_reducible refine(agu _ _ _ _ _ _ ax HN.out hl).mono ?_);rintro e w2⟨rfl,ai,a6⟩;have ag:=aro au ax au.size a6)|((with_reducible refine(adt _ _ _ _ _ _ ai rfl bk).mono ?_);rintro e w3⟨rfl,ys,az,bd,bb,a7⟩;have aR:=aro ag ai ag.size a7));have hR:(oI [] ys).reverse=qY xs:=abZ az bd;have ba:ys.length=(xs.filter lG).length:=az.length_eq;generalize (xs.filter lG).length=m at*;have HR:=ah (And.intro hR ba);have bq:=bb.rows;have aM:=aR.size;clear hR ba a4 ax ai bb a6 a7 au ag az bd HN;go_loopw [4,15] (λs4 aL wr=> ∃(A1:Option δ) (c1 k j:Nat) (Y:List Sp),s4=.slice A1 k c1/\aL=.int .i64 j/\j<=m/\k<=j/\Hid ((oI Y.reverse (ys.drop j)).reverse=qY xs)/\Hid (Y.length=k)/\aq1 iO 130 wr w3 A1 c1 Y/\w3 wr) (λ_ aL _=>m-(intOf aL).toNat);case atStart=>exact⟨none,0,0,0,[],rfl,rfl,by omega,by omega,ah (by simpa using HR.out.1),ah rfl,aq1.nil _ _,aH _ _⟩
 case round=>
  obtain⟨A1,c1,k,j,Y,rfl,rfl,bA,bB,hJ,N,U,H⟩:=hrel;have bh:=bq.below H;by_cases bm:j<m
  .obtain⟨y,hy⟩:=aq5 HR.out.2 bm;obtain⟨b0,bu,rfl,bw,hc⟩:=bh.get hy;have Cm:=hc 0 y.edge rfl;have CB:=hc 1 y.lo rfl;have RZ:=hc 2 y.hi rfl;simp only[iO,bI]at Cm CB RZ;(have a5:ys.drop j=y::ys.drop (j+1):=by obtain⟨Z,h2⟩:=aX.1 hy;rw[List.drop_eq_getElem_cons Z,h2]);have HD:=ah a5;have O:Own wr _ [_]:=(Own.nil wr).alloc 130 #[y.edge,y.lo,y.hi] _ rfl;clear hc hy bh a5;obtain⟨y1,y2,V⟩:=y;simp only at Cm CB RZ O;rcases Nat.eq_zero_or_pos k with aw |aw;.subst aw;have hz:Y= []:=dh.1 N.out;subst hz;go_wp2_with fail;replace U:=U.below O.below;replace H:=H.trans (O.below.mono H.size);generalize av:(wr.alloc (.cells #[y1,y2,V] 130))=W0 at*;clear av Cm CB RZ;refine ara (by kernel_rfl) ?_;(repeat(first|(apply gX.want rfl;(.intro w' M K Q' N;have ad:=O.grow M;have ae:=ad.b0.cell;go_wp2_with(fail);first|exact aH _ _);(.simp only[aP,ay,aA,aB];rfl))|(apply gX.skip rfl;.simp only[aP,ay,aA,aB];rfl)));refine gX.nil ?_;intro w' M;replace U:=U.below M;replace H:=H.trans (M.mono H.size);replace O:=O.grow M;have ae:=O.b0.cell;clear M;go_wp2_with(at_builtin;refine gW ND rfl _ _ rfl w3 A1 c1 [] 0 rfl rfl (U.below jm) w' 1 [⟨y1,y2,V⟩] 1 rfl rfl (xO (fK.new _ _ _)) (by omega) (by decide) ((H.alloc (H.size) _).size) ?_;intro A2 c2 w5 uq al _);go_roundw;(case rel=>refine⟨A2,c2,1,j+1,[⟨y1,y2,V⟩],rfl,by go_num,by omega,by omega,ah ?_,ah rfl,uq,aro (H.alloc H.size _) (U.below jm) ((H.alloc H.size _).size) al⟩;have:=hJ.out;rw[HD.out]at this;exact this);case measure=>simp[intOf];omega
   .obtain⟨p,bj⟩: ∃p,k=p+1:=⟨k-1,by omega⟩;(have aD:p<k:=by omega);(have bc:((k:Int)-1)=(p:Int):=by omega);obtain⟨o,aq⟩:=aq5 N.out aD;(have aE:Y.reverse=o::(Y.take p).reverse:=by(have Z:Y=Y.take p++ [o]:=by rw[<-take_snoc' aq,aY (by rw[N.out];omega)]);rw[List.reverse_eq_iff,List.reverse_cons,List.reverse_reverse];exact Z);have an:=hJ.out;rw[aE,HD.out,oI]at an;obtain⟨g,cur,e,a8,ac,bf,h4,h5,h6⟩:=U.blk (U.some_ (by rw[N.out];omega));subst e;have ap:=λW (hW:wr W)=>((U.below hW).rows.get aq);clear bj aw;obtain⟨o1,o2,o3⟩:=o;simp only at an;have HZ:akM ⟨o1,o2,o3⟩ ⟨y1,y2,V⟩ Y ys p j xs:=⟨an,aE,aq⟩;rw[N.out]at h4;clear aE an aq h6;go_wp2_with fail;replace ap:=λW (hW:Below (wr.alloc (.cells #[y1,y2,V] 130)).heap.size (wr.alloc (.cells #[y1,y2,V] 130)) W)=>ap W (gZ O.below hW);replace U:=U.below O.below;replace ac:=ac.below O.below ac.lt;replace H:=H.trans (O.below.mono H.size);generalize av:(wr.alloc (.cells #[y1,y2,V] 130))=W0 at*;(have hq: ∀W,W0 W->W.cell? ⟨g,p*3,none⟩=some o1/\W.cell? ⟨g,p*3+1,none⟩=some o2/\W.cell? ⟨g,p*3+2,none⟩=some o3:=by intro W hW;obtain⟨b,off,e,_,hc⟩:=ap W hW;simp only[aO,cZ]at e;obtain⟨rfl,rfl,-⟩:=e;have a0:=hc 0 o1 rfl;have a1:=hc 1 o2 rfl;have a2:=hc 2 o3 rfl;simp only[iO,aJ,bI]at a0 a1 a2;exact⟨a0,a1,a2⟩);clear av ap Cm CB RZ;by_cases a9:o1=y1
    .subst a9;by_cases am:y2<=o3
     ·(have f2:decide (y2<=o3)=true:=by simpa using am);apply iM;(case lX=>intro u;simp only[bV,aq9,aP,ay,aA,aB,aT,aJ];with_reducible rfl);(case hm=>kernel_rfl);(case hB=>kernel_rfl);(case hap=>kernel_rfl);(repeat(first|(apply Lex.is;·(intro u w' M J;simp[fH,aC,Is]at J;refine fF ?_ ?_;(·(first|rfl|(simp[aF,ψ,J];done)));intro K N;have ad:=O.grow M;have ae:=ad.b0.cell;go_wp2_with(fail);(try simp only[J]at N);refine N _ _ ?_ rfl;first|exact aH _ _))));apply Lex.nil;intro u w' M J;simp only[gQ]at J;have aa:=J 21 _ rfl;simp only[Is]at aa;clear J;simp only[aa];replace U:=U.below M;replace H:=H.trans (M.mono H.size);replace O:=O.grow M;have ae:=O.b0.cell;replace hq:=λW (hW:w' W)=>hq W (gZ M hW);replace ac:=ac.below M ac.lt;clear M aa ae;go_wp2_with fail;apply gu (Below w') (λW=>aq3 gY 1) (λ_ _ _ Z h2=>Z.trans h2) (vN w' 999) (λ_ _ _ h=>h.1) (λ_ _=>iR _ _ _ _) (λ_ _=>True) (λ_=>trivial) (λ_ _ _ _ _ _ _=>trivial);(case lX=>intro u;simp only[bV,aq9,aP,ay,aA,aB,aT,aJ];with_reducible rfl);(case hm=>kernel_rfl);(case hB=>kernel_rfl);(case hA=>kernel_rfl);case hap=>kernel_rfl
      repeat(first
         |(apply fM.is
           ·
             (intro u w' M bE J
              simp[fO,aC,gI,Is]at J
              refine fC ?_ ?_
              ·
                first
                |rfl
              intro K N
              have ad:=O.grow M;have ae:=ad.b0.cell;have m2:=(hq _ M).2.2
              go_wp2_with (fail)
              try simp only[J]at N
              refine N _ _ ?_ rfl
              first |exact iR _ _ _ _)))
      refine fM.last (qh ?_) ?_;(.simp only[gQ];(repeat(refine⟨?_,?_⟩;.first|exact mM _));exact trivial);intro u w2 af _ J;simp only[gQ]at J;refine⟨rfl,?_⟩;intro K N;have ar:=J 11 _ rfl;have h9:=J 9 _ rfl;simp only[gI,Is]at ar h9;clear J;have ak:=ac.below af ac.lt;have bx:=ak.frozen (p*3+2);simp only[ar,h9];clear ar h9;go_wp2_with fail;go_roundw;(case rel=>have hs:=jX g [(max o3 V:Int)] (p*3+2) w2;have bi:w2.grownBy (w2.setCells g (p*3+2) [(max o3 V:Int)]) (some g):=⟨hs.2.2.1,hs.2.2.2.1,hs.2.2.2.2,bZ hs.1.symm,λi _ bn=>hs.2.1 i (λe=>bn (by rw[e]))⟩;have ai:=U.below af;have ag:w3 w2:=H.trans (af.mono H.size);have a0:=(ak.cell (p*3)).symm.trans (hq _ af).1;have a1:=(ak.cell (p*3+1)).symm.trans (hq _ af).2.1;(have bo:fK (w2.setCells g (p*3+2) [(max o3 V:Int)]) g 130 (arh cur (p*iO.k) (iO.enc ⟨o1,o2,max o3 V⟩)):=by(have e:arh cur (p*iO.k) (iO.enc ⟨o1,o2,max o3 V⟩)=cur.setIfInBounds (p*3+2) (max o3 V:Int):=by show((cur.setIfInBounds (p*3) o1).setIfInBounds (p*3+1) o2).setIfInBounds (p*3+2) (max o3 V:Int)=_;rw[Ll a0,Ll a1]);rw[e];exact ak.iV _ _);refine⟨g,c1,k,j+1,Y.set p ⟨o1,o2,max o3 V⟩,rfl,by go_num,by omega,by omega,ah ?_,ah (by rw[List.length_set,N.out]),aq1.put ai (by rw[N.out];omega) _ ak bo,aro ag ai ag.size bi⟩;have Z:=HZ.1;rw[Υ ⟨rfl,am⟩]at Z;rw[aey HZ.2.1 (by rw[N.out];omega)];exact Z);case measure=>simp[intOf];omega
     ·(have f2:decide (y2<=o3)=false:=by simpa using am);clear am;apply iM;(case lX=>intro u;simp only[bV,aq9,aP,ay,aA,aB,aT,aJ];with_reducible rfl);(case hm=>kernel_rfl);(case hB=>kernel_rfl);(case hap=>kernel_rfl);(repeat(first|(apply Lex.is;·(intro u w' M J;simp[fH,aC,Is]at J;refine fF ?_ ?_;(·(first|rfl|(simp[aF,ψ,J];done)));intro K N;have ad:=O.grow M;have ae:=ad.b0.cell;go_wp2_with(fail);(try simp only[J]at N);refine N _ _ ?_ rfl;first|exact aH _ _))));apply Lex.nil;intro u w' M J;simp only[gQ]at J;have aa:=J 21 _ rfl;simp only[Is]at aa;clear J;simp only[aa];replace U:=U.below M;replace H:=H.trans (M.mono H.size);replace O:=O.grow M;have ae:=O.b0.cell;clear M aa;clear hq bf bc a8 h4 h5 aD ac;go_wp2_with(at_builtin;refine gW ND rfl _ _ rfl w3 g c1 Y k rfl N.out (U.below jm) w' 1 [⟨o1,y2,V⟩] 1 rfl rfl (xO (fK.new _ _ _)) (by omega) (by decide) ((H.alloc (H.size) _).size) ?_;intro A2 c2 w5 uq al _);go_roundw;(case rel=>refine⟨A2,c2,k+1,j+1,Y++ [⟨o1,y2,V⟩],by go_num,by go_num,by omega,by omega,ah ?_,ah (by rw[bC,N.out];rfl),uq,aro (H.alloc H.size _) (U.below jm) ((H.alloc H.size _).size) al⟩;have Z:=HZ.1;have am:=of_decide_eq_false f2;rw[Ξ (by simp only;omega)]at Z;rw[List.reverse_append,HZ.2.1];exact Z);case measure=>simp[intOf];omega
    ·(have f1:(o1==y1)=false:=by simpa using a9);apply iM;(case lX=>intro u;simp only[bV,aq9,aP,ay,aA,aB,aT,aJ];with_reducible rfl);(case hm=>kernel_rfl);(case hB=>kernel_rfl);(case hap=>kernel_rfl);(repeat(first|(apply Lex.is;·(intro u w' M J;simp[fH,aC,Is]at J;refine fF ?_ ?_;(·(first|rfl|(simp[aF,ψ,J];done)));intro K N;have ad:=O.grow M;have ae:=ad.b0.cell;go_wp2_with(fail);(try simp only[J]at N);refine N _ _ ?_ rfl;first|exact aH _ _))|(refine Lex.is (c:=υ) ?_ ?_;·(intro u w' M J;simp[fH,aC,Is]at J;exact wG (by simp[aF,ψ,J]) rfl))));apply Lex.nil;intro u w' M J;simp only[gQ]at J;have aa:=J 21 _ rfl;simp only[Is]at aa;clear J;simp only[aa];replace U:=U.below M;replace H:=H.trans (M.mono H.size);replace O:=O.grow M;have ae:=O.b0.cell;clear M aa;clear hq bf bc a8 h4 h5 aD ac;go_wp2_with(at_builtin;refine gW ND rfl _ _ rfl w3 g c1 Y k rfl N.out (U.below jm) w' 1 [⟨y1,y2,V⟩] 1 rfl rfl (xO (fK.new _ _ _)) (by omega) (by decide) ((H.alloc (H.size) _).size) ?_;intro A2 c2 w5 uq al _);go_roundw;(case rel=>refine⟨A2,c2,k+1,j+1,Y++ [⟨y1,y2,V⟩],by go_num,by go_num,by omega,by omega,ah ?_,ah (by rw[bC,N.out];rfl),uq,aro (H.alloc H.size _) (U.below jm) ((H.alloc H.size _).size) al⟩;have Z:=HZ.1;rw[Ξ (by simp only;omega)]at Z;rw[List.reverse_append,HZ.2.1];exact Z);case measure=>simp[intOf];omega
  ·(obtain rfl:j=m:=by omega);(have hz:Y=qY xs:=by have:=hJ.out;rw[dJ (by rw[HR.out.2];exact aW _),oI.eq_def]at this;simpa using this);have af:=N.out;clear hJ;go_wp2_with fail;go_ret;subst hz;exact⟨A1,c1,by rw[af];rfl,U.base aM,aR.trans (H.mono aM)⟩
end
section
open Go.RowKit Go.Shelf Go.Sort
theorem FT{P:Sp->Prop}(J: ∀o s,P o->P s->P ⟨o.edge,o.lo,max o.hi s.hi⟩): ∀(l out:List Sp),(∀s∈out,P s)->(∀s∈l,P s)-> ∀s∈oI out l,P s
 | [],out,ho,_=>by assumption
 |s::l,[],_,hl=>by rw[oI];exact FT J l [s] (by grind) (λx H=>hl x (List.mem_cons_of_mem _ H))
 |s::l,o::out,ho,hl=>by
  rw[oI];have M:=ho o (by simp);have N:=hl s (by simp);split;.refine FT J l _ ?_ (λx H=>hl x (List.mem_cons_of_mem _ H));grind
  .refine FT J l _ ?_ (λx H=>hl x (List.mem_cons_of_mem _ H));grind
theorem FU: ∀(l out:List Sp),(oI out l).length<=out.length+l.length
 | [],out=>by constructor<;>grind
 |s::l,[]=>by rw[oI];have:=FU l [s];grind
 |s::l,o::out=>by
  rw[oI];split;.have:=FU l (⟨o.edge,o.lo,max o.hi s.hi⟩::out);grind
  .have:=FU l (s::o::out);grind
theorem XL(l:List Sp): ∀s∈qY l,0<=s.lo/\s.lo<=s.hi/\s.hi<=1000000:=by
 intro s H;unfold qY at H;rw[List.mem_reverse]at H;refine FT (P:=λs=>0<=s.lo/\s.lo<=s.hi/\s.hi<=1000000) ?_ _ [] (by simp) ?_ s H;.grind
 .intro x J;have J:=(wJ _).mem_iff.1 J;have:=(List.mem_filter.1 J).2;simp[lG]at this;omega
theorem aeA(l:List Sp):(qY l).length<=l.length:=by unfold qY;rw[List.length_reverse];refine aG (FU _ []) ?_;rw[(wJ _).length_eq];grind
def XM{l:List Sp}{j:Nat}{s:Sp}(h:l[j]? =some s):zB (l.take (j+1))=zB (l.take j)+(s.hi-s.lo):=by rw[take_snoc' h];simp[zB]
theorem UQ: ∀l:List Sp,(∀s∈l,0<=s.lo/\s.lo<=s.hi/\s.hi<=1000000)->0<=zB l/\zB l<=1000000*l.length
 | [],_=>by decide
 |s::l,h=>by have M:=h s (by simp);have H:=UQ l (λx J=>h x (List.mem_cons_of_mem _ J));simp[zB]at H |-;omega
theorem ag8(A:Option δ)(n c:Nat)(xs:List Sp)(w:ω)(hr:fE iO w A xs)(hn:xs.length=n)(hl:n<=1000):Γ aj 21 #[.slice A n c] w λe w'=>e=.returned (Ju xs:Int)/\w w':=by
 have ac:=aez A n c xs w hr hn hl;have hT:Ju xs=zB (qY xs):=rfl;have af:=XL xs;have aa:=aeA xs;rw[hn]at aa;generalize Ju xs=au at*;generalize qY xs=H at*;obtain⟨m,hm⟩:=fD H.length;rw[<-hm]at ac aa;have U:=ah hm.symm;have HT:=ah hT;have V:=ah af;go_enter func21,ntmps21;go_wp2_with(first|((with_reducible refine ac.mono ?_);rintro e w1⟨A0,c0,rfl,ae,Z⟩));have al:=ae.rows;go_loopw [3,9] (λs i wr=> ∃j:Nat,i=.int .i64 j/\j<=m/\s=.int .i64 (zB (H.take j))/\w1 wr) (λ_ i _=>m-(intOf i).toNat);case atStart=>exact⟨0,rfl,by omega,rfl,aH _ _⟩
 case round=>
  obtain⟨j,rfl,hj,rfl,J⟩:=hrel;have ak:=al.below J;by_cases ad:j<m;.obtain⟨y,M⟩:=aq5 U.out ad;obtain⟨b0,am,rfl,an,hc⟩:=ak.get M;have O:=hc 0 y.edge rfl;have N:=hc 1 y.lo rfl;have Y:=hc 2 y.hi rfl;simp only[iO,bI]at O N Y;have jc:Own wr _ [_]:=(Own.nil wr).alloc 130 #[y.edge,y.lo,y.hi] _ rfl;have ai:=V.out y (bP M);have ag:=ah (XM M);have ap:=UQ (H.take j) (λs hs=>V.out s (List.mem_of_mem_take hs));(have aq:(H.take j).length<=1000:=by rw[dX];omega);(have ar:0<=zB (H.take j)/\zB (H.take j)<=1000000000:=by omega);obtain⟨y1,y2,y3⟩:=y;simp only at O N Y jc ai;generalize zB (H.take j)=sm at*;go_wp2_with fail;go_roundw;(case rel=>refine⟨j+1,by go_num,by omega,?_,J.trans (jc.below.mono J.size)⟩;rw[ag.out]);case measure=>simp[intOf];omega
  ·(obtain rfl:j=m:=by omega);go_wp2_with fail;go_ret;rw[aY (by rw[U.out];simp),<-HT.out];exact⟨rfl,Z.trans (J.mono Z.size)⟩
end
section
open Go.RowKit Go.Shelf Go.Sort
def MZ: ∀args w,(ϕ 83 args).run aj w=.ok (.enter 83 args) w:=enters_of func83 (by rfl) (by rfl)
theorem aaJ(n:Int)(w:ω):Γ aj 83 #[n] w λr w'=>r=.returned (.bool (decide (n<1) || decide (1000000<n)))/\w'=w:=by
 by_cases H:n<1
 .have e1:decide (n<1)=true:=by grind
  go_enter func83,ntmps83;go_wp2;go_ret;simp_all
 .have e1:decide (n<1)=false:=by grind
  go_enter func83,ntmps83;go_wp2;go_ret;simp
theorem XO{w:ω}{t:Tp}{m:jl}(h:jE w t m)(A:Option δ)(n c:Nat)(path:List St)(fr kL:Int)(hp:fE gV w A path)(hn:path.length=n)(hl:n<=100)(aa: ∀n∈t.edges,1<=n/\n<=1000000)(ad:ny t path=0)(h0:0<=fr)(h1:fr<=kL)(h2:kL<=qc t path):Γ aj 43 #[m.cells,.slice A n c,fr,kL] w λe w'=> ∃A' c',e=.returned (.tuple #[.slice A' (qY (uT t fr kL path 0)).length c',zI])/\fE iO w' A' (qY (uT t fr kL path 0))/\w w':=by
 have J:Own w _ [_]:=(Own.nil w).alloc 27 m.cells _ rfl;have ag:=J.b0.cell;have ak:=λW (M:w W)=>RQ (h.below M) A n c path (hp.below M) hn hl;have af:=λW (M:w W)=>abK 83 MZ #[] (λn=>decide (n<1) || decide (1000000<n)) m.A1 m.n1 m.c1 t.edges W (λW' x aE=>(aaJ x W').mono λ_ _ ⟨h1,h2⟩=>⟨h1,0,h2⟩) (h.lies.edges.below M) h.e1 (by have:=h.l1;omega);have ae:t.edges.any (λn=>decide (n<1) || decide (1000000<n))=false:=by grind
 have al:=zY ad;have a8:qc t path<=100000000:=by have:=qI aa path al.2.2.1;rw[JC aa ad];omega
 simp only[ae,ad]at af ak;have HT:=ah al.2.2.1;have HE:=ah aa;have HN:=ah hn;have aD:n<=40:=by omega
 generalize au:qc t path=lt at*;generalize av:uT t fr kL path 0=pp at*;have HP:=ah av;have e1:decide (fr<0)=false:=by grind
 have e2:decide (kL<fr)=false:=by grind
 have e3:decide (lt<kL)=false:=by grind
 unfold jl.cells at*;go_enter func43,ntmps43;go_wp2_with(first|((with_reducible first|refine(ak _ J.below).mono ?_|refine(af _ J.below).mono ?_);rintro e fU⟨rfl,fJ⟩;replace J:=J.grow fJ;have iG:=J.b0.cell));go_loopw [13,14,48] (λs a i wr=> ∃(k:Nat) (at_:Int) (A1:Option δ) (c1:Nat) (N:List Sp),i=.int .i64 k/\k<=n/\a=.int .i64 at_/\0<=at_/\at_<=1000000*k/\s=.slice A1 k c1/\Hid (N++uT t fr kL (path.drop k) at_=pp)/\Hid (N.length=k)/\aq1 iO 130 wr (w.heap.size+1) A1 c1 N/\Own w wr [(w,27,#[.slice m.A1 m.n1 m.c1,.slice m.A2 m.n2 m.c2,.slice m.A3 m.n3 m.c3,.slice m.A4 m.n4 m.c4])]) (λ_ _ i _=>n-(intOf i).toNat);case atStart=>exact⟨0,0,none,0,[],rfl,aV _,rfl,Int.le_refl _,Int.le_refl _,rfl,ah (by assumption),ah rfl,aq1.nil _ _,J⟩
 case round=>
  obtain⟨k,at_,A1,c1,N,rfl,hk,rfl,aL,aM,rfl,hJ,Y,Z,J⟩:=hrel;have ag:=J.b0.cell;have am:w.heap.size+1<=wr.heap.size:=J.b0.lt;by_cases au:k<n;.obtain⟨s,hs⟩:=aq5 HN.out (show k<n by omega);obtain⟨g,off,rfl,U,a0,a1⟩:=hp.st hs;have Rh:=λW (M:w W)=>(M.cell (p:=⟨g,off+k*2,none⟩) U).trans a0;have ax:=λW (M:w W)=>(M.cell (p:=⟨g,off+k*2+1,none⟩) U).trans a1;have Cm:=Rh _ J.below;have CB:=ax _ J.below;have hr:=HT.out s (bP hs);obtain⟨i,hi,ai,ar⟩:=BL hr;obtain⟨ge,CG,aq,ap,c0⟩:=h.lies.edges.int ai;have az:=λW (M:w W)=>(M.cell (p:=⟨ge,CG+i,none⟩) ap).trans c0;have a6:=h.e1;(have a7:i<m.n1:=by omega);have a5:=HE.out (t.edges[i]!) (by rw[getElem!_pos t.edges i ai];simp);(have an:path.drop k=s::path.drop (k+1):=by obtain⟨h1,h2⟩:=aX.1 hs;rw[List.drop_eq_getElem_cons h1,h2]);have V:=hJ.out;rw[an,uT,abz,ar]at V;generalize t.edges[i]! =H at*;obtain⟨x1,x2⟩:=s;simp only at hi;subst hi;simp only[aq]at J ag;have jc:=Own.new1 J 58 #[i,x2];have aR:=jc.b0.cell;have a4:=jc.b1.cell;have a9:=az _ jc.below;cases x2 with|false=>simp only[bU,if_false]at V;have HJ:=ah V;have O:=Own.start3 wr 58 130 130 #[i,false] #[i,(max (fr-at_) 0:Int),(min (kL-at_) H:Int)] #[i,(max (fr-at_) 0:Int),(min (kL-at_) H:Int)];go_wp2_with(at_builtin;refine gW ND rfl _ _ rfl (w.heap.size+1) A1 c1 N k rfl Y.out (Z.below O.below) _ 1 [⟨i,max (fr-at_) 0,min (kL-at_) H⟩] 1 rfl rfl (xO O.b2) (by omega) (by decide) (aG am O.below.size) ?_;intro A2 c2 w5 uq ac _);go_roundw;(case rel=>refine⟨.slice A2 (k+1) c2,(at_+H:Int),_,_,_,((k+1:Nat):Int),⟨k+1,rfl,by omega,at_+H,rfl,by omega,by omega,A2,c2,rfl,N++ [⟨i,max (fr-at_) 0,min (kL-at_) H⟩],ah ?_,ah (by rw[bC,Y.out];rfl),uq,?_⟩,rfl,rfl,rfl,rfl,rfl,rfl⟩;(.rw[List.append_assoc];exact HJ.out);.refine Own.grown (J.grow O.below) ac λg U=>?_;have:=Z.gJ g U;refine⟨by omega,λx hx=>?_⟩;simp only[dN]at hx;subst hx;omega);case measure=>simp[intOf];omega|true=>simp only[if_true]at V;have HJ:=ah V;have O:=Own.start3 wr 58 130 130 #[i,true] #[i,(H-min (kL-at_) H:Int),(H-max (fr-at_) 0:Int)] #[i,(H-min (kL-at_) H:Int),(H-max (fr-at_) 0:Int)];go_wp2_with(at_builtin;refine gW ND rfl _ _ rfl (w.heap.size+1) A1 c1 N k rfl Y.out (Z.below O.below) _ 1 [⟨i,H-min (kL-at_) H,H-max (fr-at_) 0⟩] 1 rfl rfl (xO O.b2) (by omega) (by decide) (aG am O.below.size) ?_;intro A2 c2 w5 uq ac _);go_roundw;(case rel=>refine⟨.slice A2 (k+1) c2,(at_+H:Int),_,_,_,((k+1:Nat):Int),⟨k+1,rfl,by omega,at_+H,rfl,by omega,by omega,A2,c2,rfl,N++ [⟨i,H-min (kL-at_) H,H-max (fr-at_) 0⟩],ah ?_,ah (by rw[bC,Y.out];rfl),uq,?_⟩,rfl,rfl,rfl,rfl,rfl,rfl⟩;(.rw[List.append_assoc];exact HJ.out);.refine Own.grown (J.grow O.below) ac λg U=>?_;have:=Z.gJ g U;refine⟨by omega,λx hx=>?_⟩;simp only[dN]at hx;subst hx;omega);case measure=>simp[intOf];omega
  ·(obtain rfl:k=n:=by omega);(have aw:N=pp:=by have:=hJ.out;rw[dJ (by rw[HN.out];omega),uT,List.append_nil]at this;omega);subst aw;have ae:=λW (M:wr W)=>aez A1 k c1 N W (Z.below M).rows Y.out (by omega);go_wp2_with(first|((with_reducible refine(ae _ gY).mono ?_);rintro e w5⟨A9,c9,rfl,ZI,xW⟩));go_ret2;exact⟨A9,c9,rfl,ZI.rows,gZ J.below xW⟩
end
theorem aaK{m:Ma}(h:rX t m=true)(Y:0<=fr)(Z:fr<=kL)(h2:kL<=qg m+m.gap): ∃x,zC t m=some x/\jr t=0/\ny t m.path=0/\0<=x.2/\x.2+kL<=qc t m.path/\qc t m.path<=100000000/\yH t m fr kL=qY (uT t (x.2+fr) (x.2+kL) m.path 0):=by
 obtain⟨H,a2,a3,x,J,V⟩:=V5 h;obtain⟨b1,b2,b3⟩:=arW H J;have M:=jC H;have O:qc t m.path<=100000000:=by have U:=zY b1;have:=qI M m.path U.2.2.1;rw[JC M b1];omega
 refine⟨x,J,H,b1,b3,by omega,O,?_⟩;unfold yH;rw[Ξ (by grind),J];simp only;have N:abA t m.path (x.2+fr) (x.2+kL)=0:=by
  unfold abA;rw[Ξ (by omega),Ξ];rintro (e |e |e |e);.grind
  .omega
  .omega
  .omega
 unfold ah5;rw[Υ N]
theorem asj{m:Ma}(h:m.fP≠ []): ∃s,m.fP[m.fP.length-1]? =some s/\qg m=s.kL:=by
 unfold qg;rw[List.getLast?_eq_getElem?];have:0<m.fP.length:=List.length_pos_iff.2 h;have hi:m.fP.length-1<m.fP.length:=by omega
 simp_all
theorem aeB(h:jE w t m)(ma:Ma)(v:DF)(hm:EK w ma v)(M:rX t ma=true)(fr kL:Int)(h0:0<=fr)(h1:fr<=kL)(O:kL<=qg ma+ma.gap):Γ aj 16 #[m.cells,nO ma v,fr,kL] w λe w'=> ∃A' c',e=.returned (.tuple #[.slice A' (yH t ma fr kL).length c',zI])/\fE iO w' A' (yH t ma fr kL)/\w w':=by
 have H:Own w _ [_,_]:=Own.iY w 27 42 m.cells (nO ma v);have an:=H.b1.cell;obtain⟨x,g1,g2,g3,g4,g5,g6,g7⟩:=aaK M h0 h1 O;have ac:=λW (J:w W)=>Wi (h.below J) ma v (hm.below J);have U:=λW (J:w W)=>ab3 (h.below J) ma v (hm.below J) g2;have V:=λW (J:w W)=>XO (h.below J) v.A1 v.n1 v.c1 ma.path (x.2+fr) (x.2+kL) (hm.path.below J) hm.e1 hm.l1 (jC g2) g3 (by omega) (by omega) g5;obtain⟨s,Y,ae⟩:=asj (BM M).2;have af:=List.length_pos_iff.2 (BM M).2;have ai:qg ma+ma.gap<=100000000:=by obtain⟨Z,a2,a3,y,a4,a5⟩:=V5 M;obtain⟨b1,b2,b3⟩:=arW Z a4;omega
 have ap:=Dz ma.fP 0 (BM M).1 s (bP Y);rw[hm.e2]at Y af;obtain⟨g,off,ak,hg,a0,Z⟩:=hm.fP.sc Y;rw[M]at ac;rw[g1]at U;rw[<-g7]at V;have Rh:=λW (J:w W)=>(J.cell (p:=⟨g,off+(v.n2-1)*2,none⟩) hg).trans a0;rw[ae]at O ai;generalize yH t ma fr kL=ex at*;obtain⟨p,hp⟩: ∃p,v.n2=p+1:=⟨v.n2-1,by omega⟩;have aw:((v.n2:Int)-1)=(p:Int):=by omega
 have ag:v.n2-1=p:=by omega
 rw[ag]at Rh;have ax:p<v.n2:=by omega
 obtain⟨s1,s2⟩:=s;simp only at O ai ap Rh;obtain⟨x1,x2⟩:=x;simp only at g4 g5 V;have f1:decide (fr<0)=false:=by simpa using h0
 have f2:decide (kL<fr)=false:=by simpa using h1
 have f3:decide (s1+ma.gap<kL)=false:=by simpa using O
 have av:=hm.l2;unfold arH at U;unfold nO at*;simp only[ak]at H an ac U V |-;unfold jl.cells at*;clear g1 g7 Y ae M af hp a0 Z ag;go_enter func16,ntmps16;go_wp2_with fail;apply iM;case lX=>intro u;simp only[bV,aq9,aP,ay,aA,aB,aT,aJ];with_reducible rfl
 case hm=>kernel_rfl
 case hB=>kernel_rfl
 case hap=>kernel_rfl
 repeat(first|(apply Lex.is;·(intro u w' hk N;simp[fH,aC,Is]at N;refine fF ?_ ?_;(·(first|rfl|(simp[aF,ψ,N];done)));intro K hK;have aa:=H.grow hk;have al:=aa.below;have EF:=aa.b0.cell;have au:=aa.b1.cell;go_wp2_with((first|((with_reducible refine(ac _ al).mono ?_);rintro e fU⟨rfl,am⟩)));(try simp only[N]at hK);refine hK _ _ ?_ rfl;first|exact aH _ _|exact am)))
 apply Lex.nil;intro u w' hk N;simp only[gQ]at N;have ad:=N 28 _ rfl;simp only[Is]at ad;simp only[ad];replace H:=H.grow hk;have aq:=H.b0.cell;have ar:=H.b1.cell;go_wp2_with(first|((with_reducible refine(U _ H.below).mono ?_);rintro e fU⟨rfl,fJ⟩;replace H:=H.grow fJ;have iG:=H.b0.cell;have jQ:=H.b1.cell)|((with_reducible refine(V _ H.below).mono ?_);rintro e fU⟨A9,c9,rfl,IJ,fJ⟩;replace H:=H.grow fJ));go_ret2;exact⟨A9,c9,rfl,IJ,H.below⟩
theorem akN(h:jE w t m)(x:Tr)(J:kZ)(hx:zJ w x J)(now:Int):Γ aj 15 #[m.cells,jf x J,now] w λe w'=> ∃A' c',e=.returned (.slice A' (Jv t x now).length c')/\fE iO w' A' (Jv t x now)/\w w':=by
 have H:Own w _ [_,_]:=Own.iY w 27 44 m.cells (jf x J);have af:=H.b0.cell;have O:=λW (N:w W)=>Bj (h.below N) x J (hx.below N);have Y:=λW (N:w W)=>I5 x.ma J.v (now-x.at_) W (hx.ma.below N);have hA:Jv t x now=match jR t x with|none=>[]|some n=>if x.stops≠ []\/jK now=false then [] else if jB x.ma.fP (now-x.at_) 0<=n then [] else yH t x.ma n (jB x.ma.fP (now-x.at_) 0):=rfl
 have aa:x.stops≠ []<->0<J.n3:=by rw[<-hx.e3];grind
 simp only[aa]at hA;unfold jK at hA;generalize Jv t x now=au at*;have ai:=acf x J;have ak:=acg x J;have al:=Zy x J;have am:=Wj x J;have an:=ach x J;have ap:=ai0 x J;have aq:=Wn x J;rcases hfr:jR t x with _ |n;focus(rw[hfr]at hA O;obtain rfl:au= []:=hA;unfold rE at O)
 rotate_left;focus(obtain⟨n0,ac,ad,UK⟩:=EI hfr;obtain⟨r0,r1⟩:=JD UK (now-x.at_);have ae:=(V5 UK).2.2.1;obtain⟨_,_,_,_,_,_,_,_,_,_,_,q0,q1⟩:=(Le t x).1 ac;have U:=λW (N:w W) (ag:n<jB x.ma.fP (now-x.at_) 0)=>aeB (h.below N) x.ma J.v (hx.ma.below N) UK n (jB x.ma.fP (now-x.at_) 0) n0 (by omega) (by omega);rw[hfr]at hA O;simp only at hA;generalize jB x.ma.fP (now-x.at_) 0=rr at*;unfold rE at O;by_cases h1:0<J.n3;(focus(rw[Υ (.inl h1)]at hA;subst hA));rotate_left;focus(by_cases h2:now<0;(focus(rw[Υ (.inr (by simp;omega))]at hA;subst hA;have f2:decide (now<0)=true:=by simpa using h2));rotate_left;focus((have f2:decide (now<0)=false:=by simpa using h2);by_cases h3:268435456<now;(focus(rw[Υ (.inr (by simp;omega))]at hA;subst hA;have f3:decide (268435456<now)=true:=by simpa using h3));rotate_left;focus((have f3:decide (268435456<now)=false:=by simpa using h3);rw[Ξ (by simp;omega)]at hA;by_cases Z:rr<=n;(.rw[Υ Z]at hA;subst hA;(have f4:decide (rr<=n)=true:=by simpa using Z);clear U;unfold nO at Y;unfold jl.cells at*;go_enter func15,ntmps15;go_wp2_with(first|((with_reducible refine iQ H ?_ _ rfl rfl _ bg rfl (iF _ J) ?_);rfl)|((with_reducible refine(O _ H.below).mono ?_);rintro e V⟨rfl,M⟩;replace H:=H.grow M;have iG:=H.b1.cell)|((with_reducible refine(Y _ H.below).mono ?_);rintro e V⟨rfl,M⟩;replace H:=H.grow M;have iG:=H.b0.cell;have jQ:=H.b1.cell));go_ret;exact⟨none,0,rfl,fE.nil _ _,H.below⟩);(have f4:decide (rr<=n)=false:=by simpa using Z);rw[Ξ Z]at hA;rw[<-hA]at U;replace U:=λW (N:w W)=>U W N (by omega);clear hA;unfold nO at Y U;unfold jl.cells at*;go_enter func15,ntmps15;go_wp2_with(first|((with_reducible refine iQ H ?_ _ rfl rfl _ bg rfl (iF _ J) ?_);rfl)|((with_reducible refine(O _ H.below).mono ?_);rintro e V⟨rfl,M⟩;replace H:=H.grow M;have iG:=H.b1.cell)|((with_reducible refine(Y _ H.below).mono ?_);rintro e V⟨rfl,M⟩;replace H:=H.grow M;have iG:=H.b0.cell;have jQ:=H.b1.cell)|((with_reducible refine(U _ H.below).mono ?_);rintro e V⟨A9,c9,rfl,TN,M⟩;replace H:=H.grow M));go_ret;exact⟨A9,c9,rfl,TN,H.below⟩))))
 all_goals(unfold nO at Y;unfold jl.cells at*;go_enter func15,ntmps15;go_wp2_with(first|((with_reducible refine iQ H ?_ _ rfl rfl _ bg rfl (iF _ J) ?_);rfl)|((with_reducible refine(O _ H.below).mono ?_);rintro e V⟨rfl,M⟩;replace H:=H.grow M;have iG:=H.b1.cell));go_ret;exact⟨none,0,rfl,fE.nil _ _,H.below⟩)
def BA (m:jl) (x:Tr) (xm:kZ) (now:Int):Array Θ:=m.cells++jf x xm++ #[.int .i64 now,.slice none 0 0]
def nR:Array Θ:= gL
def OB(m:jl)(x:Tr)(H:kZ)(now:Int):(BA m x H now).size=54:=by simp[BA,jl.cells,lg]
theorem UR(t:τ)(parts:Array (Nat × κ))(H:o.op=.build t parts)(ps:List (Nat × Θ))(J:(parts.map λ(i,x)=>(i,a.eval x)).toList=ps)(cs:Array Θ)(hc:aj.built t ps=some cs)(h:K (a.put o.dst cs) w):o.wp aj a w K Q:=by subst J;exact wp_build t parts H (by grind) (by grind)
def aaL(m:jl)(x:Tr)(H:kZ)(now:Int):aj.built 87 [(0,.agg m.cells),(1,.agg (jf x H)),(2,.int .i64 now)]=some (BA m x H now):=by kernel_rfl
def Ij(ty:τ)(x y:κ)(N:o.op=.store ty x y)(g i:Nat)(U:a.eval x=.pointer (some ⟨g,i,none⟩))(v:Θ)(V:a.eval y=v)(t:τ)(old:Array Θ)(J:fK w g t old)(M:i<old.size)(hi:(P.info? ty).map (·.size)=some 1)(H:v.oneCell'=true)(h:K (a.put o.dst υ) (w.setCell ⟨g,i,none⟩ v)):o.wp P a w K Q:=by have O:=qU (P:=P) w g i t ty old v J M hi H;unfold Oper.wp execOp;simp only[N,U,V,Instr.storeAt,Instr.sureAddr,Sem.run_bind,Sem.run_pure,dO,O];exact h
def aeC (w:ω) (g:Nat):Prop:= ∀t cs,fK w g t cs->t≠58/\t≠60/\t≠3
theorem OC{t:τ}(h:fK w g t cs)(J:t≠58/\t≠60/\t≠3):aeC w g:=λM cs' H=>by unfold fK at h H;grind
theorem aaM{es:Array MapEntry}{cl:Nat}(h:w.heap[g]? =some (.map es cl)):aeC w g:=λJ cs' H=>by unfold fK at H;grind
theorem aq1.away{α:Type}{E:arb α}{t:τ}{base b c:Nat}{xs:List α}(h:aq1 E t w base A c xs)(H:w.grownBy w' (some b))(N: ∀cs,¬fK w b t cs):aq1 E t w' base A c xs:=h.off H λg hA e=>by obtain⟨J,cur,e1,_,M,_⟩:=h.blk (by grind);grind
def nH.away{base b:Nat}{m:kZ}(h:nH w base x m)(J:w.grownBy w' (some b))(hn:aeC w b):nH w' base x m:={h with path:=h.path.away J (λcs H=>(hn _ _ H).1 rfl),fP:=h.fP.away J (λcs H=>(hn _ _ H).2.1 rfl),stops:=h.stops.away J (λcs H=>(hn _ _ H).2.2 rfl)}
def anb (B:Nat) (x:Tr) (xm:kZ):Θ->ω->Prop:=fun v w=> ∃A1 c1 A2 c2 A3 c3,v=.agg (jf x (GR xm A1 c1 A2 c2 A3 c3))/\nH w B x (GR xm A1 c1 A2 c2 A3 c3)
def anc (B:Nat) (m:jl) (x:Tr) (xm:kZ) (now:Int):Θ->ω->Prop:=fun v w=> ∃A1 c1 A2 c2 A3 c3,v=.agg (BA m x (GR xm A1 c1 A2 c2 A3 c3) now)/\nH w B x (GR xm A1 c1 A2 c2 A3 c3)
def ane (B:Nat) (m:jl) (x:Tr) (xm:kZ) (now:Int):Θ->ω->Prop:=fun v w=> ∃g A1 c1 A2 c2 A3 c3,v=.pointer (some ⟨g,0,none⟩)/\B<=g/\fK w g 87 (BA m x (GR xm A1 c1 A2 c2 A3 c3) now)/\nH w B x (GR xm A1 c1 A2 c2 A3 c3)
def anf (B:Nat):Θ->ω->Prop:=fun v w=> ∃g y,v=.pointer (some ⟨g,0,none⟩)/\B<=g/\fK w g 84 #[y]
theorem aaN(B:Nat)(x:Tr)(N:kZ):Ey (anb B x N):=λv w w' ⟨A1,c1,A2,c2,A3,c3,H,J⟩ M=>⟨A1,c1,A2,c2,A3,c3,H,J.below M⟩
theorem aaO(B:Nat)(m:jl)(x:Tr)(N:kZ)(now:Int):Ey (anc B m x N now):=λv w w' ⟨A1,c1,A2,c2,A3,c3,H,J⟩ M=>⟨A1,c1,A2,c2,A3,c3,H,J.below M⟩
theorem aaP(B:Nat)(m:jl)(x:Tr)(U:kZ)(now:Int):Ey (ane B m x U now):=λv w w' ⟨g,A1,c1,A2,c2,A3,c3,M,N,H,O⟩ J=>⟨g,A1,c1,A2,c2,A3,c3,M,N,H.below J H.lt,O.below J⟩
theorem aaQ(B:Nat):Ey (anf B):=λv w w' ⟨g,y,J,M,H⟩ N=>⟨g,y,J,M,H.below N H.lt⟩
theorem BD{O:Func}{a c d:Tmp}{H:τ}(h:O.results= #[.cell a H,.tmp c,.tmp d])(tmps:Array Θ)(w:ω)(J:Nat)(c1:Array Θ)(v N:Θ)(M:TypeDesc)(ha:tmps.getD a υ=.pointer J)(hc:tmps.getD c υ=v)(hd:tmps.getD d υ=N)(U:fK w J H c1)(u1:P.underlying H=some M)(k1:(match M with | .struct _ | .array _ _=>true |_=>false)=true)(i1:(P.info? H).map (·.size)=some c1.size):(results O tmps).run P w=.ok (.tuple #[c1,v,N]) w:=by
 have V:tmps[a]?.getD υ=.pointer J:=by simp_all
 have Y:tmps[c]?.getD υ=v:=by simp_all
 have Z:tmps[d]?.getD υ=N:=by simp_all
 simp[results,h,V,Y,Z,asAddr,run_loadVar_row w J H H c1 (0,0) M U u1 k1 i1]
theorem Own.change{t:τ}{new:Array Θ}(h:Own w W (L1++(g,t,old)::L2))(J:W.grownBy W' (some g))(Y:fK W' g t new):Own w W' (L1++(g,t,new)::L2):=by
 have Z:=h.blk (g,t,old) (by simp);have N:=h.nodup;rw[eX,List.map_cons,List.nodup_append]at N;obtain⟨n1,n2,n3⟩:=N;rw[List.nodup_cons]at n2;refine⟨h.below.trans ⟨J.os,J.tape,J.output,J.size,λk U=>J.block k (aU U h.below.size) (λe=>by grind)⟩,λx H=>?_,?_⟩
 .have keep: ∀x∈L1++(g,t,old)::L2,x.1≠g->w.heap.size<=x.1/\fK W' x.1 x.2.1 x.2.2:=λx H V=>by obtain⟨O,M⟩:=h.blk x H;exact⟨O,(J.block x.1 M.lt (λe=>V (by grind))).trans M⟩
  rcases dK.1 H with H |H;.refine keep x (by simp[H]) (λe=>?_);exact n3 x.1 (List.mem_map_of_mem H) g (by simp) e
  grind
 grind
theorem UU(t:Tp)(x:Tr)(n now:Int):(qF t x n now).ma=x.ma/\(qF t x n now).stops=x.stops:=by
 unfold qF;split;.unfold zW;grind
 simp
def nH.moved{base:Nat}{y:Tr}{m:kZ}(h:nH w base x m)(hm:y.ma=x.ma/\y.stops=x.stops):nH w base y m:=by obtain⟨H,J⟩:=hm;exact⟨by rw[H];exact h.path,by rw[H];exact h.fP,by rw[J];exact h.stops,by rw[H];exact h.e1,by rw[H];exact h.e2,by rw[J];exact h.e3,h.l1,h.l2,h.l3⟩
theorem zn{H J:Nat}{M N:τ}{c1 c2:Array Θ}(O:fK w H M c1)(U:fK w J N c2)(V:M≠N):H≠J:=by rintro rfl;unfold fK at O U;grind
theorem akO{t:τ}{M:kZ}(hB:fK W g t (BA m x M now)):W.rangeAt g 4 (jf x M).toList:=by
 intro j v J;rw[hB.cell];unfold BA;have N:j<48:=by have:=(aX.1 J).1;simpa[lg] using this
 have H:m.cells.size=4:=rfl;rw[dS (by simp[H,lg];omega),Array.getElem?_append_right (by rw[H];omega),H,Nat.add_sub_cancel_left];simpa using J
theorem tu: ∀(vs:List Θ) (o:Nat) (a:Array Θ) (i:Nat),o+vs.length<=a.size->(arh a o vs)[i]? =if o<=i/\i<o+vs.length then vs[i-o]? else a[i]?
 | [],o,a,i,h=>by simp[arh];omega
 |v::vs,o,a,i,h=>by
  rw[arh,tu vs (o+1) _ i (by simp at h |-;omega)];simp only[bK]at h |-;by_cases H:o+1<=i/\i<o+1+vs.length;.rw[Υ H,Υ (by omega),show i-o=(i-(o+1))+1 by omega,fB]
  .rw[Ξ H];by_cases J:i=o;(.subst J;rw[Υ (by omega),Array.getElem?_setIfInBounds_self_of_lt (by omega)];simp);.rw[Ξ (by omega),dR (by omega)]
theorem aaR(m:jl)(x y:Tr)(J:kZ)(now:Int):arh (BA m x J now) 4 (jf y J).toList=BA m y J now:=by
 have H:m.cells.size=4:=rfl;apply Array.ext_getElem?;intro i;rw[tu _ _ _ _ (by rw[OB];simp[lg])];have M:(jf y J).toList.length=48:=by simp[lg]
 unfold BA;by_cases h:4<=i/\i<4+(jf y J).toList.length;.rw[Υ h];rw[M]at h;rw[dS (by simp[H,lg];omega),Array.getElem?_append_right (by rw[H];omega),H];simp
 .rw[Ξ h];rw[M]at h;by_cases hi:i<4;.rw[dS (by simp[H,lg];omega),dS (by rw[H];omega),dS (by simp[H,lg];omega),dS (by rw[H];omega)]
  .rw[Array.getElem?_append_right (by simp[H,lg];omega),Array.getElem?_append_right (by simp[H,lg];omega)];simp[H,lg]
def TW (g s i:Nat) (W W':ω):Prop:=W.grownBy W' (some g)/\(i≠s->W W')
theorem tN(h:W W')(r:Option Nat):W.grownBy W' r:=⟨h.os,h.tape,h.output,h.size,λk H _=>h.block k H⟩
def tV(g s i:Nat)(W:ω):TW g s i W W:=⟨tN gY _,λ_=>aH _ _⟩
def aeD{s:Nat}(h:W W'):TW g s i W W':=⟨tN h _,λ_=>h⟩
theorem aru{H W2:ω}(h:W.grownBy H (some g))(k:H.grownBy W2 (some g)):W.grownBy W2 (some g):=⟨k.os.trans h.os,k.tape.trans h.tape,k.output.trans h.output,aG h.size k.size,λi hi J=>(k.block i (aU hi h.size) J).trans (h.block i hi J)⟩
def mF (ops:Array ο) (T:Nat->ω->ω->Prop) (j:Nat) (Φ:(Nat->Θ)->ω->Prop):Prop:= ∀i,i≠j->mY ops i j-> ∀u v w w',Φ u w->T i w w'->Φ (upd u i v) w'
def StW (ops:Array ο) (T:Nat->ω->ω->Prop):Nat->List ((Nat->Θ)->ω->Prop)->Prop
 |_,[]=>True
 |j,Φ::l=>mF ops T j Φ/\StW ops T (j+1) l
def aeE: ∀(l:List ((Nat->Θ)->ω->Prop)) (k:Nat),StW ops T k l-> ∀j Φ,l[j]? =some Φ->mF ops T (k+j) Φ
 | [],_,_,j,Φ,h=>by simp at h
 |Ψ::l,k,h,0,Φ,hj=>by simp at hj;subst hj;exact h.1
 |Ψ::l,k,h,j+1,Φ,hj=>by have:=aeE l (k+1) h.2 j Φ (by simpa using hj);rwa [show k+1+j=k+(j+1) by omega]at this
theorem qm{H:List ((Nat->Θ)->ω->Prop)}(h:StW ops T 0 H): ∀i j (Φ:(Nat->Θ)->ω->Prop),i≠j->i<H.length->mY ops i j->H[j]? =some Φ-> ∀u v w w',Φ u w->T i w w'->Φ (upd u i v) w':=by intro i j Φ N _ M O u v W W' J U;have:=aeE _ 0 h j Φ O;rw[aJ]at this;exact this i N M u v W W' J U
def mQ(c:Θ):mF ops T j (gI j (Is c)):=λ_ H _ _ _ _ _ h _=>jy H h λ_ h=>h
def UW{s:Nat}{t:τ}:mF ops (TW g s) s (gI s (λ_ w=>fK w g t cs)):=λ_ H _ _ _ _ _ h J=>h.below (J.2 H) h.lt
structure aaS (Ak:Option δ) (nk ck:Nat) (base:Nat) (t:Tp) (m:jl) (x:Tr) (xn:kZ) (now n:Int) (gt gc gp gn ga:Nat) (W:ω):Prop where
  tp:jE W t m
  tr:nH W base x xn
  b0:fK W gt 27 m.cells
  b1:fK W gc 87 (BA m x xn now)
  b2:fK W gp 84 #[.pointer (some ⟨gc,0,none⟩)]
  b3:fK W gn 3 #[.int .i64 now]
  b4:fK W ga 48 #[.int .i64 4,.int .i64 n,.slice Ak nk ck]
def aaS.below{base:Nat}{ga:Nat}(h:aaS Ak nk ck base t m x xn now n gt gc gp gn ga W)(H:W W'):aaS Ak nk ck base t m x xn now n gt gc gp gn ga W':=⟨h.tp.below H,h.tr.below H,h.b0.below H h.b0.lt,h.b1.below H h.b1.lt,h.b2.below H h.b2.lt,h.b3.below H h.b3.lt,h.b4.below H h.b4.lt⟩
theorem ag9{base:Nat}(Y:jE w t m)(hX:nH w base x xn)(b0:fK w gt 27 m.cells)(b1:fK w gc 87 (BA m x xn now))(b2:fK w gp 84 #[.pointer (some ⟨gc,0,none⟩)])(b3:fK w gn 3 #[now])(XI:jK now=true):Γ aj 30 #[.agg #[.int .i64 4,n,.slice Ak nk ck],.pointer (some ⟨gt,0,none⟩),.pointer (some ⟨gp,0,none⟩),.pointer (some ⟨gn,0,none⟩)] w λe w'=>e=.returned (.int .i64 (rC t x n now))/\fK w' gc 87 (BA m (qF t x n now) xn now)/\w.grownBy w' (some gc):=by
 have O:w (w.alloc (.cells #[.int .i64 4,n,.slice Ak nk ck] 48)):=gY.alloc ig _;have U:aaS Ak nk ck base t m x xn now n gt gc gp gn w (w.alloc (.cells #[.int .i64 4,n,.slice Ak nk ck] 48)):=⟨Y.below O,hX.below O,b0.below O b0.lt,b1.below O b1.lt,b2.below O b2.lt,b3.below O b3.lt,fK.new _ _ _⟩;have ai:=λW (U:aaS Ak nk ck base t m x xn now n gt gc gp gn w W)=>ag0 U.tp x xn U.tr.is n now XI;generalize rC t x n now=me at*;generalize qF t x n now=mr at*;go_enter func30,ntmps30;go_wp2_with fail;generalize an:(w.alloc (.cells #[.int .i64 4,n,.slice Ak nk ck] 48))=W0 at*;apply zF (λW W'=>W.grownBy W' (some gc)) (λW=>tN (aq3 gY 1) _) (λ_ _ _ h1 h2=>aru h1 h2) (TW gc 15) (λ_ _ _ h=>h.1) (λ_ _=>tV _ _ _ _) (λi W=>i<=11\/i=15->aaS Ak nk ck base t m x xn now n gt gc gp gn w W) (λi _=>U.below (aq3 gY 1));case lX=>intro u;simp only[bV,aq9,aP,ay,aA,aB,aT,aJ];with_reducible rfl
 case hm=>kernel_rfl
 case hB=>kernel_rfl
 case hA=>kernel_rfl
 case hap=>kernel_rfl
 case Ci=>
  intro i j W W' ag hf hP Y hi;by_cases V:j=15;.subst V;rcases hi with hi |rfl;(.exact absurd hf (ug (List.all_eq_true.1 (show(eY 12).all (λi=>Dx _ i 15)=true by kernel_rfl) i (by simp;omega))));.exact absurd rfl ag
  .exact(hP hi).below (Y.2 V)
 apply fM.is;·(intro u w' N M H;simp[fO,aC,gI,Is]at H;refine fC ?_ ?_;(.first|rfl);intro K J;have p:=M (.inl (by decide));have af:=p.b2.cell;go_wp2_with(fail);refine J _ _ ?_ rfl;first|exact tV _ _ _ _)
 refine fM.is (c:=.agg m.cells) ?_ ?_;.intro u w' N M H;have p:=M (.inl (by decide));refine fC (by first |rfl) ?_;intro K J;exact ι 27 _ rfl gt rfl 27 _ (0,0) _ p.b0 dB rfl (by kernel_rfl) (J _ _ (tV _ _ _ _) rfl)
 iterate 3(first|(apply fM.is;·(intro u w' N M H;simp[fO,aC,gI,Is]at H;refine fC ?_ ?_;(.first|rfl);intro K J;have p:=M (.inl (by decide));have af:=p.b2.cell;go_wp2_with(fail);refine J _ _ ?_ rfl;first|exact tV _ _ _ _))|(apply fM.is;·(intro u w' N M H;simp[fO,aC,gI,Is]at H;refine fC ?_ ?_;(.first|rfl);intro K J;go_wp2_with(fail);(try simp only[H]at J);refine J _ _ ?_ rfl;first|exact tV _ _ _ _)))
 refine fM.is (c:=.agg (jf x xn)) ?_ ?_;.intro u w' N M H;simp[fO,aC,gI,Is]at H;have p:=M (.inl (by decide));refine fC (by first |rfl) ?_;intro K J;exact wp_load_mid 44 _ rfl gc 4 (by rw[<-H];rfl) (jf x xn).toList _ (akO p.b1) bg rfl (iF x xn) (J _ _ (tV _ _ _ _) rfl)
 apply fM.is;·(intro u w' N M H;simp[fO,aC,gI,Is]at H;refine fC ?_ ?_;(.first|rfl);intro K J;go_wp2_with(fail);refine J _ _ ?_ rfl;first|exact tV _ _ _ _)
 apply fM.is;·(intro u w' N M H;simp[fO,aC,gI,Is]at H;refine fC ?_ ?_;(.first|rfl);intro K J;have p:=M (.inl (by decide));have am:=p.b4.cell;go_wp2_with(fail);(try simp only[H]at J);refine J _ _ ?_ rfl;first|exact tV _ _ _ _)
 iterate 7(first|(apply fM.is;·(intro u w' N M H;simp[fO,aC,gI,Is]at H;refine fC ?_ ?_;(.first|rfl);intro K J;have p:=M (.inl (by decide));go_wp2_with((first|((with_reducible refine(ai _ p).mono ?_);rintro e w3⟨rfl,ae⟩)));(try simp only[H]at J);refine J _ _ ?_ rfl;first|exact aeD ae))|(apply fM.is;·(intro u w' N M H;simp[fO,aC,gI,Is]at H;refine fC ?_ ?_;(.first|rfl);intro K J;have p:=M (.inl (by decide));have al:=p.b3.cell;go_wp2_with(fail);refine J _ _ ?_ rfl;first|exact tV _ _ _ _))|(apply fM.is;·(intro u w' N M H;simp[fO,aC,gI,Is]at H;refine fC ?_ ?_;(.first|rfl);intro K J;go_wp2_with(fail);(try simp only[H]at J);refine J _ _ ?_ rfl;first|exact tV _ _ _ _)))
 refine fM.one (λ_ w=>fK w gc 87 (BA m mr xn now)) ?_ ?_
 .intro u w' N M H;simp[fO,aC,gI,Is]at H;have p:=M (.inr rfl);refine fC (by first |rfl) ?_;intro K J;obtain⟨ad,ac,_⟩:=H;obtain⟨s1,s2,s3,s4,s5⟩:=jX gc (jf mr xn).toList 4 w';refine wp_store_mid 44 _ _ rfl gc 4 (jf mr xn) (by rw[<-ad];rfl) (by rw[<-ac];rfl) ?_ (iF mr xn) (lM mr xn) (J _ _ ⟨⟨s3,s4,s5,bZ s1.symm,λk _ ak=>s2 k (λe=>ak (by rw[e]))⟩,λh=>absurd rfl h⟩ ?_);.intro j V;rw[lg]at V;rw[p.b1.cell,p.b1.frozen];exact⟨by rw[cO (by rw[OB];omega)];rfl,rfl⟩
  .have:=fK.yE (jf mr xn).toList 4 _ w' p.b1;rwa [aaR]at this
 refine fM.last (qm ?_) ?_
 .simp only[gQ];repeat(refine⟨?_,?_⟩;.first|exact mQ _|exact UW)
  exact trivial
 intro u w1 N M H;simp only[gQ]at H;refine⟨by first |rfl |simp[aF,ψ],?_⟩;intro K J;have Z:=H 12 _ rfl;have aa:=H 15 _ rfl;simp only[gI,Is]at Z aa;simp only[Z];go_wp2_with fail;go_ret;exact⟨rfl,aa,aru (tN O _) N⟩
def arE (t:τ) (w w':ω):Prop:=w'=w\/ ∃g cs new,fK w g t cs/\fK w' g t new/\new.size=cs.size/\w'.heap.size=w.heap.size/\ ∀k,k≠g->w'.heap[k]? =w.heap[k]?
def sD (B s1:Nat) (t1:τ) (s2:Nat) (t2:τ) (i:Nat) (w w':ω):Prop:=Below B w w'/\(i≠s1->i≠s2->w w')/\(i=s1->arE t1 w w')/\(i=s2->arE t2 w w')
def fZ(B s1:Nat)(H:τ)(s2:Nat)(J:τ)(i:Nat)(w:ω):sD B s1 H s2 J i w w:=⟨aH _ _,λ_ _=>aH _ _,λ_=> .inl rfl,λ_=> .inl rfl⟩
def iL{M:τ}{N:τ}(hB:B<=w.heap.size)(h:w w')(H:i≠s1)(J:i≠s2):sD B s1 M s2 N i w w':=⟨h.mono hB,λ_ _=>h,λe=>absurd e H,λe=>absurd e J⟩
theorem pV.turned{n:Nat}{t t':τ}(h:pV B t n v w)(Z:arE t' w w'):pV B t n v w':=by
 obtain⟨g,cs,e,M,J,O⟩:=h;rcases Z with rfl |⟨U,cs',new,H,V,h5,h6,Y⟩;.exact⟨g,cs,e,M,J,O⟩
 .by_cases N:g=U;.subst N;unfold fK at H J;rw[J]at H;simp at H;obtain⟨rfl,rfl⟩:=H;exact⟨g,new,e,M,V,by omega⟩
  .exact⟨g,cs,e,M,(Y g N).trans J,O⟩
theorem pV.ang{n:Nat}{V Y t:τ}(h:pV B t n v w)(H:sD B s1 V s2 Y i w w'):pV B t n v w':=by
 by_cases J:i=s1;.exact h.turned (H.2.2.1 J)
 .by_cases M:i=s2;.exact h.turned (H.2.2.2 M)
  .obtain⟨g,cs,e,O,N,U⟩:=h;exact⟨g,cs,e,O,N.below (H.2.1 J M) N.lt,U⟩
def fK.turned{t H:τ}(h:fK w g t cs)(O:arE H w w')(N:t≠H):fK w' g t cs:=by
 rcases O with rfl |⟨U,cs',new,J,V,Y,Z,M⟩;.exact h
 .exact(M g (zn h J N)).trans h
def qP{n:Nat}{M N t:τ}:mF ops (sD B s1 M s2 N) j (gI j (pV B t n)):=λ_ H _ _ _ _ _ h J=>jy H h λ_ h=>pV.ang h J
theorem xu{J O:τ}(V:Dx ops b s1=true)(U:J≠O):mF ops (sD B s1 J s2 O) s1 (CU B b J cs):=by
 intro i aa Y u v w w' h N;obtain⟨g,e,Z,H⟩:=h;have ac:i≠b:=λe=>ug V (e▸Y);refine⟨g,by rw[jH u v (λe=>ac e.symm)];exact e,Z,?_⟩;by_cases M:i=s2;.exact H.turned (N.2.2.2 M) U
 .exact H.below (N.2.1 aa M) H.lt
def Va (s:Up):Prop:= ∀x∈s.v,0<=x/\x<=4294967295
theorem aho{v:Int}{s s':Up}(h:zK bs v s=.ok (n,s'))(J:Va s):Va s':=by
 have O:=NW bs v s n s' h;unfold zK at h;split at h;.cases h
 split at h;.cases h
 simp only[Except.ok.injEq,Prod.mk.injEq]at h;obtain⟨N,M⟩:=h;rw[<-M];split;.exact J
 .intro x H;simp only[dK,dN]at H;rcases H with H |H;.exact J x H
  omega
theorem OJ{f:Up->Except Int Up}(J: ∀s s',f s=.ok s'->Va s->Va s'): ∀(n:Nat) (s s':Up),jg f n s=.ok s'->Va s->Va s'
 |0,s,s',h,H=>by cases h;exact H
 |n+1,s,s',h,H=>by rw[jg]at h;cases M:f s with|error e=>grind|ok s1=>rw[M]at h;exact OJ J n _ _ h (J _ _ M H)
theorem Jj{bs:List UInt8}: ∀(q:Pt) (last:Int) (s s':Up),mV (zK bs) q last s=.ok s'->Va s->Va s'
 | .nil,last,s,s',h,J=>by rw[mV]at h;grind
 | .pl v r,last,s,s',h,J=>by rw[mV]at h;cases H:zK bs v s with|error e=>grind|ok M=>rw[H]at h;exact Jj r _ _ _ h (aho (n:=M.1) H J)
 | .grp k l r,last,s,s',h,J=>by rw[mV]at h;cases H:jg (mV (zK bs) l 0) (qC k last) s with|error e=>grind|ok s1=>rw[H]at h;exact Jj r _ _ _ h (OJ (λs s' h=>Jj l 0 s s' h) _ _ _ H J)
theorem aeY{at_ e:Nat}{p:Pk}(h:DU bs at_=.ok (p,e)): ∀x∈p.v,0<=x/\x<=4294967295:=by unfold DU at h;cases M:zK (bs.drop (at_ / 8)) 5 ⟨at_ % 8,[],0⟩ with|error e=>grind|ok x=>obtain⟨id,s⟩:=x;rw[M]at h;simp only at h;cases J:lu id with|none=>grind|some q=>rw[J]at h;simp only at h;cases H:mV (zK (bs.drop (at_ / 8))) q 0 {s with v:= []} with|error e=>grind|ok s'=>rw[H]at h;simp only at h;split at h;(.cases h);split at h;(.cases h);simp only[Except.ok.injEq,Prod.mk.injEq]at h;rw[<-h.1];exact Jj q 0 _ _ H (λx N=>by cases N)
theorem Vb: ∀(k at_:Nat) (acc ps:List Pk),xY bs k at_ acc=.ok ps->(∀p∈acc,∀x∈p.v,0<=x/\x<=4294967295)-> ∀p∈ps,∀x∈p.v,0<=x/\x<=4294967295
 |0,at_,acc,ps,h,M=>by rw[xY]at h;grind
 |k+1,at_,acc,ps,h,M=>by
  rw[xY]at h;split at h;.cases J:DU bs at_ with|error e=>grind|ok x=>obtain⟨p,e⟩:=x;rw[J]at h;exact Vb k e _ _ h (λq H=>by simp only[dK,dN]at H;rcases H with H |H;(.grind);.rw[H];exact aeY J)
  grind
theorem Y8: ∀(k at_:Nat) (acc:List Pk) (er:Int),xY bs k at_ acc=.error er->er≠0
 |0,at_,acc,er,h=>by rw[xY]at h;cases h
 |k+1,at_,acc,er,h=>by
  rw[xY]at h;split at h
  .cases H:DU bs at_ with
   |error e=>rw[H]at h;cases h;exact YJ H
   |ok x=>rw[H]at h;exact Y8 k _ _ _ h
  grind
theorem ahp{er:Int}(h:arN bs=.error er):er≠0:=by
 unfold arN at h;split at h;.grind
 cases H:xY bs bs.length (wM bs).2.1 [] with
 |error e=>rw[H]at h;cases h;exact Y8 _ _ _ _ H
 |ok ps=>grind
theorem ahq{m:Ms}(h:arN bs=.ok m):m.v.length=(nG m.id).1.length/\ ∀p∈m.p,∀x∈p.v,0<=x/\x<=4294967295:=by
 unfold arN at h;split at h;.cases h
 cases H:xY bs bs.length (wM bs).2.1 [] with
 |error e=>grind
 |ok ps=>
  rw[H]at h;simp only at h;split at h;.cases h
  split at h;.cases h
  simp only[Except.ok.injEq]at h;rw[<-h];exact⟨Ko _ _ _,Vb _ _ _ _ H (λp H=>by cases H)⟩
def ahr:(nG 32).1.length=1/\(nG 16).1.length=1/\(nG 18).1.length=1/\5<=(nG 15).1.length:=by decide
structure TpL (w:ω) (t:Tp) (m:jl):Prop where
  lies:abx w t m.A1 m.A2 m.A3 m.A4 m.rs
  e1:t.edges.length=m.n1
  e2:t.iI.length=m.n2
  e3:t.jW.length=m.n3
  e4:t.routes.length=m.n4
  q1:m.n1<=m.c1
  q2:m.n2<=m.c2
  q3:m.n3<=m.c3
  q4:m.n4<=m.c4
  q5: ∀p∈m.rs,p.1.path.length<=p.2.2
def TpL.below(h:TpL w t m)(H:w w'):TpL w' t m:={h with lies:=h.lies.below H}
def xB (t:Tp) (m:jl):Bool:=decide (m.n1<=100)&&decide (m.n2<=100)&&decide (m.n3<=100)&&decide (m.n4<=100)&&t.routes.all (fun r=>decide (r.path.length<=100))
def TpL.is(h:TpL w t m)(H:xB t m=true):jE w t m:=by unfold xB at H;simp only[bM,decide_eq_true_eq,List.all_eq_true]at H;obtain⟨⟨⟨⟨J,M⟩,N⟩,O⟩,U⟩:=H;exact⟨h.lies,h.e1,h.e2,h.e3,h.e4,J,M,N,O,U,h.q1,h.q2,h.q3,h.q4,h.q5⟩
def aa5{rs:List Rt}{r:Rt}(h:rs[k]? =some r):(rs.take (k+1)).all (λr=>decide (r.path.length<=100))=((rs.take k).all (λr=>decide (r.path.length<=100))&&decide (r.path.length<=100)):=by rw[take_snoc' h,List.all_append];simp
theorem ahG(h:TpL w t m)(hc:m.n4<=9223372036854775807):Γ aj 12 #[m.cells] w λe w'=>e=.returned (.bool (xB t m))/\w w':=by
 have H:Own w _ [_]:=(Own.nil w).alloc 27 m.cells _ rfl;have aa:=H.b0.cell;have J:xB t m=(decide (m.n1<=100)&&decide (m.n2<=100)&&decide (m.n3<=100)&&decide (m.n4<=100)&&t.routes.all (λr=>decide (r.path.length<=100))):=rfl;generalize xB t m=lt at*;unfold jl.cells at*;by_cases O:m.n1<=100;focus((have f1:decide (100<(m.n1:Int))=false:=by simp;omega);by_cases U:m.n2<=100;(focus((have f2:decide (100<(m.n2:Int))=false:=by simp;omega);by_cases V:m.n3<=100;(focus((have f3:decide (100<(m.n3:Int))=false:=by simp;omega);by_cases Y:m.n4<=100;(·(have f4:decide (100<(m.n4:Int))=false:=by simp;omega);simp only[O,U,V,Y,decide_true,Bool.true_and]at J;have N:=ah J;have HE:Hid (t.routes.length=m.n4):=ah h.e4;have ap:=h.lies.routes;have ai:=ah h.lies.is;(have ak:m.rs.length=m.n4:=by rw[<-h.e4,<-h.lies.is,eU]);have ae:=ah ak;go_enter func12,ntmps12;go_wp2_with fail;go_loopw [3] (λi wr=> ∃k:Nat,i=.int .i64 k/\k<=m.n4/\Hid ((t.routes.take k).all (λr=>decide (r.path.length<=100))=true)/\Own w wr [(w,27,#[.slice m.A1 m.n1 m.c1,.slice m.A2 m.n2 m.c2,.slice m.A3 m.n3 m.c3,.slice m.A4 m.n4 m.c4])]) (λi _=>m.n4-(intOf i).toNat);(case atStart=>exact⟨0,rfl,aV _,ah rfl,H⟩);case round=>obtain⟨k,rfl,hk,M,H⟩:=hrel;have aa:=H.b0.cell;by_cases al:k<m.n4;(.obtain⟨p,hp⟩:=aq5 ae.out al;obtain⟨g,off,hA,hg,_,a1,_⟩:=ap.rt hp;have k1:=(H.below.cell (p:=⟨g,off+k*4+1,none⟩) hg).trans a1;(have ac:t.routes[k]? =some p.1:=by rw[<-ai.out,bW,hp];rfl);have aq:=ah (aa5 ac);simp only[hA]at H aa;by_cases Z:p.1.path.length<=100;(·(have f5:decide (100<(p.1.path.length:Int))=false:=by simp;omega);(have an:(t.routes.take (k+1)).all (λr=>decide (r.path.length<=100))=true:=by rw[aq.out,M.out];simpa using Z);have ag:=ah an;go_wp2_with fail;go_roundw;(case rel=>exact⟨k+1,by go_num,by omega,ag,by rw[hA];exact H⟩);case measure=>simp[intOf];omega);·(have f5:decide (100<(p.1.path.length:Int))=true:=by simp;omega);(have am:lt=false:=by rw[N.out,List.all_eq_false];exact⟨p.1,bP ac,by simpa using Z⟩);have af:=ah am;go_wp2_with fail;go_ret;exact⟨by rw[af.out];rfl,H.below⟩);·(obtain rfl:k=m.n4:=by omega);(have ad:lt=true:=by have:=M.out;rw[aY (by rw[HE.out];exact aW _)]at this;rw[N.out,this]);have HY:=ah ad;clear M ad;go_wp2_with fail;go_ret;exact⟨by rw[HY.out];rfl,H.below⟩);focus((have f4:decide (100<(m.n4:Int))=true:=by simp;omega);obtain rfl:lt=false:=by rw[J];simp[Y])));rotate_left;focus((have f3:decide (100<(m.n3:Int))=true:=by simp;omega);obtain rfl:lt=false:=by rw[J];simp[V])));rotate_left 2;focus((have f2:decide (100<(m.n2:Int))=true:=by simp;omega);obtain rfl:lt=false:=by rw[J];simp[U]))
 rotate_left 3;focus((have f1:decide (100<(m.n1:Int))=true:=by simp;omega);obtain rfl:lt=false:=by rw[J];simp[O])
 all_goals(clear J;go_enter func12,ntmps12;go_wp2_with fail;go_ret;exact⟨rfl,H.below⟩)
theorem aa6(h:TpL w t m)(hc:m.n4<=9223372036854775807)(ma:Ma)(v:DF):Γ aj 22 #[m.cells,nO ma v] w λe w'=>e=.returned (.bool (xB t m&&decide (v.n1<=100)&&decide (v.n2<=100)))/\w w':=by
 have H:Own w _ [_,_]:=Own.iY w 27 42 m.cells (nO ma v);have Z:=H.b0.cell;have V:=λW (U:w W)=>ahG (h.below U) hc;generalize xB t m=lt at*;unfold nO jl.cells at*;rcases lt with _ |_;skip;rotate_left;focus(by_cases J:v.n1<=100;(focus((have f1:decide ((v.n1:Int)<=100)=true:=by simp;omega);by_cases M:v.n2<=100;(focus((have N:decide ((v.n2:Int)<=100)=true:=by simp;omega);rw[show(true&&decide (v.n1<=100)&&decide (v.n2<=100))=true by simp[J,M]]));rotate_left;focus((have N:decide ((v.n2:Int)<=100)=false:=by simp;omega);rw[show(true&&decide (v.n1<=100)&&decide (v.n2<=100))=false by simp[J,M]])));rotate_left 2;focus((have f1:decide ((v.n1:Int)<=100)=false:=by simp;omega);rw[show(true&&decide (v.n1<=100)&&decide (v.n2<=100))=false by simp[J]]))
 all_goals(go_enter func22,ntmps22;go_wp2_with(first|((with_reducible refine(V _ H.below).mono ?_);rintro e Y⟨rfl,O⟩;replace H:=H.grow O;have iG:=H.b1.cell));go_ret;exact⟨rfl,H.below⟩)
def uz{α:Type}{E:arb α}{t:τ}{xs:List α}(h:fK w g t cs)(H:cs.toList=E.flat xs):fE E w g xs:=λ_=>⟨g,0,rfl,h.lt,λj u J=>by rw[aJ,h.cell,<-Array.getElem?_toList,H];exact J⟩
theorem ae9(w:ω):Γ aj 20 #[] w λe w'=> ∃m:jl,e=.returned m.cells/\jE w' iE m/\w w':=by
 go_enter func20,ntmps20;go_wp2_with fail;have H:=((Own.abw w 27 3 127 114 58 #[.slice (some ⟨w.heap.size+1,0,none⟩) 3 3,.slice (some ⟨w.heap.size+1+1,0,none⟩) 2 2,.slice (some ⟨w.heap.size+1+1+1,0,none⟩) 3 3,.slice (some ⟨w.heap.size+1+1+1+1+1+1,0,none⟩) 2 2] #[(100:Int),(200:Int),(300:Int)] #[zI,(1:Int),(1:Int),zI,(1:Int),(1:Int),(2:Int),zI] #[(7:Int),zI,(10:Int),(8:Int),(1:Int),(20:Int),(9:Int),(2:Int),(30:Int)] #[zI,false,(1:Int),false]).alloc 58 #[(1:Int),false,(2:Int),false] (w.heap.size+1+1+1+1+1) (by simp)).alloc 97 #[(1:Int),.slice (some ⟨w.heap.size+1+1+1+1,0,none⟩) 2 2,zI,(30:Int),(2:Int),.slice (some ⟨w.heap.size+1+1+1+1+1,0,none⟩) 2 2,(50:Int),(20:Int)] (w.heap.size+1+1+1+1+1+1) (by simp);simp only[bQ,aZ]at H;refine β (results_cell_row results20 _ _ _ _ _ _ _ rfl H.b0 dB rfl (by rfl)) rfl ⟨⟨some ⟨w.heap.size+1,0,none⟩,3,3,some ⟨w.heap.size+1+1,0,none⟩,2,2,some ⟨w.heap.size+1+1+1,0,none⟩,3,3,some ⟨w.heap.size+1+1+1+1+1+1,0,none⟩,2,2,[(⟨1,[⟨0,false⟩,⟨1,false⟩],0,30⟩,some ⟨w.heap.size+1+1+1+1,0,none⟩,2),(⟨2,[⟨1,false⟩,⟨2,false⟩],50,20⟩,some ⟨w.heap.size+1+1+1+1+1,0,none⟩,2)]⟩,rfl,⟨⟨uz H.b1 rfl,uz H.b2 rfl,uz H.b3 rfl,uz H.b6 rfl,rfl,?_⟩,rfl,rfl,rfl,rfl,by simp,by simp,by simp,by simp,by decide,by simp,by simp,by simp,by simp,?_⟩,H.below⟩
 .intro p J;simp only[bJ,dH,or_false]at J;rcases J with rfl |rfl;.exact uz H.b4 rfl
  .exact uz H.b5 rfl
 simp
theorem ak7(h:jE w iE m):Γ aj 79 #[m.cells,Vt ⟨0,10,false⟩,(40:Int)] w λe w'=>e=.returned (.tuple #[Vt ⟨0,50,false⟩,zI])/\w w':=by
 have H:Own w _ [_,_,_]:=Own.start3 w 27 38 38 m.cells #[zI,(10:Int),false] gA;have af:=H.b0.cell;have ag:=H.b1.cell;have Y:=λW (J:w W)=>Pm (h.below J) ⟨0,10,false⟩;have O:=λW (J:w W)=>Yn (h.below J) ⟨0,10,false⟩ (by decide +kernel);have V:=λW (J:w W)=>ab1 (h.below J) ⟨0,false⟩ 50 (by decide +kernel) (by rfl) (by decide) (by decide);rw[show pO iE ⟨0,10,false⟩=true by decide +kernel]at Y;rw[show pR iE ⟨0,10,false⟩=10 by rfl]at O;rw[show Hu iE ⟨0,false⟩ 50=⟨0,50,false⟩ from rfl]at V;obtain⟨i,ev,ge,CG,hi,am,aa,ad,ac,ai⟩:=rD h (show iW iE 0=true by rfl);rw[show jS iE 0=100 by rfl]at aa;obtain rfl:i=0:=by omega
 subst aa;simp only[bI]at ac;unfold Vt qB at*;simp only[jl.cells,ad]at H af ag Y O V |-;clear hi ai h;go_enter func79,ntmps79;go_wp2_with fail;go_step3;go_wp2_with(first|((with_reducible refine(Y _ H.below).mono ?_);rintro e w1⟨rfl,N⟩;replace H:=H.grow N;have M:=H.b1.cell;replace H:=Own.abu H 58 gz;have iG:=H.b0.cell;have jQ:=H.b1.cell)|((with_reducible refine(O _ H.below).mono ?_);rintro e N⟨rfl,M⟩;replace H:=H.grow M;have iG:=H.b1.cell));go_step3;go_wp2_with fail;obtain⟨g3,Z⟩:=fD w1.heap.size;rw[<-Z]at H |-;clear Z;go_loopw [2,9] (λs s9 wr=>s=.int .i64 50/\s9=.int .i64 0/\Own w wr [(w,27,#[.slice (some ⟨ge,CG,none⟩) m.n1 m.c1,.slice m.A2 m.n2 m.c2,.slice m.A3 m.n3 m.c3,.slice m.A4 m.n4 m.c4]),(w.heap.size+1,38,#[zI,(10:Int),false]),(w.heap.size+1+1,38,gA),(g3,58,gz)]) (λ_ _ _=>0);case atStart=>exact⟨rfl,rfl,H⟩
 case round=>
  clear H;obtain⟨rfl,rfl,H⟩:=hrel;have ak:=H.b0.cell;have al:=H.b3.cell;have ke:=ac _ H.below;go_wp2_with(first|((with_reducible refine(V _ H.below).mono ?_);rintro e N⟨rfl,M⟩;replace H:=H.grow M;have iG:=H.b2.cell;have jQ:=H.b2.frozen 0;have uK:=H.b2.frozen 1;have sK:=H.b2.frozen 2));rw[Exit.noGoto_ret];have ae:=((H.b2.iV 0 zI).iV 1 (50:Int)).iV 2 false;have U:w.heap.size<=w.heap.size+1+1:=by omega
  exact β (gU results79 _ _ _ _ _ _ rfl rfl ae underlying38 rfl (by rfl)) rfl ⟨rfl,((H.below.setCell (p:=⟨w.heap.size+1+1,0,none⟩) U _).setCell (p:=⟨w.heap.size+1+1,1,none⟩) U _).setCell (p:=⟨w.heap.size+1+1,2,none⟩) U _⟩
theorem Vl(h:jE w iE m):Γ aj 37 #[m.cells,(7:Int),false,(40:Int)] w λe w'=>e=.returned (.tuple #[Vt ⟨0,50,false⟩,zI])/\w w':=by
 have H:Own w _ [_,_]:=Own.iY w 27 38 m.cells gA;have ac:=H.b0.cell;have V:=λW (M:w W)=>yK (h.below M);have N:=λW (M:w W)=>Hw (h.below M) 7;have aa:=λW (M:w W)=>ak7 (h.below M);rw[show jr iE=0 by decide +kernel]at V;rw[show oz iE 7=some ⟨7,0,10⟩ from rfl]at N;simp only[eG,Option.isSome_some]at N;unfold Vt at*;unfold jl.cells at*;go_enter func37,ntmps37;go_wp2_with(first|((with_reducible refine(V _ H.below).mono ?_);rintro e U⟨rfl,J⟩;replace H:=H.grow J;have Y:=H.b0.cell)|((with_reducible refine(N _ H.below).mono ?_);rintro e U⟨rfl,J⟩;replace H:=H.grow J;replace H:=Own.new2 H 114 gE;have Y:=H.b0.cell;have jQ:=H.b2.cell)|((with_reducible refine(aa _ H.below).mono ?_);rintro e U⟨rfl,J⟩;replace H:=H.grow J;have Y:=H.b1.cell;have jQ:=H.b1.frozen 0;have uK:=H.b1.frozen 1;have sK:=H.b1.frozen 2));have Z:=((H.b1.iV 0 zI).iV 1 (50:Int)).iV 2 false;have O:w.heap.size<=w.heap.size+1:=by omega
 exact β (gU results37 _ _ _ _ _ _ rfl rfl Z underlying38 rfl (by rfl)) rfl ⟨rfl,((H.below.setCell (p:=⟨w.heap.size+1,0,none⟩) O _).setCell (p:=⟨w.heap.size+1,1,none⟩) O _).setCell (p:=⟨w.heap.size+1,2,none⟩) O _⟩
theorem Vm(m:jl)(w:ω):Γ aj 91 #[m.cells,Vt ⟨0,10,false⟩] w λe w'=>e=.returned (10:Int)/\w w':=by have H:Own w _ [_,_]:=Own.iY w 27 38 m.cells #[zI,(10:Int),false];have J:=H.b1.cell;unfold Vt at*;go_enter func91,ntmps91;go_wp2_with fail;go_ret;exact⟨rfl,H.below⟩
theorem ak8(h:jE w iE m):Γ aj 90 #[m.cells,.agg gE,false,(40:Int)] w λe w'=> ∃g,e=.returned (.slice (some ⟨g,0,none⟩) 1 1)/\w.heap.size<=g/\fK w' g 58 gz/\w w':=by
 have H:Own w _ [_,_,_,_]:=Own.start4 w 27 114 58 58 m.cells gE gz gz;have J:=Own.iY w 27 114 m.cells gE;have M:=Own.start3 w 27 114 58 m.cells gE gz;have ac:=J.b1.cell;have ad:=M.b2.cell;have Z:=H.b0.cell;have aa:=H.b1.cell;obtain⟨i,ev,ge,CG,hi,ai,O,V,U,ae⟩:=rD h (show iW iE 0=true by rfl);rw[show jS iE 0=100 by rfl]at O;obtain rfl:i=0:=by omega
 subst O;simp only[bI]at U;have N:=λW=>Vm m W;unfold Vt jl.cells at*;simp only[V]at H J M ac ad Z aa N |-;clear hi ae h J M;go_enter func90,ntmps90;go_wp2_with(first|((with_reducible refine(N _).mono ?_);rintro e w1⟨rfl,Y⟩;replace H:=H.grow Y));go_loopw [3,10] (λs t wr=>s=.int .i64 50/\t=.slice (some ⟨w.heap.size+1+1+1,0,none⟩) 1 1/\wr=w1) (λ_ _ _=>0);case atStart=>simp
 case round=>obtain⟨rfl,rfl,rfl⟩:=hrel;have af:=H.b0.cell;have ag:=H.b2.cell;have ke:=U _ H.below;go_wp2_with fail;go_ret;exact⟨_,rfl,by omega,H.b3,H.below⟩
def Na:Go.Shelf.Ren:=⟨fun |7=>140 |6=>190 |n=>n,fun |22=>123 |24=>122 |4=>4 |0=>0 |3=>3 |n=>n,fun |n=>n⟩
def aa7:Go.Proofs.SlLaysQ.n7 aj Na where
  mixed:=by kernel_rfl
  f6:=⟨ "slices.Index[[]lineside/api.Lock,lineside/api.Lock]",by decide,Tryz.func190.trans (ξ some (by kernel_rfl))⟩
  f7:=⟨ "slices.Contains[[]lineside/api.Lock,lineside/api.Lock]",by decide,Tryz.func140.trans (ξ some (by kernel_rfl))⟩
  t0:=underlying0
  a0:=isAgg0
  z0:=sizeOf0
  v0:=zeroValue0
  t3:=bG
  a3:=isAgg3
  z3:=sizeOf3
  v3:=zeroValue3
  t4:=dL
  a4:=isAgg4
  z4:=sizeOf4
  v4:=zeroValue4
  t22:=underlying123
  a22:=isAgg123
  z22:=sizeOf123
  v22:=zeroValue123
instance:Inhabited Lo:=⟨⟨0,0,0⟩⟩
def sF:arb Lo:=⟨3,fun s=> [.int .i64 s.route,.int .i64 s.fG,.int .i64 s.no],fun _=>rfl,fun _ u hu=>by simp at hu;rcases hu with rfl |rfl |rfl <;> rfl,by decide⟩
def ahH (x y:Lo):Bool:=x.route==y.route&&(x.fG==y.fG&&x.no==y.no)
theorem anx:EqlAt aj 122 (λx=> .agg (sF.enc x).toArray) ahH:=by
 refine⟨λx y w=>?_,GuardAt.agg _ (by kernel_rfl)⟩;have u3:=bG;have a3:=isAgg3;have z3:=sizeOf3;have N:aj.underlying 122=some (.struct (aj.fieldsOf 122)):=by kernel_rfl
 have O:aj.stoodInHeld 122=false:=by kernel_rfl
 simp only[sF];rw[ϑ,show(10000:Nat)=9998+1+1 from rfl,ϐ w (9998+1) 122 _ _ N O];simp only[Program.fieldsOf,underlying122];go_simp;obtain⟨U,V,Y⟩:=x;obtain⟨Z,y2,y3⟩:=y;unfold ahH;by_cases H:U=Z <;> by_cases J:V=y2 <;> by_cases M:Y=y3 <;> simp[H,J,M]
def aa8{α:Type}[Inhabited α]{E:arb α}{xs:List α}(J:fE E w (some ⟨b,off,none⟩) xs): ∀j,j<xs.length-> ∀i v,(E.enc xs[j]!)[i]? =some v->w.cell? ⟨b,off+j*E.k+i,none⟩=some v:=by intro j H i u hi;obtain⟨M,N,e,_,hc⟩:=J.get (aI H);simp only[aO,cZ]at e;obtain⟨rfl,rfl,-⟩:=e;rw[getElem!_pos xs j H]at hi;exact hc i u hi
theorem aiD(b off n c:Nat)(w:ω)(hn:1<=n)(ag:n<=c)(V:b<w.heap.size)(h0:w.cell? ⟨b,off,none⟩=some zI)(h1:w.cell? ⟨b,off+1,none⟩=some false):Γ aj 92 #[.slice (some ⟨b,off,none⟩) n c,.agg gz] w λe w'=>e=.returned zI/\w w':=by
 have U:Own w _ [_]:=(Own.nil w).alloc 58 gz _ rfl;have Y:=λW=>vP ⟨0,false⟩ ⟨0,false⟩ W;unfold qB at Y;simp only[decide_true]at Y;have Rh:=λW (M:w W)=>(M.cell (p:=⟨b,off,none⟩) V).trans h0;have ac:=λW (M:w W)=>(M.cell (p:=⟨b,off+1,none⟩) V).trans h1;have af:0<n:=hn;go_enter func92,ntmps92;go_wp2_with fail;generalize ae:(w.alloc (.cells gz 58))=W0 at*;go_loopw [8] (λs wr=>s=.int .i64 0/\wr=W0) (λ_ _=>0);case atStart=>exact⟨rfl,rfl⟩
 case round=>
  obtain⟨rfl,rfl⟩:=hrel;go_wp2_with fail;apply iM;case lX=>intro u;simp only[bV,aq9,aP,ay,aA,aB,aT,aJ];with_reducible rfl
  case hm=>kernel_rfl
  case hB=>kernel_rfl
  case hap=>kernel_rfl
  repeat(first|(apply Lex.is;·(intro u w' N H;simp[fH,aC,Is]at H;refine fF ?_ ?_;(·(first|rfl));intro K O;have J:=U.grow N;have ad:=J.b0.cell;have m0:=Rh _ J.below;have m1:=ac _ J.below;go_wp2_with(fail);(try simp only[H]at O);refine O _ _ ?_ rfl;first|exact aH _ _)))
  apply Lex.nil;intro u w' N H;simp only[gQ]at H;have Z:=H 5 _ rfl;simp only[Is]at Z;simp only[Z];have aa:=U.grow N;go_wp2_with fail;go_ret;exact⟨rfl,aa.below⟩
theorem ak9(b off n c:Nat)(w:ω)(hn:1<=n)(Y:n<=c)(M:b<w.heap.size)(N:w.cell? ⟨b,off,none⟩=some zI)(O:w.cell? ⟨b,off+1,none⟩=some false):Γ aj 142 #[.slice (some ⟨b,off,none⟩) n c,.agg gz] w λe w'=>e=.returned true/\w w':=by have H:Own w _ [_]:=(Own.nil w).alloc 58 gz _ rfl;have Z:=H.b0.cell;have V:=λW (J:w W)=>aiD b off n c W hn Y (aU M J.size) ((J.cell (p:=⟨b,off,none⟩) M).trans N) ((J.cell (p:=⟨b,off+1,none⟩) M).trans O);go_enter func142,ntmps142;go_wp2_with(first|((with_reducible refine(V _ H.below).mono ?_);rintro e w1⟨rfl,U⟩;replace H:=H.grow U));go_ret;exact⟨rfl,H.below⟩
def anz(A:Option δ)(c:Nat)(x:Lo)(w:ω):Γ aj 190 #[.slice A 0 c,.agg (sF.enc x).toArray] w λe w'=>e=.returned (-1:Int)/\w w':=by
 have H:Own w _ [_]:=(Own.nil w).alloc 122 (sF.enc x).toArray _ rfl;go_enter func190,ntmps190;go_wp2;go_loopg [5,8] 0 (λ_ _ M wr=>M=.int .i64 0/\w wr);case atStart=>exact⟨rfl,H.below⟩
 case round=>obtain⟨rfl,J⟩:=hrel;go_wp2;go_ret;exact⟨rfl,J⟩
theorem ala(A:Option δ)(c:Nat)(x:Lo)(w:ω):Γ aj 140 #[.slice A 0 c,.agg (sF.enc x).toArray] w λe w'=>e=.returned false/\w w':=by have H:Own w _ [_]:=(Own.nil w).alloc 122 (sF.enc x).toArray _ rfl;have N:=H.b0.cell;have J:=λW=>anz A c x W;simp only[sF] at*;go_enter func140,ntmps140;go_wp2_with(first|((with_reducible refine(J _).mono ?_);rintro e O⟨rfl,M⟩;replace H:=H.grow M));go_ret;exact⟨rfl,H.below⟩
def ahI(b off n c:Nat)(xs:List Lo)(x:Lo)(w:ω)(H:fE sF w (some ⟨b,off,none⟩) xs)(hn:xs.length=n)(J:n<=9223372036854775807):Γ aj 140 #[.slice (some ⟨b,off,none⟩) n c,.agg (sF.enc x).toArray] w λe w'=>e=.returned (.bool (xs.any λy=>ahH x y))/\w w':=by have:=AnyQ.slices_Contains aa7 3 isAgg122 sizeOf122 sF.enc sF.len _ anx b off n c xs x w (by omega) J (aa8 H);rwa [<-hn,List.take_length,hn]at this
theorem Own.sub(h:Own w W (L1++L2)):Own w W L1:=⟨h.below,λx H=>h.blk x (by simp[H]),by have:=h.nodup;grind⟩
def anA:qo aj sF 123 122 24:=arD (.agg gC) underlying123 (by kernel_rfl) rfl
theorem afa(b off n c gs:Nat)(id gap tm:Int)(w:ω)(hn:1<=n)(Z:n<=c)(M:b<w.heap.size)(O:w.cell? ⟨b,off,none⟩=some zI)(U:w.cell? ⟨b,off+1,none⟩=some false)(N:fK w gs 58 gz):Γ aj 144 #[.agg #[id,.slice (some ⟨b,off,none⟩) n c,gap,tm],.pointer gs] w λe w'=>e=.returned true/\w w':=by have H:Own w _ [_]:=(Own.nil w).alloc 97 #[id,.slice (some ⟨b,off,none⟩) n c,gap,tm] _ rfl;have aa:=H.b0.cell;have ac:=(N.below H.below N.lt).cell;have Y:=λW (J:w W)=>ak9 b off n c W hn Z (aU M J.size) ((J.cell (p:=⟨b,off,none⟩) M).trans O) ((J.cell (p:=⟨b,off+1,none⟩) M).trans U);go_enter func144,ntmps144;go_wp2_with(first|((with_reducible refine(Y _ H.below).mono ?_);rintro e w1⟨rfl,V⟩;replace H:=H.grow V));go_ret;exact⟨rfl,H.below⟩
theorem Eh(h:w.grownBy w' none):w w':=⟨h.os,h.tape,h.output,h.size,λk H=>h.block k H (by simp)⟩
theorem tC(w:ω)(g i:Nat)(x:Θ):w.grownBy (w.setCell ⟨g,i,none⟩ x) (some g):=⟨rfl,rfl,rfl,by simp,λk _ H=>aN w ⟨g,i,none⟩ x k (λe=>H (by rw[e]))⟩
def lV{t H:τ}(h:fK w g t cs)(M:t≠H): ∀cs',¬fK w g H cs':=λ_ J=>zn h J M rfl
def Hr (w:ω) (m:jl) (gt bl gn gs:Nat) (gl go gg:Nat) (o1:Θ) (o2:Θ):List Bk:= [(gt,27,m.cells),(gl,123,#[.slice (some ⟨bl,0,none⟩) 1 1]),(gn,3,#[.int .i64 5]),(gs,58,gz),(go,123,#[o1]),(gg,39,#[o2])]
theorem afb(h:jE ww iE m)(hL:fK ww bl 122 gw)(hO:Own ww w (Hr ww m gt bl gn gs gl go gg (.slice none 0 0) (.slice none 0 0))):Γ aj 139 #[.func (.func 144) #[] #[.pointer (some ⟨gs,0,none⟩)],.pointer (some ⟨gl,0,none⟩),.pointer (some ⟨gt,0,none⟩),.pointer (some ⟨gn,0,none⟩),.pointer (some ⟨go,0,none⟩),.pointer (some ⟨gg,0,none⟩)] w λe w'=>e=.returned (.bool true)/\ ∃A c o2,Own ww w' (Hr ww m gt bl gn gs gl go gg (.slice A 1 c) o2)/\fE sF w' A [⟨1,5,1⟩]:=by
 unfold Hr at*;have aa:=λW (hW:ww W)=>I4 (h.below hW) 1;unfold NG at aa;rw[show sJ iE 1=some ⟨1,[⟨0,false⟩,⟨1,false⟩],0,30⟩ from rfl]at aa;simp only at aa;have al:=λW (hW:ww W)=>(hL.below hW hL.lt).cell;have ax:=hO.b1.cell;clear h;go_enter func139,ntmps139;go_wp2_with fail;go_loopw [14] (λs wr=>s=.int .i64 0/\wr=w) (λ_ _=>0);case atStart=>exact⟨rfl,rfl⟩
 case round=>obtain⟨rfl,rfl⟩:=hrel;have aD:=al _ hO.below;have N:=hO.alloc 122 gw wr rfl;simp only[bQ,aZ]at N;have az:=N.b0.cell;have aw:=N.b6.cell;have af:=λW=>ala none 0 ⟨1,5,1⟩ W;simp only[sF]at af;go_wp2_with(first|((with_reducible refine gK N ?_ _ rfl rfl _ dB rfl (by kernel_rfl) ?_);(.first|rfl|(simp[aF,ψ];done)))|(go_at_call 78;(with_reducible refine(aa _ N.below).mono ?_);rintro e U⟨⟨A,c,rfl,J⟩,V⟩;replace N:=N.grow V;obtain⟨ga,iG,jQ,uK,Y,O4,ai,Z,Xa⟩:=J.blk (J.some_ (by decide));subst jQ;have H:=N.alloc 97 #[.int .i64 1,.slice (some ⟨ga,0,none⟩) 2 c,.int .i64 0,.int .i64 30] U rfl;simp only[bQ,aZ]at H;replace J:=J.alloc (.cells #[.int .i64 1,.slice (some ⟨ga,0,none⟩) 2 c,.int .i64 0,.int .i64 30] 97);have J6:=Y.lt;clear Y O4 Xa iG uK;have J7:=H.b6.cell;have Vo:=H.b2.cell;have am:=H.b4.cell)|(go_at_call 140;(with_reducible refine(af _).mono ?_);rintro e U⟨rfl,V⟩;replace H:=H.grow V;replace J:=J.below V;have iG:=H.b7.cell;obtain⟨jQ,uK,Y,O4,Z⟩:=J.rows.get (i:=0) (x:=⟨0,false⟩) rfl;simp only[aO,cZ]at Y;obtain⟨Xa,J6,-⟩:=Y;subst Xa;subst J6;have J7:=Z 0 (.int .i64 0) rfl;have Vo:=Z 1 (.bool false) rfl;clear Z;simp only[gV,aJ,Nat.zero_mul,bI]at J7 Vo;have ag:=afa ga 0 2 c gs 1 0 30 U (by omega) ai O4 (by simpa using J7) (by simpa using Vo) H.b3)|(go_at_call 144;(with_reducible refine ag.mono ?_);rintro e w3⟨rfl,U⟩;clear ag;replace H:=H.grow U;replace J:=J.below U;have V:=H.b6.cell;have iG:=H.b4.cell)|(at_builtin;refine gW anA rfl _ _ rfl ww none 0 [] 0 rfl rfl (aq1.nil _ _) _ 1 [⟨1,5,1⟩] 1 rfl rfl (uz (fK.new w3 122 gw) rfl) (by omega) (by decide) (aG H.below.size (by simp)) ?_;intro A2 c2 w5 O ak _;have ad:=Eh ak;replace H:=(H.grow jm).grow ad;replace J:=(J.alloc (.cells gw 122)).below ad;have ap:=H.b4.cell;have aq:=H.b4.frozen 0;have M:=Own.change (L1:= [_,_,_,_]) H (tC w5 go 0 (.slice A2 1 c2)) (H.b4.iV 0 _);simp only[bQ,aZ]at M;replace J:=J.away (tC w5 go 0 (.slice A2 1 c2)) (lV H.b4 (by decide));replace O:=O.away (tC w5 go 0 (.slice A2 1 c2)) (lV H.b4 (by decide));have ar:=M.b5.cell;have an:=M.b7.cell)|(at_builtin;refine gW RN rfl _ _ rfl ww none 0 [] 0 rfl rfl (aq1.nil _ _) _ c [⟨0,false⟩,⟨1,false⟩] 2 rfl rfl J.rows (by omega) (by decide) M.below.size ?_;intro A3 c3 w6 Vy Gz _;have ae:=Eh Gz;replace M:=M.grow ae;replace O:=O.below ae;have au:=M.b5.cell;have av:=M.b5.frozen 0;have ac:=Own.change (L1:= [_,_,_,_,_]) M (tC w6 gg 0 (.slice A3 2 c3)) (M.b5.iV 0 _);simp only[bQ,aZ]at ac;replace O:=O.away (tC w6 gg 0 (.slice A3 2 c3)) (lV M.b5 (by decide))));go_ret;exact⟨rfl,A2,⟨c2,.slice A3 2 c3,Own.sub (L1:= [_,_,_,_,_,_]) (L2:= [_,_]) ac⟩,O.rows⟩
theorem aa9{c:Nat}{p1:Θ}(h:jE ww iE m)(hL:fK ww bl 122 gw)(hO:Own ww w (Hr ww m gt bl gn gs gl go gg (.slice (some ⟨b,off,none⟩) 1 c) o2))(hR:fE sF w (some ⟨b,off,none⟩) [⟨1,5,1⟩]):Γ aj 139 #[p1,.pointer gl,.pointer gt,.pointer gn,.pointer go,.pointer gg] w λe w'=>e=.returned false/\w w':=by
 unfold Hr at*;have O:=λW (J:ww W)=>I4 (h.below J) 1;unfold NG at O;rw[show sJ iE 1=some ⟨1,[⟨0,false⟩,⟨1,false⟩],0,30⟩ from rfl]at O;simp only at O;have ae:=λW (J:ww W)=>(hL.below J hL.lt).cell;have ai:=hO.b1.cell;have ac:=λW (J:w W)=>ahI b off 1 c [⟨1,5,1⟩] ⟨1,5,1⟩ W (hR.below J) rfl (by decide);simp only[sF,show([⟨1,5,1⟩]:List Lo).any (λy=>ahH ⟨1,5,1⟩ y)=true from rfl]at ac;have af:w w:=aH _ _;go_enter func139,ntmps139;go_wp2_with fail;go_loopw [14] (λs wr=> ∃j:Nat,s=.int .i64 j/\j<=1/\w wr) (λs _=>1-(intOf s).toNat);case atStart=>grind
 case round=>
  obtain⟨j,rfl,hj,N⟩:=hrel;have aa:=hO.grow N;have ak:=ae _ aa.below;by_cases hz:j=0;.subst hz;have H:=aa.alloc 122 gw wr rfl;simp only[bQ,aZ]at H;have ag:=H.b6.cell;have V:w (wr.alloc (.cells gw 122)):=N.alloc N.size _;go_wp2_with(first|((with_reducible refine gK H ?_ _ rfl rfl _ dB rfl (by kernel_rfl) ?_);rfl)|((with_reducible refine(O _ H.below).mono ?_);rintro e fU⟨⟨M,iG,rfl,jQ⟩,Z⟩;replace H:=H.grow Z;have U:=H.alloc 97 #[(1:Int),.slice M 2 iG,zI,(30:Int)] fU rfl;simp only[bQ,aZ]at U;have Y:=(V.trans (Z.mono V.size)).alloc (aG V.size Z.size) (.cells #[(1:Int),.slice M 2 iG,zI,(30:Int)] 97);have O4:=U.b6.cell;have NH:=U.b2.cell;have Xa:=U.b4.cell)|((with_reducible refine(ac _ Y).mono ?_);rintro e fU⟨rfl,M⟩;have ad:=Y.trans (M.mono Y.size)));go_roundw;(case rel=>exact⟨1,rfl,by omega,ad⟩);decide
  ·(obtain rfl:j=1:=by omega);go_wp2_with fail;go_ret;exact⟨rfl,N⟩
def aiE:Θ->Nat
 | .bool true=>1
 |_=>0
theorem ahJ(h:jE w iE m)(V:fK w bl 122 gw):Γ aj 89 #[m.cells,.slice bl 1 1,(5:Int),.agg gz] w λe w'=> ∃A c,e=.returned (.slice A 1 c)/\fE sF w' A [⟨1,5,1⟩]/\w w':=by
 have H:Own w _ [_,_,_,_]:=Own.start4 w 27 123 3 58 m.cells #[.slice bl 1 1] #[(5:Int)] gz;have aa:=λW (hW:w W)=>yK (h.below hW);rw[show jr iE=0 by decide +kernel]at aa;go_enter func89,ntmps89;go_wp2_with(first|((with_reducible refine gK H ?_ _ rfl rfl _ dB rfl (by kernel_rfl) ?_);(.first|rfl))|((with_reducible refine(aa _ H.below).mono ?_);rintro e N⟨rfl,M⟩;replace H:=H.grow M;have iG:=H.alloc 123 #[nS] N rfl;have vW:=iG.alloc 39 #[nS] (N.heap.size+1) (by simp);simp only[bQ,aZ]at vW)|((with_reducible refine(afb h V vW).mono ?_);rintro e J⟨rfl,A,c,N,uy,Y⟩;unfold Hr at uy;obtain⟨M,iG,jQ,uK,_⟩:=Y.get (i:=0) (x:=⟨1,5,1⟩) rfl;subst jQ));have ad:J J:=aH _ _;go_loopw [13] (λs wr=> ∃q:Bool,s=.bool q/\J wr) (λs _=>aiE s);case atStart=>exact⟨true,rfl,ad⟩
 case round=>obtain⟨q,rfl,O⟩:=hrel;have U:=uy.grow O;have Z:=Y.below O;have ae:=U.b4.cell;cases q with|false=>go_wp2_with fail;go_ret;exact⟨_,c,rfl,Z,U.below⟩|true=>go_wp2_with(first|((with_reducible refine(aa9 h V U Z).mono ?_);rintro e N⟨rfl,M⟩;have ac:=O.trans (M.mono O.size)));go_roundw;(case rel=>exact⟨false,rfl,ac⟩);case measure=>simp[aiE]
def afc(h:fK w g 58 gz)(hB:B<=g):aq1 gV 58 w B g 1 [⟨0,false⟩]:=⟨rfl,.inr ⟨g,1,_,rfl,hB,h,aW _,by decide,rfl,rfl⟩⟩
theorem afd{t:τ}(h:fK w g t cs)(H:cs[i]? =some v):w (w.setCell ⟨g,i,none⟩ v):=by
 refine⟨rfl,rfl,rfl,by simp,λk J=>?_⟩;by_cases e:k=g;.subst e;have:=h.iV i v;rw[Ll H]at this;exact this.trans h.symm
 .exact aN w ⟨g,i,none⟩ v k e
theorem aq1.keep{α:Type}{E:arb α}{t:τ}{base b c:Nat}{xs:List α}(h:aq1 E t w base A c xs)(M: ∀k,k≠b->w'.heap[k]? =w.heap[k]?)(N: ∀cs,¬fK w b t cs):aq1 E t w' base A c xs:=⟨h.1,h.2.imp id λ⟨g,cap,cur,e,J,H,r⟩=>⟨g,cap,cur,e,J,(M g (by rintro rfl;exact N cur H)).trans H,r⟩⟩
theorem ahK(h:jE w iE m)(hL:fK w bl 122 gw):Γ aj 52 #[.agg m.cells,.slice (some ⟨bl,0,none⟩) 1 1,.int .i64 5,.int .i64 7,.bool false,.int .i64 40] w λe w'=> ∃v:DF,e=.returned (.tuple #[.agg (nO abG v),zI])/\aq1 gV 58 w' w v.A1 v.c1 [⟨0,false⟩,⟨1,false⟩]/\aq1 kW 60 w' w v.A2 v.c2 [⟨290,30⟩]/\v.n1=2/\v.n2=1/\w w':=by
 have H:Own w _ [_,_]:=Own.iY w 27 42 m.cells gj;have bm:=λW (J:w W)=>Vl (h.below J);have bf:=λW (J:w W)=>ahJ (h.below J) (hL.below J hL.lt);have am:=λW (J:w W)=>Hw (h.below J) 7;have bh:=λW (J:w W)=>ak8 (h.below J);have bd:=λW=>Vm m W;have aw:=λW (J:w W)=>I4 (h.below J) 1;unfold NG at aw;rw[show sJ iE 1=some ⟨1,[⟨0,false⟩,⟨1,false⟩],0,30⟩ from rfl]at aw;simp only at aw;rw[show oz iE 7=some ⟨7,0,10⟩ from rfl]at am;simp only[eG,Option.isSome_some]at am;obtain⟨i0,cJ,ge,CG,ch,_,a6,aE,a7,_⟩:=rD h (show iW iE 0=true by decide +kernel);obtain⟨i1,cK,cM,cA,ci,_,a8,az,bx,_⟩:=rD h (show iW iE 1=true by decide +kernel);rw[aE]at az;simp only[aO,cZ]at az;obtain⟨rfl,rfl,-⟩:=az;rw[show jS iE 0=100 by decide +kernel]at a6;rw[show jS iE 1=200 by decide +kernel]at a8;obtain rfl:i0=0:=by omega
 obtain rfl:i1=1:=by omega
 subst a6;subst a8;simp only[bI]at a7;have bn:m.n1=3:=h.e1.symm;have cX:m.cells[0]? =some (.slice (some ⟨ge,CG,none⟩) 3 m.c1):=by rw[<-aE,<-bn];rfl
 clear ch ci aE bn;unfold Vt at*;clear h hL;go_enter func52,ntmps52;go_wp2_with(first|((with_reducible refine gK H ?_ _ rfl rfl _ dB rfl (by kernel_rfl) ?_);(.first|rfl))|((with_reducible refine(bm _ H.below).mono ?_);rintro e M⟨rfl,N⟩;replace H:=H.grow N;have iG:=H.alloc 38 #[zI,.int .i64 50,.bool false] M rfl;replace H:=iG.alloc 58 gz (M.heap.size+1) (by simp);simp only[bQ,aZ]at H iG;have bX:=iG.b2.cell;have ca:=H.b3.cell;clear iG)|((with_reducible refine(bf _ H.below).mono ?_);rintro e w2⟨M,c,rfl,Y,N⟩;replace H:=H.grow N)|((with_reducible refine(am _ H.below).mono ?_);rintro e M⟨rfl,N⟩;replace H:=H.grow N;replace Y:=Y.below N;replace H:=H.alloc 114 gE M rfl;simp only[bQ,aZ]at H;replace Y:=Y.alloc (.cells gE 114);have iG:=H.b4.cell)|((with_reducible refine(bh _ H.below).mono ?_);rintro e w4⟨g,rfl,M,ae,N⟩;have cg:w.heap.size<=g:=(aG H.below.size M);replace H:=H.grow N;replace Y:=Y.below N;replace H:=H.alloc 42 #[.int .i64 7,.bool false,.slice (some ⟨g,0,none⟩) 1 1,.slice none 0 0,zI] w4 rfl;simp only[bQ,aZ]at H;have iG:w4 (w4.alloc (.cells #[.int .i64 7,.bool false,.slice (some ⟨g,0,none⟩) 1 1,.slice none 0 0,zI] 42)):=gY.alloc ig _;replace ae:=ae.below iG ae.lt;replace Y:=Y.below iG;clear iG;have bS:=H.b4.cell)|((with_reducible refine(bd _).mono ?_);rintro e w5⟨rfl,M⟩;replace H:=H.grow M;replace ae:=ae.below M ae.lt;replace Y:=Y.below M;have aR:=H.b5.cell));clear bm bf am bh bd bX ca bS;go_loopw [21,84] (λa i wr=> ∃j:Nat,j<=1/\i=.int .i64 j/\a=.int .i64 (100*(j:Int)-10)/\w5 wr) (λ_ i _=>1-(intOf i).toNat);case atStart=>exact⟨0,by omega,rfl,rfl,aH _ _⟩
 case round=>
  obtain⟨j,hj,rfl,rfl,V⟩:=hrel;have aL:=H.grow V;have a9:=ae.below V ae.lt;have bc:=Y.below V;by_cases hz:j=0;.subst hz;have cS:=a9.cell;have O:=aL.alloc 58 gz wr rfl;simp only[bQ,aZ]at O;have cc:=O.b0.cell;have ai:=O.b6.cell;have ke:=a7 _ O.below;have X0:w5 (wr.alloc (.cells gz 58)):=V.alloc V.size _;go_wp2_with fail;go_roundw;(case rel=>exact⟨1,by omega,rfl,rfl,X0⟩);case measure=>simp[intOf]
  ·(obtain rfl:j=1:=by omega);clear H ae Y V hz hj;go_wp2_with fail;obtain⟨lb,lo,eA,cU,au⟩:=bc.get (i:=0) (x:=⟨1,5,1⟩) rfl;subst eA;have l0:=au 0 (.int .i64 1) rfl;have l1:=au 1 (.int .i64 5) rfl;have l2:=au 2 (.int .i64 1) rfl;simp only[sF,Nat.zero_mul,bI]at l0 l1 l2;(have bi:w.heap.size<=g:=by have:=aL.below.size;exact aG ig (by first |exact cg));have ad:=afc (B:=w.heap.size) a9 bi;clear bc au;generalize wr=wv at*;go_loopw [21,99] (λa i w9=>(i=.int .i64 0/\a=.int .i64 90/\w9=wv)\/(i=.int .i64 1/\a=.int .i64 290/\ ∃A2 c2 A3 c3,Own w w9 [(w,27,m.cells),(w.heap.size+1,42,gj),(w4,42,#[.int .i64 7,.bool false,.slice A2 2 c2,.slice A3 1 c3,zI])]/\aq1 gV 58 w9 w A2 c2 [⟨0,false⟩,⟨1,false⟩]/\aq1 kW 60 w9 w A3 c3 [⟨290,30⟩])) (λ_ i _=>1-(intOf i).toNat);(case atStart=>exact .inl ⟨rfl,rfl,rfl⟩);case round=>
    rcases hrel with⟨rfl,rfl,rfl⟩ |⟨rfl,rfl,A2,c2,A3,c3,FP,cm,ax⟩
    .have O:=aL.alloc 122 gw wr rfl;simp only[bQ,aZ]at O;have cc:=O.b6.cell;replace ad:=ad.alloc (.cells gw 122);go_wp2_with(first|((with_reducible refine gK O ?_ _ rfl rfl _ dB rfl (by kernel_rfl) ?_);(.first|rfl))|((with_reducible refine(aw _ O.below).mono ?_);rintro e w6⟨⟨M,cr,rfl,af⟩,N⟩;replace O:=O.grow N;replace ad:=ad.below N;obtain⟨ga,iG,eA,jQ,am,uK,sK,O4,NH⟩:=af.blk (af.some_ (by decide));subst eA;have Xa:2<=cr:=sK;have qx:=O.alloc 97 #[.int .i64 1,.slice (some ⟨ga,0,none⟩) 2 cr,zI,.int .i64 30] w6 rfl;simp only[bQ,aZ]at qx;replace af:=af.alloc (.cells #[.int .i64 1,.slice (some ⟨ga,0,none⟩) 2 cr,zI,.int .i64 30] 97);replace ad:=ad.alloc (.cells #[.int .i64 1,.slice (some ⟨ga,0,none⟩) 2 cr,zI,.int .i64 30] 97);clear am uK NH iG jQ;have J6:=qx.b7.cell;have J7:=qx.b3.cell;obtain⟨bE,ox,ex,ac,ai⟩:=af.rows.get (i:=0) (x:=⟨0,false⟩) rfl;simp only[aO,cZ]at ex;obtain⟨e1,e2,-⟩:=ex;subst e1;subst e2;have Vo:=ai 0 zI rfl;have a5:=ai 1 (.bool false) rfl;clear ai;simp only[gV,aJ,Nat.zero_mul,bI]at Vo a5;have bj:=aiD ga 0 2 cr _ (by omega) sK ac (by simpa using Vo) (by simpa using a5))|((with_reducible refine bj.mono ?_);rintro e w7⟨rfl,M⟩;clear bj;replace qx:=qx.grow M;replace af:=af.below M;replace ad:=ad.below M));have bb:Own w w7 [(w,27,m.cells),(w.heap.size+1,42,gj),(w4,42,#[.int .i64 7,.bool false,.slice (some ⟨g,0,none⟩) 1 1,.slice none 0 0,zI]),(w6,97,#[.int .i64 1,.slice (some ⟨ga,0,none⟩) 2 cr,zI,.int .i64 30])]:=⟨qx.below,λx hx=>qx.blk x (by simp only[bJ,dH,or_false]at hx |-;rcases hx with h |h |h |h <;> simp[h]),qx.nodup.sublist (List.Sublist.map _ (.cons_cons _ (.cons_cons _ (.cons _ (.cons _ (.cons _ (.cons_cons _ (.cons _ (.cons_cons _ .slnil)))))))))⟩;clear qx O;obtain⟨bE,ox,ex,ac,ai⟩:=af.rows.get (i:=1) (x:=⟨1,false⟩) rfl;simp only[aO,cZ]at ex;obtain⟨e1,e2,-⟩:=ex;subst e1;subst e2;have q0:=ai 0 (.int .i64 1) rfl;have q1:=ai 1 (.bool false) rfl;clear ai;simp only[gV,aJ,Nat.one_mul,bI]at q0 q1;have k0:=λW (J:w7 W)=>(J.cell (p:=⟨ga,2,none⟩) ac).trans q0;have k1:=λW (J:w7 W)=>(J.cell (p:=⟨ga,2+1,none⟩) ac).trans q1;simp only[aT]at k1;clear af q0 q1;go_loopw [21,123] (λa i wr=> ∃j:Nat,j<=1/\i=.int .i64 j/\a=.int .i64 (200*(j:Int)+90)/\w7 wr) (λ_ i _=>1-(intOf i).toNat);(case atStart=>exact⟨0,by omega,rfl,rfl,aH _ _⟩);case round=>
      obtain⟨j,hj,rfl,rfl,V⟩:=hrel;have lW:=bb.grow V;have z0:=k0 _ V;have z1:=k1 _ V;by_cases hz:j=0;.subst hz;have O:=lW.alloc 58 #[.int .i64 1,.bool false] wr rfl;simp only[bQ,aZ]at O;have cG:=O.b0.cell;have cw:=O.b4.cell;have ke:=bx _ O.below;have X0:w7 (wr.alloc (.cells #[.int .i64 1,.bool false] 58)):=V.alloc V.size _;go_wp2_with fail;go_roundw;(case rel=>exact⟨1,by omega,rfl,rfl,X0⟩);case measure=>simp[intOf]
      ·(obtain rfl:j=1:=by omega);have ba:=ad.below V;have ct:fE gV wr (some ⟨ga,2,none⟩) [⟨1,false⟩]:=λ_=>⟨ga,2,rfl,aU ac V.size,λj u hu=>by
        match j,hu with
        |0,hu=>cases hu;exact z0
        |1,hu=>cases hu;exact z1
        |j+2,hu=>simp[arb.flat,gV]at hu⟩
       have aR:=lW.b2.cell;clear bb ad V z0 z1;go_wp2_with(first|(at_builtin;refine gW RN rfl _ _ rfl w (some ⟨g,0,none⟩) 1 [⟨0,false⟩] 1 rfl rfl ba (some ⟨ga,2,none⟩) (cr-1) [⟨1,false⟩] 1 rfl rfl ct (by omega) (by decide) lW.below.size ?_;intro A2 c2 w8 H7 cf _;have vW:Own w w8 [(w,27,m.cells),(w.heap.size+1,42,gj),(w4,42,#[.int .i64 7,.bool false,.slice (some ⟨g,0,none⟩) 1 1,.slice none 0 0,.int .i64 0]),(w6,97,#[.int .i64 1,.slice (some ⟨ga,0,none⟩) 2 cr,.int .i64 0,.int .i64 30])]:=lW.grown cf (λg' e=>by simp only[eF,aO]at e;subst e;refine⟨bi,λx hx=>?_⟩;obtain⟨gq,cq,eq,_,bq,_⟩:=ba.blk (by simp);simp only[aO,cZ,and_true]at eq;subst eq;simp only[bJ,dH,or_false]at hx;rcases hx with rfl |rfl |rfl |rfl;exact zn lW.b0 bq (by decide);exact zn lW.b1 bq (by decide);exact zn lW.b2 bq (by decide);exact zn lW.b3 bq (by decide));have cy:=vW.b2.cell;have cH:=vW.b2.frozen 2;have Z:Own w (w8.setCell ⟨w4,2,none⟩ (.slice A2 2 c2)) [(w,27,m.cells),(w.heap.size+1,42,gj),(w4,42,#[.int .i64 7,.bool false,.slice A2 2 c2,.slice none 0 0,zI]),(w6,97,#[.int .i64 1,.slice (some ⟨ga,0,none⟩) 2 cr,zI,.int .i64 30])]:=Own.change (L1:= [_,_]) vW (tC w8 _ 2 (.slice A2 2 c2)) (vW.b2.iV 2 _);replace H7:=H7.away (tC w8 w4 2 (.slice A2 2 c2)) (lV vW.b2 (by decide));have cz:=Z.b2.cell;have cx:=Z.b3.cell;have an:=fK.new (w8.setCell ⟨w4,2,none⟩ (.slice A2 2 c2)) 60 #[.int .i64 290,.int .i64 30];rw[show(w8.setCell ⟨w4,2,none⟩ (.slice A2 2 c2)).heap.size=w8.heap.size from by simp[dD]]at an)|(at_builtin;refine gW abI rfl _ _ rfl w none 0 [] 0 rfl rfl (aq1.nil _ _) _ 1 [⟨290,30⟩] 1 rfl rfl (uz an rfl) (by omega) (by decide) (aG Z.below.size (by simp)) ?_;intro A3 c3 ar aq bA _;have kQ:=Eh bA;replace Z:=(Z.grow (gY.alloc ig (.cells #[.int .i64 290,.int .i64 30] 60))).grow kQ;replace H7:=(H7.alloc (.cells #[.int .i64 290,.int .i64 30] 60)).below kQ;have cB:=Z.b2.cell;have cC:=Z.b2.frozen 3;have ak:Own w (ar.setCell ⟨w4,3,none⟩ (.slice A3 1 c3)) [(w,27,m.cells),(w.heap.size+1,42,gj),(w4,42,#[.int .i64 7,.bool false,.slice A2 2 c2,.slice A3 1 c3,.int .i64 0]),(w6,97,#[.int .i64 1,.slice (some ⟨ga,0,none⟩) 2 cr,.int .i64 0,.int .i64 30])]:=Own.change (L1:= [_,_]) Z (tC ar _ 3 (.slice A3 1 c3)) (Z.b2.iV 3 _);replace H7:=H7.away (tC ar w4 3 (.slice A3 1 c3)) (lV Z.b2 (by decide));replace aq:=aq.away (tC ar w4 3 (.slice A3 1 c3)) (lV Z.b2 (by decide));have cD:=ak.b2.cell;have cE:=ak.b3.cell;have cF:=ak.b2.frozen 4;have bO:Own w ((ar.setCell ⟨w4,3,none⟩ (.slice A3 1 c3)).setCell ⟨w4,4,none⟩ (.int .i64 0)) [(w,27,m.cells),(w.heap.size+1,42,gj),(w4,42,#[.int .i64 7,.bool false,.slice A2 2 c2,.slice A3 1 c3,.int .i64 0]),(w6,97,#[.int .i64 1,.slice (some ⟨ga,0,none⟩) 2 cr,.int .i64 0,.int .i64 30])]:=Own.change (L1:= [_,_]) ak (tC _ _ 4 (.int .i64 0)) (ak.b2.iV 4 _);replace H7:=H7.away (tC _ w4 4 (.int .i64 0)) (lV ak.b2 (by decide));replace aq:=aq.away (tC _ w4 4 (.int .i64 0)) (lV ak.b2 (by decide))));go_roundw;(case rel=>exact⟨.int .i64 290,_,_,_,_,_,_,.int .i64 1,.inr ⟨rfl,rfl,A2,c2,A3,c3,Own.sub (L1:= [_,_,_]) (L2:= [_]) bO,H7,aq⟩,rfl,rfl,rfl,rfl,rfl,rfl,rfl,rfl⟩);case measure=>simp[intOf]
    .have aR:=FP.b2.cell;go_wp2_with fail;obtain⟨gs,bL,eS,cT,an,cI,cN,cP,bB⟩:=ax.blk (ax.some_ (by decide));subst eS;clear aR;generalize wr=w9 at*;have hq:=λW (J:w9 W)=>(ax.below J).rows.get (i:=0) (x:=⟨290,30⟩) rfl;(have av: ∀W,w9 W->W.cell? ⟨gs,0,none⟩=some (.int .i64 290):=λW J=>by obtain⟨b,off,e,_,hc⟩:=hq W J;simp only[aO,cZ]at e;obtain⟨rfl,rfl,-⟩:=e;have:=hc 0 (.int .i64 290) rfl;simpa[kW] using this);clear hq bB;apply gu (Below w9) (λW=>aq3 gY 1) (λ_ _ _ h1 h2=>h1.trans h2) (vN w9 999) (λ_ _ _ h=>h.1) (λ_ _=>iR _ _ _ _) (λ_ _=>True) (λ_=>trivial) (λ_ _ _ _ _ _ _=>trivial);(case lX=>intro u;simp only[bV,aq9,aP,ay,aA,aB,aT,aJ];with_reducible rfl);(case hm=>kernel_rfl);(case hB=>kernel_rfl);(case hA=>kernel_rfl);case hap=>kernel_rfl
     repeat(first
        |(apply fM.is
          ·
            (intro u w' hk cV U
             simp[fO,aC,gI,Is]at U
             refine fC ?_ ?_
             ·
               first
               |rfl
             intro K hK
             have bN:=FP.grow hk;have cQ:=bN.b2.cell;have m2:=av _ hk
             go_wp2_with (fail)
             try simp only[U]at hK
             refine hK _ _ ?_ rfl
             first |exact iR _ _ _ _)))
     refine fM.last (qh ?_) ?_;(.simp only[gQ];(repeat(refine⟨?_,?_⟩;.first|exact mM _));exact trivial);intro u w2 a1 _ U;simp only[gQ]at U;refine⟨rfl,?_⟩;intro K hK;have h8:=U 8 _ rfl;have aD:=U 10 _ rfl;simp only[gI,Is]at h8 aD;clear U;have m2:=av _ a1;have aM:=an.below a1 an.lt;have cR:=aM.frozen 0;simp only[h8,aD];clear h8 aD;have cd:bL[0]? =some (.int .i64 290):=(aM.cell 0).symm.trans m2;have bR:=afd aM cd;have ac:=gZ a1 bR;have aa:=FP.grow ac;have ag:=cm.below ac;have al:=ax.below ac;have bo:=λW (J:Below (w2.setCell ⟨gs,0,none⟩ (.int .i64 290)).heap.size (w2.setCell ⟨gs,0,none⟩ (.int .i64 290)) W)=>Yo A2 2 c2 [⟨0,false⟩,⟨1,false⟩] W ((ag.below J).rows) rfl (by decide) ag.cap.1;rw[show qA [] [⟨0,false⟩,⟨1,false⟩]=false by decide +kernel]at bo;have ap: ∀W,Below (w2.setCell ⟨gs,0,none⟩ (.int .i64 290)).heap.size (w2.setCell ⟨gs,0,none⟩ (.int .i64 290)) W->W.cell? ⟨gs,0,none⟩=some (.int .i64 290):=λW J=>av W (gZ ac J);have bw:=aa.b2.cell;clear av;go_wp2_with(first|((with_reducible refine(bo _ gY).mono ?_);rintro e M⟨rfl,N⟩;replace aa:=aa.grow N;replace ag:=ag.below N;replace al:=al.below N;have cn:=ap _ N;replace ap:=λW (J:M W)=>ap W (gZ N J);have bu:=aa.b2.cell));apply iM;(case lX=>intro u;simp only[bV,aq9,aP,ay,aA,aB,aT,aJ];with_reducible rfl);(case hm=>kernel_rfl);(case hB=>kernel_rfl);(case hap=>kernel_rfl);(repeat(first|(apply Lex.is;·(intro u w' hk U;simp[fH,aC,Is]at U;refine fF ?_ ?_;(·(first|rfl));intro K hK;skip;go_wp2_with(fail);(try simp only[U]at hK);refine hK _ _ ?_ rfl;first|exact aH _ _))|(refine Lex.is (c:=υ) ?_ ?_;·(intro u w' hk U;simp[fH,aC,Is]at U;exact wG (by simp[aF,ψ,U]) rfl))));apply Lex.nil;intro u w' hk U;simp only[gQ]at U;have a4:=U 18 _ rfl;simp only[Is]at a4;clear U;simp only[a4];replace aa:=aa.grow hk;replace ag:=ag.below hk;replace al:=al.below hk;have cW:=ap _ hk;have cu:=aa.b2.cell;clear hk a4 ap cn bu bw;go_wp2_with(first|((with_reducible refine mJ aa ?_ _ rfl rfl _ dA rfl (by kernel_rfl) ?_);(.first|rfl))|((with_reducible refine kY #[.int .i64 7,.bool false,.slice A2 2 c2,.slice (some ⟨gs,0,none⟩) 1 c3,.int .i64 0] aa rfl _ _ rfl rfl rfl (by kernel_rfl) rfl (by kernel_rfl) ?_);intro M kN N bk));replace ag:=ag.keep bk (lV aa.b1 (by decide));replace al:=al.keep bk (lV aa.b1 (by decide));exact β (gU results52 _ _ _ _ _ _ rfl rfl kN.b1 dA rfl (by kernel_rfl)) rfl ⟨⟨A2,2,c2,some ⟨gs,0,none⟩,1,c3⟩,rfl,ag,al,rfl,rfl,kN.below⟩
end Go.Proofs.YthnmgjngniciaaaGreatDoor
