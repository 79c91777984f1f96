/- Parts. -/
import Derived.Test.YthnmgjngniciaaaGreatDoorM31
import Derived.Test.YthnmgjngniciaaaGreatDoorM22
import Derived.Test.YthnmgjngniciaaaGreatDoorM13
import Derived.Deep.MidRow
import Derived.Test.YthnmgjngniciaaaGreatDoorM04
import Derived.Test.YthnmgjngniciaaaGreatDoorM24
import Derived.Test.YthnmgjngniciaaaGreatDoorM18
set_option linter.all false
set_option maxHeartbeats 16000000
set_option maxRecDepth 8000
open Array renaming getElem?_append_left→dS,getElem?_eq_getElem→cO,getElem?_setIfInBounds_ne→dR
open List renaming getD_eq_getElem?_getD→bH,getElem?_cons_succ→fB,getElem?_eq_getElem→aI,getElem?_eq_some_iff→aX,length_cons→bK,length_eq_zero_iff→dh,map→bV,map_append→eX,mem_append→dK,range→eY,setIfInBounds_toArray→ay,set_cons_succ→aB,set_cons_zero→aA
open Nat renaming add_zero→bI,le_of_eq→bZ,le_trans→aG,lt_of_lt_of_eq→fA,lt_of_lt_of_le→aU,reduceAdd→aT,zero_add→aJ,zero_le→aV
namespace Go.Proofs.YthnmgjngniciaaaGreatDoor
open Go.RowKit Go.Shelf Tryz
open Act renaming put→aP
open Below renaming refl→aH
open Go.Lib renaming hid→ah
open Region renaming binds→aC,wanted→aF
open Result renaming andThen_ok→dO
open Tryz renaming prog→aj,underlying136→bF,underlying27→dB,underlying34→bD,underlying44→bg
open Value renaming oneCell'→aK
variable{a:Act}{K:Act->World->Prop}{ops:Array Oper}{cs:Array Value}{Q:Exit->Act->World->Prop}{now:Int}{m n:Ma}{v:DF}{B B0 Bq b c ck g gc gn gp gt i j nk s s1 s2:Nat}{T:Nat->World->World->Prop}{o:Oper}{A Ak:Option Addr}{P:Program}{C:Prop}{t:Tp}{tm:jl}{x:Tr}{xn:kZ}{W W' w w' w0:World}
def BA (m:jl) (x:Tr) (xm:kZ) (now:Int):Array Value:=m.cells++jf x xm++ #[.int .i64 now,.slice none 0 0]
def nR:Array Value:= fY
theorem OB(m:jl)(x:Tr)(d:kZ)(now:Int):(BA m x d now).size=54:=by simp[BA,jl.cells,lg]
theorem UR(t:TypeId)(parts:Array (Nat × Operand))(d:o.op=.build t parts)(ps:List (Nat × Value))(H:(parts.map λ(i,x)=>(i,a.eval x)).toList=ps)(cs:Array Value)(hc:aj.built t ps=some cs)(h:K (a.put o.dst cs) w):o.wp aj a w K Q:=by subst H;exact wp_build t parts d (by grind) (by grind)
theorem aaL(m:jl)(x:Tr)(d:kZ)(now:Int):aj.built 87 [(0,.agg m.cells),(1,.agg (jf x d)),(2,.int .i64 now)]=some (BA m x d now):=by kernel_rfl
theorem Ij(ty:TypeId)(x y:Operand)(M:o.op=.store ty x y)(g i:Nat)(O:a.eval x=.pointer (some ⟨g,i,none⟩))(v:Value)(U:a.eval y=v)(t:TypeId)(old:Array Value)(H:fK w g t old)(J:i<old.size)(hi:(P.info? ty).map (·.size)=some 1)(d:v.oneCell'=true)(h:K (a.put o.dst undef) (w.setCell ⟨g,i,none⟩ v)):o.wp P a w K Q:=by have N:=qU (P:=P) w g i t ty old v H J hi d;unfold Oper.wp execOp;simp only[M,O,U,Instr.storeAt,Instr.sureAddr,Sem.run_bind,Sem.run_pure,dO,N];exact h
def aeC (w:World) (g:Nat):Prop:= ∀t cs,fK w g t cs->t≠58/\t≠60/\t≠3
theorem OC{t:TypeId}(h:fK w g t cs)(H:t≠58/\t≠60/\t≠3):aeC w g:=λJ cs' d=>by unfold fK at h d;grind
theorem aaM{es:Array MapEntry}{cl:Nat}(h:w.heap[g]? =some (.map es cl)):aeC w g:=λH cs' d=>by unfold fK at d;grind
theorem aq1.away{α:Type}{E:arb α}{t:TypeId}{base b c:Nat}{xs:List α}(h:aq1 E t w base A c xs)(d:w.grownBy w' (some b))(M: ∀cs,¬fK w b t cs):aq1 E t w' base A c xs:=h.off d λg hA e=>by obtain⟨H,cur,e1,_,J,_⟩:=h.blk (by grind);grind
theorem nH.away{base b:Nat}{m:kZ}(h:nH w base x m)(H:w.grownBy w' (some b))(hn:aeC w b):nH w' base x m:={h with path:=h.path.away H (λcs d=>(hn _ _ d).1 rfl),fP:=h.fP.away H (λcs d=>(hn _ _ d).2.1 rfl),stops:=h.stops.away H (λcs d=>(hn _ _ d).2.2 rfl)}
def anb (B:Nat) (x:Tr) (xm:kZ):Value->World->Prop:=fun v w=> ∃A1 c1 A2 c2 A3 c3,v=.agg (jf x (GR xm A1 c1 A2 c2 A3 c3))/\nH w B x (GR xm A1 c1 A2 c2 A3 c3)
def anc (B:Nat) (m:jl) (x:Tr) (xm:kZ) (now:Int):Value->World->Prop:=fun v w=> ∃A1 c1 A2 c2 A3 c3,v=.agg (BA m x (GR xm A1 c1 A2 c2 A3 c3) now)/\nH w B x (GR xm A1 c1 A2 c2 A3 c3)
def ane (B:Nat) (m:jl) (x:Tr) (xm:kZ) (now:Int):Value->World->Prop:=fun v w=> ∃g A1 c1 A2 c2 A3 c3,v=.pointer (some ⟨g,0,none⟩)/\B<=g/\fK w g 87 (BA m x (GR xm A1 c1 A2 c2 A3 c3) now)/\nH w B x (GR xm A1 c1 A2 c2 A3 c3)
def anf (B:Nat):Value->World->Prop:=fun v w=> ∃g y,v=.pointer (some ⟨g,0,none⟩)/\B<=g/\fK w g 84 #[y]
theorem aaN(B:Nat)(x:Tr)(M:kZ):Ey (anb B x M):=λv w w' ⟨A1,c1,A2,c2,A3,c3,d,H⟩ J=>⟨A1,c1,A2,c2,A3,c3,d,H.below J⟩
theorem aaO(B:Nat)(m:jl)(x:Tr)(M:kZ)(now:Int):Ey (anc B m x M now):=λv w w' ⟨A1,c1,A2,c2,A3,c3,d,H⟩ J=>⟨A1,c1,A2,c2,A3,c3,d,H.below J⟩
theorem aaP(B:Nat)(m:jl)(x:Tr)(O:kZ)(now:Int):Ey (ane B m x O now):=λv w w' ⟨g,A1,c1,A2,c2,A3,c3,J,M,d,N⟩ H=>⟨g,A1,c1,A2,c2,A3,c3,J,M,d.below H d.lt,N.below H⟩
theorem aaQ(B:Nat):Ey (anf B):=λv w w' ⟨g,y,H,J,d⟩ M=>⟨g,y,H,J,d.below M d.lt⟩
theorem BD{O:Func}{a c J:Tmp}{d:TypeId}(h:O.results= #[.cell a d,.tmp c,.tmp J])(tmps:Array Value)(w:World)(H:Nat)(c1:Array Value)(v N:Value)(M:TypeDesc)(ha:tmps.getD a undef=.pointer H)(hc:tmps.getD c undef=v)(hd:tmps.getD J undef=N)(U:fK w H d c1)(u1:P.underlying d=some M)(k1:(match M with | .struct _ | .array _ _=>true |_=>false)=true)(i1:(P.info? d).map (·.size)=some c1.size):(results O tmps).run P w=.ok (.tuple #[c1,v,N]) w:=by
 have V:tmps[a]?.getD undef=.pointer H:=by simp_all
 have Y:tmps[c]?.getD undef=v:=by simp_all
 have Z:tmps[J]?.getD undef=N:=by simp_all
 simp[results,h,V,Y,Z,asAddr,run_loadVar_row w H d d c1 (0,0) M U u1 k1 i1]
theorem Own.change{L1 L2:List Bk}{t:TypeId}{old new:Array Value}(h:Own w W (L1++(g,t,old)::L2))(H:W.grownBy W' (some g))(V:fK W' g t new):Own w W' (L1++(g,t,new)::L2):=by
 have Y:=h.blk (g,t,old) (by simp);have M:=h.nodup;rw[eX,List.map_cons,List.nodup_append]at M;obtain⟨n1,n2,n3⟩:=M;rw[List.nodup_cons]at n2;refine⟨h.below.trans ⟨H.os,H.tape,H.output,H.size,λk O=>H.block k (aU O h.below.size) (λe=>by grind)⟩,λx d=>?_,?_⟩
 ·have keep: ∀x∈L1++(g,t,old)::L2,x.1≠g->w.heap.size<=x.1/\fK W' x.1 x.2.1 x.2.2:=λx d U=>by obtain⟨N,J⟩:=h.blk x d;exact⟨N,(H.block x.1 J.lt (λe=>U (by grind))).trans J⟩
  rcases dK.1 d with d |d;·refine keep x (by simp[d]) (λe=>?_);exact n3 x.1 (List.mem_map_of_mem d) g (by simp) e
  grind
 grind
theorem UU(t:Tp)(x:Tr)(n now:Int):(qF t x n now).ma=x.ma/\(qF t x n now).stops=x.stops:=by
 unfold qF;split;·unfold zW;grind
 simp
theorem nH.moved{base:Nat}{y:Tr}{m:kZ}(h:nH w base x m)(hm:y.ma=x.ma/\y.stops=x.stops):nH w base y m:=by obtain⟨d,H⟩:=hm;exact⟨by rw[d];exact h.path,by rw[d];exact h.fP,by rw[H];exact h.stops,by rw[d];exact h.e1,by rw[d];exact h.e2,by rw[H];exact h.e3,h.l1,h.l2,h.l3⟩
theorem zn{d H:Nat}{J M:TypeId}{c1 c2:Array Value}(N:fK w d J c1)(O:fK w H M c2)(U:J≠M):d≠H:=by rintro rfl;unfold fK at N O;grind
theorem akO{t:TypeId}{m:jl}{J:kZ}(hB:fK W g t (BA m x J now)):W.rangeAt g 4 (jf x J).toList:=by
 intro j v H;rw[hB.cell];unfold BA;have M:j<48:=by have:=(aX.1 H).1;simpa[lg] using this
 have d:m.cells.size=4:=rfl;rw[dS (by simp[d,lg];omega),Array.getElem?_append_right (by rw[d];omega),d,Nat.add_sub_cancel_left];simpa using H
theorem tu: ∀(vs:List Value) (o:Nat) (a:Array Value) (i:Nat),o+vs.length<=a.size->(arh a o vs)[i]? =if o<=i/\i<o+vs.length then vs[i-o]? else a[i]?
 | [],o,a,i,h=>by simp[arh];omega
 |v::vs,o,a,i,h=>by
  rw[arh,tu vs (o+1) _ i (by simp at h ⊢;omega)];simp only[bK]at h ⊢;by_cases d:o+1<=i/\i<o+1+vs.length;·rw[if_pos d,if_pos (by omega),show i-o=(i-(o+1))+1 by omega,fB]
  ·rw[if_neg d];by_cases H:i=o;(·subst H;rw[if_pos (by omega),Array.getElem?_setIfInBounds_self_of_lt (by omega)];simp);·rw[if_neg (by omega),dR (by omega)]
theorem aaR(m:jl)(x y:Tr)(H:kZ)(now:Int):arh (BA m x H now) 4 (jf y H).toList=BA m y H now:=by
 have d:m.cells.size=4:=rfl;apply Array.ext_getElem?;intro i;rw[tu _ _ _ _ (by rw[OB];simp[lg])];have J:(jf y H).toList.length=48:=by simp[lg]
 unfold BA;by_cases h:4<=i/\i<4+(jf y H).toList.length;·rw[if_pos h];rw[J]at h;rw[dS (by simp[d,lg];omega),Array.getElem?_append_right (by rw[d];omega),d];simp
 ·rw[if_neg h];rw[J]at h;by_cases hi:i<4;·rw[dS (by simp[d,lg];omega),dS (by rw[d];omega),dS (by simp[d,lg];omega),dS (by rw[d];omega)]
  ·rw[Array.getElem?_append_right (by simp[d,lg];omega),Array.getElem?_append_right (by simp[d,lg];omega)];simp[d,lg]
def TW (g s i:Nat) (W W':World):Prop:=W.grownBy W' (some g)/\(i≠s->W W')
theorem tN(h:W W')(r:Option Nat):W.grownBy W' r:=⟨h.os,h.tape,h.output,h.size,λk d _=>h.block k d⟩
theorem tV(g s i:Nat)(W:World):TW g s i W W:=⟨tN gY _,λ_=>aH _ _⟩
theorem aeD(h:W W'):TW g s i W W':=⟨tN h _,λ_=>h⟩
theorem aru{d W2:World}(h:W.grownBy d (some g))(k:d.grownBy W2 (some g)):W.grownBy W2 (some g):=⟨k.os.trans h.os,k.tape.trans h.tape,k.output.trans h.output,aG h.size k.size,λi hi H=>(k.block i (aU hi h.size) H).trans (h.block i hi H)⟩
def mF (ops:Array Oper) (T:Nat->World->World->Prop) (j:Nat) (Φ:(Nat->Value)->World->Prop):Prop:= ∀i,i≠j->mY ops i j-> ∀u v w w',Φ u w->T i w w'->Φ (upd u i v) w'
def StW (ops:Array Oper) (T:Nat->World->World->Prop):Nat->List ((Nat->Value)->World->Prop)->Prop
 |_,[]=>True
 |j,Φ::l=>mF ops T j Φ/\StW ops T (j+1) l
theorem aeE: ∀(l:List ((Nat->Value)->World->Prop)) (k:Nat),StW ops T k l-> ∀j Φ,l[j]? =some Φ->mF ops T (k+j) Φ
 | [],_,_,j,Φ,h=>by simp at h
 |Ψ::l,k,h,0,Φ,hj=>by simp at hj;subst hj;exact h.1
 |Ψ::l,k,h,j+1,Φ,hj=>by have:=aeE l (k+1) h.2 j Φ (by simpa using hj);rwa [show k+1+j=k+(j+1) by omega]at this
theorem qm{d:List ((Nat->Value)->World->Prop)}(h:StW ops T 0 d): ∀i j (Φ:(Nat->Value)->World->Prop),i≠j->i<d.length->mY ops i j->d[j]? =some Φ-> ∀u v w w',Φ u w->T i w w'->Φ (upd u i v) w':=by intro i j Φ M _ J N u v W W' H O;have:=aeE _ 0 h j Φ N;rw[aJ]at this;exact this i M J u v W W' H O
theorem mQ(c:Value):mF ops T j (gI j (Is c)):=λ_ d _ _ _ _ _ h _=>jy d h λ_ h=>h
theorem UW{t:TypeId}:mF ops (TW g s) s (gI s (λ_ w=>fK w g t cs)):=λ_ d _ _ _ _ _ h H=>h.below (H.2 d) h.lt
structure aaS (Ak:Option Addr) (nk ck:Nat) (base:Nat) (t:Tp) (m:jl) (x:Tr) (xn:kZ) (now n:Int) (gt gc gp gn ga:Nat) (W:World):Prop where
  tp:jE W t m
  tr:nH W base x xn
  b0:fK W gt 27 m.cells
  b1:fK W gc 87 (BA m x xn now)
  b2:fK W gp 84 #[.pointer (some ⟨gc,0,none⟩)]
  b3:fK W gn 3 #[.int .i64 now]
  b4:fK W ga 48 #[.int .i64 4,.int .i64 n,.slice Ak nk ck]
theorem aaS.below{base:Nat}{m:jl}{n:Int}{ga:Nat}(h:aaS Ak nk ck base t m x xn now n gt gc gp gn ga W)(d:W W'):aaS Ak nk ck base t m x xn now n gt gc gp gn ga W':=⟨h.tp.below d,h.tr.below d,h.b0.below d h.b0.lt,h.b1.below d h.b1.lt,h.b2.below d h.b2.lt,h.b3.below d h.b3.lt,h.b4.below d h.b4.lt⟩
theorem ag9{base:Nat}{m:jl}{n:Int}(V:jE w t m)(hX:nH w base x xn)(b0:fK w gt 27 m.cells)(b1:fK w gc 87 (BA m x xn now))(b2:fK w gp 84 #[.pointer (some ⟨gc,0,none⟩)])(b3:fK w gn 3 #[now])(XI:jK now=true):Calls aj 30 #[.agg #[.int .i64 4,n,.slice Ak nk ck],.pointer (some ⟨gt,0,none⟩),.pointer (some ⟨gp,0,none⟩),.pointer (some ⟨gn,0,none⟩)] w λe w'=>e=.returned (.int .i64 (rC t x n now))/\fK w' gc 87 (BA m (qF t x n now) xn now)/\w.grownBy w' (some gc):=by
 have N:w (w.alloc (.cells #[.int .i64 4,n,.slice Ak nk ck] 48)):=gY.alloc ig _;have O:aaS Ak nk ck base t m x xn now n gt gc gp gn w (w.alloc (.cells #[.int .i64 4,n,.slice Ak nk ck] 48)):=⟨V.below N,hX.below N,b0.below N b0.lt,b1.below N b1.lt,b2.below N b2.lt,b3.below N b3.lt,fK.new _ _ _⟩;have ag:=λW (O:aaS Ak nk ck base t m x xn now n gt gc gp gn w W)=>ag0 O.tp x xn O.tr.is n now XI;generalize rC t x n now=me at*;generalize qF t x n now=mr at*;go_enter func30,ntmps30;go_wp2_with fail;generalize am:(w.alloc (.cells #[.int .i64 4,n,.slice Ak nk ck] 48))=W0 at*;apply zF (λW W'=>W.grownBy W' (some gc)) (λW=>tN (aq3 gY 1) _) (λ_ _ _ h1 h2=>aru h1 h2) (TW gc 15) (λ_ _ _ h=>h.1) (λ_ _=>tV _ _ _ _) (λi W=>i<=11\/i=15->aaS Ak nk ck base t m x xn now n gt gc gp gn w W) (λi _=>O.below (aq3 gY 1));case lX=>intro u;simp only[bV,aq9,aP,ay,aA,aB,aT,aJ];with_reducible rfl
 case hm=>kernel_rfl
 case hB=>kernel_rfl
 case hA=>kernel_rfl
 case hap=>kernel_rfl
 case Ci=>
  intro i j W W' af hf hP V hi;by_cases U:j=15;·subst U;rcases hi with hi |rfl;(·exact absurd hf (ug (List.all_eq_true.1 (show(eY 12).all (λi=>Dx _ i 15)=true by kernel_rfl) i (by simp;omega))));·exact absurd rfl af
  ·exact(hP hi).below (V.2 U)
 apply fM.is;·(intro u w' M J d;simp[fO,aC,gI,Is]at d;refine fC ?_ ?_;(·first|rfl);intro K H;have p:=J (.inl (by decide));have ae:=p.b2.cell;go_wp2_with(fail);refine H _ _ ?_ rfl;first|exact tV _ _ _ _)
 refine fM.is (c:=.agg m.cells) ?_ ?_;·intro u w' M J d;have p:=J (.inl (by decide));refine fC (by first |rfl) ?_;intro K H;exact wp_load_row 27 _ rfl gt rfl 27 _ (0,0) _ p.b0 dB rfl (by kernel_rfl) (H _ _ (tV _ _ _ _) rfl)
 iterate 3(first|(apply fM.is;·(intro u w' M J d;simp[fO,aC,gI,Is]at d;refine fC ?_ ?_;(·first|rfl);intro K H;have p:=J (.inl (by decide));have ae:=p.b2.cell;go_wp2_with(fail);refine H _ _ ?_ rfl;first|exact tV _ _ _ _))|(apply fM.is;·(intro u w' M J d;simp[fO,aC,gI,Is]at d;refine fC ?_ ?_;(·first|rfl);intro K H;go_wp2_with(fail);(try simp only[d]at H);refine H _ _ ?_ rfl;first|exact tV _ _ _ _)))
 refine fM.is (c:=.agg (jf x xn)) ?_ ?_;·intro u w' M J d;simp[fO,aC,gI,Is]at d;have p:=J (.inl (by decide));refine fC (by first |rfl) ?_;intro K H;exact wp_load_mid 44 _ rfl gc 4 (by rw[<-d];rfl) (jf x xn).toList _ (akO p.b1) bg rfl (iF x xn) (H _ _ (tV _ _ _ _) rfl)
 apply fM.is;·(intro u w' M J d;simp[fO,aC,gI,Is]at d;refine fC ?_ ?_;(·first|rfl);intro K H;go_wp2_with(fail);refine H _ _ ?_ rfl;first|exact tV _ _ _ _)
 apply fM.is;·(intro u w' M J d;simp[fO,aC,gI,Is]at d;refine fC ?_ ?_;(·first|rfl);intro K H;have p:=J (.inl (by decide));have al:=p.b4.cell;go_wp2_with(fail);(try simp only[d]at H);refine H _ _ ?_ rfl;first|exact tV _ _ _ _)
 iterate 7(first|(apply fM.is;·(intro u w' M J d;simp[fO,aC,gI,Is]at d;refine fC ?_ ?_;(·first|rfl);intro K H;have p:=J (.inl (by decide));go_wp2_with((first|((with_reducible refine(ag _ p).mono ?_);rintro e w3⟨rfl,ad⟩)));(try simp only[d]at H);refine H _ _ ?_ rfl;first|exact aeD ad))|(apply fM.is;·(intro u w' M J d;simp[fO,aC,gI,Is]at d;refine fC ?_ ?_;(·first|rfl);intro K H;have p:=J (.inl (by decide));have ak:=p.b3.cell;go_wp2_with(fail);refine H _ _ ?_ rfl;first|exact tV _ _ _ _))|(apply fM.is;·(intro u w' M J d;simp[fO,aC,gI,Is]at d;refine fC ?_ ?_;(·first|rfl);intro K H;go_wp2_with(fail);(try simp only[d]at H);refine H _ _ ?_ rfl;first|exact tV _ _ _ _)))
 refine fM.one (λ_ w=>fK w gc 87 (BA m mr xn now)) ?_ ?_
 ·intro u w' M J d;simp[fO,aC,gI,Is]at d;have p:=J (.inr rfl);refine fC (by first |rfl) ?_;intro K H;obtain⟨ac,aa,_⟩:=d;obtain⟨s1,s2,s3,s4,s5⟩:=jX gc (jf mr xn).toList 4 w';refine wp_store_mid 44 _ _ rfl gc 4 (jf mr xn) (by rw[<-ac];rfl) (by rw[<-aa];rfl) ?_ (iF mr xn) (lM mr xn) (H _ _ ⟨⟨s3,s4,s5,bZ s1.symm,λk _ ai=>s2 k (λe=>ai (by rw[e]))⟩,λh=>absurd rfl h⟩ ?_);·intro j U;rw[lg]at U;rw[p.b1.cell,p.b1.frozen];exact⟨by rw[cO (by rw[OB];omega)];rfl,rfl⟩
  ·have:=fK.yE (jf mr xn).toList 4 _ w' p.b1;rwa [aaR]at this
 refine fM.last (qm ?_) ?_
 ·simp only[gQ];repeat(refine⟨?_,?_⟩;·first|exact mQ _|exact UW)
  exact trivial
 intro u w1 M J d;simp only[gQ]at d;refine⟨by first |rfl |simp[aF,yielded],?_⟩;intro K H;have Y:=d 12 _ rfl;have Z:=d 15 _ rfl;simp only[gI,Is]at Y Z;simp only[Y];go_wp2_with fail;go_ret;exact⟨rfl,Z,aru (tN N _) M⟩
def arE (t:TypeId) (w w':World):Prop:=w'=w\/ ∃g cs new,fK w g t cs/\fK w' g t new/\new.size=cs.size/\w'.heap.size=w.heap.size/\ ∀k,k≠g->w'.heap[k]? =w.heap[k]?
def sD (B s1:Nat) (t1:TypeId) (s2:Nat) (t2:TypeId) (i:Nat) (w w':World):Prop:=Below B w w'/\(i≠s1->i≠s2->w w')/\(i=s1->arE t1 w w')/\(i=s2->arE t2 w w')
theorem fZ(B s1:Nat)(d:TypeId)(s2:Nat)(H:TypeId)(i:Nat)(w:World):sD B s1 d s2 H i w w:=⟨aH _ _,λ_ _=>aH _ _,λ_=> .inl rfl,λ_=> .inl rfl⟩
theorem iL{J:TypeId}{M:TypeId}(hB:B<=w.heap.size)(h:w w')(d:i≠s1)(H:i≠s2):sD B s1 J s2 M i w w':=⟨h.mono hB,λ_ _=>h,λe=>absurd e d,λe=>absurd e H⟩
theorem pV.turned{n:Nat}{t Z:TypeId}{v:Value}(h:pV B t n v w)(Y:arE Z w w'):pV B t n v w':=by
 obtain⟨g,cs,e,J,H,N⟩:=h;rcases Y with rfl |⟨O,cs',new,d,U,h5,h6,V⟩;·exact⟨g,cs,e,J,H,N⟩
 ·by_cases M:g=O;·subst M;unfold fK at d H;rw[H]at d;simp at d;obtain⟨rfl,rfl⟩:=d;exact⟨g,new,e,J,U,by omega⟩
  ·exact⟨g,cs,e,J,(V g M).trans H,N⟩
theorem pV.ang{n:Nat}{U V t:TypeId}{v:Value}(h:pV B t n v w)(d:sD B s1 U s2 V i w w'):pV B t n v w':=by
 by_cases H:i=s1;·exact h.turned (d.2.2.1 H)
 ·by_cases J:i=s2;·exact h.turned (d.2.2.2 J)
  ·obtain⟨g,cs,e,N,M,O⟩:=h;exact⟨g,cs,e,N,M.below (d.2.1 H J) M.lt,O⟩
theorem fK.turned{t d:TypeId}(h:fK w g t cs)(N:arE d w w')(M:t≠d):fK w' g t cs:=by
 rcases N with rfl |⟨O,cs',new,H,U,V,Y,J⟩;·exact h
 ·exact(J g (zn h H M)).trans h
theorem qP{n:Nat}{J M t:TypeId}:mF ops (sD B s1 J s2 M) j (gI j (pV B t n)):=λ_ d _ _ _ _ _ h H=>jy d h λ_ h=>pV.ang h H
theorem xu{H N:TypeId}(U:Dx ops b s1=true)(O:H≠N):mF ops (sD B s1 H s2 N) s1 (CU B b H cs):=by
 intro i Z V u v w w' h M;obtain⟨g,e,Y,d⟩:=h;have aa:i≠b:=λe=>ug U (e▸V);refine⟨g,by rw[jH u v (λe=>aa e.symm)];exact e,Y,?_⟩;by_cases J:i=s2;·exact d.turned (M.2.2.2 J) O
 ·exact d.below (M.2.1 Z J) d.lt
set_option maxRecDepth 8000
def arM (p:gG) (n:BitVec 32):gG:=⟨p.side,p.fG,p.base,1,n,0,adV,p.half,p.a2,p.b2⟩
theorem aaT(p:gG)(n:BitVec 32):arh ((((gB p).setIfInBounds 6 (1:Int)).setIfInBounds 7 (q32 n)).setIfInBounds 8 (.int .u32 0)) 9 [.int .u32 0,.int .u32 0,.int .u32 0,.int .u32 0]=gB (arM p n):=by kernel_rfl
theorem aaU(p:gG)(n:BitVec 32)(w:World)(hs:p.side=0)(hu:lS p=true):Calls aj 57 #[.agg (gB p),q32 n] w (yj w (arM p n) ⟨1,0,p.fG,n,0,[],0⟩ 0):=by
 have Z:=λW=>yc p W;have hn:=λW=>Qx p W;obtain⟨al,ap⟩:=zk p hs;rw[hu]at hn;rw[al]at Z;have H:Own w _ [_,_,_]:=Own.start3 w 34 34 136 (gB p) gd gi;go_enter func57,ntmps57;go_wp2_with(first|((with_reducible refine gK H ?_ _ rfl rfl _ bD rfl (iD p) ?_);(·first|rfl))|((with_reducible first|refine(Z _).mono ?_|refine(hn _).mono ?_);rintro fU fJ⟨rfl,iG⟩;replace H:=H.grow iG)|(with_reducible refine jq 6 (.int .i64 1) H rfl _ _ _ rfl rfl rfl (by kernel_rfl) (by simp[gB]) rfl ?_;intro aq N aa ak;replace H:=N;clear N aa ak)|(with_reducible refine jq 7 (q32 n) H rfl _ _ _ rfl rfl rfl (by kernel_rfl) (by simp[gB]) rfl ?_;intro ar O am ac;replace H:=O;clear O am ac)|(with_reducible refine jq 8 (.int .u32 0) H rfl _ _ _ rfl rfl rfl (by kernel_rfl) (by simp[gB]) rfl ?_;intro au U af ag;replace H:=U;clear U af ag)|(with_reducible refine ni 9 (#[.int .u32 0,.int .u32 0,.int .u32 0,.int .u32 0]) H rfl _ _ _ rfl rfl rfl (by kernel_rfl) (by simp[gB]) (by simp[aK,q32]) ?_;intro av V ad ae;replace H:=V;clear V ad ae));rw[aaT]at H;apply jJ [(w.heap.size+1,none),(w.heap.size+1+1,none)];case lX=>intro u;simp only[bV,aq9,aP,ay,aA,aB,aT,aJ];rfl
 case hm=>kernel_rfl
 case hB=>kernel_rfl
 case hap=>kernel_rfl
 refine jI.is (c:=.agg (gB (arM p n))) ?_ ?_;·(intro u w' M d;have ai:=M.blk H.b0 (by intro o h;simp at h;try omega);refine fC (by first |rfl) ?_;intro K J;exact wp_load_row 34 _ rfl _ rfl 34 _ (0,0) _ ai bD rfl (by kernel_rfl) (J _ _ (Stp.refl _ _) rfl))
 iterate 4(first|(apply jI.is;·(intro u w' M d;simp[fH,aC,Is]at d;refine fC (by first |rfl) ?_;intro K J;have an:=((M.blk H.b0 (by intro o h;simp at h;try omega)).cell 1).trans (XC (arM p n));go_wp2_with(fail);(try simp only[d]at J);refine J _ _ ?_ rfl;first|exact Stp.refl _ _))|(apply jI.is;·(intro u w' M d;simp[fH,aC,Is]at d;refine fC (by first |rfl) ?_;intro K J;skip;go_wp2_with(fail);(try simp only[d]at J);refine J _ _ ?_ rfl;first|exact Stp.refl _ _)))
 refine jI.row (w.heap.size+1) 34 _ (gB (arM p n)) (by simp) H.b1 (by rfl) 34 _ _ rfl (by kernel_rfl) (kK (arM p n)) ?_ ?_;·(intro u w' M d;simp[fH,aC,Is]at d;exact⟨by first |rfl |simp[aF,yielded,d],rfl,by simp[Act.eval,d]⟩)
 refine jI.row (w.heap.size+1+1) 136 _ (#[.int .i64 1,.int .i64 0,.int .i64 (arM p n).fG,q32 n,.int .u32 0,.slice none 0 0,.int .u64 0]) (by simp) H.b2 (by rfl) 136 _ _ rfl (by kernel_rfl) (by simp[aK,q32,q64]) ?_ ?_;·(intro u w' M d;simp[fH,aC,Is]at d;exact⟨by first |rfl |simp[aF,yielded,d],rfl,by simp[Act.eval,d]⟩)
 apply jI.is;·(intro u w' M d;simp[fH,aC,Is]at d;refine fC (by first |rfl |simp[aF,yielded,d]) ?_;intro K J;skip;go_wp2_with(fail);(try simp only[d]at J);refine J _ _ ?_ rfl;first|exact Stp.refl _ _|exact Stp.of_below hb3 _)
 refine jI.nil (by simp[W2.fit,qy]) ?_;intro u w7 M d;simp only[gQ]at d;have h5:fK w7 (w.heap.size+1) 34 (gB (arM p n)):=d 5 _ rfl;have h6:fK w7 (w.heap.size+1+1) 136 #[.int .i64 1,.int .i64 0,.int .i64 (arM p n).fG,q32 n,.int .u32 0,.slice none 0 0,.int .u64 0]:=d 6 _ rfl;have Y:=d 7 _ rfl;simp only[Is]at Y;go_wp2_with fail;exact bodyPost_ret (lY results57 _ _ _ _ _ _ _ _ _ rfl rfl Y h5 h6 bD rfl (iD _) bF rfl (by kernel_rfl)) rfl ⟨none,0,rfl,aq2.nil _,H.below.trans (M.below H.below.size (by intro k o h;simp at h;omega))⟩
theorem aeF(p:gG)(n:BitVec 32)(w:World)(h: ¬(p.side=0/\lS p=true)):Calls aj 57 #[gB p,q32 n] w (yj w gG.none_ P7.none_ 1):=by
 have M:=λW=>yc p W;have hn:=λW=>Qx p W;by_cases Y:p.side=0
 ·obtain⟨Z,aa⟩:=zk p Y;have hu:lS p=false:=by cases hq:lS p;(·rfl);·exact absurd ⟨Y,hq⟩ h
  rw[hu]at hn;rw[Z]at M;have d:Own w _ [_,_,_]:=Own.start3 w 34 34 136 (gB p) gd gi;go_enter func57,ntmps57;go_wp2_with(first|((with_reducible refine gK d ?_ _ rfl rfl _ bD rfl (iD p) ?_);(·first|rfl))|((with_reducible first|refine(M _).mono ?_|refine(hn _).mono ?_);rintro fU fJ⟨rfl,iG⟩;replace d:=d.grow iG)|(with_reducible refine kY gd d rfl _ _ rfl rfl rfl (by kernel_rfl) (by kernel_rfl) (by simp[aK,q64]) ?_;intro ac J N O;replace d:=J;clear J N O)|(with_reducible refine jv gi d rfl _ _ rfl rfl rfl (by kernel_rfl) (by kernel_rfl) (by simp[aK,q64]) ?_;intro ad H U V;replace d:=H;clear H U V));exact bodyPost_ret (lY results57 _ _ _ _ _ _ _ _ _ rfl rfl rfl d.b1 d.b2 bD rfl (by kernel_rfl) bF rfl (by kernel_rfl)) rfl (yt _ _ _ d.below)
 focus(obtain⟨Z,aa⟩:=Y0 p Y;generalize lS p=nb at*;rw[Z]at M;rcases nb with _ |_;skip;rotate_left;skip)
 all_goals(have d:Own w _ [_,_,_]:=Own.start3 w 34 34 136 (gB p) gd gi;go_enter func57,ntmps57;go_wp2_with(first|((with_reducible refine gK d ?_ _ rfl rfl _ bD rfl (iD p) ?_);(·first|rfl))|((with_reducible refine(M _).mono ?_);rintro fU fJ⟨rfl,iG⟩;replace d:=d.grow iG)|(with_reducible refine kY gd d rfl _ _ rfl rfl rfl (by kernel_rfl) (by kernel_rfl) (by simp[aK,q64]) ?_;intro ac J N O;replace d:=J;clear J N O)|(with_reducible refine jv gi d rfl _ _ rfl rfl rfl (by kernel_rfl) (by kernel_rfl) (by simp[aK,q64]) ?_;intro ad H U V;replace d:=H;clear H U V));exact bodyPost_ret (lY results57 _ _ _ _ _ _ _ _ _ rfl rfl rfl d.b1 d.b2 bD rfl (by kernel_rfl) bF rfl (by kernel_rfl)) rfl (yt _ _ _ d.below))
theorem aha(p:gG)(n:BitVec 32)(w:World):Calls aj 57 #[gB p,q32 n] w (yj w (adW p n) (aav p n) (MP p)):=by
 by_cases h:p.side=0/\lS p=true
 ·have e:MP p=0:=by unfold MP;rw[if_pos h]
  unfold adW aav;rw[e,if_pos rfl,if_pos rfl];exact aaU p n w h.1 h.2
 ·have e:MP p=1:=by unfold MP;rw[if_neg h]
  unfold adW aav;rw[e,if_neg (by decide),if_neg (by decide)];exact aeF p n w h
@[go_sem] theorem aiz (t:TypeId) (a:BitVec 32):binOp .add t (q32 a) (.int .u32 1)=pure (q32 (a+1)):=by
 have e:(Value.int .u32 1)=q32 1:=by simp[q32]
 rw[e];exact afk t a 1
theorem OD(h:aq2 w A c [])(w':World):aq2 w' A c []:=⟨λd=>absurd d (by decide),h.cap,h.max⟩
def ahb (P:gG) (Q:P7) (nq:Nat) (er:Int):Value->World->Prop:=JA fun v=> ∃A c,v=.tuple #[.agg (gB P),.agg (jT Q A nq c),.int .i64 er]/\ ∀w,aq2 w A c []
def anj (_:gG) (Q:P7) (nq:Nat) (_:Int):Value->World->Prop:=JA fun v=> ∃A c,v=.agg (jT Q A nq c)/\ ∀w,aq2 w A c []
def aeG (B j:Nat) (Q:P7) (nq:Nat):(Nat->Value)->World->Prop:=fun u w=> ∃g A c,u j=.pointer (some ⟨g,0,none⟩)/\B<=g/\fK w g 136 (jT Q A nq c)/\ ∀w,aq2 w A c []
theorem yw(P:gG):(gB P).size=16:=rfl
theorem QM(Q:P7)(A:Option Addr)(n c:Nat):(jT Q A n c).size=7:=rfl
theorem arq(w:World)(g:Nat)(cs:Array Value):(w.setRow g cs).heap.size=w.heap.size:=by simp[World.setRow]
theorem zo{H J:TypeId}(M:Value->Prop):mF ops (sD B s1 H s2 J) j (gI j (JA M)):=λ_ d _ _ _ _ _ h _=>jy d h λ_ h=>h
theorem xw{nq:Nat}{Q:P7}(M:Dx ops b s2=true):mF ops (sD B s1 34 s2 136) s2 (aeG B b Q nq):=by
 intro i U N u v w w' h J;obtain⟨g,A,c,e,O,d,Y⟩:=h;have V:i≠b:=λe=>ug M (e▸N);refine⟨g,A,c,by rw[jH u v (λe=>V e.symm)];exact e,O,?_,Y⟩;by_cases H:i=s1;·exact d.turned (J.2.2.1 H) (by decide)
 ·exact d.below (J.2.1 H U) d.lt
theorem apC{s:Cs}{P:gG}:(((s.ou P).su false).cells tm now)[31]? =some (q32 s.m.nx):=rfl
theorem ahc{s:Cs}(h:iJ w0 Bq g tm now s W)(y0 y1:Int)(A:Option Addr)(n c:Nat)(aM:s.out.length<=90):Calls aj 24 #[.pointer (some ⟨g,0,none⟩),.agg #[y0,y1,.slice A n c]] W (iK w0 Bq g tm now s W (QI s.plain)):=by
 obtain⟨er,an⟩:=fD (MP s.plain.peer);obtain⟨P,hP⟩:=fD (adW s.plain.peer s.m.nx);obtain⟨Q,hQ⟩:=fD (aav s.plain.peer s.m.nx);have hF:Hid (QI s.plain=if er≠0 then(s.plain,er) else(nM (((s.plain.ou P).su false).Uz (s.m.nx+1)) Q,0)):=ah (by rw[an,hP,hQ];rfl);have al:Hid (Q.body= []):=ah (by rw[hQ];unfold aav;split <;> rfl);have aa:=λW=>aha s.plain.peer s.m.nx W;unfold yj at aa;rw[<-an,<-hP,<-hQ]at aa;rw[al.out]at aa;obtain⟨nq,ap⟩:=fD (([]:List UInt8).length);rw[<-ap]at aa;have ar:=ah ap;have hO:Own W _ [_]:=Own.jD W 48 #[y0,y1,.slice A n c];obtain⟨U,ai⟩:=fD (W.alloc (.cells #[y0,y1,.slice A n c] 48));have h1:iJ w0 Bq g tm now s U:=by rw[ai];exact h.grow hO.below
 have ak:W U:=by rw[ai];exact hO.below
 have H1:=ah h1;have aw:(s.cells tm now)[31]? =some (q32 s.m.nx):=rfl;obtain⟨R,hR⟩:=fD (QI s.plain);rw[<-hR];rw[<-hR]at hF;clear an hP hQ ap hR hO h1;go_enter func24,ntmps24;go_upto_region 1 with fail;rw[<-ai];clear ai;apply gu (Below U) (λW=>aq3 gY 1) (λ_ _ _ h1 h2=>h1.trans h2) (sD U 17 34 18 136) (λ_ _ _ h=>h.1) (λ_ _=>fZ _ _ _ _ _ _ _) (λ_ _=>True) (λ_=>trivial) (λ_ _ _ _ _ _ _=>trivial);case lX=>intro u;simp only[bV,aq9,aP,ay,aA,aB,aT,aJ];with_reducible rfl
 case hm=>kernel_rfl
 case hB=>kernel_rfl
 case hA=>kernel_rfl
 case hap=>kernel_rfl
 iterate 4(first|(apply fM.is;·(intro u w' J M d;simp[fO,aC,gI,Is]at d;refine fC ?_ ?_;(·first|rfl);intro K H;skip;go_wp2_with(fail);(try simp only[d]at H);refine H _ _ ?_ rfl;first|exact fZ _ _ _ _ _ _ _))|(apply fM.is;·(intro u w' J M d;simp[fO,aC,gI,Is]at d;refine fC ?_ ?_;(·first|rfl);intro K H;skip;go_wp2_with(fail);refine H _ _ ?_ rfl;first|exact fZ _ _ _ _ _ _ _)))
 refine fM.is (c:=.agg (gB s.plain.peer)) ?_ ?_;·(intro u w' J M d;simp[fO,aC,gI,Is]at d;refine fC (by first |rfl) ?_;intro K H;have N:=(H1.out.grow J).own;exact wC N 15 _ (pG _ _ _) _ _ rfl (by rw[<-d];rfl) _ bD rfl (iD _) (H _ _ (fZ _ _ _ _ _ _ _) rfl))
 iterate 4(first|(apply fM.is;·(intro u w' J M d;simp[fO,aC,gI,Is]at d;refine fC ?_ ?_;(·first|rfl);intro K H;skip;go_wp2_with(fail);(try simp only[d]at H);refine H _ _ ?_ rfl;first|exact fZ _ _ _ _ _ _ _))|(apply fM.is;·(intro u w' J M d;simp[fO,aC,gI,Is]at d;refine fC ?_ ?_;(·first|rfl);intro K H;skip;go_wp2_with(fail);refine H _ _ ?_ rfl;first|exact fZ _ _ _ _ _ _ _)))
 apply fM.is;·(intro u w' J M d;simp[fO,aC,gI,Is]at d;refine fC ?_ ?_;(·first|rfl);intro K H;have aE:=(H1.out.grow J).blk.cell 31;rw[aw]at aE;go_wp2_with(fail);(try simp only[d]at H);refine H _ _ ?_ rfl;first|exact fZ _ _ _ _ _ _ _)
 refine fM.one (ahb P Q nq er) ?_ ?_;·(intro u w' J M d;simp only[gQ]at d;have q1:=d ⟨4,.data⟩ (by simp) rfl _ rfl;have q2:=d ⟨9,.data⟩ (by simp) rfl _ rfl;simp only[gI,Is]at q1 q2;clear d;refine fC (by first |rfl) ?_;intro K H;skip;go_wp2_with(((with_reducible refine(aa _).mono ?_);rintro e w3⟨A1,c1,rfl,ax,aD⟩));(try simp only[q1,q2]at H);exact H _ _ (iL J.size aD (by decide) (by decide)) ⟨A1,c1,rfl,OD ax⟩)
 refine fM.one (ahb P Q nq er) ?_ ?_;·(intro u w' J M d;simp only[gQ]at d;have q1:=d ⟨10,.data⟩ (by simp) rfl _ rfl;obtain⟨A1,c1,q1,Z⟩: ∃A1 c1,u 10=.tuple #[.agg (gB P),.agg (jT Q A1 nq c1),er]/\ ∀w,aq2 w A1 c1 []:=q1;clear d;refine fC (by first |rfl) ?_;intro K H;go_wp2_with fail;(try simp only[q1]at H);exact H _ _ (fZ _ _ _ _ _ _ _) ⟨A1,c1,rfl,Z⟩)
 refine fM.is (c:=.agg (gB P)) ?_ ?_;·(intro u w' J M d;simp only[gQ]at d;have q1:=d ⟨11,.data⟩ (by simp) rfl _ rfl;obtain⟨A1,c1,q1,Z⟩: ∃A1 c1,u 11=.tuple #[.agg (gB P),.agg (jT Q A1 nq c1),er]/\ ∀w,aq2 w A1 c1 []:=q1;clear d;refine fC (by first |rfl) ?_;intro K H;go_wp2_with fail;(try simp only[q1]at H);exact H _ _ (fZ _ _ _ _ _ _ _) rfl)
 refine fM.one (anj P Q nq er) ?_ ?_;·(intro u w' J M d;simp only[gQ]at d;have q1:=d ⟨11,.data⟩ (by simp) rfl _ rfl;obtain⟨A1,c1,q1,Z⟩: ∃A1 c1,u 11=.tuple #[.agg (gB P),.agg (jT Q A1 nq c1),er]/\ ∀w,aq2 w A1 c1 []:=q1;clear d;refine fC (by first |rfl) ?_;intro K H;go_wp2_with fail;(try simp only[q1]at H);exact H _ _ (fZ _ _ _ _ _ _ _) ⟨A1,c1,rfl,Z⟩)
 refine fM.is (c:=er) ?_ ?_;·(intro u w' J M d;simp only[gQ]at d;have q1:=d ⟨11,.data⟩ (by simp) rfl _ rfl;obtain⟨A1,c1,q1,Z⟩: ∃A1 c1,u 11=.tuple #[.agg (gB P),.agg (jT Q A1 nq c1),er]/\ ∀w,aq2 w A1 c1 []:=q1;clear d;refine fC (by first |rfl) ?_;intro K H;go_wp2_with fail;(try simp only[q1]at H);exact H _ _ (fZ _ _ _ _ _ _ _) rfl)
 refine fM.one (pV U 34 16) ?_ ?_;·(intro u w' J M d;clear d;refine fC (by first |rfl) ?_;intro K H;go_wp2_with fail;exact H _ _ (iL J.size jm (by decide) (by decide)) ⟨w',_,rfl,J.size,fK.new _ _ _,rfl⟩)
 refine fM.one (pV U 136 7) ?_ ?_;·(intro u w' J M d;clear d;refine fC (by first |rfl) ?_;intro K H;go_wp2_with fail;exact H _ _ (iL J.size jm (by decide) (by decide)) ⟨w',_,rfl,J.size,fK.new _ _ _,rfl⟩)
 refine fM.word (CU U 15 34 (gB P)) ?_ ?_;·(intro u w' J M d;simp only[gQ]at d;have q1:=d ⟨15,.data⟩ (by simp) rfl _ rfl;have q2:=d ⟨12,.data⟩ (by simp) rfl _ rfl;simp only[gI,Is]at q2;obtain⟨g5,cs,af,hg,V,ag⟩:pV U 34 16 (u 15) w':=q1;clear d;refine jF (by first |rfl) ?_;intro K H;have jL: ∀k,k≠g5->(w'.setRow g5 (gB P)).heap[k]? =w'.heap[k]? :=λk J=>setRow_other w' g5 k _ J;exact wp_store_row 34 _ _ rfl g5 (gB P) (by rw[<-af];rfl) (by rw[<-q2];rfl) 34 cs V (iD P) (ag.trans (yw P).symm) (kK P) (H undef _ ⟨jk gY hg _,λh _=>absurd rfl h,λ_=> .inr ⟨g5,cs,gB P,V,V.row _,(yw P).trans ag.symm,arq _ _ _,jL⟩,λe=>absurd e (by decide)⟩ ⟨g5,by rw[jH u undef (by decide)];exact af,hg,V.row _⟩))
 refine fM.word (aeG U 16 Q nq) ?_ ?_;·(intro u w' J M d;simp only[gQ]at d;have q1:=d ⟨16,.data⟩ (by simp) rfl _ rfl;have q2:=d ⟨13,.data⟩ (by simp) rfl _ rfl;obtain⟨A1,c1,q2,Z⟩: ∃A1 c1,u 13=.agg (jT Q A1 nq c1)/\ ∀w,aq2 w A1 c1 []:=q2;obtain⟨g6,cs,af,hg,V,ag⟩:pV U 136 7 (u 16) w':=q1;clear d;refine jF (by first |rfl) ?_;intro K H;have jL: ∀k,k≠g6->(w'.setRow g6 (jT Q A1 nq c1)).heap[k]? =w'.heap[k]? :=λk J=>setRow_other w' g6 k _ J;exact wp_store_row 136 _ _ rfl g6 (jT Q A1 nq c1) (by rw[<-af];rfl) (by rw[<-q2];rfl) 136 cs V (kS _ _ _ _) (ag.trans (QM _ _ _ _).symm) (qM _ _ _ _) (H undef _ ⟨jk gY hg _,λ_ h=>absurd rfl h,λe=>absurd e (by decide),λ_=> .inr ⟨g6,cs,jT Q A1 nq c1,V,V.row _,(QM _ _ _ _).trans ag.symm,arq _ _ _,jL⟩⟩ ⟨g6,A1,c1,by rw[jH u undef (by decide)];exact af,hg,V.row _,Z⟩))
 refine fM.last (qm ?_) ?_
 ·simp only[gQ];repeat(refine⟨?_,?_⟩;·first|exact mQ _|exact zo _|exact qP|exact xu (by kernel_rfl) (by decide)|exact xw (by kernel_rfl))
  exact trivial
 intro u w1 J _ d;simp only[gQ]at d;obtain⟨g5,e5,aL,xQ⟩:=d 17 _ rfl;obtain⟨g6,A1,c1,e6,Gz,Xz,Z⟩:=d 18 _ rfl;have am:=d 14 _ rfl;simp only[gI,Is]at am;clear d;refine⟨by first |rfl |simp[aF,yielded],?_⟩;intro K H;simp only[e5,e6,am];clear e5 e6 am;have hW:W w1:=ak.trans (J.mono ak.size);have O:=h.grow hW;have aR:=h.beside xQ (aG ak.size aL);have ad:=h.beside Xz (aG ak.size Gz);by_cases h0:er=0
 ·have e0:(er != 0)=false:=by simpa using h0
  have Dp:Hid (R=(nM (((s.plain.ou P).su false).Uz (s.m.nx+1)) Q,0)):=ah (by rw[hF.out];exact if_neg (λq=>q h0));have ac:iw g s s W w1:=iw.of_below hW;have N:=O.own;have av:=aR.blk;have aq:Hid (nq=Q.body.length):=ah (by rw[al.out];exact ar.out);have az:Hid (Q.body.length<=2000):=ah (by rw[al.out];exact aV _);have a1:Hid (∀w,aq2 w A1 c1 Q.body):=ah (by rw[al.out];exact Z);clear h0 hF aa xQ Xz;go_wp2_with(first|(with_reducible refine gy rfl 34 _ rfl g5 rfl 34 _ _ av bD rfl (iD _) ?_)|(with_reducible refine gy rfl 136 _ rfl g6 rfl 136 _ _ au bF rfl (kS _ _ _ _) ?_)|(with_reducible refine ni 15 (gB (P)) N rfl _ _ _ rfl rfl rfl (iD _) (Cb _ _ _ _) (kK _) ?_;intro wR kN rW ae;rw[Jg]at kN;obtain⟨Y,vH⟩:=O.Ea kN rW ae ⟨rfl,rfl,rfl,rfl,rfl,rfl,rfl,rfl,rfl⟩;replace ad:=ad.turn vH;replace ac:=iw.trans ac vH;clear N;replace O:=Y;clear Y;have N:=O.own)|(with_reducible refine jq 37 false N rfl _ _ _ rfl rfl rfl (by kernel_rfl) (fA (by decide:37<54) (tK _ _ _).symm) rfl ?_;intro wR kN rW ae;rw[UC]at kN;obtain⟨Y,vH⟩:=O.Ea kN rW ae ⟨rfl,rfl,rfl,rfl,rfl,rfl,rfl,rfl,rfl⟩;replace ad:=ad.turn vH;have a4:=(Y.blk.cell 31).trans apC;replace ac:=iw.trans ac vH;clear N;replace O:=Y;clear Y;have N:=O.own)|(with_reducible refine jq 31 (q32 (s.m.nx+1)) N rfl _ _ _ rfl rfl rfl (by kernel_rfl) (fA (by decide:31<54) (tK _ _ _).symm) rfl ?_;intro wR kN rW ae;rw[amU]at kN;obtain⟨Y,vH⟩:=O.Ea kN rW ae ⟨rfl,rfl,rfl,rfl,rfl,rfl,rfl,rfl,rfl⟩;replace ad:=ad.turn vH;have au:=ad.blk;replace ac:=iw.trans ac vH;clear N;replace O:=Y;clear Y;have N:=O.own)|((with_reducible refine(QE O Q A1 nq c1 aq.out (a1.out _) az.out (aG aM (by decide))).mono ?_);rintro e wS⟨rfl,hP⟩));go_ret;rw[Dp.out];exact⟨rfl,pY.trans ac hP⟩
 ·have e0:(er != 0)=true:=by simpa using h0
  have Dp:R=(s.plain,er):=by rw[hF.out];exact if_pos h0
  clear h0 hF aa;go_wp2_with fail;go_ret;rw[Dp];exact iK.same h hW rfl
theorem UY(m:Ma)(v:DF):(nO m v).size=5:=rfl
theorem lU(m:Ma)(v:DF):(aj.info? 42).map (·.size)=some (nO m v).size:=by rw[UY];kernel_rfl
theorem BF(m:Ma)(v:DF):(nO m v).all (·.oneCell')=true:=by simp[nO,aK]
def rdM (R:Except Int Ma):Ma:=match R with
 | .error _=>⟨0,false,[],[],0⟩
 | .ok m=>m
def rdE (R:Except Int Ma):Int:=match R with
 | .error er=>er
 | .ok _=>0
def lD (C:Prop) (w:World) (B:Nat) (m:Ma) (v:DF):Prop:=oV w B m v/\C
theorem aed.one{R:Except Int Ma}{e:Ending}(h:aed w R e w'):w w'/\ ∃v,e=.returned (.tuple #[nO (rdM R) v,(rdE R:Int)])/\lD (rdE R=0->R=.ok (rdM R)) w' w (rdM R) v:=by obtain⟨H,d⟩:=h;cases R with|error er=>exact⟨H,⟨none,0,0,none,0,0⟩,d.1,⟨aq1.nil _ _,aq1.nil _ _,rfl,rfl,aV _,aV _⟩,λq=>absurd q d.2⟩|ok m=>obtain⟨v,e1,e2⟩:=d;exact⟨H,v,e1,e2,λ_=>rfl⟩
theorem aq1.turned{α:Type}{E:arb α}{t d:TypeId}{xs:List α}(h:aq1 E t w b A c xs)(O:arE d w w')(N:t≠d):aq1 E t w' b A c xs:=by
 refine⟨h.1,?_⟩;rcases h.2 with U |⟨k,cap,cur,e,H,J,M⟩;·grind
 ·exact .inr ⟨k,cap,cur,e,H,fK.turned J O N,M⟩
theorem oV.turned(h:oV w B m v)(d:arE 42 w w'):oV w' B m v:={h with path:=h.path.turned d (by decide),fP:=h.fP.turned d (by decide)}
theorem oV.below(h:oV w B m v)(d:w w'):oV w' B m v:={h with path:=h.path.below d,fP:=h.fP.below d}
def aeH (C:Prop) (B:Nat) (n:Ma) (er:Int):Value->World->Prop:=fun v w=> ∃vm,v=.tuple #[.agg (nO n vm),.int .i64 er]/\lD C w B n vm
def ahd (C:Prop) (B:Nat) (n:Ma):Value->World->Prop:=fun v w=> ∃vm,v=.agg (nO n vm)/\lD C w B n vm
def aeI (C:Prop) (B j:Nat) (n:Ma):(Nat->Value)->World->Prop:=fun u w=> ∃g vm,u j=.pointer (some ⟨g,0,none⟩)/\B<=g/\fK w g 42 (nO n vm)/\lD C w B n vm
theorem oV.ways(h:oV w B m v)(d:sD B0 s 42 s 42 i w w'):oV w' B m v:=by
 by_cases hi:i=s;·exact h.turned (d.2.2.1 hi)
 ·exact h.below (d.2.1 hi hi)
theorem lD.base{d:Nat}(h:lD C w B m v)(H:d<=B):lD C w d m v:=⟨h.1.base H,h.2⟩
theorem lD.turned(h:lD C w B m v)(d:arE 42 w w'):lD C w' B m v:=⟨h.1.turned d,h.2⟩
theorem lD.below(h:lD C w B m v)(d:w w'):lD C w' B m v:=⟨h.1.below d,h.2⟩
theorem lD.ways(h:lD C w B m v)(d:sD B0 s 42 s 42 i w w'):lD C w' B m v:=⟨h.1.ways d,h.2⟩
theorem BG{er:Int}:mF ops (sD B0 s 42 s 42) j (gI j (aeH C B n er)):=λ_ d _ _ _ _ _ h H=>jy d h λ_ ⟨J,e,h⟩=>⟨J,e,h.ways H⟩
theorem BH:mF ops (sD B0 s 42 s 42) j (gI j (ahd C B n)):=λ_ d _ _ _ _ _ h H=>jy d h λ_ ⟨J,e,h⟩=>⟨J,e,h.ways H⟩
theorem zq(M:Dx ops b s=true):mF ops (sD B0 s 42 s 42) s (aeI C B b n):=by intro i d N u v w w' h J;obtain⟨g,V,e,O,H,hm⟩:=h;have U:i≠b:=λe=>ug M (e▸N);exact⟨g,V,by rw[jH u v (λe=>U e.symm)];exact e,O,H.below (J.2.1 d d) H.lt,hm.below (J.2.1 d d)⟩
theorem iJ.aeJ{s:Cs}(h:iJ w0 Bq g tm now s W)(d:Own w0 W' [(g,87,(s.kP n v).cells tm now)])(N:W'.heap.size=W.heap.size)(M: ∀k,k≠g->W'.heap[k]? =W.heap[k]?)(hm:oV W B n v)(hB:Bq<=B):iJ w0 Bq g tm now (s.kP n v) W'/\iw g s (s.kP n v) W W':=by have O:iw g s (s.kP n v) W W':=iw.put (d.below.os.trans h.below.os.symm) (d.below.tape.trans h.below.tape.symm) (d.below.output.trans h.below.output.symm) N M rfl rfl;have J:=h.tr;have H:=hm.base hB;exact⟨h.put d O N M ⟨H.path,H.fP,J.stops,hm.e1,hm.e2,J.e3,hm.l1,hm.l2,J.l3⟩ rfl rfl rfl (ard H.path h.blk (by decide)) (ard H.fP h.blk (by decide)) (ard J.stops h.blk (by decide)),O⟩
theorem aeK(m:Ma)(v:DF)(w:World)(h:EK w m v)(V:m.fP≠ []):Calls aj 223 #[nO m v] w λr w'=>r=.returned (Hf m:Int)/\w w':=by
 have d:Own w _ [_]:=(Own.nil w).alloc 42 (nO m v) _ rfl;have O:=d.b0.cell;obtain⟨k,x,J,M⟩: ∃k x,m.fP.length=k+1/\m.fP[k]? =some x:=by cases U:m.fP.length with|zero=>exact absurd (dh.1 U) V|succ k=>exact⟨k,m.fP[k]'(by omega),rfl,by simp⟩
 have hF:Hf m=x.kL:=by unfold Hf qg;rw[List.getLast?_eq_getElem?,J,Nat.add_sub_cancel,M]
 rw[hF];have hn:v.n2=k+1:=by rw[<-h.e2];exact J
 have Y:=h.l2;obtain⟨b,off,N,_,hc⟩:=(h.fP.below d.below).get M;have H:=hc 0 x.kL rfl;simp only[bI]at H;unfold nO at*;rw[hn,N]at O d H ⊢;have hi:(k:Int)+1-1=k:=by omega
 have hw:IntKind.i64.wrap (((k+1:Nat):Int)-1)=(k:Int):=by rw[IntKind.wrap_i64];omega
 have Z:k<=100:=by omega
 have e2:kW.k=2:=rfl;rw[e2]at H;go_enter func223,ntmps223;go_wp2_with fail;go_ret;exact⟨rfl,d.below⟩
theorem aeL(A:Option Addr)(n c:Nat)(l:List St)(B:Option Addr)(k M:Nat)(r:List St)(w:World)(U:fE gV w A l)(hn:l.length=n)(Z:n<=c)(V:fE gV w B r)(hm:r.length=k)(hl:n<=1000)(ac:k<=1000):Calls aj 222 #[.slice A n c,.slice B k M] w λe w'=>e=.returned (.bool (Cc l r))/\w w':=by
 have N:k<=n->Calls aj 258 #[.slice A k c,.slice B k M] w λe w'=>e=.returned (.bool (decide (l.take k=r)))/\w w':=λH=>amx A k c (l.take k) B k M r w (U.part k) (by simp;omega) V hm (by omega) (by omega);obtain⟨b,d⟩:=fD (Cc l r);rw[<-d];unfold Cc at d;by_cases H:k<=n
 ·have e1:decide (k<=n)=true:=by simpa using H
  have O:=N H;have J:b=decide (l.take k=r):=by rw[d,hm,hn,e1];rfl
  have aa:k<=c:=aG H Z;rw[<-J]at O;clear d J hn hm N;go_enter func222,ntmps222;go_wp2_with((with_reducible refine O.mono ?_);rintro e w1⟨rfl,Y⟩);go_ret;exact⟨rfl,Y⟩
 ·have e1:decide (k<=n)=false:=by simpa using H
  have J:b=false:=by rw[d,hm,hn,e1];rfl
  rw[J];go_enter func222,ntmps222;go_wp2_with fail;go_ret;exact⟨rfl,aH _ _⟩
theorem XP(v:List Int)(A:Option Addr)(n c:Nat)(w:World)(hR:fE aq7 w A v)(hn:v.length=n)(h5:5<=n):Calls aj 225 #[.slice A n c] w λe w'=>e=.returned (.tuple #[(II (v.getD 4 0) (v.getD 1 0):Int),.bool (Ud (v.getD 4 0) (v.getD 1 0)==0)])/\w w':=by
 obtain⟨O,h4⟩:=fD (v.getD 4 0);obtain⟨N,V⟩:=fD (v.getD 1 0);rw[<-h4,<-V];have g4:v[4]? =some O:=by rw[h4,bH,aI (by omega)];rfl
 have g1:v[1]? =some N:=by rw[V,bH,aI (by omega)];rfl
 obtain⟨b,off,eA,hb,M⟩:=hR.get g4;obtain⟨b',af,U,_,J⟩:=hR.get g1;have M:=M 0 O rfl;have J:=J 0 N rfl;rw[eA]at U;obtain⟨q1,q2⟩:b=b'/\off=af:=by simpa using U
 subst q1;subst q2;clear U;have e1:aq7.k=1:=rfl;rw[e1]at M J;simp only[Nat.mul_one,bI]at M J;have ac:=λW=>ajG O N W;obtain⟨dt,ad⟩:=fD (II O N);obtain⟨de,aa⟩:=fD (Ud O N);rw[<-ad,<-aa]at ac ⊢;have i4:4<n:=by omega
 subst eA;clear hR hn h5 h4 V g4 g1 e1 ad aa;go_enter func225,ntmps225;go_upto_region 1 with fail;apply jJ [];case lX=>intro u;simp only[bV,aq9,aP,ay,aA,aB,aT,aJ];rfl
 case hm=>kernel_rfl
 case hB=>kernel_rfl
 case hap=>kernel_rfl
 repeat(first|(apply jI.is;·(intro u w' d H;simp[fH,aC,Is]at H;refine fC ?_ ?_;(·(first|rfl));intro K hK;have d:=d.below ig (by intro k o h;simp at h);have ai:=(d.cell (p:=⟨b,off+4,none⟩) hb).trans M;have ag:=(d.cell (p:=⟨b,off+1,none⟩) hb).trans J;go_wp2_with(((with_reducible refine(ac _).mono ?_);rintro e w3⟨rfl,ae⟩;obtain rfl:=ae.symm));(try simp only[H]at hK);refine hK _ _ ?_ rfl;first|exact Stp.refl _ _)))
 refine jI.nil ?_ ?_;·simp[W2.fit,qy]
 intro u w7 d H;simp only[gQ]at H;replace d:=d.below ig (by intro k o h;simp at h);have Y:=H 10 _ rfl;have Z:=H 11 _ rfl;simp only[Is]at Y Z;clear H;simp only[Y,Z];clear Y Z;go_wp2_with fail;go_ret2;exact⟨rfl,d⟩
end Go.Proofs.YthnmgjngniciaaaGreatDoor
