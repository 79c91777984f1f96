/- Parts. -/
import Derived.Test.YthnmgjngniciaaaGreatDoorM11
import Derived.Test.YthnmgjngniciaaaGreatDoorM09
import Derived.Defers
import Derived.Recover
set_option linter.all false
set_option maxHeartbeats 16000000
set_option maxRecDepth 8000
open Bool renaming and_eq_true→bM,false_eq_true→bU
open List renaming length_append→bC,length_cons→bK,length_nil→dU,map→bV,setIfInBounds_toArray→ay,set_cons_succ→aB,set_cons_zero→aA
open Nat renaming add_zero→bI,le_of_eq→bZ,le_refl→aW,le_trans→aG,lt_of_lt_of_le→aU,reduceAdd→aT,zero_add→aJ
namespace Go.Proofs.YthnmgjngniciaaaGreatDoor
open Go.RowKit Go.Shelf Tryz
open Act renaming put→aP
open Below renaming heap_setCell→aN,refl→aH
open Lib renaming hid→ah
open Region renaming binds→aC,wanted→aF
open Tryz renaming prog→aj
open World renaming setCell→dD
section
def iU:arb (Int × Int):=⟨2,fun p=> [.int .i64 p.1,.int .i64 p.2],fun _=>rfl,fun _ u hu=>by simp at hu;rcases hu with rfl |rfl <;> rfl,by decide⟩
theorem Jb:qo aj iU 246 245 16:=arD (.agg gF) underlying246 (by kernel_rfl) rfl
theorem Am{w:World}{g:Nat}{x:Int × Int}(h:fK w g 245 #[.int .i64 x.1,.int .i64 x.2]):fE iU w (some ⟨g,0,none⟩) [x]:=qw h rfl
def JL {α:Type} (E:arb α) (t:TypeId) (B m:Nat) (R:Option Nat) (n:Nat) (xs:List α):Value->World->Prop:=fun v w=> ∃A c,v=.slice A n c/\aq1 E t w B A c xs/\(A.map (·.block)=R\/ ∃g,A.map (·.block)=some g/\m<=g)
theorem JL.grow{α:Type}{E:arb α}{t:TypeId}{B m n:Nat}{R:Option Nat}{xs:List α}{v:Value}{w w':World}(h:JL E t B m R n xs v w)(j:w w'):JL E t B m R n xs v w':=by obtain⟨A,c,e,d,hA⟩:=h;exact⟨A,c,e,d.below j,hA⟩
theorem fE.keep'{α:Type}{E:arb α}{w w':World}{A:Option Addr}{xs:List α}(h:fE E w A xs)(K:w.heap.size<=w'.heap.size)(J:xs≠ []-> ∀a,A=some a->a.block<w.heap.size->w'.heap[a.block]? =w.heap[a.block]?):fE E w' A xs:=by
 intro d;obtain⟨b,off,e,j,hc⟩:=h d;have N:xs≠ []:=λe=>by rw[e]at d;exact absurd d (by simp[arb.flat])
 have H:w'.heap[b]? =w.heap[b]? :=J N _ e j;exact⟨b,off,e,aU j K,λO u M=>(World.cell?_of_block (w:=w) H).trans (hc O u M)⟩
section
variable (w:World) (a:Option Addr) (len cap:Nat)
theorem PO:aj.underlying 22=some (.slice (aj.elem 22)):=by kernel_rfl
theorem Gn:(sizeOf (aj.elem 22)).run aj w=.ok 1 w:=by
 have h:(aj.info? (aj.elem 22)).map (·.size)=some 1:=by kernel_rfl
 cases j:aj.info? (aj.elem 22) with
 |none=>grind
 |some H=>
  have d:H.size=1:=by grind
  simp[sizeOf,typeInfo,j,d]
theorem ER(d:IntKind)(l:Int)(j:0<=l)(H:l<=len):(Instr.slice 22 (.slice a len cap) (some (.int d l)) none none).run aj w=.ok (.slice (qQ a l.toNat cap) (len-l.toNat) (cap-l.toNat)) w:=by rw[run_slice_l w 22 a len cap PO d l j H,Gn];simp[Result.andThen,sliced,qQ]
end
theorem DR{A:Option Addr}{i c:Nat}{a:Addr}(h:qQ A i c=some a): ∃a',A=some a'/\a'.block=a.block:=by
 unfold qQ at h;split at h;·grind
 ·cases A with
  |none=>cases h
  |some a'=>simp at h;refine⟨a',rfl,?_⟩;rw[<-h];unfold Addr.add;split <;> rfl
theorem JM{w:World}{A:Option Addr}{c:Nat}{n:Int}{l:List Int}(h:fE aq7 w A (n::l))(hc:l.length+1<=c):fE aq7 w (qQ A 1 c) l:=by
 intro d;have M:0<l.length:=by rw[arb.flat_length]at d;grind
 obtain⟨b,off,e,j,H⟩:=h (by rw[arb.flat_length];simp[aq7]);subst e;refine⟨b,off+1,?_,j,λK u J=>?_⟩;·unfold qQ;rw[if_neg (by omega)];simp[Addr.add]
 ·have:=H (1+K) u (by rw[arb.nX,List.getElem?_append_right (by simp[aq7])];simpa[aq7] using J);rwa [<-Nat.add_assoc]at this
structure ItS (B bl br:Nat) (A1:Option Addr) (c1:Nat) (A2:Option Addr) (c2:Nat) (s:List Int × List (Int × Int)) (T:Nat->Prop) (W:World):Prop where
  foot: ∀k,T k<->(k=bl\/k=br\/A1.map (·.block)=some k)
  lb:fK W bl 246 #[.slice A1 s.2.length c1]
  rb:fK W br 22 #[.slice A2 s.1.length c2]
  own:aq1 iU 245 W B A1 c1 s.2
  bl0:0<bl/\bl<B
  br0:0<br/\A1.map (·.block)≠some br
  ne:bl≠br
  size:B<=W.heap.size
  rest:fE aq7 W A2 s.1
  away:s.1≠ []-> ∀a,A2=some a->a.block<B/\a.block≠bl/\a.block≠br
  tab:Tab W
  len:s.1.length+s.2.length<=65000
  cap:s.1.length<=c2/\c2<=maxLen
def Au (B bl br:Nat) (s:List Int × List (Int × Int)) (T:Nat->Prop) (W:World):Prop:= ∃A1 c1 A2 c2,ItS B bl br A1 c1 A2 c2 s T W
def PS (s:List Int × List (Int × Int)):Nat:=65000-(s.1.length+s.2.length)
theorem Au.below{B bl br:Nat}{s:List Int × List (Int × Int)}{T:Nat->Prop}{W W':World}(h:Au B bl br s T W)(d:W W'):Au B bl br s T W':=by obtain⟨A1,c1,A2,c2,h⟩:=h;exact⟨A1,c1,A2,c2,h.foot,h.lb.below d h.lb.lt,h.rb.below d h.rb.lt,h.own.below d,h.bl0,h.br0,h.ne,aG h.size d.size,h.rest.below d,h.away,h.tab.below d,h.len,h.cap⟩
theorem Au.inn{B bl br:Nat}{s:List Int × List (Int × Int)}{T:Nat->Prop}{W:World}(h:Au B bl br s T W)(k:Nat)(d:T k):k<W.heap.size:=by
 obtain⟨A1,c1,A2,c2,h⟩:=h;rcases(h.foot k).1 d with rfl |rfl |e;·exact h.lb.lt
 ·exact h.rb.lt
 ·exact(h.own.gJ k e).2
theorem JO(v:Int)(s:List Int × List (Int × Int))(n:Int)(s':List Int × List (Int × Int))(h:lC v s=.ok (n,s')):PS s<=PS s'+(if v=7 then 1 else 0):=by
 unfold lC at h;by_cases d:v=7;·rw[if_pos d]at h;injection h with h;injection h with _ h;subst h;rw[if_pos d];simp only[PS,bC,bK,dU];omega
 ·rw[if_neg d]at h;rw[if_neg d];obtain⟨l,m⟩:=s;cases l with
  |nil=>cases h
  |cons x r=>simp only at h;by_cases hm:uX v x=true;(·rw[if_pos hm]at h;injection h with h;injection h with _ h;subst h;simp only[PS,bC,bK,dU];omega);grind
theorem WJ{v n:Int}(h:uX v n=true):n<=4294967295:=by
 have j:=lq v;unfold uX at h;simp only[bM,decide_eq_true_eq]at h;have d:(2:Int) ^ (fQ v).toNat<=2 ^ 32:=by have:=Nat.pow_le_pow_right (n:=2) (by decide) (show(fQ v).toNat<=32 by omega);grind
 omega
theorem Td(v:Int)(s:List Int × List (Int × Int))(n:Int)(s':List Int × List (Int × Int))(h:lC v s=.ok (n,s')):n<=4294967295:=by
 unfold lC at h;by_cases d:v=7;·grind
 ·rw[if_neg d]at h;obtain⟨l,m⟩:=s;cases l with
  |nil=>cases h
  |cons x r=>simp only at h;by_cases hm:uX v x=true;(·rw[if_pos hm]at h;injection h with h;injection h with h _;subst h;exact WJ hm);grind
theorem ItS.laid{B bl br:Nat}{A1 A2:Option Addr}{c1 c2:Nat}{s:List Int × List (Int × Int)}{T:Nat->Prop}{W d:World}(h:ItS B bl br A1 c1 A2 c2 s T W)(j:W.grownBy d (A1.map (·.block))){A3:Option Addr}{c3:Nat}{x:Int × Int}(ho:aq1 iU 245 d B A3 c3 (s.2++ [x]))(hA:A3.map (·.block)=A1.map (·.block)\/ ∃g,A3.map (·.block)=some g/\W.heap.size<=g)(ag:s.1.length+(s.2.length+1)<=65000): ∃T',Ext T W T' (d.setCell ⟨bl,0,none⟩ (.slice A3 (s.2.length+1) c3))/\Au B bl br (s.1,s.2++ [x]) T' (d.setCell ⟨bl,0,none⟩ (.slice A3 (s.2.length+1) c3)):=by
 have ac:fK d bl 246 #[.slice A1 s.2.length c1]:=(j.block bl h.lb.lt (λe=>by have:=(h.own.gJ bl e.symm).1;have:=h.bl0.2;omega)).trans h.lb;have ae:fK d br 22 #[.slice A2 s.1.length c2]:=(j.block br h.rb.lt (λe=>h.br0.2 e.symm)).trans h.rb;have Y: ∀k,k≠bl->(d.setCell ⟨bl,0,none⟩ (.slice A3 (s.2.length+1) c3)).heap[k]? =d.heap[k]? :=λk J=>aN d ⟨bl,0,none⟩ _ k J;have K:(d.setCell ⟨bl,0,none⟩ (.slice A3 (s.2.length+1) c3)).heap.size=d.heap.size:=by simp
 have O:=h.bl0;have N:=h.br0;have af:=h.size;have V: ∀k,k<W.heap.size->k≠bl->A1.map (·.block)≠some k->(d.setCell ⟨bl,0,none⟩ (.slice A3 (s.2.length+1) c3)).heap[k]? =W.heap[k]? :=λk M H Z=>(Y k H).trans (j.block k M (λe=>Z e.symm));have ad: ∀k,k<B->A1.map (·.block)≠some k:=λk J e=>by have:=(h.own.gJ k e).1;omega
 refine⟨λk=>k=bl\/k=br\/A3.map (·.block)=some k,⟨j.os,j.tape,j.output,by rw[K];exact j.size,λk M H=>V k M (λe=>H ((h.foot k).2 (.inl e))) (λe=>H ((h.foot k).2 (.inr (.inr e)))),λk J=>?_⟩,A3,c3,A2,c2,?_⟩
 ·rcases J with e |e |e;·exact .inl ((h.foot k).2 (.inl e))
  ·exact .inl ((h.foot k).2 (.inr (.inl e)))
  ·rcases hA with hA |⟨g,hA,aa⟩;(·exact .inl ((h.foot k).2 (.inr (.inr (hA▸e)))));grind
 ·exact {foot:=λk=>Iff.rfl,lb:=by simp only[bC,bK,dU];exact ac.iV 0 _,rb:=ae.far (p:=⟨bl,0,none⟩) h.ne.symm _,own:=ho.far O.2 Y,bl0:=O,br0:=⟨N.1,λe=>by rcases hA with hA |⟨g,hA,aa⟩;exact N.2 (hA▸e);rw[hA]at e;injection e with e;have:=h.rb.lt;omega⟩,ne:=h.ne,size:=by rw[K];exact aG af j.size,rest:=h.rest.keep' (by rw[K];exact j.size) (λQ a e U=>V _ U (h.away Q a e).2.1 (ad _ (h.away Q a e).1)),away:=h.away,tab:=fE.keep' h.tab (by rw[K];exact j.size) (λ_ a e U=>by grind),len:=by grind,cap:=h.cap}
theorem WL{B bl br:Nat}{s:List Int × List (Int × Int)}{T:Nat->Prop}{W:World}(h:Au B bl br s T W)(h7:0<PS s):Calls aj 240 #[(7:Int),.pointer bl,.pointer br] W λe W'=> ∃T',Ext T W T' W'/\e=.returned zI/\Au B bl br (s.1,s.2++ [(0,fQ 7)]) T' W':=by
 obtain⟨A1,c1,A2,c2,h⟩:=h;have aa: ∀W2,W.grownBy W2 (A1.map (·.block))->fK W2 bl 246 #[.slice A1 s.2.length c1]:=λW2 j=>(j.block bl h.lb.lt (λe=>by have:=(h.own.gJ bl e.symm).1;have:=h.bl0.2;omega)).trans h.lb;have ak: ∀W2,W.grownBy W2 (A1.map (·.block))->W2.cell? ⟨bl,0,none⟩=some (.slice A1 s.2.length c1):=λW2 j=>(aa W2 j).cell 0;have IE: ∀W2,W.grownBy W2 (A1.map (·.block))->Tab W2:=λW2 j=>fE.keep' h.tab j.size (λ_ a e hb=>by injection e with e;subst e;exact j.block 0 hb (λe=>by have:=(h.own.gJ 0 e.symm).1;have:=h.bl0;omega));have K:=λ(V:World) (j:W.grownBy V (A1.map (·.block))) (A3:Option Addr) (c3:Nat) (ho:aq1 iU 245 V B A3 c3 (s.2++ [(0,fQ 7)])) (hA:A3.map (·.block)=A1.map (·.block)\/ ∃g,A3.map (·.block)=some g/\W.heap.size<=g)=>h.laid j ho hA (by unfold PS at h7;omega);have ac:=h.own;have ag:=h.size;obtain⟨n1,M⟩:=fD s.2.length;obtain⟨Y,U⟩:=fD s.2;obtain⟨wd,Q⟩:=fD (fQ 7);have ar:n1+1<=65000:=by unfold PS at h7;omega
 rw[<-U]at ac K M;rw[<-Q]at K;have ap:Hid (Y.length=n1):=ah M.symm;rw[<-U,<-M]at aa ak;rw[<-M]at K;have ad:=λW2 (j:W.grownBy W2 (A1.map (·.block)))=>pF 7 W2 (IE W2 j);rw[<-Q]at ad;have HE:=ah K;rw[<-U,<-Q];clear h h7 K IE Q U M;go_enter func240,ntmps240;go_wp2_with fail;apply uM (λw w'=>w.grownBy w' (A1.map (·.block))) (λw=>arj (aq3 gY 1) _) (λ_ _ _=>lN) (CW (A1.map (·.block)) 5) (λ_ _ _ h=>h.2) (λi W2=>i=5->aq1 iU 245 W2 B A1 c1 Y) (λ_ _=>ac.below (aq3 gY 1)) (λi au W1 W2 al hp O hi=>(hp hi).below (O.1 (λh=>al (hi.trans h.symm))));case lX=>intro u;simp only[bV,aq9,aP,ay,aA,aB,aT,aJ];with_reducible rfl
 case hm=>kernel_rfl
 case hB=>kernel_rfl
 case hA=>kernel_rfl
 case hap=>kernel_rfl
 repeat(first
    |(apply kE.is
      ·
        (intro u w' J N d
         clear N
         simp[fH,aC,Is]at d
         refine fC ?_ ?_
         ·
           first
           |rfl
         intro Z H
         go_wp2_with (((with_reducible refine(ad _ J).mono ?_);rintro e w3⟨rfl,an⟩;obtain rfl:=an.symm))
         try simp only[d]at H
         refine H _ _ ?_ rfl
         exact vT _ _ _ _))
    |(refine kE.word (Gm 245 (A1.map (·.block)) #[zI, wd]) ?_ ?_
      ·
        (intro u w' J N d
         clear N
         simp[fH,aC,Is]at d
         refine fC ?_ ?_
         ·
           first
           |rfl
         intro Z H
         go_wp2_with fail
         try simp only[d]at H
         exact H _ _ (uw jm) ⟨w',rfl,fK.new _ _ _,λe=>by have:=(ac.gJ _ e).2;have:=J.size;omega⟩))
    |(refine kE.word (JL iU 245 B W (A1.map (·.block)) (n1 + 1) (Y ++ [(0, wd)])) ?_ ?_
      ·
        (intro u w' J N d
         simp[fH,aC,Is]at d
         obtain⟨q1,⟨bv,q2,hB,hn⟩,_⟩:=d
         refine fC ?_ ?_
         ·
           first
           |rfl
         intro Z H
         exact oH Jb (.tmp 8) (.tmp 12) rfl B A1 c1 Y n1 (by rw[<-q1];rfl) ap.out (N rfl) bv 1 [(0,wd)] 1 (by rw[<-q2];rfl) rfl (Am hB) (by omega) (by decide) (aG ag J.size) λA3 c3 W3 h1 h2 h3=>H _ _ ⟨λh=>absurd rfl h,h2⟩ ⟨A3,c3,rfl,h1,h3.imp id λe=>⟨_,e,J.size⟩⟩)))
 refine kE.last ?_ ?_
 ·refine Ai ?_;simp only[gQ];repeat(refine⟨?_,?_⟩;·first|exact λ_ _ _ _ _ h _=>h|exact λ_ _ _ _ _ h O=>Gm.grow h O.2|exact λ_ hi _ _ _ h O=>JL.grow h (O.1 hi))
  exact trivial
 intro u V ae _ d;simp only[gQ]at d;obtain⟨A3,c3,hu,am,af⟩:=d 5 _ rfl;clear d;refine⟨rfl,?_⟩;intro Z H;have ai:=aa _ ae;have aq:=ai.frozen 0;simp only[hu];clear hu;go_wp2_with fail;obtain⟨T',h1,h2⟩:=HE.out V ae A3 c3 am af;go_ret;exact⟨T',h1,rfl,h2⟩
def Jc (er:Int):Ending:=.panicked [{v:=.iface 314 (.agg #[.int .i64 er]),recovered:=false}]
theorem WM{B bl br:Nat}{v:Int}{s:List Int × List (Int × Int)}{T:Nat->Prop}{W:World}(h:Au B bl br s T W)(j:v≠7)(H:s.1= []):Calls aj 240 #[v,.pointer bl,.pointer br] W λe W'=>e=Jc 20/\W W':=by
 obtain⟨A1,c1,A2,c2,h⟩:=h;have d:=h.rb;rw[H]at d;have K:=d.cell 0;have J:(v==7)=false:=by simpa using j
 go_enter func240,ntmps240;go_wp2_with fail;exact⟨rfl,rfl,aH _ _⟩
theorem WO{B bl br:Nat}{v x:Int}{r:List Int}{m:List (Int × Int)}{T:Nat->Prop}{W:World}(h:Au B bl br (x::r,m) T W)(j:v≠7)(hm:uX v x=false):Calls aj 240 #[v,.pointer bl,.pointer br] W λe W'=>e=Jc 20/\W W':=by
 obtain⟨A1,c1,A2,c2,h⟩:=h;have H:=h.rb.cell 0;obtain⟨g,off,rfl,M,hc⟩:=h.rest.get (i:=0) (x:=x) rfl;have a0:=hc 0 x rfl;simp only[Nat.zero_mul,bI]at a0;have K:(v==7)=false:=by simpa using j
 have d:=JG v x W h.tab;rw[hm]at d;simp only[bK]at H;go_enter func240,ntmps240;go_wp2_with((with_reducible refine d.mono ?_);rintro e N⟨rfl,J⟩;obtain rfl:=J.symm);exact⟨rfl,rfl,aH _ _⟩
theorem WQ{B bl br:Nat}{v x:Int}{r:List Int}{m:List (Int × Int)}{T:Nat->Prop}{W:World}(h:Au B bl br (x::r,m) T W)(h7:v≠7)(hm:uX v x=true):Calls aj 240 #[.int .i64 v,.pointer (some ⟨bl,0,none⟩),.pointer (some ⟨br,0,none⟩)] W λe W'=> ∃T',Ext T W T' W'/\e=.returned (.int .i64 x)/\Au B bl br (r,m++ [(x,fQ v)]) T' W':=by
 obtain⟨A1,c1,A2,c2,h⟩:=h;have al:=h.rb.cell 0;obtain⟨g,off,rfl,H,hc⟩:=h.rest.get (i:=0) (x:=x) rfl;have a0:=hc 0 (.int .i64 x) rfl;simp only[Nat.zero_mul,bI]at a0;have f0:(v==7)=false:=by simpa using h7
 have f1:((r.length+1:Nat)==(0:Nat))=false:=by simp
 have ak:=JG v x W h.tab;rw[hm]at ak;simp only[bK]at al;have ai:=h.cap;simp only[bK]at ai;obtain⟨R,hR⟩:=fD (qQ (some ⟨g,off,none⟩) 1 c2);obtain⟨J,K⟩:=fD (W.setCell ⟨br,0,none⟩ (.slice R r.length (c2-1)));have ax: ∀W2,(Instr.slice 22 (.slice (some ⟨g,off,none⟩) (r.length+1) c2) (some (.int .i64 1)) none none).run aj W2=.ok (.slice R r.length (c2-1)) W2:=λW2=>by rw[ER W2 _ _ _ .i64 1 (by omega) (by omega),hR];simp
 have U: ∀k,k≠br->J.heap[k]? =W.heap[k]? :=λk M=>by rw[K];exact aN W ⟨br,0,none⟩ _ k M
 have Q:J.heap.size=W.heap.size:=by rw[K];simp[dD]
 have aD:=h.bl0;have an:=h.br0;have av:g≠br:=(h.away (by simp) _ rfl).2.2;have ap:Ext T W T J:=⟨by rw[K];rfl,by rw[K];rfl,by rw[K];rfl,by rw[Q];exact aW _,λk d O=>U k (λe=>O ((h.foot k).2 (.inr (.inl e)))),λk M=> .inl M⟩;have d:ItS B bl br A1 c1 R (c2-1) (r,m) T J:={foot:=h.foot,lb:=(U bl h.ne).trans h.lb,rb:=by rw[K];exact h.rb.iV 0 _,own:=h.own.off (R:=some br) ⟨by rw[K];rfl,by rw[K];rfl,by rw[K];rfl,bZ Q.symm,λk _ O=>U k (λe=>O (by rw[e]))⟩ (λg H e=>an.2 (by rw[H,e])),bl0:=aD,br0:=an,ne:=h.ne,size:=by rw[Q];exact h.size,rest:=by rw[hR];exact(JM h.rest ai.1).keep' (by rw[Q];exact aW _) (λh0 a e hb=>U _ (by obtain⟨a',e1,e2⟩:=DR e;injection e1 with e1;subst e1;rw[<-e2];exact av)),away:=λh0 a e=>by rw[hR]at e;obtain⟨a',e1,e2⟩:=DR e;rw[<-e2];exact h.away (by simp) _ e1,tab:=fE.keep' h.tab (by rw[Q];exact aW _) (λ_ a e hb=>by injection e with e;subst e;exact U 0 (by omega)),len:=by have:=h.len;simp only[bK]at this ⊢;omega,cap:=⟨by simp only;omega,by omega⟩};have au:r.length+(m.length+1)<=65000:=by have:=h.len;simp only[bK]at this;omega
 have ag: ∀W2,J.grownBy W2 (A1.map (·.block))->fK W2 bl 246 #[.slice A1 m.length c1]:=λW2 H=>(H.block bl d.lb.lt (λe=>by have:=(d.own.gJ bl e.symm).1;omega)).trans d.lb;have aR: ∀W2,J.grownBy W2 (A1.map (·.block))->W2.cell? ⟨bl,0,none⟩=some (.slice A1 m.length c1):=λW2 H=>(ag W2 H).cell 0;have IE: ∀W2,J.grownBy W2 (A1.map (·.block))->Tab W2:=λW2 H=>fE.keep' d.tab H.size (λ_ a e hb=>by injection e with e;subst e;exact H.block 0 hb (λe=>by have:=(d.own.gJ 0 e.symm).1;omega));have aa:=λ(w2:World) (H:J.grownBy w2 (A1.map (·.block))) (A3:Option Addr) (c3:Nat) (ho:aq1 iU 245 w2 B A3 c3 (m++ [(x,fQ v)])) (hA:A3.map (·.block)=A1.map (·.block)\/ ∃g,A3.map (·.block)=some g/\J.heap.size<=g)=>d.laid H ho hA au;have ad:=d.own;have aL:=d.size;have a5:=h.rb.frozen 0;obtain⟨n1,ac⟩:=fD m.length;obtain⟨zs,Z⟩:=fD m;obtain⟨wd,ae⟩:=fD (fQ v);have a8:n1+1<=65000:=by omega
 have a6:Hid (zs.length=n1):=ah (by rw[Z,ac]);rw[<-ac]at ag aR;simp only at ad aa;rw[<-ac,<-Z,<-ae]at aa;rw[<-Z]at ad;have aq:=λW2 (H:J.grownBy W2 (A1.map (·.block)))=>pF v W2 (IE W2 H);rw[<-ae]at aq;have HE:=ah aa;have az:=ah ap;obtain⟨rl,aw⟩:=fD r.length;rw[<-aw]at f1 al ax K;rw[<-Z,<-ae];clear h h7 hm hc aa ap U Q d au IE ae Z ac aw ai hR av;go_enter func240,ntmps240;go_wp2_with((with_reducible refine ak.mono ?_);rintro e w3⟨rfl,am⟩;obtain rfl:=am.symm);rw[<-K];clear K al a5 a0 ak ax;apply uM (λw w'=>w.grownBy w' (A1.map (·.block))) (λw=>arj (aq3 gY 1) _) (λ_ _ _=>lN) (CW (A1.map (·.block)) 6) (λ_ _ _ h=>h.2) (λi W2=>i=6->aq1 iU 245 W2 B A1 c1 zs) (λ_ _=>ad.below (aq3 gY 1)) (λi a9 J W2 a1 hp Y hi=>(hp hi).below (Y.1 (λh=>a1 (hi.trans h.symm))));case lX=>intro u;simp only[bV,aq9,aP,ay,aA,aB,aT,aJ];with_reducible rfl
 case hm=>kernel_rfl
 case hB=>kernel_rfl
 case hA=>kernel_rfl
 case hap=>kernel_rfl
 repeat(first
    |(apply kE.is
      ·
        (intro u w' M V j
         clear V
         simp[fH,aC,Is]at j
         refine fC ?_ ?_
         ·
           first
           |rfl
           |(simp[aF,yielded,j];done)
         intro af N
         go_wp2_with (((with_reducible refine(aq _ M).mono ?_);rintro e w3⟨rfl,am⟩;obtain rfl:=am.symm))
         try simp only[j]at N
         refine N _ _ ?_ rfl
         exact vT _ _ _ _))
    |(refine kE.word (Gm 245 (A1.map (·.block)) #[.int .i64 x, .int .i64 wd]) ?_ ?_
      ·
        (intro u w' M V j
         clear V
         simp[fH,aC,Is]at j
         refine fC ?_ ?_
         ·
           first
           |rfl
           |(simp[aF,yielded,j];done)
         intro af N
         go_wp2_with fail
         try simp only[j]at N
         exact N _ _ (uw jm) ⟨w',rfl,fK.new _ _ _,λe=>by have:=(ad.gJ _ e).2;have:=M.size;omega⟩))
    |(refine kE.word (JL iU 245 B J (A1.map (·.block)) (n1 + 1) (zs ++ [(x, wd)])) ?_ ?_
      ·
        (intro u w' M V j
         simp[fH,aC,Is]at j
         obtain⟨q1,⟨bv,q2,hB,hn⟩,_⟩:=j
         refine fC ?_ ?_
         ·
           first
           |rfl
           |(simp[aF,yielded];done)
         intro af N
         exact oH Jb (.tmp 32) (.tmp 37) rfl B A1 c1 zs n1 (by rw[<-q1];rfl) a6.out (V rfl) (some ⟨bv,0,none⟩) 1 [(x,wd)] 1 (by rw[<-q2];rfl) rfl (Am hB) (by omega) (by decide) (aG aL M.size) λA3 c3 W3 d O h3=>N _ _ ⟨λh=>absurd rfl h,O⟩ ⟨A3,c3,rfl,d,h3.imp id λe=>⟨_,e,M.size⟩⟩)))
 refine kE.last ?_ ?_
 ·refine Ai ?_;simp only[gQ];repeat(refine⟨?_,?_⟩;·first|exact λ_ _ _ _ _ h _=>h|exact λ_ _ _ _ _ h Y=>Gm.grow h Y.2|exact λ_ hi _ _ _ h Y=>JL.grow h (Y.1 hi))
  exact trivial
 intro u w2 ar _ j;simp only[gQ]at j;obtain⟨A3,c3,hu,a4,aE⟩:=j 6 _ rfl;clear j;refine⟨rfl,?_⟩;intro af N;have aM:=ag _ ar;have a7:=aM.frozen 0;simp only[hu];clear hu;go_wp2_with fail;obtain⟨T',d,O⟩:=HE.out w2 ar A3 c3 a4 aE;go_ret;exact⟨T',az.out.trans d,rfl,O⟩
set_option maxRecDepth 20000 in
theorem acL(B bl br:Nat):Clo 240 #[.pointer bl,.pointer br] lC (Au B bl br) (λT W=> ∃s,Au B bl br s T W) PS where
  keep:=JO
  below:=λs T W W' h J=>h.below J
  inn:=λs T W h=>h.inn
  bound:=Td
  enter:=λ_ _=>rfl
  call:=by
    intro v s T W h J
    by_cases j:v=7
    ·
      subst j
      refine(WL h (J rfl)).mono ?_
      rintro e W'⟨T',d,rfl,H⟩
      refine⟨T',d,?_⟩
      unfold lC
      rw[if_pos rfl]
      exact⟨rfl,H⟩
    ·
      obtain⟨l,m⟩:=s
      cases l with
      |nil=>
        refine(WM h j rfl).mono ?_
        rintro e W'⟨rfl,d⟩
        refine⟨T,Ext.of_below d,?_⟩
        unfold lC
        rw[if_neg j]
        exact⟨rfl,_,h.below d⟩
      |cons x r=>
        cases hm:uX v x with
        |false=>
          refine(WO h j hm).mono ?_
          rintro e W'⟨rfl,d⟩
          refine⟨T,Ext.of_below d,?_⟩
          unfold lC
          rw[if_neg j]
          simp only[hm,bU,if_false]
          first |exact⟨rfl,_,h.below d⟩
        |true=>
          refine(WQ h j hm).mono ?_
          rintro e W'⟨T',d,rfl,H⟩
          refine⟨T',d,?_⟩
          unfold lC
          rw[if_neg j]
          simp only[hm,if_true]
          first |exact⟨trivial,H⟩
end
section
theorem Row.keep'{w w':World}{A:Option Addr}{xs:List Value}(h:Row w A xs)(K:w.heap.size<=w'.heap.size)(J:xs≠ []-> ∀a,A=some a->a.block<w.heap.size->w'.heap[a.block]? =w.heap[a.block]?):Row w' A xs:=by intro d;obtain⟨b,off,e,j,hc⟩:=h d;have H:w'.heap[b]? =w.heap[b]? :=J (λe=>by rw[e]at d;exact absurd d (by simp)) _ e j;exact⟨b,off,e,aU j K,λN u M=>(World.cell?_of_block (w:=w) H).trans (hc N u M)⟩
theorem aq2.keep'{w w':World}{A:Option Addr}{c:Nat}{bs:List UInt8}(h:aq2 w A c bs)(H:w.heap.size<=w'.heap.size)(j:bs≠ []-> ∀a,A=some a->a.block<w.heap.size->w'.heap[a.block]? =w.heap[a.block]?):aq2 w' A c bs:=⟨h.row.keep' H (λd=>j (λe=>d (by rw[e];rfl))),h.cap,h.max⟩
theorem Tab.keep'{w w':World}(h:Tab w)(H:w.heap.size<=w'.heap.size)(j:0<w.heap.size->w'.heap[0]? =w.heap[0]?):Tab w':=fE.keep' h H (λ_ a e d=>by injection e with e;subst e;exact j d)
theorem BP{w:World}{g:Nat}{a:Int}(h:fK w g 3 #[.int .i64 a]):fE aq7 w (some ⟨g,0,none⟩) [a]:=qw h rfl
structure Me (B br bz bp p:Nat) (bs:List UInt8) (Ab:Option Addr) (cb:Nat) (id:Int) (A:Option Addr) (c:Nat) (s:Up) (T:Nat->Prop) (W:World):Prop where
  foot: ∀k,T k<->(k=p\/k=bz\/k=bp\/A.map (·.block)=some k)
  rp:fK W br 257 #[.pointer (some ⟨p,0,none⟩)]
  rd:rY W p bs s.at_ Ab cb
  zb:fK W bz 3 #[.int .i64 s.size]
  pb:fK W bp 198 #[.int .i64 id,.slice A s.v.length c]
  own:aq1 aq7 3 W B A c s.v
  lt:br<B/\bz<B/\bp<B/\p<B
  ne:br≠p/\br≠bz/\br≠bp/\p≠bz/\p≠bp/\bz≠bp
  pos:0<br/\0<bz/\0<bp/\0<p
  ab:bs≠ []-> ∀a,Ab=some a->a.block<B/\a.block≠bz/\a.block≠bp
  size:B<=W.heap.size
  tab:Tab W
  len:bs.length<=8000
  inn:s.at_<=8*bs.length
  vl:s.v.length<=s.at_
def Tf (B br bz bp p:Nat) (bs:List UInt8) (id:Int) (s:Up) (T:Nat->Prop) (W:World):Prop:= ∃Ab cb A c,Me B br bz bp p bs Ab cb id A c s T W
section
variable {B br bz bp p:Nat} {bs:List UInt8} {Ab:Option Addr} {cb:Nat} {id:Int} {A:Option Addr} {c:Nat} {s:Up} {T:Nat->Prop} {W:World}
theorem Me.below{W':World}(h:Me B br bz bp p bs Ab cb id A c s T W)(d:W W'):Me B br bz bp p bs Ab cb id A c s T W':={h with rp:=h.rp.below d h.rp.lt,rd:=h.rd.below d,zb:=h.zb.below d h.zb.lt,pb:=h.pb.below d h.pb.lt,own:=h.own.below d,size:=aG h.size d.size,tab:=h.tab.below d}
theorem Me.aon(h:Me B br bz bp p bs Ab cb id A c s T W)(k:Nat)(d:T k):k<W.heap.size:=by
 rcases(h.foot k).1 d with rfl |rfl |rfl |e;·exact h.rd.blk.lt
 ·exact h.zb.lt
 ·exact h.pb.lt
 ·exact(h.own.gJ k e).2
theorem Me.got{W2:World}{a:Nat}(h:Me B br bz bp p bs Ab cb id A c s T W)(d:Stp [(p,some 1)] W W2)(Q:rY W2 p bs a Ab cb)(M:a<=8*bs.length)(O:s.at_<=a):Me B br bz bp p bs Ab cb id A c {s with at_:=a} T W2/\Ext T W T W2:=by have hn:=h.ne;have j: ∀k,k<W.heap.size->k≠p->W2.heap[k]? =W.heap[k]? :=λk H J=>d.block k H (λo hm=>by simp at hm;exact J hm.1);refine⟨{foot:=h.foot,rp:=(j br h.rp.lt hn.1).trans h.rp,rd:=Q,zb:=(j bz h.zb.lt (λe=>hn.2.2.2.1 e.symm)).trans h.zb,pb:=(j bp h.pb.lt (λe=>hn.2.2.2.2.1 e.symm)).trans h.pb,own:=h.own.off (R:=some p) ⟨d.os,d.tape,d.output,d.size,λk H J=>j k H (λe=>J (by rw[e]))⟩ (λg N e=>by have:=(h.own.gJ g N).1;have:=h.lt;injection e with e;omega),lt:=h.lt,ne:=h.ne,pos:=h.pos,ab:=h.ab,size:=aG h.size d.size,tab:=h.tab.keep' d.size (λK=>j 0 K (by have:=h.pos;omega)),len:=h.len,inn:=M,vl:=aG h.vl O},⟨d.os,d.tape,d.output,d.size,λk H J=>j k H (λe=>J ((h.foot k).2 (.inl e))),λk d=> .inl d⟩⟩
theorem Me.sized(h:Me B br bz bp p bs Ab cb id A c s T W)(n:Int):Me B br bz bp p bs Ab cb id A c {s with size:=n} T (W.setCell ⟨bz,0,none⟩ (.int .i64 n))/\Ext T W T (W.setCell ⟨bz,0,none⟩ (.int .i64 n)):=by
 have hn:=h.ne;have d: ∀k,k≠bz->(W.setCell ⟨bz,0,none⟩ (.int .i64 n)).heap[k]? =W.heap[k]? :=λk H=>aN W ⟨bz,0,none⟩ _ k H;have j:(W.setCell ⟨bz,0,none⟩ (.int .i64 n)).heap.size=W.heap.size:=by simp[dD]
 refine⟨{foot:=h.foot,rp:=(d br hn.2.1).trans h.rp,rd:=⟨(d p hn.2.2.2.1).trans h.rd.blk,h.rd.bytes.keep' (bZ j.symm) (λJ a e _=>d _ (h.ab J a e).2.1),h.rd.far⟩,zb:=h.zb.iV 0 _,pb:=(d bp (λe=>hn.2.2.2.2.2 e.symm)).trans h.pb,own:=h.own.far h.lt.2.1 d,lt:=h.lt,ne:=h.ne,pos:=h.pos,ab:=h.ab,size:=by rw[j];exact h.size,tab:=h.tab.keep' (bZ j.symm) (λ_=>d 0 (by have:=h.pos;omega)),len:=h.len,inn:=h.inn,vl:=h.vl},⟨rfl,rfl,rfl,bZ j.symm,λk M K=>d k (λe=>K ((h.foot k).2 (.inr (.inl e)))),λk H=> .inl H⟩⟩
theorem Me.put{W2:World}(h:Me B br bz bp p bs Ab cb id A c s T W)(d:W.grownBy W2 (A.map (·.block))){A3:Option Addr}{c3:Nat}{x:Int}(ho:aq1 aq7 3 W2 B A3 c3 (s.v++ [x]))(hA:A3.map (·.block)=A.map (·.block)\/ ∃g,A3.map (·.block)=some g/\W.heap.size<=g)(ac:s.v.length+1<=s.at_): ∃T',Ext T W T' (W2.setCell ⟨bp,1,none⟩ (.slice A3 (s.v.length+1) c3))/\Me B br bz bp p bs Ab cb id A3 c3 {s with v:=s.v++ [x]} T' (W2.setCell ⟨bp,1,none⟩ (.slice A3 (s.v.length+1) c3)):=by
 have hn:=h.ne;have J:=h.lt;have U: ∀k,k≠bp->(W2.setCell ⟨bp,1,none⟩ (.slice A3 (s.v.length+1) c3)).heap[k]? =W2.heap[k]? :=λk N=>aN W2 ⟨bp,1,none⟩ _ k N;have O:(W2.setCell ⟨bp,1,none⟩ (.slice A3 (s.v.length+1) c3)).heap.size=W2.heap.size:=by simp[dD]
 have H: ∀k,k<B->A.map (·.block)≠some k:=λk N e=>by have:=(h.own.gJ k e).1;omega
 have j: ∀k,k<W.heap.size->k≠bp->A.map (·.block)≠some k->(W2.setCell ⟨bp,1,none⟩ (.slice A3 (s.v.length+1) c3)).heap[k]? =W.heap[k]? :=λk Q M V=>(U k M).trans (d.block k Q (λe=>V e.symm));have aa:fK W2 bp 198 #[.int .i64 id,.slice A s.v.length c]:=(d.block bp h.pb.lt (λe=>H bp J.2.2.1 e.symm)).trans h.pb;refine⟨λk=>k=p\/k=bz\/k=bp\/A3.map (·.block)=some k,⟨d.os,d.tape,d.output,by rw[O];exact d.size,λk Q M=>j k Q (λe=>M ((h.foot k).2 (.inr (.inr (.inl e))))) (λe=>M ((h.foot k).2 (.inr (.inr (.inr e))))),λk N=>?_⟩,{foot:=λk=>Iff.rfl,rp:=(j br h.rp.lt hn.2.2.1 (H br J.1)).trans h.rp,rd:=⟨(j p h.rd.blk.lt hn.2.2.2.2.1 (H p J.2.2.2)).trans h.rd.blk,h.rd.bytes.keep' (by rw[O];exact d.size) (λK a e Y=>j _ Y (h.ab K a e).2.2 (H _ (h.ab K a e).1)),h.rd.far⟩,zb:=(j bz h.zb.lt hn.2.2.2.2.2 (H bz J.2.1)).trans h.zb,pb:=by simp only[bC,bK,dU];exact aa.iV 1 _,own:=ho.far J.2.2.1 U,lt:=J,ne:=hn,pos:=h.pos,ab:=h.ab,size:=by rw[O];exact aG h.size d.size,tab:=h.tab.keep' (by rw[O];exact d.size) (λK=>j 0 K (by have:=h.pos;omega) (H 0 (by omega))),len:=h.len,inn:=h.inn,vl:=by simp only[bC,bK,dU];exact ac}⟩;rcases N with e |e |e |e;·exact .inl ((h.foot k).2 (.inl e))
 ·exact .inl ((h.foot k).2 (.inr (.inl e)))
 ·exact .inl ((h.foot k).2 (.inr (.inr (.inl e))))
 ·rcases hA with hA |⟨g,hA,Z⟩;·exact .inl ((h.foot k).2 (.inr (.inr (.inr (hA▸e)))))
  ·rw[hA]at e;injection e with e;exact .inr (e▸Z)
end
theorem afX(bs:List UInt8)(a:Nat)(v:Int):((EM bs a (fQ v):Nat):Int)<=4294967295:=by
 have H:=lq v;unfold EM;split;·have d:=Px bs a (fQ v).toNat;have j:=Nat.pow_le_pow_right (n:=2) (by decide) (show(fQ v).toNat<=32 by omega);omega
 ·omega
theorem NW(bs:List UInt8)(v:Int)(s:Up)(n:Int)(s':Up)(h:zK bs v s=.ok (n,s')):n<=4294967295:=by
 unfold zK at h;split at h;·cases h
 ·split at h;·cases h
  ·injection h with h;injection h with h _;rw[<-h];exact afX _ _ _
theorem PU{n a:Nat}{v:Int}(h:uY n a (fQ v)=0):xH n a (fQ v)=a+(fQ v).toNat/\1<=(fQ v).toNat:=by
 unfold xH;rw[if_pos h];refine⟨rfl,?_⟩;unfold uY at h;split at h;·cases h
 ·omega
theorem acM{n a:Nat}{v:Int}(h:uY n a (fQ v)≠0):xH n a (fQ v)=a:=by unfold xH;rw[if_neg h]
theorem afY(n a:Nat)(v:Int):a<=xH n a (fQ v):=by
 by_cases h:uY n a (fQ v)=0;·rw[(PU h).1];exact Nat.le_add_right _ _
 ·rw[acM h];exact aW _
theorem acN{B br bz bp p:Nat}{bs:List UInt8}{Ab:Option Addr}{cb:Nat}{id:Int}{A:Option Addr}{c:Nat}{s:Up}{T:Nat->Prop}{W:World}(h:Me B br bz bp p bs Ab cb id A c s T W)(v:Int):
    Calls aj 215 #[.int .i64 v,.pointer (some ⟨br,0,none⟩),.pointer (some ⟨bz,0,none⟩),.pointer (some ⟨bp,0,none⟩)] W λe W'=> ∃T',Ext T W T' W'/\match zK bs v s with
    | .ok (n,s')=>e=.returned (.int .i64 n)/\Tf B br bz bp p bs id s' T' W'
    | .error er=>e=Jc er/\ ∃s',Tf B br bz bp p bs id s' T' W':=by
  obtain⟨R,hR⟩:=fD (zK bs v s)
  rw[<-hR]
  have HR:=ah hR
  clear hR
  obtain⟨aq,hQ⟩: ∃aq:Ending->World->Prop,aq=λe W'=> ∃T',Ext T W T' W'/\match R with
    | .ok (n,s')=>e=.returned (.int .i64 n)/\Tf B br bz bp p bs id s' T' W'
    | .error er=>e=Jc er/\ ∃s',Tf B br bz bp p bs id s' T' W':=⟨_,rfl⟩
  rw[<-hQ]
  have HQ:=ah hQ
  clear hQ
  have af:=λW2 (hW:Tab W2)=>pF v W2 hW
  have Y:=λW2 (hW:rY W2 p bs s.at_ Ab cb)=>acj hW (by have:=h.len;omega) h.inn (fQ v)
  have av:=h.rp
  have hn:=h.ne
  have bf:=h.pos
  have ax:=h.rd
  have az:=h.tab
  obtain⟨at_,al⟩:=fD s.at_
  rw[<-al]at Y ax
  obtain⟨wd,ap⟩:=fD (fQ v)
  rw[<-ap]at af Y
  unfold arR at Y
  have U:=ah al
  have ad:=ah ap
  have O:=ah h
  clear h al ap
  go_enter func215,ntmps215
  go_wp2_with fail
  apply gu (Stp ([(p,some 1)])) (λW=>Stp.drew _ _) (λ_ _ _ h1 h2=>h1.trans h2) (zG 3 ([(p,some 1)])) (λ_ _ _ h=>h.I7) yO (Wv 3 (λW=>rY W p bs at_ Ab cb)) (λ_ _=>(λ(W W':World) (h:rY W p bs at_ Ab cb) (V:W W')=>h.below V) _ _ (ax) (aq3 gY 1)) (λi bk W W' a4 hp ht e=>(λ(W W':World) (h:rY W p bs at_ Ab cb) (V:W W')=>h.below V) _ _ (hp e) (ht.1 (λej=>a4 (e.trans ej.symm))))
  case lX=>
    intro u
    simp only[bV,List.dropLast,aq9,aP,ay,aA,aB,aT,aJ]
    with_reducible rfl
  case hm=>kernel_rfl
  case hB=>kernel_rfl
  case hA=>kernel_rfl
  case hap=>kernel_rfl
  repeat (first
    | (refine fM.one (acz p bs at_ Ab cb wd) ?_ ?_
       ·
         (intro u w' Q N d
          replace N:=N rfl
          simp[fO,aC,gI,Is]at d
          refine fC ?_ ?_
          ·
            first
            |rfl
            |(simp[aF,yielded,d];done)
          intro ak J
          go_wp2_with (go_at_call 212;apply(Y _ N).mono;rintro e w3⟨rfl,a7,a6⟩);(try simp only[d]at J);exact J _ _ (yN a7) ⟨rfl,a6⟩))
    | (apply fM.is
       ·
         (intro u w' Q N d
          clear N
          simp[fO,aC,gI,Is]at d
          refine fC ?_ ?_
          ·
            first
            |rfl
            |(simp[aF,yielded,d];done)
          intro ak J
          have aR:=(Q.blk av (by simp[hn.1])).cell;have an:=az.I7 Q (by simp;omega)
          go_wp2_with (go_at_call 156;apply(af _ an).mono;rintro e w3⟨rfl,rfl⟩)
          try simp only[d]at J
          refine J _ _ ?_ rfl
          first |exact oM (by decide) |exact Ac (by decide) hb3))
    | (apply fM.is
       ·
         (intro u w' Q N d
          clear N
          simp[fO,aC,gI,Is]at d
          first |(replace d:=d.1.1) |(replace d:=d.1)
          refine fC ?_ ?_
          ·
            first
            |rfl
            |(simp[aF,yielded,d];done)
          intro ak J
          have aR:=(Q.blk av (by simp[hn.1])).cell;have an:=az.I7 Q (by simp;omega)
          go_wp2_with (go_at_call 156;apply(af _ an).mono;rintro e w3⟨rfl,rfl⟩)
          try simp only[d]at J
          refine J _ _ ?_ rfl
          first |exact oM (by decide) |exact Ac (by decide) hb3)))
  refine fM.last (EO ?_) ?_
  ·
    simp only[gQ]
    repeat (refine⟨?_,?_⟩;·first |exact yP _ |exact uZ (λ_ _ _ h V=>h.grow V))
    exact trivial
  intro u w2 aw _ d
  simp only[gQ]at d
  refine⟨rfl,?_⟩
  intro ak J
  have H:=d 7 _ rfl
  have h6:=d 6 _ rfl
  have h3:=(d 3 _ rfl).2
  simp only[gI,Is]at H h6
  clear d
  simp only[H,h6]
  have hg:=O.out.got aw h3 (Yx (by rw[U.out];exact O.out.inn)) (by rw[U.out,ad.out];exact afY _ _ _)
  obtain⟨er,am⟩:=fD (uY bs.length at_ wd)
  obtain⟨x,hx⟩: ∃x:Int,x=EM bs at_ wd:=⟨_,rfl⟩
  have M:=JG v (EM bs at_ wd) w2 hg.1.tab
  rw[<-hx]at M
  rw[<-am,<-hx]
  have ac:Hid (er=uY bs.length s.at_ (fQ v)):=ah (by rw[am,U.out,ad.out])
  have HX:Hid (x=EM bs s.at_ (fQ v)):=ah (by rw[hx,U.out,ad.out])
  have j:Me B br bz bp p bs Ab cb id A c {s with at_:=xH bs.length s.at_ (fQ v)} T w2:=by rw[<-U.out,<-ad.out];exact hg.1
  have HG:=ah j
  have ag:=ah hg.2
  clear am hx h3 h6 H aw Y af hg
  by_cases he:er=0
  ·
    subst he
    have K:uX v x=true->R=.ok (x,if v=7 then {s with at_:=xH bs.length s.at_ (fQ v),size:=x} else {s with at_:=xH bs.length s.at_ (fQ v),v:=s.v++ [x]}):=λhm=>by
      rw[HR.out];unfold zK;rw[<-ac.out,<-HX.out,if_neg (λh=>h rfl),if_neg (by rw[hm];simp)]
    cases hm:uX v x with
    |false=>
      have hu:R=.error 20:=by rw[HR.out];unfold zK;rw[<-ac.out,<-HX.out,if_neg (λh=>h rfl),if_pos hm]
      have HU:=ah hu
      rw[hm]at M
      clear hm hu K j
      go_wp2_with (go_at_call 160;apply M.mono;rintro e w3⟨rfl,aa⟩;obtain rfl:=aa.symm)
      refine⟨rfl,?_⟩
      rw[HQ.out,HU.out]
      exact⟨T,ag.out,rfl,_,_,_,_,_,HG.out⟩
    |true=>
      replace K:=K hm
      rw[hm]at M
      clear hm
      by_cases H:v=7
      ·
        have f7:(v==7)=true:=by simpa using H
        rw[if_pos H]at K
        have HL:=ah K
        have bi:=j.zb.cell
        have bj:=j.zb.frozen 0
        clear K H j
        go_wp2_with (go_at_call 160;apply M.mono;rintro e w3⟨rfl,aa⟩;obtain rfl:=aa.symm)
        have h2:=HG.out.sized x
        rw[HQ.out,HL.out]
        exact⟨T,ag.out.trans h2.2,rfl,_,_,_,_,h2.1⟩
      ·
        have f7:(v==7)=false:=by simpa using H
        rw[if_neg H]at K
        have HL:=ah K
        have Z:=j.pb
        have ae:=j.own
        have bh:=j.size
        have a5:A.map (·.block)≠some bp:=λe=>by have:=(ae.gJ bp e).1;have:=j.lt;omega
        have a9:=j.vl
        have a8:s.v.length+1<=65536:=by have:=O.out.inn;have:=O.out.len;have:=O.out.vl;omega
        have aD:s.v.length+1<=xH bs.length s.at_ (fQ v):=by
          have h1:=PU (n:=bs.length) ac.out.symm
          have:=O.out.vl
          omega
        have aE:=ah aD
        obtain⟨zs,ai⟩:=fD s.v
        obtain⟨z,hz⟩:=fD s.v.length
        simp only at Z ae
        rw[<-hz]at Z a8
        rw[<-ai]at ae
        have ba:Hid (zs.length=z):=ah (by rw[hz,ai])
        have aL:=ah ai
        have HZ:=ah hz
        have bd:=Z.cell
        clear K H hz ai a9 aD j
        go_wp2_with (first
          |(go_at_call 160;apply M.mono;rintro e w3⟨rfl,aa⟩;obtain rfl:=aa.symm)
          |(at_builtin;refine gW abJ rfl _ _ rfl B A c zs z rfl ba.out (ae.below jm) (some ⟨w2,0,none⟩) 1 [x] 1 rfl rfl (BP (fK.new _ _ _)) (by omega) (by decide) (by simp;omega) ?_;intro A3 c3 w5 uq a1 aM;have ar:=lN (arj ((aH w2 w2).alloc ig (.cells #[.int .i64 x] 3)) (A.map (·.block))) a1;have au:fK w5 bp 198 #[.int .i64 id,.slice A z c]:=(ar.block bp Z.lt (λe=>a5 e.symm)).trans Z;have bb:=au.cell;have bc:=au.frozen 1))
        rw[aL.out]at uq
        obtain⟨T',e1,e2⟩:=HG.out.put ar uq (aM.imp (λh=>h) λe=>⟨_,e,by simp⟩) aE.out
        rw[HQ.out,HL.out,HZ.out]
        exact⟨T',ag.out.trans e1,rfl,_,_,_,_,e2⟩
  ·
    have f0:(er != 0)=true:=by simpa using he
    have hu:R=.error er:=by rw[HR.out];unfold zK;rw[<-ac.out,if_pos he]
    have HU:=ah hu
    clear he M hu j
    go_wp2_with fail
    refine⟨rfl,?_⟩
    rw[HQ.out,HU.out]
    exact⟨T,ag.out,rfl,_,_,_,_,_,HG.out⟩
set_option maxRecDepth 20000 in
theorem YB(B br bz bp p:Nat)(bs:List UInt8)(id:Int):Clo 215 #[.pointer (some ⟨br,0,none⟩),.pointer (some ⟨bz,0,none⟩),.pointer (some ⟨bp,0,none⟩)] (zK bs) (Tf B br bz bp p bs id) (λT W=> ∃s,Tf B br bz bp p bs id s T W) (λ_=>10) where
  keep:=λ_ _ _ _ _=>Nat.le_add_right _ _
  below:=λs T W W' ⟨Ab,cb,A,c,h⟩ d=>⟨Ab,cb,A,c,h.below d⟩
  inn:=λs T W ⟨Ab,cb,A,c,h⟩=>h.aon
  bound:=NW bs
  enter:=λ_ _=>rfl
  call:=λv s T W ⟨_,_,_,_,h⟩ _=>(acN h v).mono λe W' h=>by cases j:zK bs v s <;> rw[j]at h <;> exact h
end
theorem Az(H:Nat)(w:World):CallsD aj 214 #[.pointer H] .returning w λe J w'=>e=.returned (.tuple #[])/\J=.returning/\w'=w:=by refine callsD_of_wpS func214 rfl λd cs j=>?_;apply wpS_seq;apply wpS_region;simp[wpOpsS,go_sem,recoverD,j,ntmps214,Exit.thenS];apply wpS_seq;apply wpS_region;simp[wpOpsS,go_sem,Exit.thenS];refine wpS_cond (t:=false) (by simp[Act.eval,Array.replicate]) ?_;simp only[bU,if_false];refine wpS_of_wp (wp_skip ?_);cases d;simp_all[bodyPostS,results,results214]
theorem acO(er:Int)(d:TypeId)(w:World):(Instr.typeAssert (.iface 314 (.agg #[er])) d 314 true).run aj w=.ok (.tuple #[.agg #[er],true]) w:=by simp[Instr.typeAssert,run_underlying underlying314]
theorem vg(d:Nat)(er x:Int)(J:List PanicEntry)(w:World)(j:fK w d 51 #[x]):
    CallsD aj 214 #[.pointer d] (.panicking ({v:=.iface 314 (.agg #[er]),recovered:=false}::J)) w λe O w'=>
      e=.returned (.tuple #[])/\O=.panicking ({v:=.iface 314 (.agg #[er]),recovered:=true}::J)/\w'=(w.alloc (.cells #[er] 314)).setCell ⟨d,0,none⟩ er:=by
  have H:=j.below (gY.alloc ig (.cells #[er] 314)) j.lt
  have hc:=H.cell
  have N:=H.frozen 0
  have hn:=fK.new w 314 #[er]
  have K:=hn.cell
  refine callsD_of_wpS func214 rfl λQ cs M=>?_
  apply wpS_seq
  apply wpS_region
  simp[wpOpsS,go_sem,recoverD,M,ntmps214,Exit.thenS]
  apply wpS_seq
  apply wpS_region
  simp[wpOpsS,go_sem,Exit.thenS]
  refine wpS_cond (t:=true) (by simp[Act.eval,Array.replicate]) ?_
  simp only[if_true]
  apply wpS_seq
  apply wpS_region
  simp[wpOpsS,go_sem,Exit.thenS,acO]
  apply wpS_seq
  apply wpS_seq
  apply wpS_region
  simp[wpOpsS,go_sem,Exit.thenS]
  refine wpS_cond (t:=false) (by simp[Act.eval,Array.replicate]) ?_
  simp only[bU,if_false]
  refine wpS_of_wp (wp_skip ?_)
  simp only[Exit.thenS]
  apply wpS_region
  simp[wpOpsS,go_sem,hc,N,K,bodyPostS,results,results214]
end Go.Proofs.YthnmgjngniciaaaGreatDoor
