/- Parts. -/
import Derived.Test.YthnmgjngniciaaaGreatDoorM32
import Derived.Shelf.Slices.SearchI
import Derived.Shelf.Slices.Empties
import Derived.Shelf.Spec.SlicesInsertGrow
import Derived.Shelf.SlicesE.DeleteFunc
import Derived.Test.YthnmgjngniciaaaGreatDoorM34
set_option linter.all false
set_option maxHeartbeats 16000000
set_option maxRecDepth 8000
open Array renaming getElem?_append_left→dS,getElem?_eq_getElem→cO
open Bool renaming and_eq_true→bM
open List renaming getD_eq_getElem?_getD→bH,getElem?_append_left→dP,getElem?_eq_getElem→aI,getElem?_eq_none→dQ,getElem?_eq_some_iff→aX,getElem?_map→bW,getElem?_take_of_lt→dG,length_eq_zero_iff→dh,length_take→dX,mem_singleton→dN,replicate→eH
open Nat renaming add_zero→bI,le_refl→aW,le_trans→aG,lt_of_lt_of_eq→fA,zero_add→aJ,zero_le→aV
open Option renaming map_some→eF
namespace Go.Proofs.YthnmgjngniciaaaGreatDoor
open Go.RowKit Go.Shelf Tryz
open Below renaming heap_setCell→aN,refl→aH
open Go.Lib renaming hid→ah
open Tryz renaming prog→aj,underlying3→bG,underlying4→dL
open Value renaming cells→aS,oneCell'→aK
open Value.slice renaming injEq→dV
open World renaming setCell→dD
variable{F:Cp}{s s2:Cs}{now:Int}{m:Ms}{a:Vx}{Bm Bq g:Nat}{t:Tp}{tm:jl}{W w0:World}
section
def Pd.BI:Go.Shelf.Ren:=⟨fun |21=>177 |27=>228 |28=>229 |35=>262 |39=>277 |n=>n,fun |22=>22 |3=>3 |4=>4 |0=>0 |n=>n,fun |n=>n⟩
theorem Pd.Jh:Go.Proofs.Lays2.n21 aj Pd.BI where
  mixed:=by rfl
  f21:=Tryz.func177.trans (congrArg some (by rfl))
  f27:=Tryz.func228.trans (congrArg some (by rfl))
  f28:=Tryz.func229.trans (congrArg some (by rfl))
  f35:=Tryz.func262.trans (congrArg some (by rfl))
  f39:=Tryz.func277.trans (congrArg some (by rfl))
  t0:=underlying0
  a0:=isAgg0
  z0:=sizeOf0
  v0:=zeroValue0
  t3:=bG
  a3:=isAgg3
  z3:=sizeOf3
  v3:=zeroValue3
  t4:=dL
  a4:=isAgg4
  z4:=sizeOf4
  v4:=zeroValue4
  t22:=underlying22
  a22:=isAgg22
  z22:=sizeOf22
  v22:=zeroValue22
  i3:=by kernel_rfl
def Pd.U2:Go.Shelf.Ren:=⟨fun |25=>176 |31=>226 |32=>227 |37=>148 |n=>n,fun |22=>22 |3=>3 |4=>4 |40=>232 |0=>0 |n=>n,fun |n=>n⟩
theorem Pd.Y5:Go.Proofs.Lays2.n25 aj Pd.U2 where
  mixed:=by rfl
  f25:=Tryz.func176.trans (congrArg some (by rfl))
  f31:=Tryz.func226.trans (congrArg some (by rfl))
  f32:=Tryz.func227.trans (congrArg some (by rfl))
  f37:=Tryz.func148.trans (congrArg some (by rfl))
  t0:=underlying0
  a0:=isAgg0
  z0:=sizeOf0
  v0:=zeroValue0
  t3:=bG
  a3:=isAgg3
  z3:=sizeOf3
  v3:=zeroValue3
  t4:=dL
  a4:=isAgg4
  z4:=sizeOf4
  v4:=zeroValue4
  t22:=underlying22
  a22:=isAgg22
  z22:=sizeOf22
  v22:=zeroValue22
  t40:=underlying232
  a40:=isAgg232
  z40:=sizeOf232
  v40:=zeroValue232
def zu:Go.Shelf.Ren:=⟨fun |10=>178 |6=>125 |n=>n,fun |22=>22 |23=>3 |25=>155 |3=>3 |4=>4 |0=>0 |n=>n,fun |n=>n⟩
theorem U3:Go.Proofs.SlLaysH.n10 aj zu where
  mixed:=by rfl
  f6:=⟨ "slices.IndexFunc[[]int,int]",by decide,Tryz.func125.trans (congrArg some (by rfl))⟩
  f10:=⟨ "slices.DeleteFunc[[]int,int]",by decide,Tryz.func178.trans (congrArg some (by rfl))⟩
  t0:=underlying0
  a0:=isAgg0
  z0:=sizeOf0
  v0:=zeroValue0
  t3:=bG
  a3:=isAgg3
  z3:=sizeOf3
  v3:=zeroValue3
  t4:=dL
  a4:=isAgg4
  z4:=sizeOf4
  v4:=zeroValue4
  t22:=underlying22
  a22:=isAgg22
  z22:=sizeOf22
  v22:=zeroValue22
  a23:=isAgg3
  z23:=sizeOf3
  t25:=underlying155
  a25:=isAgg155
  z25:=sizeOf155
  v25:=zeroValue155
theorem Ce{w:World}{b off:Nat}{l:List Int}(h:fE aq7 w (some ⟨b,off,none⟩) l)(d:Nat)(j:d<l.length):w.cell? ⟨b,off+d,none⟩=some (l.getD d 0:Int):=by
 obtain⟨H,J,e,_,hc⟩:=h.get (aI j);obtain⟨q1,q2⟩:b=H/\off=J:=by simpa using e
 subst q1;subst q2;have:=hc 0 (.int .i64 l[d]) rfl;rw[show aq7.k=1 from rfl,Nat.mul_one,bI]at this;rw[this,bH,aI j];rfl
theorem U4: ∀ {l:List Int} {a:Int},kD a l=true->l.Pairwise (· <= ·)/\ ∀x∈l,a<x/\x<=15:=by intro l;induction l with|nil=>simp|cons n l H=>intro a h;rw[kD]at h;simp only[bM,decide_eq_true_eq]at h;obtain⟨d,J⟩:=H h.2;refine⟨List.Pairwise.cons (λx j=>by grind) d,λx j=>?_⟩;grind
theorem anm(A:Option Addr)(n c:Nat)(l:List Int)(x:Int)(w:World)(H:fE aq7 w A l)(hn:l.length=n)(N:n<=1000)(K:l.Pairwise (· <= ·)):Calls aj 176 #[.slice A n c,x] w λe w'=>e=.returned (.tuple #[(Hg l x:Int),.bool (l.contains x)])/\w w':=by cases l with|nil=>subst hn;exact(Any.slices_BinarySearch_int_empty Pd.Y5 A c x w).mono λe w' ⟨d,j⟩=>⟨d,j▸aH _ _⟩|cons y l=>obtain⟨b,off,e,_,_⟩:=H.get (i:=0) (x:=y) rfl;subst e;have:=Any.slices_BinarySearch_int Pd.Y5 b off n c (y::l) x w (by omega) (by omega) (λM J=>Ce H M J) (by rw[<-hn,List.take_length];exact K);refine this.mono λe w' ⟨d,q,j⟩=>⟨?_,by rw[j];exact aq3 gY q⟩;rw[d,<-hn,List.take_length];rfl
theorem BJ{w:World}{base g c:Nat}{l:List Int}{cur:Array Value}(H:fK w g 3 cur)(M:base<=g)(hc:cur.size=c)(K:l.length<=c)(hm:c<=maxLen)(J: ∀d,d<l.length->cur[d]? =some (l.getD d 0:Int)):aq1 aq7 3 w base g c l:=by
 refine⟨by rw[aq7.flat_length],.inr ⟨g,c,cur,rfl,M,H,K,hm,by rw[hc];exact(Nat.mul_one c).symm,?_⟩⟩;apply List.ext_getElem?;intro d;rw[adl];by_cases j:d<l.length;·rw[dG (by rw[show aq7.k=1 from rfl,Nat.mul_one];exact j),Array.getElem?_toList,J d j,bW,aI j,bH,aI j];rfl
 ·rw[dQ (by rw[dX,show aq7.k=1 from rfl];omega),dQ (by simp;omega)]
theorem Y6(l:List Int)(i:Nat)(x:Int)(hi:i<=l.length):(l.take i++x::l.drop i).length=l.length+1:=by grind
theorem FV(l:List Int)(i:Nat)(x:Int)(hi:i<=l.length)(d:Nat)(j:d<l.length+1):(l.take i++x::l.drop i).getD d 0=if d<i then l.getD d 0 else if d=i then x else l.getD (d-1) 0:=by grind
def QN (base:Nat) (A:Option Addr) (w:World) (l:List Int) (e:Ending) (w':World):Prop:= ∃A' c',e=.returned (.slice A' l.length c')/\aq1 aq7 3 w' base A' c' l/\w.grownBy w' (A.map (·.block))/\(A'.map (·.block)=A.map (·.block)\/A'.map (·.block)=some w.heap.size)
theorem OG{w:World}{g:Nat}{t:TypeId}{cs:Array Value}(h:fK w g t cs):w.shape? g=some (t,cs.size):=by unfold fK at h;simp[World.shape?,h]
theorem ano(base:Nat)(A:Option Addr)(n c:Nat)(l:List Int)(i:Nat)(x:Int)(U:Nat)(w:World)(Q:aq1 aq7 3 w base A c l)(hn:l.length=n)(hl:n<=1000)(hi:i<=n)(hv:fK w U 3 #[x])(aM:A.map (·.block)≠some U)(au:base<=w.heap.size):Calls aj 177 #[.slice A n c,i,.slice U 1 1] w (QN base A w (l.take i++x::l.drop i)):=by
 have ag:=Q.cap;have ak:(l.take i++x::l.drop i).length=n+1:=by rw[Y6 l i x (by omega),hn]
 have am: ∀b off,A=some ⟨b,off,none⟩-> ∀d v,(l.map λn=>Value.int .i64 n)[d]? =some v->w.cell? ⟨b,off+d,none⟩=some v:=by
  intro b off e d v j;subst e;have aq:d<l.length:=by have:=(aX.1 j).1;simpa using this
  rw[Ce Q.rows d aq,bH,aI aq];rw[bW,aI aq]at j;exact j
 have al: ∀(d:Nat) v,([Value.int .i64 x]:List Value)[d]? =some v->w.cell? ⟨U,0+d,none⟩=some v:=by intro d v j;rw[aJ,hv.cell,<-Array.getElem?_toList];exact j
 have ar: ∀v∈(l.map λn=>Value.int .i64 n),v.oneCell'=true:=by intro v hv;simp only[List.mem_map]at hv;obtain⟨n,_,rfl⟩:=hv;rfl
 have af: ∀v∈([Value.int .i64 x]:List Value),v.oneCell'=true:=by simp[aK]
 by_cases az:n+1<=c
 ·obtain⟨g,cur,rfl,ap,O,aD,_,_,a1⟩:=Q.blk (by rintro rfl;rcases Q.2 with⟨e,_⟩ |⟨g,cap,cur,e,_⟩;(·simp only[dV]at e;omega);·simp only[dV]at e;cases e.1);have ae:cur.size=c:=by rw[aD];exact Nat.mul_one c
  have aw: ∀d,d<n->cur[d]? =some (l.getD d 0:Int):=λd j=>by have:=Ce Q.rows d (by omega);rwa [aJ,O.cell]at this
  have aL:U≠g:=λe=>aM (by rw[e];rfl);by_cases an:i<n;·have:=Any2.slices_Insert_int_shift Pd.Jh g 0 n c i U 0 1 1 (l.map λn=>Value.int .i64 n) [x] w an (by decide) az (by have:=ag.2;unfold maxLen at this;omega) aL (by simpa using hn) rfl (am g 0 rfl) (λd j=>by rw[aJ,O.cell,cO (by omega)];rfl) (λd _=>O.frozen _) al ar af 3 3 1 cur.size (OG hv) (OG O) (by omega) (hv.frozen _) (hv.frozen _);refine this.mono λe w' ⟨N,H⟩=>?_;(have hB:fK w' g 3 (arh (arh cur (0+(i+1)) ((l.map λn=>Value.int .i64 n).drop i)) (0+i) [x]):=by rw[H];exact fK.yE _ _ _ _ (fK.yE _ _ _ _ O));obtain⟨s1,s2,s3,s4,s5⟩:=jX g ((l.map λn=>Value.int .i64 n).drop i) (0+(i+1)) w.drew;obtain⟨r1,V,Y,Z,r5⟩:=jX g [x] (0+i) (w.drew.setCells g (0+(i+1)) ((l.map λn=>Value.int .i64 n).drop i));rw[<-H]at r1 V Y Z r5;refine⟨g,c,by rw[ak];exact N,BJ hB ap (by rw[lQ,lQ];exact ae) (by omega) ag.2 ?_,⟨Y.trans s3,Z.trans s4,r5.trans s5,by rw[r1,s1];exact aW _,λk _ M=>(V k (λe=>M (by rw[e];rfl))).trans (s2 k (λe=>M (by rw[e];rfl)))⟩,.inl rfl⟩;intro d j;rw[FV l i x (by omega) d (by omega)];simp only[aJ];rw[tu _ _ _ _ (by rw[lQ,ae];simp;omega)];simp only[List.length_singleton];by_cases J:d=i;(·rw[if_pos ⟨by omega,by omega⟩,if_neg (by omega),if_pos J,J,Nat.sub_self];rfl);·rw[if_neg (by omega),tu _ _ _ _ (by simp[ae,hn];omega)];by_cases h4:d<i;(·rw[if_neg (by omega),if_pos h4];exact aw d (by omega));·rw[if_pos ⟨by omega,by simp;omega⟩,if_neg h4,if_neg J,List.getElem?_drop,show i+(d-(i+1))=d-1 by omega,bW,aI (by omega),bH,aI (by omega)];rfl
  ·(obtain rfl:i=n:=by omega);have:=Any2.slices_Insert_int_end_room Pd.Jh g 0 i c U 0 1 1 [x] w (by decide) az (by have:=ag.2;unfold maxLen at this;omega) rfl (λd j=>by rw[aJ,O.cell,cO (by omega)];rfl) (λd _=>O.frozen _) al af;refine this.mono λe w' ⟨N,H⟩=>?_;(have hB:fK w' g 3 (arh cur (0+i) [x]):=by rw[H];exact fK.yE _ _ _ _ O);obtain⟨r1,V,Y,Z,r5⟩:=jX g [x] (0+i) w;rw[<-H]at r1 V Y Z r5;refine⟨g,c,by rw[ak];exact N,BJ hB ap (by rw[lQ];exact ae) (by omega) ag.2 ?_,⟨Y,Z,r5,by rw[r1];exact aW _,λk _ M=>V k (λe=>M (by rw[e];rfl))⟩,.inl rfl⟩;intro d j;rw[FV l i x (by omega) d (by omega)];simp only[aJ];rw[tu _ _ _ _ (by rw[ae];simp;omega)];simp only[List.length_singleton];by_cases J:d=i;(·rw[if_pos ⟨by omega,by omega⟩,if_neg (by omega),if_pos J,J,Nat.sub_self];rfl);·rw[if_neg (by omega),if_pos (by omega)];exact aw d (by omega)
 ·have av:c<n+1:=by omega
  have ax:=grownCap_ge w (n+1) c 3;have ai:grownCap w (n+1) c 3<=maxLen:=grownCap_le_maxLen w (n+1) c 3 (by unfold maxLen;omega);by_cases an:i<n;·obtain⟨g,cur,rfl,ap,O,aD,_,_,a1⟩:=Q.blk (Q.some_ (by omega));have:=Any2.slices_Insert_int_grow Pd.Jh g 0 n c i U 0 1 1 (l.map λn=>Value.int .i64 n) [x] w an (by decide) (by omega) av (by omega) (by simpa using hn) rfl (am g 0 rfl) al ar af;refine this.mono λe w' ⟨N,H⟩=>?_;obtain⟨cc,ac⟩:=fD (grownCap w (n+1) c 3);have e3:Pd.BI.t 3=3:=rfl;rw[e3,<-ac]at N H;rw[<-ac]at ax ai;obtain⟨o,aa⟩: ∃o:Array Value,o=((l.map λn=>Value.int .i64 n).take i).toArray++Builtin.zeroCells (Value.int .i64 0).cells (n+1-i)++Builtin.zeroCells (Value.int .i64 0).cells (cc-(n+1)):=⟨_,rfl⟩;(have ad:o.size=cc:=by rw[aa];simp[Builtin.zeroCells,aS];omega);(have aR: ∀d,d<i->o[d]? =some (l.getD d 0:Int):=by intro d j;rw[aa,Array.append_assoc,dS (by simp;omega)];simp only[List.getElem?_toArray];rw[dG j,bW,aI (by omega),bH,aI (by omega)];rfl);rw[<-aa]at H;have aE:fK (w.alloc (.cells o 3)).drew w 3 o:=fK.new w 3 o;(have hB:fK w' w 3 (arh (arh o i [x]) (i+1) ((l.map λn=>Value.int .i64 n).drop i)):=by rw[H];exact fK.yE _ _ _ _ (fK.yE _ _ _ _ aE));(have K:w w':=by obtain⟨s1,s2,s3,s4,s5⟩:=jX w [x] i (w.alloc (.cells o 3)).drew;obtain⟨r1,V,Y,Z,r5⟩:=jX w ((l.map λn=>Value.int .i64 n).drop i) (i+1) ((w.alloc (.cells o 3)).drew.setCells w i [x]).drew;rw[<-H]at r1 V Y Z r5;have h0:w (w.alloc (.cells o 3)):=gY.alloc ig _;exact⟨Y.trans (s3.trans h0.os),Z.trans (s4.trans h0.tape),r5.trans (s5.trans h0.output),by rw[r1];show w.heap.size<=((w.alloc (.cells o 3)).drew.setCells w i [x]).heap.size;rw[s1];exact h0.size,λk M=>(V k (by omega)).trans ((s2 k (by omega)).trans (h0.block k M))⟩);refine⟨w,cc,by rw[ak];exact N,BJ hB au (by rw[lQ,lQ];exact ad) (by omega) ai ?_,⟨K.os,K.tape,K.output,K.size,λk M _=>K.block k M⟩,.inr rfl⟩;intro d j;rw[FV l i x (by omega) d (by omega)];rw[tu _ _ _ _ (by rw[lQ,ad];simp;omega)];by_cases h4:i<d;(·rw[if_pos ⟨by omega,by simp;omega⟩,if_neg (by omega),if_neg (by omega),List.getElem?_drop,show i+(d-(i+1))=d-1 by omega,bW,aI (by omega),bH,aI (by omega)];rfl);·rw[if_neg (by omega),tu _ _ _ _ (by rw[ad];simp;omega)];simp only[List.length_singleton];by_cases J:d=i;(·rw[if_pos ⟨by omega,by omega⟩,if_neg (by omega),if_pos J,J,Nat.sub_self];rfl);·rw[if_neg (by omega),if_pos (by omega)];exact aR d (by omega)
  ·obtain rfl:i=n:=by omega
   have := Any2.slices_Insert_int_end_grow Pd.Jh A i c U 0 1 1 (l.map λn=> Value.int .i64 n) [x] w (by decide) (by omega) av (by omega) (by simpa using hn) rfl (by
       rintro rfl
       rcases Q.2 with⟨e,h0⟩ |⟨g,cap,cur,e,_⟩
       ·
         omega
       ·
         simp only[dV]at e;cases e.1) (λa ea d v j=>by
       obtain⟨g,cur,eA,_⟩:=Q.blk (by rw[ea];simp)
       rw[eA]at ea
       injection ea with ea
       rw[<-ea]
       rw[Addr.add_lit]
       exact am g 0 eA d v j) al af
   refine this.mono λe w' ⟨N,H⟩=>?_;obtain⟨cc,ac⟩:=fD (grownCap w (i+1) c 3);have e3:Pd.BI.t 3=3:=rfl;rw[e3,<-ac]at N H;rw[<-ac]at ax ai;obtain⟨o,aa⟩: ∃o:Array Value,o=((l.map λn=>Value.int .i64 n)++ [Value.int .i64 x]).toArray++Builtin.zeroCells (Value.int .i64 0).cells (cc-(i+1)):=⟨_,rfl⟩;(have ad:o.size=cc:=by rw[aa];simp[Builtin.zeroCells,aS];omega);rw[<-aa]at H;(have hB:fK w' w 3 o:=by rw[H];exact fK.new w.drew 3 o);(have K:w w':=by rw[H];exact(aq3 gY 1).alloc ig _);refine⟨w,cc,by rw[ak];exact N,BJ hB au ad (by omega) ai ?_,⟨K.os,K.tape,K.output,K.size,λk M _=>K.block k M⟩,.inr rfl⟩;intro d j;rw[FV l i x (by omega) d (by omega),aa,dS (by simp;omega)];simp only[List.getElem?_toArray];by_cases J:d=i;(·rw[if_neg (by omega),if_pos J,List.getElem?_append_right (by simp;omega)];simp[J,hn]);·rw[if_pos (by omega),dP (by simp;omega),bW,aI (by omega),bH,aI (by omega)];rfl
theorem U5: ∀args w,(callFunc 179 args).run aj w=.ok (.enter 179 args) w:=enters_of func179 (by rfl) rfl
theorem Y7(x j:Int)(b3 H J d cv:Nat)(W:World)(M:W.cell? ⟨b3,4,none⟩=some (.slice (some ⟨H,J,none⟩) d cv))(K:0<d)(N:W.cell? ⟨H,J,none⟩=some j):FnGives aj 179 #[.pointer b3] #[x] (.bool (x==j)) W:=by show Calls aj 179 #[x,.pointer b3] W _;go_enter func179,ntmps179;go_wp2_with fail;go_ret;exact⟨rfl,0,rfl⟩
def Ji (base:Nat) (A:Option Addr) (w:World) (l:List Int) (e:Ending) (w':World):Prop:= ∃c',e=.returned (.slice A l.length c')/\aq1 aq7 3 w' base A c' l/\w.grownBy w' (A.map (·.block))
open Go.Lib Go.Sort in
theorem XU{w:World}{g:Nat}{t:TypeId}{cur:Array Value}(h:fK w g t cur)(d:Array Int):fK (putRow (Value.int .i64) w g 0 d) g t (putCells (Value.int .i64) 0 d cur)/\ ∀k,k≠g->(putRow (Value.int .i64) w g 0 d).heap[k]? =w.heap[k]? :=by
 unfold fK at*;constructor;·simp[putRow,mapBlock,Array.getElem?_modify,h,onCells]
 ·intro k j;simp[putRow,mapBlock,Array.getElem?_modify,Ne.symm j]
open Go.Lib Go.Sort in
theorem anp(base:Nat)(A:Option Addr)(n c:Nat)(l:List Int)(w:World)(N:aq1 aq7 3 w base A c l)(hn:l.length=n)(hl:n<=1000)(d:Int)(b3 j K Q cv:Nat)(Z:w.cell? ⟨b3,4,none⟩=some (.slice (some ⟨j,K,none⟩) Q cv))(Y:0<Q)(ac:w.cell? ⟨j,K,none⟩=some d)(aa:b3<w.heap.size)(ag:j<w.heap.size)(av:A.map (·.block)≠some b3)(aw:A.map (·.block)≠some j):Calls aj 178 #[.slice A n c,.func (.func 179) #[] #[.pointer b3]] w (Ji base A w (l.filter λx=> !(x==d))):=by
 have hp:PredAt aj 179 #[.pointer b3] (Value.int .i64) (λx=>x==d) w:=λW x J=>Y7 x d b3 j K Q cv W ((J.cell (p:=⟨b3,4,none⟩) aa).trans Z) Y ((J.cell (p:=⟨j,K,none⟩) ag).trans ac);cases A with
 |none=>
  have ap:l= []:=by rcases N.2 with⟨_,h0⟩ |⟨g,cap,cur,e,_⟩;(·exact dh.1 h0);·simp only[dV]at e;cases e.1
  subst ap;subst hn;have ae:=AnyE.slices_IndexFunc_empty (P:=aj) (ρ:=zu) {U3 with} none c (.func (.func 179) #[] #[.pointer b3]) w;have ei:zu.f 6=125:=rfl;rw[ei]at ae;have hz:([]:List Int).length=0:=rfl;rw[hz];have ai:c=0:=by rcases N.2 with⟨e,_⟩ |⟨g,cap,cur,e,_⟩;(·simp only[dV]at e;exact e.2.2);·simp only[dV]at e;cases e.1
  subst ai;have al:Ji base none w ([].filter λx=> !(x==d)) (.returned nS) w:=⟨0,rfl,aq1.nil _ _,⟨rfl,rfl,rfl,aW _,λ_ _ _=>rfl⟩⟩;generalize Ji base none w ([].filter λx=> !(x==d))=PP at*;go_enter func178,ntmps178;go_wp2_with((with_reducible refine ae.mono ?_);rintro e w1⟨rfl,hw⟩;obtain rfl:=hw.symm);exact al
 |some a=>
  obtain⟨g,cur,e,ar,J,az,aq,ak,_⟩:=N.blk (by simp);injection e with e;subst e;have aD:cur.size=c:=by rw[az];exact Nat.mul_one c
  have am:b3≠g:=λe=>av (by rw[e];rfl);have an:j≠g:=λe=>aw (by rw[e];rfl);have ax:PredOver aj 179 #[.pointer b3] (Value.int .i64) (λx=>x==d) g 0 l.toArray.size w:=λk os dk x _=>by(have key: ∀(b i:Nat),b<w.heap.size->b≠g->(sortWorld (Value.int .i64) w g 0 k dk os).cell? ⟨b,i,none⟩=w.cell? ⟨b,i,none⟩:=by intro b i au V;unfold sortWorld;rw[cell?_grow _ _ _ (by show b<(putRow _ _ _ _ _).heap.size;rw[size_putRow];exact au),cell?_putRow_other _ _ g 0 _ _ (Or.inl V)];rfl);exact Y7 x d b3 j K Q cv _ ((key _ _ aa am).trans Z) Y ((key _ _ ag an).trans ac)
  have hH:Holds (Value.int .i64) w g 0 l.toArray:=λO M=>by(have af:O<l.length:=by simpa using M);refine⟨?_,J.frozen _⟩;rw[Ce N.rows O af];simp[bH,af,getElem!_pos]
  have:=AnyE.slices_DeleteFunc U3 (Value.int .i64) (λ_=>rfl) (λx=>x==d) 179 #[.pointer b3] U5 0 zeroValue3 g 0 c l.toArray w hp ax hH (by simp;omega) (by simpa using aq);have ez:l.toArray.size=n:=by simpa using hn
  rw[ez]at this;refine this.mono λe w' ⟨U,q,H⟩=>?_;obtain⟨r,hr⟩: ∃r,r=l.filter λx=> !(x==d):=⟨_,rfl⟩;have aL:r.length<=n:=by rw[hr,<-hn];exact List.length_filter_le _ _
  simp only at U H;rw[<-hr]at U H ⊢;obtain⟨hB,hk⟩:=XU (w:=Go.Sort.ahead w q) (t:=3) (cur:=cur) J (r++eH (n-r.length) 0).toArray;rw[<-H]at hB hk;have aE:(putCells (Value.int .i64) 0 (r++eH (n-r.length) 0).toArray cur).size=c:=by unfold putCells;rw[Array.size_mapIdx];exact aD
  have ad:(r++eH (n-r.length) (0:Int)).toArray.size=n:=by simp;omega
  refine⟨c,U,BJ hB ar aE (by omega) ak ?_,⟨by rw[H];rfl,by rw[H];rfl,by rw[H];rfl,by rw[H,size_putRow];exact aW _,λk _ V=>hk k (λe=>V (by rw[e];rfl))⟩⟩;intro O M;unfold putCells;rw[Array.getElem?_mapIdx,cO (by omega)];simp only[eF];rw[if_pos ⟨aV _,by rw[aJ,ad];omega⟩,Nat.sub_zero];rw[getElem!_pos _ O (by rw[ad];omega)];simp only[List.getElem_toArray];rw[List.getElem_append_left M,bH,aI M];rfl
end
theorem Ec(c:Cp)(q:P7):(nM c q).x=c.x:=by unfold nM;split <;> rfl
theorem Ho(c:Cp)(q:P7):(nM c q).out.length<=c.out.length+1:=by unfold nM;split <;> simp[Cp.say]
theorem akQ{last:Int}(h: -1<=last): -1<=Z5 last now:=by unfold Z5;omega
theorem vI{now:Int}{c:Cp}{id:Int}{v:List Int}(h: -1<=c.x.last): -1<=(nY now c id v).1.x.last:=by
 unfold nY;split;·exact h
 split;·exact h
 split;·exact h
 split;·exact h
 ·show -1<=(nM _ _).x.last;rw[Ec];exact akQ h
theorem yA{now:Int}{c:Cp}{id:Int}{v:List Int}:(nY now c id v).1.out.length<=c.out.length+1:=by
 unfold nY;split;·simp
 split;·simp
 split;·simp
 split;·simp
 ·exact Ho _ _
structure IX (w0 W:World) (Bq g:Nat) (t:Tp) (tm:jl) (now:Int) (s:Cs) (m:Ms) (a:Vx) (Bm:Nat):Prop where
  tp:jE w0 t tm
  tab:Tab w0
  st:iJ w0 Bq g tm now s W
  ms:uP W Bm m a
  vr: ∀p∈m.p,∀x∈p.v,0<=x/\x<=4294967295
  lo: ∀k,zO g s k->k<Bm
  ol:s.out.length<=60
  la: -1<=s.x.last
theorem uP.below{w w':World}{B:Nat}(h:uP w B m a)(d:w w'):uP w' B m a:=by obtain⟨xs,j,H⟩:=h.p;exact {h with v:=h.v.below d,p:=⟨xs,j.below d,rH.ji H (jV.of_below d (λ_=>False)) (λ_ h=>h.elim)⟩}
theorem IX.below{W':World}(h:IX w0 W Bq g t tm now s m a Bm)(d:W W'):IX w0 W' Bq g t tm now s m a Bm:={h with st:=h.st.grow d,ms:=h.ms.below d}
theorem Ls(J:Tab w0)(h:iJ w0 Bq g tm now s W)(id x:Int)(M:s.out.length<=90)(K: -1<=s.x.last):Calls aj 61 #[.pointer g,id,.slice W 1 1] (W.alloc (.cells #[x] 3)) (iK w0 Bq g tm now s W (nY now s.plain id [x])):=by have d:W (W.alloc (.cells #[x] 3)):=gY.alloc ig _;exact(UN J (h.grow d) id [x] W 1 1 (BP (fK.new _ _ _)) rfl ig (by simp) M K).mono λe w' ⟨j,H⟩=>⟨j,pY.trans (iw.of_below d) H⟩
theorem akR(J:Tab w0)(h:iJ w0 Bq g tm now s W)(id x y:Int)(M:s.out.length<=90)(K: -1<=s.x.last):Calls aj 61 #[.pointer g,id,.slice W 2 2] (W.alloc (.cells #[x,y] 3)) (iK w0 Bq g tm now s W (nY now s.plain id [x,y])):=by have d:W (W.alloc (.cells #[x,y] 3)):=gY.alloc ig _;exact(UN J (h.grow d) id [x,y] W 2 2 (DZ [x,y] (fK.new _ _ _)) rfl ig (by simp) M K).mono λe w' ⟨j,H⟩=>⟨j,pY.trans (iw.of_below d) H⟩
theorem aeQ(d:Tab w0)(h:iJ w0 Bq g tm now s W)(id:Int)(H:s.out.length<=90)(j: -1<=s.x.last):Calls aj 61 #[.pointer g,id,nS] W (iK w0 Bq g tm now s W (nY now s.plain id [])):=UN d h id [] none 0 0 (fE.nil _ _) rfl ig (aV _) H j
theorem ahg(h:IX w0 W Bq g t tm now s m a Bm)(hm:m.id=3):Calls aj 121 #[.pointer g,oC m a] W (nT w0 Bq g tm now s W (kT t now s.plain m)):=by
 obtain⟨R,J⟩:=fD (kT t now s.plain m);rw[<-J];have Q:=ah J;have j:Own W _ [_]:=Own.jD W 196 (oC m a);obtain⟨U,H⟩:=fD (W.alloc (.cells (oC m a) 196));have K:W U:=by rw[H];exact j.below
 rw[<-H]at j;have d:=h.below K;have M:=j.b0.cell;obtain⟨id,N⟩:=fD m.id;have Z:=M 0;rw[show(oC m a)[0]? =some (.int .i64 id) by rw[N];rfl]at Z;have O:=ah N;clear M;have ac:(id==32)=false:=by rw[O.out,hm];rfl
 have t3:(id==3)=true:=by rw[O.out,hm];rfl
 have Y:Hid (R=FQ t now s.plain m):=ah (by rw[Q.out];unfold kT;rw[if_neg (by rw[hm];decide),if_pos hm]);have aa:=akP d.tp d.tab d.st m a Bm d.ms d.vr;go_enter func121,ntmps121;go_upto_region 1 with fail;rw[<-H];clear H;go_wp2_with(first|((with_reducible refine gK j ?_ _ rfl rfl _ underlying196 rfl (by kernel_rfl) ?_);(·first|rfl))|((with_reducible refine aa.mono ?_);rintro fU fJ⟨rfl,V⟩));go_end0;rw[Y.out];exact⟨rfl,pY.trans (iw.of_below K) V⟩
theorem QO(j:s2.plain=F)(d:F.out=s.plain.out)(h:s.out.length<=60):s2.out.length<=90:=by
 have e:s2.plain.out=s.plain.out:=by grind
 have e2:s2.out=s.out:=e;grind
theorem QS(j:s2.plain=F)(d:F.x.last=s.plain.x.last)(h: -1<=s.x.last): -1<=s2.x.last:=by
 have e:s2.plain.x.last=s.plain.x.last:=by grind
 have e2:s2.x.last=s.x.last:=e;omega
theorem zy{t:Tp}{c:Cp}{m:Ms}:(oW t c m).1.x.last=c.x.last/\(oW t c m).1.out=c.out:=by
 unfold oW;split;·simp
 split;·simp
 split;·simp
 split;·simp
 ·exact⟨rfl,rfl⟩
theorem Ed{c:Cp}:(Bo t c m).1.x.last=c.x.last/\(Bo t c m).1.out=c.out:=by
 unfold Bo;split;·simp
 split;·simp
 split;·exact⟨rfl,rfl⟩
 ·exact⟨rfl,rfl⟩
theorem aeR(h:IX w0 W Bq g t tm now s m a Bm)(hm:m.id=39):Calls aj 121 #[.pointer g,oC m a] W (nT w0 Bq g tm now s W (kT t now s.plain m)):=by
 obtain⟨R,K⟩:=fD (kT t now s.plain m);rw[<-K];have U:=ah K;have H:Own W _ [_]:=Own.jD W 196 (oC m a);obtain⟨V,j⟩:=fD (W.alloc (.cells (oC m a) 196));have M:W V:=by rw[j];exact H.below
 rw[<-j]at H;have J:=h.below M;have N:=H.b0.cell;obtain⟨id,O⟩:=fD m.id;have aa:=N 0;rw[show(oC m a)[0]? =some (.int .i64 id) by rw[O];rfl]at aa;have d:=ah O;clear N;have af:(id==32)=false:=by rw[d.out,hm];rfl
 have t3:(id==3)=false:=by rw[d.out,hm];rfl
 have t9:(id==9)=false:=by rw[d.out,hm];rfl
 have ac:(id==15)=false:=by rw[d.out,hm];rfl
 have ad:(id==16)=false:=by rw[d.out,hm];rfl
 have ae:(id==18)=false:=by rw[d.out,hm];rfl
 have ag:(id==39)=true:=by rw[d.out,hm];rfl
 have Z:Hid (R=(QJ s.plain 0).1):=ah (by rw[U.out];unfold kT;simp only[hm];rfl);have Q:=aiy J.st 0 (aG J.ol (by decide));rw[show q8 0=.int .u8 0 from rfl]at Q;go_enter func121,ntmps121;go_upto_region 1 with fail;rw[<-j];clear j;go_wp2_with((with_reducible refine Q.mono ?_);rintro e w2⟨rfl,Y⟩);go_end0;rw[Z.out];exact⟨rfl,pY.trans (iw.of_below M) Y⟩
theorem ahh(h:IX w0 W Bq g t tm now s m a Bm)(hm:m.id≠32/\m.id≠3/\m.id≠9/\m.id≠15/\m.id≠16/\m.id≠18/\m.id≠39):Calls aj 121 #[.pointer g,oC m a] W (nT w0 Bq g tm now s W (kT t now s.plain m)):=by
 obtain⟨R,K⟩:=fD (kT t now s.plain m);rw[<-K];have O:=ah K;have j:Own W _ [_]:=Own.jD W 196 (oC m a);obtain⟨Q,d⟩:=fD (W.alloc (.cells (oC m a) 196));have V:W Q:=by rw[d];exact j.below
 rw[<-d]at j;have M:=j.b0.cell;obtain⟨id,N⟩:=fD m.id;have Y:=M 0;rw[show(oC m a)[0]? =some (.int .i64 id) by rw[N];rfl]at Y;clear M;obtain⟨q1,q2,q3,q4,q5,H,J⟩:=hm;have U:Hid (R=s.plain):=ah (by rw[O.out];unfold kT;rw[if_neg q1,if_neg q2,if_neg q3,if_neg q4,if_neg q5,if_neg H,if_neg J]);rw[<-N]at q1 q2 q3 q4 q5 H J;have ad:(id==32)=false:=by simpa using q1
 have t3:(id==3)=false:=by simpa using q2
 have t9:(id==9)=false:=by simpa using q3
 have Z:(id==15)=false:=by simpa using q4
 have aa:(id==16)=false:=by simpa using q5
 have ac:(id==18)=false:=by simpa using H
 have ae:(id==39)=false:=by simpa using J
 go_enter func121,ntmps121;go_upto_region 1 with fail;rw[<-d];clear d;go_wp2_with fail;go_end0;rw[U.out];exact nT.same h.st V rfl
theorem ahi(h:IX w0 W Bq g t tm now s m a Bm)(hm:m.id=9):Calls aj 121 #[.pointer g,oC m a] W (nT w0 Bq g tm now s W (kT t now s.plain m)):=by
 obtain⟨R,V⟩:=fD (kT t now s.plain m);rw[<-V];have HR:=ah V;have H:Own W _ [_]:=Own.jD W 196 (oC m a);obtain⟨W1,M⟩:=fD (W.alloc (.cells (oC m a) 196));have ac:W W1:=by rw[M];exact H.below
 rw[<-M]at H;have d:=h.below ac;have j:=ah d;have hx:=h.st.beside H.b0 ig;have ad:=H.b0.cell;obtain⟨id,Z⟩:=fD m.id;have ag:=ad 0;rw[show(oC m a)[0]? =some (.int .i64 id) by rw[Z];rfl]at ag;have zN:=ah Z;clear ad;have ai:(id==32)=false:=by rw[zN.out,hm];rfl
 have t3:(id==3)=false:=by rw[zN.out,hm];rfl
 have t9:(id==9)=true:=by rw[zN.out,hm];rfl
 obtain⟨b,Y⟩:=fD ((oW t s.plain m).2);have af:Hid (R=(nY now (oW t s.plain m).1 (if b then 137 else 138) [m.t]).1):=ah (by rw[HR.out,Y];unfold kT;rw[if_neg (by rw[hm];decide),if_neg (by rw[hm];decide),if_pos hm]);have O:=aa0 d.tp d.tab d.st m a Bm d.ms d.vr;unfold yx at O;rw[<-Y]at O;have e1:(oC m a)[1]? =some (.int .i64 m.t):=rfl;have ae:= @zy t s.plain m;have K:=ah ae;clear V Z hm d h Y ae;go_enter func121,ntmps121;go_upto_region 1 with fail;rw[<-M];clear M;rcases b with _ |_;focus(go_wp2_with(first|((with_reducible refine gK H ?_ _ rfl rfl _ underlying196 rfl (by kernel_rfl) ?_);(·first|rfl))|((with_reducible refine O.mono ?_);rintro U Q⟨rfl,iG,jQ,N,J⟩;have uK:=((hx.turn N).blk.cell 1).trans e1;have aa:=Ls j.out.tab jQ 138 m.t (QO J K.out.2 j.out.ol) (QS J K.out.1 j.out.la))|((with_reducible refine aa.mono ?_);rintro U Q⟨rfl,hP⟩)))
 rotate_left;focus(go_wp2_with(first|((with_reducible refine gK H ?_ _ rfl rfl _ underlying196 rfl (by kernel_rfl) ?_);(·first|rfl))|((with_reducible refine O.mono ?_);rintro U Q⟨rfl,iG,jQ,N,J⟩;have uK:=((hx.turn N).blk.cell 1).trans e1;have aa:=Ls j.out.tab jQ 137 m.t (QO J K.out.2 j.out.ol) (QS J K.out.1 j.out.la))|((with_reducible refine aa.mono ?_);rintro U Q⟨rfl,hP⟩)))
 all_goals(go_end0;rw[af.out,<-J];exact⟨rfl,pY.trans ((iw.of_below ac).trans N) hP⟩)
theorem aeS{id:Int}{v:List Int}(J:s2.plain=(nY now s.plain id v).1)(h:s.out.length<=60)(H: -1<=s.x.last):s2.out.length<=61/\ -1<=s2.x.last:=by have d:= @yA now s.plain id v;have j:= @vI now s.plain id v H;rw[<-J]at d j;have e1:s2.plain.out.length<=s.out.length+1:=d;have e2:s2.out.length<=s.out.length+1:=e1;exact⟨by omega,j⟩
theorem iJ.U6{j:World}(h:iJ w0 Bq g tm now s W){A2:Option Addr}{c2:Nat}{l:List Int}(U:aq1 aq7 3 j Bq A2 c2 l)(J:W.grownBy j (s.m.A3.map (·.block)))(hn:rU W s.m.A3 A2)(n:Nat)(ac:n=l.length)(hl:n<=100):iJ w0 Bq g tm now (s.lT l A2 n c2) (j.setCell ⟨g,51,none⟩ (.slice A2 n c2))/\iw g s (s.lT l A2 n c2) W (j.setCell ⟨g,51,none⟩ (.slice A2 n c2)):=by
 have H:=h.tr;have ad:s.m.A3.map (·.block)≠some g:=ard H.stops h.blk (by decide);have Q:fK j g 87 (s.cells tm now):=h.blk.grown J (λe=>ad e.symm);have V: ∀k,k≠g->(j.setCell ⟨g,51,none⟩ (.slice A2 n c2)).heap[k]? =j.heap[k]? :=λk d=>aN j ⟨g,51,none⟩ _ k d;have K:jV (λk=>k=g\/s.m.A3.map (·.block)=some k) W (j.setCell ⟨g,51,none⟩ (.slice A2 n c2)):=⟨J.os,J.tape,J.output,by simpa[dD] using J.size,λk d M=>(V k (λe=>M (.inl e))).trans (J.block k d (λe=>M (.inr e.symm)))⟩;have O:jV (zO g s) W (j.setCell ⟨g,51,none⟩ (.slice A2 n c2)):=K.mono (λk d=>by
  rcases d with e |e;·exact .inl e
  ·exact .inr (.inl e))
 have Y:iw g s (s.lT l A2 n c2) W (j.setCell ⟨g,51,none⟩ (.slice A2 n c2)):=⟨O,hn,rU.refl _ _⟩;have aa:w0 (j.setCell ⟨g,51,none⟩ (.slice A2 n c2)):=h.below.trans (O.below h.below.size h.amT);have hc:fK (j.setCell ⟨g,51,none⟩ (.slice A2 n c2)) g 87 ((s.lT l A2 n c2).cells tm now):=by have:=Q.iV 51 (.slice A2 n c2);assumption
 obtain⟨xs,N,ae,hi⟩:=h.out.row;refine⟨⟨⟨aa,λy Z=>?_,by simp⟩,{H with path:=H.path.ji K ?_,fP:=H.fP.ji K ?_,stops:=?_,e3:=ac.symm,l3:=hl},⟨xs,N.ji K ?_,ae,λi x b hx hb=>(hi i x b hx hb).turn Y⟩,h.lo,aG h.hi K.size⟩,Y⟩;·simp only[dN]at Z;subst Z;exact⟨h.agM,hc⟩
 ·rintro k d (e |e);·exact ard H.path h.blk (by decide) (by grind)
  ·exact oQ H.path H.stops (by decide) k d e
 ·rintro k d (e |e);·exact ard H.fP h.blk (by decide) (by grind)
  ·exact oQ H.fP H.stops (by decide) k d e
 ·exact aq1.ji (D:=λk=>k=g) U ⟨rfl,rfl,rfl,by simp,λk _ M=>V k M⟩ (λk d e=>ard U Q (by decide) (by subst e;exact d))
 ·rintro k d (e |e);·exact ard N h.blk (by decide) (by grind)
  ·exact oQ H.stops N (by decide) k e d
theorem aeT(h:IX w0 W Bq g t tm now s m a Bm)(hm:m.id=32)(U:0<m.v.length):Calls aj 121 #[.pointer g,oC m a] W (nT w0 Bq g tm now s W (kT t now s.plain m)):=by
 obtain⟨R,M⟩:=fD (kT t now s.plain m);rw[<-M];have HR:=ah M;have hO:Own W _ [_]:=Own.jD W 196 (oC m a);obtain⟨W1,H⟩:=fD (W.alloc (.cells (oC m a) 196));have aa:W W1:=by rw[H];exact hO.below
 rw[<-H]at hO;have J:=h.below aa;have HD:=ah J;have ac:=hO.b0.cell;obtain⟨id,O⟩:=fD m.id;have ap:=ac 0;have ag:=ac 4;rw[show(oC m a)[0]? =some (.int .i64 id) by rw[O];rfl]at ap;rw[show(oC m a)[4]? =some (.slice a.Av m.v.length a.cv) from rfl]at ag;have zN:=ah O;clear ac;obtain⟨d,vr,Q⟩: ∃d vr,m.v=d::vr:=by cases Q:m.v with|nil=>rw[Q]at U;exact absurd U (by decide)|cons x l=>exact⟨x,l,rfl⟩
 obtain⟨vb,vo,Z,ax,ai⟩:=(J.ms.v.rows).get (i:=0) (x:=d) (by rw[Q];rfl);have aq:=ai 0 (.int .i64 d) rfl;simp only[Nat.zero_mul,bI]at aq;obtain⟨nv,Y⟩:=fD m.v.length;rw[Z,<-Y]at ag;have aw:0<nv:=by rw[Y];exact U
 have ad:m.v.headD 0=d:=by rw[Q];rfl
 clear ai Y U;have az:(id==32)=true:=by rw[zN.out,hm];rfl
 have ae:iw g s s W W1:=iw.of_below aa;have K:=J.st;have hC:=K.own;have am:=ah (aG h.ol (by decide:60<=90));have N:Hid (R=if d=16 then(nY now (nY now (s.plain.su true) 159 []).1 157 [1]).1 else s.plain):=ah (by rw[HR.out];unfold kT;rw[if_pos hm,ad]);by_cases j:d=16
 ·have e0:(d==16)=true:=by simpa using j
  have V:Hid (R=(nY now (nY now (s.plain.su true) 159 []).1 157 [1]).1):=ah (by rw[N.out];exact if_pos j);have an:=ah h.ol;have af:=ah h.la;clear M O hm J h ad j Z N;go_enter func121,ntmps121;go_upto_region 1 with fail;rw[<-H];clear H;go_wp2_with(first|(with_reducible refine jq 37 true hC rfl _ _ _ rfl rfl rfl (by kernel_rfl) (fA (by decide:37<54) (tK _ _ _).symm) rfl ?_;intro wR kN rW ar;rw[UC]at kN;obtain⟨al,vH⟩:=K.Ea kN rW ar ⟨rfl,rfl,rfl,rfl,rfl,rfl,rfl,rfl,rfl⟩;skip;replace ae:=iw.trans ae vH;clear hC;replace K:=al;clear al;have hC:=K.own)|(go_at_call 61;have fU:=aeQ HD.out.tab K 159 am.out af.out;(with_reducible refine fU.mono ?_);rintro fJ iG⟨rfl,jQ,uK,av,ak⟩;have sK:=aeS (s:=s.su true) ak an.out af.out;have au:=Ls HD.out.tab uK 157 1 (aG sK.1 (by decide)) sK.2)|((with_reducible refine au.mono ?_);rintro fU fJ⟨rfl,hP⟩));go_end0;rw[V.out];rw[ak]at hP;exact⟨rfl,pY.trans (ae.trans av) hP⟩
 ·have e0:(d==16)=false:=by simpa using j
  have V:Hid (R=s.plain):=ah (by rw[N.out];exact if_neg j);have HH:=ah h.st;clear M O hm J h ad j Z N;go_enter func121,ntmps121;go_upto_region 1 with fail;rw[<-H];clear H;go_wp2_with fail;go_end0;rw[V.out];exact nT.same HH.out aa rfl
theorem aeU(h:IX w0 W Bq g t tm now s m a Bm)(hm:m.id=18)(ai:0<m.v.length):Calls aj 121 #[.pointer (some ⟨g,0,none⟩),.agg (oC m a)] W (nT w0 Bq g tm now s W (kT t now s.plain m)):=by
 obtain⟨R,hR⟩:=fD (kT t now s.plain m);rw[<-hR];have HR:=ah hR;have J:Own W _ [_]:=Own.jD W 196 (oC m a);obtain⟨W1,K⟩:=fD (W.alloc (.cells (oC m a) 196));have ak:W W1:=by rw[K];exact J.below
 rw[<-K]at J;have Z:=h.below ak;have ad:=J.b0.cell;obtain⟨id,af⟩:=fD m.id;have az:=ad 0;have ac:=ad 4;rw[show(oC m a)[0]? =some (.int .i64 id) by rw[af];rfl]at az;rw[show(oC m a)[4]? =some (.slice a.Av m.v.length a.cv) from rfl]at ac;have j:=ah af;clear ad;obtain⟨d,vr,V⟩: ∃d vr,m.v=d::vr:=by cases V:m.v with|nil=>rw[V]at ai;exact absurd ai (by decide)|cons x l=>exact⟨x,l,rfl⟩
 obtain⟨H,vo,Y,aR,aD⟩:=(Z.ms.v.rows).get (i:=0) (x:=d) (by rw[V];rfl);have al:=aD 0 (.int .i64 d) rfl;simp only[Nat.zero_mul,bI]at al;obtain⟨nv,LP⟩:=fD m.v.length;rw[Y,<-LP]at ac;have ar:0<nv:=by rw[LP];exact ai
 have OH: ¬zO g s H:=λhd=>by have q1:=h.lo H hd;have q2:=(Z.ms.v.gJ H (by rw[Y];rfl)).1;omega
 have an:m.v.headD 0=d:=by rw[V];rfl
 have a8:(id==32)=false:=by rw[j.out,hm];rfl
 have t3:(id==3)=false:=by rw[j.out,hm];rfl
 have t9:(id==9)=false:=by rw[j.out,hm];rfl
 have a5:(id==15)=false:=by rw[j.out,hm];rfl
 have a6:(id==16)=false:=by rw[j.out,hm];rfl
 have a7:(id==18)=true:=by rw[j.out,hm];rfl
 have Q:=Z.st;have U:=Q.tr;have ae:=Q.blk;obtain⟨n3,N⟩:=fD s.m.n3;have aE:=(Q.blk.cell 51).trans (show(s.cells tm now)[51]? =some (.slice s.m.A3 n3 s.m.c3) by rw[N];rfl);have aL:n3<=100:=by rw[N];exact U.l3
 have e3:s.x.stops.length=n3:=by rw[N];exact U.e3
 have av:s.m.A3.map (·.block)≠some W.heap.size:=λe=>by have:=(h.st.tr.stops.gJ _ e).2;omega
 have aw:s.m.A3.map (·.block)≠some H:=λe=>OH (.inr (.inl e));have au:s.m.A3.map (·.block)≠some g:=ard U.stops ae (by decide);have M:=anp Bq s.m.A3 n3 s.m.c3 s.x.stops W1 U.stops e3 (by omega) d W H vo nv a.cv ac ar al J.b0.lt aR av aw;obtain⟨r,O⟩: ∃r,r=s.x.stops.filter λx=> !(x==d):=⟨_,rfl⟩;rw[<-O]at M;have ap:r.length<=n3:=by rw[O,<-e3];exact List.length_filter_le _ _
 obtain⟨nr,ag⟩:=fD r.length;unfold Ji at M;rw[<-ag]at M ap;have aq:=ah ag;have ax:Hid (R=s.plain.lT r):=ah (by rw[HR.out,O];unfold kT;simp only[hm,an];show s.plain.lT (s.x.stops.filter λn=>decide (n≠d))=_;congr 1;apply List.filter_congr;intro x _;by_cases hx:x=d <;> simp[hx]);have P6:Hid (nr<=100):=ah (by omega);clear hR af hm h an Y N aL e3 O ap ag;go_enter func121,ntmps121;go_upto_region 1 with fail;rw[<-K];clear K;go_wp2_with((with_reducible refine M.mono ?_);rintro e w2⟨c2,rfl,aM,am⟩;have aa:=ae.grown am (λe=>au e.symm);have Tc:=aa.cell;have a1:=aa.frozen;have a4:=(aa.cell 51).trans (show(s.cells tm now)[51]? =some (.slice s.m.A3 n3 s.m.c3) from(ae.cell 51).symm.trans aE);clear Tc);go_end0;rw[ax.out];obtain⟨q1,q2⟩:=Q.U6 aM am (rU.refl _ _) nr aq.out P6.out;exact⟨rfl,_,q1,(iw.of_below ak).trans q2,rfl⟩
end Go.Proofs.YthnmgjngniciaaaGreatDoor
