/- Parts. -/
import Derived.Test.YthnmgjngniciaaaGreatDoorM09
import Derived.Shelf.SlSortCmp.NoneTotal
import Derived.Ground.SlsfProg
import Derived.Test.YthnmgjngniciaaaGreatDoorM13
import Derived.Test.YthnmgjngniciaaaGreatDoorM19
import Derived.Test.YthnmgjngniciaaaGreatDoorM02
import Derived.Maps.RangeWalk
import Derived.Test.YthnmgjngniciaaaGreatDoorM16
set_option linter.all false
set_option maxHeartbeats 16000000
set_option maxRecDepth 8000
open Array renaming getElem?_append_left→dS,getElem?_eq_getElem→cO,getElem?_eq_none→dI,getElem?_setIfInBounds_ne→dR
open Bool renaming false_eq_true→bU
open List renaming getElem?_eq_getElem→aI,getElem?_map→bW,getElem?_take_of_lt→dG,length_append→bC,length_eq_zero_iff→dh,length_take→dX,map→bV,map_append→eX,mem_append→dK,mem_cons→bJ,mem_singleton→dN,setIfInBounds_toArray→ay,set_cons_succ→aB,set_cons_zero→aA
open Nat renaming add_zero→bI,le_refl→aW,lt_or_ge→eu,reduceAdd→aT,zero_add→aJ,zero_le→aV
open Option renaming map_some→eF
open Option.some renaming injEq→aO
namespace Go.Proofs.YthnmgjngniciaaaGreatDoor
open Go.RowKit Go.Shelf Tryz
open Act renaming put→aP
open Addr.mk renaming injEq→cZ
open Below renaming heap_setCell→aN,refl→aH
open Instr renaming findNow→dY
open Lib renaming hid→ah
open Region renaming binds→aC
open Result renaming andThen_ok→dO
open Tryz renaming prog→aj,underlying3→bG,underlying4→dL
open Value renaming cells→aS
section
open Go.RowKit Go.Shelf Go.Sort
def KA:Go.Shelf.Ren:=⟨fun |6=>97 |15=>147 |14=>146 |28=>199 |29=>200 |20=>191 |21=>192 |22=>193 |23=>194 |24=>195 |25=>196 |26=>197 |27=>198 |46=>232 |47=>233 |48=>234 |49=>235 |50=>236 |57=>271 |n=>n,fun |22=>73 |24=>130 |25=>182 |3=>3 |39=>232 |0=>0 |53=>30 |55=>134 |4=>4 |46=>285 |45=>284 |50=>71 |5=>5 |9=>9 |66=>328 |70=>332 |76=>360 |77=>361 |n=>n,fun |n=>n⟩
theorem KC:Go.Proofs.SlLaysF0.n6 aj KA where
  mixed:=by rfl
  f6:=⟨ "slices.SortFunc[[]lineside/api.Span,lineside/api.Span]",by decide,Tryz.func97.trans (congrArg some (by rfl))⟩
  f14:=⟨ "slices.pdqsortCmpFunc[lineside/api.Span]",by decide,Tryz.func146.trans (congrArg some (by rfl))⟩
  f15:=Tryz.func147.trans (congrArg some (by rfl))
  f20:=⟨ "slices.insertionSortCmpFunc[lineside/api.Span]",by decide,Tryz.func191.trans (congrArg some (by rfl))⟩
  f21:=⟨ "slices.heapSortCmpFunc[lineside/api.Span]",by decide,Tryz.func192.trans (congrArg some (by rfl))⟩
  f22:=⟨ "slices.breakPatternsCmpFunc[lineside/api.Span]",by decide,Tryz.func193.trans (congrArg some (by rfl))⟩
  f23:=⟨ "slices.choosePivotCmpFunc[lineside/api.Span]",by decide,Tryz.func194.trans (congrArg some (by rfl))⟩
  f24:=⟨ "slices.reverseRangeCmpFunc[lineside/api.Span]",by decide,Tryz.func195.trans (congrArg some (by rfl))⟩
  f25:=⟨ "slices.partialInsertionSortCmpFunc[lineside/api.Span]",by decide,Tryz.func196.trans (congrArg some (by rfl))⟩
  f26:=⟨ "slices.partitionEqualCmpFunc[lineside/api.Span]",by decide,Tryz.func197.trans (congrArg some (by rfl))⟩
  f27:=⟨ "slices.partitionCmpFunc[lineside/api.Span]",by decide,Tryz.func198.trans (congrArg some (by rfl))⟩
  f28:=Tryz.func199.trans (congrArg some (by rfl))
  f29:=Tryz.func200.trans (congrArg some (by rfl))
  f46:=⟨ "slices.siftDownCmpFunc[lineside/api.Span]",by decide,Tryz.func232.trans (congrArg some (by rfl))⟩
  f47:=Tryz.func233.trans (congrArg some (by rfl))
  f48:=Tryz.func234.trans (congrArg some (by rfl))
  f49:=⟨ "slices.medianAdjacentCmpFunc[lineside/api.Span]",by decide,Tryz.func235.trans (congrArg some (by rfl))⟩
  f50:=⟨ "slices.medianCmpFunc[lineside/api.Span]",by decide,Tryz.func236.trans (congrArg some (by rfl))⟩
  f57:=⟨ "slices.order2CmpFunc[lineside/api.Span]",by decide,Tryz.func271.trans (congrArg some (by rfl))⟩
  t0:=underlying0
  a0:=isAgg0
  z0:=sizeOf0
  v0:=zeroValue0
  t3:=bG
  a3:=isAgg3
  z3:=sizeOf3
  v3:=zeroValue3
  t4:=dL
  a4:=isAgg4
  z4:=sizeOf4
  v4:=zeroValue4
  t5:=underlying5
  a5:=isAgg5
  z5:=sizeOf5
  v5:=zeroValue5
  t9:=underlying9
  a9:=isAgg9
  z9:=sizeOf9
  v9:=zeroValue9
  t22:=underlying73
  a22:=isAgg73
  z22:=sizeOf73
  v22:=zeroValue73
  t25:=underlying182
  a25:=isAgg182
  z25:=sizeOf182
  v25:=zeroValue182
  t39:=underlying232
  a39:=isAgg232
  z39:=sizeOf232
  v39:=zeroValue232
  t45:=underlying284
  a45:=isAgg284
  z45:=sizeOf284
  v45:=zeroValue284
  t46:=underlying285
  a46:=isAgg285
  z46:=sizeOf285
  v46:=zeroValue285
  t50:=underlying71
  a50:=isAgg71
  z50:=sizeOf71
  v50:=zeroValue71
  t53:=underlying30
  a53:=isAgg30
  z53:=sizeOf30
  v53:=zeroValue30
  t55:=underlying134
  a55:=isAgg134
  z55:=sizeOf134
  v55:=zeroValue134
  t66:=underlying328
  a66:=isAgg328
  z66:=sizeOf328
  v66:=zeroValue328
  t70:=underlying332
  a70:=isAgg332
  z70:=sizeOf332
  v70:=zeroValue332
  t76:=underlying360
  a76:=isAgg360
  z76:=sizeOf360
  v76:=zeroValue360
  t77:=underlying361
  a77:=isAgg361
  z77:=sizeOf361
  v77:=zeroValue361
theorem agr(a b:Sp)(w:World):Calls aj 98 #[.agg (iO.enc a).toArray,.agg (iO.enc b).toArray] w λe w'=>e=.returned (WC a b:Int)/\iZ w w':=by
 obtain⟨K,a2,a3⟩:=a;obtain⟨b1,b2,b3⟩:=b;have hc:=λx y W=>NP x y W;have ho:=λg x y W N H=>alT g 2 x y W N H;have V:Own w _ [_,_]:=Own.iY w 130 130 #[K,a2,a3] #[b1,b2,b3];have U:iZ w ((w.alloc (.cells #[K,a2,a3] 130)).alloc (.cells #[b1,b2,b3] 130)):=(iZ.alloc _ _).trans (iZ.alloc _ _);unfold WC;simp only[iO];go_enter func98,ntmps98;go_wp2_with fail;generalize ((w.alloc (.cells #[K,a2,a3] 130)).alloc (.cells #[b1,b2,b3] 130))=W0 at V U ⊢;apply gu iZ (λW=>iZ.drew W) (λ_ _ _ H h2=>H.trans h2) (λ_=>iZ) (λ_ _ _ h=>h) (λ_ W=>iZ.refl W) (λ_ _=>True) (λ_=>trivial) (λ_ _ _ _ _ _ _=>trivial);case lX=>intro u;simp only[bV,aq9,aP,ay,aA,aB,aT,aJ];rfl
 case hm=>kernel_rfl
 case hB=>kernel_rfl
 case hA=>kernel_rfl
 case hap=>kernel_rfl
 repeat(first
    |(apply fM.is
      ·
        (intro u w' J aa d
         have O:=J.below
         simp[fO,aC,gI,Is]at d
         refine fC ?_ ?_
         ·
           first
           |rfl
         intro M j
         have Y:=V.grow O;have ad:=Y.b0.cell;have ae:=Y.b1.cell
         go_wp2_with ((with_reducible refine(hc _ _ _).mono ?_);rintro e w3⟨rfl,rfl⟩)
         try simp only[d]at j
         refine j _ _ ?_ rfl
         first |exact iZ.refl _))
    |(refine fM.one (WB (IB K b1) (IB a2 b2)) ?_ ?_
      ·
        (intro u w' J aa d
         have O:=J.below
         simp[fO,aC,gI,Is]at d
         refine fC ?_ ?_
         ·
           first
           |rfl
         intro M j
         go_wp2_with fail
         try simp only[d]at j
         refine j _ _ (iZ.alloc _ _) ⟨w',rfl,?_,?_,?_⟩
         all_goals simp))
    |(apply fM.is
      ·
        (intro u w' J aa d
         have O:=J.below
         simp[fO,aC,gI,Is]at d
         first
         |obtain⟨⟨g,hx,af,N,H⟩,-⟩:=d
         refine fC ?_ ?_
         ·
           first
           |rfl
         intro M j
         go_wp2_with ((with_reducible refine(ho _ _ _ _ N H).mono ?_);rintro e w3⟨rfl,rfl⟩)
         try simp only[hx]at j
         refine j _ _ (iZ.refl _) rfl)))
 refine fM.last (SK ?_) ?_
 ·simp only[gQ];repeat(refine⟨?_,?_⟩;·first|exact JH _|exact Hz)
  exact trivial
 intro u w2 ac _ d;simp only[gQ]at d;refine⟨rfl,?_⟩;intro M j;have Z:=d 11 _ rfl;simp only[gI,Is]at Z;go_wp2_with fail;go_ret;exact⟨congrArg Ending.returned Z,U.trans ac⟩
end
section
open Go.RowKit Go.Shelf Go.Sort
theorem aag(w:World):(zeroValue 130).run aj w=.ok (.agg gC) w:=by simp
def ags (cur:Array Value) (o:Nat) (cs:List Value):Array Value:=(cur.toList.take o++cs++cur.toList.drop (o+cs.length)).toArray
def vX (m:Nat):List Value:=(Builtin.zeroCells (aS (.agg gC)) m).toList
theorem KD(m:Nat):(vX m).length=m*3:=by simp[vX,Builtin.zeroCells,aS]
theorem Xm(m:Nat): ∀v∈vX m,v.oneCell'=true:=by
 intro v d;simp only[vX,Builtin.zeroCells,aS]at d;simp at d;obtain⟨a,_,rfl⟩:=d;have j:a % 3=0\/a % 3=1\/a % 3=2:=by omega
 rcases j with h |h |h <;> rw[h] <;> rfl
theorem Ui{w:World}{ty:TypeId}(g o m c:Nat)(cur:Array Value)(j:fK w g 130 cur)(hm:0<m)(J:o+m*3<=cur.size):(Builtin.clear_ #[73] ty #[.slice (some ⟨g,o,none⟩) m c]).run aj w=.ok (.tuple #[]) (w.setRow g (ags cur o (vX m))):=by
 have d:=run_storeCells_at aj g o 130 (vX m) 0 cur w j (by rw[KD];omega) (Xm m);simp only[bI]at d;have H:=aag w;have K:m≠0:=by omega
 cases m with|zero=>omega|succ m=>simp only[vX]at d;simp[Builtin.clear_,run_underlying underlying73,H,d,ags,vX]
theorem KE{ops:Array Oper}{rest:List Oper}{o:Oper}{a:Act}{w:World}{Q:Exit->Act->World->Prop}(J:o.guard=none)(s:Operand)(M:o.op=.call {callee:=.builtin .clear,args:= #[s],argTypes:= #[73]})(g off m c:Nat)(O:a.eval s=.slice (some ⟨g,off,none⟩) m c)(cur:Array Value)(d:fK w g 130 cur)(hm:0<m)(H:off+m*3<=cur.size)(h: ∀W,fK W g 130 (ags cur off (vX m))->W.heap.size=w.heap.size->(∀k,k≠g->W.heap[k]? =w.heap[k]?)->W.os=w.os/\W.tape=w.tape/\W.output=w.output->wpList aj ops Q rest (a.put o.dst (.tuple #[])) W):wpList aj ops Q (o::rest) a w:=by refine wpList_plain J λU j=>?_;have N:=Ui (ty:=o.type) g off m c cur d hm H;unfold Oper.wp;simp[execOp,M,resolve,invoke,builtin,O,N,Result.andThen];exact j _ _ (h _ (fK.row d _) (by simp) (λk K=>setRow_other w g k _ K) ⟨rfl,rfl,rfl⟩)
theorem GK:aj.elem 73=130:=by kernel_rfl
theorem Uj:aj.underlying 73=some (.slice (aj.elem 73)):=by rw[GK];exact underlying73
theorem Oi(w:World):(sizeOf 130).run aj w=.ok 3 w:=sizeOf130 w
theorem ain(g i:Nat):(⟨g,0,none⟩:Addr).add i=⟨g,i,none⟩:=by rw[Addr.add_lit];simp
theorem aah(w:World)(g len cap i:Nat)(d:i<=len)(j:i<cap)(H:len<=cap):(Instr.slice 73 (.slice g len cap) (some (i:Int)) none none).run aj w=.ok (.slice (some ⟨g,i*3,none⟩) (len-i) (cap-i)) w:=by rw[run_slice_l w 73 g len cap Uj .i64 i (by omega) (by omega),GK,Oi];simp[Result.andThen,sliced,ain];omega
theorem aai(w:World)(g len cap i:Nat)(d:i<=cap):(Instr.slice 73 (.slice g len cap) none (some (i:Int)) none).run aj w=.ok (.slice g i cap) w:=by rw[run_slice_h w 73 g len cap Uj .i64 i (by omega) (by omega),GK,Oi];simp[Result.andThen,sliced,ain]
end
section
open Go.RowKit Go.Shelf Go.Sort
def MJ:Go.Shelf.Ren:=⟨fun |6=>145 |n=>n,fun |22=>73 |23=>130 |25=>178 |3=>3 |0=>0 |4=>4 |n=>n,fun |n=>n⟩
theorem aaj:Go.Proofs.SlLaysH0.n6 aj MJ where
  mixed:=by rfl
  f6:=⟨ "slices.IndexFunc[[]lineside/api.Span,lineside/api.Span]",by decide,Tryz.func145.trans (congrArg some (by rfl))⟩
  t0:=underlying0
  a0:=isAgg0
  z0:=sizeOf0
  v0:=zeroValue0
  t3:=bG
  a3:=isAgg3
  z3:=sizeOf3
  v3:=zeroValue3
  t4:=dL
  a4:=isAgg4
  z4:=sizeOf4
  v4:=zeroValue4
  t22:=underlying73
  a22:=isAgg73
  z22:=sizeOf73
  v22:=zeroValue73
  t25:=underlying178
  a25:=isAgg178
  z25:=sizeOf178
  v25:=zeroValue178
theorem agt(g:Nat)(H: ∀args w,(callFunc g args).run aj w=.ok (.enter g args) w)(lb:Array Value)(q:Sp->Bool)(A:Option Addr)(n c:Nat)(xs:List Sp)(w:World)(M:PredBelow aj g lb (λx=> .agg (iO.enc x).toArray) q w)(d:fE iO w A xs)(hn:xs.length=n)(J:n<=9223372036854775807):Calls aj 145 #[.slice A n c,.func (.func g) #[] lb] w λe w'=>e=.returned (Lib.idxBy (λ_ y=>q y) xs default:Int)/\w w':=by
 cases n with
 |zero=>
  have:xs= []:=dh.1 hn;subst this;go_enter func145,ntmps145;go_wp2;go_loopg [5,8] 0 (λ_ _ U wr=>U=.int .i64 0/\w wr);case atStart=>exact⟨rfl,aH _ _⟩
  case round=>obtain⟨rfl,N⟩:=hrel;go_wp2;go_ret;exact⟨rfl,N⟩
 |succ n=>
  obtain⟨b,off,rfl,K,_⟩:=d.get (aI (show 0<xs.length by omega));have:=AnyQ.slices_IndexFunc aaj 3 isAgg130 sizeOf130 iO.enc iO.len q g lb H b off (n+1) c xs w M (by omega) J K ?_;·rw[<-hn,List.take_length]at this;rw[<-hn];exact this
  ·intro O j i u hi;obtain⟨V,Y,e,_,hc⟩:=d.get (aI j);simp only[aO,cZ]at e;obtain⟨rfl,rfl,-⟩:=e;rw[getElem!_pos xs O j]at hi;exact hc i u hi
theorem Oj{α:Type}[Inhabited α](q:α->Bool): ∀(bs:List α) (i:Nat),(∃d x,Lib.idxByFrom (λ_ y=>q y) default bs i=((i+d:Nat):Int)/\bs[d]? =some x/\q x=true/\ ∀y∈bs.take d,q y=false)\/(Lib.idxByFrom (λ_ y=>q y) default bs i= -1/\ ∀y∈bs,q y=false)
 | [],i=> .inr ⟨rfl,by simp⟩
 |y::bs,i=>by
  rw[Lib.idxByFrom];cases K:q y with
  |false=>simp only[bU,if_false];rcases Oj q bs (i+1) with⟨d,x,j,H,J,M⟩ |⟨j,H⟩;(·refine .inl ⟨d+1,x,by omega,by grind,J,λz N=>?_⟩;grind);grind
  |true=>exact .inl ⟨0,y,by simp,rfl,K,by simp⟩
theorem agu(base:Nat)(A:Option Addr)(n c:Nat)(xs:List Sp)(w:World)(j:aq1 iO 130 w base A c xs)(hn:xs.length=n)(hl:n<=1000):Calls aj 93 #[.slice A n c,.func (.func 95) #[] #[]] w λe w'=>e=.returned (.slice A (xs.filter lG).length c)/\aq1 iO 130 w' base A c (xs.filter lG)/\w.grownBy w' (asa A):=by
 have Y:=agt 95 SL #[] (λs=> !lG s) A n c xs w (λW x hW=>(Yy x W).mono λ_ _ h=>⟨h.1,gZ hW h.2⟩) j.rows hn (by omega);unfold Lib.idxBy at Y;have HN:=ah hn;rcases Oj (λs:Sp=> !lG s) xs 0 with⟨j0,x0,h1,h2,h3,h4⟩ |⟨h1,h2⟩
 ·rw[h1,aJ]at Y;have a5:j0<n:=by grind
  have hA:A≠none:=j.some_ (by omega);obtain⟨g,aE,rfl,aR,a1,_,ae,_,_⟩:=j.blk hA;have an:xs.take j0=(xs.take (j0+1)).filter lG:=by rw[take_snoc' h2,List.filter_append,List.filter_eq_self.2 (λy Z=>by grind)];(have:lG x0=false:=by grind);simp[this]
  have HS:=ah an;rw[hn]at ae;have e1:((j0:Int)== -1)=false:=by simp
  have hm:=λs W=>Yy s W;simp only[asa,eF];go_enter func93,ntmps93;go_wp2_with(first|((with_reducible refine Y.mono ?_);rintro e w1⟨rfl,U⟩;replace j:=j.below U));have V:w.grownBy w1 (some g):=yR (World.grownBy.refl w _) U;go_loopw [5,6] (λs5 s6 wr=> ∃(i d:Nat) (H:List Sp),s5=.int .i64 i/\s6=.int .i64 d/\i<d/\d<=n/\Hid (H.length=n/\H.take i=(xs.take d).filter lG/\ ∀r,d<=r->H[r]? =xs[r]?)/\aq1 iO 130 wr base g c H/\w.grownBy wr (some g)) (λ_ s6 _=>n-(intOf s6).toNat);case atStart=>exact⟨j0,j0+1,xs,rfl,by go_num,by omega,by omega,ah ⟨HN.out,HS.out,λ_ _=>rfl⟩,j,V⟩
  case round=>
   obtain⟨i,d,H,rfl,rfl,a4,a6,K,j,V⟩:=hrel;by_cases az:d<n
   ·obtain⟨y,Z⟩:=aq5 K.out.1 az;obtain⟨b',ba,e,ap,hc⟩:=j.rows.get Z;simp only[aO,cZ]at e;obtain⟨rfl,rfl,-⟩:=e;(have am:xs[d]? =some y:=by rw[<-K.out.2.2 d ig];exact Z);have Cm:=hc 0 y.edge rfl;have CB:=hc 1 y.lo rfl;have RZ:=hc 2 y.hi rfl;simp only[iO,aJ,bI]at Cm CB RZ;have O:=hm y;(have ar:(xs.take (d+1)).filter lG=(xs.take d).filter lG++(if lG y=true then [y] else []):=by rw[take_snoc' am,List.filter_append];cases hs:lG y <;> simp[hs]);have N:=ah ar;have HY:=ah Z;have HX:=ah am;have J:Own wr _ [_]:=(Own.nil wr).alloc 130 #[y.edge,y.lo,y.hi] _ rfl;have aM:=J.b0.cell;cases hs:lG y with
    |false=>rw[hs]at O N;simp only[bU,if_false,List.append_nil]at N;have HZ:=ah (show H.length=n/\H.take i=(xs.take (d+1)).filter lG/\ ∀r,d+1<=r->H[r]? =xs[r]? from⟨K.out.1,by rw[N.out];exact K.out.2.1,λr hr=>K.out.2.2 r (by omega)⟩);obtain⟨y1,y2,y3⟩:=y;simp only[iO]at O;go_wp2_with(first|((with_reducible refine(O _).mono ?_);rintro e w2⟨rfl,fU⟩;replace J:=J.grow fU));go_roundw;(case rel=>exact⟨i,d+1,H,rfl,by go_num,by omega,by omega,HZ,j.below J.below,yR V J.below⟩);case measure=>simp[intOf];omega
    |true=>rw[hs]at O N;simp only[if_true]at N;have HZ:=ah (show(H.set i y).length=n/\(H.set i y).take (i+1)=(xs.take (d+1)).filter lG/\ ∀r,d+1<=r->(H.set i y)[r]? =xs[r]? from by obtain⟨z1,z2,z3⟩:=K.out;refine⟨by rw[List.length_set];exact z1,?_,λr hr=>?_⟩;(·rw[N.out,<-z2,take_snoc' (x:=y) (by rw[List.getElem?_set_self (by omega)])];rw[List.take_set_of_le ig]);·rw[List.getElem?_set_ne (by omega)];exact z3 r (by omega));have a7:=K.out.1;obtain⟨y1,y2,y3⟩:=y;simp only[iO]at O;obtain⟨g',cur,e,av,aa,ac,_,_,_⟩:=j.blk (by simp);simp only[aO,cZ]at e;obtain⟨e,-,-⟩:=e;subst e;(have ag:i*3+3<=cur.size:=by rw[ac];show i*3+3<=c*3;omega);have ai:cur[i*3]? =some (cur[i*3]'(by omega)):=cO _;have ak:cur[i*3+1]? =some (cur[i*3+1]'(by omega)):=cO _;have al:cur[i*3+2]? =some (cur[i*3+2]'(by omega)):=cO _;generalize cur[i*3]'(by omega)=v0 at ai;generalize cur[i*3+1]'(by omega)=v1 at ak;generalize cur[i*3+2]'(by omega)=v2 at al;have HV:=ah (And.intro ai (And.intro ak al));go_wp2_with(first|((with_reducible refine(O _).mono ?_);rintro e w2⟨rfl,fU⟩;replace J:=J.grow fU;have fJ:=J.b0.cell;have M:=aa.below J.below ap;have iG:=M.frozen (i*3);have jQ:=M.frozen (i*3+1);have uK:=M.frozen (i*3+2);have sK:=(M.cell (i*3)).trans HV.out.1;have O4:=(M.cell (i*3+1)).trans HV.out.2.1;have NH:=(M.cell (i*3+2)).trans HV.out.2.2));go_roundw;(case rel=>refine⟨i+1,d+1,H.set i ⟨y1,y2,y3⟩,by go_num,by go_num,by omega,by omega,HZ,?_,?_⟩;(·exact(j.below J.below).put (by omega) ⟨y1,y2,y3⟩ M (((M.iV (i*3) y1).iV (i*3+1) y2).iV (i*3+2) y3));·exact H6 (yR V J.below) (by simp) (λk hk=>(aN _ _ _ _ hk).trans ((aN _ _ _ _ hk).trans (aN _ _ _ _ hk))) ⟨rfl,rfl,rfl⟩);case measure=>simp[intOf];omega
   ·(obtain rfl:d=n:=by omega);obtain⟨g',cur,e,av,aa,ac,_,_,_⟩:=j.blk (by simp);simp only[aO,cZ]at e;obtain⟨e,-,-⟩:=e;subst e;(have ag:i*3+(d-i)*3<=cur.size:=by rw[ac];show i*3+(d-i)*3<=c*3;omega);have a9:=λW=>aah W g d c i (by omega) (by omega) ae;have a8:=λW=>aai W g d c i (by omega);(have af:H.take i=xs.filter lG:=by rw[K.out.2.1,<-HN.out,List.take_length]);(have ax:(xs.filter lG).length=i:=by rw[<-af,dX,K.out.1];omega);have ad:=ah (And.intro af ax);have HL:=ah K.out.1;go_wp2_with(first|(with_reducible refine KE rfl (.tmp 38) rfl g (i*3) (d-i) (c-i) rfl cur aa (by omega) ag ?_;intro w2 au aD aw aq));go_ret;(have aL:i*3<=cur.toList.length:=by simp only[Array.length_toList];omega);refine⟨by rw[ad.out.2];rfl,?_,H6 V aD aw aq⟩;rw[<-ad.out.1];refine j.ahead i (by rw[HL.out];omega) aa au ?_ ?_;(·simp only[ags,List.size_toArray,bC,dX,List.length_drop,KD,Array.length_toList];omega);·show((cur.toList.take (i*3)++vX (d-i)++cur.toList.drop (i*3+(vX (d-i)).length)).toArray).toList.take (i*3)=cur.toList.take (i*3);rw[List.append_assoc,List.take_append_of_le_length (by rw[dX];omega),List.take_take,Nat.min_self]
 ·have hf:xs.filter lG=xs:=List.filter_eq_self.2 λy Z=>by grind
  rw[h1]at Y;rw[hf,hn];go_enter func93,ntmps93;go_wp2_with(first|((with_reducible refine Y.mono ?_);rintro e w1⟨rfl,U⟩));go_ret;exact⟨rfl,j.below U,yR (World.grownBy.refl w _) U⟩
end
section
open Go.RowKit Go.Shelf Go.Sort
theorem Je(a b:Sp):ltOf WC a b=true<->(a.edge<b.edge\/a.edge=b.edge/\a.lo<b.lo):=by unfold ltOf WC orI IB;grind
theorem AX(a b:Sp):ltOf WC a b=false<->tZ b a:=by rw[<-Bool.not_eq_true,Je];unfold tZ;omega
theorem adr:SWO (ltOf WC):=by
 refine⟨λx=>?_,λx y z=>?_,λx y z=>?_⟩;·rw[AX];unfold tZ;omega
 ·rw[Je,Je,Je];omega
 ·rw[AX,AX,AX];unfold tZ;omega
theorem Fq(d:Array Sp):(flatK iO.enc 3 d).toList=iO.flat d.toList:=by
 have N:(iO.flat d.toList).length=d.size*3:=by rw[iO.flat_length];rfl
 refine List.ext_getElem? λt=>?_;by_cases M:t<d.size*3
 ·have K:t / 3<d.size:=by omega
  have H:(flatK iO.enc 3 d)[t]! =(iO.enc d[t / 3]!)[t % 3]! :=get_flatK _ _ _ _ M;have j:=iO.IZ (xs:=d.toList) (i:=t / 3) (x:=d[t / 3]) (by simp) (t % 3) (show t % 3<3 by omega);have e3:t / 3*iO.k+t % 3=t:=by show t / 3*3+t % 3=t;omega
  rw[e3]at j;rw[j,Array.getElem?_toList,cO (by simp_all)];rw[getElem!_pos _ t (by simp_all),getElem!_pos d _ K]at H;rw[H];have J:t % 3<(iO.enc d[t / 3]).length:=by grind
  rw[aI J,List.getElem!_eq_getElem?_getD,aI J];rfl
 ·simp_all
theorem ads{w:World}{base g c:Nat}{xs:List Sp}(N:aq1 iO 130 w base g c xs):HoldsK iO.enc 3 w g 0 xs.toArray:=by
 obtain⟨U,cur,e,V,j,J,Y,Z,H⟩:=N.blk (by simp);simp only[aO,cZ]at e;obtain⟨rfl,-,-⟩:=e;intro d K;rw[size_flatK]at K;have M:iO.k=3:=rfl;rw[M]at H J;have O:(flatK iO.enc 3 xs.toArray).toList=iO.flat xs:=Fq _;have aa:d<xs.length*3:=by omega
 refine⟨?_,by rw[aJ];exact j.frozen _⟩;rw[aJ,j.cell,<-Array.getElem?_toList,show cur.toList[d]? =(cur.toList.take (xs.length*3))[d]? by grind,H,<-O,Array.getElem?_toList,cO (by simp_all),getElem!_pos _ d (by simp_all)];rfl
theorem KF{w:World}{g:Nat}{t:TypeId}{cur:Array Value}(h:fK w g t cur)(F:Array Value):fK (putRow id w g 0 F) g t (putCells id 0 F cur):=by unfold fK at h ⊢;simp[putRow,mapBlock,Array.getElem?_modify,h,onCells]
theorem KG(w:World)(g:Nat)(F:Array Value)(k:Nat)(d:k≠g):(putRow id w g 0 F).heap[k]? =w.heap[k]? :=by simp[putRow,mapBlock,Array.getElem?_modify,Ne.symm d]
theorem Dh(F cur:Array Value):(putCells id 0 F cur).size=cur.size:=by simp[putCells]
theorem Di(F cur:Array Value)(h:F.size<=cur.size):(putCells id 0 F cur).toList.take F.size=F.toList:=by
 refine List.ext_getElem? λt=>?_;by_cases d:t<F.size;·rw[dG d,Array.getElem?_toList,Array.getElem?_toList];simp only[putCells,Array.getElem?_mapIdx,aV,true_and,aJ,d,if_true,Nat.sub_zero,id];rw[cO (show t<cur.size by omega),cO d,getElem!_pos F t d];rfl
 ·grind
theorem adt(base:Nat)(A:Option Addr)(n c:Nat)(xs:List Sp)(w:World)(j:aq1 iO 130 w base A c xs)(hn:xs.length=n)(hl:n<=1000):Calls aj 97 #[.slice A n c,.func (.func 98) #[] #[]] w λe w'=>e=.returned (.tuple #[])/\ ∃M:List Sp,M.Perm xs/\M.Pairwise tZ/\aq1 iO 130 w' base A c M/\w.grownBy w' (asa A):=by
 cases n with
 |zero=>have:xs= []:=dh.1 hn;subst this;exact(AnyF.slices_SortFunc_none KC A c _ w).mono λe w' ⟨h1,N⟩=>⟨h1,[],.nil,.nil,N▸j,N▸World.grownBy.refl w _⟩
 |succ n=>
  obtain⟨g,cur,rfl,hg,O,Y,h4,h5,h6⟩:=j.blk (j.some_ (by omega));have V:=AnyQ.slices_SortFunc KC 3 isAgg130 sizeOf130 iO.enc iO.len iO.one WC adr 98 #[] g 0 c xs.toArray w SN (λm os Z _ x y=>by have:=agr x y (sortWorldK iO.enc 3 w g 0 m Z os);exact this) (ads j) O.lt (by grind);have J:xs.toArray.size=n+1:=by omega
  rw[J]at V;refine V.mono ?_;rintro e w'⟨rfl,d,m,os,H,hs,rfl⟩;refine⟨rfl,d.toList,?_,?_,?_,?_⟩;·have:=H.2.2;(have e1:d.extract 0 (n+1)=d:=by rw[<-J,<-H.1];simp);grind
  ·rw[List.pairwise_iff_getElem];intro i K hi hj aa;(have ac:K<d.size:=by omega);(have U:d.size=n+1:=by rw[H.1,J]);have:=hs i K (aV _) aa (by omega);rw[AX,getElem!_pos d i (by omega),getElem!_pos d K ac]at this;grind
  ·(have U:d.size=n+1:=by rw[H.1,J]);(have hF:(flatK iO.enc 3 d).size=(n+1)*3:=by simp_all);(have ae:(n+1)*3<=cur.size:=by rw[Y];show(n+1)*3<=c*3;omega);(have hB:fK (sortWorldK iO.enc 3 w g 0 m d os) g 130 (putCells id 0 (flatK iO.enc 3 d) cur):=by have:=KF (show fK (Sort.ahead w m) g 130 cur from O) (flatK iO.enc 3 d);have af:=this.lt;unfold fK at this ⊢;rw[<-this];show((putRow id (Sort.ahead w m) g 0 (flatK iO.enc 3 d)).heap++os)[g]? =_;grind);refine⟨by rw[iO.flat_length],.inr ⟨g,c,putCells id 0 (flatK iO.enc 3 d) cur,by simp,hg,hB,by grind,h5,by rw[Dh];exact Y,?_⟩⟩;rw[Array.length_toList,U,<-Fq];have:=Di (flatK iO.enc 3 d) cur (by omega);rw[hF]at this;exact this
  ·refine⟨rfl,rfl,rfl,?_,λk hk ad=>?_⟩;(·show w.heap.size<=((putRow id (Sort.ahead w m) g 0 (flatK iO.enc 3 d)).heap++os).size;simp);·show((putRow id (Sort.ahead w m) g 0 (flatK iO.enc 3 d)).heap++os)[k]? =w.heap[k]?;rw[dS (by simp_all),KG _ _ _ _ (λe=>ad (by rw[e];rfl))];rfl
end
section
open Go.RowKit Go.Shelf Go.Sort
def KH:Go.Shelf.Ren:=⟨fun |6=>182 |15=>147 |14=>230 |28=>199 |29=>200 |20=>263 |21=>264 |22=>265 |23=>266 |24=>267 |25=>268 |26=>269 |27=>270 |46=>278 |47=>233 |48=>234 |49=>279 |50=>280 |57=>282 |n=>n,fun |22=>39 |24=>58 |25=>276 |3=>3 |39=>232 |0=>0 |53=>30 |55=>134 |4=>4 |46=>285 |45=>284 |50=>71 |5=>5 |9=>9 |66=>328 |70=>332 |76=>360 |77=>361 |n=>n,fun |n=>n⟩
theorem KI:Go.Proofs.SlLaysF0.n6 aj KH where
  mixed:=by rfl
  f6:=⟨ "slices.SortFunc[[]lineside/api.Step,lineside/api.Step]",by decide,Tryz.func182.trans (congrArg some (by rfl))⟩
  f14:=⟨ "slices.pdqsortCmpFunc[lineside/api.Step]",by decide,Tryz.func230.trans (congrArg some (by rfl))⟩
  f15:=Tryz.func147.trans (congrArg some (by rfl))
  f20:=⟨ "slices.insertionSortCmpFunc[lineside/api.Step]",by decide,Tryz.func263.trans (congrArg some (by rfl))⟩
  f21:=⟨ "slices.heapSortCmpFunc[lineside/api.Step]",by decide,Tryz.func264.trans (congrArg some (by rfl))⟩
  f22:=⟨ "slices.breakPatternsCmpFunc[lineside/api.Step]",by decide,Tryz.func265.trans (congrArg some (by rfl))⟩
  f23:=⟨ "slices.choosePivotCmpFunc[lineside/api.Step]",by decide,Tryz.func266.trans (congrArg some (by rfl))⟩
  f24:=⟨ "slices.reverseRangeCmpFunc[lineside/api.Step]",by decide,Tryz.func267.trans (congrArg some (by rfl))⟩
  f25:=⟨ "slices.partialInsertionSortCmpFunc[lineside/api.Step]",by decide,Tryz.func268.trans (congrArg some (by rfl))⟩
  f26:=⟨ "slices.partitionEqualCmpFunc[lineside/api.Step]",by decide,Tryz.func269.trans (congrArg some (by rfl))⟩
  f27:=⟨ "slices.partitionCmpFunc[lineside/api.Step]",by decide,Tryz.func270.trans (congrArg some (by rfl))⟩
  f28:=Tryz.func199.trans (congrArg some (by rfl))
  f29:=Tryz.func200.trans (congrArg some (by rfl))
  f46:=⟨ "slices.siftDownCmpFunc[lineside/api.Step]",by decide,Tryz.func278.trans (congrArg some (by rfl))⟩
  f47:=Tryz.func233.trans (congrArg some (by rfl))
  f48:=Tryz.func234.trans (congrArg some (by rfl))
  f49:=⟨ "slices.medianAdjacentCmpFunc[lineside/api.Step]",by decide,Tryz.func279.trans (congrArg some (by rfl))⟩
  f50:=⟨ "slices.medianCmpFunc[lineside/api.Step]",by decide,Tryz.func280.trans (congrArg some (by rfl))⟩
  f57:=⟨ "slices.order2CmpFunc[lineside/api.Step]",by decide,Tryz.func282.trans (congrArg some (by rfl))⟩
  t0:=underlying0
  a0:=isAgg0
  z0:=sizeOf0
  v0:=zeroValue0
  t3:=bG
  a3:=isAgg3
  z3:=sizeOf3
  v3:=zeroValue3
  t4:=dL
  a4:=isAgg4
  z4:=sizeOf4
  v4:=zeroValue4
  t5:=underlying5
  a5:=isAgg5
  z5:=sizeOf5
  v5:=zeroValue5
  t9:=underlying9
  a9:=isAgg9
  z9:=sizeOf9
  v9:=zeroValue9
  t22:=underlying39
  a22:=isAgg39
  z22:=sizeOf39
  v22:=zeroValue39
  t25:=underlying276
  a25:=isAgg276
  z25:=sizeOf276
  v25:=zeroValue276
  t39:=underlying232
  a39:=isAgg232
  z39:=sizeOf232
  v39:=zeroValue232
  t45:=underlying284
  a45:=isAgg284
  z45:=sizeOf284
  v45:=zeroValue284
  t46:=underlying285
  a46:=isAgg285
  z46:=sizeOf285
  v46:=zeroValue285
  t50:=underlying71
  a50:=isAgg71
  z50:=sizeOf71
  v50:=zeroValue71
  t53:=underlying30
  a53:=isAgg30
  z53:=sizeOf30
  v53:=zeroValue30
  t55:=underlying134
  a55:=isAgg134
  z55:=sizeOf134
  v55:=zeroValue134
  t66:=underlying328
  a66:=isAgg328
  z66:=sizeOf328
  v66:=zeroValue328
  t70:=underlying332
  a70:=isAgg332
  z70:=sizeOf332
  v70:=zeroValue332
  t76:=underlying360
  a76:=isAgg360
  z76:=sizeOf360
  v76:=zeroValue360
  t77:=underlying361
  a77:=isAgg361
  z77:=sizeOf361
  v77:=zeroValue361
theorem KJ(s:St)(w:World):Calls aj 184 #[qB s] w λr w'=>r=.returned (RH (kC s))/\iZ w w':=by
 obtain⟨e,r⟩:=s;have d:Own w _ [_,_]:=((Own.nil w).alloc 58 #[e,r] _ rfl).alloc 125 gF _ rfl;have j:=d.b0.cell;cases r;focus(go_enter func184,ntmps184;go_wp2_with fail;replace d:Own w _ [_,_]:=Own.iY w 58 125 #[e,false] #[e,zI])
 rotate_left;focus(go_enter func184,ntmps184;go_wp2_with fail;replace d:Own w _ [_,_]:=Own.iY w 58 125 #[e,true] #[e,(1:Int)])
 all_goals(exact bodyPost_ret (nC results184 _ _ _ _ _ rfl d.b1 underlying125 rfl (by kernel_rfl)) rfl ⟨rfl,(iZ.alloc _ _).trans (iZ.alloc _ _)⟩)
def Xn (a b:St):Int:=orI (IB a.edge b.edge) (IB (kC a).at_ (kC b).at_)
theorem Qj: ∀args w,(callFunc 183 args).run aj w=.ok (.enter 183 args) w:=enters_of func183 (by rfl) (by rfl)
theorem adu(a b:St)(w:World):Calls aj 183 #[.agg (gV.enc a).toArray,.agg (gV.enc b).toArray] w λe w'=>e=.returned (Xn a b:Int)/\iZ w w':=by
 have hc:=λx y W=>NP x y W;have V:=λW=>KJ a W;have Y:=λW=>KJ b W;have ho:=λg x y W U J=>alT g 2 x y W U J;obtain⟨H,a2⟩:=a;obtain⟨b1,b2⟩:=b;unfold Xn;obtain⟨ea,N⟩:=fD ((kC ⟨H,a2⟩).at_);obtain⟨eb,O⟩:=fD ((kC ⟨b1,b2⟩).at_);have aa:kC ⟨H,a2⟩=⟨H,ea⟩:=by rw[N];rfl
 have ac:kC ⟨b1,b2⟩=⟨b1,eb⟩:=by rw[O];rfl
 rw[<-N,<-O];rw[aa]at V;rw[ac]at Y;have hO:Own w _ [_,_]:=Own.iY w 58 58 #[H,a2] #[b1,b2];have hG:iZ w ((w.alloc (.cells #[H,a2] 58)).alloc (.cells #[b1,b2] 58)):=(iZ.alloc _ _).trans (iZ.alloc _ _);simp only[gV,qB,RH]at V Y ⊢;clear N O aa ac;go_enter func183,ntmps183;go_wp2_with fail;generalize ((w.alloc (.cells #[H,a2] 58)).alloc (.cells #[b1,b2] 58))=W0 at hO hG ⊢;apply gu iZ (λW=>iZ.drew W) (λ_ _ _ J h2=>J.trans h2) (λ_=>iZ) (λ_ _ _ h=>h) (λ_ W=>iZ.refl W) (λ_ _=>True) (λ_=>trivial) (λ_ _ _ _ _ _ _=>trivial);case lX=>intro u;simp only[bV,aq9,aP,ay,aA,aB,aT,aJ];rfl
 case hm=>kernel_rfl
 case hB=>kernel_rfl
 case hA=>kernel_rfl
 case hap=>kernel_rfl
 repeat(first
    |(apply fM.is
      ·
        (intro u w' K af d
         have Z:=K.below
         simp[fO,aC,gI,Is]at d
         refine fC ?_ ?_
         ·
           first
           |rfl
         intro M j
         have ad:=hO.grow Z;have ai:=ad.b0.cell;have ak:=ad.b1.cell
         go_wp2_with (first |((with_reducible refine(hc _ _ _).mono ?_);rintro e w3⟨rfl,rfl⟩) |((with_reducible refine(V _).mono ?_);rintro e w3⟨rfl,ae⟩) |((with_reducible refine(Y _).mono ?_);rintro e w3⟨rfl,ae⟩))
         try simp only[d]at j
         refine j _ _ ?_ rfl
         first |exact iZ.refl _ |exact ae))
    |(refine fM.one (WB (IB H b1) (IB ea eb)) ?_ ?_
      ·
        (intro u w' K af d
         have Z:=K.below
         simp[fO,aC,gI,Is]at d
         refine fC ?_ ?_
         ·
           first
           |rfl
         intro M j
         go_wp2_with fail
         try simp only[d]at j
         refine j _ _ (iZ.alloc _ _) ⟨w',rfl,?_,?_,?_⟩
         all_goals simp))
    |(apply fM.is
      ·
        (intro u w' K af d
         have Z:=K.below
         simp[fO,aC,gI,Is]at d
         first
         |obtain⟨⟨g,hx,al,U,J⟩,-⟩:=d
         refine fC ?_ ?_
         ·
           first
           |rfl
         intro M j
         go_wp2_with ((with_reducible refine(ho _ _ _ _ U J).mono ?_);rintro e w3⟨rfl,rfl⟩)
         try simp only[hx]at j
         refine j _ _ (iZ.refl _) rfl)))
 refine fM.last (SK ?_) ?_
 ·simp only[gQ];repeat(refine⟨?_,?_⟩;·first|exact JH _|exact Hz)
  exact trivial
 intro u w2 ag _ d;simp only[gQ]at d;refine⟨rfl,?_⟩;intro M j;have hl:=d 13 _ rfl;simp only[gI,Is]at hl;go_wp2_with fail;go_ret;exact⟨congrArg Ending.returned hl,hG.trans ag⟩
theorem Jf(a b:St):ltOf Xn a b=true<->(a.edge<b.edge\/a.edge=b.edge/\(kC a).at_<(kC b).at_):=by unfold ltOf Xn orI IB;grind
def D6 (a b:St):Prop:=a.edge<b.edge\/a.edge=b.edge/\(kC a).at_<=(kC b).at_
theorem AY(a b:St):ltOf Xn a b=false<->D6 b a:=by rw[<-Bool.not_eq_true,Jf];unfold D6;omega
theorem adv:SWO (ltOf Xn):=by
 refine⟨λx=>?_,λx y z=>?_,λx y z=>?_⟩;·rw[AY];unfold D6;omega
 ·rw[Jf,Jf,Jf];omega
 ·rw[AY,AY,AY];unfold D6;omega
theorem Fv(d:Array St):(flatK gV.enc 2 d).toList=gV.flat d.toList:=by
 have N:(gV.flat d.toList).length=d.size*2:=by rw[gV.flat_length];rfl
 refine List.ext_getElem? λt=>?_;by_cases M:t<d.size*2
 ·have K:t / 2<d.size:=by omega
  have H:(flatK gV.enc 2 d)[t]! =(gV.enc d[t / 2]!)[t % 2]! :=get_flatK _ _ _ _ M;have j:=gV.IZ (xs:=d.toList) (i:=t / 2) (x:=d[t / 2]) (by simp) (t % 2) (show t % 2<2 by omega);have e3:t / 2*gV.k+t % 2=t:=by show t / 2*2+t % 2=t;omega
  rw[e3]at j;rw[j,Array.getElem?_toList,cO (by simp_all)];rw[getElem!_pos _ t (by simp_all),getElem!_pos d _ K]at H;rw[H];have J:t % 2<(gV.enc d[t / 2]).length:=by grind
  rw[aI J,List.getElem!_eq_getElem?_getD,aI J];rfl
 ·simp_all
theorem adw{w:World}{base g c:Nat}{xs:List St}(O:aq1 gV 58 w base g c xs):HoldsK gV.enc 2 w g 0 xs.toArray:=by
 obtain⟨V,cur,e,Y,H,K,Z,h5,J⟩:=O.blk (by simp);simp only[aO,cZ]at e;obtain⟨rfl,-,-⟩:=e;intro j d;rw[size_flatK]at d;have N:gV.k=2:=rfl;rw[N]at J K;have U:(flatK gV.enc 2 xs.toArray).toList=gV.flat xs:=Fv _;have M:j<xs.length*2:=by simpa using d
 refine⟨?_,by rw[aJ];exact H.frozen _⟩;rw[aJ,H.cell,<-Array.getElem?_toList,show cur.toList[j]? =(cur.toList.take (xs.length*2))[j]? by rw[dG M],J,<-U,Array.getElem?_toList,cO (by rw[size_flatK];exact d),getElem!_pos _ j (by rw[size_flatK];exact d)];rfl
theorem adx(base:Nat)(A:Option Addr)(n c:Nat)(xs:List St)(w:World)(j:aq1 gV 58 w base A c xs)(hn:xs.length=n)(hl:n<=1000):Calls aj 182 #[.slice A n c,.func (.func 183) #[] #[]] w λe w'=>e=.returned (.tuple #[])/\ ∃M:List St,M.Perm xs/\M.Pairwise D6/\aq1 gV 58 w' base A c M/\w.grownBy w' (asa A):=by
 cases n with
 |zero=>have:xs= []:=dh.1 hn;subst this;exact(AnyF.slices_SortFunc_none KI A c _ w).mono λe w' ⟨h1,N⟩=>⟨h1,[],.nil,.nil,N▸j,N▸World.grownBy.refl w _⟩
 |succ n=>
  obtain⟨g,cur,rfl,hg,O,Y,h4,h5,h6⟩:=j.blk (j.some_ (by omega));have V:=AnyQ.slices_SortFunc KI 2 isAgg58 sizeOf58 gV.enc gV.len gV.one Xn adv 183 #[] g 0 c xs.toArray w Qj (λm os Z _ x y=>by have:=adu x y (sortWorldK gV.enc 2 w g 0 m Z os);exact this) (adw j) O.lt (by grind);have J:xs.toArray.size=n+1:=by omega
  rw[J]at V;refine V.mono ?_;rintro e w'⟨rfl,d,m,os,H,hs,rfl⟩;refine⟨rfl,d.toList,?_,?_,?_,?_⟩;·have:=H.2.2;(have e1:d.extract 0 (n+1)=d:=by rw[<-J,<-H.1];simp);grind
  ·rw[List.pairwise_iff_getElem];intro i K hi hj aa;(have ac:K<d.size:=by omega);(have U:d.size=n+1:=by rw[H.1,J]);have:=hs i K (aV _) aa (by omega);rw[AY,getElem!_pos d i (by omega),getElem!_pos d K ac]at this;grind
  ·(have U:d.size=n+1:=by rw[H.1,J]);(have hF:(flatK gV.enc 2 d).size=(n+1)*2:=by simp_all);(have ae:(n+1)*2<=cur.size:=by rw[Y];show(n+1)*2<=c*2;omega);(have hB:fK (sortWorldK gV.enc 2 w g 0 m d os) g 58 (putCells id 0 (flatK gV.enc 2 d) cur):=by have:=KF (show fK (Sort.ahead w m) g 58 cur from O) (flatK gV.enc 2 d);have af:=this.lt;unfold fK at this ⊢;rw[<-this];show((putRow id (Sort.ahead w m) g 0 (flatK gV.enc 2 d)).heap++os)[g]? =_;grind);refine⟨by rw[gV.flat_length],.inr ⟨g,c,putCells id 0 (flatK gV.enc 2 d) cur,by simp,hg,hB,by grind,h5,by rw[Dh];exact Y,?_⟩⟩;rw[Array.length_toList,U,<-Fv];have:=Di (flatK gV.enc 2 d) cur (by omega);rw[hF]at this;exact this
  ·refine⟨rfl,rfl,rfl,?_,λk hk ad=>?_⟩;(·show w.heap.size<=((putRow id (Sort.ahead w m) g 0 (flatK gV.enc 2 d)).heap++os).size;simp);·show((putRow id (Sort.ahead w m) g 0 (flatK gV.enc 2 d)).heap++os)[k]? =w.heap[k]?;rw[dS (by simp_all),KG _ _ _ _ (λe=>ad (by rw[e];rfl))];rfl
end
section
theorem Fz(s:St)(d:Bool)(W:World):(Instr.checkKey d 10000 58 (qB s)).run aj W=.ok () W:=by rfl
theorem Qk(s:St)(W:World):(Instr.keyThatStays (qB s) (qB s)).run aj W=.ok (qB s) W:=by
 have h:Instr.sameBits 10000 (qB s) (qB s)=true:=by rw[show(10000:Nat)=9998+1+1 from rfl];simp[Instr.sameBits]
 simp[Instr.keyThatStays,h]
theorem AZ(a b:St)(W:World):(Op.equal 58 (qB a) (qB b)).run aj W=.ok (decide (a=b)) W:=by have h:=vP a b W;simp only[binOp,Op.equal]at h ⊢;simp at h ⊢;cases d:(Op.equalIn Op.maxDepth 58 (qB a) (qB b)).run aj W with|ok v W'=>simp_all|halt x y=>simp_all
def Ba (ms:List (St × Nat)):List MapEntry:=ms.map fun p=>⟨qB p.1,.bool true,p.2⟩
theorem Ic(s:St)(W:World): ∀(ms:List (St × Nat)) (i:Nat),s∉ms.map (·.1)->(Instr.findAsking 58 (qB s) (Ba ms) i).run aj W=.ok none W
 | [],i,_=>by rfl
 |p::ms,i,h=>by
  rw[List.map_cons,bJ,not_or]at h;have d:=Ic s W ms (i+1) h.2;have j:decide (s=p.1)=false:=by grind
  simp only[Ba,List.map_cons]at d ⊢;simp[Instr.findAsking,AZ,j,d]
theorem KL(s:St)(W:World): ∀(ms:List (St × Nat)) (i:Nat),s∈ms.map (·.1)-> ∃d b,(Instr.findAsking 58 (qB s) (Ba ms) i).run aj W=.ok (some (i+d,true)) W/\ms[d]? =some (s,b)
 | [],i,h=>by cases h
 |p::ms,i,h=>by
  by_cases e:s=p.1;·(have j:decide (s=p.1)=true:=by grind);exact⟨0,p.2,by simp[Ba,Instr.findAsking,AZ,j],by grind⟩
  ·(have j:decide (s=p.1)=false:=by grind);rw[List.map_cons,bJ]at h;obtain⟨d,b,H,J⟩:=KL s W ms (i+1) (h.resolve_left e);refine⟨d+1,b,?_,by grind⟩;simp only[Ba,List.map_cons]at H ⊢;simp[Instr.findAsking,AZ,j,H];omega
theorem Uk(s:St)(W:World)(ms:List (St × Nat)):(s∉ms.map (·.1)/\(Instr.findKey 58 (qB s) (Ba ms)).run aj W=.ok none W)\/ ∃d b,(Instr.findKey 58 (qB s) (Ba ms)).run aj W=.ok (some (d,true)) W/\ms[d]? =some (s,b):=by
 have M: ∀es:List MapEntry,es≠ []->dY (.struct (aj.fieldsOf 58)) (qB s) es 0=none:=λes h=>by cases es with|nil=>grind|cons e es=>rfl
 have j:aj.underlying 58=some (.struct (aj.fieldsOf 58)):=by kernel_rfl
 cases ms with
 |nil=>exact .inl ⟨by simp,by simp[Instr.findKey,run_underlying j,Ba,dY]⟩
 |cons p ms=>
  have H:=M (Ba (p::ms)) (by simp[Ba]);by_cases h:s∈(p::ms).map (·.1);·obtain⟨d,b,J,K⟩:=KL s W (p::ms) 0 h;rw[aJ]at J;exact .inr ⟨d,b,by simp[Instr.findKey,run_underlying j,H,J],K⟩
  ·exact .inl ⟨h,by simp[Instr.findKey,run_underlying j,H,Ic s W (p::ms) 0 h]⟩
structure FB (W:World) (b:Nat) (ms:List (St × Nat)):Prop where
  at_: ∃es cl,W.heap[b]? =some (.map es cl)/\es.toList=Ba ms/\ ∀p∈ms,p.2<cl
  keys:(ms.map (·.1)).Nodup
  born:(ms.map (·.2)).Nodup
theorem FB.keep{W W':World}{b:Nat}{ms:List (St × Nat)}(h:FB W b ms)(H:W'.heap[b]? =W.heap[b]?):FB W' b ms:=by obtain⟨es,cl,d,j⟩:=h.at_;exact⟨⟨es,cl,H.trans d,j⟩,h.keys,h.born⟩
theorem FB.lt{W:World}{b:Nat}{ms:List (St × Nat)}(h:FB W b ms):b<W.heap.size:=by obtain⟨es,cl,d,_⟩:=h.at_;grind
theorem KN:aj.underlying 271=some (.map 58 4):=by simp
theorem Ul{es:Array MapEntry}{d:Nat}{s:St}{b:Nat}(h:es[d]? =some ⟨qB s,true,b⟩):es.modify d (λe=>{e with key:=qB s,val:=true})=es:=by grind
theorem FB.put{W:World}{b:Nat}{ms:List (St × Nat)}(h:FB W b ms)(s:St): ∃W' M,(Instr.mapUpdate 271 (.map (some b)) (qB s) true).run aj W=.ok () W'/\W.grownBy W' (some b)/\FB W' b M/\ ∀y,y∈M.map (·.1)<->y=s\/y∈ms.map (·.1):=by
 obtain⟨es,cl,H,d,O⟩:=h.at_;have V:=h.lt;have K: ∀o,(pX W b o).heap[b]? =some o:=λo=>by simp[pX,V]
 rcases Uk s W ms with⟨hn,j⟩ |⟨aa,N,j,U⟩
 ·refine⟨pX W b (.map (es.push ⟨qB s,true,cl⟩) (cl+1)),ms++ [(s,cl)],?_,vk _ _ _,⟨⟨_,_,K _,by rw[Array.toList_push,d];simp[Ba],λp hp=>?_⟩,?_,?_⟩,λy=>by grind⟩;·rw[<-d]at j;simp[Instr.mapUpdate,run_underlying KN,MapKept.run_getObj_map H,Fz,j,MapKept.run_setObj_map _ H,pX]
  ·grind
  ·rw[eX,List.nodup_append];refine⟨h.keys,by simp,λx Y y Z e=>?_⟩;grind
  ·rw[eX,List.nodup_append];refine⟨h.born,by simp,λx Y y Z e=>?_⟩;grind
 ·have J:es[aa]? =some ⟨qB s,true,N⟩:=by rw[<-Array.getElem?_toList,d,Ba,bW,U];rfl
  refine⟨pX W b (.map es cl),ms,?_,vk _ _ _,⟨⟨es,cl,K _,d,O⟩,h.keys,h.born⟩,λy=>?_⟩;·rw[<-d]at j;simp[Instr.mapUpdate,run_underlying KN,MapKept.run_getObj_map H,Fz,j,J,Qk,MapKept.run_setObj_map _ H,pX,Ul J]
  grind
section
variable {W:World} {ops:Array Oper} {rest:List Oper} {o:Oper} {a:Act} {Q:Exit->Act->World->Prop}
theorem MK{b:Nat}{ms:List (St × Nat)}(h:FB W b ms)(s:St)(N:o.guard=none)(m k y:Operand)(U:o.op=.mapUpdate 271 m k y)(hm:a.eval m=.map (some b))(O:a.eval k=qB s)(Y:a.eval y=true)(V: ∀W' d,W.grownBy W' (some b)->FB W' b d->(∀y,y∈d.map (·.1)<->y=s\/y∈ms.map (·.1))->wpList aj ops Q rest (a.put o.dst undef) W'):wpList aj ops Q (o::rest) a W:=by obtain⟨W',d,j,H,J,K⟩:=h.put s;refine wpList_plain N λZ M=>?_;have:=M _ _ (V W' d H J K);unfold Oper.wp execOp;simp only[U,hm,O,Y,Sem.run_bind,j,dO];exact this
structure Dj (W:World) (b r:Nat) (ms:List (St × Nat)) (out:List St):Prop where
  at_: ∃es cl since seen c0,W.heap[b]? =some (.map es cl)/\es.toList=Ba ms/\W.heap[r]? =some (.mapIter (some b) since seen c0)/\since<=c0/\since<=cl/\(∀p∈ms,p.2<since)/\ ∀p∈ms,seen.contains p.2=true<->p.1∈out
  keys:(ms.map (·.1)).Nodup
  born:(ms.map (·.2)).Nodup
  sub: ∀y∈out,y∈ms.map (·.1)
  nodup:out.Nodup
theorem Dj.keep{W W':World}{b r:Nat}{ms:List (St × Nat)}{out:List St}(h:Dj W b r ms out)(K:W'.heap[b]? =W.heap[b]?)(M:W'.heap[r]? =W.heap[r]?):Dj W' b r ms out:=by obtain⟨es,cl,since,seen,c0,d,j,H,J⟩:=h.at_;exact {h with at_:=⟨es,cl,since,seen,c0,K.trans d,j,M.trans H,J⟩}
theorem Dj.ne{b r:Nat}{ms:List (St × Nat)}{out:List St}(h:Dj W b r ms out):r≠b:=by obtain⟨es,cl,since,seen,c0,d,j,H,J⟩:=h.at_;grind
theorem KO(seen:Array Nat)(x y:Nat):(seen.push y).contains x=true<->seen.contains x=true\/x=y:=by simp
theorem YP: ∀ {ms:List (St × Nat)},(ms.map (·.1)).Nodup-> ∀ {p q:St × Nat},p∈ms->q∈ms->p.1=q.1->p=q
 |x::l,h,p,q,hp,hq,e=>by
  rw[List.map_cons,List.nodup_cons]at h;rcases bJ.1 hp with d |d;·grind
  ·rcases bJ.1 hq with j |j;(·grind);·exact YP h.2 d j e
theorem YQ: ∀ {ms:List (St × Nat)},(ms.map (·.2)).Nodup-> ∀ {p q:St × Nat},p∈ms->q∈ms->p.2=q.2->p=q
 |x::l,h,p,q,hp,hq,e=>by
  rw[List.map_cons,List.nodup_cons]at h;rcases bJ.1 hp with d |d;·grind
  ·rcases bJ.1 hq with j |j;(·grind);·exact YQ h.2 d j e
theorem IK{b:Nat}{ms:List (St × Nat)}(h:FB W b ms)(K:o.guard=none)(m:Operand)(N:o.op=.range 271 m)(hm:a.eval m=.map (some b))(O: ∀W',W W'->Dj W' b W ms []->wpList aj ops Q rest (a.put o.dst (.pointer W)) W'):wpList aj ops Q (o::rest) a W:=by obtain⟨es,cl,d,J,H⟩:=h.at_;have M:=h.lt;have hB:W (W.alloc (.mapIter (some b) cl #[] cl)):=gY.alloc ig _;refine wpList_plain K λV j=>?_;have:=j _ _ (O _ hB ⟨⟨es,cl,cl,#[],cl,(hB.block b M).trans d,J,heap_alloc_new W _,aW _,aW _,H,λp _=>by simp⟩,h.keys,h.born,(λy U=>by cases U),List.nodup_nil⟩);unfold Oper.wp execOp;simp only[N,hm,Sem.run_bind,run_range_map W 271 58 4 b es cl KN d,dO];exact this
theorem KP{b r:Nat}{ms:List (St × Nat)}{out:List St}(h:Dj W b r ms out)(al:o.guard=none)(m:Operand)(ho:o.op=.next m false)(hm:a.eval m=.pointer r)(h0:Hid (∀y,y∈ms.map (·.1)->y∈out)->wpList aj ops Q rest (a.put o.dst (.tuple #[false])) W)(h1: ∀s W',Hid (s∈ms.map (·.1))->Hid (s∉out)->jV (λk=>k=r) W W'->Dj W' b r ms (out++ [s])->W'.rangeLeft b r<W.rangeLeft b r->(Instr.entry (.pointer r)).run aj W'=.ok (.tuple #[qB s,true]) W'->wpList aj ops Q rest (a.put o.dst (.tuple #[true,qB s,true])) W'):wpList aj ops Q (o::rest) a W:=by
 have aq:=h.ne;have ai:=h.keys;have ak:=h.born;obtain⟨es,cl,since,seen,c0,U,M,N,au,af,ar,O⟩:=h.at_;have ap:(es.toList.map (·.born)).Nodup:=by rw[M,Ba,List.map_map];grind
 have an: ∀x∈es.toList,∃p∈ms,x=⟨qB p.1,true,p.2⟩:=λx J=>by rw[M,Ba]at J;grind
 have ac: ∀p∈ms,(⟨qB p.1,true,p.2⟩:MapEntry)∈es.toList:=λp j=>by rw[M,Ba];grind
 refine wpList_plain al λax hK=>?_;rcases run_next_at (P:=aj) W o.type r b since c0 seen es cl N U (λx J=>by grind) au with⟨hz,aa⟩ |⟨x,J,H,av,aa⟩;·have:=hK _ _ (h0 (ah λy d=>by obtain⟨p,j,rfl⟩:=List.mem_map.1 d;exact(O p j).1 (all_seen es seen hz _ (ac p j))));unfold Oper.wp execOp;simp only[ho,hm,Sem.run_bind,aa,dO];exact this
 ·obtain⟨aw,ag⟩:=mem_left J;obtain⟨p,j,rfl⟩:=an x aw;have am:r<W.heap.size:=by rcases eu r W with h |h;(·exact h);·rw[dI h]at N;cases N
  have K:H.heap=W.heap/\H.os=W.os/\H.tape=W.tape/\H.output=W.output:=by rcases av with rfl |rfl <;> exact⟨rfl,rfl,rfl,rfl⟩
  have Z:(ChangeMaps.setBlock H r (.mapIter (some b) since (seen.push p.2) cl)).heap[r]? =some (.mapIter (some b) since (seen.push p.2) cl):=by simp[ChangeMaps.setBlock,K.1,am]
  have ad: ∀k,k≠r->(ChangeMaps.setBlock H r (.mapIter (some b) since (seen.push p.2) cl)).heap[k]? =W.heap[k]? :=λk hk=>by simp only[ChangeMaps.setBlock,K.1];exact dR (λe=>hk e.symm)
  have V:=(ad b (λe=>aq e.symm)).trans U;have hg:jV (λk=>k=r) W (ChangeMaps.setBlock H r (.mapIter (some b) since (seen.push p.2) cl)):=⟨K.2.1,K.2.2.1,K.2.2.2,by simp[ChangeMaps.setBlock,K.1],λk _ hn=>ad k hn⟩;have ae:p.1∉out:=λe=>by have:=(O p j).2 e;rw[this]at ag;cases ag
  have hI:Dj (ChangeMaps.setBlock H r (.mapIter (some b) since (seen.push p.2) cl)) b r ms (out++ [p.1]):=by refine⟨⟨es,cl,since,seen.push p.2,cl,V,M,Z,af,af,ar,λq Y=>?_⟩,h.keys,h.born,λy d=>?_,?_⟩;(·rw[KO,O q Y,dK,dN];constructor;(·rintro (h |h);(·exact .inl h);·right;exact congrArg Prod.fst (YQ ak Y j h));·rintro (h |h);(·exact .inl h);·exact .inr (congrArg Prod.snd (YP ai Y j h)));(·rcases dK.1 d with d |d;(·exact h.sub y d);·rw[dN]at d;rw[d];exact List.mem_map.2 ⟨p,j,rfl⟩);·rw[List.nodup_append];refine⟨h.nodup,by simp,λx J y d e=>?_⟩;rw[dN]at d;rw[e,d]at J;exact ae J
  have hl:(ChangeMaps.setBlock H r (.mapIter (some b) since (seen.push p.2) cl)).rangeLeft b r<W.rangeLeft b r:=by unfold World.rangeLeft;rw[V,Z,U,N];exact left_shrinks es seen _ J
  have:=hK _ _ (h1 p.1 _ (ah (List.mem_map.2 ⟨p,j,rfl⟩)) (ah ae) hg hI hl (run_entry_at _ r b since seen es cl ⟨qB p.1,true,p.2⟩ Z V (ac p j) ap));unfold Oper.wp execOp;simp only[ho,hm,Sem.run_bind,aa,dO];exact this
theorem IL{r:Nat}{s:St}(h:(Instr.entry (.pointer r)).run aj W=.ok (.tuple #[qB s,true]) W)(j:o.guard=none)(m:Operand)(H:o.op=.entry m)(hm:a.eval m=.pointer r)(J:wpList aj ops Q rest (a.put o.dst (.tuple #[qB s,true])) W):wpList aj ops Q (o::rest) a W:=by refine wpList_plain j λK d=>?_;have:=d _ _ J;unfold Oper.wp execOp;simp only[H,hm,Sem.run_bind,h,dO];exact this
end
end
end Go.Proofs.YthnmgjngniciaaaGreatDoor
