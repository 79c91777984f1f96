/- Parts. -/
import Derived.Test.YthnmgjngniciaaaGreatDoorM08
import Derived.Test.YthnmgjngniciaaaGreatDoorM09
import Derived.Test.YthnmgjngniciaaaGreatDoorM01
set_option linter.all false
set_option maxHeartbeats 16000000
set_option maxRecDepth 8000
open List renaming length_append→bC,length_map→eU,length_take→dX,map_append→eX,mem_cons→bJ,mem_of_getElem?→bP,take_of_length_le→aY
open Nat renaming add_zero→bI,le_trans→aG,lt_of_lt_of_le→aU,zero_le→aV
namespace Go.Proofs.YthnmgjngniciaaaGreatDoor
open Go.RowKit Go.Shelf Tryz
open Below renaming refl→aH
open Lib renaming hid→ah
open Tryz renaming prog→aj
variable{ps:List Pt}{B B' c:Nat}{A:Option Addr}{p:Pt}{v:Value}{w w':World}
theorem acB{α:Type}{E:arb α}{t:TypeId}{w0:World}{xs:List α}(h:w0 w)(j:aq1 E t w w0 A c xs)(d:w.grownBy w' (A.map (·.block))):w0 w':=aro h j h.size d
structure Vu where
  v:Int
  aic:Int
  A:Option Addr
  n:Nat
  c:Nat
def arQ:arb Vu:=⟨3,fun p=> [.int .i64 p.v,.int .i64 p.aic,.slice p.A p.n p.c],fun _=>rfl,fun _ u hu=>by simp at hu;rcases hu with rfl |rfl |rfl <;> rfl,by decide⟩
theorem aie:qo aj arQ 318 341 40:=arD (.agg #[.int .i64 0,.int .i64 0,.slice none 0 0]) underlying318 (by kernel_rfl) rfl
def plC (v:Int):Vu:=⟨v,0,none,0,0⟩
def lZ (B:Nat) (w:World) (A:Option Addr) (xs:List Vu):Prop:=fE arQ w A xs/\(xs≠ []-> ∀a,A=some a->B<=a.block)
theorem lZ.below{xs:List Vu}(h:lZ B w A xs)(d:w w'):lZ B w' A xs:=⟨h.1.below d,h.2⟩
theorem lZ.less{xs:List Vu}(h:lZ B w A xs)(hB:B'<=B):lZ B' w A xs:=⟨h.1,λd a e=>aG hB (h.2 d a e)⟩
theorem lZ.keep{xs:List Vu}(h:lZ B w A xs)(H: ∀k,B<=k->k<w.heap.size->w'.heap[k]? =w.heap[k]?)(J:w.heap.size<=w'.heap.size):lZ B w' A xs:=by
 refine⟨λd=>?_,h.2⟩;obtain⟨b,off,e,j,hc⟩:=h.1 d;have M:xs≠ []:=λe=>by rw[e]at d;exact absurd d (by decide)
 have hB:=h.2 M _ e;exact⟨b,off,e,aU j J,λN u K=>(World.cell?_of_block (w:=w) (H b hB j)).trans (hc N u K)⟩
def kX (B:Nat) (w:World):Pt->List Vu->Prop
 | .nil,xs=>xs= []
 | .pl v r,xs=> ∃ys,xs=plC v::ys/\kX B w r ys
 | .grp k l r,xs=> ∃A n c ys,xs=⟨0,k,A,n,c⟩::ys/\(∃zs,lZ B w A zs/\zs.length=n/\kX B w l zs)/\kX B w r ys
theorem kX.below(d:w w'): ∀ {p:Pt} {xs:List Vu},kX B w p xs->kX B w' p xs
 | .nil,_,h=>h
 | .pl v r,xs,h=>by obtain⟨H,e,j⟩:=h;exact⟨H,e,kX.below d j⟩
 | .grp k l r,xs,h=>by obtain⟨A,n,c,H,e,⟨N,J,K,M⟩,j⟩:=h;exact⟨A,n,c,H,e,⟨N,J.below d,K,kX.below d M⟩,kX.below d j⟩
theorem kX.less(hB:B'<=B): ∀ {p:Pt} {xs:List Vu},kX B w p xs->kX B' w p xs
 | .nil,_,h=>h
 | .pl v r,xs,h=>by obtain⟨j,e,d⟩:=h;exact⟨j,e,kX.less hB d⟩
 | .grp k l r,xs,h=>by obtain⟨A,n,c,j,e,⟨M,H,J,K⟩,d⟩:=h;exact⟨A,n,c,j,e,⟨M,H.less hB,J,kX.less hB K⟩,kX.less hB d⟩
theorem kX.keep(d: ∀k,B<=k->k<w.heap.size->w'.heap[k]? =w.heap[k]?)(j:w.heap.size<=w'.heap.size): ∀ {p:Pt} {xs:List Vu},kX B w p xs->kX B w' p xs
 | .nil,_,h=>h
 | .pl v r,xs,h=>by obtain⟨J,e,H⟩:=h;exact⟨J,e,kX.keep d j H⟩
 | .grp k l r,xs,h=>by obtain⟨A,n,c,J,e,⟨O,K,M,N⟩,H⟩:=h;exact⟨A,n,c,J,e,⟨O,K.keep d j,M,kX.keep d j N⟩,kX.keep d j H⟩
theorem kX.app: ∀ {p q:Pt} {xs d:List Vu},kX B w p xs->kX B w q d->kX B w (p.app q) (xs++d)
 | .nil,q,xs,d,h,k=>by obtain rfl:xs= []:=h;exact k
 | .pl v r,q,xs,d,h,k=>by obtain⟨H,rfl,j⟩:=h;exact⟨H++d,rfl,kX.app j k⟩
 | .grp m l r,q,xs,d,h,k=>by obtain⟨A,n,c,H,rfl,J,j⟩:=h;exact⟨A,n,c,H++d,rfl,J,kX.app j k⟩
theorem NQ: ∀l:List Int,kX B w (Pt.row l) (l.map plC)
 | []=>rfl
 |v::l=>⟨l.map plC,rfl,NQ l⟩
theorem Pt.PG: ∀l:List Int,(Pt.row l).len=l.length
 | []=>rfl
 |v::l=>congrArg (· +1) (Pt.PG l)
theorem kX.len: ∀ {p:Pt} {xs:List Vu},kX B w p xs->xs.length=p.len
 | .nil,_,h=>by obtain rfl:=h;rfl
 | .pl v r,xs,h=>by obtain⟨j,rfl,d⟩:=h;exact congrArg (· +1) (kX.len d)
 | .grp k l r,xs,h=>by obtain⟨A,n,c,j,rfl,_,d⟩:=h;exact congrArg (· +1) (kX.len d)
def sO (B:Nat) (w:World) (A:Option Addr) (p:Pt):Prop:= ∃xs,lZ B w A xs/\kX B w p xs
theorem sO.below(h:sO B w A p)(d:w w'):sO B w' A p:=by obtain⟨xs,j,H⟩:=h;exact⟨xs,j.below d,H.below d⟩
theorem sO.less(h:sO B w A p)(hB:B'<=B):sO B' w A p:=by obtain⟨xs,d,j⟩:=h;exact⟨xs,d.less hB,j.less hB⟩
theorem sO.keep(h:sO B w A p)(d: ∀k,B<=k->k<w.heap.size->w'.heap[k]? =w.heap[k]?)(j:w.heap.size<=w'.heap.size):sO B w' A p:=by obtain⟨xs,H,J⟩:=h;exact⟨xs,H.keep d j,J.keep d j⟩
theorem sO.nil(B:Nat)(w:World)(A:Option Addr):sO B w A .nil:=⟨[],⟨fE.nil _ _,λh=>absurd rfl h⟩,rfl⟩
def rF (B:Nat) (w:World) (p:Pt) (e:Ending) (w':World):Prop:= ∃A c,e=.returned (.slice A p.len c)/\sO B w' A p/\w w'
def PtW (B:Nat) (p:Pt) (v:Value) (w:World):Prop:= ∃A c,v=.slice A p.len c/\sO B w A p
theorem PtW.grow(h:PtW B p v w)(d:w w'):PtW B p v w':=by obtain⟨A,c,e,j⟩:=h;exact⟨A,c,e,j.below d⟩
theorem SQ{xs:List Vu}(h:aq1 arQ 341 w B A c xs):lZ B w A xs:=⟨h.rows,λ_ a e=>(h.gJ a.block (by grind)).1⟩
theorem NR{g:Nat}{p:Vu}(h:fK w g 341 #[.int .i64 p.v,.int .i64 p.aic,.slice p.A p.n p.c]):fE arQ w (some ⟨g,0,none⟩) [p]:=qw h rfl
theorem afU(A:Option Addr)(n c:Nat)(l:List Int)(w:World)(Y:fE aq7 w A l)(hn:l.length=n)(hl:n<=1000)(hB:B<=w.heap.size):Calls aj 244 #[.slice A n c] w (rF B w (Pt.row l)):=by
 have j:=ah hn;go_enter func244,ntmps244;go_wp2;go_loopw [3,8] (λs i wr=> ∃(k:Nat) (A1:Option Addr) (c1:Nat),i=.int .i64 k/\k<=n/\s=.slice A1 k c1/\aq1 arQ 341 wr w A1 c1 ((l.take k).map plC)/\w wr) (λ_ i _=>n-(intOf i).toNat);case atStart=>exact⟨0,none,0,rfl,aV _,rfl,aq1.nil _ _,aH _ _⟩
 case round=>
  obtain⟨k,A1,c1,rfl,hk,rfl,H,d⟩:=hrel;by_cases U:k<n;·obtain⟨y,K⟩:=aq5 j.out U;obtain⟨g,off,rfl,O,hc⟩:=Y.get K;have a0:=hc 0 y rfl;simp only[aq7,Nat.mul_one,bI]at a0;have k0:=(d.cell (p:=⟨g,off+k,none⟩) O).trans a0;(have V:(l.take k).map plC++ [plC y]=(l.take (k+1)).map plC:=by rw[take_snoc' K,eX];rfl);have N:=ah V;(have J:((l.take k).map plC).length=k:=by rw[eU,dX,j.out];omega);go_wp2_with(at_builtin;refine gW aie rfl _ _ rfl w A1 c1 ((l.take k).map plC) k rfl J (H.below jm) wr 1 [plC y] 1 rfl rfl (NR (fK.new _ _ _)) (by omega) (by decide) ((d.alloc d.size _).size) ?_;intro A2 c2 w5 uq Q _;have aa:=acB (d.alloc d.size _) (H.below jm) Q);go_roundw;(case rel=>exact⟨k+1,A2,c2,by go_num,by omega,by rfl,by rw[<-N.out];exact uq,aa⟩);case measure=>simp[intOf];omega
  ·(obtain rfl:k=n:=by omega);have Z:l.take k=l:=aY (by rw[j.out];simp);rw[Z]at H;(have J:(Pt.row l).len=k:=by rw[Pt.PG,j.out]);have M:=ah J;go_wp2_with fail;go_ret;exact⟨A1,c1,by rw[M.out];rfl,⟨_,(SQ H).less hB,NQ l⟩,d⟩
theorem Pt.PI: ∀p:Pt,p.app .nil=p
 | .nil=>rfl
 | .pl v r=>congrArg (Pt.pl v) (Pt.PI r)
 | .grp k l r=>congrArg (Pt.grp k l) (Pt.PI r)
theorem Pt.Gi: ∀p q r:Pt,(p.app q).app r=p.app (q.app r)
 | .nil,_,_=>rfl
 | .pl v p,q,r=>congrArg (Pt.pl v) (Pt.Gi p q r)
 | .grp k l p,q,r=>congrArg (Pt.grp k l) (Pt.Gi p q r)
theorem Pt.NS: ∀(l:List Pt) (p:Pt),Pt.ands (l++ [p])=(Pt.ands l).app p
 | [],p=>Pt.PI p
 |q::l,p=>by show q.app (Pt.ands (l++ [p]))=(q.app (Pt.ands l)).app p;rw[Pt.NS l p,Pt.Gi]
def Yz:arb (Option Addr × Nat × Nat):=⟨1,fun p=> [.slice p.1 p.2.1 p.2.2],fun _=>rfl,fun _ u hu=>by simp at hu;subst hu;rfl,by decide⟩
def SS (B:Nat) (w:World) (A:Option Addr) (ps:List Pt):Prop:= ∃vs:List (Option Addr × Nat × Nat),fE Yz w A vs/\vs.length=ps.length/\ ∀(i:Nat) v p,vs[i]? =some v->ps[i]? =some p->v.2.1=p.len/\sO B w v.1 p
theorem SS.below(h:SS B w A ps)(j:w w'):SS B w' A ps:=by obtain⟨vs,K,M,d⟩:=h;exact⟨vs,K.below j,M,λi v p J H=>⟨(d i v p J H).1,(d i v p J H).2.below j⟩⟩
theorem afV(A:Option Addr)(n c:Nat)(ps:List Pt)(w:World)(j:SS B w A ps)(hn:ps.length=n)(hl:n<=100)(hs: ∀p∈ps,p.len<=100)(hB:B<=w.heap.size):Calls aj 245 #[.slice A n c] w (rF B w (Pt.ands ps)):=by
 obtain⟨vs,ag,Y,ai⟩:=j;rw[hn]at Y;have N:=ah hn;have HV:=ah Y;go_enter func245,ntmps245;go_wp2;go_loopw [3,8] (λs i wr=> ∃(k z:Nat) (A1:Option Addr) (c1:Nat) (xs:List Vu),i=.int .i64 k/\k<=n/\s=.slice A1 z c1/\z<=100*k/\Hid (xs.length=z)/\Hid (kX B w (Pt.ands (ps.take k)) xs)/\aq1 arQ 341 wr w A1 c1 xs/\w wr) (λ_ i _=>n-(intOf i).toNat);case atStart=>exact⟨0,0,none,0,[],rfl,aV _,rfl,aV _,ah rfl,ah rfl,aq1.nil _ _,aH _ _⟩
 case round=>
  obtain⟨k,z,A1,c1,xs,rfl,hk,rfl,hz,K,hm,J,d⟩:=hrel;by_cases Q:k<n;·obtain⟨v,V⟩:=aq5 HV.out Q;obtain⟨p,j⟩:=aq5 N.out Q;obtain⟨g,off,rfl,hg,hc⟩:=ag.get V;obtain⟨e1,M,U,Z⟩:=ai k v p V j;have al:=hs p (bP j);obtain⟨vA,vn,vc⟩:=v;simp only at e1 U;subst e1;have a0:=hc 0 (.slice vA p.len vc) rfl;simp only[Yz,Nat.mul_one,bI]at a0;have k0:=(d.cell (p:=⟨g,off+k,none⟩) hg).trans a0;(have af:kX B w (Pt.ands (ps.take (k+1))) (xs++M):=by rw[take_snoc' j,Pt.NS];exact hm.out.app Z);have ac:=ah af;have O:=ah Z.len;generalize p.len=pn at*;go_wp2_with(at_builtin;refine gW aie rfl _ _ rfl w A1 c1 xs z rfl K.out J vA vc M pn rfl O.out (U.1.below d) (by omega) (by decide) d.size ?_;intro A2 c2 w5 uq ad _;have ak:=acB d J ad);go_roundw;(case rel=>exact⟨k+1,z+pn,A2,c2,xs++M,by go_num,by omega,by rfl,by omega,ah (by rw[bC,K.out,O.out]),ac,uq,ak⟩);case measure=>simp[intOf];omega
  ·(obtain rfl:k=n:=by omega);have H:=hm.out;rw[aY (by rw[N.out];simp)]at H;(have ae:(Pt.ands ps).len=z:=by rw[<-H.len,K.out]);have aa:=ah ae;have HM:=ah H;go_wp2_with fail;go_ret;exact⟨A1,c1,by rw[aa.out];rfl,⟨_,(SQ J).less hB,HM.out.below d⟩,d⟩
theorem acC(k:Int)(A:Option Addr)(n c:Nat)(p:Pt)(w:World)(J:sO B w A p)(hn:p.len=n)(hB:B<=w.heap.size):Calls aj 247 #[k,.slice A n c] w (rF B w (.grp k p .nil)):=by have d:Own w _ [_]:=(Own.nil w).alloc 341 #[zI,k,.slice A n c] _ rfl;go_enter func247,ntmps247;go_wp2;go_ret;obtain⟨K,H,j⟩:=J;exact⟨w,1,rfl,⟨[⟨0,k,A,n,c⟩],⟨NR d.b0,λ_ a e=>by grind⟩,⟨A,n,c,[],rfl,⟨K,H.below d.below,by rw[j.len,hn],j.below d.below⟩,rfl⟩⟩,d.below⟩
def WE (l:List Int) (v:Value) (w:World):Prop:= ∃A c,v=.slice A l.length c/\fE aq7 w A l
theorem WE.grow{l:List Int}(h:WE l v w)(d:w w'):WE l v w':=by obtain⟨A,c,e,j⟩:=h;exact⟨A,c,e,j.below d⟩
def aja (B:Nat) (ps:List Pt) (v:Value) (w:World):Prop:= ∃A c,v=.slice A ps.length c/\SS B w A ps
theorem aja.grow(h:aja B ps v w)(d:w w'):aja B ps v w':=by obtain⟨A,c,e,j⟩:=h;exact⟨A,c,e,j.below d⟩
inductive Gj (B:Nat) (w:World):List Pt->List Value->Prop
  |nil:Gj B w [] []
  |cons {p:Pt} {ps:List Pt} {vs:List Value} {A:Option Addr} {c:Nat} (h:sO B w A p) (r:Gj B w ps vs):Gj B w (p::ps) (.slice A p.len c::vs)
theorem Gj.grow(d:w w'): ∀ {ps:List Pt} {vs:List Value},Gj B w ps vs->Gj B w' ps vs
 |_,_,.nil=> .nil
 |_,_,.cons h r=> .cons (h.below d) (Gj.grow d r)
theorem Gj.at_: ∀ {ps:List Pt} {vs:List Value},Gj B w ps vs-> ∃ts:List (Option Addr × Nat × Nat),vs=Yz.flat ts/\ts.length=ps.length/\ ∀(i:Nat) v p,ts[i]? =some v->ps[i]? =some p->v.2.1=p.len/\sO B w v.1 p
 |_,_,.nil=>⟨[],rfl,rfl,λi v p h=>by cases h⟩
 |_,_,.cons (p:=q) (A:=A) (c:=c) h r=>by obtain⟨ts,e,d,hi⟩:=Gj.at_ r;refine⟨(A,q.len,c)::ts,by rw[e];rfl,congrArg (· +1) d,λi v p H j=>?_⟩;grind
section
structure ars (B:Nat) (w0 W:World) (L:List (Option Addr × Pt)):Prop where
  b:w0 W
  l:B<=w0.heap.size
  t: ∀x∈L,sO B W x.1 x.2
inductive arA (L:List (Option Addr × Pt)):List Value->List Pt->Prop
  |nil:arA L [] []
  |cons {A:Option Addr} {n c:Nat} {p:Pt} {vs:List Value} {ps:List Pt} (hm:(A,p)∈L) (hn:n=p.len) (r:arA L vs ps):arA L (.slice A n c::vs) (p::ps)
theorem NT: ∀l:List Int,aq7.flat l=l.map (Value.int .i64)
 | []=>rfl
 |x::l=>congrArg (Value.int .i64 x:: ·) (NT l)
def acD:List Pt->Prop
 | []=>True
 |p::ps=>p.len<=100/\acD ps
theorem NU: ∀ {ps:List Pt},acD ps-> ∀p∈ps,p.len<=100
 | [],_,_,h=>by cases h
 |q::ps,hs,p,h=>by
  rcases bJ.1 h with rfl |h;·exact hs.1
  ·exact NU hs.2 p h
section
variable {B:Nat} {w0 W:World} {L:List (Option Addr × Pt)}
theorem ars.le(h:ars B w0 W L):B<=W.heap.size:=aG h.l h.b.size
theorem ars.start(w:World)(hB:B<=w.heap.size):ars B w w []:=⟨aH _ _,hB,λ_ h=>by cases h⟩
theorem ars.push{W':World}{A:Option Addr}{p:Pt}(h:ars B w0 W L)(j:W W')(H:sO B W' A p):ars B w0 W' ((A,p)::L):=⟨h.b.trans (j.mono h.b.size),h.l,λx d=>by
 rcases bJ.1 d with rfl |d;·exact H
 ·exact(h.t x d).below j⟩
theorem arA.rw(h:ars B w0 W L): ∀ {vs:List Value} {ps:List Pt},arA L vs ps->Gj B W ps vs
 |_,_,.nil=> .nil
 |_,_,.cons hm hn r=>by subst hn;exact .cons (h.t _ hm) (arA.rw h r)
theorem Gj.len{ps:List Pt}{vs:List Value}(h:Gj B W ps vs):vs.length=ps.length:=by obtain⟨ts,rfl,d,_⟩:=h.at_;rw[<-d,Yz.flat_length];exact Nat.mul_one _
theorem ars.call{f:FuncId}{xs:Array Value}{p:Pt}{d:Ending->World->Prop}(h:ars B w0 W L)(hc:Calls aj f xs W (rF B W p))(k: ∀A c w',ars B w0 w' ((A,p)::L)->d (.returned (.slice A p.len c)) w'):Calls aj f xs W d:=hc.mono λe w' ⟨A,c,H,J,j⟩=>by rw[H];exact k A c w' (h.push j J)
theorem ars.row{cs:Array Value}{n c:Nat}{j:Ending->World->Prop}(h:ars B w0 W L)(hc:cs.toList=(cs.toList.map intOf).map (Value.int .i64))(hn:n=cs.size)(N:cs.size<=1000)(k: ∀A c w',ars B w0 w' ((A,Pt.row (cs.toList.map intOf))::L)->j (.returned (.slice A n c)) w'):Calls aj 244 #[.slice W n c] (W.alloc (.cells cs 3)) j:=by have d:W (W.alloc (.cells cs 3)):=gY.alloc ig _;have M:fE aq7 (W.alloc (.cells cs 3)) W (cs.toList.map intOf):=qw (fK.new _ _ _) (by rw[NT];exact hc);refine(afU _ n c (cs.toList.map intOf) _ M (by simp[hn]) (by omega) (aG h.le d.size)).mono λe w' ⟨A,c,J,K,H⟩=>?_;rw[J,Pt.PG,eU,Array.length_toList,<-hn];exact k A c w' (h.push (d.trans (H.mono d.size)) K)
theorem ars.and{cs:Array Value}{n c:Nat}{ps:List Pt}{H:Ending->World->Prop}(h:ars B w0 W L)(j:arA L cs.toList ps)(hn:n=ps.length)(O:n<=100)(U:acD ps)(k: ∀A c w',ars B w0 w' ((A,Pt.ands ps)::L)->H (.returned (.slice A (Pt.ands ps).len c)) w'):Calls aj 245 #[.slice W n c] (W.alloc (.cells cs 318)) H:=by have d:W (W.alloc (.cells cs 318)):=gY.alloc ig _;obtain⟨ts,e,Q,hi⟩:=(arA.rw h j).at_;refine(afV _ n c ps _ ⟨ts,qw (fK.new W 318 cs) e,Q,λi v p K J=>⟨(hi i v p K J).1,(hi i v p K J).2.below d⟩⟩ hn.symm O (NU U) (aG h.le d.size)).mono λe w' ⟨A,c,N,j,M⟩=>?_;rw[N];exact k A c w' (h.push (d.trans (M.mono d.size)) j)
theorem ars.some{A:Option Addr}{n c:Nat}{p:Pt}{q:Int}{d:Ending->World->Prop}(h:ars B w0 W L)(hm:(A,p)∈L)(hn:n=p.len)(k: ∀A c w',ars B w0 w' ((A,.grp q p .nil)::L)->d (.returned (.slice A 1 c)) w'):Calls aj 247 #[q,.slice A n c] W d:=h.call (acC q A n c p W (h.t _ hm) hn.symm h.le) k
end
def acE:Pt:=(Pt.row [6,7,8])
theorem SV{B:Nat}(w:World)(hB:B<=w.heap.size):Calls aj 246 #[] w (rF B w acE):=by have d:=ars.start w hB;go_enter func246,ntmps246;go_wp2_with(first|((first|(go_at_call 244;(with_reducible apply d.row);(·rfl);(·rfl);(·decide))|(go_at_call 245;(with_reducible apply d.and);(·repeat(first|exact arA.nil|(apply arA.cons;(·repeat(first|exact List.Mem.head _|apply List.Mem.tail));(·rfl))));(·rfl);(·decide);(·repeat(first|exact trivial|(refine⟨by first |assumption |exact Nat.le_of_ble_eq_true rfl,?_⟩))))|(go_at_call 247;(with_reducible apply d.some);(·repeat(first|exact List.Mem.head _|apply List.Mem.tail));(·rfl)));intro H j J d));go_ret;exact⟨_,_,rfl,d.t _ (.head _),d.b⟩
def DJ (p:Pt):Pt:=(Pt.ands [(p),(Pt.row [27]),(.grp 1 (p) .nil)])
theorem PK(j:Option Addr)(c0:Nat)(p:Pt){B:Nat}(w:World)(H:sO B w j p)(M:p.len<=100)(hB:B<=w.heap.size):Calls aj 248 #[.slice j p.len c0] w (rF B w (DJ p)):=by have d:=(ars.start w hB).push gY H;go_enter func248,ntmps248;go_wp2_with(first|((first|(go_at_call 244;(with_reducible apply d.row);(·rfl);(·rfl);(·decide))|(go_at_call 245;(with_reducible apply d.and);(·repeat(first|exact arA.nil|(apply arA.cons;(·repeat(first|exact List.Mem.head _|apply List.Mem.tail));(·rfl))));(·rfl);(·decide);(·repeat(first|exact trivial|(refine⟨by first |assumption |exact Nat.le_of_ble_eq_true rfl,?_⟩))))|(go_at_call 247;(with_reducible apply d.some);(·repeat(first|exact List.Mem.head _|apply List.Mem.tail));(·rfl)));intro K J N d));go_ret;exact⟨_,_,rfl,d.t _ (.head _),d.b⟩
def ajb:Pt:=(Pt.ands [(Pt.row [44,12]),(.grp 2 (Pt.row [10]) .nil),(Pt.row [11,45,46,47])])
theorem acF{B:Nat}(w:World)(hB:B<=w.heap.size):Calls aj 249 #[] w (rF B w ajb):=by have d:=ars.start w hB;go_enter func249,ntmps249;go_wp2_with(first|((first|(go_at_call 244;(with_reducible apply d.row);(·rfl);(·rfl);(·decide))|(go_at_call 245;(with_reducible apply d.and);(·repeat(first|exact arA.nil|(apply arA.cons;(·repeat(first|exact List.Mem.head _|apply List.Mem.tail));(·rfl))));(·rfl);(·decide);(·repeat(first|exact trivial|(refine⟨by first |assumption |exact Nat.le_of_ble_eq_true rfl,?_⟩))))|(go_at_call 247;(with_reducible apply d.some);(·repeat(first|exact List.Mem.head _|apply List.Mem.tail));(·rfl)));intro H j J d));go_ret;exact⟨_,_,rfl,d.t _ (.head _),d.b⟩
def JI (p:Pt):Pt:=(Pt.ands [(Pt.row [7,8,4]),(p),(Pt.row [13,14,15,16,17,18]),(.grp 3 (Pt.row [19]) .nil),(Pt.row [20,21,22,23]),(.grp 2 (Pt.row [24]) .nil)])
theorem WG(j:Option Addr)(c0:Nat)(p:Pt){B:Nat}(w:World)(H:sO B w j p)(M:p.len<=100)(hB:B<=w.heap.size):Calls aj 243 #[.slice j p.len c0] w (rF B w (JI p)):=by have d:=(ars.start w hB).push gY H;go_enter func243,ntmps243;go_wp2_with(first|((first|(go_at_call 244;(with_reducible apply d.row);(·rfl);(·rfl);(·decide))|(go_at_call 245;(with_reducible apply d.and);(·repeat(first|exact arA.nil|(apply arA.cons;(·repeat(first|exact List.Mem.head _|apply List.Mem.tail));(·rfl))));(·rfl);(·decide);(·repeat(first|exact trivial|(refine⟨by first |assumption |exact Nat.le_of_ble_eq_true rfl,?_⟩))))|(go_at_call 247;(with_reducible apply d.some);(·repeat(first|exact List.Mem.head _|apply List.Mem.tail));(·rfl)));intro K J N d));go_ret;exact⟨_,_,rfl,d.t _ (.head _),d.b⟩
def acG:Pt:=(Pt.ands [acE,((Pt.ands [(Pt.row [51,52,53,27]),(.grp 1 (Pt.row [54,55]) .nil)])),(Pt.row [27]),(.grp 1 ((Pt.ands [(Pt.row [51,52,53,27]),(.grp 1 (Pt.row [54,55]) .nil)])) .nil)])
theorem WH{B:Nat}(w:World)(hB:B<=w.heap.size):Calls aj 251 #[] w (rF B w acG):=by have d:=ars.start w hB;go_enter func251,ntmps251;go_wp2_with(first|((first|(go_at_call 244;(with_reducible apply d.row);(·rfl);(·rfl);(·decide))|(go_at_call 245;(with_reducible apply d.and);(·repeat(first|exact arA.nil|(apply arA.cons;(·repeat(first|exact List.Mem.head _|apply List.Mem.tail));(·rfl))));(·rfl);(·decide);(·repeat(first|exact trivial|(refine⟨by first |assumption |exact Nat.le_of_ble_eq_true rfl,?_⟩))))|(go_at_call 247;(with_reducible apply d.some);(·repeat(first|exact List.Mem.head _|apply List.Mem.tail));(·rfl))|(go_at_call 246;refine d.call (SV _ d.le) ?_));intro H j J d));go_ret;exact⟨_,_,rfl,d.t _ (.head _),d.b⟩
def SX:Pt:=(Pt.ands [(Pt.row [6,7,8,25,26,27]),(.grp 1 ((Pt.ands [(Pt.row [28]),((Pt.ands [(Pt.row [29]),(.grp 2 (Pt.row [30,31]) .nil)]))])) .nil),(Pt.row [32]),((Pt.ands [(Pt.row [29]),(.grp 2 (Pt.row [30,31]) .nil)])),(Pt.row [33]),(.grp 2 (Pt.row [34,35]) .nil),(Pt.row [36]),(.grp 2 (Pt.row [37,38]) .nil),(Pt.row [39]),(.grp 2 (Pt.row [40,41,42,43]) .nil)])
theorem Md{B:Nat}(w:World)(hB:B<=w.heap.size):Calls aj 250 #[] w (rF B w SX):=by have d:=ars.start w hB;go_enter func250,ntmps250;go_wp2_with(first|((first|(go_at_call 244;(with_reducible apply d.row);(·rfl);(·rfl);(·decide))|(go_at_call 245;(with_reducible apply d.and);(·repeat(first|exact arA.nil|(apply arA.cons;(·repeat(first|exact List.Mem.head _|apply List.Mem.tail));(·rfl))));(·rfl);(·decide);(·repeat(first|exact trivial|(refine⟨by first |assumption |exact Nat.le_of_ble_eq_true rfl,?_⟩))))|(go_at_call 247;(with_reducible apply d.some);(·repeat(first|exact List.Mem.head _|apply List.Mem.tail));(·rfl)));intro H j J d));go_ret;exact⟨_,_,rfl,d.t _ (.head _),d.b⟩
end
end Go.Proofs.YthnmgjngniciaaaGreatDoor
