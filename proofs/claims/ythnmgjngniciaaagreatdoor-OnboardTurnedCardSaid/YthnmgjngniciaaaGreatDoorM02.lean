/- Parts. -/
import Derived.Test.YthnmgjngniciaaaGreatDoorM01
import Derived.Maps.AppendAt
import Derived.Test.YthnmgjngniciaaaGreatDoorProg
import Derived.Shelf.SlicesQ.IndexFunc
import Derived.Ground.SlgfProg
import Derived.Shelf.SlicesQ.Contains
import Derived.Laws.StructEq
import Derived.Ground.SlgqProg
set_option linter.all false
set_option maxHeartbeats 16000000
set_option maxRecDepth 8000
open Bool renaming and_eq_true→bM,false_eq_true→bU
open List renaming getElem?_append_left→dP,getElem?_eq_getElem→aI,getElem?_eq_none→dQ,getElem?_eq_some_iff→aX,getElem?_take_of_lt→dG,length_append→bC,length_cons→bK,length_eq_zero_iff→dh,map→bV,setIfInBounds_toArray→ay,set_cons_succ→aB,set_cons_zero→aA,take_of_length_le→aY
open Nat renaming lt_of_lt_of_le→aU,lt_or_ge→eu,reduceAdd→aT,zero_add→aJ
open Option.some renaming injEq→aO
namespace Go.Proofs.YthnmgjngniciaaaGreatDoor
open Go.RowKit Go.Shelf Tryz
open Act renaming put→aP
open Addr.mk renaming injEq→cZ
open Below renaming refl→aH
open Region renaming binds→aC
open Tryz renaming prog→aj,underlying3→bG,underlying4→dL
open Value renaming oneCell'→aK
open Value.slice renaming injEq→dV
variable{fn:Func}{P:Program}{a:Tmp}
section
structure arb (α:Type) where
  k:Nat
  enc:α->List Value
  len: ∀x,(enc x).length=k
  one: ∀x u,u∈enc x->u.oneCell'=true
  pos:0<k
section
variable {α:Type} (E:arb α)
def arb.flat (xs:List α):List Value:=xs.flatMap E.enc
theorem arb.nX(x:α)(xs:List α):E.flat (x::xs)=E.enc x++E.flat xs:=rfl
theorem arb.zS(xs d:List α):E.flat (xs++d)=E.flat xs++E.flat d:=by simp[arb.flat]
theorem arb.flat_length(xs:List α):(E.flat xs).length=xs.length*E.k:=by induction xs with|nil=>simp[arb.flat]|cons x xs d=>rw[E.nX,bC,E.len,d,bK,Nat.add_mul];omega
theorem arb.Nv(xs:List α)(i:Nat):(E.flat xs).drop (i*E.k)=E.flat (xs.drop i):=by induction xs generalizing i with|nil=>simp[arb.flat]|cons x xs d=>cases i with|zero=>simp|succ i=>rw[E.nX,List.drop_succ_cons,<-d i,show(i+1)*E.k=(E.enc x).length+i*E.k by rw[E.len,Nat.add_mul];omega,List.drop_append];simp
theorem arb.BK(xs:List α)(i:Nat):(E.flat xs).take (i*E.k)=E.flat (xs.take i):=by induction xs generalizing i with|nil=>simp[arb.flat]|cons x xs d=>cases i with|zero=>simp[arb.flat]|succ i=>rw[E.nX,List.take_succ_cons,E.nX,<-d i,show(i+1)*E.k=(E.enc x).length+i*E.k by rw[E.len,Nat.add_mul];omega,List.take_append,aY (by omega)];simp
theorem arb.IZ{xs:List α}{i:Nat}{x:α}(h:xs[i]? =some x)(d:Nat)(j:d<E.k):(E.flat xs)[i*E.k+d]? =(E.enc x)[d]? :=by
 obtain⟨hi,rfl⟩:=aX.1 h;have:(E.flat xs)[i*E.k+d]? =((E.flat xs).drop (i*E.k))[d]? :=by simp
 rw[this,E.Nv,List.drop_eq_getElem_cons hi,E.nX,dP (by rw[E.len];exact j)]
theorem arb.Zk(xs:List α): ∀u∈E.flat xs,u.oneCell'=true:=by intro u d;unfold arb.flat at d;rw[List.mem_flatMap]at d;obtain⟨x,_,d⟩:=d;exact E.one x u d
def fE (w:World) (A:Option Addr) (xs:List α):Prop:=Row w A (E.flat xs)
variable {E}
section
variable {w w':World} {A:Option Addr} {xs:List α}
theorem fE.below(h:fE E w A xs)(d:w w'):fE E w' A xs:=Row.below h d
theorem fE.alloc(h:fE E w A xs)(o:Obj):fE E (w.alloc o) A xs:=Row.alloc h o
theorem fE.nil(w:World)(A:Option Addr):fE E w A []:=Row.nil w A
theorem fE.get(h:fE E w A xs){i:Nat}{x:α}(H:xs[i]? =some x): ∃b off,A=some ⟨b,off,none⟩/\b<w.heap.size/\ ∀d u,(E.enc x)[d]? =some u->w.cell? ⟨b,off+i*E.k+d,none⟩=some u:=by
 have hi:=(aX.1 H).1;have M:0<(E.flat xs).length:=by rw[E.flat_length];exact Nat.mul_pos (by omega) E.pos
 obtain⟨b,off,e,J,hc⟩:=h M;refine⟨b,off,e,J,λd u j=>?_⟩;have K:d<E.k:=by
  rcases eu d E.k with g |g;·exact g
  ·rw[dQ (by rw[E.len];exact g)]at j;cases j
 rw[Nat.add_assoc];exact hc _ u (by rw[E.IZ H d K];exact j)
theorem fE.take{b off:Nat}(h:fE E w (some ⟨b,off,none⟩) xs)(i:Nat):fE E w (some ⟨b,off,none⟩) (xs.take i):=λH=>by
 unfold fE at h;rw[<-E.BK]at H;have K:0<(E.flat xs).length:=by grind
 obtain⟨j,N,e,J,hc⟩:=h K;refine⟨j,N,e,J,λM u d=>hc M u ?_⟩;rw[<-E.BK,List.getElem?_take]at d;split at d;·exact d
 ·cases d
end
def aq1 (E:arb α) (t:TypeId) (w:World) (base:Nat) (A:Option Addr) (c:Nat) (xs:List α):Prop:=w.ownsRow base t E.k (.slice A xs.length c) xs.length (E.flat xs)
section
variable {t:TypeId} {w w':World} {base:Nat} {A:Option Addr} {c:Nat} {xs:List α}
theorem aq1.nil(w:World)(base:Nat):aq1 E t w base none 0 []:=World.ownsRow_nil w base _ _
theorem aq1.off{R:Option Nat}(h:aq1 E t w base A c xs)(K:w.grownBy w' R)(J: ∀g,A.map (·.block)=some g->R≠some g):aq1 E t w' base A c xs:=by
 refine⟨h.1,?_⟩;rcases h.2 with N |⟨g,cap,cur,e,d,j,H⟩;·grind
 ·have M:g<w.heap.size:=by grind
  have hA:A.map (·.block)=some g:=by grind
  exact .inr ⟨g,cap,cur,e,d,(K.block g M (λe=>J g hA e.symm)).trans j,H⟩
theorem aq1.below(h:aq1 E t w base A c xs)(d:w w'):aq1 E t w' base A c xs:=h.off (R:=none) ⟨d.os,d.tape,d.output,d.size,λk j _=>d.block k j⟩ (λg _ e=>by cases e)
theorem aq1.alloc(h:aq1 E t w base A c xs)(o:Obj):aq1 E t (w.alloc o) base A c xs:=h.below (gY.alloc ig o)
theorem aq1.mono{base':Nat}(h:aq1 E t w base A c xs)(J:base'<=base):aq1 E t w base' A c xs:=by
 refine⟨h.1,?_⟩;rcases h.2 with j |⟨g,cap,cur,e,H,d⟩;·grind
 ·exact .inr ⟨g,cap,cur,e,by omega,d⟩
theorem aq1.blk(h:aq1 E t w base A c xs)(N:A≠none): ∃g cur,A=some ⟨g,0,none⟩/\base<=g/\fK w g t cur/\cur.size=c*E.k/\xs.length<=c/\c<=maxLen/\cur.toList.take (xs.length*E.k)=E.flat xs:=by
 rcases h.2 with⟨e,_⟩ |⟨g,cap,cur,e,d,j,H,J,K,M⟩;·grind
 ·simp only[dV]at e;obtain⟨rfl,_,rfl⟩:=e;exact⟨g,cur,rfl,d,j,K,H,J,M⟩
theorem aq1.some_(h:aq1 E t w base A c xs)(d:0<xs.length):A≠none:=by
 rintro rfl;rcases h.2 with⟨e,j⟩ |⟨g,cap,cur,e,_⟩;·omega
 grind
theorem aq1.rows(h:aq1 E t w base A c xs):fE E w A xs:=λj=>by
 have K:0<xs.length:=by rw[E.flat_length]at j;grind
 obtain⟨g,cur,rfl,O,d,Q,U,V,H⟩:=h.blk (h.some_ K);refine⟨g,0,rfl,d.lt,λN u M=>?_⟩;rw[aJ,d.cell,<-Array.getElem?_toList];have J:N<xs.length*E.k:=by grind
 rw[<-dG J,H];exact M
theorem aq1.gJ(h:aq1 E t w base A c xs): ∀g,A.map (·.block)=some g->base<=g/\g<w.heap.size:=by
 intro g d;have hA:A≠none:=by grind
 obtain⟨J,cur,rfl,j,H,_⟩:=h.blk hA;simp at d;subst d;exact⟨j,H.lt⟩
theorem aq1.cap(h:aq1 E t w base A c xs):xs.length<=c/\c<=maxLen:=by
 rcases h.2 with⟨e,d⟩ |⟨g,cap,cur,e,_,_,j,H,_⟩;·grind
 grind
theorem aq1.far(h:aq1 E t w base A c xs){g:Nat}(M:g<base)(J: ∀k,k≠g->w'.heap[k]? =w.heap[k]?):aq1 E t w' base A c xs:=by
 refine⟨h.1,?_⟩;rcases h.2 with K |⟨k,cap,cur,e,d,j,H⟩;·grind
 ·exact .inr ⟨k,cap,cur,e,d,(J k (by omega)).trans j,H⟩
end
structure qo (P:Program) (E:arb α) (ts t:TypeId) (bytes:Nat) where
  under:P.underlying ts=some (.slice t)
  info: ∃i z,P.info? t=some i/\i.zero=some z/\i.size=E.k/\i.bytes=bytes/\z.cells.size=E.k
section
variable {P:Program} {ts t:TypeId} {bytes:Nat}
theorem oH(T:qo P E ts t bytes){w:World}{o:Oper}{a:Act}{J:Act->World->Prop}{N:Exit->Act->World->Prop}(s x:Operand)(ho:o.op=.call {callee:=.builtin .append,args:= #[s,x],argTypes:= #[ts,ts]})(base:Nat)(A1:Option Addr)(c1:Nat)(xs:List α)(n1:Nat)(hs:a.eval s=.slice A1 n1 c1)(ad:xs.length=n1)(af:aq1 E t w base A1 c1 xs)(A:Option Addr)(c:Nat)(d:List α)(n:Nat)(hx:a.eval x=.slice A n c)(hn:d.length=n)(hr:fE E w A d)(ac:n1+n<=65536)(Z:bytes<=4096)(V:base<=w.heap.size)(h: ∀A2 c2 W,aq1 E t W base A2 c2 (xs++d)->w.grownBy W (A1.map (·.block))->(A2.map (·.block)=A1.map (·.block)\/A2.map (·.block)=some w.heap.size)->J (a.put o.dst (.slice A2 (n1+n) c2)) W):o.wp P a w J N:=by
 subst ad;subst hn;obtain⟨i0,z,aa,ai,ak,al,am⟩:=T.info;have ag:ari w w E.k A d.length (E.flat d):=⟨E.flat_length d,λj=>by obtain⟨b,off,e,U,hc⟩:=hr (by rw[E.flat_length];exact Nat.mul_pos j E.pos);refine⟨⟨b,off,none⟩,e,U,λan u hu=>?_⟩;rw[Addr.add_lit];exact hc an u hu⟩;have Y:(xs.length+d.length)*bytes<=140737488355328:=by have:=Nat.mul_le_mul ac Z;omega
 refine CO w s x ts ho base t i0 z E.k bytes T.under aa ai ak al am E.pos _ _ _ hs af w A d.length c (E.flat d) hx ag (E.Zk d) (by constructor<;>grind) Y V ?_;intro v' W K M H;have ae:(Value.slice A1 xs.length c1).ownBlock=A1.map (·.block):=by cases A1 <;> rfl
 rw[ae]at M H;have Q: ∃A2 c2,v'=.slice A2 (xs.length+d.length) c2:=by
  rcases K.2 with⟨e,j⟩ |⟨g,cap,_,e,_⟩;·exact⟨none,0,by rw[e,j]⟩
  ·exact⟨_,_,e⟩
 obtain⟨A2,c2,rfl⟩:=Q;have O:(Value.slice A2 (xs.length+d.length) c2).ownBlock=A2.map (·.block):=by cases A2 <;> rfl
 rw[O]at H;refine h A2 c2 W ?_ M H;unfold aq1;rw[bC,E.zS];exact K
theorem gW(T:qo P E ts t bytes){w:World}{H:Array Oper}{rest:List Oper}{o:Oper}{a:Act}{j:Exit->Act->World->Prop}(U:o.guard=none)(s x:Operand)(Z:o.op=.call {callee:=.builtin .append,args:= #[s,x],argTypes:= #[ts,ts]})(base:Nat)(A1:Option Addr)(c1:Nat)(xs:List α)(n1:Nat)(hs:a.eval s=.slice A1 n1 c1)(Y:xs.length=n1)(aa:aq1 E t w base A1 c1 xs)(A:Option Addr)(c:Nat)(d:List α)(n:Nat)(hx:a.eval x=.slice A n c)(hn:d.length=n)(hr:fE E w A d)(V:n1+n<=65536)(Q:bytes<=4096)(O:base<=w.heap.size)(h: ∀A2 c2 W,aq1 E t W base A2 c2 (xs++d)->w.grownBy W (A1.map (·.block))->(A2.map (·.block)=A1.map (·.block)\/A2.map (·.block)=some w.heap.size)->wpList P H j rest (a.put o.dst (.slice A2 (n1+n) c2)) W):wpList P H j (o::rest) a w:=wpList_plain U λ_ N=>oH T s x Z base A1 c1 xs n1 hs Y aa A c d n hx hn hr V Q O λA2 c2 W J K M=>N _ _ (h A2 c2 W J K M)
end
end
end
section
structure St where
  edge:Int
  rev:Bool
deriving DecidableEq
structure En where
  edge:Int
  at_:Int
deriving DecidableEq
structure Jt where
  a:En
  b:En
deriving DecidableEq
structure Bl where
  id:Int
  edge:Int
  at_:Int
structure Rt where
  id:Int
  path:List St
  gap:Int
  timer:Int
structure Tp where
  edges:List Int
  iI:List Jt
  jW:List Bl
  routes:List Rt
structure Sc where
  kL:Int
  timer:Int
structure Ps where
  edge:Int
  at_:Int
  rev:Bool
structure Ma where
  ref:Int
  rev:Bool
  path:List St
  fP:List Sc
  gap:Int
structure Sp where
  edge:Int
  lo:Int
  hi:Int
def aq7:arb Int:=⟨1,fun n=> [.int .i64 n],fun _=>rfl,fun _ u hu=>by simp at hu;subst hu;rfl,by decide⟩
def gV:arb St:=⟨2,fun s=> [.int .i64 s.edge,.bool s.rev],fun _=>rfl,fun _ u hu=>by simp at hu;rcases hu with rfl |rfl <;> rfl,by decide⟩
def qV:arb Jt:=⟨4,fun j=> [.int .i64 j.a.edge,.int .i64 j.a.at_,.int .i64 j.b.edge,.int .i64 j.b.at_],fun _=>rfl,fun _ u hu=>by simp at hu;rcases hu with rfl |rfl |rfl |rfl <;> rfl,by decide⟩
def qW:arb Bl:=⟨3,fun b=> [.int .i64 b.id,.int .i64 b.edge,.int .i64 b.at_],fun _=>rfl,fun _ u hu=>by simp at hu;rcases hu with rfl |rfl |rfl <;> rfl,by decide⟩
def kW:arb Sc:=⟨2,fun s=> [.int .i64 s.kL,.int .i64 s.timer],fun _=>rfl,fun _ u hu=>by simp at hu;rcases hu with rfl |rfl <;> rfl,by decide⟩
def iO:arb Sp:=⟨3,fun s=> [.int .i64 s.edge,.int .i64 s.lo,.int .i64 s.hi],fun _=>rfl,fun _ u hu=>by simp at hu;rcases hu with rfl |rfl |rfl <;> rfl,by decide⟩
def zT:arb (Rt × Option Addr × Nat):=⟨4,fun p=> [.int .i64 p.1.id,.slice p.2.1 p.1.path.length p.2.2,.int .i64 p.1.gap,.int .i64 p.1.timer],fun _=>rfl,fun _ u hu=>by simp at hu;rcases hu with rfl |rfl |rfl |rfl <;> rfl,by decide⟩
section
variable {w:World} {A:Option Addr}
theorem fE.int{xs:List Int}(h:fE aq7 w A xs){i:Nat}(hi:i<xs.length): ∃b off,A=some ⟨b,off,none⟩/\b<w.heap.size/\w.cell? ⟨b,off+i,none⟩=some (.int .i64 xs[i]!):=by obtain⟨b,off,e,d,hc⟩:=h.get (aI hi);refine⟨b,off,e,d,?_⟩;have:=hc 0 _ rfl;rw[getElem!_pos xs i hi];simpa[aq7] using this
theorem fE.st{xs:List St}(h:fE gV w A xs){i:Nat}{s:St}(j:xs[i]? =some s): ∃b off,A=some ⟨b,off,none⟩/\b<w.heap.size/\w.cell? ⟨b,off+i*2,none⟩=some s.edge/\w.cell? ⟨b,off+i*2+1,none⟩=some s.rev:=by obtain⟨b,off,e,d,hc⟩:=h.get j;exact⟨b,off,e,d,hc 0 _ rfl,hc 1 _ rfl⟩
theorem fE.jt{xs:List Jt}(h:fE qV w A xs){i:Nat}{d:Jt}(H:xs[i]? =some d): ∃b off,A=some ⟨b,off,none⟩/\b<w.heap.size/\w.cell? ⟨b,off+i*4,none⟩=some d.a.edge/\w.cell? ⟨b,off+i*4+1,none⟩=some d.a.at_/\w.cell? ⟨b,off+i*4+2,none⟩=some d.b.edge/\w.cell? ⟨b,off+i*4+3,none⟩=some d.b.at_:=by obtain⟨b,off,e,j,hc⟩:=h.get H;exact⟨b,off,e,j,hc 0 _ rfl,hc 1 _ rfl,hc 2 _ rfl,hc 3 _ rfl⟩
theorem fE.bl{xs:List Bl}(h:fE qW w A xs){i:Nat}{d:Bl}(H:xs[i]? =some d): ∃b off,A=some ⟨b,off,none⟩/\b<w.heap.size/\w.cell? ⟨b,off+i*3,none⟩=some d.id/\w.cell? ⟨b,off+i*3+1,none⟩=some d.edge/\w.cell? ⟨b,off+i*3+2,none⟩=some d.at_:=by obtain⟨b,off,e,j,hc⟩:=h.get H;exact⟨b,off,e,j,hc 0 _ rfl,hc 1 _ rfl,hc 2 _ rfl⟩
theorem fE.sc{xs:List Sc}(h:fE kW w A xs){i:Nat}{s:Sc}(j:xs[i]? =some s): ∃b off,A=some ⟨b,off,none⟩/\b<w.heap.size/\w.cell? ⟨b,off+i*2,none⟩=some s.kL/\w.cell? ⟨b,off+i*2+1,none⟩=some s.timer:=by obtain⟨b,off,e,d,hc⟩:=h.get j;exact⟨b,off,e,d,hc 0 _ rfl,hc 1 _ rfl⟩
theorem fE.rt{xs:List (Rt × Option Addr × Nat)}(h:fE zT w A xs){i:Nat}{p:Rt × Option Addr × Nat}(j:xs[i]? =some p): ∃b off,A=some ⟨b,off,none⟩/\b<w.heap.size/\w.cell? ⟨b,off+i*4,none⟩=some p.1.id/\w.cell? ⟨b,off+i*4+1,none⟩=some (.slice p.2.1 p.1.path.length p.2.2)/\w.cell? ⟨b,off+i*4+2,none⟩=some p.1.gap/\w.cell? ⟨b,off+i*4+3,none⟩=some p.1.timer:=by obtain⟨b,off,e,d,hc⟩:=h.get j;exact⟨b,off,e,d,hc 0 _ rfl,hc 1 _ rfl,hc 2 _ rfl,hc 3 _ rfl⟩
end
structure abx (w:World) (t:Tp) (Ae Aj Ab Ar:Option Addr) (rs:List (Rt × Option Addr × Nat)):Prop where
  edges:fE aq7 w Ae t.edges
  iI:fE qV w Aj t.iI
  jW:fE qW w Ab t.jW
  routes:fE zT w Ar rs
  is:rs.map (·.1)=t.routes
  paths: ∀p∈rs,fE gV w p.2.1 p.1.path
theorem abx.below{w w':World}{t:Tp}{Ae Aj Ab Ar:Option Addr}{rs:List (Rt × Option Addr × Nat)}(h:abx w t Ae Aj Ab Ar rs)(d:w w'):abx w' t Ae Aj Ab Ar rs:=⟨h.edges.below d,h.iI.below d,h.jW.below d,h.routes.below d,h.is,λp j=>(h.paths p j).below d⟩
structure Yd where
  Ae:Option Addr
  ce:Nat
  Aj:Option Addr
  cj:Nat
  Ab:Option Addr
  cb:Nat
  Ar:Option Addr
  cr:Nat
  rs:List (Rt × Option Addr × Nat)
def Yd.cells (v:Yd) (t:Tp):Array Value:= #[.slice v.Ae t.edges.length v.ce,.slice v.Aj t.iI.length v.cj,.slice v.Ab t.jW.length v.cb,.slice v.Ar t.routes.length v.cr]
def iW (t:Tp) (e:Int):Bool:=decide (0<=e)&&decide (e<t.edges.length)
def kC (s:St):En:=⟨s.edge,if s.rev then 1 else 0⟩
def nZ (s:St):En:=kC ⟨s.edge,!s.rev⟩
def zU (js:List Jt) (a b:En):Bool:=decide (⟨a,b⟩∈js) || decide (⟨b,a⟩∈js)
def OY (t:Tp) (a b:St):Bool:=zU t.iI (nZ a) (kC b)
def Iw (t:Tp):List St->Bool
 |a::b::p=>OY t a b&&Iw t (b::p)
 |_=>true
def jS (t:Tp) (e:Int):Int:=t.edges[e.toNat]!
def arS (t:Tp) (p:List St):Int:=p.foldl (fun n s=>wrap64 (n+jS t s.edge)) 0
def ny (t:Tp) (p:List St):Int:=if p.length=0\/40<p.length then 1 else if p.all fun s=>iW t s.edge then(if Iw t p then 0 else 141) else 1
def qc (t:Tp) (p:List St):Int:=if ny t p=0 then arS t p else 0
def oz (t:Tp) (id:Int):Option Bl:=t.jW.find? fun b=>decide (b.id=id)
def sJ (t:Tp) (id:Int):Option Rt:=t.routes.find? fun r=>decide (r.id=id)
end
def lG (s:Sp):Bool:=decide (0<=s.edge)&&decide (0<=s.lo)&&decide (s.lo<s.hi)&&decide (s.hi<=1000000)
def tZ (a b:Sp):Prop:=a.edge<b.edge\/a.edge=b.edge/\a.lo<=b.lo
def oI:List Sp->List Sp->List Sp
 |out,[]=>out
 | [],s::l=>oI [s] l
 |o::out,s::l=>if o.edge=s.edge/\s.lo<=o.hi then oI (⟨o.edge,o.lo,max o.hi s.hi⟩::out) l else oI (s::o::out) l
def zB (l:List Sp):Int:=(l.map fun s=>s.hi-s.lo).sum
def Cj (t:Tp) (x:En):Bool:=iW t x.edge&&(decide (x.at_=0) || decide (x.at_=1))
def og (t:Tp):List Jt->List Jt->Int
 |_,[]=>0
 |d,j::l=>if Cj t j.a=false\/Cj t j.b=false\/j.a=j.b then 1 else if zU d j.a j.b then 5 else og t (d++ [j]) l
def wH (t:Tp):List Bl->List Bl->Int
 |_,[]=>0
 |d,b::l=>if b.id<0\/16777214<b.id\/iW t b.edge=false\/b.at_<0\/jS t b.edge<b.at_ then 1 else if d.any (fun x=>decide (x.id=b.id)) then 5 else wH t (d++ [b]) l
def vM (t:Tp):List St->List St->Bool
 |_,[]=>true
 |d,s::l=>iW t s.edge&& !(d.any fun x=>decide (x.edge=s.edge))&&vM t (d++ [s]) l
def yG (t:Tp) (r:Rt):Int:=if r.id<1\/r.path.length<1\/8<r.path.length then 1 else if vM t [] r.path=false then 1 else if ny t r.path≠0 then ny t r.path else if r.gap<0\/qc t r.path<=r.gap\/r.timer<1\/1000<r.timer then 1 else if r.path.all (fun s=>t.jW.any fun b=>decide (b.edge=s.edge)) then 0 else 4
def tH (t:Tp):List Rt->List Rt->Int
 |_,[]=>0
 |d,r::l=>if yG t r≠0 then yG t r else if d.any (fun x=>decide (x.id=r.id)) then 5 else tH t (d++ [r]) l
def jr (t:Tp):Int:=if 40<t.edges.length\/80<t.iI.length\/80<t.jW.length\/30<t.routes.length then 2 else if t.edges.any (fun n=>decide (n<1) || decide (1000000<n)) then 1 else if og t [] t.iI≠0 then og t [] t.iI else if wH t [] t.jW≠0 then wH t [] t.jW else tH t [] t.routes
def RF (t:Tp) (s:St):List St:=t.iI.flatMap fun j=>(if j.a=nZ s/\Cj t j.b then [⟨j.b.edge,decide (j.b.at_=1)⟩] else [])++(if j.b=nZ s/\Cj t j.a then [⟨j.a.edge,decide (j.a.at_=1)⟩] else [])
def aby (a b:St):Bool:=decide (a.edge<b.edge) || decide (a.edge=b.edge)&&decide ((kC a).at_<=(kC b).at_)
def uf (s:St):List St->List St
 | []=> [s]
 |x::l=>if s=x then x::l else if aby s x then s::x::l else x::uf s l
def pK (t:Tp) (s:St):List St:=if iW t s.edge then(RF t s).foldr uf [] else []
def pO (t:Tp) (p:Ps):Bool:=decide (jr t=0)&&iW t p.edge&&decide (0<=p.at_)&&decide (p.at_<=jS t p.edge)
def pR (t:Tp) (p:Ps):Int:=if p.rev then jS t p.edge-p.at_ else p.at_
def Hu (t:Tp) (s:St) (n:Int):Ps:=⟨s.edge,if s.rev then jS t s.edge-n else n,s.rev⟩
def qX:Ps:=⟨0,0,false⟩
def goT (t:Tp):Nat->St->Int->Int × St × Int
 |k,s,n=>if n<=jS t s.edge then(0,s,n) else match pK t s with
   | []=>(141,s,n)
   | [x]=>match k with
     |0=>(2,s,n)
     |k+1=>goT t k x (n-jS t s.edge)
   |_=>(140,s,n)
def ah4 (t:Tp) (p:Ps) (n:Int):Int:=if pO t p=false\/n<0\/1099511627776<n then 1 else(goT t 40 ⟨p.edge,p.rev⟩ (n+pR t p)).1
def alD (t:Tp) (p:Ps) (n:Int):Ps:=if ah4 t p n=0 then(let g:=goT t 40 ⟨p.edge,p.rev⟩ (n+pR t p);Hu t g.2.1 g.2.2) else qX
def uI (b:Bl) (rev:Bool):Ps:=⟨b.edge,b.at_,rev⟩
def OZ (t:Tp) (id:Int) (rev:Bool) (n:Int):Int:=if jr t≠0 then 1 else match oz t id with
 |none=>4
 |some b=>ah4 t (uI b rev) n
def ED (t:Tp) (id:Int) (rev:Bool) (n:Int):Ps:=if jr t≠0 then qX else match oz t id with
 |none=>qX
 |some b=>alD t (uI b rev) n
def uJ (t:Tp) (x:St):List St->Int->Option Int
 | [],_=>none
 |s::l,n=>if s=x then some n else uJ t x l (n+jS t s.edge)
def F5 (t:Tp) (path:List St) (p:Ps):Int × Int:=if pO t p=false then(0,1) else if ny t path≠0 then(0,ny t path) else match uJ t ⟨p.edge,p.rev⟩ path 0 with
 |none=>(0,4)
 |some n=>(n+pR t p,0)
def CS (t:Tp):List St->Int->Ps
 | [],_=>qX
 |s::l,n=>if n<=jS t s.edge then Hu t s n else CS t l (n-jS t s.edge)
def Zl (t:Tp) (path:List St) (n:Int):Int:=if jr t≠0 then 1 else if ny t path≠0 then ny t path else if n<0\/qc t path<n then 1 else 0
def Zm (t:Tp) (path:List St) (n:Int):Ps:=if Zl t path n=0 then CS t path n else qX
def aiQ (a b:Sp):Bool:=decide (a.edge<b.edge) || decide (a.edge=b.edge)&&decide (a.lo<=b.lo)
def zV (s:Sp):List Sp->List Sp
 | []=> [s]
 |x::l=>if aiQ s x then s::x::l else x::zV s l
def qY (l:List Sp):List Sp:=(oI [] ((l.filter lG).foldr zV [])).reverse
def abz (t:Tp) (fr kL at_:Int) (s:St):Sp:=let n:=jS t s.edge;let lo:=max (fr-at_) 0;let hi:=min (kL-at_) n;if s.rev then⟨s.edge,n-hi,n-lo⟩ else⟨s.edge,lo,hi⟩
def uT (t:Tp) (fr kL:Int):List St->Int->List Sp
 | [],_=> []
 |s::l,at_=>abz t fr kL at_ s::uT t fr kL l (at_+jS t s.edge)
def abA (t:Tp) (path:List St) (fr kL:Int):Int:=if ny t path≠0 then ny t path else if t.edges.any (fun n=>decide (n<1) || decide (1000000<n))\/fr<0\/kL<fr\/qc t path<kL then 1 else 0
def ah5 (t:Tp) (path:List St) (fr kL:Int):List Sp:=if abA t path fr kL=0 then qY (uT t fr kL path 0) else []
def Ju (l:List Sp):Int:=zB (qY l)
def xG (path:List St) (edge:Int):Bool:=path.any fun s=>decide (s.edge=edge)
def qA:List St->List St->Bool
 |_,[]=>false
 |d,s::l=>xG d s.edge || qA (d++ [s]) l
def zC (t:Tp) (m:Ma):Option (Int × Int):=match oz t m.ref with
 |none=>none
 |some b=>if m.path.head?≠some ⟨b.edge,m.rev⟩\/ny t m.path≠0 then none else(let behind:=if m.rev then jS t b.edge-b.at_ else b.at_;some (qc t m.path-behind,behind))
def pU:Int->List Sc->Bool
 |_,[]=>true
 |last,s::l=>decide (last<s.kL)&&decide (s.kL<=1099511627776)&&decide (1<=s.timer)&&decide (s.timer<=1000)&&pU s.kL l
def qg (m:Ma):Int:=match m.fP.getLast? with
 |none=>0
 |some s=>s.kL
def rX (t:Tp) (m:Ma):Bool:=decide (jr t=0)&&decide (m.path.length<=24)&& !qA [] m.path&&decide (1<=m.fP.length)&&decide (m.fP.length<=8)&&decide (0<=m.gap)&&decide (m.gap<=1099511627776)&&pU 0 m.fP&&(match zC t m with
 |none=>false
 |some x=>decide (qg m+m.gap<=x.1))
def jB:List Sc->Int->Int->Int
 | [],_,n=>n
 |s::l,age,n=>if s.timer<=age then n else jB l age s.kL
def yH (t:Tp) (m:Ma) (fr kL:Int):List Sp:=if rX t m=false\/fr<0\/kL<fr\/qg m+m.gap<kL then [] else match zC t m with
 |none=> []
 |some x=>ah5 t m.path (x.2+fr) (x.2+kL)
structure Lo where
  route:Int
  fG:Int
  no:Int
deriving DecidableEq
def ah6 (t:Tp) (l:List Lo) (fG:Int) (out:List Lo) (ok:Rt->Bool):Option (Lo × Rt):=l.findSome? fun k=>match sJ t k.route with
 |none=>none
 |some r=>if k.fG=fG/\k∉out/\ok r then some (k,r) else none
def abB (t:Tp) (gone:List St) (r:Rt):Bool:=match gone.getLast?,r.path.head? with
 |some g,some h=>decide (h∈pK t g)&& !(r.path.any fun s=>xG gone s.edge)
 |_,_=>false
def Ye (t:Tp) (l:List Lo) (fG:Int):Nat->List Lo->List St->List Lo
 |0,out,_=>out
 |k+1,out,gone=>match ah6 t l fG out (abB t gone) with
   |none=>out
   |some (x,r)=>Ye t l fG k (out++ [x]) (gone++r.path)
def VQ (t:Tp) (l:List Lo) (fG:Int) (s:St):List Lo:=if jr t≠0 then [] else match ah6 t l fG [] (fun r=>decide (s∈r.path)) with
 |none=> []
 |some (x,r)=>Ye t l fG 7 [x] r.path
def abC (t:Tp):Nat->St->Int->List St
 |0,_,_=> []
 | k + 1, s, n=> if jS t s.edge < n then (match pK t s with
   | []=> []
   |x::_=>x::abC t k x (n-jS t s.edge)) else []
def alE (t:Tp) (b:Bl) (rev:Bool) (n:Int):List St:=⟨b.edge,rev⟩::abC t 41 ⟨b.edge,rev⟩ (n+pR t (uI b rev))
def Yf (t:Tp) (s:St):Bool->List Rt->Int->List St × List Sc × Int->List St × List Sc × Int
 |_,[],_,r=>r
 |first,x::l,at_,r=>
   let path:=if first then(x.path.dropWhile fun y=>decide (y≠s)).drop 1 else x.path
   let at2:=at_+(path.map fun y=>jS t y.edge).sum
   Yf t s false l at2 (r.1++path,r.2.1++ [⟨at2,x.timer⟩],x.gap)
def RG:List Sc->Int->List Sc
 | [],_=> []
 | [x],g=> [⟨x.kL-g,x.timer⟩]
 |x::l,g=>x::RG l g
def Yg:Ma:=⟨0,false,[],[],0⟩
def abD (t:Tp) (l:List Lo) (fG ref:Int) (rev:Bool) (n:Int) (b:Bl):Ma:=let front:=ED t ref rev n;let s:St:=⟨front.edge,front.rev⟩;let path:=alE t b rev n;let at_:=(path.map fun y=>jS t y.edge).sum-pR t (uI b rev);let r:=Yf t s true ((VQ t l fG s).filterMap fun k=>sJ t k.route) at_ (path,[],0);⟨ref,rev,r.1,RG r.2.1 r.2.2,r.2.2⟩
def abE (t:Tp) (l:List Lo) (fG ref:Int) (rev:Bool) (n:Int):Int:=if OZ t ref rev n≠0 then OZ t ref rev n else if VQ t l fG ⟨(ED t ref rev n).edge,(ED t ref rev n).rev⟩= [] then 4 else match oz t ref with
 |none=>4
 |some b=>
   let m:=abD t l fG ref rev n b
   if 24<m.path.length\/qA [] m.path=true then 2 else if qg m<=n then 141 else match m.fP.reverse with
     |x::y::_=>if x.kL<=y.kL then 141 else 0
     |_=>0
def VR (t:Tp) (l:List Lo) (fG ref:Int) (rev:Bool) (n:Int):Ma:=if abE t l fG ref rev n≠0 then Yg else match oz t ref with
 |none=>Yg
 |some b=>
   let m:=abD t l fG ref rev n b
   match m.fP with
   |x::l=>if x.kL=0 then {m with fP:=l} else m
   | []=>m
structure Rl where
  ahead:Int
  behind:Int
  period:Int
  most:Int
  quiet:Int
  oJ:Int
  wI:Int
  skew:Int
  lend:Int
def lJ (n:Int):Bool:=decide (0<=n)&&decide (n<=4294967294)
def jK (n:Int):Bool:=decide (0<=n)&&decide (n<=268435456)
def Dv (r:Rl):Bool:=lJ r.ahead&&lJ r.behind&&decide (1<=r.period)&&decide (r.period<=1048576)&&decide (1<=r.quiet)&&decide (r.quiet<=1048576)&&decide (0<=r.most)&&decide (r.most<=20)&&jK r.oJ&&jK r.skew&&jK r.lend&&decide (0<=r.wI)&&decide (r.wI<=1099511627776)
def kD:Int->List Int->Bool
 |_,[]=>true
 |last,n::l=>decide (last<n)&&decide (n<=15)&&kD n l
def Dw (m:Ma):Bool:=decide (m.ref=0)&& !m.rev&&m.path.isEmpty&&m.fP.isEmpty&&decide (m.gap=0)
structure Tr where
  id:Int
  len:Int
  rl:Rl
  side:Int
  fG:Int
  sl:Int
  sa:Int
  sb:Int
  free:Bool
  last:Int
  on:Bool
  pos:Ps
  ref:Int
  past:Int
  rev:Bool
  ma:Ma
  at_:Int
  held:Bool
  stops:List Int
def wY (t:Tp) (x:Tr):Bool:=Dv x.rl&&decide (0<=x.id)&&decide (x.id<16777216)&&decide (1<=x.len)&&decide (x.len<=32766)&&decide (x.side=0)&&decide (x.fG=x.id)&&lJ x.sa&&lJ x.sb&&(decide (x.sl= -1) || lJ x.sl)&&decide (-1<=x.last)&&decide (x.last<=4294967294)&&pO t x.pos&&decide (0<=x.past)&&decide (x.past<=1099511627776)&&kD (-1) x.stops&&(oz t x.ref).isSome&&decide (0<=x.at_)&&decide (x.at_<=268435456)&&(if x.held then rX t x.ma else Dw x.ma&&decide (x.at_=0))
def Nw (t:Tp) (m:Ma):Option Int:=match oz t m.ref with
 |none=>none
 |some b=>if(F5 t m.path (uI b m.rev)).2=0 then some (F5 t m.path (uI b m.rev)).1 else none
def qZ (t:Tp) (m:Ma) (p:Ps):Option Int:=match Nw t m with
 |none=>none
 |some b=>if(F5 t m.path p).2=0/\b<=(F5 t m.path p).1 then some ((F5 t m.path p).1-b) else none
def jR (t:Tp) (x:Tr):Option Int:=if wY t x=true/\x.held=true then qZ t x.ma x.pos else none
def Jv (t:Tp) (x:Tr) (now:Int):List Sp:=match jR t x with
 |none=> []
 |some n=>if x.stops≠ []\/jK now=false then [] else if jB x.ma.fP (now-x.at_) 0<=n then [] else yH t x.ma n (jB x.ma.fP (now-x.at_) 0)
def rC (t:Tp) (x:Tr) (n now:Int):Int:=match jR t x with
 |none=>6
 |some a=>if x.stops≠ [] then 6 else if n<1 then 1 else if jB x.ma.fP (now-x.at_) 0-a<n then 141 else 0
def Iy (t:Tp) (x:Tr) (fr kL:Int):List Bl->Int × Int × Bool × Int->Int × Int × Bool × Int
 | [],r=>r
 |g::l,r=>match x.ma.path.find? (fun s=>decide (s.edge=g.edge)) with
   |none=>Iy t x fr kL l r
   |some s=>let o:=(F5 t x.ma.path ⟨g.edge,g.at_,s.rev⟩).1
     if r.1<o/\o<=kL then Iy t x fr kL l (o,g.id,s.rev,kL-o) else Iy t x fr kL l r
def zW (t:Tp) (x:Tr) (n:Int):Tr:=match jR t x,Nw t x.ma with
 |some a,some b=>let r:=Iy t x (b+a) (b+a+n) t.jW (b+a,x.ref,x.rev,x.past+n)
   {x with pos:=Zm t x.ma.path (b+a+n),ref:=r.2.1,rev:=r.2.2.1,past:=r.2.2.2}
 |_,_=>x
def iE:Tp:=⟨[100,200,300],[⟨⟨0,1⟩,⟨1,0⟩⟩,⟨⟨1,1⟩,⟨2,0⟩⟩],[⟨7,0,10⟩,⟨8,1,20⟩,⟨9,2,30⟩],[⟨1,[⟨0,false⟩,⟨1,false⟩],0,30⟩,⟨2,[⟨1,false⟩,⟨2,false⟩],50,20⟩]⟩
example:jr iE=0:=by decide +kernel
example:OZ iE 7 false 40=0/\(ED iE 7 false 40).edge=0/\(ED iE 7 false 40).at_=50:=by decide +kernel
example:VQ iE [⟨1,5,1⟩] 5 ⟨0,false⟩= [⟨1,5,1⟩]:=by decide +kernel
example:abE iE [⟨1,5,1⟩] 5 7 false 40=0:=by decide +kernel
def abG:Ma:=⟨7,false,[⟨0,false⟩,⟨1,false⟩],[⟨290,30⟩],0⟩
example:(VR iE [⟨1,5,1⟩] 5 7 false 40).path=abG.path/\(VR iE [⟨1,5,1⟩] 5 7 false 40).fP.map (fun s=>(s.kL,s.timer))= [(290,30)]/\(VR iE [⟨1,5,1⟩] 5 7 false 40).gap=0:=by decide +kernel
def O1:Rl:=⟨100,100,10,2,50,70,20,0,0⟩
def iH:Tr:=⟨5,400,O1,0,5,-1,100,100,false,-1,false,⟨0,50,false⟩,7,40,false,abG,3,true,[]⟩
example:wY iE iH=true:=by decide +kernel
example:jR iE iH=some 40/\Ju (Jv iE iH 32)=250:=by decide +kernel
example:rC iE iH 250 32=0/\rC iE iH 251 32=141/\rC iE iH 1 33=141:=by decide +kernel
def afs:Tr:=⟨5,400,O1,0,5,-1,100,100,false,-1,false,⟨1,200,false⟩,8,180,false,abG,3,true,[]⟩
example:(zW iE iH 250).pos.edge=1/\(zW iE iH 250).pos.at_=200/\(zW iE iH 250).ref=8/\(zW iE iH 250).past=180/\wY iE afs=true:=by decide +kernel
theorem Ny(t:Tp)(v:Yd)(e:Int)(w:World):Calls aj 76 #[v.cells t,e] w λr w'=>r=.returned (.bool (iW t e))/\w w':=by
 unfold Yd.cells iW;generalize t.edges.length=n1;generalize t.iI.length=n2;generalize t.jW.length=n3;generalize t.routes.length=n4;obtain⟨A1,c1,A2,c2,A3,c3,A4,c4,rs⟩:=v;simp only;have d:Own w _ [_]:=(Own.nil w).alloc 27 #[.slice A1 n1 c1,.slice A2 n2 c2,.slice A3 n3 c3,.slice A4 n4 c4] _ rfl;have H:=d.b0.cell;by_cases j:0<=e;·rw[decide_eq_true j];go_enter func76,ntmps76;go_wp2_with fail;go_ret;exact⟨by simp,d.below⟩
 ·rw[decide_eq_false j];go_enter func76,ntmps76;go_wp2_with fail;go_ret;exact⟨by simp,d.below⟩
abbrev qB (s:St):Value:=.agg #[.int .i64 s.edge,.bool s.rev]
abbrev RH (s:En):Value:=.agg #[.int .i64 s.edge,.int .i64 s.at_]
abbrev blV (b:Bl):Value:=.agg #[.int .i64 b.id,.int .i64 b.edge,.int .i64 b.at_]
theorem nC{d:TypeId}(h:fn.results= #[.cell a d])(tmps:Array Value)(w:World)(j:Nat)(c1:Array Value)(H:TypeDesc)(K:tmps.getD a undef=.pointer j)(J:fK w j d c1)(O:P.underlying d=some H)(k1:(match H with | .struct _ | .array _ _=>true |_=>false)=true)(N:(P.info? d).map (·.size)=some c1.size):(results fn tmps).run P w=.ok c1 w:=by
 have M:tmps[a]?.getD undef=.pointer j:=by simpa using K
 simp[results,h,M,asAddr,run_loadVar_row w j d d c1 (0,0) H J O k1 N]
theorem Jw(s:St)(w:World):Calls aj 184 #[qB s] w λr w'=>r=.returned (RH (kC s))/\w w':=by
 obtain⟨e,r⟩:=s;have d:Own w _ [_,_]:=((Own.nil w).alloc 58 #[e,r] _ rfl).alloc 125 gF _ rfl;have j:=d.b0.cell;cases r;focus(go_enter func184,ntmps184;go_wp2_with fail;replace d:Own w _ [_,_]:=Own.iY w 58 125 #[e,false] #[e,zI])
 rotate_left;focus(go_enter func184,ntmps184;go_wp2_with fail;replace d:Own w _ [_,_]:=Own.iY w 58 125 #[e,true] #[e,(1:Int)])
 all_goals(exact bodyPost_ret (nC results184 _ _ _ _ _ rfl d.b1 underlying125 rfl (by kernel_rfl)) rfl ⟨rfl,d.below⟩)
theorem Jy(s:St)(w:World):Calls aj 181 #[qB s] w λr w'=>r=.returned (RH (nZ s))/\w w':=by obtain⟨e,r⟩:=s;have M:Own w _ [_,_]:=Own.iY w 58 125 #[e,r] gF;have d:Own w _ [_,_]:=Own.iY w 58 125 #[e,.bool !r] gF;have Q:=M.b0.cell;have H:=λW=>Jw ⟨e,!r⟩ W;unfold nZ;generalize U:kC ⟨e,!r⟩=x at H;obtain⟨O,N⟩:=x;simp only[qB,RH]at H ⊢;go_enter func181,ntmps181;go_wp2_with(first|((with_reducible refine(H _).mono ?_);rintro K j⟨rfl,J⟩;replace d:=d.grow J)|((with_reducible refine kY (#[O,N]) d rfl _ _ rfl rfl rfl (by kernel_rfl) rfl ?_ ?_);(·first|(simp[aK];done));intro K j J V;replace d:=j;clear j));exact bodyPost_ret (nC results181 _ _ _ _ _ rfl d.b1 underlying125 rfl (by kernel_rfl)) rfl ⟨rfl,d.below⟩
theorem abH(b:Bl)(id:Int)(A:Addr)(w:World)(hA:w.cell? A=some id)(j:A.block<w.heap.size):Calls aj 88 #[blV b,.pointer (some A)] w λr w'=>r=.returned (.bool (decide (b.id=id)))/\w w':=by obtain⟨b1,b2,b3⟩:=b;have d:Own w _ [_]:=(Own.nil w).alloc 114 #[b1,b2,b3] _ rfl;have J:=d.b0.cell;have H:=(d.below.cell (p:=A) j).trans hA;go_enter func88,ntmps88;go_wp2_with fail;go_ret;refine⟨?_,d.below⟩;by_cases h:b1=id <;> simp[h]
def LU:Go.Shelf.Ren:=⟨fun |6=>87 |n=>n,fun |22=>24 |23=>114 |25=>172 |3=>3 |0=>0 |4=>4 |n=>n,fun |n=>n⟩
theorem Nz:Go.Proofs.SlLaysH0.n6 aj LU where
  mixed:=by rfl
  f6:=⟨ "slices.IndexFunc[[]lineside/api.Bal,lineside/api.Bal]",by decide,Tryz.func87.trans (congrArg some (by rfl))⟩
  t0:=underlying0
  a0:=isAgg0
  z0:=sizeOf0
  v0:=zeroValue0
  t3:=bG
  a3:=isAgg3
  z3:=sizeOf3
  v3:=zeroValue3
  t4:=dL
  a4:=isAgg4
  z4:=sizeOf4
  v4:=zeroValue4
  t22:=underlying24
  a22:=isAgg24
  z22:=sizeOf24
  v22:=zeroValue24
  t25:=underlying172
  a25:=isAgg172
  z25:=sizeOf172
  v25:=zeroValue172
instance:Inhabited Bl:=⟨⟨0,0,0⟩⟩
theorem VT: ∀args w,(callFunc 88 args).run aj w=.ok (.enter 88 args) w:=enters_of func88 (by rfl) (by rfl)
theorem aft(A:Option Addr)(n c:Nat)(bs:List Bl)(id:Int)(p:Addr)(w:World)(j:fE qW w A bs)(hn:bs.length=n)(M:n<=9223372036854775807)(O:w.cell? p=some id)(J:p.block<w.heap.size):Calls aj 87 #[.slice A n c,.func (.func 88) #[] #[.pointer (some p)]] w λe w'=>e=.returned (Lib.idxBy (λ_ y=>decide (y.id=id)) bs default:Int)/\w w':=by
 cases n with
 |zero=>
  have:bs= []:=dh.1 hn;subst this;go_enter func87,ntmps87;go_wp2;go_loopg [5,8] 0 (λ_ _ V wr=>V=.int .i64 0/\w wr);case atStart=>exact⟨rfl,aH _ _⟩
  case round=>obtain⟨rfl,Q⟩:=hrel;go_wp2;go_ret;exact⟨rfl,Q⟩
 |succ n=>
  have K:0<bs.length:=by omega
  obtain⟨b,off,rfl,N,_⟩:=j.get (aI K);have:=AnyQ.slices_IndexFunc Nz 3 isAgg114 sizeOf114 qW.enc qW.len (λy=>decide (y.id=id)) 88 #[.pointer (some p)] VT b off (n+1) c bs w (λW x d=>(abH x id p W ((d.cell (p:=p) J).trans O) (aU J d.size)).mono λ_ _ h=>⟨h.1,gZ d h.2⟩) (by omega) M N ?_;·rw[<-hn,List.take_length]at this;rw[<-hn];exact this
  ·intro U H i u hi;obtain⟨Y,Z,e,_,hc⟩:=j.get (aI H);simp only[aO,cZ]at e;obtain⟨rfl,rfl,-⟩:=e;rw[getElem!_pos bs U H]at hi;exact hc i u hi
theorem RI(q:Bl->Bool): ∀(bs:List Bl) (i:Nat),(∃d,Lib.idxByFrom (λ_ y=>q y) default bs i=((i+d:Nat):Int)/\bs[d]? =bs.find? q/\(bs.find? q).isSome=true)\/(Lib.idxByFrom (λ_ y=>q y) default bs i= -1/\bs.find? q=none)
 | [],i=> .inr ⟨rfl,rfl⟩
 |y::bs,i=>by
  rw[Lib.idxByFrom,List.find?_cons];cases K:q y with
  |false=>simp only[bU,if_false];rcases RI q bs (i+1) with⟨d,H,J,j⟩ |h;(·exact .inl ⟨d+1,by omega,by grind,j⟩);grind
  |true=>exact .inl ⟨0,by simp,by simp,rfl⟩
theorem gU{c:Tmp}{d:TypeId}(h:fn.results= #[.cell a d,.tmp c])(tmps:Array Value)(w:World)(j:Nat)(c1:Array Value)(v:Value)(H:TypeDesc)(Q:tmps.getD a undef=.pointer j)(hc:tmps.getD c undef=v)(J:fK w j d c1)(O:P.underlying d=some H)(k1:(match H with | .struct _ | .array _ _=>true |_=>false)=true)(N:(P.info? d).map (·.size)=some c1.size):(results fn tmps).run P w=.ok (.tuple #[c1,v]) w:=by
 have K:tmps[a]?.getD undef=.pointer j:=by simp_all
 have M:tmps[c]?.getD undef=v:=by simp_all
 simp[results,h,K,M,asAddr,run_loadVar_row w j d d c1 (0,0) H J O k1 N]
theorem afu(t:Tp)(v:Yd)(id:Int)(w:World)(M:fE qW w v.Ab t.jW)(hn:t.jW.length<=9223372036854775807):Calls aj 49 #[v.cells t,id] w λr w'=>r=.returned (.tuple #[blV ((oz t id).getD ⟨0,0,0⟩),.bool (oz t id).isSome])/\w w':=by
 unfold Yd.cells;have N:=RI (λb=>decide (b.id=id)) t.jW 0;have hB:(t.jW.find? λb=>decide (b.id=id))=oz t id:=rfl;rw[hB]at N;generalize oz t id=r at N ⊢;obtain⟨bs,aa⟩:=fD t.jW;rw[<-aa]at M hn N ⊢;generalize hm:bs.length=n3 at hn ⊢;generalize t.edges.length=n1;generalize t.iI.length=n2;generalize t.routes.length=n4;obtain⟨A1,c1,A2,c2,A3,c3,A4,c4,rs⟩:=v;simp only at M ⊢;have d:Own w _ [_,_,_]:=Own.start3 w 27 3 114 #[.slice A1 n1 c1,.slice A2 n2 c2,.slice A3 n3 c3,.slice A4 n4 c4] #[id] gC;have ad:=d.b0.cell;have ac:=d.b1.cell 0;have J:=aft A3 n3 c3 bs id ⟨w.heap.size+1,0,none⟩ _ (M.below d.below) hm hn ac d.b1.lt;unfold Lib.idxBy at J;rcases N with⟨O,U,V,h3⟩ |⟨U,V⟩;focus(obtain⟨b,rfl⟩:=Option.isSome_iff_exists.1 h3;rw[U,aJ]at J;(have hj:O<n3:=by grind);obtain⟨g,off,rfl,Y,l0,l1,l2⟩:=M.bl V;obtain⟨b1,b2,b3⟩:=b;simp only at l0 l1 l2;have k0:=λW (H:w W)=>(H.cell (p:=⟨g,off+O*3,none⟩) Y).trans l0;have k1:=λW (H:w W)=>(H.cell (p:=⟨g,off+O*3+1,none⟩) Y).trans l1;have k2:=λW (H:w W)=>(H.cell (p:=⟨g,off+O*3+2,none⟩) Y).trans l2;go_enter func49,ntmps49;go_wp2_with(first|((with_reducible refine J.mono ?_);rintro Q j⟨rfl,K⟩;replace d:=d.grow K;have Z:=d.b0.cell;have uK:=k0 j d.below;have sK:=k1 j d.below;have O4:=k2 j d.below)|((with_reducible refine jv (#[b1,b2,b3]) d rfl _ _ rfl rfl rfl (by kernel_rfl) rfl ?_ ?_);(·first|(simp[aK];done));intro Q j K Z;replace d:=j;clear j)))
 rotate_left;focus(subst V;rw[U]at J;go_enter func49,ntmps49;go_wp2_with(first|((with_reducible refine J.mono ?_);rintro Q j⟨rfl,K⟩;replace d:=d.grow K)|((with_reducible refine jv gC d rfl _ _ rfl rfl rfl (by kernel_rfl) rfl ?_ ?_);(·first|(simp[aK];done));intro Q j K Z;replace d:=j;clear j)))
 all_goals(exact bodyPost_ret (gU results49 _ _ _ _ _ _ rfl rfl d.b2 underlying114 rfl (by kernel_rfl)) rfl ⟨rfl,d.below⟩)
def LV:Go.Shelf.Ren:=⟨fun |7=>126 |6=>180 |n=>n,fun |22=>23 |24=>127 |4=>4 |0=>0 |3=>3 |n=>n,fun |n=>n⟩
theorem Zn:Go.Proofs.SlLaysQ.n7 aj LV where
  mixed:=by rfl
  f6:=⟨ "slices.Index[[]lineside/api.Joint,lineside/api.Joint]",by decide,Tryz.func180.trans (congrArg some (by rfl))⟩
  f7:=⟨ "slices.Contains[[]lineside/api.Joint,lineside/api.Joint]",by decide,Tryz.func126.trans (congrArg some (by rfl))⟩
  t0:=underlying0
  a0:=isAgg0
  z0:=sizeOf0
  v0:=zeroValue0
  t3:=bG
  a3:=isAgg3
  z3:=sizeOf3
  v3:=zeroValue3
  t4:=dL
  a4:=isAgg4
  z4:=sizeOf4
  v4:=zeroValue4
  t22:=underlying23
  a22:=isAgg23
  z22:=sizeOf23
  v22:=zeroValue23
instance:Inhabited Jt:=⟨⟨⟨0,0⟩,⟨0,0⟩⟩⟩
def VU (x y:Jt):Bool:=(x.a.edge==y.a.edge&&x.a.at_==y.a.at_)&&(x.b.edge==y.b.edge&&x.b.at_==y.b.at_)
theorem alF:EqlAt aj 127 (λx=> .agg (qV.enc x).toArray) VU:=by
 refine⟨λx y w=>?_,GuardAt.agg _ (by simp)⟩;have u3:=bG;have a3:=isAgg3;have z3:=sizeOf3;have uE:=underlying125;have aE:=isAgg125;have zE:=sizeOf125;have K:aj.underlying 127=some (.struct (aj.fieldsOf 127)):=by kernel_rfl
 have M:aj.stoodInHeld 127=false:=by simp
 have aa:aj.stoodInHeld 125=false:=by simp
 simp only[qV];rw[run_eql_struct,show(10000:Nat)=9998+1+1 from rfl,run_equalIn_agg w (9998+1) 127 _ _ K M];simp only[Program.fieldsOf,underlying127];go_simp;obtain⟨⟨N,O⟩,⟨Q,U⟩⟩:=x;obtain⟨⟨V,Y⟩,⟨Z,y4⟩⟩:=y;unfold VU;by_cases d:N=V <;> by_cases j:O=Y <;> by_cases H:Q=Z <;> by_cases J:U=y4 <;> simp[d,j,H,J]
theorem aiR(A:Option Addr)(c:Nat)(x:Jt)(w:World):Calls aj 180 #[.slice A 0 c,.agg (qV.enc x).toArray] w λe w'=>e=.returned (-1:Int)/\w w':=by
 have d:Own w _ [_]:=(Own.nil w).alloc 127 (qV.enc x).toArray _ rfl;go_enter func180,ntmps180;go_wp2;go_loopg [5,8] 0 (λ_ _ j wr=>j=.int .i64 0/\w wr);case atStart=>exact⟨rfl,d.below⟩
 case round=>obtain⟨rfl,H⟩:=hrel;go_wp2;go_ret;simp_all
theorem Yh(A:Option Addr)(n c:Nat)(d:List Jt)(x:Jt)(w:World)(J:fE qV w A d)(hn:d.length=n)(M:n<=9223372036854775807):Calls aj 126 #[.slice A n c,.agg (qV.enc x).toArray] w λe w'=>e=.returned (.bool (d.any λy=>VU x y))/\w w':=by
 cases n with
 |zero=>have:d= []:=dh.1 hn;subst this;have j:Own w _ [_]:=(Own.nil w).alloc 127 (qV.enc x).toArray _ rfl;have V:=j.b0.cell;have H:=λW=>aiR A c x W;simp only[qV] at*;go_enter func126,ntmps126;go_wp2_with(first|((with_reducible refine(H _).mono ?_);rintro e Z⟨rfl,N⟩;replace j:=j.grow N));go_ret;exact⟨rfl,j.below⟩
 |succ n=>
  have H:0<d.length:=by omega
  obtain⟨b,off,rfl,U,_⟩:=J.get (aI H);have:=AnyQ.slices_Contains Zn 4 isAgg127 sizeOf127 qV.enc qV.len VU alF b off (n+1) c d x w (by omega) M ?_;·rw[<-hn,List.take_length]at this;rw[<-hn];exact this
  ·intro O K i u hi;obtain⟨Q,Y,e,_,hc⟩:=J.get (aI K);simp only[aO,cZ]at e;obtain⟨rfl,rfl,-⟩:=e;rw[getElem!_pos d O K]at hi;exact hc i u hi
theorem afv(x y:Jt):VU x y=decide (x=y):=by obtain⟨⟨K,M⟩,⟨N,O⟩⟩:=x;obtain⟨⟨Q,U⟩,⟨V,Y⟩⟩:=y;unfold VU;by_cases d:K=Q <;> by_cases j:M=U <;> by_cases H:N=V <;> by_cases J:O=Y <;> simp[d,j,H,J]
theorem aiS(d:List Jt)(x:Jt):(d.any λy=>VU x y)=decide (x∈d):=by rw[Bool.eq_iff_iff];simp[afv]
theorem NC(t:Tp)(v:Yd)(a b:En)(w:World)(O:fE qV w v.Aj t.iI)(hn:t.iI.length<=9223372036854775807):Calls aj 75 #[v.cells t,RH a,RH b] w λr w'=>r=.returned (.bool (zU t.iI a b))/\w w':=by
 unfold Yd.cells zU;have j:=λW (K:w W)=>Yh v.Aj t.iI.length v.cj t.iI ⟨a,b⟩ W (O.below K) rfl hn;have J:=λW (K:w W)=>Yh v.Aj t.iI.length v.cj t.iI ⟨b,a⟩ W (O.below K) rfl hn;simp only[aiS]at j J;generalize decide (⟨a,b⟩∈t.iI)=r1 at j ⊢;generalize decide (⟨b,a⟩∈t.iI)=r2 at J ⊢;generalize t.iI.length=n2 at*;generalize t.edges.length=n1;generalize t.jW.length=n3;generalize t.routes.length=n4;obtain⟨A1,c1,A2,c2,A3,c3,A4,c4,rs⟩:=v;obtain⟨Q,a2⟩:=a;obtain⟨b1,b2⟩:=b;simp only[qV]at j J ⊢;have d:Own w _ [_,_,_]:=Own.start3 w 27 125 125 #[.slice A1 n1 c1,.slice A2 n2 c2,.slice A3 n3 c3,.slice A4 n4 c4] #[Q,a2] #[b1,b2];have aa:=d.b0.cell;have uU:=d.b1.cell;have Z:=d.b2.cell;cases r1;·go_enter func75,ntmps75;go_wp2_with(first|((with_reducible refine(j _ d.below).mono ?_);rintro N M⟨rfl,H⟩;replace d:=d.grow H;have U:=d.b0.cell;have Y:=d.b1.cell;have V:=d.b2.cell)|((with_reducible refine(J _ d.below).mono ?_);rintro N M⟨rfl,H⟩;replace d:=d.grow H));go_ret;exact⟨by simp,d.below⟩
 ·go_enter func75,ntmps75;go_wp2_with(first|((with_reducible refine(j _ d.below).mono ?_);rintro N M⟨rfl,H⟩;replace d:=d.grow H;have U:=d.b0.cell;have Y:=d.b1.cell;have V:=d.b2.cell));go_ret;exact⟨by simp,d.below⟩
theorem afw(t:Tp)(v:Yd)(a b:St)(w:World)(hR:fE qV w v.Aj t.iI)(hn:t.iI.length<=9223372036854775807):Calls aj 186 #[v.cells t,qB a,qB b] w λr w'=>r=.returned (.bool (OY t a b))/\w w':=by
 have U:=λW (hW:w W)=>NC t v (nZ a) (kC b) W (hR.below hW) hn;have Z:=λW=>Jy a W;have Y:=λW=>Jw b W;unfold OY;unfold Yd.cells at U ⊢;generalize zU t.iI (nZ a) (kC b)=r at U ⊢;generalize nZ a=la at*;generalize kC b=eb at*;generalize t.iI.length=n2 at*;generalize t.edges.length=n1 at*;generalize t.jW.length=n3 at*;generalize t.routes.length=n4 at*;obtain⟨A1,c1,A2,c2,A3,c3,A4,c4,rs⟩:=v;obtain⟨V,a2⟩:=a;obtain⟨b1,b2⟩:=b;obtain⟨l1,l2⟩:=la;obtain⟨e1,e2⟩:=eb;simp only[qB,RH]at U Z Y ⊢;go_enter func186,ntmps186;go_wp2_with fail;have j:Own w _ [_,_,_]:=Own.start3 w 27 58 58 #[.slice A1 n1 c1,.slice A2 n2 c2,.slice A3 n3 c3,.slice A4 n4 c4] #[V,a2] #[b1,b2];generalize (((w.alloc (.cells #[.slice A1 n1 c1,.slice A2 n2 c2,.slice A3 n3 c3,.slice A4 n4 c4] 27)).alloc (.cells #[V,a2] 58)).alloc (.cells #[b1,b2] 58))=W0 at j ⊢;apply iM;case lX=>intro u;simp only[bV,aq9,aP,ay,aA,aB,aT,aJ];rfl
 case hm=>kernel_rfl
 case hB=>kernel_rfl
 case hap=>kernel_rfl
 iterate 4(first|(apply Lex.is;·(intro u w' d H;simp[fH,aC,Is]at H;refine fF (by first |rfl) ?_;intro M J;have N:=(j.grow d).b0.cell;have O:=(j.grow d).b1.cell;have Q:=(j.grow d).b2.cell;go_wp2_with((with_reducible refine(Z _).mono ?_);rintro e w3⟨rfl,K⟩);(try simp only[H]at J);refine J _ _ ?_ rfl;first|exact K))|(apply Lex.is;·(intro u w' d H;simp[fH,aC]at H;refine fF (by first |rfl) ?_;intro M J;have N:=(j.grow d).b0.cell;have O:=(j.grow d).b1.cell;have Q:=(j.grow d).b2.cell;go_wp2_with(fail);refine J _ _ ?_ rfl;first|exact aH _ _)))
 apply Lex.is;·(intro u w' d H;simp[fH,aC,Is]at H;refine fF (by first |rfl) ?_;intro M J;have N:=(j.grow d).b0.cell;have O:=(j.grow d).b1.cell;have Q:=(j.grow d).b2.cell;go_wp2_with((with_reducible refine(Y _).mono ?_);rintro e w3⟨rfl,K⟩);(try simp only[H]at J);refine J _ _ ?_ rfl;first|exact K)
 apply Lex.is;·(intro u w' d H;simp[fH,aC,Is]at H;refine fF (by first |rfl) ?_;intro M J;have N:=(j.grow d).b0.cell;have O:=(j.grow d).b1.cell;have Q:=(j.grow d).b2.cell;go_wp2_with((with_reducible refine(U _ (j.grow d).below).mono ?_);rintro e w3⟨rfl,K⟩);(try simp only[H]at J);refine J _ _ ?_ rfl;first|exact K)
 apply Lex.is;·(intro u w' d H;simp[fH,aC,Is]at H;refine fF (by first |rfl) ?_;intro M J;have N:=(j.grow d).b0.cell;have O:=(j.grow d).b1.cell;have Q:=(j.grow d).b2.cell;go_wp2_with(fail);(try simp only[H]at J);refine J _ _ ?_ rfl;first|exact aH _ _)
 apply Lex.nil;intro u w' d H;simp only[gQ]at H;have aa:=H 6 _ rfl;simp only[Is]at aa;go_wp2_with fail;go_ret;exact⟨congrArg Ending.returned aa,gZ j.below d⟩
theorem afx(t:Tp)(v:Yd)(x:En)(w:World):Calls aj 74 #[v.cells t,RH x] w λr w'=>r=.returned (.bool (Cj t x))/\w w':=by
 have j:=λW=>Ny t v x.edge W;unfold Cj;unfold Yd.cells at j ⊢;generalize iW t x.edge=r at j ⊢;generalize t.iI.length=n2 at*;generalize t.edges.length=n1 at*;generalize t.jW.length=n3 at*;generalize t.routes.length=n4 at*;obtain⟨A1,c1,A2,c2,A3,c3,A4,c4,rs⟩:=v;obtain⟨e,a⟩:=x;simp only[RH]at j ⊢;have d:Own w _ [_,_]:=Own.iY w 27 125 #[.slice A1 n1 c1,.slice A2 n2 c2,.slice A3 n3 c3,.slice A4 n4 c4] #[e,a];have O:=d.b0.cell;have Q:=d.b1.cell;by_cases J:a=0;·subst J;cases r;all_goals go_enter func74,ntmps74;go_wp2_with(first|((with_reducible refine(j _).mono ?_);rintro e K⟨rfl,H⟩;replace d:=d.grow H;have N:=d.b1.cell));go_ret;exact⟨by simp,d.below⟩
 ·cases r;all_goals go_enter func74,ntmps74;go_wp2_with(first|((with_reducible refine(j _).mono ?_);rintro e K⟨rfl,H⟩;replace d:=d.grow H;have N:=d.b1.cell));go_ret;refine⟨?_,d.below⟩;by_cases M:a=1 <;> simp[J,M]
theorem O5(t:Tp): ∀p:List St,Iw t p=true<-> ∀d a b,p[d]? =some a->p[d+1]? =some b->OY t a b=true
 | []=>by simp[Iw]
 | [x]=>by simp only[Iw,true_iff];simp
 |x::y::p=>by
  rw[Iw,bM,O5 t (y::p)];constructor;·grind
  ·intro h;exact⟨h 0 x y rfl rfl,λd a b j H=>h (d+1) a b (by grind) (by grind)⟩
theorem aiT{t:Tp}{p:List St}{d:Nat}{a b:St}(j:p[d]? =some a)(H:p[d+1]? =some b)(h:OY t a b=false):Iw t p=false:=by cases J:Iw t p with|false=>rfl|true=>have:=(O5 t p).1 J d a b j H;rw[h]at this;cases this
end Go.Proofs.YthnmgjngniciaaaGreatDoor
